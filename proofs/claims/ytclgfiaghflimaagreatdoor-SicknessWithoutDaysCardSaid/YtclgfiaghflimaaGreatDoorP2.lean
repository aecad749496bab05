/- Texts that the proof stands on: laws of the program logic, the Lean functions of the Go functions, and that the Go functions compute them. -/
import Derived.Test.YtclgfiaghflimaaGreatDoorP1
import Derived.Great.FillDense
import Derived.Great.BuildSlice
set_option linter.unusedVariables false
set_option linter.unusedSimpArgs false
set_option maxRecDepth 100000
namespace Go.SX
open Go Go.PL
section
variable {P : Program} {U : Uni} {E : Env} {Z : Nat -> Prop} {π : Nat -> Value} {σ : U.St} {ρ : Nat -> Value} {w : World}
variable {d : Option Tmp} {ty : TypeId} {ps : String} {af : Array Edge} {g : Option (Nat × Bool)} {x y z : Operand} {m0 m : Nat} {a b v : U.AV} {ws : List (Nat × U.MC)} {fr : Nat}
theorem a8l {c c' : U.C} (h : eqC c c' = true) : c = c' := by
  unfold eqC at h
  split at h
  . assumption
  . cases h
theorem Own.elem {n : Nat} {e : TypeId} {css : List (Raw n)} {u : Value} (hO : Own 0 e n Subtype.val w u css) {i : Int} {r : Raw n} (hi : m7 css i = some r) :
    ∃ ad cap, u = .slice (some ad) css.length cap /\ (0 <= i /\ i < (css.length : Int)) /\ CA w (ad.add (i.toNat * n)) r.1 := by
  obtain ⟨h0, h1, h2⟩ := a8a hi
  obtain ⟨ad, cap, hv, hc, hm⟩ := hO.shape
  cases ad with
  | none =>
    rcases hO with ⟨_, hl⟩ | ⟨g, o, cap', cur, hv', _⟩
    . subst hl; simp at h2
    . rw [hv] at hv'; simp at hv'
  | some ad => exact ⟨ad, cap, hv, ⟨h0, h1⟩, CA.elem n (fun r => r.2.1) (hO.ca hv) hi⟩
theorem b0r {α β : Type} {p : α -> β -> Prop} {l : List α} {r : List β} (h : i8 p l r) {i : Int} {y : β} (hy : m7 r i = some y) : ∃ x, m7 l i = some x /\ p x y := by
  obtain ⟨h0, h1, h2⟩ := a8a hy
  obtain ⟨x, hx, hp⟩ := h.getR h2
  exact ⟨x, by unfold m7; rw [if_pos h0]; exact hx, hp⟩
theorem d5o (hU : UOK U) {X : Cx} {c : U.C} {y : U.T c} {cs : List Value} (hr : (Rp c).rep X.G X.w cs y) {ad : Addr} (hc : CA X.w ad cs) : Loc X (inj c y) ad := by
  obtain ⟨u, hu, hv⟩ := c6l hU hr
  exact ⟨u, hv, by rw [hu]; exact hc⟩
theorem c83 {c : U.C} {y : U.T c} {p : List PE} {b : U.AV} (hU : UOK U) (hn : nav (inj c y) p = some b) : p = [] \/ ∃ x, (inj c y) = (.val c x : U.AV) := by
  cases ha : U.ag c with
  | true => right; exact ⟨y, by simp [inj, ha]⟩
  | false =>
    left
    cases p with
    | nil => rfl
    | cons q p =>
      have h2 := (a1q hU c y).2.1
      rw [ha] at h2
      cases hi : inj c y <;> rw [hi] at hn h2 <;> first
        | (cases hn; done)
        | (cases h2; done)
        | (cases q <;> cases hn)
theorem d1b (hU : UOK U) (h : Rel E Z π σ ρ w) {id : Nat} {c : U.C} {p : List PE} {k : U.AV -> U.Q} (hc : p = [] \/ b0o c (σ.mem id) p = true) (hev : (d6b (σ.mem id) p k).Ev σ m0 m v ws) :
    ∃ b, (k b).Ev σ m0 m v ws /\ ∀ ad, b34 (π id) = some ad -> Loc (cx Z π σ w) b (ad.add (a5n c p)) := by
  have hm := h.mem id
  cases hmem : σ.mem id <;> rw [hmem] at hev hm hc <;> try exact hev.elim
  case box t a0 =>
    have gen : (match nav a0 p with | some b => k b | none => .fail : U.Q).Ev σ m0 m v ws -> (p = [] \/ m8 a0 = some c) -> ∃ b, (k b).Ev σ m0 m v ws /\ ∀ ad, b34 (π id) = some ad -> Loc (cx Z π σ w) b (ad.add (a5n c p)) := by
      intro hev hc
      cases hn : nav a0 p with
      | none => rw [hn] at hev; exact hev.elim
      | some b =>
        rw [hn] at hev
        refine ⟨b, hev, fun ad had => ?_⟩
        obtain ⟨blk, u, hv, hM, ha⟩ := hm
        rw [hv] at had
        cases had
        exact b7h hU p a0 c _ b ⟨u, ha, hM.ca⟩ hc hn
    have gen2 : ∀ a0' : U.AV, a0 = a0' -> d5i c (.box t a0') = true -> m8 a0' = some c := by
      intro a0' _ hc
      cases a0' <;> try (cases hc; done)
      all_goals
        have := a8l hc
        subst this
        rfl
    cases p with
    | nil => exact gen (by cases a0 <;> exact hev) (.inl rfl)
    | cons q p =>
      replace hc : b0o c (.box t a0) (q :: p) = true := hc.resolve_left (fun h => by cases h)
      cases q with
      | f n => exact gen (by cases a0 <;> exact hev) (.inr (gen2 a0 rfl (by cases a0 <;> exact hc)))
      | i n =>
        have plain : (match nav a0 (.i n :: p) with | some b => k b | none => .fail : U.Q).Ev σ m0 m v ws -> ∃ b, (k b).Ev σ m0 m v ws /\ ∀ ad, b34 (π id) = some ad -> Loc (cx Z π σ w) b (ad.add (a5n c (.i n :: p))) := by
          intro hev
          have : nav a0 (.i n :: p) = none := by cases a0 <;> rfl
          rw [this] at hev; exact hev.elim
        cases a0 <;> try exact plain hev
        rename_i ca x
        have hev : (match U.isA ca with
          | true => Q.opt (m7 (U.al ca x) n) fun y => (match nav (inj (U.ae ca) y) p with | some b => k b | none => .fail)
          | false => (.fail : U.Q)).Ev σ m0 m v ws := hev
        have hc : (U.isA ca && eqC c (U.ae ca)) = true := hc
        simp only [Bool.and_eq_true] at hc
        rw [hc.1] at hev
        obtain ⟨y, hy, hev⟩ := hev
        have hcc := a8l hc.2
        subst hcc
        dsimp only at hev
        cases hn : nav (inj (U.ae ca) y) p with
        | none => rw [hn] at hev; exact hev.elim
        | some b =>
          rw [hn] at hev
          refine ⟨b, hev, fun ad had => ?_⟩
          obtain ⟨blk, u, hv, hM, ha⟩ := hm
          rw [hv] at had
          cases had
          have h1 := d48 hU hc.1 ha hM.ca hy
          have := b7h hU p (inj (U.ae ca) y) (U.ae ca) _ b h1 ((c83 hU hn).imp_right fun ⟨x, hx⟩ => by rw [hx]; rfl) hn
          rw [Addr.add_add] at this
          exact this
  case sl e c' l =>
    cases p with
    | nil => exact hev.elim
    | cons q p =>
      cases q with
      | f n => exact hev.elim
      | i n =>
        have hc : eqC c c' = true := by
          rcases hc with hc | hc
          . cases hc
          . exact hc
        have := a8l hc
        subst this
        obtain ⟨y, hy, hev⟩ := hev
        dsimp only at hev
        cases hn : nav (inj c y) p with
        | none => rw [hn] at hev; exact hev.elim
        | some b =>
          rw [hn] at hev
          refine ⟨b, hev, fun ad had => ?_⟩
          obtain ⟨css, hO, hr⟩ := hm
          obtain ⟨r, hr1, hrep⟩ := b0r hr hy
          obtain ⟨ad', cap, hv, _, hca⟩ := Own.elem hO hr1
          rw [hv] at had
          cases had
          have := b7h hU p (inj c y) c _ b (d5o hU hrep hca) ((c83 hU hn).imp_right fun ⟨x, hx⟩ => by rw [hx]; rfl) hn
          rw [Addr.add_add] at this
          exact this
theorem b3i (hU : UOK U) (h : Rel E Z π σ ρ w) {t : TypeId} {ad : Addr} (hx : ev ρ x = .pointer (some ad)) (hf : a84 P t b = true) (hL : Loc (cx Z π σ w) b ad) : a30 P E σ ρ w ⟨d, .load t x, ty, ps, af, g⟩ b [] := by
  obtain ⟨u, hu, hr⟩ := c2g hU hf hL
  exact d7 h (a3e hx hr) (AVR.of1 hu)
theorem d21 {t : TypeId} (h : d5p P t = true) : ∃ n, n ≠ 0 /\ (sizeOf t).run P w = .ok n w := by
  unfold d5p at h
  split at h
  . rename_i i hi
    refine ⟨i.size, fun h0 => ?_, by simp [sizeOf, typeInfo, program, Sem.run, hi, pure, bind, Sem.bind]⟩
    rw [h0] at h; cases h
  . cases h
theorem b09 {s : TypeId} {fs : Array Field} {f : Nat} {fl : Field} {ad : Addr} (hs : P.underlying s = some (.struct fs)) (hf : fs[f]? = some fl) (hp : d5p P fl.type = true) :
    (Instr.fieldAt s (.pointer (some ad)) f).run P w = .ok (.pointer (some (ad.add fl.offset))) w := by
  obtain ⟨n, h0, hn⟩ := d21 (w := w) hp
  simp [Instr.fieldAt, a5p hs, hf, Instr.sureAddr, fieldPlace, hn, h0]
theorem c4f (hU : UOK U) (h : Rel E Z π σ ρ w) {s : TypeId} {f : Nat} (hx : AVR (cx Z π σ w) a (ev ρ x)) (hev : (c75 P s f a).Ev σ m0 m v ws) : a30 P E σ ρ w ⟨d, .fieldAddr s x f, ty, ps, af, g⟩ v ws := by
  unfold c75 at hev
  split at hev
  case h_2 => exact hev.elim
  rename_i fs hs
  split at hev
  case h_2 => exact hev.elim
  rename_i fl hf
  split at hev
  . rename_i c yv
    split at hev
    . rename_i b hc hb
      obtain ⟨hm1, rfl, rfl⟩ := hev
      simp only [Bool.and_eq_true] at hc
      have ho := Nat.eq_of_beq_eq_true hc.1
      obtain ⟨ad, cs, hv, hblk, hg, hca, hr⟩ := hx
      obtain ⟨h1, h2⟩ := b4u hU hr hb
      refine d7 h (q8 hv (b09 hs hf hc.2)) ⟨_, _, rfl, ?_, ?_, CA.sub hca (off c f) (asz b) |> fun q => ?_, h1⟩
      . rw [a1x]; exact hblk
      . rw [a1x]; exact hg
      . rw [<- ho]; exact q
    . exact hev.elim
  . rename_i id
    simp only [Q.Ev] at hev
    split at hev
    . rename_i t a0 hmem
      split at hev
      case h_2 => exact hev.elim
      rename_i c hca
      split at hev
      . rename_i hc
        obtain ⟨hm1, rfl, rfl⟩ := hev
        simp only [Bool.and_eq_true, decide_eq_true_eq] at hc
        have ho := Nat.eq_of_beq_eq_true hc.1.1
        have hm := h.mem id
        rw [hmem] at hm
        obtain ⟨blk, u, hv, hM, ha⟩ := hm
        refine d7 h (q8 (hx.2.1.trans hv) (b09 hs hf hc.1.2)) ⟨hx.1, ⟨blk, 0, none⟩, ?_, ?_⟩
        . show b34 (π id) = _; rw [hv]; rfl
        . rw [<- ho]
          simp only [a5n]
          have : U.lay c ≠ [] := fun e => by rw [e] at hc; simp at hc
          cases hl : (U.lay c)[f]? with
          | none => simp
          | some o => cases o <;> simp [a5n]
      . exact hev.elim
    . exact hev.elim
  . exact hev.elim
theorem b4f : ∀ (p : List PE) (c c' : U.C) (f : Nat), c8f c p = some c' -> f < (U.lay c').length -> a5n c (p ++ [.f f]) = a5n c p + off c' f
  | [], c, c', f, h, hf => by
    cases h
    simp only [List.nil_append, a5n]
    cases hl : (U.lay c)[f]? with
    | none => simp
    | some o => cases o <;> simp [a5n]
  | .f n :: p, c, c', f, h, hf => by
    simp only [c8f] at h
    split at h
    . rename_i c1 hl
      have := b4f p c1 c' f h hf
      simp only [List.cons_append, a5n, hl]
      rw [this, Nat.add_assoc]
    . cases h
  | .i n :: p, c, c', f, h, hf => by cases h
theorem c1g (h : Rel E Z π σ ρ w) {s : TypeId} {f id : Nat} {c : U.C} {p : List PE} (hx : AVR (cx Z π σ w) (.fref id c p) (ev ρ x)) (hev : (c0y P s f id c p).Ev σ m0 m v ws) : a30 P E σ ρ w ⟨d, .fieldAddr s x f, ty, ps, af, g⟩ v ws := by
  unfold c0y at hev
  split at hev
  case h_2 => exact hev.elim
  rename_i fs hs
  split at hev
  case h_2 => exact hev.elim
  rename_i fl hf
  obtain ⟨hu, ad, had, hv⟩ := hx
  have key : ∀ c' : U.C, a5n c (p ++ [.f f]) = a5n c p + off c' f -> Nat.beq (off c' f) fl.offset = true -> d5p P fl.type = true -> a30 P E σ ρ w ⟨d, .fieldAddr s x f, ty, ps, af, g⟩ (.fref id c (p ++ [.f f])) [] := by
    intro c' h1 h2 h3
    refine d7 h (q8 hv (b09 hs hf h3)) ⟨hu, ad, had, ?_⟩
    rw [h1, <- Nat.eq_of_beq_eq_true h2, Addr.add_add]
  split at hev
  . rename_i c' hc'
    split at hev
    . rename_i hc
      obtain ⟨hm1, rfl, rfl⟩ := hev
      simp only [Bool.and_eq_true, decide_eq_true_eq] at hc
      refine key c' ?_ hc.1.1 hc.1.2
      split at hc'
      . rename_i n q
        have := b4f q c c' f hc' hc.2
        simp only [List.cons_append, a5n]
        rw [this, Nat.add_assoc]
      . exact b4f p c c' f hc' hc.2
    . exact hev.elim
  . exact hev.elim
theorem d0m {t : TypeId} {cs : List Value} {o : Nat} (hf : a84 P t b = true) (hr : c9 Rp (cx Z π σ w).G w b ((cs.drop o).take (asz b))) (hl : o + asz b <= cs.length) :
    ∃ u, a0c (cx Z π σ w) b u /\ (part t cs.toArray o).run P w = .ok u w := by
  unfold a84 at hf
  simp only [Bool.and_eq_true] at hf
  obtain ⟨⟨hp, hag⟩, hs⟩ := hf
  have hr0 := hr
  obtain ⟨u, hu, hur⟩ := a0e (X := cx Z π σ w) hr
  refine ⟨u, hur, ?_⟩
  cases hv : a2h b with
  | true =>
    rw [hv] at hag
    cases b <;> try (cases hv; done)
    case st => exact hr0.elim
    rename_i c xv
    obtain ⟨cs', hu', hc'⟩ := hur
    subst hu'
    have e : cs' = (cs.drop o).take (U.n c) := by simpa [Value.cells, asz] using hu
    simp only [part, Sem.run_bind, a8e hag, Result.andThen_ok, if_true, a8b hs, asz]
    rw [e]
    simp only [Sem.run_pure, Result.ok.injEq, Value.agg.injEq, and_true]
    apply Array.ext'
    simp [List.extract_eq_take_drop]
  | false =>
    rw [hv] at hag
    have h1 : asz b = 1 := by cases b <;> first | rfl | cases hv
    rw [h1] at hu hl
    have hlt : o < cs.length := by omega
    have hcu : u.cells.toList = [cs[o]] := by rw [hu, List.drop_eq_getElem_cons hlt, List.take_succ_cons, List.take_zero]
    have huc : u = cs[o] := by
      cases b <;> first
        | (cases hp; done)
        | (cases hv; done)
        | (have hur : u = _ := hur; subst hur; simpa [Value.cells] using hcu)
        | (have := a6i hur; rw [this] at hcu; simpa using hcu)
        | (obtain ⟨ad, cs', hur, _⟩ := hur; subst hur; simpa [Value.cells] using hcu)
        | exact hr0.elim
    simp [part, a8e hag, hlt, huc]
theorem c71 {X : Cx} {t : TypeId} {cs : List Value} {o : Nat} {u : Value} (hf : a84 P t b = true) (hp : m4 b = true) (hr : a7w X b u) (hu : (cs.drop o).take (asz b) = u.cells.toList) (hl : o + asz b <= cs.length) : (part t cs.toArray o).run P w = .ok u w := by
  unfold a84 at hf
  simp only [Bool.and_eq_true] at hf
  obtain ⟨⟨hpl, hag⟩, hs⟩ := hf
  cases hv : a2h b with
  | true =>
    rw [hv] at hag
    cases b <;> try (cases hv; done)
    case st => cases hp
    rename_i c xv
    obtain ⟨cs', hu', hc'⟩ := hr
    subst hu'
    have e : cs' = (cs.drop o).take (U.n c) := by simpa [Value.cells, asz] using hu.symm
    simp only [part, Sem.run_bind, a8e hag, Result.andThen_ok, if_true, a8b hs, asz]
    rw [e]
    simp only [Sem.run_pure, Result.ok.injEq, Value.agg.injEq, and_true]
    apply Array.ext'
    simp [List.extract_eq_take_drop]
  | false =>
    rw [hv] at hag
    have h1 : asz b = 1 := by cases b <;> first | rfl | cases hv
    rw [h1] at hu hl
    have hlt : o < cs.length := by omega
    have hcu : u.cells.toList = [cs[o]] := by rw [<- hu, List.drop_eq_getElem_cons hlt, List.take_succ_cons, List.take_zero]
    have huc : u = cs[o] := by
      cases b <;> first
        | (cases hp; done)
        | (cases hv; done)
        | (have hr : u = _ := hr; subst hr; simpa [Value.cells] using hcu)
        | (have := a6i hr; rw [this] at hcu; simpa using hcu)
        | (obtain ⟨ad, cs, hr, _⟩ := hr; subst hr; simpa [Value.cells] using hcu)
        | (obtain ⟨_, _, h1⟩ := hr; rw [b5m h1] at hcu; simpa using hcu)
    simp [part, a8e hag, hlt, huc]
theorem c4i (hU : UOK U) (h : Rel E Z π σ ρ w) {s : TypeId} {f : Nat} (hx : AVR (cx Z π σ w) a (ev ρ x)) (hev : (d46 P s f a).Ev σ m0 m v ws) : a30 P E σ ρ w ⟨d, .field s x f, ty, ps, af, g⟩ v ws := by
  unfold d46 at hev
  split at hev
  case h_2 => exact hev.elim
  rename_i fs hs
  split at hev
  case h_2 => exact hev.elim
  rename_i fl hf
  split at hev
  . rename_i c yv
    split at hev
    case h_2 => exact hev.elim
    rename_i b hb
    split at hev
    case h_2 => exact hev.elim
    rename_i hc
    obtain ⟨hm1, rfl, rfl⟩ := hev
    simp only [Bool.and_eq_true] at hc
    have ho := Nat.eq_of_beq_eq_true hc.1
    obtain ⟨cs, hv, hr⟩ := hx
    obtain ⟨h1, h2⟩ := b4u hU hr hb
    obtain ⟨u, hur, hrun⟩ := d0m (P := P) (π := π) (σ := σ) hc.2 h1 h2
    refine d7 h (c91 hv (u := u) ?_) (AVR.of1 hur)
    simp [Instr.field, a5p hs, hf, asAgg, <- ho, hrun]
  . rename_i c as
    split at hev
    case h_2 => exact hev.elim
    rename_i b hb
    split at hev
    case h_2 => exact hev.elim
    rename_i hc
    obtain ⟨hm1, rfl, rfl⟩ := hev
    simp only [Bool.and_eq_true] at hc
    have ho := Nat.eq_of_beq_eq_true hc.1.1
    obtain ⟨css, hv, hlay, hp, hr⟩ := hx
    obtain ⟨u, h1, h2, h3, h4⟩ := b8g hr hp hb
    rw [hlay] at h2 h3
    have hrun := c71 (P := P) (w := w) hc.1.2 h4 h1 h2 h3
    refine d7 h (c91 hv (u := u) ?_) (AVR.of1 (.of0 h1))
    show (Instr.field s (.agg css.flatten.toArray) f).run P w = _
    have e : off c f = fl.offset := ho
    simp only [off] at e
    rw [e] at hrun
    simp [Instr.field, a5p hs, hf, asAgg, hrun]
  . exact hev.elim
end
end Go.SX
namespace Go.SX
open Go Go.PL
section
variable {P : Program} {U : Uni} {E : Env} {Z : Nat -> Prop} {π : Nat -> Value} {σ : U.St} {ρ : Nat -> Value} {w : World}
variable {d : Option Tmp} {ty : TypeId} {ps : String} {af : Array Edge} {g : Option (Nat × Bool)} {x y z : Operand} {m0 m : Nat} {a b v : U.AV} {ws : List (Nat × U.MC)} {fr : Nat}
theorem c6s {c : U.C} {l : List (U.T c)} {G : Nat -> Prop} {w : World} {u : Value} (h : d5 (Rp c) G w u l) : u.oneCell' = true := by
  obtain ⟨a, cap, hs, _⟩ := d5.shape h
  subst hs; rfl
theorem c2l {G : Nat -> Prop} {w : World} {p : U.AV -> List Value -> Prop} (hp : ∀ a cs, p a cs -> ∀ u ∈ cs, u.oneCell' = true) : ∀ {as : List U.AV} {css : List (List Value)}, i8 p as css -> ∀ u ∈ css.flatten, u.oneCell' = true
  | [], [], _, u, hu => by simp at hu
  | a :: as, c :: css, h, u, hu => by
    simp only [List.flatten_cons, List.mem_append] at hu
    rcases hu with hu | hu
    . exact hp a c h.1 u hu
    . exact c2l (G := G) (w := w) hp h.2 u hu
  | [], _ :: _, hh, _, _ => hh.elim
  | _ :: _, [], hh, _, _ => hh.elim
theorem d2w {G : Nat -> Prop} {w : World} : ∀ (k : Nat) (c : U.C) (cs : List Value) (x : U.T c), (Rd k c).rep G w cs x -> ∀ u ∈ cs, u.oneCell' = true
  | 0, _, _, _, h => False.elim h
  | k + 1, c, cs, x, ⟨hl, css, hc, h⟩ => by
    subst hc
    refine c2l (G := G) (w := w) (fun a cs ha u hu => ?_) h
    cases a <;> simp only [c9] at ha <;> first
      | (subst ha; simp at hu; subst hu; rfl)
      | exact d2w k _ _ _ ha u hu
      | (obtain ⟨v, hv, hr⟩ := ha; subst hv; simp at hu; subst hu
         obtain ⟨a, cap, hs, _⟩ := d5.shape hr; subst hs; rfl)
      | (obtain ⟨ad, cs', hc, _⟩ := ha; subst hc; simp at hu; subst hu; rfl)
      | exact ha.elim
theorem d2v {G : Nat -> Prop} {w : World} {c : U.C} {cs : List Value} {x : U.T c} (h : (Rp c).rep G w cs x) : ∀ u ∈ cs, u.oneCell' = true := by
  obtain ⟨k, h⟩ := h; exact d2w k c cs x h
def c0l {G : Nat -> Prop} {w : World} {c : U.C} {cs : List Value} {x : U.T c} (h : (Rp c).rep G w cs x) : Raw (U.n c) := ⟨cs, (Rp c).len h, d2v h⟩
abbrev RAW (n : Nat) : TyR (Raw n) := TyR.flat n Subtype.val (fun r => r.2.1)
theorem c7f {G : Nat -> Prop} {w : World} {c : U.C} {u : Value} {l : List (U.T c)} (h : d5 (Rp c) G w u l) : ∃ css : List (Raw (U.n c)), d5 (RAW (U.n c)) G w u css /\ i8 (fun (r : Raw (U.n c)) x => (Rp c).rep G w r.1 x) css l := by
  rcases h with ⟨hv, hl⟩ | ⟨a, cap, hv, hc, hm, hi⟩
  . subst hl; exact ⟨[], .inl ⟨hv, rfl⟩, trivial⟩
  . have key : ∀ (k : Nat) (l' : List (U.T c)), (∀ i x, l'[i]? = some x -> ∃ cs, (Rp c).rep G w cs x /\ a.block < w.heap.size /\ ¬ G a.block /\ CA w (a.add ((k + i) * (Rp c).n)) cs) ->
        ∃ css : List (Raw (U.n c)), css.length = l'.length /\ i8 (fun (r : Raw (U.n c)) x => (Rp c).rep G w r.1 x) css l' /\ ∀ i r, css[i]? = some r -> a.block < w.heap.size /\ ¬ G a.block /\ CA w (a.add ((k + i) * U.n c)) r.1 := by
      intro k l'
      induction l' generalizing k with
      | nil => intro _; exact ⟨[], rfl, trivial, fun i r h => by simp at h⟩
      | cons y l' ih =>
        intro hh
        obtain ⟨cs, h1, h2, h3, h4⟩ := hh 0 y rfl
        obtain ⟨css, g1, g2, g3⟩ := ih (k + 1) fun i x hx => by
          have := hh (i + 1) x (by simpa using hx)
          rwa [show k + (i + 1) = k + 1 + i by omega] at this
        refine ⟨c0l h1 :: css, by simp [g1], ⟨h1, g2⟩, fun i r hr => ?_⟩
        cases i with
        | zero => simp at hr; subst hr; exact ⟨h2, h3, h4⟩
        | succ i =>
          have := g3 i r (by simpa using hr)
          rwa [show k + 1 + i = k + (i + 1) by omega] at this
    obtain ⟨css, g1, g2, g3⟩ := key 0 l fun i x hx => by simpa using hi i x hx
    refine ⟨css, .inr ⟨a, cap, by rw [g1]; exact hv, by rw [g1]; exact hc, hm, fun i r hr => ?_⟩, g2⟩
    obtain ⟨h2, h3, h4⟩ := g3 i r hr
    rw [Nat.zero_add] at h4
    exact ⟨r.1, rfl, h2, h3, h4⟩
theorem d1n {G G' : Nat -> Prop} {w : World} {c : U.C} {u : Value} {l : List (U.T c)} {css : List (Raw (U.n c))} (h : d5 (RAW (U.n c)) G w u css) (hr : i8 (fun (r : Raw (U.n c)) x => (Rp c).rep G' w r.1 x) css l) (hG : ∀ b, G' b -> G b) : d5 (Rp c) G' w u l := by
  have hl := hr.length
  rcases h with ⟨hv, h0⟩ | ⟨a, cap, hv, hc, hm, hi⟩
  . subst h0
    exact .inl ⟨hv, List.length_eq_zero_iff.1 hl.symm⟩
  . refine .inr ⟨a, cap, by rw [<- hl]; exact hv, by rw [<- hl]; exact hc, hm, fun i x hx => ?_⟩
    obtain ⟨r, hr1, hr2⟩ := hr.getR hx
    obtain ⟨cs, h1, h2, h3, h4⟩ := hi i r hr1
    have h1 : cs = r.1 := h1
    subst h1
    exact ⟨r.1, hr2, h2, fun h => h3 (hG _ h), h4⟩
theorem a7o (hU : UOK U) {G : Nat -> Prop} {w : World} {c : U.C} {x : U.T c} {cs : List Value} (h : (Rp c).rep G w cs x) : c9 Rp G w (inj c x) cs := by
  unfold inj
  cases ha : U.ag c with
  | true => exact h
  | false =>
    obtain ⟨hl, css, rfl, hh⟩ := a8k.1 h
    have hlay := hU.lay c x
    rw [hU.sc c ha] at hlay
    cases hf : U.flds c x with
    | nil => rw [hf] at hlay; simp at hlay
    | cons a r =>
      rw [hf] at hh hlay
      cases r with
      | cons _ _ => simp at hlay
      | nil => cases css with
        | nil => exact hh.elim
        | cons s css => cases css with
          | nil => simpa using hh.1
          | cons _ _ => exact hh.2.elim
theorem a5h {e n : Nat} (h : c9b P e n = true) : (P.info? e).map (·.size) = some n := by
  unfold c9b at h
  split at h
  . rename_i i hi; rw [hi, <- Nat.eq_of_beq_eq_true h]; rfl
  . cases h
theorem a4w {t : TypeId} {c : U.C} (h : a6n P t c = true) : ∃ e, P.underlying t = some (.slice e) /\ c9b P e (U.n c) = true /\ d63 P e (U.ag c) = true /\ 0 < U.n c := by
  unfold a6n at h
  split at h
  . rename_i e he
    simp only [Bool.and_eq_true, decide_eq_true_eq] at h
    exact ⟨e, he, h.1.1, h.1.2, h.2⟩
  . cases h
theorem b3x (hU : UOK U) (h : Rel E Z π σ ρ w) {t : TypeId} {c : U.C} {l : List (U.T c)} {n : Int} (hx : d5 (Rp c) (cx Z π σ w).G w (ev ρ x) l) (hy : ev ρ y = .int .i64 n) (he : a6n P t c = true)
    (hev : (Q.opt (m7 l n) fun z => (Q.done (.rp (inj c z)) [] : U.Q)).Ev σ m0 m v ws) : a30 P E σ ρ w ⟨d, .indexAddr t x y, ty, ps, af, g⟩ v ws := by
  obtain ⟨e, he1, he2, _, _⟩ := a4w he
  obtain ⟨zv, hz, hm1, rfl, rfl⟩ := hev
  obtain ⟨ad, cap, cs, hv, hi, hr, hb, hg, hca⟩ := hx.get hz
  refine d7 h (a0k hv hy (b3e he1 (a5h he2) hi)) ⟨_, cs, rfl, ?_, ?_, hca, a7o hU hr⟩
  . rw [a1x]; exact hb
  . rw [a1x]; exact hg
theorem b5x (hU : UOK U) (h : Rel E Z π σ ρ w) {t : TypeId} (hx : AVR (cx Z π σ w) a (ev ρ x)) (hy : AVR (cx Z π σ w) b (ev ρ y)) (hev : (b23 P t a b).Ev σ m0 m v ws) :
    a30 P E σ ρ w ⟨d, .indexAddr t x y, ty, ps, af, g⟩ v ws := by
  unfold b23 at hev
  split at hev
  case h_2 => exact hev.elim
  rename_i n
  have hy : ev ρ y = .int .i64 n := hy
  split at hev
  . rename_i c l
    split at hev
    . rename_i he; exact b3x hU h hx hy he hev
    . exact hev.elim
  . rename_i id
    simp only [Q.Ev] at hev
    have hm := h.mem id
    split at hev
    . rename_i e0 c l hmem
      rw [hmem] at hm
      split at hev
      . rename_i he
        obtain ⟨e, he1, he2, _, _⟩ := a4w he
        obtain ⟨zv, hz, hm1, rfl, rfl⟩ := hev
        obtain ⟨css, hO, hr⟩ := hm
        obtain ⟨r, hr1, hrep⟩ := b0r hr hz
        obtain ⟨ad, cap, hv, hi, hca⟩ := Own.elem hO hr1
        refine d7 h (a0k (hx.2.1.trans hv) hy (b3e he1 (a5h he2) hi)) ⟨hx.1, ad, ?_, ?_⟩
        . show b34 (π id) = _; rw [hv]; rfl
        . simp [a5n]
      . exact hev.elim
    . rename_i c l hmem
      rw [hmem] at hm
      split at hev
      . rename_i he
        refine b3x hU h ?_ hy he hev
        rw [hx.2.1]; exact hm
      . exact hev.elim
    . rename_i t0 ca x hmem
      rw [hmem] at hm
      split at hev
      case h_2 => exact hev.elim
      rename_i hok
      obtain ⟨zv, hz, hm1, rfl, rfl⟩ := hev
      unfold d03 at hok
      split at hok
      case h_2 => cases hok
      rename_i m e he1
      simp only [Bool.and_eq_true] at hok
      obtain ⟨⟨hA, hmn⟩, he2⟩ := hok
      have hmn := Nat.eq_of_beq_eq_true hmn
      obtain ⟨blk, u, hv, hM, ha⟩ := hm
      obtain ⟨h0, h1, h2⟩ := a8a hz
      rw [(hU.arr ca x hA).2, <- hmn] at h1
      refine d7 h (a0k (hx.2.1.trans hv) hy (d17 he1 (a5h he2) ⟨h0, h1⟩)) ⟨hx.1, ⟨blk, 0, none⟩, ?_, ?_⟩
      . show b34 (π id) = _; rw [hv]; rfl
      . simp [a5n]
    . exact hev.elim
  . rename_i id c lo k
    simp only [Q.Ev] at hev
    have hm := h.mem id
    split at hev
    case h_2 => exact hev.elim
    rename_i e0 c' l hmem
    rw [hmem] at hm
    split at hev
    case h_2 => exact hev.elim
    rename_i he
    simp only [Bool.and_eq_true] at he
    have hcc := a8l he.2
    subst hcc
    obtain ⟨e, he1, he2, _, _⟩ := a4w he.1
    obtain ⟨zv, hz, hm1, rfl, rfl⟩ := hev
    obtain ⟨css, hO, hr⟩ := hm
    obtain ⟨r, hr1⟩ : ∃ r, c9e css lo n = some r := by
      unfold c9e at hz ⊢
      split at hz
      . rename_i h0
        rw [if_pos h0]
        obtain ⟨r, hr1, _⟩ := b0r hr hz
        exact ⟨r, hr1⟩
      . cases hz
    have hV := hx.2
    obtain ⟨ad, cap, hv, hi, _⟩ := b61.getF (hn := fun r => r.2.1) hV hO hr1
    obtain ⟨a1, L, c1, a2, c2, hv0, hlo, hL, hu, hp⟩ := hV
    obtain ⟨b0, hb0, hb2⟩ := hp (by omega)
    have had : ad = b0.add (lo.toNat * U.n c') := by
      rw [hu, hb2] at hv
      simp only [Value.slice.injEq, Option.some.injEq] at hv
      exact hv.1.symm
    refine d7 h (a0k hv hy (b3e he1 (a5h he2) hi)) ⟨hx.1, b0, ?_, ?_⟩
    . show b34 (π id) = _
      have hv0 : π id = _ := hv0
      rw [hv0, hb0]; rfl
    . have e1 : a5n c' [.i (lo + n)] = lo.toNat * U.n c' + n.toNat * U.n c' := by
        show (lo + n).toNat * U.n c' + 0 = _
        have e2 : (lo + n).toNat = lo.toNat + n.toNat := by omega
        rw [e2, Nat.add_mul, Nat.add_zero]
      rw [had, Deep.add_add, e1]
  . exact hev.elim
theorem d0u (h : Rel E Z π σ ρ w) (hx : AVR (cx Z π σ w) a (ev ρ x)) (hev : (d9x a : U.Q).Ev σ m0 m v ws) : a30 P E σ ρ w ⟨d, .nilCheck x, ty, ps, af, g⟩ v ws := by
  unfold d9x at hev
  split at hev
  . rename_i id
    simp only [Q.Ev] at hev
    have hm := h.mem id
    split at hev
    . rename_i t a0 hmem
      rw [hmem] at hm
      obtain ⟨hm1, rfl, rfl⟩ := hev
      obtain ⟨blk, u, hv, _, _⟩ := hm
      exact d7 h (b6g (hx.2.1.trans hv)) ⟨hx.1, hv.symm, rfl⟩
    . exact hev.elim
  . obtain ⟨hm1, rfl, rfl⟩ := hev
    obtain ⟨ad, cs, hv, r⟩ := hx
    exact d7 h (b6g hv) ⟨ad, cs, rfl, r⟩
  . exact hev.elim
theorem c3c (h : Rel E Z π σ ρ w) {id : Nat} {c : U.C} {l : List (U.T c)} (hm : (∃ e, σ.mem id = .sl e c l) \/ σ.mem id = .fz c l) : ∃ ad cap, π id = .slice ad l.length cap := by
  have hh := h.mem id
  rcases hm with ⟨e, hm⟩ | hm
  . rw [hm] at hh
    obtain ⟨css, hO, hr⟩ := hh
    obtain ⟨ad, cap, hv, _⟩ := hO.shape
    exact ⟨ad, cap, by rw [hv, hr.length]⟩
  . rw [hm] at hh
    obtain ⟨ad, cap, hv, _⟩ := d5.shape hh
    exact ⟨ad, cap, hv⟩
theorem c7t {t : TypeId} (h : d45 P t = true) : ∃ e, P.underlying t = some (.slice e) := by
  unfold d45 at h; split at h
  . exact ⟨_, by assumption⟩
  . cases h
theorem d07 (h : Rel E Z π σ ρ w) {t : TypeId} (hx : AVR (cx Z π σ w) a (ev ρ x)) (hev : (d9r P t a).Ev σ m0 m v ws) : a30 P E σ ρ w ⟨d, .call ⟨.builtin .len, #[x], #[t]⟩, ty, ps, af, g⟩ v ws := by
  have key : ∀ (ad : Option Addr) (n cap : Nat), d45 P t = true -> ev ρ x = .slice ad n cap -> a30 P E σ ρ w ⟨d, .call ⟨.builtin .len, #[x], #[t]⟩, ty, ps, af, g⟩ (.int .i64 (n : Int) : U.AV) [] := by
    intro ad n cap ht hv
    obtain ⟨e, he⟩ := c7t ht
    refine d7 h (c95 hv ?_) rfl
    simp [Builtin.len_, run_underlying he, goInt]
  unfold d9r at hev
  split at hev
  . split at hev
    . rename_i ht
      obtain ⟨hm1, rfl, rfl⟩ := hev
      obtain ⟨ad, cap, hv, _⟩ := d5.shape hx
      exact key _ _ _ ht hv
    . exact hev.elim
  . split at hev
    . rename_i ht
      obtain ⟨hm1, rfl, rfl⟩ := hev
      exact key _ 0 _ ht hx
    . exact hev.elim
  . rename_i s
    split at hev
    . rename_i ht
      obtain ⟨hm1, rfl, rfl⟩ := hev
      unfold d0k at ht
      split at ht
      . rename_i hu
        refine d7 h (c95 (v := .string s) hx (u := .int .i64 (s.size : Int)) ?_) rfl
        simp [Builtin.len_, run_underlying hu, goInt]
      . cases ht
    . exact hev.elim
  . split at hev
    . rename_i ht
      obtain ⟨hm1, rfl, rfl⟩ := hev
      obtain ⟨ad, cap, hv⟩ := b61.shape hx.2
      exact key _ _ _ ht hv
    . exact hev.elim
  . rename_i id
    split at hev
    . rename_i ht
      simp only [Q.Ev] at hev
      split at hev
      . rename_i e c l hmem
        obtain ⟨hm1, rfl, rfl⟩ := hev
        obtain ⟨ad, cap, hv⟩ := c3c h (.inl ⟨e, hmem⟩)
        exact key _ _ _ ht (hx.2.1.trans hv)
      . rename_i c l hmem
        obtain ⟨hm1, rfl, rfl⟩ := hev
        obtain ⟨ad, cap, hv⟩ := c3c h (.inr hmem)
        exact key _ _ _ ht (hx.2.1.trans hv)
      . exact hev.elim
    . exact hev.elim
  . exact hev.elim
theorem c6k (h : Rel E Z π σ ρ w) {mx : Bool} {ts : Array TypeId} (hx : AVR (cx Z π σ w) a (ev ρ x)) (hy : AVR (cx Z π σ w) b (ev ρ y)) (hev : (mmQ mx a b : U.Q).Ev σ m0 m v ws) :
    a30 P E σ ρ w ⟨d, .call ⟨.builtin (match mx with | true => .max | false => .min), #[x, y], ts⟩, ty, ps, af, g⟩ v ws := by
  unfold mmQ at hev
  split at hev
  . cases mx
    . obtain ⟨hm1, rfl, rfl⟩ := hev; exact d7 h (d3o hx hy) rfl
    . obtain ⟨hm1, rfl, rfl⟩ := hev; exact d7 h (c7v hx hy) rfl
  . exact hev.elim
def FZ (σ : U.St) (fz : List (Nat × U.MC)) : Prop := ∀ id m, (id, m) ∈ fz -> ∃ e c l, σ.mem id = .sl e c l /\ m = .fz c l
def Zf (Z : Nat -> Prop) (π : Nat -> Value) (σ : U.St) (fz : List (Nat × U.MC)) : Nat -> Prop := fun b => Z b \/ ∃ id m, lk id fz = some m /\ MB (σ.mem id) (π id) b
theorem b55 {c : U.C} {l : List (U.T c)} {u : Value} {e : TypeId} {X : Cx} {Z' : Nat -> Prop} (h : MR X (.sl e c l) u) (hZ : ∀ b, X.Z b -> Z' b) (hb : ∀ b, u.ownBlock = some b -> Z' b) : d5 (Rp c) (fun b => ¬ Z' b) X.w u l := by
  obtain ⟨css, hO, hr⟩ := h
  have h1 : d5 (RAW (U.n c)) (fun b => ¬ Z' b) X.w u css := hO.rep fun b hb' hz => hz (hb b hb')
  exact d1n h1 (hr.mono fun r x hh => (Rp c).weaken hh fun b _ hn hz => hn (hZ b hz)) fun b h => h
theorem c5d {fz : List (Nat × U.MC)} (hf : FZ σ fz) {id : Nat} {m : U.MC} (hl : lk id fz = some m) : ∃ e c l, σ.mem id = .sl e c l /\ m = .fz c l := hf id m (a4p hl)
theorem a8n {u : Value} {b : Nat} {ad : Option Addr} {n c : Nat} (hu : u = .slice ad n c) : u.ownBlock = some b ↔ hdV u = some b := by
  subst hu
  cases ad <;> simp [Value.ownBlock, hdV]
theorem Rel.freeze (h : Rel E Z π σ ρ w) {fz : List (Nat × U.MC)} (hf : FZ σ fz) : Rel E (Zf Z π σ fz) π (σ.app none .unk fz) ρ w := by
  refine h.next (d := none) (v := undef) (a := .unk) ((Ext.refl _ w)) (fun b hb => .inl hb) (fun b hb => ?_) (fun _ _ => rfl) (fun id m hl => ?_) (fun id m hl => ?_) (fun id m b hl hb => ?_) (fun id id' m m' b _ hl hl' hb => ?_) trivial
  . rcases hb with hb | hb
    . exact .inl hb
    . exact .inr (.inr hb)
  . obtain ⟨e, c, l, _, rfl⟩ := c5d hf hl
    intro h; cases h
  . obtain ⟨e, c, l, hm, rfl⟩ := c5d hf hl
    have hh := h.mem id
    rw [hm] at hh
    refine b55 (X := cx Z π σ w) (Z' := Zf Z π σ fz) hh (fun b hb => .inl hb) fun b hb => .inr ⟨id, _, hl, ?_⟩
    rw [hm]
    obtain ⟨css, hO, _⟩ := hh
    obtain ⟨ad, cap, hv, _⟩ := hO.shape
    exact (a8n hv).1 hb
  . obtain ⟨e, c, l, hm, rfl⟩ := c5d hf hl
    exact hb.elim
  . obtain ⟨e, c, l, hm, rfl⟩ := c5d hf hl
    exact hb.elim
theorem b56 (h : Rel E Z π σ ρ w) {fz : List (Nat × U.MC)} (hf : FZ σ fz) : (cx Z π σ w).Le (cx (Zf Z π σ fz) π (σ.app none .unk fz) w) := by
  refine ⟨fun b hb => .inl hb, Ext.refl _ _, fun id hu => ⟨?_, rfl⟩⟩
  show (σ.app none .unk fz).mem id ≠ .never
  rw [t6]
  cases hl : lk id fz with
  | none => exact hu
  | some m => obtain ⟨e, c, l, _, rfl⟩ := c5d hf hl; intro h; cases h
theorem b45 (hU : UOK U) {X : Cx} {a : U.AV} {u : Value} (h : a0c X a u) : a0c X (b87 a) u := by
  cases a <;> try exact h
  rename_i c as
  unfold b87
  dsimp only
  split
  . rename_i x hx
    obtain ⟨css, hu, _, _, hr⟩ := h
    exact ⟨css.flatten, hu, c1r hU hx hr⟩
  . exact h
theorem d0s (hU : UOK U) {X : Cx} {a : U.AV} {u : Value} (h : AVR X a u) : AVR X (b87 a) u := by
  cases a <;> try exact h
  exact AVR.of1 (b45 hU h)
theorem c4y {a : U.AV} (h : m4 a = true) : b87 a = a := by
  cases a <;> first | rfl | cases h
theorem b2p (hU : UOK U) (h : Rel E Z π σ ρ w) : ∀ {as : List U.AV} {us : List Value} {k : List U.AV -> List (Nat × U.MC) -> U.Q} {m0 m : Nat} {v : U.AV} {ws : List (Nat × U.MC)}, i8 (AVR (cx Z π σ w)) as us -> (c3h as k).Ev σ m0 m v ws ->
    ∃ as' fz m1, (k as' fz).Ev σ m1 m v ws /\ (as.all m4 = true -> as'.all m4 = true) /\ FZ σ fz /\ (∀ q ∈ fz, (.ref q.1 : U.AV) ∈ as) /\ ∀ fz', FZ σ fz' -> (∀ q ∈ fz, q ∈ fz' /\ ∃ m, lk q.1 fz' = some m) -> i8 (AVR (cx (Zf Z π σ fz') π (σ.app none .unk fz') w)) as' us
  | [], [], k, m0, m, v, ws, _, hev => ⟨[], [], m0, hev, fun _ => rfl, (fun _ _ hh => by cases hh), (fun _ hh => by cases hh), fun _ _ _ => trivial⟩
  | a :: as, u :: us, k, m0, m, v, ws, hr, hev => by
    have skip : (c3h as fun as ws => k (b87 a :: as) ws).Ev σ m0 m v ws -> ∃ as' fz m1, (k as' fz).Ev σ m1 m v ws /\ ((a :: as).all m4 = true -> as'.all m4 = true) /\ FZ σ fz /\ (∀ q ∈ fz, (.ref q.1 : U.AV) ∈ (a :: as)) /\ ∀ fz', FZ σ fz' -> (∀ q ∈ fz, q ∈ fz' /\ ∃ m, lk q.1 fz' = some m) -> i8 (AVR (cx (Zf Z π σ fz') π (σ.app none .unk fz') w)) as' (u :: us) := by
      intro hev
      obtain ⟨as', fz, m1, h1, h0, h2, h2', h3⟩ := b2p hU h hr.2 hev
      refine ⟨b87 a :: as', fz, m1, h1, fun hp => ?_, h2, fun q hq => List.mem_cons_of_mem _ (h2' q hq), fun fz' hf hq => ⟨d0s hU (hr.1.le (b56 h hf)), h3 fz' hf hq⟩⟩
      simp only [List.all_cons, Bool.and_eq_true] at hp ⊢
      exact ⟨by rw [c4y hp.1]; exact hp.1, h0 hp.2⟩
    cases a <;> try exact skip hev
    rename_i id
    have hev : (match σ.mem id with
      | .sl _ c l => c3h as fun as ws => k (.list c l :: as) ((id, .fz c l) :: ws)
      | .fz c l => c3h as fun as ws => k (.list c l :: as) ws
      | _ => .fail).Ev σ _ m v ws := hev
    have hm := h.mem id
    split at hev
    . rename_i e c l hmem
      obtain ⟨as', fz, m1, h1, h0, h2, h2', h3⟩ := b2p hU h hr.2 hev
      refine ⟨_, _, m1, h1, fun hp => ?_, fun id' m' hh => ?_, fun q hq => ?_, fun fz' hf hq => ⟨?_, h3 fz' hf fun q hq' => hq q (List.mem_cons_of_mem _ hq')⟩⟩
      . simp only [List.all_cons, Bool.and_eq_true] at hp ⊢
        exact ⟨rfl, h0 hp.2⟩
      . rcases List.mem_cons.1 hh with hh | hh
        . cases hh; exact ⟨e, c, l, hmem, rfl⟩
        . exact h2 id' m' hh
      . rcases List.mem_cons.1 hq with e1 | e1
        . rw [e1]; exact List.mem_cons_self
        . exact List.mem_cons_of_mem _ (h2' q e1)
      . rw [hmem] at hm
        obtain ⟨m', hl⟩ := (hq (id, .fz c l) (List.mem_cons_self)).2
        rw [hr.1.2.1]
        refine b55 (X := cx Z π σ w) (Z' := Zf Z π σ fz') hm (fun b hb => .inl hb) fun b hb => .inr ⟨id, m', hl, ?_⟩
        rw [hmem]
        obtain ⟨css, hO, _⟩ := hm
        obtain ⟨ad, cap, hv, _⟩ := hO.shape
        exact (a8n hv).1 hb
    . rename_i c l hmem
      obtain ⟨as', fz, m1, h1, h0, h2, h2', h3⟩ := b2p hU h hr.2 hev
      refine ⟨_, _, m1, h1, fun hp => ?_, h2, fun q hq => List.mem_cons_of_mem _ (h2' q hq), fun fz' hf hq => ⟨?_, h3 fz' hf hq⟩⟩
      . simp only [List.all_cons, Bool.and_eq_true] at hp ⊢
        exact ⟨rfl, h0 hp.2⟩
      . rw [hmem] at hm
        rw [hr.1.2.1]
        exact AVR.le (a := .list c l) (b56 h hf) hm
    . exact hev.elim
  | [], _ :: _, _, _, _, _, _, hh, _ => hh.elim
  | _ :: _, [], _, _, _, _, _, hh, _ => hh.elim
theorem a7b (hp : a4r a = true) : a92 a = true := by cases a <;> first | rfl | cases hp
theorem a8h {as : List U.AV} (h : as.all a4r = true) : as.all a92 = true :=
  List.all_eq_true.2 fun a ha => a7b (List.all_eq_true.1 h a ha)
theorem a9d (h : Rel E Z π σ ρ w) {fz : List (Nat × U.MC)} (hf : FZ σ fz) {o : Oper} {ws : List (Nat × U.MC)} (hg : a30 P E (σ.app none .unk fz) ρ w o a ws) : a30 P E σ ρ w o a (ws ++ fz) := by
  unfold a30 at hg ⊢
  refine hg.mono fun u w' ⟨Z', π', hR⟩ => ⟨Z', π', ?_⟩
  have e : (σ.app none .unk fz).app o.dst a ws = σ.app o.dst a (ws ++ fz) := by
    cases o.dst <;> simp [St.app, St.put, List.append_assoc]
  rw [<- e]; exact hR
theorem c4v {fz : List (Nat × U.MC)} {q : Nat × U.MC} (hq : q ∈ fz) : ∃ m, lk q.1 fz = some m := by
  induction fz with
  | nil => cases hq
  | cons r fz ih =>
    show ∃ m, (bif Nat.beq r.1 q.1 then some r.2 else lk q.1 fz) = some m
    cases hk : Nat.beq r.1 q.1 with
    | true => exact ⟨_, rfl⟩
    | false =>
      rcases List.mem_cons.1 hq with e | e
      . subst e; exact absurd rfl (Nat.ne_of_beq_eq_false hk)
      . exact ih e
theorem c66 (hU : UOK U) (h : Rel E Z π σ ρ w) {t : TypeId} (hx : AVR (cx Z π σ w) a (ev ρ x)) (hev : (d7o P t a).Ev σ m0 m v ws) : a30 P E σ ρ w ⟨d, .load t x, ty, ps, af, g⟩ v ws := by
  cases a <;> try exact hev.elim
  case ref id =>
    have hm := h.mem id
    have hev : (d6b (σ.mem id) [] fun b => match b with
      | .st c fs => c3h fs fun as ws => match U.mkv c as with
        | some x => (match a84 P t (.val c x : U.AV) with | true => .done (.val c x) ws | false => .fail)
        | none => .fail
      | b => match a84 P t b with | true => Q.done b [] | false => Q.fail).Ev σ _ m v ws := hev
    cases hmem : σ.mem id <;> rw [hmem] at hev hm <;> try exact hev.elim
    case box t' a0 =>
      simp only [d6b, nav] at hev
      obtain ⟨blk, u, hv, hM, ha⟩ := hm
      have plain : (match a84 P t a0 with | true => Q.done a0 [] | false => (Q.fail : U.Q)).Ev σ (m0 ||| 2 ^ (2 * id + 1)) m v ws -> a30 P E σ ρ w ⟨d, .load t x, ty, ps, af, g⟩ v ws := by
        intro hev
        split at hev
        . rename_i hf
          obtain ⟨hm1, rfl, rfl⟩ := hev
          exact b3i hU h (hx.2.1.trans hv) hf ⟨u, ha, hM.ca⟩
        . exact hev.elim
      cases a0 <;> try exact plain hev
      rename_i c fs
      obtain ⟨css, hu, hlay, hp, hr⟩ := ha
      have hus : ∀ (fs : List U.AV) (css : List (List Value)), fs.all m4 = true -> i8 (fun a s => ∃ u : Value, u.cells.toList = s /\ a7w (cx Z π σ w) a u) fs css -> ∃ us : List Value, us.map (fun u => u.cells.toList) = css /\ i8 (AVR (cx Z π σ w)) fs us := by
        intro fs
        induction fs with
        | nil => intro css _ h; cases css with
          | nil => exact ⟨[], rfl, trivial⟩
          | cons _ _ => exact h.elim
        | cons a fs ih => intro css hp h; cases css with
          | nil => exact h.elim
          | cons s css =>
            obtain ⟨u, hu, h1⟩ := h.1
            simp only [List.all_cons, Bool.and_eq_true] at hp
            obtain ⟨us, g1, g2⟩ := ih css hp.2 h.2
            exact ⟨u :: us, by simp [hu, g1], AVR.of1 (.of0 h1), g2⟩
      obtain ⟨us, hus1, hus2⟩ := hus fs css hp hr
      obtain ⟨as', fz, m1, hev, h0, hf, _, hA⟩ := b2p hU h hus2 hev
      split at hev
      case h_2 => exact hev.elim
      rename_i xv hk
      split at hev
      case h_2 => exact hev.elim
      rename_i hft
      obtain ⟨hm1, hv1, hws⟩ := hev
      rw [hv1, hws]
      refine a9d h hf (ws := []) ?_
      have hfr := h.freeze hf
      have hall := hA fz hf fun q hq => ⟨hq, c4v hq⟩
      have hrep : ∀ (as' : List U.AV) (us : List Value), as'.all m4 = true -> i8 (AVR (cx (Zf Z π σ fz) π (σ.app none .unk fz) w)) as' us -> i8 (fun a s => ∃ u : Value, u.cells.toList = s /\ a0c (cx (Zf Z π σ fz) π (σ.app none .unk fz) w) a u) as' (us.map fun u => u.cells.toList) := by
        intro as'
        induction as' with
        | nil => intro us _ h; cases us with
          | nil => trivial
          | cons _ _ => exact h.elim
        | cons a as ih => intro us hp h; cases us with
          | nil => exact h.elim
          | cons u us =>
            simp only [List.all_cons, Bool.and_eq_true] at hp
            exact ⟨⟨u, rfl, a3t (by cases a <;> first | rfl | cases hp.1) h.1⟩, ih us hp.2 h.2⟩
      have hcs := b6h hU hk (hrep as' us (h0 hp) hall)
      rw [hus1] at hcs
      have hM2 : CA w ⟨blk, 0, none⟩ u.cells.toList := hM.ca
      exact b3i hU hfr (hx.2.1.trans hv) hft ⟨.agg css.flatten.toArray, ⟨css.flatten, rfl, hcs⟩, by rw [<- hu]; exact hM2⟩
  case fref id c p =>
    have hev : (match b0o c (σ.mem id) p with | true => d6b (σ.mem id) p fun b => (match a84 P t b with | true => Q.done b [] | false => Q.fail) | false => Q.fail).Ev σ _ m v ws := hev
    cases hc : b0o c (σ.mem id) p with
    | false => rw [hc] at hev; exact hev.elim
    | true =>
      rw [hc] at hev
      obtain ⟨b, hev, hL⟩ := d1b hU h (.inr hc) hev
      cases hf : a84 P t b with
      | false => rw [hf] at hev; exact hev.elim
      | true =>
        rw [hf] at hev
        obtain ⟨hm1, rfl, rfl⟩ := hev
        obtain ⟨hu, ad, had, hv⟩ := hx
        exact b3i hU h hv hf (hL ad had)
  case rp b =>
    have hev : (match a84 P t b with | true => Q.done b [] | false => Q.fail : U.Q).Ev σ m0 m v ws := hev
    cases hf : a84 P t b with
    | false => rw [hf] at hev; exact hev.elim
    | true =>
      rw [hf] at hev
      obtain ⟨hm1, rfl, rfl⟩ := hev
      obtain ⟨ad, cs, hv, hb, hg, hca, hr⟩ := hx
      obtain ⟨u, hu, hr⟩ := a0e hr
      exact b3i hU h hv hf ⟨u, hr, by rw [hu]; exact hca⟩
end
end Go.SX
namespace Go.SX
open Go Go.PL
section
variable {P : Program} {U : Uni} {E : Env} {Z : Nat -> Prop} {π : Nat -> Value} {σ : U.St} {ρ : Nat -> Value} {w : World}
variable {d : Option Tmp} {ty : TypeId} {ps : String} {af : Array Edge} {g : Option (Nat × Bool)} {x y z : Operand} {m0 m : Nat} {a b v : U.AV} {ws : List (Nat × U.MC)} {fr : Nat}
def b0g (π : Nat -> Value) (fr : Nat) (v : Value) : Nat -> Value := fun id => if id = fr then v else π id
theorem Rel.new (h : Rel E Z π σ ρ w) (hn : σ.mem fr = .never) {w' : World} {mc : U.MC} {dead : List Nat} {v' : Value} (hnn : mc ≠ .never)
    (hE : Ext (fun b => ∃ id ∈ dead, MB (σ.mem id) (π id) b) w w')
    (hm : ∀ X' : Cx, (cx Z π σ w).Le X' -> X'.w = w' -> X'.Z = Z -> MR X' mc v')
    (hb : ∀ b, MB mc v' b -> b < w'.heap.size /\ (w.heap.size <= b \/ ∃ id ∈ dead, MB (σ.mem id) (π id) b)) (h1 : v'.oneCell' = true) {d : Option Tmp} :
    Rel E Z (b0g π fr v') (σ.app d (.ref fr) ((fr, mc) :: dead.map fun id => (id, .dead))) (a5m ρ d v') w' := by
  have hlk : ∀ id m, lk id ((fr, mc) :: dead.map fun id => (id, (.dead : U.MC))) = some m -> (id = fr /\ m = mc) \/ (id ≠ fr /\ id ∈ dead /\ m = .dead) := by
    intro id m hl
    have hl : (bif Nat.beq fr id then some mc else lk id (dead.map fun id => (id, (.dead : U.MC)))) = some m := hl
    cases hk : Nat.beq fr id with
    | true => rw [hk] at hl; cases hl; exact .inl ⟨(Nat.eq_of_beq_eq_true hk).symm, rfl⟩
    | false =>
      rw [hk] at hl
      have hmem := a4p hl
      obtain ⟨i, hi, he⟩ := List.mem_map.1 hmem
      cases he
      exact .inr ⟨fun e => Nat.ne_of_beq_eq_false hk e.symm, hi, rfl⟩
  have hlk2 : ∀ id, id ∈ dead -> ∃ m, lk id ((fr, mc) :: dead.map fun id => (id, (.dead : U.MC))) = some m := by
    intro id hid
    show ∃ m, (bif Nat.beq fr id then some mc else lk id (dead.map fun id => (id, (.dead : U.MC)))) = some m
    cases Nat.beq fr id with
    | true => exact ⟨_, rfl⟩
    | false =>
      show ∃ m, lk id (dead.map fun id => (id, (.dead : U.MC))) = some m
      induction dead with
      | nil => cases hid
      | cons i r ih =>
        show ∃ m, (bif Nat.beq i id then some (.dead : U.MC) else lk id (r.map fun id => (id, (.dead : U.MC)))) = some m
        cases hk : Nat.beq i id with
        | true => exact ⟨_, rfl⟩
        | false =>
          rcases List.mem_cons.1 hid with e | e
          . subst e; exact absurd rfl (Nat.ne_of_beq_eq_false hk)
          . have hlk' : lk id (r.map fun id => (id, (.dead : U.MC))) ≠ none := by
              clear ih hlk hb hE
              induction r with
              | nil => cases e
              | cons j r ih2 =>
                show (bif Nat.beq j id then some (.dead : U.MC) else lk id (r.map fun id => (id, (.dead : U.MC)))) ≠ none
                cases hk : Nat.beq j id with
                | true => exact fun h => by cases h
                | false =>
                  rcases List.mem_cons.1 e with e | e
                  . subst e; exact absurd rfl (Nat.ne_of_beq_eq_false hk)
                  . exact ih2 (List.mem_cons_of_mem _ e) e
            cases hx : lk id (r.map fun id => (id, (.dead : U.MC))) with
            | none => exact absurd hx hlk'
            | some m => exact ⟨m, rfl⟩
  have hle : (cx Z π σ w).Le (cx Z (b0g π fr v') (σ.app d (.ref fr) ((fr, mc) :: dead.map fun id => (id, .dead))) w') := by
    refine ⟨fun _ hb => hb, hE.mono fun b ⟨id, _, hb⟩ hz => (h.own id b hb).1 hz, fun id hu => ⟨?_, ?_⟩⟩
    . show (σ.app d (.ref fr) _).mem id ≠ .never
      rw [t6]
      cases hl : lk id ((fr, mc) :: dead.map fun id => (id, (.dead : U.MC))) with
      | none => exact hu
      | some m =>
        rcases hlk id m hl with ⟨_, rfl⟩ | ⟨_, _, rfl⟩
        . exact hnn
        . intro h; cases h
    . show (if id = fr then v' else π id) = π id
      rw [if_neg]; intro e; subst e; exact hu hn
  refine h.next (hE.mono fun b ⟨id, hid, hb⟩ => ?_) (fun _ hb => hb) (fun _ hb => .inl hb) (fun id hu => ?_) (fun id m hl => ?_) (fun id m hl => ?_) (fun id m b hl hb' => ?_) (fun id id' m m' b hne hl hl' hb1 hb2 => ?_) ?_
  . obtain ⟨m, hm⟩ := hlk2 id hid
    exact ⟨id, m, hm, hb⟩
  . show (if id = fr then v' else π id) = π id
    rw [if_neg]; intro e; subst e; exact hu hn
  . rcases hlk id m hl with ⟨_, rfl⟩ | ⟨_, _, rfl⟩
    . exact hnn
    . intro h; cases h
  . rcases hlk id m hl with ⟨rfl, rfl⟩ | ⟨_, _, rfl⟩
    . rw [show b0g π id v' id = v' by simp [b0g]]
      exact hm _ hle rfl rfl
    . trivial
  . rcases hlk id m hl with ⟨rfl, rfl⟩ | ⟨_, _, rfl⟩
    . rw [show b0g π id v' id = v' by simp [b0g]] at hb'
      obtain ⟨h2, h3⟩ := hb b hb'
      refine ⟨fun hz => ?_, h2, ?_⟩
      . rcases h3 with h3 | ⟨i, _, h3⟩
        . have := h.zlt b hz; omega
        . exact (h.own i b h3).1 hz
      . rcases h3 with h3 | ⟨i, hi, h3⟩
        . exact .inl h3
        . obtain ⟨m', hm'⟩ := hlk2 i hi
          exact .inr ⟨i, m', hm', h3⟩
    . exact hb'.elim
  . rcases hlk id m hl with ⟨rfl, rfl⟩ | ⟨_, _, rfl⟩
    . rcases hlk id' m' hl' with ⟨rfl, rfl⟩ | ⟨_, _, rfl⟩
      . exact hne rfl
      . exact hb2.elim
    . exact hb1.elim
  . refine ⟨?_, ?_, h1⟩
    . show (σ.app d (.ref fr) _).mem fr ≠ .never
      rw [t6]
      have : lk fr ((fr, mc) :: dead.map fun id => (id, (.dead : U.MC))) = some mc := by
        show (bif Nat.beq fr fr then some mc else _) = some mc
        rw [show Nat.beq fr fr = true from Nat.beq_refl fr]; rfl
      rw [this]; exact hnn
    . show v' = b0g π fr v' fr
      simp [b0g]
theorem a99 (h : Rel E Z π σ ρ w) {o : Oper} {obj : Obj} {mc : U.MC} {v' : Value} (hn : σ.mem fr = .never) (hrun : (execOp (ev ρ) o).run P w = .ok (.value v') (w.alloc obj)) (hnn : mc ≠ .never)
    (hv : hdV v' = some w.heap.size) (h1 : v'.oneCell' = true) (hbm : ∀ b, MB mc v' b -> hdV v' = some b)
    (hm : ∀ X' : Cx, (cx Z π σ w).Le X' -> X'.w = w.alloc obj -> X'.Z = Z -> MR X' mc v') : a30 P E σ ρ w o (.ref fr) [(fr, mc)] := by
  unfold a30 n9
  rw [hrun]
  refine ⟨Z, b0g π fr v', ?_⟩
  refine h.new (dead := []) hn hnn ((Ext.alloc _ w obj).mono fun _ hh => hh) hm (fun b hb => ?_) h1
  have := hbm b hb
  rw [hv] at this
  cases this
  exact ⟨by simp, .inl (Nat.le_refl _)⟩
theorem c0h : ∀ (fs : List Field) (as : List U.AV) (k : Nat), (a7g P k fs as).1.map m8 = as.map m8 /\ (as.all m4 = true -> (a7g P k fs as).1.all m4 = true) /\ (∀ q ∈ (a7g P k fs as).2, k <= q.1 /\ ∃ e c, q.2 = (.sl e c [] : U.MC)) /\
    ∀ (X X' : Cx), X.Le X' -> (∀ q ∈ (a7g P k fs as).2, X'.us q.1 /\ X'.π q.1 = .slice none 0 0) -> ∀ css, i8 (fun a s => ∃ u : Value, u.cells.toList = s /\ a7w X a u) as css -> i8 (fun a s => ∃ u : Value, u.cells.toList = s /\ a7w X' a u) (a7g P k fs as).1 css := by
  have base : ∀ (as : List U.AV) (k : Nat) (fs : List Field), a7g P k fs as = (as, []) -> (a7g P k fs as).1.map m8 = as.map m8 /\ (as.all m4 = true -> (a7g P k fs as).1.all m4 = true) /\ (∀ q ∈ (a7g P k fs as).2, k <= q.1 /\ ∃ e c, q.2 = (.sl e c [] : U.MC)) /\
      ∀ (X X' : Cx), X.Le X' -> (∀ q ∈ (a7g P k fs as).2, X'.us q.1 /\ X'.π q.1 = .slice none 0 0) -> ∀ css, i8 (fun a s => ∃ u : Value, u.cells.toList = s /\ a7w X a u) as css -> i8 (fun a s => ∃ u : Value, u.cells.toList = s /\ a7w X' a u) (a7g P k fs as).1 css := by
    intro as k fs e
    rw [e]
    exact ⟨rfl, fun h => h, (fun q hq => by cases hq), fun X X' hX _ css h => h.mono fun _ _ ⟨u, hu, hh⟩ => ⟨u, hu, hh.le hX⟩⟩
  intro fs
  induction fs with
  | nil => intro as k; exact base as k [] (by cases as <;> rfl)
  | cons f fs ih =>
    intro as k
    cases as with
    | nil => exact base [] k _ rfl
    | cons a as =>
      have skip : a7g P k (f :: fs) (a :: as) = (a :: (a7g P k fs as).1, (a7g P k fs as).2) -> (a7g P k (f :: fs) (a :: as)).1.map m8 = (a :: as).map m8 /\ ((a :: as).all m4 = true -> (a7g P k (f :: fs) (a :: as)).1.all m4 = true) /\ (∀ q ∈ (a7g P k (f :: fs) (a :: as)).2, k <= q.1 /\ ∃ e c, q.2 = (.sl e c [] : U.MC)) /\
          ∀ (X X' : Cx), X.Le X' -> (∀ q ∈ (a7g P k (f :: fs) (a :: as)).2, X'.us q.1 /\ X'.π q.1 = .slice none 0 0) -> ∀ css, i8 (fun a s => ∃ u : Value, u.cells.toList = s /\ a7w X a u) (a :: as) css -> i8 (fun a s => ∃ u : Value, u.cells.toList = s /\ a7w X' a u) (a7g P k (f :: fs) (a :: as)).1 css := by
        intro e
        rw [e]
        obtain ⟨h1, h2, h3, h4⟩ := ih as k
        refine ⟨by simp [h1], fun hp => ?_, h3, fun X X' hX hq css hh => ?_⟩
        . simp only [List.all_cons, Bool.and_eq_true] at hp ⊢
          exact ⟨hp.1, h2 hp.2⟩
        . cases css with
          | nil => exact hh.elim
          | cons s css =>
            obtain ⟨u, hu, hr⟩ := hh.1
            exact ⟨⟨u, hu, hr.le hX⟩, h4 X X' hX hq css hh.2⟩
      cases a <;> try exact skip rfl
      have alt : a7g P k (f :: fs) (.nils :: as) = (.nils :: (a7g P k fs as).1, (a7g P k fs as).2) \/ ∃ e c, a7g P k (f :: fs) ((.nils : U.AV) :: as) = (.ref k :: (a7g P (k + 1) fs as).1, (k, .sl e c []) :: (a7g P (k + 1) fs as).2) := by
        simp only [a7g]
        split
        . split
          . exact .inr ⟨_, _, rfl⟩
          . exact .inl rfl
        . exact .inl rfl
      rcases alt with e0 | ⟨e, c, e0⟩
      . exact skip e0
      . rw [e0]
        obtain ⟨h1, h2, h3, h4⟩ := ih as (k + 1)
        refine ⟨by simp [h1, m8], fun hp => ?_, fun q hq => ?_, fun X X' hX hq css hh => ?_⟩
        . simp only [List.all_cons, Bool.and_eq_true] at hp ⊢
          exact ⟨rfl, h2 hp.2⟩
        . rcases List.mem_cons.1 hq with e1 | e1
          . rw [e1]; exact ⟨Nat.le_refl _, e, c, rfl⟩
          . obtain ⟨g1, g2⟩ := h3 q e1
            exact ⟨by omega, g2⟩
        . cases css with
          | nil => exact hh.elim
          | cons s css =>
            obtain ⟨u, hu, hr⟩ := hh.1
            obtain ⟨g1, g2⟩ := hq _ List.mem_cons_self
            have hr : u = .slice none 0 0 := hr
            exact ⟨⟨u, hu, g1, hr.trans g2.symm, by rw [hr]; rfl⟩, h4 X X' hX (fun q hq' => hq q (List.mem_cons_of_mem _ hq')) css hh.2⟩
theorem Rel.openB (h : Rel E Z π σ ρ w) {id : Nat} {t : TypeId} {c : U.C} {as : List U.AV} {k : Nat} {fs : List Field} (hm : σ.mem id = .box t (.st c as)) (hn : ∀ q ∈ (a7g P k fs as).2, σ.mem q.1 = .never) :
    ∃ π', Rel E Z π' (σ.app none .unk ((id, .box t (.st c (a7g P k fs as).1)) :: (a7g P k fs as).2)) ρ w := by
  obtain ⟨h1, h2, h3, h4⟩ := c0h (P := P) fs as k
  generalize a7g P k fs as = q at hn h1 h2 h3 h4
  obtain ⟨as', ms⟩ := q
  obtain ⟨π', hπ⟩ : ∃ π' : Nat -> Value, π' = fun i => if (lk i ms).isSome = true then .slice none 0 0 else π i := ⟨_, rfl⟩
  have hu : ∀ i, b0n σ i -> π' i = π i := fun i hi => by
    rw [hπ]
    show (if _ then _ else _) = _
    rw [if_neg]
    intro hs
    obtain ⟨m, hl⟩ := Option.isSome_iff_exists.1 hs
    exact hi (hn _ (a4p hl))
  have hnil : ∀ i m, lk i ms = some m -> π' i = .slice none 0 0 := fun i m hl => by
    rw [hπ]
    show (if _ then _ else _) = _
    rw [if_pos (by rw [hl]; rfl)]
  have hlk : ∀ i m, lk i ((id, .box t (.st c as')) :: ms) = some m -> (i = id /\ m = .box t (.st c as')) \/ (i ≠ id /\ lk i ms = some m) := by
    intro i m hl
    have hl : (bif Nat.beq id i then some (.box t (.st c as')) else lk i ms) = some m := hl
    cases hk : Nat.beq id i with
    | true => rw [hk] at hl; cases hl; exact .inl ⟨(Nat.eq_of_beq_eq_true hk).symm, rfl⟩
    | false => rw [hk] at hl; exact .inr ⟨fun e => Nat.ne_of_beq_eq_false hk e.symm, hl⟩
  have hid : lk id ((id, (.box t (.st c as') : U.MC)) :: ms) = some (.box t (.st c as')) := by
    show (bif Nat.beq id id then some (.box t (.st c as')) else lk id ms) = _
    rw [show Nat.beq id id = true from Nat.beq_refl id]; rfl
  have hui : b0n σ id := by unfold b0n; rw [hm]; intro h; cases h
  have hle : (cx Z π σ w).Le (cx Z π' (σ.app none .unk ((id, .box t (.st c as')) :: ms)) w) := by
    refine ⟨fun _ h => h, Ext.refl _ _, fun i hi => ⟨?_, hu i hi⟩⟩
    show (σ.app none .unk _).mem i ≠ .never
    rw [t6]
    cases hl : lk i ((id, (.box t (.st c as') : U.MC)) :: ms) with
    | none => exact hi
    | some m =>
      rcases hlk i m hl with ⟨_, rfl⟩ | ⟨_, hl2⟩
      . intro h; cases h
      . obtain ⟨_, e, c', he⟩ := h3 _ (a4p hl2)
        dsimp only at he; rw [he]; intro h; cases h
  have hnew : ∀ q ∈ ms, (cx Z π' (σ.app none .unk ((id, .box t (.st c as')) :: ms)) w).us q.1 /\ (cx Z π' (σ.app none .unk ((id, .box t (.st c as')) :: ms)) w).π q.1 = .slice none 0 0 := by
    intro q hq
    have : ∃ m, lk q.1 ms = some m := c4v hq
    obtain ⟨m, hl⟩ := this
    refine ⟨?_, hnil _ m hl⟩
    show (σ.app none .unk _).mem q.1 ≠ .never
    rw [t6]
    have hne : q.1 ≠ id := fun e => hui (by rw [<- e]; exact hn q hq)
    have : lk q.1 ((id, (.box t (.st c as') : U.MC)) :: ms) = some m := by
      show (bif Nat.beq id q.1 then some (.box t (.st c as')) else lk q.1 ms) = _
      cases hk : Nat.beq id q.1 with
      | true => exact absurd (Nat.eq_of_beq_eq_true hk).symm hne
      | false => exact hl
    rw [this]
    obtain ⟨_, e, c', he⟩ := h3 _ (a4p hl)
    dsimp only at he; rw [he]; intro h; cases h
  refine ⟨π', h.next (d := none) (v := undef) (a := .unk) (Ext.refl _ w) (fun b hb => hb) (fun b hb => .inl hb) hu (fun i m hl => ?_) (fun i m hl => ?_) (fun i m b hl hb => ?_) (fun i i' m m' b hne hl hl' hb hb' => ?_) trivial⟩
  . rcases hlk i m hl with ⟨_, rfl⟩ | ⟨_, hl2⟩
    . intro h; cases h
    . obtain ⟨_, e, c', he⟩ := h3 _ (a4p hl2)
      dsimp only at he; rw [he]; intro h; cases h
  . rcases hlk i m hl with ⟨rfl, rfl⟩ | ⟨_, hl2⟩
    . have hmm := h.mem i
      rw [hm] at hmm
      obtain ⟨b, u, hv, hM, css, hu1, hlay, hp, hr⟩ := hmm
      refine ⟨b, u, by rw [hu i hui]; exact hv, hM, css, hu1, by rw [h1]; exact hlay, h2 hp, h4 _ _ hle hnew css hr⟩
    . obtain ⟨_, e, c', he⟩ := h3 _ (a4p hl2)
      dsimp only at he
      rw [he, hnil i m hl2]
      exact ⟨[], Own.nil _ _ _ _ _, trivial⟩
  . rcases hlk i m hl with ⟨rfl, rfl⟩ | ⟨_, hl2⟩
    . rw [hu i hui] at hb
      have hb : MB (σ.mem i) (π i) b := by rw [hm]; exact hb
      obtain ⟨g1, g2, _⟩ := h.own i b hb
      exact ⟨g1, g2, .inr ⟨i, _, hid, hb⟩⟩
    . obtain ⟨_, e, c', he⟩ := h3 _ (a4p hl2)
      dsimp only at he
      rw [he, hnil i m hl2] at hb
      cases hb
  . have nm : ∀ i m, lk i ms = some m -> ¬ MB m (π' i) b := fun i m hl2 hb => by
      obtain ⟨_, e, c', he⟩ := h3 _ (a4p hl2)
      dsimp only at he
      rw [he, hnil i m hl2] at hb
      cases hb
    rcases hlk i m hl with ⟨e1, _⟩ | ⟨_, hl2⟩
    . rcases hlk i' m' hl' with ⟨e2, _⟩ | ⟨_, hl2'⟩
      . exact hne (e1.trans e2.symm)
      . exact nm i' m' hl2' hb'
    . exact nm i m hl2 hb
theorem b8d : ∀ {l : List Nat} {q : U.Q} {m0 m : Nat} {v : U.AV} {ws : List (Nat × U.MC)}, (d66 l q).Ev σ m0 m v ws -> (∀ i ∈ l, σ.mem i = .never) /\ ∃ m1, q.Ev σ m1 m v ws
  | [], q, m0, m, v, ws, h => ⟨(fun _ h => by cases h), m0, h⟩
  | i :: l, q, m0, m, v, ws, h => by
    have h : (match σ.mem i with | .never => d66 l q | _ => (.fail : U.Q)).Ev σ (m0 ||| 2 ^ (2 * i + 1)) m v ws := h
    split at h
    . rename_i hn
      obtain ⟨h3, h4⟩ := b8d h
      refine ⟨fun j hj => ?_, h4⟩
      rcases List.mem_cons.1 hj with e | e
      . rw [e]; exact hn
      . exact h3 j e
    . exact h.elim
theorem b8v {o : Oper} {v0 : U.AV} {ws0 : List (Nat × U.MC)} {id : Nat} {t : TypeId} (hg : a30 P E σ ρ w o v0 ws0) (hid : (σ.app o.dst v0 ws0).mem id = .box t a) (hdis : ∀ i, fr < i -> σ.mem i = .never -> lk i ws0 = none) (hev : (b7i P fr t id a v0 ws0).Ev σ m0 m v ws) : a30 P E σ ρ w o v ws := by
  unfold b7i at hev
  split at hev
  . obtain ⟨_, rfl, rfl⟩ := hev; exact hg
  . rename_i a' mm ms ho
    obtain ⟨hn, m1, _, rfl, rfl⟩ := b8d hev
    unfold d74 at ho
    cases a <;> try (cases ho; done)
    rename_i c as
    dsimp only at ho
    split at ho
    . rename_i fs hfs
      have ho : (AV.st c (a7g P (fr + 1) fs.toList as).1, (a7g P (fr + 1) fs.toList as).2) = (a', mm :: ms) := ho
      simp only [Prod.mk.injEq] at ho
      obtain ⟨rfl, ho2⟩ := ho
      obtain ⟨_, _, h3, _⟩ := c0h (P := P) (U := U) fs.toList as (fr + 1)
      refine n9.mono hg fun u w' ⟨Z', π', hR⟩ => ?_
      obtain ⟨π'', hR2⟩ := hR.openB (P := P) (k := fr + 1) (fs := fs.toList) hid fun q hq => by
        rw [t6]
        have h5 := h3 q hq
        rw [ho2] at hq
        have h6 := hn q.1 (List.mem_map_of_mem hq)
        rw [hdis q.1 (by omega) h6]; exact h6
      refine ⟨Z', π'', ?_⟩
      rw [ho2] at hR2
      have e : ((σ.app o.dst v ws0).app none .unk ((id, .box t (.st c (a7g P (fr + 1) fs.toList as).1)) :: mm :: ms)) = σ.app o.dst v ((id, .box t (.st c (a7g P (fr + 1) fs.toList as).1)) :: ((mm :: ms) ++ ws0)) := by
        cases hd : o.dst <;> simp [St.app, St.put]
      rw [e] at hR2
      exact hR2
    . cases ho
theorem c9n {t : TypeId} (hev : (d7l P fr t a).Ev σ m0 m v ws) : σ.mem fr = .never /\ ∃ m1, (b7i P fr t fr a (.ref fr) [(fr, .box t a)]).Ev σ m1 m v ws := by
  have hev : (match σ.mem fr with | .never => b7i P fr t fr a (.ref fr) [(fr, .box t a)] | _ => (.fail : U.Q)).Ev σ _ m v ws := hev
  split at hev
  . rename_i hn
    exact ⟨hn, _, hev⟩
  . exact hev.elim
theorem c9m {id i : Nat} {mc : U.MC} (h : i ≠ id) : lk i [(id, mc)] = none := by
  show (bif Nat.beq id i then some mc else none) = none
  cases hk : Nat.beq id i with
  | true => exact absurd (Nat.eq_of_beq_eq_true hk).symm h
  | false => rfl
theorem c62 {d : Option Tmp} {v : U.AV} {id : Nat} {mc : U.MC} : (σ.app d v [(id, mc)]).mem id = mc := by
  rw [t6]
  have : lk id [(id, mc)] = some mc := by
    show (bif Nat.beq id id then some mc else none) = _
    rw [show Nat.beq id id = true from Nat.beq_refl id]; rfl
  rw [this]
theorem c2j {o : Oper} {t : TypeId} (hg : a30 P E σ ρ w o (.ref fr) [(fr, .box t a)]) (hev : (b7i P fr t fr a (.ref fr) [(fr, .box t a)]).Ev σ m0 m v ws) : a30 P E σ ρ w o v ws :=
  b8v hg c62 (fun i hi _ => c9m (by omega)) hev
theorem d05 (h : Rel E Z π σ ρ w) {t : TypeId} (hx : AVR (cx Z π σ w) a (ev ρ x)) (hev : (match a84 P t a with | true => d7l P fr t a | false => (.fail : U.Q)).Ev σ m0 m v ws) :
    a30 P E σ ρ w ⟨d, .box t x, ty, ps, af, g⟩ v ws := by
  split at hev
  . rename_i hf
    obtain ⟨hn, m1, hev⟩ := c9n hev
    unfold a84 at hf
    simp only [Bool.and_eq_true] at hf
    have hx1 := a3t (a7b hf.1.1) hx
    refine c2j (a99 h (obj := .cells (ev ρ x).cells t) (v' := .pointer (some ⟨w.heap.size, 0, none⟩)) hn (by simp [execOp, Instr.box, newVar, newRow]) (fun h => by cases h) rfl rfl (fun b hb => hb) ?_) hev
    rintro X' hle hw hZ
    refine ⟨w.heap.size, ev ρ x, rfl, ?_, hx1.le hle⟩
    rw [hw]
    have := Mb.alloc w t (ev ρ x).cells.toList
    simpa using this
  . exact hev.elim
theorem b94 (hU : UOK U) {X : Cx} {gg : TypeId -> List Value -> Option U.AV} (hg : ∀ t cs a, gg t cs = some a -> ∃ u, u.cells.toList = cs /\ a0c X a u) : ∀ (fs : List Field) (cs : List Value) (as : List U.AV), d13 P gg fs cs = some as ->
    ∃ css : List (List Value), css.flatten = cs /\ i8 (fun a s => ∃ u, u.cells.toList = s /\ a0c X a u) as css
  | [], [], as, h => by cases h; exact ⟨[], rfl, trivial⟩
  | [], _ :: _, as, h => by cases h
  | f :: fs, cs, as, h => by
    simp only [d13] at h
    split at h
    . rename_i a ha
      split at h
      . rename_i as' has
        cases h
        obtain ⟨css, h1, h2⟩ := b94 hU hg fs _ as' has
        obtain ⟨u, hu, hr⟩ := hg _ _ _ ha
        exact ⟨cs.take (szT P f.type) :: css, by simp [h1], ⟨u, hu, b45 hU hr⟩, h2⟩
      . cases h
    . cases h
theorem c5g {X : Cx} {v : Value} {a : U.AV} (h : b07 v = some a) : a0c X a v /\ v.cells.toList = [v] := by
  unfold b07 at h
  split at h <;> first
    | (cases h; exact ⟨rfl, rfl⟩)
    | cases h
theorem c3i (hU : UOK U) {X : Cx} {c : U.C} {as : List U.AV} {a : U.AV} (h : d8b c as = some a) {css : List (List Value)} (hr : i8 (fun a s => ∃ u : Value, u.cells.toList = s /\ a0c X a u) as css) : a0c X a (.agg css.flatten.toArray) := by
  unfold d8b at h
  split at h
  . rename_i x hk
    obtain ⟨h1, h2⟩ := c6m hU hk
    split at h
    . cases h
      refine ⟨css, rfl, h2, h1, ?_⟩
      rename_i hany
      clear hk h2 hany
      induction as generalizing css with
      | nil => cases css with
        | nil => trivial
        | cons _ _ => exact hr.elim
      | cons a as ih => cases css with
        | nil => exact hr.elim
        | cons s css =>
          simp only [List.all_cons, Bool.and_eq_true] at h1
          obtain ⟨u, hu, hh⟩ := hr.1
          exact ⟨⟨u, hu, hh.to0 h1.1⟩, ih hr.2 h1.2⟩
    . cases h
      exact ⟨css.flatten, rfl, b6h hU hk hr⟩
  . cases h
theorem c0n (hU : UOK U) {X : Cx} {gg : TypeId -> List Value -> Option U.AV} (hg : ∀ t cs a, gg t cs = some a -> ∃ u, u.cells.toList = cs /\ a0c X a u) : ∀ (m : Nat) (e : TypeId) (cs : List Value) (as : List U.AV), d06 P gg m e cs = some as ->
    ∃ css : List (List Value), css.flatten = cs /\ i8 (fun a s => ∃ u, u.cells.toList = s /\ a0c X a u) as css
  | 0, e, [], as, h => by cases h; exact ⟨[], rfl, trivial⟩
  | 0, e, _ :: _, as, h => by cases h
  | m + 1, e, cs, as, h => by
    simp only [d06] at h
    split at h
    . rename_i a ha
      split at h
      . rename_i as' has
        cases h
        obtain ⟨css, h1, h2⟩ := c0n hU hg m e _ as' has
        obtain ⟨u, hu, hr⟩ := hg _ _ _ ha
        exact ⟨cs.take (szT P e) :: css, by simp [h1], ⟨u, hu, b45 hU hr⟩, h2⟩
      . cases h
    . cases h
theorem b27 (hU : UOK U) {X : Cx} : ∀ (n : Nat) (t : TypeId) (cs : List Value) (a : U.AV), c73 P n t cs = some a -> ∃ u, u.cells.toList = cs /\ a0c X a u
  | 0, _, _, _, h => by cases h
  | n + 1, t, cs, a, h => by
    simp only [c73] at h
    split at h
    . rename_i fs _
      split at h
      . rename_i c _
        split at h
        . rename_i as has
          split at h
          . obtain ⟨css, h1, h2⟩ := b94 hU (fun t cs a => b27 hU n t cs a) _ _ _ has
            exact ⟨.agg cs.toArray, by simp [Value.cells], by rw [<- h1]; exact c3i hU h h2⟩
          . cases h
        . cases h
      . cases h
    . rename_i m e _
      split at h
      . rename_i c _
        split at h
        . rename_i as has
          split at h
          . rename_i yv hag hk
            cases h
            obtain ⟨css, h1, h2⟩ := c0n hU (fun t cs a => b27 hU n t cs a) _ _ _ _ has
            exact ⟨.agg cs.toArray, by simp [Value.cells], cs, rfl, by rw [<- h1]; exact b6h hU hk h2⟩
          . cases h
        . cases h
      . cases h
    . split at h
      . obtain ⟨h1, h2⟩ := c5g (X := X) h
        exact ⟨_, h2, h1⟩
      . cases h
theorem c5q (hU : UOK U) (h : Rel E Z π σ ρ w) {t : TypeId} (hev : (match (b19 P t : Option U.AV) with | some a => (match a84 P t a with | true => d7l P fr t a | false => (.fail : U.Q)) | none => .fail).Ev σ m0 m v ws) :
    a30 P E σ ρ w ⟨d, .alloc t, ty, ps, af, g⟩ v ws := by
  split at hev
  case h_2 => exact hev.elim
  rename_i a ha
  split at hev
  case h_2 => exact hev.elim
  obtain ⟨hn, m1, hev⟩ := c9n hev
  unfold b19 at ha
  split at ha
  case h_2 => cases ha
  rename_i i hi
  split at ha
  case h_2 => cases ha
  rename_i zv hz
  refine c2j (a99 h (obj := .cells zv.cells t) (v' := .pointer (some ⟨w.heap.size, 0, none⟩)) hn ?_ (fun h => by cases h) rfl rfl (fun b hb => hb) ?_) hev
  . simp [execOp, Instr.alloc, zeroValue, typeInfo, hi, hz, newVar, newRow]
  . rintro X' hle hw hZ
    obtain ⟨u, hu, hr⟩ := b27 hU (X := X') _ _ _ _ ha
    refine ⟨w.heap.size, u, rfl, ?_, hr⟩
    rw [hw, hu]
    have := Mb.alloc w t zv.cells.toList
    simpa using this
end
end Go.SX
namespace Go.SX
open Go Go.PL
section
variable {P : Program} {U : Uni} {E : Env} {Z : Nat -> Prop} {π : Nat -> Value} {σ : U.St} {ρ : Nat -> Value} {w : World}
variable {d : Option Tmp} {ty : TypeId} {ps : String} {af : Array Edge} {g : Option (Nat × Bool)} {x y z : Operand} {m0 m : Nat} {a b v : U.AV} {ws : List (Nat × U.MC)} {fr : Nat}
theorem b6t {id i : Nat} {mc m' : U.MC} (h : lk i [(id, mc)] = some m') : i = id /\ m' = mc := by
  have := a4p h
  simp at this
  exact this
theorem c1y (id : Nat) (mc : U.MC) : lk id [(id, mc)] = some mc := by
  show (bif Nat.beq id id then some mc else none) = _
  rw [show Nat.beq id id = true from Nat.beq_refl id]; rfl
theorem Rel.set (h : Rel E Z π σ ρ w) {id : Nat} {mc : U.MC} {w' : World} {v' : Value} (hu : b0n σ id) (hnn : mc ≠ .never) (hE : Ext (fun b => MB (σ.mem id) (π id) b) w w')
    (hm : ∀ X' : Cx, (cx Z π σ w).Le X' -> X'.w = w' -> MR X' mc (π id)) (hb : ∀ b, MB mc (π id) b -> MB (σ.mem id) (π id) b) {d : Option Tmp} (ha : ∀ X' : Cx, (cx Z π σ w).Le X' -> AVR X' a v') :
    Rel E Z π (σ.app d a [(id, mc)]) (a5m ρ d v') w' := by
  have hle : (cx Z π σ w).Le (cx Z π (σ.app d a [(id, mc)]) w') := by
    refine ⟨fun _ hb => hb, hE.mono fun b hb hz => (h.own id b hb).1 hz, fun i hi => ⟨?_, rfl⟩⟩
    show (σ.app d a [(id, mc)]).mem i ≠ .never
    rw [t6]
    cases hl : lk i [(id, mc)] with
    | none => exact hi
    | some m' => obtain ⟨_, rfl⟩ := b6t hl; exact hnn
  refine h.next (hE.mono fun b hb => ⟨id, mc, c1y id mc, hb⟩) (fun _ hb => hb) (fun _ hb => .inl hb) (fun _ _ => rfl) (fun i m' hl => ?_) (fun i m' hl => ?_) (fun i m' b hl hb' => ?_) (fun i i' m1 m2 b hne hl hl' _ _ => ?_) (ha _ hle)
  . obtain ⟨_, rfl⟩ := b6t hl; exact hnn
  . obtain ⟨rfl, rfl⟩ := b6t hl; exact hm _ hle rfl
  . obtain ⟨rfl, rfl⟩ := b6t hl
    obtain ⟨h1, h2, h3⟩ := h.own i b (hb b hb')
    exact ⟨h1, Nat.lt_of_lt_of_le h2 hE.size, .inr ⟨i, _, c1y i _, hb b hb'⟩⟩
  . obtain ⟨rfl, rfl⟩ := b6t hl
    obtain ⟨rfl, rfl⟩ := b6t hl'
    exact hne rfl
theorem d0f (hU : UOK U) {X : Cx} {c : U.C} {as : List U.AV} {css : List (List Value)} (hlay : as.map m8 = U.lay c) (hp : as.all m4 = true) (hr : i8 (fun a s => ∃ u : Value, u.cells.toList = s /\ a7w X a u) as css) : (Value.agg css.flatten.toArray).cells.toList.length = U.n c := by
  show css.flatten.toArray.toList.length = _
  rw [a8d, d2g hr hp, hlay, hU.sum]
theorem b5q {X : Cx} {u : Value} (hp : a4r a = true) (h : a0c X a u) : (m4 a = true /\ a7w X a u) \/ ∃ c as css, a = .st c as /\ u = .agg css.flatten.toArray /\ as.map m8 = U.lay c /\ as.all m4 = true /\ i8 (fun a s => ∃ u : Value, u.cells.toList = s /\ a7w X a u) as css := by
  cases hs : a with
  | st c as =>
    subst hs
    obtain ⟨css, h1, h2, h3, h4⟩ := h
    exact .inr ⟨c, as, css, rfl, h1, h2, h3, h4⟩
  | _ =>
    subst hs
    first
      | (cases hp; done)
      | exact .inl ⟨rfl, a0c.to0 rfl h⟩
theorem c19 (hU : UOK U) {X : Cx} {u : Value} (hp : a4r a = true) (h : a0c X a u) : u.cells.toList.length = asz a := by
  rcases b5q hp h with ⟨h1, h2⟩ | ⟨c, as, css, rfl, rfl, hlay, hpp, hr⟩
  . exact b0j h1 h2
  . exact d0f hU hlay hpp hr
theorem c40 {X : Cx} {a : U.AV} {u : Value} (hp : m4 a = true) (h : a7w X a u) : ∀ q ∈ u.cells.toList, q.oneCell' = true := by
  cases hv : a2h a with
  | true =>
    cases a <;> try (cases hv; done)
    case st => exact h.elim
    obtain ⟨cs, hu, hr⟩ := h
    subst hu
    intro q hq
    exact d2v hr q (by simpa [Value.cells] using hq)
  | false =>
    have h1 : u.oneCell' = true := by
      cases a <;> first
        | (cases hp; done)
        | (cases hv; done)
        | (have h : u = _ := h; subst h; rfl)
        | exact c6s h
        | (obtain ⟨ad, cs, h, _⟩ := h; subst h; rfl)
        | (obtain ⟨_, _, h1⟩ := h; exact h1)
    rw [b5m h1]
    intro q hq
    simp at hq; subst hq; exact h1
theorem c17 {X : Cx} {u : Value} (hp : a4r a = true) (h : a0c X a u) : ∀ q ∈ u.cells.toList, q.oneCell' = true := by
  rcases b5q hp h with ⟨h1, h2⟩ | ⟨c, as, css, rfl, rfl, hlay, hpp, hr⟩
  . exact c40 h1 h2
  . intro q hq
    have hq : q ∈ css.flatten := by simpa [Value.cells] using hq
    clear hlay hp h
    induction as generalizing css with
    | nil => cases css with
      | nil => cases hq
      | cons _ _ => exact hr.elim
    | cons a as ih => cases css with
      | nil => exact hr.elim
      | cons s css =>
        simp only [List.all_cons, Bool.and_eq_true] at hpp
        rcases List.mem_append.1 (by simpa using hq : q ∈ s ++ css.flatten) with hq | hq
        . obtain ⟨u, hu, h0⟩ := hr.1
          exact c40 hpp.1 h0 q (by rw [hu]; exact hq)
        . exact ih css hpp.2 hr.2 (by simp [Value.cells] at hq ⊢; exact hq) hq
theorem b1g {α β : Type} {p : α -> β -> Prop} : ∀ {l : List α} {r : List β} (n : Nat) (a : α) (b : β), i8 p l r -> p a b -> i8 p (l.set n a) (r.set n b)
  | [], [], _, _, _, _, _ => trivial
  | _ :: _, _ :: _, 0, _, _, h, hp => ⟨hp, h.2⟩
  | _ :: _, _ :: _, n + 1, a, b, h, hp => ⟨h.1, b1g n a b h.2 hp⟩
  | [], _ :: _, _, _, _, h, _ => h.elim
  | _ :: _, [], _, _, _, h, _ => h.elim
theorem a6l : ∀ (css : List (List Value)) (n : Nat) (s t : List Value), css[n]? = some s -> t.length = s.length ->
    (css.set n t).flatten = css.flatten.take ((css.take n).flatten.length) ++ t ++ css.flatten.drop ((css.take n).flatten.length + t.length)
  | [], n, s, t, h, _ => by simp at h
  | c :: css, 0, s, t, h, hl => by
    simp at h; subst h
    simp [hl]
  | c :: css, n + 1, s, t, h, hl => by
    have ih := a6l css n s t (by simpa using h) hl
    simp only [List.set_cons_succ, List.flatten_cons, List.take_succ_cons, List.length_append, ih]
    rw [List.take_length_add_append, Nat.add_assoc, List.drop_length_add_append]
    simp only [List.append_assoc]
theorem c9s {cs : List Value} {o k o' : Nat} {t : List Value} (h1 : o + k <= cs.length) (h2 : o' + t.length <= k) :
    cs.take o ++ (((cs.drop o).take k).take o' ++ t ++ ((cs.drop o).take k).drop (o' + t.length)) ++ cs.drop (o + k) = cs.take (o + o') ++ t ++ cs.drop (o + o' + t.length) := by
  have e1 : ((cs.drop o).take k).take o' = (cs.drop o).take o' := by rw [List.take_take, Nat.min_eq_left (by omega)]
  have e2 : ((cs.drop o).take k).drop (o' + t.length) ++ cs.drop (o + k) = cs.drop (o + o' + t.length) := by
    rw [List.drop_take, List.drop_drop]
    have : cs.drop (o + k) = (cs.drop (o + (o' + t.length))).drop (k - (o' + t.length)) := by rw [List.drop_drop]; congr 1; omega
    rw [this, List.take_append_drop, Nat.add_assoc]
  rw [e1, List.take_add]
  simp only [List.append_assoc]
  rw [e2]
theorem c72 : ∀ (css : List (List Value)) (n : Nat) (s : List Value), css[n]? = some s -> (css.flatten.drop ((css.take n).flatten.length)).take s.length = s /\ (css.take n).flatten.length + s.length <= css.flatten.length
  | [], n, s, h => by simp at h
  | c :: css, 0, s, h => by
    simp at h; subst h
    simp
  | c :: css, n + 1, s, h => by
    obtain ⟨h1, h2⟩ := c72 css n s (by simpa using h)
    simp only [List.take_succ_cons, List.flatten_cons, List.length_append]
    refine ⟨?_, by omega⟩
    rw [List.drop_length_add_append]
    exact h1
def FV (X : Cx) (a : U.AV) (s : List Value) : Prop := s.length = asz a /\ ∃ u : Value, u.cells.toList = s /\ a0c X a u
theorem d6g {X : Cx} {as : List U.AV} {css : List (List Value)} (h : i8 (FV X) as css) (n : Nat) : (css.take n).flatten.length = (((as.map m8).take n).map osz).sum := by
  induction as generalizing css n with
  | nil => cases css with
    | nil => simp
    | cons _ _ => exact h.elim
  | cons a as ih => cases css with
    | nil => exact h.elim
    | cons c css => cases n with
      | zero => simp
      | succ n =>
        simp only [List.take_succ_cons, List.flatten_cons, List.length_append, List.map_cons, List.sum_cons, ih h.2 n, a4b, h.1.1]
theorem d0e {X : Cx} {c : U.C} {as : List U.AV} {css : List (List Value)} {n : Nat} {b1 b1' : U.AV} {o' : Nat} {t : List Value} (hall : i8 (FV X) as css) (hlay : as.map m8 = U.lay c) (hb : as[n]? = some b1) (hsz : asz b1 = asz b1')
    (hrec : ∀ s, css[n]? = some s -> FV X b1 s -> (∃ u1 : Value, u1.cells.toList = s.take o' ++ t ++ s.drop (o' + t.length) /\ a0c X b1' u1) /\ o' + t.length <= s.length) :
    ∃ css', i8 (FV X) (as.set n b1') css' /\ css'.flatten = css.flatten.take (off c n + o') ++ t ++ css.flatten.drop (off c n + o' + t.length) /\ off c n + o' + t.length <= css.flatten.length := by
  obtain ⟨s, hs, hv⟩ := hall.get hb
  obtain ⟨⟨u1, hu1, hr1⟩, hle⟩ := hrec s hs hv
  have hL : off c n = (css.take n).flatten.length := by rw [d6g hall n, hlay]; rfl
  obtain ⟨g1, g2⟩ := c72 css n s hs
  have hlen : u1.cells.toList.length = s.length := by
    rw [hu1]
    simp only [List.length_append, List.length_take, List.length_drop]
    omega
  refine ⟨css.set n u1.cells.toList, b1g n b1' _ hall ⟨by rw [hlen, hv.1, hsz], u1, rfl, hr1⟩, ?_, by omega⟩
  rw [a6l css n s _ hs hlen, hlen, <- hL, hu1]
  have := c9s (cs := css.flatten) (o := off c n) (k := s.length) (o' := o') (t := t) (by omega) hle
  rw [hL] at this ⊢
  rw [g1] at this
  exact this
theorem b1f (hU : UOK U) {X : Cx} {as : List U.AV} {css : List (List Value)} (h : i8 (c9 Rp X.G X.w) as css) : i8 (FV X) as css := h.mono fun a s hh => ⟨a5k hU hh, by
    obtain ⟨u, h1, h2⟩ := a0e hh
    exact ⟨u, h1, h2⟩⟩
theorem b37 {X : Cx} : ∀ {as : List U.AV} {css : List (List Value)}, as.all m4 = true -> i8 (fun a s => ∃ u : Value, u.cells.toList = s /\ a7w X a u) as css -> i8 (FV X) as css
  | [], [], _, _ => trivial
  | a :: as, s :: css, hp, h => by
    simp only [List.all_cons, Bool.and_eq_true] at hp
    obtain ⟨u, hu, hr⟩ := h.1
    exact ⟨⟨by rw [<- hu]; exact b0j hp.1 hr, u, hu, .of0 hr⟩, b37 hp.2 h.2⟩
  | [], _ :: _, _, h => h.elim
  | _ :: _, [], _, h => h.elim
theorem c3m {X : Cx} : ∀ {as : List U.AV} {css : List (List Value)}, as.all m4 = true -> i8 (FV X) as css -> i8 (fun a s => ∃ u : Value, u.cells.toList = s /\ a7w X a u) as css
  | [], [], _, _ => trivial
  | a :: as, s :: css, hp, h => by
    simp only [List.all_cons, Bool.and_eq_true] at hp
    obtain ⟨_, u, hu, hr⟩ := h.1
    exact ⟨⟨u, hu, hr.to0 hp.1⟩, c3m hp.2 h.2⟩
  | [], _ :: _, _, h => h.elim
  | _ :: _, [], _, h => h.elim
theorem c8j {α β : Type} (f : α -> β) : ∀ (l : List α) (n : Nat) (a b : α), l[n]? = some a -> f b = f a -> (l.set n b).map f = l.map f
  | [], n, a, b, h, _ => by simp at h
  | x :: l, 0, a, b, h, e => by simp at h; subst h; simp [e]
  | x :: l, n + 1, a, b, h, e => by simp only [List.set_cons_succ, List.map_cons]; rw [c8j f l n a b (by simpa using h) e]
theorem c9i {α : Type} (p : α -> Bool) : ∀ (l : List α) (n : Nat) (b : α), l.all p = true -> p b = true -> (l.set n b).all p = true
  | [], n, b, _, _ => rfl
  | x :: l, 0, b, h, e => by simp only [List.all_cons, Bool.and_eq_true, List.set_cons_zero] at h ⊢; exact ⟨e, h.2⟩
  | x :: l, n + 1, b, h, e => by simp only [List.all_cons, Bool.and_eq_true, List.set_cons_succ] at h ⊢; exact ⟨h.1, c9i p l n b h.2 e⟩
theorem b7g {a b : U.AV} (h : b8a a b = true) : m8 a = m8 b := by
  unfold b8a at h
  split at h
  . rename_i h1 h2; rw [h1, h2]
  . rename_i c c' h1 h2
    rw [h1, h2, a8l h]
  . cases h
theorem b3a (hU : UOK U) {X : Cx} {ub : Value} (hb : a0c X b ub) (hp : a4r b = true) : ∀ (p : List PE) (a : U.AV) (c : U.C) (cs : List Value) (a' : U.AV), cs.length = asz a -> (p ≠ [] -> ∃ u : Value, u.cells.toList = cs /\ a0c X a u) -> b5s b a p = some a' -> (p = [] \/ m8 a = some c) -> asz a = asz a' ->
    (∃ u', u'.cells.toList = cs.take (a5n c p) ++ ub.cells.toList ++ cs.drop (a5n c p + ub.cells.toList.length) /\ a0c X a' u') /\ a5n c p + ub.cells.toList.length <= cs.length /\ (p = [] -> a' = b)
  | [], a, c, cs, a', hl, _, hup, _, hsz => by
    cases hup
    have h1 := c19 hU hp hb
    refine ⟨⟨ub, ?_, hb⟩, ?_, fun _ => rfl⟩
    . simp only [a5n, List.take_zero, List.nil_append, Nat.zero_add]
      rw [List.drop_eq_nil_of_le (by omega), List.append_nil]
    . simp only [a5n]; omega
  | .f n :: p, a, c, cs, a', hl, hr, hup, hc, hsz => by
    replace hc : m8 a = some c := hc.resolve_left (fun h => by cases h)
    obtain ⟨u, hu, hr0⟩ := hr (by simp)
    clear hr
    have go : ∀ (as : List U.AV) (css : List (List Value)) (b1 b1' : U.AV), i8 (FV X) as css -> as.map m8 = U.lay c -> css.flatten = cs -> as[n]? = some b1 -> b5s b b1 p = some b1' -> asz b1 = asz b1' ->
        ∃ css', i8 (FV X) (as.set n b1') css' /\ css'.flatten = cs.take (a5n c (.f n :: p)) ++ ub.cells.toList ++ cs.drop (a5n c (.f n :: p) + ub.cells.toList.length) /\ a5n c (.f n :: p) + ub.cells.toList.length <= cs.length := by
      intro as css b1 b1' hall hlay hcs hb1 hb2 hsb
      have hcode : (U.lay c)[n]? = some (m8 b1) := by rw [<- hlay, List.getElem?_map, hb1]; rfl
      have hpre : p = [] \/ m8 b1 = some ((m8 b1).getD c) := by
        cases p with
        | nil => exact .inl rfl
        | cons q p =>
          right
          cases b1 <;> first
            | rfl
            | (cases q <;> cases hb2)
      have hoff : a5n c (.f n :: p) = off c n + a5n ((m8 b1).getD c) p := by
        simp only [a5n, hcode]
        cases hcb : m8 b1 with
        | some c1 => rfl
        | none =>
          rcases hpre with rfl | h1
          . rfl
          . rw [hcb] at h1; cases h1
      rw [hoff]
      subst hcs
      refine d0e hall hlay hb1 hsb fun s hs hv => ?_
      obtain ⟨h1, h2, _⟩ := b3a hU hb hp p b1 ((m8 b1).getD c) s b1' hv.1 (fun _ => hv.2) hb2 hpre hsb
      exact ⟨h1, h2⟩
    cases a <;> try (cases hc; done)
    case val c' xv =>
      cases hc
      simp only [b5s] at hup
      split at hup
      . rename_i b1 hb1
        split at hup
        . rename_i b1' hb2
          split at hup
          . rename_i hszb
            simp only [Bool.and_eq_true] at hszb
            cases hmk : U.mkv c ((U.flds c xv).set n b1') with
            | none => rw [hmk] at hup; cases hup
            | some yv =>
              rw [hmk] at hup
              cases hup
              obtain ⟨cs0, hcs0, hrep⟩ := hr0
              rw [hcs0] at hu
              have hu : cs0 = cs := by simpa [Value.cells] using hu
              subst hu
              obtain ⟨_, css, hcs, hall⟩ := a8k.1 hrep
              obtain ⟨css', h1, h2, h3⟩ := go _ css b1 b1' (b1f hU hall) (hU.lay c xv) hcs.symm hb1 hb2 (Nat.eq_of_beq_eq_true hszb.1)
              refine ⟨⟨.agg css'.flatten.toArray, by rw [<- h2]; simp [Value.cells], css'.flatten, rfl, b6h hU hmk (h1.mono fun _ _ h => h.2)⟩, h3, fun h => by cases h⟩
          . cases hup
        . cases hup
      . cases hup
    case st c' as =>
      cases hc
      simp only [b5s] at hup
      split at hup
      . rename_i b1 hb1
        split at hup
        . rename_i b1' hb2
          split at hup
          . rename_i hsc
            simp only [Bool.and_eq_true] at hsc
            have hco := b7g hsc.1
            cases hup
            obtain ⟨css, hcs0, hlay, hpp, hrr⟩ := hr0
            rw [hcs0] at hu
            have hu : css.flatten = cs := by simpa [Value.cells] using hu
            obtain ⟨css', h1, h2, h3⟩ := go _ css b1 b1' (b37 hpp hrr) hlay hu hb1 hb2 (by rw [<- a4b, <- a4b, hco])
            have hpp' := c9i m4 as n b1' hpp hsc.2
            refine ⟨⟨.agg css'.flatten.toArray, by rw [<- h2]; simp [Value.cells], css', rfl, ?_, hpp', c3m hpp' h1⟩, h3, fun h => by cases h⟩
            rw [c8j m8 as n b1 b1' hb1 hco.symm]; exact hlay
          . cases hup
        . cases hup
      . cases hup
  | .i n :: p, a, c, cs, a', hl, hr, hup, hc, hsz => by
    cases a <;> cases hup
theorem a4e {t : TypeId} (h : a84 P t a = true) : a4r a = true /\ d63 P t (a2h a) = true /\ c9b P t (asz a) = true := by
  unfold a84 at h
  simp only [Bool.and_eq_true] at h
  exact ⟨h.1.1, h.1.2, h.2⟩
theorem b4e (hU : UOK U) {t : TypeId} {u : Value} (hf : a84 P t a = true) {X : Cx} (h : a0c X a u) (ad : Addr) (w : World) : (Instr.storeAt t (.pointer (some ad)) u).run P w = (storeCells ad u.cells.toList).run P w := by
  obtain ⟨hp, _, hs⟩ := a4e hf
  have hl := c19 hU hp h
  simp [Instr.storeAt, Instr.sureAddr, storeVar, a8b hs, <- hl]
theorem b8f {G : Nat -> Prop} {o : Oper} {Φ : World -> Prop} (h : ∀ (F : List Fact) (p : Plan), F[0]? = some (0, fun _ w' => Φ w') -> p.mu.contains 0 = true -> n9 P ⟨none, o.op, o.type, o.pos, o.after, o.guard⟩ (ev ρ) w fun v w' => Ext (if p.mu.contains 0 then G else noG) w w' /\ a3b F 0 (a5m ρ none v) w') :
    n9 P o (ev ρ) w fun v w' => Ext G w w' /\ Φ w' := by
  have h1 := h [(0, fun _ w' => Φ w')] (.plain [] [] [] [0] []) rfl rfl
  exact h1.mono fun v w' ⟨h2, h3⟩ => ⟨h2, h3⟩
theorem c05 (hU : UOK U) (h : Rel E Z π σ ρ w) {t t0 : TypeId} {id : Nat} {c : U.C} {p : List PE} {a0 a1 : U.AV} {ub : Value} {ad : Addr} (hmem : σ.mem id = .box t0 a0) (hc : p = [] \/ m8 a0 = some c)
    (hf : a84 P t b = true) (hup : b5s b a0 p = some a1) (hsz : (Nat.beq (asz a0) (asz a1) && (a2h a0 == a2h a1) && a4r a0) = true) (hb : a0c (cx Z π σ w) b ub) (hy : ev ρ y = ub) (had : b34 (π id) = some ad) (hx : ev ρ x = .pointer (some (ad.add (a5n c p)))) (hu : b0n σ id) :
    a30 P E σ ρ w ⟨d, .store t x y, ty, ps, af, g⟩ .undef [(id, .box t0 a1)] := by
  have hm := h.mem id
  rw [hmem] at hm
  obtain ⟨blk, u, hv, hM, ha⟩ := hm
  rw [hv] at had
  cases had
  simp only [Bool.and_eq_true] at hsz
  have hpl := hsz.2
  have hlen := c19 hU hpl ha
  have hfr : p ≠ [] -> ∃ u' : Value, u'.cells.toList = u.cells.toList /\ a0c (cx Z π σ w) a0 u' := fun hp => ⟨u, rfl, ha⟩
  obtain ⟨⟨u', hu', hr'⟩, hle, _⟩ := b3a hU hb (a4e hf).1 p a0 c _ a1 hlen hfr hup hc (Nat.eq_of_beq_eq_true hsz.1.1)
  have hY := b8f (P := P) (ρ := ρ) (w := w) (G := fun q => q = blk) (o := ⟨d, .store t x y, ty, ps, af, g⟩) (Φ := fun w' => Mb w' blk t0 (u.cells.toList.take (a5n c p) ++ ub.cells.toList ++ u.cells.toList.drop (a5n c p + ub.cells.toList.length)))
    fun F pl hF hmu => a9t hF hmu (fun _ h => h) hx rfl hy hM (fun ad w => b4e hU hf hb ad w) hle rfl (c17 (a4e hf).1 hb)
  unfold a30
  have hY2 : n9 P ⟨d, .store t x y, ty, ps, af, g⟩ (ev ρ) w fun v w' => v = undef /\ Ext (fun q => q = blk) w w' /\ Mb w' blk t0 (u.cells.toList.take (a5n c p) ++ ub.cells.toList ++ u.cells.toList.drop (a5n c p + ub.cells.toList.length)) := by
    unfold n9 at hY ⊢
    simp only [execOp, Sem.run_bind] at hY ⊢
    cases hr : (Instr.storeAt t (ev ρ x) (ev ρ y)).run P w with
    | halt h0 w0 => rw [hr] at hY; exact hY.elim
    | ok v0 w0 => rw [hr] at hY; exact ⟨trivial, hY⟩
  refine hY2.mono fun v w' ⟨hv0, hE, hM'⟩ => ⟨Z, π, ?_⟩
  subst hv0
  refine h.set hu (fun h => by cases h) (hE.mono fun q hq => ?_) (fun X' hX hw => ?_) (fun q hq => ?_) (fun X' hX => rfl)
  . subst hq; rw [hmem, hv]; rfl
  . rw [hv]
    refine ⟨blk, u', rfl, ?_, hr'.le hX⟩
    rw [hw, hu']; exact hM'
  . rw [hmem]; exact hq
theorem c9k {a0 : U.AV} {p : List PE} {a1 : U.AV} (hup : b5s b a0 p = some a1) : p = [] \/ ∃ c, m8 a0 = some c := by
  cases p with
  | nil => exact .inl rfl
  | cons q p => cases a0 <;> first
    | exact .inr ⟨_, rfl⟩
    | (cases q <;> cases hup)
theorem c9a {α β : Type} {p : α -> β -> Prop} {l : List α} {r : List β} {n : Int} {a : α} {b : β} (h : i8 p l r) (hp : p a b) : i8 p (b01 l n a) (b01 r n b) := by
  unfold b01
  split
  . exact b1g _ _ _ h hp
  . exact h
theorem d0q (hU : UOK U) (h : Rel E Z π σ ρ w) {t e : TypeId} {id : Nat} {c : U.C} {p : List PE} {l : List (U.T c)} {n : Int} {y0 y1 : U.T c} {a1 : U.AV} {ub : Value} {ad : Addr} (hmem : σ.mem id = .sl e c l) (hget : m7 l n = some y0)
    (hf : a84 P t b = true) (hup : b5s b (inj c y0) p = some a1) (hprj : prj c a1 = some y1) (hb : a0c (cx Z π σ w) b ub) (hy : ev ρ y = ub) (had : b34 (π id) = some ad) (hx : ev ρ x = .pointer (some (ad.add (a5n c (.i n :: p))))) (hu : b0n σ id) :
    a30 P E σ ρ w ⟨d, .store t x y, ty, ps, af, g⟩ .undef [(id, .sl e c (b01 l n y1))] := by
  have hm := h.mem id
  rw [hmem] at hm
  obtain ⟨css, hO, hr⟩ := hm
  obtain ⟨r0, hr0, hrep⟩ := b0r hr hget
  obtain ⟨ad', cap, hv, hi, hca⟩ := Own.elem hO hr0
  rw [hv] at had
  cases had
  obtain ⟨hk1, hk2, hk3⟩ := a1q hU c y0
  have hps := b84 hU hprj
  have hc : p = [] \/ m8 (inj c y0 : U.AV) = some c := by
    cases hag : U.ag c with
    | true => right; simp [inj, hag, m8]
    | false =>
      left
      rcases c9k hup with h | ⟨c1, h⟩
      . exact h
      . rw [hag] at hk2
        cases hi : (inj c y0 : U.AV) <;> rw [hi] at h hk2 <;> first
          | (cases h; done)
          | (cases hk2; done)
  obtain ⟨⟨u', hu', hr'⟩, hle, _⟩ := b3a hU hb (a4e hf).1 p (inj c y0) c r0.1 a1 (by rw [r0.2.1, hk3]) (fun _ => by obtain ⟨u, h1, h2⟩ := c6l hU (X := cx Z π σ w) hrep; exact ⟨u, h1, h2⟩) hup hc (by rw [hk3, hps.1])
  have hrep1 := a8y hU hprj hr'
  have hY := b8f (P := P) (ρ := ρ) (w := w) (G := fun q => (π id).ownBlock = some q) (o := ⟨d, .store t x y, ty, ps, af, g⟩) (Φ := fun w' => Own 0 e (U.n c) Subtype.val w' (π id) (b01 css n (c0l hrep1)))
    fun F pl hF hmu => b1n (off := a5n c p) (y0 := r0) hF hmu (fun _ h => h) (fun r => r.2.1) hx hv (by simp only [a5n]) hy hO hr0 (fun ad w => b4e hU hf hb ad w) (by rw [<- r0.2.1]; exact hle) (by rw [show (c0l hrep1).1 = u'.cells.toList from rfl, hu']) (c17 (a4e hf).1 hb)
  have hY2 : n9 P ⟨d, .store t x y, ty, ps, af, g⟩ (ev ρ) w fun v w' => v = undef /\ Ext (fun q => (π id).ownBlock = some q) w w' /\ Own 0 e (U.n c) Subtype.val w' (π id) (b01 css n (c0l hrep1)) := by
    unfold n9 at hY ⊢
    simp only [execOp, Sem.run_bind] at hY ⊢
    cases hr : (Instr.storeAt t (ev ρ x) (ev ρ y)).run P w with
    | halt h0 w0 => rw [hr] at hY; exact hY.elim
    | ok v0 w0 => rw [hr] at hY; exact ⟨trivial, hY⟩
  refine hY2.mono fun v w' ⟨hv0, hE, hO'⟩ => ⟨Z, π, ?_⟩
  subst hv0
  refine h.set hu (fun h => by cases h) (hE.mono fun q hq => ?_) (fun X' hX hw => ?_) (fun q hq => ?_) (fun X' hX => rfl)
  . rw [hmem]; exact (a8n hv).1 hq
  . refine ⟨_, by rw [hw]; exact hO', ?_⟩
    exact c9a (hr.mono fun r x hh => b1m hX hh) (b1m hX hrep1)
  . rw [hmem]; exact hq
theorem c88 (hU : UOK U) (h : Rel E Z π σ ρ w) {t t0 : TypeId} {id : Nat} {ca : U.C} {p : List PE} {xv : U.T ca} {n : Int} {y0 y1 : U.T (U.ae ca)} {a1 : U.AV} {ub : Value} {ad : Addr} (hmem : σ.mem id = .box t0 (.val ca xv)) (hA : U.isA ca = true) (hget : m7 (U.al ca xv) n = some y0)
    (hf : a84 P t b = true) (hup : b5s b (inj (U.ae ca) y0) p = some a1) (hprj : prj (U.ae ca) a1 = some y1) (hb : a0c (cx Z π σ w) b ub) (hy : ev ρ y = ub) (had : b34 (π id) = some ad) (hx : ev ρ x = .pointer (some (ad.add (a5n (U.ae ca) (.i n :: p))))) (hu : b0n σ id) :
    a30 P E σ ρ w ⟨d, .store t x y, ty, ps, af, g⟩ .undef [(id, .box t0 (.val ca (U.as ca xv n y1)))] := by
  have hm := h.mem id
  rw [hmem] at hm
  obtain ⟨blk, u, hv, hM, ha⟩ := hm
  rw [hv] at had
  cases had
  obtain ⟨cs, hcs, hrep⟩ := ha
  obtain ⟨_, css, hcss, hall⟩ := a8k.1 hrep
  rw [(hU.arr ca xv hA).1] at hall
  obtain ⟨h0, hg1, hg2⟩ := c2i (inj (U.ae ca)) hget
  obtain ⟨s, hs, hfs⟩ := hall.get hg1
  have ht := b7e hU (U.al ca xv) css n.toNat hall (Nat.le_of_lt hg2)
  have hk3 := (a1q hU (U.ae ca) y0).2.2
  have hps := b84 hU hprj
  have hc : p = [] \/ m8 (inj (U.ae ca) y0 : U.AV) = some (U.ae ca) := by
    have hk2 := (a1q hU (U.ae ca) y0).2.1
    cases hag : U.ag (U.ae ca) with
    | true => right; simp [inj, hag, m8]
    | false =>
      left
      rcases c9k hup with h | ⟨c1, h⟩
      . exact h
      . rw [hag] at hk2
        cases hi : (inj (U.ae ca) y0 : U.AV) <;> rw [hi] at h hk2 <;> first
          | (cases h; done)
          | (cases hk2; done)
  have hsl : s.length = asz (inj (U.ae ca) y0) := a5k hU hfs
  obtain ⟨⟨u', hu', hr'⟩, hle, _⟩ := b3a hU hb (a4e hf).1 p (inj (U.ae ca) y0) (U.ae ca) s a1 hsl (fun _ => by obtain ⟨u, h1, h2⟩ := a0e (X := cx Z π σ w) hfs; exact ⟨u, h1, h2⟩) hup hc (by rw [hk3, hps.1])
  have hrep1 := a8y hU hprj hr'
  have hul : u'.cells.toList.length = s.length := by
    rw [hu']
    simp only [List.length_append, List.length_take, List.length_drop]
    omega
  obtain ⟨q1, q2⟩ := c72 css n.toNat s hs
  have hnew : (css.set n.toNat u'.cells.toList).flatten = cs.take (n.toNat * U.n (U.ae ca) + a5n (U.ae ca) p) ++ ub.cells.toList ++ cs.drop (n.toNat * U.n (U.ae ca) + a5n (U.ae ca) p + ub.cells.toList.length) := by
    rw [a6l css n.toNat s _ hs hul, hul, hu', <- hcss]
    have := c9s (cs := css.flatten) (o := (css.take n.toNat).flatten.length) (k := s.length) (o' := a5n (U.ae ca) p) (t := ub.cells.toList) q2 hle
    rw [q1] at this
    rw [ht] at this ⊢
    rw [hcss]
    exact this
  have hL : n.toNat * U.n (U.ae ca) + a5n (U.ae ca) p + ub.cells.toList.length <= cs.length := by
    rw [hcss, <- ht]; omega
  have hY := b8f (P := P) (ρ := ρ) (w := w) (G := fun q => q = blk) (o := ⟨d, .store t x y, ty, ps, af, g⟩) (Φ := fun w' => Mb w' blk t0 (cs.take (n.toNat * U.n (U.ae ca) + a5n (U.ae ca) p) ++ ub.cells.toList ++ cs.drop (n.toNat * U.n (U.ae ca) + a5n (U.ae ca) p + ub.cells.toList.length)))
    fun F pl hF hmu => a9t hF hmu (fun _ h => h) hx rfl hy (show Mb w blk t0 cs by have h9 : Mb w blk t0 u.cells.toList := hM; rw [hcs] at h9; simpa [Value.cells] using h9) (fun ad w => b4e hU hf hb ad w) hL rfl (c17 (a4e hf).1 hb)
  have hY2 : n9 P ⟨d, .store t x y, ty, ps, af, g⟩ (ev ρ) w fun v w' => v = undef /\ Ext (fun q => q = blk) w w' /\ Mb w' blk t0 (cs.take (n.toNat * U.n (U.ae ca) + a5n (U.ae ca) p) ++ ub.cells.toList ++ cs.drop (n.toNat * U.n (U.ae ca) + a5n (U.ae ca) p + ub.cells.toList.length)) := by
    unfold n9 at hY ⊢
    simp only [execOp, Sem.run_bind] at hY ⊢
    cases hr : (Instr.storeAt t (ev ρ x) (ev ρ y)).run P w with
    | halt h0 w0 => rw [hr] at hY; exact hY.elim
    | ok v0 w0 => rw [hr] at hY; exact ⟨trivial, hY⟩
  refine hY2.mono fun v w' ⟨hv0, hE, hM'⟩ => ⟨Z, π, ?_⟩
  subst hv0
  refine h.set hu (fun h => by cases h) (hE.mono fun q hq => ?_) (fun X' hX hw => ?_) (fun q hq => ?_) (fun X' hX => rfl)
  . subst hq; rw [hmem, hv]; rfl
  . rw [hv]
    refine ⟨blk, .agg (css.set n.toNat u'.cells.toList).flatten.toArray, rfl, ?_, (css.set n.toNat u'.cells.toList).flatten, rfl, ?_⟩
    . rw [hw]
      have : (Value.agg (css.set n.toNat u'.cells.toList).flatten.toArray).cells.toList = (css.set n.toNat u'.cells.toList).flatten := by simp [Value.cells]
      rw [this, hnew]; exact hM'
    . refine b9x hU ?_
      rw [(hU.arr ca _ hA).1, hU.ars ca xv n y1 hA]
      have e : (b01 (U.al ca xv) n y1).map (inj (U.ae ca)) = ((U.al ca xv).map (inj (U.ae ca))).set n.toNat (inj (U.ae ca) y1) := by
        unfold b01
        rw [if_pos h0, List.map_set]
      rw [e]
      exact b1g _ _ _ (hall.mono fun a s hh => hh.le hX) (a7o hU (b1m hX hrep1))
  . rw [hmem]; exact hq
theorem c3t (hU : UOK U) (h : Rel E Z π σ ρ w) {t : TypeId} {id : Nat} {c : U.C} {p : List PE} {ub : Value} {ad : Addr} (hf : a84 P t b = true) (hy1 : a0c (cx Z π σ w) b ub) (hyv : ev ρ y = ub) (hu : b0n σ id) (had : b34 (π id) = some ad) (hv : ev ρ x = .pointer (some (ad.add (a5n c p)))) (hcm : b0o c (σ.mem id) p = true)
    (hev : (c5t (σ.mem id) p b fun m' => (Q.done .undef [(id, m')] : U.Q)).Ev σ m0 m v ws) : a30 P E σ ρ w ⟨d, .store t x y, ty, ps, af, g⟩ v ws := by
  cases hmem : σ.mem id <;> rw [hmem] at hev hcm <;> try exact hev.elim
  case box t0 a0 =>
    have gen : (match b5s b a0 p with
        | some a' => (match Nat.beq (asz a0) (asz a') && (a2h a0 == a2h a') && a4r a0 with | true => Q.done .undef [(id, .box t0 a')] | false => .fail)
        | none => (.fail : U.Q)).Ev σ m0 m v ws -> d5i c (.box t0 a0) = true -> a30 P E σ ρ w ⟨d, .store t x y, ty, ps, af, g⟩ v ws := by
      intro hev hcm
      split at hev
      . rename_i a1 hup
        split at hev
        . rename_i hs
          obtain ⟨hm1, rfl, rfl⟩ := hev
          refine c05 hU h hmem (.inr ?_) hf hup hs hy1 hyv had hv hu
          clear hup hs hmem
          cases a0 <;> try (cases hcm; done)
          all_goals
            have := a8l hcm
            subst this
            rfl
        . exact hev.elim
      . exact hev.elim
    cases p with
    | nil => exact gen (by cases a0 <;> exact hev) (by cases a0 <;> exact hcm)
    | cons q p => cases q with
      | f n => exact gen (by cases a0 <;> exact hev) (by cases a0 <;> exact hcm)
      | i n =>
        have plain : (match b5s b a0 (.i n :: p) with
            | some a' => (match Nat.beq (asz a0) (asz a') && (a2h a0 == a2h a') && a4r a0 with | true => Q.done .undef [(id, .box t0 a')] | false => .fail)
            | none => (.fail : U.Q)).Ev σ m0 m v ws -> a30 P E σ ρ w ⟨d, .store t x y, ty, ps, af, g⟩ v ws := by
          intro hev
          have : b5s b a0 (.i n :: p) = none := by cases a0 <;> rfl
          rw [this] at hev; exact hev.elim
        cases a0 <;> try exact plain hev
        rename_i ca xv
        have hev : (match U.isA ca with
          | true => Q.opt (m7 (U.al ca xv) n) fun y => (match b5s b (inj (U.ae ca) y) p with
            | some a' => (match prj (U.ae ca) a' with | some y' => Q.done .undef [(id, .box t0 (.val ca (U.as ca xv n y')))] | none => .fail)
            | none => .fail)
          | false => (.fail : U.Q)).Ev σ m0 m v ws := hev
        have hcm : (U.isA ca && eqC c (U.ae ca)) = true := hcm
        simp only [Bool.and_eq_true] at hcm
        rw [hcm.1] at hev
        obtain ⟨y0, hy0, hev⟩ := hev
        have hcc := a8l hcm.2
        subst hcc
        dsimp only at hev
        split at hev
        . rename_i a1 hup
          split at hev
          . rename_i y1 hprj
            obtain ⟨hm1, rfl, rfl⟩ := hev
            exact c88 hU h hmem hcm.1 hy0 hf hup hprj hy1 hyv had hv hu
          . exact hev.elim
        . exact hev.elim
  case sl e c' l =>
    have := a8l hcm
    subst this
    cases p with
    | nil => exact hev.elim
    | cons q p => cases q with
      | f n => exact hev.elim
      | i n =>
        obtain ⟨y0, hy0, hev⟩ := hev
        dsimp only at hev
        split at hev
        . rename_i a1 hup
          split at hev
          . rename_i y1 hprj
            obtain ⟨hm1, rfl, rfl⟩ := hev
            exact d0q hU h hmem hy0 hf hup hprj hy1 hyv had hv hu
          . exact hev.elim
        . exact hev.elim
theorem d4n {mm : U.MC} {p : List PE} {k : U.MC -> U.Q} (hev : (c5t mm p b k).Ev σ m0 m v ws) : ∃ m' m1, (k m').Ev σ m1 m v ws /\ ∀ (σ2 : U.St) (k2 : U.MC -> U.Q) (m2 : Nat) (v2 : U.AV) (ws2 : List (Nat × U.MC)), (k2 m').Ev σ2 m1 m2 v2 ws2 -> (c5t mm p b k2).Ev σ2 m1 m2 v2 ws2 := by
  cases mm <;> try exact hev.elim
  case box t0 a0 =>
    have arr : ∀ (ca : U.C) (xv : U.T ca) (n : Int) (p' : List PE), a0 = .val ca xv -> p = .i n :: p' -> ∃ m' m1, (k m').Ev σ m1 m v ws /\ ∀ (σ2 : U.St) (k2 : U.MC -> U.Q) (m2 : Nat) (v2 : U.AV) (ws2 : List (Nat × U.MC)), (k2 m').Ev σ2 m1 m2 v2 ws2 -> (c5t (.box t0 a0) p b k2).Ev σ2 m1 m2 v2 ws2 := by
      intro ca xv n p' e1 e2
      subst e1; subst e2
      have hev : (match U.isA ca with
        | true => Q.opt (m7 (U.al ca xv) n) fun y => (match b5s b (inj (U.ae ca) y) p' with
          | some a' => (match prj (U.ae ca) a' with | some y' => k (.box t0 (.val ca (U.as ca xv n y'))) | none => .fail)
          | none => .fail)
        | false => (.fail : U.Q)).Ev σ m0 m v ws := hev
      split at hev
      . rename_i hA
        obtain ⟨y0, hy0, hev⟩ := hev
        dsimp only at hev
        split at hev
        . rename_i a1 hup
          split at hev
          . rename_i y1 hprj
            refine ⟨_, _, hev, fun σ2 k2 m2 v2 ws2 h2 => ?_⟩
            show (match U.isA ca with
              | true => Q.opt (m7 (U.al ca xv) n) fun y => (match b5s b (inj (U.ae ca) y) p' with
                | some a' => (match prj (U.ae ca) a' with | some y' => k2 (.box t0 (.val ca (U.as ca xv n y'))) | none => .fail)
                | none => .fail)
              | false => (.fail : U.Q)).Ev σ2 _ _ _ _
            rw [hA]
            refine ⟨y0, hy0, ?_⟩
            dsimp only
            rw [hup]
            dsimp only
            rw [hprj]; exact h2
          . exact hev.elim
        . exact hev.elim
      . exact hev.elim
    have hb : (∃ ca xv n p', a0 = .val ca xv /\ p = .i n :: p') \/ ∀ kk : U.MC -> U.Q, c5t (.box t0 a0) p b kk = (match b5s b a0 p with
      | some a' => (match Nat.beq (asz a0) (asz a') && (a2h a0 == a2h a') && a4r a0 with | true => kk (.box t0 a') | false => .fail)
      | none => (.fail : U.Q)) := by
      cases a0
      case val ca xv =>
        cases p with
        | nil => exact .inr fun _ => rfl
        | cons q p => cases q with
          | f n => exact .inr fun _ => rfl
          | i n => exact .inl ⟨_, _, n, p, rfl, rfl⟩
      all_goals exact .inr fun _ => by cases p <;> rfl
    rcases hb with ⟨ca, xv, n, p', e1, e2⟩ | hb
    . exact arr ca xv n p' e1 e2
    rw [hb k] at hev
    have hev : (match b5s b a0 p with
      | some a' => (match Nat.beq (asz a0) (asz a') && (a2h a0 == a2h a') && a4r a0 with | true => k (.box t0 a') | false => .fail)
      | none => (.fail : U.Q)).Ev σ _ m v ws := hev
    split at hev
    . rename_i a1 hup
      split at hev
      . rename_i hs
        refine ⟨_, _, hev, fun σ2 k2 m2 v2 ws2 h2 => ?_⟩
        rw [hb k2]
        show (match b5s b a0 p with
          | some a' => (match Nat.beq (asz a0) (asz a') && (a2h a0 == a2h a') && a4r a0 with | true => k2 (.box t0 a') | false => .fail)
          | none => (.fail : U.Q)).Ev σ2 _ _ _ _
        rw [hup]
        dsimp only
        rw [hs]; exact h2
      . exact hev.elim
    . exact hev.elim
  case sl e c l =>
    cases p with
    | nil => exact hev.elim
    | cons q p => cases q with
      | f n => exact hev.elim
      | i n =>
        obtain ⟨y0, hy0, hev⟩ := hev
        dsimp only at hev
        split at hev
        . rename_i a1 hup
          split at hev
          . rename_i y1 hprj
            refine ⟨_, _, hev, fun σ2 k2 m2 v2 ws2 h2 => ⟨y0, hy0, ?_⟩⟩
            dsimp only
            rw [hup]
            dsimp only
            rw [hprj]; exact h2
          . exact hev.elim
        . exact hev.elim
theorem c5c (hU : UOK U) (h : Rel E Z π σ ρ w) {t : TypeId} (hx : AVR (cx Z π σ w) a (ev ρ x)) (hy : AVR (cx Z π σ w) b (ev ρ y)) (hev : (c74 P fr t a b).Ev σ m0 m v ws) : a30 P E σ ρ w ⟨d, .store t x y, ty, ps, af, g⟩ v ws := by
  unfold c74 at hev
  split at hev
  case h_2 => exact hev.elim
  rename_i hf
  have hy1 := a3t (a7b (a4e hf).1) hy
  split at hev
  . rename_i id
    have hev : (c5t (σ.mem id) [] b fun m' => (match m' with
      | .box t' a => b7i P fr t' id a .undef [(id, .box t' a)]
      | _ => .fail)).Ev σ _ m v ws := hev
    cases hmem : σ.mem id <;> rw [hmem] at hev <;> try exact hev.elim
    rename_i t0 a0
    have e0 : ∀ kk : U.MC -> U.Q, c5t (.box t0 a0) [] b kk = (match Nat.beq (asz a0) (asz b) && (a2h a0 == a2h b) && a4r a0 with | true => kk (.box t0 b) | false => (.fail : U.Q)) := fun kk => by cases a0 <;> rfl
    rw [e0] at hev
    have hev : (match Nat.beq (asz a0) (asz b) && (a2h a0 == a2h b) && a4r a0 with | true => b7i P fr t0 id b .undef [(id, .box t0 b)] | false => (.fail : U.Q)).Ev σ _ m v ws := hev
    split at hev
    . rename_i hs
      have hm := h.mem id
      rw [hmem] at hm
      obtain ⟨blk, u, hv, hM, ha⟩ := hm
      refine b8v (c05 hU h (c := U.c0) (p := []) hmem (.inl rfl) hf rfl hs hy1 rfl (ad := ⟨blk, 0, none⟩) (by rw [hv]; rfl) ?_ hx.1) c62 (fun i _ hn => c9m (fun e => ?_)) hev
      . rw [hx.2.1]
        show π id = .pointer (some (Addr.add _ 0))
        rw [hv]; rfl
      . rw [e, hmem] at hn; cases hn
    . exact hev.elim
  . rename_i id c p
    obtain ⟨hu, ad, had, hv⟩ := hx
    have hev : (match b0o c (σ.mem id) p with
      | true => (match d7u (σ.mem id) p b with
        | true => c5t (σ.mem id) p b fun m' => .done .undef [(id, m')]
        | false => (match b7v id b with
          | true => .fail
          | false => c3h [b] fun as ws => (match as with
            | [y'] => (match a84 P t y' with | true => c5t (σ.mem id) p y' fun m' => .done .undef ((id, m') :: ws) | false => .fail)
            | _ => .fail)))
      | false => (.fail : U.Q)).Ev σ _ m v ws := hev
    cases hcm : b0o c (σ.mem id) p with
    | false => rw [hcm] at hev; exact hev.elim
    | true =>
      rw [hcm] at hev
      dsimp only at hev
      split at hev
      . exact c3t hU h hf hy1 rfl hu had hv hcm hev
      . split at hev
        . exact hev.elim
        rename_i hsame
        obtain ⟨as', fz, m1, hev, _, hfz, hfm, hA⟩ := b2p hU h (as := [b]) (us := [ev ρ y]) ⟨hy, trivial⟩ hev
        split at hev
        case h_2 => exact hev.elim
        rename_i y'
        split at hev
        case h_2 => exact hev.elim
        rename_i hf'
        have hfr := h.freeze hfz
        have hy' := (hA fz hfz fun q hq => ⟨hq, c4v hq⟩).1
        have hy1' := a3t (a7b (a4e hf').1) hy'
        obtain ⟨m', m2, hd, hset⟩ := d4n hev
        obtain ⟨_, hv0, hws⟩ := hd
        rw [hv0, hws]
        have hmem' : (σ.app none .unk fz).mem id = σ.mem id := by
          rw [t6]
          cases hl : lk id fz with
          | none => rfl
          | some mm =>
            exfalso
            have := hfm _ (a4p hl)
            simp only [List.mem_singleton] at this
            rw [<- this] at hsame
            simp [b7v] at hsame
        have hev2 := hset (σ.app none .unk fz) (fun m' => Q.done .undef [(id, m')]) m2 .undef [(id, m')] ⟨rfl, rfl, rfl⟩
        rw [<- hmem'] at hev2 hcm
        have hu' : b0n (σ.app none .unk fz) id := by unfold b0n; rw [hmem']; exact hu
        exact a9d h hfz (ws := [(id, m')]) (c3t hU hfr hf' hy1' rfl hu' had hv hcm hev2)
  . exact hev.elim
end
end Go.SX
namespace Go.SX
open Go Go.PL
section
variable {P : Program} {U : Uni} {E : Env} {Z : Nat -> Prop} {π : Nat -> Value} {σ : U.St} {ρ : Nat -> Value} {w : World}
variable {d : Option Tmp} {ty : TypeId} {ps : String} {af : Array Edge} {g : Option (Nat × Bool)} {x y z : Operand} {m0 m : Nat} {a b v : U.AV} {ws : List (Nat × U.MC)} {fr : Nat}
theorem c4e (o : Nat) (vs : Array Value) (cells : Array Value) (h : o + vs.size <= cells.size) :
    (vs.zipIdx.foldl (fun cs (c, j) => cs.setIfInBounds (o + j) c) cells).toList = cells.toList.take o ++ vs.toList ++ cells.toList.drop (o + vs.toList.length) := by
  have hf := Great.foldl_set o vs.toList 0 cells
  rw [<- Array.foldl_toList, Array.toList_zipIdx]
  obtain ⟨h1, h2⟩ := hf
  apply List.ext_getElem?
  intro k
  rw [Array.getElem?_toList]
  have h3 := h2 k
  simp only [Nat.add_zero] at h3
  refine Eq.trans h3 ?_
  have hl : vs.toList.length = vs.size := by simp
  have hc : cells.toList.length = cells.size := by simp
  rw [List.getElem?_append, List.getElem?_append]
  simp only [List.length_append, List.length_take, hl, hc, Nat.min_eq_left (show o <= cells.size by omega)]
  by_cases k1 : k < o
  . rw [if_neg (by omega), if_pos (by omega), if_pos k1, List.getElem?_take_of_lt k1, Array.getElem?_toList]
  . by_cases k2 : k < o + vs.size
    . rw [if_pos ⟨by omega, k2, by omega⟩, if_pos k2, if_neg k1]
    . rw [if_neg (by omega), if_neg k2, List.getElem?_drop, Array.getElem?_toList]
      congr 1; omega
def c7b (l : List Nat) (i : Nat) : Nat := (l.take i).sum
theorem c2w : ∀ (css : List (List Value)), css.flatten.length = (css.map List.length).sum
  | [] => rfl
  | c :: css => by simp [c2w css]
theorem b4a : ∀ (css : List (List Value)) (i : Nat) (s t : List Value), css[i]? = some s -> t.length = s.length -> (css.set i t).map List.length = css.map List.length
  | [], i, s, t, h, _ => by simp at h
  | c :: css, 0, s, t, h, hl => by simp at h; subst h; simp [hl]
  | c :: css, i + 1, s, t, h, hl => by simp only [List.set_cons_succ, List.map_cons]; rw [b4a css i s t (by simpa using h) hl]
theorem b7b {X : Cx} {place : Nat -> Option (Nat × Nat)} {sz : List Nat} (hpl : ∀ i n, sz[i]? = some n -> place i = some (c7b sz i, n)) : ∀ (is : List Nat) (as : List U.AV) (us : List Value) (fs gs : List U.AV) (css : List (List Value)) (cells : Array Value),
    as.all m4 = true -> i8 (a0c X) as us -> d62 fs is as = some gs -> is.length = as.length -> cells.toList = css.flatten -> css.map List.length = sz -> fs.map asz = sz -> i8 (fun a s => ∃ u, u.cells.toList = s /\ a0c X a u) fs css ->
    ∃ css' cells', Instr.fill place cells (is.zip us) = some cells' /\ cells'.toList = css'.flatten /\ i8 (fun a s => ∃ u, u.cells.toList = s /\ a0c X a u) gs css'
  | [], as, us, fs, gs, css, cells, hp, hr, hs, hlen, hc, hz, hfz, hall => by
    have : fs = gs := by simpa [d62] using hs
    subst this
    exact ⟨css, cells, rfl, hc, hall⟩
  | i :: is, [], us, fs, gs, css, cells, hp, hr, hs, hlen, hc, hz, hfz, hall => by simp at hlen
  | i :: is, a :: as, [], fs, gs, css, cells, hp, hr, hs, hlen, hc, hz, hfz, hall => hr.elim
  | i :: is, a :: as, u :: us, fs, gs, css, cells, hp, hr, hs, hlen, hc, hz, hfz, hall => by
    simp only [d62] at hs
    split at hs
    . rename_i b hb
      split at hs
      . rename_i hok
        simp only [Bool.and_eq_true] at hok
        have hsz := Nat.eq_of_beq_eq_true hok.1
        simp only [List.all_cons, Bool.and_eq_true] at hp
        have hul := b0j hp.1 (hr.1.to0 hp.1)
        obtain ⟨s, hs1, hs2⟩ := hall.get hb
        have hsl : s.length = asz b := by
          have h1 : (css.map List.length)[i]? = some s.length := by rw [List.getElem?_map, hs1]; rfl
          have h2 : (fs.map asz)[i]? = some (asz b) := by rw [List.getElem?_map, hb]; rfl
          rw [hz] at h1; rw [hfz, h1] at h2
          exact Option.some.inj h2
        have hul2 : u.cells.toList.length = s.length := by rw [hul, hsz, hsl]
        have hszi : sz[i]? = some (asz b) := by rw [<- hfz, List.getElem?_map, hb]; rfl
        have hoff : c7b sz i = (css.take i).flatten.length := by unfold c7b; rw [c2w, List.map_take, hz]
        have hcs : cells.size = css.flatten.length := by rw [<- hc]; simp
        have hbound : (css.take i).flatten.length + s.length <= css.flatten.length := by
          have := a6l css i s s hs1 rfl
          have h2 := congrArg List.length this
          have h3 : (css.set i s) = css := by
            apply List.ext_getElem?
            intro k
            rw [List.getElem?_set]
            split
            . rename_i hk; subst hk
              have := (List.getElem?_eq_some_iff.1 hs1)
              simp [this.1, this.2]
            . rfl
          rw [h3] at h2
          have h4 : (css.take i).flatten.length <= css.flatten.length := by
            conv => rhs; rw [<- List.take_append_drop i css, List.flatten_append, List.length_append]
            omega
          simp only [List.length_append, List.length_take, List.length_drop] at h2
          omega
        have husz : u.cells.size = asz b := by rw [<- hsl, <- hul2]; simp
        have hfill := c4e (c7b sz i) u.cells cells (by rw [hoff, hcs, husz, <- hsl]; exact hbound)
        obtain ⟨css', cells', h1, h2, h3⟩ := b7b hpl is as us (fs.set i a) gs (css.set i u.cells.toList) (u.cells.zipIdx.foldl (fun cs (c, j) => cs.setIfInBounds (c7b sz i + j) c) cells)
          hp.2 hr.2 hs (by simpa using hlen) (by rw [hfill, a6l css i s _ hs1 hul2, hc, hoff]) (by rw [b4a css i s _ hs1 hul2, hz])
          (by rw [<- hfz]; apply List.ext_getElem?; intro k; rw [List.getElem?_map, List.getElem?_set, List.getElem?_map]; split
              . rename_i hk; subst hk
                have hlt := (List.getElem?_eq_some_iff.1 hb).1
                rw [if_pos hlt, hb]; simp [hsz]
              . rfl)
          (b1g i a _ hall ⟨u, rfl, hr.1⟩)
        refine ⟨css', cells', ?_, h2, h3⟩
        simp only [List.zip_cons_cons, Instr.fill, hpl i _ hszi, husz]
        have hno : ¬ (asz b ≠ asz b \/ c7b sz i + asz b > cells.size) := by
          rintro (h4 | h4)
          . exact h4 rfl
          . rw [hoff, hcs, <- hsl] at h4; omega
        simp only [hno, if_false, decide_false, Bool.false_eq_true, Bool.or_false, ne_eq, not_true_eq_false, false_or, gt_iff_lt] at *
        first
          | exact h1
          | (rw [if_neg (by simpa using hno)]; exact h1)
      . cases hs
    . cases hs
theorem b2e {α β : Type} {f : α -> Sem β} {gg : α -> β} : ∀ {l : List α}, (∀ x ∈ l, (f x).run P w = .ok (gg x) w) -> (l.mapM f).run P w = .ok (l.map gg) w
  | [], _ => by simp
  | x :: l, h => by
    rw [List.mapM_cons]
    simp [h x (by simp), b2e (l := l) fun y hy => h y (by simp [hy])]
theorem c10 {α β : Type} {f : α -> Sem β} {gg : α -> β} {l : Array α} (h : ∀ x ∈ l.toList, (f x).run P w = .ok (gg x) w) : (l.mapM f).run P w = .ok (l.map gg) w := by
  rw [Array.mapM_eq_mapM_toList]
  simp [b2e h]
  apply Array.ext'
  simp
theorem b7r {c : U.C} {fs : List Field} (h : b8c P c fs = true) : fs.length = (U.lay c).length /\ ∀ i f, fs[i]? = some f -> ∃ o, (U.lay c)[i]? = some o /\ f.offset = off c i /\ c9b P f.type (osz o) = true := by
  unfold b8c at h
  simp only [Bool.and_eq_true] at h
  have hl := Nat.eq_of_beq_eq_true h.1
  refine ⟨hl, fun i f hf => ?_⟩
  have hi : i < fs.length := (List.getElem?_eq_some_iff.1 hf).1
  have h2 := List.all_eq_true.1 h.2 i (by simpa using hi)
  rw [hf] at h2
  cases ho : (U.lay c)[i]? with
  | none => rw [ho] at h2; cases h2
  | some o =>
    rw [ho] at h2
    simp only [Bool.and_eq_true] at h2
    exact ⟨o, rfl, Nat.eq_of_beq_eq_true h2.1, h2.2⟩
theorem b7t (l : List (Nat × Operand)) : (l.toArray.map fun (i, x) => (i, ev ρ x)).toList = (l.map (·.1)).zip ((l.map (·.2)).map (ev ρ)) := by
  induction l with
  | nil => simp
  | cons q l ih => simp at ih ⊢; exact ih
theorem c1p {X : Cx} : ∀ {zs : List U.AV} {css : List (List Value)}, i8 (FV X) zs css -> css.map List.length = zs.map asz
  | [], [], _ => rfl
  | a :: zs, s :: css, h => by simp only [List.map_cons, h.1.1, c1p h.2]
  | [], _ :: _, h => h.elim
  | _ :: _, [], h => h.elim
theorem c53 (hU : UOK U) (h : Rel E Z π σ ρ w) {t : TypeId} {psr : Array (Nat × Operand)} {as : List U.AV} (hx : i8 (AVR (cx Z π σ w)) as ((psr.toList.map (·.2)).map (ev ρ))) (hev : (c92 P t (psr.toList.map (·.1)) as).Ev σ m0 m v ws) :
    a30 P E σ ρ w ⟨d, .build t psr, ty, ps, af, g⟩ v ws := by
  unfold c92 at hev
  split at hev
  case h_2 => exact hev.elim
  rename_i fs c zv hu hc hz
  split at hev
  case h_2 => exact hev.elim
  rename_i c' zs hzs
  split at hev
  case h_2 => exact hev.elim
  rename_i hfo
  obtain ⟨as', fz, m1, hev, _, hfz, _, hrep⟩ := b2p hU h hx hev
  have hrep := hrep fz hfz fun q hq => ⟨hq, c4v hq⟩
  split at hev
  case h_2 => exact hev.elim
  rename_i gs hpl hset
  split at hev
  case h_2 => exact hev.elim
  rename_i yv hmk
  obtain ⟨hm1, hv0, hws⟩ := hev
  subst hv0
  rw [hws]
  have h1 := h.freeze hfz
  refine a9d (ws := []) h hfz ?_
  have hrep1 := a6j (a8h (List.all_eq_true.2 fun a ha => by
    have := List.all_eq_true.1 hpl a ha
    cases a <;> first | exact this | cases this)) hrep
  unfold b19 at hz
  split at hz
  case h_2 => cases hz
  rename_i ti hti
  split at hz
  case h_2 => cases hz
  rename_i z0 hz0
  obtain ⟨uz, huz, hrz⟩ := b27 hU (X := cx (Zf Z π σ fz) π (σ.app none .unk fz) w) _ _ _ _ hz
  have hzf : ∃ css, i8 (FV (cx (Zf Z π σ fz) π (σ.app none .unk fz) w)) zs css /\ uz.cells.toList = css.flatten /\ zs.map m8 = U.lay c' := by
    cases zv <;> try (cases hzs; done)
    . cases hzs
      obtain ⟨cs, rfl, hrz⟩ := hrz
      obtain ⟨hl, css, rfl, hall⟩ := a8k.1 hrz
      exact ⟨css, b1f hU hall, by simp [Value.cells], hU.lay _ _⟩
    . cases hzs
      obtain ⟨css, rfl, hlay, hpp, hr⟩ := hrz
      exact ⟨css, b37 hpp hr, by simp [Value.cells], hlay⟩
  obtain ⟨css, hall, hcs, hlay⟩ := hzf
  obtain ⟨hfl, hff⟩ := b7r hfo
  have hsz : zs.map asz = (U.lay c').map osz := by rw [<- hlay, List.map_map]; exact List.map_congr_left fun a _ => (a4b a).symm
  have hcl : css.map List.length = (U.lay c').map osz := by
    rw [<- hsz]
    exact c1p hall
  have hplace : ∀ i n, ((U.lay c').map osz)[i]? = some n -> ((fs.map fun f => (f.offset, szT P f.type))[i]? : Option (Nat × Nat)) = some (c7b ((U.lay c').map osz) i, n) := by
    intro i n hi
    rw [List.getElem?_map] at hi
    cases ho : (U.lay c')[i]? with
    | none => rw [ho] at hi; cases hi
    | some o =>
      rw [ho] at hi
      have hn : osz o = n := Option.some.inj hi
      have hlt : i < fs.toList.length := by rw [hfl]; exact (List.getElem?_eq_some_iff.1 ho).1
      obtain ⟨o', ho', h2, h3⟩ := hff i fs.toList[i] (List.getElem?_eq_getElem hlt)
      rw [ho] at ho'
      cases ho'
      have hlt' : i < fs.size := by simpa using hlt
      have h4 := a5h h3
      simp only [Array.getElem?_map, Array.getElem?_eq_getElem hlt', Option.map_some]
      have e1 : fs.toList[i] = fs[i] := by simp
      rw [e1] at h2 h4
      rw [h2]
      have e2 : szT P fs[i].type = osz o := by
        unfold szT
        cases hi2 : P.info? fs[i].type with
        | none => rw [hi2] at h4; cases h4
        | some q => rw [hi2] at h4; exact Option.some.inj h4
      rw [e2, hn]
      unfold c7b off
      rw [List.map_take]
  have huz' : z0.cells.toList = css.flatten := by rw [<- huz]; exact hcs
  obtain ⟨css', cells', hfill, hcells, hall'⟩ := b7b (X := cx (Zf Z π σ fz) π (σ.app none .unk fz) w) hplace (psr.toList.map (·.1)) as' _ zs gs css z0.cells hpl hrep1 hset (by rw [i8.length hrep1]; simp) huz' hcl hsz (hall.mono fun a s hh => hh.2)
  refine d7 h1 (v := .agg cells') ?_ (AVR.of1 (by have h9 := c3i hU hmk hall'; rw [<- hcells] at h9; simpa using h9))
  refine c1w (vs := (psr.map fun (i, x) => (i, ev ρ x))) rfl ?_
  have hze : psr = psr.toList.toArray := by simp
  have hpe : (psr.map fun (i, x) => (i, ev ρ x)).toList = (psr.toList.map (·.1)).zip ((psr.toList.map (·.2)).map (ev ρ)) := by
    conv => lhs; rw [hze]
    exact b7t _
  have hmap : (fs.mapM fun f => do pure (f.offset, <- sizeOf f.type) : Sem (Array (Nat × Nat))).run P w = .ok (fs.map fun f => (f.offset, szT P f.type)) w := by
    refine c10 fun f hf => ?_
    obtain ⟨i, hi, rfl⟩ := List.getElem_of_mem hf
    obtain ⟨o, _, _, h3⟩ := hff i _ (List.getElem?_eq_getElem hi)
    have h4 := a5h h3
    have e2 : szT P fs.toList[i].type = osz o := by
      unfold szT
      cases hi2 : P.info? fs.toList[i].type with
      | none => rw [hi2] at h4; cases h4
      | some q => rw [hi2] at h4; exact Option.some.inj h4
    rw [Sem.run_bind, a8b h3, <- e2]; rfl
  have hzv : (zeroValue t).run P w = .ok z0 w := by simp [zeroValue, typeInfo, hti, hz0]
  unfold Instr.build
  rw [Sem.run_bind, hzv]
  simp only [Result.andThen_ok]
  rw [Sem.run_bind, a5p hu]
  simp only [Result.andThen_ok]
  rw [Sem.run_bind, hmap]
  simp only [Result.andThen_ok, hpe]
  rw [show (fun x : Nat => (fs.map fun f => (f.offset, szT P f.type))[x]?) = getElem? (fs.map fun f => (f.offset, szT P f.type)) from rfl, hfill]
  rfl
theorem d0d (m k : Nat) : ∀ (i : Nat), i <= m -> c7b (List.replicate m k) i = i * k := by
  intro i hi
  unfold c7b
  rw [List.take_replicate, Nat.min_eq_left hi]
  simp
theorem c1c (hU : UOK U) (h : Rel E Z π σ ρ w) {t : TypeId} {psr : Array (Nat × Operand)} {as : List U.AV} (hx : i8 (AVR (cx Z π σ w)) as ((psr.toList.map (·.2)).map (ev ρ))) (hev : (c21 P t (psr.toList.map (·.1)) as).Ev σ m0 m v ws) :
    a30 P E σ ρ w ⟨d, .build t psr, ty, ps, af, g⟩ v ws := by
  unfold c21 at hev
  split at hev
  case h_2 => exact hev.elim
  rename_i c zv hz
  split at hev
  case h_2 => exact hev.elim
  rename_i hok
  obtain ⟨as', fz, m1, hev, _, hfz, _, hrep⟩ := b2p hU h hx hev
  have hrep := hrep fz hfz fun q hq => ⟨hq, c4v hq⟩
  split at hev
  case h_2 => exact hev.elim
  rename_i gs hpl hset
  split at hev
  case h_2 => exact hev.elim
  rename_i yv hmk
  obtain ⟨hm1, hv0, hws⟩ := hev
  subst hv0
  rw [hws]
  have h1 := h.freeze hfz
  refine a9d (ws := []) h hfz ?_
  have hrep1 := a6j (a8h (List.all_eq_true.2 fun a ha => by
    have := List.all_eq_true.1 hpl a ha
    cases a <;> first | exact this | cases this)) hrep
  unfold b19 at hz
  split at hz
  case h_2 => cases hz
  rename_i ti hti
  split at hz
  case h_2 => cases hz
  rename_i z0 hz0
  obtain ⟨uz, huz, hrz⟩ := b27 hU (X := cx (Zf Z π σ fz) π (σ.app none .unk fz) w) _ _ _ _ hz
  obtain ⟨cs, rfl, hrz⟩ := hrz
  obtain ⟨hl, css, rfl, hall⟩ := a8k.1 hrz
  unfold d03 at hok
  split at hok
  case h_2 => cases hok
  rename_i n e hu
  simp only [Bool.and_eq_true] at hok
  obtain ⟨⟨hA, hmn⟩, he2⟩ := hok
  have hmn := Nat.eq_of_beq_eq_true hmn
  have hall2 := b1f hU (X := cx (Zf Z π σ fz) π (σ.app none .unk fz) w) hall
  have hsz : (U.flds c zv).map asz = List.replicate n (U.n (U.ae c)) := by
    rw [(hU.arr c zv hA).1, List.map_map, hmn, <- (hU.arr c zv hA).2]
    apply List.ext_getElem?
    intro k
    rw [List.getElem?_map, List.getElem?_replicate]
    cases hk : (U.al c zv)[k]? with
    | none =>
      have := List.getElem?_eq_none_iff.1 hk
      rw [if_neg (by omega)]; rfl
    | some q =>
      have := (List.getElem?_eq_some_iff.1 hk).1
      rw [if_pos this]
      simp [(a1q hU (U.ae c) q).2.2]
  have hcl : css.map List.length = List.replicate n (U.n (U.ae c)) := by rw [<- hsz]; exact c1p hall2
  have hplace : ∀ i k, (List.replicate n (U.n (U.ae c)))[i]? = some k -> (fun i => some (i * U.n (U.ae c), U.n (U.ae c)) : Nat -> Option (Nat × Nat)) i = some (c7b (List.replicate n (U.n (U.ae c))) i, k) := by
    intro i k hi
    rw [List.getElem?_replicate] at hi
    split at hi
    . rename_i hlt
      cases hi
      rw [d0d n _ i (Nat.le_of_lt hlt)]
    . cases hi
  have huz' : z0.cells.toList = css.flatten := by rw [<- huz]; simp [Value.cells]
  obtain ⟨css', cells', hfill, hcells, hall'⟩ := b7b (X := cx (Zf Z π σ fz) π (σ.app none .unk fz) w) hplace (psr.toList.map (·.1)) as' _ (U.flds c zv) gs css z0.cells hpl hrep1 hset (by rw [i8.length hrep1]; simp) huz' hcl hsz (hall2.mono fun a s hh => hh.2)
  refine d7 h1 (v := .agg cells') ?_ (AVR.of1 ⟨cells'.toList, by simp, by rw [hcells]; exact b6h hU hmk hall'⟩)
  refine c1w (vs := (psr.map fun (i, x) => (i, ev ρ x))) rfl ?_
  have hze : psr = psr.toList.toArray := by simp
  have hpe : (psr.map fun (i, x) => (i, ev ρ x)).toList = (psr.toList.map (·.1)).zip ((psr.toList.map (·.2)).map (ev ρ)) := by
    conv => lhs; rw [hze]
    exact b7t _
  have hzv : (zeroValue t).run P w = .ok z0 w := by simp [zeroValue, typeInfo, hti, hz0]
  unfold Instr.build
  rw [Sem.run_bind, hzv]
  simp only [Result.andThen_ok]
  rw [Sem.run_bind, a5p hu]
  simp only [Result.andThen_ok]
  rw [Sem.run_bind, a8b he2]
  simp only [Result.andThen_ok, hpe]
  rw [hfill]
  rfl
theorem c38 {X : Cx} {gg : TypeId -> U.AV -> U.AV -> Option Bool} {d : Nat} (hg : ∀ t a b r, gg t a b = some r -> ∀ u v, a0c X a u -> a0c X b v -> (Op.equalIn d t u v).run P w = .ok r w) : ∀ (fs : List Field) (o : Nat) (as bs : List U.AV) (r : Bool) (pa pb : List Value) (ca cb : List (List Value)), d8h P gg o fs as bs = some r -> pa.length = o -> pb.length = o -> i8 (FV X) as ca -> i8 (FV X) bs cb ->
    (Op.eqFields d (pa ++ ca.flatten).toArray (pb ++ cb.flatten).toArray fs).run P w = .ok r w
  | [], o, as, bs, r, pa, pb, ca, cb, h, _, _, _, _ => by
    have hr : r = true := by
      cases as <;> cases bs <;> first
        | (cases h; rfl)
        | cases h
    subst hr
    exact d4y rfl
  | f :: fs, o, as, bs, r, pa, pb, ca, cb, h, hpa, hpb, ha, hb => by
    cases as with
    | nil => cases h
    | cons a as => cases bs with
      | nil => cases h
      | cons b bs => cases ca with
        | nil => exact ha.elim
        | cons sa ca => cases cb with
          | nil => exact hb.elim
          | cons sb cb =>
            simp only [d8h] at h
            split at h
            case h_2 => cases h
            rename_i hc
            simp only [Bool.and_eq_true, bne_iff_ne, ne_eq] at hc
            obtain ⟨hn, ho, hfa, hfb, hp, hq, hsz⟩ := hc
            have ho := Nat.eq_of_beq_eq_true ho
            have hsz := Nat.eq_of_beq_eq_true hsz
            split at h
            case h_2 => cases h
            rename_i r1 hr1
            split at h
            case h_2 => cases h
            rename_i q hq2
            cases h
            obtain ⟨hla, ua, hua, hra⟩ := ha.1
            obtain ⟨hlb, ub, hub, hrb⟩ := hb.1
            have pt : ∀ {x : U.AV} {px sx : List Value} {cx : List (List Value)} {ux : Value}, a84 P f.type x = true -> m4 x = true -> px.length = o -> sx.length = asz x -> ux.cells.toList = sx -> a0c X x ux -> (part f.type (px ++ (sx :: cx).flatten).toArray f.offset).run P w = .ok ux w := by
              intro x px sx cx ux hf hpx hl hs hu hr
              refine c71 (X := X) hf hpx (hr.to0 hpx) ?_ ?_
              . rw [ho, <- hl, List.drop_left, List.flatten_cons, <- hs, List.take_left, hu]
              . rw [ho]; simp [hl, hs]
            refine d0t (off := f.offset) (t := f.type) ?_ (pt hfa hp hpa hla hua hra) (pt hfb hq hpb hlb hub hrb) (hg _ _ _ _ hr1 _ _ hra hrb) ?_
            . have : (f.name != "_") = true := by simpa using hn
              simp [this]
            . have e1 : pa ++ (sa :: ca).flatten = (pa ++ sa) ++ ca.flatten := by simp
              have e2 : pb ++ (sb :: cb).flatten = (pb ++ sb) ++ cb.flatten := by simp
              rw [e1, e2]
              exact c38 hg fs (o + asz a) as bs q _ _ ca cb hq2 (by simp [hpa, hla]) (by simp [hpb, hlb, hsz]) ha.2 hb.2
theorem c8e (hU : UOK U) {X : Cx} : ∀ (n : Nat) (t : TypeId) (a b : U.AV) (r : Bool), eqA P n t a b = some r -> ∀ (u v : Value) (d : Nat), a0c X a u -> a0c X b v -> (Op.equalIn (d + n) t u v).run P w = .ok r w
  | 0, _, _, _, _, h, _, _, _, _, _ => by cases h
  | n + 1, t, a, b, r, h, u, v, d, ha, hb => by
    simp only [eqA] at h
    split at h
    . split at h
      . rename_i k x k' y kk ht hk
        cases h
        unfold eqK at hk
        split at hk
        . rename_i he _
          subst he
          have hu : u = .int _ _ := ha
          have hv : v = .int _ _ := hb
          rw [hu, hv]
          exact run_equalIn_int w _ _ _ _ _ _ ht
        . cases hk
      . cases h
    . split at h
      . rename_i ht
        cases h
        have hu : u = .bool _ := ha
        have hv : v = .bool _ := hb
        rw [hu, hv]
        exact run_equalIn_bool' w _ _ _ _ ht
      . cases h
    . split at h
      . rename_i ht
        cases h
        have hu : u = .string _ := ha
        have hv : v = .string _ := hb
        rw [hu, hv]
        exact run_equalIn_string w _ _ _ _ ht
      . cases h
    . split at h
      case h_2 => cases h
      rename_i ca as cb bs hfa hfb
      split at h
      case h_2 => cases h
      rename_i fs ht hst
      have parts : ∀ {x : U.AV} {c : U.C} {xs : List U.AV} {ux : Value}, d20 x = some (c, xs) -> a0c X x ux -> ∃ css, ux = .agg css.flatten.toArray /\ i8 (FV X) xs css := by
        intro x c xs ux hx hr
        cases x <;> try (cases hx; done)
        . cases hx
          obtain ⟨cs, hu, hr⟩ := hr
          obtain ⟨_, css, hcs, hall⟩ := a8k.1 hr
          exact ⟨css, by rw [hu, hcs], b1f hU hall⟩
        . cases hx
          obtain ⟨css, hu, _, hp, hr⟩ := hr
          exact ⟨css, hu, b37 hp hr⟩
      obtain ⟨c1, hu, h1⟩ := parts hfa ha
      obtain ⟨c2, hv, h2⟩ := parts hfb hb
      have hfo : P.fieldsOf t = fs := by simp [Program.fieldsOf, ht]
      rw [hu, hv, show d + (n + 1) = (d + n) + 1 from rfl, run_equalIn_agg w (d + n) t _ _ (by rw [hfo]; exact ht) hst, hfo]
      have := c38 (P := P) (w := w) (X := X) (d := d + n) (fun t a b r hr u v hu hv => c8e hU n t a b r hr u v d hu hv) fs.toList 0 as bs r [] [] c1 c2 h rfl rfl h1 h2
      simpa using this
theorem d1v (hU : UOK U) (h : Rel E Z π σ ρ w) {op : BinOp} {t t' : TypeId} (hv : (a2h a && a2h b) = true) (hx : AVR (cx Z π σ w) a (ev ρ x)) (hy : AVR (cx Z π σ w) b (ev ρ y)) (hev : (d9p P op t a b).Ev σ m0 m v ws) :
    a30 P E σ ρ w ⟨d, .binOp op t x y t', ty, ps, af, g⟩ v ws := by
  simp only [Bool.and_eq_true] at hv
  have agg : ∀ {q : U.AV} {uq : Value}, a2h q = true -> AVR (cx Z π σ w) q uq -> a0c (cx Z π σ w) q uq /\ ∃ xs, uq = .agg xs := by
    intro q uq hq hr
    cases q <;> try (cases hq; done)
    . obtain ⟨cs, hu, hr⟩ := hr; exact ⟨⟨cs, hu, hr⟩, _, hu⟩
    . obtain ⟨css, hu, hr⟩ := hr; exact ⟨⟨css, hu, hr⟩, _, hu⟩
  obtain ⟨hx1, xs, hxs⟩ := agg hv.1 hx
  obtain ⟨hy1, ys, hys⟩ := agg hv.2 hy
  unfold d9p at hev
  split at hev
  case h_2 => exact hev.elim
  rename_i r hg he
  have hrun := c8e hU (w := w) 100 t a b r he _ _ 9900 hx1 hy1
  rw [hxs, hys] at hrun
  split at hev
  . obtain ⟨_, rfl, rfl⟩ := hev
    exact d7 h (d8s hxs hys hg hrun rfl) rfl
  . obtain ⟨_, rfl, rfl⟩ := hev
    exact d7 h (d90 hxs hys hg hrun rfl) rfl
  . exact hev.elim
end
end Go.SX
namespace Go.SX
open Go Go.PL
section
variable {P : Program} {U : Uni} {E : Env} {Z : Nat -> Prop} {π : Nat -> Value} {σ : U.St} {ρ : Nat -> Value} {w : World}
variable {d : Option Tmp} {ty : TypeId} {ps : String} {af : Array Edge} {g : Option (Nat × Bool)} {x y z : Operand} {m0 m : Nat} {a b v : U.AV} {ws : List (Nat × U.MC)} {fr : Nat}
theorem b6o {n : Nat} (hn : 0 < n) : ∀ (vs : List Value) (k : Nat), (∀ v ∈ vs, v.cells.size = n) -> (vs.flatMap fun v => v.cells.toList)[k]? = (vs[k / n]?).bind fun v => v.cells[k % n]?
  | [], k, _ => by simp
  | v :: vs, k, h => by
    have hv := h v (by simp)
    have ih := b6o hn vs (k - n) fun u hu => h u (by simp [hu])
    rw [List.flatMap_cons, List.getElem?_append]
    have hl : v.cells.toList.length = n := by simpa using hv
    by_cases hk : k < n
    . rw [if_pos (by omega), Nat.div_eq_of_lt hk, Nat.mod_eq_of_lt hk]
      simp
    . rw [if_neg (by omega), hl, ih]
      have e1 : k / n = (k - n) / n + 1 := by rw [Nat.div_eq_sub_div hn (by omega)]
      have e2 : (k - n) % n = k % n := (Nat.mod_eq_sub_mod (by omega)).symm
      rw [e1, List.getElem?_cons_succ, e2]
theorem b99 : ∀ (is : List Nat) (k : Nat) (us : List Value), b8l k is = true -> is.length = us.length -> is.zip us = (us.zipIdx k).map fun x => (x.2, x.1)
  | [], k, [], _, _ => rfl
  | i :: is, k, u :: us, h, hl => by
    simp only [b8l, Bool.and_eq_true] at h
    have := Nat.eq_of_beq_eq_true h.1
    subst this
    simp [b99 is (i + 1) us h.2 (by simpa using hl)]
  | [], _, _ :: _, _, hl => by simp at hl
  | _ :: _, _, [], _, hl => by simp at hl
theorem c2f (hU : UOK U) {X : Cx} {c : U.C} : ∀ {as : List U.AV} {us : List Value} {l : List (U.T c)}, d8j c as = some l -> i8 (a0c X) as us -> i8 (fun u x => (Rp c).rep X.G X.w u.cells.toList x) us l
  | [], [], l, h, _ => by cases h; trivial
  | a :: as, u :: us, l, h, hr => by
    simp only [d8j] at h
    split at h
    . rename_i xv hx
      split at h
      . rename_i l' hl
        cases h
        exact ⟨a8y hU hx hr.1, c2f hU hl hr.2⟩
      . cases h
    . cases h
  | [], _ :: _, _, _, hh => hh.elim
  | _ :: _, [], _, _, hh => hh.elim
def d4z {G : Nat -> Prop} {w : World} {c : U.C} : ∀ (us : List Value) (l : List (U.T c)), i8 (fun u x => (Rp c).rep G w u.cells.toList x) us l -> List (Raw (U.n c))
  | [], [], _ => []
  | u :: us, x :: l, h => c0l h.1 :: d4z us l h.2
  | [], _ :: _, h => h.elim
  | _ :: _, [], h => h.elim
theorem b9i {G : Nat -> Prop} {w : World} {c : U.C} : ∀ (us : List Value) (l : List (U.T c)) (h : i8 (fun u x => (Rp c).rep G w u.cells.toList x) us l), (d4z us l h).flatMap Subtype.val = us.flatMap (fun v => v.cells.toList) /\ i8 (fun (r : Raw (U.n c)) x => (Rp c).rep G w r.1 x) (d4z us l h) l /\ (d4z us l h).length = us.length
  | [], [], _ => ⟨rfl, trivial, rfl⟩
  | u :: us, x :: l, h => by
    obtain ⟨h1, h2, h3⟩ := b9i us l h.2
    exact ⟨by simp [d4z, h1, c0l], ⟨h.1, h2⟩, by simp [d4z, h3]⟩
  | [], _ :: _, h => h.elim
  | _ :: _, [], h => h.elim
theorem b0h {fr : Nat} {k : U.Q} (hev : (Q.rdM fr fun | .never => k | _ => (.fail : U.Q)).Ev σ m0 m v ws) : σ.mem fr = .never /\ ∃ m1, k.Ev σ m1 m v ws := by
  have hev : (match σ.mem fr with | .never => k | _ => (.fail : U.Q)).Ev σ _ m v ws := hev
  split at hev
  . rename_i h; exact ⟨h, _, hev⟩
  . exact hev.elim
theorem c7y {fz : List (Nat × U.MC)} (hf : FZ σ fz) (hn : σ.mem fr = .never) : (σ.app none .unk fz).mem fr = .never := by
  rw [t6]
  cases hl : lk fr fz with
  | none => exact hn
  | some m => obtain ⟨e, c, l, h1, _⟩ := c5d hf hl; rw [hn] at h1; cases h1
theorem b2a {e n : Nat} (h : c47 P e n = true) : ∃ ie zv, P.info? e = some ie /\ ie.zero = some zv /\ zv.cells.size = n /\ ie.size = n /\ 0 < n /\ 0 < ie.bytes := by
  unfold c47 at h
  split at h
  . rename_i ie hie
    split at h
    . rename_i zv hz
      simp only [Bool.and_eq_true, decide_eq_true_eq] at h
      exact ⟨ie, zv, hie, hz, Nat.eq_of_beq_eq_true h.1.1.1, Nat.eq_of_beq_eq_true h.1.1.2, h.1.2, h.2⟩
    . cases h
  . cases h
theorem b5e (hU : UOK U) (h : Rel E Z π σ ρ w) {t : TypeId} {len : Nat} {psr : Array (Nat × Operand)} {as : List U.AV} (hx : i8 (AVR (cx Z π σ w)) as ((psr.toList.map (·.2)).map (ev ρ))) (hev : (a9y P fr t len (psr.toList.map (·.1)) as).Ev σ m0 m v ws) :
    a30 P E σ ρ w ⟨d, .buildSlice t len psr, ty, ps, af, g⟩ v ws := by
  unfold a9y at hev
  split at hev
  case h_2 => exact hev.elim
  rename_i e hu
  split at hev
  case h_2 => exact hev.elim
  rename_i c hc
  split at hev
  case h_2 => exact hev.elim
  rename_i hok
  obtain ⟨as', fz, m1, hev, _, hfz, _, hrep⟩ := b2p hU h hx hev
  have hrep := hrep fz hfz fun q hq => ⟨hq, c4v hq⟩
  split at hev
  case h_2 => exact hev.elim
  rename_i l hpl hpr
  obtain ⟨hn, m2, hm1, hv0, hws⟩ := b0h hev
  subst hv0
  rw [hws]
  simp only [Bool.and_eq_true] at hok
  obtain ⟨⟨⟨⟨⟨⟨⟨h1, h2⟩, h3⟩, h4⟩, h5⟩, h6⟩, h7⟩, h8⟩ := hok
  have h8 := Nat.le_of_ble_eq_true h8
  have h2 := Nat.eq_of_beq_eq_true h2
  have h3 := Nat.eq_of_beq_eq_true h3
  have h5 := Nat.le_of_ble_eq_true h5
  have h6 := Nat.le_of_ble_eq_true h6
  obtain ⟨e', he1, he2, he3, he4⟩ := a4w h4
  rw [hu] at he1
  cases he1
  have hR := h.freeze hfz
  refine a9d (ws := [(fr, .sl e c l)]) h hfz ?_
  have hrep1 := a6j (a8h hpl) hrep
  have hus := c2f hU hpr hrep1
  obtain ⟨g1, g2, g3⟩ := b9i _ _ hus
  have hsz : ∀ v ∈ (psr.toList.map (·.2)).map (ev ρ), v.cells.size = U.n c := by
    intro v hv
    obtain ⟨i, hi, rfl⟩ := List.getElem_of_mem hv
    obtain ⟨xv, _, hxr⟩ := hus.get (List.getElem?_eq_getElem hi)
    have := (Rp c).len hxr
    rw [Rp_n] at this
    rw [<- this]; simp
  have hlen : ((psr.toList.map (·.2)).map (ev ρ)).length = len := by rw [<- h2]; simp
  have hpe : (psr.map fun (i, x) => (i, ev ρ x)).toList = (((psr.toList.map (·.2)).map (ev ρ)).zipIdx 0).map fun x => (x.2, x.1) := by
    have hze : psr = psr.toList.toArray := by simp
    conv => lhs; rw [hze]
    rw [b7t, b99 _ 0 _ h1 (by rw [hlen, h2])]
  obtain ⟨css, hcss⟩ : ∃ css, css = d4z _ _ hus := ⟨_, rfl⟩
  rw [<- hcss] at g1 g2 g3
  have hrun : ∃ cells : Array Value, cells.toList = css.flatMap Subtype.val /\ (Instr.buildSlice t len (psr.map fun (i, x) => (i, ev ρ x))).run P w = .ok (.slice (some ⟨w.heap.size, 0, none⟩) len len) (w.alloc (.cells cells e)) := by
    obtain ⟨ie, zv, hie, hz, hzs, hsz1, _, _⟩ := b2a h7
    have hsm : ¬ len * ie.size > 2 ^ 24 := by rw [hsz1]; omega
    have hpos : ¬ len * ie.size = 0 := by
      rw [hsz1]; exact Nat.ne_of_gt (Nat.mul_pos h8 he4)
    have hin : ((Array.range (len * ie.size)).map (zv.cells[· % zv.cells.size]!)).size = len * ie.size := by simp
    obtain ⟨r, hr, hrs, hrk⟩ := Great.fill_dense he4 ((psr.toList.map (·.2)).map (ev ρ)) 0 ((Array.range (len * ie.size)).map (zv.cells[· % zv.cells.size]!)) hsz (by rw [hin, hlen, hsz1, Nat.zero_add]; exact Nat.le_refl _)
    refine ⟨r, ?_, run_buildSlice w t e len _ r ie zv hu hie hz hsm hpos (by rw [hpe, hsz1]; rw [hsz1] at hr; exact hr)⟩
    apply List.ext_getElem?
    intro k
    rw [Array.getElem?_toList, hrk k, g1, b6o he4 _ _ hsz, hlen]
    simp only [Nat.zero_mul, Nat.zero_add, Nat.zero_le, true_and, Nat.sub_zero]
    split
    . rfl
    . rename_i hk
      rw [Array.getElem?_eq_none (by rw [hin, hsz1]; omega)]
      have : ((psr.toList.map (·.2)).map (ev ρ))[k / U.n c]? = none := by
        apply List.getElem?_eq_none
        rw [hlen]
        exact (Nat.le_div_iff_mul_le he4).2 (by omega)
      rw [this]; rfl
  obtain ⟨cells, hc1, hc2⟩ := hrun
  refine a99 hR (obj := .cells cells e) (v' := .slice (some ⟨w.heap.size, 0, none⟩) len len) (c7y hfz hn) (by simp [execOp, hc2]) (fun h => by cases h) rfl rfl (fun b hb => hb) ?_
  rintro X' hle hw hZ
  refine ⟨css, ?_, g2.mono fun r xv hh => b1m hle hh⟩
  have hcl : cells = (css.flatMap Subtype.val).toArray := by rw [<- hc1]
  have hM : Mb (w.alloc (.cells cells e)) w.heap.size e (css.flatMap Subtype.val) := by rw [hcl]; exact Mb.alloc w e _
  rw [hw]
  exact hM.own (B := 0) (Nat.zero_le _) (by rw [g3, hlen]) (by unfold maxLen; omega) (fun r => r.2.1)
end
end Go.SX
namespace Go.SX
open Go Go.PL
section
variable {P : Program} {U : Uni} {E : Env} {Z : Nat -> Prop} {π : Nat -> Value} {σ : U.St} {ρ : Nat -> Value} {w : World}
variable {d : Option Tmp} {ty : TypeId} {ps : String} {af : Array Edge} {g : Option (Nat × Bool)} {x y z : Operand} {m0 m : Nat} {a b v : U.AV} {ws : List (Nat × U.MC)} {fr : Nat}
def c56 (X : Cx) {c : U.C} (u : Value) (l : List (U.T c)) : Prop := ∃ (css : List (Raw (U.n c))), (∃ G, d5 (RAW (U.n c)) G X.w u css) /\ i8 (fun (r : Raw (U.n c)) x => (Rp c).rep X.G X.w r.1 x) css l
theorem a9e {X : Cx} {c : U.C} {u : Value} {l : List (U.T c)} (h : d5 (Rp c) X.G X.w u l) : c56 X u l := by
  obtain ⟨css, h1, h2⟩ := c7f h
  exact ⟨css, ⟨_, h1⟩, h2⟩
theorem c85 {X : Cx} {e : TypeId} {c : U.C} {u : Value} {l : List (U.T c)} (h : MR X (.sl e c l) u) : c56 X u l := by
  obtain ⟨css, hO, hr⟩ := h
  exact ⟨css, ⟨noG, hO.rep fun _ _ h => h⟩, hr⟩
theorem d2i (h : Rel E Z π σ ρ w) {c : U.C} {k : List (U.T c) -> U.Q} {u : Value} (hx : AVR (cx Z π σ w) a u) (hev : (rdL c a k).Ev σ m0 m v ws) :
    ∃ l m1, (k l).Ev σ m1 m v ws /\ c56 (cx Z π σ w) u l := by
  have key : ∀ {c' : U.C} {l' : List (U.T c')} {m1 : Nat}, (match b1b c l' with | some l => k l | none => (.fail : U.Q)).Ev σ m1 m v ws -> c56 (cx Z π σ w) u l' -> ∃ l m1, (k l).Ev σ m1 m v ws /\ c56 (cx Z π σ w) u l := by
    intro c' l' m1 hev hr
    split at hev
    . rename_i l hl
      obtain ⟨he, hx⟩ := a1k (G := noG) (w := w) hl
      subst he
      subst hx
      exact ⟨_, _, hev, hr⟩
    . exact hev.elim
  unfold rdL at hev
  split at hev
  . exact key hev (a9e hx)
  . exact ⟨[], _, hev, [], ⟨noG, .inl ⟨hx, rfl⟩⟩, trivial⟩
  . rename_i id
    have hm := h.mem id
    have hev : (match σ.mem id with
      | .sl _ _ l => (match b1b c l with | some l => k l | none => .fail)
      | .fz _ l => (match b1b c l with | some l => k l | none => .fail)
      | _ => (.fail : U.Q)).Ev σ _ m v ws := hev
    split at hev
    . rename_i e c' l' hmem
      rw [hmem] at hm
      exact key hev (by rw [hx.2.1]; exact c85 hm)
    . rename_i c' l' hmem
      rw [hmem] at hm
      exact key hev (by rw [hx.2.1]; exact a9e hm)
    . exact hev.elim
  . exact hev.elim
theorem b03 (hU : UOK U) {X : Cx} {c : U.C} (h8 : U.b8 c = true) {u : Value} {l : List (U.T c)} (h : c56 X u l) : ∃ G, d5 u8R G X.w u (l.map (U.t8 c)) := by
  obtain ⟨css, ⟨G, hR⟩, hr⟩ := h
  have hlen := hr.length
  rcases hR with ⟨hu, hn⟩ | ⟨a, cap, hv, hc, hm, hi⟩
  . subst hn
    cases l with
    | nil => exact ⟨G, .inl ⟨hu, rfl⟩⟩
    | cons _ _ => cases hlen
  . refine ⟨G, .inr ⟨a, cap, by rw [hv, List.length_map, hlen], by rw [List.length_map, <- hlen]; exact hc, hm, fun i x hx => ?_⟩⟩
    rw [List.getElem?_map] at hx
    obtain ⟨y, hy, rfl⟩ := Option.map_eq_some_iff.1 hx
    have hil : i < css.length := by rw [hlen]; exact (List.getElem?_eq_some_iff.1 hy).1
    have hri : css[i]? = some css[i] := List.getElem?_eq_getElem hil
    obtain ⟨y', hy', d, hd⟩ := hr.get hri
    rw [hy] at hy'
    cases hy'
    obtain ⟨cs, hcs, hb, hg, hca⟩ := hi i _ hri
    have hcs : cs = (css[i]).1 := hcs
    cases d with
    | zero => exact hd.elim
    | succ d =>
      obtain ⟨_, ks, hk, ha⟩ := hd
      have hf := hU.by8 c y h8
      rw [hf] at ha
      have hn : U.n c = 1 := by
        have h1 := hU.lay c y
        rw [hf] at h1
        rw [hU.sum c, <- h1]; rfl
      match ks, ha with
      | [k], ⟨hk1, _⟩ =>
        have hk1 : k = [.int .u8 (U.t8 c y)] := hk1
        subst hk1
        refine ⟨[.int .u8 (U.t8 c y)], rfl, hb, hg, ?_⟩
        have e : cs = [.int .u8 (U.t8 c y)] := by rw [hcs, hk]; rfl
        rw [e] at hca
        have e2 : (RAW (U.n c)).n = u8R.n := hn
        rw [e2] at hca
        exact hca
      | [], ha => exact ha.elim
      | _ :: _ :: _, ⟨_, ha⟩ => exact ha.elim
theorem d18 (hU : UOK U) (h : Rel E Z π σ ρ w) {s t : TypeId} (hb : d5x P s t = true) (hx : AVR (cx Z π σ w) a (ev ρ x)) (hev : (d9i P s a).Ev σ m0 m v ws) :
    a30 P E σ ρ w ⟨d, .convert s t x, ty, ps, af, g⟩ v ws := by
  unfold d5x at hb
  split at hb
  case h_2 => cases hb
  rename_i e' hs ht
  unfold d9i at hev
  split at hev
  case h_2 => exact hev.elim
  rename_i e hs'
  split at hev
  case h_2 => exact hev.elim
  rename_i c he hcd
  split at hev
  case h_2 => exact hev.elim
  rename_i h8
  obtain ⟨l, m1, ⟨hm, rfl, rfl⟩, hrd⟩ := d2i h hx hev
  obtain ⟨G, hR⟩ := b03 hU h8 hrd
  exact d7 h (d9d rfl (fun a n c w => run_convert_bytes_string w s t e a n c hs' he ht) hR) rfl
theorem c45 (h : Rel E Z π σ ρ w) {t : TypeId} (hx : AVR (cx Z π σ w) a (ev ρ x)) (hev : (c7a P fr t a).Ev σ m0 m v ws) : a30 P E σ ρ w ⟨d, .range t x, ty, ps, af, g⟩ v ws := by
  unfold c7a at hev
  split at hev
  case h_2 => exact hev.elim
  rename_i s
  split at hev
  case h_2 => exact hev.elim
  rename_i hs
  obtain ⟨hn, m1, hm, rfl, rfl⟩ := b0h hev
  unfold d0k at hs
  split at hs
  case h_2 => cases hs
  rename_i hu
  have hx : ev ρ x = .string s := hx
  refine a99 h (obj := .stringIter s 0) (v' := .pointer (some ⟨w.heap.size, 0, none⟩)) hn ?_ (fun h => by cases h) rfl rfl (fun b hb => hb) ?_
  . simp [execOp, hx, c5o hu, Result.andThen]
  . intro X' _ hw _; exact ⟨w.heap.size, rfl, Int.le_refl 0, by rw [hw]; show (w.heap.push (.stringIter s 0))[w.heap.size]? = _; simp⟩
theorem c7m (h : Rel E Z π σ ρ w) (hx : AVR (cx Z π σ w) a (ev ρ x)) (hev : (d3q a : U.Q).Ev σ m0 m v ws) : a30 P E σ ρ w ⟨d, .next x true, ty, ps, af, g⟩ v ws := by
  unfold d3q at hev
  split at hev
  case h_2 => exact hev.elim
  rename_i id
  have hev : (match σ.mem id with
    | .it s p => (.cas (d0a s p) (.done (.tup [.bool false]) [(id, .it s p)]) fun r => .opt r fun c => .done (.tup [.bool true, .int .i64 p, .int .i32 c]) [(id, .it s (p + 1))] : U.Q)
    | _ => .fail).Ev σ _ m v ws := hev
  split at hev
  case h_2 => exact hev.elim
  rename_i s p hmem
  have hm := h.mem id
  rw [hmem] at hm
  obtain ⟨b, hv, h0, hb⟩ := hm
  have hxv : ev ρ x = .pointer (some ⟨b, 0, none⟩) := by rw [hx.2.1]; exact hv
  have key : ∀ {c : Int} {s' : Int} {u : U.AV}, c8d s p = some c -> c57 s p = s' -> (∀ X' : Cx, AVR X' u (nxV (decide (p < (s.size : Int))) p c)) -> a30 P E σ ρ w ⟨d, .next x true, ty, ps, af, g⟩ u [(id, .it s s')] := by
    intro c s' u hc hs' hu
    obtain ⟨w', hr, hE, hI⟩ := c8w (P := P) (ty := ty) ⟨h0, hb⟩ hc
    have hr : (Instr.next (.pointer (some ⟨b, 0, none⟩)) true ty).run P w = .ok (nxV (decide (p < (s.size : Int))) p c) w' := hr
    have hrun : (execOp (ev ρ) ⟨d, .next x true, ty, ps, af, g⟩).run P w = .ok (.value (nxV (decide (p < (s.size : Int))) p c)) w' := by
      simp [execOp, hxv, hr, Result.andThen]
    unfold a30 n9
    rw [hrun]
    refine ⟨Z, π, h.set (fun hh => by rw [hmem] at hh; cases hh) (fun hh => by cases hh) (hE.mono fun y hy => ?_) (fun X' _ hw => ?_) (fun y hy => ?_) fun X' _ => hu X'⟩
    . rw [hmem, hv, hy]; rfl
    . rw [hs'] at hI
      exact ⟨b, hv, hI.1, by rw [hw]; exact hI.2⟩
    . rw [hmem]; exact hy
  rcases hev with ⟨e, hm, rfl, rfl⟩ | ⟨r, e, hev⟩
  . unfold d0a at e
    split at e
    . cases e
    . rename_i hp
      exact key (c := 0) (by unfold c8d; rw [if_neg hp]) (by unfold c57; rw [if_neg hp]) fun X' => by
        rw [decide_eq_false hp]; exact ⟨[.bool false], rfl, rfl, trivial⟩
  . obtain ⟨c, hc, hm, rfl, rfl⟩ := hev
    unfold d0a at e
    split at e
    . rename_i hp
      have e := Option.some.inj e
      rw [hc] at e
      exact key (c := c) (by unfold c8d; rw [if_pos hp]; exact e) (by unfold c57; rw [if_pos hp]) fun X' => by
        rw [decide_eq_true hp]; exact ⟨[.bool true, .int .i64 p, .int .i32 c], rfl, rfl, rfl, rfl, trivial⟩
    . cases e
theorem a3o {α β : Type} {p : α -> β -> Prop} : ∀ {l l' : List α} {r r' : List β}, i8 p l r -> i8 p l' r' -> i8 p (l ++ l') (r ++ r')
  | [], _, [], _, _, h => h
  | _ :: _, _, _ :: _, _, h, h' => ⟨h.1, a3o h.2 h'⟩
  | [], _, _ :: _, _, hh, _ => hh.elim
  | _ :: _, _, [], _, hh, _ => hh.elim
theorem b90 (hU : UOK U) (h : Rel E Z π σ ρ w) {t e : TypeId} {c : U.C} {dead : List Nat} {l : List (U.T c)} (hu : P.underlying t = some (.slice e)) (hok : c47 P e (U.n c) = true)
    (hs : MR (cx Z π σ w) (.sl e c l) (ev ρ x)) (hdead : ∀ b, (ev ρ x).ownBlock = some b -> ∃ id ∈ dead, MB (σ.mem id) (π id) b) (hy : AVR (cx Z π σ w) b (ev ρ y))
    (hev : (d82 P fr e c (dead.map fun id => (id, .dead)) l b).Ev σ m0 m v ws) : a30 P E σ ρ w ⟨d, .call ⟨.builtin .append, #[x, y], #[t, t]⟩, ty, ps, af, g⟩ v ws := by
  unfold d82 at hev
  obtain ⟨xs, m1, hev, cx2, ⟨G, hR⟩, hxr⟩ := d2i h hy hev
  obtain ⟨r, hr, hev⟩ := hev
  obtain ⟨hn, m2, hm1, hv0, hws⟩ := b0h hev
  subst hv0
  rw [hws]
  obtain ⟨css, hO, hsr⟩ := hs
  obtain ⟨ie, zv, hie, hz, hzs, hsz1, hp1, hp2⟩ := b2a hok
  obtain ⟨hbytes, hrl⟩ := b4w hr
  have hbt : c8k P e = ie.bytes := by unfold c8k; rw [hie]
  obtain ⟨v', w', hrun, hO', hE, hblk⟩ := b22 (P := P) (t := t) (ty := ty) (bytes := ie.bytes) (cells := (Subtype.val : Raw (U.n c) -> List Value)) (fun r => r.2.1) (fun r => r.2.2) hu (by rw [hie]; simp [hz, hzs, hsz1]) hp1 hp2 hO ⟨G, hR⟩ (by rw [hsr.length, hxr.length, <- hbt]; exact hbytes) (Nat.zero_le _)
  unfold a30 n9
  have hex : (execOp (ev ρ) ⟨d, .call ⟨.builtin .append, #[x, y], #[t, t]⟩, ty, ps, af, g⟩).run P w = .ok (.value v') w' := by
    have hrun2 : (Builtin.append_ #[t, t] ty #[ev ρ x, ev ρ y]).run P w = .ok v' w' := hrun
    simp [execOp, resolve, invoke, builtin, hrun2]
  rw [hex]
  refine ⟨Z, b0g π fr v', ?_⟩
  refine h.new hn (fun h => by cases h) (hE.mono hdead) ?_ (fun q hq => ?_) ?_
  . rintro X' hle hw hZ
    refine ⟨css ++ cx2, by rw [hw]; exact hO', ?_⟩
    rw [<- hrl]
    exact a3o (hsr.mono fun _ _ hh => b1m hle hh) (hxr.mono fun _ _ hh => b1m hle hh)
  . obtain ⟨ad, cap, hv, _⟩ := hO'.shape
    have hq2 : v'.ownBlock = some q := (a8n hv).2 hq
    refine ⟨(hO'.lt hq2).2, ?_⟩
    rcases hblk q hq2 with h1 | h1
    . exact .inr (hdead q h1)
    . exact .inl h1
  . obtain ⟨ad, cap, hv, _⟩ := hO'.shape
    rw [hv]; rfl
theorem d0c (hU : UOK U) (h : Rel E Z π σ ρ w) {t : TypeId} (hx : AVR (cx Z π σ w) a (ev ρ x)) (hy : AVR (cx Z π σ w) b (ev ρ y)) (hev : (d8r P fr t a b).Ev σ m0 m v ws) :
    a30 P E σ ρ w ⟨d, .call ⟨.builtin .append, #[x, y], #[t, t]⟩, ty, ps, af, g⟩ v ws := by
  unfold d8r at hev
  split at hev
  case h_2 => exact hev.elim
  rename_i e hu
  split at hev
  case h_2 => exact hev.elim
  rename_i c hc
  split at hev
  case h_2 => exact hev.elim
  rename_i hok
  split at hev
  . refine b90 (dead := []) (l := []) hU h hu hok ⟨[], ?_, trivial⟩ (fun b hb => ?_) hy hev
    . rw [show ev ρ x = .slice none 0 0 from hx]; exact Own.nil _ _ _ _ _
    . rw [show ev ρ x = .slice none 0 0 from hx] at hb; cases hb
  . rename_i id
    split at hev
    . exact hev.elim
    . have hm := h.mem id
      have hev : (match σ.mem id with
        | .sl e' c' l => (match Nat.beq e e' && eqC c' c, b1b c l with | true, some l => d82 P fr e c [(id, .dead)] l b | _, _ => (.fail : U.Q))
        | _ => (.fail : U.Q)).Ev σ _ m v ws := hev
      split at hev
      . rename_i e' c' l' hmem
        split at hev
        . rename_i l hbe hl
          simp only [Bool.and_eq_true] at hbe
          have h1 := Nat.eq_of_beq_eq_true hbe.1
          obtain ⟨he, hx2⟩ := a1k (G := noG) (w := w) hl
          subst he
          subst hx2
          subst h1
          rw [hmem] at hm
          refine b90 (dead := [id]) hU h hu hok (by rw [hx.2.1]; exact hm) (fun b hb => ⟨id, by simp, ?_⟩) hy hev
          rw [hx.2.1] at hb
          rw [hmem]
          obtain ⟨css, hO, _⟩ := hm
          obtain ⟨ad, cap, hv, _⟩ := hO.shape
          exact (a8n hv).1 hb
        . exact hev.elim
      . exact hev.elim
  . exact hev.elim
theorem a8v (h : Rel E Z π σ ρ w) {o : Option Operand} {d : Int} {k : Int -> U.Q} (hev : (bnd o d k).Ev σ m0 m v ws) : ∃ n m1, (k n).Ev σ m1 m v ws /\ ((o.map (ev ρ) = none /\ n = d) \/ o.map (ev ρ) = some (.int .i64 n)) := by
  unfold bnd at hev
  split at hev
  . exact ⟨_, _, hev, .inl ⟨rfl, rfl⟩⟩
  . rename_i op
    obtain ⟨a, m1, ha, hev⟩ := p9 h hev
    cases a <;> try exact hev.elim
    rename_i k n
    cases k <;> try exact hev.elim
    have ha : ev ρ op = .int .i64 n := ha
    exact ⟨n, m1, hev, .inr (by simp [ha])⟩
theorem b7x (h : Rel E Z π σ ρ w) {t : TypeId} {c : U.C} {l r : List (U.T c)} {lo hi : Option Operand} {i j : Int} (hx : d5 (Rp c) (cx Z π σ w).G w (ev ρ x) l) (he : a6n P t c = true)
    (hlo : (lo.map (ev ρ) = none /\ i = 0) \/ lo.map (ev ρ) = some (.int .i64 i)) (hhi : (hi.map (ev ρ) = none /\ j = (l.length : Int)) \/ hi.map (ev ρ) = some (.int .i64 j)) (hs : a3a l i j = some r) :
    a30 P E σ ρ w ⟨d, .slice t x lo hi none, ty, ps, af, g⟩ (.list c r) [] := by
  obtain ⟨e, he1, he2, _, _⟩ := a4w he
  obtain ⟨u, hrun, hrep⟩ := d5k (P := P) he1 (a5h he2) hx hs hlo hhi
  exact d7 h (v := u) (by simp [YV, execOp, hrun]) hrep
theorem c9d {s r : ByteArray} {a b : Int} (h : b48 s a b = some r) : 0 <= a /\ a <= b /\ b <= (s.size : Int) /\ r = s.extract a.toNat b.toNat := by
  unfold b48 at h
  split at h
  . rename_i hc; exact ⟨hc.1, hc.2.1, hc.2.2, (Option.some.inj h).symm⟩
  . cases h
theorem c4d {t : TypeId} {s r : ByteArray} {lo hi : Option Value} {i j : Int} (ht : P.underlying t = some .string) (hlo : (lo = none /\ i = 0) \/ lo = some (.int .i64 i)) (hhi : (hi = none /\ j = (s.size : Int)) \/ hi = some (.int .i64 j)) (hs : b48 s i j = some r) :
    (Instr.sliceAt t (.string s) lo hi none).run P w = .ok (.string r) w := by
  obtain ⟨h0, h1, h2, rfl⟩ := c9d hs
  have hj : (0 <= j /\ j <= (s.size : Int)) := by omega
  have hij : (0 <= i /\ i <= (j.toNat : Int)) := by omega
  rcases hlo with ⟨rfl, rfl⟩ | rfl <;> rcases hhi with ⟨rfl, hl⟩ | rfl
  . have e1 : j.toNat = s.size := by omega
    simp [Instr.sliceAt, Instr.slice, run_underlying ht, Instr.sliceBounds, e1]
  . simp [Instr.sliceAt, Instr.slice, run_underlying ht, Instr.sliceBounds, Instr.sliceBound, asIntOf, hj]
  . have e1 : j.toNat = s.size := by omega
    rw [e1] at hij
    simp [Instr.sliceAt, Instr.slice, run_underlying ht, Instr.sliceBounds, Instr.sliceBound, asIntOf, hij, e1]
  . simp [Instr.sliceAt, Instr.slice, run_underlying ht, Instr.sliceBounds, Instr.sliceBound, asIntOf, hj, hij]
    omega
theorem c4t (hU : UOK U) (h : Rel E Z π σ ρ w) {t : TypeId} {lo hi : Option Operand} (hx : AVR (cx Z π σ w) a (ev ρ x)) (hev : (c8n P t a lo hi).Ev σ m0 m v ws) :
    a30 P E σ ρ w ⟨d, .slice t x lo hi none, ty, ps, af, g⟩ v ws := by
  unfold c8n at hev
  split at hev
  . rename_i s
    split at hev
    . rename_i ht
      obtain ⟨i, m1, hev, hlo⟩ := a8v h hev
      obtain ⟨j, m2, hev, hhi⟩ := a8v h hev
      obtain ⟨r, hr, hm1, rfl, rfl⟩ := hev
      have hrun := c4d (w := w) ht hlo hhi hr
      have hx : ev ρ x = .string s := hx
      exact d7 h (v := .string r) (by simp [YV, execOp, hx, hrun]) rfl
    . exact hev.elim
  . rename_i c l
    split at hev
    . rename_i he
      obtain ⟨i, m1, hev, hlo⟩ := a8v h hev
      obtain ⟨j, m2, hev, hhi⟩ := a8v h hev
      obtain ⟨r, hr, hm1, rfl, rfl⟩ := hev
      exact b7x h hx he hlo hhi hr
    . exact hev.elim
  . rename_i id
    have hm := h.mem id
    simp only [Q.Ev] at hev
    split at hev
    . rename_i e0 c l hmem
      split at hev
      . rename_i he
        obtain ⟨i, m1, hev, hlo⟩ := a8v h hev
        obtain ⟨j, m2, hev, hhi⟩ := a8v h hev
        obtain ⟨r, hr, hm1, rfl, rfl⟩ := hev
        have hfz : FZ σ [(id, .fz c l)] := by
          intro id' m' hh
          simp at hh
          obtain ⟨rfl, rfl⟩ := hh
          exact ⟨e0, c, l, hmem, rfl⟩
        refine a9d (ws := []) h hfz ?_
        have h1 := h.freeze hfz
        refine b7x h1 ?_ he hlo hhi hr
        have hm1 := h1.mem id
        rw [t6, c1y] at hm1
        rw [hx.2.1]; exact hm1
      . exact hev.elim
    . rename_i c l hmem
      split at hev
      . rename_i he
        obtain ⟨i, m1, hev, hlo⟩ := a8v h hev
        obtain ⟨j, m2, hev, hhi⟩ := a8v h hev
        obtain ⟨r, hr, hm1, rfl, rfl⟩ := hev
        rw [hmem] at hm
        exact b7x h (by rw [hx.2.1]; exact hm) he hlo hhi hr
      . exact hev.elim
    . exact hev.elim
  . exact hev.elim
end
end Go.SX
namespace Go.SX
open Go Go.PL
section
variable {P : Program} {U : Uni}
def cz (Z : Nat -> Prop) (w : World) : Cx := ⟨Z, fun _ => undef, fun _ => False, w⟩
theorem a47 {X X' : Cx} {a : U.AV} {u : Value} (hk : b0k a = true) (h : a0c X a u) (hw : X'.w = X.w) (hz : ∀ b, X.Z b -> X'.Z b) : a0c X' a u := by
  cases a <;> first
    | (cases hk; done)
    | exact h
    | (obtain ⟨cs, hu, hr⟩ := h
       refine ⟨cs, hu, ?_⟩
       rw [hw]
       exact (Rp _).weaken hr fun b _ hb hz' => hb (hz b hz'))
    | (show d5 (Rp _) X'.G X'.w u _
       rw [hw]
       exact d5.weaken h fun b _ hb hz' => hb (hz b hz'))
    | (obtain ⟨ad, cs, hu, hb, hg, hca, hr⟩ := h
       refine ⟨ad, cs, hu, ?_⟩
       rw [hw]
       exact ⟨hb, fun hn => hg fun hz' => hn (hz _ hz'), hca, hr.weaken fun b _ hb hz' => hb (hz b hz')⟩)
theorem b0f (hU : UOK U) {X : Cx} {c : U.C} {a : U.AV} {x : U.T c} (h : prj c a = some x) {u : Value} (hr : a0c X a u) : a0c X (inj c x) u := by
  unfold prj at h
  unfold inj
  cases ha : U.ag c with
  | true =>
    rw [ha] at h
    have key : ∀ {c' : U.C} {x' : U.T c'}, cst c x' = some x -> a0c X (.val c' x') u -> a0c X (.val c x) u := by
      intro c' x' h hr
      unfold cst at h
      split at h
      . rename_i he _; subst he; cases h; exact hr
      . cases h
    cases a <;> try (cases h; done)
    case val c' x' => exact key h hr
    case st c' as =>
      dsimp only at h
      split at h
      . rename_i x' hk
        obtain ⟨css, hu, _, _, hh⟩ := hr
        exact key h ⟨css.flatten, hu, c1r hU hk hh⟩
      . cases h
  | false =>
    rw [ha] at h
    have hk := hU.mkl c [a] x h
    cases hl : U.flds c x with
    | nil => rw [hl] at hk; exact hk.elim
    | cons b r => rw [hl] at hk; cases r with
      | nil => exact c3l hk.1 hr
      | cons _ _ => exact hk.2.elim
theorem c97 : ∀ (m : List (Nat × Nat)) (l l' : List U.AV) (j : Nat), ((∃ id, (j, id) ∈ m /\ (j < l.length -> (a7x m l)[j]? = some (.ref id)))) \/ ((a7x m l)[j]? = l[j]? /\ (b5w m l')[j]? = l'[j]?)
  | [], l, l', j => .inr ⟨rfl, rfl⟩
  | q :: m, l, l', j => by
    have hlen : ∀ (m : List (Nat × Nat)) (l : List U.AV), (a7x m l).length = l.length := by
      intro m l
      induction m with
      | nil => rfl
      | cons q m ih => simp [a7x, ih]
    by_cases hq : q.1 = j
    . left
      subst hq
      exact ⟨q.2, List.mem_cons_self, fun hj => by simp [a7x, hlen, hj]⟩
    . rcases c97 m l l' j with ⟨id, h1, h2⟩ | ⟨h1, h2⟩
      . left
        refine ⟨id, List.mem_cons_of_mem _ h1, fun hj => ?_⟩
        simp only [a7x]
        rw [List.getElem?_set_ne hq]; exact h2 hj
      . right
        simp only [a7x, b5w]
        rw [List.getElem?_set_ne hq, List.getElem?_set_ne hq]
        exact ⟨h1, h2⟩
theorem a7c : ∀ (m : List (Nat × Nat)) (l : List U.AV), (a7x m l).length = l.length
  | [], _ => rfl
  | q :: m, l => by simp [a7x, a7c m l]
theorem b98 : ∀ (m : List (Nat × Nat)) (l : List U.AV), (b5w m l).length = l.length
  | [], _ => rfl
  | q :: m, l => by simp [b5w, b98 m l]
theorem a9f {fs : List U.AV} {f i : Nat} (h : b32 fs f = some i) : fs[f]? = some (.ref i) := by
  unfold b32 at h
  split at h
  . rename_i j hj; cases h; exact hj
  . cases h
theorem b7m (hU : UOK U) {X X' : Cx} {c : U.C} {fs : List U.AV} {m : List (Nat × Nat)} {x : U.T c} {css : List (List Value)} (hlay : fs.map m8 = U.lay c) (hpp : fs.all m4 = true) (hr : i8 (fun a s => ∃ u : Value, u.cells.toList = s /\ a7w X a u) fs css) (hk : U.mkv c (b5w m fs) = some x)
    (hw : X'.w = X.w) (hz : ∀ b, X.Z b -> X'.Z b) (href : ∀ j id, (j, id) ∈ m -> ∃ i, fs[j]? = some (.ref i) /\ X'.us id /\ X'.π id = X.π i) :
    (a7x m (U.flds c x)).map m8 = U.lay c /\ (a7x m (U.flds c x)).all m4 = true /\ i8 (fun a s => ∃ u : Value, u.cells.toList = s /\ a7w X' a u) (a7x m (U.flds c x)) css := by
  have hA := hU.mkl c _ x hk
  have hkd := hU.kind c x
  have hL := hU.lay c x
  have hlen : (U.flds c x).length = fs.length := by
    have h1 := i8.length hA
    rw [b98] at h1; exact h1.symm
  have hat : ∀ (j : Nat) (a : U.AV), (a7x m (U.flds c x))[j]? = some a -> m4 a = true /\ (U.lay c)[j]? = some (m8 a) /\ ∀ s u, fs[j]? ≠ none -> css[j]? = some s -> (∀ a0, fs[j]? = some a0 -> a7w X a0 u) -> a7w X' a u := by
    intro j a ha
    have hj : j < (U.flds c x).length := by
      have := (List.getElem?_eq_some_iff.1 ha).1
      rwa [a7c] at this
    rcases c97 m (U.flds c x) fs j with ⟨id, h1, h2⟩ | ⟨h1, h2⟩
    . rw [h2 hj] at ha
      cases ha
      obtain ⟨i, hi, hus, hπ⟩ := href j id h1
      refine ⟨rfl, ?_, fun s u _ _ hu => ?_⟩
      . rw [<- hlay, List.getElem?_map, hi]; rfl
      . obtain ⟨g1, g2, g3⟩ := hu _ hi
        exact ⟨hus, by rw [hπ]; exact g2, g3⟩
    . rw [h1] at ha
      have hka : b0k a = true := List.all_eq_true.1 hkd a (List.mem_of_getElem? ha)
      have hpa : m4 a = true := by cases a <;> first | rfl | cases hka
      refine ⟨hpa, ?_, fun s u hfj _ hu => ?_⟩
      . rw [<- hL, List.getElem?_map, ha]; rfl
      . cases hf : fs[j]? with
        | none => exact absurd hf hfj
        | some a0 =>
          have h0 := hu a0 hf
          rw [hf] at h2
          obtain ⟨b, hb, hab⟩ := hA.get h2
          rw [ha] at hb
          cases hb
          exact a0c.to0 hpa (a47 hka (c3l hab (.of0 h0)) hw hz)
  refine ⟨?_, ?_, ?_⟩
  . apply List.ext_getElem?
    intro j
    rw [List.getElem?_map]
    cases ha : (a7x m (U.flds c x))[j]? with
    | some a => rw [(hat j a ha).2.1]; rfl
    | none =>
      have : (a7x m (U.flds c x)).length <= j := List.getElem?_eq_none_iff.1 ha
      rw [a7c] at this
      rw [<- hL, List.getElem?_map, List.getElem?_eq_none this]
  . rw [List.all_eq_true]
    intro a ha
    obtain ⟨j, hj⟩ := List.getElem?_of_mem ha
    exact (hat j a hj).1
  . refine i8.of_get (by rw [a7c, hlen]; exact hr.length) fun j a s ha hs => ?_
    have hj : j < fs.length := by rw [hr.length]; exact (List.getElem?_eq_some_iff.1 hs).1
    have hfj : fs[j]? = some fs[j] := List.getElem?_eq_getElem hj
    obtain ⟨s', hs', u, hu, hru⟩ := hr.get hfj
    rw [hs] at hs'
    cases hs'
    exact ⟨u, hu, (hat j a ha).2.2 s u (by rw [hfj]; intro h; cases h) hs fun a0 h0 => by rw [hfj] at h0; rw [<- Option.some.inj h0]; exact hru⟩
theorem c6e {G G' : Nat -> Prop} {w w' : World} (hU : UOK U) : ∀ (k : Nat) (c : U.C) (cs : List Value) (x : U.T c), U.flat c = true -> (Rd k c).rep G w cs x -> (Rd k c).rep G' w' cs x
  | 0, _, _, _, _, h => False.elim h
  | k + 1, c, cs, x, hf, ⟨hl, css, hc, h⟩ => by
    refine ⟨hl, css, hc, ?_⟩
    have hfl := hU.flat c x hf
    clear hl hc
    generalize U.flds c x = fs at h hfl
    induction fs generalizing css with
    | nil => cases css with
      | nil => trivial
      | cons _ _ => exact h.elim
    | cons a fs ih => cases css with
      | nil => exact h.elim
      | cons s css =>
        simp only [List.all_cons, Bool.and_eq_true] at hfl
        refine ⟨?_, ih css h.2 hfl.2⟩
        have h1 := h.1
        cases a <;> simp only [c9] at h1 ⊢ <;> first
          | exact h1
          | (cases hfl.1; done)
          | exact c6e hU k _ _ _ hfl.1 h1
theorem b8k (hU : UOK U) {G G' : Nat -> Prop} {w w' : World} {c : U.C} (hf : U.flat c = true) {cs : List Value} {x : U.T c} (h : (Rp c).rep G w cs x) : (Rp c).rep G' w' cs x := by
  obtain ⟨k, h⟩ := h
  exact ⟨k, c6e hU k c cs x hf h⟩
def AR (σ : U.St) (π : Nat -> Value) (X : Cx) (all : List Value) : (p : PK U.C) -> Value -> p.T U -> List Nat -> Prop
  | .v c, u, x, i => i = [] /\ a0c X (inj c x) u
  | .ls c, u, l, i => i = [] /\ d5 (Rp c) X.G X.w u l
  | .rp _ c, u, x, i => i = [] /\ a0c X (.rp (inj c x)) u
  | .ow e c, u, l, i => (i = [] /\ u = .slice none 0 0 /\ l = []) \/ ∃ id, i = [id] /\ u = π id /\ σ.mem id = .sl e c l
  | .io t c, u, x, i => ∃ id b, i = [id] /\ u = π id /\ σ.mem id = .box t b /\ prj c b = some x
  | .im t c m, u, x, i => ∃ id fs, i = [id] /\ u = π id /\ σ.mem id = .box t (.st c fs) /\ U.mkv c (b5w m fs) = some x /\ ∀ f k, (f, k) ∈ m -> ∃ j, fs[f]? = some (.ref j) /\ all[k]? = some (π j)
  | .po _ _ e c, u, l, i => ∃ id, i = [id] /\ u = π id /\ σ.mem id = .sl e c l
  | .so e c, u, l, i => ∃ id, i = [id] /\ u = π id /\ σ.mem id = .sl e c l
  | .cl f cs, u, x, i => i = [] /\ ∃ vs : List Value, u = .func (.func f) #[] vs.toArray /\ i8 (a0c X) (c9w cs x) vs
def ARs (σ : U.St) (π : Nat -> Value) (X : Cx) (all : List Value) : (ps : List (PK U.C)) -> List Value -> Args U ps -> List (List Nat) -> Prop
  | [], [], _, [] => True
  | p :: ps, u :: us, (x, xs), i :: is => AR σ π X all p u x i /\ ARs σ π X all ps us xs is
  | _, _, _, _ => False
def RR (X : Cx) : (r : RK U.C) -> r.T U -> Value -> Prop
  | .v c, x, u => a0c X (inj c x) u
  | .ls c, x, u => d5 (Rp c) X.G X.w u x
  | .ow e c, x, u => MR X (.sl e c x) u
  | .bo _ _, none, u => u = .pointer none
  | .bo t c, some x, u => MR X (.box t (inj c x)) u
def RRs (X : Cx) : (rs : List (RK U.C)) -> Ress U rs -> List Value -> Prop
  | [], _, [] => True
  | r :: rs, (x, xs), u :: us => RR X r x u /\ RRs X rs xs us
  | _, _, _ => False
def OR (X : Cx) : (ps : List (PK U.C)) -> Outs U ps -> List Value -> Prop
  | [], _, [] => True
  | .io t c :: ps, (x, xs), u :: us => MR X (.box t (inj c x)) u /\ OR X ps xs us
  | .im t c m :: ps, (x, xs), u :: us => MR X (.box t (.st c (a7x m (U.flds c x)))) u /\ OR X ps xs us
  | .po _ _ e c :: ps, (x, xs), u :: us => MR X (.sl e c x) u /\ OR X ps xs us
  | .so e c :: ps, (x, xs), u :: us => MR X (.sl e c x) u /\ OR X ps xs us
  | .v _ :: ps, xs, _ :: us => OR X ps xs us
  | .ls _ :: ps, xs, _ :: us => OR X ps xs us
  | .ow _ _ :: ps, xs, _ :: us => OR X ps xs us
  | .rp _ _ :: ps, xs, _ :: us => OR X ps xs us
  | .cl _ _ :: ps, xs, _ :: us => OR X ps xs us
  | _, _, _ => False
def b1o : List (RK U.C) -> List Value -> List Value
  | .ow _ _ :: rs, u :: us => u :: b1o rs us
  | .bo _ _ :: rs, u :: us => u :: b1o rs us
  | _ :: rs, _ :: us => b1o rs us
  | _, _ => []
def ioB : List (PK U.C) -> List Value -> List Value
  | .io _ _ :: ps, u :: us => u :: ioB ps us
  | .im _ _ _ :: ps, u :: us => u :: ioB ps us
  | .po _ _ _ _ :: ps, u :: us => u :: ioB ps us
  | .so _ _ :: ps, u :: us => u :: ioB ps us
  | _ :: ps, _ :: us => ioB ps us
  | _, _ => []
def d64 : List Value -> Value
  | [u] => u
  | us => .tuple us.toArray
def b6r (us : List Value) : Nat -> Value := fun t => us.getD t undef
def czO (Z : Nat -> Prop) (ps : List (PK U.C)) (us : List Value) (w : World) : Cx := ⟨Z, b6r us, fun k => ∃ p, ps[k]? = some p /\ b7z p = true, w⟩
structure Post (s : Sig U) (Z G : Nat -> Prop) (w : World) (args : List Value) (r : Ress U s.rs × Outs U s.ps) (u : Value) (w' : World) : Prop where
  ex : ∃ (Z' : Nat -> Prop) (us : List Value) (args' : List Value), u = d64 us /\ (∀ b, Z b -> Z' b) /\ (∀ b, Z' b -> Z b \/ G b \/ (w.heap.size <= b /\ b < w'.heap.size)) /\ Ext G w w' /\
    args'.length = args.length /\ (∀ (i : Nat) (p : PK U.C), s.ps[i]? = some p -> b7z p = false -> args'[i]? = args[i]?) /\
    RRs (cz Z' w') s.rs r.1 us /\ OR (czO Z' s.ps args' w') s.ps r.2 args' /\
    (∀ v ∈ b1o s.rs us ++ ioB s.ps args', ∀ b, hdV v = some b -> ¬ Z' b /\ b < w'.heap.size /\ (G b \/ w.heap.size <= b)) /\
    (∀ (i j : Nat) (v v' : Value) (b : Nat), i ≠ j -> (b1o s.rs us ++ ioB s.ps args')[i]? = some v -> (b1o s.rs us ++ ioB s.ps args')[j]? = some v' -> hdV v = some b -> hdV v' ≠ some b)
def b21 (ps : List (PK U.C)) (i : Nat) : Prop := (∃ t c, ps[i]? = some (.io t c)) \/ (∃ t c m, ps[i]? = some (.im t c m)) \/ ∃ e c, ps[i]? = some (.so e c)
def Spec (P : Program) (f : FuncId) (fe : Fent U) : Prop :=
  ∀ (xs : Args U fe.s.ps) (b : fe.B), fe.F xs = some b -> ∀ (Z G : Nat -> Prop) (w : World) (us : List Value),
    us.length = fe.s.ps.length -> Rel ⟨w, G, Z, b21 fe.s.ps, b6r us⟩ Z (b6r us) (m6 0 fe.s.ps xs) (b6r (us.take (npK fe.s.ps))) w -> Calls P f (us.take (npK fe.s.ps)).toArray w fun e w' => ∃ u, e = .returned u /\ Post fe.s Z G w us (fe.wr b) u w'
def c3k (P : Program) (f : FuncId) : Prop := ∀ (args : Array Value) (w : World), (callFunc f args).run P w = .ok (.enter f args) w
def d0i (P : Program) (f : FuncId) (fe : Fent U) : Prop :=
  ∀ (xs : Args U fe.s.ps) (b : fe.B), fe.F xs = some b -> ∀ (Z G : Nat -> Prop) (w : World) (us : List Value),
    us.length = fe.s.ps.length -> Rel ⟨w, G, Z, b21 fe.s.ps, b6r us⟩ Z (b6r us) (m6 0 fe.s.ps xs) (b6r (us.take (npK fe.s.ps))) w -> ∃ u w', (callFunc f (us.take (npK fe.s.ps)).toArray).run P w = .ok (.value u) w' /\ Post fe.s Z G w us (fe.wr b) u w'
def d0w (P : Program) (f : FuncId) (fe : Fent U) : Prop := (Spec P f fe /\ c3k P f) \/ d0i P f fe
section
variable {E : Env} {Z : Nat -> Prop} {π : Nat -> Value} {σ : U.St} {ρ : Nat -> Value} {w : World}
variable {m0 m : Nat} {a b v : U.AV} {ws : List (Nat × U.MC)} {fr : Nat}
def a6r (σ : U.St) (π : Nat -> Value) (fz : List (Nat × U.MC)) (b : Nat) : Prop := ∃ q ∈ fz, MB (σ.mem q.1) (π q.1) b
theorem d7q (hU : UOK U) (h : Rel E Z π σ ρ w) {nf : Bool} {c : U.C} {u : Value} {k : U.T c -> List (Nat × U.MC) -> U.Q} (hx : AVR (cx Z π σ w) a u) (hev : (rpQ nf c a k).Ev σ m0 m v ws) :
    ∃ x fz m1, (k x fz).Ev σ m1 m v ws /\ (nf = true -> FZ σ fz) /\ (∀ q ∈ fz, σ.mem q.1 ≠ .never) /\ ∀ Z', (∀ b, Z b -> Z' b) -> (∀ b, a6r σ π fz b -> Z' b) -> a0c (cz Z' w) (.rp (inj c x)) u := by
  unfold rpQ at hev
  split at hev
  . rename_i b0
    split at hev
    . rename_i x hp
      refine ⟨x, [], _, hev, fun _ => (fun _ _ hh => by cases hh), (fun _ hh => by cases hh), fun Z' hz _ => ?_⟩
      obtain ⟨ad, cs, hv, hb, hg, hca, hr⟩ := hx
      refine ⟨ad, cs, hv, hb, fun hn => hg fun hz' => hn (hz _ hz'), hca, ?_⟩
      obtain ⟨u1, hu1, hr1⟩ := a0e hr
      have h1 := a8y hU hp hr1
      rw [hu1] at h1
      exact (a7o hU h1).weaken fun b _ hb hz' => hb (hz b hz')
    . exact hev.elim
  . rename_i id
    split at hev
    . exact hev.elim
    . simp only [Q.Ev] at hev
      have hm := h.mem id
      split at hev
      . rename_i t' b0 hmem
        split at hev
        . rename_i x hp
          rw [hmem] at hm
          obtain ⟨blk, u1, hv, hM, ha⟩ := hm
          refine ⟨x, _, _, hev, (fun hnf => by cases hnf), (fun q hh => by simp at hh; subst hh; rw [hmem]; intro h; cases h), fun Z' hz hb => ⟨⟨blk, 0, none⟩, u1.cells.toList, by rw [hx.2.1]; exact hv, hM.lt, fun hn => hn (hb blk ⟨_, List.mem_singleton.2 rfl, ?_⟩), hM.ca, ?_⟩⟩
          . show MB (σ.mem id) (π id) blk
            rw [hmem, hv]; rfl
          . exact (a7o hU (a8y hU hp ha)).weaken fun b _ hb hz' => hb (hz b hz')
        . exact hev.elim
      . exact hev.elim
  . exact hev.elim
theorem d3h (hU : UOK U) (h : Rel E Z π σ ρ w) {nf : Bool} : ∀ {cs : List U.C} {as : List U.AV} {vs : List Value} {k : CapT U cs -> List (Nat × U.MC) -> U.Q} {m0 m : Nat} {v : U.AV} {ws : List (Nat × U.MC)}, i8 (a0c (cx Z π σ w)) as vs -> (d9a nf cs as k).Ev σ m0 m v ws ->
    ∃ x fz m1, (k x fz).Ev σ m1 m v ws /\ (nf = true -> FZ σ fz) /\ (∀ q ∈ fz, σ.mem q.1 ≠ .never) /\ ∀ Z', (∀ b, Z b -> Z' b) -> (∀ b, a6r σ π fz b -> Z' b) -> i8 (a0c (cz Z' w)) (c9w cs x) vs
  | [], [], [], k, m0, m, v, ws, _, hev => ⟨(), [], m0, hev, fun _ => (fun _ _ hh => by cases hh), (fun _ hh => by cases hh), fun _ _ _ => trivial⟩
  | c :: cs, a :: as, u :: us, k, m0, m, v, ws, hx, hev => by
    obtain ⟨x, fz, m1, hev, h1, h2, h4⟩ := d7q hU h (AVR.of1 hx.1) hev
    obtain ⟨xs, fzs, m2, hev, g1, g2, g4⟩ := d3h hU h hx.2 hev
    refine ⟨(x, xs), fz ++ fzs, m2, hev, fun hnf id m hh => ?_, fun q hh => ?_, fun Z' hz hb => ⟨h4 Z' hz fun b ⟨q, hq, hb'⟩ => hb b ⟨q, List.mem_append_left _ hq, hb'⟩, g4 Z' hz fun b ⟨q, hq, hb'⟩ => hb b ⟨q, List.mem_append_right _ hq, hb'⟩⟩⟩
    . rcases List.mem_append.1 hh with hh | hh
      . exact h1 hnf id m hh
      . exact g1 hnf id m hh
    . rcases List.mem_append.1 hh with hh | hh
      . exact h2 q hh
      . exact g2 q hh
  | [], _ :: _, _, _, _, _, _, _, _, hev => hev.elim
  | _ :: _, [], _, _, _, _, _, _, _, hev => hev.elim
  | [], [], _ :: _, _, _, _, _, _, hx, _ => hx.elim
  | _ :: _, _ :: _, [], _, _, _, _, _, hx, _ => hx.elim
theorem d7r (hU : UOK U) (h : Rel E Z π σ ρ w) {nf : Bool} {all : List U.AV} {ua : List Value} (hall : i8 (AVR (cx Z π σ w)) all ua) {p : PK U.C} {u : Value} {k : p.T U -> List Nat -> List (Nat × U.MC) -> U.Q} (hx : AVR (cx Z π σ w) a u) (hev : (c9y nf all p a k).Ev σ m0 m v ws) :
    ∃ x i fz m1, (k x i fz).Ev σ m1 m v ws /\ (nf = true -> FZ σ fz) /\ (∀ q ∈ fz, σ.mem q.1 ≠ .never) /\ (∀ id ∈ i, σ.mem id ≠ .never) /\ ∀ Z', (∀ b, Z b -> Z' b) -> (∀ b, a6r σ π fz b -> Z' b) -> AR σ π (cz Z' w) ua p u x i := by
  have trl : ∀ {c : U.C} {l : List (U.T c)} (Z' : Nat -> Prop), (∀ b, Z b -> Z' b) -> d5 (Rp c) (cx Z π σ w).G w u l -> d5 (Rp c) (cz Z' w).G (cz Z' w).w u l := fun Z' hz hr => d5.weaken hr fun b _ hb hz' => hb (hz b hz')
  cases p with
  | v c =>
    simp only [c9y] at hev
    split at hev
    . rename_i x hp
      refine ⟨x, [], [], _, hev, fun _ => (fun _ _ hh => by cases hh), (fun _ hh => by cases hh), (fun _ hh => by cases hh), fun Z' hz _ => ⟨rfl, ?_⟩⟩
      have hs : a92 a = true := by
        have := b84 hU hp
        cases a <;> first
          | rfl
          | (exfalso
             unfold prj at hp
             cases hag : U.ag c <;> rw [hag] at hp <;> try (cases hp; done)
             have hk := hU.mkl c _ x hp
             have hkd := hU.kind c x
             cases hl : U.flds c x with
             | nil => rw [hl] at hk; exact hk.elim
             | cons b r =>
               rw [hl] at hk hkd
               simp only [List.all_cons, Bool.and_eq_true] at hkd
               rcases hk.1 with h1 | ⟨h1, _⟩
               . rw [<- h1] at hkd; cases hkd.1
               . cases h1)
      exact a47 (X' := cz Z' w) (a1q hU c x).1 (b0f hU hp (a3t hs hx)) rfl hz
    . exact hev.elim
  | ls c =>
    simp only [c9y, argL] at hev
    split at hev
    . split at hev
      . rename_i l hl
        obtain ⟨he, hx2⟩ := a1k (G := noG) (w := w) hl
        subst he; subst hx2
        exact ⟨_, [], [], _, hev, fun _ => (fun _ _ hh => by cases hh), (fun _ hh => by cases hh), (fun _ hh => by cases hh), fun Z' hz _ => ⟨rfl, trl Z' hz hx⟩⟩
      . exact hev.elim
    . exact ⟨[], [], [], _, hev, fun _ => (fun _ _ hh => by cases hh), (fun _ hh => by cases hh), (fun _ hh => by cases hh), fun Z' hz _ => ⟨rfl, .inl ⟨hx, rfl⟩⟩⟩
    . rename_i id
      have hm := h.mem id
      simp only [Q.Ev] at hev
      split at hev
      . rename_i e c' l' hmem
        split at hev
        . rename_i l hl
          obtain ⟨he, hx2⟩ := a1k (G := noG) (w := w) hl
          subst he; subst hx2
          refine ⟨_, [], _, _, hev, fun _ => (fun id' m' hh => by simp at hh; obtain ⟨rfl, rfl⟩ := hh; exact ⟨e, _, _, hmem, rfl⟩), (fun q hh => by simp at hh; subst hh; rw [hmem]; intro h; cases h), (fun _ hh => by cases hh), fun Z' hz hb => ⟨rfl, ?_⟩⟩
          rw [hmem] at hm
          rw [hx.2.1]
          refine b55 (X := cx Z π σ w) (Z' := Z') hm hz fun b hb' => hb b ⟨_, List.mem_singleton.2 rfl, ?_⟩
          show MB (σ.mem id) (π id) b
          rw [hmem]
          obtain ⟨css, hO, _⟩ := hm
          obtain ⟨ad, cap, hv, _⟩ := hO.shape
          exact (a8n hv).1 hb'
        . exact hev.elim
      . rename_i c' l' hmem
        split at hev
        . rename_i l hl
          obtain ⟨he, hx2⟩ := a1k (G := noG) (w := w) hl
          subst he; subst hx2
          rw [hmem] at hm
          exact ⟨_, [], [], _, hev, fun _ => (fun _ _ hh => by cases hh), (fun _ hh => by cases hh), (fun _ hh => by cases hh), fun Z' hz _ => ⟨rfl, by rw [hx.2.1]; exact d5.weaken hm fun b _ hb hz' => hb (hz b hz')⟩⟩
        . exact hev.elim
      . exact hev.elim
    . exact hev.elim
  | ow e c =>
    simp only [c9y] at hev
    split at hev
    . exact ⟨[], [], [], _, hev, fun _ => (fun _ _ hh => by cases hh), (fun _ hh => by cases hh), (fun _ hh => by cases hh), fun Z' hz _ => .inl ⟨rfl, hx, rfl⟩⟩
    . rename_i id
      simp only [Q.Ev] at hev
      split at hev
      . rename_i e' c' l' hmem
        split at hev
        . rename_i l hbe hl
          have h1 := Nat.eq_of_beq_eq_true hbe
          obtain ⟨he, hx2⟩ := a1k (G := noG) (w := w) hl
          subst he; subst hx2; subst h1
          exact ⟨_, [id], [], _, hev, fun _ => (fun _ _ hh => by cases hh), (fun _ hh => by cases hh), (fun q hh => by simp at hh; subst hh; rw [hmem]; intro h; cases h), fun Z' hz _ => .inr ⟨id, rfl, hx.2.1, hmem⟩⟩
        . exact hev.elim
      . exact hev.elim
    . exact hev.elim
  | rp t c =>
    obtain ⟨x, fz, m1, h1, h2, h3, h4⟩ := d7q hU h hx hev
    exact ⟨x, [], fz, m1, h1, h2, h3, (fun _ hh => by cases hh), fun Z' hz hb => ⟨rfl, h4 Z' hz hb⟩⟩
  | cl f cs =>
    simp only [c9y] at hev
    split at hev
    . rename_i f' as
      split at hev
      . rename_i hf
        have := Nat.eq_of_beq_eq_true hf
        subst this
        obtain ⟨vs, hv, hr⟩ := hx
        obtain ⟨x, fz, m1, h1, h2, h3, h4⟩ := d3h hU h hr hev
        exact ⟨x, [], fz, m1, h1, h2, h3, (fun _ hh => by cases hh), fun Z' hz hb => ⟨rfl, vs, hv, h4 Z' hz hb⟩⟩
      . exact hev.elim
    . exact hev.elim
  | po b f e c =>
    simp only [c9y] at hev
    split at hev
    . rename_i id
      simp only [Q.Ev] at hev
      split at hev
      . rename_i e' c' l' hmem
        split at hev
        . rename_i l hbe hl
          have h1 := Nat.eq_of_beq_eq_true hbe
          obtain ⟨he, hx2⟩ := a1k (G := noG) (w := w) hl
          subst he; subst hx2; subst h1
          exact ⟨_, [id], [], _, hev, fun _ => (fun _ _ hh => by cases hh), (fun _ hh => by cases hh), (fun q hh => by simp at hh; subst hh; rw [hmem]; intro h; cases h), fun Z' hz _ => ⟨id, rfl, hx.2.1, hmem⟩⟩
        . exact hev.elim
      . exact hev.elim
    . exact hev.elim
  | so e c =>
    simp only [c9y] at hev
    split at hev
    . rename_i id
      simp only [Q.Ev] at hev
      split at hev
      . rename_i e' c' l' hmem
        split at hev
        . rename_i l hbe hl
          have h1 := Nat.eq_of_beq_eq_true hbe
          obtain ⟨he, hx2⟩ := a1k (G := noG) (w := w) hl
          subst he; subst hx2; subst h1
          exact ⟨_, [id], [], _, hev, fun _ => (fun _ _ hh => by cases hh), (fun _ hh => by cases hh), (fun q hh => by simp at hh; subst hh; rw [hmem]; intro h; cases h), fun Z' hz _ => ⟨id, rfl, hx.2.1, hmem⟩⟩
        . exact hev.elim
      . exact hev.elim
    . exact hev.elim
  | im t c mm =>
    simp only [c9y] at hev
    split at hev
    . rename_i id
      simp only [Q.Ev] at hev
      split at hev
      . rename_i t' c' fs hmem
        split at hev
        . rename_i x hck hp
          simp only [Bool.and_eq_true] at hck
          have h1 := Nat.eq_of_beq_eq_true hck.1.1
          subst h1
          have h2 := a8l hck.1.2
          subst h2
          refine ⟨x, [id], [], _, hev, fun _ => (fun _ _ hh => by cases hh), (fun _ hh => by cases hh), (fun q hh => by simp at hh; subst hh; rw [hmem]; intro h; cases h), fun Z' hz _ => ⟨id, fs, rfl, hx.2.1, hmem, hp, fun f k hk => ?_⟩⟩
          have hmo := List.all_eq_true.1 hck.2 _ hk
          dsimp only at hmo
          split at hmo
          . rename_i i j hi hj
            have hij := Nat.eq_of_beq_eq_true hmo
            subst hij
            obtain ⟨uk, huk, hrk⟩ := hall.get hj
            exact ⟨i, a9f hi, by rw [huk, hrk.2.1]; rfl⟩
          . cases hmo
        . exact hev.elim
      . exact hev.elim
    . exact hev.elim
  | io t c =>
    simp only [c9y] at hev
    split at hev
    . rename_i id
      simp only [Q.Ev] at hev
      split at hev
      . rename_i t' b0 hmem
        split at hev
        . rename_i x hbe hp
          have h1 := Nat.eq_of_beq_eq_true hbe
          subst h1
          exact ⟨x, [id], [], _, hev, fun _ => (fun _ _ hh => by cases hh), (fun _ hh => by cases hh), (fun q hh => by simp at hh; subst hh; rw [hmem]; intro h; cases h), fun Z' hz _ => ⟨id, b0, rfl, hx.2.1, hmem, hp⟩⟩
        . exact hev.elim
      . exact hev.elim
    . exact hev.elim
theorem c6v (hU : UOK U) (h : Rel E Z π σ ρ w) {nf : Bool} {all : List U.AV} {ua : List Value} (hall : i8 (AVR (cx Z π σ w)) all ua) : ∀ {ps : List (PK U.C)} {as : List U.AV} {us : List Value} {k : Args U ps -> List (List Nat) -> List (Nat × U.MC) -> U.Q} {m0 m : Nat} {v : U.AV} {ws : List (Nat × U.MC)}, i8 (AVR (cx Z π σ w)) as us -> (d47 nf all ps as k).Ev σ m0 m v ws ->
    ∃ xs is fz m1, (k xs is fz).Ev σ m1 m v ws /\ (nf = true -> FZ σ fz) /\ (∀ q ∈ fz, σ.mem q.1 ≠ .never) /\ (∀ i ∈ is, ∀ id ∈ i, σ.mem id ≠ .never) /\ ∀ Z', (∀ b, Z b -> Z' b) -> (∀ b, a6r σ π fz b -> Z' b) -> ARs σ π (cz Z' w) ua ps us xs is
  | [], [], [], k, m0, m, v, ws, _, hev => ⟨(), [], [], m0, hev, fun _ => (fun _ _ hh => by cases hh), (fun _ hh => by cases hh), (fun _ hh => by cases hh), fun _ _ _ => trivial⟩
  | p :: ps, a :: as, u :: us, k, m0, m, v, ws, hx, hev => by
    obtain ⟨x, i, fz, m1, hev, h1, h2, h3, h4⟩ := d7r hU h hall hx.1 hev
    obtain ⟨xs, is, fzs, m2, hev, g1, g2, g3, g4⟩ := c6v hU h hall hx.2 hev
    refine ⟨(x, xs), i :: is, fz ++ fzs, m2, hev, fun hnf id m hh => ?_, fun q hh => ?_, fun j hj => ?_, fun Z' hz hb => ⟨h4 Z' hz fun b ⟨q, hq, hb'⟩ => hb b ⟨q, List.mem_append_left _ hq, hb'⟩, g4 Z' hz fun b ⟨q, hq, hb'⟩ => hb b ⟨q, List.mem_append_right _ hq, hb'⟩⟩⟩
    . rcases List.mem_append.1 hh with hh | hh
      . exact h1 hnf id m hh
      . exact g1 hnf id m hh
    . rcases List.mem_append.1 hh with hh | hh
      . exact h2 q hh
      . exact g2 q hh
    . rcases List.mem_cons.1 hj with hj | hj
      . subst hj; exact h3
      . exact g3 j hj
  | [], _ :: _, _, _, _, _, _, _, _, hev => hev.elim
  | _ :: _, [], _, _, _, _, _, _, _, hev => hev.elim
  | [], [], _ :: _, _, _, _, _, _, hx, _ => hx.elim
  | _ :: _, _ :: _, [], _, _, _, _, _, hx, _ => hx.elim
theorem d6p (h : Rel E Z π σ ρ w) : ∀ {ps : List (PK U.C)} {as : List U.AV} {k : List U.AV -> U.Q} {m0 m : Nat} {v : U.AV} {ws : List (Nat × U.MC)}, (d3j ps as k).Ev σ m0 m v ws -> ∃ ex vs m1, i8 (AVR (cx Z π σ w)) ex vs /\ (k ex).Ev σ m1 m v ws := by
  intro ps
  induction ps with
  | nil => intro as k m0 m v ws hev; exact ⟨[], [], m0, trivial, by simpa [d3j] using hev⟩
  | cons p ps ih =>
    intro as k m0 m v ws hev
    cases as with
    | nil =>
      have e : d3j (p :: ps) [] k = k [] := by cases p <;> rfl
      rw [e] at hev
      exact ⟨[], [], m0, trivial, hev⟩
    | cons a as =>
      have skip : (d3j ps as k).Ev σ m0 m v ws -> ∃ ex vs m1, i8 (AVR (cx Z π σ w)) ex vs /\ (k ex).Ev σ m1 m v ws := fun h => ih h
      cases p with
      | im t c mm =>
        cases a <;> try exact skip hev
        rename_i id
        have hm := h.mem id
        have hev : (match σ.mem id with
          | .box _ (.st _ fs) => d3j ps as fun r => k ((mm.filterMap fun (q : Nat × Nat) => (b32 fs q.1).map (AV.ref : Nat -> U.AV)) ++ r)
          | _ => .fail).Ev σ (m0 ||| 2 ^ (2 * id + 1)) m v ws := hev
        split at hev
        . rename_i t' c' fs hmem
          obtain ⟨ex, vs, m1, h1, h2⟩ := ih hev
          rw [hmem] at hm
          obtain ⟨blk, u, hv, hM, css, hu, hlay, hpp, hr⟩ := hm
          have hfld : ∀ l : List (Nat × Nat), ∃ vs : List Value, i8 (AVR (cx Z π σ w)) (l.filterMap fun (q : Nat × Nat) => (b32 fs q.1).map (AV.ref : Nat -> U.AV)) vs := by
            intro l
            induction l with
            | nil => exact ⟨[], trivial⟩
            | cons q l ih =>
              obtain ⟨vs, hvs⟩ := ih
              cases hra : b32 fs q.1 with
              | none => exact ⟨vs, by simpa [List.filterMap_cons, hra] using hvs⟩
              | some i =>
                obtain ⟨s, hs, u1, hu1, hr1⟩ := hr.get (a9f hra)
                refine ⟨u1 :: vs, ?_⟩
                simp only [List.filterMap_cons, hra, Option.map_some]
                exact ⟨hr1, hvs⟩
          obtain ⟨vs0, hvs0⟩ := hfld mm
          exact ⟨_, vs0 ++ vs, m1, a3o hvs0 h1, h2⟩
        . exact hev.elim
      | _ => exact skip (by cases a <;> exact hev)
end
end
end Go.SX
namespace Go.SX
open Go Go.PL
section
variable {P : Program} {U : Uni}
variable {E : Env} {Z : Nat -> Prop} {π : Nat -> Value} {σ : U.St} {ρ : Nat -> Value} {w : World}
variable {m0 m : Nat} {a b v : U.AV} {ws : List (Nat × U.MC)} {fr : Nat}
theorem p5 {k t : Nat} {a : U.AV} {l : List (Nat × U.AV)} {me : List (Nat × U.MC)} {nx : Nat} : St.slot ⟨(k, a) :: l, me, nx⟩ t = if k = t then a else St.slot ⟨l, me, nx⟩ t := by
  simp only [St.slot, lk]
  cases hk : Nat.beq k t with
  | true => rw [if_pos (Nat.eq_of_beq_eq_true hk)]; rfl
  | false => rw [if_neg (Nat.ne_of_beq_eq_false hk)]; rfl
theorem mem_cons {k t : Nat} {a : U.MC} {l : List (Nat × U.AV)} {me : List (Nat × U.MC)} {nx : Nat} : St.mem ⟨l, (k, a) :: me, nx⟩ t = if k = t then a else St.mem ⟨l, me, nx⟩ t := by
  simp only [St.mem, lk]
  cases hk : Nat.beq k t with
  | true => rw [if_pos (Nat.eq_of_beq_eq_true hk)]; rfl
  | false => rw [if_neg (Nat.ne_of_beq_eq_false hk)]; rfl
theorem d7d {X X' : Cx} {a : U.AV} {u : Value} (hw : X'.w = X.w) (hz : X'.Z = X.Z) (h : a0c X (.rp a) u) : a0c X' (.rp a) u := by
  obtain ⟨ad, cs, hv, hb, hg, hca, hr⟩ := h
  have hG : X'.G = X.G := by unfold Cx.G; rw [hz]
  exact ⟨ad, cs, hv, by rw [hw]; exact hb, by rw [hG]; exact hg, by rw [hw]; exact hca, by rw [hG, hw]; exact hr⟩
theorem d2f {X X' : Cx} (hw : X'.w = X.w) (hz : X'.Z = X.Z) : ∀ (cs : List U.C) (x : CapT U cs) (vs : List Value), i8 (a0c X) (c9w cs x) vs -> i8 (a0c X') (c9w cs x) vs
  | [], _, [], _ => trivial
  | [], _, _ :: _, h => h.elim
  | _ :: _, _, [], h => h.elim
  | c :: cs, (x, xs), u :: us, h => ⟨d7d hw hz h.1, d2f hw hz cs xs us h.2⟩
theorem d6e (hU : UOK U) (h : Rel E Z π σ ρ w) {Zc : Nat -> Prop} {ρc : Nat -> Value} {X : Cx} (h1 : X.Z = Zc) (h2 : X.w = w) (h3 : X.π = ρc) {all : List Value} : ∀ (ps : List (PK U.C)) (k : Nat) (us : List Value) (xs : Args U ps) (is : List (List Nat)), ARs σ π (cz Zc w) all ps us xs is -> (∀ (j : Nat) v, us[j]? = some v -> ρc (k + j) = v) -> (∀ id, (m6 k ps xs).mem id ≠ .never -> X.us id) ->
    ∀ t, AVR X ((m6 k ps xs).slot t) (ρc t)
  | [], k, us, xs, is, _, _, _, t => trivial
  | p :: ps, k, [], xs, is, h, _, _, _ => h.elim
  | p :: ps, k, u :: us, (x, xs), [], h, _, _, _ => h.elim
  | p :: ps, k, u :: us, (x, xs), i :: is, ⟨ha, hr⟩, hρ, hus, t => by
    have hk : ρc k = u := by simpa using hρ 0 u rfl
    have ih := d6e hU h h1 h2 h3 ps (k + 1) us xs is hr (fun j v hv => by have := hρ (j + 1) v (by simpa using hv); rwa [show k + (j + 1) = k + 1 + j by omega] at this)
    have fld : ∀ {c : U.C} {x : U.T c} {u : Value}, a0c (cz Zc w) (inj c x) u -> AVR X (inj c x) u := fun hh => AVR.of1 (a47 (a1q hU _ _).1 hh h2 (by rw [h1]; exact fun _ h => h))
    cases p with
    | v c =>
      show AVR X (St.slot ⟨(k, inj c x) :: (m6 (k + 1) ps xs).sl, _, _⟩ t) _
      rw [p5]
      split
      . rename_i e; subst e; rw [hk]; exact fld ha.2
      . exact ih hus t
    | ls c =>
      show AVR X (St.slot ⟨(k, .list c x) :: (m6 (k + 1) ps xs).sl, _, _⟩ t) _
      rw [p5]
      split
      . rename_i e; subst e; rw [hk]
        show d5 (Rp c) X.G X.w u x
        unfold Cx.G; rw [h2, h1]; exact ha.2
      . exact ih hus t
    | rp ty c =>
      show AVR X (St.slot ⟨(k, .rp (inj c x)) :: (m6 (k + 1) ps xs).sl, _, _⟩ t) _
      rw [p5]
      split
      . rename_i e; subst e; rw [hk]
        obtain ⟨ad, cs, hv, hb, hg, hca, hr⟩ := ha.2
        refine ⟨ad, cs, hv, ?_, ?_, ?_, ?_⟩
        . rw [h2]; exact hb
        . unfold Cx.G; rw [h1]; exact hg
        . rw [h2]; exact hca
        . unfold Cx.G; rw [h2, h1]; exact hr
      . exact ih hus t
    | ow e c =>
      have hus2 : ∀ id, (m6 (k + 1) ps xs).mem id ≠ .never -> X.us id := fun id hid => hus id (by
        show St.mem ⟨_, (k, .sl e c x) :: (m6 (k + 1) ps xs).me, _⟩ id ≠ _
        rw [mem_cons]; split
        . intro h; cases h
        . exact hid)
      show AVR X (St.slot ⟨(k, .ref k) :: (m6 (k + 1) ps xs).sl, _, _⟩ t) _
      rw [p5]
      split
      . rename_i e'; subst e'
        refine ⟨hus k ?_, by rw [h3], ?_⟩
        . show St.mem ⟨_, (k, .sl e c x) :: (m6 (k + 1) ps xs).me, _⟩ k ≠ _
          rw [mem_cons, if_pos rfl]; intro h; cases h
        . rw [hk]
          rcases ha with ⟨_, hu, _⟩ | ⟨id, _, hu, hmem⟩
          . rw [hu]; rfl
          . obtain ⟨ad, cap, hv⟩ := c3c h (.inl ⟨e, hmem⟩)
            rw [hu, hv]; rfl
      . exact ih hus2 t
    | io ty c =>
      have hus2 : ∀ id, (m6 (k + 1) ps xs).mem id ≠ .never -> X.us id := fun id hid => hus id (by
        show St.mem ⟨_, (k, .box ty (inj c x)) :: (m6 (k + 1) ps xs).me, _⟩ id ≠ _
        rw [mem_cons]; split
        . intro h; cases h
        . exact hid)
      show AVR X (St.slot ⟨(k, .ref k) :: (m6 (k + 1) ps xs).sl, _, _⟩ t) _
      rw [p5]
      split
      . rename_i e'; subst e'
        refine ⟨hus k ?_, by rw [h3], ?_⟩
        . show St.mem ⟨_, (k, .box ty (inj c x)) :: (m6 (k + 1) ps xs).me, _⟩ k ≠ _
          rw [mem_cons, if_pos rfl]; intro h; cases h
        . rw [hk]
          obtain ⟨id, b, _, hu, hmem, _⟩ := ha
          have hm := h.mem id
          rw [hmem] at hm
          obtain ⟨blk, u1, hv, _⟩ := hm
          rw [hu, hv]; rfl
      . exact ih hus2 t
    | im ty c m =>
      have hus2 : ∀ id, (m6 (k + 1) ps xs).mem id ≠ .never -> X.us id := fun id hid => hus id (by
        show St.mem ⟨_, (k, .box ty (.st c (a7x m (U.flds c x)))) :: (m6 (k + 1) ps xs).me, _⟩ id ≠ _
        rw [mem_cons]; split
        . intro h; cases h
        . exact hid)
      show AVR X (St.slot ⟨(k, .ref k) :: (m6 (k + 1) ps xs).sl, _, _⟩ t) _
      rw [p5]
      split
      . rename_i e'; subst e'
        refine ⟨hus k ?_, by rw [h3], ?_⟩
        . show St.mem ⟨_, (k, .box ty (.st c (a7x m (U.flds c x)))) :: (m6 (k + 1) ps xs).me, _⟩ k ≠ _
          rw [mem_cons, if_pos rfl]; intro h; cases h
        . rw [hk]
          obtain ⟨id, fs, _, hu, hmem, _⟩ := ha
          have hm := h.mem id
          rw [hmem] at hm
          obtain ⟨blk, u1, hv, _⟩ := hm
          rw [hu, hv]; rfl
      . exact ih hus2 t
    | so e c =>
      have hus2 : ∀ id, (m6 (k + 1) ps xs).mem id ≠ .never -> X.us id := fun id hid => hus id (by
        show St.mem ⟨_, (k, .sl e c x) :: (m6 (k + 1) ps xs).me, _⟩ id ≠ _
        rw [mem_cons]; split
        . intro h; cases h
        . exact hid)
      show AVR X (St.slot ⟨(k, .ref k) :: (m6 (k + 1) ps xs).sl, _, _⟩ t) _
      rw [p5]
      split
      . rename_i e'; subst e'
        refine ⟨hus k ?_, by rw [h3], ?_⟩
        . show St.mem ⟨_, (k, .sl e c x) :: (m6 (k + 1) ps xs).me, _⟩ k ≠ _
          rw [mem_cons, if_pos rfl]; intro h; cases h
        . rw [hk]
          obtain ⟨id, _, hu, hmem⟩ := ha
          obtain ⟨ad, cap, hv⟩ := c3c h (.inl ⟨e, hmem⟩)
          rw [hu, hv]; rfl
      . exact ih hus2 t
    | po b f e c =>
      have hus2 : ∀ id, (m6 (k + 1) ps xs).mem id ≠ .never -> X.us id := fun id hid => hus id (by
        show St.mem ⟨_, (k, .sl e c x) :: (m6 (k + 1) ps xs).me, _⟩ id ≠ _
        rw [mem_cons]; split
        . intro h; cases h
        . exact hid)
      exact ih hus2 t
    | cl f cs =>
      show AVR X (St.slot ⟨(k, .clo f (c9w cs x)) :: (m6 (k + 1) ps xs).sl, _, _⟩ t) _
      rw [p5]
      split
      . rename_i e; subst e; rw [hk]
        obtain ⟨_, vs, hv, hr⟩ := ha
        exact ⟨vs, hv, d2f (by rw [h2]; rfl) (by rw [h1]; rfl) cs x vs hr⟩
      . exact ih hus t
theorem d6r (hU : UOK U) (h : Rel E Z π σ ρ w) {Zc : Nat -> Prop} (hz : ∀ b, Z b -> Zc b) {ρc : Nat -> Value} {X : Cx} (h1 : X.Z = Zc) (h2 : X.w = w) (h3 : X.π = ρc) {all : List Value} (hall : ∀ k u, all[k]? = some u -> ρc k = u) : ∀ (ps : List (PK U.C)) (k : Nat) (us : List Value) (xs : Args U ps) (is : List (List Nat)), ARs σ π (cz Zc w) all ps us xs is -> (∀ (j : Nat) v, us[j]? = some v -> ρc (k + j) = v) -> (∀ t c m q, .im t c m ∈ ps -> q ∈ m -> X.us q.2) ->
    (∀ id, MR X ((m6 k ps xs).mem id) (ρc id)) /\ ∀ i b, MB ((m6 k ps xs).mem i) (ρc i) b -> ∃ j id, i = k + j /\ is[j]? = some [id] /\ MB (σ.mem id) (π id) b
  | [], k, us, xs, is, _, _, _ => ⟨fun _ => trivial, fun _ _ h => h.elim⟩
  | p :: ps, k, [], xs, is, h, _, _ => h.elim
  | p :: ps, k, u :: us, (x, xs), [], h, _, _ => h.elim
  | p :: ps, k, u :: us, (x, xs), i :: is, ⟨ha, hr⟩, hρ, hmu => by
    have hk : ρc k = u := by simpa using hρ 0 u rfl
    obtain ⟨ih1, ih2⟩ := d6r hU h hz h1 h2 h3 hall ps (k + 1) us xs is hr (fun j v hv => by have := hρ (j + 1) v (by simpa using hv); rwa [show k + (j + 1) = k + 1 + j by omega] at this) (fun t c m q hm hq => hmu t c m q (List.mem_cons_of_mem _ hm) hq)
    have ih2' : ∀ i' b, MB ((m6 (k + 1) ps xs).mem i') (ρc i') b -> ∃ j id, i' = k + j /\ (i :: is)[j]? = some [id] /\ MB (σ.mem id) (π id) b := fun i' b hb => by
      obtain ⟨j, id, e, h3, h4⟩ := ih2 i' b hb
      exact ⟨j + 1, id, by omega, by simpa using h3, h4⟩
    cases p with
    | v c => exact ⟨ih1, ih2'⟩
    | ls c => exact ⟨ih1, ih2'⟩
    | rp ty c => exact ⟨ih1, ih2'⟩
    | ow e c =>
      refine ⟨fun id => ?_, fun i' b hb => ?_⟩
      . show MR X (St.mem ⟨_, (k, .sl e c x) :: (m6 (k + 1) ps xs).me, _⟩ id) _
        rw [mem_cons]
        split
        . rename_i e'; subst e'
          rw [hk]
          rcases ha with ⟨_, hu, hl⟩ | ⟨id, _, hu, hmem⟩
          . subst hl; rw [hu]; exact ⟨[], Own.nil _ _ _ _ _, trivial⟩
          . have hm := h.mem id
            rw [hmem] at hm
            obtain ⟨css, hO, hr⟩ := hm
            refine ⟨css, by rw [hu, h2]; exact hO, hr.mono fun r xv hh => ?_⟩
            rw [h2]; unfold Cx.G; rw [h1]
            exact (Rp c).weaken hh fun b _ hb hz' => hb (hz b hz')
        . exact ih1 id
      . have hb : MB (St.mem ⟨(m6 k (.ow e c :: ps) (x, xs)).sl, (k, .sl e c x) :: (m6 (k + 1) ps xs).me, (m6 (k + 1) ps xs).nx⟩ i') (ρc i') b := hb
        rw [mem_cons] at hb
        split at hb
        . rename_i e'; subst e'
          rw [hk] at hb
          rcases ha with ⟨_, hu, hl⟩ | ⟨id, hi, hu, hmem⟩
          . rw [hu] at hb; cases hb
          . refine ⟨0, id, by omega, by rw [hi]; rfl, ?_⟩
            rw [hmem, <- hu]; exact hb
        . exact ih2' i' b hb
    | io ty c =>
      refine ⟨fun id => ?_, fun i' b hb => ?_⟩
      . show MR X (St.mem ⟨_, (k, .box ty (inj c x)) :: (m6 (k + 1) ps xs).me, _⟩ id) _
        rw [mem_cons]
        split
        . rename_i e'; subst e'
          rw [hk]
          obtain ⟨id, b, _, hu, hmem, hp⟩ := ha
          have hm := h.mem id
          rw [hmem] at hm
          obtain ⟨blk, u1, hv, hM, hr⟩ := hm
          refine ⟨blk, u1, by rw [hu]; exact hv, by rw [h2]; exact hM, ?_⟩
          exact a47 (X' := X) (a1q hU c x).1 (b0f hU hp hr) h2 (by rw [h1]; exact hz)
        . exact ih1 id
      . have hb : MB (St.mem ⟨(m6 k (.io ty c :: ps) (x, xs)).sl, (k, .box ty (inj c x)) :: (m6 (k + 1) ps xs).me, (m6 (k + 1) ps xs).nx⟩ i') (ρc i') b := hb
        rw [mem_cons] at hb
        split at hb
        . rename_i e'; subst e'
          rw [hk] at hb
          obtain ⟨id, b0, hi, hu, hmem, hp⟩ := ha
          refine ⟨0, id, by omega, by rw [hi]; rfl, ?_⟩
          rw [hmem, <- hu]; exact hb
        . exact ih2' i' b hb
    | cl f cs => exact ⟨ih1, ih2'⟩
    | po b0 f e c =>
      refine ⟨fun id => ?_, fun i' b hb => ?_⟩
      . show MR X (St.mem ⟨_, (k, .sl e c x) :: (m6 (k + 1) ps xs).me, _⟩ id) _
        rw [mem_cons]
        split
        . rename_i e'; subst e'
          rw [hk]
          obtain ⟨id, _, hu, hmem⟩ := ha
          have hm := h.mem id
          rw [hmem] at hm
          obtain ⟨css, hO, hr⟩ := hm
          refine ⟨css, by rw [hu, h2]; exact hO, hr.mono fun r xv hh => ?_⟩
          rw [h2]; unfold Cx.G; rw [h1]
          exact (Rp c).weaken hh fun b _ hb hz' => hb (hz b hz')
        . exact ih1 id
      . have hb : MB (St.mem ⟨(m6 k (.po b0 f e c :: ps) (x, xs)).sl, (k, .sl e c x) :: (m6 (k + 1) ps xs).me, (m6 (k + 1) ps xs).nx⟩ i') (ρc i') b := hb
        rw [mem_cons] at hb
        split at hb
        . rename_i e'; subst e'
          rw [hk] at hb
          obtain ⟨id, hi, hu, hmem⟩ := ha
          refine ⟨0, id, by omega, by rw [hi]; rfl, ?_⟩
          rw [hmem, <- hu]; exact hb
        . exact ih2' i' b hb
    | so e c =>
      refine ⟨fun id => ?_, fun i' b hb => ?_⟩
      . show MR X (St.mem ⟨_, (k, .sl e c x) :: (m6 (k + 1) ps xs).me, _⟩ id) _
        rw [mem_cons]
        split
        . rename_i e'; subst e'
          rw [hk]
          obtain ⟨id, _, hu, hmem⟩ := ha
          have hm := h.mem id
          rw [hmem] at hm
          obtain ⟨css, hO, hr⟩ := hm
          refine ⟨css, by rw [hu, h2]; exact hO, hr.mono fun r xv hh => ?_⟩
          rw [h2]; unfold Cx.G; rw [h1]
          exact (Rp c).weaken hh fun b _ hb hz' => hb (hz b hz')
        . exact ih1 id
      . have hb : MB (St.mem ⟨(m6 k (.so e c :: ps) (x, xs)).sl, (k, .sl e c x) :: (m6 (k + 1) ps xs).me, (m6 (k + 1) ps xs).nx⟩ i') (ρc i') b := hb
        rw [mem_cons] at hb
        split at hb
        . rename_i e'; subst e'
          rw [hk] at hb
          obtain ⟨id, hi, hu, hmem⟩ := ha
          refine ⟨0, id, by omega, by rw [hi]; rfl, ?_⟩
          rw [hmem, <- hu]; exact hb
        . exact ih2' i' b hb
    | im ty c m =>
      refine ⟨fun id => ?_, fun i' b hb => ?_⟩
      . show MR X (St.mem ⟨_, (k, .box ty (.st c (a7x m (U.flds c x)))) :: (m6 (k + 1) ps xs).me, _⟩ id) _
        rw [mem_cons]
        split
        . rename_i e'; subst e'
          rw [hk]
          obtain ⟨id, fs, _, hu, hmem, hp, hmm⟩ := ha
          have hm := h.mem id
          rw [hmem] at hm
          obtain ⟨blk, u1, hv, hM, css, hu1, hlay, hpp, hr⟩ := hm
          obtain ⟨k1, k2, k3⟩ := b7m hU (X := cx Z π σ w) (X' := X) hlay hpp hr hp h2 (by rw [h1]; exact hz) fun j jd hj => by
            obtain ⟨j', hj1, hj2⟩ := hmm j jd hj
            exact ⟨j', hj1, hmu ty c m _ List.mem_cons_self hj, by rw [h3]; exact hall _ _ hj2⟩
          exact ⟨blk, u1, by rw [hu]; exact hv, by rw [h2]; exact hM, css, hu1, k1, k2, k3⟩
        . exact ih1 id
      . have hb : MB (St.mem ⟨(m6 k (.im ty c m :: ps) (x, xs)).sl, (k, .box ty (.st c (a7x m (U.flds c x)))) :: (m6 (k + 1) ps xs).me, (m6 (k + 1) ps xs).nx⟩ i') (ρc i') b := hb
        rw [mem_cons] at hb
        split at hb
        . rename_i e'; subst e'
          rw [hk] at hb
          obtain ⟨id, fs, hi, hu, hmem, hp, _⟩ := ha
          refine ⟨0, id, by omega, by rw [hi]; rfl, ?_⟩
          rw [hmem, <- hu]; exact hb
        . exact ih2' i' b hb
theorem a88 : ∀ {l : List (List Nat)}, b2h l = true -> ∀ (i j : Nat) (p q : List Nat) (a b : Nat), l[i]? = some p -> l[j]? = some q -> a ∈ p -> b ∈ q -> i ≠ j -> a ≠ b
  | [], _, i, j, p, q, a, b, hi, _, _, _, _ => by simp at hi
  | p0 :: l, h, i, j, p, q, a, b, hi, hj, ha, hb, hne => by
    simp only [b2h, Bool.and_eq_true] at h
    have cross : ∀ (p q : List Nat) (j a b : Nat), p = p0 -> l[j]? = some q -> a ∈ p -> b ∈ q -> a ≠ b := by
      intro p q j a b hp hj2 ha2 hb2 e
      subst e
      rw [hp] at ha2
      have h1 := List.all_eq_true.1 (List.all_eq_true.1 (List.all_eq_true.1 h.1 a ha2) q (List.mem_of_getElem? hj2)) a hb2
      simp at h1
    cases i with
    | zero => cases j with
      | zero => exact absurd rfl hne
      | succ j => exact cross p q j a b (by simpa using hi.symm) (by simpa using hj) ha hb
    | succ i => cases j with
      | zero => exact fun e => cross q p i b a (by simpa using hj.symm) (by simpa using hi) hb ha e.symm
      | succ j => exact a88 h.2 i j p q a b (by simpa using hi) (by simpa using hj) ha hb (fun e => hne (by rw [e]))
def memK {C : Type} : PK C -> Bool
  | .ow _ _ | .io _ _ | .im _ _ _ | .po _ _ _ _ | .so _ _ => true
  | _ => false
theorem b1j : ∀ (ps : List (PK U.C)) (k : Nat) (xs : Args U ps) (id : Nat) (p : PK U.C), ps[id - k]? = some p -> memK p = true -> k <= id -> b0n (m6 k ps xs) id
  | [], k, xs, id, p, h, _, _ => by simp at h
  | p0 :: ps, k, (x, xs), id, p, h, hp, hk => by
    have step : id ≠ k -> b0n (m6 (k + 1) ps xs) id := fun hne => by
      rw [show id - k = (id - (k + 1)) + 1 by omega] at h
      exact b1j ps (k + 1) xs id p (by simpa using h) hp (by omega)
    have go : ∀ (mc : U.MC) (sl : List (Nat × U.AV)) (nx : Nat), mc ≠ .never -> (id ≠ k -> b0n (m6 (k + 1) ps xs) id) -> St.mem ⟨sl, (k, mc) :: (m6 (k + 1) ps xs).me, nx⟩ id ≠ .never := fun mc sl nx hmc hs => by
      rw [mem_cons]
      split
      . exact hmc
      . rename_i hne; exact hs (Ne.symm hne)
    by_cases hid : id = k
    . subst hid
      simp at h
      subst h
      cases p0 <;> first
        | (cases hp; done)
        | exact go _ _ _ (fun h => by cases h) step
    . have h1 := step hid
      cases p0 <;> first
        | exact h1
        | exact go _ _ _ (fun h => by cases h) step
theorem d4b (ps : List (PK U.C)) (xs : Args U ps) (id : Nat) (h : b21 ps id) : b0n (m6 0 ps xs) id := by
  rcases h with ⟨t, c, h⟩ | ⟨t, c, m, h⟩ | ⟨e, c, h⟩
  . exact b1j ps 0 xs id _ (by rwa [Nat.sub_zero]) rfl (Nat.zero_le _)
  . exact b1j ps 0 xs id _ (by rwa [Nat.sub_zero]) rfl (Nat.zero_le _)
  . exact b1j ps 0 xs id _ (by rwa [Nat.sub_zero]) rfl (Nat.zero_le _)
theorem c42 : ∀ (ps : List (PK U.C)) (k : Nat) (xs : Args U ps) (t : Nat), (m6 k ps xs).slot t = .unk \/ ∃ p, k <= t /\ ps[t - k]? = some p /\ b7z p = false
  | [], k, xs, t => .inl rfl
  | p0 :: ps, k, (x, xs), t => by
    have step : (m6 (k + 1) ps xs).slot t = .unk \/ ∃ p, k <= t /\ (p0 :: ps)[t - k]? = some p /\ b7z p = false := by
      rcases c42 ps (k + 1) xs t with h | ⟨p, h1, h2, h3⟩
      . exact .inl h
      . refine .inr ⟨p, by omega, ?_, h3⟩
        rw [show t - k = (t - (k + 1)) + 1 by omega]; simpa using h2
    have go : ∀ (a : U.AV) (me : List (Nat × U.MC)) (nx : Nat), b7z p0 = false -> St.slot ⟨(k, a) :: (m6 (k + 1) ps xs).sl, me, nx⟩ t = .unk \/ ∃ p, k <= t /\ (p0 :: ps)[t - k]? = some p /\ b7z p = false := fun a me nx hp => by
      rw [p5]
      split
      . rename_i e; subst e
        exact .inr ⟨p0, Nat.le_refl _, by simp, hp⟩
      . exact step
    cases p0 <;> first
      | exact go _ _ _ rfl
      | exact step
theorem b1y {all : List (PK U.C)} : ∀ (ps : List (PK U.C)) (i : Nat), b15 all i ps = true -> ∀ t c m q, .im t c m ∈ ps -> q ∈ m -> ∃ b f e c', all[q.2]? = some (.po b f e c')
  | [], i, _, t, c, m, q, h, _ => by cases h
  | p0 :: ps, i, h, t, c, m, q, hm, hq => by
    have step : b15 all (i + 1) ps = true := by
      cases p0 <;> first
        | exact h
        | (simp only [b15, Bool.and_eq_true] at h; exact h.2)
    rcases List.mem_cons.1 hm with e | e
    . subst e
      simp only [b15, Bool.and_eq_true] at h
      have h1 := List.all_eq_true.1 h.1 q hq
      split at h1
      . rename_i b f e c' hx; exact ⟨b, f, e, c', hx⟩
      . cases h1
    . exact b1y ps (i + 1) step t c m q e hq
theorem c4n {ps : List (PK U.C)} (h : d6y ps = true) {t : Nat} {p : PK U.C} (hp : ps[t]? = some p) (hn : b7z p = false) : t < npK ps := by
  rcases Nat.lt_or_ge t (npK ps) with h1 | h1
  . exact h1
  . have : p ∈ ps.drop (npK ps) := by
      refine List.mem_of_getElem? (i := t - npK ps) ?_
      rw [List.getElem?_drop, show npK ps + (t - npK ps) = t by omega]; exact hp
    have := List.all_eq_true.1 h p this
    rw [hn] at this; cases this
theorem c6f (hU : UOK U) (h : Rel E Z π σ ρ w) {fz : List (Nat × U.MC)} {ps : List (PK U.C)} {us : List Value} {xs : Args U ps} {is : List (List Nat)} {ρc ρs : Nat -> Value} (hmi : a7q ps = true) (hs : ∀ t, t < npK ps -> ρs t = ρc t) (hfn : ∀ q ∈ fz, σ.mem q.1 ≠ .never)
    (hA : ∀ Z', (∀ b, Z b -> Z' b) -> (∀ b, a6r σ π fz b -> Z' b) -> ARs σ π (cz Z' w) us ps us xs is) (hap : b2h (is ++ [fz.map (·.1)]) = true) (hρ : ∀ (j : Nat) v, us[j]? = some v -> ρc j = v) :
    Rel ⟨w, fun b => ∃ i ∈ is, ∃ id ∈ i, MB (σ.mem id) (π id) b, fun b => Z b \/ a6r σ π fz b, b21 ps, ρc⟩ (fun b => Z b \/ a6r σ π fz b) ρc (m6 0 ps xs) ρs w := by
  unfold a7q at hmi
  simp only [Bool.and_eq_true] at hmi
  have hAR := hA (fun b => Z b \/ a6r σ π fz b) (fun b h => .inl h) (fun b h => .inr h)
  have hρ' : ∀ (j : Nat) v, us[j]? = some v -> ρc (0 + j) = v := by simpa using hρ
  obtain ⟨hB, hC⟩ := d6r hU h (fun b hb => Or.inl hb) (X := cx (fun b => Z b \/ a6r σ π fz b) ρc (m6 0 ps xs) w) rfl rfl rfl hρ ps 0 us xs is hAR hρ' (fun t c m q hm hq => by
    obtain ⟨b, f, e, c', hx⟩ := b1y ps 0 hmi.1 t c m q hm hq
    exact b1j ps 0 xs q.2 _ (by rw [Nat.sub_zero]; exact hx) rfl (Nat.zero_le _))
  refine ⟨fun t => ?_, hB, fun id b hb => ?_, fun id id' b hne hb hb' => ?_, fun b hb => ?_, fun b hb => .inl hb, fun b hb => hb, Ext.refl _ _, fun id hp => ⟨d4b ps xs id hp, rfl⟩⟩
  . rcases c42 ps 0 xs t with h0 | ⟨p, _, h1, h2⟩
    . rw [h0]; trivial
    . rw [hs t (c4n hmi.2 (by simpa using h1) h2)]
      exact d6e hU h rfl rfl rfl ps 0 us xs is hAR hρ' (fun _ h => h) t
  . obtain ⟨j, id0, _, hj, hb0⟩ := hC id b hb
    obtain ⟨h1, h2, _⟩ := h.own id0 b hb0
    refine ⟨?_, h2, .inl ⟨_, List.mem_of_getElem? hj, id0, by simp, hb0⟩⟩
    rintro (hz | ⟨q, hq, hbq⟩)
    . exact h1 hz
    . have hne : id0 ≠ q.1 := by
        refine a88 hap j is.length [id0] (fz.map (·.1)) id0 q.1 ?_ ?_ (by simp) (List.mem_map_of_mem hq) ?_
        . rw [List.getElem?_append_left (List.getElem?_eq_some_iff.1 hj).1]; exact hj
        . simp
        . exact Nat.ne_of_lt (List.getElem?_eq_some_iff.1 hj).1
      exact h.dist id0 q.1 b hne hb0 hbq
  . obtain ⟨j, i0, e, hj, hb0⟩ := hC id b hb
    obtain ⟨j', i0', e', hj', hb0'⟩ := hC id' b hb'
    have hjj : j ≠ j' := by omega
    have hne : i0 ≠ i0' := by
      refine a88 hap j j' [i0] [i0'] i0 i0' ?_ ?_ (by simp) (by simp) hjj
      . rw [List.getElem?_append_left (List.getElem?_eq_some_iff.1 hj).1]; exact hj
      . rw [List.getElem?_append_left (List.getElem?_eq_some_iff.1 hj').1]; exact hj'
    exact h.dist i0 i0' b hne hb0 hb0'
  . rcases hb with hb | ⟨q, hq, hb⟩
    . exact h.zlt b hb
    . exact (h.own q.1 b hb).2.1
end
end Go.SX
namespace Go.SX
open Go Go.PL
section
variable {P : Program} {U : Uni}
variable {E : Env} {Z : Nat -> Prop} {π : Nat -> Value} {σ : U.St} {ρ : Nat -> Value} {w : World}
variable {m0 m : Nat} {a b v : U.AV} {ws : List (Nat × U.MC)} {fr : Nat}
theorem d1w (hU : UOK U) {X X' : Cx} {c : U.C} {x : U.T c} (hf : U.flat c = true) {u : Value} (h : a0c X (inj c x) u) : a0c X' (inj c x) u := by
  unfold inj at h ⊢
  cases ha : U.ag c with
  | true =>
    rw [ha] at h
    obtain ⟨cs, hu, hr⟩ := h
    exact ⟨cs, hu, b8k hU hf hr⟩
  | false =>
    rw [ha] at h
    have hfl := hU.flat c x hf
    cases hl : U.flds c x with
    | nil => trivial
    | cons a r => cases r with
      | cons _ _ => trivial
      | nil =>
        rw [hl] at h hfl
        simp only [List.all_cons, List.all_nil, Bool.and_true] at hfl
        have hlay := hU.lay c x
        rw [hU.sc c ha, hl] at hlay
        cases a <;> first
          | exact h
          | (cases hfl; done)
          | (simp [m8] at hlay)
def d25 (nf : Bool) (X X' : Cx) : Prop := X'.w = X.w /\ (nf = true -> ∀ b, X.Z b -> X'.Z b)
theorem c32 (hU : UOK U) {nf : Bool} {X X' : Cx} (hL : d25 nf X X') {c : U.C} {x : U.T c} (hf : nf = false -> U.flat c = true) {u : Value} (h : a0c X (inj c x) u) : a0c X' (inj c x) u := by
  cases nf with
  | true => exact a47 (a1q hU c x).1 h hL.1 (hL.2 rfl)
  | false => exact d1w hU (hf rfl) h
theorem c1d (hU : UOK U) {nf : Bool} {X X' : Cx} (hL : d25 nf X X') {e : TypeId} {c : U.C} {l : List (U.T c)} (hf : nf = false -> U.flat c = true) {u : Value} (h : MR X (.sl e c l) u) : MR X' (.sl e c l) u := by
  obtain ⟨css, hO, hr⟩ := h
  refine ⟨css, by rw [hL.1]; exact hO, hr.mono fun r x hh => ?_⟩
  cases nf with
  | true => rw [hL.1]; exact (Rp c).weaken hh fun b _ hb hz => hb (hL.2 rfl b hz)
  | false => exact b8k hU (hf rfl) hh
theorem c36 (hU : UOK U) {nf : Bool} {X X' : Cx} (hL : d25 nf X X') {t : TypeId} {c : U.C} {x : U.T c} (hf : nf = false -> U.flat c = true) {u : Value} (h : MR X (.box t (inj c x)) u) : MR X' (.box t (inj c x)) u := by
  obtain ⟨b, u1, hv, hM, hr⟩ := h
  exact ⟨b, u1, hv, by rw [hL.1]; exact hM, c32 hU hL hf hr⟩
theorem b79 (hU : UOK U) {nf : Bool} {X X' : Cx} (hL : d25 nf X X') : ∀ (rs : List (RK U.C)) (fr : Nat) (xs : Ress U rs) (us : List Value), (nf = false -> rs.all c64 = true) -> RRs X rs xs us ->
    i8 (fun (q : Nat × U.MC) u => MR X' q.2 u /\ q.2 ≠ .never) (b6e fr rs xs).2 (b1o rs us) /\ (∀ (p : Nat) q, (b6e fr rs xs).2[p]? = some q -> q.1 = fr + p) /\
    ((∀ (p : Nat) u, (b1o rs us)[p]? = some u -> X'.us (fr + p) /\ X'.π (fr + p) = u) -> i8 (a0c X') (b6e fr rs xs).1 us)
  | [], fr, xs, [], _, _ => ⟨trivial, fun p q h => by simp [b6e] at h, fun _ => trivial⟩
  | r :: rs, fr, xs, [], _, h => h.elim
  | [], fr, xs, _ :: _, _, h => h.elim
  | .v c :: rs, fr, (x, xs), u :: us, hf, h => by
    obtain ⟨h1, h2, h3⟩ := b79 hU hL rs fr xs us (fun e => by have := hf e; simp only [List.all_cons, Bool.and_eq_true] at this; exact this.2) h.2
    exact ⟨h1, h2, fun hh => ⟨c32 hU hL (fun e => by have := hf e; simp only [List.all_cons, Bool.and_eq_true] at this; exact this.1) h.1, h3 hh⟩⟩
  | .ls c :: rs, fr, (x, xs), u :: us, hf, h => by
    obtain ⟨h1, h2, h3⟩ := b79 hU hL rs fr xs us (fun e => by have := hf e; simp only [List.all_cons, Bool.and_eq_true] at this; exact this.2) h.2
    refine ⟨h1, h2, fun hh => ⟨?_, h3 hh⟩⟩
    cases nf with
    | false => have := hf rfl; simp only [List.all_cons, Bool.and_eq_true] at this; cases this.1
    | true =>
      show d5 (Rp c) X'.G X'.w u x
      rw [hL.1]
      exact d5.weaken h.1 fun b _ hb hz => hb (hL.2 rfl b hz)
  | .ow e c :: rs, fr, (x, xs), u :: us, hf, h => by
    obtain ⟨h1, h2, h3⟩ := b79 hU hL rs (fr + 1) xs us (fun e => by have := hf e; simp only [List.all_cons, Bool.and_eq_true] at this; exact this.2) h.2
    have hsl := c1d hU hL (fun e => by have := hf e; simp only [List.all_cons, Bool.and_eq_true] at this; exact this.1) h.1
    refine ⟨⟨⟨hsl, fun h => by cases h⟩, h1⟩, fun p q hq => ?_, fun hh => ⟨?_, h3 fun p u' hu' => ?_⟩⟩
    . cases p with
      | zero => have hq : some (fr, MC.sl e c x) = some q := hq; cases hq; rfl
      | succ p => have := h2 p q hq; omega
    . obtain ⟨hu, hp⟩ := hh 0 u rfl
      obtain ⟨css, hO, _⟩ := hsl
      obtain ⟨ad, cap, hv, _⟩ := hO.shape
      exact ⟨hu, hp.symm, by rw [hv]; rfl⟩
    . have := hh (p + 1) u' hu'
      rwa [show fr + (p + 1) = fr + 1 + p by omega] at this
  | .bo t c :: rs, fr, (some x, xs), u :: us, hf, h => by
    obtain ⟨h1, h2, h3⟩ := b79 hU hL rs (fr + 1) xs us (fun e => by have := hf e; simp only [List.all_cons, Bool.and_eq_true] at this; exact this.2) h.2
    have hbx := c36 hU hL (fun e => by have := hf e; simp only [List.all_cons, Bool.and_eq_true] at this; exact this.1) h.1
    refine ⟨⟨⟨hbx, fun h => by cases h⟩, h1⟩, fun p q hq => ?_, fun hh => ⟨?_, h3 fun p u' hu' => ?_⟩⟩
    . cases p with
      | zero => have hq : some (fr, MC.box t (inj c x)) = some q := hq; cases hq; rfl
      | succ p => have := h2 p q hq; omega
    . obtain ⟨hu, hp⟩ := hh 0 u rfl
      obtain ⟨bk, u1, hv, _⟩ := hbx
      exact ⟨hu, hp.symm, by rw [hv]; rfl⟩
    . have := hh (p + 1) u' hu'
      rwa [show fr + (p + 1) = fr + 1 + p by omega] at this
  | .bo t c :: rs, fr, (none, xs), u :: us, hf, h => by
    obtain ⟨h1, h2, h3⟩ := b79 hU hL rs (fr + 1) xs us (fun e => by have := hf e; simp only [List.all_cons, Bool.and_eq_true] at this; exact this.2) h.2
    refine ⟨⟨⟨trivial, fun h => by cases h⟩, h1⟩, fun p q hq => ?_, fun hh => ⟨h.1, h3 fun p u' hu' => ?_⟩⟩
    . cases p with
      | zero => have hq : some (fr, MC.dead) = some q := hq; cases hq; rfl
      | succ p => have := h2 p q hq; omega
    . have := hh (p + 1) u' hu'
      rwa [show fr + (p + 1) = fr + 1 + p by omega] at this
theorem d19 (hU : UOK U) {X X' : Cx} {a : U.AV} (hf : d7w a = true) {u : Value} (h : a7w X a u) : a7w X' a u := by
  cases a <;> first
    | (cases hf; done)
    | exact h
    | (obtain ⟨cs, hu, hr⟩ := h
       exact ⟨cs, hu, b8k hU hf hr⟩)
theorem c24 (g : Nat -> Nat) : ∀ (m : List (Nat × Nat)) (l : List U.AV) (j : Nat), (∃ k, (j, k) ∈ m /\ (j < l.length -> (a7x m l)[j]? = some (.ref k) /\ (a7x (m.map fun q => (q.1, g q.2)) l)[j]? = some (.ref (g k)))) \/ ((a7x m l)[j]? = l[j]? /\ (a7x (m.map fun q => (q.1, g q.2)) l)[j]? = l[j]?)
  | [], l, j => .inr ⟨rfl, rfl⟩
  | q :: m, l, j => by
    by_cases hq : q.1 = j
    . left
      subst hq
      exact ⟨q.2, List.mem_cons_self, fun hj => by simp [a7x, a7c, hj]⟩
    . rcases c24 g m l j with ⟨k, h1, h2⟩ | ⟨h1, h2⟩
      . left
        refine ⟨k, List.mem_cons_of_mem _ h1, fun hj => ?_⟩
        simp only [a7x, List.map_cons]
        rw [List.getElem?_set_ne hq, List.getElem?_set_ne hq]; exact h2 hj
      . right
        simp only [a7x, List.map_cons]
        rw [List.getElem?_set_ne hq, List.getElem?_set_ne hq]
        exact ⟨h1, h2⟩
theorem d5t (hU : UOK U) {nf : Bool} {X X' : Cx} (hL : d25 nf X X') {t : TypeId} {c : U.C} {x : U.T c} {m : List (Nat × Nat)} (g : Nat -> Nat) (hf : nf = false -> U.flat c = true) {u : Value} (hm : ∀ q ∈ m, X'.us (g q.2) /\ X'.π (g q.2) = X.π q.2) (h : MR X (.box t (.st c (a7x m (U.flds c x)))) u) : MR X' (.box t (.st c (a7x (m.map fun q => (q.1, g q.2)) (U.flds c x)))) u := by
  obtain ⟨b, u1, hv, hM, css, hu, hlay, hpp, hr⟩ := h
  have hkd := hU.kind c x
  have hat : ∀ (j : Nat) (a : U.AV), (a7x (m.map fun q => (q.1, g q.2)) (U.flds c x))[j]? = some a -> ∃ a0, (a7x m (U.flds c x))[j]? = some a0 /\ m8 a = m8 a0 /\ m4 a = true /\ ∀ u, a7w X a0 u -> a7w X' a u := by
    intro j a ha
    have hj : j < (U.flds c x).length := by
      have := (List.getElem?_eq_some_iff.1 ha).1
      rwa [a7c] at this
    rcases c24 g m (U.flds c x) j with ⟨k, h1, h2⟩ | ⟨h1, h2⟩
    . obtain ⟨h3, h4⟩ := h2 hj
      rw [h4] at ha
      cases ha
      refine ⟨_, h3, rfl, rfl, fun u hu => ?_⟩
      obtain ⟨k1, k2⟩ := hm _ h1
      obtain ⟨_, k4, k5⟩ := hu
      exact ⟨k1, by rw [k2]; exact k4, k5⟩
    . rw [h2] at ha
      have hka : b0k a = true := List.all_eq_true.1 hkd a (List.mem_of_getElem? ha)
      have hpa : m4 a = true := by cases a <;> first | rfl | cases hka
      refine ⟨a, by rw [h1]; exact ha, rfl, hpa, fun u hu => ?_⟩
      cases nf with
      | true => exact a0c.to0 hpa (a47 hka (.of0 hu) hL.1 (hL.2 rfl))
      | false => exact d19 hU (List.all_eq_true.1 (hU.flat c x (hf rfl)) a (List.mem_of_getElem? ha)) hu
  have hlen : (a7x (m.map fun q => (q.1, g q.2)) (U.flds c x)).length = (a7x m (U.flds c x)).length := by rw [a7c, a7c]
  refine ⟨b, u1, hv, by rw [hL.1]; exact hM, css, hu, ?_, ?_, ?_⟩
  . rw [<- hlay]
    apply List.ext_getElem?
    intro j
    rw [List.getElem?_map, List.getElem?_map]
    cases ha : (a7x (m.map fun q => (q.1, g q.2)) (U.flds c x))[j]? with
    | some a =>
      obtain ⟨a0, h1, h2, _⟩ := hat j a ha
      rw [h1]; simp [h2]
    | none =>
      have : (a7x (m.map fun q => (q.1, g q.2)) (U.flds c x)).length <= j := List.getElem?_eq_none_iff.1 ha
      rw [hlen] at this
      rw [List.getElem?_eq_none this]
  . rw [List.all_eq_true]
    intro a ha
    obtain ⟨j, hj⟩ := List.getElem?_of_mem ha
    exact (hat j a hj).choose_spec.2.2.1
  . refine i8.of_get (by rw [hlen]; exact hr.length) fun j a s ha hs => ?_
    obtain ⟨a0, h1, _, _, h2⟩ := hat j a ha
    obtain ⟨s', hs', u, hu, hru⟩ := hr.get h1
    rw [hs] at hs'
    cases hs'
    exact ⟨u, hu, h2 u hru⟩
theorem d11 {m : U.MC} {v : Value} {b : Nat} (h : MB m v b) : hdV v = some b := by
  cases m <;> first | exact h | exact h.elim
theorem c9g (hU : UOK U) {nf : Bool} {X X' : Cx} (hL : d25 nf X X') {Xc : Cx} {b : Nat} {all ua : List Value} : ∀ (ps : List (PK U.C)) (k : Nat) (xs : Args U ps) (is : List (List Nat)) (os : Outs U ps) (us us' : List Value), (nf = false -> ps.all b8o = true) -> ARs σ π Xc all ps us xs is -> OR X ps os us' -> (∀ (i : Nat) (p : PK U.C), ps[i]? = some p -> b7z p = false -> us'[i]? = us[i]?) -> (∀ (i : Nat) u, us'[i]? = some u -> ua[k + i]? = some u) -> (∀ t c m q, .im t c m ∈ ps -> q ∈ m -> X'.us (b + q.2) /\ X'.π (b + q.2) = X.π q.2) ->
    i8 (fun (q : Nat × U.MC) u => MR X' q.2 u /\ q.2 ≠ .never /\ ((u = π q.1 /\ σ.mem q.1 ≠ .never) \/ ∃ j, q.1 = b + k + j /\ ua[k + j]? = some u /\ ∃ p, ps[j]? = some p /\ b7z p = true)) (a7v b k ps is os) (ioB ps us')
  | [], k, xs, [], os, [], [], _, _, _, _, _, _ => trivial
  | [], k, xs, is, os, _ :: _, us', _, h, _, _, _, _ => by cases is <;> exact h.elim
  | [], k, xs, _ :: _, os, [], us', _, h, _, _, _, _ => h.elim
  | [], k, xs, [], os, [], _ :: _, _, _, h, _, _, _ => h.elim
  | _ :: _, k, xs, is, os, [], us', _, h, _, _, _, _ => by cases is <;> exact h.elim
  | _ :: _, k, (x, xs), [], os, _ :: _, us', _, h, _, _, _, _ => h.elim
  | p :: ps, k, (x, xs), i :: is, os, u :: us, [], hf, h, hO, _, _, _ => by cases p <;> exact hO.elim
  | p :: ps, k, (x, xs), i :: is, os, u :: us, u' :: us', hf, h, hO, hsame, hua, hmu => by
    have hf' : nf = false -> b8o p = true /\ ps.all b8o = true := fun e => by have := hf e; simpa only [List.all_cons, Bool.and_eq_true] using this
    have hrec : ∀ os', OR X ps os' us' -> i8 (fun (q : Nat × U.MC) u => MR X' q.2 u /\ q.2 ≠ .never /\ ((u = π q.1 /\ σ.mem q.1 ≠ .never) \/ ∃ j, q.1 = b + k + j /\ ua[k + j]? = some u /\ ∃ p0, (p :: ps)[j]? = some p0 /\ b7z p0 = true)) (a7v b (k + 1) ps is os') (ioB ps us') := fun os' hO' => by
      have := c9g hU hL ps (k + 1) xs is os' us us' (fun e => (hf' e).2) h.2 hO' (fun i p hp hn => by have := hsame (i + 1) p (by simpa using hp) hn; simpa using this) (fun i v hv => by have := hua (i + 1) v (by simpa using hv); rwa [show k + (i + 1) = k + 1 + i by omega] at this) (fun t c m q hm hq => hmu t c m q (List.mem_cons_of_mem _ hm) hq)
      refine this.mono fun q v ⟨h1, h2, h3⟩ => ⟨h1, h2, ?_⟩
      rcases h3 with h3 | ⟨j, e1, e2, p0, e3, e4⟩
      . exact .inl h3
      . exact .inr ⟨j + 1, by omega, by rwa [show k + (j + 1) = k + 1 + j by omega], p0, by simpa using e3, e4⟩
    have same : b7z p = false -> u' = u := fun hn => by have := hsame 0 p rfl hn; simpa using this
    cases p with
    | v c => exact hrec os hO
    | ls c => exact hrec os hO
    | rp t c => exact hrec os hO
    | ow e c => exact hrec os hO
    | cl f cs => exact hrec os hO
    | io t c =>
      obtain ⟨o, os⟩ := os
      obtain ⟨id, b0, hi, hu, hmem, hp⟩ := h.1
      subst hi
      refine ⟨⟨c36 hU hL (fun e => (hf' e).1) hO.1, (fun h => by cases h), .inl ⟨by rw [same rfl]; exact hu, ?_⟩⟩, hrec os hO.2⟩
      show σ.mem id ≠ .never
      rw [hmem]; intro h; cases h
    | im t c m =>
      obtain ⟨o, os⟩ := os
      obtain ⟨id, fs, hi, hu, hmem, hp, _⟩ := h.1
      subst hi
      refine ⟨⟨d5t hU hL (b + ·) (fun e => (hf' e).1) (fun q hq => hmu t c m q List.mem_cons_self hq) hO.1, (fun h => by cases h), .inl ⟨by rw [same rfl]; exact hu, ?_⟩⟩, hrec os hO.2⟩
      show σ.mem id ≠ .never
      rw [hmem]; intro h; cases h
    | so e c =>
      obtain ⟨o, os⟩ := os
      obtain ⟨id, hi, hu, hmem⟩ := h.1
      subst hi
      refine ⟨⟨c1d hU hL (fun e => (hf' e).1) hO.1, (fun h => by cases h), .inl ⟨by rw [same rfl]; exact hu, ?_⟩⟩, hrec os hO.2⟩
      show σ.mem id ≠ .never
      rw [hmem]; intro h; cases h
    | po b0 f e c =>
      obtain ⟨o, os⟩ := os
      exact ⟨⟨c1d hU hL (fun e => (hf' e).1) hO.1, (fun h => by cases h), .inr ⟨0, by simp, hua 0 u' rfl, _, rfl, rfl⟩⟩, hrec os hO.2⟩
theorem a56 {Xc : Cx} {b : Nat} {all : List Value} : ∀ (ps : List (PK U.C)) (k : Nat) (xs : Args U ps) (is : List (List Nat)) (os : Outs U ps) (us : List Value), ARs σ π Xc all ps us xs is -> ∀ i ∈ is, ∀ id ∈ i, (∃ m, (id, m) ∈ a7v b k ps is os) \/ id ∈ c11 ps is
  | [], k, xs, [], os, [], _, i, hi, _, _ => by cases hi
  | [], k, xs, _ :: _, os, [], h, _, _, _, _ => h.elim
  | [], k, xs, is, os, _ :: _, h, _, _, _, _ => by cases is <;> exact h.elim
  | _ :: _, k, xs, is, os, [], h, _, _, _, _ => by cases is <;> exact h.elim
  | _ :: _, k, (x, xs), [], os, _ :: _, h, _, _, _, _ => h.elim
  | p :: ps, k, (x, xs), i0 :: is, os, u :: us, h, i, hi, id, hid => by
    rcases List.mem_cons.1 hi with e | hi
    . subst e
      cases p with
      | v c => rw [h.1.1] at hid; cases hid
      | ls c => rw [h.1.1] at hid; cases hid
      | rp t c => rw [h.1.1] at hid; cases hid
      | cl f cs => rw [h.1.1] at hid; cases hid
      | ow e c => exact .inr (List.mem_append_left _ hid)
      | po b0 f e c => exact .inr (List.mem_append_left _ hid)
      | io t c => obtain ⟨o, os⟩ := os; exact .inl ⟨_, List.mem_append_left _ (List.mem_map_of_mem hid)⟩
      | so e c => obtain ⟨o, os⟩ := os; exact .inl ⟨_, List.mem_append_left _ (List.mem_map_of_mem hid)⟩
      | im t c m => obtain ⟨o, os⟩ := os; exact .inl ⟨_, List.mem_append_left _ (List.mem_map_of_mem hid)⟩
    . cases p with
      | v c => exact a56 ps (k + 1) xs is os us h.2 i hi id hid
      | ls c => exact a56 ps (k + 1) xs is os us h.2 i hi id hid
      | rp t c => exact a56 ps (k + 1) xs is os us h.2 i hi id hid
      | cl f cs => exact a56 ps (k + 1) xs is os us h.2 i hi id hid
      | ow e c => exact (a56 ps (k + 1) xs is os us h.2 i hi id hid).imp_right fun h1 => List.mem_append_right _ h1
      | po b0 f e c =>
        obtain ⟨o, os⟩ := os
        rcases a56 ps (k + 1) xs is os us h.2 i hi id hid with ⟨m, h1⟩ | h1
        . exact .inl ⟨m, List.mem_cons_of_mem _ h1⟩
        . exact .inr (List.mem_append_right _ h1)
      | io t c =>
        obtain ⟨o, os⟩ := os
        rcases a56 ps (k + 1) xs is os us h.2 i hi id hid with ⟨m, h1⟩ | h1
        . exact .inl ⟨m, List.mem_append_right _ h1⟩
        . exact .inr h1
      | so e c =>
        obtain ⟨o, os⟩ := os
        rcases a56 ps (k + 1) xs is os us h.2 i hi id hid with ⟨m, h1⟩ | h1
        . exact .inl ⟨m, List.mem_append_right _ h1⟩
        . exact .inr h1
      | im t c m =>
        obtain ⟨o, os⟩ := os
        rcases a56 ps (k + 1) xs is os us h.2 i hi id hid with ⟨m, h1⟩ | h1
        . exact .inl ⟨m, List.mem_append_right _ h1⟩
        . exact .inr h1
theorem d0z {X : Cx} {vs : List U.AV} {us : List Value} (h : i8 (a0c X) vs us) : AVR X (d8a vs) (d64 us) := by
  match vs, us, h with
  | [], [], h => exact ⟨[], rfl, trivial⟩
  | [a], [u], h => exact AVR.of1 h.1
  | a :: a' :: vs, u :: u' :: us, h => exact ⟨_, rfl, h⟩
  | [], _ :: _, h => exact h.elim
  | _ :: _, [], h => exact h.elim
  | [a], u :: u' :: us, h => exact h.2.elim
  | a :: a' :: vs, [u], h => exact h.2.elim
end
end Go.SX
namespace Go.SX
open Go Go.PL
section
variable {P : Program} {U : Uni}
variable {E : Env} {Z : Nat -> Prop} {π : Nat -> Value} {σ : U.St} {ρ : Nat -> Value} {w : World}
variable {m0 m : Nat} {a b v : U.AV} {ws : List (Nat × U.MC)} {fr : Nat}
theorem a4k {α : Type} {t : Nat} {l r : List (Nat × α)} {a : α} (h : (t, a) ∈ l \/ (t, a) ∈ r) : ∃ m, lk t (l ++ r) = some m := by
  have key : ∀ {l : List (Nat × α)} {a : α}, (t, a) ∈ l -> ∃ m, lk t l = some m := by
    intro l
    induction l with
    | nil => intro a h; cases h
    | cons q l ih =>
      intro a h
      show ∃ m, (bif Nat.beq q.1 t then some q.2 else lk t l) = some m
      cases hk : Nat.beq q.1 t with
      | true => exact ⟨_, rfl⟩
      | false =>
        rcases List.mem_cons.1 h with e | e
        . rw [<- e] at hk; exact absurd rfl (Nat.ne_of_beq_eq_false hk)
        . exact ih e
  exact key (List.mem_append.2 h)
theorem c3j : ∀ (rs : List (RK U.C)) (us : List Value), (b1o rs us).length <= rs.length
  | [], us => by cases us <;> simp [b1o]
  | r :: rs, [] => by cases r <;> simp [b1o]
  | r :: rs, u :: us => by
    have := c3j rs us
    cases r <;> simp [b1o] <;> omega
theorem a7f {b : Nat} : ∀ (ps : List (PK U.C)) (k : Nat) (is : List (List Nat)) (os : Outs U ps), ∀ q ∈ a7v b k ps is os, q.2 ≠ .never
  | [], k, is, os, q, h => by cases is <;> cases h
  | p :: ps, k, [], os, q, h => by cases p <;> cases h
  | p :: ps, k, i :: is, os, q, h => by
    cases p with
    | v c => exact a7f ps (k + 1) is os q h
    | ls c => exact a7f ps (k + 1) is os q h
    | rp t c => exact a7f ps (k + 1) is os q h
    | ow e c => exact a7f ps (k + 1) is os q h
    | cl f cs => exact a7f ps (k + 1) is os q h
    | io t c =>
      obtain ⟨o, os⟩ := os
      rcases List.mem_append.1 h with h | h
      . obtain ⟨id, _, e⟩ := List.mem_map.1 h
        rw [<- e]; intro h; cases h
      . exact a7f ps (k + 1) is os q h
    | so e c =>
      obtain ⟨o, os⟩ := os
      rcases List.mem_append.1 h with h | h
      . obtain ⟨id, _, e⟩ := List.mem_map.1 h
        rw [<- e]; intro h; cases h
      . exact a7f ps (k + 1) is os q h
    | im t c m =>
      obtain ⟨o, os⟩ := os
      rcases List.mem_append.1 h with h | h
      . obtain ⟨id, _, e⟩ := List.mem_map.1 h
        rw [<- e]; intro h; cases h
      . exact a7f ps (k + 1) is os q h
    | po b0 f e c =>
      obtain ⟨o, os⟩ := os
      rcases List.mem_cons.1 h with h | h
      . rw [h]; intro h; cases h
      . exact a7f ps (k + 1) is os q h
theorem c8l {b : Nat} {Xc : Cx} {all : List Value} : ∀ (ps : List (PK U.C)) (k : Nat) (us : List Value) (xs : Args U ps) (is : List (List Nat)) (os : Outs U ps), ARs σ π Xc all ps us xs is -> ∀ (j : Nat) (p : PK U.C), ps[j]? = some p -> b7z p = true -> ∃ m, (b + k + j, m) ∈ a7v b k ps is os
  | [], k, us, xs, is, os, _, j, p, h, _ => by simp at h
  | _ :: _, k, [], xs, is, os, h, _, _, _, _ => by cases is <;> exact h.elim
  | _ :: _, k, _ :: _, (x, xs), [], os, h, _, _, _, _ => h.elim
  | p0 :: ps, k, u :: us, (x, xs), i :: is, os, h, j, p, hp, hn => by
    have go : ∀ os', 0 < j -> ∃ m, (b + k + j, m) ∈ a7v b (k + 1) ps is os' := fun os' hj => by
      obtain ⟨m, hm⟩ := c8l ps (k + 1) us xs is os' h.2 (j - 1) p (by rw [show j = (j - 1) + 1 by omega] at hp; simpa using hp) hn
      exact ⟨m, by rwa [show b + (k + 1) + (j - 1) = b + k + j by omega] at hm⟩
    have pos : b7z p0 = false -> 0 < j := fun hn0 => by
      rcases Nat.eq_zero_or_pos j with e | e
      . subst e; simp at hp; subst hp; rw [hn] at hn0; cases hn0
      . exact e
    cases p0 with
    | v c => exact go os (pos rfl)
    | ls c => exact go os (pos rfl)
    | rp t c => exact go os (pos rfl)
    | ow e c => exact go os (pos rfl)
    | cl f cs => exact go os (pos rfl)
    | io t c => obtain ⟨o, os⟩ := os; obtain ⟨m, hm⟩ := go os (pos rfl); exact ⟨m, List.mem_append_right _ hm⟩
    | so e c => obtain ⟨o, os⟩ := os; obtain ⟨m, hm⟩ := go os (pos rfl); exact ⟨m, List.mem_append_right _ hm⟩
    | im t c m0 => obtain ⟨o, os⟩ := os; obtain ⟨m, hm⟩ := go os (pos rfl); exact ⟨m, List.mem_append_right _ hm⟩
    | po b0 f e c =>
      obtain ⟨o, os⟩ := os
      rcases Nat.eq_zero_or_pos j with e | e
      . subst e; exact ⟨_, List.mem_cons_self⟩
      . obtain ⟨m, hm⟩ := go os e; exact ⟨m, List.mem_cons_of_mem _ hm⟩
theorem d08 {fr n j : Nat} {ps : List (PK U.C)} {p : PK U.C} (hp : ps[j]? = some p) (hn : b7z p = true) : fr + n + j ∈ d8n fr n ps := by
  unfold d8n
  rw [List.mem_filterMap]
  refine ⟨j, List.mem_range.2 (List.getElem?_eq_some_iff.1 hp).1, ?_⟩
  rw [hp]
  simp [hn]
theorem c0p (hU : UOK U) (h : Rel E Z π σ ρ w) {s : Sig U} {fz : List (Nat × U.MC)} {us : List Value} {xs : Args U s.ps} {is : List (List Nat)} {r : Ress U s.rs × Outs U s.ps} {u : Value} {w' : World} {d : Option Tmp}
    (hfz : s.nf = true -> FZ σ fz) (hfn : ∀ q ∈ fz, σ.mem q.1 ≠ .never) (hin : ∀ i ∈ is, ∀ id ∈ i, σ.mem id ≠ .never) (hA : ∀ Z', (∀ b, Z b -> Z' b) -> (∀ b, a6r σ π fz b -> Z' b) -> ARs σ π (cz Z' w) us s.ps us xs is) (hap : b2h (is ++ [fz.map (·.1)]) = true) (hmi : a7q s.ps = true)
    (hnev : ∀ i ∈ (b6e fr s.rs r.1).2.map (·.1), σ.mem i = .never) (hnev2 : ∀ i ∈ d8n fr s.rs.length s.ps, σ.mem i = .never)
    (hP : Post s (fun b => Z b \/ a6r σ π fz b) (fun b => ∃ i ∈ is, ∃ id ∈ i, MB (σ.mem id) (π id) b) w us r u w') :
    ∃ Z' π', Rel E Z' π' (σ.app d (d8a (b6e fr s.rs r.1).1) ((b6e fr s.rs r.1).2 ++ (a7v (fr + s.rs.length) 0 s.ps is r.2 ++ (((c11 s.ps is).map fun id => (id, .dead)) ++ match s.nf with | true => fz | false => [])))) (a5m ρ d u) w' := by
  obtain ⟨Z1, us1, ua, hu, hz1, hz2, hE, hlu, hsame, hRR, hOR, hown, hdist⟩ := hP
  subst hu
  unfold a7q at hmi
  simp only [Bool.and_eq_true] at hmi
  have hARs := hA (fun b => Z b \/ a6r σ π fz b) (fun b h => .inl h) (fun b h => .inr h)
  obtain ⟨bb, hbb⟩ : ∃ bb : Nat, bb = fr + s.rs.length := ⟨_, rfl⟩
  rw [<- hbb]
  obtain ⟨ws, hws⟩ : ∃ ws : List (Nat × U.MC), ws = (b6e fr s.rs r.1).2 ++ (a7v bb 0 s.ps is r.2 ++ (((c11 s.ps is).map fun id => (id, .dead)) ++ match s.nf with | true => fz | false => [])) := ⟨_, rfl⟩
  rw [<- hws]
  obtain ⟨Z2, hZ2⟩ : ∃ Z2 : Nat -> Prop, Z2 = (match s.nf with | true => Z1 | false => Z) := ⟨_, rfl⟩
  obtain ⟨isp, hisp⟩ : ∃ isp : Nat -> Bool, isp = fun k => (match s.ps[k]? with | some p => b7z p | none => false) := ⟨_, rfl⟩
  obtain ⟨π2, hπ2⟩ : ∃ π2 : Nat -> Value, π2 = fun id => if fr <= id /\ id - fr < (b1o s.rs us1).length then (b1o s.rs us1).getD (id - fr) undef else if bb <= id /\ isp (id - bb) = true then ua.getD (id - bb) undef else π id := ⟨_, rfl⟩
  have hZ2le : ∀ b, Z2 b -> Z1 b := by
    intro b hb
    rw [hZ2] at hb
    cases hnf : s.nf <;> rw [hnf] at hb
    . exact hz1 b (.inl hb)
    . exact hb
  have hZle : ∀ b, Z b -> Z2 b := by
    intro b hb
    rw [hZ2]
    cases hnf : s.nf
    . exact hb
    . exact hz1 b (.inl hb)
  obtain ⟨X2, hX2⟩ : ∃ X2 : Cx, X2 = cx Z2 π2 (σ.app d (d8a (b6e fr s.rs r.1).1) ws) w' := ⟨_, rfl⟩
  have hL : d25 s.nf (cz Z1 w') X2 := by
    rw [hX2]
    refine ⟨rfl, fun hnf b hb => ?_⟩
    show Z2 b
    rw [hZ2, hnf]; exact hb
  have hL' : d25 s.nf (czO Z1 s.ps ua w') X2 := hL
  have hnfr : s.nf = false -> s.rs.all c64 = true := fun e => by
    unfold Sig.nf at e
    simp only [Bool.not_eq_eq_eq_not, Bool.not_false, Bool.and_eq_true] at e; exact e.1
  have hnfp : s.nf = false -> s.ps.all b8o = true := fun e => by
    unfold Sig.nf at e
    simp only [Bool.not_eq_eq_eq_not, Bool.not_false, Bool.and_eq_true] at e; exact e.2
  obtain ⟨hm1, hm2, hm3⟩ := b79 hU hL s.rs fr r.1 us1 hnfr hRR
  have hlenms : (b6e fr s.rs r.1).2.length = (b1o s.rs us1).length := i8.length hm1
  have hrl := c3j s.rs us1
  have hfresh : ∀ p, p < (b1o s.rs us1).length -> σ.mem (fr + p) = .never := by
    intro p hp
    have hp' : p < (b6e fr s.rs r.1).2.length := by rw [hlenms]; exact hp
    have h1 := hm2 p _ (List.getElem?_eq_getElem hp')
    have := hnev ((b6e fr s.rs r.1).2[p]).1 (List.mem_map_of_mem (List.getElem_mem hp'))
    rw [h1] at this; exact this
  have hfresh2 : ∀ k, isp k = true -> σ.mem (bb + k) = .never := by
    intro k hk
    rw [hisp] at hk
    dsimp only at hk
    split at hk
    . rename_i p hp
      rw [hbb]
      exact hnev2 _ (d08 hp hk)
    . cases hk
  have hπu : ∀ id, σ.mem id ≠ .never -> π2 id = π id := by
    intro id hid
    rw [hπ2]
    show (if _ then _ else if _ then _ else _) = _
    rw [if_neg, if_neg]
    . rintro ⟨h1, h2⟩
      apply hid
      have := hfresh2 (id - bb) h2
      rwa [show bb + (id - bb) = id by omega] at this
    . rintro ⟨h1, h2⟩
      apply hid
      have := hfresh (id - fr) h2
      rwa [show fr + (id - fr) = id by omega] at this
  have hπn : ∀ (p : Nat) (u : Value), (b1o s.rs us1)[p]? = some u -> π2 (fr + p) = u := by
    intro p u hu
    have hp : p < (b1o s.rs us1).length := (List.getElem?_eq_some_iff.1 hu).1
    rw [hπ2]
    show (if _ then _ else _) = _
    rw [if_pos ⟨by omega, by omega⟩, show fr + p - fr = p by omega]
    simp [hu]
  have hπo : ∀ k, isp k = true -> π2 (bb + k) = ua.getD k undef := by
    intro k hk
    rw [hπ2]
    show (if _ then _ else if _ then _ else _) = _
    rw [if_neg (by omega), if_pos ⟨by omega, by rw [show bb + k - bb = k by omega]; exact hk⟩, show bb + k - bb = k by omega]
  have hwsnn : ∀ q ∈ ws, q.2 ≠ .never := by
    intro q hq
    rw [hws] at hq
    rcases List.mem_append.1 hq with hm | hm
    . obtain ⟨p, hp⟩ := List.getElem?_of_mem hm
      obtain ⟨u, hu, hu2, hu3⟩ := hm1.get hp
      exact hu3
    . rcases List.mem_append.1 hm with hm | hm
      . exact a7f _ _ _ _ q hm
      . rcases List.mem_append.1 hm with hm | hm
        . obtain ⟨i, hi, he⟩ := List.mem_map.1 hm
          rw [<- he]; intro h; cases h
        . cases hnf : s.nf with
          | true =>
            rw [hnf] at hm
            obtain ⟨e, c, l, _, e2⟩ := hfz hnf q.1 q.2 hm
            rw [e2]; intro h; cases h
          | false => rw [hnf] at hm; cases hm
  have hmu : ∀ t c m q, .im t c m ∈ s.ps -> q ∈ m -> X2.us (bb + q.2) /\ X2.π (bb + q.2) = (czO Z1 s.ps ua w').π q.2 := by
    intro t c m q hm hq
    obtain ⟨b, f, e, c', hx⟩ := b1y s.ps 0 hmi.1 t c m q hm hq
    have hk : isp q.2 = true := by rw [hisp]; dsimp only; rw [hx]; rfl
    rw [hX2]
    refine ⟨?_, hπo q.2 hk⟩
    show (σ.app d _ ws).mem (bb + q.2) ≠ .never
    rw [t6]
    obtain ⟨m', hm'⟩ := c8l (b := bb) (σ := σ) (π := π) s.ps 0 us xs is r.2 hARs q.2 _ hx rfl
    have : ∃ mc, lk (bb + q.2) ws = some mc := by
      rw [hws]
      exact a4k (a := m') (.inr (List.mem_append_left _ (by simpa using hm')))
    obtain ⟨mc, hl⟩ := this
    rw [hl]
    exact hwsnn _ (a4p hl)
  have ho1 := c9g hU hL' (b := bb) (ua := ua) s.ps 0 xs is r.2 us ua hnfp hARs hOR hsame (fun i u hu => by simpa using hu) hmu
  have hcls : ∀ id mc, lk id ws = some mc -> (∃ (p : Nat) (u : Value), (b1o s.rs us1)[p]? = some u /\ id = fr + p /\ MR X2 mc u /\ π2 id = u) \/ (∃ (p : Nat) (u : Value), (ioB s.ps ua)[p]? = some u /\ (a7v bb 0 s.ps is r.2)[p]? = some (id, mc) /\ MR X2 mc u /\ π2 id = u) \/ mc = .dead \/ (s.nf = true /\ (id, mc) ∈ fz) := by
    intro id mc hl
    have hmem := a4p hl
    rw [hws] at hmem
    rcases List.mem_append.1 hmem with hm | hm
    . obtain ⟨p, hp⟩ := List.getElem?_of_mem hm
      obtain ⟨u, hu, hu2, hu3⟩ := hm1.get hp
      have e := hm2 p _ hp
      exact .inl ⟨p, u, hu, e, hu2, by rw [show id = fr + p from e]; exact hπn p u hu⟩
    . rcases List.mem_append.1 hm with hm | hm
      . obtain ⟨p, hp⟩ := List.getElem?_of_mem hm
        obtain ⟨u, hu, h1, h2, h3⟩ := ho1.get hp
        refine .inr (.inl ⟨p, u, hu, hp, h1, ?_⟩)
        rcases h3 with ⟨e1, e2⟩ | ⟨j, e1, e2, p0, e3, e4⟩
        . rw [hπu id e2]; exact e1.symm
        . have e1 : id = bb + j := by simpa using e1
          rw [e1, hπo j (by rw [hisp]; dsimp only; rw [e3]; exact e4)]
          have e2 : ua[j]? = some u := by simpa using e2
          simp [e2]
      . rcases List.mem_append.1 hm with hm | hm
        . obtain ⟨i, hi, he⟩ := List.mem_map.1 hm
          cases he
          exact .inr (.inr (.inl rfl))
        . cases hnf : s.nf with
          | true => rw [hnf] at hm; exact .inr (.inr (.inr ⟨rfl, hm⟩))
          | false => rw [hnf] at hm; cases hm
  have hisw : ∀ i ∈ is, ∀ id ∈ i, ∃ mc, lk id ws = some mc := by
    intro i hi id hid
    rw [hws]
    rcases a56 (b := bb) s.ps 0 xs is r.2 us hARs i hi id hid with ⟨mc, h1⟩ | h1
    . exact a4k (a := mc) (.inr (List.mem_append_left _ h1))
    . exact a4k (a := .dead) (.inr (List.mem_append_right _ (List.mem_append_left _ (List.mem_map.2 ⟨id, h1, rfl⟩))))
  have hown2 : ∀ v ∈ b1o s.rs us1 ++ ioB s.ps ua, ∀ b, hdV v = some b -> ¬ Z2 b /\ b < w'.heap.size /\ (w.heap.size <= b \/ ∃ id0 m0, lk id0 ws = some m0 /\ MB (σ.mem id0) (π id0) b) := by
    intro v hv b hb
    obtain ⟨h1, h2, h3⟩ := hown v hv b hb
    refine ⟨fun hz => h1 (hZ2le b hz), h2, ?_⟩
    rcases h3 with ⟨i, hi, id, hid, hb'⟩ | h3
    . obtain ⟨mc, hl⟩ := hisw i hi id hid
      exact .inr ⟨id, mc, hl, hb'⟩
    . exact .inl h3
  have hGZ : ∀ b, (∃ i ∈ is, ∃ id ∈ i, MB (σ.mem id) (π id) b) -> ¬ (Z b \/ a6r σ π fz b) := by
    rintro b ⟨i, hi, id, hid, hb⟩ (hz | ⟨q, hq, hbq⟩)
    . exact (h.own id b hb).1 hz
    . obtain ⟨j, hj⟩ := List.getElem?_of_mem hi
      have hne : id ≠ q.1 := by
        refine a88 hap j is.length i (fz.map (·.1)) id q.1 ?_ ?_ hid (List.mem_map_of_mem hq) ?_
        . rw [List.getElem?_append_left (List.getElem?_eq_some_iff.1 hj).1]; exact hj
        . simp
        . exact Nat.ne_of_lt (List.getElem?_eq_some_iff.1 hj).1
      exact h.dist id q.1 b hne hb hbq
  refine ⟨Z2, π2, ?_⟩
  refine h.next (hE.mono fun b ⟨i, hi, id, hid, hb⟩ => ?_) hZle (fun b hb => ?_) (fun id hu => hπu id hu) (fun id mc hl => ?_) (fun id mc hl => ?_) (fun id mc b hl hb => ?_) (fun id id' mc mc' b hne hl hl' hb hb' => ?_) ?_
  . obtain ⟨mc, hl⟩ := hisw i hi id hid
    exact ⟨id, mc, hl, hb⟩
  . rw [hZ2] at hb
    cases hnf : s.nf with
    | false => rw [hnf] at hb; exact .inl hb
    | true =>
      rw [hnf] at hb
      rcases hz2 b hb with (hz | ⟨q, hq, hbq⟩) | ⟨i, hi, id, hid, hb'⟩ | hz
      . exact .inl hz
      . refine .inr (.inr ?_)
        have : ∃ mc, lk q.1 ws = some mc := by
          rw [hws, hnf]
          exact a4k (a := q.2) (.inr (List.mem_append_right _ (List.mem_append_right _ hq)))
        obtain ⟨mc, hl⟩ := this
        exact ⟨q.1, mc, hl, hbq⟩
      . obtain ⟨mc, hl⟩ := hisw i hi id hid
        exact .inr (.inr ⟨id, mc, hl, hb'⟩)
      . exact .inr (.inl hz)
  . exact hwsnn _ (a4p hl)
  . rw [<- hX2]
    rcases hcls id mc hl with ⟨p, u, hp, he, hmr, hpu⟩ | ⟨p, u, hp, _, hmr, hpu⟩ | rfl | ⟨hnf, hq⟩
    . rw [hpu]; exact hmr
    . rw [hpu]; exact hmr
    . trivial
    . obtain ⟨e, c, l, hmem, rfl⟩ := hfz hnf _ _ hq
      rw [hπu id (by rw [hmem]; intro h; cases h)]
      have hm := h.mem id
      rw [hmem] at hm
      have h1 := b55 (X := cx Z π σ w) (Z' := fun b => Z b \/ a6r σ π fz b) hm (fun b h => .inl h) fun b hb => .inr ⟨_, hq, by
        show MB (σ.mem id) (π id) b
        rw [hmem]
        obtain ⟨css, hO, _⟩ := hm
        obtain ⟨ad, cap, hv, _⟩ := hO.shape
        exact (a8n hv).1 hb⟩
      have h2 := d5.ext h1 (hE.mono (fun b hb => hGZ b hb))
      rw [hX2]
      refine d5.weaken h2 fun b _ hn hz => hn ?_
      show Z2 b
      rw [hZ2, hnf]; exact hz1 b hz
  . rcases hcls id mc hl with ⟨p, u, hp, he, hmr, hpu⟩ | ⟨p, u, hp, _, hmr, hpu⟩ | rfl | ⟨hnf, hq⟩
    . rw [hpu] at hb
      exact hown2 u (List.mem_append_left _ (List.mem_of_getElem? hp)) b (d11 hb)
    . rw [hpu] at hb
      exact hown2 u (List.mem_append_right _ (List.mem_of_getElem? hp)) b (d11 hb)
    . exact hb.elim
    . obtain ⟨e, c, l, _, rfl⟩ := hfz hnf _ _ hq
      exact hb.elim
  . have pos : ∀ id mc, lk id ws = some mc -> MB mc (π2 id) b -> ∃ (k : Nat) (u : Value), (b1o s.rs us1 ++ ioB s.ps ua)[k]? = some u /\ hdV u = some b /\ ((k < (b1o s.rs us1).length /\ id = fr + k) \/ ((b1o s.rs us1).length <= k /\ ∃ mc', (a7v bb 0 s.ps is r.2)[k - (b1o s.rs us1).length]? = some (id, mc'))) := by
      intro id mc hl hb
      rcases hcls id mc hl with ⟨p, u, hp, he, hmr, hpu⟩ | ⟨p, u, hp, hpo, hmr, hpu⟩ | rfl | ⟨hnf, hq⟩
      . rw [hpu] at hb
        have hlt := (List.getElem?_eq_some_iff.1 hp).1
        exact ⟨p, u, by rw [List.getElem?_append_left hlt]; exact hp, d11 hb, .inl ⟨hlt, he⟩⟩
      . rw [hpu] at hb
        exact ⟨(b1o s.rs us1).length + p, u, by rw [List.getElem?_append_right (by omega)]; simpa using hp, d11 hb, .inr ⟨by omega, mc, by simpa using hpo⟩⟩
      . exact hb.elim
      . obtain ⟨e, c, l, _, rfl⟩ := hfz hnf _ _ hq
        exact hb.elim
    obtain ⟨k, u, hk, hku, hkc⟩ := pos id mc hl hb
    obtain ⟨k', u', hk', hku', hkc'⟩ := pos id' mc' hl' hb'
    have hkk : k ≠ k' := by
      intro e
      subst e
      rcases hkc with ⟨h1, h2⟩ | ⟨h1, mc1, h2⟩ <;> rcases hkc' with ⟨h3, h4⟩ | ⟨h3, mc2, h4⟩
      . exact hne (h2.trans h4.symm)
      . omega
      . omega
      . rw [h2] at h4; cases h4; exact hne rfl
    exact hdist k k' u u' b hkk hk hk' hku hku'
  . rw [<- hX2]
    refine d0z (hm3 fun p u hp => ⟨?_, ?_⟩)
    . rw [hX2]
      show (σ.app d _ ws).mem (fr + p) ≠ .never
      rw [t6]
      have hp' : p < (b6e fr s.rs r.1).2.length := by rw [hlenms]; exact (List.getElem?_eq_some_iff.1 hp).1
      have h1 := hm2 p _ (List.getElem?_eq_getElem hp')
      have : ∃ mc, lk (fr + p) ws = some mc := by
        rw [hws, <- h1]
        exact a4k (a := ((b6e fr s.rs r.1).2[p]).2) (.inl (List.getElem_mem hp'))
      obtain ⟨mc, hl⟩ := this
      rw [hl]
      exact hwsnn _ (a4p hl)
    . rw [hX2]; exact hπn p u hp
theorem c80 {X : Cx} {all : List Value} : ∀ {ps : List (PK U.C)} {us : List Value} {xs : Args U ps} {is : List (List Nat)}, ARs σ π X all ps us xs is -> us.length = ps.length
  | [], [], _, [], _ => rfl
  | _ :: _, _ :: _, (_, _), _ :: _, h => by simp [c80 h.2]
  | [], [], _, _ :: _, h => h.elim
  | [], _ :: _, _, is, h => by cases is <;> exact h.elim
  | _ :: _, [], _, is, h => by cases is <;> exact h.elim
  | _ :: _, _ :: _, (_, _), [], h => h.elim
theorem b1p : ∀ (rs : List (RK U.C)) (x : Ress U rs) (k : Ress U rs -> U.Q), (d3r rs x k).Ev σ m0 m v ws -> (k x).Ev σ m0 m v ws
  | [], _, k, h => h
  | .v c :: rs, (x, xs), k, h => b1p rs xs _ h
  | .ls c :: rs, (x, xs), k, h => b1p rs xs _ h
  | .ow e c :: rs, (x, xs), k, h => b1p rs xs _ h
  | .bo t c :: rs, (x, xs), k, h => by
    rcases h with ⟨e, h⟩ | ⟨y, e, h⟩
    . subst e; exact b1p rs xs _ h
    . subst e; exact b1p rs xs _ h
theorem c6h (hU : UOK U) {Φ : Phi U} (hΦ : ∀ f as fe, Φ f as = some fe -> d0w P f fe) (h : Rel E Z π σ ρ w) {d : Option Tmp} {ty : TypeId} {ps : String} {af : Array Edge} {g : Option (Nat × Bool)} {x : Operand} {args : Array Operand} {tys : Array TypeId} {f : FuncId} {as cs : List U.AV} {vs : List Value}
    (hx : ev ρ x = .func (.func f) #[] vs.toArray) (hcs : i8 (a0c (cx Z π σ w)) cs vs) (has : i8 (AVR (cx Z π σ w)) as (args.toList.map (ev ρ))) (hev : (d4o Φ fr f (as ++ cs)).Ev σ m0 m v ws) :
    a30 P E σ ρ w ⟨d, .call ⟨.value x, args, tys⟩, ty, ps, af, g⟩ v ws := by
  unfold d4o at hev
  split at hev
  case h_2 => exact hev.elim
  rename_i fe hfe
  have hkn := hΦ f _ fe hfe
  split at hev
  case h_2 => exact hev.elim
  rename_i hck
  simp only [Bool.and_eq_true] at hck
  have hall0 : i8 (AVR (cx Z π σ w)) (as ++ cs) (args.toList.map (ev ρ) ++ vs) := a3o has (hcs.mono fun _ _ hh => AVR.of1 hh)
  have hlen0 : (args.toList.map (ev ρ) ++ vs).length = npK fe.s.ps := by rw [<- i8.length hall0]; exact Nat.eq_of_beq_eq_true hck.2
  obtain ⟨ex, exv, m9, hex, hev⟩ := d6p h hev
  have hall : i8 (AVR (cx Z π σ w)) (as ++ cs ++ ex) (args.toList.map (ev ρ) ++ vs ++ exv) := a3o hall0 hex
  obtain ⟨xs, is, fz, m1, hev, h1, h2, h3, h4⟩ := c6v hU h hall hall hev
  split at hev
  case h_2 => exact hev.elim
  rename_i hap
  obtain ⟨bb, hr, hev⟩ := hev
  have hev := b1p _ _ _ hev
  dsimp only at hev
  obtain ⟨hnev, m2, hev⟩ := b8d hev
  obtain ⟨hnev2, m3, hm1, hv0, hws⟩ := b8d hev
  subst hv0
  rw [hws]
  have e : (args.map (ev ρ) ++ vs.toArray) = (args.toList.map (ev ρ) ++ vs).toArray := by apply Array.ext'; simp
  have htk : (args.toList.map (ev ρ) ++ vs ++ exv).take (npK fe.s.ps) = args.toList.map (ev ρ) ++ vs := by rw [<- hlen0, List.take_left]
  have hρ : ∀ (j : Nat) u, (args.toList.map (ev ρ) ++ vs ++ exv)[j]? = some u -> b6r (args.toList.map (ev ρ) ++ vs ++ exv) j = u := by
    intro j u hu; simp only [b6r, List.getD_eq_getElem?_getD, hu, Option.getD_some]
  have hs : ∀ t, t < npK fe.s.ps -> b6r ((args.toList.map (ev ρ) ++ vs ++ exv).take (npK fe.s.ps)) t = b6r (args.toList.map (ev ρ) ++ vs ++ exv) t := by
    intro t ht
    simp only [b6r, List.getD_eq_getElem?_getD, List.getElem?_take_of_lt ht]
  have hlen : (args.toList.map (ev ρ) ++ vs ++ exv).length = fe.s.ps.length := by
    have hA := h4 (fun b => Z b \/ a6r σ π fz b) (fun b h => .inl h) (fun b h => .inr h)
    exact c80 hA
  have hpar := c6f hU h hck.1 hs h2 h4 hap hρ
  unfold a30 n9
  rcases hkn with ⟨hspec, hcall⟩ | hspec
  . have hrun : (execOp (ev ρ) ⟨d, .call ⟨.value x, args, tys⟩, ty, ps, af, g⟩).run P w = .ok (.enter f (args.toList.map (ev ρ) ++ vs).toArray) w := by
      have hc := hcall (args.map (ev ρ) ++ vs.toArray) w
      rw [e] at hc
      simp only [execOp, resolve, Deferred.ofValue, hx, Sem.run_bind]
      simp [invoke, hc, e]
    rw [hrun]
    have hS := hspec xs bb hr _ _ w _ hlen hpar
    rw [htk] at hS
    refine hS.mono fun e w' ⟨u, he, hP⟩ => ⟨u, he, ?_⟩
    exact c0p hU h h1 h2 h3 h4 hap hck.1 hnev hnev2 hP
  . obtain ⟨u, w', hc, hP⟩ := hspec xs bb hr _ _ w _ hlen hpar
    rw [htk] at hc
    have hrun : (execOp (ev ρ) ⟨d, .call ⟨.value x, args, tys⟩, ty, ps, af, g⟩).run P w = .ok (.value u) w' := by
      simp only [execOp, resolve, Deferred.ofValue, hx, Sem.run_bind]
      simp [invoke, hc, e]
    rw [hrun]
    exact c0p hU h h1 h2 h3 h4 hap hck.1 hnev hnev2 hP
end
end Go.SX
namespace Go.PL
open Go
section
variable {P : Program} {w : World} {α : Type} {B : Nat} {E : TypeId} {n : Nat} {cells : α -> List Value} {v : Value} {l r : List α} {t : TypeId}
theorem d16 {lo hi : Option Value} {i j : Int} (hn : ∀ x, (cells x).length = n) (ht : P.underlying t = some (.slice E)) (he : (P.info? E).map (·.size) = some n) (hO : Own B E n cells w v l) (hs : a3a l i j = some r)
    (hlo : (lo = none /\ i = 0) \/ lo = some (.int .i64 i)) (hhi : (hi = none /\ j = (l.length : Int)) \/ hi = some (.int .i64 j)) :
    ∃ u, (Instr.sliceAt t v lo hi none).run P w = .ok u w /\ u.oneCell' = true /\ Own B E n cells w u r /\ (∀ k, u.ownBlock = some k -> v.ownBlock = some k) /\ (j = (l.length : Int) -> b61 u v n i r.length) := by
  obtain ⟨h0, h1, h2, hr⟩ := a8g hs
  have hlen : r.length = j.toNat - i.toNat := by rw [hr, List.length_take, List.length_drop]; omega
  obtain ⟨ad, cap, hv, hcap, _⟩ := hO.shape
  refine ⟨.slice (if cap = i.toNat then ad else ad.map (·.add (i.toNat * n))) (j.toNat - i.toNat) (cap - i.toNat), ?_, rfl, ?_, ?_, ?_⟩
  . cases hinfo : P.info? E with
    | none => simp [hinfo] at he
    | some q =>
      simp only [hinfo, Option.map_some, Option.some.injEq] at he
      subst hv
      have hj : (0 <= j /\ j <= (cap : Int)) := by omega
      have hij : (0 <= i /\ i <= (j.toNat : Int)) := by omega
      rcases hlo with ⟨rfl, rfl⟩ | rfl <;> rcases hhi with ⟨rfl, hl⟩ | rfl
      . have e1 : j.toNat = l.length := by omega
        simp [Instr.sliceAt, Instr.slice, run_underlying ht, Instr.sliceBounds, sizeOf, typeInfo, hinfo, e1]
      . simp [Instr.sliceAt, Instr.slice, run_underlying ht, Instr.sliceBounds, Instr.sliceBound, asIntOf, hj, sizeOf, typeInfo, hinfo]
      . have e1 : j.toNat = l.length := by omega
        rw [e1] at hij
        simp [Instr.sliceAt, Instr.slice, run_underlying ht, Instr.sliceBounds, Instr.sliceBound, asIntOf, hij, sizeOf, typeInfo, hinfo, he, e1]
      . simp [Instr.sliceAt, Instr.slice, run_underlying ht, Instr.sliceBounds, Instr.sliceBound, asIntOf, hj, hij, sizeOf, typeInfo, hinfo, he]
        omega
  . rcases hO with ⟨hv2, hl⟩ | ⟨gb, off, cap2, cur, hv2, hg, hh, hc, hm, hsz, htk⟩
    . rw [hv2] at hv
      subst hl
      simp only [Value.slice.injEq] at hv
      obtain ⟨rfl, _, rfl⟩ := hv
      have ha : i.toNat = 0 := by rw [List.length_nil] at h2; omega
      have hb : j.toNat = 0 := by rw [List.length_nil] at h2; omega
      have : r = [] := List.length_eq_zero_iff.1 (by rw [hlen, ha, hb])
      rw [this, if_pos ha.symm, ha, hb]
      exact Own.nil _ _ _ _ _
    . rw [hv2] at hv
      simp only [Value.slice.injEq] at hv
      obtain ⟨rfl, _, rfl⟩ := hv
      by_cases hca : cap2 = i.toNat
      . rw [if_pos hca]
        have : r = [] := List.length_eq_zero_iff.1 (by omega)
        refine .inr ⟨gb, off, cap2 - i.toNat, cur, by rw [hlen], hg, hh, by omega, by omega, ?_, ?_⟩
        . rw [hca, Nat.sub_self]; omega
        . rw [this]; simp
      . rw [if_neg hca]
        have hmul : cap2 * n = i.toNat * n + (cap2 - i.toNat) * n := by rw [<- Nat.add_mul]; congr 1; omega
        refine .inr ⟨gb, off + i.toNat * n, cap2 - i.toNat, cur, by rw [hlen, Option.map_some, Addr.add_lit], hg, hh, by omega, by omega, by omega, ?_⟩
        have e1 : (l.drop i.toNat).take (j.toNat - i.toNat) = r := hr.symm
        have e2 : (l.flatMap cells).drop (i.toNat * n) = (l.drop i.toNat).flatMap cells := b2s hn l i.toNat
        have key : ∀ (l : List α) (k : Nat), k <= l.length -> (l.flatMap cells).take (k * n) = (l.take k).flatMap cells := by
          intro l
          induction l with
          | nil => intro k hk; simp
          | cons y l ih =>
            intro k hk
            cases k with
            | zero => simp
            | succ k => rw [List.take_succ_cons, List.flatMap_cons, List.flatMap_cons, Nat.succ_mul, Nat.add_comm, <- hn y, List.take_length_add_append, hn y, ih k (by simpa using hk)]
        have e3 := key (l.drop i.toNat) (j.toNat - i.toNat) (by rw [List.length_drop]; omega)
        rw [e1, <- e2, <- htk] at e3
        rw [<- e3, List.drop_take, List.take_take, List.drop_drop, hlen]
        congr 1
        have : (j.toNat - i.toNat) * n <= l.length * n - i.toNat * n := by rw [<- Nat.sub_mul]; exact Nat.mul_le_mul_right n (by omega)
        omega
  . intro k hk
    rw [hv]
    cases ad with
    | none =>
      split at hk <;> simp [Value.ownBlock] at hk
    | some ad =>
      split at hk
      . exact hk
      . have hk : some (ad.add (i.toNat * n)).block = some k := hk
        rw [a1x] at hk; exact hk
  . intro hjl
    refine ⟨ad, l.length, cap, _, _, hv, h0, by omega, by rw [hlen], fun hp => ?_⟩
    have hne : ¬ cap = i.toNat := by omega
    rw [if_neg hne]
    cases ad with
    | none =>
      rcases hO with ⟨h5, h6⟩ | ⟨g', off', cap', cur, h5, _⟩
      . rw [h6, List.length_nil] at h2; omega
      . rw [hv] at h5; cases h5
    | some ad => exact ⟨ad, rfl, rfl⟩
end
end Go.PL
namespace Go.SX
open Go Go.PL
section
variable {P : Program} {U : Uni}
variable {E : Env} {Z : Nat -> Prop} {π : Nat -> Value} {σ : U.St} {ρ : Nat -> Value} {w : World}
variable {d : Option Tmp} {ty : TypeId} {ps : String} {af : Array Edge} {g : Option (Nat × Bool)} {x y z : Operand} {m0 m : Nat} {a b c v : U.AV} {ws : List (Nat × U.MC)} {fr : Nat}
theorem c55 {α β : Type} {p : α -> β -> Prop} {l : List α} {r r' : List β} {i j : Int} (h : i8 p l r) (hs : a3a r i j = some r') : ∃ l', a3a l i j = some l' /\ i8 p l' r' := by
  obtain ⟨h0, h1, h2, hr⟩ := a8g hs
  refine ⟨(l.drop i.toNat).take (j.toNat - i.toNat), ?_, ?_⟩
  . unfold a3a; rw [if_pos ⟨h0, h1, by rw [h.length]; exact h2⟩]
  . rw [hr]
    refine i8.of_get (by simp [h.length]) fun k a b ha hb => ?_
    rw [List.getElem?_take] at ha hb
    split at ha
    . rename_i hk
      rw [if_pos hk] at hb
      rw [List.getElem?_drop] at ha hb
      obtain ⟨b', hb', hp⟩ := h.get ha
      rw [hb] at hb'
      cases hb'
      exact hp
    . cases ha
theorem b41 {t e : TypeId} (h : b77 P t e = true) : P.underlying t = some (.slice e) := by
  unfold b77 at h
  split at h
  . rename_i e' he; rw [he, Nat.eq_of_beq_eq_true h]
  . cases h
theorem b6b {t : TypeId} {c : U.C} {l r : List (U.T c)} {e0 : TypeId} {X : Cx} {u : Value} {lo hi : Option Value} {i j : Int} (hm : MR X (.sl e0 c l) u) (he : (a6n P t c && b77 P t e0) = true) (hs : a3a l i j = some r)
    (hlo : (lo = none /\ i = 0) \/ lo = some (.int .i64 i)) (hhi : (hi = none /\ j = (l.length : Int)) \/ hi = some (.int .i64 j)) :
    ∃ u', (Instr.sliceAt t u lo hi none).run P X.w = .ok u' X.w /\ u'.oneCell' = true /\ MR X (.sl e0 c r) u' /\ (∀ k, u'.ownBlock = some k -> u.ownBlock = some k) /\ (j = (l.length : Int) -> b61 u' u (U.n c) i r.length) := by
  simp only [Bool.and_eq_true] at he
  obtain ⟨e, he1, he2, _, _⟩ := a4w he.1
  have he3 := b41 he.2
  rw [he1] at he3
  cases he3
  obtain ⟨css, hO, hr⟩ := hm
  obtain ⟨css', hs', hr'⟩ := c55 hr hs
  have hhi' : (hi = none /\ j = (css.length : Int)) \/ hi = some (.int .i64 j) := by rw [hr.length]; exact hhi
  obtain ⟨u', h1, h1', h2, h3, h4⟩ := d16 (P := P) (t := t) (fun r => r.2.1) he1 (a5h he2) hO hs' hlo hhi'
  exact ⟨u', h1, h1', ⟨css', h2, hr'⟩, h3, fun hj => by rw [<- hr'.length]; exact h4 (by rw [hr.length]; exact hj)⟩
theorem c8g (h : Rel E Z π σ ρ w) {t : TypeId} {lo hi : Option Operand} (hx : AVR (cx Z π σ w) a (ev ρ x)) (hev : (d5s P t a lo hi).Ev σ m0 m v ws) :
    a30 P E σ ρ w ⟨d, .slice t x lo hi none, ty, ps, af, g⟩ v ws := by
  unfold d5s at hev
  split at hev
  case h_2 => exact hev.elim
  rename_i id
  have hm := h.mem id
  simp only [Q.Ev] at hev
  split at hev
  case h_2 => exact hev.elim
  rename_i e0 c l hmem
  split at hev
  case h_2 => exact hev.elim
  rename_i he
  obtain ⟨i, m1, hev, hlo⟩ := a8v h hev
  split at hev
  case h_2 => exact hev.elim
  rename_i hhi
  obtain ⟨r, hr, hm1, rfl, rfl⟩ := hev
  rw [hmem] at hm
  obtain ⟨u', hrun, _, _, _, hV⟩ := b6b (P := P) (hi := none) hm he hr hlo (.inl ⟨rfl, rfl⟩)
  have hrun : (Instr.sliceAt t (π id) (lo.map (ev ρ)) none none).run P w = .ok u' w := hrun
  refine d7 h (v := u') ?_ ⟨hx.1, hV rfl⟩
  have hxv : ev ρ x = π id := hx.2.1
  rw [<- hxv] at hrun
  simp [YV, execOp, hrun]
theorem c6a (h : Rel E Z π σ ρ w) {t : TypeId} {lo hi : Option Operand} (hx : AVR (cx Z π σ w) a (ev ρ x)) (hev : (d9k P fr t a lo hi).Ev σ m0 m v ws) :
    a30 P E σ ρ w ⟨d, .slice t x lo hi none, ty, ps, af, g⟩ v ws := by
  unfold d9k at hev
  split at hev
  case h_2 => exact hev.elim
  rename_i id
  have hm := h.mem id
  simp only [Q.Ev] at hev
  split at hev
  case h_2 => exact hev.elim
  rename_i e0 c l hmem
  split at hev
  case h_2 => exact hev.elim
  rename_i he
  obtain ⟨i, m1, hev, hlo⟩ := a8v h hev
  obtain ⟨j, m2, hev, hhi⟩ := a8v h hev
  obtain ⟨r, hr, hev⟩ := hev
  obtain ⟨hn, m3, hm3, hv0, hws⟩ := b0h hev
  subst hv0
  rw [hws]
  rw [hmem] at hm
  obtain ⟨u', hrun, h1, hMR, hown, _⟩ := b6b (P := P) hm he hr hlo hhi
  have hrun : (Instr.sliceAt t (π id) (lo.map (ev ρ)) (hi.map (ev ρ)) none).run P w = .ok u' w := hrun
  have hxv : ev ρ x = π id := hx.2.1
  rw [<- hxv] at hrun
  have hex : (execOp (ev ρ) ⟨d, .slice t x lo hi none, ty, ps, af, g⟩).run P w = .ok (.value u') w := by simp [execOp, hrun]
  unfold a30 n9
  rw [hex]
  refine ⟨Z, b0g π fr u', ?_⟩
  refine h.new (dead := [id]) hn (fun h => by cases h) (Ext.refl _ _) (fun X' hle hw _ => ?_) (fun q hq => ?_) h1
  . exact MR.le hle hMR fun b _ _ => by rw [hw]; rfl
  . obtain ⟨css, hO, _⟩ := hMR
    obtain ⟨ad, cap, hv, _⟩ := hO.shape
    have hq2 : u'.ownBlock = some q := (a8n hv).2 hq
    refine ⟨(hO.lt hq2).2, .inr ⟨id, by simp, ?_⟩⟩
    rw [hmem]
    obtain ⟨css0, hO0, _⟩ := hm
    obtain ⟨ad0, cap0, hv0, _⟩ := hO0.shape
    exact (a8n hv0).1 (hown _ hq2)
theorem c8x {α : Type} {z : α} {l r : List α} {lo : Int} {n : Nat} (h : d94 z l lo n = some r) : 0 <= lo /\ lo.toNat + n = l.length /\ r = a6w z l lo := by
  unfold d94 at h
  split at h
  . rename_i hc; exact ⟨hc.1, hc.2, (Option.some.inj h).symm⟩
  . cases h
theorem c39 {α β : Type} {p : α -> β -> Prop} {a : α} {b : β} (h : p a b) : ∀ n : Nat, i8 p (List.replicate n a) (List.replicate n b)
  | 0 => trivial
  | n + 1 => ⟨h, c39 h n⟩
theorem c0m {α β : Type} {p : α -> β -> Prop} : ∀ {l : List α} {r : List β} (n : Nat), i8 p l r -> i8 p (l.take n) (r.take n)
  | _, _, 0, _ => by simp [i8]
  | [], [], _ + 1, _ => trivial
  | _ :: _, _ :: _, n + 1, h => ⟨h.1, c0m n h.2⟩
  | [], _ :: _, _ + 1, h => h.elim
  | _ :: _, [], _ + 1, h => h.elim
theorem c5a (hU : UOK U) (h : Rel E Z π σ ρ w) {t : TypeId} (hx : AVR (cx Z π σ w) a (ev ρ x)) (hev : (c6t P t a).Ev σ m0 m v ws) :
    a30 P E σ ρ w ⟨d, .call ⟨.builtin .clear, #[x], #[t]⟩, ty, ps, af, g⟩ v ws := by
  unfold c6t at hev
  split at hev
  case h_2 => exact hev.elim
  rename_i id c lo n
  have hm := h.mem id
  simp only [Q.Ev] at hev
  split at hev
  case h_2 => exact hev.elim
  rename_i e c' l' hmem
  split at hev
  case h_2 => exact hev.elim
  rename_i l za hck hl hza
  simp only [Bool.and_eq_true] at hck
  have ht := b41 hck.1
  obtain ⟨he, hx2⟩ := a1k (G := noG) (w := w) hl
  subst he
  subst hx2
  split at hev
  case h_2 => exact hev.elim
  rename_i zv hzv
  obtain ⟨r, hr, hm1, rfl, rfl⟩ := hev
  obtain ⟨h0, hlen, rfl⟩ := c8x hr
  rw [hmem] at hm
  have hm0 := hm
  obtain ⟨css, hO, hrs⟩ := hm
  obtain ⟨ie, zval, hie, hz, hzs, hsz1, hp1, hp2⟩ := b2a hck.2
  have hzc : ∃ zr : Raw (U.n c'), zval.cells.toList = zr.1 /\ ∀ G w, (Rp c').rep G w zr.1 zv := by
    unfold b19 at hza
    rw [hie] at hza
    dsimp only at hza
    rw [hz] at hza
    have key : ∀ (Z' : Nat -> Prop) (w' : World), (Rp c').rep (cz Z' w').G w' zval.cells.toList zv := fun Z' w' => by
      obtain ⟨u, hu, hru⟩ := b27 hU (X := cz Z' w') _ _ _ _ hza
      have := a8y hU hzv hru
      rw [hu] at this
      exact this
    have key2 : ∀ (G : Nat -> Prop) (w' : World), (Rp c').rep G w' zval.cells.toList zv := fun G w' => (Rp c').weaken (key (fun b => ¬ G b) w') fun b _ hg hz => hz hg
    exact ⟨c0l (key2 noG w), rfl, key2⟩
  obtain ⟨zr, hzr1, hzr2⟩ := hzc
  have hcl := c5h (P := P) (w := w) (G := fun b => (π id).ownBlock = some b) (ρ := ρ) (F := [(0, fun _ w' => Own 0 e (U.n c') Subtype.val w' (π id) (a6w zr css lo))]) (p := ⟨[], [], [], [0], [], [], []⟩) (i := 0) (B := 0) (E := e) (n := U.n c') (cells := (Subtype.val : Raw (U.n c') -> List Value)) (v := π id) (u := ev ρ x) (zv := zval) (l := css) (z := zr) (t := t) (x := x) (a := lo) (len := n)
    (ty := ty) (ps := ps) (af := af) (g := g) rfl rfl (fun b hb => hb) (fun r => r.2.1) (fun r => r.2.2) (by omega) rfl ht (fun w' => by simp [zeroValue, typeInfo, hie, hz]) hzr1 hx.2 hO
  refine (show n9 P ⟨d, .call ⟨.builtin .clear, #[x], #[t]⟩, ty, ps, af, g⟩ (ev ρ) w _ from hcl).mono fun u w' ⟨hE, hf⟩ => ?_
  have hf : Own 0 e (U.n c') Subtype.val w' (π id) (a6w zr css lo) := hf
  have hE : Ext (fun b => (π id).ownBlock = some b) w w' := hE
  have hbk : ∀ b, (π id).ownBlock = some b -> MB (σ.mem id) (π id) b := fun b hb => by
    rw [hmem]
    obtain ⟨ad0, cap0, hv0, _⟩ := hO.shape
    exact (a8n hv0).1 hb
  refine ⟨Z, π, h.set (fun hh => by rw [hmem] at hh; cases hh) (fun hh => by cases hh) (hE.mono hbk) (fun X' hle hw => ?_) (fun y hy => ?_) fun X' _ => trivial⟩
  . refine ⟨a6w zr css lo, by rw [hw]; exact hf, ?_⟩
    unfold a6w
    rw [hrs.length]
    exact a3o (c0m _ (hrs.mono fun _ _ hh => b1m hle hh)) (c39 (p := fun (r : Raw (U.n c')) x => (Rp c').rep X'.G X'.w r.1 x) (hzr2 _ _) _)
  . rw [hmem]; exact hy
end
end Go.SX
namespace Go.SX
open Go Go.PL
section
variable {P : Program} {U : Uni}
variable {E : Env} {Z : Nat -> Prop} {π : Nat -> Value} {σ : U.St} {ρ : Nat -> Value} {w : World}
variable {m0 m : Nat} {a b v : U.AV} {ws : List (Nat × U.MC)} {fr : Nat}
def OKΦ (P : Program) (Φ : Phi U) : Prop := ∀ f as fe, Φ f as = some fe -> d0w P f fe
theorem b7s {α : Type} {a : Array α} {x : α} (h : a.toList = [x]) : a = #[x] := by apply Array.ext'; simpa using h
theorem b81 {α : Type} {a : Array α} {x y : α} (h : a.toList = [x, y]) : a = #[x, y] := by apply Array.ext'; simpa using h
theorem c0v (hU : UOK U) {Φ : Phi U} (hΦ : OKΦ P Φ) (h : Rel E Z π σ ρ w) {o : Oper} (hev : (opQ P Φ fr o.op).Ev σ m0 m v ws) : a30 P E σ ρ w o v ws := by
  obtain ⟨d, op, ty, ps, af, g⟩ := o
  cases op <;> try exact hev.elim
  case move x => exact b9v h (.inl rfl) hev
  case assign x => exact b9v h (.inr rfl) hev
  case pick c x y =>
    obtain ⟨e, m1, he, hev⟩ := p9 h hev
    obtain ⟨p, m2, hp, hev⟩ := p9 h hev
    obtain ⟨q, m3, hq, hev⟩ := p9 h hev
    unfold d75 at hev
    split at hev
    . obtain ⟨hm, rfl, rfl⟩ := hev; exact c8b h he hp hq
    . exact hev.elim
  case alloc t => exact c5q hU h hev
  case box t x =>
    obtain ⟨a, m1, ha, hev⟩ := p9 h hev
    exact d05 h ha hev
  case build t psr =>
    obtain ⟨as, m1, has, hev⟩ := b5d h hev
    split at hev
    . exact c1c hU h has hev
    . exact c53 hU h has hev
  case buildSlice t n psr =>
    obtain ⟨as, m1, has, hev⟩ := b5d h hev
    exact b5e hU h has hev
  case load t x =>
    obtain ⟨a, m1, ha, hev⟩ := p9 h hev
    exact c66 hU h ha hev
  case store t x y =>
    obtain ⟨a, m1, ha, hev⟩ := p9 h hev
    obtain ⟨b, m2, hb, hev⟩ := p9 h hev
    exact c5c hU h ha hb hev
  case range t x =>
    obtain ⟨a, m1, ha, hev⟩ := p9 h hev
    exact c45 h ha hev
  case next x b =>
    cases b
    . exact hev.elim
    . obtain ⟨a, m1, ha, hev⟩ := p9 h hev
      exact c7m h ha hev
  case nilCheck x =>
    obtain ⟨a, m1, ha, hev⟩ := p9 h hev
    exact d0u h ha hev
  case binOp op t x y t' =>
    obtain ⟨a, m1, ha, hev⟩ := p9 h hev
    obtain ⟨b, m2, hb, hev⟩ := p9 h hev
    split at hev
    . rename_i hv; exact d1v hU h hv ha hb hev
    . exact d1e h ha hb hev
  case unOp op t x =>
    obtain ⟨a, m1, ha, hev⟩ := p9 h hev
    exact d5w h ha hev
  case convert s t x =>
    obtain ⟨a, m1, ha, hev⟩ := p9 h hev
    split at hev
    . rename_i hb; exact d18 hU h hb ha hev
    . exact c84 h ha hev
  case makeFunc fn first cs =>
    simp only [opQ] at hev
    split at hev
    . rename_i f hf
      have : first = #[] := by apply Array.ext'; simpa using hf
      subst this
      exact b8j h hev
    . exact hev.elim
  case slice t x lo hi mx =>
    cases mx with
    | some _ => exact hev.elim
    | none =>
      obtain ⟨a, m1, ha, hev⟩ := p9 h hev
      exact c4t hU h ha hev
  case fieldAddr s x f =>
    obtain ⟨a, m1, ha, hev⟩ := p9 h hev
    split at hev
    . exact c1g h ha hev
    . exact c4f hU h ha hev
  case field s x f =>
    obtain ⟨a, m1, ha, hev⟩ := p9 h hev
    exact c4i hU h ha hev
  case indexAddr t x y =>
    obtain ⟨a, m1, ha, hev⟩ := p9 h hev
    obtain ⟨b, m2, hb, hev⟩ := p9 h hev
    exact b5x hU h ha hb hev
  case index t x y =>
    obtain ⟨a, m1, ha, hev⟩ := p9 h hev
    obtain ⟨b, m2, hb, hev⟩ := p9 h hev
    exact c4c h ha hb hev
  case extract x i =>
    obtain ⟨a, m1, ha, hev⟩ := p9 h hev
    exact c0b h ha hev
  case call c =>
    obtain ⟨cal, args, tys⟩ := c
    cases cal with
    | invoke _ _ => exact hev.elim
    | value x =>
      obtain ⟨a, m1, ha, hev⟩ := p9 h hev
      split at hev
      . rename_i f cs
        obtain ⟨vs, hv, hcs⟩ := ha
        obtain ⟨as, m2, has, hev⟩ := b5d h hev
        exact c6h hU hΦ h hv hcs has hev
      . exact hev.elim
    | builtin bi =>
      cases bi <;> try exact hev.elim
      case append =>
        simp only [opQ] at hev
        split at hev
        . rename_i x y t t' hx ht
          split at hev
          . rename_i hb
            have := Nat.eq_of_beq_eq_true hb
            subst this
            obtain ⟨a, m1, ha, hev⟩ := p9 h hev
            obtain ⟨b, m2, hb, hev⟩ := p9 h hev
            rw [b81 hx, b81 ht]
            exact d0c hU h ha hb hev
          . exact hev.elim
        . exact hev.elim
      case clear =>
        simp only [opQ] at hev
        split at hev
        . rename_i x t hx ht
          obtain ⟨a, m1, ha, hev⟩ := p9 h hev
          rw [b7s hx, b7s ht]
          exact c5a hU h ha hev
        . exact hev.elim
      case len =>
        simp only [opQ] at hev
        split at hev
        . rename_i x t hx ht
          obtain ⟨a, m1, ha, hev⟩ := p9 h hev
          rw [b7s hx, b7s ht]
          exact d07 h ha hev
        . exact hev.elim
      case max =>
        simp only [opQ] at hev
        split at hev
        . rename_i x y hx
          obtain ⟨a, m1, ha, hev⟩ := p9 h hev
          obtain ⟨b, m2, hb, hev⟩ := p9 h hev
          rw [b81 hx]
          exact c6k (mx := true) h ha hb hev
        . exact hev.elim
      case min =>
        simp only [opQ] at hev
        split at hev
        . rename_i x y hx
          obtain ⟨a, m1, ha, hev⟩ := p9 h hev
          obtain ⟨b, m2, hb, hev⟩ := p9 h hev
          rw [b81 hx]
          exact c6k (mx := false) h ha hb hev
        . exact hev.elim
theorem d1x (hU : UOK U) {Φ : Phi U} (hΦ : OKΦ P Φ) (h : Rel E Z π σ ρ w) {o : Oper} {sp : List Nat} {i : Nat} (hev : (opX P Φ sp i fr o.op).Ev σ m0 m v ws) : a30 P E σ ρ w o v ws := by
  unfold opX at hev
  split at hev
  . exact c0v hU hΦ h hev
  . split at hev
    . rename_i t x lo hi hop
      obtain ⟨d, op, ty, ps, af, g⟩ := o
      have hop : op = .slice t x lo hi none := hop
      subst hop
      split at hev
      . obtain ⟨a, m1, ha, hev⟩ := p9 h hev
        exact c8g h ha hev
      . obtain ⟨a, m1, ha, hev⟩ := p9 h hev
        exact c6a h ha hev
      . exact c0v hU hΦ h hev
    . exact c0v hU hΦ h hev
def d6l (σ σ' : U.St) (m : Nat) : Prop := (∀ t, m.testBit (2 * t) = true -> σ'.slot t = σ.slot t) /\ ∀ id, m.testBit (2 * id + 1) = true -> σ'.mem id = σ.mem id
theorem a22 (m k i : Nat) : (m ||| 2 ^ k).testBit i = (m.testBit i || decide (i = k)) := by
  rw [Nat.testBit_or, Nat.testBit_two_pow]
  congr 1
  simp [eq_comm]
theorem c6w {q : U.Q} : ∀ {m0 m : Nat} {v : U.AV} {ws : List (Nat × U.MC)}, q.Ev σ m0 m v ws -> ∀ i, m0.testBit i = true -> m.testBit i = true := by
  induction q with
  | rdT t k ih => intro m0 m v ws h i hi; exact ih _ h.2 i (by rw [a22, hi]; rfl)
  | rdM id k ih => intro m0 m v ws h i hi; exact ih _ h i (by rw [a22, hi]; rfl)
  | opt o k ih => intro m0 m v ws h i hi; obtain ⟨b, _, h⟩ := h; exact ih b h i hi
  | cas o n k ih0 ih =>
    intro m0 m v ws h i hi
    rcases h with ⟨_, h⟩ | ⟨b, _, h⟩
    . exact ih0 h i hi
    . exact ih b h i hi
  | done v' ws' => intro m0 m v ws h i hi; rw [h.1]; exact hi
  | fail => intro m0 m v ws h; exact h.elim
theorem c3y {σ' : U.St} {q : U.Q} : ∀ {m0 m : Nat} {v : U.AV} {ws : List (Nat × U.MC)}, q.Ev σ m0 m v ws -> d6l σ σ' m -> q.Ev σ' m0 m v ws := by
  induction q with
  | rdT t k ih =>
    intro m0 m v ws h ha
    have hb := c6w h.2 (2 * t) (by rw [a22]; simp)
    have e := ha.1 t hb
    refine ⟨by rw [e]; exact h.1, ?_⟩
    rw [e]; exact ih _ h.2 ha
  | rdM id k ih =>
    intro m0 m v ws h ha
    have h : (k (σ.mem id)).Ev σ (m0 ||| 2 ^ (2 * id + 1)) m v ws := h
    have hb := c6w h (2 * id + 1) (by rw [a22]; simp)
    have e := ha.2 id hb
    show (k (σ'.mem id)).Ev σ' _ m v ws
    rw [e]; exact ih _ h ha
  | opt o k ih => intro m0 m v ws h ha; obtain ⟨b, hb, h⟩ := h; exact ⟨b, hb, ih b h ha⟩
  | cas o n k ih0 ih =>
    intro m0 m v ws h ha
    rcases h with ⟨hb, h⟩ | ⟨b, hb, h⟩
    . exact .inl ⟨hb, ih0 h ha⟩
    . exact .inr ⟨b, hb, ih b h ha⟩
  | done v' ws' => intro m0 m v ws h ha; exact h
  | fail => intro m0 m v ws h; exact h.elim
theorem c0k {R : Type} {q : U.Q} : ∀ {m0 : Nat} {K : Nat -> U.AV -> List (Nat × U.MC) -> Option R} {r : R}, q.eval σ m0 K = some r -> ∃ m v ws, q.Ev σ m0 m v ws /\ K m v ws = some r := by
  induction q with
  | rdT t k ih =>
    intro m0 K r h
    simp only [Q.eval] at h
    cases hs : σ.slot t <;> rw [hs] at h <;> first
      | (cases h; done)
      | (obtain ⟨m, v, ws, h1, h2⟩ := ih _ h
         exact ⟨m, v, ws, ⟨(by rw [hs]; intro e; cases e), (by rw [hs]; exact h1)⟩, h2⟩)
  | rdM id k ih => intro m0 K r h; exact ih _ h
  | opt o k ih =>
    intro m0 K r h
    obtain ⟨b, hb, h⟩ := b12 (show o.bind _ = some r from h)
    obtain ⟨m, v, ws, h1, h2⟩ := ih b h
    exact ⟨m, v, ws, ⟨b, hb, h1⟩, h2⟩
  | cas o n k ih0 ih =>
    intro m0 K r h
    have h : optC o (n.eval σ m0 K) (fun b => (k b).eval σ m0 K) = some r := h
    cases ho : o with
    | none =>
      rw [ho] at h
      obtain ⟨m, v, ws, h1, h2⟩ := ih0 h
      exact ⟨m, v, ws, .inl ⟨rfl, h1⟩, h2⟩
    | some b =>
      rw [ho] at h
      obtain ⟨m, v, ws, h1, h2⟩ := ih b h
      exact ⟨m, v, ws, .inr ⟨b, rfl, h1⟩, h2⟩
  | done v ws => intro m0 K r h; exact ⟨m0, v, ws, ⟨rfl, rfl, rfl⟩, h⟩
  | fail => intro m0 K r h; cases h
end
end Go.SX
