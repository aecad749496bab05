/- Slices of a call's own, for the program logic of Core: append, slices that a region makes, slices that a callee hands back. It holds for every program. -/
import Derived.Test.YtndkbfbjjnhgoaaGreatDoorMem
namespace Go.PL
open Go

/-! ### the count of draws never falls -/
theorem ex_bind {ε α β : Type} {x : Except ε α} {f : α → Except ε β} {r : β} (h : (x >>= f) = .ok r) : ∃ a, x = .ok a ∧ f a = .ok r := by
  cases x with
  | error e => cases h
  | ok a => exact ⟨a, rfl, h⟩
theorem viewStore_drawn {p : Program} {w : World} {a : Addr} {u : TypeId} {k : Addr} {v : Value} {b : Bool} {r : World × List Addr} (h : w.viewStore p a u k v b = .ok r) : r.1.drawn = w.drawn := by
  simp only [World.viewStore, bind, Except.bind, throwThe, MonadExceptOf.throw, MonadExcept.throw, pure, Except.pure] at h
  split at h
  · cases h
  · split at h
    · cases h
    · split at h
      · split at h
        · cases h
        · split at h
          · cases h
          · cases h; rfl
      · cases h
theorem farStore_drawn {p : Program} {w : World} {a : Addr} {v : Value} {b : Bool} {r : World × List Addr} (h : w.farStore p a v b = .ok r) : r.1.drawn = w.drawn := by
  unfold World.farStore at h
  split at h
  · split at h
    · cases h; rename_i h; exact viewStore_drawn h
    · cases h
  · cases h
theorem ask_drawn {α : Type} : ∀ (x : Ask α) (w : World), w.drawn ≤ (w.ask x).2.drawn := by
  intro x
  induction x with
  | done a => intro w; exact Nat.le_refl _
  | ask what range k ih =>
    intro w
    unfold World.ask
    dsimp only
    split
    · exact ih _ _
    · exact Nat.le_trans (Nat.le_succ _) (ih _ { w with drawn := w.drawn + 1 })
theorem sys_drawn (w : World) (c : Sys) : w.drawn ≤ (w.sys c).2.drawn := by
  unfold World.sys
  have h := ask_drawn (Kernel.perform c w.os) w
  split
  · exact Nat.le_refl _
  · rename_i heq; rw [heq] at h; exact h
theorem run_drawn {α : Type} {P : Program} (s : Sem α) : ∀ {w w' : World} {v : α}, s.run P w = .ok v w' → w.drawn ≤ w'.drawn := by
  induction s with
  | pure a => intro w w' v h; cases h; exact Nat.le_refl _
  | load m a k ih =>
    intro w w' v h
    unfold Sem.run at h
    split at h
    · exact ih _ h
    · split at h
      · exact ih _ h
      · cases h
  | store m a u k ih =>
    intro w w' v h
    have key : (match w.cell? a with
      | some _ => if w.frozen? a then Result.halt (.unsupported (.unsafePointer "a write to bytes that a string shares")) w else k.run P (w.setCell a u)
      | none => match w.farStore P a u (m == Mode.atomic) with
        | .ok (w, _) => k.run P w
        | .error h => .halt h w) = .ok v w' := by
      cases u <;> first | exact h | (cases h; done)
    split at key
    · split at key
      · cases key
      · exact ih (w := w.setCell a u) key
    · split at key
      · rename_i hf; exact (farStore_drawn hf) ▸ ih key
      · cases key
  | new o k ih => intro w w' v h; unfold Sem.run at h; exact ih _ (w := { w with heap := w.heap.push o }) h
  | shape r k ih => intro w w' v h; unfold Sem.run at h; exact ih _ h
  | freeze a n k ih => intro w w' v h; unfold Sem.run at h; have := ih h; unfold World.freeze at this; split at this <;> exact this
  | frozen a k ih => intro w w' v h; unfold Sem.run at h; exact ih _ h
  | getObj r k ih =>
    intro w w' v h; unfold Sem.run at h
    split at h
    · cases h
    · exact ih _ h
    · cases h
  | setObj r o k ih =>
    intro w w' v h; unfold Sem.run at h
    split at h
    · cases h
    · exact ih (w := { w with heap := w.heap.setIfInBounds r o }) h
    · cases h
  | choose q k ih =>
    intro w w' v h; unfold Sem.run at h
    split at h
    · exact ih _ h
    · exact Nat.le_trans (Nat.le_succ _) (ih _ (w := { w with drawn := w.drawn + 1 }) h)
  | sys c k ih => intro w w' v h; unfold Sem.run at h; exact Nat.le_trans (sys_drawn w c) (ih _ h)
  | program k ih => intro w w' v h; unfold Sem.run at h; exact ih _ h
  | mark m k ih => intro w w' v h; unfold Sem.run at h; exact ih h
  | halt x => intro w w' v h; cases h

/-- The value v is a slice that reads as l; it is nil or lies in a block of its own, from block number B on. -/
def Own {α : Type} (B : Nat) (E : TypeId) (n : Nat) (cells : α → List Value) (w : World) (v : Value) (l : List α) : Prop :=
  (v = .slice none 0 0 ∧ l = []) ∨
  ∃ g off cap cur, v = .slice (some ⟨g, off, none⟩) l.length cap ∧ B ≤ g ∧ w.heap[g]? = some (.cells cur E (0, 0)) ∧ l.length ≤ cap ∧ cap ≤ maxLen ∧ off + cap * n ≤ cur.size ∧ (cur.toList.drop off).take (l.length * n) = l.flatMap cells

section
variable {α : Type} {B : Nat} {E : TypeId} {n : Nat} {cells : α → List Value} {w w' : World} {v : Value} {l : List α}

theorem Own.nil (B : Nat) (E : TypeId) (n : Nat) (cells : α → List Value) (w : World) : Own B E n cells w (.slice none 0 0) ([] : List α) := .inl ⟨rfl, rfl⟩
theorem Own.lt (h : Own B E n cells w v l) {b : Nat} (hb : v.ownBlock = some b) : B ≤ b ∧ b < w.heap.size := by
  rcases h with ⟨hv, _⟩ | ⟨g, off, cap, cur, hv, hg, hh, _⟩
  · rw [hv] at hb; cases hb
  · rw [hv] at hb
    obtain rfl := Option.some.inj hb
    exact ⟨hg, (Array.getElem?_eq_some_iff.1 hh).1⟩
theorem Own.ext {G : Nat → Prop} (h : Own B E n cells w v l) (hE : Ext G w w') (hG : ∀ b, v.ownBlock = some b → ¬ G b) : Own B E n cells w' v l := by
  rcases h with h2 | ⟨g, off, cap, cur, hv, hg, hh, r⟩
  · exact .inl h2
  · exact .inr ⟨g, off, cap, cur, hv, hg, (hE.block g (Array.getElem?_eq_some_iff.1 hh).1 (hG g (by rw [hv]; rfl))).trans hh, r⟩
theorem Own.exn (h : Own B E n cells w v l) (hE : Ext noG w w') : Own B E n cells w' v l := h.ext hE (fun _ _ h => h)
theorem Own.base {B' : Nat} (h : Own B E n cells w v l) (hB : B' ≤ B) : Own B' E n cells w v l := by
  rcases h with h2 | ⟨g, off, cap, cur, hv, hg, r⟩
  · exact .inl h2
  · exact .inr ⟨g, off, cap, cur, hv, Nat.le_trans hB hg, r⟩
theorem Own.shape (h : Own B E n cells w v l) : ∃ a cap, v = .slice a l.length cap ∧ l.length ≤ cap ∧ cap ≤ maxLen := by
  rcases h with ⟨hv, hn⟩ | ⟨g, off, cap, cur, hv, _, _, hc, hm, _⟩
  · exact ⟨none, 0, by rw [hv, hn]; rfl, by rw [hn]; exact Nat.le_refl _, Nat.zero_le _⟩
  · exact ⟨some ⟨g, off, none⟩, cap, hv, hc, hm⟩
theorem Own.ca (h : Own B E n cells w v l) {a : Addr} {m c : Nat} (hv : v = .slice (some a) m c) : CA w a (l.flatMap cells) := by
  rcases h with ⟨h1, _⟩ | ⟨g, off, cap, cur, h1, _, hh, _, _, hs, ht⟩
  · rw [h1] at hv; cases hv
  · rw [h1] at hv
    simp only [Value.slice.injEq, Option.some.injEq] at hv
    obtain ⟨rfl, rfl, rfl⟩ := hv
    intro j u hu
    rw [← ht] at hu
    have hj : j < l.length * n := by
      have := (List.getElem?_eq_some_iff.1 hu).1
      rw [List.length_take] at this; omega
    rw [List.getElem?_take_of_lt hj, List.getElem?_drop, Array.getElem?_toList] at hu
    unfold World.cell?
    rw [Addr.add_lit]
    simp [hh, hu]
/-- A slice of the call's own, read. -/
theorem Own.rep (h : Own B E n cells w v l) {hn : ∀ x, (cells x).length = n} {G : Nat → Prop} (hG : ∀ b, v.ownBlock = some b → ¬ G b) : RepSl (TyR.flat n cells hn) G w v l := by
  have hca := fun a m c (hv : v = .slice (some a) m c) => h.ca hv
  rcases h with ⟨hv, hl⟩ | ⟨g, off, cap, cur, hv, hg, hh, hc, hm, hs, ht⟩
  · exact .inl ⟨hv, hl⟩
  · refine .inr ⟨⟨g, off, none⟩, cap, hv, hc, hm, fun i x hx => ⟨cells x, rfl, (Array.getElem?_eq_some_iff.1 hh).1, hG g (by rw [hv]; rfl), ?_⟩⟩
    have h1 := CA.elem n hn (hca _ _ _ hv) (i := (i : Int)) (x := x) (by unfold getI; rw [if_pos (Int.natCast_nonneg i)]; simpa using hx)
    rw [Int.toNat_natCast] at h1; exact h1
/-- What the library's own form of such a slice says. -/
theorem Own.ofRow {m : Nat} (h : w.ownsRow B E n v m (l.flatMap cells)) (hm : m = l.length) : Own B E n cells w v l := by
  subst hm
  rcases h.2 with ⟨hv, hl⟩ | ⟨g, cap, cur, hv, hg, hh, hc, hm, hs, ht⟩
  · exact .inl ⟨hv, List.length_eq_zero_iff.1 hl⟩
  · exact .inr ⟨g, 0, cap, cur, hv, hg, hh, hc, hm, by rw [hs]; omega, by simpa using ht⟩
theorem ownBlock_nil : (Value.slice none 0 0).ownBlock = none := rfl
end

/-- The blocks of G, all of which are there. -/
def GB (G : Nat → Prop) (w : World) : Prop := ∀ b, G b → b < w.heap.size
theorem GB.mono {G : Nat → Prop} {w w' : World} (h : GB G w) (hs : w.heap.size ≤ w'.heap.size) : GB G w' := fun _ hb => Nat.lt_of_lt_of_le (h _ hb) hs
theorem GB.no (w : World) : GB noG w := fun _ h => h.elim
/-- G, and the block of a slice. -/
def gov (G : Nat → Prop) (v : Value) : Nat → Prop := fun b => G b ∨ v.ownBlock = some b
theorem GB.gov {α : Type} {G : Nat → Prop} {B : Nat} {E : TypeId} {n : Nat} {cells : α → List Value} {w : World} {v : Value} {l : List α} (h : GB G w) (hO : Own B E n cells w v l) : GB (gov G v) w := fun b hb =>
  hb.elim (h b) (fun hv => (hO.lt hv).2)
/-- G, and all blocks from the size of w0 on. -/
def gfr (G : Nat → Prop) (w0 : World) : Nat → Prop := fun b => G b ∨ w0.heap.size ≤ b
theorem RepSl.start {α : Type} {R : TyR α} {G : Nat → Prop} {w : World} {v : Value} {l : List α} (h : RepSl R G w v l) : RepSl R (gfr G w) w v l :=
  h.weaken (fun _ hb hg => hg.elim id (fun hh => absurd hb (Nat.not_lt.2 hh)))
theorem RepSl.back {α : Type} {R : TyR α} {G : Nat → Prop} {w w0 : World} {v : Value} {l : List α} (h : RepSl R (gfr G w0) w v l) : RepSl R G w v l := h.weaken (fun _ _ hg => .inl hg)
/-- Over a change of the call's own blocks. -/
theorem RepSl.over {α : Type} {R : TyR α} {G G' : Nat → Prop} {w w' w0 : World} {v : Value} {l : List α} (h : RepSl R (gfr G w0) w v l) (hE : Ext G' w w') (hG : ∀ b, G' b → w0.heap.size ≤ b) : RepSl R (gfr G w0) w' v l :=
  h.ext (hE.mono fun b hb => .inr (hG b hb))
/-- Over a change of one slice of the call's own, whose block may be another one behind it. -/
theorem RepSl.move {α : Type} {R : TyR α} {G : Nat → Prop} {w w' : World} {v u u' : Value} {l : List α} (h : RepSl R (gov G u) w v l) (hE : Ext (fun b => u.ownBlock = some b) w w')
    (hu : ∀ b, u'.ownBlock = some b → u.ownBlock = some b ∨ w.heap.size ≤ b) : RepSl R (gov G u') w' v l := by
  have h1 : RepSl R (fun b => G b ∨ u.ownBlock = some b ∨ u'.ownBlock = some b) w v l := h.weaken (fun b hb hg => by
    rcases hg with hg | hg | hg
    · exact .inl hg
    · exact .inr hg
    · rcases hu b hg with h2 | h2
      · exact .inr h2
      · omega)
  have h2 := h1.ext (hE.mono fun b hb => .inr (.inl hb))
  exact h2.weaken (fun b _ hg => hg.elim .inl (fun hh => .inr (.inr hh)))

/-- append, where the bytes have room. -/
def appI {α : Type} (bytes : Nat) (l x : List α) : Option (List α) := if (l.length + x.length) * bytes ≤ 140737488355328 then some (l ++ x) else none
theorem appI_some {α : Type} {bytes : Nat} {l x r : List α} (h : appI bytes l x = some r) : (l.length + x.length) * bytes ≤ 140737488355328 ∧ l ++ x = r := by
  unfold appI at h
  split at h
  · exact ⟨by assumption, Option.some.inj h⟩
  · cases h

section
variable {P : Program} {w : World}
/-- The operation append on a slice of the call's own: the slice behind it lies in the same block or in a new one. -/
theorem run_append {α : Type} {B : Nat} {t ty E : TypeId} {n bytes : Nat} {cells : α → List Value} {v x : Value} {l xs : List α} (hn : ∀ x, (cells x).length = n) (h1 : ∀ x, ∀ u ∈ cells x, u.oneCell' = true)
    (ht : P.underlying t = some (.slice E)) (hi : (P.info? E).map (fun i => (i.zero.map (·.cells.size), i.size, i.bytes)) = some (some n, n, bytes)) (hpos : 0 < n) (hbpos : 0 < bytes)
    (hown : Own B E n cells w v l) (hx : ∃ G, RepSl (TyR.flat n cells hn) G w x xs) (hb : (l.length + xs.length) * bytes ≤ 140737488355328) (hB : B ≤ w.heap.size) :
    ∃ v' w', (Builtin.append_ #[t, t] ty #[v, x]).run P w = .ok v' w' ∧ Own B E n cells w' v' (l ++ xs) ∧ Ext (fun b => v.ownBlock = some b) w w' ∧ (∀ b, v'.ownBlock = some b → v.ownBlock = some b ∨ w.heap.size ≤ b) := by
  cases hinfo : P.info? E with
  | none => simp [hinfo] at hi
  | some i =>
    simp only [hinfo, Option.map_some, Option.some.injEq, Prod.mk.injEq] at hi
    obtain ⟨hz, hsize, hby⟩ := hi
    obtain ⟨z, hz1, hz2⟩ := Option.map_eq_some_iff.1 hz
    have hlen : l.length + xs.length ≤ maxLen := by
      have : (l.length + xs.length) * 1 ≤ (l.length + xs.length) * bytes := Nat.mul_le_mul_left _ hbpos
      simp only [maxLen]; omega
    have fin : ∀ (a : Addr) (m c : Nat) (news : List Value), x = .slice (some a) m c → m = xs.length → news = xs.flatMap cells → (∀ j u, news[j]? = some u → w.cell? (a.add j) = some u) →
        ∃ v' w', (Builtin.append_ #[t, t] ty #[v, x]).run P w = .ok v' w' ∧ Own B E n cells w' v' (l ++ xs) ∧ Ext (fun b => v.ownBlock = some b) w w' ∧ (∀ b, v'.ownBlock = some b → v.ownBlock = some b ∨ w.heap.size ≤ b) := by
      intro a m c news hxe hm hnews hc
      subst hxe
      have hnl : news.length = m * n := by rw [hnews, hm, length_flatMap hn]
      have hone : ∀ u ∈ news, u.oneCell' = true := by rw [hnews]; exact one_flatMap h1
      rcases hown with ⟨rfl, rfl⟩ | ⟨g, off, cap, cur, rfl, hBg, hgg, hlc, hcm, hsz, htk⟩
      · obtain ⟨v', w', hr, ho, hg, _⟩ := run_append_own (P := P) w w.heap.size t ty E i z n bytes ht hinfo hz1 hsize hby hz2 hpos _ 0 [] (World.ownsRow_nil w _ E n) a m c news hnl hc hone (by rw [hm]; simpa using hlen) (by rw [hm]; simpa using hb) (Nat.le_refl _)
        have hO : Own w.heap.size E n cells w' v' ([] ++ xs) := Own.ofRow (m := 0 + m) (by rw [List.nil_append, ← hnews]; exact ho) (by simp [hm])
        exact ⟨v', w', hr, hO.base hB, ⟨hg.os, hg.tape, hg.output, hg.size, fun b hb hne => hg.block b hb (fun e => hne e.symm), run_drawn _ hr⟩, fun b hvb => .inr (hO.lt hvb).1⟩
      · have hfl : (l.flatMap cells).length = l.length * n := length_flatMap hn l
        have hca : CA w ⟨g, off, none⟩ (l.flatMap cells) := Own.ca (B := B) (E := E) (n := n) (.inr ⟨g, off, cap, cur, rfl, hBg, hgg, hlc, hcm, hsz, htk⟩) rfl
        by_cases hroom : l.length + m ≤ cap
        · have hmn : (l.length + m) * n ≤ cap * n := Nat.mul_le_mul_right _ hroom
          rw [Nat.add_mul] at hmn
          have hf := run_firstCells_some (P := P) w i.size m a m c news (by rw [hsize]; exact hnl) hc
          have hst := run_storeCells_at P g (off + l.length * n) E news 0 cur w hgg (by rw [hnl]; omega) hone
          simp only [Nat.add_zero] at hst
          refine ⟨.slice (some ⟨g, off, none⟩) (l.length + m) cap, w.setRow g (cur.toList.take (off + l.length * n) ++ news ++ cur.toList.drop (off + l.length * n + news.length)).toArray, ?_, ?_, ⟨rfl, rfl, rfl, by simp, fun k _ hk => setRow_other w g k _ (fun e => hk (by simp [Value.ownBlock, e])), Nat.le_refl _⟩, fun b hvb => .inl hvb⟩
          · rw [hsize] at hf
            simp [Builtin.append_, run_underlying ht, sizeOf, typeInfo, hinfo, Builtin.lenOf, hroom, hf, Addr.add_lit, hsize, hst]
          · refine .inr ⟨g, off, cap, _, by rw [List.length_append, hm], hBg, setRow_heap w g cur _ E _ hgg, by rw [List.length_append, ← hm]; exact hroom, hcm, ?_, ?_⟩
            · simp only [List.size_toArray, List.length_append, List.length_take, List.length_drop, Array.length_toList]
              omega
            · show (List.drop off (_ ++ news ++ _)).take _ = _
              have hc1 : cur.toList.take (off + l.length * n) = cur.toList.take off ++ l.flatMap cells := by rw [List.take_add, htk]
              have hlo : (cur.toList.take off).length = off := by rw [List.length_take, Array.length_toList]; omega
              rw [hc1, List.append_assoc, List.append_assoc]
              have : (cur.toList.take off ++ (l.flatMap cells ++ (news ++ cur.toList.drop (off + l.length * n + news.length)))).drop off = l.flatMap cells ++ (news ++ cur.toList.drop (off + l.length * n + news.length)) := by
                conv => lhs; rw [← hlo]
                simp [hlo]
              rw [this, ← List.append_assoc, List.flatMap_append, ← hnews]
              have hl2 : (l ++ xs).length * n = (l.flatMap cells ++ news).length := by rw [List.length_append, List.length_append, hfl, hnl, hm, Nat.add_mul]
              rw [hl2]
              exact List.take_left
        · have hsm : l.length + m ≤ 9223372036854775807 := by
            have : l.length + m ≤ maxLen := by rw [hm]; exact hlen
            simp only [maxLen] at this; omega
          have hr := run_append_grow (P := P) w t ty E i z ht hinfo hz1 ⟨g, off, none⟩ l.length cap (l.flatMap cells) (by rw [hfl, hsize]) hca a m c news (by rw [hsize]; exact hnl) hc (by omega) (by omega) (growslice_fits (by omega) (by rw [hm, hby]; exact hb))
          have hge := grownCap_ge w (l.length + m) cap E
          have hcm2 : grownCap w (l.length + m) cap E ≤ maxLen := grownCap_le_maxLen w (l.length + m) cap E (by rw [hm]; exact hlen)
          refine ⟨_, _, hr, ?_, ⟨rfl, rfl, rfl, by simp, fun k hk _ => heap_alloc_old w.drew _ k hk, Nat.le_succ _⟩, fun b hvb => ?_⟩
          · refine .inr ⟨w.heap.size, 0, _, _, by rw [List.length_append, hm], hB, heap_alloc_new w.drew _, by rw [List.length_append, ← hm]; exact hge, hcm2, ?_, ?_⟩
            · simp only [Array.size_append, List.size_toArray, size_zeroCells, hz2, hfl, hnl, ← Nat.add_mul, Nat.zero_add]
              exact Nat.mul_le_mul_right _ (by omega)
            · simp only [Array.toList_append, List.append_assoc, List.drop_zero]
              rw [← List.append_assoc, List.flatMap_append, ← hnews]
              have hl2 : (l ++ xs).length * n = (l.flatMap cells ++ news).length := by rw [List.length_append, List.length_append, hfl, hnl, hm, Nat.add_mul]
              rw [hl2]
              exact List.take_left
          · right
            obtain rfl := Option.some.inj hvb
            exact Nat.le_refl _
    obtain ⟨G, hx⟩ := hx
    rcases hx with ⟨hxv, hxl⟩ | ⟨a, cap, hxv, _, _, hi⟩
    · -- a nil source
      subst hxl
      subst hxv
      refine ⟨v, w, ?_, by simpa using hown, Ext.refl _ _, fun b hb => .inl hb⟩
      rcases hown with ⟨hv, hl⟩ | ⟨g, off, cap, cur, hv, _, hgg, hnc, _⟩
      · rw [hv]
        simp [Builtin.append_, run_underlying ht, sizeOf, typeInfo, hinfo, Builtin.lenOf, Builtin.firstCells]
      · rw [hv]
        simp [Builtin.append_, run_underlying ht, sizeOf, typeInfo, hinfo, Builtin.lenOf, Builtin.firstCells, hnc, storeCells]
    · refine fin a xs.length cap (xs.flatMap cells) hxv rfl rfl ?_
      intro j u hu
      -- the cell j lies in element j / n
      have hjl : j < xs.length * n := by
        have := (List.getElem?_eq_some_iff.1 hu).1
        rwa [length_flatMap hn] at this
      have hk : j / n < xs.length := (Nat.div_lt_iff_lt_mul hpos).2 hjl
      obtain ⟨cs, hcs, _, _, hca⟩ := hi (j / n) xs[j / n] (List.getElem?_eq_getElem hk)
      have hcs : cs = cells xs[j / n] := hcs
      subst hcs
      have hu' : (cells xs[j / n])[j % n]? = some u := by
        have key : ∀ (xs : List α) (k r : Nat), r < n → (hk : k < xs.length) → (xs.flatMap cells)[k * n + r]? = (cells xs[k])[r]? := by
          intro xs
          induction xs with
          | nil => intro k r _ hk; simp at hk
          | cons y ys ih =>
            intro k r hr hk
            cases k with
            | zero =>
              simp only [Nat.zero_mul, Nat.zero_add, List.flatMap_cons, List.getElem_cons_zero]
              rw [List.getElem?_append_left (by rw [hn]; exact hr)]
            | succ k =>
              rw [List.flatMap_cons, List.getElem?_append_right (by rw [hn, Nat.succ_mul]; omega), hn, Nat.succ_mul]
              have := ih k r hr (by simpa using hk)
              simp only [List.getElem_cons_succ]
              rw [← this]
              congr 1
              omega
        have := key xs (j / n) (j % n) (Nat.mod_lt _ hpos) hk
        rw [← this, Nat.div_add_mod' j n]
        exact hu
      have h3 := hca (j % n) u hu'
      rw [Deep.add_add] at h3
      rwa [show (TyR.flat n cells hn).n = n from rfl, Nat.div_add_mod' j n] at h3
end

section
variable {P : Program} {w : World} {G : Nat → Prop} {ρ : Nat → Value} {F : List Fact} {p : Plan} {i : Nat}
/-- An operation that hands a value on: its fact is what is known of that value. -/
theorem core_copy {o : Oper} {dd : Tmp} {v : Value} {Φ : Value → World → Prop} (hd : o.dst = some dd) (hF : F[i]? = some (dd, Φ)) (h : YV P (ev ρ) w o v) (hΦ : Φ v w) :
    Yield P o (ev ρ) w fun v w' => Ext (if p.mu.contains i then G else noG) w w' ∧ fact F i (putO ρ o.dst v) w' := by
  unfold Yield
  rw [h]
  refine ⟨Ext.refl _ _, ?_⟩
  unfold fact
  rw [hF, hd]
  show Φ (upd ρ dd v dd) w
  rw [upd_same]
  exact hΦ
/-- append on a slice of the call's own. -/
theorem core_append {α : Type} {B : Nat} {t ty E : TypeId} {n bytes : Nat} {cells : α → List Value} {s x : Operand} {v xv : Value} {l xs r : List α} {ps : String} {af : Array Edge} {g : Option (Nat × Bool)} {dd : Tmp} {w0 : World}
    {Φ : Value → World → Prop} (hF : F[i]? = some (dd, Φ)) (hm : p.mu.contains i = true) (hG : ∀ b, v.ownBlock = some b → G b) (hs : ev ρ s = v) (hxv : ev ρ x = xv)
    (hn : ∀ x, (cells x).length = n) (h1 : ∀ x, ∀ u ∈ cells x, u.oneCell' = true)
    (ht : P.underlying t = some (.slice E)) (hi : (P.info? E).map (fun i => (i.zero.map (·.cells.size), i.size, i.bytes)) = some (some n, n, bytes)) (hpos : 0 < n) (hbpos : 0 < bytes)
    (hown : Own B E n cells w v l) (hx : ∃ G, RepSl (TyR.flat n cells hn) G w xv xs) (hb : appI bytes l xs = some r) (hB : B ≤ w.heap.size) (hw0 : w0.heap.size ≤ w.heap.size)
    (hΦ : ∀ v' w', Own B E n cells w' v' r → (∀ b, v'.ownBlock = some b → v.ownBlock = some b ∨ w0.heap.size ≤ b) → Φ v' w') :
    Yield P ⟨some dd, .call ⟨.builtin .append, #[s, x], #[t, t]⟩, ty, ps, af, g⟩ (ev ρ) w fun v w' => Ext (if p.mu.contains i then G else noG) w w' ∧ fact F i (putO ρ (some dd) v) w' := by
  obtain ⟨hbb, hrr⟩ := appI_some hb
  obtain ⟨v', w', hr, ho, hE, hfr⟩ := run_append (P := P) (ty := ty) hn h1 ht hi hpos hbpos hown hx hbb hB
  have hrun : (execOp (ev ρ) ⟨some dd, .call ⟨.builtin .append, #[s, x], #[t, t]⟩, ty, ps, af, g⟩).run P w = .ok (.value v') w' := by
    simp [execOp, resolve, invoke, builtin, hs, hxv, hr]
  unfold Yield
  rw [hrun, hm, if_pos rfl]
  refine ⟨hE.mono hG, ?_⟩
  unfold fact
  rw [hF]
  show Φ (upd ρ dd v' dd) w'
  rw [upd_same]
  exact hΦ v' w' (hrr ▸ ho) (fun b hb => (hfr b hb).imp id (fun hh => Nat.le_trans hw0 hh))
/-- append on a nil slice: nothing that is there changes. -/
theorem core_appendN {α : Type} {B : Nat} {t ty E : TypeId} {n bytes : Nat} {cells : α → List Value} {s x : Operand} {xv : Value} {l xs r : List α} {ps : String} {af : Array Edge} {g : Option (Nat × Bool)} {dd : Tmp} {w0 : World}
    {Φ : Value → World → Prop} (hF : F[i]? = some (dd, Φ)) (hs : ev ρ s = .slice none 0 0) (hxv : ev ρ x = xv)
    (hn : ∀ x, (cells x).length = n) (h1 : ∀ x, ∀ u ∈ cells x, u.oneCell' = true)
    (ht : P.underlying t = some (.slice E)) (hi : (P.info? E).map (fun i => (i.zero.map (·.cells.size), i.size, i.bytes)) = some (some n, n, bytes)) (hpos : 0 < n) (hbpos : 0 < bytes)
    (hown : Own B E n cells w (.slice none 0 0) l) (hx : ∃ G, RepSl (TyR.flat n cells hn) G w xv xs) (hb : appI bytes l xs = some r) (hB : B ≤ w.heap.size) (hw0 : w0.heap.size ≤ w.heap.size)
    (hΦ : ∀ v' w', Own B E n cells w' v' r → (∀ b, v'.ownBlock = some b → (Value.slice none 0 0).ownBlock = some b ∨ w0.heap.size ≤ b) → Φ v' w') :
    Yield P ⟨some dd, .call ⟨.builtin .append, #[s, x], #[t, t]⟩, ty, ps, af, g⟩ (ev ρ) w fun v w' => Ext (if p.mu.contains i then G else noG) w w' ∧ fact F i (putO ρ (some dd) v) w' := by
  obtain ⟨hbb, hrr⟩ := appI_some hb
  obtain ⟨v', w', hr, ho, hE, hfr⟩ := run_append (P := P) (ty := ty) hn h1 ht hi hpos hbpos hown hx hbb hB
  have hrun : (execOp (ev ρ) ⟨some dd, .call ⟨.builtin .append, #[s, x], #[t, t]⟩, ty, ps, af, g⟩).run P w = .ok (.value v') w' := by
    simp [execOp, resolve, invoke, builtin, hs, hxv, hr]
  have hE' : Ext noG w w' := hE.mono (fun b hb => by simp [Value.ownBlock] at hb)
  unfold Yield
  rw [hrun]
  refine ⟨by split; exact hE'.of_no; exact hE', ?_⟩
  unfold fact
  rw [hF]
  show Φ (upd ρ dd v' dd) w'
  rw [upd_same]
  exact hΦ v' w' (hrr ▸ ho) (fun b hb => (hfr b hb).imp id (fun hh => Nat.le_trans hw0 hh))
/-- A slice that the region makes out of values. -/
theorem core_slice {o : Oper} {dd : Tmp} {E : TypeId} {k : Nat} {cs : List Value} {w0 : World} (hd : o.dst = some dd)
    (hF : F[i]? = some (dd, fun u w' => ∃ b, u = .slice (some ⟨b, 0, none⟩) k k ∧ w0.heap.size ≤ b ∧ Mb w' b E cs))
    (h0 : Ext G w0 w) (h : (execOp (ev ρ) o).run P w = .ok (.value (.slice (some ⟨w.heap.size, 0, none⟩) k k)) (w.alloc (.cells cs.toArray E))) :
    Yield P o (ev ρ) w fun v w' => Ext (if p.mu.contains i then G else noG) w w' ∧ fact F i (putO ρ o.dst v) w' := by
  unfold Yield
  rw [h]
  refine ⟨Ext.alloc _ _ _, ?_⟩
  unfold fact
  rw [hF, hd]
  exact ⟨_, upd_same _ _ _, h0.size, Mb.alloc w E cs⟩
theorem o_buildSlice {η : Operand → Value} {d : Option Tmp} {ty : TypeId} {ps : String} {af : Array Edge} {g : Option (Nat × Bool)} {T : TypeId} {k : Nat} {parts : Array (Nat × Operand)} {vs : Array (Nat × Value)} {u : Value} {w' : World}
    (hp : (parts.map fun (i, x) => (i, η x)) = vs) (h : (Instr.buildSlice T k vs).run P w = .ok u w') : (execOp η ⟨d, .buildSlice T k parts, ty, ps, af, g⟩).run P w = .ok (.value u) w' := by
  subst hp
  simp only [execOp, Sem.run_bind, h, Result.andThen_ok, Sem.run_pure]
end
theorem Mb.rep {α : Type} {n : Nat} {cells : α → List Value} {hn : ∀ x, (cells x).length = n} {w : World} {b : Nat} {E : TypeId} {l : List α} {k : Nat} {G : Nat → Prop} (h : Mb w b E (l.flatMap cells)) (hk : l.length = k) (hm : k ≤ maxLen) (hG : ¬ G b) :
    RepSl (TyR.flat n cells hn) G w (.slice (some ⟨b, 0, none⟩) k k) l := by
  subst hk
  refine .inr ⟨⟨b, 0, none⟩, l.length, rfl, Nat.le_refl _, hm, fun i x hx => ⟨cells x, rfl, h.lt, hG, ?_⟩⟩
  have h1 := CA.elem n hn h.ca (i := (i : Int)) (x := x) (by unfold getI; rw [if_pos (Int.natCast_nonneg i)]; simpa using hx)
  rw [Int.toNat_natCast] at h1; exact h1

theorem Mb.own {α : Type} {B n : Nat} {cells : α → List Value} {w : World} {b : Nat} {E : TypeId} {l : List α} {k : Nat} (h : Mb w b E (l.flatMap cells)) (hB : B ≤ b) (hk : l.length = k) (hm : k ≤ maxLen) (hn : ∀ x, (cells x).length = n) :
    Own B E n cells w (.slice (some ⟨b, 0, none⟩) k k) l := by
  subst hk
  refine .inr ⟨b, 0, l.length, _, rfl, hB, h, Nat.le_refl _, hm, by simp [length_flatMap hn], ?_⟩
  have e : l.length * n = (l.flatMap cells).length := (length_flatMap hn l).symm
  rw [e, List.toList_toArray, List.drop_zero, List.take_length]
theorem RepSl.no {α : Type} {R : TyR α} {G : Nat → Prop} {w : World} {v : Value} {l : List α} (h : RepSl R G w v l) : RepSl R noG w v l := h.weaken (fun _ _ h => h.elim)
/-- l[lo:hi], where it is inside the length. -/
def sliceI {α : Type} (l : List α) (lo hi : Int) : Option (List α) := if 0 ≤ lo ∧ lo ≤ hi ∧ hi ≤ (l.length : Int) then some ((l.drop lo.toNat).take (hi.toNat - lo.toNat)) else none
theorem sliceI_some {α : Type} {l r : List α} {lo hi : Int} (h : sliceI l lo hi = some r) : 0 ≤ lo ∧ lo ≤ hi ∧ hi ≤ (l.length : Int) ∧ r = (l.drop lo.toNat).take (hi.toNat - lo.toNat) := by
  unfold sliceI at h
  split at h
  · rename_i hc; exact ⟨hc.1, hc.2.1, hc.2.2, (Option.some.inj h).symm⟩
  · cases h
theorem RepSl.cut {α : Type} {R : TyR α} {G : Nat → Prop} {w : World} {v : Value} {l r : List α} {lo hi : Int} (h : RepSl R G w v l) (hs : sliceI l lo hi = some r) :
    ∃ a cap, v = .slice a l.length cap ∧ hi.toNat ≤ cap ∧ RepSl R G w (.slice (if cap = lo.toNat then a else a.map (·.add (lo.toNat * R.n))) (hi.toNat - lo.toNat) (cap - lo.toNat)) r := by
  obtain ⟨h0, h1, h2, hr⟩ := sliceI_some hs
  have hlen : r.length = hi.toNat - lo.toNat := by
    rw [hr, List.length_take, List.length_drop]; omega
  rcases h with ⟨hv, rfl⟩ | ⟨a, cap, hv, hc, hm, hi'⟩
  · refine ⟨none, 0, hv, by simp at h2; omega, .inl ⟨?_, by simpa using hr⟩⟩
    have e1 : lo.toNat = 0 := by simp at h2; omega
    have e2 : hi.toNat = 0 := by simp at h2; omega
    simp [e1, e2]
  · refine ⟨some a, cap, hv, by omega, .inr ?_⟩
    by_cases hz : cap = lo.toNat
    · refine ⟨a, cap - lo.toNat, by rw [if_pos hz, hlen], by omega, by omega, fun i x hx => ?_⟩
      have : r = [] := List.length_eq_zero_iff.1 (by omega)
      rw [this] at hx; simp at hx
    · refine ⟨a.add (lo.toNat * R.n), cap - lo.toNat, by rw [if_neg hz, hlen]; rfl, by omega, by omega, fun i x hx => ?_⟩
      rw [hr, List.getElem?_take] at hx
      split at hx
      · rw [List.getElem?_drop] at hx
        obtain ⟨cs, h3, h4, h5, h6⟩ := hi' _ _ hx
        refine ⟨cs, h3, by rw [add_block]; exact h4, by rw [add_block]; exact h5, ?_⟩
        rw [Deep.add_add, ← Nat.add_mul]; exact h6
      · cases hx
section
variable {P : Program} {w : World} {α : Type} {R : TyR α} {G : Nat → Prop} {v : Value} {l r : List α} {t e : TypeId}
theorem run_cut {lo hi : Option Value} {i j : Int} (ht : P.underlying t = some (.slice e)) (he : (P.info? e).map (·.size) = some R.n) (h : RepSl R G w v l) (hs : sliceI l i j = some r)
    (hlo : (lo = none ∧ i = 0) ∨ lo = some (.int .i64 i)) (hhi : (hi = none ∧ j = (l.length : Int)) ∨ hi = some (.int .i64 j)) :
    ∃ u, (Instr.sliceAt t v lo hi none).run P w = .ok u w ∧ RepSl R G w u r := by
  obtain ⟨a, cap, hv, hcap, hrep⟩ := h.cut hs
  obtain ⟨h0, h1, h2, _⟩ := sliceI_some hs
  refine ⟨_, ?_, hrep⟩
  cases hinfo : P.info? e with
  | none => simp [hinfo] at he
  | some q =>
    simp only [hinfo, Option.map_some, Option.some.injEq] at he
    subst hv
    have hj : (0 ≤ j ∧ j ≤ (cap : Int)) := by omega
    have hij : (0 ≤ i ∧ i ≤ (j.toNat : Int)) := by omega
    rcases hlo with ⟨rfl, rfl⟩ | rfl <;> rcases hhi with ⟨rfl, hl⟩ | rfl
    · have e1 : j.toNat = l.length := by omega
      simp [Instr.sliceAt, Instr.slice, run_underlying ht, Instr.sliceBounds, sizeOf, typeInfo, hinfo, e1]
    · simp [Instr.sliceAt, Instr.slice, run_underlying ht, Instr.sliceBounds, Instr.sliceBound, asIntOf, hj, sizeOf, typeInfo, hinfo]
    · have e1 : j.toNat = l.length := by omega
      rw [e1] at hij
      simp [Instr.sliceAt, Instr.slice, run_underlying ht, Instr.sliceBounds, Instr.sliceBound, asIntOf, hij, sizeOf, typeInfo, hinfo, he, e1]
    · simp [Instr.sliceAt, Instr.slice, run_underlying ht, Instr.sliceBounds, Instr.sliceBound, asIntOf, hj, hij, sizeOf, typeInfo, hinfo, he]
      omega
end
theorem core_cut {P : Program} {w : World} {G : Nat → Prop} {ρ : Nat → Value} {F : List Fact} {p : Plan} {i : Nat} {α : Type} {R : TyR α} {G' : Nat → Prop} {v : Value} {l r : List α} {t e : TypeId} {x : Operand} {lo hi : Option Operand} {a b : Int}
    {ty : TypeId} {ps : String} {af : Array Edge} {g : Option (Nat × Bool)} {dd : Tmp} {Φ : Value → World → Prop}
    (hF : F[i]? = some (dd, Φ)) (hx : ev ρ x = v) (ht : P.underlying t = some (.slice e)) (he : (P.info? e).map (·.size) = some R.n) (h : RepSl R G' w v l) (hs : sliceI l a b = some r)
    (hlo : (lo.map (ev ρ) = none ∧ a = 0) ∨ lo.map (ev ρ) = some (.int .i64 a)) (hhi : (hi.map (ev ρ) = none ∧ b = (l.length : Int)) ∨ hi.map (ev ρ) = some (.int .i64 b)) (hΦ : ∀ u, RepSl R G' w u r → Φ u w) :
    Yield P ⟨some dd, .slice t x lo hi none, ty, ps, af, g⟩ (ev ρ) w fun v w' => Ext (if p.mu.contains i then G else noG) w w' ∧ fact F i (putO ρ (some dd) v) w' := by
  obtain ⟨u, hr, hrep⟩ := run_cut (P := P) ht he h hs hlo hhi
  refine core_copy (v := u) rfl hF ?_ (hΦ u hrep)
  simp [YV, execOp, hx, hr]
end Go.PL
