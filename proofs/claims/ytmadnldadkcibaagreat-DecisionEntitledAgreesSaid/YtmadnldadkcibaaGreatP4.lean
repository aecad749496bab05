/- Texts that the proof stands on: laws of the program logic, the Lean functions of the Go functions, and that the Go functions compute them. -/
import Derived.Test.YtmadnldadkcibaaGreatP3
import Derived.Shelf.Strings.Search3
import Derived.Lib.IndexAny
import Derived.Shelf.SlSortFuncK.WholeK
import Derived.Sort.Defs
import Derived.Lib.BitFns
import Derived.Test.YtmadnldadkcibaaGreatProg
import Derived.Shelf.GgSortFunc.Tiny
import Derived.Laws.BitsLemmas
import Derived.Laws.Bits64
set_option linter.unusedVariables false
set_option linter.unusedSimpArgs false
set_option maxRecDepth 100000
namespace Go.PL
open Go Go.Proofs
def adk (v : Value) (b : Nat) : Prop := v.ownBlock = some b
def gL : List (Nat → Prop) → Nat → Prop
  | [], _ => False
  | g :: r, b => g b ∨ gL r b
theorem bp.mv {α : Type} {R : TyR α} {G1 G2 Gm : Nat → Prop} {w w' : World} {v : Value} {l : List α} (h : bp R G1 w v l) (hE : Ext Gm w w') (hm : ∀ b, Gm b → G1 b ∨ w.heap.size ≤ b) (h2 : ∀ b, G2 b → G1 b ∨ w.heap.size ≤ b) : bp R G2 w' v l := by
  have h1 : bp R (fun b => G1 b ∨ w.heap.size ≤ b) w v l := h.weaken (fun b hb hg => hg.elim id (fun hh => absurd hb (Nat.not_lt.2 hh)))
  exact (h1.ext (hE.mono hm)).weaken (fun b _ hg => h2 b hg)
theorem Own.shp {α : Type} {B : Nat} {E : TypeId} {n : Nat} {cells : α → List Value} {w : World} {v : Value} {l : List α} (h : Own B E n cells w v l) : ∃ a n c, v = .slice a n c := by
  obtain ⟨a, c, hv, _⟩ := h.shape
  exact ⟨a, _, c, hv⟩
theorem ah5 (b : Nat) : (⟨b, 0, none⟩ : Addr) = (⟨b, 0, none⟩ : Addr).add 0 := by rw [Addr.add_lit]
section
variable {P : Program} {w : World} {G : Nat → Prop} {ρ : Nat → Value} {F : List Fact} {p : Plan} {i : Nat}
theorem Tw {t : TypeId} {x y : Operand} {ty : TypeId} {ps : String} {af : Array Edge} {g : Option (Nat × Bool)} {dd b k : Nat} {T : TypeId} {a : Addr} {vs cs cs0 : List Value} {v : Value} {Φ : Value → World → Prop}
    (hF : F[i]? = some (dd, Φ)) (hm : p.mu.contains i = true) (hG : ∀ x, x = b → G x)
    (hx : ev ρ x = .pointer (some a)) (ha : a = (⟨b, 0, none⟩ : Addr).add k) (hy : ev ρ y = v) (hM : Mb w b T cs0)
    (hst : ∀ (a : Addr) (w : World), (Instr.storeAt t (.pointer (some a)) v).run P w = (storeCells a vs).run P w) (hk : k + vs.length ≤ cs0.length) (hcs : cs0.take k ++ vs ++ cs0.drop (k + vs.length) = cs) (h1 : ∀ u ∈ vs, u.oneCell' = true)
    (hΦ : ∀ w', Ext (fun x => x = b) w w' → Mb w' b T cs → Φ (ρ dd) w') :
    em P ⟨none, .store t x y, ty, ps, af, g⟩ (ev ρ) w fun v w' => Ext (if p.mu.contains i then G else noG) w w' ∧ rj F i (ww ρ none v) w' := by
  obtain ⟨w', hr, hM', hE⟩ := m6 (P := P) vs k cs0 w hM hk h1
  have hrun : (execOp (ev ρ) ⟨none, .store t x y, ty, ps, af, g⟩).run P w = .ok .skip w' := by
    have h2 := p9 (P := P) (w := w) (a := (⟨b, 0, none⟩ : Addr)) vs k 0
    simp only [Nat.add_zero] at h2
    simp [execOp, hx, hy, hst, ha, h2, hr]
  unfold em
  rw [hrun, hm, if_pos rfl]
  refine ⟨hE.mono hG, ?_⟩
  unfold rj
  rw [hF]
  rw [hcs] at hM'
  exact hΦ w' hE hM'
theorem Pw {α : Type} {B : Nat} {t ty E : TypeId} {n bytes : Nat} {cells : α → List Value} {s x : Operand} {v xv : Value} {l xs r : List α} {ps : String} {af : Array Edge} {g : Option (Nat × Bool)} {dd : Tmp} {w0 : World}
    {Φ : Value → World → Prop} (hF : F[i]? = some (dd, Φ)) (hm : p.mu.contains i = true) (hG : ∀ b, v.ownBlock = some b → G b) (hs : ev ρ s = v) (hxv : ev ρ x = xv)
    (hn : ∀ x, (cells x).length = n) (h1 : ∀ x, ∀ u ∈ cells x, u.oneCell' = true)
    (ht : P.underlying t = some (.slice E)) (hi : (P.info? E).map (fun i => (i.zero.map (·.cells.size), i.size, i.bytes)) = some (some n, n, bytes)) (hpos : 0 < n) (hbpos : 0 < bytes)
    (hown : Own B E n cells w v l) (hx : ∃ G, bp (TyR.flat n cells hn) G w xv xs) (hb : m8 bytes l xs = some r) (hB : B ≤ w.heap.size) (hw0 : w0.heap.size ≤ w.heap.size)
    (hΦ : ∀ v' w', Ext (fun b => v.ownBlock = some b) w w' → Own B E n cells w' v' r → (∀ b, v'.ownBlock = some b → v.ownBlock = some b ∨ w0.heap.size ≤ b) → Φ v' w') :
    em P ⟨some dd, .call ⟨.builtin .append, #[s, x], #[t, t]⟩, ty, ps, af, g⟩ (ev ρ) w fun v w' => Ext (if p.mu.contains i then G else noG) w w' ∧ rj F i (ww ρ (some dd) v) w' := by
  obtain ⟨hbb, hrr⟩ := K1 hb
  obtain ⟨v', w', hr, ho, hE, hfr⟩ := Fi (P := P) (ty := ty) hn h1 ht hi hpos hbpos hown hx hbb hB
  have hrun : (execOp (ev ρ) ⟨some dd, .call ⟨.builtin .append, #[s, x], #[t, t]⟩, ty, ps, af, g⟩).run P w = .ok (.value v') w' := by
    simp [execOp, resolve, invoke, builtin, hs, hxv, hr]
  unfold em
  rw [hrun, hm, if_pos rfl]
  refine ⟨hE.mono hG, ?_⟩
  unfold rj
  rw [hF]
  show Φ (upd ρ dd v' dd) w'
  rw [s5]
  refine hΦ v' w' hE (hrr ▸ ho) (fun b hb => ?_)
  rcases hfr b hb with h2 | h2
  · exact .inl h2
  · exact .inr (Nat.le_trans hw0 h2)
end
theorem abi {P : Program} {η : Operand → Value} {w : World} {T : TypeId} {x : Operand} {v u : Value} {dst : Option Tmp} {ty : TypeId} {ps : String} {af : Array Edge} {g : Option (Nat × Bool)} (hx : η x = v) (h : (Instr.makeInterface T v).run P w = .ok u w) : YV P η w ⟨dst, .makeInterface T x, ty, ps, af, g⟩ u := by
  simp [YV, execOp, hx, h]
end Go.PL
namespace Go.PL
open Go Go.Proofs Go.Sort
def a2i {α : Type} [Inhabited α] (lt : α → α → Bool) (l : List α) : Option (List α) :=
  if l.length ≤ 1 then some l else if l.length < 4611686018427387904 then some (Go.Sort.pdq lt l.toArray 0 l.length (Lib.bitLen l.length) true true).toList else none
theorem Lj {α : Type} [Inhabited α] {cells : α → List Value} {n : Nat} (hn : ∀ x, (cells x).length = n) : ∀ (l : List α) (t : Nat), t < l.length * n → (l.flatMap cells)[t]? = (cells (l[t / n]!))[t % n]?
  | [], t, h => by simp at h
  | x :: r, t, h => by
    have hp : 0 < n := by
      rcases Nat.eq_zero_or_pos n with h0 | h0
      · rw [h0] at h; simp at h
      · exact h0
    rw [List.flatMap_cons]
    by_cases ht : t < n
    · rw [List.getElem?_append_left (by rw [hn]; exact ht), Nat.div_eq_of_lt ht, Nat.mod_eq_of_lt ht]; rfl
    · have h1 : t = (t - n) + n := by omega
      have h2 : t / n = (t - n) / n + 1 := by rw [h1, Nat.add_div_right _ hp]; simp
      have h3 : t % n = (t - n) % n := by rw [h1, Nat.add_mod_right]; simp
      rw [List.getElem?_append_right (by rw [hn]; omega), hn, Lj hn r (t - n) (by simp only [List.length_cons, Nat.succ_mul] at h; omega), h2, h3]
      rfl
theorem Gd {α : Type} [Inhabited α] {cells : α → List Value} {n : Nat} (hn : ∀ x, (cells x).length = n) (d : Array α) : (flatK cells n d).toList = d.toList.flatMap cells := by
  apply List.ext_getElem?
  intro t
  by_cases ht : t < d.size * n
  · rw [Lj hn d.toList t (by simpa using ht)]
    have h1 : (flatK cells n d)[t]? = some ((cells (d[t / n]!))[t % n]!) := by
      rw [← get_flatK cells n d t ht, getElem!_pos (flatK cells n d) t (by rw [size_flatK]; exact ht)]
      simp
    have hp : 0 < n := by
      rcases Nat.eq_zero_or_pos n with h0 | h0
      · rw [h0] at ht; simp at ht
      · exact h0
    have hlt : t % n < (cells (d[t / n]!)).length := by rw [hn]; exact Nat.mod_lt _ hp
    have h2 : d.toList[t / n]! = d[t / n]! := by simp [List.getElem!_eq_getElem?_getD, Array.getElem!_eq_getD, Array.getD_eq_getD_getElem?]
    rw [Array.getElem?_toList, h1, h2, getElem!_pos (cells (d[t / n]!)) (t % n) hlt, List.getElem?_eq_getElem hlt]
  · rw [List.getElem?_eq_none (by simp; omega), List.getElem?_eq_none (by rw [ea hn]; simp; omega)]
section
variable {α : Type} [Inhabited α] {B : Nat} {E : TypeId} {n : Nat} {cells : α → List Value} {w w' : World} {v : Value} {l : List α}
theorem a16 (hn : ∀ x, (cells x).length = n) {g o cap m : Nat} (h : Own B E n cells w (.slice (some ⟨g, o, none⟩) m cap) l) : HoldsK cells n w g o l.toArray := by
  intro j hj
  rw [size_flatK] at hj
  have hk := Gd hn l.toArray
  have hu : (l.flatMap cells)[j]? = some ((flatK cells n l.toArray)[j]!) := by
    have : (flatK cells n l.toArray).toList[j]? = some ((flatK cells n l.toArray)[j]!) := by
      rw [getElem!_pos (flatK cells n l.toArray) j (by rw [size_flatK]; exact hj)]
      simp
    rw [hk] at this
    simpa using this
  refine ⟨?_, ?_⟩
  · have := h.ca rfl j _ hu
    rwa [Addr.add_lit] at this
  · rcases h with ⟨hv, _⟩ | ⟨g', o', cap', cur, hv, _, hh, _⟩
    · cases hv
    · simp only [Value.slice.injEq, Option.some.injEq, Addr.mk.injEq] at hv
      obtain ⟨⟨rfl, _, _⟩, _, _⟩ := hv
      have hM : Mb w g E cur.toList := by show _ = _; rw [hh]
      exact hM.frozen _
theorem No {F cur : Array Value} {m o : Nat} (hF : F.size = m) (hc : o + m ≤ cur.size) : ((putCells id o F cur).toList.drop o).take m = F.toList := by
  apply List.ext_getElem?
  intro t
  by_cases ht : t < m
  · rw [List.getElem?_take_of_lt ht, List.getElem?_drop, Array.getElem?_toList]
    simp only [putCells, Array.getElem?_mapIdx, id]
    rw [Array.getElem?_eq_getElem (show o + t < cur.size by omega), Option.map_some, if_pos ⟨Nat.le_add_right _ _, by omega⟩, Array.getElem?_toList, Nat.add_sub_cancel_left, getElem!_pos F t (by omega), Array.getElem?_eq_getElem (show t < F.size by omega)]
  · rw [List.getElem?_eq_none (by simp; omega), List.getElem?_eq_none (by simp; omega)]
theorem aau (hn : ∀ x, (cells x).length = n) {g o cap m q : Nat} {os : Array Obj} {d : Array α} (h : Own B E n cells w (.slice (some ⟨g, o, none⟩) m cap) l) (hd : d.size = l.length) :
    Own B E n cells (grow (putRowK cells n (Go.Sort.ahead w q) g o d) os) (.slice (some ⟨g, o, none⟩) m cap) d.toList := by
  rcases h with ⟨hv, _⟩ | ⟨g', o', cap', cur, hv, hB, hh, hc, hm, hs, ht⟩
  · cases hv
  · simp only [Value.slice.injEq, Option.some.injEq, Addr.mk.injEq] at hv
    obtain ⟨⟨rfl, rfl, _⟩, hml, rfl⟩ := hv
    have hlt : g < w.heap.size := (Array.getElem?_eq_some_iff.1 hh).1
    have hmn : d.size * n ≤ cap * n := by rw [hd]; exact Nat.mul_le_mul_right _ hc
    refine .inr ⟨g, o, cap, putCells id o (flatK cells n d) cur, by rw [Array.length_toList, hd, hml], hB, ?_, by rw [Array.length_toList, hd]; exact hc, hm, by simp [putCells, hs], ?_⟩
    · show ((putRowK cells n (Go.Sort.ahead w q) g o d).heap ++ os)[g]? = _
      rw [Array.getElem?_append_left (by rw [size_putRowK]; exact hlt)]
      show (w.heap.modify g _)[g]? = _
      rw [Array.getElem?_modify, if_pos rfl, hh]
      rfl
    · rw [Array.length_toList, No (by rw [size_flatK]) (by omega), Gd hn]
theorem acn {G : Nat → Prop} {g o q : Nat} {os : Array Obj} {d : Array α} (hg : G g) : Ext G w (grow (putRowK cells n (Go.Sort.ahead w q) g o d) os) :=
  ⟨rfl, rfl, rfl, by show _ ≤ ((putRowK cells n (Go.Sort.ahead w q) g o d).heap ++ os).size; rw [Array.size_append, size_putRowK]; exact Nat.le_add_right _ _,
    fun b hb hn => by
      show ((putRowK cells n (Go.Sort.ahead w q) g o d).heap ++ os)[b]? = _
      rw [Array.getElem?_append_left (by rw [size_putRowK]; exact hb)]
      show (w.heap.modify g _)[b]? = _
      rw [Array.getElem?_modify, if_neg (fun e : g = b => hn (e ▸ hg))],
    Nat.le_add_right _ _⟩
end
end Go.PL
namespace Go.PL.Mk
open Go Go.PL
structure Span where
  From : Int
  To : Int
instance : Inhabited Span := ⟨⟨0, 0⟩⟩
def Span.cells (x : Span) : List Go.Value := [.int .i64 x.From, .int .i64 x.To]
def Span.val (x : Span) : Go.Value := .agg #[.int .i64 x.From, .int .i64 x.To]
def Span.R : TyR Span := TyR.flat 2 Span.cells (fun _ => rfl)
def spans_clamp (s_ : Span) : Option Span :=
  some (⟨max s_.From 0, min s_.To 73049⟩ : Span)
def sort_Slice_120 (l : List Span) : Option (List Span) := a2i (fun x y => decide (x.From < y.From)) l
def spans_Make_j (x : Int) (rec_ : (Int × (List Span)) → Option (List Span)) (v2 : List Span) : Option (List Span) :=
  rec_ (i64 (x + 1), v2)
def spans_Make_j2 (x3 : Int) (rec_2 : ((List Span) × Int) → Option (List Span)) (x4 : List Span) : Option (List Span) :=
  rec_2 (x4, i64 (x3 + 1))
def spans_Make_l2 (z2 : List Span) (rec_2 : ((List Span) × Int) → Option (List Span)) : ((List Span) × Int) → Option (List Span)
  | (x2, x3) =>
  if decide (x3 < (z2.length : Int)) = true then
    Option.bind (av z2 x3) fun y2 => Option.bind (if decide (0 < (x2.length : Int)) = true then Option.bind (av x2 (i64 ((x2.length : Int) - 1))) fun y3 => some (decide (y2.From ≤ y3.To)) else some false) fun c => if c = true then
      Option.bind (av x2 (i64 ((x2.length : Int) - 1))) fun y4 => Option.bind (av x2 (i64 ((x2.length : Int) - 1))) fun y5 => spans_Make_j2 x3 rec_2 (uc x2 (i64 ((x2.length : Int) - 1)) ({ y5 with To := max y4.To y2.To } : Span))
    else
      Option.bind (m8 16 x2 [y2]) fun l2 => spans_Make_j2 x3 rec_2 l2
  else
    some x2
def spans_Make_l (d_ : List Span) (rec_ : (Int × (List Span)) → Option (List Span)) : (Int × (List Span)) → Option (List Span)
  | (x, v) =>
  if decide (x < (d_.length : Int)) = true then
    Option.bind (av d_ x) fun y => Option.bind (spans_clamp y) fun z => if decide (z.From < z.To) = true then
      Option.bind (m8 16 v [z]) fun l => spans_Make_j x rec_ l
    else
      spans_Make_j x rec_ v
  else
    Option.bind (sort_Slice_120 v) fun z2 => am FU (spans_Make_l2 z2) ([], 0)
def spans_Make (d_ : List Span) : Option (List Span) :=
  am FU (spans_Make_l d_) (0, [])
end Go.PL.Mk
namespace Go.Proofs
open Go.Shelf
def Tryz.sliceLay_ren : Go.Shelf.Ren := ⟨fun | 6 => 119 | 10 => 185 | 11 => 186 | 12 => 187 | 13 => 188 | 14 => 189 | 24 => 243 | 25 => 244 | 26 => 245 | 27 => 246 | 28 => 247 | 29 => 248 | 30 => 249 | 31 => 250 | 32 => 251 | 33 => 252 | 34 => 297 | 35 => 298 | 36 => 299 | 37 => 300 | 38 => 301 | 39 => 329 | n => n, fun | 20 => 20 | 26 => 131 | 35 => 215 | 0 => 0 | 37 => 217 | 3 => 3 | 41 => 220 | 44 => 223 | 49 => 281 | 51 => 283 | 4 => 4 | 54 => 286 | 53 => 285 | 58 => 46 | 5 => 5 | 9 => 9 | 60 => 316 | 64 => 320 | 66 => 337 | 67 => 105 | 17 => 17 | 32 => 212 | 33 => 213 | 82 => 372 | 12 => 12 | 75 => 365 | 76 => 366 | 77 => 367 | 78 => 368 | 79 => 369 | 80 => 370 | n => n, fun | n => n⟩
theorem Tryz.sliceLay : Go.Proofs.LaysGg.n6 Tryz.prog Tryz.sliceLay_ren := {
  mixed := by kernel_rfl
  f6 := Tryz.func119.trans (congrArg some (by kernel_rfl))
  f10 := Tryz.func185.trans (congrArg some (by kernel_rfl))
  f11 := Tryz.func186.trans (congrArg some (by kernel_rfl))
  f12 := Tryz.func187.trans (congrArg some (by kernel_rfl))
  f13 := Tryz.func188.trans (congrArg some (by kernel_rfl))
  f14 := Tryz.func189.trans (congrArg some (by kernel_rfl))
  f24 := Tryz.func243.trans (congrArg some (by kernel_rfl))
  f25 := Tryz.func244.trans (congrArg some (by kernel_rfl))
  f26 := Tryz.func245.trans (congrArg some (by kernel_rfl))
  f27 := Tryz.func246.trans (congrArg some (by kernel_rfl))
  f28 := Tryz.func247.trans (congrArg some (by kernel_rfl))
  f29 := Tryz.func248.trans (congrArg some (by kernel_rfl))
  f30 := Tryz.func249.trans (congrArg some (by kernel_rfl))
  f31 := Tryz.func250.trans (congrArg some (by kernel_rfl))
  f32 := Tryz.func251.trans (congrArg some (by kernel_rfl))
  f33 := Tryz.func252.trans (congrArg some (by kernel_rfl))
  f34 := Tryz.func297.trans (congrArg some (by kernel_rfl))
  f35 := Tryz.func298.trans (congrArg some (by kernel_rfl))
  f36 := Tryz.func299.trans (congrArg some (by kernel_rfl))
  f37 := Tryz.func300.trans (congrArg some (by kernel_rfl))
  f38 := Tryz.func301.trans (congrArg some (by kernel_rfl))
  f39 := Tryz.func329.trans (congrArg some (by kernel_rfl))
  t0 := Tryz.underlying0
  a0 := Tryz.isAgg0
  z0 := Tryz.sizeOf0
  v0 := Tryz.zeroValue0
  i0 := by kernel_rfl
  t3 := Tryz.underlying3
  a3 := Tryz.isAgg3
  z3 := Tryz.sizeOf3
  v3 := Tryz.zeroValue3
  i3 := by kernel_rfl
  t4 := Tryz.underlying4
  a4 := Tryz.isAgg4
  z4 := Tryz.sizeOf4
  v4 := Tryz.zeroValue4
  i4 := by kernel_rfl
  t5 := Tryz.underlying5
  a5 := Tryz.isAgg5
  z5 := Tryz.sizeOf5
  v5 := Tryz.zeroValue5
  i5 := by kernel_rfl
  t9 := Tryz.underlying9
  a9 := Tryz.isAgg9
  z9 := Tryz.sizeOf9
  v9 := Tryz.zeroValue9
  i9 := by kernel_rfl
  t12 := Tryz.underlying12
  a12 := Tryz.isAgg12
  z12 := Tryz.sizeOf12
  v12 := Tryz.zeroValue12
  i12 := by kernel_rfl
  t17 := Tryz.underlying17
  a17 := Tryz.isAgg17
  z17 := Tryz.sizeOf17
  v17 := Tryz.zeroValue17
  i17 := by kernel_rfl
  t20 := Tryz.underlying20
  a20 := Tryz.isAgg20
  z20 := Tryz.sizeOf20
  v20 := Tryz.zeroValue20
  i20 := by kernel_rfl
  t26 := Tryz.underlying131
  a26 := Tryz.isAgg131
  z26 := Tryz.sizeOf131
  v26 := Tryz.zeroValue131
  i26 := by kernel_rfl
  t32 := Tryz.underlying212
  a32 := Tryz.isAgg212
  z32 := Tryz.sizeOf212
  v32 := Tryz.zeroValue212
  i32 := by kernel_rfl
  t33 := Tryz.underlying213
  a33 := Tryz.isAgg213
  z33 := Tryz.sizeOf213
  v33 := Tryz.zeroValue213
  i33 := by kernel_rfl
  t35 := Tryz.underlying215
  a35 := Tryz.isAgg215
  z35 := Tryz.sizeOf215
  v35 := Tryz.zeroValue215
  i35 := by kernel_rfl
  t37 := Tryz.underlying217
  a37 := Tryz.isAgg217
  z37 := Tryz.sizeOf217
  v37 := Tryz.zeroValue217
  i37 := by kernel_rfl
  t41 := Tryz.underlying220
  a41 := Tryz.isAgg220
  z41 := Tryz.sizeOf220
  v41 := Tryz.zeroValue220
  i41 := by kernel_rfl
  t44 := Tryz.underlying223
  a44 := Tryz.isAgg223
  z44 := Tryz.sizeOf223
  v44 := Tryz.zeroValue223
  i44 := by kernel_rfl
  t49 := Tryz.underlying281
  a49 := Tryz.isAgg281
  z49 := Tryz.sizeOf281
  v49 := Tryz.zeroValue281
  i49 := by kernel_rfl
  t51 := Tryz.underlying283
  a51 := Tryz.isAgg283
  z51 := Tryz.sizeOf283
  v51 := Tryz.zeroValue283
  i51 := by kernel_rfl
  t53 := Tryz.underlying285
  a53 := Tryz.isAgg285
  z53 := Tryz.sizeOf285
  v53 := Tryz.zeroValue285
  i53 := by kernel_rfl
  t54 := Tryz.underlying286
  a54 := Tryz.isAgg286
  z54 := Tryz.sizeOf286
  v54 := Tryz.zeroValue286
  i54 := by kernel_rfl
  t58 := Tryz.underlying46
  a58 := Tryz.isAgg46
  z58 := Tryz.sizeOf46
  v58 := Tryz.zeroValue46
  i58 := by kernel_rfl
  t60 := Tryz.underlying316
  a60 := Tryz.isAgg316
  z60 := Tryz.sizeOf316
  v60 := Tryz.zeroValue316
  i60 := by kernel_rfl
  t64 := Tryz.underlying320
  a64 := Tryz.isAgg320
  z64 := Tryz.sizeOf320
  v64 := Tryz.zeroValue320
  i64 := by kernel_rfl
  t66 := Tryz.underlying337
  a66 := Tryz.isAgg337
  z66 := Tryz.sizeOf337
  v66 := Tryz.zeroValue337
  i66 := by kernel_rfl
  t67 := Tryz.underlying105
  a67 := Tryz.isAgg105
  z67 := Tryz.sizeOf105
  v67 := Tryz.zeroValue105
  i67 := by kernel_rfl
  t75 := Tryz.underlying365
  a75 := Tryz.isAgg365
  z75 := Tryz.sizeOf365
  v75 := Tryz.zeroValue365
  i75 := by kernel_rfl
  t76 := Tryz.underlying366
  a76 := Tryz.isAgg366
  z76 := Tryz.sizeOf366
  v76 := Tryz.zeroValue366
  i76 := by kernel_rfl
  t77 := Tryz.underlying367
  a77 := Tryz.isAgg367
  z77 := Tryz.sizeOf367
  v77 := Tryz.zeroValue367
  i77 := by kernel_rfl
  t78 := Tryz.underlying368
  a78 := Tryz.isAgg368
  z78 := Tryz.sizeOf368
  v78 := Tryz.zeroValue368
  i78 := by kernel_rfl
  t79 := Tryz.underlying369
  a79 := Tryz.isAgg369
  z79 := Tryz.sizeOf369
  v79 := Tryz.zeroValue369
  i79 := by kernel_rfl
  t80 := Tryz.underlying370
  a80 := Tryz.isAgg370
  z80 := Tryz.sizeOf370
  v80 := Tryz.zeroValue370
  i80 := by kernel_rfl
  t82 := Tryz.underlying372
  a82 := Tryz.isAgg372
  z82 := Tryz.sizeOf372
  v82 := Tryz.zeroValue372
  i82 := by kernel_rfl }
end Go.Proofs
namespace Go.Proofs
open Go.Shelf Go.RowKit Go.Lib Go.Sort
noncomputable def Tryz.spT : TypeInfo := (Tryz.prog.info? 49).get (by kernel_rfl)
noncomputable def Tryz.spE : TypeInfo := (Tryz.prog.info? 53).get (by kernel_rfl)
theorem Tryz.spK (n : Nat) (h2 : 2 ≤ n) : Lib.swapperK n Tryz.spE 25 = 9 := by
  have a : Tryz.spE.hasPointers = false := by kernel_rfl
  have b : Tryz.spE.bytes = 16 := by kernel_rfl
  have c : (n == 0) = false := by simp; omega
  have d : (n == 1) = false := by simp; omega
  simp [Lib.swapperK, a, b, c, d]
set_option maxHeartbeats 2000000 in
theorem Tryz.spLess (blk off c Bs size : Nat) (W : World) (G : Nat → Int) (hs : W.cell? ⟨Bs, 0, none⟩ = some (.slice (some ⟨blk, off, none⟩) size c))
    (hc : ∀ t, t < size → W.cell? ⟨blk, off + t * 2, none⟩ = some (.int .i64 (G t))) (i j : Nat) (hi : i < size) (hj : j < size) (_hsz : size < 4611686018427387904) :
    Calls Tryz.prog 120 #[.int .i64 i, .int .i64 j, .pointer (some ⟨Bs, 0, none⟩)] W fun e w' => e = .returned (.bool (decide (G i < G j))) ∧ ∃ q, w' = W.drewN q := by
  have ci := hc i hi
  have cj := hc j hj
  go_enter Tryz.func120, Tryz.ntmps120
  go_wp2
  go_quiet (fail)
  go_wp2
  go_ret
  exact ⟨rfl, nq, rfl⟩
end Go.Proofs
namespace Go.PL.Mk
open Go Go.PL Go.Proofs Go.Sort
theorem Wy : SWO (fun x y : Span => decide (x.From < y.From)) := by
  constructor
  · intro x; simp
  · intro x y z; simp only [decide_eq_true_eq]; omega
  · intro x y z; simp only [decide_eq_false_iff_not]; omega
set_option maxHeartbeats 2000000 in
theorem Fj {w0 : World} (l : List Span) {v : Value} {B bc : Nat} (hO : Own B 53 2 Span.cells w0 v l) (hb : Mb w0 bc 49 [v]) (hnb : Value.ownBlock v ≠ some bc) {r : List Span} (hF : sort_Slice_120 l = some r) :
    Calls Tryz.prog 119 #[.iface 49 v, .func (.func 120) #[] #[.pointer (some ⟨bc, 0, none⟩)]] w0 fun e w1 => e = .returned (.tuple #[]) ∧ Ext (fun b => Value.ownBlock v = some b) w0 w1 ∧ Own B 53 2 Span.cells w1 v r := by
  unfold sort_Slice_120 a2i at hF
  by_cases h1 : l.length ≤ 1
  · rw [if_pos h1] at hF
    obtain rfl := Option.some.inj hF
    obtain ⟨a, cap, hv, _, _⟩ := hO.shape
    have key : ∀ n, l.length = n → Calls Tryz.prog 119 #[.iface 49 (.slice a n cap), .func (.func 120) #[] #[.pointer (some ⟨bc, 0, none⟩)]] w0 (fun e w' => e = .returned (.tuple #[]) ∧ ∃ os, w' = Go.Sort.grow w0 os) →
        Calls Tryz.prog 119 #[.iface 49 v, .func (.func 120) #[] #[.pointer (some ⟨bc, 0, none⟩)]] w0 fun e w1 => e = .returned (.tuple #[]) ∧ Ext (fun b => Value.ownBlock v = some b) w0 w1 ∧ Own B 53 2 Span.cells w1 v l := by
      intro n hn h
      rw [hn] at hv
      rw [← hv] at h
      refine Calls.mono h ?_
      rintro e w1 ⟨rfl, os, rfl⟩
      have hE : Ext noG w0 (Go.Sort.grow w0 os) := ⟨rfl, rfl, rfl, by show _ ≤ (w0.heap ++ os).size; simp, fun b hb _ => by show (w0.heap ++ os)[b]? = _; rw [Array.getElem?_append_left hb], Nat.le_refl _⟩
      exact ⟨rfl, hE.of_no, hO.exn hE⟩
    rcases (show l.length = 0 ∨ l.length = 1 by omega) with h0 | h0
    · exact key 0 h0 (Any.sort_Slice_tiny Tryz.sliceLay 49 53 Tryz.spT Tryz.spE (by kernel_rfl) (by kernel_rfl) (by kernel_rfl) (by kernel_rfl) 25 (fun _ => by kernel_rfl) a 0 cap (by omega) 234 (by kernel_rfl) (.func 120) #[] #[.pointer (some ⟨bc, 0, none⟩)] w0)
    · exact key 1 h0 (Any.sort_Slice_tiny Tryz.sliceLay 49 53 Tryz.spT Tryz.spE (by kernel_rfl) (by kernel_rfl) (by kernel_rfl) (by kernel_rfl) 25 (fun _ => by kernel_rfl) a 1 cap (by omega) 235 (by kernel_rfl) (.func 120) #[] #[.pointer (some ⟨bc, 0, none⟩)] w0)
  · rw [if_neg h1] at hF
    split at hF
    case isFalse => cases hF
    rename_i hsz
    obtain rfl := Option.some.inj hF
    obtain ⟨a, cap, hv, hlc, hcm⟩ := hO.shape
    cases a with
    | none =>
      exfalso
      rcases hO with ⟨_, h⟩ | ⟨g, o, c', cur, hv', _⟩
      · rw [h] at h1; simp at h1
      · rw [hv] at hv'; cases hv'
    | some ad =>
      obtain ⟨g, o, hg⟩ : ∃ g o, ad = ⟨g, o, none⟩ := by
        rcases hO with ⟨h, _⟩ | ⟨g, o, c', cur, hv', _⟩
        · rw [hv] at h; cases h
        · rw [hv] at hv'; cases hv'; exact ⟨g, o, rfl⟩
      subst hg
      subst hv
      have hlt : g < w0.heap.size := (hO.lt rfl).2
      have hbg : bc ≠ g := fun e => hnb (by rw [e]; rfl)
      have hcell : w0.cell? ⟨bc, 0, none⟩ = some (.slice (some ⟨g, o, none⟩) l.toArray.size cap) := hb.ca 0 _ rfl
      have hH := a16 (n := 2) (cells := Span.cells) (fun _ => rfl) hO
      have h2 : 2 ≤ l.toArray.size := by rw [List.size_toArray]; omega
      have hsz' : l.toArray.size < 4611686018427387904 := by rw [List.size_toArray]; exact hsz
      have hless : LessReadsK Tryz.prog 120 #[.pointer (some ⟨bc, 0, none⟩)] Span.cells 2 (fun x y : Span => decide (x.From < y.From)) g o l.toArray.size w0 := by
        intro m os dk hs i j hi hj
        have e : sortWorldK Span.cells 2 w0 g o m dk os = putRowK Span.cells 2 (grow (Go.Sort.ahead w0 m) os) g o dk := by
          unfold sortWorldK; rw [putRowK_grow _ _ (Go.Sort.ahead w0 m) _ g o _ hlt]
        have hHg : HoldsK Span.cells 2 (grow (Go.Sort.ahead w0 m) os) g o l.toArray := holdsK_grow _ _ _ _ g o _ hlt (holdsK_ahead _ _ _ _ _ _ _ hH)
        refine Tryz.spLess g o cap bc l.toArray.size _ (fun t => dk[t]!.From) ?_ (fun t ht => ?_) i j hi hj (by omega)
        · rw [e, cell?_putRowK_other _ _ _ g o dk _ (by exact hbg), cell?_grow _ _ _ (by exact hb.lt)]; exact hcell
        · rw [e]; exact ((holdsK_putRowK _ _ _ g o l.toArray dk hHg hs).cell (i := t) (c := 0) (by omega) (by omega)).1
      have hS := Any.sort_Slice_cells_eq Tryz.sliceLay 49 53 Tryz.spT Tryz.spE (by kernel_rfl) (by kernel_rfl) (by kernel_rfl) (by kernel_rfl) 25 (fun _ => by kernel_rfl) Span.cells 2 (fun _ => rfl) (by kernel_rfl) (fun _ => by kernel_rfl)
        (fun x u hu => by simp [Span.cells] at hu; rcases hu with rfl | rfl <;> rfl) (fun x y : Span => decide (x.From < y.From)) Wy 120 _
        (enters_of Tryz.func120 (by kernel_rfl) rfl) g o cap l.toArray h2 hsz' 242 (by rw [Tryz.spK _ h2]; kernel_rfl) false
        (fun args W => run_callFunc_extern Tryz.func242 (by kernel_rfl) (by kernel_rfl) (by kernel_rfl) (e := Extern.ReflectliteSwapper.swap false) (by kernel_rfl) args W) w0 hless hH hlt
      have hp := (pdq_sorts (fun x y : Span => decide (x.From < y.From)) Wy l.toArray 0 l.toArray.size (Lib.bitLen l.toArray.size) true true (Nat.zero_le _) (Nat.le_refl _) (Or.inl rfl)).1.1
      rw [List.size_toArray] at hS hp
      generalize pdq (fun x y : Span => decide (x.From < y.From)) l.toArray 0 l.length (Lib.bitLen l.length) true true = d at hS hp ⊢
      refine Calls.mono hS ?_
      rintro e w1 ⟨rfl, q, os, rfl⟩
      exact ⟨rfl, acn rfl, aau (n := 2) (cells := Span.cells) (fun _ => rfl) hO hp⟩
end Go.PL.Mk
namespace Go.PL.Mk
open Go Go.PL Go.Proofs
theorem mixed : Tryz.prog.follows .mixedOrders = true := by kernel_rfl
theorem ahy (x : Span) (w : World) : (Instr.box 53 (Span.val x)).run Tryz.prog w = .ok (.pointer (some ⟨w.heap.size, 0, none⟩)) (w.alloc (.cells ((Span.cells x)).toArray 53)) := by kernel_rfl
theorem abv (w : World) : (Instr.alloc 53 true (.tuple #[])).run Tryz.prog w = .ok (.pointer (some ⟨w.heap.size, 0, none⟩)) (w.alloc (.cells ((Span.cells (⟨0, 0⟩ : Span))).toArray 53)) := by kernel_rfl
theorem Tq (a : Addr) (w : World) : (Instr.fieldAt 53 (.pointer (some a)) 0).run Tryz.prog w = .ok (.pointer (some (a.add 0))) w := by kernel_rfl
theorem aak (a : Addr) (w : World) : (Instr.loadAt 3 (.pointer (some a))).run Tryz.prog w = (load a).run Tryz.prog w := by kernel_rfl
theorem Ff (a : Addr) (w : World) : (Instr.fieldAt 53 (.pointer (some a)) 1).run Tryz.prog w = .ok (.pointer (some (a.add 1))) w := by kernel_rfl
theorem a38 (x0 : Int) (x1 : Int) (w : World) : (Instr.build 53 #[(0, .int .i64 x0), (1, .int .i64 x1)]).run Tryz.prog w = .ok (Span.val ⟨x0, x1⟩) w := by kernel_rfl
theorem a6i (x : Span) (a : Addr) (w : World) : (Instr.storeAt 53 (.pointer (some a)) (Span.val x)).run Tryz.prog w = (storeCells a (Span.cells x)).run Tryz.prog w := by kernel_rfl
theorem Lv (x : Span) : ∀ u ∈ (Span.cells x), u.oneCell' = true := by simp [Value.oneCell', Span.cells]; try exact rfl
theorem Zt (a : Addr) (w : World) : (Instr.loadAt 53 (.pointer (some a))).run Tryz.prog w = ((do pure (.agg (← loadCells a 2))) : Sem Value).run Tryz.prog w := by kernel_rfl
theorem aaz (a : Addr) (w : World) : (Instr.loadAt 49 (.pointer (some a))).run Tryz.prog w = (load a).run Tryz.prog w := by kernel_rfl
theorem a45 {a : Addr} {n c : Nat} {i : Int} {w : World} (h : 0 ≤ i ∧ i < (n : Int)) : (Instr.indexAt 49 (.slice (some a) n c) (.int .i64 i)).run Tryz.prog w = .ok (.pointer (some (a.add (i.toNat * 2)))) w := H3 (e := 53) (by kernel_rfl) (by kernel_rfl) h
theorem agr (w : World) : (Instr.alloc 49 true (.tuple #[])).run Tryz.prog w = .ok (.pointer (some ⟨w.heap.size, 0, none⟩)) (w.alloc (.cells ([Value.slice none 0 0]).toArray 49)) := by kernel_rfl
theorem a2h {a : Option Addr} {n c : Nat} {ty : TypeId} {w : World} : (Builtin.len_ #[49] ty #[.slice a n c]).run Tryz.prog w = .ok (.int .i64 n) w := by kernel_rfl
theorem aex (args : Array Value) (w : World) : (callFunc 118 args).run Tryz.prog w = .ok (.enter 118 args) w := by kernel_rfl
theorem a25 (x0 : Span) (w : World) : (Instr.buildSlice 49 1 #[(0, Span.val x0)]).run Tryz.prog w = .ok (.slice (some ⟨w.heap.size, 0, none⟩) 1 1) (w.alloc (.cells (([x0]).flatMap Span.cells).toArray 53)) := by kernel_rfl
theorem afw : Tryz.prog.underlying 49 = some (.slice 53) := by kernel_rfl
theorem af9 : (Tryz.prog.info? 53).map (fun i => (i.zero.map (·.cells.size), i.size, i.bytes)) = some (some 2, 2, 16) := by kernel_rfl
theorem aeu {v : Value} (h : ∃ a n c, v = Value.slice a n c) (a : Addr) (w : World) : (Instr.storeAt 49 (.pointer (some a)) v).run Tryz.prog w = (storeCells a [v]).run Tryz.prog w := by
  obtain ⟨_, _, _, rfl⟩ := h
  kernel_rfl
theorem ago {v : Value} (w : World) : (Instr.makeInterface 49 v).run Tryz.prog w = .ok (.iface 49 v) w := by kernel_rfl
theorem afy (args : Array Value) (w : World) : (callFunc 119 args).run Tryz.prog w = .ok (.enter 119 args) w := by kernel_rfl
theorem st_3 (x : Int) (a : Addr) (w : World) : (Instr.storeAt 3 (.pointer (some a)) (.int .i64 x)).run Tryz.prog w = (storeCells a [Value.int .i64 x]).run Tryz.prog w := by kernel_rfl
theorem ahg (x : Int) : ∀ u ∈ [Value.int .i64 x], u.oneCell' = true := by simp [Value.oneCell']; try exact rfl
end Go.PL.Mk
namespace Go.PL.Mk
open Go Go.PL Go.Proofs
set_option maxHeartbeats 4000000 in
theorem L7 {w0 : World} (s_ : Span) {r : Span} (hF : spans_clamp s_ = some r) :
    Calls Tryz.prog 118 #[Span.val s_] w0 fun e w1 => e = .returned (Span.val r) ∧ Ext noG w0 w1 := by
  refine (Calls.start (P := Tryz.prog) (args := [Span.val s_]) (R := fun v w1 => v = Span.val r ∧ Ext noG w0 w1) (n := 10) (w := w0) Tryz.func118 rfl rfl (Nat.le_of_ble_eq_true rfl) (fun ρ hargs => ?_)).mono (fun e w1 ⟨v, he, hv, hE⟩ => ⟨hv ▸ he, hE⟩)
  have h0 := hargs 0 _ rfl
  have hW := Ext.refl noG w0
  rw [spans_clamp] at hF
  refine WP.seq (WP.regionN mixed ⟨[[], []], [[], []], [[0], []], [], [], [(0, 1), (1, 2)], []⟩ [(1, fun u wz => ∃ b, u = .pointer (some ⟨b, 0, none⟩) ∧ w0.heap.size ≤ b ∧ Mb wz b 53 (Span.cells s_)), (2, fun u wz => ∃ b, u = .pointer (some ⟨b, 0, none⟩) ∧ w0.heap.size ≤ b ∧ Mb wz b 53 (Span.cells (⟨0, 0⟩ : Span)))] (fun b => w0.heap.size ≤ b) (by kernel_rfl) (.inr (fun _ h => h)) ⟨Fk.box, Fk.box, trivial⟩ ⟨fun ρz wz hE hA ⟨e0, _⟩ _ => Rr rfl rfl rfl hE (agz (e0.trans h0) (ahy _ _)),
 fun ρz wz hE hA _ _ => Rr rfl rfl rfl hE (Nr (abv _)), trivial⟩ ?_)
  intro ρ1 w1 hE hN hf hr hdist
  have hN := hE.fresh
  obtain ⟨b1_, h1, hge_b1_, Hb_b1_⟩ := hf 0 rfl
  obtain ⟨b2_, h2, hge_b2_, Hb_b2_⟩ := hf 1 rfl
  have hB_b1_ : w0.heap.size ≤ b1_ := Nat.le_trans hW.size hge_b1_
  have hB_b2_ : w0.heap.size ≤ b2_ := Nat.le_trans hW.size hge_b2_
  have hne_b1__b2_ : b1_ ≠ b2_ := fun h => hdist (0, 1) (by simp) (1, 2) (by simp) (by decide) b1_ (by rw [h1]; rfl) (by rw [h2, h]; rfl)
  have hW := hW.trans hN
  refine WP.seq (WP.region mixed [[], [0], [1], [], [3], [4], [2, 5], [1, 4, 6]] [[], [0], [1], [], [3], [4], [2, 5], [6]] [[1], [], [], [1], [], [], [], [2]] [7] [] [val 3 (.pointer (some ((⟨b1_, 0, none⟩ : Addr).add 0))), val 4 (.int .i64 s_.From), val 5 (.int .i64 (max s_.From 0)), val 6 (.pointer (some ((⟨b1_, 0, none⟩ : Addr).add 1))), val 7 (.int .i64 s_.To), val 8 (.int .i64 (min s_.To 73049)), val 9 (Span.val (⟨max s_.From 0, min s_.To 73049⟩ : Span)), (2, fun _ wz => Mb wz b2_ 53 (Span.cells (⟨max s_.From 0, min s_.To 73049⟩ : Span)))] (fun x => x = b2_) (by kernel_rfl) ⟨sV, sV, sV, sV, sV, sV, sV, fun _ _ _ hE hM => hM.exn hE, trivial⟩ ⟨fun ρz wz hE hA ⟨e1, _⟩ _ => az rfl rfl (jf (e1.trans h1) (Tq _ _)),
 fun ρz wz hE hA _ ⟨u0, _⟩ => az rfl rfl (wm u0 (od (aak _ _) (CA.sub ((Hb_b1_.exn (hA rfl)).ca) 0 1))),
 fun ρz wz hE hA _ ⟨u1, _⟩ => az rfl rfl (a3k u1 rfl),
 fun ρz wz hE hA ⟨e1, _⟩ _ => az rfl rfl (jf (e1.trans h1) (Ff _ _)),
 fun ρz wz hE hA _ ⟨u3, _⟩ => az rfl rfl (wm u3 (od (aak _ _) (CA.sub ((Hb_b1_.exn (hA rfl)).ca) 1 1))),
 fun ρz wz hE hA _ ⟨u4, _⟩ => az rfl rfl (aa7 u4 rfl),
 fun ρz wz hE hA _ ⟨u2, u5, _⟩ => az rfl rfl (V1 (Tl u2 u5) (a38 _ _ _)),
 fun ρz wz hE hA ⟨e2, _⟩ ⟨u6, _⟩ => Dj rfl rfl (fun _ h => h) (e2.trans h2) u6 (Hb_b2_.exn (hA rfl)) (fun a w => a6i _ a w) rfl (Lv _), trivial⟩ ?_)
  intro ρ2 w2 hE hN hf hr
  have h2 := (hr 2 rfl).trans h2
  have Hb_b2_n := hf 7 rfl
  have hW := Ext.own hW hE (fun x h => h.symm ▸ hB_b2_)
  have Hb_b2_ := Hb_b2_n
  refine WP.ret ?_
  show ab4 Tryz.prog 10 Tryz.f118 (fun v w1 => v = Span.val r ∧ Ext noG w0 w1) .ret ρ2 w2
  obtain rfl := Option.some.inj hF
  exact resC rfl (by decide) h2 (we (cs := (Span.cells (⟨max s_.From 0, min s_.To 73049⟩ : Span))) (Zt _ _) rfl Hb_b2_.ca) ⟨rfl, hW⟩
set_option maxHeartbeats 4000000 in
theorem spans_Make_ok {w0 : World} (d_ : List Span) {v_d_ : Value} (H_d_ : bp Span.R noG w0 v_d_ d_) {r : (List Span)} (hF : spans_Make d_ = some r) :
    Calls Tryz.prog 62 #[v_d_] w0 fun e w1 => ∃ v, e = .returned v ∧ Ext noG w0 w1 ∧ Own w0.heap.size 53 2 Span.cells w1 v r := by
  refine (Calls.start (P := Tryz.prog) (args := [v_d_]) (R := fun v w1 => Own w0.heap.size 53 2 Span.cells w1 v r ∧ Ext noG w0 w1) (n := 73) (w := w0) Tryz.func62 rfl rfl (Nat.le_of_ble_eq_true rfl) (fun ρ hargs => ?_)).mono (fun e w1 ⟨v, he, hv, hE⟩ => ⟨v, he, hE, hv⟩)
  have h0 := hargs 0 _ rfl
  have hW := Ext.refl noG w0
  obtain ⟨_, _, hs_H_d_, _, _⟩ := bp.shape H_d_
  have H_d_ := H_d_.start
  rw [spans_Make] at hF
  refine WP.seq (WP.rb mixed [[]] [[]] [(2, .slice none 0 0)] (by kernel_rfl) ⟨aC rfl rfl (fun _ => rfl), trivial⟩ ?_)
  intro ρ1 w1 hN hf hr
  have h0 := (hr 0 rfl).trans h0
  have H_d_ := H_d_.exn hN
  have hW := hW.trans hN
  refine WP.seq (WP.rg mixed [[]] [[]] [[]] [(3, fun u wz => ∃ b, u = .pointer (some ⟨b, 0, none⟩) ∧ w1.heap.size ≤ b ∧ Mb wz b 49 [Value.slice none 0 0])] (by kernel_rfl) ⟨fun _ _ _ hE ⟨b, hb, hs, hM⟩ => ⟨b, hb, hs, hM.exn hE⟩, trivial⟩ ⟨fun ρz wz hE hA _ _ => Nu rfl rfl hE (Nr (agr _)), trivial⟩ ?_)
  intro ρ2 w2 hN hf hr
  obtain ⟨b3_, h3, hge_b3_, Hb_b3_⟩ := hf 0 rfl
  have h0 := (hr 0 rfl).trans h0
  have H_d_ := H_d_.exn hN
  have hB_b3_ : w0.heap.size ≤ b3_ := Nat.le_trans hW.size hge_b3_
  have hW := hW.trans hN
  have OB_b3_ : Own w0.heap.size 53 2 Span.cells w2 (.slice none 0 0) [] := Own.nil _ _ _ _ _
  have hnb_OB_b3__b3_ : Value.ownBlock (.slice none 0 0) ≠ some b3_ := by simp [Value.ownBlock]
  refine WP.seq (WP.seq (WP.rb mixed [[], [0], []] [[0], [], []] [(10, v_d_), (11, .int .i64 (d_.length : Int)), (12, .int .i64 0)] (by kernel_rfl) ⟨mE rfl rfl h0,
 fun ρz wz hE hA _ ⟨u0, _⟩ => az rfl rfl (a1k (u0.trans hs_H_d_) a2h),
 mC rfl rfl (fun _ => rfl), trivial⟩ ?_))
  intro ρ3 w3 hN hf hr
  have h10 := hv hf 0 rfl rfl
  have h11 := hv hf 1 rfl rfl
  have h12 := hv hf 2 rfl rfl
  have h3 := (hr 3 rfl).trans h3
  have Oo_OB_b3_ := OB_b3_
  have Hb_b3_n := Hb_b3_.exn hN
  have H_d_ := H_d_.exn hN
  have hW := hW.trans hN
  have OB_b3_ : Own w0.heap.size 53 2 Span.cells w3 (.slice none 0 0) [] := Own.nil _ _ _ _ _
  have hnb_OB_b3__b3_ : Value.ownBlock (.slice none 0 0) ≠ some b3_ := by simp [Value.ownBlock]
  have Hb_b3_ := Hb_b3_n
  refine WP.block (WP.loop (fun k_ ρ w => ∃ x : Int, ∃ v : List Span, ∃ vh_ : Value, ρ 3 = .pointer (some ⟨b3_, 0, none⟩) ∧ ρ 10 = v_d_ ∧ ρ 11 = .int .i64 (d_.length : Int) ∧ ρ 12 = .int .i64 x ∧ Mb w b3_ 49 [vh_] ∧ bp Span.R (gfr noG w0) w v_d_ d_ ∧ Own w0.heap.size 53 2 Span.cells w vh_ v ∧ Value.ownBlock vh_ ≠ some b3_ ∧ Ext noG w0 w ∧ am k_ (spans_Make_l d_) (x, v) = some r) FU ⟨0, [], .slice none 0 0, h3, h10, h11, h12, Hb_b3_, H_d_, OB_b3_, hnb_OB_b3__b3_, hW, hF⟩ (fun _ _ h => by obtain ⟨_, _, _, _, _, _, _, _, _, _, _, _, h⟩ := h; cases h) ?_)
  rintro k_ ρ4 w4 ⟨x, v, vh_, h3, h10, h11, h12, Hb_b3_, H_d_, OB_b3_, hnb_OB_b3__b3_, hW, hF⟩
  have hF : spans_Make_l d_ (am k_ (spans_Make_l d_)) (x, v) = some r := hF
  generalize hrec_ : am k_ (spans_Make_l d_) = rec_ at hF
  rw [spans_Make_l] at hF
  refine WP.seq (WP.rb mixed [[]] [[12, 11]] [(13, .bool (decide (x < (d_.length : Int))))] (by kernel_rfl) ⟨fun ρz wz hE hA ⟨e12, e11, _⟩ _ => az rfl rfl (a7e (e12.trans h12) (e11.trans h11) rfl), trivial⟩ ?_)
  intro ρ5 w5 hN hf hr
  have h13 := hv hf 0 rfl rfl
  obtain ⟨h3, h10, h11, h12⟩ := k4 hr h3 h10 h11 h12 rfl
  have Oo_OB_b3_ := OB_b3_
  have Hb_b3_n := Hb_b3_.exn hN
  have H_d_ := H_d_.exn hN
  have hW := hW.trans hN
  have OB_b3_ := Oo_OB_b3_.exn hN
  have Hb_b3_ := Hb_b3_n
  refine WP.seq (WP.cond rfl h13 (fun hb => ?_) (fun hb => ?_))
  · have hF := (if_pos hb).symm.trans hF
    refine WP.skip (WP.seqJ (fun ρ w => ∃ v2 : List Span, ∃ vh_2 : Value, ρ 3 = .pointer (some ⟨b3_, 0, none⟩) ∧ ρ 10 = v_d_ ∧ ρ 11 = .int .i64 (d_.length : Int) ∧ ρ 12 = .int .i64 x ∧ Mb w b3_ 49 [vh_2] ∧ bp Span.R (gfr noG w0) w v_d_ d_ ∧ Own w0.heap.size 53 2 Span.cells w vh_2 v2 ∧ Value.ownBlock vh_2 ≠ some b3_ ∧ Ext noG w0 w ∧ spans_Make_j x rec_ v2 = some r) ?_ ?_)
    · refine WP.block (WP.seq ?_)
      obtain ⟨y, hy, hF⟩ := Gt hF
      obtain ⟨ay, cy, hvy, hiy, hAy⟩ := bp.getF H_d_ hy
      refine WP.region mixed [[], [0], [], [1, 2]] [[], [0], [], [1, 2]] [[10, 12], [], [], []] [3] [(2, 3)] [val 14 (.pointer (some (ay.add (Int.toNat x * 2)))), val 15 (Span.val y), (5, fun u wz => ∃ b, u = .pointer (some ⟨b, 0, none⟩) ∧ w5.heap.size ≤ b ∧ Mb wz b 53 (Span.cells (⟨0, 0⟩ : Span))), (5, fun u wz => ∃ b, u = .pointer (some ⟨b, 0, none⟩) ∧ w5.heap.size ≤ b ∧ Mb wz b 53 (Span.cells y))] (fun b => w5.heap.size ≤ b) (by kernel_rfl) ⟨sV, sV, fun _ _ _ hE ⟨b, hb, hs, hM⟩ => ⟨b, hb, hs, hM.exn hE⟩, fun _ _ _ hE ⟨b, hb, hs, hM⟩ => ⟨b, hb, hs, hM.exn hE⟩, trivial⟩ ⟨fun ρz wz hE hA ⟨e10, e12, _⟩ _ => az rfl rfl (ns ((e10.trans h10).trans hvy) (e12.trans h12) (a45 hiy)),
 fun ρz wz hE hA _ ⟨u0, _⟩ => az rfl rfl (wm u0 (we (cs := (Span.cells y)) (Zt _ _) rfl ((hAy.exn hE.fresh).ca))),
 fun ρz wz hE hA _ _ => Nu rfl rfl hE (Nr (abv _)),
 fun ρz wz hE hA _ ⟨u1, u2, _⟩ => El rfl rfl rfl rfl u1 u2 (fun a w => a6i _ a w) rfl (Lv _), trivial⟩ ?_
      intro ρ8 w8 hE hN hf hr
      have hN := hE.fresh
      obtain ⟨b5_, h5, hge_b5_, Hb_b5_⟩ := hf 3 rfl
      obtain ⟨h3, h10, h11, h12⟩ := k4 hr h3 h10 h11 h12 rfl
      have Oo_OB_b3_ := OB_b3_
      have Hb_b3_n := Hb_b3_.exn hN
      have H_d_ := H_d_.exn hN
      have hB_b5_ : w0.heap.size ≤ b5_ := Nat.le_trans hW.size hge_b5_
      have hne_b3__b5_ : b3_ ≠ b5_ := Nat.ne_of_lt (Nat.lt_of_lt_of_le Hb_b3_.lt hge_b5_)
      have hW := hW.trans hN
      have OB_b3_ := Oo_OB_b3_.exn hN
      have hnb_OB_b3__b5_ : Value.ownBlock vh_ ≠ some b5_ := fun h => absurd (Oo_OB_b3_.lt h).2 (Nat.not_lt.2 hge_b5_)
      have Hb_b3_ := Hb_b3_n
      refine WP.seq ?_
      obtain ⟨z, hz, hF⟩ := Gt hF
      refine WP.region mixed [[], [0], [0, 1]] [[], [0], [1]] [[5], [], [5]] [2] [] [val 16 (Span.val y), val 17 (Span.val z), (5, fun _ wz => Mb wz b5_ 53 (Span.cells z))] (fun x => x = b5_) (by kernel_rfl) ⟨sV, sV, fun _ _ _ hE hM => hM.exn hE, trivial⟩ ⟨fun ρz wz hE hA ⟨e5, _⟩ _ => az rfl rfl (wm (e5.trans h5) (we (cs := (Span.cells y)) (Zt _ _) rfl ((Hb_b5_.exn (hA rfl)).ca))),
 fun ρz wz hE hA _ ⟨u0, _⟩ => a1s rfl (Lm u0) aex (L7  _  hz),
 fun ρz wz hE hA ⟨e5, _⟩ ⟨u1, _⟩ => Dj rfl rfl (fun _ h => h) (e5.trans h5) u1 (Hb_b5_.exn (hA rfl)) (fun a w => a6i _ a w) rfl (Lv _), trivial⟩ ?_
      intro ρ9 w9 hE hN hf hr
      obtain ⟨h3, h10, h11, h12, h5⟩ := k5 hr h3 h10 h11 h12 h5 rfl
      have Oo_OB_b3_ := OB_b3_
      have Hb_b3_n := Hb_b3_.ext hE (fun h => hne_b3__b5_ h)
      have Hb_b5_n := hf 2 rfl
      have H_d_ := H_d_.over hE (fun b hb => hb.symm ▸ hB_b5_)
      have hW := Ext.own hW hE (fun x h => h.symm ▸ hB_b5_)
      have OB_b3_ := Oo_OB_b3_.ext hE (fun b hb hg => hnb_OB_b3__b5_ (hg ▸ hb))
      have Hb_b3_ := Hb_b3_n
      have Hb_b5_ := Hb_b5_n
      refine WP.seq (WP.rb mixed [[], [0], [], [2], [1, 3]] [[5], [], [5], [], []] [(18, .pointer (some ((⟨b5_, 0, none⟩ : Addr).add 0))), (19, .int .i64 z.From), (20, .pointer (some ((⟨b5_, 0, none⟩ : Addr).add 1))), (21, .int .i64 z.To), (22, .bool (decide (z.From < z.To)))] (by kernel_rfl) ⟨fun ρz wz hE hA ⟨e5, _⟩ _ => az rfl rfl (jf (e5.trans h5) (Tq _ _)),
 fun ρz wz hE hA _ ⟨u0, _⟩ => az rfl rfl (wm u0 (od (aak _ _) (CA.sub ((Hb_b5_.exn (hA rfl)).ca) 0 1))),
 fun ρz wz hE hA ⟨e5, _⟩ _ => az rfl rfl (jf (e5.trans h5) (Ff _ _)),
 fun ρz wz hE hA _ ⟨u2, _⟩ => az rfl rfl (wm u2 (od (aak _ _) (CA.sub ((Hb_b5_.exn (hA rfl)).ca) 1 1))),
 fun ρz wz hE hA _ ⟨u1, u3, _⟩ => az rfl rfl (a7e u1 u3 rfl), trivial⟩ ?_)
      intro ρ10 w10 hN hf hr
      have h22 := hv hf 4 rfl rfl
      obtain ⟨h3, h10, h11, h12, h5⟩ := k5 hr h3 h10 h11 h12 h5 rfl
      have Oo_OB_b3_ := OB_b3_
      have Hb_b3_n := Hb_b3_.exn hN
      have Hb_b5_n := Hb_b5_.exn hN
      have H_d_ := H_d_.exn hN
      have hW := hW.trans hN
      have OB_b3_ := Oo_OB_b3_.exn hN
      have Hb_b3_ := Hb_b3_n
      have Hb_b5_ := Hb_b5_n
      refine WP.cond rfl h22 (fun hb => ?_) (fun hb => ?_)
      · have hF := (if_pos hb).symm.trans hF
        obtain ⟨l, hl, hF⟩ := Gt hF
        refine WP.region mixed [[], [], [1], [0, 1, 2], [0, 1, 3]] [[], [], [1], [0, 2], [3]] [[3], [5], [], [], [3]] [3, 4] [(3, 4)] [val 23 (vh_), val 24 (Span.val z), (25, fun u wz => ∃ b, u = .slice (some ⟨b, 0, none⟩) 1 1 ∧ w10.heap.size ≤ b ∧ Mb wz b 53 (([z]).flatMap Span.cells)), (26, fun u wz => (Own w0.heap.size 53 2 Span.cells wz u l ∧ ∀ b, u.ownBlock = some b → (vh_.ownBlock = some b ∨ w10.heap.size ≤ b)) ∧ Mb wz b3_ 49 [(vh_ : Value)]), (26, fun u wz => Mb wz b3_ 49 [(u : Value)] ∧ Own w0.heap.size 53 2 Span.cells wz u l ∧ ∀ b, u.ownBlock = some b → (vh_.ownBlock = some b ∨ w10.heap.size ≤ b))] (fun x => Value.ownBlock vh_ = some x ∨ x = b3_) (by kernel_rfl) ⟨sV, sV, fun _ _ _ hE ⟨b, hz, hs, hM⟩ => ⟨b, hz, hs, hM.ext hE (fun h => h.elim (fun h => absurd (OB_b3_.lt h).2 (Nat.not_lt.2 hs)) (fun h => absurd (h ▸ Hb_b3_.lt) (Nat.not_lt.2 hs)))⟩, fun _ _ _ hE ⟨⟨hO, hf⟩, hM⟩ => ⟨⟨hO.exn hE, hf⟩, hM.exn hE⟩, fun _ _ _ hE ⟨h1, h2, h3⟩ => ⟨h1.exn hE, h2.exn hE, h3⟩, trivial⟩ ⟨fun ρz wz hE hA ⟨e3, _⟩ _ => az rfl rfl (wm (e3.trans h3) (od (aaz _ _) ((Hb_b3_.exn (hA rfl)).ca))),
 fun ρz wz hE hA ⟨e5, _⟩ _ => az rfl rfl (wm (e5.trans h5) (we (cs := (Span.cells z)) (Zt _ _) rfl ((Hb_b5_.exn (hA rfl)).ca))),
 fun ρz wz hE hA _ ⟨u1, _⟩ => Mw rfl rfl hE (Fu (Gs u1) (a25 _ _)),
 fun ρz wz hE hA _ ⟨u0, ⟨bz2, hzn2, hge2, hM2⟩, _⟩ => Pw (n := 2) (cells := Span.cells) (B := w0.heap.size) (w0 := w10) rfl rfl (fun b hb => .inl hb) u0 hzn2 (fun _ => rfl) Lv afw af9 (by decide) (by decide) (OB_b3_.exn (hA rfl)) ⟨_, (Mb.rep (n := 2) (cells := Span.cells) (hn := fun _ => rfl) (G := noG) hM2 rfl (Nat.le_of_ble_eq_true rfl) (fun h => h))⟩ hl (Nat.le_trans hW.size hE.size) hE.size (fun v1 w1 hE1 h1 h2 => ⟨⟨h1, h2⟩, (Hb_b3_.exn (hA rfl)).ext hE1 (fun h => hnb_OB_b3__b3_ h)⟩),
 fun ρz wz hE hA ⟨e3, _⟩ ⟨⟨⟨hO3, hfr3⟩, hMb3⟩, _⟩ => Tw (k := 0) (vs := [ρz 26]) (cs0 := [(vh_ : Value)]) rfl rfl (fun _ h => .inr h) (e3.trans h3) (ah5 _) rfl hMb3 (aeu (Own.shp hO3)) (Nat.le_of_ble_eq_true rfl) rfl (acp (Yd (Own.shp hO3))) (fun w1 hE1 hM => ⟨hM, hO3.ext hE1 (fun b1 hb h0 => by have h1 := h0 ▸ hb; exact (hfr3 _ h1).elim (fun h => hnb_OB_b3__b3_ h) (fun h => absurd Hb_b3_.lt (Nat.not_lt.2 h))), hfr3⟩), trivial⟩ ?_
        intro ρ11 w11 hE hN hf hr
        obtain ⟨h3, h10, h11, h12⟩ := k4 hr h3 h10 h11 h12 rfl
        obtain ⟨vb_, hvx⟩ : ∃ v, ρ11 26 = v := ⟨_, rfl⟩
        have hqx : (fun (u : Value) (wz : World) => Mb wz b3_ 49 [(u : Value)] ∧ Own w0.heap.size 53 2 Span.cells wz u l ∧ ∀ b, u.ownBlock = some b → (vh_.ownBlock = some b ∨ w10.heap.size ≤ b)) (ρ11 26) w11 := hf 4 rfl
        rw [hvx] at hqx
        obtain ⟨Hbx, OBx_vb_, hfr_vb_⟩ := hqx
        have Oo_OB_b3_ := OB_b3_
        have H_d_ := H_d_.over hE (fun b h => h.elim (fun h => (Oo_OB_b3_.lt h).1) (fun h => h.symm ▸ hB_b3_))
        have hW := Ext.own hW hE (fun x h => h.elim (fun h => (Oo_OB_b3_.lt h).1) (fun h => h.symm ▸ hB_b3_))
        have hnb_OB_b3__b3_ : Value.ownBlock vb_ ≠ some b3_ := fun h1 => (hfr_vb_ _ h1).elim (fun h => hnb_OB_b3__b3_ h) (fun h => absurd Hb_b3_.lt (Nat.not_lt.2 h))
        have Hb_b3_ := Hbx
        have OB_b3_ := OBx_vb_
        exact ⟨l, vb_, h3, h10, h11, h12, Hb_b3_, H_d_, OB_b3_, hnb_OB_b3__b3_, hW, hF⟩
      have hF := (if_neg (Bool.eq_false_iff.1 hb)).symm.trans hF
      refine WP.skip ?_
      exact ⟨v, vh_, h3, h10, h11, h12, Hb_b3_, H_d_, OB_b3_, hnb_OB_b3__b3_, hW, hF⟩
    rintro ρ6 w6 ⟨v2, vh_2, h3, h10, h11, h12, Hb_b3_, H_d_, OB_b3_, hnb_OB_b3__b3_, hW, hF⟩
    rw [spans_Make_j] at hF
    refine WP.rb mixed [[], [0]] [[12], []] [(27, .int .i64 (i64 (x + 1))), (12, .int .i64 (i64 (x + 1)))] (by kernel_rfl) ⟨fun ρz wz hE hA ⟨e12, _⟩ _ => az rfl rfl (aax (e12.trans h12) rfl rfl),
 mU rfl rfl rfl, trivial⟩ ?_
    intro ρ7 w7 hN hf hr
    have h12 := hv hf 1 rfl rfl
    obtain ⟨h3, h10, h11⟩ := k3 hr h3 h10 h11 rfl
    have Oo_OB_b3_ := OB_b3_
    have Hb_b3_n := Hb_b3_.exn hN
    have H_d_ := H_d_.exn hN
    have hW := hW.trans hN
    have OB_b3_ := Oo_OB_b3_.exn hN
    have Hb_b3_ := Hb_b3_n
    exact ⟨i64 (x + 1), v2, vh_2, h3, h10, h11, h12, Hb_b3_, H_d_, OB_b3_, hnb_OB_b3__b3_, hW, (by first | exact hF | (rw [hrec_]; exact hF))⟩
  have hF := (if_neg (Bool.eq_false_iff.1 hb)).symm.trans hF
  refine WP.exit (Ac (Ac (F7 (WP.seq ?_))))
  obtain ⟨z2, hz2, hF⟩ := Gt hF
  refine WP.region mixed [[], [0], [], [0, 1, 2]] [[], [0], [], [1, 2]] [[3], [], [3], []] [3] [] [val 28 (vh_), val 29 (.iface 49 vh_), val 30 (.func (.func 120) #[] #[.pointer (some ⟨b3_, 0, none⟩)]), (31, fun u wz => u = .tuple #[] ∧ Own w0.heap.size 53 2 Span.cells wz vh_ z2)] (fun b => Value.ownBlock vh_ = some b) (by kernel_rfl) ⟨sV, sV, sV, fun _ _ _ hE ⟨h1, h2⟩ => ⟨h1, h2.exn hE⟩, trivial⟩ ⟨fun ρz wz hE hA ⟨e3, _⟩ _ => az rfl rfl (wm (e3.trans h3) (od (aaz _ _) ((Hb_b3_.exn (hA rfl)).ca))),
 fun ρz wz hE hA _ ⟨u0, _⟩ => az rfl rfl (abi u0 (ago _)),
 fun ρz wz hE hA ⟨e3, _⟩ _ => az rfl rfl (M9 (Lm (e3.trans h3))),
 fun ρz wz hE hA _ ⟨u1, u2, _⟩ => Y8 rfl rfl (fun _ h => h) (Y1 u1 u2) afy (Fj _ (OB_b3_.exn (hA rfl)) (Hb_b3_.exn (hA rfl)) hnb_OB_b3__b3_ hz2), trivial⟩ ?_
  intro ρ12 w12 hE hN hf hr
  have h3 := (hr 3 rfl).trans h3
  have Oo_OB_b3_ := OB_b3_
  have Hb_b3_n := Hb_b3_.ext hE (fun h => hnb_OB_b3__b3_ h)
  have hW := Ext.own hW hE (fun b hb => (Oo_OB_b3_.lt hb).1)
  have OB_b3_ := (hf 3 rfl).2
  have Hb_b3_ := Hb_b3_n
  refine WP.seq (WP.rb mixed [[]] [[]] [(6, .slice none 0 0)] (by kernel_rfl) ⟨aC rfl rfl (fun _ => rfl), trivial⟩ ?_)
  intro ρ13 w13 hN hf hr
  have h6 : ρ13 6 = .slice none 0 0 := hf 0 rfl
  have O6 : Own w0.heap.size 53 2 Span.cells w13 (.slice none 0 0) [] := Own.nil _ _ _ _ _
  have h3 := (hr 3 rfl).trans h3
  have Oo_OB_b3_ := OB_b3_
  have Hb_b3_n := Hb_b3_.exn hN
  have hW := hW.trans hN
  have O6 : Own w0.heap.size 53 2 Span.cells w13 (.slice none 0 0) [] := Own.nil _ _ _ _ _
  have OB_b3_ := Oo_OB_b3_.exn hN
  have hnb_O6_b3_ : Value.ownBlock (.slice none 0 0) ≠ some b3_ := by simp [Value.ownBlock]
  have hdd_O6_OB_b3_ : ∀ b, Value.ownBlock (.slice none 0 0) = some b → Value.ownBlock vh_ ≠ some b := fun b h => by simp [Value.ownBlock] at h
  have Hb_b3_ := Hb_b3_n
  refine WP.seq (WP.seq (WP.rb mixed [[], [0], []] [[3], [], []] [(32, vh_), (33, .int .i64 (z2.length : Int)), (34, .int .i64 0)] (by kernel_rfl) ⟨fun ρz wz hE hA ⟨e3, _⟩ _ => az rfl rfl (wm (e3.trans h3) (od (aaz _ _) ((Hb_b3_.exn (hA rfl)).ca))),
 fun ρz wz hE hA _ ⟨u0, _⟩ => az rfl rfl (a1k (u0.trans (Own.shape OB_b3_).choose_spec.choose_spec.1) a2h),
 mC rfl rfl (fun _ => rfl), trivial⟩ ?_))
  intro ρ14 w14 hN hf hr
  have h32 := hv hf 0 rfl rfl
  have h33 := hv hf 1 rfl rfl
  have h34 := hv hf 2 rfl rfl
  have h6 := (hr 6 rfl).trans h6
  have Oo_O6 := O6
  have Oo_OB_b3_ := OB_b3_
  have hW := hW.trans hN
  have O6 : Own w0.heap.size 53 2 Span.cells w14 (.slice none 0 0) [] := Own.nil _ _ _ _ _
  have Hf32 : bp Span.R (gL [adk (.slice none 0 0)]) w14 vh_ z2 := (Oo_OB_b3_.exn hN).rep (fun b hb h => h.elim (fun h => by simp [adk, Value.ownBlock] at h) (fun h => h.elim))
  obtain ⟨_, _, hs_Hf32, _, _⟩ := bp.shape Hf32
  refine WP.block (WP.loop (fun k_2 ρ w => ∃ x2 : List Span, ∃ x3 : Int, ∃ v6_ : Value, ρ 6 = v6_ ∧ ρ 32 = vh_ ∧ ρ 33 = .int .i64 (z2.length : Int) ∧ ρ 34 = .int .i64 x3 ∧ bp Span.R (gL [adk v6_]) w vh_ z2 ∧ Own w0.heap.size 53 2 Span.cells w v6_ x2 ∧ Ext noG w0 w ∧ am k_2 (spans_Make_l2 z2) (x2, x3) = some r) FU ⟨[], 0, .slice none 0 0, h6, h32, h33, h34, Hf32, O6, hW, hF⟩ (fun _ _ h => by obtain ⟨_, _, _, _, _, _, _, _, _, _, h⟩ := h; cases h) ?_)
  rintro k_2 ρ15 w15 ⟨x2, x3, v6_, h6, h32, h33, h34, Hf32, O6, hW, hF⟩
  have hF : spans_Make_l2 z2 (am k_2 (spans_Make_l2 z2)) (x2, x3) = some r := hF
  generalize hrec_2 : am k_2 (spans_Make_l2 z2) = rec_2 at hF
  rw [spans_Make_l2] at hF
  refine WP.seq (WP.rb mixed [[]] [[34, 33]] [(35, .bool (decide (x3 < (z2.length : Int))))] (by kernel_rfl) ⟨fun ρz wz hE hA ⟨e34, e33, _⟩ _ => az rfl rfl (a7e (e34.trans h34) (e33.trans h33) rfl), trivial⟩ ?_)
  intro ρ16 w16 hN hf hr
  have h35 := hv hf 0 rfl rfl
  obtain ⟨h6, h32, h33, h34⟩ := k4 hr h6 h32 h33 h34 rfl
  have Oo_O6 := O6
  have Hf32 := Hf32.exn hN
  have hW := hW.trans hN
  have O6 := Oo_O6.exn hN
  refine WP.seq (WP.cond rfl h35 (fun hb => ?_) (fun hb => ?_))
  · have hF := (if_pos hb).symm.trans hF
    refine WP.skip (WP.seqJ (fun ρ w => ∃ x4 : List Span, ∃ v6_2 : Value, ρ 6 = v6_2 ∧ ρ 32 = vh_ ∧ ρ 33 = .int .i64 (z2.length : Int) ∧ ρ 34 = .int .i64 x3 ∧ bp Span.R (gL [adk v6_2]) w vh_ z2 ∧ Own w0.heap.size 53 2 Span.cells w v6_2 x4 ∧ Ext noG w0 w ∧ spans_Make_j2 x3 rec_2 x4 = some r) ?_ ?_)
    · refine WP.block (WP.seq ?_)
      obtain ⟨y2, hy2, hF⟩ := Gt hF
      obtain ⟨ay2, cy2, hvy2, hiy2, hAy2⟩ := bp.getF Hf32 hy2
      refine WP.region mixed [[], [0], [], [1, 2]] [[], [0], [], [1, 2]] [[32, 34], [], [], []] [3] [(2, 3)] [val 36 (.pointer (some (ay2.add (Int.toNat x3 * 2)))), val 37 (Span.val y2), (8, fun u wz => ∃ b, u = .pointer (some ⟨b, 0, none⟩) ∧ w16.heap.size ≤ b ∧ Mb wz b 53 (Span.cells (⟨0, 0⟩ : Span))), (8, fun u wz => ∃ b, u = .pointer (some ⟨b, 0, none⟩) ∧ w16.heap.size ≤ b ∧ Mb wz b 53 (Span.cells y2))] (fun b => w16.heap.size ≤ b) (by kernel_rfl) ⟨sV, sV, fun _ _ _ hE ⟨b, hb, hs, hM⟩ => ⟨b, hb, hs, hM.exn hE⟩, fun _ _ _ hE ⟨b, hb, hs, hM⟩ => ⟨b, hb, hs, hM.exn hE⟩, trivial⟩ ⟨fun ρz wz hE hA ⟨e32, e34, _⟩ _ => az rfl rfl (ns ((e32.trans h32).trans hvy2) (e34.trans h34) (a45 hiy2)),
 fun ρz wz hE hA _ ⟨u0, _⟩ => az rfl rfl (wm u0 (we (cs := (Span.cells y2)) (Zt _ _) rfl ((hAy2.exn hE.fresh).ca))),
 fun ρz wz hE hA _ _ => Nu rfl rfl hE (Nr (abv _)),
 fun ρz wz hE hA _ ⟨u1, u2, _⟩ => El rfl rfl rfl rfl u1 u2 (fun a w => a6i _ a w) rfl (Lv _), trivial⟩ ?_
      intro ρ19 w19 hE hN hf hr
      have hN := hE.fresh
      obtain ⟨b8_, h8, hge_b8_, Hb_b8_⟩ := hf 3 rfl
      obtain ⟨h6, h32, h33, h34⟩ := k4 hr h6 h32 h33 h34 rfl
      have Oo_O6 := O6
      have Hf32 := Hf32.exn hN
      have hB_b8_ : w0.heap.size ≤ b8_ := Nat.le_trans hW.size hge_b8_
      have hW := hW.trans hN
      have O6 := Oo_O6.exn hN
      have hnb_O6_b8_ : Value.ownBlock v6_ ≠ some b8_ := fun h => absurd (Oo_O6.lt h).2 (Nat.not_lt.2 hge_b8_)
      refine WP.seq (WP.rb mixed [[], [0], [1]] [[6], [], []] [(38, v6_), (39, .int .i64 (x2.length : Int)), (9, .int .i64 (x2.length : Int))] (by kernel_rfl) ⟨mE rfl rfl h6,
 fun ρz wz hE hA _ ⟨u0, _⟩ => az rfl rfl (a1k (u0.trans (Own.shape O6).choose_spec.choose_spec.1) a2h),
 aU rfl rfl rfl, trivial⟩ ?_)
      intro ρ20 w20 hN hf hr
      have h9 := hv hf 2 rfl rfl
      obtain ⟨h6, h32, h33, h34, h8⟩ := k5 hr h6 h32 h33 h34 h8 rfl
      have Oo_O6 := O6
      have Hb_b8_n := Hb_b8_.exn hN
      have Hf32 := Hf32.exn hN
      have hW := hW.trans hN
      have O6 := Oo_O6.exn hN
      have Hb_b8_ := Hb_b8_n
      refine WP.seq (WP.seq ?_)
      obtain ⟨c, hc, hF⟩ := Gt hF
      obtain ⟨y3, hy3, hc⟩ := andB hc
      obtain ⟨ay3, cy3, hvy3, hiy3, hAy3⟩ := bp.getFI (Own.rep (hn := fun _ => rfl) (G := noG) O6 (fun _ _ h => h)) hy3
      have hc := andE hc
      refine WP.rb mixed [[], [0], [1], [2], [2, 3], [2], [2], [2, 6], [2, 5, 7], [2, 8], [2, 9], [2, 4, 10], [2, 11]] [[9], [], [], [8], [], [6], [9], [], [], [], [], [], []] [(40, .int .i64 (x2.length : Int)), (41, .bool (decide (0 < (x2.length : Int)))), (42, .bool (decide (0 < (x2.length : Int)))), (43, gv (decide (0 < (x2.length : Int))) (.pointer (some ((⟨b8_, 0, none⟩ : Addr).add 0)))), (44, gv (decide (0 < (x2.length : Int))) (.int .i64 y2.From)), (45, gv (decide (0 < (x2.length : Int))) v6_), (46, gv (decide (0 < (x2.length : Int))) (.int .i64 (x2.length : Int))), (47, gv (decide (0 < (x2.length : Int))) (.int .i64 (i64 ((x2.length : Int) - 1)))), (48, gv (decide (0 < (x2.length : Int))) (.pointer (some (ay3.add (Int.toNat (i64 ((x2.length : Int) - 1)) * 2))))), (49, gv (decide (0 < (x2.length : Int))) (.pointer (some ((ay3.add (Int.toNat (i64 ((x2.length : Int) - 1)) * 2)).add 1)))), (50, gv (decide (0 < (x2.length : Int))) (.int .i64 y3.To)), (51, gv (decide (0 < (x2.length : Int))) (.bool (decide (y2.From ≤ y3.To)))), (52, .bool c)] (by kernel_rfl) ⟨mE rfl rfl h9,
 fun ρz wz hE hA _ ⟨u0, _⟩ => az rfl rfl (adw u0 rfl rfl),
 mU rfl rfl rfl,
 fun ρz wz hE hA ⟨e8, _⟩ ⟨u2, _⟩ => gIf rfl rfl (yT rfl u2) fun gc F hF => az rfl hF (jf (e8.trans h8) (Tq _ _)),
 fun ρz wz hE hA _ ⟨u2, u3, _⟩ => gIf rfl rfl (yT rfl u2) fun gc F hF => az rfl hF (wm (gt gc u3) (od (aak _ _) (CA.sub ((Hb_b8_.exn (hA rfl)).ca) 0 1))),
 fun ρz wz hE hA ⟨e6, _⟩ ⟨u2, _⟩ => gIf rfl rfl (yT rfl u2) fun gc F hF => az rfl hF (Mx (e6.trans h6)),
 fun ρz wz hE hA ⟨e9, _⟩ ⟨u2, _⟩ => gIf rfl rfl (yT rfl u2) fun gc F hF => az rfl hF (Mx (e9.trans h9)),
 fun ρz wz hE hA _ ⟨u2, u6, _⟩ => gIf rfl rfl (yT rfl u2) fun gc F hF => az rfl hF (a81 (gt gc u6) rfl rfl),
 fun ρz wz hE hA _ ⟨u2, u5, u7, _⟩ => gIf rfl rfl (yT rfl u2) fun gc F hF => az rfl hF (ns ((gt gc u5).trans (hvy3 gc)) (gt gc u7) (a45 (hiy3 gc))),
 fun ρz wz hE hA _ ⟨u2, u8, _⟩ => gIf rfl rfl (yT rfl u2) fun gc F hF => az rfl hF (jf (gt gc u8) (Ff _ _)),
 fun ρz wz hE hA _ ⟨u2, u9, _⟩ => gIf rfl rfl (yT rfl u2) fun gc F hF => az rfl hF (wm (gt gc u9) (od (aak _ _) (CA.sub (((hAy3 gc).exn (hA rfl)).ca) 1 1))),
 fun ρz wz hE hA _ ⟨u2, u4, u10, _⟩ => gIf rfl rfl (yT rfl u2) fun gc F hF => az rfl hF (afo (gt gc u4) (gt gc u10) rfl),
 fun ρz wz hE hA _ ⟨u2, u11, _⟩ => a3z rfl rfl (congrArg Value.bool hc) (Z5 u2 u11 rfl), trivial⟩ ?_
      intro ρ21 w21 hN hf hr
      have h52 := hv hf 12 rfl rfl
      obtain ⟨h6, h32, h33, h34, h8, h9⟩ := k6 hr h6 h32 h33 h34 h8 h9 rfl
      have Oo_O6 := O6
      have Hb_b8_n := Hb_b8_.exn hN
      have Hf32 := Hf32.exn hN
      have hW := hW.trans hN
      have O6 := Oo_O6.exn hN
      have Hb_b8_ := Hb_b8_n
      refine WP.cond rfl h52 (fun hb => ?_) (fun hb => ?_)
      · have hF := (if_pos hb).symm.trans hF
        refine WP.seq ?_
        obtain ⟨y4, hy4, hF⟩ := Gt hF
        obtain ⟨ay4, cy4, hvy4, hiy4, hAy4⟩ := bp.getF (Own.rep (hn := fun _ => rfl) (G := noG) O6 (fun _ _ h => h)) hy4
        obtain ⟨y5, hy5, hF⟩ := Gt hF
        obtain ⟨ay5, cy5, hvy5, hiy5, hAy5⟩ := bp.getF (Own.rep (hn := fun _ => rfl) (G := noG) O6 (fun _ _ h => h)) hy5
        refine WP.region mixed [[], [], [1], [], [], [4], [3, 5], [6], [7], [], [9], [8, 10], [0, 2], [12], [8, 10, 11, 13]] [[], [], [1], [], [], [4], [3, 5], [6], [7], [], [9], [8, 10], [0, 2], [12], [11, 13]] [[6], [9], [], [6], [9], [], [], [], [], [8], [], [], [], [], []] [14] [] [val 53 (v6_), val 54 (.int .i64 (x2.length : Int)), val 55 (.int .i64 (i64 ((x2.length : Int) - 1))), val 56 (v6_), val 57 (.int .i64 (x2.length : Int)), val 58 (.int .i64 (i64 ((x2.length : Int) - 1))), val 59 (.pointer (some (ay4.add (Int.toNat (i64 ((x2.length : Int) - 1)) * 2)))), val 60 (.pointer (some ((ay4.add (Int.toNat (i64 ((x2.length : Int) - 1)) * 2)).add 1))), val 61 (.int .i64 y4.To), val 62 (.pointer (some ((⟨b8_, 0, none⟩ : Addr).add 1))), val 63 (.int .i64 y2.To), val 64 (.int .i64 (max y4.To y2.To)), val 65 (.pointer (some (ay5.add (Int.toNat (i64 ((x2.length : Int) - 1)) * 2)))), val 66 (.pointer (some ((ay5.add (Int.toNat (i64 ((x2.length : Int) - 1)) * 2)).add 1))), (66, fun _ wz => Own w0.heap.size 53 2 Span.cells wz v6_ (uc x2 (i64 ((x2.length : Int) - 1)) ({ y5 with To := max y4.To y2.To } : Span)))] (fun b => Value.ownBlock v6_ = some b) (by kernel_rfl) ⟨sV, sV, sV, sV, sV, sV, sV, sV, sV, sV, sV, sV, sV, sV, fun _ _ _ hE h => h.exn hE, trivial⟩ ⟨mE rfl rfl h6,
 mE rfl rfl h9,
 fun ρz wz hE hA _ ⟨u1, _⟩ => az rfl rfl (a81 u1 rfl rfl),
 mE rfl rfl h6,
 mE rfl rfl h9,
 fun ρz wz hE hA _ ⟨u4, _⟩ => az rfl rfl (a81 u4 rfl rfl),
 fun ρz wz hE hA _ ⟨u3, u5, _⟩ => az rfl rfl (ns (u3.trans hvy4) u5 (a45 hiy4)),
 fun ρz wz hE hA _ ⟨u6, _⟩ => az rfl rfl (jf u6 (Ff _ _)),
 fun ρz wz hE hA _ ⟨u7, _⟩ => az rfl rfl (wm u7 (od (aak _ _) (CA.sub ((hAy4.exn (hA rfl)).ca) 1 1))),
 fun ρz wz hE hA ⟨e8, _⟩ _ => az rfl rfl (jf (e8.trans h8) (Ff _ _)),
 fun ρz wz hE hA _ ⟨u9, _⟩ => az rfl rfl (wm u9 (od (aak _ _) (CA.sub ((Hb_b8_.exn (hA rfl)).ca) 1 1))),
 fun ρz wz hE hA _ ⟨u8, u10, _⟩ => az rfl rfl (a3k u8 u10),
 fun ρz wz hE hA _ ⟨u0, u2, _⟩ => az rfl rfl (ns (u0.trans hvy5) u2 (a45 hiy5)),
 fun ρz wz hE hA _ ⟨u12, _⟩ => az rfl rfl (jf u12 (Ff _ _)),
 fun ρz wz hE hA _ ⟨u11, u13, _⟩ => Eh (n := 2) (off := 1) (cells := Span.cells) (y1 := ({ y5 with To := max y4.To y2.To } : Span)) (vs := [Value.int .i64 (max y4.To y2.To)]) rfl rfl (fun _ h => h) (fun _ => rfl) u13 hvy5 (Deep.add_add _ _ _) u11 (O6.exn (hA rfl)) hy5 (fun a w => st_3 _ a w) (Nat.le_of_ble_eq_true rfl) rfl (ahg _), trivial⟩ ?_
        intro ρ22 w22 hE hN hf hr
        obtain ⟨h6, h32, h33, h34⟩ := k4 hr h6 h32 h33 h34 rfl
        have Oo_O6 := O6
        have Hf32 : bp Span.R (gL [adk v6_]) w22 vh_ z2 := Hf32.mv hE (fun _ h => .inl (.inl h)) (fun b h => h.elim (fun h => .inl (.inl h)) (fun h => h.elim))
        have hW := Ext.own hW hE (fun b hb => (Oo_O6.lt hb).1)
        have O6 := hf 14 rfl
        refine WP.exit (Ac (F7 ?_))
        exact ⟨uc x2 (i64 ((x2.length : Int) - 1)) ({ y5 with To := max y4.To y2.To } : Span), v6_, h6, h32, h33, h34, Hf32, O6, hW, hF⟩
      have hF := (if_neg (Bool.eq_false_iff.1 hb)).symm.trans hF
      refine WP.skip ?_
      obtain ⟨l2, hl2, hF⟩ := Gt hF
      refine WP.region mixed [[], [], [1], [0, 1, 2], [0, 3]] [[], [], [1], [0, 2], [3]] [[6], [8], [], [], []] [3] [] [val 67 (v6_), val 68 (Span.val y2), (69, fun u wz => ∃ b, u = .slice (some ⟨b, 0, none⟩) 1 1 ∧ w21.heap.size ≤ b ∧ Mb wz b 53 (([y2]).flatMap Span.cells)), (70, fun u wz => Own w0.heap.size 53 2 Span.cells wz u l2 ∧ ∀ b, u.ownBlock = some b → (v6_.ownBlock = some b ∨ w21.heap.size ≤ b)), (6, fun u wz => Own w0.heap.size 53 2 Span.cells wz u l2 ∧ ∀ b, u.ownBlock = some b → (v6_.ownBlock = some b ∨ w21.heap.size ≤ b))] (fun b => Value.ownBlock v6_ = some b) (by kernel_rfl) ⟨sV, sV, fun _ _ _ hE ⟨b, hz, hs, hM⟩ => ⟨b, hz, hs, hM.ext hE (fun hg => absurd (O6.lt hg).2 (Nat.not_lt.2 hs))⟩, fun _ _ _ hE ⟨hO, hf⟩ => ⟨hO.exn hE, hf⟩, fun _ _ _ hE ⟨hO, hf⟩ => ⟨hO.exn hE, hf⟩, trivial⟩ ⟨mE rfl rfl h6,
 fun ρz wz hE hA ⟨e8, _⟩ _ => az rfl rfl (wm (e8.trans h8) (we (cs := (Span.cells y2)) (Zt _ _) rfl ((Hb_b8_.exn (hA rfl)).ca))),
 fun ρz wz hE hA _ ⟨u1, _⟩ => Mw rfl rfl hE (Fu (Gs u1) (a25 _ _)),
 fun ρz wz hE hA _ ⟨u0, ⟨bz2, hzn2, hge2, hM2⟩, _⟩ => Uj (n := 2) (cells := Span.cells) (B := w0.heap.size) (w0 := w21) rfl rfl (fun b hb => hb) u0 hzn2 (fun _ => rfl) Lv afw af9 (by decide) (by decide) (O6.exn (hA rfl)) ⟨_, (Mb.rep (n := 2) (cells := Span.cells) (hn := fun _ => rfl) (G := noG) hM2 rfl (Nat.le_of_ble_eq_true rfl) (fun h => h))⟩ hl2 (Nat.le_trans hW.size hE.size) hE.size (fun v1 w1 h1 h2 => ⟨h1, h2⟩),
 fun ρz wz hE hA _ ⟨⟨hO3, hfr3⟩, _⟩ => a56 rfl rfl (Hc rfl) ⟨hO3, hfr3⟩, trivial⟩ ?_
      intro ρ23 w23 hE hN hf hr
      obtain ⟨v6_3, h6⟩ : ∃ v, ρ23 6 = v := ⟨_, rfl⟩
      have hq6 : (fun u wz => Own w0.heap.size 53 2 Span.cells wz u l2 ∧ ∀ b, u.ownBlock = some b → (v6_.ownBlock = some b ∨ w21.heap.size ≤ b)) (ρ23 6) w23 := hf 4 rfl
      rw [h6] at hq6
      obtain ⟨hq6, hfr6⟩ := hq6
      obtain ⟨h32, h33, h34⟩ := k3 hr h32 h33 h34 rfl
      have Oo_O6 := O6
      have Hf32 : bp Span.R (gL [adk v6_3]) w23 vh_ z2 := Hf32.mv hE (fun _ h => .inl (.inl h)) (fun b h => h.elim (fun h => (hfr6 _ h).elim (fun h => .inl (by have h := h; exact (.inl h))) (fun h => .inr h)) (fun h => h.elim))
      have hW := Ext.own hW hE (fun b hb => (Oo_O6.lt hb).1)
      have O6 := hq6
      exact ⟨l2, v6_3, h6, h32, h33, h34, Hf32, O6, hW, hF⟩
    rintro ρ17 w17 ⟨x4, v6_2, h6, h32, h33, h34, Hf32, O6, hW, hF⟩
    rw [spans_Make_j2] at hF
    refine WP.rb mixed [[], [0]] [[34], []] [(71, .int .i64 (i64 (x3 + 1))), (34, .int .i64 (i64 (x3 + 1)))] (by kernel_rfl) ⟨fun ρz wz hE hA ⟨e34, _⟩ _ => az rfl rfl (aax (e34.trans h34) rfl rfl),
 mU rfl rfl rfl, trivial⟩ ?_
    intro ρ18 w18 hN hf hr
    have h34 := hv hf 1 rfl rfl
    obtain ⟨h6, h32, h33⟩ := k3 hr h6 h32 h33 rfl
    have Oo_O6 := O6
    have Hf32 := Hf32.exn hN
    have hW := hW.trans hN
    have O6 := Oo_O6.exn hN
    exact ⟨x4, i64 (x3 + 1), v6_2, h6, h32, h33, h34, Hf32, O6, hW, (by first | exact hF | (rw [hrec_2]; exact hF))⟩
  have hF := (if_neg (Bool.eq_false_iff.1 hb)).symm.trans hF
  refine WP.exit (Ac (Ac (F7 (WP.seq (WP.rb mixed [[], [0]] [[6], []] [(72, v6_), (2, v6_)] (by kernel_rfl) ⟨mE rfl rfl h6,
 aU rfl rfl rfl, trivial⟩ ?_)))))
  intro ρ24 w24 hN hf hr
  have h2 := hv hf 1 rfl rfl
  have Oo_O6 := O6
  have hW := hW.trans hN
  have O2 := Oo_O6.exn hN
  refine WP.ret ?_
  show ab4 Tryz.prog 73 Tryz.f62 (fun v w1 => Own w0.heap.size 53 2 Span.cells w1 v r ∧ Ext noG w0 w1) .ret ρ24 w24
  obtain rfl := Option.some.inj hF
  exact res1 rfl (by decide) h2 ⟨O2, hW⟩
end Go.PL.Mk
namespace Go.PL
open Go Go.SX
abbrev Span := Mk.Span
structure api_Fact where
  Issuer : Int
  Number : Int
  Version : Int
  Withdrawn : Bool
  Person : Int
  Kind : Int
  State : Int
  Span : Span
  Seat : Int
  Share : Int
  Currency : Int
  Amount : Int
  Ref : Int
structure pensionhand_Fact where
  Issuer : Int
  Number : Int
  Version : Int
  Withdrawn : Bool
  Person : Int
  Kind : Int
  State : Int
  Seat : Int
  From : Int
  Length : Int
  Share : Int
  Amount : Int
  Ref : Int
structure Token where
  Kind : Int
  Text : ByteArray
  At : Int
structure pensionref5_reader where
  l : List Token
  at_ : Int
  end_ : Int
  bad : Bool
structure pensionref1_wide where
  hi : Int
  lo : Int
structure Fraction where
  Num : Int
  Den : Int
structure Expr where
  Op : Int
  Value : Fraction
  Dim : Int
  Name : ByteArray
  Args : List Expr
structure Rounding where
  Mode : Int
  Unit : Int
structure Credit where
  Kind : Int
  Limit : Int
structure Index where
  Year : Int
  Factor : Fraction
structure Let where
  Name : ByteArray
  Body : Expr
structure Grant where
  Benefit : Int
  If : Expr
  Pay : Expr
structure Reduce where
  Benefit : Int
  By : Expr
structure Version where
  From : Int
  Rounding : Rounding
  Credits : List Credit
  Series : List Index
  Lets : List Let
  Grants : List Grant
  Reduces : List Reduce
structure Statute where
  Name : ByteArray
  Currency : Int
  Versions : List Version
structure State where
  State : Int
  Statute : Statute
structure Rules where
  From : Int
  MinDays : Int
  PostingLimit : Int
  Substantial : Int
  Members : List Int
structure Rate where
  Currency : Int
  Month : Int
  Value : Fraction
structure Laws where
  States : List State
  Treaty : List Rules
  Rates : List Rate
structure pensionhand_Claim where
  Issuer : Int
  Number : Int
  Person : Int
  Benefit : Int
  Ref : Int
  Day : Int
structure Claim where
  Issuer : Int
  Number : Int
  Person : Int
  Benefit : Int
  Ref : Int
  Day : Int
structure pensionlaw26_Seeds where
  Laws : List Int
  Lives : List Int
  Facts : List pensionhand_Fact
  Claims : List pensionhand_Claim
  Day : Int
structure decision_file where
  x : Laws
  facts : List api_Fact
  own : List api_Fact
  claims : List Claim
  person : Int
structure Heir where
  Person : Int
  Kind : Int
  Days : Int
def ng : ByteArray := ⟨#[]⟩
def sr : ByteArray := ⟨#[83, 80, 84, 72, 67, 65]⟩
def nc : ByteArray := ⟨#[83, 80, 72, 67, 65]⟩
def Bp : ByteArray := ⟨#[83, 80, 84]⟩
def q8 : ByteArray := ⟨#[83, 80]⟩
def yy : ByteArray := ⟨#[83, 80, 67, 65]⟩
def Bg : ByteArray := ⟨#[83, 80, 82]⟩
def Bb : ByteArray := ⟨#[80]⟩
def Fs : ByteArray := ⟨#[80, 82]⟩
def m7 : ByteArray := ⟨#[48, 49, 50, 51, 52, 53, 54, 55, 56, 57]⟩
def J9 : ByteArray := ⟨#[46]⟩
def G7 : ByteArray := ⟨#[102, 114, 111, 109, 32, 64]⟩
def Bk : ByteArray := ⟨#[32, 123, 32, 114, 111, 117, 110, 100, 32]⟩
def Ci : ByteArray := ⟨#[100, 111, 119, 110, 32, 49, 59, 32]⟩
def Kw : ByteArray := ⟨#[99, 114, 101, 100, 105, 116, 32, 118, 111, 108, 117, 110, 116, 97, 114, 121, 59, 32, 99, 114, 101, 100, 105, 116, 32, 117, 110, 101, 109, 112, 108, 111, 121, 101, 100, 32, 108, 105, 109, 105, 116, 32]⟩
def zd : ByteArray := ⟨#[59, 32]⟩
def Ho : ByteArray := ⟨#[99, 114, 101, 100, 105, 116, 32, 99, 104, 105, 108, 100, 32, 108, 105, 109, 105, 116, 32]⟩
def Jy : ByteArray := ⟨#[99, 114, 101, 100, 105, 116, 32, 114, 101, 115, 105, 100, 101, 110, 99, 101, 59, 32]⟩
def Hm : ByteArray := ⟨#[105, 110, 100, 101, 120, 32, 49, 57, 54, 48, 32, 49, 59, 32, 105, 110, 100, 101, 120, 32, 49, 57, 56, 48, 32]⟩
def Kx : ByteArray := ⟨#[59, 32, 105, 110, 100, 101, 120, 32, 49, 57, 57, 53, 32]⟩
def Kp : ByteArray := ⟨#[108, 101, 116, 32, 115, 112, 101, 110, 116, 32, 61, 32, 105, 110, 115, 117, 114, 101, 100, 32, 47, 32]⟩
def Hx : ByteArray := ⟨#[100, 59, 32, 108, 101, 116, 32, 112, 97, 114, 116, 32, 61, 32, 109, 105, 110, 40, 115, 112, 101, 110, 116, 32, 42, 32]⟩
def L3 : ByteArray := ⟨#[44, 32, 48, 46, 56, 48, 41, 59, 32]⟩
def Kc : ByteArray := ⟨#[103, 114, 97, 110, 116, 32, 111, 108, 100, 32, 105, 102, 32, 97, 103, 101, 32, 62, 61, 32]⟩
def Jh : ByteArray := ⟨#[32, 97, 110, 100, 32, 105, 110, 115, 117, 114, 101, 100, 32, 62, 61, 32]⟩
def Jz : ByteArray := ⟨#[100, 32, 112, 97, 121, 32, 109, 97, 120, 40, 98, 97, 115, 101, 32, 42, 32, 112, 97, 114, 116, 44, 32]⟩
def Gp : ByteArray := ⟨#[109, 41, 59, 32]⟩
def Kd : ByteArray := ⟨#[103, 114, 97, 110, 116, 32, 100, 105, 115, 97, 98, 105, 108, 105, 116, 121, 32, 105, 102, 32, 105, 110, 115, 117, 114, 101, 100, 32, 62, 61, 32]⟩
def Ko : ByteArray := ⟨#[100, 32, 112, 97, 121, 32, 98, 97, 115, 101, 32, 42, 32]⟩
def L2 : ByteArray := ⟨#[103, 114, 97, 110, 116, 32, 115, 117, 114, 118, 105, 118, 111, 114, 32, 105, 102, 32, 119, 111, 114, 107, 101, 100, 32, 43, 32, 101, 113, 117, 97, 116, 101, 100, 32, 62, 61, 32, 51, 48, 100, 32, 112, 97, 121, 32, 98, 97, 115, 101, 32, 42, 32, 112, 97, 114, 116, 32, 42, 32, 48, 46, 54, 48, 59, 32]⟩
def Kr : ByteArray := ⟨#[103, 114, 97, 110, 116, 32, 102, 97, 109, 105, 108, 121, 32, 105, 102, 32, 105, 110, 115, 117, 114, 101, 100, 32, 62, 61, 32]⟩
def Mm : ByteArray := ⟨#[100, 32, 112, 97, 121, 32]⟩
def Ju : ByteArray := ⟨#[109, 32, 42, 32, 99, 104, 105, 108, 100, 114, 101, 110, 59, 32]⟩
def Hz : ByteArray := ⟨#[103, 114, 97, 110, 116, 32, 115, 105, 99, 107, 110, 101, 115, 115, 32, 105, 102, 32, 105, 110, 115, 117, 114, 101, 100, 32, 62, 61, 32]⟩
def Jt : ByteArray := ⟨#[100, 32, 112, 97, 121, 32, 98, 101, 115, 116, 40, 51, 41, 32, 47, 32, 49, 50, 32, 42, 32, 48, 46, 55, 48, 59, 32]⟩
def zf : ByteArray := ⟨#[114, 101, 100, 117, 99, 101, 32, 111, 108, 100, 32, 98, 121, 32]⟩
def J7 : ByteArray := ⟨#[114, 101, 100, 117, 99, 101, 32, 100, 105, 115, 97, 98, 105, 108, 105, 116, 121, 32, 98, 121, 32, 105, 102, 32, 97, 103, 101, 32, 60, 32, 54, 48, 32, 116, 104, 101, 110, 32, 48, 46, 53, 48, 32, 101, 108, 115, 101, 32, 49, 59, 32]⟩
def Nf : ByteArray := ⟨#[125, 32]⟩
def Ct : ByteArray := ⟨#[104, 97, 108, 102, 32, 53, 59, 32]⟩
def G5 : ByteArray := ⟨#[117, 112, 32, 49, 59, 32]⟩
def Bf : ByteArray := ⟨#[101, 118, 101, 110, 32, 49, 48, 59, 32]⟩
def C6 : ByteArray := ⟨#[97, 108, 98, 97]⟩
def C2 : ByteArray := ⟨#[98, 111, 114, 97]⟩
def A5 : ByteArray := ⟨#[99, 101, 100, 97, 114]⟩
def Gn : ByteArray := ⟨#[115, 116, 97, 116, 117, 116, 101, 32]⟩
def Cj : ByteArray := ⟨#[32, 99, 117, 114, 114, 101, 110, 99, 121, 32]⟩
def Ri : ByteArray := ⟨#[32, 123, 32]⟩
def zh : ByteArray := ⟨#[49, 57, 48, 48, 45, 48, 49, 45, 48, 49]⟩
def zg : ByteArray := ⟨#[49, 57, 57, 54, 45, 48, 55, 45, 48, 49]⟩
def zb : ByteArray := ⟨#[50, 48, 48, 49, 45, 48, 49, 45, 48, 49]⟩
def J0 : ByteArray := ⟨#[125]⟩
def M2 : ByteArray := ⟨#[60, 61]⟩
def Lt : ByteArray := ⟨#[62, 61]⟩
def Md : ByteArray := ⟨#[60, 62]⟩
def Tz : ByteArray := ⟨#[97, 110, 100]⟩
def Nt : ByteArray := ⟨#[98, 101, 115, 116]⟩
def a06 : ByteArray := ⟨#[98, 121]⟩
def Fb : ByteArray := ⟨#[99, 114, 101, 100, 105, 116]⟩
def Bx : ByteArray := ⟨#[99, 117, 114, 114, 101, 110, 99, 121]⟩
def N0 : ByteArray := ⟨#[101, 108, 115, 101]⟩
def Kb : ByteArray := ⟨#[102, 108, 111, 111, 114]⟩
def Ng : ByteArray := ⟨#[102, 114, 111, 109]⟩
def Kv : ByteArray := ⟨#[103, 114, 97, 110, 116]⟩
def Vr : ByteArray := ⟨#[105, 102]⟩
def Jk : ByteArray := ⟨#[105, 110, 100, 101, 120]⟩
def U9 : ByteArray := ⟨#[108, 101, 116]⟩
def Jv : ByteArray := ⟨#[108, 105, 109, 105, 116]⟩
def V8 : ByteArray := ⟨#[109, 97, 120]⟩
def Uw : ByteArray := ⟨#[109, 105, 110]⟩
def Tm : ByteArray := ⟨#[110, 111, 116]⟩
def a3h : ByteArray := ⟨#[111, 114]⟩
def V6 : ByteArray := ⟨#[112, 97, 121]⟩
def Fl : ByteArray := ⟨#[114, 101, 100, 117, 99, 101]⟩
def Hq : ByteArray := ⟨#[114, 111, 117, 110, 100]⟩
def D5 : ByteArray := ⟨#[115, 116, 97, 116, 117, 116, 101]⟩
def X5 : ByteArray := ⟨#[116, 104, 101, 110]⟩
def Jm : ByteArray := ⟨#[0, 1, 2, 2, 3, 3, 3, 3, 4, 4, 4, 4, 4, 4, 4, 4, 5, 5, 5, 5, 5, 5, 5, 5, 5, 5, 5, 5, 5, 5, 5, 5, 6, 6, 6, 6, 6, 6, 6, 6, 6, 6, 6, 6, 6, 6, 6, 6, 6, 6, 6, 6, 6, 6, 6, 6, 6, 6, 6, 6, 6, 6, 6, 6, 7, 7, 7, 7, 7, 7, 7, 7, 7, 7, 7, 7, 7, 7, 7, 7, 7, 7, 7, 7, 7, 7, 7, 7, 7, 7, 7, 7, 7, 7, 7, 7, 7, 7, 7, 7, 7, 7, 7, 7, 7, 7, 7, 7, 7, 7, 7, 7, 7, 7, 7, 7, 7, 7, 7, 7, 7, 7, 7, 7, 7, 7, 7, 7, 8, 8, 8, 8, 8, 8, 8, 8, 8, 8, 8, 8, 8, 8, 8, 8, 8, 8, 8, 8, 8, 8, 8, 8, 8, 8, 8, 8, 8, 8, 8, 8, 8, 8, 8, 8, 8, 8, 8, 8, 8, 8, 8, 8, 8, 8, 8, 8, 8, 8, 8, 8, 8, 8, 8, 8, 8, 8, 8, 8, 8, 8, 8, 8, 8, 8, 8, 8, 8, 8, 8, 8, 8, 8, 8, 8, 8, 8, 8, 8, 8, 8, 8, 8, 8, 8, 8, 8, 8, 8, 8, 8, 8, 8, 8, 8, 8, 8, 8, 8, 8, 8, 8, 8, 8, 8, 8, 8, 8, 8, 8, 8, 8, 8, 8, 8, 8, 8, 8, 8, 8, 8, 8, 8, 8, 8, 8, 8]⟩
def Eo : ByteArray := ⟨#[118, 111, 108, 117, 110, 116, 97, 114, 121]⟩
def Ks : ByteArray := ⟨#[115, 101, 114, 118, 105, 99, 101]⟩
def Cr : ByteArray := ⟨#[117, 110, 101, 109, 112, 108, 111, 121, 101, 100]⟩
def Xm : ByteArray := ⟨#[115, 105, 99, 107]⟩
def R2 : ByteArray := ⟨#[99, 104, 105, 108, 100]⟩
def Dz : ByteArray := ⟨#[114, 101, 115, 105, 100, 101, 110, 99, 101]⟩
def a0w : ByteArray := ⟨#[111, 108, 100]⟩
def Cl : ByteArray := ⟨#[100, 105, 115, 97, 98, 105, 108, 105, 116, 121]⟩
def Fx : ByteArray := ⟨#[115, 117, 114, 118, 105, 118, 111, 114]⟩
def M3 : ByteArray := ⟨#[102, 97, 109, 105, 108, 121]⟩
def Ft : ByteArray := ⟨#[115, 105, 99, 107, 110, 101, 115, 115]⟩
def Xg : ByteArray := ⟨#[100, 111, 119, 110]⟩
def aaf : ByteArray := ⟨#[117, 112]⟩
def W6 : ByteArray := ⟨#[104, 97, 108, 102]⟩
def Wh : ByteArray := ⟨#[101, 118, 101, 110]⟩
def ab0 : ByteArray := ⟨#[43]⟩
def Ty : ByteArray := ⟨#[45]⟩
def adb : ByteArray := ⟨#[42]⟩
def a4v : ByteArray := ⟨#[47]⟩
def ack : ByteArray := ⟨#[60]⟩
def a28 : ByteArray := ⟨#[61]⟩
def acf : ByteArray := ⟨#[62]⟩
def Uy : ByteArray := ⟨#[40]⟩
def Pe : ByteArray := ⟨#[41]⟩
def acw : ByteArray := ⟨#[44]⟩
def Cv : ByteArray := ⟨#[59]⟩
def a4x : ByteArray := ⟨#[123]⟩
def a7f : ByteArray := ⟨#[100]⟩
def a8h : ByteArray := ⟨#[109]⟩
def abp : ByteArray := ⟨#[83]⟩
def acs : ByteArray := ⟨#[84]⟩
def abl : ByteArray := ⟨#[72]⟩
def acg : ByteArray := ⟨#[67]⟩
def abu : ByteArray := ⟨#[65]⟩
def aar : ByteArray := ⟨#[82]⟩
def yn (a b : List Int) : Option Int := some (ae6 (a.map fun x => x) (b.map fun x => x))
def td (s : ByteArray) (c : Int) : Option Int := some (aer s c)
def spans_Make (l : List Span) : Option (List Span) := Mk.spans_Make l
def aa (a0 : Int) (a1 : Int) : Option Int :=
 (Di a0 a1).bind fun v1 =>
 if (decide (v1 < 0)) then
 some (i64 (v1 + a1))
 else
 some v1
def ah (a0 : List Int) (a1 : Int) : Option Int :=
 if ((a0.length : Int) == 0) then
 some 0
 else
 (aa a1 (a0.length : Int)).bind fun v1 =>
 (av a0 v1).bind fun v2 =>
 some v2
def xg (a0 : List Int) (r2 : ((List api_Fact) × Int) → Option (List api_Fact)) (v1 : (List api_Fact) × Int) : Option (List api_Fact) :=
 if (decide (v1.2 ≤ 2)) then
 (ah a0 v1.2).bind fun v3 =>
 (aa v3 3).bind fun v4 =>
 (ah a0 (i64 (v1.2 + 2))).bind fun v5 =>
 (aa v5 3).bind fun v6 =>
 (ah a0 (i64 (v1.2 + 4))).bind fun v7 =>
 (aa v7 6000).bind fun v8 =>
 (ah a0 (i64 (v1.2 + 6))).bind fun v9 =>
 (aa v9 3000).bind fun v10 =>
 (m8 112 v1.1 [(⟨v4, i64 (900 + v1.2), 1, false, v1.2, 11, 0, (⟨i64 (13000 + v10), i64 ((i64 (13000 + v10)) + 1)⟩ : Span), 0, 0, 0, 0, 0⟩ : api_Fact)]).bind fun v11 =>
 (m8 112 v11 [(⟨v4, i64 (910 + v1.2), 1, false, v1.2, 5, v4, (⟨20000, 60000⟩ : Span), 0, 0, 0, 0, 0⟩ : api_Fact)]).bind fun v12 =>
 (ah a0 (i64 (v1.2 + 8))).bind fun v13 =>
 (aa v13 900000).bind fun v14 =>
 (m8 112 v12 [(⟨v4, i64 (920 + v1.2), 1, false, v1.2, 1, v4, (⟨22000, i64 (27000 + v8)⟩ : Span), v4, 100, i64 (1 + v4), i64 (900000 + v14), 0⟩ : api_Fact)]).bind fun v15 =>
 (ah a0 (i64 (v1.2 + 10))).bind fun v16 =>
 (aa v16 3000).bind fun v17 =>
 (ah a0 (i64 (v1.2 + 12))).bind fun v18 =>
 (aa v18 900000).bind fun v19 =>
 (m8 112 v15 [(⟨v6, i64 (930 + v1.2), 1, false, v1.2, 1, v6, (⟨i64 (27000 + v8), i64 (34400 + v17)⟩ : Span), v6, 50, i64 (1 + v6), i64 (700000 + v19), 0⟩ : api_Fact)]).bind fun v20 =>
 (m8 112 v20 [(⟨v4, i64 (940 + v1.2), 1, false, v1.2, 10, v4, (⟨32000, 38500⟩ : Span), 0, 0, 0, 0, 3⟩ : api_Fact)]).bind fun v21 =>
 (m8 112 v21 [(⟨v4, i64 (950 + v1.2), 1, false, v1.2, 14, 0, (⟨26000, 50000⟩ : Span), 0, 0, 0, 0, i64 (3 - v1.2)⟩ : api_Fact)]).bind fun v22 =>
 r2 (v22, i64 (v1.2 + 1))
 else
 (ah a0 15).bind fun v23 =>
 (aa v23 2000).bind fun v24 =>
 (ah a0 16).bind fun v25 =>
 (aa v25 2000).bind fun v26 =>
 (m8 112 v1.1 [(⟨0, 961, 1, false, 1, 13, 0, (⟨i64 (34000 + v24), i64 (36500 + v26)⟩ : Span), 0, 0, 0, 0, 0⟩ : api_Fact)]).bind fun v27 =>
 (ah a0 17).bind fun v28 =>
 (aa v28 900).bind fun v29 =>
 (ah a0 17).bind fun v30 =>
 (aa v30 900).bind fun v31 =>
 (m8 112 v27 [(⟨1, 962, 1, false, 2, 12, 0, (⟨i64 (35600 + v29), i64 (35601 + v31)⟩ : Span), 0, 0, 0, 0, 0⟩ : api_Fact)]).bind fun v32 =>
 (ah a0 18).bind fun v33 =>
 (aa v33 1200).bind fun v34 =>
 (ah a0 19).bind fun v35 =>
 (aa v35 300).bind fun v36 =>
 (m8 112 v32 [(⟨0, 963, 1, false, 1, 8, 0, (⟨i64 (35000 + v34), i64 (36250 + v36)⟩ : Span), 0, 0, 0, 0, 0⟩ : api_Fact)]).bind fun v37 =>
 some v37
def qg (a0 : List Int) : Option (List api_Fact) :=
 am FU (xg a0) ([], 1)
def pi (a0 : Int) : Option Int :=
 (aa a0 4).bind fun v1 =>
 if (v1 == 0) then
 (Gy a0 4).bind fun v2 =>
 (aa v2 9000).bind fun v3 =>
 some (i64 (1 + v3))
 else
 if (v1 == 1) then
 (Gy a0 4).bind fun v4 =>
 (aa v4 1200).bind fun v5 =>
 some (i64 (1 + v5))
 else
 if (v1 == 2) then
 (Gy a0 4).bind fun v6 =>
 (aa v6 120).bind fun v7 =>
 some (i64 (1 + v7))
 else
 (Gy a0 4).bind fun v8 =>
 (aa v8 12).bind fun v9 =>
 some (i64 (1 + v9))
def cw (a0 : Int) : Option ByteArray :=
 (if (decide (a0 < 1)) then some true else some (decide (a0 ≥ ([ng, sr, nc, nc, Bp, q8, yy, q8, q8, q8, Bg, Bb, Bb, Bb, Fs].length : Int)))).bind fun v1 =>
 if v1 then
 some ng
 else
 (av [ng, sr, nc, nc, Bp, q8, yy, q8, q8, q8, Bg, Bb, Bb, Bb, Fs] a0).bind fun v2 =>
 (av [ng, sr, nc, nc, Bp, q8, yy, q8, q8, q8, Bg, Bb, Bb, Bb, Fs] a0).bind fun v3 =>
 some v3
def yj (v10 : ByteArray) (v9 : pensionhand_Fact × api_Fact × api_Fact × Int × Int) (r12 : (pensionhand_Fact × api_Fact × api_Fact × Int) → Option api_Fact) (v11 : pensionhand_Fact × api_Fact × api_Fact × Int) : Option api_Fact :=
 if (decide (v11.2.2.2 < (v10.size : Int))) then
 (Bd v10 v11.2.2.2).bind fun v13 =>
 if (v13 == 83) then
 (aa v11.1.State 3).bind fun v14 =>
 r12 (v11.1, v11.2.1, (⟨v11.2.2.1.Issuer, v11.2.2.1.Number, v11.2.2.1.Version, v11.2.2.1.Withdrawn, v11.2.2.1.Person, v11.2.2.1.Kind, v14, v11.2.2.1.Span, v11.2.2.1.Seat, v11.2.2.1.Share, v11.2.2.1.Currency, v11.2.2.1.Amount, v11.2.2.1.Ref⟩ : api_Fact), i64 (v11.2.2.2 + 1))
 else
 if (v13 == 80) then
 r12 (v11.1, v11.2.1, (⟨v11.2.2.1.Issuer, v11.2.2.1.Number, v11.2.2.1.Version, v11.2.2.1.Withdrawn, v11.2.2.1.Person, v11.2.2.1.Kind, v11.2.2.1.State, (⟨v9.2.2.2.1, v9.2.2.2.2⟩ : Span), v11.2.2.1.Seat, v11.2.2.1.Share, v11.2.2.1.Currency, v11.2.2.1.Amount, v11.2.2.1.Ref⟩ : api_Fact), i64 (v11.2.2.2 + 1))
 else
 if (v13 == 84) then
 (aa v11.1.Seat 3).bind fun v15 =>
 (if (v11.2.2.1.Kind == 4) then some (v15 == v11.2.2.1.State) else some false).bind fun v16 =>
 if v16 then
 (aa (i64 (v11.2.2.1.State + 1)) 3).bind fun v17 =>
 r12 (v11.1, v11.2.1, (⟨v11.2.2.1.Issuer, v11.2.2.1.Number, v11.2.2.1.Version, v11.2.2.1.Withdrawn, v11.2.2.1.Person, v11.2.2.1.Kind, v11.2.2.1.State, v11.2.2.1.Span, v17, v11.2.2.1.Share, v11.2.2.1.Currency, v11.2.2.1.Amount, v11.2.2.1.Ref⟩ : api_Fact), i64 (v11.2.2.2 + 1))
 else
 r12 (v11.1, v11.2.1, (⟨v11.2.2.1.Issuer, v11.2.2.1.Number, v11.2.2.1.Version, v11.2.2.1.Withdrawn, v11.2.2.1.Person, v11.2.2.1.Kind, v11.2.2.1.State, v11.2.2.1.Span, v15, v11.2.2.1.Share, v11.2.2.1.Currency, v11.2.2.1.Amount, v11.2.2.1.Ref⟩ : api_Fact), i64 (v11.2.2.2 + 1))
 else
 if (v13 == 72) then
 (aa v11.1.Share 100).bind fun v18 =>
 r12 (v11.1, v11.2.1, (⟨v11.2.2.1.Issuer, v11.2.2.1.Number, v11.2.2.1.Version, v11.2.2.1.Withdrawn, v11.2.2.1.Person, v11.2.2.1.Kind, v11.2.2.1.State, v11.2.2.1.Span, v11.2.2.1.Seat, i64 (1 + v18), v11.2.2.1.Currency, v11.2.2.1.Amount, v11.2.2.1.Ref⟩ : api_Fact), i64 (v11.2.2.2 + 1))
 else
 if (v13 == 67) then
 (Di v11.1.State 3).bind fun v19 =>
 (aa (i64 (v11.1.Seat + v19)) 3).bind fun v20 =>
 r12 (v11.1, v11.2.1, (⟨v11.2.2.1.Issuer, v11.2.2.1.Number, v11.2.2.1.Version, v11.2.2.1.Withdrawn, v11.2.2.1.Person, v11.2.2.1.Kind, v11.2.2.1.State, v11.2.2.1.Span, v11.2.2.1.Seat, v11.2.2.1.Share, i64 (1 + v20), v11.2.2.1.Amount, v11.2.2.1.Ref⟩ : api_Fact), i64 (v11.2.2.2 + 1))
 else
 if (v13 == 65) then
 (aa v11.1.Amount 3000000).bind fun v21 =>
 r12 (v11.1, v11.2.1, (⟨v11.2.2.1.Issuer, v11.2.2.1.Number, v11.2.2.1.Version, v11.2.2.1.Withdrawn, v11.2.2.1.Person, v11.2.2.1.Kind, v11.2.2.1.State, v11.2.2.1.Span, v11.2.2.1.Seat, v11.2.2.1.Share, v11.2.2.1.Currency, v21, v11.2.2.1.Ref⟩ : api_Fact), i64 (v11.2.2.2 + 1))
 else
 (aa v11.1.Ref 4).bind fun v22 =>
 if ((i64 (1 + v22)) == v11.2.2.1.Person) then
 (aa v11.2.2.1.Person 4).bind fun v23 =>
 r12 (v11.1, v11.2.1, (⟨v11.2.2.1.Issuer, v11.2.2.1.Number, v11.2.2.1.Version, v11.2.2.1.Withdrawn, v11.2.2.1.Person, v11.2.2.1.Kind, v11.2.2.1.State, v11.2.2.1.Span, v11.2.2.1.Seat, v11.2.2.1.Share, v11.2.2.1.Currency, v11.2.2.1.Amount, i64 (1 + v23)⟩ : api_Fact), i64 (v11.2.2.2 + 1))
 else
 r12 (v11.1, v11.2.1, (⟨v11.2.2.1.Issuer, v11.2.2.1.Number, v11.2.2.1.Version, v11.2.2.1.Withdrawn, v11.2.2.1.Person, v11.2.2.1.Kind, v11.2.2.1.State, v11.2.2.1.Span, v11.2.2.1.Seat, v11.2.2.1.Share, v11.2.2.1.Currency, v11.2.2.1.Amount, i64 (1 + v22)⟩ : api_Fact), i64 (v11.2.2.2 + 1))
 else
 some v11.2.2.1
def ig (v9 : pensionhand_Fact × api_Fact × api_Fact × Int × Int) : Option api_Fact :=
 (cw v9.2.2.1.Kind).bind fun v10 =>
 am FU (yj v10 v9) (v9.1, v9.2.1, v9.2.2.1, 0)
def s3 (a0 : pensionhand_Fact) : Option api_Fact :=
 (aa a0.Issuer 3).bind fun v1 =>
 (aa a0.Number 20).bind fun v2 =>
 (aa a0.Version 3).bind fun v3 =>
 (aa a0.Person 4).bind fun v4 =>
 (aa a0.Kind 14).bind fun v5 =>
 (aa a0.From 16000).bind fun v6 =>
 (pi a0.Length).bind fun v7 =>
 if ((i64 (1 + v5)) == 11) then
 (aa a0.From 5000).bind fun v8 =>
 joinC ig (a0, (⟨0, 0, 0, false, 0, 0, 0, (⟨0, 0⟩ : Span), 0, 0, 0, 0, 0⟩ : api_Fact), (⟨v1, i64 (1 + v2), i64 (1 + v3), a0.Withdrawn, i64 (1 + v4), i64 (1 + v5), 0, (⟨0, 0⟩ : Span), 0, 0, 0, 0, 0⟩ : api_Fact), i64 (12000 + v8), i64 ((i64 (12000 + v8)) + 1))
 else
 if ((i64 (1 + v5)) == 12) then
 (aa a0.From 6000).bind fun v24 =>
 joinC ig (a0, (⟨0, 0, 0, false, 0, 0, 0, (⟨0, 0⟩ : Span), 0, 0, 0, 0, 0⟩ : api_Fact), (⟨v1, i64 (1 + v2), i64 (1 + v3), a0.Withdrawn, i64 (1 + v4), i64 (1 + v5), 0, (⟨0, 0⟩ : Span), 0, 0, 0, 0, 0⟩ : api_Fact), i64 (34000 + v24), i64 ((i64 (34000 + v24)) + 1))
 else
 if ((i64 (1 + v5)) == 8) then
 (aa a0.From 4000).bind fun v25 =>
 (aa a0.Length 700).bind fun v26 =>
 joinC ig (a0, (⟨0, 0, 0, false, 0, 0, 0, (⟨0, 0⟩ : Span), 0, 0, 0, 0, 0⟩ : api_Fact), (⟨v1, i64 (1 + v2), i64 (1 + v3), a0.Withdrawn, i64 (1 + v4), i64 (1 + v5), 0, (⟨0, 0⟩ : Span), 0, 0, 0, 0, 0⟩ : api_Fact), i64 (34000 + v25), i64 ((i64 ((i64 (34000 + v25)) + 1)) + v26))
 else
 joinC ig (a0, (⟨0, 0, 0, false, 0, 0, 0, (⟨0, 0⟩ : Span), 0, 0, 0, 0, 0⟩ : api_Fact), (⟨v1, i64 (1 + v2), i64 (1 + v3), a0.Withdrawn, i64 (1 + v4), i64 (1 + v5), 0, (⟨0, 0⟩ : Span), 0, 0, 0, 0, 0⟩ : api_Fact), i64 (21900 + v6), i64 ((i64 (21900 + v6)) + v7))
def xl (a0 : List pensionhand_Fact) (r2 : ((List api_Fact) × Int) → Option (List api_Fact)) (v1 : (List api_Fact) × Int) : Option (List api_Fact) :=
 (if (decide (v1.2 < (a0.length : Int))) then some (decide (v1.2 < 12)) else some false).bind fun v3 =>
 if v3 then
 (av a0 v1.2).bind fun v4 =>
 (s3 v4).bind fun v5 =>
 (m8 112 v1.1 [v5]).bind fun v6 =>
 r2 (v6, i64 (v1.2 + 1))
 else
 some v1.1
def qe (a0 : List pensionhand_Fact) : Option (List api_Fact) :=
 am FU (xl a0) ([], 0)
def vz (r2 : (Int × ByteArray) → Option ByteArray) (v1 : Int × ByteArray) : Option ByteArray :=
 if (decide (v1.1 > 9)) then
 (Di v1.1 10).bind fun v3 =>
 (Di v1.1 10).bind fun v4 =>
 (Jd m7 v3 (i64 (v4 + 1))).bind fun v5 =>
 (o6 v5 v1.2).bind fun v6 =>
 (Gy v1.1 10).bind fun v7 =>
 r2 (v7, v6)
 else
 (Jd m7 v1.1 (i64 (v1.1 + 1))).bind fun v8 =>
 (o6 v8 v1.2).bind fun v9 =>
 some v9
def ba (a0 : Int) : Option ByteArray :=
 am FU vz (a0, ng)
def df (a0 : Int) : Option ByteArray :=
 (Gy a0 100).bind fun v1 =>
 (ba v1).bind fun v2 =>
 (o6 v2 J9).bind fun v3 =>
 (Gy a0 10).bind fun v4 =>
 (Di v4 10).bind fun v5 =>
 (ba v5).bind fun v6 =>
 (o6 v3 v6).bind fun v7 =>
 (Di a0 10).bind fun v8 =>
 (ba v8).bind fun v9 =>
 (o6 v7 v9).bind fun v10 =>
 some v10
def kr (v104 : (List Int) × Int × ByteArray) : Option ByteArray :=
 (ah v104.1 (i64 (v104.2.1 + 18))).bind fun v105 =>
 (aa v105 3).bind fun v106 =>
 if (v106 == 0) then
 (o6 v104.2.2 J7).bind fun v107 =>
 (o6 v107 Nf).bind fun v108 =>
 some v108
 else
 (o6 v104.2.2 Nf).bind fun v109 =>
 some v109
def kz (v78 : (List Int) × Int × ByteArray) : Option ByteArray :=
 (ah v78.1 (i64 (v78.2.1 + 14))).bind fun v79 =>
 (aa v79 800).bind fun v80 =>
 (ba v80).bind fun v81 =>
 (o6 Kr v81).bind fun v82 =>
 (o6 v82 Mm).bind fun v83 =>
 (ah v78.1 (i64 (v78.2.1 + 15))).bind fun v84 =>
 (aa v84 300).bind fun v85 =>
 (ba (i64 (10 + v85))).bind fun v86 =>
 (o6 v83 v86).bind fun v87 =>
 (o6 v87 Ju).bind fun v88 =>
 (o6 v78.2.2 v88).bind fun v89 =>
 (ah v78.1 (i64 (v78.2.1 + 16))).bind fun v90 =>
 (aa v90 400).bind fun v91 =>
 (ba v91).bind fun v92 =>
 (o6 Hz v92).bind fun v93 =>
 (o6 v93 Jt).bind fun v94 =>
 (o6 v89 v94).bind fun v95 =>
 (ah v78.1 (i64 (v78.2.1 + 17))).bind fun v96 =>
 (aa v96 3).bind fun v97 =>
 if (decide (v97 > 0)) then
 (ah v78.1 (i64 (v78.2.1 + 17))).bind fun v98 =>
 (aa v98 11).bind fun v99 =>
 (df (i64 (10 * v99))).bind fun v100 =>
 (o6 zf v100).bind fun v101 =>
 (o6 v101 zd).bind fun v102 =>
 (o6 v95 v102).bind fun v103 =>
 joinC kr (v78.1, v78.2.1, v103)
 else
 joinC kr (v78.1, v78.2.1, v95)
def kv (v28 : (List Int) × Int × ByteArray × ByteArray) : Option ByteArray :=
 (ah v28.1 (i64 (v28.2.1 + 5))).bind fun v29 =>
 (aa v29 300).bind fun v30 =>
 (df (i64 (100 + v30))).bind fun v31 =>
 (o6 Hm v31).bind fun v32 =>
 (o6 v32 Kx).bind fun v33 =>
 (ah v28.1 (i64 (v28.2.1 + 6))).bind fun v34 =>
 (aa v34 300).bind fun v35 =>
 (df (i64 (400 + v35))).bind fun v36 =>
 (o6 v33 v36).bind fun v37 =>
 (o6 v37 zd).bind fun v38 =>
 (o6 v28.2.2.2 v38).bind fun v39 =>
 (o6 Kp v28.2.2.1).bind fun v40 =>
 (o6 v40 Hx).bind fun v41 =>
 (ah v28.1 (i64 (v28.2.1 + 7))).bind fun v42 =>
 (aa v42 4).bind fun v43 =>
 (df (i64 (1 + v43))).bind fun v44 =>
 (o6 v41 v44).bind fun v45 =>
 (o6 v45 L3).bind fun v46 =>
 (o6 v39 v46).bind fun v47 =>
 (ah v28.1 (i64 (v28.2.1 + 8))).bind fun v48 =>
 (aa v48 12).bind fun v49 =>
 (ba (i64 (50 + v49))).bind fun v50 =>
 (o6 Kc v50).bind fun v51 =>
 (o6 v51 Jh).bind fun v52 =>
 (ah v28.1 (i64 (v28.2.1 + 9))).bind fun v53 =>
 (aa v53 6000).bind fun v54 =>
 (ba v54).bind fun v55 =>
 (o6 v52 v55).bind fun v56 =>
 (o6 v56 Jz).bind fun v57 =>
 (ah v28.1 (i64 (v28.2.1 + 10))).bind fun v58 =>
 (aa v58 900).bind fun v59 =>
 (ba v59).bind fun v60 =>
 (o6 v57 v60).bind fun v61 =>
 (o6 v61 Gp).bind fun v62 =>
 (o6 v47 v62).bind fun v63 =>
 (ah v28.1 (i64 (v28.2.1 + 11))).bind fun v64 =>
 (aa v64 2000).bind fun v65 =>
 (ba v65).bind fun v66 =>
 (o6 Kd v66).bind fun v67 =>
 (o6 v67 Ko).bind fun v68 =>
 (ah v28.1 (i64 (v28.2.1 + 12))).bind fun v69 =>
 (aa v69 60).bind fun v70 =>
 (df (i64 (20 + v70))).bind fun v71 =>
 (o6 v68 v71).bind fun v72 =>
 (o6 v72 zd).bind fun v73 =>
 (o6 v63 v73).bind fun v74 =>
 (ah v28.1 (i64 (v28.2.1 + 13))).bind fun v75 =>
 (aa v75 5).bind fun v76 =>
 if (decide (v76 > 0)) then
 (o6 v74 L2).bind fun v77 =>
 joinC kz (v28.1, v28.2.1, v77)
 else
 joinC kz (v28.1, v28.2.1, v74)
def kw (v24 : (List Int) × Int × ByteArray × ByteArray) : Option ByteArray :=
 (ah v24.1 (i64 (v24.2.1 + 4))).bind fun v25 =>
 (aa v25 4).bind fun v26 =>
 if (v26 == 0) then
 (o6 v24.2.2.2 Jy).bind fun v27 =>
 joinC kv (v24.1, v24.2.1, v24.2.2.1, v27)
 else
 joinC kv (v24.1, v24.2.1, v24.2.2.1, v24.2.2.2)
def eo (v9 : (List Int) × Int × ByteArray × ByteArray) : Option ByteArray :=
 (ah v9.1 (i64 (v9.2.1 + 2))).bind fun v10 =>
 (aa v10 900).bind fun v11 =>
 (ba (i64 (1 + v11))).bind fun v12 =>
 (o6 Kw v12).bind fun v13 =>
 (o6 v13 zd).bind fun v14 =>
 (o6 v9.2.2.2 v14).bind fun v15 =>
 (ah v9.1 (i64 (v9.2.1 + 3))).bind fun v16 =>
 (aa v16 3).bind fun v17 =>
 if (decide (v17 > 0)) then
 (ah v9.1 (i64 (v9.2.1 + 3))).bind fun v18 =>
 (aa v18 1000).bind fun v19 =>
 (ba (i64 (100 + v19))).bind fun v20 =>
 (o6 Ho v20).bind fun v21 =>
 (o6 v21 zd).bind fun v22 =>
 (o6 v15 v22).bind fun v23 =>
 joinC kw (v9.1, v9.2.1, v9.2.2.1, v23)
 else
 joinC kw (v9.1, v9.2.1, v9.2.2.1, v15)
def ib (a0 : ByteArray) (a1 : List Int) (a2 : Int) : Option ByteArray :=
 (ah a1 a2).bind fun v1 =>
 (aa v1 90).bind fun v2 =>
 (ba (i64 (300 + v2))).bind fun v3 =>
 (o6 G7 a0).bind fun v4 =>
 (o6 v4 Bk).bind fun v5 =>
 (ah a1 (i64 (a2 + 1))).bind fun v6 =>
 (aa v6 4).bind fun v7 =>
 if (v7 == 0) then
 (o6 v5 Ci).bind fun v8 =>
 joinC eo (a1, a2, v3, v8)
 else
 if (v7 == 1) then
 (o6 v5 Ct).bind fun v110 =>
 joinC eo (a1, a2, v3, v110)
 else
 if (v7 == 2) then
 (o6 v5 G5).bind fun v111 =>
 joinC eo (a1, a2, v3, v111)
 else
 (o6 v5 Bf).bind fun v112 =>
 joinC eo (a1, a2, v3, v112)
def o5 (v14 : Int × (List Int) × ByteArray) : Option ByteArray :=
 (ah v14.2.1 (i64 (37 + v14.1))).bind fun v15 =>
 (aa v15 3).bind fun v16 =>
 if (v16 == 0) then
 (ib zb v14.2.1 (i64 ((i64 (7 * v14.1)) + 5))).bind fun v17 =>
 (o6 v14.2.2 v17).bind fun v18 =>
 (o6 v18 J0).bind fun v19 =>
 some v19
 else
 (o6 v14.2.2 J0).bind fun v20 =>
 some v20
def rx (a0 : Int) (a1 : List Int) : Option ByteArray :=
 (av (⟨[C6, C2, A5], rfl⟩ : Ar 3 ByteArray).l a0).bind fun v1 =>
 (av (⟨[C6, C2, A5], rfl⟩ : Ar 3 ByteArray).l a0).bind fun v2 =>
 (o6 Gn v2).bind fun v3 =>
 (o6 v3 Cj).bind fun v4 =>
 (ba (i64 (1 + a0))).bind fun v5 =>
 (o6 v4 v5).bind fun v6 =>
 (o6 v6 Ri).bind fun v7 =>
 (ib zh a1 (i64 (7 * a0))).bind fun v8 =>
 (o6 v7 v8).bind fun v9 =>
 (ah a1 (i64 (31 + a0))).bind fun v10 =>
 (aa v10 3).bind fun v11 =>
 if (decide (v11 > 0)) then
 (ib zg a1 (i64 ((i64 (7 * a0)) + 3))).bind fun v12 =>
 (o6 v9 v12).bind fun v13 =>
 joinC o5 (a0, a1, v13)
 else
 joinC o5 (a0, a1, v9)
def ya (a0 : ByteArray) (r2 : (Int × Bool) → Option Int) (v1 : Int × Bool) : Option Int :=
 if (decide (v1.1 < (a0.size : Int))) then
 (Bd a0 v1.1).bind fun v3 =>
 if (v3 == 10) then
 r2 (i64 (v1.1 + 1), false)
 else
 if (v3 == 35) then
 r2 (i64 (v1.1 + 1), true)
 else
 (if (!v1.2) then some (v3 != 9) else some false).bind fun v4 =>
 (if v4 then some (v3 != 13) else some false).bind fun v5 =>
 (if v5 then some (v3 != 32) else some false).bind fun v6 =>
 if v6 then
 some v1.1
 else
 r2 (i64 (v1.1 + 1), v1.2)
 else
 some v1.1
def ry (a0 : ByteArray) (a1 : Int) : Option Int :=
 am FU (ya a0) (a1, false)
def j7 (a0 : Int) : Option Bool :=
 (if (decide (a0 ≥ 97)) then some (decide (a0 ≤ 122)) else some false).bind fun v1 =>
 some v1
def i8 (a0 : Int) : Option Bool :=
 (if (decide (a0 ≥ 48)) then some (decide (a0 ≤ 57)) else some false).bind fun v1 =>
 some v1
def zl (a1 : Int) (a0 : ByteArray) (a2 : Bool) (r2 : Int → Option Int) (v1 : Int) : Option Int :=
 (if (decide ((i64 (a1 + v1)) < (a0.size : Int))) then (Bd a0 (i64 (a1 + v1))).bind fun v3 =>
 (j7 v3).bind fun v4 =>
 (if v4 then some true else (Bd a0 (i64 (a1 + v1))).bind fun v5 =>
 (i8 v5).bind fun v6 =>
 some v6).bind fun v7 =>
 (if v7 then some true else (Bd a0 (i64 (a1 + v1))).bind fun v8 =>
 some (v8 == 95)).bind fun v9 =>
 (if v9 then some true else (if a2 then (Bd a0 (i64 (a1 + v1))).bind fun v10 =>
 some (v10 == 46) else some false).bind fun v11 =>
 some v11).bind fun v12 =>
 some v12 else some false).bind fun v13 =>
 if v13 then
 r2 (i64 (v1 + 1))
 else
 some v1
def py (a0 : ByteArray) (a1 : Int) (a2 : Bool) : Option Int :=
 am FU (zl a1 a0 a2) 0
def xe (v11 : Int × ByteArray × ByteArray) (r13 : Int → Option (ByteArray × ByteArray × Int × Bool)) (v12 : Int) : Option (ByteArray × ByteArray × Int × Bool) :=
 if (decide (v12 < (i64 ((v11.2.1.size : Int) + (v11.2.2.size : Int))))) then
 (o6 v11.2.1 v11.2.2).bind fun v14 =>
 (Bd v14 v12).bind fun v15 =>
 (i8 v15).bind fun v16 =>
 if (!v16) then
 some (ng, ng, 0, false)
 else
 r13 (i64 (v12 + 1))
 else
 (if (decide ((v11.2.1.size : Int) < 1)) then some true else some (decide ((v11.2.1.size : Int) > 9))).bind fun v17 =>
 (if v17 then some true else (if (decide ((v11.2.1.size : Int) > 1)) then (Bd v11.2.1 0).bind fun v18 =>
 some (v18 == 48) else some false).bind fun v19 =>
 some v19).bind fun v20 =>
 if v20 then
 some (ng, ng, 0, false)
 else
 some (v11.2.1, v11.2.2, v11.1, true)
def mg (v11 : Int × ByteArray × ByteArray) : Option (ByteArray × ByteArray × Int × Bool) :=
 am FU (xe v11) 0
def xf (v4 : ByteArray × Int) (r6 : (Int × Int) → Option (ByteArray × ByteArray × Int × Bool)) (v5 : Int × Int) : Option (ByteArray × ByteArray × Int × Bool) :=
 if (decide (v5.2 ≥ 0)) then
 (Bd v4.1 v5.2).bind fun v7 =>
 if (v7 == 46) then
 r6 (v5.2, i64 (v5.2 - 1))
 else
 r6 (v5.1, i64 (v5.2 - 1))
 else
 (Jd v4.1 0 v5.1).bind fun v8 =>
 if (decide (v5.1 < (v4.1.size : Int))) then
 (Jd v4.1 (i64 (v5.1 + 1)) (v4.1.size : Int)).bind fun v9 =>
 (if (decide ((v9.size : Int) < 1)) then some true else some (decide ((v9.size : Int) > 4))).bind fun v10 =>
 if v10 then
 some (ng, ng, 0, false)
 else
 joinC mg (v4.2, v8, v9)
 else
 joinC mg (v4.2, v8, ng)
def jm (v4 : ByteArray × Int) : Option (ByteArray × ByteArray × Int × Bool) :=
 am FU (xf v4) ((v4.1.size : Int), i64 ((v4.1.size : Int) - 1))
def n9 (a0 : ByteArray) : Option (ByteArray × ByteArray × Int × Bool) :=
 (if (decide ((a0.size : Int) > 0)) then (Bd a0 (i64 ((a0.size : Int) - 1))).bind fun v1 =>
 some (v1 == 100) else some false).bind fun v2 =>
 if v2 then
 (Jd a0 0 (i64 ((a0.size : Int) - 1))).bind fun v3 =>
 joinC jm (v3, 3)
 else
 (if (decide ((a0.size : Int) > 0)) then (Bd a0 (i64 ((a0.size : Int) - 1))).bind fun v21 =>
 some (v21 == 109) else some false).bind fun v22 =>
 if v22 then
 (Jd a0 0 (i64 ((a0.size : Int) - 1))).bind fun v23 =>
 joinC jm (v23, 4)
 else
 joinC jm (a0, 2)
def xk (a0 : ByteArray) (r2 : (Int × Int) → Option (Int × Bool)) (v1 : Int × Int) : Option (Int × Bool) :=
 if (decide (v1.2 < (a0.size : Int))) then
 (Bd a0 v1.2).bind fun v3 =>
 (if (decide (v3 < 48)) then some true else (Bd a0 v1.2).bind fun v4 =>
 some (decide (v4 > 57))).bind fun v5 =>
 if v5 then
 some (0, false)
 else
 (Bd a0 v1.2).bind fun v6 =>
 r2 (i64 ((i64 (v1.1 * 10)) + (i64 (IntKind.u8.wrap (v6 - 48)))), i64 (v1.2 + 1))
 else
 some (v1.1, decide ((a0.size : Int) > 0))
def jx (a0 : ByteArray) : Option (Int × Bool) :=
 am FU (xk a0) (0, 0)
def oe (a0 : Int) : Option Bool :=
 (Di a0 4).bind fun v1 =>
 (if (v1 == 0) then (Di a0 100).bind fun v2 =>
 (if (v2 != 0) then some true else (Di a0 400).bind fun v3 =>
 some (v3 == 0)).bind fun v4 =>
 some v4 else some false).bind fun v5 =>
 some v5
def dr (a0 : Int) (a1 : Int) : Option Int :=
 if (a1 == 2) then
 (oe a0).bind fun v1 =>
 if v1 then
 some 29
 else
 some 28
 else
 if (a1 == 4) then
 if (a1 == 4) then
 some 30
 else
 some 31
 else
 if (a1 == 6) then
 if (a1 == 6) then
 some 30
 else
 some 31
 else
 if (a1 == 9) then
 if (a1 == 9) then
 some 30
 else
 some 31
 else
 if (a1 == 11) then
 some 30
 else
 some 31
def my (a0 : Int) (r2 : (Int × Int) → Option Int) (v1 : Int × Int) : Option Int :=
 if (decide (v1.2 < a0)) then
 (Gy v1.2 12).bind fun v3 =>
 (Di v1.2 12).bind fun v4 =>
 (dr (i64 (1900 + v3)) (i64 (v4 + 1))).bind fun v5 =>
 r2 (i64 (v1.1 + v5), i64 (v1.2 + 1))
 else
 some v1.1
def ff (a0 : Int) : Option Int :=
 am FU (my a0) (0, 0)
def tp (a0 : Int) (a1 : Int) (a2 : Int) : Option (Int × Bool) :=
 (if (decide (a0 < 1900)) then some true else some (decide (a0 > 2099))).bind fun v1 =>
 (if v1 then some true else some (decide (a1 < 1))).bind fun v2 =>
 (if v2 then some true else some (decide (a1 > 12))).bind fun v3 =>
 (if v3 then some true else some (decide (a2 < 1))).bind fun v4 =>
 (if v4 then some true else (dr a0 a1).bind fun v5 =>
 some (decide (a2 > v5))).bind fun v6 =>
 if v6 then
 some (0, false)
 else
 (ff (i64 ((i64 ((i64 ((i64 (a0 - 1900)) * 12)) + a1)) - 1))).bind fun v7 =>
 some (i64 ((i64 (v7 + a2)) - 1), true)
def jh (a0 : ByteArray) : Option (Int × Bool) :=
 (if ((a0.size : Int) != 10) then some true else (Bd a0 4).bind fun v1 =>
 some (v1 != 45)).bind fun v2 =>
 (if v2 then some true else (Bd a0 7).bind fun v3 =>
 some (v3 != 45)).bind fun v4 =>
 if v4 then
 some (0, false)
 else
 (Jd a0 0 4).bind fun v5 =>
 (jx v5).bind fun v6 =>
 (Jd a0 5 7).bind fun v7 =>
 (jx v7).bind fun v8 =>
 (Jd a0 8 (a0.size : Int)).bind fun v9 =>
 (jx v9).bind fun v10 =>
 (if (!v6.2) then some true else some (!v8.2)).bind fun v11 =>
 (if v11 then some true else some (!v10.2)).bind fun v12 =>
 if v12 then
 some (0, false)
 else
 (tp v6.1 v8.1 v10.1).bind fun v13 =>
 some (v13.1, v13.2)
def ny (v4 : ByteArray × Int) : Option Int :=
 (Bd v4.1 v4.2).bind fun v5 =>
 if (v5 == 60) then
 if (v5 == 60) then
 some 1
 else
 some 0
 else
 if (v5 == 62) then
 if (v5 == 62) then
 some 1
 else
 some 0
 else
 if (v5 == 61) then
 if (v5 == 61) then
 some 1
 else
 some 0
 else
 if (v5 == 43) then
 if (v5 == 43) then
 some 1
 else
 some 0
 else
 if (v5 == 45) then
 if (v5 == 45) then
 some 1
 else
 some 0
 else
 if (v5 == 42) then
 if (v5 == 42) then
 some 1
 else
 some 0
 else
 if (v5 == 47) then
 if (v5 == 47) then
 some 1
 else
 some 0
 else
 if (v5 == 40) then
 if (v5 == 40) then
 some 1
 else
 some 0
 else
 if (v5 == 41) then
 if (v5 == 41) then
 some 1
 else
 some 0
 else
 if (v5 == 123) then
 if (v5 == 123) then
 some 1
 else
 some 0
 else
 if (v5 == 125) then
 if (v5 == 125) then
 some 1
 else
 some 0
 else
 if (v5 == 44) then
 if (v5 == 44) then
 some 1
 else
 some 0
 else
 if (v5 == 59) then
 some 1
 else
 some 0
def s6 (a0 : ByteArray) (a1 : Int) : Option Int :=
 if (decide ((i64 (a1 + 1)) < (a0.size : Int))) then
 (Jd a0 a1 (i64 (a1 + 2))).bind fun v1 =>
 (if (v1.toList == M2.toList) then some true else some (v1.toList == Lt.toList)).bind fun v2 =>
 (if v2 then some true else some (v1.toList == Md.toList)).bind fun v3 =>
 if v3 then
 some 2
 else
 joinC ny (a0, a1)
 else
 joinC ny (a0, a1)
def fd (v6 : ByteArray × Int × Token × Int × Int × Bool) : Option (Token × Int × Int) :=
 if (!v6.2.2.2.2.2) then
 some ((⟨0, ng, 0⟩ : Token), v6.2.1, 4)
 else
 (Jd v6.1 v6.2.1 (i64 (v6.2.1 + v6.2.2.2.2.1))).bind fun v7 =>
 some ((⟨v6.2.2.2.1, v7, v6.2.1⟩ : Token), i64 (v6.2.1 + v6.2.2.2.2.1), 0)
def ru (a0 : ByteArray) (a1 : Int) : Option (Token × Int × Int) :=
 (if (decide (a1 < 0)) then some true else some (decide (a1 > (a0.size : Int)))).bind fun v1 =>
 if v1 then
 some ((⟨0, ng, 0⟩ : Token), 0, 1)
 else
 (ry a0 a1).bind fun v2 =>
 if (v2 == (a0.size : Int)) then
 some ((⟨0, ng, v2⟩ : Token), v2, 0)
 else
 (Bd a0 v2).bind fun v3 =>
 (j7 v3).bind fun v4 =>
 if v4 then
 (py a0 v2 false).bind fun v5 =>
 joinC fd (a0, v2, (⟨0, ng, 0⟩ : Token), 1, v5, decide (v5 ≤ 12))
 else
 (Bd a0 v2).bind fun v8 =>
 (i8 v8).bind fun v9 =>
 if v9 then
 (py a0 v2 true).bind fun v10 =>
 (Jd a0 v2 (i64 (v2 + v10))).bind fun v11 =>
 (n9 v11).bind fun v12 =>
 joinC fd (a0, v2, (⟨0, ng, 0⟩ : Token), 2, v10, v12.2.2.2)
 else
 (Bd a0 v2).bind fun v13 =>
 if (v13 == 64) then
 if (decide ((i64 ((a0.size : Int) - v2)) ≥ 11)) then
 (Jd a0 (i64 (v2 + 1)) (i64 (v2 + 11))).bind fun v14 =>
 (jh v14).bind fun v15 =>
 joinC fd (a0, v2, (⟨0, ng, 0⟩ : Token), 3, 11, v15.2)
 else
 joinC fd (a0, v2, (⟨0, ng, 0⟩ : Token), 3, 11, decide ((i64 ((a0.size : Int) - v2)) ≥ 11))
 else
 (s6 a0 v2).bind fun v16 =>
 joinC fd (a0, v2, (⟨0, ng, 0⟩ : Token), 4, v16, decide (v16 > 0))
def yz (a0 : ByteArray) (r2 : ((List Token) × Int) → Option ((List Token) × Int × Int)) (v1 : (List Token) × Int) : Option ((List Token) × Int × Int) :=
 (ru a0 v1.2).bind fun v3 =>
 if (v3.2.2 != 0) then
 some ([], v3.2.1, v3.2.2)
 else
 if (v3.1.Kind == 0) then
 some (v1.1, 0, 0)
 else
 (m8 32 v1.1 [v3.1]).bind fun v4 =>
 r2 (v4, v3.2.1)
def tu (a0 : ByteArray) : Option ((List Token) × Int × Int) :=
 if (decide ((a0.size : Int) > 8000)) then
 some ([], 0, 7)
 else
 am FU (yz a0) ([], 0)
def qi (a0 : ByteArray) : Option ((Option pensionref5_reader) × Int × Int) :=
 (tu a0).bind fun v1 =>
 if (v1.2.2 != 0) then
 some (none, v1.2.1, v1.2.2)
 else
 some (some (⟨v1.1, 0, (a0.size : Int), false⟩ : pensionref5_reader), 0, 0)
def d5 (a0 : pensionref5_reader) (a1 : ByteArray) : Option Bool :=
 (if (!a0.bad) then some (decide (a0.at_ < (a0.l.length : Int))) else some false).bind fun v1 =>
 (if v1 then (av a0.l a0.at_).bind fun v2 =>
 some (v2.Text.toList == a1.toList) else some false).bind fun v3 =>
 some v3
def ak (a0 : pensionref5_reader) (a1 : ByteArray) : Option (Bool × pensionref5_reader) :=
 (d5 a0 a1).bind fun v1 =>
 if (!v1) then
 some (false, a0)
 else
 some (true, (⟨a0.l, i64 (a0.at_ + 1), a0.end_, a0.bad⟩ : pensionref5_reader))
def br (a0 : pensionref5_reader) : Option pensionref5_reader :=
 some (⟨a0.l, a0.at_, a0.end_, true⟩ : pensionref5_reader)
def ab (a0 : pensionref5_reader) (a1 : ByteArray) : Option pensionref5_reader :=
 (ak a0 a1).bind fun v1 =>
 if (!v1.1) then
 (br v1.2).bind fun v2 =>
 some v2
 else
 some v1.2
def ch (a0 : pensionref5_reader) (a1 : Int) : Option Bool :=
 (if (!a0.bad) then some (decide (a0.at_ < (a0.l.length : Int))) else some false).bind fun v1 =>
 (if v1 then (av a0.l a0.at_).bind fun v2 =>
 some (v2.Kind == a1) else some false).bind fun v3 =>
 some v3
def wg (a0 : ByteArray) (r2 : Int → Option Bool) (v1 : Int) : Option Bool :=
 if (decide (v1 < (a0.size : Int))) then
 (Bd a0 v1).bind fun v3 =>
 (j7 v3).bind fun v4 =>
 (if (!v4) then (if (v1 == 0) then some true else (Bd a0 v1).bind fun v5 =>
 (i8 v5).bind fun v6 =>
 (if (!v6) then (Bd a0 v1).bind fun v7 =>
 some (v7 != 95) else some false).bind fun v8 =>
 some v8).bind fun v9 =>
 some v9 else some false).bind fun v10 =>
 if v10 then
 some false
 else
 r2 (i64 (v1 + 1))
 else
 (if (decide ((a0.size : Int) ≥ 1)) then some (decide ((a0.size : Int) ≤ 12)) else some false).bind fun v11 =>
 some v11
def pg (a0 : ByteArray) : Option Bool :=
 am FU (wg a0) 0
def nj (a0 : ByteArray) : Option Bool :=
 if (a0.toList == Tz.toList) then
 if (a0.toList == Tz.toList) then
 some true
 else
 some false
 else
 if (a0.toList == Nt.toList) then
 if (a0.toList == Nt.toList) then
 some true
 else
 some false
 else
 if (a0.toList == a06.toList) then
 if (a0.toList == a06.toList) then
 some true
 else
 some false
 else
 if (a0.toList == Fb.toList) then
 if (a0.toList == Fb.toList) then
 some true
 else
 some false
 else
 if (a0.toList == Bx.toList) then
 if (a0.toList == Bx.toList) then
 some true
 else
 some false
 else
 if (a0.toList == N0.toList) then
 if (a0.toList == N0.toList) then
 some true
 else
 some false
 else
 if (a0.toList == Kb.toList) then
 if (a0.toList == Kb.toList) then
 some true
 else
 some false
 else
 if (a0.toList == Ng.toList) then
 if (a0.toList == Ng.toList) then
 some true
 else
 some false
 else
 if (a0.toList == Kv.toList) then
 if (a0.toList == Kv.toList) then
 some true
 else
 some false
 else
 if (a0.toList == Vr.toList) then
 if (a0.toList == Vr.toList) then
 some true
 else
 some false
 else
 if (a0.toList == Jk.toList) then
 if (a0.toList == Jk.toList) then
 some true
 else
 some false
 else
 if (a0.toList == U9.toList) then
 if (a0.toList == U9.toList) then
 some true
 else
 some false
 else
 if (a0.toList == Jv.toList) then
 if (a0.toList == Jv.toList) then
 some true
 else
 some false
 else
 if (a0.toList == V8.toList) then
 if (a0.toList == V8.toList) then
 some true
 else
 some false
 else
 if (a0.toList == Uw.toList) then
 if (a0.toList == Uw.toList) then
 some true
 else
 some false
 else
 if (a0.toList == Tm.toList) then
 if (a0.toList == Tm.toList) then
 some true
 else
 some false
 else
 if (a0.toList == a3h.toList) then
 if (a0.toList == a3h.toList) then
 some true
 else
 some false
 else
 if (a0.toList == V6.toList) then
 if (a0.toList == V6.toList) then
 some true
 else
 some false
 else
 if (a0.toList == Fl.toList) then
 if (a0.toList == Fl.toList) then
 some true
 else
 some false
 else
 if (a0.toList == Hq.toList) then
 if (a0.toList == Hq.toList) then
 some true
 else
 some false
 else
 if (a0.toList == D5.toList) then
 if (a0.toList == D5.toList) then
 some true
 else
 some false
 else
 if (a0.toList == X5.toList) then
 some true
 else
 some false
def g9 (a0 : ByteArray) : Option Bool :=
 (pg a0).bind fun v1 =>
 (if v1 then (nj a0).bind fun v2 =>
 some (!v2) else some false).bind fun v3 =>
 some v3
def ef (a0 : pensionref5_reader) : Option (ByteArray × pensionref5_reader) :=
 (ch a0 1).bind fun v1 =>
 (if (!v1) then some true else (av a0.l a0.at_).bind fun v2 =>
 (g9 v2.Text).bind fun v3 =>
 some (!v3)).bind fun v4 =>
 if v4 then
 (br a0).bind fun v5 =>
 some (ng, v5)
 else
 (av a0.l (i64 ((i64 (a0.at_ + 1)) - 1))).bind fun v6 =>
 some (v6.Text, (⟨a0.l, i64 (a0.at_ + 1), a0.end_, a0.bad⟩ : pensionref5_reader))
def je (a0 : Int) : Option Int :=
 if (decide (a0 < 0)) then
 some (u64 ((u64 (i64 (-(i64 (a0 + 1))))) + 1))
 else
 some (u64 (a0))
def Dn (v4 : Int × Int) : Option Int :=
 if (decide (v4.1 ≥ 256)) then
 (X6 .u64 v4.1 8).bind fun v5 =>
 (Bd Jm (IntKind.u8.wrap (v5))).bind fun v6 =>
 some (i64 ((i64 (v4.2 + 8)) + (i64 (v6))))
 else
 (Bd Jm (IntKind.u8.wrap (v4.1))).bind fun v7 =>
 some (i64 (v4.2 + (i64 (v7))))
def E6 (v2 : Int × Int) : Option Int :=
 if (decide (v2.1 ≥ 65536)) then
 (X6 .u64 v2.1 16).bind fun v3 =>
 joinC Dn (v3, i64 (v2.2 + 16))
 else
 joinC Dn (v2.1, v2.2)
def F0 (a0 : Int) : Option Int :=
 if (decide (a0 ≥ 4294967296)) then
 (X6 .u64 a0 32).bind fun v1 =>
 joinC E6 (v1, 32)
 else
 joinC E6 (a0, 0)
def yc (a0 : Int) : Option Int :=
 (F0 a0).bind fun v1 =>
 some (i64 (64 - v1))
def Dr (v21 : Int × Int × Int × Int × Int × Int) : Option (Int × Int) :=
 (X6 .u64 (u64 ((u64 ((u64 (v21.2.2.2.2.1 * 4294967296)) + v21.2.2.1)) - (u64 (v21.2.2.2.2.2 * v21.1)))) v21.2.1).bind fun v22 =>
 some (u64 ((u64 (v21.2.2.2.1 * 4294967296)) + v21.2.2.2.2.2), v22)
def Pg (v16 : Int × Int × Int × Int × Int × Int × Int × Int) (r19 : (Int × Int) → Option (Int × Int)) (v18 : Int × Int) : Option (Int × Int) :=
 (if (decide (v18.2 ≥ 4294967296)) then some true else some (decide ((u64 (v18.2 * v16.2.2.2.1)) > (u64 ((u64 (4294967296 * v18.1)) + v16.2.2.2.2.2.2.1))))).bind fun v20 =>
 if v20 then
 if (decide ((u64 (v18.1 + v16.2.2.1)) ≥ 4294967296)) then
 joinC Dr (v16.1, v16.2.1, v16.2.2.2.2.2.2.1, v16.2.2.2.2.2.2.2, u64 ((u64 ((u64 (v16.2.2.2.2.1 * 4294967296)) + v16.2.2.2.2.2.1)) - (u64 (v16.2.2.2.2.2.2.2 * v16.1))), u64 (v18.2 - 1))
 else
 r19 (u64 (v18.1 + v16.2.2.1), u64 (v18.2 - 1))
 else
 joinC Dr (v16.1, v16.2.1, v16.2.2.2.2.2.2.1, v16.2.2.2.2.2.2.2, u64 ((u64 ((u64 (v16.2.2.2.2.1 * 4294967296)) + v16.2.2.2.2.2.1)) - (u64 (v16.2.2.2.2.2.2.2 * v16.1))), v18.2)
def Du (v16 : Int × Int × Int × Int × Int × Int × Int × Int) : Option (Int × Int) :=
 (if v16.2.2.1 = 0 then none else some (u64 (Int.tdiv (u64 ((u64 ((u64 (v16.2.2.2.2.1 * 4294967296)) + v16.2.2.2.2.2.1)) - (u64 (v16.2.2.2.2.2.2.2 * v16.1)))) v16.2.2.1))).bind fun v17 =>
 am FU (Pg v16) (u64 ((u64 ((u64 ((u64 (v16.2.2.2.2.1 * 4294967296)) + v16.2.2.2.2.2.1)) - (u64 (v16.2.2.2.2.2.2.2 * v16.1)))) - (u64 (v17 * v16.2.2.1))), v17)
def N5 (v6 : Int) (v11 : Int) (v7 : Int) (v5 : Int) (v8 : Int) (v9 : Int) (v10 : Int) (r14 : (Int × Int) → Option (Int × Int)) (v13 : Int × Int) : Option (Int × Int) :=
 (if (decide (v13.1 ≥ 4294967296)) then some true else some (decide ((u64 (v13.1 * (a9c .u64 v6 4294967295))) > (u64 ((u64 (4294967296 * v13.2)) + v11))))).bind fun v15 =>
 if v15 then
 if (decide ((u64 (v13.2 + v7)) ≥ 4294967296)) then
 joinC Du (v6, u64 (v5), v7, a9c .u64 v6 4294967295, orK .u64 v8 v9, v11, a9c .u64 v10 4294967295, u64 (v13.1 - 1))
 else
 r14 (u64 (v13.1 - 1), u64 (v13.2 + v7))
 else
 joinC Du (v6, u64 (v5), v7, a9c .u64 v6 4294967295, orK .u64 v8 v9, v11, a9c .u64 v10 4294967295, v13.1)
def E2 (v2 : Int × Int × Int) : Option (Int × Int) :=
 if (v2.1 == 0) then
 (if v2.2.2 = 0 then none else some (u64 (Int.tdiv v2.2.1 v2.2.2))).bind fun v3 =>
 (Di v2.2.1 v2.2.2).bind fun v4 =>
 some (v3, v4)
 else
 (yc v2.2.2).bind fun v5 =>
 (adm .u64 v2.2.2 (u64 (v5))).bind fun v6 =>
 (X6 .u64 v6 32).bind fun v7 =>
 (adm .u64 v2.1 (u64 (v5))).bind fun v8 =>
 (X6 .u64 v2.2.1 (u64 (64 - (u64 (v5))))).bind fun v9 =>
 (adm .u64 v2.2.1 (u64 (v5))).bind fun v10 =>
 (X6 .u64 v10 32).bind fun v11 =>
 (if v7 = 0 then none else some (u64 (Int.tdiv (orK .u64 v8 v9) v7))).bind fun v12 =>
 am FU (N5 v6 v11 v7 v5 v8 v9 v10) (v12, u64 ((orK .u64 v8 v9) - (u64 (v12 * v7))))
def E7 (v1 : Int × Int × Int) : Option (Int × Int) :=
 if (decide (v1.2.2 ≤ v1.1)) then
 none
 else
 joinC E2 (v1.1, v1.2.1, v1.2.2)
def Ca (a0 : Int) (a1 : Int) (a2 : Int) : Option (Int × Int) :=
 if (a2 == 0) then
 none
 else
 joinC E7 (a0, a1, a2)
def ix (a0 : pensionref1_wide) (a1 : Int) : Option (pensionref1_wide × Int) :=
 (Di a0.hi a1).bind fun v1 =>
 (Ca v1 a0.lo a1).bind fun v2 =>
 (if a1 = 0 then none else some (u64 (Int.tdiv a0.hi a1))).bind fun v3 =>
 some ((⟨v3, v2.1⟩ : pensionref1_wide), v2.2)
def zk (r2 : (Int × Int) → Option Int) (v1 : Int × Int) : Option Int :=
 if (v1.2 != 0) then
 (Di v1.1 v1.2).bind fun v3 =>
 r2 (v1.2, v3)
 else
 some v1.1
def qb (a0 : Int) (a1 : Int) : Option Int :=
 am FU zk (a0, a1)
def tq (a0 : Bool) (a1 : pensionref1_wide) (a2 : Int) : Option (Fraction × Int) :=
 (ix a1 a2).bind fun v1 =>
 (qb a2 v1.2).bind fun v2 =>
 (ix a1 v2).bind fun v3 =>
 (if v2 = 0 then none else some (u64 (Int.tdiv a2 v2))).bind fun v4 =>
 (if (v3.1.hi != 0) then some true else some (decide (v3.1.lo > 1000000000000000))).bind fun v5 =>
 (if v5 then some true else some (decide (v4 > 1000000000))).bind fun v6 =>
 if v6 then
 some ((⟨0, 0⟩ : Fraction), 2)
 else
 if a0 then
 some ((⟨i64 (-(i64 (v3.1.lo))), i64 (v4)⟩ : Fraction), 0)
 else
 some ((⟨i64 (v3.1.lo), i64 (v4)⟩ : Fraction), 0)
def ja (a0 : Int) (a1 : Int) : Option (Fraction × Int) :=
 if (a1 == 0) then
 some ((⟨0, 0⟩ : Fraction), 3)
 else
 (je a0).bind fun v1 =>
 (je a1).bind fun v2 =>
 (tq ((decide (a0 < 0)) != (decide (a1 < 0))) (⟨0, v1⟩ : pensionref1_wide) v2).bind fun v3 =>
 some (v3.1, v3.2)
def ul (v1 : ByteArray × ByteArray × Int × Bool) (r3 : (Fraction × Int × Int × Int) → Option (Fraction × Int × Bool)) (v2 : Fraction × Int × Int × Int) : Option (Fraction × Int × Bool) :=
 if (decide (v2.2.2.2 < (i64 ((v1.1.size : Int) + (v1.2.1.size : Int))))) then
 (o6 v1.1 v1.2.1).bind fun v4 =>
 (Bd v4 v2.2.2.2).bind fun v5 =>
 if (decide (v2.2.2.2 ≥ (v1.1.size : Int))) then
 r3 (v2.1, i64 ((i64 (v2.2.1 * 10)) + (i64 (IntKind.u8.wrap (v5 - 48)))), i64 (v2.2.2.1 * 10), i64 (v2.2.2.2 + 1))
 else
 r3 (v2.1, i64 ((i64 (v2.2.1 * 10)) + (i64 (IntKind.u8.wrap (v5 - 48)))), v2.2.2.1, i64 (v2.2.2.2 + 1))
 else
 (ja v2.2.1 v2.2.2.1).bind fun v6 =>
 some (v6.1, v1.2.2.1, true)
def ic (a0 : ByteArray) : Option (Fraction × Int × Bool) :=
 (n9 a0).bind fun v1 =>
 if (!v1.2.2.2) then
 some ((⟨0, 0⟩ : Fraction), 0, false)
 else
 am FU (ul v1) ((⟨0, 0⟩ : Fraction), 0, 1, 0)
def ct (a0 : pensionref5_reader) (a1 : Int) (a2 : Int) : Option (Int × pensionref5_reader) :=
 (ch a0 2).bind fun v1 =>
 if v1 then
 (av a0.l a0.at_).bind fun v2 =>
 (ic v2.Text).bind fun v3 =>
 (if (v3.2.1 == 2) then some (v3.1.Den == 1) else some false).bind fun v4 =>
 (if v4 then some (decide (v3.1.Num ≥ a1)) else some false).bind fun v5 =>
 (if v5 then some (decide (v3.1.Num ≤ a2)) else some false).bind fun v6 =>
 if v6 then
 some (v3.1.Num, (⟨a0.l, i64 (a0.at_ + 1), a0.end_, a0.bad⟩ : pensionref5_reader))
 else
 (br a0).bind fun v7 =>
 some (0, v7)
 else
 (br a0).bind fun v8 =>
 some (0, v8)
def qd (a0 : ByteArray) : Option Int :=
 (Jd a0 1 (a0.size : Int)).bind fun v1 =>
 (jh v1).bind fun v2 =>
 some v2.1
def o9 (a0 : ByteArray) : Option Int :=
 if (a0.toList == Eo.toList) then
 some 6
 else
 if (a0.toList == Ks.toList) then
 some 9
 else
 if (a0.toList == Cr.toList) then
 some 7
 else
 if (a0.toList == Xm.toList) then
 some 8
 else
 if (a0.toList == R2.toList) then
 some 10
 else
 if (a0.toList == Dz.toList) then
 some 5
 else
 some 0
def kf (a0 : ByteArray) : Option Int :=
 if (a0.toList == a0w.toList) then
 some 1
 else
 if (a0.toList == Cl.toList) then
 some 2
 else
 if (a0.toList == Fx.toList) then
 some 3
 else
 if (a0.toList == M3.toList) then
 some 4
 else
 if (a0.toList == Ft.toList) then
 some 5
 else
 some 0
def oh (a0 : ByteArray) : Option Int :=
 if (a0.toList == Xg.toList) then
 some 1
 else
 if (a0.toList == aaf.toList) then
 some 2
 else
 if (a0.toList == W6.toList) then
 some 3
 else
 if (a0.toList == Wh.toList) then
 some 4
 else
 some 0
def dz (a0 : pensionref5_reader) (a1 : Int) : Option (Int × pensionref5_reader) :=
 (ch a0 1).bind fun v1 =>
 if v1 then
 (av a0.l a0.at_).bind fun v2 =>
 (o9 v2.Text).bind fun v3 =>
 (kf v2.Text).bind fun v4 =>
 (oh v2.Text).bind fun v5 =>
 (av [v3, v4, v5] (i64 (a1 - 1))).bind fun v6 =>
 (av [v3, v4, v5] (i64 (a1 - 1))).bind fun v7 =>
 if (decide (v7 > 0)) then
 some (v7, (⟨a0.l, i64 (a0.at_ + 1), a0.end_, a0.bad⟩ : pensionref5_reader))
 else
 (br a0).bind fun v8 =>
 some (0, v8)
 else
 (br a0).bind fun v9 =>
 some (0, v9)
def o7 (a0 : Int) : Option Int :=
 (if (decide (a0 ≥ 1)) then some (decide (a0 ≤ 3)) else some false).bind fun v1 =>
 if v1 then
 some 0
 else
 (if (decide (a0 ≥ 4)) then some (decide (a0 ≤ 6)) else some false).bind fun v2 =>
 if v2 then
 some 1
 else
 (if (decide (a0 ≥ 7)) then some (decide (a0 ≤ 20)) else some false).bind fun v3 =>
 if v3 then
 some 2
 else
 if (a0 == 21) then
 some 3
 else
 some (-1 : Int)
def mn (v2 : Int × Bool) : Option Int :=
 if v2.2 then
 some 5
 else
 if (v2.1 == 9) then
 if (v2.1 == 9) then
 some 6
 else
 some 7
 else
 if (v2.1 == 10) then
 some 6
 else
 some 7
def dj (v1 : Int × Bool) : Option Int :=
 if v1.2 then
 some 4
 else
 if (v1.1 == 7) then
 joinC mn (v1.1, v1.1 == 7)
 else
 joinC mn (v1.1, v1.1 == 8)
def qq (a0 : Int) : Option Int :=
 if (a0 == 21) then
 some 0
 else
 if (a0 == 18) then
 some 1
 else
 if (a0 == 17) then
 some 2
 else
 if (a0 == 5) then
 some 3
 else
 if (a0 == 11) then
 joinC dj (a0, a0 == 11)
 else
 if (a0 == 12) then
 joinC dj (a0, a0 == 12)
 else
 if (a0 == 13) then
 joinC dj (a0, a0 == 13)
 else
 if (a0 == 14) then
 joinC dj (a0, a0 == 14)
 else
 if (a0 == 15) then
 joinC dj (a0, a0 == 15)
 else
 joinC dj (a0, a0 == 16)
def p5 (a0 : Int) : Option ByteArray :=
 if (a0 == 7) then
 some ab0
 else
 if (a0 == 8) then
 some Ty
 else
 if (a0 == 9) then
 some adb
 else
 if (a0 == 10) then
 some a4v
 else
 if (a0 == 11) then
 some ack
 else
 if (a0 == 12) then
 some M2
 else
 if (a0 == 13) then
 some a28
 else
 if (a0 == 14) then
 some Md
 else
 if (a0 == 15) then
 some acf
 else
 if (a0 == 16) then
 some Lt
 else
 if (a0 == 17) then
 some Tz
 else
 some a3h
def oz (a1 : Int) (a0 : pensionref5_reader) (r2 : Int → Option Int) (v1 : Int) : Option Int :=
 if (decide (v1 ≤ 18)) then
 (qq v1).bind fun v3 =>
 (if (v3 == a1) then (p5 v1).bind fun v4 =>
 (d5 a0 v4).bind fun v5 =>
 some v5 else some false).bind fun v6 =>
 if v6 then
 some v1
 else
 r2 (i64 (v1 + 1))
 else
 some 0
def iq (a0 : pensionref5_reader) (a1 : Int) : Option Int :=
 am FU (oz a1 a0) 7
structure Ring_pensionref5_reader_expr where
  f_pensionref5_reader_expr : pensionref5_reader → Int → Option (Expr × pensionref5_reader)
  f_pensionref5_reader_factor : pensionref5_reader → Option (Expr × pensionref5_reader)
  f_pensionref5_reader_call : pensionref5_reader → Int → Option (Expr × pensionref5_reader)
def rd (R : Ring_pensionref5_reader_expr) (a1 : Int) (r14 : (pensionref5_reader × (List Expr) × Expr × Expr) → Option (Expr × pensionref5_reader)) (v13 : pensionref5_reader × (List Expr) × Expr × Expr) : Option (Expr × pensionref5_reader) :=
 if (!v13.1.bad) then
 (iq v13.1 a1).bind fun v15 =>
 if (v15 == 0) then
 some (v13.2.2.2, v13.1)
 else
 (R.f_pensionref5_reader_expr (⟨v13.1.l, i64 (v13.1.at_ + 1), v13.1.end_, v13.1.bad⟩ : pensionref5_reader) (i64 (a1 + 1))).bind fun v16 =>
 if (a1 == 4) then
 some ((⟨v15, (⟨0, 0⟩ : Fraction), 0, ng, [v13.2.2.2, v16.1]⟩ : Expr), v16.2)
 else
 r14 (v16.2, v13.2.1, (⟨v13.2.2.1.Op, v13.2.2.1.Value, v13.2.2.1.Dim, v13.2.2.1.Name, []⟩ : Expr), (⟨v15, (⟨0, 0⟩ : Fraction), 0, ng, [v13.2.2.2, v16.1]⟩ : Expr))
 else
 some (v13.2.2.2, v13.1)
def iu (R : Ring_pensionref5_reader_expr) (a0 : pensionref5_reader) (a1 : Int) : Option (Expr × pensionref5_reader) :=
 if a0.bad then
 some ((⟨0, (⟨0, 0⟩ : Fraction), 0, ng, []⟩ : Expr), a0)
 else
 if (a1 == 0) then
 (ak a0 Vr).bind fun v1 =>
 if (!v1.1) then
 (R.f_pensionref5_reader_expr v1.2 1).bind fun v2 =>
 some (v2.1, v2.2)
 else
 (R.f_pensionref5_reader_expr v1.2 0).bind fun v3 =>
 (ab v3.2 X5).bind fun v4 =>
 (R.f_pensionref5_reader_expr v4 0).bind fun v5 =>
 (ab v5.2 N0).bind fun v6 =>
 (R.f_pensionref5_reader_expr v6 0).bind fun v7 =>
 some ((⟨21, (⟨0, 0⟩ : Fraction), 0, ng, [v3.1, v5.1, v7.1]⟩ : Expr), v7.2)
 else
 if (a1 == 3) then
 (ak a0 Tm).bind fun v8 =>
 if v8.1 then
 (R.f_pensionref5_reader_expr v8.2 3).bind fun v9 =>
 some ((⟨5, (⟨0, 0⟩ : Fraction), 0, ng, [v9.1]⟩ : Expr), v9.2)
 else
 (R.f_pensionref5_reader_expr v8.2 4).bind fun v10 =>
 some (v10.1, v10.2)
 else
 if (a1 == 7) then
 (R.f_pensionref5_reader_factor a0).bind fun v11 =>
 some (v11.1, v11.2)
 else
 (R.f_pensionref5_reader_expr a0 (i64 (a1 + 1))).bind fun v12 =>
 am FU (rd R a1) (v12.2, [], (⟨0, (⟨0, 0⟩ : Fraction), 0, ng, []⟩ : Expr), v12.1)
def fw (R : Ring_pensionref5_reader_expr) (a0 : pensionref5_reader) : Option (Expr × pensionref5_reader) :=
 (ch a0 2).bind fun v1 =>
 if v1 then
 (av a0.l a0.at_).bind fun v2 =>
 (ic v2.Text).bind fun v3 =>
 some ((⟨1, v3.1, v3.2.1, ng, []⟩ : Expr), (⟨a0.l, i64 (a0.at_ + 1), a0.end_, a0.bad⟩ : pensionref5_reader))
 else
 (ak a0 Ty).bind fun v4 =>
 if v4.1 then
 (R.f_pensionref5_reader_expr v4.2 7).bind fun v5 =>
 some ((⟨4, (⟨0, 0⟩ : Fraction), 0, ng, [v5.1]⟩ : Expr), v5.2)
 else
 (ak v4.2 Uy).bind fun v6 =>
 if v6.1 then
 (R.f_pensionref5_reader_expr v6.2 0).bind fun v7 =>
 (ab v7.2 Pe).bind fun v8 =>
 some (v7.1, v8)
 else
 (ak v6.2 Nt).bind fun v9 =>
 if v9.1 then
 (ab v9.2 Uy).bind fun v10 =>
 (ct v10 1 45).bind fun v11 =>
 (ab v11.2 Pe).bind fun v12 =>
 some ((⟨3, (⟨v11.1, 1⟩ : Fraction), 0, ng, []⟩ : Expr), v12)
 else
 (d5 v9.2 Kb).bind fun v13 =>
 if v13 then
 (R.f_pensionref5_reader_call v9.2 6).bind fun v14 =>
 some (v14.1, v14.2)
 else
 (d5 v9.2 Uw).bind fun v15 =>
 if v15 then
 (R.f_pensionref5_reader_call v9.2 19).bind fun v16 =>
 some (v16.1, v16.2)
 else
 (d5 v9.2 V8).bind fun v17 =>
 if v17 then
 (R.f_pensionref5_reader_call v9.2 20).bind fun v18 =>
 some (v18.1, v18.2)
 else
 (ef v9.2).bind fun v19 =>
 some ((⟨2, (⟨0, 0⟩ : Fraction), 0, v19.1, []⟩ : Expr), v19.2)
def ip (R : Ring_pensionref5_reader_expr) (a0 : pensionref5_reader) (a1 : Int) : Option (Expr × pensionref5_reader) :=
 (ab (⟨a0.l, i64 (a0.at_ + 1), a0.end_, a0.bad⟩ : pensionref5_reader) Uy).bind fun v1 =>
 (R.f_pensionref5_reader_expr v1 0).bind fun v2 =>
 (o7 a1).bind fun v3 =>
 if (v3 == 2) then
 (ab v2.2 acw).bind fun v4 =>
 (av [v2.1] 0).bind fun v5 =>
 (R.f_pensionref5_reader_expr v4 0).bind fun v6 =>
 (ab v6.2 Pe).bind fun v7 =>
 some ((⟨a1, (⟨0, 0⟩ : Fraction), 0, ng, [v5, v6.1]⟩ : Expr), v7)
 else
 (ab v2.2 Pe).bind fun v8 =>
 some ((⟨a1, (⟨0, 0⟩ : Fraction), 0, ng, [v2.1]⟩ : Expr), v8)
def ai : Nat → Ring_pensionref5_reader_expr
  | 0 => ⟨fun _ _ => none, fun _ => none, fun _ _ => none⟩
  | n + 1 => ⟨iu (ai n), fw (ai n), ip (ai n)⟩
def el (a0 : pensionref5_reader) (a1 : Int) : Option (Expr × pensionref5_reader) := (ai FU).f_pensionref5_reader_expr a0 a1
def fk (v5 : pensionref5_reader × (List Credit) × (List Index) × (List Let) × (List Grant) × (List Reduce) × Version × Credit) : Option (pensionref5_reader × Version × (List Credit) × (List Index) × (List Let) × (List Grant) × (List Reduce)) :=
 (m8 16 v5.2.1 [v5.2.2.2.2.2.2.2]).bind fun v6 =>
 (ab v5.1 Cv).bind fun v7 =>
 some (v7, (⟨v5.2.2.2.2.2.2.1.From, v5.2.2.2.2.2.2.1.Rounding, [], [], [], [], []⟩ : Version), v6, v5.2.2.1, v5.2.2.2.1, v5.2.2.2.2.1, v5.2.2.2.2.2.1)
def fo (v16 : pensionref5_reader × (List Credit) × (List Index) × (List Let) × (List Grant) × (List Reduce) × Version × Index) : Option (pensionref5_reader × Version × (List Credit) × (List Index) × (List Let) × (List Grant) × (List Reduce)) :=
 (m8 24 v16.2.2.1 [v16.2.2.2.2.2.2.2]).bind fun v17 =>
 (ab v16.1 Cv).bind fun v18 =>
 some (v18, (⟨v16.2.2.2.2.2.2.1.From, v16.2.2.2.2.2.2.1.Rounding, [], [], [], [], []⟩ : Version), v16.2.1, v17, v16.2.2.2.1, v16.2.2.2.2.1, v16.2.2.2.2.2.1)
def dv (v14 : pensionref5_reader × (List Credit) × (List Index) × (List Let) × (List Grant) × (List Reduce) × Version × Index) : Option (pensionref5_reader × Version × (List Credit) × (List Index) × (List Let) × (List Grant) × (List Reduce)) :=
 if (v14.2.2.2.2.2.2.2.Factor.Den == 0) then
 (br v14.1).bind fun v15 =>
 joinC fo (v15, v14.2.1, v14.2.2.1, v14.2.2.2.1, v14.2.2.2.2.1, v14.2.2.2.2.2.1, (⟨v14.2.2.2.2.2.2.1.From, v14.2.2.2.2.2.2.1.Rounding, [], [], [], [], []⟩ : Version), v14.2.2.2.2.2.2.2)
 else
 joinC fo (v14.1, v14.2.1, v14.2.2.1, v14.2.2.2.1, v14.2.2.2.2.1, v14.2.2.2.2.2.1, (⟨v14.2.2.2.2.2.2.1.From, v14.2.2.2.2.2.2.1.Rounding, [], [], [], [], []⟩ : Version), v14.2.2.2.2.2.2.2)
def il (a0 : pensionref5_reader) (a1 : Version) (a2 : List Credit) (a3 : List Index) (a4 : List Let) (a5 : List Grant) (a6 : List Reduce) : Option (pensionref5_reader × Version × (List Credit) × (List Index) × (List Let) × (List Grant) × (List Reduce)) :=
 (ak a0 Fb).bind fun v1 =>
 if v1.1 then
 (dz v1.2 1).bind fun v2 =>
 (ak v2.2 Jv).bind fun v3 =>
 if v3.1 then
 (ct v3.2 1 73049).bind fun v4 =>
 joinC fk (v4.2, a2, a3, a4, a5, a6, (⟨a1.From, a1.Rounding, [], [], [], [], []⟩ : Version), (⟨v2.1, v4.1⟩ : Credit))
 else
 joinC fk (v3.2, a2, a3, a4, a5, a6, (⟨a1.From, a1.Rounding, [], [], [], [], []⟩ : Version), (⟨v2.1, 0⟩ : Credit))
 else
 (ak v1.2 Jk).bind fun v8 =>
 if v8.1 then
 (ct v8.2 1900 2099).bind fun v9 =>
 (ch v9.2 2).bind fun v10 =>
 if v10 then
 (av v9.2.l v9.2.at_).bind fun v11 =>
 (ic v11.Text).bind fun v12 =>
 (if (v12.2.1 == 2) then some (decide (v12.1.Num > 0)) else some false).bind fun v13 =>
 if v13 then
 joinC dv ((⟨v9.2.l, i64 (v9.2.at_ + 1), v9.2.end_, v9.2.bad⟩ : pensionref5_reader), a2, a3, a4, a5, a6, (⟨a1.From, a1.Rounding, [], [], [], [], []⟩ : Version), (⟨v9.1, v12.1⟩ : Index))
 else
 joinC dv (v9.2, a2, a3, a4, a5, a6, (⟨a1.From, a1.Rounding, [], [], [], [], []⟩ : Version), (⟨v9.1, (⟨0, 0⟩ : Fraction)⟩ : Index))
 else
 joinC dv (v9.2, a2, a3, a4, a5, a6, (⟨a1.From, a1.Rounding, [], [], [], [], []⟩ : Version), (⟨v9.1, (⟨0, 0⟩ : Fraction)⟩ : Index))
 else
 (ak v8.2 U9).bind fun v19 =>
 if v19.1 then
 (ef v19.2).bind fun v20 =>
 (ab v20.2 a28).bind fun v21 =>
 (el v21 0).bind fun v22 =>
 (m8 88 a4 [(⟨v20.1, v22.1⟩ : Let)]).bind fun v23 =>
 (ab v22.2 Cv).bind fun v24 =>
 some (v24, (⟨a1.From, a1.Rounding, [], [], [], [], []⟩ : Version), a2, a3, v23, a5, a6)
 else
 (ak v19.2 Kv).bind fun v25 =>
 if v25.1 then
 (dz v25.2 2).bind fun v26 =>
 (ab v26.2 Vr).bind fun v27 =>
 (el v27 0).bind fun v28 =>
 (ab v28.2 V6).bind fun v29 =>
 (el v29 0).bind fun v30 =>
 (m8 152 a5 [(⟨v26.1, v28.1, v30.1⟩ : Grant)]).bind fun v31 =>
 (ab v30.2 Cv).bind fun v32 =>
 some (v32, (⟨a1.From, a1.Rounding, [], [], [], [], []⟩ : Version), a2, a3, a4, v31, a6)
 else
 (ak v25.2 Fl).bind fun v33 =>
 if v33.1 then
 (dz v33.2 2).bind fun v34 =>
 (ab v34.2 a06).bind fun v35 =>
 (el v35 0).bind fun v36 =>
 (m8 80 a6 [(⟨v34.1, v36.1⟩ : Reduce)]).bind fun v37 =>
 (ab v36.2 Cv).bind fun v38 =>
 some (v38, (⟨a1.From, a1.Rounding, [], [], [], [], []⟩ : Version), a2, a3, a4, a5, v37)
 else
 (br v33.2).bind fun v39 =>
 (ab v39 Cv).bind fun v40 =>
 some (v40, (⟨a1.From, a1.Rounding, [], [], [], [], []⟩ : Version), a2, a3, a4, a5, a6)
def o8 (r12 : (pensionref5_reader × (List Credit) × (List Index) × (List Let) × (List Grant) × (List Reduce) × Version × (List Credit) × (List Index) × (List Let) × (List Grant) × (List Reduce) × Version) → Option (Version × pensionref5_reader)) (v11 : pensionref5_reader × (List Credit) × (List Index) × (List Let) × (List Grant) × (List Reduce) × Version × (List Credit) × (List Index) × (List Let) × (List Grant) × (List Reduce) × Version) : Option (Version × pensionref5_reader) :=
 if (!v11.1.bad) then
 (ak v11.1 J0).bind fun v13 =>
 if (!v13.1) then
 (il v13.2 (⟨v11.2.2.2.2.2.2.2.2.2.2.2.2.From, v11.2.2.2.2.2.2.2.2.2.2.2.2.Rounding, [], [], [], [], []⟩ : Version) v11.2.2.2.2.2.2.2.1 v11.2.2.2.2.2.2.2.2.1 v11.2.2.2.2.2.2.2.2.2.1 v11.2.2.2.2.2.2.2.2.2.2.1 v11.2.2.2.2.2.2.2.2.2.2.2.1).bind fun v14 =>
 r12 (v14.1, v11.2.1, v11.2.2.1, v11.2.2.2.1, v11.2.2.2.2.1, v11.2.2.2.2.2.1, (⟨v11.2.2.2.2.2.2.1.From, v11.2.2.2.2.2.2.1.Rounding, [], [], [], [], []⟩ : Version), v14.2.2.1, v14.2.2.2.1, v14.2.2.2.2.1, v14.2.2.2.2.2.1, v14.2.2.2.2.2.2, (⟨v14.2.1.From, v14.2.1.Rounding, [], [], [], [], []⟩ : Version))
 else
 some ((⟨v11.2.2.2.2.2.2.2.2.2.2.2.2.From, v11.2.2.2.2.2.2.2.2.2.2.2.2.Rounding, v11.2.2.2.2.2.2.2.1, v11.2.2.2.2.2.2.2.2.1, v11.2.2.2.2.2.2.2.2.2.1, v11.2.2.2.2.2.2.2.2.2.2.1, v11.2.2.2.2.2.2.2.2.2.2.2.1⟩ : Version), v13.2)
 else
 some ((⟨v11.2.2.2.2.2.2.2.2.2.2.2.2.From, v11.2.2.2.2.2.2.2.2.2.2.2.2.Rounding, v11.2.2.2.2.2.2.2.1, v11.2.2.2.2.2.2.2.2.1, v11.2.2.2.2.2.2.2.2.2.1, v11.2.2.2.2.2.2.2.2.2.2.1, v11.2.2.2.2.2.2.2.2.2.2.2.1⟩ : Version), v11.1)
def ew (v5 : pensionref5_reader × (List Credit) × (List Index) × (List Let) × (List Grant) × (List Reduce) × Version × (List Credit) × (List Index) × (List Let) × (List Grant) × (List Reduce) × Version) : Option (Version × pensionref5_reader) :=
 (ab v5.1 a4x).bind fun v6 =>
 (ab v6 Hq).bind fun v7 =>
 (dz v7 3).bind fun v8 =>
 (ct v8.2 1 100000).bind fun v9 =>
 (ab v9.2 Cv).bind fun v10 =>
 am FU o8 (v10, v5.2.1, v5.2.2.1, v5.2.2.2.1, v5.2.2.2.2.1, v5.2.2.2.2.2.1, (⟨v5.2.2.2.2.2.2.1.From, v5.2.2.2.2.2.2.1.Rounding, [], [], [], [], []⟩ : Version), v5.2.2.2.2.2.2.2.1, v5.2.2.2.2.2.2.2.2.1, v5.2.2.2.2.2.2.2.2.2.1, v5.2.2.2.2.2.2.2.2.2.2.1, v5.2.2.2.2.2.2.2.2.2.2.2.1, (⟨v5.2.2.2.2.2.2.2.2.2.2.2.2.From, (⟨v8.1, v9.1⟩ : Rounding), [], [], [], [], []⟩ : Version))
def gn (a0 : pensionref5_reader) : Option (Version × pensionref5_reader) :=
 (ab a0 Ng).bind fun v1 =>
 (ch v1 3).bind fun v2 =>
 if v2 then
 (av v1.l v1.at_).bind fun v3 =>
 (qd v3.Text).bind fun v4 =>
 joinC ew ((⟨v1.l, i64 (v1.at_ + 1), v1.end_, v1.bad⟩ : pensionref5_reader), [], [], [], [], [], (⟨0, (⟨0, 0⟩ : Rounding), [], [], [], [], []⟩ : Version), [], [], [], [], [], (⟨v4, (⟨0, 0⟩ : Rounding), [], [], [], [], []⟩ : Version))
 else
 (br v1).bind fun v15 =>
 joinC ew (v15, [], [], [], [], [], (⟨0, (⟨0, 0⟩ : Rounding), [], [], [], [], []⟩ : Version), [], [], [], [], [], (⟨0, (⟨0, 0⟩ : Rounding), [], [], [], [], []⟩ : Version))
def j6 (a0 : pensionref5_reader) : Option Int :=
 if (decide (a0.at_ < (a0.l.length : Int))) then
 (av a0.l a0.at_).bind fun v1 =>
 some v1.At
 else
 some a0.end_
def bz (a0 : Int) : Option Bool :=
 (if (decide (a0 ≥ 0)) then some (decide (a0 ≤ 73048)) else some false).bind fun v1 =>
 some v1
def ik (a0 : Rounding) : Option Bool :=
 (if (decide (a0.Mode ≥ 1)) then some (decide (a0.Mode ≤ 4)) else some false).bind fun v1 =>
 (if v1 then some (decide (a0.Unit ≥ 1)) else some false).bind fun v2 =>
 (if v2 then some (decide (a0.Unit ≤ 100000)) else some false).bind fun v3 =>
 some v3
def wq (a0 : Int) (a1 : Int) (r2 : ((List ByteArray) × Int) → Option ByteArray) (v1 : (List ByteArray) × Int) : Option ByteArray :=
 (if (decide (v1.2 < (v1.1.length : Int))) then some (decide (a0 > 0)) else some false).bind fun v3 =>
 if v3 then
 (if (a1 == 1) then (av v1.1 v1.2).bind fun v4 =>
 (av v1.1 v1.2).bind fun v5 =>
 (o9 v5).bind fun v6 =>
 some (v6 == a0) else some false).bind fun v7 =>
 (if v7 then some true else (if (a1 == 2) then (av v1.1 v1.2).bind fun v8 =>
 (av v1.1 v1.2).bind fun v9 =>
 (kf v9).bind fun v10 =>
 some (v10 == a0) else some false).bind fun v11 =>
 some v11).bind fun v12 =>
 (if v12 then some true else (if (a1 == 3) then (av v1.1 v1.2).bind fun v13 =>
 (av v1.1 v1.2).bind fun v14 =>
 (oh v14).bind fun v15 =>
 some (v15 == a0) else some false).bind fun v16 =>
 some v16).bind fun v17 =>
 if v17 then
 (av v1.1 v1.2).bind fun v18 =>
 (av v1.1 v1.2).bind fun v19 =>
 some v19
 else
 r2 (v1.1, i64 (v1.2 + 1))
 else
 some ng
def j5 (a0 : Int) (a1 : Int) : Option ByteArray :=
 am FU (wq a0 a1) ([Eo, Ks, Cr, Xm, R2, Dz, a0w, Cl, Fx, M3, Ft, Xg, aaf, W6, Wh], 0)
def eu (a0 : Fraction) : Option Bool :=
 (if (decide (a0.Den ≥ 1)) then some (decide (a0.Den ≤ 1000000000)) else some false).bind fun v1 =>
 (if v1 then some (decide (a0.Num ≥ (-1000000000000000 : Int))) else some false).bind fun v2 =>
 (if v2 then some (decide (a0.Num ≤ 1000000000000000)) else some false).bind fun v3 =>
 (if v3 then (je a0.Num).bind fun v4 =>
 (qb v4 (u64 (a0.Den))).bind fun v5 =>
 some (v5 == 1) else some false).bind fun v6 =>
 some v6
def wa (a1 : Int) (r2 : (Int × ByteArray) → Option ByteArray) (v1 : Int × ByteArray) : Option ByteArray :=
 (if (decide (v1.1 > 0)) then some true else some (decide ((v1.2.size : Int) < a1))).bind fun v3 =>
 if v3 then
 (Di v1.1 10).bind fun v4 =>
 (Di v1.1 10).bind fun v5 =>
 (Jd m7 v4 (i64 (v5 + 1))).bind fun v6 =>
 (o6 v6 v1.2).bind fun v7 =>
 (Gy v1.1 10).bind fun v8 =>
 r2 (v8, v7)
 else
 some v1.2
def lp (a0 : Int) (a1 : Int) : Option ByteArray :=
 am FU (wa a1) (a0, ng)
def jc (v5 : Fraction × ByteArray) : Option ByteArray :=
 if (v5.1.Den != 1) then
 (o6 v5.2 a4v).bind fun v6 =>
 (lp v5.1.Den 1).bind fun v7 =>
 (o6 v6 v7).bind fun v8 =>
 some v8
 else
 some v5.2
def gi (a0 : Fraction) : Option ByteArray :=
 (eu a0).bind fun v1 =>
 if (!v1) then
 some ng
 else
 (je a0.Num).bind fun v2 =>
 (lp (i64 (v2)) 1).bind fun v3 =>
 if (decide (a0.Num < 0)) then
 (o6 Ty v3).bind fun v4 =>
 joinC jc (a0, v4)
 else
 joinC jc (a0, v3)
def p6 (v11 : Int × ByteArray × Int) (r13 : (ByteArray × Int × Int) → Option (ByteArray × Bool)) (v12 : ByteArray × Int × Int) : Option (ByteArray × Bool) :=
 if (decide (v12.2.1 > 0)) then
 (Gy v12.2.1 v12.2.2).bind fun v14 =>
 (Gy v12.2.1 v12.2.2).bind fun v15 =>
 (Jd m7 v14 (i64 (v15 + 1))).bind fun v16 =>
 (o6 v12.1 v16).bind fun v17 =>
 (Di v12.2.1 v12.2.2).bind fun v18 =>
 (Gy v12.2.2 10).bind fun v19 =>
 r13 (v17, v18, v19)
 else
 (av [ng, a7f, a8h] (i64 (v11.1 - 2))).bind fun v20 =>
 (av [ng, a7f, a8h] (i64 (v11.1 - 2))).bind fun v21 =>
 (o6 v12.1 v21).bind fun v22 =>
 some (v22, true)
def fj (v11 : Int × ByteArray × Int) : Option (ByteArray × Bool) :=
 am FU (p6 v11) (v11.2.1, v11.2.2, 1000)
def et (a0 : Fraction) (a1 : Int) : Option (ByteArray × Bool) :=
 (eu a0).bind fun v1 =>
 (if (!v1) then some true else some (decide (a0.Num < 0))).bind fun v2 =>
 (if v2 then some true else (Di 10000 a0.Den).bind fun v3 =>
 some (v3 != 0)).bind fun v4 =>
 (if v4 then some true else some (decide (a1 < 2))).bind fun v5 =>
 (if v5 then some true else some (decide (a1 > 4))).bind fun v6 =>
 if v6 then
 some (ng, false)
 else
 (Gy a0.Num a0.Den).bind fun v7 =>
 if (decide (v7 > 999999999)) then
 some (ng, false)
 else
 (gi (⟨v7, 1⟩ : Fraction)).bind fun v8 =>
 (Gy 10000 a0.Den).bind fun v9 =>
 if (decide ((i64 ((i64 (a0.Num - (i64 (v7 * a0.Den)))) * v9)) > 0)) then
 (o6 v8 J9).bind fun v10 =>
 joinC fj (a1, v10, i64 ((i64 (a0.Num - (i64 (v7 * a0.Den)))) * v9))
 else
 joinC fj (a1, v8, i64 ((i64 (a0.Num - (i64 (v7 * a0.Den)))) * v9))
structure Ring_pensionref5_Depth where
  f_pensionref5_Depth : Expr → Option Int
def xd (R : Ring_pensionref5_Depth) (r2 : (Expr × Int × Int) → Option Int) (v1 : Expr × Int × Int) : Option Int :=
 if (decide (v1.2.2 < (v1.1.Args.length : Int))) then
 (av v1.1.Args v1.2.2).bind fun v3 =>
 (R.f_pensionref5_Depth v3).bind fun v4 =>
 r2 (v1.1, max v1.2.1 v4, i64 (v1.2.2 + 1))
 else
 some (i64 (v1.2.1 + 1))
def o4 (R : Ring_pensionref5_Depth) (a0 : Expr) : Option Int :=
 am FU (xd R) (a0, 0, 0)
def cp : Nat → Ring_pensionref5_Depth
  | 0 => ⟨fun _ => none⟩
  | n + 1 => ⟨o4 (cp n)⟩
def Fp (a0 : Expr) : Option Int := (cp FU).f_pensionref5_Depth a0
structure Ring_pensionref5_Size where
  f_pensionref5_Size : Expr → Option Int
def yh (R : Ring_pensionref5_Size) (r2 : (Expr × Int × Int) → Option Int) (v1 : Expr × Int × Int) : Option Int :=
 if (decide (v1.2.2 < (v1.1.Args.length : Int))) then
 (av v1.1.Args v1.2.2).bind fun v3 =>
 (R.f_pensionref5_Size v3).bind fun v4 =>
 r2 (v1.1, i64 (v1.2.1 + v4), i64 (v1.2.2 + 1))
 else
 some v1.2.1
def pm (R : Ring_pensionref5_Size) (a0 : Expr) : Option Int :=
 am FU (yh R) (a0, 1, 0)
def d4 : Nat → Ring_pensionref5_Size
  | 0 => ⟨fun _ => none⟩
  | n + 1 => ⟨pm (d4 n)⟩
def Gw (a0 : Expr) : Option Int := (d4 FU).f_pensionref5_Size a0
structure Ring_pensionref5_formed where
  f_pensionref5_formed : Expr → Option Bool
def wh (R : Ring_pensionref5_formed) (v3 : Bool) (r14 : (Expr × Int) → Option Bool) (v13 : Expr × Int) : Option Bool :=
 if (decide (v13.2 < (v13.1.Args.length : Int))) then
 (av v13.1.Args v13.2).bind fun v15 =>
 (R.f_pensionref5_formed v15).bind fun v16 =>
 if (!v16) then
 some false
 else
 r14 (v13.1, i64 (v13.2 + 1))
 else
 some v3
def ml (R : Ring_pensionref5_formed) (a0 : Expr) : Option Bool :=
 (o7 a0.Op).bind fun v1 =>
 if ((a0.Args.length : Int) != v1) then
 some false
 else
 (if ((a0.Value.Num == 0) && ((a0.Value.Den == 0) && (true))) then some (a0.Dim == 0) else some false).bind fun v2 =>
 (if v2 then some (a0.Name.toList == ng.toList) else some false).bind fun v3 =>
 if (a0.Op == 1) then
 (et a0.Value a0.Dim).bind fun v4 =>
 (if v4.2 then some (a0.Name.toList == ng.toList) else some false).bind fun v5 =>
 some v5
 else
 if (a0.Op == 2) then
 (if ((a0.Value.Num == 0) && ((a0.Value.Den == 0) && (true))) then some (a0.Dim == 0) else some false).bind fun v6 =>
 (if v6 then (g9 a0.Name).bind fun v7 =>
 some v7 else some false).bind fun v8 =>
 some v8
 else
 if (a0.Op == 3) then
 (if (a0.Dim == 0) then some (a0.Name.toList == ng.toList) else some false).bind fun v9 =>
 (if v9 then some (a0.Value.Den == 1) else some false).bind fun v10 =>
 (if v10 then some (decide (a0.Value.Num ≥ 1)) else some false).bind fun v11 =>
 (if v11 then some (decide (a0.Value.Num ≤ 45)) else some false).bind fun v12 =>
 some v12
 else
 am FU (wh R v3) (a0, 0)
def ck : Nat → Ring_pensionref5_formed
  | 0 => ⟨fun _ => none⟩
  | n + 1 => ⟨ml (ck n)⟩
def Dv (a0 : Expr) : Option Bool := (ck FU).f_pensionref5_formed a0
def e7 (a0 : Expr) : Option Bool :=
 (Fp a0).bind fun v1 =>
 (if (decide (v1 ≤ 10)) then (Gw a0).bind fun v2 =>
 some (decide (v2 ≤ 60)) else some false).bind fun v3 =>
 (if v3 then (Dv a0).bind fun v4 =>
 some v4 else some false).bind fun v5 =>
 some v5
def kl (r45 : (Version × Int) → Option Bool) (v44 : Version × Int) : Option Bool :=
 if (decide (v44.2 < (v44.1.Reduces.length : Int))) then
 (av v44.1.Reduces v44.2).bind fun v46 =>
 (j5 v46.Benefit 2).bind fun v47 =>
 (if (v47.toList == ng.toList) then some true else (av v44.1.Reduces v44.2).bind fun v48 =>
 (e7 v48.By).bind fun v49 =>
 some (!v49)).bind fun v50 =>
 if v50 then
 some false
 else
 r45 (v44.1, i64 (v44.2 + 1))
 else
 some true
def k9 (r35 : (Version × Int) → Option Bool) (v34 : Version × Int) : Option Bool :=
 if (decide (v34.2 < (v34.1.Grants.length : Int))) then
 (av v34.1.Grants v34.2).bind fun v36 =>
 (j5 v36.Benefit 2).bind fun v37 =>
 (if (v37.toList == ng.toList) then some true else (av v34.1.Grants v34.2).bind fun v38 =>
 (e7 v38.If).bind fun v39 =>
 some (!v39)).bind fun v40 =>
 (if v40 then some true else (av v34.1.Grants v34.2).bind fun v41 =>
 (e7 v41.Pay).bind fun v42 =>
 some (!v42)).bind fun v43 =>
 if v43 then
 some false
 else
 r35 (v34.1, i64 (v34.2 + 1))
 else
 am FU kl (v34.1, 0)
def ki (r28 : (Version × Int) → Option Bool) (v27 : Version × Int) : Option Bool :=
 if (decide (v27.2 < (v27.1.Lets.length : Int))) then
 (av v27.1.Lets v27.2).bind fun v29 =>
 (g9 v29.Name).bind fun v30 =>
 (if (!v30) then some true else (av v27.1.Lets v27.2).bind fun v31 =>
 (e7 v31.Body).bind fun v32 =>
 some (!v32)).bind fun v33 =>
 if v33 then
 some false
 else
 r28 (v27.1, i64 (v27.2 + 1))
 else
 am FU k9 (v27.1, 0)
def kd (r18 : (Version × Int) → Option Bool) (v17 : Version × Int) : Option Bool :=
 if (decide (v17.2 < (v17.1.Series.length : Int))) then
 (av v17.1.Series v17.2).bind fun v19 =>
 (et v19.Factor 2).bind fun v20 =>
 (av v17.1.Series v17.2).bind fun v21 =>
 (if (decide (v21.Year < 1900)) then some true else (av v17.1.Series v17.2).bind fun v22 =>
 some (decide (v22.Year > 2099))).bind fun v23 =>
 (if v23 then some true else some (!v20.2)).bind fun v24 =>
 (if v24 then some true else (av v17.1.Series v17.2).bind fun v25 =>
 some (decide (v25.Factor.Num < 1))).bind fun v26 =>
 if v26 then
 some false
 else
 r18 (v17.1, i64 (v17.2 + 1))
 else
 am FU ki (v17.1, 0)
def ke (r10 : (Version × Int) → Option Bool) (v9 : Version × Int) : Option Bool :=
 if (decide (v9.2 < (v9.1.Credits.length : Int))) then
 (av v9.1.Credits v9.2).bind fun v11 =>
 (j5 v11.Kind 1).bind fun v12 =>
 (if (v12.toList == ng.toList) then some true else (av v9.1.Credits v9.2).bind fun v13 =>
 some (decide (v13.Limit < 0))).bind fun v14 =>
 (if v14 then some true else (av v9.1.Credits v9.2).bind fun v15 =>
 some (decide (v15.Limit > 73049))).bind fun v16 =>
 if v16 then
 some false
 else
 r10 (v9.1, i64 (v9.2 + 1))
 else
 am FU kd (v9.1, 0)
def j8 (a0 : Version) : Option Bool :=
 (bz a0.From).bind fun v1 =>
 (if (!v1) then some true else (ik a0.Rounding).bind fun v2 =>
 some (!v2)).bind fun v3 =>
 (if v3 then some true else some (decide ((a0.Credits.length : Int) > 6))).bind fun v4 =>
 (if v4 then some true else some (decide ((a0.Series.length : Int) > 20))).bind fun v5 =>
 (if v5 then some true else some (decide ((a0.Lets.length : Int) > 10))).bind fun v6 =>
 (if v6 then some true else some (decide ((a0.Grants.length : Int) > 5))).bind fun v7 =>
 (if v7 then some true else some (decide ((a0.Reduces.length : Int) > 5))).bind fun v8 =>
 if v8 then
 some false
 else
 am FU ke (a0, 0)
def xi (r7 : (Statute × Int) → Option Bool) (v6 : Statute × Int) : Option Bool :=
 if (decide (v6.2 < (v6.1.Versions.length : Int))) then
 (av v6.1.Versions v6.2).bind fun v8 =>
 (j8 v8).bind fun v9 =>
 if (!v9) then
 some false
 else
 r7 (v6.1, i64 (v6.2 + 1))
 else
 some true
def qj (a0 : Statute) : Option Bool :=
 (g9 a0.Name).bind fun v1 =>
 (if (!v1) then some true else some (decide (a0.Currency < 1))).bind fun v2 =>
 (if v2 then some true else some (decide (a0.Currency > 999))).bind fun v3 =>
 (if v3 then some true else some (decide ((a0.Versions.length : Int) < 1))).bind fun v4 =>
 (if v4 then some true else some (decide ((a0.Versions.length : Int) > 6))).bind fun v5 =>
 if v5 then
 some false
 else
 am FU xi (a0, 0)
def n5 (r9 : ((List Version) × Statute × pensionref5_reader × (List Version) × Statute × Bool) → Option (Statute × Int × Int)) (v10 : (List Version) × Statute × pensionref5_reader × (List Version) × Statute) : Option (Statute × Int × Int) :=
 (gn v10.2.2.1).bind fun v11 =>
 (m8 144 v10.2.2.2.1 [v11.1]).bind fun v12 =>
 r9 (v10.1, (⟨v10.2.1.Name, v10.2.1.Currency, []⟩ : Statute), v11.2, v12, (⟨v10.2.2.2.2.Name, v10.2.2.2.2.Currency, []⟩ : Statute), false)
def mh (v14 : (List Version) × Statute × pensionref5_reader × (List Version) × Statute) : Option (Statute × Int × Int) :=
 (if v14.2.2.1.bad then some true else some (decide (v14.2.2.1.at_ < (v14.2.2.1.l.length : Int)))).bind fun v15 =>
 if v15 then
 (j6 v14.2.2.1).bind fun v16 =>
 some ((⟨ng, 0, []⟩ : Statute), v16, 4)
 else
 (qj (⟨v14.2.2.2.2.Name, v14.2.2.2.2.Currency, v14.2.2.2.1⟩ : Statute)).bind fun v17 =>
 if (!v17) then
 some ((⟨ng, 0, []⟩ : Statute), 0, 7)
 else
 some ((⟨v14.2.2.2.2.Name, v14.2.2.2.2.Currency, v14.2.2.2.1⟩ : Statute), 0, 0)
def xo (r9 : ((List Version) × Statute × pensionref5_reader × (List Version) × Statute × Bool) → Option (Statute × Int × Int)) (v8 : (List Version) × Statute × pensionref5_reader × (List Version) × Statute × Bool) : Option (Statute × Int × Int) :=
 if (!v8.2.2.1.bad) then
 if v8.2.2.2.2.2 then
 joinC (n5 r9) (v8.1, (⟨v8.2.1.Name, v8.2.1.Currency, []⟩ : Statute), v8.2.2.1, v8.2.2.2.1, (⟨v8.2.2.2.2.1.Name, v8.2.2.2.2.1.Currency, []⟩ : Statute))
 else
 (ak v8.2.2.1 J0).bind fun v13 =>
 if (!v13.1) then
 joinC (n5 r9) (v8.1, (⟨v8.2.1.Name, v8.2.1.Currency, []⟩ : Statute), v13.2, v8.2.2.2.1, (⟨v8.2.2.2.2.1.Name, v8.2.2.2.2.1.Currency, []⟩ : Statute))
 else
 joinC mh (v8.1, (⟨v8.2.1.Name, v8.2.1.Currency, []⟩ : Statute), v13.2, v8.2.2.2.1, (⟨v8.2.2.2.2.1.Name, v8.2.2.2.2.1.Currency, []⟩ : Statute))
 else
 joinC mh (v8.1, (⟨v8.2.1.Name, v8.2.1.Currency, []⟩ : Statute), v8.2.2.1, v8.2.2.2.1, (⟨v8.2.2.2.2.1.Name, v8.2.2.2.2.1.Currency, []⟩ : Statute))
def qk (a0 : ByteArray) : Option (Statute × Int × Int) :=
 (qi a0).bind fun v1 =>
 optC v1.1 (if (v1.2.2 != 0) then
 some ((⟨ng, 0, []⟩ : Statute), v1.2.1, v1.2.2)
 else
 none) fun v2 =>
 if (v1.2.2 != 0) then
 some ((⟨ng, 0, []⟩ : Statute), v1.2.1, v1.2.2)
 else
 (ab v2 D5).bind fun v3 =>
 (ef v3).bind fun v4 =>
 (ab v4.2 Bx).bind fun v5 =>
 (ct v5 1 999).bind fun v6 =>
 (ab v6.2 a4x).bind fun v7 =>
 am FU xo ([], (⟨ng, 0, []⟩ : Statute), v7, [], (⟨v4.1, v6.1, []⟩ : Statute), true)
def y8 (a0 : List Int) (r2 : ((List State) × (List Rules) × (List Rate) × Laws × (List State) × (List Rules) × Laws × Int) → Option Laws) (v1 : (List State) × (List Rules) × (List Rate) × Laws × (List State) × (List Rules) × Laws × Int) : Option Laws :=
 if (decide (v1.2.2.2.2.2.2.2 < 3)) then
 (rx v1.2.2.2.2.2.2.2 a0).bind fun v3 =>
 (qk v3).bind fun v4 =>
 if (v4.2.2 == 0) then
 (m8 56 v1.2.2.2.2.1 [(⟨v1.2.2.2.2.2.2.2, v4.1⟩ : State)]).bind fun v5 =>
 r2 (v1.1, v1.2.1, v1.2.2.1, (⟨[], [], []⟩ : Laws), v5, v1.2.2.2.2.2.1, (⟨[], [], v1.2.2.2.2.2.2.1.Rates⟩ : Laws), i64 (v1.2.2.2.2.2.2.2 + 1))
 else
 r2 (v1.1, v1.2.1, v1.2.2.1, (⟨[], [], []⟩ : Laws), v1.2.2.2.2.1, v1.2.2.2.2.2.1, (⟨[], [], v1.2.2.2.2.2.2.1.Rates⟩ : Laws), i64 (v1.2.2.2.2.2.2.2 + 1))
 else
 (ah a0 2).bind fun v6 =>
 (aa v6 6).bind fun v7 =>
 (ah a0 5).bind fun v8 =>
 (aa v8 3).bind fun v9 =>
 if (v9 == 0) then
 (av [(⟨0, i64 (90 * v7), 730, 25, [0, 1]⟩ : Rules)] 0).bind fun v10 =>
 (av [(⟨0, i64 (90 * v7), 730, 25, [0, 1]⟩ : Rules)] 0).bind fun v11 =>
 some (⟨v1.2.2.2.2.1, uc [(⟨0, i64 (90 * v7), 730, 25, [0, 1]⟩ : Rules)] 0 (⟨v11.From, v11.MinDays, v11.PostingLimit, v11.Substantial, [0, 1, 2]⟩ : Rules), v1.2.2.2.2.2.2.1.Rates⟩ : Laws)
 else
 if (v9 == 1) then
 (m8 56 [(⟨0, i64 (90 * v7), 730, 25, [0, 1]⟩ : Rules)] [(⟨35000, i64 (90 * v7), 365, 30, [0, 1, 2]⟩ : Rules)]).bind fun v12 =>
 some (⟨v1.2.2.2.2.1, v12, v1.2.2.2.2.2.2.1.Rates⟩ : Laws)
 else
 (av [(⟨0, i64 (90 * v7), 730, 25, [0, 1]⟩ : Rules)] 0).bind fun v13 =>
 (av [(⟨0, i64 (90 * v7), 730, 25, [0, 1]⟩ : Rules)] 0).bind fun v14 =>
 (m8 56 (uc [(⟨0, i64 (90 * v7), 730, 25, [0, 1]⟩ : Rules)] 0 (⟨v14.From, v14.MinDays, v14.PostingLimit, v14.Substantial, [0, 1, 2]⟩ : Rules)) [(⟨36000, i64 (90 * v7), 730, 25, [0, 1]⟩ : Rules)]).bind fun v15 =>
 some (⟨v1.2.2.2.2.1, v15, v1.2.2.2.2.2.2.1.Rates⟩ : Laws)
def rt (a0 : List Int) : Option Laws :=
 am FU (y8 a0) ([], [], [], (⟨[], [], []⟩ : Laws), [], [], (⟨[], [], [(⟨1, 0, (⟨1, 1⟩ : Fraction)⟩ : Rate), (⟨2, 0, (⟨3, 2⟩ : Fraction)⟩ : Rate), (⟨3, 0, (⟨1, 7⟩ : Fraction)⟩ : Rate), (⟨3, 1150, (⟨1, 9⟩ : Fraction)⟩ : Rate)]⟩ : Laws), 0)
def vx (a0 : List pensionhand_Claim) (r2 : ((List Claim) × Int) → Option (List Claim)) (v1 : (List Claim) × Int) : Option (List Claim) :=
 (if (decide (v1.2 < (a0.length : Int))) then some (decide (v1.2 < 6)) else some false).bind fun v3 =>
 if v3 then
 (av a0 v1.2).bind fun v4 =>
 (aa v4.Issuer 3).bind fun v5 =>
 (av a0 v1.2).bind fun v6 =>
 (aa v6.Number 9).bind fun v7 =>
 (av a0 v1.2).bind fun v8 =>
 (aa v8.Person 4).bind fun v9 =>
 (av a0 v1.2).bind fun v10 =>
 (aa v10.Benefit 5).bind fun v11 =>
 (av a0 v1.2).bind fun v12 =>
 (aa v12.Day 900).bind fun v13 =>
 (if ((i64 (1 + v11)) == 3) then some true else some ((i64 (1 + v11)) == 4)).bind fun v14 =>
 if v14 then
 (av a0 v1.2).bind fun v15 =>
 (aa v15.Ref 4).bind fun v16 =>
 if ((i64 (1 + v16)) == (i64 (1 + v9))) then
 (aa (i64 (1 + v9)) 4).bind fun v17 =>
 (m8 48 v1.1 [(⟨v5, i64 (1 + v7), i64 (1 + v9), i64 (1 + v11), i64 (1 + v17), i64 (35150 + v13)⟩ : Claim)]).bind fun v18 =>
 r2 (v18, i64 (v1.2 + 1))
 else
 (m8 48 v1.1 [(⟨v5, i64 (1 + v7), i64 (1 + v9), i64 (1 + v11), i64 (1 + v16), i64 (35150 + v13)⟩ : Claim)]).bind fun v19 =>
 r2 (v19, i64 (v1.2 + 1))
 else
 (m8 48 v1.1 [(⟨v5, i64 (1 + v7), i64 (1 + v9), i64 (1 + v11), 0, i64 (35150 + v13)⟩ : Claim)]).bind fun v20 =>
 r2 (v20, i64 (v1.2 + 1))
 else
 some v1.1
def p8 (a0 : List pensionhand_Claim) : Option (List Claim) :=
 am FU (vx a0) ([], 0)
def sv (a0 : Int) : Option (List Claim) :=
 (aa a0 400).bind fun v1 =>
 some [(⟨0, 801, 1, 1, 0, i64 (35150 + v1)⟩ : Claim), (⟨0, 802, 1, 2, 0, i64 (35150 + v1)⟩ : Claim), (⟨1, 803, 1, 3, 2, i64 (35150 + v1)⟩ : Claim), (⟨1, 804, 1, 4, 3, i64 (35150 + v1)⟩ : Claim), (⟨2, 805, 1, 5, 0, i64 (35150 + v1)⟩ : Claim), (⟨2, 806, 3, 3, 2, i64 (35150 + v1)⟩ : Claim)]
def qo (a0 : pensionlaw26_Seeds) : Option (Laws × (List api_Fact) × (List Claim)) :=
 (qg a0.Lives).bind fun v1 =>
 (qe a0.Facts).bind fun v2 =>
 (m8 112 v1 v2).bind fun v3 =>
 (rt a0.Laws).bind fun v4 =>
 (p8 a0.Claims).bind fun v5 =>
 (sv a0.Day).bind fun v6 =>
 (m8 48 v5 v6).bind fun v7 =>
 some (v4, v3, v7)
def nk (a0 : Int) : Option Int :=
 (aa a0 4).bind fun v1 =>
 some (i64 (1 + v1))
def pd (a0 : Int) : Option Int :=
 (aa a0 40).bind fun v1 =>
 some (i64 (1155 + v1))
def xq (a0 : Int) : Option Bool :=
 (Di a0 4).bind fun v1 =>
 (if (v1 == 0) then (Di a0 100).bind fun v2 =>
 some (v2 != 0) else some false).bind fun v3 =>
 (if v3 then some true else (Di a0 400).bind fun v4 =>
 some (v4 == 0)).bind fun v5 =>
 some v5
def dm (a0 : Int) (a1 : Int) : Option Int :=
 (if (a1 == 2) then (xq a0).bind fun v1 =>
 some v1 else some false).bind fun v2 =>
 if v2 then
 some 29
 else
 (av (⟨[31, 28, 31, 30, 31, 30, 31, 31, 30, 31, 30, 31], rfl⟩ : Ar 12 Int).l (i64 (a1 - 1))).bind fun v3 =>
 (av (⟨[31, 28, 31, 30, 31, 30, 31, 31, 30, 31, 30, 31], rfl⟩ : Ar 12 Int).l (i64 (a1 - 1))).bind fun v4 =>
 some v4
def g0 (a0 : Int) : Option Int :=
 if (decide ((i64 (a0 - 1900)) > 0)) then
 (Gy (i64 ((i64 (a0 - 1900)) - 1)) 4).bind fun v1 =>
 some (i64 ((i64 (365 * (i64 (a0 - 1900)))) + v1))
 else
 some (i64 (365 * (i64 (a0 - 1900))))
def yf (a1 : Int) (a0 : Int) (r9 : (Int × Int) → Option (Int × Bool)) (v8 : Int × Int) : Option (Int × Bool) :=
 if (decide (v8.2 < a1)) then
 (dm a0 v8.2).bind fun v10 =>
 r9 (i64 (v8.1 + v10), i64 (v8.2 + 1))
 else
 some (v8.1, true)
def q9 (a0 : Int) (a1 : Int) (a2 : Int) : Option (Int × Bool) :=
 (if (decide (a0 < 1900)) then some true else some (decide (a0 > 2099))).bind fun v1 =>
 (if v1 then some true else some (decide (a1 < 1))).bind fun v2 =>
 (if v2 then some true else some (decide (a1 > 12))).bind fun v3 =>
 (if v3 then some true else some (decide (a2 < 1))).bind fun v4 =>
 (if v4 then some true else (dm a0 a1).bind fun v5 =>
 some (decide (a2 > v5))).bind fun v6 =>
 if v6 then
 some (0, false)
 else
 (g0 a0).bind fun v7 =>
 am FU (yf a1 a0) (i64 ((i64 (v7 + a2)) - 1), 1)
def vo (a0 : Int) : Option Bool :=
 (if (decide (a0 ≥ 0)) then some (decide (a0 ≤ 73048)) else some false).bind fun v1 =>
 some v1
def ka (a0 : Int) : Option Int :=
 (xq a0).bind fun v1 =>
 if v1 then
 some 366
 else
 some 365
def xa (v3 : Int) (r9 : (Int × Int) → Option (Int × Int × Int × Bool)) (v8 : Int × Int) : Option (Int × Int × Int × Bool) :=
 (dm v3 v8.1).bind fun v10 =>
 if (decide (v8.2 ≥ v10)) then
 (dm v3 v8.1).bind fun v11 =>
 r9 (i64 (v8.1 + 1), i64 (v8.2 - v11))
 else
 some (v3, v8.1, i64 (v8.2 + 1), true)
def xb (a0 : Int) (r4 : Int → Option (Int × Int × Int × Bool)) (v3 : Int) : Option (Int × Int × Int × Bool) :=
 (g0 v3).bind fun v5 =>
 (ka v3).bind fun v6 =>
 if (decide ((i64 (v5 + v6)) ≤ a0)) then
 r4 (i64 (v3 + 1))
 else
 (g0 v3).bind fun v7 =>
 am FU (xa v3) (1, i64 (a0 - v7))
def tm (a0 : Int) : Option (Int × Int × Int × Bool) :=
 (vo a0).bind fun v1 =>
 if (!v1) then
 some (0, 0, 0, false)
 else
 (Gy a0 366).bind fun v2 =>
 am FU (xb a0) (i64 (1900 + v2))
def om (a0 : Int) : Option Int :=
 (tm a0).bind fun v1 =>
 if (!v1.2.2.2) then
 some (-1 : Int)
 else
 some (i64 ((i64 ((i64 (12 * (i64 (v1.1 - 1900)))) + v1.2.1)) - 1))
def kg (a0 : Int) : Option Bool :=
 (if (decide (a0 ≥ 0)) then some (decide (a0 ≤ 2399)) else some false).bind fun v1 =>
 some v1
def dy (a0 : Int) : Option (Int × Bool) :=
 (kg a0).bind fun v1 =>
 if (!v1) then
 some (0, false)
 else
 (Gy a0 12).bind fun v2 =>
 (Di a0 12).bind fun v3 =>
 (q9 (i64 (1900 + v2)) (i64 (v3 + 1)) 1).bind fun v4 =>
 some (v4.1, v4.2)
def uy (v3 : Int) : Option (Int × Bool) :=
 if (decide (v3 > 2399)) then
 some (0, false)
 else
 some (v3, true)
def fq (a0 : Claim) : Option (Int × Bool) :=
 (om a0.Day).bind fun v1 =>
 if (decide (v1 < 0)) then
 some (0, false)
 else
 (dy v1).bind fun v2 =>
 if (decide (v2.1 < a0.Day)) then
 joinC uy (i64 (v1 + 1))
 else
 joinC uy v1
def um (v9 : Claim) : Option Bool :=
 (fq v9).bind fun v10 =>
 some v10.2
def qt (v11 : Claim × Bool) : Option Bool :=
 if v11.2 then
 if (v11.1.Ref != 0) then
 some false
 else
 joinC um v11.1
 else
 some false
def vk (v6 : Claim × Int × Bool) : Option Bool :=
 if v6.2.2 then
 (if (decide (v6.1.Ref < 1)) then some true else some (decide (v6.1.Ref > 99))).bind fun v7 =>
 (if v7 then some true else some (v6.1.Ref == v6.1.Person)).bind fun v8 =>
 if v8 then
 some false
 else
 joinC um v6.1
 else
 if (v6.2.1 == 1) then
 joinC qt (v6.1, v6.2.1 == 1)
 else
 if (v6.2.1 == 2) then
 joinC qt (v6.1, v6.2.1 == 2)
 else
 joinC qt (v6.1, v6.2.1 == 5)
def ij (a0 : Claim) : Option Bool :=
 (if (decide (a0.Issuer < 0)) then some true else some (decide (a0.Issuer ≥ 6))).bind fun v1 =>
 (if v1 then some true else some (decide (a0.Number < 1))).bind fun v2 =>
 (if v2 then some true else some (decide (a0.Number > 999))).bind fun v3 =>
 (if v3 then some true else some (decide (a0.Person < 1))).bind fun v4 =>
 (if v4 then some true else some (decide (a0.Person > 99))).bind fun v5 =>
 if v5 then
 some false
 else
 if (a0.Benefit == 3) then
 joinC vk (a0, a0.Benefit, a0.Benefit == 3)
 else
 joinC vk (a0, a0.Benefit, a0.Benefit == 4)
def Ha (a0 : Int) : Option Int :=
 (F0 a0).bind fun v1 =>
 some v1
def oa (a0 : Int) : Option Bool :=
 some (a0 != a0)
def bv (a0 : Int) (a1 : Int) : Option Int :=
 (oa a0).bind fun v1 =>
 (oa a1).bind fun v2 =>
 if v1 then
 if v2 then
 some 0
 else
 some (-1 : Int)
 else
 if v2 then
 some 1
 else
 if (decide (a0 < a1)) then
 some (-1 : Int)
 else
 if (decide (a0 > a1)) then
 some 1
 else
 some 0
def l7 (a0 : List Int) (r2 : Int → Option Int) (v1 : Int) : Option Int :=
 if (decide (v1 < (a0.length : Int))) then
 (av a0 v1).bind fun v3 =>
 if (v3 != 0) then
 some v3
 else
 r2 (i64 (v1 + 1))
 else
 some 0
def lv (a0 : List Int) : Option Int :=
 am FU (l7 a0) 0
def jg (a0 : Claim) (a1 : Claim) : Option Int :=
 (bv a0.Issuer a1.Issuer).bind fun v1 =>
 (bv a0.Number a1.Number).bind fun v2 =>
 (bv a0.Day a1.Day).bind fun v3 =>
 (bv a0.Person a1.Person).bind fun v4 =>
 (bv a0.Benefit a1.Benefit).bind fun v5 =>
 (bv a0.Ref a1.Ref).bind fun v6 =>
 (lv [v1, v2, v3, v4, v5, v6]).bind fun v7 =>
 some v7
def dc (r9 : ((List Claim) × Int × Int × (Int × Nat)) → Option (List Claim)) (v8 : (List Claim) × Int × Int × (Int × Nat)) : Option (List Claim) :=
 if (decide (v8.2.2.1 < (v8.2.2.2.2 : Int))) then
 (Gx v8.1 v8.2.2.2.1 v8.2.2.1).bind fun v10 =>
 (av v8.1 (v8.2.2.2.1 + v8.2.2.1)).bind fun v11 =>
 (Gx v8.1 v8.2.2.2.1 (i64 (v8.2.2.1 - 1))).bind fun v12 =>
 (av v8.1 (v8.2.2.2.1 + (i64 (v8.2.2.1 - 1)))).bind fun v13 =>
 if (!((v11.Issuer == v13.Issuer) && ((v11.Number == v13.Number) && ((v11.Person == v13.Person) && ((v11.Benefit == v13.Benefit) && ((v11.Ref == v13.Ref) && ((v11.Day == v13.Day) && (true)))))))) then
 (Gx v8.1 v8.2.2.2.1 v8.2.2.1).bind fun v14 =>
 (av v8.1 (v8.2.2.2.1 + v8.2.2.1)).bind fun v15 =>
 (av v8.1 v8.2.1).bind fun v16 =>
 (av v8.1 v8.2.1).bind fun v17 =>
 r9 (uc v8.1 v8.2.1 v15, i64 (v8.2.1 + 1), i64 (v8.2.2.1 + 1), (v8.2.2.2.1, v8.2.2.2.2))
 else
 r9 (v8.1, v8.2.1, i64 (v8.2.2.1 + 1), (v8.2.2.2.1, v8.2.2.2.2))
 else
 (fp v8.1 v8.2.1 (v8.1.length : Int)).bind fun v18 =>
 (aeh (⟨0, 0, 0, 0, 0, 0⟩ : Claim) v8.1 v8.2.1 v18.length).bind fun v19 =>
 (fp v19 0 v8.2.1).bind fun v20 =>
 some v20
def cr (r2 : ((List Claim) × Int) → Option (List Claim)) (v1 : (List Claim) × Int) : Option (List Claim) :=
 if (decide (v1.2 < (v1.1.length : Int))) then
 (av v1.1 v1.2).bind fun v3 =>
 (av v1.1 v1.2).bind fun v4 =>
 (av v1.1 (i64 (v1.2 - 1))).bind fun v5 =>
 (av v1.1 (i64 (v1.2 - 1))).bind fun v6 =>
 if ((v4.Issuer == v6.Issuer) && ((v4.Number == v6.Number) && ((v4.Person == v6.Person) && ((v4.Benefit == v6.Benefit) && ((v4.Ref == v6.Ref) && ((v4.Day == v6.Day) && (true))))))) then
 (fp v1.1 v1.2 (v1.1.length : Int)).bind fun v7 =>
 am FU dc (v1.1, v1.2, 1, (v1.2, v7.length))
 else
 r2 (v1.1, i64 (v1.2 + 1))
 else
 some v1.1
def fu (a0 : List Claim) : Option (List Claim) :=
 if (decide ((a0.length : Int) < 2)) then
 some a0
 else
 am FU cr (a0, 1)
def gf (a1 : Int) (r2 : ((List Claim) × Int) → Option (List Claim)) (v1 : (List Claim) × Int) (r4 : ((List Claim) × Int) → Option (List Claim)) (v3 : (List Claim) × Int) : Option (List Claim) :=
 (if (decide (v3.2 > a1)) then (av v3.1 v3.2).bind fun v5 =>
 (av v3.1 v3.2).bind fun v6 =>
 (av v3.1 (i64 (v3.2 - 1))).bind fun v7 =>
 (av v3.1 (i64 (v3.2 - 1))).bind fun v8 =>
 (jg v6 v8).bind fun v9 =>
 some (decide (v9 < 0)) else some false).bind fun v10 =>
 if v10 then
 (av v3.1 (i64 (v3.2 - 1))).bind fun v11 =>
 (av v3.1 (i64 (v3.2 - 1))).bind fun v12 =>
 (av v3.1 v3.2).bind fun v13 =>
 (av v3.1 v3.2).bind fun v14 =>
 (av v3.1 v3.2).bind fun v15 =>
 (av v3.1 v3.2).bind fun v16 =>
 (av (uc v3.1 v3.2 v12) (i64 (v3.2 - 1))).bind fun v17 =>
 (av (uc v3.1 v3.2 v12) (i64 (v3.2 - 1))).bind fun v18 =>
 r4 (uc (uc v3.1 v3.2 v12) (i64 (v3.2 - 1)) v14, i64 (v3.2 - 1))
 else
 r2 (v3.1, i64 (v1.2 + 1))
def gh (a2 : Int) (a1 : Int) (r2 : ((List Claim) × Int) → Option (List Claim)) (v1 : (List Claim) × Int) : Option (List Claim) :=
 if (decide (v1.2 < a2)) then
 am FU (gf a1 r2 v1) (v1.1, v1.2)
 else
 some v1.1
def c6 (a0 : List Claim) (a1 : Int) (a2 : Int) : Option (List Claim) :=
 am FU (gh a2 a1) (a0, i64 (a1 + 1))
structure Ring_slices_pdqsortCmpFunc_of_api_Claim_c_decision_compare where
  f_slices_pdqsortCmpFunc_of_api_Claim : (List Claim) → Int → Int → Int → Option (List Claim)
def j4 (R : Ring_slices_pdqsortCmpFunc_of_api_Claim_c_decision_compare) (v4 : (List Claim) × Int × Int × Int × Unit × Bool × Bool × Int) : Option (List Claim) :=
 none
def bj (R : Ring_slices_pdqsortCmpFunc_of_api_Claim_c_decision_compare) (r2 : ((List Claim) × Int × Int × Int × Bool × Bool) → Option (List Claim)) (v1 : (List Claim) × Int × Int × Int × Bool × Bool) : Option (List Claim) :=
 if (decide ((i64 (v1.2.2.1 - v1.2.1)) ≤ 12)) then
 (c6 v1.1 v1.2.1 v1.2.2.1).bind fun v3 =>
 some v3
 else
 if (v1.2.2.2.1 == 0) then
 none
 else
 if (!v1.2.2.2.2.1) then
 none
 else
 joinC (j4 R) (v1.1, v1.2.1, v1.2.2.1, v1.2.2.2.1, (), v1.2.2.2.2.1, v1.2.2.2.2.2, i64 (v1.2.2.1 - v1.2.1))
def bq (R : Ring_slices_pdqsortCmpFunc_of_api_Claim_c_decision_compare) (a0 : List Claim) (a1 : Int) (a2 : Int) (a3 : Int) : Option (List Claim) :=
 am FU (bj R) (a0, a1, a2, a3, true, true)
def ac : Nat → Ring_slices_pdqsortCmpFunc_of_api_Claim_c_decision_compare
  | 0 => ⟨fun _ _ _ _ => none⟩
  | n + 1 => ⟨bq (ac n)⟩
def du (a0 : List Claim) (a1 : Int) (a2 : Int) (a3 : Int) : Option (List Claim) := (ac FU).f_slices_pdqsortCmpFunc_of_api_Claim a0 a1 a2 a3
def bn (a0 : List Claim) : Option (List Claim) :=
 (Ha (u64 ((a0.length : Int)))).bind fun v1 =>
 (du a0 0 (a0.length : Int) v1).bind fun v2 =>
 some v2
def pn (a0 : List Claim) (r2 : ((List Claim) × Int) → Option (List Claim)) (v1 : (List Claim) × Int) : Option (List Claim) :=
 if (decide (v1.2 < (a0.length : Int))) then
 (av a0 v1.2).bind fun v3 =>
 (ij v3).bind fun v4 =>
 if v4 then
 (m8 48 v1.1 [v3]).bind fun v5 =>
 r2 (v5, i64 (v1.2 + 1))
 else
 r2 (v1.1, i64 (v1.2 + 1))
 else
 (bn v1.1).bind fun v6 =>
 (fu v6).bind fun v7 =>
 some v7
def jz (a0 : List Claim) : Option (List Claim) :=
 am FU (pn a0) ([], 0)
def oj (a0 : Claim) (a1 : Int) : Option Bool :=
 (fq a0).bind fun v1 =>
 some (decide (v1.1 ≤ a1))
def ga (a0 : Claim) (a1 : Claim) : Option Int :=
 (bv a0.Benefit a1.Benefit).bind fun v1 =>
 (bv a0.Ref a1.Ref).bind fun v2 =>
 (lv [v1, v2]).bind fun v3 =>
 some v3
def fh (a1 : Int) (r2 : ((List Claim) × Int) → Option (List Claim)) (v1 : (List Claim) × Int) (r4 : ((List Claim) × Int) → Option (List Claim)) (v3 : (List Claim) × Int) : Option (List Claim) :=
 (if (decide (v3.2 > a1)) then (av v3.1 v3.2).bind fun v5 =>
 (av v3.1 v3.2).bind fun v6 =>
 (av v3.1 (i64 (v3.2 - 1))).bind fun v7 =>
 (av v3.1 (i64 (v3.2 - 1))).bind fun v8 =>
 (ga v6 v8).bind fun v9 =>
 some (decide (v9 < 0)) else some false).bind fun v10 =>
 if v10 then
 (av v3.1 (i64 (v3.2 - 1))).bind fun v11 =>
 (av v3.1 (i64 (v3.2 - 1))).bind fun v12 =>
 (av v3.1 v3.2).bind fun v13 =>
 (av v3.1 v3.2).bind fun v14 =>
 (av v3.1 v3.2).bind fun v15 =>
 (av v3.1 v3.2).bind fun v16 =>
 (av (uc v3.1 v3.2 v12) (i64 (v3.2 - 1))).bind fun v17 =>
 (av (uc v3.1 v3.2 v12) (i64 (v3.2 - 1))).bind fun v18 =>
 r4 (uc (uc v3.1 v3.2 v12) (i64 (v3.2 - 1)) v14, i64 (v3.2 - 1))
 else
 r2 (v3.1, i64 (v1.2 + 1))
def fi (a2 : Int) (a1 : Int) (r2 : ((List Claim) × Int) → Option (List Claim)) (v1 : (List Claim) × Int) : Option (List Claim) :=
 if (decide (v1.2 < a2)) then
 am FU (fh a1 r2 v1) (v1.1, v1.2)
 else
 some v1.1
def ax (a0 : List Claim) (a1 : Int) (a2 : Int) : Option (List Claim) :=
 am FU (fi a2 a1) (a0, i64 (a1 + 1))
def ia (a1 : Int) (v5 : (List Claim) × Int) (r6 : ((List Claim) × Int) → Option (List Claim)) (r8 : ((List Claim) × Int × Int) → Option (List Claim)) (v7 : (List Claim) × Int × Int) : Option (List Claim) :=
 if (decide (v7.2.2 ≤ a1)) then
 none
 else
 if (decide ((i64 (v7.2.1 + v5.2)) < a1)) then
 none
 else
 r6 (v7.1, i64 (v5.2 * 2))
def bd (a1 : Int) (r6 : ((List Claim) × Int) → Option (List Claim)) (v5 : (List Claim) × Int) : Option (List Claim) :=
 if (decide (v5.2 < a1)) then
 am FU (ia a1 v5 r6) (v5.1, 0, i64 (2 * v5.2))
 else
 some v5.1
def be (a1 : Int) (r2 : ((List Claim) × Int × Int) → Option (List Claim)) (v1 : (List Claim) × Int × Int) : Option (List Claim) :=
 if (decide (v1.2.2 ≤ a1)) then
 (ax v1.1 v1.2.1 v1.2.2).bind fun v3 =>
 r2 (v3, v1.2.2, i64 (v1.2.2 + 20))
 else
 (ax v1.1 v1.2.1 a1).bind fun v4 =>
 am FU (bd a1) (v4, 20)
def cc (a0 : List Claim) (a1 : Int) : Option (List Claim) :=
 am FU (be a1) (a0, 0, 20)
def bh (a0 : List Claim) : Option (List Claim) :=
 (cc a0 (a0.length : Int)).bind fun v1 =>
 some v1
def vv (a0 : List Claim) (a2 : Int) (a1 : Int) (r2 : ((List Claim) × (Ar 6 Bool) × (Ar 100 Bool) × Int) → Option (List Claim)) (v1 : (List Claim) × (Ar 6 Bool) × (Ar 100 Bool) × Int) : Option (List Claim) :=
 if (decide (v1.2.2.2 < (a0.length : Int))) then
 (av a0 v1.2.2.2).bind fun v3 =>
 if (v3.Benefit == 4) then
 (oj v3 a2).bind fun v4 =>
 (if v4 then (av v1.2.2.1.l v3.Ref).bind fun v5 =>
 (av v1.2.2.1.l v3.Ref).bind fun v6 =>
 some (!v6) else some false).bind fun v7 =>
 if v7 then
 (av v1.2.2.1.l v3.Ref).bind fun v8 =>
 (av v1.2.2.1.l v3.Ref).bind fun v9 =>
 if (v3.Person == a1) then
 (m8 48 v1.1 [v3]).bind fun v10 =>
 r2 (v10, v1.2.1, Ar.set v1.2.2.1 v3.Ref true, i64 (v1.2.2.2 + 1))
 else
 r2 (v1.1, v1.2.1, Ar.set v1.2.2.1 v3.Ref true, i64 (v1.2.2.2 + 1))
 else
 r2 (v1.1, v1.2.1, v1.2.2.1, i64 (v1.2.2.2 + 1))
 else
 (if (v3.Person == a1) then (av v1.2.1.l v3.Benefit).bind fun v11 =>
 (av v1.2.1.l v3.Benefit).bind fun v12 =>
 some (!v12) else some false).bind fun v13 =>
 if v13 then
 (av v1.2.1.l v3.Benefit).bind fun v14 =>
 (av v1.2.1.l v3.Benefit).bind fun v15 =>
 (oj v3 a2).bind fun v16 =>
 if v16 then
 (m8 48 v1.1 [v3]).bind fun v17 =>
 r2 (v17, Ar.set v1.2.1 v3.Benefit true, v1.2.2.1, i64 (v1.2.2.2 + 1))
 else
 r2 (v1.1, Ar.set v1.2.1 v3.Benefit true, v1.2.2.1, i64 (v1.2.2.2 + 1))
 else
 r2 (v1.1, v1.2.1, v1.2.2.1, i64 (v1.2.2.2 + 1))
 else
 (bh v1.1).bind fun v18 =>
 some v18
def en (a0 : List Claim) (a1 : Int) (a2 : Int) : Option (List Claim) :=
 am FU (vv a0 a2 a1) ([], (arZ 6 false : Ar 6 Bool), (arZ 100 false : Ar 100 Bool), 0)
def Bm (a0 : List Claim) (a1 : Int) (a2 : Int) : Option (List Claim) :=
 (if (decide (a2 < 0)) then some true else some (decide (a2 > 2399))).bind fun v1 =>
 if v1 then
 some []
 else
 (jz a0).bind fun v2 =>
 (en v2 a1 a2).bind fun v3 =>
 some v3
def zi (v3 : Int × Bool) : Option ByteArray :=
 if v3.2 then
 some Bb
 else
 if (v3.1 == 14) then
 some Fs
 else
 some ng
def wc (v2 : Int × Bool) : Option ByteArray :=
 if v2.2 then
 some q8
 else
 if (v2.1 == 6) then
 some yy
 else
 if (v2.1 == 10) then
 some Bg
 else
 if (v2.1 == 11) then
 joinC zi (v2.1, v2.1 == 11)
 else
 if (v2.1 == 12) then
 joinC zi (v2.1, v2.1 == 12)
 else
 joinC zi (v2.1, v2.1 == 13)
def Bn (v1 : Int × Bool) : Option ByteArray :=
 if v1.2 then
 some nc
 else
 if (v1.1 == 4) then
 some Bp
 else
 if (v1.1 == 5) then
 joinC wc (v1.1, v1.1 == 5)
 else
 if (v1.1 == 7) then
 joinC wc (v1.1, v1.1 == 7)
 else
 if (v1.1 == 8) then
 joinC wc (v1.1, v1.1 == 8)
 else
 joinC wc (v1.1, v1.1 == 9)
def rq (a0 : Int) : Option ByteArray :=
 if (a0 == 1) then
 some sr
 else
 if (a0 == 2) then
 joinC Bn (a0, a0 == 2)
 else
 joinC Bn (a0, a0 == 3)
def wt (a0 : ByteArray) (a1 : Int) : Option Int :=
 (td a0 a1).bind fun v1 =>
 some v1
def A3 (a0 : ByteArray) (a1 : ByteArray) : Option Int :=
 (if ((a1.size : Int) == 0) then some true else some (a1.toList == a0.toList)).bind fun v1 =>
 if v1 then
 some 0
 else
 if ((a1.size : Int) == 1) then
 (Bd a1 0).bind fun v2 =>
 (wt a0 v2).bind fun v3 =>
 some v3
 else
 if (decide ((a1.size : Int) ≥ (a0.size : Int))) then
 some (-1 : Int)
 else
 none
def E9 (a0 : ByteArray) (a1 : ByteArray) : Option Int :=
 (A3 a0 a1).bind fun v1 =>
 some v1
def B6 (a0 : ByteArray) (a1 : ByteArray) : Option Bool :=
 (E9 a0 a1).bind fun v1 =>
 some (decide (v1 ≥ 0))
def cm (a0 : ByteArray) (a1 : ByteArray) : Option Bool :=
 (B6 a1 a0).bind fun v1 =>
 some v1
def pp (a0 : Int) (a1 : Int) (a2 : Int) : Option Bool :=
 (if (decide (a0 ≥ a1)) then some (decide (a0 ≤ a2)) else some false).bind fun v1 =>
 some v1
def qh (a0 : Bool) (a1 : Int) (a2 : Int) (a3 : Int) : Option Bool :=
 (if a0 then (pp a1 a2 a3).bind fun v1 =>
 some v1 else some false).bind fun v2 =>
 (if v2 then some true else (if (!a0) then some (a1 == 0) else some false).bind fun v3 =>
 some v3).bind fun v4 =>
 some v4
def zu (a0 : Span) : Option Bool :=
 (if (decide (a0.From ≥ 0)) then some (decide (a0.From < a0.To)) else some false).bind fun v1 =>
 (if v1 then some (decide (a0.To ≤ 73049)) else some false).bind fun v2 =>
 some v2
def Aq (v29 : api_Fact × Bool) : Option Bool :=
 if v29.2 then
 some (v29.1.Ref != v29.1.Person)
 else
 some true
def B2 (v28 : api_Fact × Int × Bool) : Option Bool :=
 if v28.2.2 then
 some (v28.1.Span.To == (i64 (v28.1.Span.From + 1)))
 else
 if (v28.2.1 == 10) then
 joinC Aq (v28.1, v28.2.1 == 10)
 else
 joinC Aq (v28.1, v28.2.1 == 14)
def oo (a0 : api_Fact) : Option Bool :=
 (rq a0.Kind).bind fun v1 =>
 (if (v1.toList == ng.toList) then some true else (pp a0.Issuer 0 5).bind fun v2 =>
 some (!v2)).bind fun v3 =>
 (if v3 then some true else (pp a0.Number 1 999).bind fun v4 =>
 some (!v4)).bind fun v5 =>
 (if v5 then some true else (pp a0.Version 1 99).bind fun v6 =>
 some (!v6)).bind fun v7 =>
 (if v7 then some true else (pp a0.Person 1 99).bind fun v8 =>
 some (!v8)).bind fun v9 =>
 if v9 then
 some false
 else
 (cm abp v1).bind fun v10 =>
 (qh v10 a0.State 0 5).bind fun v11 =>
 (if (!v11) then some true else (cm acs v1).bind fun v12 =>
 (qh v12 a0.Seat 0 5).bind fun v13 =>
 some (!v13)).bind fun v14 =>
 (if v14 then some true else (zu a0.Span).bind fun v15 =>
 some (!v15)).bind fun v16 =>
 if v16 then
 some false
 else
 (cm abl v1).bind fun v17 =>
 (qh v17 a0.Share 1 100).bind fun v18 =>
 (if (!v18) then some true else (cm acg v1).bind fun v19 =>
 (qh v19 a0.Currency 1 999).bind fun v20 =>
 some (!v20)).bind fun v21 =>
 (if v21 then some true else (cm abu v1).bind fun v22 =>
 (qh v22 a0.Amount 0 1000000000).bind fun v23 =>
 some (!v23)).bind fun v24 =>
 (if v24 then some true else (cm aar v1).bind fun v25 =>
 (qh v25 a0.Ref 1 99).bind fun v26 =>
 some (!v26)).bind fun v27 =>
 if v27 then
 some false
 else
 if (a0.Kind == 4) then
 some (a0.State != a0.Seat)
 else
 if (a0.Kind == 11) then
 joinC B2 (a0, a0.Kind, a0.Kind == 11)
 else
 joinC B2 (a0, a0.Kind, a0.Kind == 12)
def qp (a0 : api_Fact) (a1 : api_Fact) : Option Int :=
 (bv a0.Issuer a1.Issuer).bind fun v1 =>
 (bv a0.Number a1.Number).bind fun v2 =>
 (lv [v1, v2]).bind fun v3 =>
 some v3
def q7 (v3 : Int) (r2 : ((List Int) × Int) → Option (List Int)) (v1 : (List Int) × Int) (r5 : ((List Int) × Int) → Option (List Int)) (v4 : (List Int) × Int) : Option (List Int) :=
 if (decide (v4.2 ≥ 0)) then
 (X6 .i64 v3 (i64 (8 * v4.2))).bind fun v6 =>
 (m8 1 v4.1 [IntKind.u8.wrap (v6)]).bind fun v7 =>
 r5 (v7, i64 (v4.2 - 1))
 else
 r2 (v4.1, i64 (v1.2 + 1))
def lq (a2 : List Int) (a1 : Int) (r2 : ((List Int) × Int) → Option (List Int)) (v1 : (List Int) × Int) : Option (List Int) :=
 if (decide (v1.2 < (a2.length : Int))) then
 (av a2 v1.2).bind fun v3 =>
 am FU (q7 v3 r2 v1) (v1.1, i64 (a1 - 1))
 else
 some v1.1
def b9 (a0 : List Int) (a1 : Int) (a2 : List Int) : Option (List Int) :=
 am FU (lq a2 a1) (a0, 0)
def xt (r8 : (api_Fact × (List Int) × (ByteArray × Int)) → Option (List Int)) (v7 : api_Fact × (List Int) × (ByteArray × Int)) : Option (List Int) :=
 optC (N6 v7.2.2.1 v7.2.2.2) (some v7.2.1) fun v9 =>
 (v9).bind fun v10 =>
 if (v10 == 83) then
 (b9 v7.2.1 1 [v7.1.State]).bind fun v11 =>
 r8 (v7.1, v11, (v7.2.2.1, v7.2.2.2 + 1))
 else
 if (v10 == 80) then
 (b9 v7.2.1 3 [v7.1.Span.From, v7.1.Span.To]).bind fun v12 =>
 r8 (v7.1, v12, (v7.2.2.1, v7.2.2.2 + 1))
 else
 if (v10 == 84) then
 (b9 v7.2.1 1 [v7.1.Seat]).bind fun v13 =>
 r8 (v7.1, v13, (v7.2.2.1, v7.2.2.2 + 1))
 else
 if (v10 == 72) then
 (b9 v7.2.1 1 [v7.1.Share]).bind fun v14 =>
 r8 (v7.1, v14, (v7.2.2.1, v7.2.2.2 + 1))
 else
 if (v10 == 67) then
 (b9 v7.2.1 2 [v7.1.Currency]).bind fun v15 =>
 r8 (v7.1, v15, (v7.2.2.1, v7.2.2.2 + 1))
 else
 if (v10 == 65) then
 (b9 v7.2.1 4 [v7.1.Amount]).bind fun v16 =>
 r8 (v7.1, v16, (v7.2.2.1, v7.2.2.2 + 1))
 else
 if (v10 == 82) then
 (b9 v7.2.1 1 [v7.1.Ref]).bind fun v17 =>
 r8 (v7.1, v17, (v7.2.2.1, v7.2.2.2 + 1))
 else
 r8 (v7.1, v7.2.1, (v7.2.2.1, v7.2.2.2 + 1))
def xu (v2 : api_Fact × Int) : Option (List Int) :=
 (b9 [] 1 [v2.1.Issuer]).bind fun v3 =>
 (b9 v3 2 [v2.1.Number]).bind fun v4 =>
 (b9 v4 1 [v2.1.Version, v2.2, v2.1.Person, v2.1.Kind]).bind fun v5 =>
 (rq v2.1.Kind).bind fun v6 =>
 am FU xt (v2.1, v5, (v6, 0))
def Ab (a0 : api_Fact) : Option (List Int) :=
 (oo a0).bind fun v1 =>
 if (!v1) then
 some []
 else
 if a0.Withdrawn then
 joinC xu (a0, 1)
 else
 joinC xu (a0, 0)
def Ao (a0 : List Int) (a1 : List Int) : Option Int :=
 (yn a0 a1).bind fun v1 =>
 some v1
def E3 (a0 : api_Fact) (a1 : api_Fact) : Option Bool :=
 (oo a0).bind fun v1 =>
 (if (!v1) then some true else (oo a1).bind fun v2 =>
 some (!v2)).bind fun v3 =>
 if v3 then
 some false
 else
 (Ab a0).bind fun v4 =>
 (Ab a1).bind fun v5 =>
 (Ao v4 v5).bind fun v6 =>
 some (decide (v6 < 0))
def vp (a0 : api_Fact) (a1 : api_Fact) : Option api_Fact :=
 (E3 a0 a1).bind fun v1 =>
 if v1 then
 some a1
 else
 some a0
def aj (r2 : ((List api_Fact) × (List api_Fact) × (List api_Fact)) → Option (List api_Fact)) (v1 : (List api_Fact) × (List api_Fact) × (List api_Fact)) : Option (List api_Fact) :=
 (if (decide ((v1.1.length : Int) > 0)) then some (decide ((v1.2.1.length : Int) > 0)) else some false).bind fun v3 =>
 if v3 then
 (av v1.1 0).bind fun v4 =>
 (av v1.2.1 0).bind fun v5 =>
 (qp v4 v5).bind fun v6 =>
 if (decide (v6 < 0)) then
 (av v1.1 0).bind fun v7 =>
 (m8 112 v1.2.2 [v7]).bind fun v8 =>
 (fp v1.1 1 (v1.1.length : Int)).bind fun v9 =>
 r2 (v9, v1.2.1, v8)
 else
 if (decide (v6 > 0)) then
 (av v1.2.1 0).bind fun v10 =>
 (m8 112 v1.2.2 [v10]).bind fun v11 =>
 (fp v1.2.1 1 (v1.2.1.length : Int)).bind fun v12 =>
 r2 (v1.1, v12, v11)
 else
 (av v1.1 0).bind fun v13 =>
 (av v1.2.1 0).bind fun v14 =>
 (vp v13 v14).bind fun v15 =>
 (m8 112 v1.2.2 [v15]).bind fun v16 =>
 (fp v1.1 1 (v1.1.length : Int)).bind fun v17 =>
 (fp v1.2.1 1 (v1.2.1.length : Int)).bind fun v18 =>
 r2 (v17, v18, v16)
 else
 (m8 112 v1.2.2 v1.1).bind fun v19 =>
 (m8 112 v19 v1.2.1).bind fun v20 =>
 some v20
def ap (a0 : List api_Fact) (a1 : List api_Fact) : Option (List api_Fact) :=
 am FU aj (a0, a1, [])
def nv (a0 : List api_Fact) (r2 : ((List api_Fact) × Int) → Option (List api_Fact)) (v1 : (List api_Fact) × Int) : Option (List api_Fact) :=
 if (decide (v1.2 < (a0.length : Int))) then
 (av a0 v1.2).bind fun v3 =>
 (oo v3).bind fun v4 =>
 if v4 then
 (ap v1.1 [v3]).bind fun v5 =>
 r2 (v5, i64 (v1.2 + 1))
 else
 r2 (v1.1, i64 (v1.2 + 1))
 else
 some v1.1
def oc (a0 : List api_Fact) : Option (List api_Fact) :=
 am FU (nv a0) ([], 0)
def sj (a0 : List api_Fact) (a1 : List api_Fact) : Option (List api_Fact) :=
 (oc a0).bind fun v1 =>
 (oc a1).bind fun v2 =>
 (ap v1 v2).bind fun v3 =>
 some v3
def Cw (a0 : api_Fact) (a1 : Int) : Option Bool :=
 some (a0.Person == a1)
def iv (a0 : List api_Fact) (a1_0 : Int) (r2 : ((List api_Fact) × Int) → Option (List api_Fact)) (v1 : (List api_Fact) × Int) : Option (List api_Fact) :=
 if (decide (v1.2 < (a0.length : Int))) then
 (av a0 v1.2).bind fun v3 =>
 (Cw v3 a1_0).bind fun v4 =>
 if v4 then
 (m8 112 v1.1 [v3]).bind fun v5 =>
 r2 (v5, i64 (v1.2 + 1))
 else
 r2 (v1.1, i64 (v1.2 + 1))
 else
 some v1.1
def kc (a0 : List api_Fact) (a1_0 : Int) : Option (List api_Fact) :=
 am FU (iv a0 a1_0) ([], 0)
def ro (a0 : List api_Fact) (a1 : Int) : Option (List api_Fact) :=
 (kc a0 a1).bind fun v1 =>
 some v1
def B5 (a0 : Laws) (a1 : List api_Fact) (a2 : List Claim) (a3 : Int) : Option (Option decision_file) :=
 (sj a1 []).bind fun v1 =>
 (ro v1 a3).bind fun v2 =>
 (jz a2).bind fun v3 =>
 some (some (⟨a0, v1, v2, v3, a3⟩ : decision_file))
def ir (v1 : List Claim) (a1 : Int) (r3 : ((List Claim) × (List Claim) × Int) → Option (List Claim)) (v2 : (List Claim) × (List Claim) × Int) : Option (List Claim) :=
 if (decide (v2.2.2 < (v1.length : Int))) then
 (av v2.2.1 v2.2.2).bind fun v4 =>
 (av v2.2.1 v2.2.2).bind fun v5 =>
 if (v5.Benefit == a1) then
 (m8 48 v2.1 [v5]).bind fun v6 =>
 r3 (v6, v2.2.1, i64 (v2.2.2 + 1))
 else
 r3 (v2.1, v2.2.1, i64 (v2.2.2 + 1))
 else
 some v2.1
def ku (a0 : decision_file) (a1 : Int) (a2 : Int) : Option (List Claim) :=
 (en a0.claims a0.person a2).bind fun v1 =>
 am FU (ir v1 a1) ([], v1, 0)
def rk (a0 : api_Fact) : Option Bool :=
 (oo a0).bind fun v1 =>
 (if v1 then some (!a0.Withdrawn) else some false).bind fun v2 =>
 some v2
def tk (a0 : List api_Fact) (a1 : Int) (r2 : (Int × Bool × Int) → Option (Int × Bool)) (v1 : Int × Bool × Int) : Option (Int × Bool) :=
 if (decide (v1.2.2 < (a0.length : Int))) then
 (av a0 v1.2.2).bind fun v3 =>
 (rk v3).bind fun v4 =>
 (if v4 then some (v3.Kind == a1) else some false).bind fun v5 =>
 (if v5 then (if (!v1.2.1) then some true else some (decide (v3.Span.From < v1.1))).bind fun v6 =>
 some v6 else some false).bind fun v7 =>
 if v7 then
 r2 (v3.Span.From, true, i64 (v1.2.2 + 1))
 else
 r2 (v1.1, v1.2.1, i64 (v1.2.2 + 1))
 else
 some (v1.1, v1.2.1)
def yx (a0 : List api_Fact) (a1 : Int) : Option (Int × Bool) :=
 am FU (tk a0 a1) (0, false, 0)
def qc (a0 : List api_Fact) : Option (Int × Bool) :=
 (yx a0 12).bind fun v1 =>
 some (v1.1, v1.2)
def np (a0 : decision_file) (a1 : Int) : Option Bool :=
 (qc a0.own).bind fun v1 =>
 (if (!v1.2) then some true else some (decide (v1.1 ≥ a1))).bind fun v2 =>
 some v2
def g7 (a0 : List api_Fact) (r2 : ((List api_Fact) × Int) → Option (List api_Fact)) (v1 : (List api_Fact) × Int) : Option (List api_Fact) :=
 if (decide (v1.2 < (a0.length : Int))) then
 (av a0 v1.2).bind fun v3 =>
 (rk v3).bind fun v4 =>
 if v4 then
 (m8 112 v1.1 [v3]).bind fun v5 =>
 r2 (v5, i64 (v1.2 + 1))
 else
 r2 (v1.1, i64 (v1.2 + 1))
 else
 some v1.1
def iz (a0 : List api_Fact) : Option (List api_Fact) :=
 am FU (g7 a0) ([], 0)
def ot (a0 : List api_Fact) : Option (List api_Fact) :=
 (iz a0).bind fun v1 =>
 some v1
def nb (a0 : api_Fact) (a1 : Int) : Option Bool :=
 (if (a0.Kind == 13) then some (decide (a0.Span.From ≤ a1)) else some false).bind fun v1 =>
 (if v1 then some (decide (a1 < a0.Span.To)) else some false).bind fun v2 =>
 some v2
def bg (a0 : List api_Fact) (a1_0 : Int) (r2 : Int → Option Int) (v1 : Int) : Option Int :=
 if (decide (v1 < (a0.length : Int))) then
 (av a0 v1).bind fun v3 =>
 (nb v3 a1_0).bind fun v4 =>
 if v4 then
 some v1
 else
 r2 (i64 (v1 + 1))
 else
 some (-1 : Int)
def cf (a0 : List api_Fact) (a1_0 : Int) : Option Int :=
 am FU (bg a0 a1_0) 0
def c8 (a0 : List api_Fact) (a1_0 : Int) : Option Bool :=
 (cf a0 a1_0).bind fun v1 =>
 some (decide (v1 ≥ 0))
def kq (a0 : decision_file) (a1 : Int) : Option Bool :=
 (ot a0.own).bind fun v1 =>
 (c8 v1 a1).bind fun v2 =>
 some v2
def si (a0 : List api_Fact) (a1 : Int) (a2 : Int) (r2 : ((List Span) × Int) → Option (List Span)) (v1 : (List Span) × Int) : Option (List Span) :=
 if (decide (v1.2 < (a0.length : Int))) then
 (av a0 v1.2).bind fun v3 =>
 (if (v3.Kind == a1) then some (v3.Ref == a2) else some false).bind fun v4 =>
 if v4 then
 (m8 16 v1.1 [v3.Span]).bind fun v5 =>
 r2 (v5, i64 (v1.2 + 1))
 else
 r2 (v1.1, i64 (v1.2 + 1))
 else
 some v1.1
def l8 (a0 : List api_Fact) (a1 : Int) (a2 : Int) : Option (List Span) :=
 am FU (si a0 a1 a2) ([], 0)
def ph (r4 : ((List Span) × (List Span) × (List Span) × Int × Int) → Option (List Span)) (v15 : (List Span) × (List Span) × (List Span) × Int × Int) : Option (List Span) :=
 (av v15.1 v15.2.2.2.1).bind fun v16 =>
 (av v15.1 v15.2.2.2.1).bind fun v17 =>
 (av v15.2.1 v15.2.2.2.2).bind fun v18 =>
 (av v15.2.1 v15.2.2.2.2).bind fun v19 =>
 if (decide (v17.To < v19.To)) then
 r4 (v15.1, v15.2.1, v15.2.2.1, i64 (v15.2.2.2.1 + 1), v15.2.2.2.2)
 else
 r4 (v15.1, v15.2.1, v15.2.2.1, v15.2.2.2.1, i64 (v15.2.2.2.2 + 1))
def t6 (r4 : ((List Span) × (List Span) × (List Span) × Int × Int) → Option (List Span)) (v3 : (List Span) × (List Span) × (List Span) × Int × Int) : Option (List Span) :=
 (if (decide (v3.2.2.2.1 < (v3.1.length : Int))) then some (decide (v3.2.2.2.2 < (v3.2.1.length : Int))) else some false).bind fun v5 =>
 if v5 then
 (av v3.1 v3.2.2.2.1).bind fun v6 =>
 (av v3.1 v3.2.2.2.1).bind fun v7 =>
 (av v3.2.1 v3.2.2.2.2).bind fun v8 =>
 (av v3.2.1 v3.2.2.2.2).bind fun v9 =>
 (av v3.1 v3.2.2.2.1).bind fun v10 =>
 (av v3.1 v3.2.2.2.1).bind fun v11 =>
 (av v3.2.1 v3.2.2.2.2).bind fun v12 =>
 (av v3.2.1 v3.2.2.2.2).bind fun v13 =>
 if (decide ((max v7.From v9.From) < (min v11.To v13.To))) then
 (m8 16 v3.2.2.1 [(⟨max v7.From v9.From, min v11.To v13.To⟩ : Span)]).bind fun v14 =>
 joinC (ph r4) (v3.1, v3.2.1, v14, v3.2.2.2.1, v3.2.2.2.2)
 else
 joinC (ph r4) (v3.1, v3.2.1, v3.2.2.1, v3.2.2.2.1, v3.2.2.2.2)
 else
 some v3.2.2.1
def ta (a0 : List Span) (a1 : List Span) : Option (List Span) :=
 (spans_Make a0).bind fun v1 =>
 (spans_Make a1).bind fun v2 =>
 am FU t6 (v1, v2, [], 0, 0)
def vn (a0 : List Span) (a1 : Span) : Option (List Span) :=
 (ta a0 [a1]).bind fun v1 =>
 some v1
def tw (v1 : List Span) (a1 : Int) (r3 : (Int × (List Span) × Int) → Option Int) (v2 : Int × (List Span) × Int) : Option Int :=
 if (decide (v2.2.2 < (v1.length : Int))) then
 (av v2.2.1 v2.2.2).bind fun v4 =>
 (av v2.2.1 v2.2.2).bind fun v5 =>
 if (decide (v5.From < a1)) then
 r3 (i64 (v2.1 + (i64 ((min v5.To a1) - v5.From))), v2.2.1, i64 (v2.2.2 + 1))
 else
 r3 (v2.1, v2.2.1, i64 (v2.2.2 + 1))
 else
 some v2.1
def Bo (a0 : List Span) (a1 : Int) : Option Int :=
 (spans_Make a0).bind fun v1 =>
 am FU (tw v1 a1) (0, v1, 0)
def xy (a0 : List Span) : Option Int :=
 (Bo a0 73049).bind fun v1 =>
 some v1
def jb (a0 : List api_Fact) (a1 : Int) (a2 : Int) : Option Bool :=
 (ro a0 a1).bind fun v1 =>
 (qc v1).bind fun v2 =>
 (if (!v2.2) then some true else some (decide (v2.1 ≥ a2))).bind fun v3 =>
 some v3
def wx (a0 : Span) (a1 : Int) : Option Bool :=
 (if (decide (a0.From ≤ a1)) then some (decide (a1 < a0.To)) else some false).bind fun v1 =>
 some v1
def c3 (a0 : List Span) (a1_0 : Int) (r2 : Int → Option Int) (v1 : Int) : Option Int :=
 if (decide (v1 < (a0.length : Int))) then
 (av a0 v1).bind fun v3 =>
 (wx v3 a1_0).bind fun v4 =>
 if v4 then
 some v1
 else
 r2 (i64 (v1 + 1))
 else
 some (-1 : Int)
def d7 (a0 : List Span) (a1_0 : Int) : Option Int :=
 am FU (c3 a0 a1_0) 0
def cu (a0 : List Span) (a1_0 : Int) : Option Bool :=
 (d7 a0 a1_0).bind fun v1 =>
 some (decide (v1 ≥ 0))
def rr (a0 : List Span) (a1 : Int) : Option Bool :=
 (if (decide (a1 < 0)) then some true else some (decide (a1 ≥ 73049))).bind fun v1 =>
 if v1 then
 some false
 else
 (cu a0 a1).bind fun v2 =>
 some v2
def mi (a1 : Int) (a0 : List api_Fact) (a2 : Int) (r2 : Int → Option Bool) (v1 : Int) : Option Bool :=
 if (decide (v1 ≤ 99)) then
 (if (v1 != a1) then (jb a0 v1 a2).bind fun v3 =>
 some v3 else some false).bind fun v4 =>
 if v4 then
 (ro a0 v1).bind fun v5 =>
 (l8 v5 10 a1).bind fun v6 =>
 (rr v6 a2).bind fun v7 =>
 if v7 then
 some true
 else
 r2 (i64 (v1 + 1))
 else
 r2 (i64 (v1 + 1))
 else
 some false
def ql (a0 : List api_Fact) (a1 : Int) (a2 : Int) : Option Bool :=
 am FU (mi a1 a0 a2) 1
def nu (r21 : ((List api_Fact) × (List api_Fact) × (List Heir) × (Ar 100 Bool) × Int) → Option (List Heir)) (v27 : (List api_Fact) × Int × Int × (List api_Fact) × (List Heir) × (Ar 100 Bool) × Int) : Option (List Heir) :=
 (ql v27.1 v27.2.2.2.2.2.2 v27.2.2.1).bind fun v28 =>
 if v28 then
 (m8 24 v27.2.2.2.2.1 [(⟨v27.2.2.2.2.2.2, 2, 0⟩ : Heir)]).bind fun v29 =>
 r21 (v27.1, v27.2.2.2.1, v29, v27.2.2.2.2.2.1, i64 (v27.2.2.2.2.2.2 + 1))
 else
 (m8 24 v27.2.2.2.2.1 [(⟨v27.2.2.2.2.2.2, 3, 0⟩ : Heir)]).bind fun v30 =>
 r21 (v27.1, v27.2.2.2.1, v30, v27.2.2.2.2.2.1, i64 (v27.2.2.2.2.2.2 + 1))
def jq (a1 : Int) (a2 : Int) (r21 : ((List api_Fact) × (List api_Fact) × (List Heir) × (Ar 100 Bool) × Int) → Option (List Heir)) (v20 : (List api_Fact) × (List api_Fact) × (List Heir) × (Ar 100 Bool) × Int) : Option (List Heir) :=
 if (decide (v20.2.2.2.2 ≤ 99)) then
 (if (v20.2.2.2.2 == a1) then some true else (av v20.2.2.2.1.l v20.2.2.2.2).bind fun v22 =>
 (av v20.2.2.2.1.l v20.2.2.2.2).bind fun v23 =>
 some v23).bind fun v24 =>
 if v24 then
 (if true then some true else (jb v20.1 v20.2.2.2.2 a2).bind fun v25 =>
 some (!v25)).bind fun v26 =>
 if v26 then
 r21 (v20.1, v20.2.1, v20.2.2.1, v20.2.2.2.1, i64 (v20.2.2.2.2 + 1))
 else
 joinC (nu r21) (v20.1, a1, a2, v20.2.1, v20.2.2.1, v20.2.2.2.1, v20.2.2.2.2)
 else
 (l8 v20.2.1 10 v20.2.2.2.2).bind fun v31 =>
 (rr v31 a2).bind fun v32 =>
 (if (!v32) then some true else (jb v20.1 v20.2.2.2.2 a2).bind fun v33 =>
 some (!v33)).bind fun v34 =>
 if v34 then
 r21 (v20.1, v20.2.1, v20.2.2.1, v20.2.2.2.1, i64 (v20.2.2.2.2 + 1))
 else
 joinC (nu r21) (v20.1, a1, a2, v20.2.1, v20.2.2.1, v20.2.2.2.1, v20.2.2.2.2)
 else
 (fp v20.2.2.1 0 (min (v20.2.2.1.length : Int) 12)).bind fun v35 =>
 some v35
def g8 (v7 : Int × Bool) (a1 : Int) (a2 : Int) (r10 : ((List api_Fact) × (List api_Fact) × (List Heir) × (Ar 100 Bool) × Int) → Option (List Heir)) (v9 : (List api_Fact) × (List api_Fact) × (List Heir) × (Ar 100 Bool) × Int) : Option (List Heir) :=
 if (decide (v9.2.2.2.2 ≤ 99)) then
 (l8 v9.2.1 14 v9.2.2.2.2).bind fun v11 =>
 (vn v11 (⟨0, i64 (v7.1 + 1)⟩ : Span)).bind fun v12 =>
 (xy v12).bind fun v13 =>
 (if (v9.2.2.2.2 != a1) then some (decide (v13 > 0)) else some false).bind fun v14 =>
 (if v14 then (jb v9.1 v9.2.2.2.2 a2).bind fun v15 =>
 some v15 else some false).bind fun v16 =>
 if v16 then
 (av v9.2.2.2.1.l v9.2.2.2.2).bind fun v17 =>
 (av v9.2.2.2.1.l v9.2.2.2.2).bind fun v18 =>
 (m8 24 v9.2.2.1 [(⟨v9.2.2.2.2, 1, v13⟩ : Heir)]).bind fun v19 =>
 r10 (v9.1, v9.2.1, v19, Ar.set v9.2.2.2.1 v9.2.2.2.2 true, i64 (v9.2.2.2.2 + 1))
 else
 r10 (v9.1, v9.2.1, v9.2.2.1, v9.2.2.2.1, i64 (v9.2.2.2.2 + 1))
 else
 am FU (jq a1 a2) (v9.1, v9.2.1, v9.2.2.1, v9.2.2.2.1, 1)
def jn (a0 : List api_Fact) (a1 : Int) (a2 : Int) : Option (List Heir) :=
 (if (decide (a1 < 1)) then some true else some (decide (a1 > 99))).bind fun v1 =>
 (if v1 then some true else some (decide (a2 < 0))).bind fun v2 =>
 (if v2 then some true else some (decide (a2 > 73048))).bind fun v3 =>
 if v3 then
 some []
 else
 (sj a0 []).bind fun v4 =>
 (ot v4).bind fun v5 =>
 (ro v5 a1).bind fun v6 =>
 (qc v6).bind fun v7 =>
 (if (!v7.2) then some true else some (decide (v7.1 ≥ a2))).bind fun v8 =>
 if v8 then
 some []
 else
 am FU (g8 v7 a1 a2) (v5, v6, [], (arZ 100 false : Ar 100 Bool), 1)
def rh (a0 : Heir) (a1 : decision_file) : Option Bool :=
 some (a0.Person == a1.person)
def bt (a0 : List Heir) (a1_0 : decision_file) (r2 : Int → Option Int) (v1 : Int) : Option Int :=
 if (decide (v1 < (a0.length : Int))) then
 (av a0 v1).bind fun v3 =>
 (rh v3 a1_0).bind fun v4 =>
 if v4 then
 some v1
 else
 r2 (i64 (v1 + 1))
 else
 some (-1 : Int)
def co (a0 : List Heir) (a1_0 : decision_file) : Option Int :=
 am FU (bt a0 a1_0) 0
def pe (a0 : decision_file) (a1 : List Heir) : Option Int :=
 (co a1 a0).bind fun v1 =>
 some v1
def yt (a0 : List api_Fact) : Option (List api_Fact) :=
 (sj a0 []).bind fun v1 =>
 (ot v1).bind fun v2 =>
 some v2
def sn (a0 : List api_Fact) (a1 : Int) (a2 : Int) : Option Bool :=
 (ro a0 a1).bind fun v1 =>
 (qc v1).bind fun v2 =>
 (if (!v2.2) then some true else some (decide (v2.1 ≥ a2))).bind fun v3 =>
 some v3
def yi (a0 : api_Fact) (a1 : Int) (a2 : Int) : Option Bool :=
 (if (a0.Kind == 10) then some (a0.Ref == a1) else some false).bind fun v1 =>
 (if v1 then some (decide (a0.Span.From ≤ a2)) else some false).bind fun v2 =>
 (if v2 then some (decide (a2 < a0.Span.To)) else some false).bind fun v3 =>
 some v3
def c4 (a0 : List api_Fact) (a1_0 : Int) (a1_1 : Int) (r2 : Int → Option Int) (v1 : Int) : Option Int :=
 if (decide (v1 < (a0.length : Int))) then
 (av a0 v1).bind fun v3 =>
 (yi v3 a1_0 a1_1).bind fun v4 =>
 if v4 then
 some v1
 else
 r2 (i64 (v1 + 1))
 else
 some (-1 : Int)
def d9 (a0 : List api_Fact) (a1_0 : Int) (a1_1 : Int) : Option Int :=
 am FU (c4 a0 a1_0 a1_1) 0
def cv (a0 : List api_Fact) (a1_0 : Int) (a1_1 : Int) : Option Bool :=
 (d9 a0 a1_0 a1_1).bind fun v1 =>
 some (decide (v1 ≥ 0))
def xr (a0 : List api_Fact) (a1 : Int) (a2 : Int) : Option Bool :=
 (cv a0 a1 a2).bind fun v1 =>
 some v1
def uv (a1 : Int) (a0 : List api_Fact) (a2 : Int) (r7 : ((List Int) × Int) → Option (List Int)) (v6 : (List Int) × Int) : Option (List Int) :=
 if (decide (v6.2 ≤ 99)) then
 if (v6.2 != a1) then
 (ro a0 v6.2).bind fun v8 =>
 (xr v8 a1 a2).bind fun v9 =>
 (if v9 then (sn a0 v6.2 a2).bind fun v10 =>
 some v10 else some false).bind fun v11 =>
 if v11 then
 (m8 8 v6.1 [v6.2]).bind fun v12 =>
 r7 (v12, i64 (v6.2 + 1))
 else
 r7 (v6.1, i64 (v6.2 + 1))
 else
 (if false then (sn a0 v6.2 a2).bind fun v13 =>
 some v13 else some false).bind fun v14 =>
 if v14 then
 (m8 8 v6.1 [v6.2]).bind fun v15 =>
 r7 (v15, i64 (v6.2 + 1))
 else
 r7 (v6.1, i64 (v6.2 + 1))
 else
 some v6.1
def zw (a0 : List api_Fact) (a1 : Int) (a2 : Int) : Option (List Int) :=
 (if (decide (a1 < 1)) then some true else some (decide (a1 > 99))).bind fun v1 =>
 (if v1 then some true else some (decide (a2 < 0))).bind fun v2 =>
 (if v2 then some true else some (decide (a2 > 73048))).bind fun v3 =>
 (if v3 then some true else (sn a0 a1 a2).bind fun v4 =>
 some (!v4)).bind fun v5 =>
 if v5 then
 some []
 else
 am FU (uv a1 a0 a2) ([], 1)
def vu (a0 : List api_Fact) (a1 : Int) (a2 : Int) : Option (List Int) :=
 (yt a0).bind fun v1 =>
 (zw v1 a1 a2).bind fun v2 =>
 some v2
def kx (a0 : List Int) (a1 : Int) (r2 : Int → Option Int) (v1 : Int) : Option Int :=
 if (decide (v1 < (a0.length : Int))) then
 (av a0 v1).bind fun v3 =>
 if (a1 == v3) then
 some v1
 else
 r2 (i64 (v1 + 1))
 else
 some (-1 : Int)
def s9 (a0 : List Int) (a1 : Int) : Option Int :=
 am FU (kx a0 a1) 0
def l0 (a0 : List Int) (a1 : Int) : Option Bool :=
 (s9 a0 a1).bind fun v1 =>
 some (decide (v1 ≥ 0))
def md (a0 : decision_file) (a1 : Int) (a2 : Int) : Option Bool :=
 (vu a0.facts a1 a2).bind fun v1 =>
 (l0 v1 a0.person).bind fun v2 =>
 some v2
def n7 (a0 : Claim) (a1 : decision_file) (a2 : Int) : Option Bool :=
 (md a1 a0.Ref a2).bind fun v1 =>
 some v1
def bf (a0 : List Claim) (a1_0 : decision_file) (a1_1 : Int) (r2 : Int → Option Int) (v1 : Int) : Option Int :=
 if (decide (v1 < (a0.length : Int))) then
 (av a0 v1).bind fun v3 =>
 (n7 v3 a1_0 a1_1).bind fun v4 =>
 if v4 then
 some v1
 else
 r2 (i64 (v1 + 1))
 else
 some (-1 : Int)
def c9 (a0 : List Claim) (a1_0 : decision_file) (a1_1 : Int) : Option Int :=
 am FU (bf a0 a1_0 a1_1) 0
def c5 (a0 : List Claim) (a1_0 : decision_file) (a1_1 : Int) : Option Bool :=
 (c9 a0 a1_0 a1_1).bind fun v1 =>
 some (decide (v1 ≥ 0))
def km (a0 : decision_file) (a1 : Int) (a2 : Int) (a3 : Int) : Option Bool :=
 (ku a0 a1 a2).bind fun v1 =>
 (if ((v1.length : Int) == 0) then some true else (np a0 a3).bind fun v2 =>
 some (!v2)).bind fun v3 =>
 if v3 then
 some false
 else
 if (a1 == 2) then
 (kq a0 a3).bind fun v4 =>
 some v4
 else
 if (a1 == 3) then
 (av v1 0).bind fun v5 =>
 (av v1 0).bind fun v6 =>
 (jn a0.facts v6.Ref a3).bind fun v7 =>
 (pe a0 v7).bind fun v8 =>
 some (decide (v8 ≥ 0))
 else
 if (a1 == 4) then
 (c5 v1 a0 a3).bind fun v9 =>
 some v9
 else
 some true
def di (a0 : List api_Fact) (a1 : List Claim) (a2 : Int) (a3 : Int) (a4 : Int) : Option Bool :=
 (dy a4).bind fun v1 =>
 if v1.2 then
 (B5 (⟨[], [], []⟩ : Laws) a0 a1 a2).bind fun v2 =>
 optC v2 (none) fun v3 =>
 (km v3 a3 a4 v1.1).bind fun v4 =>
 some v4
 else
 some false
def th : Option Bool :=
 (q9 2000 3 15).bind fun v1 =>
 (fq (⟨1, 5, 2, 1, 0, v1.1⟩ : Claim)).bind fun v2 =>
 (Bm [(⟨1, 5, 2, 1, 0, v1.1⟩ : Claim)] 2 1203).bind fun v3 =>
 (if v2.2 then some (v2.1 == 1203) else some false).bind fun v4 =>
 (if v4 then (ij (⟨1, 5, 2, 1, 0, v1.1⟩ : Claim)).bind fun v5 =>
 some v5 else some false).bind fun v6 =>
 (if v6 then some ((v3.length : Int) == 1) else some false).bind fun v7 =>
 (if v7 then (av v3 0).bind fun v8 =>
 (av v3 0).bind fun v9 =>
 some ((v9.Issuer == 1) && ((v9.Number == 5) && ((v9.Person == 2) && ((v9.Benefit == 1) && ((v9.Ref == 0) && ((v9.Day == v1.1) && (true))))))) else some false).bind fun v10 =>
 if v10 then
 (di [] [(⟨1, 5, 2, 1, 0, v1.1⟩ : Claim)] 2 1 1203).bind fun v11 =>
 if v11 then
 (di [] [(⟨1, 5, 2, 1, 0, v1.1⟩ : Claim)] 2 1 1202).bind fun v12 =>
 some (!v12)
 else
 some false
 else
 some false
def da (a0 : Int) : Option Bool :=
 (if (decide (a0 ≥ 0)) then some (decide (a0 ≤ 2399)) else some false).bind fun v1 =>
 some v1
def eq (a0 : Int) : Option (Int × Bool) :=
 (da a0).bind fun v1 =>
 if (!v1) then
 some (0, false)
 else
 (ff a0).bind fun v2 =>
 some (v2, true)
def Ch (v1 : ByteArray) (a1 : Int) (r3 : Int → Option Bool) (v2 : Int) : Option Bool :=
 if (decide (v2 < (v1.size : Int))) then
 (Bd v1 v2).bind fun v4 =>
 if (v4 == a1) then
 some true
 else
 r3 (i64 (v2 + 1))
 else
 some false
def c7 (a0 : Int) (a1 : Int) : Option Bool :=
 (cw a0).bind fun v1 =>
 am FU (Ch v1 a1) 0
def dq (a0 : Int) (a1 : Int) (a2 : Int) (a3 : Int) (a4 : Int) : Option Bool :=
 (c7 a0 a1).bind fun v1 =>
 if v1 then
 (if (decide (a2 ≥ a3)) then some (decide (a2 ≤ a4)) else some false).bind fun v2 =>
 some v2
 else
 some (a2 == 0)
def ce (a0 : api_Fact) : Option Bool :=
 (if (decide (a0.Issuer < 0)) then some true else some (decide (a0.Issuer ≥ 6))).bind fun v1 =>
 (if v1 then some true else some (decide (a0.Number < 1))).bind fun v2 =>
 (if v2 then some true else some (decide (a0.Number > 999))).bind fun v3 =>
 (if v3 then some true else some (decide (a0.Version < 1))).bind fun v4 =>
 (if v4 then some true else some (decide (a0.Version > 99))).bind fun v5 =>
 (if v5 then some true else some (decide (a0.Person < 1))).bind fun v6 =>
 (if v6 then some true else some (decide (a0.Person > 99))).bind fun v7 =>
 (if v7 then some true else (cw a0.Kind).bind fun v8 =>
 some (v8.toList == ng.toList)).bind fun v9 =>
 if v9 then
 some false
 else
 (if (decide (a0.Span.From < 0)) then some true else some (decide (a0.Span.From ≥ a0.Span.To))).bind fun v10 =>
 (if v10 then some true else some (decide (a0.Span.To > 73049))).bind fun v11 =>
 if v11 then
 some false
 else
 (if (a0.Kind == 11) then some true else some (a0.Kind == 12)).bind fun v12 =>
 (if v12 then some ((i64 (a0.Span.To - a0.Span.From)) != 1) else some false).bind fun v13 =>
 (if v13 then some true else (if (a0.Kind == 4) then some (a0.Seat == a0.State) else some false).bind fun v14 =>
 some v14).bind fun v15 =>
 (if v15 then some true else (if (a0.Kind == 10) then some true else some (a0.Kind == 14)).bind fun v16 =>
 (if v16 then some (a0.Ref == a0.Person) else some false).bind fun v17 =>
 some v17).bind fun v18 =>
 if v18 then
 some false
 else
 (dq a0.Kind 83 a0.State 0 5).bind fun v19 =>
 (if v19 then (dq a0.Kind 84 a0.Seat 0 5).bind fun v20 =>
 some v20 else some false).bind fun v21 =>
 (if v21 then (dq a0.Kind 72 a0.Share 1 100).bind fun v22 =>
 some v22 else some false).bind fun v23 =>
 (if v23 then (dq a0.Kind 67 a0.Currency 1 999).bind fun v24 =>
 some v24 else some false).bind fun v25 =>
 (if v25 then (dq a0.Kind 65 a0.Amount 0 1000000000).bind fun v26 =>
 some v26 else some false).bind fun v27 =>
 (if v27 then (dq a0.Kind 82 a0.Ref 1 99).bind fun v28 =>
 some v28 else some false).bind fun v29 =>
 some v29
def kh (a0 : api_Fact) (a1 : api_Fact) : Option Int :=
 if (a0.Issuer != a1.Issuer) then
 some (i64 (a0.Issuer - a1.Issuer))
 else
 some (i64 (a0.Number - a1.Number))
def s7 (a1 : Int) (r2 : ((List Int) × Int) → Option (List Int)) (v1 : (List Int) × Int) : Option (List Int) :=
 if (decide (v1.2 ≥ 0)) then
 (X6 .i64 a1 (u64 (i64 (8 * v1.2)))).bind fun v3 =>
 (m8 1 v1.1 [IntKind.u8.wrap (v3)]).bind fun v4 =>
 r2 (v4, i64 (v1.2 - 1))
 else
 some v1.1
def aw (a0 : List Int) (a1 : Int) (a2 : Int) : Option (List Int) :=
 am FU (s7 a1) (a0, i64 (a2 - 1))
def ld (v9 : ByteArray) (r11 : (api_Fact × (List Int) × Int) → Option (List Int)) (v10 : api_Fact × (List Int) × Int) : Option (List Int) :=
 if (decide (v10.2.2 < (v9.size : Int))) then
 (Bd v9 v10.2.2).bind fun v12 =>
 if (v12 == 83) then
 (aw v10.2.1 v10.1.State 1).bind fun v13 =>
 r11 (v10.1, v13, i64 (v10.2.2 + 1))
 else
 if (v12 == 80) then
 (aw v10.2.1 v10.1.Span.From 3).bind fun v14 =>
 (aw v14 v10.1.Span.To 3).bind fun v15 =>
 r11 (v10.1, v15, i64 (v10.2.2 + 1))
 else
 if (v12 == 84) then
 (aw v10.2.1 v10.1.Seat 1).bind fun v16 =>
 r11 (v10.1, v16, i64 (v10.2.2 + 1))
 else
 if (v12 == 72) then
 (aw v10.2.1 v10.1.Share 1).bind fun v17 =>
 r11 (v10.1, v17, i64 (v10.2.2 + 1))
 else
 if (v12 == 67) then
 (aw v10.2.1 v10.1.Currency 2).bind fun v18 =>
 r11 (v10.1, v18, i64 (v10.2.2 + 1))
 else
 if (v12 == 65) then
 (aw v10.2.1 v10.1.Amount 4).bind fun v19 =>
 r11 (v10.1, v19, i64 (v10.2.2 + 1))
 else
 if (v12 == 82) then
 (aw v10.2.1 v10.1.Ref 1).bind fun v20 =>
 r11 (v10.1, v20, i64 (v10.2.2 + 1))
 else
 r11 (v10.1, v10.2.1, i64 (v10.2.2 + 1))
 else
 some v10.2.1
def ll (v2 : api_Fact × Int) : Option (List Int) :=
 (aw [] v2.1.Issuer 1).bind fun v3 =>
 (aw v3 v2.1.Number 2).bind fun v4 =>
 (aw v4 v2.1.Version 1).bind fun v5 =>
 (aw v5 v2.2 1).bind fun v6 =>
 (aw v6 v2.1.Person 1).bind fun v7 =>
 (aw v7 v2.1.Kind 1).bind fun v8 =>
 (cw v2.1.Kind).bind fun v9 =>
 am FU (ld v9) (v2.1, v8, 0)
def ly (a0 : api_Fact) : Option (List Int) :=
 (ce a0).bind fun v1 =>
 if (!v1) then
 some []
 else
 if a0.Withdrawn then
 joinC ll (a0, 1)
 else
 joinC ll (a0, 0)
def qr (a0 : api_Fact) (a1 : api_Fact) : Option Bool :=
 (ce a0).bind fun v1 =>
 (if (!v1) then some true else (ce a1).bind fun v2 =>
 some (!v2)).bind fun v3 =>
 if v3 then
 some false
 else
 (kh a0 a1).bind fun v4 =>
 if (v4 != 0) then
 some (decide (v4 < 0))
 else
 if (a0.Version != a1.Version) then
 some (decide (a0.Version < a1.Version))
 else
 (ly a0).bind fun v5 =>
 (ly a1).bind fun v6 =>
 some (Op.bytesLess (Co (v5.map fun x => x)).toList (Co (v6.map fun x => x)).toList)
def lu (r2 : ((List api_Fact) × Int) → Option (List api_Fact)) (v4 : (List api_Fact) × (List api_Fact) × (List api_Fact) × Int × api_Fact) (r7 : ((List api_Fact) × api_Fact × Int) → Option (List api_Fact)) (v6 : (List api_Fact) × api_Fact × Int) : Option (List api_Fact) :=
 (if (decide (v6.2.2 > 0)) then (av v6.1 (i64 (v6.2.2 - 1))).bind fun v8 =>
 (av v6.1 (i64 (v6.2.2 - 1))).bind fun v9 =>
 (kh v9 v6.2.1).bind fun v10 =>
 some (decide (v10 > 0)) else some false).bind fun v11 =>
 if v11 then
 r7 (v6.1, v6.2.1, i64 (v6.2.2 - 1))
 else
 (if (decide (v6.2.2 > 0)) then (av v6.1 (i64 (v6.2.2 - 1))).bind fun v12 =>
 (av v6.1 (i64 (v6.2.2 - 1))).bind fun v13 =>
 (kh v13 v6.2.1).bind fun v14 =>
 some (v14 == 0) else some false).bind fun v15 =>
 if v15 then
 (av v6.1 (i64 (v6.2.2 - 1))).bind fun v16 =>
 (av v6.1 (i64 (v6.2.2 - 1))).bind fun v17 =>
 (qr v17 v6.2.1).bind fun v18 =>
 if v18 then
 (av v6.1 (i64 (v6.2.2 - 1))).bind fun v19 =>
 (av v6.1 (i64 (v6.2.2 - 1))).bind fun v20 =>
 r2 (uc v6.1 (i64 (v6.2.2 - 1)) v6.2.1, i64 (v4.2.2.2.1 + 1))
 else
 r2 (v6.1, i64 (v4.2.2.2.1 + 1))
 else
 (fp v6.1 0 v6.2.2).bind fun v21 =>
 (m8 112 [] v21).bind fun v22 =>
 (m8 112 v22 [v6.2.1]).bind fun v23 =>
 (fp v6.1 v6.2.2 (v6.1.length : Int)).bind fun v24 =>
 (m8 112 v23 v24).bind fun v25 =>
 r2 (v25, i64 (v4.2.2.2.1 + 1))
def pr (r2 : ((List api_Fact) × Int) → Option (List api_Fact)) (v4 : (List api_Fact) × (List api_Fact) × (List api_Fact) × Int × api_Fact) : Option (List api_Fact) :=
 (ce v4.2.2.2.2).bind fun v5 =>
 if (!v5) then
 r2 (v4.2.2.1, i64 (v4.2.2.2.1 + 1))
 else
 am FU (lu r2 v4) (v4.2.2.1, v4.2.2.2.2, (v4.2.2.1.length : Int))
def lm (a0 : List api_Fact) (a1 : List api_Fact) (r2 : ((List api_Fact) × Int) → Option (List api_Fact)) (v1 : (List api_Fact) × Int) : Option (List api_Fact) :=
 if (decide (v1.2 < (i64 ((a0.length : Int) + (a1.length : Int))))) then
 if (decide (v1.2 < (a0.length : Int))) then
 (av a0 v1.2).bind fun v3 =>
 joinC (pr r2) (a0, a1, v1.1, v1.2, v3)
 else
 (av a1 (i64 (v1.2 - (a0.length : Int)))).bind fun v26 =>
 joinC (pr r2) (a0, a1, v1.1, v1.2, v26)
 else
 some v1.1
def m4 (a0 : List api_Fact) (a1 : List api_Fact) : Option (List api_Fact) :=
 am FU (lm a0 a1) ([], 0)
def ni (a0 : List api_Fact) (r2 : ((List api_Fact) × Int) → Option (List api_Fact)) (v1 : (List api_Fact) × Int) : Option (List api_Fact) :=
 if (decide (v1.2 < (a0.length : Int))) then
 (av a0 v1.2).bind fun v3 =>
 (ce v3).bind fun v4 =>
 (if v4 then (av a0 v1.2).bind fun v5 =>
 some (!v5.Withdrawn) else some false).bind fun v6 =>
 if v6 then
 (av a0 v1.2).bind fun v7 =>
 (m8 112 v1.1 [v7]).bind fun v8 =>
 r2 (v8, i64 (v1.2 + 1))
 else
 r2 (v1.1, i64 (v1.2 + 1))
 else
 some v1.1
def ge (a0 : List api_Fact) : Option (List api_Fact) :=
 am FU (ni a0) ([], 0)
def jl (a0 : List api_Fact) : Option (List api_Fact) :=
 (m4 a0 []).bind fun v1 =>
 (ge v1).bind fun v2 =>
 some v2
def tj (a0 : List api_Fact) (a1 : Int) (r2 : ((List api_Fact) × Int) → Option (List api_Fact)) (v1 : (List api_Fact) × Int) : Option (List api_Fact) :=
 if (decide (v1.2 < (a0.length : Int))) then
 (av a0 v1.2).bind fun v3 =>
 if (v3.Person == a1) then
 (av a0 v1.2).bind fun v4 =>
 (m8 112 v1.1 [v4]).bind fun v5 =>
 r2 (v5, i64 (v1.2 + 1))
 else
 r2 (v1.1, i64 (v1.2 + 1))
 else
 some v1.1
def q0 (a0 : List api_Fact) (a1 : Int) : Option (List api_Fact) :=
 am FU (tj a0 a1) ([], 0)
def l9 (a1 : Int) (r3 : ((List api_Fact) × Int × Bool × Int) → Option (Int × Bool)) (v2 : (List api_Fact) × Int × Bool × Int) : Option (Int × Bool) :=
 if (decide (v2.2.2.2 < (v2.1.length : Int))) then
 (av v2.1 v2.2.2.2).bind fun v4 =>
 (av v2.1 v2.2.2.2).bind fun v5 =>
 (if (v5.Kind == a1) then (if (!v2.2.2.1) then some true else (av v2.1 v2.2.2.2).bind fun v6 =>
 (av v2.1 v2.2.2.2).bind fun v7 =>
 some (decide (v7.Span.From < v2.2.1))).bind fun v8 =>
 some v8 else some false).bind fun v9 =>
 if v9 then
 (av v2.1 v2.2.2.2).bind fun v10 =>
 (av v2.1 v2.2.2.2).bind fun v11 =>
 r3 (v2.1, v11.Span.From, true, i64 (v2.2.2.2 + 1))
 else
 r3 (v2.1, v2.2.1, v2.2.2.1, i64 (v2.2.2.2 + 1))
 else
 some (v2.2.1, v2.2.2.1)
def pk (a0 : List api_Fact) (a1 : Int) : Option (Int × Bool) :=
 (ge a0).bind fun v1 =>
 am FU (l9 a1) (v1, 0, false, 0)
def ln (a0 : List api_Fact) : Option (Int × Bool) :=
 (pk a0 12).bind fun v1 =>
 some (v1.1, v1.2)
def dp (a0 : List api_Fact) (a1 : Int) (a2 : Int) : Option Bool :=
 (q0 a0 a1).bind fun v1 =>
 (ln v1).bind fun v2 =>
 (if (!v2.2) then some true else some (decide (v2.1 ≥ a2))).bind fun v3 =>
 some v3
def ov (r2 : (Int × Int) → Option (Int × Int)) (v1 : Int × Int) : Option (Int × Int) :=
 (Gy v1.2 12).bind fun v3 =>
 (Di v1.2 12).bind fun v4 =>
 (dr (i64 (1900 + v3)) (i64 (v4 + 1))).bind fun v5 =>
 if (decide (v1.1 < v5)) then
 some (v1.2, v1.1)
 else
 r2 (i64 (v1.1 - v5), i64 (v1.2 + 1))
def kb (a0 : Int) : Option (Int × Int) :=
 am FU ov (a0, 0)
def na (a0 : Int) : Option Int :=
 (bz a0).bind fun v1 =>
 if (!v1) then
 some (-1 : Int)
 else
 (kb a0).bind fun v2 =>
 some v2.1
def q6 (v3 : Int) : Option (Int × Bool) :=
 (da v3).bind fun v4 =>
 if (!v4) then
 some (0, false)
 else
 some (v3, true)
def fx (a0 : Claim) : Option (Int × Bool) :=
 (na a0.Day).bind fun v1 =>
 if (decide (v1 < 0)) then
 some (0, false)
 else
 (eq v1).bind fun v2 =>
 if (decide (v2.1 < a0.Day)) then
 joinC q6 (i64 (v1 + 1))
 else
 joinC q6 v1
def fy (a0 : Claim) : Option Bool :=
 (fx a0).bind fun v1 =>
 (if (!v1.2) then some true else some (decide (a0.Issuer < 0))).bind fun v2 =>
 (if v2 then some true else some (decide (a0.Issuer ≥ 6))).bind fun v3 =>
 (if v3 then some true else some (decide (a0.Number < 1))).bind fun v4 =>
 (if v4 then some true else some (decide (a0.Number > 999))).bind fun v5 =>
 (if v5 then some true else some (decide (a0.Person < 1))).bind fun v6 =>
 (if v6 then some true else some (decide (a0.Person > 99))).bind fun v7 =>
 (if v7 then some true else some (decide (a0.Benefit < 1))).bind fun v8 =>
 (if v8 then some true else some (decide (a0.Benefit > 5))).bind fun v9 =>
 if v9 then
 some false
 else
 (if (a0.Benefit == 3) then some true else some (a0.Benefit == 4)).bind fun v10 =>
 if v10 then
 (if (decide (a0.Ref ≥ 1)) then some (decide (a0.Ref ≤ 99)) else some false).bind fun v11 =>
 (if v11 then some (a0.Ref != a0.Person) else some false).bind fun v12 =>
 some v12
 else
 some (a0.Ref == 0)
def ji (a0 : Claim) (a1 : Int) : Option Bool :=
 (fx a0).bind fun v1 =>
 (fy a0).bind fun v2 =>
 (if v2 then some v1.2 else some false).bind fun v3 =>
 (if v3 then some (decide (v1.1 ≤ a1)) else some false).bind fun v4 =>
 some v4
def bl (r2 : ((Ar 6 Int) × (Ar 6 Int) × Int) → Option Bool) (v1 : (Ar 6 Int) × (Ar 6 Int) × Int) : Option Bool :=
 if (decide (v1.2.2 < 6)) then
 (av v1.1.l v1.2.2).bind fun v3 =>
 (av v1.1.l v1.2.2).bind fun v4 =>
 (av v1.2.1.l v1.2.2).bind fun v5 =>
 (av v1.2.1.l v1.2.2).bind fun v6 =>
 if (v4 != v6) then
 (av v1.1.l v1.2.2).bind fun v7 =>
 (av v1.1.l v1.2.2).bind fun v8 =>
 (av v1.2.1.l v1.2.2).bind fun v9 =>
 (av v1.2.1.l v1.2.2).bind fun v10 =>
 some (decide (v8 < v10))
 else
 r2 (v1.1, v1.2.1, i64 (v1.2.2 + 1))
 else
 some false
def gu (a0 : Claim) (a1 : Claim) : Option Bool :=
 am FU bl ((⟨[a0.Issuer, a0.Number, a0.Day, a0.Person, a0.Benefit, a0.Ref], rfl⟩ : Ar 6 Int), (⟨[a1.Issuer, a1.Number, a1.Day, a1.Person, a1.Benefit, a1.Ref], rfl⟩ : Ar 6 Int), 0)
def wl (a0 : List Claim) (a2 : Int) (a1 : Int) (a3 : Int) (a4 : Int) (r2 : (Int × Int) → Option Int) (v1 : Int × Int) : Option Int :=
 if (decide (v1.2 < (a0.length : Int))) then
 (av a0 v1.2).bind fun v3 =>
 (fy v3).bind fun v4 =>
 (if (!v4) then some true else some (v3.Benefit != a2)).bind fun v5 =>
 (if v5 then some true else (if (decide (a1 > 0)) then some (v3.Person != a1) else some false).bind fun v6 =>
 some v6).bind fun v7 =>
 (if v7 then some true else (if (decide (a3 > 0)) then some (v3.Ref != a3) else some false).bind fun v8 =>
 some v8).bind fun v9 =>
 if v9 then
 r2 (v1.1, i64 (v1.2 + 1))
 else
 (if (a2 == 4) then (ji v3 a4).bind fun v10 =>
 some (!v10) else some false).bind fun v11 =>
 if v11 then
 r2 (v1.1, i64 (v1.2 + 1))
 else
 (if (decide (v1.1 < 0)) then some true else (av a0 v1.1).bind fun v12 =>
 (gu v3 v12).bind fun v13 =>
 some v13).bind fun v14 =>
 if v14 then
 r2 (v1.2, i64 (v1.2 + 1))
 else
 r2 (v1.1, i64 (v1.2 + 1))
 else
 some v1.1
def lh (a0 : List Claim) (a1 : Int) (a2 : Int) (a3 : Int) (a4 : Int) : Option Int :=
 am FU (wl a0 a2 a1 a3 a4) ((-1 : Int), 0)
def ky (a0 : List Claim) (v3 : (List Claim) × Int) (a2 : Int) (a1 : Int) (r4 : ((List Claim) × Int) → Option (List Claim)) (r6 : ((List Claim) × Int) → Option (List Claim)) (v5 : (List Claim) × Int) : Option (List Claim) :=
 if (decide (v5.2 ≤ 99)) then
 (lh a0 0 v3.2 v5.2 a2).bind fun v7 =>
 (if (decide (v7 ≥ 0)) then (av a0 v7).bind fun v8 =>
 some (v8.Person == a1) else some false).bind fun v9 =>
 if v9 then
 (av a0 v7).bind fun v10 =>
 (m8 48 v5.1 [v10]).bind fun v11 =>
 r6 (v11, i64 (v5.2 + 1))
 else
 r6 (v5.1, i64 (v5.2 + 1))
 else
 r4 (v5.1, i64 (v3.2 + 1))
def gp (a0 : List Claim) (a2 : Int) (a1 : Int) (r4 : ((List Claim) × Int) → Option (List Claim)) (v3 : (List Claim) × Int) : Option (List Claim) :=
 if (decide (v3.2 ≤ 5)) then
 if (v3.2 == 4) then
 am FU (ky a0 v3 a2 a1 r4) (v3.1, 1)
 else
 (lh a0 a1 v3.2 0 a2).bind fun v12 =>
 (if (decide (v12 ≥ 0)) then (av a0 v12).bind fun v13 =>
 (ji v13 a2).bind fun v14 =>
 some v14 else some false).bind fun v15 =>
 if v15 then
 (av a0 v12).bind fun v16 =>
 (m8 48 v3.1 [v16]).bind fun v17 =>
 r4 (v17, i64 (v3.2 + 1))
 else
 r4 (v3.1, i64 (v3.2 + 1))
 else
 some v3.1
def kj (a0 : List Claim) (a1 : Int) (a2 : Int) : Option (List Claim) :=
 (da a2).bind fun v1 =>
 (if (!v1) then some true else some (decide (a1 < 1))).bind fun v2 =>
 if v2 then
 some []
 else
 am FU (gp a0 a2 a1) ([], 1)
def j9 (a0 : List api_Fact) (a1 : Int) (a2 : Int) (r2 : Int → Option Bool) (v1 : Int) : Option Bool :=
 if (decide (v1 < (a0.length : Int))) then
 (av a0 v1).bind fun v3 =>
 (if (v3.Person == a1) then (av a0 v1).bind fun v4 =>
 some (v4.Kind == 13) else some false).bind fun v5 =>
 (if v5 then (av a0 v1).bind fun v6 =>
 some (decide (v6.Span.From ≤ a2)) else some false).bind fun v7 =>
 (if v7 then (av a0 v1).bind fun v8 =>
 some (decide (a2 < v8.Span.To)) else some false).bind fun v9 =>
 if v9 then
 some true
 else
 r2 (i64 (v1 + 1))
 else
 some false
def lx (a0 : List api_Fact) (a1 : Int) (a2 : Int) : Option Bool :=
 am FU (j9 a0 a1 a2) 0
def lr (a0 : List api_Fact) : Option (List api_Fact) :=
 (m4 a0 []).bind fun v1 =>
 (ge v1).bind fun v2 =>
 some v2
def se (a0 : Span) : Option (Span × Bool) :=
 some ((⟨max a0.From 0, min a0.To 73049⟩ : Span), decide ((max a0.From 0) < (min a0.To 73049)))
def tx (a0 : List Int) (a1 : Int) (r2 : Int → Option (List Int)) (v1 : Int) : Option (List Int) :=
 (if (decide (v1 > 0)) then (av a0 (i64 (v1 - 1))).bind fun v3 =>
 some (decide (v3 ≥ a1)) else some false).bind fun v4 =>
 if v4 then
 r2 (i64 (v1 - 1))
 else
 (if (decide (v1 < (a0.length : Int))) then (av a0 v1).bind fun v5 =>
 some (v5 == a1) else some false).bind fun v6 =>
 if v6 then
 some a0
 else
 (fp a0 0 v1).bind fun v7 =>
 (m8 8 [] v7).bind fun v8 =>
 (m8 8 v8 [a1]).bind fun v9 =>
 (fp a0 v1 (a0.length : Int)).bind fun v10 =>
 (m8 8 v9 v10).bind fun v11 =>
 some v11
def pw (a0 : List Int) (a1 : Int) : Option (List Int) :=
 am FU (tx a0 a1) (a0.length : Int)
def ma (a0 : List (List Span)) (v1 : (List Int) × Int) (r2 : ((List Int) × Int) → Option (List Int)) (r4 : ((List Int) × Int) → Option (List Int)) (v3 : (List Int) × Int) : Option (List Int) :=
 (av a0 v1.2).bind fun v5 =>
 if (decide (v3.2 < (v5.length : Int))) then
 (av a0 v1.2).bind fun v6 =>
 (av v6 v3.2).bind fun v7 =>
 (se v7).bind fun v8 =>
 if v8.2 then
 (pw v3.1 v8.1.From).bind fun v9 =>
 (pw v9 v8.1.To).bind fun v10 =>
 r4 (v10, i64 (v3.2 + 1))
 else
 r4 (v3.1, i64 (v3.2 + 1))
 else
 r2 (v3.1, i64 (v1.2 + 1))
def mt (a0 : List (List Span)) (r2 : ((List Int) × Int) → Option (List Int)) (v1 : (List Int) × Int) : Option (List Int) :=
 if (decide (v1.2 < (a0.length : Int))) then
 am FU (ma a0 v1 r2) (v1.1, 0)
 else
 some v1.1
def qu (a0 : List (List Span)) : Option (List Int) :=
 am FU (mt a0) ([], 0)
def jp (a0 : List Span) (a1 : Int) (r2 : Int → Option Bool) (v1 : Int) : Option Bool :=
 if (decide (v1 < (a0.length : Int))) then
 (av a0 v1).bind fun v3 =>
 (if (decide (a1 ≥ v3.From)) then (av a0 v1).bind fun v4 =>
 some (decide (a1 < v4.To)) else some false).bind fun v5 =>
 (if v5 then (bz a1).bind fun v6 =>
 some v6 else some false).bind fun v7 =>
 if v7 then
 some true
 else
 r2 (i64 (v1 + 1))
 else
 some false
def jj (a0 : List Span) (a1 : Int) : Option Bool :=
 am FU (jp a0 a1) 0
def t7 (a0 : List Span) (a1 : Span) : Option (List Span) :=
 (if (decide ((a0.length : Int) > 0)) then (av a0 (i64 ((a0.length : Int) - 1))).bind fun v1 =>
 some (v1.To == a1.From) else some false).bind fun v2 =>
 if v2 then
 (m8 16 [] a0).bind fun v3 =>
 (av v3 (i64 ((a0.length : Int) - 1))).bind fun v4 =>
 (av v3 (i64 ((a0.length : Int) - 1))).bind fun v5 =>
 some (uc v3 (i64 ((a0.length : Int) - 1)) (⟨v5.From, a1.To⟩ : Span))
 else
 (m8 16 [] a0).bind fun v6 =>
 (m8 16 v6 [a1]).bind fun v7 =>
 some v7
def ou (v1 : List Int) (a0 : List Span) (a1 : List Span) (a2 : Int) (r3 : ((List Span) × Int) → Option (List Span)) (v2 : (List Span) × Int) : Option (List Span) :=
 if (decide ((i64 (v2.2 + 1)) < (v1.length : Int))) then
 (av v1 v2.2).bind fun v4 =>
 (jj a0 v4).bind fun v5 =>
 (av v1 v2.2).bind fun v6 =>
 (jj a1 v6).bind fun v7 =>
 (if (a2 == 1) then some v5 else some false).bind fun v8 =>
 (if v8 then some v7 else some false).bind fun v9 =>
 (if v9 then some true else (if (a2 == 2) then (if v5 then some true else some v7).bind fun v10 =>
 some v10 else some false).bind fun v11 =>
 some v11).bind fun v12 =>
 (if v12 then some true else (if (a2 == 3) then some v5 else some false).bind fun v13 =>
 (if v13 then some (!v7) else some false).bind fun v14 =>
 some v14).bind fun v15 =>
 if v15 then
 (av v1 v2.2).bind fun v16 =>
 (av v1 (i64 (v2.2 + 1))).bind fun v17 =>
 (t7 v2.1 (⟨v16, v17⟩ : Span)).bind fun v18 =>
 r3 (v18, i64 (v2.2 + 1))
 else
 r3 (v2.1, i64 (v2.2 + 1))
 else
 some v2.1
def jy (a0 : List Span) (a1 : List Span) (a2 : Int) : Option (List Span) :=
 (qu [a0, a1]).bind fun v1 =>
 am FU (ou v1 a0 a1 a2) ([], 0)
def oi (a0 : List Span) (a1 : Span) : Option (List Span) :=
 (jy a0 [a1] 1).bind fun v1 =>
 some v1
def m5 (a0 : List Span) : Option (List Span) :=
 (jy a0 [] 2).bind fun v1 =>
 some v1
def nn (r3 : (Int × (List Span) × Int) → Option Int) (v2 : Int × (List Span) × Int) : Option Int :=
 if (decide (v2.2.2 < (v2.2.1.length : Int))) then
 (av v2.2.1 v2.2.2).bind fun v4 =>
 (av v2.2.1 v2.2.2).bind fun v5 =>
 (av v2.2.1 v2.2.2).bind fun v6 =>
 (av v2.2.1 v2.2.2).bind fun v7 =>
 r3 (i64 (v2.1 + (i64 (v5.To - v7.From))), v2.2.1, i64 (v2.2.2 + 1))
 else
 some v2.1
def l6 (a0 : List Span) : Option Int :=
 (m5 a0).bind fun v1 =>
 am FU nn (0, v1, 0)
def ju (a0 : List api_Fact) (a1 : Int) (a2 : Int) (a3 : Int) (r2 : ((List Span) × Int) → Option Int) (v1 : (List Span) × Int) : Option Int :=
 if (decide (v1.2 < (a0.length : Int))) then
 (av a0 v1.2).bind fun v3 =>
 (if (v3.Person == a1) then (av a0 v1.2).bind fun v4 =>
 some (v4.Kind == 14) else some false).bind fun v5 =>
 (if v5 then (av a0 v1.2).bind fun v6 =>
 some (v6.Ref == a2) else some false).bind fun v7 =>
 if v7 then
 (av a0 v1.2).bind fun v8 =>
 (m8 16 v1.1 [v8.Span]).bind fun v9 =>
 r2 (v9, i64 (v1.2 + 1))
 else
 r2 (v1.1, i64 (v1.2 + 1))
 else
 (oi v1.1 (⟨0, i64 (a3 + 1)⟩ : Span)).bind fun v10 =>
 (l6 v10).bind fun v11 =>
 some v11
def n4 (a0 : List api_Fact) (a1 : Int) (a2 : Int) (a3 : Int) : Option Int :=
 am FU (ju a0 a1 a2 a3) ([], 0)
def kt (a0 : List api_Fact) (a1 : Int) (a2 : Int) (a3 : Int) (r2 : Int → Option Bool) (v1 : Int) : Option Bool :=
 if (decide (v1 < (a0.length : Int))) then
 (av a0 v1).bind fun v3 =>
 (if (v3.Person == a1) then (av a0 v1).bind fun v4 =>
 some (v4.Kind == 10) else some false).bind fun v5 =>
 (if v5 then (av a0 v1).bind fun v6 =>
 some (v6.Ref == a2) else some false).bind fun v7 =>
 (if v7 then (av a0 v1).bind fun v8 =>
 some (decide (v8.Span.From ≤ a3)) else some false).bind fun v9 =>
 (if v9 then (av a0 v1).bind fun v10 =>
 some (decide (a3 < v10.Span.To)) else some false).bind fun v11 =>
 if v11 then
 some true
 else
 r2 (i64 (v1 + 1))
 else
 some false
def i7 (a0 : List api_Fact) (a1 : Int) (a2 : Int) (a3 : Int) : Option Bool :=
 am FU (kt a0 a1 a2 a3) 0
def lc (a1 : Int) (v17 : (List api_Fact) × (List Heir) × (Ar 100 Bool) × Int) (a2 : Int) (r18 : ((List api_Fact) × (List Heir) × (Ar 100 Bool) × Int) → Option (List Heir)) (r27 : ((List api_Fact) × (List Heir) × (Ar 100 Bool) × Int × Int) → Option (List Heir)) (v26 : (List api_Fact) × (List Heir) × (Ar 100 Bool) × Int × Int) : Option (List Heir) :=
 if (decide (v26.2.2.2.2 ≤ 99)) then
 (if (v26.2.2.2.2 != a1) then some (v26.2.2.2.2 != v17.2.2.2) else some false).bind fun v28 =>
 (if v28 then (dp v26.1 v26.2.2.2.2 a2).bind fun v29 =>
 some v29 else some false).bind fun v30 =>
 (if v30 then (i7 v26.1 v26.2.2.2.2 v17.2.2.2 a2).bind fun v31 =>
 some v31 else some false).bind fun v32 =>
 if v32 then
 r27 (v26.1, v26.2.1, v26.2.2.1, 2, i64 (v26.2.2.2.2 + 1))
 else
 r27 (v26.1, v26.2.1, v26.2.2.1, v26.2.2.2.1, i64 (v26.2.2.2.2 + 1))
 else
 (m8 24 v26.2.1 [(⟨v17.2.2.2, v26.2.2.2.1, 0⟩ : Heir)]).bind fun v33 =>
 r18 (v26.1, v33, v26.2.2.1, i64 (v17.2.2.2 + 1))
def lf (a1 : Int) (a2 : Int) (r18 : ((List api_Fact) × (List Heir) × (Ar 100 Bool) × Int) → Option (List Heir)) (v17 : (List api_Fact) × (List Heir) × (Ar 100 Bool) × Int) : Option (List Heir) :=
 if (decide (v17.2.2.2 ≤ 99)) then
 (if (v17.2.2.2 == a1) then some true else (av v17.2.2.1.l v17.2.2.2).bind fun v19 =>
 (av v17.2.2.1.l v17.2.2.2).bind fun v20 =>
 some v20).bind fun v21 =>
 (if v21 then some true else (dp v17.1 v17.2.2.2 a2).bind fun v22 =>
 some (!v22)).bind fun v23 =>
 (if v23 then some true else (i7 v17.1 a1 v17.2.2.2 a2).bind fun v24 =>
 some (!v24)).bind fun v25 =>
 if v25 then
 r18 (v17.1, v17.2.1, v17.2.2.1, i64 (v17.2.2.2 + 1))
 else
 am FU (lc a1 v17 a2 r18) (v17.1, v17.2.1, v17.2.2.1, 3, 1)
 else
 (fp v17.2.1 0 (min (v17.2.1.length : Int) 12)).bind fun v34 =>
 some v34
def iy (a1 : Int) (v6 : Int × Bool) (a2 : Int) (r9 : ((List api_Fact) × (List Heir) × (Ar 100 Bool) × Int) → Option (List Heir)) (v8 : (List api_Fact) × (List Heir) × (Ar 100 Bool) × Int) : Option (List Heir) :=
 if (decide (v8.2.2.2 ≤ 99)) then
 (n4 v8.1 a1 v8.2.2.2 v6.1).bind fun v10 =>
 (if (v8.2.2.2 != a1) then some (decide (v10 > 0)) else some false).bind fun v11 =>
 (if v11 then (dp v8.1 v8.2.2.2 a2).bind fun v12 =>
 some v12 else some false).bind fun v13 =>
 if v13 then
 (av v8.2.2.1.l v8.2.2.2).bind fun v14 =>
 (av v8.2.2.1.l v8.2.2.2).bind fun v15 =>
 (m8 24 v8.2.1 [(⟨v8.2.2.2, 1, v10⟩ : Heir)]).bind fun v16 =>
 r9 (v8.1, v16, Ar.set v8.2.2.1 v8.2.2.2 true, i64 (v8.2.2.2 + 1))
 else
 r9 (v8.1, v8.2.1, v8.2.2.1, i64 (v8.2.2.2 + 1))
 else
 am FU (lf a1 a2) (v8.1, v8.2.1, v8.2.2.1, 1)
def pc (a0 : List api_Fact) (a1 : Int) (a2 : Int) : Option (List Heir) :=
 (if (decide (a1 < 1)) then some true else some (decide (a1 > 99))).bind fun v1 =>
 (if v1 then some true else (bz a2).bind fun v2 =>
 some (!v2)).bind fun v3 =>
 if v3 then
 some []
 else
 (lr a0).bind fun v4 =>
 (q0 v4 a1).bind fun v5 =>
 (ln v5).bind fun v6 =>
 (if (!v6.2) then some true else some (decide (v6.1 ≥ a2))).bind fun v7 =>
 if v7 then
 some []
 else
 am FU (iy a1 v6 a2) (v4, [], (arZ 100 false : Ar 100 Bool), 1)
def mf (a0 : List Heir) (a1 : Int) (r2 : Int → Option Int) (v1 : Int) : Option Int :=
 if (decide (v1 < (a0.length : Int))) then
 (av a0 v1).bind fun v3 =>
 if (v3.Person == a1) then
 some v1
 else
 r2 (i64 (v1 + 1))
 else
 some (-1 : Int)
def uw (a0 : List Heir) (a1 : Int) : Option Int :=
 am FU (mf a0 a1) 0
def jv (a1 : Int) (a2 : Int) (r8 : ((List api_Fact) × (List Int) × Int) → Option (List Int)) (v7 : (List api_Fact) × (List Int) × Int) : Option (List Int) :=
 if (decide (v7.2.2 ≤ 99)) then
 (if (v7.2.2 != a1) then (dp v7.1 v7.2.2 a2).bind fun v9 =>
 some v9 else some false).bind fun v10 =>
 (if v10 then (i7 v7.1 v7.2.2 a1 a2).bind fun v11 =>
 some v11 else some false).bind fun v12 =>
 if v12 then
 (m8 8 v7.2.1 [v7.2.2]).bind fun v13 =>
 r8 (v7.1, v13, i64 (v7.2.2 + 1))
 else
 r8 (v7.1, v7.2.1, i64 (v7.2.2 + 1))
 else
 some v7.2.1
def mq (a0 : List api_Fact) (a1 : Int) (a2 : Int) : Option (List Int) :=
 (lr a0).bind fun v1 =>
 (if (decide (a1 < 1)) then some true else some (decide (a1 > 99))).bind fun v2 =>
 (if v2 then some true else (bz a2).bind fun v3 =>
 some (!v3)).bind fun v4 =>
 (if v4 then some true else (dp v1 a1 a2).bind fun v5 =>
 some (!v5)).bind fun v6 =>
 if v6 then
 some []
 else
 am FU (jv a1 a2) (v1, [], 1)
def nl (a0 : List Int) (a1 : Int) (r2 : Int → Option Bool) (v1 : Int) : Option Bool :=
 if (decide (v1 < (a0.length : Int))) then
 (av a0 v1).bind fun v3 =>
 if (v3 == a1) then
 some true
 else
 r2 (i64 (v1 + 1))
 else
 some false
def s4 (a0 : List Int) (a1 : Int) : Option Bool :=
 am FU (nl a0 a1) 0
def db (a3 : Int) (a0 : List api_Fact) (a2 : Int) (v1 : Int × Bool) (r6 : ((List Claim) × Int) → Option Bool) (v5 : (List Claim) × Int) : Option Bool :=
 if (decide (v5.2 < (v5.1.length : Int))) then
 (av v5.1 v5.2).bind fun v7 =>
 (av v5.1 v5.2).bind fun v8 =>
 if (v8.Benefit != a3) then
 r6 (v5.1, i64 (v5.2 + 1))
 else
 if (a3 == 2) then
 (jl a0).bind fun v9 =>
 (lx v9 a2 v1.1).bind fun v10 =>
 some v10
 else
 if (a3 == 3) then
 (av v5.1 v5.2).bind fun v11 =>
 (av v5.1 v5.2).bind fun v12 =>
 (pc a0 v12.Ref v1.1).bind fun v13 =>
 (uw v13 a2).bind fun v14 =>
 some (decide (v14 ≥ 0))
 else
 if (a3 == 4) then
 (av v5.1 v5.2).bind fun v15 =>
 (av v5.1 v5.2).bind fun v16 =>
 (mq a0 v16.Ref v1.1).bind fun v17 =>
 (s4 v17 a2).bind fun v18 =>
 if v18 then
 some true
 else
 r6 (v5.1, i64 (v5.2 + 1))
 else
 some true
 else
 some false
def iw (a0 : List api_Fact) (a1 : List Claim) (a2 : Int) (a3 : Int) (a4 : Int) : Option Bool :=
 (eq a4).bind fun v1 =>
 if (!v1.2) then
 some false
 else
 (jl a0).bind fun v2 =>
 (dp v2 a2 v1.1).bind fun v3 =>
 if (!v3) then
 some false
 else
 (kj a1 a2 a4).bind fun v4 =>
 am FU (db a3 a0 a2 v1) (v4, 0)
def ey (a0 : pensionlaw26_Seeds) (a1 : Int) (a2 : Int) (a3 : Int) : Option Bool :=
 (qo a0).bind fun v1 =>
 (nk a1).bind fun v2 =>
 (aa a2 5).bind fun v3 =>
 (pd a3).bind fun v4 =>
 (th).bind fun v5 =>
 (if v5 then (di v1.2.1 v1.2.2 v2 (i64 (1 + v3)) v4).bind fun v6 =>
 (iw v1.2.1 v1.2.2 v2 (i64 (1 + v3)) v4).bind fun v7 =>
 some (v6 == v7) else some false).bind fun v8 =>
 (if v8 then (di v1.2.1 v1.2.2 v2 (i64 (1 + v3)) (-1 : Int)).bind fun v9 =>
 some (!v9) else some false).bind fun v10 =>
 some v10
end Go.PL
namespace Go.PL
open Go Go.SX
inductive TyC where
  | c_u8
  | c_i64
  | c_str
  | c_sSpan
  | c_bool
  | c_sapi_Fact
  | c_spensionhand_Fact
  | c_A3_str
  | c_sToken
  | c_spensionref5_reader
  | c_u64
  | c_spensionref1_wide
  | c_sFraction
  | c_sExpr
  | c_sRounding
  | c_sCredit
  | c_sIndex
  | c_sLet
  | c_sGrant
  | c_sReduce
  | c_sVersion
  | c_sStatute
  | c_sState
  | c_sRules
  | c_sRate
  | c_sLaws
  | c_spensionhand_Claim
  | c_sClaim
  | c_spensionlaw26_Seeds
  | c_A12_i64
  | c_u32
  | c_A6_bool
  | c_A100_bool
  | c_sdecision_file
  | c_lsSpan
  | c_sHeir
  | c_psdecision_file
  | c_A6_i64
deriving DecidableEq
@[reducible] def TyC.T : TyC → Type
  | .c_u8 => Int
  | .c_i64 => Int
  | .c_str => ByteArray
  | .c_sSpan => Span
  | .c_bool => Bool
  | .c_sapi_Fact => api_Fact
  | .c_spensionhand_Fact => pensionhand_Fact
  | .c_A3_str => Ar 3 ByteArray
  | .c_sToken => Token
  | .c_spensionref5_reader => pensionref5_reader
  | .c_u64 => Int
  | .c_spensionref1_wide => pensionref1_wide
  | .c_sFraction => Fraction
  | .c_sExpr => Expr
  | .c_sRounding => Rounding
  | .c_sCredit => Credit
  | .c_sIndex => Index
  | .c_sLet => Let
  | .c_sGrant => Grant
  | .c_sReduce => Reduce
  | .c_sVersion => Version
  | .c_sStatute => Statute
  | .c_sState => State
  | .c_sRules => Rules
  | .c_sRate => Rate
  | .c_sLaws => Laws
  | .c_spensionhand_Claim => pensionhand_Claim
  | .c_sClaim => Claim
  | .c_spensionlaw26_Seeds => pensionlaw26_Seeds
  | .c_A12_i64 => Ar 12 Int
  | .c_u32 => Int
  | .c_A6_bool => Ar 6 Bool
  | .c_A100_bool => Ar 100 Bool
  | .c_sdecision_file => decision_file
  | .c_lsSpan => List Span
  | .c_sHeir => Heir
  | .c_psdecision_file => decision_file
  | .c_A6_i64 => Ar 6 Int
abbrev VA := AV TyC TyC.T
def dT : DecidableEq TyC := inferInstance
def adz : Int → List VA := fun x => [.int .u8 x]
def ag2 : List VA → Option Int := mkS (gI .u8) fun x0 => mkE x0
def aab : Int → List VA := fun x => [.int .i64 x]
def a9k : List VA → Option Int := mkS (gI .i64) fun x0 => mkE x0
def a8v : ByteArray → List VA := fun x => [.str x]
def a9o : List VA → Option ByteArray := mkS (gS) fun x0 => mkE x0
def Wa : Span → List VA := fun x => [.int .i64 x.From, .int .i64 x.To]
def Wv : List VA → Option Span := mkS (gI .i64) fun x0 => mkS (gI .i64) fun x1 => mkE (⟨x0, x1⟩ : Span)
def a4b : Bool → List VA := fun x => [.bool x]
def a1p : List VA → Option Bool := mkS (gB) fun x0 => mkE x0
def Gg : api_Fact → List VA := fun x => [.int .i64 x.Issuer, .int .i64 x.Number, .int .i64 x.Version, .bool x.Withdrawn, .int .i64 x.Person, .int .i64 x.Kind, .int .i64 x.State, .val .c_sSpan x.Span, .int .i64 x.Seat, .int .i64 x.Share, .int .i64 x.Currency, .int .i64 x.Amount, .int .i64 x.Ref]
def Gi : List VA → Option api_Fact := mkS (gI .i64) fun x0 => mkS (gI .i64) fun x1 => mkS (gI .i64) fun x2 => mkS (gB) fun x3 => mkS (gI .i64) fun x4 => mkS (gI .i64) fun x5 => mkS (gI .i64) fun x6 => mkS (gV dT .c_sSpan) fun x7 => mkS (gI .i64) fun x8 => mkS (gI .i64) fun x9 => mkS (gI .i64) fun x10 => mkS (gI .i64) fun x11 => mkS (gI .i64) fun x12 => mkE (⟨x0, x1, x2, x3, x4, x5, x6, x7, x8, x9, x10, x11, x12⟩ : api_Fact)
def xj : pensionhand_Fact → List VA := fun x => [.int .i64 x.Issuer, .int .i64 x.Number, .int .i64 x.Version, .bool x.Withdrawn, .int .i64 x.Person, .int .i64 x.Kind, .int .i64 x.State, .int .i64 x.Seat, .int .i64 x.From, .int .i64 x.Length, .int .i64 x.Share, .int .i64 x.Amount, .int .i64 x.Ref]
def xh : List VA → Option pensionhand_Fact := mkS (gI .i64) fun x0 => mkS (gI .i64) fun x1 => mkS (gI .i64) fun x2 => mkS (gB) fun x3 => mkS (gI .i64) fun x4 => mkS (gI .i64) fun x5 => mkS (gI .i64) fun x6 => mkS (gI .i64) fun x7 => mkS (gI .i64) fun x8 => mkS (gI .i64) fun x9 => mkS (gI .i64) fun x10 => mkS (gI .i64) fun x11 => mkS (gI .i64) fun x12 => mkE (⟨x0, x1, x2, x3, x4, x5, x6, x7, x8, x9, x10, x11, x12⟩ : pensionhand_Fact)
def T9 : Ar 3 ByteArray → List VA := fun x => x.l.map fun y => .str y
def R0 : List VA → Option (Ar 3 ByteArray) := mkA (gS) 3
def Pp : Token → List VA := fun x => [.int .i64 x.Kind, .str x.Text, .int .i64 x.At]
def Rq : List VA → Option Token := mkS (gI .i64) fun x0 => mkS (gS) fun x1 => mkS (gI .i64) fun x2 => mkE (⟨x0, x1, x2⟩ : Token)
def uh : pensionref5_reader → List VA := fun x => [.list .c_sToken x.l, .int .i64 x.at_, .int .i64 x.end_, .bool x.bad]
def ud : List VA → Option pensionref5_reader := mkS (SX.gL dT .c_sToken) fun x0 => mkS (gI .i64) fun x1 => mkS (gI .i64) fun x2 => mkS (gB) fun x3 => mkE (⟨x0, x1, x2, x3⟩ : pensionref5_reader)
def a8z : Int → List VA := fun x => [.int .u64 x]
def a9j : List VA → Option Int := mkS (gI .u64) fun x0 => mkE x0
def xc : pensionref1_wide → List VA := fun x => [.int .u64 x.hi, .int .u64 x.lo]
def xn : List VA → Option pensionref1_wide := mkS (gI .u64) fun x0 => mkS (gI .u64) fun x1 => mkE (⟨x0, x1⟩ : pensionref1_wide)
def G8 : Fraction → List VA := fun x => [.int .i64 x.Num, .int .i64 x.Den]
def Gj : List VA → Option Fraction := mkS (gI .i64) fun x0 => mkS (gI .i64) fun x1 => mkE (⟨x0, x1⟩ : Fraction)
def X9 : Expr → List VA := fun x => [.int .i64 x.Op, .val .c_sFraction x.Value, .int .i64 x.Dim, .str x.Name, .list .c_sExpr x.Args]
def Wm : List VA → Option Expr := mkS (gI .i64) fun x0 => mkS (gV dT .c_sFraction) fun x1 => mkS (gI .i64) fun x2 => mkS (gS) fun x3 => mkS (SX.gL dT .c_sExpr) fun x4 => mkE (⟨x0, x1, x2, x3, x4⟩ : Expr)
def Fz : Rounding → List VA := fun x => [.int .i64 x.Mode, .int .i64 x.Unit]
def Gh : List VA → Option Rounding := mkS (gI .i64) fun x0 => mkS (gI .i64) fun x1 => mkE (⟨x0, x1⟩ : Rounding)
def Lz : Credit → List VA := fun x => [.int .i64 x.Kind, .int .i64 x.Limit]
def Mh : List VA → Option Credit := mkS (gI .i64) fun x0 => mkS (gI .i64) fun x1 => mkE (⟨x0, x1⟩ : Credit)
def R7 : Index → List VA := fun x => [.int .i64 x.Year, .val .c_sFraction x.Factor]
def Q1 : List VA → Option Index := mkS (gI .i64) fun x0 => mkS (gV dT .c_sFraction) fun x1 => mkE (⟨x0, x1⟩ : Index)
def a1v : Let → List VA := fun x => [.str x.Name, .val .c_sExpr x.Body]
def a2v : List VA → Option Let := mkS (gS) fun x0 => mkS (gV dT .c_sExpr) fun x1 => mkE (⟨x0, x1⟩ : Let)
def Qf : Grant → List VA := fun x => [.int .i64 x.Benefit, .val .c_sExpr x.If, .val .c_sExpr x.Pay]
def Rs : List VA → Option Grant := mkS (gI .i64) fun x0 => mkS (gV dT .c_sExpr) fun x1 => mkS (gV dT .c_sExpr) fun x2 => mkE (⟨x0, x1, x2⟩ : Grant)
def M6 : Reduce → List VA := fun x => [.int .i64 x.Benefit, .val .c_sExpr x.By]
def Mg : List VA → Option Reduce := mkS (gI .i64) fun x0 => mkS (gV dT .c_sExpr) fun x1 => mkE (⟨x0, x1⟩ : Reduce)
def Hh : Version → List VA := fun x => [.int .i64 x.From, .val .c_sRounding x.Rounding, .list .c_sCredit x.Credits, .list .c_sIndex x.Series, .list .c_sLet x.Lets, .list .c_sGrant x.Grants, .list .c_sReduce x.Reduces]
def Hv : List VA → Option Version := mkS (gI .i64) fun x0 => mkS (gV dT .c_sRounding) fun x1 => mkS (SX.gL dT .c_sCredit) fun x2 => mkS (SX.gL dT .c_sIndex) fun x3 => mkS (SX.gL dT .c_sLet) fun x4 => mkS (SX.gL dT .c_sGrant) fun x5 => mkS (SX.gL dT .c_sReduce) fun x6 => mkE (⟨x0, x1, x2, x3, x4, x5, x6⟩ : Version)
def L1 : Statute → List VA := fun x => [.str x.Name, .int .i64 x.Currency, .list .c_sVersion x.Versions]
def J6 : List VA → Option Statute := mkS (gS) fun x0 => mkS (gI .i64) fun x1 => mkS (SX.gL dT .c_sVersion) fun x2 => mkE (⟨x0, x1, x2⟩ : Statute)
def Qi : State → List VA := fun x => [.int .i64 x.State, .val .c_sStatute x.Statute]
def R4 : List VA → Option State := mkS (gI .i64) fun x0 => mkS (gV dT .c_sStatute) fun x1 => mkE (⟨x0, x1⟩ : State)
def Qg : Rules → List VA := fun x => [.int .i64 x.From, .int .i64 x.MinDays, .int .i64 x.PostingLimit, .int .i64 x.Substantial, .list .c_i64 x.Members]
def Qb : List VA → Option Rules := mkS (gI .i64) fun x0 => mkS (gI .i64) fun x1 => mkS (gI .i64) fun x2 => mkS (gI .i64) fun x3 => mkS (SX.gL dT .c_i64) fun x4 => mkE (⟨x0, x1, x2, x3, x4⟩ : Rules)
def Vg : Rate → List VA := fun x => [.int .i64 x.Currency, .int .i64 x.Month, .val .c_sFraction x.Value]
def Vw : List VA → Option Rate := mkS (gI .i64) fun x0 => mkS (gI .i64) fun x1 => mkS (gV dT .c_sFraction) fun x2 => mkE (⟨x0, x1, x2⟩ : Rate)
def Vy : Laws → List VA := fun x => [.list .c_sState x.States, .list .c_sRules x.Treaty, .list .c_sRate x.Rates]
def Wp : List VA → Option Laws := mkS (SX.gL dT .c_sState) fun x0 => mkS (SX.gL dT .c_sRules) fun x1 => mkS (SX.gL dT .c_sRate) fun x2 => mkE (⟨x0, x1, x2⟩ : Laws)
def vy : pensionhand_Claim → List VA := fun x => [.int .i64 x.Issuer, .int .i64 x.Number, .int .i64 x.Person, .int .i64 x.Benefit, .int .i64 x.Ref, .int .i64 x.Day]
def wd : List VA → Option pensionhand_Claim := mkS (gI .i64) fun x0 => mkS (gI .i64) fun x1 => mkS (gI .i64) fun x2 => mkS (gI .i64) fun x3 => mkS (gI .i64) fun x4 => mkS (gI .i64) fun x5 => mkE (⟨x0, x1, x2, x3, x4, x5⟩ : pensionhand_Claim)
def T4 : Claim → List VA := fun x => [.int .i64 x.Issuer, .int .i64 x.Number, .int .i64 x.Person, .int .i64 x.Benefit, .int .i64 x.Ref, .int .i64 x.Day]
def Qx : List VA → Option Claim := mkS (gI .i64) fun x0 => mkS (gI .i64) fun x1 => mkS (gI .i64) fun x2 => mkS (gI .i64) fun x3 => mkS (gI .i64) fun x4 => mkS (gI .i64) fun x5 => mkE (⟨x0, x1, x2, x3, x4, x5⟩ : Claim)
def ue : pensionlaw26_Seeds → List VA := fun x => [.list .c_i64 x.Laws, .list .c_i64 x.Lives, .list .c_spensionhand_Fact x.Facts, .list .c_spensionhand_Claim x.Claims, .int .i64 x.Day]
def ui : List VA → Option pensionlaw26_Seeds := mkS (SX.gL dT .c_i64) fun x0 => mkS (SX.gL dT .c_i64) fun x1 => mkS (SX.gL dT .c_spensionhand_Fact) fun x2 => mkS (SX.gL dT .c_spensionhand_Claim) fun x3 => mkS (gI .i64) fun x4 => mkE (⟨x0, x1, x2, x3, x4⟩ : pensionlaw26_Seeds)
def Ml : Ar 12 Int → List VA := fun x => x.l.map fun y => .int .i64 y
def Lo : List VA → Option (Ar 12 Int) := mkA (gI .i64) 12
def a9n : Int → List VA := fun x => [.int .u32 x]
def a9p : List VA → Option Int := mkS (gI .u32) fun x0 => mkE x0
def Mt : Ar 6 Bool → List VA := fun x => x.l.map fun y => .bool y
def Lp : List VA → Option (Ar 6 Bool) := mkA (gB) 6
def Gc : Ar 100 Bool → List VA := fun x => x.l.map fun y => .bool y
def Ga : List VA → Option (Ar 100 Bool) := mkA (gB) 100
def zz : decision_file → List VA := fun x => [.val .c_sLaws x.x, .list .c_sapi_Fact x.facts, .list .c_sapi_Fact x.own, .list .c_sClaim x.claims, .int .i64 x.person]
def Ad : List VA → Option decision_file := mkS (gV dT .c_sLaws) fun x0 => mkS (SX.gL dT .c_sapi_Fact) fun x1 => mkS (SX.gL dT .c_sapi_Fact) fun x2 => mkS (SX.gL dT .c_sClaim) fun x3 => mkS (gI .i64) fun x4 => mkE (⟨x0, x1, x2, x3, x4⟩ : decision_file)
def Tj : List Span → List VA := fun x => [.list .c_sSpan x]
def Q5 : List VA → Option (List Span) := mkS (SX.gL dT .c_sSpan) fun x0 => mkE x0
def Wu : Heir → List VA := fun x => [.int .i64 x.Person, .int .i64 x.Kind, .int .i64 x.Days]
def Wi : List VA → Option Heir := mkS (gI .i64) fun x0 => mkS (gI .i64) fun x1 => mkS (gI .i64) fun x2 => mkE (⟨x0, x1, x2⟩ : Heir)
def ze : decision_file → List VA := fun x => [.rp (.val .c_sdecision_file x)]
def zj : List VA → Option decision_file := mkS (gP dT .c_sdecision_file) fun x0 => mkE x0
def Ql : Ar 6 Int → List VA := fun x => x.l.map fun y => .int .i64 y
def T5 : List VA → Option (Ar 6 Int) := mkA (gI .i64) 6
def cdT (n : Nat) : Option TyC := bif Nat.blt n 137 then (bif Nat.blt n 79 then (bif Nat.blt n 25 then (bif Nat.blt n 6 then (bif Nat.blt n 4 then (bif Nat.blt n 3 then (bif Nat.beq n 2 then some .c_i64 else none) else (bif Nat.beq n 3 then some .c_i64 else none)) else (bif Nat.blt n 5 then (bif Nat.beq n 4 then some .c_bool else none) else (bif Nat.beq n 5 then some .c_u8 else none))) else (bif Nat.blt n 10 then (bif Nat.blt n 9 then (bif Nat.beq n 6 then some .c_u8 else none) else (bif Nat.beq n 9 then some .c_str else none)) else (bif Nat.blt n 11 then (bif Nat.beq n 10 then some .c_str else none) else (bif Nat.blt n 12 then (bif Nat.beq n 11 then some .c_str else none) else (bif Nat.beq n 12 then some .c_u64 else none))))) else (bif Nat.blt n 49 then (bif Nat.blt n 30 then (bif Nat.blt n 26 then (bif Nat.beq n 25 then some .c_spensionlaw26_Seeds else none) else (bif Nat.beq n 26 then some .c_spensionlaw26_Seeds else none)) else (bif Nat.blt n 31 then (bif Nat.beq n 30 then some .c_sLaws else none) else (bif Nat.beq n 31 then some .c_sLaws else none))) else (bif Nat.blt n 53 then (bif Nat.blt n 52 then (bif Nat.beq n 49 then some .c_lsSpan else none) else (bif Nat.beq n 52 then some .c_sSpan else none)) else (bif Nat.blt n 63 then (bif Nat.beq n 53 then some .c_sSpan else none) else (bif Nat.blt n 78 then (bif Nat.beq n 63 then some .c_sClaim else none) else (bif Nat.beq n 78 then some .c_sFraction else none)))))) else (bif Nat.blt n 93 then (bif Nat.blt n 84 then (bif Nat.blt n 81 then (bif Nat.blt n 80 then (bif Nat.beq n 79 then some .c_sFraction else none) else (bif Nat.beq n 80 then some .c_sRate else none)) else (bif Nat.blt n 83 then (bif Nat.beq n 81 then some .c_sRate else none) else (bif Nat.beq n 83 then some .c_sStatute else none))) else (bif Nat.blt n 89 then (bif Nat.blt n 85 then (bif Nat.beq n 84 then some .c_sStatute else none) else (bif Nat.beq n 85 then some .c_i64 else none)) else (bif Nat.blt n 90 then (bif Nat.beq n 89 then some .c_sState else none) else (bif Nat.blt n 92 then (bif Nat.beq n 90 then some .c_sState else none) else (bif Nat.beq n 92 then some .c_sRules else none))))) else (bif Nat.blt n 124 then (bif Nat.blt n 95 then (bif Nat.blt n 94 then (bif Nat.beq n 93 then some .c_sRules else none) else (bif Nat.beq n 94 then some .c_sapi_Fact else none)) else (bif Nat.blt n 100 then (bif Nat.beq n 95 then some .c_sapi_Fact else none) else (bif Nat.blt n 101 then (bif Nat.beq n 100 then some .c_spensionhand_Fact else none) else (bif Nat.beq n 101 then some .c_spensionhand_Fact else none)))) else (bif Nat.blt n 127 then (bif Nat.blt n 126 then (bif Nat.beq n 124 then some .c_spensionhand_Claim else none) else (bif Nat.beq n 126 then some .c_sdecision_file else none)) else (bif Nat.blt n 135 then (bif Nat.beq n 127 then some .c_sdecision_file else none) else (bif Nat.blt n 136 then (bif Nat.beq n 135 then some .c_sHeir else none) else (bif Nat.beq n 136 then some .c_sHeir else none))))))) else (bif Nat.blt n 243 then (bif Nat.blt n 184 then (bif Nat.blt n 150 then (bif Nat.blt n 147 then (bif Nat.blt n 146 then (bif Nat.beq n 137 then some .c_A100_bool else none) else (bif Nat.beq n 146 then some .c_spensionref5_reader else none)) else (bif Nat.blt n 149 then (bif Nat.beq n 147 then some .c_spensionref5_reader else none) else (bif Nat.beq n 149 then some .c_sRounding else none))) else (bif Nat.blt n 157 then (bif Nat.blt n 156 then (bif Nat.beq n 150 then some .c_sRounding else none) else (bif Nat.beq n 156 then some .c_sVersion else none)) else (bif Nat.blt n 161 then (bif Nat.beq n 157 then some .c_sVersion else none) else (bif Nat.blt n 181 then (bif Nat.beq n 161 then some .c_A3_str else none) else (bif Nat.beq n 181 then some .c_A12_i64 else none))))) else (bif Nat.blt n 220 then (bif Nat.blt n 199 then (bif Nat.blt n 198 then (bif Nat.beq n 184 then some .c_A6_bool else none) else (bif Nat.beq n 198 then some .c_sToken else none)) else (bif Nat.blt n 213 then (bif Nat.beq n 199 then some .c_sToken else none) else (bif Nat.beq n 213 then some .c_u64 else none))) else (bif Nat.blt n 240 then (bif Nat.blt n 224 then (bif Nat.beq n 220 then some .c_u64 else none) else (bif Nat.beq n 224 then some .c_A6_i64 else none)) else (bif Nat.blt n 241 then (bif Nat.beq n 240 then some .c_sCredit else none) else (bif Nat.blt n 242 then (bif Nat.beq n 241 then some .c_sCredit else none) else (bif Nat.beq n 242 then some .c_sIndex else none)))))) else (bif Nat.blt n 281 then (bif Nat.blt n 248 then (bif Nat.blt n 246 then (bif Nat.blt n 245 then (bif Nat.beq n 243 then some .c_sIndex else none) else (bif Nat.beq n 245 then some .c_sExpr else none)) else (bif Nat.blt n 247 then (bif Nat.beq n 246 then some .c_sExpr else none) else (bif Nat.beq n 247 then some .c_sLet else none))) else (bif Nat.blt n 251 then (bif Nat.blt n 250 then (bif Nat.beq n 248 then some .c_sLet else none) else (bif Nat.beq n 250 then some .c_sGrant else none)) else (bif Nat.blt n 252 then (bif Nat.beq n 251 then some .c_sGrant else none) else (bif Nat.blt n 253 then (bif Nat.beq n 252 then some .c_sReduce else none) else (bif Nat.beq n 253 then some .c_sReduce else none))))) else (bif Nat.blt n 308 then (bif Nat.blt n 285 then (bif Nat.blt n 283 then (bif Nat.beq n 281 then some .c_u32 else none) else (bif Nat.beq n 283 then some .c_u64 else none)) else (bif Nat.blt n 292 then (bif Nat.beq n 285 then some .c_i64 else none) else (bif Nat.blt n 307 then (bif Nat.beq n 292 then some .c_i64 else none) else (bif Nat.beq n 307 then some .c_spensionref1_wide else none)))) else (bif Nat.blt n 322 then (bif Nat.blt n 316 then (bif Nat.beq n 308 then some .c_spensionref1_wide else none) else (bif Nat.beq n 316 then some .c_u64 else none)) else (bif Nat.blt n 365 then (bif Nat.beq n 322 then some .c_u64 else none) else (bif Nat.blt n 366 then (bif Nat.beq n 365 then some .c_u8 else none) else (bif Nat.beq n 366 then some .c_u8 else none)))))))
def VV : Uni where
  C := TyC
  T := TyC.T
  dec := dT
  c0 := .c_u8
  n := fun c => match c with
    | .c_u8 => 1
    | .c_i64 => 1
    | .c_str => 1
    | .c_sSpan => 2
    | .c_bool => 1
    | .c_sapi_Fact => 14
    | .c_spensionhand_Fact => 13
    | .c_A3_str => 3
    | .c_sToken => 3
    | .c_spensionref5_reader => 4
    | .c_u64 => 1
    | .c_spensionref1_wide => 2
    | .c_sFraction => 2
    | .c_sExpr => 6
    | .c_sRounding => 2
    | .c_sCredit => 2
    | .c_sIndex => 3
    | .c_sLet => 7
    | .c_sGrant => 13
    | .c_sReduce => 7
    | .c_sVersion => 8
    | .c_sStatute => 3
    | .c_sState => 4
    | .c_sRules => 5
    | .c_sRate => 4
    | .c_sLaws => 3
    | .c_spensionhand_Claim => 6
    | .c_sClaim => 6
    | .c_spensionlaw26_Seeds => 5
    | .c_A12_i64 => 12
    | .c_u32 => 1
    | .c_A6_bool => 6
    | .c_A100_bool => 100
    | .c_sdecision_file => 7
    | .c_lsSpan => 1
    | .c_sHeir => 3
    | .c_psdecision_file => 1
    | .c_A6_i64 => 6
  ag := fun c => match c with
    | .c_u8 => false
    | .c_i64 => false
    | .c_str => false
    | .c_sSpan => true
    | .c_bool => false
    | .c_sapi_Fact => true
    | .c_spensionhand_Fact => true
    | .c_A3_str => true
    | .c_sToken => true
    | .c_spensionref5_reader => true
    | .c_u64 => false
    | .c_spensionref1_wide => true
    | .c_sFraction => true
    | .c_sExpr => true
    | .c_sRounding => true
    | .c_sCredit => true
    | .c_sIndex => true
    | .c_sLet => true
    | .c_sGrant => true
    | .c_sReduce => true
    | .c_sVersion => true
    | .c_sStatute => true
    | .c_sState => true
    | .c_sRules => true
    | .c_sRate => true
    | .c_sLaws => true
    | .c_spensionhand_Claim => true
    | .c_sClaim => true
    | .c_spensionlaw26_Seeds => true
    | .c_A12_i64 => true
    | .c_u32 => false
    | .c_A6_bool => true
    | .c_A100_bool => true
    | .c_sdecision_file => true
    | .c_lsSpan => false
    | .c_sHeir => true
    | .c_psdecision_file => false
    | .c_A6_i64 => true
  lay := fun c => match c with
    | .c_u8 => [none]
    | .c_i64 => [none]
    | .c_str => [none]
    | .c_sSpan => [none, none]
    | .c_bool => [none]
    | .c_sapi_Fact => [none, none, none, none, none, none, none, some .c_sSpan, none, none, none, none, none]
    | .c_spensionhand_Fact => [none, none, none, none, none, none, none, none, none, none, none, none, none]
    | .c_A3_str => List.replicate 3 (none)
    | .c_sToken => [none, none, none]
    | .c_spensionref5_reader => [none, none, none, none]
    | .c_u64 => [none]
    | .c_spensionref1_wide => [none, none]
    | .c_sFraction => [none, none]
    | .c_sExpr => [none, some .c_sFraction, none, none, none]
    | .c_sRounding => [none, none]
    | .c_sCredit => [none, none]
    | .c_sIndex => [none, some .c_sFraction]
    | .c_sLet => [none, some .c_sExpr]
    | .c_sGrant => [none, some .c_sExpr, some .c_sExpr]
    | .c_sReduce => [none, some .c_sExpr]
    | .c_sVersion => [none, some .c_sRounding, none, none, none, none, none]
    | .c_sStatute => [none, none, none]
    | .c_sState => [none, some .c_sStatute]
    | .c_sRules => [none, none, none, none, none]
    | .c_sRate => [none, none, some .c_sFraction]
    | .c_sLaws => [none, none, none]
    | .c_spensionhand_Claim => [none, none, none, none, none, none]
    | .c_sClaim => [none, none, none, none, none, none]
    | .c_spensionlaw26_Seeds => [none, none, none, none, none]
    | .c_A12_i64 => List.replicate 12 (none)
    | .c_u32 => [none]
    | .c_A6_bool => List.replicate 6 (none)
    | .c_A100_bool => List.replicate 100 (none)
    | .c_sdecision_file => [some .c_sLaws, none, none, none, none]
    | .c_lsSpan => [none]
    | .c_sHeir => [none, none, none]
    | .c_psdecision_file => [none]
    | .c_A6_i64 => List.replicate 6 (none)
  flds := fun c => match c with
    | .c_u8 => adz
    | .c_i64 => aab
    | .c_str => a8v
    | .c_sSpan => Wa
    | .c_bool => a4b
    | .c_sapi_Fact => Gg
    | .c_spensionhand_Fact => xj
    | .c_A3_str => T9
    | .c_sToken => Pp
    | .c_spensionref5_reader => uh
    | .c_u64 => a8z
    | .c_spensionref1_wide => xc
    | .c_sFraction => G8
    | .c_sExpr => X9
    | .c_sRounding => Fz
    | .c_sCredit => Lz
    | .c_sIndex => R7
    | .c_sLet => a1v
    | .c_sGrant => Qf
    | .c_sReduce => M6
    | .c_sVersion => Hh
    | .c_sStatute => L1
    | .c_sState => Qi
    | .c_sRules => Qg
    | .c_sRate => Vg
    | .c_sLaws => Vy
    | .c_spensionhand_Claim => vy
    | .c_sClaim => T4
    | .c_spensionlaw26_Seeds => ue
    | .c_A12_i64 => Ml
    | .c_u32 => a9n
    | .c_A6_bool => Mt
    | .c_A100_bool => Gc
    | .c_sdecision_file => zz
    | .c_lsSpan => Tj
    | .c_sHeir => Wu
    | .c_psdecision_file => ze
    | .c_A6_i64 => Ql
  mkv := fun c => match c with
    | .c_u8 => ag2
    | .c_i64 => a9k
    | .c_str => a9o
    | .c_sSpan => Wv
    | .c_bool => a1p
    | .c_sapi_Fact => Gi
    | .c_spensionhand_Fact => xh
    | .c_A3_str => R0
    | .c_sToken => Rq
    | .c_spensionref5_reader => ud
    | .c_u64 => a9j
    | .c_spensionref1_wide => xn
    | .c_sFraction => Gj
    | .c_sExpr => Wm
    | .c_sRounding => Gh
    | .c_sCredit => Mh
    | .c_sIndex => Q1
    | .c_sLet => a2v
    | .c_sGrant => Rs
    | .c_sReduce => Mg
    | .c_sVersion => Hv
    | .c_sStatute => J6
    | .c_sState => R4
    | .c_sRules => Qb
    | .c_sRate => Vw
    | .c_sLaws => Wp
    | .c_spensionhand_Claim => wd
    | .c_sClaim => Qx
    | .c_spensionlaw26_Seeds => ui
    | .c_A12_i64 => Lo
    | .c_u32 => a9p
    | .c_A6_bool => Lp
    | .c_A100_bool => Ga
    | .c_sdecision_file => Ad
    | .c_lsSpan => Q5
    | .c_sHeir => Wi
    | .c_psdecision_file => zj
    | .c_A6_i64 => T5
  cd := cdT
  flat := fun c => match c with
    | .c_u8 => true
    | .c_i64 => true
    | .c_str => true
    | .c_sSpan => true
    | .c_bool => true
    | .c_sapi_Fact => true
    | .c_spensionhand_Fact => true
    | .c_A3_str => true
    | .c_sToken => true
    | .c_spensionref5_reader => false
    | .c_u64 => true
    | .c_spensionref1_wide => true
    | .c_sFraction => true
    | .c_sExpr => false
    | .c_sRounding => true
    | .c_sCredit => true
    | .c_sIndex => true
    | .c_sLet => false
    | .c_sGrant => false
    | .c_sReduce => false
    | .c_sVersion => false
    | .c_sStatute => false
    | .c_sState => false
    | .c_sRules => false
    | .c_sRate => true
    | .c_sLaws => false
    | .c_spensionhand_Claim => true
    | .c_sClaim => true
    | .c_spensionlaw26_Seeds => false
    | .c_A12_i64 => true
    | .c_u32 => true
    | .c_A6_bool => true
    | .c_A100_bool => true
    | .c_sdecision_file => false
    | .c_lsSpan => false
    | .c_sHeir => true
    | .c_psdecision_file => false
    | .c_A6_i64 => true
  isA := fun c => match c with
    | .c_u8 => false
    | .c_i64 => false
    | .c_str => false
    | .c_sSpan => false
    | .c_bool => false
    | .c_sapi_Fact => false
    | .c_spensionhand_Fact => false
    | .c_A3_str => true
    | .c_sToken => false
    | .c_spensionref5_reader => false
    | .c_u64 => false
    | .c_spensionref1_wide => false
    | .c_sFraction => false
    | .c_sExpr => false
    | .c_sRounding => false
    | .c_sCredit => false
    | .c_sIndex => false
    | .c_sLet => false
    | .c_sGrant => false
    | .c_sReduce => false
    | .c_sVersion => false
    | .c_sStatute => false
    | .c_sState => false
    | .c_sRules => false
    | .c_sRate => false
    | .c_sLaws => false
    | .c_spensionhand_Claim => false
    | .c_sClaim => false
    | .c_spensionlaw26_Seeds => false
    | .c_A12_i64 => true
    | .c_u32 => false
    | .c_A6_bool => true
    | .c_A100_bool => true
    | .c_sdecision_file => false
    | .c_lsSpan => false
    | .c_sHeir => false
    | .c_psdecision_file => false
    | .c_A6_i64 => true
  ae := fun c => match c with
    | .c_u8 => .c_u8
    | .c_i64 => .c_i64
    | .c_str => .c_str
    | .c_sSpan => .c_sSpan
    | .c_bool => .c_bool
    | .c_sapi_Fact => .c_sapi_Fact
    | .c_spensionhand_Fact => .c_spensionhand_Fact
    | .c_A3_str => .c_str
    | .c_sToken => .c_sToken
    | .c_spensionref5_reader => .c_spensionref5_reader
    | .c_u64 => .c_u64
    | .c_spensionref1_wide => .c_spensionref1_wide
    | .c_sFraction => .c_sFraction
    | .c_sExpr => .c_sExpr
    | .c_sRounding => .c_sRounding
    | .c_sCredit => .c_sCredit
    | .c_sIndex => .c_sIndex
    | .c_sLet => .c_sLet
    | .c_sGrant => .c_sGrant
    | .c_sReduce => .c_sReduce
    | .c_sVersion => .c_sVersion
    | .c_sStatute => .c_sStatute
    | .c_sState => .c_sState
    | .c_sRules => .c_sRules
    | .c_sRate => .c_sRate
    | .c_sLaws => .c_sLaws
    | .c_spensionhand_Claim => .c_spensionhand_Claim
    | .c_sClaim => .c_sClaim
    | .c_spensionlaw26_Seeds => .c_spensionlaw26_Seeds
    | .c_A12_i64 => .c_i64
    | .c_u32 => .c_u32
    | .c_A6_bool => .c_bool
    | .c_A100_bool => .c_bool
    | .c_sdecision_file => .c_sdecision_file
    | .c_lsSpan => .c_lsSpan
    | .c_sHeir => .c_sHeir
    | .c_psdecision_file => .c_psdecision_file
    | .c_A6_i64 => .c_i64
  an := fun c => match c with
    | .c_u8 => 0
    | .c_i64 => 0
    | .c_str => 0
    | .c_sSpan => 0
    | .c_bool => 0
    | .c_sapi_Fact => 0
    | .c_spensionhand_Fact => 0
    | .c_A3_str => 3
    | .c_sToken => 0
    | .c_spensionref5_reader => 0
    | .c_u64 => 0
    | .c_spensionref1_wide => 0
    | .c_sFraction => 0
    | .c_sExpr => 0
    | .c_sRounding => 0
    | .c_sCredit => 0
    | .c_sIndex => 0
    | .c_sLet => 0
    | .c_sGrant => 0
    | .c_sReduce => 0
    | .c_sVersion => 0
    | .c_sStatute => 0
    | .c_sState => 0
    | .c_sRules => 0
    | .c_sRate => 0
    | .c_sLaws => 0
    | .c_spensionhand_Claim => 0
    | .c_sClaim => 0
    | .c_spensionlaw26_Seeds => 0
    | .c_A12_i64 => 12
    | .c_u32 => 0
    | .c_A6_bool => 6
    | .c_A100_bool => 100
    | .c_sdecision_file => 0
    | .c_lsSpan => 0
    | .c_sHeir => 0
    | .c_psdecision_file => 0
    | .c_A6_i64 => 6
  al := fun c => match c with
    | .c_u8 => fun _ => []
    | .c_i64 => fun _ => []
    | .c_str => fun _ => []
    | .c_sSpan => fun _ => []
    | .c_bool => fun _ => []
    | .c_sapi_Fact => fun _ => []
    | .c_spensionhand_Fact => fun _ => []
    | .c_A3_str => fun x => x.l
    | .c_sToken => fun _ => []
    | .c_spensionref5_reader => fun _ => []
    | .c_u64 => fun _ => []
    | .c_spensionref1_wide => fun _ => []
    | .c_sFraction => fun _ => []
    | .c_sExpr => fun _ => []
    | .c_sRounding => fun _ => []
    | .c_sCredit => fun _ => []
    | .c_sIndex => fun _ => []
    | .c_sLet => fun _ => []
    | .c_sGrant => fun _ => []
    | .c_sReduce => fun _ => []
    | .c_sVersion => fun _ => []
    | .c_sStatute => fun _ => []
    | .c_sState => fun _ => []
    | .c_sRules => fun _ => []
    | .c_sRate => fun _ => []
    | .c_sLaws => fun _ => []
    | .c_spensionhand_Claim => fun _ => []
    | .c_sClaim => fun _ => []
    | .c_spensionlaw26_Seeds => fun _ => []
    | .c_A12_i64 => fun x => x.l
    | .c_u32 => fun _ => []
    | .c_A6_bool => fun x => x.l
    | .c_A100_bool => fun x => x.l
    | .c_sdecision_file => fun _ => []
    | .c_lsSpan => fun _ => []
    | .c_sHeir => fun _ => []
    | .c_psdecision_file => fun _ => []
    | .c_A6_i64 => fun x => x.l
  «as» := fun c => match c with
    | .c_u8 => fun x _ _ => x
    | .c_i64 => fun x _ _ => x
    | .c_str => fun x _ _ => x
    | .c_sSpan => fun x _ _ => x
    | .c_bool => fun x _ _ => x
    | .c_sapi_Fact => fun x _ _ => x
    | .c_spensionhand_Fact => fun x _ _ => x
    | .c_A3_str => fun x i y => x.set i y
    | .c_sToken => fun x _ _ => x
    | .c_spensionref5_reader => fun x _ _ => x
    | .c_u64 => fun x _ _ => x
    | .c_spensionref1_wide => fun x _ _ => x
    | .c_sFraction => fun x _ _ => x
    | .c_sExpr => fun x _ _ => x
    | .c_sRounding => fun x _ _ => x
    | .c_sCredit => fun x _ _ => x
    | .c_sIndex => fun x _ _ => x
    | .c_sLet => fun x _ _ => x
    | .c_sGrant => fun x _ _ => x
    | .c_sReduce => fun x _ _ => x
    | .c_sVersion => fun x _ _ => x
    | .c_sStatute => fun x _ _ => x
    | .c_sState => fun x _ _ => x
    | .c_sRules => fun x _ _ => x
    | .c_sRate => fun x _ _ => x
    | .c_sLaws => fun x _ _ => x
    | .c_spensionhand_Claim => fun x _ _ => x
    | .c_sClaim => fun x _ _ => x
    | .c_spensionlaw26_Seeds => fun x _ _ => x
    | .c_A12_i64 => fun x i y => x.set i y
    | .c_u32 => fun x _ _ => x
    | .c_A6_bool => fun x i y => x.set i y
    | .c_A100_bool => fun x i y => x.set i y
    | .c_sdecision_file => fun x _ _ => x
    | .c_lsSpan => fun x _ _ => x
    | .c_sHeir => fun x _ _ => x
    | .c_psdecision_file => fun x _ _ => x
    | .c_A6_i64 => fun x i y => x.set i y
  b8 := fun c => match c with
    | .c_u8 => true
    | .c_i64 => false
    | .c_str => false
    | .c_sSpan => false
    | .c_bool => false
    | .c_sapi_Fact => false
    | .c_spensionhand_Fact => false
    | .c_A3_str => false
    | .c_sToken => false
    | .c_spensionref5_reader => false
    | .c_u64 => false
    | .c_spensionref1_wide => false
    | .c_sFraction => false
    | .c_sExpr => false
    | .c_sRounding => false
    | .c_sCredit => false
    | .c_sIndex => false
    | .c_sLet => false
    | .c_sGrant => false
    | .c_sReduce => false
    | .c_sVersion => false
    | .c_sStatute => false
    | .c_sState => false
    | .c_sRules => false
    | .c_sRate => false
    | .c_sLaws => false
    | .c_spensionhand_Claim => false
    | .c_sClaim => false
    | .c_spensionlaw26_Seeds => false
    | .c_A12_i64 => false
    | .c_u32 => false
    | .c_A6_bool => false
    | .c_A100_bool => false
    | .c_sdecision_file => false
    | .c_lsSpan => false
    | .c_sHeir => false
    | .c_psdecision_file => false
    | .c_A6_i64 => false
  t8 := fun c => match c with
    | .c_u8 => fun x => x
    | .c_i64 => fun _ => 0
    | .c_str => fun _ => 0
    | .c_sSpan => fun _ => 0
    | .c_bool => fun _ => 0
    | .c_sapi_Fact => fun _ => 0
    | .c_spensionhand_Fact => fun _ => 0
    | .c_A3_str => fun _ => 0
    | .c_sToken => fun _ => 0
    | .c_spensionref5_reader => fun _ => 0
    | .c_u64 => fun _ => 0
    | .c_spensionref1_wide => fun _ => 0
    | .c_sFraction => fun _ => 0
    | .c_sExpr => fun _ => 0
    | .c_sRounding => fun _ => 0
    | .c_sCredit => fun _ => 0
    | .c_sIndex => fun _ => 0
    | .c_sLet => fun _ => 0
    | .c_sGrant => fun _ => 0
    | .c_sReduce => fun _ => 0
    | .c_sVersion => fun _ => 0
    | .c_sStatute => fun _ => 0
    | .c_sState => fun _ => 0
    | .c_sRules => fun _ => 0
    | .c_sRate => fun _ => 0
    | .c_sLaws => fun _ => 0
    | .c_spensionhand_Claim => fun _ => 0
    | .c_sClaim => fun _ => 0
    | .c_spensionlaw26_Seeds => fun _ => 0
    | .c_A12_i64 => fun _ => 0
    | .c_u32 => fun _ => 0
    | .c_A6_bool => fun _ => 0
    | .c_A100_bool => fun _ => 0
    | .c_sdecision_file => fun _ => 0
    | .c_lsSpan => fun _ => 0
    | .c_sHeir => fun _ => 0
    | .c_psdecision_file => fun _ => 0
    | .c_A6_i64 => fun _ => 0
theorem adu : ∀ (zs : List VV.AV) (y : Int), ag2 zs = some y → cn (AEq (U := VV)) zs (adz y) := by
  intro zs y h
  obtain ⟨a0, zs, x0, rfl, h0, h⟩ := aq h; obtain ⟨rfl, rfl⟩ := jk h; exact ⟨dn (U := VV) h0, trivial⟩
theorem ada : ∀ (zs : List VV.AV) (y : Int), a9k zs = some y → cn (AEq (U := VV)) zs (aab y) := by
  intro zs y h
  obtain ⟨a0, zs, x0, rfl, h0, h⟩ := aq h; obtain ⟨rfl, rfl⟩ := jk h; exact ⟨dn (U := VV) h0, trivial⟩
theorem aav : ∀ (zs : List VV.AV) (y : ByteArray), a9o zs = some y → cn (AEq (U := VV)) zs (a8v y) := by
  intro zs y h
  obtain ⟨a0, zs, x0, rfl, h0, h⟩ := aq h; obtain ⟨rfl, rfl⟩ := jk h; exact ⟨Yk (U := VV) h0, trivial⟩
theorem a1h : ∀ (zs : List VV.AV) (y : Span), Wv zs = some y → cn (AEq (U := VV)) zs (Wa y) := by
  intro zs y h
  obtain ⟨a0, zs, x0, rfl, h0, h⟩ := aq h; obtain ⟨a1, zs, x1, rfl, h1, h⟩ := aq h; obtain ⟨rfl, rfl⟩ := jk h; exact ⟨dn (U := VV) h0, dn (U := VV) h1, trivial⟩
theorem a6a : ∀ (zs : List VV.AV) (y : Bool), a1p zs = some y → cn (AEq (U := VV)) zs (a4b y) := by
  intro zs y h
  obtain ⟨a0, zs, x0, rfl, h0, h⟩ := aq h; obtain ⟨rfl, rfl⟩ := jk h; exact ⟨Zw (U := VV) h0, trivial⟩
theorem Mz : ∀ (zs : List VV.AV) (y : api_Fact), Gi zs = some y → cn (AEq (U := VV)) zs (Gg y) := by
  intro zs y h
  obtain ⟨a0, zs, x0, rfl, h0, h⟩ := aq h; obtain ⟨a1, zs, x1, rfl, h1, h⟩ := aq h; obtain ⟨a2, zs, x2, rfl, h2, h⟩ := aq h; obtain ⟨a3, zs, x3, rfl, h3, h⟩ := aq h; obtain ⟨a4, zs, x4, rfl, h4, h⟩ := aq h; obtain ⟨a5, zs, x5, rfl, h5, h⟩ := aq h; obtain ⟨a6, zs, x6, rfl, h6, h⟩ := aq h; obtain ⟨a7, zs, x7, rfl, h7, h⟩ := aq h; obtain ⟨a8, zs, x8, rfl, h8, h⟩ := aq h; obtain ⟨a9, zs, x9, rfl, h9, h⟩ := aq h; obtain ⟨a10, zs, x10, rfl, h10, h⟩ := aq h; obtain ⟨a11, zs, x11, rfl, h11, h⟩ := aq h; obtain ⟨a12, zs, x12, rfl, h12, h⟩ := aq h; obtain ⟨rfl, rfl⟩ := jk h; exact ⟨dn (U := VV) h0, dn (U := VV) h1, dn (U := VV) h2, Zw (U := VV) h3, dn (U := VV) h4, dn (U := VV) h5, dn (U := VV) h6, Hi (U := VV) h7, dn (U := VV) h8, dn (U := VV) h9, dn (U := VV) h10, dn (U := VV) h11, dn (U := VV) h12, trivial⟩
theorem Bj : ∀ (zs : List VV.AV) (y : pensionhand_Fact), xh zs = some y → cn (AEq (U := VV)) zs (xj y) := by
  intro zs y h
  obtain ⟨a0, zs, x0, rfl, h0, h⟩ := aq h; obtain ⟨a1, zs, x1, rfl, h1, h⟩ := aq h; obtain ⟨a2, zs, x2, rfl, h2, h⟩ := aq h; obtain ⟨a3, zs, x3, rfl, h3, h⟩ := aq h; obtain ⟨a4, zs, x4, rfl, h4, h⟩ := aq h; obtain ⟨a5, zs, x5, rfl, h5, h⟩ := aq h; obtain ⟨a6, zs, x6, rfl, h6, h⟩ := aq h; obtain ⟨a7, zs, x7, rfl, h7, h⟩ := aq h; obtain ⟨a8, zs, x8, rfl, h8, h⟩ := aq h; obtain ⟨a9, zs, x9, rfl, h9, h⟩ := aq h; obtain ⟨a10, zs, x10, rfl, h10, h⟩ := aq h; obtain ⟨a11, zs, x11, rfl, h11, h⟩ := aq h; obtain ⟨a12, zs, x12, rfl, h12, h⟩ := aq h; obtain ⟨rfl, rfl⟩ := jk h; exact ⟨dn (U := VV) h0, dn (U := VV) h1, dn (U := VV) h2, Zw (U := VV) h3, dn (U := VV) h4, dn (U := VV) h5, dn (U := VV) h6, dn (U := VV) h7, dn (U := VV) h8, dn (U := VV) h9, dn (U := VV) h10, dn (U := VV) h11, dn (U := VV) h12, trivial⟩
theorem Zb : ∀ (zs : List VV.AV) (y : Ar 3 ByteArray), R0 zs = some y → cn (AEq (U := VV)) zs (T9 y) := fun zs y h => Qt (fun _ _ h => Yk (U := VV) h) h
theorem Z8 : ∀ (zs : List VV.AV) (y : Token), Rq zs = some y → cn (AEq (U := VV)) zs (Pp y) := by
  intro zs y h
  obtain ⟨a0, zs, x0, rfl, h0, h⟩ := aq h; obtain ⟨a1, zs, x1, rfl, h1, h⟩ := aq h; obtain ⟨a2, zs, x2, rfl, h2, h⟩ := aq h; obtain ⟨rfl, rfl⟩ := jk h; exact ⟨dn (U := VV) h0, Yk (U := VV) h1, dn (U := VV) h2, trivial⟩
theorem Av : ∀ (zs : List VV.AV) (y : pensionref5_reader), ud zs = some y → cn (AEq (U := VV)) zs (uh y) := by
  intro zs y h
  obtain ⟨a0, zs, x0, rfl, h0, h⟩ := aq h; obtain ⟨a1, zs, x1, rfl, h1, h⟩ := aq h; obtain ⟨a2, zs, x2, rfl, h2, h⟩ := aq h; obtain ⟨a3, zs, x3, rfl, h3, h⟩ := aq h; obtain ⟨rfl, rfl⟩ := jk h; exact ⟨Aa (U := VV) h0, dn (U := VV) h1, dn (U := VV) h2, Zw (U := VV) h3, trivial⟩
theorem acr : ∀ (zs : List VV.AV) (y : Int), a9j zs = some y → cn (AEq (U := VV)) zs (a8z y) := by
  intro zs y h
  obtain ⟨a0, zs, x0, rfl, h0, h⟩ := aq h; obtain ⟨rfl, rfl⟩ := jk h; exact ⟨dn (U := VV) h0, trivial⟩
theorem Bu : ∀ (zs : List VV.AV) (y : pensionref1_wide), xn zs = some y → cn (AEq (U := VV)) zs (xc y) := by
  intro zs y h
  obtain ⟨a0, zs, x0, rfl, h0, h⟩ := aq h; obtain ⟨a1, zs, x1, rfl, h1, h⟩ := aq h; obtain ⟨rfl, rfl⟩ := jk h; exact ⟨dn (U := VV) h0, dn (U := VV) h1, trivial⟩
theorem P3 : ∀ (zs : List VV.AV) (y : Fraction), Gj zs = some y → cn (AEq (U := VV)) zs (G8 y) := by
  intro zs y h
  obtain ⟨a0, zs, x0, rfl, h0, h⟩ := aq h; obtain ⟨a1, zs, x1, rfl, h1, h⟩ := aq h; obtain ⟨rfl, rfl⟩ := jk h; exact ⟨dn (U := VV) h0, dn (U := VV) h1, trivial⟩
theorem a1i : ∀ (zs : List VV.AV) (y : Expr), Wm zs = some y → cn (AEq (U := VV)) zs (X9 y) := by
  intro zs y h
  obtain ⟨a0, zs, x0, rfl, h0, h⟩ := aq h; obtain ⟨a1, zs, x1, rfl, h1, h⟩ := aq h; obtain ⟨a2, zs, x2, rfl, h2, h⟩ := aq h; obtain ⟨a3, zs, x3, rfl, h3, h⟩ := aq h; obtain ⟨a4, zs, x4, rfl, h4, h⟩ := aq h; obtain ⟨rfl, rfl⟩ := jk h; exact ⟨dn (U := VV) h0, Hi (U := VV) h1, dn (U := VV) h2, Yk (U := VV) h3, Aa (U := VV) h4, trivial⟩
theorem Nk : ∀ (zs : List VV.AV) (y : Rounding), Gh zs = some y → cn (AEq (U := VV)) zs (Fz y) := by
  intro zs y h
  obtain ⟨a0, zs, x0, rfl, h0, h⟩ := aq h; obtain ⟨a1, zs, x1, rfl, h1, h⟩ := aq h; obtain ⟨rfl, rfl⟩ := jk h; exact ⟨dn (U := VV) h0, dn (U := VV) h1, trivial⟩
theorem Uu : ∀ (zs : List VV.AV) (y : Credit), Mh zs = some y → cn (AEq (U := VV)) zs (Lz y) := by
  intro zs y h
  obtain ⟨a0, zs, x0, rfl, h0, h⟩ := aq h; obtain ⟨a1, zs, x1, rfl, h1, h⟩ := aq h; obtain ⟨rfl, rfl⟩ := jk h; exact ⟨dn (U := VV) h0, dn (U := VV) h1, trivial⟩
theorem Zq : ∀ (zs : List VV.AV) (y : Index), Q1 zs = some y → cn (AEq (U := VV)) zs (R7 y) := by
  intro zs y h
  obtain ⟨a0, zs, x0, rfl, h0, h⟩ := aq h; obtain ⟨a1, zs, x1, rfl, h1, h⟩ := aq h; obtain ⟨rfl, rfl⟩ := jk h; exact ⟨dn (U := VV) h0, Hi (U := VV) h1, trivial⟩
theorem a5s : ∀ (zs : List VV.AV) (y : Let), a2v zs = some y → cn (AEq (U := VV)) zs (a1v y) := by
  intro zs y h
  obtain ⟨a0, zs, x0, rfl, h0, h⟩ := aq h; obtain ⟨a1, zs, x1, rfl, h1, h⟩ := aq h; obtain ⟨rfl, rfl⟩ := jk h; exact ⟨Yk (U := VV) h0, Hi (U := VV) h1, trivial⟩
theorem Xx : ∀ (zs : List VV.AV) (y : Grant), Rs zs = some y → cn (AEq (U := VV)) zs (Qf y) := by
  intro zs y h
  obtain ⟨a0, zs, x0, rfl, h0, h⟩ := aq h; obtain ⟨a1, zs, x1, rfl, h1, h⟩ := aq h; obtain ⟨a2, zs, x2, rfl, h2, h⟩ := aq h; obtain ⟨rfl, rfl⟩ := jk h; exact ⟨dn (U := VV) h0, Hi (U := VV) h1, Hi (U := VV) h2, trivial⟩
theorem Vb : ∀ (zs : List VV.AV) (y : Reduce), Mg zs = some y → cn (AEq (U := VV)) zs (M6 y) := by
  intro zs y h
  obtain ⟨a0, zs, x0, rfl, h0, h⟩ := aq h; obtain ⟨a1, zs, x1, rfl, h1, h⟩ := aq h; obtain ⟨rfl, rfl⟩ := jk h; exact ⟨dn (U := VV) h0, Hi (U := VV) h1, trivial⟩
theorem Tk : ∀ (zs : List VV.AV) (y : Version), Hv zs = some y → cn (AEq (U := VV)) zs (Hh y) := by
  intro zs y h
  obtain ⟨a0, zs, x0, rfl, h0, h⟩ := aq h; obtain ⟨a1, zs, x1, rfl, h1, h⟩ := aq h; obtain ⟨a2, zs, x2, rfl, h2, h⟩ := aq h; obtain ⟨a3, zs, x3, rfl, h3, h⟩ := aq h; obtain ⟨a4, zs, x4, rfl, h4, h⟩ := aq h; obtain ⟨a5, zs, x5, rfl, h5, h⟩ := aq h; obtain ⟨a6, zs, x6, rfl, h6, h⟩ := aq h; obtain ⟨rfl, rfl⟩ := jk h; exact ⟨dn (U := VV) h0, Hi (U := VV) h1, Aa (U := VV) h2, Aa (U := VV) h3, Aa (U := VV) h4, Aa (U := VV) h5, Aa (U := VV) h6, trivial⟩
theorem Ps : ∀ (zs : List VV.AV) (y : Statute), J6 zs = some y → cn (AEq (U := VV)) zs (L1 y) := by
  intro zs y h
  obtain ⟨a0, zs, x0, rfl, h0, h⟩ := aq h; obtain ⟨a1, zs, x1, rfl, h1, h⟩ := aq h; obtain ⟨a2, zs, x2, rfl, h2, h⟩ := aq h; obtain ⟨rfl, rfl⟩ := jk h; exact ⟨Yk (U := VV) h0, dn (U := VV) h1, Aa (U := VV) h2, trivial⟩
theorem Yn : ∀ (zs : List VV.AV) (y : State), R4 zs = some y → cn (AEq (U := VV)) zs (Qi y) := by
  intro zs y h
  obtain ⟨a0, zs, x0, rfl, h0, h⟩ := aq h; obtain ⟨a1, zs, x1, rfl, h1, h⟩ := aq h; obtain ⟨rfl, rfl⟩ := jk h; exact ⟨dn (U := VV) h0, Hi (U := VV) h1, trivial⟩
theorem Ya : ∀ (zs : List VV.AV) (y : Rules), Qb zs = some y → cn (AEq (U := VV)) zs (Qg y) := by
  intro zs y h
  obtain ⟨a0, zs, x0, rfl, h0, h⟩ := aq h; obtain ⟨a1, zs, x1, rfl, h1, h⟩ := aq h; obtain ⟨a2, zs, x2, rfl, h2, h⟩ := aq h; obtain ⟨a3, zs, x3, rfl, h3, h⟩ := aq h; obtain ⟨a4, zs, x4, rfl, h4, h⟩ := aq h; obtain ⟨rfl, rfl⟩ := jk h; exact ⟨dn (U := VV) h0, dn (U := VV) h1, dn (U := VV) h2, dn (U := VV) h3, Aa (U := VV) h4, trivial⟩
theorem a3c : ∀ (zs : List VV.AV) (y : Rate), Vw zs = some y → cn (AEq (U := VV)) zs (Vg y) := by
  intro zs y h
  obtain ⟨a0, zs, x0, rfl, h0, h⟩ := aq h; obtain ⟨a1, zs, x1, rfl, h1, h⟩ := aq h; obtain ⟨a2, zs, x2, rfl, h2, h⟩ := aq h; obtain ⟨rfl, rfl⟩ := jk h; exact ⟨dn (U := VV) h0, dn (U := VV) h1, Hi (U := VV) h2, trivial⟩
theorem a4g : ∀ (zs : List VV.AV) (y : Laws), Wp zs = some y → cn (AEq (U := VV)) zs (Vy y) := by
  intro zs y h
  obtain ⟨a0, zs, x0, rfl, h0, h⟩ := aq h; obtain ⟨a1, zs, x1, rfl, h1, h⟩ := aq h; obtain ⟨a2, zs, x2, rfl, h2, h⟩ := aq h; obtain ⟨rfl, rfl⟩ := jk h; exact ⟨Aa (U := VV) h0, Aa (U := VV) h1, Aa (U := VV) h2, trivial⟩
theorem Ba : ∀ (zs : List VV.AV) (y : pensionhand_Claim), wd zs = some y → cn (AEq (U := VV)) zs (vy y) := by
  intro zs y h
  obtain ⟨a0, zs, x0, rfl, h0, h⟩ := aq h; obtain ⟨a1, zs, x1, rfl, h1, h⟩ := aq h; obtain ⟨a2, zs, x2, rfl, h2, h⟩ := aq h; obtain ⟨a3, zs, x3, rfl, h3, h⟩ := aq h; obtain ⟨a4, zs, x4, rfl, h4, h⟩ := aq h; obtain ⟨a5, zs, x5, rfl, h5, h⟩ := aq h; obtain ⟨rfl, rfl⟩ := jk h; exact ⟨dn (U := VV) h0, dn (U := VV) h1, dn (U := VV) h2, dn (U := VV) h3, dn (U := VV) h4, dn (U := VV) h5, trivial⟩
theorem Yx : ∀ (zs : List VV.AV) (y : Claim), Qx zs = some y → cn (AEq (U := VV)) zs (T4 y) := by
  intro zs y h
  obtain ⟨a0, zs, x0, rfl, h0, h⟩ := aq h; obtain ⟨a1, zs, x1, rfl, h1, h⟩ := aq h; obtain ⟨a2, zs, x2, rfl, h2, h⟩ := aq h; obtain ⟨a3, zs, x3, rfl, h3, h⟩ := aq h; obtain ⟨a4, zs, x4, rfl, h4, h⟩ := aq h; obtain ⟨a5, zs, x5, rfl, h5, h⟩ := aq h; obtain ⟨rfl, rfl⟩ := jk h; exact ⟨dn (U := VV) h0, dn (U := VV) h1, dn (U := VV) h2, dn (U := VV) h3, dn (U := VV) h4, dn (U := VV) h5, trivial⟩
theorem Aw : ∀ (zs : List VV.AV) (y : pensionlaw26_Seeds), ui zs = some y → cn (AEq (U := VV)) zs (ue y) := by
  intro zs y h
  obtain ⟨a0, zs, x0, rfl, h0, h⟩ := aq h; obtain ⟨a1, zs, x1, rfl, h1, h⟩ := aq h; obtain ⟨a2, zs, x2, rfl, h2, h⟩ := aq h; obtain ⟨a3, zs, x3, rfl, h3, h⟩ := aq h; obtain ⟨a4, zs, x4, rfl, h4, h⟩ := aq h; obtain ⟨rfl, rfl⟩ := jk h; exact ⟨Aa (U := VV) h0, Aa (U := VV) h1, Aa (U := VV) h2, Aa (U := VV) h3, dn (U := VV) h4, trivial⟩
theorem U3 : ∀ (zs : List VV.AV) (y : Ar 12 Int), Lo zs = some y → cn (AEq (U := VV)) zs (Ml y) := fun zs y h => Qt (fun _ _ h => dn (U := VV) h) h
theorem aby : ∀ (zs : List VV.AV) (y : Int), a9p zs = some y → cn (AEq (U := VV)) zs (a9n y) := by
  intro zs y h
  obtain ⟨a0, zs, x0, rfl, h0, h⟩ := aq h; obtain ⟨rfl, rfl⟩ := jk h; exact ⟨dn (U := VV) h0, trivial⟩
theorem Vc : ∀ (zs : List VV.AV) (y : Ar 6 Bool), Lp zs = some y → cn (AEq (U := VV)) zs (Mt y) := fun zs y h => Qt (fun _ _ h => Zw (U := VV) h) h
theorem Na : ∀ (zs : List VV.AV) (y : Ar 100 Bool), Ga zs = some y → cn (AEq (U := VV)) zs (Gc y) := fun zs y h => Qt (fun _ _ h => Zw (U := VV) h) h
theorem Ef : ∀ (zs : List VV.AV) (y : decision_file), Ad zs = some y → cn (AEq (U := VV)) zs (zz y) := by
  intro zs y h
  obtain ⟨a0, zs, x0, rfl, h0, h⟩ := aq h; obtain ⟨a1, zs, x1, rfl, h1, h⟩ := aq h; obtain ⟨a2, zs, x2, rfl, h2, h⟩ := aq h; obtain ⟨a3, zs, x3, rfl, h3, h⟩ := aq h; obtain ⟨a4, zs, x4, rfl, h4, h⟩ := aq h; obtain ⟨rfl, rfl⟩ := jk h; exact ⟨Hi (U := VV) h0, Aa (U := VV) h1, Aa (U := VV) h2, Aa (U := VV) h3, dn (U := VV) h4, trivial⟩
theorem Yj : ∀ (zs : List VV.AV) (y : List Span), Q5 zs = some y → cn (AEq (U := VV)) zs (Tj y) := by
  intro zs y h
  obtain ⟨a0, zs, x0, rfl, h0, h⟩ := aq h; obtain ⟨rfl, rfl⟩ := jk h; exact ⟨Aa (U := VV) h0, trivial⟩
theorem a2w : ∀ (zs : List VV.AV) (y : Heir), Wi zs = some y → cn (AEq (U := VV)) zs (Wu y) := by
  intro zs y h
  obtain ⟨a0, zs, x0, rfl, h0, h⟩ := aq h; obtain ⟨a1, zs, x1, rfl, h1, h⟩ := aq h; obtain ⟨a2, zs, x2, rfl, h2, h⟩ := aq h; obtain ⟨rfl, rfl⟩ := jk h; exact ⟨dn (U := VV) h0, dn (U := VV) h1, dn (U := VV) h2, trivial⟩
theorem D7 : ∀ (zs : List VV.AV) (y : decision_file), zj zs = some y → cn (AEq (U := VV)) zs (ze y) := by
  intro zs y h
  obtain ⟨a0, zs, x0, rfl, h0, h⟩ := aq h; obtain ⟨rfl, rfl⟩ := jk h; exact ⟨agw (U := VV) h0, trivial⟩
theorem Y2 : ∀ (zs : List VV.AV) (y : Ar 6 Int), T5 zs = some y → cn (AEq (U := VV)) zs (Ql y) := fun zs y h => Qt (fun _ _ h => dn (U := VV) h) h
theorem uok : UOK VV where
  lay := fun c x => match c, x with
    | .c_u8, x => rfl
    | .c_i64, x => rfl
    | .c_str, x => rfl
    | .c_sSpan, x => rfl
    | .c_bool, x => rfl
    | .c_sapi_Fact, x => rfl
    | .c_spensionhand_Fact, x => rfl
    | .c_A3_str, x => Kf (U := VV) x fun _ => rfl
    | .c_sToken, x => rfl
    | .c_spensionref5_reader, x => rfl
    | .c_u64, x => rfl
    | .c_spensionref1_wide, x => rfl
    | .c_sFraction, x => rfl
    | .c_sExpr, x => rfl
    | .c_sRounding, x => rfl
    | .c_sCredit, x => rfl
    | .c_sIndex, x => rfl
    | .c_sLet, x => rfl
    | .c_sGrant, x => rfl
    | .c_sReduce, x => rfl
    | .c_sVersion, x => rfl
    | .c_sStatute, x => rfl
    | .c_sState, x => rfl
    | .c_sRules, x => rfl
    | .c_sRate, x => rfl
    | .c_sLaws, x => rfl
    | .c_spensionhand_Claim, x => rfl
    | .c_sClaim, x => rfl
    | .c_spensionlaw26_Seeds, x => rfl
    | .c_A12_i64, x => Kf (U := VV) x fun _ => rfl
    | .c_u32, x => rfl
    | .c_A6_bool, x => Kf (U := VV) x fun _ => rfl
    | .c_A100_bool, x => Kf (U := VV) x fun _ => rfl
    | .c_sdecision_file, x => rfl
    | .c_lsSpan, x => rfl
    | .c_sHeir, x => rfl
    | .c_psdecision_file, x => rfl
    | .c_A6_i64, x => Kf (U := VV) x fun _ => rfl
  kind := fun c x => match c, x with
    | .c_u8, x => rfl
    | .c_i64, x => rfl
    | .c_str, x => rfl
    | .c_sSpan, x => rfl
    | .c_bool, x => rfl
    | .c_sapi_Fact, x => rfl
    | .c_spensionhand_Fact, x => rfl
    | .c_A3_str, x => zt (U := VV) x fun _ => rfl
    | .c_sToken, x => rfl
    | .c_spensionref5_reader, x => rfl
    | .c_u64, x => rfl
    | .c_spensionref1_wide, x => rfl
    | .c_sFraction, x => rfl
    | .c_sExpr, x => rfl
    | .c_sRounding, x => rfl
    | .c_sCredit, x => rfl
    | .c_sIndex, x => rfl
    | .c_sLet, x => rfl
    | .c_sGrant, x => rfl
    | .c_sReduce, x => rfl
    | .c_sVersion, x => rfl
    | .c_sStatute, x => rfl
    | .c_sState, x => rfl
    | .c_sRules, x => rfl
    | .c_sRate, x => rfl
    | .c_sLaws, x => rfl
    | .c_spensionhand_Claim, x => rfl
    | .c_sClaim, x => rfl
    | .c_spensionlaw26_Seeds, x => rfl
    | .c_A12_i64, x => zt (U := VV) x fun _ => rfl
    | .c_u32, x => rfl
    | .c_A6_bool, x => zt (U := VV) x fun _ => rfl
    | .c_A100_bool, x => zt (U := VV) x fun _ => rfl
    | .c_sdecision_file, x => rfl
    | .c_lsSpan, x => rfl
    | .c_sHeir, x => rfl
    | .c_psdecision_file, x => rfl
    | .c_A6_i64, x => zt (U := VV) x fun _ => rfl
  sum := fun c => by cases c <;> rfl
  sc := fun c h => by cases c <;> first | rfl | cases h
  mkl := fun c zs y h => match c, y, h with
    | .c_u8, y, h => adu zs y h
    | .c_i64, y, h => ada zs y h
    | .c_str, y, h => aav zs y h
    | .c_sSpan, y, h => a1h zs y h
    | .c_bool, y, h => a6a zs y h
    | .c_sapi_Fact, y, h => Mz zs y h
    | .c_spensionhand_Fact, y, h => Bj zs y h
    | .c_A3_str, y, h => Zb zs y h
    | .c_sToken, y, h => Z8 zs y h
    | .c_spensionref5_reader, y, h => Av zs y h
    | .c_u64, y, h => acr zs y h
    | .c_spensionref1_wide, y, h => Bu zs y h
    | .c_sFraction, y, h => P3 zs y h
    | .c_sExpr, y, h => a1i zs y h
    | .c_sRounding, y, h => Nk zs y h
    | .c_sCredit, y, h => Uu zs y h
    | .c_sIndex, y, h => Zq zs y h
    | .c_sLet, y, h => a5s zs y h
    | .c_sGrant, y, h => Xx zs y h
    | .c_sReduce, y, h => Vb zs y h
    | .c_sVersion, y, h => Tk zs y h
    | .c_sStatute, y, h => Ps zs y h
    | .c_sState, y, h => Yn zs y h
    | .c_sRules, y, h => Ya zs y h
    | .c_sRate, y, h => a3c zs y h
    | .c_sLaws, y, h => a4g zs y h
    | .c_spensionhand_Claim, y, h => Ba zs y h
    | .c_sClaim, y, h => Yx zs y h
    | .c_spensionlaw26_Seeds, y, h => Aw zs y h
    | .c_A12_i64, y, h => U3 zs y h
    | .c_u32, y, h => aby zs y h
    | .c_A6_bool, y, h => Vc zs y h
    | .c_A100_bool, y, h => Na zs y h
    | .c_sdecision_file, y, h => Ef zs y h
    | .c_lsSpan, y, h => Yj zs y h
    | .c_sHeir, y, h => a2w zs y h
    | .c_psdecision_file, y, h => D7 zs y h
    | .c_A6_i64, y, h => Y2 zs y h
  flat := fun c x h => match c, x, h with
    | .c_u8, x, h => rfl
    | .c_i64, x, h => rfl
    | .c_str, x, h => rfl
    | .c_sSpan, x, h => rfl
    | .c_bool, x, h => rfl
    | .c_sapi_Fact, x, h => rfl
    | .c_spensionhand_Fact, x, h => rfl
    | .c_A3_str, x, h => zt (U := VV) x fun _ => rfl
    | .c_sToken, x, h => rfl
    | .c_spensionref5_reader, x, h => Bool.noConfusion (show false = true from h)
    | .c_u64, x, h => rfl
    | .c_spensionref1_wide, x, h => rfl
    | .c_sFraction, x, h => rfl
    | .c_sExpr, x, h => Bool.noConfusion (show false = true from h)
    | .c_sRounding, x, h => rfl
    | .c_sCredit, x, h => rfl
    | .c_sIndex, x, h => rfl
    | .c_sLet, x, h => Bool.noConfusion (show false = true from h)
    | .c_sGrant, x, h => Bool.noConfusion (show false = true from h)
    | .c_sReduce, x, h => Bool.noConfusion (show false = true from h)
    | .c_sVersion, x, h => Bool.noConfusion (show false = true from h)
    | .c_sStatute, x, h => Bool.noConfusion (show false = true from h)
    | .c_sState, x, h => Bool.noConfusion (show false = true from h)
    | .c_sRules, x, h => Bool.noConfusion (show false = true from h)
    | .c_sRate, x, h => rfl
    | .c_sLaws, x, h => Bool.noConfusion (show false = true from h)
    | .c_spensionhand_Claim, x, h => rfl
    | .c_sClaim, x, h => rfl
    | .c_spensionlaw26_Seeds, x, h => Bool.noConfusion (show false = true from h)
    | .c_A12_i64, x, h => zt (U := VV) x fun _ => rfl
    | .c_u32, x, h => rfl
    | .c_A6_bool, x, h => zt (U := VV) x fun _ => rfl
    | .c_A100_bool, x, h => zt (U := VV) x fun _ => rfl
    | .c_sdecision_file, x, h => Bool.noConfusion (show false = true from h)
    | .c_lsSpan, x, h => Bool.noConfusion (show false = true from h)
    | .c_sHeir, x, h => rfl
    | .c_psdecision_file, x, h => Bool.noConfusion (show false = true from h)
    | .c_A6_i64, x, h => zt (U := VV) x fun _ => rfl
  arr := fun c x h => match c, x, h with
    | .c_u8, x, h => Bool.noConfusion (show false = true from h)
    | .c_i64, x, h => Bool.noConfusion (show false = true from h)
    | .c_str, x, h => Bool.noConfusion (show false = true from h)
    | .c_sSpan, x, h => Bool.noConfusion (show false = true from h)
    | .c_bool, x, h => Bool.noConfusion (show false = true from h)
    | .c_sapi_Fact, x, h => Bool.noConfusion (show false = true from h)
    | .c_spensionhand_Fact, x, h => Bool.noConfusion (show false = true from h)
    | .c_A3_str, x, h => ⟨rfl, x.h⟩
    | .c_sToken, x, h => Bool.noConfusion (show false = true from h)
    | .c_spensionref5_reader, x, h => Bool.noConfusion (show false = true from h)
    | .c_u64, x, h => Bool.noConfusion (show false = true from h)
    | .c_spensionref1_wide, x, h => Bool.noConfusion (show false = true from h)
    | .c_sFraction, x, h => Bool.noConfusion (show false = true from h)
    | .c_sExpr, x, h => Bool.noConfusion (show false = true from h)
    | .c_sRounding, x, h => Bool.noConfusion (show false = true from h)
    | .c_sCredit, x, h => Bool.noConfusion (show false = true from h)
    | .c_sIndex, x, h => Bool.noConfusion (show false = true from h)
    | .c_sLet, x, h => Bool.noConfusion (show false = true from h)
    | .c_sGrant, x, h => Bool.noConfusion (show false = true from h)
    | .c_sReduce, x, h => Bool.noConfusion (show false = true from h)
    | .c_sVersion, x, h => Bool.noConfusion (show false = true from h)
    | .c_sStatute, x, h => Bool.noConfusion (show false = true from h)
    | .c_sState, x, h => Bool.noConfusion (show false = true from h)
    | .c_sRules, x, h => Bool.noConfusion (show false = true from h)
    | .c_sRate, x, h => Bool.noConfusion (show false = true from h)
    | .c_sLaws, x, h => Bool.noConfusion (show false = true from h)
    | .c_spensionhand_Claim, x, h => Bool.noConfusion (show false = true from h)
    | .c_sClaim, x, h => Bool.noConfusion (show false = true from h)
    | .c_spensionlaw26_Seeds, x, h => Bool.noConfusion (show false = true from h)
    | .c_A12_i64, x, h => ⟨rfl, x.h⟩
    | .c_u32, x, h => Bool.noConfusion (show false = true from h)
    | .c_A6_bool, x, h => ⟨rfl, x.h⟩
    | .c_A100_bool, x, h => ⟨rfl, x.h⟩
    | .c_sdecision_file, x, h => Bool.noConfusion (show false = true from h)
    | .c_lsSpan, x, h => Bool.noConfusion (show false = true from h)
    | .c_sHeir, x, h => Bool.noConfusion (show false = true from h)
    | .c_psdecision_file, x, h => Bool.noConfusion (show false = true from h)
    | .c_A6_i64, x, h => ⟨rfl, x.h⟩
  ars := fun c x i y h => match c, x, y, h with
    | .c_u8, x, y, h => Bool.noConfusion (show false = true from h)
    | .c_i64, x, y, h => Bool.noConfusion (show false = true from h)
    | .c_str, x, y, h => Bool.noConfusion (show false = true from h)
    | .c_sSpan, x, y, h => Bool.noConfusion (show false = true from h)
    | .c_bool, x, y, h => Bool.noConfusion (show false = true from h)
    | .c_sapi_Fact, x, y, h => Bool.noConfusion (show false = true from h)
    | .c_spensionhand_Fact, x, y, h => Bool.noConfusion (show false = true from h)
    | .c_A3_str, x, y, h => rfl
    | .c_sToken, x, y, h => Bool.noConfusion (show false = true from h)
    | .c_spensionref5_reader, x, y, h => Bool.noConfusion (show false = true from h)
    | .c_u64, x, y, h => Bool.noConfusion (show false = true from h)
    | .c_spensionref1_wide, x, y, h => Bool.noConfusion (show false = true from h)
    | .c_sFraction, x, y, h => Bool.noConfusion (show false = true from h)
    | .c_sExpr, x, y, h => Bool.noConfusion (show false = true from h)
    | .c_sRounding, x, y, h => Bool.noConfusion (show false = true from h)
    | .c_sCredit, x, y, h => Bool.noConfusion (show false = true from h)
    | .c_sIndex, x, y, h => Bool.noConfusion (show false = true from h)
    | .c_sLet, x, y, h => Bool.noConfusion (show false = true from h)
    | .c_sGrant, x, y, h => Bool.noConfusion (show false = true from h)
    | .c_sReduce, x, y, h => Bool.noConfusion (show false = true from h)
    | .c_sVersion, x, y, h => Bool.noConfusion (show false = true from h)
    | .c_sStatute, x, y, h => Bool.noConfusion (show false = true from h)
    | .c_sState, x, y, h => Bool.noConfusion (show false = true from h)
    | .c_sRules, x, y, h => Bool.noConfusion (show false = true from h)
    | .c_sRate, x, y, h => Bool.noConfusion (show false = true from h)
    | .c_sLaws, x, y, h => Bool.noConfusion (show false = true from h)
    | .c_spensionhand_Claim, x, y, h => Bool.noConfusion (show false = true from h)
    | .c_sClaim, x, y, h => Bool.noConfusion (show false = true from h)
    | .c_spensionlaw26_Seeds, x, y, h => Bool.noConfusion (show false = true from h)
    | .c_A12_i64, x, y, h => rfl
    | .c_u32, x, y, h => Bool.noConfusion (show false = true from h)
    | .c_A6_bool, x, y, h => rfl
    | .c_A100_bool, x, y, h => rfl
    | .c_sdecision_file, x, y, h => Bool.noConfusion (show false = true from h)
    | .c_lsSpan, x, y, h => Bool.noConfusion (show false = true from h)
    | .c_sHeir, x, y, h => Bool.noConfusion (show false = true from h)
    | .c_psdecision_file, x, y, h => Bool.noConfusion (show false = true from h)
    | .c_A6_i64, x, y, h => rfl
  by8 := fun c x h => match c, x, h with
    | .c_u8, x, h => rfl
    | .c_i64, x, h => Bool.noConfusion (show false = true from h)
    | .c_str, x, h => Bool.noConfusion (show false = true from h)
    | .c_sSpan, x, h => Bool.noConfusion (show false = true from h)
    | .c_bool, x, h => Bool.noConfusion (show false = true from h)
    | .c_sapi_Fact, x, h => Bool.noConfusion (show false = true from h)
    | .c_spensionhand_Fact, x, h => Bool.noConfusion (show false = true from h)
    | .c_A3_str, x, h => Bool.noConfusion (show false = true from h)
    | .c_sToken, x, h => Bool.noConfusion (show false = true from h)
    | .c_spensionref5_reader, x, h => Bool.noConfusion (show false = true from h)
    | .c_u64, x, h => Bool.noConfusion (show false = true from h)
    | .c_spensionref1_wide, x, h => Bool.noConfusion (show false = true from h)
    | .c_sFraction, x, h => Bool.noConfusion (show false = true from h)
    | .c_sExpr, x, h => Bool.noConfusion (show false = true from h)
    | .c_sRounding, x, h => Bool.noConfusion (show false = true from h)
    | .c_sCredit, x, h => Bool.noConfusion (show false = true from h)
    | .c_sIndex, x, h => Bool.noConfusion (show false = true from h)
    | .c_sLet, x, h => Bool.noConfusion (show false = true from h)
    | .c_sGrant, x, h => Bool.noConfusion (show false = true from h)
    | .c_sReduce, x, h => Bool.noConfusion (show false = true from h)
    | .c_sVersion, x, h => Bool.noConfusion (show false = true from h)
    | .c_sStatute, x, h => Bool.noConfusion (show false = true from h)
    | .c_sState, x, h => Bool.noConfusion (show false = true from h)
    | .c_sRules, x, h => Bool.noConfusion (show false = true from h)
    | .c_sRate, x, h => Bool.noConfusion (show false = true from h)
    | .c_sLaws, x, h => Bool.noConfusion (show false = true from h)
    | .c_spensionhand_Claim, x, h => Bool.noConfusion (show false = true from h)
    | .c_sClaim, x, h => Bool.noConfusion (show false = true from h)
    | .c_spensionlaw26_Seeds, x, h => Bool.noConfusion (show false = true from h)
    | .c_A12_i64, x, h => Bool.noConfusion (show false = true from h)
    | .c_u32, x, h => Bool.noConfusion (show false = true from h)
    | .c_A6_bool, x, h => Bool.noConfusion (show false = true from h)
    | .c_A100_bool, x, h => Bool.noConfusion (show false = true from h)
    | .c_sdecision_file, x, h => Bool.noConfusion (show false = true from h)
    | .c_lsSpan, x, h => Bool.noConfusion (show false = true from h)
    | .c_sHeir, x, h => Bool.noConfusion (show false = true from h)
    | .c_psdecision_file, x, h => Bool.noConfusion (show false = true from h)
    | .c_A6_i64, x, h => Bool.noConfusion (show false = true from h)
end Go.PL
namespace Go.PL
open Go
theorem au {n : Int} (h0 : -9223372036854775808 ≤ n) (h1 : n ≤ 9223372036854775807) : i64 n = n := by
  unfold i64; rw [IntKind.wrap_i64]; omega
theorem a3p {n : Int} (h0 : 0 ≤ n) (h1 : n ≤ 18446744073709551615) : u64 n = n := by
  unfold u64; rw [IntKind.wrap_u64]; omega
theorem ae2 (n : Int) : u64 n = n % 18446744073709551616 := by unfold u64; rw [IntKind.wrap_u64]
theorem Es (n : Int) : 0 ≤ u64 n ∧ u64 n ≤ 18446744073709551615 := by rw [ae2]; omega
theorem a4n {α : Type} {l : List α} {i : Int} (h0 : 0 ≤ i) (h1 : i < (l.length : Int)) : ∃ x, av l i = some x ∧ l[i.toNat]? = some x := by
  have : i.toNat < l.length := by omega
  exact ⟨l[i.toNat], by unfold av; rw [if_pos h0]; exact List.getElem?_eq_getElem this, List.getElem?_eq_getElem this⟩
theorem p7 {α : Type} (l : List α) (k : Nat) : av l (k : Int) = l[k]? := by unfold av; rw [if_pos (Int.natCast_nonneg k), Int.toNat_natCast]
theorem dl {b e : Bool} : (if b = true then some true else some e) = some (b || e) := by cases b <;> rfl
theorem bw {b e : Bool} : (if b = true then some e else some false) = some (b && e) := by cases b <;> rfl
theorem Jf {σ ρ : Type} {f : (σ → Option ρ) → σ → Option ρ} (I : σ → Prop) (μ : σ → Nat) (Q : ρ → Prop)
    (step : ∀ s rec, I s → (∃ r, f rec s = some r ∧ Q r) ∨ ∃ s', f rec s = rec s' ∧ I s' ∧ μ s' < μ s) : ∀ (k : Nat) (s : σ), I s → μ s < k → ∃ r, am k f s = some r ∧ Q r
  | 0, _, _, h => absurd h (Nat.not_lt_zero _)
  | k + 1, s, hs, hk => by
    rcases step s (am k f) hs with ⟨r, h1, h2⟩ | ⟨s', h1, h2, h3⟩
    · exact ⟨r, h1, h2⟩
    · obtain ⟨r, h4, h5⟩ := Jf I μ Q step k s' h2 (by omega)
      exact ⟨r, by show f (am k f) s = _; rw [h1, h4], h5⟩
theorem ko {σ ρ : Type} {f : (σ → Option ρ) → σ → Option ρ} (I : σ → Prop) (μ : σ → Nat) (Q : ρ → Prop) {s : σ} (h0 : I s) (hμ : μ s < 2 ^ 70)
    (step : ∀ s rec, I s → (∃ r, f rec s = some r ∧ Q r) ∨ ∃ s', f rec s = rec s' ∧ I s' ∧ μ s' < μ s) : ∃ r, am FU f s = some r ∧ Q r :=
  Jf I μ Q step FU s h0 (by unfold FU; exact hμ)
theorem Jr {σ ρ : Type} {f : (σ → Option ρ) → σ → Option ρ} (I : σ → Prop) (μ : σ → Nat) (Q : Option ρ → Prop)
    (step : ∀ s rec, I s → Q (f rec s) ∨ ∃ s', f rec s = rec s' ∧ I s' ∧ μ s' < μ s) : ∀ (k : Nat) (s : σ), I s → μ s < k → Q (am k f s)
  | 0, _, _, h => absurd h (Nat.not_lt_zero _)
  | k + 1, s, hs, hk => by
    rcases step s (am k f) hs with h1 | ⟨s', h1, h2, h3⟩
    · exact h1
    · show Q (f (am k f) s)
      rw [h1]
      exact Jr I μ Q step k s' h2 (by omega)
theorem xx {σ ρ : Type} {f : (σ → Option ρ) → σ → Option ρ} (I : σ → Prop) (μ : σ → Nat) (Q : Option ρ → Prop) {s : σ} (h0 : I s) (hμ : μ s < 2 ^ 70)
    (step : ∀ s rec, I s → Q (f rec s) ∨ ∃ s', f rec s = rec s' ∧ I s' ∧ μ s' < μ s) : Q (am FU f s) :=
  Jr I μ Q step FU s h0 (by unfold FU; exact hμ)
theorem F4 {a b : Int} (h : b ≠ 0) : Di a b = some (a.tmod b) := by unfold Di; rw [if_neg h]
theorem a2l {a b : Int} (h : b ≠ 0) : Gy a b = some (i64 (a.tdiv b)) := by unfold Gy; rw [if_neg h]
theorem de {α : Type} {bytes : Nat} {l x : List α} (h : (l.length + x.length) * bytes ≤ 140737488355328) : m8 bytes l x = some (l ++ x) := by unfold m8; rw [if_pos h]
theorem rn {α : Type} {l : List α} {lo hi : Int} (h0 : 0 ≤ lo) (h1 : lo ≤ hi) (h2 : hi ≤ (l.length : Int)) : fp l lo hi = some ((l.drop lo.toNat).take (hi.toNat - lo.toNat)) := by
  unfold fp; rw [if_pos ⟨h0, h1, h2⟩]
theorem J4 {a b : Int} (h : 0 ≤ a) : a.tmod b = a % b := Int.tmod_eq_emod_of_nonneg h
theorem Ve {a b : Int} (h : 0 ≤ a) : a.tdiv b = a / b := Int.tdiv_eq_ediv_of_nonneg h
end Go.PL
namespace Go.PL
open Go
theorem gr {σ ρ S α : Type} {f : (σ → Option ρ) → σ → Option ρ} (l : List α) (e : S → Int → σ) (I : S → Nat → Prop) (Q : Option ρ → Prop) (hl : l.length < 2 ^ 62)
    (hstep : ∀ rec s (i : Nat) y, i < l.length → l[i]? = some y → I s i → Q (f rec (e s (i : Int))) ∨ ∃ s', f rec (e s (i : Int)) = rec (e s' ((i + 1 : Nat) : Int)) ∧ I s' (i + 1))
    (hfin : ∀ rec s, I s l.length → Q (f rec (e s (l.length : Int)))) (s : S) (h0 : I s 0) : Q (am FU f (e s 0)) := by
  have key : ∀ (k : Nat) (s : S) (i : Nat), i ≤ l.length → I s i → l.length - i < k → Q (am k f (e s (i : Int))) := by
    intro k
    induction k with
    | zero => intro s i _ _ h; omega
    | succ k ih =>
      intro s i hi hI hk
      show Q (f (am k f) (e s (i : Int)))
      by_cases h : i < l.length
      · rcases hstep (am k f) s i l[i] h (List.getElem?_eq_getElem h) hI with h1 | ⟨s', h1, h2⟩
        · exact h1
        · rw [h1]; exact ih s' (i + 1) (by omega) h2 (by omega)
      · have : i = l.length := by omega
        subst this
        exact hfin _ _ hI
  have : (0 : Int) = ((0 : Nat) : Int) := rfl
  rw [this]
  exact key FU s 0 (Nat.zero_le _) h0 (by unfold FU; omega)
theorem gl {x : Nat} (h : x < 2 ^ 62) : i64 ((x : Int) + 1) = ((x + 1 : Nat) : Int) := by rw [au (by omega) (by omega)]; simp
theorem d6 {α : Type} {l : List α} {i : Nat} {y : α} (h : l[i]? = some y) : av l (i : Int) = some y := by rw [p7]; exact h
theorem j3 {α : Type} {l : List α} {i : Nat} {y : α} (h : l[i]? = some y) : l.take (i + 1) = l.take i ++ [y] := by
  have hi : i < l.length := by
    rcases Nat.lt_or_ge i l.length with h1 | h1
    · exact h1
    · rw [List.getElem?_eq_none h1] at h; cases h
  rw [List.take_succ_eq_append_getElem hi]
  rw [List.getElem?_eq_getElem hi] at h
  rw [Option.some.inj h]
theorem V7 {α : Type} (a : List α) (t : α) (h : a.length < 2 ^ 62) : av (a ++ [t]) (i64 (((a ++ [t]).length : Int) - 1)) = some t := by
  have : i64 (((a ++ [t]).length : Int) - 1) = ((a.length : Nat) : Int) := by rw [List.length_append]; simp only [List.length_cons, List.length_nil]; rw [au (by omega) (by omega)]; omega
  rw [this, p7]; simp
theorem Wx {α : Type} (a : List α) (t u : α) (h : a.length < 2 ^ 62) : uc (a ++ [t]) (i64 (((a ++ [t]).length : Int) - 1)) u = a ++ [u] := by
  have : i64 (((a ++ [t]).length : Int) - 1) = ((a.length : Nat) : Int) := by rw [List.length_append]; simp only [List.length_cons, List.length_nil]; rw [au (by omega) (by omega)]; omega
  rw [this]; unfold uc; rw [if_pos (Int.natCast_nonneg _)]; simp
theorem aib {α : Type} (l : List α) : l = [] ∨ ∃ a t, l = a ++ [t] := by
  rcases List.eq_nil_or_concat l with h | ⟨a, t, h⟩
  · exact .inl h
  · exact .inr ⟨a, t, by simpa using h⟩
theorem zo {α : Type} {l : List α} {i : Nat} {y : α} (h : l[i]? = some y) : l.drop i = y :: l.drop (i + 1) := by
  have hi : i < l.length := by
    rcases Nat.lt_or_ge i l.length with h1 | h1
    · exact h1
    · rw [List.getElem?_eq_none h1] at h; cases h
  rw [List.getElem?_eq_getElem hi] at h
  rw [List.drop_eq_getElem_cons hi, Option.some.inj h]
theorem Mo {α β : Type} {g : β → α → β} {l : List α} {i : Nat} {y : α} {b : β} (h : l[i]? = some y) : (l.take (i + 1)).foldl g b = g ((l.take i).foldl g b) y := by
  rw [j3 h, List.foldl_append]; rfl
end Go.PL
namespace Go.PL
open Go Go.SX
def Tot {α : Type} (o : Option α) (Q : α → Prop) : Prop := ∃ a, o = some a ∧ Q a
section
variable {α β : Type} {o : Option α} {Q R : α → Prop} {S : β → Prop} {f : α → Option β} {a : α}
theorem Tot.some (h : Q a) : Tot (some a) Q := ⟨a, rfl, h⟩
theorem Tot.bind (h : Tot o Q) (hf : ∀ a, Q a → Tot (f a) S) : Tot (Option.bind o f) S := by
  obtain ⟨a, rfl, hq⟩ := h
  exact hf a hq
theorem Tot.ite {c : Prop} [Decidable c] {x y : Option α} (h1 : c → Tot x Q) (h2 : ¬ c → Tot y Q) : Tot (if c then x else y) Q := by
  split
  · exact h1 (by assumption)
  · exact h2 (by assumption)
theorem Tot.mono (h : Tot o Q) (hq : ∀ a, Q a → R a) : Tot o R := by
  obtain ⟨a, e, h⟩ := h
  exact ⟨a, e, hq a h⟩
theorem Tot.join (h : Tot (f a) S) : Tot (joinC f a) S := h
end
theorem Tot.loop {σ ρ : Type} {f : (σ → Option ρ) → σ → Option ρ} (I : σ → Prop) (μ : σ → Nat) {Q : ρ → Prop} {s : σ} (h0 : I s) (hμ : μ s < 2 ^ 70) (step : ∀ (r : σ → Option ρ) (s : σ), I s → (∀ s', I s' → μ s' < μ s → Tot (r s') Q) → Tot (f r s) Q) : Tot (am FU f s) Q := by
  have key : ∀ (k : Nat) (s : σ), I s → μ s < k → Tot (am k f s) Q := by
    intro k
    induction k with
    | zero => intro s _ h; omega
    | succ k ih =>
      intro s hI hk
      exact step (am k f) s hI fun s' h1 h2 => ih s' h1 (by omega)
  exact key FU s h0 (by unfold FU; exact hμ)
theorem pf {s : ByteArray} {i : Int} (h0 : 0 ≤ i) (h1 : i < (s.size : Int)) : Tot (Bd s i) fun b => 0 ≤ b ∧ b ≤ 255 := by
  unfold Bd
  rw [if_pos h0]
  have hlt : i.toNat < s.size := by omega
  rw [getElem?_pos s i.toNat hlt]
  refine ⟨_, rfl, ?_⟩
  have := (s[i.toNat]'hlt).toNat_lt
  exact ⟨Int.natCast_nonneg _, by show (((s[i.toNat]'hlt).toNat : Nat) : Int) ≤ 255; omega⟩
theorem nh {s : ByteArray} {a b : Int} (h0 : 0 ≤ a) (h1 : a ≤ b) (h2 : b ≤ (s.size : Int)) : Tot (Jd s a b) fun r => (r.size : Int) = b - a := by
  unfold Jd
  rw [if_pos ⟨h0, h1, h2⟩]
  refine ⟨_, rfl, ?_⟩
  show ((s.extract a.toNat b.toNat).size : Int) = b - a
  rw [ByteArray.size_extract]
  omega
theorem ao {a b : ByteArray} (h : a.size + b.size ≤ 9223372036854775807) : Tot (o6 a b) fun r => r.size = a.size + b.size := by
  unfold o6
  rw [if_pos h]
  exact ⟨_, rfl, ByteArray.size_append⟩
theorem dh {α : Type} {l : List α} {i : Int} (h0 : 0 ≤ i) (h1 : i < (l.length : Int)) : Tot (av l i) fun x => x ∈ l := by
  unfold av
  rw [if_pos h0]
  have hlt : i.toNat < l.length := by omega
  rw [List.getElem?_eq_getElem hlt]
  exact ⟨_, rfl, List.getElem_mem hlt⟩
theorem mj {α : Type} {k : Nat} {l x : List α} (h : (l.length + x.length) * k ≤ 140737488355328) : Tot (m8 k l x) fun r => r = l ++ x := ⟨_, de h, rfl⟩
theorem qf {a b : Int} (h0 : 0 ≤ a) (hb : 0 < b) : Tot (Di a b) fun r => r = a % b ∧ 0 ≤ r ∧ r < b ∧ r ≤ a := by
  rw [F4 (by omega), J4 h0]
  have h1 := Int.emod_nonneg a (show b ≠ 0 by omega)
  have h2 := Int.emod_lt_of_pos a hb
  have h3 : a % b ≤ a := by
    have := Int.emod_add_mul_ediv a b
    have h5 : 0 ≤ b * (a / b) := Int.mul_nonneg (by omega) (Int.ediv_nonneg h0 (by omega))
    omega
  exact ⟨_, rfl, rfl, h1, h2, h3⟩
theorem vq {a b : Int} (h0 : 0 ≤ a) (h1 : a ≤ 9223372036854775807) (hb : 0 < b) : Tot (Gy a b) fun r => r = a / b ∧ 0 ≤ r ∧ r ≤ a := by
  rw [a2l (by omega), Ve h0]
  have g1 := Int.ediv_nonneg h0 (show 0 ≤ b by omega)
  have g2 : a / b ≤ a := Int.ediv_le_self b h0
  rw [au (by omega) (by omega)]
  exact ⟨_, rfl, rfl, g1, g2⟩
theorem ss {x : Int} (h0 : 0 ≤ x) (h1 : x ≤ 4611686018427387904) : i64 (x + 1) = x + 1 := au (by omega) (by omega)
theorem eg {a n : Int} (hn : 0 < n) (h1 : n ≤ 9223372036854775807) : Tot (aa a n) fun r => 0 ≤ r ∧ r < n := by
  unfold aa
  rw [F4 (by omega), Option.bind_some]
  have h2 := Int.tmod_lt_of_pos a hn
  have h3 : -n < a.tmod n := Int.lt_tmod_of_pos a hn
  refine Tot.ite (fun h => ?_) fun h => ?_
  · simp at h
    rw [au (by omega) (by omega)]
    exact Tot.some (by omega)
  · simp at h
    exact Tot.some (by omega)
theorem eh (l : List Int) (i : Int) (hl : l.length ≤ 9223372036854775807) : Tot (ah l i) fun _ => True := by
  unfold ah
  refine Tot.ite (fun h => Tot.some trivial) fun h => ?_
  have hp : 0 < l.length := by
    rcases Nat.eq_zero_or_pos l.length with h0 | h0
    · rw [h0] at h; exact absurd rfl h
    · exact h0
  refine Tot.bind (eg (by omega) (by omega)) fun v hv => ?_
  exact Tot.bind (dh (by omega) (by omega)) fun x _ => Tot.some trivial
theorem qs {n : Int} (h0 : 0 ≤ n) (h1 : n ≤ 9999999) : Tot (ba n) fun r => 1 ≤ r.size ∧ r.size ≤ 8 := by
  unfold ba
  have hs : m7.size = 10 := by decide
  refine Tot.loop (I := fun v : Int × ByteArray => 0 ≤ v.1 ∧ ((v.1 ≤ 9 ∧ v.2.size ≤ 6) ∨ (v.1 ≤ 99 ∧ v.2.size ≤ 5) ∨ (v.1 ≤ 999 ∧ v.2.size ≤ 4) ∨ (v.1 ≤ 9999 ∧ v.2.size ≤ 3) ∨ (v.1 ≤ 99999 ∧ v.2.size ≤ 2) ∨ (v.1 ≤ 999999 ∧ v.2.size ≤ 1) ∨ (v.1 ≤ 9999999 ∧ v.2.size ≤ 0))) (μ := fun v => v.1.toNat) (s := (n, ng)) ⟨h0, .inr (.inr (.inr (.inr (.inr (.inr ⟨h1, (by decide : ng.size ≤ 0)⟩)))))⟩ (by show n.toNat < _; omega) ?_
  intro r v hI ih
  obtain ⟨g1, g2⟩ := hI
  unfold vz
  refine Tot.ite (fun h => ?_) fun h => ?_
  · simp at h
    refine Tot.bind (qf g1 (by omega)) fun a ha => ?_
    refine Tot.bind (qf g1 (by omega)) fun b hb => ?_
    have hab : a = b := by omega
    subst hab
    rw [ss (by omega) (by omega)]
    refine Tot.bind (nh (by omega) (by omega) (by rw [hs]; omega)) fun c hc => ?_
    refine Tot.bind (ao (by omega)) fun d hd => ?_
    refine Tot.bind (vq g1 (by omega) (by omega)) fun e he => ?_
    refine ih (e, d) ⟨he.2.1, ?_⟩ (by show e.toNat < v.1.toNat; omega)
    show (e ≤ 9 ∧ d.size ≤ 6) ∨ (e ≤ 99 ∧ d.size ≤ 5) ∨ (e ≤ 999 ∧ d.size ≤ 4) ∨ (e ≤ 9999 ∧ d.size ≤ 3) ∨ (e ≤ 99999 ∧ d.size ≤ 2) ∨ (e ≤ 999999 ∧ d.size ≤ 1) ∨ (e ≤ 9999999 ∧ d.size ≤ 0)
    omega
  · simp at h
    rw [ss (by omega) (by omega)]
    refine Tot.bind (nh (by omega) (by omega) (by rw [hs]; omega)) fun c hc => ?_
    exact Tot.bind (ao (by omega)) fun d hd => Tot.some (by omega)
theorem V4 {n : Int} (h0 : 0 ≤ n) (h1 : n ≤ 999999) : Tot (df n) fun r => r.size ≤ 25 := by
  unfold df
  have hs : J9.size = 1 := by decide
  refine Tot.bind (vq h0 (by omega) (by omega)) fun a ha => ?_
  refine Tot.bind (qs (by omega) (by omega)) fun b hb => ?_
  refine Tot.bind (ao (by omega)) fun c hc => ?_
  refine Tot.bind (vq h0 (by omega) (by omega)) fun d hd => ?_
  refine Tot.bind (qf (by omega) (by omega)) fun e he => ?_
  refine Tot.bind (qs (by omega) (by omega)) fun g hg => ?_
  refine Tot.bind (ao (by omega)) fun i hi => ?_
  refine Tot.bind (qf h0 (by omega)) fun j hj => ?_
  refine Tot.bind (qs (by omega) (by omega)) fun k hk => ?_
  exact Tot.bind (ao (by omega)) fun l hl => Tot.some (by omega)
theorem Cb {x : Int} (h0 : 0 ≤ x) (h1 : x ≤ 9999999) : Tot (ba (i64 x)) fun r => 1 ≤ r.size ∧ r.size ≤ 8 := by
  rw [au (by omega) (by omega)]; exact qs h0 h1
theorem Bi {x : Int} (h0 : 0 ≤ x) (h1 : x ≤ 999999) : Tot (df (i64 x)) fun r => r.size ≤ 25 := by
  rw [au (by omega) (by omega)]; exact V4 h0 h1
theorem a7x {a b : Int} (hb : b ≠ 0) : Tot (Gy a b) fun _ => True := ⟨_, a2l hb, trivial⟩
theorem a6g {a b : Int} (hb : b ≠ 0) : Tot (Di a b) fun _ => True := ⟨_, F4 hb, trivial⟩
end Go.PL
