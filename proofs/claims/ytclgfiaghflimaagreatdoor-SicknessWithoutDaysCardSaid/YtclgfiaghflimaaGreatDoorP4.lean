/- Texts that the proof stands on: laws of the program logic, the Lean functions of the Go functions, and that the Go functions compute them. -/
import Derived.Test.YtclgfiaghflimaaGreatDoorP3
import Derived.Shelf.Strings.Search3
import Derived.Lib.IndexAny
import Derived.Shelf.SlSortFuncK.WholeK
import Derived.Sort.Defs
import Derived.Lib.BitFns
import Derived.Test.YtclgfiaghflimaaGreatDoorProg
import Derived.Shelf.GgSortFunc.Tiny
import Derived.Laws.BitsLemmas
import Derived.Laws.Bits64
set_option linter.unusedVariables false
set_option linter.unusedSimpArgs false
set_option maxRecDepth 100000
namespace Go.PL
open Go Go.Proofs
def d6c (v : Value) (b : Nat) : Prop := v.ownBlock = some b
def gL : List (Nat -> Prop) -> Nat -> Prop
  | [], _ => False
  | g :: r, b => g b \/ gL r b
theorem d5.mv {α : Type} {R : TyR α} {G1 G2 Gm : Nat -> Prop} {w w' : World} {v : Value} {l : List α} (h : d5 R G1 w v l) (hE : Ext Gm w w') (hm : ∀ b, Gm b -> G1 b \/ w.heap.size <= b) (h2 : ∀ b, G2 b -> G1 b \/ w.heap.size <= b) : d5 R G2 w' v l := by
  have h1 : d5 R (fun b => G1 b \/ w.heap.size <= b) w v l := h.weaken (fun b hb hg => hg.elim id (fun hh => absurd hb (Nat.not_lt.2 hh)))
  exact (h1.ext (hE.mono hm)).weaken (fun b _ hg => h2 b hg)
theorem Own.shp {α : Type} {B : Nat} {E : TypeId} {n : Nat} {cells : α -> List Value} {w : World} {v : Value} {l : List α} (h : Own B E n cells w v l) : ∃ a n c, v = .slice a n c := by
  obtain ⟨a, c, hv, _⟩ := h.shape
  exact ⟨a, _, c, hv⟩
theorem d8y (b : Nat) : (⟨b, 0, none⟩ : Addr) = (⟨b, 0, none⟩ : Addr).add 0 := by rw [Addr.add_lit]
section
variable {P : Program} {w : World} {G : Nat -> Prop} {ρ : Nat -> Value} {F : List Fact} {p : Plan} {i : Nat}
theorem c1b {t : TypeId} {x y : Operand} {ty : TypeId} {ps : String} {af : Array Edge} {g : Option (Nat × Bool)} {dd b k : Nat} {T : TypeId} {a : Addr} {vs cs cs0 : List Value} {v : Value} {Φ : Value -> World -> Prop}
    (hF : F[i]? = some (dd, Φ)) (hm : p.mu.contains i = true) (hG : ∀ x, x = b -> G x)
    (hx : ev ρ x = .pointer (some a)) (ha : a = (⟨b, 0, none⟩ : Addr).add k) (hy : ev ρ y = v) (hM : Mb w b T cs0)
    (hst : ∀ (a : Addr) (w : World), (Instr.storeAt t (.pointer (some a)) v).run P w = (storeCells a vs).run P w) (hk : k + vs.length <= cs0.length) (hcs : cs0.take k ++ vs ++ cs0.drop (k + vs.length) = cs) (h1 : ∀ u ∈ vs, u.oneCell' = true)
    (hΦ : ∀ w', Ext (fun x => x = b) w w' -> Mb w' b T cs -> Φ (ρ dd) w') :
    n9 P ⟨none, .store t x y, ty, ps, af, g⟩ (ev ρ) w fun v w' => Ext (if p.mu.contains i then G else noG) w w' /\ a3b F i (a5m ρ none v) w' := by
  obtain ⟨w', hr, hM', hE⟩ := a16 (P := P) vs k cs0 w hM hk h1
  have hrun : (execOp (ev ρ) ⟨none, .store t x y, ty, ps, af, g⟩).run P w = .ok .skip w' := by
    have h2 := a2b (P := P) (w := w) (a := (⟨b, 0, none⟩ : Addr)) vs k 0
    simp only [Nat.add_zero] at h2
    simp [execOp, hx, hy, hst, ha, h2, hr]
  unfold n9
  rw [hrun, hm, if_pos rfl]
  refine ⟨hE.mono hG, ?_⟩
  unfold a3b
  rw [hF]
  rw [hcs] at hM'
  exact hΦ w' hE hM'
theorem b9w {α : Type} {B : Nat} {t ty E : TypeId} {n bytes : Nat} {cells : α -> List Value} {s x : Operand} {v xv : Value} {l xs r : List α} {ps : String} {af : Array Edge} {g : Option (Nat × Bool)} {dd : Tmp} {w0 : World}
    {Φ : Value -> World -> Prop} (hF : F[i]? = some (dd, Φ)) (hm : p.mu.contains i = true) (hG : ∀ b, v.ownBlock = some b -> G b) (hs : ev ρ s = v) (hxv : ev ρ x = xv)
    (hn : ∀ x, (cells x).length = n) (h1 : ∀ x, ∀ u ∈ cells x, u.oneCell' = true)
    (ht : P.underlying t = some (.slice E)) (hi : (P.info? E).map (fun i => (i.zero.map (·.cells.size), i.size, i.bytes)) = some (some n, n, bytes)) (hpos : 0 < n) (hbpos : 0 < bytes)
    (hown : Own B E n cells w v l) (hx : ∃ G, d5 (TyR.flat n cells hn) G w xv xs) (hb : a6y bytes l xs = some r) (hB : B <= w.heap.size) (hw0 : w0.heap.size <= w.heap.size)
    (hΦ : ∀ v' w', Ext (fun b => v.ownBlock = some b) w w' -> Own B E n cells w' v' r -> (∀ b, v'.ownBlock = some b -> v.ownBlock = some b \/ w0.heap.size <= b) -> Φ v' w') :
    n9 P ⟨some dd, .call ⟨.builtin .append, #[s, x], #[t, t]⟩, ty, ps, af, g⟩ (ev ρ) w fun v w' => Ext (if p.mu.contains i then G else noG) w w' /\ a3b F i (a5m ρ (some dd) v) w' := by
  obtain ⟨hbb, hrr⟩ := b4w hb
  obtain ⟨v', w', hr, ho, hE, hfr⟩ := b22 (P := P) (ty := ty) hn h1 ht hi hpos hbpos hown hx hbb hB
  have hrun : (execOp (ev ρ) ⟨some dd, .call ⟨.builtin .append, #[s, x], #[t, t]⟩, ty, ps, af, g⟩).run P w = .ok (.value v') w' := by
    simp [execOp, resolve, invoke, builtin, hs, hxv, hr]
  unfold n9
  rw [hrun, hm, if_pos rfl]
  refine ⟨hE.mono hG, ?_⟩
  unfold a3b
  rw [hF]
  show Φ (upd ρ dd v' dd) w'
  rw [a3f]
  refine hΦ v' w' hE (hrr ▸ ho) (fun b hb => ?_)
  rcases hfr b hb with h2 | h2
  . exact .inl h2
  . exact .inr (Nat.le_trans hw0 h2)
end
theorem d5z {P : Program} {η : Operand -> Value} {w : World} {T : TypeId} {x : Operand} {v u : Value} {dst : Option Tmp} {ty : TypeId} {ps : String} {af : Array Edge} {g : Option (Nat × Bool)} (hx : η x = v) (h : (Instr.makeInterface T v).run P w = .ok u w) : YV P η w ⟨dst, .makeInterface T x, ty, ps, af, g⟩ u := by
  simp [YV, execOp, hx, h]
end Go.PL
namespace Go.PL
open Go Go.Proofs Go.Sort
def c9f {α : Type} [Inhabited α] (lt : α -> α -> Bool) (l : List α) : Option (List α) :=
  if l.length <= 1 then some l else if l.length < 4611686018427387904 then some (Go.Sort.pdq lt l.toArray 0 l.length (Lib.bitLen l.length) true true).toList else none
theorem b6k {α : Type} [Inhabited α] {cells : α -> List Value} {n : Nat} (hn : ∀ x, (cells x).length = n) : ∀ (l : List α) (t : Nat), t < l.length * n -> (l.flatMap cells)[t]? = (cells (l[t / n]!))[t % n]?
  | [], t, h => by simp at h
  | x :: r, t, h => by
    have hp : 0 < n := by
      rcases Nat.eq_zero_or_pos n with h0 | h0
      . rw [h0] at h; simp at h
      . exact h0
    rw [List.flatMap_cons]
    by_cases ht : t < n
    . rw [List.getElem?_append_left (by rw [hn]; exact ht), Nat.div_eq_of_lt ht, Nat.mod_eq_of_lt ht]; rfl
    . have h1 : t = (t - n) + n := by omega
      have h2 : t / n = (t - n) / n + 1 := by rw [h1, Nat.add_div_right _ hp]; simp
      have h3 : t % n = (t - n) % n := by rw [h1, Nat.add_mod_right]; simp
      rw [List.getElem?_append_right (by rw [hn]; omega), hn, b6k hn r (t - n) (by simp only [List.length_cons, Nat.succ_mul] at h; omega), h2, h3]
      rfl
theorem b2t {α : Type} [Inhabited α] {cells : α -> List Value} {n : Nat} (hn : ∀ x, (cells x).length = n) (d : Array α) : (flatK cells n d).toList = d.toList.flatMap cells := by
  apply List.ext_getElem?
  intro t
  by_cases ht : t < d.size * n
  . rw [b6k hn d.toList t (by simpa using ht)]
    have h1 : (flatK cells n d)[t]? = some ((cells (d[t / n]!))[t % n]!) := by
      rw [<- get_flatK cells n d t ht, getElem!_pos (flatK cells n d) t (by rw [size_flatK]; exact ht)]
      simp
    have hp : 0 < n := by
      rcases Nat.eq_zero_or_pos n with h0 | h0
      . rw [h0] at ht; simp at ht
      . exact h0
    have hlt : t % n < (cells (d[t / n]!)).length := by rw [hn]; exact Nat.mod_lt _ hp
    have h2 : d.toList[t / n]! = d[t / n]! := by simp [List.getElem!_eq_getElem?_getD, Array.getElem!_eq_getD, Array.getD_eq_getD_getElem?]
    rw [Array.getElem?_toList, h1, h2, getElem!_pos (cells (d[t / n]!)) (t % n) hlt, List.getElem?_eq_getElem hlt]
  . rw [List.getElem?_eq_none (by simp; omega), List.getElem?_eq_none (by rw [m5 hn]; simp; omega)]
section
variable {α : Type} [Inhabited α] {B : Nat} {E : TypeId} {n : Nat} {cells : α -> List Value} {w w' : World} {v : Value} {l : List α}
theorem c77 (hn : ∀ x, (cells x).length = n) {g o cap m : Nat} (h : Own B E n cells w (.slice (some ⟨g, o, none⟩) m cap) l) : HoldsK cells n w g o l.toArray := by
  intro j hj
  rw [size_flatK] at hj
  have hk := b2t hn l.toArray
  have hu : (l.flatMap cells)[j]? = some ((flatK cells n l.toArray)[j]!) := by
    have : (flatK cells n l.toArray).toList[j]? = some ((flatK cells n l.toArray)[j]!) := by
      rw [getElem!_pos (flatK cells n l.toArray) j (by rw [size_flatK]; exact hj)]
      simp
    rw [hk] at this
    simpa using this
  refine ⟨?_, ?_⟩
  . have := h.ca rfl j _ hu
    rwa [Addr.add_lit] at this
  . rcases h with ⟨hv, _⟩ | ⟨g', o', cap', cur, hv, _, hh, _⟩
    . cases hv
    . simp only [Value.slice.injEq, Option.some.injEq, Addr.mk.injEq] at hv
      obtain ⟨⟨rfl, _, _⟩, _, _⟩ := hv
      have hM : Mb w g E cur.toList := by show _ = _; rw [hh]
      exact hM.frozen _
theorem b7c {F cur : Array Value} {m o : Nat} (hF : F.size = m) (hc : o + m <= cur.size) : ((putCells id o F cur).toList.drop o).take m = F.toList := by
  apply List.ext_getElem?
  intro t
  by_cases ht : t < m
  . rw [List.getElem?_take_of_lt ht, List.getElem?_drop, Array.getElem?_toList]
    simp only [putCells, Array.getElem?_mapIdx, id]
    rw [Array.getElem?_eq_getElem (show o + t < cur.size by omega), Option.map_some, if_pos ⟨Nat.le_add_right _ _, by omega⟩, Array.getElem?_toList, Nat.add_sub_cancel_left, getElem!_pos F t (by omega), Array.getElem?_eq_getElem (show t < F.size by omega)]
  . rw [List.getElem?_eq_none (by simp; omega), List.getElem?_eq_none (by simp; omega)]
theorem d4d (hn : ∀ x, (cells x).length = n) {g o cap m q : Nat} {os : Array Obj} {d : Array α} (h : Own B E n cells w (.slice (some ⟨g, o, none⟩) m cap) l) (hd : d.size = l.length) :
    Own B E n cells (grow (putRowK cells n (Go.Sort.ahead w q) g o d) os) (.slice (some ⟨g, o, none⟩) m cap) d.toList := by
  rcases h with ⟨hv, _⟩ | ⟨g', o', cap', cur, hv, hB, hh, hc, hm, hs, ht⟩
  . cases hv
  . simp only [Value.slice.injEq, Option.some.injEq, Addr.mk.injEq] at hv
    obtain ⟨⟨rfl, rfl, _⟩, hml, rfl⟩ := hv
    have hlt : g < w.heap.size := (Array.getElem?_eq_some_iff.1 hh).1
    have hmn : d.size * n <= cap * n := by rw [hd]; exact Nat.mul_le_mul_right _ hc
    refine .inr ⟨g, o, cap, putCells id o (flatK cells n d) cur, by rw [Array.length_toList, hd, hml], hB, ?_, by rw [Array.length_toList, hd]; exact hc, hm, by simp [putCells, hs], ?_⟩
    . show ((putRowK cells n (Go.Sort.ahead w q) g o d).heap ++ os)[g]? = _
      rw [Array.getElem?_append_left (by rw [size_putRowK]; exact hlt)]
      show (w.heap.modify g _)[g]? = _
      rw [Array.getElem?_modify, if_pos rfl, hh]
      rfl
    . rw [Array.length_toList, b7c (by rw [size_flatK]) (by omega), b2t hn]
theorem d55 {G : Nat -> Prop} {g o q : Nat} {os : Array Obj} {d : Array α} (hg : G g) : Ext G w (grow (putRowK cells n (Go.Sort.ahead w q) g o d) os) :=
  ⟨rfl, rfl, rfl, by show _ <= ((putRowK cells n (Go.Sort.ahead w q) g o d).heap ++ os).size; rw [Array.size_append, size_putRowK]; exact Nat.le_add_right _ _,
    fun b hb hn => by
      show ((putRowK cells n (Go.Sort.ahead w q) g o d).heap ++ os)[b]? = _
      rw [Array.getElem?_append_left (by rw [size_putRowK]; exact hb)]
      show (w.heap.modify g _)[b]? = _
      rw [Array.getElem?_modify, if_neg (fun e : g = b => hn (e ▸ hg))],
    Nat.le_add_right _ _⟩
end
end Go.PL
namespace Go.PL.Mk
open Go Go.PL
structure Span where
  From : Int
  To : Int
instance : Inhabited Span := ⟨⟨0, 0⟩⟩
def Span.cells (x : Span) : List Go.Value := [.int .i64 x.From, .int .i64 x.To]
def Span.val (x : Span) : Go.Value := .agg #[.int .i64 x.From, .int .i64 x.To]
def Span.R : TyR Span := TyR.flat 2 Span.cells (fun _ => rfl)
def Span.eqb (x y : Span) : Bool := (x.From == y.From) && ((x.To == y.To) && true)
def spans_clamp (s_ : Span) : Option Span :=
  some (⟨max s_.From 0, min s_.To 73049⟩ : Span)
def b2k (i_ : Int) (j_ : Int) (c_ : List Span) : Option Bool :=
  Option.bind (m7 c_ i_) fun y => Option.bind (m7 c_ j_) fun y2 => some (decide (y.From < y2.From))
def sort_Slice_120 (l : List Span) : Option (List Span) := c9f (fun x y => decide (x.From < y.From)) l
def spans_Make_j (x : Int) (rec_ : (Int × (List Span)) -> Option (List Span)) (v2 : List Span) : Option (List Span) :=
  rec_ (i64 (x + 1), v2)
def spans_Make_j2 (x3 : Int) (rec_2 : ((List Span) × Int) -> Option (List Span)) (x4 : List Span) : Option (List Span) :=
  rec_2 (x4, i64 (x3 + 1))
def spans_Make_l2 (z2 : List Span) (rec_2 : ((List Span) × Int) -> Option (List Span)) : ((List Span) × Int) -> Option (List Span)
  | (x2, x3) =>
  if decide (x3 < (z2.length : Int)) = true then
    Option.bind (m7 z2 x3) fun y2 => Option.bind (if decide (0 < (x2.length : Int)) = true then Option.bind (m7 x2 (i64 ((x2.length : Int) - 1))) fun y3 => some (decide (y2.From <= y3.To)) else some false) fun c => if c = true then
      Option.bind (m7 x2 (i64 ((x2.length : Int) - 1))) fun y4 => Option.bind (m7 x2 (i64 ((x2.length : Int) - 1))) fun y5 => spans_Make_j2 x3 rec_2 (b01 x2 (i64 ((x2.length : Int) - 1)) ({ y5 with To := max y4.To y2.To } : Span))
    else
      Option.bind (a6y 16 x2 [y2]) fun l2 => spans_Make_j2 x3 rec_2 l2
  else
    some x2
def spans_Make_l (d_ : List Span) (rec_ : (Int × (List Span)) -> Option (List Span)) : (Int × (List Span)) -> Option (List Span)
  | (x, v) =>
  if decide (x < (d_.length : Int)) = true then
    Option.bind (m7 d_ x) fun y => Option.bind (spans_clamp y) fun z => if decide (z.From < z.To) = true then
      Option.bind (a6y 16 v [z]) fun l => spans_Make_j x rec_ l
    else
      spans_Make_j x rec_ v
  else
    Option.bind (sort_Slice_120 v) fun z2 => j6 FU (spans_Make_l2 z2) ([], 0)
def spans_Make (d_ : List Span) : Option (List Span) :=
  j6 FU (spans_Make_l d_) (0, [])
end Go.PL.Mk
namespace Go.Proofs
open Go.Shelf
def Tryz.sliceLay_ren : Go.Shelf.Ren := ⟨fun | 6 => 109 | 10 => 172 | 11 => 173 | 12 => 174 | 13 => 175 | 14 => 176 | 24 => 262 | 25 => 252 | 26 => 263 | 27 => 264 | 28 => 265 | 29 => 266 | 30 => 267 | 31 => 268 | 32 => 269 | 33 => 270 | 34 => 329 | 35 => 330 | 36 => 331 | 37 => 332 | 38 => 333 | 39 => 374 | n => n, fun | 20 => 20 | 26 => 206 | 35 => 286 | 0 => 0 | 37 => 288 | 3 => 3 | 41 => 197 | 44 => 293 | 49 => 375 | 51 => 126 | 4 => 4 | 54 => 378 | 53 => 377 | 58 => 108 | 5 => 5 | 9 => 9 | 60 => 422 | 64 => 426 | 66 => 452 | 67 => 81 | 17 => 17 | 32 => 283 | 33 => 284 | 82 => 500 | 12 => 12 | 75 => 493 | 76 => 494 | 77 => 495 | 78 => 496 | 79 => 497 | 80 => 498 | n => n, fun | n => n⟩
theorem Tryz.sliceLay : Go.Proofs.LaysGg.n6 Tryz.prog Tryz.sliceLay_ren := {
  mixed := by kernel_rfl
  f6 := Tryz.func109.trans (congrArg some (by kernel_rfl))
  f10 := Tryz.func172.trans (congrArg some (by kernel_rfl))
  f11 := Tryz.func173.trans (congrArg some (by kernel_rfl))
  f12 := Tryz.func174.trans (congrArg some (by kernel_rfl))
  f13 := Tryz.func175.trans (congrArg some (by kernel_rfl))
  f14 := Tryz.func176.trans (congrArg some (by kernel_rfl))
  f24 := Tryz.func262.trans (congrArg some (by kernel_rfl))
  f25 := Tryz.func252.trans (congrArg some (by kernel_rfl))
  f26 := Tryz.func263.trans (congrArg some (by kernel_rfl))
  f27 := Tryz.func264.trans (congrArg some (by kernel_rfl))
  f28 := Tryz.func265.trans (congrArg some (by kernel_rfl))
  f29 := Tryz.func266.trans (congrArg some (by kernel_rfl))
  f30 := Tryz.func267.trans (congrArg some (by kernel_rfl))
  f31 := Tryz.func268.trans (congrArg some (by kernel_rfl))
  f32 := Tryz.func269.trans (congrArg some (by kernel_rfl))
  f33 := Tryz.func270.trans (congrArg some (by kernel_rfl))
  f34 := Tryz.func329.trans (congrArg some (by kernel_rfl))
  f35 := Tryz.func330.trans (congrArg some (by kernel_rfl))
  f36 := Tryz.func331.trans (congrArg some (by kernel_rfl))
  f37 := Tryz.func332.trans (congrArg some (by kernel_rfl))
  f38 := Tryz.func333.trans (congrArg some (by kernel_rfl))
  f39 := Tryz.func374.trans (congrArg some (by kernel_rfl))
  t0 := Tryz.underlying0
  a0 := Tryz.isAgg0
  z0 := Tryz.sizeOf0
  v0 := Tryz.zeroValue0
  i0 := by kernel_rfl
  t3 := Tryz.underlying3
  a3 := Tryz.isAgg3
  z3 := Tryz.sizeOf3
  v3 := Tryz.zeroValue3
  i3 := by kernel_rfl
  t4 := Tryz.underlying4
  a4 := Tryz.isAgg4
  z4 := Tryz.sizeOf4
  v4 := Tryz.zeroValue4
  i4 := by kernel_rfl
  t5 := Tryz.underlying5
  a5 := Tryz.isAgg5
  z5 := Tryz.sizeOf5
  v5 := Tryz.zeroValue5
  i5 := by kernel_rfl
  t9 := Tryz.underlying9
  a9 := Tryz.isAgg9
  z9 := Tryz.sizeOf9
  v9 := Tryz.zeroValue9
  i9 := by kernel_rfl
  t12 := Tryz.underlying12
  a12 := Tryz.isAgg12
  z12 := Tryz.sizeOf12
  v12 := Tryz.zeroValue12
  i12 := by kernel_rfl
  t17 := Tryz.underlying17
  a17 := Tryz.isAgg17
  z17 := Tryz.sizeOf17
  v17 := Tryz.zeroValue17
  i17 := by kernel_rfl
  t20 := Tryz.underlying20
  a20 := Tryz.isAgg20
  z20 := Tryz.sizeOf20
  v20 := Tryz.zeroValue20
  i20 := by kernel_rfl
  t26 := Tryz.underlying206
  a26 := Tryz.isAgg206
  z26 := Tryz.sizeOf206
  v26 := Tryz.zeroValue206
  i26 := by kernel_rfl
  t32 := Tryz.underlying283
  a32 := Tryz.isAgg283
  z32 := Tryz.sizeOf283
  v32 := Tryz.zeroValue283
  i32 := by kernel_rfl
  t33 := Tryz.underlying284
  a33 := Tryz.isAgg284
  z33 := Tryz.sizeOf284
  v33 := Tryz.zeroValue284
  i33 := by kernel_rfl
  t35 := Tryz.underlying286
  a35 := Tryz.isAgg286
  z35 := Tryz.sizeOf286
  v35 := Tryz.zeroValue286
  i35 := by kernel_rfl
  t37 := Tryz.underlying288
  a37 := Tryz.isAgg288
  z37 := Tryz.sizeOf288
  v37 := Tryz.zeroValue288
  i37 := by kernel_rfl
  t41 := Tryz.underlying197
  a41 := Tryz.isAgg197
  z41 := Tryz.sizeOf197
  v41 := Tryz.zeroValue197
  i41 := by kernel_rfl
  t44 := Tryz.underlying293
  a44 := Tryz.isAgg293
  z44 := Tryz.sizeOf293
  v44 := Tryz.zeroValue293
  i44 := by kernel_rfl
  t49 := Tryz.underlying375
  a49 := Tryz.isAgg375
  z49 := Tryz.sizeOf375
  v49 := Tryz.zeroValue375
  i49 := by kernel_rfl
  t51 := Tryz.underlying126
  a51 := Tryz.isAgg126
  z51 := Tryz.sizeOf126
  v51 := Tryz.zeroValue126
  i51 := by kernel_rfl
  t53 := Tryz.underlying377
  a53 := Tryz.isAgg377
  z53 := Tryz.sizeOf377
  v53 := Tryz.zeroValue377
  i53 := by kernel_rfl
  t54 := Tryz.underlying378
  a54 := Tryz.isAgg378
  z54 := Tryz.sizeOf378
  v54 := Tryz.zeroValue378
  i54 := by kernel_rfl
  t58 := Tryz.underlying108
  a58 := Tryz.isAgg108
  z58 := Tryz.sizeOf108
  v58 := Tryz.zeroValue108
  i58 := by kernel_rfl
  t60 := Tryz.underlying422
  a60 := Tryz.isAgg422
  z60 := Tryz.sizeOf422
  v60 := Tryz.zeroValue422
  i60 := by kernel_rfl
  t64 := Tryz.underlying426
  a64 := Tryz.isAgg426
  z64 := Tryz.sizeOf426
  v64 := Tryz.zeroValue426
  i64 := by kernel_rfl
  t66 := Tryz.underlying452
  a66 := Tryz.isAgg452
  z66 := Tryz.sizeOf452
  v66 := Tryz.zeroValue452
  i66 := by kernel_rfl
  t67 := Tryz.underlying81
  a67 := Tryz.isAgg81
  z67 := Tryz.sizeOf81
  v67 := Tryz.zeroValue81
  i67 := by kernel_rfl
  t75 := Tryz.underlying493
  a75 := Tryz.isAgg493
  z75 := Tryz.sizeOf493
  v75 := Tryz.zeroValue493
  i75 := by kernel_rfl
  t76 := Tryz.underlying494
  a76 := Tryz.isAgg494
  z76 := Tryz.sizeOf494
  v76 := Tryz.zeroValue494
  i76 := by kernel_rfl
  t77 := Tryz.underlying495
  a77 := Tryz.isAgg495
  z77 := Tryz.sizeOf495
  v77 := Tryz.zeroValue495
  i77 := by kernel_rfl
  t78 := Tryz.underlying496
  a78 := Tryz.isAgg496
  z78 := Tryz.sizeOf496
  v78 := Tryz.zeroValue496
  i78 := by kernel_rfl
  t79 := Tryz.underlying497
  a79 := Tryz.isAgg497
  z79 := Tryz.sizeOf497
  v79 := Tryz.zeroValue497
  i79 := by kernel_rfl
  t80 := Tryz.underlying498
  a80 := Tryz.isAgg498
  z80 := Tryz.sizeOf498
  v80 := Tryz.zeroValue498
  i80 := by kernel_rfl
  t82 := Tryz.underlying500
  a82 := Tryz.isAgg500
  z82 := Tryz.sizeOf500
  v82 := Tryz.zeroValue500
  i82 := by kernel_rfl }
end Go.Proofs
namespace Go.Proofs
open Go.Shelf Go.RowKit Go.Lib Go.Sort
noncomputable def Tryz.spT : TypeInfo := (Tryz.prog.info? 78).get (by kernel_rfl)
noncomputable def Tryz.spE : TypeInfo := (Tryz.prog.info? 56).get (by kernel_rfl)
theorem Tryz.spK (n : Nat) (h2 : 2 <= n) : Lib.swapperK n Tryz.spE 25 = 9 := by
  have a : Tryz.spE.hasPointers = false := by kernel_rfl
  have b : Tryz.spE.bytes = 16 := by kernel_rfl
  have c : (n == 0) = false := by simp; omega
  have d : (n == 1) = false := by simp; omega
  simp [Lib.swapperK, a, b, c, d]
set_option maxHeartbeats 2000000 in
theorem Tryz.spLess (blk off c Bs size : Nat) (W : World) (G : Nat -> Int) (hs : W.cell? ⟨Bs, 0, none⟩ = some (.slice (some ⟨blk, off, none⟩) size c))
    (hc : ∀ t, t < size -> W.cell? ⟨blk, off + t * 2, none⟩ = some (.int .i64 (G t))) (i j : Nat) (hi : i < size) (hj : j < size) (_hsz : size < 4611686018427387904) :
    Calls Tryz.prog 110 #[.int .i64 i, .int .i64 j, .pointer (some ⟨Bs, 0, none⟩)] W fun e w' => e = .returned (.bool (decide (G i < G j))) /\ ∃ q, w' = W.drewN q := by
  have ci := hc i hi
  have cj := hc j hj
  go_enter Tryz.func110, Tryz.ntmps110
  go_wp2
  go_quiet (fail)
  go_wp2
  go_ret
  exact ⟨rfl, nq, rfl⟩
end Go.Proofs
namespace Go.PL.Mk
open Go Go.PL Go.Proofs Go.Sort
theorem c3b : SWO (fun x y : Span => decide (x.From < y.From)) := by
  constructor
  . intro x; simp
  . intro x y z; simp only [decide_eq_true_eq]; omega
  . intro x y z; simp only [decide_eq_false_iff_not]; omega
set_option maxHeartbeats 2000000 in
theorem b25 {w0 : World} (l : List Span) {v : Value} {B bc : Nat} (hO : Own B 56 2 Span.cells w0 v l) (hb : Mb w0 bc 78 [v]) (hnb : Value.ownBlock v ≠ some bc) {r : List Span} (hF : sort_Slice_120 l = some r) :
    Calls Tryz.prog 109 #[.iface 78 v, .func (.func 110) #[] #[.pointer (some ⟨bc, 0, none⟩)]] w0 fun e w1 => e = .returned (.tuple #[]) /\ Ext (fun b => Value.ownBlock v = some b) w0 w1 /\ Own B 56 2 Span.cells w1 v r := by
  unfold sort_Slice_120 c9f at hF
  by_cases h1 : l.length <= 1
  . rw [if_pos h1] at hF
    obtain rfl := Option.some.inj hF
    obtain ⟨a, cap, hv, _, _⟩ := hO.shape
    have key : ∀ n, l.length = n -> Calls Tryz.prog 109 #[.iface 78 (.slice a n cap), .func (.func 110) #[] #[.pointer (some ⟨bc, 0, none⟩)]] w0 (fun e w' => e = .returned (.tuple #[]) /\ ∃ os, w' = Go.Sort.grow w0 os) ->
        Calls Tryz.prog 109 #[.iface 78 v, .func (.func 110) #[] #[.pointer (some ⟨bc, 0, none⟩)]] w0 fun e w1 => e = .returned (.tuple #[]) /\ Ext (fun b => Value.ownBlock v = some b) w0 w1 /\ Own B 56 2 Span.cells w1 v l := by
      intro n hn h
      rw [hn] at hv
      rw [<- hv] at h
      refine Calls.mono h ?_
      rintro e w1 ⟨rfl, os, rfl⟩
      have hE : Ext noG w0 (Go.Sort.grow w0 os) := ⟨rfl, rfl, rfl, by show _ <= (w0.heap ++ os).size; simp, fun b hb _ => by show (w0.heap ++ os)[b]? = _; rw [Array.getElem?_append_left hb], Nat.le_refl _⟩
      exact ⟨rfl, hE.of_no, hO.exn hE⟩
    rcases (show l.length = 0 \/ l.length = 1 by omega) with h0 | h0
    . exact key 0 h0 (Any.sort_Slice_tiny Tryz.sliceLay 78 56 Tryz.spT Tryz.spE (by kernel_rfl) (by kernel_rfl) (by kernel_rfl) (by kernel_rfl) 25 (fun _ => by kernel_rfl) a 0 cap (by omega) 253 (by kernel_rfl) (.func 110) #[] #[.pointer (some ⟨bc, 0, none⟩)] w0)
    . exact key 1 h0 (Any.sort_Slice_tiny Tryz.sliceLay 78 56 Tryz.spT Tryz.spE (by kernel_rfl) (by kernel_rfl) (by kernel_rfl) (by kernel_rfl) 25 (fun _ => by kernel_rfl) a 1 cap (by omega) 254 (by kernel_rfl) (.func 110) #[] #[.pointer (some ⟨bc, 0, none⟩)] w0)
  . rw [if_neg h1] at hF
    split at hF
    case isFalse => cases hF
    rename_i hsz
    obtain rfl := Option.some.inj hF
    obtain ⟨a, cap, hv, hlc, hcm⟩ := hO.shape
    cases a with
    | none =>
      exfalso
      rcases hO with ⟨_, h⟩ | ⟨g, o, c', cur, hv', _⟩
      . rw [h] at h1; simp at h1
      . rw [hv] at hv'; cases hv'
    | some ad =>
      obtain ⟨g, o, hg⟩ : ∃ g o, ad = ⟨g, o, none⟩ := by
        rcases hO with ⟨h, _⟩ | ⟨g, o, c', cur, hv', _⟩
        . rw [hv] at h; cases h
        . rw [hv] at hv'; cases hv'; exact ⟨g, o, rfl⟩
      subst hg
      subst hv
      have hlt : g < w0.heap.size := (hO.lt rfl).2
      have hbg : bc ≠ g := fun e => hnb (by rw [e]; rfl)
      have hcell : w0.cell? ⟨bc, 0, none⟩ = some (.slice (some ⟨g, o, none⟩) l.toArray.size cap) := hb.ca 0 _ rfl
      have hH := c77 (n := 2) (cells := Span.cells) (fun _ => rfl) hO
      have h2 : 2 <= l.toArray.size := by rw [List.size_toArray]; omega
      have hsz' : l.toArray.size < 4611686018427387904 := by rw [List.size_toArray]; exact hsz
      have hless : LessReadsK Tryz.prog 110 #[.pointer (some ⟨bc, 0, none⟩)] Span.cells 2 (fun x y : Span => decide (x.From < y.From)) g o l.toArray.size w0 := by
        intro m os dk hs i j hi hj
        have e : sortWorldK Span.cells 2 w0 g o m dk os = putRowK Span.cells 2 (grow (Go.Sort.ahead w0 m) os) g o dk := by
          unfold sortWorldK; rw [putRowK_grow _ _ (Go.Sort.ahead w0 m) _ g o _ hlt]
        have hHg : HoldsK Span.cells 2 (grow (Go.Sort.ahead w0 m) os) g o l.toArray := holdsK_grow _ _ _ _ g o _ hlt (holdsK_ahead _ _ _ _ _ _ _ hH)
        refine Tryz.spLess g o cap bc l.toArray.size _ (fun t => dk[t]!.From) ?_ (fun t ht => ?_) i j hi hj (by omega)
        . rw [e, cell?_putRowK_other _ _ _ g o dk _ (by exact hbg), cell?_grow _ _ _ (by exact hb.lt)]; exact hcell
        . rw [e]; exact ((holdsK_putRowK _ _ _ g o l.toArray dk hHg hs).cell (i := t) (c := 0) (by omega) (by omega)).1
      have hS := Any.sort_Slice_cells_eq Tryz.sliceLay 78 56 Tryz.spT Tryz.spE (by kernel_rfl) (by kernel_rfl) (by kernel_rfl) (by kernel_rfl) 25 (fun _ => by kernel_rfl) Span.cells 2 (fun _ => rfl) (by kernel_rfl) (fun _ => by kernel_rfl)
        (fun x u hu => by simp [Span.cells] at hu; rcases hu with rfl | rfl <;> rfl) (fun x y : Span => decide (x.From < y.From)) c3b 110 _
        (enters_of Tryz.func110 (by kernel_rfl) rfl) g o cap l.toArray h2 hsz' 261 (by rw [Tryz.spK _ h2]; kernel_rfl) false
        (fun args W => run_callFunc_extern Tryz.func261 (by kernel_rfl) (by kernel_rfl) (by kernel_rfl) (e := Extern.ReflectliteSwapper.swap false) (by kernel_rfl) args W) w0 hless hH hlt
      have hp := (pdq_sorts (fun x y : Span => decide (x.From < y.From)) c3b l.toArray 0 l.toArray.size (Lib.bitLen l.toArray.size) true true (Nat.zero_le _) (Nat.le_refl _) (Or.inl rfl)).1.1
      rw [List.size_toArray] at hS hp
      generalize pdq (fun x y : Span => decide (x.From < y.From)) l.toArray 0 l.length (Lib.bitLen l.length) true true = d at hS hp ⊢
      refine Calls.mono hS ?_
      rintro e w1 ⟨rfl, q, os, rfl⟩
      exact ⟨rfl, d55 rfl, d4d (n := 2) (cells := Span.cells) (fun _ => rfl) hO hp⟩
end Go.PL.Mk
namespace Go.PL.Mk
open Go Go.PL Go.Proofs
theorem mixed : Tryz.prog.follows .mixedOrders = true := by kernel_rfl
theorem d95 (x : Span) (w : World) : (Instr.box 56 (Span.val x)).run Tryz.prog w = .ok (.pointer (some ⟨w.heap.size, 0, none⟩)) (w.alloc (.cells ((Span.cells x)).toArray 56)) := by kernel_rfl
theorem d5j (w : World) : (Instr.alloc 56 true (.tuple #[])).run Tryz.prog w = .ok (.pointer (some ⟨w.heap.size, 0, none⟩)) (w.alloc (.cells ((Span.cells (⟨0, 0⟩ : Span))).toArray 56)) := by kernel_rfl
theorem b4g (a : Addr) (w : World) : (Instr.fieldAt 56 (.pointer (some a)) 0).run Tryz.prog w = .ok (.pointer (some (a.add 0))) w := by kernel_rfl
theorem c9x (a : Addr) (w : World) : (Instr.loadAt 3 (.pointer (some a))).run Tryz.prog w = (load a).run Tryz.prog w := by kernel_rfl
theorem b1v (a : Addr) (w : World) : (Instr.fieldAt 56 (.pointer (some a)) 1).run Tryz.prog w = .ok (.pointer (some (a.add 1))) w := by kernel_rfl
theorem c8q (x0 : Int) (x1 : Int) (w : World) : (Instr.build 56 #[(0, .int .i64 x0), (1, .int .i64 x1)]).run Tryz.prog w = .ok (Span.val ⟨x0, x1⟩) w := by kernel_rfl
theorem d0h (x : Span) (a : Addr) (w : World) : (Instr.storeAt 56 (.pointer (some a)) (Span.val x)).run Tryz.prog w = (storeCells a (Span.cells x)).run Tryz.prog w := by kernel_rfl
theorem b6c (x : Span) : ∀ u ∈ (Span.cells x), u.oneCell' = true := by simp [Value.oneCell', Span.cells]; try exact rfl
theorem c5p (a : Addr) (w : World) : (Instr.loadAt 56 (.pointer (some a))).run Tryz.prog w = ((do pure (.agg (<- loadCells a 2))) : Sem Value).run Tryz.prog w := by kernel_rfl
theorem c7r (a : Addr) (w : World) : (Instr.loadAt 78 (.pointer (some a))).run Tryz.prog w = (load a).run Tryz.prog w := by kernel_rfl
theorem c1a {a : Addr} {n c : Nat} {i : Int} {w : World} (h : 0 <= i /\ i < (n : Int)) : (Instr.indexAt 78 (.slice (some a) n c) (.int .i64 i)).run Tryz.prog w = .ok (.pointer (some (a.add (i.toNat * 2)))) w := b3e (e := 56) (by kernel_rfl) (by kernel_rfl) h
theorem d9h (w : World) : (Instr.alloc 78 true (.tuple #[])).run Tryz.prog w = .ok (.pointer (some ⟨w.heap.size, 0, none⟩)) (w.alloc (.cells ([Value.slice none 0 0]).toArray 78)) := by kernel_rfl
theorem c6g {a : Option Addr} {n c : Nat} {ty : TypeId} {w : World} : (Builtin.len_ #[78] ty #[.slice a n c]).run Tryz.prog w = .ok (.int .i64 n) w := by kernel_rfl
theorem d7n (args : Array Value) (w : World) : (callFunc 108 args).run Tryz.prog w = .ok (.enter 108 args) w := by kernel_rfl
theorem c8u (x0 : Span) (w : World) : (Instr.buildSlice 78 1 #[(0, Span.val x0)]).run Tryz.prog w = .ok (.slice (some ⟨w.heap.size, 0, none⟩) 1 1) (w.alloc (.cells (([x0]).flatMap Span.cells).toArray 56)) := by kernel_rfl
theorem d7t : Tryz.prog.underlying 78 = some (.slice 56) := by kernel_rfl
theorem d6n : (Tryz.prog.info? 56).map (fun i => (i.zero.map (·.cells.size), i.size, i.bytes)) = some (some 2, 2, 16) := by kernel_rfl
theorem sz_56 : (Tryz.prog.info? 56).map (·.size) = some 2 := by kernel_rfl
theorem d7k {v : Value} (h : ∃ a n c, v = Value.slice a n c) (a : Addr) (w : World) : (Instr.storeAt 78 (.pointer (some a)) v).run Tryz.prog w = (storeCells a [v]).run Tryz.prog w := by
  obtain ⟨_, _, _, rfl⟩ := h
  kernel_rfl
theorem d8x {v : Value} (w : World) : (Instr.makeInterface 78 v).run Tryz.prog w = .ok (.iface 78 v) w := by kernel_rfl
theorem d6w (args : Array Value) (w : World) : (callFunc 109 args).run Tryz.prog w = .ok (.enter 109 args) w := by kernel_rfl
theorem st_3 (x : Int) (a : Addr) (w : World) : (Instr.storeAt 3 (.pointer (some a)) (.int .i64 x)).run Tryz.prog w = (storeCells a [Value.int .i64 x]).run Tryz.prog w := by kernel_rfl
theorem d9l (x : Int) : ∀ u ∈ [Value.int .i64 x], u.oneCell' = true := by simp [Value.oneCell']; try exact rfl
end Go.PL.Mk
namespace Go.PL.Mk
open Go Go.PL Go.Proofs
set_option maxHeartbeats 4000000 in
theorem b5y {w0 : World} (s_ : Span) {r : Span} (hF : spans_clamp s_ = some r) :
    Calls Tryz.prog 108 #[Span.val s_] w0 fun e w1 => e = .returned (Span.val r) /\ Ext noG w0 w1 := by
  refine (Calls.start (P := Tryz.prog) (args := [Span.val s_]) (R := fun v w1 => v = Span.val r /\ Ext noG w0 w1) (n := 10) (w := w0) Tryz.func108 rfl rfl (Nat.le_of_ble_eq_true rfl) (fun ρ hargs => ?_)).mono (fun e w1 ⟨v, he, hv, hE⟩ => ⟨hv ▸ he, hE⟩)
  have h0 := hargs 0 _ rfl
  have hW := Ext.refl noG w0
  rw [spans_clamp] at hF
  refine WP.seq (WP.regionN mixed ⟨[[], []], [[], []], [[0], []], [], [], [(0, 1), (1, 2)], []⟩ [(1, fun u wz => ∃ b, u = .pointer (some ⟨b, 0, none⟩) /\ w0.heap.size <= b /\ Mb wz b 56 (Span.cells s_)), (2, fun u wz => ∃ b, u = .pointer (some ⟨b, 0, none⟩) /\ w0.heap.size <= b /\ Mb wz b 56 (Span.cells (⟨0, 0⟩ : Span)))] (fun b => w0.heap.size <= b) (by kernel_rfl) (.inr (fun _ h => h)) ⟨b1s.box, b1s.box, trivial⟩ ⟨fun ρz wz hE hA ⟨e0, _⟩ _ => b9r rfl rfl rfl hE (d8v (e0.trans h0) (d95 _ _)),
 fun ρz wz hE hA _ _ => b9r rfl rfl rfl hE (b8i (d5j _)), trivial⟩ ?_)
  intro ρ1 w1 hE hN hf hr hdist
  have hN := hE.fresh
  obtain ⟨b1_, h1, hge_b1_, Hb_b1_⟩ := hf 0 rfl
  obtain ⟨b2_, h2, hge_b2_, Hb_b2_⟩ := hf 1 rfl
  have hB_b1_ : w0.heap.size <= b1_ := Nat.le_trans hW.size hge_b1_
  have hB_b2_ : w0.heap.size <= b2_ := Nat.le_trans hW.size hge_b2_
  have hne_b1__b2_ : b1_ ≠ b2_ := fun h => hdist (0, 1) (by simp) (1, 2) (by simp) (by decide) b1_ (by rw [h1]; rfl) (by rw [h2, h]; rfl)
  have hW := hW.trans hN
  refine WP.seq (WP.region mixed [[], [0], [1], [], [3], [4], [2, 5], [1, 4, 6]] [[], [0], [1], [], [3], [4], [2, 5], [6]] [[1], [], [], [1], [], [], [], [2]] [7] [] [val 3 (.pointer (some ((⟨b1_, 0, none⟩ : Addr).add 0))), val 4 (.int .i64 s_.From), val 5 (.int .i64 (max s_.From 0)), val 6 (.pointer (some ((⟨b1_, 0, none⟩ : Addr).add 1))), val 7 (.int .i64 s_.To), val 8 (.int .i64 (min s_.To 73049)), val 9 (Span.val (⟨max s_.From 0, min s_.To 73049⟩ : Span)), (2, fun _ wz => Mb wz b2_ 56 (Span.cells (⟨max s_.From 0, min s_.To 73049⟩ : Span)))] (fun x => x = b2_) (by kernel_rfl) ⟨sV, sV, sV, sV, sV, sV, sV, fun _ _ _ hE hM => hM.exn hE, trivial⟩ ⟨fun ρz wz hE hA ⟨e1, _⟩ _ => c7 rfl rfl (q8 (e1.trans h1) (b4g _ _)),
 fun ρz wz hE hA _ ⟨u0, _⟩ => c7 rfl rfl (a3e u0 (a09 (c9x _ _) (CA.sub ((Hb_b1_.exn (hA rfl)).ca) 0 1))),
 fun ρz wz hE hA _ ⟨u1, _⟩ => c7 rfl rfl (c7v u1 rfl),
 fun ρz wz hE hA ⟨e1, _⟩ _ => c7 rfl rfl (q8 (e1.trans h1) (b1v _ _)),
 fun ρz wz hE hA _ ⟨u3, _⟩ => c7 rfl rfl (a3e u3 (a09 (c9x _ _) (CA.sub ((Hb_b1_.exn (hA rfl)).ca) 1 1))),
 fun ρz wz hE hA _ ⟨u4, _⟩ => c7 rfl rfl (d3o u4 rfl),
 fun ρz wz hE hA _ ⟨u2, u5, _⟩ => c7 rfl rfl (c1w (b8z u2 u5) (c8q _ _ _)),
 fun ρz wz hE hA ⟨e2, _⟩ ⟨u6, _⟩ => b1h rfl rfl (fun _ h => h) (e2.trans h2) u6 (Hb_b2_.exn (hA rfl)) (fun a w => d0h _ a w) rfl (b6c _), trivial⟩ ?_)
  intro ρ2 w2 hE hN hf hr
  have h2 := (hr 2 rfl).trans h2
  have Hb_b2_n := hf 7 rfl
  have hW := Ext.own hW hE (fun x h => h.symm ▸ hB_b2_)
  have Hb_b2_ := Hb_b2_n
  refine WP.ret ?_
  show d2d Tryz.prog 10 Tryz.f108 (fun v w1 => v = Span.val r /\ Ext noG w0 w1) .ret ρ2 w2
  obtain rfl := Option.some.inj hF
  exact resC rfl (by decide) h2 (a59 (cs := (Span.cells (⟨max s_.From 0, min s_.To 73049⟩ : Span))) (c5p _ _) rfl Hb_b2_.ca) ⟨rfl, hW⟩
set_option maxHeartbeats 4000000 in
theorem c8z {w0 : World} (i_ : Int) (j_ : Int) (c_ : List Span) {bc2_ : Nat} {v_c_ : Value} (Hb_bc2_ : Mb w0 bc2_ 78 [v_c_]) (H_c_ : d5 Span.R noG w0 v_c_ c_) {r : Bool} (hF : b2k i_ j_ c_ = some r) :
    Calls Tryz.prog 110 #[.int .i64 i_, .int .i64 j_, .pointer (some ⟨bc2_, 0, none⟩)] w0 fun e w1 => e = .returned (.bool r) /\ Ext noG w0 w1 := by
  refine (Calls.start (P := Tryz.prog) (args := [.int .i64 i_, .int .i64 j_, .pointer (some ⟨bc2_, 0, none⟩)]) (R := fun v w1 => v = .bool r /\ Ext noG w0 w1) (n := 17) (w := w0) Tryz.func110 rfl rfl (Nat.le_of_ble_eq_true rfl) (fun ρ hargs => ?_)).mono (fun e w1 ⟨v, he, hv, hE⟩ => ⟨hv ▸ he, hE⟩)
  have h0 := hargs 0 _ rfl
  have h1 := hargs 1 _ rfl
  have h2 := hargs 2 _ rfl
  have hW := Ext.refl noG w0
  obtain ⟨_, _, hs_H_c_, _, _⟩ := d5.shape H_c_
  have H_c_ := H_c_.start
  rw [b2k] at hF
  refine WP.seq (WP.rb mixed [[]] [[]] [(5, .bool false)] (by kernel_rfl) ⟨aC rfl rfl (fun _ => rfl), trivial⟩ ?_)
  intro ρ1 w1 hN hf hr
  obtain ⟨h0, h1, h2⟩ := k3 hr h0 h1 h2 rfl
  have Hb_bc2_n := Hb_bc2_.exn hN
  have H_c_ := H_c_.exn hN
  have hW := hW.trans hN
  have Hb_bc2_ := Hb_bc2_n
  refine WP.seq ?_
  obtain ⟨y, hy, hF⟩ := b12 hF
  obtain ⟨ay, cy, hvy, hiy, hAy⟩ := d5.getF H_c_ hy
  obtain ⟨y2, hy2, hF⟩ := b12 hF
  obtain ⟨ay2, cy2, hvy2, hiy2, hAy2⟩ := d5.getF H_c_ hy2
  refine WP.rb mixed [[], [], [0, 1], [2], [3], [], [], [5, 6], [7], [8], [4, 9], [10]] [[2], [0], [], [], [], [2], [1], [], [], [], [], []] [(6, v_c_), (7, .int .i64 i_), (8, .pointer (some (ay.add (Int.toNat i_ * 2)))), (9, .pointer (some ((ay.add (Int.toNat i_ * 2)).add 0))), (10, .int .i64 y.From), (11, v_c_), (12, .int .i64 j_), (13, .pointer (some (ay2.add (Int.toNat j_ * 2)))), (14, .pointer (some ((ay2.add (Int.toNat j_ * 2)).add 0))), (15, .int .i64 y2.From), (16, .bool (decide (y.From < y2.From))), (5, .bool (decide (y.From < y2.From)))] (by kernel_rfl) ⟨fun ρz wz hE hA ⟨e2, _⟩ _ => c7 rfl rfl (a3e (e2.trans h2) (a09 (c7r _ _) ((Hb_bc2_.exn (hA rfl)).ca))),
 mE rfl rfl h0,
 fun ρz wz hE hA _ ⟨u0, u1, _⟩ => c7 rfl rfl (a0k (u0.trans hvy) u1 (c1a hiy)),
 fun ρz wz hE hA _ ⟨u2, _⟩ => c7 rfl rfl (q8 u2 (b4g _ _)),
 fun ρz wz hE hA _ ⟨u3, _⟩ => c7 rfl rfl (a3e u3 (a09 (c9x _ _) (CA.sub ((hAy.exn (hA rfl)).ca) 0 1))),
 fun ρz wz hE hA ⟨e2, _⟩ _ => c7 rfl rfl (a3e (e2.trans h2) (a09 (c7r _ _) ((Hb_bc2_.exn (hA rfl)).ca))),
 mE rfl rfl h1,
 fun ρz wz hE hA _ ⟨u5, u6, _⟩ => c7 rfl rfl (a0k (u5.trans hvy2) u6 (c1a hiy2)),
 fun ρz wz hE hA _ ⟨u7, _⟩ => c7 rfl rfl (q8 u7 (b4g _ _)),
 fun ρz wz hE hA _ ⟨u8, _⟩ => c7 rfl rfl (a3e u8 (a09 (c9x _ _) (CA.sub ((hAy2.exn (hA rfl)).ca) 0 1))),
 fun ρz wz hE hA _ ⟨u4, u9, _⟩ => c7 rfl rfl (c6x u4 u9 rfl),
 aU rfl rfl rfl, trivial⟩ ?_
  intro ρ2 w2 hN hf hr
  have h5 := hv hf 11 rfl rfl
  have hW := hW.trans hN
  refine WP.ret ?_
  show d2d Tryz.prog 17 Tryz.f110 (fun v w1 => v = .bool r /\ Ext noG w0 w1) .ret ρ2 w2
  obtain rfl := Option.some.inj hF
  exact res1 rfl (by decide) h5 ⟨rfl, hW⟩
set_option maxHeartbeats 4000000 in
theorem spans_Make_ok {w0 : World} (d_ : List Span) {v_d_ : Value} (H_d_ : d5 Span.R noG w0 v_d_ d_) {r : (List Span)} (hF : spans_Make d_ = some r) :
    Calls Tryz.prog 60 #[v_d_] w0 fun e w1 => ∃ v, e = .returned v /\ Ext noG w0 w1 /\ Own w0.heap.size 56 2 Span.cells w1 v r := by
  refine (Calls.start (P := Tryz.prog) (args := [v_d_]) (R := fun v w1 => Own w0.heap.size 56 2 Span.cells w1 v r /\ Ext noG w0 w1) (n := 73) (w := w0) Tryz.func60 rfl rfl (Nat.le_of_ble_eq_true rfl) (fun ρ hargs => ?_)).mono (fun e w1 ⟨v, he, hv, hE⟩ => ⟨v, he, hE, hv⟩)
  have h0 := hargs 0 _ rfl
  have hW := Ext.refl noG w0
  obtain ⟨_, _, hs_H_d_, _, _⟩ := d5.shape H_d_
  have H_d_ := H_d_.start
  rw [spans_Make] at hF
  refine WP.seq (WP.rb mixed [[]] [[]] [(2, .slice none 0 0)] (by kernel_rfl) ⟨aC rfl rfl (fun _ => rfl), trivial⟩ ?_)
  intro ρ1 w1 hN hf hr
  have h0 := (hr 0 rfl).trans h0
  have H_d_ := H_d_.exn hN
  have hW := hW.trans hN
  refine WP.seq (WP.rg mixed [[]] [[]] [[]] [(3, fun u wz => ∃ b, u = .pointer (some ⟨b, 0, none⟩) /\ w1.heap.size <= b /\ Mb wz b 78 [Value.slice none 0 0])] (by kernel_rfl) ⟨fun _ _ _ hE ⟨b, hb, hs, hM⟩ => ⟨b, hb, hs, hM.exn hE⟩, trivial⟩ ⟨fun ρz wz hE hA _ _ => b7k rfl rfl hE (b8i (d9h _)), trivial⟩ ?_)
  intro ρ2 w2 hN hf hr
  obtain ⟨b3_, h3, hge_b3_, Hb_b3_⟩ := hf 0 rfl
  have h0 := (hr 0 rfl).trans h0
  have H_d_ := H_d_.exn hN
  have hB_b3_ : w0.heap.size <= b3_ := Nat.le_trans hW.size hge_b3_
  have hW := hW.trans hN
  have OB_b3_ : Own w0.heap.size 56 2 Span.cells w2 (.slice none 0 0) [] := Own.nil _ _ _ _ _
  have hnb_OB_b3__b3_ : Value.ownBlock (.slice none 0 0) ≠ some b3_ := by simp [Value.ownBlock]
  refine WP.seq (WP.seq (WP.rb mixed [[], [0], []] [[0], [], []] [(10, v_d_), (11, .int .i64 (d_.length : Int)), (12, .int .i64 0)] (by kernel_rfl) ⟨mE rfl rfl h0,
 fun ρz wz hE hA _ ⟨u0, _⟩ => c7 rfl rfl (c95 (u0.trans hs_H_d_) c6g),
 mC rfl rfl (fun _ => rfl), trivial⟩ ?_))
  intro ρ3 w3 hN hf hr
  have h10 := hv hf 0 rfl rfl
  have h11 := hv hf 1 rfl rfl
  have h12 := hv hf 2 rfl rfl
  have h3 := (hr 3 rfl).trans h3
  have Oo_OB_b3_ := OB_b3_
  have Hb_b3_n := Hb_b3_.exn hN
  have H_d_ := H_d_.exn hN
  have hW := hW.trans hN
  have OB_b3_ : Own w0.heap.size 56 2 Span.cells w3 (.slice none 0 0) [] := Own.nil _ _ _ _ _
  have hnb_OB_b3__b3_ : Value.ownBlock (.slice none 0 0) ≠ some b3_ := by simp [Value.ownBlock]
  have Hb_b3_ := Hb_b3_n
  refine WP.block (WP.loop (fun k_ ρ w => ∃ x : Int, ∃ v : List Span, ∃ vh_ : Value, ρ 3 = .pointer (some ⟨b3_, 0, none⟩) /\ ρ 10 = v_d_ /\ ρ 11 = .int .i64 (d_.length : Int) /\ ρ 12 = .int .i64 x /\ Mb w b3_ 78 [vh_] /\ d5 Span.R (gfr noG w0) w v_d_ d_ /\ Own w0.heap.size 56 2 Span.cells w vh_ v /\ Value.ownBlock vh_ ≠ some b3_ /\ Ext noG w0 w /\ j6 k_ (spans_Make_l d_) (x, v) = some r) FU ⟨0, [], .slice none 0 0, h3, h10, h11, h12, Hb_b3_, H_d_, OB_b3_, hnb_OB_b3__b3_, hW, hF⟩ (fun _ _ h => by obtain ⟨_, _, _, _, _, _, _, _, _, _, _, _, h⟩ := h; cases h) ?_)
  rintro k_ ρ4 w4 ⟨x, v, vh_, h3, h10, h11, h12, Hb_b3_, H_d_, OB_b3_, hnb_OB_b3__b3_, hW, hF⟩
  have hF : spans_Make_l d_ (j6 k_ (spans_Make_l d_)) (x, v) = some r := hF
  generalize hrec_ : j6 k_ (spans_Make_l d_) = rec_ at hF
  rw [spans_Make_l] at hF
  refine WP.seq (WP.rb mixed [[]] [[12, 11]] [(13, .bool (decide (x < (d_.length : Int))))] (by kernel_rfl) ⟨fun ρz wz hE hA ⟨e12, e11, _⟩ _ => c7 rfl rfl (c6x (e12.trans h12) (e11.trans h11) rfl), trivial⟩ ?_)
  intro ρ5 w5 hN hf hr
  have h13 := hv hf 0 rfl rfl
  obtain ⟨h3, h10, h11, h12⟩ := k4 hr h3 h10 h11 h12 rfl
  have Oo_OB_b3_ := OB_b3_
  have Hb_b3_n := Hb_b3_.exn hN
  have H_d_ := H_d_.exn hN
  have hW := hW.trans hN
  have OB_b3_ := Oo_OB_b3_.exn hN
  have Hb_b3_ := Hb_b3_n
  refine WP.seq (WP.cond rfl h13 (fun hb => ?_) (fun hb => ?_))
  . have hF := (if_pos hb).symm.trans hF
    refine WP.skip (WP.seqJ (fun ρ w => ∃ v2 : List Span, ∃ vh_2 : Value, ρ 3 = .pointer (some ⟨b3_, 0, none⟩) /\ ρ 10 = v_d_ /\ ρ 11 = .int .i64 (d_.length : Int) /\ ρ 12 = .int .i64 x /\ Mb w b3_ 78 [vh_2] /\ d5 Span.R (gfr noG w0) w v_d_ d_ /\ Own w0.heap.size 56 2 Span.cells w vh_2 v2 /\ Value.ownBlock vh_2 ≠ some b3_ /\ Ext noG w0 w /\ spans_Make_j x rec_ v2 = some r) ?_ ?_)
    . refine WP.block (WP.seq ?_)
      obtain ⟨y, hy, hF⟩ := b12 hF
      obtain ⟨ay, cy, hvy, hiy, hAy⟩ := d5.getF H_d_ hy
      refine WP.region mixed [[], [0], [], [1, 2]] [[], [0], [], [1, 2]] [[10, 12], [], [], []] [3] [(2, 3)] [val 14 (.pointer (some (ay.add (Int.toNat x * 2)))), val 15 (Span.val y), (5, fun u wz => ∃ b, u = .pointer (some ⟨b, 0, none⟩) /\ w5.heap.size <= b /\ Mb wz b 56 (Span.cells (⟨0, 0⟩ : Span))), (5, fun u wz => ∃ b, u = .pointer (some ⟨b, 0, none⟩) /\ w5.heap.size <= b /\ Mb wz b 56 (Span.cells y))] (fun b => w5.heap.size <= b) (by kernel_rfl) ⟨sV, sV, fun _ _ _ hE ⟨b, hb, hs, hM⟩ => ⟨b, hb, hs, hM.exn hE⟩, fun _ _ _ hE ⟨b, hb, hs, hM⟩ => ⟨b, hb, hs, hM.exn hE⟩, trivial⟩ ⟨fun ρz wz hE hA ⟨e10, e12, _⟩ _ => c7 rfl rfl (a0k ((e10.trans h10).trans hvy) (e12.trans h12) (c1a hiy)),
 fun ρz wz hE hA _ ⟨u0, _⟩ => c7 rfl rfl (a3e u0 (a59 (cs := (Span.cells y)) (c5p _ _) rfl ((hAy.exn hE.fresh).ca))),
 fun ρz wz hE hA _ _ => b7k rfl rfl hE (b8i (d5j _)),
 fun ρz wz hE hA _ ⟨u1, u2, _⟩ => b13 rfl rfl rfl rfl u1 u2 (fun a w => d0h _ a w) rfl (b6c _), trivial⟩ ?_
      intro ρ8 w8 hE hN hf hr
      have hN := hE.fresh
      obtain ⟨b5_, h5, hge_b5_, Hb_b5_⟩ := hf 3 rfl
      obtain ⟨h3, h10, h11, h12⟩ := k4 hr h3 h10 h11 h12 rfl
      have Oo_OB_b3_ := OB_b3_
      have Hb_b3_n := Hb_b3_.exn hN
      have H_d_ := H_d_.exn hN
      have hB_b5_ : w0.heap.size <= b5_ := Nat.le_trans hW.size hge_b5_
      have hne_b3__b5_ : b3_ ≠ b5_ := Nat.ne_of_lt (Nat.lt_of_lt_of_le Hb_b3_.lt hge_b5_)
      have hW := hW.trans hN
      have OB_b3_ := Oo_OB_b3_.exn hN
      have hnb_OB_b3__b5_ : Value.ownBlock vh_ ≠ some b5_ := fun h => absurd (Oo_OB_b3_.lt h).2 (Nat.not_lt.2 hge_b5_)
      have Hb_b3_ := Hb_b3_n
      refine WP.seq ?_
      obtain ⟨z, hz, hF⟩ := b12 hF
      refine WP.region mixed [[], [0], [0, 1]] [[], [0], [1]] [[5], [], [5]] [2] [] [val 16 (Span.val y), val 17 (Span.val z), (5, fun _ wz => Mb wz b5_ 56 (Span.cells z))] (fun x => x = b5_) (by kernel_rfl) ⟨sV, sV, fun _ _ _ hE hM => hM.exn hE, trivial⟩ ⟨fun ρz wz hE hA ⟨e5, _⟩ _ => c7 rfl rfl (a3e (e5.trans h5) (a59 (cs := (Span.cells y)) (c5p _ _) rfl ((Hb_b5_.exn (hA rfl)).ca))),
 fun ρz wz hE hA _ ⟨u0, _⟩ => c6z rfl (b6z u0) d7n (b5y  _  hz),
 fun ρz wz hE hA ⟨e5, _⟩ ⟨u1, _⟩ => b1h rfl rfl (fun _ h => h) (e5.trans h5) u1 (Hb_b5_.exn (hA rfl)) (fun a w => d0h _ a w) rfl (b6c _), trivial⟩ ?_
      intro ρ9 w9 hE hN hf hr
      obtain ⟨h3, h10, h11, h12, h5⟩ := k5 hr h3 h10 h11 h12 h5 rfl
      have Oo_OB_b3_ := OB_b3_
      have Hb_b3_n := Hb_b3_.ext hE (fun h => hne_b3__b5_ h)
      have Hb_b5_n := hf 2 rfl
      have H_d_ := H_d_.over hE (fun b hb => hb.symm ▸ hB_b5_)
      have hW := Ext.own hW hE (fun x h => h.symm ▸ hB_b5_)
      have OB_b3_ := Oo_OB_b3_.ext hE (fun b hb hg => hnb_OB_b3__b5_ (hg ▸ hb))
      have Hb_b3_ := Hb_b3_n
      have Hb_b5_ := Hb_b5_n
      refine WP.seq (WP.rb mixed [[], [0], [], [2], [1, 3]] [[5], [], [5], [], []] [(18, .pointer (some ((⟨b5_, 0, none⟩ : Addr).add 0))), (19, .int .i64 z.From), (20, .pointer (some ((⟨b5_, 0, none⟩ : Addr).add 1))), (21, .int .i64 z.To), (22, .bool (decide (z.From < z.To)))] (by kernel_rfl) ⟨fun ρz wz hE hA ⟨e5, _⟩ _ => c7 rfl rfl (q8 (e5.trans h5) (b4g _ _)),
 fun ρz wz hE hA _ ⟨u0, _⟩ => c7 rfl rfl (a3e u0 (a09 (c9x _ _) (CA.sub ((Hb_b5_.exn (hA rfl)).ca) 0 1))),
 fun ρz wz hE hA ⟨e5, _⟩ _ => c7 rfl rfl (q8 (e5.trans h5) (b1v _ _)),
 fun ρz wz hE hA _ ⟨u2, _⟩ => c7 rfl rfl (a3e u2 (a09 (c9x _ _) (CA.sub ((Hb_b5_.exn (hA rfl)).ca) 1 1))),
 fun ρz wz hE hA _ ⟨u1, u3, _⟩ => c7 rfl rfl (c6x u1 u3 rfl), trivial⟩ ?_)
      intro ρ10 w10 hN hf hr
      have h22 := hv hf 4 rfl rfl
      obtain ⟨h3, h10, h11, h12, h5⟩ := k5 hr h3 h10 h11 h12 h5 rfl
      have Oo_OB_b3_ := OB_b3_
      have Hb_b3_n := Hb_b3_.exn hN
      have Hb_b5_n := Hb_b5_.exn hN
      have H_d_ := H_d_.exn hN
      have hW := hW.trans hN
      have OB_b3_ := Oo_OB_b3_.exn hN
      have Hb_b3_ := Hb_b3_n
      have Hb_b5_ := Hb_b5_n
      refine WP.cond rfl h22 (fun hb => ?_) (fun hb => ?_)
      . have hF := (if_pos hb).symm.trans hF
        obtain ⟨l, hl, hF⟩ := b12 hF
        refine WP.region mixed [[], [], [1], [0, 1, 2], [0, 1, 3]] [[], [], [1], [0, 2], [3]] [[3], [5], [], [], [3]] [3, 4] [(3, 4)] [val 23 (vh_), val 24 (Span.val z), (25, fun u wz => ∃ b, u = .slice (some ⟨b, 0, none⟩) 1 1 /\ w10.heap.size <= b /\ Mb wz b 56 (([z]).flatMap Span.cells)), (26, fun u wz => (Own w0.heap.size 56 2 Span.cells wz u l /\ ∀ b, u.ownBlock = some b -> (vh_.ownBlock = some b \/ w10.heap.size <= b)) /\ Mb wz b3_ 78 [(vh_ : Value)]), (26, fun u wz => Mb wz b3_ 78 [(u : Value)] /\ Own w0.heap.size 56 2 Span.cells wz u l /\ ∀ b, u.ownBlock = some b -> (vh_.ownBlock = some b \/ w10.heap.size <= b))] (fun x => Value.ownBlock vh_ = some x \/ x = b3_) (by kernel_rfl) ⟨sV, sV, fun _ _ _ hE ⟨b, hz, hs, hM⟩ => ⟨b, hz, hs, hM.ext hE (fun h => h.elim (fun h => absurd (OB_b3_.lt h).2 (Nat.not_lt.2 hs)) (fun h => absurd (h ▸ Hb_b3_.lt) (Nat.not_lt.2 hs)))⟩, fun _ _ _ hE ⟨⟨hO, hf⟩, hM⟩ => ⟨⟨hO.exn hE, hf⟩, hM.exn hE⟩, fun _ _ _ hE ⟨h1, h2, h3⟩ => ⟨h1.exn hE, h2.exn hE, h3⟩, trivial⟩ ⟨fun ρz wz hE hA ⟨e3, _⟩ _ => c7 rfl rfl (a3e (e3.trans h3) (a09 (c7r _ _) ((Hb_b3_.exn (hA rfl)).ca))),
 fun ρz wz hE hA ⟨e5, _⟩ _ => c7 rfl rfl (a3e (e5.trans h5) (a59 (cs := (Span.cells z)) (c5p _ _) rfl ((Hb_b5_.exn (hA rfl)).ca))),
 fun ρz wz hE hA _ ⟨u1, _⟩ => b6u rfl rfl hE (b30 (b2l u1) (c8u _ _)),
 fun ρz wz hE hA _ ⟨u0, ⟨bz2, hzn2, hge2, hM2⟩, _⟩ => b9w (n := 2) (cells := Span.cells) (B := w0.heap.size) (w0 := w10) rfl rfl (fun b hb => .inl hb) u0 hzn2 (fun _ => rfl) b6c d7t d6n (by decide) (by decide) (OB_b3_.exn (hA rfl)) ⟨_, (Mb.rep (n := 2) (cells := Span.cells) (hn := fun _ => rfl) (G := noG) hM2 rfl (Nat.le_of_ble_eq_true rfl) (fun h => h))⟩ hl (Nat.le_trans hW.size hE.size) hE.size (fun v1 w1 hE1 h1 h2 => ⟨⟨h1, h2⟩, (Hb_b3_.exn (hA rfl)).ext hE1 (fun h => hnb_OB_b3__b3_ h)⟩),
 fun ρz wz hE hA ⟨e3, _⟩ ⟨⟨⟨hO3, hfr3⟩, hMb3⟩, _⟩ => c1b (k := 0) (vs := [ρz 26]) (cs0 := [(vh_ : Value)]) rfl rfl (fun _ h => .inr h) (e3.trans h3) (d8y _) rfl hMb3 (d7k (Own.shp hO3)) (Nat.le_of_ble_eq_true rfl) rfl (d43 (c4h (Own.shp hO3))) (fun w1 hE1 hM => ⟨hM, hO3.ext hE1 (fun b1 hb h0 => by have h1 := h0 ▸ hb; exact (hfr3 _ h1).elim (fun h => hnb_OB_b3__b3_ h) (fun h => absurd Hb_b3_.lt (Nat.not_lt.2 h))), hfr3⟩), trivial⟩ ?_
        intro ρ11 w11 hE hN hf hr
        obtain ⟨h3, h10, h11, h12⟩ := k4 hr h3 h10 h11 h12 rfl
        obtain ⟨vb_, hvx⟩ : ∃ v, ρ11 26 = v := ⟨_, rfl⟩
        have hqx : (fun (u : Value) (wz : World) => Mb wz b3_ 78 [(u : Value)] /\ Own w0.heap.size 56 2 Span.cells wz u l /\ ∀ b, u.ownBlock = some b -> (vh_.ownBlock = some b \/ w10.heap.size <= b)) (ρ11 26) w11 := hf 4 rfl
        rw [hvx] at hqx
        obtain ⟨Hbx, OBx_vb_, hfr_vb_⟩ := hqx
        have Oo_OB_b3_ := OB_b3_
        have H_d_ := H_d_.over hE (fun b h => h.elim (fun h => (Oo_OB_b3_.lt h).1) (fun h => h.symm ▸ hB_b3_))
        have hW := Ext.own hW hE (fun x h => h.elim (fun h => (Oo_OB_b3_.lt h).1) (fun h => h.symm ▸ hB_b3_))
        have hnb_OB_b3__b3_ : Value.ownBlock vb_ ≠ some b3_ := fun h1 => (hfr_vb_ _ h1).elim (fun h => hnb_OB_b3__b3_ h) (fun h => absurd Hb_b3_.lt (Nat.not_lt.2 h))
        have Hb_b3_ := Hbx
        have OB_b3_ := OBx_vb_
        exact ⟨l, vb_, h3, h10, h11, h12, Hb_b3_, H_d_, OB_b3_, hnb_OB_b3__b3_, hW, hF⟩
      have hF := (if_neg (Bool.eq_false_iff.1 hb)).symm.trans hF
      refine WP.skip ?_
      exact ⟨v, vh_, h3, h10, h11, h12, Hb_b3_, H_d_, OB_b3_, hnb_OB_b3__b3_, hW, hF⟩
    rintro ρ6 w6 ⟨v2, vh_2, h3, h10, h11, h12, Hb_b3_, H_d_, OB_b3_, hnb_OB_b3__b3_, hW, hF⟩
    rw [spans_Make_j] at hF
    refine WP.rb mixed [[], [0]] [[12], []] [(27, .int .i64 (i64 (x + 1))), (12, .int .i64 (i64 (x + 1)))] (by kernel_rfl) ⟨fun ρz wz hE hA ⟨e12, _⟩ _ => c7 rfl rfl (d5b (e12.trans h12) rfl rfl),
 mU rfl rfl rfl, trivial⟩ ?_
    intro ρ7 w7 hN hf hr
    have h12 := hv hf 1 rfl rfl
    obtain ⟨h3, h10, h11⟩ := k3 hr h3 h10 h11 rfl
    have Oo_OB_b3_ := OB_b3_
    have Hb_b3_n := Hb_b3_.exn hN
    have H_d_ := H_d_.exn hN
    have hW := hW.trans hN
    have OB_b3_ := Oo_OB_b3_.exn hN
    have Hb_b3_ := Hb_b3_n
    exact ⟨i64 (x + 1), v2, vh_2, h3, h10, h11, h12, Hb_b3_, H_d_, OB_b3_, hnb_OB_b3__b3_, hW, (by first | exact hF | (rw [hrec_]; exact hF))⟩
  have hF := (if_neg (Bool.eq_false_iff.1 hb)).symm.trans hF
  refine WP.exit (a7p (a7p (b1z (WP.seq ?_))))
  obtain ⟨z2, hz2, hF⟩ := b12 hF
  refine WP.region mixed [[], [0], [], [0, 1, 2]] [[], [0], [], [1, 2]] [[3], [], [3], []] [3] [] [val 28 (vh_), val 29 (.iface 78 vh_), val 30 (.func (.func 110) #[] #[.pointer (some ⟨b3_, 0, none⟩)]), (31, fun u wz => u = .tuple #[] /\ Own w0.heap.size 56 2 Span.cells wz vh_ z2)] (fun b => Value.ownBlock vh_ = some b) (by kernel_rfl) ⟨sV, sV, sV, fun _ _ _ hE ⟨h1, h2⟩ => ⟨h1, h2.exn hE⟩, trivial⟩ ⟨fun ρz wz hE hA ⟨e3, _⟩ _ => c7 rfl rfl (a3e (e3.trans h3) (a09 (c7r _ _) ((Hb_b3_.exn (hA rfl)).ca))),
 fun ρz wz hE hA _ ⟨u0, _⟩ => c7 rfl rfl (d5z u0 (d8x _)),
 fun ρz wz hE hA ⟨e3, _⟩ _ => c7 rfl rfl (b6f (b6z (e3.trans h3))),
 fun ρz wz hE hA _ ⟨u1, u2, _⟩ => c4p rfl rfl (fun _ h => h) (c4k u1 u2) d6w (b25 _ (OB_b3_.exn (hA rfl)) (Hb_b3_.exn (hA rfl)) hnb_OB_b3__b3_ hz2), trivial⟩ ?_
  intro ρ12 w12 hE hN hf hr
  have h3 := (hr 3 rfl).trans h3
  have Oo_OB_b3_ := OB_b3_
  have Hb_b3_n := Hb_b3_.ext hE (fun h => hnb_OB_b3__b3_ h)
  have hW := Ext.own hW hE (fun b hb => (Oo_OB_b3_.lt hb).1)
  have OB_b3_ := (hf 3 rfl).2
  have Hb_b3_ := Hb_b3_n
  refine WP.seq (WP.rb mixed [[]] [[]] [(6, .slice none 0 0)] (by kernel_rfl) ⟨aC rfl rfl (fun _ => rfl), trivial⟩ ?_)
  intro ρ13 w13 hN hf hr
  have h6 : ρ13 6 = .slice none 0 0 := hf 0 rfl
  have O6 : Own w0.heap.size 56 2 Span.cells w13 (.slice none 0 0) [] := Own.nil _ _ _ _ _
  have h3 := (hr 3 rfl).trans h3
  have Oo_OB_b3_ := OB_b3_
  have Hb_b3_n := Hb_b3_.exn hN
  have hW := hW.trans hN
  have O6 : Own w0.heap.size 56 2 Span.cells w13 (.slice none 0 0) [] := Own.nil _ _ _ _ _
  have OB_b3_ := Oo_OB_b3_.exn hN
  have hnb_O6_b3_ : Value.ownBlock (.slice none 0 0) ≠ some b3_ := by simp [Value.ownBlock]
  have hdd_O6_OB_b3_ : ∀ b, Value.ownBlock (.slice none 0 0) = some b -> Value.ownBlock vh_ ≠ some b := fun b h => by simp [Value.ownBlock] at h
  have Hb_b3_ := Hb_b3_n
  refine WP.seq (WP.seq (WP.rb mixed [[], [0], []] [[3], [], []] [(32, vh_), (33, .int .i64 (z2.length : Int)), (34, .int .i64 0)] (by kernel_rfl) ⟨fun ρz wz hE hA ⟨e3, _⟩ _ => c7 rfl rfl (a3e (e3.trans h3) (a09 (c7r _ _) ((Hb_b3_.exn (hA rfl)).ca))),
 fun ρz wz hE hA _ ⟨u0, _⟩ => c7 rfl rfl (c95 (u0.trans (Own.shape OB_b3_).choose_spec.choose_spec.1) c6g),
 mC rfl rfl (fun _ => rfl), trivial⟩ ?_))
  intro ρ14 w14 hN hf hr
  have h32 := hv hf 0 rfl rfl
  have h33 := hv hf 1 rfl rfl
  have h34 := hv hf 2 rfl rfl
  have h6 := (hr 6 rfl).trans h6
  have Oo_O6 := O6
  have Oo_OB_b3_ := OB_b3_
  have hW := hW.trans hN
  have O6 : Own w0.heap.size 56 2 Span.cells w14 (.slice none 0 0) [] := Own.nil _ _ _ _ _
  have Hf32 : d5 Span.R (gL [d6c (.slice none 0 0)]) w14 vh_ z2 := (Oo_OB_b3_.exn hN).rep (fun b hb h => h.elim (fun h => by simp [d6c, Value.ownBlock] at h) (fun h => h.elim))
  obtain ⟨_, _, hs_Hf32, _, _⟩ := d5.shape Hf32
  refine WP.block (WP.loop (fun k_2 ρ w => ∃ x2 : List Span, ∃ x3 : Int, ∃ v6_ : Value, ρ 6 = v6_ /\ ρ 32 = vh_ /\ ρ 33 = .int .i64 (z2.length : Int) /\ ρ 34 = .int .i64 x3 /\ d5 Span.R (gL [d6c v6_]) w vh_ z2 /\ Own w0.heap.size 56 2 Span.cells w v6_ x2 /\ Ext noG w0 w /\ j6 k_2 (spans_Make_l2 z2) (x2, x3) = some r) FU ⟨[], 0, .slice none 0 0, h6, h32, h33, h34, Hf32, O6, hW, hF⟩ (fun _ _ h => by obtain ⟨_, _, _, _, _, _, _, _, _, _, h⟩ := h; cases h) ?_)
  rintro k_2 ρ15 w15 ⟨x2, x3, v6_, h6, h32, h33, h34, Hf32, O6, hW, hF⟩
  have hF : spans_Make_l2 z2 (j6 k_2 (spans_Make_l2 z2)) (x2, x3) = some r := hF
  generalize hrec_2 : j6 k_2 (spans_Make_l2 z2) = rec_2 at hF
  rw [spans_Make_l2] at hF
  refine WP.seq (WP.rb mixed [[]] [[34, 33]] [(35, .bool (decide (x3 < (z2.length : Int))))] (by kernel_rfl) ⟨fun ρz wz hE hA ⟨e34, e33, _⟩ _ => c7 rfl rfl (c6x (e34.trans h34) (e33.trans h33) rfl), trivial⟩ ?_)
  intro ρ16 w16 hN hf hr
  have h35 := hv hf 0 rfl rfl
  obtain ⟨h6, h32, h33, h34⟩ := k4 hr h6 h32 h33 h34 rfl
  have Oo_O6 := O6
  have Hf32 := Hf32.exn hN
  have hW := hW.trans hN
  have O6 := Oo_O6.exn hN
  refine WP.seq (WP.cond rfl h35 (fun hb => ?_) (fun hb => ?_))
  . have hF := (if_pos hb).symm.trans hF
    refine WP.skip (WP.seqJ (fun ρ w => ∃ x4 : List Span, ∃ v6_2 : Value, ρ 6 = v6_2 /\ ρ 32 = vh_ /\ ρ 33 = .int .i64 (z2.length : Int) /\ ρ 34 = .int .i64 x3 /\ d5 Span.R (gL [d6c v6_2]) w vh_ z2 /\ Own w0.heap.size 56 2 Span.cells w v6_2 x4 /\ Ext noG w0 w /\ spans_Make_j2 x3 rec_2 x4 = some r) ?_ ?_)
    . refine WP.block (WP.seq ?_)
      obtain ⟨y2, hy2, hF⟩ := b12 hF
      obtain ⟨ay2, cy2, hvy2, hiy2, hAy2⟩ := d5.getF Hf32 hy2
      refine WP.region mixed [[], [0], [], [1, 2]] [[], [0], [], [1, 2]] [[32, 34], [], [], []] [3] [(2, 3)] [val 36 (.pointer (some (ay2.add (Int.toNat x3 * 2)))), val 37 (Span.val y2), (8, fun u wz => ∃ b, u = .pointer (some ⟨b, 0, none⟩) /\ w16.heap.size <= b /\ Mb wz b 56 (Span.cells (⟨0, 0⟩ : Span))), (8, fun u wz => ∃ b, u = .pointer (some ⟨b, 0, none⟩) /\ w16.heap.size <= b /\ Mb wz b 56 (Span.cells y2))] (fun b => w16.heap.size <= b) (by kernel_rfl) ⟨sV, sV, fun _ _ _ hE ⟨b, hb, hs, hM⟩ => ⟨b, hb, hs, hM.exn hE⟩, fun _ _ _ hE ⟨b, hb, hs, hM⟩ => ⟨b, hb, hs, hM.exn hE⟩, trivial⟩ ⟨fun ρz wz hE hA ⟨e32, e34, _⟩ _ => c7 rfl rfl (a0k ((e32.trans h32).trans hvy2) (e34.trans h34) (c1a hiy2)),
 fun ρz wz hE hA _ ⟨u0, _⟩ => c7 rfl rfl (a3e u0 (a59 (cs := (Span.cells y2)) (c5p _ _) rfl ((hAy2.exn hE.fresh).ca))),
 fun ρz wz hE hA _ _ => b7k rfl rfl hE (b8i (d5j _)),
 fun ρz wz hE hA _ ⟨u1, u2, _⟩ => b13 rfl rfl rfl rfl u1 u2 (fun a w => d0h _ a w) rfl (b6c _), trivial⟩ ?_
      intro ρ19 w19 hE hN hf hr
      have hN := hE.fresh
      obtain ⟨b8_, h8, hge_b8_, Hb_b8_⟩ := hf 3 rfl
      obtain ⟨h6, h32, h33, h34⟩ := k4 hr h6 h32 h33 h34 rfl
      have Oo_O6 := O6
      have Hf32 := Hf32.exn hN
      have hB_b8_ : w0.heap.size <= b8_ := Nat.le_trans hW.size hge_b8_
      have hW := hW.trans hN
      have O6 := Oo_O6.exn hN
      have hnb_O6_b8_ : Value.ownBlock v6_ ≠ some b8_ := fun h => absurd (Oo_O6.lt h).2 (Nat.not_lt.2 hge_b8_)
      refine WP.seq (WP.rb mixed [[], [0], [1]] [[6], [], []] [(38, v6_), (39, .int .i64 (x2.length : Int)), (9, .int .i64 (x2.length : Int))] (by kernel_rfl) ⟨mE rfl rfl h6,
 fun ρz wz hE hA _ ⟨u0, _⟩ => c7 rfl rfl (c95 (u0.trans (Own.shape O6).choose_spec.choose_spec.1) c6g),
 aU rfl rfl rfl, trivial⟩ ?_)
      intro ρ20 w20 hN hf hr
      have h9 := hv hf 2 rfl rfl
      obtain ⟨h6, h32, h33, h34, h8⟩ := k5 hr h6 h32 h33 h34 h8 rfl
      have Oo_O6 := O6
      have Hb_b8_n := Hb_b8_.exn hN
      have Hf32 := Hf32.exn hN
      have hW := hW.trans hN
      have O6 := Oo_O6.exn hN
      have Hb_b8_ := Hb_b8_n
      refine WP.seq (WP.seq ?_)
      obtain ⟨c, hc, hF⟩ := b12 hF
      obtain ⟨y3, hy3, hc⟩ := andB hc
      obtain ⟨ay3, cy3, hvy3, hiy3, hAy3⟩ := d5.getFI (Own.rep (hn := fun _ => rfl) (G := noG) O6 (fun _ _ h => h)) hy3
      have hc := andE hc
      refine WP.rb mixed [[], [0], [1], [2], [2, 3], [2], [2], [2, 6], [2, 5, 7], [2, 8], [2, 9], [2, 4, 10], [2, 11]] [[9], [], [], [8], [], [6], [9], [], [], [], [], [], []] [(40, .int .i64 (x2.length : Int)), (41, .bool (decide (0 < (x2.length : Int)))), (42, .bool (decide (0 < (x2.length : Int)))), (43, gv (decide (0 < (x2.length : Int))) (.pointer (some ((⟨b8_, 0, none⟩ : Addr).add 0)))), (44, gv (decide (0 < (x2.length : Int))) (.int .i64 y2.From)), (45, gv (decide (0 < (x2.length : Int))) v6_), (46, gv (decide (0 < (x2.length : Int))) (.int .i64 (x2.length : Int))), (47, gv (decide (0 < (x2.length : Int))) (.int .i64 (i64 ((x2.length : Int) - 1)))), (48, gv (decide (0 < (x2.length : Int))) (.pointer (some (ay3.add (Int.toNat (i64 ((x2.length : Int) - 1)) * 2))))), (49, gv (decide (0 < (x2.length : Int))) (.pointer (some ((ay3.add (Int.toNat (i64 ((x2.length : Int) - 1)) * 2)).add 1)))), (50, gv (decide (0 < (x2.length : Int))) (.int .i64 y3.To)), (51, gv (decide (0 < (x2.length : Int))) (.bool (decide (y2.From <= y3.To)))), (52, .bool c)] (by kernel_rfl) ⟨mE rfl rfl h9,
 fun ρz wz hE hA _ ⟨u0, _⟩ => c7 rfl rfl (d89 u0 rfl rfl),
 mU rfl rfl rfl,
 fun ρz wz hE hA ⟨e8, _⟩ ⟨u2, _⟩ => gIf rfl rfl (yT rfl u2) fun gc F hF => c7 rfl hF (q8 (e8.trans h8) (b4g _ _)),
 fun ρz wz hE hA _ ⟨u2, u3, _⟩ => gIf rfl rfl (yT rfl u2) fun gc F hF => c7 rfl hF (a3e (gt gc u3) (a09 (c9x _ _) (CA.sub ((Hb_b8_.exn (hA rfl)).ca) 0 1))),
 fun ρz wz hE hA ⟨e6, _⟩ ⟨u2, _⟩ => gIf rfl rfl (yT rfl u2) fun gc F hF => c7 rfl hF (b72 (e6.trans h6)),
 fun ρz wz hE hA ⟨e9, _⟩ ⟨u2, _⟩ => gIf rfl rfl (yT rfl u2) fun gc F hF => c7 rfl hF (b72 (e9.trans h9)),
 fun ρz wz hE hA _ ⟨u2, u6, _⟩ => gIf rfl rfl (yT rfl u2) fun gc F hF => c7 rfl hF (d0x (gt gc u6) rfl rfl),
 fun ρz wz hE hA _ ⟨u2, u5, u7, _⟩ => gIf rfl rfl (yT rfl u2) fun gc F hF => c7 rfl hF (a0k ((gt gc u5).trans (hvy3 gc)) (gt gc u7) (c1a (hiy3 gc))),
 fun ρz wz hE hA _ ⟨u2, u8, _⟩ => gIf rfl rfl (yT rfl u2) fun gc F hF => c7 rfl hF (q8 (gt gc u8) (b1v _ _)),
 fun ρz wz hE hA _ ⟨u2, u9, _⟩ => gIf rfl rfl (yT rfl u2) fun gc F hF => c7 rfl hF (a3e (gt gc u9) (a09 (c9x _ _) (CA.sub (((hAy3 gc).exn (hA rfl)).ca) 1 1))),
 fun ρz wz hE hA _ ⟨u2, u4, u10, _⟩ => gIf rfl rfl (yT rfl u2) fun gc F hF => c7 rfl hF (d7a (gt gc u4) (gt gc u10) rfl),
 fun ρz wz hE hA _ ⟨u2, u11, _⟩ => c6c rfl rfl (congrArg Value.bool hc) (c59 u2 u11 rfl), trivial⟩ ?_
      intro ρ21 w21 hN hf hr
      have h52 := hv hf 12 rfl rfl
      obtain ⟨h6, h32, h33, h34, h8, h9⟩ := k6 hr h6 h32 h33 h34 h8 h9 rfl
      have Oo_O6 := O6
      have Hb_b8_n := Hb_b8_.exn hN
      have Hf32 := Hf32.exn hN
      have hW := hW.trans hN
      have O6 := Oo_O6.exn hN
      have Hb_b8_ := Hb_b8_n
      refine WP.cond rfl h52 (fun hb => ?_) (fun hb => ?_)
      . have hF := (if_pos hb).symm.trans hF
        refine WP.seq ?_
        obtain ⟨y4, hy4, hF⟩ := b12 hF
        obtain ⟨ay4, cy4, hvy4, hiy4, hAy4⟩ := d5.getF (Own.rep (hn := fun _ => rfl) (G := noG) O6 (fun _ _ h => h)) hy4
        obtain ⟨y5, hy5, hF⟩ := b12 hF
        obtain ⟨ay5, cy5, hvy5, hiy5, hAy5⟩ := d5.getF (Own.rep (hn := fun _ => rfl) (G := noG) O6 (fun _ _ h => h)) hy5
        refine WP.region mixed [[], [], [1], [], [], [4], [3, 5], [6], [7], [], [9], [8, 10], [0, 2], [12], [8, 10, 11, 13]] [[], [], [1], [], [], [4], [3, 5], [6], [7], [], [9], [8, 10], [0, 2], [12], [11, 13]] [[6], [9], [], [6], [9], [], [], [], [], [8], [], [], [], [], []] [14] [] [val 53 (v6_), val 54 (.int .i64 (x2.length : Int)), val 55 (.int .i64 (i64 ((x2.length : Int) - 1))), val 56 (v6_), val 57 (.int .i64 (x2.length : Int)), val 58 (.int .i64 (i64 ((x2.length : Int) - 1))), val 59 (.pointer (some (ay4.add (Int.toNat (i64 ((x2.length : Int) - 1)) * 2)))), val 60 (.pointer (some ((ay4.add (Int.toNat (i64 ((x2.length : Int) - 1)) * 2)).add 1))), val 61 (.int .i64 y4.To), val 62 (.pointer (some ((⟨b8_, 0, none⟩ : Addr).add 1))), val 63 (.int .i64 y2.To), val 64 (.int .i64 (max y4.To y2.To)), val 65 (.pointer (some (ay5.add (Int.toNat (i64 ((x2.length : Int) - 1)) * 2)))), val 66 (.pointer (some ((ay5.add (Int.toNat (i64 ((x2.length : Int) - 1)) * 2)).add 1))), (66, fun _ wz => Own w0.heap.size 56 2 Span.cells wz v6_ (b01 x2 (i64 ((x2.length : Int) - 1)) ({ y5 with To := max y4.To y2.To } : Span)))] (fun b => Value.ownBlock v6_ = some b) (by kernel_rfl) ⟨sV, sV, sV, sV, sV, sV, sV, sV, sV, sV, sV, sV, sV, sV, fun _ _ _ hE h => h.exn hE, trivial⟩ ⟨mE rfl rfl h6,
 mE rfl rfl h9,
 fun ρz wz hE hA _ ⟨u1, _⟩ => c7 rfl rfl (d0x u1 rfl rfl),
 mE rfl rfl h6,
 mE rfl rfl h9,
 fun ρz wz hE hA _ ⟨u4, _⟩ => c7 rfl rfl (d0x u4 rfl rfl),
 fun ρz wz hE hA _ ⟨u3, u5, _⟩ => c7 rfl rfl (a0k (u3.trans hvy4) u5 (c1a hiy4)),
 fun ρz wz hE hA _ ⟨u6, _⟩ => c7 rfl rfl (q8 u6 (b1v _ _)),
 fun ρz wz hE hA _ ⟨u7, _⟩ => c7 rfl rfl (a3e u7 (a09 (c9x _ _) (CA.sub ((hAy4.exn (hA rfl)).ca) 1 1))),
 fun ρz wz hE hA ⟨e8, _⟩ _ => c7 rfl rfl (q8 (e8.trans h8) (b1v _ _)),
 fun ρz wz hE hA _ ⟨u9, _⟩ => c7 rfl rfl (a3e u9 (a09 (c9x _ _) (CA.sub ((Hb_b8_.exn (hA rfl)).ca) 1 1))),
 fun ρz wz hE hA _ ⟨u8, u10, _⟩ => c7 rfl rfl (c7v u8 u10),
 fun ρz wz hE hA _ ⟨u0, u2, _⟩ => c7 rfl rfl (a0k (u0.trans hvy5) u2 (c1a hiy5)),
 fun ρz wz hE hA _ ⟨u12, _⟩ => c7 rfl rfl (q8 u12 (b1v _ _)),
 fun ρz wz hE hA _ ⟨u11, u13, _⟩ => b1n (n := 2) (off := 1) (cells := Span.cells) (y1 := ({ y5 with To := max y4.To y2.To } : Span)) (vs := [Value.int .i64 (max y4.To y2.To)]) rfl rfl (fun _ h => h) (fun _ => rfl) u13 hvy5 (Deep.add_add _ _ _) u11 (O6.exn (hA rfl)) hy5 (fun a w => st_3 _ a w) (Nat.le_of_ble_eq_true rfl) rfl (d9l _), trivial⟩ ?_
        intro ρ22 w22 hE hN hf hr
        obtain ⟨h6, h32, h33, h34⟩ := k4 hr h6 h32 h33 h34 rfl
        have Oo_O6 := O6
        have Hf32 : d5 Span.R (gL [d6c v6_]) w22 vh_ z2 := Hf32.mv hE (fun _ h => .inl (.inl h)) (fun b h => h.elim (fun h => .inl (.inl h)) (fun h => h.elim))
        have hW := Ext.own hW hE (fun b hb => (Oo_O6.lt hb).1)
        have O6 := hf 14 rfl
        refine WP.exit (a7p (b1z ?_))
        exact ⟨b01 x2 (i64 ((x2.length : Int) - 1)) ({ y5 with To := max y4.To y2.To } : Span), v6_, h6, h32, h33, h34, Hf32, O6, hW, hF⟩
      have hF := (if_neg (Bool.eq_false_iff.1 hb)).symm.trans hF
      refine WP.skip ?_
      obtain ⟨l2, hl2, hF⟩ := b12 hF
      refine WP.region mixed [[], [], [1], [0, 1, 2], [0, 3]] [[], [], [1], [0, 2], [3]] [[6], [8], [], [], []] [3] [] [val 67 (v6_), val 68 (Span.val y2), (69, fun u wz => ∃ b, u = .slice (some ⟨b, 0, none⟩) 1 1 /\ w21.heap.size <= b /\ Mb wz b 56 (([y2]).flatMap Span.cells)), (70, fun u wz => Own w0.heap.size 56 2 Span.cells wz u l2 /\ ∀ b, u.ownBlock = some b -> (v6_.ownBlock = some b \/ w21.heap.size <= b)), (6, fun u wz => Own w0.heap.size 56 2 Span.cells wz u l2 /\ ∀ b, u.ownBlock = some b -> (v6_.ownBlock = some b \/ w21.heap.size <= b))] (fun b => Value.ownBlock v6_ = some b) (by kernel_rfl) ⟨sV, sV, fun _ _ _ hE ⟨b, hz, hs, hM⟩ => ⟨b, hz, hs, hM.ext hE (fun hg => absurd (O6.lt hg).2 (Nat.not_lt.2 hs))⟩, fun _ _ _ hE ⟨hO, hf⟩ => ⟨hO.exn hE, hf⟩, fun _ _ _ hE ⟨hO, hf⟩ => ⟨hO.exn hE, hf⟩, trivial⟩ ⟨mE rfl rfl h6,
 fun ρz wz hE hA ⟨e8, _⟩ _ => c7 rfl rfl (a3e (e8.trans h8) (a59 (cs := (Span.cells y2)) (c5p _ _) rfl ((Hb_b8_.exn (hA rfl)).ca))),
 fun ρz wz hE hA _ ⟨u1, _⟩ => b6u rfl rfl hE (b30 (b2l u1) (c8u _ _)),
 fun ρz wz hE hA _ ⟨u0, ⟨bz2, hzn2, hge2, hM2⟩, _⟩ => c15 (n := 2) (cells := Span.cells) (B := w0.heap.size) (w0 := w21) rfl rfl (fun b hb => hb) u0 hzn2 (fun _ => rfl) b6c d7t d6n (by decide) (by decide) (O6.exn (hA rfl)) ⟨_, (Mb.rep (n := 2) (cells := Span.cells) (hn := fun _ => rfl) (G := noG) hM2 rfl (Nat.le_of_ble_eq_true rfl) (fun h => h))⟩ hl2 (Nat.le_trans hW.size hE.size) hE.size (fun v1 w1 h1 h2 => ⟨h1, h2⟩),
 fun ρz wz hE hA _ ⟨⟨hO3, hfr3⟩, _⟩ => c9q rfl rfl (b3d rfl) ⟨hO3, hfr3⟩, trivial⟩ ?_
      intro ρ23 w23 hE hN hf hr
      obtain ⟨v6_3, h6⟩ : ∃ v, ρ23 6 = v := ⟨_, rfl⟩
      have hq6 : (fun u wz => Own w0.heap.size 56 2 Span.cells wz u l2 /\ ∀ b, u.ownBlock = some b -> (v6_.ownBlock = some b \/ w21.heap.size <= b)) (ρ23 6) w23 := hf 4 rfl
      rw [h6] at hq6
      obtain ⟨hq6, hfr6⟩ := hq6
      obtain ⟨h32, h33, h34⟩ := k3 hr h32 h33 h34 rfl
      have Oo_O6 := O6
      have Hf32 : d5 Span.R (gL [d6c v6_3]) w23 vh_ z2 := Hf32.mv hE (fun _ h => .inl (.inl h)) (fun b h => h.elim (fun h => (hfr6 _ h).elim (fun h => .inl (by have h := h; exact (.inl h))) (fun h => .inr h)) (fun h => h.elim))
      have hW := Ext.own hW hE (fun b hb => (Oo_O6.lt hb).1)
      have O6 := hq6
      exact ⟨l2, v6_3, h6, h32, h33, h34, Hf32, O6, hW, hF⟩
    rintro ρ17 w17 ⟨x4, v6_2, h6, h32, h33, h34, Hf32, O6, hW, hF⟩
    rw [spans_Make_j2] at hF
    refine WP.rb mixed [[], [0]] [[34], []] [(71, .int .i64 (i64 (x3 + 1))), (34, .int .i64 (i64 (x3 + 1)))] (by kernel_rfl) ⟨fun ρz wz hE hA ⟨e34, _⟩ _ => c7 rfl rfl (d5b (e34.trans h34) rfl rfl),
 mU rfl rfl rfl, trivial⟩ ?_
    intro ρ18 w18 hN hf hr
    have h34 := hv hf 1 rfl rfl
    obtain ⟨h6, h32, h33⟩ := k3 hr h6 h32 h33 rfl
    have Oo_O6 := O6
    have Hf32 := Hf32.exn hN
    have hW := hW.trans hN
    have O6 := Oo_O6.exn hN
    exact ⟨x4, i64 (x3 + 1), v6_2, h6, h32, h33, h34, Hf32, O6, hW, (by first | exact hF | (rw [hrec_2]; exact hF))⟩
  have hF := (if_neg (Bool.eq_false_iff.1 hb)).symm.trans hF
  refine WP.exit (a7p (a7p (b1z (WP.seq (WP.rb mixed [[], [0]] [[6], []] [(72, v6_), (2, v6_)] (by kernel_rfl) ⟨mE rfl rfl h6,
 aU rfl rfl rfl, trivial⟩ ?_)))))
  intro ρ24 w24 hN hf hr
  have h2 := hv hf 1 rfl rfl
  have Oo_O6 := O6
  have hW := hW.trans hN
  have O2 := Oo_O6.exn hN
  refine WP.ret ?_
  show d2d Tryz.prog 73 Tryz.f60 (fun v w1 => Own w0.heap.size 56 2 Span.cells w1 v r /\ Ext noG w0 w1) .ret ρ24 w24
  obtain rfl := Option.some.inj hF
  exact res1 rfl (by decide) h2 ⟨O2, hW⟩
end Go.PL.Mk
namespace Go.PL
open Go Go.SX
abbrev Span := Mk.Span
structure Token where
  Kind : Int
  Text : ByteArray
  At : Int
structure pensionref5_reader where
  l : List Token
  at_ : Int
  end_ : Int
  bad : Bool
structure pensionref1_wide where
  hi : Int
  lo : Int
structure Fraction where
  Num : Int
  Den : Int
structure Expr where
  Op : Int
  Value : Fraction
  Dim : Int
  Name : ByteArray
  Args : List Expr
structure Rounding where
  Mode : Int
  Unit : Int
structure Credit where
  Kind : Int
  Limit : Int
structure Index where
  Year : Int
  Factor : Fraction
structure Let where
  Name : ByteArray
  Body : Expr
structure Grant where
  Benefit : Int
  If : Expr
  Pay : Expr
structure Reduce where
  Benefit : Int
  By : Expr
structure Version where
  From : Int
  Rounding : Rounding
  Credits : List Credit
  Series : List Index
  Lets : List Let
  Grants : List Grant
  Reduces : List Reduce
structure Statute where
  Name : ByteArray
  Currency : Int
  Versions : List Version
structure State where
  State : Int
  Statute : Statute
structure Rules where
  From : Int
  MinDays : Int
  PostingLimit : Int
  Substantial : Int
  Members : List Int
structure Rate where
  Currency : Int
  Month : Int
  Value : Fraction
structure Laws where
  States : List State
  Treaty : List Rules
  Rates : List Rate
structure api_Fact where
  Issuer : Int
  Number : Int
  Version : Int
  Withdrawn : Bool
  Person : Int
  Kind : Int
  State : Int
  Span : Span
  Seat : Int
  Share : Int
  Currency : Int
  Amount : Int
  Ref : Int
structure sickness_window where
  days : List Int
def a1t : ByteArray := ⟨#[]⟩
def a18 : ByteArray := ⟨#[48, 49, 50, 51, 52, 53, 54, 55, 56, 57]⟩
def b4p : ByteArray := ⟨#[46]⟩
def b2g : ByteArray := ⟨#[102, 114, 111, 109, 32, 64]⟩
def a91 : ByteArray := ⟨#[32, 123, 32, 114, 111, 117, 110, 100, 32]⟩
def a9q : ByteArray := ⟨#[100, 111, 119, 110, 32, 49, 59, 32]⟩
def b47 : ByteArray := ⟨#[99, 114, 101, 100, 105, 116, 32, 118, 111, 108, 117, 110, 116, 97, 114, 121, 59, 32, 99, 114, 101, 100, 105, 116, 32, 117, 110, 101, 109, 112, 108, 111, 121, 101, 100, 32, 108, 105, 109, 105, 116, 32]⟩
def a6x : ByteArray := ⟨#[59, 32]⟩
def b57 : ByteArray := ⟨#[99, 114, 101, 100, 105, 116, 32, 99, 104, 105, 108, 100, 32, 108, 105, 109, 105, 116, 32]⟩
def b5i : ByteArray := ⟨#[99, 114, 101, 100, 105, 116, 32, 114, 101, 115, 105, 100, 101, 110, 99, 101, 59, 32]⟩
def b5r : ByteArray := ⟨#[105, 110, 100, 101, 120, 32, 49, 57, 54, 48, 32, 49, 59, 32, 105, 110, 100, 101, 120, 32, 49, 57, 56, 48, 32]⟩
def b4t : ByteArray := ⟨#[59, 32, 105, 110, 100, 101, 120, 32, 49, 57, 57, 53, 32]⟩
def b5f : ByteArray := ⟨#[108, 101, 116, 32, 115, 112, 101, 110, 116, 32, 61, 32, 105, 110, 115, 117, 114, 101, 100, 32, 47, 32]⟩
def b3q : ByteArray := ⟨#[100, 59, 32, 108, 101, 116, 32, 112, 97, 114, 116, 32, 61, 32, 109, 105, 110, 40, 115, 112, 101, 110, 116, 32, 42, 32]⟩
def b51 : ByteArray := ⟨#[44, 32, 48, 46, 56, 48, 41, 59, 32]⟩
def b52 : ByteArray := ⟨#[103, 114, 97, 110, 116, 32, 111, 108, 100, 32, 105, 102, 32, 97, 103, 101, 32, 62, 61, 32]⟩
def b54 : ByteArray := ⟨#[32, 97, 110, 100, 32, 105, 110, 115, 117, 114, 101, 100, 32, 62, 61, 32]⟩
def b3s : ByteArray := ⟨#[100, 32, 112, 97, 121, 32, 109, 97, 120, 40, 98, 97, 115, 101, 32, 42, 32, 112, 97, 114, 116, 44, 32]⟩
def b2u : ByteArray := ⟨#[109, 41, 59, 32]⟩
def b5c : ByteArray := ⟨#[103, 114, 97, 110, 116, 32, 100, 105, 115, 97, 98, 105, 108, 105, 116, 121, 32, 105, 102, 32, 105, 110, 115, 117, 114, 101, 100, 32, 62, 61, 32]⟩
def b44 : ByteArray := ⟨#[100, 32, 112, 97, 121, 32, 98, 97, 115, 101, 32, 42, 32]⟩
def b5p : ByteArray := ⟨#[103, 114, 97, 110, 116, 32, 115, 117, 114, 118, 105, 118, 111, 114, 32, 105, 102, 32, 119, 111, 114, 107, 101, 100, 32, 43, 32, 101, 113, 117, 97, 116, 101, 100, 32, 62, 61, 32, 51, 48, 100, 32, 112, 97, 121, 32, 98, 97, 115, 101, 32, 42, 32, 112, 97, 114, 116, 32, 42, 32, 48, 46, 54, 48, 59, 32]⟩
def b43 : ByteArray := ⟨#[103, 114, 97, 110, 116, 32, 102, 97, 109, 105, 108, 121, 32, 105, 102, 32, 105, 110, 115, 117, 114, 101, 100, 32, 62, 61, 32]⟩
def b73 : ByteArray := ⟨#[100, 32, 112, 97, 121, 32]⟩
def b3z : ByteArray := ⟨#[109, 32, 42, 32, 99, 104, 105, 108, 100, 114, 101, 110, 59, 32]⟩
def b3r : ByteArray := ⟨#[103, 114, 97, 110, 116, 32, 115, 105, 99, 107, 110, 101, 115, 115, 32, 105, 102, 32, 105, 110, 115, 117, 114, 101, 100, 32, 62, 61, 32]⟩
def b4o : ByteArray := ⟨#[100, 32, 112, 97, 121, 32, 98, 101, 115, 116, 40, 51, 41, 32, 47, 32, 49, 50, 32, 42, 32, 48, 46, 55, 48, 59, 32]⟩
def a71 : ByteArray := ⟨#[114, 101, 100, 117, 99, 101, 32, 111, 108, 100, 32, 98, 121, 32]⟩
def b5h : ByteArray := ⟨#[114, 101, 100, 117, 99, 101, 32, 100, 105, 115, 97, 98, 105, 108, 105, 116, 121, 32, 98, 121, 32, 105, 102, 32, 97, 103, 101, 32, 60, 32, 54, 48, 32, 116, 104, 101, 110, 32, 48, 46, 53, 48, 32, 101, 108, 115, 101, 32, 49, 59, 32]⟩
def b7u : ByteArray := ⟨#[125, 32]⟩
def a9v : ByteArray := ⟨#[104, 97, 108, 102, 32, 53, 59, 32]⟩
def b2x : ByteArray := ⟨#[117, 112, 32, 49, 59, 32]⟩
def a90 : ByteArray := ⟨#[101, 118, 101, 110, 32, 49, 48, 59, 32]⟩
def a9a : ByteArray := ⟨#[97, 108, 98, 97]⟩
def a9c : ByteArray := ⟨#[98, 111, 114, 97]⟩
def a7m : ByteArray := ⟨#[99, 101, 100, 97, 114]⟩
def b2q : ByteArray := ⟨#[115, 116, 97, 116, 117, 116, 101, 32]⟩
def a9m : ByteArray := ⟨#[32, 99, 117, 114, 114, 101, 110, 99, 121, 32]⟩
def b9n : ByteArray := ⟨#[32, 123, 32]⟩
def a70 : ByteArray := ⟨#[49, 57, 48, 48, 45, 48, 49, 45, 48, 49]⟩
def a72 : ByteArray := ⟨#[49, 57, 57, 54, 45, 48, 55, 45, 48, 49]⟩
def a6t : ByteArray := ⟨#[50, 48, 48, 49, 45, 48, 49, 45, 48, 49]⟩
def b53 : ByteArray := ⟨#[125]⟩
def b68 : ByteArray := ⟨#[60, 61]⟩
def b70 : ByteArray := ⟨#[62, 61]⟩
def b78 : ByteArray := ⟨#[60, 62]⟩
def c1k : ByteArray := ⟨#[97, 110, 100]⟩
def b7p : ByteArray := ⟨#[98, 101, 115, 116]⟩
def c7n : ByteArray := ⟨#[98, 121]⟩
def b1u : ByteArray := ⟨#[99, 114, 101, 100, 105, 116]⟩
def a8z : ByteArray := ⟨#[99, 117, 114, 114, 101, 110, 99, 121]⟩
def b8e : ByteArray := ⟨#[101, 108, 115, 101]⟩
def b4c : ByteArray := ⟨#[102, 108, 111, 111, 114]⟩
def b7l : ByteArray := ⟨#[102, 114, 111, 109]⟩
def b3p : ByteArray := ⟨#[103, 114, 97, 110, 116]⟩
def c2z : ByteArray := ⟨#[105, 102]⟩
def b5k : ByteArray := ⟨#[105, 110, 100, 101, 120]⟩
def c18 : ByteArray := ⟨#[108, 101, 116]⟩
def b4s : ByteArray := ⟨#[108, 105, 109, 105, 116]⟩
def c16 : ByteArray := ⟨#[109, 97, 120]⟩
def c1s : ByteArray := ⟨#[109, 105, 110]⟩
def c1o : ByteArray := ⟨#[110, 111, 116]⟩
def c7o : ByteArray := ⟨#[111, 114]⟩
def c1n : ByteArray := ⟨#[112, 97, 121]⟩
def b1x : ByteArray := ⟨#[114, 101, 100, 117, 99, 101]⟩
def b4d : ByteArray := ⟨#[114, 111, 117, 110, 100]⟩
def b04 : ByteArray := ⟨#[115, 116, 97, 116, 117, 116, 101]⟩
def c43 : ByteArray := ⟨#[116, 104, 101, 110]⟩
def b5j : ByteArray := ⟨#[0, 1, 2, 2, 3, 3, 3, 3, 4, 4, 4, 4, 4, 4, 4, 4, 5, 5, 5, 5, 5, 5, 5, 5, 5, 5, 5, 5, 5, 5, 5, 5, 6, 6, 6, 6, 6, 6, 6, 6, 6, 6, 6, 6, 6, 6, 6, 6, 6, 6, 6, 6, 6, 6, 6, 6, 6, 6, 6, 6, 6, 6, 6, 6, 7, 7, 7, 7, 7, 7, 7, 7, 7, 7, 7, 7, 7, 7, 7, 7, 7, 7, 7, 7, 7, 7, 7, 7, 7, 7, 7, 7, 7, 7, 7, 7, 7, 7, 7, 7, 7, 7, 7, 7, 7, 7, 7, 7, 7, 7, 7, 7, 7, 7, 7, 7, 7, 7, 7, 7, 7, 7, 7, 7, 7, 7, 7, 7, 8, 8, 8, 8, 8, 8, 8, 8, 8, 8, 8, 8, 8, 8, 8, 8, 8, 8, 8, 8, 8, 8, 8, 8, 8, 8, 8, 8, 8, 8, 8, 8, 8, 8, 8, 8, 8, 8, 8, 8, 8, 8, 8, 8, 8, 8, 8, 8, 8, 8, 8, 8, 8, 8, 8, 8, 8, 8, 8, 8, 8, 8, 8, 8, 8, 8, 8, 8, 8, 8, 8, 8, 8, 8, 8, 8, 8, 8, 8, 8, 8, 8, 8, 8, 8, 8, 8, 8, 8, 8, 8, 8, 8, 8, 8, 8, 8, 8, 8, 8, 8, 8, 8, 8, 8, 8, 8, 8, 8, 8, 8, 8, 8, 8, 8, 8, 8, 8, 8, 8, 8, 8, 8, 8, 8, 8, 8, 8]⟩
def b0w : ByteArray := ⟨#[118, 111, 108, 117, 110, 116, 97, 114, 121]⟩
def b4z : ByteArray := ⟨#[115, 101, 114, 118, 105, 99, 101]⟩
def a9r : ByteArray := ⟨#[117, 110, 101, 109, 112, 108, 111, 121, 101, 100]⟩
def c2u : ByteArray := ⟨#[115, 105, 99, 107]⟩
def b9m : ByteArray := ⟨#[99, 104, 105, 108, 100]⟩
def b1i : ByteArray := ⟨#[114, 101, 115, 105, 100, 101, 110, 99, 101]⟩
def c61 : ByteArray := ⟨#[111, 108, 100]⟩
def a9s : ByteArray := ⟨#[100, 105, 115, 97, 98, 105, 108, 105, 116, 121]⟩
def b2c : ByteArray := ⟨#[115, 117, 114, 118, 105, 118, 111, 114]⟩
def b67 : ByteArray := ⟨#[102, 97, 109, 105, 108, 121]⟩
def b2r : ByteArray := ⟨#[115, 105, 99, 107, 110, 101, 115, 115]⟩
def c3e : ByteArray := ⟨#[100, 111, 119, 110]⟩
def d2q : ByteArray := ⟨#[117, 112]⟩
def c2b : ByteArray := ⟨#[104, 97, 108, 102]⟩
def c3z : ByteArray := ⟨#[101, 118, 101, 110]⟩
def d56 : ByteArray := ⟨#[43]⟩
def c13 : ByteArray := ⟨#[45]⟩
def d5y : ByteArray := ⟨#[42]⟩
def c8v : ByteArray := ⟨#[47]⟩
def d5g : ByteArray := ⟨#[60]⟩
def c8y : ByteArray := ⟨#[61]⟩
def d4g : ByteArray := ⟨#[62]⟩
def c23 : ByteArray := ⟨#[40]⟩
def b7n : ByteArray := ⟨#[41]⟩
def d4a : ByteArray := ⟨#[44]⟩
def b08 : ByteArray := ⟨#[59]⟩
def c9o : ByteArray := ⟨#[123]⟩
def d1a : ByteArray := ⟨#[100]⟩
def c9z : ByteArray := ⟨#[109]⟩
def a4u : ByteArray := ⟨#[83, 80, 84, 72, 67, 65]⟩
def a2k : ByteArray := ⟨#[83, 80, 72, 67, 65]⟩
def b0e : ByteArray := ⟨#[83, 80, 84]⟩
def a4c : ByteArray := ⟨#[83, 80]⟩
def a7z : ByteArray := ⟨#[83, 80, 67, 65]⟩
def b05 : ByteArray := ⟨#[83, 80, 82]⟩
def b0a : ByteArray := ⟨#[80]⟩
def b4i : ByteArray := ⟨#[80, 82]⟩
def d4t : ByteArray := ⟨#[83]⟩
def d3t : ByteArray := ⟨#[84]⟩
def d4l : ByteArray := ⟨#[72]⟩
def d59 : ByteArray := ⟨#[67]⟩
def d3z : ByteArray := ⟨#[65]⟩
def d57 : ByteArray := ⟨#[82]⟩
def a4j (s : ByteArray) (c : Int) : Option Int := some (d6q s c)
def spans_Make (l : List Span) : Option (List Span) := Mk.spans_Make l
def a5g (r2 : (Int × ByteArray) -> Option ByteArray) (v1 : Int × ByteArray) : Option ByteArray :=
 if (decide (v1.1 > 9)) then
 (b31 v1.1 10).bind fun v3 =>
 (b31 v1.1 10).bind fun v4 =>
 (b48 a18 v3 (i64 (v4 + 1))).bind fun v5 =>
 (a1u v5 v1.2).bind fun v6 =>
 (c0u v1.1 10).bind fun v7 =>
 r2 (v7, v6)
 else
 (b48 a18 v1.1 (i64 (v1.1 + 1))).bind fun v8 =>
 (a1u v8 v1.2).bind fun v9 =>
 some v9
def d4 (a0 : Int) : Option ByteArray :=
 j6 FU a5g (a0, a1t)
def b7 (a0 : Int) (a1 : Int) : Option Int :=
 (b31 a0 a1).bind fun v1 =>
 if (decide (v1 < 0)) then
 some (i64 (v1 + a1))
 else
 some v1
def c3 (a0 : List Int) (a1 : Int) : Option Int :=
 if ((a0.length : Int) == 0) then
 some 0
 else
 (b7 a1 (a0.length : Int)).bind fun v1 =>
 (m7 a0 v1).bind fun v2 =>
 some v2
def j8 (a0 : Int) : Option ByteArray :=
 (c0u a0 100).bind fun v1 =>
 (d4 v1).bind fun v2 =>
 (a1u v2 b4p).bind fun v3 =>
 (c0u a0 10).bind fun v4 =>
 (b31 v4 10).bind fun v5 =>
 (d4 v5).bind fun v6 =>
 (a1u v3 v6).bind fun v7 =>
 (b31 a0 10).bind fun v8 =>
 (d4 v8).bind fun v9 =>
 (a1u v7 v9).bind fun v10 =>
 some v10
def a0r (v104 : (List Int) × Int × ByteArray) : Option ByteArray :=
 (c3 v104.1 (i64 (v104.2.1 + 18))).bind fun v105 =>
 (b7 v105 3).bind fun v106 =>
 if (v106 == 0) then
 (a1u v104.2.2 b5h).bind fun v107 =>
 (a1u v107 b7u).bind fun v108 =>
 some v108
 else
 (a1u v104.2.2 b7u).bind fun v109 =>
 some v109
def a0t (v78 : (List Int) × Int × ByteArray) : Option ByteArray :=
 (c3 v78.1 (i64 (v78.2.1 + 14))).bind fun v79 =>
 (b7 v79 800).bind fun v80 =>
 (d4 v80).bind fun v81 =>
 (a1u b43 v81).bind fun v82 =>
 (a1u v82 b73).bind fun v83 =>
 (c3 v78.1 (i64 (v78.2.1 + 15))).bind fun v84 =>
 (b7 v84 300).bind fun v85 =>
 (d4 (i64 (10 + v85))).bind fun v86 =>
 (a1u v83 v86).bind fun v87 =>
 (a1u v87 b3z).bind fun v88 =>
 (a1u v78.2.2 v88).bind fun v89 =>
 (c3 v78.1 (i64 (v78.2.1 + 16))).bind fun v90 =>
 (b7 v90 400).bind fun v91 =>
 (d4 v91).bind fun v92 =>
 (a1u b3r v92).bind fun v93 =>
 (a1u v93 b4o).bind fun v94 =>
 (a1u v89 v94).bind fun v95 =>
 (c3 v78.1 (i64 (v78.2.1 + 17))).bind fun v96 =>
 (b7 v96 3).bind fun v97 =>
 if (decide (v97 > 0)) then
 (c3 v78.1 (i64 (v78.2.1 + 17))).bind fun v98 =>
 (b7 v98 11).bind fun v99 =>
 (j8 (i64 (10 * v99))).bind fun v100 =>
 (a1u a71 v100).bind fun v101 =>
 (a1u v101 a6x).bind fun v102 =>
 (a1u v95 v102).bind fun v103 =>
 joinC a0r (v78.1, v78.2.1, v103)
 else
 joinC a0r (v78.1, v78.2.1, v95)
def a0q (v28 : (List Int) × Int × ByteArray × ByteArray) : Option ByteArray :=
 (c3 v28.1 (i64 (v28.2.1 + 5))).bind fun v29 =>
 (b7 v29 300).bind fun v30 =>
 (j8 (i64 (100 + v30))).bind fun v31 =>
 (a1u b5r v31).bind fun v32 =>
 (a1u v32 b4t).bind fun v33 =>
 (c3 v28.1 (i64 (v28.2.1 + 6))).bind fun v34 =>
 (b7 v34 300).bind fun v35 =>
 (j8 (i64 (400 + v35))).bind fun v36 =>
 (a1u v33 v36).bind fun v37 =>
 (a1u v37 a6x).bind fun v38 =>
 (a1u v28.2.2.2 v38).bind fun v39 =>
 (a1u b5f v28.2.2.1).bind fun v40 =>
 (a1u v40 b3q).bind fun v41 =>
 (c3 v28.1 (i64 (v28.2.1 + 7))).bind fun v42 =>
 (b7 v42 4).bind fun v43 =>
 (j8 (i64 (1 + v43))).bind fun v44 =>
 (a1u v41 v44).bind fun v45 =>
 (a1u v45 b51).bind fun v46 =>
 (a1u v39 v46).bind fun v47 =>
 (c3 v28.1 (i64 (v28.2.1 + 8))).bind fun v48 =>
 (b7 v48 12).bind fun v49 =>
 (d4 (i64 (50 + v49))).bind fun v50 =>
 (a1u b52 v50).bind fun v51 =>
 (a1u v51 b54).bind fun v52 =>
 (c3 v28.1 (i64 (v28.2.1 + 9))).bind fun v53 =>
 (b7 v53 6000).bind fun v54 =>
 (d4 v54).bind fun v55 =>
 (a1u v52 v55).bind fun v56 =>
 (a1u v56 b3s).bind fun v57 =>
 (c3 v28.1 (i64 (v28.2.1 + 10))).bind fun v58 =>
 (b7 v58 900).bind fun v59 =>
 (d4 v59).bind fun v60 =>
 (a1u v57 v60).bind fun v61 =>
 (a1u v61 b2u).bind fun v62 =>
 (a1u v47 v62).bind fun v63 =>
 (c3 v28.1 (i64 (v28.2.1 + 11))).bind fun v64 =>
 (b7 v64 2000).bind fun v65 =>
 (d4 v65).bind fun v66 =>
 (a1u b5c v66).bind fun v67 =>
 (a1u v67 b44).bind fun v68 =>
 (c3 v28.1 (i64 (v28.2.1 + 12))).bind fun v69 =>
 (b7 v69 60).bind fun v70 =>
 (j8 (i64 (20 + v70))).bind fun v71 =>
 (a1u v68 v71).bind fun v72 =>
 (a1u v72 a6x).bind fun v73 =>
 (a1u v63 v73).bind fun v74 =>
 (c3 v28.1 (i64 (v28.2.1 + 13))).bind fun v75 =>
 (b7 v75 5).bind fun v76 =>
 if (decide (v76 > 0)) then
 (a1u v74 b5p).bind fun v77 =>
 joinC a0t (v28.1, v28.2.1, v77)
 else
 joinC a0t (v28.1, v28.2.1, v74)
def a0p (v24 : (List Int) × Int × ByteArray × ByteArray) : Option ByteArray :=
 (c3 v24.1 (i64 (v24.2.1 + 4))).bind fun v25 =>
 (b7 v25 4).bind fun v26 =>
 if (v26 == 0) then
 (a1u v24.2.2.2 b5i).bind fun v27 =>
 joinC a0q (v24.1, v24.2.1, v24.2.2.1, v27)
 else
 joinC a0q (v24.1, v24.2.1, v24.2.2.1, v24.2.2.2)
def o4 (v9 : (List Int) × Int × ByteArray × ByteArray) : Option ByteArray :=
 (c3 v9.1 (i64 (v9.2.1 + 2))).bind fun v10 =>
 (b7 v10 900).bind fun v11 =>
 (d4 (i64 (1 + v11))).bind fun v12 =>
 (a1u b47 v12).bind fun v13 =>
 (a1u v13 a6x).bind fun v14 =>
 (a1u v9.2.2.2 v14).bind fun v15 =>
 (c3 v9.1 (i64 (v9.2.1 + 3))).bind fun v16 =>
 (b7 v16 3).bind fun v17 =>
 if (decide (v17 > 0)) then
 (c3 v9.1 (i64 (v9.2.1 + 3))).bind fun v18 =>
 (b7 v18 1000).bind fun v19 =>
 (d4 (i64 (100 + v19))).bind fun v20 =>
 (a1u b57 v20).bind fun v21 =>
 (a1u v21 a6x).bind fun v22 =>
 (a1u v15 v22).bind fun v23 =>
 joinC a0p (v9.1, v9.2.1, v9.2.2.1, v23)
 else
 joinC a0p (v9.1, v9.2.1, v9.2.2.1, v15)
def s9 (a0 : ByteArray) (a1 : List Int) (a2 : Int) : Option ByteArray :=
 (c3 a1 a2).bind fun v1 =>
 (b7 v1 90).bind fun v2 =>
 (d4 (i64 (300 + v2))).bind fun v3 =>
 (a1u b2g a0).bind fun v4 =>
 (a1u v4 a91).bind fun v5 =>
 (c3 a1 (i64 (a2 + 1))).bind fun v6 =>
 (b7 v6 4).bind fun v7 =>
 if (v7 == 0) then
 (a1u v5 a9q).bind fun v8 =>
 joinC o4 (a1, a2, v3, v8)
 else
 if (v7 == 1) then
 (a1u v5 a9v).bind fun v110 =>
 joinC o4 (a1, a2, v3, v110)
 else
 if (v7 == 2) then
 (a1u v5 b2x).bind fun v111 =>
 joinC o4 (a1, a2, v3, v111)
 else
 (a1u v5 a90).bind fun v112 =>
 joinC o4 (a1, a2, v3, v112)
def a1r (v14 : Int × (List Int) × ByteArray) : Option ByteArray :=
 (c3 v14.2.1 (i64 (37 + v14.1))).bind fun v15 =>
 (b7 v15 3).bind fun v16 =>
 if (v16 == 0) then
 (s9 a6t v14.2.1 (i64 ((i64 (7 * v14.1)) + 5))).bind fun v17 =>
 (a1u v14.2.2 v17).bind fun v18 =>
 (a1u v18 b53).bind fun v19 =>
 some v19
 else
 (a1u v14.2.2 b53).bind fun v20 =>
 some v20
def a3i (a0 : Int) (a1 : List Int) : Option ByteArray :=
 (m7 (⟨[a9a, a9c, a7m], rfl⟩ : Ar 3 ByteArray).l a0).bind fun v1 =>
 (m7 (⟨[a9a, a9c, a7m], rfl⟩ : Ar 3 ByteArray).l a0).bind fun v2 =>
 (a1u b2q v2).bind fun v3 =>
 (a1u v3 a9m).bind fun v4 =>
 (d4 (i64 (1 + a0))).bind fun v5 =>
 (a1u v4 v5).bind fun v6 =>
 (a1u v6 b9n).bind fun v7 =>
 (s9 a70 a1 (i64 (7 * a0))).bind fun v8 =>
 (a1u v7 v8).bind fun v9 =>
 (c3 a1 (i64 (31 + a0))).bind fun v10 =>
 (b7 v10 3).bind fun v11 =>
 if (decide (v11 > 0)) then
 (s9 a72 a1 (i64 ((i64 (7 * a0)) + 3))).bind fun v12 =>
 (a1u v9 v12).bind fun v13 =>
 joinC a1r (a0, a1, v13)
 else
 joinC a1r (a0, a1, v9)
def a6c (a0 : ByteArray) (r2 : (Int × Bool) -> Option Int) (v1 : Int × Bool) : Option Int :=
 if (decide (v1.1 < (a0.size : Int))) then
 (a8p a0 v1.1).bind fun v3 =>
 if (v3 == 10) then
 r2 (i64 (v1.1 + 1), false)
 else
 if (v3 == 35) then
 r2 (i64 (v1.1 + 1), true)
 else
 (if (!v1.2) then some (v3 != 9) else some false).bind fun v4 =>
 (if v4 then some (v3 != 13) else some false).bind fun v5 =>
 (if v5 then some (v3 != 32) else some false).bind fun v6 =>
 if v6 then
 some v1.1
 else
 r2 (i64 (v1.1 + 1), v1.2)
 else
 some v1.1
def a3k (a0 : ByteArray) (a1 : Int) : Option Int :=
 j6 FU (a6c a0) (a1, false)
def a00 (a0 : Int) : Option Bool :=
 (if (decide (a0 >= 97)) then some (decide (a0 <= 122)) else some false).bind fun v1 =>
 some v1
def s8 (a0 : Int) : Option Bool :=
 (if (decide (a0 >= 48)) then some (decide (a0 <= 57)) else some false).bind fun v1 =>
 some v1
def a7a (a1 : Int) (a0 : ByteArray) (a2 : Bool) (r2 : Int -> Option Int) (v1 : Int) : Option Int :=
 (if (decide ((i64 (a1 + v1)) < (a0.size : Int))) then (a8p a0 (i64 (a1 + v1))).bind fun v3 =>
 (a00 v3).bind fun v4 =>
 (if v4 then some true else (a8p a0 (i64 (a1 + v1))).bind fun v5 =>
 (s8 v5).bind fun v6 =>
 some v6).bind fun v7 =>
 (if v7 then some true else (a8p a0 (i64 (a1 + v1))).bind fun v8 =>
 some (v8 == 95)).bind fun v9 =>
 (if v9 then some true else (if a2 then (a8p a0 (i64 (a1 + v1))).bind fun v10 =>
 some (v10 == 46) else some false).bind fun v11 =>
 some v11).bind fun v12 =>
 some v12 else some false).bind fun v13 =>
 if v13 then
 r2 (i64 (v1 + 1))
 else
 some v1
def a2d (a0 : ByteArray) (a1 : Int) (a2 : Bool) : Option Int :=
 j6 FU (a7a a1 a0 a2) 0
def a62 (v11 : Int × ByteArray × ByteArray) (r13 : Int -> Option (ByteArray × ByteArray × Int × Bool)) (v12 : Int) : Option (ByteArray × ByteArray × Int × Bool) :=
 if (decide (v12 < (i64 ((v11.2.1.size : Int) + (v11.2.2.size : Int))))) then
 (a1u v11.2.1 v11.2.2).bind fun v14 =>
 (a8p v14 v12).bind fun v15 =>
 (s8 v15).bind fun v16 =>
 if (!v16) then
 some (a1t, a1t, 0, false)
 else
 r13 (i64 (v12 + 1))
 else
 (if (decide ((v11.2.1.size : Int) < 1)) then some true else some (decide ((v11.2.1.size : Int) > 9))).bind fun v17 =>
 (if v17 then some true else (if (decide ((v11.2.1.size : Int) > 1)) then (a8p v11.2.1 0).bind fun v18 =>
 some (v18 == 48) else some false).bind fun v19 =>
 some v19).bind fun v20 =>
 if v20 then
 some (a1t, a1t, 0, false)
 else
 some (v11.2.1, v11.2.2, v11.1, true)
def a1e (v11 : Int × ByteArray × ByteArray) : Option (ByteArray × ByteArray × Int × Bool) :=
 j6 FU (a62 v11) 0
def a61 (v4 : ByteArray × Int) (r6 : (Int × Int) -> Option (ByteArray × ByteArray × Int × Bool)) (v5 : Int × Int) : Option (ByteArray × ByteArray × Int × Bool) :=
 if (decide (v5.2 >= 0)) then
 (a8p v4.1 v5.2).bind fun v7 =>
 if (v7 == 46) then
 r6 (v5.2, i64 (v5.2 - 1))
 else
 r6 (v5.1, i64 (v5.2 - 1))
 else
 (b48 v4.1 0 v5.1).bind fun v8 =>
 if (decide (v5.1 < (v4.1.size : Int))) then
 (b48 v4.1 (i64 (v5.1 + 1)) (v4.1.size : Int)).bind fun v9 =>
 (if (decide ((v9.size : Int) < 1)) then some true else some (decide ((v9.size : Int) > 4))).bind fun v10 =>
 if v10 then
 some (a1t, a1t, 0, false)
 else
 joinC a1e (v4.2, v8, v9)
 else
 joinC a1e (v4.2, v8, a1t)
def a0b (v4 : ByteArray × Int) : Option (ByteArray × ByteArray × Int × Bool) :=
 j6 FU (a61 v4) ((v4.1.size : Int), i64 ((v4.1.size : Int) - 1))
def a1i (a0 : ByteArray) : Option (ByteArray × ByteArray × Int × Bool) :=
 (if (decide ((a0.size : Int) > 0)) then (a8p a0 (i64 ((a0.size : Int) - 1))).bind fun v1 =>
 some (v1 == 100) else some false).bind fun v2 =>
 if v2 then
 (b48 a0 0 (i64 ((a0.size : Int) - 1))).bind fun v3 =>
 joinC a0b (v3, 3)
 else
 (if (decide ((a0.size : Int) > 0)) then (a8p a0 (i64 ((a0.size : Int) - 1))).bind fun v21 =>
 some (v21 == 109) else some false).bind fun v22 =>
 if v22 then
 (b48 a0 0 (i64 ((a0.size : Int) - 1))).bind fun v23 =>
 joinC a0b (v23, 4)
 else
 joinC a0b (a0, 2)
def a5y (a0 : ByteArray) (r2 : (Int × Int) -> Option (Int × Bool)) (v1 : Int × Int) : Option (Int × Bool) :=
 if (decide (v1.2 < (a0.size : Int))) then
 (a8p a0 v1.2).bind fun v3 =>
 (if (decide (v3 < 48)) then some true else (a8p a0 v1.2).bind fun v4 =>
 some (decide (v4 > 57))).bind fun v5 =>
 if v5 then
 some (0, false)
 else
 (a8p a0 v1.2).bind fun v6 =>
 r2 (i64 ((i64 (v1.1 * 10)) + (i64 (IntKind.u8.wrap (v6 - 48)))), i64 (v1.2 + 1))
 else
 some (v1.1, decide ((a0.size : Int) > 0))
def a0f (a0 : ByteArray) : Option (Int × Bool) :=
 j6 FU (a5y a0) (0, 0)
def a3j (a0 : Int) : Option Bool :=
 (b31 a0 4).bind fun v1 =>
 (if (v1 == 0) then (b31 a0 100).bind fun v2 =>
 (if (v2 != 0) then some true else (b31 a0 400).bind fun v3 =>
 some (v3 == 0)).bind fun v4 =>
 some v4 else some false).bind fun v5 =>
 some v5
def a0z (a0 : Int) (a1 : Int) : Option Int :=
 if (a1 == 2) then
 (a3j a0).bind fun v1 =>
 if v1 then
 some 29
 else
 some 28
 else
 if (a1 == 4) then
 if (a1 == 4) then
 some 30
 else
 some 31
 else
 if (a1 == 6) then
 if (a1 == 6) then
 some 30
 else
 some 31
 else
 if (a1 == 9) then
 if (a1 == 9) then
 some 30
 else
 some 31
 else
 if (a1 == 11) then
 some 30
 else
 some 31
def a5w (a0 : Int) (r2 : (Int × Int) -> Option Int) (v1 : Int × Int) : Option Int :=
 if (decide (v1.2 < a0)) then
 (c0u v1.2 12).bind fun v3 =>
 (b31 v1.2 12).bind fun v4 =>
 (a0z (i64 (1900 + v3)) (i64 (v4 + 1))).bind fun v5 =>
 r2 (i64 (v1.1 + v5), i64 (v1.2 + 1))
 else
 some v1.1
def a2m (a0 : Int) : Option Int :=
 j6 FU (a5w a0) (0, 0)
def a4f (a0 : Int) (a1 : Int) (a2 : Int) : Option (Int × Bool) :=
 (if (decide (a0 < 1900)) then some true else some (decide (a0 > 2099))).bind fun v1 =>
 (if v1 then some true else some (decide (a1 < 1))).bind fun v2 =>
 (if v2 then some true else some (decide (a1 > 12))).bind fun v3 =>
 (if v3 then some true else some (decide (a2 < 1))).bind fun v4 =>
 (if v4 then some true else (a0z a0 a1).bind fun v5 =>
 some (decide (a2 > v5))).bind fun v6 =>
 if v6 then
 some (0, false)
 else
 (a2m (i64 ((i64 ((i64 ((i64 (a0 - 1900)) * 12)) + a1)) - 1))).bind fun v7 =>
 some (i64 ((i64 (v7 + a2)) - 1), true)
def a0a (a0 : ByteArray) : Option (Int × Bool) :=
 (if ((a0.size : Int) != 10) then some true else (a8p a0 4).bind fun v1 =>
 some (v1 != 45)).bind fun v2 =>
 (if v2 then some true else (a8p a0 7).bind fun v3 =>
 some (v3 != 45)).bind fun v4 =>
 if v4 then
 some (0, false)
 else
 (b48 a0 0 4).bind fun v5 =>
 (a0f v5).bind fun v6 =>
 (b48 a0 5 7).bind fun v7 =>
 (a0f v7).bind fun v8 =>
 (b48 a0 8 (a0.size : Int)).bind fun v9 =>
 (a0f v9).bind fun v10 =>
 (if (!v6.2) then some true else some (!v8.2)).bind fun v11 =>
 (if v11 then some true else some (!v10.2)).bind fun v12 =>
 if v12 then
 some (0, false)
 else
 (a4f v6.1 v8.1 v10.1).bind fun v13 =>
 some (v13.1, v13.2)
def a1o (v4 : ByteArray × Int) : Option Int :=
 (a8p v4.1 v4.2).bind fun v5 =>
 if (v5 == 60) then
 if (v5 == 60) then
 some 1
 else
 some 0
 else
 if (v5 == 62) then
 if (v5 == 62) then
 some 1
 else
 some 0
 else
 if (v5 == 61) then
 if (v5 == 61) then
 some 1
 else
 some 0
 else
 if (v5 == 43) then
 if (v5 == 43) then
 some 1
 else
 some 0
 else
 if (v5 == 45) then
 if (v5 == 45) then
 some 1
 else
 some 0
 else
 if (v5 == 42) then
 if (v5 == 42) then
 some 1
 else
 some 0
 else
 if (v5 == 47) then
 if (v5 == 47) then
 some 1
 else
 some 0
 else
 if (v5 == 40) then
 if (v5 == 40) then
 some 1
 else
 some 0
 else
 if (v5 == 41) then
 if (v5 == 41) then
 some 1
 else
 some 0
 else
 if (v5 == 123) then
 if (v5 == 123) then
 some 1
 else
 some 0
 else
 if (v5 == 125) then
 if (v5 == 125) then
 some 1
 else
 some 0
 else
 if (v5 == 44) then
 if (v5 == 44) then
 some 1
 else
 some 0
 else
 if (v5 == 59) then
 some 1
 else
 some 0
def a3l (a0 : ByteArray) (a1 : Int) : Option Int :=
 if (decide ((i64 (a1 + 1)) < (a0.size : Int))) then
 (b48 a0 a1 (i64 (a1 + 2))).bind fun v1 =>
 (if (v1.toList == b68.toList) then some true else some (v1.toList == b70.toList)).bind fun v2 =>
 (if v2 then some true else some (v1.toList == b78.toList)).bind fun v3 =>
 if v3 then
 some 2
 else
 joinC a1o (a0, a1)
 else
 joinC a1o (a0, a1)
def o9 (v6 : ByteArray × Int × Token × Int × Int × Bool) : Option (Token × Int × Int) :=
 if (!v6.2.2.2.2.2) then
 some ((⟨0, a1t, 0⟩ : Token), v6.2.1, 4)
 else
 (b48 v6.1 v6.2.1 (i64 (v6.2.1 + v6.2.2.2.2.1))).bind fun v7 =>
 some ((⟨v6.2.2.2.1, v7, v6.2.1⟩ : Token), i64 (v6.2.1 + v6.2.2.2.2.1), 0)
def a3g (a0 : ByteArray) (a1 : Int) : Option (Token × Int × Int) :=
 (if (decide (a1 < 0)) then some true else some (decide (a1 > (a0.size : Int)))).bind fun v1 =>
 if v1 then
 some ((⟨0, a1t, 0⟩ : Token), 0, 1)
 else
 (a3k a0 a1).bind fun v2 =>
 if (v2 == (a0.size : Int)) then
 some ((⟨0, a1t, v2⟩ : Token), v2, 0)
 else
 (a8p a0 v2).bind fun v3 =>
 (a00 v3).bind fun v4 =>
 if v4 then
 (a2d a0 v2 false).bind fun v5 =>
 joinC o9 (a0, v2, (⟨0, a1t, 0⟩ : Token), 1, v5, decide (v5 <= 12))
 else
 (a8p a0 v2).bind fun v8 =>
 (s8 v8).bind fun v9 =>
 if v9 then
 (a2d a0 v2 true).bind fun v10 =>
 (b48 a0 v2 (i64 (v2 + v10))).bind fun v11 =>
 (a1i v11).bind fun v12 =>
 joinC o9 (a0, v2, (⟨0, a1t, 0⟩ : Token), 2, v10, v12.2.2.2)
 else
 (a8p a0 v2).bind fun v13 =>
 if (v13 == 64) then
 if (decide ((i64 ((a0.size : Int) - v2)) >= 11)) then
 (b48 a0 (i64 (v2 + 1)) (i64 (v2 + 11))).bind fun v14 =>
 (a0a v14).bind fun v15 =>
 joinC o9 (a0, v2, (⟨0, a1t, 0⟩ : Token), 3, 11, v15.2)
 else
 joinC o9 (a0, v2, (⟨0, a1t, 0⟩ : Token), 3, 11, decide ((i64 ((a0.size : Int) - v2)) >= 11))
 else
 (a3l a0 v2).bind fun v16 =>
 joinC o9 (a0, v2, (⟨0, a1t, 0⟩ : Token), 4, v16, decide (v16 > 0))
def a6v (a0 : ByteArray) (r2 : ((List Token) × Int) -> Option ((List Token) × Int × Int)) (v1 : (List Token) × Int) : Option ((List Token) × Int × Int) :=
 (a3g a0 v1.2).bind fun v3 =>
 if (v3.2.2 != 0) then
 some ([], v3.2.1, v3.2.2)
 else
 if (v3.1.Kind == 0) then
 some (v1.1, 0, 0)
 else
 (a6y 32 v1.1 [v3.1]).bind fun v4 =>
 r2 (v4, v3.2.1)
def a4l (a0 : ByteArray) : Option ((List Token) × Int × Int) :=
 if (decide ((a0.size : Int) > 8000)) then
 some ([], 0, 7)
 else
 j6 FU (a6v a0) ([], 0)
def a2v (a0 : ByteArray) : Option ((Option pensionref5_reader) × Int × Int) :=
 (a4l a0).bind fun v1 =>
 if (v1.2.2 != 0) then
 some (none, v1.2.1, v1.2.2)
 else
 some (some (⟨v1.1, 0, (a0.size : Int), false⟩ : pensionref5_reader), 0, 0)
def j4 (a0 : pensionref5_reader) (a1 : ByteArray) : Option Bool :=
 (if (!a0.bad) then some (decide (a0.at_ < (a0.l.length : Int))) else some false).bind fun v1 =>
 (if v1 then (m7 a0.l a0.at_).bind fun v2 =>
 some (v2.Text.toList == a1.toList) else some false).bind fun v3 =>
 some v3
def c5 (a0 : pensionref5_reader) (a1 : ByteArray) : Option (Bool × pensionref5_reader) :=
 (j4 a0 a1).bind fun v1 =>
 if (!v1) then
 some (false, a0)
 else
 some (true, (⟨a0.l, i64 (a0.at_ + 1), a0.end_, a0.bad⟩ : pensionref5_reader))
def d6 (a0 : pensionref5_reader) : Option pensionref5_reader :=
 some (⟨a0.l, a0.at_, a0.end_, true⟩ : pensionref5_reader)
def b9 (a0 : pensionref5_reader) (a1 : ByteArray) : Option pensionref5_reader :=
 (c5 a0 a1).bind fun v1 =>
 if (!v1.1) then
 (d6 v1.2).bind fun v2 =>
 some v2
 else
 some v1.2
def g0 (a0 : pensionref5_reader) (a1 : Int) : Option Bool :=
 (if (!a0.bad) then some (decide (a0.at_ < (a0.l.length : Int))) else some false).bind fun v1 =>
 (if v1 then (m7 a0.l a0.at_).bind fun v2 =>
 some (v2.Kind == a1) else some false).bind fun v3 =>
 some v3
def a5a (a0 : ByteArray) (r2 : Int -> Option Bool) (v1 : Int) : Option Bool :=
 if (decide (v1 < (a0.size : Int))) then
 (a8p a0 v1).bind fun v3 =>
 (a00 v3).bind fun v4 =>
 (if (!v4) then (if (v1 == 0) then some true else (a8p a0 v1).bind fun v5 =>
 (s8 v5).bind fun v6 =>
 (if (!v6) then (a8p a0 v1).bind fun v7 =>
 some (v7 != 95) else some false).bind fun v8 =>
 some v8).bind fun v9 =>
 some v9 else some false).bind fun v10 =>
 if v10 then
 some false
 else
 r2 (i64 (v1 + 1))
 else
 (if (decide ((a0.size : Int) >= 1)) then some (decide ((a0.size : Int) <= 12)) else some false).bind fun v11 =>
 some v11
def a25 (a0 : ByteArray) : Option Bool :=
 j6 FU (a5a a0) 0
def a1s (a0 : ByteArray) : Option Bool :=
 if (a0.toList == c1k.toList) then
 if (a0.toList == c1k.toList) then
 some true
 else
 some false
 else
 if (a0.toList == b7p.toList) then
 if (a0.toList == b7p.toList) then
 some true
 else
 some false
 else
 if (a0.toList == c7n.toList) then
 if (a0.toList == c7n.toList) then
 some true
 else
 some false
 else
 if (a0.toList == b1u.toList) then
 if (a0.toList == b1u.toList) then
 some true
 else
 some false
 else
 if (a0.toList == a8z.toList) then
 if (a0.toList == a8z.toList) then
 some true
 else
 some false
 else
 if (a0.toList == b8e.toList) then
 if (a0.toList == b8e.toList) then
 some true
 else
 some false
 else
 if (a0.toList == b4c.toList) then
 if (a0.toList == b4c.toList) then
 some true
 else
 some false
 else
 if (a0.toList == b7l.toList) then
 if (a0.toList == b7l.toList) then
 some true
 else
 some false
 else
 if (a0.toList == b3p.toList) then
 if (a0.toList == b3p.toList) then
 some true
 else
 some false
 else
 if (a0.toList == c2z.toList) then
 if (a0.toList == c2z.toList) then
 some true
 else
 some false
 else
 if (a0.toList == b5k.toList) then
 if (a0.toList == b5k.toList) then
 some true
 else
 some false
 else
 if (a0.toList == c18.toList) then
 if (a0.toList == c18.toList) then
 some true
 else
 some false
 else
 if (a0.toList == b4s.toList) then
 if (a0.toList == b4s.toList) then
 some true
 else
 some false
 else
 if (a0.toList == c16.toList) then
 if (a0.toList == c16.toList) then
 some true
 else
 some false
 else
 if (a0.toList == c1s.toList) then
 if (a0.toList == c1s.toList) then
 some true
 else
 some false
 else
 if (a0.toList == c1o.toList) then
 if (a0.toList == c1o.toList) then
 some true
 else
 some false
 else
 if (a0.toList == c7o.toList) then
 if (a0.toList == c7o.toList) then
 some true
 else
 some false
 else
 if (a0.toList == c1n.toList) then
 if (a0.toList == c1n.toList) then
 some true
 else
 some false
 else
 if (a0.toList == b1x.toList) then
 if (a0.toList == b1x.toList) then
 some true
 else
 some false
 else
 if (a0.toList == b4d.toList) then
 if (a0.toList == b4d.toList) then
 some true
 else
 some false
 else
 if (a0.toList == b04.toList) then
 if (a0.toList == b04.toList) then
 some true
 else
 some false
 else
 if (a0.toList == c43.toList) then
 some true
 else
 some false
def q7 (a0 : ByteArray) : Option Bool :=
 (a25 a0).bind fun v1 =>
 (if v1 then (a1s a0).bind fun v2 =>
 some (!v2) else some false).bind fun v3 =>
 some v3
def n4 (a0 : pensionref5_reader) : Option (ByteArray × pensionref5_reader) :=
 (g0 a0 1).bind fun v1 =>
 (if (!v1) then some true else (m7 a0.l a0.at_).bind fun v2 =>
 (q7 v2.Text).bind fun v3 =>
 some (!v3)).bind fun v4 =>
 if v4 then
 (d6 a0).bind fun v5 =>
 some (a1t, v5)
 else
 (m7 a0.l (i64 ((i64 (a0.at_ + 1)) - 1))).bind fun v6 =>
 some (v6.Text, (⟨a0.l, i64 (a0.at_ + 1), a0.end_, a0.bad⟩ : pensionref5_reader))
def a06 (a0 : Int) : Option Int :=
 if (decide (a0 < 0)) then
 some (u64 ((u64 (i64 (-(i64 (a0 + 1))))) + 1))
 else
 some (u64 (a0))
def b1c (v4 : Int × Int) : Option Int :=
 if (decide (v4.1 >= 256)) then
 (c5u .u64 v4.1 8).bind fun v5 =>
 (a8p b5j (IntKind.u8.wrap (v5))).bind fun v6 =>
 some (i64 ((i64 (v4.2 + 8)) + (i64 (v6))))
 else
 (a8p b5j (IntKind.u8.wrap (v4.1))).bind fun v7 =>
 some (i64 (v4.2 + (i64 (v7))))
def b11 (v2 : Int × Int) : Option Int :=
 if (decide (v2.1 >= 65536)) then
 (c5u .u64 v2.1 16).bind fun v3 =>
 joinC b1c (v3, i64 (v2.2 + 16))
 else
 joinC b1c (v2.1, v2.2)
def b6l (a0 : Int) : Option Int :=
 if (decide (a0 >= 4294967296)) then
 (c5u .u64 a0 32).bind fun v1 =>
 joinC b11 (v1, 32)
 else
 joinC b11 (a0, 0)
def a6d (a0 : Int) : Option Int :=
 (b6l a0).bind fun v1 =>
 some (i64 (64 - v1))
def b0u (v21 : Int × Int × Int × Int × Int × Int) : Option (Int × Int) :=
 (c5u .u64 (u64 ((u64 ((u64 (v21.2.2.2.2.1 * 4294967296)) + v21.2.2.1)) - (u64 (v21.2.2.2.2.2 * v21.1)))) v21.2.1).bind fun v22 =>
 some (u64 ((u64 (v21.2.2.2.1 * 4294967296)) + v21.2.2.2.2.2), v22)
def b7a (v16 : Int × Int × Int × Int × Int × Int × Int × Int) (r19 : (Int × Int) -> Option (Int × Int)) (v18 : Int × Int) : Option (Int × Int) :=
 (if (decide (v18.2 >= 4294967296)) then some true else some (decide ((u64 (v18.2 * v16.2.2.2.1)) > (u64 ((u64 (4294967296 * v18.1)) + v16.2.2.2.2.2.2.1))))).bind fun v20 =>
 if v20 then
 if (decide ((u64 (v18.1 + v16.2.2.1)) >= 4294967296)) then
 joinC b0u (v16.1, v16.2.1, v16.2.2.2.2.2.2.1, v16.2.2.2.2.2.2.2, u64 ((u64 ((u64 (v16.2.2.2.2.1 * 4294967296)) + v16.2.2.2.2.2.1)) - (u64 (v16.2.2.2.2.2.2.2 * v16.1))), u64 (v18.2 - 1))
 else
 r19 (u64 (v18.1 + v16.2.2.1), u64 (v18.2 - 1))
 else
 joinC b0u (v16.1, v16.2.1, v16.2.2.2.2.2.2.1, v16.2.2.2.2.2.2.2, u64 ((u64 ((u64 (v16.2.2.2.2.1 * 4294967296)) + v16.2.2.2.2.2.1)) - (u64 (v16.2.2.2.2.2.2.2 * v16.1))), v18.2)
def b0z (v16 : Int × Int × Int × Int × Int × Int × Int × Int) : Option (Int × Int) :=
 (if v16.2.2.1 = 0 then none else some (u64 (Int.tdiv (u64 ((u64 ((u64 (v16.2.2.2.2.1 * 4294967296)) + v16.2.2.2.2.2.1)) - (u64 (v16.2.2.2.2.2.2.2 * v16.1)))) v16.2.2.1))).bind fun v17 =>
 j6 FU (b7a v16) (u64 ((u64 ((u64 ((u64 (v16.2.2.2.2.1 * 4294967296)) + v16.2.2.2.2.2.1)) - (u64 (v16.2.2.2.2.2.2.2 * v16.1)))) - (u64 (v17 * v16.2.2.1))), v17)
def b7o (v6 : Int) (v11 : Int) (v7 : Int) (v5 : Int) (v8 : Int) (v9 : Int) (v10 : Int) (r14 : (Int × Int) -> Option (Int × Int)) (v13 : Int × Int) : Option (Int × Int) :=
 (if (decide (v13.1 >= 4294967296)) then some true else some (decide ((u64 (v13.1 * (d39 .u64 v6 4294967295))) > (u64 ((u64 (4294967296 * v13.2)) + v11))))).bind fun v15 =>
 if v15 then
 if (decide ((u64 (v13.2 + v7)) >= 4294967296)) then
 joinC b0z (v6, u64 (v5), v7, d39 .u64 v6 4294967295, orK .u64 v8 v9, v11, d39 .u64 v10 4294967295, u64 (v13.1 - 1))
 else
 r14 (u64 (v13.1 - 1), u64 (v13.2 + v7))
 else
 joinC b0z (v6, u64 (v5), v7, d39 .u64 v6 4294967295, orK .u64 v8 v9, v11, d39 .u64 v10 4294967295, v13.1)
def b0i (v2 : Int × Int × Int) : Option (Int × Int) :=
 if (v2.1 == 0) then
 (if v2.2.2 = 0 then none else some (u64 (Int.tdiv v2.2.1 v2.2.2))).bind fun v3 =>
 (b31 v2.2.1 v2.2.2).bind fun v4 =>
 some (v3, v4)
 else
 (a6d v2.2.2).bind fun v5 =>
 (d6a .u64 v2.2.2 (u64 (v5))).bind fun v6 =>
 (c5u .u64 v6 32).bind fun v7 =>
 (d6a .u64 v2.1 (u64 (v5))).bind fun v8 =>
 (c5u .u64 v2.2.1 (u64 (64 - (u64 (v5))))).bind fun v9 =>
 (d6a .u64 v2.2.1 (u64 (v5))).bind fun v10 =>
 (c5u .u64 v10 32).bind fun v11 =>
 (if v7 = 0 then none else some (u64 (Int.tdiv (orK .u64 v8 v9) v7))).bind fun v12 =>
 j6 FU (b7o v6 v11 v7 v5 v8 v9 v10) (v12, u64 ((orK .u64 v8 v9) - (u64 (v12 * v7))))
def b0s (v1 : Int × Int × Int) : Option (Int × Int) :=
 if (decide (v1.2.2 <= v1.1)) then
 none
 else
 joinC b0i (v1.1, v1.2.1, v1.2.2)
def a98 (a0 : Int) (a1 : Int) (a2 : Int) : Option (Int × Int) :=
 if (a2 == 0) then
 none
 else
 joinC b0s (a0, a1, a2)
def z8 (a0 : pensionref1_wide) (a1 : Int) : Option (pensionref1_wide × Int) :=
 (b31 a0.hi a1).bind fun v1 =>
 (a98 v1 a0.lo a1).bind fun v2 =>
 (if a1 = 0 then none else some (u64 (Int.tdiv a0.hi a1))).bind fun v3 =>
 some ((⟨v3, v2.1⟩ : pensionref1_wide), v2.2)
def a7e (r2 : (Int × Int) -> Option Int) (v1 : Int × Int) : Option Int :=
 if (v1.2 != 0) then
 (b31 v1.1 v1.2).bind fun v3 =>
 r2 (v1.2, v3)
 else
 some v1.1
def a2j (a0 : Int) (a1 : Int) : Option Int :=
 j6 FU a7e (a0, a1)
def a3v (a0 : Bool) (a1 : pensionref1_wide) (a2 : Int) : Option (Fraction × Int) :=
 (z8 a1 a2).bind fun v1 =>
 (a2j a2 v1.2).bind fun v2 =>
 (z8 a1 v2).bind fun v3 =>
 (if v2 = 0 then none else some (u64 (Int.tdiv a2 v2))).bind fun v4 =>
 (if (v3.1.hi != 0) then some true else some (decide (v3.1.lo > 1000000000000000))).bind fun v5 =>
 (if v5 then some true else some (decide (v4 > 1000000000))).bind fun v6 =>
 if v6 then
 some ((⟨0, 0⟩ : Fraction), 2)
 else
 if a0 then
 some ((⟨i64 (-(i64 (v3.1.lo))), i64 (v4)⟩ : Fraction), 0)
 else
 some ((⟨i64 (v3.1.lo), i64 (v4)⟩ : Fraction), 0)
def a01 (a0 : Int) (a1 : Int) : Option (Fraction × Int) :=
 if (a1 == 0) then
 some ((⟨0, 0⟩ : Fraction), 3)
 else
 (a06 a0).bind fun v1 =>
 (a06 a1).bind fun v2 =>
 (a3v ((decide (a0 < 0)) != (decide (a1 < 0))) (⟨0, v1⟩ : pensionref1_wide) v2).bind fun v3 =>
 some (v3.1, v3.2)
def a4q (v1 : ByteArray × ByteArray × Int × Bool) (r3 : (Fraction × Int × Int × Int) -> Option (Fraction × Int × Bool)) (v2 : Fraction × Int × Int × Int) : Option (Fraction × Int × Bool) :=
 if (decide (v2.2.2.2 < (i64 ((v1.1.size : Int) + (v1.2.1.size : Int))))) then
 (a1u v1.1 v1.2.1).bind fun v4 =>
 (a8p v4 v2.2.2.2).bind fun v5 =>
 if (decide (v2.2.2.2 >= (v1.1.size : Int))) then
 r3 (v2.1, i64 ((i64 (v2.2.1 * 10)) + (i64 (IntKind.u8.wrap (v5 - 48)))), i64 (v2.2.2.1 * 10), i64 (v2.2.2.2 + 1))
 else
 r3 (v2.1, i64 ((i64 (v2.2.1 * 10)) + (i64 (IntKind.u8.wrap (v5 - 48)))), v2.2.2.1, i64 (v2.2.2.2 + 1))
 else
 (a01 v2.2.1 v2.2.2.1).bind fun v6 =>
 some (v6.1, v1.2.2.1, true)
def t7 (a0 : ByteArray) : Option (Fraction × Int × Bool) :=
 (a1i a0).bind fun v1 =>
 if (!v1.2.2.2) then
 some ((⟨0, 0⟩ : Fraction), 0, false)
 else
 j6 FU (a4q v1) ((⟨0, 0⟩ : Fraction), 0, 1, 0)
def i7 (a0 : pensionref5_reader) (a1 : Int) (a2 : Int) : Option (Int × pensionref5_reader) :=
 (g0 a0 2).bind fun v1 =>
 if v1 then
 (m7 a0.l a0.at_).bind fun v2 =>
 (t7 v2.Text).bind fun v3 =>
 (if (v3.2.1 == 2) then some (v3.1.Den == 1) else some false).bind fun v4 =>
 (if v4 then some (decide (v3.1.Num >= a1)) else some false).bind fun v5 =>
 (if v5 then some (decide (v3.1.Num <= a2)) else some false).bind fun v6 =>
 if v6 then
 some (v3.1.Num, (⟨a0.l, i64 (a0.at_ + 1), a0.end_, a0.bad⟩ : pensionref5_reader))
 else
 (d6 a0).bind fun v7 =>
 some (0, v7)
 else
 (d6 a0).bind fun v8 =>
 some (0, v8)
def a2u (a0 : ByteArray) : Option Int :=
 (b48 a0 1 (a0.size : Int)).bind fun v1 =>
 (a0a v1).bind fun v2 =>
 some v2.1
def a1z (a0 : ByteArray) : Option Int :=
 if (a0.toList == b0w.toList) then
 some 6
 else
 if (a0.toList == b4z.toList) then
 some 9
 else
 if (a0.toList == a9r.toList) then
 some 7
 else
 if (a0.toList == c2u.toList) then
 some 8
 else
 if (a0.toList == b9m.toList) then
 some 10
 else
 if (a0.toList == b1i.toList) then
 some 5
 else
 some 0
def a0l (a0 : ByteArray) : Option Int :=
 if (a0.toList == c61.toList) then
 some 1
 else
 if (a0.toList == a9s.toList) then
 some 2
 else
 if (a0.toList == b2c.toList) then
 some 3
 else
 if (a0.toList == b67.toList) then
 some 4
 else
 if (a0.toList == b2r.toList) then
 some 5
 else
 some 0
def a1v (a0 : ByteArray) : Option Int :=
 if (a0.toList == c3e.toList) then
 some 1
 else
 if (a0.toList == d2q.toList) then
 some 2
 else
 if (a0.toList == c2b.toList) then
 some 3
 else
 if (a0.toList == c3z.toList) then
 some 4
 else
 some 0
def l8 (a0 : pensionref5_reader) (a1 : Int) : Option (Int × pensionref5_reader) :=
 (g0 a0 1).bind fun v1 =>
 if v1 then
 (m7 a0.l a0.at_).bind fun v2 =>
 (a1z v2.Text).bind fun v3 =>
 (a0l v2.Text).bind fun v4 =>
 (a1v v2.Text).bind fun v5 =>
 (m7 [v3, v4, v5] (i64 (a1 - 1))).bind fun v6 =>
 (m7 [v3, v4, v5] (i64 (a1 - 1))).bind fun v7 =>
 if (decide (v7 > 0)) then
 some (v7, (⟨a0.l, i64 (a0.at_ + 1), a0.end_, a0.bad⟩ : pensionref5_reader))
 else
 (d6 a0).bind fun v8 =>
 some (0, v8)
 else
 (d6 a0).bind fun v9 =>
 some (0, v9)
def a1y (a0 : Int) : Option Int :=
 (if (decide (a0 >= 1)) then some (decide (a0 <= 3)) else some false).bind fun v1 =>
 if v1 then
 some 0
 else
 (if (decide (a0 >= 4)) then some (decide (a0 <= 6)) else some false).bind fun v2 =>
 if v2 then
 some 1
 else
 (if (decide (a0 >= 7)) then some (decide (a0 <= 20)) else some false).bind fun v3 =>
 if v3 then
 some 2
 else
 if (a0 == 21) then
 some 3
 else
 some (-1 : Int)
def a1c (v2 : Int × Bool) : Option Int :=
 if v2.2 then
 some 5
 else
 if (v2.1 == 9) then
 if (v2.1 == 9) then
 some 6
 else
 some 7
 else
 if (v2.1 == 10) then
 some 6
 else
 some 7
def k9 (v1 : Int × Bool) : Option Int :=
 if v1.2 then
 some 4
 else
 if (v1.1 == 7) then
 joinC a1c (v1.1, v1.1 == 7)
 else
 joinC a1c (v1.1, v1.1 == 8)
def a2w (a0 : Int) : Option Int :=
 if (a0 == 21) then
 some 0
 else
 if (a0 == 18) then
 some 1
 else
 if (a0 == 17) then
 some 2
 else
 if (a0 == 5) then
 some 3
 else
 if (a0 == 11) then
 joinC k9 (a0, a0 == 11)
 else
 if (a0 == 12) then
 joinC k9 (a0, a0 == 12)
 else
 if (a0 == 13) then
 joinC k9 (a0, a0 == 13)
 else
 if (a0 == 14) then
 joinC k9 (a0, a0 == 14)
 else
 if (a0 == 15) then
 joinC k9 (a0, a0 == 15)
 else
 joinC k9 (a0, a0 == 16)
def a29 (a0 : Int) : Option ByteArray :=
 if (a0 == 7) then
 some d56
 else
 if (a0 == 8) then
 some c13
 else
 if (a0 == 9) then
 some d5y
 else
 if (a0 == 10) then
 some c8v
 else
 if (a0 == 11) then
 some d5g
 else
 if (a0 == 12) then
 some b68
 else
 if (a0 == 13) then
 some c8y
 else
 if (a0 == 14) then
 some b78
 else
 if (a0 == 15) then
 some d4g
 else
 if (a0 == 16) then
 some b70
 else
 if (a0 == 17) then
 some c1k
 else
 some c7o
def a28 (a1 : Int) (a0 : pensionref5_reader) (r2 : Int -> Option Int) (v1 : Int) : Option Int :=
 if (decide (v1 <= 18)) then
 (a2w v1).bind fun v3 =>
 (if (v3 == a1) then (a29 v1).bind fun v4 =>
 (j4 a0 v4).bind fun v5 =>
 some v5 else some false).bind fun v6 =>
 if v6 then
 some v1
 else
 r2 (i64 (v1 + 1))
 else
 some 0
def y9 (a0 : pensionref5_reader) (a1 : Int) : Option Int :=
 j6 FU (a28 a1 a0) 7
structure Ring_pensionref5_reader_expr where
  f_pensionref5_reader_expr : pensionref5_reader -> Int -> Option (Expr × pensionref5_reader)
  f_pensionref5_reader_factor : pensionref5_reader -> Option (Expr × pensionref5_reader)
  f_pensionref5_reader_call : pensionref5_reader -> Int -> Option (Expr × pensionref5_reader)
def a38 (R : Ring_pensionref5_reader_expr) (a1 : Int) (r14 : (pensionref5_reader × (List Expr) × Expr × Expr) -> Option (Expr × pensionref5_reader)) (v13 : pensionref5_reader × (List Expr) × Expr × Expr) : Option (Expr × pensionref5_reader) :=
 if (!v13.1.bad) then
 (y9 v13.1 a1).bind fun v15 =>
 if (v15 == 0) then
 some (v13.2.2.2, v13.1)
 else
 (R.f_pensionref5_reader_expr (⟨v13.1.l, i64 (v13.1.at_ + 1), v13.1.end_, v13.1.bad⟩ : pensionref5_reader) (i64 (a1 + 1))).bind fun v16 =>
 if (a1 == 4) then
 some ((⟨v15, (⟨0, 0⟩ : Fraction), 0, a1t, [v13.2.2.2, v16.1]⟩ : Expr), v16.2)
 else
 r14 (v16.2, v13.2.1, (⟨v13.2.2.1.Op, v13.2.2.1.Value, v13.2.2.1.Dim, v13.2.2.1.Name, []⟩ : Expr), (⟨v15, (⟨0, 0⟩ : Fraction), 0, a1t, [v13.2.2.2, v16.1]⟩ : Expr))
 else
 some (v13.2.2.2, v13.1)
def y7 (R : Ring_pensionref5_reader_expr) (a0 : pensionref5_reader) (a1 : Int) : Option (Expr × pensionref5_reader) :=
 if a0.bad then
 some ((⟨0, (⟨0, 0⟩ : Fraction), 0, a1t, []⟩ : Expr), a0)
 else
 if (a1 == 0) then
 (c5 a0 c2z).bind fun v1 =>
 if (!v1.1) then
 (R.f_pensionref5_reader_expr v1.2 1).bind fun v2 =>
 some (v2.1, v2.2)
 else
 (R.f_pensionref5_reader_expr v1.2 0).bind fun v3 =>
 (b9 v3.2 c43).bind fun v4 =>
 (R.f_pensionref5_reader_expr v4 0).bind fun v5 =>
 (b9 v5.2 b8e).bind fun v6 =>
 (R.f_pensionref5_reader_expr v6 0).bind fun v7 =>
 some ((⟨21, (⟨0, 0⟩ : Fraction), 0, a1t, [v3.1, v5.1, v7.1]⟩ : Expr), v7.2)
 else
 if (a1 == 3) then
 (c5 a0 c1o).bind fun v8 =>
 if v8.1 then
 (R.f_pensionref5_reader_expr v8.2 3).bind fun v9 =>
 some ((⟨5, (⟨0, 0⟩ : Fraction), 0, a1t, [v9.1]⟩ : Expr), v9.2)
 else
 (R.f_pensionref5_reader_expr v8.2 4).bind fun v10 =>
 some (v10.1, v10.2)
 else
 if (a1 == 7) then
 (R.f_pensionref5_reader_factor a0).bind fun v11 =>
 some (v11.1, v11.2)
 else
 (R.f_pensionref5_reader_expr a0 (i64 (a1 + 1))).bind fun v12 =>
 j6 FU (a38 R a1) (v12.2, [], (⟨0, (⟨0, 0⟩ : Fraction), 0, a1t, []⟩ : Expr), v12.1)
def q6 (R : Ring_pensionref5_reader_expr) (a0 : pensionref5_reader) : Option (Expr × pensionref5_reader) :=
 (g0 a0 2).bind fun v1 =>
 if v1 then
 (m7 a0.l a0.at_).bind fun v2 =>
 (t7 v2.Text).bind fun v3 =>
 some ((⟨1, v3.1, v3.2.1, a1t, []⟩ : Expr), (⟨a0.l, i64 (a0.at_ + 1), a0.end_, a0.bad⟩ : pensionref5_reader))
 else
 (c5 a0 c13).bind fun v4 =>
 if v4.1 then
 (R.f_pensionref5_reader_expr v4.2 7).bind fun v5 =>
 some ((⟨4, (⟨0, 0⟩ : Fraction), 0, a1t, [v5.1]⟩ : Expr), v5.2)
 else
 (c5 v4.2 c23).bind fun v6 =>
 if v6.1 then
 (R.f_pensionref5_reader_expr v6.2 0).bind fun v7 =>
 (b9 v7.2 b7n).bind fun v8 =>
 some (v7.1, v8)
 else
 (c5 v6.2 b7p).bind fun v9 =>
 if v9.1 then
 (b9 v9.2 c23).bind fun v10 =>
 (i7 v10 1 45).bind fun v11 =>
 (b9 v11.2 b7n).bind fun v12 =>
 some ((⟨3, (⟨v11.1, 1⟩ : Fraction), 0, a1t, []⟩ : Expr), v12)
 else
 (j4 v9.2 b4c).bind fun v13 =>
 if v13 then
 (R.f_pensionref5_reader_call v9.2 6).bind fun v14 =>
 some (v14.1, v14.2)
 else
 (j4 v9.2 c1s).bind fun v15 =>
 if v15 then
 (R.f_pensionref5_reader_call v9.2 19).bind fun v16 =>
 some (v16.1, v16.2)
 else
 (j4 v9.2 c16).bind fun v17 =>
 if v17 then
 (R.f_pensionref5_reader_call v9.2 20).bind fun v18 =>
 some (v18.1, v18.2)
 else
 (n4 v9.2).bind fun v19 =>
 some ((⟨2, (⟨0, 0⟩ : Fraction), 0, v19.1, []⟩ : Expr), v19.2)
def y8 (R : Ring_pensionref5_reader_expr) (a0 : pensionref5_reader) (a1 : Int) : Option (Expr × pensionref5_reader) :=
 (b9 (⟨a0.l, i64 (a0.at_ + 1), a0.end_, a0.bad⟩ : pensionref5_reader) c23).bind fun v1 =>
 (R.f_pensionref5_reader_expr v1 0).bind fun v2 =>
 (a1y a1).bind fun v3 =>
 if (v3 == 2) then
 (b9 v2.2 d4a).bind fun v4 =>
 (m7 [v2.1] 0).bind fun v5 =>
 (R.f_pensionref5_reader_expr v4 0).bind fun v6 =>
 (b9 v6.2 b7n).bind fun v7 =>
 some ((⟨a1, (⟨0, 0⟩ : Fraction), 0, a1t, [v5, v6.1]⟩ : Expr), v7)
 else
 (b9 v2.2 b7n).bind fun v8 =>
 some ((⟨a1, (⟨0, 0⟩ : Fraction), 0, a1t, [v2.1]⟩ : Expr), v8)
def c4 : Nat -> Ring_pensionref5_reader_expr
  | 0 => ⟨fun _ _ => none, fun _ => none, fun _ _ => none⟩
  | n + 1 => ⟨y7 (c4 n), q6 (c4 n), y8 (c4 n)⟩
def n5 (a0 : pensionref5_reader) (a1 : Int) : Option (Expr × pensionref5_reader) := (c4 FU).f_pensionref5_reader_expr a0 a1
def p6 (v5 : pensionref5_reader × (List Credit) × (List Index) × (List Let) × (List Grant) × (List Reduce) × Version × Credit) : Option (pensionref5_reader × Version × (List Credit) × (List Index) × (List Let) × (List Grant) × (List Reduce)) :=
 (a6y 16 v5.2.1 [v5.2.2.2.2.2.2.2]).bind fun v6 =>
 (b9 v5.1 b08).bind fun v7 =>
 some (v7, (⟨v5.2.2.2.2.2.2.1.From, v5.2.2.2.2.2.2.1.Rounding, [], [], [], [], []⟩ : Version), v6, v5.2.2.1, v5.2.2.2.1, v5.2.2.2.2.1, v5.2.2.2.2.2.1)
def p8 (v16 : pensionref5_reader × (List Credit) × (List Index) × (List Let) × (List Grant) × (List Reduce) × Version × Index) : Option (pensionref5_reader × Version × (List Credit) × (List Index) × (List Let) × (List Grant) × (List Reduce)) :=
 (a6y 24 v16.2.2.1 [v16.2.2.2.2.2.2.2]).bind fun v17 =>
 (b9 v16.1 b08).bind fun v18 =>
 some (v18, (⟨v16.2.2.2.2.2.2.1.From, v16.2.2.2.2.2.2.1.Rounding, [], [], [], [], []⟩ : Version), v16.2.1, v17, v16.2.2.2.1, v16.2.2.2.2.1, v16.2.2.2.2.2.1)
def l0 (v14 : pensionref5_reader × (List Credit) × (List Index) × (List Let) × (List Grant) × (List Reduce) × Version × Index) : Option (pensionref5_reader × Version × (List Credit) × (List Index) × (List Let) × (List Grant) × (List Reduce)) :=
 if (v14.2.2.2.2.2.2.2.Factor.Den == 0) then
 (d6 v14.1).bind fun v15 =>
 joinC p8 (v15, v14.2.1, v14.2.2.1, v14.2.2.2.1, v14.2.2.2.2.1, v14.2.2.2.2.2.1, (⟨v14.2.2.2.2.2.2.1.From, v14.2.2.2.2.2.2.1.Rounding, [], [], [], [], []⟩ : Version), v14.2.2.2.2.2.2.2)
 else
 joinC p8 (v14.1, v14.2.1, v14.2.2.1, v14.2.2.2.1, v14.2.2.2.2.1, v14.2.2.2.2.2.1, (⟨v14.2.2.2.2.2.2.1.From, v14.2.2.2.2.2.2.1.Rounding, [], [], [], [], []⟩ : Version), v14.2.2.2.2.2.2.2)
def z6 (a0 : pensionref5_reader) (a1 : Version) (a2 : List Credit) (a3 : List Index) (a4 : List Let) (a5 : List Grant) (a6 : List Reduce) : Option (pensionref5_reader × Version × (List Credit) × (List Index) × (List Let) × (List Grant) × (List Reduce)) :=
 (c5 a0 b1u).bind fun v1 =>
 if v1.1 then
 (l8 v1.2 1).bind fun v2 =>
 (c5 v2.2 b4s).bind fun v3 =>
 if v3.1 then
 (i7 v3.2 1 73049).bind fun v4 =>
 joinC p6 (v4.2, a2, a3, a4, a5, a6, (⟨a1.From, a1.Rounding, [], [], [], [], []⟩ : Version), (⟨v2.1, v4.1⟩ : Credit))
 else
 joinC p6 (v3.2, a2, a3, a4, a5, a6, (⟨a1.From, a1.Rounding, [], [], [], [], []⟩ : Version), (⟨v2.1, 0⟩ : Credit))
 else
 (c5 v1.2 b5k).bind fun v8 =>
 if v8.1 then
 (i7 v8.2 1900 2099).bind fun v9 =>
 (g0 v9.2 2).bind fun v10 =>
 if v10 then
 (m7 v9.2.l v9.2.at_).bind fun v11 =>
 (t7 v11.Text).bind fun v12 =>
 (if (v12.2.1 == 2) then some (decide (v12.1.Num > 0)) else some false).bind fun v13 =>
 if v13 then
 joinC l0 ((⟨v9.2.l, i64 (v9.2.at_ + 1), v9.2.end_, v9.2.bad⟩ : pensionref5_reader), a2, a3, a4, a5, a6, (⟨a1.From, a1.Rounding, [], [], [], [], []⟩ : Version), (⟨v9.1, v12.1⟩ : Index))
 else
 joinC l0 (v9.2, a2, a3, a4, a5, a6, (⟨a1.From, a1.Rounding, [], [], [], [], []⟩ : Version), (⟨v9.1, (⟨0, 0⟩ : Fraction)⟩ : Index))
 else
 joinC l0 (v9.2, a2, a3, a4, a5, a6, (⟨a1.From, a1.Rounding, [], [], [], [], []⟩ : Version), (⟨v9.1, (⟨0, 0⟩ : Fraction)⟩ : Index))
 else
 (c5 v8.2 c18).bind fun v19 =>
 if v19.1 then
 (n4 v19.2).bind fun v20 =>
 (b9 v20.2 c8y).bind fun v21 =>
 (n5 v21 0).bind fun v22 =>
 (a6y 88 a4 [(⟨v20.1, v22.1⟩ : Let)]).bind fun v23 =>
 (b9 v22.2 b08).bind fun v24 =>
 some (v24, (⟨a1.From, a1.Rounding, [], [], [], [], []⟩ : Version), a2, a3, v23, a5, a6)
 else
 (c5 v19.2 b3p).bind fun v25 =>
 if v25.1 then
 (l8 v25.2 2).bind fun v26 =>
 (b9 v26.2 c2z).bind fun v27 =>
 (n5 v27 0).bind fun v28 =>
 (b9 v28.2 c1n).bind fun v29 =>
 (n5 v29 0).bind fun v30 =>
 (a6y 152 a5 [(⟨v26.1, v28.1, v30.1⟩ : Grant)]).bind fun v31 =>
 (b9 v30.2 b08).bind fun v32 =>
 some (v32, (⟨a1.From, a1.Rounding, [], [], [], [], []⟩ : Version), a2, a3, a4, v31, a6)
 else
 (c5 v25.2 b1x).bind fun v33 =>
 if v33.1 then
 (l8 v33.2 2).bind fun v34 =>
 (b9 v34.2 c7n).bind fun v35 =>
 (n5 v35 0).bind fun v36 =>
 (a6y 80 a6 [(⟨v34.1, v36.1⟩ : Reduce)]).bind fun v37 =>
 (b9 v36.2 b08).bind fun v38 =>
 some (v38, (⟨a1.From, a1.Rounding, [], [], [], [], []⟩ : Version), a2, a3, a4, a5, v37)
 else
 (d6 v33.2).bind fun v39 =>
 (b9 v39 b08).bind fun v40 =>
 some (v40, (⟨a1.From, a1.Rounding, [], [], [], [], []⟩ : Version), a2, a3, a4, a5, a6)
def a21 (r12 : (pensionref5_reader × (List Credit) × (List Index) × (List Let) × (List Grant) × (List Reduce) × Version × (List Credit) × (List Index) × (List Let) × (List Grant) × (List Reduce) × Version) -> Option (Version × pensionref5_reader)) (v11 : pensionref5_reader × (List Credit) × (List Index) × (List Let) × (List Grant) × (List Reduce) × Version × (List Credit) × (List Index) × (List Let) × (List Grant) × (List Reduce) × Version) : Option (Version × pensionref5_reader) :=
 if (!v11.1.bad) then
 (c5 v11.1 b53).bind fun v13 =>
 if (!v13.1) then
 (z6 v13.2 (⟨v11.2.2.2.2.2.2.2.2.2.2.2.2.From, v11.2.2.2.2.2.2.2.2.2.2.2.2.Rounding, [], [], [], [], []⟩ : Version) v11.2.2.2.2.2.2.2.1 v11.2.2.2.2.2.2.2.2.1 v11.2.2.2.2.2.2.2.2.2.1 v11.2.2.2.2.2.2.2.2.2.2.1 v11.2.2.2.2.2.2.2.2.2.2.2.1).bind fun v14 =>
 r12 (v14.1, v11.2.1, v11.2.2.1, v11.2.2.2.1, v11.2.2.2.2.1, v11.2.2.2.2.2.1, (⟨v11.2.2.2.2.2.2.1.From, v11.2.2.2.2.2.2.1.Rounding, [], [], [], [], []⟩ : Version), v14.2.2.1, v14.2.2.2.1, v14.2.2.2.2.1, v14.2.2.2.2.2.1, v14.2.2.2.2.2.2, (⟨v14.2.1.From, v14.2.1.Rounding, [], [], [], [], []⟩ : Version))
 else
 some ((⟨v11.2.2.2.2.2.2.2.2.2.2.2.2.From, v11.2.2.2.2.2.2.2.2.2.2.2.2.Rounding, v11.2.2.2.2.2.2.2.1, v11.2.2.2.2.2.2.2.2.1, v11.2.2.2.2.2.2.2.2.2.1, v11.2.2.2.2.2.2.2.2.2.2.1, v11.2.2.2.2.2.2.2.2.2.2.2.1⟩ : Version), v13.2)
 else
 some ((⟨v11.2.2.2.2.2.2.2.2.2.2.2.2.From, v11.2.2.2.2.2.2.2.2.2.2.2.2.Rounding, v11.2.2.2.2.2.2.2.1, v11.2.2.2.2.2.2.2.2.1, v11.2.2.2.2.2.2.2.2.2.1, v11.2.2.2.2.2.2.2.2.2.2.1, v11.2.2.2.2.2.2.2.2.2.2.2.1⟩ : Version), v11.1)
def o8 (v5 : pensionref5_reader × (List Credit) × (List Index) × (List Let) × (List Grant) × (List Reduce) × Version × (List Credit) × (List Index) × (List Let) × (List Grant) × (List Reduce) × Version) : Option (Version × pensionref5_reader) :=
 (b9 v5.1 c9o).bind fun v6 =>
 (b9 v6 b4d).bind fun v7 =>
 (l8 v7 3).bind fun v8 =>
 (i7 v8.2 1 100000).bind fun v9 =>
 (b9 v9.2 b08).bind fun v10 =>
 j6 FU a21 (v10, v5.2.1, v5.2.2.1, v5.2.2.2.1, v5.2.2.2.2.1, v5.2.2.2.2.2.1, (⟨v5.2.2.2.2.2.2.1.From, v5.2.2.2.2.2.2.1.Rounding, [], [], [], [], []⟩ : Version), v5.2.2.2.2.2.2.2.1, v5.2.2.2.2.2.2.2.2.1, v5.2.2.2.2.2.2.2.2.2.1, v5.2.2.2.2.2.2.2.2.2.2.1, v5.2.2.2.2.2.2.2.2.2.2.2.1, (⟨v5.2.2.2.2.2.2.2.2.2.2.2.2.From, (⟨v8.1, v9.1⟩ : Rounding), [], [], [], [], []⟩ : Version))
def s7 (a0 : pensionref5_reader) : Option (Version × pensionref5_reader) :=
 (b9 a0 b7l).bind fun v1 =>
 (g0 v1 3).bind fun v2 =>
 if v2 then
 (m7 v1.l v1.at_).bind fun v3 =>
 (a2u v3.Text).bind fun v4 =>
 joinC o8 ((⟨v1.l, i64 (v1.at_ + 1), v1.end_, v1.bad⟩ : pensionref5_reader), [], [], [], [], [], (⟨0, (⟨0, 0⟩ : Rounding), [], [], [], [], []⟩ : Version), [], [], [], [], [], (⟨v4, (⟨0, 0⟩ : Rounding), [], [], [], [], []⟩ : Version))
 else
 (d6 v1).bind fun v15 =>
 joinC o8 (v15, [], [], [], [], [], (⟨0, (⟨0, 0⟩ : Rounding), [], [], [], [], []⟩ : Version), [], [], [], [], [], (⟨0, (⟨0, 0⟩ : Rounding), [], [], [], [], []⟩ : Version))
def a02 (a0 : pensionref5_reader) : Option Int :=
 if (decide (a0.at_ < (a0.l.length : Int))) then
 (m7 a0.l a0.at_).bind fun v1 =>
 some v1.At
 else
 some a0.end_
def a1d (a0 : Int) : Option Bool :=
 (if (decide (a0 >= 0)) then some (decide (a0 <= 73048)) else some false).bind fun v1 =>
 some v1
def y6 (a0 : Rounding) : Option Bool :=
 (if (decide (a0.Mode >= 1)) then some (decide (a0.Mode <= 4)) else some false).bind fun v1 =>
 (if v1 then some (decide (a0.Unit >= 1)) else some false).bind fun v2 =>
 (if v2 then some (decide (a0.Unit <= 100000)) else some false).bind fun v3 =>
 some v3
def a5j (a0 : Int) (a1 : Int) (r2 : ((List ByteArray) × Int) -> Option ByteArray) (v1 : (List ByteArray) × Int) : Option ByteArray :=
 (if (decide (v1.2 < (v1.1.length : Int))) then some (decide (a0 > 0)) else some false).bind fun v3 =>
 if v3 then
 (if (a1 == 1) then (m7 v1.1 v1.2).bind fun v4 =>
 (m7 v1.1 v1.2).bind fun v5 =>
 (a1z v5).bind fun v6 =>
 some (v6 == a0) else some false).bind fun v7 =>
 (if v7 then some true else (if (a1 == 2) then (m7 v1.1 v1.2).bind fun v8 =>
 (m7 v1.1 v1.2).bind fun v9 =>
 (a0l v9).bind fun v10 =>
 some (v10 == a0) else some false).bind fun v11 =>
 some v11).bind fun v12 =>
 (if v12 then some true else (if (a1 == 3) then (m7 v1.1 v1.2).bind fun v13 =>
 (m7 v1.1 v1.2).bind fun v14 =>
 (a1v v14).bind fun v15 =>
 some (v15 == a0) else some false).bind fun v16 =>
 some v16).bind fun v17 =>
 if v17 then
 (m7 v1.1 v1.2).bind fun v18 =>
 (m7 v1.1 v1.2).bind fun v19 =>
 some v19
 else
 r2 (v1.1, i64 (v1.2 + 1))
 else
 some a1t
def a04 (a0 : Int) (a1 : Int) : Option ByteArray :=
 j6 FU (a5j a0 a1) ([b0w, b4z, a9r, c2u, b9m, b1i, c61, a9s, b2c, b67, b2r, c3e, d2q, c2b, c3z], 0)
def o6 (a0 : Fraction) : Option Bool :=
 (if (decide (a0.Den >= 1)) then some (decide (a0.Den <= 1000000000)) else some false).bind fun v1 =>
 (if v1 then some (decide (a0.Num >= (-1000000000000000 : Int))) else some false).bind fun v2 =>
 (if v2 then some (decide (a0.Num <= 1000000000000000)) else some false).bind fun v3 =>
 (if v3 then (a06 a0.Num).bind fun v4 =>
 (a2j v4 (u64 (a0.Den))).bind fun v5 =>
 some (v5 == 1) else some false).bind fun v6 =>
 some v6
def a5d (a1 : Int) (r2 : (Int × ByteArray) -> Option ByteArray) (v1 : Int × ByteArray) : Option ByteArray :=
 (if (decide (v1.1 > 0)) then some true else some (decide ((v1.2.size : Int) < a1))).bind fun v3 =>
 if v3 then
 (b31 v1.1 10).bind fun v4 =>
 (b31 v1.1 10).bind fun v5 =>
 (b48 a18 v4 (i64 (v5 + 1))).bind fun v6 =>
 (a1u v6 v1.2).bind fun v7 =>
 (c0u v1.1 10).bind fun v8 =>
 r2 (v8, v7)
 else
 some v1.2
def a0x (a0 : Int) (a1 : Int) : Option ByteArray :=
 j6 FU (a5d a1) (a0, a1t)
def a05 (v5 : Fraction × ByteArray) : Option ByteArray :=
 if (v5.1.Den != 1) then
 (a1u v5.2 c8v).bind fun v6 =>
 (a0x v5.1.Den 1).bind fun v7 =>
 (a1u v6 v7).bind fun v8 =>
 some v8
 else
 some v5.2
def s5 (a0 : Fraction) : Option ByteArray :=
 (o6 a0).bind fun v1 =>
 if (!v1) then
 some a1t
 else
 (a06 a0.Num).bind fun v2 =>
 (a0x (i64 (v2)) 1).bind fun v3 =>
 if (decide (a0.Num < 0)) then
 (a1u c13 v3).bind fun v4 =>
 joinC a05 (a0, v4)
 else
 joinC a05 (a0, v3)
def a27 (v11 : Int × ByteArray × Int) (r13 : (ByteArray × Int × Int) -> Option (ByteArray × Bool)) (v12 : ByteArray × Int × Int) : Option (ByteArray × Bool) :=
 if (decide (v12.2.1 > 0)) then
 (c0u v12.2.1 v12.2.2).bind fun v14 =>
 (c0u v12.2.1 v12.2.2).bind fun v15 =>
 (b48 a18 v14 (i64 (v15 + 1))).bind fun v16 =>
 (a1u v12.1 v16).bind fun v17 =>
 (b31 v12.2.1 v12.2.2).bind fun v18 =>
 (c0u v12.2.2 10).bind fun v19 =>
 r13 (v17, v18, v19)
 else
 (m7 [a1t, d1a, c9z] (i64 (v11.1 - 2))).bind fun v20 =>
 (m7 [a1t, d1a, c9z] (i64 (v11.1 - 2))).bind fun v21 =>
 (a1u v12.1 v21).bind fun v22 =>
 some (v22, true)
def p7 (v11 : Int × ByteArray × Int) : Option (ByteArray × Bool) :=
 j6 FU (a27 v11) (v11.2.1, v11.2.2, 1000)
def o5 (a0 : Fraction) (a1 : Int) : Option (ByteArray × Bool) :=
 (o6 a0).bind fun v1 =>
 (if (!v1) then some true else some (decide (a0.Num < 0))).bind fun v2 =>
 (if v2 then some true else (b31 10000 a0.Den).bind fun v3 =>
 some (v3 != 0)).bind fun v4 =>
 (if v4 then some true else some (decide (a1 < 2))).bind fun v5 =>
 (if v5 then some true else some (decide (a1 > 4))).bind fun v6 =>
 if v6 then
 some (a1t, false)
 else
 (c0u a0.Num a0.Den).bind fun v7 =>
 if (decide (v7 > 999999999)) then
 some (a1t, false)
 else
 (s5 (⟨v7, 1⟩ : Fraction)).bind fun v8 =>
 (c0u 10000 a0.Den).bind fun v9 =>
 if (decide ((i64 ((i64 (a0.Num - (i64 (v7 * a0.Den)))) * v9)) > 0)) then
 (a1u v8 b4p).bind fun v10 =>
 joinC p7 (a1, v10, i64 ((i64 (a0.Num - (i64 (v7 * a0.Den)))) * v9))
 else
 joinC p7 (a1, v8, i64 ((i64 (a0.Num - (i64 (v7 * a0.Den)))) * v9))
structure Ring_pensionref5_Depth where
  f_pensionref5_Depth : Expr -> Option Int
def a5t (R : Ring_pensionref5_Depth) (r2 : (Expr × Int × Int) -> Option Int) (v1 : Expr × Int × Int) : Option Int :=
 if (decide (v1.2.2 < (v1.1.Args.length : Int))) then
 (m7 v1.1.Args v1.2.2).bind fun v3 =>
 (R.f_pensionref5_Depth v3).bind fun v4 =>
 r2 (v1.1, max v1.2.1 v4, i64 (v1.2.2 + 1))
 else
 some (i64 (v1.2.1 + 1))
def a1p (R : Ring_pensionref5_Depth) (a0 : Expr) : Option Int :=
 j6 FU (a5t R) (a0, 0, 0)
def i6 : Nat -> Ring_pensionref5_Depth
  | 0 => ⟨fun _ => none⟩
  | n + 1 => ⟨a1p (i6 n)⟩
def b1q (a0 : Expr) : Option Int := (i6 FU).f_pensionref5_Depth a0
structure Ring_pensionref5_Size where
  f_pensionref5_Size : Expr -> Option Int
def a6m (R : Ring_pensionref5_Size) (r2 : (Expr × Int × Int) -> Option Int) (v1 : Expr × Int × Int) : Option Int :=
 if (decide (v1.2.2 < (v1.1.Args.length : Int))) then
 (m7 v1.1.Args v1.2.2).bind fun v3 =>
 (R.f_pensionref5_Size v3).bind fun v4 =>
 r2 (v1.1, i64 (v1.2.1 + v4), i64 (v1.2.2 + 1))
 else
 some v1.2.1
def a23 (R : Ring_pensionref5_Size) (a0 : Expr) : Option Int :=
 j6 FU (a6m R) (a0, 1, 0)
def j5 : Nat -> Ring_pensionref5_Size
  | 0 => ⟨fun _ => none⟩
  | n + 1 => ⟨a23 (j5 n)⟩
def b36 (a0 : Expr) : Option Int := (j5 FU).f_pensionref5_Size a0
structure Ring_pensionref5_formed where
  f_pensionref5_formed : Expr -> Option Bool
def a5f (R : Ring_pensionref5_formed) (v3 : Bool) (r14 : (Expr × Int) -> Option Bool) (v13 : Expr × Int) : Option Bool :=
 if (decide (v13.2 < (v13.1.Args.length : Int))) then
 (m7 v13.1.Args v13.2).bind fun v15 =>
 (R.f_pensionref5_formed v15).bind fun v16 =>
 if (!v16) then
 some false
 else
 r14 (v13.1, i64 (v13.2 + 1))
 else
 some v3
def a1b (R : Ring_pensionref5_formed) (a0 : Expr) : Option Bool :=
 (a1y a0.Op).bind fun v1 =>
 if ((a0.Args.length : Int) != v1) then
 some false
 else
 (if ((a0.Value.Num == 0) && ((a0.Value.Den == 0) && (true))) then some (a0.Dim == 0) else some false).bind fun v2 =>
 (if v2 then some (a0.Name.toList == a1t.toList) else some false).bind fun v3 =>
 if (a0.Op == 1) then
 (o5 a0.Value a0.Dim).bind fun v4 =>
 (if v4.2 then some (a0.Name.toList == a1t.toList) else some false).bind fun v5 =>
 some v5
 else
 if (a0.Op == 2) then
 (if ((a0.Value.Num == 0) && ((a0.Value.Den == 0) && (true))) then some (a0.Dim == 0) else some false).bind fun v6 =>
 (if v6 then (q7 a0.Name).bind fun v7 =>
 some v7 else some false).bind fun v8 =>
 some v8
 else
 if (a0.Op == 3) then
 (if (a0.Dim == 0) then some (a0.Name.toList == a1t.toList) else some false).bind fun v9 =>
 (if v9 then some (a0.Value.Den == 1) else some false).bind fun v10 =>
 (if v10 then some (decide (a0.Value.Num >= 1)) else some false).bind fun v11 =>
 (if v11 then some (decide (a0.Value.Num <= 45)) else some false).bind fun v12 =>
 some v12
 else
 j6 FU (a5f R v3) (a0, 0)
def g7 : Nat -> Ring_pensionref5_formed
  | 0 => ⟨fun _ => none⟩
  | n + 1 => ⟨a1b (g7 n)⟩
def b16 (a0 : Expr) : Option Bool := (g7 FU).f_pensionref5_formed a0
def l9 (a0 : Expr) : Option Bool :=
 (b1q a0).bind fun v1 =>
 (if (decide (v1 <= 10)) then (b36 a0).bind fun v2 =>
 some (decide (v2 <= 60)) else some false).bind fun v3 =>
 (if v3 then (b16 a0).bind fun v4 =>
 some v4 else some false).bind fun v5 =>
 some v5
def a0i (r45 : (Version × Int) -> Option Bool) (v44 : Version × Int) : Option Bool :=
 if (decide (v44.2 < (v44.1.Reduces.length : Int))) then
 (m7 v44.1.Reduces v44.2).bind fun v46 =>
 (a04 v46.Benefit 2).bind fun v47 =>
 (if (v47.toList == a1t.toList) then some true else (m7 v44.1.Reduces v44.2).bind fun v48 =>
 (l9 v48.By).bind fun v49 =>
 some (!v49)).bind fun v50 =>
 if v50 then
 some false
 else
 r45 (v44.1, i64 (v44.2 + 1))
 else
 some true
def a0n (r35 : (Version × Int) -> Option Bool) (v34 : Version × Int) : Option Bool :=
 if (decide (v34.2 < (v34.1.Grants.length : Int))) then
 (m7 v34.1.Grants v34.2).bind fun v36 =>
 (a04 v36.Benefit 2).bind fun v37 =>
 (if (v37.toList == a1t.toList) then some true else (m7 v34.1.Grants v34.2).bind fun v38 =>
 (l9 v38.If).bind fun v39 =>
 some (!v39)).bind fun v40 =>
 (if v40 then some true else (m7 v34.1.Grants v34.2).bind fun v41 =>
 (l9 v41.Pay).bind fun v42 =>
 some (!v42)).bind fun v43 =>
 if v43 then
 some false
 else
 r35 (v34.1, i64 (v34.2 + 1))
 else
 j6 FU a0i (v34.1, 0)
def a0h (r28 : (Version × Int) -> Option Bool) (v27 : Version × Int) : Option Bool :=
 if (decide (v27.2 < (v27.1.Lets.length : Int))) then
 (m7 v27.1.Lets v27.2).bind fun v29 =>
 (q7 v29.Name).bind fun v30 =>
 (if (!v30) then some true else (m7 v27.1.Lets v27.2).bind fun v31 =>
 (l9 v31.Body).bind fun v32 =>
 some (!v32)).bind fun v33 =>
 if v33 then
 some false
 else
 r28 (v27.1, i64 (v27.2 + 1))
 else
 j6 FU a0n (v27.1, 0)
def a0m (r18 : (Version × Int) -> Option Bool) (v17 : Version × Int) : Option Bool :=
 if (decide (v17.2 < (v17.1.Series.length : Int))) then
 (m7 v17.1.Series v17.2).bind fun v19 =>
 (o5 v19.Factor 2).bind fun v20 =>
 (m7 v17.1.Series v17.2).bind fun v21 =>
 (if (decide (v21.Year < 1900)) then some true else (m7 v17.1.Series v17.2).bind fun v22 =>
 some (decide (v22.Year > 2099))).bind fun v23 =>
 (if v23 then some true else some (!v20.2)).bind fun v24 =>
 (if v24 then some true else (m7 v17.1.Series v17.2).bind fun v25 =>
 some (decide (v25.Factor.Num < 1))).bind fun v26 =>
 if v26 then
 some false
 else
 r18 (v17.1, i64 (v17.2 + 1))
 else
 j6 FU a0h (v17.1, 0)
def a0g (r10 : (Version × Int) -> Option Bool) (v9 : Version × Int) : Option Bool :=
 if (decide (v9.2 < (v9.1.Credits.length : Int))) then
 (m7 v9.1.Credits v9.2).bind fun v11 =>
 (a04 v11.Kind 1).bind fun v12 =>
 (if (v12.toList == a1t.toList) then some true else (m7 v9.1.Credits v9.2).bind fun v13 =>
 some (decide (v13.Limit < 0))).bind fun v14 =>
 (if v14 then some true else (m7 v9.1.Credits v9.2).bind fun v15 =>
 some (decide (v15.Limit > 73049))).bind fun v16 =>
 if v16 then
 some false
 else
 r10 (v9.1, i64 (v9.2 + 1))
 else
 j6 FU a0m (v9.1, 0)
def a03 (a0 : Version) : Option Bool :=
 (a1d a0.From).bind fun v1 =>
 (if (!v1) then some true else (y6 a0.Rounding).bind fun v2 =>
 some (!v2)).bind fun v3 =>
 (if v3 then some true else some (decide ((a0.Credits.length : Int) > 6))).bind fun v4 =>
 (if v4 then some true else some (decide ((a0.Series.length : Int) > 20))).bind fun v5 =>
 (if v5 then some true else some (decide ((a0.Lets.length : Int) > 10))).bind fun v6 =>
 (if v6 then some true else some (decide ((a0.Grants.length : Int) > 5))).bind fun v7 =>
 (if v7 then some true else some (decide ((a0.Reduces.length : Int) > 5))).bind fun v8 =>
 if v8 then
 some false
 else
 j6 FU a0g (a0, 0)
def a5z (r7 : (Statute × Int) -> Option Bool) (v6 : Statute × Int) : Option Bool :=
 if (decide (v6.2 < (v6.1.Versions.length : Int))) then
 (m7 v6.1.Versions v6.2).bind fun v8 =>
 (a03 v8).bind fun v9 =>
 if (!v9) then
 some false
 else
 r7 (v6.1, i64 (v6.2 + 1))
 else
 some true
def a2p (a0 : Statute) : Option Bool :=
 (q7 a0.Name).bind fun v1 =>
 (if (!v1) then some true else some (decide (a0.Currency < 1))).bind fun v2 =>
 (if v2 then some true else some (decide (a0.Currency > 999))).bind fun v3 =>
 (if v3 then some true else some (decide ((a0.Versions.length : Int) < 1))).bind fun v4 =>
 (if v4 then some true else some (decide ((a0.Versions.length : Int) > 6))).bind fun v5 =>
 if v5 then
 some false
 else
 j6 FU a5z (a0, 0)
def a19 (r9 : ((List Version) × Statute × pensionref5_reader × (List Version) × Statute × Bool) -> Option (Statute × Int × Int)) (v10 : (List Version) × Statute × pensionref5_reader × (List Version) × Statute) : Option (Statute × Int × Int) :=
 (s7 v10.2.2.1).bind fun v11 =>
 (a6y 144 v10.2.2.2.1 [v11.1]).bind fun v12 =>
 r9 (v10.1, (⟨v10.2.1.Name, v10.2.1.Currency, []⟩ : Statute), v11.2, v12, (⟨v10.2.2.2.2.Name, v10.2.2.2.2.Currency, []⟩ : Statute), false)
def a1a (v14 : (List Version) × Statute × pensionref5_reader × (List Version) × Statute) : Option (Statute × Int × Int) :=
 (if v14.2.2.1.bad then some true else some (decide (v14.2.2.1.at_ < (v14.2.2.1.l.length : Int)))).bind fun v15 =>
 if v15 then
 (a02 v14.2.2.1).bind fun v16 =>
 some ((⟨a1t, 0, []⟩ : Statute), v16, 4)
 else
 (a2p (⟨v14.2.2.2.2.Name, v14.2.2.2.2.Currency, v14.2.2.2.1⟩ : Statute)).bind fun v17 =>
 if (!v17) then
 some ((⟨a1t, 0, []⟩ : Statute), 0, 7)
 else
 some ((⟨v14.2.2.2.2.Name, v14.2.2.2.2.Currency, v14.2.2.2.1⟩ : Statute), 0, 0)
def a63 (r9 : ((List Version) × Statute × pensionref5_reader × (List Version) × Statute × Bool) -> Option (Statute × Int × Int)) (v8 : (List Version) × Statute × pensionref5_reader × (List Version) × Statute × Bool) : Option (Statute × Int × Int) :=
 if (!v8.2.2.1.bad) then
 if v8.2.2.2.2.2 then
 joinC (a19 r9) (v8.1, (⟨v8.2.1.Name, v8.2.1.Currency, []⟩ : Statute), v8.2.2.1, v8.2.2.2.1, (⟨v8.2.2.2.2.1.Name, v8.2.2.2.2.1.Currency, []⟩ : Statute))
 else
 (c5 v8.2.2.1 b53).bind fun v13 =>
 if (!v13.1) then
 joinC (a19 r9) (v8.1, (⟨v8.2.1.Name, v8.2.1.Currency, []⟩ : Statute), v13.2, v8.2.2.2.1, (⟨v8.2.2.2.2.1.Name, v8.2.2.2.2.1.Currency, []⟩ : Statute))
 else
 joinC a1a (v8.1, (⟨v8.2.1.Name, v8.2.1.Currency, []⟩ : Statute), v13.2, v8.2.2.2.1, (⟨v8.2.2.2.2.1.Name, v8.2.2.2.2.1.Currency, []⟩ : Statute))
 else
 joinC a1a (v8.1, (⟨v8.2.1.Name, v8.2.1.Currency, []⟩ : Statute), v8.2.2.1, v8.2.2.2.1, (⟨v8.2.2.2.2.1.Name, v8.2.2.2.2.1.Currency, []⟩ : Statute))
def a2t (a0 : ByteArray) : Option (Statute × Int × Int) :=
 (a2v a0).bind fun v1 =>
 optC v1.1 (if (v1.2.2 != 0) then
 some ((⟨a1t, 0, []⟩ : Statute), v1.2.1, v1.2.2)
 else
 none) fun v2 =>
 if (v1.2.2 != 0) then
 some ((⟨a1t, 0, []⟩ : Statute), v1.2.1, v1.2.2)
 else
 (b9 v2 b04).bind fun v3 =>
 (n4 v3).bind fun v4 =>
 (b9 v4.2 a8z).bind fun v5 =>
 (i7 v5 1 999).bind fun v6 =>
 (b9 v6.2 c9o).bind fun v7 =>
 j6 FU a63 ([], (⟨a1t, 0, []⟩ : Statute), v7, [], (⟨v4.1, v6.1, []⟩ : Statute), true)
def a6h (a0 : List Int) (r2 : ((List State) × (List Rules) × (List Rate) × Laws × (List State) × (List Rules) × Laws × Int) -> Option Laws) (v1 : (List State) × (List Rules) × (List Rate) × Laws × (List State) × (List Rules) × Laws × Int) : Option Laws :=
 if (decide (v1.2.2.2.2.2.2.2 < 3)) then
 (a3i v1.2.2.2.2.2.2.2 a0).bind fun v3 =>
 (a2t v3).bind fun v4 =>
 if (v4.2.2 == 0) then
 (a6y 56 v1.2.2.2.2.1 [(⟨v1.2.2.2.2.2.2.2, v4.1⟩ : State)]).bind fun v5 =>
 r2 (v1.1, v1.2.1, v1.2.2.1, (⟨[], [], []⟩ : Laws), v5, v1.2.2.2.2.2.1, (⟨[], [], v1.2.2.2.2.2.2.1.Rates⟩ : Laws), i64 (v1.2.2.2.2.2.2.2 + 1))
 else
 r2 (v1.1, v1.2.1, v1.2.2.1, (⟨[], [], []⟩ : Laws), v1.2.2.2.2.1, v1.2.2.2.2.2.1, (⟨[], [], v1.2.2.2.2.2.2.1.Rates⟩ : Laws), i64 (v1.2.2.2.2.2.2.2 + 1))
 else
 (c3 a0 2).bind fun v6 =>
 (b7 v6 6).bind fun v7 =>
 (c3 a0 5).bind fun v8 =>
 (b7 v8 3).bind fun v9 =>
 if (v9 == 0) then
 (m7 [(⟨0, i64 (90 * v7), 730, 25, [0, 1]⟩ : Rules)] 0).bind fun v10 =>
 (m7 [(⟨0, i64 (90 * v7), 730, 25, [0, 1]⟩ : Rules)] 0).bind fun v11 =>
 some (⟨v1.2.2.2.2.1, b01 [(⟨0, i64 (90 * v7), 730, 25, [0, 1]⟩ : Rules)] 0 (⟨v11.From, v11.MinDays, v11.PostingLimit, v11.Substantial, [0, 1, 2]⟩ : Rules), v1.2.2.2.2.2.2.1.Rates⟩ : Laws)
 else
 if (v9 == 1) then
 (a6y 56 [(⟨0, i64 (90 * v7), 730, 25, [0, 1]⟩ : Rules)] [(⟨35000, i64 (90 * v7), 365, 30, [0, 1, 2]⟩ : Rules)]).bind fun v12 =>
 some (⟨v1.2.2.2.2.1, v12, v1.2.2.2.2.2.2.1.Rates⟩ : Laws)
 else
 (m7 [(⟨0, i64 (90 * v7), 730, 25, [0, 1]⟩ : Rules)] 0).bind fun v13 =>
 (m7 [(⟨0, i64 (90 * v7), 730, 25, [0, 1]⟩ : Rules)] 0).bind fun v14 =>
 (a6y 56 (b01 [(⟨0, i64 (90 * v7), 730, 25, [0, 1]⟩ : Rules)] 0 (⟨v14.From, v14.MinDays, v14.PostingLimit, v14.Substantial, [0, 1, 2]⟩ : Rules)) [(⟨36000, i64 (90 * v7), 730, 25, [0, 1]⟩ : Rules)]).bind fun v15 =>
 some (⟨v1.2.2.2.2.1, v15, v1.2.2.2.2.2.2.1.Rates⟩ : Laws)
def a3n (a0 : List Int) : Option Laws :=
 j6 FU (a6h a0) ([], [], [], (⟨[], [], []⟩ : Laws), [], [], (⟨[], [], [(⟨1, 0, (⟨1, 1⟩ : Fraction)⟩ : Rate), (⟨2, 0, (⟨3, 2⟩ : Fraction)⟩ : Rate), (⟨3, 0, (⟨1, 7⟩ : Fraction)⟩ : Rate), (⟨3, 1150, (⟨1, 9⟩ : Fraction)⟩ : Rate)]⟩ : Laws), 0)
def a5v (a0 : List Int) (r2 : ((List api_Fact) × Int) -> Option (List api_Fact)) (v1 : (List api_Fact) × Int) : Option (List api_Fact) :=
 if (decide (v1.2 <= 2)) then
 (c3 a0 v1.2).bind fun v3 =>
 (b7 v3 3).bind fun v4 =>
 (c3 a0 (i64 (v1.2 + 2))).bind fun v5 =>
 (b7 v5 3).bind fun v6 =>
 (c3 a0 (i64 (v1.2 + 4))).bind fun v7 =>
 (b7 v7 6000).bind fun v8 =>
 (c3 a0 (i64 (v1.2 + 6))).bind fun v9 =>
 (b7 v9 3000).bind fun v10 =>
 (a6y 112 v1.1 [(⟨v4, i64 (900 + v1.2), 1, false, v1.2, 11, 0, (⟨i64 (13000 + v10), i64 ((i64 (13000 + v10)) + 1)⟩ : Span), 0, 0, 0, 0, 0⟩ : api_Fact)]).bind fun v11 =>
 (a6y 112 v11 [(⟨v4, i64 (910 + v1.2), 1, false, v1.2, 5, v4, (⟨20000, 60000⟩ : Span), 0, 0, 0, 0, 0⟩ : api_Fact)]).bind fun v12 =>
 (c3 a0 (i64 (v1.2 + 8))).bind fun v13 =>
 (b7 v13 900000).bind fun v14 =>
 (a6y 112 v12 [(⟨v4, i64 (920 + v1.2), 1, false, v1.2, 1, v4, (⟨22000, i64 (27000 + v8)⟩ : Span), v4, 100, i64 (1 + v4), i64 (900000 + v14), 0⟩ : api_Fact)]).bind fun v15 =>
 (c3 a0 (i64 (v1.2 + 10))).bind fun v16 =>
 (b7 v16 3000).bind fun v17 =>
 (c3 a0 (i64 (v1.2 + 12))).bind fun v18 =>
 (b7 v18 900000).bind fun v19 =>
 (a6y 112 v15 [(⟨v6, i64 (930 + v1.2), 1, false, v1.2, 1, v6, (⟨i64 (27000 + v8), i64 (34400 + v17)⟩ : Span), v6, 50, i64 (1 + v6), i64 (700000 + v19), 0⟩ : api_Fact)]).bind fun v20 =>
 (a6y 112 v20 [(⟨v4, i64 (940 + v1.2), 1, false, v1.2, 10, v4, (⟨32000, 38500⟩ : Span), 0, 0, 0, 0, 3⟩ : api_Fact)]).bind fun v21 =>
 (a6y 112 v21 [(⟨v4, i64 (950 + v1.2), 1, false, v1.2, 14, 0, (⟨26000, 50000⟩ : Span), 0, 0, 0, 0, i64 (3 - v1.2)⟩ : api_Fact)]).bind fun v22 =>
 r2 (v22, i64 (v1.2 + 1))
 else
 (c3 a0 15).bind fun v23 =>
 (b7 v23 2000).bind fun v24 =>
 (c3 a0 16).bind fun v25 =>
 (b7 v25 2000).bind fun v26 =>
 (a6y 112 v1.1 [(⟨0, 961, 1, false, 1, 13, 0, (⟨i64 (34000 + v24), i64 (36500 + v26)⟩ : Span), 0, 0, 0, 0, 0⟩ : api_Fact)]).bind fun v27 =>
 (c3 a0 17).bind fun v28 =>
 (b7 v28 900).bind fun v29 =>
 (c3 a0 17).bind fun v30 =>
 (b7 v30 900).bind fun v31 =>
 (a6y 112 v27 [(⟨1, 962, 1, false, 2, 12, 0, (⟨i64 (35600 + v29), i64 (35601 + v31)⟩ : Span), 0, 0, 0, 0, 0⟩ : api_Fact)]).bind fun v32 =>
 (c3 a0 18).bind fun v33 =>
 (b7 v33 1200).bind fun v34 =>
 (c3 a0 19).bind fun v35 =>
 (b7 v35 300).bind fun v36 =>
 (a6y 112 v32 [(⟨0, 963, 1, false, 1, 8, 0, (⟨i64 (35000 + v34), i64 (36250 + v36)⟩ : Span), 0, 0, 0, 0, 0⟩ : api_Fact)]).bind fun v37 =>
 some v37
def a2r (a0 : List Int) : Option (List api_Fact) :=
 j6 FU (a5v a0) ([], 1)
def n7 (a0 : Int) : Option ByteArray :=
 (if (decide (a0 < 1)) then some true else some (decide (a0 >= ([a1t, a4u, a2k, a2k, b0e, a4c, a7z, a4c, a4c, a4c, b05, b0a, b0a, b0a, b4i].length : Int)))).bind fun v1 =>
 if v1 then
 some a1t
 else
 (m7 [a1t, a4u, a2k, a2k, b0e, a4c, a7z, a4c, a4c, a4c, b05, b0a, b0a, b0a, b4i] a0).bind fun v2 =>
 (m7 [a1t, a4u, a2k, a2k, b0e, a4c, a7z, a4c, a4c, a4c, b05, b0a, b0a, b0a, b4i] a0).bind fun v3 =>
 some v3
def a9j (v1 : ByteArray) (a1 : Int) (r3 : Int -> Option Bool) (v2 : Int) : Option Bool :=
 if (decide (v2 < (v1.size : Int))) then
 (a8p v1 v2).bind fun v4 =>
 if (v4 == a1) then
 some true
 else
 r3 (i64 (v2 + 1))
 else
 some false
def d9 (a0 : Int) (a1 : Int) : Option Bool :=
 (n7 a0).bind fun v1 =>
 j6 FU (a9j v1 a1) 0
def l6 (a0 : Int) (a1 : Int) (a2 : Int) (a3 : Int) (a4 : Int) : Option Bool :=
 (d9 a0 a1).bind fun v1 =>
 if v1 then
 (if (decide (a2 >= a3)) then some (decide (a2 <= a4)) else some false).bind fun v2 =>
 some v2
 else
 some (a2 == 0)
def g9 (a0 : api_Fact) : Option Bool :=
 (if (decide (a0.Issuer < 0)) then some true else some (decide (a0.Issuer >= 6))).bind fun v1 =>
 (if v1 then some true else some (decide (a0.Number < 1))).bind fun v2 =>
 (if v2 then some true else some (decide (a0.Number > 999))).bind fun v3 =>
 (if v3 then some true else some (decide (a0.Version < 1))).bind fun v4 =>
 (if v4 then some true else some (decide (a0.Version > 99))).bind fun v5 =>
 (if v5 then some true else some (decide (a0.Person < 1))).bind fun v6 =>
 (if v6 then some true else some (decide (a0.Person > 99))).bind fun v7 =>
 (if v7 then some true else (n7 a0.Kind).bind fun v8 =>
 some (v8.toList == a1t.toList)).bind fun v9 =>
 if v9 then
 some false
 else
 (if (decide (a0.Span.From < 0)) then some true else some (decide (a0.Span.From >= a0.Span.To))).bind fun v10 =>
 (if v10 then some true else some (decide (a0.Span.To > 73049))).bind fun v11 =>
 if v11 then
 some false
 else
 (if (a0.Kind == 11) then some true else some (a0.Kind == 12)).bind fun v12 =>
 (if v12 then some ((i64 (a0.Span.To - a0.Span.From)) != 1) else some false).bind fun v13 =>
 (if v13 then some true else (if (a0.Kind == 4) then some (a0.Seat == a0.State) else some false).bind fun v14 =>
 some v14).bind fun v15 =>
 (if v15 then some true else (if (a0.Kind == 10) then some true else some (a0.Kind == 14)).bind fun v16 =>
 (if v16 then some (a0.Ref == a0.Person) else some false).bind fun v17 =>
 some v17).bind fun v18 =>
 if v18 then
 some false
 else
 (l6 a0.Kind 83 a0.State 0 5).bind fun v19 =>
 (if v19 then (l6 a0.Kind 84 a0.Seat 0 5).bind fun v20 =>
 some v20 else some false).bind fun v21 =>
 (if v21 then (l6 a0.Kind 72 a0.Share 1 100).bind fun v22 =>
 some v22 else some false).bind fun v23 =>
 (if v23 then (l6 a0.Kind 67 a0.Currency 1 999).bind fun v24 =>
 some v24 else some false).bind fun v25 =>
 (if v25 then (l6 a0.Kind 65 a0.Amount 0 1000000000).bind fun v26 =>
 some v26 else some false).bind fun v27 =>
 (if v27 then (l6 a0.Kind 82 a0.Ref 1 99).bind fun v28 =>
 some v28 else some false).bind fun v29 =>
 some v29
def a0j (a0 : api_Fact) (a1 : api_Fact) : Option Int :=
 if (a0.Issuer != a1.Issuer) then
 some (i64 (a0.Issuer - a1.Issuer))
 else
 some (i64 (a0.Number - a1.Number))
def a3q (a1 : Int) (r2 : ((List Int) × Int) -> Option (List Int)) (v1 : (List Int) × Int) : Option (List Int) :=
 if (decide (v1.2 >= 0)) then
 (c5u .i64 a1 (u64 (i64 (8 * v1.2)))).bind fun v3 =>
 (a6y 1 v1.1 [IntKind.u8.wrap (v3)]).bind fun v4 =>
 r2 (v4, i64 (v1.2 - 1))
 else
 some v1.1
def c8 (a0 : List Int) (a1 : Int) (a2 : Int) : Option (List Int) :=
 j6 FU (a3q a1) (a0, i64 (a2 - 1))
def a13 (v9 : ByteArray) (r11 : (api_Fact × (List Int) × Int) -> Option (List Int)) (v10 : api_Fact × (List Int) × Int) : Option (List Int) :=
 if (decide (v10.2.2 < (v9.size : Int))) then
 (a8p v9 v10.2.2).bind fun v12 =>
 if (v12 == 83) then
 (c8 v10.2.1 v10.1.State 1).bind fun v13 =>
 r11 (v10.1, v13, i64 (v10.2.2 + 1))
 else
 if (v12 == 80) then
 (c8 v10.2.1 v10.1.Span.From 3).bind fun v14 =>
 (c8 v14 v10.1.Span.To 3).bind fun v15 =>
 r11 (v10.1, v15, i64 (v10.2.2 + 1))
 else
 if (v12 == 84) then
 (c8 v10.2.1 v10.1.Seat 1).bind fun v16 =>
 r11 (v10.1, v16, i64 (v10.2.2 + 1))
 else
 if (v12 == 72) then
 (c8 v10.2.1 v10.1.Share 1).bind fun v17 =>
 r11 (v10.1, v17, i64 (v10.2.2 + 1))
 else
 if (v12 == 67) then
 (c8 v10.2.1 v10.1.Currency 2).bind fun v18 =>
 r11 (v10.1, v18, i64 (v10.2.2 + 1))
 else
 if (v12 == 65) then
 (c8 v10.2.1 v10.1.Amount 4).bind fun v19 =>
 r11 (v10.1, v19, i64 (v10.2.2 + 1))
 else
 if (v12 == 82) then
 (c8 v10.2.1 v10.1.Ref 1).bind fun v20 =>
 r11 (v10.1, v20, i64 (v10.2.2 + 1))
 else
 r11 (v10.1, v10.2.1, i64 (v10.2.2 + 1))
 else
 some v10.2.1
def a0v (v2 : api_Fact × Int) : Option (List Int) :=
 (c8 [] v2.1.Issuer 1).bind fun v3 =>
 (c8 v3 v2.1.Number 2).bind fun v4 =>
 (c8 v4 v2.1.Version 1).bind fun v5 =>
 (c8 v5 v2.2 1).bind fun v6 =>
 (c8 v6 v2.1.Person 1).bind fun v7 =>
 (c8 v7 v2.1.Kind 1).bind fun v8 =>
 (n7 v2.1.Kind).bind fun v9 =>
 j6 FU (a13 v9) (v2.1, v8, 0)
def a14 (a0 : api_Fact) : Option (List Int) :=
 (g9 a0).bind fun v1 =>
 if (!v1) then
 some []
 else
 if a0.Withdrawn then
 joinC a0v (a0, 1)
 else
 joinC a0v (a0, 0)
def a2n (a0 : api_Fact) (a1 : api_Fact) : Option Bool :=
 (g9 a0).bind fun v1 =>
 (if (!v1) then some true else (g9 a1).bind fun v2 =>
 some (!v2)).bind fun v3 =>
 if v3 then
 some false
 else
 (a0j a0 a1).bind fun v4 =>
 if (v4 != 0) then
 some (decide (v4 < 0))
 else
 if (a0.Version != a1.Version) then
 some (decide (a0.Version < a1.Version))
 else
 (a14 a0).bind fun v5 =>
 (a14 a1).bind fun v6 =>
 some (Op.bytesLess (a9w (v5.map fun x => x)).toList (a9w (v6.map fun x => x)).toList)
def a0y (r2 : ((List api_Fact) × Int) -> Option (List api_Fact)) (v4 : (List api_Fact) × (List api_Fact) × (List api_Fact) × Int × api_Fact) (r7 : ((List api_Fact) × api_Fact × Int) -> Option (List api_Fact)) (v6 : (List api_Fact) × api_Fact × Int) : Option (List api_Fact) :=
 (if (decide (v6.2.2 > 0)) then (m7 v6.1 (i64 (v6.2.2 - 1))).bind fun v8 =>
 (m7 v6.1 (i64 (v6.2.2 - 1))).bind fun v9 =>
 (a0j v9 v6.2.1).bind fun v10 =>
 some (decide (v10 > 0)) else some false).bind fun v11 =>
 if v11 then
 r7 (v6.1, v6.2.1, i64 (v6.2.2 - 1))
 else
 (if (decide (v6.2.2 > 0)) then (m7 v6.1 (i64 (v6.2.2 - 1))).bind fun v12 =>
 (m7 v6.1 (i64 (v6.2.2 - 1))).bind fun v13 =>
 (a0j v13 v6.2.1).bind fun v14 =>
 some (v14 == 0) else some false).bind fun v15 =>
 if v15 then
 (m7 v6.1 (i64 (v6.2.2 - 1))).bind fun v16 =>
 (m7 v6.1 (i64 (v6.2.2 - 1))).bind fun v17 =>
 (a2n v17 v6.2.1).bind fun v18 =>
 if v18 then
 (m7 v6.1 (i64 (v6.2.2 - 1))).bind fun v19 =>
 (m7 v6.1 (i64 (v6.2.2 - 1))).bind fun v20 =>
 r2 (b01 v6.1 (i64 (v6.2.2 - 1)) v6.2.1, i64 (v4.2.2.2.1 + 1))
 else
 r2 (v6.1, i64 (v4.2.2.2.1 + 1))
 else
 (a3a v6.1 0 v6.2.2).bind fun v21 =>
 (a6y 112 [] v21).bind fun v22 =>
 (a6y 112 v22 [v6.2.1]).bind fun v23 =>
 (a3a v6.1 v6.2.2 (v6.1.length : Int)).bind fun v24 =>
 (a6y 112 v23 v24).bind fun v25 =>
 r2 (v25, i64 (v4.2.2.2.1 + 1))
def a2g (r2 : ((List api_Fact) × Int) -> Option (List api_Fact)) (v4 : (List api_Fact) × (List api_Fact) × (List api_Fact) × Int × api_Fact) : Option (List api_Fact) :=
 (g9 v4.2.2.2.2).bind fun v5 =>
 if (!v5) then
 r2 (v4.2.2.1, i64 (v4.2.2.2.1 + 1))
 else
 j6 FU (a0y r2 v4) (v4.2.2.1, v4.2.2.2.2, (v4.2.2.1.length : Int))
def a0w (a0 : List api_Fact) (a1 : List api_Fact) (r2 : ((List api_Fact) × Int) -> Option (List api_Fact)) (v1 : (List api_Fact) × Int) : Option (List api_Fact) :=
 if (decide (v1.2 < (i64 ((a0.length : Int) + (a1.length : Int))))) then
 if (decide (v1.2 < (a0.length : Int))) then
 (m7 a0 v1.2).bind fun v3 =>
 joinC (a2g r2) (a0, a1, v1.1, v1.2, v3)
 else
 (m7 a1 (i64 (v1.2 - (a0.length : Int)))).bind fun v26 =>
 joinC (a2g r2) (a0, a1, v1.1, v1.2, v26)
 else
 some v1.1
def a24 (a0 : List api_Fact) (a1 : List api_Fact) : Option (List api_Fact) :=
 j6 FU (a0w a0 a1) ([], 0)
def a4i (a0 : List api_Fact) (a1 : Int) (r2 : ((List api_Fact) × Int) -> Option (List api_Fact)) (v1 : (List api_Fact) × Int) : Option (List api_Fact) :=
 if (decide (v1.2 < (a0.length : Int))) then
 (m7 a0 v1.2).bind fun v3 =>
 if (v3.Person == a1) then
 (m7 a0 v1.2).bind fun v4 =>
 (a6y 112 v1.1 [v4]).bind fun v5 =>
 r2 (v5, i64 (v1.2 + 1))
 else
 r2 (v1.1, i64 (v1.2 + 1))
 else
 some v1.1
def a4d (a0 : List api_Fact) (a1 : Int) : Option (List api_Fact) :=
 j6 FU (a4i a0 a1) ([], 0)
def a0o (a0 : Int) : Option Bool :=
 (if (decide (a0 >= 0)) then some (decide (a0 <= 2399)) else some false).bind fun v1 =>
 some v1
def b1k (a0 : Int) : Option Bool :=
 (b31 a0 4).bind fun v1 =>
 (if (v1 == 0) then (b31 a0 100).bind fun v2 =>
 some (v2 != 0) else some false).bind fun v3 =>
 (if v3 then some true else (b31 a0 400).bind fun v4 =>
 some (v4 == 0)).bind fun v5 =>
 some v5
def a1f (a0 : Int) (a1 : Int) : Option Int :=
 (if (a1 == 2) then (b1k a0).bind fun v1 =>
 some v1 else some false).bind fun v2 =>
 if v2 then
 some 29
 else
 (m7 (⟨[31, 28, 31, 30, 31, 30, 31, 31, 30, 31, 30, 31], rfl⟩ : Ar 12 Int).l (i64 (a1 - 1))).bind fun v3 =>
 (m7 (⟨[31, 28, 31, 30, 31, 30, 31, 31, 30, 31, 30, 31], rfl⟩ : Ar 12 Int).l (i64 (a1 - 1))).bind fun v4 =>
 some v4
def a7d (a0 : Int) : Option Int :=
 if (decide ((i64 (a0 - 1900)) > 0)) then
 (c0u (i64 ((i64 (a0 - 1900)) - 1)) 4).bind fun v1 =>
 some (i64 ((i64 (365 * (i64 (a0 - 1900)))) + v1))
 else
 some (i64 (365 * (i64 (a0 - 1900))))
def b5o (a1 : Int) (a0 : Int) (r9 : (Int × Int) -> Option (Int × Bool)) (v8 : Int × Int) : Option (Int × Bool) :=
 if (decide (v8.2 < a1)) then
 (a1f a0 v8.2).bind fun v10 =>
 r9 (i64 (v8.1 + v10), i64 (v8.2 + 1))
 else
 some (v8.1, true)
def b2b (a0 : Int) (a1 : Int) (a2 : Int) : Option (Int × Bool) :=
 (if (decide (a0 < 1900)) then some true else some (decide (a0 > 2099))).bind fun v1 =>
 (if v1 then some true else some (decide (a1 < 1))).bind fun v2 =>
 (if v2 then some true else some (decide (a1 > 12))).bind fun v3 =>
 (if v3 then some true else some (decide (a2 < 1))).bind fun v4 =>
 (if v4 then some true else (a1f a0 a1).bind fun v5 =>
 some (decide (a2 > v5))).bind fun v6 =>
 if v6 then
 some (0, false)
 else
 (a7d a0).bind fun v7 =>
 j6 FU (b5o a1 a0) (i64 ((i64 (v7 + a2)) - 1), 1)
def a1m (a0 : Int) : Option (Int × Bool) :=
 (a0o a0).bind fun v1 =>
 if (!v1) then
 some (0, false)
 else
 (c0u a0 12).bind fun v2 =>
 (b31 a0 12).bind fun v3 =>
 (b2b (i64 (1900 + v2)) (i64 (v3 + 1)) 1).bind fun v4 =>
 some (v4.1, v4.2)
def a4a (a0 : Int) : Option Int :=
 (a0o a0).bind fun v1 =>
 if (!v1) then
 some 0
 else
 (c0u a0 12).bind fun v2 =>
 (b31 a0 12).bind fun v3 =>
 (a1f (i64 (1900 + v2)) (i64 (v3 + 1))).bind fun v4 =>
 some v4
def o7 (a0 : Int) : Option (Span × Bool) :=
 (a1m a0).bind fun v1 =>
 (a4a a0).bind fun v2 =>
 some ((⟨v1.1, i64 (v1.1 + v2)⟩ : Span), v1.2)
def a74 (v3 : Int × Bool) : Option ByteArray :=
 if v3.2 then
 some b0a
 else
 if (v3.1 == 14) then
 some b4i
 else
 some a1t
def a5i (v2 : Int × Bool) : Option ByteArray :=
 if v2.2 then
 some a4c
 else
 if (v2.1 == 6) then
 some a7z
 else
 if (v2.1 == 10) then
 some b05
 else
 if (v2.1 == 11) then
 joinC a74 (v2.1, v2.1 == 11)
 else
 if (v2.1 == 12) then
 joinC a74 (v2.1, v2.1 == 12)
 else
 joinC a74 (v2.1, v2.1 == 13)
def a8w (v1 : Int × Bool) : Option ByteArray :=
 if v1.2 then
 some a2k
 else
 if (v1.1 == 4) then
 some b0e
 else
 if (v1.1 == 5) then
 joinC a5i (v1.1, v1.1 == 5)
 else
 if (v1.1 == 7) then
 joinC a5i (v1.1, v1.1 == 7)
 else
 if (v1.1 == 8) then
 joinC a5i (v1.1, v1.1 == 8)
 else
 joinC a5i (v1.1, v1.1 == 9)
def a43 (a0 : Int) : Option ByteArray :=
 if (a0 == 1) then
 some a4u
 else
 if (a0 == 2) then
 joinC a8w (a0, a0 == 2)
 else
 joinC a8w (a0, a0 == 3)
def a5e (a0 : ByteArray) (a1 : Int) : Option Int :=
 (a4j a0 a1).bind fun v1 =>
 some v1
def a7s (a0 : ByteArray) (a1 : ByteArray) : Option Int :=
 (if ((a1.size : Int) == 0) then some true else some (a1.toList == a0.toList)).bind fun v1 =>
 if v1 then
 some 0
 else
 if ((a1.size : Int) == 1) then
 (a8p a1 0).bind fun v2 =>
 (a5e a0 v2).bind fun v3 =>
 some v3
 else
 if (decide ((a1.size : Int) >= (a0.size : Int))) then
 some (-1 : Int)
 else
 none
def b14 (a0 : ByteArray) (a1 : ByteArray) : Option Int :=
 (a7s a0 a1).bind fun v1 =>
 some v1
def a8m (a0 : ByteArray) (a1 : ByteArray) : Option Bool :=
 (b14 a0 a1).bind fun v1 =>
 some (decide (v1 >= 0))
def g8 (a0 : ByteArray) (a1 : ByteArray) : Option Bool :=
 (a8m a1 a0).bind fun v1 =>
 some v1
def a2e (a0 : Int) (a1 : Int) (a2 : Int) : Option Bool :=
 (if (decide (a0 >= a1)) then some (decide (a0 <= a2)) else some false).bind fun v1 =>
 some v1
def a2x (a0 : Bool) (a1 : Int) (a2 : Int) (a3 : Int) : Option Bool :=
 (if a0 then (a2e a1 a2 a3).bind fun v1 =>
 some v1 else some false).bind fun v2 =>
 (if v2 then some true else (if (!a0) then some (a1 == 0) else some false).bind fun v3 =>
 some v3).bind fun v4 =>
 some v4
def a7h (a0 : Span) : Option Bool :=
 (if (decide (a0.From >= 0)) then some (decide (a0.From < a0.To)) else some false).bind fun v1 =>
 (if v1 then some (decide (a0.To <= 73049)) else some false).bind fun v2 =>
 some v2
def a83 (v29 : api_Fact × Bool) : Option Bool :=
 if v29.2 then
 some (v29.1.Ref != v29.1.Person)
 else
 some true
def a8f (v28 : api_Fact × Int × Bool) : Option Bool :=
 if v28.2.2 then
 some (v28.1.Span.To == (i64 (v28.1.Span.From + 1)))
 else
 if (v28.2.1 == 10) then
 joinC a83 (v28.1, v28.2.1 == 10)
 else
 joinC a83 (v28.1, v28.2.1 == 14)
def a6b (a0 : api_Fact) : Option Bool :=
 (a43 a0.Kind).bind fun v1 =>
 (if (v1.toList == a1t.toList) then some true else (a2e a0.Issuer 0 5).bind fun v2 =>
 some (!v2)).bind fun v3 =>
 (if v3 then some true else (a2e a0.Number 1 999).bind fun v4 =>
 some (!v4)).bind fun v5 =>
 (if v5 then some true else (a2e a0.Version 1 99).bind fun v6 =>
 some (!v6)).bind fun v7 =>
 (if v7 then some true else (a2e a0.Person 1 99).bind fun v8 =>
 some (!v8)).bind fun v9 =>
 if v9 then
 some false
 else
 (g8 d4t v1).bind fun v10 =>
 (a2x v10 a0.State 0 5).bind fun v11 =>
 (if (!v11) then some true else (g8 d3t v1).bind fun v12 =>
 (a2x v12 a0.Seat 0 5).bind fun v13 =>
 some (!v13)).bind fun v14 =>
 (if v14 then some true else (a7h a0.Span).bind fun v15 =>
 some (!v15)).bind fun v16 =>
 if v16 then
 some false
 else
 (g8 d4l v1).bind fun v17 =>
 (a2x v17 a0.Share 1 100).bind fun v18 =>
 (if (!v18) then some true else (g8 d59 v1).bind fun v19 =>
 (a2x v19 a0.Currency 1 999).bind fun v20 =>
 some (!v20)).bind fun v21 =>
 (if v21 then some true else (g8 d3z v1).bind fun v22 =>
 (a2x v22 a0.Amount 0 1000000000).bind fun v23 =>
 some (!v23)).bind fun v24 =>
 (if v24 then some true else (g8 d57 v1).bind fun v25 =>
 (a2x v25 a0.Ref 1 99).bind fun v26 =>
 some (!v26)).bind fun v27 =>
 if v27 then
 some false
 else
 if (a0.Kind == 4) then
 some (a0.State != a0.Seat)
 else
 if (a0.Kind == 11) then
 joinC a8f (a0, a0.Kind, a0.Kind == 11)
 else
 joinC a8f (a0, a0.Kind, a0.Kind == 12)
def a3d (a0 : api_Fact) : Option Bool :=
 (a6b a0).bind fun v1 =>
 (if v1 then some (!a0.Withdrawn) else some false).bind fun v2 =>
 some v2
def a3x (a0 : List api_Fact) (a1 : Int) (r2 : (Int × Bool × Int) -> Option (Int × Bool)) (v1 : Int × Bool × Int) : Option (Int × Bool) :=
 if (decide (v1.2.2 < (a0.length : Int))) then
 (m7 a0 v1.2.2).bind fun v3 =>
 (a3d v3).bind fun v4 =>
 (if v4 then some (v3.Kind == a1) else some false).bind fun v5 =>
 (if v5 then (if (!v1.2.1) then some true else some (decide (v3.Span.From < v1.1))).bind fun v6 =>
 some v6 else some false).bind fun v7 =>
 if v7 then
 r2 (v3.Span.From, true, i64 (v1.2.2 + 1))
 else
 r2 (v1.1, v1.2.1, i64 (v1.2.2 + 1))
 else
 some (v1.1, v1.2.1)
def a5c (a0 : List api_Fact) (a1 : Int) : Option (Int × Bool) :=
 j6 FU (a3x a0 a1) (0, false, 0)
def a94 (a0 : List api_Fact) : Option (Int × Bool) :=
 (a5c a0 11).bind fun v1 =>
 some (v1.1, v1.2)
def a8q (a0 : List api_Fact) : Option (Int × Bool) :=
 (a5c a0 12).bind fun v1 =>
 some (v1.1, v1.2)
def a7i (v3 : Span × Int × Int) : Option Span :=
 if (decide (v3.2.2 < v3.2.1)) then
 some (⟨0, 0⟩ : Span)
 else
 some (⟨v3.2.1, i64 (v3.2.2 + 1)⟩ : Span)
def a86 (a0 : List api_Fact) : Option Span :=
 (a94 a0).bind fun v1 =>
 (a8q a0).bind fun v2 =>
 if (!v2.2) then
 joinC a7i ((⟨0, 0⟩ : Span), v1.1, 73048)
 else
 joinC a7i ((⟨0, 0⟩ : Span), v1.1, v2.1)
def a2a (r4 : ((List Span) × (List Span) × (List Span) × Int × Int) -> Option (List Span)) (v15 : (List Span) × (List Span) × (List Span) × Int × Int) : Option (List Span) :=
 (m7 v15.1 v15.2.2.2.1).bind fun v16 =>
 (m7 v15.1 v15.2.2.2.1).bind fun v17 =>
 (m7 v15.2.1 v15.2.2.2.2).bind fun v18 =>
 (m7 v15.2.1 v15.2.2.2.2).bind fun v19 =>
 if (decide (v17.To < v19.To)) then
 r4 (v15.1, v15.2.1, v15.2.2.1, i64 (v15.2.2.2.1 + 1), v15.2.2.2.2)
 else
 r4 (v15.1, v15.2.1, v15.2.2.1, v15.2.2.2.1, i64 (v15.2.2.2.2 + 1))
def a3y (r4 : ((List Span) × (List Span) × (List Span) × Int × Int) -> Option (List Span)) (v3 : (List Span) × (List Span) × (List Span) × Int × Int) : Option (List Span) :=
 (if (decide (v3.2.2.2.1 < (v3.1.length : Int))) then some (decide (v3.2.2.2.2 < (v3.2.1.length : Int))) else some false).bind fun v5 =>
 if v5 then
 (m7 v3.1 v3.2.2.2.1).bind fun v6 =>
 (m7 v3.1 v3.2.2.2.1).bind fun v7 =>
 (m7 v3.2.1 v3.2.2.2.2).bind fun v8 =>
 (m7 v3.2.1 v3.2.2.2.2).bind fun v9 =>
 (m7 v3.1 v3.2.2.2.1).bind fun v10 =>
 (m7 v3.1 v3.2.2.2.1).bind fun v11 =>
 (m7 v3.2.1 v3.2.2.2.2).bind fun v12 =>
 (m7 v3.2.1 v3.2.2.2.2).bind fun v13 =>
 if (decide ((max v7.From v9.From) < (min v11.To v13.To))) then
 (a6y 16 v3.2.2.1 [(⟨max v7.From v9.From, min v11.To v13.To⟩ : Span)]).bind fun v14 =>
 joinC (a2a r4) (v3.1, v3.2.1, v14, v3.2.2.2.1, v3.2.2.2.2)
 else
 joinC (a2a r4) (v3.1, v3.2.1, v3.2.2.1, v3.2.2.2.1, v3.2.2.2.2)
 else
 some v3.2.2.1
def a4g (a0 : List Span) (a1 : List Span) : Option (List Span) :=
 (spans_Make a0).bind fun v1 =>
 (spans_Make a1).bind fun v2 =>
 j6 FU a3y (v1, v2, [], 0, 0)
def a50 (a0 : List Span) (a1 : Span) : Option (List Span) :=
 (a4g a0 [a1]).bind fun v1 =>
 some v1
def a46 (a0 : List api_Fact) (a1 : Int) (a2 : Int) (r2 : ((List Span) × Int) -> Option (List Span)) (v1 : (List Span) × Int) : Option (List Span) :=
 if (decide (v1.2 < (a0.length : Int))) then
 (m7 a0 v1.2).bind fun v3 =>
 (a3d v3).bind fun v4 =>
 (if v4 then some (v3.Kind == a1) else some false).bind fun v5 =>
 (if v5 then some (v3.State == a2) else some false).bind fun v6 =>
 if v6 then
 (a6y 16 v1.1 [v3.Span]).bind fun v7 =>
 r2 (v7, i64 (v1.2 + 1))
 else
 r2 (v1.1, i64 (v1.2 + 1))
 else
 (a86 a0).bind fun v8 =>
 (a50 v1.1 v8).bind fun v9 =>
 some v9
def a6u (a0 : List api_Fact) (a1 : Int) (a2 : Int) : Option (List Span) :=
 j6 FU (a46 a0 a1 a2) ([], 0)
def a5r (a0 : List api_Fact) (r2 : ((List Span) × Int) -> Option (List Span)) (v1 : (List Span) × Int) : Option (List Span) :=
 if (decide (v1.2 < 6)) then
 (a6u a0 8 v1.2).bind fun v3 =>
 (a6y 16 v1.1 v3).bind fun v4 =>
 r2 (v4, i64 (v1.2 + 1))
 else
 (spans_Make v1.1).bind fun v5 =>
 some v5
def a2y (a0 : List api_Fact) : Option (List Span) :=
 j6 FU (a5r a0) ([], 0)
def a3z (v1 : List Span) (r3 : ((List Span) × (List Span) × Int) -> Option (List Span)) (v2 : (List Span) × (List Span) × Int) : Option (List Span) :=
 if (decide (v2.2.2 < (v1.length : Int))) then
 (m7 v2.2.1 v2.2.2).bind fun v4 =>
 (m7 v2.2.1 v2.2.2).bind fun v5 =>
 (if (decide ((v2.1.length : Int) > 0)) then (m7 v2.1 (i64 ((v2.1.length : Int) - 1))).bind fun v6 =>
 (m7 v2.1 (i64 ((v2.1.length : Int) - 1))).bind fun v7 =>
 some (decide ((i64 (v5.From - v7.To)) <= 56)) else some false).bind fun v8 =>
 if v8 then
 (m7 v2.1 (i64 ((v2.1.length : Int) - 1))).bind fun v9 =>
 (m7 v2.1 (i64 ((v2.1.length : Int) - 1))).bind fun v10 =>
 r3 (b01 v2.1 (i64 ((v2.1.length : Int) - 1)) (⟨v10.From, v5.To⟩ : Span), v2.2.1, i64 (v2.2.2 + 1))
 else
 (a6y 16 v2.1 [v5]).bind fun v11 =>
 r3 (v11, v2.2.1, i64 (v2.2.2 + 1))
 else
 some v2.1
def a2i (a0 : List api_Fact) : Option (List Span) :=
 (a2y a0).bind fun v1 =>
 j6 FU (a3z v1) ([], v1, 0)
def a89 (a1 : Int) (r2 : ((List Int) × sickness_window) -> Option (Bool × sickness_window × (List Int))) (v1 : (List Int) × sickness_window) : Option (Bool × sickness_window × (List Int)) :=
 (if (decide ((v1.1.length : Int) > 0)) then (m7 v1.1 0).bind fun v3 =>
 (m7 v1.1 0).bind fun v4 =>
 some (decide (v4 < (i64 (a1 - 1094)))) else some false).bind fun v5 =>
 if v5 then
 (a3a v1.1 1 (v1.1.length : Int)).bind fun v6 =>
 r2 (v6, (⟨[]⟩ : sickness_window))
 else
 some (decide ((v1.1.length : Int) < 546), (⟨[]⟩ : sickness_window), v1.1)
def a65 (a0 : sickness_window) (a1 : Int) (a2 : List Int) : Option (Bool × sickness_window × (List Int)) :=
 j6 FU (a89 a1) (a2, (⟨[]⟩ : sickness_window))
def b0b (r9 : ((List Int) × sickness_window × (List Span) × (List Span) × Int × (List Span) × (List Span) × Int) -> Option (List Span)) (v8 : (List Int) × sickness_window × (List Span) × (List Span) × Int × (List Span) × (List Span) × Int) (r13 : ((List Int) × sickness_window × (List Span) × (List Span) × Int × Span × Int × (List Span) × (List Span)) -> Option (List Span)) (v12 : (List Int) × sickness_window × (List Span) × (List Span) × Int × Span × Int × (List Span) × (List Span)) : Option (List Span) :=
 if (decide (v12.2.2.2.2.2.2.1 < v12.2.2.2.2.2.1.To)) then
 if (decide (v12.2.2.2.2.1 > 0)) then
 r13 (v12.1, (⟨[]⟩ : sickness_window), v12.2.2.1, v12.2.2.2.1, i64 (v12.2.2.2.2.1 - 1), v12.2.2.2.2.2.1, i64 (v12.2.2.2.2.2.2.1 + 1), v12.2.2.2.2.2.2.2.1, v12.2.2.2.2.2.2.2.2)
 else
 (a65 (⟨[]⟩ : sickness_window) v12.2.2.2.2.2.2.1 v12.1).bind fun v14 =>
 if v14.1 then
 (a6y 8 v14.2.2 [v12.2.2.2.2.2.2.1]).bind fun v15 =>
 (a6y 16 v12.2.2.1 [(⟨v12.2.2.2.2.2.2.1, i64 (v12.2.2.2.2.2.2.1 + 1)⟩ : Span)]).bind fun v16 =>
 r13 (v15, (⟨[]⟩ : sickness_window), v16, v12.2.2.2.1, v12.2.2.2.2.1, v12.2.2.2.2.2.1, i64 (v12.2.2.2.2.2.2.1 + 1), v12.2.2.2.2.2.2.2.1, v12.2.2.2.2.2.2.2.2)
 else
 r13 (v14.2.2, (⟨[]⟩ : sickness_window), v12.2.2.1, v12.2.2.2.1, v12.2.2.2.2.1, v12.2.2.2.2.2.1, i64 (v12.2.2.2.2.2.2.1 + 1), v12.2.2.2.2.2.2.2.1, v12.2.2.2.2.2.2.2.2)
 else
 r9 (v12.1, (⟨[]⟩ : sickness_window), v12.2.2.1, v12.2.2.2.1, v12.2.2.2.2.1, v12.2.2.2.2.2.2.2.1, v12.2.2.2.2.2.2.2.2, i64 (v8.2.2.2.2.2.2.2 + 1))
def a9z (v7 : List Span) (r4 : ((List Int) × sickness_window × (List Span) × (List Span) × (List Span) × Int) -> Option (List Span)) (v3 : (List Int) × sickness_window × (List Span) × (List Span) × (List Span) × Int) (r9 : ((List Int) × sickness_window × (List Span) × (List Span) × Int × (List Span) × (List Span) × Int) -> Option (List Span)) (v8 : (List Int) × sickness_window × (List Span) × (List Span) × Int × (List Span) × (List Span) × Int) : Option (List Span) :=
 if (decide (v8.2.2.2.2.2.2.2 < (v7.length : Int))) then
 (m7 v8.2.2.2.2.2.2.1 v8.2.2.2.2.2.2.2).bind fun v10 =>
 (m7 v8.2.2.2.2.2.2.1 v8.2.2.2.2.2.2.2).bind fun v11 =>
 j6 FU (b0b r9 v8) (v8.1, (⟨[]⟩ : sickness_window), v8.2.2.1, v8.2.2.2.1, v8.2.2.2.2.1, v11, v11.From, v8.2.2.2.2.2.1, v8.2.2.2.2.2.2.1)
 else
 r4 (v8.1, (⟨[]⟩ : sickness_window), v8.2.2.1, v8.2.2.2.1, v8.2.2.2.2.2.1, i64 (v3.2.2.2.2.2 + 1))
def a3r (v2 : List Span) (r4 : ((List Int) × sickness_window × (List Span) × (List Span) × (List Span) × Int) -> Option (List Span)) (v3 : (List Int) × sickness_window × (List Span) × (List Span) × (List Span) × Int) : Option (List Span) :=
 if (decide (v3.2.2.2.2.2 < (v2.length : Int))) then
 (m7 v3.2.2.2.2.1 v3.2.2.2.2.2).bind fun v5 =>
 (m7 v3.2.2.2.2.1 v3.2.2.2.2.2).bind fun v6 =>
 (a50 v3.2.2.2.1 v6).bind fun v7 =>
 j6 FU (a9z v7 r4 v3) (v3.1, (⟨[]⟩ : sickness_window), v3.2.2.1, v3.2.2.2.1, 3, v3.2.2.2.2.1, v7, 0)
 else
 (spans_Make v3.2.2.1).bind fun v17 =>
 some v17
def a1w (a0 : List api_Fact) : Option (List Span) :=
 (a2y a0).bind fun v1 =>
 (a2i a0).bind fun v2 =>
 j6 FU (a3r v2) ([], (⟨[]⟩ : sickness_window), [], v1, v2, 0)
def b35 (r5 : (Laws × Int × (List Span) × Int) -> Option Int) (v4 : Laws × Int × (List Span) × Int) (r9 : (Laws × Int × Span × Int × (List Span)) -> Option Int) (v8 : Laws × Int × Span × Int × (List Span)) : Option Int :=
 if (decide (v8.2.2.2.1 < v8.2.2.1.To)) then
 none
 else
 r5 (v8.1, v8.2.1, v8.2.2.2.2, i64 (v4.2.2.2 + 1))
def a5q (v3 : List Span) (r5 : (Laws × Int × (List Span) × Int) -> Option Int) (v4 : Laws × Int × (List Span) × Int) : Option Int :=
 if (decide (v4.2.2.2 < (v3.length : Int))) then
 (m7 v4.2.2.1 v4.2.2.2).bind fun v6 =>
 (m7 v4.2.2.1 v4.2.2.2).bind fun v7 =>
 j6 FU (b35 r5 v4) (v4.1, v4.2.1, v7, v7.From, v4.2.2.1)
 else
 some v4.2.1
def a45 (a0 : Laws) (a1 : List api_Fact) (a2 : Int) (a3 : Int) : Option Int :=
 (o7 a3).bind fun v1 =>
 if (!v1.2) then
 some 0
 else
 (a1w a1).bind fun v2 =>
 (a50 v2 v1.1).bind fun v3 =>
 j6 FU (a5q v3) (a0, 0, v3, 0)
def z7 (a0 : Laws) (a1 : List api_Fact) (a2 : Int) (a3 : Int) : Option (Int × Int) :=
 (o7 a3).bind fun v1 =>
 if (!v1.2) then
 some (0, 1)
 else
 (a45 a0 a1 a2 a3).bind fun v2 =>
 if (v2 == 0) then
 some (0, 0)
 else
 none
def a48 : Option Bool :=
 (a1w [(⟨0, 1, 1, false, 1, 8, 0, (⟨100, 110⟩ : Span), 0, 0, 0, 0, 0⟩ : api_Fact)]).bind fun v1 =>
 (if ((v1.length : Int) == 1) then (m7 v1 0).bind fun v2 =>
 (m7 v1 0).bind fun v3 =>
 some ((v3.From == 103) && ((v3.To == 110) && (true))) else some false).bind fun v4 =>
 if v4 then
 (a2y [(⟨0, 1, 1, false, 1, 8, 0, (⟨100, 110⟩ : Span), 0, 0, 0, 0, 0⟩ : api_Fact)]).bind fun v5 =>
 if ((v5.length : Int) == 1) then
 (a2i [(⟨0, 1, 1, false, 1, 8, 0, (⟨100, 110⟩ : Span), 0, 0, 0, 0, 0⟩ : api_Fact)]).bind fun v6 =>
 some ((v6.length : Int) == 1)
 else
 some false
 else
 some false
def s3 (a0 : List Int) (a1 : List Int) (a2 : Int) (a3 : Int) : Option Bool :=
 (a3n a0).bind fun v1 =>
 (a2r a1).bind fun v2 =>
 (a24 v2 []).bind fun v3 =>
 (a4d v3 2).bind fun v4 =>
 (b7 a2 6).bind fun v5 =>
 (z7 v1 v4 v5 1160).bind fun v6 =>
 (b7 a3 1000).bind fun v7 =>
 (z7 v1 v4 v5 (i64 ((-1 : Int) - v7))).bind fun v8 =>
 (b7 a3 1000).bind fun v9 =>
 (z7 v1 v4 v5 (i64 (2400 + v9))).bind fun v10 =>
 (a48).bind fun v11 =>
 (if v11 then some (v6.1 == 0) else some false).bind fun v12 =>
 (if v12 then some (v6.2 == 0) else some false).bind fun v13 =>
 (if v13 then some (v8.2 == 1) else some false).bind fun v14 =>
 (if v14 then some (v10.2 == 1) else some false).bind fun v15 =>
 (if v15 then (a45 v1 v4 v5 (-1 : Int)).bind fun v16 =>
 some (v16 == 0) else some false).bind fun v17 =>
 some v17
end Go.PL
namespace Go.PL
open Go Go.SX
inductive TyC where
  | c_str
  | c_u8
  | c_i64
  | c_sSpan
  | c_A3_str
  | c_bool
  | c_sToken
  | c_spensionref5_reader
  | c_u64
  | c_spensionref1_wide
  | c_sFraction
  | c_sExpr
  | c_sRounding
  | c_sCredit
  | c_sIndex
  | c_sLet
  | c_sGrant
  | c_sReduce
  | c_sVersion
  | c_sStatute
  | c_sState
  | c_sRules
  | c_sRate
  | c_sLaws
  | c_sapi_Fact
  | c_A12_i64
  | c_lsSpan
  | c_u32
  | c_ssickness_window
deriving DecidableEq
@[reducible] def TyC.T : TyC -> Type
  | .c_str => ByteArray
  | .c_u8 => Int
  | .c_i64 => Int
  | .c_sSpan => Span
  | .c_A3_str => Ar 3 ByteArray
  | .c_bool => Bool
  | .c_sToken => Token
  | .c_spensionref5_reader => pensionref5_reader
  | .c_u64 => Int
  | .c_spensionref1_wide => pensionref1_wide
  | .c_sFraction => Fraction
  | .c_sExpr => Expr
  | .c_sRounding => Rounding
  | .c_sCredit => Credit
  | .c_sIndex => Index
  | .c_sLet => Let
  | .c_sGrant => Grant
  | .c_sReduce => Reduce
  | .c_sVersion => Version
  | .c_sStatute => Statute
  | .c_sState => State
  | .c_sRules => Rules
  | .c_sRate => Rate
  | .c_sLaws => Laws
  | .c_sapi_Fact => api_Fact
  | .c_A12_i64 => Ar 12 Int
  | .c_lsSpan => List Span
  | .c_u32 => Int
  | .c_ssickness_window => sickness_window
abbrev VA := AV TyC TyC.T
def dT : DecidableEq TyC := inferInstance
def d34 : ByteArray -> List VA := fun x => [.str x]
def d28 : List VA -> Option ByteArray := mkS (gS) fun x0 => mkE x0
def d86 : Int -> List VA := fun x => [.int .u8 x]
def d7e : List VA -> Option Int := mkS (gI .u8) fun x0 => mkE x0
def d3c : Int -> List VA := fun x => [.int .i64 x]
def d3l : List VA -> Option Int := mkS (gI .i64) fun x0 => mkE x0
def c3x : Span -> List VA := fun x => [.int .i64 x.From, .int .i64 x.To]
def c27 : List VA -> Option Span := mkS (gI .i64) fun x0 => mkS (gI .i64) fun x1 => mkE (⟨x0, x1⟩ : Span)
def b96 : Ar 3 ByteArray -> List VA := fun x => x.l.map fun y => .str y
def c08 : List VA -> Option (Ar 3 ByteArray) := mkA (gS) 3
def c7p : Bool -> List VA := fun x => [.bool x]
def c67 : List VA -> Option Bool := mkS (gB) fun x0 => mkE x0
def b97 : Token -> List VA := fun x => [.int .i64 x.Kind, .str x.Text, .int .i64 x.At]
def b9d : List VA -> Option Token := mkS (gI .i64) fun x0 => mkS (gS) fun x1 => mkS (gI .i64) fun x2 => mkE (⟨x0, x1, x2⟩ : Token)
def a4n : pensionref5_reader -> List VA := fun x => [.list .c_sToken x.l, .int .i64 x.at_, .int .i64 x.end_, .bool x.bad]
def a4o : List VA -> Option pensionref5_reader := mkS (SX.gL dT .c_sToken) fun x0 => mkS (gI .i64) fun x1 => mkS (gI .i64) fun x2 => mkS (gB) fun x3 => mkE (⟨x0, x1, x2, x3⟩ : pensionref5_reader)
def d3k : Int -> List VA := fun x => [.int .u64 x]
def d2m : List VA -> Option Int := mkS (gI .u64) fun x0 => mkE x0
def a5u : pensionref1_wide -> List VA := fun x => [.int .u64 x.hi, .int .u64 x.lo]
def a5s : List VA -> Option pensionref1_wide := mkS (gI .u64) fun x0 => mkS (gI .u64) fun x1 => mkE (⟨x0, x1⟩ : pensionref1_wide)
def b2i : Fraction -> List VA := fun x => [.int .i64 x.Num, .int .i64 x.Den]
def b2f : List VA -> Option Fraction := mkS (gI .i64) fun x0 => mkS (gI .i64) fun x1 => mkE (⟨x0, x1⟩ : Fraction)
def c33 : Expr -> List VA := fun x => [.int .i64 x.Op, .val .c_sFraction x.Value, .int .i64 x.Dim, .str x.Name, .list .c_sExpr x.Args]
def c25 : List VA -> Option Expr := mkS (gI .i64) fun x0 => mkS (gV dT .c_sFraction) fun x1 => mkS (gI .i64) fun x2 => mkS (gS) fun x3 => mkS (SX.gL dT .c_sExpr) fun x4 => mkE (⟨x0, x1, x2, x3, x4⟩ : Expr)
def b2y : Rounding -> List VA := fun x => [.int .i64 x.Mode, .int .i64 x.Unit]
def b2j : List VA -> Option Rounding := mkS (gI .i64) fun x0 => mkS (gI .i64) fun x1 => mkE (⟨x0, x1⟩ : Rounding)
def b6s : Credit -> List VA := fun x => [.int .i64 x.Kind, .int .i64 x.Limit]
def b6d : List VA -> Option Credit := mkS (gI .i64) fun x0 => mkS (gI .i64) fun x1 => mkE (⟨x0, x1⟩ : Credit)
def b93 : Index -> List VA := fun x => [.int .i64 x.Year, .val .c_sFraction x.Factor]
def b9q : List VA -> Option Index := mkS (gI .i64) fun x0 => mkS (gV dT .c_sFraction) fun x1 => mkE (⟨x0, x1⟩ : Index)
def c9l : Let -> List VA := fun x => [.str x.Name, .val .c_sExpr x.Body]
def c8p : List VA -> Option Let := mkS (gS) fun x0 => mkS (gV dT .c_sExpr) fun x1 => mkE (⟨x0, x1⟩ : Let)
def c0g : Grant -> List VA := fun x => [.int .i64 x.Benefit, .val .c_sExpr x.If, .val .c_sExpr x.Pay]
def b9p : List VA -> Option Grant := mkS (gI .i64) fun x0 => mkS (gV dT .c_sExpr) fun x1 => mkS (gV dT .c_sExpr) fun x2 => mkE (⟨x0, x1, x2⟩ : Grant)
def b6i : Reduce -> List VA := fun x => [.int .i64 x.Benefit, .val .c_sExpr x.By]
def b6j : List VA -> Option Reduce := mkS (gI .i64) fun x0 => mkS (gV dT .c_sExpr) fun x1 => mkE (⟨x0, x1⟩ : Reduce)
def b5b : Version -> List VA := fun x => [.int .i64 x.From, .val .c_sRounding x.Rounding, .list .c_sCredit x.Credits, .list .c_sIndex x.Series, .list .c_sLet x.Lets, .list .c_sGrant x.Grants, .list .c_sReduce x.Reduces]
def b4v : List VA -> Option Version := mkS (gI .i64) fun x0 => mkS (gV dT .c_sRounding) fun x1 => mkS (SX.gL dT .c_sCredit) fun x2 => mkS (SX.gL dT .c_sIndex) fun x3 => mkS (SX.gL dT .c_sLet) fun x4 => mkS (SX.gL dT .c_sGrant) fun x5 => mkS (SX.gL dT .c_sReduce) fun x6 => mkE (⟨x0, x1, x2, x3, x4, x5, x6⟩ : Version)
def b58 : Statute -> List VA := fun x => [.str x.Name, .int .i64 x.Currency, .list .c_sVersion x.Versions]
def b3l : List VA -> Option Statute := mkS (gS) fun x0 => mkS (gI .i64) fun x1 => mkS (SX.gL dT .c_sVersion) fun x2 => mkE (⟨x0, x1, x2⟩ : Statute)
def c0o : State -> List VA := fun x => [.int .i64 x.State, .val .c_sStatute x.Statute]
def c07 : List VA -> Option State := mkS (gI .i64) fun x0 => mkS (gV dT .c_sStatute) fun x1 => mkE (⟨x0, x1⟩ : State)
def b95 : Rules -> List VA := fun x => [.int .i64 x.From, .int .i64 x.MinDays, .int .i64 x.PostingLimit, .int .i64 x.Substantial, .list .c_i64 x.Members]
def b9z : List VA -> Option Rules := mkS (gI .i64) fun x0 => mkS (gI .i64) fun x1 => mkS (gI .i64) fun x2 => mkS (gI .i64) fun x3 => mkS (SX.gL dT .c_i64) fun x4 => mkE (⟨x0, x1, x2, x3, x4⟩ : Rules)
def c30 : Rate -> List VA := fun x => [.int .i64 x.Currency, .int .i64 x.Month, .val .c_sFraction x.Value]
def c3g : List VA -> Option Rate := mkS (gI .i64) fun x0 => mkS (gI .i64) fun x1 => mkS (gV dT .c_sFraction) fun x2 => mkE (⟨x0, x1, x2⟩ : Rate)
def c3w : Laws -> List VA := fun x => [.list .c_sState x.States, .list .c_sRules x.Treaty, .list .c_sRate x.Rates]
def c3d : List VA -> Option Laws := mkS (SX.gL dT .c_sState) fun x0 => mkS (SX.gL dT .c_sRules) fun x1 => mkS (SX.gL dT .c_sRate) fun x2 => mkE (⟨x0, x1, x2⟩ : Laws)
def b2d : api_Fact -> List VA := fun x => [.int .i64 x.Issuer, .int .i64 x.Number, .int .i64 x.Version, .bool x.Withdrawn, .int .i64 x.Person, .int .i64 x.Kind, .int .i64 x.State, .val .c_sSpan x.Span, .int .i64 x.Seat, .int .i64 x.Share, .int .i64 x.Currency, .int .i64 x.Amount, .int .i64 x.Ref]
def b2v : List VA -> Option api_Fact := mkS (gI .i64) fun x0 => mkS (gI .i64) fun x1 => mkS (gI .i64) fun x2 => mkS (gB) fun x3 => mkS (gI .i64) fun x4 => mkS (gI .i64) fun x5 => mkS (gI .i64) fun x6 => mkS (gV dT .c_sSpan) fun x7 => mkS (gI .i64) fun x8 => mkS (gI .i64) fun x9 => mkS (gI .i64) fun x10 => mkS (gI .i64) fun x11 => mkS (gI .i64) fun x12 => mkE (⟨x0, x1, x2, x3, x4, x5, x6, x7, x8, x9, x10, x11, x12⟩ : api_Fact)
def b65 : Ar 12 Int -> List VA := fun x => x.l.map fun y => .int .i64 y
def b6w : List VA -> Option (Ar 12 Int) := mkA (gI .i64) 12
def b8t : List Span -> List VA := fun x => [.list .c_sSpan x]
def b9l : List VA -> Option (List Span) := mkS (SX.gL dT .c_sSpan) fun x0 => mkE x0
def d2e : Int -> List VA := fun x => [.int .u32 x]
def d3n : List VA -> Option Int := mkS (gI .u32) fun x0 => mkE x0
def a6k : sickness_window -> List VA := fun x => [.list .c_i64 x.days]
def a6g : List VA -> Option sickness_window := mkS (SX.gL dT .c_i64) fun x0 => mkE (⟨x0⟩ : sickness_window)
def cdT (n : Nat) : Option TyC := bif Nat.blt n 97 then (bif Nat.blt n 43 then (bif Nat.blt n 11 then (bif Nat.blt n 5 then (bif Nat.blt n 3 then (bif Nat.beq n 2 then some .c_i64 else none) else (bif Nat.blt n 4 then (bif Nat.beq n 3 then some .c_i64 else none) else (bif Nat.beq n 4 then some .c_bool else none))) else (bif Nat.blt n 9 then (bif Nat.blt n 6 then (bif Nat.beq n 5 then some .c_u8 else none) else (bif Nat.beq n 6 then some .c_u8 else none)) else (bif Nat.blt n 10 then (bif Nat.beq n 9 then some .c_str else none) else (bif Nat.beq n 10 then some .c_str else none)))) else (bif Nat.blt n 34 then (bif Nat.blt n 26 then (bif Nat.blt n 12 then (bif Nat.beq n 11 then some .c_str else none) else (bif Nat.beq n 12 then some .c_u64 else none)) else (bif Nat.blt n 27 then (bif Nat.beq n 26 then some .c_sLaws else none) else (bif Nat.beq n 27 then some .c_sLaws else none))) else (bif Nat.blt n 41 then (bif Nat.blt n 40 then (bif Nat.beq n 34 then some .c_i64 else none) else (bif Nat.beq n 40 then some .c_sFraction else none)) else (bif Nat.blt n 42 then (bif Nat.beq n 41 then some .c_sFraction else none) else (bif Nat.beq n 42 then some .c_sRate else none))))) else (bif Nat.blt n 56 then (bif Nat.blt n 51 then (bif Nat.blt n 46 then (bif Nat.blt n 45 then (bif Nat.beq n 43 then some .c_sRate else none) else (bif Nat.beq n 45 then some .c_sStatute else none)) else (bif Nat.blt n 50 then (bif Nat.beq n 46 then some .c_sStatute else none) else (bif Nat.beq n 50 then some .c_sState else none))) else (bif Nat.blt n 54 then (bif Nat.blt n 53 then (bif Nat.beq n 51 then some .c_sState else none) else (bif Nat.beq n 53 then some .c_sRules else none)) else (bif Nat.blt n 55 then (bif Nat.beq n 54 then some .c_sRules else none) else (bif Nat.beq n 55 then some .c_sSpan else none)))) else (bif Nat.blt n 76 then (bif Nat.blt n 58 then (bif Nat.blt n 57 then (bif Nat.beq n 56 then some .c_sSpan else none) else (bif Nat.beq n 57 then some .c_sapi_Fact else none)) else (bif Nat.blt n 75 then (bif Nat.beq n 58 then some .c_sapi_Fact else none) else (bif Nat.beq n 75 then some .c_sRounding else none))) else (bif Nat.blt n 89 then (bif Nat.blt n 78 then (bif Nat.beq n 76 then some .c_sRounding else none) else (bif Nat.beq n 78 then some .c_lsSpan else none)) else (bif Nat.blt n 90 then (bif Nat.beq n 89 then some .c_spensionref5_reader else none) else (bif Nat.beq n 90 then some .c_spensionref5_reader else none)))))) else (bif Nat.blt n 223 then (bif Nat.blt n 184 then (bif Nat.blt n 135 then (bif Nat.blt n 102 then (bif Nat.blt n 98 then (bif Nat.beq n 97 then some .c_sVersion else none) else (bif Nat.beq n 98 then some .c_sVersion else none)) else (bif Nat.blt n 126 then (bif Nat.beq n 102 then some .c_A3_str else none) else (bif Nat.beq n 126 then some .c_u64 else none))) else (bif Nat.blt n 149 then (bif Nat.blt n 136 then (bif Nat.beq n 135 then some .c_ssickness_window else none) else (bif Nat.beq n 136 then some .c_ssickness_window else none)) else (bif Nat.blt n 150 then (bif Nat.beq n 149 then some .c_sToken else none) else (bif Nat.beq n 150 then some .c_sToken else none)))) else (bif Nat.blt n 197 then (bif Nat.blt n 186 then (bif Nat.blt n 185 then (bif Nat.beq n 184 then some .c_sExpr else none) else (bif Nat.beq n 185 then some .c_sExpr else none)) else (bif Nat.blt n 187 then (bif Nat.beq n 186 then some .c_sGrant else none) else (bif Nat.beq n 187 then some .c_sGrant else none))) else (bif Nat.blt n 221 then (bif Nat.blt n 220 then (bif Nat.beq n 197 then some .c_u64 else none) else (bif Nat.beq n 220 then some .c_sCredit else none)) else (bif Nat.blt n 222 then (bif Nat.beq n 221 then some .c_sCredit else none) else (bif Nat.beq n 222 then some .c_sIndex else none))))) else (bif Nat.blt n 313 then (bif Nat.blt n 228 then (bif Nat.blt n 225 then (bif Nat.blt n 224 then (bif Nat.beq n 223 then some .c_sIndex else none) else (bif Nat.beq n 224 then some .c_sLet else none)) else (bif Nat.blt n 227 then (bif Nat.beq n 225 then some .c_sLet else none) else (bif Nat.beq n 227 then some .c_sReduce else none))) else (bif Nat.blt n 284 then (bif Nat.blt n 233 then (bif Nat.beq n 228 then some .c_sReduce else none) else (bif Nat.beq n 233 then some .c_A12_i64 else none)) else (bif Nat.blt n 312 then (bif Nat.beq n 284 then some .c_u64 else none) else (bif Nat.beq n 312 then some .c_spensionref1_wide else none)))) else (bif Nat.blt n 422 then (bif Nat.blt n 377 then (bif Nat.blt n 375 then (bif Nat.beq n 313 then some .c_spensionref1_wide else none) else (bif Nat.beq n 375 then some .c_u32 else none)) else (bif Nat.blt n 392 then (bif Nat.beq n 377 then some .c_i64 else none) else (bif Nat.beq n 392 then some .c_i64 else none))) else (bif Nat.blt n 493 then (bif Nat.blt n 439 then (bif Nat.beq n 422 then some .c_u64 else none) else (bif Nat.beq n 439 then some .c_u64 else none)) else (bif Nat.blt n 494 then (bif Nat.beq n 493 then some .c_u8 else none) else (bif Nat.beq n 494 then some .c_u8 else none))))))
def VV : Uni where
  C := TyC
  T := TyC.T
  dec := dT
  c0 := .c_str
  n := fun c => match c with
    | .c_str => 1
    | .c_u8 => 1
    | .c_i64 => 1
    | .c_sSpan => 2
    | .c_A3_str => 3
    | .c_bool => 1
    | .c_sToken => 3
    | .c_spensionref5_reader => 4
    | .c_u64 => 1
    | .c_spensionref1_wide => 2
    | .c_sFraction => 2
    | .c_sExpr => 6
    | .c_sRounding => 2
    | .c_sCredit => 2
    | .c_sIndex => 3
    | .c_sLet => 7
    | .c_sGrant => 13
    | .c_sReduce => 7
    | .c_sVersion => 8
    | .c_sStatute => 3
    | .c_sState => 4
    | .c_sRules => 5
    | .c_sRate => 4
    | .c_sLaws => 3
    | .c_sapi_Fact => 14
    | .c_A12_i64 => 12
    | .c_lsSpan => 1
    | .c_u32 => 1
    | .c_ssickness_window => 1
  ag := fun c => match c with
    | .c_str => false
    | .c_u8 => false
    | .c_i64 => false
    | .c_sSpan => true
    | .c_A3_str => true
    | .c_bool => false
    | .c_sToken => true
    | .c_spensionref5_reader => true
    | .c_u64 => false
    | .c_spensionref1_wide => true
    | .c_sFraction => true
    | .c_sExpr => true
    | .c_sRounding => true
    | .c_sCredit => true
    | .c_sIndex => true
    | .c_sLet => true
    | .c_sGrant => true
    | .c_sReduce => true
    | .c_sVersion => true
    | .c_sStatute => true
    | .c_sState => true
    | .c_sRules => true
    | .c_sRate => true
    | .c_sLaws => true
    | .c_sapi_Fact => true
    | .c_A12_i64 => true
    | .c_lsSpan => false
    | .c_u32 => false
    | .c_ssickness_window => true
  lay := fun c => match c with
    | .c_str => [none]
    | .c_u8 => [none]
    | .c_i64 => [none]
    | .c_sSpan => [none, none]
    | .c_A3_str => List.replicate 3 (none)
    | .c_bool => [none]
    | .c_sToken => [none, none, none]
    | .c_spensionref5_reader => [none, none, none, none]
    | .c_u64 => [none]
    | .c_spensionref1_wide => [none, none]
    | .c_sFraction => [none, none]
    | .c_sExpr => [none, some .c_sFraction, none, none, none]
    | .c_sRounding => [none, none]
    | .c_sCredit => [none, none]
    | .c_sIndex => [none, some .c_sFraction]
    | .c_sLet => [none, some .c_sExpr]
    | .c_sGrant => [none, some .c_sExpr, some .c_sExpr]
    | .c_sReduce => [none, some .c_sExpr]
    | .c_sVersion => [none, some .c_sRounding, none, none, none, none, none]
    | .c_sStatute => [none, none, none]
    | .c_sState => [none, some .c_sStatute]
    | .c_sRules => [none, none, none, none, none]
    | .c_sRate => [none, none, some .c_sFraction]
    | .c_sLaws => [none, none, none]
    | .c_sapi_Fact => [none, none, none, none, none, none, none, some .c_sSpan, none, none, none, none, none]
    | .c_A12_i64 => List.replicate 12 (none)
    | .c_lsSpan => [none]
    | .c_u32 => [none]
    | .c_ssickness_window => [none]
  flds := fun c => match c with
    | .c_str => d34
    | .c_u8 => d86
    | .c_i64 => d3c
    | .c_sSpan => c3x
    | .c_A3_str => b96
    | .c_bool => c7p
    | .c_sToken => b97
    | .c_spensionref5_reader => a4n
    | .c_u64 => d3k
    | .c_spensionref1_wide => a5u
    | .c_sFraction => b2i
    | .c_sExpr => c33
    | .c_sRounding => b2y
    | .c_sCredit => b6s
    | .c_sIndex => b93
    | .c_sLet => c9l
    | .c_sGrant => c0g
    | .c_sReduce => b6i
    | .c_sVersion => b5b
    | .c_sStatute => b58
    | .c_sState => c0o
    | .c_sRules => b95
    | .c_sRate => c30
    | .c_sLaws => c3w
    | .c_sapi_Fact => b2d
    | .c_A12_i64 => b65
    | .c_lsSpan => b8t
    | .c_u32 => d2e
    | .c_ssickness_window => a6k
  mkv := fun c => match c with
    | .c_str => d28
    | .c_u8 => d7e
    | .c_i64 => d3l
    | .c_sSpan => c27
    | .c_A3_str => c08
    | .c_bool => c67
    | .c_sToken => b9d
    | .c_spensionref5_reader => a4o
    | .c_u64 => d2m
    | .c_spensionref1_wide => a5s
    | .c_sFraction => b2f
    | .c_sExpr => c25
    | .c_sRounding => b2j
    | .c_sCredit => b6d
    | .c_sIndex => b9q
    | .c_sLet => c8p
    | .c_sGrant => b9p
    | .c_sReduce => b6j
    | .c_sVersion => b4v
    | .c_sStatute => b3l
    | .c_sState => c07
    | .c_sRules => b9z
    | .c_sRate => c3g
    | .c_sLaws => c3d
    | .c_sapi_Fact => b2v
    | .c_A12_i64 => b6w
    | .c_lsSpan => b9l
    | .c_u32 => d3n
    | .c_ssickness_window => a6g
  cd := cdT
  flat := fun c => match c with
    | .c_str => true
    | .c_u8 => true
    | .c_i64 => true
    | .c_sSpan => true
    | .c_A3_str => true
    | .c_bool => true
    | .c_sToken => true
    | .c_spensionref5_reader => false
    | .c_u64 => true
    | .c_spensionref1_wide => true
    | .c_sFraction => true
    | .c_sExpr => false
    | .c_sRounding => true
    | .c_sCredit => true
    | .c_sIndex => true
    | .c_sLet => false
    | .c_sGrant => false
    | .c_sReduce => false
    | .c_sVersion => false
    | .c_sStatute => false
    | .c_sState => false
    | .c_sRules => false
    | .c_sRate => true
    | .c_sLaws => false
    | .c_sapi_Fact => true
    | .c_A12_i64 => true
    | .c_lsSpan => false
    | .c_u32 => true
    | .c_ssickness_window => false
  isA := fun c => match c with
    | .c_str => false
    | .c_u8 => false
    | .c_i64 => false
    | .c_sSpan => false
    | .c_A3_str => true
    | .c_bool => false
    | .c_sToken => false
    | .c_spensionref5_reader => false
    | .c_u64 => false
    | .c_spensionref1_wide => false
    | .c_sFraction => false
    | .c_sExpr => false
    | .c_sRounding => false
    | .c_sCredit => false
    | .c_sIndex => false
    | .c_sLet => false
    | .c_sGrant => false
    | .c_sReduce => false
    | .c_sVersion => false
    | .c_sStatute => false
    | .c_sState => false
    | .c_sRules => false
    | .c_sRate => false
    | .c_sLaws => false
    | .c_sapi_Fact => false
    | .c_A12_i64 => true
    | .c_lsSpan => false
    | .c_u32 => false
    | .c_ssickness_window => false
  ae := fun c => match c with
    | .c_str => .c_str
    | .c_u8 => .c_u8
    | .c_i64 => .c_i64
    | .c_sSpan => .c_sSpan
    | .c_A3_str => .c_str
    | .c_bool => .c_bool
    | .c_sToken => .c_sToken
    | .c_spensionref5_reader => .c_spensionref5_reader
    | .c_u64 => .c_u64
    | .c_spensionref1_wide => .c_spensionref1_wide
    | .c_sFraction => .c_sFraction
    | .c_sExpr => .c_sExpr
    | .c_sRounding => .c_sRounding
    | .c_sCredit => .c_sCredit
    | .c_sIndex => .c_sIndex
    | .c_sLet => .c_sLet
    | .c_sGrant => .c_sGrant
    | .c_sReduce => .c_sReduce
    | .c_sVersion => .c_sVersion
    | .c_sStatute => .c_sStatute
    | .c_sState => .c_sState
    | .c_sRules => .c_sRules
    | .c_sRate => .c_sRate
    | .c_sLaws => .c_sLaws
    | .c_sapi_Fact => .c_sapi_Fact
    | .c_A12_i64 => .c_i64
    | .c_lsSpan => .c_lsSpan
    | .c_u32 => .c_u32
    | .c_ssickness_window => .c_ssickness_window
  an := fun c => match c with
    | .c_str => 0
    | .c_u8 => 0
    | .c_i64 => 0
    | .c_sSpan => 0
    | .c_A3_str => 3
    | .c_bool => 0
    | .c_sToken => 0
    | .c_spensionref5_reader => 0
    | .c_u64 => 0
    | .c_spensionref1_wide => 0
    | .c_sFraction => 0
    | .c_sExpr => 0
    | .c_sRounding => 0
    | .c_sCredit => 0
    | .c_sIndex => 0
    | .c_sLet => 0
    | .c_sGrant => 0
    | .c_sReduce => 0
    | .c_sVersion => 0
    | .c_sStatute => 0
    | .c_sState => 0
    | .c_sRules => 0
    | .c_sRate => 0
    | .c_sLaws => 0
    | .c_sapi_Fact => 0
    | .c_A12_i64 => 12
    | .c_lsSpan => 0
    | .c_u32 => 0
    | .c_ssickness_window => 0
  al := fun c => match c with
    | .c_str => fun _ => []
    | .c_u8 => fun _ => []
    | .c_i64 => fun _ => []
    | .c_sSpan => fun _ => []
    | .c_A3_str => fun x => x.l
    | .c_bool => fun _ => []
    | .c_sToken => fun _ => []
    | .c_spensionref5_reader => fun _ => []
    | .c_u64 => fun _ => []
    | .c_spensionref1_wide => fun _ => []
    | .c_sFraction => fun _ => []
    | .c_sExpr => fun _ => []
    | .c_sRounding => fun _ => []
    | .c_sCredit => fun _ => []
    | .c_sIndex => fun _ => []
    | .c_sLet => fun _ => []
    | .c_sGrant => fun _ => []
    | .c_sReduce => fun _ => []
    | .c_sVersion => fun _ => []
    | .c_sStatute => fun _ => []
    | .c_sState => fun _ => []
    | .c_sRules => fun _ => []
    | .c_sRate => fun _ => []
    | .c_sLaws => fun _ => []
    | .c_sapi_Fact => fun _ => []
    | .c_A12_i64 => fun x => x.l
    | .c_lsSpan => fun _ => []
    | .c_u32 => fun _ => []
    | .c_ssickness_window => fun _ => []
  «as» := fun c => match c with
    | .c_str => fun x _ _ => x
    | .c_u8 => fun x _ _ => x
    | .c_i64 => fun x _ _ => x
    | .c_sSpan => fun x _ _ => x
    | .c_A3_str => fun x i y => x.set i y
    | .c_bool => fun x _ _ => x
    | .c_sToken => fun x _ _ => x
    | .c_spensionref5_reader => fun x _ _ => x
    | .c_u64 => fun x _ _ => x
    | .c_spensionref1_wide => fun x _ _ => x
    | .c_sFraction => fun x _ _ => x
    | .c_sExpr => fun x _ _ => x
    | .c_sRounding => fun x _ _ => x
    | .c_sCredit => fun x _ _ => x
    | .c_sIndex => fun x _ _ => x
    | .c_sLet => fun x _ _ => x
    | .c_sGrant => fun x _ _ => x
    | .c_sReduce => fun x _ _ => x
    | .c_sVersion => fun x _ _ => x
    | .c_sStatute => fun x _ _ => x
    | .c_sState => fun x _ _ => x
    | .c_sRules => fun x _ _ => x
    | .c_sRate => fun x _ _ => x
    | .c_sLaws => fun x _ _ => x
    | .c_sapi_Fact => fun x _ _ => x
    | .c_A12_i64 => fun x i y => x.set i y
    | .c_lsSpan => fun x _ _ => x
    | .c_u32 => fun x _ _ => x
    | .c_ssickness_window => fun x _ _ => x
  b8 := fun c => match c with
    | .c_str => false
    | .c_u8 => true
    | .c_i64 => false
    | .c_sSpan => false
    | .c_A3_str => false
    | .c_bool => false
    | .c_sToken => false
    | .c_spensionref5_reader => false
    | .c_u64 => false
    | .c_spensionref1_wide => false
    | .c_sFraction => false
    | .c_sExpr => false
    | .c_sRounding => false
    | .c_sCredit => false
    | .c_sIndex => false
    | .c_sLet => false
    | .c_sGrant => false
    | .c_sReduce => false
    | .c_sVersion => false
    | .c_sStatute => false
    | .c_sState => false
    | .c_sRules => false
    | .c_sRate => false
    | .c_sLaws => false
    | .c_sapi_Fact => false
    | .c_A12_i64 => false
    | .c_lsSpan => false
    | .c_u32 => false
    | .c_ssickness_window => false
  t8 := fun c => match c with
    | .c_str => fun _ => 0
    | .c_u8 => fun x => x
    | .c_i64 => fun _ => 0
    | .c_sSpan => fun _ => 0
    | .c_A3_str => fun _ => 0
    | .c_bool => fun _ => 0
    | .c_sToken => fun _ => 0
    | .c_spensionref5_reader => fun _ => 0
    | .c_u64 => fun _ => 0
    | .c_spensionref1_wide => fun _ => 0
    | .c_sFraction => fun _ => 0
    | .c_sExpr => fun _ => 0
    | .c_sRounding => fun _ => 0
    | .c_sCredit => fun _ => 0
    | .c_sIndex => fun _ => 0
    | .c_sLet => fun _ => 0
    | .c_sGrant => fun _ => 0
    | .c_sReduce => fun _ => 0
    | .c_sVersion => fun _ => 0
    | .c_sStatute => fun _ => 0
    | .c_sState => fun _ => 0
    | .c_sRules => fun _ => 0
    | .c_sRate => fun _ => 0
    | .c_sLaws => fun _ => 0
    | .c_sapi_Fact => fun _ => 0
    | .c_A12_i64 => fun _ => 0
    | .c_lsSpan => fun _ => 0
    | .c_u32 => fun _ => 0
    | .c_ssickness_window => fun _ => 0
theorem d53 : ∀ (zs : List VV.AV) (y : ByteArray), d28 zs = some y -> i8 (AEq (U := VV)) zs (d34 y) := by
  intro zs y h
  obtain ⟨a0, zs, x0, rfl, h0, h⟩ := d8 h; obtain ⟨rfl, rfl⟩ := a1g h; exact ⟨c5j (U := VV) h0, trivial⟩
theorem d6j : ∀ (zs : List VV.AV) (y : Int), d7e zs = some y -> i8 (AEq (U := VV)) zs (d86 y) := by
  intro zs y h
  obtain ⟨a0, zs, x0, rfl, h0, h⟩ := d8 h; obtain ⟨rfl, rfl⟩ := a1g h; exact ⟨a15 (U := VV) h0, trivial⟩
theorem d5d : ∀ (zs : List VV.AV) (y : Int), d3l zs = some y -> i8 (AEq (U := VV)) zs (d3c y) := by
  intro zs y h
  obtain ⟨a0, zs, x0, rfl, h0, h⟩ := d8 h; obtain ⟨rfl, rfl⟩ := a1g h; exact ⟨a15 (U := VV) h0, trivial⟩
theorem c8i : ∀ (zs : List VV.AV) (y : Span), c27 zs = some y -> i8 (AEq (U := VV)) zs (c3x y) := by
  intro zs y h
  obtain ⟨a0, zs, x0, rfl, h0, h⟩ := d8 h; obtain ⟨a1, zs, x1, rfl, h1, h⟩ := d8 h; obtain ⟨rfl, rfl⟩ := a1g h; exact ⟨a15 (U := VV) h0, a15 (U := VV) h1, trivial⟩
theorem c5l : ∀ (zs : List VV.AV) (y : Ar 3 ByteArray), c08 zs = some y -> i8 (AEq (U := VV)) zs (b96 y) := fun zs y h => d2p (fun _ _ h => c5j (U := VV) h) h
theorem d09 : ∀ (zs : List VV.AV) (y : Bool), c67 zs = some y -> i8 (AEq (U := VV)) zs (c7p y) := by
  intro zs y h
  obtain ⟨a0, zs, x0, rfl, h0, h⟩ := d8 h; obtain ⟨rfl, rfl⟩ := a1g h; exact ⟨d60 (U := VV) h0, trivial⟩
theorem c5b : ∀ (zs : List VV.AV) (y : Token), b9d zs = some y -> i8 (AEq (U := VV)) zs (b97 y) := by
  intro zs y h
  obtain ⟨a0, zs, x0, rfl, h0, h⟩ := d8 h; obtain ⟨a1, zs, x1, rfl, h1, h⟩ := d8 h; obtain ⟨a2, zs, x2, rfl, h2, h⟩ := d8 h; obtain ⟨rfl, rfl⟩ := a1g h; exact ⟨a15 (U := VV) h0, c5j (U := VV) h1, a15 (U := VV) h2, trivial⟩
theorem a8j : ∀ (zs : List VV.AV) (y : pensionref5_reader), a4o zs = some y -> i8 (AEq (U := VV)) zs (a4n y) := by
  intro zs y h
  obtain ⟨a0, zs, x0, rfl, h0, h⟩ := d8 h; obtain ⟨a1, zs, x1, rfl, h1, h⟩ := d8 h; obtain ⟨a2, zs, x2, rfl, h2, h⟩ := d8 h; obtain ⟨a3, zs, x3, rfl, h3, h⟩ := d8 h; obtain ⟨rfl, rfl⟩ := a1g h; exact ⟨b0p (U := VV) h0, a15 (U := VV) h1, a15 (U := VV) h2, d60 (U := VV) h3, trivial⟩
theorem d4j : ∀ (zs : List VV.AV) (y : Int), d2m zs = some y -> i8 (AEq (U := VV)) zs (d3k y) := by
  intro zs y h
  obtain ⟨a0, zs, x0, rfl, h0, h⟩ := d8 h; obtain ⟨rfl, rfl⟩ := a1g h; exact ⟨a15 (U := VV) h0, trivial⟩
theorem a8s : ∀ (zs : List VV.AV) (y : pensionref1_wide), a5s zs = some y -> i8 (AEq (U := VV)) zs (a5u y) := by
  intro zs y h
  obtain ⟨a0, zs, x0, rfl, h0, h⟩ := d8 h; obtain ⟨a1, zs, x1, rfl, h1, h⟩ := d8 h; obtain ⟨rfl, rfl⟩ := a1g h; exact ⟨a15 (U := VV) h0, a15 (U := VV) h1, trivial⟩
theorem b8m : ∀ (zs : List VV.AV) (y : Fraction), b2f zs = some y -> i8 (AEq (U := VV)) zs (b2i y) := by
  intro zs y h
  obtain ⟨a0, zs, x0, rfl, h0, h⟩ := d8 h; obtain ⟨a1, zs, x1, rfl, h1, h⟩ := d8 h; obtain ⟨rfl, rfl⟩ := a1g h; exact ⟨a15 (U := VV) h0, a15 (U := VV) h1, trivial⟩
theorem c8r : ∀ (zs : List VV.AV) (y : Expr), c25 zs = some y -> i8 (AEq (U := VV)) zs (c33 y) := by
  intro zs y h
  obtain ⟨a0, zs, x0, rfl, h0, h⟩ := d8 h; obtain ⟨a1, zs, x1, rfl, h1, h⟩ := d8 h; obtain ⟨a2, zs, x2, rfl, h2, h⟩ := d8 h; obtain ⟨a3, zs, x3, rfl, h3, h⟩ := d8 h; obtain ⟨a4, zs, x4, rfl, h4, h⟩ := d8 h; obtain ⟨rfl, rfl⟩ := a1g h; exact ⟨a15 (U := VV) h0, b63 (U := VV) h1, a15 (U := VV) h2, c5j (U := VV) h3, b0p (U := VV) h4, trivial⟩
theorem b85 : ∀ (zs : List VV.AV) (y : Rounding), b2j zs = some y -> i8 (AEq (U := VV)) zs (b2y y) := by
  intro zs y h
  obtain ⟨a0, zs, x0, rfl, h0, h⟩ := d8 h; obtain ⟨a1, zs, x1, rfl, h1, h⟩ := d8 h; obtain ⟨rfl, rfl⟩ := a1g h; exact ⟨a15 (U := VV) h0, a15 (U := VV) h1, trivial⟩
theorem c0w : ∀ (zs : List VV.AV) (y : Credit), b6d zs = some y -> i8 (AEq (U := VV)) zs (b6s y) := by
  intro zs y h
  obtain ⟨a0, zs, x0, rfl, h0, h⟩ := d8 h; obtain ⟨a1, zs, x1, rfl, h1, h⟩ := d8 h; obtain ⟨rfl, rfl⟩ := a1g h; exact ⟨a15 (U := VV) h0, a15 (U := VV) h1, trivial⟩
theorem c4x : ∀ (zs : List VV.AV) (y : Index), b9q zs = some y -> i8 (AEq (U := VV)) zs (b93 y) := by
  intro zs y h
  obtain ⟨a0, zs, x0, rfl, h0, h⟩ := d8 h; obtain ⟨a1, zs, x1, rfl, h1, h⟩ := d8 h; obtain ⟨rfl, rfl⟩ := a1g h; exact ⟨a15 (U := VV) h0, b63 (U := VV) h1, trivial⟩
theorem d1s : ∀ (zs : List VV.AV) (y : Let), c8p zs = some y -> i8 (AEq (U := VV)) zs (c9l y) := by
  intro zs y h
  obtain ⟨a0, zs, x0, rfl, h0, h⟩ := d8 h; obtain ⟨a1, zs, x1, rfl, h1, h⟩ := d8 h; obtain ⟨rfl, rfl⟩ := a1g h; exact ⟨c5j (U := VV) h0, b63 (U := VV) h1, trivial⟩
theorem c4l : ∀ (zs : List VV.AV) (y : Grant), b9p zs = some y -> i8 (AEq (U := VV)) zs (c0g y) := by
  intro zs y h
  obtain ⟨a0, zs, x0, rfl, h0, h⟩ := d8 h; obtain ⟨a1, zs, x1, rfl, h1, h⟩ := d8 h; obtain ⟨a2, zs, x2, rfl, h2, h⟩ := d8 h; obtain ⟨rfl, rfl⟩ := a1g h; exact ⟨a15 (U := VV) h0, b63 (U := VV) h1, b63 (U := VV) h2, trivial⟩
theorem c1u : ∀ (zs : List VV.AV) (y : Reduce), b6j zs = some y -> i8 (AEq (U := VV)) zs (b6i y) := by
  intro zs y h
  obtain ⟨a0, zs, x0, rfl, h0, h⟩ := d8 h; obtain ⟨a1, zs, x1, rfl, h1, h⟩ := d8 h; obtain ⟨rfl, rfl⟩ := a1g h; exact ⟨a15 (U := VV) h0, b63 (U := VV) h1, trivial⟩
theorem b9b : ∀ (zs : List VV.AV) (y : Version), b4v zs = some y -> i8 (AEq (U := VV)) zs (b5b y) := by
  intro zs y h
  obtain ⟨a0, zs, x0, rfl, h0, h⟩ := d8 h; obtain ⟨a1, zs, x1, rfl, h1, h⟩ := d8 h; obtain ⟨a2, zs, x2, rfl, h2, h⟩ := d8 h; obtain ⟨a3, zs, x3, rfl, h3, h⟩ := d8 h; obtain ⟨a4, zs, x4, rfl, h4, h⟩ := d8 h; obtain ⟨a5, zs, x5, rfl, h5, h⟩ := d8 h; obtain ⟨a6, zs, x6, rfl, h6, h⟩ := d8 h; obtain ⟨rfl, rfl⟩ := a1g h; exact ⟨a15 (U := VV) h0, b63 (U := VV) h1, b0p (U := VV) h2, b0p (U := VV) h3, b0p (U := VV) h4, b0p (U := VV) h5, b0p (U := VV) h6, trivial⟩
theorem b92 : ∀ (zs : List VV.AV) (y : Statute), b3l zs = some y -> i8 (AEq (U := VV)) zs (b58 y) := by
  intro zs y h
  obtain ⟨a0, zs, x0, rfl, h0, h⟩ := d8 h; obtain ⟨a1, zs, x1, rfl, h1, h⟩ := d8 h; obtain ⟨a2, zs, x2, rfl, h2, h⟩ := d8 h; obtain ⟨rfl, rfl⟩ := a1g h; exact ⟨c5j (U := VV) h0, a15 (U := VV) h1, b0p (U := VV) h2, trivial⟩
theorem c4j : ∀ (zs : List VV.AV) (y : State), c07 zs = some y -> i8 (AEq (U := VV)) zs (c0o y) := by
  intro zs y h
  obtain ⟨a0, zs, x0, rfl, h0, h⟩ := d8 h; obtain ⟨a1, zs, x1, rfl, h1, h⟩ := d8 h; obtain ⟨rfl, rfl⟩ := a1g h; exact ⟨a15 (U := VV) h0, b63 (U := VV) h1, trivial⟩
theorem c5i : ∀ (zs : List VV.AV) (y : Rules), b9z zs = some y -> i8 (AEq (U := VV)) zs (b95 y) := by
  intro zs y h
  obtain ⟨a0, zs, x0, rfl, h0, h⟩ := d8 h; obtain ⟨a1, zs, x1, rfl, h1, h⟩ := d8 h; obtain ⟨a2, zs, x2, rfl, h2, h⟩ := d8 h; obtain ⟨a3, zs, x3, rfl, h3, h⟩ := d8 h; obtain ⟨a4, zs, x4, rfl, h4, h⟩ := d8 h; obtain ⟨rfl, rfl⟩ := a1g h; exact ⟨a15 (U := VV) h0, a15 (U := VV) h1, a15 (U := VV) h2, a15 (U := VV) h3, b0p (U := VV) h4, trivial⟩
theorem c76 : ∀ (zs : List VV.AV) (y : Rate), c3g zs = some y -> i8 (AEq (U := VV)) zs (c30 y) := by
  intro zs y h
  obtain ⟨a0, zs, x0, rfl, h0, h⟩ := d8 h; obtain ⟨a1, zs, x1, rfl, h1, h⟩ := d8 h; obtain ⟨a2, zs, x2, rfl, h2, h⟩ := d8 h; obtain ⟨rfl, rfl⟩ := a1g h; exact ⟨a15 (U := VV) h0, a15 (U := VV) h1, b63 (U := VV) h2, trivial⟩
theorem c89 : ∀ (zs : List VV.AV) (y : Laws), c3d zs = some y -> i8 (AEq (U := VV)) zs (c3w y) := by
  intro zs y h
  obtain ⟨a0, zs, x0, rfl, h0, h⟩ := d8 h; obtain ⟨a1, zs, x1, rfl, h1, h⟩ := d8 h; obtain ⟨a2, zs, x2, rfl, h2, h⟩ := d8 h; obtain ⟨rfl, rfl⟩ := a1g h; exact ⟨b0p (U := VV) h0, b0p (U := VV) h1, b0p (U := VV) h2, trivial⟩
theorem b88 : ∀ (zs : List VV.AV) (y : api_Fact), b2v zs = some y -> i8 (AEq (U := VV)) zs (b2d y) := by
  intro zs y h
  obtain ⟨a0, zs, x0, rfl, h0, h⟩ := d8 h; obtain ⟨a1, zs, x1, rfl, h1, h⟩ := d8 h; obtain ⟨a2, zs, x2, rfl, h2, h⟩ := d8 h; obtain ⟨a3, zs, x3, rfl, h3, h⟩ := d8 h; obtain ⟨a4, zs, x4, rfl, h4, h⟩ := d8 h; obtain ⟨a5, zs, x5, rfl, h5, h⟩ := d8 h; obtain ⟨a6, zs, x6, rfl, h6, h⟩ := d8 h; obtain ⟨a7, zs, x7, rfl, h7, h⟩ := d8 h; obtain ⟨a8, zs, x8, rfl, h8, h⟩ := d8 h; obtain ⟨a9, zs, x9, rfl, h9, h⟩ := d8 h; obtain ⟨a10, zs, x10, rfl, h10, h⟩ := d8 h; obtain ⟨a11, zs, x11, rfl, h11, h⟩ := d8 h; obtain ⟨a12, zs, x12, rfl, h12, h⟩ := d8 h; obtain ⟨rfl, rfl⟩ := a1g h; exact ⟨a15 (U := VV) h0, a15 (U := VV) h1, a15 (U := VV) h2, d60 (U := VV) h3, a15 (U := VV) h4, a15 (U := VV) h5, a15 (U := VV) h6, b63 (U := VV) h7, a15 (U := VV) h8, a15 (U := VV) h9, a15 (U := VV) h10, a15 (U := VV) h11, a15 (U := VV) h12, trivial⟩
theorem c20 : ∀ (zs : List VV.AV) (y : Ar 12 Int), b6w zs = some y -> i8 (AEq (U := VV)) zs (b65 y) := fun zs y h => d2p (fun _ _ h => a15 (U := VV) h) h
theorem c5e : ∀ (zs : List VV.AV) (y : List Span), b9l zs = some y -> i8 (AEq (U := VV)) zs (b8t y) := by
  intro zs y h
  obtain ⟨a0, zs, x0, rfl, h0, h⟩ := d8 h; obtain ⟨rfl, rfl⟩ := a1g h; exact ⟨b0p (U := VV) h0, trivial⟩
theorem d4e : ∀ (zs : List VV.AV) (y : Int), d3n zs = some y -> i8 (AEq (U := VV)) zs (d2e y) := by
  intro zs y h
  obtain ⟨a0, zs, x0, rfl, h0, h⟩ := d8 h; obtain ⟨rfl, rfl⟩ := a1g h; exact ⟨a15 (U := VV) h0, trivial⟩
theorem a9l : ∀ (zs : List VV.AV) (y : sickness_window), a6g zs = some y -> i8 (AEq (U := VV)) zs (a6k y) := by
  intro zs y h
  obtain ⟨a0, zs, x0, rfl, h0, h⟩ := d8 h; obtain ⟨rfl, rfl⟩ := a1g h; exact ⟨b0p (U := VV) h0, trivial⟩
theorem uok : UOK VV where
  lay := fun c x => match c, x with
    | .c_str, x => rfl
    | .c_u8, x => rfl
    | .c_i64, x => rfl
    | .c_sSpan, x => rfl
    | .c_A3_str, x => c87 (U := VV) x fun _ => rfl
    | .c_bool, x => rfl
    | .c_sToken, x => rfl
    | .c_spensionref5_reader, x => rfl
    | .c_u64, x => rfl
    | .c_spensionref1_wide, x => rfl
    | .c_sFraction, x => rfl
    | .c_sExpr, x => rfl
    | .c_sRounding, x => rfl
    | .c_sCredit, x => rfl
    | .c_sIndex, x => rfl
    | .c_sLet, x => rfl
    | .c_sGrant, x => rfl
    | .c_sReduce, x => rfl
    | .c_sVersion, x => rfl
    | .c_sStatute, x => rfl
    | .c_sState, x => rfl
    | .c_sRules, x => rfl
    | .c_sRate, x => rfl
    | .c_sLaws, x => rfl
    | .c_sapi_Fact, x => rfl
    | .c_A12_i64, x => c87 (U := VV) x fun _ => rfl
    | .c_lsSpan, x => rfl
    | .c_u32, x => rfl
    | .c_ssickness_window, x => rfl
  kind := fun c x => match c, x with
    | .c_str, x => rfl
    | .c_u8, x => rfl
    | .c_i64, x => rfl
    | .c_sSpan, x => rfl
    | .c_A3_str, x => b7d (U := VV) x fun _ => rfl
    | .c_bool, x => rfl
    | .c_sToken, x => rfl
    | .c_spensionref5_reader, x => rfl
    | .c_u64, x => rfl
    | .c_spensionref1_wide, x => rfl
    | .c_sFraction, x => rfl
    | .c_sExpr, x => rfl
    | .c_sRounding, x => rfl
    | .c_sCredit, x => rfl
    | .c_sIndex, x => rfl
    | .c_sLet, x => rfl
    | .c_sGrant, x => rfl
    | .c_sReduce, x => rfl
    | .c_sVersion, x => rfl
    | .c_sStatute, x => rfl
    | .c_sState, x => rfl
    | .c_sRules, x => rfl
    | .c_sRate, x => rfl
    | .c_sLaws, x => rfl
    | .c_sapi_Fact, x => rfl
    | .c_A12_i64, x => b7d (U := VV) x fun _ => rfl
    | .c_lsSpan, x => rfl
    | .c_u32, x => rfl
    | .c_ssickness_window, x => rfl
  sum := fun c => by cases c <;> rfl
  sc := fun c h => by cases c <;> first | rfl | cases h
  mkl := fun c zs y h => match c, y, h with
    | .c_str, y, h => d53 zs y h
    | .c_u8, y, h => d6j zs y h
    | .c_i64, y, h => d5d zs y h
    | .c_sSpan, y, h => c8i zs y h
    | .c_A3_str, y, h => c5l zs y h
    | .c_bool, y, h => d09 zs y h
    | .c_sToken, y, h => c5b zs y h
    | .c_spensionref5_reader, y, h => a8j zs y h
    | .c_u64, y, h => d4j zs y h
    | .c_spensionref1_wide, y, h => a8s zs y h
    | .c_sFraction, y, h => b8m zs y h
    | .c_sExpr, y, h => c8r zs y h
    | .c_sRounding, y, h => b85 zs y h
    | .c_sCredit, y, h => c0w zs y h
    | .c_sIndex, y, h => c4x zs y h
    | .c_sLet, y, h => d1s zs y h
    | .c_sGrant, y, h => c4l zs y h
    | .c_sReduce, y, h => c1u zs y h
    | .c_sVersion, y, h => b9b zs y h
    | .c_sStatute, y, h => b92 zs y h
    | .c_sState, y, h => c4j zs y h
    | .c_sRules, y, h => c5i zs y h
    | .c_sRate, y, h => c76 zs y h
    | .c_sLaws, y, h => c89 zs y h
    | .c_sapi_Fact, y, h => b88 zs y h
    | .c_A12_i64, y, h => c20 zs y h
    | .c_lsSpan, y, h => c5e zs y h
    | .c_u32, y, h => d4e zs y h
    | .c_ssickness_window, y, h => a9l zs y h
  flat := fun c x h => match c, x, h with
    | .c_str, x, h => rfl
    | .c_u8, x, h => rfl
    | .c_i64, x, h => rfl
    | .c_sSpan, x, h => rfl
    | .c_A3_str, x, h => b7d (U := VV) x fun _ => rfl
    | .c_bool, x, h => rfl
    | .c_sToken, x, h => rfl
    | .c_spensionref5_reader, x, h => Bool.noConfusion (show false = true from h)
    | .c_u64, x, h => rfl
    | .c_spensionref1_wide, x, h => rfl
    | .c_sFraction, x, h => rfl
    | .c_sExpr, x, h => Bool.noConfusion (show false = true from h)
    | .c_sRounding, x, h => rfl
    | .c_sCredit, x, h => rfl
    | .c_sIndex, x, h => rfl
    | .c_sLet, x, h => Bool.noConfusion (show false = true from h)
    | .c_sGrant, x, h => Bool.noConfusion (show false = true from h)
    | .c_sReduce, x, h => Bool.noConfusion (show false = true from h)
    | .c_sVersion, x, h => Bool.noConfusion (show false = true from h)
    | .c_sStatute, x, h => Bool.noConfusion (show false = true from h)
    | .c_sState, x, h => Bool.noConfusion (show false = true from h)
    | .c_sRules, x, h => Bool.noConfusion (show false = true from h)
    | .c_sRate, x, h => rfl
    | .c_sLaws, x, h => Bool.noConfusion (show false = true from h)
    | .c_sapi_Fact, x, h => rfl
    | .c_A12_i64, x, h => b7d (U := VV) x fun _ => rfl
    | .c_lsSpan, x, h => Bool.noConfusion (show false = true from h)
    | .c_u32, x, h => rfl
    | .c_ssickness_window, x, h => Bool.noConfusion (show false = true from h)
  arr := fun c x h => match c, x, h with
    | .c_str, x, h => Bool.noConfusion (show false = true from h)
    | .c_u8, x, h => Bool.noConfusion (show false = true from h)
    | .c_i64, x, h => Bool.noConfusion (show false = true from h)
    | .c_sSpan, x, h => Bool.noConfusion (show false = true from h)
    | .c_A3_str, x, h => ⟨rfl, x.h⟩
    | .c_bool, x, h => Bool.noConfusion (show false = true from h)
    | .c_sToken, x, h => Bool.noConfusion (show false = true from h)
    | .c_spensionref5_reader, x, h => Bool.noConfusion (show false = true from h)
    | .c_u64, x, h => Bool.noConfusion (show false = true from h)
    | .c_spensionref1_wide, x, h => Bool.noConfusion (show false = true from h)
    | .c_sFraction, x, h => Bool.noConfusion (show false = true from h)
    | .c_sExpr, x, h => Bool.noConfusion (show false = true from h)
    | .c_sRounding, x, h => Bool.noConfusion (show false = true from h)
    | .c_sCredit, x, h => Bool.noConfusion (show false = true from h)
    | .c_sIndex, x, h => Bool.noConfusion (show false = true from h)
    | .c_sLet, x, h => Bool.noConfusion (show false = true from h)
    | .c_sGrant, x, h => Bool.noConfusion (show false = true from h)
    | .c_sReduce, x, h => Bool.noConfusion (show false = true from h)
    | .c_sVersion, x, h => Bool.noConfusion (show false = true from h)
    | .c_sStatute, x, h => Bool.noConfusion (show false = true from h)
    | .c_sState, x, h => Bool.noConfusion (show false = true from h)
    | .c_sRules, x, h => Bool.noConfusion (show false = true from h)
    | .c_sRate, x, h => Bool.noConfusion (show false = true from h)
    | .c_sLaws, x, h => Bool.noConfusion (show false = true from h)
    | .c_sapi_Fact, x, h => Bool.noConfusion (show false = true from h)
    | .c_A12_i64, x, h => ⟨rfl, x.h⟩
    | .c_lsSpan, x, h => Bool.noConfusion (show false = true from h)
    | .c_u32, x, h => Bool.noConfusion (show false = true from h)
    | .c_ssickness_window, x, h => Bool.noConfusion (show false = true from h)
  ars := fun c x i y h => match c, x, y, h with
    | .c_str, x, y, h => Bool.noConfusion (show false = true from h)
    | .c_u8, x, y, h => Bool.noConfusion (show false = true from h)
    | .c_i64, x, y, h => Bool.noConfusion (show false = true from h)
    | .c_sSpan, x, y, h => Bool.noConfusion (show false = true from h)
    | .c_A3_str, x, y, h => rfl
    | .c_bool, x, y, h => Bool.noConfusion (show false = true from h)
    | .c_sToken, x, y, h => Bool.noConfusion (show false = true from h)
    | .c_spensionref5_reader, x, y, h => Bool.noConfusion (show false = true from h)
    | .c_u64, x, y, h => Bool.noConfusion (show false = true from h)
    | .c_spensionref1_wide, x, y, h => Bool.noConfusion (show false = true from h)
    | .c_sFraction, x, y, h => Bool.noConfusion (show false = true from h)
    | .c_sExpr, x, y, h => Bool.noConfusion (show false = true from h)
    | .c_sRounding, x, y, h => Bool.noConfusion (show false = true from h)
    | .c_sCredit, x, y, h => Bool.noConfusion (show false = true from h)
    | .c_sIndex, x, y, h => Bool.noConfusion (show false = true from h)
    | .c_sLet, x, y, h => Bool.noConfusion (show false = true from h)
    | .c_sGrant, x, y, h => Bool.noConfusion (show false = true from h)
    | .c_sReduce, x, y, h => Bool.noConfusion (show false = true from h)
    | .c_sVersion, x, y, h => Bool.noConfusion (show false = true from h)
    | .c_sStatute, x, y, h => Bool.noConfusion (show false = true from h)
    | .c_sState, x, y, h => Bool.noConfusion (show false = true from h)
    | .c_sRules, x, y, h => Bool.noConfusion (show false = true from h)
    | .c_sRate, x, y, h => Bool.noConfusion (show false = true from h)
    | .c_sLaws, x, y, h => Bool.noConfusion (show false = true from h)
    | .c_sapi_Fact, x, y, h => Bool.noConfusion (show false = true from h)
    | .c_A12_i64, x, y, h => rfl
    | .c_lsSpan, x, y, h => Bool.noConfusion (show false = true from h)
    | .c_u32, x, y, h => Bool.noConfusion (show false = true from h)
    | .c_ssickness_window, x, y, h => Bool.noConfusion (show false = true from h)
  by8 := fun c x h => match c, x, h with
    | .c_str, x, h => Bool.noConfusion (show false = true from h)
    | .c_u8, x, h => rfl
    | .c_i64, x, h => Bool.noConfusion (show false = true from h)
    | .c_sSpan, x, h => Bool.noConfusion (show false = true from h)
    | .c_A3_str, x, h => Bool.noConfusion (show false = true from h)
    | .c_bool, x, h => Bool.noConfusion (show false = true from h)
    | .c_sToken, x, h => Bool.noConfusion (show false = true from h)
    | .c_spensionref5_reader, x, h => Bool.noConfusion (show false = true from h)
    | .c_u64, x, h => Bool.noConfusion (show false = true from h)
    | .c_spensionref1_wide, x, h => Bool.noConfusion (show false = true from h)
    | .c_sFraction, x, h => Bool.noConfusion (show false = true from h)
    | .c_sExpr, x, h => Bool.noConfusion (show false = true from h)
    | .c_sRounding, x, h => Bool.noConfusion (show false = true from h)
    | .c_sCredit, x, h => Bool.noConfusion (show false = true from h)
    | .c_sIndex, x, h => Bool.noConfusion (show false = true from h)
    | .c_sLet, x, h => Bool.noConfusion (show false = true from h)
    | .c_sGrant, x, h => Bool.noConfusion (show false = true from h)
    | .c_sReduce, x, h => Bool.noConfusion (show false = true from h)
    | .c_sVersion, x, h => Bool.noConfusion (show false = true from h)
    | .c_sStatute, x, h => Bool.noConfusion (show false = true from h)
    | .c_sState, x, h => Bool.noConfusion (show false = true from h)
    | .c_sRules, x, h => Bool.noConfusion (show false = true from h)
    | .c_sRate, x, h => Bool.noConfusion (show false = true from h)
    | .c_sLaws, x, h => Bool.noConfusion (show false = true from h)
    | .c_sapi_Fact, x, h => Bool.noConfusion (show false = true from h)
    | .c_A12_i64, x, h => Bool.noConfusion (show false = true from h)
    | .c_lsSpan, x, h => Bool.noConfusion (show false = true from h)
    | .c_u32, x, h => Bool.noConfusion (show false = true from h)
    | .c_ssickness_window, x, h => Bool.noConfusion (show false = true from h)
end Go.PL
namespace Go.PL
open Go
theorem l7 {n : Int} (h0 : -9223372036854775808 <= n) (h1 : n <= 9223372036854775807) : i64 n = n := by
  unfold i64; rw [IntKind.wrap_i64]; omega
theorem c6b {n : Int} (h0 : 0 <= n) (h1 : n <= 18446744073709551615) : u64 n = n := by
  unfold u64; rw [IntKind.wrap_u64]; omega
theorem d6f (n : Int) : u64 n = n % 18446744073709551616 := by unfold u64; rw [IntKind.wrap_u64]
theorem b0y (n : Int) : 0 <= u64 n /\ u64 n <= 18446744073709551615 := by rw [d6f]; omega
theorem c2a {α : Type} (l : List α) (k : Nat) : m7 l (k : Int) = l[k]? := by unfold m7; rw [if_pos (Int.natCast_nonneg k), Int.toNat_natCast]
theorem a1j {b e : Bool} : (if b = true then some true else some e) = some (b || e) := by cases b <;> rfl
theorem a07 {b e : Bool} : (if b = true then some e else some false) = some (b && e) := by cases b <;> rfl
theorem b3t {σ ρ : Type} {f : (σ -> Option ρ) -> σ -> Option ρ} (I : σ -> Prop) (μ : σ -> Nat) (Q : ρ -> Prop)
    (step : ∀ s rec, I s -> (∃ r, f rec s = some r /\ Q r) \/ ∃ s', f rec s = rec s' /\ I s' /\ μ s' < μ s) : ∀ (k : Nat) (s : σ), I s -> μ s < k -> ∃ r, j6 k f s = some r /\ Q r
  | 0, _, _, h => absurd h (Nat.not_lt_zero _)
  | k + 1, s, hs, hk => by
    rcases step s (j6 k f) hs with ⟨r, h1, h2⟩ | ⟨s', h1, h2, h3⟩
    . exact ⟨r, h1, h2⟩
    . obtain ⟨r, h4, h5⟩ := b3t I μ Q step k s' h2 (by omega)
      exact ⟨r, by show f (j6 k f) s = _; rw [h1, h4], h5⟩
theorem b80 {σ ρ : Type} {f : (σ -> Option ρ) -> σ -> Option ρ} (I : σ -> Prop) (μ : σ -> Nat) (Q : ρ -> Prop) {s : σ} (h0 : I s) (hμ : μ s < 2 ^ 70)
    (step : ∀ s rec, I s -> (∃ r, f rec s = some r /\ Q r) \/ ∃ s', f rec s = rec s' /\ I s' /\ μ s' < μ s) : ∃ r, j6 FU f s = some r /\ Q r :=
  b3t I μ Q step FU s h0 (by unfold FU; exact hμ)
theorem b3k {σ ρ : Type} {f : (σ -> Option ρ) -> σ -> Option ρ} (I : σ -> Prop) (μ : σ -> Nat) (Q : Option ρ -> Prop)
    (step : ∀ s rec, I s -> Q (f rec s) \/ ∃ s', f rec s = rec s' /\ I s' /\ μ s' < μ s) : ∀ (k : Nat) (s : σ), I s -> μ s < k -> Q (j6 k f s)
  | 0, _, _, h => absurd h (Nat.not_lt_zero _)
  | k + 1, s, hs, hk => by
    rcases step s (j6 k f) hs with h1 | ⟨s', h1, h2, h3⟩
    . exact h1
    . show Q (f (j6 k f) s)
      rw [h1]
      exact b3k I μ Q step k s' h2 (by omega)
theorem b0t {σ ρ : Type} {f : (σ -> Option ρ) -> σ -> Option ρ} (I : σ -> Prop) (μ : σ -> Nat) (Q : Option ρ -> Prop) {s : σ} (h0 : I s) (hμ : μ s < 2 ^ 70)
    (step : ∀ s rec, I s -> Q (f rec s) \/ ∃ s', f rec s = rec s' /\ I s' /\ μ s' < μ s) : Q (j6 FU f s) :=
  b3k I μ Q step FU s h0 (by unfold FU; exact hμ)
theorem b46 {a b : Int} (h : b ≠ 0) : b31 a b = some (a.tmod b) := by unfold b31; rw [if_neg h]
theorem d3w {a b : Int} (h : b ≠ 0) : c0u a b = some (i64 (a.tdiv b)) := by unfold c0u; rw [if_neg h]
theorem a6p {α : Type} {bytes : Nat} {l x : List α} (h : (l.length + x.length) * bytes <= 140737488355328) : a6y bytes l x = some (l ++ x) := by unfold a6y; rw [if_pos h]
theorem c06 {α : Type} {l : List α} {lo hi : Int} (h0 : 0 <= lo) (h1 : lo <= hi) (h2 : hi <= (l.length : Int)) : a3a l lo hi = some ((l.drop lo.toNat).take (hi.toNat - lo.toNat)) := by
  unfold a3a; rw [if_pos ⟨h0, h1, h2⟩]
theorem b4y {a b : Int} (h : 0 <= a) : a.tmod b = a % b := Int.tmod_eq_emod_of_nonneg h
theorem c1j {a b : Int} (h : 0 <= a) : a.tdiv b = a / b := Int.tdiv_eq_ediv_of_nonneg h
end Go.PL
namespace Go.PL
open Go
theorem a3w {σ ρ S α : Type} {f : (σ -> Option ρ) -> σ -> Option ρ} (l : List α) (e : S -> Int -> σ) (I : S -> Nat -> Prop) (Q : Option ρ -> Prop) (hl : l.length < 2 ^ 62)
    (hstep : ∀ rec s (i : Nat) y, i < l.length -> l[i]? = some y -> I s i -> Q (f rec (e s (i : Int))) \/ ∃ s', f rec (e s (i : Int)) = rec (e s' ((i + 1 : Nat) : Int)) /\ I s' (i + 1))
    (hfin : ∀ rec s, I s l.length -> Q (f rec (e s (l.length : Int)))) (s : S) (h0 : I s 0) : Q (j6 FU f (e s 0)) := by
  have key : ∀ (k : Nat) (s : S) (i : Nat), i <= l.length -> I s i -> l.length - i < k -> Q (j6 k f (e s (i : Int))) := by
    intro k
    induction k with
    | zero => intro s i _ _ h; omega
    | succ k ih =>
      intro s i hi hI hk
      show Q (f (j6 k f) (e s (i : Int)))
      by_cases h : i < l.length
      . rcases hstep (j6 k f) s i l[i] h (List.getElem?_eq_getElem h) hI with h1 | ⟨s', h1, h2⟩
        . exact h1
        . rw [h1]; exact ih s' (i + 1) (by omega) h2 (by omega)
      . have : i = l.length := by omega
        subst this
        exact hfin _ _ hI
  have : (0 : Int) = ((0 : Nat) : Int) := rfl
  rw [this]
  exact key FU s 0 (Nat.zero_le _) h0 (by unfold FU; omega)
theorem a57 {x : Nat} (h : x < 2 ^ 62) : i64 ((x : Int) + 1) = ((x + 1 : Nat) : Int) := by rw [l7 (by omega) (by omega)]; simp
theorem a6q {α : Type} {l : List α} {i : Nat} {y : α} (h : l[i]? = some y) : m7 l (i : Int) = some y := by rw [c2a]; exact h
theorem b02 {α : Type} {l : List α} {i : Nat} {y : α} (h : l[i]? = some y) : l.take (i + 1) = l.take i ++ [y] := by
  have hi : i < l.length := by
    rcases Nat.lt_or_ge i l.length with h1 | h1
    . exact h1
    . rw [List.getElem?_eq_none h1] at h; cases h
  rw [List.take_succ_eq_append_getElem hi]
  rw [List.getElem?_eq_getElem hi] at h
  rw [Option.some.inj h]
theorem d3y {α : Type} (a : List α) (t : α) (h : a.length < 2 ^ 62) : m7 (a ++ [t]) (i64 (((a ++ [t]).length : Int) - 1)) = some t := by
  have : i64 (((a ++ [t]).length : Int) - 1) = ((a.length : Nat) : Int) := by rw [List.length_append]; simp only [List.length_cons, List.length_nil]; rw [l7 (by omega) (by omega)]; omega
  rw [this, c2a]; simp
theorem d1u {α : Type} (a : List α) (t u : α) (h : a.length < 2 ^ 62) : b01 (a ++ [t]) (i64 (((a ++ [t]).length : Int) - 1)) u = a ++ [u] := by
  have : i64 (((a ++ [t]).length : Int) - 1) = ((a.length : Nat) : Int) := by rw [List.length_append]; simp only [List.length_cons, List.length_nil]; rw [l7 (by omega) (by omega)]; omega
  rw [this]; unfold b01; rw [if_pos (Int.natCast_nonneg _)]; simp
theorem ends {α : Type} (l : List α) : l = [] \/ ∃ a t, l = a ++ [t] := by
  rcases List.eq_nil_or_concat l with h | ⟨a, t, h⟩
  . exact .inl h
  . exact .inr ⟨a, t, by simpa using h⟩
theorem b7f {α : Type} {l : List α} {i : Nat} {y : α} (h : l[i]? = some y) : l.drop i = y :: l.drop (i + 1) := by
  have hi : i < l.length := by
    rcases Nat.lt_or_ge i l.length with h1 | h1
    . exact h1
    . rw [List.getElem?_eq_none h1] at h; cases h
  rw [List.getElem?_eq_getElem hi] at h
  rw [List.drop_eq_getElem_cons hi, Option.some.inj h]
theorem c4z {α β : Type} {g : β -> α -> β} {l : List α} {i : Nat} {y : α} {b : β} (h : l[i]? = some y) : (l.take (i + 1)).foldl g b = g ((l.take i).foldl g b) y := by
  rw [b02 h, List.foldl_append]; rfl
end Go.PL
namespace Go.PL
open Go Go.SX
def Tot {α : Type} (o : Option α) (Q : α -> Prop) : Prop := ∃ a, o = some a /\ Q a
section
variable {α β : Type} {o : Option α} {Q R : α -> Prop} {S : β -> Prop} {f : α -> Option β} {a : α}
theorem Tot.some (h : Q a) : Tot (some a) Q := ⟨a, rfl, h⟩
theorem Tot.bind (h : Tot o Q) (hf : ∀ a, Q a -> Tot (f a) S) : Tot (Option.bind o f) S := by
  obtain ⟨a, rfl, hq⟩ := h
  exact hf a hq
theorem Tot.ite {c : Prop} [Decidable c] {x y : Option α} (h1 : c -> Tot x Q) (h2 : ¬ c -> Tot y Q) : Tot (if c then x else y) Q := by
  split
  . exact h1 (by assumption)
  . exact h2 (by assumption)
theorem Tot.mono (h : Tot o Q) (hq : ∀ a, Q a -> R a) : Tot o R := by
  obtain ⟨a, e, h⟩ := h
  exact ⟨a, e, hq a h⟩
theorem Tot.join (h : Tot (f a) S) : Tot (joinC f a) S := h
end
theorem Tot.loop {σ ρ : Type} {f : (σ -> Option ρ) -> σ -> Option ρ} (I : σ -> Prop) (μ : σ -> Nat) {Q : ρ -> Prop} {s : σ} (h0 : I s) (hμ : μ s < 2 ^ 70) (step : ∀ (r : σ -> Option ρ) (s : σ), I s -> (∀ s', I s' -> μ s' < μ s -> Tot (r s') Q) -> Tot (f r s) Q) : Tot (j6 FU f s) Q := by
  have key : ∀ (k : Nat) (s : σ), I s -> μ s < k -> Tot (j6 k f s) Q := by
    intro k
    induction k with
    | zero => intro s _ h; omega
    | succ k ih =>
      intro s hI hk
      exact step (j6 k f) s hI fun s' h1 h2 => ih s' h1 (by omega)
  exact key FU s h0 (by unfold FU; exact hμ)
theorem a2s {s : ByteArray} {i : Int} (h0 : 0 <= i) (h1 : i < (s.size : Int)) : Tot (a8p s i) fun b => 0 <= b /\ b <= 255 := by
  unfold a8p
  rw [if_pos h0]
  have hlt : i.toNat < s.size := by omega
  rw [getElem?_pos s i.toNat hlt]
  refine ⟨_, rfl, ?_⟩
  have := (s[i.toNat]'hlt).toNat_lt
  exact ⟨Int.natCast_nonneg _, by show (((s[i.toNat]'hlt).toNat : Nat) : Int) <= 255; omega⟩
theorem a1l {s : ByteArray} {a b : Int} (h0 : 0 <= a) (h1 : a <= b) (h2 : b <= (s.size : Int)) : Tot (b48 s a b) fun r => (r.size : Int) = b - a := by
  unfold b48
  rw [if_pos ⟨h0, h1, h2⟩]
  refine ⟨_, rfl, ?_⟩
  show ((s.extract a.toNat b.toNat).size : Int) = b - a
  rw [ByteArray.size_extract]
  omega
theorem c6 {a b : ByteArray} (h : a.size + b.size <= 9223372036854775807) : Tot (a1u a b) fun r => r.size = a.size + b.size := by
  unfold a1u
  rw [if_pos h]
  exact ⟨_, rfl, ByteArray.size_append⟩
theorem o3 {α : Type} {l : List α} {i : Int} (h0 : 0 <= i) (h1 : i < (l.length : Int)) : Tot (m7 l i) fun x => x ∈ l := by
  unfold m7
  rw [if_pos h0]
  have hlt : i.toNat < l.length := by omega
  rw [List.getElem?_eq_getElem hlt]
  exact ⟨_, rfl, List.getElem_mem hlt⟩
theorem a3h {α : Type} {k : Nat} {l x : List α} (h : (l.length + x.length) * k <= 140737488355328) : Tot (a6y k l x) fun r => r = l ++ x := ⟨_, a6p h, rfl⟩
theorem a3m {a b : Int} (h0 : 0 <= a) (hb : 0 < b) : Tot (b31 a b) fun r => r = a % b /\ 0 <= r /\ r < b /\ r <= a := by
  rw [b46 (by omega), b4y h0]
  have h1 := Int.emod_nonneg a (show b ≠ 0 by omega)
  have h2 := Int.emod_lt_of_pos a hb
  have h3 : a % b <= a := by
    have := Int.emod_add_mul_ediv a b
    have h5 : 0 <= b * (a / b) := Int.mul_nonneg (by omega) (Int.ediv_nonneg h0 (by omega))
    omega
  exact ⟨_, rfl, rfl, h1, h2, h3⟩
theorem a6a {a b : Int} (h0 : 0 <= a) (h1 : a <= 9223372036854775807) (hb : 0 < b) : Tot (c0u a b) fun r => r = a / b /\ 0 <= r /\ r <= a := by
  rw [d3w (by omega), c1j h0]
  have g1 := Int.ediv_nonneg h0 (show 0 <= b by omega)
  have g2 : a / b <= a := Int.ediv_le_self b h0
  rw [l7 (by omega) (by omega)]
  exact ⟨_, rfl, rfl, g1, g2⟩
theorem a4x {x : Int} (h0 : 0 <= x) (h1 : x <= 4611686018427387904) : i64 (x + 1) = x + 1 := l7 (by omega) (by omega)
theorem r8 {a n : Int} (hn : 0 < n) (h1 : n <= 9223372036854775807) : Tot (b7 a n) fun r => 0 <= r /\ r < n := by
  unfold b7
  rw [b46 (by omega), Option.bind_some]
  have h2 := Int.tmod_lt_of_pos a hn
  have h3 : -n < a.tmod n := Int.lt_tmod_of_pos a hn
  refine Tot.ite (fun h => ?_) fun h => ?_
  . simp at h
    rw [l7 (by omega) (by omega)]
    exact Tot.some (by omega)
  . simp at h
    exact Tot.some (by omega)
theorem n8 (l : List Int) (i : Int) (hl : l.length <= 9223372036854775807) : Tot (c3 l i) fun _ => True := by
  unfold c3
  refine Tot.ite (fun h => Tot.some trivial) fun h => ?_
  have hp : 0 < l.length := by
    rcases Nat.eq_zero_or_pos l.length with h0 | h0
    . rw [h0] at h; exact absurd rfl h
    . exact h0
  refine Tot.bind (r8 (by omega) (by omega)) fun v hv => ?_
  exact Tot.bind (o3 (by omega) (by omega)) fun x _ => Tot.some trivial
theorem a2q {n : Int} (h0 : 0 <= n) (h1 : n <= 9999999) : Tot (d4 n) fun r => 1 <= r.size /\ r.size <= 8 := by
  unfold d4
  have hs : a18.size = 10 := by decide
  refine Tot.loop (I := fun v : Int × ByteArray => 0 <= v.1 /\ ((v.1 <= 9 /\ v.2.size <= 6) \/ (v.1 <= 99 /\ v.2.size <= 5) \/ (v.1 <= 999 /\ v.2.size <= 4) \/ (v.1 <= 9999 /\ v.2.size <= 3) \/ (v.1 <= 99999 /\ v.2.size <= 2) \/ (v.1 <= 999999 /\ v.2.size <= 1) \/ (v.1 <= 9999999 /\ v.2.size <= 0))) (μ := fun v => v.1.toNat) (s := (n, a1t)) ⟨h0, .inr (.inr (.inr (.inr (.inr (.inr ⟨h1, (by decide : a1t.size <= 0)⟩)))))⟩ (by show n.toNat < _; omega) ?_
  intro r v hI ih
  obtain ⟨g1, g2⟩ := hI
  unfold a5g
  refine Tot.ite (fun h => ?_) fun h => ?_
  . simp at h
    refine Tot.bind (a3m g1 (by omega)) fun a ha => ?_
    refine Tot.bind (a3m g1 (by omega)) fun b hb => ?_
    have hab : a = b := by omega
    subst hab
    rw [a4x (by omega) (by omega)]
    refine Tot.bind (a1l (by omega) (by omega) (by rw [hs]; omega)) fun c hc => ?_
    refine Tot.bind (c6 (by omega)) fun d hd => ?_
    refine Tot.bind (a6a g1 (by omega) (by omega)) fun e he => ?_
    refine ih (e, d) ⟨he.2.1, ?_⟩ (by show e.toNat < v.1.toNat; omega)
    show (e <= 9 /\ d.size <= 6) \/ (e <= 99 /\ d.size <= 5) \/ (e <= 999 /\ d.size <= 4) \/ (e <= 9999 /\ d.size <= 3) \/ (e <= 99999 /\ d.size <= 2) \/ (e <= 999999 /\ d.size <= 1) \/ (e <= 9999999 /\ d.size <= 0)
    omega
  . simp at h
    rw [a4x (by omega) (by omega)]
    refine Tot.bind (a1l (by omega) (by omega) (by rw [hs]; omega)) fun c hc => ?_
    exact Tot.bind (c6 (by omega)) fun d hd => Tot.some (by omega)
theorem c1m {n : Int} (h0 : 0 <= n) (h1 : n <= 999999) : Tot (j8 n) fun r => r.size <= 25 := by
  unfold j8
  have hs : b4p.size = 1 := by decide
  refine Tot.bind (a6a h0 (by omega) (by omega)) fun a ha => ?_
  refine Tot.bind (a2q (by omega) (by omega)) fun b hb => ?_
  refine Tot.bind (c6 (by omega)) fun c hc => ?_
  refine Tot.bind (a6a h0 (by omega) (by omega)) fun d hd => ?_
  refine Tot.bind (a3m (by omega) (by omega)) fun e he => ?_
  refine Tot.bind (a2q (by omega) (by omega)) fun g hg => ?_
  refine Tot.bind (c6 (by omega)) fun i hi => ?_
  refine Tot.bind (a3m h0 (by omega)) fun j hj => ?_
  refine Tot.bind (a2q (by omega) (by omega)) fun k hk => ?_
  exact Tot.bind (c6 (by omega)) fun l hl => Tot.some (by omega)
theorem a96 {x : Int} (h0 : 0 <= x) (h1 : x <= 9999999) : Tot (d4 (i64 x)) fun r => 1 <= r.size /\ r.size <= 8 := by
  rw [l7 (by omega) (by omega)]; exact a2q h0 h1
theorem a8r {x : Int} (h0 : 0 <= x) (h1 : x <= 999999) : Tot (j8 (i64 x)) fun r => r.size <= 25 := by
  rw [l7 (by omega) (by omega)]; exact c1m h0 h1
end Go.PL
namespace Go.PL
open Go Go.SX
def d9q (b : Int) : Bool := decide (b >= 97) && decide (b <= 122)
def d9n (b : Int) : Bool := decide (b >= 48) && decide (b <= 57)
theorem b4q (b : Int) : a00 b = some (d9q b) := by
  unfold a00 d9q
  rw [a07, Option.bind_some]
theorem b3f (b : Int) : s8 b = some (d9n b) := by
  unfold s8 d9n
  rw [a07, Option.bind_some]
theorem d1t {s : ByteArray} (hs : s.size <= 8000) {a : Int} (h0 : 0 <= a) (h1 : a <= (s.size : Int)) : Tot (a3k s a) fun r => a <= r /\ r <= (s.size : Int) := by
  unfold a3k
  refine Tot.loop (I := fun v : Int × Bool => a <= v.1 /\ v.1 <= (s.size : Int)) (μ := fun v => ((s.size : Int) - v.1).toNat) ⟨Int.le_refl _, h1⟩ (by show ((s.size : Int) - a).toNat < _; omega) ?_
  intro r v hI ih
  obtain ⟨g1, g2⟩ := hI
  have nxt : v.1 < (s.size : Int) -> ∀ b : Bool, Tot (r (i64 (v.1 + 1), b)) fun r => a <= r /\ r <= (s.size : Int) := fun h b => by
    rw [a4x (by omega) (by omega)]
    exact ih (v.1 + 1, b) ⟨by show a <= v.1 + 1; omega, by show v.1 + 1 <= _; omega⟩ (by show ((s.size : Int) - (v.1 + 1)).toNat < ((s.size : Int) - v.1).toNat; omega)
  unfold a6c
  refine Tot.ite (fun h => ?_) fun h => Tot.some ⟨g1, g2⟩
  simp at h
  refine Tot.bind (a2s (by omega) h) fun b hb => ?_
  refine Tot.ite (fun _ => nxt h _) fun _ => Tot.ite (fun _ => nxt h _) fun _ => ?_
  simp only [a07, Option.bind_some]
  exact Tot.ite (fun _ => Tot.some ⟨g1, g2⟩) fun _ => nxt h _
theorem c7g {s : ByteArray} (hs : s.size <= 8000) {a : Int} (h0 : 0 <= a) (h1 : a < (s.size : Int)) {c : Int} (hc : a8p s a = some c) (hld : (d9q c || d9n c) = true) (dot : Bool) : Tot (a2d s a dot) fun r => 1 <= r /\ a + r <= (s.size : Int) := by
  unfold a2d
  refine Tot.loop (I := fun v : Int => 0 <= v /\ a + v <= (s.size : Int)) (μ := fun v => ((s.size : Int) - a - v).toNat) ⟨Int.le_refl _, by omega⟩ (by omega) ?_
  intro r v hI ih
  obtain ⟨g1, g2⟩ := hI
  unfold a7a
  have e0 : i64 (a + v) = a + v := l7 (by omega) (by omega)
  rw [e0]
  have hgo : a + v < (s.size : Int) -> Tot (r (i64 (v + 1))) fun r => 1 <= r /\ a + r <= (s.size : Int) := fun h => by
    rw [a4x (by omega) (by omega)]
    exact ih (v + 1) ⟨by omega, by omega⟩ (by omega)
  by_cases hlt : a + v < (s.size : Int)
  . obtain ⟨b, hb, _⟩ := a2s (s := s) (i := a + v) (by omega) hlt
    rw [if_pos (by simpa using hlt)]
    simp only [hb, Option.bind_some, b4q, b3f, a1j, a07]
    refine Tot.ite (fun _ => hgo hlt) fun hn => Tot.some ⟨?_, by omega⟩
    by_cases hv : v = 0
    . subst hv
      rw [Int.add_zero, hc] at hb
      cases hb
      exfalso
      apply hn
      simp only [Bool.or_eq_true] at hld ⊢
      rcases hld with hld | hld <;> simp [hld]
    . omega
  . rw [if_neg (by simpa using hlt), Option.bind_some, if_neg (by simp)]
    refine Tot.some ⟨?_, by omega⟩
    by_cases hv : v = 0
    . omega
    . omega
theorem b8w {s : ByteArray} (hs : s.size <= 8000) : Tot (a1i s) fun r => r.2.2.2 = true -> r.1.size <= 9 /\ r.2.1.size <= 4 := by
  have fin : ∀ q : Int × ByteArray × ByteArray, q.2.1.size <= 8000 -> q.2.2.size <= 4 -> Tot (a1e q) fun r => r.2.2.2 = true -> r.1.size <= 9 /\ r.2.1.size <= 4 := by
    intro q hq1 hq2
    unfold a1e
    have e1 : i64 ((q.2.1.size : Int) + (q.2.2.size : Int)) = (q.2.1.size : Int) + (q.2.2.size : Int) := l7 (by omega) (by omega)
    refine Tot.loop (I := fun v : Int => 0 <= v) (μ := fun v => ((q.2.1.size : Int) + (q.2.2.size : Int) - v).toNat) (Int.le_refl _) (by omega) ?_
    intro r v g1 ih
    unfold a62
    rw [e1]
    refine Tot.ite (fun h => ?_) fun h => ?_
    . simp at h
      refine Tot.bind (c6 (by omega)) fun c hc => ?_
      refine Tot.bind (a2s g1 (by omega)) fun b _ => ?_
      rw [b3f, Option.bind_some]
      refine Tot.ite (fun _ => Tot.some fun h => by cases h) fun _ => ?_
      rw [a4x (by omega) (by omega)]
      exact ih (v + 1) (by omega) (by omega)
    . simp only [a1j, Option.bind_some]
      by_cases hz : (q.2.1.size : Int) < 1
      . refine Tot.bind (Q := fun b => b = true) (Tot.ite (fun _ => Tot.some rfl) fun hn => absurd (by simpa using Or.inl hz) hn) fun b hb => ?_
        rw [if_pos hb]
        exact Tot.some fun h => by cases h
      . by_cases hg : (q.2.1.size : Int) > 9
        . refine Tot.bind (Q := fun b => b = true) (Tot.ite (fun _ => Tot.some rfl) fun hn => absurd (by simpa using Or.inr hg) hn) fun b hb => ?_
          rw [if_pos hb]
          exact Tot.some fun h => by cases h
        . refine Tot.bind (Q := fun b => True) (Tot.ite (fun _ => Tot.some trivial) fun hn => ?_) fun b _ => ?_
          . refine Tot.bind (Q := fun _ => True) (Tot.ite (fun _ => Tot.bind (a2s (by omega) (by omega)) fun _ _ => Tot.some trivial) fun _ => Tot.some trivial) fun _ _ => Tot.some trivial
          . exact Tot.ite (fun _ => Tot.some fun h => by cases h) fun _ => Tot.some fun _ => ⟨by show q.2.1.size <= 9; omega, hq2⟩
  have j1 : ∀ q : ByteArray × Int, q.1.size <= 8000 -> Tot (a0b q) fun r => r.2.2.2 = true -> r.1.size <= 9 /\ r.2.1.size <= 4 := by
    intro q hq
    unfold a0b
    have e1 : i64 ((q.1.size : Int) - 1) = (q.1.size : Int) - 1 := l7 (by omega) (by omega)
    rw [e1]
    refine Tot.loop (I := fun v : Int × Int => -1 <= v.2 /\ v.2 < (q.1.size : Int) /\ 0 <= v.1 /\ v.1 <= (q.1.size : Int)) (μ := fun v => (v.2 + 1).toNat) (s := ((q.1.size : Int), (q.1.size : Int) - 1)) ⟨by show (-1 : Int) <= (q.1.size : Int) - 1; omega, by show (q.1.size : Int) - 1 < _; omega, by show (0 : Int) <= (q.1.size : Int); omega, Int.le_refl _⟩ (by show ((q.1.size : Int) - 1 + 1).toNat < _; omega) ?_
    intro r v hI ih
    obtain ⟨g1, g2, g3, g4⟩ := hI
    unfold a61
    refine Tot.ite (fun h => ?_) fun h => ?_
    . simp at h
      have e2 : i64 (v.2 - 1) = v.2 - 1 := l7 (by omega) (by omega)
      rw [e2]
      refine Tot.bind (a2s h g2) fun b _ => Tot.ite (fun _ => ?_) fun _ => ?_
      . exact ih (v.2, v.2 - 1) ⟨by show -1 <= v.2 - 1; omega, by show v.2 - 1 < _; omega, h, by show v.2 <= _; omega⟩ (by show (v.2 - 1 + 1).toNat < (v.2 + 1).toNat; omega)
      . exact ih (v.1, v.2 - 1) ⟨by show -1 <= v.2 - 1; omega, by show v.2 - 1 < _; omega, g3, g4⟩ (by show (v.2 - 1 + 1).toNat < (v.2 + 1).toNat; omega)
    . refine Tot.bind (a1l (by omega) g3 g4) fun a ha => Tot.ite (fun h2 => ?_) fun h2 => fin _ (by show a.size <= _; omega) (by show a1t.size <= 4; decide)
      simp at h2
      rw [a4x (by omega) (by omega)]
      refine Tot.bind (a1l (by omega) (by omega) (by omega)) fun b hb => ?_
      simp only [a1j, Option.bind_some]
      refine Tot.ite (fun _ => Tot.some fun h => by cases h) fun h3 => fin _ (by show a.size <= _; omega) ?_
      simp at h3
      show b.size <= 4
      omega
  unfold a1i
  have last : ∀ c : Int, 0 < (s.size : Int) -> Tot (a8p s (i64 ((s.size : Int) - 1))) fun b => 0 <= b /\ b <= 255 := fun c h => by
    rw [l7 (by omega) (by omega)]
    exact a2s (by omega) (by omega)
  have cut : 0 < (s.size : Int) -> Tot (b48 s 0 (i64 ((s.size : Int) - 1))) fun r => (r.size : Int) = (s.size : Int) - 1 - 0 := fun h => by
    rw [l7 (by omega) (by omega)]
    exact a1l (by omega) (by omega) (by omega)
  refine Tot.bind (Q := fun b => b = true -> 0 < (s.size : Int)) (Tot.ite (fun h => ?_) fun _ => Tot.some fun h => by cases h) fun b hb => ?_
  . simp at h
    exact Tot.bind (last 0 (by omega)) fun _ _ => Tot.some fun _ => by omega
  refine Tot.ite (fun h => ?_) fun _ => ?_
  . exact Tot.bind (cut (hb h)) fun c hc => j1 _ (by show c.size <= 8000; omega)
  refine Tot.bind (Q := fun b => b = true -> 0 < (s.size : Int)) (Tot.ite (fun h => ?_) fun _ => Tot.some fun h => by cases h) fun b hb => ?_
  . simp at h
    exact Tot.bind (last 0 (by omega)) fun _ _ => Tot.some fun _ => by omega
  refine Tot.ite (fun h => ?_) fun _ => j1 _ hs
  exact Tot.bind (cut (hb h)) fun c hc => j1 _ (by show c.size <= 8000; omega)
end Go.PL
namespace Go.PL
open Go Go.SX
theorem b26 {s : ByteArray} (hs : s.size <= 8000) : Tot (a0f s) fun r => True := by
  unfold a0f
  refine Tot.loop (I := fun v : Int × Int => 0 <= v.2) (μ := fun v => ((s.size : Int) - v.2).toNat) (Int.le_refl _) (by show ((s.size : Int) - 0).toNat < _; omega) ?_
  intro r v g1 ih
  unfold a5y
  refine Tot.ite (fun h => ?_) fun _ => Tot.some trivial
  simp at h
  obtain ⟨b, hb, _⟩ := a2s (s := s) g1 h
  simp only [hb, Option.bind_some, a1j]
  refine Tot.ite (fun _ => Tot.some trivial) fun _ => ?_
  rw [a4x (by omega) (by omega)]
  exact ih (_, v.2 + 1) (by show 0 <= v.2 + 1; omega) (by show ((s.size : Int) - (v.2 + 1)).toNat < ((s.size : Int) - v.2).toNat; omega)
theorem c81 (a : Int) : Tot (a3j a) fun _ => True := by
  unfold a3j
  have h : ∀ k : Int, k ≠ 0 -> Tot (b31 a k) fun _ => True := fun k hk => ⟨_, b46 hk, trivial⟩
  refine Tot.bind (h 4 (by decide)) fun b _ => ?_
  refine Tot.bind (Q := fun _ => True) (Tot.ite (fun _ => ?_) fun _ => Tot.some trivial) fun _ _ => Tot.some trivial
  refine Tot.bind (h 100 (by decide)) fun c _ => ?_
  exact Tot.bind (Q := fun _ => True) (Tot.ite (fun _ => Tot.some trivial) fun _ => Tot.bind (h 400 (by decide)) fun _ _ => Tot.some trivial) fun _ _ => Tot.some trivial
theorem b3w (a b : Int) : Tot (a0z a b) fun r => True := by
  unfold a0z
  refine Tot.ite (fun _ => Tot.bind (c81 a) fun _ _ => Tot.ite (fun _ => Tot.some trivial) fun _ => Tot.some trivial) fun _ => ?_
  repeat' first
    | exact Tot.some trivial
    | (refine Tot.ite (fun _ => ?_) fun _ => ?_)
theorem c4g (a : Int) (h0 : a <= 100000) : Tot (a2m a) fun r => True := by
  unfold a2m
  refine Tot.loop (I := fun v : Int × Int => 0 <= v.2) (μ := fun v => (a - v.2).toNat) (Int.le_refl _) (by show (a - 0).toNat < _; omega) ?_
  intro r v g1 ih
  unfold a5w
  refine Tot.ite (fun h => ?_) fun _ => Tot.some trivial
  simp at h
  refine Tot.bind (a6a g1 (by omega) (by omega)) fun _ _ => Tot.bind (a3m g1 (by omega)) fun _ _ => Tot.bind (b3w _ _) fun _ _ => ?_
  rw [a4x (by omega) (by omega)]
  exact ih (_, v.2 + 1) (by show 0 <= v.2 + 1; omega) (by show (a - (v.2 + 1)).toNat < (a - v.2).toNat; omega)
theorem d23 (a b c : Int) : Tot (a4f a b c) fun _ => True := by
  unfold a4f
  simp only [a1j, Option.bind_some]
  obtain ⟨l, hl, _⟩ := b3w a b
  simp only [hl, Option.bind_some, a1j]
  refine Tot.ite (fun _ => Tot.some trivial) fun h => ?_
  simp at h
  have e1 : i64 ((i64 ((i64 ((i64 (a - 1900)) * 12)) + b)) - 1) = (a - 1900) * 12 + b - 1 := by
    rw [l7 (n := a - 1900) (by omega) (by omega), l7 (n := (a - 1900) * 12) (by omega) (by omega), l7 (n := (a - 1900) * 12 + b) (by omega) (by omega), l7 (by omega) (by omega)]
  rw [e1]
  exact Tot.bind (c4g _ (by omega)) fun _ _ => Tot.some trivial
theorem b18 {s : ByteArray} (hs : s.size <= 8000) : Tot (a0a s) fun _ => True := by
  unfold a0a
  by_cases h10 : s.size = 10
  . obtain ⟨b, hb, _⟩ := a2s (s := s) (i := 4) (by omega) (by omega)
    obtain ⟨c, hc, _⟩ := a2s (s := s) (i := 7) (by omega) (by omega)
    simp only [hb, hc, Option.bind_some, a1j]
    refine Tot.ite (fun _ => Tot.some trivial) fun _ => ?_
    refine Tot.bind (a1l (s := s) (a := 0) (b := 4) (by omega) (by omega) (by omega)) fun d hd => Tot.bind (b26 (by omega)) fun e _ => ?_
    refine Tot.bind (a1l (s := s) (a := 5) (b := 7) (by omega) (by omega) (by omega)) fun f hf => Tot.bind (b26 (by omega)) fun g _ => ?_
    refine Tot.bind (a1l (s := s) (a := 8) (b := s.size) (by omega) (by omega) (by omega)) fun h hh => Tot.bind (b26 (by omega)) fun i _ => ?_
    refine Tot.ite (fun _ => Tot.some trivial) fun _ => ?_
    exact Tot.bind (d23 _ _ _) fun _ _ => Tot.some trivial
  . have h1 : (((s.size : Int) != 10) = true) := by simp; omega
    rw [if_pos h1, Option.bind_some, if_pos rfl, Option.bind_some, if_pos rfl]
    exact Tot.some trivial
theorem d0y {s : ByteArray} (hs : s.size <= 8000) {a : Int} (h0 : 0 <= a) (h1 : a < (s.size : Int)) : Tot (a3l s a) fun r => 0 <= r /\ a + r <= (s.size : Int) := by
  have j : Tot (a1o (s, a)) fun r => 0 <= r /\ a + r <= (s.size : Int) := by
    unfold a1o
    refine Tot.bind (a2s h0 h1) fun b _ => ?_
    repeat' first
      | (refine Tot.ite (fun _ => ?_) fun _ => ?_)
      | exact Tot.some ⟨by omega, by omega⟩
  unfold a3l
  have e1 : i64 (a + 1) = a + 1 := l7 (by omega) (by omega)
  have e2 : i64 (a + 2) = a + 2 := l7 (by omega) (by omega)
  rw [e1, e2]
  refine Tot.ite (fun h => ?_) fun _ => j
  simp at h
  refine Tot.bind (a1l h0 (by omega) (by omega)) fun c _ => ?_
  simp only [a1j, Option.bind_some]
  exact Tot.ite (fun _ => Tot.some ⟨by omega, by omega⟩) fun _ => j
def TG (t : Token) : Prop := 1 <= t.Text.size /\ t.Text.size <= 8000
theorem d0l {s : ByteArray} (hs : s.size <= 8000) {a : Int} (h0 : 0 <= a) (h1 : a <= (s.size : Int)) : Tot (a3g s a) fun r => (r.2.2 != 0) = true \/ (r.1.Kind == 0) = true \/ (TG r.1 /\ a < r.2.1 /\ r.2.1 <= (s.size : Int)) := by
  have j : ∀ (p : Int) (t : Token) (k n : Int) (ok : Bool), a <= p -> (ok = true -> 1 <= n /\ p + n <= (s.size : Int)) -> Tot (o9 (s, p, t, k, n, ok)) fun r => (r.2.2 != 0) = true \/ (r.1.Kind == 0) = true \/ (TG r.1 /\ a < r.2.1 /\ r.2.1 <= (s.size : Int)) := by
    intro p t k n ok hp hn
    unfold o9
    refine Tot.ite (fun h => Tot.some (.inl rfl)) fun h => ?_
    simp at h
    obtain ⟨g1, g2⟩ := hn h
    have e1 : i64 (p + n) = p + n := l7 (by omega) (by omega)
    simp only [e1]
    refine Tot.bind (a1l (by omega) (by omega) (by omega)) fun c hc => Tot.some (.inr (.inr ⟨⟨?_, ?_⟩, ?_, ?_⟩))
    . show 1 <= c.size; omega
    . show c.size <= 8000; omega
    . show a < p + n; omega
    . show p + n <= _; omega
  unfold a3g
  have hc : (decide (a < 0) || decide (a > (s.size : Int))) = false := by simp; omega
  rw [a1j, Option.bind_some, hc, if_neg (by simp)]
  refine Tot.bind (d1t hs h0 h1) fun p hp => ?_
  refine Tot.ite (fun _ => Tot.some (.inr (.inl rfl))) fun hne => ?_
  have hlt : p < (s.size : Int) := by
    have : p ≠ (s.size : Int) := by simpa using hne
    omega
  obtain ⟨b, hb, _⟩ := a2s (s := s) (i := p) (by omega) hlt
  simp only [hb, Option.bind_some, b4q, b3f]
  refine Tot.ite (fun hl => ?_) fun hl => Tot.ite (fun hd => ?_) fun hd => Tot.ite (fun h => ?_) fun h => ?_
  . refine Tot.bind (c7g hs (by omega) hlt hb (by rw [hl]; rfl) false) fun n hn => ?_
    exact Tot.join (j _ _ _ _ _ hp.1 fun _ => hn)
  . refine Tot.bind (c7g hs (by omega) hlt hb (by rw [hd]; simp) true) fun n hn => ?_
    have e1 : i64 (p + n) = p + n := l7 (by omega) (by omega)
    rw [e1]
    refine Tot.bind (a1l (by omega) (by omega) (by omega)) fun c hc => ?_
    refine Tot.bind (b8w (by omega)) fun q _ => ?_
    exact Tot.join (j _ _ _ _ _ hp.1 fun _ => hn)
  . have e0 : i64 ((s.size : Int) - p) = (s.size : Int) - p := l7 (by omega) (by omega)
    rw [e0]
    refine Tot.ite (fun h => ?_) fun h => ?_
    . simp at h
      have e1 : i64 (p + 1) = p + 1 := l7 (by omega) (by omega)
      have e2 : i64 (p + 11) = p + 11 := l7 (by omega) (by omega)
      rw [e1, e2]
      refine Tot.bind (a1l (by omega) (by omega) (by omega)) fun c hc => Tot.bind (b18 (by omega)) fun d _ => ?_
      exact Tot.join (j _ _ _ _ _ hp.1 fun _ => ⟨by omega, by omega⟩)
    . exact Tot.join (j _ _ _ _ _ hp.1 fun hh => by simp at hh; omega)
  . refine Tot.bind (d0y hs (by omega) hlt) fun n hn => ?_
    exact Tot.join (j _ _ _ _ _ hp.1 fun hh => by simp at hh; omega)
theorem d5q (s : ByteArray) : Tot (a4l s) fun r => (∀ t ∈ r.1, TG t) /\ r.1.length <= 8000 /\ ((r.2.2 != 0) = true \/ s.size <= 8000) := by
  unfold a4l
  refine Tot.ite (fun _ => Tot.some ⟨(fun t ht => by cases ht), by simp, .inl rfl⟩) fun h => ?_
  have hs : s.size <= 8000 := by simp at h; omega
  refine Tot.loop (I := fun v : List Token × Int => 0 <= v.2 /\ v.2 <= (s.size : Int) /\ (v.1.length : Int) <= v.2 /\ ∀ t ∈ v.1, TG t) (μ := fun v => ((s.size : Int) - v.2).toNat) (s := ([], 0)) ⟨Int.le_refl _, by show (0 : Int) <= (s.size : Int); omega, by simp, fun t ht => by cases ht⟩ (by show ((s.size : Int) - 0).toNat < _; omega) ?_
  intro r v hI ih
  obtain ⟨g1, g2, g3, g4⟩ := hI
  unfold a6v
  refine Tot.bind (d0l hs g1 g2) fun q hq => ?_
  refine Tot.ite (fun h => Tot.some ⟨(fun t ht => by cases ht), by simp, .inl h⟩) fun hn => Tot.ite (fun h => Tot.some ⟨g4, by show v.1.length <= 8000; omega, .inr hs⟩) fun hk => ?_
  rcases hq with hq | hq | ⟨q1, q2, q3⟩
  . exact absurd hq hn
  . exact absurd hq hk
  . refine Tot.bind (a3h (by simp; omega)) fun l hl => ?_
    subst hl
    refine ih (v.1 ++ [q.1], q.2.1) ⟨by show 0 <= q.2.1; omega, q3, by simp; omega, fun t ht => ?_⟩ (by show ((s.size : Int) - q.2.1).toNat < ((s.size : Int) - v.2).toNat; omega)
    rcases List.mem_append.1 ht with ht | ht
    . exact g4 t ht
    . rw [List.mem_singleton] at ht; rw [ht]; exact q1
end Go.PL
namespace Go.PL
open Go Go.SX
def RI (r : pensionref5_reader) : Prop := 0 <= r.at_ /\ r.at_ <= (r.l.length : Int) /\ r.l.length <= 8000 /\ ∀ t ∈ r.l, TG t
def RS (r q : pensionref5_reader) : Prop := q.l = r.l /\ r.at_ <= q.at_ /\ q.at_ <= (r.l.length : Int) /\ (r.bad = true -> q.bad = true)
theorem RS.ri {r q : pensionref5_reader} (h : RI r) (hs : RS r q) : RI q := by
  obtain ⟨h1, h2, h3, h4⟩ := h
  obtain ⟨e, g1, g2, _⟩ := hs
  exact ⟨by omega, by rw [e]; exact g2, by rw [e]; exact h3, by rw [e]; exact h4⟩
theorem RS.refl {r : pensionref5_reader} (h : RI r) : RS r r := ⟨rfl, Int.le_refl _, h.2.1, id⟩
theorem RS.trans {r q s : pensionref5_reader} (h : RS r q) (g : RS q s) : RS r s := by
  obtain ⟨e, g1, g2, g3⟩ := h
  obtain ⟨e', g1', g2', g3'⟩ := g
  exact ⟨e'.trans e, by omega, by rw [e] at g2'; exact g2', fun h => g3' (g3 h)⟩
theorem RS.bad {r : pensionref5_reader} (h : RI r) : RS r ⟨r.l, r.at_, r.end_, true⟩ := ⟨rfl, Int.le_refl _, h.2.1, fun _ => rfl⟩
theorem RS.next {r : pensionref5_reader} (h : RI r) (hlt : r.at_ < (r.l.length : Int)) : i64 (r.at_ + 1) = r.at_ + 1 /\ RS r ⟨r.l, r.at_ + 1, r.end_, r.bad⟩ := by
  obtain ⟨h1, h2, h3, h4⟩ := h
  exact ⟨a4x h1 (by omega), rfl, by show r.at_ <= r.at_ + 1; omega, by show r.at_ + 1 <= _; omega, id⟩
theorem c9r {r : pensionref5_reader} (h : RI r) (s : ByteArray) : Tot (j4 r s) fun b => b = true -> r.bad = false /\ r.at_ < (r.l.length : Int) := by
  unfold j4
  rw [a07, Option.bind_some]
  refine Tot.bind (Q := fun b => b = true -> r.bad = false /\ r.at_ < (r.l.length : Int)) (Tot.ite (fun hc => ?_) fun _ => Tot.some fun h => by cases h) fun b hb => Tot.some hb
  simp at hc
  exact Tot.bind (o3 h.1 hc.2) fun _ _ => Tot.some fun _ => hc
theorem a9b {r : pensionref5_reader} (h : RI r) (k : Int) : Tot (g0 r k) fun b => b = true -> r.bad = false /\ r.at_ < (r.l.length : Int) := by
  unfold g0
  rw [a07, Option.bind_some]
  refine Tot.bind (Q := fun b => b = true -> r.bad = false /\ r.at_ < (r.l.length : Int)) (Tot.ite (fun hc => ?_) fun _ => Tot.some fun h => by cases h) fun b hb => Tot.some hb
  simp at hc
  exact Tot.bind (o3 h.1 hc.2) fun _ _ => Tot.some fun _ => hc
theorem a2c {r : pensionref5_reader} (h : RI r) (s : ByteArray) : Tot (c5 r s) fun q => RS r q.2 /\ (q.1 = true -> r.at_ < q.2.at_) /\ q.2.bad = r.bad /\ (q.1 = false -> q.2 = r) := by
  unfold c5
  refine Tot.bind (c9r h s) fun b hb => Tot.ite (fun hn => Tot.some ⟨RS.refl h, fun h => (by cases h), rfl, fun _ => rfl⟩) fun hn => ?_
  simp at hn
  obtain ⟨e, hs⟩ := RS.next h (hb hn).2
  rw [e]
  exact Tot.some ⟨hs, fun _ => (by show r.at_ < r.at_ + 1; omega), rfl, fun h => by cases h⟩
theorem s4 {r : pensionref5_reader} (h : RI r) (s : ByteArray) : Tot (b9 r s) fun q => RS r q /\ (r.at_ < q.at_ \/ q.bad = true) := by
  unfold b9
  refine Tot.bind (a2c h s) fun q hq => Tot.ite (fun hn => ?_) fun hn => Tot.some ⟨hq.1, .inl (hq.2.1 (by simpa using hn))⟩
  unfold d6
  rw [Option.bind_some]
  exact Tot.some ⟨hq.1.trans (RS.bad (hq.1.ri h)), .inr rfl⟩
theorem b1r (r : pensionref5_reader) : d6 r = some ⟨r.l, r.at_, r.end_, true⟩ := rfl
theorem c50 {s : ByteArray} (hs : s.size <= 8000) : Tot (a25 s) fun _ => True := by
  unfold a25
  refine Tot.loop (I := fun v : Int => 0 <= v) (μ := fun v => ((s.size : Int) - v).toNat) (Int.le_refl _) (by omega) ?_
  intro r v g1 ih
  unfold a5a
  refine Tot.ite (fun h => ?_) fun _ => ?_
  . simp at h
    obtain ⟨b, hb, _⟩ := a2s (s := s) g1 h
    simp only [hb, Option.bind_some, b4q, b3f, a1j, a07]
    refine Tot.ite (fun _ => Tot.some trivial) fun _ => ?_
    rw [a4x (by omega) (by omega)]
    exact ih (v + 1) (by omega) (by omega)
  . rw [a07, Option.bind_some]
    exact Tot.some trivial
theorem c1x (s : ByteArray) : Tot (a1s s) fun _ => True := by
  unfold a1s
  repeat' first
    | exact Tot.some trivial
    | (refine Tot.ite (fun _ => ?_) fun _ => ?_)
theorem a97 {s : ByteArray} (hs : s.size <= 8000) : Tot (q7 s) fun _ => True := by
  unfold q7
  refine Tot.bind (c50 hs) fun b _ => ?_
  exact Tot.bind (Q := fun _ => True) (Tot.ite (fun _ => Tot.bind (c1x s) fun _ _ => Tot.some trivial) fun _ => Tot.some trivial) fun _ _ => Tot.some trivial
theorem b89 {r : pensionref5_reader} (h : RI r) : Tot (n4 r) fun q => RS r q.2 /\ q.1.size <= 8000 /\ (r.at_ < q.2.at_ \/ q.2.bad = true) := by
  unfold n4
  refine Tot.bind (a9b h 1) fun b hb => ?_
  refine Tot.bind (Q := fun c => c = false -> r.at_ < (r.l.length : Int)) (Tot.ite (fun _ => Tot.some fun h => by cases h) fun hn => ?_) fun c hc => ?_
  . have hlt := (hb (by simpa using hn)).2
    obtain ⟨t, ht, hm⟩ := o3 h.1 hlt
    rw [ht, Option.bind_some]
    exact Tot.bind (a97 (h.2.2.2 t hm).2) fun _ _ => Tot.some fun _ => hlt
  . refine Tot.ite (fun _ => ?_) fun hn => ?_
    . rw [b1r, Option.bind_some]
      exact Tot.some ⟨RS.bad h, (by show a1t.size <= 8000; decide), .inr rfl⟩
    . have hlt := hc (by simpa using hn)
      obtain ⟨e, hs⟩ := RS.next h hlt
      have h1 := h.1
      have h3 := h.2.2.1
      have e2 : i64 (r.at_ + 1 - 1) = r.at_ := by rw [l7 (by omega) (by omega)]; omega
      rw [e, e2]
      obtain ⟨t, ht, hm⟩ := o3 h.1 hlt
      rw [ht, Option.bind_some]
      exact Tot.some ⟨hs, (h.2.2.2 t hm).2, .inl (by show r.at_ < r.at_ + 1; omega)⟩
theorem b3j (a : Int) : ∃ v, a06 a = some v /\ 0 <= v /\ v <= 18446744073709551615 /\ (0 <= a -> a <= 18446744073709551615 -> v = a) := by
  unfold a06
  split
  . rename_i h
    simp at h
    exact ⟨_, rfl, (b0y _).1, (b0y _).2, fun h0 => by omega⟩
  . exact ⟨_, rfl, (b0y _).1, (b0y _).2, fun h0 h1 => c6b h0 h1⟩
theorem c2p {a b : Int} (ha : 0 <= a) (hb : 0 <= b) (h : 0 < a + b) (hma : a <= 18446744073709551615) (hm : b <= 18446744073709551615) : Tot (a2j a b) fun g => 0 < g /\ g <= 18446744073709551615 := by
  unfold a2j
  refine Tot.loop (I := fun v : Int × Int => 0 <= v.1 /\ 0 <= v.2 /\ 0 < v.1 + v.2 /\ v.1 <= 18446744073709551615 /\ v.2 <= 18446744073709551615) (μ := fun v => v.2.toNat) ⟨ha, hb, h, hma, hm⟩ (by show b.toNat < _; omega) ?_
  intro r v hI ih
  obtain ⟨g1, g2, g3, g4, g5⟩ := hI
  unfold a7e
  refine Tot.ite (fun hc => ?_) fun hc => Tot.some ⟨by simp at hc; omega, g4⟩
  have hv : 0 < v.2 := by
    have : v.2 ≠ 0 := by simpa using hc
    omega
  refine Tot.bind (a3m g1 hv) fun c hcc => ih (v.2, c) ⟨g2, hcc.2.1, by show 0 < v.2 + c; omega, g5, by show c <= _; omega⟩ (by show c.toNat < v.2.toNat; omega)
theorem c2v {lo d : Int} (h0 : 0 <= lo) (h1 : lo <= 18446744073709551615) (hd : 0 < d) (hd1 : d <= 18446744073709551615) : Tot (z8 ⟨0, lo⟩ d) fun q => 0 <= q.2 /\ q.2 < d := by
  unfold z8
  dsimp only
  refine Tot.bind (a3m (Int.le_refl 0) hd) fun z hz => ?_
  have hz0 : z = 0 := by omega
  subst hz0
  have hD : Tot (a98 0 lo d) fun q => 0 <= q.2 /\ q.2 < d := by
    unfold a98 b0s b0i
    rw [if_neg (by simp; omega)]
    refine Tot.join ?_
    dsimp only
    rw [if_neg (by simp; omega)]
    refine Tot.join ?_
    dsimp only
    refine Tot.ite (fun _ => ?_) fun hn => absurd rfl hn
    rw [if_neg (by omega), Option.bind_some]
    exact Tot.bind (a3m h0 hd) fun r hr => Tot.some ⟨hr.2.1, hr.2.2.1⟩
  refine Tot.bind hD fun q hq => ?_
  rw [if_neg (by omega), Option.bind_some]
  exact Tot.some hq
theorem b28 (a : Int) {d : Int} (hd : 0 < d) (hd1 : d <= 100000) : Tot (a01 a d) fun _ => True := by
  unfold a01
  rw [if_neg (by simp; omega)]
  obtain ⟨x, hx, x0, x1, _⟩ := b3j a
  obtain ⟨y, hy, y0, y1, y2⟩ := b3j d
  have hyd := y2 (by omega) (by omega)
  subst hyd
  rw [hx, hy, Option.bind_some, Option.bind_some]
  refine Tot.bind (Q := fun _ => True) ?_ fun _ _ => Tot.some trivial
  unfold a3v
  refine Tot.bind (c2v x0 x1 hd (by omega)) fun q hq => ?_
  refine Tot.bind (c2p (a := y) (b := q.2) (by omega) hq.1 (by omega) (by omega) (by omega)) fun g hg => ?_
  refine Tot.bind (c2v x0 x1 hg.1 hg.2) fun w _ => ?_
  rw [if_neg (by omega), Option.bind_some]
  simp only [a1j, Option.bind_some]
  exact Tot.ite (fun _ => Tot.some trivial) fun _ => Tot.ite (fun _ => Tot.some trivial) fun _ => Tot.some trivial
theorem b06 {s : ByteArray} (hs : s.size <= 8000) : Tot (t7 s) fun _ => True := by
  unfold t7
  refine Tot.bind (b8w hs) fun p hp => Tot.ite (fun _ => Tot.some trivial) fun hn => ?_
  obtain ⟨p1, p2⟩ := hp (by simpa using hn)
  have e1 : i64 ((p.1.size : Int) + (p.2.1.size : Int)) = (p.1.size : Int) + (p.2.1.size : Int) := l7 (by omega) (by omega)
  refine Tot.loop (I := fun v : Fraction × Int × Int × Int => 0 <= v.2.2.2 /\ v.2.2.2 <= (p.1.size : Int) + (p.2.1.size : Int) /\ ((v.2.2.2 <= (p.1.size : Int) /\ v.2.2.1 = 1) \/ (v.2.2.2 = (p.1.size : Int) + 1 /\ v.2.2.1 = 10) \/ (v.2.2.2 = (p.1.size : Int) + 2 /\ v.2.2.1 = 100) \/ (v.2.2.2 = (p.1.size : Int) + 3 /\ v.2.2.1 = 1000) \/ (v.2.2.2 = (p.1.size : Int) + 4 /\ v.2.2.1 = 10000)))
    (μ := fun v => ((p.1.size : Int) + (p.2.1.size : Int) - v.2.2.2).toNat) ⟨Int.le_refl _, by show (0 : Int) <= (p.1.size : Int) + (p.2.1.size : Int); omega, .inl ⟨by show (0 : Int) <= (p.1.size : Int); omega, rfl⟩⟩ (by show ((p.1.size : Int) + (p.2.1.size : Int) - 0).toNat < _; omega) ?_
  intro r v hI ih
  obtain ⟨g1, g2, g3⟩ := hI
  unfold a4q
  rw [e1]
  refine Tot.ite (fun h => ?_) fun h => ?_
  . simp at h
    refine Tot.bind (c6 (by omega)) fun c hc => Tot.bind (a2s g1 (by omega)) fun b _ => ?_
    rw [a4x g1 (by omega)]
    refine Tot.ite (fun h2 => ?_) fun h2 => ?_
    . simp at h2
      have e2 : i64 (v.2.2.1 * 10) = v.2.2.1 * 10 := l7 (by omega) (by omega)
      rw [e2]
      exact ih (_, _, v.2.2.1 * 10, v.2.2.2 + 1) ⟨by show 0 <= v.2.2.2 + 1; omega, by show v.2.2.2 + 1 <= _; omega, by
        show (v.2.2.2 + 1 <= (p.1.size : Int) /\ v.2.2.1 * 10 = 1) \/ (v.2.2.2 + 1 = (p.1.size : Int) + 1 /\ v.2.2.1 * 10 = 10) \/ (v.2.2.2 + 1 = (p.1.size : Int) + 2 /\ v.2.2.1 * 10 = 100) \/ (v.2.2.2 + 1 = (p.1.size : Int) + 3 /\ v.2.2.1 * 10 = 1000) \/ (v.2.2.2 + 1 = (p.1.size : Int) + 4 /\ v.2.2.1 * 10 = 10000)
        omega⟩ (by show ((p.1.size : Int) + (p.2.1.size : Int) - (v.2.2.2 + 1)).toNat < ((p.1.size : Int) + (p.2.1.size : Int) - v.2.2.2).toNat; omega)
    . simp at h2
      exact ih (_, _, v.2.2.1, v.2.2.2 + 1) ⟨by show 0 <= v.2.2.2 + 1; omega, by show v.2.2.2 + 1 <= _; omega, by
        show (v.2.2.2 + 1 <= (p.1.size : Int) /\ v.2.2.1 = 1) \/ (v.2.2.2 + 1 = (p.1.size : Int) + 1 /\ v.2.2.1 = 10) \/ (v.2.2.2 + 1 = (p.1.size : Int) + 2 /\ v.2.2.1 = 100) \/ (v.2.2.2 + 1 = (p.1.size : Int) + 3 /\ v.2.2.1 = 1000) \/ (v.2.2.2 + 1 = (p.1.size : Int) + 4 /\ v.2.2.1 = 10000)
        omega⟩ (by show ((p.1.size : Int) + (p.2.1.size : Int) - (v.2.2.2 + 1)).toNat < ((p.1.size : Int) + (p.2.1.size : Int) - v.2.2.2).toNat; omega)
  . exact Tot.bind (b28 _ (by omega) (by omega)) fun _ _ => Tot.some trivial
theorem a8t {r : pensionref5_reader} (h : RI r) (a b : Int) : Tot (i7 r a b) fun q => RS r q.2 /\ (r.at_ < q.2.at_ \/ q.2.bad = true) := by
  unfold i7
  simp only [b1r, Option.bind_some]
  refine Tot.bind (a9b h 2) fun c hc => Tot.ite (fun hp => ?_) fun _ => Tot.some ⟨RS.bad h, .inr rfl⟩
  have hlt := (hc hp).2
  refine Tot.bind (o3 h.1 hlt) fun t ht => Tot.bind (b06 (h.2.2.2 t ht).2) fun d _ => ?_
  simp only [a07, Option.bind_some]
  obtain ⟨e, hs⟩ := RS.next h hlt
  rw [e]
  exact Tot.ite (fun _ => Tot.some ⟨hs, .inl (by show r.at_ < r.at_ + 1; omega)⟩) fun _ => Tot.some ⟨RS.bad h, .inr rfl⟩
theorem c9c {s : ByteArray} (h1 : 1 <= s.size) (h2 : s.size <= 8000) : Tot (a2u s) fun _ => True := by
  unfold a2u
  exact Tot.bind (a1l (by omega) (by omega) (by omega)) fun c hc => Tot.bind (b18 (by omega)) fun _ _ => Tot.some trivial
theorem c3r (s : ByteArray) : Tot (a1z s) fun _ => True := by
  unfold a1z
  repeat' first
    | exact Tot.some trivial
    | (refine Tot.ite (fun _ => ?_) fun _ => ?_)
theorem b5l (s : ByteArray) : Tot (a0l s) fun _ => True := by
  unfold a0l
  repeat' first
    | exact Tot.some trivial
    | (refine Tot.ite (fun _ => ?_) fun _ => ?_)
theorem c2d (s : ByteArray) : Tot (a1v s) fun _ => True := by
  unfold a1v
  repeat' first
    | exact Tot.some trivial
    | (refine Tot.ite (fun _ => ?_) fun _ => ?_)
theorem c3u {r : pensionref5_reader} (h : RI r) {a : Int} (h1 : 1 <= a) (h3 : a <= 3) : Tot (l8 r a) fun q => RS r q.2 /\ (r.at_ < q.2.at_ \/ q.2.bad = true) := by
  unfold l8
  simp only [b1r, Option.bind_some]
  refine Tot.bind (a9b h 1) fun c hc => Tot.ite (fun hp => ?_) fun _ => Tot.some ⟨RS.bad h, .inr rfl⟩
  have hlt := (hc hp).2
  refine Tot.bind (o3 h.1 hlt) fun t ht => Tot.bind (c3r _) fun k _ => Tot.bind (b5l _) fun b _ => Tot.bind (c2d _) fun m _ => ?_
  have e1 : i64 (a - 1) = a - 1 := l7 (by omega) (by omega)
  rw [e1]
  obtain ⟨e, hs⟩ := RS.next h hlt
  rw [e]
  obtain ⟨x, hx, _⟩ := o3 (l := [k, b, m]) (i := a - 1) (by omega) (by simp; omega)
  rw [hx, Option.bind_some, Option.bind_some]
  exact Tot.ite (fun _ => Tot.some ⟨hs, .inl (by show r.at_ < r.at_ + 1; omega)⟩) fun _ => Tot.some ⟨RS.bad h, .inr rfl⟩
end Go.PL
namespace Go.PL
open Go Go.SX
theorem c31 (a : Int) : Tot (a1y a) fun _ => True := by
  unfold a1y
  simp only [a07, Option.bind_some]
  repeat' first
    | exact Tot.some trivial
    | (refine Tot.ite (fun _ => ?_) fun _ => ?_)
theorem c9j (a : Int) : Tot (a2w a) fun _ => True := by
  have j2 : ∀ q : Int × Bool, Tot (a1c q) fun _ => True := by
    intro q
    unfold a1c
    repeat' first
      | exact Tot.some trivial
      | (refine Tot.ite (fun _ => ?_) fun _ => ?_)
  have j1 : ∀ q : Int × Bool, Tot (k9 q) fun _ => True := by
    intro q
    unfold k9
    repeat' first
      | exact Tot.some trivial
      | exact Tot.join (j2 _)
      | (refine Tot.ite (fun _ => ?_) fun _ => ?_)
  unfold a2w
  repeat' first
    | exact Tot.some trivial
    | exact Tot.join (j1 _)
    | (refine Tot.ite (fun _ => ?_) fun _ => ?_)
theorem c4s (a : Int) : Tot (a29 a) fun _ => True := by
  unfold a29
  repeat' first
    | exact Tot.some trivial
    | (refine Tot.ite (fun _ => ?_) fun _ => ?_)
theorem c5k {r : pensionref5_reader} (h : RI r) (k : Int) : Tot (y9 r k) fun o => (o == 0) = true \/ r.at_ < (r.l.length : Int) := by
  unfold y9
  refine Tot.loop (I := fun v : Int => 0 <= v /\ v <= 19) (μ := fun v => (19 - v).toNat) ⟨by omega, by omega⟩ (by decide) ?_
  intro rc v hI ih
  obtain ⟨g1, g2⟩ := hI
  unfold a28
  refine Tot.ite (fun hv => ?_) fun _ => Tot.some (.inl rfl)
  simp at hv
  refine Tot.bind (c9j v) fun l _ => ?_
  refine Tot.bind (Q := fun b => b = true -> r.at_ < (r.l.length : Int)) (Tot.ite (fun _ => ?_) fun _ => Tot.some fun h => by cases h) fun b hb => ?_
  . exact Tot.bind (c4s v) fun s _ => Tot.bind (c9r h s) fun b hb => Tot.some fun hh => (hb hh).2
  refine Tot.ite (fun hp => Tot.some (.inr (hb hp))) fun _ => ?_
  rw [a4x g1 (by omega)]
  exact ih (v + 1) ⟨by omega, by omega⟩ (by omega)
def EB : Nat -> Expr -> Prop
  | 0, _ => False
  | n + 1, e => e.Args.length <= 3 /\ e.Name.size <= 8000 /\ ∀ a ∈ e.Args, EB n a
theorem EB.succ : ∀ {n : Nat} {e : Expr}, EB n e -> EB (n + 1) e
  | 0, _, h => h.elim
  | n + 1, e, h => ⟨h.1, h.2.1, fun a ha => (h.2.2 a ha).succ⟩
theorem EB.mono {n m : Nat} {e : Expr} (h : EB n e) (hm : n <= m) : EB m e := by
  induction hm with
  | refl => exact h
  | step _ ih => exact ih.succ
theorem EB.leaf {n : Nat} {o : Int} {f : Fraction} {d : Int} {s : ByteArray} (hs : s.size <= 8000) : EB (n + 1) ⟨o, f, d, s, []⟩ := ⟨by simp, hs, fun a ha => by cases ha⟩
theorem EB.one {n : Nat} {o : Int} {f : Fraction} {d : Int} {a : Expr} (h : EB n a) : EB (n + 1) ⟨o, f, d, a1t, [a]⟩ := ⟨by simp, (by decide : a1t.size <= 8000), fun x hx => by
  have hx : x ∈ [a] := hx
  rw [List.mem_singleton] at hx; subst hx; exact h⟩
theorem EB.two {n : Nat} {o : Int} {f : Fraction} {d : Int} {a b : Expr} (h : EB n a) (hb : EB n b) : EB (n + 1) ⟨o, f, d, a1t, [a, b]⟩ := ⟨by simp, (by decide : a1t.size <= 8000), fun x hx => by
  have hx : x ∈ [a, b] := hx
  rcases List.mem_cons.1 hx with rfl | hx
  . exact h
  . rw [List.mem_singleton] at hx; subst hx; exact hb⟩
theorem EB.three {n : Nat} {o : Int} {f : Fraction} {d : Int} {a b c : Expr} (h : EB n a) (hb : EB n b) (hc : EB n c) : EB (n + 1) ⟨o, f, d, a1t, [a, b, c]⟩ := ⟨by simp, (by decide : a1t.size <= 8000), fun x hx => by
  have hx : x ∈ [a, b, c] := hx
  rcases List.mem_cons.1 hx with rfl | hx
  . exact h
  . rcases List.mem_cons.1 hx with rfl | hx
    . exact hb
    . rw [List.mem_singleton] at hx; subst hx; exact hc⟩
def EQ (r : pensionref5_reader) (q : Expr × pensionref5_reader) : Prop := RS r q.2 /\ EB ((q.2.at_ - r.at_).toNat + 1) q.1
def left (r : pensionref5_reader) : Nat := ((r.l.length : Int) - r.at_).toNat
theorem a4v {r q : pensionref5_reader} (h : RS r q) : left q <= left r := by
  unfold left; rw [h.1]; have := h.2.1; omega
theorem a93 {r q : pensionref5_reader} (hr : RI r) (h : RS r q) (hlt : r.at_ < q.at_) : left q < left r := by
  have h2 := h.2.2.1
  unfold left; rw [h.1]; omega
structure RB (R : Ring_pensionref5_reader_expr) (n : Nat) : Prop where
  e : ∀ r k, RI r -> 0 <= k -> k <= 7 -> 10 * left r + (9 - k.toNat) < n -> Tot (R.f_pensionref5_reader_expr r k) (EQ r)
  f : ∀ r, RI r -> 10 * left r + 1 < n -> Tot (R.f_pensionref5_reader_factor r) (EQ r)
  c : ∀ r k, RI r -> r.at_ < (r.l.length : Int) -> 10 * left r < n -> Tot (R.f_pensionref5_reader_call r k) (EQ r)
section
variable {R : Ring_pensionref5_reader_expr} {n : Nat}
theorem c5x (hR : RB R n) {r : pensionref5_reader} (hr : RI r) (hlt : r.at_ < (r.l.length : Int)) (k : Int) (hn : 10 * left r < n + 1) : Tot (y8 R r k) (EQ r) := by
  unfold y8
  obtain ⟨e0, hs0⟩ := RS.next hr hlt
  rw [e0]
  have hr0 := hs0.ri hr
  have hl0 : left ⟨r.l, r.at_ + 1, r.end_, r.bad⟩ < left r := a93 hr hs0 (by show r.at_ < r.at_ + 1; omega)
  refine Tot.bind (s4 hr0 _) fun q1 h1 => ?_
  have hs1 := hs0.trans h1.1
  have hl1 := a4v h1.1
  have ha1 : r.at_ + 1 <= q1.at_ := h1.1.2.1
  refine Tot.bind (hR.e q1 0 (hs1.ri hr) (by omega) (by omega) (by omega)) fun x1 g1 => ?_
  have hs2 := hs1.trans g1.1
  have hl2 := a4v g1.1
  have ha2 := g1.1.2.1
  refine Tot.bind (c31 k) fun m _ => Tot.ite (fun _ => ?_) fun _ => ?_
  . refine Tot.bind (s4 (hs2.ri hr) _) fun q2 h2 => ?_
    have hs3 := hs2.trans h2.1
    have hl3 := a4v h2.1
    have ha3 := h2.1.2.1
    have e5 : m7 [x1.1] 0 = some x1.1 := rfl
    rw [e5, Option.bind_some]
    refine Tot.bind (hR.e q2 0 (hs3.ri hr) (by omega) (by omega) (by omega)) fun x2 g2 => ?_
    have hs4 := hs3.trans g2.1
    have ha4 := g2.1.2.1
    refine Tot.bind (s4 (hs4.ri hr) _) fun q3 h3 => ?_
    have hs5 := hs4.trans h3.1
    have ha5 := h3.1.2.1
    exact Tot.some ⟨hs5, (EB.two (g1.2.mono (by omega)) (g2.2.mono (by omega)) : EB ((q3.at_ - r.at_).toNat + 1) _)⟩
  . refine Tot.bind (s4 (hs2.ri hr) _) fun q2 h2 => ?_
    have ha3 := h2.1.2.1
    exact Tot.some ⟨hs2.trans h2.1, (EB.one (g1.2.mono (by omega)) : EB ((q2.at_ - r.at_).toNat + 1) _)⟩
theorem c1l (hR : RB R n) {r : pensionref5_reader} (hr : RI r) (hn : 10 * left r + 1 < n + 1) : Tot (q6 R r) (EQ r) := by
  unfold q6
  refine Tot.bind (a9b hr 2) fun c hc => Tot.ite (fun hp => ?_) fun _ => ?_
  . have hlt := (hc hp).2
    refine Tot.bind (o3 hr.1 hlt) fun t ht => Tot.bind (b06 (hr.2.2.2 t ht).2) fun d _ => ?_
    obtain ⟨e, hs⟩ := RS.next hr hlt
    rw [e]
    exact Tot.some ⟨hs, EB.leaf (by decide)⟩
  refine Tot.bind (a2c hr _) fun t1 h1 => Tot.ite (fun hp => ?_) fun hp => ?_
  . have hl := a93 hr h1.1 (h1.2.1 hp)
    have ha := h1.2.1 hp
    refine Tot.bind (hR.e t1.2 7 (h1.1.ri hr) (by omega) (by omega) (by omega)) fun x g => ?_
    have ha2 := g.1.2.1
    exact Tot.some ⟨h1.1.trans g.1, (EB.one (g.2.mono (by omega)) : EB ((x.2.at_ - r.at_).toNat + 1) _)⟩
  have e1 : t1.2 = r := h1.2.2.2 (by simpa using hp)
  rw [e1]
  refine Tot.bind (a2c hr _) fun t2 h2 => Tot.ite (fun hp => ?_) fun hp => ?_
  . have hl := a93 hr h2.1 (h2.2.1 hp)
    have ha := h2.2.1 hp
    refine Tot.bind (hR.e t2.2 0 (h2.1.ri hr) (by omega) (by omega) (by omega)) fun x g => ?_
    have hs := h2.1.trans g.1
    have ha2 := g.1.2.1
    refine Tot.bind (s4 (hs.ri hr) _) fun q hq => ?_
    have ha3 := hq.1.2.1
    exact Tot.some ⟨hs.trans hq.1, g.2.mono (by show _ <= (q.at_ - r.at_).toNat + 1; omega)⟩
  have e2 : t2.2 = r := h2.2.2.2 (by simpa using hp)
  rw [e2]
  refine Tot.bind (a2c hr _) fun t3 h3 => Tot.ite (fun hp => ?_) fun hp => ?_
  . refine Tot.bind (s4 (h3.1.ri hr) _) fun q1 g1 => ?_
    have hs1 := h3.1.trans g1.1
    refine Tot.bind (a8t (hs1.ri hr) 1 45) fun q2 g2 => ?_
    have hs2 := hs1.trans g2.1
    refine Tot.bind (s4 (hs2.ri hr) _) fun q3 g3 => ?_
    exact Tot.some ⟨hs2.trans g3.1, EB.leaf (by decide)⟩
  have e3 : t3.2 = r := h3.2.2.2 (by simpa using hp)
  rw [e3]
  have cl : ∀ (s : ByteArray) (k : Int) (o : Option (Expr × pensionref5_reader)), Tot o (EQ r) -> Tot (Option.bind (j4 r s) fun b => if b = true then Option.bind (R.f_pensionref5_reader_call r k) fun v => some (v.1, v.2) else o) (EQ r) := by
    intro s k o ho
    refine Tot.bind (c9r hr s) fun b hb => Tot.ite (fun hp => ?_) fun _ => ho
    exact Tot.bind (hR.c r k hr (hb hp).2 (by omega)) fun v hv => Tot.some hv
  refine cl _ _ _ (cl _ _ _ (cl _ _ _ ?_))
  refine Tot.bind (b89 hr) fun q hq => Tot.some ⟨hq.1, EB.leaf hq.2.1⟩
theorem c63 (hR : RB R n) {r : pensionref5_reader} (hr : RI r) {k : Int} (h0 : 0 <= k) (h7 : k <= 7) (hn : 10 * left r + (9 - k.toNat) < n + 1) : Tot (y7 R r k) (EQ r) := by
  unfold y7
  refine Tot.ite (fun _ => Tot.some ⟨RS.refl hr, EB.leaf (by decide)⟩) fun hbad => ?_
  refine Tot.ite (fun hk => ?_) fun hk => ?_
  . simp at hk
    subst hk
    refine Tot.bind (a2c hr _) fun t ht => Tot.ite (fun hp => ?_) fun hp => ?_
    . have e1 : t.2 = r := ht.2.2.2 (by simpa using hp)
      rw [e1]
      exact Tot.bind (hR.e r 1 hr (by omega) (by omega) (by omega)) fun v hv => Tot.some hv
    . have hc := ht.2.1 (by simpa using hp)
      have hl := a93 hr ht.1 hc
      refine Tot.bind (hR.e t.2 0 (ht.1.ri hr) (by omega) (by omega) (by omega)) fun x1 g1 => ?_
      have hs1 := ht.1.trans g1.1
      have hl1 := a4v g1.1
      have ha1 := g1.1.2.1
      refine Tot.bind (s4 (hs1.ri hr) _) fun q1 w1 => ?_
      have hs2 := hs1.trans w1.1
      have hl2 := a4v w1.1
      have ha2 := w1.1.2.1
      refine Tot.bind (hR.e q1 0 (hs2.ri hr) (by omega) (by omega) (by omega)) fun x2 g2 => ?_
      have hs3 := hs2.trans g2.1
      have hl3 := a4v g2.1
      have ha3 := g2.1.2.1
      refine Tot.bind (s4 (hs3.ri hr) _) fun q2 w2 => ?_
      have hs4 := hs3.trans w2.1
      have hl4 := a4v w2.1
      have ha4 := w2.1.2.1
      refine Tot.bind (hR.e q2 0 (hs4.ri hr) (by omega) (by omega) (by omega)) fun x3 g3 => ?_
      have ha5 := g3.1.2.1
      exact Tot.some ⟨hs4.trans g3.1, (EB.three (g1.2.mono (by omega)) (g2.2.mono (by omega)) (g3.2.mono (by omega)) : EB ((x3.2.at_ - r.at_).toNat + 1) _)⟩
  have hk0 : k ≠ 0 := by simpa using hk
  refine Tot.ite (fun hk3 => ?_) fun _ => ?_
  . simp at hk3
    subst hk3
    refine Tot.bind (a2c hr _) fun t ht => Tot.ite (fun hp => ?_) fun hp => ?_
    . have hc := ht.2.1 hp
      have hl := a93 hr ht.1 hc
      refine Tot.bind (hR.e t.2 3 (ht.1.ri hr) (by omega) (by omega) (by omega)) fun x g => ?_
      have ha := g.1.2.1
      exact Tot.some ⟨ht.1.trans g.1, (EB.one (g.2.mono (by omega)) : EB ((x.2.at_ - r.at_).toNat + 1) _)⟩
    . have e1 : t.2 = r := ht.2.2.2 (by simpa using hp)
      rw [e1]
      exact Tot.bind (hR.e r 4 hr (by omega) (by omega) (by omega)) fun v hv => Tot.some hv
  refine Tot.ite (fun hk7 => ?_) fun hk7 => ?_
  . simp at hk7
    subst hk7
    exact Tot.bind (hR.f r hr (by omega)) fun v hv => Tot.some hv
  have hk7 : k ≠ 7 := by simpa using hk7
  have ek : i64 (k + 1) = k + 1 := a4x h0 (by omega)
  rw [ek]
  refine Tot.bind (hR.e r (k + 1) hr (by omega) (by omega) (by omega)) fun x g => ?_
  refine Tot.loop (I := fun v : pensionref5_reader × (List Expr) × Expr × Expr => RS r v.1 /\ EB ((v.1.at_ - r.at_).toNat + 1) v.2.2.2) (μ := fun v => left v.1) (s := (x.2, [], (⟨0, (⟨0, 0⟩ : Fraction), 0, a1t, []⟩ : Expr), x.1)) g (by
    show left x.2 < _
    have := a4v g.1
    have h8 := hr.2.2.1
    have h9 : left r <= 8000 := by unfold left; have := hr.1; omega
    omega) ?_
  intro rc v hI ih
  obtain ⟨g1, g2⟩ := hI
  have hv := g1.ri hr
  have hlv := a4v g1
  unfold a38
  refine Tot.ite (fun _ => ?_) fun _ => Tot.some ⟨g1, g2⟩
  rw [ek]
  refine Tot.bind (c5k hv k) fun o ho => Tot.ite (fun _ => Tot.some ⟨g1, g2⟩) fun hno => ?_
  have hlt : v.1.at_ < (v.1.l.length : Int) := ho.resolve_left hno
  obtain ⟨e, hs⟩ := RS.next hv hlt
  rw [e]
  have hs1 := g1.trans hs
  have hl1 : left ⟨v.1.l, v.1.at_ + 1, v.1.end_, v.1.bad⟩ < left v.1 := a93 hv hs (by show v.1.at_ < v.1.at_ + 1; omega)
  refine Tot.bind (hR.e _ (k + 1) (hs1.ri hr) (by omega) (by omega) (by omega)) fun y gy => ?_
  have hs2 := hs1.trans gy.1
  have ha : v.1.at_ + 1 <= y.2.at_ := gy.1.2.1
  have ha0 := g1.2.1
  have hb := gy.2
  have hb : EB ((y.2.at_ - (v.1.at_ + 1)).toNat + 1) y.1 := hb
  have hE : EB ((y.2.at_ - r.at_).toNat + 1) (⟨o, (⟨0, 0⟩ : Fraction), 0, a1t, [v.2.2.2, y.1]⟩ : Expr) := EB.two (g2.mono (by omega)) (hb.mono (by omega))
  refine Tot.ite (fun _ => Tot.some ⟨hs2, hE⟩) fun _ => ?_
  exact ih _ ⟨hs2, hE⟩ (by
    show left y.2 < left v.1
    have := a4v gy.1
    omega)
end
theorem b0l : ∀ n, RB (c4 n) n
  | 0 => ⟨fun _ _ _ _ _ h => by omega, fun _ _ h => by omega, fun _ _ _ _ h => by omega⟩
  | n + 1 => ⟨fun r k hr h0 h7 hn => c63 (b0l n) hr h0 h7 hn, fun r hr hn => c1l (b0l n) hr hn, fun r k hr hlt hn => c5x (b0l n) hr hlt k hn⟩
theorem b38 {r : pensionref5_reader} (hr : RI r) : Tot (n5 r 0) fun q => RS r q.2 /\ EB 8001 q.1 := by
  have h8 := hr.2.2.1
  have h0 := hr.1
  have h9 : left r <= 8000 := by unfold left; omega
  unfold n5
  refine ((b0l FU).e r 0 hr (by omega) (by omega) (by unfold FU; omega)).mono fun q hq => ⟨hq.1, hq.2.mono ?_⟩
  have := hq.1.2.2.1
  omega
end Go.PL
namespace Go.PL
open Go Go.SX
def LG (k : Int) (c : List Credit) (i : List Index) (l : List Let) (g : List Grant) (d : List Reduce) : Prop :=
  (c.length : Int) <= k /\ (i.length : Int) <= k /\ (l.length : Int) <= k /\ (g.length : Int) <= k /\ (d.length : Int) <= k /\
  (∀ x ∈ l, x.Name.size <= 8000 /\ EB 8001 x.Body) /\ (∀ x ∈ g, EB 8001 x.If /\ EB 8001 x.Pay) /\ ∀ x ∈ d, EB 8001 x.By
theorem LG.up {k m : Int} {c : List Credit} {i : List Index} {l : List Let} {g : List Grant} {d : List Reduce} (h : LG k c i l g d) (hm : k <= m) : LG m c i l g d := by
  obtain ⟨h1, h2, h3, h4, h5, r⟩ := h
  exact ⟨by omega, by omega, by omega, by omega, by omega, r⟩
theorem b3g {α : Type} {l : List α} {a x : α} (h : x ∈ l ++ [a]) : x ∈ l \/ x = a := by
  rcases List.mem_append.1 h with h | h
  . exact .inl h
  . exact .inr (List.mem_singleton.1 h)
def CQ (r : pensionref5_reader) (q : pensionref5_reader × Version × (List Credit) × (List Index) × (List Let) × (List Grant) × (List Reduce)) : Prop := RS r q.1 /\ (r.at_ < q.1.at_ \/ q.1.bad = true) /\ LG q.1.at_ q.2.2.1 q.2.2.2.1 q.2.2.2.2.1 q.2.2.2.2.2.1 q.2.2.2.2.2.2
section
variable {r p : pensionref5_reader} {c : List Credit} {i : List Index} {l : List Let} {g : List Grant} {d : List Reduce}
theorem b9k (hr : RI r) (hs : RS r p) : p.at_ <= 8000 := by
  have := hs.2.2.1
  have := hr.2.2.1
  omega
theorem a7n (hr : RI r) (hs : RS r p) {k : Int} (hk : r.at_ <= k) (hp : k < p.at_) {v : Version} {c' : List Credit} {i' : List Index} {l' : List Let} {g' : List Grant} {d' : List Reduce} (hL : LG (k + 1) c' i' l' g' d') (s : ByteArray) :
    Tot (Option.bind (b9 p s) fun q => some (q, v, c', i', l', g', d')) (CQ r) := by
  refine Tot.bind (s4 (hs.ri hr) s) fun q hq => Tot.some ⟨hs.trans hq.1, .inl ?_, hL.up ?_⟩
  . have := hq.1.2.1
    show r.at_ < q.at_
    omega
  . have := hq.1.2.1
    show k + 1 <= q.at_
    omega
theorem c04 (hr : RI r) (hs : RS r p) (hp : r.at_ < p.at_) (hL : LG r.at_ c i l g d) (v : Version) (x : Credit) : Tot (p6 (p, c, i, l, g, d, v, x)) (CQ r) := by
  have h8 := b9k hr hs
  obtain ⟨h1, h2, h3, h4, h5, hR⟩ := hL
  unfold p6
  refine Tot.bind (a3h (by simp; omega)) fun a ha => ?_
  subst ha
  exact a7n hr hs (Int.le_refl _) hp ⟨by simp; omega, by show (i.length : Int) <= _; omega, by show (l.length : Int) <= _; omega, by show (g.length : Int) <= _; omega, by show (d.length : Int) <= _; omega, hR⟩ _
theorem c0d (hr : RI r) (hs : RS r p) (hp : r.at_ < p.at_) (hL : LG r.at_ c i l g d) (v : Version) (x : Index) : Tot (p8 (p, c, i, l, g, d, v, x)) (CQ r) := by
  have h8 := b9k hr hs
  obtain ⟨h1, h2, h3, h4, h5, hR⟩ := hL
  unfold p8
  refine Tot.bind (a3h (by simp; omega)) fun a ha => ?_
  subst ha
  exact a7n hr hs (Int.le_refl _) hp ⟨by show (c.length : Int) <= _; omega, by simp; omega, by show (l.length : Int) <= _; omega, by show (g.length : Int) <= _; omega, by show (d.length : Int) <= _; omega, hR⟩ _
theorem b3u (hr : RI r) (hs : RS r p) (hp : r.at_ < p.at_) (hL : LG r.at_ c i l g d) (v : Version) (x : Index) : Tot (l0 (p, c, i, l, g, d, v, x)) (CQ r) := by
  unfold l0
  refine Tot.ite (fun _ => ?_) fun _ => Tot.join (c0d hr hs hp hL _ _)
  rw [b1r, Option.bind_some]
  exact Tot.join (c0d hr (hs.trans (RS.bad (hs.ri hr))) hp hL _ _)
theorem c4o (hr : RI r) (hL : LG r.at_ c i l g d) (v : Version) : Tot (z6 r v c i l g d) (CQ r) := by
  unfold z6
  have h0 := hr.1
  refine Tot.bind (a2c hr _) fun t1 h1 => Tot.ite (fun hp => ?_) fun hp => ?_
  . have hc := h1.2.1 hp
    refine Tot.bind (c3u (h1.1.ri hr) (by omega) (by omega)) fun q1 g1 => ?_
    have hs1 := h1.1.trans g1.1
    have ha1 := g1.1.2.1
    refine Tot.bind (a2c (hs1.ri hr) _) fun t2 h2 => ?_
    have hs2 := hs1.trans h2.1
    have ha2 := h2.1.2.1
    refine Tot.ite (fun _ => ?_) fun _ => Tot.join (c04 hr hs2 (by omega) hL _ _)
    refine Tot.bind (a8t (hs2.ri hr) _ _) fun q2 g2 => ?_
    have ha3 := g2.1.2.1
    exact Tot.join (c04 hr (hs2.trans g2.1) (by omega) hL _ _)
  have e1 : t1.2 = r := h1.2.2.2 (by simpa using hp)
  rw [e1]
  refine Tot.bind (a2c hr _) fun t2 h2 => Tot.ite (fun hp => ?_) fun hp => ?_
  . have hc := h2.2.1 hp
    refine Tot.bind (a8t (h2.1.ri hr) _ _) fun q1 g1 => ?_
    have hs1 := h2.1.trans g1.1
    have ha1 := g1.1.2.1
    have hr1 := hs1.ri hr
    refine Tot.bind (a9b hr1 2) fun b hb => Tot.ite (fun hp => ?_) fun _ => Tot.join (b3u hr hs1 (by omega) hL _ _)
    have hlt := (hb hp).2
    refine Tot.bind (o3 hr1.1 hlt) fun x hx => Tot.bind (b06 (hr1.2.2.2 x hx).2) fun f _ => ?_
    simp only [a07, Option.bind_some]
    refine Tot.ite (fun _ => ?_) fun _ => Tot.join (b3u hr hs1 (by omega) hL _ _)
    obtain ⟨e, hs⟩ := RS.next hr1 hlt
    rw [e]
    exact Tot.join (b3u hr (hs1.trans hs) (by show r.at_ < q1.2.at_ + 1; omega) hL _ _)
  have e2 : t2.2 = r := h2.2.2.2 (by simpa using hp)
  rw [e2]
  refine Tot.bind (a2c hr _) fun t3 h3 => Tot.ite (fun hp => ?_) fun hp => ?_
  . have hc := h3.2.1 hp
    refine Tot.bind (b89 (h3.1.ri hr)) fun q1 g1 => ?_
    have hs1 := h3.1.trans g1.1
    have ha1 := g1.1.2.1
    refine Tot.bind (s4 (hs1.ri hr) _) fun q2 g2 => ?_
    have hs2 := hs1.trans g2.1
    have ha2 := g2.1.2.1
    refine Tot.bind (b38 (hs2.ri hr)) fun q3 g3 => ?_
    have hs3 := hs2.trans g3.1
    have ha3 := g3.1.2.1
    obtain ⟨k1, k2, k3, k4, k5, k6, k7, k8⟩ := hL
    have h8 := b9k hr hs3
    refine Tot.bind (a3h (by simp; omega)) fun a ha => ?_
    subst ha
    exact a7n hr hs3 (Int.le_refl _) (by omega) ⟨by omega, by omega, by simp; omega, by omega, by omega, fun x hx => (b3g hx).elim (k6 x) fun e => by subst e; exact ⟨g1.2.1, g3.2⟩, k7, k8⟩ _
  have e3 : t3.2 = r := h3.2.2.2 (by simpa using hp)
  rw [e3]
  refine Tot.bind (a2c hr _) fun t4 h4 => Tot.ite (fun hp => ?_) fun hp => ?_
  . have hc := h4.2.1 hp
    refine Tot.bind (c3u (h4.1.ri hr) (by omega) (by omega)) fun q1 g1 => ?_
    have hs1 := h4.1.trans g1.1
    have ha1 := g1.1.2.1
    refine Tot.bind (s4 (hs1.ri hr) _) fun q2 g2 => ?_
    have hs2 := hs1.trans g2.1
    have ha2 := g2.1.2.1
    refine Tot.bind (b38 (hs2.ri hr)) fun q3 g3 => ?_
    have hs3 := hs2.trans g3.1
    have ha3 := g3.1.2.1
    refine Tot.bind (s4 (hs3.ri hr) _) fun q4 g4 => ?_
    have hs4 := hs3.trans g4.1
    have ha4 := g4.1.2.1
    refine Tot.bind (b38 (hs4.ri hr)) fun q5 g5 => ?_
    have hs5 := hs4.trans g5.1
    have ha5 := g5.1.2.1
    obtain ⟨k1, k2, k3, k4, k5, k6, k7, k8⟩ := hL
    have h8 := b9k hr hs5
    refine Tot.bind (a3h (by simp; omega)) fun a ha => ?_
    subst ha
    exact a7n hr hs5 (Int.le_refl _) (by omega) ⟨by omega, by omega, by omega, by simp; omega, by omega, k6, fun x hx => (b3g hx).elim (k7 x) fun e => by subst e; exact ⟨g3.2, g5.2⟩, k8⟩ _
  have e4 : t4.2 = r := h4.2.2.2 (by simpa using hp)
  rw [e4]
  refine Tot.bind (a2c hr _) fun t5 h5 => Tot.ite (fun hp => ?_) fun hp => ?_
  . have hc := h5.2.1 hp
    refine Tot.bind (c3u (h5.1.ri hr) (by omega) (by omega)) fun q1 g1 => ?_
    have hs1 := h5.1.trans g1.1
    have ha1 := g1.1.2.1
    refine Tot.bind (s4 (hs1.ri hr) _) fun q2 g2 => ?_
    have hs2 := hs1.trans g2.1
    have ha2 := g2.1.2.1
    refine Tot.bind (b38 (hs2.ri hr)) fun q3 g3 => ?_
    have hs3 := hs2.trans g3.1
    have ha3 := g3.1.2.1
    obtain ⟨k1, k2, k3, k4, k5, k6, k7, k8⟩ := hL
    have h8 := b9k hr hs3
    refine Tot.bind (a3h (by simp; omega)) fun a ha => ?_
    subst ha
    exact a7n hr hs3 (Int.le_refl _) (by omega) ⟨by omega, by omega, by omega, by omega, by simp; omega, k6, k7, fun x hx => (b3g hx).elim (k8 x) fun e => by subst e; exact g3.2⟩ _
  have e5 : t5.2 = r := h5.2.2.2 (by simpa using hp)
  rw [e5, b1r, Option.bind_some]
  have hsb := RS.bad hr
  refine Tot.bind (s4 (hsb.ri hr) _) fun q hq => Tot.some ⟨hsb.trans hq.1, .inr (hq.1.2.2.2 rfl), hL.up ?_⟩
  exact (hsb.trans hq.1).2.1
end
def VG (v : Version) : Prop := LG 8000 v.Credits v.Series v.Lets v.Grants v.Reduces
theorem c12 {r : pensionref5_reader} (hr : RI r) : Tot (s7 r) fun q => RS r q.2 /\ (r.at_ < q.2.at_ \/ q.2.bad = true) /\ VG q.1 := by
  have j : ∀ (p : pensionref5_reader) (v w : Version), RS r p -> (r.at_ < p.at_ \/ p.bad = true) -> Tot (o8 (p, [], [], [], [], [], v, [], [], [], [], [], w)) fun q => RS r q.2 /\ (r.at_ < q.2.at_ \/ q.2.bad = true) /\ VG q.1 := by
    intro p v w hs hpr
    have tr : ∀ {x y : pensionref5_reader}, (r.at_ < x.at_ \/ x.bad = true) -> RS x y -> (r.at_ < y.at_ \/ y.bad = true) := fun h hxy => h.imp (fun h => by have := hxy.2.1; omega) hxy.2.2.2
    unfold o8
    refine Tot.bind (s4 (hs.ri hr) _) fun q1 g1 => ?_
    have hs1 := hs.trans g1.1
    refine Tot.bind (s4 (hs1.ri hr) _) fun q2 g2 => ?_
    have hs2 := hs1.trans g2.1
    refine Tot.bind (c3u (hs2.ri hr) (by omega) (by omega)) fun q3 g3 => ?_
    have hs3 := hs2.trans g3.1
    refine Tot.bind (a8t (hs3.ri hr) _ _) fun q4 g4 => ?_
    have hs4 := hs3.trans g4.1
    refine Tot.bind (s4 (hs4.ri hr) _) fun q5 g5 => ?_
    have hs5 := hs4.trans g5.1
    have hp5 := tr (tr (tr (tr (tr hpr g1.1) g2.1) g3.1) g4.1) g5.1
    have h0 := (hs5.ri hr).1
    refine Tot.loop (σ := pensionref5_reader × (List Credit) × (List Index) × (List Let) × (List Grant) × (List Reduce) × Version × (List Credit) × (List Index) × (List Let) × (List Grant) × (List Reduce) × Version)
      (I := fun v => RS r v.1 /\ (r.at_ < v.1.at_ \/ v.1.bad = true) /\ LG v.1.at_ v.2.2.2.2.2.2.2.1 v.2.2.2.2.2.2.2.2.1 v.2.2.2.2.2.2.2.2.2.1 v.2.2.2.2.2.2.2.2.2.2.1 v.2.2.2.2.2.2.2.2.2.2.2.1) (μ := fun v => 2 * left v.1 + (if v.1.bad = true then 0 else 1))
      ⟨hs5, hp5, h0, h0, h0, h0, h0, (fun x hx => by cases hx), (fun x hx => by cases hx), fun x hx => by cases hx⟩ (by
        show 2 * left q5 + (if q5.bad = true then 0 else 1) < _
        have h9 := a4v hs5
        have h8 := hr.2.2.1
        have h10 : left r <= 8000 := by unfold left; have := hr.1; omega
        split <;> omega) ?_
    intro rc v hI ih
    obtain ⟨i1, i2, i3⟩ := hI
    have hv := i1.ri hr
    unfold a21
    refine Tot.ite (fun hb => ?_) fun hb => Tot.some ⟨i1, i2, i3.up (b9k hr i1)⟩
    have hb : v.1.bad = false := by simpa using hb
    refine Tot.bind (a2c hv _) fun t ht => Tot.ite (fun hp => ?_) fun hp => Tot.some ⟨i1.trans ht.1, tr i2 ht.1, i3.up (b9k hr i1)⟩
    have e1 : t.2 = v.1 := ht.2.2.2 (by simpa using hp)
    rw [e1]
    refine Tot.bind (c4o hv i3 _) fun q hq => ?_
    refine ih _ ⟨i1.trans hq.1, tr i2 hq.1, hq.2.2⟩ ?_
    show 2 * left q.1 + (if q.1.bad = true then 0 else 1) < 2 * left v.1 + (if v.1.bad = true then 0 else 1)
    rw [hb]
    rcases hq.2.1 with h | h
    . have := a93 hv hq.1 h
      split <;> simp <;> omega
    . have := a4v hq.1
      rw [h]
      simp
      omega
  unfold s7
  refine Tot.bind (s4 hr _) fun q1 g1 => ?_
  have hr1 := g1.1.ri hr
  refine Tot.bind (a9b hr1 3) fun b hb => Tot.ite (fun hp => ?_) fun _ => ?_
  . have hlt := (hb hp).2
    refine Tot.bind (o3 hr1.1 hlt) fun t ht => Tot.bind (c9c (hr1.2.2.2 t ht).1 (hr1.2.2.2 t ht).2) fun y _ => ?_
    obtain ⟨e, hs⟩ := RS.next hr1 hlt
    rw [e]
    exact Tot.join (j _ _ _ (g1.1.trans hs) (.inl (by show r.at_ < q1.at_ + 1; have := g1.1.2.1; omega)))
  . rw [b1r, Option.bind_some]
    exact Tot.join (j _ _ _ (g1.1.trans (RS.bad hr1)) (.inr rfl))
end Go.PL
