/- From what a statement says of its arguments to the readings of the program logic, and back. It holds for every program. -/
import Derived.Test.YtndkbfbjjnhgoaaGreatDoorSet
import Derived.ChangeSame
import Derived.Deep.Slices
import Derived.OpenShut
import Derived.SizedLaws
import Derived.Below
namespace Go.PL
open Go Go.ChangeShapes Go.WideShapes Go.Deep
variable {H : Type} {enc : TypeId × Value → H} {P : Program}

/-- What is read at the type lies in its own cells: it reads the same in every world. -/
def FlatT (enc : TypeId × Value → H) (P : Program) (e : TypeId) : Prop := ∀ (w : World) (base : Nat) (spare : Nat → Bool) (held : Bool) (fuel : Nat) (cs : List Value) (r : DataW H × List MemPlace), DataW.trod enc P w base spare held fuel e cs = some r →
  r.2 = [] ∧ ∀ (w' : World) (base' : Nat) (sp' : Nat → Bool) (hd' : Bool), ∃ m, DataW.trod enc P w' base' sp' hd' m e cs = some r
/-- What is read at the type are the cells of a Lean value. -/
def IsE {α : Type} (enc : TypeId × Value → H) (P : Program) (e : TypeId) (cells : α → List Value) : Prop := ∀ (w : World) (base : Nat) (spare : Nat → Bool) (held : Bool) (fuel : Nat) (cs : List Value) (r : DataW H × List MemPlace), DataW.trod enc P w base spare held fuel e cs = some r → ∃ x, cs = cells x
theorem FlatT.int {e : TypeId} {k : IntKind} (he : P.underlying e = some (.int k)) : FlatT enc P e := by
  intro w base spare held fuel cs r h
  obtain ⟨n, rfl, rfl, hw⟩ := DataW.trod_int he h
  exact ⟨rfl, fun w' base' sp' hd' => ⟨1, trod_int_mk 0 he hw⟩⟩
theorem FlatT.bool {e : TypeId} (he : P.underlying e = some .bool) : FlatT enc P e := by
  intro w base spare held fuel cs r h
  obtain ⟨b, rfl, rfl⟩ := DataW.trod_bool he h
  exact ⟨rfl, fun w' base' sp' hd' => ⟨1, by simp [DataW.trod, he]⟩⟩
theorem IsE.int {e : TypeId} {k : IntKind} (he : P.underlying e = some (.int k)) : IsE enc P e (fun x : Int => [.int k x]) := by
  intro w base spare held fuel cs r h
  obtain ⟨n, rfl, _, _⟩ := DataW.trod_int he h
  exact ⟨n, rfl⟩
theorem FlatT.struct {t : TypeId} {fs : Array Field} (ht : P.underlying t = some (.struct fs)) (hf : ∀ (i : Nat) (f : Field), fs[i]? = some f → FlatT enc P f.type) : FlatT enc P t := by
  intro w base spare held fuel cs r h
  obtain ⟨xs, n, _, hr, hl, hxl, hx⟩ := DataW.trod_struct ht h
  subst hr
  have hget : ∀ i (hi : i < fs.size), ∃ y, xs[i]? = some y ∧ y.2 = [] ∧ ∀ (w' : World) (base' : Nat) (sp' : Nat → Bool) (hd' : Bool), ∃ m, DataW.trod enc P w' base' sp' hd' m fs[i].type ((cs.drop fs[i].offset).take (P.cellsOf fs[i].type)) = some y := by
    intro i hi
    have h1 := hx i fs[i] (Array.getElem?_eq_getElem hi)
    have hxi : xs[i]? = some xs[i] := List.getElem?_eq_getElem (by omega)
    rw [hxi] at h1
    obtain ⟨h2, h3⟩ := hf i _ (Array.getElem?_eq_getElem hi) _ _ _ _ _ _ _ h1
    exact ⟨_, hxi, h2, h3⟩
  refine ⟨?_, fun w' base' sp' hd' => ?_⟩
  · show xs.flatMap (·.2) = []
    rw [List.flatMap_eq_nil_iff]
    intro y hy
    obtain ⟨i, hi, hyi⟩ := List.mem_iff_getElem.1 hy
    obtain ⟨y', h1, h2, _⟩ := hget i (by omega)
    rw [List.getElem?_eq_getElem hi, hyi] at h1
    cases h1; exact h2
  · obtain ⟨m, hm⟩ := fuel_lt (n := fs.size) (q := fun i m => ∀ (hi : i < fs.size) y, xs[i]? = some y → DataW.trod enc P w' base' sp' hd' m fs[i].type ((cs.drop fs[i].offset).take (P.cellsOf fs[i].type)) = some y)
      (fun i a b hab hq hi y hy => DataW.trod_le hab (hq hi y hy)) (fun i hi => by
        obtain ⟨y, h1, _, h3⟩ := hget i hi
        obtain ⟨m, hm⟩ := h3 w' base' sp' hd'
        exact ⟨m, fun _ y' hy' => by rw [h1] at hy'; cases hy'; exact hm⟩)
    refine ⟨m + 1, trod_struct_mk ht hl ?_⟩
    have key : ∀ (l : List Field) (ys : List (DataW H × List MemPlace)), l.length = ys.length → (∀ (i : Nat) (f : Field) (y : DataW H × List MemPlace), l[i]? = some f → ys[i]? = some y → DataW.trod enc P w' base' sp' hd' m f.type ((cs.drop f.offset).take (P.cellsOf f.type)) = some y) →
        l.mapM (fun f => DataW.trod enc P w' base' sp' hd' m f.type ((cs.drop f.offset).take (P.cellsOf f.type))) = some ys := by
      intro l
      induction l with
      | nil => intro ys hlen _; cases ys with
        | nil => rfl
        | cons y ys => simp at hlen
      | cons f l ih =>
        intro ys hlen hall
        cases ys with
        | nil => simp at hlen
        | cons y ys =>
          rw [List.mapM_cons, hall 0 f y rfl rfl]
          simp only [Option.bind_eq_bind, Option.bind_some]
          rw [ih ys (by simpa using hlen) (fun i f y h1 h2 => hall (i + 1) f y (by simpa using h1) (by simpa using h2))]
          rfl
    refine key _ _ (by simp [hxl]) (fun i f y h1 h2 => ?_)
    have hi : i < fs.size := by
      have := (List.getElem?_eq_some_iff.1 h1).1
      simpa using this
    have : f = fs[i] := by
      have h3 : fs.toList[i]? = some fs[i] := by simp [hi]
      rw [h3] at h1; exact (Option.some.inj h1).symm
    subst this
    exact hm i hi hi y h2

theorem cell_lt {w : World} {a : Addr} {v : Value} (h : w.cell? a = some v) : a.block < w.heap.size := by
  rcases Nat.lt_or_ge a.block w.heap.size with h1 | h1
  · exact h1
  · exfalso
    unfold World.cell? at h
    rw [Array.getElem?_eq_none h1] at h
    cases h
/-- A slice that the statement reads, as the program logic reads it. -/
theorem rep_of_trod {α : Type} [Inhabited α] {cells : α → List Value} {n : Nat} {hn : ∀ x, (cells x).length = n} {t e : TypeId} {w : World} {base : Nat} {spare : Nat → Bool} {held : Bool} {a : Option Addr} {len cap : Nat} {d : DataW H} {ps : List MemPlace}
    (hI : IsE enc P e cells) (hC : P.cellsOf e = n) (hpos : 0 < n) (ht : P.underlying t = some (.slice e)) (h : DataW.Trod enc P w base spare held t (.slice a len cap) d ps) :
    ∃ l : List α, RepSl (TyR.flat n cells hn) noG w (.slice a len cap) l := by
  obtain ⟨fuel, hf⟩ := h
  rcases open_slice ht hf with ⟨h1, _⟩ | ⟨a', len', cap', m, n', D, Pl, h1, hb, hl, hm, hmm, hx, hi⟩
  · simp only [Value.cells, List.cons.injEq, and_true] at h1
    exact ⟨[], .inl ⟨h1, rfl⟩⟩
  · simp only [Value.cells, List.cons.injEq, and_true, Value.slice.injEq] at h1
    obtain ⟨rfl, rfl, rfl⟩ := h1
    have hlm : len ≤ m := by rw [hmm]; split <;> omega
    obtain ⟨X, hX⟩ := choose_lt (α := α) (n := len) (p := fun i x => w.cells? base (a'.add (i * n)) n = some (cells x)) (fun i hil => by
      obtain ⟨cs, h1, h2⟩ := hi i (by omega)
      obtain ⟨x, hxe⟩ := hI _ _ _ _ _ _ _ h2
      rw [hC] at h1
      exact ⟨x, by rw [h1, hxe]⟩)
    refine ⟨(List.range len).map X, .inr ⟨a', cap, by simp, by simpa using hl, hm, fun i x hix => ?_⟩⟩
    have hil : i < len := by have := (List.getElem?_eq_some_iff.1 hix).1; simpa using this
    have hxe : x = X i := by simp [hil] at hix; exact hix.symm
    subst hxe
    obtain ⟨_, hcl, hcs⟩ := World.cells?_some (hX i hil)
    refine ⟨cells (X i), rfl, ?_, fun h => h, fun j v hj => ?_⟩
    · have h0 := hcs 0 hpos
      have : (cells (X i))[0]? = some ((cells (X i))[0]'(by rw [hn]; exact hpos)) := List.getElem?_eq_getElem _
      rw [this] at h0
      have := cell_lt h0
      rwa [add_block, add_block] at this
    · have hjn : j < n := by rw [← hn (X i)]; exact (List.getElem?_eq_some_iff.1 hj).1
      exact (hcs j hjn).trans hj
/-- What the form's own reach says of a slice's length. -/
theorem sized_of {α : Type} {R : TyR α} {G : Nat → Prop} {x : List α} {ts : List TypeId} {ds : List (DataW H)} {j : Nat} {t e : TypeId} {w : World} {base : Nat} {spare : Nat → Bool} {held : Bool} {a : Option Addr} {len cap : Nat} {d : DataW H} {ps : List MemPlace}
    (hsz : (DataW.weightsEach P ts ds).all (· ≤ reachBytes) = true) (htj : ts[j]? = some t) (hdj : ds[j]? = some d) (hu : P.underlying t = some (.slice e)) (h : DataW.Trod enc P w base spare held t (.slice a len cap) d ps) (hx : RepSl R G w (.slice a len cap) x) :
    x.length * P.bytesOf e ≤ reachBytes := by
  obtain ⟨fuel, hf⟩ := h
  obtain ⟨a2, c2, hv, _, _⟩ := hx.shape
  simp only [Value.slice.injEq] at hv
  obtain ⟨_, hl, _⟩ := hv
  rcases open_slice hu hf with ⟨h1, _⟩ | ⟨a', len', cap', m, n', D, Pl, h1, hb, hl2, hm, hmm, hd, hi⟩
  · simp only [Value.cells, List.cons.injEq, and_true, Value.slice.injEq] at h1
    rw [← hl, h1.2.1]; simp
  · simp only [Value.cells, List.cons.injEq, and_true, Value.slice.injEq] at h1
    obtain ⟨rfl, rfl, rfl⟩ := h1
    simp only [Prod.mk.injEq] at hd
    rw [hd.1] at hdj
    have h2 := sized_slice hsz htj hdj hu
    rw [← hl]
    refine Nat.le_trans (Nat.mul_le_mul_right _ ?_) h2
    simp
/-- A slice that the statement has read with its spare reads the same behind a call that leaves all that was there. -/
theorem carry_slice {t e : TypeId} {w w' : World} {sp : Nat → Bool} {a : Option Addr} {len cap : Nat} {d : DataW H} {ps : List MemPlace} (hF : FlatT enc P e) (ht : P.underlying t = some (.slice e))
    (h : DataW.Trod enc P w 0 (fun _ => true) true t (.slice a len cap) d ps) (hE : Ext noG w w') (hlt : ∀ p ∈ ps, p.block < w.heap.size) (hsp : ∀ p ∈ ps, sp p.block = true) (hpos : 0 < P.cellsOf e) :
    DataW.Trod enc P w' 0 sp true t (.slice a len cap) d ps := by
  obtain ⟨fuel, hf⟩ := h
  rcases open_slice ht hf with ⟨h1, h2⟩ | ⟨a', len', cap', m, n', D, Pl, h1, hb, hl, hm, hmm, hx, hi⟩
  · simp only [Value.cells, List.cons.injEq, and_true] at h1
    simp only [Prod.mk.injEq] at h2
    rw [h1, h2.1, h2.2]
    exact ⟨1, by simp [DataW.trod, Value.cells, ht]⟩
  · simp only [Value.cells, List.cons.injEq, and_true, Value.slice.injEq] at h1
    obtain ⟨rfl, rfl, rfl⟩ := h1
    simp only [if_true] at hmm
    subst hmm
    simp only [Prod.mk.injEq] at hx
    obtain ⟨rfl, rfl⟩ := hx
    have hel : ∀ i, i < m → ∃ cs n, w'.cells? 0 (a'.add (i * P.cellsOf e)) (P.cellsOf e) = some cs ∧ DataW.trod enc P w' 0 sp true n e cs = some (D i, Pl i) := by
      intro i him
      obtain ⟨cs, h1, h2⟩ := hi i him
      obtain ⟨_, h4⟩ := hF _ _ _ _ _ _ _ h2
      obtain ⟨n, hn⟩ := h4 w' 0 sp true
      refine ⟨cs, n, ?_, hn⟩
      obtain ⟨_, hcl, hcs⟩ := World.cells?_some h1
      have hcell : w.cell? ((a'.add (i * P.cellsOf e)).add 0) = cs[0]? := hcs 0 hpos
      have hblt : a'.block < w.heap.size := by
        have : cs[0]? = some (cs[0]'(by rw [hcl]; exact hpos)) := List.getElem?_eq_getElem _
        rw [this] at hcell
        have := cell_lt hcell
        rwa [add_block, add_block] at this
      have heq : w'.heap[a'.block]? = w.heap[a'.block]? := hE.block _ hblt (fun h => h)
      have : w'.cells? 0 (a'.add (i * P.cellsOf e)) (P.cellsOf e) = w.cells? 0 (a'.add (i * P.cellsOf e)) (P.cellsOf e) := by
        unfold World.cells?
        congr 2
        funext j
        exact World.cell?_of_block (by rw [add_block, add_block]; exact heq)
      rw [this]; exact h1
    cases hm0 : sp a'.block with
    | true =>
      exact shut_slice_whole ht hb hl hm hm0 D Pl hel
    | false =>
      have hcap : m = 0 := by
        rcases Nat.eq_zero_or_pos m with h0 | h0
        · exact h0
        · exfalso
          have hmem : MemPlace.cell a'.block (a'.off + 0) ∈ MemPlace.row a' (m * P.cellsOf e) ++ (List.range m).flatMap Pl := by
            refine List.mem_append_left _ ?_
            unfold MemPlace.row
            exact List.mem_map.2 ⟨0, List.mem_range.2 (Nat.mul_pos h0 hpos), rfl⟩
          have := hsp _ hmem
          rw [show (MemPlace.cell a'.block (a'.off + 0)).block = a'.block from rfl, hm0] at this
          cases this
      subst hcap
      have hlen : len = 0 := by omega
      subst hlen
      have := shut_slice (enc := enc) (w := w') (held := true) (cap := 0) ht hb hl hm hm0 D Pl (fun i hi => absurd hi (Nat.not_lt_zero _))
      simpa using this
end Go.PL
