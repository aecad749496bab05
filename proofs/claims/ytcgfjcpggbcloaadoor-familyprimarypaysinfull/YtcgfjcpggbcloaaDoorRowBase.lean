/- Facts that the rows of this seat share: how the arguments' types read; what the listed variable holds; a world for the witnesses. -/
import Derived.Test.YtcgfjcpggbcloaaDoorCards
import Derived.Test.YtcgfjcpggbcloaaDoorTie
import Derived.Test.YtcgfjcpggbcloaaDoorF
import Derived.Test.YtcgfjcpggbcloaaDoorRead
import Derived.WalkKit
import Derived.ProofKit
import Derived.OpenShut
import Derived.Deep.DeepHandedRow
import Derived.Lib.LaidTab
import Derived.LaidOnce
import Derived.LaidMore
set_option maxRecDepth 100000
set_option linter.unusedVariables false
set_option linter.unusedSimpArgs false
namespace Go.PL
open Go Go.ChangeShapes Go.WideShapes Go.Proofs
instance : Inhabited Right := ⟨⟨0, 0, 0, 0⟩⟩
instance : Inhabited Rate := ⟨⟨0, 0, ⟨0, 0⟩⟩⟩
instance : Inhabited pensionlaw24_Raw := ⟨⟨0, 0, 0, 0⟩⟩
theorem u3 : Tryd.prog.underlying 3 = some (.int .i64) := by kernel_rfl
theorem u4 : Tryd.prog.underlying 4 = some .bool := by kernel_rfl
theorem u24 : Tryd.prog.underlying 24 = some (.slice 43) := by kernel_rfl
theorem u26 : Tryd.prog.underlying 26 = some (.slice 57) := by kernel_rfl
theorem u22 : Tryd.prog.underlying 22 = some (.slice 51) := by kernel_rfl
theorem u23 : Tryd.prog.underlying 23 = some (.slice 3) := by kernel_rfl
theorem c51 : Tryd.prog.cellsOf 51 = 4 := by kernel_rfl
theorem sf51 : (Tryd.prog.fieldsOf 51).map (fun f => (f.type, f.offset)) = #[(3, 0), (3, 1), (3, 2), (3, 3)] := by kernel_rfl
theorem us51 : Tryd.prog.underlying 51 = some (.struct (Tryd.prog.fieldsOf 51)) := by kernel_rfl
theorem c3 : Tryd.prog.cellsOf 3 = 1 := by kernel_rfl
theorem c43 : Tryd.prog.cellsOf 43 = 4 := by kernel_rfl
theorem c57 : Tryd.prog.cellsOf 57 = 4 := by kernel_rfl
theorem c54 : Tryd.prog.cellsOf 54 = 2 := by kernel_rfl
theorem c72 : Tryd.prog.cellsOf 72 = 2 := by kernel_rfl
theorem sf43 : (Tryd.prog.fieldsOf 43).map (fun f => (f.type, f.offset)) = #[(3, 0), (3, 1), (3, 2), (3, 3)] := by kernel_rfl
theorem sf57 : (Tryd.prog.fieldsOf 57).map (fun f => (f.type, f.offset)) = #[(3, 0), (3, 1), (54, 2)] := by kernel_rfl
theorem sf54 : (Tryd.prog.fieldsOf 54).map (fun f => (f.type, f.offset)) = #[(3, 0), (3, 1)] := by kernel_rfl
theorem sf72 : (Tryd.prog.fieldsOf 72).map (fun f => (f.type, f.offset)) = #[(3, 0), (3, 1)] := by kernel_rfl
theorem us43 : Tryd.prog.underlying 43 = some (.struct (Tryd.prog.fieldsOf 43)) := by kernel_rfl
theorem us57 : Tryd.prog.underlying 57 = some (.struct (Tryd.prog.fieldsOf 57)) := by kernel_rfl
theorem us54 : Tryd.prog.underlying 54 = some (.struct (Tryd.prog.fieldsOf 54)) := by kernel_rfl
theorem us72 : Tryd.prog.underlying 72 = some (.struct (Tryd.prog.fieldsOf 72)) := by kernel_rfl
/-- Field i of a struct: its type and its offset. -/
theorem field_of {fs : Array Field} {l : Array (TypeId × Nat)} (h : fs.map (fun f => (f.type, f.offset)) = l) {i : Nat} {f : Field} (hf : fs[i]? = some f) : l[i]? = some (f.type, f.offset) := by
  subst h; simp [hf]
theorem fields_all {fs : Array Field} {l : Array (TypeId × Nat)} (h : fs.map (fun f => (f.type, f.offset)) = l) {q : TypeId → Prop} (hq : ∀ x ∈ l, q x.1) : ∀ (i : Nat) (f : Field), fs[i]? = some f → q f.type := by
  intro i f hf
  exact hq _ (Array.mem_of_getElem? (field_of h hf))
section
variable {H : Type} {enc : TypeId × Value → H}
theorem flat54 : FlatT enc Tryd.prog 54 := FlatT.struct us54 (fields_all sf54 (q := fun t => FlatT enc Tryd.prog t) (by intro x hx; simp at hx; rcases hx with rfl | rfl <;> exact FlatT.int u3))
theorem flat43 : FlatT enc Tryd.prog 43 := FlatT.struct us43 (fields_all sf43 (q := fun t => FlatT enc Tryd.prog t) (by intro x hx; simp at hx; rcases hx with rfl | rfl | rfl | rfl <;> exact FlatT.int u3))
theorem flat57 : FlatT enc Tryd.prog 57 := FlatT.struct us57 (fields_all sf57 (q := fun t => FlatT enc Tryd.prog t) (by intro x hx; simp at hx; rcases hx with rfl | rfl | rfl <;> first | exact FlatT.int u3 | exact flat54))
/-- Field i reads as an integer. -/
theorem int_field {fs : Array Field} {l : Array (TypeId × Nat)} (hl : fs.map (fun f => (f.type, f.offset)) = l) {w : World} {base : Nat} {spare : Nat → Bool} {held : Bool} {n : Nat} {cs : List Value} {xs : List (DataW H × List MemPlace)} (hxl : xs.length = fs.size)
    (hx : ∀ (i : Nat) (f : Field), fs[i]? = some f → DataW.trod enc Tryd.prog w base spare held n f.type ((cs.drop f.offset).take (Tryd.prog.cellsOf f.type)) = xs[i]?) {i off : Nat} (hi : l[i]? = some (3, off)) :
    ∃ z, (cs.drop off).take 1 = [.int .i64 z] ∧ (xs.map (·.1))[i]? = some (.lit (.int .i64 z)) := by
  subst hl
  obtain ⟨f, hf, he⟩ := Array.getElem?_map.symm.trans hi |> Option.map_eq_some_iff.1
  simp only [Prod.mk.injEq] at he
  have h1 := hx i f hf
  rw [he.1, he.2, c3] at h1
  have hlt : i < xs.length := by rw [hxl]; exact (Array.getElem?_eq_some_iff.1 hf).1
  rw [List.getElem?_eq_getElem hlt] at h1
  obtain ⟨z, h2, h3, _⟩ := DataW.trod_int u3 h1
  refine ⟨z, h2, ?_⟩
  rw [List.getElem?_map, List.getElem?_eq_getElem hlt, h3]; rfl
theorem is43 : IsE enc Tryd.prog 43 Right.cells := by
  intro w base spare held fuel cs r h
  obtain ⟨xs, n, _, _, hl, hxl, hx⟩ := DataW.trod_struct us43 h
  rw [c43] at hl
  obtain ⟨z0, h0, _⟩ := int_field sf43 hxl hx (i := 0) rfl
  obtain ⟨z1, h1, _⟩ := int_field sf43 hxl hx (i := 1) rfl
  obtain ⟨z2, h2, _⟩ := int_field sf43 hxl hx (i := 2) rfl
  obtain ⟨z3, h3, _⟩ := int_field sf43 hxl hx (i := 3) rfl
  match cs, hl with
  | [a, b, c, d], _ =>
    simp at h0 h1 h2 h3
    exact ⟨⟨z0, z1, z2, z3⟩, by rw [h0, h1, h2, h3]; rfl⟩
theorem is51 : IsE enc Tryd.prog 51 pensionlaw24_Raw.cells := by
  intro w base spare held fuel cs r h
  obtain ⟨xs, n, _, _, hl, hxl, hx⟩ := DataW.trod_struct us51 h
  rw [c51] at hl
  obtain ⟨z0, h0, _⟩ := int_field sf51 hxl hx (i := 0) rfl
  obtain ⟨z1, h1, _⟩ := int_field sf51 hxl hx (i := 1) rfl
  obtain ⟨z2, h2, _⟩ := int_field sf51 hxl hx (i := 2) rfl
  obtain ⟨z3, h3, _⟩ := int_field sf51 hxl hx (i := 3) rfl
  match cs, hl with
  | [a, b, c, d], _ =>
    simp at h0 h1 h2 h3
    exact ⟨⟨z0, z1, z2, z3⟩, by rw [h0, h1, h2, h3]; rfl⟩
theorem is3 : IsE enc Tryd.prog 3 (fun x : Int => [.int .i64 x]) := IsE.int u3
theorem flat3 : FlatT enc Tryd.prog 3 := FlatT.int u3
theorem flat51 : FlatT enc Tryd.prog 51 := FlatT.struct us51 (fields_all sf51 (q := fun t => FlatT enc Tryd.prog t) (by intro x hx; simp at hx; rcases hx with rfl | rfl | rfl | rfl <;> exact FlatT.int u3))
theorem is54 : IsE enc Tryd.prog 54 Fraction.cells := by
  intro w base spare held fuel cs r h
  obtain ⟨xs, n, _, _, hl, hxl, hx⟩ := DataW.trod_struct us54 h
  rw [c54] at hl
  obtain ⟨z0, h0, _⟩ := int_field sf54 hxl hx (i := 0) rfl
  obtain ⟨z1, h1, _⟩ := int_field sf54 hxl hx (i := 1) rfl
  match cs, hl with
  | [a, b], _ =>
    simp at h0 h1
    exact ⟨⟨z0, z1⟩, by rw [h0, h1]; rfl⟩
theorem is57 : IsE enc Tryd.prog 57 Rate.cells := by
  intro w base spare held fuel cs r h
  obtain ⟨xs, n, _, _, hl, hxl, hx⟩ := DataW.trod_struct us57 h
  rw [c57] at hl
  obtain ⟨z0, h0, _⟩ := int_field sf57 hxl hx (i := 0) rfl
  obtain ⟨z1, h1, _⟩ := int_field sf57 hxl hx (i := 1) rfl
  obtain ⟨f, hf, he⟩ := Array.getElem?_map.symm.trans ((congrArg (·[2]?) sf57).trans (show (#[(3, 0), (3, 1), (54, 2)] : Array (TypeId × Nat))[2]? = some (54, 2) from rfl)) |> Option.map_eq_some_iff.1
  simp only [Prod.mk.injEq] at he
  have h2 := hx 2 f hf
  rw [he.1, he.2, c54] at h2
  have hlt : 2 < xs.length := by rw [hxl]; exact (Array.getElem?_eq_some_iff.1 hf).1
  rw [List.getElem?_eq_getElem hlt] at h2
  obtain ⟨y, hy⟩ := is54 _ _ _ _ _ _ _ h2
  match cs, hl with
  | [a, b, c, d], _ =>
    simp at h0 h1 hy
    exact ⟨⟨z0, z1, y⟩, by rw [h0, h1]; simp [Rate.cells, hy, Fraction.cells] at hy ⊢⟩
end
theorem rep_len {α : Type} {R : TyR α} {G : Nat → Prop} {w : World} {v : Value} {l : List α} (h : RepSl R G w v l) : l.length ≤ 9223372036854775807 := by
  obtain ⟨a, cap, _, h1, h2⟩ := h.shape
  simp only [maxLen] at h2; omega
theorem gDown : Tryd.prog.globalNamed "pension/family.down" = some 0 := by kernel_rfl
theorem gDownT : (Tryd.prog.globals[0]?).map (·.type) = some 72 := by kernel_rfl
theorem down_cells {W : World} (h : laidMetH Tryd.prog YtcgfjcpggbcloaaDoor.Rows.familyRejectsRow.laid W) : GR [.int .i64 1, .int .i64 1] noG W 0 := by
  rw [MakeChecks.laidMetH_plain _ _ _ (by kernel_rfl)] at h
  obtain ⟨ps, ⟨g, t, cs, fuel, p, q, hg, ht, hv, hd, _, _⟩, _, _⟩ := h
  obtain rfl := Option.some.inj (gDown.symm.trans hg)
  obtain rfl := Option.some.inj (gDownT.symm.trans ht)
  obtain ⟨xs, n, _, hr, hl, hxl, hx⟩ := DataW.trod_struct us72 hd
  rw [c72] at hl
  obtain ⟨z0, h0, k0⟩ := int_field sf72 hxl hx (i := 0) rfl
  obtain ⟨z1, h1, k1⟩ := int_field sf72 hxl hx (i := 1) rfl
  have e3 : xs.map (·.1) = [.lit (.int .i64 1), .lit (.int .i64 1)] := (DataW.agg.inj (Prod.mk.inj hr).1).symm
  rw [e3] at k0 k1
  obtain rfl : z0 = 1 := by simpa using k0.symm
  obtain rfl : z1 = 1 := by simpa using k1.symm
  have hcs : cs.toList = [.int .i64 1, .int .i64 1] := by
    generalize cs.toList = l at *
    match l, hl with
    | [a, b], _ => simp at h0 h1; rw [h0, h1]
  have hcell : ∀ i, W.cell? ⟨0, i, none⟩ = cs[i]? := fun i => World.var?_cell gDown hv i
  have hca : CA W ⟨0, 0, none⟩ [.int .i64 1, .int .i64 1] := by
    intro j v hj
    have ha : (⟨0, 0, none⟩ : Addr).add j = ⟨0, j, none⟩ := by unfold Addr.add; split <;> simp_all
    rw [ha, hcell j, ← Array.getElem?_toList, hcs]; exact hj
  exact ⟨cell_lt (hca 0 _ rfl), fun h => h, hca⟩
/-- A world for the witness: the settled one, the variable (block 0) holding what its initialiser lays. -/
noncomputable def laidWorld (os : Os) : World :=
  { World.holding Tryd.prog os ⟨#[], #[], []⟩ with heap := (World.holding Tryd.prog os ⟨#[], #[], []⟩).heap.modify 0 fun
      | .cells _ t frozen => .cells #[.int .i64 1, .int .i64 1] t frozen
      | o => o }
end Go.PL
namespace Go.RowKit
open Go Go.ChangeShapes Go.WideShapes
section
variable {H : Type} {enc : TypeId × Value → H} {P : Program}
theorem post_of_below {f : Func} {s : ChangeSpec} {apart fresh handsOn again : Bool} {W W' : World} {args : Array Value} {v : Value} {ds gs : List (DataW H)} {before pa pv : List MemPlace}
    (hW : DataW.Whole enc P f.params.toList s.vars apart W args.toList ds gs before)
    (hres : ∀ (b : Nat) (sp : Nat → Bool) (hd : Bool), DataW.TrodAll enc P W' b sp hd f.resultTypes.toList (v.resultList f.resultTypes.size) (s.fn H (ds ++ gs)).results [])
    (hargs : ∀ sp : Nat → Bool, (∀ p ∈ before, sp p.block = true) → DataW.TrodAll enc P W' 0 sp true f.params.toList args.toList (s.fn H (ds ++ gs)).args pa)
    (hvars : ∀ sp : Nat → Bool, (∀ p ∈ before, sp p.block = true) → DataW.TrodVars enc P W' sp s.vars (s.fn H (ds ++ gs)).vars pv)
    (hps : before = pa ++ pv) (hb : Below W.heap.size W W')
    (hok : ∀ (j : Nat) (t : TypeId) (r : Value), f.resultTypes[j]? = some t → (v.resultList f.resultTypes.size)[j]? = some r → Value.okWide P W' .any 0 t r) :
    s.post enc P f apart fresh handsOn again W args v W' := by
  have hlt : ∀ p ∈ before, p.block < W.heap.size := fun p hp => hW.lt p hp
  have hold : ∀ p ∈ before, (fun b => decide (b < W.heap.size)) p.block = true := fun p hp => by simpa using hlt p hp
  refine ⟨ds, gs, before, [], pa, pv, hW, hres _ _ _, hargs _ hold, hvars _ hold, World.keptBut_mono (fun p hp => ⟨hp, ?_⟩) (hb.frame (· ∈ before)), fun _ => ?_⟩
  · rw [hps, List.mem_append] at hp
    exact Or.inr hp
  · obtain ⟨_, _, _, _, _, hz, hn⟩ := hW
    refine ⟨hok, _, _, ([] ++ pa) ++ pv, ⟨[] ++ pa, pv, trodAll_append (hargs _ (fun _ _ => rfl)) (hres _ _ _), hvars _ (fun _ _ => rfl), rfl, ?_, ?_⟩, ?_⟩
    · intro b off hp
      have hin : MemPlace.cell b off ∈ before := by rw [hps]; simpa using hp
      rw [hb.frozen (hlt _ hin)]
      exact hz b off hin
    · intro ha
      have := hn ha
      rw [hps] at this
      simpa using this
    · intro p hp _
      rw [hps]
      simpa using hp
end
end Go.RowKit
