/- Facts that the rows of this seat share: how the arguments' types read; a world for the witnesses. -/
import Derived.Test.YtndkbfbjjnhgoaaGreatDoorCards
import Derived.Test.YtndkbfbjjnhgoaaGreatDoorTie
import Derived.Test.YtndkbfbjjnhgoaaGreatDoorF
import Derived.Test.YtndkbfbjjnhgoaaGreatDoorRead
import Derived.WalkKit
import Derived.ProofKit
import Derived.OpenShut
import Derived.Deep.DeepHandedRow
import Derived.Lib.LaidTab
import Derived.LaidOnce
import Derived.LaidMore
set_option maxRecDepth 100000
set_option linter.unusedVariables false
set_option linter.unusedSimpArgs false
namespace Go.PL
open Go Go.ChangeShapes Go.WideShapes Go.Proofs
theorem u3 : Tryz.prog.underlying 3 = some (.int .i64) := by kernel_rfl
theorem u4 : Tryz.prog.underlying 4 = some .bool := by kernel_rfl
theorem c3 : Tryz.prog.cellsOf 3 = 1 := by kernel_rfl
theorem u22 : Tryz.prog.underlying 22 = some (.slice 3) := by kernel_rfl
theorem u23 : Tryz.prog.underlying 23 = some (.slice 41) := by kernel_rfl
theorem c41 : Tryz.prog.cellsOf 41 = 13 := by kernel_rfl
theorem sf41 : (Tryz.prog.fieldsOf 41).map (fun f => (f.type, f.offset)) = #[(3, 0), (3, 1), (3, 2), (4, 3), (3, 4), (3, 5), (3, 6), (3, 7), (3, 8), (3, 9), (3, 10), (3, 11), (3, 12)] := by kernel_rfl
theorem us41 : Tryz.prog.underlying 41 = some (.struct (Tryz.prog.fieldsOf 41)) := by kernel_rfl
theorem c82 : Tryz.prog.cellsOf 82 = 2 := by kernel_rfl
theorem sf82 : (Tryz.prog.fieldsOf 82).map (fun f => (f.type, f.offset)) = #[(3, 0), (3, 1)] := by kernel_rfl
theorem us82 : Tryz.prog.underlying 82 = some (.struct (Tryz.prog.fieldsOf 82)) := by kernel_rfl
/-- Field i of a struct: its type and its offset. -/
theorem field_of {fs : Array Field} {l : Array (TypeId × Nat)} (h : fs.map (fun f => (f.type, f.offset)) = l) {i : Nat} {f : Field} (hf : fs[i]? = some f) : l[i]? = some (f.type, f.offset) := by
  subst h; simp [hf]
theorem fields_all {fs : Array Field} {l : Array (TypeId × Nat)} (h : fs.map (fun f => (f.type, f.offset)) = l) {q : TypeId → Prop} (hq : ∀ x ∈ l, q x.1) : ∀ (i : Nat) (f : Field), fs[i]? = some f → q f.type := by
  intro i f hf
  exact hq _ (Array.mem_of_getElem? (field_of h hf))
section
variable {H : Type} {enc : TypeId × Value → H}
/-- Field i reads as an integer. -/
theorem int_field2 {fs : Array Field} {l : Array (TypeId × Nat)} (hl : fs.map (fun f => (f.type, f.offset)) = l) {w : World} {base : Nat} {spare : Nat → Bool} {held : Bool} {n : Nat} {cs : List Value} {xs : List (DataW H × List MemPlace)} (hxl : xs.length = fs.size)
    (hx : ∀ (i : Nat) (f : Field), fs[i]? = some f → DataW.trod enc Tryz.prog w base spare held n f.type ((cs.drop f.offset).take (Tryz.prog.cellsOf f.type)) = xs[i]?) {i off : Nat} (hi : l[i]? = some (3, off)) :
    ∃ z, (cs.drop off).take 1 = [.int .i64 z] ∧ (xs.map (·.1))[i]? = some (.lit (.int .i64 z)) := by
  subst hl
  obtain ⟨f, hf, he⟩ := Array.getElem?_map.symm.trans hi |> Option.map_eq_some_iff.1
  simp only [Prod.mk.injEq] at he
  have h1 := hx i f hf
  rw [he.1, he.2, c3] at h1
  have hlt : i < xs.length := by rw [hxl]; exact (Array.getElem?_eq_some_iff.1 hf).1
  rw [List.getElem?_eq_getElem hlt] at h1
  obtain ⟨z, h2, h3, _⟩ := DataW.trod_int u3 h1
  refine ⟨z, h2, ?_⟩
  rw [List.getElem?_map, List.getElem?_eq_getElem hlt, h3]; rfl
/-- Field i reads as an integer. -/
theorem int_field {fs : Array Field} {l : Array (TypeId × Nat)} (hl : fs.map (fun f => (f.type, f.offset)) = l) {w : World} {base : Nat} {spare : Nat → Bool} {held : Bool} {n : Nat} {cs : List Value} {xs : List (DataW H × List MemPlace)} (hxl : xs.length = fs.size)
    (hx : ∀ (i : Nat) (f : Field), fs[i]? = some f → DataW.trod enc Tryz.prog w base spare held n f.type ((cs.drop f.offset).take (Tryz.prog.cellsOf f.type)) = xs[i]?) {i off : Nat} (hi : l[i]? = some (3, off)) :
    ∃ z, (cs.drop off).take 1 = [.int .i64 z] := by
  subst hl
  obtain ⟨f, hf, he⟩ := Array.getElem?_map.symm.trans hi |> Option.map_eq_some_iff.1
  simp only [Prod.mk.injEq] at he
  have h1 := hx i f hf
  rw [he.1, he.2, c3] at h1
  have hlt : i < xs.length := by rw [hxl]; exact (Array.getElem?_eq_some_iff.1 hf).1
  rw [List.getElem?_eq_getElem hlt] at h1
  obtain ⟨z, h2, h3, _⟩ := DataW.trod_int u3 h1
  exact ⟨z, h2⟩
/-- Field i reads as a Boolean. -/
theorem bool_field {fs : Array Field} {l : Array (TypeId × Nat)} (hl : fs.map (fun f => (f.type, f.offset)) = l) {w : World} {base : Nat} {spare : Nat → Bool} {held : Bool} {n : Nat} {cs : List Value} {xs : List (DataW H × List MemPlace)} (hxl : xs.length = fs.size)
    (hx : ∀ (i : Nat) (f : Field), fs[i]? = some f → DataW.trod enc Tryz.prog w base spare held n f.type ((cs.drop f.offset).take (Tryz.prog.cellsOf f.type)) = xs[i]?) {i off : Nat} (hi : l[i]? = some (4, off)) :
    ∃ z, (cs.drop off).take 1 = [.bool z] := by
  subst hl
  obtain ⟨f, hf, he⟩ := Array.getElem?_map.symm.trans hi |> Option.map_eq_some_iff.1
  simp only [Prod.mk.injEq] at he
  have h1 := hx i f hf
  rw [he.1, he.2, show Tryz.prog.cellsOf 4 = 1 by kernel_rfl] at h1
  have hlt : i < xs.length := by rw [hxl]; exact (Array.getElem?_eq_some_iff.1 hf).1
  rw [List.getElem?_eq_getElem hlt] at h1
  obtain ⟨z, h2, h3⟩ := DataW.trod_bool u4 h1
  exact ⟨z, h2⟩
theorem is3 : IsE enc Tryz.prog 3 (fun x : Int => [.int .i64 x]) := IsE.int u3
theorem flat3 : FlatT enc Tryz.prog 3 := FlatT.int u3
theorem flat41 : FlatT enc Tryz.prog 41 := FlatT.struct us41 (fields_all sf41 (q := fun t => FlatT enc Tryz.prog t) (by intro x hx; simp at hx; rcases hx with rfl | rfl | rfl | rfl | rfl | rfl | rfl | rfl | rfl | rfl | rfl | rfl | rfl <;> first | exact FlatT.int u3 | exact FlatT.bool u4))
theorem is41 : IsE enc Tryz.prog 41 pensionhand_Fact.cells := by
  intro w base spare held fuel cs r h
  obtain ⟨xs, n, _, _, hl, hxl, hx⟩ := DataW.trod_struct us41 h
  rw [c41] at hl
  obtain ⟨z0, h0⟩ := int_field sf41 hxl hx (i := 0) rfl
  obtain ⟨z1, h1⟩ := int_field sf41 hxl hx (i := 1) rfl
  obtain ⟨z2, h2⟩ := int_field sf41 hxl hx (i := 2) rfl
  obtain ⟨z3, h3⟩ := bool_field sf41 hxl hx (i := 3) rfl
  obtain ⟨z4, h4⟩ := int_field sf41 hxl hx (i := 4) rfl
  obtain ⟨z5, h5⟩ := int_field sf41 hxl hx (i := 5) rfl
  obtain ⟨z6, h6⟩ := int_field sf41 hxl hx (i := 6) rfl
  obtain ⟨z7, h7⟩ := int_field sf41 hxl hx (i := 7) rfl
  obtain ⟨z8, h8⟩ := int_field sf41 hxl hx (i := 8) rfl
  obtain ⟨z9, h9⟩ := int_field sf41 hxl hx (i := 9) rfl
  obtain ⟨z10, h10⟩ := int_field sf41 hxl hx (i := 10) rfl
  obtain ⟨z11, h11⟩ := int_field sf41 hxl hx (i := 11) rfl
  obtain ⟨z12, h12⟩ := int_field sf41 hxl hx (i := 12) rfl
  match cs, hl with
  | [a0, a1, a2, a3, a4, a5, a6, a7, a8, a9, a10, a11, a12], _ =>
    simp at h0 h1 h2 h3 h4 h5 h6 h7 h8 h9 h10 h11 h12
    exact ⟨⟨z0, z1, z2, z3, z4, z5, z6, z7, z8, z9, z10, z11, z12⟩, by rw [h0, h1, h2, h3, h4, h5, h6, h7, h8, h9, h10, h11, h12]; rfl⟩
theorem flat82 : FlatT enc Tryz.prog 82 := FlatT.struct us82 (fields_all sf82 (q := fun t => FlatT enc Tryz.prog t) (by intro x hx; simp at hx; rcases hx with rfl | rfl <;> first | exact FlatT.int u3 | exact FlatT.bool u4))
theorem is82 : IsE enc Tryz.prog 82 Rounding.cells := by
  intro w base spare held fuel cs r h
  obtain ⟨xs, n, _, _, hl, hxl, hx⟩ := DataW.trod_struct us82 h
  rw [c82] at hl
  obtain ⟨z0, h0⟩ := int_field sf82 hxl hx (i := 0) rfl
  obtain ⟨z1, h1⟩ := int_field sf82 hxl hx (i := 1) rfl
  match cs, hl with
  | [a0, a1], _ =>
    simp at h0 h1
    exact ⟨⟨z0, z1⟩, by rw [h0, h1]; rfl⟩
end
theorem rep_len {α : Type} {R : TyR α} {G : Nat → Prop} {w : World} {v : Value} {l : List α} (h : RepSl R G w v l) : l.length ≤ 9223372036854775807 := by
  obtain ⟨a, cap, _, h1, h2⟩ := h.shape
  simp only [maxLen] at h2; omega
/-- A struct that lies whole in its cells. -/
theorem open_flat {H : Type} {enc : TypeId × Value → H} {P : Program} {α : Type} {t : TypeId} {cells : α → List Value} {w : World} {base : Nat} {spare : Nat → Bool} {held : Bool} {cs : Array Value} {d : DataW H} {ps : List MemPlace} (hI : IsE enc P t cells) (hF : FlatT enc P t)
    (h : DataW.Trod enc P w base spare held t (.agg cs) d ps) : ∃ x, cs = (cells x).toArray ∧ ps = [] ∧ ∀ (w' : World) (b' : Nat) (sp' : Nat → Bool) (hd' : Bool), DataW.Trod enc P w' b' sp' hd' t (.agg cs) d [] := by
  obtain ⟨fuel, hf⟩ := h
  obtain ⟨x, hx⟩ := hI _ _ _ _ _ _ _ hf
  obtain ⟨h1, h2⟩ := hF _ _ _ _ _ _ _ hf
  have h1 : ps = [] := h1
  subst h1
  have hx : cs.toList = cells x := hx
  refine ⟨x, by rw [← hx], rfl, fun w' b' sp' hd' => ?_⟩
  obtain ⟨m, hm⟩ := h2 w' b' sp' hd'
  exact ⟨m, hm⟩
theorem gDown : Tryz.prog.globalNamed "pension/family.down" = some 0 := by kernel_rfl
theorem gDownT : (Tryz.prog.globals[0]?).map (·.type) = some 82 := by kernel_rfl
theorem down_cells {W : World} (h : laidMetH Tryz.prog YtndkbfbjjnhgoaaGreatDoor.Rows.familyParentsAgreeRow.laid W) : GR [.int .i64 1, .int .i64 1] noG W 0 := by
  rw [MakeChecks.laidMetH_plain _ _ _ (by kernel_rfl)] at h
  obtain ⟨ps, ⟨g, t, cs, fuel, p, q, hg, ht, hv, hd, _, _⟩, _, _⟩ := h
  obtain rfl := Option.some.inj (gDown.symm.trans hg)
  obtain rfl := Option.some.inj (gDownT.symm.trans ht)
  obtain ⟨xs, n, _, hr, hl, hxl, hx⟩ := DataW.trod_struct us82 hd
  rw [c82] at hl
  obtain ⟨z0, h0, k0⟩ := int_field2 sf82 hxl hx (i := 0) rfl
  obtain ⟨z1, h1, k1⟩ := int_field2 sf82 hxl hx (i := 1) rfl
  have e3 : xs.map (·.1) = [.lit (.int .i64 1), .lit (.int .i64 1)] := (DataW.agg.inj (Prod.mk.inj hr).1).symm
  rw [e3] at k0 k1
  obtain rfl : z0 = 1 := by simpa using k0.symm
  obtain rfl : z1 = 1 := by simpa using k1.symm
  have hcs : cs.toList = [.int .i64 1, .int .i64 1] := by
    generalize cs.toList = l at *
    match l, hl with
    | [a, b], _ => simp at h0 h1; rw [h0, h1]
  have hcell : ∀ i, W.cell? ⟨0, i, none⟩ = cs[i]? := fun i => World.var?_cell gDown hv i
  have hca : CA W ⟨0, 0, none⟩ [.int .i64 1, .int .i64 1] := by
    intro j v hj
    have ha : (⟨0, 0, none⟩ : Addr).add j = ⟨0, j, none⟩ := by unfold Addr.add; split <;> simp_all
    rw [ha, hcell j, ← Array.getElem?_toList, hcs]; exact hj
  exact ⟨cell_lt (hca 0 _ rfl), fun h => h, hca⟩
/-- A world for the witness: the settled one, the variable (block 0) holding what its initialiser lays. -/
noncomputable def laidWorld (os : Os) : World :=
  { World.holding Tryz.prog os ⟨#[], #[], []⟩ with heap := (World.holding Tryz.prog os ⟨#[], #[], []⟩).heap.modify 0 fun
      | .cells _ t frozen => .cells #[.int .i64 1, .int .i64 1] t frozen
      | o => o }
end Go.PL
namespace Go.RowKit
open Go Go.ChangeShapes Go.WideShapes
section
variable {H : Type} {enc : TypeId × Value → H} {P : Program}
theorem post_of_below {f : Func} {s : ChangeSpec} {apart fresh handsOn again : Bool} {W W' : World} {args : Array Value} {v : Value} {ds gs : List (DataW H)} {before pa pv : List MemPlace}
    (hW : DataW.Whole enc P f.params.toList s.vars apart W args.toList ds gs before)
    (hres : ∀ (b : Nat) (sp : Nat → Bool) (hd : Bool), DataW.TrodAll enc P W' b sp hd f.resultTypes.toList (v.resultList f.resultTypes.size) (s.fn H (ds ++ gs)).results [])
    (hargs : ∀ sp : Nat → Bool, (∀ p ∈ before, sp p.block = true) → DataW.TrodAll enc P W' 0 sp true f.params.toList args.toList (s.fn H (ds ++ gs)).args pa)
    (hvars : ∀ sp : Nat → Bool, (∀ p ∈ before, sp p.block = true) → DataW.TrodVars enc P W' sp s.vars (s.fn H (ds ++ gs)).vars pv)
    (hps : before = pa ++ pv) (hb : Below W.heap.size W W')
    (hok : ∀ (j : Nat) (t : TypeId) (r : Value), f.resultTypes[j]? = some t → (v.resultList f.resultTypes.size)[j]? = some r → Value.okWide P W' .any 0 t r) :
    s.post enc P f apart fresh handsOn again W args v W' := by
  have hlt : ∀ p ∈ before, p.block < W.heap.size := fun p hp => hW.lt p hp
  have hold : ∀ p ∈ before, (fun b => decide (b < W.heap.size)) p.block = true := fun p hp => by simpa using hlt p hp
  refine ⟨ds, gs, before, [], pa, pv, hW, hres _ _ _, hargs _ hold, hvars _ hold, World.keptBut_mono (fun p hp => ⟨hp, ?_⟩) (hb.frame (· ∈ before)), fun _ => ?_⟩
  · rw [hps, List.mem_append] at hp
    exact Or.inr hp
  · obtain ⟨_, _, _, _, _, hz, hn⟩ := hW
    refine ⟨hok, _, _, ([] ++ pa) ++ pv, ⟨[] ++ pa, pv, trodAll_append (hargs _ (fun _ _ => rfl)) (hres _ _ _), hvars _ (fun _ _ => rfl), rfl, ?_, ?_⟩, ?_⟩
    · intro b off hp
      have hin : MemPlace.cell b off ∈ before := by rw [hps]; simpa using hp
      rw [hb.frozen (hlt _ hin)]
      exact hz b off hin
    · intro ha
      have := hn ha
      rw [hps] at this
      simpa using this
    · intro p hp _
      rw [hps]
      simpa using hp
end
end Go.RowKit
