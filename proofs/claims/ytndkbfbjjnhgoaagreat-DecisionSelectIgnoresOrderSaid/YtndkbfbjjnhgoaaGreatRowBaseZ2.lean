/- Facts that the rows of this seat share: how the arguments' types read; a world for the witnesses. -/
import Derived.Test.YtndkbfbjjnhgoaaGreatRows
import Derived.Test.YtndkbfbjjnhgoaaGreatF
import Derived.Test.YtndkbfbjjnhgoaaGreatRead
import Derived.WalkKit
import Derived.ProofKit
import Derived.OpenShut
import Derived.Deep.DeepHandedRow
import Derived.Lib.LaidTab
import Derived.LaidOnce
import Derived.LaidMore
set_option maxRecDepth 100000
set_option linter.unusedVariables false
set_option linter.unusedSimpArgs false
namespace Go.PL
open Go Go.ChangeShapes Go.WideShapes Go.Proofs
theorem u3 : Tryz.prog.underlying 3 = some (.int .i64) := by kernel_rfl
theorem u4 : Tryz.prog.underlying 4 = some .bool := by kernel_rfl
theorem c3 : Tryz.prog.cellsOf 3 = 1 := by kernel_rfl
theorem u22 : Tryz.prog.underlying 22 = some (.slice 50) := by kernel_rfl
theorem u23 : Tryz.prog.underlying 23 = some (.slice 28) := by kernel_rfl
theorem c50 : Tryz.prog.cellsOf 50 = 6 := by kernel_rfl
theorem sf50 : (Tryz.prog.fieldsOf 50).map (fun f => (f.type, f.offset)) = #[(3, 0), (3, 1), (3, 2), (3, 3), (3, 4), (3, 5)] := by kernel_rfl
theorem us50 : Tryz.prog.underlying 50 = some (.struct (Tryz.prog.fieldsOf 50)) := by kernel_rfl
theorem c28 : Tryz.prog.cellsOf 28 = 6 := by kernel_rfl
theorem sf28 : (Tryz.prog.fieldsOf 28).map (fun f => (f.type, f.offset)) = #[(3, 0), (3, 1), (3, 2), (3, 3), (3, 4), (3, 5)] := by kernel_rfl
theorem us28 : Tryz.prog.underlying 28 = some (.struct (Tryz.prog.fieldsOf 28)) := by kernel_rfl
/-- Field i of a struct: its type and its offset. -/
theorem field_of {fs : Array Field} {l : Array (TypeId × Nat)} (h : fs.map (fun f => (f.type, f.offset)) = l) {i : Nat} {f : Field} (hf : fs[i]? = some f) : l[i]? = some (f.type, f.offset) := by
  subst h; simp [hf]
theorem fields_all {fs : Array Field} {l : Array (TypeId × Nat)} (h : fs.map (fun f => (f.type, f.offset)) = l) {q : TypeId → Prop} (hq : ∀ x ∈ l, q x.1) : ∀ (i : Nat) (f : Field), fs[i]? = some f → q f.type := by
  intro i f hf
  exact hq _ (Array.mem_of_getElem? (field_of h hf))
section
variable {H : Type} {enc : TypeId × Value → H}
/-- Field i reads as an integer. -/
theorem int_field {fs : Array Field} {l : Array (TypeId × Nat)} (hl : fs.map (fun f => (f.type, f.offset)) = l) {w : World} {base : Nat} {spare : Nat → Bool} {held : Bool} {n : Nat} {cs : List Value} {xs : List (DataW H × List MemPlace)} (hxl : xs.length = fs.size)
    (hx : ∀ (i : Nat) (f : Field), fs[i]? = some f → DataW.trod enc Tryz.prog w base spare held n f.type ((cs.drop f.offset).take (Tryz.prog.cellsOf f.type)) = xs[i]?) {i off : Nat} (hi : l[i]? = some (3, off)) :
    ∃ z, (cs.drop off).take 1 = [.int .i64 z] := by
  subst hl
  obtain ⟨f, hf, he⟩ := Array.getElem?_map.symm.trans hi |> Option.map_eq_some_iff.1
  simp only [Prod.mk.injEq] at he
  have h1 := hx i f hf
  rw [he.1, he.2, c3] at h1
  have hlt : i < xs.length := by rw [hxl]; exact (Array.getElem?_eq_some_iff.1 hf).1
  rw [List.getElem?_eq_getElem hlt] at h1
  obtain ⟨z, h2, h3, _⟩ := DataW.trod_int u3 h1
  exact ⟨z, h2⟩
theorem is3 : IsE enc Tryz.prog 3 (fun x : Int => [.int .i64 x]) := IsE.int u3
theorem flat3 : FlatT enc Tryz.prog 3 := FlatT.int u3
theorem flat50 : FlatT enc Tryz.prog 50 := FlatT.struct us50 (fields_all sf50 (q := fun t => FlatT enc Tryz.prog t) (by intro x hx; simp at hx; rcases hx with rfl | rfl | rfl | rfl | rfl | rfl <;> exact FlatT.int u3))
theorem is50 : IsE enc Tryz.prog 50 pensionhand_Claim.cells := by
  intro w base spare held fuel cs r h
  obtain ⟨xs, n, _, _, hl, hxl, hx⟩ := DataW.trod_struct us50 h
  rw [c50] at hl
  obtain ⟨z0, h0⟩ := int_field sf50 hxl hx (i := 0) rfl
  obtain ⟨z1, h1⟩ := int_field sf50 hxl hx (i := 1) rfl
  obtain ⟨z2, h2⟩ := int_field sf50 hxl hx (i := 2) rfl
  obtain ⟨z3, h3⟩ := int_field sf50 hxl hx (i := 3) rfl
  obtain ⟨z4, h4⟩ := int_field sf50 hxl hx (i := 4) rfl
  obtain ⟨z5, h5⟩ := int_field sf50 hxl hx (i := 5) rfl
  match cs, hl with
  | [a0, a1, a2, a3, a4, a5], _ =>
    simp at h0 h1 h2 h3 h4 h5
    exact ⟨⟨z0, z1, z2, z3, z4, z5⟩, by rw [h0, h1, h2, h3, h4, h5]; rfl⟩
theorem flat28 : FlatT enc Tryz.prog 28 := FlatT.struct us28 (fields_all sf28 (q := fun t => FlatT enc Tryz.prog t) (by intro x hx; simp at hx; rcases hx with rfl | rfl | rfl | rfl | rfl | rfl <;> exact FlatT.int u3))
theorem is28 : IsE enc Tryz.prog 28 Claim.cells := by
  intro w base spare held fuel cs r h
  obtain ⟨xs, n, _, _, hl, hxl, hx⟩ := DataW.trod_struct us28 h
  rw [c28] at hl
  obtain ⟨z0, h0⟩ := int_field sf28 hxl hx (i := 0) rfl
  obtain ⟨z1, h1⟩ := int_field sf28 hxl hx (i := 1) rfl
  obtain ⟨z2, h2⟩ := int_field sf28 hxl hx (i := 2) rfl
  obtain ⟨z3, h3⟩ := int_field sf28 hxl hx (i := 3) rfl
  obtain ⟨z4, h4⟩ := int_field sf28 hxl hx (i := 4) rfl
  obtain ⟨z5, h5⟩ := int_field sf28 hxl hx (i := 5) rfl
  match cs, hl with
  | [a0, a1, a2, a3, a4, a5], _ =>
    simp at h0 h1 h2 h3 h4 h5
    exact ⟨⟨z0, z1, z2, z3, z4, z5⟩, by rw [h0, h1, h2, h3, h4, h5]; rfl⟩
end
theorem rep_len {α : Type} {R : TyR α} {G : Nat → Prop} {w : World} {v : Value} {l : List α} (h : RepSl R G w v l) : l.length ≤ 9223372036854775807 := by
  obtain ⟨a, cap, _, h1, h2⟩ := h.shape
  simp only [maxLen] at h2; omega
/-- A struct that lies whole in its cells. -/
theorem open_flat {H : Type} {enc : TypeId × Value → H} {P : Program} {α : Type} {t : TypeId} {cells : α → List Value} {w : World} {base : Nat} {spare : Nat → Bool} {held : Bool} {cs : Array Value} {d : DataW H} {ps : List MemPlace} (hI : IsE enc P t cells) (hF : FlatT enc P t)
    (h : DataW.Trod enc P w base spare held t (.agg cs) d ps) : ∃ x, cs = (cells x).toArray ∧ ps = [] ∧ ∀ (w' : World) (b' : Nat) (sp' : Nat → Bool) (hd' : Bool), DataW.Trod enc P w' b' sp' hd' t (.agg cs) d [] := by
  obtain ⟨fuel, hf⟩ := h
  obtain ⟨x, hx⟩ := hI _ _ _ _ _ _ _ hf
  obtain ⟨h1, h2⟩ := hF _ _ _ _ _ _ _ hf
  have h1 : ps = [] := h1
  subst h1
  have hx : cs.toList = cells x := hx
  refine ⟨x, by rw [← hx], rfl, fun w' b' sp' hd' => ?_⟩
  obtain ⟨m, hm⟩ := h2 w' b' sp' hd'
  exact ⟨m, hm⟩
/-- A world for the witness: the settled one. -/
noncomputable def laidWorld (os : Os) : World := World.holding Tryz.prog os ⟨#[], #[], []⟩
end Go.PL
namespace Go.RowKit
open Go Go.ChangeShapes Go.WideShapes
section
variable {H : Type} {enc : TypeId × Value → H} {P : Program}
theorem post_of_below {f : Func} {s : ChangeSpec} {apart fresh handsOn again : Bool} {W W' : World} {args : Array Value} {v : Value} {ds gs : List (DataW H)} {before pa pv : List MemPlace}
    (hW : DataW.Whole enc P f.params.toList s.vars apart W args.toList ds gs before)
    (hres : ∀ (b : Nat) (sp : Nat → Bool) (hd : Bool), DataW.TrodAll enc P W' b sp hd f.resultTypes.toList (v.resultList f.resultTypes.size) (s.fn H (ds ++ gs)).results [])
    (hargs : ∀ sp : Nat → Bool, (∀ p ∈ before, sp p.block = true) → DataW.TrodAll enc P W' 0 sp true f.params.toList args.toList (s.fn H (ds ++ gs)).args pa)
    (hvars : ∀ sp : Nat → Bool, (∀ p ∈ before, sp p.block = true) → DataW.TrodVars enc P W' sp s.vars (s.fn H (ds ++ gs)).vars pv)
    (hps : before = pa ++ pv) (hb : Below W.heap.size W W')
    (hok : ∀ (j : Nat) (t : TypeId) (r : Value), f.resultTypes[j]? = some t → (v.resultList f.resultTypes.size)[j]? = some r → Value.okWide P W' .any 0 t r) :
    s.post enc P f apart fresh handsOn again W args v W' := by
  have hlt : ∀ p ∈ before, p.block < W.heap.size := fun p hp => hW.lt p hp
  have hold : ∀ p ∈ before, (fun b => decide (b < W.heap.size)) p.block = true := fun p hp => by simpa using hlt p hp
  refine ⟨ds, gs, before, [], pa, pv, hW, hres _ _ _, hargs _ hold, hvars _ hold, World.keptBut_mono (fun p hp => ⟨hp, ?_⟩) (hb.frame (· ∈ before)), fun _ => ?_⟩
  · rw [hps, List.mem_append] at hp
    exact Or.inr hp
  · obtain ⟨_, _, _, _, _, hz, hn⟩ := hW
    refine ⟨hok, _, _, ([] ++ pa) ++ pv, ⟨[] ++ pa, pv, trodAll_append (hargs _ (fun _ _ => rfl)) (hres _ _ _), hvars _ (fun _ _ => rfl), rfl, ?_, ?_⟩, ?_⟩
    · intro b off hp
      have hin : MemPlace.cell b off ∈ before := by rw [hps]; simpa using hp
      rw [hb.frozen (hlt _ hin)]
      exact hz b off hin
    · intro ha
      have := hn ha
      rw [hps] at this
      simpa using this
    · intro p hp _
      rw [hps]
      simpa using hp
end
end Go.RowKit
