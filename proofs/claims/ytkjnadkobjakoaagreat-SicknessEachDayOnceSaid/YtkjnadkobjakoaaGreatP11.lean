/- Texts of the proof, joined. -/
import Derived.Test.YtkjnadkobjakoaaGreatP9
import Derived.Test.YtkjnadkobjakoaaGreatP10
import Derived.Test.YtkjnadkobjakoaaGreatRows
set_option linter.unusedVariables false
set_option linter.unusedSimpArgs false
set_option maxRecDepth 100000
namespace Go.Proofs.YtkjnadkobjakoaaGreat.sicknessEachDayOnce
open Go Go.ChangeShapes Go.WideShapes Go.ChangeAt Go.RowKit Go.PL Go.SX
theorem u_22 : Tryz.prog.underlying 22 = some (.slice 3) := by kernel_rfl
theorem u_3 : Tryz.prog.underlying 3 = some (.int .i64) := by kernel_rfl
theorem rd_3 : RdT Tryz.prog VV 3 .z4 := RdT.one (U := VV) (c := .z4) uok (RdA.int (u_3)) fun a ⟨z, h⟩ => ⟨(z : Int), by subst h; rfl⟩
theorem u_23 : Tryz.prog.underlying 23 = some (.slice 75) := by kernel_rfl
theorem u_4 : Tryz.prog.underlying 4 = some (.bool) := by kernel_rfl
theorem u_75 : Tryz.prog.underlying 75 = some (.struct (Tryz.prog.fieldsOf 75)) := by kernel_rfl
theorem f7o : RdQ Tryz.prog VV 75 .zr (fun (x : pensionhand_Fact) => True) := RdQ.str (U := VV) (c := .zr) uok (u_75) (by kernel_rfl) (by kernel_rfl) (ts := [3, 3, 3, 4, 3, 3, 3, 3, 3, 3, 3, 3, 3]) (by kernel_rfl) (Ss := [isI .i64, isI .i64, isI .i64, isB, isI .i64, isI .i64, isI .i64, isI .i64, isI .i64, isI .i64, isI .i64, isI .i64, isI .i64])
  ⟨RdA.int (u_3), RdA.int (u_3), RdA.int (u_3), RdA.bool (u_4), RdA.int (u_3), RdA.int (u_3), RdA.int (u_3), RdA.int (u_3), RdA.int (u_3), RdA.int (u_3), RdA.int (u_3), RdA.int (u_3), RdA.int (u_3), trivial⟩ (fun zs h0 => by
    obtain ⟨a0, r0, rfl, ⟨z0, rfl⟩, h1⟩ := a5f h0
    obtain ⟨a1, r1, rfl, ⟨z1, rfl⟩, h2⟩ := a5f h1
    obtain ⟨a2, r2, rfl, ⟨z2, rfl⟩, h3⟩ := a5f h2
    obtain ⟨a3, r3, rfl, ⟨z3, rfl⟩, h4⟩ := a5f h3
    obtain ⟨a4, r4, rfl, ⟨z4, rfl⟩, h5⟩ := a5f h4
    obtain ⟨a5, r5, rfl, ⟨z5, rfl⟩, h6⟩ := a5f h5
    obtain ⟨a6, r6, rfl, ⟨z6, rfl⟩, h7⟩ := a5f h6
    obtain ⟨a7, r7, rfl, ⟨z7, rfl⟩, h8⟩ := a5f h7
    obtain ⟨a8, r8, rfl, ⟨z8, rfl⟩, h9⟩ := a5f h8
    obtain ⟨a9, r9, rfl, ⟨z9, rfl⟩, h10⟩ := a5f h9
    obtain ⟨a10, r10, rfl, ⟨z10, rfl⟩, h11⟩ := a5f h10
    obtain ⟨a11, r11, rfl, ⟨z11, rfl⟩, h12⟩ := a5f h11
    obtain ⟨a12, r12, rfl, ⟨z12, rfl⟩, h13⟩ := a5f h12
    obtain rfl := e62 h13
    exact ⟨(⟨z0, z1, z2, z3, z4, z5, z6, z7, z8, z9, z10, z11, z12⟩ : pensionhand_Fact), trivial, rfl⟩)
theorem own : ownKnob Tryz.prog.godebug = none := by kernel_rfl
theorem f06 : laidOutB Tryz.prog = true := by kernel_rfl
theorem e4f (H : Type) (enc : TypeId × Value -> H) (W : World) (base : Nat) (args : Array Value) (ds gs : List (DataW H)) (before : List MemPlace)
    (hval : ∀ (j : Nat) t v, Tryz.f3.params[j]? = some t -> args[j]? = some v -> Value.okWide Tryz.prog W .any base t v)
    (hW : DataW.Whole enc Tryz.prog Tryz.f3.params.toList Rows.sicknessEachDayOnceSpec.vars false W args.toList ds gs before) :
    Calls Tryz.prog 3 args W fun e W' => ∃ v, e = .returned v /\ Rows.sicknessEachDayOnceSpec.post enc Tryz.prog Tryz.f3 false true false false W args v W' :=
  e5a uok ok_3 (b := true) (fun xs hq => b3z xs.1 xs.2.1 xs.2.2.1 xs.2.2.2.1 hq.1 hq.2.1 hq.2.2.1) (fun X vs h => match vs, h with | [u], ⟨h1, _⟩ => by rw [show u = _ from h1]) (fn := Tryz.f3)
    (show d33 Tryz.prog VV Tryz.f3.params.toList f1k.ps _ from (show Tryz.f3.params.toList = [22, 22, 23, 3] from by kernel_rfl) ▸ d33.cons (RdP.slice (u_22) (rd_3) (by kernel_rfl) (by decide)) (d33.cons (RdP.slice (u_22) (rd_3) (by kernel_rfl) (by decide)) (d33.cons (RdP.slice (u_23) (f7o) (by kernel_rfl) (by decide)) (d33.cons (RdP.int (U := VV) (c := .z4) (u_3) fun z => ⟨(z : Int), rfl⟩) (d33.nil))))) (by kernel_rfl) f06
    (by rw [show Tryz.f3.params.toList = [22, 22, 23, 3] from by kernel_rfl]; intro t ht; simp only [qO, List.mem_nil_iff, or_false] at ht; rcases ht with rfl | rfl | rfl | rfl <;> exact ⟨by kernel_rfl, of_decide_eq_true (by kernel_rfl)⟩)
    (tb := 4) (by kernel_rfl) u_4 rfl (fun ds hd => match ds, hd with | [d0, d1, d2, d3], _ => ⟨rfl, rfl, rfl⟩) enc W base args ds gs before ⟨trivial, fun _ h => False.elim h⟩ hval hW
theorem e3z (os : Os) : laidMet Tryz.prog Rows.sicknessEachDayOnceRow.laid ((laidWorld Tryz.prog os).forCall (fun _ _ => 0) ⟨#[], #[.slice none 0 0, .slice none 0 0, .slice none 0 0, .int .i64 0], []⟩).memory :=
  laidMet_of_run' 8 (by kernel_rfl) (by kernel_rfl)
theorem f8l (os : Os) {H : Type} (enc : TypeId × Value -> H) : ∃ places, DataW.whole enc Tryz.prog ((laidWorld Tryz.prog os).forCall (fun _ _ => 0) ⟨#[], #[.slice none 0 0, .slice none 0 0, .slice none 0 0, .int .i64 0], []⟩).memory Tryz.f3.params.toList Rows.sicknessEachDayOnceSpec.vars false #[Value.slice none 0 0, .slice none 0 0, .slice none 0 0, .int .i64 0].toList 8 = some ([.nil, .nil, .nil, .lit (.int .i64 0)], [], places) :=
  ⟨[], by kernel_rfl⟩
theorem f3u (os : Os) (started : os.Started) (H : Type) (enc : TypeId × Value -> H) (F : Stop.Interp) :
    ReturnsInHanded Rows.sicknessEachDayOnceRow.assume Tryz.checked os 3 .any ((OpenSpec.ofChange Rows.sicknessEachDayOnceSpec).preRow enc Tryz.prog Tryz.f3 Rows.sicknessEachDayOnceRow.domain false Rows.sicknessEachDayOnceRow.laid) (((OpenSpec.ofChange Rows.sicknessEachDayOnceSpec).at F).post enc Tryz.prog Tryz.f3 false true false false) := by
  obtain ⟨places, hx⟩ := f8l os enc
  refine returnsInHanded_of_row (C := Tryz.checked) (s := OpenSpec.ofChange Rows.sicknessEachDayOnceSpec) own started (by kernel_rfl) Tryz.func3
    (witness_row_at (enc := enc) (C := Tryz.checked) false (laidWorld Tryz.prog os) #[.slice none 0 0, .slice none 0 0, .slice none 0 0, .int .i64 0] rfl (by kernel_rfl) (by kernel_rfl) (by kernel_rfl)
      (OpenSpec.preRow_of_cond 8 hx (by kernel_rfl) (fun k hk => by cases hk) (by kernel_rfl) (e3z os))) ?_
  intro W base args ds gs before hval hW _ _ _ _ _ _
  exact e4f H enc W base args ds gs before hval hW
theorem said : Rows.SicknessEachDayOnceSaid :=
  OpenClaim.holds_of_cond 3 Tryz.f3 rfl rfl rfl rfl rfl rfl rfl ⟨rfl, rfl, rfl, rfl, rfl⟩ rfl rfl rfl rfl rfl named Tryz.func3 f5f inst wrap
    (fun os started H enc _ F => by rw [OpenClaim.pre_eq_preRow]; exact f3u os started H enc F)
end Go.Proofs.YtkjnadkobjakoaaGreat.sicknessEachDayOnce
