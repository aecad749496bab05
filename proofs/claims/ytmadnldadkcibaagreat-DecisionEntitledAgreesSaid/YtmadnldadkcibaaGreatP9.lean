/- The statement DecisionEntitledAgrees holds: its row; for every argument whatever. -/
import Derived.Test.YtmadnldadkcibaaGreatP8
import Derived.Test.YtmadnldadkcibaaGreatRows
set_option linter.unusedVariables false
set_option linter.unusedSimpArgs false
set_option maxRecDepth 100000
namespace Go.Proofs.YtmadnldadkcibaaGreat.decisionEntitledAgrees
open Go Go.ChangeShapes Go.WideShapes Go.ChangeAt Go.RowKit Go.PL Go.SX
theorem u_26 : Tryz.prog.underlying 26 = some (.struct (Tryz.prog.fieldsOf 26)) := by kernel_rfl
theorem u_3 : Tryz.prog.underlying 3 = some (.int .i64) := by kernel_rfl
theorem rd_3 : RdT Tryz.prog VV 3 .c_i64 := RdT.one (U := VV) (c := .c_i64) uok (RdA.int (u_3)) fun a ⟨z, h⟩ => ⟨(z : Int), by subst h; rfl⟩
theorem u_22 : Tryz.prog.underlying 22 = some (.slice 3) := by kernel_rfl
theorem u_4 : Tryz.prog.underlying 4 = some (.bool) := by kernel_rfl
theorem ags : Tryz.prog.underlying 101 = some (.struct (Tryz.prog.fieldsOf 101)) := by kernel_rfl
theorem ael : RdQ Tryz.prog VV 101 .c_spensionhand_Fact (fun (x : pensionhand_Fact) => True) := RdQ.str (U := VV) (c := .c_spensionhand_Fact) uok (ags) (by kernel_rfl) (by kernel_rfl) (ts := [3, 3, 3, 4, 3, 3, 3, 3, 3, 3, 3, 3, 3]) (by kernel_rfl) (Ss := [isI .i64, isI .i64, isI .i64, isB, isI .i64, isI .i64, isI .i64, isI .i64, isI .i64, isI .i64, isI .i64, isI .i64, isI .i64])
  ⟨RdA.int (u_3), RdA.int (u_3), RdA.int (u_3), RdA.bool (u_4), RdA.int (u_3), RdA.int (u_3), RdA.int (u_3), RdA.int (u_3), RdA.int (u_3), RdA.int (u_3), RdA.int (u_3), RdA.int (u_3), RdA.int (u_3), trivial⟩ (fun zs h0 => by
    obtain ⟨a0, r0, rfl, ⟨z0, rfl⟩, h1⟩ := dw h0
    obtain ⟨a1, r1, rfl, ⟨z1, rfl⟩, h2⟩ := dw h1
    obtain ⟨a2, r2, rfl, ⟨z2, rfl⟩, h3⟩ := dw h2
    obtain ⟨a3, r3, rfl, ⟨z3, rfl⟩, h4⟩ := dw h3
    obtain ⟨a4, r4, rfl, ⟨z4, rfl⟩, h5⟩ := dw h4
    obtain ⟨a5, r5, rfl, ⟨z5, rfl⟩, h6⟩ := dw h5
    obtain ⟨a6, r6, rfl, ⟨z6, rfl⟩, h7⟩ := dw h6
    obtain ⟨a7, r7, rfl, ⟨z7, rfl⟩, h8⟩ := dw h7
    obtain ⟨a8, r8, rfl, ⟨z8, rfl⟩, h9⟩ := dw h8
    obtain ⟨a9, r9, rfl, ⟨z9, rfl⟩, h10⟩ := dw h9
    obtain ⟨a10, r10, rfl, ⟨z10, rfl⟩, h11⟩ := dw h10
    obtain ⟨a11, r11, rfl, ⟨z11, rfl⟩, h12⟩ := dw h11
    obtain ⟨a12, r12, rfl, ⟨z12, rfl⟩, h13⟩ := dw h12
    obtain rfl := P2 h13
    exact ⟨(⟨z0, z1, z2, z3, z4, z5, z6, z7, z8, z9, z10, z11, z12⟩ : pensionhand_Fact), trivial, rfl⟩)
theorem u_23 : Tryz.prog.underlying 23 = some (.slice 101) := by kernel_rfl
theorem ah4 : Tryz.prog.underlying 124 = some (.struct (Tryz.prog.fieldsOf 124)) := by kernel_rfl
theorem af6 : RdQ Tryz.prog VV 124 .c_spensionhand_Claim (fun (x : pensionhand_Claim) => True) := RdQ.str (U := VV) (c := .c_spensionhand_Claim) uok (ah4) (by kernel_rfl) (by kernel_rfl) (ts := [3, 3, 3, 3, 3, 3]) (by kernel_rfl) (Ss := [isI .i64, isI .i64, isI .i64, isI .i64, isI .i64, isI .i64])
  ⟨RdA.int (u_3), RdA.int (u_3), RdA.int (u_3), RdA.int (u_3), RdA.int (u_3), RdA.int (u_3), trivial⟩ (fun zs h0 => by
    obtain ⟨a0, r0, rfl, ⟨z0, rfl⟩, h1⟩ := dw h0
    obtain ⟨a1, r1, rfl, ⟨z1, rfl⟩, h2⟩ := dw h1
    obtain ⟨a2, r2, rfl, ⟨z2, rfl⟩, h3⟩ := dw h2
    obtain ⟨a3, r3, rfl, ⟨z3, rfl⟩, h4⟩ := dw h3
    obtain ⟨a4, r4, rfl, ⟨z4, rfl⟩, h5⟩ := dw h4
    obtain ⟨a5, r5, rfl, ⟨z5, rfl⟩, h6⟩ := dw h5
    obtain rfl := P2 h6
    exact ⟨(⟨z0, z1, z2, z3, z4, z5⟩ : pensionhand_Claim), trivial, rfl⟩)
theorem u_24 : Tryz.prog.underlying 24 = some (.slice 124) := by kernel_rfl
theorem ahn : RdQ Tryz.prog VV 26 .c_spensionlaw26_Seeds (fun (x : pensionlaw26_Seeds) => x.Laws.length ≤ 9223372036854775807 ∧ x.Lives.length ≤ 9223372036854775807 ∧ x.Facts.length ≤ 9223372036854775807 ∧ x.Claims.length ≤ 9223372036854775807) := RdQ.str (U := VV) (c := .c_spensionlaw26_Seeds) uok (u_26) (by kernel_rfl) (by kernel_rfl) (ts := [22, 22, 23, 24, 3]) (by kernel_rfl) (Ss := [isL (U := VV) .c_i64, isL (U := VV) .c_i64, isL (U := VV) .c_spensionhand_Fact, isL (U := VV) .c_spensionhand_Claim, isI .i64])
  ⟨RdA.slice (rd_3) (by kernel_rfl) (by decide) (u_22), RdA.slice (rd_3) (by kernel_rfl) (by decide) (u_22), RdA.slice (ael) (by kernel_rfl) (by decide) (u_23), RdA.slice (af6) (by kernel_rfl) (by decide) (u_24), RdA.int (u_3), trivial⟩ (fun zs h0 => by
    obtain ⟨a0, r0, rfl, ⟨z0, k0, rfl⟩, h1⟩ := dw h0
    obtain ⟨a1, r1, rfl, ⟨z1, k1, rfl⟩, h2⟩ := dw h1
    obtain ⟨a2, r2, rfl, ⟨z2, k2, rfl⟩, h3⟩ := dw h2
    obtain ⟨a3, r3, rfl, ⟨z3, k3, rfl⟩, h4⟩ := dw h3
    obtain ⟨a4, r4, rfl, ⟨z4, rfl⟩, h5⟩ := dw h4
    obtain rfl := P2 h5
    exact ⟨(⟨z0, z1, z2, z3, z4⟩ : pensionlaw26_Seeds), ⟨k0, k1, k2, k3⟩, rfl⟩)
theorem own : ownKnob Tryz.prog.godebug = none := by kernel_rfl
theorem abf : laidOutB Tryz.prog = true := by kernel_rfl
theorem a62 (H : Type) (enc : TypeId × Value → H) (W : World) (base : Nat) (args : Array Value) (ds gs : List (DataW H)) (before : List MemPlace)
    (hval : ∀ (j : Nat) t v, Tryz.f3.params[j]? = some t → args[j]? = some v → Value.okWide Tryz.prog W .any base t v)
    (hW : DataW.Whole enc Tryz.prog Tryz.f3.params.toList Rows.decisionEntitledAgreesSpec.vars false W args.toList ds gs before) :
    Calls Tryz.prog 3 args W fun e W' => ∃ v, e = .returned v ∧ Rows.decisionEntitledAgreesSpec.post enc Tryz.prog Tryz.f3 false true false false W args v W' :=
  a6f uok ok_3 (b := true) (fun xs hq => yd _ _ _ _ hq.1) (fun X vs h => match vs, h with | [u], ⟨h1, _⟩ => by rw [show u = _ from h1]) (fn := Tryz.f3)
    (show Vm Tryz.prog VV Tryz.f3.params.toList ado.ps _ from (show Tryz.f3.params.toList = [26, 3, 3, 3] from by kernel_rfl) ▸ Vm.cons (RdP.struct (U := VV) (u_26) rfl (ahn)) (Vm.cons (RdP.int (U := VV) (c := .c_i64) (u_3) fun z => ⟨(z : Int), rfl⟩) (Vm.cons (RdP.int (U := VV) (c := .c_i64) (u_3) fun z => ⟨(z : Int), rfl⟩) (Vm.cons (RdP.int (U := VV) (c := .c_i64) (u_3) fun z => ⟨(z : Int), rfl⟩) (Vm.nil))))) (by kernel_rfl) abf
    (by rw [show Tryz.f3.params.toList = [26, 3, 3, 3] from by kernel_rfl]; intro t ht; simp only [List.mem_cons, List.mem_nil_iff, or_false] at ht; rcases ht with rfl | rfl | rfl | rfl <;> exact ⟨by kernel_rfl, of_decide_eq_true (by kernel_rfl)⟩)
    (tb := 4) (by kernel_rfl) u_4 rfl (fun ds hd => match ds, hd with | [d0, d1, d2, d3], _ => ⟨rfl, rfl, rfl⟩) enc W base args ds gs before hval hW
theorem a6w (os : Os) : laidMet Tryz.prog Rows.decisionEntitledAgreesRow.laid ((laidWorld Tryz.prog os).forCall (fun _ _ => 0) ⟨#[], #[.agg #[.slice none 0 0, .slice none 0 0, .slice none 0 0, .slice none 0 0, .int .i64 0], .int .i64 0, .int .i64 0, .int .i64 0], []⟩).memory :=
  laidMet_of_run' 8 (by kernel_rfl) (by kernel_rfl)
theorem ahx (os : Os) {H : Type} (enc : TypeId × Value → H) : ∃ places, DataW.whole enc Tryz.prog ((laidWorld Tryz.prog os).forCall (fun _ _ => 0) ⟨#[], #[.agg #[.slice none 0 0, .slice none 0 0, .slice none 0 0, .slice none 0 0, .int .i64 0], .int .i64 0, .int .i64 0, .int .i64 0], []⟩).memory Tryz.f3.params.toList Rows.decisionEntitledAgreesSpec.vars false #[Value.agg #[.slice none 0 0, .slice none 0 0, .slice none 0 0, .slice none 0 0, .int .i64 0], .int .i64 0, .int .i64 0, .int .i64 0].toList 8 = some ([.agg [.nil, .nil, .nil, .nil, .lit (.int .i64 0)], .lit (.int .i64 0), .lit (.int .i64 0), .lit (.int .i64 0)], [], places) :=
  ⟨[], by kernel_rfl⟩
theorem afv (os : Os) (started : os.Started) (H : Type) (enc : TypeId × Value → H) (F : Stop.Interp) :
    ReturnsInHanded Rows.decisionEntitledAgreesRow.assume Tryz.checked os 3 .any ((OpenSpec.ofChange Rows.decisionEntitledAgreesSpec).preRow enc Tryz.prog Tryz.f3 Rows.decisionEntitledAgreesRow.domain false Rows.decisionEntitledAgreesRow.laid) (((OpenSpec.ofChange Rows.decisionEntitledAgreesSpec).at F).post enc Tryz.prog Tryz.f3 false true false false) := by
  obtain ⟨places, hx⟩ := ahx os enc
  refine returnsInHanded_of_row (C := Tryz.checked) (s := OpenSpec.ofChange Rows.decisionEntitledAgreesSpec) own started (by kernel_rfl) Tryz.func3
    (witness_row_at (enc := enc) (C := Tryz.checked) false (laidWorld Tryz.prog os) #[.agg #[.slice none 0 0, .slice none 0 0, .slice none 0 0, .slice none 0 0, .int .i64 0], .int .i64 0, .int .i64 0, .int .i64 0] rfl (by kernel_rfl) (by kernel_rfl) (by kernel_rfl)
      (OpenSpec.preRow_of_cond 8 hx (by kernel_rfl) (fun k hk => by cases hk) (by kernel_rfl) (a6w os))) ?_
  intro W base args ds gs before hval hW _ _ _ _ _ _
  exact a62 H enc W base args ds gs before hval hW
theorem said : Rows.DecisionEntitledAgreesSaid :=
  OpenClaim.holds_of_cond 3 Tryz.f3 rfl rfl rfl rfl rfl rfl rfl ⟨rfl, rfl, rfl, rfl, rfl⟩ rfl rfl rfl rfl rfl ah3 Tryz.func3 afi inst wrap
    (fun os started H enc _ F => by rw [OpenClaim.pre_eq_preRow]; exact afv os started H enc F)
end Go.Proofs.YtmadnldadkcibaaGreat.decisionEntitledAgrees
