/- Texts of the proof, joined. -/
import Derived.Test.YtaadmpfcifegdaaGreatDoorP7
import Derived.Test.YtaadmpfcifegdaaGreatDoorP18
import Derived.Test.YtaadmpfcifegdaaGreatDoorP19
import Derived.Test.YtaadmpfcifegdaaGreatDoorP20
import Derived.Test.YtaadmpfcifegdaaGreatDoorKiz
import Derived.Test.YtaadmpfcifegdaaGreatDoorCards
import Derived.LaidSub
import Derived.Test.YtaadmpfcifegdaaGreatDoorRows
set_option linter.unusedVariables false
set_option linter.unusedSimpArgs false
set_option maxRecDepth 100000
namespace Go.Proofs.YtaadmpfcifegdaaGreatDoor.hindsightRejects
open Go Go.ChangeShapes Go.WideShapes Go.ChangeAt Go.RowKit Go.PL Go.SX
theorem u_26 : Tryz.prog.underlying 26 = some (.struct (Tryz.prog.fieldsOf 26)) := by kernel_rfl
theorem u_3 : Tryz.prog.underlying 3 = some (.int .i64) := by kernel_rfl
theorem rd_3 : RdT Tryz.prog VV 3 .c_i64 := RdT.one (U := VV) (c := .c_i64) uok (RdA.int (u_3)) fun a ⟨z, h⟩ => ⟨(z : Int), by subst h; rfl⟩
theorem u_22 : Tryz.prog.underlying 22 = some (.slice 3) := by kernel_rfl
theorem u_4 : Tryz.prog.underlying 4 = some (.bool) := by kernel_rfl
theorem g6i : Tryz.prog.underlying 112 = some (.struct (Tryz.prog.fieldsOf 112)) := by kernel_rfl
theorem g08 : RdQ Tryz.prog VV 112 .c_spensionhand_Fact (fun (x : pensionhand_Fact) => True) := RdQ.str (U := VV) (c := .c_spensionhand_Fact) uok (g6i) (by kernel_rfl) (by kernel_rfl) (ts := [3, 3, 3, 4, 3, 3, 3, 3, 3, 3, 3, 3, 3]) (by kernel_rfl) (Ss := [isI .i64, isI .i64, isI .i64, isB, isI .i64, isI .i64, isI .i64, isI .i64, isI .i64, isI .i64, isI .i64, isI .i64, isI .i64])
  ⟨RdA.int (u_3), RdA.int (u_3), RdA.int (u_3), RdA.bool (u_4), RdA.int (u_3), RdA.int (u_3), RdA.int (u_3), RdA.int (u_3), RdA.int (u_3), RdA.int (u_3), RdA.int (u_3), RdA.int (u_3), RdA.int (u_3), trivial⟩ (fun zs h0 => by
    obtain ⟨a0, r0, rfl, ⟨z0, rfl⟩, h1⟩ := a0p h0
    obtain ⟨a1, r1, rfl, ⟨z1, rfl⟩, h2⟩ := a0p h1
    obtain ⟨a2, r2, rfl, ⟨z2, rfl⟩, h3⟩ := a0p h2
    obtain ⟨a3, r3, rfl, ⟨z3, rfl⟩, h4⟩ := a0p h3
    obtain ⟨a4, r4, rfl, ⟨z4, rfl⟩, h5⟩ := a0p h4
    obtain ⟨a5, r5, rfl, ⟨z5, rfl⟩, h6⟩ := a0p h5
    obtain ⟨a6, r6, rfl, ⟨z6, rfl⟩, h7⟩ := a0p h6
    obtain ⟨a7, r7, rfl, ⟨z7, rfl⟩, h8⟩ := a0p h7
    obtain ⟨a8, r8, rfl, ⟨z8, rfl⟩, h9⟩ := a0p h8
    obtain ⟨a9, r9, rfl, ⟨z9, rfl⟩, h10⟩ := a0p h9
    obtain ⟨a10, r10, rfl, ⟨z10, rfl⟩, h11⟩ := a0p h10
    obtain ⟨a11, r11, rfl, ⟨z11, rfl⟩, h12⟩ := a0p h11
    obtain ⟨a12, r12, rfl, ⟨z12, rfl⟩, h13⟩ := a0p h12
    obtain rfl := d0z h13
    exact ⟨(⟨z0, z1, z2, z3, z4, z5, z6, z7, z8, z9, z10, z11, z12⟩ : pensionhand_Fact), trivial, rfl⟩)
theorem u_23 : Tryz.prog.underlying 23 = some (.slice 112) := by kernel_rfl
theorem g4w : Tryz.prog.underlying 122 = some (.struct (Tryz.prog.fieldsOf 122)) := by kernel_rfl
theorem g1g : RdQ Tryz.prog VV 122 .c_spensionhand_Claim (fun (x : pensionhand_Claim) => True) := RdQ.str (U := VV) (c := .c_spensionhand_Claim) uok (g4w) (by kernel_rfl) (by kernel_rfl) (ts := [3, 3, 3, 3, 3, 3]) (by kernel_rfl) (Ss := [isI .i64, isI .i64, isI .i64, isI .i64, isI .i64, isI .i64])
  ⟨RdA.int (u_3), RdA.int (u_3), RdA.int (u_3), RdA.int (u_3), RdA.int (u_3), RdA.int (u_3), trivial⟩ (fun zs h0 => by
    obtain ⟨a0, r0, rfl, ⟨z0, rfl⟩, h1⟩ := a0p h0
    obtain ⟨a1, r1, rfl, ⟨z1, rfl⟩, h2⟩ := a0p h1
    obtain ⟨a2, r2, rfl, ⟨z2, rfl⟩, h3⟩ := a0p h2
    obtain ⟨a3, r3, rfl, ⟨z3, rfl⟩, h4⟩ := a0p h3
    obtain ⟨a4, r4, rfl, ⟨z4, rfl⟩, h5⟩ := a0p h4
    obtain ⟨a5, r5, rfl, ⟨z5, rfl⟩, h6⟩ := a0p h5
    obtain rfl := d0z h6
    exact ⟨(⟨z0, z1, z2, z3, z4, z5⟩ : pensionhand_Claim), trivial, rfl⟩)
theorem u_24 : Tryz.prog.underlying 24 = some (.slice 122) := by kernel_rfl
theorem g4t : RdQ Tryz.prog VV 26 .c_spensionlaw26_Seeds (fun (x : pensionlaw26_Seeds) => x.Laws.length <= 9223372036854775807 /\ x.Lives.length <= 9223372036854775807 /\ x.Facts.length <= 9223372036854775807 /\ x.Claims.length <= 9223372036854775807) := RdQ.str (U := VV) (c := .c_spensionlaw26_Seeds) uok (u_26) (by kernel_rfl) (by kernel_rfl) (ts := [22, 22, 23, 24, 3]) (by kernel_rfl) (Ss := [isL (U := VV) .c_i64, isL (U := VV) .c_i64, isL (U := VV) .c_spensionhand_Fact, isL (U := VV) .c_spensionhand_Claim, isI .i64])
  ⟨RdA.slice (rd_3) (by kernel_rfl) (by decide) (u_22), RdA.slice (rd_3) (by kernel_rfl) (by decide) (u_22), RdA.slice (g08) (by kernel_rfl) (by decide) (u_23), RdA.slice (g1g) (by kernel_rfl) (by decide) (u_24), RdA.int (u_3), trivial⟩ (fun zs h0 => by
    obtain ⟨a0, r0, rfl, ⟨z0, k0, rfl⟩, h1⟩ := a0p h0
    obtain ⟨a1, r1, rfl, ⟨z1, k1, rfl⟩, h2⟩ := a0p h1
    obtain ⟨a2, r2, rfl, ⟨z2, k2, rfl⟩, h3⟩ := a0p h2
    obtain ⟨a3, r3, rfl, ⟨z3, k3, rfl⟩, h4⟩ := a0p h3
    obtain ⟨a4, r4, rfl, ⟨z4, rfl⟩, h5⟩ := a0p h4
    obtain rfl := d0z h5
    exact ⟨(⟨z0, z1, z2, z3, z4⟩ : pensionlaw26_Seeds), ⟨k0, k1, k2, k3⟩, rfl⟩)
theorem f7t : (Rows.hindsightRejectsRow.laid.filter fun x => x.1 == "internal/strconv.uint64pow10") = [("internal/strconv.uint64pow10", (Lib.tabData .u64 Lib.pow10Tab : DataW Unit))] := by kernel_rfl
theorem g1d {W : World} (h : laidMet Tryz.prog Rows.hindsightRejectsRow.laid W) : VV.tab W /\ ∀ b, VV.tb b -> b < W.heap.size := by
  have h2 : Lib.TabIs Tryz.prog W "internal/strconv.uint64pow10" .u64 Lib.pow10Tab := Lib.tabIs_of_head (g := 5) (t := 703) (e := 249) (n := 20) (by kernel_rfl) (by kernel_rfl) (by kernel_rfl) (by kernel_rfl) (by kernel_rfl) (by kernel_rfl) (rest := []) (f7t ▸ laidMet.filter (fun x => x.1 == "internal/strconv.uint64pow10") h)
  exact ⟨h2, fun b hb => (show b = 5 from hb) ▸ g25 (by kernel_rfl) h2⟩
def litC : DataW Unit -> Array Value
  | .agg l => (l.filterMap fun d => match d with | .lit (.int k n) => some (.int k n) | _ => none).toArray
  | _ => #[]
def g35 (d : DataW Unit) : Obj -> Obj
  | .cells _ t fr => .cells (litC d) t fr
  | o => o
noncomputable def layW (os : Os) : World := { World.holding Tryz.prog os ⟨#[], #[], []⟩ with heap := ((((((World.holding Tryz.prog os ⟨#[], #[], []⟩).heap.modify 5 (g35 Rows.laid_internal_strconv_uint64pow10)).modify 6 (g35 Rows.laid_math_bits_deBruijn32tab)).modify 7 (g35 Rows.laid_math_bits_deBruijn64tab)).modify 0 (g35 Rows.laid_pension_reduction_down)).modify 1 (g35 Rows.laid_pension_family_down)) }
theorem own : ownKnob Tryz.prog.godebug = none := by kernel_rfl
theorem f6f : laidOutB Tryz.prog = true := by rw [<- pe]; exact j2
theorem e8o (H : Type) (enc : TypeId × Value -> H) (W : World) (base : Nat) (args : Array Value) (ds gs : List (DataW H)) (before : List MemPlace)
    (hval : ∀ (j : Nat) t v, Tryz.f3.params[j]? = some t -> args[j]? = some v -> Value.okWide Tryz.prog W .any base t v)
    (ht : VV.tab W /\ ∀ b, VV.tb b -> b < W.heap.size) (hW : DataW.Whole enc Tryz.prog Tryz.f3.params.toList Rows.hindsightRejectsSpec.vars false W args.toList ds gs before) :
    Calls Tryz.prog 3 args W fun e W' => ∃ v, e = .returned v /\ Rows.hindsightRejectsSpec.post enc Tryz.prog Tryz.f3 false true false false W args v W' :=
  f07 uok ok_3 (b := true) (fun xs hq => b9v xs.1 xs.2.1 hq.1) (fun X vs h => match vs, h with | [u], ⟨h1, _⟩ => by rw [show u = _ from h1]) (fn := Tryz.f3)
    (show e2m Tryz.prog VV Tryz.f3.params.toList f9v.ps _ from (show Tryz.f3.params.toList = [26, 3] from by kernel_rfl) ▸ e2m.cons (RdP.struct (U := VV) (u_26) rfl (g4t)) (e2m.cons (RdP.int (U := VV) (c := .c_i64) (u_3) fun z => ⟨(z : Int), rfl⟩) (e2m.nil))) (by kernel_rfl) f6f
    (by rw [show Tryz.f3.params.toList = [26, 3] from by kernel_rfl]; intro t ht; simp only [List.mem_cons, List.mem_nil_iff, or_false] at ht; rcases ht with rfl | rfl <;> exact ⟨by kernel_rfl, of_decide_eq_true (by kernel_rfl)⟩)
    (tb := 4) (by kernel_rfl) u_4 rfl (fun ds hd => match ds, hd with | [d0, d1], _ => ⟨rfl, rfl, rfl⟩) enc W base args ds gs before ht hval hW
theorem f0e (os : Os) : laidMet Tryz.prog Rows.hindsightRejectsRow.laid ((layW os).forCall (fun _ _ => 0) ⟨#[], #[.agg #[.slice none 0 0, .slice none 0 0, .slice none 0 0, .slice none 0 0, .int .i64 0], .int .i64 0], []⟩).memory :=
  laidMet_of_run' 8 (by kernel_rfl) (by kernel_rfl)
theorem g4n (os : Os) {H : Type} (enc : TypeId × Value -> H) : ∃ places, DataW.whole enc Tryz.prog ((layW os).forCall (fun _ _ => 0) ⟨#[], #[.agg #[.slice none 0 0, .slice none 0 0, .slice none 0 0, .slice none 0 0, .int .i64 0], .int .i64 0], []⟩).memory Tryz.f3.params.toList Rows.hindsightRejectsSpec.vars false #[Value.agg #[.slice none 0 0, .slice none 0 0, .slice none 0 0, .slice none 0 0, .int .i64 0], .int .i64 0].toList 8 = some ([.agg [.nil, .nil, .nil, .nil, .lit (.int .i64 0)], .lit (.int .i64 0)], [], places) :=
  ⟨[], by kernel_rfl⟩
theorem g2w (os : Os) (started : os.Started) (H : Type) (enc : TypeId × Value -> H) (F : Stop.Interp) :
    ReturnsInHanded Rows.hindsightRejectsRow.assume Tryz.checked os 3 .any ((OpenSpec.ofChange Rows.hindsightRejectsSpec).preRow enc Tryz.prog Tryz.f3 Rows.hindsightRejectsRow.domain false Rows.hindsightRejectsRow.laid) (((OpenSpec.ofChange Rows.hindsightRejectsSpec).at F).post enc Tryz.prog Tryz.f3 false true false false) := by
  obtain ⟨places, hx⟩ := g4n os enc
  refine returnsInHanded_of_row (C := Tryz.checked) (s := OpenSpec.ofChange Rows.hindsightRejectsSpec) own started (by kernel_rfl) Tryz.func3
    (witness_row_at (enc := enc) (C := Tryz.checked) false (layW os) #[.agg #[.slice none 0 0, .slice none 0 0, .slice none 0 0, .slice none 0 0, .int .i64 0], .int .i64 0] rfl (by kernel_rfl) (by kernel_rfl) (by kernel_rfl)
      (OpenSpec.preRow_of_cond 8 hx (by kernel_rfl) (fun k hk => by cases hk) (by kernel_rfl) (f0e os))) ?_
  intro W base args ds gs before hval hW _ _ _ hL _ _
  exact e8o H enc W base args ds gs before hval (g1d (show laidMet Tryz.prog Rows.hindsightRejectsRow.laid W from hL)) hW
theorem said : Rows.HindsightRejectsSaid :=
  OpenClaim.holds_of_cond 3 Tryz.f3 rfl rfl rfl rfl rfl rfl rfl ⟨rfl, rfl, rfl, rfl, rfl⟩ rfl rfl rfl rfl rfl named Tryz.func3 g0l inst wrap
    (fun os started H enc _ F => by rw [OpenClaim.pre_eq_preRow]; exact g2w os started H enc F)
theorem plain (f : FuncId) (fn : Func) (hf : Tryz.pinned.checked.prog.funcNamed "pension/pensionlaw37.HindsightRejects" = some f) (hfn : Tryz.pinned.checked.prog.funcs[f]? = some fn) :
    false = Tryz.pinned.checked.prog.looks [] /\ ∀ (j : Nat) t, fn.params[j]? = some t -> Tryz.pinned.checked.prog.wantsStandIn t = false := by
  obtain rfl : f = 3 := Option.some.inj ((show Tryz.pinned.checked.prog.funcNamed "pension/pensionlaw37.HindsightRejects" = some 3 from named).symm.trans hf) |>.symm
  obtain rfl : fn = Tryz.f3 := (Option.some.inj (Tryz.func3.symm.trans hfn)).symm
  refine ⟨pl2, fun j t ht => ?_⟩
  have hm := Array.mem_of_getElem? ht
  rw [show Tryz.f3.params = #[26, 3] from by kernel_rfl] at hm
  simp only [List.mem_toArray, List.mem_cons, List.not_mem_nil, or_false] at hm
  rcases hm with rfl | rfl <;> first | exact (show Tryz.prog.wantsStandIn 26 = false from pl3) | exact (show Tryz.prog.wantsStandIn 3 = false from pl4)
end Go.Proofs.YtaadmpfcifegdaaGreatDoor.hindsightRejects
