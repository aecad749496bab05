/- The row of SicknessWithoutDays holds, for every argument whatever. -/
import Derived.Test.YtclgfiaghflimaaGreatDoorP7
import Derived.Test.YtclgfiaghflimaaGreatDoorP6
import Derived.Test.YtclgfiaghflimaaGreatDoorTie
import Derived.Test.YtclgfiaghflimaaGreatDoorCards
import Derived.Test.YtclgfiaghflimaaGreatDoorRows
set_option linter.unusedVariables false
set_option linter.unusedSimpArgs false
set_option maxRecDepth 100000
namespace Go.SX
open Go Go.PL Go.ChangeShapes Go.WideShapes Go.Deep Go.RowKit
theorem RdP.slice {P : Program} {U : Uni} {t e : TypeId} {c : U.C} (ht : P.underlying t = some (.slice e)) (hI : RdT P U e c) (hC : P.cellsOf e = U.n c) (hpos : 0 < U.n c) : RdP P U t (.ls c) fun l => l.length ≤ 9223372036854775807 := by
  intro H enc w b0 spare held v d pl ho ⟨fuel, hd⟩
  obtain ⟨a, len, cap, rfl⟩ := okWide_slice ht ho
  obtain ⟨v', l, h1, h2⟩ := d1q hI hC hpos ht hd
  have h1 : [Value.slice a len cap] = [v'] := h1
  cases h1
  exact ⟨l, d4v h2, fun σ π all Z' hz => ⟨rfl, h2.weaken fun b hb hg => hg (hz b hb)⟩⟩
end Go.SX
namespace Go.Proofs.YtclgfiaghflimaaGreatDoor.sicknessWithoutDays
open Go Go.ChangeShapes Go.WideShapes Go.ChangeAt Go.RowKit Go.PL Go.SX
theorem u_22 : Tryz.prog.underlying 22 = some (.slice 3) := by kernel_rfl
theorem u_3 : Tryz.prog.underlying 3 = some (.int .i64) := by kernel_rfl
theorem rd_3 : RdT Tryz.prog VV 3 .c_i64 := RdT.one (U := VV) (c := .c_i64) uok (RdA.int (u_3)) fun a ⟨z, h⟩ => ⟨(z : Int), by subst h; rfl⟩
theorem u_4 : Tryz.prog.underlying 4 = some (.bool) := by kernel_rfl
def litC : DataW Unit -> Array Value
  | .agg l => (l.filterMap fun d => match d with | .lit (.int k n) => some (.int k n) | _ => none).toArray
  | _ => #[]
def d9v (d : DataW Unit) : Obj -> Obj
  | .cells _ t fr => .cells (litC d) t fr
  | o => o
noncomputable def layW (os : Os) : World := { World.holding Tryz.prog os ⟨#[], #[], []⟩ with heap := ((((World.holding Tryz.prog os ⟨#[], #[], []⟩).heap.modify 4 (d9v Rows.laid_math_bits_deBruijn32tab)).modify 5 (d9v Rows.laid_math_bits_deBruijn64tab)).modify 3 (d9v Rows.laid_internal_strconv_uint64pow10)) }
theorem own : ownKnob Tryz.prog.godebug = none := by kernel_rfl
theorem d5n : laidOutB Tryz.prog = true := by kernel_rfl
theorem d00 (H : Type) (enc : TypeId × Value -> H) (W : World) (base : Nat) (args : Array Value) (ds gs : List (DataW H)) (before : List MemPlace)
    (hval : ∀ (j : Nat) t v, Tryz.f3.params[j]? = some t -> args[j]? = some v -> Value.okWide Tryz.prog W .any base t v)
    (hW : DataW.Whole enc Tryz.prog Tryz.f3.params.toList Rows.sicknessWithoutDaysSpec.vars false W args.toList ds gs before) :
    Calls Tryz.prog 3 args W fun e W' => ∃ v, e = .returned v /\ Rows.sicknessWithoutDaysSpec.post enc Tryz.prog Tryz.f3 false true false false W args v W' :=
  d01 uok ok_3 (b := true) (fun xs hq => a7t _ _ _ _ hq.1 hq.2.1) (fun X vs h => match vs, h with | [u], ⟨h1, _⟩ => by rw [show u = _ from h1]) (fn := Tryz.f3)
    (show c2e Tryz.prog VV Tryz.f3.params.toList d68.ps _ from (show Tryz.f3.params.toList = [22, 22, 3, 3] from by kernel_rfl) ▸ c2e.cons (RdP.slice (u_22) (rd_3) (by kernel_rfl) (by decide)) (c2e.cons (RdP.slice (u_22) (rd_3) (by kernel_rfl) (by decide)) (c2e.cons (RdP.int (U := VV) (c := .c_i64) (u_3) fun z => ⟨(z : Int), rfl⟩) (c2e.cons (RdP.int (U := VV) (c := .c_i64) (u_3) fun z => ⟨(z : Int), rfl⟩) (c2e.nil))))) (by kernel_rfl) d5n
    (by rw [show Tryz.f3.params.toList = [22, 22, 3, 3] from by kernel_rfl]; intro t ht; simp only [List.mem_cons, List.mem_nil_iff, or_false] at ht; rcases ht with rfl | rfl | rfl | rfl <;> exact ⟨by kernel_rfl, of_decide_eq_true (by kernel_rfl)⟩)
    (tb := 4) (by kernel_rfl) u_4 rfl (fun ds hd => match ds, hd with | [d0, d1, d2, d3], _ => ⟨rfl, rfl, rfl⟩) enc W base args ds gs before hval hW
theorem d0o (os : Os) : laidMet Tryz.prog Rows.sicknessWithoutDaysRow.laid ((layW os).forCall (fun _ _ => 0) ⟨#[], #[.slice none 0 0, .slice none 0 0, .int .i64 0, .int .i64 0], []⟩).memory :=
  laidMet_of_run' 8 (by kernel_rfl) (by kernel_rfl)
theorem d9t (os : Os) {H : Type} (enc : TypeId × Value -> H) : ∃ places, DataW.whole enc Tryz.prog ((layW os).forCall (fun _ _ => 0) ⟨#[], #[.slice none 0 0, .slice none 0 0, .int .i64 0, .int .i64 0], []⟩).memory Tryz.f3.params.toList Rows.sicknessWithoutDaysSpec.vars false #[Value.slice none 0 0, .slice none 0 0, .int .i64 0, .int .i64 0].toList 8 = some ([.nil, .nil, .lit (.int .i64 0), .lit (.int .i64 0)], [], places) :=
  ⟨[], by kernel_rfl⟩
theorem d85 (os : Os) (started : os.Started) (H : Type) (enc : TypeId × Value -> H) (F : Stop.Interp) :
    ReturnsInHanded Rows.sicknessWithoutDaysRow.assume Tryz.checked os 3 .any ((OpenSpec.ofChange Rows.sicknessWithoutDaysSpec).preRow enc Tryz.prog Tryz.f3 Rows.sicknessWithoutDaysRow.domain false Rows.sicknessWithoutDaysRow.laid) (((OpenSpec.ofChange Rows.sicknessWithoutDaysSpec).at F).post enc Tryz.prog Tryz.f3 false true false false) := by
  obtain ⟨places, hx⟩ := d9t os enc
  refine returnsInHanded_of_row (C := Tryz.checked) (s := OpenSpec.ofChange Rows.sicknessWithoutDaysSpec) own started (by kernel_rfl) Tryz.func3
    (witness_row_at (enc := enc) (C := Tryz.checked) false (layW os) #[.slice none 0 0, .slice none 0 0, .int .i64 0, .int .i64 0] rfl (by kernel_rfl) (by kernel_rfl) (by kernel_rfl)
      (OpenSpec.preRow_of_cond 8 hx (by kernel_rfl) (fun k hk => by cases hk) (by kernel_rfl) (d0o os))) ?_
  intro W base args ds gs before hval hW _ _ _ _ _ _
  exact d00 H enc W base args ds gs before hval hW
theorem said : Rows.SicknessWithoutDaysSaid :=
  OpenClaim.holds_of_cond 3 Tryz.f3 rfl rfl rfl rfl rfl rfl rfl ⟨rfl, rfl, rfl, rfl, rfl⟩ rfl rfl rfl rfl rfl named Tryz.func3 d7c inst wrap
    (fun os started H enc _ F => by rw [OpenClaim.pre_eq_preRow]; exact d85 os started H enc F)
theorem plain (f : FuncId) (fn : Func) (hf : Tryz.pinned.checked.prog.funcNamed "pension/pensionlaw25.SicknessWithoutDays" = some f) (hfn : Tryz.pinned.checked.prog.funcs[f]? = some fn) :
    false = Tryz.pinned.checked.prog.looks [] /\ ∀ (j : Nat) t, fn.params[j]? = some t -> Tryz.pinned.checked.prog.wantsStandIn t = false := by
  obtain rfl : f = 3 := Option.some.inj ((show Tryz.prog.funcNamed "pension/pensionlaw25.SicknessWithoutDays" = some 3 by kernel_rfl).symm.trans hf) |>.symm
  obtain rfl : fn = Tryz.f3 := (Option.some.inj (Tryz.func3.symm.trans hfn)).symm
  refine ⟨by kernel_rfl, fun j t ht => ?_⟩
  have hm := Array.mem_of_getElem? ht
  rw [show Tryz.f3.params = #[22, 22, 3, 3] from by kernel_rfl] at hm
  simp only [List.mem_toArray, List.mem_cons, List.not_mem_nil, or_false] at hm
  rcases hm with rfl | rfl | rfl | rfl <;> first | exact (show Tryz.prog.wantsStandIn 3 = false by kernel_rfl) | exact (show Tryz.prog.wantsStandIn 22 = false by kernel_rfl)
end Go.Proofs.YtclgfiaghflimaaGreatDoor.sicknessWithoutDays
