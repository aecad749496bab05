/- Texts of the proof, joined. -/
import Derived.Test.YtnhmmgnpmjfjoaaGreatDoorP12
import Derived.Test.YtnhmmgnpmjfjoaaGreatDoorTie
import Derived.Test.YtnhmmgnpmjfjoaaGreatDoorCards
import Derived.Test.YtnhmmgnpmjfjoaaGreatDoorRows
set_option linter.unusedVariables false
set_option linter.unusedSimpArgs false
set_option maxRecDepth 100000
namespace Go.Proofs.YtnhmmgnpmjfjoaaGreatDoor.awardChecks
open Go Go.ChangeShapes Go.WideShapes Go.ChangeAt Go.RowKit Go.PL Go.SX
theorem u_22 : Tryz.prog.underlying 22 = some (.slice 3) := by kernel_rfl
theorem u_3 : Tryz.prog.underlying 3 = some (.int .i64) := by kernel_rfl
theorem rd_3 : RdT Tryz.prog VV 3 .z9 := RdT.one (U := VV) (c := .z9) uok (RdA.int (u_3)) fun a ⟨z, h⟩ => ⟨(z : Int), by subst h; rfl⟩
theorem u_4 : Tryz.prog.underlying 4 = some (.bool) := by kernel_rfl
theorem f1z : (Rows.awardChecksRow.laid.filter fun x => x.1 == "internal/strconv.uint64pow10") = [("internal/strconv.uint64pow10", (Lib.tabData .u64 Lib.pow10Tab : DataW Unit))] := by kernel_rfl
theorem f5o {W : World} (h : laidMet Tryz.prog Rows.awardChecksRow.laid W) : VV.tab W /\ ∀ b, VV.tb b -> b < W.heap.size := by
  have h2 : Lib.TabIs Tryz.prog W "internal/strconv.uint64pow10" .u64 Lib.pow10Tab := Lib.tabIs_of_head (g := 3) (t := 561) (e := 138) (n := 20) (by kernel_rfl) (by kernel_rfl) (by kernel_rfl) (by kernel_rfl) (by kernel_rfl) (by kernel_rfl) (rest := []) (f1z ▸ laidMet.filter (fun x => x.1 == "internal/strconv.uint64pow10") h)
  exact ⟨h2, fun b hb => (show b = 3 from hb) ▸ f5e (by kernel_rfl) h2⟩
def litC : DataW Unit -> Array Value
  | .agg l => (l.filterMap fun d => match d with | .lit (.int k n) => some (.int k n) | _ => none).toArray
  | _ => #[]
def f8a (d : DataW Unit) : Obj -> Obj
  | .cells _ t fr => .cells (litC d) t fr
  | o => o
noncomputable def layW (os : Os) : World := { World.holding Tryz.prog os ⟨#[], #[], []⟩ with heap := ((((World.holding Tryz.prog os ⟨#[], #[], []⟩).heap.modify 4 (f8a Rows.laid_math_bits_deBruijn32tab)).modify 5 (f8a Rows.laid_math_bits_deBruijn64tab)).modify 3 (f8a Rows.laid_internal_strconv_uint64pow10)) }
theorem own : ownKnob Tryz.prog.godebug = none := by kernel_rfl
theorem f0l : laidOutB Tryz.prog = true := by kernel_rfl
theorem e4o (H : Type) (enc : TypeId × Value -> H) (W : World) (base : Nat) (args : Array Value) (ds gs : List (DataW H)) (before : List MemPlace)
    (hval : ∀ (j : Nat) t v, Tryz.f3.params[j]? = some t -> args[j]? = some v -> Value.okWide Tryz.prog W .any base t v)
    (ht : VV.tab W /\ ∀ b, VV.tb b -> b < W.heap.size) (hW : DataW.Whole enc Tryz.prog Tryz.f3.params.toList Rows.awardChecksSpec.vars false W args.toList ds gs before) :
    Calls Tryz.prog 3 args W fun e W' => ∃ v, e = .returned v /\ Rows.awardChecksSpec.post enc Tryz.prog Tryz.f3 false true false false W args v W' :=
  e3p uok ok_3 (b := true) (fun xs hq => c1m xs.1 xs.2.1 hq.1) (fun X vs h => match vs, h with | [u], ⟨h1, _⟩ => by rw [show u = _ from h1]) (fn := Tryz.f3)
    (show d8i Tryz.prog VV Tryz.f3.params.toList f2x.ps _ from (show Tryz.f3.params.toList = [22, 3] from by kernel_rfl) ▸ d8i.cons (RdP.slice (u_22) (rd_3) (by kernel_rfl) (by decide)) (d8i.cons (RdP.int (U := VV) (c := .z9) (u_3) fun z => ⟨(z : Int), rfl⟩) (d8i.nil))) (by kernel_rfl) f0l
    (by rw [show Tryz.f3.params.toList = [22, 3] from by kernel_rfl]; intro t ht; simp only [List.mem_cons, List.mem_nil_iff, or_false] at ht; rcases ht with rfl | rfl <;> exact ⟨by kernel_rfl, of_decide_eq_true (by kernel_rfl)⟩)
    (tb := 4) (by kernel_rfl) u_4 rfl (fun ds hd => match ds, hd with | [d0, d1], _ => ⟨rfl, rfl, rfl⟩) enc W base args ds gs before ht hval hW
theorem e3l (os : Os) : laidMet Tryz.prog Rows.awardChecksRow.laid ((layW os).forCall (fun _ _ => 0) ⟨#[], #[.slice none 0 0, .int .i64 0], []⟩).memory :=
  laidMet_of_run' 8 (by kernel_rfl) (by kernel_rfl)
theorem f8z (os : Os) {H : Type} (enc : TypeId × Value -> H) : ∃ places, DataW.whole enc Tryz.prog ((layW os).forCall (fun _ _ => 0) ⟨#[], #[.slice none 0 0, .int .i64 0], []⟩).memory Tryz.f3.params.toList Rows.awardChecksSpec.vars false #[Value.slice none 0 0, .int .i64 0].toList 8 = some ([.nil, .lit (.int .i64 0)], [], places) :=
  ⟨[], by kernel_rfl⟩
theorem f4g (os : Os) (started : os.Started) (H : Type) (enc : TypeId × Value -> H) (F : Stop.Interp) :
    ReturnsInHanded Rows.awardChecksRow.assume Tryz.checked os 3 .any ((OpenSpec.ofChange Rows.awardChecksSpec).preRow enc Tryz.prog Tryz.f3 Rows.awardChecksRow.domain false Rows.awardChecksRow.laid) (((OpenSpec.ofChange Rows.awardChecksSpec).at F).post enc Tryz.prog Tryz.f3 false true false false) := by
  obtain ⟨places, hx⟩ := f8z os enc
  refine returnsInHanded_of_row (C := Tryz.checked) (s := OpenSpec.ofChange Rows.awardChecksSpec) own started (by kernel_rfl) Tryz.func3
    (witness_row_at (enc := enc) (C := Tryz.checked) false (layW os) #[.slice none 0 0, .int .i64 0] rfl (by kernel_rfl) (by kernel_rfl) (by kernel_rfl)
      (OpenSpec.preRow_of_cond 8 hx (by kernel_rfl) (fun k hk => by cases hk) (by kernel_rfl) (e3l os))) ?_
  intro W base args ds gs before hval hW _ _ _ hL _ _
  exact e4o H enc W base args ds gs before hval (f5o (show laidMet Tryz.prog Rows.awardChecksRow.laid W from hL)) hW
theorem said : Rows.AwardChecksSaid :=
  OpenClaim.holds_of_cond 3 Tryz.f3 rfl rfl rfl rfl rfl rfl rfl ⟨rfl, rfl, rfl, rfl, rfl⟩ rfl rfl rfl rfl rfl named Tryz.func3 f6v inst wrap
    (fun os started H enc _ F => by rw [OpenClaim.pre_eq_preRow]; exact f4g os started H enc F)
end Go.Proofs.YtnhmmgnpmjfjoaaGreatDoor.awardChecks
