/- The statement DecisionStartsWithAMonth: its row and its card. The arguments are whatever they are. -/
import Derived.Test.YtdlmjmbkcndfcaaGreatRowBaseZ
import Derived.Test.YtdlmjmbkcndfcaaGreatW
import Derived.Test.YtdlmjmbkcndfcaaGreatDec
set_option maxRecDepth 100000
set_option linter.unusedVariables false
set_option linter.unusedSimpArgs false
namespace Go.Proofs.YtdlmjmbkcndfcaaGreat.decisionStartsWithAMonth
open Go.ChangeShapes Go.WideShapes Go.ChangeAt Go.RowKit Go.PL

theorem own : ownKnob Tryz.prog.godebug = none := by kernel_rfl
/-- What the walk and the plain law give, for every argument and every world that holds the listed variable. -/
theorem contract (H : Type) (enc : TypeId × Value → H) (W : World) (base : Nat) (args : Array Value) (ds gs : List (DataW H)) (before : List MemPlace)
    (hval : ∀ (j : Nat) t v, Tryz.f4.params[j]? = some t → args[j]? = some v → Value.okWide Tryz.prog W .any base t v)
    (hW : DataW.Whole enc Tryz.prog Tryz.f4.params.toList Rows.decisionStartsWithAMonthSpec.vars false W args.toList ds gs before) (hL : laidMetH Tryz.prog Rows.decisionStartsWithAMonthRow.laid W) :
    Calls Tryz.prog 4 args W fun e W' => ∃ v, e = .returned v ∧ Rows.decisionStartsWithAMonthSpec.post enc Tryz.prog Tryz.f4 false true false false W args v W' := by
  have hW' := hW
  have hlt := hW.lt
  obtain ⟨p, q, hA0, hV, rfl, hfz, hnd⟩ := hW
  have hA : DataW.TrodAll enc Tryz.prog W 0 (fun _ => true) true Tryz.f4.params.toList args.toList ds p := hA0
  rw [Tryz.params4] at hA hval
  obtain ⟨v0, vs0, d0, ds0, p0, q0, hargs, rfl, rfl, h0, r0⟩ := trodAll_cons hA
  obtain ⟨rfl, rfl, rfl⟩ := trodAll_nil r0
  obtain rfl : args = #[v0] := by cases args; simp_all
  obtain ⟨rfl, rfl⟩ := trodVars_none hV
  obtain ⟨n0, rfl, rfl, rfl, w0⟩ := open_int u3 (hval 0 3 v0 rfl rfl) h0
  clear hA0
  simp only [List.append_nil, List.nil_append] at hW' hlt
  refine (pensionlaw26_DecisionStartsWithAMonth_ok n0  (DecisionStartsWithAMonth_true n0)).mono fun e W' ⟨he, hE⟩ => ?_
  subst he
  exact ⟨_, rfl, post_of_below (pa := []) (pv := []) hW' (fun _ _ _ => trodAll_cons_mk (shut_bool u4 _) trodAll_mk0)
    (fun sp hsp => trodAll_cons_mk (shut_int u3 w0) (trodAll_mk0))
    (fun _ _ => rfl) (by simp) hE.below (ok_one (by kernel_rfl) rfl (okWide_bool_mk u4 _))⟩
theorem laid_met (os : Os) : laidMet Tryz.prog Rows.decisionStartsWithAMonthRow.laid ((laidWorld os).forCall (fun _ _ => 0) ⟨#[], #[.int .i64 0], []⟩).memory :=
  laidMet_of_run' 8 (by kernel_rfl) (by kernel_rfl)
theorem reads (os : Os) {H : Type} (enc : TypeId × Value → H) : ∃ places, DataW.whole enc Tryz.prog ((laidWorld os).forCall (fun _ _ => 0) ⟨#[], #[.int .i64 0], []⟩).memory Tryz.f4.params.toList Rows.decisionStartsWithAMonthSpec.vars false #[Value.int .i64 0].toList 8 = some ([.lit (.int .i64 0)], [], places) :=
  ⟨[], by kernel_rfl⟩
theorem lifted (os : Os) (started : os.Started) (H : Type) (enc : TypeId × Value → H) (F : Stop.Interp) :
    ReturnsInHanded Rows.decisionStartsWithAMonthRow.assume Tryz.checked os 4 .any ((OpenSpec.ofChange Rows.decisionStartsWithAMonthSpec).preRow enc Tryz.prog Tryz.f4 Rows.decisionStartsWithAMonthRow.domain false Rows.decisionStartsWithAMonthRow.laid) (((OpenSpec.ofChange Rows.decisionStartsWithAMonthSpec).at F).post enc Tryz.prog Tryz.f4 false true false false) := by
  obtain ⟨places, hx⟩ := reads os enc
  refine returnsInHanded_of_row (C := Tryz.checked) (s := OpenSpec.ofChange Rows.decisionStartsWithAMonthSpec) own started (by kernel_rfl) Tryz.func4
    (witness_row_at (enc := enc) (C := Tryz.checked) false (laidWorld os) #[.int .i64 0] rfl (by kernel_rfl) (by kernel_rfl) (by kernel_rfl)
      (OpenSpec.preRow_of_cond 8 hx (by kernel_rfl) (fun k hk => by cases hk) (by kernel_rfl) (laid_met os))) ?_
  intro W base args ds gs before hval hW _ _ _ hL _ _
  exact contract H enc W base args ds gs before hval hW hL
theorem said : Rows.DecisionStartsWithAMonthSaid :=
  OpenClaim.holds_of_cond 4 Tryz.f4 rfl rfl rfl rfl rfl rfl rfl ⟨rfl, rfl, rfl, rfl, rfl⟩ rfl rfl rfl rfl rfl (by kernel_rfl) Tryz.func4 (by kernel_rfl)
    (of_decide_eq_true (by kernel_rfl)) (by unfold Func.isWrapper; first | (rw [if_pos (by decide +kernel)]; kernel_rfl) | (rw [if_neg (by decide +kernel)]; exact ⟨rfl, rfl⟩))
    (fun os started H enc _ F => by rw [OpenClaim.pre_eq_preRow]; exact lifted os started H enc F)
end Go.Proofs.YtdlmjmbkcndfcaaGreat.decisionStartsWithAMonth
