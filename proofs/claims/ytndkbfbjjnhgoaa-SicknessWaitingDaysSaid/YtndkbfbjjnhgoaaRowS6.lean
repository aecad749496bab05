/- The statement SicknessWaitingDays: its row and its card. The arguments are whatever they are. -/
import Derived.Test.YtndkbfbjjnhgoaaRowBaseS
import Derived.Test.YtndkbfbjjnhgoaaW
import Derived.Test.YtndkbfbjjnhgoaaSpL
set_option maxRecDepth 100000
set_option linter.unusedVariables false
set_option linter.unusedSimpArgs false
namespace Go.Proofs.Ytndkbfbjjnhgoaa.sicknessWaitingDays
open Go.ChangeShapes Go.WideShapes Go.ChangeAt Go.RowKit Go.PL

theorem own : ownKnob Try.prog.godebug = none := by kernel_rfl
/-- What the walk and the plain law give, for every argument and every world that holds the listed variable. -/
theorem contract (H : Type) (enc : TypeId × Value → H) (W : World) (base : Nat) (args : Array Value) (ds gs : List (DataW H)) (before : List MemPlace)
    (hval : ∀ (j : Nat) t v, Try.f6.params[j]? = some t → args[j]? = some v → Value.okWide Try.prog W .any base t v)
    (hW : DataW.Whole enc Try.prog Try.f6.params.toList Rows.sicknessWaitingDaysSpec.vars false W args.toList ds gs before) (hL : laidMetH Try.prog Rows.sicknessWaitingDaysRow.laid W)
    (hsz : (DataW.weightsEach Try.prog (Try.f6.params.toList ++ (OpenSpec.ofChange Rows.sicknessWaitingDaysSpec).bare.plain.varTypes Try.prog) (ds ++ gs)).all (· ≤ reachBytes) = true) :
    Calls Try.prog 6 args W fun e W' => ∃ v, e = .returned v ∧ Rows.sicknessWaitingDaysSpec.post enc Try.prog Try.f6 false true false false W args v W' := by
  have hW' := hW
  have hlt := hW.lt
  obtain ⟨p, q, hA0, hV, rfl, hfz, hnd⟩ := hW
  have hA : DataW.TrodAll enc Try.prog W 0 (fun _ => true) true Try.f6.params.toList args.toList ds p := hA0
  rw [Try.params6] at hA hval
  obtain ⟨v0, vs0, d0, ds0, p0, q0, hargs, rfl, rfl, h0, r0⟩ := trodAll_cons hA
  obtain ⟨v1, vs1, d1, ds1, p1, q1, rfl, rfl, rfl, h1, r1⟩ := trodAll_cons r0
  obtain ⟨rfl, rfl, rfl⟩ := trodAll_nil r1
  obtain rfl : args = #[v0, v1] := by cases args; simp_all
  obtain ⟨rfl, rfl⟩ := trodVars_none hV
  obtain ⟨a0, l0, c0, rfl⟩ := okWide_slice u22 (hval 0 22 v0 rfl rfl)
  obtain ⟨n1, rfl, rfl, rfl, w1⟩ := open_int u3 (hval 1 3 v1 rfl rfl) h1
  clear hA0
  simp only [List.append_nil, List.nil_append] at hW' hlt
  obtain ⟨x0, hx0⟩ := rep_of_trod (n := 3) (cells := pensionlaw25_Raw.cells) (hn := fun _ => rfl) is47 c47 (by decide) u22 h0
  have hm0 : x0.length ≤ 9223372036854775807 := rep_len hx0
  have hz0 := sized_of (t := 22) (e := 47) (j := 0) hsz (by kernel_rfl) rfl u22 h0 hx0
  refine (pensionlaw25_SicknessWaitingDays_ok x0 n1 hx0 (SicknessWaitingDays_true x0 n1)).mono fun e W' ⟨he, hE⟩ => ?_
  subst he
  exact ⟨_, rfl, post_of_below (pa := p0) (pv := []) hW' (fun _ _ _ => trodAll_cons_mk (shut_bool u4 _) trodAll_mk0)
    (fun sp hsp => by
      have e := trodAll_cons_mk (carry_slice (sp := sp) flat47 u22 h0 hE (fun p hp => hlt p (hp)) (fun p hp => hsp p (hp)) (by rw [c47]; decide)) (trodAll_cons_mk (shut_int u3 w1) (trodAll_mk0))
      simp only [List.append_nil, List.nil_append] at e
      exact e)
    (fun _ _ => rfl) (by simp) hE.below (ok_one (by kernel_rfl) rfl (okWide_bool_mk u4 _))⟩
theorem laid_met (os : Os) : laidMet Try.prog Rows.sicknessWaitingDaysRow.laid ((laidWorld os).forCall (fun _ _ => 0) ⟨#[], #[.slice none 0 0, .int .i64 0], []⟩).memory :=
  laidMet_of_run' 8 (by kernel_rfl) (by kernel_rfl)
theorem reads (os : Os) {H : Type} (enc : TypeId × Value → H) : ∃ places, DataW.whole enc Try.prog ((laidWorld os).forCall (fun _ _ => 0) ⟨#[], #[.slice none 0 0, .int .i64 0], []⟩).memory Try.f6.params.toList Rows.sicknessWaitingDaysSpec.vars false #[Value.slice none 0 0, .int .i64 0].toList 8 = some ([.nil, .lit (.int .i64 0)], [], places) :=
  ⟨[], by kernel_rfl⟩
theorem lifted (os : Os) (started : os.Started) (H : Type) (enc : TypeId × Value → H) (F : Stop.Interp) :
    ReturnsInHanded Rows.sicknessWaitingDaysRow.assume Try.checked os 6 .any ((OpenSpec.ofChange Rows.sicknessWaitingDaysSpec).preRow enc Try.prog Try.f6 Rows.sicknessWaitingDaysRow.domain false Rows.sicknessWaitingDaysRow.laid) (((OpenSpec.ofChange Rows.sicknessWaitingDaysSpec).at F).post enc Try.prog Try.f6 false true false false) := by
  obtain ⟨places, hx⟩ := reads os enc
  refine returnsInHanded_of_row (C := Try.checked) (s := OpenSpec.ofChange Rows.sicknessWaitingDaysSpec) own started (by kernel_rfl) Try.func6
    (witness_row_at (enc := enc) (C := Try.checked) false (laidWorld os) #[.slice none 0 0, .int .i64 0] rfl (by kernel_rfl) (by kernel_rfl) (by kernel_rfl)
      (OpenSpec.preRow_of_cond 8 hx (by kernel_rfl) (fun k hk => by cases hk) (by kernel_rfl) (laid_met os))) ?_
  intro W base args ds gs before hval hW _ _ hsz hL _ _
  exact contract H enc W base args ds gs before hval hW hL hsz
theorem said : Rows.SicknessWaitingDaysSaid :=
  OpenClaim.holds_of_cond 6 Try.f6 rfl rfl rfl rfl rfl rfl rfl ⟨rfl, rfl, rfl, rfl, rfl⟩ rfl rfl rfl rfl rfl (by kernel_rfl) Try.func6 (by kernel_rfl)
    (of_decide_eq_true (by kernel_rfl)) (by unfold Func.isWrapper; first | (rw [if_pos (by decide +kernel)]; kernel_rfl) | (rw [if_neg (by decide +kernel)]; exact ⟨rfl, rfl⟩))
    (fun os started H enc _ F => by rw [OpenClaim.pre_eq_preRow]; exact lifted os started H enc F)
end Go.Proofs.Ytndkbfbjjnhgoaa.sicknessWaitingDays
