/- The statement SicknessMostDays: its row and its card. The arguments are whatever they are. -/
import Derived.Test.YtndkbfbjjnhgoaaRowBaseS
import Derived.Test.YtndkbfbjjnhgoaaW
import Derived.Test.YtndkbfbjjnhgoaaSpL
set_option maxRecDepth 100000
set_option linter.unusedVariables false
set_option linter.unusedSimpArgs false
namespace Go.Proofs.Ytndkbfbjjnhgoaa.sicknessMostDays
open Go.ChangeShapes Go.WideShapes Go.ChangeAt Go.RowKit Go.PL

theorem own : ownKnob Try.prog.godebug = none := by kernel_rfl
/-- What the walk and the plain law give, for every argument and every world that holds the listed variable. -/
theorem contract (H : Type) (enc : TypeId × Value → H) (W : World) (base : Nat) (args : Array Value) (ds gs : List (DataW H)) (before : List MemPlace)
    (hval : ∀ (j : Nat) t v, Try.f7.params[j]? = some t → args[j]? = some v → Value.okWide Try.prog W .any base t v)
    (hW : DataW.Whole enc Try.prog Try.f7.params.toList Rows.sicknessMostDaysSpec.vars false W args.toList ds gs before) (hL : laidMetH Try.prog Rows.sicknessMostDaysRow.laid W)
    (hsz : (DataW.weightsEach Try.prog (Try.f7.params.toList ++ (OpenSpec.ofChange Rows.sicknessMostDaysSpec).bare.plain.varTypes Try.prog) (ds ++ gs)).all (· ≤ reachBytes) = true) :
    Calls Try.prog 7 args W fun e W' => ∃ v, e = .returned v ∧ Rows.sicknessMostDaysSpec.post enc Try.prog Try.f7 false true false false W args v W' := by
  have hW' := hW
  have hlt := hW.lt
  obtain ⟨p, q, hA0, hV, rfl, hfz, hnd⟩ := hW
  have hA : DataW.TrodAll enc Try.prog W 0 (fun _ => true) true Try.f7.params.toList args.toList ds p := hA0
  rw [Try.params7] at hA hval
  obtain ⟨v0, vs0, d0, ds0, p0, q0, hargs, rfl, rfl, h0, r0⟩ := trodAll_cons hA
  obtain ⟨v1, vs1, d1, ds1, p1, q1, rfl, rfl, rfl, h1, r1⟩ := trodAll_cons r0
  obtain ⟨v2, vs2, d2, ds2, p2, q2, rfl, rfl, rfl, h2, r2⟩ := trodAll_cons r1
  obtain ⟨rfl, rfl, rfl⟩ := trodAll_nil r2
  obtain rfl : args = #[v0, v1, v2] := by cases args; simp_all
  obtain ⟨rfl, rfl⟩ := trodVars_none hV
  obtain ⟨a0, l0, c0, rfl⟩ := okWide_slice u22 (hval 0 22 v0 rfl rfl)
  obtain ⟨n1, rfl, rfl, rfl, w1⟩ := open_int u3 (hval 1 3 v1 rfl rfl) h1
  obtain ⟨n2, rfl, rfl, rfl, w2⟩ := open_int u3 (hval 2 3 v2 rfl rfl) h2
  clear hA0
  simp only [List.append_nil, List.nil_append] at hW' hlt
  obtain ⟨x0, hx0⟩ := rep_of_trod (n := 3) (cells := pensionlaw25_Raw.cells) (hn := fun _ => rfl) is47 c47 (by decide) u22 h0
  have hm0 : x0.length ≤ 9223372036854775807 := rep_len hx0
  have hz0 := sized_of (t := 22) (e := 47) (j := 0) hsz (by kernel_rfl) rfl u22 h0 hx0
  refine (pensionlaw25_SicknessMostDays_ok x0 n1 n2 hx0 (SicknessMostDays_true x0 n1 n2)).mono fun e W' ⟨he, hE⟩ => ?_
  subst he
  exact ⟨_, rfl, post_of_below (pa := p0) (pv := []) hW' (fun _ _ _ => trodAll_cons_mk (shut_bool u4 _) trodAll_mk0)
    (fun sp hsp => by
      have e := trodAll_cons_mk (carry_slice (sp := sp) flat47 u22 h0 hE (fun p hp => hlt p (hp)) (fun p hp => hsp p (hp)) (by rw [c47]; decide)) (trodAll_cons_mk (shut_int u3 w1) (trodAll_cons_mk (shut_int u3 w2) (trodAll_mk0)))
      simp only [List.append_nil, List.nil_append] at e
      exact e)
    (fun _ _ => rfl) (by simp) hE.below (ok_one (by kernel_rfl) rfl (okWide_bool_mk u4 _))⟩
theorem laid_met (os : Os) : laidMet Try.prog Rows.sicknessMostDaysRow.laid ((laidWorld os).forCall (fun _ _ => 0) ⟨#[], #[.slice none 0 0, .int .i64 0, .int .i64 0], []⟩).memory :=
  laidMet_of_run' 8 (by kernel_rfl) (by kernel_rfl)
theorem reads (os : Os) {H : Type} (enc : TypeId × Value → H) : ∃ places, DataW.whole enc Try.prog ((laidWorld os).forCall (fun _ _ => 0) ⟨#[], #[.slice none 0 0, .int .i64 0, .int .i64 0], []⟩).memory Try.f7.params.toList Rows.sicknessMostDaysSpec.vars false #[Value.slice none 0 0, .int .i64 0, .int .i64 0].toList 8 = some ([.nil, .lit (.int .i64 0), .lit (.int .i64 0)], [], places) :=
  ⟨[], by kernel_rfl⟩
theorem lifted (os : Os) (started : os.Started) (H : Type) (enc : TypeId × Value → H) (F : Stop.Interp) :
    ReturnsInHanded Rows.sicknessMostDaysRow.assume Try.checked os 7 .any ((OpenSpec.ofChange Rows.sicknessMostDaysSpec).preRow enc Try.prog Try.f7 Rows.sicknessMostDaysRow.domain false Rows.sicknessMostDaysRow.laid) (((OpenSpec.ofChange Rows.sicknessMostDaysSpec).at F).post enc Try.prog Try.f7 false true false false) := by
  obtain ⟨places, hx⟩ := reads os enc
  refine returnsInHanded_of_row (C := Try.checked) (s := OpenSpec.ofChange Rows.sicknessMostDaysSpec) own started (by kernel_rfl) Try.func7
    (witness_row_at (enc := enc) (C := Try.checked) false (laidWorld os) #[.slice none 0 0, .int .i64 0, .int .i64 0] rfl (by kernel_rfl) (by kernel_rfl) (by kernel_rfl)
      (OpenSpec.preRow_of_cond 8 hx (by kernel_rfl) (fun k hk => by cases hk) (by kernel_rfl) (laid_met os))) ?_
  intro W base args ds gs before hval hW _ _ hsz hL _ _
  exact contract H enc W base args ds gs before hval hW hL hsz
theorem said : Rows.SicknessMostDaysSaid :=
  OpenClaim.holds_of_cond 7 Try.f7 rfl rfl rfl rfl rfl rfl rfl ⟨rfl, rfl, rfl, rfl, rfl⟩ rfl rfl rfl rfl rfl (by kernel_rfl) Try.func7 (by kernel_rfl)
    (of_decide_eq_true (by kernel_rfl)) (by unfold Func.isWrapper; first | (rw [if_pos (by decide +kernel)]; kernel_rfl) | (rw [if_neg (by decide +kernel)]; exact ⟨rfl, rfl⟩))
    (fun os started H enc _ F => by rw [OpenClaim.pre_eq_preRow]; exact lifted os started H enc F)
end Go.Proofs.Ytndkbfbjjnhgoaa.sicknessMostDays
