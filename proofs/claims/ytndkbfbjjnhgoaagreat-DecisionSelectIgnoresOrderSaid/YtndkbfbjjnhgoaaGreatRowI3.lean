/- The statement DecisionSelectIgnoresOrder: its row and its card. The arguments are whatever they are. -/
import Derived.Test.YtndkbfbjjnhgoaaGreatRowBaseZ2
import Derived.Test.YtndkbfbjjnhgoaaGreatW
import Derived.Test.YtndkbfbjjnhgoaaGreatIgnO
set_option maxRecDepth 100000
set_option linter.unusedVariables false
set_option linter.unusedSimpArgs false
namespace Go.Proofs.YtndkbfbjjnhgoaaGreat.decisionSelectIgnoresOrder
open Go.ChangeShapes Go.WideShapes Go.ChangeAt Go.RowKit Go.PL

theorem own : ownKnob Tryz.prog.godebug = none := by kernel_rfl
/-- What the walk and the plain law give, for every argument and every world that holds the listed variable. -/
theorem contract (H : Type) (enc : TypeId × Value → H) (W : World) (base : Nat) (args : Array Value) (ds gs : List (DataW H)) (before : List MemPlace)
    (hval : ∀ (j : Nat) t v, Tryz.f3.params[j]? = some t → args[j]? = some v → Value.okWide Tryz.prog W .any base t v)
    (hW : DataW.Whole enc Tryz.prog Tryz.f3.params.toList Rows.decisionSelectIgnoresOrderSpec.vars false W args.toList ds gs before) (hL : laidMetH Tryz.prog Rows.decisionSelectIgnoresOrderRow.laid W)
    (hsz : (DataW.weightsEach Tryz.prog (Tryz.f3.params.toList ++ (OpenSpec.ofChange Rows.decisionSelectIgnoresOrderSpec).bare.plain.varTypes Tryz.prog) (ds ++ gs)).all (· ≤ reachBytes) = true) :
    Calls Tryz.prog 3 args W fun e W' => ∃ v, e = .returned v ∧ Rows.decisionSelectIgnoresOrderSpec.post enc Tryz.prog Tryz.f3 false true false false W args v W' := by
  have hW' := hW
  have hlt := hW.lt
  obtain ⟨p, q, hA0, hV, rfl, hfz, hnd⟩ := hW
  have hA : DataW.TrodAll enc Tryz.prog W 0 (fun _ => true) true Tryz.f3.params.toList args.toList ds p := hA0
  rw [Tryz.params3] at hA hval
  obtain ⟨v0, vs0, d0, ds0, p0, q0, hargs, rfl, rfl, h0, r0⟩ := trodAll_cons hA
  obtain ⟨v1, vs1, d1, ds1, p1, q1, rfl, rfl, rfl, h1, r1⟩ := trodAll_cons r0
  obtain ⟨v2, vs2, d2, ds2, p2, q2, rfl, rfl, rfl, h2, r2⟩ := trodAll_cons r1
  obtain ⟨v3, vs3, d3, ds3, p3, q3, rfl, rfl, rfl, h3, r3⟩ := trodAll_cons r2
  obtain ⟨v4, vs4, d4, ds4, p4, q4, rfl, rfl, rfl, h4, r4⟩ := trodAll_cons r3
  obtain ⟨v5, vs5, d5, ds5, p5, q5, rfl, rfl, rfl, h5, r5⟩ := trodAll_cons r4
  obtain ⟨rfl, rfl, rfl⟩ := trodAll_nil r5
  obtain rfl : args = #[v0, v1, v2, v3, v4, v5] := by cases args; simp_all
  obtain ⟨rfl, rfl⟩ := trodVars_none hV
  obtain ⟨a0, l0, c0, rfl⟩ := okWide_slice u22 (hval 0 22 v0 rfl rfl)
  obtain ⟨a1, l1, c1, rfl⟩ := okWide_slice u23 (hval 1 23 v1 rfl rfl)
  obtain ⟨n2, rfl, rfl, rfl, w2⟩ := open_int u3 (hval 2 3 v2 rfl rfl) h2
  obtain ⟨n3, rfl, rfl, rfl, w3⟩ := open_int u3 (hval 3 3 v3 rfl rfl) h3
  obtain ⟨n4, rfl, rfl, rfl, w4⟩ := open_int u3 (hval 4 3 v4 rfl rfl) h4
  obtain ⟨n5, rfl, rfl, rfl, w5⟩ := open_int u3 (hval 5 3 v5 rfl rfl) h5
  clear hA0
  simp only [List.append_nil, List.nil_append] at hW' hlt
  obtain ⟨x0, hx0⟩ := rep_of_trod (n := 6) (cells := pensionhand_Claim.cells) (hn := fun _ => rfl) is50 c50 (by decide) u22 h0
  have hm0 : x0.length ≤ 9223372036854775807 := rep_len hx0
  have hz0 := sized_of (t := 22) (e := 50) (j := 0) hsz (by kernel_rfl) rfl u22 h0 hx0
  obtain ⟨x1, hx1⟩ := rep_of_trod (n := 6) (cells := Claim.cells) (hn := fun _ => rfl) is28 c28 (by decide) u23 h1
  have hm1 : x1.length ≤ 9223372036854775807 := rep_len hx1
  have hz1 := sized_of (t := 23) (e := 28) (j := 1) hsz (by kernel_rfl) rfl u23 h1 hx1
  refine (pensionlaw26_DecisionSelectIgnoresOrder_ok x0 x1 n2 n3 n4 n5 hx0 hx1 (DecisionSelectIgnoresOrder_true x0 hm0 x1 (by have h := hz1; rw [show Tryz.prog.bytesOf 28 = 48 by kernel_rfl] at h; exact h) n2 n3 n4 n5)).mono fun e W' ⟨he, hE⟩ => ?_
  subst he
  exact ⟨_, rfl, post_of_below (pa := p0 ++ p1) (pv := []) hW' (fun _ _ _ => trodAll_cons_mk (shut_bool u4 _) trodAll_mk0)
    (fun sp hsp => by
      have e := trodAll_cons_mk (carry_slice (sp := sp) flat50 u22 h0 hE (fun p hp => hlt p (List.mem_append_left _ hp)) (fun p hp => hsp p (List.mem_append_left _ hp)) (by rw [c50]; decide)) (trodAll_cons_mk (carry_slice (sp := sp) flat28 u23 h1 hE (fun p hp => hlt p (List.mem_append_right _ (hp))) (fun p hp => hsp p (List.mem_append_right _ (hp))) (by rw [c28]; decide)) (trodAll_cons_mk (shut_int u3 w2) (trodAll_cons_mk (shut_int u3 w3) (trodAll_cons_mk (shut_int u3 w4) (trodAll_cons_mk (shut_int u3 w5) (trodAll_mk0))))))
      simp only [List.append_nil, List.nil_append] at e
      exact e)
    (fun _ _ => rfl) (by simp) hE.below (ok_one (by kernel_rfl) rfl (okWide_bool_mk u4 _))⟩
theorem laid_met (os : Os) : laidMet Tryz.prog Rows.decisionSelectIgnoresOrderRow.laid ((laidWorld os).forCall (fun _ _ => 0) ⟨#[], #[.slice none 0 0, .slice none 0 0, .int .i64 0, .int .i64 0, .int .i64 0, .int .i64 0], []⟩).memory :=
  laidMet_of_run' 8 (by kernel_rfl) (by kernel_rfl)
theorem reads (os : Os) {H : Type} (enc : TypeId × Value → H) : ∃ places, DataW.whole enc Tryz.prog ((laidWorld os).forCall (fun _ _ => 0) ⟨#[], #[.slice none 0 0, .slice none 0 0, .int .i64 0, .int .i64 0, .int .i64 0, .int .i64 0], []⟩).memory Tryz.f3.params.toList Rows.decisionSelectIgnoresOrderSpec.vars false #[Value.slice none 0 0, .slice none 0 0, .int .i64 0, .int .i64 0, .int .i64 0, .int .i64 0].toList 8 = some ([.nil, .nil, .lit (.int .i64 0), .lit (.int .i64 0), .lit (.int .i64 0), .lit (.int .i64 0)], [], places) :=
  ⟨[], by kernel_rfl⟩
theorem lifted (os : Os) (started : os.Started) (H : Type) (enc : TypeId × Value → H) (F : Stop.Interp) :
    ReturnsInHanded Rows.decisionSelectIgnoresOrderRow.assume Tryz.checked os 3 .any ((OpenSpec.ofChange Rows.decisionSelectIgnoresOrderSpec).preRow enc Tryz.prog Tryz.f3 Rows.decisionSelectIgnoresOrderRow.domain false Rows.decisionSelectIgnoresOrderRow.laid) (((OpenSpec.ofChange Rows.decisionSelectIgnoresOrderSpec).at F).post enc Tryz.prog Tryz.f3 false true false false) := by
  obtain ⟨places, hx⟩ := reads os enc
  refine returnsInHanded_of_row (C := Tryz.checked) (s := OpenSpec.ofChange Rows.decisionSelectIgnoresOrderSpec) own started (by kernel_rfl) Tryz.func3
    (witness_row_at (enc := enc) (C := Tryz.checked) false (laidWorld os) #[.slice none 0 0, .slice none 0 0, .int .i64 0, .int .i64 0, .int .i64 0, .int .i64 0] rfl (by kernel_rfl) (by kernel_rfl) (by kernel_rfl)
      (OpenSpec.preRow_of_cond 8 hx (by kernel_rfl) (fun k hk => by cases hk) (by kernel_rfl) (laid_met os))) ?_
  intro W base args ds gs before hval hW _ _ hsz hL _ _
  exact contract H enc W base args ds gs before hval hW hL hsz
theorem said : Rows.DecisionSelectIgnoresOrderSaid :=
  OpenClaim.holds_of_cond 3 Tryz.f3 rfl rfl rfl rfl rfl rfl rfl ⟨rfl, rfl, rfl, rfl, rfl⟩ rfl rfl rfl rfl rfl (by kernel_rfl) Tryz.func3 (by kernel_rfl)
    (of_decide_eq_true (by kernel_rfl)) (by unfold Func.isWrapper; first | (rw [if_pos (by decide +kernel)]; kernel_rfl) | (rw [if_neg (by decide +kernel)]; exact ⟨rfl, rfl⟩))
    (fun os started H enc _ F => by rw [OpenClaim.pre_eq_preRow]; exact lifted os started H enc F)
end Go.Proofs.YtndkbfbjjnhgoaaGreat.decisionSelectIgnoresOrder
