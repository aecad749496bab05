/- The statement FamilyParentsAgree: its row and its card. The arguments are whatever they are. -/
import Derived.Test.YtndkbfbjjnhgoaaGreatDoorRowBaseP
import Derived.Test.YtndkbfbjjnhgoaaGreatDoorW
import Derived.Test.YtndkbfbjjnhgoaaGreatDoorFpa
set_option maxRecDepth 100000
set_option linter.unusedVariables false
set_option linter.unusedSimpArgs false
namespace Go.Proofs.YtndkbfbjjnhgoaaGreatDoor.familyParentsAgree
open Go.ChangeShapes Go.WideShapes Go.ChangeAt Go.RowKit Go.PL

theorem own : ownKnob Tryz.prog.godebug = none := by kernel_rfl
/-- What the walk and the plain law give, for every argument and every world that holds the listed variable. -/
theorem contract (H : Type) (enc : TypeId × Value → H) (W : World) (base : Nat) (args : Array Value) (ds gs : List (DataW H)) (before : List MemPlace)
    (hval : ∀ (j : Nat) t v, Tryz.f3.params[j]? = some t → args[j]? = some v → Value.okWide Tryz.prog W .any base t v)
    (hW : DataW.Whole enc Tryz.prog Tryz.f3.params.toList Rows.familyParentsAgreeSpec.vars false W args.toList ds gs before) (hL : laidMetH Tryz.prog Rows.familyParentsAgreeRow.laid W)
    (hsz : (DataW.weightsEach Tryz.prog (Tryz.f3.params.toList ++ (OpenSpec.ofChange Rows.familyParentsAgreeSpec).bare.plain.varTypes Tryz.prog) (ds ++ gs)).all (· ≤ reachBytes) = true) :
    Calls Tryz.prog 3 args W fun e W' => ∃ v, e = .returned v ∧ Rows.familyParentsAgreeSpec.post enc Tryz.prog Tryz.f3 false true false false W args v W' := by
  have hW' := hW
  have hlt := hW.lt
  obtain ⟨p, q, hA0, hV, rfl, hfz, hnd⟩ := hW
  have hA : DataW.TrodAll enc Tryz.prog W 0 (fun _ => true) true Tryz.f3.params.toList args.toList ds p := hA0
  rw [Tryz.params3] at hA hval
  obtain ⟨v0, vs0, d0, ds0, p0, q0, hargs, rfl, rfl, h0, r0⟩ := trodAll_cons hA
  obtain ⟨v1, vs1, d1, ds1, p1, q1, rfl, rfl, rfl, h1, r1⟩ := trodAll_cons r0
  obtain ⟨v2, vs2, d2, ds2, p2, q2, rfl, rfl, rfl, h2, r2⟩ := trodAll_cons r1
  obtain ⟨v3, vs3, d3, ds3, p3, q3, rfl, rfl, rfl, h3, r3⟩ := trodAll_cons r2
  obtain ⟨rfl, rfl, rfl⟩ := trodAll_nil r3
  obtain rfl : args = #[v0, v1, v2, v3] := by cases args; simp_all
  obtain ⟨rfl, rfl⟩ := trodVars_none hV
  obtain ⟨a0, l0, c0, rfl⟩ := okWide_slice u22 (hval 0 22 v0 rfl rfl)
  obtain ⟨a1, l1, c1, rfl⟩ := okWide_slice u23 (hval 1 23 v1 rfl rfl)
  obtain ⟨n2, rfl, rfl, rfl, w2⟩ := open_int u3 (hval 2 3 v2 rfl rfl) h2
  obtain ⟨n3, rfl, rfl, rfl, w3⟩ := open_int u3 (hval 3 3 v3 rfl rfl) h3
  clear hA0
  simp only [List.append_nil, List.nil_append] at hW' hlt
  obtain ⟨x0, hx0⟩ := rep_of_trod (n := 1) (cells := fun x : Int => [Value.int .i64 x]) (hn := fun _ => rfl) is3 c3 (by decide) u22 h0
  have hm0 : x0.length ≤ 9223372036854775807 := rep_len hx0
  have hz0 := sized_of (t := 22) (e := 3) (j := 0) hsz (by kernel_rfl) rfl u22 h0 hx0
  obtain ⟨x1, hx1⟩ := rep_of_trod (n := 13) (cells := pensionhand_Fact.cells) (hn := fun _ => rfl) is41 c41 (by decide) u23 h1
  have hm1 : x1.length ≤ 9223372036854775807 := rep_len hx1
  have hz1 := sized_of (t := 23) (e := 41) (j := 1) hsz (by kernel_rfl) rfl u23 h1 hx1
  refine (pensionlaw24_FamilyParentsAgree_ok (down_cells hL) x0 x1 n2 n3 hx0 hx1 (FamilyParentsAgree_true x0 hm0 x1 n2 n3)).mono fun e W' ⟨he, hE⟩ => ?_
  subst he
  exact ⟨_, rfl, post_of_below (pa := p0 ++ p1) (pv := []) hW' (fun _ _ _ => trodAll_cons_mk (shut_bool u4 _) trodAll_mk0)
    (fun sp hsp => by
      have e := trodAll_cons_mk (carry_slice (sp := sp) flat3 u22 h0 hE (fun p hp => hlt p (List.mem_append_left _ hp)) (fun p hp => hsp p (List.mem_append_left _ hp)) (by rw [c3]; decide)) (trodAll_cons_mk (carry_slice (sp := sp) flat41 u23 h1 hE (fun p hp => hlt p (List.mem_append_right _ (hp))) (fun p hp => hsp p (List.mem_append_right _ (hp))) (by rw [c41]; decide)) (trodAll_cons_mk (shut_int u3 w2) (trodAll_cons_mk (shut_int u3 w3) (trodAll_mk0))))
      simp only [List.append_nil, List.nil_append] at e
      exact e)
    (fun _ _ => rfl) (by simp) hE.below (ok_one (by kernel_rfl) rfl (okWide_bool_mk u4 _))⟩
theorem laid_met (os : Os) : laidMet Tryz.prog Rows.familyParentsAgreeRow.laid ((laidWorld os).forCall (fun _ _ => 0) ⟨#[], #[.slice none 0 0, .slice none 0 0, .int .i64 0, .int .i64 0], []⟩).memory :=
  laidMet_of_run' 8 (by kernel_rfl) (by kernel_rfl)
theorem reads (os : Os) {H : Type} (enc : TypeId × Value → H) : ∃ places, DataW.whole enc Tryz.prog ((laidWorld os).forCall (fun _ _ => 0) ⟨#[], #[.slice none 0 0, .slice none 0 0, .int .i64 0, .int .i64 0], []⟩).memory Tryz.f3.params.toList Rows.familyParentsAgreeSpec.vars false #[Value.slice none 0 0, .slice none 0 0, .int .i64 0, .int .i64 0].toList 8 = some ([.nil, .nil, .lit (.int .i64 0), .lit (.int .i64 0)], [], places) :=
  ⟨[], by kernel_rfl⟩
theorem lifted (os : Os) (started : os.Started) (H : Type) (enc : TypeId × Value → H) (F : Stop.Interp) :
    ReturnsInHanded Rows.familyParentsAgreeRow.assume Tryz.checked os 3 .any ((OpenSpec.ofChange Rows.familyParentsAgreeSpec).preRow enc Tryz.prog Tryz.f3 Rows.familyParentsAgreeRow.domain false Rows.familyParentsAgreeRow.laid) (((OpenSpec.ofChange Rows.familyParentsAgreeSpec).at F).post enc Tryz.prog Tryz.f3 false true false false) := by
  obtain ⟨places, hx⟩ := reads os enc
  refine returnsInHanded_of_row (C := Tryz.checked) (s := OpenSpec.ofChange Rows.familyParentsAgreeSpec) own started (by kernel_rfl) Tryz.func3
    (witness_row_at (enc := enc) (C := Tryz.checked) false (laidWorld os) #[.slice none 0 0, .slice none 0 0, .int .i64 0, .int .i64 0] rfl (by kernel_rfl) (by kernel_rfl) (by kernel_rfl)
      (OpenSpec.preRow_of_cond 8 hx (by kernel_rfl) (fun k hk => by cases hk) (by kernel_rfl) (laid_met os))) ?_
  intro W base args ds gs before hval hW _ _ hsz hL _ _
  exact contract H enc W base args ds gs before hval hW hL hsz
theorem said : Rows.FamilyParentsAgreeSaid :=
  OpenClaim.holds_of_cond 3 Tryz.f3 rfl rfl rfl rfl rfl rfl rfl ⟨rfl, rfl, rfl, rfl, rfl⟩ rfl rfl rfl rfl rfl (by kernel_rfl) Tryz.func3 (by kernel_rfl)
    (of_decide_eq_true (by kernel_rfl)) (by unfold Func.isWrapper; first | (rw [if_pos (by decide +kernel)]; kernel_rfl) | (rw [if_neg (by decide +kernel)]; exact ⟨rfl, rfl⟩))
    (fun os started H enc _ F => by rw [OpenClaim.pre_eq_preRow]; exact lifted os started H enc F)
/-- No parameter wants a stand-in; the program's own looks are off. -/
theorem plain (f : FuncId) (fn : Func) (hf : Tryz.pinned.checked.prog.funcNamed "pension/pensionlaw24.FamilyParentsAgree" = some f) (hfn : Tryz.pinned.checked.prog.funcs[f]? = some fn) :
    false = Tryz.pinned.checked.prog.looks [] ∧ ∀ (j : Nat) t, fn.params[j]? = some t → Tryz.pinned.checked.prog.wantsStandIn t = false := by
  obtain rfl : f = 3 := Option.some.inj ((show Tryz.prog.funcNamed "pension/pensionlaw24.FamilyParentsAgree" = some 3 by kernel_rfl).symm.trans hf) |>.symm
  obtain rfl : fn = Tryz.f3 := (Option.some.inj (Tryz.func3.symm.trans hfn)).symm
  refine ⟨by kernel_rfl, fun j t ht => ?_⟩
  rw [Tryz.params3] at ht
  have hm := Array.mem_of_getElem? ht
  simp only [List.mem_toArray, List.mem_cons, List.not_mem_nil, or_false] at hm
  rcases hm with rfl | rfl | rfl | rfl <;> first | exact (show Tryz.prog.wantsStandIn 3 = false by kernel_rfl) | exact (show Tryz.prog.wantsStandIn 22 = false by kernel_rfl) | exact (show Tryz.prog.wantsStandIn 23 = false by kernel_rfl)
theorem card : Rows.FamilyParentsAgreeCardSaid :=
  Claim7.holds_tied_plain_at .later [] _ _ _ _ said (fun _ h => by cases h) (by kernel_rfl) (fun _ h => by cases h) familyParentsAgree_row_tie rfl ⟨rfl, rfl⟩ (by kernel_rfl) rfl plain (by kernel_rfl)
end Go.Proofs.YtndkbfbjjnhgoaaGreatDoor.familyParentsAgree
