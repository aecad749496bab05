/- The translated code computes the Lean functions (printed by a program). -/
import Derived.Test.YtndkbfbjjnhgoaaTy
set_option linter.unusedVariables false
set_option linter.unusedSimpArgs false
set_option maxRecDepth 10000
namespace Go.PL
open Go Go.Proofs

set_option maxHeartbeats 4000000 in
theorem pensionplain_Mod_ok {w0 : World} (n_ : Int) (m_ : Int) {r : Int} (hF : pensionplain_Mod n_ m_ = some r) :
    Calls Try.prog 26 #[.int .i64 n_, .int .i64 m_] w0 fun e w1 => e = .returned (.int .i64 r) ∧ Ext noG w0 w1 := by
  refine (Calls.start (P := Try.prog) (args := [.int .i64 n_, .int .i64 m_]) (R := fun v w1 => v = .int .i64 r ∧ Ext noG w0 w1) (n := 15) (w := w0) Try.func26 rfl rfl (Nat.le_of_ble_eq_true rfl) (fun ρ hargs => ?_)).mono (fun e w1 ⟨v, he, hv, hE⟩ => ⟨hv ▸ he, hE⟩)
  have h0 := hargs 0 _ rfl
  have h1 := hargs 1 _ rfl
  have hW := Ext.refl noG w0
  rw [pensionplain_Mod] at hF
  refine WP.seq (WP.rb mixed [[]] [[]] [(4, .int .i64 0)] (by kernel_rfl) ⟨aC rfl rfl (fun _ => rfl), trivial⟩ ?_)
  intro ρ1 w1 hN hf hr
  obtain ⟨h0, h1⟩ := k2 hr h0 h1 rfl
  have hW := hW.trans hN
  refine WP.seq ?_
  obtain ⟨q, hq, hF⟩ := obind hF
  refine WP.rb mixed [[], [], [0, 1], [2]] [[0], [1], [], []] [(6, .int .i64 n_), (7, .int .i64 m_), (8, .int .i64 q), (5, .int .i64 q)] (by kernel_rfl) ⟨mE rfl rfl h0,
 mE rfl rfl h1,
 fun ρz wz hE hA _ ⟨u0, u1, _⟩ => core_val rfl rfl (o_rem u0 u1 (remI_some hq).1 (remI_some hq).2),
 aU rfl rfl rfl, trivial⟩ ?_
  intro ρ2 w2 hN hf hr
  have h5 := hv hf 3 rfl rfl
  have h1 := (hr 1 rfl).trans h1
  have hW := hW.trans hN
  refine WP.seqJ (fun ρ w => ∃ r_ : Int, ρ 5 = .int .i64 r_ ∧ Ext noG w0 w ∧ pensionplain_Mod_j r_ = some r) ?_ ?_
  · refine WP.seq (WP.rb mixed [[], [0]] [[5], []] [(9, .int .i64 q), (10, .bool (decide (q < 0)))] (by kernel_rfl) ⟨mE rfl rfl h5,
 fun ρz wz hE hA _ ⟨u0, _⟩ => core_val rfl rfl (o_lss u0 rfl rfl), trivial⟩ ?_)
    intro ρ5 w5 hN hf hr
    have h10 := hv hf 1 rfl rfl
    obtain ⟨h1, h5⟩ := k2 hr h1 h5 rfl
    have hW := hW.trans hN
    refine WP.cond rfl h10 (fun hb => ?_) (fun hb => ?_)
    · have hF := (if_pos hb).symm.trans hF
      refine WP.rv mixed [[], [], [0, 1], [0, 2]] [[], [], [0, 1], [2]] [[5], [1], [], []] [(11, .int .i64 q), (12, .int .i64 m_), (13, .int .i64 (i64 (q + m_))), (5, .int .i64 (i64 (q + m_)))] (by kernel_rfl) ⟨mE rfl rfl h5,
 mE rfl rfl h1,
 fun ρz wz hE hA _ ⟨u0, u1, _⟩ => core_val rfl rfl (o_add u0 u1 rfl),
 aU rfl rfl rfl, trivial⟩ ?_
      intro ρ6 w6 hN hf hr
      have h5 := hv hf 3 rfl rfl
      have hW := hW.trans hN
      exact ⟨i64 (q + m_), h5, hW, hF⟩
    have hF := (if_neg (Bool.eq_false_iff.1 hb)).symm.trans hF
    refine WP.skip ?_
    exact ⟨q, h5, hW, hF⟩
  rintro ρ3 w3 ⟨r_, h5, hW, hF⟩
  rw [pensionplain_Mod_j] at hF
  refine WP.seq (WP.rb mixed [[], [0]] [[5], []] [(14, .int .i64 r_), (4, .int .i64 r_)] (by kernel_rfl) ⟨mE rfl rfl h5,
 aU rfl rfl rfl, trivial⟩ ?_)
  intro ρ4 w4 hN hf hr
  have h4 := hv hf 1 rfl rfl
  have hW := hW.trans hN
  refine WP.ret ?_
  show retQ Try.prog 15 Try.f26 (fun v w1 => v = .int .i64 r ∧ Ext noG w0 w1) .ret ρ4 w4
  obtain rfl := Option.some.inj hF
  exact res1 rfl (by decide) h4 ⟨rfl, hW⟩

set_option maxHeartbeats 4000000 in
theorem pensionlaw25_List_ok {w0 : World} (d_ : List pensionlaw25_Raw) (i_ : Int) {v_d_ : Value} (H_d_ : RepSl pensionlaw25_Raw.R noG w0 v_d_ d_) {r : (List api_Fact)} (hF : pensionlaw25_List d_ i_ = some r) :
    Calls Try.prog 8 #[v_d_, .int .i64 i_] w0 fun e w1 => ∃ v, e = .returned v ∧ Ext noG w0 w1 ∧ Own w0.heap.size 49 14 api_Fact.cells w1 v r := by
  refine (Calls.start (P := Try.prog) (args := [v_d_, .int .i64 i_]) (R := fun v w1 => Own w0.heap.size 49 14 api_Fact.cells w1 v r ∧ Ext noG w0 w1) (n := 88) (w := w0) Try.func8 rfl rfl (Nat.le_of_ble_eq_true rfl) (fun ρ hargs => ?_)).mono (fun e w1 ⟨v, he, hv, hE⟩ => ⟨v, he, hE, hv⟩)
  have h0 := hargs 0 _ rfl
  have h1 := hargs 1 _ rfl
  have hW := Ext.refl noG w0
  obtain ⟨_, _, hs_H_d_, _, _⟩ := RepSl.shape H_d_
  have H_d_ := H_d_.start
  rw [pensionlaw25_List] at hF
  refine WP.seq (WP.rb mixed [[]] [[]] [(4, .slice none 0 0)] (by kernel_rfl) ⟨aC rfl rfl (fun _ => rfl), trivial⟩ ?_)
  intro ρ1 w1 hN hf hr
  obtain ⟨h0, h1⟩ := k2 hr h0 h1 rfl
  have H_d_ := H_d_.exn hN
  have hW := hW.trans hN
  refine WP.seq ?_
  obtain ⟨z, hz, hF⟩ := obind hF
  refine WP.rb mixed [[], [0], [1], [2]] [[1], [], [], []] [(9, .int .i64 i_), (10, .int .i64 z), (11, .int .i64 (i64 (20000 + z))), (5, .int .i64 (i64 (20000 + z)))] (by kernel_rfl) ⟨mE rfl rfl h1,
 fun ρz wz hE hA _ ⟨u0, _⟩ => core_call rfl (call_args2 u0 rfl) cf_26 (pensionplain_Mod_ok  _ _  hz),
 fun ρz wz hE hA _ ⟨u1, _⟩ => core_val rfl rfl (o_add rfl u1 rfl),
 aU rfl rfl rfl, trivial⟩ ?_
  intro ρ2 w2 hN hf hr
  have h5 := hv hf 3 rfl rfl
  have h0 := (hr 0 rfl).trans h0
  have H_d_ := H_d_.exn hN
  have hW := hW.trans hN
  refine WP.seq (WP.rb mixed [[]] [[]] [(6, .slice none 0 0)] (by kernel_rfl) ⟨aC rfl rfl (fun _ => rfl), trivial⟩ ?_)
  intro ρ3 w3 hN hf hr
  have h6 : ρ3 6 = .slice none 0 0 := hf 0 rfl
  have O6 : Own w0.heap.size 49 14 api_Fact.cells w3 (.slice none 0 0) [] := Own.nil _ _ _ _ _
  obtain ⟨h0, h5⟩ := k2 hr h0 h5 rfl
  have H_d_ := H_d_.exn hN
  have hW := hW.trans hN
  have O6 : Own w0.heap.size 49 14 api_Fact.cells w3 (.slice none 0 0) [] := Own.nil _ _ _ _ _
  refine WP.seq (WP.seq (WP.rb mixed [[]] [[]] [(7, .int .i64 0)] (by kernel_rfl) ⟨aC rfl rfl (fun _ => rfl), trivial⟩ ?_))
  intro ρ4 w4 hN hf hr
  have h7 := hv hf 0 rfl rfl
  obtain ⟨h0, h5, h6⟩ := k3 hr h0 h5 h6 rfl
  have Oo_O6 := O6
  have H_d_ := H_d_.exn hN
  have hW := hW.trans hN
  have O6 : Own w0.heap.size 49 14 api_Fact.cells w4 (.slice none 0 0) [] := Own.nil _ _ _ _ _
  refine WP.block (WP.loop (fun k_ ρ w => ∃ x : Int, ∃ x2 : List api_Fact, ∃ x3 : Int, ∃ v6_ : Value, ρ 0 = v_d_ ∧ ρ 5 = .int .i64 x ∧ ρ 6 = v6_ ∧ ρ 7 = .int .i64 x3 ∧ RepSl pensionlaw25_Raw.R (gfr noG w0) w v_d_ d_ ∧ Own w0.heap.size 49 14 api_Fact.cells w v6_ x2 ∧ Ext noG w0 w ∧ loopC k_ (pensionlaw25_List_l d_) (x, x2, x3) = some r) FU ⟨i64 (20000 + z), [], 0, .slice none 0 0, h0, h5, h6, h7, H_d_, O6, hW, hF⟩ (fun _ _ h => by obtain ⟨_, _, _, _, _, _, _, _, _, _, _, h⟩ := h; cases h) ?_)
  rintro k_ ρ5 w5 ⟨x, x2, x3, v6_, h0, h5, h6, h7, H_d_, O6, hW, hF⟩
  have hF : pensionlaw25_List_l d_ (loopC k_ (pensionlaw25_List_l d_)) (x, x2, x3) = some r := hF
  generalize hrec_ : loopC k_ (pensionlaw25_List_l d_) = rec_ at hF
  rw [pensionlaw25_List_l] at hF
  refine WP.seq (WP.seq (WP.rb mixed [[], [], [1], [0, 2], [3], [4], [4, 5], [4, 6]] [[7], [0], [], [], [], [7], [], []] [(12, .int .i64 x3), (13, v_d_), (14, .int .i64 (d_.length : Int)), (15, .bool (decide (x3 < (d_.length : Int)))), (16, .bool (decide (x3 < (d_.length : Int)))), (17, gv (decide (x3 < (d_.length : Int))) (.int .i64 x3)), (18, gv (decide (x3 < (d_.length : Int))) (.bool (decide (x3 < 10)))), (19, .bool (decide (x3 < (d_.length : Int)) && decide (x3 < 10)))] (by kernel_rfl) ⟨mE rfl rfl h7,
 mE rfl rfl h0,
 fun ρz wz hE hA _ ⟨u1, _⟩ => core_val rfl rfl (o_len (u1.trans hs_H_d_) len_22),
 fun ρz wz hE hA _ ⟨u0, u2, _⟩ => core_val rfl rfl (o_lss u0 u2 rfl),
 mU rfl rfl rfl,
 fun ρz wz hE hA ⟨e7, _⟩ ⟨u4, _⟩ => gIf rfl rfl (yT rfl u4) fun gc F hF => core_val rfl hF (o_move (e7.trans h7)),
 fun ρz wz hE hA _ ⟨u4, u5, _⟩ => gIf rfl rfl (yT rfl u4) fun gc F hF => core_val rfl hF (o_lss (gt gc u5) rfl rfl),
 fun ρz wz hE hA _ ⟨u4, u6, _⟩ => core_val rfl rfl (o_pick_and u4 u6 rfl), trivial⟩ ?_))
  intro ρ6 w6 hN hf hr
  have h19 := hv hf 7 rfl rfl
  obtain ⟨h0, h5, h6, h7⟩ := k4 hr h0 h5 h6 h7 rfl
  have Oo_O6 := O6
  have H_d_ := H_d_.exn hN
  have hW := hW.trans hN
  have O6 := Oo_O6.exn hN
  refine WP.cond rfl h19 (fun hb => ?_) (fun hb => ?_)
  · have hF := (if_pos hb).symm.trans hF
    refine WP.skip (WP.seq (WP.block (WP.seq ?_)))
    obtain ⟨y, hy, hF⟩ := obind hF
    obtain ⟨ay, cy, hvy, hiy, hAy⟩ := RepSl.getF H_d_ hy
    obtain ⟨z2, hz2, hF⟩ := obind hF
    refine WP.rv mixed [[], [], [], [1, 2], [3], [4], [5], [0, 6], [0, 7]] [[], [], [], [1, 2], [3], [4], [5], [0, 6], [7]] [[5], [0], [7], [], [], [], [], [], []] [(22, .int .i64 x), (23, v_d_), (24, .int .i64 x3), (25, .pointer (some (ay.add (Int.toNat x3 * 3)))), (26, .pointer (some ((ay.add (Int.toNat x3 * 3)).add 0))), (27, .int .i64 y.Gap), (28, .int .i64 z2), (29, .int .i64 (i64 (x + z2))), (5, .int .i64 (i64 (x + z2)))] (by kernel_rfl) ⟨mE rfl rfl h5,
 mE rfl rfl h0,
 mE rfl rfl h7,
 fun ρz wz hE hA _ ⟨u1, u2, _⟩ => core_val rfl rfl (o_indexAddr (u1.trans hvy) u2 (ia_22 hiy)),
 fun ρz wz hE hA _ ⟨u3, _⟩ => core_val rfl rfl (o_fieldAddr u3 (fa_47_0 _ _)),
 fun ρz wz hE hA _ ⟨u4, _⟩ => core_val rfl rfl (o_load u4 (run_load1 (lr_3 _ _) (CA.sub ((hAy.exn (hA rfl)).ca) 0 1))),
 fun ρz wz hE hA _ ⟨u5, _⟩ => core_call rfl (call_args2 u5 rfl) cf_26 (pensionplain_Mod_ok  _ _  hz2),
 fun ρz wz hE hA _ ⟨u0, u6, _⟩ => core_val rfl rfl (o_add u0 u6 rfl),
 aU rfl rfl rfl, trivial⟩ ?_
    intro ρ7 w7 hN hf hr
    have h5 := hv hf 8 rfl rfl
    obtain ⟨h0, h6, h7⟩ := k3 hr h0 h6 h7 rfl
    have Oo_O6 := O6
    have H_d_ := H_d_.exn hN
    have hW := hW.trans hN
    have O6 := Oo_O6.exn hN
    refine WP.seqJ (fun ρ w => ∃ x4 : Int, ρ 0 = v_d_ ∧ ρ 5 = .int .i64 x4 ∧ ρ 6 = v6_ ∧ ρ 7 = .int .i64 x3 ∧ RepSl pensionlaw25_Raw.R (gfr noG w0) w v_d_ d_ ∧ Own w0.heap.size 49 14 api_Fact.cells w v6_ x2 ∧ Ext noG w0 w ∧ pensionlaw25_List_j d_ x2 x3 rec_ x4 = some r) ?_ ?_
    · refine WP.seq ?_
      obtain ⟨y7, hy7, hF⟩ := obind hF
      obtain ⟨ay7, cy7, hvy7, hiy7, hAy7⟩ := RepSl.getF H_d_ hy7
      obtain ⟨z8, hz8, hF⟩ := obind hF
      refine WP.rb mixed [[], [], [0, 1], [2], [3], [4], [5]] [[0], [7], [], [], [], [], []] [(30, v_d_), (31, .int .i64 x3), (32, .pointer (some (ay7.add (Int.toNat x3 * 3)))), (33, .pointer (some ((ay7.add (Int.toNat x3 * 3)).add 0))), (34, .int .i64 y7.Gap), (35, .int .i64 z8), (36, .bool (z8 == 6))] (by kernel_rfl) ⟨mE rfl rfl h0,
 mE rfl rfl h7,
 fun ρz wz hE hA _ ⟨u0, u1, _⟩ => core_val rfl rfl (o_indexAddr (u0.trans hvy7) u1 (ia_22 hiy7)),
 fun ρz wz hE hA _ ⟨u2, _⟩ => core_val rfl rfl (o_fieldAddr u2 (fa_47_0 _ _)),
 fun ρz wz hE hA _ ⟨u3, _⟩ => core_val rfl rfl (o_load u3 (run_load1 (lr_3 _ _) (CA.sub ((hAy7.exn (hA rfl)).ca) 0 1))),
 fun ρz wz hE hA _ ⟨u4, _⟩ => core_call rfl (call_args2 u4 rfl) cf_26 (pensionplain_Mod_ok  _ _  hz8),
 fun ρz wz hE hA _ ⟨u5, _⟩ => core_val rfl rfl (o_eql u5 rfl rfl), trivial⟩ ?_
      intro ρ16 w16 hN hf hr
      have h36 := hv hf 6 rfl rfl
      obtain ⟨h0, h5, h6, h7⟩ := k4 hr h0 h5 h6 h7 rfl
      have Oo_O6 := O6
      have H_d_ := H_d_.exn hN
      have hW := hW.trans hN
      have O6 := Oo_O6.exn hN
      refine WP.cond rfl h36 (fun hb => ?_) (fun hb => ?_)
      · have hF := (if_pos hb).symm.trans hF
        refine WP.rv mixed [[], [0], [0, 1]] [[], [0], [1]] [[5], [], []] [(37, .int .i64 (i64 (x + z2))), (38, .int .i64 (i64 (i64 (x + z2) + 50))), (5, .int .i64 (i64 (i64 (x + z2) + 50)))] (by kernel_rfl) ⟨mE rfl rfl h5,
 fun ρz wz hE hA _ ⟨u0, _⟩ => core_val rfl rfl (o_add u0 rfl rfl),
 aU rfl rfl rfl, trivial⟩ ?_
        intro ρ17 w17 hN hf hr
        have h5 := hv hf 2 rfl rfl
        obtain ⟨h0, h6, h7⟩ := k3 hr h0 h6 h7 rfl
        have Oo_O6 := O6
        have H_d_ := H_d_.exn hN
        have hW := hW.trans hN
        have O6 := Oo_O6.exn hN
        exact ⟨i64 (i64 (x + z2) + 50), h0, h5, h6, h7, H_d_, O6, hW, hF⟩
      have hF := (if_neg (Bool.eq_false_iff.1 hb)).symm.trans hF
      refine WP.skip ?_
      exact ⟨i64 (x + z2), h0, h5, h6, h7, H_d_, O6, hW, hF⟩
    rintro ρ8 w8 ⟨x4, h0, h5, h6, h7, H_d_, O6, hW, hF⟩
    rw [pensionlaw25_List_j] at hF
    refine WP.seq ?_
    obtain ⟨y2, hy2, hF⟩ := obind hF
    obtain ⟨ay2, cy2, hvy2, hiy2, hAy2⟩ := RepSl.getF H_d_ hy2
    obtain ⟨z3, hz3, hF⟩ := obind hF
    refine WP.rb mixed [[], [], [0, 1], [2], [3], [4], [5], [6]] [[0], [7], [], [], [], [], [], []] [(39, v_d_), (40, .int .i64 x3), (41, .pointer (some (ay2.add (Int.toNat x3 * 3)))), (42, .pointer (some ((ay2.add (Int.toNat x3 * 3)).add 1))), (43, .int .i64 y2.Length), (44, .int .i64 z3), (45, .int .i64 (i64 (1 + z3))), (8, .int .i64 (i64 (1 + z3)))] (by kernel_rfl) ⟨mE rfl rfl h0,
 mE rfl rfl h7,
 fun ρz wz hE hA _ ⟨u0, u1, _⟩ => core_val rfl rfl (o_indexAddr (u0.trans hvy2) u1 (ia_22 hiy2)),
 fun ρz wz hE hA _ ⟨u2, _⟩ => core_val rfl rfl (o_fieldAddr u2 (fa_47_1 _ _)),
 fun ρz wz hE hA _ ⟨u3, _⟩ => core_val rfl rfl (o_load u3 (run_load1 (lr_3 _ _) (CA.sub ((hAy2.exn (hA rfl)).ca) 1 1))),
 fun ρz wz hE hA _ ⟨u4, _⟩ => core_call rfl (call_args2 u4 rfl) cf_26 (pensionplain_Mod_ok  _ _  hz3),
 fun ρz wz hE hA _ ⟨u5, _⟩ => core_val rfl rfl (o_add rfl u5 rfl),
 aU rfl rfl rfl, trivial⟩ ?_
    intro ρ9 w9 hN hf hr
    have h8 := hv hf 7 rfl rfl
    obtain ⟨h0, h5, h6, h7⟩ := k4 hr h0 h5 h6 h7 rfl
    have Oo_O6 := O6
    have H_d_ := H_d_.exn hN
    have hW := hW.trans hN
    have O6 := Oo_O6.exn hN
    refine WP.seqJ (fun ρ w => ∃ x5 : Int, ρ 0 = v_d_ ∧ ρ 5 = .int .i64 x4 ∧ ρ 6 = v6_ ∧ ρ 7 = .int .i64 x3 ∧ ρ 8 = .int .i64 x5 ∧ RepSl pensionlaw25_Raw.R (gfr noG w0) w v_d_ d_ ∧ Own w0.heap.size 49 14 api_Fact.cells w v6_ x2 ∧ Ext noG w0 w ∧ pensionlaw25_List_j2 d_ x2 x3 rec_ x4 x5 = some r) ?_ ?_
    · refine WP.seq ?_
      obtain ⟨y5, hy5, hF⟩ := obind hF
      obtain ⟨ay5, cy5, hvy5, hiy5, hAy5⟩ := RepSl.getF H_d_ hy5
      obtain ⟨z6, hz6, hF⟩ := obind hF
      refine WP.rb mixed [[], [], [0, 1], [2], [3], [4], [5]] [[0], [7], [], [], [], [], []] [(46, v_d_), (47, .int .i64 x3), (48, .pointer (some (ay5.add (Int.toNat x3 * 3)))), (49, .pointer (some ((ay5.add (Int.toNat x3 * 3)).add 1))), (50, .int .i64 y5.Length), (51, .int .i64 z6), (52, .bool (z6 == 2))] (by kernel_rfl) ⟨mE rfl rfl h0,
 mE rfl rfl h7,
 fun ρz wz hE hA _ ⟨u0, u1, _⟩ => core_val rfl rfl (o_indexAddr (u0.trans hvy5) u1 (ia_22 hiy5)),
 fun ρz wz hE hA _ ⟨u2, _⟩ => core_val rfl rfl (o_fieldAddr u2 (fa_47_1 _ _)),
 fun ρz wz hE hA _ ⟨u3, _⟩ => core_val rfl rfl (o_load u3 (run_load1 (lr_3 _ _) (CA.sub ((hAy5.exn (hA rfl)).ca) 1 1))),
 fun ρz wz hE hA _ ⟨u4, _⟩ => core_call rfl (call_args2 u4 rfl) cf_26 (pensionplain_Mod_ok  _ _  hz6),
 fun ρz wz hE hA _ ⟨u5, _⟩ => core_val rfl rfl (o_eql u5 rfl rfl), trivial⟩ ?_
      intro ρ14 w14 hN hf hr
      have h52 := hv hf 6 rfl rfl
      obtain ⟨h0, h5, h6, h7, h8⟩ := k5 hr h0 h5 h6 h7 h8 rfl
      have Oo_O6 := O6
      have H_d_ := H_d_.exn hN
      have hW := hW.trans hN
      have O6 := Oo_O6.exn hN
      refine WP.cond rfl h52 (fun hb => ?_) (fun hb => ?_)
      · have hF := (if_pos hb).symm.trans hF
        obtain ⟨y6, hy6, hF⟩ := obind hF
        obtain ⟨ay6, cy6, hvy6, hiy6, hAy6⟩ := RepSl.getF H_d_ hy6
        obtain ⟨z7, hz7, hF⟩ := obind hF
        refine WP.rb mixed [[], [], [0, 1], [2], [3], [4], [5], [6], [7]] [[0], [7], [], [], [], [], [], [], []] [(53, v_d_), (54, .int .i64 x3), (55, .pointer (some (ay6.add (Int.toNat x3 * 3)))), (56, .pointer (some ((ay6.add (Int.toNat x3 * 3)).add 1))), (57, .int .i64 y6.Length), (58, .int .i64 (i64 (Int.tdiv y6.Length 3))), (59, .int .i64 z7), (60, .int .i64 (i64 (1 + z7))), (8, .int .i64 (i64 (1 + z7)))] (by kernel_rfl) ⟨mE rfl rfl h0,
 mE rfl rfl h7,
 fun ρz wz hE hA _ ⟨u0, u1, _⟩ => core_val rfl rfl (o_indexAddr (u0.trans hvy6) u1 (ia_22 hiy6)),
 fun ρz wz hE hA _ ⟨u2, _⟩ => core_val rfl rfl (o_fieldAddr u2 (fa_47_1 _ _)),
 fun ρz wz hE hA _ ⟨u3, _⟩ => core_val rfl rfl (o_load u3 (run_load1 (lr_3 _ _) (CA.sub ((hAy6.exn (hA rfl)).ca) 1 1))),
 fun ρz wz hE hA _ ⟨u4, _⟩ => core_val rfl rfl (o_quo u4 rfl (by decide) rfl),
 fun ρz wz hE hA _ ⟨u5, _⟩ => core_call rfl (call_args2 u5 rfl) cf_26 (pensionplain_Mod_ok  _ _  hz7),
 fun ρz wz hE hA _ ⟨u6, _⟩ => core_val rfl rfl (o_add rfl u6 rfl),
 aU rfl rfl rfl, trivial⟩ ?_
        intro ρ15 w15 hN hf hr
        have h8 := hv hf 8 rfl rfl
        obtain ⟨h0, h5, h6, h7⟩ := k4 hr h0 h5 h6 h7 rfl
        have Oo_O6 := O6
        have H_d_ := H_d_.exn hN
        have hW := hW.trans hN
        have O6 := Oo_O6.exn hN
        exact ⟨i64 (1 + z7), h0, h5, h6, h7, h8, H_d_, O6, hW, hF⟩
      have hF := (if_neg (Bool.eq_false_iff.1 hb)).symm.trans hF
      refine WP.skip ?_
      exact ⟨i64 (1 + z3), h0, h5, h6, h7, h8, H_d_, O6, hW, hF⟩
    rintro ρ10 w10 ⟨x5, h0, h5, h6, h7, h8, H_d_, O6, hW, hF⟩
    rw [pensionlaw25_List_j2] at hF
    refine WP.seq ?_
    obtain ⟨y3, hy3, hF⟩ := obind hF
    obtain ⟨ay3, cy3, hvy3, hiy3, hAy3⟩ := RepSl.getF H_d_ hy3
    obtain ⟨z4, hz4, hF⟩ := obind hF
    obtain ⟨y4, hy4, hF⟩ := obind hF
    obtain ⟨ay4, cy4, hvy4, hiy4, hAy4⟩ := RepSl.getF H_d_ hy4
    obtain ⟨z5, hz5, hF⟩ := obind hF
    obtain ⟨l, hl, hF⟩ := obind hF
    refine WP.region mixed [[], [], [], [1, 2], [3], [4], [5], [], [7], [], [], [9, 10], [11], [12], [13], [], [], [], [16, 17], [15, 18], [5, 6, 8, 13, 14, 19], [5, 6, 13, 20], [0, 5, 6, 13, 14, 21], [0, 22]] [[], [], [], [1, 2], [3], [4], [5], [], [7], [], [], [9, 10], [11], [12], [13], [], [], [], [16, 17], [15, 18], [6, 8, 14, 19], [20], [0, 21], [22]] [[6], [0], [7], [], [], [], [], [7], [], [0], [7], [], [], [], [], [5], [5], [8], [], [], [], [], [], []] [22] [] [val 61 (v6_), val 62 (v_d_), val 63 (.int .i64 x3), val 64 (.pointer (some (ay3.add (Int.toNat x3 * 3)))), val 65 (.pointer (some ((ay3.add (Int.toNat x3 * 3)).add 2))), val 66 (.int .i64 y3.State), val 67 (.int .i64 z4), val 68 (.int .i64 x3), val 69 (.int .i64 (i64 (1 + x3))), val 70 (v_d_), val 71 (.int .i64 x3), val 72 (.pointer (some (ay4.add (Int.toNat x3 * 3)))), val 73 (.pointer (some ((ay4.add (Int.toNat x3 * 3)).add 2))), val 74 (.int .i64 y4.State), val 75 (.int .i64 z5), val 76 (.int .i64 x4), val 77 (.int .i64 x4), val 78 (.int .i64 x5), val 79 (.int .i64 (i64 (x4 + x5))), val 80 (Span.val (⟨x4, i64 (x4 + x5)⟩ : Span)), val 81 (api_Fact.val (⟨z4, i64 (1 + x3), 1, false, 1, 8, z5, (⟨x4, i64 (x4 + x5)⟩ : Span), 0, 0, 0, 0, 0⟩ : api_Fact)), (82, fun u wz => ∃ b, u = .slice (some ⟨b, 0, none⟩) 1 1 ∧ w10.heap.size ≤ b ∧ Mb wz b 49 (([(⟨z4, i64 (1 + x3), 1, false, 1, 8, z5, (⟨x4, i64 (x4 + x5)⟩ : Span), 0, 0, 0, 0, 0⟩ : api_Fact)]).flatMap api_Fact.cells)), (83, fun u wz => Own w0.heap.size 49 14 api_Fact.cells wz u l ∧ ∀ b, u.ownBlock = some b → (v6_.ownBlock = some b ∨ w10.heap.size ≤ b)), (6, fun u wz => Own w0.heap.size 49 14 api_Fact.cells wz u l ∧ ∀ b, u.ownBlock = some b → (v6_.ownBlock = some b ∨ w10.heap.size ≤ b))] (fun b => Value.ownBlock v6_ = some b) (by kernel_rfl) ⟨sV, sV, sV, sV, sV, sV, sV, sV, sV, sV, sV, sV, sV, sV, sV, sV, sV, sV, sV, sV, sV, fun _ _ _ hE ⟨b, hz, hs, hM⟩ => ⟨b, hz, hs, hM.ext hE (fun hg => absurd (O6.lt hg).2 (Nat.not_lt.2 hs))⟩, fun _ _ _ hE ⟨hO, hf⟩ => ⟨hO.exn hE, hf⟩, fun _ _ _ hE ⟨hO, hf⟩ => ⟨hO.exn hE, hf⟩, trivial⟩ ⟨mE rfl rfl h6,
 mE rfl rfl h0,
 mE rfl rfl h7,
 fun ρz wz hE hA _ ⟨u1, u2, _⟩ => core_val rfl rfl (o_indexAddr (u1.trans hvy3) u2 (ia_22 hiy3)),
 fun ρz wz hE hA _ ⟨u3, _⟩ => core_val rfl rfl (o_fieldAddr u3 (fa_47_2 _ _)),
 fun ρz wz hE hA _ ⟨u4, _⟩ => core_val rfl rfl (o_load u4 (run_load1 (lr_3 _ _) (CA.sub ((hAy3.exn (hA rfl)).ca) 2 1))),
 fun ρz wz hE hA _ ⟨u5, _⟩ => core_call rfl (call_args2 u5 rfl) cf_26 (pensionplain_Mod_ok  _ _  hz4),
 mE rfl rfl h7,
 fun ρz wz hE hA _ ⟨u7, _⟩ => core_val rfl rfl (o_add rfl u7 rfl),
 mE rfl rfl h0,
 mE rfl rfl h7,
 fun ρz wz hE hA _ ⟨u9, u10, _⟩ => core_val rfl rfl (o_indexAddr (u9.trans hvy4) u10 (ia_22 hiy4)),
 fun ρz wz hE hA _ ⟨u11, _⟩ => core_val rfl rfl (o_fieldAddr u11 (fa_47_2 _ _)),
 fun ρz wz hE hA _ ⟨u12, _⟩ => core_val rfl rfl (o_load u12 (run_load1 (lr_3 _ _) (CA.sub ((hAy4.exn (hA rfl)).ca) 2 1))),
 fun ρz wz hE hA _ ⟨u13, _⟩ => core_call rfl (call_args2 u13 rfl) cf_26 (pensionplain_Mod_ok  _ _  hz5),
 mE rfl rfl h5,
 mE rfl rfl h5,
 mE rfl rfl h8,
 fun ρz wz hE hA _ ⟨u16, u17, _⟩ => core_val rfl rfl (o_add u16 u17 rfl),
 fun ρz wz hE hA _ ⟨u15, u18, _⟩ => core_val rfl rfl (o_build (build_parts2 u15 u18) (bd_31_0_1 _ _ _)),
 fun ρz wz hE hA _ ⟨u6, u8, u14, u19, _⟩ => core_val rfl rfl (o_build (bpS u6 (bpS u8 (bpS rfl (bpS rfl (bpS rfl (bpS u14 (bpS u19 bp0))))))) (bd_49_0_1_2_4_5_6_7 _ _ _ _ _ _ _ _)),
 fun ρz wz hE hA _ ⟨u20, _⟩ => core_slice rfl rfl hE (o_buildSlice (build_parts1 u20) (bs_24_1 _ _)),
 fun ρz wz hE hA _ ⟨u0, ⟨bz21, hz21, hge21, hM21⟩, _⟩ => core_append (n := 14) (cells := api_Fact.cells) (B := w0.heap.size) (w0 := w10) rfl rfl (fun b hb => hb) u0 hz21 (fun _ => rfl) one_49 si_24 se_49 (by decide) (by decide) (O6.exn (hA rfl)) ⟨_, (Mb.rep (n := 14) (cells := api_Fact.cells) (hn := fun _ => rfl) (G := noG) hM21 rfl (Nat.le_of_ble_eq_true rfl) (fun h => h))⟩ hl (Nat.le_trans hW.size hE.size) hE.size (fun v1 w1 h1 h2 => ⟨h1, h2⟩),
 fun ρz wz hE hA _ ⟨⟨hO22, hfr22⟩, _⟩ => core_copy rfl rfl (o_assign rfl) ⟨hO22, hfr22⟩, trivial⟩ ?_
    intro ρ11 w11 hE hN hf hr
    obtain ⟨v6_2, h6⟩ : ∃ v, ρ11 6 = v := ⟨_, rfl⟩
    have hq6 : (fun u wz => Own w0.heap.size 49 14 api_Fact.cells wz u l ∧ ∀ b, u.ownBlock = some b → (v6_.ownBlock = some b ∨ w10.heap.size ≤ b)) (ρ11 6) w11 := hf 23 rfl
    rw [h6] at hq6
    obtain ⟨hq6, hfr6⟩ := hq6
    obtain ⟨h0, h5, h7, h8⟩ := k4 hr h0 h5 h7 h8 rfl
    have Oo_O6 := O6
    have H_d_ := H_d_.over hE (fun b hb => (Oo_O6.lt hb).1)
    have hW := Ext.own hW hE (fun b hb => (Oo_O6.lt hb).1)
    have O6 := hq6
    refine WP.rv mixed [[], [], [0, 1], [0, 2]] [[], [], [0, 1], [2]] [[5], [8], [], []] [(84, .int .i64 x4), (85, .int .i64 x5), (86, .int .i64 (i64 (x4 + x5))), (5, .int .i64 (i64 (x4 + x5)))] (by kernel_rfl) ⟨mE rfl rfl h5,
 mE rfl rfl h8,
 fun ρz wz hE hA _ ⟨u0, u1, _⟩ => core_val rfl rfl (o_add u0 u1 rfl),
 aU rfl rfl rfl, trivial⟩ ?_
    intro ρ12 w12 hN hf hr
    have h5 := hv hf 3 rfl rfl
    obtain ⟨h0, h6, h7⟩ := k3 hr h0 h6 h7 rfl
    have Oo_O6 := O6
    have H_d_ := H_d_.exn hN
    have hW := hW.trans hN
    have O6 := Oo_O6.exn hN
    refine WP.rv mixed [[], [0], [0, 1]] [[], [0], [1]] [[7], [], []] [(20, .int .i64 x3), (21, .int .i64 (i64 (x3 + 1))), (7, .int .i64 (i64 (x3 + 1)))] (by kernel_rfl) ⟨mE rfl rfl h7,
 fun ρz wz hE hA _ ⟨u0, _⟩ => core_val rfl rfl (o_add u0 rfl rfl),
 aU rfl rfl rfl, trivial⟩ ?_
    intro ρ13 w13 hN hf hr
    have h7 := hv hf 2 rfl rfl
    obtain ⟨h0, h5, h6⟩ := k3 hr h0 h5 h6 rfl
    have Oo_O6 := O6
    have H_d_ := H_d_.exn hN
    have hW := hW.trans hN
    have O6 := Oo_O6.exn hN
    exact ⟨i64 (x4 + x5), l, i64 (x3 + 1), v6_2, h0, h5, h6, h7, H_d_, O6, hW, (by first | exact hF | (rw [hrec_]; exact hF))⟩
  have hF := (if_neg (Bool.eq_false_iff.1 hb)).symm.trans hF
  refine WP.exit (thenQ_exit (thenQ_exit (blockQ_hit (WP.seq (WP.rb mixed [[], [0]] [[6], []] [(87, v6_), (4, v6_)] (by kernel_rfl) ⟨mE rfl rfl h6,
 aU rfl rfl rfl, trivial⟩ ?_)))))
  intro ρ18 w18 hN hf hr
  have h4 := hv hf 1 rfl rfl
  have Oo_O6 := O6
  have hW := hW.trans hN
  have O4 := Oo_O6.exn hN
  refine WP.ret ?_
  show retQ Try.prog 88 Try.f8 (fun v w1 => Own w0.heap.size 49 14 api_Fact.cells w1 v r ∧ Ext noG w0 w1) .ret ρ18 w18
  obtain rfl := Option.some.inj hF
  exact res1 rfl (by decide) h4 ⟨O4, hW⟩

set_option maxHeartbeats 4000000 in
theorem pensionhand_length_ok {w0 : World} (n_ : Int) {r : Int} (hF : pensionhand_length n_ = some r) :
    Calls Try.prog 38 #[.int .i64 n_] w0 fun e w1 => e = .returned (.int .i64 r) ∧ Ext noG w0 w1 := by
  refine (Calls.start (P := Try.prog) (args := [.int .i64 n_]) (R := fun v w1 => v = .int .i64 r ∧ Ext noG w0 w1) (n := 27) (w := w0) Try.func38 rfl rfl (Nat.le_of_ble_eq_true rfl) (fun ρ hargs => ?_)).mono (fun e w1 ⟨v, he, hv, hE⟩ => ⟨hv ▸ he, hE⟩)
  have h0 := hargs 0 _ rfl
  have hW := Ext.refl noG w0
  rw [pensionhand_length] at hF
  refine WP.seq (WP.rb mixed [[]] [[]] [(2, .int .i64 0)] (by kernel_rfl) ⟨aC rfl rfl (fun _ => rfl), trivial⟩ ?_)
  intro ρ1 w1 hN hf hr
  have h0 := (hr 0 rfl).trans h0
  have hW := hW.trans hN
  refine WP.seq (WP.seq ?_)
  obtain ⟨z, hz, hF⟩ := obind hF
  refine WP.rb mixed [[], [0]] [[0], []] [(3, .int .i64 n_), (4, .int .i64 z)] (by kernel_rfl) ⟨mE rfl rfl h0,
 fun ρz wz hE hA _ ⟨u0, _⟩ => core_call rfl (call_args2 u0 rfl) cf_26 (pensionplain_Mod_ok  _ _  hz), trivial⟩ ?_
  intro ρ2 w2 hN hf hr
  have h4 := hv hf 1 rfl rfl
  have h0 := (hr 0 rfl).trans h0
  have hW := hW.trans hN
  refine WP.block (WP.seq (WP.rb mixed [[], [0]] [[4], []] [(6, .bool (z == 0)), (5, .bool (z == 0))] (by kernel_rfl) ⟨fun ρz wz hE hA ⟨e4, _⟩ _ => core_val rfl rfl (o_eql (e4.trans h4) rfl rfl),
 aU rfl rfl rfl, trivial⟩ ?_))
  intro ρ3 w3 hN hf hr
  have h5 := hv hf 1 rfl rfl
  obtain ⟨h0, h4⟩ := k2 hr h0 h4 rfl
  have hW := hW.trans hN
  refine WP.cond rfl h5 (fun hb => ?_) (fun hb => ?_)
  · have hF := (if_pos hb).symm.trans hF
    refine WP.seq ?_
    obtain ⟨z2, hz2, hF⟩ := obind hF
    refine WP.rb mixed [[], [0], [1], [2], [3]] [[0], [], [], [], []] [(7, .int .i64 n_), (8, .int .i64 (i64 (Int.tdiv n_ 4))), (9, .int .i64 z2), (10, .int .i64 (i64 (1 + z2))), (2, .int .i64 (i64 (1 + z2)))] (by kernel_rfl) ⟨mE rfl rfl h0,
 fun ρz wz hE hA _ ⟨u0, _⟩ => core_val rfl rfl (o_quo u0 rfl (by decide) rfl),
 fun ρz wz hE hA _ ⟨u1, _⟩ => core_call rfl (call_args2 u1 rfl) cf_26 (pensionplain_Mod_ok  _ _  hz2),
 fun ρz wz hE hA _ ⟨u2, _⟩ => core_val rfl rfl (o_add rfl u2 rfl),
 aU rfl rfl rfl, trivial⟩ ?_
    intro ρ4 w4 hN hf hr
    have h2 := hv hf 4 rfl rfl
    have hW := hW.trans hN
    refine WP.ret ?_
    show retQ Try.prog 27 Try.f38 (fun v w1 => v = .int .i64 r ∧ Ext noG w0 w1) .ret ρ4 w4
    obtain rfl := Option.some.inj hF
    exact res1 rfl (by decide) h2 ⟨rfl, hW⟩
  have hF := (if_neg (Bool.eq_false_iff.1 hb)).symm.trans hF
  refine WP.seq (WP.rb mixed [[], [0]] [[4], []] [(12, .bool (z == 1)), (11, .bool (z == 1))] (by kernel_rfl) ⟨fun ρz wz hE hA ⟨e4, _⟩ _ => core_val rfl rfl (o_eql (e4.trans h4) rfl rfl),
 aU rfl rfl rfl, trivial⟩ ?_)
  intro ρ5 w5 hN hf hr
  have h11 := hv hf 1 rfl rfl
  obtain ⟨h0, h4⟩ := k2 hr h0 h4 rfl
  have hW := hW.trans hN
  refine WP.cond rfl h11 (fun hb => ?_) (fun hb => ?_)
  · have hF := (if_pos hb).symm.trans hF
    refine WP.seq ?_
    obtain ⟨z3, hz3, hF⟩ := obind hF
    refine WP.rb mixed [[], [0], [1], [2], [3]] [[0], [], [], [], []] [(13, .int .i64 n_), (14, .int .i64 (i64 (Int.tdiv n_ 4))), (15, .int .i64 z3), (16, .int .i64 (i64 (1 + z3))), (2, .int .i64 (i64 (1 + z3)))] (by kernel_rfl) ⟨mE rfl rfl h0,
 fun ρz wz hE hA _ ⟨u0, _⟩ => core_val rfl rfl (o_quo u0 rfl (by decide) rfl),
 fun ρz wz hE hA _ ⟨u1, _⟩ => core_call rfl (call_args2 u1 rfl) cf_26 (pensionplain_Mod_ok  _ _  hz3),
 fun ρz wz hE hA _ ⟨u2, _⟩ => core_val rfl rfl (o_add rfl u2 rfl),
 aU rfl rfl rfl, trivial⟩ ?_
    intro ρ6 w6 hN hf hr
    have h2 := hv hf 4 rfl rfl
    have hW := hW.trans hN
    refine WP.ret ?_
    show retQ Try.prog 27 Try.f38 (fun v w1 => v = .int .i64 r ∧ Ext noG w0 w1) .ret ρ6 w6
    obtain rfl := Option.some.inj hF
    exact res1 rfl (by decide) h2 ⟨rfl, hW⟩
  have hF := (if_neg (Bool.eq_false_iff.1 hb)).symm.trans hF
  refine WP.seq (WP.rb mixed [[], [0]] [[4], []] [(18, .bool (z == 2)), (17, .bool (z == 2))] (by kernel_rfl) ⟨fun ρz wz hE hA ⟨e4, _⟩ _ => core_val rfl rfl (o_eql (e4.trans h4) rfl rfl),
 aU rfl rfl rfl, trivial⟩ ?_)
  intro ρ7 w7 hN hf hr
  have h17 := hv hf 1 rfl rfl
  have h0 := (hr 0 rfl).trans h0
  have hW := hW.trans hN
  refine WP.cond rfl h17 (fun hb => ?_) (fun hb => ?_)
  · have hF := (if_pos hb).symm.trans hF
    refine WP.seq ?_
    obtain ⟨z4, hz4, hF⟩ := obind hF
    refine WP.rb mixed [[], [0], [1], [2], [3]] [[0], [], [], [], []] [(19, .int .i64 n_), (20, .int .i64 (i64 (Int.tdiv n_ 4))), (21, .int .i64 z4), (22, .int .i64 (i64 (1 + z4))), (2, .int .i64 (i64 (1 + z4)))] (by kernel_rfl) ⟨mE rfl rfl h0,
 fun ρz wz hE hA _ ⟨u0, _⟩ => core_val rfl rfl (o_quo u0 rfl (by decide) rfl),
 fun ρz wz hE hA _ ⟨u1, _⟩ => core_call rfl (call_args2 u1 rfl) cf_26 (pensionplain_Mod_ok  _ _  hz4),
 fun ρz wz hE hA _ ⟨u2, _⟩ => core_val rfl rfl (o_add rfl u2 rfl),
 aU rfl rfl rfl, trivial⟩ ?_
    intro ρ8 w8 hN hf hr
    have h2 := hv hf 4 rfl rfl
    have hW := hW.trans hN
    refine WP.ret ?_
    show retQ Try.prog 27 Try.f38 (fun v w1 => v = .int .i64 r ∧ Ext noG w0 w1) .ret ρ8 w8
    obtain rfl := Option.some.inj hF
    exact res1 rfl (by decide) h2 ⟨rfl, hW⟩
  have hF := (if_neg (Bool.eq_false_iff.1 hb)).symm.trans hF
  refine WP.skip (WP.seq ?_)
  obtain ⟨z5, hz5, hF⟩ := obind hF
  refine WP.rb mixed [[], [0], [1], [2], [3]] [[0], [], [], [], []] [(23, .int .i64 n_), (24, .int .i64 (i64 (Int.tdiv n_ 4))), (25, .int .i64 z5), (26, .int .i64 (i64 (1 + z5))), (2, .int .i64 (i64 (1 + z5)))] (by kernel_rfl) ⟨mE rfl rfl h0,
 fun ρz wz hE hA _ ⟨u0, _⟩ => core_val rfl rfl (o_quo u0 rfl (by decide) rfl),
 fun ρz wz hE hA _ ⟨u1, _⟩ => core_call rfl (call_args2 u1 rfl) cf_26 (pensionplain_Mod_ok  _ _  hz5),
 fun ρz wz hE hA _ ⟨u2, _⟩ => core_val rfl rfl (o_add rfl u2 rfl),
 aU rfl rfl rfl, trivial⟩ ?_
  intro ρ9 w9 hN hf hr
  have h2 := hv hf 4 rfl rfl
  have hW := hW.trans hN
  refine WP.ret ?_
  show retQ Try.prog 27 Try.f38 (fun v w1 => v = .int .i64 r ∧ Ext noG w0 w1) .ret ρ9 w9
  obtain rfl := Option.some.inj hF
  exact res1 rfl (by decide) h2 ⟨rfl, hW⟩

set_option maxHeartbeats 4000000 in
theorem pensionref12_Uses_ok {w0 : World} (kind_ : Int) {r : ByteArray} (hF : pensionref12_Uses kind_ = some r) :
    Calls Try.prog 39 #[.int .i64 kind_] w0 fun e w1 => e = .returned (.string r) ∧ Ext noG w0 w1 := by
  refine (Calls.start (P := Try.prog) (args := [.int .i64 kind_]) (R := fun v w1 => v = .string r ∧ Ext noG w0 w1) (n := 17) (w := w0) Try.func39 rfl rfl (Nat.le_of_ble_eq_true rfl) (fun ρ hargs => ?_)).mono (fun e w1 ⟨v, he, hv, hE⟩ => ⟨hv ▸ he, hE⟩)
  have h0 := hargs 0 _ rfl
  have hW := Ext.refl noG w0
  rw [pensionref12_Uses] at hF
  refine WP.seq (WP.rb mixed [[]] [[]] [(2, .string str1)] (by kernel_rfl) ⟨aC rfl rfl (fun _ => rfl), trivial⟩ ?_)
  intro ρ1 w1 hN hf hr
  have h0 := (hr 0 rfl).trans h0
  have hW := hW.trans hN
  refine WP.seq (WP.rg mixed [[], [0]] [[], [0]] [[], []] [(4, fun u wz => ∃ b, u = .slice (some ⟨b, 0, none⟩) 15 15 ∧ w1.heap.size ≤ b ∧ Mb wz b 9 (([str1, str2, str3, str3, str4, str5, str6, str5, str5, str5, str7, str8, str8, str8, str9]).flatMap (fun x : ByteArray => [Value.string x]))), (3, fun u wz => ∃ b, u = .slice (some ⟨b, 0, none⟩) 15 15 ∧ w1.heap.size ≤ b ∧ Mb wz b 9 (([str1, str2, str3, str3, str4, str5, str6, str5, str5, str5, str7, str8, str8, str8, str9]).flatMap (fun x : ByteArray => [Value.string x])))] (by kernel_rfl) ⟨fun _ _ _ hE ⟨b, hz, hs, hM⟩ => ⟨b, hz, hs, hM.exn hE⟩, fun _ _ _ hE ⟨b, hz, hs, hM⟩ => ⟨b, hz, hs, hM.exn hE⟩, trivial⟩ ⟨fun ρz wz hE hA _ _ => core_slice rfl rfl hE (o_buildSlice ((bpS rfl (bpS rfl (bpS rfl (bpS rfl (bpS rfl (bpS rfl (bpS rfl (bpS rfl (bpS rfl (bpS rfl (bpS rfl (bpS rfl (bpS rfl (bpS rfl (bpS rfl bp0)))))))))))))))) (bs_70_15 _ _ _ _ _ _ _ _ _ _ _ _ _ _ _ _)),
 fun ρz wz hE hA _ ⟨⟨bz0, hz0, hge0, hM0⟩, _⟩ => core_copy rfl rfl (o_assign rfl) ⟨bz0, hz0, hge0, hM0⟩, trivial⟩ ?_)
  intro ρ2 w2 hN hf hr
  obtain ⟨bn3, h3, hgn3, hMn3⟩ : ∃ b, ρ2 3 = .slice (some ⟨b, 0, none⟩) 15 15 ∧ w1.heap.size ≤ b ∧ Mb w2 b 9 (([str1, str2, str3, str3, str4, str5, str6, str5, str5, str5, str7, str8, str8, str8, str9]).flatMap (fun x : ByteArray => [Value.string x])) := hf 1 rfl
  obtain ⟨v3_, hv3⟩ : ∃ v : Value, v = .slice (some ⟨bn3, 0, none⟩) 15 15 := ⟨_, rfl⟩
  rw [← hv3] at h3
  have hq3 : Own w0.heap.size 9 1 (fun x : ByteArray => [Value.string x]) w2 v3_ [str1, str2, str3, str3, str4, str5, str6, str5, str5, str5, str7, str8, str8, str8, str9] := hv3 ▸ hMn3.own (Nat.le_trans hW.size hgn3) rfl (Nat.le_of_ble_eq_true rfl) (fun _ => rfl)
  have hfr3 : ∀ b, v3_.ownBlock = some b → w1.heap.size ≤ b := fun b hb => by rw [hv3] at hb; simp only [Value.ownBlock, Option.some.injEq] at hb; omega
  have h0 := (hr 0 rfl).trans h0
  have hW := hW.trans hN
  have Hf3 : RepSl strR noG w2 v3_ [str1, str2, str3, str3, str4, str5, str6, str5, str5, str5, str7, str8, str8, str8, str9] := hq3.rep (fun _ _ h => h)
  obtain ⟨_, _, hs_Hf3, _, _⟩ := RepSl.shape Hf3
  refine WP.seq (WP.seq (WP.rb mixed [[], [0], [1], [2], [2], [2, 4], [2, 3, 5], [2, 6]] [[0], [], [], [0], [3], [], [], []] [(5, .int .i64 kind_), (6, .bool (decide (kind_ < 1))), (7, .bool (decide (kind_ < 1))), (8, gv (!(decide (kind_ < 1))) (.int .i64 kind_)), (9, gv (!(decide (kind_ < 1))) v3_), (10, gv (!(decide (kind_ < 1))) (.int .i64 ([str1, str2, str3, str3, str4, str5, str6, str5, str5, str5, str7, str8, str8, str8, str9].length : Int))), (11, gv (!(decide (kind_ < 1))) (.bool (decide (([str1, str2, str3, str3, str4, str5, str6, str5, str5, str5, str7, str8, str8, str8, str9].length : Int) ≤ kind_)))), (12, .bool (decide (kind_ < 1) || decide (([str1, str2, str3, str3, str4, str5, str6, str5, str5, str5, str7, str8, str8, str8, str9].length : Int) ≤ kind_)))] (by kernel_rfl) ⟨mE rfl rfl h0,
 fun ρz wz hE hA _ ⟨u0, _⟩ => core_val rfl rfl (o_lss u0 rfl rfl),
 mU rfl rfl rfl,
 fun ρz wz hE hA ⟨e0, _⟩ ⟨u2, _⟩ => gIf rfl rfl (yF rfl u2) fun gc F hF => core_val rfl hF (o_move (e0.trans h0)),
 fun ρz wz hE hA ⟨e3, _⟩ ⟨u2, _⟩ => gIf rfl rfl (yF rfl u2) fun gc F hF => core_val rfl hF (o_move (e3.trans h3)),
 fun ρz wz hE hA _ ⟨u2, u4, _⟩ => gIf rfl rfl (yF rfl u2) fun gc F hF => core_val rfl hF (o_len ((gt gc u4).trans hs_Hf3) len_70),
 fun ρz wz hE hA _ ⟨u2, u3, u5, _⟩ => gIf rfl rfl (yF rfl u2) fun gc F hF => core_val rfl hF (o_geq (gt gc u3) (gt gc u5) rfl),
 fun ρz wz hE hA _ ⟨u2, u6, _⟩ => core_val rfl rfl (o_pick_or u2 rfl u6), trivial⟩ ?_))
  intro ρ3 w3 hN hf hr
  have h12 := hv hf 7 rfl rfl
  obtain ⟨h0, h3⟩ := k2 hr h0 h3 rfl
  have Hf3 := Hf3.exn hN
  have hW := hW.trans hN
  refine WP.cond rfl h12 (fun hb => ?_) (fun hb => ?_)
  · have hF := (if_pos hb).symm.trans hF
    refine WP.seq (WP.rb mixed [[]] [[]] [(2, .string str1)] (by kernel_rfl) ⟨aC rfl rfl (fun _ => rfl), trivial⟩ ?_)
    intro ρ4 w4 hN hf hr
    have h2 := hv hf 0 rfl rfl
    have hW := hW.trans hN
    refine WP.ret ?_
    show retQ Try.prog 17 Try.f39 (fun v w1 => v = .string r ∧ Ext noG w0 w1) .ret ρ4 w4
    obtain rfl := Option.some.inj hF
    exact res1 rfl (by decide) h2 ⟨rfl, hW⟩
  have hF := (if_neg (Bool.eq_false_iff.1 hb)).symm.trans hF
  refine WP.skip (WP.seq ?_)
  obtain ⟨y, hy, hF⟩ := obind hF
  obtain ⟨ay, cy, hvy, hiy, hAy⟩ := RepSl.getF Hf3 hy
  refine WP.rb mixed [[], [], [0, 1], [2], [3]] [[3], [0], [], [], []] [(13, v3_), (14, .int .i64 kind_), (15, .pointer (some (ay.add (Int.toNat kind_ * 1)))), (16, .string y), (2, .string y)] (by kernel_rfl) ⟨mE rfl rfl h3,
 mE rfl rfl h0,
 fun ρz wz hE hA _ ⟨u0, u1, _⟩ => core_val rfl rfl (o_indexAddr (u0.trans hvy) u1 (ia_70 hiy)),
 fun ρz wz hE hA _ ⟨u2, _⟩ => core_val rfl rfl (o_load u2 (run_load1 (lr_9 _ _) ((hAy.exn (hA rfl)).ca))),
 aU rfl rfl rfl, trivial⟩ ?_
  intro ρ5 w5 hN hf hr
  have h2 := hv hf 4 rfl rfl
  have hW := hW.trans hN
  refine WP.ret ?_
  show retQ Try.prog 17 Try.f39 (fun v w1 => v = .string r ∧ Ext noG w0 w1) .ret ρ5 w5
  obtain rfl := Option.some.inj hF
  exact res1 rfl (by decide) h2 ⟨rfl, hW⟩

set_option maxHeartbeats 4000000 in
theorem pensionhand_Make_ok {w0 : World} (d_ : pensionhand_Fact) {r : api_Fact} (hF : pensionhand_Make d_ = some r) :
    Calls Try.prog 28 #[pensionhand_Fact.val d_] w0 fun e w1 => e = .returned (api_Fact.val r) ∧ Ext noG w0 w1 := by
  refine (Calls.start (P := Try.prog) (args := [pensionhand_Fact.val d_]) (R := fun v w1 => v = api_Fact.val r ∧ Ext noG w0 w1) (n := 156) (w := w0) Try.func28 rfl rfl (Nat.le_of_ble_eq_true rfl) (fun ρ hargs => ?_)).mono (fun e w1 ⟨v, he, hv, hE⟩ => ⟨hv ▸ he, hE⟩)
  have h0 := hargs 0 _ rfl
  have hW := Ext.refl noG w0
  rw [pensionhand_Make] at hF
  refine WP.seq (WP.regionN mixed ⟨[[], []], [[], []], [[0], []], [], [], [(0, 1), (1, 2)], []⟩ [(1, fun u wz => ∃ b, u = .pointer (some ⟨b, 0, none⟩) ∧ w0.heap.size ≤ b ∧ Mb wz b 52 (pensionhand_Fact.cells d_)), (2, fun u wz => ∃ b, u = .pointer (some ⟨b, 0, none⟩) ∧ w0.heap.size ≤ b ∧ Mb wz b 49 (api_Fact.cells (⟨0, 0, 0, false, 0, 0, 0, (⟨0, 0⟩ : Span), 0, 0, 0, 0, 0⟩ : api_Fact)))] (fun b => w0.heap.size ≤ b) (by kernel_rfl) (.inr (fun _ h => h)) ⟨TStable.box, TStable.box, trivial⟩ ⟨fun ρz wz hE hA ⟨e0, _⟩ _ => core_newN rfl rfl rfl hE (o_box (e0.trans h0) (bx_52 _ _)),
 fun ρz wz hE hA _ _ => core_newN rfl rfl rfl hE (o_alloc (al_49 _)), trivial⟩ ?_)
  intro ρ1 w1 hE hN hf hr hdist
  have hN := hE.fresh
  obtain ⟨b1_, h1, hge_b1_, Hb_b1_⟩ := hf 0 rfl
  obtain ⟨b2_, h2, hge_b2_, Hb_b2_⟩ := hf 1 rfl
  have hB_b1_ : w0.heap.size ≤ b1_ := Nat.le_trans hW.size hge_b1_
  have hB_b2_ : w0.heap.size ≤ b2_ := Nat.le_trans hW.size hge_b2_
  have hne_b1__b2_ : b1_ ≠ b2_ := fun h => hdist (0, 1) (by simp) (1, 2) (by simp) (by decide) b1_ (by rw [h1]; rfl) (by rw [h2, h]; rfl)
  have hW := hW.trans hN
  refine WP.seq ?_
  obtain ⟨z, hz, hF⟩ := obind hF
  obtain ⟨z2, hz2, hF⟩ := obind hF
  obtain ⟨z3, hz3, hF⟩ := obind hF
  refine WP.region mixed [[], [0], [1], [], [3], [4], [5], [], [7], [8], [9], [], [11], [2, 6, 10, 12], [], [13, 14]] [[], [0], [1], [], [3], [4], [5], [], [7], [8], [9], [], [11], [2, 6, 10, 12], [], [13, 14]] [[1], [], [], [1], [], [], [], [1], [], [], [], [1], [], [], [], []] [15] [(14, 15)] [val 8 (.pointer (some ((⟨b1_, 0, none⟩ : Addr).add 0))), val 9 (.int .i64 d_.Issuer), val 10 (.int .i64 z), val 11 (.pointer (some ((⟨b1_, 0, none⟩ : Addr).add 1))), val 12 (.int .i64 d_.Number), val 13 (.int .i64 z2), val 14 (.int .i64 (i64 (1 + z2))), val 15 (.pointer (some ((⟨b1_, 0, none⟩ : Addr).add 2))), val 16 (.int .i64 d_.Version), val 17 (.int .i64 z3), val 18 (.int .i64 (i64 (1 + z3))), val 19 (.pointer (some ((⟨b1_, 0, none⟩ : Addr).add 3))), val 20 (.bool d_.Withdrawn), val 21 (api_Fact.val (⟨z, i64 (1 + z2), i64 (1 + z3), d_.Withdrawn, 0, 0, 0, (⟨0, 0⟩ : Span), 0, 0, 0, 0, 0⟩ : api_Fact)), (3, fun u wz => ∃ b, u = .pointer (some ⟨b, 0, none⟩) ∧ w1.heap.size ≤ b ∧ Mb wz b 49 (api_Fact.cells (⟨0, 0, 0, false, 0, 0, 0, (⟨0, 0⟩ : Span), 0, 0, 0, 0, 0⟩ : api_Fact))), (3, fun u wz => ∃ b, u = .pointer (some ⟨b, 0, none⟩) ∧ w1.heap.size ≤ b ∧ Mb wz b 49 (api_Fact.cells (⟨z, i64 (1 + z2), i64 (1 + z3), d_.Withdrawn, 0, 0, 0, (⟨0, 0⟩ : Span), 0, 0, 0, 0, 0⟩ : api_Fact)))] (fun b => w1.heap.size ≤ b) (by kernel_rfl) ⟨sV, sV, sV, sV, sV, sV, sV, sV, sV, sV, sV, sV, sV, sV, fun _ _ _ hE ⟨b, hb, hs, hM⟩ => ⟨b, hb, hs, hM.exn hE⟩, fun _ _ _ hE ⟨b, hb, hs, hM⟩ => ⟨b, hb, hs, hM.exn hE⟩, trivial⟩ ⟨fun ρz wz hE hA ⟨e1, _⟩ _ => core_val rfl rfl (o_fieldAddr (e1.trans h1) (fa_52_0 _ _)),
 fun ρz wz hE hA _ ⟨u0, _⟩ => core_val rfl rfl (o_load u0 (run_load1 (lr_3 _ _) (CA.sub ((Hb_b1_.exn hE.fresh).ca) 0 1))),
 fun ρz wz hE hA _ ⟨u1, _⟩ => core_call rfl (call_args2 u1 rfl) cf_26 (pensionplain_Mod_ok  _ _  hz),
 fun ρz wz hE hA ⟨e1, _⟩ _ => core_val rfl rfl (o_fieldAddr (e1.trans h1) (fa_52_1 _ _)),
 fun ρz wz hE hA _ ⟨u3, _⟩ => core_val rfl rfl (o_load u3 (run_load1 (lr_3 _ _) (CA.sub ((Hb_b1_.exn hE.fresh).ca) 1 1))),
 fun ρz wz hE hA _ ⟨u4, _⟩ => core_call rfl (call_args2 u4 rfl) cf_26 (pensionplain_Mod_ok  _ _  hz2),
 fun ρz wz hE hA _ ⟨u5, _⟩ => core_val rfl rfl (o_add rfl u5 rfl),
 fun ρz wz hE hA ⟨e1, _⟩ _ => core_val rfl rfl (o_fieldAddr (e1.trans h1) (fa_52_2 _ _)),
 fun ρz wz hE hA _ ⟨u7, _⟩ => core_val rfl rfl (o_load u7 (run_load1 (lr_3 _ _) (CA.sub ((Hb_b1_.exn hE.fresh).ca) 2 1))),
 fun ρz wz hE hA _ ⟨u8, _⟩ => core_call rfl (call_args2 u8 rfl) cf_26 (pensionplain_Mod_ok  _ _  hz3),
 fun ρz wz hE hA _ ⟨u9, _⟩ => core_val rfl rfl (o_add rfl u9 rfl),
 fun ρz wz hE hA ⟨e1, _⟩ _ => core_val rfl rfl (o_fieldAddr (e1.trans h1) (fa_52_3 _ _)),
 fun ρz wz hE hA _ ⟨u11, _⟩ => core_val rfl rfl (o_load u11 (run_load1 (lr_4 _ _) (CA.sub ((Hb_b1_.exn hE.fresh).ca) 3 1))),
 fun ρz wz hE hA _ ⟨u2, u6, u10, u12, _⟩ => core_val rfl rfl (o_build (build_parts4 u2 u6 u10 u12) (bd_49_0_1_2_3 _ _ _ _ _)),
 fun ρz wz hE hA _ _ => core_new rfl rfl hE (o_alloc (al_49 _)),
 fun ρz wz hE hA _ ⟨u13, u14, _⟩ => core_storeNew rfl rfl rfl rfl u13 u14 (fun a w => st_49 _ a w) rfl (one_49 _), trivial⟩ ?_
  intro ρ2 w2 hE hN hf hr
  have hN := hE.fresh
  obtain ⟨b3_, h3, hge_b3_, Hb_b3_⟩ := hf 15 rfl
  obtain ⟨h1, h2⟩ := k2 hr h1 h2 rfl
  have Hb_b1_n := Hb_b1_.exn hN
  have Hb_b2_n := Hb_b2_.exn hN
  have hB_b3_ : w0.heap.size ≤ b3_ := Nat.le_trans hW.size hge_b3_
  have hne_b1__b3_ : b1_ ≠ b3_ := Nat.ne_of_lt (Nat.lt_of_lt_of_le Hb_b1_.lt hge_b3_)
  have hne_b2__b3_ : b2_ ≠ b3_ := Nat.ne_of_lt (Nat.lt_of_lt_of_le Hb_b2_.lt hge_b3_)
  have hW := hW.trans hN
  have Hb_b1_ := Hb_b1_n
  have Hb_b2_ := Hb_b2_n
  refine WP.seq ?_
  obtain ⟨z4, hz4, hF⟩ := obind hF
  obtain ⟨z5, hz5, hF⟩ := obind hF
  refine WP.region mixed [[], [0], [1], [2], [], [4], [5], [6], [], [1, 2, 3, 5, 6, 8], [9], [1, 2, 5, 6, 7, 9, 10]] [[], [0], [1], [2], [], [4], [5], [6], [], [3, 8], [], [7, 9, 10]] [[1], [], [], [], [1], [], [], [], [3], [], [3], []] [9, 11] [(9, 11)] [val 22 (.pointer (some ((⟨b1_, 0, none⟩ : Addr).add 4))), val 23 (.int .i64 d_.Person), val 24 (.int .i64 z4), val 25 (.int .i64 (i64 (1 + z4))), val 26 (.pointer (some ((⟨b1_, 0, none⟩ : Addr).add 5))), val 27 (.int .i64 d_.Kind), val 28 (.int .i64 z5), val 29 (.int .i64 (i64 (1 + z5))), val 30 (.pointer (some ((⟨b3_, 0, none⟩ : Addr).add 4))), (30, fun _ wz => Mb wz b3_ 49 (api_Fact.cells ({ (⟨z, i64 (1 + z2), i64 (1 + z3), d_.Withdrawn, 0, 0, 0, (⟨0, 0⟩ : Span), 0, 0, 0, 0, 0⟩ : api_Fact) with Person := i64 (1 + z4) } : api_Fact))), val 31 (.pointer (some ((⟨b3_, 0, none⟩ : Addr).add 5))), (31, fun _ wz => Mb wz b3_ 49 (api_Fact.cells ({ ({ (⟨z, i64 (1 + z2), i64 (1 + z3), d_.Withdrawn, 0, 0, 0, (⟨0, 0⟩ : Span), 0, 0, 0, 0, 0⟩ : api_Fact) with Person := i64 (1 + z4) } : api_Fact) with Kind := i64 (1 + z5) } : api_Fact)))] (fun x => x = b3_) (by kernel_rfl) ⟨sV, sV, sV, sV, sV, sV, sV, sV, sV, fun _ _ _ hE hM => hM.exn hE, sV, fun _ _ _ hE hM => hM.exn hE, trivial⟩ ⟨fun ρz wz hE hA ⟨e1, _⟩ _ => core_val rfl rfl (o_fieldAddr (e1.trans h1) (fa_52_4 _ _)),
 fun ρz wz hE hA _ ⟨u0, _⟩ => core_val rfl rfl (o_load u0 (run_load1 (lr_3 _ _) (CA.sub ((Hb_b1_.exn (hA rfl)).ca) 4 1))),
 fun ρz wz hE hA _ ⟨u1, _⟩ => core_call rfl (call_args2 u1 rfl) cf_26 (pensionplain_Mod_ok  _ _  hz4),
 fun ρz wz hE hA _ ⟨u2, _⟩ => core_val rfl rfl (o_add rfl u2 rfl),
 fun ρz wz hE hA ⟨e1, _⟩ _ => core_val rfl rfl (o_fieldAddr (e1.trans h1) (fa_52_5 _ _)),
 fun ρz wz hE hA _ ⟨u4, _⟩ => core_val rfl rfl (o_load u4 (run_load1 (lr_3 _ _) (CA.sub ((Hb_b1_.exn (hA rfl)).ca) 5 1))),
 fun ρz wz hE hA _ ⟨u5, _⟩ => core_call rfl (call_args2 u5 rfl) cf_26 (pensionplain_Mod_ok  _ _  hz5),
 fun ρz wz hE hA _ ⟨u6, _⟩ => core_val rfl rfl (o_add rfl u6 rfl),
 fun ρz wz hE hA ⟨e3, _⟩ _ => core_val rfl rfl (o_fieldAddr (e3.trans h3) (fa_49_4 _ _)),
 fun ρz wz hE hA _ ⟨u3, u8, _⟩ => core_storePart (k := 4) (vs := [Value.int .i64 (i64 (1 + z4))]) (cs0 := (api_Fact.cells (⟨z, i64 (1 + z2), i64 (1 + z3), d_.Withdrawn, 0, 0, 0, (⟨0, 0⟩ : Span), 0, 0, 0, 0, 0⟩ : api_Fact))) rfl rfl (fun _ h => h) u8 rfl u3 (Hb_b3_.exn (hA rfl)) (fun a w => st_3 _ a w) (Nat.le_of_ble_eq_true rfl) rfl (one_3 _),
 fun ρz wz hE hA ⟨e3, _⟩ _ => core_val rfl rfl (o_fieldAddr (e3.trans h3) (fa_49_5 _ _)),
 fun ρz wz hE hA _ ⟨u7, u9, u10, _⟩ => core_storePart (k := 5) (vs := [Value.int .i64 (i64 (1 + z5))]) (cs0 := (api_Fact.cells ({ (⟨z, i64 (1 + z2), i64 (1 + z3), d_.Withdrawn, 0, 0, 0, (⟨0, 0⟩ : Span), 0, 0, 0, 0, 0⟩ : api_Fact) with Person := i64 (1 + z4) } : api_Fact))) rfl rfl (fun _ h => h) u10 rfl u7 u9 (fun a w => st_3 _ a w) (Nat.le_of_ble_eq_true rfl) rfl (one_3 _), trivial⟩ ?_
  intro ρ3 w3 hE hN hf hr
  obtain ⟨h1, h2, h3⟩ := k3 hr h1 h2 h3 rfl
  have Hb_b1_n := Hb_b1_.ext hE (fun h => hne_b1__b3_ h)
  have Hb_b2_n := Hb_b2_.ext hE (fun h => hne_b2__b3_ h)
  have Hb_b3_n := hf 11 rfl
  have hW := Ext.own hW hE (fun x h => h.symm ▸ hB_b3_)
  have Hb_b1_ := Hb_b1_n
  have Hb_b2_ := Hb_b2_n
  have Hb_b3_ := Hb_b3_n
  refine WP.seq ?_
  obtain ⟨z6, hz6, hF⟩ := obind hF
  refine WP.rb mixed [[], [0], [1], [2], [3]] [[1], [], [], [], []] [(32, .pointer (some ((⟨b1_, 0, none⟩ : Addr).add 8))), (33, .int .i64 d_.From), (34, .int .i64 z6), (35, .int .i64 (i64 (21900 + z6))), (4, .int .i64 (i64 (21900 + z6)))] (by kernel_rfl) ⟨fun ρz wz hE hA ⟨e1, _⟩ _ => core_val rfl rfl (o_fieldAddr (e1.trans h1) (fa_52_8 _ _)),
 fun ρz wz hE hA _ ⟨u0, _⟩ => core_val rfl rfl (o_load u0 (run_load1 (lr_3 _ _) (CA.sub ((Hb_b1_.exn (hA rfl)).ca) 8 1))),
 fun ρz wz hE hA _ ⟨u1, _⟩ => core_call rfl (call_args2 u1 rfl) cf_26 (pensionplain_Mod_ok  _ _  hz6),
 fun ρz wz hE hA _ ⟨u2, _⟩ => core_val rfl rfl (o_add rfl u2 rfl),
 aU rfl rfl rfl, trivial⟩ ?_
  intro ρ4 w4 hN hf hr
  have h4 := hv hf 4 rfl rfl
  obtain ⟨h1, h2, h3⟩ := k3 hr h1 h2 h3 rfl
  have Hb_b1_n := Hb_b1_.exn hN
  have Hb_b2_n := Hb_b2_.exn hN
  have Hb_b3_n := Hb_b3_.exn hN
  have hW := hW.trans hN
  have Hb_b1_ := Hb_b1_n
  have Hb_b2_ := Hb_b2_n
  have Hb_b3_ := Hb_b3_n
  refine WP.seq ?_
  obtain ⟨z7, hz7, hF⟩ := obind hF
  refine WP.rb mixed [[], [], [1], [2], [0, 3], [4]] [[4], [1], [], [], [], []] [(36, .int .i64 (i64 (21900 + z6))), (37, .pointer (some ((⟨b1_, 0, none⟩ : Addr).add 9))), (38, .int .i64 d_.Length), (39, .int .i64 z7), (40, .int .i64 (i64 (i64 (21900 + z6) + z7))), (5, .int .i64 (i64 (i64 (21900 + z6) + z7)))] (by kernel_rfl) ⟨mE rfl rfl h4,
 fun ρz wz hE hA ⟨e1, _⟩ _ => core_val rfl rfl (o_fieldAddr (e1.trans h1) (fa_52_9 _ _)),
 fun ρz wz hE hA _ ⟨u1, _⟩ => core_val rfl rfl (o_load u1 (run_load1 (lr_3 _ _) (CA.sub ((Hb_b1_.exn (hA rfl)).ca) 9 1))),
 fun ρz wz hE hA _ ⟨u2, _⟩ => core_call rfl (call_args1 u2) cf_38 (pensionhand_length_ok  _  hz7),
 fun ρz wz hE hA _ ⟨u0, u3, _⟩ => core_val rfl rfl (o_add u0 u3 rfl),
 aU rfl rfl rfl, trivial⟩ ?_
  intro ρ5 w5 hN hf hr
  have h5 := hv hf 5 rfl rfl
  obtain ⟨h1, h2, h3, h4⟩ := k4 hr h1 h2 h3 h4 rfl
  have Hb_b1_n := Hb_b1_.exn hN
  have Hb_b2_n := Hb_b2_.exn hN
  have Hb_b3_n := Hb_b3_.exn hN
  have hW := hW.trans hN
  have Hb_b1_ := Hb_b1_n
  have Hb_b2_ := Hb_b2_n
  have Hb_b3_ := Hb_b3_n
  refine WP.seqJ (fun ρ w => ∃ x : Int, ∃ x2 : Int, ρ 1 = .pointer (some ⟨b1_, 0, none⟩) ∧ ρ 2 = .pointer (some ⟨b2_, 0, none⟩) ∧ ρ 3 = .pointer (some ⟨b3_, 0, none⟩) ∧ ρ 4 = .int .i64 x ∧ ρ 5 = .int .i64 x2 ∧ Mb w b1_ 52 (pensionhand_Fact.cells d_) ∧ Mb w b2_ 49 (api_Fact.cells (⟨0, 0, 0, false, 0, 0, 0, (⟨0, 0⟩ : Span), 0, 0, 0, 0, 0⟩ : api_Fact)) ∧ Mb w b3_ 49 (api_Fact.cells ({ ({ (⟨z, i64 (1 + z2), i64 (1 + z3), d_.Withdrawn, 0, 0, 0, (⟨0, 0⟩ : Span), 0, 0, 0, 0, 0⟩ : api_Fact) with Person := i64 (1 + z4) } : api_Fact) with Kind := i64 (1 + z5) } : api_Fact)) ∧ b1_ ≠ b2_ ∧ b1_ ≠ b3_ ∧ b2_ ≠ b3_ ∧ Ext noG w0 w ∧ pensionhand_Make_j d_ z z2 z3 z4 z5 x x2 = some r) ?_ ?_
  · refine WP.seq (WP.rb mixed [[], [0]] [[3], []] [(41, .pointer (some ((⟨b3_, 0, none⟩ : Addr).add 5))), (42, .int .i64 (({ ({ (⟨z, i64 (1 + z2), i64 (1 + z3), d_.Withdrawn, 0, 0, 0, (⟨0, 0⟩ : Span), 0, 0, 0, 0, 0⟩ : api_Fact) with Person := i64 (1 + z4) } : api_Fact) with Kind := i64 (1 + z5) } : api_Fact).Kind))] (by kernel_rfl) ⟨fun ρz wz hE hA ⟨e3, _⟩ _ => core_val rfl rfl (o_fieldAddr (e3.trans h3) (fa_49_5 _ _)),
 fun ρz wz hE hA _ ⟨u0, _⟩ => core_val rfl rfl (o_load u0 (run_load1 (lr_3 _ _) (CA.sub ((Hb_b3_.exn (hA rfl)).ca) 5 1))), trivial⟩ ?_)
    intro ρ32 w32 hN hf hr
    have h42 := hv hf 1 rfl rfl
    obtain ⟨h1, h2, h3, h4, h5⟩ := k5 hr h1 h2 h3 h4 h5 rfl
    have Hb_b1_n := Hb_b1_.exn hN
    have Hb_b2_n := Hb_b2_.exn hN
    have Hb_b3_n := Hb_b3_.exn hN
    have hW := hW.trans hN
    have Hb_b1_ := Hb_b1_n
    have Hb_b2_ := Hb_b2_n
    have Hb_b3_ := Hb_b3_n
    refine WP.block (WP.seq (WP.rb mixed [[], [0]] [[42], []] [(44, .bool (({ ({ (⟨z, i64 (1 + z2), i64 (1 + z3), d_.Withdrawn, 0, 0, 0, (⟨0, 0⟩ : Span), 0, 0, 0, 0, 0⟩ : api_Fact) with Person := i64 (1 + z4) } : api_Fact) with Kind := i64 (1 + z5) } : api_Fact).Kind == 11)), (43, .bool (({ ({ (⟨z, i64 (1 + z2), i64 (1 + z3), d_.Withdrawn, 0, 0, 0, (⟨0, 0⟩ : Span), 0, 0, 0, 0, 0⟩ : api_Fact) with Person := i64 (1 + z4) } : api_Fact) with Kind := i64 (1 + z5) } : api_Fact).Kind == 11))] (by kernel_rfl) ⟨fun ρz wz hE hA ⟨e42, _⟩ _ => core_val rfl rfl (o_eql (e42.trans h42) rfl rfl),
 aU rfl rfl rfl, trivial⟩ ?_))
    intro ρ33 w33 hN hf hr
    have h43 := hv hf 1 rfl rfl
    obtain ⟨h1, h2, h3, h4, h5, h42⟩ := k6 hr h1 h2 h3 h4 h5 h42 rfl
    have Hb_b1_n := Hb_b1_.exn hN
    have Hb_b2_n := Hb_b2_.exn hN
    have Hb_b3_n := Hb_b3_.exn hN
    have hW := hW.trans hN
    have Hb_b1_ := Hb_b1_n
    have Hb_b2_ := Hb_b2_n
    have Hb_b3_ := Hb_b3_n
    refine WP.cond rfl h43 (fun hb => ?_) (fun hb => ?_)
    · have hF := (if_pos hb).symm.trans hF
      refine WP.seq ?_
      obtain ⟨z17, hz17, hF⟩ := obind hF
      refine WP.rb mixed [[], [0], [1], [2], [3]] [[1], [], [], [], []] [(45, .pointer (some ((⟨b1_, 0, none⟩ : Addr).add 8))), (46, .int .i64 d_.From), (47, .int .i64 z17), (48, .int .i64 (i64 (12000 + z17))), (4, .int .i64 (i64 (12000 + z17)))] (by kernel_rfl) ⟨fun ρz wz hE hA ⟨e1, _⟩ _ => core_val rfl rfl (o_fieldAddr (e1.trans h1) (fa_52_8 _ _)),
 fun ρz wz hE hA _ ⟨u0, _⟩ => core_val rfl rfl (o_load u0 (run_load1 (lr_3 _ _) (CA.sub ((Hb_b1_.exn (hA rfl)).ca) 8 1))),
 fun ρz wz hE hA _ ⟨u1, _⟩ => core_call rfl (call_args2 u1 rfl) cf_26 (pensionplain_Mod_ok  _ _  hz17),
 fun ρz wz hE hA _ ⟨u2, _⟩ => core_val rfl rfl (o_add rfl u2 rfl),
 aU rfl rfl rfl, trivial⟩ ?_
      intro ρ34 w34 hN hf hr
      have h4 := hv hf 4 rfl rfl
      obtain ⟨h1, h2, h3⟩ := k3 hr h1 h2 h3 rfl
      have Hb_b1_n := Hb_b1_.exn hN
      have Hb_b2_n := Hb_b2_.exn hN
      have Hb_b3_n := Hb_b3_.exn hN
      have hW := hW.trans hN
      have Hb_b1_ := Hb_b1_n
      have Hb_b2_ := Hb_b2_n
      have Hb_b3_ := Hb_b3_n
      refine WP.rb mixed [[], [0], [1]] [[4], [], []] [(49, .int .i64 (i64 (12000 + z17))), (50, .int .i64 (i64 (i64 (12000 + z17) + 1))), (5, .int .i64 (i64 (i64 (12000 + z17) + 1)))] (by kernel_rfl) ⟨mE rfl rfl h4,
 fun ρz wz hE hA _ ⟨u0, _⟩ => core_val rfl rfl (o_add u0 rfl rfl),
 aU rfl rfl rfl, trivial⟩ ?_
      intro ρ35 w35 hN hf hr
      have h5 := hv hf 2 rfl rfl
      obtain ⟨h1, h2, h3, h4⟩ := k4 hr h1 h2 h3 h4 rfl
      have Hb_b1_n := Hb_b1_.exn hN
      have Hb_b2_n := Hb_b2_.exn hN
      have Hb_b3_n := Hb_b3_.exn hN
      have hW := hW.trans hN
      have Hb_b1_ := Hb_b1_n
      have Hb_b2_ := Hb_b2_n
      have Hb_b3_ := Hb_b3_n
      exact ⟨i64 (12000 + z17), i64 (i64 (12000 + z17) + 1), h1, h2, h3, h4, h5, Hb_b1_, Hb_b2_, Hb_b3_, hne_b1__b2_, hne_b1__b3_, hne_b2__b3_, hW, hF⟩
    have hF := (if_neg (Bool.eq_false_iff.1 hb)).symm.trans hF
    refine WP.seq (WP.rb mixed [[], [0]] [[42], []] [(52, .bool (({ ({ (⟨z, i64 (1 + z2), i64 (1 + z3), d_.Withdrawn, 0, 0, 0, (⟨0, 0⟩ : Span), 0, 0, 0, 0, 0⟩ : api_Fact) with Person := i64 (1 + z4) } : api_Fact) with Kind := i64 (1 + z5) } : api_Fact).Kind == 12)), (51, .bool (({ ({ (⟨z, i64 (1 + z2), i64 (1 + z3), d_.Withdrawn, 0, 0, 0, (⟨0, 0⟩ : Span), 0, 0, 0, 0, 0⟩ : api_Fact) with Person := i64 (1 + z4) } : api_Fact) with Kind := i64 (1 + z5) } : api_Fact).Kind == 12))] (by kernel_rfl) ⟨fun ρz wz hE hA ⟨e42, _⟩ _ => core_val rfl rfl (o_eql (e42.trans h42) rfl rfl),
 aU rfl rfl rfl, trivial⟩ ?_)
    intro ρ36 w36 hN hf hr
    have h51 := hv hf 1 rfl rfl
    obtain ⟨h1, h2, h3, h4, h5, h42⟩ := k6 hr h1 h2 h3 h4 h5 h42 rfl
    have Hb_b1_n := Hb_b1_.exn hN
    have Hb_b2_n := Hb_b2_.exn hN
    have Hb_b3_n := Hb_b3_.exn hN
    have hW := hW.trans hN
    have Hb_b1_ := Hb_b1_n
    have Hb_b2_ := Hb_b2_n
    have Hb_b3_ := Hb_b3_n
    refine WP.cond rfl h51 (fun hb => ?_) (fun hb => ?_)
    · have hF := (if_pos hb).symm.trans hF
      refine WP.seq ?_
      obtain ⟨z18, hz18, hF⟩ := obind hF
      refine WP.rb mixed [[], [0], [1], [2], [3]] [[1], [], [], [], []] [(53, .pointer (some ((⟨b1_, 0, none⟩ : Addr).add 8))), (54, .int .i64 d_.From), (55, .int .i64 z18), (56, .int .i64 (i64 (34000 + z18))), (4, .int .i64 (i64 (34000 + z18)))] (by kernel_rfl) ⟨fun ρz wz hE hA ⟨e1, _⟩ _ => core_val rfl rfl (o_fieldAddr (e1.trans h1) (fa_52_8 _ _)),
 fun ρz wz hE hA _ ⟨u0, _⟩ => core_val rfl rfl (o_load u0 (run_load1 (lr_3 _ _) (CA.sub ((Hb_b1_.exn (hA rfl)).ca) 8 1))),
 fun ρz wz hE hA _ ⟨u1, _⟩ => core_call rfl (call_args2 u1 rfl) cf_26 (pensionplain_Mod_ok  _ _  hz18),
 fun ρz wz hE hA _ ⟨u2, _⟩ => core_val rfl rfl (o_add rfl u2 rfl),
 aU rfl rfl rfl, trivial⟩ ?_
      intro ρ37 w37 hN hf hr
      have h4 := hv hf 4 rfl rfl
      obtain ⟨h1, h2, h3⟩ := k3 hr h1 h2 h3 rfl
      have Hb_b1_n := Hb_b1_.exn hN
      have Hb_b2_n := Hb_b2_.exn hN
      have Hb_b3_n := Hb_b3_.exn hN
      have hW := hW.trans hN
      have Hb_b1_ := Hb_b1_n
      have Hb_b2_ := Hb_b2_n
      have Hb_b3_ := Hb_b3_n
      refine WP.rb mixed [[], [0], [1]] [[4], [], []] [(57, .int .i64 (i64 (34000 + z18))), (58, .int .i64 (i64 (i64 (34000 + z18) + 1))), (5, .int .i64 (i64 (i64 (34000 + z18) + 1)))] (by kernel_rfl) ⟨mE rfl rfl h4,
 fun ρz wz hE hA _ ⟨u0, _⟩ => core_val rfl rfl (o_add u0 rfl rfl),
 aU rfl rfl rfl, trivial⟩ ?_
      intro ρ38 w38 hN hf hr
      have h5 := hv hf 2 rfl rfl
      obtain ⟨h1, h2, h3, h4⟩ := k4 hr h1 h2 h3 h4 rfl
      have Hb_b1_n := Hb_b1_.exn hN
      have Hb_b2_n := Hb_b2_.exn hN
      have Hb_b3_n := Hb_b3_.exn hN
      have hW := hW.trans hN
      have Hb_b1_ := Hb_b1_n
      have Hb_b2_ := Hb_b2_n
      have Hb_b3_ := Hb_b3_n
      exact ⟨i64 (34000 + z18), i64 (i64 (34000 + z18) + 1), h1, h2, h3, h4, h5, Hb_b1_, Hb_b2_, Hb_b3_, hne_b1__b2_, hne_b1__b3_, hne_b2__b3_, hW, hF⟩
    have hF := (if_neg (Bool.eq_false_iff.1 hb)).symm.trans hF
    refine WP.seq (WP.rb mixed [[], [0]] [[42], []] [(60, .bool (({ ({ (⟨z, i64 (1 + z2), i64 (1 + z3), d_.Withdrawn, 0, 0, 0, (⟨0, 0⟩ : Span), 0, 0, 0, 0, 0⟩ : api_Fact) with Person := i64 (1 + z4) } : api_Fact) with Kind := i64 (1 + z5) } : api_Fact).Kind == 8)), (59, .bool (({ ({ (⟨z, i64 (1 + z2), i64 (1 + z3), d_.Withdrawn, 0, 0, 0, (⟨0, 0⟩ : Span), 0, 0, 0, 0, 0⟩ : api_Fact) with Person := i64 (1 + z4) } : api_Fact) with Kind := i64 (1 + z5) } : api_Fact).Kind == 8))] (by kernel_rfl) ⟨fun ρz wz hE hA ⟨e42, _⟩ _ => core_val rfl rfl (o_eql (e42.trans h42) rfl rfl),
 aU rfl rfl rfl, trivial⟩ ?_)
    intro ρ39 w39 hN hf hr
    have h59 := hv hf 1 rfl rfl
    obtain ⟨h1, h2, h3, h4, h5⟩ := k5 hr h1 h2 h3 h4 h5 rfl
    have Hb_b1_n := Hb_b1_.exn hN
    have Hb_b2_n := Hb_b2_.exn hN
    have Hb_b3_n := Hb_b3_.exn hN
    have hW := hW.trans hN
    have Hb_b1_ := Hb_b1_n
    have Hb_b2_ := Hb_b2_n
    have Hb_b3_ := Hb_b3_n
    refine WP.cond rfl h59 (fun hb => ?_) (fun hb => ?_)
    · have hF := (if_pos hb).symm.trans hF
      refine WP.seq ?_
      obtain ⟨z19, hz19, hF⟩ := obind hF
      refine WP.rb mixed [[], [0], [1], [2], [3]] [[1], [], [], [], []] [(61, .pointer (some ((⟨b1_, 0, none⟩ : Addr).add 8))), (62, .int .i64 d_.From), (63, .int .i64 z19), (64, .int .i64 (i64 (34000 + z19))), (4, .int .i64 (i64 (34000 + z19)))] (by kernel_rfl) ⟨fun ρz wz hE hA ⟨e1, _⟩ _ => core_val rfl rfl (o_fieldAddr (e1.trans h1) (fa_52_8 _ _)),
 fun ρz wz hE hA _ ⟨u0, _⟩ => core_val rfl rfl (o_load u0 (run_load1 (lr_3 _ _) (CA.sub ((Hb_b1_.exn (hA rfl)).ca) 8 1))),
 fun ρz wz hE hA _ ⟨u1, _⟩ => core_call rfl (call_args2 u1 rfl) cf_26 (pensionplain_Mod_ok  _ _  hz19),
 fun ρz wz hE hA _ ⟨u2, _⟩ => core_val rfl rfl (o_add rfl u2 rfl),
 aU rfl rfl rfl, trivial⟩ ?_
      intro ρ40 w40 hN hf hr
      have h4 := hv hf 4 rfl rfl
      obtain ⟨h1, h2, h3⟩ := k3 hr h1 h2 h3 rfl
      have Hb_b1_n := Hb_b1_.exn hN
      have Hb_b2_n := Hb_b2_.exn hN
      have Hb_b3_n := Hb_b3_.exn hN
      have hW := hW.trans hN
      have Hb_b1_ := Hb_b1_n
      have Hb_b2_ := Hb_b2_n
      have Hb_b3_ := Hb_b3_n
      obtain ⟨z20, hz20, hF⟩ := obind hF
      refine WP.rb mixed [[], [0], [], [2], [3], [1, 4], [5]] [[4], [], [1], [], [], [], []] [(65, .int .i64 (i64 (34000 + z19))), (66, .int .i64 (i64 (i64 (34000 + z19) + 1))), (67, .pointer (some ((⟨b1_, 0, none⟩ : Addr).add 9))), (68, .int .i64 d_.Length), (69, .int .i64 z20), (70, .int .i64 (i64 (i64 (i64 (34000 + z19) + 1) + z20))), (5, .int .i64 (i64 (i64 (i64 (34000 + z19) + 1) + z20)))] (by kernel_rfl) ⟨mE rfl rfl h4,
 fun ρz wz hE hA _ ⟨u0, _⟩ => core_val rfl rfl (o_add u0 rfl rfl),
 fun ρz wz hE hA ⟨e1, _⟩ _ => core_val rfl rfl (o_fieldAddr (e1.trans h1) (fa_52_9 _ _)),
 fun ρz wz hE hA _ ⟨u2, _⟩ => core_val rfl rfl (o_load u2 (run_load1 (lr_3 _ _) (CA.sub ((Hb_b1_.exn (hA rfl)).ca) 9 1))),
 fun ρz wz hE hA _ ⟨u3, _⟩ => core_call rfl (call_args2 u3 rfl) cf_26 (pensionplain_Mod_ok  _ _  hz20),
 fun ρz wz hE hA _ ⟨u1, u4, _⟩ => core_val rfl rfl (o_add u1 u4 rfl),
 aU rfl rfl rfl, trivial⟩ ?_
      intro ρ41 w41 hN hf hr
      have h5 := hv hf 6 rfl rfl
      obtain ⟨h1, h2, h3, h4⟩ := k4 hr h1 h2 h3 h4 rfl
      have Hb_b1_n := Hb_b1_.exn hN
      have Hb_b2_n := Hb_b2_.exn hN
      have Hb_b3_n := Hb_b3_.exn hN
      have hW := hW.trans hN
      have Hb_b1_ := Hb_b1_n
      have Hb_b2_ := Hb_b2_n
      have Hb_b3_ := Hb_b3_n
      exact ⟨i64 (34000 + z19), i64 (i64 (i64 (34000 + z19) + 1) + z20), h1, h2, h3, h4, h5, Hb_b1_, Hb_b2_, Hb_b3_, hne_b1__b2_, hne_b1__b3_, hne_b2__b3_, hW, hF⟩
    have hF := (if_neg (Bool.eq_false_iff.1 hb)).symm.trans hF
    refine WP.skip ?_
    exact ⟨i64 (21900 + z6), i64 (i64 (21900 + z6) + z7), h1, h2, h3, h4, h5, Hb_b1_, Hb_b2_, Hb_b3_, hne_b1__b2_, hne_b1__b3_, hne_b2__b3_, hW, hF⟩
  rintro ρ6 w6 ⟨x, x2, h1, h2, h3, h4, h5, Hb_b1_, Hb_b2_, Hb_b3_, hne_b1__b2_, hne_b1__b3_, hne_b2__b3_, hW, hF⟩
  rw [pensionhand_Make_j] at hF
  refine WP.seq ?_
  obtain ⟨z8, hz8, hF⟩ := obind hF
  refine WP.rb mixed [[], [0], [1], [2]] [[3], [], [], []] [(71, .pointer (some ((⟨b3_, 0, none⟩ : Addr).add 5))), (72, .int .i64 (({ ({ (⟨z, i64 (1 + z2), i64 (1 + z3), d_.Withdrawn, 0, 0, 0, (⟨0, 0⟩ : Span), 0, 0, 0, 0, 0⟩ : api_Fact) with Person := i64 (1 + z4) } : api_Fact) with Kind := i64 (1 + z5) } : api_Fact).Kind)), (73, .string z8), (6, .string z8)] (by kernel_rfl) ⟨fun ρz wz hE hA ⟨e3, _⟩ _ => core_val rfl rfl (o_fieldAddr (e3.trans h3) (fa_49_5 _ _)),
 fun ρz wz hE hA _ ⟨u0, _⟩ => core_val rfl rfl (o_load u0 (run_load1 (lr_3 _ _) (CA.sub ((Hb_b3_.exn (hA rfl)).ca) 5 1))),
 fun ρz wz hE hA _ ⟨u1, _⟩ => core_call rfl (call_args1 u1) cf_39 (pensionref12_Uses_ok  _  hz8),
 aU rfl rfl rfl, trivial⟩ ?_
  intro ρ7 w7 hN hf hr
  have h6 := hv hf 3 rfl rfl
  obtain ⟨h1, h2, h3, h4, h5⟩ := k5 hr h1 h2 h3 h4 h5 rfl
  have Hb_b1_n := Hb_b1_.exn hN
  have Hb_b2_n := Hb_b2_.exn hN
  have Hb_b3_n := Hb_b3_.exn hN
  have hW := hW.trans hN
  have Hb_b1_ := Hb_b1_n
  have Hb_b2_ := Hb_b2_n
  have Hb_b3_ := Hb_b3_n
  refine WP.seq (WP.seq (WP.rb mixed [[]] [[]] [(7, .int .i64 0)] (by kernel_rfl) ⟨aC rfl rfl (fun _ => rfl), trivial⟩ ?_))
  intro ρ8 w8 hN hf hr
  have h7 := hv hf 0 rfl rfl
  obtain ⟨h1, h2, h3, h4, h5, h6⟩ := k6 hr h1 h2 h3 h4 h5 h6 rfl
  have Hb_b1_n := Hb_b1_.exn hN
  have Hb_b2_n := Hb_b2_.exn hN
  have Hb_b3_n := Hb_b3_.exn hN
  have hW := hW.trans hN
  have Hb_b1_ := Hb_b1_n
  have Hb_b2_ := Hb_b2_n
  have Hb_b3_ := Hb_b3_n
  refine WP.block (WP.loop (fun k_ ρ w => ∃ x3 : Int, ∃ v : api_Fact, ρ 1 = .pointer (some ⟨b1_, 0, none⟩) ∧ ρ 2 = .pointer (some ⟨b2_, 0, none⟩) ∧ ρ 3 = .pointer (some ⟨b3_, 0, none⟩) ∧ ρ 4 = .int .i64 x ∧ ρ 5 = .int .i64 x2 ∧ ρ 6 = .string z8 ∧ ρ 7 = .int .i64 x3 ∧ Mb w b1_ 52 (pensionhand_Fact.cells d_) ∧ Mb w b2_ 49 (api_Fact.cells (⟨0, 0, 0, false, 0, 0, 0, (⟨0, 0⟩ : Span), 0, 0, 0, 0, 0⟩ : api_Fact)) ∧ Mb w b3_ 49 (api_Fact.cells v) ∧ b1_ ≠ b2_ ∧ b1_ ≠ b3_ ∧ b2_ ≠ b3_ ∧ Ext noG w0 w ∧ loopC k_ (pensionhand_Make_l d_ x x2 z8) (x3, v) = some r) FU ⟨0, ({ ({ (⟨z, i64 (1 + z2), i64 (1 + z3), d_.Withdrawn, 0, 0, 0, (⟨0, 0⟩ : Span), 0, 0, 0, 0, 0⟩ : api_Fact) with Person := i64 (1 + z4) } : api_Fact) with Kind := i64 (1 + z5) } : api_Fact), h1, h2, h3, h4, h5, h6, h7, Hb_b1_, Hb_b2_, Hb_b3_, hne_b1__b2_, hne_b1__b3_, hne_b2__b3_, hW, hF⟩ (fun _ _ h => by obtain ⟨_, _, _, _, _, _, _, _, _, _, _, _, _, _, _, _, h⟩ := h; cases h) ?_)
  rintro k_ ρ9 w9 ⟨x3, v, h1, h2, h3, h4, h5, h6, h7, Hb_b1_, Hb_b2_, Hb_b3_, hne_b1__b2_, hne_b1__b3_, hne_b2__b3_, hW, hF⟩
  have hF : pensionhand_Make_l d_ x x2 z8 (loopC k_ (pensionhand_Make_l d_ x x2 z8)) (x3, v) = some r := hF
  generalize hrec_ : loopC k_ (pensionhand_Make_l d_ x x2 z8) = rec_ at hF
  rw [pensionhand_Make_l] at hF
  refine WP.seq (WP.seq (WP.rb mixed [[], [], [1], [0, 2]] [[7], [6], [], []] [(74, .int .i64 x3), (75, .string z8), (76, .int .i64 (z8.size : Int)), (77, .bool (decide (x3 < (z8.size : Int))))] (by kernel_rfl) ⟨mE rfl rfl h7,
 mE rfl rfl h6,
 fun ρz wz hE hA _ ⟨u1, _⟩ => core_val rfl rfl (o_len u1 len_9),
 fun ρz wz hE hA _ ⟨u0, u2, _⟩ => core_val rfl rfl (o_lss u0 u2 rfl), trivial⟩ ?_))
  intro ρ10 w10 hN hf hr
  have h77 := hv hf 3 rfl rfl
  obtain ⟨h1, h2, h3, h4, h5, h6⟩ := k6 hr h1 h2 h3 h4 h5 h6 rfl
  have h7 := (hr 7 rfl).trans h7
  have Hb_b1_n := Hb_b1_.exn hN
  have Hb_b2_n := Hb_b2_.exn hN
  have Hb_b3_n := Hb_b3_.exn hN
  have hW := hW.trans hN
  have Hb_b1_ := Hb_b1_n
  have Hb_b2_ := Hb_b2_n
  have Hb_b3_ := Hb_b3_n
  refine WP.cond rfl h77 (fun hb => ?_) (fun hb => ?_)
  · have hF := (if_pos hb).symm.trans hF
    refine WP.skip (WP.seqJ (fun ρ w => ∃ v2 : api_Fact, ρ 1 = .pointer (some ⟨b1_, 0, none⟩) ∧ ρ 2 = .pointer (some ⟨b2_, 0, none⟩) ∧ ρ 3 = .pointer (some ⟨b3_, 0, none⟩) ∧ ρ 4 = .int .i64 x ∧ ρ 5 = .int .i64 x2 ∧ ρ 6 = .string z8 ∧ ρ 7 = .int .i64 x3 ∧ Mb w b1_ 52 (pensionhand_Fact.cells d_) ∧ Mb w b2_ 49 (api_Fact.cells (⟨0, 0, 0, false, 0, 0, 0, (⟨0, 0⟩ : Span), 0, 0, 0, 0, 0⟩ : api_Fact)) ∧ Mb w b3_ 49 (api_Fact.cells v2) ∧ b1_ ≠ b2_ ∧ b1_ ≠ b3_ ∧ b2_ ≠ b3_ ∧ Ext noG w0 w ∧ pensionhand_Make_j2 x3 rec_ v2 = some r) ?_ ?_)
    · refine WP.block (WP.seq ?_)
      obtain ⟨y, hy, hF⟩ := obind hF
      refine WP.rb mixed [[], [], [0, 1]] [[6], [7], []] [(80, .string z8), (81, .int .i64 x3), (82, .int .u8 y)] (by kernel_rfl) ⟨mE rfl rfl h6,
 mE rfl rfl h7,
 fun ρz wz hE hA _ ⟨u0, u1, _⟩ => core_val rfl rfl (o_index u0 u1 (by kernel_rfl) hy), trivial⟩ ?_
      intro ρ13 w13 hN hf hr
      have h82 := hv hf 2 rfl rfl
      obtain ⟨h1, h2, h3, h4, h5, h6⟩ := k6 hr h1 h2 h3 h4 h5 h6 rfl
      have h7 := (hr 7 rfl).trans h7
      have Hb_b1_n := Hb_b1_.exn hN
      have Hb_b2_n := Hb_b2_.exn hN
      have Hb_b3_n := Hb_b3_.exn hN
      have hW := hW.trans hN
      have Hb_b1_ := Hb_b1_n
      have Hb_b2_ := Hb_b2_n
      have Hb_b3_ := Hb_b3_n
      refine WP.block (WP.seq (WP.rb mixed [[], [0]] [[82], []] [(99, .bool (y == 83)), (98, .bool (y == 83))] (by kernel_rfl) ⟨fun ρz wz hE hA ⟨e82, _⟩ _ => core_val rfl rfl (o_eql (e82.trans h82) rfl rfl),
 aU rfl rfl rfl, trivial⟩ ?_))
      intro ρ14 w14 hN hf hr
      have h98 := hv hf 1 rfl rfl
      obtain ⟨h1, h2, h3, h4, h5, h6⟩ := k6 hr h1 h2 h3 h4 h5 h6 rfl
      obtain ⟨h7, h82⟩ := k2 hr h7 h82 rfl
      have Hb_b1_n := Hb_b1_.exn hN
      have Hb_b2_n := Hb_b2_.exn hN
      have Hb_b3_n := Hb_b3_.exn hN
      have hW := hW.trans hN
      have Hb_b1_ := Hb_b1_n
      have Hb_b2_ := Hb_b2_n
      have Hb_b3_ := Hb_b3_n
      refine WP.cond rfl h98 (fun hb => ?_) (fun hb => ?_)
      · have hF := (if_pos hb).symm.trans hF
        obtain ⟨z9, hz9, hF⟩ := obind hF
        refine WP.region mixed [[], [0], [1], [], [1, 2, 3]] [[], [0], [1], [], [2, 3]] [[1], [], [], [3], []] [4] [] [val 100 (.pointer (some ((⟨b1_, 0, none⟩ : Addr).add 6))), val 101 (.int .i64 d_.State), val 102 (.int .i64 z9), val 103 (.pointer (some ((⟨b3_, 0, none⟩ : Addr).add 6))), (103, fun _ wz => Mb wz b3_ 49 (api_Fact.cells ({ v with State := z9 } : api_Fact)))] (fun x => x = b3_) (by kernel_rfl) ⟨sV, sV, sV, sV, fun _ _ _ hE hM => hM.exn hE, trivial⟩ ⟨fun ρz wz hE hA ⟨e1, _⟩ _ => core_val rfl rfl (o_fieldAddr (e1.trans h1) (fa_52_6 _ _)),
 fun ρz wz hE hA _ ⟨u0, _⟩ => core_val rfl rfl (o_load u0 (run_load1 (lr_3 _ _) (CA.sub ((Hb_b1_.exn (hA rfl)).ca) 6 1))),
 fun ρz wz hE hA _ ⟨u1, _⟩ => core_call rfl (call_args2 u1 rfl) cf_26 (pensionplain_Mod_ok  _ _  hz9),
 fun ρz wz hE hA ⟨e3, _⟩ _ => core_val rfl rfl (o_fieldAddr (e3.trans h3) (fa_49_6 _ _)),
 fun ρz wz hE hA _ ⟨u2, u3, _⟩ => core_storePart (k := 6) (vs := [Value.int .i64 z9]) (cs0 := (api_Fact.cells v)) rfl rfl (fun _ h => h) u3 rfl u2 (Hb_b3_.exn (hA rfl)) (fun a w => st_3 _ a w) (Nat.le_of_ble_eq_true rfl) rfl (one_3 _), trivial⟩ ?_
        intro ρ15 w15 hE hN hf hr
        obtain ⟨h1, h2, h3, h4, h5, h6⟩ := k6 hr h1 h2 h3 h4 h5 h6 rfl
        have h7 := (hr 7 rfl).trans h7
        have Hb_b1_n := Hb_b1_.ext hE (fun h => hne_b1__b3_ h)
        have Hb_b2_n := Hb_b2_.ext hE (fun h => hne_b2__b3_ h)
        have Hb_b3_n := hf 4 rfl
        have hW := Ext.own hW hE (fun x h => h.symm ▸ hB_b3_)
        have Hb_b1_ := Hb_b1_n
        have Hb_b2_ := Hb_b2_n
        have Hb_b3_ := Hb_b3_n
        exact ⟨({ v with State := z9 } : api_Fact), h1, h2, h3, h4, h5, h6, h7, Hb_b1_, Hb_b2_, Hb_b3_, hne_b1__b2_, hne_b1__b3_, hne_b2__b3_, hW, hF⟩
      have hF := (if_neg (Bool.eq_false_iff.1 hb)).symm.trans hF
      refine WP.seq (WP.rb mixed [[], [0]] [[82], []] [(105, .bool (y == 80)), (104, .bool (y == 80))] (by kernel_rfl) ⟨fun ρz wz hE hA ⟨e82, _⟩ _ => core_val rfl rfl (o_eql (e82.trans h82) rfl rfl),
 aU rfl rfl rfl, trivial⟩ ?_)
      intro ρ16 w16 hN hf hr
      have h104 := hv hf 1 rfl rfl
      obtain ⟨h1, h2, h3, h4, h5, h6⟩ := k6 hr h1 h2 h3 h4 h5 h6 rfl
      obtain ⟨h7, h82⟩ := k2 hr h7 h82 rfl
      have Hb_b1_n := Hb_b1_.exn hN
      have Hb_b2_n := Hb_b2_.exn hN
      have Hb_b3_n := Hb_b3_.exn hN
      have hW := hW.trans hN
      have Hb_b1_ := Hb_b1_n
      have Hb_b2_ := Hb_b2_n
      have Hb_b3_ := Hb_b3_n
      refine WP.cond rfl h104 (fun hb => ?_) (fun hb => ?_)
      · have hF := (if_pos hb).symm.trans hF
        refine WP.region mixed [[], [], [0, 1], [], [2, 3]] [[], [], [0, 1], [], [2, 3]] [[4], [5], [], [3], []] [4] [] [val 106 (.int .i64 x), val 107 (.int .i64 x2), val 108 (Span.val (⟨x, x2⟩ : Span)), val 109 (.pointer (some ((⟨b3_, 0, none⟩ : Addr).add 7))), (109, fun _ wz => Mb wz b3_ 49 (api_Fact.cells ({ v with Span := (⟨x, x2⟩ : Span) } : api_Fact)))] (fun x => x = b3_) (by kernel_rfl) ⟨sV, sV, sV, sV, fun _ _ _ hE hM => hM.exn hE, trivial⟩ ⟨mE rfl rfl h4,
 mE rfl rfl h5,
 fun ρz wz hE hA _ ⟨u0, u1, _⟩ => core_val rfl rfl (o_build (build_parts2 u0 u1) (bd_31_0_1 _ _ _)),
 fun ρz wz hE hA ⟨e3, _⟩ _ => core_val rfl rfl (o_fieldAddr (e3.trans h3) (fa_49_7 _ _)),
 fun ρz wz hE hA _ ⟨u2, u3, _⟩ => core_storePart (k := 7) (vs := (Span.cells (⟨x, x2⟩ : Span))) (cs0 := (api_Fact.cells v)) rfl rfl (fun _ h => h) u3 rfl u2 (Hb_b3_.exn (hA rfl)) (fun a w => st_31 _ a w) (Nat.le_of_ble_eq_true rfl) rfl (one_31 _), trivial⟩ ?_
        intro ρ17 w17 hE hN hf hr
        obtain ⟨h1, h2, h3, h4, h5, h6⟩ := k6 hr h1 h2 h3 h4 h5 h6 rfl
        have h7 := (hr 7 rfl).trans h7
        have Hb_b1_n := Hb_b1_.ext hE (fun h => hne_b1__b3_ h)
        have Hb_b2_n := Hb_b2_.ext hE (fun h => hne_b2__b3_ h)
        have Hb_b3_n := hf 4 rfl
        have hW := Ext.own hW hE (fun x h => h.symm ▸ hB_b3_)
        have Hb_b1_ := Hb_b1_n
        have Hb_b2_ := Hb_b2_n
        have Hb_b3_ := Hb_b3_n
        exact ⟨({ v with Span := (⟨x, x2⟩ : Span) } : api_Fact), h1, h2, h3, h4, h5, h6, h7, Hb_b1_, Hb_b2_, Hb_b3_, hne_b1__b2_, hne_b1__b3_, hne_b2__b3_, hW, hF⟩
      have hF := (if_neg (Bool.eq_false_iff.1 hb)).symm.trans hF
      refine WP.seq (WP.rb mixed [[], [0]] [[82], []] [(111, .bool (y == 84)), (110, .bool (y == 84))] (by kernel_rfl) ⟨fun ρz wz hE hA ⟨e82, _⟩ _ => core_val rfl rfl (o_eql (e82.trans h82) rfl rfl),
 aU rfl rfl rfl, trivial⟩ ?_)
      intro ρ18 w18 hN hf hr
      have h110 := hv hf 1 rfl rfl
      obtain ⟨h1, h2, h3, h4, h5, h6⟩ := k6 hr h1 h2 h3 h4 h5 h6 rfl
      obtain ⟨h7, h82⟩ := k2 hr h7 h82 rfl
      have Hb_b1_n := Hb_b1_.exn hN
      have Hb_b2_n := Hb_b2_.exn hN
      have Hb_b3_n := Hb_b3_.exn hN
      have hW := hW.trans hN
      have Hb_b1_ := Hb_b1_n
      have Hb_b2_ := Hb_b2_n
      have Hb_b3_ := Hb_b3_n
      refine WP.cond rfl h110 (fun hb => ?_) (fun hb => ?_)
      · have hF := (if_pos hb).symm.trans hF
        refine WP.seq ?_
        obtain ⟨z10, hz10, hF⟩ := obind hF
        refine WP.region mixed [[], [0], [1], [], [1, 2, 3]] [[], [0], [1], [], [2, 3]] [[1], [], [], [3], []] [4] [] [val 112 (.pointer (some ((⟨b1_, 0, none⟩ : Addr).add 7))), val 113 (.int .i64 d_.Seat), val 114 (.int .i64 z10), val 115 (.pointer (some ((⟨b3_, 0, none⟩ : Addr).add 9))), (115, fun _ wz => Mb wz b3_ 49 (api_Fact.cells ({ v with Seat := z10 } : api_Fact)))] (fun x => x = b3_) (by kernel_rfl) ⟨sV, sV, sV, sV, fun _ _ _ hE hM => hM.exn hE, trivial⟩ ⟨fun ρz wz hE hA ⟨e1, _⟩ _ => core_val rfl rfl (o_fieldAddr (e1.trans h1) (fa_52_7 _ _)),
 fun ρz wz hE hA _ ⟨u0, _⟩ => core_val rfl rfl (o_load u0 (run_load1 (lr_3 _ _) (CA.sub ((Hb_b1_.exn (hA rfl)).ca) 7 1))),
 fun ρz wz hE hA _ ⟨u1, _⟩ => core_call rfl (call_args2 u1 rfl) cf_26 (pensionplain_Mod_ok  _ _  hz10),
 fun ρz wz hE hA ⟨e3, _⟩ _ => core_val rfl rfl (o_fieldAddr (e3.trans h3) (fa_49_8 _ _)),
 fun ρz wz hE hA _ ⟨u2, u3, _⟩ => core_storePart (k := 9) (vs := [Value.int .i64 z10]) (cs0 := (api_Fact.cells v)) rfl rfl (fun _ h => h) u3 rfl u2 (Hb_b3_.exn (hA rfl)) (fun a w => st_3 _ a w) (Nat.le_of_ble_eq_true rfl) rfl (one_3 _), trivial⟩ ?_
        intro ρ19 w19 hE hN hf hr
        obtain ⟨h1, h2, h3, h4, h5, h6⟩ := k6 hr h1 h2 h3 h4 h5 h6 rfl
        have h7 := (hr 7 rfl).trans h7
        have Hb_b1_n := Hb_b1_.ext hE (fun h => hne_b1__b3_ h)
        have Hb_b2_n := Hb_b2_.ext hE (fun h => hne_b2__b3_ h)
        have Hb_b3_n := hf 4 rfl
        have hW := Ext.own hW hE (fun x h => h.symm ▸ hB_b3_)
        have Hb_b1_ := Hb_b1_n
        have Hb_b2_ := Hb_b2_n
        have Hb_b3_ := Hb_b3_n
        refine WP.seq (WP.rb mixed [[], [0], [1], [2], [3], [3, 4], [3], [3, 6], [3, 5, 7], [3, 8]] [[3], [], [], [], [3], [], [3], [], [], []] [(116, .pointer (some ((⟨b3_, 0, none⟩ : Addr).add 5))), (117, .int .i64 (({ v with Seat := z10 } : api_Fact).Kind)), (118, .bool (({ v with Seat := z10 } : api_Fact).Kind == 4)), (119, .bool (({ v with Seat := z10 } : api_Fact).Kind == 4)), (120, gv ((({ v with Seat := z10 } : api_Fact).Kind == 4)) (.pointer (some ((⟨b3_, 0, none⟩ : Addr).add 9)))), (121, gv ((({ v with Seat := z10 } : api_Fact).Kind == 4)) (.int .i64 (({ v with Seat := z10 } : api_Fact).Seat))), (122, gv ((({ v with Seat := z10 } : api_Fact).Kind == 4)) (.pointer (some ((⟨b3_, 0, none⟩ : Addr).add 6)))), (123, gv ((({ v with Seat := z10 } : api_Fact).Kind == 4)) (.int .i64 (({ v with Seat := z10 } : api_Fact).State))), (124, gv ((({ v with Seat := z10 } : api_Fact).Kind == 4)) (.bool (({ v with Seat := z10 } : api_Fact).Seat == ({ v with Seat := z10 } : api_Fact).State))), (125, .bool ((({ v with Seat := z10 } : api_Fact).Kind == 4) && (({ v with Seat := z10 } : api_Fact).Seat == ({ v with Seat := z10 } : api_Fact).State)))] (by kernel_rfl) ⟨fun ρz wz hE hA ⟨e3, _⟩ _ => core_val rfl rfl (o_fieldAddr (e3.trans h3) (fa_49_5 _ _)),
 fun ρz wz hE hA _ ⟨u0, _⟩ => core_val rfl rfl (o_load u0 (run_load1 (lr_3 _ _) (CA.sub ((Hb_b3_.exn (hA rfl)).ca) 5 1))),
 fun ρz wz hE hA _ ⟨u1, _⟩ => core_val rfl rfl (o_eql u1 rfl rfl),
 mU rfl rfl rfl,
 fun ρz wz hE hA ⟨e3, _⟩ ⟨u3, _⟩ => gIf rfl rfl (yT rfl u3) fun gc F hF => core_val rfl hF (o_fieldAddr (e3.trans h3) (fa_49_8 _ _)),
 fun ρz wz hE hA _ ⟨u3, u4, _⟩ => gIf rfl rfl (yT rfl u3) fun gc F hF => core_val rfl hF (o_load (gt gc u4) (run_load1 (lr_3 _ _) (CA.sub ((Hb_b3_.exn (hA rfl)).ca) 9 1))),
 fun ρz wz hE hA ⟨e3, _⟩ ⟨u3, _⟩ => gIf rfl rfl (yT rfl u3) fun gc F hF => core_val rfl hF (o_fieldAddr (e3.trans h3) (fa_49_6 _ _)),
 fun ρz wz hE hA _ ⟨u3, u6, _⟩ => gIf rfl rfl (yT rfl u3) fun gc F hF => core_val rfl hF (o_load (gt gc u6) (run_load1 (lr_3 _ _) (CA.sub ((Hb_b3_.exn (hA rfl)).ca) 6 1))),
 fun ρz wz hE hA _ ⟨u3, u5, u7, _⟩ => gIf rfl rfl (yT rfl u3) fun gc F hF => core_val rfl hF (o_eql (gt gc u5) (gt gc u7) rfl),
 fun ρz wz hE hA _ ⟨u3, u8, _⟩ => core_val rfl rfl (o_pick_and u3 u8 rfl), trivial⟩ ?_)
        intro ρ20 w20 hN hf hr
        have h125 := hv hf 9 rfl rfl
        obtain ⟨h1, h2, h3, h4, h5, h6⟩ := k6 hr h1 h2 h3 h4 h5 h6 rfl
        have h7 := (hr 7 rfl).trans h7
        have Hb_b1_n := Hb_b1_.exn hN
        have Hb_b2_n := Hb_b2_.exn hN
        have Hb_b3_n := Hb_b3_.exn hN
        have hW := hW.trans hN
        have Hb_b1_ := Hb_b1_n
        have Hb_b2_ := Hb_b2_n
        have Hb_b3_ := Hb_b3_n
        refine WP.cond rfl h125 (fun hb => ?_) (fun hb => ?_)
        · have hF := (if_pos hb).symm.trans hF
          obtain ⟨z11, hz11, hF⟩ := obind hF
          refine WP.region mixed [[], [0], [1], [2], [], [1, 3, 4]] [[], [0], [1], [2], [], [3, 4]] [[3], [], [], [], [3], []] [5] [] [val 126 (.pointer (some ((⟨b3_, 0, none⟩ : Addr).add 6))), val 127 (.int .i64 (({ v with Seat := z10 } : api_Fact).State)), val 128 (.int .i64 (i64 (({ v with Seat := z10 } : api_Fact).State + 1))), val 129 (.int .i64 z11), val 130 (.pointer (some ((⟨b3_, 0, none⟩ : Addr).add 9))), (130, fun _ wz => Mb wz b3_ 49 (api_Fact.cells ({ ({ v with Seat := z10 } : api_Fact) with Seat := z11 } : api_Fact)))] (fun x => x = b3_) (by kernel_rfl) ⟨sV, sV, sV, sV, sV, fun _ _ _ hE hM => hM.exn hE, trivial⟩ ⟨fun ρz wz hE hA ⟨e3, _⟩ _ => core_val rfl rfl (o_fieldAddr (e3.trans h3) (fa_49_6 _ _)),
 fun ρz wz hE hA _ ⟨u0, _⟩ => core_val rfl rfl (o_load u0 (run_load1 (lr_3 _ _) (CA.sub ((Hb_b3_.exn (hA rfl)).ca) 6 1))),
 fun ρz wz hE hA _ ⟨u1, _⟩ => core_val rfl rfl (o_add u1 rfl rfl),
 fun ρz wz hE hA _ ⟨u2, _⟩ => core_call rfl (call_args2 u2 rfl) cf_26 (pensionplain_Mod_ok  _ _  hz11),
 fun ρz wz hE hA ⟨e3, _⟩ _ => core_val rfl rfl (o_fieldAddr (e3.trans h3) (fa_49_8 _ _)),
 fun ρz wz hE hA _ ⟨u3, u4, _⟩ => core_storePart (k := 9) (vs := [Value.int .i64 z11]) (cs0 := (api_Fact.cells ({ v with Seat := z10 } : api_Fact))) rfl rfl (fun _ h => h) u4 rfl u3 (Hb_b3_.exn (hA rfl)) (fun a w => st_3 _ a w) (Nat.le_of_ble_eq_true rfl) rfl (one_3 _), trivial⟩ ?_
          intro ρ21 w21 hE hN hf hr
          obtain ⟨h1, h2, h3, h4, h5, h6⟩ := k6 hr h1 h2 h3 h4 h5 h6 rfl
          have h7 := (hr 7 rfl).trans h7
          have Hb_b1_n := Hb_b1_.ext hE (fun h => hne_b1__b3_ h)
          have Hb_b2_n := Hb_b2_.ext hE (fun h => hne_b2__b3_ h)
          have Hb_b3_n := hf 5 rfl
          have hW := Ext.own hW hE (fun x h => h.symm ▸ hB_b3_)
          have Hb_b1_ := Hb_b1_n
          have Hb_b2_ := Hb_b2_n
          have Hb_b3_ := Hb_b3_n
          exact ⟨({ ({ v with Seat := z10 } : api_Fact) with Seat := z11 } : api_Fact), h1, h2, h3, h4, h5, h6, h7, Hb_b1_, Hb_b2_, Hb_b3_, hne_b1__b2_, hne_b1__b3_, hne_b2__b3_, hW, hF⟩
        have hF := (if_neg (Bool.eq_false_iff.1 hb)).symm.trans hF
        refine WP.skip ?_
        exact ⟨({ v with Seat := z10 } : api_Fact), h1, h2, h3, h4, h5, h6, h7, Hb_b1_, Hb_b2_, Hb_b3_, hne_b1__b2_, hne_b1__b3_, hne_b2__b3_, hW, hF⟩
      have hF := (if_neg (Bool.eq_false_iff.1 hb)).symm.trans hF
      refine WP.seq (WP.rb mixed [[], [0]] [[82], []] [(132, .bool (y == 72)), (131, .bool (y == 72))] (by kernel_rfl) ⟨fun ρz wz hE hA ⟨e82, _⟩ _ => core_val rfl rfl (o_eql (e82.trans h82) rfl rfl),
 aU rfl rfl rfl, trivial⟩ ?_)
      intro ρ22 w22 hN hf hr
      have h131 := hv hf 1 rfl rfl
      obtain ⟨h1, h2, h3, h4, h5, h6⟩ := k6 hr h1 h2 h3 h4 h5 h6 rfl
      obtain ⟨h7, h82⟩ := k2 hr h7 h82 rfl
      have Hb_b1_n := Hb_b1_.exn hN
      have Hb_b2_n := Hb_b2_.exn hN
      have Hb_b3_n := Hb_b3_.exn hN
      have hW := hW.trans hN
      have Hb_b1_ := Hb_b1_n
      have Hb_b2_ := Hb_b2_n
      have Hb_b3_ := Hb_b3_n
      refine WP.cond rfl h131 (fun hb => ?_) (fun hb => ?_)
      · have hF := (if_pos hb).symm.trans hF
        obtain ⟨z12, hz12, hF⟩ := obind hF
        refine WP.region mixed [[], [0], [1], [2], [], [1, 2, 3, 4]] [[], [0], [1], [2], [], [3, 4]] [[1], [], [], [], [3], []] [5] [] [val 133 (.pointer (some ((⟨b1_, 0, none⟩ : Addr).add 10))), val 134 (.int .i64 d_.Share), val 135 (.int .i64 z12), val 136 (.int .i64 (i64 (1 + z12))), val 137 (.pointer (some ((⟨b3_, 0, none⟩ : Addr).add 10))), (137, fun _ wz => Mb wz b3_ 49 (api_Fact.cells ({ v with Share := i64 (1 + z12) } : api_Fact)))] (fun x => x = b3_) (by kernel_rfl) ⟨sV, sV, sV, sV, sV, fun _ _ _ hE hM => hM.exn hE, trivial⟩ ⟨fun ρz wz hE hA ⟨e1, _⟩ _ => core_val rfl rfl (o_fieldAddr (e1.trans h1) (fa_52_10 _ _)),
 fun ρz wz hE hA _ ⟨u0, _⟩ => core_val rfl rfl (o_load u0 (run_load1 (lr_3 _ _) (CA.sub ((Hb_b1_.exn (hA rfl)).ca) 10 1))),
 fun ρz wz hE hA _ ⟨u1, _⟩ => core_call rfl (call_args2 u1 rfl) cf_26 (pensionplain_Mod_ok  _ _  hz12),
 fun ρz wz hE hA _ ⟨u2, _⟩ => core_val rfl rfl (o_add rfl u2 rfl),
 fun ρz wz hE hA ⟨e3, _⟩ _ => core_val rfl rfl (o_fieldAddr (e3.trans h3) (fa_49_9 _ _)),
 fun ρz wz hE hA _ ⟨u3, u4, _⟩ => core_storePart (k := 10) (vs := [Value.int .i64 (i64 (1 + z12))]) (cs0 := (api_Fact.cells v)) rfl rfl (fun _ h => h) u4 rfl u3 (Hb_b3_.exn (hA rfl)) (fun a w => st_3 _ a w) (Nat.le_of_ble_eq_true rfl) rfl (one_3 _), trivial⟩ ?_
        intro ρ23 w23 hE hN hf hr
        obtain ⟨h1, h2, h3, h4, h5, h6⟩ := k6 hr h1 h2 h3 h4 h5 h6 rfl
        have h7 := (hr 7 rfl).trans h7
        have Hb_b1_n := Hb_b1_.ext hE (fun h => hne_b1__b3_ h)
        have Hb_b2_n := Hb_b2_.ext hE (fun h => hne_b2__b3_ h)
        have Hb_b3_n := hf 5 rfl
        have hW := Ext.own hW hE (fun x h => h.symm ▸ hB_b3_)
        have Hb_b1_ := Hb_b1_n
        have Hb_b2_ := Hb_b2_n
        have Hb_b3_ := Hb_b3_n
        exact ⟨({ v with Share := i64 (1 + z12) } : api_Fact), h1, h2, h3, h4, h5, h6, h7, Hb_b1_, Hb_b2_, Hb_b3_, hne_b1__b2_, hne_b1__b3_, hne_b2__b3_, hW, hF⟩
      have hF := (if_neg (Bool.eq_false_iff.1 hb)).symm.trans hF
      refine WP.seq (WP.rb mixed [[], [0]] [[82], []] [(139, .bool (y == 67)), (138, .bool (y == 67))] (by kernel_rfl) ⟨fun ρz wz hE hA ⟨e82, _⟩ _ => core_val rfl rfl (o_eql (e82.trans h82) rfl rfl),
 aU rfl rfl rfl, trivial⟩ ?_)
      intro ρ24 w24 hN hf hr
      have h138 := hv hf 1 rfl rfl
      obtain ⟨h1, h2, h3, h4, h5, h6⟩ := k6 hr h1 h2 h3 h4 h5 h6 rfl
      obtain ⟨h7, h82⟩ := k2 hr h7 h82 rfl
      have Hb_b1_n := Hb_b1_.exn hN
      have Hb_b2_n := Hb_b2_.exn hN
      have Hb_b3_n := Hb_b3_.exn hN
      have hW := hW.trans hN
      have Hb_b1_ := Hb_b1_n
      have Hb_b2_ := Hb_b2_n
      have Hb_b3_ := Hb_b3_n
      refine WP.cond rfl h138 (fun hb => ?_) (fun hb => ?_)
      · have hF := (if_pos hb).symm.trans hF
        obtain ⟨z13, hz13, hF⟩ := obind hF
        refine WP.region mixed [[], [0], [], [2], [3], [1, 4], [5], [6], [], [1, 3, 6, 7, 8]] [[], [0], [], [2], [3], [1, 4], [5], [6], [], [7, 8]] [[1], [], [1], [], [], [], [], [], [3], []] [9] [] [val 140 (.pointer (some ((⟨b1_, 0, none⟩ : Addr).add 7))), val 141 (.int .i64 d_.Seat), val 142 (.pointer (some ((⟨b1_, 0, none⟩ : Addr).add 6))), val 143 (.int .i64 d_.State), val 144 (.int .i64 (Int.tmod d_.State 3)), val 145 (.int .i64 (i64 (d_.Seat + Int.tmod d_.State 3))), val 146 (.int .i64 z13), val 147 (.int .i64 (i64 (1 + z13))), val 148 (.pointer (some ((⟨b3_, 0, none⟩ : Addr).add 11))), (148, fun _ wz => Mb wz b3_ 49 (api_Fact.cells ({ v with Currency := i64 (1 + z13) } : api_Fact)))] (fun x => x = b3_) (by kernel_rfl) ⟨sV, sV, sV, sV, sV, sV, sV, sV, sV, fun _ _ _ hE hM => hM.exn hE, trivial⟩ ⟨fun ρz wz hE hA ⟨e1, _⟩ _ => core_val rfl rfl (o_fieldAddr (e1.trans h1) (fa_52_7 _ _)),
 fun ρz wz hE hA _ ⟨u0, _⟩ => core_val rfl rfl (o_load u0 (run_load1 (lr_3 _ _) (CA.sub ((Hb_b1_.exn (hA rfl)).ca) 7 1))),
 fun ρz wz hE hA ⟨e1, _⟩ _ => core_val rfl rfl (o_fieldAddr (e1.trans h1) (fa_52_6 _ _)),
 fun ρz wz hE hA _ ⟨u2, _⟩ => core_val rfl rfl (o_load u2 (run_load1 (lr_3 _ _) (CA.sub ((Hb_b1_.exn (hA rfl)).ca) 6 1))),
 fun ρz wz hE hA _ ⟨u3, _⟩ => core_val rfl rfl (o_rem u3 rfl (by decide) rfl),
 fun ρz wz hE hA _ ⟨u1, u4, _⟩ => core_val rfl rfl (o_add u1 u4 rfl),
 fun ρz wz hE hA _ ⟨u5, _⟩ => core_call rfl (call_args2 u5 rfl) cf_26 (pensionplain_Mod_ok  _ _  hz13),
 fun ρz wz hE hA _ ⟨u6, _⟩ => core_val rfl rfl (o_add rfl u6 rfl),
 fun ρz wz hE hA ⟨e3, _⟩ _ => core_val rfl rfl (o_fieldAddr (e3.trans h3) (fa_49_10 _ _)),
 fun ρz wz hE hA _ ⟨u7, u8, _⟩ => core_storePart (k := 11) (vs := [Value.int .i64 (i64 (1 + z13))]) (cs0 := (api_Fact.cells v)) rfl rfl (fun _ h => h) u8 rfl u7 (Hb_b3_.exn (hA rfl)) (fun a w => st_3 _ a w) (Nat.le_of_ble_eq_true rfl) rfl (one_3 _), trivial⟩ ?_
        intro ρ25 w25 hE hN hf hr
        obtain ⟨h1, h2, h3, h4, h5, h6⟩ := k6 hr h1 h2 h3 h4 h5 h6 rfl
        have h7 := (hr 7 rfl).trans h7
        have Hb_b1_n := Hb_b1_.ext hE (fun h => hne_b1__b3_ h)
        have Hb_b2_n := Hb_b2_.ext hE (fun h => hne_b2__b3_ h)
        have Hb_b3_n := hf 9 rfl
        have hW := Ext.own hW hE (fun x h => h.symm ▸ hB_b3_)
        have Hb_b1_ := Hb_b1_n
        have Hb_b2_ := Hb_b2_n
        have Hb_b3_ := Hb_b3_n
        exact ⟨({ v with Currency := i64 (1 + z13) } : api_Fact), h1, h2, h3, h4, h5, h6, h7, Hb_b1_, Hb_b2_, Hb_b3_, hne_b1__b2_, hne_b1__b3_, hne_b2__b3_, hW, hF⟩
      have hF := (if_neg (Bool.eq_false_iff.1 hb)).symm.trans hF
      refine WP.seq (WP.rb mixed [[], [0]] [[82], []] [(150, .bool (y == 65)), (149, .bool (y == 65))] (by kernel_rfl) ⟨fun ρz wz hE hA ⟨e82, _⟩ _ => core_val rfl rfl (o_eql (e82.trans h82) rfl rfl),
 aU rfl rfl rfl, trivial⟩ ?_)
      intro ρ26 w26 hN hf hr
      have h149 := hv hf 1 rfl rfl
      obtain ⟨h1, h2, h3, h4, h5, h6⟩ := k6 hr h1 h2 h3 h4 h5 h6 rfl
      have h7 := (hr 7 rfl).trans h7
      have Hb_b1_n := Hb_b1_.exn hN
      have Hb_b2_n := Hb_b2_.exn hN
      have Hb_b3_n := Hb_b3_.exn hN
      have hW := hW.trans hN
      have Hb_b1_ := Hb_b1_n
      have Hb_b2_ := Hb_b2_n
      have Hb_b3_ := Hb_b3_n
      refine WP.cond rfl h149 (fun hb => ?_) (fun hb => ?_)
      · have hF := (if_pos hb).symm.trans hF
        obtain ⟨z14, hz14, hF⟩ := obind hF
        refine WP.region mixed [[], [0], [1], [], [1, 2, 3]] [[], [0], [1], [], [2, 3]] [[1], [], [], [3], []] [4] [] [val 151 (.pointer (some ((⟨b1_, 0, none⟩ : Addr).add 11))), val 152 (.int .i64 d_.Amount), val 153 (.int .i64 z14), val 154 (.pointer (some ((⟨b3_, 0, none⟩ : Addr).add 12))), (154, fun _ wz => Mb wz b3_ 49 (api_Fact.cells ({ v with Amount := z14 } : api_Fact)))] (fun x => x = b3_) (by kernel_rfl) ⟨sV, sV, sV, sV, fun _ _ _ hE hM => hM.exn hE, trivial⟩ ⟨fun ρz wz hE hA ⟨e1, _⟩ _ => core_val rfl rfl (o_fieldAddr (e1.trans h1) (fa_52_11 _ _)),
 fun ρz wz hE hA _ ⟨u0, _⟩ => core_val rfl rfl (o_load u0 (run_load1 (lr_3 _ _) (CA.sub ((Hb_b1_.exn (hA rfl)).ca) 11 1))),
 fun ρz wz hE hA _ ⟨u1, _⟩ => core_call rfl (call_args2 u1 rfl) cf_26 (pensionplain_Mod_ok  _ _  hz14),
 fun ρz wz hE hA ⟨e3, _⟩ _ => core_val rfl rfl (o_fieldAddr (e3.trans h3) (fa_49_11 _ _)),
 fun ρz wz hE hA _ ⟨u2, u3, _⟩ => core_storePart (k := 12) (vs := [Value.int .i64 z14]) (cs0 := (api_Fact.cells v)) rfl rfl (fun _ h => h) u3 rfl u2 (Hb_b3_.exn (hA rfl)) (fun a w => st_3 _ a w) (Nat.le_of_ble_eq_true rfl) rfl (one_3 _), trivial⟩ ?_
        intro ρ27 w27 hE hN hf hr
        obtain ⟨h1, h2, h3, h4, h5, h6⟩ := k6 hr h1 h2 h3 h4 h5 h6 rfl
        have h7 := (hr 7 rfl).trans h7
        have Hb_b1_n := Hb_b1_.ext hE (fun h => hne_b1__b3_ h)
        have Hb_b2_n := Hb_b2_.ext hE (fun h => hne_b2__b3_ h)
        have Hb_b3_n := hf 4 rfl
        have hW := Ext.own hW hE (fun x h => h.symm ▸ hB_b3_)
        have Hb_b1_ := Hb_b1_n
        have Hb_b2_ := Hb_b2_n
        have Hb_b3_ := Hb_b3_n
        exact ⟨({ v with Amount := z14 } : api_Fact), h1, h2, h3, h4, h5, h6, h7, Hb_b1_, Hb_b2_, Hb_b3_, hne_b1__b2_, hne_b1__b3_, hne_b2__b3_, hW, hF⟩
      have hF := (if_neg (Bool.eq_false_iff.1 hb)).symm.trans hF
      refine WP.seq ?_
      obtain ⟨z15, hz15, hF⟩ := obind hF
      refine WP.region mixed [[], [0], [1], [2], [], [1, 2, 3, 4]] [[], [0], [1], [2], [], [3, 4]] [[1], [], [], [], [3], []] [5] [] [val 83 (.pointer (some ((⟨b1_, 0, none⟩ : Addr).add 12))), val 84 (.int .i64 d_.Ref), val 85 (.int .i64 z15), val 86 (.int .i64 (i64 (1 + z15))), val 87 (.pointer (some ((⟨b3_, 0, none⟩ : Addr).add 13))), (87, fun _ wz => Mb wz b3_ 49 (api_Fact.cells ({ v with Ref := i64 (1 + z15) } : api_Fact)))] (fun x => x = b3_) (by kernel_rfl) ⟨sV, sV, sV, sV, sV, fun _ _ _ hE hM => hM.exn hE, trivial⟩ ⟨fun ρz wz hE hA ⟨e1, _⟩ _ => core_val rfl rfl (o_fieldAddr (e1.trans h1) (fa_52_12 _ _)),
 fun ρz wz hE hA _ ⟨u0, _⟩ => core_val rfl rfl (o_load u0 (run_load1 (lr_3 _ _) (CA.sub ((Hb_b1_.exn (hA rfl)).ca) 12 1))),
 fun ρz wz hE hA _ ⟨u1, _⟩ => core_call rfl (call_args2 u1 rfl) cf_26 (pensionplain_Mod_ok  _ _  hz15),
 fun ρz wz hE hA _ ⟨u2, _⟩ => core_val rfl rfl (o_add rfl u2 rfl),
 fun ρz wz hE hA ⟨e3, _⟩ _ => core_val rfl rfl (o_fieldAddr (e3.trans h3) (fa_49_12 _ _)),
 fun ρz wz hE hA _ ⟨u3, u4, _⟩ => core_storePart (k := 13) (vs := [Value.int .i64 (i64 (1 + z15))]) (cs0 := (api_Fact.cells v)) rfl rfl (fun _ h => h) u4 rfl u3 (Hb_b3_.exn (hA rfl)) (fun a w => st_3 _ a w) (Nat.le_of_ble_eq_true rfl) rfl (one_3 _), trivial⟩ ?_
      intro ρ28 w28 hE hN hf hr
      obtain ⟨h1, h2, h3, h4, h5, h6⟩ := k6 hr h1 h2 h3 h4 h5 h6 rfl
      have h7 := (hr 7 rfl).trans h7
      have Hb_b1_n := Hb_b1_.ext hE (fun h => hne_b1__b3_ h)
      have Hb_b2_n := Hb_b2_.ext hE (fun h => hne_b2__b3_ h)
      have Hb_b3_n := hf 5 rfl
      have hW := Ext.own hW hE (fun x h => h.symm ▸ hB_b3_)
      have Hb_b1_ := Hb_b1_n
      have Hb_b2_ := Hb_b2_n
      have Hb_b3_ := Hb_b3_n
      refine WP.seq (WP.rb mixed [[], [0], [], [2], [1, 3]] [[3], [], [3], [], []] [(88, .pointer (some ((⟨b3_, 0, none⟩ : Addr).add 13))), (89, .int .i64 (({ v with Ref := i64 (1 + z15) } : api_Fact).Ref)), (90, .pointer (some ((⟨b3_, 0, none⟩ : Addr).add 4))), (91, .int .i64 (({ v with Ref := i64 (1 + z15) } : api_Fact).Person)), (92, .bool (({ v with Ref := i64 (1 + z15) } : api_Fact).Ref == ({ v with Ref := i64 (1 + z15) } : api_Fact).Person))] (by kernel_rfl) ⟨fun ρz wz hE hA ⟨e3, _⟩ _ => core_val rfl rfl (o_fieldAddr (e3.trans h3) (fa_49_12 _ _)),
 fun ρz wz hE hA _ ⟨u0, _⟩ => core_val rfl rfl (o_load u0 (run_load1 (lr_3 _ _) (CA.sub ((Hb_b3_.exn (hA rfl)).ca) 13 1))),
 fun ρz wz hE hA ⟨e3, _⟩ _ => core_val rfl rfl (o_fieldAddr (e3.trans h3) (fa_49_4 _ _)),
 fun ρz wz hE hA _ ⟨u2, _⟩ => core_val rfl rfl (o_load u2 (run_load1 (lr_3 _ _) (CA.sub ((Hb_b3_.exn (hA rfl)).ca) 4 1))),
 fun ρz wz hE hA _ ⟨u1, u3, _⟩ => core_val rfl rfl (o_eql u1 u3 rfl), trivial⟩ ?_)
      intro ρ29 w29 hN hf hr
      have h92 := hv hf 4 rfl rfl
      obtain ⟨h1, h2, h3, h4, h5, h6⟩ := k6 hr h1 h2 h3 h4 h5 h6 rfl
      have h7 := (hr 7 rfl).trans h7
      have Hb_b1_n := Hb_b1_.exn hN
      have Hb_b2_n := Hb_b2_.exn hN
      have Hb_b3_n := Hb_b3_.exn hN
      have hW := hW.trans hN
      have Hb_b1_ := Hb_b1_n
      have Hb_b2_ := Hb_b2_n
      have Hb_b3_ := Hb_b3_n
      refine WP.cond rfl h92 (fun hb => ?_) (fun hb => ?_)
      · have hF := (if_pos hb).symm.trans hF
        obtain ⟨z16, hz16, hF⟩ := obind hF
        refine WP.region mixed [[], [0], [1], [2], [], [1, 2, 3, 4]] [[], [0], [1], [2], [], [3, 4]] [[3], [], [], [], [3], []] [5] [] [val 93 (.pointer (some ((⟨b3_, 0, none⟩ : Addr).add 4))), val 94 (.int .i64 (({ v with Ref := i64 (1 + z15) } : api_Fact).Person)), val 95 (.int .i64 z16), val 96 (.int .i64 (i64 (1 + z16))), val 97 (.pointer (some ((⟨b3_, 0, none⟩ : Addr).add 13))), (97, fun _ wz => Mb wz b3_ 49 (api_Fact.cells ({ ({ v with Ref := i64 (1 + z15) } : api_Fact) with Ref := i64 (1 + z16) } : api_Fact)))] (fun x => x = b3_) (by kernel_rfl) ⟨sV, sV, sV, sV, sV, fun _ _ _ hE hM => hM.exn hE, trivial⟩ ⟨fun ρz wz hE hA ⟨e3, _⟩ _ => core_val rfl rfl (o_fieldAddr (e3.trans h3) (fa_49_4 _ _)),
 fun ρz wz hE hA _ ⟨u0, _⟩ => core_val rfl rfl (o_load u0 (run_load1 (lr_3 _ _) (CA.sub ((Hb_b3_.exn (hA rfl)).ca) 4 1))),
 fun ρz wz hE hA _ ⟨u1, _⟩ => core_call rfl (call_args2 u1 rfl) cf_26 (pensionplain_Mod_ok  _ _  hz16),
 fun ρz wz hE hA _ ⟨u2, _⟩ => core_val rfl rfl (o_add rfl u2 rfl),
 fun ρz wz hE hA ⟨e3, _⟩ _ => core_val rfl rfl (o_fieldAddr (e3.trans h3) (fa_49_12 _ _)),
 fun ρz wz hE hA _ ⟨u3, u4, _⟩ => core_storePart (k := 13) (vs := [Value.int .i64 (i64 (1 + z16))]) (cs0 := (api_Fact.cells ({ v with Ref := i64 (1 + z15) } : api_Fact))) rfl rfl (fun _ h => h) u4 rfl u3 (Hb_b3_.exn (hA rfl)) (fun a w => st_3 _ a w) (Nat.le_of_ble_eq_true rfl) rfl (one_3 _), trivial⟩ ?_
        intro ρ30 w30 hE hN hf hr
        obtain ⟨h1, h2, h3, h4, h5, h6⟩ := k6 hr h1 h2 h3 h4 h5 h6 rfl
        have h7 := (hr 7 rfl).trans h7
        have Hb_b1_n := Hb_b1_.ext hE (fun h => hne_b1__b3_ h)
        have Hb_b2_n := Hb_b2_.ext hE (fun h => hne_b2__b3_ h)
        have Hb_b3_n := hf 5 rfl
        have hW := Ext.own hW hE (fun x h => h.symm ▸ hB_b3_)
        have Hb_b1_ := Hb_b1_n
        have Hb_b2_ := Hb_b2_n
        have Hb_b3_ := Hb_b3_n
        exact ⟨({ ({ v with Ref := i64 (1 + z15) } : api_Fact) with Ref := i64 (1 + z16) } : api_Fact), h1, h2, h3, h4, h5, h6, h7, Hb_b1_, Hb_b2_, Hb_b3_, hne_b1__b2_, hne_b1__b3_, hne_b2__b3_, hW, hF⟩
      have hF := (if_neg (Bool.eq_false_iff.1 hb)).symm.trans hF
      refine WP.skip ?_
      exact ⟨({ v with Ref := i64 (1 + z15) } : api_Fact), h1, h2, h3, h4, h5, h6, h7, Hb_b1_, Hb_b2_, Hb_b3_, hne_b1__b2_, hne_b1__b3_, hne_b2__b3_, hW, hF⟩
    rintro ρ11 w11 ⟨v2, h1, h2, h3, h4, h5, h6, h7, Hb_b1_, Hb_b2_, Hb_b3_, hne_b1__b2_, hne_b1__b3_, hne_b2__b3_, hW, hF⟩
    rw [pensionhand_Make_j2] at hF
    refine WP.rv mixed [[], [0], [0, 1]] [[], [0], [1]] [[7], [], []] [(78, .int .i64 x3), (79, .int .i64 (i64 (x3 + 1))), (7, .int .i64 (i64 (x3 + 1)))] (by kernel_rfl) ⟨mE rfl rfl h7,
 fun ρz wz hE hA _ ⟨u0, _⟩ => core_val rfl rfl (o_add u0 rfl rfl),
 aU rfl rfl rfl, trivial⟩ ?_
    intro ρ12 w12 hN hf hr
    have h7 := hv hf 2 rfl rfl
    obtain ⟨h1, h2, h3, h4, h5, h6⟩ := k6 hr h1 h2 h3 h4 h5 h6 rfl
    have Hb_b1_n := Hb_b1_.exn hN
    have Hb_b2_n := Hb_b2_.exn hN
    have Hb_b3_n := Hb_b3_.exn hN
    have hW := hW.trans hN
    have Hb_b1_ := Hb_b1_n
    have Hb_b2_ := Hb_b2_n
    have Hb_b3_ := Hb_b3_n
    exact ⟨i64 (x3 + 1), v2, h1, h2, h3, h4, h5, h6, h7, Hb_b1_, Hb_b2_, Hb_b3_, hne_b1__b2_, hne_b1__b3_, hne_b2__b3_, hW, (by first | exact hF | (rw [hrec_]; exact hF))⟩
  have hF := (if_neg (Bool.eq_false_iff.1 hb)).symm.trans hF
  refine WP.exit (thenQ_exit (thenQ_exit (blockQ_hit (WP.seq (WP.region mixed [[], [0]] [[], [0]] [[3], [2]] [1] [] [val 155 (api_Fact.val v), (2, fun _ wz => Mb wz b2_ 49 (api_Fact.cells v))] (fun x => x = b2_) (by kernel_rfl) ⟨sV, fun _ _ _ hE hM => hM.exn hE, trivial⟩ ⟨fun ρz wz hE hA ⟨e3, _⟩ _ => core_val rfl rfl (o_load (e3.trans h3) (run_loadN (cs := (api_Fact.cells v)) (lr_49 _ _) rfl ((Hb_b3_.exn (hA rfl)).ca))),
 fun ρz wz hE hA ⟨e2, _⟩ ⟨u0, _⟩ => core_storeBox rfl rfl (fun _ h => h) (e2.trans h2) u0 (Hb_b2_.exn (hA rfl)) (fun a w => st_49 _ a w) rfl (one_49 _), trivial⟩ ?_)))))
  intro ρ31 w31 hE hN hf hr
  have h2 := (hr 2 rfl).trans h2
  have Hb_b2_n := hf 1 rfl
  have hW := Ext.own hW hE (fun x h => h.symm ▸ hB_b2_)
  have Hb_b2_ := Hb_b2_n
  refine WP.ret ?_
  show retQ Try.prog 156 Try.f28 (fun v w1 => v = api_Fact.val r ∧ Ext noG w0 w1) .ret ρ31 w31
  obtain rfl := Option.some.inj hF
  exact resC rfl (by decide) h2 (run_loadN (cs := (api_Fact.cells v)) (lr_49 _ _) rfl Hb_b2_.ca) ⟨rfl, hW⟩

set_option maxHeartbeats 4000000 in
theorem pensionhand_Facts_ok {w0 : World} (l_ : List pensionhand_Fact) {v_l_ : Value} (H_l_ : RepSl pensionhand_Fact.R noG w0 v_l_ l_) {r : (List api_Fact)} (hF : pensionhand_Facts l_ = some r) :
    Calls Try.prog 10 #[v_l_] w0 fun e w1 => ∃ v, e = .returned v ∧ Ext noG w0 w1 ∧ Own w0.heap.size 49 14 api_Fact.cells w1 v r := by
  refine (Calls.start (P := Try.prog) (args := [v_l_]) (R := fun v w1 => Own w0.heap.size 49 14 api_Fact.cells w1 v r ∧ Ext noG w0 w1) (n := 24) (w := w0) Try.func10 rfl rfl (Nat.le_of_ble_eq_true rfl) (fun ρ hargs => ?_)).mono (fun e w1 ⟨v, he, hv, hE⟩ => ⟨v, he, hE, hv⟩)
  have h0 := hargs 0 _ rfl
  have hW := Ext.refl noG w0
  obtain ⟨_, _, hs_H_l_, _, _⟩ := RepSl.shape H_l_
  have H_l_ := H_l_.start
  rw [pensionhand_Facts] at hF
  refine WP.seq (WP.rb mixed [[]] [[]] [(2, .slice none 0 0)] (by kernel_rfl) ⟨aC rfl rfl (fun _ => rfl), trivial⟩ ?_)
  intro ρ1 w1 hN hf hr
  have h0 := (hr 0 rfl).trans h0
  have H_l_ := H_l_.exn hN
  have hW := hW.trans hN
  refine WP.seq (WP.rb mixed [[]] [[]] [(3, .slice none 0 0)] (by kernel_rfl) ⟨aC rfl rfl (fun _ => rfl), trivial⟩ ?_)
  intro ρ2 w2 hN hf hr
  have h3 : ρ2 3 = .slice none 0 0 := hf 0 rfl
  have O3 : Own w0.heap.size 49 14 api_Fact.cells w2 (.slice none 0 0) [] := Own.nil _ _ _ _ _
  have h0 := (hr 0 rfl).trans h0
  have H_l_ := H_l_.exn hN
  have hW := hW.trans hN
  have O3 : Own w0.heap.size 49 14 api_Fact.cells w2 (.slice none 0 0) [] := Own.nil _ _ _ _ _
  refine WP.seq (WP.seq (WP.rb mixed [[]] [[]] [(4, .int .i64 0)] (by kernel_rfl) ⟨aC rfl rfl (fun _ => rfl), trivial⟩ ?_))
  intro ρ3 w3 hN hf hr
  have h4 := hv hf 0 rfl rfl
  obtain ⟨h0, h3⟩ := k2 hr h0 h3 rfl
  have Oo_O3 := O3
  have H_l_ := H_l_.exn hN
  have hW := hW.trans hN
  have O3 : Own w0.heap.size 49 14 api_Fact.cells w3 (.slice none 0 0) [] := Own.nil _ _ _ _ _
  refine WP.block (WP.loop (fun k_ ρ w => ∃ out_ : List api_Fact, ∃ i_ : Int, ∃ v3_ : Value, ρ 0 = v_l_ ∧ ρ 3 = v3_ ∧ ρ 4 = .int .i64 i_ ∧ RepSl pensionhand_Fact.R (gfr noG w0) w v_l_ l_ ∧ Own w0.heap.size 49 14 api_Fact.cells w v3_ out_ ∧ Ext noG w0 w ∧ loopC k_ (pensionhand_Facts_l l_) (out_, i_) = some r) FU ⟨[], 0, .slice none 0 0, h0, h3, h4, H_l_, O3, hW, hF⟩ (fun _ _ h => by obtain ⟨_, _, _, _, _, _, _, _, _, h⟩ := h; cases h) ?_)
  rintro k_ ρ4 w4 ⟨out_, i_, v3_, h0, h3, h4, H_l_, O3, hW, hF⟩
  have hF : pensionhand_Facts_l l_ (loopC k_ (pensionhand_Facts_l l_)) (out_, i_) = some r := hF
  generalize hrec_ : loopC k_ (pensionhand_Facts_l l_) = rec_ at hF
  rw [pensionhand_Facts_l] at hF
  refine WP.seq (WP.seq (WP.rb mixed [[], [], [1], [0, 2], [3], [4], [4, 5], [4, 6]] [[4], [0], [], [], [], [4], [], []] [(5, .int .i64 i_), (6, v_l_), (7, .int .i64 (l_.length : Int)), (8, .bool (decide (i_ < (l_.length : Int)))), (9, .bool (decide (i_ < (l_.length : Int)))), (10, gv (decide (i_ < (l_.length : Int))) (.int .i64 i_)), (11, gv (decide (i_ < (l_.length : Int))) (.bool (decide (i_ < 12)))), (12, .bool (decide (i_ < (l_.length : Int)) && decide (i_ < 12)))] (by kernel_rfl) ⟨mE rfl rfl h4,
 mE rfl rfl h0,
 fun ρz wz hE hA _ ⟨u1, _⟩ => core_val rfl rfl (o_len (u1.trans hs_H_l_) len_23),
 fun ρz wz hE hA _ ⟨u0, u2, _⟩ => core_val rfl rfl (o_lss u0 u2 rfl),
 mU rfl rfl rfl,
 fun ρz wz hE hA ⟨e4, _⟩ ⟨u4, _⟩ => gIf rfl rfl (yT rfl u4) fun gc F hF => core_val rfl hF (o_move (e4.trans h4)),
 fun ρz wz hE hA _ ⟨u4, u5, _⟩ => gIf rfl rfl (yT rfl u4) fun gc F hF => core_val rfl hF (o_lss (gt gc u5) rfl rfl),
 fun ρz wz hE hA _ ⟨u4, u6, _⟩ => core_val rfl rfl (o_pick_and u4 u6 rfl), trivial⟩ ?_))
  intro ρ5 w5 hN hf hr
  have h12 := hv hf 7 rfl rfl
  obtain ⟨h0, h3, h4⟩ := k3 hr h0 h3 h4 rfl
  have Oo_O3 := O3
  have H_l_ := H_l_.exn hN
  have hW := hW.trans hN
  have O3 := Oo_O3.exn hN
  refine WP.cond rfl h12 (fun hb => ?_) (fun hb => ?_)
  · have hF := (if_pos hb).symm.trans hF
    refine WP.skip (WP.seq (WP.block ?_))
    obtain ⟨y, hy, hF⟩ := obind hF
    obtain ⟨ay, cy, hvy, hiy, hAy⟩ := RepSl.getF H_l_ hy
    obtain ⟨z, hz, hF⟩ := obind hF
    obtain ⟨l, hl, hF⟩ := obind hF
    refine WP.region mixed [[], [], [], [1, 2], [3], [4], [4, 5], [0, 4, 5, 6], [0, 7]] [[], [], [], [1, 2], [3], [4], [5], [0, 6], [7]] [[3], [0], [4], [], [], [], [], [], []] [7] [] [val 15 (v3_), val 16 (v_l_), val 17 (.int .i64 i_), val 18 (.pointer (some (ay.add (Int.toNat i_ * 13)))), val 19 (pensionhand_Fact.val y), val 20 (api_Fact.val z), (21, fun u wz => ∃ b, u = .slice (some ⟨b, 0, none⟩) 1 1 ∧ w5.heap.size ≤ b ∧ Mb wz b 49 (([z]).flatMap api_Fact.cells)), (22, fun u wz => Own w0.heap.size 49 14 api_Fact.cells wz u l ∧ ∀ b, u.ownBlock = some b → (v3_.ownBlock = some b ∨ w5.heap.size ≤ b)), (3, fun u wz => Own w0.heap.size 49 14 api_Fact.cells wz u l ∧ ∀ b, u.ownBlock = some b → (v3_.ownBlock = some b ∨ w5.heap.size ≤ b))] (fun b => Value.ownBlock v3_ = some b) (by kernel_rfl) ⟨sV, sV, sV, sV, sV, sV, fun _ _ _ hE ⟨b, hz, hs, hM⟩ => ⟨b, hz, hs, hM.ext hE (fun hg => absurd (O3.lt hg).2 (Nat.not_lt.2 hs))⟩, fun _ _ _ hE ⟨hO, hf⟩ => ⟨hO.exn hE, hf⟩, fun _ _ _ hE ⟨hO, hf⟩ => ⟨hO.exn hE, hf⟩, trivial⟩ ⟨mE rfl rfl h3,
 mE rfl rfl h0,
 mE rfl rfl h4,
 fun ρz wz hE hA _ ⟨u1, u2, _⟩ => core_val rfl rfl (o_indexAddr (u1.trans hvy) u2 (ia_23 hiy)),
 fun ρz wz hE hA _ ⟨u3, _⟩ => core_val rfl rfl (o_load u3 (run_loadN (cs := (pensionhand_Fact.cells y)) (lr_52 _ _) rfl ((hAy.exn (hA rfl)).ca))),
 fun ρz wz hE hA _ ⟨u4, _⟩ => core_call rfl (call_args1 u4) cf_28 (pensionhand_Make_ok  _  hz),
 fun ρz wz hE hA _ ⟨u5, _⟩ => core_slice rfl rfl hE (o_buildSlice (build_parts1 u5) (bs_24_1 _ _)),
 fun ρz wz hE hA _ ⟨u0, ⟨bz6, hz6, hge6, hM6⟩, _⟩ => core_append (n := 14) (cells := api_Fact.cells) (B := w0.heap.size) (w0 := w5) rfl rfl (fun b hb => hb) u0 hz6 (fun _ => rfl) one_49 si_24 se_49 (by decide) (by decide) (O3.exn (hA rfl)) ⟨_, (Mb.rep (n := 14) (cells := api_Fact.cells) (hn := fun _ => rfl) (G := noG) hM6 rfl (Nat.le_of_ble_eq_true rfl) (fun h => h))⟩ hl (Nat.le_trans hW.size hE.size) hE.size (fun v1 w1 h1 h2 => ⟨h1, h2⟩),
 fun ρz wz hE hA _ ⟨⟨hO7, hfr7⟩, _⟩ => core_copy rfl rfl (o_assign rfl) ⟨hO7, hfr7⟩, trivial⟩ ?_
    intro ρ6 w6 hE hN hf hr
    obtain ⟨v3_2, h3⟩ : ∃ v, ρ6 3 = v := ⟨_, rfl⟩
    have hq3 : (fun u wz => Own w0.heap.size 49 14 api_Fact.cells wz u l ∧ ∀ b, u.ownBlock = some b → (v3_.ownBlock = some b ∨ w5.heap.size ≤ b)) (ρ6 3) w6 := hf 8 rfl
    rw [h3] at hq3
    obtain ⟨hq3, hfr3⟩ := hq3
    obtain ⟨h0, h4⟩ := k2 hr h0 h4 rfl
    have Oo_O3 := O3
    have H_l_ := H_l_.over hE (fun b hb => (Oo_O3.lt hb).1)
    have hW := Ext.own hW hE (fun b hb => (Oo_O3.lt hb).1)
    have O3 := hq3
    refine WP.rv mixed [[], [0], [0, 1]] [[], [0], [1]] [[4], [], []] [(13, .int .i64 i_), (14, .int .i64 (i64 (i_ + 1))), (4, .int .i64 (i64 (i_ + 1)))] (by kernel_rfl) ⟨mE rfl rfl h4,
 fun ρz wz hE hA _ ⟨u0, _⟩ => core_val rfl rfl (o_add u0 rfl rfl),
 aU rfl rfl rfl, trivial⟩ ?_
    intro ρ7 w7 hN hf hr
    have h4 := hv hf 2 rfl rfl
    obtain ⟨h0, h3⟩ := k2 hr h0 h3 rfl
    have Oo_O3 := O3
    have H_l_ := H_l_.exn hN
    have hW := hW.trans hN
    have O3 := Oo_O3.exn hN
    exact ⟨l, i64 (i_ + 1), v3_2, h0, h3, h4, H_l_, O3, hW, (by first | exact hF | (rw [hrec_]; exact hF))⟩
  have hF := (if_neg (Bool.eq_false_iff.1 hb)).symm.trans hF
  refine WP.exit (thenQ_exit (thenQ_exit (blockQ_hit (WP.seq (WP.rb mixed [[], [0]] [[3], []] [(23, v3_), (2, v3_)] (by kernel_rfl) ⟨mE rfl rfl h3,
 aU rfl rfl rfl, trivial⟩ ?_)))))
  intro ρ8 w8 hN hf hr
  have h2 := hv hf 1 rfl rfl
  have Oo_O3 := O3
  have hW := hW.trans hN
  have O2 := Oo_O3.exn hN
  refine WP.ret ?_
  show retQ Try.prog 24 Try.f10 (fun v w1 => Own w0.heap.size 49 14 api_Fact.cells w1 v r ∧ Ext noG w0 w1) .ret ρ8 w8
  obtain rfl := Option.some.inj hF
  exact res1 rfl (by decide) h2 ⟨O2, hW⟩

set_option maxHeartbeats 4000000 in
theorem pensionref12_Of_ok {w0 : World} (l_ : List api_Fact) (person_ : Int) {v_l_ : Value} (H_l_ : RepSl api_Fact.R noG w0 v_l_ l_) {r : (List api_Fact)} (hF : pensionref12_Of l_ person_ = some r) :
    Calls Try.prog 9 #[v_l_, .int .i64 person_] w0 fun e w1 => ∃ v, e = .returned v ∧ Ext noG w0 w1 ∧ Own w0.heap.size 49 14 api_Fact.cells w1 v r := by
  refine (Calls.start (P := Try.prog) (args := [v_l_, .int .i64 person_]) (R := fun v w1 => Own w0.heap.size 49 14 api_Fact.cells w1 v r ∧ Ext noG w0 w1) (n := 28) (w := w0) Try.func9 rfl rfl (Nat.le_of_ble_eq_true rfl) (fun ρ hargs => ?_)).mono (fun e w1 ⟨v, he, hv, hE⟩ => ⟨v, he, hE, hv⟩)
  have h0 := hargs 0 _ rfl
  have h1 := hargs 1 _ rfl
  have hW := Ext.refl noG w0
  obtain ⟨_, _, hs_H_l_, _, _⟩ := RepSl.shape H_l_
  have H_l_ := H_l_.start
  rw [pensionref12_Of] at hF
  refine WP.seq (WP.rb mixed [[]] [[]] [(4, .slice none 0 0)] (by kernel_rfl) ⟨aC rfl rfl (fun _ => rfl), trivial⟩ ?_)
  intro ρ1 w1 hN hf hr
  obtain ⟨h0, h1⟩ := k2 hr h0 h1 rfl
  have H_l_ := H_l_.exn hN
  have hW := hW.trans hN
  refine WP.seq (WP.rb mixed [[]] [[]] [(5, .slice none 0 0)] (by kernel_rfl) ⟨aC rfl rfl (fun _ => rfl), trivial⟩ ?_)
  intro ρ2 w2 hN hf hr
  have h5 : ρ2 5 = .slice none 0 0 := hf 0 rfl
  have O5 : Own w0.heap.size 49 14 api_Fact.cells w2 (.slice none 0 0) [] := Own.nil _ _ _ _ _
  obtain ⟨h0, h1⟩ := k2 hr h0 h1 rfl
  have H_l_ := H_l_.exn hN
  have hW := hW.trans hN
  have O5 : Own w0.heap.size 49 14 api_Fact.cells w2 (.slice none 0 0) [] := Own.nil _ _ _ _ _
  refine WP.seq (WP.seq (WP.rb mixed [[]] [[]] [(6, .int .i64 0)] (by kernel_rfl) ⟨aC rfl rfl (fun _ => rfl), trivial⟩ ?_))
  intro ρ3 w3 hN hf hr
  have h6 := hv hf 0 rfl rfl
  obtain ⟨h0, h1, h5⟩ := k3 hr h0 h1 h5 rfl
  have Oo_O5 := O5
  have H_l_ := H_l_.exn hN
  have hW := hW.trans hN
  have O5 : Own w0.heap.size 49 14 api_Fact.cells w3 (.slice none 0 0) [] := Own.nil _ _ _ _ _
  refine WP.block (WP.loop (fun k_ ρ w => ∃ out_ : List api_Fact, ∃ i_ : Int, ∃ v5_ : Value, ρ 0 = v_l_ ∧ ρ 1 = .int .i64 person_ ∧ ρ 5 = v5_ ∧ ρ 6 = .int .i64 i_ ∧ RepSl api_Fact.R (gfr noG w0) w v_l_ l_ ∧ Own w0.heap.size 49 14 api_Fact.cells w v5_ out_ ∧ Ext noG w0 w ∧ loopC k_ (pensionref12_Of_l l_ person_) (out_, i_) = some r) FU ⟨[], 0, .slice none 0 0, h0, h1, h5, h6, H_l_, O5, hW, hF⟩ (fun _ _ h => by obtain ⟨_, _, _, _, _, _, _, _, _, _, h⟩ := h; cases h) ?_)
  rintro k_ ρ4 w4 ⟨out_, i_, v5_, h0, h1, h5, h6, H_l_, O5, hW, hF⟩
  have hF : pensionref12_Of_l l_ person_ (loopC k_ (pensionref12_Of_l l_ person_)) (out_, i_) = some r := hF
  generalize hrec_ : loopC k_ (pensionref12_Of_l l_ person_) = rec_ at hF
  rw [pensionref12_Of_l] at hF
  refine WP.seq (WP.seq (WP.rb mixed [[], [], [1], [0, 2]] [[6], [0], [], []] [(7, .int .i64 i_), (8, v_l_), (9, .int .i64 (l_.length : Int)), (10, .bool (decide (i_ < (l_.length : Int))))] (by kernel_rfl) ⟨mE rfl rfl h6,
 mE rfl rfl h0,
 fun ρz wz hE hA _ ⟨u1, _⟩ => core_val rfl rfl (o_len (u1.trans hs_H_l_) len_24),
 fun ρz wz hE hA _ ⟨u0, u2, _⟩ => core_val rfl rfl (o_lss u0 u2 rfl), trivial⟩ ?_))
  intro ρ5 w5 hN hf hr
  have h10 := hv hf 3 rfl rfl
  obtain ⟨h0, h1, h5, h6⟩ := k4 hr h0 h1 h5 h6 rfl
  have Oo_O5 := O5
  have H_l_ := H_l_.exn hN
  have hW := hW.trans hN
  have O5 := Oo_O5.exn hN
  refine WP.cond rfl h10 (fun hb => ?_) (fun hb => ?_)
  · have hF := (if_pos hb).symm.trans hF
    refine WP.skip (WP.seqJ (fun ρ w => ∃ out_2 : List api_Fact, ∃ v5_2 : Value, ρ 0 = v_l_ ∧ ρ 1 = .int .i64 person_ ∧ ρ 5 = v5_2 ∧ ρ 6 = .int .i64 i_ ∧ RepSl api_Fact.R (gfr noG w0) w v_l_ l_ ∧ Own w0.heap.size 49 14 api_Fact.cells w v5_2 out_2 ∧ Ext noG w0 w ∧ pensionref12_Of_j i_ rec_ out_2 = some r) ?_ ?_)
    · refine WP.block (WP.seq ?_)
      obtain ⟨y, hy, hF⟩ := obind hF
      obtain ⟨ay, cy, hvy, hiy, hAy⟩ := RepSl.getF H_l_ hy
      refine WP.rb mixed [[], [], [0, 1], [2], [3], [], [4, 5]] [[0], [6], [], [], [], [1], []] [(13, v_l_), (14, .int .i64 i_), (15, .pointer (some (ay.add (Int.toNat i_ * 14)))), (16, .pointer (some ((ay.add (Int.toNat i_ * 14)).add 4))), (17, .int .i64 y.Person), (18, .int .i64 person_), (19, .bool (y.Person == person_))] (by kernel_rfl) ⟨mE rfl rfl h0,
 mE rfl rfl h6,
 fun ρz wz hE hA _ ⟨u0, u1, _⟩ => core_val rfl rfl (o_indexAddr (u0.trans hvy) u1 (ia_24 hiy)),
 fun ρz wz hE hA _ ⟨u2, _⟩ => core_val rfl rfl (o_fieldAddr u2 (fa_49_4 _ _)),
 fun ρz wz hE hA _ ⟨u3, _⟩ => core_val rfl rfl (o_load u3 (run_load1 (lr_3 _ _) (CA.sub ((hAy.exn (hA rfl)).ca) 4 1))),
 mE rfl rfl h1,
 fun ρz wz hE hA _ ⟨u4, u5, _⟩ => core_val rfl rfl (o_eql u4 u5 rfl), trivial⟩ ?_
      intro ρ8 w8 hN hf hr
      have h19 := hv hf 6 rfl rfl
      obtain ⟨h0, h1, h5, h6⟩ := k4 hr h0 h1 h5 h6 rfl
      have Oo_O5 := O5
      have H_l_ := H_l_.exn hN
      have hW := hW.trans hN
      have O5 := Oo_O5.exn hN
      refine WP.cond rfl h19 (fun hb => ?_) (fun hb => ?_)
      · have hF := (if_pos hb).symm.trans hF
        obtain ⟨y2, hy2, hF⟩ := obind hF
        obtain ⟨ay2, cy2, hvy2, hiy2, hAy2⟩ := RepSl.getF H_l_ hy2
        obtain ⟨l, hl, hF⟩ := obind hF
        refine WP.region mixed [[], [], [], [1, 2], [3], [4], [0, 4, 5], [0, 6]] [[], [], [], [1, 2], [3], [4], [0, 5], [6]] [[5], [0], [6], [], [], [], [], []] [6] [] [val 20 (v5_), val 21 (v_l_), val 22 (.int .i64 i_), val 23 (.pointer (some (ay2.add (Int.toNat i_ * 14)))), val 24 (api_Fact.val y2), (25, fun u wz => ∃ b, u = .slice (some ⟨b, 0, none⟩) 1 1 ∧ w8.heap.size ≤ b ∧ Mb wz b 49 (([y2]).flatMap api_Fact.cells)), (26, fun u wz => Own w0.heap.size 49 14 api_Fact.cells wz u l ∧ ∀ b, u.ownBlock = some b → (v5_.ownBlock = some b ∨ w8.heap.size ≤ b)), (5, fun u wz => Own w0.heap.size 49 14 api_Fact.cells wz u l ∧ ∀ b, u.ownBlock = some b → (v5_.ownBlock = some b ∨ w8.heap.size ≤ b))] (fun b => Value.ownBlock v5_ = some b) (by kernel_rfl) ⟨sV, sV, sV, sV, sV, fun _ _ _ hE ⟨b, hz, hs, hM⟩ => ⟨b, hz, hs, hM.ext hE (fun hg => absurd (O5.lt hg).2 (Nat.not_lt.2 hs))⟩, fun _ _ _ hE ⟨hO, hf⟩ => ⟨hO.exn hE, hf⟩, fun _ _ _ hE ⟨hO, hf⟩ => ⟨hO.exn hE, hf⟩, trivial⟩ ⟨mE rfl rfl h5,
 mE rfl rfl h0,
 mE rfl rfl h6,
 fun ρz wz hE hA _ ⟨u1, u2, _⟩ => core_val rfl rfl (o_indexAddr (u1.trans hvy2) u2 (ia_24 hiy2)),
 fun ρz wz hE hA _ ⟨u3, _⟩ => core_val rfl rfl (o_load u3 (run_loadN (cs := (api_Fact.cells y2)) (lr_49 _ _) rfl ((hAy2.exn (hA rfl)).ca))),
 fun ρz wz hE hA _ ⟨u4, _⟩ => core_slice rfl rfl hE (o_buildSlice (build_parts1 u4) (bs_24_1 _ _)),
 fun ρz wz hE hA _ ⟨u0, ⟨bz5, hz5, hge5, hM5⟩, _⟩ => core_append (n := 14) (cells := api_Fact.cells) (B := w0.heap.size) (w0 := w8) rfl rfl (fun b hb => hb) u0 hz5 (fun _ => rfl) one_49 si_24 se_49 (by decide) (by decide) (O5.exn (hA rfl)) ⟨_, (Mb.rep (n := 14) (cells := api_Fact.cells) (hn := fun _ => rfl) (G := noG) hM5 rfl (Nat.le_of_ble_eq_true rfl) (fun h => h))⟩ hl (Nat.le_trans hW.size hE.size) hE.size (fun v1 w1 h1 h2 => ⟨h1, h2⟩),
 fun ρz wz hE hA _ ⟨⟨hO6, hfr6⟩, _⟩ => core_copy rfl rfl (o_assign rfl) ⟨hO6, hfr6⟩, trivial⟩ ?_
        intro ρ9 w9 hE hN hf hr
        obtain ⟨v5_3, h5⟩ : ∃ v, ρ9 5 = v := ⟨_, rfl⟩
        have hq5 : (fun u wz => Own w0.heap.size 49 14 api_Fact.cells wz u l ∧ ∀ b, u.ownBlock = some b → (v5_.ownBlock = some b ∨ w8.heap.size ≤ b)) (ρ9 5) w9 := hf 7 rfl
        rw [h5] at hq5
        obtain ⟨hq5, hfr5⟩ := hq5
        obtain ⟨h0, h1, h6⟩ := k3 hr h0 h1 h6 rfl
        have Oo_O5 := O5
        have H_l_ := H_l_.over hE (fun b hb => (Oo_O5.lt hb).1)
        have hW := Ext.own hW hE (fun b hb => (Oo_O5.lt hb).1)
        have O5 := hq5
        exact ⟨l, v5_3, h0, h1, h5, h6, H_l_, O5, hW, hF⟩
      have hF := (if_neg (Bool.eq_false_iff.1 hb)).symm.trans hF
      refine WP.skip ?_
      exact ⟨out_, v5_, h0, h1, h5, h6, H_l_, O5, hW, hF⟩
    rintro ρ6 w6 ⟨out_2, v5_2, h0, h1, h5, h6, H_l_, O5, hW, hF⟩
    rw [pensionref12_Of_j] at hF
    refine WP.rv mixed [[], [0], [0, 1]] [[], [0], [1]] [[6], [], []] [(11, .int .i64 i_), (12, .int .i64 (i64 (i_ + 1))), (6, .int .i64 (i64 (i_ + 1)))] (by kernel_rfl) ⟨mE rfl rfl h6,
 fun ρz wz hE hA _ ⟨u0, _⟩ => core_val rfl rfl (o_add u0 rfl rfl),
 aU rfl rfl rfl, trivial⟩ ?_
    intro ρ7 w7 hN hf hr
    have h6 := hv hf 2 rfl rfl
    obtain ⟨h0, h1, h5⟩ := k3 hr h0 h1 h5 rfl
    have Oo_O5 := O5
    have H_l_ := H_l_.exn hN
    have hW := hW.trans hN
    have O5 := Oo_O5.exn hN
    exact ⟨out_2, i64 (i_ + 1), v5_2, h0, h1, h5, h6, H_l_, O5, hW, (by first | exact hF | (rw [hrec_]; exact hF))⟩
  have hF := (if_neg (Bool.eq_false_iff.1 hb)).symm.trans hF
  refine WP.exit (thenQ_exit (thenQ_exit (blockQ_hit (WP.seq (WP.rb mixed [[], [0]] [[5], []] [(27, v5_), (4, v5_)] (by kernel_rfl) ⟨mE rfl rfl h5,
 aU rfl rfl rfl, trivial⟩ ?_)))))
  intro ρ10 w10 hN hf hr
  have h4 := hv hf 1 rfl rfl
  have Oo_O5 := O5
  have hW := hW.trans hN
  have O4 := Oo_O5.exn hN
  refine WP.ret ?_
  show retQ Try.prog 28 Try.f9 (fun v w1 => Own w0.heap.size 49 14 api_Fact.cells w1 v r ∧ Ext noG w0 w1) .ret ρ10 w10
  obtain rfl := Option.some.inj hF
  exact res1 rfl (by decide) h4 ⟨O4, hW⟩

set_option maxHeartbeats 4000000 in
theorem fact_Uses_ok {w0 : World} (kind_ : Int) {r : ByteArray} (hF : fact_Uses kind_ = some r) :
    Calls Try.prog 63 #[.int .i64 kind_] w0 fun e w1 => e = .returned (.string r) ∧ Ext noG w0 w1 := by
  refine (Calls.start (P := Try.prog) (args := [.int .i64 kind_]) (R := fun v w1 => v = .string r ∧ Ext noG w0 w1) (n := 26) (w := w0) Try.func63 rfl rfl (Nat.le_of_ble_eq_true rfl) (fun ρ hargs => ?_)).mono (fun e w1 ⟨v, he, hv, hE⟩ => ⟨hv ▸ he, hE⟩)
  have h0 := hargs 0 _ rfl
  have hW := Ext.refl noG w0
  rw [fact_Uses] at hF
  refine WP.seq (WP.rb mixed [[]] [[]] [(2, .string str1)] (by kernel_rfl) ⟨aC rfl rfl (fun _ => rfl), trivial⟩ ?_)
  intro ρ1 w1 hN hf hr
  have h0 := (hr 0 rfl).trans h0
  have hW := hW.trans hN
  refine WP.seq (WP.seq (WP.rb mixed [[]] [[0]] [(3, .int .i64 kind_)] (by kernel_rfl) ⟨mE rfl rfl h0, trivial⟩ ?_))
  intro ρ2 w2 hN hf hr
  have h3 := hv hf 0 rfl rfl
  have hW := hW.trans hN
  refine WP.block (WP.seq (WP.rb mixed [[], [0]] [[3], []] [(5, .bool (kind_ == 1)), (4, .bool (kind_ == 1))] (by kernel_rfl) ⟨fun ρz wz hE hA ⟨e3, _⟩ _ => core_val rfl rfl (o_eql (e3.trans h3) rfl rfl),
 aU rfl rfl rfl, trivial⟩ ?_))
  intro ρ3 w3 hN hf hr
  have h4 := hv hf 1 rfl rfl
  have h3 := (hr 3 rfl).trans h3
  have hW := hW.trans hN
  refine WP.cond rfl h4 (fun hb => ?_) (fun hb => ?_)
  · have hF := (if_pos hb).symm.trans hF
    refine WP.seq (WP.rb mixed [[]] [[]] [(2, .string str2)] (by kernel_rfl) ⟨aC rfl rfl (fun _ => rfl), trivial⟩ ?_)
    intro ρ4 w4 hN hf hr
    have h2 := hv hf 0 rfl rfl
    have hW := hW.trans hN
    refine WP.ret ?_
    show retQ Try.prog 26 Try.f63 (fun v w1 => v = .string r ∧ Ext noG w0 w1) .ret ρ4 w4
    obtain rfl := Option.some.inj hF
    exact res1 rfl (by decide) h2 ⟨rfl, hW⟩
  have hF := (if_neg (Bool.eq_false_iff.1 hb)).symm.trans hF
  refine WP.seqJ (fun ρ w => ∃ x : Bool, ρ 3 = .int .i64 kind_ ∧ ρ 6 = .bool x ∧ Ext noG w0 w ∧ fact_Uses_j kind_ x = some r) ?_ ?_
  · refine WP.seq (WP.rb mixed [[], [0]] [[3], []] [(7, .bool (kind_ == 2)), (6, .bool (kind_ == 2))] (by kernel_rfl) ⟨fun ρz wz hE hA ⟨e3, _⟩ _ => core_val rfl rfl (o_eql (e3.trans h3) rfl rfl),
 aU rfl rfl rfl, trivial⟩ ?_)
    intro ρ27 w27 hN hf hr
    have h6 := hv hf 1 rfl rfl
    have h3 := (hr 3 rfl).trans h3
    have hW := hW.trans hN
    refine WP.cond rfl h6 (fun hb => ?_) (fun hb => ?_)
    · have hF := (if_pos hb).symm.trans hF
      refine WP.skip ?_
      exact ⟨(kind_ == 2), h3, h6, hW, hF⟩
    have hF := (if_neg (Bool.eq_false_iff.1 hb)).symm.trans hF
    refine WP.rb mixed [[], [0]] [[3], []] [(8, .bool (kind_ == 3)), (6, .bool (kind_ == 3))] (by kernel_rfl) ⟨fun ρz wz hE hA ⟨e3, _⟩ _ => core_val rfl rfl (o_eql (e3.trans h3) rfl rfl),
 aU rfl rfl rfl, trivial⟩ ?_
    intro ρ28 w28 hN hf hr
    have h6 := hv hf 1 rfl rfl
    have h3 := (hr 3 rfl).trans h3
    have hW := hW.trans hN
    exact ⟨(kind_ == 3), h3, h6, hW, hF⟩
  rintro ρ5 w5 ⟨x, h3, h6, hW, hF⟩
  rw [fact_Uses_j] at hF
  refine WP.cond rfl h6 (fun hb => ?_) (fun hb => ?_)
  · have hF := (if_pos hb).symm.trans hF
    refine WP.seq (WP.rb mixed [[]] [[]] [(2, .string str3)] (by kernel_rfl) ⟨aC rfl rfl (fun _ => rfl), trivial⟩ ?_)
    intro ρ6 w6 hN hf hr
    have h2 := hv hf 0 rfl rfl
    have hW := hW.trans hN
    refine WP.ret ?_
    show retQ Try.prog 26 Try.f63 (fun v w1 => v = .string r ∧ Ext noG w0 w1) .ret ρ6 w6
    obtain rfl := Option.some.inj hF
    exact res1 rfl (by decide) h2 ⟨rfl, hW⟩
  have hF := (if_neg (Bool.eq_false_iff.1 hb)).symm.trans hF
  refine WP.seq (WP.rb mixed [[], [0]] [[3], []] [(10, .bool (kind_ == 4)), (9, .bool (kind_ == 4))] (by kernel_rfl) ⟨fun ρz wz hE hA ⟨e3, _⟩ _ => core_val rfl rfl (o_eql (e3.trans h3) rfl rfl),
 aU rfl rfl rfl, trivial⟩ ?_)
  intro ρ7 w7 hN hf hr
  have h9 := hv hf 1 rfl rfl
  have h3 := (hr 3 rfl).trans h3
  have hW := hW.trans hN
  refine WP.cond rfl h9 (fun hb => ?_) (fun hb => ?_)
  · have hF := (if_pos hb).symm.trans hF
    refine WP.seq (WP.rb mixed [[]] [[]] [(2, .string str4)] (by kernel_rfl) ⟨aC rfl rfl (fun _ => rfl), trivial⟩ ?_)
    intro ρ8 w8 hN hf hr
    have h2 := hv hf 0 rfl rfl
    have hW := hW.trans hN
    refine WP.ret ?_
    show retQ Try.prog 26 Try.f63 (fun v w1 => v = .string r ∧ Ext noG w0 w1) .ret ρ8 w8
    obtain rfl := Option.some.inj hF
    exact res1 rfl (by decide) h2 ⟨rfl, hW⟩
  have hF := (if_neg (Bool.eq_false_iff.1 hb)).symm.trans hF
  refine WP.seqJ (fun ρ w => ∃ x2 : Bool, ρ 3 = .int .i64 kind_ ∧ ρ 11 = .bool x2 ∧ Ext noG w0 w ∧ fact_Uses_j2 kind_ x2 = some r) ?_ ?_
  · refine WP.seq (WP.rb mixed [[], [0]] [[3], []] [(12, .bool (kind_ == 5)), (11, .bool (kind_ == 5))] (by kernel_rfl) ⟨fun ρz wz hE hA ⟨e3, _⟩ _ => core_val rfl rfl (o_eql (e3.trans h3) rfl rfl),
 aU rfl rfl rfl, trivial⟩ ?_)
    intro ρ23 w23 hN hf hr
    have h11 := hv hf 1 rfl rfl
    have h3 := (hr 3 rfl).trans h3
    have hW := hW.trans hN
    refine WP.cond rfl h11 (fun hb => ?_) (fun hb => ?_)
    · have hF := (if_pos hb).symm.trans hF
      refine WP.skip ?_
      exact ⟨(kind_ == 5), h3, h11, hW, hF⟩
    have hF := (if_neg (Bool.eq_false_iff.1 hb)).symm.trans hF
    refine WP.seq (WP.rb mixed [[], [0]] [[3], []] [(13, .bool (kind_ == 7)), (11, .bool (kind_ == 7))] (by kernel_rfl) ⟨fun ρz wz hE hA ⟨e3, _⟩ _ => core_val rfl rfl (o_eql (e3.trans h3) rfl rfl),
 aU rfl rfl rfl, trivial⟩ ?_)
    intro ρ24 w24 hN hf hr
    have h11 := hv hf 1 rfl rfl
    have h3 := (hr 3 rfl).trans h3
    have hW := hW.trans hN
    refine WP.cond rfl h11 (fun hb => ?_) (fun hb => ?_)
    · have hF := (if_pos hb).symm.trans hF
      refine WP.skip ?_
      exact ⟨(kind_ == 7), h3, h11, hW, hF⟩
    have hF := (if_neg (Bool.eq_false_iff.1 hb)).symm.trans hF
    refine WP.seq (WP.rb mixed [[], [0]] [[3], []] [(14, .bool (kind_ == 8)), (11, .bool (kind_ == 8))] (by kernel_rfl) ⟨fun ρz wz hE hA ⟨e3, _⟩ _ => core_val rfl rfl (o_eql (e3.trans h3) rfl rfl),
 aU rfl rfl rfl, trivial⟩ ?_)
    intro ρ25 w25 hN hf hr
    have h11 := hv hf 1 rfl rfl
    have h3 := (hr 3 rfl).trans h3
    have hW := hW.trans hN
    refine WP.cond rfl h11 (fun hb => ?_) (fun hb => ?_)
    · have hF := (if_pos hb).symm.trans hF
      refine WP.skip ?_
      exact ⟨(kind_ == 8), h3, h11, hW, hF⟩
    have hF := (if_neg (Bool.eq_false_iff.1 hb)).symm.trans hF
    refine WP.rb mixed [[], [0]] [[3], []] [(15, .bool (kind_ == 9)), (11, .bool (kind_ == 9))] (by kernel_rfl) ⟨fun ρz wz hE hA ⟨e3, _⟩ _ => core_val rfl rfl (o_eql (e3.trans h3) rfl rfl),
 aU rfl rfl rfl, trivial⟩ ?_
    intro ρ26 w26 hN hf hr
    have h11 := hv hf 1 rfl rfl
    have h3 := (hr 3 rfl).trans h3
    have hW := hW.trans hN
    exact ⟨(kind_ == 9), h3, h11, hW, hF⟩
  rintro ρ9 w9 ⟨x2, h3, h11, hW, hF⟩
  rw [fact_Uses_j2] at hF
  refine WP.cond rfl h11 (fun hb => ?_) (fun hb => ?_)
  · have hF := (if_pos hb).symm.trans hF
    refine WP.seq (WP.rb mixed [[]] [[]] [(2, .string str5)] (by kernel_rfl) ⟨aC rfl rfl (fun _ => rfl), trivial⟩ ?_)
    intro ρ10 w10 hN hf hr
    have h2 := hv hf 0 rfl rfl
    have hW := hW.trans hN
    refine WP.ret ?_
    show retQ Try.prog 26 Try.f63 (fun v w1 => v = .string r ∧ Ext noG w0 w1) .ret ρ10 w10
    obtain rfl := Option.some.inj hF
    exact res1 rfl (by decide) h2 ⟨rfl, hW⟩
  have hF := (if_neg (Bool.eq_false_iff.1 hb)).symm.trans hF
  refine WP.seq (WP.rb mixed [[], [0]] [[3], []] [(17, .bool (kind_ == 6)), (16, .bool (kind_ == 6))] (by kernel_rfl) ⟨fun ρz wz hE hA ⟨e3, _⟩ _ => core_val rfl rfl (o_eql (e3.trans h3) rfl rfl),
 aU rfl rfl rfl, trivial⟩ ?_)
  intro ρ11 w11 hN hf hr
  have h16 := hv hf 1 rfl rfl
  have h3 := (hr 3 rfl).trans h3
  have hW := hW.trans hN
  refine WP.cond rfl h16 (fun hb => ?_) (fun hb => ?_)
  · have hF := (if_pos hb).symm.trans hF
    refine WP.seq (WP.rb mixed [[]] [[]] [(2, .string str6)] (by kernel_rfl) ⟨aC rfl rfl (fun _ => rfl), trivial⟩ ?_)
    intro ρ12 w12 hN hf hr
    have h2 := hv hf 0 rfl rfl
    have hW := hW.trans hN
    refine WP.ret ?_
    show retQ Try.prog 26 Try.f63 (fun v w1 => v = .string r ∧ Ext noG w0 w1) .ret ρ12 w12
    obtain rfl := Option.some.inj hF
    exact res1 rfl (by decide) h2 ⟨rfl, hW⟩
  have hF := (if_neg (Bool.eq_false_iff.1 hb)).symm.trans hF
  refine WP.seq (WP.rb mixed [[], [0]] [[3], []] [(19, .bool (kind_ == 10)), (18, .bool (kind_ == 10))] (by kernel_rfl) ⟨fun ρz wz hE hA ⟨e3, _⟩ _ => core_val rfl rfl (o_eql (e3.trans h3) rfl rfl),
 aU rfl rfl rfl, trivial⟩ ?_)
  intro ρ13 w13 hN hf hr
  have h18 := hv hf 1 rfl rfl
  have h3 := (hr 3 rfl).trans h3
  have hW := hW.trans hN
  refine WP.cond rfl h18 (fun hb => ?_) (fun hb => ?_)
  · have hF := (if_pos hb).symm.trans hF
    refine WP.seq (WP.rb mixed [[]] [[]] [(2, .string str7)] (by kernel_rfl) ⟨aC rfl rfl (fun _ => rfl), trivial⟩ ?_)
    intro ρ14 w14 hN hf hr
    have h2 := hv hf 0 rfl rfl
    have hW := hW.trans hN
    refine WP.ret ?_
    show retQ Try.prog 26 Try.f63 (fun v w1 => v = .string r ∧ Ext noG w0 w1) .ret ρ14 w14
    obtain rfl := Option.some.inj hF
    exact res1 rfl (by decide) h2 ⟨rfl, hW⟩
  have hF := (if_neg (Bool.eq_false_iff.1 hb)).symm.trans hF
  refine WP.seqJ (fun ρ w => ∃ x3 : Bool, ρ 3 = .int .i64 kind_ ∧ ρ 20 = .bool x3 ∧ Ext noG w0 w ∧ fact_Uses_j3 kind_ x3 = some r) ?_ ?_
  · refine WP.seq (WP.rb mixed [[], [0]] [[3], []] [(21, .bool (kind_ == 11)), (20, .bool (kind_ == 11))] (by kernel_rfl) ⟨fun ρz wz hE hA ⟨e3, _⟩ _ => core_val rfl rfl (o_eql (e3.trans h3) rfl rfl),
 aU rfl rfl rfl, trivial⟩ ?_)
    intro ρ20 w20 hN hf hr
    have h20 := hv hf 1 rfl rfl
    have h3 := (hr 3 rfl).trans h3
    have hW := hW.trans hN
    refine WP.cond rfl h20 (fun hb => ?_) (fun hb => ?_)
    · have hF := (if_pos hb).symm.trans hF
      refine WP.skip ?_
      exact ⟨(kind_ == 11), h3, h20, hW, hF⟩
    have hF := (if_neg (Bool.eq_false_iff.1 hb)).symm.trans hF
    refine WP.seq (WP.rb mixed [[], [0]] [[3], []] [(22, .bool (kind_ == 12)), (20, .bool (kind_ == 12))] (by kernel_rfl) ⟨fun ρz wz hE hA ⟨e3, _⟩ _ => core_val rfl rfl (o_eql (e3.trans h3) rfl rfl),
 aU rfl rfl rfl, trivial⟩ ?_)
    intro ρ21 w21 hN hf hr
    have h20 := hv hf 1 rfl rfl
    have h3 := (hr 3 rfl).trans h3
    have hW := hW.trans hN
    refine WP.cond rfl h20 (fun hb => ?_) (fun hb => ?_)
    · have hF := (if_pos hb).symm.trans hF
      refine WP.skip ?_
      exact ⟨(kind_ == 12), h3, h20, hW, hF⟩
    have hF := (if_neg (Bool.eq_false_iff.1 hb)).symm.trans hF
    refine WP.rb mixed [[], [0]] [[3], []] [(23, .bool (kind_ == 13)), (20, .bool (kind_ == 13))] (by kernel_rfl) ⟨fun ρz wz hE hA ⟨e3, _⟩ _ => core_val rfl rfl (o_eql (e3.trans h3) rfl rfl),
 aU rfl rfl rfl, trivial⟩ ?_
    intro ρ22 w22 hN hf hr
    have h20 := hv hf 1 rfl rfl
    have h3 := (hr 3 rfl).trans h3
    have hW := hW.trans hN
    exact ⟨(kind_ == 13), h3, h20, hW, hF⟩
  rintro ρ15 w15 ⟨x3, h3, h20, hW, hF⟩
  rw [fact_Uses_j3] at hF
  refine WP.cond rfl h20 (fun hb => ?_) (fun hb => ?_)
  · have hF := (if_pos hb).symm.trans hF
    refine WP.seq (WP.rb mixed [[]] [[]] [(2, .string str8)] (by kernel_rfl) ⟨aC rfl rfl (fun _ => rfl), trivial⟩ ?_)
    intro ρ16 w16 hN hf hr
    have h2 := hv hf 0 rfl rfl
    have hW := hW.trans hN
    refine WP.ret ?_
    show retQ Try.prog 26 Try.f63 (fun v w1 => v = .string r ∧ Ext noG w0 w1) .ret ρ16 w16
    obtain rfl := Option.some.inj hF
    exact res1 rfl (by decide) h2 ⟨rfl, hW⟩
  have hF := (if_neg (Bool.eq_false_iff.1 hb)).symm.trans hF
  refine WP.seq (WP.rb mixed [[], [0]] [[3], []] [(25, .bool (kind_ == 14)), (24, .bool (kind_ == 14))] (by kernel_rfl) ⟨fun ρz wz hE hA ⟨e3, _⟩ _ => core_val rfl rfl (o_eql (e3.trans h3) rfl rfl),
 aU rfl rfl rfl, trivial⟩ ?_)
  intro ρ17 w17 hN hf hr
  have h24 := hv hf 1 rfl rfl
  have hW := hW.trans hN
  refine WP.cond rfl h24 (fun hb => ?_) (fun hb => ?_)
  · have hF := (if_pos hb).symm.trans hF
    refine WP.seq (WP.rb mixed [[]] [[]] [(2, .string str9)] (by kernel_rfl) ⟨aC rfl rfl (fun _ => rfl), trivial⟩ ?_)
    intro ρ18 w18 hN hf hr
    have h2 := hv hf 0 rfl rfl
    have hW := hW.trans hN
    refine WP.ret ?_
    show retQ Try.prog 26 Try.f63 (fun v w1 => v = .string r ∧ Ext noG w0 w1) .ret ρ18 w18
    obtain rfl := Option.some.inj hF
    exact res1 rfl (by decide) h2 ⟨rfl, hW⟩
  have hF := (if_neg (Bool.eq_false_iff.1 hb)).symm.trans hF
  refine WP.skip (WP.seq (WP.rb mixed [[]] [[]] [(2, .string str1)] (by kernel_rfl) ⟨aC rfl rfl (fun _ => rfl), trivial⟩ ?_))
  intro ρ19 w19 hN hf hr
  have h2 := hv hf 0 rfl rfl
  have hW := hW.trans hN
  refine WP.ret ?_
  show retQ Try.prog 26 Try.f63 (fun v w1 => v = .string r ∧ Ext noG w0 w1) .ret ρ19 w19
  obtain rfl := Option.some.inj hF
  exact res1 rfl (by decide) h2 ⟨rfl, hW⟩

set_option maxHeartbeats 4000000 in
theorem stringslite_IndexByte_ok {w0 : World} (s_ : ByteArray) (c_ : Int) {r : Int} (hF : stringslite_IndexByte s_ c_ = some r) :
    Calls Try.prog 100 #[.string s_, .int .u8 c_] w0 fun e w1 => e = .returned (.int .i64 r) ∧ Ext noG w0 w1 := by
  refine (Calls.start (P := Try.prog) (args := [.string s_, .int .u8 c_]) (R := fun v w1 => v = .int .i64 r ∧ Ext noG w0 w1) (n := 8) (w := w0) Try.func100 rfl rfl (Nat.le_of_ble_eq_true rfl) (fun ρ hargs => ?_)).mono (fun e w1 ⟨v, he, hv, hE⟩ => ⟨hv ▸ he, hE⟩)
  have h0 := hargs 0 _ rfl
  have h1 := hargs 1 _ rfl
  have hW := Ext.refl noG w0
  rw [stringslite_IndexByte] at hF
  refine WP.seq (WP.rb mixed [[]] [[]] [(4, .int .i64 0)] (by kernel_rfl) ⟨aC rfl rfl (fun _ => rfl), trivial⟩ ?_)
  intro ρ1 w1 hN hf hr
  obtain ⟨h0, h1⟩ := k2 hr h0 h1 rfl
  have hW := hW.trans hN
  refine WP.seq ?_
  cases hF

set_option maxHeartbeats 4000000 in
theorem bytealg_Cutover_ok {w0 : World} (n_ : Int) {r : Int} (hF : bytealg_Cutover n_ = some r) :
    Calls Try.prog 102 #[.int .i64 n_] w0 fun e w1 => e = .returned (.int .i64 r) ∧ Ext noG w0 w1 := by
  refine (Calls.start (P := Try.prog) (args := [.int .i64 n_]) (R := fun v w1 => v = .int .i64 r ∧ Ext noG w0 w1) (n := 6) (w := w0) Try.func102 rfl rfl (Nat.le_of_ble_eq_true rfl) (fun ρ hargs => ?_)).mono (fun e w1 ⟨v, he, hv, hE⟩ => ⟨hv ▸ he, hE⟩)
  have h0 := hargs 0 _ rfl
  have hW := Ext.refl noG w0
  rw [bytealg_Cutover] at hF
  refine WP.seq (WP.rb mixed [[]] [[]] [(2, .int .i64 0)] (by kernel_rfl) ⟨aC rfl rfl (fun _ => rfl), trivial⟩ ?_)
  intro ρ1 w1 hN hf hr
  have h0 := (hr 0 rfl).trans h0
  have hW := hW.trans hN
  refine WP.seq (WP.rb mixed [[], [0], [1], [2]] [[0], [], [], []] [(3, .int .i64 n_), (4, .int .i64 (i64 (n_ + 16))), (5, .int .i64 (i64 (Int.tdiv (i64 (n_ + 16)) 8))), (2, .int .i64 (i64 (Int.tdiv (i64 (n_ + 16)) 8)))] (by kernel_rfl) ⟨mE rfl rfl h0,
 fun ρz wz hE hA _ ⟨u0, _⟩ => core_val rfl rfl (o_add u0 rfl rfl),
 fun ρz wz hE hA _ ⟨u1, _⟩ => core_val rfl rfl (o_quo u1 rfl (by decide) rfl),
 aU rfl rfl rfl, trivial⟩ ?_)
  intro ρ2 w2 hN hf hr
  have h2 := hv hf 3 rfl rfl
  have hW := hW.trans hN
  refine WP.ret ?_
  show retQ Try.prog 6 Try.f102 (fun v w1 => v = .int .i64 r ∧ Ext noG w0 w1) .ret ρ2 w2
  obtain rfl := Option.some.inj hF
  exact res1 rfl (by decide) h2 ⟨rfl, hW⟩

set_option maxHeartbeats 4000000 in
theorem bytealg_hashStr_of_string_ok {w0 : World} (sep_ : ByteArray) {r : Int × Int} (hF : bytealg_hashStr_of_string sep_ = some r) :
    Calls Try.prog 105 #[.string sep_] w0 fun e w1 => e = .returned (.tuple #[.int .u32 r.1, .int .u32 r.2]) ∧ Ext noG w0 w1 := by
  refine (Calls.start (P := Try.prog) (args := [.string sep_]) (R := fun v w1 => v = .tuple #[.int .u32 r.1, .int .u32 r.2] ∧ Ext noG w0 w1) (n := 39) (w := w0) Try.func105 rfl rfl (Nat.le_of_ble_eq_true rfl) (fun ρ hargs => ?_)).mono (fun e w1 ⟨v, he, hv, hE⟩ => ⟨hv ▸ he, hE⟩)
  have h0 := hargs 0 _ rfl
  have hW := Ext.refl noG w0
  rw [bytealg_hashStr_of_string] at hF
  refine WP.seq (WP.rb mixed [[], []] [[], []] [(2, .int .u32 0), (3, .int .u32 0)] (by kernel_rfl) ⟨aC rfl rfl (fun _ => rfl),
 aC rfl rfl (fun _ => rfl), trivial⟩ ?_)
  intro ρ1 w1 hN hf hr
  have h0 := (hr 0 rfl).trans h0
  have hW := hW.trans hN
  refine WP.seq (WP.rb mixed [[]] [[]] [(4, .int .u32 0)] (by kernel_rfl) ⟨aC rfl rfl (fun _ => rfl), trivial⟩ ?_)
  intro ρ2 w2 hN hf hr
  have h4 := hv hf 0 rfl rfl
  have h0 := (hr 0 rfl).trans h0
  have hW := hW.trans hN
  refine WP.seq (WP.seq (WP.rb mixed [[]] [[]] [(5, .int .i64 0)] (by kernel_rfl) ⟨aC rfl rfl (fun _ => rfl), trivial⟩ ?_))
  intro ρ3 w3 hN hf hr
  have h5 := hv hf 0 rfl rfl
  obtain ⟨h0, h4⟩ := k2 hr h0 h4 rfl
  have hW := hW.trans hN
  refine WP.block (WP.loop (fun k_ ρ w => ∃ hash_ : Int, ∃ i_ : Int, ρ 0 = .string sep_ ∧ ρ 4 = .int .u32 hash_ ∧ ρ 5 = .int .i64 i_ ∧ Ext noG w0 w ∧ loopC k_ (bytealg_hashStr_of_string_l sep_) (hash_, i_) = some r) FU ⟨0, 0, h0, h4, h5, hW, hF⟩ (fun _ _ h => by obtain ⟨_, _, _, _, _, _, h⟩ := h; cases h) ?_)
  rintro k_ ρ4 w4 ⟨hash_, i_, h0, h4, h5, hW, hF⟩
  have hF : bytealg_hashStr_of_string_l sep_ (loopC k_ (bytealg_hashStr_of_string_l sep_)) (hash_, i_) = some r := hF
  generalize hrec_ : loopC k_ (bytealg_hashStr_of_string_l sep_) = rec_ at hF
  rw [bytealg_hashStr_of_string_l] at hF
  refine WP.seq (WP.seq (WP.rb mixed [[], [], [1], [0, 2]] [[5], [0], [], []] [(9, .int .i64 i_), (10, .string sep_), (11, .int .i64 (sep_.size : Int)), (12, .bool (decide (i_ < (sep_.size : Int))))] (by kernel_rfl) ⟨mE rfl rfl h5,
 mE rfl rfl h0,
 fun ρz wz hE hA _ ⟨u1, _⟩ => core_val rfl rfl (o_len u1 len_9),
 fun ρz wz hE hA _ ⟨u0, u2, _⟩ => core_val rfl rfl (o_lss u0 u2 rfl), trivial⟩ ?_))
  intro ρ5 w5 hN hf hr
  have h12 := hv hf 3 rfl rfl
  obtain ⟨h0, h4, h5⟩ := k3 hr h0 h4 h5 rfl
  have hW := hW.trans hN
  refine WP.cond rfl h12 (fun hb => ?_) (fun hb => ?_)
  · have hF := (if_pos hb).symm.trans hF
    refine WP.skip (WP.seq (WP.block ?_))
    obtain ⟨y, hy, hF⟩ := obind hF
    refine WP.rv mixed [[], [0], [], [], [2, 3], [4], [1, 5], [0, 6]] [[], [0], [], [], [2, 3], [4], [1, 5], [6]] [[4], [], [0], [5], [], [], [], []] [(15, .int .u32 hash_), (16, .int .u32 ((IntKind.u32.wrap) (hash_ * 16777619))), (17, .string sep_), (18, .int .i64 i_), (19, .int .u8 y), (20, .int .u32 ((IntKind.u32.wrap) y)), (21, .int .u32 ((IntKind.u32.wrap) ((IntKind.u32.wrap) (hash_ * 16777619) + ((IntKind.u32.wrap) y)))), (4, .int .u32 ((IntKind.u32.wrap) ((IntKind.u32.wrap) (hash_ * 16777619) + ((IntKind.u32.wrap) y))))] (by kernel_rfl) ⟨mE rfl rfl h4,
 fun ρz wz hE hA _ ⟨u0, _⟩ => core_val rfl rfl (o_mul u0 rfl rfl),
 mE rfl rfl h0,
 mE rfl rfl h5,
 fun ρz wz hE hA _ ⟨u2, u3, _⟩ => core_val rfl rfl (o_index u2 u3 (by kernel_rfl) hy),
 fun ρz wz hE hA _ ⟨u4, _⟩ => core_val rfl rfl (o_conv u4 (cv_5_99 _ _)),
 fun ρz wz hE hA _ ⟨u1, u5, _⟩ => core_val rfl rfl (o_add u1 u5 rfl),
 aU rfl rfl rfl, trivial⟩ ?_
    intro ρ6 w6 hN hf hr
    have h4 := hv hf 7 rfl rfl
    obtain ⟨h0, h5⟩ := k2 hr h0 h5 rfl
    have hW := hW.trans hN
    refine WP.rv mixed [[], [0], [0, 1]] [[], [0], [1]] [[5], [], []] [(13, .int .i64 i_), (14, .int .i64 (i64 (i_ + 1))), (5, .int .i64 (i64 (i_ + 1)))] (by kernel_rfl) ⟨mE rfl rfl h5,
 fun ρz wz hE hA _ ⟨u0, _⟩ => core_val rfl rfl (o_add u0 rfl rfl),
 aU rfl rfl rfl, trivial⟩ ?_
    intro ρ7 w7 hN hf hr
    have h5 := hv hf 2 rfl rfl
    obtain ⟨h0, h4⟩ := k2 hr h0 h4 rfl
    have hW := hW.trans hN
    exact ⟨(IntKind.u32.wrap) ((IntKind.u32.wrap) (hash_ * 16777619) + ((IntKind.u32.wrap) y)), i64 (i_ + 1), h0, h4, h5, hW, (by first | exact hF | (rw [hrec_]; exact hF))⟩
  have hF := (if_neg (Bool.eq_false_iff.1 hb)).symm.trans hF
  refine WP.exit (thenQ_exit (thenQ_exit (blockQ_hit (WP.seq (WP.rb mixed [[], []] [[], []] [(6, .int .u32 1), (7, .int .u32 16777619)] (by kernel_rfl) ⟨aC rfl rfl (fun _ => rfl),
 aC rfl rfl (fun _ => rfl), trivial⟩ ?_)))))
  intro ρ8 w8 hN hf hr
  have h6 := hv hf 0 rfl rfl
  have h7 := hv hf 1 rfl rfl
  obtain ⟨h0, h4⟩ := k2 hr h0 h4 rfl
  have hW := hW.trans hN
  refine WP.seq (WP.seq (WP.rb mixed [[], [0], [1]] [[0], [], []] [(22, .string sep_), (23, .int .i64 (sep_.size : Int)), (8, .int .i64 (sep_.size : Int))] (by kernel_rfl) ⟨mE rfl rfl h0,
 fun ρz wz hE hA _ ⟨u0, _⟩ => core_val rfl rfl (o_len u0 len_9),
 aU rfl rfl rfl, trivial⟩ ?_))
  intro ρ9 w9 hN hf hr
  have h8 := hv hf 2 rfl rfl
  obtain ⟨h4, h6, h7⟩ := k3 hr h4 h6 h7 rfl
  have hW := hW.trans hN
  refine WP.block (WP.loop (fun k_2 ρ w => ∃ pow_ : Int, ∃ sq_ : Int, ∃ i_2 : Int, ρ 4 = .int .u32 hash_ ∧ ρ 6 = .int .u32 pow_ ∧ ρ 7 = .int .u32 sq_ ∧ ρ 8 = .int .i64 i_2 ∧ Ext noG w0 w ∧ loopC k_2 (bytealg_hashStr_of_string_l2 hash_) (pow_, sq_, i_2) = some r) FU ⟨1, 16777619, (sep_.size : Int), h4, h6, h7, h8, hW, hF⟩ (fun _ _ h => by obtain ⟨_, _, _, _, _, _, _, _, h⟩ := h; cases h) ?_)
  rintro k_2 ρ10 w10 ⟨pow_, sq_, i_2, h4, h6, h7, h8, hW, hF⟩
  have hF : bytealg_hashStr_of_string_l2 hash_ (loopC k_2 (bytealg_hashStr_of_string_l2 hash_)) (pow_, sq_, i_2) = some r := hF
  generalize hrec_2 : loopC k_2 (bytealg_hashStr_of_string_l2 hash_) = rec_2 at hF
  rw [bytealg_hashStr_of_string_l2] at hF
  refine WP.seq (WP.seq (WP.rb mixed [[], [0]] [[8], []] [(24, .int .i64 i_2), (25, .bool (decide (0 < i_2)))] (by kernel_rfl) ⟨mE rfl rfl h8,
 fun ρz wz hE hA _ ⟨u0, _⟩ => core_val rfl rfl (o_gtr u0 rfl rfl), trivial⟩ ?_))
  intro ρ11 w11 hN hf hr
  have h25 := hv hf 1 rfl rfl
  obtain ⟨h4, h6, h7, h8⟩ := k4 hr h4 h6 h7 h8 rfl
  have hW := hW.trans hN
  refine WP.cond rfl h25 (fun hb => ?_) (fun hb => ?_)
  · have hF := (if_pos hb).symm.trans hF
    refine WP.skip (WP.seq (WP.block (WP.seqJ (fun ρ w => ∃ pow_2 : Int, ρ 4 = .int .u32 hash_ ∧ ρ 6 = .int .u32 pow_2 ∧ ρ 7 = .int .u32 sq_ ∧ ρ 8 = .int .i64 i_2 ∧ Ext noG w0 w ∧ bytealg_hashStr_of_string_j sq_ i_2 rec_2 pow_2 = some r) ?_ ?_)))
    · refine WP.seq (WP.rb mixed [[], [0], [1]] [[8], [], []] [(28, .int .i64 i_2), (29, .int .i64 (andK .i64 i_2 1)), (30, .bool (andK .i64 i_2 1 != 0))] (by kernel_rfl) ⟨mE rfl rfl h8,
 fun ρz wz hE hA _ ⟨u0, _⟩ => core_val rfl rfl (o_and u0 rfl rfl),
 fun ρz wz hE hA _ ⟨u1, _⟩ => core_val rfl rfl (o_neq u1 rfl rfl), trivial⟩ ?_)
      intro ρ15 w15 hN hf hr
      have h30 := hv hf 2 rfl rfl
      obtain ⟨h4, h6, h7, h8⟩ := k4 hr h4 h6 h7 h8 rfl
      have hW := hW.trans hN
      refine WP.cond rfl h30 (fun hb => ?_) (fun hb => ?_)
      · have hF := (if_pos hb).symm.trans hF
        refine WP.rv mixed [[], [], [0, 1], [0, 2]] [[], [], [0, 1], [2]] [[6], [7], [], []] [(31, .int .u32 pow_), (32, .int .u32 sq_), (33, .int .u32 ((IntKind.u32.wrap) (pow_ * sq_))), (6, .int .u32 ((IntKind.u32.wrap) (pow_ * sq_)))] (by kernel_rfl) ⟨mE rfl rfl h6,
 mE rfl rfl h7,
 fun ρz wz hE hA _ ⟨u0, u1, _⟩ => core_val rfl rfl (o_mul u0 u1 rfl),
 aU rfl rfl rfl, trivial⟩ ?_
        intro ρ16 w16 hN hf hr
        have h6 := hv hf 3 rfl rfl
        obtain ⟨h4, h7, h8⟩ := k3 hr h4 h7 h8 rfl
        have hW := hW.trans hN
        exact ⟨(IntKind.u32.wrap) (pow_ * sq_), h4, h6, h7, h8, hW, hF⟩
      have hF := (if_neg (Bool.eq_false_iff.1 hb)).symm.trans hF
      refine WP.skip ?_
      exact ⟨pow_, h4, h6, h7, h8, hW, hF⟩
    rintro ρ12 w12 ⟨pow_2, h4, h6, h7, h8, hW, hF⟩
    rw [bytealg_hashStr_of_string_j] at hF
    refine WP.rv mixed [[], [], [0, 1], [0, 1, 2]] [[], [], [0, 1], [2]] [[7], [7], [], []] [(34, .int .u32 sq_), (35, .int .u32 sq_), (36, .int .u32 ((IntKind.u32.wrap) (sq_ * sq_))), (7, .int .u32 ((IntKind.u32.wrap) (sq_ * sq_)))] (by kernel_rfl) ⟨mE rfl rfl h7,
 mE rfl rfl h7,
 fun ρz wz hE hA _ ⟨u0, u1, _⟩ => core_val rfl rfl (o_mul u0 u1 rfl),
 aU rfl rfl rfl, trivial⟩ ?_
    intro ρ13 w13 hN hf hr
    have h7 := hv hf 3 rfl rfl
    obtain ⟨h4, h6, h8⟩ := k3 hr h4 h6 h8 rfl
    have hW := hW.trans hN
    refine WP.rv mixed [[], [0], [0, 1]] [[], [0], [1]] [[8], [], []] [(26, .int .i64 i_2), (27, .int .i64 (shrK .i64 i_2 1)), (8, .int .i64 (shrK .i64 i_2 1))] (by kernel_rfl) ⟨mE rfl rfl h8,
 fun ρz wz hE hA _ ⟨u0, _⟩ => core_val rfl rfl (o_shr u0 rfl (by decide) rfl),
 aU rfl rfl rfl, trivial⟩ ?_
    intro ρ14 w14 hN hf hr
    have h8 := hv hf 2 rfl rfl
    obtain ⟨h4, h6, h7⟩ := k3 hr h4 h6 h7 rfl
    have hW := hW.trans hN
    exact ⟨pow_2, (IntKind.u32.wrap) (sq_ * sq_), shrK .i64 i_2 1, h4, h6, h7, h8, hW, (by first | exact hF | (rw [hrec_2]; exact hF))⟩
  have hF := (if_neg (Bool.eq_false_iff.1 hb)).symm.trans hF
  refine WP.exit (thenQ_exit (thenQ_exit (blockQ_hit (WP.seq (WP.rb mixed [[], [], [0], [1]] [[4], [6], [], []] [(37, .int .u32 hash_), (38, .int .u32 pow_), (2, .int .u32 hash_), (3, .int .u32 pow_)] (by kernel_rfl) ⟨mE rfl rfl h4,
 mE rfl rfl h6,
 aU rfl rfl rfl,
 aU rfl rfl rfl, trivial⟩ ?_)))))
  intro ρ17 w17 hN hf hr
  have h2 := hv hf 2 rfl rfl
  have h3 := hv hf 3 rfl rfl
  have hW := hW.trans hN
  refine WP.ret ?_
  show retQ Try.prog 39 Try.f105 (fun v w1 => v = .tuple #[.int .u32 r.1, .int .u32 r.2] ∧ Ext noG w0 w1) .ret ρ17 w17
  obtain rfl := Option.some.inj hF
  exact res2 rfl (by decide) (by decide) h2 h3 ⟨rfl, hW⟩

set_option maxHeartbeats 4000000 in
theorem bytealg_IndexRabinKarp_of_string_ok {w0 : World} (d_ : ByteArray) (i_ : ByteArray) {r : Int} (hF : bytealg_IndexRabinKarp_of_string d_ i_ = some r) :
    Calls Try.prog 103 #[.string d_, .string i_] w0 fun e w1 => e = .returned (.int .i64 r) ∧ Ext noG w0 w1 := by
  refine (Calls.start (P := Try.prog) (args := [.string d_, .string i_]) (R := fun v w1 => v = .int .i64 r ∧ Ext noG w0 w1) (n := 81) (w := w0) Try.func103 rfl rfl (Nat.le_of_ble_eq_true rfl) (fun ρ hargs => ?_)).mono (fun e w1 ⟨v, he, hv, hE⟩ => ⟨hv ▸ he, hE⟩)
  have h0 := hargs 0 _ rfl
  have h1 := hargs 1 _ rfl
  have hW := Ext.refl noG w0
  rw [bytealg_IndexRabinKarp_of_string] at hF
  refine WP.seq (WP.rb mixed [[]] [[]] [(4, .int .i64 0)] (by kernel_rfl) ⟨aC rfl rfl (fun _ => rfl), trivial⟩ ?_)
  intro ρ1 w1 hN hf hr
  obtain ⟨h0, h1⟩ := k2 hr h0 h1 rfl
  have hW := hW.trans hN
  refine WP.seq ?_
  obtain ⟨z, hz, hF⟩ := obind hF
  refine WP.rb mixed [[], [0], [1], [2], [2], [3], [4]] [[1], [], [], [], [], [], []] [(12, .string i_), (13, .tuple #[.int .u32 z.1, .int .u32 z.2]), (11, .tuple #[.int .u32 z.1, .int .u32 z.2]), (14, .int .u32 z.1), (15, .int .u32 z.2), (5, .int .u32 z.1), (6, .int .u32 z.2)] (by kernel_rfl) ⟨mE rfl rfl h1,
 fun ρz wz hE hA _ ⟨u0, _⟩ => core_call rfl (call_args1 u0) cf_105 (bytealg_hashStr_of_string_ok  _  hz),
 mU rfl rfl rfl,
 fun ρz wz hE hA _ ⟨u2, _⟩ => core_val rfl rfl (o_extract u2 (by kernel_rfl)),
 fun ρz wz hE hA _ ⟨u2, _⟩ => core_val rfl rfl (o_extract u2 (by kernel_rfl)),
 aU rfl rfl rfl,
 aU rfl rfl rfl, trivial⟩ ?_
  intro ρ2 w2 hN hf hr
  have h5 := hv hf 5 rfl rfl
  have h6 := hv hf 6 rfl rfl
  obtain ⟨h0, h1⟩ := k2 hr h0 h1 rfl
  have hW := hW.trans hN
  refine WP.seq (WP.rb mixed [[], [0], [1]] [[1], [], []] [(16, .string i_), (17, .int .i64 (i_.size : Int)), (7, .int .i64 (i_.size : Int))] (by kernel_rfl) ⟨mE rfl rfl h1,
 fun ρz wz hE hA _ ⟨u0, _⟩ => core_val rfl rfl (o_len u0 len_9),
 aU rfl rfl rfl, trivial⟩ ?_)
  intro ρ3 w3 hN hf hr
  have h7 := hv hf 2 rfl rfl
  obtain ⟨h0, h1, h5, h6⟩ := k4 hr h0 h1 h5 h6 rfl
  have hW := hW.trans hN
  refine WP.seq (WP.rb mixed [[]] [[]] [(8, .int .u32 0)] (by kernel_rfl) ⟨aC rfl rfl (fun _ => rfl), trivial⟩ ?_)
  intro ρ4 w4 hN hf hr
  have h8 := hv hf 0 rfl rfl
  obtain ⟨h0, h1, h5, h6, h7⟩ := k5 hr h0 h1 h5 h6 h7 rfl
  have hW := hW.trans hN
  refine WP.seq (WP.seq (WP.rb mixed [[]] [[]] [(9, .int .i64 0)] (by kernel_rfl) ⟨aC rfl rfl (fun _ => rfl), trivial⟩ ?_))
  intro ρ5 w5 hN hf hr
  have h9 := hv hf 0 rfl rfl
  obtain ⟨h0, h1, h5, h6, h7, h8⟩ := k6 hr h0 h1 h5 h6 h7 h8 rfl
  have hW := hW.trans hN
  refine WP.block (WP.loop (fun k_ ρ w => ∃ x : Int, ∃ x2 : Int, ρ 0 = .string d_ ∧ ρ 1 = .string i_ ∧ ρ 5 = .int .u32 z.1 ∧ ρ 6 = .int .u32 z.2 ∧ ρ 7 = .int .i64 (i_.size : Int) ∧ ρ 8 = .int .u32 x ∧ ρ 9 = .int .i64 x2 ∧ Ext noG w0 w ∧ loopC k_ (bytealg_IndexRabinKarp_of_string_l d_ i_) (x, x2) = some r) FU ⟨0, 0, h0, h1, h5, h6, h7, h8, h9, hW, hF⟩ (fun _ _ h => by obtain ⟨_, _, _, _, _, _, _, _, _, _, h⟩ := h; cases h) ?_)
  rintro k_ ρ6 w6 ⟨x, x2, h0, h1, h5, h6, h7, h8, h9, hW, hF⟩
  have hF : bytealg_IndexRabinKarp_of_string_l d_ i_ (loopC k_ (bytealg_IndexRabinKarp_of_string_l d_ i_)) (x, x2) = some r := hF
  generalize hrec_ : loopC k_ (bytealg_IndexRabinKarp_of_string_l d_ i_) = rec_ at hF
  rw [bytealg_IndexRabinKarp_of_string_l] at hF
  refine WP.seq (WP.seq (WP.rb mixed [[], [], [0, 1]] [[9], [7], []] [(18, .int .i64 x2), (19, .int .i64 (i_.size : Int)), (20, .bool (decide (x2 < (i_.size : Int))))] (by kernel_rfl) ⟨mE rfl rfl h9,
 mE rfl rfl h7,
 fun ρz wz hE hA _ ⟨u0, u1, _⟩ => core_val rfl rfl (o_lss u0 u1 rfl), trivial⟩ ?_))
  intro ρ7 w7 hN hf hr
  have h20 := hv hf 2 rfl rfl
  obtain ⟨h0, h1, h5, h6, h7, h8⟩ := k6 hr h0 h1 h5 h6 h7 h8 rfl
  have h9 := (hr 9 rfl).trans h9
  have hW := hW.trans hN
  refine WP.cond rfl h20 (fun hb => ?_) (fun hb => ?_)
  · have hF := (if_pos hb).symm.trans hF
    refine WP.skip (WP.seq (WP.block ?_))
    obtain ⟨y, hy, hF⟩ := obind hF
    refine WP.rv mixed [[], [0], [], [], [2, 3], [4], [1, 5], [0, 6]] [[], [0], [], [], [2, 3], [4], [1, 5], [6]] [[8], [], [0], [9], [], [], [], []] [(23, .int .u32 x), (24, .int .u32 ((IntKind.u32.wrap) (x * 16777619))), (25, .string d_), (26, .int .i64 x2), (27, .int .u8 y), (28, .int .u32 ((IntKind.u32.wrap) y)), (29, .int .u32 ((IntKind.u32.wrap) ((IntKind.u32.wrap) (x * 16777619) + ((IntKind.u32.wrap) y)))), (8, .int .u32 ((IntKind.u32.wrap) ((IntKind.u32.wrap) (x * 16777619) + ((IntKind.u32.wrap) y))))] (by kernel_rfl) ⟨mE rfl rfl h8,
 fun ρz wz hE hA _ ⟨u0, _⟩ => core_val rfl rfl (o_mul u0 rfl rfl),
 mE rfl rfl h0,
 mE rfl rfl h9,
 fun ρz wz hE hA _ ⟨u2, u3, _⟩ => core_val rfl rfl (o_index u2 u3 (by kernel_rfl) hy),
 fun ρz wz hE hA _ ⟨u4, _⟩ => core_val rfl rfl (o_conv u4 (cv_5_99 _ _)),
 fun ρz wz hE hA _ ⟨u1, u5, _⟩ => core_val rfl rfl (o_add u1 u5 rfl),
 aU rfl rfl rfl, trivial⟩ ?_
    intro ρ8 w8 hN hf hr
    have h8 := hv hf 7 rfl rfl
    obtain ⟨h0, h1, h5, h6, h7, h9⟩ := k6 hr h0 h1 h5 h6 h7 h9 rfl
    have hW := hW.trans hN
    refine WP.rv mixed [[], [0], [0, 1]] [[], [0], [1]] [[9], [], []] [(21, .int .i64 x2), (22, .int .i64 (i64 (x2 + 1))), (9, .int .i64 (i64 (x2 + 1)))] (by kernel_rfl) ⟨mE rfl rfl h9,
 fun ρz wz hE hA _ ⟨u0, _⟩ => core_val rfl rfl (o_add u0 rfl rfl),
 aU rfl rfl rfl, trivial⟩ ?_
    intro ρ9 w9 hN hf hr
    have h9 := hv hf 2 rfl rfl
    obtain ⟨h0, h1, h5, h6, h7, h8⟩ := k6 hr h0 h1 h5 h6 h7 h8 rfl
    have hW := hW.trans hN
    exact ⟨(IntKind.u32.wrap) ((IntKind.u32.wrap) (x * 16777619) + ((IntKind.u32.wrap) y)), i64 (x2 + 1), h0, h1, h5, h6, h7, h8, h9, hW, (by first | exact hF | (rw [hrec_]; exact hF))⟩
  have hF := (if_neg (Bool.eq_false_iff.1 hb)).symm.trans hF
  refine WP.exit (thenQ_exit (thenQ_exit (blockQ_hit (WP.seq (WP.seq ?_)))))
  cases hF

set_option maxHeartbeats 4000000 in
theorem strings_Index_ok {w0 : World} (s_ : ByteArray) (substr_ : ByteArray) {r : Int} (hF : strings_Index s_ substr_ = some r) :
    Calls Try.prog 91 #[.string s_, .string substr_] w0 fun e w1 => e = .returned (.int .i64 r) ∧ Ext noG w0 w1 := by
  refine (Calls.start (P := Try.prog) (args := [.string s_, .string substr_]) (R := fun v w1 => v = .int .i64 r ∧ Ext noG w0 w1) (n := 8) (w := w0) Try.func91 rfl rfl (Nat.le_of_ble_eq_true rfl) (fun ρ hargs => ?_)).mono (fun e w1 ⟨v, he, hv, hE⟩ => ⟨hv ▸ he, hE⟩)
  have h0 := hargs 0 _ rfl
  have h1 := hargs 1 _ rfl
  have hW := Ext.refl noG w0
  rw [strings_Index] at hF
  refine WP.seq (WP.rb mixed [[]] [[]] [(4, .int .i64 0)] (by kernel_rfl) ⟨aC rfl rfl (fun _ => rfl), trivial⟩ ?_)
  intro ρ1 w1 hN hf hr
  obtain ⟨h0, h1⟩ := k2 hr h0 h1 rfl
  have hW := hW.trans hN
  refine WP.seq ?_
  cases hF

theorem strings_Contains_ok {w0 : World} (s_ sub_ : ByteArray) {r : Bool} (hF : strings_Contains s_ sub_ = some r) :
    Calls Try.prog 65 #[.string s_, .string sub_] w0 fun e w1 => e = .returned (.bool r) ∧ Ext noG w0 w1 := contains_calls Go.Proofs.Try.containsLay65 hF w0

set_option maxHeartbeats 4000000 in
theorem fact_Valid_1_ok {w0 : World} (letter_ : ByteArray) (c_ : ByteArray) {bc1_ : Nat} (Hb_bc1_ : Mb w0 bc1_ 9 [Value.string c_]) {r : Bool} (hF : fact_Valid_1 letter_ c_ = some r) :
    Calls Try.prog 64 #[.string letter_, .pointer (some ⟨bc1_, 0, none⟩)] w0 fun e w1 => e = .returned (.bool r) ∧ Ext noG w0 w1 := by
  refine (Calls.start (P := Try.prog) (args := [.string letter_, .pointer (some ⟨bc1_, 0, none⟩)]) (R := fun v w1 => v = .bool r ∧ Ext noG w0 w1) (n := 7) (w := w0) Try.func64 rfl rfl (Nat.le_of_ble_eq_true rfl) (fun ρ hargs => ?_)).mono (fun e w1 ⟨v, he, hv, hE⟩ => ⟨hv ▸ he, hE⟩)
  have h0 := hargs 0 _ rfl
  have h1 := hargs 1 _ rfl
  have hW := Ext.refl noG w0
  rw [fact_Valid_1] at hF
  refine WP.seq (WP.rb mixed [[]] [[]] [(3, .bool false)] (by kernel_rfl) ⟨aC rfl rfl (fun _ => rfl), trivial⟩ ?_)
  intro ρ1 w1 hN hf hr
  obtain ⟨h0, h1⟩ := k2 hr h0 h1 rfl
  have Hb_bc1_n := Hb_bc1_.exn hN
  have hW := hW.trans hN
  have Hb_bc1_ := Hb_bc1_n
  refine WP.seq ?_
  obtain ⟨z, hz, hF⟩ := obind hF
  refine WP.rb mixed [[], [], [0, 1], [2]] [[1], [0], [], []] [(4, .string c_), (5, .string letter_), (6, .bool z), (3, .bool z)] (by kernel_rfl) ⟨fun ρz wz hE hA ⟨e1, _⟩ _ => core_val rfl rfl (o_load (e1.trans h1) (run_load1 (lr_9 _ _) ((Hb_bc1_.exn (hA rfl)).ca))),
 mE rfl rfl h0,
 fun ρz wz hE hA _ ⟨u0, u1, _⟩ => core_call rfl (call_args2 u0 u1) cf_65 (strings_Contains_ok  _ _  hz),
 aU rfl rfl rfl, trivial⟩ ?_
  intro ρ2 w2 hN hf hr
  have h3 := hv hf 3 rfl rfl
  have hW := hW.trans hN
  refine WP.ret ?_
  show retQ Try.prog 7 Try.f64 (fun v w1 => v = .bool r ∧ Ext noG w0 w1) .ret ρ2 w2
  obtain rfl := Option.some.inj hF
  exact res1 rfl (by decide) h3 ⟨rfl, hW⟩

set_option maxHeartbeats 4000000 in
theorem fact_within_ok {w0 : World} (x_ : Int) (low_ : Int) (high_ : Int) {r : Bool} (hF : fact_within x_ low_ high_ = some r) :
    Calls Try.prog 66 #[.int .i64 x_, .int .i64 low_, .int .i64 high_] w0 fun e w1 => e = .returned (.bool r) ∧ Ext noG w0 w1 := by
  refine (Calls.start (P := Try.prog) (args := [.int .i64 x_, .int .i64 low_, .int .i64 high_]) (R := fun v w1 => v = .bool r ∧ Ext noG w0 w1) (n := 15) (w := w0) Try.func66 rfl rfl (Nat.le_of_ble_eq_true rfl) (fun ρ hargs => ?_)).mono (fun e w1 ⟨v, he, hv, hE⟩ => ⟨hv ▸ he, hE⟩)
  have h0 := hargs 0 _ rfl
  have h1 := hargs 1 _ rfl
  have h2 := hargs 2 _ rfl
  have hW := Ext.refl noG w0
  rw [fact_within] at hF
  refine WP.seq (WP.rb mixed [[]] [[]] [(6, .bool false)] (by kernel_rfl) ⟨aC rfl rfl (fun _ => rfl), trivial⟩ ?_)
  intro ρ1 w1 hN hf hr
  obtain ⟨h0, h1, h2⟩ := k3 hr h0 h1 h2 rfl
  have hW := hW.trans hN
  refine WP.seq (WP.rb mixed [[], [], [0, 1], [2], [3], [3], [3, 4, 5], [3, 6], [7]] [[0], [1], [], [], [0], [2], [], [], []] [(7, .int .i64 x_), (8, .int .i64 low_), (9, .bool (decide (low_ ≤ x_))), (10, .bool (decide (low_ ≤ x_))), (11, gv (decide (low_ ≤ x_)) (.int .i64 x_)), (12, gv (decide (low_ ≤ x_)) (.int .i64 high_)), (13, gv (decide (low_ ≤ x_)) (.bool (decide (x_ ≤ high_)))), (14, .bool (decide (low_ ≤ x_) && decide (x_ ≤ high_))), (6, .bool (decide (low_ ≤ x_) && decide (x_ ≤ high_)))] (by kernel_rfl) ⟨mE rfl rfl h0,
 mE rfl rfl h1,
 fun ρz wz hE hA _ ⟨u0, u1, _⟩ => core_val rfl rfl (o_geq u0 u1 rfl),
 mU rfl rfl rfl,
 fun ρz wz hE hA ⟨e0, _⟩ ⟨u3, _⟩ => gIf rfl rfl (yT rfl u3) fun gc F hF => core_val rfl hF (o_move (e0.trans h0)),
 fun ρz wz hE hA ⟨e2, _⟩ ⟨u3, _⟩ => gIf rfl rfl (yT rfl u3) fun gc F hF => core_val rfl hF (o_move (e2.trans h2)),
 fun ρz wz hE hA _ ⟨u3, u4, u5, _⟩ => gIf rfl rfl (yT rfl u3) fun gc F hF => core_val rfl hF (o_leq (gt gc u4) (gt gc u5) rfl),
 fun ρz wz hE hA _ ⟨u3, u6, _⟩ => core_val rfl rfl (o_pick_and u3 u6 rfl),
 aU rfl rfl rfl, trivial⟩ ?_)
  intro ρ2 w2 hN hf hr
  have h6 := hv hf 8 rfl rfl
  have hW := hW.trans hN
  refine WP.ret ?_
  show retQ Try.prog 15 Try.f66 (fun v w1 => v = .bool r ∧ Ext noG w0 w1) .ret ρ2 w2
  obtain rfl := Option.some.inj hF
  exact res1 rfl (by decide) h6 ⟨rfl, hW⟩

set_option maxHeartbeats 4000000 in
theorem fact_field_ok {w0 : World} (used_ : Bool) (x_ : Int) (low_ : Int) (high_ : Int) {r : Bool} (hF : fact_field used_ x_ low_ high_ = some r) :
    Calls Try.prog 67 #[.bool used_, .int .i64 x_, .int .i64 low_, .int .i64 high_] w0 fun e w1 => e = .returned (.bool r) ∧ Ext noG w0 w1 := by
  refine (Calls.start (P := Try.prog) (args := [.bool used_, .int .i64 x_, .int .i64 low_, .int .i64 high_]) (R := fun v w1 => v = .bool r ∧ Ext noG w0 w1) (n := 24) (w := w0) Try.func67 rfl rfl (Nat.le_of_ble_eq_true rfl) (fun ρ hargs => ?_)).mono (fun e w1 ⟨v, he, hv, hE⟩ => ⟨hv ▸ he, hE⟩)
  have h0 := hargs 0 _ rfl
  have h1 := hargs 1 _ rfl
  have h2 := hargs 2 _ rfl
  have h3 := hargs 3 _ rfl
  have hW := Ext.refl noG w0
  rw [fact_field] at hF
  refine WP.seq (WP.rb mixed [[]] [[]] [(8, .bool false)] (by kernel_rfl) ⟨aC rfl rfl (fun _ => rfl), trivial⟩ ?_)
  intro ρ1 w1 hN hf hr
  obtain ⟨h0, h1, h2, h3⟩ := k4 hr h0 h1 h2 h3 rfl
  have hW := hW.trans hN
  refine WP.seq ?_
  obtain ⟨c, hc, hF⟩ := obind hF
  obtain ⟨z, hz, hc⟩ := andB hc
  have hc := andE hc
  refine WP.rb mixed [[], [0], [1], [1], [1], [1, 2, 3, 4], [1, 5], [6], [7], [7, 8], [7, 9], [10], [10, 11], [7, 10, 12], [7, 13], [14]] [[0], [], [1], [2], [3], [], [], [], [0], [], [], [1], [], [], [], []] [(9, .bool used_), (10, .bool used_), (11, gv (used_) (.int .i64 x_)), (12, gv (used_) (.int .i64 low_)), (13, gv (used_) (.int .i64 high_)), (14, gv (used_) (.bool z)), (15, .bool c), (16, .bool c), (17, gv (!c) (.bool used_)), (18, gv (!c) (.bool (!used_))), (19, gv (!c) (.bool (!used_))), (20, gv ((!c) && (!used_)) (.int .i64 x_)), (21, gv ((!c) && (!used_)) (.bool (x_ == 0))), (22, gv (!c) (.bool ((!used_) && (x_ == 0)))), (23, .bool (c || ((!used_) && (x_ == 0)))), (8, .bool (c || ((!used_) && (x_ == 0))))] (by kernel_rfl) ⟨mE rfl rfl h0,
 mU rfl rfl rfl,
 fun ρz wz hE hA ⟨e1, _⟩ ⟨u1, _⟩ => gIf rfl rfl (yT rfl u1) fun gc F hF => core_val rfl hF (o_move (e1.trans h1)),
 fun ρz wz hE hA ⟨e2, _⟩ ⟨u1, _⟩ => gIf rfl rfl (yT rfl u1) fun gc F hF => core_val rfl hF (o_move (e2.trans h2)),
 fun ρz wz hE hA ⟨e3, _⟩ ⟨u1, _⟩ => gIf rfl rfl (yT rfl u1) fun gc F hF => core_val rfl hF (o_move (e3.trans h3)),
 fun ρz wz hE hA _ ⟨u1, u2, u3, u4, _⟩ => gIf rfl rfl (yT rfl u1) fun gc F hF => core_call hF (call_args3 (gt gc u2) (gt gc u3) (gt gc u4)) cf_66 (fact_within_ok  _ _ _  (hz gc)),
 fun ρz wz hE hA _ ⟨u1, u5, _⟩ => core_valE rfl rfl (congrArg Value.bool hc) (o_pick_and u1 u5 rfl),
 mU rfl rfl rfl,
 fun ρz wz hE hA ⟨e0, _⟩ ⟨u7, _⟩ => gIf rfl rfl (yF rfl u7) fun gc F hF => core_val rfl hF (o_move (e0.trans h0)),
 fun ρz wz hE hA _ ⟨u7, u8, _⟩ => gIf rfl rfl (yF rfl u7) fun gc F hF => core_val rfl hF (o_not (gt gc u8) rfl),
 fun ρz wz hE hA _ ⟨u7, u9, _⟩ => gIf rfl rfl (yF rfl u7) fun gc F hF => core_val rfl hF (o_move (gt gc u9)),
 fun ρz wz hE hA ⟨e1, _⟩ ⟨u10, _⟩ => gIf rfl rfl (yTG rfl u10) fun gc F hF => core_val rfl hF (o_move (e1.trans h1)),
 fun ρz wz hE hA _ ⟨u10, u11, _⟩ => gIf rfl rfl (yTG rfl u10) fun gc F hF => core_val rfl hF (o_eql (gt gc u11) rfl rfl),
 fun ρz wz hE hA _ ⟨u7, u10, u12, _⟩ => gIf rfl rfl (yF rfl u7) fun gc F hF => core_val rfl hF (o_pick_and (gt gc u10) (gr gc u12) rfl),
 fun ρz wz hE hA _ ⟨u7, u13, _⟩ => core_val rfl rfl (o_pick_or u7 rfl u13),
 aU rfl rfl rfl, trivial⟩ ?_
  intro ρ2 w2 hN hf hr
  have h8 := hv hf 15 rfl rfl
  have hW := hW.trans hN
  refine WP.ret ?_
  show retQ Try.prog 24 Try.f67 (fun v w1 => v = .bool r ∧ Ext noG w0 w1) .ret ρ2 w2
  obtain rfl := Option.some.inj hF
  exact res1 rfl (by decide) h8 ⟨rfl, hW⟩

set_option maxHeartbeats 4000000 in
theorem fact_validSpan_ok {w0 : World} (s_ : Span) {r : Bool} (hF : fact_validSpan s_ = some r) :
    Calls Try.prog 68 #[Span.val s_] w0 fun e w1 => e = .returned (.bool r) ∧ Ext noG w0 w1 := by
  refine (Calls.start (P := Try.prog) (args := [Span.val s_]) (R := fun v w1 => v = .bool r ∧ Ext noG w0 w1) (n := 18) (w := w0) Try.func68 rfl rfl (Nat.le_of_ble_eq_true rfl) (fun ρ hargs => ?_)).mono (fun e w1 ⟨v, he, hv, hE⟩ => ⟨hv ▸ he, hE⟩)
  have h0 := hargs 0 _ rfl
  have hW := Ext.refl noG w0
  rw [fact_validSpan] at hF
  refine WP.seq (WP.rg mixed [[], []] [[], []] [[0], []] [(1, fun u wz => ∃ b, u = .pointer (some ⟨b, 0, none⟩) ∧ w0.heap.size ≤ b ∧ Mb wz b 31 (Span.cells s_)), val 2 (.bool false)] (by kernel_rfl) ⟨fun _ _ _ hE ⟨b, hb, hs, hM⟩ => ⟨b, hb, hs, hM.exn hE⟩, sV, trivial⟩ ⟨fun ρz wz hE hA ⟨e0, _⟩ _ => core_new rfl rfl hE (o_box (e0.trans h0) (bx_31 _ _)),
 aC rfl rfl (fun _ => rfl), trivial⟩ ?_)
  intro ρ1 w1 hN hf hr
  obtain ⟨b1_, h1, hge_b1_, Hb_b1_⟩ := hf 0 rfl
  have hB_b1_ : w0.heap.size ≤ b1_ := Nat.le_trans hW.size hge_b1_
  have hW := hW.trans hN
  refine WP.seq (WP.rb mixed [[], [0], [1], [2], [3], [3, 4], [3], [3, 6], [3, 5, 7], [3, 8], [9], [10], [10, 11], [10, 12], [10, 13], [14]] [[1], [], [], [], [1], [], [1], [], [], [], [], [1], [], [], [], []] [(3, .pointer (some ((⟨b1_, 0, none⟩ : Addr).add 0))), (4, .int .i64 s_.From), (5, .bool (decide (0 ≤ s_.From))), (6, .bool (decide (0 ≤ s_.From))), (7, gv (decide (0 ≤ s_.From)) (.pointer (some ((⟨b1_, 0, none⟩ : Addr).add 0)))), (8, gv (decide (0 ≤ s_.From)) (.int .i64 s_.From)), (9, gv (decide (0 ≤ s_.From)) (.pointer (some ((⟨b1_, 0, none⟩ : Addr).add 1)))), (10, gv (decide (0 ≤ s_.From)) (.int .i64 s_.To)), (11, gv (decide (0 ≤ s_.From)) (.bool (decide (s_.From < s_.To)))), (12, .bool (decide (0 ≤ s_.From) && decide (s_.From < s_.To))), (13, .bool (decide (0 ≤ s_.From) && decide (s_.From < s_.To))), (14, gv ((decide (0 ≤ s_.From) && decide (s_.From < s_.To))) (.pointer (some ((⟨b1_, 0, none⟩ : Addr).add 1)))), (15, gv ((decide (0 ≤ s_.From) && decide (s_.From < s_.To))) (.int .i64 s_.To)), (16, gv ((decide (0 ≤ s_.From) && decide (s_.From < s_.To))) (.bool (decide (s_.To ≤ 73049)))), (17, .bool ((decide (0 ≤ s_.From) && decide (s_.From < s_.To)) && decide (s_.To ≤ 73049))), (2, .bool ((decide (0 ≤ s_.From) && decide (s_.From < s_.To)) && decide (s_.To ≤ 73049)))] (by kernel_rfl) ⟨fun ρz wz hE hA ⟨e1, _⟩ _ => core_val rfl rfl (o_fieldAddr (e1.trans h1) (fa_31_0 _ _)),
 fun ρz wz hE hA _ ⟨u0, _⟩ => core_val rfl rfl (o_load u0 (run_load1 (lr_3 _ _) (CA.sub ((Hb_b1_.exn (hA rfl)).ca) 0 1))),
 fun ρz wz hE hA _ ⟨u1, _⟩ => core_val rfl rfl (o_geq u1 rfl rfl),
 mU rfl rfl rfl,
 fun ρz wz hE hA ⟨e1, _⟩ ⟨u3, _⟩ => gIf rfl rfl (yT rfl u3) fun gc F hF => core_val rfl hF (o_fieldAddr (e1.trans h1) (fa_31_0 _ _)),
 fun ρz wz hE hA _ ⟨u3, u4, _⟩ => gIf rfl rfl (yT rfl u3) fun gc F hF => core_val rfl hF (o_load (gt gc u4) (run_load1 (lr_3 _ _) (CA.sub ((Hb_b1_.exn (hA rfl)).ca) 0 1))),
 fun ρz wz hE hA ⟨e1, _⟩ ⟨u3, _⟩ => gIf rfl rfl (yT rfl u3) fun gc F hF => core_val rfl hF (o_fieldAddr (e1.trans h1) (fa_31_1 _ _)),
 fun ρz wz hE hA _ ⟨u3, u6, _⟩ => gIf rfl rfl (yT rfl u3) fun gc F hF => core_val rfl hF (o_load (gt gc u6) (run_load1 (lr_3 _ _) (CA.sub ((Hb_b1_.exn (hA rfl)).ca) 1 1))),
 fun ρz wz hE hA _ ⟨u3, u5, u7, _⟩ => gIf rfl rfl (yT rfl u3) fun gc F hF => core_val rfl hF (o_lss (gt gc u5) (gt gc u7) rfl),
 fun ρz wz hE hA _ ⟨u3, u8, _⟩ => core_val rfl rfl (o_pick_and u3 u8 rfl),
 mU rfl rfl rfl,
 fun ρz wz hE hA ⟨e1, _⟩ ⟨u10, _⟩ => gIf rfl rfl (yT rfl u10) fun gc F hF => core_val rfl hF (o_fieldAddr (e1.trans h1) (fa_31_1 _ _)),
 fun ρz wz hE hA _ ⟨u10, u11, _⟩ => gIf rfl rfl (yT rfl u10) fun gc F hF => core_val rfl hF (o_load (gt gc u11) (run_load1 (lr_3 _ _) (CA.sub ((Hb_b1_.exn (hA rfl)).ca) 1 1))),
 fun ρz wz hE hA _ ⟨u10, u12, _⟩ => gIf rfl rfl (yT rfl u10) fun gc F hF => core_val rfl hF (o_leq (gt gc u12) rfl rfl),
 fun ρz wz hE hA _ ⟨u10, u13, _⟩ => core_val rfl rfl (o_pick_and u10 u13 rfl),
 aU rfl rfl rfl, trivial⟩ ?_)
  intro ρ2 w2 hN hf hr
  have h2 := hv hf 15 rfl rfl
  have hW := hW.trans hN
  refine WP.ret ?_
  show retQ Try.prog 18 Try.f68 (fun v w1 => v = .bool r ∧ Ext noG w0 w1) .ret ρ2 w2
  obtain rfl := Option.some.inj hF
  exact res1 rfl (by decide) h2 ⟨rfl, hW⟩

set_option maxHeartbeats 4000000 in
theorem fact_Valid_ok {w0 : World} (d_ : api_Fact) {r : Bool} (hF : fact_Valid d_ = some r) :
    Calls Try.prog 50 #[api_Fact.val d_] w0 fun e w1 => e = .returned (.bool r) ∧ Ext noG w0 w1 := by
  refine (Calls.start (P := Try.prog) (args := [api_Fact.val d_]) (R := fun v w1 => v = .bool r ∧ Ext noG w0 w1) (n := 116) (w := w0) Try.func50 rfl rfl (Nat.le_of_ble_eq_true rfl) (fun ρ hargs => ?_)).mono (fun e w1 ⟨v, he, hv, hE⟩ => ⟨hv ▸ he, hE⟩)
  have h0 := hargs 0 _ rfl
  have hW := Ext.refl noG w0
  rw [fact_Valid] at hF
  refine WP.seq (WP.rg mixed [[], []] [[], []] [[0], []] [(1, fun u wz => ∃ b, u = .pointer (some ⟨b, 0, none⟩) ∧ w0.heap.size ≤ b ∧ Mb wz b 49 (api_Fact.cells d_)), val 2 (.bool false)] (by kernel_rfl) ⟨fun _ _ _ hE ⟨b, hb, hs, hM⟩ => ⟨b, hb, hs, hM.exn hE⟩, sV, trivial⟩ ⟨fun ρz wz hE hA ⟨e0, _⟩ _ => core_new rfl rfl hE (o_box (e0.trans h0) (bx_49 _ _)),
 aC rfl rfl (fun _ => rfl), trivial⟩ ?_)
  intro ρ1 w1 hN hf hr
  obtain ⟨b1_, h1, hge_b1_, Hb_b1_⟩ := hf 0 rfl
  have hB_b1_ : w0.heap.size ≤ b1_ := Nat.le_trans hW.size hge_b1_
  have hW := hW.trans hN
  refine WP.seq ?_
  obtain ⟨z, hz, hF⟩ := obind hF
  refine WP.region mixed [[], [0], [1], [], [2, 3]] [[], [0], [1], [], [2, 3]] [[1], [], [], [], []] [4] [(3, 4)] [val 5 (.pointer (some ((⟨b1_, 0, none⟩ : Addr).add 5))), val 6 (.int .i64 d_.Kind), val 7 (.string z), (3, fun u wz => ∃ b, u = .pointer (some ⟨b, 0, none⟩) ∧ w1.heap.size ≤ b ∧ Mb wz b 9 [Value.string (⟨#[]⟩ : ByteArray)]), (3, fun u wz => ∃ b, u = .pointer (some ⟨b, 0, none⟩) ∧ w1.heap.size ≤ b ∧ Mb wz b 9 [Value.string z])] (fun b => w1.heap.size ≤ b) (by kernel_rfl) ⟨sV, sV, sV, fun _ _ _ hE ⟨b, hb, hs, hM⟩ => ⟨b, hb, hs, hM.exn hE⟩, fun _ _ _ hE ⟨b, hb, hs, hM⟩ => ⟨b, hb, hs, hM.exn hE⟩, trivial⟩ ⟨fun ρz wz hE hA ⟨e1, _⟩ _ => core_val rfl rfl (o_fieldAddr (e1.trans h1) (fa_49_5 _ _)),
 fun ρz wz hE hA _ ⟨u0, _⟩ => core_val rfl rfl (o_load u0 (run_load1 (lr_3 _ _) (CA.sub ((Hb_b1_.exn hE.fresh).ca) 5 1))),
 fun ρz wz hE hA _ ⟨u1, _⟩ => core_call rfl (call_args1 u1) cf_63 (fact_Uses_ok  _  hz),
 fun ρz wz hE hA _ _ => core_new rfl rfl hE (o_alloc (al_9 _)),
 fun ρz wz hE hA _ ⟨u2, u3, _⟩ => core_storeNew rfl rfl rfl rfl u2 u3 (fun a w => st_9 _ a w) rfl (one_9 _), trivial⟩ ?_
  intro ρ2 w2 hE hN hf hr
  have hN := hE.fresh
  obtain ⟨b3_, h3, hge_b3_, Hb_b3_⟩ := hf 4 rfl
  have h1 := (hr 1 rfl).trans h1
  have Hb_b1_n := Hb_b1_.exn hN
  have hB_b3_ : w0.heap.size ≤ b3_ := Nat.le_trans hW.size hge_b3_
  have hne_b1__b3_ : b1_ ≠ b3_ := Nat.ne_of_lt (Nat.lt_of_lt_of_le Hb_b1_.lt hge_b3_)
  have hW := hW.trans hN
  have Hb_b1_ := Hb_b1_n
  refine WP.seq (WP.rb mixed [[], [0]] [[3], []] [(8, .func (.func 64) #[] #[.pointer (some ⟨b3_, 0, none⟩)]), (4, .func (.func 64) #[] #[.pointer (some ⟨b3_, 0, none⟩)])] (by kernel_rfl) ⟨fun ρz wz hE hA ⟨e3, _⟩ _ => core_val rfl rfl (o_makeFunc (call_args1 (e3.trans h3))),
 aU rfl rfl rfl, trivial⟩ ?_)
  intro ρ3 w3 hN hf hr
  have h4 := hv hf 1 rfl rfl
  obtain ⟨h1, h3⟩ := k2 hr h1 h3 rfl
  have Hb_b1_n := Hb_b1_.exn hN
  have Hb_b3_n := Hb_b3_.exn hN
  have hW := hW.trans hN
  have Hb_b1_ := Hb_b1_n
  have Hb_b3_ := Hb_b3_n
  refine WP.seq (WP.block (WP.seq ?_))
  obtain ⟨c, hc, hF⟩ := obind hF
  obtain ⟨z2, hz2, hc⟩ := orB hc
  have hc := orE hc
  obtain ⟨c2, hc2, hF⟩ := obind hF
  obtain ⟨z3, hz3, hc2⟩ := orB hc2
  have hc2 := orE hc2
  obtain ⟨c3, hc3, hF⟩ := obind hF
  obtain ⟨z4, hz4, hc3⟩ := orB hc3
  have hc3 := orE hc3
  obtain ⟨c4, hc4, hF⟩ := obind hF
  obtain ⟨z5, hz5, hc4⟩ := orB hc4
  have hc4 := orE hc4
  refine WP.rb mixed [[], [0], [1], [2], [2, 3], [2, 4], [2, 5], [2, 6], [7], [8], [8, 9], [8, 10], [8, 11], [8, 12], [13], [14], [14, 15], [14, 16], [14, 17], [14, 18], [19], [20], [20, 21], [20, 22], [20, 23], [20, 24], [25]] [[3], [], [], [1], [], [], [], [], [], [1], [], [], [], [], [], [1], [], [], [], [], [], [1], [], [], [], [], []] [(10, .string z), (11, .bool (z.toList == str1.toList)), (12, .bool (z.toList == str1.toList)), (13, gv (!(z.toList == str1.toList)) (.pointer (some ((⟨b1_, 0, none⟩ : Addr).add 0)))), (14, gv (!(z.toList == str1.toList)) (.int .i64 d_.Issuer)), (15, gv (!(z.toList == str1.toList)) (.bool z2)), (16, gv (!(z.toList == str1.toList)) (.bool (!z2))), (17, .bool c), (18, .bool c), (19, gv (!c) (.pointer (some ((⟨b1_, 0, none⟩ : Addr).add 1)))), (20, gv (!c) (.int .i64 d_.Number)), (21, gv (!c) (.bool z3)), (22, gv (!c) (.bool (!z3))), (23, .bool c2), (24, .bool c2), (25, gv (!c2) (.pointer (some ((⟨b1_, 0, none⟩ : Addr).add 2)))), (26, gv (!c2) (.int .i64 d_.Version)), (27, gv (!c2) (.bool z4)), (28, gv (!c2) (.bool (!z4))), (29, .bool c3), (30, .bool c3), (31, gv (!c3) (.pointer (some ((⟨b1_, 0, none⟩ : Addr).add 4)))), (32, gv (!c3) (.int .i64 d_.Person)), (33, gv (!c3) (.bool z5)), (34, gv (!c3) (.bool (!z5))), (35, .bool c4), (9, .bool c4)] (by kernel_rfl) ⟨fun ρz wz hE hA ⟨e3, _⟩ _ => core_val rfl rfl (o_load (e3.trans h3) (run_load1 (lr_9 _ _) ((Hb_b3_.exn (hA rfl)).ca))),
 fun ρz wz hE hA _ ⟨u0, _⟩ => core_val rfl rfl (o_eqlT u0 rfl rfl),
 mU rfl rfl rfl,
 fun ρz wz hE hA ⟨e1, _⟩ ⟨u2, _⟩ => gIf rfl rfl (yF rfl u2) fun gc F hF => core_val rfl hF (o_fieldAddr (e1.trans h1) (fa_49_0 _ _)),
 fun ρz wz hE hA _ ⟨u2, u3, _⟩ => gIf rfl rfl (yF rfl u2) fun gc F hF => core_val rfl hF (o_load (gt gc u3) (run_load1 (lr_3 _ _) (CA.sub ((Hb_b1_.exn (hA rfl)).ca) 0 1))),
 fun ρz wz hE hA _ ⟨u2, u4, _⟩ => gIf rfl rfl (yF rfl u2) fun gc F hF => core_call hF (call_args3 (gt gc u4) rfl rfl) cf_66 (fact_within_ok  _ _ _  (hz2 gc)),
 fun ρz wz hE hA _ ⟨u2, u5, _⟩ => gIf rfl rfl (yF rfl u2) fun gc F hF => core_val rfl hF (o_not (gt gc u5) rfl),
 fun ρz wz hE hA _ ⟨u2, u6, _⟩ => core_valE rfl rfl (congrArg Value.bool hc) (o_pick_or u2 rfl u6),
 mU rfl rfl rfl,
 fun ρz wz hE hA ⟨e1, _⟩ ⟨u8, _⟩ => gIf rfl rfl (yF rfl u8) fun gc F hF => core_val rfl hF (o_fieldAddr (e1.trans h1) (fa_49_1 _ _)),
 fun ρz wz hE hA _ ⟨u8, u9, _⟩ => gIf rfl rfl (yF rfl u8) fun gc F hF => core_val rfl hF (o_load (gt gc u9) (run_load1 (lr_3 _ _) (CA.sub ((Hb_b1_.exn (hA rfl)).ca) 1 1))),
 fun ρz wz hE hA _ ⟨u8, u10, _⟩ => gIf rfl rfl (yF rfl u8) fun gc F hF => core_call hF (call_args3 (gt gc u10) rfl rfl) cf_66 (fact_within_ok  _ _ _  (hz3 gc)),
 fun ρz wz hE hA _ ⟨u8, u11, _⟩ => gIf rfl rfl (yF rfl u8) fun gc F hF => core_val rfl hF (o_not (gt gc u11) rfl),
 fun ρz wz hE hA _ ⟨u8, u12, _⟩ => core_valE rfl rfl (congrArg Value.bool hc2) (o_pick_or u8 rfl u12),
 mU rfl rfl rfl,
 fun ρz wz hE hA ⟨e1, _⟩ ⟨u14, _⟩ => gIf rfl rfl (yF rfl u14) fun gc F hF => core_val rfl hF (o_fieldAddr (e1.trans h1) (fa_49_2 _ _)),
 fun ρz wz hE hA _ ⟨u14, u15, _⟩ => gIf rfl rfl (yF rfl u14) fun gc F hF => core_val rfl hF (o_load (gt gc u15) (run_load1 (lr_3 _ _) (CA.sub ((Hb_b1_.exn (hA rfl)).ca) 2 1))),
 fun ρz wz hE hA _ ⟨u14, u16, _⟩ => gIf rfl rfl (yF rfl u14) fun gc F hF => core_call hF (call_args3 (gt gc u16) rfl rfl) cf_66 (fact_within_ok  _ _ _  (hz4 gc)),
 fun ρz wz hE hA _ ⟨u14, u17, _⟩ => gIf rfl rfl (yF rfl u14) fun gc F hF => core_val rfl hF (o_not (gt gc u17) rfl),
 fun ρz wz hE hA _ ⟨u14, u18, _⟩ => core_valE rfl rfl (congrArg Value.bool hc3) (o_pick_or u14 rfl u18),
 mU rfl rfl rfl,
 fun ρz wz hE hA ⟨e1, _⟩ ⟨u20, _⟩ => gIf rfl rfl (yF rfl u20) fun gc F hF => core_val rfl hF (o_fieldAddr (e1.trans h1) (fa_49_4 _ _)),
 fun ρz wz hE hA _ ⟨u20, u21, _⟩ => gIf rfl rfl (yF rfl u20) fun gc F hF => core_val rfl hF (o_load (gt gc u21) (run_load1 (lr_3 _ _) (CA.sub ((Hb_b1_.exn (hA rfl)).ca) 4 1))),
 fun ρz wz hE hA _ ⟨u20, u22, _⟩ => gIf rfl rfl (yF rfl u20) fun gc F hF => core_call hF (call_args3 (gt gc u22) rfl rfl) cf_66 (fact_within_ok  _ _ _  (hz5 gc)),
 fun ρz wz hE hA _ ⟨u20, u23, _⟩ => gIf rfl rfl (yF rfl u20) fun gc F hF => core_val rfl hF (o_not (gt gc u23) rfl),
 fun ρz wz hE hA _ ⟨u20, u24, _⟩ => core_valE rfl rfl (congrArg Value.bool hc4) (o_pick_or u20 rfl u24),
 aU rfl rfl rfl, trivial⟩ ?_
  intro ρ4 w4 hN hf hr
  have h9 := hv hf 26 rfl rfl
  obtain ⟨h1, h4⟩ := k2 hr h1 h4 rfl
  have Hb_b1_n := Hb_b1_.exn hN
  have Hb_b3_n := Hb_b3_.exn hN
  have hW := hW.trans hN
  have Hb_b1_ := Hb_b1_n
  have Hb_b3_ := Hb_b3_n
  refine WP.cond rfl h9 (fun hb => ?_) (fun hb => ?_)
  · have hF := (if_pos hb).symm.trans hF
    refine WP.seq (WP.rb mixed [[]] [[]] [(2, .bool false)] (by kernel_rfl) ⟨aC rfl rfl (fun _ => rfl), trivial⟩ ?_)
    intro ρ5 w5 hN hf hr
    have h2 := hv hf 0 rfl rfl
    have hW := hW.trans hN
    refine WP.ret ?_
    show retQ Try.prog 116 Try.f50 (fun v w1 => v = .bool r ∧ Ext noG w0 w1) .ret ρ5 w5
    obtain rfl := Option.some.inj hF
    exact res1 rfl (by decide) h2 ⟨rfl, hW⟩
  have hF := (if_neg (Bool.eq_false_iff.1 hb)).symm.trans hF
  refine WP.seq ?_
  obtain ⟨z6, hz6, hF⟩ := obind hF
  obtain ⟨z7, hz7, hF⟩ := obind hF
  obtain ⟨c5, hc5, hF⟩ := obind hF
  obtain ⟨z8, hz8, hc5⟩ := orB hc5
  obtain ⟨z9, hz9, hc5⟩ := orB hc5
  have hc5 := orE hc5
  obtain ⟨c6, hc6, hF⟩ := obind hF
  obtain ⟨z10, hz10, hc6⟩ := orB hc6
  have hc6 := orE hc6
  refine WP.rb mixed [[], [0], [], [2], [1, 3], [4], [5], [6], [6, 7], [6], [6, 9], [6, 8, 10], [6, 11], [6, 12], [13], [14], [14, 15], [14, 16], [14, 17], [14, 18], [19]] [[4], [], [1], [], [], [], [], [4], [], [1], [], [], [], [], [], [1], [], [], [], [], []] [(37, .func (.func 64) #[] #[.pointer (some ⟨b3_, 0, none⟩)]), (38, .bool z6), (39, .pointer (some ((⟨b1_, 0, none⟩ : Addr).add 6))), (40, .int .i64 d_.State), (41, .bool z7), (42, .bool (!z7)), (43, .bool (!z7)), (44, gv (!(!z7)) (.func (.func 64) #[] #[.pointer (some ⟨b3_, 0, none⟩)])), (45, gv (!(!z7)) (.bool z8)), (46, gv (!(!z7)) (.pointer (some ((⟨b1_, 0, none⟩ : Addr).add 9)))), (47, gv (!(!z7)) (.int .i64 d_.Seat)), (48, gv (!(!z7)) (.bool z9)), (49, gv (!(!z7)) (.bool (!z9))), (50, .bool c5), (51, .bool c5), (52, gv (!c5) (.pointer (some ((⟨b1_, 0, none⟩ : Addr).add 7)))), (53, gv (!c5) (Span.val d_.Span)), (54, gv (!c5) (.bool z10)), (55, gv (!c5) (.bool (!z10))), (56, .bool c6), (36, .bool c6)] (by kernel_rfl) ⟨mE rfl rfl h4,
 fun ρz wz hE hA _ ⟨u0, _⟩ => core_callF (V := fnV_90) (W := fnW_90) (a := str10) (r := z6) rfl u0 (call_args1 rfl) (FnR.mk (V := fnV_90) (W := fnW_90) (G := noG) (cap := [.pointer (some ⟨b3_, 0, none⟩)]) cf_64 (fun w' hE' x r hr => fact_Valid_1_ok _ _ ((Hb_b3_.exn (hA rfl)).exn hE') hr)) hz6,
 fun ρz wz hE hA ⟨e1, _⟩ _ => core_val rfl rfl (o_fieldAddr (e1.trans h1) (fa_49_6 _ _)),
 fun ρz wz hE hA _ ⟨u2, _⟩ => core_val rfl rfl (o_load u2 (run_load1 (lr_3 _ _) (CA.sub ((Hb_b1_.exn (hA rfl)).ca) 6 1))),
 fun ρz wz hE hA _ ⟨u1, u3, _⟩ => core_call rfl (call_args4 u1 u3 rfl rfl) cf_67 (fact_field_ok  _ _ _ _  hz7),
 fun ρz wz hE hA _ ⟨u4, _⟩ => core_val rfl rfl (o_not u4 rfl),
 mU rfl rfl rfl,
 fun ρz wz hE hA ⟨e4, _⟩ ⟨u6, _⟩ => gIf rfl rfl (yF rfl u6) fun gc F hF => core_val rfl hF (o_move (e4.trans h4)),
 fun ρz wz hE hA _ ⟨u6, u7, _⟩ => gIf rfl rfl (yF rfl u6) fun gc F hF => core_callF (V := fnV_90) (W := fnW_90) (a := str11) (r := z8) hF (gt gc u7) (call_args1 rfl) (FnR.mk (V := fnV_90) (W := fnW_90) (G := noG) (cap := [.pointer (some ⟨b3_, 0, none⟩)]) cf_64 (fun w' hE' x r hr => fact_Valid_1_ok _ _ ((Hb_b3_.exn (hA rfl)).exn hE') hr)) (hz8 gc),
 fun ρz wz hE hA ⟨e1, _⟩ ⟨u6, _⟩ => gIf rfl rfl (yF rfl u6) fun gc F hF => core_val rfl hF (o_fieldAddr (e1.trans h1) (fa_49_8 _ _)),
 fun ρz wz hE hA _ ⟨u6, u9, _⟩ => gIf rfl rfl (yF rfl u6) fun gc F hF => core_val rfl hF (o_load (gt gc u9) (run_load1 (lr_3 _ _) (CA.sub ((Hb_b1_.exn (hA rfl)).ca) 9 1))),
 fun ρz wz hE hA _ ⟨u6, u8, u10, _⟩ => gIf rfl rfl (yF rfl u6) fun gc F hF => core_call hF (call_args4 (gt gc u8) (gt gc u10) rfl rfl) cf_67 (fact_field_ok  _ _ _ _  (hz9 gc)),
 fun ρz wz hE hA _ ⟨u6, u11, _⟩ => gIf rfl rfl (yF rfl u6) fun gc F hF => core_val rfl hF (o_not (gt gc u11) rfl),
 fun ρz wz hE hA _ ⟨u6, u12, _⟩ => core_valE rfl rfl (congrArg Value.bool hc5) (o_pick_or u6 rfl u12),
 mU rfl rfl rfl,
 fun ρz wz hE hA ⟨e1, _⟩ ⟨u14, _⟩ => gIf rfl rfl (yF rfl u14) fun gc F hF => core_val rfl hF (o_fieldAddr (e1.trans h1) (fa_49_7 _ _)),
 fun ρz wz hE hA _ ⟨u14, u15, _⟩ => gIf rfl rfl (yF rfl u14) fun gc F hF => core_val rfl hF (o_load (gt gc u15) (run_loadN (cs := (Span.cells d_.Span)) (lr_31 _ _) rfl (CA.sub ((Hb_b1_.exn (hA rfl)).ca) 7 2))),
 fun ρz wz hE hA _ ⟨u14, u16, _⟩ => gIf rfl rfl (yF rfl u14) fun gc F hF => core_call hF (call_args1 (gt gc u16)) cf_68 (fact_validSpan_ok  _  (hz10 gc)),
 fun ρz wz hE hA _ ⟨u14, u17, _⟩ => gIf rfl rfl (yF rfl u14) fun gc F hF => core_val rfl hF (o_not (gt gc u17) rfl),
 fun ρz wz hE hA _ ⟨u14, u18, _⟩ => core_valE rfl rfl (congrArg Value.bool hc6) (o_pick_or u14 rfl u18),
 aU rfl rfl rfl, trivial⟩ ?_
  intro ρ6 w6 hN hf hr
  have h36 := hv hf 20 rfl rfl
  obtain ⟨h1, h4⟩ := k2 hr h1 h4 rfl
  have Hb_b1_n := Hb_b1_.exn hN
  have Hb_b3_n := Hb_b3_.exn hN
  have hW := hW.trans hN
  have Hb_b1_ := Hb_b1_n
  have Hb_b3_ := Hb_b3_n
  refine WP.cond rfl h36 (fun hb => ?_) (fun hb => ?_)
  · have hF := (if_pos hb).symm.trans hF
    refine WP.seq (WP.rb mixed [[]] [[]] [(2, .bool false)] (by kernel_rfl) ⟨aC rfl rfl (fun _ => rfl), trivial⟩ ?_)
    intro ρ7 w7 hN hf hr
    have h2 := hv hf 0 rfl rfl
    have hW := hW.trans hN
    refine WP.ret ?_
    show retQ Try.prog 116 Try.f50 (fun v w1 => v = .bool r ∧ Ext noG w0 w1) .ret ρ7 w7
    obtain rfl := Option.some.inj hF
    exact res1 rfl (by decide) h2 ⟨rfl, hW⟩
  have hF := (if_neg (Bool.eq_false_iff.1 hb)).symm.trans hF
  refine WP.seq ?_
  obtain ⟨z11, hz11, hF⟩ := obind hF
  obtain ⟨z12, hz12, hF⟩ := obind hF
  obtain ⟨c7, hc7, hF⟩ := obind hF
  obtain ⟨z13, hz13, hc7⟩ := orB hc7
  obtain ⟨z14, hz14, hc7⟩ := orB hc7
  have hc7 := orE hc7
  obtain ⟨c8, hc8, hF⟩ := obind hF
  obtain ⟨z15, hz15, hc8⟩ := orB hc8
  obtain ⟨z16, hz16, hc8⟩ := orB hc8
  have hc8 := orE hc8
  obtain ⟨c9, hc9, hF⟩ := obind hF
  obtain ⟨z17, hz17, hc9⟩ := orB hc9
  obtain ⟨z18, hz18, hc9⟩ := orB hc9
  have hc9 := orE hc9
  refine WP.rb mixed [[], [0], [], [2], [1, 3], [4], [5], [6], [6, 7], [6], [6, 9], [6, 8, 10], [6, 11], [6, 12], [13], [14], [14, 15], [14], [14, 17], [14, 16, 18], [14, 19], [14, 20], [21], [22], [22, 23], [22], [22, 25], [22, 24, 26], [22, 27], [22, 28], [29]] [[4], [], [1], [], [], [], [], [4], [], [1], [], [], [], [], [], [4], [], [1], [], [], [], [], [], [4], [], [1], [], [], [], [], []] [(58, .func (.func 64) #[] #[.pointer (some ⟨b3_, 0, none⟩)]), (59, .bool z11), (60, .pointer (some ((⟨b1_, 0, none⟩ : Addr).add 10))), (61, .int .i64 d_.Share), (62, .bool z12), (63, .bool (!z12)), (64, .bool (!z12)), (65, gv (!(!z12)) (.func (.func 64) #[] #[.pointer (some ⟨b3_, 0, none⟩)])), (66, gv (!(!z12)) (.bool z13)), (67, gv (!(!z12)) (.pointer (some ((⟨b1_, 0, none⟩ : Addr).add 11)))), (68, gv (!(!z12)) (.int .i64 d_.Currency)), (69, gv (!(!z12)) (.bool z14)), (70, gv (!(!z12)) (.bool (!z14))), (71, .bool c7), (72, .bool c7), (73, gv (!c7) (.func (.func 64) #[] #[.pointer (some ⟨b3_, 0, none⟩)])), (74, gv (!c7) (.bool z15)), (75, gv (!c7) (.pointer (some ((⟨b1_, 0, none⟩ : Addr).add 12)))), (76, gv (!c7) (.int .i64 d_.Amount)), (77, gv (!c7) (.bool z16)), (78, gv (!c7) (.bool (!z16))), (79, .bool c8), (80, .bool c8), (81, gv (!c8) (.func (.func 64) #[] #[.pointer (some ⟨b3_, 0, none⟩)])), (82, gv (!c8) (.bool z17)), (83, gv (!c8) (.pointer (some ((⟨b1_, 0, none⟩ : Addr).add 13)))), (84, gv (!c8) (.int .i64 d_.Ref)), (85, gv (!c8) (.bool z18)), (86, gv (!c8) (.bool (!z18))), (87, .bool c9), (57, .bool c9)] (by kernel_rfl) ⟨mE rfl rfl h4,
 fun ρz wz hE hA _ ⟨u0, _⟩ => core_callF (V := fnV_90) (W := fnW_90) (a := str12) (r := z11) rfl u0 (call_args1 rfl) (FnR.mk (V := fnV_90) (W := fnW_90) (G := noG) (cap := [.pointer (some ⟨b3_, 0, none⟩)]) cf_64 (fun w' hE' x r hr => fact_Valid_1_ok _ _ ((Hb_b3_.exn (hA rfl)).exn hE') hr)) hz11,
 fun ρz wz hE hA ⟨e1, _⟩ _ => core_val rfl rfl (o_fieldAddr (e1.trans h1) (fa_49_9 _ _)),
 fun ρz wz hE hA _ ⟨u2, _⟩ => core_val rfl rfl (o_load u2 (run_load1 (lr_3 _ _) (CA.sub ((Hb_b1_.exn (hA rfl)).ca) 10 1))),
 fun ρz wz hE hA _ ⟨u1, u3, _⟩ => core_call rfl (call_args4 u1 u3 rfl rfl) cf_67 (fact_field_ok  _ _ _ _  hz12),
 fun ρz wz hE hA _ ⟨u4, _⟩ => core_val rfl rfl (o_not u4 rfl),
 mU rfl rfl rfl,
 fun ρz wz hE hA ⟨e4, _⟩ ⟨u6, _⟩ => gIf rfl rfl (yF rfl u6) fun gc F hF => core_val rfl hF (o_move (e4.trans h4)),
 fun ρz wz hE hA _ ⟨u6, u7, _⟩ => gIf rfl rfl (yF rfl u6) fun gc F hF => core_callF (V := fnV_90) (W := fnW_90) (a := str13) (r := z13) hF (gt gc u7) (call_args1 rfl) (FnR.mk (V := fnV_90) (W := fnW_90) (G := noG) (cap := [.pointer (some ⟨b3_, 0, none⟩)]) cf_64 (fun w' hE' x r hr => fact_Valid_1_ok _ _ ((Hb_b3_.exn (hA rfl)).exn hE') hr)) (hz13 gc),
 fun ρz wz hE hA ⟨e1, _⟩ ⟨u6, _⟩ => gIf rfl rfl (yF rfl u6) fun gc F hF => core_val rfl hF (o_fieldAddr (e1.trans h1) (fa_49_10 _ _)),
 fun ρz wz hE hA _ ⟨u6, u9, _⟩ => gIf rfl rfl (yF rfl u6) fun gc F hF => core_val rfl hF (o_load (gt gc u9) (run_load1 (lr_3 _ _) (CA.sub ((Hb_b1_.exn (hA rfl)).ca) 11 1))),
 fun ρz wz hE hA _ ⟨u6, u8, u10, _⟩ => gIf rfl rfl (yF rfl u6) fun gc F hF => core_call hF (call_args4 (gt gc u8) (gt gc u10) rfl rfl) cf_67 (fact_field_ok  _ _ _ _  (hz14 gc)),
 fun ρz wz hE hA _ ⟨u6, u11, _⟩ => gIf rfl rfl (yF rfl u6) fun gc F hF => core_val rfl hF (o_not (gt gc u11) rfl),
 fun ρz wz hE hA _ ⟨u6, u12, _⟩ => core_valE rfl rfl (congrArg Value.bool hc7) (o_pick_or u6 rfl u12),
 mU rfl rfl rfl,
 fun ρz wz hE hA ⟨e4, _⟩ ⟨u14, _⟩ => gIf rfl rfl (yF rfl u14) fun gc F hF => core_val rfl hF (o_move (e4.trans h4)),
 fun ρz wz hE hA _ ⟨u14, u15, _⟩ => gIf rfl rfl (yF rfl u14) fun gc F hF => core_callF (V := fnV_90) (W := fnW_90) (a := str14) (r := z15) hF (gt gc u15) (call_args1 rfl) (FnR.mk (V := fnV_90) (W := fnW_90) (G := noG) (cap := [.pointer (some ⟨b3_, 0, none⟩)]) cf_64 (fun w' hE' x r hr => fact_Valid_1_ok _ _ ((Hb_b3_.exn (hA rfl)).exn hE') hr)) (hz15 gc),
 fun ρz wz hE hA ⟨e1, _⟩ ⟨u14, _⟩ => gIf rfl rfl (yF rfl u14) fun gc F hF => core_val rfl hF (o_fieldAddr (e1.trans h1) (fa_49_11 _ _)),
 fun ρz wz hE hA _ ⟨u14, u17, _⟩ => gIf rfl rfl (yF rfl u14) fun gc F hF => core_val rfl hF (o_load (gt gc u17) (run_load1 (lr_3 _ _) (CA.sub ((Hb_b1_.exn (hA rfl)).ca) 12 1))),
 fun ρz wz hE hA _ ⟨u14, u16, u18, _⟩ => gIf rfl rfl (yF rfl u14) fun gc F hF => core_call hF (call_args4 (gt gc u16) (gt gc u18) rfl rfl) cf_67 (fact_field_ok  _ _ _ _  (hz16 gc)),
 fun ρz wz hE hA _ ⟨u14, u19, _⟩ => gIf rfl rfl (yF rfl u14) fun gc F hF => core_val rfl hF (o_not (gt gc u19) rfl),
 fun ρz wz hE hA _ ⟨u14, u20, _⟩ => core_valE rfl rfl (congrArg Value.bool hc8) (o_pick_or u14 rfl u20),
 mU rfl rfl rfl,
 fun ρz wz hE hA ⟨e4, _⟩ ⟨u22, _⟩ => gIf rfl rfl (yF rfl u22) fun gc F hF => core_val rfl hF (o_move (e4.trans h4)),
 fun ρz wz hE hA _ ⟨u22, u23, _⟩ => gIf rfl rfl (yF rfl u22) fun gc F hF => core_callF (V := fnV_90) (W := fnW_90) (a := str15) (r := z17) hF (gt gc u23) (call_args1 rfl) (FnR.mk (V := fnV_90) (W := fnW_90) (G := noG) (cap := [.pointer (some ⟨b3_, 0, none⟩)]) cf_64 (fun w' hE' x r hr => fact_Valid_1_ok _ _ ((Hb_b3_.exn (hA rfl)).exn hE') hr)) (hz17 gc),
 fun ρz wz hE hA ⟨e1, _⟩ ⟨u22, _⟩ => gIf rfl rfl (yF rfl u22) fun gc F hF => core_val rfl hF (o_fieldAddr (e1.trans h1) (fa_49_12 _ _)),
 fun ρz wz hE hA _ ⟨u22, u25, _⟩ => gIf rfl rfl (yF rfl u22) fun gc F hF => core_val rfl hF (o_load (gt gc u25) (run_load1 (lr_3 _ _) (CA.sub ((Hb_b1_.exn (hA rfl)).ca) 13 1))),
 fun ρz wz hE hA _ ⟨u22, u24, u26, _⟩ => gIf rfl rfl (yF rfl u22) fun gc F hF => core_call hF (call_args4 (gt gc u24) (gt gc u26) rfl rfl) cf_67 (fact_field_ok  _ _ _ _  (hz18 gc)),
 fun ρz wz hE hA _ ⟨u22, u27, _⟩ => gIf rfl rfl (yF rfl u22) fun gc F hF => core_val rfl hF (o_not (gt gc u27) rfl),
 fun ρz wz hE hA _ ⟨u22, u28, _⟩ => core_valE rfl rfl (congrArg Value.bool hc9) (o_pick_or u22 rfl u28),
 aU rfl rfl rfl, trivial⟩ ?_
  intro ρ8 w8 hN hf hr
  have h57 := hv hf 30 rfl rfl
  have h1 := (hr 1 rfl).trans h1
  have Hb_b1_n := Hb_b1_.exn hN
  have hW := hW.trans hN
  have Hb_b1_ := Hb_b1_n
  refine WP.cond rfl h57 (fun hb => ?_) (fun hb => ?_)
  · have hF := (if_pos hb).symm.trans hF
    refine WP.seq (WP.rb mixed [[]] [[]] [(2, .bool false)] (by kernel_rfl) ⟨aC rfl rfl (fun _ => rfl), trivial⟩ ?_)
    intro ρ9 w9 hN hf hr
    have h2 := hv hf 0 rfl rfl
    have hW := hW.trans hN
    refine WP.ret ?_
    show retQ Try.prog 116 Try.f50 (fun v w1 => v = .bool r ∧ Ext noG w0 w1) .ret ρ9 w9
    obtain rfl := Option.some.inj hF
    exact res1 rfl (by decide) h2 ⟨rfl, hW⟩
  have hF := (if_neg (Bool.eq_false_iff.1 hb)).symm.trans hF
  refine WP.skip (WP.seq (WP.seq (WP.rb mixed [[], [0]] [[1], []] [(88, .pointer (some ((⟨b1_, 0, none⟩ : Addr).add 5))), (89, .int .i64 d_.Kind)] (by kernel_rfl) ⟨fun ρz wz hE hA ⟨e1, _⟩ _ => core_val rfl rfl (o_fieldAddr (e1.trans h1) (fa_49_5 _ _)),
 fun ρz wz hE hA _ ⟨u0, _⟩ => core_val rfl rfl (o_load u0 (run_load1 (lr_3 _ _) (CA.sub ((Hb_b1_.exn (hA rfl)).ca) 5 1))), trivial⟩ ?_)))
  intro ρ10 w10 hN hf hr
  have h89 := hv hf 1 rfl rfl
  have h1 := (hr 1 rfl).trans h1
  have Hb_b1_n := Hb_b1_.exn hN
  have hW := hW.trans hN
  have Hb_b1_ := Hb_b1_n
  refine WP.block (WP.seq (WP.rb mixed [[], [0]] [[89], []] [(91, .bool (d_.Kind == 4)), (90, .bool (d_.Kind == 4))] (by kernel_rfl) ⟨fun ρz wz hE hA ⟨e89, _⟩ _ => core_val rfl rfl (o_eql (e89.trans h89) rfl rfl),
 aU rfl rfl rfl, trivial⟩ ?_))
  intro ρ11 w11 hN hf hr
  have h90 := hv hf 1 rfl rfl
  obtain ⟨h1, h89⟩ := k2 hr h1 h89 rfl
  have Hb_b1_n := Hb_b1_.exn hN
  have hW := hW.trans hN
  have Hb_b1_ := Hb_b1_n
  refine WP.cond rfl h90 (fun hb => ?_) (fun hb => ?_)
  · have hF := (if_pos hb).symm.trans hF
    refine WP.seq (WP.rb mixed [[], [0], [], [2], [1, 3], [4]] [[1], [], [1], [], [], []] [(92, .pointer (some ((⟨b1_, 0, none⟩ : Addr).add 6))), (93, .int .i64 d_.State), (94, .pointer (some ((⟨b1_, 0, none⟩ : Addr).add 9))), (95, .int .i64 d_.Seat), (96, .bool (d_.State != d_.Seat)), (2, .bool (d_.State != d_.Seat))] (by kernel_rfl) ⟨fun ρz wz hE hA ⟨e1, _⟩ _ => core_val rfl rfl (o_fieldAddr (e1.trans h1) (fa_49_6 _ _)),
 fun ρz wz hE hA _ ⟨u0, _⟩ => core_val rfl rfl (o_load u0 (run_load1 (lr_3 _ _) (CA.sub ((Hb_b1_.exn (hA rfl)).ca) 6 1))),
 fun ρz wz hE hA ⟨e1, _⟩ _ => core_val rfl rfl (o_fieldAddr (e1.trans h1) (fa_49_8 _ _)),
 fun ρz wz hE hA _ ⟨u2, _⟩ => core_val rfl rfl (o_load u2 (run_load1 (lr_3 _ _) (CA.sub ((Hb_b1_.exn (hA rfl)).ca) 9 1))),
 fun ρz wz hE hA _ ⟨u1, u3, _⟩ => core_val rfl rfl (o_neq u1 u3 rfl),
 aU rfl rfl rfl, trivial⟩ ?_)
    intro ρ12 w12 hN hf hr
    have h2 := hv hf 5 rfl rfl
    have hW := hW.trans hN
    refine WP.ret ?_
    show retQ Try.prog 116 Try.f50 (fun v w1 => v = .bool r ∧ Ext noG w0 w1) .ret ρ12 w12
    obtain rfl := Option.some.inj hF
    exact res1 rfl (by decide) h2 ⟨rfl, hW⟩
  have hF := (if_neg (Bool.eq_false_iff.1 hb)).symm.trans hF
  refine WP.seqJ (fun ρ w => ∃ x : Bool, ρ 1 = .pointer (some ⟨b1_, 0, none⟩) ∧ ρ 89 = .int .i64 d_.Kind ∧ ρ 97 = .bool x ∧ Mb w b1_ 49 (api_Fact.cells d_) ∧ Ext noG w0 w ∧ fact_Valid_j d_ x = some r) ?_ ?_
  · refine WP.seq (WP.rb mixed [[], [0]] [[89], []] [(98, .bool (d_.Kind == 11)), (97, .bool (d_.Kind == 11))] (by kernel_rfl) ⟨fun ρz wz hE hA ⟨e89, _⟩ _ => core_val rfl rfl (o_eql (e89.trans h89) rfl rfl),
 aU rfl rfl rfl, trivial⟩ ?_)
    intro ρ20 w20 hN hf hr
    have h97 := hv hf 1 rfl rfl
    obtain ⟨h1, h89⟩ := k2 hr h1 h89 rfl
    have Hb_b1_n := Hb_b1_.exn hN
    have hW := hW.trans hN
    have Hb_b1_ := Hb_b1_n
    refine WP.cond rfl h97 (fun hb => ?_) (fun hb => ?_)
    · have hF := (if_pos hb).symm.trans hF
      refine WP.skip ?_
      exact ⟨(d_.Kind == 11), h1, h89, h97, Hb_b1_, hW, hF⟩
    have hF := (if_neg (Bool.eq_false_iff.1 hb)).symm.trans hF
    refine WP.rb mixed [[], [0]] [[89], []] [(99, .bool (d_.Kind == 12)), (97, .bool (d_.Kind == 12))] (by kernel_rfl) ⟨fun ρz wz hE hA ⟨e89, _⟩ _ => core_val rfl rfl (o_eql (e89.trans h89) rfl rfl),
 aU rfl rfl rfl, trivial⟩ ?_
    intro ρ21 w21 hN hf hr
    have h97 := hv hf 1 rfl rfl
    obtain ⟨h1, h89⟩ := k2 hr h1 h89 rfl
    have Hb_b1_n := Hb_b1_.exn hN
    have hW := hW.trans hN
    have Hb_b1_ := Hb_b1_n
    exact ⟨(d_.Kind == 12), h1, h89, h97, Hb_b1_, hW, hF⟩
  rintro ρ13 w13 ⟨x, h1, h89, h97, Hb_b1_, hW, hF⟩
  rw [fact_Valid_j] at hF
  refine WP.cond rfl h97 (fun hb => ?_) (fun hb => ?_)
  · have hF := (if_pos hb).symm.trans hF
    refine WP.seq (WP.rb mixed [[], [0], [1], [], [3], [4], [5], [2, 6], [7]] [[1], [], [], [1], [], [], [], [], []] [(100, .pointer (some ((⟨b1_, 0, none⟩ : Addr).add 7))), (101, .pointer (some (((⟨b1_, 0, none⟩ : Addr).add 7).add 1))), (102, .int .i64 d_.Span.To), (103, .pointer (some ((⟨b1_, 0, none⟩ : Addr).add 7))), (104, .pointer (some (((⟨b1_, 0, none⟩ : Addr).add 7).add 0))), (105, .int .i64 d_.Span.From), (106, .int .i64 (i64 (d_.Span.From + 1))), (107, .bool (d_.Span.To == i64 (d_.Span.From + 1))), (2, .bool (d_.Span.To == i64 (d_.Span.From + 1)))] (by kernel_rfl) ⟨fun ρz wz hE hA ⟨e1, _⟩ _ => core_val rfl rfl (o_fieldAddr (e1.trans h1) (fa_49_7 _ _)),
 fun ρz wz hE hA _ ⟨u0, _⟩ => core_val rfl rfl (o_fieldAddr u0 (fa_31_1 _ _)),
 fun ρz wz hE hA _ ⟨u1, _⟩ => core_val rfl rfl (o_load u1 (run_load1 (lr_3 _ _) (CA.sub (CA.sub ((Hb_b1_.exn (hA rfl)).ca) 7 2) 1 1))),
 fun ρz wz hE hA ⟨e1, _⟩ _ => core_val rfl rfl (o_fieldAddr (e1.trans h1) (fa_49_7 _ _)),
 fun ρz wz hE hA _ ⟨u3, _⟩ => core_val rfl rfl (o_fieldAddr u3 (fa_31_0 _ _)),
 fun ρz wz hE hA _ ⟨u4, _⟩ => core_val rfl rfl (o_load u4 (run_load1 (lr_3 _ _) (CA.sub (CA.sub ((Hb_b1_.exn (hA rfl)).ca) 7 2) 0 1))),
 fun ρz wz hE hA _ ⟨u5, _⟩ => core_val rfl rfl (o_add u5 rfl rfl),
 fun ρz wz hE hA _ ⟨u2, u6, _⟩ => core_val rfl rfl (o_eql u2 u6 rfl),
 aU rfl rfl rfl, trivial⟩ ?_)
    intro ρ14 w14 hN hf hr
    have h2 := hv hf 8 rfl rfl
    have hW := hW.trans hN
    refine WP.ret ?_
    show retQ Try.prog 116 Try.f50 (fun v w1 => v = .bool r ∧ Ext noG w0 w1) .ret ρ14 w14
    obtain rfl := Option.some.inj hF
    exact res1 rfl (by decide) h2 ⟨rfl, hW⟩
  have hF := (if_neg (Bool.eq_false_iff.1 hb)).symm.trans hF
  refine WP.seqJ (fun ρ w => ∃ x2 : Bool, ρ 1 = .pointer (some ⟨b1_, 0, none⟩) ∧ ρ 108 = .bool x2 ∧ Mb w b1_ 49 (api_Fact.cells d_) ∧ Ext noG w0 w ∧ fact_Valid_j2 d_ x2 = some r) ?_ ?_
  · refine WP.seq (WP.rb mixed [[], [0]] [[89], []] [(109, .bool (d_.Kind == 10)), (108, .bool (d_.Kind == 10))] (by kernel_rfl) ⟨fun ρz wz hE hA ⟨e89, _⟩ _ => core_val rfl rfl (o_eql (e89.trans h89) rfl rfl),
 aU rfl rfl rfl, trivial⟩ ?_)
    intro ρ18 w18 hN hf hr
    have h108 := hv hf 1 rfl rfl
    obtain ⟨h1, h89⟩ := k2 hr h1 h89 rfl
    have Hb_b1_n := Hb_b1_.exn hN
    have hW := hW.trans hN
    have Hb_b1_ := Hb_b1_n
    refine WP.cond rfl h108 (fun hb => ?_) (fun hb => ?_)
    · have hF := (if_pos hb).symm.trans hF
      refine WP.skip ?_
      exact ⟨(d_.Kind == 10), h1, h108, Hb_b1_, hW, hF⟩
    have hF := (if_neg (Bool.eq_false_iff.1 hb)).symm.trans hF
    refine WP.rb mixed [[], [0]] [[89], []] [(110, .bool (d_.Kind == 14)), (108, .bool (d_.Kind == 14))] (by kernel_rfl) ⟨fun ρz wz hE hA ⟨e89, _⟩ _ => core_val rfl rfl (o_eql (e89.trans h89) rfl rfl),
 aU rfl rfl rfl, trivial⟩ ?_
    intro ρ19 w19 hN hf hr
    have h108 := hv hf 1 rfl rfl
    have h1 := (hr 1 rfl).trans h1
    have Hb_b1_n := Hb_b1_.exn hN
    have hW := hW.trans hN
    have Hb_b1_ := Hb_b1_n
    exact ⟨(d_.Kind == 14), h1, h108, Hb_b1_, hW, hF⟩
  rintro ρ15 w15 ⟨x2, h1, h108, Hb_b1_, hW, hF⟩
  rw [fact_Valid_j2] at hF
  refine WP.cond rfl h108 (fun hb => ?_) (fun hb => ?_)
  · have hF := (if_pos hb).symm.trans hF
    refine WP.seq (WP.rb mixed [[], [0], [], [2], [1, 3], [4]] [[1], [], [1], [], [], []] [(111, .pointer (some ((⟨b1_, 0, none⟩ : Addr).add 13))), (112, .int .i64 d_.Ref), (113, .pointer (some ((⟨b1_, 0, none⟩ : Addr).add 4))), (114, .int .i64 d_.Person), (115, .bool (d_.Ref != d_.Person)), (2, .bool (d_.Ref != d_.Person))] (by kernel_rfl) ⟨fun ρz wz hE hA ⟨e1, _⟩ _ => core_val rfl rfl (o_fieldAddr (e1.trans h1) (fa_49_12 _ _)),
 fun ρz wz hE hA _ ⟨u0, _⟩ => core_val rfl rfl (o_load u0 (run_load1 (lr_3 _ _) (CA.sub ((Hb_b1_.exn (hA rfl)).ca) 13 1))),
 fun ρz wz hE hA ⟨e1, _⟩ _ => core_val rfl rfl (o_fieldAddr (e1.trans h1) (fa_49_4 _ _)),
 fun ρz wz hE hA _ ⟨u2, _⟩ => core_val rfl rfl (o_load u2 (run_load1 (lr_3 _ _) (CA.sub ((Hb_b1_.exn (hA rfl)).ca) 4 1))),
 fun ρz wz hE hA _ ⟨u1, u3, _⟩ => core_val rfl rfl (o_neq u1 u3 rfl),
 aU rfl rfl rfl, trivial⟩ ?_)
    intro ρ16 w16 hN hf hr
    have h2 := hv hf 5 rfl rfl
    have hW := hW.trans hN
    refine WP.ret ?_
    show retQ Try.prog 116 Try.f50 (fun v w1 => v = .bool r ∧ Ext noG w0 w1) .ret ρ16 w16
    obtain rfl := Option.some.inj hF
    exact res1 rfl (by decide) h2 ⟨rfl, hW⟩
  have hF := (if_neg (Bool.eq_false_iff.1 hb)).symm.trans hF
  refine WP.skip (WP.seq (WP.rb mixed [[]] [[]] [(2, .bool true)] (by kernel_rfl) ⟨aC rfl rfl (fun _ => rfl), trivial⟩ ?_))
  intro ρ17 w17 hN hf hr
  have h2 := hv hf 0 rfl rfl
  have hW := hW.trans hN
  refine WP.ret ?_
  show retQ Try.prog 116 Try.f50 (fun v w1 => v = .bool r ∧ Ext noG w0 w1) .ret ρ17 w17
  obtain rfl := Option.some.inj hF
  exact res1 rfl (by decide) h2 ⟨rfl, hW⟩

set_option maxHeartbeats 4000000 in
theorem career_current_ok {w0 : World} (f_ : api_Fact) {r : Bool} (hF : career_current f_ = some r) :
    Calls Try.prog 40 #[api_Fact.val f_] w0 fun e w1 => e = .returned (.bool r) ∧ Ext noG w0 w1 := by
  refine (Calls.start (P := Try.prog) (args := [api_Fact.val f_]) (R := fun v w1 => v = .bool r ∧ Ext noG w0 w1) (n := 10) (w := w0) Try.func40 rfl rfl (Nat.le_of_ble_eq_true rfl) (fun ρ hargs => ?_)).mono (fun e w1 ⟨v, he, hv, hE⟩ => ⟨hv ▸ he, hE⟩)
  have h0 := hargs 0 _ rfl
  have hW := Ext.refl noG w0
  rw [career_current] at hF
  refine WP.seq (WP.rg mixed [[], []] [[], []] [[0], []] [(1, fun u wz => ∃ b, u = .pointer (some ⟨b, 0, none⟩) ∧ w0.heap.size ≤ b ∧ Mb wz b 49 (api_Fact.cells f_)), val 2 (.bool false)] (by kernel_rfl) ⟨fun _ _ _ hE ⟨b, hb, hs, hM⟩ => ⟨b, hb, hs, hM.exn hE⟩, sV, trivial⟩ ⟨fun ρz wz hE hA ⟨e0, _⟩ _ => core_new rfl rfl hE (o_box (e0.trans h0) (bx_49 _ _)),
 aC rfl rfl (fun _ => rfl), trivial⟩ ?_)
  intro ρ1 w1 hN hf hr
  obtain ⟨b1_, h1, hge_b1_, Hb_b1_⟩ := hf 0 rfl
  have hB_b1_ : w0.heap.size ≤ b1_ := Nat.le_trans hW.size hge_b1_
  have hW := hW.trans hN
  refine WP.seq ?_
  obtain ⟨z, hz, hF⟩ := obind hF
  refine WP.rb mixed [[], [0], [1], [2], [2, 3], [2, 4], [2, 5], [6]] [[1], [], [], [1], [], [], [], []] [(3, api_Fact.val f_), (4, .bool z), (5, .bool z), (6, gv (z) (.pointer (some ((⟨b1_, 0, none⟩ : Addr).add 3)))), (7, gv (z) (.bool f_.Withdrawn)), (8, gv (z) (.bool (!f_.Withdrawn))), (9, .bool (z && (!f_.Withdrawn))), (2, .bool (z && (!f_.Withdrawn)))] (by kernel_rfl) ⟨fun ρz wz hE hA ⟨e1, _⟩ _ => core_val rfl rfl (o_load (e1.trans h1) (run_loadN (cs := (api_Fact.cells f_)) (lr_49 _ _) rfl ((Hb_b1_.exn (hA rfl)).ca))),
 fun ρz wz hE hA _ ⟨u0, _⟩ => core_call rfl (call_args1 u0) cf_50 (fact_Valid_ok  _  hz),
 mU rfl rfl rfl,
 fun ρz wz hE hA ⟨e1, _⟩ ⟨u2, _⟩ => gIf rfl rfl (yT rfl u2) fun gc F hF => core_val rfl hF (o_fieldAddr (e1.trans h1) (fa_49_3 _ _)),
 fun ρz wz hE hA _ ⟨u2, u3, _⟩ => gIf rfl rfl (yT rfl u2) fun gc F hF => core_val rfl hF (o_load (gt gc u3) (run_load1 (lr_4 _ _) (CA.sub ((Hb_b1_.exn (hA rfl)).ca) 3 1))),
 fun ρz wz hE hA _ ⟨u2, u4, _⟩ => gIf rfl rfl (yT rfl u2) fun gc F hF => core_val rfl hF (o_not (gt gc u4) rfl),
 fun ρz wz hE hA _ ⟨u2, u5, _⟩ => core_val rfl rfl (o_pick_and u2 u5 rfl),
 aU rfl rfl rfl, trivial⟩ ?_
  intro ρ2 w2 hN hf hr
  have h2 := hv hf 7 rfl rfl
  have hW := hW.trans hN
  refine WP.ret ?_
  show retQ Try.prog 10 Try.f40 (fun v w1 => v = .bool r ∧ Ext noG w0 w1) .ret ρ2 w2
  obtain rfl := Option.some.inj hF
  exact res1 rfl (by decide) h2 ⟨rfl, hW⟩

set_option maxHeartbeats 4000000 in
theorem career_first_ok {w0 : World} (l_ : List api_Fact) (kind_ : Int) {v_l_ : Value} (H_l_ : RepSl api_Fact.R noG w0 v_l_ l_) {r : Int × Bool} (hF : career_first l_ kind_ = some r) :
    Calls Try.prog 69 #[v_l_, .int .i64 kind_] w0 fun e w1 => e = .returned (.tuple #[.int .i64 r.1, .bool r.2]) ∧ Ext noG w0 w1 := by
  refine (Calls.start (P := Try.prog) (args := [v_l_, .int .i64 kind_]) (R := fun v w1 => v = .tuple #[.int .i64 r.1, .bool r.2] ∧ Ext noG w0 w1) (n := 41) (w := w0) Try.func69 rfl rfl (Nat.le_of_ble_eq_true rfl) (fun ρ hargs => ?_)).mono (fun e w1 ⟨v, he, hv, hE⟩ => ⟨hv ▸ he, hE⟩)
  have h0 := hargs 0 _ rfl
  have h1 := hargs 1 _ rfl
  have hW := Ext.refl noG w0
  obtain ⟨_, _, hs_H_l_, _, _⟩ := RepSl.shape H_l_
  have H_l_ := H_l_.start
  rw [career_first] at hF
  refine WP.seq (WP.rb mixed [[], []] [[], []] [(4, .int .i64 0), (5, .bool false)] (by kernel_rfl) ⟨aC rfl rfl (fun _ => rfl),
 aC rfl rfl (fun _ => rfl), trivial⟩ ?_)
  intro ρ1 w1 hN hf hr
  obtain ⟨h0, h1⟩ := k2 hr h0 h1 rfl
  have H_l_ := H_l_.exn hN
  have hW := hW.trans hN
  refine WP.seq (WP.rb mixed [[], []] [[], []] [(6, .int .i64 0), (7, .bool false)] (by kernel_rfl) ⟨aC rfl rfl (fun _ => rfl),
 aC rfl rfl (fun _ => rfl), trivial⟩ ?_)
  intro ρ2 w2 hN hf hr
  have h6 := hv hf 0 rfl rfl
  have h7 := hv hf 1 rfl rfl
  obtain ⟨h0, h1⟩ := k2 hr h0 h1 rfl
  have H_l_ := H_l_.exn hN
  have hW := hW.trans hN
  refine WP.seq (WP.seq (WP.rb mixed [[], [0], []] [[0], [], []] [(10, v_l_), (11, .int .i64 (l_.length : Int)), (12, .int .i64 0)] (by kernel_rfl) ⟨mE rfl rfl h0,
 fun ρz wz hE hA _ ⟨u0, _⟩ => core_val rfl rfl (o_len (u0.trans hs_H_l_) len_24),
 mC rfl rfl (fun _ => rfl), trivial⟩ ?_))
  intro ρ3 w3 hN hf hr
  have h10 := hv hf 0 rfl rfl
  have h11 := hv hf 1 rfl rfl
  have h12 := hv hf 2 rfl rfl
  obtain ⟨h1, h6, h7⟩ := k3 hr h1 h6 h7 rfl
  have H_l_ := H_l_.exn hN
  have hW := hW.trans hN
  refine WP.block (WP.loop (fun k_ ρ w => ∃ day_ : Int, ∃ ok_ : Bool, ∃ x : Int, ρ 1 = .int .i64 kind_ ∧ ρ 6 = .int .i64 day_ ∧ ρ 7 = .bool ok_ ∧ ρ 10 = v_l_ ∧ ρ 11 = .int .i64 (l_.length : Int) ∧ ρ 12 = .int .i64 x ∧ RepSl api_Fact.R (gfr noG w0) w v_l_ l_ ∧ Ext noG w0 w ∧ loopC k_ (career_first_l l_ kind_) (day_, ok_, x) = some r) FU ⟨0, false, 0, h1, h6, h7, h10, h11, h12, H_l_, hW, hF⟩ (fun _ _ h => by obtain ⟨_, _, _, _, _, _, _, _, _, _, _, h⟩ := h; cases h) ?_)
  rintro k_ ρ4 w4 ⟨day_, ok_, x, h1, h6, h7, h10, h11, h12, H_l_, hW, hF⟩
  have hF : career_first_l l_ kind_ (loopC k_ (career_first_l l_ kind_)) (day_, ok_, x) = some r := hF
  generalize hrec_ : loopC k_ (career_first_l l_ kind_) = rec_ at hF
  rw [career_first_l] at hF
  refine WP.seq (WP.rb mixed [[]] [[12, 11]] [(13, .bool (decide (x < (l_.length : Int))))] (by kernel_rfl) ⟨fun ρz wz hE hA ⟨e12, e11, _⟩ _ => core_val rfl rfl (o_lss (e12.trans h12) (e11.trans h11) rfl), trivial⟩ ?_)
  intro ρ5 w5 hN hf hr
  have h13 := hv hf 0 rfl rfl
  obtain ⟨h1, h6, h7, h10, h11, h12⟩ := k6 hr h1 h6 h7 h10 h11 h12 rfl
  have H_l_ := H_l_.exn hN
  have hW := hW.trans hN
  refine WP.seq (WP.cond rfl h13 (fun hb => ?_) (fun hb => ?_))
  · have hF := (if_pos hb).symm.trans hF
    refine WP.skip (WP.seqJ (fun ρ w => ∃ day_2 : Int, ∃ ok_2 : Bool, ρ 1 = .int .i64 kind_ ∧ ρ 6 = .int .i64 day_2 ∧ ρ 7 = .bool ok_2 ∧ ρ 10 = v_l_ ∧ ρ 11 = .int .i64 (l_.length : Int) ∧ ρ 12 = .int .i64 x ∧ RepSl api_Fact.R (gfr noG w0) w v_l_ l_ ∧ Ext noG w0 w ∧ career_first_j x rec_ day_2 ok_2 = some r) ?_ ?_)
    · refine WP.block (WP.seq ?_)
      obtain ⟨y, hy, hF⟩ := obind hF
      obtain ⟨ay, cy, hvy, hiy, hAy⟩ := RepSl.getF H_l_ hy
      refine WP.region mixed [[], [0], [], [1, 2]] [[], [0], [], [1, 2]] [[10, 12], [], [], []] [3] [(2, 3)] [val 14 (.pointer (some (ay.add (Int.toNat x * 14)))), val 15 (api_Fact.val y), (9, fun u wz => ∃ b, u = .pointer (some ⟨b, 0, none⟩) ∧ w5.heap.size ≤ b ∧ Mb wz b 49 (api_Fact.cells (⟨0, 0, 0, false, 0, 0, 0, (⟨0, 0⟩ : Span), 0, 0, 0, 0, 0⟩ : api_Fact))), (9, fun u wz => ∃ b, u = .pointer (some ⟨b, 0, none⟩) ∧ w5.heap.size ≤ b ∧ Mb wz b 49 (api_Fact.cells y))] (fun b => w5.heap.size ≤ b) (by kernel_rfl) ⟨sV, sV, fun _ _ _ hE ⟨b, hb, hs, hM⟩ => ⟨b, hb, hs, hM.exn hE⟩, fun _ _ _ hE ⟨b, hb, hs, hM⟩ => ⟨b, hb, hs, hM.exn hE⟩, trivial⟩ ⟨fun ρz wz hE hA ⟨e10, e12, _⟩ _ => core_val rfl rfl (o_indexAddr ((e10.trans h10).trans hvy) (e12.trans h12) (ia_24 hiy)),
 fun ρz wz hE hA _ ⟨u0, _⟩ => core_val rfl rfl (o_load u0 (run_loadN (cs := (api_Fact.cells y)) (lr_49 _ _) rfl ((hAy.exn hE.fresh).ca))),
 fun ρz wz hE hA _ _ => core_new rfl rfl hE (o_alloc (al_49 _)),
 fun ρz wz hE hA _ ⟨u1, u2, _⟩ => core_storeNew rfl rfl rfl rfl u1 u2 (fun a w => st_49 _ a w) rfl (one_49 _), trivial⟩ ?_
      intro ρ8 w8 hE hN hf hr
      have hN := hE.fresh
      obtain ⟨b9_, h9, hge_b9_, Hb_b9_⟩ := hf 3 rfl
      obtain ⟨h1, h6, h7, h10, h11, h12⟩ := k6 hr h1 h6 h7 h10 h11 h12 rfl
      have H_l_ := H_l_.exn hN
      have hB_b9_ : w0.heap.size ≤ b9_ := Nat.le_trans hW.size hge_b9_
      have hW := hW.trans hN
      refine WP.seq ?_
      obtain ⟨z, hz, hF⟩ := obind hF
      refine WP.rb mixed [[], [0], [1], [2], [2, 3], [2], [2, 4, 5], [2, 6], [7], [8], [8, 9], [8, 10], [11], [11, 12], [11, 13], [11], [11, 14, 15], [8, 11, 16], [8, 17]] [[9], [], [], [9], [], [1], [], [], [], [7], [], [], [9], [], [], [6], [], [], []] [(16, api_Fact.val y), (17, .bool z), (18, .bool z), (19, gv (z) (.pointer (some ((⟨b9_, 0, none⟩ : Addr).add 5)))), (20, gv (z) (.int .i64 y.Kind)), (21, gv (z) (.int .i64 kind_)), (22, gv (z) (.bool (y.Kind == kind_))), (23, .bool (z && (y.Kind == kind_))), (24, .bool (z && (y.Kind == kind_))), (25, gv ((z && (y.Kind == kind_))) (.bool ok_)), (26, gv ((z && (y.Kind == kind_))) (.bool (!ok_))), (27, gv ((z && (y.Kind == kind_))) (.bool (!ok_))), (28, gv (((z && (y.Kind == kind_))) && !(!ok_)) (.pointer (some ((⟨b9_, 0, none⟩ : Addr).add 7)))), (29, gv (((z && (y.Kind == kind_))) && !(!ok_)) (.pointer (some (((⟨b9_, 0, none⟩ : Addr).add 7).add 0)))), (30, gv (((z && (y.Kind == kind_))) && !(!ok_)) (.int .i64 y.Span.From)), (31, gv (((z && (y.Kind == kind_))) && !(!ok_)) (.int .i64 day_)), (32, gv (((z && (y.Kind == kind_))) && !(!ok_)) (.bool (decide (y.Span.From < day_)))), (33, gv ((z && (y.Kind == kind_))) (.bool ((!ok_) || decide (y.Span.From < day_)))), (34, .bool ((z && (y.Kind == kind_)) && ((!ok_) || decide (y.Span.From < day_))))] (by kernel_rfl) ⟨fun ρz wz hE hA ⟨e9, _⟩ _ => core_val rfl rfl (o_load (e9.trans h9) (run_loadN (cs := (api_Fact.cells y)) (lr_49 _ _) rfl ((Hb_b9_.exn (hA rfl)).ca))),
 fun ρz wz hE hA _ ⟨u0, _⟩ => core_call rfl (call_args1 u0) cf_40 (career_current_ok  _  hz),
 mU rfl rfl rfl,
 fun ρz wz hE hA ⟨e9, _⟩ ⟨u2, _⟩ => gIf rfl rfl (yT rfl u2) fun gc F hF => core_val rfl hF (o_fieldAddr (e9.trans h9) (fa_49_5 _ _)),
 fun ρz wz hE hA _ ⟨u2, u3, _⟩ => gIf rfl rfl (yT rfl u2) fun gc F hF => core_val rfl hF (o_load (gt gc u3) (run_load1 (lr_3 _ _) (CA.sub ((Hb_b9_.exn (hA rfl)).ca) 5 1))),
 fun ρz wz hE hA ⟨e1, _⟩ ⟨u2, _⟩ => gIf rfl rfl (yT rfl u2) fun gc F hF => core_val rfl hF (o_move (e1.trans h1)),
 fun ρz wz hE hA _ ⟨u2, u4, u5, _⟩ => gIf rfl rfl (yT rfl u2) fun gc F hF => core_val rfl hF (o_eql (gt gc u4) (gt gc u5) rfl),
 fun ρz wz hE hA _ ⟨u2, u6, _⟩ => core_val rfl rfl (o_pick_and u2 u6 rfl),
 mU rfl rfl rfl,
 fun ρz wz hE hA ⟨e7, _⟩ ⟨u8, _⟩ => gIf rfl rfl (yT rfl u8) fun gc F hF => core_val rfl hF (o_move (e7.trans h7)),
 fun ρz wz hE hA _ ⟨u8, u9, _⟩ => gIf rfl rfl (yT rfl u8) fun gc F hF => core_val rfl hF (o_not (gt gc u9) rfl),
 fun ρz wz hE hA _ ⟨u8, u10, _⟩ => gIf rfl rfl (yT rfl u8) fun gc F hF => core_val rfl hF (o_move (gt gc u10)),
 fun ρz wz hE hA ⟨e9, _⟩ ⟨u11, _⟩ => gIf rfl rfl (yFG rfl u11) fun gc F hF => core_val rfl hF (o_fieldAddr (e9.trans h9) (fa_49_7 _ _)),
 fun ρz wz hE hA _ ⟨u11, u12, _⟩ => gIf rfl rfl (yFG rfl u11) fun gc F hF => core_val rfl hF (o_fieldAddr (gt gc u12) (fa_31_0 _ _)),
 fun ρz wz hE hA _ ⟨u11, u13, _⟩ => gIf rfl rfl (yFG rfl u11) fun gc F hF => core_val rfl hF (o_load (gt gc u13) (run_load1 (lr_3 _ _) (CA.sub (CA.sub ((Hb_b9_.exn (hA rfl)).ca) 7 2) 0 1))),
 fun ρz wz hE hA ⟨e6, _⟩ ⟨u11, _⟩ => gIf rfl rfl (yFG rfl u11) fun gc F hF => core_val rfl hF (o_move (e6.trans h6)),
 fun ρz wz hE hA _ ⟨u11, u14, u15, _⟩ => gIf rfl rfl (yFG rfl u11) fun gc F hF => core_val rfl hF (o_lss (gt gc u14) (gt gc u15) rfl),
 fun ρz wz hE hA _ ⟨u8, u11, u16, _⟩ => gIf rfl rfl (yT rfl u8) fun gc F hF => core_val rfl hF (o_pick_or (gt gc u11) rfl (gr gc u16)),
 fun ρz wz hE hA _ ⟨u8, u17, _⟩ => core_val rfl rfl (o_pick_and u8 u17 rfl), trivial⟩ ?_
      intro ρ9 w9 hN hf hr
      have h34 := hv hf 18 rfl rfl
      obtain ⟨h1, h6, h7, h10, h11, h12⟩ := k6 hr h1 h6 h7 h10 h11 h12 rfl
      have h9 := (hr 9 rfl).trans h9
      have Hb_b9_n := Hb_b9_.exn hN
      have H_l_ := H_l_.exn hN
      have hW := hW.trans hN
      have Hb_b9_ := Hb_b9_n
      refine WP.cond rfl h34 (fun hb => ?_) (fun hb => ?_)
      · have hF := (if_pos hb).symm.trans hF
        refine WP.rb mixed [[], [0], [1], [2], []] [[9], [], [], [], []] [(35, .pointer (some ((⟨b9_, 0, none⟩ : Addr).add 7))), (36, .pointer (some (((⟨b9_, 0, none⟩ : Addr).add 7).add 0))), (37, .int .i64 y.Span.From), (6, .int .i64 y.Span.From), (7, .bool true)] (by kernel_rfl) ⟨fun ρz wz hE hA ⟨e9, _⟩ _ => core_val rfl rfl (o_fieldAddr (e9.trans h9) (fa_49_7 _ _)),
 fun ρz wz hE hA _ ⟨u0, _⟩ => core_val rfl rfl (o_fieldAddr u0 (fa_31_0 _ _)),
 fun ρz wz hE hA _ ⟨u1, _⟩ => core_val rfl rfl (o_load u1 (run_load1 (lr_3 _ _) (CA.sub (CA.sub ((Hb_b9_.exn (hA rfl)).ca) 7 2) 0 1))),
 aU rfl rfl rfl,
 aC rfl rfl (fun _ => rfl), trivial⟩ ?_
        intro ρ10 w10 hN hf hr
        have h6 := hv hf 3 rfl rfl
        have h7 := hv hf 4 rfl rfl
        obtain ⟨h1, h10, h11, h12⟩ := k4 hr h1 h10 h11 h12 rfl
        have H_l_ := H_l_.exn hN
        have hW := hW.trans hN
        exact ⟨y.Span.From, true, h1, h6, h7, h10, h11, h12, H_l_, hW, hF⟩
      have hF := (if_neg (Bool.eq_false_iff.1 hb)).symm.trans hF
      refine WP.skip ?_
      exact ⟨day_, ok_, h1, h6, h7, h10, h11, h12, H_l_, hW, hF⟩
    rintro ρ6 w6 ⟨day_2, ok_2, h1, h6, h7, h10, h11, h12, H_l_, hW, hF⟩
    rw [career_first_j] at hF
    refine WP.rb mixed [[], [0]] [[12], []] [(38, .int .i64 (i64 (x + 1))), (12, .int .i64 (i64 (x + 1)))] (by kernel_rfl) ⟨fun ρz wz hE hA ⟨e12, _⟩ _ => core_val rfl rfl (o_add (e12.trans h12) rfl rfl),
 mU rfl rfl rfl, trivial⟩ ?_
    intro ρ7 w7 hN hf hr
    have h12 := hv hf 1 rfl rfl
    obtain ⟨h1, h6, h7, h10, h11⟩ := k5 hr h1 h6 h7 h10 h11 rfl
    have H_l_ := H_l_.exn hN
    have hW := hW.trans hN
    exact ⟨day_2, ok_2, i64 (x + 1), h1, h6, h7, h10, h11, h12, H_l_, hW, (by first | exact hF | (rw [hrec_]; exact hF))⟩
  have hF := (if_neg (Bool.eq_false_iff.1 hb)).symm.trans hF
  refine WP.exit (thenQ_exit (thenQ_exit (blockQ_hit (WP.seq (WP.rb mixed [[], [], [0], [1]] [[6], [7], [], []] [(39, .int .i64 day_), (40, .bool ok_), (4, .int .i64 day_), (5, .bool ok_)] (by kernel_rfl) ⟨mE rfl rfl h6,
 mE rfl rfl h7,
 aU rfl rfl rfl,
 aU rfl rfl rfl, trivial⟩ ?_)))))
  intro ρ11 w11 hN hf hr
  have h4 := hv hf 2 rfl rfl
  have h5 := hv hf 3 rfl rfl
  have hW := hW.trans hN
  refine WP.ret ?_
  show retQ Try.prog 41 Try.f69 (fun v w1 => v = .tuple #[.int .i64 r.1, .bool r.2] ∧ Ext noG w0 w1) .ret ρ11 w11
  obtain rfl := Option.some.inj hF
  exact res2 rfl (by decide) (by decide) h4 h5 ⟨rfl, hW⟩

set_option maxHeartbeats 4000000 in
theorem career_Birth_ok {w0 : World} (l_ : List api_Fact) {v_l_ : Value} (H_l_ : RepSl api_Fact.R noG w0 v_l_ l_) {r : Int × Bool} (hF : career_Birth l_ = some r) :
    Calls Try.prog 51 #[v_l_] w0 fun e w1 => e = .returned (.tuple #[.int .i64 r.1, .bool r.2]) ∧ Ext noG w0 w1 := by
  refine (Calls.start (P := Try.prog) (args := [v_l_]) (R := fun v w1 => v = .tuple #[.int .i64 r.1, .bool r.2] ∧ Ext noG w0 w1) (n := 8) (w := w0) Try.func51 rfl rfl (Nat.le_of_ble_eq_true rfl) (fun ρ hargs => ?_)).mono (fun e w1 ⟨v, he, hv, hE⟩ => ⟨hv ▸ he, hE⟩)
  have h0 := hargs 0 _ rfl
  have hW := Ext.refl noG w0
  obtain ⟨_, _, hs_H_l_, _, _⟩ := RepSl.shape H_l_
  have H_l_ := H_l_.start
  rw [career_Birth] at hF
  refine WP.seq (WP.rb mixed [[], []] [[], []] [(2, .int .i64 0), (3, .bool false)] (by kernel_rfl) ⟨aC rfl rfl (fun _ => rfl),
 aC rfl rfl (fun _ => rfl), trivial⟩ ?_)
  intro ρ1 w1 hN hf hr
  have h0 := (hr 0 rfl).trans h0
  have H_l_ := H_l_.exn hN
  have hW := hW.trans hN
  refine WP.seq ?_
  obtain ⟨z, hz, hF⟩ := obind hF
  refine WP.rb mixed [[], [0], [1], [1], [2], [3]] [[0], [], [], [], [], []] [(4, v_l_), (5, .tuple #[.int .i64 z.1, .bool z.2]), (6, .int .i64 z.1), (7, .bool z.2), (2, .int .i64 z.1), (3, .bool z.2)] (by kernel_rfl) ⟨mE rfl rfl h0,
 fun ρz wz hE hA _ ⟨u0, _⟩ => core_call rfl (call_args2 u0 rfl) cf_69 (career_first_ok  _ _ (H_l_.exn (hA rfl)).no hz),
 fun ρz wz hE hA _ ⟨u1, _⟩ => core_val rfl rfl (o_extract u1 (by kernel_rfl)),
 fun ρz wz hE hA _ ⟨u1, _⟩ => core_val rfl rfl (o_extract u1 (by kernel_rfl)),
 aU rfl rfl rfl,
 aU rfl rfl rfl, trivial⟩ ?_
  intro ρ2 w2 hN hf hr
  have h2 := hv hf 4 rfl rfl
  have h3 := hv hf 5 rfl rfl
  have hW := hW.trans hN
  refine WP.ret ?_
  show retQ Try.prog 8 Try.f51 (fun v w1 => v = .tuple #[.int .i64 r.1, .bool r.2] ∧ Ext noG w0 w1) .ret ρ2 w2
  obtain rfl := Option.some.inj hF
  exact res2 rfl (by decide) (by decide) h2 h3 ⟨rfl, hW⟩

set_option maxHeartbeats 4000000 in
theorem career_Death_ok {w0 : World} (l_ : List api_Fact) {v_l_ : Value} (H_l_ : RepSl api_Fact.R noG w0 v_l_ l_) {r : Int × Bool} (hF : career_Death l_ = some r) :
    Calls Try.prog 52 #[v_l_] w0 fun e w1 => e = .returned (.tuple #[.int .i64 r.1, .bool r.2]) ∧ Ext noG w0 w1 := by
  refine (Calls.start (P := Try.prog) (args := [v_l_]) (R := fun v w1 => v = .tuple #[.int .i64 r.1, .bool r.2] ∧ Ext noG w0 w1) (n := 8) (w := w0) Try.func52 rfl rfl (Nat.le_of_ble_eq_true rfl) (fun ρ hargs => ?_)).mono (fun e w1 ⟨v, he, hv, hE⟩ => ⟨hv ▸ he, hE⟩)
  have h0 := hargs 0 _ rfl
  have hW := Ext.refl noG w0
  obtain ⟨_, _, hs_H_l_, _, _⟩ := RepSl.shape H_l_
  have H_l_ := H_l_.start
  rw [career_Death] at hF
  refine WP.seq (WP.rb mixed [[], []] [[], []] [(2, .int .i64 0), (3, .bool false)] (by kernel_rfl) ⟨aC rfl rfl (fun _ => rfl),
 aC rfl rfl (fun _ => rfl), trivial⟩ ?_)
  intro ρ1 w1 hN hf hr
  have h0 := (hr 0 rfl).trans h0
  have H_l_ := H_l_.exn hN
  have hW := hW.trans hN
  refine WP.seq ?_
  obtain ⟨z, hz, hF⟩ := obind hF
  refine WP.rb mixed [[], [0], [1], [1], [2], [3]] [[0], [], [], [], [], []] [(4, v_l_), (5, .tuple #[.int .i64 z.1, .bool z.2]), (6, .int .i64 z.1), (7, .bool z.2), (2, .int .i64 z.1), (3, .bool z.2)] (by kernel_rfl) ⟨mE rfl rfl h0,
 fun ρz wz hE hA _ ⟨u0, _⟩ => core_call rfl (call_args2 u0 rfl) cf_69 (career_first_ok  _ _ (H_l_.exn (hA rfl)).no hz),
 fun ρz wz hE hA _ ⟨u1, _⟩ => core_val rfl rfl (o_extract u1 (by kernel_rfl)),
 fun ρz wz hE hA _ ⟨u1, _⟩ => core_val rfl rfl (o_extract u1 (by kernel_rfl)),
 aU rfl rfl rfl,
 aU rfl rfl rfl, trivial⟩ ?_
  intro ρ2 w2 hN hf hr
  have h2 := hv hf 4 rfl rfl
  have h3 := hv hf 5 rfl rfl
  have hW := hW.trans hN
  refine WP.ret ?_
  show retQ Try.prog 8 Try.f52 (fun v w1 => v = .tuple #[.int .i64 r.1, .bool r.2] ∧ Ext noG w0 w1) .ret ρ2 w2
  obtain rfl := Option.some.inj hF
  exact res2 rfl (by decide) (by decide) h2 h3 ⟨rfl, hW⟩

set_option maxHeartbeats 4000000 in
theorem career_Life_ok {w0 : World} (l_ : List api_Fact) {v_l_ : Value} (H_l_ : RepSl api_Fact.R noG w0 v_l_ l_) {r : Span} (hF : career_Life l_ = some r) :
    Calls Try.prog 41 #[v_l_] w0 fun e w1 => e = .returned (Span.val r) ∧ Ext noG w0 w1 := by
  refine (Calls.start (P := Try.prog) (args := [v_l_]) (R := fun v w1 => v = Span.val r ∧ Ext noG w0 w1) (n := 27) (w := w0) Try.func41 rfl rfl (Nat.le_of_ble_eq_true rfl) (fun ρ hargs => ?_)).mono (fun e w1 ⟨v, he, hv, hE⟩ => ⟨hv ▸ he, hE⟩)
  have h0 := hargs 0 _ rfl
  have hW := Ext.refl noG w0
  obtain ⟨_, _, hs_H_l_, _, _⟩ := RepSl.shape H_l_
  have H_l_ := H_l_.start
  rw [career_Life] at hF
  refine WP.seq (WP.rg mixed [[]] [[]] [[]] [(2, fun u wz => ∃ b, u = .pointer (some ⟨b, 0, none⟩) ∧ w0.heap.size ≤ b ∧ Mb wz b 31 (Span.cells (⟨0, 0⟩ : Span)))] (by kernel_rfl) ⟨fun _ _ _ hE ⟨b, hb, hs, hM⟩ => ⟨b, hb, hs, hM.exn hE⟩, trivial⟩ ⟨fun ρz wz hE hA _ _ => core_new rfl rfl hE (o_alloc (al_31 _)), trivial⟩ ?_)
  intro ρ1 w1 hN hf hr
  obtain ⟨b2_, h2, hge_b2_, Hb_b2_⟩ := hf 0 rfl
  have h0 := (hr 0 rfl).trans h0
  have H_l_ := H_l_.exn hN
  have hB_b2_ : w0.heap.size ≤ b2_ := Nat.le_trans hW.size hge_b2_
  have hW := hW.trans hN
  refine WP.seq ?_
  obtain ⟨z, hz, hF⟩ := obind hF
  refine WP.rb mixed [[], [0], [1], [2], [2], [3], [4]] [[0], [], [], [], [], [], []] [(8, v_l_), (9, .tuple #[.int .i64 z.1, .bool z.2]), (7, .tuple #[.int .i64 z.1, .bool z.2]), (10, .int .i64 z.1), (11, .bool z.2), (3, .int .i64 z.1), (4, .bool z.2)] (by kernel_rfl) ⟨mE rfl rfl h0,
 fun ρz wz hE hA _ ⟨u0, _⟩ => core_call rfl (call_args1 u0) cf_51 (career_Birth_ok  _ (H_l_.exn (hA rfl)).no hz),
 mU rfl rfl rfl,
 fun ρz wz hE hA _ ⟨u2, _⟩ => core_val rfl rfl (o_extract u2 (by kernel_rfl)),
 fun ρz wz hE hA _ ⟨u2, _⟩ => core_val rfl rfl (o_extract u2 (by kernel_rfl)),
 aU rfl rfl rfl,
 aU rfl rfl rfl, trivial⟩ ?_
  intro ρ2 w2 hN hf hr
  have h3 := hv hf 5 rfl rfl
  obtain ⟨h0, h2⟩ := k2 hr h0 h2 rfl
  have Hb_b2_n := Hb_b2_.exn hN
  have H_l_ := H_l_.exn hN
  have hW := hW.trans hN
  have Hb_b2_ := Hb_b2_n
  refine WP.seq ?_
  obtain ⟨z2, hz2, hF⟩ := obind hF
  refine WP.rb mixed [[], [0], [1], [2], [2], [3], [4]] [[0], [], [], [], [], [], []] [(13, v_l_), (14, .tuple #[.int .i64 z2.1, .bool z2.2]), (12, .tuple #[.int .i64 z2.1, .bool z2.2]), (15, .int .i64 z2.1), (16, .bool z2.2), (5, .int .i64 z2.1), (6, .bool z2.2)] (by kernel_rfl) ⟨mE rfl rfl h0,
 fun ρz wz hE hA _ ⟨u0, _⟩ => core_call rfl (call_args1 u0) cf_52 (career_Death_ok  _ (H_l_.exn (hA rfl)).no hz2),
 mU rfl rfl rfl,
 fun ρz wz hE hA _ ⟨u2, _⟩ => core_val rfl rfl (o_extract u2 (by kernel_rfl)),
 fun ρz wz hE hA _ ⟨u2, _⟩ => core_val rfl rfl (o_extract u2 (by kernel_rfl)),
 aU rfl rfl rfl,
 aU rfl rfl rfl, trivial⟩ ?_
  intro ρ3 w3 hN hf hr
  have h5 := hv hf 5 rfl rfl
  have h6 := hv hf 6 rfl rfl
  obtain ⟨h2, h3⟩ := k2 hr h2 h3 rfl
  have Hb_b2_n := Hb_b2_.exn hN
  have hW := hW.trans hN
  have Hb_b2_ := Hb_b2_n
  refine WP.seqJ (fun ρ w => ∃ death_ : Int, ρ 2 = .pointer (some ⟨b2_, 0, none⟩) ∧ ρ 3 = .int .i64 z.1 ∧ ρ 5 = .int .i64 death_ ∧ Mb w b2_ 31 (Span.cells (⟨0, 0⟩ : Span)) ∧ Ext noG w0 w ∧ career_Life_j z death_ = some r) ?_ ?_
  · refine WP.seq (WP.rb mixed [[], [0]] [[6], []] [(17, .bool z2.2), (18, .bool (!z2.2))] (by kernel_rfl) ⟨mE rfl rfl h6,
 fun ρz wz hE hA _ ⟨u0, _⟩ => core_val rfl rfl (o_not u0 rfl), trivial⟩ ?_)
    intro ρ8 w8 hN hf hr
    have h18 := hv hf 1 rfl rfl
    obtain ⟨h2, h3, h5⟩ := k3 hr h2 h3 h5 rfl
    have Hb_b2_n := Hb_b2_.exn hN
    have hW := hW.trans hN
    have Hb_b2_ := Hb_b2_n
    refine WP.cond rfl h18 (fun hb => ?_) (fun hb => ?_)
    · have hF := (if_pos hb).symm.trans hF
      refine WP.rb mixed [[]] [[]] [(5, .int .i64 73048)] (by kernel_rfl) ⟨aC rfl rfl (fun _ => rfl), trivial⟩ ?_
      intro ρ9 w9 hN hf hr
      have h5 := hv hf 0 rfl rfl
      obtain ⟨h2, h3⟩ := k2 hr h2 h3 rfl
      have Hb_b2_n := Hb_b2_.exn hN
      have hW := hW.trans hN
      have Hb_b2_ := Hb_b2_n
      exact ⟨73048, h2, h3, h5, Hb_b2_, hW, hF⟩
    have hF := (if_neg (Bool.eq_false_iff.1 hb)).symm.trans hF
    refine WP.skip ?_
    exact ⟨z2.1, h2, h3, h5, Hb_b2_, hW, hF⟩
  rintro ρ4 w4 ⟨death_, h2, h3, h5, Hb_b2_, hW, hF⟩
  rw [career_Life_j] at hF
  refine WP.seq (WP.seq (WP.rb mixed [[], [], [0, 1]] [[5], [3], []] [(19, .int .i64 death_), (20, .int .i64 z.1), (21, .bool (decide (death_ < z.1)))] (by kernel_rfl) ⟨mE rfl rfl h5,
 mE rfl rfl h3,
 fun ρz wz hE hA _ ⟨u0, u1, _⟩ => core_val rfl rfl (o_lss u0 u1 rfl), trivial⟩ ?_))
  intro ρ5 w5 hN hf hr
  have h21 := hv hf 2 rfl rfl
  obtain ⟨h2, h3, h5⟩ := k3 hr h2 h3 h5 rfl
  have Hb_b2_n := Hb_b2_.exn hN
  have hW := hW.trans hN
  have Hb_b2_ := Hb_b2_n
  refine WP.cond rfl h21 (fun hb => ?_) (fun hb => ?_)
  · have hF := (if_pos hb).symm.trans hF
    refine WP.seq (WP.region mixed [[], [0]] [[], [0]] [[], [2]] [1] [] [val 22 (Span.val (⟨0, 0⟩ : Span)), (2, fun _ wz => Mb wz b2_ 31 (Span.cells (⟨0, 0⟩ : Span)))] (fun x => x = b2_) (by kernel_rfl) ⟨sV, fun _ _ _ hE hM => hM.exn hE, trivial⟩ ⟨fun ρz wz hE hA _ _ => core_val rfl rfl (o_build (by simp) (bd_31_  _)),
 fun ρz wz hE hA ⟨e2, _⟩ ⟨u0, _⟩ => core_storeBox rfl rfl (fun _ h => h) (e2.trans h2) u0 (Hb_b2_.exn (hA rfl)) (fun a w => st_31 _ a w) rfl (one_31 _), trivial⟩ ?_)
    intro ρ6 w6 hE hN hf hr
    have h2 := (hr 2 rfl).trans h2
    have Hb_b2_n := hf 1 rfl
    have hW := Ext.own hW hE (fun x h => h.symm ▸ hB_b2_)
    have Hb_b2_ := Hb_b2_n
    refine WP.ret ?_
    show retQ Try.prog 27 Try.f41 (fun v w1 => v = Span.val r ∧ Ext noG w0 w1) .ret ρ6 w6
    obtain rfl := Option.some.inj hF
    exact resC rfl (by decide) h2 (run_loadN (cs := (Span.cells (⟨0, 0⟩ : Span))) (lr_31 _ _) rfl Hb_b2_.ca) ⟨rfl, hW⟩
  have hF := (if_neg (Bool.eq_false_iff.1 hb)).symm.trans hF
  refine WP.skip (WP.seq (WP.region mixed [[], [], [1], [0, 2], [3]] [[], [], [1], [0, 2], [3]] [[3], [5], [], [], [2]] [4] [] [val 23 (.int .i64 z.1), val 24 (.int .i64 death_), val 25 (.int .i64 (i64 (death_ + 1))), val 26 (Span.val (⟨z.1, i64 (death_ + 1)⟩ : Span)), (2, fun _ wz => Mb wz b2_ 31 (Span.cells (⟨z.1, i64 (death_ + 1)⟩ : Span)))] (fun x => x = b2_) (by kernel_rfl) ⟨sV, sV, sV, sV, fun _ _ _ hE hM => hM.exn hE, trivial⟩ ⟨mE rfl rfl h3,
 mE rfl rfl h5,
 fun ρz wz hE hA _ ⟨u1, _⟩ => core_val rfl rfl (o_add u1 rfl rfl),
 fun ρz wz hE hA _ ⟨u0, u2, _⟩ => core_val rfl rfl (o_build (build_parts2 u0 u2) (bd_31_0_1 _ _ _)),
 fun ρz wz hE hA ⟨e2, _⟩ ⟨u3, _⟩ => core_storeBox rfl rfl (fun _ h => h) (e2.trans h2) u3 (Hb_b2_.exn (hA rfl)) (fun a w => st_31 _ a w) rfl (one_31 _), trivial⟩ ?_))
  intro ρ7 w7 hE hN hf hr
  have h2 := (hr 2 rfl).trans h2
  have Hb_b2_n := hf 4 rfl
  have hW := Ext.own hW hE (fun x h => h.symm ▸ hB_b2_)
  have Hb_b2_ := Hb_b2_n
  refine WP.ret ?_
  show retQ Try.prog 27 Try.f41 (fun v w1 => v = Span.val r ∧ Ext noG w0 w1) .ret ρ7 w7
  obtain rfl := Option.some.inj hF
  exact resC rfl (by decide) h2 (run_loadN (cs := (Span.cells (⟨z.1, i64 (death_ + 1)⟩ : Span))) (lr_31 _ _) rfl Hb_b2_.ca) ⟨rfl, hW⟩

set_option maxHeartbeats 4000000 in
theorem spans_clamp_ok {w0 : World} (s_ : Span) {r : Span} (hF : spans_clamp s_ = some r) :
    Calls Try.prog 42 #[Span.val s_] w0 fun e w1 => e = .returned (Span.val r) ∧ Ext noG w0 w1 := by
  refine (Calls.start (P := Try.prog) (args := [Span.val s_]) (R := fun v w1 => v = Span.val r ∧ Ext noG w0 w1) (n := 10) (w := w0) Try.func42 rfl rfl (Nat.le_of_ble_eq_true rfl) (fun ρ hargs => ?_)).mono (fun e w1 ⟨v, he, hv, hE⟩ => ⟨hv ▸ he, hE⟩)
  have h0 := hargs 0 _ rfl
  have hW := Ext.refl noG w0
  rw [spans_clamp] at hF
  refine WP.seq (WP.regionN mixed ⟨[[], []], [[], []], [[0], []], [], [], [(0, 1), (1, 2)], []⟩ [(1, fun u wz => ∃ b, u = .pointer (some ⟨b, 0, none⟩) ∧ w0.heap.size ≤ b ∧ Mb wz b 31 (Span.cells s_)), (2, fun u wz => ∃ b, u = .pointer (some ⟨b, 0, none⟩) ∧ w0.heap.size ≤ b ∧ Mb wz b 31 (Span.cells (⟨0, 0⟩ : Span)))] (fun b => w0.heap.size ≤ b) (by kernel_rfl) (.inr (fun _ h => h)) ⟨TStable.box, TStable.box, trivial⟩ ⟨fun ρz wz hE hA ⟨e0, _⟩ _ => core_newN rfl rfl rfl hE (o_box (e0.trans h0) (bx_31 _ _)),
 fun ρz wz hE hA _ _ => core_newN rfl rfl rfl hE (o_alloc (al_31 _)), trivial⟩ ?_)
  intro ρ1 w1 hE hN hf hr hdist
  have hN := hE.fresh
  obtain ⟨b1_, h1, hge_b1_, Hb_b1_⟩ := hf 0 rfl
  obtain ⟨b2_, h2, hge_b2_, Hb_b2_⟩ := hf 1 rfl
  have hB_b1_ : w0.heap.size ≤ b1_ := Nat.le_trans hW.size hge_b1_
  have hB_b2_ : w0.heap.size ≤ b2_ := Nat.le_trans hW.size hge_b2_
  have hne_b1__b2_ : b1_ ≠ b2_ := fun h => hdist (0, 1) (by simp) (1, 2) (by simp) (by decide) b1_ (by rw [h1]; rfl) (by rw [h2, h]; rfl)
  have hW := hW.trans hN
  refine WP.seq (WP.region mixed [[], [0], [1], [], [3], [4], [2, 5], [1, 4, 6]] [[], [0], [1], [], [3], [4], [2, 5], [6]] [[1], [], [], [1], [], [], [], [2]] [7] [] [val 3 (.pointer (some ((⟨b1_, 0, none⟩ : Addr).add 0))), val 4 (.int .i64 s_.From), val 5 (.int .i64 (max s_.From 0)), val 6 (.pointer (some ((⟨b1_, 0, none⟩ : Addr).add 1))), val 7 (.int .i64 s_.To), val 8 (.int .i64 (min s_.To 73049)), val 9 (Span.val (⟨max s_.From 0, min s_.To 73049⟩ : Span)), (2, fun _ wz => Mb wz b2_ 31 (Span.cells (⟨max s_.From 0, min s_.To 73049⟩ : Span)))] (fun x => x = b2_) (by kernel_rfl) ⟨sV, sV, sV, sV, sV, sV, sV, fun _ _ _ hE hM => hM.exn hE, trivial⟩ ⟨fun ρz wz hE hA ⟨e1, _⟩ _ => core_val rfl rfl (o_fieldAddr (e1.trans h1) (fa_31_0 _ _)),
 fun ρz wz hE hA _ ⟨u0, _⟩ => core_val rfl rfl (o_load u0 (run_load1 (lr_3 _ _) (CA.sub ((Hb_b1_.exn (hA rfl)).ca) 0 1))),
 fun ρz wz hE hA _ ⟨u1, _⟩ => core_val rfl rfl (o_max2 u1 rfl),
 fun ρz wz hE hA ⟨e1, _⟩ _ => core_val rfl rfl (o_fieldAddr (e1.trans h1) (fa_31_1 _ _)),
 fun ρz wz hE hA _ ⟨u3, _⟩ => core_val rfl rfl (o_load u3 (run_load1 (lr_3 _ _) (CA.sub ((Hb_b1_.exn (hA rfl)).ca) 1 1))),
 fun ρz wz hE hA _ ⟨u4, _⟩ => core_val rfl rfl (o_min2 u4 rfl),
 fun ρz wz hE hA _ ⟨u2, u5, _⟩ => core_val rfl rfl (o_build (build_parts2 u2 u5) (bd_31_0_1 _ _ _)),
 fun ρz wz hE hA ⟨e2, _⟩ ⟨u6, _⟩ => core_storeBox rfl rfl (fun _ h => h) (e2.trans h2) u6 (Hb_b2_.exn (hA rfl)) (fun a w => st_31 _ a w) rfl (one_31 _), trivial⟩ ?_)
  intro ρ2 w2 hE hN hf hr
  have h2 := (hr 2 rfl).trans h2
  have Hb_b2_n := hf 7 rfl
  have hW := Ext.own hW hE (fun x h => h.symm ▸ hB_b2_)
  have Hb_b2_ := Hb_b2_n
  refine WP.ret ?_
  show retQ Try.prog 10 Try.f42 (fun v w1 => v = Span.val r ∧ Ext noG w0 w1) .ret ρ2 w2
  obtain rfl := Option.some.inj hF
  exact resC rfl (by decide) h2 (run_loadN (cs := (Span.cells (⟨max s_.From 0, min s_.To 73049⟩ : Span))) (lr_31 _ _) rfl Hb_b2_.ca) ⟨rfl, hW⟩

set_option maxHeartbeats 4000000 in
theorem spans_Make_1_ok {w0 : World} (i_ : Int) (j_ : Int) (c_ : List Span) {bc2_ : Nat} {v_c_ : Value} (Hb_bc2_ : Mb w0 bc2_ 32 [v_c_]) (H_c_ : RepSl Span.R noG w0 v_c_ c_) {r : Bool} (hF : spans_Make_1 i_ j_ c_ = some r) :
    Calls Try.prog 44 #[.int .i64 i_, .int .i64 j_, .pointer (some ⟨bc2_, 0, none⟩)] w0 fun e w1 => e = .returned (.bool r) ∧ Ext noG w0 w1 := by
  refine (Calls.start (P := Try.prog) (args := [.int .i64 i_, .int .i64 j_, .pointer (some ⟨bc2_, 0, none⟩)]) (R := fun v w1 => v = .bool r ∧ Ext noG w0 w1) (n := 17) (w := w0) Try.func44 rfl rfl (Nat.le_of_ble_eq_true rfl) (fun ρ hargs => ?_)).mono (fun e w1 ⟨v, he, hv, hE⟩ => ⟨hv ▸ he, hE⟩)
  have h0 := hargs 0 _ rfl
  have h1 := hargs 1 _ rfl
  have h2 := hargs 2 _ rfl
  have hW := Ext.refl noG w0
  obtain ⟨_, _, hs_H_c_, _, _⟩ := RepSl.shape H_c_
  have H_c_ := H_c_.start
  rw [spans_Make_1] at hF
  refine WP.seq (WP.rb mixed [[]] [[]] [(5, .bool false)] (by kernel_rfl) ⟨aC rfl rfl (fun _ => rfl), trivial⟩ ?_)
  intro ρ1 w1 hN hf hr
  obtain ⟨h0, h1, h2⟩ := k3 hr h0 h1 h2 rfl
  have Hb_bc2_n := Hb_bc2_.exn hN
  have H_c_ := H_c_.exn hN
  have hW := hW.trans hN
  have Hb_bc2_ := Hb_bc2_n
  refine WP.seq ?_
  obtain ⟨y, hy, hF⟩ := obind hF
  obtain ⟨ay, cy, hvy, hiy, hAy⟩ := RepSl.getF H_c_ hy
  obtain ⟨y2, hy2, hF⟩ := obind hF
  obtain ⟨ay2, cy2, hvy2, hiy2, hAy2⟩ := RepSl.getF H_c_ hy2
  refine WP.rb mixed [[], [], [0, 1], [2], [3], [], [], [5, 6], [7], [8], [4, 9], [10]] [[2], [0], [], [], [], [2], [1], [], [], [], [], []] [(6, v_c_), (7, .int .i64 i_), (8, .pointer (some (ay.add (Int.toNat i_ * 2)))), (9, .pointer (some ((ay.add (Int.toNat i_ * 2)).add 0))), (10, .int .i64 y.From), (11, v_c_), (12, .int .i64 j_), (13, .pointer (some (ay2.add (Int.toNat j_ * 2)))), (14, .pointer (some ((ay2.add (Int.toNat j_ * 2)).add 0))), (15, .int .i64 y2.From), (16, .bool (decide (y.From < y2.From))), (5, .bool (decide (y.From < y2.From)))] (by kernel_rfl) ⟨fun ρz wz hE hA ⟨e2, _⟩ _ => core_val rfl rfl (o_load (e2.trans h2) (run_load1 (lr_32 _ _) ((Hb_bc2_.exn (hA rfl)).ca))),
 mE rfl rfl h0,
 fun ρz wz hE hA _ ⟨u0, u1, _⟩ => core_val rfl rfl (o_indexAddr (u0.trans hvy) u1 (ia_32 hiy)),
 fun ρz wz hE hA _ ⟨u2, _⟩ => core_val rfl rfl (o_fieldAddr u2 (fa_31_0 _ _)),
 fun ρz wz hE hA _ ⟨u3, _⟩ => core_val rfl rfl (o_load u3 (run_load1 (lr_3 _ _) (CA.sub ((hAy.exn (hA rfl)).ca) 0 1))),
 fun ρz wz hE hA ⟨e2, _⟩ _ => core_val rfl rfl (o_load (e2.trans h2) (run_load1 (lr_32 _ _) ((Hb_bc2_.exn (hA rfl)).ca))),
 mE rfl rfl h1,
 fun ρz wz hE hA _ ⟨u5, u6, _⟩ => core_val rfl rfl (o_indexAddr (u5.trans hvy2) u6 (ia_32 hiy2)),
 fun ρz wz hE hA _ ⟨u7, _⟩ => core_val rfl rfl (o_fieldAddr u7 (fa_31_0 _ _)),
 fun ρz wz hE hA _ ⟨u8, _⟩ => core_val rfl rfl (o_load u8 (run_load1 (lr_3 _ _) (CA.sub ((hAy2.exn (hA rfl)).ca) 0 1))),
 fun ρz wz hE hA _ ⟨u4, u9, _⟩ => core_val rfl rfl (o_lss u4 u9 rfl),
 aU rfl rfl rfl, trivial⟩ ?_
  intro ρ2 w2 hN hf hr
  have h5 := hv hf 11 rfl rfl
  have hW := hW.trans hN
  refine WP.ret ?_
  show retQ Try.prog 17 Try.f44 (fun v w1 => v = .bool r ∧ Ext noG w0 w1) .ret ρ2 w2
  obtain rfl := Option.some.inj hF
  exact res1 rfl (by decide) h5 ⟨rfl, hW⟩

set_option maxHeartbeats 4000000 in
theorem bits_Len32_ok {w0 : World} (x_ : Int) {r : Int} (hF : bits_Len32 x_ = some r) :
    Calls Try.prog 79 #[.int .u32 x_] w0 fun e w1 => e = .returned (.int .i64 r) ∧ Ext noG w0 w1 := by
  refine (Calls.start (P := Try.prog) (args := [.int .u32 x_]) (R := fun v w1 => v = .int .i64 r ∧ Ext noG w0 w1) (n := 19) (w := w0) Try.func79 rfl rfl (Nat.le_of_ble_eq_true rfl) (fun ρ hargs => ?_)).mono (fun e w1 ⟨v, he, hv, hE⟩ => ⟨hv ▸ he, hE⟩)
  have h0 := hargs 0 _ rfl
  have hW := Ext.refl noG w0
  rw [bits_Len32] at hF
  refine WP.seq (WP.rb mixed [[]] [[]] [(2, .int .i64 0)] (by kernel_rfl) ⟨aC rfl rfl (fun _ => rfl), trivial⟩ ?_)
  intro ρ1 w1 hN hf hr
  have h2 := hv hf 0 rfl rfl
  have h0 := (hr 0 rfl).trans h0
  have hW := hW.trans hN
  refine WP.seqJ (fun ρ w => ∃ x_2 : Int, ∃ n_ : Int, ρ 0 = .int .u32 x_2 ∧ ρ 2 = .int .i64 n_ ∧ Ext noG w0 w ∧ bits_Len32_j x_2 n_ = some r) ?_ ?_
  · refine WP.seq (WP.rb mixed [[], [0]] [[0], []] [(3, .int .u32 x_), (4, .bool (decide (65536 ≤ x_)))] (by kernel_rfl) ⟨mE rfl rfl h0,
 fun ρz wz hE hA _ ⟨u0, _⟩ => core_val rfl rfl (o_geq u0 rfl rfl), trivial⟩ ?_)
    intro ρ8 w8 hN hf hr
    have h4 := hv hf 1 rfl rfl
    obtain ⟨h0, h2⟩ := k2 hr h0 h2 rfl
    have hW := hW.trans hN
    refine WP.cond rfl h4 (fun hb => ?_) (fun hb => ?_)
    · have hF := (if_pos hb).symm.trans hF
      refine WP.seq (WP.rv mixed [[], [0], [0, 1]] [[], [0], [1]] [[0], [], []] [(5, .int .u32 x_), (6, .int .u32 (shrK .u32 x_ 16)), (0, .int .u32 (shrK .u32 x_ 16))] (by kernel_rfl) ⟨mE rfl rfl h0,
 fun ρz wz hE hA _ ⟨u0, _⟩ => core_val rfl rfl (o_shr u0 rfl (by decide) rfl),
 aU rfl rfl rfl, trivial⟩ ?_)
      intro ρ9 w9 hN hf hr
      have h0 := hv hf 2 rfl rfl
      have hW := hW.trans hN
      refine WP.rb mixed [[]] [[]] [(2, .int .i64 16)] (by kernel_rfl) ⟨aC rfl rfl (fun _ => rfl), trivial⟩ ?_
      intro ρ10 w10 hN hf hr
      have h2 := hv hf 0 rfl rfl
      have h0 := (hr 0 rfl).trans h0
      have hW := hW.trans hN
      exact ⟨shrK .u32 x_ 16, 16, h0, h2, hW, hF⟩
    have hF := (if_neg (Bool.eq_false_iff.1 hb)).symm.trans hF
    refine WP.skip ?_
    exact ⟨x_, 0, h0, h2, hW, hF⟩
  rintro ρ2 w2 ⟨x_2, n_, h0, h2, hW, hF⟩
  rw [bits_Len32_j] at hF
  refine WP.seqJ (fun ρ w => ∃ x_3 : Int, ∃ n_2 : Int, ρ 0 = .int .u32 x_3 ∧ ρ 2 = .int .i64 n_2 ∧ Ext noG w0 w ∧ bits_Len32_j2 x_3 n_2 = some r) ?_ ?_
  · refine WP.seq (WP.rb mixed [[], [0]] [[0], []] [(7, .int .u32 x_2), (8, .bool (decide (256 ≤ x_2)))] (by kernel_rfl) ⟨mE rfl rfl h0,
 fun ρz wz hE hA _ ⟨u0, _⟩ => core_val rfl rfl (o_geq u0 rfl rfl), trivial⟩ ?_)
    intro ρ5 w5 hN hf hr
    have h8 := hv hf 1 rfl rfl
    obtain ⟨h0, h2⟩ := k2 hr h0 h2 rfl
    have hW := hW.trans hN
    refine WP.cond rfl h8 (fun hb => ?_) (fun hb => ?_)
    · have hF := (if_pos hb).symm.trans hF
      refine WP.seq (WP.rv mixed [[], [0], [0, 1]] [[], [0], [1]] [[0], [], []] [(9, .int .u32 x_2), (10, .int .u32 (shrK .u32 x_2 8)), (0, .int .u32 (shrK .u32 x_2 8))] (by kernel_rfl) ⟨mE rfl rfl h0,
 fun ρz wz hE hA _ ⟨u0, _⟩ => core_val rfl rfl (o_shr u0 rfl (by decide) rfl),
 aU rfl rfl rfl, trivial⟩ ?_)
      intro ρ6 w6 hN hf hr
      have h0 := hv hf 2 rfl rfl
      have h2 := (hr 2 rfl).trans h2
      have hW := hW.trans hN
      refine WP.rv mixed [[], [0], [0, 1]] [[], [0], [1]] [[2], [], []] [(11, .int .i64 n_), (12, .int .i64 (i64 (n_ + 8))), (2, .int .i64 (i64 (n_ + 8)))] (by kernel_rfl) ⟨mE rfl rfl h2,
 fun ρz wz hE hA _ ⟨u0, _⟩ => core_val rfl rfl (o_add u0 rfl rfl),
 aU rfl rfl rfl, trivial⟩ ?_
      intro ρ7 w7 hN hf hr
      have h2 := hv hf 2 rfl rfl
      have h0 := (hr 0 rfl).trans h0
      have hW := hW.trans hN
      exact ⟨shrK .u32 x_2 8, i64 (n_ + 8), h0, h2, hW, hF⟩
    have hF := (if_neg (Bool.eq_false_iff.1 hb)).symm.trans hF
    refine WP.skip ?_
    exact ⟨x_2, n_, h0, h2, hW, hF⟩
  rintro ρ3 w3 ⟨x_3, n_2, h0, h2, hW, hF⟩
  rw [bits_Len32_j2] at hF
  refine WP.seq ?_
  obtain ⟨y, hy, hF⟩ := obind hF
  refine WP.rv mixed [[], [], [1], [2], [3], [0, 4], [0, 5]] [[], [], [1], [2], [3], [0, 4], [5]] [[2], [0], [], [], [], [], []] [(13, .int .i64 n_2), (14, .int .u32 x_3), (15, .int .u8 ((IntKind.u8.wrap) x_3)), (16, .int .u8 y), (17, .int .i64 (i64 y)), (18, .int .i64 (i64 (n_2 + i64 y))), (2, .int .i64 (i64 (n_2 + i64 y)))] (by kernel_rfl) ⟨mE rfl rfl h2,
 mE rfl rfl h0,
 fun ρz wz hE hA _ ⟨u1, _⟩ => core_val rfl rfl (o_conv u1 (cv_99_5 _ _)),
 fun ρz wz hE hA _ ⟨u2, _⟩ => core_val rfl rfl (o_index rfl u2 (by kernel_rfl) hy),
 fun ρz wz hE hA _ ⟨u3, _⟩ => core_val rfl rfl (o_conv u3 (cv_5_3 _ _)),
 fun ρz wz hE hA _ ⟨u0, u4, _⟩ => core_val rfl rfl (o_add u0 u4 rfl),
 aU rfl rfl rfl, trivial⟩ ?_
  intro ρ4 w4 hN hf hr
  have h2 := hv hf 6 rfl rfl
  have hW := hW.trans hN
  refine WP.ret ?_
  show retQ Try.prog 19 Try.f79 (fun v w1 => v = .int .i64 r ∧ Ext noG w0 w1) .ret ρ4 w4
  obtain rfl := Option.some.inj hF
  exact res1 rfl (by decide) h2 ⟨rfl, hW⟩

set_option maxHeartbeats 4000000 in
theorem bits_Len64_ok {w0 : World} (x_ : Int) {r : Int} (hF : bits_Len64 x_ = some r) :
    Calls Try.prog 80 #[.int .u64 x_] w0 fun e w1 => e = .returned (.int .i64 r) ∧ Ext noG w0 w1 := by
  refine (Calls.start (P := Try.prog) (args := [.int .u64 x_]) (R := fun v w1 => v = .int .i64 r ∧ Ext noG w0 w1) (n := 25) (w := w0) Try.func80 rfl rfl (Nat.le_of_ble_eq_true rfl) (fun ρ hargs => ?_)).mono (fun e w1 ⟨v, he, hv, hE⟩ => ⟨hv ▸ he, hE⟩)
  have h0 := hargs 0 _ rfl
  have hW := Ext.refl noG w0
  rw [bits_Len64] at hF
  refine WP.seq (WP.rb mixed [[]] [[]] [(2, .int .i64 0)] (by kernel_rfl) ⟨aC rfl rfl (fun _ => rfl), trivial⟩ ?_)
  intro ρ1 w1 hN hf hr
  have h2 := hv hf 0 rfl rfl
  have h0 := (hr 0 rfl).trans h0
  have hW := hW.trans hN
  refine WP.seqJ (fun ρ w => ∃ x_2 : Int, ∃ n_ : Int, ρ 0 = .int .u64 x_2 ∧ ρ 2 = .int .i64 n_ ∧ Ext noG w0 w ∧ bits_Len64_j x_2 n_ = some r) ?_ ?_
  · refine WP.seq (WP.rb mixed [[], [0]] [[0], []] [(3, .int .u64 x_), (4, .bool (decide (4294967296 ≤ x_)))] (by kernel_rfl) ⟨mE rfl rfl h0,
 fun ρz wz hE hA _ ⟨u0, _⟩ => core_val rfl rfl (o_geq u0 rfl rfl), trivial⟩ ?_)
    intro ρ12 w12 hN hf hr
    have h4 := hv hf 1 rfl rfl
    obtain ⟨h0, h2⟩ := k2 hr h0 h2 rfl
    have hW := hW.trans hN
    refine WP.cond rfl h4 (fun hb => ?_) (fun hb => ?_)
    · have hF := (if_pos hb).symm.trans hF
      refine WP.seq (WP.rv mixed [[], [0], [0, 1]] [[], [0], [1]] [[0], [], []] [(5, .int .u64 x_), (6, .int .u64 (shrK .u64 x_ 32)), (0, .int .u64 (shrK .u64 x_ 32))] (by kernel_rfl) ⟨mE rfl rfl h0,
 fun ρz wz hE hA _ ⟨u0, _⟩ => core_val rfl rfl (o_shr u0 rfl (by decide) rfl),
 aU rfl rfl rfl, trivial⟩ ?_)
      intro ρ13 w13 hN hf hr
      have h0 := hv hf 2 rfl rfl
      have hW := hW.trans hN
      refine WP.rb mixed [[]] [[]] [(2, .int .i64 32)] (by kernel_rfl) ⟨aC rfl rfl (fun _ => rfl), trivial⟩ ?_
      intro ρ14 w14 hN hf hr
      have h2 := hv hf 0 rfl rfl
      have h0 := (hr 0 rfl).trans h0
      have hW := hW.trans hN
      exact ⟨shrK .u64 x_ 32, 32, h0, h2, hW, hF⟩
    have hF := (if_neg (Bool.eq_false_iff.1 hb)).symm.trans hF
    refine WP.skip ?_
    exact ⟨x_, 0, h0, h2, hW, hF⟩
  rintro ρ2 w2 ⟨x_2, n_, h0, h2, hW, hF⟩
  rw [bits_Len64_j] at hF
  refine WP.seqJ (fun ρ w => ∃ x_3 : Int, ∃ n_2 : Int, ρ 0 = .int .u64 x_3 ∧ ρ 2 = .int .i64 n_2 ∧ Ext noG w0 w ∧ bits_Len64_j2 x_3 n_2 = some r) ?_ ?_
  · refine WP.seq (WP.rb mixed [[], [0]] [[0], []] [(7, .int .u64 x_2), (8, .bool (decide (65536 ≤ x_2)))] (by kernel_rfl) ⟨mE rfl rfl h0,
 fun ρz wz hE hA _ ⟨u0, _⟩ => core_val rfl rfl (o_geq u0 rfl rfl), trivial⟩ ?_)
    intro ρ9 w9 hN hf hr
    have h8 := hv hf 1 rfl rfl
    obtain ⟨h0, h2⟩ := k2 hr h0 h2 rfl
    have hW := hW.trans hN
    refine WP.cond rfl h8 (fun hb => ?_) (fun hb => ?_)
    · have hF := (if_pos hb).symm.trans hF
      refine WP.seq (WP.rv mixed [[], [0], [0, 1]] [[], [0], [1]] [[0], [], []] [(9, .int .u64 x_2), (10, .int .u64 (shrK .u64 x_2 16)), (0, .int .u64 (shrK .u64 x_2 16))] (by kernel_rfl) ⟨mE rfl rfl h0,
 fun ρz wz hE hA _ ⟨u0, _⟩ => core_val rfl rfl (o_shr u0 rfl (by decide) rfl),
 aU rfl rfl rfl, trivial⟩ ?_)
      intro ρ10 w10 hN hf hr
      have h0 := hv hf 2 rfl rfl
      have h2 := (hr 2 rfl).trans h2
      have hW := hW.trans hN
      refine WP.rv mixed [[], [0], [0, 1]] [[], [0], [1]] [[2], [], []] [(11, .int .i64 n_), (12, .int .i64 (i64 (n_ + 16))), (2, .int .i64 (i64 (n_ + 16)))] (by kernel_rfl) ⟨mE rfl rfl h2,
 fun ρz wz hE hA _ ⟨u0, _⟩ => core_val rfl rfl (o_add u0 rfl rfl),
 aU rfl rfl rfl, trivial⟩ ?_
      intro ρ11 w11 hN hf hr
      have h2 := hv hf 2 rfl rfl
      have h0 := (hr 0 rfl).trans h0
      have hW := hW.trans hN
      exact ⟨shrK .u64 x_2 16, i64 (n_ + 16), h0, h2, hW, hF⟩
    have hF := (if_neg (Bool.eq_false_iff.1 hb)).symm.trans hF
    refine WP.skip ?_
    exact ⟨x_2, n_, h0, h2, hW, hF⟩
  rintro ρ3 w3 ⟨x_3, n_2, h0, h2, hW, hF⟩
  rw [bits_Len64_j2] at hF
  refine WP.seqJ (fun ρ w => ∃ x_4 : Int, ∃ n_3 : Int, ρ 0 = .int .u64 x_4 ∧ ρ 2 = .int .i64 n_3 ∧ Ext noG w0 w ∧ bits_Len64_j3 x_4 n_3 = some r) ?_ ?_
  · refine WP.seq (WP.rb mixed [[], [0]] [[0], []] [(13, .int .u64 x_3), (14, .bool (decide (256 ≤ x_3)))] (by kernel_rfl) ⟨mE rfl rfl h0,
 fun ρz wz hE hA _ ⟨u0, _⟩ => core_val rfl rfl (o_geq u0 rfl rfl), trivial⟩ ?_)
    intro ρ6 w6 hN hf hr
    have h14 := hv hf 1 rfl rfl
    obtain ⟨h0, h2⟩ := k2 hr h0 h2 rfl
    have hW := hW.trans hN
    refine WP.cond rfl h14 (fun hb => ?_) (fun hb => ?_)
    · have hF := (if_pos hb).symm.trans hF
      refine WP.seq (WP.rv mixed [[], [0], [0, 1]] [[], [0], [1]] [[0], [], []] [(15, .int .u64 x_3), (16, .int .u64 (shrK .u64 x_3 8)), (0, .int .u64 (shrK .u64 x_3 8))] (by kernel_rfl) ⟨mE rfl rfl h0,
 fun ρz wz hE hA _ ⟨u0, _⟩ => core_val rfl rfl (o_shr u0 rfl (by decide) rfl),
 aU rfl rfl rfl, trivial⟩ ?_)
      intro ρ7 w7 hN hf hr
      have h0 := hv hf 2 rfl rfl
      have h2 := (hr 2 rfl).trans h2
      have hW := hW.trans hN
      refine WP.rv mixed [[], [0], [0, 1]] [[], [0], [1]] [[2], [], []] [(17, .int .i64 n_2), (18, .int .i64 (i64 (n_2 + 8))), (2, .int .i64 (i64 (n_2 + 8)))] (by kernel_rfl) ⟨mE rfl rfl h2,
 fun ρz wz hE hA _ ⟨u0, _⟩ => core_val rfl rfl (o_add u0 rfl rfl),
 aU rfl rfl rfl, trivial⟩ ?_
      intro ρ8 w8 hN hf hr
      have h2 := hv hf 2 rfl rfl
      have h0 := (hr 0 rfl).trans h0
      have hW := hW.trans hN
      exact ⟨shrK .u64 x_3 8, i64 (n_2 + 8), h0, h2, hW, hF⟩
    have hF := (if_neg (Bool.eq_false_iff.1 hb)).symm.trans hF
    refine WP.skip ?_
    exact ⟨x_3, n_2, h0, h2, hW, hF⟩
  rintro ρ4 w4 ⟨x_4, n_3, h0, h2, hW, hF⟩
  rw [bits_Len64_j3] at hF
  refine WP.seq ?_
  obtain ⟨y, hy, hF⟩ := obind hF
  refine WP.rv mixed [[], [], [1], [2], [3], [0, 4], [0, 5]] [[], [], [1], [2], [3], [0, 4], [5]] [[2], [0], [], [], [], [], []] [(19, .int .i64 n_3), (20, .int .u64 x_4), (21, .int .u8 ((IntKind.u8.wrap) x_4)), (22, .int .u8 y), (23, .int .i64 (i64 y)), (24, .int .i64 (i64 (n_3 + i64 y))), (2, .int .i64 (i64 (n_3 + i64 y)))] (by kernel_rfl) ⟨mE rfl rfl h2,
 mE rfl rfl h0,
 fun ρz wz hE hA _ ⟨u1, _⟩ => core_val rfl rfl (o_conv u1 (cv_101_5 _ _)),
 fun ρz wz hE hA _ ⟨u2, _⟩ => core_val rfl rfl (o_index rfl u2 (by kernel_rfl) hy),
 fun ρz wz hE hA _ ⟨u3, _⟩ => core_val rfl rfl (o_conv u3 (cv_5_3 _ _)),
 fun ρz wz hE hA _ ⟨u0, u4, _⟩ => core_val rfl rfl (o_add u0 u4 rfl),
 aU rfl rfl rfl, trivial⟩ ?_
  intro ρ5 w5 hN hf hr
  have h2 := hv hf 6 rfl rfl
  have hW := hW.trans hN
  refine WP.ret ?_
  show retQ Try.prog 25 Try.f80 (fun v w1 => v = .int .i64 r ∧ Ext noG w0 w1) .ret ρ5 w5
  obtain rfl := Option.some.inj hF
  exact res1 rfl (by decide) h2 ⟨rfl, hW⟩

set_option maxHeartbeats 4000000 in
theorem bits_Len_ok {w0 : World} (x_ : Int) {r : Int} (hF : bits_Len x_ = some r) :
    Calls Try.prog 56 #[.int .u64 x_] w0 fun e w1 => e = .returned (.int .i64 r) ∧ Ext noG w0 w1 := by
  refine (Calls.start (P := Try.prog) (args := [.int .u64 x_]) (R := fun v w1 => v = .int .i64 r ∧ Ext noG w0 w1) (n := 8) (w := w0) Try.func56 rfl rfl (Nat.le_of_ble_eq_true rfl) (fun ρ hargs => ?_)).mono (fun e w1 ⟨v, he, hv, hE⟩ => ⟨hv ▸ he, hE⟩)
  have h0 := hargs 0 _ rfl
  have hW := Ext.refl noG w0
  rw [bits_Len] at hF
  refine WP.seq (WP.rb mixed [[]] [[]] [(2, .int .i64 0)] (by kernel_rfl) ⟨aC rfl rfl (fun _ => rfl), trivial⟩ ?_)
  intro ρ1 w1 hN hf hr
  have h0 := (hr 0 rfl).trans h0
  have hW := hW.trans hN
  refine WP.seq (WP.cond (t := false) rfl rfl (fun hb => ?_) (fun hb => ?_))
  · exact absurd hb (by decide)
  · refine WP.skip (WP.seq ?_)
    obtain ⟨z, hz, hF⟩ := obind hF
    refine WP.rb mixed [[], [0], [1]] [[0], [], []] [(6, .int .u64 x_), (7, .int .i64 z), (2, .int .i64 z)] (by kernel_rfl) ⟨mE rfl rfl h0,
 fun ρz wz hE hA _ ⟨u0, _⟩ => core_call rfl (call_args1 u0) cf_80 (bits_Len64_ok  _  hz),
 aU rfl rfl rfl, trivial⟩ ?_
    intro ρ2 w2 hN hf hr
    have h2 := hv hf 2 rfl rfl
    have hW := hW.trans hN
    refine WP.ret ?_
    show retQ Try.prog 8 Try.f56 (fun v w1 => v = .int .i64 r ∧ Ext noG w0 w1) .ret ρ2 w2
    obtain rfl := Option.some.inj hF
    exact res1 rfl (by decide) h2 ⟨rfl, hW⟩

set_option maxHeartbeats 4000000 in
theorem sort_nextPowerOfTwo_ok {w0 : World} (length_ : Int) {r : Int} (hF : sort_nextPowerOfTwo length_ = some r) :
    Calls Try.prog 93 #[.int .i64 length_] w0 fun e w1 => e = .returned (.int .u64 r) ∧ Ext noG w0 w1 := by
  refine (Calls.start (P := Try.prog) (args := [.int .i64 length_]) (R := fun v w1 => v = .int .u64 r ∧ Ext noG w0 w1) (n := 10) (w := w0) Try.func93 rfl rfl (Nat.le_of_ble_eq_true rfl) (fun ρ hargs => ?_)).mono (fun e w1 ⟨v, he, hv, hE⟩ => ⟨hv ▸ he, hE⟩)
  have h0 := hargs 0 _ rfl
  have hW := Ext.refl noG w0
  rw [sort_nextPowerOfTwo] at hF
  refine WP.seq (WP.rb mixed [[]] [[]] [(2, .int .u64 0)] (by kernel_rfl) ⟨aC rfl rfl (fun _ => rfl), trivial⟩ ?_)
  intro ρ1 w1 hN hf hr
  have h0 := (hr 0 rfl).trans h0
  have hW := hW.trans hN
  refine WP.seq ?_
  obtain ⟨z, hz, hF⟩ := obind hF
  refine WP.rb mixed [[], [0], [1], [2], [3]] [[0], [], [], [], []] [(4, .int .i64 length_), (5, .int .u64 (u64 length_)), (6, .int .i64 z), (7, .int .u64 (u64 z)), (3, .int .u64 (u64 z))] (by kernel_rfl) ⟨mE rfl rfl h0,
 fun ρz wz hE hA _ ⟨u0, _⟩ => core_val rfl rfl (o_conv u0 (cv_3_81 _ _)),
 fun ρz wz hE hA _ ⟨u1, _⟩ => core_call rfl (call_args1 u1) cf_56 (bits_Len_ok  _  hz),
 fun ρz wz hE hA _ ⟨u2, _⟩ => core_val rfl rfl (o_conv u2 (cv_3_81 _ _)),
 aU rfl rfl rfl, trivial⟩ ?_
  intro ρ2 w2 hN hf hr
  have h3 := hv hf 4 rfl rfl
  have hW := hW.trans hN
  refine WP.seq ?_
  obtain ⟨q, hq, hF⟩ := obind hF
  refine WP.rb mixed [[], [0], [1]] [[3], [], []] [(8, .int .u64 (u64 z)), (9, .int .u64 q), (2, .int .u64 q)] (by kernel_rfl) ⟨mE rfl rfl h3,
 fun ρz wz hE hA _ ⟨u0, _⟩ => core_val rfl rfl (o_shl rfl u0 (shlO_some hq).1 (shlO_some hq).2),
 aU rfl rfl rfl, trivial⟩ ?_
  intro ρ3 w3 hN hf hr
  have h2 := hv hf 2 rfl rfl
  have hW := hW.trans hN
  refine WP.ret ?_
  show retQ Try.prog 10 Try.f93 (fun v w1 => v = .int .u64 r ∧ Ext noG w0 w1) .ret ρ3 w3
  obtain rfl := Option.some.inj hF
  exact res1 rfl (by decide) h2 ⟨rfl, hW⟩

set_option maxHeartbeats 4000000 in
theorem spans_Make_ok {w0 : World} (d_ : List Span) {v_d_ : Value} (H_d_ : RepSl Span.R noG w0 v_d_ d_) {r : (List Span)} (hF : spans_Make d_ = some r) :
    Calls Try.prog 30 #[v_d_] w0 fun e w1 => ∃ v, e = .returned v ∧ Ext noG w0 w1 ∧ Own w0.heap.size 31 2 Span.cells w1 v r := by
  refine (Calls.start (P := Try.prog) (args := [v_d_]) (R := fun v w1 => Own w0.heap.size 31 2 Span.cells w1 v r ∧ Ext noG w0 w1) (n := 73) (w := w0) Try.func30 rfl rfl (Nat.le_of_ble_eq_true rfl) (fun ρ hargs => ?_)).mono (fun e w1 ⟨v, he, hv, hE⟩ => ⟨v, he, hE, hv⟩)
  have h0 := hargs 0 _ rfl
  have hW := Ext.refl noG w0
  obtain ⟨_, _, hs_H_d_, _, _⟩ := RepSl.shape H_d_
  have H_d_ := H_d_.start
  rw [spans_Make] at hF
  refine WP.seq (WP.rb mixed [[]] [[]] [(2, .slice none 0 0)] (by kernel_rfl) ⟨aC rfl rfl (fun _ => rfl), trivial⟩ ?_)
  intro ρ1 w1 hN hf hr
  have h0 := (hr 0 rfl).trans h0
  have H_d_ := H_d_.exn hN
  have hW := hW.trans hN
  refine WP.seq (WP.rg mixed [[]] [[]] [[]] [(3, fun u wz => ∃ b, u = .pointer (some ⟨b, 0, none⟩) ∧ w1.heap.size ≤ b ∧ Mb wz b 32 [Value.slice none 0 0])] (by kernel_rfl) ⟨fun _ _ _ hE ⟨b, hb, hs, hM⟩ => ⟨b, hb, hs, hM.exn hE⟩, trivial⟩ ⟨fun ρz wz hE hA _ _ => core_new rfl rfl hE (o_alloc (al_32 _)), trivial⟩ ?_)
  intro ρ2 w2 hN hf hr
  obtain ⟨b3_, h3, hge_b3_, Hb_b3_⟩ := hf 0 rfl
  have h0 := (hr 0 rfl).trans h0
  have H_d_ := H_d_.exn hN
  have hB_b3_ : w0.heap.size ≤ b3_ := Nat.le_trans hW.size hge_b3_
  have hW := hW.trans hN
  have OB_b3_ : Own w0.heap.size 31 2 Span.cells w2 (.slice none 0 0) [] := Own.nil _ _ _ _ _
  have hnb_OB_b3__b3_ : Value.ownBlock (.slice none 0 0) ≠ some b3_ := by simp [Value.ownBlock]
  refine WP.seq (WP.seq (WP.rb mixed [[], [0], []] [[0], [], []] [(10, v_d_), (11, .int .i64 (d_.length : Int)), (12, .int .i64 0)] (by kernel_rfl) ⟨mE rfl rfl h0,
 fun ρz wz hE hA _ ⟨u0, _⟩ => core_val rfl rfl (o_len (u0.trans hs_H_d_) len_32),
 mC rfl rfl (fun _ => rfl), trivial⟩ ?_))
  intro ρ3 w3 hN hf hr
  have h10 := hv hf 0 rfl rfl
  have h11 := hv hf 1 rfl rfl
  have h12 := hv hf 2 rfl rfl
  have h3 := (hr 3 rfl).trans h3
  have Oo_OB_b3_ := OB_b3_
  have Hb_b3_n := Hb_b3_.exn hN
  have H_d_ := H_d_.exn hN
  have hW := hW.trans hN
  have OB_b3_ : Own w0.heap.size 31 2 Span.cells w3 (.slice none 0 0) [] := Own.nil _ _ _ _ _
  have hnb_OB_b3__b3_ : Value.ownBlock (.slice none 0 0) ≠ some b3_ := by simp [Value.ownBlock]
  have Hb_b3_ := Hb_b3_n
  refine WP.block (WP.loop (fun k_ ρ w => ∃ x : Int, ∃ v : List Span, ∃ vh_ : Value, ρ 3 = .pointer (some ⟨b3_, 0, none⟩) ∧ ρ 10 = v_d_ ∧ ρ 11 = .int .i64 (d_.length : Int) ∧ ρ 12 = .int .i64 x ∧ Mb w b3_ 32 [vh_] ∧ RepSl Span.R (gfr noG w0) w v_d_ d_ ∧ Own w0.heap.size 31 2 Span.cells w vh_ v ∧ Value.ownBlock vh_ ≠ some b3_ ∧ Ext noG w0 w ∧ loopC k_ (spans_Make_l d_) (x, v) = some r) FU ⟨0, [], .slice none 0 0, h3, h10, h11, h12, Hb_b3_, H_d_, OB_b3_, hnb_OB_b3__b3_, hW, hF⟩ (fun _ _ h => by obtain ⟨_, _, _, _, _, _, _, _, _, _, _, _, h⟩ := h; cases h) ?_)
  rintro k_ ρ4 w4 ⟨x, v, vh_, h3, h10, h11, h12, Hb_b3_, H_d_, OB_b3_, hnb_OB_b3__b3_, hW, hF⟩
  have hF : spans_Make_l d_ (loopC k_ (spans_Make_l d_)) (x, v) = some r := hF
  generalize hrec_ : loopC k_ (spans_Make_l d_) = rec_ at hF
  rw [spans_Make_l] at hF
  refine WP.seq (WP.rb mixed [[]] [[12, 11]] [(13, .bool (decide (x < (d_.length : Int))))] (by kernel_rfl) ⟨fun ρz wz hE hA ⟨e12, e11, _⟩ _ => core_val rfl rfl (o_lss (e12.trans h12) (e11.trans h11) rfl), trivial⟩ ?_)
  intro ρ5 w5 hN hf hr
  have h13 := hv hf 0 rfl rfl
  obtain ⟨h3, h10, h11, h12⟩ := k4 hr h3 h10 h11 h12 rfl
  have Oo_OB_b3_ := OB_b3_
  have Hb_b3_n := Hb_b3_.exn hN
  have H_d_ := H_d_.exn hN
  have hW := hW.trans hN
  have OB_b3_ := Oo_OB_b3_.exn hN
  have Hb_b3_ := Hb_b3_n
  refine WP.seq (WP.cond rfl h13 (fun hb => ?_) (fun hb => ?_))
  · have hF := (if_pos hb).symm.trans hF
    refine WP.skip (WP.seqJ (fun ρ w => ∃ v2 : List Span, ∃ vh_2 : Value, ρ 3 = .pointer (some ⟨b3_, 0, none⟩) ∧ ρ 10 = v_d_ ∧ ρ 11 = .int .i64 (d_.length : Int) ∧ ρ 12 = .int .i64 x ∧ Mb w b3_ 32 [vh_2] ∧ RepSl Span.R (gfr noG w0) w v_d_ d_ ∧ Own w0.heap.size 31 2 Span.cells w vh_2 v2 ∧ Value.ownBlock vh_2 ≠ some b3_ ∧ Ext noG w0 w ∧ spans_Make_j x rec_ v2 = some r) ?_ ?_)
    · refine WP.block (WP.seq ?_)
      obtain ⟨y, hy, hF⟩ := obind hF
      obtain ⟨ay, cy, hvy, hiy, hAy⟩ := RepSl.getF H_d_ hy
      refine WP.region mixed [[], [0], [], [1, 2]] [[], [0], [], [1, 2]] [[10, 12], [], [], []] [3] [(2, 3)] [val 14 (.pointer (some (ay.add (Int.toNat x * 2)))), val 15 (Span.val y), (5, fun u wz => ∃ b, u = .pointer (some ⟨b, 0, none⟩) ∧ w5.heap.size ≤ b ∧ Mb wz b 31 (Span.cells (⟨0, 0⟩ : Span))), (5, fun u wz => ∃ b, u = .pointer (some ⟨b, 0, none⟩) ∧ w5.heap.size ≤ b ∧ Mb wz b 31 (Span.cells y))] (fun b => w5.heap.size ≤ b) (by kernel_rfl) ⟨sV, sV, fun _ _ _ hE ⟨b, hb, hs, hM⟩ => ⟨b, hb, hs, hM.exn hE⟩, fun _ _ _ hE ⟨b, hb, hs, hM⟩ => ⟨b, hb, hs, hM.exn hE⟩, trivial⟩ ⟨fun ρz wz hE hA ⟨e10, e12, _⟩ _ => core_val rfl rfl (o_indexAddr ((e10.trans h10).trans hvy) (e12.trans h12) (ia_32 hiy)),
 fun ρz wz hE hA _ ⟨u0, _⟩ => core_val rfl rfl (o_load u0 (run_loadN (cs := (Span.cells y)) (lr_31 _ _) rfl ((hAy.exn hE.fresh).ca))),
 fun ρz wz hE hA _ _ => core_new rfl rfl hE (o_alloc (al_31 _)),
 fun ρz wz hE hA _ ⟨u1, u2, _⟩ => core_storeNew rfl rfl rfl rfl u1 u2 (fun a w => st_31 _ a w) rfl (one_31 _), trivial⟩ ?_
      intro ρ8 w8 hE hN hf hr
      have hN := hE.fresh
      obtain ⟨b5_, h5, hge_b5_, Hb_b5_⟩ := hf 3 rfl
      obtain ⟨h3, h10, h11, h12⟩ := k4 hr h3 h10 h11 h12 rfl
      have Oo_OB_b3_ := OB_b3_
      have Hb_b3_n := Hb_b3_.exn hN
      have H_d_ := H_d_.exn hN
      have hB_b5_ : w0.heap.size ≤ b5_ := Nat.le_trans hW.size hge_b5_
      have hne_b3__b5_ : b3_ ≠ b5_ := Nat.ne_of_lt (Nat.lt_of_lt_of_le Hb_b3_.lt hge_b5_)
      have hW := hW.trans hN
      have OB_b3_ := Oo_OB_b3_.exn hN
      have hnb_OB_b3__b5_ : Value.ownBlock vh_ ≠ some b5_ := fun h => absurd (Oo_OB_b3_.lt h).2 (Nat.not_lt.2 hge_b5_)
      have Hb_b3_ := Hb_b3_n
      refine WP.seq ?_
      obtain ⟨z, hz, hF⟩ := obind hF
      refine WP.region mixed [[], [0], [0, 1]] [[], [0], [1]] [[5], [], [5]] [2] [] [val 16 (Span.val y), val 17 (Span.val z), (5, fun _ wz => Mb wz b5_ 31 (Span.cells z))] (fun x => x = b5_) (by kernel_rfl) ⟨sV, sV, fun _ _ _ hE hM => hM.exn hE, trivial⟩ ⟨fun ρz wz hE hA ⟨e5, _⟩ _ => core_val rfl rfl (o_load (e5.trans h5) (run_loadN (cs := (Span.cells y)) (lr_31 _ _) rfl ((Hb_b5_.exn (hA rfl)).ca))),
 fun ρz wz hE hA _ ⟨u0, _⟩ => core_call rfl (call_args1 u0) cf_42 (spans_clamp_ok  _  hz),
 fun ρz wz hE hA ⟨e5, _⟩ ⟨u1, _⟩ => core_storeBox rfl rfl (fun _ h => h) (e5.trans h5) u1 (Hb_b5_.exn (hA rfl)) (fun a w => st_31 _ a w) rfl (one_31 _), trivial⟩ ?_
      intro ρ9 w9 hE hN hf hr
      obtain ⟨h3, h10, h11, h12, h5⟩ := k5 hr h3 h10 h11 h12 h5 rfl
      have Oo_OB_b3_ := OB_b3_
      have Hb_b3_n := Hb_b3_.ext hE (fun h => hne_b3__b5_ h)
      have Hb_b5_n := hf 2 rfl
      have H_d_ := H_d_.over hE (fun b hb => hb.symm ▸ hB_b5_)
      have hW := Ext.own hW hE (fun x h => h.symm ▸ hB_b5_)
      have OB_b3_ := Oo_OB_b3_.ext hE (fun b hb hg => hnb_OB_b3__b5_ (hg ▸ hb))
      have Hb_b3_ := Hb_b3_n
      have Hb_b5_ := Hb_b5_n
      refine WP.seq (WP.rb mixed [[], [0], [], [2], [1, 3]] [[5], [], [5], [], []] [(18, .pointer (some ((⟨b5_, 0, none⟩ : Addr).add 0))), (19, .int .i64 z.From), (20, .pointer (some ((⟨b5_, 0, none⟩ : Addr).add 1))), (21, .int .i64 z.To), (22, .bool (decide (z.From < z.To)))] (by kernel_rfl) ⟨fun ρz wz hE hA ⟨e5, _⟩ _ => core_val rfl rfl (o_fieldAddr (e5.trans h5) (fa_31_0 _ _)),
 fun ρz wz hE hA _ ⟨u0, _⟩ => core_val rfl rfl (o_load u0 (run_load1 (lr_3 _ _) (CA.sub ((Hb_b5_.exn (hA rfl)).ca) 0 1))),
 fun ρz wz hE hA ⟨e5, _⟩ _ => core_val rfl rfl (o_fieldAddr (e5.trans h5) (fa_31_1 _ _)),
 fun ρz wz hE hA _ ⟨u2, _⟩ => core_val rfl rfl (o_load u2 (run_load1 (lr_3 _ _) (CA.sub ((Hb_b5_.exn (hA rfl)).ca) 1 1))),
 fun ρz wz hE hA _ ⟨u1, u3, _⟩ => core_val rfl rfl (o_lss u1 u3 rfl), trivial⟩ ?_)
      intro ρ10 w10 hN hf hr
      have h22 := hv hf 4 rfl rfl
      obtain ⟨h3, h10, h11, h12, h5⟩ := k5 hr h3 h10 h11 h12 h5 rfl
      have Oo_OB_b3_ := OB_b3_
      have Hb_b3_n := Hb_b3_.exn hN
      have Hb_b5_n := Hb_b5_.exn hN
      have H_d_ := H_d_.exn hN
      have hW := hW.trans hN
      have OB_b3_ := Oo_OB_b3_.exn hN
      have Hb_b3_ := Hb_b3_n
      have Hb_b5_ := Hb_b5_n
      refine WP.cond rfl h22 (fun hb => ?_) (fun hb => ?_)
      · have hF := (if_pos hb).symm.trans hF
        obtain ⟨l, hl, hF⟩ := obind hF
        refine WP.region mixed [[], [], [1], [0, 1, 2], [0, 1, 3]] [[], [], [1], [0, 2], [3]] [[3], [5], [], [], [3]] [3, 4] [(3, 4)] [val 23 (vh_), val 24 (Span.val z), (25, fun u wz => ∃ b, u = .slice (some ⟨b, 0, none⟩) 1 1 ∧ w10.heap.size ≤ b ∧ Mb wz b 31 (([z]).flatMap Span.cells)), (26, fun u wz => (Own w0.heap.size 31 2 Span.cells wz u l ∧ ∀ b, u.ownBlock = some b → (vh_.ownBlock = some b ∨ w10.heap.size ≤ b)) ∧ Mb wz b3_ 32 [(vh_ : Value)]), (26, fun u wz => Mb wz b3_ 32 [(u : Value)] ∧ Own w0.heap.size 31 2 Span.cells wz u l ∧ ∀ b, u.ownBlock = some b → (vh_.ownBlock = some b ∨ w10.heap.size ≤ b))] (fun x => Value.ownBlock vh_ = some x ∨ x = b3_) (by kernel_rfl) ⟨sV, sV, fun _ _ _ hE ⟨b, hz, hs, hM⟩ => ⟨b, hz, hs, hM.ext hE (fun h => h.elim (fun h => absurd (OB_b3_.lt h).2 (Nat.not_lt.2 hs)) (fun h => absurd (h ▸ Hb_b3_.lt) (Nat.not_lt.2 hs)))⟩, fun _ _ _ hE ⟨⟨hO, hf⟩, hM⟩ => ⟨⟨hO.exn hE, hf⟩, hM.exn hE⟩, fun _ _ _ hE ⟨h1, h2, h3⟩ => ⟨h1.exn hE, h2.exn hE, h3⟩, trivial⟩ ⟨fun ρz wz hE hA ⟨e3, _⟩ _ => core_val rfl rfl (o_load (e3.trans h3) (run_load1 (lr_32 _ _) ((Hb_b3_.exn (hA rfl)).ca))),
 fun ρz wz hE hA ⟨e5, _⟩ _ => core_val rfl rfl (o_load (e5.trans h5) (run_loadN (cs := (Span.cells z)) (lr_31 _ _) rfl ((Hb_b5_.exn (hA rfl)).ca))),
 fun ρz wz hE hA _ ⟨u1, _⟩ => core_slice rfl rfl hE (o_buildSlice (build_parts1 u1) (bs_32_1 _ _)),
 fun ρz wz hE hA _ ⟨u0, ⟨bz2, hz2, hge2, hM2⟩, _⟩ => core_appendX (n := 2) (cells := Span.cells) (B := w0.heap.size) (w0 := w10) rfl rfl (fun b hb => .inl hb) u0 hz2 (fun _ => rfl) one_31 si_32 se_31 (by decide) (by decide) (OB_b3_.exn (hA rfl)) ⟨_, (Mb.rep (n := 2) (cells := Span.cells) (hn := fun _ => rfl) (G := noG) hM2 rfl (Nat.le_of_ble_eq_true rfl) (fun h => h))⟩ hl (Nat.le_trans hW.size hE.size) hE.size (fun v1 w1 hE1 h1 h2 => ⟨⟨h1, h2⟩, (Hb_b3_.exn (hA rfl)).ext hE1 (fun h => hnb_OB_b3__b3_ h)⟩),
 fun ρz wz hE hA ⟨e3, _⟩ ⟨⟨⟨hO3, hfr3⟩, hMb3⟩, _⟩ => core_storeX (k := 0) (vs := [ρz 26]) (cs0 := [(vh_ : Value)]) rfl rfl (fun _ h => .inr h) (e3.trans h3) (addr0 _) rfl hMb3 (stv_32 (Own.shp hO3)) (Nat.le_of_ble_eq_true rfl) rfl (one_val (oneC_slice (Own.shp hO3))) (fun w1 hE1 hM => ⟨hM, hO3.ext hE1 (fun b1 hb h0 => by have h1 := h0 ▸ hb; exact (hfr3 _ h1).elim (fun h => hnb_OB_b3__b3_ h) (fun h => absurd Hb_b3_.lt (Nat.not_lt.2 h))), hfr3⟩), trivial⟩ ?_
        intro ρ11 w11 hE hN hf hr
        obtain ⟨h3, h10, h11, h12⟩ := k4 hr h3 h10 h11 h12 rfl
        obtain ⟨vb_, hvx⟩ : ∃ v, ρ11 26 = v := ⟨_, rfl⟩
        have hqx : (fun (u : Value) (wz : World) => Mb wz b3_ 32 [(u : Value)] ∧ Own w0.heap.size 31 2 Span.cells wz u l ∧ ∀ b, u.ownBlock = some b → (vh_.ownBlock = some b ∨ w10.heap.size ≤ b)) (ρ11 26) w11 := hf 4 rfl
        rw [hvx] at hqx
        obtain ⟨Hbx, OBx_vb_, hfr_vb_⟩ := hqx
        have Oo_OB_b3_ := OB_b3_
        have H_d_ := H_d_.over hE (fun b h => h.elim (fun h => (Oo_OB_b3_.lt h).1) (fun h => h.symm ▸ hB_b3_))
        have hW := Ext.own hW hE (fun x h => h.elim (fun h => (Oo_OB_b3_.lt h).1) (fun h => h.symm ▸ hB_b3_))
        have hnb_OB_b3__b3_ : Value.ownBlock vb_ ≠ some b3_ := fun h1 => (hfr_vb_ _ h1).elim (fun h => hnb_OB_b3__b3_ h) (fun h => absurd Hb_b3_.lt (Nat.not_lt.2 h))
        have Hb_b3_ := Hbx
        have OB_b3_ := OBx_vb_
        exact ⟨l, vb_, h3, h10, h11, h12, Hb_b3_, H_d_, OB_b3_, hnb_OB_b3__b3_, hW, hF⟩
      have hF := (if_neg (Bool.eq_false_iff.1 hb)).symm.trans hF
      refine WP.skip ?_
      exact ⟨v, vh_, h3, h10, h11, h12, Hb_b3_, H_d_, OB_b3_, hnb_OB_b3__b3_, hW, hF⟩
    rintro ρ6 w6 ⟨v2, vh_2, h3, h10, h11, h12, Hb_b3_, H_d_, OB_b3_, hnb_OB_b3__b3_, hW, hF⟩
    rw [spans_Make_j] at hF
    refine WP.rb mixed [[], [0]] [[12], []] [(27, .int .i64 (i64 (x + 1))), (12, .int .i64 (i64 (x + 1)))] (by kernel_rfl) ⟨fun ρz wz hE hA ⟨e12, _⟩ _ => core_val rfl rfl (o_add (e12.trans h12) rfl rfl),
 mU rfl rfl rfl, trivial⟩ ?_
    intro ρ7 w7 hN hf hr
    have h12 := hv hf 1 rfl rfl
    obtain ⟨h3, h10, h11⟩ := k3 hr h3 h10 h11 rfl
    have Oo_OB_b3_ := OB_b3_
    have Hb_b3_n := Hb_b3_.exn hN
    have H_d_ := H_d_.exn hN
    have hW := hW.trans hN
    have OB_b3_ := Oo_OB_b3_.exn hN
    have Hb_b3_ := Hb_b3_n
    exact ⟨i64 (x + 1), v2, vh_2, h3, h10, h11, h12, Hb_b3_, H_d_, OB_b3_, hnb_OB_b3__b3_, hW, (by first | exact hF | (rw [hrec_]; exact hF))⟩
  have hF := (if_neg (Bool.eq_false_iff.1 hb)).symm.trans hF
  refine WP.exit (thenQ_exit (thenQ_exit (blockQ_hit (WP.seq ?_))))
  obtain ⟨z2, hz2, hF⟩ := obind hF
  refine WP.region mixed [[], [0], [], [0, 1, 2]] [[], [0], [], [1, 2]] [[3], [], [3], []] [3] [] [val 28 (vh_), val 29 (.iface 32 vh_), val 30 (.func (.func 44) #[] #[.pointer (some ⟨b3_, 0, none⟩)]), (31, fun u wz => u = .tuple #[] ∧ Own w0.heap.size 31 2 Span.cells wz vh_ z2)] (fun b => Value.ownBlock vh_ = some b) (by kernel_rfl) ⟨sV, sV, sV, fun _ _ _ hE ⟨h1, h2⟩ => ⟨h1, h2.exn hE⟩, trivial⟩ ⟨fun ρz wz hE hA ⟨e3, _⟩ _ => core_val rfl rfl (o_load (e3.trans h3) (run_load1 (lr_32 _ _) ((Hb_b3_.exn (hA rfl)).ca))),
 fun ρz wz hE hA _ ⟨u0, _⟩ => core_val rfl rfl (o_iface u0 (mi_32 _)),
 fun ρz wz hE hA ⟨e3, _⟩ _ => core_val rfl rfl (o_makeFunc (call_args1 (e3.trans h3))),
 fun ρz wz hE hA _ ⟨u1, u2, _⟩ => core_callM rfl rfl (fun _ h => h) (call_args2 u1 u2) cf_43 (sort_Slice_44_ok _ (OB_b3_.exn (hA rfl)) (Hb_b3_.exn (hA rfl)) hnb_OB_b3__b3_ hz2), trivial⟩ ?_
  intro ρ12 w12 hE hN hf hr
  have h3 := (hr 3 rfl).trans h3
  have Oo_OB_b3_ := OB_b3_
  have Hb_b3_n := Hb_b3_.ext hE (fun h => hnb_OB_b3__b3_ h)
  have hW := Ext.own hW hE (fun b hb => (Oo_OB_b3_.lt hb).1)
  have OB_b3_ := (hf 3 rfl).2
  have Hb_b3_ := Hb_b3_n
  refine WP.seq (WP.rb mixed [[]] [[]] [(6, .slice none 0 0)] (by kernel_rfl) ⟨aC rfl rfl (fun _ => rfl), trivial⟩ ?_)
  intro ρ13 w13 hN hf hr
  have h6 : ρ13 6 = .slice none 0 0 := hf 0 rfl
  have O6 : Own w0.heap.size 31 2 Span.cells w13 (.slice none 0 0) [] := Own.nil _ _ _ _ _
  have h3 := (hr 3 rfl).trans h3
  have Oo_OB_b3_ := OB_b3_
  have Hb_b3_n := Hb_b3_.exn hN
  have hW := hW.trans hN
  have O6 : Own w0.heap.size 31 2 Span.cells w13 (.slice none 0 0) [] := Own.nil _ _ _ _ _
  have OB_b3_ := Oo_OB_b3_.exn hN
  have hnb_O6_b3_ : Value.ownBlock (.slice none 0 0) ≠ some b3_ := by simp [Value.ownBlock]
  have hdd_O6_OB_b3_ : ∀ b, Value.ownBlock (.slice none 0 0) = some b → Value.ownBlock vh_ ≠ some b := fun b h => by simp [Value.ownBlock] at h
  have Hb_b3_ := Hb_b3_n
  refine WP.seq (WP.seq (WP.rb mixed [[], [0], []] [[3], [], []] [(32, vh_), (33, .int .i64 (z2.length : Int)), (34, .int .i64 0)] (by kernel_rfl) ⟨fun ρz wz hE hA ⟨e3, _⟩ _ => core_val rfl rfl (o_load (e3.trans h3) (run_load1 (lr_32 _ _) ((Hb_b3_.exn (hA rfl)).ca))),
 fun ρz wz hE hA _ ⟨u0, _⟩ => core_val rfl rfl (o_len (u0.trans (Own.shape OB_b3_).choose_spec.choose_spec.1) len_32),
 mC rfl rfl (fun _ => rfl), trivial⟩ ?_))
  intro ρ14 w14 hN hf hr
  have h32 := hv hf 0 rfl rfl
  have h33 := hv hf 1 rfl rfl
  have h34 := hv hf 2 rfl rfl
  have h6 := (hr 6 rfl).trans h6
  have Oo_O6 := O6
  have Oo_OB_b3_ := OB_b3_
  have hW := hW.trans hN
  have O6 : Own w0.heap.size 31 2 Span.cells w14 (.slice none 0 0) [] := Own.nil _ _ _ _ _
  have Hf32 : RepSl Span.R (gL [ownG (.slice none 0 0)]) w14 vh_ z2 := (Oo_OB_b3_.exn hN).rep (fun b hb h => h.elim (fun h => by simp [ownG, Value.ownBlock] at h) (fun h => h.elim))
  obtain ⟨_, _, hs_Hf32, _, _⟩ := RepSl.shape Hf32
  refine WP.block (WP.loop (fun k_2 ρ w => ∃ x2 : List Span, ∃ x3 : Int, ∃ v6_ : Value, ρ 6 = v6_ ∧ ρ 32 = vh_ ∧ ρ 33 = .int .i64 (z2.length : Int) ∧ ρ 34 = .int .i64 x3 ∧ RepSl Span.R (gL [ownG v6_]) w vh_ z2 ∧ Own w0.heap.size 31 2 Span.cells w v6_ x2 ∧ Ext noG w0 w ∧ loopC k_2 (spans_Make_l2 z2) (x2, x3) = some r) FU ⟨[], 0, .slice none 0 0, h6, h32, h33, h34, Hf32, O6, hW, hF⟩ (fun _ _ h => by obtain ⟨_, _, _, _, _, _, _, _, _, _, h⟩ := h; cases h) ?_)
  rintro k_2 ρ15 w15 ⟨x2, x3, v6_, h6, h32, h33, h34, Hf32, O6, hW, hF⟩
  have hF : spans_Make_l2 z2 (loopC k_2 (spans_Make_l2 z2)) (x2, x3) = some r := hF
  generalize hrec_2 : loopC k_2 (spans_Make_l2 z2) = rec_2 at hF
  rw [spans_Make_l2] at hF
  refine WP.seq (WP.rb mixed [[]] [[34, 33]] [(35, .bool (decide (x3 < (z2.length : Int))))] (by kernel_rfl) ⟨fun ρz wz hE hA ⟨e34, e33, _⟩ _ => core_val rfl rfl (o_lss (e34.trans h34) (e33.trans h33) rfl), trivial⟩ ?_)
  intro ρ16 w16 hN hf hr
  have h35 := hv hf 0 rfl rfl
  obtain ⟨h6, h32, h33, h34⟩ := k4 hr h6 h32 h33 h34 rfl
  have Oo_O6 := O6
  have Hf32 := Hf32.exn hN
  have hW := hW.trans hN
  have O6 := Oo_O6.exn hN
  refine WP.seq (WP.cond rfl h35 (fun hb => ?_) (fun hb => ?_))
  · have hF := (if_pos hb).symm.trans hF
    refine WP.skip (WP.seqJ (fun ρ w => ∃ x4 : List Span, ∃ v6_2 : Value, ρ 6 = v6_2 ∧ ρ 32 = vh_ ∧ ρ 33 = .int .i64 (z2.length : Int) ∧ ρ 34 = .int .i64 x3 ∧ RepSl Span.R (gL [ownG v6_2]) w vh_ z2 ∧ Own w0.heap.size 31 2 Span.cells w v6_2 x4 ∧ Ext noG w0 w ∧ spans_Make_j2 x3 rec_2 x4 = some r) ?_ ?_)
    · refine WP.block (WP.seq ?_)
      obtain ⟨y2, hy2, hF⟩ := obind hF
      obtain ⟨ay2, cy2, hvy2, hiy2, hAy2⟩ := RepSl.getF Hf32 hy2
      refine WP.region mixed [[], [0], [], [1, 2]] [[], [0], [], [1, 2]] [[32, 34], [], [], []] [3] [(2, 3)] [val 36 (.pointer (some (ay2.add (Int.toNat x3 * 2)))), val 37 (Span.val y2), (8, fun u wz => ∃ b, u = .pointer (some ⟨b, 0, none⟩) ∧ w16.heap.size ≤ b ∧ Mb wz b 31 (Span.cells (⟨0, 0⟩ : Span))), (8, fun u wz => ∃ b, u = .pointer (some ⟨b, 0, none⟩) ∧ w16.heap.size ≤ b ∧ Mb wz b 31 (Span.cells y2))] (fun b => w16.heap.size ≤ b) (by kernel_rfl) ⟨sV, sV, fun _ _ _ hE ⟨b, hb, hs, hM⟩ => ⟨b, hb, hs, hM.exn hE⟩, fun _ _ _ hE ⟨b, hb, hs, hM⟩ => ⟨b, hb, hs, hM.exn hE⟩, trivial⟩ ⟨fun ρz wz hE hA ⟨e32, e34, _⟩ _ => core_val rfl rfl (o_indexAddr ((e32.trans h32).trans hvy2) (e34.trans h34) (ia_32 hiy2)),
 fun ρz wz hE hA _ ⟨u0, _⟩ => core_val rfl rfl (o_load u0 (run_loadN (cs := (Span.cells y2)) (lr_31 _ _) rfl ((hAy2.exn hE.fresh).ca))),
 fun ρz wz hE hA _ _ => core_new rfl rfl hE (o_alloc (al_31 _)),
 fun ρz wz hE hA _ ⟨u1, u2, _⟩ => core_storeNew rfl rfl rfl rfl u1 u2 (fun a w => st_31 _ a w) rfl (one_31 _), trivial⟩ ?_
      intro ρ19 w19 hE hN hf hr
      have hN := hE.fresh
      obtain ⟨b8_, h8, hge_b8_, Hb_b8_⟩ := hf 3 rfl
      obtain ⟨h6, h32, h33, h34⟩ := k4 hr h6 h32 h33 h34 rfl
      have Oo_O6 := O6
      have Hf32 := Hf32.exn hN
      have hB_b8_ : w0.heap.size ≤ b8_ := Nat.le_trans hW.size hge_b8_
      have hW := hW.trans hN
      have O6 := Oo_O6.exn hN
      have hnb_O6_b8_ : Value.ownBlock v6_ ≠ some b8_ := fun h => absurd (Oo_O6.lt h).2 (Nat.not_lt.2 hge_b8_)
      refine WP.seq (WP.rb mixed [[], [0], [1]] [[6], [], []] [(38, v6_), (39, .int .i64 (x2.length : Int)), (9, .int .i64 (x2.length : Int))] (by kernel_rfl) ⟨mE rfl rfl h6,
 fun ρz wz hE hA _ ⟨u0, _⟩ => core_val rfl rfl (o_len (u0.trans (Own.shape O6).choose_spec.choose_spec.1) len_32),
 aU rfl rfl rfl, trivial⟩ ?_)
      intro ρ20 w20 hN hf hr
      have h9 := hv hf 2 rfl rfl
      obtain ⟨h6, h32, h33, h34, h8⟩ := k5 hr h6 h32 h33 h34 h8 rfl
      have Oo_O6 := O6
      have Hb_b8_n := Hb_b8_.exn hN
      have Hf32 := Hf32.exn hN
      have hW := hW.trans hN
      have O6 := Oo_O6.exn hN
      have Hb_b8_ := Hb_b8_n
      refine WP.seq (WP.seq ?_)
      obtain ⟨c, hc, hF⟩ := obind hF
      obtain ⟨y3, hy3, hc⟩ := andB hc
      obtain ⟨ay3, cy3, hvy3, hiy3, hAy3⟩ := RepSl.getFI (Own.rep (hn := fun _ => rfl) (G := noG) O6 (fun _ _ h => h)) hy3
      have hc := andE hc
      refine WP.rb mixed [[], [0], [1], [2], [2, 3], [2], [2], [2, 6], [2, 5, 7], [2, 8], [2, 9], [2, 4, 10], [2, 11]] [[9], [], [], [8], [], [6], [9], [], [], [], [], [], []] [(40, .int .i64 (x2.length : Int)), (41, .bool (decide (0 < (x2.length : Int)))), (42, .bool (decide (0 < (x2.length : Int)))), (43, gv (decide (0 < (x2.length : Int))) (.pointer (some ((⟨b8_, 0, none⟩ : Addr).add 0)))), (44, gv (decide (0 < (x2.length : Int))) (.int .i64 y2.From)), (45, gv (decide (0 < (x2.length : Int))) v6_), (46, gv (decide (0 < (x2.length : Int))) (.int .i64 (x2.length : Int))), (47, gv (decide (0 < (x2.length : Int))) (.int .i64 (i64 ((x2.length : Int) - 1)))), (48, gv (decide (0 < (x2.length : Int))) (.pointer (some (ay3.add (Int.toNat (i64 ((x2.length : Int) - 1)) * 2))))), (49, gv (decide (0 < (x2.length : Int))) (.pointer (some ((ay3.add (Int.toNat (i64 ((x2.length : Int) - 1)) * 2)).add 1)))), (50, gv (decide (0 < (x2.length : Int))) (.int .i64 y3.To)), (51, gv (decide (0 < (x2.length : Int))) (.bool (decide (y2.From ≤ y3.To)))), (52, .bool c)] (by kernel_rfl) ⟨mE rfl rfl h9,
 fun ρz wz hE hA _ ⟨u0, _⟩ => core_val rfl rfl (o_gtr u0 rfl rfl),
 mU rfl rfl rfl,
 fun ρz wz hE hA ⟨e8, _⟩ ⟨u2, _⟩ => gIf rfl rfl (yT rfl u2) fun gc F hF => core_val rfl hF (o_fieldAddr (e8.trans h8) (fa_31_0 _ _)),
 fun ρz wz hE hA _ ⟨u2, u3, _⟩ => gIf rfl rfl (yT rfl u2) fun gc F hF => core_val rfl hF (o_load (gt gc u3) (run_load1 (lr_3 _ _) (CA.sub ((Hb_b8_.exn (hA rfl)).ca) 0 1))),
 fun ρz wz hE hA ⟨e6, _⟩ ⟨u2, _⟩ => gIf rfl rfl (yT rfl u2) fun gc F hF => core_val rfl hF (o_move (e6.trans h6)),
 fun ρz wz hE hA ⟨e9, _⟩ ⟨u2, _⟩ => gIf rfl rfl (yT rfl u2) fun gc F hF => core_val rfl hF (o_move (e9.trans h9)),
 fun ρz wz hE hA _ ⟨u2, u6, _⟩ => gIf rfl rfl (yT rfl u2) fun gc F hF => core_val rfl hF (o_sub (gt gc u6) rfl rfl),
 fun ρz wz hE hA _ ⟨u2, u5, u7, _⟩ => gIf rfl rfl (yT rfl u2) fun gc F hF => core_val rfl hF (o_indexAddr ((gt gc u5).trans (hvy3 gc)) (gt gc u7) (ia_32 (hiy3 gc))),
 fun ρz wz hE hA _ ⟨u2, u8, _⟩ => gIf rfl rfl (yT rfl u2) fun gc F hF => core_val rfl hF (o_fieldAddr (gt gc u8) (fa_31_1 _ _)),
 fun ρz wz hE hA _ ⟨u2, u9, _⟩ => gIf rfl rfl (yT rfl u2) fun gc F hF => core_val rfl hF (o_load (gt gc u9) (run_load1 (lr_3 _ _) (CA.sub (((hAy3 gc).exn (hA rfl)).ca) 1 1))),
 fun ρz wz hE hA _ ⟨u2, u4, u10, _⟩ => gIf rfl rfl (yT rfl u2) fun gc F hF => core_val rfl hF (o_leq (gt gc u4) (gt gc u10) rfl),
 fun ρz wz hE hA _ ⟨u2, u11, _⟩ => core_valE rfl rfl (congrArg Value.bool hc) (o_pick_and u2 u11 rfl), trivial⟩ ?_
      intro ρ21 w21 hN hf hr
      have h52 := hv hf 12 rfl rfl
      obtain ⟨h6, h32, h33, h34, h8, h9⟩ := k6 hr h6 h32 h33 h34 h8 h9 rfl
      have Oo_O6 := O6
      have Hb_b8_n := Hb_b8_.exn hN
      have Hf32 := Hf32.exn hN
      have hW := hW.trans hN
      have O6 := Oo_O6.exn hN
      have Hb_b8_ := Hb_b8_n
      refine WP.cond rfl h52 (fun hb => ?_) (fun hb => ?_)
      · have hF := (if_pos hb).symm.trans hF
        refine WP.seq ?_
        obtain ⟨y4, hy4, hF⟩ := obind hF
        obtain ⟨ay4, cy4, hvy4, hiy4, hAy4⟩ := RepSl.getF (Own.rep (hn := fun _ => rfl) (G := noG) O6 (fun _ _ h => h)) hy4
        obtain ⟨y5, hy5, hF⟩ := obind hF
        obtain ⟨ay5, cy5, hvy5, hiy5, hAy5⟩ := RepSl.getF (Own.rep (hn := fun _ => rfl) (G := noG) O6 (fun _ _ h => h)) hy5
        refine WP.region mixed [[], [], [1], [], [], [4], [3, 5], [6], [7], [], [9], [8, 10], [0, 2], [12], [8, 10, 11, 13]] [[], [], [1], [], [], [4], [3, 5], [6], [7], [], [9], [8, 10], [0, 2], [12], [11, 13]] [[6], [9], [], [6], [9], [], [], [], [], [8], [], [], [], [], []] [14] [] [val 53 (v6_), val 54 (.int .i64 (x2.length : Int)), val 55 (.int .i64 (i64 ((x2.length : Int) - 1))), val 56 (v6_), val 57 (.int .i64 (x2.length : Int)), val 58 (.int .i64 (i64 ((x2.length : Int) - 1))), val 59 (.pointer (some (ay4.add (Int.toNat (i64 ((x2.length : Int) - 1)) * 2)))), val 60 (.pointer (some ((ay4.add (Int.toNat (i64 ((x2.length : Int) - 1)) * 2)).add 1))), val 61 (.int .i64 y4.To), val 62 (.pointer (some ((⟨b8_, 0, none⟩ : Addr).add 1))), val 63 (.int .i64 y2.To), val 64 (.int .i64 (max y4.To y2.To)), val 65 (.pointer (some (ay5.add (Int.toNat (i64 ((x2.length : Int) - 1)) * 2)))), val 66 (.pointer (some ((ay5.add (Int.toNat (i64 ((x2.length : Int) - 1)) * 2)).add 1))), (66, fun _ wz => Own w0.heap.size 31 2 Span.cells wz v6_ (setI x2 (i64 ((x2.length : Int) - 1)) ({ y5 with To := max y4.To y2.To } : Span)))] (fun b => Value.ownBlock v6_ = some b) (by kernel_rfl) ⟨sV, sV, sV, sV, sV, sV, sV, sV, sV, sV, sV, sV, sV, sV, fun _ _ _ hE h => h.exn hE, trivial⟩ ⟨mE rfl rfl h6,
 mE rfl rfl h9,
 fun ρz wz hE hA _ ⟨u1, _⟩ => core_val rfl rfl (o_sub u1 rfl rfl),
 mE rfl rfl h6,
 mE rfl rfl h9,
 fun ρz wz hE hA _ ⟨u4, _⟩ => core_val rfl rfl (o_sub u4 rfl rfl),
 fun ρz wz hE hA _ ⟨u3, u5, _⟩ => core_val rfl rfl (o_indexAddr (u3.trans hvy4) u5 (ia_32 hiy4)),
 fun ρz wz hE hA _ ⟨u6, _⟩ => core_val rfl rfl (o_fieldAddr u6 (fa_31_1 _ _)),
 fun ρz wz hE hA _ ⟨u7, _⟩ => core_val rfl rfl (o_load u7 (run_load1 (lr_3 _ _) (CA.sub ((hAy4.exn (hA rfl)).ca) 1 1))),
 fun ρz wz hE hA ⟨e8, _⟩ _ => core_val rfl rfl (o_fieldAddr (e8.trans h8) (fa_31_1 _ _)),
 fun ρz wz hE hA _ ⟨u9, _⟩ => core_val rfl rfl (o_load u9 (run_load1 (lr_3 _ _) (CA.sub ((Hb_b8_.exn (hA rfl)).ca) 1 1))),
 fun ρz wz hE hA _ ⟨u8, u10, _⟩ => core_val rfl rfl (o_max2 u8 u10),
 fun ρz wz hE hA _ ⟨u0, u2, _⟩ => core_val rfl rfl (o_indexAddr (u0.trans hvy5) u2 (ia_32 hiy5)),
 fun ρz wz hE hA _ ⟨u12, _⟩ => core_val rfl rfl (o_fieldAddr u12 (fa_31_1 _ _)),
 fun ρz wz hE hA _ ⟨u11, u13, _⟩ => core_storeOwn (n := 2) (off := 1) (cells := Span.cells) (y1 := ({ y5 with To := max y4.To y2.To } : Span)) (vs := [Value.int .i64 (max y4.To y2.To)]) rfl rfl (fun _ h => h) (fun _ => rfl) u13 hvy5 (Deep.add_add _ _ _) u11 (O6.exn (hA rfl)) hy5 (fun a w => st_3 _ a w) (Nat.le_of_ble_eq_true rfl) rfl (one_3 _), trivial⟩ ?_
        intro ρ22 w22 hE hN hf hr
        obtain ⟨h6, h32, h33, h34⟩ := k4 hr h6 h32 h33 h34 rfl
        have Oo_O6 := O6
        have Hf32 : RepSl Span.R (gL [ownG v6_]) w22 vh_ z2 := Hf32.mv hE (fun _ h => .inl (.inl h)) (fun b h => h.elim (fun h => .inl (.inl h)) (fun h => h.elim))
        have hW := Ext.own hW hE (fun b hb => (Oo_O6.lt hb).1)
        have O6 := hf 14 rfl
        refine WP.exit (thenQ_exit (blockQ_hit ?_))
        exact ⟨setI x2 (i64 ((x2.length : Int) - 1)) ({ y5 with To := max y4.To y2.To } : Span), v6_, h6, h32, h33, h34, Hf32, O6, hW, hF⟩
      have hF := (if_neg (Bool.eq_false_iff.1 hb)).symm.trans hF
      refine WP.skip ?_
      obtain ⟨l2, hl2, hF⟩ := obind hF
      refine WP.region mixed [[], [], [1], [0, 1, 2], [0, 3]] [[], [], [1], [0, 2], [3]] [[6], [8], [], [], []] [3] [] [val 67 (v6_), val 68 (Span.val y2), (69, fun u wz => ∃ b, u = .slice (some ⟨b, 0, none⟩) 1 1 ∧ w21.heap.size ≤ b ∧ Mb wz b 31 (([y2]).flatMap Span.cells)), (70, fun u wz => Own w0.heap.size 31 2 Span.cells wz u l2 ∧ ∀ b, u.ownBlock = some b → (v6_.ownBlock = some b ∨ w21.heap.size ≤ b)), (6, fun u wz => Own w0.heap.size 31 2 Span.cells wz u l2 ∧ ∀ b, u.ownBlock = some b → (v6_.ownBlock = some b ∨ w21.heap.size ≤ b))] (fun b => Value.ownBlock v6_ = some b) (by kernel_rfl) ⟨sV, sV, fun _ _ _ hE ⟨b, hz, hs, hM⟩ => ⟨b, hz, hs, hM.ext hE (fun hg => absurd (O6.lt hg).2 (Nat.not_lt.2 hs))⟩, fun _ _ _ hE ⟨hO, hf⟩ => ⟨hO.exn hE, hf⟩, fun _ _ _ hE ⟨hO, hf⟩ => ⟨hO.exn hE, hf⟩, trivial⟩ ⟨mE rfl rfl h6,
 fun ρz wz hE hA ⟨e8, _⟩ _ => core_val rfl rfl (o_load (e8.trans h8) (run_loadN (cs := (Span.cells y2)) (lr_31 _ _) rfl ((Hb_b8_.exn (hA rfl)).ca))),
 fun ρz wz hE hA _ ⟨u1, _⟩ => core_slice rfl rfl hE (o_buildSlice (build_parts1 u1) (bs_32_1 _ _)),
 fun ρz wz hE hA _ ⟨u0, ⟨bz2, hz2, hge2, hM2⟩, _⟩ => core_append (n := 2) (cells := Span.cells) (B := w0.heap.size) (w0 := w21) rfl rfl (fun b hb => hb) u0 hz2 (fun _ => rfl) one_31 si_32 se_31 (by decide) (by decide) (O6.exn (hA rfl)) ⟨_, (Mb.rep (n := 2) (cells := Span.cells) (hn := fun _ => rfl) (G := noG) hM2 rfl (Nat.le_of_ble_eq_true rfl) (fun h => h))⟩ hl2 (Nat.le_trans hW.size hE.size) hE.size (fun v1 w1 h1 h2 => ⟨h1, h2⟩),
 fun ρz wz hE hA _ ⟨⟨hO3, hfr3⟩, _⟩ => core_copy rfl rfl (o_assign rfl) ⟨hO3, hfr3⟩, trivial⟩ ?_
      intro ρ23 w23 hE hN hf hr
      obtain ⟨v6_3, h6⟩ : ∃ v, ρ23 6 = v := ⟨_, rfl⟩
      have hq6 : (fun u wz => Own w0.heap.size 31 2 Span.cells wz u l2 ∧ ∀ b, u.ownBlock = some b → (v6_.ownBlock = some b ∨ w21.heap.size ≤ b)) (ρ23 6) w23 := hf 4 rfl
      rw [h6] at hq6
      obtain ⟨hq6, hfr6⟩ := hq6
      obtain ⟨h32, h33, h34⟩ := k3 hr h32 h33 h34 rfl
      have Oo_O6 := O6
      have Hf32 : RepSl Span.R (gL [ownG v6_3]) w23 vh_ z2 := Hf32.mv hE (fun _ h => .inl (.inl h)) (fun b h => h.elim (fun h => (hfr6 _ h).elim (fun h => .inl (by have h := h; exact (.inl h))) (fun h => .inr h)) (fun h => h.elim))
      have hW := Ext.own hW hE (fun b hb => (Oo_O6.lt hb).1)
      have O6 := hq6
      exact ⟨l2, v6_3, h6, h32, h33, h34, Hf32, O6, hW, hF⟩
    rintro ρ17 w17 ⟨x4, v6_2, h6, h32, h33, h34, Hf32, O6, hW, hF⟩
    rw [spans_Make_j2] at hF
    refine WP.rb mixed [[], [0]] [[34], []] [(71, .int .i64 (i64 (x3 + 1))), (34, .int .i64 (i64 (x3 + 1)))] (by kernel_rfl) ⟨fun ρz wz hE hA ⟨e34, _⟩ _ => core_val rfl rfl (o_add (e34.trans h34) rfl rfl),
 mU rfl rfl rfl, trivial⟩ ?_
    intro ρ18 w18 hN hf hr
    have h34 := hv hf 1 rfl rfl
    obtain ⟨h6, h32, h33⟩ := k3 hr h6 h32 h33 rfl
    have Oo_O6 := O6
    have Hf32 := Hf32.exn hN
    have hW := hW.trans hN
    have O6 := Oo_O6.exn hN
    exact ⟨x4, i64 (x3 + 1), v6_2, h6, h32, h33, h34, Hf32, O6, hW, (by first | exact hF | (rw [hrec_2]; exact hF))⟩
  have hF := (if_neg (Bool.eq_false_iff.1 hb)).symm.trans hF
  refine WP.exit (thenQ_exit (thenQ_exit (blockQ_hit (WP.seq (WP.rb mixed [[], [0]] [[6], []] [(72, v6_), (2, v6_)] (by kernel_rfl) ⟨mE rfl rfl h6,
 aU rfl rfl rfl, trivial⟩ ?_)))))
  intro ρ24 w24 hN hf hr
  have h2 := hv hf 1 rfl rfl
  have Oo_O6 := O6
  have hW := hW.trans hN
  have O2 := Oo_O6.exn hN
  refine WP.ret ?_
  show retQ Try.prog 73 Try.f30 (fun v w1 => Own w0.heap.size 31 2 Span.cells w1 v r ∧ Ext noG w0 w1) .ret ρ24 w24
  obtain rfl := Option.some.inj hF
  exact res1 rfl (by decide) h2 ⟨O2, hW⟩
end Go.PL
