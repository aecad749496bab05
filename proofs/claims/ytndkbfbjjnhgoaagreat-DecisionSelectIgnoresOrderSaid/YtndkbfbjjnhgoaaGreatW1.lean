/- The translated code computes the Lean functions (printed by a program). -/
import Derived.Test.YtndkbfbjjnhgoaaGreatTy
set_option linter.unusedVariables false
set_option linter.unusedSimpArgs false
set_option maxRecDepth 10000
namespace Go.PL
open Go Go.Proofs

set_option maxHeartbeats 4000000 in
theorem pensionplain_Mod_ok {w0 : World} (n_ : Int) (m_ : Int) {r : Int} (hF : pensionplain_Mod n_ m_ = some r) :
    Calls Tryz.prog 15 #[.int .i64 n_, .int .i64 m_] w0 fun e w1 => e = .returned (.int .i64 r) ∧ Ext noG w0 w1 := by
  refine (Calls.start (P := Tryz.prog) (args := [.int .i64 n_, .int .i64 m_]) (R := fun v w1 => v = .int .i64 r ∧ Ext noG w0 w1) (n := 15) (w := w0) Tryz.func15 rfl rfl (Nat.le_of_ble_eq_true rfl) (fun ρ hargs => ?_)).mono (fun e w1 ⟨v, he, hv, hE⟩ => ⟨hv ▸ he, hE⟩)
  have h0 := hargs 0 _ rfl
  have h1 := hargs 1 _ rfl
  have hW := Ext.refl noG w0
  rw [pensionplain_Mod] at hF
  refine WP.seq (WP.rb mixed [[]] [[]] [(4, .int .i64 0)] (by kernel_rfl) ⟨aC rfl rfl (fun _ => rfl), trivial⟩ ?_)
  intro ρ1 w1 hN hf hr
  obtain ⟨h0, h1⟩ := k2 hr h0 h1 rfl
  have hW := hW.trans hN
  refine WP.seq ?_
  obtain ⟨q, hq, hF⟩ := obind hF
  refine WP.rb mixed [[], [], [0, 1], [2]] [[0], [1], [], []] [(6, .int .i64 n_), (7, .int .i64 m_), (8, .int .i64 q), (5, .int .i64 q)] (by kernel_rfl) ⟨mE rfl rfl h0,
 mE rfl rfl h1,
 fun ρz wz hE hA _ ⟨u0, u1, _⟩ => core_val rfl rfl (o_rem u0 u1 (remI_some hq).1 (remI_some hq).2),
 aU rfl rfl rfl, trivial⟩ ?_
  intro ρ2 w2 hN hf hr
  have h5 := hv hf 3 rfl rfl
  have h1 := (hr 1 rfl).trans h1
  have hW := hW.trans hN
  refine WP.seqJ (fun ρ w => ∃ r_ : Int, ρ 5 = .int .i64 r_ ∧ Ext noG w0 w ∧ pensionplain_Mod_j r_ = some r) ?_ ?_
  · refine WP.seq (WP.rb mixed [[], [0]] [[5], []] [(9, .int .i64 q), (10, .bool (decide (q < 0)))] (by kernel_rfl) ⟨mE rfl rfl h5,
 fun ρz wz hE hA _ ⟨u0, _⟩ => core_val rfl rfl (o_lss u0 rfl rfl), trivial⟩ ?_)
    intro ρ5 w5 hN hf hr
    have h10 := hv hf 1 rfl rfl
    obtain ⟨h1, h5⟩ := k2 hr h1 h5 rfl
    have hW := hW.trans hN
    refine WP.cond rfl h10 (fun hb => ?_) (fun hb => ?_)
    · have hF := (if_pos hb).symm.trans hF
      refine WP.rv mixed [[], [], [0, 1], [0, 2]] [[], [], [0, 1], [2]] [[5], [1], [], []] [(11, .int .i64 q), (12, .int .i64 m_), (13, .int .i64 (i64 (q + m_))), (5, .int .i64 (i64 (q + m_)))] (by kernel_rfl) ⟨mE rfl rfl h5,
 mE rfl rfl h1,
 fun ρz wz hE hA _ ⟨u0, u1, _⟩ => core_val rfl rfl (o_add u0 u1 rfl),
 aU rfl rfl rfl, trivial⟩ ?_
      intro ρ6 w6 hN hf hr
      have h5 := hv hf 3 rfl rfl
      have hW := hW.trans hN
      exact ⟨i64 (q + m_), h5, hW, hF⟩
    have hF := (if_neg (Bool.eq_false_iff.1 hb)).symm.trans hF
    refine WP.skip ?_
    exact ⟨q, h5, hW, hF⟩
  rintro ρ3 w3 ⟨r_, h5, hW, hF⟩
  rw [pensionplain_Mod_j] at hF
  refine WP.seq (WP.rb mixed [[], [0]] [[5], []] [(14, .int .i64 r_), (4, .int .i64 r_)] (by kernel_rfl) ⟨mE rfl rfl h5,
 aU rfl rfl rfl, trivial⟩ ?_)
  intro ρ4 w4 hN hf hr
  have h4 := hv hf 1 rfl rfl
  have hW := hW.trans hN
  refine WP.ret ?_
  show retQ Tryz.prog 15 Tryz.f15 (fun v w1 => v = .int .i64 r ∧ Ext noG w0 w1) .ret ρ4 w4
  obtain rfl := Option.some.inj hF
  exact res1 rfl (by decide) h4 ⟨rfl, hW⟩

set_option maxHeartbeats 4000000 in
theorem pensionhand_Claims_ok {w0 : World} (d_ : List pensionhand_Claim) {v_d_ : Value} (H_d_ : RepSl pensionhand_Claim.R noG w0 v_d_ d_) {r : (List Claim)} (hF : pensionhand_Claims d_ = some r) :
    Calls Tryz.prog 5 #[v_d_] w0 fun e w1 => ∃ v, e = .returned v ∧ Ext noG w0 w1 ∧ Own w0.heap.size 28 6 Claim.cells w1 v r := by
  refine (Calls.start (P := Tryz.prog) (args := [v_d_]) (R := fun v w1 => Own w0.heap.size 28 6 Claim.cells w1 v r ∧ Ext noG w0 w1) (n := 82) (w := w0) Tryz.func5 rfl rfl (Nat.le_of_ble_eq_true rfl) (fun ρ hargs => ?_)).mono (fun e w1 ⟨v, he, hv, hE⟩ => ⟨v, he, hE, hv⟩)
  have h0 := hargs 0 _ rfl
  have hW := Ext.refl noG w0
  obtain ⟨_, _, hs_H_d_, _, _⟩ := RepSl.shape H_d_
  have H_d_ := H_d_.start
  rw [pensionhand_Claims] at hF
  refine WP.seq (WP.rb mixed [[]] [[]] [(2, .slice none 0 0)] (by kernel_rfl) ⟨aC rfl rfl (fun _ => rfl), trivial⟩ ?_)
  intro ρ1 w1 hN hf hr
  have h0 := (hr 0 rfl).trans h0
  have H_d_ := H_d_.exn hN
  have hW := hW.trans hN
  refine WP.seq (WP.rb mixed [[]] [[]] [(3, .slice none 0 0)] (by kernel_rfl) ⟨aC rfl rfl (fun _ => rfl), trivial⟩ ?_)
  intro ρ2 w2 hN hf hr
  have h3 : ρ2 3 = .slice none 0 0 := hf 0 rfl
  have O3 : Own w0.heap.size 28 6 Claim.cells w2 (.slice none 0 0) [] := Own.nil _ _ _ _ _
  have h0 := (hr 0 rfl).trans h0
  have H_d_ := H_d_.exn hN
  have hW := hW.trans hN
  refine WP.seq (WP.seq (WP.rb mixed [[]] [[]] [(4, .int .i64 0)] (by kernel_rfl) ⟨aC rfl rfl (fun _ => rfl), trivial⟩ ?_))
  intro ρ3 w3 hN hf hr
  have h4 := hv hf 0 rfl rfl
  obtain ⟨h0, h3⟩ := k2 hr h0 h3 rfl
  have Oo_O3 := O3
  have H_d_ := H_d_.exn hN
  have hW := hW.trans hN
  have O3 := O3.exn hN
  refine WP.block (WP.loop (fun k_ ρ w => ∃ x : List Claim, ∃ x2 : Int, ∃ v3_ : Value, ρ 0 = v_d_ ∧ ρ 3 = v3_ ∧ ρ 4 = .int .i64 x2 ∧ RepSl pensionhand_Claim.R (gfr noG w0) w v_d_ d_ ∧ Own w0.heap.size 28 6 Claim.cells w v3_ x ∧ Ext noG w0 w ∧ loopC k_ (pensionhand_Claims_l d_) (x, x2) = some r) FU ⟨[], 0, .slice none 0 0, h0, h3, h4, H_d_, O3, hW, hF⟩ (fun _ _ h => by obtain ⟨_, _, _, _, _, _, _, _, _, h⟩ := h; cases h) ?_)
  rintro k_ ρ4 w4 ⟨x, x2, v3_, h0, h3, h4, H_d_, O3, hW, hF⟩
  have hF : pensionhand_Claims_l d_ (loopC k_ (pensionhand_Claims_l d_)) (x, x2) = some r := hF
  generalize hrec_ : loopC k_ (pensionhand_Claims_l d_) = rec_ at hF
  rw [pensionhand_Claims_l] at hF
  refine WP.seq (WP.seq (WP.rb mixed [[], [], [1], [0, 2], [3], [4], [4, 5], [4, 6]] [[4], [0], [], [], [], [4], [], []] [(6, .int .i64 x2), (7, v_d_), (8, .int .i64 (d_.length : Int)), (9, .bool (decide (x2 < (d_.length : Int)))), (10, .bool (decide (x2 < (d_.length : Int)))), (11, gv (decide (x2 < (d_.length : Int))) (.int .i64 x2)), (12, gv (decide (x2 < (d_.length : Int))) (.bool (decide (x2 < 6)))), (13, .bool (decide (x2 < (d_.length : Int)) && decide (x2 < 6)))] (by kernel_rfl) ⟨mE rfl rfl h4,
 mE rfl rfl h0,
 fun ρz wz hE hA _ ⟨u1, _⟩ => core_val rfl rfl (o_len (u1.trans hs_H_d_) len_22),
 fun ρz wz hE hA _ ⟨u0, u2, _⟩ => core_val rfl rfl (o_lss u0 u2 rfl),
 mU rfl rfl rfl,
 fun ρz wz hE hA ⟨e4, _⟩ ⟨u4, _⟩ => gIf rfl rfl (yT rfl u4) fun gc F hF => core_val rfl hF (o_move (e4.trans h4)),
 fun ρz wz hE hA _ ⟨u4, u5, _⟩ => gIf rfl rfl (yT rfl u4) fun gc F hF => core_val rfl hF (o_lss (gt gc u5) rfl rfl),
 fun ρz wz hE hA _ ⟨u4, u6, _⟩ => core_val rfl rfl (o_pick_and u4 u6 rfl), trivial⟩ ?_))
  intro ρ5 w5 hN hf hr
  have h13 := hv hf 7 rfl rfl
  obtain ⟨h0, h3, h4⟩ := k3 hr h0 h3 h4 rfl
  have Oo_O3 := O3
  have H_d_ := H_d_.exn hN
  have hW := hW.trans hN
  have O3 := O3.exn hN
  refine WP.cond rfl h13 (fun hb => ?_) (fun hb => ?_)
  · have hF := (if_pos hb).symm.trans hF
    refine WP.skip (WP.seq (WP.block (WP.seq ?_)))
    obtain ⟨y, hy, hF⟩ := obind hF
    obtain ⟨ay, cy, hvy, hiy, hAy⟩ := RepSl.getF H_d_ hy
    obtain ⟨z, hz, hF⟩ := obind hF
    obtain ⟨y2, hy2, hF⟩ := obind hF
    obtain ⟨ay2, cy2, hvy2, hiy2, hAy2⟩ := RepSl.getF H_d_ hy2
    obtain ⟨z2, hz2, hF⟩ := obind hF
    obtain ⟨y3, hy3, hF⟩ := obind hF
    obtain ⟨ay3, cy3, hvy3, hiy3, hAy3⟩ := RepSl.getF H_d_ hy3
    obtain ⟨z3, hz3, hF⟩ := obind hF
    obtain ⟨y4, hy4, hF⟩ := obind hF
    obtain ⟨ay4, cy4, hvy4, hiy4, hAy4⟩ := RepSl.getF H_d_ hy4
    obtain ⟨z4, hz4, hF⟩ := obind hF
    obtain ⟨y5, hy5, hF⟩ := obind hF
    obtain ⟨ay5, cy5, hvy5, hiy5, hAy5⟩ := RepSl.getF H_d_ hy5
    obtain ⟨z5, hz5, hF⟩ := obind hF
    refine WP.region mixed [[], [], [0, 1], [2], [3], [4], [], [], [6, 7], [8], [9], [10], [11], [], [], [13, 14], [15], [16], [17], [18], [], [], [20, 21], [22], [23], [24], [25], [], [], [27, 28], [29], [30], [31], [32], [5, 12, 19, 26, 33], [], [34, 35]] [[], [], [0, 1], [2], [3], [4], [], [], [6, 7], [8], [9], [10], [11], [], [], [13, 14], [15], [16], [17], [18], [], [], [20, 21], [22], [23], [24], [25], [], [], [27, 28], [29], [30], [31], [32], [5, 12, 19, 26, 33], [], [34, 35]] [[0], [4], [], [], [], [], [0], [4], [], [], [], [], [], [0], [4], [], [], [], [], [], [0], [4], [], [], [], [], [], [0], [4], [], [], [], [], [], [], [], []] [36] [(35, 36)] [val 16 (v_d_), val 17 (.int .i64 x2), val 18 (.pointer (some (ay.add (Int.toNat x2 * 6)))), val 19 (.pointer (some ((ay.add (Int.toNat x2 * 6)).add 0))), val 20 (.int .i64 y.Issuer), val 21 (.int .i64 z), val 22 (v_d_), val 23 (.int .i64 x2), val 24 (.pointer (some (ay2.add (Int.toNat x2 * 6)))), val 25 (.pointer (some ((ay2.add (Int.toNat x2 * 6)).add 1))), val 26 (.int .i64 y2.Number), val 27 (.int .i64 z2), val 28 (.int .i64 (i64 (1 + z2))), val 29 (v_d_), val 30 (.int .i64 x2), val 31 (.pointer (some (ay3.add (Int.toNat x2 * 6)))), val 32 (.pointer (some ((ay3.add (Int.toNat x2 * 6)).add 2))), val 33 (.int .i64 y3.Person), val 34 (.int .i64 z3), val 35 (.int .i64 (i64 (1 + z3))), val 36 (v_d_), val 37 (.int .i64 x2), val 38 (.pointer (some (ay4.add (Int.toNat x2 * 6)))), val 39 (.pointer (some ((ay4.add (Int.toNat x2 * 6)).add 3))), val 40 (.int .i64 y4.Benefit), val 41 (.int .i64 z4), val 42 (.int .i64 (i64 (1 + z4))), val 43 (v_d_), val 44 (.int .i64 x2), val 45 (.pointer (some (ay5.add (Int.toNat x2 * 6)))), val 46 (.pointer (some ((ay5.add (Int.toNat x2 * 6)).add 5))), val 47 (.int .i64 y5.Day), val 48 (.int .i64 z5), val 49 (.int .i64 (i64 (35150 + z5))), val 50 (Claim.val (⟨z, i64 (1 + z2), i64 (1 + z3), i64 (1 + z4), 0, i64 (35150 + z5)⟩ : Claim)), (5, fun u wz => ∃ b, u = .pointer (some ⟨b, 0, none⟩) ∧ w5.heap.size ≤ b ∧ Mb wz b 28 (Claim.cells (⟨0, 0, 0, 0, 0, 0⟩ : Claim))), (5, fun u wz => ∃ b, u = .pointer (some ⟨b, 0, none⟩) ∧ w5.heap.size ≤ b ∧ Mb wz b 28 (Claim.cells (⟨z, i64 (1 + z2), i64 (1 + z3), i64 (1 + z4), 0, i64 (35150 + z5)⟩ : Claim)))] (fun b => w5.heap.size ≤ b) (by kernel_rfl) ⟨sV, sV, sV, sV, sV, sV, sV, sV, sV, sV, sV, sV, sV, sV, sV, sV, sV, sV, sV, sV, sV, sV, sV, sV, sV, sV, sV, sV, sV, sV, sV, sV, sV, sV, sV, fun _ _ _ hE ⟨b, hb, hs, hM⟩ => ⟨b, hb, hs, hM.exn hE⟩, fun _ _ _ hE ⟨b, hb, hs, hM⟩ => ⟨b, hb, hs, hM.exn hE⟩, trivial⟩ ⟨mE rfl rfl h0,
 mE rfl rfl h4,
 fun ρz wz hE hA _ ⟨u0, u1, _⟩ => core_val rfl rfl (o_indexAddr (u0.trans hvy) u1 (ia_22 hiy)),
 fun ρz wz hE hA _ ⟨u2, _⟩ => core_val rfl rfl (o_fieldAddr u2 (fa_50_0 _ _)),
 fun ρz wz hE hA _ ⟨u3, _⟩ => core_val rfl rfl (o_load u3 (run_load1 (lr_3 _ _) (CA.sub ((hAy.exn hE.fresh).ca) 0 1))),
 fun ρz wz hE hA _ ⟨u4, _⟩ => core_call rfl (call_args2 u4 rfl) cf_15 (pensionplain_Mod_ok  _ _  hz),
 mE rfl rfl h0,
 mE rfl rfl h4,
 fun ρz wz hE hA _ ⟨u6, u7, _⟩ => core_val rfl rfl (o_indexAddr (u6.trans hvy2) u7 (ia_22 hiy2)),
 fun ρz wz hE hA _ ⟨u8, _⟩ => core_val rfl rfl (o_fieldAddr u8 (fa_50_1 _ _)),
 fun ρz wz hE hA _ ⟨u9, _⟩ => core_val rfl rfl (o_load u9 (run_load1 (lr_3 _ _) (CA.sub ((hAy2.exn hE.fresh).ca) 1 1))),
 fun ρz wz hE hA _ ⟨u10, _⟩ => core_call rfl (call_args2 u10 rfl) cf_15 (pensionplain_Mod_ok  _ _  hz2),
 fun ρz wz hE hA _ ⟨u11, _⟩ => core_val rfl rfl (o_add rfl u11 rfl),
 mE rfl rfl h0,
 mE rfl rfl h4,
 fun ρz wz hE hA _ ⟨u13, u14, _⟩ => core_val rfl rfl (o_indexAddr (u13.trans hvy3) u14 (ia_22 hiy3)),
 fun ρz wz hE hA _ ⟨u15, _⟩ => core_val rfl rfl (o_fieldAddr u15 (fa_50_2 _ _)),
 fun ρz wz hE hA _ ⟨u16, _⟩ => core_val rfl rfl (o_load u16 (run_load1 (lr_3 _ _) (CA.sub ((hAy3.exn hE.fresh).ca) 2 1))),
 fun ρz wz hE hA _ ⟨u17, _⟩ => core_call rfl (call_args2 u17 rfl) cf_15 (pensionplain_Mod_ok  _ _  hz3),
 fun ρz wz hE hA _ ⟨u18, _⟩ => core_val rfl rfl (o_add rfl u18 rfl),
 mE rfl rfl h0,
 mE rfl rfl h4,
 fun ρz wz hE hA _ ⟨u20, u21, _⟩ => core_val rfl rfl (o_indexAddr (u20.trans hvy4) u21 (ia_22 hiy4)),
 fun ρz wz hE hA _ ⟨u22, _⟩ => core_val rfl rfl (o_fieldAddr u22 (fa_50_3 _ _)),
 fun ρz wz hE hA _ ⟨u23, _⟩ => core_val rfl rfl (o_load u23 (run_load1 (lr_3 _ _) (CA.sub ((hAy4.exn hE.fresh).ca) 3 1))),
 fun ρz wz hE hA _ ⟨u24, _⟩ => core_call rfl (call_args2 u24 rfl) cf_15 (pensionplain_Mod_ok  _ _  hz4),
 fun ρz wz hE hA _ ⟨u25, _⟩ => core_val rfl rfl (o_add rfl u25 rfl),
 mE rfl rfl h0,
 mE rfl rfl h4,
 fun ρz wz hE hA _ ⟨u27, u28, _⟩ => core_val rfl rfl (o_indexAddr (u27.trans hvy5) u28 (ia_22 hiy5)),
 fun ρz wz hE hA _ ⟨u29, _⟩ => core_val rfl rfl (o_fieldAddr u29 (fa_50_5 _ _)),
 fun ρz wz hE hA _ ⟨u30, _⟩ => core_val rfl rfl (o_load u30 (run_load1 (lr_3 _ _) (CA.sub ((hAy5.exn hE.fresh).ca) 5 1))),
 fun ρz wz hE hA _ ⟨u31, _⟩ => core_call rfl (call_args2 u31 rfl) cf_15 (pensionplain_Mod_ok  _ _  hz5),
 fun ρz wz hE hA _ ⟨u32, _⟩ => core_val rfl rfl (o_add rfl u32 rfl),
 fun ρz wz hE hA _ ⟨u5, u12, u19, u26, u33, _⟩ => core_val rfl rfl (o_build (bpS u5 (bpS u12 (bpS u19 (bpS u26 (bpS u33 bp0))))) (bd_28_0_1_2_3_5 _ _ _ _ _ _)),
 fun ρz wz hE hA _ _ => core_new rfl rfl hE (o_alloc (al_28 _)),
 fun ρz wz hE hA _ ⟨u34, u35, _⟩ => core_storeNew rfl rfl rfl rfl u34 u35 (fun a w => st_28 _ a w) rfl (one_28 _), trivial⟩ ?_
    intro ρ6 w6 hE hN hf hr
    have hN := hE.fresh
    obtain ⟨b5_, h5, hge_b5_, Hb_b5_⟩ := hf 36 rfl
    obtain ⟨h0, h3, h4⟩ := k3 hr h0 h3 h4 rfl
    have Oo_O3 := O3
    have H_d_ := H_d_.exn hN
    have hnb_O3_b5_ : Value.ownBlock v3_ ≠ some b5_ := fun h => absurd (O3.lt h).2 (Nat.not_lt.2 hge_b5_)
    have hB_b5_ : w0.heap.size ≤ b5_ := Nat.le_trans hW.size hge_b5_
    have hW := hW.trans hN
    have O3 := O3.exn hN
    refine WP.seqJ (fun ρ w => ∃ v : Claim, ρ 0 = v_d_ ∧ ρ 3 = v3_ ∧ ρ 4 = .int .i64 x2 ∧ ρ 5 = .pointer (some ⟨b5_, 0, none⟩) ∧ Mb w b5_ 28 (Claim.cells v) ∧ RepSl pensionhand_Claim.R (gfr noG w0) w v_d_ d_ ∧ Own w0.heap.size 28 6 Claim.cells w v3_ x ∧ Value.ownBlock v3_ ≠ some b5_ ∧ Ext noG w0 w ∧ pensionhand_Claims_j x x2 rec_ v = some r) ?_ ?_
    · refine WP.seq (WP.rb mixed [[], [0], [1], [2], [3], [3, 4], [3, 5], [3, 6]] [[5], [], [], [], [5], [], [], []] [(51, .pointer (some ((⟨b5_, 0, none⟩ : Addr).add 3))), (52, .int .i64 (i64 (1 + z4))), (53, .bool (i64 (1 + z4) == 3)), (54, .bool (i64 (1 + z4) == 3)), (55, gv (!(i64 (1 + z4) == 3)) (.pointer (some ((⟨b5_, 0, none⟩ : Addr).add 3)))), (56, gv (!(i64 (1 + z4) == 3)) (.int .i64 (i64 (1 + z4)))), (57, gv (!(i64 (1 + z4) == 3)) (.bool (i64 (1 + z4) == 4))), (58, .bool ((i64 (1 + z4) == 3) || (i64 (1 + z4) == 4)))] (by kernel_rfl) ⟨fun ρz wz hE hA ⟨e5, _⟩ _ => core_val rfl rfl (o_fieldAddr (e5.trans h5) (fa_28_3 _ _)),
 fun ρz wz hE hA _ ⟨u0, _⟩ => core_val rfl rfl (o_load u0 (run_load1 (lr_3 _ _) (CA.sub ((Hb_b5_.exn (hA rfl)).ca) 3 1))),
 fun ρz wz hE hA _ ⟨u1, _⟩ => core_val rfl rfl (o_eql u1 rfl rfl),
 mU rfl rfl rfl,
 fun ρz wz hE hA ⟨e5, _⟩ ⟨u3, _⟩ => gIf rfl rfl (yF rfl u3) fun gc F hF => core_val rfl hF (o_fieldAddr (e5.trans h5) (fa_28_3 _ _)),
 fun ρz wz hE hA _ ⟨u3, u4, _⟩ => gIf rfl rfl (yF rfl u3) fun gc F hF => core_val rfl hF (o_load (gt gc u4) (run_load1 (lr_3 _ _) (CA.sub ((Hb_b5_.exn (hA rfl)).ca) 3 1))),
 fun ρz wz hE hA _ ⟨u3, u5, _⟩ => gIf rfl rfl (yF rfl u3) fun gc F hF => core_val rfl hF (o_eql (gt gc u5) rfl rfl),
 fun ρz wz hE hA _ ⟨u3, u6, _⟩ => core_val rfl rfl (o_pick_or u3 rfl u6), trivial⟩ ?_)
      intro ρ10 w10 hN hf hr
      have h58 := hv hf 7 rfl rfl
      obtain ⟨h0, h3, h4, h5⟩ := k4 hr h0 h3 h4 h5 rfl
      have Oo_O3 := O3
      have Hb_b5_n := Hb_b5_.exn hN
      have H_d_ := H_d_.exn hN
      have hW := hW.trans hN
      have O3 := O3.exn hN
      have Hb_b5_ := Hb_b5_n
      refine WP.cond rfl h58 (fun hb => ?_) (fun hb => ?_)
      · have hF := (if_pos hb).symm.trans hF
        refine WP.seq ?_
        obtain ⟨y6, hy6, hF⟩ := obind hF
        obtain ⟨ay6, cy6, hvy6, hiy6, hAy6⟩ := RepSl.getF H_d_ hy6
        obtain ⟨z6, hz6, hF⟩ := obind hF
        refine WP.region mixed [[], [], [0, 1], [2], [3], [4], [5], [], [4, 5, 6, 7]] [[], [], [0, 1], [2], [3], [4], [5], [], [6, 7]] [[0], [4], [], [], [], [], [], [5], []] [8] [] [val 59 (v_d_), val 60 (.int .i64 x2), val 61 (.pointer (some (ay6.add (Int.toNat x2 * 6)))), val 62 (.pointer (some ((ay6.add (Int.toNat x2 * 6)).add 4))), val 63 (.int .i64 y6.Ref), val 64 (.int .i64 z6), val 65 (.int .i64 (i64 (1 + z6))), val 66 (.pointer (some ((⟨b5_, 0, none⟩ : Addr).add 4))), (66, fun _ wz => Mb wz b5_ 28 (Claim.cells ({ (⟨z, i64 (1 + z2), i64 (1 + z3), i64 (1 + z4), 0, i64 (35150 + z5)⟩ : Claim) with Ref := i64 (1 + z6) } : Claim)))] (fun x => x = b5_) (by kernel_rfl) ⟨sV, sV, sV, sV, sV, sV, sV, sV, fun _ _ _ hE hM => hM.exn hE, trivial⟩ ⟨mE rfl rfl h0,
 mE rfl rfl h4,
 fun ρz wz hE hA _ ⟨u0, u1, _⟩ => core_val rfl rfl (o_indexAddr (u0.trans hvy6) u1 (ia_22 hiy6)),
 fun ρz wz hE hA _ ⟨u2, _⟩ => core_val rfl rfl (o_fieldAddr u2 (fa_50_4 _ _)),
 fun ρz wz hE hA _ ⟨u3, _⟩ => core_val rfl rfl (o_load u3 (run_load1 (lr_3 _ _) (CA.sub ((hAy6.exn (hA rfl)).ca) 4 1))),
 fun ρz wz hE hA _ ⟨u4, _⟩ => core_call rfl (call_args2 u4 rfl) cf_15 (pensionplain_Mod_ok  _ _  hz6),
 fun ρz wz hE hA _ ⟨u5, _⟩ => core_val rfl rfl (o_add rfl u5 rfl),
 fun ρz wz hE hA ⟨e5, _⟩ _ => core_val rfl rfl (o_fieldAddr (e5.trans h5) (fa_28_4 _ _)),
 fun ρz wz hE hA _ ⟨u6, u7, _⟩ => core_storePart (k := 4) (vs := [Value.int .i64 (i64 (1 + z6))]) (cs0 := (Claim.cells (⟨z, i64 (1 + z2), i64 (1 + z3), i64 (1 + z4), 0, i64 (35150 + z5)⟩ : Claim))) rfl rfl (fun _ h => h) u7 rfl u6 (Hb_b5_.exn (hA rfl)) (fun a w => st_3 _ a w) (Nat.le_of_ble_eq_true rfl) rfl (one_3 _), trivial⟩ ?_
        intro ρ11 w11 hE hN hf hr
        obtain ⟨h0, h3, h4, h5⟩ := k4 hr h0 h3 h4 h5 rfl
        have Oo_O3 := O3
        have Hb_b5_n := hf 8 rfl
        have H_d_ := H_d_.over hE (fun b hb => hb.symm ▸ hB_b5_)
        have hW := Ext.own hW hE (fun x h => h.symm ▸ hB_b5_)
        have O3 := O3.ext hE (fun b hb hg => hnb_O3_b5_ (hg ▸ hb))
        have Hb_b5_ := Hb_b5_n
        refine WP.seq (WP.rb mixed [[], [0], [], [2], [1, 3]] [[5], [], [5], [], []] [(67, .pointer (some ((⟨b5_, 0, none⟩ : Addr).add 4))), (68, .int .i64 (({ (⟨z, i64 (1 + z2), i64 (1 + z3), i64 (1 + z4), 0, i64 (35150 + z5)⟩ : Claim) with Ref := i64 (1 + z6) } : Claim).Ref)), (69, .pointer (some ((⟨b5_, 0, none⟩ : Addr).add 2))), (70, .int .i64 (({ (⟨z, i64 (1 + z2), i64 (1 + z3), i64 (1 + z4), 0, i64 (35150 + z5)⟩ : Claim) with Ref := i64 (1 + z6) } : Claim).Person)), (71, .bool (({ (⟨z, i64 (1 + z2), i64 (1 + z3), i64 (1 + z4), 0, i64 (35150 + z5)⟩ : Claim) with Ref := i64 (1 + z6) } : Claim).Ref == ({ (⟨z, i64 (1 + z2), i64 (1 + z3), i64 (1 + z4), 0, i64 (35150 + z5)⟩ : Claim) with Ref := i64 (1 + z6) } : Claim).Person))] (by kernel_rfl) ⟨fun ρz wz hE hA ⟨e5, _⟩ _ => core_val rfl rfl (o_fieldAddr (e5.trans h5) (fa_28_4 _ _)),
 fun ρz wz hE hA _ ⟨u0, _⟩ => core_val rfl rfl (o_load u0 (run_load1 (lr_3 _ _) (CA.sub ((Hb_b5_.exn (hA rfl)).ca) 4 1))),
 fun ρz wz hE hA ⟨e5, _⟩ _ => core_val rfl rfl (o_fieldAddr (e5.trans h5) (fa_28_2 _ _)),
 fun ρz wz hE hA _ ⟨u2, _⟩ => core_val rfl rfl (o_load u2 (run_load1 (lr_3 _ _) (CA.sub ((Hb_b5_.exn (hA rfl)).ca) 2 1))),
 fun ρz wz hE hA _ ⟨u1, u3, _⟩ => core_val rfl rfl (o_eql u1 u3 rfl), trivial⟩ ?_)
        intro ρ12 w12 hN hf hr
        have h71 := hv hf 4 rfl rfl
        obtain ⟨h0, h3, h4, h5⟩ := k4 hr h0 h3 h4 h5 rfl
        have Oo_O3 := O3
        have Hb_b5_n := Hb_b5_.exn hN
        have H_d_ := H_d_.exn hN
        have hW := hW.trans hN
        have O3 := O3.exn hN
        have Hb_b5_ := Hb_b5_n
        refine WP.cond rfl h71 (fun hb => ?_) (fun hb => ?_)
        · have hF := (if_pos hb).symm.trans hF
          obtain ⟨z7, hz7, hF⟩ := obind hF
          refine WP.region mixed [[], [0], [1], [2], [], [1, 2, 3, 4]] [[], [0], [1], [2], [], [3, 4]] [[5], [], [], [], [5], []] [5] [] [val 72 (.pointer (some ((⟨b5_, 0, none⟩ : Addr).add 2))), val 73 (.int .i64 (({ (⟨z, i64 (1 + z2), i64 (1 + z3), i64 (1 + z4), 0, i64 (35150 + z5)⟩ : Claim) with Ref := i64 (1 + z6) } : Claim).Person)), val 74 (.int .i64 z7), val 75 (.int .i64 (i64 (1 + z7))), val 76 (.pointer (some ((⟨b5_, 0, none⟩ : Addr).add 4))), (76, fun _ wz => Mb wz b5_ 28 (Claim.cells ({ ({ (⟨z, i64 (1 + z2), i64 (1 + z3), i64 (1 + z4), 0, i64 (35150 + z5)⟩ : Claim) with Ref := i64 (1 + z6) } : Claim) with Ref := i64 (1 + z7) } : Claim)))] (fun x => x = b5_) (by kernel_rfl) ⟨sV, sV, sV, sV, sV, fun _ _ _ hE hM => hM.exn hE, trivial⟩ ⟨fun ρz wz hE hA ⟨e5, _⟩ _ => core_val rfl rfl (o_fieldAddr (e5.trans h5) (fa_28_2 _ _)),
 fun ρz wz hE hA _ ⟨u0, _⟩ => core_val rfl rfl (o_load u0 (run_load1 (lr_3 _ _) (CA.sub ((Hb_b5_.exn (hA rfl)).ca) 2 1))),
 fun ρz wz hE hA _ ⟨u1, _⟩ => core_call rfl (call_args2 u1 rfl) cf_15 (pensionplain_Mod_ok  _ _  hz7),
 fun ρz wz hE hA _ ⟨u2, _⟩ => core_val rfl rfl (o_add rfl u2 rfl),
 fun ρz wz hE hA ⟨e5, _⟩ _ => core_val rfl rfl (o_fieldAddr (e5.trans h5) (fa_28_4 _ _)),
 fun ρz wz hE hA _ ⟨u3, u4, _⟩ => core_storePart (k := 4) (vs := [Value.int .i64 (i64 (1 + z7))]) (cs0 := (Claim.cells ({ (⟨z, i64 (1 + z2), i64 (1 + z3), i64 (1 + z4), 0, i64 (35150 + z5)⟩ : Claim) with Ref := i64 (1 + z6) } : Claim))) rfl rfl (fun _ h => h) u4 rfl u3 (Hb_b5_.exn (hA rfl)) (fun a w => st_3 _ a w) (Nat.le_of_ble_eq_true rfl) rfl (one_3 _), trivial⟩ ?_
          intro ρ13 w13 hE hN hf hr
          obtain ⟨h0, h3, h4, h5⟩ := k4 hr h0 h3 h4 h5 rfl
          have Oo_O3 := O3
          have Hb_b5_n := hf 5 rfl
          have H_d_ := H_d_.over hE (fun b hb => hb.symm ▸ hB_b5_)
          have hW := Ext.own hW hE (fun x h => h.symm ▸ hB_b5_)
          have O3 := O3.ext hE (fun b hb hg => hnb_O3_b5_ (hg ▸ hb))
          have Hb_b5_ := Hb_b5_n
          exact ⟨({ ({ (⟨z, i64 (1 + z2), i64 (1 + z3), i64 (1 + z4), 0, i64 (35150 + z5)⟩ : Claim) with Ref := i64 (1 + z6) } : Claim) with Ref := i64 (1 + z7) } : Claim), h0, h3, h4, h5, Hb_b5_, H_d_, O3, hnb_O3_b5_, hW, hF⟩
        have hF := (if_neg (Bool.eq_false_iff.1 hb)).symm.trans hF
        refine WP.skip ?_
        exact ⟨({ (⟨z, i64 (1 + z2), i64 (1 + z3), i64 (1 + z4), 0, i64 (35150 + z5)⟩ : Claim) with Ref := i64 (1 + z6) } : Claim), h0, h3, h4, h5, Hb_b5_, H_d_, O3, hnb_O3_b5_, hW, hF⟩
      have hF := (if_neg (Bool.eq_false_iff.1 hb)).symm.trans hF
      refine WP.skip ?_
      exact ⟨(⟨z, i64 (1 + z2), i64 (1 + z3), i64 (1 + z4), 0, i64 (35150 + z5)⟩ : Claim), h0, h3, h4, h5, Hb_b5_, H_d_, O3, hnb_O3_b5_, hW, hF⟩
    rintro ρ7 w7 ⟨v, h0, h3, h4, h5, Hb_b5_, H_d_, O3, hnb_O3_b5_, hW, hF⟩
    rw [pensionhand_Claims_j] at hF
    obtain ⟨l, hl, hF⟩ := obind hF
    refine WP.region mixed [[], [], [1], [0, 1, 2], [0, 3]] [[], [], [1], [0, 2], [3]] [[3], [5], [], [], []] [3] [] [val 77 (v3_), val 78 (Claim.val v), (79, fun u wz => ∃ b, u = .slice (some ⟨b, 0, none⟩) 1 1 ∧ w7.heap.size ≤ b ∧ Mb wz b 28 (([v]).flatMap Claim.cells)), (80, fun u wz => Own w0.heap.size 28 6 Claim.cells wz u l ∧ ∀ b, u.ownBlock = some b → (v3_.ownBlock = some b ∨ w7.heap.size ≤ b)), (3, fun u wz => Own w0.heap.size 28 6 Claim.cells wz u l ∧ ∀ b, u.ownBlock = some b → (v3_.ownBlock = some b ∨ w7.heap.size ≤ b))] (fun b => Value.ownBlock v3_ = some b) (by kernel_rfl) ⟨sV, sV, fun _ _ _ hE ⟨b, hz, hs, hM⟩ => ⟨b, hz, hs, hM.ext hE (fun hg => absurd (O3.lt hg).2 (Nat.not_lt.2 hs))⟩, fun _ _ _ hE ⟨hO, hf⟩ => ⟨hO.exn hE, hf⟩, fun _ _ _ hE ⟨hO, hf⟩ => ⟨hO.exn hE, hf⟩, trivial⟩ ⟨mE rfl rfl h3,
 fun ρz wz hE hA ⟨e5, _⟩ _ => core_val rfl rfl (o_load (e5.trans h5) (run_loadN (cs := (Claim.cells v)) (lr_28 _ _) rfl ((Hb_b5_.exn (hA rfl)).ca))),
 fun ρz wz hE hA _ ⟨u1, _⟩ => core_slice rfl rfl hE (o_buildSlice (build_parts1 u1) (bs_23_1 _ _)),
 fun ρz wz hE hA _ ⟨u0, ⟨bz2, hz2, hge2, hM2⟩, _⟩ => core_append (n := 6) (cells := Claim.cells) (B := w0.heap.size) (w0 := w7) rfl rfl (fun b hb => hb) u0 hz2 (fun _ => rfl) one_28 si_23 se_28 (by decide) (by decide) (O3.exn (hA rfl)) ⟨_, (Mb.rep (n := 6) (cells := Claim.cells) (hn := fun _ => rfl) (G := noG) hM2 rfl (Nat.le_of_ble_eq_true rfl) (fun h => h))⟩ hl (Nat.le_trans hW.size hE.size) hE.size (fun v1 w1 h1 h2 => ⟨h1, h2⟩),
 fun ρz wz hE hA _ ⟨⟨hO3, hfr3⟩, _⟩ => core_copy rfl rfl (o_assign rfl) ⟨hO3, hfr3⟩, trivial⟩ ?_
    intro ρ8 w8 hE hN hf hr
    obtain ⟨v3_2, h3⟩ : ∃ v, ρ8 3 = v := ⟨_, rfl⟩
    have hq3 : (fun u wz => Own w0.heap.size 28 6 Claim.cells wz u l ∧ ∀ b, u.ownBlock = some b → (v3_.ownBlock = some b ∨ w7.heap.size ≤ b)) (ρ8 3) w8 := hf 4 rfl
    rw [h3] at hq3
    obtain ⟨hq3, hfr3⟩ := hq3
    obtain ⟨h0, h4⟩ := k2 hr h0 h4 rfl
    have Oo_O3 := O3
    have H_d_ := H_d_.over hE (fun b hb => (O3.lt hb).1)
    have hW := Ext.own hW hE (fun b hb => (O3.lt hb).1)
    have O3 := hq3
    refine WP.rv mixed [[], [0], [0, 1]] [[], [0], [1]] [[4], [], []] [(14, .int .i64 x2), (15, .int .i64 (i64 (x2 + 1))), (4, .int .i64 (i64 (x2 + 1)))] (by kernel_rfl) ⟨mE rfl rfl h4,
 fun ρz wz hE hA _ ⟨u0, _⟩ => core_val rfl rfl (o_add u0 rfl rfl),
 aU rfl rfl rfl, trivial⟩ ?_
    intro ρ9 w9 hN hf hr
    have h4 := hv hf 2 rfl rfl
    obtain ⟨h0, h3⟩ := k2 hr h0 h3 rfl
    have Oo_O3 := O3
    have H_d_ := H_d_.exn hN
    have hW := hW.trans hN
    have O3 := O3.exn hN
    exact ⟨l, i64 (x2 + 1), v3_2, h0, h3, h4, H_d_, O3, hW, (by first | exact hF | (rw [hrec_]; exact hF))⟩
  have hF := (if_neg (Bool.eq_false_iff.1 hb)).symm.trans hF
  refine WP.exit (thenQ_exit (thenQ_exit (blockQ_hit (WP.seq (WP.rb mixed [[], [0]] [[3], []] [(81, v3_), (2, v3_)] (by kernel_rfl) ⟨mE rfl rfl h3,
 aU rfl rfl rfl, trivial⟩ ?_)))))
  intro ρ14 w14 hN hf hr
  have h2 := hv hf 1 rfl rfl
  have Oo_O3 := O3
  have hW := hW.trans hN
  have O2 := Oo_O3.exn hN
  refine WP.ret ?_
  show retQ Tryz.prog 82 Tryz.f5 (fun v w1 => Own w0.heap.size 28 6 Claim.cells w1 v r ∧ Ext noG w0 w1) .ret ρ14 w14
  obtain rfl := Option.some.inj hF
  exact res1 rfl (by decide) h2 ⟨O2, hW⟩

set_option maxHeartbeats 4000000 in
theorem pensionhand_All_ok {w0 : World} (month_ : Int) {r : (List Claim)} (hF : pensionhand_All month_ = some r) :
    Calls Tryz.prog 6 #[.int .i64 month_] w0 fun e w1 => ∃ v, e = .returned v ∧ Ext noG w0 w1 ∧ Own w0.heap.size 28 6 Claim.cells w1 v r := by
  refine (Calls.start (P := Tryz.prog) (args := [.int .i64 month_]) (R := fun v w1 => Own w0.heap.size 28 6 Claim.cells w1 v r ∧ Ext noG w0 w1) (n := 20) (w := w0) Tryz.func6 rfl rfl (Nat.le_of_ble_eq_true rfl) (fun ρ hargs => ?_)).mono (fun e w1 ⟨v, he, hv, hE⟩ => ⟨v, he, hE, hv⟩)
  have h0 := hargs 0 _ rfl
  have hW := Ext.refl noG w0
  rw [pensionhand_All] at hF
  refine WP.seq (WP.rb mixed [[]] [[]] [(2, .slice none 0 0)] (by kernel_rfl) ⟨aC rfl rfl (fun _ => rfl), trivial⟩ ?_)
  intro ρ1 w1 hN hf hr
  have h0 := (hr 0 rfl).trans h0
  have hW := hW.trans hN
  refine WP.seq ?_
  obtain ⟨z, hz, hF⟩ := obind hF
  refine WP.rb mixed [[], [0], [1], [2]] [[0], [], [], []] [(4, .int .i64 month_), (5, .int .i64 z), (6, .int .i64 (i64 (35150 + z))), (3, .int .i64 (i64 (35150 + z)))] (by kernel_rfl) ⟨mE rfl rfl h0,
 fun ρz wz hE hA _ ⟨u0, _⟩ => core_call rfl (call_args2 u0 rfl) cf_15 (pensionplain_Mod_ok  _ _  hz),
 fun ρz wz hE hA _ ⟨u1, _⟩ => core_val rfl rfl (o_add rfl u1 rfl),
 aU rfl rfl rfl, trivial⟩ ?_
  intro ρ2 w2 hN hf hr
  have h3 := hv hf 3 rfl rfl
  have hW := hW.trans hN
  refine WP.seq (WP.rg mixed [[], [0], [], [2], [], [4], [], [6], [], [8], [], [10], [1, 3, 5, 7, 9, 11], [12]] [[], [0], [], [2], [], [4], [], [6], [], [8], [], [10], [1, 3, 5, 7, 9, 11], [12]] [[3], [], [3], [], [3], [], [3], [], [3], [], [3], [], [], []] [val 7 (.int .i64 (i64 (35150 + z))), val 8 (Claim.val (⟨0, 801, 1, 1, 0, i64 (35150 + z)⟩ : Claim)), val 9 (.int .i64 (i64 (35150 + z))), val 10 (Claim.val (⟨0, 802, 1, 2, 0, i64 (35150 + z)⟩ : Claim)), val 11 (.int .i64 (i64 (35150 + z))), val 12 (Claim.val (⟨1, 803, 1, 3, 2, i64 (35150 + z)⟩ : Claim)), val 13 (.int .i64 (i64 (35150 + z))), val 14 (Claim.val (⟨1, 804, 1, 4, 3, i64 (35150 + z)⟩ : Claim)), val 15 (.int .i64 (i64 (35150 + z))), val 16 (Claim.val (⟨2, 805, 1, 5, 0, i64 (35150 + z)⟩ : Claim)), val 17 (.int .i64 (i64 (35150 + z))), val 18 (Claim.val (⟨2, 806, 3, 3, 2, i64 (35150 + z)⟩ : Claim)), (19, fun u wz => ∃ b, u = .slice (some ⟨b, 0, none⟩) 6 6 ∧ w2.heap.size ≤ b ∧ Mb wz b 28 (([(⟨0, 801, 1, 1, 0, i64 (35150 + z)⟩ : Claim), (⟨0, 802, 1, 2, 0, i64 (35150 + z)⟩ : Claim), (⟨1, 803, 1, 3, 2, i64 (35150 + z)⟩ : Claim), (⟨1, 804, 1, 4, 3, i64 (35150 + z)⟩ : Claim), (⟨2, 805, 1, 5, 0, i64 (35150 + z)⟩ : Claim), (⟨2, 806, 3, 3, 2, i64 (35150 + z)⟩ : Claim)]).flatMap Claim.cells)), (2, fun u wz => ∃ b, u = .slice (some ⟨b, 0, none⟩) 6 6 ∧ w2.heap.size ≤ b ∧ Mb wz b 28 (([(⟨0, 801, 1, 1, 0, i64 (35150 + z)⟩ : Claim), (⟨0, 802, 1, 2, 0, i64 (35150 + z)⟩ : Claim), (⟨1, 803, 1, 3, 2, i64 (35150 + z)⟩ : Claim), (⟨1, 804, 1, 4, 3, i64 (35150 + z)⟩ : Claim), (⟨2, 805, 1, 5, 0, i64 (35150 + z)⟩ : Claim), (⟨2, 806, 3, 3, 2, i64 (35150 + z)⟩ : Claim)]).flatMap Claim.cells))] (by kernel_rfl) ⟨sV, sV, sV, sV, sV, sV, sV, sV, sV, sV, sV, sV, fun _ _ _ hE ⟨b, hz, hs, hM⟩ => ⟨b, hz, hs, hM.exn hE⟩, fun _ _ _ hE ⟨b, hz, hs, hM⟩ => ⟨b, hz, hs, hM.exn hE⟩, trivial⟩ ⟨mE rfl rfl h3,
 fun ρz wz hE hA _ ⟨u0, _⟩ => core_val rfl rfl (o_build (bpS rfl (bpS rfl (bpS rfl (bpS rfl (bpS u0 bp0))))) (bd_28_0_1_2_3_5 _ _ _ _ _ _)),
 mE rfl rfl h3,
 fun ρz wz hE hA _ ⟨u2, _⟩ => core_val rfl rfl (o_build (bpS rfl (bpS rfl (bpS rfl (bpS rfl (bpS u2 bp0))))) (bd_28_0_1_2_3_5 _ _ _ _ _ _)),
 mE rfl rfl h3,
 fun ρz wz hE hA _ ⟨u4, _⟩ => core_val rfl rfl (o_build (bpS rfl (bpS rfl (bpS rfl (bpS rfl (bpS rfl (bpS u4 bp0)))))) (bd_28_0_1_2_3_4_5 _ _ _ _ _ _ _)),
 mE rfl rfl h3,
 fun ρz wz hE hA _ ⟨u6, _⟩ => core_val rfl rfl (o_build (bpS rfl (bpS rfl (bpS rfl (bpS rfl (bpS rfl (bpS u6 bp0)))))) (bd_28_0_1_2_3_4_5 _ _ _ _ _ _ _)),
 mE rfl rfl h3,
 fun ρz wz hE hA _ ⟨u8, _⟩ => core_val rfl rfl (o_build (bpS rfl (bpS rfl (bpS rfl (bpS rfl (bpS u8 bp0))))) (bd_28_0_1_2_3_5 _ _ _ _ _ _)),
 mE rfl rfl h3,
 fun ρz wz hE hA _ ⟨u10, _⟩ => core_val rfl rfl (o_build (bpS rfl (bpS rfl (bpS rfl (bpS rfl (bpS rfl (bpS u10 bp0)))))) (bd_28_0_1_2_3_4_5 _ _ _ _ _ _ _)),
 fun ρz wz hE hA _ ⟨u1, u3, u5, u7, u9, u11, _⟩ => core_slice rfl rfl hE (o_buildSlice ((bpS u1 (bpS u3 (bpS u5 (bpS u7 (bpS u9 (bpS u11 bp0))))))) (bs_23_6 _ _ _ _ _ _ _)),
 fun ρz wz hE hA _ ⟨⟨bz12, hz12, hge12, hM12⟩, _⟩ => core_copy rfl rfl (o_assign rfl) ⟨bz12, hz12, hge12, hM12⟩, trivial⟩ ?_)
  intro ρ3 w3 hN hf hr
  obtain ⟨bn2, h2, hgn2, hMn2⟩ : ∃ b, ρ3 2 = .slice (some ⟨b, 0, none⟩) 6 6 ∧ w2.heap.size ≤ b ∧ Mb w3 b 28 (([(⟨0, 801, 1, 1, 0, i64 (35150 + z)⟩ : Claim), (⟨0, 802, 1, 2, 0, i64 (35150 + z)⟩ : Claim), (⟨1, 803, 1, 3, 2, i64 (35150 + z)⟩ : Claim), (⟨1, 804, 1, 4, 3, i64 (35150 + z)⟩ : Claim), (⟨2, 805, 1, 5, 0, i64 (35150 + z)⟩ : Claim), (⟨2, 806, 3, 3, 2, i64 (35150 + z)⟩ : Claim)]).flatMap Claim.cells) := hf 13 rfl
  obtain ⟨v2_, hv2⟩ : ∃ v : Value, v = .slice (some ⟨bn2, 0, none⟩) 6 6 := ⟨_, rfl⟩
  rw [← hv2] at h2
  have hq2 : Own w0.heap.size 28 6 Claim.cells w3 v2_ [(⟨0, 801, 1, 1, 0, i64 (35150 + z)⟩ : Claim), (⟨0, 802, 1, 2, 0, i64 (35150 + z)⟩ : Claim), (⟨1, 803, 1, 3, 2, i64 (35150 + z)⟩ : Claim), (⟨1, 804, 1, 4, 3, i64 (35150 + z)⟩ : Claim), (⟨2, 805, 1, 5, 0, i64 (35150 + z)⟩ : Claim), (⟨2, 806, 3, 3, 2, i64 (35150 + z)⟩ : Claim)] := hv2 ▸ hMn2.own (Nat.le_trans hW.size hgn2) rfl (Nat.le_of_ble_eq_true rfl) (fun _ => rfl)
  have hfr2 : ∀ b, v2_.ownBlock = some b → w2.heap.size ≤ b := fun b hb => by rw [hv2] at hb; simp only [Value.ownBlock, Option.some.injEq] at hb; omega
  have hW := hW.trans hN
  have O2 := hq2
  refine WP.ret ?_
  show retQ Tryz.prog 20 Tryz.f6 (fun v w1 => Own w0.heap.size 28 6 Claim.cells w1 v r ∧ Ext noG w0 w1) .ret ρ3 w3
  obtain rfl := Option.some.inj hF
  exact res1 rfl (by decide) h2 ⟨O2, hW⟩

set_option maxHeartbeats 4000000 in
theorem pensionref1_ValidDay_ok {w0 : World} (day_ : Int) {r : Bool} (hF : pensionref1_ValidDay day_ = some r) :
    Calls Tryz.prog 74 #[.int .i64 day_] w0 fun e w1 => e = .returned (.bool r) ∧ Ext noG w0 w1 := by
  refine (Calls.start (P := Tryz.prog) (args := [.int .i64 day_]) (R := fun v w1 => v = .bool r ∧ Ext noG w0 w1) (n := 9) (w := w0) Tryz.func74 rfl rfl (Nat.le_of_ble_eq_true rfl) (fun ρ hargs => ?_)).mono (fun e w1 ⟨v, he, hv, hE⟩ => ⟨hv ▸ he, hE⟩)
  have h0 := hargs 0 _ rfl
  have hW := Ext.refl noG w0
  rw [pensionref1_ValidDay] at hF
  refine WP.seq (WP.rb mixed [[]] [[]] [(2, .bool false)] (by kernel_rfl) ⟨aC rfl rfl (fun _ => rfl), trivial⟩ ?_)
  intro ρ1 w1 hN hf hr
  have h0 := (hr 0 rfl).trans h0
  have hW := hW.trans hN
  refine WP.seq (WP.rb mixed [[], [0], [1], [2], [2, 3], [2, 4], [5]] [[0], [], [], [0], [], [], []] [(3, .int .i64 day_), (4, .bool (decide (0 ≤ day_))), (5, .bool (decide (0 ≤ day_))), (6, gv (decide (0 ≤ day_)) (.int .i64 day_)), (7, gv (decide (0 ≤ day_)) (.bool (decide (day_ ≤ 73048)))), (8, .bool (decide (0 ≤ day_) && decide (day_ ≤ 73048))), (2, .bool (decide (0 ≤ day_) && decide (day_ ≤ 73048)))] (by kernel_rfl) ⟨mE rfl rfl h0,
 fun ρz wz hE hA _ ⟨u0, _⟩ => core_val rfl rfl (o_geq u0 rfl rfl),
 mU rfl rfl rfl,
 fun ρz wz hE hA ⟨e0, _⟩ ⟨u2, _⟩ => gIf rfl rfl (yT rfl u2) fun gc F hF => core_val rfl hF (o_move (e0.trans h0)),
 fun ρz wz hE hA _ ⟨u2, u3, _⟩ => gIf rfl rfl (yT rfl u2) fun gc F hF => core_val rfl hF (o_leq (gt gc u3) rfl rfl),
 fun ρz wz hE hA _ ⟨u2, u4, _⟩ => core_val rfl rfl (o_pick_and u2 u4 rfl),
 aU rfl rfl rfl, trivial⟩ ?_)
  intro ρ2 w2 hN hf hr
  have h2 := hv hf 6 rfl rfl
  have hW := hW.trans hN
  refine WP.ret ?_
  show retQ Tryz.prog 9 Tryz.f74 (fun v w1 => v = .bool r ∧ Ext noG w0 w1) .ret ρ2 w2
  obtain rfl := Option.some.inj hF
  exact res1 rfl (by decide) h2 ⟨rfl, hW⟩

set_option maxHeartbeats 4000000 in
theorem pensionref1_leap_ok {w0 : World} (year_ : Int) {r : Bool} (hF : pensionref1_leap year_ = some r) :
    Calls Tryz.prog 162 #[.int .i64 year_] w0 fun e w1 => e = .returned (.bool r) ∧ Ext noG w0 w1 := by
  refine (Calls.start (P := Tryz.prog) (args := [.int .i64 year_]) (R := fun v w1 => v = .bool r ∧ Ext noG w0 w1) (n := 16) (w := w0) Tryz.func162 rfl rfl (Nat.le_of_ble_eq_true rfl) (fun ρ hargs => ?_)).mono (fun e w1 ⟨v, he, hv, hE⟩ => ⟨hv ▸ he, hE⟩)
  have h0 := hargs 0 _ rfl
  have hW := Ext.refl noG w0
  rw [pensionref1_leap] at hF
  refine WP.seq (WP.rb mixed [[]] [[]] [(2, .bool false)] (by kernel_rfl) ⟨aC rfl rfl (fun _ => rfl), trivial⟩ ?_)
  intro ρ1 w1 hN hf hr
  have h0 := (hr 0 rfl).trans h0
  have hW := hW.trans hN
  refine WP.seq (WP.rb mixed [[], [0], [1], [2], [3], [3, 4], [3, 5], [3, 6], [7], [7, 8], [7, 9], [3, 7, 10], [3, 11], [12]] [[0], [], [], [], [0], [], [], [], [0], [], [], [], [], []] [(3, .int .i64 year_), (4, .int .i64 (Int.tmod year_ 4)), (5, .bool (Int.tmod year_ 4 == 0)), (6, .bool (Int.tmod year_ 4 == 0)), (7, gv ((Int.tmod year_ 4 == 0)) (.int .i64 year_)), (8, gv ((Int.tmod year_ 4 == 0)) (.int .i64 (Int.tmod year_ 100))), (9, gv ((Int.tmod year_ 4 == 0)) (.bool (Int.tmod year_ 100 != 0))), (10, gv ((Int.tmod year_ 4 == 0)) (.bool (Int.tmod year_ 100 != 0))), (11, gv ((Int.tmod year_ 4 == 0) && !(Int.tmod year_ 100 != 0)) (.int .i64 year_)), (12, gv ((Int.tmod year_ 4 == 0) && !(Int.tmod year_ 100 != 0)) (.int .i64 (Int.tmod year_ 400))), (13, gv ((Int.tmod year_ 4 == 0) && !(Int.tmod year_ 100 != 0)) (.bool (Int.tmod year_ 400 == 0))), (14, gv ((Int.tmod year_ 4 == 0)) (.bool ((Int.tmod year_ 100 != 0) || (Int.tmod year_ 400 == 0)))), (15, .bool ((Int.tmod year_ 4 == 0) && ((Int.tmod year_ 100 != 0) || (Int.tmod year_ 400 == 0)))), (2, .bool ((Int.tmod year_ 4 == 0) && ((Int.tmod year_ 100 != 0) || (Int.tmod year_ 400 == 0))))] (by kernel_rfl) ⟨mE rfl rfl h0,
 fun ρz wz hE hA _ ⟨u0, _⟩ => core_val rfl rfl (o_rem u0 rfl (by decide) rfl),
 fun ρz wz hE hA _ ⟨u1, _⟩ => core_val rfl rfl (o_eql u1 rfl rfl),
 mU rfl rfl rfl,
 fun ρz wz hE hA ⟨e0, _⟩ ⟨u3, _⟩ => gIf rfl rfl (yT rfl u3) fun gc F hF => core_val rfl hF (o_move (e0.trans h0)),
 fun ρz wz hE hA _ ⟨u3, u4, _⟩ => gIf rfl rfl (yT rfl u3) fun gc F hF => core_val rfl hF (o_rem (gt gc u4) rfl (by decide) rfl),
 fun ρz wz hE hA _ ⟨u3, u5, _⟩ => gIf rfl rfl (yT rfl u3) fun gc F hF => core_val rfl hF (o_neq (gt gc u5) rfl rfl),
 fun ρz wz hE hA _ ⟨u3, u6, _⟩ => gIf rfl rfl (yT rfl u3) fun gc F hF => core_val rfl hF (o_move (gt gc u6)),
 fun ρz wz hE hA ⟨e0, _⟩ ⟨u7, _⟩ => gIf rfl rfl (yFG rfl u7) fun gc F hF => core_val rfl hF (o_move (e0.trans h0)),
 fun ρz wz hE hA _ ⟨u7, u8, _⟩ => gIf rfl rfl (yFG rfl u7) fun gc F hF => core_val rfl hF (o_rem (gt gc u8) rfl (by decide) rfl),
 fun ρz wz hE hA _ ⟨u7, u9, _⟩ => gIf rfl rfl (yFG rfl u7) fun gc F hF => core_val rfl hF (o_eql (gt gc u9) rfl rfl),
 fun ρz wz hE hA _ ⟨u3, u7, u10, _⟩ => gIf rfl rfl (yT rfl u3) fun gc F hF => core_val rfl hF (o_pick_or (gt gc u7) rfl (gr gc u10)),
 fun ρz wz hE hA _ ⟨u3, u11, _⟩ => core_val rfl rfl (o_pick_and u3 u11 rfl),
 aU rfl rfl rfl, trivial⟩ ?_)
  intro ρ2 w2 hN hf hr
  have h2 := hv hf 13 rfl rfl
  have hW := hW.trans hN
  refine WP.ret ?_
  show retQ Tryz.prog 16 Tryz.f162 (fun v w1 => v = .bool r ∧ Ext noG w0 w1) .ret ρ2 w2
  obtain rfl := Option.some.inj hF
  exact res1 rfl (by decide) h2 ⟨rfl, hW⟩

set_option maxHeartbeats 4000000 in
theorem pensionref1_length_ok {w0 : World} (year_ : Int) (month_ : Int) {r : Int} (hF : pensionref1_length year_ month_ = some r) :
    Calls Tryz.prog 118 #[.int .i64 year_, .int .i64 month_] w0 fun e w1 => e = .returned (.int .i64 r) ∧ Ext noG w0 w1 := by
  refine (Calls.start (P := Tryz.prog) (args := [.int .i64 year_, .int .i64 month_]) (R := fun v w1 => v = .int .i64 r ∧ Ext noG w0 w1) (n := 15) (w := w0) Tryz.func118 rfl rfl (Nat.le_of_ble_eq_true rfl) (fun ρ hargs => ?_)).mono (fun e w1 ⟨v, he, hv, hE⟩ => ⟨hv ▸ he, hE⟩)
  have h0 := hargs 0 _ rfl
  have h1 := hargs 1 _ rfl
  have hW := Ext.refl noG w0
  rw [pensionref1_length] at hF
  refine WP.seq (WP.rb mixed [[]] [[]] [(4, .int .i64 0)] (by kernel_rfl) ⟨aC rfl rfl (fun _ => rfl), trivial⟩ ?_)
  intro ρ1 w1 hN hf hr
  obtain ⟨h0, h1⟩ := k2 hr h0 h1 rfl
  have hW := hW.trans hN
  refine WP.seq (WP.seq (WP.rb mixed [[]] [[1]] [(5, .int .i64 month_)] (by kernel_rfl) ⟨mE rfl rfl h1, trivial⟩ ?_))
  intro ρ2 w2 hN hf hr
  have h5 := hv hf 0 rfl rfl
  have h0 := (hr 0 rfl).trans h0
  have hW := hW.trans hN
  refine WP.block (WP.seq (WP.rb mixed [[], [0]] [[5], []] [(7, .bool (month_ == 2)), (6, .bool (month_ == 2))] (by kernel_rfl) ⟨fun ρz wz hE hA ⟨e5, _⟩ _ => core_val rfl rfl (o_eql (e5.trans h5) rfl rfl),
 aU rfl rfl rfl, trivial⟩ ?_))
  intro ρ3 w3 hN hf hr
  have h6 := hv hf 1 rfl rfl
  obtain ⟨h0, h5⟩ := k2 hr h0 h5 rfl
  have hW := hW.trans hN
  refine WP.cond rfl h6 (fun hb => ?_) (fun hb => ?_)
  · have hF := (if_pos hb).symm.trans hF
    refine WP.seq (WP.seq ?_)
    obtain ⟨z, hz, hF⟩ := obind hF
    refine WP.rb mixed [[], [0]] [[0], []] [(8, .int .i64 year_), (9, .bool z)] (by kernel_rfl) ⟨mE rfl rfl h0,
 fun ρz wz hE hA _ ⟨u0, _⟩ => core_call rfl (call_args1 u0) cf_162 (pensionref1_leap_ok  _  hz), trivial⟩ ?_
    intro ρ4 w4 hN hf hr
    have h9 := hv hf 1 rfl rfl
    have hW := hW.trans hN
    refine WP.cond rfl h9 (fun hb => ?_) (fun hb => ?_)
    · have hF := (if_pos hb).symm.trans hF
      refine WP.seq (WP.rb mixed [[]] [[]] [(4, .int .i64 29)] (by kernel_rfl) ⟨aC rfl rfl (fun _ => rfl), trivial⟩ ?_)
      intro ρ5 w5 hN hf hr
      have h4 := hv hf 0 rfl rfl
      have hW := hW.trans hN
      refine WP.ret ?_
      show retQ Tryz.prog 15 Tryz.f118 (fun v w1 => v = .int .i64 r ∧ Ext noG w0 w1) .ret ρ5 w5
      obtain rfl := Option.some.inj hF
      exact res1 rfl (by decide) h4 ⟨rfl, hW⟩
    have hF := (if_neg (Bool.eq_false_iff.1 hb)).symm.trans hF
    refine WP.skip (WP.seq (WP.rb mixed [[]] [[]] [(4, .int .i64 28)] (by kernel_rfl) ⟨aC rfl rfl (fun _ => rfl), trivial⟩ ?_))
    intro ρ6 w6 hN hf hr
    have h4 := hv hf 0 rfl rfl
    have hW := hW.trans hN
    refine WP.ret ?_
    show retQ Tryz.prog 15 Tryz.f118 (fun v w1 => v = .int .i64 r ∧ Ext noG w0 w1) .ret ρ6 w6
    obtain rfl := Option.some.inj hF
    exact res1 rfl (by decide) h4 ⟨rfl, hW⟩
  have hF := (if_neg (Bool.eq_false_iff.1 hb)).symm.trans hF
  refine WP.seqJ (fun ρ w => ∃ x : Bool, ρ 10 = .bool x ∧ Ext noG w0 w ∧ pensionref1_length_j x = some r) ?_ ?_
  · refine WP.seq (WP.rb mixed [[], [0]] [[5], []] [(11, .bool (month_ == 4)), (10, .bool (month_ == 4))] (by kernel_rfl) ⟨fun ρz wz hE hA ⟨e5, _⟩ _ => core_val rfl rfl (o_eql (e5.trans h5) rfl rfl),
 aU rfl rfl rfl, trivial⟩ ?_)
    intro ρ10 w10 hN hf hr
    have h10 := hv hf 1 rfl rfl
    have h5 := (hr 5 rfl).trans h5
    have hW := hW.trans hN
    refine WP.cond rfl h10 (fun hb => ?_) (fun hb => ?_)
    · have hF := (if_pos hb).symm.trans hF
      refine WP.skip ?_
      exact ⟨(month_ == 4), h10, hW, hF⟩
    have hF := (if_neg (Bool.eq_false_iff.1 hb)).symm.trans hF
    refine WP.seq (WP.rb mixed [[], [0]] [[5], []] [(12, .bool (month_ == 6)), (10, .bool (month_ == 6))] (by kernel_rfl) ⟨fun ρz wz hE hA ⟨e5, _⟩ _ => core_val rfl rfl (o_eql (e5.trans h5) rfl rfl),
 aU rfl rfl rfl, trivial⟩ ?_)
    intro ρ11 w11 hN hf hr
    have h10 := hv hf 1 rfl rfl
    have h5 := (hr 5 rfl).trans h5
    have hW := hW.trans hN
    refine WP.cond rfl h10 (fun hb => ?_) (fun hb => ?_)
    · have hF := (if_pos hb).symm.trans hF
      refine WP.skip ?_
      exact ⟨(month_ == 6), h10, hW, hF⟩
    have hF := (if_neg (Bool.eq_false_iff.1 hb)).symm.trans hF
    refine WP.seq (WP.rb mixed [[], [0]] [[5], []] [(13, .bool (month_ == 9)), (10, .bool (month_ == 9))] (by kernel_rfl) ⟨fun ρz wz hE hA ⟨e5, _⟩ _ => core_val rfl rfl (o_eql (e5.trans h5) rfl rfl),
 aU rfl rfl rfl, trivial⟩ ?_)
    intro ρ12 w12 hN hf hr
    have h10 := hv hf 1 rfl rfl
    have h5 := (hr 5 rfl).trans h5
    have hW := hW.trans hN
    refine WP.cond rfl h10 (fun hb => ?_) (fun hb => ?_)
    · have hF := (if_pos hb).symm.trans hF
      refine WP.skip ?_
      exact ⟨(month_ == 9), h10, hW, hF⟩
    have hF := (if_neg (Bool.eq_false_iff.1 hb)).symm.trans hF
    refine WP.rb mixed [[], [0]] [[5], []] [(14, .bool (month_ == 11)), (10, .bool (month_ == 11))] (by kernel_rfl) ⟨fun ρz wz hE hA ⟨e5, _⟩ _ => core_val rfl rfl (o_eql (e5.trans h5) rfl rfl),
 aU rfl rfl rfl, trivial⟩ ?_
    intro ρ13 w13 hN hf hr
    have h10 := hv hf 1 rfl rfl
    have hW := hW.trans hN
    exact ⟨(month_ == 11), h10, hW, hF⟩
  rintro ρ7 w7 ⟨x, h10, hW, hF⟩
  rw [pensionref1_length_j] at hF
  refine WP.cond rfl h10 (fun hb => ?_) (fun hb => ?_)
  · have hF := (if_pos hb).symm.trans hF
    refine WP.seq (WP.rb mixed [[]] [[]] [(4, .int .i64 30)] (by kernel_rfl) ⟨aC rfl rfl (fun _ => rfl), trivial⟩ ?_)
    intro ρ8 w8 hN hf hr
    have h4 := hv hf 0 rfl rfl
    have hW := hW.trans hN
    refine WP.ret ?_
    show retQ Tryz.prog 15 Tryz.f118 (fun v w1 => v = .int .i64 r ∧ Ext noG w0 w1) .ret ρ8 w8
    obtain rfl := Option.some.inj hF
    exact res1 rfl (by decide) h4 ⟨rfl, hW⟩
  have hF := (if_neg (Bool.eq_false_iff.1 hb)).symm.trans hF
  refine WP.skip (WP.seq (WP.rb mixed [[]] [[]] [(4, .int .i64 31)] (by kernel_rfl) ⟨aC rfl rfl (fun _ => rfl), trivial⟩ ?_))
  intro ρ9 w9 hN hf hr
  have h4 := hv hf 0 rfl rfl
  have hW := hW.trans hN
  refine WP.ret ?_
  show retQ Tryz.prog 15 Tryz.f118 (fun v w1 => v = .int .i64 r ∧ Ext noG w0 w1) .ret ρ9 w9
  obtain rfl := Option.some.inj hF
  exact res1 rfl (by decide) h4 ⟨rfl, hW⟩

set_option maxHeartbeats 4000000 in
theorem pensionref1_monthAt_ok {w0 : World} (day_ : Int) {r : Int × Int} (hF : pensionref1_monthAt day_ = some r) :
    Calls Tryz.prog 78 #[.int .i64 day_] w0 fun e w1 => e = .returned (.tuple #[.int .i64 r.1, .int .i64 r.2]) ∧ Ext noG w0 w1 := by
  refine (Calls.start (P := Tryz.prog) (args := [.int .i64 day_]) (R := fun v w1 => v = .tuple #[.int .i64 r.1, .int .i64 r.2] ∧ Ext noG w0 w1) (n := 23) (w := w0) Tryz.func78 rfl rfl (Nat.le_of_ble_eq_true rfl) (fun ρ hargs => ?_)).mono (fun e w1 ⟨v, he, hv, hE⟩ => ⟨hv ▸ he, hE⟩)
  have h0 := hargs 0 _ rfl
  have hW := Ext.refl noG w0
  rw [pensionref1_monthAt] at hF
  refine WP.seq (WP.rb mixed [[], []] [[], []] [(2, .int .i64 0), (3, .int .i64 0)] (by kernel_rfl) ⟨aC rfl rfl (fun _ => rfl),
 aC rfl rfl (fun _ => rfl), trivial⟩ ?_)
  intro ρ1 w1 hN hf hr
  have h0 := (hr 0 rfl).trans h0
  have hW := hW.trans hN
  refine WP.seq (WP.rb mixed [[]] [[]] [(4, .int .i64 0)] (by kernel_rfl) ⟨aC rfl rfl (fun _ => rfl), trivial⟩ ?_)
  intro ρ2 w2 hN hf hr
  have h4 := hv hf 0 rfl rfl
  have h0 := (hr 0 rfl).trans h0
  have hW := hW.trans hN
  refine WP.block (WP.loop (fun k_ ρ w => ∃ day_2 : Int, ∃ m_ : Int, ρ 0 = .int .i64 day_2 ∧ ρ 4 = .int .i64 m_ ∧ Ext noG w0 w ∧ loopC k_ pensionref1_monthAt_l (day_2, m_) = some r) FU ⟨day_, 0, h0, h4, hW, hF⟩ (fun _ _ h => by obtain ⟨_, _, _, _, _, h⟩ := h; cases h) ?_)
  rintro k_ ρ3 w3 ⟨day_2, m_, h0, h4, hW, hF⟩
  have hF : pensionref1_monthAt_l (loopC k_ pensionref1_monthAt_l) (day_2, m_) = some r := hF
  generalize hrec_ : loopC k_ pensionref1_monthAt_l = rec_ at hF
  rw [pensionref1_monthAt_l] at hF
  refine WP.seq (WP.block (WP.seq ?_))
  obtain ⟨z, hz, hF⟩ := obind hF
  refine WP.rb mixed [[], [0], [1], [], [3], [4], [2, 5], [6]] [[4], [], [], [4], [], [], [], []] [(8, .int .i64 m_), (9, .int .i64 (i64 (Int.tdiv m_ 12))), (10, .int .i64 (i64 (1900 + i64 (Int.tdiv m_ 12)))), (11, .int .i64 m_), (12, .int .i64 (Int.tmod m_ 12)), (13, .int .i64 (i64 (Int.tmod m_ 12 + 1))), (14, .int .i64 z), (5, .int .i64 z)] (by kernel_rfl) ⟨mE rfl rfl h4,
 fun ρz wz hE hA _ ⟨u0, _⟩ => core_val rfl rfl (o_quo u0 rfl (by decide) rfl),
 fun ρz wz hE hA _ ⟨u1, _⟩ => core_val rfl rfl (o_add rfl u1 rfl),
 mE rfl rfl h4,
 fun ρz wz hE hA _ ⟨u3, _⟩ => core_val rfl rfl (o_rem u3 rfl (by decide) rfl),
 fun ρz wz hE hA _ ⟨u4, _⟩ => core_val rfl rfl (o_add u4 rfl rfl),
 fun ρz wz hE hA _ ⟨u2, u5, _⟩ => core_call rfl (call_args2 u2 u5) cf_118 (pensionref1_length_ok  _ _  hz),
 aU rfl rfl rfl, trivial⟩ ?_
  intro ρ4 w4 hN hf hr
  have h5 := hv hf 7 rfl rfl
  obtain ⟨h0, h4⟩ := k2 hr h0 h4 rfl
  have hW := hW.trans hN
  refine WP.seq (WP.seq (WP.rb mixed [[], [], [0, 1]] [[0], [5], []] [(15, .int .i64 day_2), (16, .int .i64 z), (17, .bool (decide (day_2 < z)))] (by kernel_rfl) ⟨mE rfl rfl h0,
 mE rfl rfl h5,
 fun ρz wz hE hA _ ⟨u0, u1, _⟩ => core_val rfl rfl (o_lss u0 u1 rfl), trivial⟩ ?_))
  intro ρ5 w5 hN hf hr
  have h17 := hv hf 2 rfl rfl
  obtain ⟨h0, h4, h5⟩ := k3 hr h0 h4 h5 rfl
  have hW := hW.trans hN
  refine WP.cond rfl h17 (fun hb => ?_) (fun hb => ?_)
  · have hF := (if_pos hb).symm.trans hF
    refine WP.seq (WP.rb mixed [[], [], [0], [1]] [[4], [0], [], []] [(18, .int .i64 m_), (19, .int .i64 day_2), (2, .int .i64 m_), (3, .int .i64 day_2)] (by kernel_rfl) ⟨mE rfl rfl h4,
 mE rfl rfl h0,
 aU rfl rfl rfl,
 aU rfl rfl rfl, trivial⟩ ?_)
    intro ρ6 w6 hN hf hr
    have h2 := hv hf 2 rfl rfl
    have h3 := hv hf 3 rfl rfl
    have hW := hW.trans hN
    refine WP.ret ?_
    show retQ Tryz.prog 23 Tryz.f78 (fun v w1 => v = .tuple #[.int .i64 r.1, .int .i64 r.2] ∧ Ext noG w0 w1) .ret ρ6 w6
    obtain rfl := Option.some.inj hF
    exact res2 rfl (by decide) (by decide) h2 h3 ⟨rfl, hW⟩
  have hF := (if_neg (Bool.eq_false_iff.1 hb)).symm.trans hF
  refine WP.skip (WP.rv mixed [[], [], [0, 1], [0, 2]] [[], [], [0, 1], [2]] [[0], [5], [], []] [(20, .int .i64 day_2), (21, .int .i64 z), (22, .int .i64 (i64 (day_2 - z))), (0, .int .i64 (i64 (day_2 - z)))] (by kernel_rfl) ⟨mE rfl rfl h0,
 mE rfl rfl h5,
 fun ρz wz hE hA _ ⟨u0, u1, _⟩ => core_val rfl rfl (o_sub u0 u1 rfl),
 aU rfl rfl rfl, trivial⟩ ?_)
  intro ρ7 w7 hN hf hr
  have h0 := hv hf 3 rfl rfl
  have h4 := (hr 4 rfl).trans h4
  have hW := hW.trans hN
  refine WP.rv mixed [[], [0], [0, 1]] [[], [0], [1]] [[4], [], []] [(6, .int .i64 m_), (7, .int .i64 (i64 (m_ + 1))), (4, .int .i64 (i64 (m_ + 1)))] (by kernel_rfl) ⟨mE rfl rfl h4,
 fun ρz wz hE hA _ ⟨u0, _⟩ => core_val rfl rfl (o_add u0 rfl rfl),
 aU rfl rfl rfl, trivial⟩ ?_
  intro ρ8 w8 hN hf hr
  have h4 := hv hf 2 rfl rfl
  have h0 := (hr 0 rfl).trans h0
  have hW := hW.trans hN
  exact ⟨i64 (day_2 - z), i64 (m_ + 1), h0, h4, hW, (by first | exact hF | (rw [hrec_]; exact hF))⟩

set_option maxHeartbeats 4000000 in
theorem pensionref1_Month_ok {w0 : World} (day_ : Int) {r : Int} (hF : pensionref1_Month day_ = some r) :
    Calls Tryz.prog 39 #[.int .i64 day_] w0 fun e w1 => e = .returned (.int .i64 r) ∧ Ext noG w0 w1 := by
  refine (Calls.start (P := Tryz.prog) (args := [.int .i64 day_]) (R := fun v w1 => v = .int .i64 r ∧ Ext noG w0 w1) (n := 14) (w := w0) Tryz.func39 rfl rfl (Nat.le_of_ble_eq_true rfl) (fun ρ hargs => ?_)).mono (fun e w1 ⟨v, he, hv, hE⟩ => ⟨hv ▸ he, hE⟩)
  have h0 := hargs 0 _ rfl
  have hW := Ext.refl noG w0
  rw [pensionref1_Month] at hF
  refine WP.seq (WP.rb mixed [[]] [[]] [(2, .int .i64 0)] (by kernel_rfl) ⟨aC rfl rfl (fun _ => rfl), trivial⟩ ?_)
  intro ρ1 w1 hN hf hr
  have h0 := (hr 0 rfl).trans h0
  have hW := hW.trans hN
  refine WP.seq (WP.seq ?_)
  obtain ⟨z, hz, hF⟩ := obind hF
  refine WP.rb mixed [[], [0], [1]] [[0], [], []] [(5, .int .i64 day_), (6, .bool z), (7, .bool (!z))] (by kernel_rfl) ⟨mE rfl rfl h0,
 fun ρz wz hE hA _ ⟨u0, _⟩ => core_call rfl (call_args1 u0) cf_74 (pensionref1_ValidDay_ok  _  hz),
 fun ρz wz hE hA _ ⟨u1, _⟩ => core_val rfl rfl (o_not u1 rfl), trivial⟩ ?_
  intro ρ2 w2 hN hf hr
  have h7 := hv hf 2 rfl rfl
  have h0 := (hr 0 rfl).trans h0
  have hW := hW.trans hN
  refine WP.cond rfl h7 (fun hb => ?_) (fun hb => ?_)
  · have hF := (if_pos hb).symm.trans hF
    refine WP.seq (WP.rb mixed [[]] [[]] [(2, .int .i64 (-1))] (by kernel_rfl) ⟨aC rfl rfl (fun _ => rfl), trivial⟩ ?_)
    intro ρ3 w3 hN hf hr
    have h2 := hv hf 0 rfl rfl
    have hW := hW.trans hN
    refine WP.ret ?_
    show retQ Tryz.prog 14 Tryz.f39 (fun v w1 => v = .int .i64 r ∧ Ext noG w0 w1) .ret ρ3 w3
    obtain rfl := Option.some.inj hF
    exact res1 rfl (by decide) h2 ⟨rfl, hW⟩
  have hF := (if_neg (Bool.eq_false_iff.1 hb)).symm.trans hF
  refine WP.skip (WP.seq ?_)
  obtain ⟨z2, hz2, hF⟩ := obind hF
  refine WP.rb mixed [[], [0], [1], [2], [2], [3], [4]] [[0], [], [], [], [], [], []] [(9, .int .i64 day_), (10, .tuple #[.int .i64 z2.1, .int .i64 z2.2]), (8, .tuple #[.int .i64 z2.1, .int .i64 z2.2]), (11, .int .i64 z2.1), (12, .int .i64 z2.2), (3, .int .i64 z2.1), (4, .int .i64 z2.2)] (by kernel_rfl) ⟨mE rfl rfl h0,
 fun ρz wz hE hA _ ⟨u0, _⟩ => core_call rfl (call_args1 u0) cf_78 (pensionref1_monthAt_ok  _  hz2),
 mU rfl rfl rfl,
 fun ρz wz hE hA _ ⟨u2, _⟩ => core_val rfl rfl (o_extract u2 (by kernel_rfl)),
 fun ρz wz hE hA _ ⟨u2, _⟩ => core_val rfl rfl (o_extract u2 (by kernel_rfl)),
 aU rfl rfl rfl,
 aU rfl rfl rfl, trivial⟩ ?_
  intro ρ4 w4 hN hf hr
  have h3 := hv hf 5 rfl rfl
  have hW := hW.trans hN
  refine WP.seq (WP.rb mixed [[], [0]] [[3], []] [(13, .int .i64 z2.1), (2, .int .i64 z2.1)] (by kernel_rfl) ⟨mE rfl rfl h3,
 aU rfl rfl rfl, trivial⟩ ?_)
  intro ρ5 w5 hN hf hr
  have h2 := hv hf 1 rfl rfl
  have hW := hW.trans hN
  refine WP.ret ?_
  show retQ Tryz.prog 14 Tryz.f39 (fun v w1 => v = .int .i64 r ∧ Ext noG w0 w1) .ret ρ5 w5
  obtain rfl := Option.some.inj hF
  exact res1 rfl (by decide) h2 ⟨rfl, hW⟩

set_option maxHeartbeats 4000000 in
theorem pensionref1_ValidMonth_ok {w0 : World} (month_ : Int) {r : Bool} (hF : pensionref1_ValidMonth month_ = some r) :
    Calls Tryz.prog 40 #[.int .i64 month_] w0 fun e w1 => e = .returned (.bool r) ∧ Ext noG w0 w1 := by
  refine (Calls.start (P := Tryz.prog) (args := [.int .i64 month_]) (R := fun v w1 => v = .bool r ∧ Ext noG w0 w1) (n := 9) (w := w0) Tryz.func40 rfl rfl (Nat.le_of_ble_eq_true rfl) (fun ρ hargs => ?_)).mono (fun e w1 ⟨v, he, hv, hE⟩ => ⟨hv ▸ he, hE⟩)
  have h0 := hargs 0 _ rfl
  have hW := Ext.refl noG w0
  rw [pensionref1_ValidMonth] at hF
  refine WP.seq (WP.rb mixed [[]] [[]] [(2, .bool false)] (by kernel_rfl) ⟨aC rfl rfl (fun _ => rfl), trivial⟩ ?_)
  intro ρ1 w1 hN hf hr
  have h0 := (hr 0 rfl).trans h0
  have hW := hW.trans hN
  refine WP.seq (WP.rb mixed [[], [0], [1], [2], [2, 3], [2, 4], [5]] [[0], [], [], [0], [], [], []] [(3, .int .i64 month_), (4, .bool (decide (0 ≤ month_))), (5, .bool (decide (0 ≤ month_))), (6, gv (decide (0 ≤ month_)) (.int .i64 month_)), (7, gv (decide (0 ≤ month_)) (.bool (decide (month_ ≤ 2399)))), (8, .bool (decide (0 ≤ month_) && decide (month_ ≤ 2399))), (2, .bool (decide (0 ≤ month_) && decide (month_ ≤ 2399)))] (by kernel_rfl) ⟨mE rfl rfl h0,
 fun ρz wz hE hA _ ⟨u0, _⟩ => core_val rfl rfl (o_geq u0 rfl rfl),
 mU rfl rfl rfl,
 fun ρz wz hE hA ⟨e0, _⟩ ⟨u2, _⟩ => gIf rfl rfl (yT rfl u2) fun gc F hF => core_val rfl hF (o_move (e0.trans h0)),
 fun ρz wz hE hA _ ⟨u2, u3, _⟩ => gIf rfl rfl (yT rfl u2) fun gc F hF => core_val rfl hF (o_leq (gt gc u3) rfl rfl),
 fun ρz wz hE hA _ ⟨u2, u4, _⟩ => core_val rfl rfl (o_pick_and u2 u4 rfl),
 aU rfl rfl rfl, trivial⟩ ?_)
  intro ρ2 w2 hN hf hr
  have h2 := hv hf 6 rfl rfl
  have hW := hW.trans hN
  refine WP.ret ?_
  show retQ Tryz.prog 9 Tryz.f40 (fun v w1 => v = .bool r ∧ Ext noG w0 w1) .ret ρ2 w2
  obtain rfl := Option.some.inj hF
  exact res1 rfl (by decide) h2 ⟨rfl, hW⟩

set_option maxHeartbeats 4000000 in
theorem pensionref1_start_ok {w0 : World} (month_ : Int) {r : Int} (hF : pensionref1_start month_ = some r) :
    Calls Tryz.prog 67 #[.int .i64 month_] w0 fun e w1 => e = .returned (.int .i64 r) ∧ Ext noG w0 w1 := by
  refine (Calls.start (P := Tryz.prog) (args := [.int .i64 month_]) (R := fun v w1 => v = .int .i64 r ∧ Ext noG w0 w1) (n := 20) (w := w0) Tryz.func67 rfl rfl (Nat.le_of_ble_eq_true rfl) (fun ρ hargs => ?_)).mono (fun e w1 ⟨v, he, hv, hE⟩ => ⟨hv ▸ he, hE⟩)
  have h0 := hargs 0 _ rfl
  have hW := Ext.refl noG w0
  rw [pensionref1_start] at hF
  refine WP.seq (WP.rb mixed [[]] [[]] [(2, .int .i64 0)] (by kernel_rfl) ⟨aC rfl rfl (fun _ => rfl), trivial⟩ ?_)
  intro ρ1 w1 hN hf hr
  have h0 := (hr 0 rfl).trans h0
  have hW := hW.trans hN
  refine WP.seq (WP.rb mixed [[]] [[]] [(3, .int .i64 0)] (by kernel_rfl) ⟨aC rfl rfl (fun _ => rfl), trivial⟩ ?_)
  intro ρ2 w2 hN hf hr
  have h3 := hv hf 0 rfl rfl
  have h0 := (hr 0 rfl).trans h0
  have hW := hW.trans hN
  refine WP.seq (WP.seq (WP.rb mixed [[]] [[]] [(4, .int .i64 0)] (by kernel_rfl) ⟨aC rfl rfl (fun _ => rfl), trivial⟩ ?_))
  intro ρ3 w3 hN hf hr
  have h4 := hv hf 0 rfl rfl
  obtain ⟨h0, h3⟩ := k2 hr h0 h3 rfl
  have hW := hW.trans hN
  refine WP.block (WP.loop (fun k_ ρ w => ∃ n_ : Int, ∃ m_ : Int, ρ 0 = .int .i64 month_ ∧ ρ 3 = .int .i64 n_ ∧ ρ 4 = .int .i64 m_ ∧ Ext noG w0 w ∧ loopC k_ (pensionref1_start_l month_) (n_, m_) = some r) FU ⟨0, 0, h0, h3, h4, hW, hF⟩ (fun _ _ h => by obtain ⟨_, _, _, _, _, _, h⟩ := h; cases h) ?_)
  rintro k_ ρ4 w4 ⟨n_, m_, h0, h3, h4, hW, hF⟩
  have hF : pensionref1_start_l month_ (loopC k_ (pensionref1_start_l month_)) (n_, m_) = some r := hF
  generalize hrec_ : loopC k_ (pensionref1_start_l month_) = rec_ at hF
  rw [pensionref1_start_l] at hF
  refine WP.seq (WP.seq (WP.rb mixed [[], [], [0, 1]] [[4], [0], []] [(5, .int .i64 m_), (6, .int .i64 month_), (7, .bool (decide (m_ < month_)))] (by kernel_rfl) ⟨mE rfl rfl h4,
 mE rfl rfl h0,
 fun ρz wz hE hA _ ⟨u0, u1, _⟩ => core_val rfl rfl (o_lss u0 u1 rfl), trivial⟩ ?_))
  intro ρ5 w5 hN hf hr
  have h7 := hv hf 2 rfl rfl
  obtain ⟨h0, h3, h4⟩ := k3 hr h0 h3 h4 rfl
  have hW := hW.trans hN
  refine WP.cond rfl h7 (fun hb => ?_) (fun hb => ?_)
  · have hF := (if_pos hb).symm.trans hF
    refine WP.skip (WP.seq (WP.block ?_))
    obtain ⟨z, hz, hF⟩ := obind hF
    refine WP.rv mixed [[], [], [1], [2], [], [4], [5], [3, 6], [0, 7], [0, 8]] [[], [], [1], [2], [], [4], [5], [3, 6], [0, 7], [8]] [[3], [4], [], [], [4], [], [], [], [], []] [(10, .int .i64 n_), (11, .int .i64 m_), (12, .int .i64 (i64 (Int.tdiv m_ 12))), (13, .int .i64 (i64 (1900 + i64 (Int.tdiv m_ 12)))), (14, .int .i64 m_), (15, .int .i64 (Int.tmod m_ 12)), (16, .int .i64 (i64 (Int.tmod m_ 12 + 1))), (17, .int .i64 z), (18, .int .i64 (i64 (n_ + z))), (3, .int .i64 (i64 (n_ + z)))] (by kernel_rfl) ⟨mE rfl rfl h3,
 mE rfl rfl h4,
 fun ρz wz hE hA _ ⟨u1, _⟩ => core_val rfl rfl (o_quo u1 rfl (by decide) rfl),
 fun ρz wz hE hA _ ⟨u2, _⟩ => core_val rfl rfl (o_add rfl u2 rfl),
 mE rfl rfl h4,
 fun ρz wz hE hA _ ⟨u4, _⟩ => core_val rfl rfl (o_rem u4 rfl (by decide) rfl),
 fun ρz wz hE hA _ ⟨u5, _⟩ => core_val rfl rfl (o_add u5 rfl rfl),
 fun ρz wz hE hA _ ⟨u3, u6, _⟩ => core_call rfl (call_args2 u3 u6) cf_118 (pensionref1_length_ok  _ _  hz),
 fun ρz wz hE hA _ ⟨u0, u7, _⟩ => core_val rfl rfl (o_add u0 u7 rfl),
 aU rfl rfl rfl, trivial⟩ ?_
    intro ρ6 w6 hN hf hr
    have h3 := hv hf 9 rfl rfl
    obtain ⟨h0, h4⟩ := k2 hr h0 h4 rfl
    have hW := hW.trans hN
    refine WP.rv mixed [[], [0], [0, 1]] [[], [0], [1]] [[4], [], []] [(8, .int .i64 m_), (9, .int .i64 (i64 (m_ + 1))), (4, .int .i64 (i64 (m_ + 1)))] (by kernel_rfl) ⟨mE rfl rfl h4,
 fun ρz wz hE hA _ ⟨u0, _⟩ => core_val rfl rfl (o_add u0 rfl rfl),
 aU rfl rfl rfl, trivial⟩ ?_
    intro ρ7 w7 hN hf hr
    have h4 := hv hf 2 rfl rfl
    obtain ⟨h0, h3⟩ := k2 hr h0 h3 rfl
    have hW := hW.trans hN
    exact ⟨i64 (n_ + z), i64 (m_ + 1), h0, h3, h4, hW, (by first | exact hF | (rw [hrec_]; exact hF))⟩
  have hF := (if_neg (Bool.eq_false_iff.1 hb)).symm.trans hF
  refine WP.exit (thenQ_exit (thenQ_exit (blockQ_hit (WP.seq (WP.rb mixed [[], [0]] [[3], []] [(19, .int .i64 n_), (2, .int .i64 n_)] (by kernel_rfl) ⟨mE rfl rfl h3,
 aU rfl rfl rfl, trivial⟩ ?_)))))
  intro ρ8 w8 hN hf hr
  have h2 := hv hf 1 rfl rfl
  have hW := hW.trans hN
  refine WP.ret ?_
  show retQ Tryz.prog 20 Tryz.f67 (fun v w1 => v = .int .i64 r ∧ Ext noG w0 w1) .ret ρ8 w8
  obtain rfl := Option.some.inj hF
  exact res1 rfl (by decide) h2 ⟨rfl, hW⟩

set_option maxHeartbeats 4000000 in
theorem pensionref1_MonthStart_ok {w0 : World} (month_ : Int) {r : Int × Bool} (hF : pensionref1_MonthStart month_ = some r) :
    Calls Tryz.prog 30 #[.int .i64 month_] w0 fun e w1 => e = .returned (.tuple #[.int .i64 r.1, .bool r.2]) ∧ Ext noG w0 w1 := by
  refine (Calls.start (P := Tryz.prog) (args := [.int .i64 month_]) (R := fun v w1 => v = .tuple #[.int .i64 r.1, .bool r.2] ∧ Ext noG w0 w1) (n := 9) (w := w0) Tryz.func30 rfl rfl (Nat.le_of_ble_eq_true rfl) (fun ρ hargs => ?_)).mono (fun e w1 ⟨v, he, hv, hE⟩ => ⟨hv ▸ he, hE⟩)
  have h0 := hargs 0 _ rfl
  have hW := Ext.refl noG w0
  rw [pensionref1_MonthStart] at hF
  refine WP.seq (WP.rb mixed [[], []] [[], []] [(2, .int .i64 0), (3, .bool false)] (by kernel_rfl) ⟨aC rfl rfl (fun _ => rfl),
 aC rfl rfl (fun _ => rfl), trivial⟩ ?_)
  intro ρ1 w1 hN hf hr
  have h0 := (hr 0 rfl).trans h0
  have hW := hW.trans hN
  refine WP.seq (WP.seq ?_)
  obtain ⟨z, hz, hF⟩ := obind hF
  refine WP.rb mixed [[], [0], [1]] [[0], [], []] [(4, .int .i64 month_), (5, .bool z), (6, .bool (!z))] (by kernel_rfl) ⟨mE rfl rfl h0,
 fun ρz wz hE hA _ ⟨u0, _⟩ => core_call rfl (call_args1 u0) cf_40 (pensionref1_ValidMonth_ok  _  hz),
 fun ρz wz hE hA _ ⟨u1, _⟩ => core_val rfl rfl (o_not u1 rfl), trivial⟩ ?_
  intro ρ2 w2 hN hf hr
  have h6 := hv hf 2 rfl rfl
  have h0 := (hr 0 rfl).trans h0
  have hW := hW.trans hN
  refine WP.cond rfl h6 (fun hb => ?_) (fun hb => ?_)
  · have hF := (if_pos hb).symm.trans hF
    refine WP.seq (WP.rb mixed [[], []] [[], []] [(2, .int .i64 0), (3, .bool false)] (by kernel_rfl) ⟨aC rfl rfl (fun _ => rfl),
 aC rfl rfl (fun _ => rfl), trivial⟩ ?_)
    intro ρ3 w3 hN hf hr
    have h2 := hv hf 0 rfl rfl
    have h3 := hv hf 1 rfl rfl
    have hW := hW.trans hN
    refine WP.ret ?_
    show retQ Tryz.prog 9 Tryz.f30 (fun v w1 => v = .tuple #[.int .i64 r.1, .bool r.2] ∧ Ext noG w0 w1) .ret ρ3 w3
    obtain rfl := Option.some.inj hF
    exact res2 rfl (by decide) (by decide) h2 h3 ⟨rfl, hW⟩
  have hF := (if_neg (Bool.eq_false_iff.1 hb)).symm.trans hF
  refine WP.skip (WP.seq ?_)
  obtain ⟨z2, hz2, hF⟩ := obind hF
  refine WP.rb mixed [[], [0], [1], []] [[0], [], [], []] [(7, .int .i64 month_), (8, .int .i64 z2), (2, .int .i64 z2), (3, .bool true)] (by kernel_rfl) ⟨mE rfl rfl h0,
 fun ρz wz hE hA _ ⟨u0, _⟩ => core_call rfl (call_args1 u0) cf_67 (pensionref1_start_ok  _  hz2),
 aU rfl rfl rfl,
 aC rfl rfl (fun _ => rfl), trivial⟩ ?_
  intro ρ4 w4 hN hf hr
  have h2 := hv hf 2 rfl rfl
  have h3 := hv hf 3 rfl rfl
  have hW := hW.trans hN
  refine WP.ret ?_
  show retQ Tryz.prog 9 Tryz.f30 (fun v w1 => v = .tuple #[.int .i64 r.1, .bool r.2] ∧ Ext noG w0 w1) .ret ρ4 w4
  obtain rfl := Option.some.inj hF
  exact res2 rfl (by decide) (by decide) h2 h3 ⟨rfl, hW⟩

set_option maxHeartbeats 4000000 in
theorem pensionref26_Start_ok {w0 : World} (c_ : Claim) {r : Int × Bool} (hF : pensionref26_Start c_ = some r) :
    Calls Tryz.prog 18 #[Claim.val c_] w0 fun e w1 => e = .returned (.tuple #[.int .i64 r.1, .bool r.2]) ∧ Ext noG w0 w1 := by
  refine (Calls.start (P := Tryz.prog) (args := [Claim.val c_]) (R := fun v w1 => v = .tuple #[.int .i64 r.1, .bool r.2] ∧ Ext noG w0 w1) (n := 27) (w := w0) Tryz.func18 rfl rfl (Nat.le_of_ble_eq_true rfl) (fun ρ hargs => ?_)).mono (fun e w1 ⟨v, he, hv, hE⟩ => ⟨hv ▸ he, hE⟩)
  have h0 := hargs 0 _ rfl
  have hW := Ext.refl noG w0
  rw [pensionref26_Start] at hF
  refine WP.seq (WP.rg mixed [[], [], []] [[], [], []] [[0], [], []] [(1, fun u wz => ∃ b, u = .pointer (some ⟨b, 0, none⟩) ∧ w0.heap.size ≤ b ∧ Mb wz b 28 (Claim.cells c_)), val 2 (.int .i64 0), val 3 (.bool false)] (by kernel_rfl) ⟨fun _ _ _ hE ⟨b, hb, hs, hM⟩ => ⟨b, hb, hs, hM.exn hE⟩, sV, sV, trivial⟩ ⟨fun ρz wz hE hA ⟨e0, _⟩ _ => core_new rfl rfl hE (o_box (e0.trans h0) (bx_28 _ _)),
 aC rfl rfl (fun _ => rfl),
 aC rfl rfl (fun _ => rfl), trivial⟩ ?_)
  intro ρ1 w1 hN hf hr
  obtain ⟨b1_, h1, hge_b1_, Hb_b1_⟩ := hf 0 rfl
  have hB_b1_ : w0.heap.size ≤ b1_ := Nat.le_trans hW.size hge_b1_
  have hW := hW.trans hN
  refine WP.seq ?_
  obtain ⟨z, hz, hF⟩ := obind hF
  refine WP.rb mixed [[], [0], [1], [2]] [[1], [], [], []] [(7, .pointer (some ((⟨b1_, 0, none⟩ : Addr).add 5))), (8, .int .i64 c_.Day), (9, .int .i64 z), (4, .int .i64 z)] (by kernel_rfl) ⟨fun ρz wz hE hA ⟨e1, _⟩ _ => core_val rfl rfl (o_fieldAddr (e1.trans h1) (fa_28_5 _ _)),
 fun ρz wz hE hA _ ⟨u0, _⟩ => core_val rfl rfl (o_load u0 (run_load1 (lr_3 _ _) (CA.sub ((Hb_b1_.exn (hA rfl)).ca) 5 1))),
 fun ρz wz hE hA _ ⟨u1, _⟩ => core_call rfl (call_args1 u1) cf_39 (pensionref1_Month_ok  _  hz),
 aU rfl rfl rfl, trivial⟩ ?_
  intro ρ2 w2 hN hf hr
  have h4 := hv hf 3 rfl rfl
  have h1 := (hr 1 rfl).trans h1
  have Hb_b1_n := Hb_b1_.exn hN
  have hW := hW.trans hN
  have Hb_b1_ := Hb_b1_n
  refine WP.seq (WP.seq (WP.rb mixed [[], [0]] [[4], []] [(10, .int .i64 z), (11, .bool (decide (z < 0)))] (by kernel_rfl) ⟨mE rfl rfl h4,
 fun ρz wz hE hA _ ⟨u0, _⟩ => core_val rfl rfl (o_lss u0 rfl rfl), trivial⟩ ?_))
  intro ρ3 w3 hN hf hr
  have h11 := hv hf 1 rfl rfl
  obtain ⟨h1, h4⟩ := k2 hr h1 h4 rfl
  have Hb_b1_n := Hb_b1_.exn hN
  have hW := hW.trans hN
  have Hb_b1_ := Hb_b1_n
  refine WP.cond rfl h11 (fun hb => ?_) (fun hb => ?_)
  · have hF := (if_pos hb).symm.trans hF
    refine WP.seq (WP.rb mixed [[], []] [[], []] [(2, .int .i64 0), (3, .bool false)] (by kernel_rfl) ⟨aC rfl rfl (fun _ => rfl),
 aC rfl rfl (fun _ => rfl), trivial⟩ ?_)
    intro ρ4 w4 hN hf hr
    have h2 := hv hf 0 rfl rfl
    have h3 := hv hf 1 rfl rfl
    have hW := hW.trans hN
    refine WP.ret ?_
    show retQ Tryz.prog 27 Tryz.f18 (fun v w1 => v = .tuple #[.int .i64 r.1, .bool r.2] ∧ Ext noG w0 w1) .ret ρ4 w4
    obtain rfl := Option.some.inj hF
    exact res2 rfl (by decide) (by decide) h2 h3 ⟨rfl, hW⟩
  have hF := (if_neg (Bool.eq_false_iff.1 hb)).symm.trans hF
  refine WP.skip (WP.seq ?_)
  obtain ⟨z2, hz2, hF⟩ := obind hF
  refine WP.rb mixed [[], [0], [1], [2], [2], [3], [4]] [[4], [], [], [], [], [], []] [(13, .int .i64 z), (14, .tuple #[.int .i64 z2.1, .bool z2.2]), (12, .tuple #[.int .i64 z2.1, .bool z2.2]), (15, .int .i64 z2.1), (16, .bool z2.2), (5, .int .i64 z2.1), (6, .bool z2.2)] (by kernel_rfl) ⟨mE rfl rfl h4,
 fun ρz wz hE hA _ ⟨u0, _⟩ => core_call rfl (call_args1 u0) cf_30 (pensionref1_MonthStart_ok  _  hz2),
 mU rfl rfl rfl,
 fun ρz wz hE hA _ ⟨u2, _⟩ => core_val rfl rfl (o_extract u2 (by kernel_rfl)),
 fun ρz wz hE hA _ ⟨u2, _⟩ => core_val rfl rfl (o_extract u2 (by kernel_rfl)),
 aU rfl rfl rfl,
 aU rfl rfl rfl, trivial⟩ ?_
  intro ρ5 w5 hN hf hr
  have h5 := hv hf 5 rfl rfl
  obtain ⟨h1, h4⟩ := k2 hr h1 h4 rfl
  have Hb_b1_n := Hb_b1_.exn hN
  have hW := hW.trans hN
  have Hb_b1_ := Hb_b1_n
  refine WP.seqJ (fun ρ w => ∃ m_ : Int, ρ 4 = .int .i64 m_ ∧ Ext noG w0 w ∧ pensionref26_Start_j m_ = some r) ?_ ?_
  · refine WP.seq (WP.rb mixed [[], [], [1], [0, 2]] [[5], [1], [], []] [(17, .int .i64 z2.1), (18, .pointer (some ((⟨b1_, 0, none⟩ : Addr).add 5))), (19, .int .i64 c_.Day), (20, .bool (decide (z2.1 < c_.Day)))] (by kernel_rfl) ⟨mE rfl rfl h5,
 fun ρz wz hE hA ⟨e1, _⟩ _ => core_val rfl rfl (o_fieldAddr (e1.trans h1) (fa_28_5 _ _)),
 fun ρz wz hE hA _ ⟨u1, _⟩ => core_val rfl rfl (o_load u1 (run_load1 (lr_3 _ _) (CA.sub ((Hb_b1_.exn (hA rfl)).ca) 5 1))),
 fun ρz wz hE hA _ ⟨u0, u2, _⟩ => core_val rfl rfl (o_lss u0 u2 rfl), trivial⟩ ?_)
    intro ρ10 w10 hN hf hr
    have h20 := hv hf 3 rfl rfl
    have h4 := (hr 4 rfl).trans h4
    have hW := hW.trans hN
    refine WP.cond rfl h20 (fun hb => ?_) (fun hb => ?_)
    · have hF := (if_pos hb).symm.trans hF
      refine WP.rv mixed [[], [0], [0, 1]] [[], [0], [1]] [[4], [], []] [(21, .int .i64 z), (22, .int .i64 (i64 (z + 1))), (4, .int .i64 (i64 (z + 1)))] (by kernel_rfl) ⟨mE rfl rfl h4,
 fun ρz wz hE hA _ ⟨u0, _⟩ => core_val rfl rfl (o_add u0 rfl rfl),
 aU rfl rfl rfl, trivial⟩ ?_
      intro ρ11 w11 hN hf hr
      have h4 := hv hf 2 rfl rfl
      have hW := hW.trans hN
      exact ⟨i64 (z + 1), h4, hW, hF⟩
    have hF := (if_neg (Bool.eq_false_iff.1 hb)).symm.trans hF
    refine WP.skip ?_
    exact ⟨z, h4, hW, hF⟩
  rintro ρ6 w6 ⟨m_, h4, hW, hF⟩
  rw [pensionref26_Start_j] at hF
  refine WP.seq (WP.seq ?_)
  obtain ⟨z3, hz3, hF⟩ := obind hF
  refine WP.rb mixed [[], [0], [1]] [[4], [], []] [(23, .int .i64 m_), (24, .bool z3), (25, .bool (!z3))] (by kernel_rfl) ⟨mE rfl rfl h4,
 fun ρz wz hE hA _ ⟨u0, _⟩ => core_call rfl (call_args1 u0) cf_40 (pensionref1_ValidMonth_ok  _  hz3),
 fun ρz wz hE hA _ ⟨u1, _⟩ => core_val rfl rfl (o_not u1 rfl), trivial⟩ ?_
  intro ρ7 w7 hN hf hr
  have h25 := hv hf 2 rfl rfl
  have h4 := (hr 4 rfl).trans h4
  have hW := hW.trans hN
  refine WP.cond rfl h25 (fun hb => ?_) (fun hb => ?_)
  · have hF := (if_pos hb).symm.trans hF
    refine WP.seq (WP.rb mixed [[], []] [[], []] [(2, .int .i64 0), (3, .bool false)] (by kernel_rfl) ⟨aC rfl rfl (fun _ => rfl),
 aC rfl rfl (fun _ => rfl), trivial⟩ ?_)
    intro ρ8 w8 hN hf hr
    have h2 := hv hf 0 rfl rfl
    have h3 := hv hf 1 rfl rfl
    have hW := hW.trans hN
    refine WP.ret ?_
    show retQ Tryz.prog 27 Tryz.f18 (fun v w1 => v = .tuple #[.int .i64 r.1, .bool r.2] ∧ Ext noG w0 w1) .ret ρ8 w8
    obtain rfl := Option.some.inj hF
    exact res2 rfl (by decide) (by decide) h2 h3 ⟨rfl, hW⟩
  have hF := (if_neg (Bool.eq_false_iff.1 hb)).symm.trans hF
  refine WP.skip (WP.seq (WP.rb mixed [[], [0], []] [[4], [], []] [(26, .int .i64 m_), (2, .int .i64 m_), (3, .bool true)] (by kernel_rfl) ⟨mE rfl rfl h4,
 aU rfl rfl rfl,
 aC rfl rfl (fun _ => rfl), trivial⟩ ?_))
  intro ρ9 w9 hN hf hr
  have h2 := hv hf 1 rfl rfl
  have h3 := hv hf 2 rfl rfl
  have hW := hW.trans hN
  refine WP.ret ?_
  show retQ Tryz.prog 27 Tryz.f18 (fun v w1 => v = .tuple #[.int .i64 r.1, .bool r.2] ∧ Ext noG w0 w1) .ret ρ9 w9
  obtain rfl := Option.some.inj hF
  exact res2 rfl (by decide) (by decide) h2 h3 ⟨rfl, hW⟩

set_option maxHeartbeats 4000000 in
theorem pensionref26_Valid_ok {w0 : World} (d_ : Claim) {r : Bool} (hF : pensionref26_Valid d_ = some r) :
    Calls Tryz.prog 7 #[Claim.val d_] w0 fun e w1 => e = .returned (.bool r) ∧ Ext noG w0 w1 := by
  refine (Calls.start (P := Tryz.prog) (args := [Claim.val d_]) (R := fun v w1 => v = .bool r ∧ Ext noG w0 w1) (n := 78) (w := w0) Tryz.func7 rfl rfl (Nat.le_of_ble_eq_true rfl) (fun ρ hargs => ?_)).mono (fun e w1 ⟨v, he, hv, hE⟩ => ⟨hv ▸ he, hE⟩)
  have h0 := hargs 0 _ rfl
  have hW := Ext.refl noG w0
  rw [pensionref26_Valid] at hF
  refine WP.seq (WP.rg mixed [[], []] [[], []] [[0], []] [(1, fun u wz => ∃ b, u = .pointer (some ⟨b, 0, none⟩) ∧ w0.heap.size ≤ b ∧ Mb wz b 28 (Claim.cells d_)), val 2 (.bool false)] (by kernel_rfl) ⟨fun _ _ _ hE ⟨b, hb, hs, hM⟩ => ⟨b, hb, hs, hM.exn hE⟩, sV, trivial⟩ ⟨fun ρz wz hE hA ⟨e0, _⟩ _ => core_new rfl rfl hE (o_box (e0.trans h0) (bx_28 _ _)),
 aC rfl rfl (fun _ => rfl), trivial⟩ ?_)
  intro ρ1 w1 hN hf hr
  obtain ⟨b1_, h1, hge_b1_, Hb_b1_⟩ := hf 0 rfl
  have hB_b1_ : w0.heap.size ≤ b1_ := Nat.le_trans hW.size hge_b1_
  have hW := hW.trans hN
  refine WP.seq ?_
  obtain ⟨z, hz, hF⟩ := obind hF
  refine WP.rb mixed [[], [0], [1], [2], [2], [3], [4]] [[1], [], [], [], [], [], []] [(6, Claim.val d_), (7, .tuple #[.int .i64 z.1, .bool z.2]), (5, .tuple #[.int .i64 z.1, .bool z.2]), (8, .int .i64 z.1), (9, .bool z.2), (3, .int .i64 z.1), (4, .bool z.2)] (by kernel_rfl) ⟨fun ρz wz hE hA ⟨e1, _⟩ _ => core_val rfl rfl (o_load (e1.trans h1) (run_loadN (cs := (Claim.cells d_)) (lr_28 _ _) rfl ((Hb_b1_.exn (hA rfl)).ca))),
 fun ρz wz hE hA _ ⟨u0, _⟩ => core_call rfl (call_args1 u0) cf_18 (pensionref26_Start_ok  _  hz),
 mU rfl rfl rfl,
 fun ρz wz hE hA _ ⟨u2, _⟩ => core_val rfl rfl (o_extract u2 (by kernel_rfl)),
 fun ρz wz hE hA _ ⟨u2, _⟩ => core_val rfl rfl (o_extract u2 (by kernel_rfl)),
 aU rfl rfl rfl,
 aU rfl rfl rfl, trivial⟩ ?_
  intro ρ2 w2 hN hf hr
  have h4 := hv hf 6 rfl rfl
  have h1 := (hr 1 rfl).trans h1
  have Hb_b1_n := Hb_b1_.exn hN
  have hW := hW.trans hN
  have Hb_b1_ := Hb_b1_n
  refine WP.seq (WP.seq (WP.rb mixed [[], [0], [1], [2], [2, 3], [2, 4], [2, 5], [6], [7], [7, 8], [7, 9], [7, 10], [11], [12], [12, 13], [12, 14], [12, 15], [16], [17], [17, 18], [17, 19], [17, 20], [21], [22], [22, 23], [22, 24], [22, 25], [26], [27], [27, 28], [27, 29], [27, 30], [31], [32], [32, 33], [32, 34], [32, 35], [36], [37], [37, 38], [37, 39], [37, 40]] [[4], [], [], [1], [], [], [], [], [1], [], [], [], [], [1], [], [], [], [], [1], [], [], [], [], [1], [], [], [], [], [1], [], [], [], [], [1], [], [], [], [], [1], [], [], []] [(10, .bool z.2), (11, .bool (!z.2)), (12, .bool (!z.2)), (13, gv (!(!z.2)) (.pointer (some ((⟨b1_, 0, none⟩ : Addr).add 0)))), (14, gv (!(!z.2)) (.int .i64 d_.Issuer)), (15, gv (!(!z.2)) (.bool (decide (d_.Issuer < 0)))), (16, .bool ((!z.2) || decide (d_.Issuer < 0))), (17, .bool ((!z.2) || decide (d_.Issuer < 0))), (18, gv (!((!z.2) || decide (d_.Issuer < 0))) (.pointer (some ((⟨b1_, 0, none⟩ : Addr).add 0)))), (19, gv (!((!z.2) || decide (d_.Issuer < 0))) (.int .i64 d_.Issuer)), (20, gv (!((!z.2) || decide (d_.Issuer < 0))) (.bool (decide (6 ≤ d_.Issuer)))), (21, .bool (((!z.2) || decide (d_.Issuer < 0)) || decide (6 ≤ d_.Issuer))), (22, .bool (((!z.2) || decide (d_.Issuer < 0)) || decide (6 ≤ d_.Issuer))), (23, gv (!(((!z.2) || decide (d_.Issuer < 0)) || decide (6 ≤ d_.Issuer))) (.pointer (some ((⟨b1_, 0, none⟩ : Addr).add 1)))), (24, gv (!(((!z.2) || decide (d_.Issuer < 0)) || decide (6 ≤ d_.Issuer))) (.int .i64 d_.Number)), (25, gv (!(((!z.2) || decide (d_.Issuer < 0)) || decide (6 ≤ d_.Issuer))) (.bool (decide (d_.Number < 1)))), (26, .bool ((((!z.2) || decide (d_.Issuer < 0)) || decide (6 ≤ d_.Issuer)) || decide (d_.Number < 1))), (27, .bool ((((!z.2) || decide (d_.Issuer < 0)) || decide (6 ≤ d_.Issuer)) || decide (d_.Number < 1))), (28, gv (!((((!z.2) || decide (d_.Issuer < 0)) || decide (6 ≤ d_.Issuer)) || decide (d_.Number < 1))) (.pointer (some ((⟨b1_, 0, none⟩ : Addr).add 1)))), (29, gv (!((((!z.2) || decide (d_.Issuer < 0)) || decide (6 ≤ d_.Issuer)) || decide (d_.Number < 1))) (.int .i64 d_.Number)), (30, gv (!((((!z.2) || decide (d_.Issuer < 0)) || decide (6 ≤ d_.Issuer)) || decide (d_.Number < 1))) (.bool (decide (999 < d_.Number)))), (31, .bool (((((!z.2) || decide (d_.Issuer < 0)) || decide (6 ≤ d_.Issuer)) || decide (d_.Number < 1)) || decide (999 < d_.Number))), (32, .bool (((((!z.2) || decide (d_.Issuer < 0)) || decide (6 ≤ d_.Issuer)) || decide (d_.Number < 1)) || decide (999 < d_.Number))), (33, gv (!(((((!z.2) || decide (d_.Issuer < 0)) || decide (6 ≤ d_.Issuer)) || decide (d_.Number < 1)) || decide (999 < d_.Number))) (.pointer (some ((⟨b1_, 0, none⟩ : Addr).add 2)))), (34, gv (!(((((!z.2) || decide (d_.Issuer < 0)) || decide (6 ≤ d_.Issuer)) || decide (d_.Number < 1)) || decide (999 < d_.Number))) (.int .i64 d_.Person)), (35, gv (!(((((!z.2) || decide (d_.Issuer < 0)) || decide (6 ≤ d_.Issuer)) || decide (d_.Number < 1)) || decide (999 < d_.Number))) (.bool (decide (d_.Person < 1)))), (36, .bool ((((((!z.2) || decide (d_.Issuer < 0)) || decide (6 ≤ d_.Issuer)) || decide (d_.Number < 1)) || decide (999 < d_.Number)) || decide (d_.Person < 1))), (37, .bool ((((((!z.2) || decide (d_.Issuer < 0)) || decide (6 ≤ d_.Issuer)) || decide (d_.Number < 1)) || decide (999 < d_.Number)) || decide (d_.Person < 1))), (38, gv (!((((((!z.2) || decide (d_.Issuer < 0)) || decide (6 ≤ d_.Issuer)) || decide (d_.Number < 1)) || decide (999 < d_.Number)) || decide (d_.Person < 1))) (.pointer (some ((⟨b1_, 0, none⟩ : Addr).add 2)))), (39, gv (!((((((!z.2) || decide (d_.Issuer < 0)) || decide (6 ≤ d_.Issuer)) || decide (d_.Number < 1)) || decide (999 < d_.Number)) || decide (d_.Person < 1))) (.int .i64 d_.Person)), (40, gv (!((((((!z.2) || decide (d_.Issuer < 0)) || decide (6 ≤ d_.Issuer)) || decide (d_.Number < 1)) || decide (999 < d_.Number)) || decide (d_.Person < 1))) (.bool (decide (99 < d_.Person)))), (41, .bool (((((((!z.2) || decide (d_.Issuer < 0)) || decide (6 ≤ d_.Issuer)) || decide (d_.Number < 1)) || decide (999 < d_.Number)) || decide (d_.Person < 1)) || decide (99 < d_.Person))), (42, .bool (((((((!z.2) || decide (d_.Issuer < 0)) || decide (6 ≤ d_.Issuer)) || decide (d_.Number < 1)) || decide (999 < d_.Number)) || decide (d_.Person < 1)) || decide (99 < d_.Person))), (43, gv (!(((((((!z.2) || decide (d_.Issuer < 0)) || decide (6 ≤ d_.Issuer)) || decide (d_.Number < 1)) || decide (999 < d_.Number)) || decide (d_.Person < 1)) || decide (99 < d_.Person))) (.pointer (some ((⟨b1_, 0, none⟩ : Addr).add 3)))), (44, gv (!(((((((!z.2) || decide (d_.Issuer < 0)) || decide (6 ≤ d_.Issuer)) || decide (d_.Number < 1)) || decide (999 < d_.Number)) || decide (d_.Person < 1)) || decide (99 < d_.Person))) (.int .i64 d_.Benefit)), (45, gv (!(((((((!z.2) || decide (d_.Issuer < 0)) || decide (6 ≤ d_.Issuer)) || decide (d_.Number < 1)) || decide (999 < d_.Number)) || decide (d_.Person < 1)) || decide (99 < d_.Person))) (.bool (decide (d_.Benefit < 1)))), (46, .bool ((((((((!z.2) || decide (d_.Issuer < 0)) || decide (6 ≤ d_.Issuer)) || decide (d_.Number < 1)) || decide (999 < d_.Number)) || decide (d_.Person < 1)) || decide (99 < d_.Person)) || decide (d_.Benefit < 1))), (47, .bool ((((((((!z.2) || decide (d_.Issuer < 0)) || decide (6 ≤ d_.Issuer)) || decide (d_.Number < 1)) || decide (999 < d_.Number)) || decide (d_.Person < 1)) || decide (99 < d_.Person)) || decide (d_.Benefit < 1))), (48, gv (!((((((((!z.2) || decide (d_.Issuer < 0)) || decide (6 ≤ d_.Issuer)) || decide (d_.Number < 1)) || decide (999 < d_.Number)) || decide (d_.Person < 1)) || decide (99 < d_.Person)) || decide (d_.Benefit < 1))) (.pointer (some ((⟨b1_, 0, none⟩ : Addr).add 3)))), (49, gv (!((((((((!z.2) || decide (d_.Issuer < 0)) || decide (6 ≤ d_.Issuer)) || decide (d_.Number < 1)) || decide (999 < d_.Number)) || decide (d_.Person < 1)) || decide (99 < d_.Person)) || decide (d_.Benefit < 1))) (.int .i64 d_.Benefit)), (50, gv (!((((((((!z.2) || decide (d_.Issuer < 0)) || decide (6 ≤ d_.Issuer)) || decide (d_.Number < 1)) || decide (999 < d_.Number)) || decide (d_.Person < 1)) || decide (99 < d_.Person)) || decide (d_.Benefit < 1))) (.bool (decide (5 < d_.Benefit)))), (51, .bool (((((((((!z.2) || decide (d_.Issuer < 0)) || decide (6 ≤ d_.Issuer)) || decide (d_.Number < 1)) || decide (999 < d_.Number)) || decide (d_.Person < 1)) || decide (99 < d_.Person)) || decide (d_.Benefit < 1)) || decide (5 < d_.Benefit)))] (by kernel_rfl) ⟨mE rfl rfl h4,
 fun ρz wz hE hA _ ⟨u0, _⟩ => core_val rfl rfl (o_not u0 rfl),
 mU rfl rfl rfl,
 fun ρz wz hE hA ⟨e1, _⟩ ⟨u2, _⟩ => gIf rfl rfl (yF rfl u2) fun gc F hF => core_val rfl hF (o_fieldAddr (e1.trans h1) (fa_28_0 _ _)),
 fun ρz wz hE hA _ ⟨u2, u3, _⟩ => gIf rfl rfl (yF rfl u2) fun gc F hF => core_val rfl hF (o_load (gt gc u3) (run_load1 (lr_3 _ _) (CA.sub ((Hb_b1_.exn (hA rfl)).ca) 0 1))),
 fun ρz wz hE hA _ ⟨u2, u4, _⟩ => gIf rfl rfl (yF rfl u2) fun gc F hF => core_val rfl hF (o_lss (gt gc u4) rfl rfl),
 fun ρz wz hE hA _ ⟨u2, u5, _⟩ => core_val rfl rfl (o_pick_or u2 rfl u5),
 mU rfl rfl rfl,
 fun ρz wz hE hA ⟨e1, _⟩ ⟨u7, _⟩ => gIf rfl rfl (yF rfl u7) fun gc F hF => core_val rfl hF (o_fieldAddr (e1.trans h1) (fa_28_0 _ _)),
 fun ρz wz hE hA _ ⟨u7, u8, _⟩ => gIf rfl rfl (yF rfl u7) fun gc F hF => core_val rfl hF (o_load (gt gc u8) (run_load1 (lr_3 _ _) (CA.sub ((Hb_b1_.exn (hA rfl)).ca) 0 1))),
 fun ρz wz hE hA _ ⟨u7, u9, _⟩ => gIf rfl rfl (yF rfl u7) fun gc F hF => core_val rfl hF (o_geq (gt gc u9) rfl rfl),
 fun ρz wz hE hA _ ⟨u7, u10, _⟩ => core_val rfl rfl (o_pick_or u7 rfl u10),
 mU rfl rfl rfl,
 fun ρz wz hE hA ⟨e1, _⟩ ⟨u12, _⟩ => gIf rfl rfl (yF rfl u12) fun gc F hF => core_val rfl hF (o_fieldAddr (e1.trans h1) (fa_28_1 _ _)),
 fun ρz wz hE hA _ ⟨u12, u13, _⟩ => gIf rfl rfl (yF rfl u12) fun gc F hF => core_val rfl hF (o_load (gt gc u13) (run_load1 (lr_3 _ _) (CA.sub ((Hb_b1_.exn (hA rfl)).ca) 1 1))),
 fun ρz wz hE hA _ ⟨u12, u14, _⟩ => gIf rfl rfl (yF rfl u12) fun gc F hF => core_val rfl hF (o_lss (gt gc u14) rfl rfl),
 fun ρz wz hE hA _ ⟨u12, u15, _⟩ => core_val rfl rfl (o_pick_or u12 rfl u15),
 mU rfl rfl rfl,
 fun ρz wz hE hA ⟨e1, _⟩ ⟨u17, _⟩ => gIf rfl rfl (yF rfl u17) fun gc F hF => core_val rfl hF (o_fieldAddr (e1.trans h1) (fa_28_1 _ _)),
 fun ρz wz hE hA _ ⟨u17, u18, _⟩ => gIf rfl rfl (yF rfl u17) fun gc F hF => core_val rfl hF (o_load (gt gc u18) (run_load1 (lr_3 _ _) (CA.sub ((Hb_b1_.exn (hA rfl)).ca) 1 1))),
 fun ρz wz hE hA _ ⟨u17, u19, _⟩ => gIf rfl rfl (yF rfl u17) fun gc F hF => core_val rfl hF (o_gtr (gt gc u19) rfl rfl),
 fun ρz wz hE hA _ ⟨u17, u20, _⟩ => core_val rfl rfl (o_pick_or u17 rfl u20),
 mU rfl rfl rfl,
 fun ρz wz hE hA ⟨e1, _⟩ ⟨u22, _⟩ => gIf rfl rfl (yF rfl u22) fun gc F hF => core_val rfl hF (o_fieldAddr (e1.trans h1) (fa_28_2 _ _)),
 fun ρz wz hE hA _ ⟨u22, u23, _⟩ => gIf rfl rfl (yF rfl u22) fun gc F hF => core_val rfl hF (o_load (gt gc u23) (run_load1 (lr_3 _ _) (CA.sub ((Hb_b1_.exn (hA rfl)).ca) 2 1))),
 fun ρz wz hE hA _ ⟨u22, u24, _⟩ => gIf rfl rfl (yF rfl u22) fun gc F hF => core_val rfl hF (o_lss (gt gc u24) rfl rfl),
 fun ρz wz hE hA _ ⟨u22, u25, _⟩ => core_val rfl rfl (o_pick_or u22 rfl u25),
 mU rfl rfl rfl,
 fun ρz wz hE hA ⟨e1, _⟩ ⟨u27, _⟩ => gIf rfl rfl (yF rfl u27) fun gc F hF => core_val rfl hF (o_fieldAddr (e1.trans h1) (fa_28_2 _ _)),
 fun ρz wz hE hA _ ⟨u27, u28, _⟩ => gIf rfl rfl (yF rfl u27) fun gc F hF => core_val rfl hF (o_load (gt gc u28) (run_load1 (lr_3 _ _) (CA.sub ((Hb_b1_.exn (hA rfl)).ca) 2 1))),
 fun ρz wz hE hA _ ⟨u27, u29, _⟩ => gIf rfl rfl (yF rfl u27) fun gc F hF => core_val rfl hF (o_gtr (gt gc u29) rfl rfl),
 fun ρz wz hE hA _ ⟨u27, u30, _⟩ => core_val rfl rfl (o_pick_or u27 rfl u30),
 mU rfl rfl rfl,
 fun ρz wz hE hA ⟨e1, _⟩ ⟨u32, _⟩ => gIf rfl rfl (yF rfl u32) fun gc F hF => core_val rfl hF (o_fieldAddr (e1.trans h1) (fa_28_3 _ _)),
 fun ρz wz hE hA _ ⟨u32, u33, _⟩ => gIf rfl rfl (yF rfl u32) fun gc F hF => core_val rfl hF (o_load (gt gc u33) (run_load1 (lr_3 _ _) (CA.sub ((Hb_b1_.exn (hA rfl)).ca) 3 1))),
 fun ρz wz hE hA _ ⟨u32, u34, _⟩ => gIf rfl rfl (yF rfl u32) fun gc F hF => core_val rfl hF (o_lss (gt gc u34) rfl rfl),
 fun ρz wz hE hA _ ⟨u32, u35, _⟩ => core_val rfl rfl (o_pick_or u32 rfl u35),
 mU rfl rfl rfl,
 fun ρz wz hE hA ⟨e1, _⟩ ⟨u37, _⟩ => gIf rfl rfl (yF rfl u37) fun gc F hF => core_val rfl hF (o_fieldAddr (e1.trans h1) (fa_28_3 _ _)),
 fun ρz wz hE hA _ ⟨u37, u38, _⟩ => gIf rfl rfl (yF rfl u37) fun gc F hF => core_val rfl hF (o_load (gt gc u38) (run_load1 (lr_3 _ _) (CA.sub ((Hb_b1_.exn (hA rfl)).ca) 3 1))),
 fun ρz wz hE hA _ ⟨u37, u39, _⟩ => gIf rfl rfl (yF rfl u37) fun gc F hF => core_val rfl hF (o_gtr (gt gc u39) rfl rfl),
 fun ρz wz hE hA _ ⟨u37, u40, _⟩ => core_val rfl rfl (o_pick_or u37 rfl u40), trivial⟩ ?_))
  intro ρ3 w3 hN hf hr
  have h51 := hv hf 41 rfl rfl
  have h1 := (hr 1 rfl).trans h1
  have Hb_b1_n := Hb_b1_.exn hN
  have hW := hW.trans hN
  have Hb_b1_ := Hb_b1_n
  refine WP.cond rfl h51 (fun hb => ?_) (fun hb => ?_)
  · have hF := (if_pos hb).symm.trans hF
    refine WP.seq (WP.rb mixed [[]] [[]] [(2, .bool false)] (by kernel_rfl) ⟨aC rfl rfl (fun _ => rfl), trivial⟩ ?_)
    intro ρ4 w4 hN hf hr
    have h2 := hv hf 0 rfl rfl
    have hW := hW.trans hN
    refine WP.ret ?_
    show retQ Tryz.prog 78 Tryz.f7 (fun v w1 => v = .bool r ∧ Ext noG w0 w1) .ret ρ4 w4
    obtain rfl := Option.some.inj hF
    exact res1 rfl (by decide) h2 ⟨rfl, hW⟩
  have hF := (if_neg (Bool.eq_false_iff.1 hb)).symm.trans hF
  refine WP.skip (WP.seq (WP.seq (WP.rb mixed [[], [0], [1], [2], [3], [3, 4], [3, 5], [3, 6]] [[1], [], [], [], [1], [], [], []] [(52, .pointer (some ((⟨b1_, 0, none⟩ : Addr).add 3))), (53, .int .i64 d_.Benefit), (54, .bool (d_.Benefit == 3)), (55, .bool (d_.Benefit == 3)), (56, gv (!(d_.Benefit == 3)) (.pointer (some ((⟨b1_, 0, none⟩ : Addr).add 3)))), (57, gv (!(d_.Benefit == 3)) (.int .i64 d_.Benefit)), (58, gv (!(d_.Benefit == 3)) (.bool (d_.Benefit == 4))), (59, .bool ((d_.Benefit == 3) || (d_.Benefit == 4)))] (by kernel_rfl) ⟨fun ρz wz hE hA ⟨e1, _⟩ _ => core_val rfl rfl (o_fieldAddr (e1.trans h1) (fa_28_3 _ _)),
 fun ρz wz hE hA _ ⟨u0, _⟩ => core_val rfl rfl (o_load u0 (run_load1 (lr_3 _ _) (CA.sub ((Hb_b1_.exn (hA rfl)).ca) 3 1))),
 fun ρz wz hE hA _ ⟨u1, _⟩ => core_val rfl rfl (o_eql u1 rfl rfl),
 mU rfl rfl rfl,
 fun ρz wz hE hA ⟨e1, _⟩ ⟨u3, _⟩ => gIf rfl rfl (yF rfl u3) fun gc F hF => core_val rfl hF (o_fieldAddr (e1.trans h1) (fa_28_3 _ _)),
 fun ρz wz hE hA _ ⟨u3, u4, _⟩ => gIf rfl rfl (yF rfl u3) fun gc F hF => core_val rfl hF (o_load (gt gc u4) (run_load1 (lr_3 _ _) (CA.sub ((Hb_b1_.exn (hA rfl)).ca) 3 1))),
 fun ρz wz hE hA _ ⟨u3, u5, _⟩ => gIf rfl rfl (yF rfl u3) fun gc F hF => core_val rfl hF (o_eql (gt gc u5) rfl rfl),
 fun ρz wz hE hA _ ⟨u3, u6, _⟩ => core_val rfl rfl (o_pick_or u3 rfl u6), trivial⟩ ?_)))
  intro ρ5 w5 hN hf hr
  have h59 := hv hf 7 rfl rfl
  have h1 := (hr 1 rfl).trans h1
  have Hb_b1_n := Hb_b1_.exn hN
  have hW := hW.trans hN
  have Hb_b1_ := Hb_b1_n
  refine WP.cond rfl h59 (fun hb => ?_) (fun hb => ?_)
  · have hF := (if_pos hb).symm.trans hF
    refine WP.seq (WP.rb mixed [[], [0], [1], [2], [3], [3, 4], [3, 5], [3, 6], [7], [8], [8, 9], [8], [8, 11], [8, 10, 12], [8, 13], [14]] [[1], [], [], [], [1], [], [], [], [], [1], [], [1], [], [], [], []] [(60, .pointer (some ((⟨b1_, 0, none⟩ : Addr).add 4))), (61, .int .i64 d_.Ref), (62, .bool (decide (1 ≤ d_.Ref))), (63, .bool (decide (1 ≤ d_.Ref))), (64, gv (decide (1 ≤ d_.Ref)) (.pointer (some ((⟨b1_, 0, none⟩ : Addr).add 4)))), (65, gv (decide (1 ≤ d_.Ref)) (.int .i64 d_.Ref)), (66, gv (decide (1 ≤ d_.Ref)) (.bool (decide (d_.Ref ≤ 99)))), (67, .bool (decide (1 ≤ d_.Ref) && decide (d_.Ref ≤ 99))), (68, .bool (decide (1 ≤ d_.Ref) && decide (d_.Ref ≤ 99))), (69, gv ((decide (1 ≤ d_.Ref) && decide (d_.Ref ≤ 99))) (.pointer (some ((⟨b1_, 0, none⟩ : Addr).add 4)))), (70, gv ((decide (1 ≤ d_.Ref) && decide (d_.Ref ≤ 99))) (.int .i64 d_.Ref)), (71, gv ((decide (1 ≤ d_.Ref) && decide (d_.Ref ≤ 99))) (.pointer (some ((⟨b1_, 0, none⟩ : Addr).add 2)))), (72, gv ((decide (1 ≤ d_.Ref) && decide (d_.Ref ≤ 99))) (.int .i64 d_.Person)), (73, gv ((decide (1 ≤ d_.Ref) && decide (d_.Ref ≤ 99))) (.bool (d_.Ref != d_.Person))), (74, .bool ((decide (1 ≤ d_.Ref) && decide (d_.Ref ≤ 99)) && (d_.Ref != d_.Person))), (2, .bool ((decide (1 ≤ d_.Ref) && decide (d_.Ref ≤ 99)) && (d_.Ref != d_.Person)))] (by kernel_rfl) ⟨fun ρz wz hE hA ⟨e1, _⟩ _ => core_val rfl rfl (o_fieldAddr (e1.trans h1) (fa_28_4 _ _)),
 fun ρz wz hE hA _ ⟨u0, _⟩ => core_val rfl rfl (o_load u0 (run_load1 (lr_3 _ _) (CA.sub ((Hb_b1_.exn (hA rfl)).ca) 4 1))),
 fun ρz wz hE hA _ ⟨u1, _⟩ => core_val rfl rfl (o_geq u1 rfl rfl),
 mU rfl rfl rfl,
 fun ρz wz hE hA ⟨e1, _⟩ ⟨u3, _⟩ => gIf rfl rfl (yT rfl u3) fun gc F hF => core_val rfl hF (o_fieldAddr (e1.trans h1) (fa_28_4 _ _)),
 fun ρz wz hE hA _ ⟨u3, u4, _⟩ => gIf rfl rfl (yT rfl u3) fun gc F hF => core_val rfl hF (o_load (gt gc u4) (run_load1 (lr_3 _ _) (CA.sub ((Hb_b1_.exn (hA rfl)).ca) 4 1))),
 fun ρz wz hE hA _ ⟨u3, u5, _⟩ => gIf rfl rfl (yT rfl u3) fun gc F hF => core_val rfl hF (o_leq (gt gc u5) rfl rfl),
 fun ρz wz hE hA _ ⟨u3, u6, _⟩ => core_val rfl rfl (o_pick_and u3 u6 rfl),
 mU rfl rfl rfl,
 fun ρz wz hE hA ⟨e1, _⟩ ⟨u8, _⟩ => gIf rfl rfl (yT rfl u8) fun gc F hF => core_val rfl hF (o_fieldAddr (e1.trans h1) (fa_28_4 _ _)),
 fun ρz wz hE hA _ ⟨u8, u9, _⟩ => gIf rfl rfl (yT rfl u8) fun gc F hF => core_val rfl hF (o_load (gt gc u9) (run_load1 (lr_3 _ _) (CA.sub ((Hb_b1_.exn (hA rfl)).ca) 4 1))),
 fun ρz wz hE hA ⟨e1, _⟩ ⟨u8, _⟩ => gIf rfl rfl (yT rfl u8) fun gc F hF => core_val rfl hF (o_fieldAddr (e1.trans h1) (fa_28_2 _ _)),
 fun ρz wz hE hA _ ⟨u8, u11, _⟩ => gIf rfl rfl (yT rfl u8) fun gc F hF => core_val rfl hF (o_load (gt gc u11) (run_load1 (lr_3 _ _) (CA.sub ((Hb_b1_.exn (hA rfl)).ca) 2 1))),
 fun ρz wz hE hA _ ⟨u8, u10, u12, _⟩ => gIf rfl rfl (yT rfl u8) fun gc F hF => core_val rfl hF (o_neq (gt gc u10) (gt gc u12) rfl),
 fun ρz wz hE hA _ ⟨u8, u13, _⟩ => core_val rfl rfl (o_pick_and u8 u13 rfl),
 aU rfl rfl rfl, trivial⟩ ?_)
    intro ρ6 w6 hN hf hr
    have h2 := hv hf 15 rfl rfl
    have hW := hW.trans hN
    refine WP.ret ?_
    show retQ Tryz.prog 78 Tryz.f7 (fun v w1 => v = .bool r ∧ Ext noG w0 w1) .ret ρ6 w6
    obtain rfl := Option.some.inj hF
    exact res1 rfl (by decide) h2 ⟨rfl, hW⟩
  have hF := (if_neg (Bool.eq_false_iff.1 hb)).symm.trans hF
  refine WP.skip (WP.seq (WP.rb mixed [[], [0], [1], [2]] [[1], [], [], []] [(75, .pointer (some ((⟨b1_, 0, none⟩ : Addr).add 4))), (76, .int .i64 d_.Ref), (77, .bool (d_.Ref == 0)), (2, .bool (d_.Ref == 0))] (by kernel_rfl) ⟨fun ρz wz hE hA ⟨e1, _⟩ _ => core_val rfl rfl (o_fieldAddr (e1.trans h1) (fa_28_4 _ _)),
 fun ρz wz hE hA _ ⟨u0, _⟩ => core_val rfl rfl (o_load u0 (run_load1 (lr_3 _ _) (CA.sub ((Hb_b1_.exn (hA rfl)).ca) 4 1))),
 fun ρz wz hE hA _ ⟨u1, _⟩ => core_val rfl rfl (o_eql u1 rfl rfl),
 aU rfl rfl rfl, trivial⟩ ?_))
  intro ρ7 w7 hN hf hr
  have h2 := hv hf 3 rfl rfl
  have hW := hW.trans hN
  refine WP.ret ?_
  show retQ Tryz.prog 78 Tryz.f7 (fun v w1 => v = .bool r ∧ Ext noG w0 w1) .ret ρ7 w7
  obtain rfl := Option.some.inj hF
  exact res1 rfl (by decide) h2 ⟨rfl, hW⟩

set_option maxHeartbeats 4000000 in
theorem pensionlaw26_Person_ok {w0 : World} (n_ : Int) {r : Int} (hF : pensionlaw26_Person n_ = some r) :
    Calls Tryz.prog 8 #[.int .i64 n_] w0 fun e w1 => e = .returned (.int .i64 r) ∧ Ext noG w0 w1 := by
  refine (Calls.start (P := Tryz.prog) (args := [.int .i64 n_]) (R := fun v w1 => v = .int .i64 r ∧ Ext noG w0 w1) (n := 6) (w := w0) Tryz.func8 rfl rfl (Nat.le_of_ble_eq_true rfl) (fun ρ hargs => ?_)).mono (fun e w1 ⟨v, he, hv, hE⟩ => ⟨hv ▸ he, hE⟩)
  have h0 := hargs 0 _ rfl
  have hW := Ext.refl noG w0
  rw [pensionlaw26_Person] at hF
  refine WP.seq (WP.rb mixed [[]] [[]] [(2, .int .i64 0)] (by kernel_rfl) ⟨aC rfl rfl (fun _ => rfl), trivial⟩ ?_)
  intro ρ1 w1 hN hf hr
  have h0 := (hr 0 rfl).trans h0
  have hW := hW.trans hN
  refine WP.seq ?_
  obtain ⟨z, hz, hF⟩ := obind hF
  refine WP.rb mixed [[], [0], [1], [2]] [[0], [], [], []] [(3, .int .i64 n_), (4, .int .i64 z), (5, .int .i64 (i64 (1 + z))), (2, .int .i64 (i64 (1 + z)))] (by kernel_rfl) ⟨mE rfl rfl h0,
 fun ρz wz hE hA _ ⟨u0, _⟩ => core_call rfl (call_args2 u0 rfl) cf_15 (pensionplain_Mod_ok  _ _  hz),
 fun ρz wz hE hA _ ⟨u1, _⟩ => core_val rfl rfl (o_add rfl u1 rfl),
 aU rfl rfl rfl, trivial⟩ ?_
  intro ρ2 w2 hN hf hr
  have h2 := hv hf 3 rfl rfl
  have hW := hW.trans hN
  refine WP.ret ?_
  show retQ Tryz.prog 6 Tryz.f8 (fun v w1 => v = .int .i64 r ∧ Ext noG w0 w1) .ret ρ2 w2
  obtain rfl := Option.some.inj hF
  exact res1 rfl (by decide) h2 ⟨rfl, hW⟩

set_option maxHeartbeats 4000000 in
theorem pensionlaw26_Month_ok {w0 : World} (n_ : Int) {r : Int} (hF : pensionlaw26_Month n_ = some r) :
    Calls Tryz.prog 9 #[.int .i64 n_] w0 fun e w1 => e = .returned (.int .i64 r) ∧ Ext noG w0 w1 := by
  refine (Calls.start (P := Tryz.prog) (args := [.int .i64 n_]) (R := fun v w1 => v = .int .i64 r ∧ Ext noG w0 w1) (n := 6) (w := w0) Tryz.func9 rfl rfl (Nat.le_of_ble_eq_true rfl) (fun ρ hargs => ?_)).mono (fun e w1 ⟨v, he, hv, hE⟩ => ⟨hv ▸ he, hE⟩)
  have h0 := hargs 0 _ rfl
  have hW := Ext.refl noG w0
  rw [pensionlaw26_Month] at hF
  refine WP.seq (WP.rb mixed [[]] [[]] [(2, .int .i64 0)] (by kernel_rfl) ⟨aC rfl rfl (fun _ => rfl), trivial⟩ ?_)
  intro ρ1 w1 hN hf hr
  have h0 := (hr 0 rfl).trans h0
  have hW := hW.trans hN
  refine WP.seq ?_
  obtain ⟨z, hz, hF⟩ := obind hF
  refine WP.rb mixed [[], [0], [1], [2]] [[0], [], [], []] [(3, .int .i64 n_), (4, .int .i64 z), (5, .int .i64 (i64 (1155 + z))), (2, .int .i64 (i64 (1155 + z)))] (by kernel_rfl) ⟨mE rfl rfl h0,
 fun ρz wz hE hA _ ⟨u0, _⟩ => core_call rfl (call_args2 u0 rfl) cf_15 (pensionplain_Mod_ok  _ _  hz),
 fun ρz wz hE hA _ ⟨u1, _⟩ => core_val rfl rfl (o_add rfl u1 rfl),
 aU rfl rfl rfl, trivial⟩ ?_
  intro ρ2 w2 hN hf hr
  have h2 := hv hf 3 rfl rfl
  have hW := hW.trans hN
  refine WP.ret ?_
  show retQ Tryz.prog 6 Tryz.f9 (fun v w1 => v = .int .i64 r ∧ Ext noG w0 w1) .ret ρ2 w2
  obtain rfl := Option.some.inj hF
  exact res1 rfl (by decide) h2 ⟨rfl, hW⟩

set_option maxHeartbeats 4000000 in
theorem calendar_leap_ok {w0 : World} (year_ : Int) {r : Bool} (hF : calendar_leap year_ = some r) :
    Calls Tryz.prog 79 #[.int .i64 year_] w0 fun e w1 => e = .returned (.bool r) ∧ Ext noG w0 w1 := by
  refine (Calls.start (P := Tryz.prog) (args := [.int .i64 year_]) (R := fun v w1 => v = .bool r ∧ Ext noG w0 w1) (n := 16) (w := w0) Tryz.func79 rfl rfl (Nat.le_of_ble_eq_true rfl) (fun ρ hargs => ?_)).mono (fun e w1 ⟨v, he, hv, hE⟩ => ⟨hv ▸ he, hE⟩)
  have h0 := hargs 0 _ rfl
  have hW := Ext.refl noG w0
  rw [calendar_leap] at hF
  refine WP.seq (WP.rb mixed [[]] [[]] [(2, .bool false)] (by kernel_rfl) ⟨aC rfl rfl (fun _ => rfl), trivial⟩ ?_)
  intro ρ1 w1 hN hf hr
  have h0 := (hr 0 rfl).trans h0
  have hW := hW.trans hN
  refine WP.seq (WP.rb mixed [[], [0], [1], [2], [3], [3, 4], [3, 5], [3, 6], [7], [8], [8, 9], [8, 10], [8, 11], [12]] [[0], [], [], [], [0], [], [], [], [], [0], [], [], [], []] [(3, .int .i64 year_), (4, .int .i64 (Int.tmod year_ 4)), (5, .bool (Int.tmod year_ 4 == 0)), (6, .bool (Int.tmod year_ 4 == 0)), (7, gv ((Int.tmod year_ 4 == 0)) (.int .i64 year_)), (8, gv ((Int.tmod year_ 4 == 0)) (.int .i64 (Int.tmod year_ 100))), (9, gv ((Int.tmod year_ 4 == 0)) (.bool (Int.tmod year_ 100 != 0))), (10, .bool ((Int.tmod year_ 4 == 0) && (Int.tmod year_ 100 != 0))), (11, .bool ((Int.tmod year_ 4 == 0) && (Int.tmod year_ 100 != 0))), (12, gv (!((Int.tmod year_ 4 == 0) && (Int.tmod year_ 100 != 0))) (.int .i64 year_)), (13, gv (!((Int.tmod year_ 4 == 0) && (Int.tmod year_ 100 != 0))) (.int .i64 (Int.tmod year_ 400))), (14, gv (!((Int.tmod year_ 4 == 0) && (Int.tmod year_ 100 != 0))) (.bool (Int.tmod year_ 400 == 0))), (15, .bool (((Int.tmod year_ 4 == 0) && (Int.tmod year_ 100 != 0)) || (Int.tmod year_ 400 == 0))), (2, .bool (((Int.tmod year_ 4 == 0) && (Int.tmod year_ 100 != 0)) || (Int.tmod year_ 400 == 0)))] (by kernel_rfl) ⟨mE rfl rfl h0,
 fun ρz wz hE hA _ ⟨u0, _⟩ => core_val rfl rfl (o_rem u0 rfl (by decide) rfl),
 fun ρz wz hE hA _ ⟨u1, _⟩ => core_val rfl rfl (o_eql u1 rfl rfl),
 mU rfl rfl rfl,
 fun ρz wz hE hA ⟨e0, _⟩ ⟨u3, _⟩ => gIf rfl rfl (yT rfl u3) fun gc F hF => core_val rfl hF (o_move (e0.trans h0)),
 fun ρz wz hE hA _ ⟨u3, u4, _⟩ => gIf rfl rfl (yT rfl u3) fun gc F hF => core_val rfl hF (o_rem (gt gc u4) rfl (by decide) rfl),
 fun ρz wz hE hA _ ⟨u3, u5, _⟩ => gIf rfl rfl (yT rfl u3) fun gc F hF => core_val rfl hF (o_neq (gt gc u5) rfl rfl),
 fun ρz wz hE hA _ ⟨u3, u6, _⟩ => core_val rfl rfl (o_pick_and u3 u6 rfl),
 mU rfl rfl rfl,
 fun ρz wz hE hA ⟨e0, _⟩ ⟨u8, _⟩ => gIf rfl rfl (yF rfl u8) fun gc F hF => core_val rfl hF (o_move (e0.trans h0)),
 fun ρz wz hE hA _ ⟨u8, u9, _⟩ => gIf rfl rfl (yF rfl u8) fun gc F hF => core_val rfl hF (o_rem (gt gc u9) rfl (by decide) rfl),
 fun ρz wz hE hA _ ⟨u8, u10, _⟩ => gIf rfl rfl (yF rfl u8) fun gc F hF => core_val rfl hF (o_eql (gt gc u10) rfl rfl),
 fun ρz wz hE hA _ ⟨u8, u11, _⟩ => core_val rfl rfl (o_pick_or u8 rfl u11),
 aU rfl rfl rfl, trivial⟩ ?_)
  intro ρ2 w2 hN hf hr
  have h2 := hv hf 13 rfl rfl
  have hW := hW.trans hN
  refine WP.ret ?_
  show retQ Tryz.prog 16 Tryz.f79 (fun v w1 => v = .bool r ∧ Ext noG w0 w1) .ret ρ2 w2
  obtain rfl := Option.some.inj hF
  exact res1 rfl (by decide) h2 ⟨rfl, hW⟩

set_option maxHeartbeats 4000000 in
theorem calendar_monthLength_ok {w0 : World} (year_ : Int) (month_ : Int) {r : Int} (hF : calendar_monthLength year_ month_ = some r) :
    Calls Tryz.prog 41 #[.int .i64 year_, .int .i64 month_] w0 fun e w1 => e = .returned (.int .i64 r) ∧ Ext noG w0 w1 := by
  refine (Calls.start (P := Tryz.prog) (args := [.int .i64 year_, .int .i64 month_]) (R := fun v w1 => v = .int .i64 r ∧ Ext noG w0 w1) (n := 17) (w := w0) Tryz.func41 rfl rfl (Nat.le_of_ble_eq_true rfl) (fun ρ hargs => ?_)).mono (fun e w1 ⟨v, he, hv, hE⟩ => ⟨hv ▸ he, hE⟩)
  have h0 := hargs 0 _ rfl
  have h1 := hargs 1 _ rfl
  have hW := Ext.refl noG w0
  rw [calendar_monthLength] at hF
  refine WP.seq (WP.rb mixed [[]] [[]] [(4, .int .i64 0)] (by kernel_rfl) ⟨aC rfl rfl (fun _ => rfl), trivial⟩ ?_)
  intro ρ1 w1 hN hf hr
  obtain ⟨h0, h1⟩ := k2 hr h0 h1 rfl
  have hW := hW.trans hN
  refine WP.seq (WP.region mixed [[], [], [0, 1]] [[], [], [0, 1]] [[], [], []] [2] [(1, 2)] [val 6 (arrV (fun x : Int => [Value.int .i64 x]) [31, 28, 31, 30, 31, 30, 31, 31, 30, 31, 30, 31]), (5, fun u wz => ∃ b, u = .pointer (some ⟨b, 0, none⟩) ∧ w1.heap.size ≤ b ∧ Mb wz b 115 ((List.replicate 12 0).flatMap (fun x : Int => [Value.int .i64 x]))), (5, fun u wz => ∃ b, u = .pointer (some ⟨b, 0, none⟩) ∧ w1.heap.size ≤ b ∧ Mb wz b 115 ([31, 28, 31, 30, 31, 30, 31, 31, 30, 31, 30, 31].flatMap (fun x : Int => [Value.int .i64 x])))] (fun b => w1.heap.size ≤ b) (by kernel_rfl) ⟨sV, fun _ _ _ hE ⟨b, hb, hs, hM⟩ => ⟨b, hb, hs, hM.exn hE⟩, fun _ _ _ hE ⟨b, hb, hs, hM⟩ => ⟨b, hb, hs, hM.exn hE⟩, trivial⟩ ⟨fun ρz wz hE hA _ _ => core_val rfl rfl (o_build rfl (by kernel_rfl)),
 fun ρz wz hE hA _ _ => core_new rfl rfl hE (o_alloc (al_115 _)),
 fun ρz wz hE hA _ ⟨u0, u1, _⟩ => core_storeNew rfl rfl rfl rfl u0 u1 (fun a w => (st_115 _ (by simp)) a w) rfl (one_115 _), trivial⟩ ?_)
  intro ρ2 w2 hE hN hf hr
  have hN := hE.fresh
  obtain ⟨b5_, h5, hge_b5_, Hb_b5_⟩ := hf 2 rfl
  obtain ⟨h0, h1⟩ := k2 hr h0 h1 rfl
  have hB_b5_ : w0.heap.size ≤ b5_ := Nat.le_trans hW.size hge_b5_
  have hW := hW.trans hN
  have hlen_b5_ : [31, 28, 31, 30, 31, 30, 31, 31, 30, 31, 30, 31].length = 12 := by simp
  refine WP.seq (WP.seq ?_)
  obtain ⟨c, hc, hF⟩ := obind hF
  obtain ⟨z, hz, hc⟩ := andB hc
  have hc := andE hc
  refine WP.rb mixed [[], [0], [1], [2], [2, 3], [2, 4]] [[1], [], [], [0], [], []] [(7, .int .i64 month_), (8, .bool (month_ == 2)), (9, .bool (month_ == 2)), (10, gv ((month_ == 2)) (.int .i64 year_)), (11, gv ((month_ == 2)) (.bool z)), (12, .bool c)] (by kernel_rfl) ⟨mE rfl rfl h1,
 fun ρz wz hE hA _ ⟨u0, _⟩ => core_val rfl rfl (o_eql u0 rfl rfl),
 mU rfl rfl rfl,
 fun ρz wz hE hA ⟨e0, _⟩ ⟨u2, _⟩ => gIf rfl rfl (yT rfl u2) fun gc F hF => core_val rfl hF (o_move (e0.trans h0)),
 fun ρz wz hE hA _ ⟨u2, u3, _⟩ => gIf rfl rfl (yT rfl u2) fun gc F hF => core_call hF (call_args1 (gt gc u3)) cf_79 (calendar_leap_ok  _  (hz gc)),
 fun ρz wz hE hA _ ⟨u2, u4, _⟩ => core_valE rfl rfl (congrArg Value.bool hc) (o_pick_and u2 u4 rfl), trivial⟩ ?_
  intro ρ3 w3 hN hf hr
  have h12 := hv hf 5 rfl rfl
  obtain ⟨h1, h5⟩ := k2 hr h1 h5 rfl
  have Hb_b5_n := Hb_b5_.exn hN
  have hW := hW.trans hN
  have Hb_b5_ := Hb_b5_n
  refine WP.cond rfl h12 (fun hb => ?_) (fun hb => ?_)
  · have hF := (if_pos hb).symm.trans hF
    refine WP.seq (WP.rb mixed [[]] [[]] [(4, .int .i64 29)] (by kernel_rfl) ⟨aC rfl rfl (fun _ => rfl), trivial⟩ ?_)
    intro ρ4 w4 hN hf hr
    have h4 := hv hf 0 rfl rfl
    have hW := hW.trans hN
    refine WP.ret ?_
    show retQ Tryz.prog 17 Tryz.f41 (fun v w1 => v = .int .i64 r ∧ Ext noG w0 w1) .ret ρ4 w4
    obtain rfl := Option.some.inj hF
    exact res1 rfl (by decide) h4 ⟨rfl, hW⟩
  have hF := (if_neg (Bool.eq_false_iff.1 hb)).symm.trans hF
  refine WP.skip (WP.seq ?_)
  obtain ⟨y, hy, hF⟩ := obind hF
  refine WP.rb mixed [[], [0], [1], [2], [3]] [[1], [], [5], [], []] [(13, .int .i64 month_), (14, .int .i64 (i64 (month_ - 1))), (15, .pointer (some ((⟨b5_, 0, none⟩ : Addr).add (Int.toNat (i64 (month_ - 1)) * 1)))), (16, .int .i64 y), (4, .int .i64 y)] (by kernel_rfl) ⟨mE rfl rfl h1,
 fun ρz wz hE hA _ ⟨u0, _⟩ => core_val rfl rfl (o_sub u0 rfl rfl),
 fun ρz wz hE hA ⟨e5, _⟩ ⟨u1, _⟩ => core_val rfl rfl (o_indexAddr (e5.trans h5) u1 (ia_115 (arr_lt hy (by first | exact hlen_b5_ | simp)))),
 fun ρz wz hE hA _ ⟨u2, _⟩ => core_val rfl rfl (o_load u2 (run_load1 (lr_3 _ _) (CA.elem (cells := fun x : Int => [Value.int .i64 x]) 1 (fun _ => rfl) ((Hb_b5_.exn (hA rfl)).ca) hy))),
 aU rfl rfl rfl, trivial⟩ ?_
  intro ρ5 w5 hN hf hr
  have h4 := hv hf 4 rfl rfl
  have hW := hW.trans hN
  refine WP.ret ?_
  show retQ Tryz.prog 17 Tryz.f41 (fun v w1 => v = .int .i64 r ∧ Ext noG w0 w1) .ret ρ5 w5
  obtain rfl := Option.some.inj hF
  exact res1 rfl (by decide) h4 ⟨rfl, hW⟩

set_option maxHeartbeats 4000000 in
theorem calendar_yearStart_ok {w0 : World} (year_ : Int) {r : Int} (hF : calendar_yearStart year_ = some r) :
    Calls Tryz.prog 42 #[.int .i64 year_] w0 fun e w1 => e = .returned (.int .i64 r) ∧ Ext noG w0 w1 := by
  refine (Calls.start (P := Tryz.prog) (args := [.int .i64 year_]) (R := fun v w1 => v = .int .i64 r ∧ Ext noG w0 w1) (n := 17) (w := w0) Tryz.func42 rfl rfl (Nat.le_of_ble_eq_true rfl) (fun ρ hargs => ?_)).mono (fun e w1 ⟨v, he, hv, hE⟩ => ⟨hv ▸ he, hE⟩)
  have h0 := hargs 0 _ rfl
  have hW := Ext.refl noG w0
  rw [calendar_yearStart] at hF
  refine WP.seq (WP.rb mixed [[]] [[]] [(2, .int .i64 0)] (by kernel_rfl) ⟨aC rfl rfl (fun _ => rfl), trivial⟩ ?_)
  intro ρ1 w1 hN hf hr
  have h0 := (hr 0 rfl).trans h0
  have hW := hW.trans hN
  refine WP.seq (WP.rb mixed [[], [0], [1]] [[0], [], []] [(5, .int .i64 year_), (6, .int .i64 (i64 (year_ - 1900))), (3, .int .i64 (i64 (year_ - 1900)))] (by kernel_rfl) ⟨mE rfl rfl h0,
 fun ρz wz hE hA _ ⟨u0, _⟩ => core_val rfl rfl (o_sub u0 rfl rfl),
 aU rfl rfl rfl, trivial⟩ ?_)
  intro ρ2 w2 hN hf hr
  have h3 := hv hf 2 rfl rfl
  have hW := hW.trans hN
  refine WP.seq (WP.rb mixed [[], [0], [1]] [[3], [], []] [(7, .int .i64 (i64 (year_ - 1900))), (8, .int .i64 (i64 (365 * (i64 (year_ - 1900))))), (4, .int .i64 (i64 (365 * (i64 (year_ - 1900)))))] (by kernel_rfl) ⟨mE rfl rfl h3,
 fun ρz wz hE hA _ ⟨u0, _⟩ => core_val rfl rfl (o_mul rfl u0 rfl),
 aU rfl rfl rfl, trivial⟩ ?_)
  intro ρ3 w3 hN hf hr
  have h4 := hv hf 2 rfl rfl
  have h3 := (hr 3 rfl).trans h3
  have hW := hW.trans hN
  refine WP.seqJ (fun ρ w => ∃ start_ : Int, ρ 4 = .int .i64 start_ ∧ Ext noG w0 w ∧ calendar_yearStart_j start_ = some r) ?_ ?_
  · refine WP.seq (WP.rb mixed [[], [0]] [[3], []] [(9, .int .i64 (i64 (year_ - 1900))), (10, .bool (decide (0 < i64 (year_ - 1900))))] (by kernel_rfl) ⟨mE rfl rfl h3,
 fun ρz wz hE hA _ ⟨u0, _⟩ => core_val rfl rfl (o_gtr u0 rfl rfl), trivial⟩ ?_)
    intro ρ6 w6 hN hf hr
    have h10 := hv hf 1 rfl rfl
    obtain ⟨h3, h4⟩ := k2 hr h3 h4 rfl
    have hW := hW.trans hN
    refine WP.cond rfl h10 (fun hb => ?_) (fun hb => ?_)
    · have hF := (if_pos hb).symm.trans hF
      refine WP.rv mixed [[], [], [1], [2], [0, 3], [0, 4]] [[], [], [1], [2], [0, 3], [4]] [[4], [3], [], [], [], []] [(11, .int .i64 (i64 (365 * (i64 (year_ - 1900))))), (12, .int .i64 (i64 (year_ - 1900))), (13, .int .i64 (i64 (i64 (year_ - 1900) - 1))), (14, .int .i64 (i64 (Int.tdiv (i64 (i64 (year_ - 1900) - 1)) 4))), (15, .int .i64 (i64 (i64 (365 * (i64 (year_ - 1900))) + i64 (Int.tdiv (i64 (i64 (year_ - 1900) - 1)) 4)))), (4, .int .i64 (i64 (i64 (365 * (i64 (year_ - 1900))) + i64 (Int.tdiv (i64 (i64 (year_ - 1900) - 1)) 4))))] (by kernel_rfl) ⟨mE rfl rfl h4,
 mE rfl rfl h3,
 fun ρz wz hE hA _ ⟨u1, _⟩ => core_val rfl rfl (o_sub u1 rfl rfl),
 fun ρz wz hE hA _ ⟨u2, _⟩ => core_val rfl rfl (o_quo u2 rfl (by decide) rfl),
 fun ρz wz hE hA _ ⟨u0, u3, _⟩ => core_val rfl rfl (o_add u0 u3 rfl),
 aU rfl rfl rfl, trivial⟩ ?_
      intro ρ7 w7 hN hf hr
      have h4 := hv hf 5 rfl rfl
      have hW := hW.trans hN
      exact ⟨i64 (i64 (365 * (i64 (year_ - 1900))) + i64 (Int.tdiv (i64 (i64 (year_ - 1900) - 1)) 4)), h4, hW, hF⟩
    have hF := (if_neg (Bool.eq_false_iff.1 hb)).symm.trans hF
    refine WP.skip ?_
    exact ⟨i64 (365 * (i64 (year_ - 1900))), h4, hW, hF⟩
  rintro ρ4 w4 ⟨start_, h4, hW, hF⟩
  rw [calendar_yearStart_j] at hF
  refine WP.seq (WP.rb mixed [[], [0]] [[4], []] [(16, .int .i64 start_), (2, .int .i64 start_)] (by kernel_rfl) ⟨mE rfl rfl h4,
 aU rfl rfl rfl, trivial⟩ ?_)
  intro ρ5 w5 hN hf hr
  have h2 := hv hf 1 rfl rfl
  have hW := hW.trans hN
  refine WP.ret ?_
  show retQ Tryz.prog 17 Tryz.f42 (fun v w1 => v = .int .i64 r ∧ Ext noG w0 w1) .ret ρ5 w5
  obtain rfl := Option.some.inj hF
  exact res1 rfl (by decide) h2 ⟨rfl, hW⟩

set_option maxHeartbeats 4000000 in
theorem calendar_Day_ok {w0 : World} (year_ : Int) (month_ : Int) (dom_ : Int) {r : Int × Bool} (hF : calendar_Day year_ month_ dom_ = some r) :
    Calls Tryz.prog 19 #[.int .i64 year_, .int .i64 month_, .int .i64 dom_] w0 fun e w1 => e = .returned (.tuple #[.int .i64 r.1, .bool r.2]) ∧ Ext noG w0 w1 := by
  refine (Calls.start (P := Tryz.prog) (args := [.int .i64 year_, .int .i64 month_, .int .i64 dom_]) (R := fun v w1 => v = .tuple #[.int .i64 r.1, .bool r.2] ∧ Ext noG w0 w1) (n := 51) (w := w0) Tryz.func19 rfl rfl (Nat.le_of_ble_eq_true rfl) (fun ρ hargs => ?_)).mono (fun e w1 ⟨v, he, hv, hE⟩ => ⟨hv ▸ he, hE⟩)
  have h0 := hargs 0 _ rfl
  have h1 := hargs 1 _ rfl
  have h2 := hargs 2 _ rfl
  have hW := Ext.refl noG w0
  rw [calendar_Day] at hF
  refine WP.seq (WP.rb mixed [[], []] [[], []] [(6, .int .i64 0), (7, .bool false)] (by kernel_rfl) ⟨aC rfl rfl (fun _ => rfl),
 aC rfl rfl (fun _ => rfl), trivial⟩ ?_)
  intro ρ1 w1 hN hf hr
  obtain ⟨h0, h1, h2⟩ := k3 hr h0 h1 h2 rfl
  have hW := hW.trans hN
  refine WP.seq (WP.seq ?_)
  obtain ⟨c, hc, hF⟩ := obind hF
  obtain ⟨z, hz, hc⟩ := orB hc
  have hc := orE hc
  refine WP.rb mixed [[], [0], [1], [2], [2, 3], [2, 4], [5], [6], [6, 7], [6, 8], [9], [10], [10, 11], [10, 12], [13], [14], [14, 15], [14, 16], [17], [18], [18], [18], [18, 20, 21], [18, 19, 22], [18, 23]] [[0], [], [], [0], [], [], [], [1], [], [], [], [1], [], [], [], [2], [], [], [], [2], [0], [1], [], [], []] [(10, .int .i64 year_), (11, .bool (decide (year_ < 1900))), (12, .bool (decide (year_ < 1900))), (13, gv (!(decide (year_ < 1900))) (.int .i64 year_)), (14, gv (!(decide (year_ < 1900))) (.bool (decide (2099 < year_)))), (15, .bool (decide (year_ < 1900) || decide (2099 < year_))), (16, .bool (decide (year_ < 1900) || decide (2099 < year_))), (17, gv (!(decide (year_ < 1900) || decide (2099 < year_))) (.int .i64 month_)), (18, gv (!(decide (year_ < 1900) || decide (2099 < year_))) (.bool (decide (month_ < 1)))), (19, .bool ((decide (year_ < 1900) || decide (2099 < year_)) || decide (month_ < 1))), (20, .bool ((decide (year_ < 1900) || decide (2099 < year_)) || decide (month_ < 1))), (21, gv (!((decide (year_ < 1900) || decide (2099 < year_)) || decide (month_ < 1))) (.int .i64 month_)), (22, gv (!((decide (year_ < 1900) || decide (2099 < year_)) || decide (month_ < 1))) (.bool (decide (12 < month_)))), (23, .bool (((decide (year_ < 1900) || decide (2099 < year_)) || decide (month_ < 1)) || decide (12 < month_))), (24, .bool (((decide (year_ < 1900) || decide (2099 < year_)) || decide (month_ < 1)) || decide (12 < month_))), (25, gv (!(((decide (year_ < 1900) || decide (2099 < year_)) || decide (month_ < 1)) || decide (12 < month_))) (.int .i64 dom_)), (26, gv (!(((decide (year_ < 1900) || decide (2099 < year_)) || decide (month_ < 1)) || decide (12 < month_))) (.bool (decide (dom_ < 1)))), (27, .bool ((((decide (year_ < 1900) || decide (2099 < year_)) || decide (month_ < 1)) || decide (12 < month_)) || decide (dom_ < 1))), (28, .bool ((((decide (year_ < 1900) || decide (2099 < year_)) || decide (month_ < 1)) || decide (12 < month_)) || decide (dom_ < 1))), (29, gv (!((((decide (year_ < 1900) || decide (2099 < year_)) || decide (month_ < 1)) || decide (12 < month_)) || decide (dom_ < 1))) (.int .i64 dom_)), (30, gv (!((((decide (year_ < 1900) || decide (2099 < year_)) || decide (month_ < 1)) || decide (12 < month_)) || decide (dom_ < 1))) (.int .i64 year_)), (31, gv (!((((decide (year_ < 1900) || decide (2099 < year_)) || decide (month_ < 1)) || decide (12 < month_)) || decide (dom_ < 1))) (.int .i64 month_)), (32, gv (!((((decide (year_ < 1900) || decide (2099 < year_)) || decide (month_ < 1)) || decide (12 < month_)) || decide (dom_ < 1))) (.int .i64 z)), (33, gv (!((((decide (year_ < 1900) || decide (2099 < year_)) || decide (month_ < 1)) || decide (12 < month_)) || decide (dom_ < 1))) (.bool (decide (z < dom_)))), (34, .bool c)] (by kernel_rfl) ⟨mE rfl rfl h0,
 fun ρz wz hE hA _ ⟨u0, _⟩ => core_val rfl rfl (o_lss u0 rfl rfl),
 mU rfl rfl rfl,
 fun ρz wz hE hA ⟨e0, _⟩ ⟨u2, _⟩ => gIf rfl rfl (yF rfl u2) fun gc F hF => core_val rfl hF (o_move (e0.trans h0)),
 fun ρz wz hE hA _ ⟨u2, u3, _⟩ => gIf rfl rfl (yF rfl u2) fun gc F hF => core_val rfl hF (o_gtr (gt gc u3) rfl rfl),
 fun ρz wz hE hA _ ⟨u2, u4, _⟩ => core_val rfl rfl (o_pick_or u2 rfl u4),
 mU rfl rfl rfl,
 fun ρz wz hE hA ⟨e1, _⟩ ⟨u6, _⟩ => gIf rfl rfl (yF rfl u6) fun gc F hF => core_val rfl hF (o_move (e1.trans h1)),
 fun ρz wz hE hA _ ⟨u6, u7, _⟩ => gIf rfl rfl (yF rfl u6) fun gc F hF => core_val rfl hF (o_lss (gt gc u7) rfl rfl),
 fun ρz wz hE hA _ ⟨u6, u8, _⟩ => core_val rfl rfl (o_pick_or u6 rfl u8),
 mU rfl rfl rfl,
 fun ρz wz hE hA ⟨e1, _⟩ ⟨u10, _⟩ => gIf rfl rfl (yF rfl u10) fun gc F hF => core_val rfl hF (o_move (e1.trans h1)),
 fun ρz wz hE hA _ ⟨u10, u11, _⟩ => gIf rfl rfl (yF rfl u10) fun gc F hF => core_val rfl hF (o_gtr (gt gc u11) rfl rfl),
 fun ρz wz hE hA _ ⟨u10, u12, _⟩ => core_val rfl rfl (o_pick_or u10 rfl u12),
 mU rfl rfl rfl,
 fun ρz wz hE hA ⟨e2, _⟩ ⟨u14, _⟩ => gIf rfl rfl (yF rfl u14) fun gc F hF => core_val rfl hF (o_move (e2.trans h2)),
 fun ρz wz hE hA _ ⟨u14, u15, _⟩ => gIf rfl rfl (yF rfl u14) fun gc F hF => core_val rfl hF (o_lss (gt gc u15) rfl rfl),
 fun ρz wz hE hA _ ⟨u14, u16, _⟩ => core_val rfl rfl (o_pick_or u14 rfl u16),
 mU rfl rfl rfl,
 fun ρz wz hE hA ⟨e2, _⟩ ⟨u18, _⟩ => gIf rfl rfl (yF rfl u18) fun gc F hF => core_val rfl hF (o_move (e2.trans h2)),
 fun ρz wz hE hA ⟨e0, _⟩ ⟨u18, _⟩ => gIf rfl rfl (yF rfl u18) fun gc F hF => core_val rfl hF (o_move (e0.trans h0)),
 fun ρz wz hE hA ⟨e1, _⟩ ⟨u18, _⟩ => gIf rfl rfl (yF rfl u18) fun gc F hF => core_val rfl hF (o_move (e1.trans h1)),
 fun ρz wz hE hA _ ⟨u18, u20, u21, _⟩ => gIf rfl rfl (yF rfl u18) fun gc F hF => core_call hF (call_args2 (gt gc u20) (gt gc u21)) cf_41 (calendar_monthLength_ok  _ _  (hz gc)),
 fun ρz wz hE hA _ ⟨u18, u19, u22, _⟩ => gIf rfl rfl (yF rfl u18) fun gc F hF => core_val rfl hF (o_gtr (gt gc u19) (gt gc u22) rfl),
 fun ρz wz hE hA _ ⟨u18, u23, _⟩ => core_valE rfl rfl (congrArg Value.bool hc) (o_pick_or u18 rfl u23), trivial⟩ ?_
  intro ρ2 w2 hN hf hr
  have h34 := hv hf 24 rfl rfl
  obtain ⟨h0, h1, h2⟩ := k3 hr h0 h1 h2 rfl
  have hW := hW.trans hN
  refine WP.cond rfl h34 (fun hb => ?_) (fun hb => ?_)
  · have hF := (if_pos hb).symm.trans hF
    refine WP.seq (WP.rb mixed [[], []] [[], []] [(6, .int .i64 0), (7, .bool false)] (by kernel_rfl) ⟨aC rfl rfl (fun _ => rfl),
 aC rfl rfl (fun _ => rfl), trivial⟩ ?_)
    intro ρ3 w3 hN hf hr
    have h6 := hv hf 0 rfl rfl
    have h7 := hv hf 1 rfl rfl
    have hW := hW.trans hN
    refine WP.ret ?_
    show retQ Tryz.prog 51 Tryz.f19 (fun v w1 => v = .tuple #[.int .i64 r.1, .bool r.2] ∧ Ext noG w0 w1) .ret ρ3 w3
    obtain rfl := Option.some.inj hF
    exact res2 rfl (by decide) (by decide) h6 h7 ⟨rfl, hW⟩
  have hF := (if_neg (Bool.eq_false_iff.1 hb)).symm.trans hF
  refine WP.skip (WP.seq ?_)
  obtain ⟨z2, hz2, hF⟩ := obind hF
  refine WP.rb mixed [[], [0], [], [1, 2], [3], [4]] [[0], [], [2], [], [], []] [(35, .int .i64 year_), (36, .int .i64 z2), (37, .int .i64 dom_), (38, .int .i64 (i64 (z2 + dom_))), (39, .int .i64 (i64 (i64 (z2 + dom_) - 1))), (8, .int .i64 (i64 (i64 (z2 + dom_) - 1)))] (by kernel_rfl) ⟨mE rfl rfl h0,
 fun ρz wz hE hA _ ⟨u0, _⟩ => core_call rfl (call_args1 u0) cf_42 (calendar_yearStart_ok  _  hz2),
 mE rfl rfl h2,
 fun ρz wz hE hA _ ⟨u1, u2, _⟩ => core_val rfl rfl (o_add u1 u2 rfl),
 fun ρz wz hE hA _ ⟨u3, _⟩ => core_val rfl rfl (o_sub u3 rfl rfl),
 aU rfl rfl rfl, trivial⟩ ?_
  intro ρ4 w4 hN hf hr
  have h8 := hv hf 5 rfl rfl
  obtain ⟨h0, h1⟩ := k2 hr h0 h1 rfl
  have hW := hW.trans hN
  refine WP.seq (WP.seq (WP.rb mixed [[]] [[]] [(9, .int .i64 1)] (by kernel_rfl) ⟨aC rfl rfl (fun _ => rfl), trivial⟩ ?_))
  intro ρ5 w5 hN hf hr
  have h9 := hv hf 0 rfl rfl
  obtain ⟨h0, h1, h8⟩ := k3 hr h0 h1 h8 rfl
  have hW := hW.trans hN
  refine WP.block (WP.loop (fun k_ ρ w => ∃ day_ : Int, ∃ m_ : Int, ρ 0 = .int .i64 year_ ∧ ρ 1 = .int .i64 month_ ∧ ρ 8 = .int .i64 day_ ∧ ρ 9 = .int .i64 m_ ∧ Ext noG w0 w ∧ loopC k_ (calendar_Day_l year_ month_) (day_, m_) = some r) FU ⟨i64 (i64 (z2 + dom_) - 1), 1, h0, h1, h8, h9, hW, hF⟩ (fun _ _ h => by obtain ⟨_, _, _, _, _, _, _, h⟩ := h; cases h) ?_)
  rintro k_ ρ6 w6 ⟨day_, m_, h0, h1, h8, h9, hW, hF⟩
  have hF : calendar_Day_l year_ month_ (loopC k_ (calendar_Day_l year_ month_)) (day_, m_) = some r := hF
  generalize hrec_ : loopC k_ (calendar_Day_l year_ month_) = rec_ at hF
  rw [calendar_Day_l] at hF
  refine WP.seq (WP.seq (WP.rb mixed [[], [], [0, 1]] [[9], [1], []] [(40, .int .i64 m_), (41, .int .i64 month_), (42, .bool (decide (m_ < month_)))] (by kernel_rfl) ⟨mE rfl rfl h9,
 mE rfl rfl h1,
 fun ρz wz hE hA _ ⟨u0, u1, _⟩ => core_val rfl rfl (o_lss u0 u1 rfl), trivial⟩ ?_))
  intro ρ7 w7 hN hf hr
  have h42 := hv hf 2 rfl rfl
  obtain ⟨h0, h1, h8, h9⟩ := k4 hr h0 h1 h8 h9 rfl
  have hW := hW.trans hN
  refine WP.cond rfl h42 (fun hb => ?_) (fun hb => ?_)
  · have hF := (if_pos hb).symm.trans hF
    refine WP.skip (WP.seq (WP.block ?_))
    obtain ⟨z3, hz3, hF⟩ := obind hF
    refine WP.rv mixed [[], [], [], [1, 2], [0, 3], [0, 4]] [[], [], [], [1, 2], [0, 3], [4]] [[8], [0], [9], [], [], []] [(45, .int .i64 day_), (46, .int .i64 year_), (47, .int .i64 m_), (48, .int .i64 z3), (49, .int .i64 (i64 (day_ + z3))), (8, .int .i64 (i64 (day_ + z3)))] (by kernel_rfl) ⟨mE rfl rfl h8,
 mE rfl rfl h0,
 mE rfl rfl h9,
 fun ρz wz hE hA _ ⟨u1, u2, _⟩ => core_call rfl (call_args2 u1 u2) cf_41 (calendar_monthLength_ok  _ _  hz3),
 fun ρz wz hE hA _ ⟨u0, u3, _⟩ => core_val rfl rfl (o_add u0 u3 rfl),
 aU rfl rfl rfl, trivial⟩ ?_
    intro ρ8 w8 hN hf hr
    have h8 := hv hf 5 rfl rfl
    obtain ⟨h0, h1, h9⟩ := k3 hr h0 h1 h9 rfl
    have hW := hW.trans hN
    refine WP.rv mixed [[], [0], [0, 1]] [[], [0], [1]] [[9], [], []] [(43, .int .i64 m_), (44, .int .i64 (i64 (m_ + 1))), (9, .int .i64 (i64 (m_ + 1)))] (by kernel_rfl) ⟨mE rfl rfl h9,
 fun ρz wz hE hA _ ⟨u0, _⟩ => core_val rfl rfl (o_add u0 rfl rfl),
 aU rfl rfl rfl, trivial⟩ ?_
    intro ρ9 w9 hN hf hr
    have h9 := hv hf 2 rfl rfl
    obtain ⟨h0, h1, h8⟩ := k3 hr h0 h1 h8 rfl
    have hW := hW.trans hN
    exact ⟨i64 (day_ + z3), i64 (m_ + 1), h0, h1, h8, h9, hW, (by first | exact hF | (rw [hrec_]; exact hF))⟩
  have hF := (if_neg (Bool.eq_false_iff.1 hb)).symm.trans hF
  refine WP.exit (thenQ_exit (thenQ_exit (blockQ_hit (WP.seq (WP.rb mixed [[], [0], []] [[8], [], []] [(50, .int .i64 day_), (6, .int .i64 day_), (7, .bool true)] (by kernel_rfl) ⟨mE rfl rfl h8,
 aU rfl rfl rfl,
 aC rfl rfl (fun _ => rfl), trivial⟩ ?_)))))
  intro ρ10 w10 hN hf hr
  have h6 := hv hf 1 rfl rfl
  have h7 := hv hf 2 rfl rfl
  have hW := hW.trans hN
  refine WP.ret ?_
  show retQ Tryz.prog 51 Tryz.f19 (fun v w1 => v = .tuple #[.int .i64 r.1, .bool r.2] ∧ Ext noG w0 w1) .ret ρ10 w10
  obtain rfl := Option.some.inj hF
  exact res2 rfl (by decide) (by decide) h6 h7 ⟨rfl, hW⟩

set_option maxHeartbeats 4000000 in
theorem calendar_Valid_ok {w0 : World} (day_ : Int) {r : Bool} (hF : calendar_Valid day_ = some r) :
    Calls Tryz.prog 126 #[.int .i64 day_] w0 fun e w1 => e = .returned (.bool r) ∧ Ext noG w0 w1 := by
  refine (Calls.start (P := Tryz.prog) (args := [.int .i64 day_]) (R := fun v w1 => v = .bool r ∧ Ext noG w0 w1) (n := 9) (w := w0) Tryz.func126 rfl rfl (Nat.le_of_ble_eq_true rfl) (fun ρ hargs => ?_)).mono (fun e w1 ⟨v, he, hv, hE⟩ => ⟨hv ▸ he, hE⟩)
  have h0 := hargs 0 _ rfl
  have hW := Ext.refl noG w0
  rw [calendar_Valid] at hF
  refine WP.seq (WP.rb mixed [[]] [[]] [(2, .bool false)] (by kernel_rfl) ⟨aC rfl rfl (fun _ => rfl), trivial⟩ ?_)
  intro ρ1 w1 hN hf hr
  have h0 := (hr 0 rfl).trans h0
  have hW := hW.trans hN
  refine WP.seq (WP.rb mixed [[], [0], [1], [2], [2, 3], [2, 4], [5]] [[0], [], [], [0], [], [], []] [(3, .int .i64 day_), (4, .bool (decide (0 ≤ day_))), (5, .bool (decide (0 ≤ day_))), (6, gv (decide (0 ≤ day_)) (.int .i64 day_)), (7, gv (decide (0 ≤ day_)) (.bool (decide (day_ ≤ 73048)))), (8, .bool (decide (0 ≤ day_) && decide (day_ ≤ 73048))), (2, .bool (decide (0 ≤ day_) && decide (day_ ≤ 73048)))] (by kernel_rfl) ⟨mE rfl rfl h0,
 fun ρz wz hE hA _ ⟨u0, _⟩ => core_val rfl rfl (o_geq u0 rfl rfl),
 mU rfl rfl rfl,
 fun ρz wz hE hA ⟨e0, _⟩ ⟨u2, _⟩ => gIf rfl rfl (yT rfl u2) fun gc F hF => core_val rfl hF (o_move (e0.trans h0)),
 fun ρz wz hE hA _ ⟨u2, u3, _⟩ => gIf rfl rfl (yT rfl u2) fun gc F hF => core_val rfl hF (o_leq (gt gc u3) rfl rfl),
 fun ρz wz hE hA _ ⟨u2, u4, _⟩ => core_val rfl rfl (o_pick_and u2 u4 rfl),
 aU rfl rfl rfl, trivial⟩ ?_)
  intro ρ2 w2 hN hf hr
  have h2 := hv hf 6 rfl rfl
  have hW := hW.trans hN
  refine WP.ret ?_
  show retQ Tryz.prog 9 Tryz.f126 (fun v w1 => v = .bool r ∧ Ext noG w0 w1) .ret ρ2 w2
  obtain rfl := Option.some.inj hF
  exact res1 rfl (by decide) h2 ⟨rfl, hW⟩

set_option maxHeartbeats 4000000 in
theorem calendar_yearLength_ok {w0 : World} (year_ : Int) {r : Int} (hF : calendar_yearLength year_ = some r) :
    Calls Tryz.prog 127 #[.int .i64 year_] w0 fun e w1 => e = .returned (.int .i64 r) ∧ Ext noG w0 w1 := by
  refine (Calls.start (P := Tryz.prog) (args := [.int .i64 year_]) (R := fun v w1 => v = .int .i64 r ∧ Ext noG w0 w1) (n := 5) (w := w0) Tryz.func127 rfl rfl (Nat.le_of_ble_eq_true rfl) (fun ρ hargs => ?_)).mono (fun e w1 ⟨v, he, hv, hE⟩ => ⟨hv ▸ he, hE⟩)
  have h0 := hargs 0 _ rfl
  have hW := Ext.refl noG w0
  rw [calendar_yearLength] at hF
  refine WP.seq (WP.rb mixed [[]] [[]] [(2, .int .i64 0)] (by kernel_rfl) ⟨aC rfl rfl (fun _ => rfl), trivial⟩ ?_)
  intro ρ1 w1 hN hf hr
  have h0 := (hr 0 rfl).trans h0
  have hW := hW.trans hN
  refine WP.seq (WP.seq ?_)
  obtain ⟨z, hz, hF⟩ := obind hF
  refine WP.rb mixed [[], [0]] [[0], []] [(3, .int .i64 year_), (4, .bool z)] (by kernel_rfl) ⟨mE rfl rfl h0,
 fun ρz wz hE hA _ ⟨u0, _⟩ => core_call rfl (call_args1 u0) cf_79 (calendar_leap_ok  _  hz), trivial⟩ ?_
  intro ρ2 w2 hN hf hr
  have h4 := hv hf 1 rfl rfl
  have hW := hW.trans hN
  refine WP.cond rfl h4 (fun hb => ?_) (fun hb => ?_)
  · have hF := (if_pos hb).symm.trans hF
    refine WP.seq (WP.rb mixed [[]] [[]] [(2, .int .i64 366)] (by kernel_rfl) ⟨aC rfl rfl (fun _ => rfl), trivial⟩ ?_)
    intro ρ3 w3 hN hf hr
    have h2 := hv hf 0 rfl rfl
    have hW := hW.trans hN
    refine WP.ret ?_
    show retQ Tryz.prog 5 Tryz.f127 (fun v w1 => v = .int .i64 r ∧ Ext noG w0 w1) .ret ρ3 w3
    obtain rfl := Option.some.inj hF
    exact res1 rfl (by decide) h2 ⟨rfl, hW⟩
  have hF := (if_neg (Bool.eq_false_iff.1 hb)).symm.trans hF
  refine WP.skip (WP.seq (WP.rb mixed [[]] [[]] [(2, .int .i64 365)] (by kernel_rfl) ⟨aC rfl rfl (fun _ => rfl), trivial⟩ ?_))
  intro ρ4 w4 hN hf hr
  have h2 := hv hf 0 rfl rfl
  have hW := hW.trans hN
  refine WP.ret ?_
  show retQ Tryz.prog 5 Tryz.f127 (fun v w1 => v = .int .i64 r ∧ Ext noG w0 w1) .ret ρ4 w4
  obtain rfl := Option.some.inj hF
  exact res1 rfl (by decide) h2 ⟨rfl, hW⟩

set_option maxHeartbeats 4000000 in
theorem calendar_Date_ok {w0 : World} (day_ : Int) {r : Int × Int × Int × Bool} (hF : calendar_Date day_ = some r) :
    Calls Tryz.prog 80 #[.int .i64 day_] w0 fun e w1 => e = .returned (.tuple #[.int .i64 r.1, .int .i64 r.2.1, .int .i64 r.2.2.1, .bool r.2.2.2]) ∧ Ext noG w0 w1 := by
  refine (Calls.start (P := Tryz.prog) (args := [.int .i64 day_]) (R := fun v w1 => v = .tuple #[.int .i64 r.1, .int .i64 r.2.1, .int .i64 r.2.2.1, .bool r.2.2.2] ∧ Ext noG w0 w1) (n := 42) (w := w0) Tryz.func80 rfl rfl (Nat.le_of_ble_eq_true rfl) (fun ρ hargs => ?_)).mono (fun e w1 ⟨v, he, hv, hE⟩ => ⟨hv ▸ he, hE⟩)
  have h0 := hargs 0 _ rfl
  have hW := Ext.refl noG w0
  rw [calendar_Date] at hF
  refine WP.seq (WP.rb mixed [[], [], [], []] [[], [], [], []] [(2, .int .i64 0), (3, .int .i64 0), (4, .int .i64 0), (5, .bool false)] (by kernel_rfl) ⟨aC rfl rfl (fun _ => rfl),
 aC rfl rfl (fun _ => rfl),
 aC rfl rfl (fun _ => rfl),
 aC rfl rfl (fun _ => rfl), trivial⟩ ?_)
  intro ρ1 w1 hN hf hr
  have h0 := (hr 0 rfl).trans h0
  have hW := hW.trans hN
  refine WP.seq (WP.seq ?_)
  obtain ⟨z, hz, hF⟩ := obind hF
  refine WP.rb mixed [[], [0], [1]] [[0], [], []] [(7, .int .i64 day_), (8, .bool z), (9, .bool (!z))] (by kernel_rfl) ⟨mE rfl rfl h0,
 fun ρz wz hE hA _ ⟨u0, _⟩ => core_call rfl (call_args1 u0) cf_126 (calendar_Valid_ok  _  hz),
 fun ρz wz hE hA _ ⟨u1, _⟩ => core_val rfl rfl (o_not u1 rfl), trivial⟩ ?_
  intro ρ2 w2 hN hf hr
  have h9 := hv hf 2 rfl rfl
  have h0 := (hr 0 rfl).trans h0
  have hW := hW.trans hN
  refine WP.cond rfl h9 (fun hb => ?_) (fun hb => ?_)
  · have hF := (if_pos hb).symm.trans hF
    refine WP.seq (WP.rb mixed [[], [], [], []] [[], [], [], []] [(2, .int .i64 0), (3, .int .i64 0), (4, .int .i64 0), (5, .bool false)] (by kernel_rfl) ⟨aC rfl rfl (fun _ => rfl),
 aC rfl rfl (fun _ => rfl),
 aC rfl rfl (fun _ => rfl),
 aC rfl rfl (fun _ => rfl), trivial⟩ ?_)
    intro ρ3 w3 hN hf hr
    have h2 := hv hf 0 rfl rfl
    have h3 := hv hf 1 rfl rfl
    have h4 := hv hf 2 rfl rfl
    have h5 := hv hf 3 rfl rfl
    have hW := hW.trans hN
    refine WP.ret ?_
    show retQ Tryz.prog 42 Tryz.f80 (fun v w1 => v = .tuple #[.int .i64 r.1, .int .i64 r.2.1, .int .i64 r.2.2.1, .bool r.2.2.2] ∧ Ext noG w0 w1) .ret ρ3 w3
    obtain rfl := Option.some.inj hF
    exact res4 rfl (by decide) (by decide) (by decide) (by decide) h2 h3 h4 h5 ⟨rfl, hW⟩
  have hF := (if_neg (Bool.eq_false_iff.1 hb)).symm.trans hF
  refine WP.skip (WP.seq (WP.rb mixed [[], [0], [1], [2]] [[0], [], [], []] [(10, .int .i64 day_), (11, .int .i64 (i64 (Int.tdiv day_ 366))), (12, .int .i64 (i64 (1900 + i64 (Int.tdiv day_ 366)))), (2, .int .i64 (i64 (1900 + i64 (Int.tdiv day_ 366))))] (by kernel_rfl) ⟨mE rfl rfl h0,
 fun ρz wz hE hA _ ⟨u0, _⟩ => core_val rfl rfl (o_quo u0 rfl (by decide) rfl),
 fun ρz wz hE hA _ ⟨u1, _⟩ => core_val rfl rfl (o_add rfl u1 rfl),
 aU rfl rfl rfl, trivial⟩ ?_))
  intro ρ4 w4 hN hf hr
  have h2 := hv hf 3 rfl rfl
  have h0 := (hr 0 rfl).trans h0
  have hW := hW.trans hN
  refine WP.seq (WP.block (WP.loop (fun k_ ρ w => ∃ year_ : Int, ρ 0 = .int .i64 day_ ∧ ρ 2 = .int .i64 year_ ∧ Ext noG w0 w ∧ loopC k_ (calendar_Date_l day_) year_ = some r) FU ⟨i64 (1900 + i64 (Int.tdiv day_ 366)), h0, h2, hW, hF⟩ (fun _ _ h => by obtain ⟨_, _, _, _, h⟩ := h; cases h) ?_))
  rintro k_ ρ5 w5 ⟨year_, h0, h2, hW, hF⟩
  have hF : calendar_Date_l day_ (loopC k_ (calendar_Date_l day_)) year_ = some r := hF
  generalize hrec_ : loopC k_ (calendar_Date_l day_) = rec_ at hF
  rw [calendar_Date_l] at hF
  refine WP.seq (WP.seq ?_)
  obtain ⟨z2, hz2, hF⟩ := obind hF
  obtain ⟨z3, hz3, hF⟩ := obind hF
  refine WP.rb mixed [[], [0], [], [2], [1, 3], [], [4, 5]] [[2], [], [2], [], [], [0], []] [(13, .int .i64 year_), (14, .int .i64 z2), (15, .int .i64 year_), (16, .int .i64 z3), (17, .int .i64 (i64 (z2 + z3))), (18, .int .i64 day_), (19, .bool (decide (i64 (z2 + z3) ≤ day_)))] (by kernel_rfl) ⟨mE rfl rfl h2,
 fun ρz wz hE hA _ ⟨u0, _⟩ => core_call rfl (call_args1 u0) cf_42 (calendar_yearStart_ok  _  hz2),
 mE rfl rfl h2,
 fun ρz wz hE hA _ ⟨u2, _⟩ => core_call rfl (call_args1 u2) cf_127 (calendar_yearLength_ok  _  hz3),
 fun ρz wz hE hA _ ⟨u1, u3, _⟩ => core_val rfl rfl (o_add u1 u3 rfl),
 mE rfl rfl h0,
 fun ρz wz hE hA _ ⟨u4, u5, _⟩ => core_val rfl rfl (o_leq u4 u5 rfl), trivial⟩ ?_
  intro ρ6 w6 hN hf hr
  have h19 := hv hf 6 rfl rfl
  obtain ⟨h0, h2⟩ := k2 hr h0 h2 rfl
  have hW := hW.trans hN
  refine WP.cond rfl h19 (fun hb => ?_) (fun hb => ?_)
  · have hF := (if_pos hb).symm.trans hF
    refine WP.skip (WP.block (WP.rv mixed [[], [0], [0, 1]] [[], [0], [1]] [[2], [], []] [(20, .int .i64 year_), (21, .int .i64 (i64 (year_ + 1))), (2, .int .i64 (i64 (year_ + 1)))] (by kernel_rfl) ⟨mE rfl rfl h2,
 fun ρz wz hE hA _ ⟨u0, _⟩ => core_val rfl rfl (o_add u0 rfl rfl),
 aU rfl rfl rfl, trivial⟩ ?_))
    intro ρ7 w7 hN hf hr
    have h2 := hv hf 2 rfl rfl
    have h0 := (hr 0 rfl).trans h0
    have hW := hW.trans hN
    exact ⟨i64 (year_ + 1), h0, h2, hW, (by first | exact hF | (rw [hrec_]; exact hF))⟩
  have hF := (if_neg (Bool.eq_false_iff.1 hb)).symm.trans hF
  refine WP.exit (thenQ_exit (thenQ_exit (blockQ_hit (WP.seq ?_))))
  obtain ⟨z4, hz4, hF⟩ := obind hF
  refine WP.rb mixed [[], [], [1], [0, 2], [3]] [[0], [2], [], [], []] [(22, .int .i64 day_), (23, .int .i64 year_), (24, .int .i64 z4), (25, .int .i64 (i64 (day_ - z4))), (6, .int .i64 (i64 (day_ - z4)))] (by kernel_rfl) ⟨mE rfl rfl h0,
 mE rfl rfl h2,
 fun ρz wz hE hA _ ⟨u1, _⟩ => core_call rfl (call_args1 u1) cf_42 (calendar_yearStart_ok  _  hz4),
 fun ρz wz hE hA _ ⟨u0, u2, _⟩ => core_val rfl rfl (o_sub u0 u2 rfl),
 aU rfl rfl rfl, trivial⟩ ?_
  intro ρ8 w8 hN hf hr
  have h6 := hv hf 4 rfl rfl
  have h2 := (hr 2 rfl).trans h2
  have hW := hW.trans hN
  refine WP.seq (WP.rb mixed [[]] [[]] [(3, .int .i64 1)] (by kernel_rfl) ⟨aC rfl rfl (fun _ => rfl), trivial⟩ ?_)
  intro ρ9 w9 hN hf hr
  have h3 := hv hf 0 rfl rfl
  obtain ⟨h2, h6⟩ := k2 hr h2 h6 rfl
  have hW := hW.trans hN
  refine WP.seq (WP.block (WP.loop (fun k_2 ρ w => ∃ month_ : Int, ∃ rest_ : Int, ρ 2 = .int .i64 year_ ∧ ρ 6 = .int .i64 rest_ ∧ ρ 3 = .int .i64 month_ ∧ Ext noG w0 w ∧ loopC k_2 (calendar_Date_l2 year_) (month_, rest_) = some r) FU ⟨1, i64 (day_ - z4), h2, h6, h3, hW, hF⟩ (fun _ _ h => by obtain ⟨_, _, _, _, _, _, h⟩ := h; cases h) ?_))
  rintro k_2 ρ10 w10 ⟨month_, rest_, h2, h6, h3, hW, hF⟩
  have hF : calendar_Date_l2 year_ (loopC k_2 (calendar_Date_l2 year_)) (month_, rest_) = some r := hF
  generalize hrec_2 : loopC k_2 (calendar_Date_l2 year_) = rec_2 at hF
  rw [calendar_Date_l2] at hF
  refine WP.seq (WP.seq ?_)
  obtain ⟨z5, hz5, hF⟩ := obind hF
  refine WP.rb mixed [[], [], [], [1, 2], [0, 3]] [[6], [2], [3], [], []] [(26, .int .i64 rest_), (27, .int .i64 year_), (28, .int .i64 month_), (29, .int .i64 z5), (30, .bool (decide (z5 ≤ rest_)))] (by kernel_rfl) ⟨mE rfl rfl h6,
 mE rfl rfl h2,
 mE rfl rfl h3,
 fun ρz wz hE hA _ ⟨u1, u2, _⟩ => core_call rfl (call_args2 u1 u2) cf_41 (calendar_monthLength_ok  _ _  hz5),
 fun ρz wz hE hA _ ⟨u0, u3, _⟩ => core_val rfl rfl (o_geq u0 u3 rfl), trivial⟩ ?_
  intro ρ11 w11 hN hf hr
  have h30 := hv hf 4 rfl rfl
  obtain ⟨h2, h6, h3⟩ := k3 hr h2 h6 h3 rfl
  have hW := hW.trans hN
  refine WP.cond rfl h30 (fun hb => ?_) (fun hb => ?_)
  · have hF := (if_pos hb).symm.trans hF
    refine WP.skip (WP.block (WP.seq ?_))
    obtain ⟨z6, hz6, hF⟩ := obind hF
    refine WP.rv mixed [[], [], [], [1, 2], [0, 3], [0, 4]] [[], [], [], [1, 2], [0, 3], [4]] [[6], [2], [3], [], [], []] [(31, .int .i64 rest_), (32, .int .i64 year_), (33, .int .i64 month_), (34, .int .i64 z6), (35, .int .i64 (i64 (rest_ - z6))), (6, .int .i64 (i64 (rest_ - z6)))] (by kernel_rfl) ⟨mE rfl rfl h6,
 mE rfl rfl h2,
 mE rfl rfl h3,
 fun ρz wz hE hA _ ⟨u1, u2, _⟩ => core_call rfl (call_args2 u1 u2) cf_41 (calendar_monthLength_ok  _ _  hz6),
 fun ρz wz hE hA _ ⟨u0, u3, _⟩ => core_val rfl rfl (o_sub u0 u3 rfl),
 aU rfl rfl rfl, trivial⟩ ?_
    intro ρ12 w12 hN hf hr
    have h6 := hv hf 5 rfl rfl
    obtain ⟨h2, h3⟩ := k2 hr h2 h3 rfl
    have hW := hW.trans hN
    refine WP.rv mixed [[], [0], [0, 1]] [[], [0], [1]] [[3], [], []] [(36, .int .i64 month_), (37, .int .i64 (i64 (month_ + 1))), (3, .int .i64 (i64 (month_ + 1)))] (by kernel_rfl) ⟨mE rfl rfl h3,
 fun ρz wz hE hA _ ⟨u0, _⟩ => core_val rfl rfl (o_add u0 rfl rfl),
 aU rfl rfl rfl, trivial⟩ ?_
    intro ρ13 w13 hN hf hr
    have h3 := hv hf 2 rfl rfl
    obtain ⟨h2, h6⟩ := k2 hr h2 h6 rfl
    have hW := hW.trans hN
    exact ⟨i64 (month_ + 1), i64 (rest_ - z6), h2, h6, h3, hW, (by first | exact hF | (rw [hrec_2]; exact hF))⟩
  have hF := (if_neg (Bool.eq_false_iff.1 hb)).symm.trans hF
  refine WP.exit (thenQ_exit (thenQ_exit (blockQ_hit (WP.seq (WP.rb mixed [[], [], [], [2], [0], [1], [3], []] [[2], [3], [6], [], [], [], [], []] [(38, .int .i64 year_), (39, .int .i64 month_), (40, .int .i64 rest_), (41, .int .i64 (i64 (rest_ + 1))), (2, .int .i64 year_), (3, .int .i64 month_), (4, .int .i64 (i64 (rest_ + 1))), (5, .bool true)] (by kernel_rfl) ⟨mE rfl rfl h2,
 mE rfl rfl h3,
 mE rfl rfl h6,
 fun ρz wz hE hA _ ⟨u2, _⟩ => core_val rfl rfl (o_add u2 rfl rfl),
 aU rfl rfl rfl,
 aU rfl rfl rfl,
 aU rfl rfl rfl,
 aC rfl rfl (fun _ => rfl), trivial⟩ ?_)))))
  intro ρ14 w14 hN hf hr
  have h2 := hv hf 4 rfl rfl
  have h3 := hv hf 5 rfl rfl
  have h4 := hv hf 6 rfl rfl
  have h5 := hv hf 7 rfl rfl
  have hW := hW.trans hN
  refine WP.ret ?_
  show retQ Tryz.prog 42 Tryz.f80 (fun v w1 => v = .tuple #[.int .i64 r.1, .int .i64 r.2.1, .int .i64 r.2.2.1, .bool r.2.2.2] ∧ Ext noG w0 w1) .ret ρ14 w14
  obtain rfl := Option.some.inj hF
  exact res4 rfl (by decide) (by decide) (by decide) (by decide) h2 h3 h4 h5 ⟨rfl, hW⟩

set_option maxHeartbeats 4000000 in
theorem calendar_Month_ok {w0 : World} (day_ : Int) {r : Int} (hF : calendar_Month day_ = some r) :
    Calls Tryz.prog 43 #[.int .i64 day_] w0 fun e w1 => e = .returned (.int .i64 r) ∧ Ext noG w0 w1 := by
  refine (Calls.start (P := Tryz.prog) (args := [.int .i64 day_]) (R := fun v w1 => v = .int .i64 r ∧ Ext noG w0 w1) (n := 22) (w := w0) Tryz.func43 rfl rfl (Nat.le_of_ble_eq_true rfl) (fun ρ hargs => ?_)).mono (fun e w1 ⟨v, he, hv, hE⟩ => ⟨hv ▸ he, hE⟩)
  have h0 := hargs 0 _ rfl
  have hW := Ext.refl noG w0
  rw [calendar_Month] at hF
  refine WP.seq (WP.rb mixed [[]] [[]] [(2, .int .i64 0)] (by kernel_rfl) ⟨aC rfl rfl (fun _ => rfl), trivial⟩ ?_)
  intro ρ1 w1 hN hf hr
  have h0 := (hr 0 rfl).trans h0
  have hW := hW.trans hN
  refine WP.seq ?_
  obtain ⟨z, hz, hF⟩ := obind hF
  refine WP.rb mixed [[], [0], [1], [2], [2], [2], [2], [3], [4], [5], [6]] [[0], [], [], [], [], [], [], [], [], [], []] [(8, .int .i64 day_), (9, .tuple #[.int .i64 z.1, .int .i64 z.2.1, .int .i64 z.2.2.1, .bool z.2.2.2]), (7, .tuple #[.int .i64 z.1, .int .i64 z.2.1, .int .i64 z.2.2.1, .bool z.2.2.2]), (10, .int .i64 z.1), (11, .int .i64 z.2.1), (12, .int .i64 z.2.2.1), (13, .bool z.2.2.2), (3, .int .i64 z.1), (4, .int .i64 z.2.1), (5, .int .i64 z.2.2.1), (6, .bool z.2.2.2)] (by kernel_rfl) ⟨mE rfl rfl h0,
 fun ρz wz hE hA _ ⟨u0, _⟩ => core_call rfl (call_args1 u0) cf_80 (calendar_Date_ok  _  hz),
 mU rfl rfl rfl,
 fun ρz wz hE hA _ ⟨u2, _⟩ => core_val rfl rfl (o_extract u2 (by kernel_rfl)),
 fun ρz wz hE hA _ ⟨u2, _⟩ => core_val rfl rfl (o_extract u2 (by kernel_rfl)),
 fun ρz wz hE hA _ ⟨u2, _⟩ => core_val rfl rfl (o_extract u2 (by kernel_rfl)),
 fun ρz wz hE hA _ ⟨u2, _⟩ => core_val rfl rfl (o_extract u2 (by kernel_rfl)),
 aU rfl rfl rfl,
 aU rfl rfl rfl,
 aU rfl rfl rfl,
 aU rfl rfl rfl, trivial⟩ ?_
  intro ρ2 w2 hN hf hr
  have h3 := hv hf 7 rfl rfl
  have h4 := hv hf 8 rfl rfl
  have h6 := hv hf 10 rfl rfl
  have hW := hW.trans hN
  refine WP.seq (WP.seq (WP.rb mixed [[], [0]] [[6], []] [(14, .bool z.2.2.2), (15, .bool (!z.2.2.2))] (by kernel_rfl) ⟨mE rfl rfl h6,
 fun ρz wz hE hA _ ⟨u0, _⟩ => core_val rfl rfl (o_not u0 rfl), trivial⟩ ?_))
  intro ρ3 w3 hN hf hr
  have h15 := hv hf 1 rfl rfl
  obtain ⟨h3, h4⟩ := k2 hr h3 h4 rfl
  have hW := hW.trans hN
  refine WP.cond rfl h15 (fun hb => ?_) (fun hb => ?_)
  · have hF := (if_pos hb).symm.trans hF
    refine WP.seq (WP.rb mixed [[]] [[]] [(2, .int .i64 (-1))] (by kernel_rfl) ⟨aC rfl rfl (fun _ => rfl), trivial⟩ ?_)
    intro ρ4 w4 hN hf hr
    have h2 := hv hf 0 rfl rfl
    have hW := hW.trans hN
    refine WP.ret ?_
    show retQ Tryz.prog 22 Tryz.f43 (fun v w1 => v = .int .i64 r ∧ Ext noG w0 w1) .ret ρ4 w4
    obtain rfl := Option.some.inj hF
    exact res1 rfl (by decide) h2 ⟨rfl, hW⟩
  have hF := (if_neg (Bool.eq_false_iff.1 hb)).symm.trans hF
  refine WP.skip (WP.seq (WP.rb mixed [[], [0], [1], [], [2, 3], [4], [5]] [[3], [], [], [4], [], [], []] [(16, .int .i64 z.1), (17, .int .i64 (i64 (z.1 - 1900))), (18, .int .i64 (i64 (12 * (i64 (z.1 - 1900))))), (19, .int .i64 z.2.1), (20, .int .i64 (i64 (i64 (12 * (i64 (z.1 - 1900))) + z.2.1))), (21, .int .i64 (i64 (i64 (i64 (12 * (i64 (z.1 - 1900))) + z.2.1) - 1))), (2, .int .i64 (i64 (i64 (i64 (12 * (i64 (z.1 - 1900))) + z.2.1) - 1)))] (by kernel_rfl) ⟨mE rfl rfl h3,
 fun ρz wz hE hA _ ⟨u0, _⟩ => core_val rfl rfl (o_sub u0 rfl rfl),
 fun ρz wz hE hA _ ⟨u1, _⟩ => core_val rfl rfl (o_mul rfl u1 rfl),
 mE rfl rfl h4,
 fun ρz wz hE hA _ ⟨u2, u3, _⟩ => core_val rfl rfl (o_add u2 u3 rfl),
 fun ρz wz hE hA _ ⟨u4, _⟩ => core_val rfl rfl (o_sub u4 rfl rfl),
 aU rfl rfl rfl, trivial⟩ ?_))
  intro ρ5 w5 hN hf hr
  have h2 := hv hf 6 rfl rfl
  have hW := hW.trans hN
  refine WP.ret ?_
  show retQ Tryz.prog 22 Tryz.f43 (fun v w1 => v = .int .i64 r ∧ Ext noG w0 w1) .ret ρ5 w5
  obtain rfl := Option.some.inj hF
  exact res1 rfl (by decide) h2 ⟨rfl, hW⟩

set_option maxHeartbeats 4000000 in
theorem calendar_validMonth_ok {w0 : World} (month_ : Int) {r : Bool} (hF : calendar_validMonth month_ = some r) :
    Calls Tryz.prog 56 #[.int .i64 month_] w0 fun e w1 => e = .returned (.bool r) ∧ Ext noG w0 w1 := by
  refine (Calls.start (P := Tryz.prog) (args := [.int .i64 month_]) (R := fun v w1 => v = .bool r ∧ Ext noG w0 w1) (n := 9) (w := w0) Tryz.func56 rfl rfl (Nat.le_of_ble_eq_true rfl) (fun ρ hargs => ?_)).mono (fun e w1 ⟨v, he, hv, hE⟩ => ⟨hv ▸ he, hE⟩)
  have h0 := hargs 0 _ rfl
  have hW := Ext.refl noG w0
  rw [calendar_validMonth] at hF
  refine WP.seq (WP.rb mixed [[]] [[]] [(2, .bool false)] (by kernel_rfl) ⟨aC rfl rfl (fun _ => rfl), trivial⟩ ?_)
  intro ρ1 w1 hN hf hr
  have h0 := (hr 0 rfl).trans h0
  have hW := hW.trans hN
  refine WP.seq (WP.rb mixed [[], [0], [1], [2], [2, 3], [2, 4], [5]] [[0], [], [], [0], [], [], []] [(3, .int .i64 month_), (4, .bool (decide (0 ≤ month_))), (5, .bool (decide (0 ≤ month_))), (6, gv (decide (0 ≤ month_)) (.int .i64 month_)), (7, gv (decide (0 ≤ month_)) (.bool (decide (month_ ≤ 2399)))), (8, .bool (decide (0 ≤ month_) && decide (month_ ≤ 2399))), (2, .bool (decide (0 ≤ month_) && decide (month_ ≤ 2399)))] (by kernel_rfl) ⟨mE rfl rfl h0,
 fun ρz wz hE hA _ ⟨u0, _⟩ => core_val rfl rfl (o_geq u0 rfl rfl),
 mU rfl rfl rfl,
 fun ρz wz hE hA ⟨e0, _⟩ ⟨u2, _⟩ => gIf rfl rfl (yT rfl u2) fun gc F hF => core_val rfl hF (o_move (e0.trans h0)),
 fun ρz wz hE hA _ ⟨u2, u3, _⟩ => gIf rfl rfl (yT rfl u2) fun gc F hF => core_val rfl hF (o_leq (gt gc u3) rfl rfl),
 fun ρz wz hE hA _ ⟨u2, u4, _⟩ => core_val rfl rfl (o_pick_and u2 u4 rfl),
 aU rfl rfl rfl, trivial⟩ ?_)
  intro ρ2 w2 hN hf hr
  have h2 := hv hf 6 rfl rfl
  have hW := hW.trans hN
  refine WP.ret ?_
  show retQ Tryz.prog 9 Tryz.f56 (fun v w1 => v = .bool r ∧ Ext noG w0 w1) .ret ρ2 w2
  obtain rfl := Option.some.inj hF
  exact res1 rfl (by decide) h2 ⟨rfl, hW⟩

set_option maxHeartbeats 4000000 in
theorem calendar_MonthStart_ok {w0 : World} (month_ : Int) {r : Int × Bool} (hF : calendar_MonthStart month_ = some r) :
    Calls Tryz.prog 27 #[.int .i64 month_] w0 fun e w1 => e = .returned (.tuple #[.int .i64 r.1, .bool r.2]) ∧ Ext noG w0 w1 := by
  refine (Calls.start (P := Tryz.prog) (args := [.int .i64 month_]) (R := fun v w1 => v = .tuple #[.int .i64 r.1, .bool r.2] ∧ Ext noG w0 w1) (n := 16) (w := w0) Tryz.func27 rfl rfl (Nat.le_of_ble_eq_true rfl) (fun ρ hargs => ?_)).mono (fun e w1 ⟨v, he, hv, hE⟩ => ⟨hv ▸ he, hE⟩)
  have h0 := hargs 0 _ rfl
  have hW := Ext.refl noG w0
  rw [calendar_MonthStart] at hF
  refine WP.seq (WP.rb mixed [[], []] [[], []] [(2, .int .i64 0), (3, .bool false)] (by kernel_rfl) ⟨aC rfl rfl (fun _ => rfl),
 aC rfl rfl (fun _ => rfl), trivial⟩ ?_)
  intro ρ1 w1 hN hf hr
  have h0 := (hr 0 rfl).trans h0
  have hW := hW.trans hN
  refine WP.seq (WP.seq ?_)
  obtain ⟨z, hz, hF⟩ := obind hF
  refine WP.rb mixed [[], [0], [1]] [[0], [], []] [(4, .int .i64 month_), (5, .bool z), (6, .bool (!z))] (by kernel_rfl) ⟨mE rfl rfl h0,
 fun ρz wz hE hA _ ⟨u0, _⟩ => core_call rfl (call_args1 u0) cf_56 (calendar_validMonth_ok  _  hz),
 fun ρz wz hE hA _ ⟨u1, _⟩ => core_val rfl rfl (o_not u1 rfl), trivial⟩ ?_
  intro ρ2 w2 hN hf hr
  have h6 := hv hf 2 rfl rfl
  have h0 := (hr 0 rfl).trans h0
  have hW := hW.trans hN
  refine WP.cond rfl h6 (fun hb => ?_) (fun hb => ?_)
  · have hF := (if_pos hb).symm.trans hF
    refine WP.seq (WP.rb mixed [[], []] [[], []] [(2, .int .i64 0), (3, .bool false)] (by kernel_rfl) ⟨aC rfl rfl (fun _ => rfl),
 aC rfl rfl (fun _ => rfl), trivial⟩ ?_)
    intro ρ3 w3 hN hf hr
    have h2 := hv hf 0 rfl rfl
    have h3 := hv hf 1 rfl rfl
    have hW := hW.trans hN
    refine WP.ret ?_
    show retQ Tryz.prog 16 Tryz.f27 (fun v w1 => v = .tuple #[.int .i64 r.1, .bool r.2] ∧ Ext noG w0 w1) .ret ρ3 w3
    obtain rfl := Option.some.inj hF
    exact res2 rfl (by decide) (by decide) h2 h3 ⟨rfl, hW⟩
  have hF := (if_neg (Bool.eq_false_iff.1 hb)).symm.trans hF
  refine WP.skip (WP.seq ?_)
  obtain ⟨z2, hz2, hF⟩ := obind hF
  refine WP.rb mixed [[], [0], [1], [], [3], [4], [2, 5], [6], [6], [7], [8]] [[0], [], [], [0], [], [], [], [], [], [], []] [(7, .int .i64 month_), (8, .int .i64 (i64 (Int.tdiv month_ 12))), (9, .int .i64 (i64 (1900 + i64 (Int.tdiv month_ 12)))), (10, .int .i64 month_), (11, .int .i64 (Int.tmod month_ 12)), (12, .int .i64 (i64 (Int.tmod month_ 12 + 1))), (13, .tuple #[.int .i64 z2.1, .bool z2.2]), (14, .int .i64 z2.1), (15, .bool z2.2), (2, .int .i64 z2.1), (3, .bool z2.2)] (by kernel_rfl) ⟨mE rfl rfl h0,
 fun ρz wz hE hA _ ⟨u0, _⟩ => core_val rfl rfl (o_quo u0 rfl (by decide) rfl),
 fun ρz wz hE hA _ ⟨u1, _⟩ => core_val rfl rfl (o_add rfl u1 rfl),
 mE rfl rfl h0,
 fun ρz wz hE hA _ ⟨u3, _⟩ => core_val rfl rfl (o_rem u3 rfl (by decide) rfl),
 fun ρz wz hE hA _ ⟨u4, _⟩ => core_val rfl rfl (o_add u4 rfl rfl),
 fun ρz wz hE hA _ ⟨u2, u5, _⟩ => core_call rfl (call_args3 u2 u5 rfl) cf_19 (calendar_Day_ok  _ _ _  hz2),
 fun ρz wz hE hA _ ⟨u6, _⟩ => core_val rfl rfl (o_extract u6 (by kernel_rfl)),
 fun ρz wz hE hA _ ⟨u6, _⟩ => core_val rfl rfl (o_extract u6 (by kernel_rfl)),
 aU rfl rfl rfl,
 aU rfl rfl rfl, trivial⟩ ?_
  intro ρ4 w4 hN hf hr
  have h2 := hv hf 9 rfl rfl
  have h3 := hv hf 10 rfl rfl
  have hW := hW.trans hN
  refine WP.ret ?_
  show retQ Tryz.prog 16 Tryz.f27 (fun v w1 => v = .tuple #[.int .i64 r.1, .bool r.2] ∧ Ext noG w0 w1) .ret ρ4 w4
  obtain rfl := Option.some.inj hF
  exact res2 rfl (by decide) (by decide) h2 h3 ⟨rfl, hW⟩

set_option maxHeartbeats 4000000 in
theorem decision_Start_ok {w0 : World} (c_ : Claim) {r : Int × Bool} (hF : decision_Start c_ = some r) :
    Calls Tryz.prog 20 #[Claim.val c_] w0 fun e w1 => e = .returned (.tuple #[.int .i64 r.1, .bool r.2]) ∧ Ext noG w0 w1 := by
  refine (Calls.start (P := Tryz.prog) (args := [Claim.val c_]) (R := fun v w1 => v = .tuple #[.int .i64 r.1, .bool r.2] ∧ Ext noG w0 w1) (n := 26) (w := w0) Tryz.func20 rfl rfl (Nat.le_of_ble_eq_true rfl) (fun ρ hargs => ?_)).mono (fun e w1 ⟨v, he, hv, hE⟩ => ⟨hv ▸ he, hE⟩)
  have h0 := hargs 0 _ rfl
  have hW := Ext.refl noG w0
  rw [decision_Start] at hF
  refine WP.seq (WP.rg mixed [[], [], []] [[], [], []] [[0], [], []] [(1, fun u wz => ∃ b, u = .pointer (some ⟨b, 0, none⟩) ∧ w0.heap.size ≤ b ∧ Mb wz b 28 (Claim.cells c_)), val 2 (.int .i64 0), val 3 (.bool false)] (by kernel_rfl) ⟨fun _ _ _ hE ⟨b, hb, hs, hM⟩ => ⟨b, hb, hs, hM.exn hE⟩, sV, sV, trivial⟩ ⟨fun ρz wz hE hA ⟨e0, _⟩ _ => core_new rfl rfl hE (o_box (e0.trans h0) (bx_28 _ _)),
 aC rfl rfl (fun _ => rfl),
 aC rfl rfl (fun _ => rfl), trivial⟩ ?_)
  intro ρ1 w1 hN hf hr
  obtain ⟨b1_, h1, hge_b1_, Hb_b1_⟩ := hf 0 rfl
  have hB_b1_ : w0.heap.size ≤ b1_ := Nat.le_trans hW.size hge_b1_
  have hW := hW.trans hN
  refine WP.seq ?_
  obtain ⟨z, hz, hF⟩ := obind hF
  refine WP.rb mixed [[], [0], [1], [2]] [[1], [], [], []] [(7, .pointer (some ((⟨b1_, 0, none⟩ : Addr).add 5))), (8, .int .i64 c_.Day), (9, .int .i64 z), (4, .int .i64 z)] (by kernel_rfl) ⟨fun ρz wz hE hA ⟨e1, _⟩ _ => core_val rfl rfl (o_fieldAddr (e1.trans h1) (fa_28_5 _ _)),
 fun ρz wz hE hA _ ⟨u0, _⟩ => core_val rfl rfl (o_load u0 (run_load1 (lr_3 _ _) (CA.sub ((Hb_b1_.exn (hA rfl)).ca) 5 1))),
 fun ρz wz hE hA _ ⟨u1, _⟩ => core_call rfl (call_args1 u1) cf_43 (calendar_Month_ok  _  hz),
 aU rfl rfl rfl, trivial⟩ ?_
  intro ρ2 w2 hN hf hr
  have h4 := hv hf 3 rfl rfl
  have h1 := (hr 1 rfl).trans h1
  have Hb_b1_n := Hb_b1_.exn hN
  have hW := hW.trans hN
  have Hb_b1_ := Hb_b1_n
  refine WP.seq (WP.seq (WP.rb mixed [[], [0]] [[4], []] [(10, .int .i64 z), (11, .bool (decide (z < 0)))] (by kernel_rfl) ⟨mE rfl rfl h4,
 fun ρz wz hE hA _ ⟨u0, _⟩ => core_val rfl rfl (o_lss u0 rfl rfl), trivial⟩ ?_))
  intro ρ3 w3 hN hf hr
  have h11 := hv hf 1 rfl rfl
  obtain ⟨h1, h4⟩ := k2 hr h1 h4 rfl
  have Hb_b1_n := Hb_b1_.exn hN
  have hW := hW.trans hN
  have Hb_b1_ := Hb_b1_n
  refine WP.cond rfl h11 (fun hb => ?_) (fun hb => ?_)
  · have hF := (if_pos hb).symm.trans hF
    refine WP.seq (WP.rb mixed [[], []] [[], []] [(2, .int .i64 0), (3, .bool false)] (by kernel_rfl) ⟨aC rfl rfl (fun _ => rfl),
 aC rfl rfl (fun _ => rfl), trivial⟩ ?_)
    intro ρ4 w4 hN hf hr
    have h2 := hv hf 0 rfl rfl
    have h3 := hv hf 1 rfl rfl
    have hW := hW.trans hN
    refine WP.ret ?_
    show retQ Tryz.prog 26 Tryz.f20 (fun v w1 => v = .tuple #[.int .i64 r.1, .bool r.2] ∧ Ext noG w0 w1) .ret ρ4 w4
    obtain rfl := Option.some.inj hF
    exact res2 rfl (by decide) (by decide) h2 h3 ⟨rfl, hW⟩
  have hF := (if_neg (Bool.eq_false_iff.1 hb)).symm.trans hF
  refine WP.skip (WP.seqJ (fun ρ w => ∃ m_ : Int, ρ 4 = .int .i64 m_ ∧ Ext noG w0 w ∧ decision_Start_j m_ = some r) ?_ ?_)
  · refine WP.seq ?_
    obtain ⟨z2, hz2, hF⟩ := obind hF
    refine WP.rb mixed [[], [0], [1], [2], [2], [3], [4]] [[4], [], [], [], [], [], []] [(13, .int .i64 z), (14, .tuple #[.int .i64 z2.1, .bool z2.2]), (12, .tuple #[.int .i64 z2.1, .bool z2.2]), (15, .int .i64 z2.1), (16, .bool z2.2), (5, .int .i64 z2.1), (6, .bool z2.2)] (by kernel_rfl) ⟨mE rfl rfl h4,
 fun ρz wz hE hA _ ⟨u0, _⟩ => core_call rfl (call_args1 u0) cf_27 (calendar_MonthStart_ok  _  hz2),
 mU rfl rfl rfl,
 fun ρz wz hE hA _ ⟨u2, _⟩ => core_val rfl rfl (o_extract u2 (by kernel_rfl)),
 fun ρz wz hE hA _ ⟨u2, _⟩ => core_val rfl rfl (o_extract u2 (by kernel_rfl)),
 aU rfl rfl rfl,
 aU rfl rfl rfl, trivial⟩ ?_
    intro ρ9 w9 hN hf hr
    have h5 := hv hf 5 rfl rfl
    obtain ⟨h1, h4⟩ := k2 hr h1 h4 rfl
    have Hb_b1_n := Hb_b1_.exn hN
    have hW := hW.trans hN
    have Hb_b1_ := Hb_b1_n
    refine WP.seq (WP.rb mixed [[], [], [1], [0, 2]] [[5], [1], [], []] [(17, .int .i64 z2.1), (18, .pointer (some ((⟨b1_, 0, none⟩ : Addr).add 5))), (19, .int .i64 c_.Day), (20, .bool (decide (z2.1 < c_.Day)))] (by kernel_rfl) ⟨mE rfl rfl h5,
 fun ρz wz hE hA ⟨e1, _⟩ _ => core_val rfl rfl (o_fieldAddr (e1.trans h1) (fa_28_5 _ _)),
 fun ρz wz hE hA _ ⟨u1, _⟩ => core_val rfl rfl (o_load u1 (run_load1 (lr_3 _ _) (CA.sub ((Hb_b1_.exn (hA rfl)).ca) 5 1))),
 fun ρz wz hE hA _ ⟨u0, u2, _⟩ => core_val rfl rfl (o_lss u0 u2 rfl), trivial⟩ ?_)
    intro ρ10 w10 hN hf hr
    have h20 := hv hf 3 rfl rfl
    have h4 := (hr 4 rfl).trans h4
    have hW := hW.trans hN
    refine WP.cond rfl h20 (fun hb => ?_) (fun hb => ?_)
    · have hF := (if_pos hb).symm.trans hF
      refine WP.rv mixed [[], [0], [0, 1]] [[], [0], [1]] [[4], [], []] [(21, .int .i64 z), (22, .int .i64 (i64 (z + 1))), (4, .int .i64 (i64 (z + 1)))] (by kernel_rfl) ⟨mE rfl rfl h4,
 fun ρz wz hE hA _ ⟨u0, _⟩ => core_val rfl rfl (o_add u0 rfl rfl),
 aU rfl rfl rfl, trivial⟩ ?_
      intro ρ11 w11 hN hf hr
      have h4 := hv hf 2 rfl rfl
      have hW := hW.trans hN
      exact ⟨i64 (z + 1), h4, hW, hF⟩
    have hF := (if_neg (Bool.eq_false_iff.1 hb)).symm.trans hF
    refine WP.skip ?_
    exact ⟨z, h4, hW, hF⟩
  rintro ρ5 w5 ⟨m_, h4, hW, hF⟩
  rw [decision_Start_j] at hF
  refine WP.seq (WP.seq (WP.rb mixed [[], [0]] [[4], []] [(23, .int .i64 m_), (24, .bool (decide (2399 < m_)))] (by kernel_rfl) ⟨mE rfl rfl h4,
 fun ρz wz hE hA _ ⟨u0, _⟩ => core_val rfl rfl (o_gtr u0 rfl rfl), trivial⟩ ?_))
  intro ρ6 w6 hN hf hr
  have h24 := hv hf 1 rfl rfl
  have h4 := (hr 4 rfl).trans h4
  have hW := hW.trans hN
  refine WP.cond rfl h24 (fun hb => ?_) (fun hb => ?_)
  · have hF := (if_pos hb).symm.trans hF
    refine WP.seq (WP.rb mixed [[], []] [[], []] [(2, .int .i64 0), (3, .bool false)] (by kernel_rfl) ⟨aC rfl rfl (fun _ => rfl),
 aC rfl rfl (fun _ => rfl), trivial⟩ ?_)
    intro ρ7 w7 hN hf hr
    have h2 := hv hf 0 rfl rfl
    have h3 := hv hf 1 rfl rfl
    have hW := hW.trans hN
    refine WP.ret ?_
    show retQ Tryz.prog 26 Tryz.f20 (fun v w1 => v = .tuple #[.int .i64 r.1, .bool r.2] ∧ Ext noG w0 w1) .ret ρ7 w7
    obtain rfl := Option.some.inj hF
    exact res2 rfl (by decide) (by decide) h2 h3 ⟨rfl, hW⟩
  have hF := (if_neg (Bool.eq_false_iff.1 hb)).symm.trans hF
  refine WP.skip (WP.seq (WP.rb mixed [[], [0], []] [[4], [], []] [(25, .int .i64 m_), (2, .int .i64 m_), (3, .bool true)] (by kernel_rfl) ⟨mE rfl rfl h4,
 aU rfl rfl rfl,
 aC rfl rfl (fun _ => rfl), trivial⟩ ?_))
  intro ρ8 w8 hN hf hr
  have h2 := hv hf 1 rfl rfl
  have h3 := hv hf 2 rfl rfl
  have hW := hW.trans hN
  refine WP.ret ?_
  show retQ Tryz.prog 26 Tryz.f20 (fun v w1 => v = .tuple #[.int .i64 r.1, .bool r.2] ∧ Ext noG w0 w1) .ret ρ8 w8
  obtain rfl := Option.some.inj hF
  exact res2 rfl (by decide) (by decide) h2 h3 ⟨rfl, hW⟩

set_option maxHeartbeats 4000000 in
theorem decision_Valid_ok {w0 : World} (d_ : Claim) {r : Bool} (hF : decision_Valid d_ = some r) :
    Calls Tryz.prog 21 #[Claim.val d_] w0 fun e w1 => e = .returned (.bool r) ∧ Ext noG w0 w1 := by
  refine (Calls.start (P := Tryz.prog) (args := [Claim.val d_]) (R := fun v w1 => v = .bool r ∧ Ext noG w0 w1) (n := 66) (w := w0) Tryz.func21 rfl rfl (Nat.le_of_ble_eq_true rfl) (fun ρ hargs => ?_)).mono (fun e w1 ⟨v, he, hv, hE⟩ => ⟨hv ▸ he, hE⟩)
  have h0 := hargs 0 _ rfl
  have hW := Ext.refl noG w0
  rw [decision_Valid] at hF
  refine WP.seq (WP.rg mixed [[], []] [[], []] [[0], []] [(1, fun u wz => ∃ b, u = .pointer (some ⟨b, 0, none⟩) ∧ w0.heap.size ≤ b ∧ Mb wz b 28 (Claim.cells d_)), val 2 (.bool false)] (by kernel_rfl) ⟨fun _ _ _ hE ⟨b, hb, hs, hM⟩ => ⟨b, hb, hs, hM.exn hE⟩, sV, trivial⟩ ⟨fun ρz wz hE hA ⟨e0, _⟩ _ => core_new rfl rfl hE (o_box (e0.trans h0) (bx_28 _ _)),
 aC rfl rfl (fun _ => rfl), trivial⟩ ?_)
  intro ρ1 w1 hN hf hr
  obtain ⟨b1_, h1, hge_b1_, Hb_b1_⟩ := hf 0 rfl
  have hB_b1_ : w0.heap.size ≤ b1_ := Nat.le_trans hW.size hge_b1_
  have hW := hW.trans hN
  refine WP.seq (WP.seq (WP.rb mixed [[], [0], [1], [2], [3], [3, 4], [3, 5], [3, 6], [7], [8], [8, 9], [8, 10], [8, 11], [12], [13], [13, 14], [13, 15], [13, 16], [17], [18], [18, 19], [18, 20], [18, 21], [22], [23], [23, 24], [23, 25], [23, 26]] [[1], [], [], [], [1], [], [], [], [], [1], [], [], [], [], [1], [], [], [], [], [1], [], [], [], [], [1], [], [], []] [(5, .pointer (some ((⟨b1_, 0, none⟩ : Addr).add 0))), (6, .int .i64 d_.Issuer), (7, .bool (decide (d_.Issuer < 0))), (8, .bool (decide (d_.Issuer < 0))), (9, gv (!(decide (d_.Issuer < 0))) (.pointer (some ((⟨b1_, 0, none⟩ : Addr).add 0)))), (10, gv (!(decide (d_.Issuer < 0))) (.int .i64 d_.Issuer)), (11, gv (!(decide (d_.Issuer < 0))) (.bool (decide (6 ≤ d_.Issuer)))), (12, .bool (decide (d_.Issuer < 0) || decide (6 ≤ d_.Issuer))), (13, .bool (decide (d_.Issuer < 0) || decide (6 ≤ d_.Issuer))), (14, gv (!(decide (d_.Issuer < 0) || decide (6 ≤ d_.Issuer))) (.pointer (some ((⟨b1_, 0, none⟩ : Addr).add 1)))), (15, gv (!(decide (d_.Issuer < 0) || decide (6 ≤ d_.Issuer))) (.int .i64 d_.Number)), (16, gv (!(decide (d_.Issuer < 0) || decide (6 ≤ d_.Issuer))) (.bool (decide (d_.Number < 1)))), (17, .bool ((decide (d_.Issuer < 0) || decide (6 ≤ d_.Issuer)) || decide (d_.Number < 1))), (18, .bool ((decide (d_.Issuer < 0) || decide (6 ≤ d_.Issuer)) || decide (d_.Number < 1))), (19, gv (!((decide (d_.Issuer < 0) || decide (6 ≤ d_.Issuer)) || decide (d_.Number < 1))) (.pointer (some ((⟨b1_, 0, none⟩ : Addr).add 1)))), (20, gv (!((decide (d_.Issuer < 0) || decide (6 ≤ d_.Issuer)) || decide (d_.Number < 1))) (.int .i64 d_.Number)), (21, gv (!((decide (d_.Issuer < 0) || decide (6 ≤ d_.Issuer)) || decide (d_.Number < 1))) (.bool (decide (999 < d_.Number)))), (22, .bool (((decide (d_.Issuer < 0) || decide (6 ≤ d_.Issuer)) || decide (d_.Number < 1)) || decide (999 < d_.Number))), (23, .bool (((decide (d_.Issuer < 0) || decide (6 ≤ d_.Issuer)) || decide (d_.Number < 1)) || decide (999 < d_.Number))), (24, gv (!(((decide (d_.Issuer < 0) || decide (6 ≤ d_.Issuer)) || decide (d_.Number < 1)) || decide (999 < d_.Number))) (.pointer (some ((⟨b1_, 0, none⟩ : Addr).add 2)))), (25, gv (!(((decide (d_.Issuer < 0) || decide (6 ≤ d_.Issuer)) || decide (d_.Number < 1)) || decide (999 < d_.Number))) (.int .i64 d_.Person)), (26, gv (!(((decide (d_.Issuer < 0) || decide (6 ≤ d_.Issuer)) || decide (d_.Number < 1)) || decide (999 < d_.Number))) (.bool (decide (d_.Person < 1)))), (27, .bool ((((decide (d_.Issuer < 0) || decide (6 ≤ d_.Issuer)) || decide (d_.Number < 1)) || decide (999 < d_.Number)) || decide (d_.Person < 1))), (28, .bool ((((decide (d_.Issuer < 0) || decide (6 ≤ d_.Issuer)) || decide (d_.Number < 1)) || decide (999 < d_.Number)) || decide (d_.Person < 1))), (29, gv (!((((decide (d_.Issuer < 0) || decide (6 ≤ d_.Issuer)) || decide (d_.Number < 1)) || decide (999 < d_.Number)) || decide (d_.Person < 1))) (.pointer (some ((⟨b1_, 0, none⟩ : Addr).add 2)))), (30, gv (!((((decide (d_.Issuer < 0) || decide (6 ≤ d_.Issuer)) || decide (d_.Number < 1)) || decide (999 < d_.Number)) || decide (d_.Person < 1))) (.int .i64 d_.Person)), (31, gv (!((((decide (d_.Issuer < 0) || decide (6 ≤ d_.Issuer)) || decide (d_.Number < 1)) || decide (999 < d_.Number)) || decide (d_.Person < 1))) (.bool (decide (99 < d_.Person)))), (32, .bool (((((decide (d_.Issuer < 0) || decide (6 ≤ d_.Issuer)) || decide (d_.Number < 1)) || decide (999 < d_.Number)) || decide (d_.Person < 1)) || decide (99 < d_.Person)))] (by kernel_rfl) ⟨fun ρz wz hE hA ⟨e1, _⟩ _ => core_val rfl rfl (o_fieldAddr (e1.trans h1) (fa_28_0 _ _)),
 fun ρz wz hE hA _ ⟨u0, _⟩ => core_val rfl rfl (o_load u0 (run_load1 (lr_3 _ _) (CA.sub ((Hb_b1_.exn (hA rfl)).ca) 0 1))),
 fun ρz wz hE hA _ ⟨u1, _⟩ => core_val rfl rfl (o_lss u1 rfl rfl),
 mU rfl rfl rfl,
 fun ρz wz hE hA ⟨e1, _⟩ ⟨u3, _⟩ => gIf rfl rfl (yF rfl u3) fun gc F hF => core_val rfl hF (o_fieldAddr (e1.trans h1) (fa_28_0 _ _)),
 fun ρz wz hE hA _ ⟨u3, u4, _⟩ => gIf rfl rfl (yF rfl u3) fun gc F hF => core_val rfl hF (o_load (gt gc u4) (run_load1 (lr_3 _ _) (CA.sub ((Hb_b1_.exn (hA rfl)).ca) 0 1))),
 fun ρz wz hE hA _ ⟨u3, u5, _⟩ => gIf rfl rfl (yF rfl u3) fun gc F hF => core_val rfl hF (o_geq (gt gc u5) rfl rfl),
 fun ρz wz hE hA _ ⟨u3, u6, _⟩ => core_val rfl rfl (o_pick_or u3 rfl u6),
 mU rfl rfl rfl,
 fun ρz wz hE hA ⟨e1, _⟩ ⟨u8, _⟩ => gIf rfl rfl (yF rfl u8) fun gc F hF => core_val rfl hF (o_fieldAddr (e1.trans h1) (fa_28_1 _ _)),
 fun ρz wz hE hA _ ⟨u8, u9, _⟩ => gIf rfl rfl (yF rfl u8) fun gc F hF => core_val rfl hF (o_load (gt gc u9) (run_load1 (lr_3 _ _) (CA.sub ((Hb_b1_.exn (hA rfl)).ca) 1 1))),
 fun ρz wz hE hA _ ⟨u8, u10, _⟩ => gIf rfl rfl (yF rfl u8) fun gc F hF => core_val rfl hF (o_lss (gt gc u10) rfl rfl),
 fun ρz wz hE hA _ ⟨u8, u11, _⟩ => core_val rfl rfl (o_pick_or u8 rfl u11),
 mU rfl rfl rfl,
 fun ρz wz hE hA ⟨e1, _⟩ ⟨u13, _⟩ => gIf rfl rfl (yF rfl u13) fun gc F hF => core_val rfl hF (o_fieldAddr (e1.trans h1) (fa_28_1 _ _)),
 fun ρz wz hE hA _ ⟨u13, u14, _⟩ => gIf rfl rfl (yF rfl u13) fun gc F hF => core_val rfl hF (o_load (gt gc u14) (run_load1 (lr_3 _ _) (CA.sub ((Hb_b1_.exn (hA rfl)).ca) 1 1))),
 fun ρz wz hE hA _ ⟨u13, u15, _⟩ => gIf rfl rfl (yF rfl u13) fun gc F hF => core_val rfl hF (o_gtr (gt gc u15) rfl rfl),
 fun ρz wz hE hA _ ⟨u13, u16, _⟩ => core_val rfl rfl (o_pick_or u13 rfl u16),
 mU rfl rfl rfl,
 fun ρz wz hE hA ⟨e1, _⟩ ⟨u18, _⟩ => gIf rfl rfl (yF rfl u18) fun gc F hF => core_val rfl hF (o_fieldAddr (e1.trans h1) (fa_28_2 _ _)),
 fun ρz wz hE hA _ ⟨u18, u19, _⟩ => gIf rfl rfl (yF rfl u18) fun gc F hF => core_val rfl hF (o_load (gt gc u19) (run_load1 (lr_3 _ _) (CA.sub ((Hb_b1_.exn (hA rfl)).ca) 2 1))),
 fun ρz wz hE hA _ ⟨u18, u20, _⟩ => gIf rfl rfl (yF rfl u18) fun gc F hF => core_val rfl hF (o_lss (gt gc u20) rfl rfl),
 fun ρz wz hE hA _ ⟨u18, u21, _⟩ => core_val rfl rfl (o_pick_or u18 rfl u21),
 mU rfl rfl rfl,
 fun ρz wz hE hA ⟨e1, _⟩ ⟨u23, _⟩ => gIf rfl rfl (yF rfl u23) fun gc F hF => core_val rfl hF (o_fieldAddr (e1.trans h1) (fa_28_2 _ _)),
 fun ρz wz hE hA _ ⟨u23, u24, _⟩ => gIf rfl rfl (yF rfl u23) fun gc F hF => core_val rfl hF (o_load (gt gc u24) (run_load1 (lr_3 _ _) (CA.sub ((Hb_b1_.exn (hA rfl)).ca) 2 1))),
 fun ρz wz hE hA _ ⟨u23, u25, _⟩ => gIf rfl rfl (yF rfl u23) fun gc F hF => core_val rfl hF (o_gtr (gt gc u25) rfl rfl),
 fun ρz wz hE hA _ ⟨u23, u26, _⟩ => core_val rfl rfl (o_pick_or u23 rfl u26), trivial⟩ ?_))
  intro ρ2 w2 hN hf hr
  have h32 := hv hf 27 rfl rfl
  have h1 := (hr 1 rfl).trans h1
  have Hb_b1_n := Hb_b1_.exn hN
  have hW := hW.trans hN
  have Hb_b1_ := Hb_b1_n
  refine WP.cond rfl h32 (fun hb => ?_) (fun hb => ?_)
  · have hF := (if_pos hb).symm.trans hF
    refine WP.seq (WP.rb mixed [[]] [[]] [(2, .bool false)] (by kernel_rfl) ⟨aC rfl rfl (fun _ => rfl), trivial⟩ ?_)
    intro ρ3 w3 hN hf hr
    have h2 := hv hf 0 rfl rfl
    have hW := hW.trans hN
    refine WP.ret ?_
    show retQ Tryz.prog 66 Tryz.f21 (fun v w1 => v = .bool r ∧ Ext noG w0 w1) .ret ρ3 w3
    obtain rfl := Option.some.inj hF
    exact res1 rfl (by decide) h2 ⟨rfl, hW⟩
  have hF := (if_neg (Bool.eq_false_iff.1 hb)).symm.trans hF
  refine WP.skip (WP.seqJ (fun ρ w => ρ 1 = .pointer (some ⟨b1_, 0, none⟩) ∧ Mb w b1_ 28 (Claim.cells d_) ∧ Ext noG w0 w ∧ decision_Valid_j d_ = some r) ?_ ?_)
  · refine WP.seq (WP.rb mixed [[], [0]] [[1], []] [(33, .pointer (some ((⟨b1_, 0, none⟩ : Addr).add 3))), (34, .int .i64 d_.Benefit)] (by kernel_rfl) ⟨fun ρz wz hE hA ⟨e1, _⟩ _ => core_val rfl rfl (o_fieldAddr (e1.trans h1) (fa_28_3 _ _)),
 fun ρz wz hE hA _ ⟨u0, _⟩ => core_val rfl rfl (o_load u0 (run_load1 (lr_3 _ _) (CA.sub ((Hb_b1_.exn (hA rfl)).ca) 3 1))), trivial⟩ ?_)
    intro ρ7 w7 hN hf hr
    have h34 := hv hf 1 rfl rfl
    have h1 := (hr 1 rfl).trans h1
    have Hb_b1_n := Hb_b1_.exn hN
    have hW := hW.trans hN
    have Hb_b1_ := Hb_b1_n
    refine WP.block (WP.seqJ (fun ρ w => ∃ x : Bool, ρ 1 = .pointer (some ⟨b1_, 0, none⟩) ∧ ρ 34 = .int .i64 d_.Benefit ∧ ρ 35 = .bool x ∧ Mb w b1_ 28 (Claim.cells d_) ∧ Ext noG w0 w ∧ decision_Valid_j2 d_ x = some r) ?_ ?_)
    · refine WP.seq (WP.rb mixed [[], [0]] [[34], []] [(36, .bool (d_.Benefit == 3)), (35, .bool (d_.Benefit == 3))] (by kernel_rfl) ⟨fun ρz wz hE hA ⟨e34, _⟩ _ => core_val rfl rfl (o_eql (e34.trans h34) rfl rfl),
 aU rfl rfl rfl, trivial⟩ ?_)
      intro ρ18 w18 hN hf hr
      have h35 := hv hf 1 rfl rfl
      obtain ⟨h1, h34⟩ := k2 hr h1 h34 rfl
      have Hb_b1_n := Hb_b1_.exn hN
      have hW := hW.trans hN
      have Hb_b1_ := Hb_b1_n
      refine WP.cond rfl h35 (fun hb => ?_) (fun hb => ?_)
      · have hF := (if_pos hb).symm.trans hF
        refine WP.skip ?_
        exact ⟨(d_.Benefit == 3), h1, h34, h35, Hb_b1_, hW, hF⟩
      have hF := (if_neg (Bool.eq_false_iff.1 hb)).symm.trans hF
      refine WP.rb mixed [[], [0]] [[34], []] [(37, .bool (d_.Benefit == 4)), (35, .bool (d_.Benefit == 4))] (by kernel_rfl) ⟨fun ρz wz hE hA ⟨e34, _⟩ _ => core_val rfl rfl (o_eql (e34.trans h34) rfl rfl),
 aU rfl rfl rfl, trivial⟩ ?_
      intro ρ19 w19 hN hf hr
      have h35 := hv hf 1 rfl rfl
      obtain ⟨h1, h34⟩ := k2 hr h1 h34 rfl
      have Hb_b1_n := Hb_b1_.exn hN
      have hW := hW.trans hN
      have Hb_b1_ := Hb_b1_n
      exact ⟨(d_.Benefit == 4), h1, h34, h35, Hb_b1_, hW, hF⟩
    rintro ρ8 w8 ⟨x, h1, h34, h35, Hb_b1_, hW, hF⟩
    rw [decision_Valid_j2] at hF
    refine WP.cond rfl h35 (fun hb => ?_) (fun hb => ?_)
    · have hF := (if_pos hb).symm.trans hF
      refine WP.seq (WP.rb mixed [[], [0], [1], [2], [3], [3, 4], [3, 5], [3, 6], [7], [8], [8, 9], [8], [8, 11], [8, 10, 12], [8, 13]] [[1], [], [], [], [1], [], [], [], [], [1], [], [1], [], [], []] [(38, .pointer (some ((⟨b1_, 0, none⟩ : Addr).add 4))), (39, .int .i64 d_.Ref), (40, .bool (decide (d_.Ref < 1))), (41, .bool (decide (d_.Ref < 1))), (42, gv (!(decide (d_.Ref < 1))) (.pointer (some ((⟨b1_, 0, none⟩ : Addr).add 4)))), (43, gv (!(decide (d_.Ref < 1))) (.int .i64 d_.Ref)), (44, gv (!(decide (d_.Ref < 1))) (.bool (decide (99 < d_.Ref)))), (45, .bool (decide (d_.Ref < 1) || decide (99 < d_.Ref))), (46, .bool (decide (d_.Ref < 1) || decide (99 < d_.Ref))), (47, gv (!(decide (d_.Ref < 1) || decide (99 < d_.Ref))) (.pointer (some ((⟨b1_, 0, none⟩ : Addr).add 4)))), (48, gv (!(decide (d_.Ref < 1) || decide (99 < d_.Ref))) (.int .i64 d_.Ref)), (49, gv (!(decide (d_.Ref < 1) || decide (99 < d_.Ref))) (.pointer (some ((⟨b1_, 0, none⟩ : Addr).add 2)))), (50, gv (!(decide (d_.Ref < 1) || decide (99 < d_.Ref))) (.int .i64 d_.Person)), (51, gv (!(decide (d_.Ref < 1) || decide (99 < d_.Ref))) (.bool (d_.Ref == d_.Person))), (52, .bool ((decide (d_.Ref < 1) || decide (99 < d_.Ref)) || (d_.Ref == d_.Person)))] (by kernel_rfl) ⟨fun ρz wz hE hA ⟨e1, _⟩ _ => core_val rfl rfl (o_fieldAddr (e1.trans h1) (fa_28_4 _ _)),
 fun ρz wz hE hA _ ⟨u0, _⟩ => core_val rfl rfl (o_load u0 (run_load1 (lr_3 _ _) (CA.sub ((Hb_b1_.exn (hA rfl)).ca) 4 1))),
 fun ρz wz hE hA _ ⟨u1, _⟩ => core_val rfl rfl (o_lss u1 rfl rfl),
 mU rfl rfl rfl,
 fun ρz wz hE hA ⟨e1, _⟩ ⟨u3, _⟩ => gIf rfl rfl (yF rfl u3) fun gc F hF => core_val rfl hF (o_fieldAddr (e1.trans h1) (fa_28_4 _ _)),
 fun ρz wz hE hA _ ⟨u3, u4, _⟩ => gIf rfl rfl (yF rfl u3) fun gc F hF => core_val rfl hF (o_load (gt gc u4) (run_load1 (lr_3 _ _) (CA.sub ((Hb_b1_.exn (hA rfl)).ca) 4 1))),
 fun ρz wz hE hA _ ⟨u3, u5, _⟩ => gIf rfl rfl (yF rfl u3) fun gc F hF => core_val rfl hF (o_gtr (gt gc u5) rfl rfl),
 fun ρz wz hE hA _ ⟨u3, u6, _⟩ => core_val rfl rfl (o_pick_or u3 rfl u6),
 mU rfl rfl rfl,
 fun ρz wz hE hA ⟨e1, _⟩ ⟨u8, _⟩ => gIf rfl rfl (yF rfl u8) fun gc F hF => core_val rfl hF (o_fieldAddr (e1.trans h1) (fa_28_4 _ _)),
 fun ρz wz hE hA _ ⟨u8, u9, _⟩ => gIf rfl rfl (yF rfl u8) fun gc F hF => core_val rfl hF (o_load (gt gc u9) (run_load1 (lr_3 _ _) (CA.sub ((Hb_b1_.exn (hA rfl)).ca) 4 1))),
 fun ρz wz hE hA ⟨e1, _⟩ ⟨u8, _⟩ => gIf rfl rfl (yF rfl u8) fun gc F hF => core_val rfl hF (o_fieldAddr (e1.trans h1) (fa_28_2 _ _)),
 fun ρz wz hE hA _ ⟨u8, u11, _⟩ => gIf rfl rfl (yF rfl u8) fun gc F hF => core_val rfl hF (o_load (gt gc u11) (run_load1 (lr_3 _ _) (CA.sub ((Hb_b1_.exn (hA rfl)).ca) 2 1))),
 fun ρz wz hE hA _ ⟨u8, u10, u12, _⟩ => gIf rfl rfl (yF rfl u8) fun gc F hF => core_val rfl hF (o_eql (gt gc u10) (gt gc u12) rfl),
 fun ρz wz hE hA _ ⟨u8, u13, _⟩ => core_val rfl rfl (o_pick_or u8 rfl u13), trivial⟩ ?_)
      intro ρ9 w9 hN hf hr
      have h52 := hv hf 14 rfl rfl
      have h1 := (hr 1 rfl).trans h1
      have Hb_b1_n := Hb_b1_.exn hN
      have hW := hW.trans hN
      have Hb_b1_ := Hb_b1_n
      refine WP.cond rfl h52 (fun hb => ?_) (fun hb => ?_)
      · have hF := (if_pos hb).symm.trans hF
        refine WP.seq (WP.rb mixed [[]] [[]] [(2, .bool false)] (by kernel_rfl) ⟨aC rfl rfl (fun _ => rfl), trivial⟩ ?_)
        intro ρ10 w10 hN hf hr
        have h2 := hv hf 0 rfl rfl
        have hW := hW.trans hN
        refine WP.ret ?_
        show retQ Tryz.prog 66 Tryz.f21 (fun v w1 => v = .bool r ∧ Ext noG w0 w1) .ret ρ10 w10
        obtain rfl := Option.some.inj hF
        exact res1 rfl (by decide) h2 ⟨rfl, hW⟩
      have hF := (if_neg (Bool.eq_false_iff.1 hb)).symm.trans hF
      refine WP.skip ?_
      exact ⟨h1, Hb_b1_, hW, hF⟩
    have hF := (if_neg (Bool.eq_false_iff.1 hb)).symm.trans hF
    refine WP.seqJ (fun ρ w => ∃ x2 : Bool, ρ 1 = .pointer (some ⟨b1_, 0, none⟩) ∧ ρ 53 = .bool x2 ∧ Mb w b1_ 28 (Claim.cells d_) ∧ Ext noG w0 w ∧ decision_Valid_j3 d_ x2 = some r) ?_ ?_
    · refine WP.seq (WP.rb mixed [[], [0]] [[34], []] [(54, .bool (d_.Benefit == 1)), (53, .bool (d_.Benefit == 1))] (by kernel_rfl) ⟨fun ρz wz hE hA ⟨e34, _⟩ _ => core_val rfl rfl (o_eql (e34.trans h34) rfl rfl),
 aU rfl rfl rfl, trivial⟩ ?_)
      intro ρ15 w15 hN hf hr
      have h53 := hv hf 1 rfl rfl
      obtain ⟨h1, h34⟩ := k2 hr h1 h34 rfl
      have Hb_b1_n := Hb_b1_.exn hN
      have hW := hW.trans hN
      have Hb_b1_ := Hb_b1_n
      refine WP.cond rfl h53 (fun hb => ?_) (fun hb => ?_)
      · have hF := (if_pos hb).symm.trans hF
        refine WP.skip ?_
        exact ⟨(d_.Benefit == 1), h1, h53, Hb_b1_, hW, hF⟩
      have hF := (if_neg (Bool.eq_false_iff.1 hb)).symm.trans hF
      refine WP.seq (WP.rb mixed [[], [0]] [[34], []] [(55, .bool (d_.Benefit == 2)), (53, .bool (d_.Benefit == 2))] (by kernel_rfl) ⟨fun ρz wz hE hA ⟨e34, _⟩ _ => core_val rfl rfl (o_eql (e34.trans h34) rfl rfl),
 aU rfl rfl rfl, trivial⟩ ?_)
      intro ρ16 w16 hN hf hr
      have h53 := hv hf 1 rfl rfl
      obtain ⟨h1, h34⟩ := k2 hr h1 h34 rfl
      have Hb_b1_n := Hb_b1_.exn hN
      have hW := hW.trans hN
      have Hb_b1_ := Hb_b1_n
      refine WP.cond rfl h53 (fun hb => ?_) (fun hb => ?_)
      · have hF := (if_pos hb).symm.trans hF
        refine WP.skip ?_
        exact ⟨(d_.Benefit == 2), h1, h53, Hb_b1_, hW, hF⟩
      have hF := (if_neg (Bool.eq_false_iff.1 hb)).symm.trans hF
      refine WP.rb mixed [[], [0]] [[34], []] [(56, .bool (d_.Benefit == 5)), (53, .bool (d_.Benefit == 5))] (by kernel_rfl) ⟨fun ρz wz hE hA ⟨e34, _⟩ _ => core_val rfl rfl (o_eql (e34.trans h34) rfl rfl),
 aU rfl rfl rfl, trivial⟩ ?_
      intro ρ17 w17 hN hf hr
      have h53 := hv hf 1 rfl rfl
      have h1 := (hr 1 rfl).trans h1
      have Hb_b1_n := Hb_b1_.exn hN
      have hW := hW.trans hN
      have Hb_b1_ := Hb_b1_n
      exact ⟨(d_.Benefit == 5), h1, h53, Hb_b1_, hW, hF⟩
    rintro ρ11 w11 ⟨x2, h1, h53, Hb_b1_, hW, hF⟩
    rw [decision_Valid_j3] at hF
    refine WP.cond rfl h53 (fun hb => ?_) (fun hb => ?_)
    · have hF := (if_pos hb).symm.trans hF
      refine WP.seq (WP.rb mixed [[], [0], [1]] [[1], [], []] [(57, .pointer (some ((⟨b1_, 0, none⟩ : Addr).add 4))), (58, .int .i64 d_.Ref), (59, .bool (d_.Ref != 0))] (by kernel_rfl) ⟨fun ρz wz hE hA ⟨e1, _⟩ _ => core_val rfl rfl (o_fieldAddr (e1.trans h1) (fa_28_4 _ _)),
 fun ρz wz hE hA _ ⟨u0, _⟩ => core_val rfl rfl (o_load u0 (run_load1 (lr_3 _ _) (CA.sub ((Hb_b1_.exn (hA rfl)).ca) 4 1))),
 fun ρz wz hE hA _ ⟨u1, _⟩ => core_val rfl rfl (o_neq u1 rfl rfl), trivial⟩ ?_)
      intro ρ12 w12 hN hf hr
      have h59 := hv hf 2 rfl rfl
      have h1 := (hr 1 rfl).trans h1
      have Hb_b1_n := Hb_b1_.exn hN
      have hW := hW.trans hN
      have Hb_b1_ := Hb_b1_n
      refine WP.cond rfl h59 (fun hb => ?_) (fun hb => ?_)
      · have hF := (if_pos hb).symm.trans hF
        refine WP.seq (WP.rb mixed [[]] [[]] [(2, .bool false)] (by kernel_rfl) ⟨aC rfl rfl (fun _ => rfl), trivial⟩ ?_)
        intro ρ13 w13 hN hf hr
        have h2 := hv hf 0 rfl rfl
        have hW := hW.trans hN
        refine WP.ret ?_
        show retQ Tryz.prog 66 Tryz.f21 (fun v w1 => v = .bool r ∧ Ext noG w0 w1) .ret ρ13 w13
        obtain rfl := Option.some.inj hF
        exact res1 rfl (by decide) h2 ⟨rfl, hW⟩
      have hF := (if_neg (Bool.eq_false_iff.1 hb)).symm.trans hF
      refine WP.skip ?_
      exact ⟨h1, Hb_b1_, hW, hF⟩
    have hF := (if_neg (Bool.eq_false_iff.1 hb)).symm.trans hF
    refine WP.seq (WP.rb mixed [[]] [[]] [(2, .bool false)] (by kernel_rfl) ⟨aC rfl rfl (fun _ => rfl), trivial⟩ ?_)
    intro ρ14 w14 hN hf hr
    have h2 := hv hf 0 rfl rfl
    have hW := hW.trans hN
    refine WP.ret ?_
    show retQ Tryz.prog 66 Tryz.f21 (fun v w1 => v = .bool r ∧ Ext noG w0 w1) .ret ρ14 w14
    obtain rfl := Option.some.inj hF
    exact res1 rfl (by decide) h2 ⟨rfl, hW⟩
  rintro ρ4 w4 ⟨h1, Hb_b1_, hW, hF⟩
  rw [decision_Valid_j] at hF
  refine WP.seq ?_
  obtain ⟨z, hz, hF⟩ := obind hF
  refine WP.rb mixed [[], [0], [1], [2], [2], [3], [4]] [[1], [], [], [], [], [], []] [(61, Claim.val d_), (62, .tuple #[.int .i64 z.1, .bool z.2]), (60, .tuple #[.int .i64 z.1, .bool z.2]), (63, .int .i64 z.1), (64, .bool z.2), (3, .int .i64 z.1), (4, .bool z.2)] (by kernel_rfl) ⟨fun ρz wz hE hA ⟨e1, _⟩ _ => core_val rfl rfl (o_load (e1.trans h1) (run_loadN (cs := (Claim.cells d_)) (lr_28 _ _) rfl ((Hb_b1_.exn (hA rfl)).ca))),
 fun ρz wz hE hA _ ⟨u0, _⟩ => core_call rfl (call_args1 u0) cf_20 (decision_Start_ok  _  hz),
 mU rfl rfl rfl,
 fun ρz wz hE hA _ ⟨u2, _⟩ => core_val rfl rfl (o_extract u2 (by kernel_rfl)),
 fun ρz wz hE hA _ ⟨u2, _⟩ => core_val rfl rfl (o_extract u2 (by kernel_rfl)),
 aU rfl rfl rfl,
 aU rfl rfl rfl, trivial⟩ ?_
  intro ρ5 w5 hN hf hr
  have h4 := hv hf 6 rfl rfl
  have hW := hW.trans hN
  refine WP.seq (WP.rb mixed [[], [0]] [[4], []] [(65, .bool z.2), (2, .bool z.2)] (by kernel_rfl) ⟨mE rfl rfl h4,
 aU rfl rfl rfl, trivial⟩ ?_)
  intro ρ6 w6 hN hf hr
  have h2 := hv hf 1 rfl rfl
  have hW := hW.trans hN
  refine WP.ret ?_
  show retQ Tryz.prog 66 Tryz.f21 (fun v w1 => v = .bool r ∧ Ext noG w0 w1) .ret ρ6 w6
  obtain rfl := Option.some.inj hF
  exact res1 rfl (by decide) h2 ⟨rfl, hW⟩

set_option maxHeartbeats 4000000 in
theorem slices_insertionSortCmpFunc_of_api_Claim_ok {w0 : World} (data_ : List Claim) (a_ : Int) (b_ : Int) (cmp_ : (Claim × Claim) → Option Int) {v_data_ : Value} {B : Nat} (O0 : Own B 28 6 Claim.cells w0 v_data_ data_) {v_cmp_ : Value} (H_cmp_ : FnR Tryz.prog fnV_75 fnW_75 cmp_ (fun b => Value.ownBlock v_data_ = some b) w0 v_cmp_) {r : List Claim} (hF : slices_insertionSortCmpFunc_of_api_Claim data_ a_ b_ cmp_ = some r) :
    Calls Tryz.prog 128 #[v_data_, .int .i64 a_, .int .i64 b_, v_cmp_] w0 fun e w1 => e = .returned (.tuple #[]) ∧ Ext (fun b => Value.ownBlock v_data_ = some b) w0 w1 ∧ Own B 28 6 Claim.cells w1 v_data_ r := by
  refine (Calls.start (P := Tryz.prog) (args := [v_data_, .int .i64 a_, .int .i64 b_, v_cmp_]) (R := fun v w1 => (v = .tuple #[] ∧ Own B 28 6 Claim.cells w1 v_data_ r) ∧ Ext (fun b => Value.ownBlock v_data_ = some b) w0 w1) (n := 53) (w := w0) Tryz.func128 rfl rfl (Nat.le_of_ble_eq_true rfl) (fun ρ hargs => ?_)).mono (fun e w1 ⟨v, he, hv, hE⟩ => ⟨hv.1 ▸ he, hE, hv.2⟩)
  have h0 := hargs 0 _ rfl
  have h1 := hargs 1 _ rfl
  have h2 := hargs 2 _ rfl
  have h3 := hargs 3 _ rfl
  have hW := Ext.refl (fun b => Value.ownBlock v_data_ = some b) w0
  have H_cmp_ := H_cmp_.start
  rw [slices_insertionSortCmpFunc_of_api_Claim] at hF
  refine WP.seq (WP.rb mixed [[], [0], [1]] [[1], [], []] [(10, .int .i64 a_), (11, .int .i64 (i64 (a_ + 1))), (8, .int .i64 (i64 (a_ + 1)))] (by kernel_rfl) ⟨mE rfl rfl h1,
 fun ρz wz hE hA _ ⟨u0, _⟩ => core_val rfl rfl (o_add u0 rfl rfl),
 aU rfl rfl rfl, trivial⟩ ?_)
  intro ρ1 w1 hN hf hr
  have h8 := hv hf 2 rfl rfl
  obtain ⟨h0, h1, h2, h3⟩ := k4 hr h0 h1 h2 h3 rfl
  have Oo_O0 := O0
  have H_cmp_ := H_cmp_.exn hN
  have hW := hW.trans hN.of_no
  have O0 := O0.exn hN
  refine WP.block (WP.loop (fun k_ ρ w => ∃ i_ : Int, ∃ data_l : List Claim, ρ 0 = v_data_ ∧ ρ 1 = .int .i64 a_ ∧ ρ 2 = .int .i64 b_ ∧ ρ 3 = v_cmp_ ∧ ρ 8 = .int .i64 i_ ∧ FnR Tryz.prog fnV_75 fnW_75 cmp_ (gfr (fun b => Value.ownBlock v_data_ = some b) w0) w v_cmp_ ∧ Own B 28 6 Claim.cells w v_data_ data_l ∧ Ext (fun b => Value.ownBlock v_data_ = some b) w0 w ∧ loopC k_ (slices_insertionSortCmpFunc_of_api_Claim_l a_ b_ cmp_) (i_, data_l) = some r) FU ⟨i64 (a_ + 1), data_, h0, h1, h2, h3, h8, H_cmp_, O0, hW, hF⟩ (fun _ _ h => by obtain ⟨_, _, _, _, _, _, _, _, _, _, h⟩ := h; cases h) ?_)
  rintro k_ ρ2 w2 ⟨i_, data_l, h0, h1, h2, h3, h8, H_cmp_, O0, hW, hF⟩
  have hF : slices_insertionSortCmpFunc_of_api_Claim_l a_ b_ cmp_ (loopC k_ (slices_insertionSortCmpFunc_of_api_Claim_l a_ b_ cmp_)) (i_, data_l) = some r := hF
  generalize hrec_ : loopC k_ (slices_insertionSortCmpFunc_of_api_Claim_l a_ b_ cmp_) = rec_ at hF
  rw [slices_insertionSortCmpFunc_of_api_Claim_l] at hF
  refine WP.seq (WP.seq (WP.rb mixed [[], [], [0, 1]] [[8], [2], []] [(12, .int .i64 i_), (13, .int .i64 b_), (14, .bool (decide (i_ < b_)))] (by kernel_rfl) ⟨mE rfl rfl h8,
 mE rfl rfl h2,
 fun ρz wz hE hA _ ⟨u0, u1, _⟩ => core_val rfl rfl (o_lss u0 u1 rfl), trivial⟩ ?_))
  intro ρ3 w3 hN hf hr
  have h14 := hv hf 2 rfl rfl
  obtain ⟨h0, h1, h2, h3, h8⟩ := k5 hr h0 h1 h2 h3 h8 rfl
  have Oo_O0 := O0
  have H_cmp_ := H_cmp_.exn hN
  have hW := hW.trans hN.of_no
  have O0 := O0.exn hN
  refine WP.cond rfl h14 (fun hb => ?_) (fun hb => ?_)
  · have hF := (if_pos hb).symm.trans hF
    refine WP.skip (WP.seq (WP.block (WP.seq (WP.rb mixed [[], [0]] [[8], []] [(17, .int .i64 i_), (9, .int .i64 i_)] (by kernel_rfl) ⟨mE rfl rfl h8,
 aU rfl rfl rfl, trivial⟩ ?_))))
    intro ρ4 w4 hN hf hr
    have h9 := hv hf 1 rfl rfl
    obtain ⟨h0, h1, h2, h3, h8⟩ := k5 hr h0 h1 h2 h3 h8 rfl
    have Oo_O0 := O0
    have H_cmp_ := H_cmp_.exn hN
    have hW := hW.trans hN.of_no
    have O0 := O0.exn hN
    refine WP.block (WP.loop (fun k_2 ρ w => ∃ j_ : Int, ∃ data_l2 : List Claim, ρ 0 = v_data_ ∧ ρ 1 = .int .i64 a_ ∧ ρ 2 = .int .i64 b_ ∧ ρ 3 = v_cmp_ ∧ ρ 8 = .int .i64 i_ ∧ ρ 9 = .int .i64 j_ ∧ FnR Tryz.prog fnV_75 fnW_75 cmp_ (gfr (fun b => Value.ownBlock v_data_ = some b) w0) w v_cmp_ ∧ Own B 28 6 Claim.cells w v_data_ data_l2 ∧ Ext (fun b => Value.ownBlock v_data_ = some b) w0 w ∧ loopC k_2 (slices_insertionSortCmpFunc_of_api_Claim_l2 a_ cmp_ i_ rec_) (j_, data_l2) = some r) FU ⟨i_, data_l, h0, h1, h2, h3, h8, h9, H_cmp_, O0, hW, hF⟩ (fun _ _ h => by obtain ⟨_, _, _, _, _, _, _, _, _, _, _, h⟩ := h; cases h) ?_)
    rintro k_2 ρ5 w5 ⟨j_, data_l2, h0, h1, h2, h3, h8, h9, H_cmp_, O0, hW, hF⟩
    have hF : slices_insertionSortCmpFunc_of_api_Claim_l2 a_ cmp_ i_ rec_ (loopC k_2 (slices_insertionSortCmpFunc_of_api_Claim_l2 a_ cmp_ i_ rec_)) (j_, data_l2) = some r := hF
    generalize hrec_2 : loopC k_2 (slices_insertionSortCmpFunc_of_api_Claim_l2 a_ cmp_ i_ rec_) = rec_2 at hF
    rw [slices_insertionSortCmpFunc_of_api_Claim_l2] at hF
    refine WP.seq (WP.seq ?_)
    obtain ⟨c, hc, hF⟩ := obind hF
    obtain ⟨y, hy, hc⟩ := andB hc
    obtain ⟨ay, cy, hvy, hiy, hAy⟩ := RepSl.getFI (Own.rep (hn := fun _ => rfl) (G := noG) O0 (fun _ _ h => h)) hy
    obtain ⟨y2, hy2, hc⟩ := andB hc
    obtain ⟨ay2, cy2, hvy2, hiy2, hAy2⟩ := RepSl.getFI (Own.rep (hn := fun _ => rfl) (G := noG) O0 (fun _ _ h => h)) hy2
    obtain ⟨z, hz, hc⟩ := andB hc
    have hc := andE hc
    refine WP.rb mixed [[], [], [0, 1], [2], [3], [3], [3], [3, 5, 6], [3, 7], [3], [3], [3, 10], [3, 9, 11], [3, 12], [3, 4, 8, 13], [3, 14], [3, 15]] [[9], [1], [], [], [3], [0], [9], [], [], [0], [9], [], [], [], [], [], []] [(18, .int .i64 j_), (19, .int .i64 a_), (20, .bool (decide (a_ < j_))), (21, .bool (decide (a_ < j_))), (22, gv (decide (a_ < j_)) v_cmp_), (23, gv (decide (a_ < j_)) v_data_), (24, gv (decide (a_ < j_)) (.int .i64 j_)), (25, gv (decide (a_ < j_)) (.pointer (some (ay.add (Int.toNat j_ * 6))))), (26, gv (decide (a_ < j_)) (Claim.val y)), (27, gv (decide (a_ < j_)) v_data_), (28, gv (decide (a_ < j_)) (.int .i64 j_)), (29, gv (decide (a_ < j_)) (.int .i64 (i64 (j_ - 1)))), (30, gv (decide (a_ < j_)) (.pointer (some (ay2.add (Int.toNat (i64 (j_ - 1)) * 6))))), (31, gv (decide (a_ < j_)) (Claim.val y2)), (32, gv (decide (a_ < j_)) (.int .i64 z)), (33, gv (decide (a_ < j_)) (.bool (decide (z < 0)))), (34, .bool c)] (by kernel_rfl) ⟨mE rfl rfl h9,
 mE rfl rfl h1,
 fun ρz wz hE hA _ ⟨u0, u1, _⟩ => core_val rfl rfl (o_gtr u0 u1 rfl),
 mU rfl rfl rfl,
 fun ρz wz hE hA ⟨e3, _⟩ ⟨u3, _⟩ => gIf rfl rfl (yT rfl u3) fun gc F hF => core_val rfl hF (o_move (e3.trans h3)),
 fun ρz wz hE hA ⟨e0, _⟩ ⟨u3, _⟩ => gIf rfl rfl (yT rfl u3) fun gc F hF => core_val rfl hF (o_move (e0.trans h0)),
 fun ρz wz hE hA ⟨e9, _⟩ ⟨u3, _⟩ => gIf rfl rfl (yT rfl u3) fun gc F hF => core_val rfl hF (o_move (e9.trans h9)),
 fun ρz wz hE hA _ ⟨u3, u5, u6, _⟩ => gIf rfl rfl (yT rfl u3) fun gc F hF => core_val rfl hF (o_indexAddr ((gt gc u5).trans (hvy gc)) (gt gc u6) (ia_23 (hiy gc))),
 fun ρz wz hE hA _ ⟨u3, u7, _⟩ => gIf rfl rfl (yT rfl u3) fun gc F hF => core_val rfl hF (o_load (gt gc u7) (run_loadN (cs := (Claim.cells y)) (lr_28 _ _) rfl (((hAy gc).exn (hA rfl)).ca))),
 fun ρz wz hE hA ⟨e0, _⟩ ⟨u3, _⟩ => gIf rfl rfl (yT rfl u3) fun gc F hF => core_val rfl hF (o_move (e0.trans h0)),
 fun ρz wz hE hA ⟨e9, _⟩ ⟨u3, _⟩ => gIf rfl rfl (yT rfl u3) fun gc F hF => core_val rfl hF (o_move (e9.trans h9)),
 fun ρz wz hE hA _ ⟨u3, u10, _⟩ => gIf rfl rfl (yT rfl u3) fun gc F hF => core_val rfl hF (o_sub (gt gc u10) rfl rfl),
 fun ρz wz hE hA _ ⟨u3, u9, u11, _⟩ => gIf rfl rfl (yT rfl u3) fun gc F hF => core_val rfl hF (o_indexAddr ((gt gc u9).trans (hvy2 gc)) (gt gc u11) (ia_23 (hiy2 gc))),
 fun ρz wz hE hA _ ⟨u3, u12, _⟩ => gIf rfl rfl (yT rfl u3) fun gc F hF => core_val rfl hF (o_load (gt gc u12) (run_loadN (cs := (Claim.cells y2)) (lr_28 _ _) rfl (((hAy2 gc).exn (hA rfl)).ca))),
 fun ρz wz hE hA _ ⟨u3, u4, u8, u13, _⟩ => gIf rfl rfl (yT rfl u3) fun gc F hF => core_callF (V := fnV_75) (W := fnW_75) (a := (y, y2)) (r := z) hF (gt gc u4) (call_args2 (gt gc u8) (gt gc u13)) (H_cmp_.exn (hA rfl)).no (hz gc),
 fun ρz wz hE hA _ ⟨u3, u14, _⟩ => gIf rfl rfl (yT rfl u3) fun gc F hF => core_val rfl hF (o_lss (gt gc u14) rfl rfl),
 fun ρz wz hE hA _ ⟨u3, u15, _⟩ => core_valE rfl rfl (congrArg Value.bool hc) (o_pick_and u3 u15 rfl), trivial⟩ ?_
    intro ρ6 w6 hN hf hr
    have h34 := hv hf 16 rfl rfl
    obtain ⟨h0, h1, h2, h3, h8, h9⟩ := k6 hr h0 h1 h2 h3 h8 h9 rfl
    have Oo_O0 := O0
    have H_cmp_ := H_cmp_.exn hN
    have hW := hW.trans hN.of_no
    have O0 := O0.exn hN
    refine WP.cond rfl h34 (fun hb => ?_) (fun hb => ?_)
    · have hF := (if_pos hb).symm.trans hF
      refine WP.skip (WP.seq (WP.block ?_))
      obtain ⟨y3, hy3, hF⟩ := obind hF
      obtain ⟨ay3, cy3, hvy3, hiy3, hAy3⟩ := RepSl.getF (Own.rep (hn := fun _ => rfl) (G := noG) O0 (fun _ _ h => h)) hy3
      obtain ⟨y4, hy4, hF⟩ := obind hF
      obtain ⟨ay4, cy4, hvy4, hiy4, hAy4⟩ := RepSl.getF (Own.rep (hn := fun _ => rfl) (G := noG) O0 (fun _ _ h => h)) hy4
      obtain ⟨y5, hy5, hF⟩ := obind hF
      obtain ⟨ay5, cy5, hvy5, hiy5, hAy5⟩ := RepSl.getF (Own.rep (hn := fun _ => rfl) (G := noG) O0 (fun _ _ h => h)) hy5
      obtain ⟨y6, hy6, hF⟩ := obind hF
      obtain ⟨ay6, cy6, hvy6, hiy6, hAy6⟩ := RepSl.getF (Own.rep (hn := fun _ => rfl) (G := noG) O0 (fun _ _ h => h)) hy6
      refine WP.region mixed [[], [], [], [], [3], [], [], [6], [5, 7], [8], [], [], [10, 11], [12], [0, 1], [9, 13, 14], [2, 4, 15], [9, 13, 15, 16]] [[], [], [], [], [3], [], [], [6], [5, 7], [8], [], [], [10, 11], [12], [0, 1], [9, 14], [2, 4], [13, 15, 16]] [[0], [9], [0], [9], [], [0], [9], [], [], [], [0], [9], [], [], [], [], [], []] [15, 17] [(15, 17)] [val 37 (v_data_), val 38 (.int .i64 j_), val 39 (v_data_), val 40 (.int .i64 j_), val 41 (.int .i64 (i64 (j_ - 1))), val 42 (v_data_), val 43 (.int .i64 j_), val 44 (.int .i64 (i64 (j_ - 1))), val 45 (.pointer (some (ay3.add (Int.toNat (i64 (j_ - 1)) * 6)))), val 46 (Claim.val y3), val 47 (v_data_), val 48 (.int .i64 j_), val 49 (.pointer (some (ay4.add (Int.toNat j_ * 6)))), val 50 (Claim.val y4), val 51 (.pointer (some (ay5.add (Int.toNat j_ * 6)))), (51, fun _ wz => Own B 28 6 Claim.cells wz v_data_ (setI data_l2 j_ y3)), val 52 (.pointer (some (ay6.add (Int.toNat (i64 (j_ - 1)) * 6)))), (52, fun _ wz => Own B 28 6 Claim.cells wz v_data_ (setI (setI data_l2 j_ y3) (i64 (j_ - 1)) y4))] (fun b => Value.ownBlock v_data_ = some b) (by kernel_rfl) ⟨sV, sV, sV, sV, sV, sV, sV, sV, sV, sV, sV, sV, sV, sV, sV, fun _ _ _ hE h => h.exn hE, sV, fun _ _ _ hE h => h.exn hE, trivial⟩ ⟨mE rfl rfl h0,
 mE rfl rfl h9,
 mE rfl rfl h0,
 mE rfl rfl h9,
 fun ρz wz hE hA _ ⟨u3, _⟩ => core_val rfl rfl (o_sub u3 rfl rfl),
 mE rfl rfl h0,
 mE rfl rfl h9,
 fun ρz wz hE hA _ ⟨u6, _⟩ => core_val rfl rfl (o_sub u6 rfl rfl),
 fun ρz wz hE hA _ ⟨u5, u7, _⟩ => core_val rfl rfl (o_indexAddr (u5.trans hvy3) u7 (ia_23 hiy3)),
 fun ρz wz hE hA _ ⟨u8, _⟩ => core_val rfl rfl (o_load u8 (run_loadN (cs := (Claim.cells y3)) (lr_28 _ _) rfl ((hAy3.exn (hA rfl)).ca))),
 mE rfl rfl h0,
 mE rfl rfl h9,
 fun ρz wz hE hA _ ⟨u10, u11, _⟩ => core_val rfl rfl (o_indexAddr (u10.trans hvy4) u11 (ia_23 hiy4)),
 fun ρz wz hE hA _ ⟨u12, _⟩ => core_val rfl rfl (o_load u12 (run_loadN (cs := (Claim.cells y4)) (lr_28 _ _) rfl ((hAy4.exn (hA rfl)).ca))),
 fun ρz wz hE hA _ ⟨u0, u1, _⟩ => core_val rfl rfl (o_indexAddr (u0.trans hvy5) u1 (ia_23 hiy5)),
 fun ρz wz hE hA _ ⟨u9, u14, _⟩ => core_storeOwn (n := 6) (off := 0) (cells := Claim.cells) (y1 := y3) (vs := (Claim.cells y3)) rfl rfl (fun _ h => h) (fun _ => rfl) u14 hvy5 rfl u9 (O0.exn (hA rfl)) hy5 (fun a w => st_28 _ a w) (Nat.le_of_ble_eq_true rfl) (full_set (cells := Claim.cells) (n := 6) (fun _ => rfl) rfl) (one_28 _),
 fun ρz wz hE hA _ ⟨u2, u4, _⟩ => core_val rfl rfl (o_indexAddr (u2.trans hvy6) u4 (ia_23 hiy6)),
 fun ρz wz hE hA _ ⟨u13, u15, u16, _⟩ => core_storeOwn (n := 6) (off := 0) (cells := Claim.cells) (y1 := y4) (vs := (Claim.cells y4)) rfl rfl (fun _ h => h) (fun _ => rfl) u16 hvy6 rfl u13 u15 (Exists.choose_spec (getI_setI_some hy6)) (fun a w => st_28 _ a w) (Nat.le_of_ble_eq_true rfl) (full_set (cells := Claim.cells) (n := 6) (fun _ => rfl) rfl) (one_28 _), trivial⟩ ?_
      intro ρ7 w7 hE hN hf hr
      obtain ⟨h0, h1, h2, h3, h8, h9⟩ := k6 hr h0 h1 h2 h3 h8 h9 rfl
      have Oo_O0 := O0
      have H_cmp_ := H_cmp_.ext (hE.mono fun b hb => .inl hb)
      have hW := hW.trans hE
      have O0 := hf 17 rfl
      refine WP.rv mixed [[], [0], [0, 1]] [[], [0], [1]] [[9], [], []] [(35, .int .i64 j_), (36, .int .i64 (i64 (j_ - 1))), (9, .int .i64 (i64 (j_ - 1)))] (by kernel_rfl) ⟨mE rfl rfl h9,
 fun ρz wz hE hA _ ⟨u0, _⟩ => core_val rfl rfl (o_sub u0 rfl rfl),
 aU rfl rfl rfl, trivial⟩ ?_
      intro ρ8 w8 hN hf hr
      have h9 := hv hf 2 rfl rfl
      obtain ⟨h0, h1, h2, h3, h8⟩ := k5 hr h0 h1 h2 h3 h8 rfl
      have Oo_O0 := O0
      have H_cmp_ := H_cmp_.exn hN
      have hW := hW.trans hN.of_no
      have O0 := O0.exn hN
      exact ⟨i64 (j_ - 1), setI (setI data_l2 j_ y3) (i64 (j_ - 1)) y4, h0, h1, h2, h3, h8, h9, H_cmp_, O0, hW, (by first | exact hF | (rw [hrec_2]; exact hF))⟩
    have hF := (if_neg (Bool.eq_false_iff.1 hb)).symm.trans hF
    refine WP.exit (thenQ_exit (thenQ_exit (blockQ_hit (WP.rv mixed [[], [0], [0, 1]] [[], [0], [1]] [[8], [], []] [(15, .int .i64 i_), (16, .int .i64 (i64 (i_ + 1))), (8, .int .i64 (i64 (i_ + 1)))] (by kernel_rfl) ⟨mE rfl rfl h8,
 fun ρz wz hE hA _ ⟨u0, _⟩ => core_val rfl rfl (o_add u0 rfl rfl),
 aU rfl rfl rfl, trivial⟩ ?_))))
    intro ρ9 w9 hN hf hr
    have h8 := hv hf 2 rfl rfl
    obtain ⟨h0, h1, h2, h3⟩ := k4 hr h0 h1 h2 h3 rfl
    have Oo_O0 := O0
    have H_cmp_ := H_cmp_.exn hN
    have hW := hW.trans hN.of_no
    have O0 := O0.exn hN
    exact ⟨i64 (i_ + 1), data_l2, h0, h1, h2, h3, h8, H_cmp_, O0, hW, (by first | exact hF | (rw [hrec_]; exact hF))⟩
  have hF := (if_neg (Bool.eq_false_iff.1 hb)).symm.trans hF
  refine WP.exit (thenQ_exit (thenQ_exit (blockQ_hit ?_)))
  show retQ Tryz.prog 53 Tryz.f128 (fun v w1 => (v = .tuple #[] ∧ Own B 28 6 Claim.cells w1 v_data_ r) ∧ Ext (fun b => Value.ownBlock v_data_ = some b) w0 w1) .ret ρ3 w3
  obtain rfl := Option.some.inj hF
  exact res0 rfl ⟨⟨rfl, O0⟩, hW⟩

theorem slices_SortFunc_of_api_Claim_ok {w0 : World} (x_ : List Claim) (cmp_ : Claim × Claim → Option Int) {v_x_ : Value} {B : Nat} (O0 : Own B 28 6 Claim.cells w0 v_x_ x_) {v_cmp_ : Value} (H_cmp_ : FnR Tryz.prog fnV_75 fnW_75 cmp_ (fun b => Value.ownBlock v_x_ = some b) w0 v_cmp_) (hS : TotO cmp_) {r : List Claim} (hF : slices_SortFunc_of_api_Claim x_ cmp_ = some r) :
    Calls Tryz.prog 49 #[v_x_, v_cmp_] w0 fun e w1 => e = .returned (.tuple #[]) ∧ Ext (fun b => Value.ownBlock v_x_ = some b) w0 w1 ∧ Own B 28 6 Claim.cells w1 v_x_ r :=
  sortF_calls (P := Tryz.prog) (V := fnV_75) (W := fnW_75) Go.Proofs.Tryz.sortLay49 agE_28 szE_28 (fun _ => rfl) one_28 (fun _ _ => rfl) (fun _ => rfl) hS (by decide) O0 H_cmp_ hF

set_option maxHeartbeats 4000000 in
theorem cmp_isNaN_of_int_ok {w0 : World} (x_ : Int) {r : Bool} (hF : cmp_isNaN_of_int x_ = some r) :
    Calls Tryz.prog 82 #[.int .i64 x_] w0 fun e w1 => e = .returned (.bool r) ∧ Ext noG w0 w1 := by
  refine (Calls.start (P := Tryz.prog) (args := [.int .i64 x_]) (R := fun v w1 => v = .bool r ∧ Ext noG w0 w1) (n := 6) (w := w0) Tryz.func82 rfl rfl (Nat.le_of_ble_eq_true rfl) (fun ρ hargs => ?_)).mono (fun e w1 ⟨v, he, hv, hE⟩ => ⟨hv ▸ he, hE⟩)
  have h0 := hargs 0 _ rfl
  have hW := Ext.refl noG w0
  rw [cmp_isNaN_of_int] at hF
  refine WP.seq (WP.rb mixed [[]] [[]] [(2, .bool false)] (by kernel_rfl) ⟨aC rfl rfl (fun _ => rfl), trivial⟩ ?_)
  intro ρ1 w1 hN hf hr
  have h0 := (hr 0 rfl).trans h0
  have hW := hW.trans hN
  refine WP.seq (WP.rb mixed [[], [], [0, 1], [2]] [[0], [0], [], []] [(3, .int .i64 x_), (4, .int .i64 x_), (5, .bool (x_ != x_)), (2, .bool (x_ != x_))] (by kernel_rfl) ⟨mE rfl rfl h0,
 mE rfl rfl h0,
 fun ρz wz hE hA _ ⟨u0, u1, _⟩ => core_val rfl rfl (o_neq u0 u1 rfl),
 aU rfl rfl rfl, trivial⟩ ?_)
  intro ρ2 w2 hN hf hr
  have h2 := hv hf 3 rfl rfl
  have hW := hW.trans hN
  refine WP.ret ?_
  show retQ Tryz.prog 6 Tryz.f82 (fun v w1 => v = .bool r ∧ Ext noG w0 w1) .ret ρ2 w2
  obtain rfl := Option.some.inj hF
  exact res1 rfl (by decide) h2 ⟨rfl, hW⟩

set_option maxHeartbeats 4000000 in
theorem cmp_Compare_of_int_ok {w0 : World} (x_ : Int) (y_ : Int) {r : Int} (hF : cmp_Compare_of_int x_ y_ = some r) :
    Calls Tryz.prog 48 #[.int .i64 x_, .int .i64 y_] w0 fun e w1 => e = .returned (.int .i64 r) ∧ Ext noG w0 w1 := by
  refine (Calls.start (P := Tryz.prog) (args := [.int .i64 x_, .int .i64 y_]) (R := fun v w1 => v = .int .i64 r ∧ Ext noG w0 w1) (n := 20) (w := w0) Tryz.func48 rfl rfl (Nat.le_of_ble_eq_true rfl) (fun ρ hargs => ?_)).mono (fun e w1 ⟨v, he, hv, hE⟩ => ⟨hv ▸ he, hE⟩)
  have h0 := hargs 0 _ rfl
  have h1 := hargs 1 _ rfl
  have hW := Ext.refl noG w0
  rw [cmp_Compare_of_int] at hF
  refine WP.seq (WP.rb mixed [[]] [[]] [(4, .int .i64 0)] (by kernel_rfl) ⟨aC rfl rfl (fun _ => rfl), trivial⟩ ?_)
  intro ρ1 w1 hN hf hr
  obtain ⟨h0, h1⟩ := k2 hr h0 h1 rfl
  have hW := hW.trans hN
  refine WP.seq ?_
  obtain ⟨z, hz, hF⟩ := obind hF
  refine WP.rb mixed [[], [0], [1]] [[0], [], []] [(7, .int .i64 x_), (8, .bool z), (5, .bool z)] (by kernel_rfl) ⟨mE rfl rfl h0,
 fun ρz wz hE hA _ ⟨u0, _⟩ => core_call rfl (call_args1 u0) cf_82 (cmp_isNaN_of_int_ok  _  hz),
 aU rfl rfl rfl, trivial⟩ ?_
  intro ρ2 w2 hN hf hr
  have h5 := hv hf 2 rfl rfl
  obtain ⟨h0, h1⟩ := k2 hr h0 h1 rfl
  have hW := hW.trans hN
  refine WP.seq ?_
  obtain ⟨z2, hz2, hF⟩ := obind hF
  refine WP.rb mixed [[], [0], [1]] [[1], [], []] [(9, .int .i64 y_), (10, .bool z2), (6, .bool z2)] (by kernel_rfl) ⟨mE rfl rfl h1,
 fun ρz wz hE hA _ ⟨u0, _⟩ => core_call rfl (call_args1 u0) cf_82 (cmp_isNaN_of_int_ok  _  hz2),
 aU rfl rfl rfl, trivial⟩ ?_
  intro ρ3 w3 hN hf hr
  have h6 := hv hf 2 rfl rfl
  obtain ⟨h0, h1, h5⟩ := k3 hr h0 h1 h5 rfl
  have hW := hW.trans hN
  refine WP.seq (WP.seq (WP.rb mixed [[]] [[5]] [(11, .bool z)] (by kernel_rfl) ⟨mE rfl rfl h5, trivial⟩ ?_))
  intro ρ4 w4 hN hf hr
  have h11 := hv hf 0 rfl rfl
  obtain ⟨h0, h1, h6⟩ := k3 hr h0 h1 h6 rfl
  have hW := hW.trans hN
  refine WP.cond rfl h11 (fun hb => ?_) (fun hb => ?_)
  · have hF := (if_pos hb).symm.trans hF
    refine WP.seq (WP.seq (WP.rb mixed [[]] [[6]] [(12, .bool z2)] (by kernel_rfl) ⟨mE rfl rfl h6, trivial⟩ ?_))
    intro ρ5 w5 hN hf hr
    have h12 := hv hf 0 rfl rfl
    have hW := hW.trans hN
    refine WP.cond rfl h12 (fun hb => ?_) (fun hb => ?_)
    · have hF := (if_pos hb).symm.trans hF
      refine WP.seq (WP.rb mixed [[]] [[]] [(4, .int .i64 0)] (by kernel_rfl) ⟨aC rfl rfl (fun _ => rfl), trivial⟩ ?_)
      intro ρ6 w6 hN hf hr
      have h4 := hv hf 0 rfl rfl
      have hW := hW.trans hN
      refine WP.ret ?_
      show retQ Tryz.prog 20 Tryz.f48 (fun v w1 => v = .int .i64 r ∧ Ext noG w0 w1) .ret ρ6 w6
      obtain rfl := Option.some.inj hF
      exact res1 rfl (by decide) h4 ⟨rfl, hW⟩
    have hF := (if_neg (Bool.eq_false_iff.1 hb)).symm.trans hF
    refine WP.skip (WP.seq (WP.rb mixed [[]] [[]] [(4, .int .i64 (-1))] (by kernel_rfl) ⟨aC rfl rfl (fun _ => rfl), trivial⟩ ?_))
    intro ρ7 w7 hN hf hr
    have h4 := hv hf 0 rfl rfl
    have hW := hW.trans hN
    refine WP.ret ?_
    show retQ Tryz.prog 20 Tryz.f48 (fun v w1 => v = .int .i64 r ∧ Ext noG w0 w1) .ret ρ7 w7
    obtain rfl := Option.some.inj hF
    exact res1 rfl (by decide) h4 ⟨rfl, hW⟩
  have hF := (if_neg (Bool.eq_false_iff.1 hb)).symm.trans hF
  refine WP.skip (WP.seq (WP.seq (WP.rb mixed [[]] [[6]] [(13, .bool z2)] (by kernel_rfl) ⟨mE rfl rfl h6, trivial⟩ ?_)))
  intro ρ8 w8 hN hf hr
  have h13 := hv hf 0 rfl rfl
  obtain ⟨h0, h1⟩ := k2 hr h0 h1 rfl
  have hW := hW.trans hN
  refine WP.cond rfl h13 (fun hb => ?_) (fun hb => ?_)
  · have hF := (if_pos hb).symm.trans hF
    refine WP.seq (WP.rb mixed [[]] [[]] [(4, .int .i64 1)] (by kernel_rfl) ⟨aC rfl rfl (fun _ => rfl), trivial⟩ ?_)
    intro ρ9 w9 hN hf hr
    have h4 := hv hf 0 rfl rfl
    have hW := hW.trans hN
    refine WP.ret ?_
    show retQ Tryz.prog 20 Tryz.f48 (fun v w1 => v = .int .i64 r ∧ Ext noG w0 w1) .ret ρ9 w9
    obtain rfl := Option.some.inj hF
    exact res1 rfl (by decide) h4 ⟨rfl, hW⟩
  have hF := (if_neg (Bool.eq_false_iff.1 hb)).symm.trans hF
  refine WP.skip (WP.seq (WP.seq (WP.rb mixed [[], [], [0, 1]] [[0], [1], []] [(14, .int .i64 x_), (15, .int .i64 y_), (16, .bool (decide (x_ < y_)))] (by kernel_rfl) ⟨mE rfl rfl h0,
 mE rfl rfl h1,
 fun ρz wz hE hA _ ⟨u0, u1, _⟩ => core_val rfl rfl (o_lss u0 u1 rfl), trivial⟩ ?_)))
  intro ρ10 w10 hN hf hr
  have h16 := hv hf 2 rfl rfl
  obtain ⟨h0, h1⟩ := k2 hr h0 h1 rfl
  have hW := hW.trans hN
  refine WP.cond rfl h16 (fun hb => ?_) (fun hb => ?_)
  · have hF := (if_pos hb).symm.trans hF
    refine WP.seq (WP.rb mixed [[]] [[]] [(4, .int .i64 (-1))] (by kernel_rfl) ⟨aC rfl rfl (fun _ => rfl), trivial⟩ ?_)
    intro ρ11 w11 hN hf hr
    have h4 := hv hf 0 rfl rfl
    have hW := hW.trans hN
    refine WP.ret ?_
    show retQ Tryz.prog 20 Tryz.f48 (fun v w1 => v = .int .i64 r ∧ Ext noG w0 w1) .ret ρ11 w11
    obtain rfl := Option.some.inj hF
    exact res1 rfl (by decide) h4 ⟨rfl, hW⟩
  have hF := (if_neg (Bool.eq_false_iff.1 hb)).symm.trans hF
  refine WP.skip (WP.seq (WP.seq (WP.rb mixed [[], [], [0, 1]] [[0], [1], []] [(17, .int .i64 x_), (18, .int .i64 y_), (19, .bool (decide (y_ < x_)))] (by kernel_rfl) ⟨mE rfl rfl h0,
 mE rfl rfl h1,
 fun ρz wz hE hA _ ⟨u0, u1, _⟩ => core_val rfl rfl (o_gtr u0 u1 rfl), trivial⟩ ?_)))
  intro ρ12 w12 hN hf hr
  have h19 := hv hf 2 rfl rfl
  have hW := hW.trans hN
  refine WP.cond rfl h19 (fun hb => ?_) (fun hb => ?_)
  · have hF := (if_pos hb).symm.trans hF
    refine WP.seq (WP.rb mixed [[]] [[]] [(4, .int .i64 1)] (by kernel_rfl) ⟨aC rfl rfl (fun _ => rfl), trivial⟩ ?_)
    intro ρ13 w13 hN hf hr
    have h4 := hv hf 0 rfl rfl
    have hW := hW.trans hN
    refine WP.ret ?_
    show retQ Tryz.prog 20 Tryz.f48 (fun v w1 => v = .int .i64 r ∧ Ext noG w0 w1) .ret ρ13 w13
    obtain rfl := Option.some.inj hF
    exact res1 rfl (by decide) h4 ⟨rfl, hW⟩
  have hF := (if_neg (Bool.eq_false_iff.1 hb)).symm.trans hF
  refine WP.skip (WP.seq (WP.rb mixed [[]] [[]] [(4, .int .i64 0)] (by kernel_rfl) ⟨aC rfl rfl (fun _ => rfl), trivial⟩ ?_))
  intro ρ14 w14 hN hf hr
  have h4 := hv hf 0 rfl rfl
  have hW := hW.trans hN
  refine WP.ret ?_
  show retQ Tryz.prog 20 Tryz.f48 (fun v w1 => v = .int .i64 r ∧ Ext noG w0 w1) .ret ρ14 w14
  obtain rfl := Option.some.inj hF
  exact res1 rfl (by decide) h4 ⟨rfl, hW⟩

set_option maxHeartbeats 4000000 in
theorem cmp_Or_of_int_ok {w0 : World} (vals_ : List Int) {v_vals_ : Value} (H_vals_ : RepSl intR noG w0 v_vals_ vals_) {r : Int} (hF : cmp_Or_of_int vals_ = some r) :
    Calls Tryz.prog 47 #[v_vals_] w0 fun e w1 => e = .returned (.int .i64 r) ∧ Ext noG w0 w1 := by
  refine (Calls.start (P := Tryz.prog) (args := [v_vals_]) (R := fun v w1 => v = .int .i64 r ∧ Ext noG w0 w1) (n := 18) (w := w0) Tryz.func47 rfl rfl (Nat.le_of_ble_eq_true rfl) (fun ρ hargs => ?_)).mono (fun e w1 ⟨v, he, hv, hE⟩ => ⟨hv ▸ he, hE⟩)
  have h0 := hargs 0 _ rfl
  have hW := Ext.refl noG w0
  obtain ⟨_, _, hs_H_vals_, _, _⟩ := RepSl.shape H_vals_
  have H_vals_ := H_vals_.start
  rw [cmp_Or_of_int] at hF
  refine WP.seq (WP.rb mixed [[]] [[]] [(2, .int .i64 0)] (by kernel_rfl) ⟨aC rfl rfl (fun _ => rfl), trivial⟩ ?_)
  intro ρ1 w1 hN hf hr
  have h0 := (hr 0 rfl).trans h0
  have H_vals_ := H_vals_.exn hN
  have hW := hW.trans hN
  refine WP.seq (WP.rb mixed [[]] [[]] [(3, .int .i64 0)] (by kernel_rfl) ⟨aC rfl rfl (fun _ => rfl), trivial⟩ ?_)
  intro ρ2 w2 hN hf hr
  have h3 := hv hf 0 rfl rfl
  have h0 := (hr 0 rfl).trans h0
  have H_vals_ := H_vals_.exn hN
  have hW := hW.trans hN
  refine WP.seq (WP.seq (WP.rb mixed [[], [0], []] [[0], [], []] [(6, v_vals_), (7, .int .i64 (vals_.length : Int)), (8, .int .i64 0)] (by kernel_rfl) ⟨mE rfl rfl h0,
 fun ρz wz hE hA _ ⟨u0, _⟩ => core_val rfl rfl (o_len (u0.trans hs_H_vals_) len_35),
 mC rfl rfl (fun _ => rfl), trivial⟩ ?_))
  intro ρ3 w3 hN hf hr
  have h6 := hv hf 0 rfl rfl
  have h7 := hv hf 1 rfl rfl
  have h8 := hv hf 2 rfl rfl
  have h3 := (hr 3 rfl).trans h3
  have H_vals_ := H_vals_.exn hN
  have hW := hW.trans hN
  refine WP.block (WP.loop (fun k_ ρ w => ∃ x : Int, ρ 3 = .int .i64 0 ∧ ρ 6 = v_vals_ ∧ ρ 7 = .int .i64 (vals_.length : Int) ∧ ρ 8 = .int .i64 x ∧ RepSl intR (gfr noG w0) w v_vals_ vals_ ∧ Ext noG w0 w ∧ loopC k_ (cmp_Or_of_int_l vals_) x = some r) FU ⟨0, h3, h6, h7, h8, H_vals_, hW, hF⟩ (fun _ _ h => by obtain ⟨_, _, _, _, _, _, _, h⟩ := h; cases h) ?_)
  rintro k_ ρ4 w4 ⟨x, h3, h6, h7, h8, H_vals_, hW, hF⟩
  have hF : cmp_Or_of_int_l vals_ (loopC k_ (cmp_Or_of_int_l vals_)) x = some r := hF
  generalize hrec_ : loopC k_ (cmp_Or_of_int_l vals_) = rec_ at hF
  rw [cmp_Or_of_int_l] at hF
  refine WP.seq (WP.rb mixed [[]] [[8, 7]] [(9, .bool (decide (x < (vals_.length : Int))))] (by kernel_rfl) ⟨fun ρz wz hE hA ⟨e8, e7, _⟩ _ => core_val rfl rfl (o_lss (e8.trans h8) (e7.trans h7) rfl), trivial⟩ ?_)
  intro ρ5 w5 hN hf hr
  have h9 := hv hf 0 rfl rfl
  obtain ⟨h3, h6, h7, h8⟩ := k4 hr h3 h6 h7 h8 rfl
  have H_vals_ := H_vals_.exn hN
  have hW := hW.trans hN
  refine WP.seq (WP.cond rfl h9 (fun hb => ?_) (fun hb => ?_))
  · have hF := (if_pos hb).symm.trans hF
    refine WP.skip (WP.seq (WP.block (WP.seq ?_)))
    obtain ⟨y, hy, hF⟩ := obind hF
    obtain ⟨ay, cy, hvy, hiy, hAy⟩ := RepSl.getF H_vals_ hy
    refine WP.rb mixed [[], [0], [1]] [[6, 8], [], []] [(10, .pointer (some (ay.add (Int.toNat x * 1)))), (11, .int .i64 y), (5, .int .i64 y)] (by kernel_rfl) ⟨fun ρz wz hE hA ⟨e6, e8, _⟩ _ => core_val rfl rfl (o_indexAddr ((e6.trans h6).trans hvy) (e8.trans h8) (ia_35 hiy)),
 fun ρz wz hE hA _ ⟨u0, _⟩ => core_val rfl rfl (o_load u0 (run_load1 (lr_3 _ _) ((hAy.exn (hA rfl)).ca))),
 aU rfl rfl rfl, trivial⟩ ?_
    intro ρ6 w6 hN hf hr
    have h5 := hv hf 2 rfl rfl
    obtain ⟨h3, h6, h7, h8⟩ := k4 hr h3 h6 h7 h8 rfl
    have H_vals_ := H_vals_.exn hN
    have hW := hW.trans hN
    refine WP.seq (WP.rb mixed [[], [], [0, 1]] [[5], [3], []] [(12, .int .i64 y), (13, .int .i64 0), (14, .bool (y != 0))] (by kernel_rfl) ⟨mE rfl rfl h5,
 mE rfl rfl h3,
 fun ρz wz hE hA _ ⟨u0, u1, _⟩ => core_val rfl rfl (o_neq u0 u1 rfl), trivial⟩ ?_)
    intro ρ7 w7 hN hf hr
    have h14 := hv hf 2 rfl rfl
    obtain ⟨h3, h6, h7, h8, h5⟩ := k5 hr h3 h6 h7 h8 h5 rfl
    have H_vals_ := H_vals_.exn hN
    have hW := hW.trans hN
    refine WP.cond rfl h14 (fun hb => ?_) (fun hb => ?_)
    · have hF := (if_pos hb).symm.trans hF
      refine WP.seq (WP.rb mixed [[], [0]] [[5], []] [(15, .int .i64 y), (2, .int .i64 y)] (by kernel_rfl) ⟨mE rfl rfl h5,
 aU rfl rfl rfl, trivial⟩ ?_)
      intro ρ8 w8 hN hf hr
      have h2 := hv hf 1 rfl rfl
      have hW := hW.trans hN
      refine WP.ret ?_
      show retQ Tryz.prog 18 Tryz.f47 (fun v w1 => v = .int .i64 r ∧ Ext noG w0 w1) .ret ρ8 w8
      obtain rfl := Option.some.inj hF
      exact res1 rfl (by decide) h2 ⟨rfl, hW⟩
    have hF := (if_neg (Bool.eq_false_iff.1 hb)).symm.trans hF
    refine WP.skip (WP.rb mixed [[], [0]] [[8], []] [(16, .int .i64 (i64 (x + 1))), (8, .int .i64 (i64 (x + 1)))] (by kernel_rfl) ⟨fun ρz wz hE hA ⟨e8, _⟩ _ => core_val rfl rfl (o_add (e8.trans h8) rfl rfl),
 mU rfl rfl rfl, trivial⟩ ?_)
    intro ρ9 w9 hN hf hr
    have h8 := hv hf 1 rfl rfl
    obtain ⟨h3, h6, h7⟩ := k3 hr h3 h6 h7 rfl
    have H_vals_ := H_vals_.exn hN
    have hW := hW.trans hN
    exact ⟨i64 (x + 1), h3, h6, h7, h8, H_vals_, hW, (by first | exact hF | (rw [hrec_]; exact hF))⟩
  have hF := (if_neg (Bool.eq_false_iff.1 hb)).symm.trans hF
  refine WP.exit (thenQ_exit (thenQ_exit (blockQ_hit (WP.seq (WP.rb mixed [[], [0]] [[3], []] [(17, .int .i64 0), (2, .int .i64 0)] (by kernel_rfl) ⟨mE rfl rfl h3,
 aU rfl rfl rfl, trivial⟩ ?_)))))
  intro ρ10 w10 hN hf hr
  have h2 := hv hf 1 rfl rfl
  have hW := hW.trans hN
  refine WP.ret ?_
  show retQ Tryz.prog 18 Tryz.f47 (fun v w1 => v = .int .i64 r ∧ Ext noG w0 w1) .ret ρ10 w10
  obtain rfl := Option.some.inj hF
  exact res1 rfl (by decide) h2 ⟨rfl, hW⟩

set_option maxHeartbeats 4000000 in
theorem decision_compare_ok {w0 : World} (a_ : Claim) (b_ : Claim) {r : Int} (hF : decision_compare a_ b_ = some r) :
    Calls Tryz.prog 50 #[Claim.val a_, Claim.val b_] w0 fun e w1 => e = .returned (.int .i64 r) ∧ Ext noG w0 w1 := by
  refine (Calls.start (P := Tryz.prog) (args := [Claim.val a_, Claim.val b_]) (R := fun v w1 => v = .int .i64 r ∧ Ext noG w0 w1) (n := 37) (w := w0) Tryz.func50 rfl rfl (Nat.le_of_ble_eq_true rfl) (fun ρ hargs => ?_)).mono (fun e w1 ⟨v, he, hv, hE⟩ => ⟨hv ▸ he, hE⟩)
  have h0 := hargs 0 _ rfl
  have h1 := hargs 1 _ rfl
  have hW := Ext.refl noG w0
  rw [decision_compare] at hF
  refine WP.seq (WP.regionN mixed ⟨[[], [], []], [[], [], []], [[0], [1], []], [], [], [(0, 2), (1, 3)], []⟩ [(2, fun u wz => ∃ b, u = .pointer (some ⟨b, 0, none⟩) ∧ w0.heap.size ≤ b ∧ Mb wz b 28 (Claim.cells a_)), (3, fun u wz => ∃ b, u = .pointer (some ⟨b, 0, none⟩) ∧ w0.heap.size ≤ b ∧ Mb wz b 28 (Claim.cells b_)), val 4 (.int .i64 0)] (fun b => w0.heap.size ≤ b) (by kernel_rfl) (.inr (fun _ h => h)) ⟨TStable.box, TStable.box, sV, trivial⟩ ⟨fun ρz wz hE hA ⟨e0, _⟩ _ => core_newN rfl rfl rfl hE (o_box (e0.trans h0) (bx_28 _ _)),
 fun ρz wz hE hA ⟨e1, _⟩ _ => core_newN rfl rfl rfl hE (o_box (e1.trans h1) (bx_28 _ _)),
 fun ρz wz hE hA _ _ => core_val rfl rfl (o_assign rfl), trivial⟩ ?_)
  intro ρ1 w1 hE hN hf hr hdist
  have hN := hE.fresh
  obtain ⟨b2_, h2, hge_b2_, Hb_b2_⟩ := hf 0 rfl
  obtain ⟨b3_, h3, hge_b3_, Hb_b3_⟩ := hf 1 rfl
  have hB_b2_ : w0.heap.size ≤ b2_ := Nat.le_trans hW.size hge_b2_
  have hB_b3_ : w0.heap.size ≤ b3_ := Nat.le_trans hW.size hge_b3_
  have hW := hW.trans hN
  refine WP.seq ?_
  obtain ⟨z, hz, hF⟩ := obind hF
  obtain ⟨z2, hz2, hF⟩ := obind hF
  obtain ⟨z3, hz3, hF⟩ := obind hF
  obtain ⟨z4, hz4, hF⟩ := obind hF
  obtain ⟨z5, hz5, hF⟩ := obind hF
  obtain ⟨z6, hz6, hF⟩ := obind hF
  obtain ⟨z7, hz7, hF⟩ := obind hF
  refine WP.rg mixed [[], [0], [], [2], [1, 3], [], [5], [], [7], [6, 8], [], [10], [], [12], [11, 13], [], [15], [], [17], [16, 18], [], [20], [], [22], [21, 23], [], [25], [], [27], [26, 28], [4, 9, 14, 19, 24, 29], [30], [31]] [[], [0], [], [2], [1, 3], [], [5], [], [7], [6, 8], [], [10], [], [12], [11, 13], [], [15], [], [17], [16, 18], [], [20], [], [22], [21, 23], [], [25], [], [27], [26, 28], [4, 9, 14, 19, 24, 29], [30], [31]] [[2], [], [3], [], [], [2], [], [3], [], [], [2], [], [3], [], [], [2], [], [3], [], [], [2], [], [3], [], [], [2], [], [3], [], [], [], [], []] [val 5 (.pointer (some ((⟨b2_, 0, none⟩ : Addr).add 0))), val 6 (.int .i64 a_.Issuer), val 7 (.pointer (some ((⟨b3_, 0, none⟩ : Addr).add 0))), val 8 (.int .i64 b_.Issuer), val 9 (.int .i64 z), val 10 (.pointer (some ((⟨b2_, 0, none⟩ : Addr).add 1))), val 11 (.int .i64 a_.Number), val 12 (.pointer (some ((⟨b3_, 0, none⟩ : Addr).add 1))), val 13 (.int .i64 b_.Number), val 14 (.int .i64 z2), val 15 (.pointer (some ((⟨b2_, 0, none⟩ : Addr).add 5))), val 16 (.int .i64 a_.Day), val 17 (.pointer (some ((⟨b3_, 0, none⟩ : Addr).add 5))), val 18 (.int .i64 b_.Day), val 19 (.int .i64 z3), val 20 (.pointer (some ((⟨b2_, 0, none⟩ : Addr).add 2))), val 21 (.int .i64 a_.Person), val 22 (.pointer (some ((⟨b3_, 0, none⟩ : Addr).add 2))), val 23 (.int .i64 b_.Person), val 24 (.int .i64 z4), val 25 (.pointer (some ((⟨b2_, 0, none⟩ : Addr).add 3))), val 26 (.int .i64 a_.Benefit), val 27 (.pointer (some ((⟨b3_, 0, none⟩ : Addr).add 3))), val 28 (.int .i64 b_.Benefit), val 29 (.int .i64 z5), val 30 (.pointer (some ((⟨b2_, 0, none⟩ : Addr).add 4))), val 31 (.int .i64 a_.Ref), val 32 (.pointer (some ((⟨b3_, 0, none⟩ : Addr).add 4))), val 33 (.int .i64 b_.Ref), val 34 (.int .i64 z6), (35, fun u wz => ∃ b, u = .slice (some ⟨b, 0, none⟩) 6 6 ∧ w1.heap.size ≤ b ∧ Mb wz b 3 (([z, z2, z3, z4, z5, z6]).flatMap (fun x : Int => [Value.int .i64 x]))), val 36 (.int .i64 z7), val 4 (.int .i64 z7)] (by kernel_rfl) ⟨sV, sV, sV, sV, sV, sV, sV, sV, sV, sV, sV, sV, sV, sV, sV, sV, sV, sV, sV, sV, sV, sV, sV, sV, sV, sV, sV, sV, sV, sV, fun _ _ _ hE ⟨b, hz, hs, hM⟩ => ⟨b, hz, hs, hM.exn hE⟩, sV, sV, trivial⟩ ⟨fun ρz wz hE hA ⟨e2, _⟩ _ => core_val rfl rfl (o_fieldAddr (e2.trans h2) (fa_28_0 _ _)),
 fun ρz wz hE hA _ ⟨u0, _⟩ => core_val rfl rfl (o_load u0 (run_load1 (lr_3 _ _) (CA.sub ((Hb_b2_.exn (hA rfl)).ca) 0 1))),
 fun ρz wz hE hA ⟨e3, _⟩ _ => core_val rfl rfl (o_fieldAddr (e3.trans h3) (fa_28_0 _ _)),
 fun ρz wz hE hA _ ⟨u2, _⟩ => core_val rfl rfl (o_load u2 (run_load1 (lr_3 _ _) (CA.sub ((Hb_b3_.exn (hA rfl)).ca) 0 1))),
 fun ρz wz hE hA _ ⟨u1, u3, _⟩ => core_call rfl (call_args2 u1 u3) cf_48 (cmp_Compare_of_int_ok  _ _  hz),
 fun ρz wz hE hA ⟨e2, _⟩ _ => core_val rfl rfl (o_fieldAddr (e2.trans h2) (fa_28_1 _ _)),
 fun ρz wz hE hA _ ⟨u5, _⟩ => core_val rfl rfl (o_load u5 (run_load1 (lr_3 _ _) (CA.sub ((Hb_b2_.exn (hA rfl)).ca) 1 1))),
 fun ρz wz hE hA ⟨e3, _⟩ _ => core_val rfl rfl (o_fieldAddr (e3.trans h3) (fa_28_1 _ _)),
 fun ρz wz hE hA _ ⟨u7, _⟩ => core_val rfl rfl (o_load u7 (run_load1 (lr_3 _ _) (CA.sub ((Hb_b3_.exn (hA rfl)).ca) 1 1))),
 fun ρz wz hE hA _ ⟨u6, u8, _⟩ => core_call rfl (call_args2 u6 u8) cf_48 (cmp_Compare_of_int_ok  _ _  hz2),
 fun ρz wz hE hA ⟨e2, _⟩ _ => core_val rfl rfl (o_fieldAddr (e2.trans h2) (fa_28_5 _ _)),
 fun ρz wz hE hA _ ⟨u10, _⟩ => core_val rfl rfl (o_load u10 (run_load1 (lr_3 _ _) (CA.sub ((Hb_b2_.exn (hA rfl)).ca) 5 1))),
 fun ρz wz hE hA ⟨e3, _⟩ _ => core_val rfl rfl (o_fieldAddr (e3.trans h3) (fa_28_5 _ _)),
 fun ρz wz hE hA _ ⟨u12, _⟩ => core_val rfl rfl (o_load u12 (run_load1 (lr_3 _ _) (CA.sub ((Hb_b3_.exn (hA rfl)).ca) 5 1))),
 fun ρz wz hE hA _ ⟨u11, u13, _⟩ => core_call rfl (call_args2 u11 u13) cf_48 (cmp_Compare_of_int_ok  _ _  hz3),
 fun ρz wz hE hA ⟨e2, _⟩ _ => core_val rfl rfl (o_fieldAddr (e2.trans h2) (fa_28_2 _ _)),
 fun ρz wz hE hA _ ⟨u15, _⟩ => core_val rfl rfl (o_load u15 (run_load1 (lr_3 _ _) (CA.sub ((Hb_b2_.exn (hA rfl)).ca) 2 1))),
 fun ρz wz hE hA ⟨e3, _⟩ _ => core_val rfl rfl (o_fieldAddr (e3.trans h3) (fa_28_2 _ _)),
 fun ρz wz hE hA _ ⟨u17, _⟩ => core_val rfl rfl (o_load u17 (run_load1 (lr_3 _ _) (CA.sub ((Hb_b3_.exn (hA rfl)).ca) 2 1))),
 fun ρz wz hE hA _ ⟨u16, u18, _⟩ => core_call rfl (call_args2 u16 u18) cf_48 (cmp_Compare_of_int_ok  _ _  hz4),
 fun ρz wz hE hA ⟨e2, _⟩ _ => core_val rfl rfl (o_fieldAddr (e2.trans h2) (fa_28_3 _ _)),
 fun ρz wz hE hA _ ⟨u20, _⟩ => core_val rfl rfl (o_load u20 (run_load1 (lr_3 _ _) (CA.sub ((Hb_b2_.exn (hA rfl)).ca) 3 1))),
 fun ρz wz hE hA ⟨e3, _⟩ _ => core_val rfl rfl (o_fieldAddr (e3.trans h3) (fa_28_3 _ _)),
 fun ρz wz hE hA _ ⟨u22, _⟩ => core_val rfl rfl (o_load u22 (run_load1 (lr_3 _ _) (CA.sub ((Hb_b3_.exn (hA rfl)).ca) 3 1))),
 fun ρz wz hE hA _ ⟨u21, u23, _⟩ => core_call rfl (call_args2 u21 u23) cf_48 (cmp_Compare_of_int_ok  _ _  hz5),
 fun ρz wz hE hA ⟨e2, _⟩ _ => core_val rfl rfl (o_fieldAddr (e2.trans h2) (fa_28_4 _ _)),
 fun ρz wz hE hA _ ⟨u25, _⟩ => core_val rfl rfl (o_load u25 (run_load1 (lr_3 _ _) (CA.sub ((Hb_b2_.exn (hA rfl)).ca) 4 1))),
 fun ρz wz hE hA ⟨e3, _⟩ _ => core_val rfl rfl (o_fieldAddr (e3.trans h3) (fa_28_4 _ _)),
 fun ρz wz hE hA _ ⟨u27, _⟩ => core_val rfl rfl (o_load u27 (run_load1 (lr_3 _ _) (CA.sub ((Hb_b3_.exn (hA rfl)).ca) 4 1))),
 fun ρz wz hE hA _ ⟨u26, u28, _⟩ => core_call rfl (call_args2 u26 u28) cf_48 (cmp_Compare_of_int_ok  _ _  hz6),
 fun ρz wz hE hA _ ⟨u4, u9, u14, u19, u24, u29, _⟩ => core_slice rfl rfl hE (o_buildSlice ((bpS u4 (bpS u9 (bpS u14 (bpS u19 (bpS u24 (bpS u29 bp0))))))) (bs_35_6 _ _ _ _ _ _ _)),
 fun ρz wz hE hA _ ⟨⟨bz30, hz30, hge30, hM30⟩, _⟩ => core_call rfl (call_args1 hz30) cf_47 (cmp_Or_of_int_ok  _ (Mb.rep (n := 1) (cells := fun x : Int => [Value.int .i64 x]) (hn := fun _ => rfl) (G := noG) hM30 rfl (Nat.le_of_ble_eq_true rfl) (fun h => h)).no hz7),
 aU rfl rfl rfl, trivial⟩ ?_
  intro ρ2 w2 hN hf hr
  have h4 : ρ2 4 = .int .i64 z7 := hf 32 rfl
  have hW := hW.trans hN
  refine WP.ret ?_
  show retQ Tryz.prog 37 Tryz.f50 (fun v w1 => v = .int .i64 r ∧ Ext noG w0 w1) .ret ρ2 w2
  obtain rfl := Option.some.inj hF
  exact res1 rfl (by decide) h4 ⟨rfl, hW⟩

set_option maxHeartbeats 4000000 in
theorem slices_Compact_of_api_Claim_ok {w0 : World} (s_ : List Claim) {v_s_ : Value} {B : Nat} (O0 : Own B 28 6 Claim.cells w0 v_s_ s_) {r : (List Claim)} (hF : slices_Compact_of_api_Claim s_ = some r) :
    Calls Tryz.prog 51 #[v_s_] w0 fun e w1 => ∃ v, e = .returned v ∧ Ext (fun b => Value.ownBlock v_s_ = some b) w0 w1 ∧ (Own B 28 6 Claim.cells w1 v r ∧ ∀ b, v.ownBlock = some b → Value.ownBlock v_s_ = some b) := by
  refine (Calls.start (P := Tryz.prog) (args := [v_s_]) (R := fun v w1 => (Own B 28 6 Claim.cells w1 v r ∧ ∀ b, v.ownBlock = some b → Value.ownBlock v_s_ = some b) ∧ Ext (fun b => Value.ownBlock v_s_ = some b) w0 w1) (n := 61) (w := w0) Tryz.func51 rfl rfl (Nat.le_of_ble_eq_true rfl) (fun ρ hargs => ?_)).mono (fun e w1 ⟨v, he, hv, hE⟩ => ⟨v, he, hE, hv⟩)
  have h0 := hargs 0 _ rfl
  have hW := Ext.refl (fun b => Value.ownBlock v_s_ = some b) w0
  rw [slices_Compact_of_api_Claim] at hF
  refine WP.seq (WP.rb mixed [[]] [[]] [(2, .slice none 0 0)] (by kernel_rfl) ⟨aC rfl rfl (fun _ => rfl), trivial⟩ ?_)
  intro ρ1 w1 hN hf hr
  have h0 := (hr 0 rfl).trans h0
  have Oo_O0 := O0
  have hW := hW.trans hN.of_no
  have O0 := O0.exn hN
  refine WP.seq (WP.seq (WP.rb mixed [[], [0], [1]] [[0], [], []] [(6, v_s_), (7, .int .i64 (s_.length : Int)), (8, .bool (decide ((s_.length : Int) < 2)))] (by kernel_rfl) ⟨mE rfl rfl h0,
 fun ρz wz hE hA _ ⟨u0, _⟩ => core_val rfl rfl (o_len (u0.trans (Own.shape O0).choose_spec.choose_spec.1) len_23),
 fun ρz wz hE hA _ ⟨u1, _⟩ => core_val rfl rfl (o_lss u1 rfl rfl), trivial⟩ ?_))
  intro ρ2 w2 hN hf hr
  have h8 := hv hf 2 rfl rfl
  have h0 := (hr 0 rfl).trans h0
  have Oo_O0 := O0
  have hW := hW.trans hN.of_no
  have O0 := O0.exn hN
  refine WP.cond rfl h8 (fun hb => ?_) (fun hb => ?_)
  · have hF := (if_pos hb).symm.trans hF
    refine WP.seq (WP.rb mixed [[], [0]] [[0], []] [(9, v_s_), (2, v_s_)] (by kernel_rfl) ⟨mE rfl rfl h0,
 aU rfl rfl rfl, trivial⟩ ?_)
    intro ρ3 w3 hN hf hr
    have h2 := hv hf 1 rfl rfl
    have h0 := (hr 0 rfl).trans h0
    have Oo_O0 := O0
    have hW := hW.trans hN.of_no
    have O0 := O0.exn hN
    have O2 := Oo_O0.exn hN
    refine WP.ret ?_
    show retQ Tryz.prog 61 Tryz.f51 (fun v w1 => (Own B 28 6 Claim.cells w1 v r ∧ ∀ b, v.ownBlock = some b → Value.ownBlock v_s_ = some b) ∧ Ext (fun b => Value.ownBlock v_s_ = some b) w0 w1) .ret ρ3 w3
    obtain rfl := Option.some.inj hF
    exact res1 rfl (by decide) h2 ⟨⟨O2, fun _ h => h⟩, hW⟩
  have hF := (if_neg (Bool.eq_false_iff.1 hb)).symm.trans hF
  refine WP.skip (WP.seq (WP.seq (WP.rb mixed [[]] [[]] [(3, .int .i64 1)] (by kernel_rfl) ⟨aC rfl rfl (fun _ => rfl), trivial⟩ ?_)))
  intro ρ4 w4 hN hf hr
  have h3 := hv hf 0 rfl rfl
  have h0 := (hr 0 rfl).trans h0
  have Oo_O0 := O0
  have hW := hW.trans hN.of_no
  have O0 := O0.exn hN
  refine WP.block (WP.loop (fun k_2 ρ w => ∃ k_ : Int, ∃ s_l : List Claim, ρ 0 = v_s_ ∧ ρ 3 = .int .i64 k_ ∧ Own B 28 6 Claim.cells w v_s_ s_l ∧ Ext (fun b => Value.ownBlock v_s_ = some b) w0 w ∧ loopC k_2 slices_Compact_of_api_Claim_l (k_, s_l) = some r) FU ⟨1, s_, h0, h3, O0, hW, hF⟩ (fun _ _ h => by obtain ⟨_, _, _, _, _, _, h⟩ := h; cases h) ?_)
  rintro k_2 ρ5 w5 ⟨k_, s_l, h0, h3, O0, hW, hF⟩
  have hF : slices_Compact_of_api_Claim_l (loopC k_2 slices_Compact_of_api_Claim_l) (k_, s_l) = some r := hF
  generalize hrec_ : loopC k_2 slices_Compact_of_api_Claim_l = rec_ at hF
  rw [slices_Compact_of_api_Claim_l] at hF
  refine WP.seq (WP.seq (WP.rb mixed [[], [], [1], [0, 2]] [[3], [0], [], []] [(10, .int .i64 k_), (11, v_s_), (12, .int .i64 (s_l.length : Int)), (13, .bool (decide (k_ < (s_l.length : Int))))] (by kernel_rfl) ⟨mE rfl rfl h3,
 mE rfl rfl h0,
 fun ρz wz hE hA _ ⟨u1, _⟩ => core_val rfl rfl (o_len (u1.trans (Own.shape O0).choose_spec.choose_spec.1) len_23),
 fun ρz wz hE hA _ ⟨u0, u2, _⟩ => core_val rfl rfl (o_lss u0 u2 rfl), trivial⟩ ?_))
  intro ρ6 w6 hN hf hr
  have h13 := hv hf 3 rfl rfl
  obtain ⟨h0, h3⟩ := k2 hr h0 h3 rfl
  have Oo_O0 := O0
  have hW := hW.trans hN.of_no
  have O0 := O0.exn hN
  refine WP.cond rfl h13 (fun hb => ?_) (fun hb => ?_)
  · have hF := (if_pos hb).symm.trans hF
    refine WP.skip (WP.seq (WP.block (WP.seq ?_)))
    obtain ⟨y, hy, hF⟩ := obind hF
    obtain ⟨ay, cy, hvy, hiy, hAy⟩ := RepSl.getF (Own.rep (hn := fun _ => rfl) (G := noG) O0 (fun _ _ h => h)) hy
    obtain ⟨y2, hy2, hF⟩ := obind hF
    obtain ⟨ay2, cy2, hvy2, hiy2, hAy2⟩ := RepSl.getF (Own.rep (hn := fun _ => rfl) (G := noG) O0 (fun _ _ h => h)) hy2
    refine WP.rb mixed [[], [], [0, 1], [2], [], [], [5], [4, 6], [7], [3, 8]] [[0], [3], [], [], [0], [3], [], [], [], []] [(16, v_s_), (17, .int .i64 k_), (18, .pointer (some (ay.add (Int.toNat k_ * 6)))), (19, Claim.val y), (20, v_s_), (21, .int .i64 k_), (22, .int .i64 (i64 (k_ - 1))), (23, .pointer (some (ay2.add (Int.toNat (i64 (k_ - 1)) * 6)))), (24, Claim.val y2), (25, .bool (Claim.eqb y y2))] (by kernel_rfl) ⟨mE rfl rfl h0,
 mE rfl rfl h3,
 fun ρz wz hE hA _ ⟨u0, u1, _⟩ => core_val rfl rfl (o_indexAddr (u0.trans hvy) u1 (ia_23 hiy)),
 fun ρz wz hE hA _ ⟨u2, _⟩ => core_val rfl rfl (o_load u2 (run_loadN (cs := (Claim.cells y)) (lr_28 _ _) rfl ((hAy.exn (hA rfl)).ca))),
 mE rfl rfl h0,
 mE rfl rfl h3,
 fun ρz wz hE hA _ ⟨u5, _⟩ => core_val rfl rfl (o_sub u5 rfl rfl),
 fun ρz wz hE hA _ ⟨u4, u6, _⟩ => core_val rfl rfl (o_indexAddr (u4.trans hvy2) u6 (ia_23 hiy2)),
 fun ρz wz hE hA _ ⟨u7, _⟩ => core_val rfl rfl (o_load u7 (run_loadN (cs := (Claim.cells y2)) (lr_28 _ _) rfl ((hAy2.exn (hA rfl)).ca))),
 fun ρz wz hE hA _ ⟨u3, u8, _⟩ => core_val rfl rfl (o_eqS u3 u8 (by kernel_rfl) (eqs_28 9998 _ _ _) rfl), trivial⟩ ?_
    intro ρ7 w7 hN hf hr
    have h25 := hv hf 9 rfl rfl
    obtain ⟨h0, h3⟩ := k2 hr h0 h3 rfl
    have Oo_O0 := O0
    have hW := hW.trans hN.of_no
    have O0 := O0.exn hN
    refine WP.cond rfl h25 (fun hb => ?_) (fun hb => ?_)
    · have hF := (if_pos hb).symm.trans hF
      refine WP.seq ?_
      obtain ⟨s, hs, hF⟩ := obind hF
      refine WP.rg mixed [[], [], [0, 1], [2]] [[], [], [0, 1], [2]] [[0], [3], [], []] [val 26 (v_s_), val 27 (.int .i64 k_), (28, fun u _ => ViewR u v_s_ 6 k_ s.length), (4, fun u _ => ViewR u v_s_ 6 k_ s.length)] (by kernel_rfl) ⟨sV, sV, fun _ _ _ _ h => h, fun _ _ _ _ h => h, trivial⟩ ⟨mE rfl rfl h0,
 mE rfl rfl h3,
 fun ρz wz hE hA _ ⟨u0, u1, _⟩ => core_view (n := 6) (cells := Claim.cells) rfl u0 si_23 sz_28 (O0.exn (hA rfl)) u1 hs (fun _ h => h),
 fun ρz wz hE hA _ ⟨hV2, _⟩ => core_copy rfl rfl (o_assign rfl) hV2, trivial⟩ ?_
      intro ρ8 w8 hN hf hr
      obtain ⟨vv4_, h4⟩ : ∃ v, ρ8 4 = v := ⟨_, rfl⟩
      have Hw4 : (fun u _ => ViewR u v_s_ 6 k_ s.length) (ρ8 4) w8 := hf 3 rfl
      rw [h4] at Hw4
      obtain ⟨h0, h3⟩ := k2 hr h0 h3 rfl
      have Oo_O0 := O0
      have hW := hW.trans hN.of_no
      have O0 := O0.exn hN
      refine WP.seq (WP.seq (WP.rb mixed [[]] [[]] [(5, .int .i64 1)] (by kernel_rfl) ⟨aC rfl rfl (fun _ => rfl), trivial⟩ ?_))
      intro ρ9 w9 hN hf hr
      have h5 := hv hf 0 rfl rfl
      obtain ⟨h0, h3, h4⟩ := k3 hr h0 h3 h4 rfl
      have Oo_O0 := O0
      have hW := hW.trans hN.of_no
      have O0 := O0.exn hN
      refine WP.block (WP.loop (fun k_4 ρ w => ∃ k_3 : Int, ∃ k2_ : Int, ∃ s_l2 : List Claim, ρ 0 = v_s_ ∧ ρ 3 = .int .i64 k_3 ∧ ρ 4 = vv4_ ∧ ρ 5 = .int .i64 k2_ ∧ ViewR vv4_ v_s_ 6 k_ s.length ∧ Own B 28 6 Claim.cells w v_s_ s_l2 ∧ Ext (fun b => Value.ownBlock v_s_ = some b) w0 w ∧ loopC k_4 (slices_Compact_of_api_Claim_l2 k_ s) (k_3, k2_, s_l2) = some r) FU ⟨k_, 1, s_l, h0, h3, h4, h5, Hw4, O0, hW, hF⟩ (fun _ _ h => by obtain ⟨_, _, _, _, _, _, _, _, _, _, h⟩ := h; cases h) ?_)
      rintro k_4 ρ10 w10 ⟨k_3, k2_, s_l2, h0, h3, h4, h5, Hw4, O0, hW, hF⟩
      have hF : slices_Compact_of_api_Claim_l2 k_ s (loopC k_4 (slices_Compact_of_api_Claim_l2 k_ s)) (k_3, k2_, s_l2) = some r := hF
      generalize hrec_2 : loopC k_4 (slices_Compact_of_api_Claim_l2 k_ s) = rec_2 at hF
      rw [slices_Compact_of_api_Claim_l2] at hF
      refine WP.seq (WP.seq (WP.rb mixed [[], [], [1], [0, 2]] [[5], [4], [], []] [(29, .int .i64 k2_), (30, vv4_), (31, .int .i64 (s.length : Int)), (32, .bool (decide (k2_ < (s.length : Int))))] (by kernel_rfl) ⟨mE rfl rfl h5,
 mE rfl rfl h4,
 fun ρz wz hE hA _ ⟨u1, _⟩ => core_val rfl rfl (o_len (u1.trans (ViewR.shape Hw4).choose_spec.choose_spec) len_23),
 fun ρz wz hE hA _ ⟨u0, u2, _⟩ => core_val rfl rfl (o_lss u0 u2 rfl), trivial⟩ ?_))
      intro ρ11 w11 hN hf hr
      have h32 := hv hf 3 rfl rfl
      obtain ⟨h0, h3, h4, h5⟩ := k4 hr h0 h3 h4 h5 rfl
      have Oo_O0 := O0
      have hW := hW.trans hN.of_no
      have O0 := O0.exn hN
      refine WP.cond rfl h32 (fun hb => ?_) (fun hb => ?_)
      · have hF := (if_pos hb).symm.trans hF
        refine WP.skip (WP.seqJ (fun ρ w => ∃ k_5 : Int, ∃ s_l3 : List Claim, ρ 0 = v_s_ ∧ ρ 3 = .int .i64 k_5 ∧ ρ 4 = vv4_ ∧ ρ 5 = .int .i64 k2_ ∧ ViewR vv4_ v_s_ 6 k_ s.length ∧ Own B 28 6 Claim.cells w v_s_ s_l3 ∧ Ext (fun b => Value.ownBlock v_s_ = some b) w0 w ∧ slices_Compact_of_api_Claim_j k2_ rec_2 k_5 s_l3 = some r) ?_ ?_)
        · refine WP.block (WP.seq ?_)
          obtain ⟨y3, hy3, hF⟩ := obind hF
          obtain ⟨ay3, cy3, hvy3, hiy3, hAy3⟩ := ViewR.getF (n := 6) (cells := Claim.cells) (hn := fun _ => rfl) Hw4 O0 hy3
          obtain ⟨y4, hy4, hF⟩ := obind hF
          obtain ⟨ay4, cy4, hvy4, hiy4, hAy4⟩ := ViewR.getF (n := 6) (cells := Claim.cells) (hn := fun _ => rfl) Hw4 O0 hy4
          refine WP.rb mixed [[], [], [0, 1], [2], [], [], [5], [4, 6], [7], [3, 8]] [[4], [5], [], [], [4], [5], [], [], [], []] [(35, vv4_), (36, .int .i64 k2_), (37, .pointer (some (ay3.add (Int.toNat k2_ * 6)))), (38, Claim.val y3), (39, vv4_), (40, .int .i64 k2_), (41, .int .i64 (i64 (k2_ - 1))), (42, .pointer (some (ay4.add (Int.toNat (i64 (k2_ - 1)) * 6)))), (43, Claim.val y4), (44, .bool (!Claim.eqb y3 y4))] (by kernel_rfl) ⟨mE rfl rfl h4,
 mE rfl rfl h5,
 fun ρz wz hE hA _ ⟨u0, u1, _⟩ => core_val rfl rfl (o_indexAddr (u0.trans hvy3) u1 (ia_23 hiy3)),
 fun ρz wz hE hA _ ⟨u2, _⟩ => core_val rfl rfl (o_load u2 (run_loadN (cs := (Claim.cells y3)) (lr_28 _ _) rfl ((hAy3.exn (hA rfl)).ca))),
 mE rfl rfl h4,
 mE rfl rfl h5,
 fun ρz wz hE hA _ ⟨u5, _⟩ => core_val rfl rfl (o_sub u5 rfl rfl),
 fun ρz wz hE hA _ ⟨u4, u6, _⟩ => core_val rfl rfl (o_indexAddr (u4.trans hvy4) u6 (ia_23 hiy4)),
 fun ρz wz hE hA _ ⟨u7, _⟩ => core_val rfl rfl (o_load u7 (run_loadN (cs := (Claim.cells y4)) (lr_28 _ _) rfl ((hAy4.exn (hA rfl)).ca))),
 fun ρz wz hE hA _ ⟨u3, u8, _⟩ => core_val rfl rfl (o_neS u3 u8 (by kernel_rfl) (eqs_28 9998 _ _ _) rfl), trivial⟩ ?_
          intro ρ14 w14 hN hf hr
          have h44 := hv hf 9 rfl rfl
          obtain ⟨h0, h3, h4, h5⟩ := k4 hr h0 h3 h4 h5 rfl
          have Oo_O0 := O0
          have hW := hW.trans hN.of_no
          have O0 := O0.exn hN
          refine WP.cond rfl h44 (fun hb => ?_) (fun hb => ?_)
          · have hF := (if_pos hb).symm.trans hF
            refine WP.seq ?_
            obtain ⟨y5, hy5, hF⟩ := obind hF
            obtain ⟨ay5, cy5, hvy5, hiy5, hAy5⟩ := ViewR.getF (n := 6) (cells := Claim.cells) (hn := fun _ => rfl) Hw4 O0 hy5
            obtain ⟨y6, hy6, hF⟩ := obind hF
            obtain ⟨ay6, cy6, hvy6, hiy6, hAy6⟩ := RepSl.getF (Own.rep (hn := fun _ => rfl) (G := noG) O0 (fun _ _ h => h)) hy6
            refine WP.region mixed [[], [], [], [], [2, 3], [4], [0, 1], [5, 6]] [[], [], [], [], [2, 3], [4], [0, 1], [5, 6]] [[0], [3], [4], [5], [], [], [], []] [7] [] [val 45 (v_s_), val 46 (.int .i64 k_3), val 47 (vv4_), val 48 (.int .i64 k2_), val 49 (.pointer (some (ay5.add (Int.toNat k2_ * 6)))), val 50 (Claim.val y5), val 51 (.pointer (some (ay6.add (Int.toNat k_3 * 6)))), (51, fun _ wz => Own B 28 6 Claim.cells wz v_s_ (setI s_l2 k_3 y5))] (fun b => Value.ownBlock v_s_ = some b) (by kernel_rfl) ⟨sV, sV, sV, sV, sV, sV, sV, fun _ _ _ hE h => h.exn hE, trivial⟩ ⟨mE rfl rfl h0,
 mE rfl rfl h3,
 mE rfl rfl h4,
 mE rfl rfl h5,
 fun ρz wz hE hA _ ⟨u2, u3, _⟩ => core_val rfl rfl (o_indexAddr (u2.trans hvy5) u3 (ia_23 hiy5)),
 fun ρz wz hE hA _ ⟨u4, _⟩ => core_val rfl rfl (o_load u4 (run_loadN (cs := (Claim.cells y5)) (lr_28 _ _) rfl ((hAy5.exn (hA rfl)).ca))),
 fun ρz wz hE hA _ ⟨u0, u1, _⟩ => core_val rfl rfl (o_indexAddr (u0.trans hvy6) u1 (ia_23 hiy6)),
 fun ρz wz hE hA _ ⟨u5, u6, _⟩ => core_storeOwn (n := 6) (off := 0) (cells := Claim.cells) (y1 := y5) (vs := (Claim.cells y5)) rfl rfl (fun _ h => h) (fun _ => rfl) u6 hvy6 rfl u5 (O0.exn (hA rfl)) hy6 (fun a w => st_28 _ a w) (Nat.le_of_ble_eq_true rfl) (full_set (cells := Claim.cells) (n := 6) (fun _ => rfl) rfl) (one_28 _), trivial⟩ ?_
            intro ρ15 w15 hE hN hf hr
            obtain ⟨h0, h3, h4, h5⟩ := k4 hr h0 h3 h4 h5 rfl
            have Oo_O0 := O0
            have hW := hW.trans hE
            have O0 := hf 7 rfl
            refine WP.rv mixed [[], [0], [0, 1]] [[], [0], [1]] [[3], [], []] [(52, .int .i64 k_3), (53, .int .i64 (i64 (k_3 + 1))), (3, .int .i64 (i64 (k_3 + 1)))] (by kernel_rfl) ⟨mE rfl rfl h3,
 fun ρz wz hE hA _ ⟨u0, _⟩ => core_val rfl rfl (o_add u0 rfl rfl),
 aU rfl rfl rfl, trivial⟩ ?_
            intro ρ16 w16 hN hf hr
            have h3 := hv hf 2 rfl rfl
            obtain ⟨h0, h4, h5⟩ := k3 hr h0 h4 h5 rfl
            have Oo_O0 := O0
            have hW := hW.trans hN.of_no
            have O0 := O0.exn hN
            exact ⟨i64 (k_3 + 1), setI s_l2 k_3 y5, h0, h3, h4, h5, Hw4, O0, hW, hF⟩
          have hF := (if_neg (Bool.eq_false_iff.1 hb)).symm.trans hF
          refine WP.skip ?_
          exact ⟨k_3, s_l2, h0, h3, h4, h5, Hw4, O0, hW, hF⟩
        rintro ρ12 w12 ⟨k_5, s_l3, h0, h3, h4, h5, Hw4, O0, hW, hF⟩
        rw [slices_Compact_of_api_Claim_j] at hF
        refine WP.rv mixed [[], [0], [0, 1]] [[], [0], [1]] [[5], [], []] [(33, .int .i64 k2_), (34, .int .i64 (i64 (k2_ + 1))), (5, .int .i64 (i64 (k2_ + 1)))] (by kernel_rfl) ⟨mE rfl rfl h5,
 fun ρz wz hE hA _ ⟨u0, _⟩ => core_val rfl rfl (o_add u0 rfl rfl),
 aU rfl rfl rfl, trivial⟩ ?_
        intro ρ13 w13 hN hf hr
        have h5 := hv hf 2 rfl rfl
        obtain ⟨h0, h3, h4⟩ := k3 hr h0 h3 h4 rfl
        have Oo_O0 := O0
        have hW := hW.trans hN.of_no
        have O0 := O0.exn hN
        exact ⟨k_5, i64 (k2_ + 1), s_l3, h0, h3, h4, h5, Hw4, O0, hW, (by first | exact hF | (rw [hrec_2]; exact hF))⟩
      have hF := (if_neg (Bool.eq_false_iff.1 hb)).symm.trans hF
      refine WP.exit (thenQ_exit (thenQ_exit (blockQ_hit (WP.seq ?_))))
      obtain ⟨s2, hs2, hF⟩ := obind hF
      refine WP.region mixed [[], [], [0, 1], [2]] [[], [], [0, 1], [2]] [[0], [3], [], []] [3] [] [val 54 (v_s_), val 55 (.int .i64 k_3), (56, fun u _ => ViewR u v_s_ 6 k_3 s2.length), (56, fun _ wz => Own B 28 6 Claim.cells wz v_s_ (clearI (⟨0, 0, 0, 0, 0, 0⟩ : Claim) s_l2 k_3))] (fun b => Value.ownBlock v_s_ = some b) (by kernel_rfl) ⟨sV, sV, fun _ _ _ _ h => h, fun _ _ _ hE h => h.exn hE, trivial⟩ ⟨mE rfl rfl h0,
 mE rfl rfl h3,
 fun ρz wz hE hA _ ⟨u0, u1, _⟩ => core_view (n := 6) (cells := Claim.cells) rfl u0 si_23 sz_28 (O0.exn (hA rfl)) u1 hs2 (fun _ h => h),
 fun ρz wz hE hA _ ⟨hV2, _⟩ => core_clear (cells := Claim.cells) rfl rfl (fun _ h => h) (fun _ => rfl) one_28 (by decide) rfl si_23 zv_28 rfl hV2 (O0.exn (hA rfl)), trivial⟩ ?_
      intro ρ17 w17 hE hN hf hr
      obtain ⟨h0, h3⟩ := k2 hr h0 h3 rfl
      have Oo_O0 := O0
      have hW := hW.trans hE
      have O0 := hf 3 rfl
      refine WP.seq ?_
      obtain ⟨s3, hs3, hF⟩ := obind hF
      refine WP.rg mixed [[], [], [0, 1], [2]] [[], [], [0, 1], [2]] [[0], [3], [], []] [val 57 (v_s_), val 58 (.int .i64 k_3), (59, fun u wz => Own B 28 6 Claim.cells wz u s3 ∧ ∀ b, u.ownBlock = some b → v_s_.ownBlock = some b), (2, fun u wz => Own B 28 6 Claim.cells wz u s3 ∧ ∀ b, u.ownBlock = some b → v_s_.ownBlock = some b)] (by kernel_rfl) ⟨sV, sV, fun _ _ _ hE ⟨hO, hf⟩ => ⟨hO.exn hE, hf⟩, fun _ _ _ hE ⟨hO, hf⟩ => ⟨hO.exn hE, hf⟩, trivial⟩ ⟨mE rfl rfl h0,
 mE rfl rfl h3,
 fun ρz wz hE hA _ ⟨u0, u1, _⟩ => core_prefix (n := 6) (cells := Claim.cells) rfl (fun _ => rfl) u0 si_23 sz_28 (O0.exn (hA rfl)) u1 hs3 (fun _ h => h),
 fun ρz wz hE hA _ ⟨⟨hO2, hfr2⟩, _⟩ => core_copy rfl rfl (o_assign rfl) ⟨hO2, hfr2⟩, trivial⟩ ?_
      intro ρ18 w18 hN hf hr
      obtain ⟨v2_, h2⟩ : ∃ v, ρ18 2 = v := ⟨_, rfl⟩
      have hq2 : (fun u wz => Own B 28 6 Claim.cells wz u s3 ∧ ∀ b, u.ownBlock = some b → v_s_.ownBlock = some b) (ρ18 2) w18 := hf 3 rfl
      rw [h2] at hq2
      obtain ⟨hq2, hfr2⟩ := hq2
      have h0 := (hr 0 rfl).trans h0
      have Oo_O0 := O0
      have hW := hW.trans hN.of_no
      have O0 := O0.exn hN
      have O2 := hq2
      refine WP.ret ?_
      show retQ Tryz.prog 61 Tryz.f51 (fun v w1 => (Own B 28 6 Claim.cells w1 v r ∧ ∀ b, v.ownBlock = some b → Value.ownBlock v_s_ = some b) ∧ Ext (fun b => Value.ownBlock v_s_ = some b) w0 w1) .ret ρ18 w18
      obtain rfl := Option.some.inj hF
      exact res1 rfl (by decide) h2 ⟨⟨O2, hfr2⟩, hW⟩
    have hF := (if_neg (Bool.eq_false_iff.1 hb)).symm.trans hF
    refine WP.skip (WP.rv mixed [[], [0], [0, 1]] [[], [0], [1]] [[3], [], []] [(14, .int .i64 k_), (15, .int .i64 (i64 (k_ + 1))), (3, .int .i64 (i64 (k_ + 1)))] (by kernel_rfl) ⟨mE rfl rfl h3,
 fun ρz wz hE hA _ ⟨u0, _⟩ => core_val rfl rfl (o_add u0 rfl rfl),
 aU rfl rfl rfl, trivial⟩ ?_)
    intro ρ19 w19 hN hf hr
    have h3 := hv hf 2 rfl rfl
    have h0 := (hr 0 rfl).trans h0
    have Oo_O0 := O0
    have hW := hW.trans hN.of_no
    have O0 := O0.exn hN
    exact ⟨i64 (k_ + 1), s_l, h0, h3, O0, hW, (by first | exact hF | (rw [hrec_]; exact hF))⟩
  have hF := (if_neg (Bool.eq_false_iff.1 hb)).symm.trans hF
  refine WP.exit (thenQ_exit (thenQ_exit (blockQ_hit (WP.seq (WP.rb mixed [[], [0]] [[0], []] [(60, v_s_), (2, v_s_)] (by kernel_rfl) ⟨mE rfl rfl h0,
 aU rfl rfl rfl, trivial⟩ ?_)))))
  intro ρ20 w20 hN hf hr
  have h2 := hv hf 1 rfl rfl
  have h0 := (hr 0 rfl).trans h0
  have Oo_O0 := O0
  have hW := hW.trans hN.of_no
  have O0 := O0.exn hN
  have O2 := Oo_O0.exn hN
  refine WP.ret ?_
  show retQ Tryz.prog 61 Tryz.f51 (fun v w1 => (Own B 28 6 Claim.cells w1 v r ∧ ∀ b, v.ownBlock = some b → Value.ownBlock v_s_ = some b) ∧ Ext (fun b => Value.ownBlock v_s_ = some b) w0 w1) .ret ρ20 w20
  obtain rfl := Option.some.inj hF
  exact res1 rfl (by decide) h2 ⟨⟨O2, fun _ h => h⟩, hW⟩

set_option maxHeartbeats 4000000 in
theorem decision_sorted_ok {w0 : World} (claims_ : List Claim) {v_claims_ : Value} (H_claims_ : RepSl Claim.R noG w0 v_claims_ claims_) {r : (List Claim)} (hF : decision_sorted claims_ = some r) :
    Calls Tryz.prog 23 #[v_claims_] w0 fun e w1 => ∃ v, e = .returned v ∧ Ext noG w0 w1 ∧ Own w0.heap.size 28 6 Claim.cells w1 v r := by
  refine (Calls.start (P := Tryz.prog) (args := [v_claims_]) (R := fun v w1 => Own w0.heap.size 28 6 Claim.cells w1 v r ∧ Ext noG w0 w1) (n := 23) (w := w0) Tryz.func23 rfl rfl (Nat.le_of_ble_eq_true rfl) (fun ρ hargs => ?_)).mono (fun e w1 ⟨v, he, hv, hE⟩ => ⟨v, he, hE, hv⟩)
  have h0 := hargs 0 _ rfl
  have hW := Ext.refl noG w0
  obtain ⟨_, _, hs_H_claims_, _, _⟩ := RepSl.shape H_claims_
  have H_claims_ := H_claims_.start
  rw [decision_sorted] at hF
  refine WP.seq (WP.rb mixed [[]] [[]] [(2, .slice none 0 0)] (by kernel_rfl) ⟨aC rfl rfl (fun _ => rfl), trivial⟩ ?_)
  intro ρ1 w1 hN hf hr
  have h0 := (hr 0 rfl).trans h0
  have H_claims_ := H_claims_.exn hN
  have hW := hW.trans hN
  refine WP.seq (WP.rb mixed [[]] [[]] [(3, .slice none 0 0)] (by kernel_rfl) ⟨aC rfl rfl (fun _ => rfl), trivial⟩ ?_)
  intro ρ2 w2 hN hf hr
  have h3 : ρ2 3 = .slice none 0 0 := hf 0 rfl
  have O3 : Own w0.heap.size 28 6 Claim.cells w2 (.slice none 0 0) [] := Own.nil _ _ _ _ _
  have h0 := (hr 0 rfl).trans h0
  have H_claims_ := H_claims_.exn hN
  have hW := hW.trans hN
  refine WP.seq (WP.seq (WP.rb mixed [[], [0], []] [[0], [], []] [(6, v_claims_), (7, .int .i64 (claims_.length : Int)), (8, .int .i64 0)] (by kernel_rfl) ⟨mE rfl rfl h0,
 fun ρz wz hE hA _ ⟨u0, _⟩ => core_val rfl rfl (o_len (u0.trans hs_H_claims_) len_23),
 mC rfl rfl (fun _ => rfl), trivial⟩ ?_))
  intro ρ3 w3 hN hf hr
  have h6 := hv hf 0 rfl rfl
  have h7 := hv hf 1 rfl rfl
  have h8 := hv hf 2 rfl rfl
  have h3 := (hr 3 rfl).trans h3
  have Oo_O3 := O3
  have H_claims_ := H_claims_.exn hN
  have hW := hW.trans hN
  have O3 := O3.exn hN
  refine WP.block (WP.loop (fun k_ ρ w => ∃ out_ : List Claim, ∃ x : Int, ∃ v3_ : Value, ρ 3 = v3_ ∧ ρ 6 = v_claims_ ∧ ρ 7 = .int .i64 (claims_.length : Int) ∧ ρ 8 = .int .i64 x ∧ RepSl Claim.R (gfr noG w0) w v_claims_ claims_ ∧ Own w0.heap.size 28 6 Claim.cells w v3_ out_ ∧ Ext noG w0 w ∧ loopC k_ (decision_sorted_l claims_) (out_, x) = some r) FU ⟨[], 0, .slice none 0 0, h3, h6, h7, h8, H_claims_, O3, hW, hF⟩ (fun _ _ h => by obtain ⟨_, _, _, _, _, _, _, _, _, _, h⟩ := h; cases h) ?_)
  rintro k_ ρ4 w4 ⟨out_, x, v3_, h3, h6, h7, h8, H_claims_, O3, hW, hF⟩
  have hF : decision_sorted_l claims_ (loopC k_ (decision_sorted_l claims_)) (out_, x) = some r := hF
  generalize hrec_ : loopC k_ (decision_sorted_l claims_) = rec_ at hF
  rw [decision_sorted_l] at hF
  refine WP.seq (WP.rb mixed [[]] [[8, 7]] [(9, .bool (decide (x < (claims_.length : Int))))] (by kernel_rfl) ⟨fun ρz wz hE hA ⟨e8, e7, _⟩ _ => core_val rfl rfl (o_lss (e8.trans h8) (e7.trans h7) rfl), trivial⟩ ?_)
  intro ρ5 w5 hN hf hr
  have h9 := hv hf 0 rfl rfl
  obtain ⟨h3, h6, h7, h8⟩ := k4 hr h3 h6 h7 h8 rfl
  have Oo_O3 := O3
  have H_claims_ := H_claims_.exn hN
  have hW := hW.trans hN
  have O3 := O3.exn hN
  refine WP.seq (WP.cond rfl h9 (fun hb => ?_) (fun hb => ?_))
  · have hF := (if_pos hb).symm.trans hF
    refine WP.skip (WP.seqJ (fun ρ w => ∃ out_2 : List Claim, ∃ v3_2 : Value, ρ 3 = v3_2 ∧ ρ 6 = v_claims_ ∧ ρ 7 = .int .i64 (claims_.length : Int) ∧ ρ 8 = .int .i64 x ∧ RepSl Claim.R (gfr noG w0) w v_claims_ claims_ ∧ Own w0.heap.size 28 6 Claim.cells w v3_2 out_2 ∧ Ext noG w0 w ∧ decision_sorted_j x rec_ out_2 = some r) ?_ ?_)
    · refine WP.block (WP.seq ?_)
      obtain ⟨y, hy, hF⟩ := obind hF
      obtain ⟨ay, cy, hvy, hiy, hAy⟩ := RepSl.getF H_claims_ hy
      refine WP.region mixed [[], [0], [], [1, 2]] [[], [0], [], [1, 2]] [[6, 8], [], [], []] [3] [(2, 3)] [val 10 (.pointer (some (ay.add (Int.toNat x * 6)))), val 11 (Claim.val y), (5, fun u wz => ∃ b, u = .pointer (some ⟨b, 0, none⟩) ∧ w5.heap.size ≤ b ∧ Mb wz b 28 (Claim.cells (⟨0, 0, 0, 0, 0, 0⟩ : Claim))), (5, fun u wz => ∃ b, u = .pointer (some ⟨b, 0, none⟩) ∧ w5.heap.size ≤ b ∧ Mb wz b 28 (Claim.cells y))] (fun b => w5.heap.size ≤ b) (by kernel_rfl) ⟨sV, sV, fun _ _ _ hE ⟨b, hb, hs, hM⟩ => ⟨b, hb, hs, hM.exn hE⟩, fun _ _ _ hE ⟨b, hb, hs, hM⟩ => ⟨b, hb, hs, hM.exn hE⟩, trivial⟩ ⟨fun ρz wz hE hA ⟨e6, e8, _⟩ _ => core_val rfl rfl (o_indexAddr ((e6.trans h6).trans hvy) (e8.trans h8) (ia_23 hiy)),
 fun ρz wz hE hA _ ⟨u0, _⟩ => core_val rfl rfl (o_load u0 (run_loadN (cs := (Claim.cells y)) (lr_28 _ _) rfl ((hAy.exn hE.fresh).ca))),
 fun ρz wz hE hA _ _ => core_new rfl rfl hE (o_alloc (al_28 _)),
 fun ρz wz hE hA _ ⟨u1, u2, _⟩ => core_storeNew rfl rfl rfl rfl u1 u2 (fun a w => st_28 _ a w) rfl (one_28 _), trivial⟩ ?_
      intro ρ8 w8 hE hN hf hr
      have hN := hE.fresh
      obtain ⟨b5_, h5, hge_b5_, Hb_b5_⟩ := hf 3 rfl
      obtain ⟨h3, h6, h7, h8⟩ := k4 hr h3 h6 h7 h8 rfl
      have Oo_O3 := O3
      have H_claims_ := H_claims_.exn hN
      have hnb_O3_b5_ : Value.ownBlock v3_ ≠ some b5_ := fun h => absurd (O3.lt h).2 (Nat.not_lt.2 hge_b5_)
      have hB_b5_ : w0.heap.size ≤ b5_ := Nat.le_trans hW.size hge_b5_
      have hW := hW.trans hN
      have O3 := O3.exn hN
      refine WP.seq ?_
      obtain ⟨z, hz, hF⟩ := obind hF
      refine WP.rb mixed [[], [0]] [[5], []] [(12, Claim.val y), (13, .bool z)] (by kernel_rfl) ⟨fun ρz wz hE hA ⟨e5, _⟩ _ => core_val rfl rfl (o_load (e5.trans h5) (run_loadN (cs := (Claim.cells y)) (lr_28 _ _) rfl ((Hb_b5_.exn (hA rfl)).ca))),
 fun ρz wz hE hA _ ⟨u0, _⟩ => core_call rfl (call_args1 u0) cf_21 (decision_Valid_ok  _  hz), trivial⟩ ?_
      intro ρ9 w9 hN hf hr
      have h13 := hv hf 1 rfl rfl
      obtain ⟨h3, h6, h7, h8, h5⟩ := k5 hr h3 h6 h7 h8 h5 rfl
      have Oo_O3 := O3
      have Hb_b5_n := Hb_b5_.exn hN
      have H_claims_ := H_claims_.exn hN
      have hW := hW.trans hN
      have O3 := O3.exn hN
      have Hb_b5_ := Hb_b5_n
      refine WP.cond rfl h13 (fun hb => ?_) (fun hb => ?_)
      · have hF := (if_pos hb).symm.trans hF
        obtain ⟨l, hl, hF⟩ := obind hF
        refine WP.region mixed [[], [], [1], [0, 1, 2], [0, 3]] [[], [], [1], [0, 2], [3]] [[3], [5], [], [], []] [3] [] [val 14 (v3_), val 15 (Claim.val y), (16, fun u wz => ∃ b, u = .slice (some ⟨b, 0, none⟩) 1 1 ∧ w9.heap.size ≤ b ∧ Mb wz b 28 (([y]).flatMap Claim.cells)), (17, fun u wz => Own w0.heap.size 28 6 Claim.cells wz u l ∧ ∀ b, u.ownBlock = some b → (v3_.ownBlock = some b ∨ w9.heap.size ≤ b)), (3, fun u wz => Own w0.heap.size 28 6 Claim.cells wz u l ∧ ∀ b, u.ownBlock = some b → (v3_.ownBlock = some b ∨ w9.heap.size ≤ b))] (fun b => Value.ownBlock v3_ = some b) (by kernel_rfl) ⟨sV, sV, fun _ _ _ hE ⟨b, hz, hs, hM⟩ => ⟨b, hz, hs, hM.ext hE (fun hg => absurd (O3.lt hg).2 (Nat.not_lt.2 hs))⟩, fun _ _ _ hE ⟨hO, hf⟩ => ⟨hO.exn hE, hf⟩, fun _ _ _ hE ⟨hO, hf⟩ => ⟨hO.exn hE, hf⟩, trivial⟩ ⟨mE rfl rfl h3,
 fun ρz wz hE hA ⟨e5, _⟩ _ => core_val rfl rfl (o_load (e5.trans h5) (run_loadN (cs := (Claim.cells y)) (lr_28 _ _) rfl ((Hb_b5_.exn (hA rfl)).ca))),
 fun ρz wz hE hA _ ⟨u1, _⟩ => core_slice rfl rfl hE (o_buildSlice (build_parts1 u1) (bs_23_1 _ _)),
 fun ρz wz hE hA _ ⟨u0, ⟨bz2, hz2, hge2, hM2⟩, _⟩ => core_append (n := 6) (cells := Claim.cells) (B := w0.heap.size) (w0 := w9) rfl rfl (fun b hb => hb) u0 hz2 (fun _ => rfl) one_28 si_23 se_28 (by decide) (by decide) (O3.exn (hA rfl)) ⟨_, (Mb.rep (n := 6) (cells := Claim.cells) (hn := fun _ => rfl) (G := noG) hM2 rfl (Nat.le_of_ble_eq_true rfl) (fun h => h))⟩ hl (Nat.le_trans hW.size hE.size) hE.size (fun v1 w1 h1 h2 => ⟨h1, h2⟩),
 fun ρz wz hE hA _ ⟨⟨hO3, hfr3⟩, _⟩ => core_copy rfl rfl (o_assign rfl) ⟨hO3, hfr3⟩, trivial⟩ ?_
        intro ρ10 w10 hE hN hf hr
        obtain ⟨v3_3, h3⟩ : ∃ v, ρ10 3 = v := ⟨_, rfl⟩
        have hq3 : (fun u wz => Own w0.heap.size 28 6 Claim.cells wz u l ∧ ∀ b, u.ownBlock = some b → (v3_.ownBlock = some b ∨ w9.heap.size ≤ b)) (ρ10 3) w10 := hf 4 rfl
        rw [h3] at hq3
        obtain ⟨hq3, hfr3⟩ := hq3
        obtain ⟨h6, h7, h8⟩ := k3 hr h6 h7 h8 rfl
        have Oo_O3 := O3
        have H_claims_ := H_claims_.over hE (fun b hb => (O3.lt hb).1)
        have hW := Ext.own hW hE (fun b hb => (O3.lt hb).1)
        have O3 := hq3
        exact ⟨l, v3_3, h3, h6, h7, h8, H_claims_, O3, hW, hF⟩
      have hF := (if_neg (Bool.eq_false_iff.1 hb)).symm.trans hF
      refine WP.skip ?_
      exact ⟨out_, v3_, h3, h6, h7, h8, H_claims_, O3, hW, hF⟩
    rintro ρ6 w6 ⟨out_2, v3_2, h3, h6, h7, h8, H_claims_, O3, hW, hF⟩
    rw [decision_sorted_j] at hF
    refine WP.rb mixed [[], [0]] [[8], []] [(18, .int .i64 (i64 (x + 1))), (8, .int .i64 (i64 (x + 1)))] (by kernel_rfl) ⟨fun ρz wz hE hA ⟨e8, _⟩ _ => core_val rfl rfl (o_add (e8.trans h8) rfl rfl),
 mU rfl rfl rfl, trivial⟩ ?_
    intro ρ7 w7 hN hf hr
    have h8 := hv hf 1 rfl rfl
    obtain ⟨h3, h6, h7⟩ := k3 hr h3 h6 h7 rfl
    have Oo_O3 := O3
    have H_claims_ := H_claims_.exn hN
    have hW := hW.trans hN
    have O3 := O3.exn hN
    exact ⟨out_2, i64 (x + 1), v3_2, h3, h6, h7, h8, H_claims_, O3, hW, (by first | exact hF | (rw [hrec_]; exact hF))⟩
  have hF := (if_neg (Bool.eq_false_iff.1 hb)).symm.trans hF
  refine WP.exit (thenQ_exit (thenQ_exit (blockQ_hit (WP.seq ?_))))
  obtain ⟨z2, hz2, hF⟩ := obind hF
  refine WP.region mixed [[], [0]] [[], [0]] [[3], []] [1] [] [val 19 (v3_), (20, fun u wz => u = .tuple #[] ∧ Own w0.heap.size 28 6 Claim.cells wz v3_ z2)] (fun b => Value.ownBlock v3_ = some b) (by kernel_rfl) ⟨sV, fun _ _ _ hE ⟨h1, h2⟩ => ⟨h1, h2.exn hE⟩, trivial⟩ ⟨mE rfl rfl h3,
 fun ρz wz hE hA _ ⟨u0, _⟩ => core_callM rfl rfl (fun _ h => h) (call_args2 u0 rfl) cf_49 (slices_SortFunc_of_api_Claim_ok _ _ (O3.exn (hA rfl)) (FnR.mk (V := fnV_75) (W := fnW_75) (G := (fun b => Value.ownBlock v3_ = some b)) (cap := []) cf_50 (fun w' hE' x r hr => decision_compare_ok _ _   hr)) (totO_decision_compare) hz2), trivial⟩ ?_
  intro ρ11 w11 hE hN hf hr
  have h3 := (hr 3 rfl).trans h3
  have Oo_O3 := O3
  have hW := Ext.own hW hE (fun b hb => (O3.lt hb).1)
  have O3 := (hf 1 rfl).2
  refine WP.seq ?_
  obtain ⟨z3, hz3, hF⟩ := obind hF
  refine WP.region mixed [[], [0], [1]] [[], [0], [1]] [[3], [], []] [1] [] [val 21 (v3_), (22, fun u wz => Own w0.heap.size 28 6 Claim.cells wz u z3 ∧ ∀ b, u.ownBlock = some b → (v3_.ownBlock = some b ∨ w11.heap.size ≤ b)), (2, fun u wz => Own w0.heap.size 28 6 Claim.cells wz u z3 ∧ ∀ b, u.ownBlock = some b → (v3_.ownBlock = some b ∨ w11.heap.size ≤ b))] (fun b => Value.ownBlock v3_ = some b) (by kernel_rfl) ⟨sV, fun _ _ _ hE ⟨hO, hf⟩ => ⟨hO.exn hE, hf⟩, fun _ _ _ hE ⟨hO, hf⟩ => ⟨hO.exn hE, hf⟩, trivial⟩ ⟨mE rfl rfl h3,
 fun ρz wz hE hA _ ⟨u0, _⟩ => core_callC rfl rfl (fun b hb => hb) (call_args1 u0) cf_51 ((slices_Compact_of_api_Claim_ok  _ (O3.exn (hA rfl)) hz3).mono (fun e w1 ⟨v, he, hE1, hO, hb⟩ => ⟨v, he, hE1, hO, fun b h => .inl (hb b h)⟩)),
 fun ρz wz hE hA _ ⟨⟨hO1, hfr1⟩, _⟩ => core_copy rfl rfl (o_assign rfl) ⟨hO1, hfr1⟩, trivial⟩ ?_
  intro ρ12 w12 hE hN hf hr
  obtain ⟨v2_, h2⟩ : ∃ v, ρ12 2 = v := ⟨_, rfl⟩
  have hq2 : (fun u wz => Own w0.heap.size 28 6 Claim.cells wz u z3 ∧ ∀ b, u.ownBlock = some b → (v3_.ownBlock = some b ∨ w11.heap.size ≤ b)) (ρ12 2) w12 := hf 2 rfl
  rw [h2] at hq2
  obtain ⟨hq2, hfr2⟩ := hq2
  have Oo_O3 := O3
  have hW := Ext.own hW hE (fun b hb => (O3.lt hb).1)
  have O2 := hq2
  refine WP.ret ?_
  show retQ Tryz.prog 23 Tryz.f23 (fun v w1 => Own w0.heap.size 28 6 Claim.cells w1 v r ∧ Ext noG w0 w1) .ret ρ12 w12
  obtain rfl := Option.some.inj hF
  exact res1 rfl (by decide) h2 ⟨O2, hW⟩

set_option maxHeartbeats 4000000 in
theorem decision_started_ok {w0 : World} (c_ : Claim) (month_ : Int) {r : Bool} (hF : decision_started c_ month_ = some r) :
    Calls Tryz.prog 44 #[Claim.val c_, .int .i64 month_] w0 fun e w1 => e = .returned (.bool r) ∧ Ext noG w0 w1 := by
  refine (Calls.start (P := Tryz.prog) (args := [Claim.val c_, .int .i64 month_]) (R := fun v w1 => v = .bool r ∧ Ext noG w0 w1) (n := 15) (w := w0) Tryz.func44 rfl rfl (Nat.le_of_ble_eq_true rfl) (fun ρ hargs => ?_)).mono (fun e w1 ⟨v, he, hv, hE⟩ => ⟨hv ▸ he, hE⟩)
  have h0 := hargs 0 _ rfl
  have h1 := hargs 1 _ rfl
  have hW := Ext.refl noG w0
  rw [decision_started] at hF
  refine WP.seq (WP.rg mixed [[], []] [[], []] [[0], []] [(2, fun u wz => ∃ b, u = .pointer (some ⟨b, 0, none⟩) ∧ w0.heap.size ≤ b ∧ Mb wz b 28 (Claim.cells c_)), val 4 (.bool false)] (by kernel_rfl) ⟨fun _ _ _ hE ⟨b, hb, hs, hM⟩ => ⟨b, hb, hs, hM.exn hE⟩, sV, trivial⟩ ⟨fun ρz wz hE hA ⟨e0, _⟩ _ => core_new rfl rfl hE (o_box (e0.trans h0) (bx_28 _ _)),
 aC rfl rfl (fun _ => rfl), trivial⟩ ?_)
  intro ρ1 w1 hN hf hr
  obtain ⟨b2_, h2, hge_b2_, Hb_b2_⟩ := hf 0 rfl
  have h1 := (hr 1 rfl).trans h1
  have hB_b2_ : w0.heap.size ≤ b2_ := Nat.le_trans hW.size hge_b2_
  have hW := hW.trans hN
  refine WP.seq ?_
  obtain ⟨z, hz, hF⟩ := obind hF
  refine WP.rb mixed [[], [0], [1], [2], [2], [3], [4]] [[2], [], [], [], [], [], []] [(8, Claim.val c_), (9, .tuple #[.int .i64 z.1, .bool z.2]), (7, .tuple #[.int .i64 z.1, .bool z.2]), (10, .int .i64 z.1), (11, .bool z.2), (5, .int .i64 z.1), (6, .bool z.2)] (by kernel_rfl) ⟨fun ρz wz hE hA ⟨e2, _⟩ _ => core_val rfl rfl (o_load (e2.trans h2) (run_loadN (cs := (Claim.cells c_)) (lr_28 _ _) rfl ((Hb_b2_.exn (hA rfl)).ca))),
 fun ρz wz hE hA _ ⟨u0, _⟩ => core_call rfl (call_args1 u0) cf_20 (decision_Start_ok  _  hz),
 mU rfl rfl rfl,
 fun ρz wz hE hA _ ⟨u2, _⟩ => core_val rfl rfl (o_extract u2 (by kernel_rfl)),
 fun ρz wz hE hA _ ⟨u2, _⟩ => core_val rfl rfl (o_extract u2 (by kernel_rfl)),
 aU rfl rfl rfl,
 aU rfl rfl rfl, trivial⟩ ?_
  intro ρ2 w2 hN hf hr
  have h5 := hv hf 5 rfl rfl
  have h1 := (hr 1 rfl).trans h1
  have hW := hW.trans hN
  refine WP.seq (WP.rb mixed [[], [], [0, 1], [2]] [[5], [1], [], []] [(12, .int .i64 z.1), (13, .int .i64 month_), (14, .bool (decide (z.1 ≤ month_))), (4, .bool (decide (z.1 ≤ month_)))] (by kernel_rfl) ⟨mE rfl rfl h5,
 mE rfl rfl h1,
 fun ρz wz hE hA _ ⟨u0, u1, _⟩ => core_val rfl rfl (o_leq u0 u1 rfl),
 aU rfl rfl rfl, trivial⟩ ?_)
  intro ρ3 w3 hN hf hr
  have h4 := hv hf 3 rfl rfl
  have hW := hW.trans hN
  refine WP.ret ?_
  show retQ Tryz.prog 15 Tryz.f44 (fun v w1 => v = .bool r ∧ Ext noG w0 w1) .ret ρ3 w3
  obtain rfl := Option.some.inj hF
  exact res1 rfl (by decide) h4 ⟨rfl, hW⟩

set_option maxHeartbeats 4000000 in
theorem slices_stableCmpFunc_of_api_Claim_ok {w0 : World} (data_ : List Claim) (n_ : Int) (cmp_ : (Claim × Claim) → Option Int) {v_data_ : Value} {B : Nat} (O0 : Own B 28 6 Claim.cells w0 v_data_ data_) {v_cmp_ : Value} (H_cmp_ : FnR Tryz.prog fnV_75 fnW_75 cmp_ (fun b => Value.ownBlock v_data_ = some b) w0 v_cmp_) {r : List Claim} (hF : slices_stableCmpFunc_of_api_Claim data_ n_ cmp_ = some r) :
    Calls Tryz.prog 81 #[v_data_, .int .i64 n_, v_cmp_] w0 fun e w1 => e = .returned (.tuple #[]) ∧ Ext (fun b => Value.ownBlock v_data_ = some b) w0 w1 ∧ Own B 28 6 Claim.cells w1 v_data_ r := by
  refine (Calls.start (P := Tryz.prog) (args := [v_data_, .int .i64 n_, v_cmp_]) (R := fun v w1 => (v = .tuple #[] ∧ Own B 28 6 Claim.cells w1 v_data_ r) ∧ Ext (fun b => Value.ownBlock v_data_ = some b) w0 w1) (n := 63) (w := w0) Tryz.func81 rfl rfl (Nat.le_of_ble_eq_true rfl) (fun ρ hargs => ?_)).mono (fun e w1 ⟨v, he, hv, hE⟩ => ⟨hv.1 ▸ he, hE, hv.2⟩)
  have h0 := hargs 0 _ rfl
  have h1 := hargs 1 _ rfl
  have h2 := hargs 2 _ rfl
  have hW := Ext.refl (fun b => Value.ownBlock v_data_ = some b) w0
  have H_cmp_ := H_cmp_.start
  rw [slices_stableCmpFunc_of_api_Claim] at hF
  refine WP.seq (WP.rb mixed [[]] [[]] [(6, .int .i64 20)] (by kernel_rfl) ⟨aC rfl rfl (fun _ => rfl), trivial⟩ ?_)
  intro ρ1 w1 hN hf hr
  have h6 := hv hf 0 rfl rfl
  obtain ⟨h0, h1, h2⟩ := k3 hr h0 h1 h2 rfl
  have Oo_O0 := O0
  have H_cmp_ := H_cmp_.exn hN
  have hW := hW.trans hN.of_no
  have O0 := O0.exn hN
  refine WP.seq (WP.rb mixed [[], [], [0]] [[6], [], []] [(10, .int .i64 20), (7, .int .i64 0), (8, .int .i64 20)] (by kernel_rfl) ⟨mE rfl rfl h6,
 aC rfl rfl (fun _ => rfl),
 aU rfl rfl rfl, trivial⟩ ?_)
  intro ρ2 w2 hN hf hr
  have h7 := hv hf 1 rfl rfl
  have h8 := hv hf 2 rfl rfl
  obtain ⟨h0, h1, h2, h6⟩ := k4 hr h0 h1 h2 h6 rfl
  have Oo_O0 := O0
  have H_cmp_ := H_cmp_.exn hN
  have hW := hW.trans hN.of_no
  have O0 := O0.exn hN
  refine WP.seq (WP.block (WP.loop (fun k_ ρ w => ∃ a_ : Int, ∃ b_ : Int, ∃ data_l : List Claim, ρ 0 = v_data_ ∧ ρ 1 = .int .i64 n_ ∧ ρ 2 = v_cmp_ ∧ ρ 6 = .int .i64 20 ∧ ρ 7 = .int .i64 a_ ∧ ρ 8 = .int .i64 b_ ∧ FnR Tryz.prog fnV_75 fnW_75 cmp_ (gfr (fun b => Value.ownBlock v_data_ = some b) w0) w v_cmp_ ∧ Own B 28 6 Claim.cells w v_data_ data_l ∧ Ext (fun b => Value.ownBlock v_data_ = some b) w0 w ∧ loopC k_ (slices_stableCmpFunc_of_api_Claim_l n_ cmp_) (a_, b_, data_l) = some r) FU ⟨0, 20, data_, h0, h1, h2, h6, h7, h8, H_cmp_, O0, hW, hF⟩ (fun _ _ h => by obtain ⟨_, _, _, _, _, _, _, _, _, _, _, _, h⟩ := h; cases h) ?_))
  rintro k_ ρ3 w3 ⟨a_, b_, data_l, h0, h1, h2, h6, h7, h8, H_cmp_, O0, hW, hF⟩
  have hF : slices_stableCmpFunc_of_api_Claim_l n_ cmp_ (loopC k_ (slices_stableCmpFunc_of_api_Claim_l n_ cmp_)) (a_, b_, data_l) = some r := hF
  generalize hrec_ : loopC k_ (slices_stableCmpFunc_of_api_Claim_l n_ cmp_) = rec_ at hF
  rw [slices_stableCmpFunc_of_api_Claim_l] at hF
  refine WP.seq (WP.seq (WP.rb mixed [[], [], [0, 1]] [[8], [1], []] [(11, .int .i64 b_), (12, .int .i64 n_), (13, .bool (decide (b_ ≤ n_)))] (by kernel_rfl) ⟨mE rfl rfl h8,
 mE rfl rfl h1,
 fun ρz wz hE hA _ ⟨u0, u1, _⟩ => core_val rfl rfl (o_leq u0 u1 rfl), trivial⟩ ?_))
  intro ρ4 w4 hN hf hr
  have h13 := hv hf 2 rfl rfl
  obtain ⟨h0, h1, h2, h6, h7, h8⟩ := k6 hr h0 h1 h2 h6 h7 h8 rfl
  have Oo_O0 := O0
  have H_cmp_ := H_cmp_.exn hN
  have hW := hW.trans hN.of_no
  have O0 := O0.exn hN
  refine WP.cond rfl h13 (fun hb => ?_) (fun hb => ?_)
  · have hF := (if_pos hb).symm.trans hF
    refine WP.skip (WP.block (WP.seq ?_))
    obtain ⟨z, hz, hF⟩ := obind hF
    refine WP.region mixed [[], [], [], [], [0, 1, 2, 3]] [[], [], [], [], [0, 1, 2, 3]] [[0], [7], [8], [2], []] [4] [] [val 14 (v_data_), val 15 (.int .i64 a_), val 16 (.int .i64 b_), val 17 (v_cmp_), (18, fun u wz => u = .tuple #[] ∧ Own B 28 6 Claim.cells wz v_data_ z)] (fun b => Value.ownBlock v_data_ = some b) (by kernel_rfl) ⟨sV, sV, sV, sV, fun _ _ _ hE ⟨h1, h2⟩ => ⟨h1, h2.exn hE⟩, trivial⟩ ⟨mE rfl rfl h0,
 mE rfl rfl h7,
 mE rfl rfl h8,
 mE rfl rfl h2,
 fun ρz wz hE hA _ ⟨u0, u1, u2, u3, _⟩ => core_callM rfl rfl (fun _ h => h) (call_args4 u0 u1 u2 u3) cf_128 (slices_insertionSortCmpFunc_of_api_Claim_ok  _ _ _ _ (O0.exn (hA rfl)) ((H_cmp_.exn (hA rfl)).weaken (fun b _ hb => .inl hb)) hz), trivial⟩ ?_
    intro ρ5 w5 hE hN hf hr
    obtain ⟨h0, h1, h2, h6, h8⟩ := k5 hr h0 h1 h2 h6 h8 rfl
    have Oo_O0 := O0
    have H_cmp_ := H_cmp_.ext (hE.mono fun b hb => .inl hb)
    have hW := hW.trans hE
    have O0 := (hf 4 rfl).2
    refine WP.seq (WP.rb mixed [[], [0]] [[8], []] [(19, .int .i64 b_), (7, .int .i64 b_)] (by kernel_rfl) ⟨mE rfl rfl h8,
 aU rfl rfl rfl, trivial⟩ ?_)
    intro ρ6 w6 hN hf hr
    have h7 := hv hf 1 rfl rfl
    obtain ⟨h0, h1, h2, h6, h8⟩ := k5 hr h0 h1 h2 h6 h8 rfl
    have Oo_O0 := O0
    have H_cmp_ := H_cmp_.exn hN
    have hW := hW.trans hN.of_no
    have O0 := O0.exn hN
    refine WP.rv mixed [[], [], [0, 1], [0, 2]] [[], [], [0, 1], [2]] [[8], [6], [], []] [(20, .int .i64 b_), (21, .int .i64 20), (22, .int .i64 (i64 (b_ + 20))), (8, .int .i64 (i64 (b_ + 20)))] (by kernel_rfl) ⟨mE rfl rfl h8,
 mE rfl rfl h6,
 fun ρz wz hE hA _ ⟨u0, u1, _⟩ => core_val rfl rfl (o_add u0 u1 rfl),
 aU rfl rfl rfl, trivial⟩ ?_
    intro ρ7 w7 hN hf hr
    have h8 := hv hf 3 rfl rfl
    obtain ⟨h0, h1, h2, h6, h7⟩ := k5 hr h0 h1 h2 h6 h7 rfl
    have Oo_O0 := O0
    have H_cmp_ := H_cmp_.exn hN
    have hW := hW.trans hN.of_no
    have O0 := O0.exn hN
    exact ⟨b_, i64 (b_ + 20), z, h0, h1, h2, h6, h7, h8, H_cmp_, O0, hW, (by first | exact hF | (rw [hrec_]; exact hF))⟩
  have hF := (if_neg (Bool.eq_false_iff.1 hb)).symm.trans hF
  refine WP.exit (thenQ_exit (thenQ_exit (blockQ_hit (WP.seq ?_))))
  obtain ⟨z2, hz2, hF⟩ := obind hF
  refine WP.region mixed [[], [], [], [], [0, 1, 2, 3]] [[], [], [], [], [0, 1, 2, 3]] [[0], [7], [1], [2], []] [4] [] [val 23 (v_data_), val 24 (.int .i64 a_), val 25 (.int .i64 n_), val 26 (v_cmp_), (27, fun u wz => u = .tuple #[] ∧ Own B 28 6 Claim.cells wz v_data_ z2)] (fun b => Value.ownBlock v_data_ = some b) (by kernel_rfl) ⟨sV, sV, sV, sV, fun _ _ _ hE ⟨h1, h2⟩ => ⟨h1, h2.exn hE⟩, trivial⟩ ⟨mE rfl rfl h0,
 mE rfl rfl h7,
 mE rfl rfl h1,
 mE rfl rfl h2,
 fun ρz wz hE hA _ ⟨u0, u1, u2, u3, _⟩ => core_callM rfl rfl (fun _ h => h) (call_args4 u0 u1 u2 u3) cf_128 (slices_insertionSortCmpFunc_of_api_Claim_ok  _ _ _ _ (O0.exn (hA rfl)) ((H_cmp_.exn (hA rfl)).weaken (fun b _ hb => .inl hb)) hz2), trivial⟩ ?_
  intro ρ8 w8 hE hN hf hr
  obtain ⟨h0, h1, h2, h6⟩ := k4 hr h0 h1 h2 h6 rfl
  have Oo_O0 := O0
  have H_cmp_ := H_cmp_.ext (hE.mono fun b hb => .inl hb)
  have hW := hW.trans hE
  have O0 := (hf 4 rfl).2
  refine WP.block (WP.loop (fun k_2 ρ w => ∃ blockSize_ : Int, ρ 0 = v_data_ ∧ ρ 1 = .int .i64 n_ ∧ ρ 2 = v_cmp_ ∧ ρ 6 = .int .i64 blockSize_ ∧ FnR Tryz.prog fnV_75 fnW_75 cmp_ (gfr (fun b => Value.ownBlock v_data_ = some b) w0) w v_cmp_ ∧ Own B 28 6 Claim.cells w v_data_ z2 ∧ Ext (fun b => Value.ownBlock v_data_ = some b) w0 w ∧ loopC k_2 (slices_stableCmpFunc_of_api_Claim_l2 n_ z2) blockSize_ = some r) FU ⟨20, h0, h1, h2, h6, H_cmp_, O0, hW, hF⟩ (fun _ _ h => by obtain ⟨_, _, _, _, _, _, _, _, h⟩ := h; cases h) ?_)
  rintro k_2 ρ9 w9 ⟨blockSize_, h0, h1, h2, h6, H_cmp_, O0, hW, hF⟩
  have hF : slices_stableCmpFunc_of_api_Claim_l2 n_ z2 (loopC k_2 (slices_stableCmpFunc_of_api_Claim_l2 n_ z2)) blockSize_ = some r := hF
  generalize hrec_2 : loopC k_2 (slices_stableCmpFunc_of_api_Claim_l2 n_ z2) = rec_2 at hF
  rw [slices_stableCmpFunc_of_api_Claim_l2] at hF
  refine WP.seq (WP.seq (WP.rb mixed [[], [], [0, 1]] [[6], [1], []] [(28, .int .i64 blockSize_), (29, .int .i64 n_), (30, .bool (decide (blockSize_ < n_)))] (by kernel_rfl) ⟨mE rfl rfl h6,
 mE rfl rfl h1,
 fun ρz wz hE hA _ ⟨u0, u1, _⟩ => core_val rfl rfl (o_lss u0 u1 rfl), trivial⟩ ?_))
  intro ρ10 w10 hN hf hr
  have h30 := hv hf 2 rfl rfl
  obtain ⟨h0, h1, h2, h6⟩ := k4 hr h0 h1 h2 h6 rfl
  have Oo_O0 := O0
  have H_cmp_ := H_cmp_.exn hN
  have hW := hW.trans hN.of_no
  have O0 := O0.exn hN
  refine WP.cond rfl h30 (fun hb => ?_) (fun hb => ?_)
  · have hF := (if_pos hb).symm.trans hF
    refine WP.skip (WP.block (WP.seq (WP.rb mixed [[], [0], [], [1]] [[6], [], [], []] [(31, .int .i64 blockSize_), (32, .int .i64 (i64 (2 * blockSize_))), (7, .int .i64 0), (8, .int .i64 (i64 (2 * blockSize_)))] (by kernel_rfl) ⟨mE rfl rfl h6,
 fun ρz wz hE hA _ ⟨u0, _⟩ => core_val rfl rfl (o_mul rfl u0 rfl),
 aC rfl rfl (fun _ => rfl),
 aU rfl rfl rfl, trivial⟩ ?_)))
    intro ρ11 w11 hN hf hr
    have h7 := hv hf 2 rfl rfl
    have h8 := hv hf 3 rfl rfl
    obtain ⟨h0, h1, h2, h6⟩ := k4 hr h0 h1 h2 h6 rfl
    have Oo_O0 := O0
    have H_cmp_ := H_cmp_.exn hN
    have hW := hW.trans hN.of_no
    have O0 := O0.exn hN
    refine WP.seq (WP.block (WP.loop (fun k_3 ρ w => ∃ a_2 : Int, ∃ b_2 : Int, ρ 0 = v_data_ ∧ ρ 1 = .int .i64 n_ ∧ ρ 2 = v_cmp_ ∧ ρ 6 = .int .i64 blockSize_ ∧ ρ 7 = .int .i64 a_2 ∧ ρ 8 = .int .i64 b_2 ∧ FnR Tryz.prog fnV_75 fnW_75 cmp_ (gfr (fun b => Value.ownBlock v_data_ = some b) w0) w v_cmp_ ∧ Own B 28 6 Claim.cells w v_data_ z2 ∧ Ext (fun b => Value.ownBlock v_data_ = some b) w0 w ∧ loopC k_3 (slices_stableCmpFunc_of_api_Claim_l3 n_ blockSize_ rec_2) (a_2, b_2) = some r) FU ⟨0, i64 (2 * blockSize_), h0, h1, h2, h6, h7, h8, H_cmp_, O0, hW, hF⟩ (fun _ _ h => by obtain ⟨_, _, _, _, _, _, _, _, _, _, _, h⟩ := h; cases h) ?_))
    rintro k_3 ρ12 w12 ⟨a_2, b_2, h0, h1, h2, h6, h7, h8, H_cmp_, O0, hW, hF⟩
    have hF : slices_stableCmpFunc_of_api_Claim_l3 n_ blockSize_ rec_2 (loopC k_3 (slices_stableCmpFunc_of_api_Claim_l3 n_ blockSize_ rec_2)) (a_2, b_2) = some r := hF
    generalize hrec_3 : loopC k_3 (slices_stableCmpFunc_of_api_Claim_l3 n_ blockSize_ rec_2) = rec_3 at hF
    rw [slices_stableCmpFunc_of_api_Claim_l3] at hF
    refine WP.seq (WP.seq (WP.rb mixed [[], [], [0, 1]] [[8], [1], []] [(33, .int .i64 b_2), (34, .int .i64 n_), (35, .bool (decide (b_2 ≤ n_)))] (by kernel_rfl) ⟨mE rfl rfl h8,
 mE rfl rfl h1,
 fun ρz wz hE hA _ ⟨u0, u1, _⟩ => core_val rfl rfl (o_leq u0 u1 rfl), trivial⟩ ?_))
    intro ρ13 w13 hN hf hr
    have h35 := hv hf 2 rfl rfl
    obtain ⟨h0, h1, h2, h6, h7, h8⟩ := k6 hr h0 h1 h2 h6 h7 h8 rfl
    have Oo_O0 := O0
    have H_cmp_ := H_cmp_.exn hN
    have hW := hW.trans hN.of_no
    have O0 := O0.exn hN
    refine WP.cond rfl h35 (fun hb => ?_) (fun hb => ?_)
    · have hF := (if_pos hb).symm.trans hF
      refine WP.skip (WP.block (WP.seq ?_))
      cases hF
    have hF := (if_neg (Bool.eq_false_iff.1 hb)).symm.trans hF
    refine WP.exit (thenQ_exit (thenQ_exit (blockQ_hit (WP.seqJ (fun ρ w => ρ 0 = v_data_ ∧ ρ 1 = .int .i64 n_ ∧ ρ 2 = v_cmp_ ∧ ρ 6 = .int .i64 blockSize_ ∧ FnR Tryz.prog fnV_75 fnW_75 cmp_ (gfr (fun b => Value.ownBlock v_data_ = some b) w0) w v_cmp_ ∧ Own B 28 6 Claim.cells w v_data_ z2 ∧ Ext (fun b => Value.ownBlock v_data_ = some b) w0 w ∧ slices_stableCmpFunc_of_api_Claim_j blockSize_ rec_2 = some r) ?_ ?_))))
    · refine WP.seq (WP.rb mixed [[], [], [0, 1], [2]] [[7], [6], [], []] [(49, .int .i64 a_2), (50, .int .i64 blockSize_), (51, .int .i64 (i64 (a_2 + blockSize_))), (9, .int .i64 (i64 (a_2 + blockSize_)))] (by kernel_rfl) ⟨mE rfl rfl h7,
 mE rfl rfl h6,
 fun ρz wz hE hA _ ⟨u0, u1, _⟩ => core_val rfl rfl (o_add u0 u1 rfl),
 aU rfl rfl rfl, trivial⟩ ?_)
      intro ρ16 w16 hN hf hr
      have h9 := hv hf 3 rfl rfl
      obtain ⟨h0, h1, h2, h6, h7⟩ := k5 hr h0 h1 h2 h6 h7 rfl
      have Oo_O0 := O0
      have H_cmp_ := H_cmp_.exn hN
      have hW := hW.trans hN.of_no
      have O0 := O0.exn hN
      refine WP.seq (WP.rb mixed [[], [], [0, 1]] [[9], [1], []] [(52, .int .i64 (i64 (a_2 + blockSize_))), (53, .int .i64 n_), (54, .bool (decide (i64 (a_2 + blockSize_) < n_)))] (by kernel_rfl) ⟨mE rfl rfl h9,
 mE rfl rfl h1,
 fun ρz wz hE hA _ ⟨u0, u1, _⟩ => core_val rfl rfl (o_lss u0 u1 rfl), trivial⟩ ?_)
      intro ρ17 w17 hN hf hr
      have h54 := hv hf 2 rfl rfl
      obtain ⟨h0, h1, h2, h6, h7, h9⟩ := k6 hr h0 h1 h2 h6 h7 h9 rfl
      have Oo_O0 := O0
      have H_cmp_ := H_cmp_.exn hN
      have hW := hW.trans hN.of_no
      have O0 := O0.exn hN
      refine WP.cond rfl h54 (fun hb => ?_) (fun hb => ?_)
      · have hF := (if_pos hb).symm.trans hF
        cases hF
      have hF := (if_neg (Bool.eq_false_iff.1 hb)).symm.trans hF
      refine WP.skip ?_
      exact ⟨h0, h1, h2, h6, H_cmp_, O0, hW, hF⟩
    rintro ρ14 w14 ⟨h0, h1, h2, h6, H_cmp_, O0, hW, hF⟩
    rw [slices_stableCmpFunc_of_api_Claim_j] at hF
    refine WP.rv mixed [[], [0], [0, 1]] [[], [0], [1]] [[6], [], []] [(61, .int .i64 blockSize_), (62, .int .i64 (i64 (blockSize_ * 2))), (6, .int .i64 (i64 (blockSize_ * 2)))] (by kernel_rfl) ⟨mE rfl rfl h6,
 fun ρz wz hE hA _ ⟨u0, _⟩ => core_val rfl rfl (o_mul u0 rfl rfl),
 aU rfl rfl rfl, trivial⟩ ?_
    intro ρ15 w15 hN hf hr
    have h6 := hv hf 2 rfl rfl
    obtain ⟨h0, h1, h2⟩ := k3 hr h0 h1 h2 rfl
    have Oo_O0 := O0
    have H_cmp_ := H_cmp_.exn hN
    have hW := hW.trans hN.of_no
    have O0 := O0.exn hN
    exact ⟨i64 (blockSize_ * 2), h0, h1, h2, h6, H_cmp_, O0, hW, (by first | exact hF | (rw [hrec_2]; exact hF))⟩
  have hF := (if_neg (Bool.eq_false_iff.1 hb)).symm.trans hF
  refine WP.exit (thenQ_exit (thenQ_exit (blockQ_hit ?_)))
  show retQ Tryz.prog 63 Tryz.f81 (fun v w1 => (v = .tuple #[] ∧ Own B 28 6 Claim.cells w1 v_data_ r) ∧ Ext (fun b => Value.ownBlock v_data_ = some b) w0 w1) .ret ρ10 w10
  obtain rfl := Option.some.inj hF
  exact res0 rfl ⟨⟨rfl, O0⟩, hW⟩

set_option maxHeartbeats 4000000 in
theorem slices_SortStableFunc_of_api_Claim_ok {w0 : World} (x_ : List Claim) (cmp_ : (Claim × Claim) → Option Int) {v_x_ : Value} {B : Nat} (O0 : Own B 28 6 Claim.cells w0 v_x_ x_) {v_cmp_ : Value} (H_cmp_ : FnR Tryz.prog fnV_75 fnW_75 cmp_ (fun b => Value.ownBlock v_x_ = some b) w0 v_cmp_) {r : List Claim} (hF : slices_SortStableFunc_of_api_Claim x_ cmp_ = some r) :
    Calls Tryz.prog 45 #[v_x_, v_cmp_] w0 fun e w1 => e = .returned (.tuple #[]) ∧ Ext (fun b => Value.ownBlock v_x_ = some b) w0 w1 ∧ Own B 28 6 Claim.cells w1 v_x_ r := by
  refine (Calls.start (P := Tryz.prog) (args := [v_x_, v_cmp_]) (R := fun v w1 => (v = .tuple #[] ∧ Own B 28 6 Claim.cells w1 v_x_ r) ∧ Ext (fun b => Value.ownBlock v_x_ = some b) w0 w1) (n := 9) (w := w0) Tryz.func45 rfl rfl (Nat.le_of_ble_eq_true rfl) (fun ρ hargs => ?_)).mono (fun e w1 ⟨v, he, hv, hE⟩ => ⟨hv.1 ▸ he, hE, hv.2⟩)
  have h0 := hargs 0 _ rfl
  have h1 := hargs 1 _ rfl
  have hW := Ext.refl (fun b => Value.ownBlock v_x_ = some b) w0
  have H_cmp_ := H_cmp_.start
  rw [slices_SortStableFunc_of_api_Claim] at hF
  obtain ⟨z, hz, hF⟩ := obind hF
  refine WP.region mixed [[], [], [1], [], [0, 2, 3]] [[], [], [1], [], [0, 2, 3]] [[0], [0], [], [1], []] [4] [] [val 4 (v_x_), val 5 (v_x_), val 6 (.int .i64 (x_.length : Int)), val 7 (v_cmp_), (8, fun u wz => u = .tuple #[] ∧ Own B 28 6 Claim.cells wz v_x_ z)] (fun b => Value.ownBlock v_x_ = some b) (by kernel_rfl) ⟨sV, sV, sV, sV, fun _ _ _ hE ⟨h1, h2⟩ => ⟨h1, h2.exn hE⟩, trivial⟩ ⟨mE rfl rfl h0,
 mE rfl rfl h0,
 fun ρz wz hE hA _ ⟨u1, _⟩ => core_val rfl rfl (o_len (u1.trans (Own.shape O0).choose_spec.choose_spec.1) len_23),
 mE rfl rfl h1,
 fun ρz wz hE hA _ ⟨u0, u2, u3, _⟩ => core_callM rfl rfl (fun _ h => h) (call_args3 u0 u2 u3) cf_81 (slices_stableCmpFunc_of_api_Claim_ok  _ _ _ (O0.exn (hA rfl)) ((H_cmp_.exn (hA rfl)).weaken (fun b _ hb => .inl hb)) hz), trivial⟩ ?_
  intro ρ1 w1 hE hN hf hr
  have h0 := (hr 0 rfl).trans h0
  have Oo_O0 := O0
  have hW := hW.trans hE
  have O0 := (hf 4 rfl).2
  show retQ Tryz.prog 9 Tryz.f45 (fun v w1 => (v = .tuple #[] ∧ Own B 28 6 Claim.cells w1 v_x_ r) ∧ Ext (fun b => Value.ownBlock v_x_ = some b) w0 w1) .ret ρ1 w1
  obtain rfl := Option.some.inj hF
  exact res0 rfl ⟨⟨rfl, O0⟩, hW⟩

set_option maxHeartbeats 4000000 in
theorem decision_effective_1_ok {w0 : World} (a_ : Claim) (b_ : Claim) {r : Int} (hF : decision_effective_1 a_ b_ = some r) :
    Calls Tryz.prog 46 #[Claim.val a_, Claim.val b_] w0 fun e w1 => e = .returned (.int .i64 r) ∧ Ext noG w0 w1 := by
  refine (Calls.start (P := Tryz.prog) (args := [Claim.val a_, Claim.val b_]) (R := fun v w1 => v = .int .i64 r ∧ Ext noG w0 w1) (n := 17) (w := w0) Tryz.func46 rfl rfl (Nat.le_of_ble_eq_true rfl) (fun ρ hargs => ?_)).mono (fun e w1 ⟨v, he, hv, hE⟩ => ⟨hv ▸ he, hE⟩)
  have h0 := hargs 0 _ rfl
  have h1 := hargs 1 _ rfl
  have hW := Ext.refl noG w0
  rw [decision_effective_1] at hF
  refine WP.seq (WP.regionN mixed ⟨[[], [], []], [[], [], []], [[0], [1], []], [], [], [(0, 2), (1, 3)], []⟩ [(2, fun u wz => ∃ b, u = .pointer (some ⟨b, 0, none⟩) ∧ w0.heap.size ≤ b ∧ Mb wz b 28 (Claim.cells a_)), (3, fun u wz => ∃ b, u = .pointer (some ⟨b, 0, none⟩) ∧ w0.heap.size ≤ b ∧ Mb wz b 28 (Claim.cells b_)), val 4 (.int .i64 0)] (fun b => w0.heap.size ≤ b) (by kernel_rfl) (.inr (fun _ h => h)) ⟨TStable.box, TStable.box, sV, trivial⟩ ⟨fun ρz wz hE hA ⟨e0, _⟩ _ => core_newN rfl rfl rfl hE (o_box (e0.trans h0) (bx_28 _ _)),
 fun ρz wz hE hA ⟨e1, _⟩ _ => core_newN rfl rfl rfl hE (o_box (e1.trans h1) (bx_28 _ _)),
 fun ρz wz hE hA _ _ => core_val rfl rfl (o_assign rfl), trivial⟩ ?_)
  intro ρ1 w1 hE hN hf hr hdist
  have hN := hE.fresh
  obtain ⟨b2_, h2, hge_b2_, Hb_b2_⟩ := hf 0 rfl
  obtain ⟨b3_, h3, hge_b3_, Hb_b3_⟩ := hf 1 rfl
  have hB_b2_ : w0.heap.size ≤ b2_ := Nat.le_trans hW.size hge_b2_
  have hB_b3_ : w0.heap.size ≤ b3_ := Nat.le_trans hW.size hge_b3_
  have hW := hW.trans hN
  refine WP.seq ?_
  obtain ⟨z, hz, hF⟩ := obind hF
  obtain ⟨z2, hz2, hF⟩ := obind hF
  obtain ⟨z3, hz3, hF⟩ := obind hF
  refine WP.rg mixed [[], [0], [], [2], [1, 3], [], [5], [], [7], [6, 8], [4, 9], [10], [11]] [[], [0], [], [2], [1, 3], [], [5], [], [7], [6, 8], [4, 9], [10], [11]] [[2], [], [3], [], [], [2], [], [3], [], [], [], [], []] [val 5 (.pointer (some ((⟨b2_, 0, none⟩ : Addr).add 3))), val 6 (.int .i64 a_.Benefit), val 7 (.pointer (some ((⟨b3_, 0, none⟩ : Addr).add 3))), val 8 (.int .i64 b_.Benefit), val 9 (.int .i64 z), val 10 (.pointer (some ((⟨b2_, 0, none⟩ : Addr).add 4))), val 11 (.int .i64 a_.Ref), val 12 (.pointer (some ((⟨b3_, 0, none⟩ : Addr).add 4))), val 13 (.int .i64 b_.Ref), val 14 (.int .i64 z2), (15, fun u wz => ∃ b, u = .slice (some ⟨b, 0, none⟩) 2 2 ∧ w1.heap.size ≤ b ∧ Mb wz b 3 (([z, z2]).flatMap (fun x : Int => [Value.int .i64 x]))), val 16 (.int .i64 z3), val 4 (.int .i64 z3)] (by kernel_rfl) ⟨sV, sV, sV, sV, sV, sV, sV, sV, sV, sV, fun _ _ _ hE ⟨b, hz, hs, hM⟩ => ⟨b, hz, hs, hM.exn hE⟩, sV, sV, trivial⟩ ⟨fun ρz wz hE hA ⟨e2, _⟩ _ => core_val rfl rfl (o_fieldAddr (e2.trans h2) (fa_28_3 _ _)),
 fun ρz wz hE hA _ ⟨u0, _⟩ => core_val rfl rfl (o_load u0 (run_load1 (lr_3 _ _) (CA.sub ((Hb_b2_.exn (hA rfl)).ca) 3 1))),
 fun ρz wz hE hA ⟨e3, _⟩ _ => core_val rfl rfl (o_fieldAddr (e3.trans h3) (fa_28_3 _ _)),
 fun ρz wz hE hA _ ⟨u2, _⟩ => core_val rfl rfl (o_load u2 (run_load1 (lr_3 _ _) (CA.sub ((Hb_b3_.exn (hA rfl)).ca) 3 1))),
 fun ρz wz hE hA _ ⟨u1, u3, _⟩ => core_call rfl (call_args2 u1 u3) cf_48 (cmp_Compare_of_int_ok  _ _  hz),
 fun ρz wz hE hA ⟨e2, _⟩ _ => core_val rfl rfl (o_fieldAddr (e2.trans h2) (fa_28_4 _ _)),
 fun ρz wz hE hA _ ⟨u5, _⟩ => core_val rfl rfl (o_load u5 (run_load1 (lr_3 _ _) (CA.sub ((Hb_b2_.exn (hA rfl)).ca) 4 1))),
 fun ρz wz hE hA ⟨e3, _⟩ _ => core_val rfl rfl (o_fieldAddr (e3.trans h3) (fa_28_4 _ _)),
 fun ρz wz hE hA _ ⟨u7, _⟩ => core_val rfl rfl (o_load u7 (run_load1 (lr_3 _ _) (CA.sub ((Hb_b3_.exn (hA rfl)).ca) 4 1))),
 fun ρz wz hE hA _ ⟨u6, u8, _⟩ => core_call rfl (call_args2 u6 u8) cf_48 (cmp_Compare_of_int_ok  _ _  hz2),
 fun ρz wz hE hA _ ⟨u4, u9, _⟩ => core_slice rfl rfl hE (o_buildSlice (build_parts2 u4 u9) (bs_35_2 _ _ _)),
 fun ρz wz hE hA _ ⟨⟨bz10, hz10, hge10, hM10⟩, _⟩ => core_call rfl (call_args1 hz10) cf_47 (cmp_Or_of_int_ok  _ (Mb.rep (n := 1) (cells := fun x : Int => [Value.int .i64 x]) (hn := fun _ => rfl) (G := noG) hM10 rfl (Nat.le_of_ble_eq_true rfl) (fun h => h)).no hz3),
 aU rfl rfl rfl, trivial⟩ ?_
  intro ρ2 w2 hN hf hr
  have h4 : ρ2 4 = .int .i64 z3 := hf 12 rfl
  have hW := hW.trans hN
  refine WP.ret ?_
  show retQ Tryz.prog 17 Tryz.f46 (fun v w1 => v = .int .i64 r ∧ Ext noG w0 w1) .ret ρ2 w2
  obtain rfl := Option.some.inj hF
  exact res1 rfl (by decide) h4 ⟨rfl, hW⟩
end Go.PL
