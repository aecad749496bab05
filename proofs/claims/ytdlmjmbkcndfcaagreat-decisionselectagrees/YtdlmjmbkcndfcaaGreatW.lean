/- The translated code computes the Lean functions (printed by a program). -/
import Derived.Test.YtdlmjmbkcndfcaaGreatW2
set_option linter.unusedVariables false
set_option linter.unusedSimpArgs false
set_option maxRecDepth 10000
namespace Go.PL
open Go Go.Proofs

set_option maxHeartbeats 4000000 in
theorem pensionref26_Select_ok {w0 : World} (d_ : List Claim) (i_ : Int) (p_ : Int) {v_d_ : Value} (H_d_ : RepSl Claim.R noG w0 v_d_ d_) {r : (List Claim)} (hF : pensionref26_Select d_ i_ p_ = some r) :
    Calls Tryz.prog 22 #[v_d_, .int .i64 i_, .int .i64 p_] w0 fun e w1 => ∃ v, e = .returned v ∧ Ext noG w0 w1 ∧ Own w0.heap.size 23 6 Claim.cells w1 v r := by
  refine (Calls.start (P := Tryz.prog) (args := [v_d_, .int .i64 i_, .int .i64 p_]) (R := fun v w1 => Own w0.heap.size 23 6 Claim.cells w1 v r ∧ Ext noG w0 w1) (n := 75) (w := w0) Tryz.func22 rfl rfl (Nat.le_of_ble_eq_true rfl) (fun ρ hargs => ?_)).mono (fun e w1 ⟨v, he, hv, hE⟩ => ⟨v, he, hE, hv⟩)
  have h0 := hargs 0 _ rfl
  have h1 := hargs 1 _ rfl
  have h2 := hargs 2 _ rfl
  have hW := Ext.refl noG w0
  obtain ⟨_, _, hs_H_d_, _, _⟩ := RepSl.shape H_d_
  have H_d_ := H_d_.start
  rw [pensionref26_Select] at hF
  refine WP.seq (WP.rb mixed [[]] [[]] [(6, .slice none 0 0)] (by kernel_rfl) ⟨aC rfl rfl (fun _ => rfl), trivial⟩ ?_)
  intro ρ1 w1 hN hf hr
  obtain ⟨h0, h1, h2⟩ := k3 hr h0 h1 h2 rfl
  have H_d_ := H_d_.exn hN
  have hW := hW.trans hN
  refine WP.seq (WP.seq ?_)
  obtain ⟨z, hz, hF⟩ := obind hF
  refine WP.rb mixed [[], [0], [1], [2], [3], [3, 4], [3, 5]] [[2], [], [], [], [1], [], []] [(12, .int .i64 p_), (13, .bool z), (14, .bool (!z)), (15, .bool (!z)), (16, gv (!(!z)) (.int .i64 i_)), (17, gv (!(!z)) (.bool (decide (i_ < 1)))), (18, .bool ((!z) || decide (i_ < 1)))] (by kernel_rfl) ⟨mE rfl rfl h2,
 fun ρz wz hE hA _ ⟨u0, _⟩ => core_call rfl (call_args1 u0) cf_30 (pensionref1_ValidMonth_ok  _  hz),
 fun ρz wz hE hA _ ⟨u1, _⟩ => core_val rfl rfl (o_not u1 rfl),
 mU rfl rfl rfl,
 fun ρz wz hE hA ⟨e1, _⟩ ⟨u3, _⟩ => gIf rfl rfl (yF rfl u3) fun gc F hF => core_val rfl hF (o_move (e1.trans h1)),
 fun ρz wz hE hA _ ⟨u3, u4, _⟩ => gIf rfl rfl (yF rfl u3) fun gc F hF => core_val rfl hF (o_lss (gt gc u4) rfl rfl),
 fun ρz wz hE hA _ ⟨u3, u5, _⟩ => core_val rfl rfl (o_pick_or u3 rfl u5), trivial⟩ ?_
  intro ρ2 w2 hN hf hr
  have h18 := hv hf 6 rfl rfl
  obtain ⟨h0, h1, h2⟩ := k3 hr h0 h1 h2 rfl
  have H_d_ := H_d_.exn hN
  have hW := hW.trans hN
  refine WP.cond rfl h18 (fun hb => ?_) (fun hb => ?_)
  · have hF := (if_pos hb).symm.trans hF
    refine WP.seq (WP.rb mixed [[]] [[]] [(6, .slice none 0 0)] (by kernel_rfl) ⟨aC rfl rfl (fun _ => rfl), trivial⟩ ?_)
    intro ρ3 w3 hN hf hr
    have h6 : ρ3 6 = .slice none 0 0 := hf 0 rfl
    have O6 : Own w0.heap.size 23 6 Claim.cells w3 (.slice none 0 0) [] := Own.nil _ _ _ _ _
    have hW := hW.trans hN
    refine WP.ret ?_
    show retQ Tryz.prog 75 Tryz.f22 (fun v w1 => Own w0.heap.size 23 6 Claim.cells w1 v r ∧ Ext noG w0 w1) .ret ρ3 w3
    obtain rfl := Option.some.inj hF
    exact res1 rfl (by decide) h6 ⟨O6, hW⟩
  have hF := (if_neg (Bool.eq_false_iff.1 hb)).symm.trans hF
  refine WP.skip (WP.seq (WP.rb mixed [[]] [[]] [(7, .slice none 0 0)] (by kernel_rfl) ⟨aC rfl rfl (fun _ => rfl), trivial⟩ ?_))
  intro ρ4 w4 hN hf hr
  have h7 : ρ4 7 = .slice none 0 0 := hf 0 rfl
  have O7 : Own w0.heap.size 23 6 Claim.cells w4 (.slice none 0 0) [] := Own.nil _ _ _ _ _
  obtain ⟨h0, h1, h2⟩ := k3 hr h0 h1 h2 rfl
  have H_d_ := H_d_.exn hN
  have hW := hW.trans hN
  refine WP.seq (WP.seq (WP.rb mixed [[]] [[]] [(8, .int .i64 1)] (by kernel_rfl) ⟨aC rfl rfl (fun _ => rfl), trivial⟩ ?_))
  intro ρ5 w5 hN hf hr
  have h8 := hv hf 0 rfl rfl
  obtain ⟨h0, h1, h2, h7⟩ := k4 hr h0 h1 h2 h7 rfl
  have Oo_O7 := O7
  have H_d_ := H_d_.exn hN
  have hW := hW.trans hN
  have O7 := O7.exn hN
  refine WP.block (WP.loop (fun k_ ρ w => ∃ x : List Claim, ∃ x2 : Int, ∃ v7_ : Value, ρ 0 = v_d_ ∧ ρ 1 = .int .i64 i_ ∧ ρ 2 = .int .i64 p_ ∧ ρ 7 = v7_ ∧ ρ 8 = .int .i64 x2 ∧ RepSl Claim.R (gfr noG w0) w v_d_ d_ ∧ Own w0.heap.size 23 6 Claim.cells w v7_ x ∧ Ext noG w0 w ∧ loopC k_ (pensionref26_Select_l d_ i_ p_) (x, x2) = some r) FU ⟨[], 1, .slice none 0 0, h0, h1, h2, h7, h8, H_d_, O7, hW, hF⟩ (fun _ _ h => by obtain ⟨_, _, _, _, _, _, _, _, _, _, _, h⟩ := h; cases h) ?_)
  rintro k_ ρ6 w6 ⟨x, x2, v7_, h0, h1, h2, h7, h8, H_d_, O7, hW, hF⟩
  have hF : pensionref26_Select_l d_ i_ p_ (loopC k_ (pensionref26_Select_l d_ i_ p_)) (x, x2) = some r := hF
  generalize hrec_ : loopC k_ (pensionref26_Select_l d_ i_ p_) = rec_ at hF
  rw [pensionref26_Select_l] at hF
  refine WP.seq (WP.seq (WP.rb mixed [[], [0]] [[8], []] [(19, .int .i64 x2), (20, .bool (decide (x2 ≤ 5)))] (by kernel_rfl) ⟨mE rfl rfl h8,
 fun ρz wz hE hA _ ⟨u0, _⟩ => core_val rfl rfl (o_leq u0 rfl rfl), trivial⟩ ?_))
  intro ρ7 w7 hN hf hr
  have h20 := hv hf 1 rfl rfl
  obtain ⟨h0, h1, h2, h7, h8⟩ := k5 hr h0 h1 h2 h7 h8 rfl
  have Oo_O7 := O7
  have H_d_ := H_d_.exn hN
  have hW := hW.trans hN
  have O7 := O7.exn hN
  refine WP.cond rfl h20 (fun hb => ?_) (fun hb => ?_)
  · have hF := (if_pos hb).symm.trans hF
    refine WP.skip (WP.seqJ (fun ρ w => ∃ x3 : List Claim, ∃ v7_2 : Value, ρ 0 = v_d_ ∧ ρ 1 = .int .i64 i_ ∧ ρ 2 = .int .i64 p_ ∧ ρ 7 = v7_2 ∧ ρ 8 = .int .i64 x2 ∧ RepSl Claim.R (gfr noG w0) w v_d_ d_ ∧ Own w0.heap.size 23 6 Claim.cells w v7_2 x3 ∧ Ext noG w0 w ∧ pensionref26_Select_j x2 rec_ x3 = some r) ?_ ?_)
    · refine WP.block (WP.seq (WP.seq (WP.rb mixed [[], [0]] [[8], []] [(23, .int .i64 x2), (24, .bool (x2 == 4))] (by kernel_rfl) ⟨mE rfl rfl h8,
 fun ρz wz hE hA _ ⟨u0, _⟩ => core_val rfl rfl (o_eql u0 rfl rfl), trivial⟩ ?_)))
      intro ρ10 w10 hN hf hr
      have h24 := hv hf 1 rfl rfl
      obtain ⟨h0, h1, h2, h7, h8⟩ := k5 hr h0 h1 h2 h7 h8 rfl
      have Oo_O7 := O7
      have H_d_ := H_d_.exn hN
      have hW := hW.trans hN
      have O7 := O7.exn hN
      refine WP.cond rfl h24 (fun hb => ?_) (fun hb => ?_)
      · have hF := (if_pos hb).symm.trans hF
        refine WP.seq (WP.seq (WP.rb mixed [[]] [[]] [(9, .int .i64 1)] (by kernel_rfl) ⟨aC rfl rfl (fun _ => rfl), trivial⟩ ?_))
        intro ρ11 w11 hN hf hr
        have h9 := hv hf 0 rfl rfl
        obtain ⟨h0, h1, h2, h7, h8⟩ := k5 hr h0 h1 h2 h7 h8 rfl
        have Oo_O7 := O7
        have H_d_ := H_d_.exn hN
        have hW := hW.trans hN
        have O7 := O7.exn hN
        refine WP.block (WP.loop (fun k_2 ρ w => ∃ x4 : List Claim, ∃ x5 : Int, ∃ v7_3 : Value, ρ 0 = v_d_ ∧ ρ 1 = .int .i64 i_ ∧ ρ 2 = .int .i64 p_ ∧ ρ 7 = v7_3 ∧ ρ 8 = .int .i64 x2 ∧ ρ 9 = .int .i64 x5 ∧ RepSl Claim.R (gfr noG w0) w v_d_ d_ ∧ Own w0.heap.size 23 6 Claim.cells w v7_3 x4 ∧ Ext noG w0 w ∧ loopC k_2 (pensionref26_Select_l2 d_ i_ p_ x2 rec_) (x4, x5) = some r) FU ⟨x, 1, v7_, h0, h1, h2, h7, h8, h9, H_d_, O7, hW, hF⟩ (fun _ _ h => by obtain ⟨_, _, _, _, _, _, _, _, _, _, _, _, h⟩ := h; cases h) ?_)
        rintro k_2 ρ12 w12 ⟨x4, x5, v7_3, h0, h1, h2, h7, h8, h9, H_d_, O7, hW, hF⟩
        have hF : pensionref26_Select_l2 d_ i_ p_ x2 rec_ (loopC k_2 (pensionref26_Select_l2 d_ i_ p_ x2 rec_)) (x4, x5) = some r := hF
        generalize hrec_2 : loopC k_2 (pensionref26_Select_l2 d_ i_ p_ x2 rec_) = rec_2 at hF
        rw [pensionref26_Select_l2] at hF
        refine WP.seq (WP.seq (WP.rb mixed [[], [0]] [[9], []] [(25, .int .i64 x5), (26, .bool (decide (x5 ≤ 99)))] (by kernel_rfl) ⟨mE rfl rfl h9,
 fun ρz wz hE hA _ ⟨u0, _⟩ => core_val rfl rfl (o_leq u0 rfl rfl), trivial⟩ ?_))
        intro ρ13 w13 hN hf hr
        have h26 := hv hf 1 rfl rfl
        obtain ⟨h0, h1, h2, h7, h8, h9⟩ := k6 hr h0 h1 h2 h7 h8 h9 rfl
        have Oo_O7 := O7
        have H_d_ := H_d_.exn hN
        have hW := hW.trans hN
        have O7 := O7.exn hN
        refine WP.cond rfl h26 (fun hb => ?_) (fun hb => ?_)
        · have hF := (if_pos hb).symm.trans hF
          refine WP.skip (WP.seqJ (fun ρ w => ∃ x6 : List Claim, ∃ v7_4 : Value, ρ 0 = v_d_ ∧ ρ 1 = .int .i64 i_ ∧ ρ 2 = .int .i64 p_ ∧ ρ 7 = v7_4 ∧ ρ 8 = .int .i64 x2 ∧ ρ 9 = .int .i64 x5 ∧ RepSl Claim.R (gfr noG w0) w v_d_ d_ ∧ Own w0.heap.size 23 6 Claim.cells w v7_4 x6 ∧ Ext noG w0 w ∧ pensionref26_Select_j2 x5 rec_2 x6 = some r) ?_ ?_)
          · refine WP.block (WP.seq ?_)
            obtain ⟨z2, hz2, hF⟩ := obind hF
            refine WP.rb mixed [[], [], [], [], [0, 1, 2, 3], [4]] [[0], [8], [9], [2], [], []] [(29, v_d_), (30, .int .i64 x2), (31, .int .i64 x5), (32, .int .i64 p_), (33, .int .i64 z2), (10, .int .i64 z2)] (by kernel_rfl) ⟨mE rfl rfl h0,
 mE rfl rfl h8,
 mE rfl rfl h9,
 mE rfl rfl h2,
 fun ρz wz hE hA _ ⟨u0, u1, u2, u3, _⟩ => core_call rfl (call_args5 u0 rfl u1 u2 u3) cf_35 (pensionref26_least_ok  _ _ _ _ _ (H_d_.exn (hA rfl)).no hz2),
 aU rfl rfl rfl, trivial⟩ ?_
            intro ρ16 w16 hN hf hr
            have h10 := hv hf 5 rfl rfl
            obtain ⟨h0, h1, h2, h7, h8, h9⟩ := k6 hr h0 h1 h2 h7 h8 h9 rfl
            have Oo_O7 := O7
            have H_d_ := H_d_.exn hN
            have hW := hW.trans hN
            have O7 := O7.exn hN
            refine WP.seq ?_
            obtain ⟨c, hc, hF⟩ := obind hF
            obtain ⟨y, hy, hc⟩ := andB hc
            obtain ⟨ay, cy, hvy, hiy, hAy⟩ := RepSl.getFI H_d_ hy
            have hc := andE hc
            refine WP.rb mixed [[], [0], [1], [2], [2], [2, 3, 4], [2, 5], [2, 6], [2], [2, 7, 8], [2, 9]] [[10], [], [], [0], [10], [], [], [], [1], [], []] [(34, .int .i64 z2), (35, .bool (decide (0 ≤ z2))), (36, .bool (decide (0 ≤ z2))), (37, gv (decide (0 ≤ z2)) v_d_), (38, gv (decide (0 ≤ z2)) (.int .i64 z2)), (39, gv (decide (0 ≤ z2)) (.pointer (some (ay.add (Int.toNat z2 * 6))))), (40, gv (decide (0 ≤ z2)) (.pointer (some ((ay.add (Int.toNat z2 * 6)).add 2)))), (41, gv (decide (0 ≤ z2)) (.int .i64 y.Person)), (42, gv (decide (0 ≤ z2)) (.int .i64 i_)), (43, gv (decide (0 ≤ z2)) (.bool (y.Person == i_))), (44, .bool c)] (by kernel_rfl) ⟨mE rfl rfl h10,
 fun ρz wz hE hA _ ⟨u0, _⟩ => core_val rfl rfl (o_geq u0 rfl rfl),
 mU rfl rfl rfl,
 fun ρz wz hE hA ⟨e0, _⟩ ⟨u2, _⟩ => gIf rfl rfl (yT rfl u2) fun gc F hF => core_val rfl hF (o_move (e0.trans h0)),
 fun ρz wz hE hA ⟨e10, _⟩ ⟨u2, _⟩ => gIf rfl rfl (yT rfl u2) fun gc F hF => core_val rfl hF (o_move (e10.trans h10)),
 fun ρz wz hE hA _ ⟨u2, u3, u4, _⟩ => gIf rfl rfl (yT rfl u2) fun gc F hF => core_val rfl hF (o_indexAddr ((gt gc u3).trans (hvy gc)) (gt gc u4) (ia_25 (hiy gc))),
 fun ρz wz hE hA _ ⟨u2, u5, _⟩ => gIf rfl rfl (yT rfl u2) fun gc F hF => core_val rfl hF (o_fieldAddr (gt gc u5) (fa_23_2 _ _)),
 fun ρz wz hE hA _ ⟨u2, u6, _⟩ => gIf rfl rfl (yT rfl u2) fun gc F hF => core_val rfl hF (o_load (gt gc u6) (run_load1 (lr_3 _ _) (CA.sub (((hAy gc).exn (hA rfl)).ca) 2 1))),
 fun ρz wz hE hA ⟨e1, _⟩ ⟨u2, _⟩ => gIf rfl rfl (yT rfl u2) fun gc F hF => core_val rfl hF (o_move (e1.trans h1)),
 fun ρz wz hE hA _ ⟨u2, u7, u8, _⟩ => gIf rfl rfl (yT rfl u2) fun gc F hF => core_val rfl hF (o_eql (gt gc u7) (gt gc u8) rfl),
 fun ρz wz hE hA _ ⟨u2, u9, _⟩ => core_valE rfl rfl (congrArg Value.bool hc) (o_pick_and u2 u9 rfl), trivial⟩ ?_
            intro ρ17 w17 hN hf hr
            have h44 := hv hf 10 rfl rfl
            obtain ⟨h0, h1, h2, h7, h8, h9⟩ := k6 hr h0 h1 h2 h7 h8 h9 rfl
            have h10 := (hr 10 rfl).trans h10
            have Oo_O7 := O7
            have H_d_ := H_d_.exn hN
            have hW := hW.trans hN
            have O7 := O7.exn hN
            refine WP.cond rfl h44 (fun hb => ?_) (fun hb => ?_)
            · have hF := (if_pos hb).symm.trans hF
              obtain ⟨y2, hy2, hF⟩ := obind hF
              obtain ⟨ay2, cy2, hvy2, hiy2, hAy2⟩ := RepSl.getF H_d_ hy2
              obtain ⟨l, hl, hF⟩ := obind hF
              refine WP.region mixed [[], [], [], [1, 2], [3], [4], [0, 4, 5], [0, 6]] [[], [], [], [1, 2], [3], [4], [0, 5], [6]] [[7], [0], [10], [], [], [], [], []] [6] [] [val 45 (v7_3), val 46 (v_d_), val 47 (.int .i64 z2), val 48 (.pointer (some (ay2.add (Int.toNat z2 * 6)))), val 49 (Claim.val y2), (50, fun u wz => ∃ b, u = .slice (some ⟨b, 0, none⟩) 1 1 ∧ w17.heap.size ≤ b ∧ Mb wz b 23 (([y2]).flatMap Claim.cells)), (51, fun u wz => Own w0.heap.size 23 6 Claim.cells wz u l ∧ ∀ b, u.ownBlock = some b → (v7_3.ownBlock = some b ∨ w17.heap.size ≤ b)), (7, fun u wz => Own w0.heap.size 23 6 Claim.cells wz u l ∧ ∀ b, u.ownBlock = some b → (v7_3.ownBlock = some b ∨ w17.heap.size ≤ b))] (fun b => Value.ownBlock v7_3 = some b) (by kernel_rfl) ⟨sV, sV, sV, sV, sV, fun _ _ _ hE ⟨b, hz, hs, hM⟩ => ⟨b, hz, hs, hM.ext hE (fun hg => absurd (O7.lt hg).2 (Nat.not_lt.2 hs))⟩, fun _ _ _ hE ⟨hO, hf⟩ => ⟨hO.exn hE, hf⟩, fun _ _ _ hE ⟨hO, hf⟩ => ⟨hO.exn hE, hf⟩, trivial⟩ ⟨mE rfl rfl h7,
 mE rfl rfl h0,
 mE rfl rfl h10,
 fun ρz wz hE hA _ ⟨u1, u2, _⟩ => core_val rfl rfl (o_indexAddr (u1.trans hvy2) u2 (ia_25 hiy2)),
 fun ρz wz hE hA _ ⟨u3, _⟩ => core_val rfl rfl (o_load u3 (run_loadN (cs := (Claim.cells y2)) (lr_23 _ _) rfl ((hAy2.exn (hA rfl)).ca))),
 fun ρz wz hE hA _ ⟨u4, _⟩ => core_slice rfl rfl hE (o_buildSlice (build_parts1 u4) (bs_25_1 _ _)),
 fun ρz wz hE hA _ ⟨u0, ⟨bz5, hz5, hge5, hM5⟩, _⟩ => core_append (n := 6) (cells := Claim.cells) (B := w0.heap.size) (w0 := w17) rfl rfl (fun b hb => hb) u0 hz5 (fun _ => rfl) one_23 si_25 se_23 (by decide) (by decide) (O7.exn (hA rfl)) ⟨_, (Mb.rep (n := 6) (cells := Claim.cells) (hn := fun _ => rfl) (G := noG) hM5 rfl (Nat.le_of_ble_eq_true rfl) (fun h => h))⟩ hl (Nat.le_trans hW.size hE.size) hE.size (fun v1 w1 h1 h2 => ⟨h1, h2⟩),
 fun ρz wz hE hA _ ⟨⟨hO6, hfr6⟩, _⟩ => core_copy rfl rfl (o_assign rfl) ⟨hO6, hfr6⟩, trivial⟩ ?_
              intro ρ18 w18 hE hN hf hr
              obtain ⟨v7_5, h7⟩ : ∃ v, ρ18 7 = v := ⟨_, rfl⟩
              have hq7 : (fun u wz => Own w0.heap.size 23 6 Claim.cells wz u l ∧ ∀ b, u.ownBlock = some b → (v7_3.ownBlock = some b ∨ w17.heap.size ≤ b)) (ρ18 7) w18 := hf 7 rfl
              rw [h7] at hq7
              obtain ⟨hq7, hfr7⟩ := hq7
              obtain ⟨h0, h1, h2, h8, h9⟩ := k5 hr h0 h1 h2 h8 h9 rfl
              have Oo_O7 := O7
              have H_d_ := H_d_.over hE (fun b hb => (O7.lt hb).1)
              have hW := Ext.own hW hE (fun b hb => (O7.lt hb).1)
              have O7 := hq7
              exact ⟨l, v7_5, h0, h1, h2, h7, h8, h9, H_d_, O7, hW, hF⟩
            have hF := (if_neg (Bool.eq_false_iff.1 hb)).symm.trans hF
            refine WP.skip ?_
            exact ⟨x4, v7_3, h0, h1, h2, h7, h8, h9, H_d_, O7, hW, hF⟩
          rintro ρ14 w14 ⟨x6, v7_4, h0, h1, h2, h7, h8, h9, H_d_, O7, hW, hF⟩
          rw [pensionref26_Select_j2] at hF
          refine WP.rv mixed [[], [0], [0, 1]] [[], [0], [1]] [[9], [], []] [(27, .int .i64 x5), (28, .int .i64 (i64 (x5 + 1))), (9, .int .i64 (i64 (x5 + 1)))] (by kernel_rfl) ⟨mE rfl rfl h9,
 fun ρz wz hE hA _ ⟨u0, _⟩ => core_val rfl rfl (o_add u0 rfl rfl),
 aU rfl rfl rfl, trivial⟩ ?_
          intro ρ15 w15 hN hf hr
          have h9 := hv hf 2 rfl rfl
          obtain ⟨h0, h1, h2, h7, h8⟩ := k5 hr h0 h1 h2 h7 h8 rfl
          have Oo_O7 := O7
          have H_d_ := H_d_.exn hN
          have hW := hW.trans hN
          have O7 := O7.exn hN
          exact ⟨x6, i64 (x5 + 1), v7_4, h0, h1, h2, h7, h8, h9, H_d_, O7, hW, (by first | exact hF | (rw [hrec_2]; exact hF))⟩
        have hF := (if_neg (Bool.eq_false_iff.1 hb)).symm.trans hF
        refine WP.exit (thenQ_exit (thenQ_exit (blockQ_hit (WP.exit (thenQ_exit (blockQ_hit ?_))))))
        exact ⟨x4, v7_3, h0, h1, h2, h7, h8, H_d_, O7, hW, hF⟩
      have hF := (if_neg (Bool.eq_false_iff.1 hb)).symm.trans hF
      refine WP.skip (WP.seq ?_)
      obtain ⟨z3, hz3, hF⟩ := obind hF
      refine WP.rb mixed [[], [], [], [], [0, 1, 2, 3], [4]] [[0], [1], [8], [2], [], []] [(52, v_d_), (53, .int .i64 i_), (54, .int .i64 x2), (55, .int .i64 p_), (56, .int .i64 z3), (11, .int .i64 z3)] (by kernel_rfl) ⟨mE rfl rfl h0,
 mE rfl rfl h1,
 mE rfl rfl h8,
 mE rfl rfl h2,
 fun ρz wz hE hA _ ⟨u0, u1, u2, u3, _⟩ => core_call rfl (call_args5 u0 u1 u2 rfl u3) cf_35 (pensionref26_least_ok  _ _ _ _ _ (H_d_.exn (hA rfl)).no hz3),
 aU rfl rfl rfl, trivial⟩ ?_
      intro ρ19 w19 hN hf hr
      have h11 := hv hf 5 rfl rfl
      obtain ⟨h0, h1, h2, h7, h8⟩ := k5 hr h0 h1 h2 h7 h8 rfl
      have Oo_O7 := O7
      have H_d_ := H_d_.exn hN
      have hW := hW.trans hN
      have O7 := O7.exn hN
      refine WP.seq ?_
      obtain ⟨c2, hc2, hF⟩ := obind hF
      obtain ⟨y3, hy3, hc2⟩ := andB hc2
      obtain ⟨ay3, cy3, hvy3, hiy3, hAy3⟩ := RepSl.getFI H_d_ hy3
      obtain ⟨z4, hz4, hc2⟩ := andB hc2
      have hc2 := andE hc2
      refine WP.rb mixed [[], [0], [1], [2], [2], [2, 3, 4], [2, 5], [2], [2, 6, 7], [2, 8]] [[11], [], [], [0], [11], [], [], [2], [], []] [(57, .int .i64 z3), (58, .bool (decide (0 ≤ z3))), (59, .bool (decide (0 ≤ z3))), (60, gv (decide (0 ≤ z3)) v_d_), (61, gv (decide (0 ≤ z3)) (.int .i64 z3)), (62, gv (decide (0 ≤ z3)) (.pointer (some (ay3.add (Int.toNat z3 * 6))))), (63, gv (decide (0 ≤ z3)) (Claim.val y3)), (64, gv (decide (0 ≤ z3)) (.int .i64 p_)), (65, gv (decide (0 ≤ z3)) (.bool z4)), (66, .bool c2)] (by kernel_rfl) ⟨mE rfl rfl h11,
 fun ρz wz hE hA _ ⟨u0, _⟩ => core_val rfl rfl (o_geq u0 rfl rfl),
 mU rfl rfl rfl,
 fun ρz wz hE hA ⟨e0, _⟩ ⟨u2, _⟩ => gIf rfl rfl (yT rfl u2) fun gc F hF => core_val rfl hF (o_move (e0.trans h0)),
 fun ρz wz hE hA ⟨e11, _⟩ ⟨u2, _⟩ => gIf rfl rfl (yT rfl u2) fun gc F hF => core_val rfl hF (o_move (e11.trans h11)),
 fun ρz wz hE hA _ ⟨u2, u3, u4, _⟩ => gIf rfl rfl (yT rfl u2) fun gc F hF => core_val rfl hF (o_indexAddr ((gt gc u3).trans (hvy3 gc)) (gt gc u4) (ia_25 (hiy3 gc))),
 fun ρz wz hE hA _ ⟨u2, u5, _⟩ => gIf rfl rfl (yT rfl u2) fun gc F hF => core_val rfl hF (o_load (gt gc u5) (run_loadN (cs := (Claim.cells y3)) (lr_23 _ _) rfl (((hAy3 gc).exn (hA rfl)).ca))),
 fun ρz wz hE hA ⟨e2, _⟩ ⟨u2, _⟩ => gIf rfl rfl (yT rfl u2) fun gc F hF => core_val rfl hF (o_move (e2.trans h2)),
 fun ρz wz hE hA _ ⟨u2, u6, u7, _⟩ => gIf rfl rfl (yT rfl u2) fun gc F hF => core_call hF (call_args2 (gt gc u6) (gt gc u7)) cf_36 (pensionref26_started_ok  _ _  (hz4 gc)),
 fun ρz wz hE hA _ ⟨u2, u8, _⟩ => core_valE rfl rfl (congrArg Value.bool hc2) (o_pick_and u2 u8 rfl), trivial⟩ ?_
      intro ρ20 w20 hN hf hr
      have h66 := hv hf 9 rfl rfl
      obtain ⟨h0, h1, h2, h7, h8, h11⟩ := k6 hr h0 h1 h2 h7 h8 h11 rfl
      have Oo_O7 := O7
      have H_d_ := H_d_.exn hN
      have hW := hW.trans hN
      have O7 := O7.exn hN
      refine WP.cond rfl h66 (fun hb => ?_) (fun hb => ?_)
      · have hF := (if_pos hb).symm.trans hF
        obtain ⟨y4, hy4, hF⟩ := obind hF
        obtain ⟨ay4, cy4, hvy4, hiy4, hAy4⟩ := RepSl.getF H_d_ hy4
        obtain ⟨l2, hl2, hF⟩ := obind hF
        refine WP.region mixed [[], [], [], [1, 2], [3], [4], [0, 4, 5], [0, 6]] [[], [], [], [1, 2], [3], [4], [0, 5], [6]] [[7], [0], [11], [], [], [], [], []] [6] [] [val 67 (v7_), val 68 (v_d_), val 69 (.int .i64 z3), val 70 (.pointer (some (ay4.add (Int.toNat z3 * 6)))), val 71 (Claim.val y4), (72, fun u wz => ∃ b, u = .slice (some ⟨b, 0, none⟩) 1 1 ∧ w20.heap.size ≤ b ∧ Mb wz b 23 (([y4]).flatMap Claim.cells)), (73, fun u wz => Own w0.heap.size 23 6 Claim.cells wz u l2 ∧ ∀ b, u.ownBlock = some b → (v7_.ownBlock = some b ∨ w20.heap.size ≤ b)), (7, fun u wz => Own w0.heap.size 23 6 Claim.cells wz u l2 ∧ ∀ b, u.ownBlock = some b → (v7_.ownBlock = some b ∨ w20.heap.size ≤ b))] (fun b => Value.ownBlock v7_ = some b) (by kernel_rfl) ⟨sV, sV, sV, sV, sV, fun _ _ _ hE ⟨b, hz, hs, hM⟩ => ⟨b, hz, hs, hM.ext hE (fun hg => absurd (O7.lt hg).2 (Nat.not_lt.2 hs))⟩, fun _ _ _ hE ⟨hO, hf⟩ => ⟨hO.exn hE, hf⟩, fun _ _ _ hE ⟨hO, hf⟩ => ⟨hO.exn hE, hf⟩, trivial⟩ ⟨mE rfl rfl h7,
 mE rfl rfl h0,
 mE rfl rfl h11,
 fun ρz wz hE hA _ ⟨u1, u2, _⟩ => core_val rfl rfl (o_indexAddr (u1.trans hvy4) u2 (ia_25 hiy4)),
 fun ρz wz hE hA _ ⟨u3, _⟩ => core_val rfl rfl (o_load u3 (run_loadN (cs := (Claim.cells y4)) (lr_23 _ _) rfl ((hAy4.exn (hA rfl)).ca))),
 fun ρz wz hE hA _ ⟨u4, _⟩ => core_slice rfl rfl hE (o_buildSlice (build_parts1 u4) (bs_25_1 _ _)),
 fun ρz wz hE hA _ ⟨u0, ⟨bz5, hz5, hge5, hM5⟩, _⟩ => core_append (n := 6) (cells := Claim.cells) (B := w0.heap.size) (w0 := w20) rfl rfl (fun b hb => hb) u0 hz5 (fun _ => rfl) one_23 si_25 se_23 (by decide) (by decide) (O7.exn (hA rfl)) ⟨_, (Mb.rep (n := 6) (cells := Claim.cells) (hn := fun _ => rfl) (G := noG) hM5 rfl (Nat.le_of_ble_eq_true rfl) (fun h => h))⟩ hl2 (Nat.le_trans hW.size hE.size) hE.size (fun v1 w1 h1 h2 => ⟨h1, h2⟩),
 fun ρz wz hE hA _ ⟨⟨hO6, hfr6⟩, _⟩ => core_copy rfl rfl (o_assign rfl) ⟨hO6, hfr6⟩, trivial⟩ ?_
        intro ρ21 w21 hE hN hf hr
        obtain ⟨v7_6, h7⟩ : ∃ v, ρ21 7 = v := ⟨_, rfl⟩
        have hq7 : (fun u wz => Own w0.heap.size 23 6 Claim.cells wz u l2 ∧ ∀ b, u.ownBlock = some b → (v7_.ownBlock = some b ∨ w20.heap.size ≤ b)) (ρ21 7) w21 := hf 7 rfl
        rw [h7] at hq7
        obtain ⟨hq7, hfr7⟩ := hq7
        obtain ⟨h0, h1, h2, h8⟩ := k4 hr h0 h1 h2 h8 rfl
        have Oo_O7 := O7
        have H_d_ := H_d_.over hE (fun b hb => (O7.lt hb).1)
        have hW := Ext.own hW hE (fun b hb => (O7.lt hb).1)
        have O7 := hq7
        exact ⟨l2, v7_6, h0, h1, h2, h7, h8, H_d_, O7, hW, hF⟩
      have hF := (if_neg (Bool.eq_false_iff.1 hb)).symm.trans hF
      refine WP.skip ?_
      exact ⟨x, v7_, h0, h1, h2, h7, h8, H_d_, O7, hW, hF⟩
    rintro ρ8 w8 ⟨x3, v7_2, h0, h1, h2, h7, h8, H_d_, O7, hW, hF⟩
    rw [pensionref26_Select_j] at hF
    refine WP.rv mixed [[], [0], [0, 1]] [[], [0], [1]] [[8], [], []] [(21, .int .i64 x2), (22, .int .i64 (i64 (x2 + 1))), (8, .int .i64 (i64 (x2 + 1)))] (by kernel_rfl) ⟨mE rfl rfl h8,
 fun ρz wz hE hA _ ⟨u0, _⟩ => core_val rfl rfl (o_add u0 rfl rfl),
 aU rfl rfl rfl, trivial⟩ ?_
    intro ρ9 w9 hN hf hr
    have h8 := hv hf 2 rfl rfl
    obtain ⟨h0, h1, h2, h7⟩ := k4 hr h0 h1 h2 h7 rfl
    have Oo_O7 := O7
    have H_d_ := H_d_.exn hN
    have hW := hW.trans hN
    have O7 := O7.exn hN
    exact ⟨x3, i64 (x2 + 1), v7_2, h0, h1, h2, h7, h8, H_d_, O7, hW, (by first | exact hF | (rw [hrec_]; exact hF))⟩
  have hF := (if_neg (Bool.eq_false_iff.1 hb)).symm.trans hF
  refine WP.exit (thenQ_exit (thenQ_exit (blockQ_hit (WP.seq (WP.rb mixed [[], [0]] [[7], []] [(74, v7_), (6, v7_)] (by kernel_rfl) ⟨mE rfl rfl h7,
 aU rfl rfl rfl, trivial⟩ ?_)))))
  intro ρ22 w22 hN hf hr
  have h6 := hv hf 1 rfl rfl
  have Oo_O7 := O7
  have hW := hW.trans hN
  have O6 := Oo_O7.exn hN
  refine WP.ret ?_
  show retQ Tryz.prog 75 Tryz.f22 (fun v w1 => Own w0.heap.size 23 6 Claim.cells w1 v r ∧ Ext noG w0 w1) .ret ρ22 w22
  obtain rfl := Option.some.inj hF
  exact res1 rfl (by decide) h6 ⟨O6, hW⟩

set_option maxHeartbeats 4000000 in
theorem pensionplain_Same_of_api_Claim_ok {w0 : World} (a_ : List Claim) (b_ : List Claim) {v_a_ : Value} (H_a_ : RepSl Claim.R noG w0 v_a_ a_) {v_b_ : Value} (H_b_ : RepSl Claim.R noG w0 v_b_ b_) {r : Bool} (hF : pensionplain_Same_of_api_Claim a_ b_ = some r) :
    Calls Tryz.prog 20 #[v_a_, v_b_] w0 fun e w1 => e = .returned (.bool r) ∧ Ext noG w0 w1 := by
  refine (Calls.start (P := Tryz.prog) (args := [v_a_, v_b_]) (R := fun v w1 => v = .bool r ∧ Ext noG w0 w1) (n := 26) (w := w0) Tryz.func20 rfl rfl (Nat.le_of_ble_eq_true rfl) (fun ρ hargs => ?_)).mono (fun e w1 ⟨v, he, hv, hE⟩ => ⟨hv ▸ he, hE⟩)
  have h0 := hargs 0 _ rfl
  have h1 := hargs 1 _ rfl
  have hW := Ext.refl noG w0
  obtain ⟨_, _, hs_H_a_, _, _⟩ := RepSl.shape H_a_
  have H_a_ := H_a_.start
  obtain ⟨_, _, hs_H_b_, _, _⟩ := RepSl.shape H_b_
  have H_b_ := H_b_.start
  rw [pensionplain_Same_of_api_Claim] at hF
  refine WP.seq (WP.rb mixed [[]] [[]] [(4, .bool false)] (by kernel_rfl) ⟨aC rfl rfl (fun _ => rfl), trivial⟩ ?_)
  intro ρ1 w1 hN hf hr
  obtain ⟨h0, h1⟩ := k2 hr h0 h1 rfl
  have H_a_ := H_a_.exn hN
  have H_b_ := H_b_.exn hN
  have hW := hW.trans hN
  refine WP.seq (WP.seq (WP.rb mixed [[], [0], [], [2], [1, 3]] [[0], [], [1], [], []] [(6, v_a_), (7, .int .i64 (a_.length : Int)), (8, v_b_), (9, .int .i64 (b_.length : Int)), (10, .bool ((a_.length : Int) != (b_.length : Int)))] (by kernel_rfl) ⟨mE rfl rfl h0,
 fun ρz wz hE hA _ ⟨u0, _⟩ => core_val rfl rfl (o_len (u0.trans hs_H_a_) len_25),
 mE rfl rfl h1,
 fun ρz wz hE hA _ ⟨u2, _⟩ => core_val rfl rfl (o_len (u2.trans hs_H_b_) len_25),
 fun ρz wz hE hA _ ⟨u1, u3, _⟩ => core_val rfl rfl (o_neq u1 u3 rfl), trivial⟩ ?_))
  intro ρ2 w2 hN hf hr
  have h10 := hv hf 4 rfl rfl
  obtain ⟨h0, h1⟩ := k2 hr h0 h1 rfl
  have H_a_ := H_a_.exn hN
  have H_b_ := H_b_.exn hN
  have hW := hW.trans hN
  refine WP.cond rfl h10 (fun hb => ?_) (fun hb => ?_)
  · have hF := (if_pos hb).symm.trans hF
    refine WP.seq (WP.rb mixed [[]] [[]] [(4, .bool false)] (by kernel_rfl) ⟨aC rfl rfl (fun _ => rfl), trivial⟩ ?_)
    intro ρ3 w3 hN hf hr
    have h4 := hv hf 0 rfl rfl
    have hW := hW.trans hN
    refine WP.ret ?_
    show retQ Tryz.prog 26 Tryz.f20 (fun v w1 => v = .bool r ∧ Ext noG w0 w1) .ret ρ3 w3
    obtain rfl := Option.some.inj hF
    exact res1 rfl (by decide) h4 ⟨rfl, hW⟩
  have hF := (if_neg (Bool.eq_false_iff.1 hb)).symm.trans hF
  refine WP.skip (WP.seq (WP.seq (WP.rb mixed [[]] [[]] [(5, .int .i64 0)] (by kernel_rfl) ⟨aC rfl rfl (fun _ => rfl), trivial⟩ ?_)))
  intro ρ4 w4 hN hf hr
  have h5 := hv hf 0 rfl rfl
  obtain ⟨h0, h1⟩ := k2 hr h0 h1 rfl
  have H_a_ := H_a_.exn hN
  have H_b_ := H_b_.exn hN
  have hW := hW.trans hN
  refine WP.block (WP.loop (fun k_ ρ w => ∃ i_ : Int, ρ 0 = v_a_ ∧ ρ 1 = v_b_ ∧ ρ 5 = .int .i64 i_ ∧ RepSl Claim.R (gfr noG w0) w v_a_ a_ ∧ RepSl Claim.R (gfr noG w0) w v_b_ b_ ∧ Ext noG w0 w ∧ loopC k_ (pensionplain_Same_of_api_Claim_l a_ b_) i_ = some r) FU ⟨0, h0, h1, h5, H_a_, H_b_, hW, hF⟩ (fun _ _ h => by obtain ⟨_, _, _, _, _, _, _, h⟩ := h; cases h) ?_)
  rintro k_ ρ5 w5 ⟨i_, h0, h1, h5, H_a_, H_b_, hW, hF⟩
  have hF : pensionplain_Same_of_api_Claim_l a_ b_ (loopC k_ (pensionplain_Same_of_api_Claim_l a_ b_)) i_ = some r := hF
  generalize hrec_ : loopC k_ (pensionplain_Same_of_api_Claim_l a_ b_) = rec_ at hF
  rw [pensionplain_Same_of_api_Claim_l] at hF
  refine WP.seq (WP.seq (WP.rb mixed [[], [], [1], [0, 2]] [[5], [0], [], []] [(11, .int .i64 i_), (12, v_a_), (13, .int .i64 (a_.length : Int)), (14, .bool (decide (i_ < (a_.length : Int))))] (by kernel_rfl) ⟨mE rfl rfl h5,
 mE rfl rfl h0,
 fun ρz wz hE hA _ ⟨u1, _⟩ => core_val rfl rfl (o_len (u1.trans hs_H_a_) len_25),
 fun ρz wz hE hA _ ⟨u0, u2, _⟩ => core_val rfl rfl (o_lss u0 u2 rfl), trivial⟩ ?_))
  intro ρ6 w6 hN hf hr
  have h14 := hv hf 3 rfl rfl
  obtain ⟨h0, h1, h5⟩ := k3 hr h0 h1 h5 rfl
  have H_a_ := H_a_.exn hN
  have H_b_ := H_b_.exn hN
  have hW := hW.trans hN
  refine WP.cond rfl h14 (fun hb => ?_) (fun hb => ?_)
  · have hF := (if_pos hb).symm.trans hF
    refine WP.skip (WP.seq (WP.block (WP.seq ?_)))
    obtain ⟨y, hy, hF⟩ := obind hF
    obtain ⟨ay, cy, hvy, hiy, hAy⟩ := RepSl.getF H_a_ hy
    obtain ⟨y2, hy2, hF⟩ := obind hF
    obtain ⟨ay2, cy2, hvy2, hiy2, hAy2⟩ := RepSl.getF H_b_ hy2
    refine WP.rb mixed [[], [], [0, 1], [2], [], [], [4, 5], [6], [3, 7]] [[0], [5], [], [], [1], [5], [], [], []] [(17, v_a_), (18, .int .i64 i_), (19, .pointer (some (ay.add (Int.toNat i_ * 6)))), (20, Claim.val y), (21, v_b_), (22, .int .i64 i_), (23, .pointer (some (ay2.add (Int.toNat i_ * 6)))), (24, Claim.val y2), (25, .bool (!Claim.eqb y y2))] (by kernel_rfl) ⟨mE rfl rfl h0,
 mE rfl rfl h5,
 fun ρz wz hE hA _ ⟨u0, u1, _⟩ => core_val rfl rfl (o_indexAddr (u0.trans hvy) u1 (ia_25 hiy)),
 fun ρz wz hE hA _ ⟨u2, _⟩ => core_val rfl rfl (o_load u2 (run_loadN (cs := (Claim.cells y)) (lr_23 _ _) rfl ((hAy.exn (hA rfl)).ca))),
 mE rfl rfl h1,
 mE rfl rfl h5,
 fun ρz wz hE hA _ ⟨u4, u5, _⟩ => core_val rfl rfl (o_indexAddr (u4.trans hvy2) u5 (ia_25 hiy2)),
 fun ρz wz hE hA _ ⟨u6, _⟩ => core_val rfl rfl (o_load u6 (run_loadN (cs := (Claim.cells y2)) (lr_23 _ _) rfl ((hAy2.exn (hA rfl)).ca))),
 fun ρz wz hE hA _ ⟨u3, u7, _⟩ => core_val rfl rfl (o_neS u3 u7 (by kernel_rfl) (eqs_23 9998 _ _ _) rfl), trivial⟩ ?_
    intro ρ7 w7 hN hf hr
    have h25 := hv hf 8 rfl rfl
    obtain ⟨h0, h1, h5⟩ := k3 hr h0 h1 h5 rfl
    have H_a_ := H_a_.exn hN
    have H_b_ := H_b_.exn hN
    have hW := hW.trans hN
    refine WP.cond rfl h25 (fun hb => ?_) (fun hb => ?_)
    · have hF := (if_pos hb).symm.trans hF
      refine WP.seq (WP.rb mixed [[]] [[]] [(4, .bool false)] (by kernel_rfl) ⟨aC rfl rfl (fun _ => rfl), trivial⟩ ?_)
      intro ρ8 w8 hN hf hr
      have h4 := hv hf 0 rfl rfl
      have hW := hW.trans hN
      refine WP.ret ?_
      show retQ Tryz.prog 26 Tryz.f20 (fun v w1 => v = .bool r ∧ Ext noG w0 w1) .ret ρ8 w8
      obtain rfl := Option.some.inj hF
      exact res1 rfl (by decide) h4 ⟨rfl, hW⟩
    have hF := (if_neg (Bool.eq_false_iff.1 hb)).symm.trans hF
    refine WP.skip (WP.rv mixed [[], [0], [0, 1]] [[], [0], [1]] [[5], [], []] [(15, .int .i64 i_), (16, .int .i64 (i64 (i_ + 1))), (5, .int .i64 (i64 (i_ + 1)))] (by kernel_rfl) ⟨mE rfl rfl h5,
 fun ρz wz hE hA _ ⟨u0, _⟩ => core_val rfl rfl (o_add u0 rfl rfl),
 aU rfl rfl rfl, trivial⟩ ?_)
    intro ρ9 w9 hN hf hr
    have h5 := hv hf 2 rfl rfl
    obtain ⟨h0, h1⟩ := k2 hr h0 h1 rfl
    have H_a_ := H_a_.exn hN
    have H_b_ := H_b_.exn hN
    have hW := hW.trans hN
    exact ⟨i64 (i_ + 1), h0, h1, h5, H_a_, H_b_, hW, (by first | exact hF | (rw [hrec_]; exact hF))⟩
  have hF := (if_neg (Bool.eq_false_iff.1 hb)).symm.trans hF
  refine WP.exit (thenQ_exit (thenQ_exit (blockQ_hit (WP.seq (WP.rb mixed [[]] [[]] [(4, .bool true)] (by kernel_rfl) ⟨aC rfl rfl (fun _ => rfl), trivial⟩ ?_)))))
  intro ρ10 w10 hN hf hr
  have h4 := hv hf 0 rfl rfl
  have hW := hW.trans hN
  refine WP.ret ?_
  show retQ Tryz.prog 26 Tryz.f20 (fun v w1 => v = .bool r ∧ Ext noG w0 w1) .ret ρ10 w10
  obtain rfl := Option.some.inj hF
  exact res1 rfl (by decide) h4 ⟨rfl, hW⟩

set_option maxHeartbeats 4000000 in
theorem pensionlaw26_DecisionSelectAgrees_ok {w0 : World} (r_ : List pensionhand_Claim) (day_ : Int) (person_ : Int) (month_ : Int) {v_r_ : Value} (H_r_ : RepSl pensionhand_Claim.R noG w0 v_r_ r_) {r : Bool} (hF : pensionlaw26_DecisionSelectAgrees r_ day_ person_ month_ = some r) :
    Calls Tryz.prog 6 #[v_r_, .int .i64 day_, .int .i64 person_, .int .i64 month_] w0 fun e w1 => e = .returned (.bool r) ∧ Ext noG w0 w1 := by
  refine (Calls.start (P := Tryz.prog) (args := [v_r_, .int .i64 day_, .int .i64 person_, .int .i64 month_]) (R := fun v w1 => v = .bool r ∧ Ext noG w0 w1) (n := 44) (w := w0) Tryz.func6 rfl rfl (Nat.le_of_ble_eq_true rfl) (fun ρ hargs => ?_)).mono (fun e w1 ⟨v, he, hv, hE⟩ => ⟨hv ▸ he, hE⟩)
  have h0 := hargs 0 _ rfl
  have h1 := hargs 1 _ rfl
  have h2 := hargs 2 _ rfl
  have h3 := hargs 3 _ rfl
  have hW := Ext.refl noG w0
  obtain ⟨_, _, hs_H_r_, _, _⟩ := RepSl.shape H_r_
  have H_r_ := H_r_.start
  rw [pensionlaw26_DecisionSelectAgrees] at hF
  refine WP.seq (WP.rb mixed [[]] [[]] [(8, .bool false)] (by kernel_rfl) ⟨aC rfl rfl (fun _ => rfl), trivial⟩ ?_)
  intro ρ1 w1 hN hf hr
  obtain ⟨h0, h1, h2, h3⟩ := k4 hr h0 h1 h2 h3 rfl
  have H_r_ := H_r_.exn hN
  have hW := hW.trans hN
  refine WP.seq ?_
  obtain ⟨z, hz, hF⟩ := obind hF
  obtain ⟨z2, hz2, hF⟩ := obind hF
  obtain ⟨l, hl, hF⟩ := obind hF
  refine WP.region mixed [[], [0], [], [2], [1, 3], [4]] [[], [0], [], [2], [1, 3], [4]] [[0], [], [1], [], [], []] [4] [(1, 4), (3, 4)] [val 12 (v_r_), (13, fun u wz => Own w0.heap.size 23 6 Claim.cells wz u z ∧ ∀ b, u.ownBlock = some b → w1.heap.size ≤ b), val 14 (.int .i64 day_), (15, fun u wz => Own w0.heap.size 23 6 Claim.cells wz u z2 ∧ ∀ b, u.ownBlock = some b → w1.heap.size ≤ b), (16, fun u wz => Own w0.heap.size 23 6 Claim.cells wz u l ∧ ∀ b, u.ownBlock = some b → w1.heap.size ≤ b), (9, fun u wz => Own w0.heap.size 23 6 Claim.cells wz u l ∧ ∀ b, u.ownBlock = some b → w1.heap.size ≤ b)] (fun b => w1.heap.size ≤ b) (by kernel_rfl) ⟨sV, fun _ _ _ hE ⟨hO, hf⟩ => ⟨hO.exn hE, hf⟩, sV, fun _ _ _ hE ⟨hO, hf⟩ => ⟨hO.exn hE, hf⟩, fun _ _ _ hE ⟨hO, hf⟩ => ⟨hO.exn hE, hf⟩, fun _ _ _ hE ⟨hO, hf⟩ => ⟨hO.exn hE, hf⟩, trivial⟩ ⟨mE rfl rfl h0,
 fun ρz wz hE hA _ ⟨u0, _⟩ => core_callR rfl (call_args1 u0) cf_9 ((pensionhand_Claims_ok  _ (H_r_.over hE (fun _ h => Nat.le_trans hW.size h)).no hz).mono (fun e w1 ⟨v, he, hE1, hO⟩ => ⟨v, he, hE1, hO.base (Nat.le_trans hW.size hE.size), fun b hb => Nat.le_trans hE.size (hO.lt hb).1⟩)),
 mE rfl rfl h1,
 fun ρz wz hE hA _ ⟨u2, _⟩ => core_callR rfl (call_args1 u2) cf_17 ((pensionhand_All_ok  _  hz2).mono (fun e w1 ⟨v, he, hE1, hO⟩ => ⟨v, he, hE1, hO.base (Nat.le_trans hW.size hE.size), fun b hb => Nat.le_trans hE.size (hO.lt hb).1⟩)),
 fun ρz wz hE hA _ ⟨⟨hO1, hfr1⟩, ⟨hO3, hfr3⟩, _⟩ => core_append (n := 6) (cells := Claim.cells) (B := w0.heap.size) (w0 := w1) rfl rfl (fun b hb => hfr1 b hb) rfl rfl (fun _ => rfl) one_23 si_25 se_23 (by decide) (by decide) hO1 ⟨_, (hO3.rep (hn := fun _ => rfl) (G := noG) (fun _ _ h => h))⟩ hl (Nat.le_trans hW.size hE.size) hE.size (fun v1 w1 h1 h2 => ⟨h1, fun b hb => (h2 b hb).elim (hfr1 b) id⟩),
 fun ρz wz hE hA _ ⟨⟨hO4, hfr4⟩, _⟩ => core_copy rfl rfl (o_assign rfl) ⟨hO4, hfr4⟩, trivial⟩ ?_
  intro ρ2 w2 hE hN hf hr
  have hN := hE.fresh
  obtain ⟨v9_, h9⟩ : ∃ v, ρ2 9 = v := ⟨_, rfl⟩
  have hq9 : (fun u wz => Own w0.heap.size 23 6 Claim.cells wz u l ∧ ∀ b, u.ownBlock = some b → w1.heap.size ≤ b) (ρ2 9) w2 := hf 5 rfl
  rw [h9] at hq9
  obtain ⟨hq9, hfr9⟩ := hq9
  obtain ⟨h2, h3⟩ := k2 hr h2 h3 rfl
  have hW := hW.trans hN
  have Hf9 : RepSl Claim.R (gov noG (.slice none 0 0)) w2 v9_ l := hq9.rep (fun b hb hg => hg.elim id (fun h2 => by simp [Value.ownBlock] at h2))
  obtain ⟨_, _, hs_Hf9, _, _⟩ := RepSl.shape Hf9
  refine WP.seq ?_
  obtain ⟨z3, hz3, hF⟩ := obind hF
  obtain ⟨z4, hz4, hF⟩ := obind hF
  refine WP.rb mixed [[], [0], [], [2], [1], [3]] [[2], [], [3], [], [], []] [(17, .int .i64 person_), (18, .int .i64 z3), (19, .int .i64 month_), (20, .int .i64 z4), (10, .int .i64 z3), (11, .int .i64 z4)] (by kernel_rfl) ⟨mE rfl rfl h2,
 fun ρz wz hE hA _ ⟨u0, _⟩ => core_call rfl (call_args1 u0) cf_18 (pensionlaw26_Person_ok  _  hz3),
 mE rfl rfl h3,
 fun ρz wz hE hA _ ⟨u2, _⟩ => core_call rfl (call_args1 u2) cf_19 (pensionlaw26_Month_ok  _  hz4),
 aU rfl rfl rfl,
 aU rfl rfl rfl, trivial⟩ ?_
  intro ρ3 w3 hN hf hr
  have h10 := hv hf 4 rfl rfl
  have h11 := hv hf 5 rfl rfl
  obtain ⟨h2, h3, h9⟩ := k3 hr h2 h3 h9 rfl
  have Hf9 := Hf9.exn hN
  have hW := hW.trans hN
  refine WP.seq ?_
  obtain ⟨z5, hz5, hF⟩ := obind hF
  obtain ⟨c, hc, hF⟩ := obind hF
  obtain ⟨z6, hz6, hc⟩ := andB hc
  obtain ⟨z7, hz7, hc⟩ := andB hc
  obtain ⟨z8, hz8, hc⟩ := andB hc
  have hc := andE hc
  obtain ⟨c2, hc2, hF⟩ := obind hF
  obtain ⟨z9, hz9, hc2⟩ := andB hc2
  obtain ⟨z10, hz10, hc2⟩ := andB hc2
  obtain ⟨z11, hz11, hc2⟩ := andB hc2
  have hc2 := andE hc2
  refine WP.rg mixed [[], [0], [1], [1], [1], [1, 2, 3, 4], [1], [1], [1], [1, 6, 7, 8], [1, 5, 9], [1, 10], [11], [12], [12], [12], [12, 13, 14, 15], [12], [12], [12], [12, 17, 18, 19], [12, 16, 20], [12, 21], [22]] [[], [0], [1], [1], [1], [1, 2, 3, 4], [1], [1], [1], [1, 6, 7, 8], [1, 5, 9], [1, 10], [11], [12], [12], [12], [12, 13, 14, 15], [12], [12], [12], [12, 17, 18, 19], [12, 16, 20], [12, 21], [22]] [[], [], [9], [10], [11], [], [9], [10], [11], [], [], [], [], [9], [2], [3], [], [9], [2], [3], [], [], [], []] [val 21 (.bool z5), val 22 (.bool z5), val 23 (gv (z5) v9_), val 24 (gv (z5) (.int .i64 z3)), val 25 (gv (z5) (.int .i64 z4)), (26, fun u wz => (z5) = true → (fun u wz => Own w0.heap.size 23 6 Claim.cells wz u z6 ∧ ∀ b, u.ownBlock = some b → w3.heap.size ≤ b) u wz), val 27 (gv (z5) v9_), val 28 (gv (z5) (.int .i64 z3)), val 29 (gv (z5) (.int .i64 z4)), (30, fun u wz => (z5) = true → (fun u wz => Own w0.heap.size 23 6 Claim.cells wz u z7 ∧ ∀ b, u.ownBlock = some b → w3.heap.size ≤ b) u wz), val 31 (gv (z5) (.bool z8)), val 32 (.bool c), val 33 (.bool c), val 34 (gv (c) v9_), val 35 (gv (c) (.int .i64 person_)), val 36 (gv (c) (.int .i64 month_)), (37, fun u wz => (c) = true → (fun u wz => Own w0.heap.size 23 6 Claim.cells wz u z9 ∧ ∀ b, u.ownBlock = some b → w3.heap.size ≤ b) u wz), val 38 (gv (c) v9_), val 39 (gv (c) (.int .i64 person_)), val 40 (gv (c) (.int .i64 month_)), (41, fun u wz => (c) = true → (fun u wz => Own w0.heap.size 23 6 Claim.cells wz u z10 ∧ ∀ b, u.ownBlock = some b → w3.heap.size ≤ b) u wz), val 42 (gv (c) (.bool z11)), val 43 (.bool c2), val 8 (.bool c2)] (by kernel_rfl) ⟨sV, sV, sV, sV, sV, stabI (Φ := fun u wz => Own w0.heap.size 23 6 Claim.cells wz u z6 ∧ ∀ b, u.ownBlock = some b → w3.heap.size ≤ b) (fun _ _ _ hE ⟨hO, hf⟩ => ⟨hO.exn hE, hf⟩), sV, sV, sV, stabI (Φ := fun u wz => Own w0.heap.size 23 6 Claim.cells wz u z7 ∧ ∀ b, u.ownBlock = some b → w3.heap.size ≤ b) (fun _ _ _ hE ⟨hO, hf⟩ => ⟨hO.exn hE, hf⟩), sV, sV, sV, sV, sV, sV, stabI (Φ := fun u wz => Own w0.heap.size 23 6 Claim.cells wz u z9 ∧ ∀ b, u.ownBlock = some b → w3.heap.size ≤ b) (fun _ _ _ hE ⟨hO, hf⟩ => ⟨hO.exn hE, hf⟩), sV, sV, sV, stabI (Φ := fun u wz => Own w0.heap.size 23 6 Claim.cells wz u z10 ∧ ∀ b, u.ownBlock = some b → w3.heap.size ≤ b) (fun _ _ _ hE ⟨hO, hf⟩ => ⟨hO.exn hE, hf⟩), sV, sV, sV, trivial⟩ ⟨fun ρz wz hE hA _ _ => core_call rfl call_args0 cf_15 (pensionlaw26_awake_ok    hz5),
 mU rfl rfl rfl,
 fun ρz wz hE hA ⟨e9, _⟩ ⟨u1, _⟩ => gIf rfl rfl (yT rfl u1) fun gc F hF => core_val rfl hF (o_move (e9.trans h9)),
 fun ρz wz hE hA ⟨e10, _⟩ ⟨u1, _⟩ => gIf rfl rfl (yT rfl u1) fun gc F hF => core_val rfl hF (o_move (e10.trans h10)),
 fun ρz wz hE hA ⟨e11, _⟩ ⟨u1, _⟩ => gIf rfl rfl (yT rfl u1) fun gc F hF => core_val rfl hF (o_move (e11.trans h11)),
 fun ρz wz hE hA _ ⟨u1, u2, u3, u4, _⟩ => gIfR rfl (yT rfl u1) fun gc F hF => core_callR hF (call_args3 (gt gc u2) (gt gc u3) (gt gc u4)) cf_21 ((decision_Select_ok  _ _ _ (Hf9.exn (hA rfl)).no (hz6 gc)).mono (fun e w1 ⟨v, he, hE1, hO⟩ => ⟨v, he, hE1, hO.base (Nat.le_trans hW.size hE.size), fun b hb => Nat.le_trans hE.size (hO.lt hb).1⟩)),
 fun ρz wz hE hA ⟨e9, _⟩ ⟨u1, _⟩ => gIf rfl rfl (yT rfl u1) fun gc F hF => core_val rfl hF (o_move (e9.trans h9)),
 fun ρz wz hE hA ⟨e10, _⟩ ⟨u1, _⟩ => gIf rfl rfl (yT rfl u1) fun gc F hF => core_val rfl hF (o_move (e10.trans h10)),
 fun ρz wz hE hA ⟨e11, _⟩ ⟨u1, _⟩ => gIf rfl rfl (yT rfl u1) fun gc F hF => core_val rfl hF (o_move (e11.trans h11)),
 fun ρz wz hE hA _ ⟨u1, u6, u7, u8, _⟩ => gIfR rfl (yT rfl u1) fun gc F hF => core_callR hF (call_args3 (gt gc u6) (gt gc u7) (gt gc u8)) cf_22 ((pensionref26_Select_ok  _ _ _ (Hf9.exn (hA rfl)).no (hz7 gc)).mono (fun e w1 ⟨v, he, hE1, hO⟩ => ⟨v, he, hE1, hO.base (Nat.le_trans hW.size hE.size), fun b hb => Nat.le_trans hE.size (hO.lt hb).1⟩)),
 fun ρz wz hE hA _ ⟨u1, u5, u9, _⟩ => gIf rfl rfl (yT rfl u1) fun gc F hF => let ⟨hO5, hfr5⟩ := u5 gc; let ⟨hO9, hfr9⟩ := u9 gc; core_call hF (call_args2 rfl rfl) cf_20 (pensionplain_Same_of_api_Claim_ok  _ _ (hO5.rep (hn := fun _ => rfl) (G := noG) (fun _ _ h => h)).no (hO9.rep (hn := fun _ => rfl) (G := noG) (fun _ _ h => h)).no (hz8 gc)),
 fun ρz wz hE hA _ ⟨u1, u10, _⟩ => core_valE rfl rfl (congrArg Value.bool hc) (o_pick_and u1 u10 rfl),
 mU rfl rfl rfl,
 fun ρz wz hE hA ⟨e9, _⟩ ⟨u12, _⟩ => gIf rfl rfl (yT rfl u12) fun gc F hF => core_val rfl hF (o_move (e9.trans h9)),
 fun ρz wz hE hA ⟨e2, _⟩ ⟨u12, _⟩ => gIf rfl rfl (yT rfl u12) fun gc F hF => core_val rfl hF (o_move (e2.trans h2)),
 fun ρz wz hE hA ⟨e3, _⟩ ⟨u12, _⟩ => gIf rfl rfl (yT rfl u12) fun gc F hF => core_val rfl hF (o_move (e3.trans h3)),
 fun ρz wz hE hA _ ⟨u12, u13, u14, u15, _⟩ => gIfR rfl (yT rfl u12) fun gc F hF => core_callR hF (call_args3 (gt gc u13) (gt gc u14) (gt gc u15)) cf_21 ((decision_Select_ok  _ _ _ (Hf9.exn (hA rfl)).no (hz9 gc)).mono (fun e w1 ⟨v, he, hE1, hO⟩ => ⟨v, he, hE1, hO.base (Nat.le_trans hW.size hE.size), fun b hb => Nat.le_trans hE.size (hO.lt hb).1⟩)),
 fun ρz wz hE hA ⟨e9, _⟩ ⟨u12, _⟩ => gIf rfl rfl (yT rfl u12) fun gc F hF => core_val rfl hF (o_move (e9.trans h9)),
 fun ρz wz hE hA ⟨e2, _⟩ ⟨u12, _⟩ => gIf rfl rfl (yT rfl u12) fun gc F hF => core_val rfl hF (o_move (e2.trans h2)),
 fun ρz wz hE hA ⟨e3, _⟩ ⟨u12, _⟩ => gIf rfl rfl (yT rfl u12) fun gc F hF => core_val rfl hF (o_move (e3.trans h3)),
 fun ρz wz hE hA _ ⟨u12, u17, u18, u19, _⟩ => gIfR rfl (yT rfl u12) fun gc F hF => core_callR hF (call_args3 (gt gc u17) (gt gc u18) (gt gc u19)) cf_22 ((pensionref26_Select_ok  _ _ _ (Hf9.exn (hA rfl)).no (hz10 gc)).mono (fun e w1 ⟨v, he, hE1, hO⟩ => ⟨v, he, hE1, hO.base (Nat.le_trans hW.size hE.size), fun b hb => Nat.le_trans hE.size (hO.lt hb).1⟩)),
 fun ρz wz hE hA _ ⟨u12, u16, u20, _⟩ => gIf rfl rfl (yT rfl u12) fun gc F hF => let ⟨hO16, hfr16⟩ := u16 gc; let ⟨hO20, hfr20⟩ := u20 gc; core_call hF (call_args2 rfl rfl) cf_20 (pensionplain_Same_of_api_Claim_ok  _ _ (hO16.rep (hn := fun _ => rfl) (G := noG) (fun _ _ h => h)).no (hO20.rep (hn := fun _ => rfl) (G := noG) (fun _ _ h => h)).no (hz11 gc)),
 fun ρz wz hE hA _ ⟨u12, u21, _⟩ => core_valE rfl rfl (congrArg Value.bool hc2) (o_pick_and u12 u21 rfl),
 aU rfl rfl rfl, trivial⟩ ?_
  intro ρ4 w4 hN hf hr
  have h8 : ρ4 8 = .bool c2 := hf 23 rfl
  have hW := hW.trans hN
  refine WP.ret ?_
  show retQ Tryz.prog 44 Tryz.f6 (fun v w1 => v = .bool r ∧ Ext noG w0 w1) .ret ρ4 w4
  obtain rfl := Option.some.inj hF
  exact res1 rfl (by decide) h8 ⟨rfl, hW⟩
end Go.PL
