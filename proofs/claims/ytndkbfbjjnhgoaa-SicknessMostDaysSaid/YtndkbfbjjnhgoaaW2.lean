/- The translated code computes the Lean functions (printed by a program). -/
import Derived.Test.YtndkbfbjjnhgoaaW1
set_option linter.unusedVariables false
set_option linter.unusedSimpArgs false
set_option maxRecDepth 10000
namespace Go.PL
open Go Go.Proofs

set_option maxHeartbeats 4000000 in
theorem spans_Intersect_ok {w0 : World} (d_ : List Span) (i_ : List Span) {v_d_ : Value} (H_d_ : RepSl Span.R noG w0 v_d_ d_) {v_i_ : Value} (H_i_ : RepSl Span.R noG w0 v_i_ i_) {r : (List Span)} (hF : spans_Intersect d_ i_ = some r) :
    Calls Try.prog 47 #[v_d_, v_i_] w0 fun e w1 => ∃ v, e = .returned v ∧ Ext noG w0 w1 ∧ Own w0.heap.size 31 2 Span.cells w1 v r := by
  refine (Calls.start (P := Try.prog) (args := [v_d_, v_i_]) (R := fun v w1 => Own w0.heap.size 31 2 Span.cells w1 v r ∧ Ext noG w0 w1) (n := 71) (w := w0) Try.func47 rfl rfl (Nat.le_of_ble_eq_true rfl) (fun ρ hargs => ?_)).mono (fun e w1 ⟨v, he, hv, hE⟩ => ⟨v, he, hE, hv⟩)
  have h0 := hargs 0 _ rfl
  have h1 := hargs 1 _ rfl
  have hW := Ext.refl noG w0
  obtain ⟨_, _, hs_H_d_, _, _⟩ := RepSl.shape H_d_
  have H_d_ := H_d_.start
  obtain ⟨_, _, hs_H_i_, _, _⟩ := RepSl.shape H_i_
  have H_i_ := H_i_.start
  rw [spans_Intersect] at hF
  refine WP.seq (WP.rb mixed [[]] [[]] [(4, .slice none 0 0)] (by kernel_rfl) ⟨aC rfl rfl (fun _ => rfl), trivial⟩ ?_)
  intro ρ1 w1 hN hf hr
  obtain ⟨h0, h1⟩ := k2 hr h0 h1 rfl
  have H_d_ := H_d_.exn hN
  have H_i_ := H_i_.exn hN
  have hW := hW.trans hN
  refine WP.seq ?_
  obtain ⟨z, hz, hF⟩ := obind hF
  obtain ⟨z2, hz2, hF⟩ := obind hF
  refine WP.rg mixed [[], [0], [], [2], [0, 1], [2, 3]] [[], [0], [], [2], [1], [3]] [[0], [], [1], [], [], []] [val 9 (v_d_), (10, fun u wz => Own w0.heap.size 31 2 Span.cells wz u z ∧ ∀ b, u.ownBlock = some b → w1.heap.size ≤ b), val 11 (v_i_), (12, fun u wz => Own w0.heap.size 31 2 Span.cells wz u z2 ∧ ∀ b, u.ownBlock = some b → w1.heap.size ≤ b), (0, fun u wz => Own w0.heap.size 31 2 Span.cells wz u z ∧ ∀ b, u.ownBlock = some b → w1.heap.size ≤ b), (1, fun u wz => Own w0.heap.size 31 2 Span.cells wz u z2 ∧ ∀ b, u.ownBlock = some b → w1.heap.size ≤ b)] (by kernel_rfl) ⟨sV, fun _ _ _ hE ⟨hO, hf⟩ => ⟨hO.exn hE, hf⟩, sV, fun _ _ _ hE ⟨hO, hf⟩ => ⟨hO.exn hE, hf⟩, fun _ _ _ hE ⟨hO, hf⟩ => ⟨hO.exn hE, hf⟩, fun _ _ _ hE ⟨hO, hf⟩ => ⟨hO.exn hE, hf⟩, trivial⟩ ⟨mE rfl rfl h0,
 fun ρz wz hE hA _ ⟨u0, _⟩ => core_callR rfl (call_args1 u0) cf_30 ((spans_Make_ok  _ (H_d_.exn (hA rfl)).no hz).mono (fun e w1 ⟨v, he, hE1, hO⟩ => ⟨v, he, hE1, hO.base (Nat.le_trans hW.size hE.size), fun b hb => Nat.le_trans hE.size (hO.lt hb).1⟩)),
 mE rfl rfl h1,
 fun ρz wz hE hA _ ⟨u2, _⟩ => core_callR rfl (call_args1 u2) cf_30 ((spans_Make_ok  _ (H_i_.exn (hA rfl)).no hz2).mono (fun e w1 ⟨v, he, hE1, hO⟩ => ⟨v, he, hE1, hO.base (Nat.le_trans hW.size hE.size), fun b hb => Nat.le_trans hE.size (hO.lt hb).1⟩)),
 fun ρz wz hE hA _ ⟨⟨hO1, hfr1⟩, _⟩ => core_copy rfl rfl (o_assign rfl) ⟨hO1, hfr1⟩,
 fun ρz wz hE hA _ ⟨⟨hO3, hfr3⟩, _⟩ => core_copy rfl rfl (o_assign rfl) ⟨hO3, hfr3⟩, trivial⟩ ?_
  intro ρ2 w2 hN hf hr
  obtain ⟨v0_, h0⟩ : ∃ v, ρ2 0 = v := ⟨_, rfl⟩
  have hq0 : (fun u wz => Own w0.heap.size 31 2 Span.cells wz u z ∧ ∀ b, u.ownBlock = some b → w1.heap.size ≤ b) (ρ2 0) w2 := hf 4 rfl
  rw [h0] at hq0
  obtain ⟨hq0, hfr0⟩ := hq0
  obtain ⟨v1_, h1⟩ : ∃ v, ρ2 1 = v := ⟨_, rfl⟩
  have hq1 : (fun u wz => Own w0.heap.size 31 2 Span.cells wz u z2 ∧ ∀ b, u.ownBlock = some b → w1.heap.size ≤ b) (ρ2 1) w2 := hf 5 rfl
  rw [h1] at hq1
  obtain ⟨hq1, hfr1⟩ := hq1
  have hW := hW.trans hN
  have Hf0 : RepSl Span.R noG w2 v0_ z := hq0.rep (fun _ _ h => h)
  obtain ⟨_, _, hs_Hf0, _, _⟩ := RepSl.shape Hf0
  have Hf1 : RepSl Span.R noG w2 v1_ z2 := hq1.rep (fun _ _ h => h)
  obtain ⟨_, _, hs_Hf1, _, _⟩ := RepSl.shape Hf1
  refine WP.seq (WP.rb mixed [[]] [[]] [(5, .slice none 0 0)] (by kernel_rfl) ⟨aC rfl rfl (fun _ => rfl), trivial⟩ ?_)
  intro ρ3 w3 hN hf hr
  have h5 : ρ3 5 = .slice none 0 0 := hf 0 rfl
  have O5 : Own w0.heap.size 31 2 Span.cells w3 (.slice none 0 0) [] := Own.nil _ _ _ _ _
  obtain ⟨h0, h1⟩ := k2 hr h0 h1 rfl
  have Hf0 : RepSl Span.R (gL [ownG (.slice none 0 0)]) w3 v0_ z := Hf0.mv hN (fun _ h => h.elim) (fun b h => h.elim (fun h => by simp [ownG, Value.ownBlock] at h) (fun h => h.elim))
  have Hf1 : RepSl Span.R (gL [ownG (.slice none 0 0)]) w3 v1_ z2 := Hf1.mv hN (fun _ h => h.elim) (fun b h => h.elim (fun h => by simp [ownG, Value.ownBlock] at h) (fun h => h.elim))
  have hW := hW.trans hN
  have O5 : Own w0.heap.size 31 2 Span.cells w3 (.slice none 0 0) [] := Own.nil _ _ _ _ _
  refine WP.seq (WP.seq (WP.rb mixed [[], []] [[], []] [(6, .int .i64 0), (7, .int .i64 0)] (by kernel_rfl) ⟨aC rfl rfl (fun _ => rfl),
 aC rfl rfl (fun _ => rfl), trivial⟩ ?_))
  intro ρ4 w4 hN hf hr
  have h6 := hv hf 0 rfl rfl
  have h7 := hv hf 1 rfl rfl
  obtain ⟨h0, h1, h5⟩ := k3 hr h0 h1 h5 rfl
  have Oo_O5 := O5
  have Hf0 := Hf0.exn hN
  have Hf1 := Hf1.exn hN
  have hW := hW.trans hN
  have O5 : Own w0.heap.size 31 2 Span.cells w4 (.slice none 0 0) [] := Own.nil _ _ _ _ _
  refine WP.block (WP.loop (fun k_ ρ w => ∃ x : List Span, ∃ x2 : Int, ∃ x3 : Int, ∃ v5_ : Value, ρ 0 = v0_ ∧ ρ 1 = v1_ ∧ ρ 5 = v5_ ∧ ρ 6 = .int .i64 x2 ∧ ρ 7 = .int .i64 x3 ∧ RepSl Span.R (gL [ownG v5_]) w v0_ z ∧ RepSl Span.R (gL [ownG v5_]) w v1_ z2 ∧ Own w0.heap.size 31 2 Span.cells w v5_ x ∧ Ext noG w0 w ∧ loopC k_ (spans_Intersect_l z z2) (x, x2, x3) = some r) FU ⟨[], 0, 0, .slice none 0 0, h0, h1, h5, h6, h7, Hf0, Hf1, O5, hW, hF⟩ (fun _ _ h => by obtain ⟨_, _, _, _, _, _, _, _, _, _, _, _, _, h⟩ := h; cases h) ?_)
  rintro k_ ρ5 w5 ⟨x, x2, x3, v5_, h0, h1, h5, h6, h7, Hf0, Hf1, O5, hW, hF⟩
  have hF : spans_Intersect_l z z2 (loopC k_ (spans_Intersect_l z z2)) (x, x2, x3) = some r := hF
  generalize hrec_ : loopC k_ (spans_Intersect_l z z2) = rec_ at hF
  rw [spans_Intersect_l] at hF
  refine WP.seq (WP.seq (WP.rb mixed [[], [], [1], [0, 2], [3], [4], [4], [4, 6], [4, 5, 7], [4, 8]] [[6], [0], [], [], [], [7], [1], [], [], []] [(13, .int .i64 x2), (14, v0_), (15, .int .i64 (z.length : Int)), (16, .bool (decide (x2 < (z.length : Int)))), (17, .bool (decide (x2 < (z.length : Int)))), (18, gv (decide (x2 < (z.length : Int))) (.int .i64 x3)), (19, gv (decide (x2 < (z.length : Int))) v1_), (20, gv (decide (x2 < (z.length : Int))) (.int .i64 (z2.length : Int))), (21, gv (decide (x2 < (z.length : Int))) (.bool (decide (x3 < (z2.length : Int))))), (22, .bool (decide (x2 < (z.length : Int)) && decide (x3 < (z2.length : Int))))] (by kernel_rfl) ⟨mE rfl rfl h6,
 mE rfl rfl h0,
 fun ρz wz hE hA _ ⟨u1, _⟩ => core_val rfl rfl (o_len (u1.trans hs_Hf0) len_32),
 fun ρz wz hE hA _ ⟨u0, u2, _⟩ => core_val rfl rfl (o_lss u0 u2 rfl),
 mU rfl rfl rfl,
 fun ρz wz hE hA ⟨e7, _⟩ ⟨u4, _⟩ => gIf rfl rfl (yT rfl u4) fun gc F hF => core_val rfl hF (o_move (e7.trans h7)),
 fun ρz wz hE hA ⟨e1, _⟩ ⟨u4, _⟩ => gIf rfl rfl (yT rfl u4) fun gc F hF => core_val rfl hF (o_move (e1.trans h1)),
 fun ρz wz hE hA _ ⟨u4, u6, _⟩ => gIf rfl rfl (yT rfl u4) fun gc F hF => core_val rfl hF (o_len ((gt gc u6).trans hs_Hf1) len_32),
 fun ρz wz hE hA _ ⟨u4, u5, u7, _⟩ => gIf rfl rfl (yT rfl u4) fun gc F hF => core_val rfl hF (o_lss (gt gc u5) (gt gc u7) rfl),
 fun ρz wz hE hA _ ⟨u4, u8, _⟩ => core_val rfl rfl (o_pick_and u4 u8 rfl), trivial⟩ ?_))
  intro ρ6 w6 hN hf hr
  have h22 := hv hf 9 rfl rfl
  obtain ⟨h0, h1, h5, h6, h7⟩ := k5 hr h0 h1 h5 h6 h7 rfl
  have Oo_O5 := O5
  have Hf0 := Hf0.exn hN
  have Hf1 := Hf1.exn hN
  have hW := hW.trans hN
  have O5 := Oo_O5.exn hN
  refine WP.cond rfl h22 (fun hb => ?_) (fun hb => ?_)
  · have hF := (if_pos hb).symm.trans hF
    refine WP.skip (WP.block (WP.seq ?_))
    obtain ⟨y, hy, hF⟩ := obind hF
    obtain ⟨ay, cy, hvy, hiy, hAy⟩ := RepSl.getF Hf0 hy
    obtain ⟨y2, hy2, hF⟩ := obind hF
    obtain ⟨ay2, cy2, hvy2, hiy2, hAy2⟩ := RepSl.getF Hf1 hy2
    obtain ⟨y3, hy3, hF⟩ := obind hF
    obtain ⟨ay3, cy3, hvy3, hiy3, hAy3⟩ := RepSl.getF Hf0 hy3
    obtain ⟨y4, hy4, hF⟩ := obind hF
    obtain ⟨ay4, cy4, hvy4, hiy4, hAy4⟩ := RepSl.getF Hf1 hy4
    refine WP.region mixed [[], [], [0, 1], [2], [3], [], [], [5, 6], [7], [8], [4, 9], [], [], [11, 12], [13], [14], [], [], [16, 17], [18], [19], [15, 20], [10, 21], [], [22, 23]] [[], [], [0, 1], [2], [3], [], [], [5, 6], [7], [8], [4, 9], [], [], [11, 12], [13], [14], [], [], [16, 17], [18], [19], [15, 20], [10, 21], [], [22, 23]] [[0], [6], [], [], [], [1], [7], [], [], [], [], [0], [6], [], [], [], [1], [7], [], [], [], [], [], [], []] [24] [(23, 24)] [val 23 (v0_), val 24 (.int .i64 x2), val 25 (.pointer (some (ay.add (Int.toNat x2 * 2)))), val 26 (.pointer (some ((ay.add (Int.toNat x2 * 2)).add 0))), val 27 (.int .i64 y.From), val 28 (v1_), val 29 (.int .i64 x3), val 30 (.pointer (some (ay2.add (Int.toNat x3 * 2)))), val 31 (.pointer (some ((ay2.add (Int.toNat x3 * 2)).add 0))), val 32 (.int .i64 y2.From), val 33 (.int .i64 (max y.From y2.From)), val 34 (v0_), val 35 (.int .i64 x2), val 36 (.pointer (some (ay3.add (Int.toNat x2 * 2)))), val 37 (.pointer (some ((ay3.add (Int.toNat x2 * 2)).add 1))), val 38 (.int .i64 y3.To), val 39 (v1_), val 40 (.int .i64 x3), val 41 (.pointer (some (ay4.add (Int.toNat x3 * 2)))), val 42 (.pointer (some ((ay4.add (Int.toNat x3 * 2)).add 1))), val 43 (.int .i64 y4.To), val 44 (.int .i64 (min y3.To y4.To)), val 45 (Span.val (⟨max y.From y2.From, min y3.To y4.To⟩ : Span)), (8, fun u wz => ∃ b, u = .pointer (some ⟨b, 0, none⟩) ∧ w6.heap.size ≤ b ∧ Mb wz b 31 (Span.cells (⟨0, 0⟩ : Span))), (8, fun u wz => ∃ b, u = .pointer (some ⟨b, 0, none⟩) ∧ w6.heap.size ≤ b ∧ Mb wz b 31 (Span.cells (⟨max y.From y2.From, min y3.To y4.To⟩ : Span)))] (fun b => w6.heap.size ≤ b) (by kernel_rfl) ⟨sV, sV, sV, sV, sV, sV, sV, sV, sV, sV, sV, sV, sV, sV, sV, sV, sV, sV, sV, sV, sV, sV, sV, fun _ _ _ hE ⟨b, hb, hs, hM⟩ => ⟨b, hb, hs, hM.exn hE⟩, fun _ _ _ hE ⟨b, hb, hs, hM⟩ => ⟨b, hb, hs, hM.exn hE⟩, trivial⟩ ⟨mE rfl rfl h0,
 mE rfl rfl h6,
 fun ρz wz hE hA _ ⟨u0, u1, _⟩ => core_val rfl rfl (o_indexAddr (u0.trans hvy) u1 (ia_32 hiy)),
 fun ρz wz hE hA _ ⟨u2, _⟩ => core_val rfl rfl (o_fieldAddr u2 (fa_31_0 _ _)),
 fun ρz wz hE hA _ ⟨u3, _⟩ => core_val rfl rfl (o_load u3 (run_load1 (lr_3 _ _) (CA.sub ((hAy.exn hE.fresh).ca) 0 1))),
 mE rfl rfl h1,
 mE rfl rfl h7,
 fun ρz wz hE hA _ ⟨u5, u6, _⟩ => core_val rfl rfl (o_indexAddr (u5.trans hvy2) u6 (ia_32 hiy2)),
 fun ρz wz hE hA _ ⟨u7, _⟩ => core_val rfl rfl (o_fieldAddr u7 (fa_31_0 _ _)),
 fun ρz wz hE hA _ ⟨u8, _⟩ => core_val rfl rfl (o_load u8 (run_load1 (lr_3 _ _) (CA.sub ((hAy2.exn hE.fresh).ca) 0 1))),
 fun ρz wz hE hA _ ⟨u4, u9, _⟩ => core_val rfl rfl (o_max2 u4 u9),
 mE rfl rfl h0,
 mE rfl rfl h6,
 fun ρz wz hE hA _ ⟨u11, u12, _⟩ => core_val rfl rfl (o_indexAddr (u11.trans hvy3) u12 (ia_32 hiy3)),
 fun ρz wz hE hA _ ⟨u13, _⟩ => core_val rfl rfl (o_fieldAddr u13 (fa_31_1 _ _)),
 fun ρz wz hE hA _ ⟨u14, _⟩ => core_val rfl rfl (o_load u14 (run_load1 (lr_3 _ _) (CA.sub ((hAy3.exn hE.fresh).ca) 1 1))),
 mE rfl rfl h1,
 mE rfl rfl h7,
 fun ρz wz hE hA _ ⟨u16, u17, _⟩ => core_val rfl rfl (o_indexAddr (u16.trans hvy4) u17 (ia_32 hiy4)),
 fun ρz wz hE hA _ ⟨u18, _⟩ => core_val rfl rfl (o_fieldAddr u18 (fa_31_1 _ _)),
 fun ρz wz hE hA _ ⟨u19, _⟩ => core_val rfl rfl (o_load u19 (run_load1 (lr_3 _ _) (CA.sub ((hAy4.exn hE.fresh).ca) 1 1))),
 fun ρz wz hE hA _ ⟨u15, u20, _⟩ => core_val rfl rfl (o_min2 u15 u20),
 fun ρz wz hE hA _ ⟨u10, u21, _⟩ => core_val rfl rfl (o_build (build_parts2 u10 u21) (bd_31_0_1 _ _ _)),
 fun ρz wz hE hA _ _ => core_new rfl rfl hE (o_alloc (al_31 _)),
 fun ρz wz hE hA _ ⟨u22, u23, _⟩ => core_storeNew rfl rfl rfl rfl u22 u23 (fun a w => st_31 _ a w) rfl (one_31 _), trivial⟩ ?_
    intro ρ7 w7 hE hN hf hr
    have hN := hE.fresh
    obtain ⟨b8_, h8, hge_b8_, Hb_b8_⟩ := hf 24 rfl
    obtain ⟨h0, h1, h5, h6, h7⟩ := k5 hr h0 h1 h5 h6 h7 rfl
    have Oo_O5 := O5
    have Hf0 := Hf0.exn hN
    have Hf1 := Hf1.exn hN
    have hB_b8_ : w0.heap.size ≤ b8_ := Nat.le_trans hW.size hge_b8_
    have hW := hW.trans hN
    have O5 := Oo_O5.exn hN
    have hnb_O5_b8_ : Value.ownBlock v5_ ≠ some b8_ := fun h => absurd (Oo_O5.lt h).2 (Nat.not_lt.2 hge_b8_)
    refine WP.seqJ (fun ρ w => ∃ x4 : List Span, ∃ v5_2 : Value, ρ 0 = v0_ ∧ ρ 1 = v1_ ∧ ρ 5 = v5_2 ∧ ρ 6 = .int .i64 x2 ∧ ρ 7 = .int .i64 x3 ∧ RepSl Span.R (gL [ownG v5_2]) w v0_ z ∧ RepSl Span.R (gL [ownG v5_2]) w v1_ z2 ∧ Own w0.heap.size 31 2 Span.cells w v5_2 x4 ∧ Ext noG w0 w ∧ spans_Intersect_j z z2 x2 x3 rec_ x4 = some r) ?_ ?_
    · refine WP.seq (WP.rb mixed [[], [0], [], [2], [1, 3]] [[8], [], [8], [], []] [(46, .pointer (some ((⟨b8_, 0, none⟩ : Addr).add 0))), (47, .int .i64 (max y.From y2.From)), (48, .pointer (some ((⟨b8_, 0, none⟩ : Addr).add 1))), (49, .int .i64 (min y3.To y4.To)), (50, .bool (decide (max y.From y2.From < min y3.To y4.To)))] (by kernel_rfl) ⟨fun ρz wz hE hA ⟨e8, _⟩ _ => core_val rfl rfl (o_fieldAddr (e8.trans h8) (fa_31_0 _ _)),
 fun ρz wz hE hA _ ⟨u0, _⟩ => core_val rfl rfl (o_load u0 (run_load1 (lr_3 _ _) (CA.sub ((Hb_b8_.exn (hA rfl)).ca) 0 1))),
 fun ρz wz hE hA ⟨e8, _⟩ _ => core_val rfl rfl (o_fieldAddr (e8.trans h8) (fa_31_1 _ _)),
 fun ρz wz hE hA _ ⟨u2, _⟩ => core_val rfl rfl (o_load u2 (run_load1 (lr_3 _ _) (CA.sub ((Hb_b8_.exn (hA rfl)).ca) 1 1))),
 fun ρz wz hE hA _ ⟨u1, u3, _⟩ => core_val rfl rfl (o_lss u1 u3 rfl), trivial⟩ ?_)
      intro ρ12 w12 hN hf hr
      have h50 := hv hf 4 rfl rfl
      obtain ⟨h0, h1, h5, h6, h7, h8⟩ := k6 hr h0 h1 h5 h6 h7 h8 rfl
      have Oo_O5 := O5
      have Hb_b8_n := Hb_b8_.exn hN
      have Hf0 := Hf0.exn hN
      have Hf1 := Hf1.exn hN
      have hW := hW.trans hN
      have O5 := Oo_O5.exn hN
      have Hb_b8_ := Hb_b8_n
      refine WP.cond rfl h50 (fun hb => ?_) (fun hb => ?_)
      · have hF := (if_pos hb).symm.trans hF
        obtain ⟨l, hl, hF⟩ := obind hF
        refine WP.region mixed [[], [], [1], [0, 1, 2], [0, 3]] [[], [], [1], [0, 2], [3]] [[5], [8], [], [], []] [3] [] [val 51 (v5_), val 52 (Span.val (⟨max y.From y2.From, min y3.To y4.To⟩ : Span)), (53, fun u wz => ∃ b, u = .slice (some ⟨b, 0, none⟩) 1 1 ∧ w12.heap.size ≤ b ∧ Mb wz b 31 (([(⟨max y.From y2.From, min y3.To y4.To⟩ : Span)]).flatMap Span.cells)), (54, fun u wz => Own w0.heap.size 31 2 Span.cells wz u l ∧ ∀ b, u.ownBlock = some b → (v5_.ownBlock = some b ∨ w12.heap.size ≤ b)), (5, fun u wz => Own w0.heap.size 31 2 Span.cells wz u l ∧ ∀ b, u.ownBlock = some b → (v5_.ownBlock = some b ∨ w12.heap.size ≤ b))] (fun b => Value.ownBlock v5_ = some b) (by kernel_rfl) ⟨sV, sV, fun _ _ _ hE ⟨b, hz, hs, hM⟩ => ⟨b, hz, hs, hM.ext hE (fun hg => absurd (O5.lt hg).2 (Nat.not_lt.2 hs))⟩, fun _ _ _ hE ⟨hO, hf⟩ => ⟨hO.exn hE, hf⟩, fun _ _ _ hE ⟨hO, hf⟩ => ⟨hO.exn hE, hf⟩, trivial⟩ ⟨mE rfl rfl h5,
 fun ρz wz hE hA ⟨e8, _⟩ _ => core_val rfl rfl (o_load (e8.trans h8) (run_loadN (cs := (Span.cells (⟨max y.From y2.From, min y3.To y4.To⟩ : Span))) (lr_31 _ _) rfl ((Hb_b8_.exn (hA rfl)).ca))),
 fun ρz wz hE hA _ ⟨u1, _⟩ => core_slice rfl rfl hE (o_buildSlice (build_parts1 u1) (bs_32_1 _ _)),
 fun ρz wz hE hA _ ⟨u0, ⟨bz2, hz2, hge2, hM2⟩, _⟩ => core_append (n := 2) (cells := Span.cells) (B := w0.heap.size) (w0 := w12) rfl rfl (fun b hb => hb) u0 hz2 (fun _ => rfl) one_31 si_32 se_31 (by decide) (by decide) (O5.exn (hA rfl)) ⟨_, (Mb.rep (n := 2) (cells := Span.cells) (hn := fun _ => rfl) (G := noG) hM2 rfl (Nat.le_of_ble_eq_true rfl) (fun h => h))⟩ hl (Nat.le_trans hW.size hE.size) hE.size (fun v1 w1 h1 h2 => ⟨h1, h2⟩),
 fun ρz wz hE hA _ ⟨⟨hO3, hfr3⟩, _⟩ => core_copy rfl rfl (o_assign rfl) ⟨hO3, hfr3⟩, trivial⟩ ?_
        intro ρ13 w13 hE hN hf hr
        obtain ⟨v5_3, h5⟩ : ∃ v, ρ13 5 = v := ⟨_, rfl⟩
        have hq5 : (fun u wz => Own w0.heap.size 31 2 Span.cells wz u l ∧ ∀ b, u.ownBlock = some b → (v5_.ownBlock = some b ∨ w12.heap.size ≤ b)) (ρ13 5) w13 := hf 4 rfl
        rw [h5] at hq5
        obtain ⟨hq5, hfr5⟩ := hq5
        obtain ⟨h0, h1, h6, h7⟩ := k4 hr h0 h1 h6 h7 rfl
        have Oo_O5 := O5
        have Hf0 : RepSl Span.R (gL [ownG v5_3]) w13 v0_ z := Hf0.mv hE (fun _ h => .inl (.inl h)) (fun b h => h.elim (fun h => (hfr5 _ h).elim (fun h => .inl (by have h := h; exact (.inl h))) (fun h => .inr h)) (fun h => h.elim))
        have Hf1 : RepSl Span.R (gL [ownG v5_3]) w13 v1_ z2 := Hf1.mv hE (fun _ h => .inl (.inl h)) (fun b h => h.elim (fun h => (hfr5 _ h).elim (fun h => .inl (by have h := h; exact (.inl h))) (fun h => .inr h)) (fun h => h.elim))
        have hW := Ext.own hW hE (fun b hb => (Oo_O5.lt hb).1)
        have O5 := hq5
        exact ⟨l, v5_3, h0, h1, h5, h6, h7, Hf0, Hf1, O5, hW, hF⟩
      have hF := (if_neg (Bool.eq_false_iff.1 hb)).symm.trans hF
      refine WP.skip ?_
      exact ⟨x, v5_, h0, h1, h5, h6, h7, Hf0, Hf1, O5, hW, hF⟩
    rintro ρ8 w8 ⟨x4, v5_2, h0, h1, h5, h6, h7, Hf0, Hf1, O5, hW, hF⟩
    rw [spans_Intersect_j] at hF
    refine WP.seq ?_
    obtain ⟨y5, hy5, hF⟩ := obind hF
    obtain ⟨ay5, cy5, hvy5, hiy5, hAy5⟩ := RepSl.getF Hf0 hy5
    obtain ⟨y6, hy6, hF⟩ := obind hF
    obtain ⟨ay6, cy6, hvy6, hiy6, hAy6⟩ := RepSl.getF Hf1 hy6
    refine WP.rb mixed [[], [], [0, 1], [2], [3], [], [], [5, 6], [7], [8], [4, 9]] [[0], [6], [], [], [], [1], [7], [], [], [], []] [(55, v0_), (56, .int .i64 x2), (57, .pointer (some (ay5.add (Int.toNat x2 * 2)))), (58, .pointer (some ((ay5.add (Int.toNat x2 * 2)).add 1))), (59, .int .i64 y5.To), (60, v1_), (61, .int .i64 x3), (62, .pointer (some (ay6.add (Int.toNat x3 * 2)))), (63, .pointer (some ((ay6.add (Int.toNat x3 * 2)).add 1))), (64, .int .i64 y6.To), (65, .bool (decide (y5.To < y6.To)))] (by kernel_rfl) ⟨mE rfl rfl h0,
 mE rfl rfl h6,
 fun ρz wz hE hA _ ⟨u0, u1, _⟩ => core_val rfl rfl (o_indexAddr (u0.trans hvy5) u1 (ia_32 hiy5)),
 fun ρz wz hE hA _ ⟨u2, _⟩ => core_val rfl rfl (o_fieldAddr u2 (fa_31_1 _ _)),
 fun ρz wz hE hA _ ⟨u3, _⟩ => core_val rfl rfl (o_load u3 (run_load1 (lr_3 _ _) (CA.sub ((hAy5.exn (hA rfl)).ca) 1 1))),
 mE rfl rfl h1,
 mE rfl rfl h7,
 fun ρz wz hE hA _ ⟨u5, u6, _⟩ => core_val rfl rfl (o_indexAddr (u5.trans hvy6) u6 (ia_32 hiy6)),
 fun ρz wz hE hA _ ⟨u7, _⟩ => core_val rfl rfl (o_fieldAddr u7 (fa_31_1 _ _)),
 fun ρz wz hE hA _ ⟨u8, _⟩ => core_val rfl rfl (o_load u8 (run_load1 (lr_3 _ _) (CA.sub ((hAy6.exn (hA rfl)).ca) 1 1))),
 fun ρz wz hE hA _ ⟨u4, u9, _⟩ => core_val rfl rfl (o_lss u4 u9 rfl), trivial⟩ ?_
    intro ρ9 w9 hN hf hr
    have h65 := hv hf 10 rfl rfl
    obtain ⟨h0, h1, h5, h6, h7⟩ := k5 hr h0 h1 h5 h6 h7 rfl
    have Oo_O5 := O5
    have Hf0 := Hf0.exn hN
    have Hf1 := Hf1.exn hN
    have hW := hW.trans hN
    have O5 := Oo_O5.exn hN
    refine WP.cond rfl h65 (fun hb => ?_) (fun hb => ?_)
    · have hF := (if_pos hb).symm.trans hF
      refine WP.rv mixed [[], [0], [0, 1]] [[], [0], [1]] [[6], [], []] [(66, .int .i64 x2), (67, .int .i64 (i64 (x2 + 1))), (6, .int .i64 (i64 (x2 + 1)))] (by kernel_rfl) ⟨mE rfl rfl h6,
 fun ρz wz hE hA _ ⟨u0, _⟩ => core_val rfl rfl (o_add u0 rfl rfl),
 aU rfl rfl rfl, trivial⟩ ?_
      intro ρ10 w10 hN hf hr
      have h6 := hv hf 2 rfl rfl
      obtain ⟨h0, h1, h5, h7⟩ := k4 hr h0 h1 h5 h7 rfl
      have Oo_O5 := O5
      have Hf0 := Hf0.exn hN
      have Hf1 := Hf1.exn hN
      have hW := hW.trans hN
      have O5 := Oo_O5.exn hN
      exact ⟨x4, i64 (x2 + 1), x3, v5_2, h0, h1, h5, h6, h7, Hf0, Hf1, O5, hW, (by first | exact hF | (rw [hrec_]; exact hF))⟩
    have hF := (if_neg (Bool.eq_false_iff.1 hb)).symm.trans hF
    refine WP.rv mixed [[], [0], [0, 1]] [[], [0], [1]] [[7], [], []] [(68, .int .i64 x3), (69, .int .i64 (i64 (x3 + 1))), (7, .int .i64 (i64 (x3 + 1)))] (by kernel_rfl) ⟨mE rfl rfl h7,
 fun ρz wz hE hA _ ⟨u0, _⟩ => core_val rfl rfl (o_add u0 rfl rfl),
 aU rfl rfl rfl, trivial⟩ ?_
    intro ρ11 w11 hN hf hr
    have h7 := hv hf 2 rfl rfl
    obtain ⟨h0, h1, h5, h6⟩ := k4 hr h0 h1 h5 h6 rfl
    have Oo_O5 := O5
    have Hf0 := Hf0.exn hN
    have Hf1 := Hf1.exn hN
    have hW := hW.trans hN
    have O5 := Oo_O5.exn hN
    exact ⟨x4, x2, i64 (x3 + 1), v5_2, h0, h1, h5, h6, h7, Hf0, Hf1, O5, hW, (by first | exact hF | (rw [hrec_]; exact hF))⟩
  have hF := (if_neg (Bool.eq_false_iff.1 hb)).symm.trans hF
  refine WP.exit (thenQ_exit (thenQ_exit (blockQ_hit (WP.seq (WP.rb mixed [[], [0]] [[5], []] [(70, v5_), (4, v5_)] (by kernel_rfl) ⟨mE rfl rfl h5,
 aU rfl rfl rfl, trivial⟩ ?_)))))
  intro ρ14 w14 hN hf hr
  have h4 := hv hf 1 rfl rfl
  have Oo_O5 := O5
  have hW := hW.trans hN
  have O4 := Oo_O5.exn hN
  refine WP.ret ?_
  show retQ Try.prog 71 Try.f47 (fun v w1 => Own w0.heap.size 31 2 Span.cells w1 v r ∧ Ext noG w0 w1) .ret ρ14 w14
  obtain rfl := Option.some.inj hF
  exact res1 rfl (by decide) h4 ⟨O4, hW⟩

set_option maxHeartbeats 4000000 in
theorem spans_Clip_ok {w0 : World} (l_ : List Span) (s_ : Span) {v_l_ : Value} (H_l_ : RepSl Span.R noG w0 v_l_ l_) {r : (List Span)} (hF : spans_Clip l_ s_ = some r) :
    Calls Try.prog 33 #[v_l_, Span.val s_] w0 fun e w1 => ∃ v, e = .returned v ∧ Ext noG w0 w1 ∧ Own w0.heap.size 31 2 Span.cells w1 v r := by
  refine (Calls.start (P := Try.prog) (args := [v_l_, Span.val s_]) (R := fun v w1 => Own w0.heap.size 31 2 Span.cells w1 v r ∧ Ext noG w0 w1) (n := 9) (w := w0) Try.func33 rfl rfl (Nat.le_of_ble_eq_true rfl) (fun ρ hargs => ?_)).mono (fun e w1 ⟨v, he, hv, hE⟩ => ⟨v, he, hE, hv⟩)
  have h0 := hargs 0 _ rfl
  have h1 := hargs 1 _ rfl
  have hW := Ext.refl noG w0
  obtain ⟨_, _, hs_H_l_, _, _⟩ := RepSl.shape H_l_
  have H_l_ := H_l_.start
  rw [spans_Clip] at hF
  refine WP.seq (WP.rg mixed [[], []] [[], []] [[1], []] [(3, fun u wz => ∃ b, u = .pointer (some ⟨b, 0, none⟩) ∧ w0.heap.size ≤ b ∧ Mb wz b 31 (Span.cells s_)), val 4 (.slice none 0 0)] (by kernel_rfl) ⟨fun _ _ _ hE ⟨b, hb, hs, hM⟩ => ⟨b, hb, hs, hM.exn hE⟩, sV, trivial⟩ ⟨fun ρz wz hE hA ⟨e1, _⟩ _ => core_new rfl rfl hE (o_box (e1.trans h1) (bx_31 _ _)),
 aC rfl rfl (fun _ => rfl), trivial⟩ ?_)
  intro ρ1 w1 hN hf hr
  obtain ⟨b3_, h3, hge_b3_, Hb_b3_⟩ := hf 0 rfl
  have h0 := (hr 0 rfl).trans h0
  have H_l_ := H_l_.exn hN
  have hB_b3_ : w0.heap.size ≤ b3_ := Nat.le_trans hW.size hge_b3_
  have hW := hW.trans hN
  refine WP.seq ?_
  obtain ⟨z, hz, hF⟩ := obind hF
  refine WP.rg mixed [[], [], [1], [0, 2], [3]] [[], [], [1], [0, 2], [3]] [[0], [3], [], [], []] [val 5 (v_l_), val 6 (Span.val s_), (7, fun u wz => ∃ b, u = .slice (some ⟨b, 0, none⟩) 1 1 ∧ w1.heap.size ≤ b ∧ Mb wz b 31 (([s_]).flatMap Span.cells)), (8, fun u wz => Own w0.heap.size 31 2 Span.cells wz u z ∧ ∀ b, u.ownBlock = some b → w1.heap.size ≤ b), (4, fun u wz => Own w0.heap.size 31 2 Span.cells wz u z ∧ ∀ b, u.ownBlock = some b → w1.heap.size ≤ b)] (by kernel_rfl) ⟨sV, sV, fun _ _ _ hE ⟨b, hz, hs, hM⟩ => ⟨b, hz, hs, hM.exn hE⟩, fun _ _ _ hE ⟨hO, hf⟩ => ⟨hO.exn hE, hf⟩, fun _ _ _ hE ⟨hO, hf⟩ => ⟨hO.exn hE, hf⟩, trivial⟩ ⟨mE rfl rfl h0,
 fun ρz wz hE hA ⟨e3, _⟩ _ => core_val rfl rfl (o_load (e3.trans h3) (run_loadN (cs := (Span.cells s_)) (lr_31 _ _) rfl ((Hb_b3_.exn (hA rfl)).ca))),
 fun ρz wz hE hA _ ⟨u1, _⟩ => core_slice rfl rfl hE (o_buildSlice (build_parts1 u1) (bs_32_1 _ _)),
 fun ρz wz hE hA _ ⟨u0, ⟨bz2, hz2, hge2, hM2⟩, _⟩ => core_callR rfl (call_args2 u0 hz2) cf_47 ((spans_Intersect_ok  _ _ (H_l_.exn (hA rfl)).no (Mb.rep (n := 2) (cells := Span.cells) (hn := fun _ => rfl) (G := noG) hM2 rfl (Nat.le_of_ble_eq_true rfl) (fun h => h)).no hz).mono (fun e w1 ⟨v, he, hE1, hO⟩ => ⟨v, he, hE1, hO.base (Nat.le_trans hW.size hE.size), fun b hb => Nat.le_trans hE.size (hO.lt hb).1⟩)),
 fun ρz wz hE hA _ ⟨⟨hO3, hfr3⟩, _⟩ => core_copy rfl rfl (o_assign rfl) ⟨hO3, hfr3⟩, trivial⟩ ?_
  intro ρ2 w2 hN hf hr
  obtain ⟨v4_, h4⟩ : ∃ v, ρ2 4 = v := ⟨_, rfl⟩
  have hq4 : (fun u wz => Own w0.heap.size 31 2 Span.cells wz u z ∧ ∀ b, u.ownBlock = some b → w1.heap.size ≤ b) (ρ2 4) w2 := hf 4 rfl
  rw [h4] at hq4
  obtain ⟨hq4, hfr4⟩ := hq4
  have hW := hW.trans hN
  have O4 := hq4
  refine WP.ret ?_
  show retQ Try.prog 9 Try.f33 (fun v w1 => Own w0.heap.size 31 2 Span.cells w1 v r ∧ Ext noG w0 w1) .ret ρ2 w2
  obtain rfl := Option.some.inj hF
  exact res1 rfl (by decide) h4 ⟨O4, hW⟩

set_option maxHeartbeats 4000000 in
theorem career_Spans_ok {w0 : World} (l_ : List api_Fact) (kind_ : Int) (state_ : Int) {v_l_ : Value} (H_l_ : RepSl api_Fact.R noG w0 v_l_ l_) {r : (List Span)} (hF : career_Spans l_ kind_ state_ = some r) :
    Calls Try.prog 29 #[v_l_, .int .i64 kind_, .int .i64 state_] w0 fun e w1 => ∃ v, e = .returned v ∧ Ext noG w0 w1 ∧ Own w0.heap.size 31 2 Span.cells w1 v r := by
  refine (Calls.start (P := Try.prog) (args := [v_l_, .int .i64 kind_, .int .i64 state_]) (R := fun v w1 => Own w0.heap.size 31 2 Span.cells w1 v r ∧ Ext noG w0 w1) (n := 40) (w := w0) Try.func29 rfl rfl (Nat.le_of_ble_eq_true rfl) (fun ρ hargs => ?_)).mono (fun e w1 ⟨v, he, hv, hE⟩ => ⟨v, he, hE, hv⟩)
  have h0 := hargs 0 _ rfl
  have h1 := hargs 1 _ rfl
  have h2 := hargs 2 _ rfl
  have hW := Ext.refl noG w0
  obtain ⟨_, _, hs_H_l_, _, _⟩ := RepSl.shape H_l_
  have H_l_ := H_l_.start
  rw [career_Spans] at hF
  refine WP.seq (WP.rb mixed [[]] [[]] [(6, .slice none 0 0)] (by kernel_rfl) ⟨aC rfl rfl (fun _ => rfl), trivial⟩ ?_)
  intro ρ1 w1 hN hf hr
  obtain ⟨h0, h1, h2⟩ := k3 hr h0 h1 h2 rfl
  have H_l_ := H_l_.exn hN
  have hW := hW.trans hN
  refine WP.seq (WP.rb mixed [[]] [[]] [(7, .slice none 0 0)] (by kernel_rfl) ⟨aC rfl rfl (fun _ => rfl), trivial⟩ ?_)
  intro ρ2 w2 hN hf hr
  have h7 : ρ2 7 = .slice none 0 0 := hf 0 rfl
  have O7 : Own w0.heap.size 31 2 Span.cells w2 (.slice none 0 0) [] := Own.nil _ _ _ _ _
  obtain ⟨h0, h1, h2⟩ := k3 hr h0 h1 h2 rfl
  have H_l_ := H_l_.exn hN
  have hW := hW.trans hN
  have O7 : Own w0.heap.size 31 2 Span.cells w2 (.slice none 0 0) [] := Own.nil _ _ _ _ _
  refine WP.seq (WP.seq (WP.rb mixed [[], [0], []] [[0], [], []] [(10, v_l_), (11, .int .i64 (l_.length : Int)), (12, .int .i64 0)] (by kernel_rfl) ⟨mE rfl rfl h0,
 fun ρz wz hE hA _ ⟨u0, _⟩ => core_val rfl rfl (o_len (u0.trans hs_H_l_) len_24),
 mC rfl rfl (fun _ => rfl), trivial⟩ ?_))
  intro ρ3 w3 hN hf hr
  have h10 := hv hf 0 rfl rfl
  have h11 := hv hf 1 rfl rfl
  have h12 := hv hf 2 rfl rfl
  obtain ⟨h0, h1, h2, h7⟩ := k4 hr h0 h1 h2 h7 rfl
  have Oo_O7 := O7
  have H_l_ := H_l_.exn hN
  have hW := hW.trans hN
  have O7 : Own w0.heap.size 31 2 Span.cells w3 (.slice none 0 0) [] := Own.nil _ _ _ _ _
  refine WP.block (WP.loop (fun k_ ρ w => ∃ out_ : List Span, ∃ x : Int, ∃ v7_ : Value, ρ 0 = v_l_ ∧ ρ 1 = .int .i64 kind_ ∧ ρ 2 = .int .i64 state_ ∧ ρ 7 = v7_ ∧ ρ 10 = v_l_ ∧ ρ 11 = .int .i64 (l_.length : Int) ∧ ρ 12 = .int .i64 x ∧ RepSl api_Fact.R (gfr noG w0) w v_l_ l_ ∧ Own w0.heap.size 31 2 Span.cells w v7_ out_ ∧ Ext noG w0 w ∧ loopC k_ (career_Spans_l l_ kind_ state_) (out_, x) = some r) FU ⟨[], 0, .slice none 0 0, h0, h1, h2, h7, h10, h11, h12, H_l_, O7, hW, hF⟩ (fun _ _ h => by obtain ⟨_, _, _, _, _, _, _, _, _, _, _, _, _, h⟩ := h; cases h) ?_)
  rintro k_ ρ4 w4 ⟨out_, x, v7_, h0, h1, h2, h7, h10, h11, h12, H_l_, O7, hW, hF⟩
  have hF : career_Spans_l l_ kind_ state_ (loopC k_ (career_Spans_l l_ kind_ state_)) (out_, x) = some r := hF
  generalize hrec_ : loopC k_ (career_Spans_l l_ kind_ state_) = rec_ at hF
  rw [career_Spans_l] at hF
  refine WP.seq (WP.rb mixed [[]] [[12, 11]] [(13, .bool (decide (x < (l_.length : Int))))] (by kernel_rfl) ⟨fun ρz wz hE hA ⟨e12, e11, _⟩ _ => core_val rfl rfl (o_lss (e12.trans h12) (e11.trans h11) rfl), trivial⟩ ?_)
  intro ρ5 w5 hN hf hr
  have h13 := hv hf 0 rfl rfl
  obtain ⟨h0, h1, h2, h7, h10, h11⟩ := k6 hr h0 h1 h2 h7 h10 h11 rfl
  have h12 := (hr 12 rfl).trans h12
  have Oo_O7 := O7
  have H_l_ := H_l_.exn hN
  have hW := hW.trans hN
  have O7 := Oo_O7.exn hN
  refine WP.seq (WP.cond rfl h13 (fun hb => ?_) (fun hb => ?_))
  · have hF := (if_pos hb).symm.trans hF
    refine WP.skip (WP.seqJ (fun ρ w => ∃ out_2 : List Span, ∃ v7_2 : Value, ρ 0 = v_l_ ∧ ρ 1 = .int .i64 kind_ ∧ ρ 2 = .int .i64 state_ ∧ ρ 7 = v7_2 ∧ ρ 10 = v_l_ ∧ ρ 11 = .int .i64 (l_.length : Int) ∧ ρ 12 = .int .i64 x ∧ RepSl api_Fact.R (gfr noG w0) w v_l_ l_ ∧ Own w0.heap.size 31 2 Span.cells w v7_2 out_2 ∧ Ext noG w0 w ∧ career_Spans_j x rec_ out_2 = some r) ?_ ?_)
    · refine WP.block (WP.seq ?_)
      obtain ⟨y, hy, hF⟩ := obind hF
      obtain ⟨ay, cy, hvy, hiy, hAy⟩ := RepSl.getF H_l_ hy
      refine WP.region mixed [[], [0], [], [1, 2]] [[], [0], [], [1, 2]] [[10, 12], [], [], []] [3] [(2, 3)] [val 14 (.pointer (some (ay.add (Int.toNat x * 14)))), val 15 (api_Fact.val y), (9, fun u wz => ∃ b, u = .pointer (some ⟨b, 0, none⟩) ∧ w5.heap.size ≤ b ∧ Mb wz b 49 (api_Fact.cells (⟨0, 0, 0, false, 0, 0, 0, (⟨0, 0⟩ : Span), 0, 0, 0, 0, 0⟩ : api_Fact))), (9, fun u wz => ∃ b, u = .pointer (some ⟨b, 0, none⟩) ∧ w5.heap.size ≤ b ∧ Mb wz b 49 (api_Fact.cells y))] (fun b => w5.heap.size ≤ b) (by kernel_rfl) ⟨sV, sV, fun _ _ _ hE ⟨b, hb, hs, hM⟩ => ⟨b, hb, hs, hM.exn hE⟩, fun _ _ _ hE ⟨b, hb, hs, hM⟩ => ⟨b, hb, hs, hM.exn hE⟩, trivial⟩ ⟨fun ρz wz hE hA ⟨e10, e12, _⟩ _ => core_val rfl rfl (o_indexAddr ((e10.trans h10).trans hvy) (e12.trans h12) (ia_24 hiy)),
 fun ρz wz hE hA _ ⟨u0, _⟩ => core_val rfl rfl (o_load u0 (run_loadN (cs := (api_Fact.cells y)) (lr_49 _ _) rfl ((hAy.exn hE.fresh).ca))),
 fun ρz wz hE hA _ _ => core_new rfl rfl hE (o_alloc (al_49 _)),
 fun ρz wz hE hA _ ⟨u1, u2, _⟩ => core_storeNew rfl rfl rfl rfl u1 u2 (fun a w => st_49 _ a w) rfl (one_49 _), trivial⟩ ?_
      intro ρ8 w8 hE hN hf hr
      have hN := hE.fresh
      obtain ⟨b9_, h9, hge_b9_, Hb_b9_⟩ := hf 3 rfl
      obtain ⟨h0, h1, h2, h7, h10, h11⟩ := k6 hr h0 h1 h2 h7 h10 h11 rfl
      have h12 := (hr 12 rfl).trans h12
      have Oo_O7 := O7
      have H_l_ := H_l_.exn hN
      have hB_b9_ : w0.heap.size ≤ b9_ := Nat.le_trans hW.size hge_b9_
      have hW := hW.trans hN
      have O7 := Oo_O7.exn hN
      have hnb_O7_b9_ : Value.ownBlock v7_ ≠ some b9_ := fun h => absurd (Oo_O7.lt h).2 (Nat.not_lt.2 hge_b9_)
      refine WP.seq ?_
      obtain ⟨z, hz, hF⟩ := obind hF
      refine WP.rb mixed [[], [0], [1], [2], [2, 3], [2], [2, 4, 5], [2, 6], [7], [8], [8, 9], [8], [8, 10, 11], [8, 12]] [[9], [], [], [9], [], [1], [], [], [], [9], [], [2], [], []] [(16, api_Fact.val y), (17, .bool z), (18, .bool z), (19, gv (z) (.pointer (some ((⟨b9_, 0, none⟩ : Addr).add 5)))), (20, gv (z) (.int .i64 y.Kind)), (21, gv (z) (.int .i64 kind_)), (22, gv (z) (.bool (y.Kind == kind_))), (23, .bool (z && (y.Kind == kind_))), (24, .bool (z && (y.Kind == kind_))), (25, gv ((z && (y.Kind == kind_))) (.pointer (some ((⟨b9_, 0, none⟩ : Addr).add 6)))), (26, gv ((z && (y.Kind == kind_))) (.int .i64 y.State)), (27, gv ((z && (y.Kind == kind_))) (.int .i64 state_)), (28, gv ((z && (y.Kind == kind_))) (.bool (y.State == state_))), (29, .bool ((z && (y.Kind == kind_)) && (y.State == state_)))] (by kernel_rfl) ⟨fun ρz wz hE hA ⟨e9, _⟩ _ => core_val rfl rfl (o_load (e9.trans h9) (run_loadN (cs := (api_Fact.cells y)) (lr_49 _ _) rfl ((Hb_b9_.exn (hA rfl)).ca))),
 fun ρz wz hE hA _ ⟨u0, _⟩ => core_call rfl (call_args1 u0) cf_40 (career_current_ok  _  hz),
 mU rfl rfl rfl,
 fun ρz wz hE hA ⟨e9, _⟩ ⟨u2, _⟩ => gIf rfl rfl (yT rfl u2) fun gc F hF => core_val rfl hF (o_fieldAddr (e9.trans h9) (fa_49_5 _ _)),
 fun ρz wz hE hA _ ⟨u2, u3, _⟩ => gIf rfl rfl (yT rfl u2) fun gc F hF => core_val rfl hF (o_load (gt gc u3) (run_load1 (lr_3 _ _) (CA.sub ((Hb_b9_.exn (hA rfl)).ca) 5 1))),
 fun ρz wz hE hA ⟨e1, _⟩ ⟨u2, _⟩ => gIf rfl rfl (yT rfl u2) fun gc F hF => core_val rfl hF (o_move (e1.trans h1)),
 fun ρz wz hE hA _ ⟨u2, u4, u5, _⟩ => gIf rfl rfl (yT rfl u2) fun gc F hF => core_val rfl hF (o_eql (gt gc u4) (gt gc u5) rfl),
 fun ρz wz hE hA _ ⟨u2, u6, _⟩ => core_val rfl rfl (o_pick_and u2 u6 rfl),
 mU rfl rfl rfl,
 fun ρz wz hE hA ⟨e9, _⟩ ⟨u8, _⟩ => gIf rfl rfl (yT rfl u8) fun gc F hF => core_val rfl hF (o_fieldAddr (e9.trans h9) (fa_49_6 _ _)),
 fun ρz wz hE hA _ ⟨u8, u9, _⟩ => gIf rfl rfl (yT rfl u8) fun gc F hF => core_val rfl hF (o_load (gt gc u9) (run_load1 (lr_3 _ _) (CA.sub ((Hb_b9_.exn (hA rfl)).ca) 6 1))),
 fun ρz wz hE hA ⟨e2, _⟩ ⟨u8, _⟩ => gIf rfl rfl (yT rfl u8) fun gc F hF => core_val rfl hF (o_move (e2.trans h2)),
 fun ρz wz hE hA _ ⟨u8, u10, u11, _⟩ => gIf rfl rfl (yT rfl u8) fun gc F hF => core_val rfl hF (o_eql (gt gc u10) (gt gc u11) rfl),
 fun ρz wz hE hA _ ⟨u8, u12, _⟩ => core_val rfl rfl (o_pick_and u8 u12 rfl), trivial⟩ ?_
      intro ρ9 w9 hN hf hr
      have h29 := hv hf 13 rfl rfl
      obtain ⟨h0, h1, h2, h7, h10, h11⟩ := k6 hr h0 h1 h2 h7 h10 h11 rfl
      obtain ⟨h12, h9⟩ := k2 hr h12 h9 rfl
      have Oo_O7 := O7
      have Hb_b9_n := Hb_b9_.exn hN
      have H_l_ := H_l_.exn hN
      have hW := hW.trans hN
      have O7 := Oo_O7.exn hN
      have Hb_b9_ := Hb_b9_n
      refine WP.cond rfl h29 (fun hb => ?_) (fun hb => ?_)
      · have hF := (if_pos hb).symm.trans hF
        obtain ⟨l, hl, hF⟩ := obind hF
        refine WP.region mixed [[], [], [1], [2], [0, 2, 3], [0, 4]] [[], [], [1], [2], [0, 3], [4]] [[7], [9], [], [], [], []] [4] [] [val 30 (v7_), val 31 (.pointer (some ((⟨b9_, 0, none⟩ : Addr).add 7))), val 32 (Span.val y.Span), (33, fun u wz => ∃ b, u = .slice (some ⟨b, 0, none⟩) 1 1 ∧ w9.heap.size ≤ b ∧ Mb wz b 31 (([y.Span]).flatMap Span.cells)), (34, fun u wz => Own w0.heap.size 31 2 Span.cells wz u l ∧ ∀ b, u.ownBlock = some b → (v7_.ownBlock = some b ∨ w9.heap.size ≤ b)), (7, fun u wz => Own w0.heap.size 31 2 Span.cells wz u l ∧ ∀ b, u.ownBlock = some b → (v7_.ownBlock = some b ∨ w9.heap.size ≤ b))] (fun b => Value.ownBlock v7_ = some b) (by kernel_rfl) ⟨sV, sV, sV, fun _ _ _ hE ⟨b, hz, hs, hM⟩ => ⟨b, hz, hs, hM.ext hE (fun hg => absurd (O7.lt hg).2 (Nat.not_lt.2 hs))⟩, fun _ _ _ hE ⟨hO, hf⟩ => ⟨hO.exn hE, hf⟩, fun _ _ _ hE ⟨hO, hf⟩ => ⟨hO.exn hE, hf⟩, trivial⟩ ⟨mE rfl rfl h7,
 fun ρz wz hE hA ⟨e9, _⟩ _ => core_val rfl rfl (o_fieldAddr (e9.trans h9) (fa_49_7 _ _)),
 fun ρz wz hE hA _ ⟨u1, _⟩ => core_val rfl rfl (o_load u1 (run_loadN (cs := (Span.cells y.Span)) (lr_31 _ _) rfl (CA.sub ((Hb_b9_.exn (hA rfl)).ca) 7 2))),
 fun ρz wz hE hA _ ⟨u2, _⟩ => core_slice rfl rfl hE (o_buildSlice (build_parts1 u2) (bs_32_1 _ _)),
 fun ρz wz hE hA _ ⟨u0, ⟨bz3, hz3, hge3, hM3⟩, _⟩ => core_append (n := 2) (cells := Span.cells) (B := w0.heap.size) (w0 := w9) rfl rfl (fun b hb => hb) u0 hz3 (fun _ => rfl) one_31 si_32 se_31 (by decide) (by decide) (O7.exn (hA rfl)) ⟨_, (Mb.rep (n := 2) (cells := Span.cells) (hn := fun _ => rfl) (G := noG) hM3 rfl (Nat.le_of_ble_eq_true rfl) (fun h => h))⟩ hl (Nat.le_trans hW.size hE.size) hE.size (fun v1 w1 h1 h2 => ⟨h1, h2⟩),
 fun ρz wz hE hA _ ⟨⟨hO4, hfr4⟩, _⟩ => core_copy rfl rfl (o_assign rfl) ⟨hO4, hfr4⟩, trivial⟩ ?_
        intro ρ10 w10 hE hN hf hr
        obtain ⟨v7_3, h7⟩ : ∃ v, ρ10 7 = v := ⟨_, rfl⟩
        have hq7 : (fun u wz => Own w0.heap.size 31 2 Span.cells wz u l ∧ ∀ b, u.ownBlock = some b → (v7_.ownBlock = some b ∨ w9.heap.size ≤ b)) (ρ10 7) w10 := hf 5 rfl
        rw [h7] at hq7
        obtain ⟨hq7, hfr7⟩ := hq7
        obtain ⟨h0, h1, h2, h10, h11, h12⟩ := k6 hr h0 h1 h2 h10 h11 h12 rfl
        have Oo_O7 := O7
        have H_l_ := H_l_.over hE (fun b hb => (Oo_O7.lt hb).1)
        have hW := Ext.own hW hE (fun b hb => (Oo_O7.lt hb).1)
        have O7 := hq7
        exact ⟨l, v7_3, h0, h1, h2, h7, h10, h11, h12, H_l_, O7, hW, hF⟩
      have hF := (if_neg (Bool.eq_false_iff.1 hb)).symm.trans hF
      refine WP.skip ?_
      exact ⟨out_, v7_, h0, h1, h2, h7, h10, h11, h12, H_l_, O7, hW, hF⟩
    rintro ρ6 w6 ⟨out_2, v7_2, h0, h1, h2, h7, h10, h11, h12, H_l_, O7, hW, hF⟩
    rw [career_Spans_j] at hF
    refine WP.rb mixed [[], [0]] [[12], []] [(35, .int .i64 (i64 (x + 1))), (12, .int .i64 (i64 (x + 1)))] (by kernel_rfl) ⟨fun ρz wz hE hA ⟨e12, _⟩ _ => core_val rfl rfl (o_add (e12.trans h12) rfl rfl),
 mU rfl rfl rfl, trivial⟩ ?_
    intro ρ7 w7 hN hf hr
    have h12 := hv hf 1 rfl rfl
    obtain ⟨h0, h1, h2, h7, h10, h11⟩ := k6 hr h0 h1 h2 h7 h10 h11 rfl
    have Oo_O7 := O7
    have H_l_ := H_l_.exn hN
    have hW := hW.trans hN
    have O7 := Oo_O7.exn hN
    exact ⟨out_2, i64 (x + 1), v7_2, h0, h1, h2, h7, h10, h11, h12, H_l_, O7, hW, (by first | exact hF | (rw [hrec_]; exact hF))⟩
  have hF := (if_neg (Bool.eq_false_iff.1 hb)).symm.trans hF
  refine WP.exit (thenQ_exit (thenQ_exit (blockQ_hit (WP.seq ?_))))
  obtain ⟨z2, hz2, hF⟩ := obind hF
  obtain ⟨z3, hz3, hF⟩ := obind hF
  refine WP.rg mixed [[], [], [1], [0, 2], [3]] [[], [], [1], [0, 2], [3]] [[7], [0], [], [], []] [val 36 (v7_), val 37 (v_l_), val 38 (Span.val z2), (39, fun u wz => Own w0.heap.size 31 2 Span.cells wz u z3 ∧ ∀ b, u.ownBlock = some b → w5.heap.size ≤ b), (6, fun u wz => Own w0.heap.size 31 2 Span.cells wz u z3 ∧ ∀ b, u.ownBlock = some b → w5.heap.size ≤ b)] (by kernel_rfl) ⟨sV, sV, sV, fun _ _ _ hE ⟨hO, hf⟩ => ⟨hO.exn hE, hf⟩, fun _ _ _ hE ⟨hO, hf⟩ => ⟨hO.exn hE, hf⟩, trivial⟩ ⟨mE rfl rfl h7,
 mE rfl rfl h0,
 fun ρz wz hE hA _ ⟨u1, _⟩ => core_call rfl (call_args1 u1) cf_41 (career_Life_ok  _ (H_l_.exn (hA rfl)).no hz2),
 fun ρz wz hE hA _ ⟨u0, u2, _⟩ => core_callR rfl (call_args2 u0 u2) cf_33 ((spans_Clip_ok  _ _ ((O7.exn (hA rfl)).rep (hn := fun _ => rfl) (G := noG) (fun _ _ h => h)).no hz3).mono (fun e w1 ⟨v, he, hE1, hO⟩ => ⟨v, he, hE1, hO.base (Nat.le_trans hW.size hE.size), fun b hb => Nat.le_trans hE.size (hO.lt hb).1⟩)),
 fun ρz wz hE hA _ ⟨⟨hO3, hfr3⟩, _⟩ => core_copy rfl rfl (o_assign rfl) ⟨hO3, hfr3⟩, trivial⟩ ?_
  intro ρ11 w11 hN hf hr
  obtain ⟨v6_, h6⟩ : ∃ v, ρ11 6 = v := ⟨_, rfl⟩
  have hq6 : (fun u wz => Own w0.heap.size 31 2 Span.cells wz u z3 ∧ ∀ b, u.ownBlock = some b → w5.heap.size ≤ b) (ρ11 6) w11 := hf 4 rfl
  rw [h6] at hq6
  obtain ⟨hq6, hfr6⟩ := hq6
  have Oo_O7 := O7
  have hW := hW.trans hN
  have O6 := hq6
  refine WP.ret ?_
  show retQ Try.prog 40 Try.f29 (fun v w1 => Own w0.heap.size 31 2 Span.cells w1 v r ∧ Ext noG w0 w1) .ret ρ11 w11
  obtain rfl := Option.some.inj hF
  exact res1 rfl (by decide) h6 ⟨O6, hW⟩

set_option maxHeartbeats 4000000 in
theorem sickness_Sick_ok {w0 : World} (l_ : List api_Fact) {v_l_ : Value} (H_l_ : RepSl api_Fact.R noG w0 v_l_ l_) {r : (List Span)} (hF : sickness_Sick l_ = some r) :
    Calls Try.prog 13 #[v_l_] w0 fun e w1 => ∃ v, e = .returned v ∧ Ext noG w0 w1 ∧ Own w0.heap.size 31 2 Span.cells w1 v r := by
  refine (Calls.start (P := Try.prog) (args := [v_l_]) (R := fun v w1 => Own w0.heap.size 31 2 Span.cells w1 v r ∧ Ext noG w0 w1) (n := 16) (w := w0) Try.func13 rfl rfl (Nat.le_of_ble_eq_true rfl) (fun ρ hargs => ?_)).mono (fun e w1 ⟨v, he, hv, hE⟩ => ⟨v, he, hE, hv⟩)
  have h0 := hargs 0 _ rfl
  have hW := Ext.refl noG w0
  obtain ⟨_, _, hs_H_l_, _, _⟩ := RepSl.shape H_l_
  have H_l_ := H_l_.start
  rw [sickness_Sick] at hF
  refine WP.seq (WP.rb mixed [[]] [[]] [(2, .slice none 0 0)] (by kernel_rfl) ⟨aC rfl rfl (fun _ => rfl), trivial⟩ ?_)
  intro ρ1 w1 hN hf hr
  have h0 := (hr 0 rfl).trans h0
  have H_l_ := H_l_.exn hN
  have hW := hW.trans hN
  refine WP.seq (WP.rb mixed [[]] [[]] [(3, .slice none 0 0)] (by kernel_rfl) ⟨aC rfl rfl (fun _ => rfl), trivial⟩ ?_)
  intro ρ2 w2 hN hf hr
  have h3 : ρ2 3 = .slice none 0 0 := hf 0 rfl
  have O3 : Own w0.heap.size 31 2 Span.cells w2 (.slice none 0 0) [] := Own.nil _ _ _ _ _
  have h0 := (hr 0 rfl).trans h0
  have H_l_ := H_l_.exn hN
  have hW := hW.trans hN
  have O3 : Own w0.heap.size 31 2 Span.cells w2 (.slice none 0 0) [] := Own.nil _ _ _ _ _
  refine WP.seq (WP.seq (WP.rb mixed [[]] [[]] [(5, .int .i64 0)] (by kernel_rfl) ⟨mC rfl rfl (fun _ => rfl), trivial⟩ ?_))
  intro ρ3 w3 hN hf hr
  have h5 := hv hf 0 rfl rfl
  obtain ⟨h0, h3⟩ := k2 hr h0 h3 rfl
  have Oo_O3 := O3
  have H_l_ := H_l_.exn hN
  have hW := hW.trans hN
  have O3 : Own w0.heap.size 31 2 Span.cells w3 (.slice none 0 0) [] := Own.nil _ _ _ _ _
  refine WP.block (WP.loop (fun k_ ρ w => ∃ out_ : List Span, ∃ x : Int, ∃ v3_ : Value, ρ 0 = v_l_ ∧ ρ 3 = v3_ ∧ ρ 5 = .int .i64 x ∧ RepSl api_Fact.R (gfr noG w0) w v_l_ l_ ∧ Own w0.heap.size 31 2 Span.cells w v3_ out_ ∧ Ext noG w0 w ∧ loopC k_ (sickness_Sick_l l_) (out_, x) = some r) FU ⟨[], 0, .slice none 0 0, h0, h3, h5, H_l_, O3, hW, hF⟩ (fun _ _ h => by obtain ⟨_, _, _, _, _, _, _, _, _, h⟩ := h; cases h) ?_)
  rintro k_ ρ4 w4 ⟨out_, x, v3_, h0, h3, h5, H_l_, O3, hW, hF⟩
  have hF : sickness_Sick_l l_ (loopC k_ (sickness_Sick_l l_)) (out_, x) = some r := hF
  generalize hrec_ : loopC k_ (sickness_Sick_l l_) = rec_ at hF
  rw [sickness_Sick_l] at hF
  refine WP.seq (WP.rb mixed [[]] [[5]] [(6, .bool (decide (x < 6)))] (by kernel_rfl) ⟨fun ρz wz hE hA ⟨e5, _⟩ _ => core_val rfl rfl (o_lss (e5.trans h5) rfl rfl), trivial⟩ ?_)
  intro ρ5 w5 hN hf hr
  have h6 := hv hf 0 rfl rfl
  obtain ⟨h0, h3, h5⟩ := k3 hr h0 h3 h5 rfl
  have Oo_O3 := O3
  have H_l_ := H_l_.exn hN
  have hW := hW.trans hN
  have O3 := Oo_O3.exn hN
  refine WP.seq (WP.cond rfl h6 (fun hb => ?_) (fun hb => ?_))
  · have hF := (if_pos hb).symm.trans hF
    refine WP.skip (WP.seq (WP.block (WP.seq (WP.rb mixed [[], [0]] [[5], []] [(7, .int .i64 x), (4, .int .i64 x)] (by kernel_rfl) ⟨mE rfl rfl h5,
 aU rfl rfl rfl, trivial⟩ ?_))))
    intro ρ6 w6 hN hf hr
    have h4 := hv hf 1 rfl rfl
    obtain ⟨h0, h3, h5⟩ := k3 hr h0 h3 h5 rfl
    have Oo_O3 := O3
    have H_l_ := H_l_.exn hN
    have hW := hW.trans hN
    have O3 := Oo_O3.exn hN
    obtain ⟨z, hz, hF⟩ := obind hF
    obtain ⟨l, hl, hF⟩ := obind hF
    refine WP.region mixed [[], [], [], [1, 2], [0, 3], [0, 4]] [[], [], [], [1, 2], [0, 3], [4]] [[3], [0], [4], [], [], []] [4] [] [val 8 (v3_), val 9 (v_l_), val 10 (.int .i64 x), (11, fun u wz => Own w0.heap.size 31 2 Span.cells wz u z ∧ ∀ b, u.ownBlock = some b → w6.heap.size ≤ b), (12, fun u wz => Own w0.heap.size 31 2 Span.cells wz u l ∧ ∀ b, u.ownBlock = some b → (v3_.ownBlock = some b ∨ w6.heap.size ≤ b)), (3, fun u wz => Own w0.heap.size 31 2 Span.cells wz u l ∧ ∀ b, u.ownBlock = some b → (v3_.ownBlock = some b ∨ w6.heap.size ≤ b))] (fun b => Value.ownBlock v3_ = some b) (by kernel_rfl) ⟨sV, sV, sV, fun _ _ _ hE ⟨hO, hf⟩ => ⟨hO.ext hE (fun b hb hg => absurd (O3.lt hg).2 (Nat.not_lt.2 (hf b hb))), hf⟩, fun _ _ _ hE ⟨hO, hf⟩ => ⟨hO.exn hE, hf⟩, fun _ _ _ hE ⟨hO, hf⟩ => ⟨hO.exn hE, hf⟩, trivial⟩ ⟨mE rfl rfl h3,
 mE rfl rfl h0,
 mE rfl rfl h4,
 fun ρz wz hE hA _ ⟨u1, u2, _⟩ => core_callR rfl (call_args3 u1 rfl u2) cf_29 ((career_Spans_ok  _ _ _ (H_l_.exn (hA rfl)).no hz).mono (fun e w1 ⟨v, he, hE1, hO⟩ => ⟨v, he, hE1, hO.base (Nat.le_trans hW.size hE.size), fun b hb => Nat.le_trans hE.size (hO.lt hb).1⟩)),
 fun ρz wz hE hA _ ⟨u0, ⟨hO3, hfr3⟩, _⟩ => core_append (n := 2) (cells := Span.cells) (B := w0.heap.size) (w0 := w6) rfl rfl (fun b hb => hb) u0 rfl (fun _ => rfl) one_31 si_32 se_31 (by decide) (by decide) (O3.exn (hA rfl)) ⟨_, (hO3.rep (hn := fun _ => rfl) (G := noG) (fun _ _ h => h))⟩ hl (Nat.le_trans hW.size hE.size) hE.size (fun v1 w1 h1 h2 => ⟨h1, h2⟩),
 fun ρz wz hE hA _ ⟨⟨hO4, hfr4⟩, _⟩ => core_copy rfl rfl (o_assign rfl) ⟨hO4, hfr4⟩, trivial⟩ ?_
    intro ρ7 w7 hE hN hf hr
    obtain ⟨v3_2, h3⟩ : ∃ v, ρ7 3 = v := ⟨_, rfl⟩
    have hq3 : (fun u wz => Own w0.heap.size 31 2 Span.cells wz u l ∧ ∀ b, u.ownBlock = some b → (v3_.ownBlock = some b ∨ w6.heap.size ≤ b)) (ρ7 3) w7 := hf 5 rfl
    rw [h3] at hq3
    obtain ⟨hq3, hfr3⟩ := hq3
    obtain ⟨h0, h5⟩ := k2 hr h0 h5 rfl
    have Oo_O3 := O3
    have H_l_ := H_l_.over hE (fun b hb => (Oo_O3.lt hb).1)
    have hW := Ext.own hW hE (fun b hb => (Oo_O3.lt hb).1)
    have O3 := hq3
    refine WP.rb mixed [[], [0]] [[5], []] [(13, .int .i64 (i64 (x + 1))), (5, .int .i64 (i64 (x + 1)))] (by kernel_rfl) ⟨fun ρz wz hE hA ⟨e5, _⟩ _ => core_val rfl rfl (o_add (e5.trans h5) rfl rfl),
 mU rfl rfl rfl, trivial⟩ ?_
    intro ρ8 w8 hN hf hr
    have h5 := hv hf 1 rfl rfl
    obtain ⟨h0, h3⟩ := k2 hr h0 h3 rfl
    have Oo_O3 := O3
    have H_l_ := H_l_.exn hN
    have hW := hW.trans hN
    have O3 := Oo_O3.exn hN
    exact ⟨l, i64 (x + 1), v3_2, h0, h3, h5, H_l_, O3, hW, (by first | exact hF | (rw [hrec_]; exact hF))⟩
  have hF := (if_neg (Bool.eq_false_iff.1 hb)).symm.trans hF
  refine WP.exit (thenQ_exit (thenQ_exit (blockQ_hit (WP.seq ?_))))
  obtain ⟨z2, hz2, hF⟩ := obind hF
  refine WP.rg mixed [[], [0], [1]] [[], [0], [1]] [[3], [], []] [val 14 (v3_), (15, fun u wz => Own w0.heap.size 31 2 Span.cells wz u z2 ∧ ∀ b, u.ownBlock = some b → w5.heap.size ≤ b), (2, fun u wz => Own w0.heap.size 31 2 Span.cells wz u z2 ∧ ∀ b, u.ownBlock = some b → w5.heap.size ≤ b)] (by kernel_rfl) ⟨sV, fun _ _ _ hE ⟨hO, hf⟩ => ⟨hO.exn hE, hf⟩, fun _ _ _ hE ⟨hO, hf⟩ => ⟨hO.exn hE, hf⟩, trivial⟩ ⟨mE rfl rfl h3,
 fun ρz wz hE hA _ ⟨u0, _⟩ => core_callR rfl (call_args1 u0) cf_30 ((spans_Make_ok  _ ((O3.exn (hA rfl)).rep (hn := fun _ => rfl) (G := noG) (fun _ _ h => h)).no hz2).mono (fun e w1 ⟨v, he, hE1, hO⟩ => ⟨v, he, hE1, hO.base (Nat.le_trans hW.size hE.size), fun b hb => Nat.le_trans hE.size (hO.lt hb).1⟩)),
 fun ρz wz hE hA _ ⟨⟨hO1, hfr1⟩, _⟩ => core_copy rfl rfl (o_assign rfl) ⟨hO1, hfr1⟩, trivial⟩ ?_
  intro ρ9 w9 hN hf hr
  obtain ⟨v2_, h2⟩ : ∃ v, ρ9 2 = v := ⟨_, rfl⟩
  have hq2 : (fun u wz => Own w0.heap.size 31 2 Span.cells wz u z2 ∧ ∀ b, u.ownBlock = some b → w5.heap.size ≤ b) (ρ9 2) w9 := hf 2 rfl
  rw [h2] at hq2
  obtain ⟨hq2, hfr2⟩ := hq2
  have Oo_O3 := O3
  have hW := hW.trans hN
  have O2 := hq2
  refine WP.ret ?_
  show retQ Try.prog 16 Try.f13 (fun v w1 => Own w0.heap.size 31 2 Span.cells w1 v r ∧ Ext noG w0 w1) .ret ρ9 w9
  obtain rfl := Option.some.inj hF
  exact res1 rfl (by decide) h2 ⟨O2, hW⟩

set_option maxHeartbeats 4000000 in
theorem sickness_Spells_ok {w0 : World} (l_ : List api_Fact) {v_l_ : Value} (H_l_ : RepSl api_Fact.R noG w0 v_l_ l_) {r : (List Span)} (hF : sickness_Spells l_ = some r) :
    Calls Try.prog 15 #[v_l_] w0 fun e w1 => ∃ v, e = .returned v ∧ Ext noG w0 w1 ∧ Own w0.heap.size 31 2 Span.cells w1 v r := by
  refine (Calls.start (P := Try.prog) (args := [v_l_]) (R := fun v w1 => Own w0.heap.size 31 2 Span.cells w1 v r ∧ Ext noG w0 w1) (n := 43) (w := w0) Try.func15 rfl rfl (Nat.le_of_ble_eq_true rfl) (fun ρ hargs => ?_)).mono (fun e w1 ⟨v, he, hv, hE⟩ => ⟨v, he, hE, hv⟩)
  have h0 := hargs 0 _ rfl
  have hW := Ext.refl noG w0
  obtain ⟨_, _, hs_H_l_, _, _⟩ := RepSl.shape H_l_
  have H_l_ := H_l_.start
  rw [sickness_Spells] at hF
  refine WP.seq (WP.rb mixed [[]] [[]] [(2, .slice none 0 0)] (by kernel_rfl) ⟨aC rfl rfl (fun _ => rfl), trivial⟩ ?_)
  intro ρ1 w1 hN hf hr
  have h0 := (hr 0 rfl).trans h0
  have H_l_ := H_l_.exn hN
  have hW := hW.trans hN
  refine WP.seq (WP.rb mixed [[]] [[]] [(3, .slice none 0 0)] (by kernel_rfl) ⟨aC rfl rfl (fun _ => rfl), trivial⟩ ?_)
  intro ρ2 w2 hN hf hr
  have h3 : ρ2 3 = .slice none 0 0 := hf 0 rfl
  have O3 : Own w0.heap.size 31 2 Span.cells w2 (.slice none 0 0) [] := Own.nil _ _ _ _ _
  have h0 := (hr 0 rfl).trans h0
  have H_l_ := H_l_.exn hN
  have hW := hW.trans hN
  have O3 : Own w0.heap.size 31 2 Span.cells w2 (.slice none 0 0) [] := Own.nil _ _ _ _ _
  refine WP.seq (WP.seq ?_)
  obtain ⟨z, hz, hF⟩ := obind hF
  refine WP.rg mixed [[], [0], [1], []] [[], [0], [1], []] [[0], [], [], []] [val 7 (v_l_), (8, fun u wz => Own w0.heap.size 31 2 Span.cells wz u z ∧ ∀ b, u.ownBlock = some b → w2.heap.size ≤ b), val 9 (.int .i64 (z.length : Int)), val 10 (.int .i64 0)] (by kernel_rfl) ⟨sV, fun _ _ _ hE ⟨hO, hf⟩ => ⟨hO.exn hE, hf⟩, sV, sV, trivial⟩ ⟨mE rfl rfl h0,
 fun ρz wz hE hA _ ⟨u0, _⟩ => core_callR rfl (call_args1 u0) cf_13 ((sickness_Sick_ok  _ (H_l_.exn (hA rfl)).no hz).mono (fun e w1 ⟨v, he, hE1, hO⟩ => ⟨v, he, hE1, hO.base (Nat.le_trans hW.size hE.size), fun b hb => Nat.le_trans hE.size (hO.lt hb).1⟩)),
 fun ρz wz hE hA _ ⟨⟨hO1, hfr1⟩, _⟩ => core_val rfl rfl (o_len ((Own.shape hO1).choose_spec.choose_spec.1) len_32),
 mC rfl rfl (fun _ => rfl), trivial⟩ ?_
  intro ρ3 w3 hN hf hr
  obtain ⟨v8_, h8⟩ : ∃ v, ρ3 8 = v := ⟨_, rfl⟩
  have hq8 : (fun u wz => Own w0.heap.size 31 2 Span.cells wz u z ∧ ∀ b, u.ownBlock = some b → w2.heap.size ≤ b) (ρ3 8) w3 := hf 1 rfl
  rw [h8] at hq8
  obtain ⟨hq8, hfr8⟩ := hq8
  have h9 : ρ3 9 = .int .i64 (z.length : Int) := hf 2 rfl
  have h10 : ρ3 10 = .int .i64 0 := hf 3 rfl
  have h3 := (hr 3 rfl).trans h3
  have Oo_O3 := O3
  have hW := hW.trans hN
  have O3 : Own w0.heap.size 31 2 Span.cells w3 (.slice none 0 0) [] := Own.nil _ _ _ _ _
  have Hf8 : RepSl Span.R (gL [ownG (.slice none 0 0)]) w3 v8_ z := hq8.rep (fun b hb h => h.elim (fun h => by simp [ownG, Value.ownBlock] at h) (fun h => h.elim))
  obtain ⟨_, _, hs_Hf8, _, _⟩ := RepSl.shape Hf8
  refine WP.block (WP.loop (fun k_ ρ w => ∃ out_ : List Span, ∃ x : Int, ∃ v3_ : Value, ρ 3 = v3_ ∧ ρ 8 = v8_ ∧ ρ 9 = .int .i64 (z.length : Int) ∧ ρ 10 = .int .i64 x ∧ RepSl Span.R (gL [ownG v3_]) w v8_ z ∧ Own w0.heap.size 31 2 Span.cells w v3_ out_ ∧ Ext noG w0 w ∧ loopC k_ (sickness_Spells_l z) (out_, x) = some r) FU ⟨[], 0, .slice none 0 0, h3, h8, h9, h10, Hf8, O3, hW, hF⟩ (fun _ _ h => by obtain ⟨_, _, _, _, _, _, _, _, _, _, h⟩ := h; cases h) ?_)
  rintro k_ ρ4 w4 ⟨out_, x, v3_, h3, h8, h9, h10, Hf8, O3, hW, hF⟩
  have hF : sickness_Spells_l z (loopC k_ (sickness_Spells_l z)) (out_, x) = some r := hF
  generalize hrec_ : loopC k_ (sickness_Spells_l z) = rec_ at hF
  rw [sickness_Spells_l] at hF
  refine WP.seq (WP.rb mixed [[]] [[10, 9]] [(11, .bool (decide (x < (z.length : Int))))] (by kernel_rfl) ⟨fun ρz wz hE hA ⟨e10, e9, _⟩ _ => core_val rfl rfl (o_lss (e10.trans h10) (e9.trans h9) rfl), trivial⟩ ?_)
  intro ρ5 w5 hN hf hr
  have h11 := hv hf 0 rfl rfl
  obtain ⟨h3, h8, h9, h10⟩ := k4 hr h3 h8 h9 h10 rfl
  have Oo_O3 := O3
  have Hf8 := Hf8.exn hN
  have hW := hW.trans hN
  have O3 := Oo_O3.exn hN
  refine WP.seq (WP.cond rfl h11 (fun hb => ?_) (fun hb => ?_))
  · have hF := (if_pos hb).symm.trans hF
    refine WP.skip (WP.seqJ (fun ρ w => ∃ out_2 : List Span, ∃ v3_2 : Value, ρ 3 = v3_2 ∧ ρ 8 = v8_ ∧ ρ 9 = .int .i64 (z.length : Int) ∧ ρ 10 = .int .i64 x ∧ RepSl Span.R (gL [ownG v3_2]) w v8_ z ∧ Own w0.heap.size 31 2 Span.cells w v3_2 out_2 ∧ Ext noG w0 w ∧ sickness_Spells_j x rec_ out_2 = some r) ?_ ?_)
    · refine WP.block (WP.seq ?_)
      obtain ⟨y, hy, hF⟩ := obind hF
      obtain ⟨ay, cy, hvy, hiy, hAy⟩ := RepSl.getF Hf8 hy
      refine WP.region mixed [[], [0], [], [1, 2]] [[], [0], [], [1, 2]] [[8, 10], [], [], []] [3] [(2, 3)] [val 12 (.pointer (some (ay.add (Int.toNat x * 2)))), val 13 (Span.val y), (5, fun u wz => ∃ b, u = .pointer (some ⟨b, 0, none⟩) ∧ w5.heap.size ≤ b ∧ Mb wz b 31 (Span.cells (⟨0, 0⟩ : Span))), (5, fun u wz => ∃ b, u = .pointer (some ⟨b, 0, none⟩) ∧ w5.heap.size ≤ b ∧ Mb wz b 31 (Span.cells y))] (fun b => w5.heap.size ≤ b) (by kernel_rfl) ⟨sV, sV, fun _ _ _ hE ⟨b, hb, hs, hM⟩ => ⟨b, hb, hs, hM.exn hE⟩, fun _ _ _ hE ⟨b, hb, hs, hM⟩ => ⟨b, hb, hs, hM.exn hE⟩, trivial⟩ ⟨fun ρz wz hE hA ⟨e8, e10, _⟩ _ => core_val rfl rfl (o_indexAddr ((e8.trans h8).trans hvy) (e10.trans h10) (ia_32 hiy)),
 fun ρz wz hE hA _ ⟨u0, _⟩ => core_val rfl rfl (o_load u0 (run_loadN (cs := (Span.cells y)) (lr_31 _ _) rfl ((hAy.exn hE.fresh).ca))),
 fun ρz wz hE hA _ _ => core_new rfl rfl hE (o_alloc (al_31 _)),
 fun ρz wz hE hA _ ⟨u1, u2, _⟩ => core_storeNew rfl rfl rfl rfl u1 u2 (fun a w => st_31 _ a w) rfl (one_31 _), trivial⟩ ?_
      intro ρ8 w8 hE hN hf hr
      have hN := hE.fresh
      obtain ⟨b5_, h5, hge_b5_, Hb_b5_⟩ := hf 3 rfl
      obtain ⟨h3, h8, h9, h10⟩ := k4 hr h3 h8 h9 h10 rfl
      have Oo_O3 := O3
      have Hf8 := Hf8.exn hN
      have hB_b5_ : w0.heap.size ≤ b5_ := Nat.le_trans hW.size hge_b5_
      have hW := hW.trans hN
      have O3 := Oo_O3.exn hN
      have hnb_O3_b5_ : Value.ownBlock v3_ ≠ some b5_ := fun h => absurd (Oo_O3.lt h).2 (Nat.not_lt.2 hge_b5_)
      refine WP.seq (WP.rb mixed [[], [0], [1]] [[3], [], []] [(14, v3_), (15, .int .i64 (out_.length : Int)), (6, .int .i64 (out_.length : Int))] (by kernel_rfl) ⟨mE rfl rfl h3,
 fun ρz wz hE hA _ ⟨u0, _⟩ => core_val rfl rfl (o_len (u0.trans (Own.shape O3).choose_spec.choose_spec.1) len_32),
 aU rfl rfl rfl, trivial⟩ ?_)
      intro ρ9 w9 hN hf hr
      have h6 := hv hf 2 rfl rfl
      obtain ⟨h3, h8, h9, h10, h5⟩ := k5 hr h3 h8 h9 h10 h5 rfl
      have Oo_O3 := O3
      have Hb_b5_n := Hb_b5_.exn hN
      have Hf8 := Hf8.exn hN
      have hW := hW.trans hN
      have O3 := Oo_O3.exn hN
      have Hb_b5_ := Hb_b5_n
      refine WP.seq ?_
      obtain ⟨c, hc, hF⟩ := obind hF
      obtain ⟨y2, hy2, hc⟩ := andB hc
      obtain ⟨ay2, cy2, hvy2, hiy2, hAy2⟩ := RepSl.getFI (Own.rep (hn := fun _ => rfl) (G := noG) O3 (fun _ _ h => h)) hy2
      have hc := andE hc
      refine WP.rb mixed [[], [0], [1], [2], [2, 3], [2], [2], [2, 6], [2, 5, 7], [2, 8], [2, 9], [2, 4, 10], [2, 11], [2, 12]] [[6], [], [], [5], [], [3], [6], [], [], [], [], [], [], []] [(16, .int .i64 (out_.length : Int)), (17, .bool (decide (0 < (out_.length : Int)))), (18, .bool (decide (0 < (out_.length : Int)))), (19, gv (decide (0 < (out_.length : Int))) (.pointer (some ((⟨b5_, 0, none⟩ : Addr).add 0)))), (20, gv (decide (0 < (out_.length : Int))) (.int .i64 y.From)), (21, gv (decide (0 < (out_.length : Int))) v3_), (22, gv (decide (0 < (out_.length : Int))) (.int .i64 (out_.length : Int))), (23, gv (decide (0 < (out_.length : Int))) (.int .i64 (i64 ((out_.length : Int) - 1)))), (24, gv (decide (0 < (out_.length : Int))) (.pointer (some (ay2.add (Int.toNat (i64 ((out_.length : Int) - 1)) * 2))))), (25, gv (decide (0 < (out_.length : Int))) (.pointer (some ((ay2.add (Int.toNat (i64 ((out_.length : Int) - 1)) * 2)).add 1)))), (26, gv (decide (0 < (out_.length : Int))) (.int .i64 y2.To)), (27, gv (decide (0 < (out_.length : Int))) (.int .i64 (i64 (y.From - y2.To)))), (28, gv (decide (0 < (out_.length : Int))) (.bool (decide (i64 (y.From - y2.To) ≤ 56)))), (29, .bool c)] (by kernel_rfl) ⟨mE rfl rfl h6,
 fun ρz wz hE hA _ ⟨u0, _⟩ => core_val rfl rfl (o_gtr u0 rfl rfl),
 mU rfl rfl rfl,
 fun ρz wz hE hA ⟨e5, _⟩ ⟨u2, _⟩ => gIf rfl rfl (yT rfl u2) fun gc F hF => core_val rfl hF (o_fieldAddr (e5.trans h5) (fa_31_0 _ _)),
 fun ρz wz hE hA _ ⟨u2, u3, _⟩ => gIf rfl rfl (yT rfl u2) fun gc F hF => core_val rfl hF (o_load (gt gc u3) (run_load1 (lr_3 _ _) (CA.sub ((Hb_b5_.exn (hA rfl)).ca) 0 1))),
 fun ρz wz hE hA ⟨e3, _⟩ ⟨u2, _⟩ => gIf rfl rfl (yT rfl u2) fun gc F hF => core_val rfl hF (o_move (e3.trans h3)),
 fun ρz wz hE hA ⟨e6, _⟩ ⟨u2, _⟩ => gIf rfl rfl (yT rfl u2) fun gc F hF => core_val rfl hF (o_move (e6.trans h6)),
 fun ρz wz hE hA _ ⟨u2, u6, _⟩ => gIf rfl rfl (yT rfl u2) fun gc F hF => core_val rfl hF (o_sub (gt gc u6) rfl rfl),
 fun ρz wz hE hA _ ⟨u2, u5, u7, _⟩ => gIf rfl rfl (yT rfl u2) fun gc F hF => core_val rfl hF (o_indexAddr ((gt gc u5).trans (hvy2 gc)) (gt gc u7) (ia_32 (hiy2 gc))),
 fun ρz wz hE hA _ ⟨u2, u8, _⟩ => gIf rfl rfl (yT rfl u2) fun gc F hF => core_val rfl hF (o_fieldAddr (gt gc u8) (fa_31_1 _ _)),
 fun ρz wz hE hA _ ⟨u2, u9, _⟩ => gIf rfl rfl (yT rfl u2) fun gc F hF => core_val rfl hF (o_load (gt gc u9) (run_load1 (lr_3 _ _) (CA.sub (((hAy2 gc).exn (hA rfl)).ca) 1 1))),
 fun ρz wz hE hA _ ⟨u2, u4, u10, _⟩ => gIf rfl rfl (yT rfl u2) fun gc F hF => core_val rfl hF (o_sub (gt gc u4) (gt gc u10) rfl),
 fun ρz wz hE hA _ ⟨u2, u11, _⟩ => gIf rfl rfl (yT rfl u2) fun gc F hF => core_val rfl hF (o_leq (gt gc u11) rfl rfl),
 fun ρz wz hE hA _ ⟨u2, u12, _⟩ => core_valE rfl rfl (congrArg Value.bool hc) (o_pick_and u2 u12 rfl), trivial⟩ ?_
      intro ρ10 w10 hN hf hr
      have h29 := hv hf 13 rfl rfl
      obtain ⟨h3, h8, h9, h10, h5, h6⟩ := k6 hr h3 h8 h9 h10 h5 h6 rfl
      have Oo_O3 := O3
      have Hb_b5_n := Hb_b5_.exn hN
      have Hf8 := Hf8.exn hN
      have hW := hW.trans hN
      have O3 := Oo_O3.exn hN
      have Hb_b5_ := Hb_b5_n
      refine WP.cond rfl h29 (fun hb => ?_) (fun hb => ?_)
      · have hF := (if_pos hb).symm.trans hF
        obtain ⟨y3, hy3, hF⟩ := obind hF
        obtain ⟨ay3, cy3, hvy3, hiy3, hAy3⟩ := RepSl.getF (Own.rep (hn := fun _ => rfl) (G := noG) O3 (fun _ _ h => h)) hy3
        refine WP.region mixed [[], [], [1], [], [3], [0, 2], [5], [4, 6]] [[], [], [1], [], [3], [0, 2], [5], [4, 6]] [[3], [6], [], [5], [], [], [], []] [7] [] [val 30 (v3_), val 31 (.int .i64 (out_.length : Int)), val 32 (.int .i64 (i64 ((out_.length : Int) - 1))), val 33 (.pointer (some ((⟨b5_, 0, none⟩ : Addr).add 1))), val 34 (.int .i64 y.To), val 35 (.pointer (some (ay3.add (Int.toNat (i64 ((out_.length : Int) - 1)) * 2)))), val 36 (.pointer (some ((ay3.add (Int.toNat (i64 ((out_.length : Int) - 1)) * 2)).add 1))), (36, fun _ wz => Own w0.heap.size 31 2 Span.cells wz v3_ (setI out_ (i64 ((out_.length : Int) - 1)) ({ y3 with To := y.To } : Span)))] (fun b => Value.ownBlock v3_ = some b) (by kernel_rfl) ⟨sV, sV, sV, sV, sV, sV, sV, fun _ _ _ hE h => h.exn hE, trivial⟩ ⟨mE rfl rfl h3,
 mE rfl rfl h6,
 fun ρz wz hE hA _ ⟨u1, _⟩ => core_val rfl rfl (o_sub u1 rfl rfl),
 fun ρz wz hE hA ⟨e5, _⟩ _ => core_val rfl rfl (o_fieldAddr (e5.trans h5) (fa_31_1 _ _)),
 fun ρz wz hE hA _ ⟨u3, _⟩ => core_val rfl rfl (o_load u3 (run_load1 (lr_3 _ _) (CA.sub ((Hb_b5_.exn (hA rfl)).ca) 1 1))),
 fun ρz wz hE hA _ ⟨u0, u2, _⟩ => core_val rfl rfl (o_indexAddr (u0.trans hvy3) u2 (ia_32 hiy3)),
 fun ρz wz hE hA _ ⟨u5, _⟩ => core_val rfl rfl (o_fieldAddr u5 (fa_31_1 _ _)),
 fun ρz wz hE hA _ ⟨u4, u6, _⟩ => core_storeOwn (n := 2) (off := 1) (cells := Span.cells) (y1 := ({ y3 with To := y.To } : Span)) (vs := [Value.int .i64 y.To]) rfl rfl (fun _ h => h) (fun _ => rfl) u6 hvy3 (Deep.add_add _ _ _) u4 (O3.exn (hA rfl)) hy3 (fun a w => st_3 _ a w) (Nat.le_of_ble_eq_true rfl) rfl (one_3 _), trivial⟩ ?_
        intro ρ11 w11 hE hN hf hr
        obtain ⟨h3, h8, h9, h10⟩ := k4 hr h3 h8 h9 h10 rfl
        have Oo_O3 := O3
        have Hf8 : RepSl Span.R (gL [ownG v3_]) w11 v8_ z := Hf8.mv hE (fun _ h => .inl (.inl h)) (fun b h => h.elim (fun h => .inl (.inl h)) (fun h => h.elim))
        have hW := Ext.own hW hE (fun b hb => (Oo_O3.lt hb).1)
        have O3 := hf 7 rfl
        exact ⟨setI out_ (i64 ((out_.length : Int) - 1)) ({ y3 with To := y.To } : Span), v3_, h3, h8, h9, h10, Hf8, O3, hW, hF⟩
      have hF := (if_neg (Bool.eq_false_iff.1 hb)).symm.trans hF
      obtain ⟨l, hl, hF⟩ := obind hF
      refine WP.region mixed [[], [], [1], [0, 1, 2], [0, 3]] [[], [], [1], [0, 2], [3]] [[3], [5], [], [], []] [3] [] [val 37 (v3_), val 38 (Span.val y), (39, fun u wz => ∃ b, u = .slice (some ⟨b, 0, none⟩) 1 1 ∧ w10.heap.size ≤ b ∧ Mb wz b 31 (([y]).flatMap Span.cells)), (40, fun u wz => Own w0.heap.size 31 2 Span.cells wz u l ∧ ∀ b, u.ownBlock = some b → (v3_.ownBlock = some b ∨ w10.heap.size ≤ b)), (3, fun u wz => Own w0.heap.size 31 2 Span.cells wz u l ∧ ∀ b, u.ownBlock = some b → (v3_.ownBlock = some b ∨ w10.heap.size ≤ b))] (fun b => Value.ownBlock v3_ = some b) (by kernel_rfl) ⟨sV, sV, fun _ _ _ hE ⟨b, hz, hs, hM⟩ => ⟨b, hz, hs, hM.ext hE (fun hg => absurd (O3.lt hg).2 (Nat.not_lt.2 hs))⟩, fun _ _ _ hE ⟨hO, hf⟩ => ⟨hO.exn hE, hf⟩, fun _ _ _ hE ⟨hO, hf⟩ => ⟨hO.exn hE, hf⟩, trivial⟩ ⟨mE rfl rfl h3,
 fun ρz wz hE hA ⟨e5, _⟩ _ => core_val rfl rfl (o_load (e5.trans h5) (run_loadN (cs := (Span.cells y)) (lr_31 _ _) rfl ((Hb_b5_.exn (hA rfl)).ca))),
 fun ρz wz hE hA _ ⟨u1, _⟩ => core_slice rfl rfl hE (o_buildSlice (build_parts1 u1) (bs_32_1 _ _)),
 fun ρz wz hE hA _ ⟨u0, ⟨bz2, hz2, hge2, hM2⟩, _⟩ => core_append (n := 2) (cells := Span.cells) (B := w0.heap.size) (w0 := w10) rfl rfl (fun b hb => hb) u0 hz2 (fun _ => rfl) one_31 si_32 se_31 (by decide) (by decide) (O3.exn (hA rfl)) ⟨_, (Mb.rep (n := 2) (cells := Span.cells) (hn := fun _ => rfl) (G := noG) hM2 rfl (Nat.le_of_ble_eq_true rfl) (fun h => h))⟩ hl (Nat.le_trans hW.size hE.size) hE.size (fun v1 w1 h1 h2 => ⟨h1, h2⟩),
 fun ρz wz hE hA _ ⟨⟨hO3, hfr3⟩, _⟩ => core_copy rfl rfl (o_assign rfl) ⟨hO3, hfr3⟩, trivial⟩ ?_
      intro ρ12 w12 hE hN hf hr
      obtain ⟨v3_3, h3⟩ : ∃ v, ρ12 3 = v := ⟨_, rfl⟩
      have hq3 : (fun u wz => Own w0.heap.size 31 2 Span.cells wz u l ∧ ∀ b, u.ownBlock = some b → (v3_.ownBlock = some b ∨ w10.heap.size ≤ b)) (ρ12 3) w12 := hf 4 rfl
      rw [h3] at hq3
      obtain ⟨hq3, hfr3⟩ := hq3
      obtain ⟨h8, h9, h10⟩ := k3 hr h8 h9 h10 rfl
      have Oo_O3 := O3
      have Hf8 : RepSl Span.R (gL [ownG v3_3]) w12 v8_ z := Hf8.mv hE (fun _ h => .inl (.inl h)) (fun b h => h.elim (fun h => (hfr3 _ h).elim (fun h => .inl (by have h := h; exact (.inl h))) (fun h => .inr h)) (fun h => h.elim))
      have hW := Ext.own hW hE (fun b hb => (Oo_O3.lt hb).1)
      have O3 := hq3
      exact ⟨l, v3_3, h3, h8, h9, h10, Hf8, O3, hW, hF⟩
    rintro ρ6 w6 ⟨out_2, v3_2, h3, h8, h9, h10, Hf8, O3, hW, hF⟩
    rw [sickness_Spells_j] at hF
    refine WP.rb mixed [[], [0]] [[10], []] [(41, .int .i64 (i64 (x + 1))), (10, .int .i64 (i64 (x + 1)))] (by kernel_rfl) ⟨fun ρz wz hE hA ⟨e10, _⟩ _ => core_val rfl rfl (o_add (e10.trans h10) rfl rfl),
 mU rfl rfl rfl, trivial⟩ ?_
    intro ρ7 w7 hN hf hr
    have h10 := hv hf 1 rfl rfl
    obtain ⟨h3, h8, h9⟩ := k3 hr h3 h8 h9 rfl
    have Oo_O3 := O3
    have Hf8 := Hf8.exn hN
    have hW := hW.trans hN
    have O3 := Oo_O3.exn hN
    exact ⟨out_2, i64 (x + 1), v3_2, h3, h8, h9, h10, Hf8, O3, hW, (by first | exact hF | (rw [hrec_]; exact hF))⟩
  have hF := (if_neg (Bool.eq_false_iff.1 hb)).symm.trans hF
  refine WP.exit (thenQ_exit (thenQ_exit (blockQ_hit (WP.seq (WP.rb mixed [[], [0]] [[3], []] [(42, v3_), (2, v3_)] (by kernel_rfl) ⟨mE rfl rfl h3,
 aU rfl rfl rfl, trivial⟩ ?_)))))
  intro ρ13 w13 hN hf hr
  have h2 := hv hf 1 rfl rfl
  have Oo_O3 := O3
  have hW := hW.trans hN
  have O2 := Oo_O3.exn hN
  refine WP.ret ?_
  show retQ Try.prog 43 Try.f15 (fun v w1 => Own w0.heap.size 31 2 Span.cells w1 v r ∧ Ext noG w0 w1) .ret ρ13 w13
  obtain rfl := Option.some.inj hF
  exact res1 rfl (by decide) h2 ⟨O2, hW⟩

set_option maxHeartbeats 4000000 in
theorem sickness_window_room_ok {w0 : World} (w_ : sickness_window) (day_ : Int) {bp0_ : Nat} {v_mp : Value} {B : Nat} (Hb_bp0_ : Mb w0 bp0_ 57 [(v_mp : Value)]) (OB_bp0_ : Own B 3 1 (fun x : Int => [Value.int .i64 x]) w0 v_mp w_.days) (hnb_OB_bp0__bp0_ : Value.ownBlock v_mp ≠ some bp0_) {r : Bool × sickness_window} (hF : sickness_window_room w_ day_ = some r) :
    Calls Try.prog 34 #[.pointer (some ⟨bp0_, 0, none⟩), .int .i64 day_] w0 fun e w1 => ∃ v, e = .returned v ∧ Ext (fun x => Value.ownBlock v_mp = some x ∨ x = bp0_) w0 w1 ∧ (∃ vq : Value, v = .bool r.1 ∧ Mb w1 bp0_ 57 [(vq : Value)] ∧ Own B 3 1 (fun x : Int => [Value.int .i64 x]) w1 vq r.2.days ∧ ∀ k, vq.ownBlock = some k → Value.ownBlock v_mp = some k ∨ w0.heap.size ≤ k) := by
  refine (Calls.start (P := Try.prog) (args := [.pointer (some ⟨bp0_, 0, none⟩), .int .i64 day_]) (R := fun v w1 => (∃ vq : Value, v = .bool r.1 ∧ Mb w1 bp0_ 57 [(vq : Value)] ∧ Own B 3 1 (fun x : Int => [Value.int .i64 x]) w1 vq r.2.days ∧ ∀ k, vq.ownBlock = some k → Value.ownBlock v_mp = some k ∨ w0.heap.size ≤ k) ∧ Ext (fun x => Value.ownBlock v_mp = some x ∨ x = bp0_) w0 w1) (n := 36) (w := w0) Try.func34 rfl rfl (Nat.le_of_ble_eq_true rfl) (fun ρ hargs => ?_)).mono (fun e w1 ⟨v, he, hv, hE⟩ => ⟨v, he, hE, hv⟩)
  have h0 := hargs 0 _ rfl
  have h1 := hargs 1 _ rfl
  have hW := Ext.refl (fun x => Value.ownBlock v_mp = some x ∨ x = bp0_) w0
  have hpf_OB_bp0_ : ∀ k, Value.ownBlock v_mp = some k → Value.ownBlock v_mp = some k ∨ w0.heap.size ≤ k := fun _ h => .inl h
  rw [sickness_window_room] at hF
  refine WP.seq (WP.rb mixed [[]] [[]] [(4, .bool false)] (by kernel_rfl) ⟨aC rfl rfl (fun _ => rfl), trivial⟩ ?_)
  intro ρ1 w1 hN hf hr
  obtain ⟨h0, h1⟩ := k2 hr h0 h1 rfl
  have Oo_OB_bp0_ := OB_bp0_
  have Hb_bp0_n := Hb_bp0_.exn hN
  have hW := hW.trans hN.of_no
  have OB_bp0_ := Oo_OB_bp0_.exn hN
  have Hb_bp0_ := Hb_bp0_n
  refine WP.seq (WP.block (WP.loop (fun k_ ρ w => ∃ v : sickness_window, ∃ vh_ : Value, ρ 0 = .pointer (some ⟨bp0_, 0, none⟩) ∧ ρ 1 = .int .i64 day_ ∧ Mb w bp0_ 57 [(vh_ : Value)] ∧ Own B 3 1 (fun x : Int => [Value.int .i64 x]) w vh_ v.days ∧ Value.ownBlock vh_ ≠ some bp0_ ∧ (∀ k, Value.ownBlock vh_ = some k → Value.ownBlock v_mp = some k ∨ w0.heap.size ≤ k) ∧ Ext (fun x => Value.ownBlock v_mp = some x ∨ x = bp0_) w0 w ∧ loopC k_ (sickness_window_room_l day_) v = some r) FU ⟨w_, v_mp, h0, h1, Hb_bp0_, OB_bp0_, hnb_OB_bp0__bp0_, hpf_OB_bp0_, hW, hF⟩ (fun _ _ h => by obtain ⟨_, _, _, _, _, _, _, _, _, h⟩ := h; cases h) ?_))
  rintro k_ ρ2 w2 ⟨v, vh_, h0, h1, Hb_bp0_, OB_bp0_, hnb_OB_bp0__bp0_, hpf_OB_bp0_, hW, hF⟩
  have hF : sickness_window_room_l day_ (loopC k_ (sickness_window_room_l day_)) v = some r := hF
  generalize hrec_ : loopC k_ (sickness_window_room_l day_) = rec_ at hF
  rw [sickness_window_room_l] at hF
  refine WP.seq (WP.seq ?_)
  obtain ⟨c, hc, hF⟩ := obind hF
  obtain ⟨y, hy, hc⟩ := andB hc
  obtain ⟨ay, cy, hvy, hiy, hAy⟩ := RepSl.getFI (Own.rep (hn := fun _ => rfl) (G := noG) OB_bp0_ (fun _ _ h => h)) hy
  have hc := andE hc
  refine WP.rb mixed [[], [0], [1], [2], [3], [4], [5], [6], [6, 7], [6, 8], [6, 9], [6, 10], [6, 11], [6], [6, 13], [6, 12, 14], [6, 15]] [[0], [], [], [], [], [], [], [0], [], [], [], [], [], [1], [], [], []] [(5, .pointer (some ⟨bp0_, 0, none⟩)), (6, .pointer (some ⟨bp0_, 0, none⟩)), (7, .pointer (some ((⟨bp0_, 0, none⟩ : Addr).add 0))), (8, vh_), (9, .int .i64 (v.days.length : Int)), (10, .bool (decide (0 < (v.days.length : Int)))), (11, .bool (decide (0 < (v.days.length : Int)))), (12, gv (decide (0 < (v.days.length : Int))) (.pointer (some ⟨bp0_, 0, none⟩))), (13, gv (decide (0 < (v.days.length : Int))) (.pointer (some ⟨bp0_, 0, none⟩))), (14, gv (decide (0 < (v.days.length : Int))) (.pointer (some ((⟨bp0_, 0, none⟩ : Addr).add 0)))), (15, gv (decide (0 < (v.days.length : Int))) vh_), (16, gv (decide (0 < (v.days.length : Int))) (.pointer (some (ay.add (Int.toNat 0 * 1))))), (17, gv (decide (0 < (v.days.length : Int))) (.int .i64 y)), (18, gv (decide (0 < (v.days.length : Int))) (.int .i64 day_)), (19, gv (decide (0 < (v.days.length : Int))) (.int .i64 (i64 (day_ - 1094)))), (20, gv (decide (0 < (v.days.length : Int))) (.bool (decide (y < i64 (day_ - 1094))))), (21, .bool c)] (by kernel_rfl) ⟨mE rfl rfl h0,
 fun ρz wz hE hA _ ⟨u0, _⟩ => core_val rfl rfl (o_nilCheck u0),
 fun ρz wz hE hA _ ⟨u1, _⟩ => core_val rfl rfl (o_fieldAddr u1 (fa_57_0 _ _)),
 fun ρz wz hE hA _ ⟨u2, _⟩ => core_val rfl rfl (o_load u2 (run_load1 (lr_55 _ _) (CA.sub ((Hb_bp0_.exn (hA rfl)).ca) 0 1))),
 fun ρz wz hE hA _ ⟨u3, _⟩ => core_val rfl rfl (o_len (u3.trans (Own.shape OB_bp0_).choose_spec.choose_spec.1) len_55),
 fun ρz wz hE hA _ ⟨u4, _⟩ => core_val rfl rfl (o_gtr u4 rfl rfl),
 mU rfl rfl rfl,
 fun ρz wz hE hA ⟨e0, _⟩ ⟨u6, _⟩ => gIf rfl rfl (yT rfl u6) fun gc F hF => core_val rfl hF (o_move (e0.trans h0)),
 fun ρz wz hE hA _ ⟨u6, u7, _⟩ => gIf rfl rfl (yT rfl u6) fun gc F hF => core_val rfl hF (o_nilCheck (gt gc u7)),
 fun ρz wz hE hA _ ⟨u6, u8, _⟩ => gIf rfl rfl (yT rfl u6) fun gc F hF => core_val rfl hF (o_fieldAddr (gt gc u8) (fa_57_0 _ _)),
 fun ρz wz hE hA _ ⟨u6, u9, _⟩ => gIf rfl rfl (yT rfl u6) fun gc F hF => core_val rfl hF (o_load (gt gc u9) (run_load1 (lr_55 _ _) (CA.sub ((Hb_bp0_.exn (hA rfl)).ca) 0 1))),
 fun ρz wz hE hA _ ⟨u6, u10, _⟩ => gIf rfl rfl (yT rfl u6) fun gc F hF => core_val rfl hF (o_indexAddr ((gt gc u10).trans (hvy gc)) rfl (ia_55 (hiy gc))),
 fun ρz wz hE hA _ ⟨u6, u11, _⟩ => gIf rfl rfl (yT rfl u6) fun gc F hF => core_val rfl hF (o_load (gt gc u11) (run_load1 (lr_3 _ _) (((hAy gc).exn (hA rfl)).ca))),
 fun ρz wz hE hA ⟨e1, _⟩ ⟨u6, _⟩ => gIf rfl rfl (yT rfl u6) fun gc F hF => core_val rfl hF (o_move (e1.trans h1)),
 fun ρz wz hE hA _ ⟨u6, u13, _⟩ => gIf rfl rfl (yT rfl u6) fun gc F hF => core_val rfl hF (o_sub (gt gc u13) rfl rfl),
 fun ρz wz hE hA _ ⟨u6, u12, u14, _⟩ => gIf rfl rfl (yT rfl u6) fun gc F hF => core_val rfl hF (o_lss (gt gc u12) (gt gc u14) rfl),
 fun ρz wz hE hA _ ⟨u6, u15, _⟩ => core_valE rfl rfl (congrArg Value.bool hc) (o_pick_and u6 u15 rfl), trivial⟩ ?_
  intro ρ3 w3 hN hf hr
  have h21 := hv hf 16 rfl rfl
  obtain ⟨h0, h1⟩ := k2 hr h0 h1 rfl
  have Oo_OB_bp0_ := OB_bp0_
  have Hb_bp0_n := Hb_bp0_.exn hN
  have hW := hW.trans hN.of_no
  have OB_bp0_ := Oo_OB_bp0_.exn hN
  have Hb_bp0_ := Hb_bp0_n
  refine WP.cond rfl h21 (fun hb => ?_) (fun hb => ?_)
  · have hF := (if_pos hb).symm.trans hF
    refine WP.skip (WP.block ?_)
    obtain ⟨s, hs, hF⟩ := obind hF
    refine WP.region mixed [[], [], [1], [2], [3], [4], [0], [6], [4, 5, 7]] [[], [], [1], [2], [3], [4], [0], [6], [5, 7]] [[0], [0], [], [], [], [], [], [], []] [8] [(5, 8)] [val 22 (.pointer (some ⟨bp0_, 0, none⟩)), val 23 (.pointer (some ⟨bp0_, 0, none⟩)), val 24 (.pointer (some ⟨bp0_, 0, none⟩)), val 25 (.pointer (some ((⟨bp0_, 0, none⟩ : Addr).add 0))), val 26 (vh_), (27, fun u wz => Own B 3 1 (fun x : Int => [Value.int .i64 x]) wz u s ∧ ∀ b, u.ownBlock = some b → vh_.ownBlock = some b), val 28 (.pointer (some ⟨bp0_, 0, none⟩)), val 29 (.pointer (some ((⟨bp0_, 0, none⟩ : Addr).add 0))), (27, fun u wz => Mb wz bp0_ 57 [(u : Value)] ∧ Own B 3 1 (fun x : Int => [Value.int .i64 x]) wz u s ∧ ∀ b, u.ownBlock = some b → vh_.ownBlock = some b)] (fun x => x = bp0_) (by kernel_rfl) ⟨sV, sV, sV, sV, sV, fun _ _ _ hE ⟨hO, hf⟩ => ⟨hO.exn hE, hf⟩, sV, sV, fun _ _ _ hE ⟨h1, h2, h3⟩ => ⟨h1.exn hE, h2.exn hE, h3⟩, trivial⟩ ⟨mE rfl rfl h0,
 mE rfl rfl h0,
 fun ρz wz hE hA _ ⟨u1, _⟩ => core_val rfl rfl (o_nilCheck u1),
 fun ρz wz hE hA _ ⟨u2, _⟩ => core_val rfl rfl (o_fieldAddr u2 (fa_57_0 _ _)),
 fun ρz wz hE hA _ ⟨u3, _⟩ => core_val rfl rfl (o_load u3 (run_load1 (lr_55 _ _) (CA.sub ((Hb_bp0_.exn (hA rfl)).ca) 0 1))),
 fun ρz wz hE hA _ ⟨u4, _⟩ => core_suffix (n := 1) (cells := fun x : Int => [Value.int .i64 x]) rfl (fun _ => rfl) u4 si_55 sz_3 (OB_bp0_.exn (hA rfl)) rfl hs (fun _ h => h),
 fun ρz wz hE hA _ ⟨u0, _⟩ => core_val rfl rfl (o_nilCheck u0),
 fun ρz wz hE hA _ ⟨u6, _⟩ => core_val rfl rfl (o_fieldAddr u6 (fa_57_0 _ _)),
 fun ρz wz hE hA _ ⟨⟨hO5, hfr5⟩, u7, _⟩ => core_storeX (k := 0) (vs := [ρz 27]) (cs0 := [(vh_ : Value)]) rfl rfl (fun _ h => h) u7 rfl rfl (Hb_bp0_.exn (hA rfl)) (stv_55 (Own.shp hO5)) (Nat.le_of_ble_eq_true rfl) rfl (one_val (oneC_slice (Own.shp hO5))) (fun w1 hE1 hM => ⟨hM, hO5.ext hE1 (fun b1 hb h0 => by have h1 := h0 ▸ hb; exact hnb_OB_bp0__bp0_ (hfr5 _ h1)), hfr5⟩), trivial⟩ ?_
    intro ρ4 w4 hE hN hf hr
    obtain ⟨h0, h1⟩ := k2 hr h0 h1 rfl
    obtain ⟨vb_, hvx⟩ : ∃ v, ρ4 27 = v := ⟨_, rfl⟩
    have hqx : (fun (u : Value) (wz : World) => Mb wz bp0_ 57 [(u : Value)] ∧ Own B 3 1 (fun x : Int => [Value.int .i64 x]) wz u s ∧ ∀ b, u.ownBlock = some b → vh_.ownBlock = some b) (ρ4 27) w4 := hf 8 rfl
    rw [hvx] at hqx
    obtain ⟨Hbx, OBx_vb_, hfr_vb_⟩ := hqx
    have Oo_OB_bp0_ := OB_bp0_
    have hpf_OB_bp0_ : ∀ k, Value.ownBlock vb_ = some k → Value.ownBlock v_mp = some k ∨ w0.heap.size ≤ k := fun k h1 => hpf_OB_bp0_ k (hfr_vb_ _ h1)
    have hW := hW.trans (hE.mono (fun _ h => .inr h))
    have hnb_OB_bp0__bp0_ : Value.ownBlock vb_ ≠ some bp0_ := fun h1 => hnb_OB_bp0__bp0_ (hfr_vb_ _ h1)
    have Hb_bp0_ := Hbx
    have OB_bp0_ := OBx_vb_
    exact ⟨(⟨s⟩ : sickness_window), vb_, h0, h1, Hb_bp0_, OB_bp0_, hnb_OB_bp0__bp0_, hpf_OB_bp0_, hW, (by first | exact hF | (rw [hrec_]; exact hF))⟩
  have hF := (if_neg (Bool.eq_false_iff.1 hb)).symm.trans hF
  refine WP.exit (thenQ_exit (thenQ_exit (blockQ_hit (WP.seq (WP.rb mixed [[], [0], [1], [2], [3], [4], [5]] [[0], [], [], [], [], [], []] [(30, .pointer (some ⟨bp0_, 0, none⟩)), (31, .pointer (some ⟨bp0_, 0, none⟩)), (32, .pointer (some ((⟨bp0_, 0, none⟩ : Addr).add 0))), (33, vh_), (34, .int .i64 (v.days.length : Int)), (35, .bool (decide ((v.days.length : Int) < 546))), (4, .bool (decide ((v.days.length : Int) < 546)))] (by kernel_rfl) ⟨mE rfl rfl h0,
 fun ρz wz hE hA _ ⟨u0, _⟩ => core_val rfl rfl (o_nilCheck u0),
 fun ρz wz hE hA _ ⟨u1, _⟩ => core_val rfl rfl (o_fieldAddr u1 (fa_57_0 _ _)),
 fun ρz wz hE hA _ ⟨u2, _⟩ => core_val rfl rfl (o_load u2 (run_load1 (lr_55 _ _) (CA.sub ((Hb_bp0_.exn (hA rfl)).ca) 0 1))),
 fun ρz wz hE hA _ ⟨u3, _⟩ => core_val rfl rfl (o_len (u3.trans (Own.shape OB_bp0_).choose_spec.choose_spec.1) len_55),
 fun ρz wz hE hA _ ⟨u4, _⟩ => core_val rfl rfl (o_lss u4 rfl rfl),
 aU rfl rfl rfl, trivial⟩ ?_)))))
  intro ρ5 w5 hN hf hr
  have h4 := hv hf 6 rfl rfl
  have h0 := (hr 0 rfl).trans h0
  have Oo_OB_bp0_ := OB_bp0_
  have Hb_bp0_n := Hb_bp0_.exn hN
  have hW := hW.trans hN.of_no
  have OB_bp0_ := Oo_OB_bp0_.exn hN
  have Hb_bp0_ := Hb_bp0_n
  refine WP.ret ?_
  show retQ Try.prog 36 Try.f34 (fun v w1 => (∃ vq : Value, v = .bool r.1 ∧ Mb w1 bp0_ 57 [(vq : Value)] ∧ Own B 3 1 (fun x : Int => [Value.int .i64 x]) w1 vq r.2.days ∧ ∀ k, vq.ownBlock = some k → Value.ownBlock v_mp = some k ∨ w0.heap.size ≤ k) ∧ Ext (fun x => Value.ownBlock v_mp = some x ∨ x = bp0_) w0 w1) .ret ρ5 w5
  obtain rfl := Option.some.inj hF
  exact res1 rfl (by decide) h4 ⟨⟨_, rfl, Hb_bp0_, OB_bp0_, hpf_OB_bp0_⟩, hW⟩

set_option maxHeartbeats 4000000 in
theorem sickness_Payable_ok {w0 : World} (l_ : List api_Fact) {v_l_ : Value} (H_l_ : RepSl api_Fact.R noG w0 v_l_ l_) {r : (List Span)} (hF : sickness_Payable l_ = some r) :
    Calls Try.prog 17 #[v_l_] w0 fun e w1 => ∃ v, e = .returned v ∧ Ext noG w0 w1 ∧ Own w0.heap.size 31 2 Span.cells w1 v r := by
  refine (Calls.start (P := Try.prog) (args := [v_l_]) (R := fun v w1 => Own w0.heap.size 31 2 Span.cells w1 v r ∧ Ext noG w0 w1) (n := 60) (w := w0) Try.func17 rfl rfl (Nat.le_of_ble_eq_true rfl) (fun ρ hargs => ?_)).mono (fun e w1 ⟨v, he, hv, hE⟩ => ⟨v, he, hE, hv⟩)
  have h0 := hargs 0 _ rfl
  have hW := Ext.refl noG w0
  obtain ⟨_, _, hs_H_l_, _, _⟩ := RepSl.shape H_l_
  have H_l_ := H_l_.start
  rw [sickness_Payable] at hF
  refine WP.seq (WP.rb mixed [[]] [[]] [(2, .slice none 0 0)] (by kernel_rfl) ⟨aC rfl rfl (fun _ => rfl), trivial⟩ ?_)
  intro ρ1 w1 hN hf hr
  have h0 := (hr 0 rfl).trans h0
  have H_l_ := H_l_.exn hN
  have hW := hW.trans hN
  refine WP.seq (WP.rg mixed [[]] [[]] [[]] [(3, fun u wz => ∃ b, u = .pointer (some ⟨b, 0, none⟩) ∧ w1.heap.size ≤ b ∧ Mb wz b 57 [(.slice none 0 0 : Value)])] (by kernel_rfl) ⟨fun _ _ _ hE ⟨b, hb, hs, hM⟩ => ⟨b, hb, hs, hM.exn hE⟩, trivial⟩ ⟨fun ρz wz hE hA _ _ => core_new rfl rfl hE (o_alloc (al_57 _)), trivial⟩ ?_)
  intro ρ2 w2 hN hf hr
  obtain ⟨b3_, h3, hge_b3_, Hb_b3_⟩ := hf 0 rfl
  have h0 := (hr 0 rfl).trans h0
  have H_l_ := H_l_.exn hN
  have hB_b3_ : w0.heap.size ≤ b3_ := Nat.le_trans hW.size hge_b3_
  have hW := hW.trans hN
  have OB_b3__0 : Own w0.heap.size 3 1 (fun x : Int => [Value.int .i64 x]) w2 (.slice none 0 0) [] := Own.nil _ _ _ _ _
  have hnb_OB_b3__0_b3_ : Value.ownBlock (.slice none 0 0) ≠ some b3_ := by simp [Value.ownBlock]
  refine WP.seq (WP.rb mixed [[]] [[]] [(4, .slice none 0 0)] (by kernel_rfl) ⟨aC rfl rfl (fun _ => rfl), trivial⟩ ?_)
  intro ρ3 w3 hN hf hr
  have h4 : ρ3 4 = .slice none 0 0 := hf 0 rfl
  have O4 : Own w0.heap.size 31 2 Span.cells w3 (.slice none 0 0) [] := Own.nil _ _ _ _ _
  obtain ⟨h0, h3⟩ := k2 hr h0 h3 rfl
  have Oo_OB_b3__0 := OB_b3__0
  have Hb_b3_n := Hb_b3_.exn hN
  have H_l_ := H_l_.exn hN
  have hW := hW.trans hN
  have O4 : Own w0.heap.size 31 2 Span.cells w3 (.slice none 0 0) [] := Own.nil _ _ _ _ _
  have OB_b3__0 : Own w0.heap.size 3 1 (fun x : Int => [Value.int .i64 x]) w3 (.slice none 0 0) [] := Own.nil _ _ _ _ _
  have hnb_O4_b3_ : Value.ownBlock (.slice none 0 0) ≠ some b3_ := by simp [Value.ownBlock]
  have hnb_OB_b3__0_b3_ : Value.ownBlock (.slice none 0 0) ≠ some b3_ := by simp [Value.ownBlock]
  have Hb_b3_ := Hb_b3_n
  refine WP.seq ?_
  obtain ⟨z, hz, hF⟩ := obind hF
  refine WP.rg mixed [[], [0], [1]] [[], [0], [1]] [[0], [], []] [val 12 (v_l_), (13, fun u wz => Own w0.heap.size 31 2 Span.cells wz u z ∧ ∀ b, u.ownBlock = some b → w3.heap.size ≤ b), (5, fun u wz => Own w0.heap.size 31 2 Span.cells wz u z ∧ ∀ b, u.ownBlock = some b → w3.heap.size ≤ b)] (by kernel_rfl) ⟨sV, fun _ _ _ hE ⟨hO, hf⟩ => ⟨hO.exn hE, hf⟩, fun _ _ _ hE ⟨hO, hf⟩ => ⟨hO.exn hE, hf⟩, trivial⟩ ⟨mE rfl rfl h0,
 fun ρz wz hE hA _ ⟨u0, _⟩ => core_callR rfl (call_args1 u0) cf_13 ((sickness_Sick_ok  _ (H_l_.exn (hA rfl)).no hz).mono (fun e w1 ⟨v, he, hE1, hO⟩ => ⟨v, he, hE1, hO.base (Nat.le_trans hW.size hE.size), fun b hb => Nat.le_trans hE.size (hO.lt hb).1⟩)),
 fun ρz wz hE hA _ ⟨⟨hO1, hfr1⟩, _⟩ => core_copy rfl rfl (o_assign rfl) ⟨hO1, hfr1⟩, trivial⟩ ?_
  intro ρ4 w4 hN hf hr
  obtain ⟨v5_, h5⟩ : ∃ v, ρ4 5 = v := ⟨_, rfl⟩
  have hq5 : (fun u wz => Own w0.heap.size 31 2 Span.cells wz u z ∧ ∀ b, u.ownBlock = some b → w3.heap.size ≤ b) (ρ4 5) w4 := hf 2 rfl
  rw [h5] at hq5
  obtain ⟨hq5, hfr5⟩ := hq5
  obtain ⟨h0, h3, h4⟩ := k3 hr h0 h3 h4 rfl
  have Oo_O4 := O4
  have Oo_OB_b3__0 := OB_b3__0
  have Hb_b3_n := Hb_b3_.exn hN
  have H_l_ := H_l_.exn hN
  have hW := hW.trans hN
  have O4 : Own w0.heap.size 31 2 Span.cells w4 (.slice none 0 0) [] := Own.nil _ _ _ _ _
  have OB_b3__0 : Own w0.heap.size 3 1 (fun x : Int => [Value.int .i64 x]) w4 (.slice none 0 0) [] := Own.nil _ _ _ _ _
  have O5 := hq5
  have hnb_O4_b3_ : Value.ownBlock (.slice none 0 0) ≠ some b3_ := by simp [Value.ownBlock]
  have hnb_O5_b3_ : Value.ownBlock v5_ ≠ some b3_ := fun h1 => absurd Hb_b3_.lt (Nat.not_lt.2 (hfr5 _ h1))
  have hnb_OB_b3__0_b3_ : Value.ownBlock (.slice none 0 0) ≠ some b3_ := by simp [Value.ownBlock]
  have hdd_O4_O5 : ∀ b, Value.ownBlock (.slice none 0 0) = some b → Value.ownBlock v5_ ≠ some b := fun b h => by simp [Value.ownBlock] at h
  have hdd_O5_OB_b3__0 : ∀ b, Value.ownBlock v5_ = some b → Value.ownBlock (.slice none 0 0) ≠ some b := fun b _ h => by simp [Value.ownBlock] at h
  have Hb_b3_ := Hb_b3_n
  refine WP.seq (WP.seq ?_)
  obtain ⟨z2, hz2, hF⟩ := obind hF
  refine WP.rg mixed [[], [0], [1], []] [[], [0], [1], []] [[0], [], [], []] [val 14 (v_l_), (15, fun u wz => Own w0.heap.size 31 2 Span.cells wz u z2 ∧ ∀ b, u.ownBlock = some b → w4.heap.size ≤ b), val 16 (.int .i64 (z2.length : Int)), val 17 (.int .i64 0)] (by kernel_rfl) ⟨sV, fun _ _ _ hE ⟨hO, hf⟩ => ⟨hO.exn hE, hf⟩, sV, sV, trivial⟩ ⟨mE rfl rfl h0,
 fun ρz wz hE hA _ ⟨u0, _⟩ => core_callR rfl (call_args1 u0) cf_15 ((sickness_Spells_ok  _ (H_l_.exn (hA rfl)).no hz2).mono (fun e w1 ⟨v, he, hE1, hO⟩ => ⟨v, he, hE1, hO.base (Nat.le_trans hW.size hE.size), fun b hb => Nat.le_trans hE.size (hO.lt hb).1⟩)),
 fun ρz wz hE hA _ ⟨⟨hO1, hfr1⟩, _⟩ => core_val rfl rfl (o_len ((Own.shape hO1).choose_spec.choose_spec.1) len_32),
 mC rfl rfl (fun _ => rfl), trivial⟩ ?_
  intro ρ5 w5 hN hf hr
  obtain ⟨v15_, h15⟩ : ∃ v, ρ5 15 = v := ⟨_, rfl⟩
  have hq15 : (fun u wz => Own w0.heap.size 31 2 Span.cells wz u z2 ∧ ∀ b, u.ownBlock = some b → w4.heap.size ≤ b) (ρ5 15) w5 := hf 1 rfl
  rw [h15] at hq15
  obtain ⟨hq15, hfr15⟩ := hq15
  have h16 : ρ5 16 = .int .i64 (z2.length : Int) := hf 2 rfl
  have h17 : ρ5 17 = .int .i64 0 := hf 3 rfl
  obtain ⟨h3, h4, h5⟩ := k3 hr h3 h4 h5 rfl
  have Oo_O4 := O4
  have Oo_O5 := O5
  have Oo_OB_b3__0 := OB_b3__0
  have Hb_b3_n := Hb_b3_.exn hN
  have hW := hW.trans hN
  have O4 : Own w0.heap.size 31 2 Span.cells w5 (.slice none 0 0) [] := Own.nil _ _ _ _ _
  have O5 := Oo_O5.exn hN
  have OB_b3__0 : Own w0.heap.size 3 1 (fun x : Int => [Value.int .i64 x]) w5 (.slice none 0 0) [] := Own.nil _ _ _ _ _
  have O15 := hq15
  have hnb_O15_b3_ : Value.ownBlock v15_ ≠ some b3_ := fun h1 => absurd Hb_b3_.lt (Nat.not_lt.2 (hfr15 _ h1))
  have hnb_O4_b3_ : Value.ownBlock (.slice none 0 0) ≠ some b3_ := by simp [Value.ownBlock]
  have hnb_OB_b3__0_b3_ : Value.ownBlock (.slice none 0 0) ≠ some b3_ := by simp [Value.ownBlock]
  have hdd_O15_O4 : ∀ b, Value.ownBlock v15_ = some b → Value.ownBlock (.slice none 0 0) ≠ some b := fun b _ h => by simp [Value.ownBlock] at h
  have hdd_O15_O5 : ∀ b, Value.ownBlock v15_ = some b → Value.ownBlock v5_ ≠ some b := fun b h1 h2 => absurd (Oo_O5.lt h2).2 (Nat.not_lt.2 (hfr15 _ h1))
  have hdd_O15_OB_b3__0 : ∀ b, Value.ownBlock v15_ = some b → Value.ownBlock (.slice none 0 0) ≠ some b := fun b _ h => by simp [Value.ownBlock] at h
  have hdd_O4_O5 : ∀ b, Value.ownBlock (.slice none 0 0) = some b → Value.ownBlock v5_ ≠ some b := fun b h => by simp [Value.ownBlock] at h
  have hdd_O5_OB_b3__0 : ∀ b, Value.ownBlock v5_ = some b → Value.ownBlock (.slice none 0 0) ≠ some b := fun b _ h => by simp [Value.ownBlock] at h
  have Hb_b3_ := Hb_b3_n
  refine WP.block ?_
  have hdd_O15_O4 : ∀ b, Value.ownBlock v15_ = some b → Value.ownBlock (.slice none 0 0) ≠ some b := fun b _ h => by simp [Value.ownBlock] at h
  have hdd_O15_OB_b3__0 : ∀ b, Value.ownBlock v15_ = some b → Value.ownBlock (.slice none 0 0) ≠ some b := fun b _ h => by simp [Value.ownBlock] at h
  have hdd_O4_O5 : ∀ b, Value.ownBlock (.slice none 0 0) = some b → Value.ownBlock v5_ ≠ some b := fun b h => by simp [Value.ownBlock] at h
  have hdd_O4_OB_b3__0 : ∀ b, Value.ownBlock (.slice none 0 0) = some b → Value.ownBlock (.slice none 0 0) ≠ some b := fun b h => by simp [Value.ownBlock] at h
  have hdd_O5_OB_b3__0 : ∀ b, Value.ownBlock v5_ = some b → Value.ownBlock (.slice none 0 0) ≠ some b := fun b _ h => by simp [Value.ownBlock] at h
  refine WP.loop (fun k_ ρ w => ∃ out_ : List Span, ∃ x : Int, ∃ v : sickness_window, ∃ v4_ : Value, ∃ vh_ : Value, ρ 3 = .pointer (some ⟨b3_, 0, none⟩) ∧ ρ 4 = v4_ ∧ ρ 5 = v5_ ∧ ρ 15 = v15_ ∧ ρ 16 = .int .i64 (z2.length : Int) ∧ ρ 17 = .int .i64 x ∧ Mb w b3_ 57 [(vh_ : Value)] ∧ Own w0.heap.size 31 2 Span.cells w v15_ z2 ∧ Own w0.heap.size 31 2 Span.cells w v4_ out_ ∧ Own w0.heap.size 31 2 Span.cells w v5_ z ∧ Own w0.heap.size 3 1 (fun x : Int => [Value.int .i64 x]) w vh_ v.days ∧ Value.ownBlock v15_ ≠ some b3_ ∧ Value.ownBlock v4_ ≠ some b3_ ∧ Value.ownBlock v5_ ≠ some b3_ ∧ Value.ownBlock vh_ ≠ some b3_ ∧ (∀ b, Value.ownBlock v15_ = some b → Value.ownBlock v4_ ≠ some b) ∧ (∀ b, Value.ownBlock v15_ = some b → Value.ownBlock v5_ ≠ some b) ∧ (∀ b, Value.ownBlock v15_ = some b → Value.ownBlock vh_ ≠ some b) ∧ (∀ b, Value.ownBlock v4_ = some b → Value.ownBlock v5_ ≠ some b) ∧ (∀ b, Value.ownBlock v4_ = some b → Value.ownBlock vh_ ≠ some b) ∧ (∀ b, Value.ownBlock v5_ = some b → Value.ownBlock vh_ ≠ some b) ∧ Ext noG w0 w ∧ loopC k_ (sickness_Payable_l z z2) (out_, x, v) = some r) FU ⟨[], 0, (⟨[]⟩ : sickness_window), .slice none 0 0, .slice none 0 0, h3, h4, h5, h15, h16, h17, Hb_b3_, O15, O4, O5, OB_b3__0, hnb_O15_b3_, hnb_O4_b3_, hnb_O5_b3_, hnb_OB_b3__0_b3_, hdd_O15_O4, hdd_O15_O5, hdd_O15_OB_b3__0, hdd_O4_O5, hdd_O4_OB_b3__0, hdd_O5_OB_b3__0, hW, hF⟩ (fun _ _ h => by obtain ⟨_, _, _, _, _, _, _, _, _, _, _, _, _, _, _, _, _, _, _, _, _, _, _, _, _, _, _, h⟩ := h; cases h) ?_
  rintro k_ ρ6 w6 ⟨out_, x, v, v4_, vh_, h3, h4, h5, h15, h16, h17, Hb_b3_, O15, O4, O5, OB_b3__0, hnb_O15_b3_, hnb_O4_b3_, hnb_O5_b3_, hnb_OB_b3__0_b3_, hdd_O15_O4, hdd_O15_O5, hdd_O15_OB_b3__0, hdd_O4_O5, hdd_O4_OB_b3__0, hdd_O5_OB_b3__0, hW, hF⟩
  have hF : sickness_Payable_l z z2 (loopC k_ (sickness_Payable_l z z2)) (out_, x, v) = some r := hF
  generalize hrec_ : loopC k_ (sickness_Payable_l z z2) = rec_ at hF
  rw [sickness_Payable_l] at hF
  refine WP.seq (WP.rb mixed [[]] [[17, 16]] [(18, .bool (decide (x < (z2.length : Int))))] (by kernel_rfl) ⟨fun ρz wz hE hA ⟨e17, e16, _⟩ _ => core_val rfl rfl (o_lss (e17.trans h17) (e16.trans h16) rfl), trivial⟩ ?_)
  intro ρ7 w7 hN hf hr
  have h18 := hv hf 0 rfl rfl
  obtain ⟨h3, h4, h5, h15, h16, h17⟩ := k6 hr h3 h4 h5 h15 h16 h17 rfl
  have Oo_O15 := O15
  have Oo_O4 := O4
  have Oo_O5 := O5
  have Oo_OB_b3__0 := OB_b3__0
  have Hb_b3_n := Hb_b3_.exn hN
  have hW := hW.trans hN
  have O15 := Oo_O15.exn hN
  have O4 := Oo_O4.exn hN
  have O5 := Oo_O5.exn hN
  have OB_b3__0 := Oo_OB_b3__0.exn hN
  have Hb_b3_ := Hb_b3_n
  refine WP.seq (WP.cond rfl h18 (fun hb => ?_) (fun hb => ?_))
  · have hF := (if_pos hb).symm.trans hF
    refine WP.skip (WP.seq (WP.block (WP.seq ?_)))
    obtain ⟨y, hy, hF⟩ := obind hF
    obtain ⟨ay, cy, hvy, hiy, hAy⟩ := RepSl.getF (Own.rep (hn := fun _ => rfl) (G := noG) O15 (fun _ _ h => h)) hy
    refine WP.region mixed [[], [0], [], [1, 2]] [[], [0], [], [1, 2]] [[15, 17], [], [], []] [3] [(2, 3)] [val 19 (.pointer (some (ay.add (Int.toNat x * 2)))), val 20 (Span.val y), (7, fun u wz => ∃ b, u = .pointer (some ⟨b, 0, none⟩) ∧ w7.heap.size ≤ b ∧ Mb wz b 31 (Span.cells (⟨0, 0⟩ : Span))), (7, fun u wz => ∃ b, u = .pointer (some ⟨b, 0, none⟩) ∧ w7.heap.size ≤ b ∧ Mb wz b 31 (Span.cells y))] (fun b => w7.heap.size ≤ b) (by kernel_rfl) ⟨sV, sV, fun _ _ _ hE ⟨b, hb, hs, hM⟩ => ⟨b, hb, hs, hM.exn hE⟩, fun _ _ _ hE ⟨b, hb, hs, hM⟩ => ⟨b, hb, hs, hM.exn hE⟩, trivial⟩ ⟨fun ρz wz hE hA ⟨e15, e17, _⟩ _ => core_val rfl rfl (o_indexAddr ((e15.trans h15).trans hvy) (e17.trans h17) (ia_32 hiy)),
 fun ρz wz hE hA _ ⟨u0, _⟩ => core_val rfl rfl (o_load u0 (run_loadN (cs := (Span.cells y)) (lr_31 _ _) rfl ((hAy.exn hE.fresh).ca))),
 fun ρz wz hE hA _ _ => core_new rfl rfl hE (o_alloc (al_31 _)),
 fun ρz wz hE hA _ ⟨u1, u2, _⟩ => core_storeNew rfl rfl rfl rfl u1 u2 (fun a w => st_31 _ a w) rfl (one_31 _), trivial⟩ ?_
    intro ρ8 w8 hE hN hf hr
    have hN := hE.fresh
    obtain ⟨b7_, h7, hge_b7_, Hb_b7_⟩ := hf 3 rfl
    obtain ⟨h3, h4, h5, h15, h16, h17⟩ := k6 hr h3 h4 h5 h15 h16 h17 rfl
    have Oo_O15 := O15
    have Oo_O4 := O4
    have Oo_O5 := O5
    have Oo_OB_b3__0 := OB_b3__0
    have Hb_b3_n := Hb_b3_.exn hN
    have hB_b7_ : w0.heap.size ≤ b7_ := Nat.le_trans hW.size hge_b7_
    have hne_b3__b7_ : b3_ ≠ b7_ := Nat.ne_of_lt (Nat.lt_of_lt_of_le Hb_b3_.lt hge_b7_)
    have hW := hW.trans hN
    have O15 := Oo_O15.exn hN
    have O4 := Oo_O4.exn hN
    have O5 := Oo_O5.exn hN
    have OB_b3__0 := Oo_OB_b3__0.exn hN
    have hnb_O15_b7_ : Value.ownBlock v15_ ≠ some b7_ := fun h => absurd (Oo_O15.lt h).2 (Nat.not_lt.2 hge_b7_)
    have hnb_O4_b7_ : Value.ownBlock v4_ ≠ some b7_ := fun h => absurd (Oo_O4.lt h).2 (Nat.not_lt.2 hge_b7_)
    have hnb_O5_b7_ : Value.ownBlock v5_ ≠ some b7_ := fun h => absurd (Oo_O5.lt h).2 (Nat.not_lt.2 hge_b7_)
    have hnb_OB_b3__0_b7_ : Value.ownBlock vh_ ≠ some b7_ := fun h => absurd (Oo_OB_b3__0.lt h).2 (Nat.not_lt.2 hge_b7_)
    have Hb_b3_ := Hb_b3_n
    refine WP.seq (WP.rb mixed [[]] [[]] [(8, .int .i64 3)] (by kernel_rfl) ⟨aC rfl rfl (fun _ => rfl), trivial⟩ ?_)
    intro ρ9 w9 hN hf hr
    have h8 := hv hf 0 rfl rfl
    obtain ⟨h3, h4, h5, h15, h16, h17⟩ := k6 hr h3 h4 h5 h15 h16 h17 rfl
    have h7 := (hr 7 rfl).trans h7
    have Oo_O15 := O15
    have Oo_O4 := O4
    have Oo_O5 := O5
    have Oo_OB_b3__0 := OB_b3__0
    have Hb_b3_n := Hb_b3_.exn hN
    have Hb_b7_n := Hb_b7_.exn hN
    have hW := hW.trans hN
    have O15 := Oo_O15.exn hN
    have O4 := Oo_O4.exn hN
    have O5 := Oo_O5.exn hN
    have OB_b3__0 := Oo_OB_b3__0.exn hN
    have Hb_b3_ := Hb_b3_n
    have Hb_b7_ := Hb_b7_n
    refine WP.seq ?_
    obtain ⟨z3, hz3, hF⟩ := obind hF
    refine WP.rg mixed [[], [], [0, 1], [2], []] [[], [], [0, 1], [2], []] [[5], [7], [], [], []] [val 21 (v5_), val 22 (Span.val y), (23, fun u wz => Own w0.heap.size 31 2 Span.cells wz u z3 ∧ ∀ b, u.ownBlock = some b → w9.heap.size ≤ b), val 24 (.int .i64 (z3.length : Int)), val 25 (.int .i64 0)] (by kernel_rfl) ⟨sV, sV, fun _ _ _ hE ⟨hO, hf⟩ => ⟨hO.exn hE, hf⟩, sV, sV, trivial⟩ ⟨mE rfl rfl h5,
 fun ρz wz hE hA ⟨e7, _⟩ _ => core_val rfl rfl (o_load (e7.trans h7) (run_loadN (cs := (Span.cells y)) (lr_31 _ _) rfl ((Hb_b7_.exn (hA rfl)).ca))),
 fun ρz wz hE hA _ ⟨u0, u1, _⟩ => core_callR rfl (call_args2 u0 u1) cf_33 ((spans_Clip_ok  _ _ ((O5.exn (hA rfl)).rep (hn := fun _ => rfl) (G := noG) (fun _ _ h => h)).no hz3).mono (fun e w1 ⟨v, he, hE1, hO⟩ => ⟨v, he, hE1, hO.base (Nat.le_trans hW.size hE.size), fun b hb => Nat.le_trans hE.size (hO.lt hb).1⟩)),
 fun ρz wz hE hA _ ⟨⟨hO2, hfr2⟩, _⟩ => core_val rfl rfl (o_len ((Own.shape hO2).choose_spec.choose_spec.1) len_32),
 mC rfl rfl (fun _ => rfl), trivial⟩ ?_
    intro ρ10 w10 hN hf hr
    obtain ⟨v23_, h23⟩ : ∃ v, ρ10 23 = v := ⟨_, rfl⟩
    have hq23 : (fun u wz => Own w0.heap.size 31 2 Span.cells wz u z3 ∧ ∀ b, u.ownBlock = some b → w9.heap.size ≤ b) (ρ10 23) w10 := hf 2 rfl
    rw [h23] at hq23
    obtain ⟨hq23, hfr23⟩ := hq23
    have h24 : ρ10 24 = .int .i64 (z3.length : Int) := hf 3 rfl
    have h25 : ρ10 25 = .int .i64 0 := hf 4 rfl
    obtain ⟨h3, h4, h5, h15, h16, h17⟩ := k6 hr h3 h4 h5 h15 h16 h17 rfl
    have h8 := (hr 8 rfl).trans h8
    have Oo_O15 := O15
    have Oo_O4 := O4
    have Oo_O5 := O5
    have Oo_OB_b3__0 := OB_b3__0
    have Hb_b3_n := Hb_b3_.exn hN
    have hW := hW.trans hN
    have O15 := Oo_O15.exn hN
    have O4 := Oo_O4.exn hN
    have O5 := Oo_O5.exn hN
    have OB_b3__0 := Oo_OB_b3__0.exn hN
    have O23 := hq23
    have hnb_O23_b3_ : Value.ownBlock v23_ ≠ some b3_ := fun h1 => absurd Hb_b3_.lt (Nat.not_lt.2 (hfr23 _ h1))
    have hdd_O15_O23 : ∀ b, Value.ownBlock v15_ = some b → Value.ownBlock v23_ ≠ some b := fun b h1 h2 => absurd (Oo_O15.lt h1).2 (Nat.not_lt.2 (hfr23 _ h2))
    have hdd_O23_O4 : ∀ b, Value.ownBlock v23_ = some b → Value.ownBlock v4_ ≠ some b := fun b h1 h2 => absurd (Oo_O4.lt h2).2 (Nat.not_lt.2 (hfr23 _ h1))
    have hdd_O23_O5 : ∀ b, Value.ownBlock v23_ = some b → Value.ownBlock v5_ ≠ some b := fun b h1 h2 => absurd (Oo_O5.lt h2).2 (Nat.not_lt.2 (hfr23 _ h1))
    have hdd_O23_OB_b3__0 : ∀ b, Value.ownBlock v23_ = some b → Value.ownBlock vh_ ≠ some b := fun b h1 h2 => absurd (Oo_OB_b3__0.lt h2).2 (Nat.not_lt.2 (hfr23 _ h1))
    have Hb_b3_ := Hb_b3_n
    refine WP.block (WP.loop (fun k_2 ρ w => ∃ out_2 : List Span, ∃ wait_ : Int, ∃ x2 : Int, ∃ v2 : sickness_window, ∃ v4_2 : Value, ∃ vh_2 : Value, ρ 3 = .pointer (some ⟨b3_, 0, none⟩) ∧ ρ 4 = v4_2 ∧ ρ 5 = v5_ ∧ ρ 15 = v15_ ∧ ρ 16 = .int .i64 (z2.length : Int) ∧ ρ 17 = .int .i64 x ∧ ρ 8 = .int .i64 wait_ ∧ ρ 23 = v23_ ∧ ρ 24 = .int .i64 (z3.length : Int) ∧ ρ 25 = .int .i64 x2 ∧ Mb w b3_ 57 [(vh_2 : Value)] ∧ Own w0.heap.size 31 2 Span.cells w v15_ z2 ∧ Own w0.heap.size 31 2 Span.cells w v23_ z3 ∧ Own w0.heap.size 31 2 Span.cells w v4_2 out_2 ∧ Own w0.heap.size 31 2 Span.cells w v5_ z ∧ Own w0.heap.size 3 1 (fun x : Int => [Value.int .i64 x]) w vh_2 v2.days ∧ Value.ownBlock v15_ ≠ some b3_ ∧ Value.ownBlock v23_ ≠ some b3_ ∧ Value.ownBlock v4_2 ≠ some b3_ ∧ Value.ownBlock v5_ ≠ some b3_ ∧ Value.ownBlock vh_2 ≠ some b3_ ∧ (∀ b, Value.ownBlock v15_ = some b → Value.ownBlock v23_ ≠ some b) ∧ (∀ b, Value.ownBlock v15_ = some b → Value.ownBlock v4_2 ≠ some b) ∧ (∀ b, Value.ownBlock v15_ = some b → Value.ownBlock v5_ ≠ some b) ∧ (∀ b, Value.ownBlock v15_ = some b → Value.ownBlock vh_2 ≠ some b) ∧ (∀ b, Value.ownBlock v23_ = some b → Value.ownBlock v4_2 ≠ some b) ∧ (∀ b, Value.ownBlock v23_ = some b → Value.ownBlock v5_ ≠ some b) ∧ (∀ b, Value.ownBlock v23_ = some b → Value.ownBlock vh_2 ≠ some b) ∧ (∀ b, Value.ownBlock v4_2 = some b → Value.ownBlock v5_ ≠ some b) ∧ (∀ b, Value.ownBlock v4_2 = some b → Value.ownBlock vh_2 ≠ some b) ∧ (∀ b, Value.ownBlock v5_ = some b → Value.ownBlock vh_2 ≠ some b) ∧ Ext noG w0 w ∧ loopC k_2 (sickness_Payable_l2 x rec_ z3) (out_2, wait_, x2, v2) = some r) FU ⟨out_, 3, 0, v, v4_, vh_, h3, h4, h5, h15, h16, h17, h8, h23, h24, h25, Hb_b3_, O15, O23, O4, O5, OB_b3__0, hnb_O15_b3_, hnb_O23_b3_, hnb_O4_b3_, hnb_O5_b3_, hnb_OB_b3__0_b3_, hdd_O15_O23, hdd_O15_O4, hdd_O15_O5, hdd_O15_OB_b3__0, hdd_O23_O4, hdd_O23_O5, hdd_O23_OB_b3__0, hdd_O4_O5, hdd_O4_OB_b3__0, hdd_O5_OB_b3__0, hW, hF⟩ (fun _ _ h => by obtain ⟨_, _, _, _, _, _, _, _, _, _, _, _, _, _, _, _, _, _, _, _, _, _, _, _, _, _, _, _, _, _, _, _, _, _, _, _, _, _, h⟩ := h; cases h) ?_)
    rintro k_2 ρ11 w11 ⟨out_2, wait_, x2, v2, v4_2, vh_2, h3, h4, h5, h15, h16, h17, h8, h23, h24, h25, Hb_b3_, O15, O23, O4, O5, OB_b3__0, hnb_O15_b3_, hnb_O23_b3_, hnb_O4_b3_, hnb_O5_b3_, hnb_OB_b3__0_b3_, hdd_O15_O23, hdd_O15_O4, hdd_O15_O5, hdd_O15_OB_b3__0, hdd_O23_O4, hdd_O23_O5, hdd_O23_OB_b3__0, hdd_O4_O5, hdd_O4_OB_b3__0, hdd_O5_OB_b3__0, hW, hF⟩
    have hF : sickness_Payable_l2 x rec_ z3 (loopC k_2 (sickness_Payable_l2 x rec_ z3)) (out_2, wait_, x2, v2) = some r := hF
    generalize hrec_2 : loopC k_2 (sickness_Payable_l2 x rec_ z3) = rec_2 at hF
    rw [sickness_Payable_l2] at hF
    refine WP.seq (WP.rb mixed [[]] [[25, 24]] [(26, .bool (decide (x2 < (z3.length : Int))))] (by kernel_rfl) ⟨fun ρz wz hE hA ⟨e25, e24, _⟩ _ => core_val rfl rfl (o_lss (e25.trans h25) (e24.trans h24) rfl), trivial⟩ ?_)
    intro ρ12 w12 hN hf hr
    have h26 := hv hf 0 rfl rfl
    obtain ⟨h3, h4, h5, h15, h16, h17⟩ := k6 hr h3 h4 h5 h15 h16 h17 rfl
    obtain ⟨h8, h23, h24, h25⟩ := k4 hr h8 h23 h24 h25 rfl
    have Oo_O15 := O15
    have Oo_O23 := O23
    have Oo_O4 := O4
    have Oo_O5 := O5
    have Oo_OB_b3__0 := OB_b3__0
    have Hb_b3_n := Hb_b3_.exn hN
    have hW := hW.trans hN
    have O15 := Oo_O15.exn hN
    have O23 := Oo_O23.exn hN
    have O4 := Oo_O4.exn hN
    have O5 := Oo_O5.exn hN
    have OB_b3__0 := Oo_OB_b3__0.exn hN
    have Hb_b3_ := Hb_b3_n
    refine WP.seq (WP.cond rfl h26 (fun hb => ?_) (fun hb => ?_))
    · have hF := (if_pos hb).symm.trans hF
      refine WP.skip (WP.seq (WP.block (WP.seq ?_)))
      obtain ⟨y2, hy2, hF⟩ := obind hF
      obtain ⟨ay2, cy2, hvy2, hiy2, hAy2⟩ := RepSl.getF (Own.rep (hn := fun _ => rfl) (G := noG) O23 (fun _ _ h => h)) hy2
      refine WP.region mixed [[], [0], [], [1, 2]] [[], [0], [], [1, 2]] [[23, 25], [], [], []] [3] [(2, 3)] [val 27 (.pointer (some (ay2.add (Int.toNat x2 * 2)))), val 28 (Span.val y2), (10, fun u wz => ∃ b, u = .pointer (some ⟨b, 0, none⟩) ∧ w12.heap.size ≤ b ∧ Mb wz b 31 (Span.cells (⟨0, 0⟩ : Span))), (10, fun u wz => ∃ b, u = .pointer (some ⟨b, 0, none⟩) ∧ w12.heap.size ≤ b ∧ Mb wz b 31 (Span.cells y2))] (fun b => w12.heap.size ≤ b) (by kernel_rfl) ⟨sV, sV, fun _ _ _ hE ⟨b, hb, hs, hM⟩ => ⟨b, hb, hs, hM.exn hE⟩, fun _ _ _ hE ⟨b, hb, hs, hM⟩ => ⟨b, hb, hs, hM.exn hE⟩, trivial⟩ ⟨fun ρz wz hE hA ⟨e23, e25, _⟩ _ => core_val rfl rfl (o_indexAddr ((e23.trans h23).trans hvy2) (e25.trans h25) (ia_32 hiy2)),
 fun ρz wz hE hA _ ⟨u0, _⟩ => core_val rfl rfl (o_load u0 (run_loadN (cs := (Span.cells y2)) (lr_31 _ _) rfl ((hAy2.exn hE.fresh).ca))),
 fun ρz wz hE hA _ _ => core_new rfl rfl hE (o_alloc (al_31 _)),
 fun ρz wz hE hA _ ⟨u1, u2, _⟩ => core_storeNew rfl rfl rfl rfl u1 u2 (fun a w => st_31 _ a w) rfl (one_31 _), trivial⟩ ?_
      intro ρ13 w13 hE hN hf hr
      have hN := hE.fresh
      obtain ⟨b10_, h10, hge_b10_, Hb_b10_⟩ := hf 3 rfl
      obtain ⟨h3, h4, h5, h15, h16, h17⟩ := k6 hr h3 h4 h5 h15 h16 h17 rfl
      obtain ⟨h8, h23, h24, h25⟩ := k4 hr h8 h23 h24 h25 rfl
      have Oo_O15 := O15
      have Oo_O23 := O23
      have Oo_O4 := O4
      have Oo_O5 := O5
      have Oo_OB_b3__0 := OB_b3__0
      have Hb_b3_n := Hb_b3_.exn hN
      have hB_b10_ : w0.heap.size ≤ b10_ := Nat.le_trans hW.size hge_b10_
      have hne_b10__b3_ : b10_ ≠ b3_ := (Nat.ne_of_lt (Nat.lt_of_lt_of_le Hb_b3_.lt hge_b10_)).symm
      have hW := hW.trans hN
      have O15 := Oo_O15.exn hN
      have O23 := Oo_O23.exn hN
      have O4 := Oo_O4.exn hN
      have O5 := Oo_O5.exn hN
      have OB_b3__0 := Oo_OB_b3__0.exn hN
      have hnb_O15_b10_ : Value.ownBlock v15_ ≠ some b10_ := fun h => absurd (Oo_O15.lt h).2 (Nat.not_lt.2 hge_b10_)
      have hnb_O23_b10_ : Value.ownBlock v23_ ≠ some b10_ := fun h => absurd (Oo_O23.lt h).2 (Nat.not_lt.2 hge_b10_)
      have hnb_O4_b10_ : Value.ownBlock v4_2 ≠ some b10_ := fun h => absurd (Oo_O4.lt h).2 (Nat.not_lt.2 hge_b10_)
      have hnb_O5_b10_ : Value.ownBlock v5_ ≠ some b10_ := fun h => absurd (Oo_O5.lt h).2 (Nat.not_lt.2 hge_b10_)
      have hnb_OB_b3__0_b10_ : Value.ownBlock vh_2 ≠ some b10_ := fun h => absurd (Oo_OB_b3__0.lt h).2 (Nat.not_lt.2 hge_b10_)
      have Hb_b3_ := Hb_b3_n
      refine WP.seq (WP.rb mixed [[], [0], [1]] [[10], [], []] [(29, .pointer (some ((⟨b10_, 0, none⟩ : Addr).add 0))), (30, .int .i64 y2.From), (11, .int .i64 y2.From)] (by kernel_rfl) ⟨fun ρz wz hE hA ⟨e10, _⟩ _ => core_val rfl rfl (o_fieldAddr (e10.trans h10) (fa_31_0 _ _)),
 fun ρz wz hE hA _ ⟨u0, _⟩ => core_val rfl rfl (o_load u0 (run_load1 (lr_3 _ _) (CA.sub ((Hb_b10_.exn (hA rfl)).ca) 0 1))),
 aU rfl rfl rfl, trivial⟩ ?_)
      intro ρ14 w14 hN hf hr
      have h11 := hv hf 2 rfl rfl
      obtain ⟨h3, h4, h5, h15, h16, h17⟩ := k6 hr h3 h4 h5 h15 h16 h17 rfl
      obtain ⟨h8, h23, h24, h25, h10⟩ := k5 hr h8 h23 h24 h25 h10 rfl
      have Oo_O15 := O15
      have Oo_O23 := O23
      have Oo_O4 := O4
      have Oo_O5 := O5
      have Oo_OB_b3__0 := OB_b3__0
      have Hb_b3_n := Hb_b3_.exn hN
      have Hb_b10_n := Hb_b10_.exn hN
      have hW := hW.trans hN
      have O15 := Oo_O15.exn hN
      have O23 := Oo_O23.exn hN
      have O4 := Oo_O4.exn hN
      have O5 := Oo_O5.exn hN
      have OB_b3__0 := Oo_OB_b3__0.exn hN
      have Hb_b3_ := Hb_b3_n
      have Hb_b10_ := Hb_b10_n
      refine WP.block (WP.loop (fun k_3 ρ w => ∃ out_3 : List Span, ∃ wait_2 : Int, ∃ day_ : Int, ∃ v3 : sickness_window, ∃ v4_3 : Value, ∃ vh_3 : Value, ρ 3 = .pointer (some ⟨b3_, 0, none⟩) ∧ ρ 4 = v4_3 ∧ ρ 5 = v5_ ∧ ρ 15 = v15_ ∧ ρ 16 = .int .i64 (z2.length : Int) ∧ ρ 17 = .int .i64 x ∧ ρ 8 = .int .i64 wait_2 ∧ ρ 23 = v23_ ∧ ρ 24 = .int .i64 (z3.length : Int) ∧ ρ 25 = .int .i64 x2 ∧ ρ 10 = .pointer (some ⟨b10_, 0, none⟩) ∧ ρ 11 = .int .i64 day_ ∧ Mb w b3_ 57 [(vh_3 : Value)] ∧ Mb w b10_ 31 (Span.cells y2) ∧ b10_ ≠ b3_ ∧ Own w0.heap.size 31 2 Span.cells w v15_ z2 ∧ Own w0.heap.size 31 2 Span.cells w v23_ z3 ∧ Own w0.heap.size 31 2 Span.cells w v4_3 out_3 ∧ Own w0.heap.size 31 2 Span.cells w v5_ z ∧ Own w0.heap.size 3 1 (fun x : Int => [Value.int .i64 x]) w vh_3 v3.days ∧ Value.ownBlock v15_ ≠ some b3_ ∧ Value.ownBlock v15_ ≠ some b10_ ∧ Value.ownBlock v23_ ≠ some b3_ ∧ Value.ownBlock v23_ ≠ some b10_ ∧ Value.ownBlock v4_3 ≠ some b3_ ∧ Value.ownBlock v4_3 ≠ some b10_ ∧ Value.ownBlock v5_ ≠ some b3_ ∧ Value.ownBlock v5_ ≠ some b10_ ∧ Value.ownBlock vh_3 ≠ some b3_ ∧ Value.ownBlock vh_3 ≠ some b10_ ∧ (∀ b, Value.ownBlock v15_ = some b → Value.ownBlock v23_ ≠ some b) ∧ (∀ b, Value.ownBlock v15_ = some b → Value.ownBlock v4_3 ≠ some b) ∧ (∀ b, Value.ownBlock v15_ = some b → Value.ownBlock v5_ ≠ some b) ∧ (∀ b, Value.ownBlock v15_ = some b → Value.ownBlock vh_3 ≠ some b) ∧ (∀ b, Value.ownBlock v23_ = some b → Value.ownBlock v4_3 ≠ some b) ∧ (∀ b, Value.ownBlock v23_ = some b → Value.ownBlock v5_ ≠ some b) ∧ (∀ b, Value.ownBlock v23_ = some b → Value.ownBlock vh_3 ≠ some b) ∧ (∀ b, Value.ownBlock v4_3 = some b → Value.ownBlock v5_ ≠ some b) ∧ (∀ b, Value.ownBlock v4_3 = some b → Value.ownBlock vh_3 ≠ some b) ∧ (∀ b, Value.ownBlock v5_ = some b → Value.ownBlock vh_3 ≠ some b) ∧ Ext noG w0 w ∧ loopC k_3 (sickness_Payable_l3 x2 rec_2 y2) (out_3, wait_2, day_, v3) = some r) FU ⟨out_2, wait_, y2.From, v2, v4_2, vh_2, h3, h4, h5, h15, h16, h17, h8, h23, h24, h25, h10, h11, Hb_b3_, Hb_b10_, hne_b10__b3_, O15, O23, O4, O5, OB_b3__0, hnb_O15_b3_, hnb_O15_b10_, hnb_O23_b3_, hnb_O23_b10_, hnb_O4_b3_, hnb_O4_b10_, hnb_O5_b3_, hnb_O5_b10_, hnb_OB_b3__0_b3_, hnb_OB_b3__0_b10_, hdd_O15_O23, hdd_O15_O4, hdd_O15_O5, hdd_O15_OB_b3__0, hdd_O23_O4, hdd_O23_O5, hdd_O23_OB_b3__0, hdd_O4_O5, hdd_O4_OB_b3__0, hdd_O5_OB_b3__0, hW, hF⟩ (fun _ _ h => by obtain ⟨_, _, _, _, _, _, _, _, _, _, _, _, _, _, _, _, _, _, _, _, _, _, _, _, _, _, _, _, _, _, _, _, _, _, _, _, _, _, _, _, _, _, _, _, _, _, _, h⟩ := h; cases h) ?_)
      rintro k_3 ρ15 w15 ⟨out_3, wait_2, day_, v3, v4_3, vh_3, h3, h4, h5, h15, h16, h17, h8, h23, h24, h25, h10, h11, Hb_b3_, Hb_b10_, hne_b10__b3_, O15, O23, O4, O5, OB_b3__0, hnb_O15_b3_, hnb_O15_b10_, hnb_O23_b3_, hnb_O23_b10_, hnb_O4_b3_, hnb_O4_b10_, hnb_O5_b3_, hnb_O5_b10_, hnb_OB_b3__0_b3_, hnb_OB_b3__0_b10_, hdd_O15_O23, hdd_O15_O4, hdd_O15_O5, hdd_O15_OB_b3__0, hdd_O23_O4, hdd_O23_O5, hdd_O23_OB_b3__0, hdd_O4_O5, hdd_O4_OB_b3__0, hdd_O5_OB_b3__0, hW, hF⟩
      have hF : sickness_Payable_l3 x2 rec_2 y2 (loopC k_3 (sickness_Payable_l3 x2 rec_2 y2)) (out_3, wait_2, day_, v3) = some r := hF
      generalize hrec_3 : loopC k_3 (sickness_Payable_l3 x2 rec_2 y2) = rec_3 at hF
      rw [sickness_Payable_l3] at hF
      refine WP.seq (WP.seq (WP.rb mixed [[], [], [1], [0, 2]] [[11], [10], [], []] [(31, .int .i64 day_), (32, .pointer (some ((⟨b10_, 0, none⟩ : Addr).add 1))), (33, .int .i64 y2.To), (34, .bool (decide (day_ < y2.To)))] (by kernel_rfl) ⟨mE rfl rfl h11,
 fun ρz wz hE hA ⟨e10, _⟩ _ => core_val rfl rfl (o_fieldAddr (e10.trans h10) (fa_31_1 _ _)),
 fun ρz wz hE hA _ ⟨u1, _⟩ => core_val rfl rfl (o_load u1 (run_load1 (lr_3 _ _) (CA.sub ((Hb_b10_.exn (hA rfl)).ca) 1 1))),
 fun ρz wz hE hA _ ⟨u0, u2, _⟩ => core_val rfl rfl (o_lss u0 u2 rfl), trivial⟩ ?_))
      intro ρ16 w16 hN hf hr
      have h34 := hv hf 3 rfl rfl
      obtain ⟨h3, h4, h5, h15, h16, h17⟩ := k6 hr h3 h4 h5 h15 h16 h17 rfl
      obtain ⟨h8, h23, h24, h25, h10, h11⟩ := k6 hr h8 h23 h24 h25 h10 h11 rfl
      have Oo_O15 := O15
      have Oo_O23 := O23
      have Oo_O4 := O4
      have Oo_O5 := O5
      have Oo_OB_b3__0 := OB_b3__0
      have Hb_b3_n := Hb_b3_.exn hN
      have Hb_b10_n := Hb_b10_.exn hN
      have hW := hW.trans hN
      have O15 := Oo_O15.exn hN
      have O23 := Oo_O23.exn hN
      have O4 := Oo_O4.exn hN
      have O5 := Oo_O5.exn hN
      have OB_b3__0 := Oo_OB_b3__0.exn hN
      have Hb_b3_ := Hb_b3_n
      have Hb_b10_ := Hb_b10_n
      refine WP.cond rfl h34 (fun hb => ?_) (fun hb => ?_)
      · have hF := (if_pos hb).symm.trans hF
        refine WP.skip (WP.seqJ (fun ρ w => ∃ out_4 : List Span, ∃ wait_3 : Int, ∃ v4 : sickness_window, ∃ v4_4 : Value, ∃ vh_4 : Value, ρ 3 = .pointer (some ⟨b3_, 0, none⟩) ∧ ρ 4 = v4_4 ∧ ρ 5 = v5_ ∧ ρ 15 = v15_ ∧ ρ 16 = .int .i64 (z2.length : Int) ∧ ρ 17 = .int .i64 x ∧ ρ 8 = .int .i64 wait_3 ∧ ρ 23 = v23_ ∧ ρ 24 = .int .i64 (z3.length : Int) ∧ ρ 25 = .int .i64 x2 ∧ ρ 10 = .pointer (some ⟨b10_, 0, none⟩) ∧ ρ 11 = .int .i64 day_ ∧ Mb w b3_ 57 [(vh_4 : Value)] ∧ Mb w b10_ 31 (Span.cells y2) ∧ b10_ ≠ b3_ ∧ Own w0.heap.size 31 2 Span.cells w v15_ z2 ∧ Own w0.heap.size 31 2 Span.cells w v23_ z3 ∧ Own w0.heap.size 31 2 Span.cells w v4_4 out_4 ∧ Own w0.heap.size 31 2 Span.cells w v5_ z ∧ Own w0.heap.size 3 1 (fun x : Int => [Value.int .i64 x]) w vh_4 v4.days ∧ Value.ownBlock v15_ ≠ some b3_ ∧ Value.ownBlock v15_ ≠ some b10_ ∧ Value.ownBlock v23_ ≠ some b3_ ∧ Value.ownBlock v23_ ≠ some b10_ ∧ Value.ownBlock v4_4 ≠ some b3_ ∧ Value.ownBlock v4_4 ≠ some b10_ ∧ Value.ownBlock v5_ ≠ some b3_ ∧ Value.ownBlock v5_ ≠ some b10_ ∧ Value.ownBlock vh_4 ≠ some b3_ ∧ Value.ownBlock vh_4 ≠ some b10_ ∧ (∀ b, Value.ownBlock v15_ = some b → Value.ownBlock v23_ ≠ some b) ∧ (∀ b, Value.ownBlock v15_ = some b → Value.ownBlock v4_4 ≠ some b) ∧ (∀ b, Value.ownBlock v15_ = some b → Value.ownBlock v5_ ≠ some b) ∧ (∀ b, Value.ownBlock v15_ = some b → Value.ownBlock vh_4 ≠ some b) ∧ (∀ b, Value.ownBlock v23_ = some b → Value.ownBlock v4_4 ≠ some b) ∧ (∀ b, Value.ownBlock v23_ = some b → Value.ownBlock v5_ ≠ some b) ∧ (∀ b, Value.ownBlock v23_ = some b → Value.ownBlock vh_4 ≠ some b) ∧ (∀ b, Value.ownBlock v4_4 = some b → Value.ownBlock v5_ ≠ some b) ∧ (∀ b, Value.ownBlock v4_4 = some b → Value.ownBlock vh_4 ≠ some b) ∧ (∀ b, Value.ownBlock v5_ = some b → Value.ownBlock vh_4 ≠ some b) ∧ Ext noG w0 w ∧ sickness_Payable_j day_ rec_3 out_4 wait_3 v4 = some r) ?_ ?_)
        · refine WP.block (WP.seq (WP.rb mixed [[], [0]] [[8], []] [(37, .int .i64 wait_2), (38, .bool (decide (0 < wait_2)))] (by kernel_rfl) ⟨mE rfl rfl h8,
 fun ρz wz hE hA _ ⟨u0, _⟩ => core_val rfl rfl (o_gtr u0 rfl rfl), trivial⟩ ?_))
          intro ρ19 w19 hN hf hr
          have h38 := hv hf 1 rfl rfl
          obtain ⟨h3, h4, h5, h15, h16, h17⟩ := k6 hr h3 h4 h5 h15 h16 h17 rfl
          obtain ⟨h8, h23, h24, h25, h10, h11⟩ := k6 hr h8 h23 h24 h25 h10 h11 rfl
          have Oo_O15 := O15
          have Oo_O23 := O23
          have Oo_O4 := O4
          have Oo_O5 := O5
          have Oo_OB_b3__0 := OB_b3__0
          have Hb_b3_n := Hb_b3_.exn hN
          have Hb_b10_n := Hb_b10_.exn hN
          have hW := hW.trans hN
          have O15 := Oo_O15.exn hN
          have O23 := Oo_O23.exn hN
          have O4 := Oo_O4.exn hN
          have O5 := Oo_O5.exn hN
          have OB_b3__0 := Oo_OB_b3__0.exn hN
          have Hb_b3_ := Hb_b3_n
          have Hb_b10_ := Hb_b10_n
          refine WP.cond rfl h38 (fun hb => ?_) (fun hb => ?_)
          · have hF := (if_pos hb).symm.trans hF
            refine WP.rv mixed [[], [0], [0, 1]] [[], [0], [1]] [[8], [], []] [(39, .int .i64 wait_2), (40, .int .i64 (i64 (wait_2 - 1))), (8, .int .i64 (i64 (wait_2 - 1)))] (by kernel_rfl) ⟨mE rfl rfl h8,
 fun ρz wz hE hA _ ⟨u0, _⟩ => core_val rfl rfl (o_sub u0 rfl rfl),
 aU rfl rfl rfl, trivial⟩ ?_
            intro ρ20 w20 hN hf hr
            have h8 := hv hf 2 rfl rfl
            obtain ⟨h3, h4, h5, h15, h16, h17⟩ := k6 hr h3 h4 h5 h15 h16 h17 rfl
            obtain ⟨h23, h24, h25, h10, h11⟩ := k5 hr h23 h24 h25 h10 h11 rfl
            have Oo_O15 := O15
            have Oo_O23 := O23
            have Oo_O4 := O4
            have Oo_O5 := O5
            have Oo_OB_b3__0 := OB_b3__0
            have Hb_b3_n := Hb_b3_.exn hN
            have Hb_b10_n := Hb_b10_.exn hN
            have hW := hW.trans hN
            have O15 := Oo_O15.exn hN
            have O23 := Oo_O23.exn hN
            have O4 := Oo_O4.exn hN
            have O5 := Oo_O5.exn hN
            have OB_b3__0 := Oo_OB_b3__0.exn hN
            have Hb_b3_ := Hb_b3_n
            have Hb_b10_ := Hb_b10_n
            exact ⟨out_3, i64 (wait_2 - 1), v3, v4_3, vh_3, h3, h4, h5, h15, h16, h17, h8, h23, h24, h25, h10, h11, Hb_b3_, Hb_b10_, hne_b10__b3_, O15, O23, O4, O5, OB_b3__0, hnb_O15_b3_, hnb_O15_b10_, hnb_O23_b3_, hnb_O23_b10_, hnb_O4_b3_, hnb_O4_b10_, hnb_O5_b3_, hnb_O5_b10_, hnb_OB_b3__0_b3_, hnb_OB_b3__0_b10_, hdd_O15_O23, hdd_O15_O4, hdd_O15_O5, hdd_O15_OB_b3__0, hdd_O23_O4, hdd_O23_O5, hdd_O23_OB_b3__0, hdd_O4_O5, hdd_O4_OB_b3__0, hdd_O5_OB_b3__0, hW, hF⟩
          have hF := (if_neg (Bool.eq_false_iff.1 hb)).symm.trans hF
          refine WP.seq ?_
          obtain ⟨z4, hz4, hF⟩ := obind hF
          refine WP.region mixed [[], [0]] [[], [0]] [[11], [3]] [1] [] [val 41 (.int .i64 day_), (42, fun u wz => ∃ vq : Value, u = .bool z4.1 ∧ Mb wz b3_ 57 [(vq : Value)] ∧ Own w0.heap.size 3 1 (fun x : Int => [Value.int .i64 x]) wz vq z4.2.days ∧ ∀ b, vq.ownBlock = some b → (vh_3.ownBlock = some b ∨ w19.heap.size ≤ b))] (fun x => Value.ownBlock vh_3 = some x ∨ x = b3_) (by kernel_rfl) ⟨sV, fun _ _ _ hE ⟨vq, h0, h1, h2, h3⟩ => ⟨vq, h0, h1.exn hE, h2.exn hE, h3⟩, trivial⟩ ⟨mE rfl rfl h11,
 fun ρz wz hE hA ⟨e3, _⟩ ⟨u0, _⟩ => core_callX rfl rfl (fun _ h => h) (call_args2 (e3.trans h3) u0) cf_34 ((sickness_window_room_ok  _ _ (Hb_b3_.exn (hA rfl)) (OB_b3__0.exn (hA rfl)) hnb_OB_b3__0_b3_ hz4).mono (fun e w1 ⟨v, he, hE1, vq, hv, hM, hO, hf⟩ => ⟨v, he, hE1, vq, hv, hM, hO, fun b hb => (hf b hb).imp id (Nat.le_trans hE.size)⟩)), trivial⟩ ?_
          intro ρ21 w21 hE hN hf hr
          obtain ⟨vb_, hrv, Hbx, OBx_vb_, hfr_vb_⟩ : (fun (u : Value) (wz : World) => ∃ vq : Value, u = .bool z4.1 ∧ Mb wz b3_ 57 [(vq : Value)] ∧ Own w0.heap.size 3 1 (fun x : Int => [Value.int .i64 x]) wz vq z4.2.days ∧ ∀ b, vq.ownBlock = some b → (vh_3.ownBlock = some b ∨ w19.heap.size ≤ b)) (ρ21 42) w21 := hf 1 rfl
          have h42 : ρ21 42 = .bool z4.1 := hrv
          obtain ⟨h3, h4, h5, h15, h16, h17⟩ := k6 hr h3 h4 h5 h15 h16 h17 rfl
          obtain ⟨h8, h23, h24, h25, h10, h11⟩ := k6 hr h8 h23 h24 h25 h10 h11 rfl
          skip
          have Oo_O15 := O15
          have Oo_O23 := O23
          have Oo_O4 := O4
          have Oo_O5 := O5
          have Oo_OB_b3__0 := OB_b3__0
          have Hb_b10_n := Hb_b10_.ext hE (fun h => h.elim (fun h => hnb_OB_b3__0_b10_ h) (fun h => (fun h => hne_b10__b3_ h) h))
          have hW := Ext.own hW hE (fun x h => h.elim (fun h => (Oo_OB_b3__0.lt h).1) (fun h => h.symm ▸ hB_b3_))
          have O15 := Oo_O15.ext hE (fun b hb h => h.elim (fun h => hdd_O15_OB_b3__0 b hb h) (fun h => hnb_O15_b3_ (h ▸ hb)))
          have O23 := Oo_O23.ext hE (fun b hb h => h.elim (fun h => hdd_O23_OB_b3__0 b hb h) (fun h => hnb_O23_b3_ (h ▸ hb)))
          have O4 := Oo_O4.ext hE (fun b hb h => h.elim (fun h => hdd_O4_OB_b3__0 b hb h) (fun h => hnb_O4_b3_ (h ▸ hb)))
          have O5 := Oo_O5.ext hE (fun b hb h => h.elim (fun h => hdd_O5_OB_b3__0 b hb h) (fun h => hnb_O5_b3_ (h ▸ hb)))
          have hnb_OB_b3__0_b3_ : Value.ownBlock vb_ ≠ some b3_ := fun h1 => (hfr_vb_ _ h1).elim (fun h => hnb_OB_b3__0_b3_ h) (fun h => absurd Hb_b3_.lt (Nat.not_lt.2 h))
          have hnb_OB_b3__0_b10_ : Value.ownBlock vb_ ≠ some b10_ := fun h1 => (hfr_vb_ _ h1).elim (fun h => hnb_OB_b3__0_b10_ h) (fun h => absurd Hb_b10_.lt (Nat.not_lt.2 h))
          have hdd_O15_OB_b3__0 : ∀ b, Value.ownBlock v15_ = some b → Value.ownBlock vb_ ≠ some b := fun b h1 h2 => (hfr_vb_ _ h2).elim (fun h => absurd h (hdd_O15_OB_b3__0 b h1)) (fun h => absurd (Oo_O15.lt h1).2 (Nat.not_lt.2 h))
          have hdd_O23_OB_b3__0 : ∀ b, Value.ownBlock v23_ = some b → Value.ownBlock vb_ ≠ some b := fun b h1 h2 => (hfr_vb_ _ h2).elim (fun h => absurd h (hdd_O23_OB_b3__0 b h1)) (fun h => absurd (Oo_O23.lt h1).2 (Nat.not_lt.2 h))
          have hdd_O4_OB_b3__0 : ∀ b, Value.ownBlock v4_3 = some b → Value.ownBlock vb_ ≠ some b := fun b h1 h2 => (hfr_vb_ _ h2).elim (fun h => absurd h (hdd_O4_OB_b3__0 b h1)) (fun h => absurd (Oo_O4.lt h1).2 (Nat.not_lt.2 h))
          have hdd_O5_OB_b3__0 : ∀ b, Value.ownBlock v5_ = some b → Value.ownBlock vb_ ≠ some b := fun b h1 h2 => (hfr_vb_ _ h2).elim (fun h => absurd h (hdd_O5_OB_b3__0 b h1)) (fun h => absurd (Oo_O5.lt h1).2 (Nat.not_lt.2 h))
          have Hb_b10_ := Hb_b10_n
          have Hb_b3_ := Hbx
          have OB_b3__0 := OBx_vb_
          refine WP.cond rfl h42 (fun hb => ?_) (fun hb => ?_)
          · have hF := (if_pos hb).symm.trans hF
            refine WP.seq ?_
            obtain ⟨l, hl, hF⟩ := obind hF
            refine WP.region mixed [[], [0], [], [2], [1, 3], [4], [1, 4, 5]] [[], [0], [], [2], [1, 3], [], [4, 5]] [[3], [], [11], [], [], [3], []] [4, 6] [(4, 6)] [val 43 (.pointer (some ((⟨b3_, 0, none⟩ : Addr).add 0))), val 44 (vb_), val 45 (.int .i64 day_), (46, fun u wz => ∃ b, u = .slice (some ⟨b, 0, none⟩) 1 1 ∧ w21.heap.size ≤ b ∧ Mb wz b 3 (([day_]).flatMap (fun x : Int => [Value.int .i64 x]))), (47, fun u wz => (Own w0.heap.size 3 1 (fun x : Int => [Value.int .i64 x]) wz u l ∧ ∀ b, u.ownBlock = some b → (vb_.ownBlock = some b ∨ w21.heap.size ≤ b)) ∧ Mb wz b3_ 57 [(vb_ : Value)]), val 48 (.pointer (some ((⟨b3_, 0, none⟩ : Addr).add 0))), (47, fun u wz => Mb wz b3_ 57 [(u : Value)] ∧ Own w0.heap.size 3 1 (fun x : Int => [Value.int .i64 x]) wz u l ∧ ∀ b, u.ownBlock = some b → (vb_.ownBlock = some b ∨ w21.heap.size ≤ b))] (fun x => Value.ownBlock vb_ = some x ∨ x = b3_) (by kernel_rfl) ⟨sV, sV, sV, fun _ _ _ hE ⟨b, hz, hs, hM⟩ => ⟨b, hz, hs, hM.ext hE (fun h => h.elim (fun h => absurd (OB_b3__0.lt h).2 (Nat.not_lt.2 hs)) (fun h => absurd (h ▸ Hb_b3_.lt) (Nat.not_lt.2 hs)))⟩, fun _ _ _ hE ⟨⟨hO, hf⟩, hM⟩ => ⟨⟨hO.exn hE, hf⟩, hM.exn hE⟩, sV, fun _ _ _ hE ⟨h1, h2, h3⟩ => ⟨h1.exn hE, h2.exn hE, h3⟩, trivial⟩ ⟨fun ρz wz hE hA ⟨e3, _⟩ _ => core_val rfl rfl (o_fieldAddr (e3.trans h3) (fa_57_0 _ _)),
 fun ρz wz hE hA _ ⟨u0, _⟩ => core_val rfl rfl (o_load u0 (run_load1 (lr_55 _ _) (CA.sub ((Hb_b3_.exn (hA rfl)).ca) 0 1))),
 mE rfl rfl h11,
 fun ρz wz hE hA _ ⟨u2, _⟩ => core_slice rfl rfl hE (o_buildSlice (build_parts1 u2) (bs_55_1 _ _)),
 fun ρz wz hE hA _ ⟨u1, ⟨bz3, hz3, hge3, hM3⟩, _⟩ => core_appendX (n := 1) (cells := fun x : Int => [Value.int .i64 x]) (B := w0.heap.size) (w0 := w21) rfl rfl (fun b hb => .inl hb) u1 hz3 (fun _ => rfl) one_3 si_55 se_3 (by decide) (by decide) (OB_b3__0.exn (hA rfl)) ⟨_, (Mb.rep (n := 1) (cells := fun x : Int => [Value.int .i64 x]) (hn := fun _ => rfl) (G := noG) hM3 rfl (Nat.le_of_ble_eq_true rfl) (fun h => h))⟩ hl (Nat.le_trans hW.size hE.size) hE.size (fun v1 w1 hE1 h1 h2 => ⟨⟨h1, h2⟩, (Hb_b3_.exn (hA rfl)).ext hE1 (fun h => hnb_OB_b3__0_b3_ h)⟩),
 fun ρz wz hE hA ⟨e3, _⟩ _ => core_val rfl rfl (o_fieldAddr (e3.trans h3) (fa_57_0 _ _)),
 fun ρz wz hE hA _ ⟨⟨⟨hO4, hfr4⟩, hMb4⟩, u5, _⟩ => core_storeX (k := 0) (vs := [ρz 47]) (cs0 := [(vb_ : Value)]) rfl rfl (fun _ h => .inr h) u5 rfl rfl hMb4 (stv_55 (Own.shp hO4)) (Nat.le_of_ble_eq_true rfl) rfl (one_val (oneC_slice (Own.shp hO4))) (fun w1 hE1 hM => ⟨hM, hO4.ext hE1 (fun b1 hb h0 => by have h1 := h0 ▸ hb; exact (hfr4 _ h1).elim (fun h => hnb_OB_b3__0_b3_ h) (fun h => absurd Hb_b3_.lt (Nat.not_lt.2 h))), hfr4⟩), trivial⟩ ?_
            intro ρ22 w22 hE hN hf hr
            obtain ⟨h3, h4, h5, h15, h16, h17⟩ := k6 hr h3 h4 h5 h15 h16 h17 rfl
            obtain ⟨h8, h23, h24, h25, h10, h11⟩ := k6 hr h8 h23 h24 h25 h10 h11 rfl
            obtain ⟨vb_2, hvx⟩ : ∃ v, ρ22 47 = v := ⟨_, rfl⟩
            have hqx : (fun (u : Value) (wz : World) => Mb wz b3_ 57 [(u : Value)] ∧ Own w0.heap.size 3 1 (fun x : Int => [Value.int .i64 x]) wz u l ∧ ∀ b, u.ownBlock = some b → (vb_.ownBlock = some b ∨ w21.heap.size ≤ b)) (ρ22 47) w22 := hf 6 rfl
            rw [hvx] at hqx
            obtain ⟨Hbx, OBx_vb_2, hfr_vb_2⟩ := hqx
            have Oo_O15 := O15
            have Oo_O23 := O23
            have Oo_O4 := O4
            have Oo_O5 := O5
            have Oo_OB_b3__0 := OB_b3__0
            have Hb_b10_n := Hb_b10_.ext hE (fun h => h.elim (fun h => hnb_OB_b3__0_b10_ h) (fun h => (fun h => hne_b10__b3_ h) h))
            have hW := Ext.own hW hE (fun x h => h.elim (fun h => (Oo_OB_b3__0.lt h).1) (fun h => h.symm ▸ hB_b3_))
            have O15 := Oo_O15.ext hE (fun b hb h => h.elim (fun h => hdd_O15_OB_b3__0 b hb h) (fun h => hnb_O15_b3_ (h ▸ hb)))
            have O23 := Oo_O23.ext hE (fun b hb h => h.elim (fun h => hdd_O23_OB_b3__0 b hb h) (fun h => hnb_O23_b3_ (h ▸ hb)))
            have O4 := Oo_O4.ext hE (fun b hb h => h.elim (fun h => hdd_O4_OB_b3__0 b hb h) (fun h => hnb_O4_b3_ (h ▸ hb)))
            have O5 := Oo_O5.ext hE (fun b hb h => h.elim (fun h => hdd_O5_OB_b3__0 b hb h) (fun h => hnb_O5_b3_ (h ▸ hb)))
            have hnb_OB_b3__0_b3_ : Value.ownBlock vb_2 ≠ some b3_ := fun h1 => (hfr_vb_2 _ h1).elim (fun h => hnb_OB_b3__0_b3_ h) (fun h => absurd Hb_b3_.lt (Nat.not_lt.2 h))
            have hnb_OB_b3__0_b10_ : Value.ownBlock vb_2 ≠ some b10_ := fun h1 => (hfr_vb_2 _ h1).elim (fun h => hnb_OB_b3__0_b10_ h) (fun h => absurd Hb_b10_.lt (Nat.not_lt.2 h))
            have hdd_O15_OB_b3__0 : ∀ b, Value.ownBlock v15_ = some b → Value.ownBlock vb_2 ≠ some b := fun b h1 h2 => (hfr_vb_2 _ h2).elim (fun h => absurd h (hdd_O15_OB_b3__0 b h1)) (fun h => absurd (Oo_O15.lt h1).2 (Nat.not_lt.2 h))
            have hdd_O23_OB_b3__0 : ∀ b, Value.ownBlock v23_ = some b → Value.ownBlock vb_2 ≠ some b := fun b h1 h2 => (hfr_vb_2 _ h2).elim (fun h => absurd h (hdd_O23_OB_b3__0 b h1)) (fun h => absurd (Oo_O23.lt h1).2 (Nat.not_lt.2 h))
            have hdd_O4_OB_b3__0 : ∀ b, Value.ownBlock v4_3 = some b → Value.ownBlock vb_2 ≠ some b := fun b h1 h2 => (hfr_vb_2 _ h2).elim (fun h => absurd h (hdd_O4_OB_b3__0 b h1)) (fun h => absurd (Oo_O4.lt h1).2 (Nat.not_lt.2 h))
            have hdd_O5_OB_b3__0 : ∀ b, Value.ownBlock v5_ = some b → Value.ownBlock vb_2 ≠ some b := fun b h1 h2 => (hfr_vb_2 _ h2).elim (fun h => absurd h (hdd_O5_OB_b3__0 b h1)) (fun h => absurd (Oo_O5.lt h1).2 (Nat.not_lt.2 h))
            have Hb_b10_ := Hb_b10_n
            have Hb_b3_ := Hbx
            have OB_b3__0 := OBx_vb_2
            obtain ⟨l2, hl2, hF⟩ := obind hF
            refine WP.region mixed [[], [], [], [2], [1, 3], [4], [0, 5], [0, 6]] [[], [], [], [2], [1, 3], [4], [0, 5], [6]] [[4], [11], [11], [], [], [], [], []] [6] [] [val 49 (v4_3), val 50 (.int .i64 day_), val 51 (.int .i64 day_), val 52 (.int .i64 (i64 (day_ + 1))), val 53 (Span.val (⟨day_, i64 (day_ + 1)⟩ : Span)), (54, fun u wz => ∃ b, u = .slice (some ⟨b, 0, none⟩) 1 1 ∧ w22.heap.size ≤ b ∧ Mb wz b 31 (([(⟨day_, i64 (day_ + 1)⟩ : Span)]).flatMap Span.cells)), (55, fun u wz => Own w0.heap.size 31 2 Span.cells wz u l2 ∧ ∀ b, u.ownBlock = some b → (v4_3.ownBlock = some b ∨ w22.heap.size ≤ b)), (4, fun u wz => Own w0.heap.size 31 2 Span.cells wz u l2 ∧ ∀ b, u.ownBlock = some b → (v4_3.ownBlock = some b ∨ w22.heap.size ≤ b))] (fun b => Value.ownBlock v4_3 = some b) (by kernel_rfl) ⟨sV, sV, sV, sV, sV, fun _ _ _ hE ⟨b, hz, hs, hM⟩ => ⟨b, hz, hs, hM.ext hE (fun hg => absurd (O4.lt hg).2 (Nat.not_lt.2 hs))⟩, fun _ _ _ hE ⟨hO, hf⟩ => ⟨hO.exn hE, hf⟩, fun _ _ _ hE ⟨hO, hf⟩ => ⟨hO.exn hE, hf⟩, trivial⟩ ⟨mE rfl rfl h4,
 mE rfl rfl h11,
 mE rfl rfl h11,
 fun ρz wz hE hA _ ⟨u2, _⟩ => core_val rfl rfl (o_add u2 rfl rfl),
 fun ρz wz hE hA _ ⟨u1, u3, _⟩ => core_val rfl rfl (o_build (build_parts2 u1 u3) (bd_31_0_1 _ _ _)),
 fun ρz wz hE hA _ ⟨u4, _⟩ => core_slice rfl rfl hE (o_buildSlice (build_parts1 u4) (bs_32_1 _ _)),
 fun ρz wz hE hA _ ⟨u0, ⟨bz5, hz5, hge5, hM5⟩, _⟩ => core_append (n := 2) (cells := Span.cells) (B := w0.heap.size) (w0 := w22) rfl rfl (fun b hb => hb) u0 hz5 (fun _ => rfl) one_31 si_32 se_31 (by decide) (by decide) (O4.exn (hA rfl)) ⟨_, (Mb.rep (n := 2) (cells := Span.cells) (hn := fun _ => rfl) (G := noG) hM5 rfl (Nat.le_of_ble_eq_true rfl) (fun h => h))⟩ hl2 (Nat.le_trans hW.size hE.size) hE.size (fun v1 w1 h1 h2 => ⟨h1, h2⟩),
 fun ρz wz hE hA _ ⟨⟨hO6, hfr6⟩, _⟩ => core_copy rfl rfl (o_assign rfl) ⟨hO6, hfr6⟩, trivial⟩ ?_
            intro ρ23 w23 hE hN hf hr
            obtain ⟨v4_5, h4⟩ : ∃ v, ρ23 4 = v := ⟨_, rfl⟩
            have hq4 : (fun u wz => Own w0.heap.size 31 2 Span.cells wz u l2 ∧ ∀ b, u.ownBlock = some b → (v4_3.ownBlock = some b ∨ w22.heap.size ≤ b)) (ρ23 4) w23 := hf 7 rfl
            rw [h4] at hq4
            obtain ⟨hq4, hfr4⟩ := hq4
            obtain ⟨h3, h5, h15, h16, h17, h8⟩ := k6 hr h3 h5 h15 h16 h17 h8 rfl
            obtain ⟨h23, h24, h25, h10, h11⟩ := k5 hr h23 h24 h25 h10 h11 rfl
            have Oo_O15 := O15
            have Oo_O23 := O23
            have Oo_O4 := O4
            have Oo_O5 := O5
            have Oo_OB_b3__0 := OB_b3__0
            have Hb_b3_n := Hb_b3_.ext hE (fun h => hnb_O4_b3_ h)
            have Hb_b10_n := Hb_b10_.ext hE (fun h => hnb_O4_b10_ h)
            have hW := Ext.own hW hE (fun b hb => (Oo_O4.lt hb).1)
            have O15 := Oo_O15.ext hE (fun b hb h => hdd_O15_O4 b hb h)
            have O23 := Oo_O23.ext hE (fun b hb h => hdd_O23_O4 b hb h)
            have O5 := Oo_O5.ext hE (fun b hb h => (fun b h1 h2 => hdd_O4_O5 b h2 h1) b hb h)
            have OB_b3__0 := Oo_OB_b3__0.ext hE (fun b hb h => (fun b h1 h2 => hdd_O4_OB_b3__0 b h2 h1) b hb h)
            have O4 := hq4
            have hnb_O4_b3_ : Value.ownBlock v4_5 ≠ some b3_ := fun h1 => (hfr4 _ h1).elim (fun h => hnb_O4_b3_ h) (fun h => absurd Hb_b3_.lt (Nat.not_lt.2 h))
            have hnb_O4_b10_ : Value.ownBlock v4_5 ≠ some b10_ := fun h1 => (hfr4 _ h1).elim (fun h => hnb_O4_b10_ h) (fun h => absurd Hb_b10_.lt (Nat.not_lt.2 h))
            have hdd_O15_O4 : ∀ b, Value.ownBlock v15_ = some b → Value.ownBlock v4_5 ≠ some b := fun b h1 h2 => (hfr4 _ h2).elim (fun h => absurd h (hdd_O15_O4 b h1)) (fun h => absurd (Oo_O15.lt h1).2 (Nat.not_lt.2 h))
            have hdd_O23_O4 : ∀ b, Value.ownBlock v23_ = some b → Value.ownBlock v4_5 ≠ some b := fun b h1 h2 => (hfr4 _ h2).elim (fun h => absurd h (hdd_O23_O4 b h1)) (fun h => absurd (Oo_O23.lt h1).2 (Nat.not_lt.2 h))
            have hdd_O4_O5 : ∀ b, Value.ownBlock v4_5 = some b → Value.ownBlock v5_ ≠ some b := fun b h1 h2 => (hfr4 _ h1).elim (fun h => absurd h2 (hdd_O4_O5 b h)) (fun h => absurd (Oo_O5.lt h2).2 (Nat.not_lt.2 h))
            have hdd_O4_OB_b3__0 : ∀ b, Value.ownBlock v4_5 = some b → Value.ownBlock vb_2 ≠ some b := fun b h1 h2 => (hfr4 _ h1).elim (fun h => absurd h2 (hdd_O4_OB_b3__0 b h)) (fun h => absurd (Oo_OB_b3__0.lt h2).2 (Nat.not_lt.2 h))
            have Hb_b3_ := Hb_b3_n
            have Hb_b10_ := Hb_b10_n
            exact ⟨l2, wait_2, (⟨l⟩ : sickness_window), v4_5, vb_2, h3, h4, h5, h15, h16, h17, h8, h23, h24, h25, h10, h11, Hb_b3_, Hb_b10_, hne_b10__b3_, O15, O23, O4, O5, OB_b3__0, hnb_O15_b3_, hnb_O15_b10_, hnb_O23_b3_, hnb_O23_b10_, hnb_O4_b3_, hnb_O4_b10_, hnb_O5_b3_, hnb_O5_b10_, hnb_OB_b3__0_b3_, hnb_OB_b3__0_b10_, hdd_O15_O23, hdd_O15_O4, hdd_O15_O5, hdd_O15_OB_b3__0, hdd_O23_O4, hdd_O23_O5, hdd_O23_OB_b3__0, hdd_O4_O5, hdd_O4_OB_b3__0, hdd_O5_OB_b3__0, hW, hF⟩
          have hF := (if_neg (Bool.eq_false_iff.1 hb)).symm.trans hF
          refine WP.skip ?_
          exact ⟨out_3, wait_2, z4.2, v4_3, vb_, h3, h4, h5, h15, h16, h17, h8, h23, h24, h25, h10, h11, Hb_b3_, Hb_b10_, hne_b10__b3_, O15, O23, O4, O5, OB_b3__0, hnb_O15_b3_, hnb_O15_b10_, hnb_O23_b3_, hnb_O23_b10_, hnb_O4_b3_, hnb_O4_b10_, hnb_O5_b3_, hnb_O5_b10_, hnb_OB_b3__0_b3_, hnb_OB_b3__0_b10_, hdd_O15_O23, hdd_O15_O4, hdd_O15_O5, hdd_O15_OB_b3__0, hdd_O23_O4, hdd_O23_O5, hdd_O23_OB_b3__0, hdd_O4_O5, hdd_O4_OB_b3__0, hdd_O5_OB_b3__0, hW, hF⟩
        rintro ρ17 w17 ⟨out_4, wait_3, v4, v4_4, vh_4, h3, h4, h5, h15, h16, h17, h8, h23, h24, h25, h10, h11, Hb_b3_, Hb_b10_, hne_b10__b3_, O15, O23, O4, O5, OB_b3__0, hnb_O15_b3_, hnb_O15_b10_, hnb_O23_b3_, hnb_O23_b10_, hnb_O4_b3_, hnb_O4_b10_, hnb_O5_b3_, hnb_O5_b10_, hnb_OB_b3__0_b3_, hnb_OB_b3__0_b10_, hdd_O15_O23, hdd_O15_O4, hdd_O15_O5, hdd_O15_OB_b3__0, hdd_O23_O4, hdd_O23_O5, hdd_O23_OB_b3__0, hdd_O4_O5, hdd_O4_OB_b3__0, hdd_O5_OB_b3__0, hW, hF⟩
        rw [sickness_Payable_j] at hF
        refine WP.rv mixed [[], [0], [0, 1]] [[], [0], [1]] [[11], [], []] [(35, .int .i64 day_), (36, .int .i64 (i64 (day_ + 1))), (11, .int .i64 (i64 (day_ + 1)))] (by kernel_rfl) ⟨mE rfl rfl h11,
 fun ρz wz hE hA _ ⟨u0, _⟩ => core_val rfl rfl (o_add u0 rfl rfl),
 aU rfl rfl rfl, trivial⟩ ?_
        intro ρ18 w18 hN hf hr
        have h11 := hv hf 2 rfl rfl
        obtain ⟨h3, h4, h5, h15, h16, h17⟩ := k6 hr h3 h4 h5 h15 h16 h17 rfl
        obtain ⟨h8, h23, h24, h25, h10⟩ := k5 hr h8 h23 h24 h25 h10 rfl
        have Oo_O15 := O15
        have Oo_O23 := O23
        have Oo_O4 := O4
        have Oo_O5 := O5
        have Oo_OB_b3__0 := OB_b3__0
        have Hb_b3_n := Hb_b3_.exn hN
        have Hb_b10_n := Hb_b10_.exn hN
        have hW := hW.trans hN
        have O15 := Oo_O15.exn hN
        have O23 := Oo_O23.exn hN
        have O4 := Oo_O4.exn hN
        have O5 := Oo_O5.exn hN
        have OB_b3__0 := Oo_OB_b3__0.exn hN
        have Hb_b3_ := Hb_b3_n
        have Hb_b10_ := Hb_b10_n
        exact ⟨out_4, wait_3, i64 (day_ + 1), v4, v4_4, vh_4, h3, h4, h5, h15, h16, h17, h8, h23, h24, h25, h10, h11, Hb_b3_, Hb_b10_, hne_b10__b3_, O15, O23, O4, O5, OB_b3__0, hnb_O15_b3_, hnb_O15_b10_, hnb_O23_b3_, hnb_O23_b10_, hnb_O4_b3_, hnb_O4_b10_, hnb_O5_b3_, hnb_O5_b10_, hnb_OB_b3__0_b3_, hnb_OB_b3__0_b10_, hdd_O15_O23, hdd_O15_O4, hdd_O15_O5, hdd_O15_OB_b3__0, hdd_O23_O4, hdd_O23_O5, hdd_O23_OB_b3__0, hdd_O4_O5, hdd_O4_OB_b3__0, hdd_O5_OB_b3__0, hW, (by first | exact hF | (rw [hrec_3]; exact hF))⟩
      have hF := (if_neg (Bool.eq_false_iff.1 hb)).symm.trans hF
      refine WP.exit (thenQ_exit (thenQ_exit (blockQ_hit (WP.rb mixed [[], [0]] [[25], []] [(56, .int .i64 (i64 (x2 + 1))), (25, .int .i64 (i64 (x2 + 1)))] (by kernel_rfl) ⟨fun ρz wz hE hA ⟨e25, _⟩ _ => core_val rfl rfl (o_add (e25.trans h25) rfl rfl),
 mU rfl rfl rfl, trivial⟩ ?_))))
      intro ρ24 w24 hN hf hr
      have h25 := hv hf 1 rfl rfl
      obtain ⟨h3, h4, h5, h15, h16, h17⟩ := k6 hr h3 h4 h5 h15 h16 h17 rfl
      obtain ⟨h8, h23, h24⟩ := k3 hr h8 h23 h24 rfl
      have Oo_O15 := O15
      have Oo_O23 := O23
      have Oo_O4 := O4
      have Oo_O5 := O5
      have Oo_OB_b3__0 := OB_b3__0
      have Hb_b3_n := Hb_b3_.exn hN
      have hW := hW.trans hN
      have O15 := Oo_O15.exn hN
      have O23 := Oo_O23.exn hN
      have O4 := Oo_O4.exn hN
      have O5 := Oo_O5.exn hN
      have OB_b3__0 := Oo_OB_b3__0.exn hN
      have Hb_b3_ := Hb_b3_n
      exact ⟨out_3, wait_2, i64 (x2 + 1), v3, v4_3, vh_3, h3, h4, h5, h15, h16, h17, h8, h23, h24, h25, Hb_b3_, O15, O23, O4, O5, OB_b3__0, hnb_O15_b3_, hnb_O23_b3_, hnb_O4_b3_, hnb_O5_b3_, hnb_OB_b3__0_b3_, hdd_O15_O23, hdd_O15_O4, hdd_O15_O5, hdd_O15_OB_b3__0, hdd_O23_O4, hdd_O23_O5, hdd_O23_OB_b3__0, hdd_O4_O5, hdd_O4_OB_b3__0, hdd_O5_OB_b3__0, hW, (by first | exact hF | (rw [hrec_2]; exact hF))⟩
    have hF := (if_neg (Bool.eq_false_iff.1 hb)).symm.trans hF
    refine WP.exit (thenQ_exit (thenQ_exit (blockQ_hit (WP.rb mixed [[], [0]] [[17], []] [(57, .int .i64 (i64 (x + 1))), (17, .int .i64 (i64 (x + 1)))] (by kernel_rfl) ⟨fun ρz wz hE hA ⟨e17, _⟩ _ => core_val rfl rfl (o_add (e17.trans h17) rfl rfl),
 mU rfl rfl rfl, trivial⟩ ?_))))
    intro ρ25 w25 hN hf hr
    have h17 := hv hf 1 rfl rfl
    obtain ⟨h3, h4, h5, h15, h16⟩ := k5 hr h3 h4 h5 h15 h16 rfl
    have Oo_O15 := O15
    have Oo_O23 := O23
    have Oo_O4 := O4
    have Oo_O5 := O5
    have Oo_OB_b3__0 := OB_b3__0
    have Hb_b3_n := Hb_b3_.exn hN
    have hW := hW.trans hN
    have O15 := Oo_O15.exn hN
    have O4 := Oo_O4.exn hN
    have O5 := Oo_O5.exn hN
    have OB_b3__0 := Oo_OB_b3__0.exn hN
    have Hb_b3_ := Hb_b3_n
    exact ⟨out_2, i64 (x + 1), v2, v4_2, vh_2, h3, h4, h5, h15, h16, h17, Hb_b3_, O15, O4, O5, OB_b3__0, hnb_O15_b3_, hnb_O4_b3_, hnb_O5_b3_, hnb_OB_b3__0_b3_, hdd_O15_O4, hdd_O15_O5, hdd_O15_OB_b3__0, hdd_O4_O5, hdd_O4_OB_b3__0, hdd_O5_OB_b3__0, hW, (by first | exact hF | (rw [hrec_]; exact hF))⟩
  have hF := (if_neg (Bool.eq_false_iff.1 hb)).symm.trans hF
  refine WP.exit (thenQ_exit (thenQ_exit (blockQ_hit (WP.seq ?_))))
  obtain ⟨z5, hz5, hF⟩ := obind hF
  refine WP.rg mixed [[], [0], [1]] [[], [0], [1]] [[4], [], []] [val 58 (v4_), (59, fun u wz => Own w0.heap.size 31 2 Span.cells wz u z5 ∧ ∀ b, u.ownBlock = some b → w7.heap.size ≤ b), (2, fun u wz => Own w0.heap.size 31 2 Span.cells wz u z5 ∧ ∀ b, u.ownBlock = some b → w7.heap.size ≤ b)] (by kernel_rfl) ⟨sV, fun _ _ _ hE ⟨hO, hf⟩ => ⟨hO.exn hE, hf⟩, fun _ _ _ hE ⟨hO, hf⟩ => ⟨hO.exn hE, hf⟩, trivial⟩ ⟨mE rfl rfl h4,
 fun ρz wz hE hA _ ⟨u0, _⟩ => core_callR rfl (call_args1 u0) cf_30 ((spans_Make_ok  _ ((O4.exn (hA rfl)).rep (hn := fun _ => rfl) (G := noG) (fun _ _ h => h)).no hz5).mono (fun e w1 ⟨v, he, hE1, hO⟩ => ⟨v, he, hE1, hO.base (Nat.le_trans hW.size hE.size), fun b hb => Nat.le_trans hE.size (hO.lt hb).1⟩)),
 fun ρz wz hE hA _ ⟨⟨hO1, hfr1⟩, _⟩ => core_copy rfl rfl (o_assign rfl) ⟨hO1, hfr1⟩, trivial⟩ ?_
  intro ρ26 w26 hN hf hr
  obtain ⟨v2_, h2⟩ : ∃ v, ρ26 2 = v := ⟨_, rfl⟩
  have hq2 : (fun u wz => Own w0.heap.size 31 2 Span.cells wz u z5 ∧ ∀ b, u.ownBlock = some b → w7.heap.size ≤ b) (ρ26 2) w26 := hf 2 rfl
  rw [h2] at hq2
  obtain ⟨hq2, hfr2⟩ := hq2
  have Oo_O15 := O15
  have Oo_O4 := O4
  have Oo_O5 := O5
  have Oo_OB_b3__0 := OB_b3__0
  have hW := hW.trans hN
  have O2 := hq2
  refine WP.ret ?_
  show retQ Try.prog 60 Try.f17 (fun v w1 => Own w0.heap.size 31 2 Span.cells w1 v r ∧ Ext noG w0 w1) .ret ρ26 w26
  obtain rfl := Option.some.inj hF
  exact res1 rfl (by decide) h2 ⟨O2, hW⟩

set_option maxHeartbeats 4000000 in
theorem pensionlaw25_awake_ok {w0 : World} {r : Bool} (hF : pensionlaw25_awake = some r) :
    Calls Try.prog 11 #[] w0 fun e w1 => e = .returned (.bool r) ∧ Ext noG w0 w1 := by
  refine (Calls.start (P := Try.prog) (args := []) (R := fun v w1 => v = .bool r ∧ Ext noG w0 w1) (n := 30) (w := w0) Try.func11 rfl rfl (Nat.le_of_ble_eq_true rfl) (fun ρ hargs => ?_)).mono (fun e w1 ⟨v, he, hv, hE⟩ => ⟨hv ▸ he, hE⟩)
  have hW := Ext.refl noG w0
  rw [pensionlaw25_awake] at hF
  refine WP.seq (WP.rb mixed [[]] [[]] [(0, .bool false)] (by kernel_rfl) ⟨aC rfl rfl (fun _ => rfl), trivial⟩ ?_)
  intro ρ1 w1 hN hf hr
  have hW := hW.trans hN
  refine WP.seq (WP.rg mixed [[], [0], [1], [2]] [[], [0], [1], [2]] [[], [], [], []] [val 3 (Span.val (⟨100, 110⟩ : Span)), val 4 (api_Fact.val (⟨0, 1, 1, false, 1, 8, 0, (⟨100, 110⟩ : Span), 0, 0, 0, 0, 0⟩ : api_Fact)), (5, fun u wz => ∃ b, u = .slice (some ⟨b, 0, none⟩) 1 1 ∧ w1.heap.size ≤ b ∧ Mb wz b 49 (([(⟨0, 1, 1, false, 1, 8, 0, (⟨100, 110⟩ : Span), 0, 0, 0, 0, 0⟩ : api_Fact)]).flatMap api_Fact.cells)), (1, fun u wz => ∃ b, u = .slice (some ⟨b, 0, none⟩) 1 1 ∧ w1.heap.size ≤ b ∧ Mb wz b 49 (([(⟨0, 1, 1, false, 1, 8, 0, (⟨100, 110⟩ : Span), 0, 0, 0, 0, 0⟩ : api_Fact)]).flatMap api_Fact.cells))] (by kernel_rfl) ⟨sV, sV, fun _ _ _ hE ⟨b, hz, hs, hM⟩ => ⟨b, hz, hs, hM.exn hE⟩, fun _ _ _ hE ⟨b, hz, hs, hM⟩ => ⟨b, hz, hs, hM.exn hE⟩, trivial⟩ ⟨fun ρz wz hE hA _ _ => core_val rfl rfl (o_build (build_parts2 rfl rfl) (bd_31_0_1 _ _ _)),
 fun ρz wz hE hA _ ⟨u0, _⟩ => core_val rfl rfl (o_build (bpS rfl (bpS rfl (bpS rfl (bpS rfl (bpS rfl (bpS rfl (bpS u0 bp0))))))) (bd_49_0_1_2_4_5_6_7 _ _ _ _ _ _ _ _)),
 fun ρz wz hE hA _ ⟨u1, _⟩ => core_slice rfl rfl hE (o_buildSlice (build_parts1 u1) (bs_24_1 _ _)),
 fun ρz wz hE hA _ ⟨⟨bz2, hz2, hge2, hM2⟩, _⟩ => core_copy rfl rfl (o_assign rfl) ⟨bz2, hz2, hge2, hM2⟩, trivial⟩ ?_)
  intro ρ2 w2 hN hf hr
  obtain ⟨bn1, h1, hgn1, hMn1⟩ : ∃ b, ρ2 1 = .slice (some ⟨b, 0, none⟩) 1 1 ∧ w1.heap.size ≤ b ∧ Mb w2 b 49 (([(⟨0, 1, 1, false, 1, 8, 0, (⟨100, 110⟩ : Span), 0, 0, 0, 0, 0⟩ : api_Fact)]).flatMap api_Fact.cells) := hf 3 rfl
  obtain ⟨v1_, hv1⟩ : ∃ v : Value, v = .slice (some ⟨bn1, 0, none⟩) 1 1 := ⟨_, rfl⟩
  rw [← hv1] at h1
  have hq1 : Own w0.heap.size 49 14 api_Fact.cells w2 v1_ [(⟨0, 1, 1, false, 1, 8, 0, (⟨100, 110⟩ : Span), 0, 0, 0, 0, 0⟩ : api_Fact)] := hv1 ▸ hMn1.own (Nat.le_trans hW.size hgn1) rfl (Nat.le_of_ble_eq_true rfl) (fun _ => rfl)
  have hfr1 : ∀ b, v1_.ownBlock = some b → w1.heap.size ≤ b := fun b hb => by rw [hv1] at hb; simp only [Value.ownBlock, Option.some.injEq] at hb; omega
  have hW := hW.trans hN
  have Hf1 : RepSl api_Fact.R noG w2 v1_ [(⟨0, 1, 1, false, 1, 8, 0, (⟨100, 110⟩ : Span), 0, 0, 0, 0, 0⟩ : api_Fact)] := hq1.rep (fun _ _ h => h)
  obtain ⟨_, _, hs_Hf1, _, _⟩ := RepSl.shape Hf1
  refine WP.seq ?_
  obtain ⟨z, hz, hF⟩ := obind hF
  refine WP.rg mixed [[], [0], [1]] [[], [0], [1]] [[1], [], []] [val 6 (v1_), (7, fun u wz => Own w0.heap.size 31 2 Span.cells wz u z ∧ ∀ b, u.ownBlock = some b → w2.heap.size ≤ b), (2, fun u wz => Own w0.heap.size 31 2 Span.cells wz u z ∧ ∀ b, u.ownBlock = some b → w2.heap.size ≤ b)] (by kernel_rfl) ⟨sV, fun _ _ _ hE ⟨hO, hf⟩ => ⟨hO.exn hE, hf⟩, fun _ _ _ hE ⟨hO, hf⟩ => ⟨hO.exn hE, hf⟩, trivial⟩ ⟨mE rfl rfl h1,
 fun ρz wz hE hA _ ⟨u0, _⟩ => core_callR rfl (call_args1 u0) cf_17 ((sickness_Payable_ok  _ (Hf1.exn (hA rfl)).no hz).mono (fun e w1 ⟨v, he, hE1, hO⟩ => ⟨v, he, hE1, hO.base (Nat.le_trans hW.size hE.size), fun b hb => Nat.le_trans hE.size (hO.lt hb).1⟩)),
 fun ρz wz hE hA _ ⟨⟨hO1, hfr1⟩, _⟩ => core_copy rfl rfl (o_assign rfl) ⟨hO1, hfr1⟩, trivial⟩ ?_
  intro ρ3 w3 hN hf hr
  obtain ⟨v2_, h2⟩ : ∃ v, ρ3 2 = v := ⟨_, rfl⟩
  have hq2 : (fun u wz => Own w0.heap.size 31 2 Span.cells wz u z ∧ ∀ b, u.ownBlock = some b → w2.heap.size ≤ b) (ρ3 2) w3 := hf 2 rfl
  rw [h2] at hq2
  obtain ⟨hq2, hfr2⟩ := hq2
  have h1 := (hr 1 rfl).trans h1
  have Hf1 := Hf1.exn hN
  have hW := hW.trans hN
  have Hf2 : RepSl Span.R noG w3 v2_ z := hq2.rep (fun _ _ h => h)
  obtain ⟨_, _, hs_Hf2, _, _⟩ := RepSl.shape Hf2
  refine WP.seq ?_
  obtain ⟨c, hc, hF⟩ := obind hF
  obtain ⟨y, hy, hc⟩ := andB hc
  obtain ⟨ay, cy, hvy, hiy, hAy⟩ := RepSl.getFI Hf2 hy
  have hc := andE hc
  obtain ⟨c2, hc2, hF⟩ := obind hF
  obtain ⟨z2, hz2, hc2⟩ := andB hc2
  have hc2 := andE hc2
  obtain ⟨c3, hc3, hF⟩ := obind hF
  obtain ⟨z3, hz3, hc3⟩ := andB hc3
  have hc3 := andE hc3
  refine WP.rg mixed [[], [0], [1], [2], [3], [3, 4], [3, 5], [3], [3, 6, 7], [3, 8], [9], [10], [10, 11], [10, 12], [10, 13], [10, 14], [15], [16], [16, 17], [16, 18], [16, 19], [16, 20], [21]] [[], [0], [1], [2], [3], [3, 4], [3, 5], [3], [3, 6, 7], [3, 8], [9], [10], [10, 11], [10, 12], [10, 13], [10, 14], [15], [16], [16, 17], [16, 18], [16, 19], [16, 20], [21]] [[2], [], [], [], [2], [], [], [], [], [], [], [1], [], [], [], [], [], [1], [], [], [], [], []] [val 8 (v2_), val 9 (.int .i64 (z.length : Int)), val 10 (.bool ((z.length : Int) == 1)), val 11 (.bool ((z.length : Int) == 1)), val 12 (gv (((z.length : Int) == 1)) v2_), val 13 (gv (((z.length : Int) == 1)) (.pointer (some (ay.add (Int.toNat 0 * 2))))), val 14 (gv (((z.length : Int) == 1)) (Span.val y)), val 15 (gv (((z.length : Int) == 1)) (Span.val (⟨103, 110⟩ : Span))), val 16 (gv (((z.length : Int) == 1)) (.bool (Span.eqb y (⟨103, 110⟩ : Span)))), val 17 (.bool c), val 18 (.bool c), val 19 (gv (c) v1_), (20, fun u wz => (c) = true → (fun u wz => Own w0.heap.size 31 2 Span.cells wz u z2 ∧ ∀ b, u.ownBlock = some b → w3.heap.size ≤ b) u wz), val 21 (gv (c) (.int .i64 (z2.length : Int))), val 22 (gv (c) (.bool ((z2.length : Int) == 1))), val 23 (.bool c2), val 24 (.bool c2), val 25 (gv (c2) v1_), (26, fun u wz => (c2) = true → (fun u wz => Own w0.heap.size 31 2 Span.cells wz u z3 ∧ ∀ b, u.ownBlock = some b → w3.heap.size ≤ b) u wz), val 27 (gv (c2) (.int .i64 (z3.length : Int))), val 28 (gv (c2) (.bool ((z3.length : Int) == 1))), val 29 (.bool c3), val 0 (.bool c3)] (by kernel_rfl) ⟨sV, sV, sV, sV, sV, sV, sV, sV, sV, sV, sV, sV, stabI (Φ := fun u wz => Own w0.heap.size 31 2 Span.cells wz u z2 ∧ ∀ b, u.ownBlock = some b → w3.heap.size ≤ b) (fun _ _ _ hE ⟨hO, hf⟩ => ⟨hO.exn hE, hf⟩), sV, sV, sV, sV, sV, stabI (Φ := fun u wz => Own w0.heap.size 31 2 Span.cells wz u z3 ∧ ∀ b, u.ownBlock = some b → w3.heap.size ≤ b) (fun _ _ _ hE ⟨hO, hf⟩ => ⟨hO.exn hE, hf⟩), sV, sV, sV, sV, trivial⟩ ⟨mE rfl rfl h2,
 fun ρz wz hE hA _ ⟨u0, _⟩ => core_val rfl rfl (o_len (u0.trans hs_Hf2) len_32),
 fun ρz wz hE hA _ ⟨u1, _⟩ => core_val rfl rfl (o_eql u1 rfl rfl),
 mU rfl rfl rfl,
 fun ρz wz hE hA ⟨e2, _⟩ ⟨u3, _⟩ => gIf rfl rfl (yT rfl u3) fun gc F hF => core_val rfl hF (o_move (e2.trans h2)),
 fun ρz wz hE hA _ ⟨u3, u4, _⟩ => gIf rfl rfl (yT rfl u3) fun gc F hF => core_val rfl hF (o_indexAddr ((gt gc u4).trans (hvy gc)) rfl (ia_32 (hiy gc))),
 fun ρz wz hE hA _ ⟨u3, u5, _⟩ => gIf rfl rfl (yT rfl u3) fun gc F hF => core_val rfl hF (o_load (gt gc u5) (run_loadN (cs := (Span.cells y)) (lr_31 _ _) rfl (((hAy gc).exn (hA rfl)).ca))),
 fun ρz wz hE hA _ ⟨u3, _⟩ => gIf rfl rfl (yT rfl u3) fun gc F hF => core_val rfl hF (o_build (build_parts2 rfl rfl) (bd_31_0_1 _ _ _)),
 fun ρz wz hE hA _ ⟨u3, u6, u7, _⟩ => gIf rfl rfl (yT rfl u3) fun gc F hF => core_val rfl hF (o_eqS (gt gc u6) (gt gc u7) (by kernel_rfl) (eqs_31 9998 _ _ _) rfl),
 fun ρz wz hE hA _ ⟨u3, u8, _⟩ => core_valE rfl rfl (congrArg Value.bool hc) (o_pick_and u3 u8 rfl),
 mU rfl rfl rfl,
 fun ρz wz hE hA ⟨e1, _⟩ ⟨u10, _⟩ => gIf rfl rfl (yT rfl u10) fun gc F hF => core_val rfl hF (o_move (e1.trans h1)),
 fun ρz wz hE hA _ ⟨u10, u11, _⟩ => gIfR rfl (yT rfl u10) fun gc F hF => core_callR hF (call_args1 (gt gc u11)) cf_13 ((sickness_Sick_ok  _ (Hf1.exn (hA rfl)).no (hz2 gc)).mono (fun e w1 ⟨v, he, hE1, hO⟩ => ⟨v, he, hE1, hO.base (Nat.le_trans hW.size hE.size), fun b hb => Nat.le_trans hE.size (hO.lt hb).1⟩)),
 fun ρz wz hE hA _ ⟨u10, u12, _⟩ => gIf rfl rfl (yT rfl u10) fun gc F hF => let ⟨hO12, hfr12⟩ := u12 gc; core_val rfl hF (o_len ((Own.shape hO12).choose_spec.choose_spec.1) len_32),
 fun ρz wz hE hA _ ⟨u10, u13, _⟩ => gIf rfl rfl (yT rfl u10) fun gc F hF => core_val rfl hF (o_eql (gt gc u13) rfl rfl),
 fun ρz wz hE hA _ ⟨u10, u14, _⟩ => core_valE rfl rfl (congrArg Value.bool hc2) (o_pick_and u10 u14 rfl),
 mU rfl rfl rfl,
 fun ρz wz hE hA ⟨e1, _⟩ ⟨u16, _⟩ => gIf rfl rfl (yT rfl u16) fun gc F hF => core_val rfl hF (o_move (e1.trans h1)),
 fun ρz wz hE hA _ ⟨u16, u17, _⟩ => gIfR rfl (yT rfl u16) fun gc F hF => core_callR hF (call_args1 (gt gc u17)) cf_15 ((sickness_Spells_ok  _ (Hf1.exn (hA rfl)).no (hz3 gc)).mono (fun e w1 ⟨v, he, hE1, hO⟩ => ⟨v, he, hE1, hO.base (Nat.le_trans hW.size hE.size), fun b hb => Nat.le_trans hE.size (hO.lt hb).1⟩)),
 fun ρz wz hE hA _ ⟨u16, u18, _⟩ => gIf rfl rfl (yT rfl u16) fun gc F hF => let ⟨hO18, hfr18⟩ := u18 gc; core_val rfl hF (o_len ((Own.shape hO18).choose_spec.choose_spec.1) len_32),
 fun ρz wz hE hA _ ⟨u16, u19, _⟩ => gIf rfl rfl (yT rfl u16) fun gc F hF => core_val rfl hF (o_eql (gt gc u19) rfl rfl),
 fun ρz wz hE hA _ ⟨u16, u20, _⟩ => core_valE rfl rfl (congrArg Value.bool hc3) (o_pick_and u16 u20 rfl),
 aU rfl rfl rfl, trivial⟩ ?_
  intro ρ4 w4 hN hf hr
  have h0 : ρ4 0 = .bool c3 := hf 22 rfl
  have hW := hW.trans hN
  refine WP.ret ?_
  show retQ Try.prog 30 Try.f11 (fun v w1 => v = .bool r ∧ Ext noG w0 w1) .ret ρ4 w4
  obtain rfl := Option.some.inj hF
  exact res1 rfl (by decide) h0 ⟨rfl, hW⟩

set_option maxHeartbeats 4000000 in
theorem pensionref12_uses_ok {w0 : World} (kind_ : Int) (c_ : Int) {r : Bool} (hF : pensionref12_uses kind_ c_ = some r) :
    Calls Try.prog 97 #[.int .i64 kind_, .int .u8 c_] w0 fun e w1 => e = .returned (.bool r) ∧ Ext noG w0 w1 := by
  refine (Calls.start (P := Try.prog) (args := [.int .i64 kind_, .int .u8 c_]) (R := fun v w1 => v = .bool r ∧ Ext noG w0 w1) (n := 20) (w := w0) Try.func97 rfl rfl (Nat.le_of_ble_eq_true rfl) (fun ρ hargs => ?_)).mono (fun e w1 ⟨v, he, hv, hE⟩ => ⟨hv ▸ he, hE⟩)
  have h0 := hargs 0 _ rfl
  have h1 := hargs 1 _ rfl
  have hW := Ext.refl noG w0
  rw [pensionref12_uses] at hF
  refine WP.seq (WP.rb mixed [[]] [[]] [(4, .bool false)] (by kernel_rfl) ⟨aC rfl rfl (fun _ => rfl), trivial⟩ ?_)
  intro ρ1 w1 hN hf hr
  obtain ⟨h0, h1⟩ := k2 hr h0 h1 rfl
  have hW := hW.trans hN
  refine WP.seq ?_
  obtain ⟨z, hz, hF⟩ := obind hF
  refine WP.rb mixed [[], [0], [1]] [[0], [], []] [(7, .int .i64 kind_), (8, .string z), (5, .string z)] (by kernel_rfl) ⟨mE rfl rfl h0,
 fun ρz wz hE hA _ ⟨u0, _⟩ => core_call rfl (call_args1 u0) cf_39 (pensionref12_Uses_ok  _  hz),
 aU rfl rfl rfl, trivial⟩ ?_
  intro ρ2 w2 hN hf hr
  have h5 := hv hf 2 rfl rfl
  have h1 := (hr 1 rfl).trans h1
  have hW := hW.trans hN
  refine WP.seq (WP.seq (WP.rb mixed [[]] [[]] [(6, .int .i64 0)] (by kernel_rfl) ⟨aC rfl rfl (fun _ => rfl), trivial⟩ ?_))
  intro ρ3 w3 hN hf hr
  have h6 := hv hf 0 rfl rfl
  obtain ⟨h1, h5⟩ := k2 hr h1 h5 rfl
  have hW := hW.trans hN
  refine WP.block (WP.loop (fun k_ ρ w => ∃ i_ : Int, ρ 1 = .int .u8 c_ ∧ ρ 5 = .string z ∧ ρ 6 = .int .i64 i_ ∧ Ext noG w0 w ∧ loopC k_ (pensionref12_uses_l c_ z) i_ = some r) FU ⟨0, h1, h5, h6, hW, hF⟩ (fun _ _ h => by obtain ⟨_, _, _, _, _, h⟩ := h; cases h) ?_)
  rintro k_ ρ4 w4 ⟨i_, h1, h5, h6, hW, hF⟩
  have hF : pensionref12_uses_l c_ z (loopC k_ (pensionref12_uses_l c_ z)) i_ = some r := hF
  generalize hrec_ : loopC k_ (pensionref12_uses_l c_ z) = rec_ at hF
  rw [pensionref12_uses_l] at hF
  refine WP.seq (WP.seq (WP.rb mixed [[], [], [1], [0, 2]] [[6], [5], [], []] [(9, .int .i64 i_), (10, .string z), (11, .int .i64 (z.size : Int)), (12, .bool (decide (i_ < (z.size : Int))))] (by kernel_rfl) ⟨mE rfl rfl h6,
 mE rfl rfl h5,
 fun ρz wz hE hA _ ⟨u1, _⟩ => core_val rfl rfl (o_len u1 len_9),
 fun ρz wz hE hA _ ⟨u0, u2, _⟩ => core_val rfl rfl (o_lss u0 u2 rfl), trivial⟩ ?_))
  intro ρ5 w5 hN hf hr
  have h12 := hv hf 3 rfl rfl
  obtain ⟨h1, h5, h6⟩ := k3 hr h1 h5 h6 rfl
  have hW := hW.trans hN
  refine WP.cond rfl h12 (fun hb => ?_) (fun hb => ?_)
  · have hF := (if_pos hb).symm.trans hF
    refine WP.skip (WP.seq (WP.block (WP.seq ?_)))
    obtain ⟨y, hy, hF⟩ := obind hF
    refine WP.rb mixed [[], [], [0, 1], [], [2, 3]] [[5], [6], [], [1], []] [(15, .string z), (16, .int .i64 i_), (17, .int .u8 y), (18, .int .u8 c_), (19, .bool (y == c_))] (by kernel_rfl) ⟨mE rfl rfl h5,
 mE rfl rfl h6,
 fun ρz wz hE hA _ ⟨u0, u1, _⟩ => core_val rfl rfl (o_index u0 u1 (by kernel_rfl) hy),
 mE rfl rfl h1,
 fun ρz wz hE hA _ ⟨u2, u3, _⟩ => core_val rfl rfl (o_eql u2 u3 rfl), trivial⟩ ?_
    intro ρ6 w6 hN hf hr
    have h19 := hv hf 4 rfl rfl
    obtain ⟨h1, h5, h6⟩ := k3 hr h1 h5 h6 rfl
    have hW := hW.trans hN
    refine WP.cond rfl h19 (fun hb => ?_) (fun hb => ?_)
    · have hF := (if_pos hb).symm.trans hF
      refine WP.seq (WP.rb mixed [[]] [[]] [(4, .bool true)] (by kernel_rfl) ⟨aC rfl rfl (fun _ => rfl), trivial⟩ ?_)
      intro ρ7 w7 hN hf hr
      have h4 := hv hf 0 rfl rfl
      have hW := hW.trans hN
      refine WP.ret ?_
      show retQ Try.prog 20 Try.f97 (fun v w1 => v = .bool r ∧ Ext noG w0 w1) .ret ρ7 w7
      obtain rfl := Option.some.inj hF
      exact res1 rfl (by decide) h4 ⟨rfl, hW⟩
    have hF := (if_neg (Bool.eq_false_iff.1 hb)).symm.trans hF
    refine WP.skip (WP.rv mixed [[], [0], [0, 1]] [[], [0], [1]] [[6], [], []] [(13, .int .i64 i_), (14, .int .i64 (i64 (i_ + 1))), (6, .int .i64 (i64 (i_ + 1)))] (by kernel_rfl) ⟨mE rfl rfl h6,
 fun ρz wz hE hA _ ⟨u0, _⟩ => core_val rfl rfl (o_add u0 rfl rfl),
 aU rfl rfl rfl, trivial⟩ ?_)
    intro ρ8 w8 hN hf hr
    have h6 := hv hf 2 rfl rfl
    obtain ⟨h1, h5⟩ := k2 hr h1 h5 rfl
    have hW := hW.trans hN
    exact ⟨i64 (i_ + 1), h1, h5, h6, hW, (by first | exact hF | (rw [hrec_]; exact hF))⟩
  have hF := (if_neg (Bool.eq_false_iff.1 hb)).symm.trans hF
  refine WP.exit (thenQ_exit (thenQ_exit (blockQ_hit (WP.seq (WP.rb mixed [[]] [[]] [(4, .bool false)] (by kernel_rfl) ⟨aC rfl rfl (fun _ => rfl), trivial⟩ ?_)))))
  intro ρ9 w9 hN hf hr
  have h4 := hv hf 0 rfl rfl
  have hW := hW.trans hN
  refine WP.ret ?_
  show retQ Try.prog 20 Try.f97 (fun v w1 => v = .bool r ∧ Ext noG w0 w1) .ret ρ9 w9
  obtain rfl := Option.some.inj hF
  exact res1 rfl (by decide) h4 ⟨rfl, hW⟩

set_option maxHeartbeats 4000000 in
theorem pensionref12_field_ok {w0 : World} (kind_ : Int) (c_ : Int) (n_ : Int) (least_ : Int) (most_ : Int) {r : Bool} (hF : pensionref12_field kind_ c_ n_ least_ most_ = some r) :
    Calls Try.prog 89 #[.int .i64 kind_, .int .u8 c_, .int .i64 n_, .int .i64 least_, .int .i64 most_] w0 fun e w1 => e = .returned (.bool r) ∧ Ext noG w0 w1 := by
  refine (Calls.start (P := Try.prog) (args := [.int .i64 kind_, .int .u8 c_, .int .i64 n_, .int .i64 least_, .int .i64 most_]) (R := fun v w1 => v = .bool r ∧ Ext noG w0 w1) (n := 24) (w := w0) Try.func89 rfl rfl (Nat.le_of_ble_eq_true rfl) (fun ρ hargs => ?_)).mono (fun e w1 ⟨v, he, hv, hE⟩ => ⟨hv ▸ he, hE⟩)
  have h0 := hargs 0 _ rfl
  have h1 := hargs 1 _ rfl
  have h2 := hargs 2 _ rfl
  have h3 := hargs 3 _ rfl
  have h4 := hargs 4 _ rfl
  have hW := Ext.refl noG w0
  rw [pensionref12_field] at hF
  refine WP.seq (WP.rb mixed [[]] [[]] [(10, .bool false)] (by kernel_rfl) ⟨aC rfl rfl (fun _ => rfl), trivial⟩ ?_)
  intro ρ1 w1 hN hf hr
  obtain ⟨h0, h1, h2, h3, h4⟩ := k5 hr h0 h1 h2 h3 h4 rfl
  have hW := hW.trans hN
  refine WP.seq (WP.seq ?_)
  obtain ⟨z, hz, hF⟩ := obind hF
  refine WP.rb mixed [[], [], [0, 1]] [[0], [1], []] [(11, .int .i64 kind_), (12, .int .u8 c_), (13, .bool z)] (by kernel_rfl) ⟨mE rfl rfl h0,
 mE rfl rfl h1,
 fun ρz wz hE hA _ ⟨u0, u1, _⟩ => core_call rfl (call_args2 u0 u1) cf_97 (pensionref12_uses_ok  _ _  hz), trivial⟩ ?_
  intro ρ2 w2 hN hf hr
  have h13 := hv hf 2 rfl rfl
  obtain ⟨h2, h3, h4⟩ := k3 hr h2 h3 h4 rfl
  have hW := hW.trans hN
  refine WP.cond rfl h13 (fun hb => ?_) (fun hb => ?_)
  · have hF := (if_pos hb).symm.trans hF
    refine WP.seq (WP.rb mixed [[], [], [0, 1], [2], [3], [3], [3, 4, 5], [3, 6], [7]] [[2], [3], [], [], [2], [4], [], [], []] [(14, .int .i64 n_), (15, .int .i64 least_), (16, .bool (decide (least_ ≤ n_))), (17, .bool (decide (least_ ≤ n_))), (18, gv (decide (least_ ≤ n_)) (.int .i64 n_)), (19, gv (decide (least_ ≤ n_)) (.int .i64 most_)), (20, gv (decide (least_ ≤ n_)) (.bool (decide (n_ ≤ most_)))), (21, .bool (decide (least_ ≤ n_) && decide (n_ ≤ most_))), (10, .bool (decide (least_ ≤ n_) && decide (n_ ≤ most_)))] (by kernel_rfl) ⟨mE rfl rfl h2,
 mE rfl rfl h3,
 fun ρz wz hE hA _ ⟨u0, u1, _⟩ => core_val rfl rfl (o_geq u0 u1 rfl),
 mU rfl rfl rfl,
 fun ρz wz hE hA ⟨e2, _⟩ ⟨u3, _⟩ => gIf rfl rfl (yT rfl u3) fun gc F hF => core_val rfl hF (o_move (e2.trans h2)),
 fun ρz wz hE hA ⟨e4, _⟩ ⟨u3, _⟩ => gIf rfl rfl (yT rfl u3) fun gc F hF => core_val rfl hF (o_move (e4.trans h4)),
 fun ρz wz hE hA _ ⟨u3, u4, u5, _⟩ => gIf rfl rfl (yT rfl u3) fun gc F hF => core_val rfl hF (o_leq (gt gc u4) (gt gc u5) rfl),
 fun ρz wz hE hA _ ⟨u3, u6, _⟩ => core_val rfl rfl (o_pick_and u3 u6 rfl),
 aU rfl rfl rfl, trivial⟩ ?_)
    intro ρ3 w3 hN hf hr
    have h10 := hv hf 8 rfl rfl
    have hW := hW.trans hN
    refine WP.ret ?_
    show retQ Try.prog 24 Try.f89 (fun v w1 => v = .bool r ∧ Ext noG w0 w1) .ret ρ3 w3
    obtain rfl := Option.some.inj hF
    exact res1 rfl (by decide) h10 ⟨rfl, hW⟩
  have hF := (if_neg (Bool.eq_false_iff.1 hb)).symm.trans hF
  refine WP.skip (WP.seq (WP.rb mixed [[], [0], [1]] [[2], [], []] [(22, .int .i64 n_), (23, .bool (n_ == 0)), (10, .bool (n_ == 0))] (by kernel_rfl) ⟨mE rfl rfl h2,
 fun ρz wz hE hA _ ⟨u0, _⟩ => core_val rfl rfl (o_eql u0 rfl rfl),
 aU rfl rfl rfl, trivial⟩ ?_))
  intro ρ4 w4 hN hf hr
  have h10 := hv hf 2 rfl rfl
  have hW := hW.trans hN
  refine WP.ret ?_
  show retQ Try.prog 24 Try.f89 (fun v w1 => v = .bool r ∧ Ext noG w0 w1) .ret ρ4 w4
  obtain rfl := Option.some.inj hF
  exact res1 rfl (by decide) h10 ⟨rfl, hW⟩

set_option maxHeartbeats 4000000 in
theorem pensionref12_Valid_ok {w0 : World} (d_ : api_Fact) {r : Bool} (hF : pensionref12_Valid d_ = some r) :
    Calls Try.prog 58 #[api_Fact.val d_] w0 fun e w1 => e = .returned (.bool r) ∧ Ext noG w0 w1 := by
  refine (Calls.start (P := Try.prog) (args := [api_Fact.val d_]) (R := fun v w1 => v = .bool r ∧ Ext noG w0 w1) (n := 144) (w := w0) Try.func58 rfl rfl (Nat.le_of_ble_eq_true rfl) (fun ρ hargs => ?_)).mono (fun e w1 ⟨v, he, hv, hE⟩ => ⟨hv ▸ he, hE⟩)
  have h0 := hargs 0 _ rfl
  have hW := Ext.refl noG w0
  rw [pensionref12_Valid] at hF
  refine WP.seq (WP.rg mixed [[], []] [[], []] [[0], []] [(1, fun u wz => ∃ b, u = .pointer (some ⟨b, 0, none⟩) ∧ w0.heap.size ≤ b ∧ Mb wz b 49 (api_Fact.cells d_)), val 2 (.bool false)] (by kernel_rfl) ⟨fun _ _ _ hE ⟨b, hb, hs, hM⟩ => ⟨b, hb, hs, hM.exn hE⟩, sV, trivial⟩ ⟨fun ρz wz hE hA ⟨e0, _⟩ _ => core_new rfl rfl hE (o_box (e0.trans h0) (bx_49 _ _)),
 aC rfl rfl (fun _ => rfl), trivial⟩ ?_)
  intro ρ1 w1 hN hf hr
  obtain ⟨b1_, h1, hge_b1_, Hb_b1_⟩ := hf 0 rfl
  have hB_b1_ : w0.heap.size ≤ b1_ := Nat.le_trans hW.size hge_b1_
  have hW := hW.trans hN
  refine WP.seq (WP.rb mixed [[], [0], [1]] [[1], [], []] [(4, .pointer (some ((⟨b1_, 0, none⟩ : Addr).add 5))), (5, .int .i64 d_.Kind), (3, .int .i64 d_.Kind)] (by kernel_rfl) ⟨fun ρz wz hE hA ⟨e1, _⟩ _ => core_val rfl rfl (o_fieldAddr (e1.trans h1) (fa_49_5 _ _)),
 fun ρz wz hE hA _ ⟨u0, _⟩ => core_val rfl rfl (o_load u0 (run_load1 (lr_3 _ _) (CA.sub ((Hb_b1_.exn (hA rfl)).ca) 5 1))),
 aU rfl rfl rfl, trivial⟩ ?_)
  intro ρ2 w2 hN hf hr
  have h3 := hv hf 2 rfl rfl
  have h1 := (hr 1 rfl).trans h1
  have Hb_b1_n := Hb_b1_.exn hN
  have hW := hW.trans hN
  have Hb_b1_ := Hb_b1_n
  refine WP.seq (WP.seq ?_)
  obtain ⟨c, hc, hF⟩ := obind hF
  obtain ⟨z, hz, hc⟩ := orB hc
  have hc := orE hc
  refine WP.rb mixed [[], [0], [1], [2], [3], [3, 4], [3, 5], [3, 6], [7], [8], [8, 9], [8, 10], [8, 11], [12], [13], [13, 14], [13, 15], [13, 16], [17], [18], [18, 19], [18, 20], [18, 21], [22], [23], [23, 24], [23, 25], [23, 26], [27], [28], [28, 29], [28, 30], [28, 31], [32], [33], [33, 34], [33, 35], [33, 36], [37], [38], [38, 39], [38, 40], [38, 41]] [[1], [], [], [], [1], [], [], [], [], [1], [], [], [], [], [1], [], [], [], [], [1], [], [], [], [], [1], [], [], [], [], [1], [], [], [], [], [1], [], [], [], [], [3], [], [], []] [(6, .pointer (some ((⟨b1_, 0, none⟩ : Addr).add 0))), (7, .int .i64 d_.Issuer), (8, .bool (decide (d_.Issuer < 0))), (9, .bool (decide (d_.Issuer < 0))), (10, gv (!(decide (d_.Issuer < 0))) (.pointer (some ((⟨b1_, 0, none⟩ : Addr).add 0)))), (11, gv (!(decide (d_.Issuer < 0))) (.int .i64 d_.Issuer)), (12, gv (!(decide (d_.Issuer < 0))) (.bool (decide (6 ≤ d_.Issuer)))), (13, .bool (decide (d_.Issuer < 0) || decide (6 ≤ d_.Issuer))), (14, .bool (decide (d_.Issuer < 0) || decide (6 ≤ d_.Issuer))), (15, gv (!(decide (d_.Issuer < 0) || decide (6 ≤ d_.Issuer))) (.pointer (some ((⟨b1_, 0, none⟩ : Addr).add 1)))), (16, gv (!(decide (d_.Issuer < 0) || decide (6 ≤ d_.Issuer))) (.int .i64 d_.Number)), (17, gv (!(decide (d_.Issuer < 0) || decide (6 ≤ d_.Issuer))) (.bool (decide (d_.Number < 1)))), (18, .bool ((decide (d_.Issuer < 0) || decide (6 ≤ d_.Issuer)) || decide (d_.Number < 1))), (19, .bool ((decide (d_.Issuer < 0) || decide (6 ≤ d_.Issuer)) || decide (d_.Number < 1))), (20, gv (!((decide (d_.Issuer < 0) || decide (6 ≤ d_.Issuer)) || decide (d_.Number < 1))) (.pointer (some ((⟨b1_, 0, none⟩ : Addr).add 1)))), (21, gv (!((decide (d_.Issuer < 0) || decide (6 ≤ d_.Issuer)) || decide (d_.Number < 1))) (.int .i64 d_.Number)), (22, gv (!((decide (d_.Issuer < 0) || decide (6 ≤ d_.Issuer)) || decide (d_.Number < 1))) (.bool (decide (999 < d_.Number)))), (23, .bool (((decide (d_.Issuer < 0) || decide (6 ≤ d_.Issuer)) || decide (d_.Number < 1)) || decide (999 < d_.Number))), (24, .bool (((decide (d_.Issuer < 0) || decide (6 ≤ d_.Issuer)) || decide (d_.Number < 1)) || decide (999 < d_.Number))), (25, gv (!(((decide (d_.Issuer < 0) || decide (6 ≤ d_.Issuer)) || decide (d_.Number < 1)) || decide (999 < d_.Number))) (.pointer (some ((⟨b1_, 0, none⟩ : Addr).add 2)))), (26, gv (!(((decide (d_.Issuer < 0) || decide (6 ≤ d_.Issuer)) || decide (d_.Number < 1)) || decide (999 < d_.Number))) (.int .i64 d_.Version)), (27, gv (!(((decide (d_.Issuer < 0) || decide (6 ≤ d_.Issuer)) || decide (d_.Number < 1)) || decide (999 < d_.Number))) (.bool (decide (d_.Version < 1)))), (28, .bool ((((decide (d_.Issuer < 0) || decide (6 ≤ d_.Issuer)) || decide (d_.Number < 1)) || decide (999 < d_.Number)) || decide (d_.Version < 1))), (29, .bool ((((decide (d_.Issuer < 0) || decide (6 ≤ d_.Issuer)) || decide (d_.Number < 1)) || decide (999 < d_.Number)) || decide (d_.Version < 1))), (30, gv (!((((decide (d_.Issuer < 0) || decide (6 ≤ d_.Issuer)) || decide (d_.Number < 1)) || decide (999 < d_.Number)) || decide (d_.Version < 1))) (.pointer (some ((⟨b1_, 0, none⟩ : Addr).add 2)))), (31, gv (!((((decide (d_.Issuer < 0) || decide (6 ≤ d_.Issuer)) || decide (d_.Number < 1)) || decide (999 < d_.Number)) || decide (d_.Version < 1))) (.int .i64 d_.Version)), (32, gv (!((((decide (d_.Issuer < 0) || decide (6 ≤ d_.Issuer)) || decide (d_.Number < 1)) || decide (999 < d_.Number)) || decide (d_.Version < 1))) (.bool (decide (99 < d_.Version)))), (33, .bool (((((decide (d_.Issuer < 0) || decide (6 ≤ d_.Issuer)) || decide (d_.Number < 1)) || decide (999 < d_.Number)) || decide (d_.Version < 1)) || decide (99 < d_.Version))), (34, .bool (((((decide (d_.Issuer < 0) || decide (6 ≤ d_.Issuer)) || decide (d_.Number < 1)) || decide (999 < d_.Number)) || decide (d_.Version < 1)) || decide (99 < d_.Version))), (35, gv (!(((((decide (d_.Issuer < 0) || decide (6 ≤ d_.Issuer)) || decide (d_.Number < 1)) || decide (999 < d_.Number)) || decide (d_.Version < 1)) || decide (99 < d_.Version))) (.pointer (some ((⟨b1_, 0, none⟩ : Addr).add 4)))), (36, gv (!(((((decide (d_.Issuer < 0) || decide (6 ≤ d_.Issuer)) || decide (d_.Number < 1)) || decide (999 < d_.Number)) || decide (d_.Version < 1)) || decide (99 < d_.Version))) (.int .i64 d_.Person)), (37, gv (!(((((decide (d_.Issuer < 0) || decide (6 ≤ d_.Issuer)) || decide (d_.Number < 1)) || decide (999 < d_.Number)) || decide (d_.Version < 1)) || decide (99 < d_.Version))) (.bool (decide (d_.Person < 1)))), (38, .bool ((((((decide (d_.Issuer < 0) || decide (6 ≤ d_.Issuer)) || decide (d_.Number < 1)) || decide (999 < d_.Number)) || decide (d_.Version < 1)) || decide (99 < d_.Version)) || decide (d_.Person < 1))), (39, .bool ((((((decide (d_.Issuer < 0) || decide (6 ≤ d_.Issuer)) || decide (d_.Number < 1)) || decide (999 < d_.Number)) || decide (d_.Version < 1)) || decide (99 < d_.Version)) || decide (d_.Person < 1))), (40, gv (!((((((decide (d_.Issuer < 0) || decide (6 ≤ d_.Issuer)) || decide (d_.Number < 1)) || decide (999 < d_.Number)) || decide (d_.Version < 1)) || decide (99 < d_.Version)) || decide (d_.Person < 1))) (.pointer (some ((⟨b1_, 0, none⟩ : Addr).add 4)))), (41, gv (!((((((decide (d_.Issuer < 0) || decide (6 ≤ d_.Issuer)) || decide (d_.Number < 1)) || decide (999 < d_.Number)) || decide (d_.Version < 1)) || decide (99 < d_.Version)) || decide (d_.Person < 1))) (.int .i64 d_.Person)), (42, gv (!((((((decide (d_.Issuer < 0) || decide (6 ≤ d_.Issuer)) || decide (d_.Number < 1)) || decide (999 < d_.Number)) || decide (d_.Version < 1)) || decide (99 < d_.Version)) || decide (d_.Person < 1))) (.bool (decide (99 < d_.Person)))), (43, .bool (((((((decide (d_.Issuer < 0) || decide (6 ≤ d_.Issuer)) || decide (d_.Number < 1)) || decide (999 < d_.Number)) || decide (d_.Version < 1)) || decide (99 < d_.Version)) || decide (d_.Person < 1)) || decide (99 < d_.Person))), (44, .bool (((((((decide (d_.Issuer < 0) || decide (6 ≤ d_.Issuer)) || decide (d_.Number < 1)) || decide (999 < d_.Number)) || decide (d_.Version < 1)) || decide (99 < d_.Version)) || decide (d_.Person < 1)) || decide (99 < d_.Person))), (45, gv (!(((((((decide (d_.Issuer < 0) || decide (6 ≤ d_.Issuer)) || decide (d_.Number < 1)) || decide (999 < d_.Number)) || decide (d_.Version < 1)) || decide (99 < d_.Version)) || decide (d_.Person < 1)) || decide (99 < d_.Person))) (.int .i64 d_.Kind)), (46, gv (!(((((((decide (d_.Issuer < 0) || decide (6 ≤ d_.Issuer)) || decide (d_.Number < 1)) || decide (999 < d_.Number)) || decide (d_.Version < 1)) || decide (99 < d_.Version)) || decide (d_.Person < 1)) || decide (99 < d_.Person))) (.string z)), (47, gv (!(((((((decide (d_.Issuer < 0) || decide (6 ≤ d_.Issuer)) || decide (d_.Number < 1)) || decide (999 < d_.Number)) || decide (d_.Version < 1)) || decide (99 < d_.Version)) || decide (d_.Person < 1)) || decide (99 < d_.Person))) (.bool (z.toList == str1.toList))), (48, .bool c)] (by kernel_rfl) ⟨fun ρz wz hE hA ⟨e1, _⟩ _ => core_val rfl rfl (o_fieldAddr (e1.trans h1) (fa_49_0 _ _)),
 fun ρz wz hE hA _ ⟨u0, _⟩ => core_val rfl rfl (o_load u0 (run_load1 (lr_3 _ _) (CA.sub ((Hb_b1_.exn (hA rfl)).ca) 0 1))),
 fun ρz wz hE hA _ ⟨u1, _⟩ => core_val rfl rfl (o_lss u1 rfl rfl),
 mU rfl rfl rfl,
 fun ρz wz hE hA ⟨e1, _⟩ ⟨u3, _⟩ => gIf rfl rfl (yF rfl u3) fun gc F hF => core_val rfl hF (o_fieldAddr (e1.trans h1) (fa_49_0 _ _)),
 fun ρz wz hE hA _ ⟨u3, u4, _⟩ => gIf rfl rfl (yF rfl u3) fun gc F hF => core_val rfl hF (o_load (gt gc u4) (run_load1 (lr_3 _ _) (CA.sub ((Hb_b1_.exn (hA rfl)).ca) 0 1))),
 fun ρz wz hE hA _ ⟨u3, u5, _⟩ => gIf rfl rfl (yF rfl u3) fun gc F hF => core_val rfl hF (o_geq (gt gc u5) rfl rfl),
 fun ρz wz hE hA _ ⟨u3, u6, _⟩ => core_val rfl rfl (o_pick_or u3 rfl u6),
 mU rfl rfl rfl,
 fun ρz wz hE hA ⟨e1, _⟩ ⟨u8, _⟩ => gIf rfl rfl (yF rfl u8) fun gc F hF => core_val rfl hF (o_fieldAddr (e1.trans h1) (fa_49_1 _ _)),
 fun ρz wz hE hA _ ⟨u8, u9, _⟩ => gIf rfl rfl (yF rfl u8) fun gc F hF => core_val rfl hF (o_load (gt gc u9) (run_load1 (lr_3 _ _) (CA.sub ((Hb_b1_.exn (hA rfl)).ca) 1 1))),
 fun ρz wz hE hA _ ⟨u8, u10, _⟩ => gIf rfl rfl (yF rfl u8) fun gc F hF => core_val rfl hF (o_lss (gt gc u10) rfl rfl),
 fun ρz wz hE hA _ ⟨u8, u11, _⟩ => core_val rfl rfl (o_pick_or u8 rfl u11),
 mU rfl rfl rfl,
 fun ρz wz hE hA ⟨e1, _⟩ ⟨u13, _⟩ => gIf rfl rfl (yF rfl u13) fun gc F hF => core_val rfl hF (o_fieldAddr (e1.trans h1) (fa_49_1 _ _)),
 fun ρz wz hE hA _ ⟨u13, u14, _⟩ => gIf rfl rfl (yF rfl u13) fun gc F hF => core_val rfl hF (o_load (gt gc u14) (run_load1 (lr_3 _ _) (CA.sub ((Hb_b1_.exn (hA rfl)).ca) 1 1))),
 fun ρz wz hE hA _ ⟨u13, u15, _⟩ => gIf rfl rfl (yF rfl u13) fun gc F hF => core_val rfl hF (o_gtr (gt gc u15) rfl rfl),
 fun ρz wz hE hA _ ⟨u13, u16, _⟩ => core_val rfl rfl (o_pick_or u13 rfl u16),
 mU rfl rfl rfl,
 fun ρz wz hE hA ⟨e1, _⟩ ⟨u18, _⟩ => gIf rfl rfl (yF rfl u18) fun gc F hF => core_val rfl hF (o_fieldAddr (e1.trans h1) (fa_49_2 _ _)),
 fun ρz wz hE hA _ ⟨u18, u19, _⟩ => gIf rfl rfl (yF rfl u18) fun gc F hF => core_val rfl hF (o_load (gt gc u19) (run_load1 (lr_3 _ _) (CA.sub ((Hb_b1_.exn (hA rfl)).ca) 2 1))),
 fun ρz wz hE hA _ ⟨u18, u20, _⟩ => gIf rfl rfl (yF rfl u18) fun gc F hF => core_val rfl hF (o_lss (gt gc u20) rfl rfl),
 fun ρz wz hE hA _ ⟨u18, u21, _⟩ => core_val rfl rfl (o_pick_or u18 rfl u21),
 mU rfl rfl rfl,
 fun ρz wz hE hA ⟨e1, _⟩ ⟨u23, _⟩ => gIf rfl rfl (yF rfl u23) fun gc F hF => core_val rfl hF (o_fieldAddr (e1.trans h1) (fa_49_2 _ _)),
 fun ρz wz hE hA _ ⟨u23, u24, _⟩ => gIf rfl rfl (yF rfl u23) fun gc F hF => core_val rfl hF (o_load (gt gc u24) (run_load1 (lr_3 _ _) (CA.sub ((Hb_b1_.exn (hA rfl)).ca) 2 1))),
 fun ρz wz hE hA _ ⟨u23, u25, _⟩ => gIf rfl rfl (yF rfl u23) fun gc F hF => core_val rfl hF (o_gtr (gt gc u25) rfl rfl),
 fun ρz wz hE hA _ ⟨u23, u26, _⟩ => core_val rfl rfl (o_pick_or u23 rfl u26),
 mU rfl rfl rfl,
 fun ρz wz hE hA ⟨e1, _⟩ ⟨u28, _⟩ => gIf rfl rfl (yF rfl u28) fun gc F hF => core_val rfl hF (o_fieldAddr (e1.trans h1) (fa_49_4 _ _)),
 fun ρz wz hE hA _ ⟨u28, u29, _⟩ => gIf rfl rfl (yF rfl u28) fun gc F hF => core_val rfl hF (o_load (gt gc u29) (run_load1 (lr_3 _ _) (CA.sub ((Hb_b1_.exn (hA rfl)).ca) 4 1))),
 fun ρz wz hE hA _ ⟨u28, u30, _⟩ => gIf rfl rfl (yF rfl u28) fun gc F hF => core_val rfl hF (o_lss (gt gc u30) rfl rfl),
 fun ρz wz hE hA _ ⟨u28, u31, _⟩ => core_val rfl rfl (o_pick_or u28 rfl u31),
 mU rfl rfl rfl,
 fun ρz wz hE hA ⟨e1, _⟩ ⟨u33, _⟩ => gIf rfl rfl (yF rfl u33) fun gc F hF => core_val rfl hF (o_fieldAddr (e1.trans h1) (fa_49_4 _ _)),
 fun ρz wz hE hA _ ⟨u33, u34, _⟩ => gIf rfl rfl (yF rfl u33) fun gc F hF => core_val rfl hF (o_load (gt gc u34) (run_load1 (lr_3 _ _) (CA.sub ((Hb_b1_.exn (hA rfl)).ca) 4 1))),
 fun ρz wz hE hA _ ⟨u33, u35, _⟩ => gIf rfl rfl (yF rfl u33) fun gc F hF => core_val rfl hF (o_gtr (gt gc u35) rfl rfl),
 fun ρz wz hE hA _ ⟨u33, u36, _⟩ => core_val rfl rfl (o_pick_or u33 rfl u36),
 mU rfl rfl rfl,
 fun ρz wz hE hA ⟨e3, _⟩ ⟨u38, _⟩ => gIf rfl rfl (yF rfl u38) fun gc F hF => core_val rfl hF (o_move (e3.trans h3)),
 fun ρz wz hE hA _ ⟨u38, u39, _⟩ => gIf rfl rfl (yF rfl u38) fun gc F hF => core_call hF (call_args1 (gt gc u39)) cf_39 (pensionref12_Uses_ok  _  (hz gc)),
 fun ρz wz hE hA _ ⟨u38, u40, _⟩ => gIf rfl rfl (yF rfl u38) fun gc F hF => core_val rfl hF (o_eqlT (gt gc u40) rfl rfl),
 fun ρz wz hE hA _ ⟨u38, u41, _⟩ => core_valE rfl rfl (congrArg Value.bool hc) (o_pick_or u38 rfl u41), trivial⟩ ?_
  intro ρ3 w3 hN hf hr
  have h48 := hv hf 42 rfl rfl
  obtain ⟨h1, h3⟩ := k2 hr h1 h3 rfl
  have Hb_b1_n := Hb_b1_.exn hN
  have hW := hW.trans hN
  have Hb_b1_ := Hb_b1_n
  refine WP.cond rfl h48 (fun hb => ?_) (fun hb => ?_)
  · have hF := (if_pos hb).symm.trans hF
    refine WP.seq (WP.rb mixed [[]] [[]] [(2, .bool false)] (by kernel_rfl) ⟨aC rfl rfl (fun _ => rfl), trivial⟩ ?_)
    intro ρ4 w4 hN hf hr
    have h2 := hv hf 0 rfl rfl
    have hW := hW.trans hN
    refine WP.ret ?_
    show retQ Try.prog 144 Try.f58 (fun v w1 => v = .bool r ∧ Ext noG w0 w1) .ret ρ4 w4
    obtain rfl := Option.some.inj hF
    exact res1 rfl (by decide) h2 ⟨rfl, hW⟩
  have hF := (if_neg (Bool.eq_false_iff.1 hb)).symm.trans hF
  refine WP.skip (WP.seq (WP.seq (WP.rb mixed [[], [0], [1], [2], [3], [4], [4, 5], [4, 6], [4], [4, 8], [4, 9], [4, 7, 10], [4, 11], [12], [13], [13, 14], [13, 15], [13, 16], [13, 17]] [[1], [], [], [], [], [1], [], [], [1], [], [], [], [], [], [1], [], [], [], []] [(49, .pointer (some ((⟨b1_, 0, none⟩ : Addr).add 7))), (50, .pointer (some (((⟨b1_, 0, none⟩ : Addr).add 7).add 0))), (51, .int .i64 d_.Span.From), (52, .bool (decide (d_.Span.From < 0))), (53, .bool (decide (d_.Span.From < 0))), (54, gv (!(decide (d_.Span.From < 0))) (.pointer (some ((⟨b1_, 0, none⟩ : Addr).add 7)))), (55, gv (!(decide (d_.Span.From < 0))) (.pointer (some (((⟨b1_, 0, none⟩ : Addr).add 7).add 0)))), (56, gv (!(decide (d_.Span.From < 0))) (.int .i64 d_.Span.From)), (57, gv (!(decide (d_.Span.From < 0))) (.pointer (some ((⟨b1_, 0, none⟩ : Addr).add 7)))), (58, gv (!(decide (d_.Span.From < 0))) (.pointer (some (((⟨b1_, 0, none⟩ : Addr).add 7).add 1)))), (59, gv (!(decide (d_.Span.From < 0))) (.int .i64 d_.Span.To)), (60, gv (!(decide (d_.Span.From < 0))) (.bool (decide (d_.Span.To ≤ d_.Span.From)))), (61, .bool (decide (d_.Span.From < 0) || decide (d_.Span.To ≤ d_.Span.From))), (62, .bool (decide (d_.Span.From < 0) || decide (d_.Span.To ≤ d_.Span.From))), (63, gv (!(decide (d_.Span.From < 0) || decide (d_.Span.To ≤ d_.Span.From))) (.pointer (some ((⟨b1_, 0, none⟩ : Addr).add 7)))), (64, gv (!(decide (d_.Span.From < 0) || decide (d_.Span.To ≤ d_.Span.From))) (.pointer (some (((⟨b1_, 0, none⟩ : Addr).add 7).add 1)))), (65, gv (!(decide (d_.Span.From < 0) || decide (d_.Span.To ≤ d_.Span.From))) (.int .i64 d_.Span.To)), (66, gv (!(decide (d_.Span.From < 0) || decide (d_.Span.To ≤ d_.Span.From))) (.bool (decide (73049 < d_.Span.To)))), (67, .bool ((decide (d_.Span.From < 0) || decide (d_.Span.To ≤ d_.Span.From)) || decide (73049 < d_.Span.To)))] (by kernel_rfl) ⟨fun ρz wz hE hA ⟨e1, _⟩ _ => core_val rfl rfl (o_fieldAddr (e1.trans h1) (fa_49_7 _ _)),
 fun ρz wz hE hA _ ⟨u0, _⟩ => core_val rfl rfl (o_fieldAddr u0 (fa_31_0 _ _)),
 fun ρz wz hE hA _ ⟨u1, _⟩ => core_val rfl rfl (o_load u1 (run_load1 (lr_3 _ _) (CA.sub (CA.sub ((Hb_b1_.exn (hA rfl)).ca) 7 2) 0 1))),
 fun ρz wz hE hA _ ⟨u2, _⟩ => core_val rfl rfl (o_lss u2 rfl rfl),
 mU rfl rfl rfl,
 fun ρz wz hE hA ⟨e1, _⟩ ⟨u4, _⟩ => gIf rfl rfl (yF rfl u4) fun gc F hF => core_val rfl hF (o_fieldAddr (e1.trans h1) (fa_49_7 _ _)),
 fun ρz wz hE hA _ ⟨u4, u5, _⟩ => gIf rfl rfl (yF rfl u4) fun gc F hF => core_val rfl hF (o_fieldAddr (gt gc u5) (fa_31_0 _ _)),
 fun ρz wz hE hA _ ⟨u4, u6, _⟩ => gIf rfl rfl (yF rfl u4) fun gc F hF => core_val rfl hF (o_load (gt gc u6) (run_load1 (lr_3 _ _) (CA.sub (CA.sub ((Hb_b1_.exn (hA rfl)).ca) 7 2) 0 1))),
 fun ρz wz hE hA ⟨e1, _⟩ ⟨u4, _⟩ => gIf rfl rfl (yF rfl u4) fun gc F hF => core_val rfl hF (o_fieldAddr (e1.trans h1) (fa_49_7 _ _)),
 fun ρz wz hE hA _ ⟨u4, u8, _⟩ => gIf rfl rfl (yF rfl u4) fun gc F hF => core_val rfl hF (o_fieldAddr (gt gc u8) (fa_31_1 _ _)),
 fun ρz wz hE hA _ ⟨u4, u9, _⟩ => gIf rfl rfl (yF rfl u4) fun gc F hF => core_val rfl hF (o_load (gt gc u9) (run_load1 (lr_3 _ _) (CA.sub (CA.sub ((Hb_b1_.exn (hA rfl)).ca) 7 2) 1 1))),
 fun ρz wz hE hA _ ⟨u4, u7, u10, _⟩ => gIf rfl rfl (yF rfl u4) fun gc F hF => core_val rfl hF (o_geq (gt gc u7) (gt gc u10) rfl),
 fun ρz wz hE hA _ ⟨u4, u11, _⟩ => core_val rfl rfl (o_pick_or u4 rfl u11),
 mU rfl rfl rfl,
 fun ρz wz hE hA ⟨e1, _⟩ ⟨u13, _⟩ => gIf rfl rfl (yF rfl u13) fun gc F hF => core_val rfl hF (o_fieldAddr (e1.trans h1) (fa_49_7 _ _)),
 fun ρz wz hE hA _ ⟨u13, u14, _⟩ => gIf rfl rfl (yF rfl u13) fun gc F hF => core_val rfl hF (o_fieldAddr (gt gc u14) (fa_31_1 _ _)),
 fun ρz wz hE hA _ ⟨u13, u15, _⟩ => gIf rfl rfl (yF rfl u13) fun gc F hF => core_val rfl hF (o_load (gt gc u15) (run_load1 (lr_3 _ _) (CA.sub (CA.sub ((Hb_b1_.exn (hA rfl)).ca) 7 2) 1 1))),
 fun ρz wz hE hA _ ⟨u13, u16, _⟩ => gIf rfl rfl (yF rfl u13) fun gc F hF => core_val rfl hF (o_gtr (gt gc u16) rfl rfl),
 fun ρz wz hE hA _ ⟨u13, u17, _⟩ => core_val rfl rfl (o_pick_or u13 rfl u17), trivial⟩ ?_)))
  intro ρ5 w5 hN hf hr
  have h67 := hv hf 18 rfl rfl
  obtain ⟨h1, h3⟩ := k2 hr h1 h3 rfl
  have Hb_b1_n := Hb_b1_.exn hN
  have hW := hW.trans hN
  have Hb_b1_ := Hb_b1_n
  refine WP.cond rfl h67 (fun hb => ?_) (fun hb => ?_)
  · have hF := (if_pos hb).symm.trans hF
    refine WP.seq (WP.rb mixed [[]] [[]] [(2, .bool false)] (by kernel_rfl) ⟨aC rfl rfl (fun _ => rfl), trivial⟩ ?_)
    intro ρ6 w6 hN hf hr
    have h2 := hv hf 0 rfl rfl
    have hW := hW.trans hN
    refine WP.ret ?_
    show retQ Try.prog 144 Try.f58 (fun v w1 => v = .bool r ∧ Ext noG w0 w1) .ret ρ6 w6
    obtain rfl := Option.some.inj hF
    exact res1 rfl (by decide) h2 ⟨rfl, hW⟩
  have hF := (if_neg (Bool.eq_false_iff.1 hb)).symm.trans hF
  refine WP.skip (WP.seq (WP.seq (WP.rb mixed [[], [0], [1], [2], [2, 3], [2, 4], [5], [6], [6, 7], [6, 8], [6], [6, 10], [6, 11], [6, 9, 12], [6, 13], [6, 14], [15], [16], [16, 17], [16, 18], [19], [19, 20], [19], [19, 22], [19, 21, 23], [16, 19, 24], [16, 25], [26], [27], [27, 28], [27, 29], [30], [30, 31], [27, 30, 32], [27, 33], [34], [34, 35], [34], [34, 37], [34, 36, 38], [27, 34, 39], [27, 40]] [[3], [], [], [3], [], [], [], [1], [], [], [1], [], [], [], [], [], [], [3], [], [], [1], [], [1], [], [], [], [], [], [3], [], [], [3], [], [], [], [1], [], [1], [], [], [], []] [(68, .int .i64 d_.Kind), (69, .bool (d_.Kind == 11)), (70, .bool (d_.Kind == 11)), (71, gv (!(d_.Kind == 11)) (.int .i64 d_.Kind)), (72, gv (!(d_.Kind == 11)) (.bool (d_.Kind == 12))), (73, .bool ((d_.Kind == 11) || (d_.Kind == 12))), (74, .bool ((d_.Kind == 11) || (d_.Kind == 12))), (75, gv (((d_.Kind == 11) || (d_.Kind == 12))) (.pointer (some ((⟨b1_, 0, none⟩ : Addr).add 7)))), (76, gv (((d_.Kind == 11) || (d_.Kind == 12))) (.pointer (some (((⟨b1_, 0, none⟩ : Addr).add 7).add 1)))), (77, gv (((d_.Kind == 11) || (d_.Kind == 12))) (.int .i64 d_.Span.To)), (78, gv (((d_.Kind == 11) || (d_.Kind == 12))) (.pointer (some ((⟨b1_, 0, none⟩ : Addr).add 7)))), (79, gv (((d_.Kind == 11) || (d_.Kind == 12))) (.pointer (some (((⟨b1_, 0, none⟩ : Addr).add 7).add 0)))), (80, gv (((d_.Kind == 11) || (d_.Kind == 12))) (.int .i64 d_.Span.From)), (81, gv (((d_.Kind == 11) || (d_.Kind == 12))) (.int .i64 (i64 (d_.Span.To - d_.Span.From)))), (82, gv (((d_.Kind == 11) || (d_.Kind == 12))) (.bool (i64 (d_.Span.To - d_.Span.From) != 1))), (83, .bool (((d_.Kind == 11) || (d_.Kind == 12)) && (i64 (d_.Span.To - d_.Span.From) != 1))), (84, .bool (((d_.Kind == 11) || (d_.Kind == 12)) && (i64 (d_.Span.To - d_.Span.From) != 1))), (85, gv (!(((d_.Kind == 11) || (d_.Kind == 12)) && (i64 (d_.Span.To - d_.Span.From) != 1))) (.int .i64 d_.Kind)), (86, gv (!(((d_.Kind == 11) || (d_.Kind == 12)) && (i64 (d_.Span.To - d_.Span.From) != 1))) (.bool (d_.Kind == 4))), (87, gv (!(((d_.Kind == 11) || (d_.Kind == 12)) && (i64 (d_.Span.To - d_.Span.From) != 1))) (.bool (d_.Kind == 4))), (88, gv ((!(((d_.Kind == 11) || (d_.Kind == 12)) && (i64 (d_.Span.To - d_.Span.From) != 1))) && (d_.Kind == 4)) (.pointer (some ((⟨b1_, 0, none⟩ : Addr).add 9)))), (89, gv ((!(((d_.Kind == 11) || (d_.Kind == 12)) && (i64 (d_.Span.To - d_.Span.From) != 1))) && (d_.Kind == 4)) (.int .i64 d_.Seat)), (90, gv ((!(((d_.Kind == 11) || (d_.Kind == 12)) && (i64 (d_.Span.To - d_.Span.From) != 1))) && (d_.Kind == 4)) (.pointer (some ((⟨b1_, 0, none⟩ : Addr).add 6)))), (91, gv ((!(((d_.Kind == 11) || (d_.Kind == 12)) && (i64 (d_.Span.To - d_.Span.From) != 1))) && (d_.Kind == 4)) (.int .i64 d_.State)), (92, gv ((!(((d_.Kind == 11) || (d_.Kind == 12)) && (i64 (d_.Span.To - d_.Span.From) != 1))) && (d_.Kind == 4)) (.bool (d_.Seat == d_.State))), (93, gv (!(((d_.Kind == 11) || (d_.Kind == 12)) && (i64 (d_.Span.To - d_.Span.From) != 1))) (.bool ((d_.Kind == 4) && (d_.Seat == d_.State)))), (94, .bool ((((d_.Kind == 11) || (d_.Kind == 12)) && (i64 (d_.Span.To - d_.Span.From) != 1)) || ((d_.Kind == 4) && (d_.Seat == d_.State)))), (95, .bool ((((d_.Kind == 11) || (d_.Kind == 12)) && (i64 (d_.Span.To - d_.Span.From) != 1)) || ((d_.Kind == 4) && (d_.Seat == d_.State)))), (96, gv (!((((d_.Kind == 11) || (d_.Kind == 12)) && (i64 (d_.Span.To - d_.Span.From) != 1)) || ((d_.Kind == 4) && (d_.Seat == d_.State)))) (.int .i64 d_.Kind)), (97, gv (!((((d_.Kind == 11) || (d_.Kind == 12)) && (i64 (d_.Span.To - d_.Span.From) != 1)) || ((d_.Kind == 4) && (d_.Seat == d_.State)))) (.bool (d_.Kind == 10))), (98, gv (!((((d_.Kind == 11) || (d_.Kind == 12)) && (i64 (d_.Span.To - d_.Span.From) != 1)) || ((d_.Kind == 4) && (d_.Seat == d_.State)))) (.bool (d_.Kind == 10))), (99, gv ((!((((d_.Kind == 11) || (d_.Kind == 12)) && (i64 (d_.Span.To - d_.Span.From) != 1)) || ((d_.Kind == 4) && (d_.Seat == d_.State)))) && !(d_.Kind == 10)) (.int .i64 d_.Kind)), (100, gv ((!((((d_.Kind == 11) || (d_.Kind == 12)) && (i64 (d_.Span.To - d_.Span.From) != 1)) || ((d_.Kind == 4) && (d_.Seat == d_.State)))) && !(d_.Kind == 10)) (.bool (d_.Kind == 14))), (101, gv (!((((d_.Kind == 11) || (d_.Kind == 12)) && (i64 (d_.Span.To - d_.Span.From) != 1)) || ((d_.Kind == 4) && (d_.Seat == d_.State)))) (.bool ((d_.Kind == 10) || (d_.Kind == 14)))), (102, gv (!((((d_.Kind == 11) || (d_.Kind == 12)) && (i64 (d_.Span.To - d_.Span.From) != 1)) || ((d_.Kind == 4) && (d_.Seat == d_.State)))) (.bool ((d_.Kind == 10) || (d_.Kind == 14)))), (103, gv ((!((((d_.Kind == 11) || (d_.Kind == 12)) && (i64 (d_.Span.To - d_.Span.From) != 1)) || ((d_.Kind == 4) && (d_.Seat == d_.State)))) && ((d_.Kind == 10) || (d_.Kind == 14))) (.pointer (some ((⟨b1_, 0, none⟩ : Addr).add 13)))), (104, gv ((!((((d_.Kind == 11) || (d_.Kind == 12)) && (i64 (d_.Span.To - d_.Span.From) != 1)) || ((d_.Kind == 4) && (d_.Seat == d_.State)))) && ((d_.Kind == 10) || (d_.Kind == 14))) (.int .i64 d_.Ref)), (105, gv ((!((((d_.Kind == 11) || (d_.Kind == 12)) && (i64 (d_.Span.To - d_.Span.From) != 1)) || ((d_.Kind == 4) && (d_.Seat == d_.State)))) && ((d_.Kind == 10) || (d_.Kind == 14))) (.pointer (some ((⟨b1_, 0, none⟩ : Addr).add 4)))), (106, gv ((!((((d_.Kind == 11) || (d_.Kind == 12)) && (i64 (d_.Span.To - d_.Span.From) != 1)) || ((d_.Kind == 4) && (d_.Seat == d_.State)))) && ((d_.Kind == 10) || (d_.Kind == 14))) (.int .i64 d_.Person)), (107, gv ((!((((d_.Kind == 11) || (d_.Kind == 12)) && (i64 (d_.Span.To - d_.Span.From) != 1)) || ((d_.Kind == 4) && (d_.Seat == d_.State)))) && ((d_.Kind == 10) || (d_.Kind == 14))) (.bool (d_.Ref == d_.Person))), (108, gv (!((((d_.Kind == 11) || (d_.Kind == 12)) && (i64 (d_.Span.To - d_.Span.From) != 1)) || ((d_.Kind == 4) && (d_.Seat == d_.State)))) (.bool (((d_.Kind == 10) || (d_.Kind == 14)) && (d_.Ref == d_.Person)))), (109, .bool (((((d_.Kind == 11) || (d_.Kind == 12)) && (i64 (d_.Span.To - d_.Span.From) != 1)) || ((d_.Kind == 4) && (d_.Seat == d_.State))) || (((d_.Kind == 10) || (d_.Kind == 14)) && (d_.Ref == d_.Person))))] (by kernel_rfl) ⟨mE rfl rfl h3,
 fun ρz wz hE hA _ ⟨u0, _⟩ => core_val rfl rfl (o_eql u0 rfl rfl),
 mU rfl rfl rfl,
 fun ρz wz hE hA ⟨e3, _⟩ ⟨u2, _⟩ => gIf rfl rfl (yF rfl u2) fun gc F hF => core_val rfl hF (o_move (e3.trans h3)),
 fun ρz wz hE hA _ ⟨u2, u3, _⟩ => gIf rfl rfl (yF rfl u2) fun gc F hF => core_val rfl hF (o_eql (gt gc u3) rfl rfl),
 fun ρz wz hE hA _ ⟨u2, u4, _⟩ => core_val rfl rfl (o_pick_or u2 rfl u4),
 mU rfl rfl rfl,
 fun ρz wz hE hA ⟨e1, _⟩ ⟨u6, _⟩ => gIf rfl rfl (yT rfl u6) fun gc F hF => core_val rfl hF (o_fieldAddr (e1.trans h1) (fa_49_7 _ _)),
 fun ρz wz hE hA _ ⟨u6, u7, _⟩ => gIf rfl rfl (yT rfl u6) fun gc F hF => core_val rfl hF (o_fieldAddr (gt gc u7) (fa_31_1 _ _)),
 fun ρz wz hE hA _ ⟨u6, u8, _⟩ => gIf rfl rfl (yT rfl u6) fun gc F hF => core_val rfl hF (o_load (gt gc u8) (run_load1 (lr_3 _ _) (CA.sub (CA.sub ((Hb_b1_.exn (hA rfl)).ca) 7 2) 1 1))),
 fun ρz wz hE hA ⟨e1, _⟩ ⟨u6, _⟩ => gIf rfl rfl (yT rfl u6) fun gc F hF => core_val rfl hF (o_fieldAddr (e1.trans h1) (fa_49_7 _ _)),
 fun ρz wz hE hA _ ⟨u6, u10, _⟩ => gIf rfl rfl (yT rfl u6) fun gc F hF => core_val rfl hF (o_fieldAddr (gt gc u10) (fa_31_0 _ _)),
 fun ρz wz hE hA _ ⟨u6, u11, _⟩ => gIf rfl rfl (yT rfl u6) fun gc F hF => core_val rfl hF (o_load (gt gc u11) (run_load1 (lr_3 _ _) (CA.sub (CA.sub ((Hb_b1_.exn (hA rfl)).ca) 7 2) 0 1))),
 fun ρz wz hE hA _ ⟨u6, u9, u12, _⟩ => gIf rfl rfl (yT rfl u6) fun gc F hF => core_val rfl hF (o_sub (gt gc u9) (gt gc u12) rfl),
 fun ρz wz hE hA _ ⟨u6, u13, _⟩ => gIf rfl rfl (yT rfl u6) fun gc F hF => core_val rfl hF (o_neq (gt gc u13) rfl rfl),
 fun ρz wz hE hA _ ⟨u6, u14, _⟩ => core_val rfl rfl (o_pick_and u6 u14 rfl),
 mU rfl rfl rfl,
 fun ρz wz hE hA ⟨e3, _⟩ ⟨u16, _⟩ => gIf rfl rfl (yF rfl u16) fun gc F hF => core_val rfl hF (o_move (e3.trans h3)),
 fun ρz wz hE hA _ ⟨u16, u17, _⟩ => gIf rfl rfl (yF rfl u16) fun gc F hF => core_val rfl hF (o_eql (gt gc u17) rfl rfl),
 fun ρz wz hE hA _ ⟨u16, u18, _⟩ => gIf rfl rfl (yF rfl u16) fun gc F hF => core_val rfl hF (o_move (gt gc u18)),
 fun ρz wz hE hA ⟨e1, _⟩ ⟨u19, _⟩ => gIf rfl rfl (yTG rfl u19) fun gc F hF => core_val rfl hF (o_fieldAddr (e1.trans h1) (fa_49_8 _ _)),
 fun ρz wz hE hA _ ⟨u19, u20, _⟩ => gIf rfl rfl (yTG rfl u19) fun gc F hF => core_val rfl hF (o_load (gt gc u20) (run_load1 (lr_3 _ _) (CA.sub ((Hb_b1_.exn (hA rfl)).ca) 9 1))),
 fun ρz wz hE hA ⟨e1, _⟩ ⟨u19, _⟩ => gIf rfl rfl (yTG rfl u19) fun gc F hF => core_val rfl hF (o_fieldAddr (e1.trans h1) (fa_49_6 _ _)),
 fun ρz wz hE hA _ ⟨u19, u22, _⟩ => gIf rfl rfl (yTG rfl u19) fun gc F hF => core_val rfl hF (o_load (gt gc u22) (run_load1 (lr_3 _ _) (CA.sub ((Hb_b1_.exn (hA rfl)).ca) 6 1))),
 fun ρz wz hE hA _ ⟨u19, u21, u23, _⟩ => gIf rfl rfl (yTG rfl u19) fun gc F hF => core_val rfl hF (o_eql (gt gc u21) (gt gc u23) rfl),
 fun ρz wz hE hA _ ⟨u16, u19, u24, _⟩ => gIf rfl rfl (yF rfl u16) fun gc F hF => core_val rfl hF (o_pick_and (gt gc u19) (gr gc u24) rfl),
 fun ρz wz hE hA _ ⟨u16, u25, _⟩ => core_val rfl rfl (o_pick_or u16 rfl u25),
 mU rfl rfl rfl,
 fun ρz wz hE hA ⟨e3, _⟩ ⟨u27, _⟩ => gIf rfl rfl (yF rfl u27) fun gc F hF => core_val rfl hF (o_move (e3.trans h3)),
 fun ρz wz hE hA _ ⟨u27, u28, _⟩ => gIf rfl rfl (yF rfl u27) fun gc F hF => core_val rfl hF (o_eql (gt gc u28) rfl rfl),
 fun ρz wz hE hA _ ⟨u27, u29, _⟩ => gIf rfl rfl (yF rfl u27) fun gc F hF => core_val rfl hF (o_move (gt gc u29)),
 fun ρz wz hE hA ⟨e3, _⟩ ⟨u30, _⟩ => gIf rfl rfl (yFG rfl u30) fun gc F hF => core_val rfl hF (o_move (e3.trans h3)),
 fun ρz wz hE hA _ ⟨u30, u31, _⟩ => gIf rfl rfl (yFG rfl u30) fun gc F hF => core_val rfl hF (o_eql (gt gc u31) rfl rfl),
 fun ρz wz hE hA _ ⟨u27, u30, u32, _⟩ => gIf rfl rfl (yF rfl u27) fun gc F hF => core_val rfl hF (o_pick_or (gt gc u30) rfl (gr gc u32)),
 fun ρz wz hE hA _ ⟨u27, u33, _⟩ => gIf rfl rfl (yF rfl u27) fun gc F hF => core_val rfl hF (o_move (gt gc u33)),
 fun ρz wz hE hA ⟨e1, _⟩ ⟨u34, _⟩ => gIf rfl rfl (yTG rfl u34) fun gc F hF => core_val rfl hF (o_fieldAddr (e1.trans h1) (fa_49_12 _ _)),
 fun ρz wz hE hA _ ⟨u34, u35, _⟩ => gIf rfl rfl (yTG rfl u34) fun gc F hF => core_val rfl hF (o_load (gt gc u35) (run_load1 (lr_3 _ _) (CA.sub ((Hb_b1_.exn (hA rfl)).ca) 13 1))),
 fun ρz wz hE hA ⟨e1, _⟩ ⟨u34, _⟩ => gIf rfl rfl (yTG rfl u34) fun gc F hF => core_val rfl hF (o_fieldAddr (e1.trans h1) (fa_49_4 _ _)),
 fun ρz wz hE hA _ ⟨u34, u37, _⟩ => gIf rfl rfl (yTG rfl u34) fun gc F hF => core_val rfl hF (o_load (gt gc u37) (run_load1 (lr_3 _ _) (CA.sub ((Hb_b1_.exn (hA rfl)).ca) 4 1))),
 fun ρz wz hE hA _ ⟨u34, u36, u38, _⟩ => gIf rfl rfl (yTG rfl u34) fun gc F hF => core_val rfl hF (o_eql (gt gc u36) (gt gc u38) rfl),
 fun ρz wz hE hA _ ⟨u27, u34, u39, _⟩ => gIf rfl rfl (yF rfl u27) fun gc F hF => core_val rfl hF (o_pick_and (gt gc u34) (gr gc u39) rfl),
 fun ρz wz hE hA _ ⟨u27, u40, _⟩ => core_val rfl rfl (o_pick_or u27 rfl u40), trivial⟩ ?_)))
  intro ρ7 w7 hN hf hr
  have h109 := hv hf 41 rfl rfl
  obtain ⟨h1, h3⟩ := k2 hr h1 h3 rfl
  have Hb_b1_n := Hb_b1_.exn hN
  have hW := hW.trans hN
  have Hb_b1_ := Hb_b1_n
  refine WP.cond rfl h109 (fun hb => ?_) (fun hb => ?_)
  · have hF := (if_pos hb).symm.trans hF
    refine WP.seq (WP.rb mixed [[]] [[]] [(2, .bool false)] (by kernel_rfl) ⟨aC rfl rfl (fun _ => rfl), trivial⟩ ?_)
    intro ρ8 w8 hN hf hr
    have h2 := hv hf 0 rfl rfl
    have hW := hW.trans hN
    refine WP.ret ?_
    show retQ Try.prog 144 Try.f58 (fun v w1 => v = .bool r ∧ Ext noG w0 w1) .ret ρ8 w8
    obtain rfl := Option.some.inj hF
    exact res1 rfl (by decide) h2 ⟨rfl, hW⟩
  have hF := (if_neg (Bool.eq_false_iff.1 hb)).symm.trans hF
  refine WP.skip (WP.seq ?_)
  obtain ⟨z2, hz2, hF⟩ := obind hF
  obtain ⟨c2, hc2, hF⟩ := obind hF
  obtain ⟨z3, hz3, hc2⟩ := andB hc2
  have hc2 := andE hc2
  obtain ⟨c3, hc3, hF⟩ := obind hF
  obtain ⟨z4, hz4, hc3⟩ := andB hc3
  have hc3 := andE hc3
  obtain ⟨c4, hc4, hF⟩ := obind hF
  obtain ⟨z5, hz5, hc4⟩ := andB hc4
  have hc4 := andE hc4
  obtain ⟨c5, hc5, hF⟩ := obind hF
  obtain ⟨z6, hz6, hc5⟩ := andB hc5
  have hc5 := andE hc5
  obtain ⟨c6, hc6, hF⟩ := obind hF
  obtain ⟨z7, hz7, hc6⟩ := andB hc6
  have hc6 := andE hc6
  refine WP.rb mixed [[], [], [1], [0, 2], [3], [4], [4], [4, 6], [4, 5, 7], [4, 8], [9], [10], [10], [10, 12], [10, 11, 13], [10, 14], [15], [16], [16], [16, 18], [16, 17, 19], [16, 20], [21], [22], [22], [22, 24], [22, 23, 25], [22, 26], [27], [28], [28], [28, 30], [28, 29, 31], [28, 32], [33]] [[3], [1], [], [], [], [3], [1], [], [], [], [], [3], [1], [], [], [], [], [3], [1], [], [], [], [], [3], [1], [], [], [], [], [3], [1], [], [], [], []] [(110, .int .i64 d_.Kind), (111, .pointer (some ((⟨b1_, 0, none⟩ : Addr).add 6))), (112, .int .i64 d_.State), (113, .bool z2), (114, .bool z2), (115, gv (z2) (.int .i64 d_.Kind)), (116, gv (z2) (.pointer (some ((⟨b1_, 0, none⟩ : Addr).add 9)))), (117, gv (z2) (.int .i64 d_.Seat)), (118, gv (z2) (.bool z3)), (119, .bool c2), (120, .bool c2), (121, gv (c2) (.int .i64 d_.Kind)), (122, gv (c2) (.pointer (some ((⟨b1_, 0, none⟩ : Addr).add 10)))), (123, gv (c2) (.int .i64 d_.Share)), (124, gv (c2) (.bool z4)), (125, .bool c3), (126, .bool c3), (127, gv (c3) (.int .i64 d_.Kind)), (128, gv (c3) (.pointer (some ((⟨b1_, 0, none⟩ : Addr).add 11)))), (129, gv (c3) (.int .i64 d_.Currency)), (130, gv (c3) (.bool z5)), (131, .bool c4), (132, .bool c4), (133, gv (c4) (.int .i64 d_.Kind)), (134, gv (c4) (.pointer (some ((⟨b1_, 0, none⟩ : Addr).add 12)))), (135, gv (c4) (.int .i64 d_.Amount)), (136, gv (c4) (.bool z6)), (137, .bool c5), (138, .bool c5), (139, gv (c5) (.int .i64 d_.Kind)), (140, gv (c5) (.pointer (some ((⟨b1_, 0, none⟩ : Addr).add 13)))), (141, gv (c5) (.int .i64 d_.Ref)), (142, gv (c5) (.bool z7)), (143, .bool c6), (2, .bool c6)] (by kernel_rfl) ⟨mE rfl rfl h3,
 fun ρz wz hE hA ⟨e1, _⟩ _ => core_val rfl rfl (o_fieldAddr (e1.trans h1) (fa_49_6 _ _)),
 fun ρz wz hE hA _ ⟨u1, _⟩ => core_val rfl rfl (o_load u1 (run_load1 (lr_3 _ _) (CA.sub ((Hb_b1_.exn (hA rfl)).ca) 6 1))),
 fun ρz wz hE hA _ ⟨u0, u2, _⟩ => core_call rfl (call_args5 u0 rfl u2 rfl rfl) cf_89 (pensionref12_field_ok  _ _ _ _ _  hz2),
 mU rfl rfl rfl,
 fun ρz wz hE hA ⟨e3, _⟩ ⟨u4, _⟩ => gIf rfl rfl (yT rfl u4) fun gc F hF => core_val rfl hF (o_move (e3.trans h3)),
 fun ρz wz hE hA ⟨e1, _⟩ ⟨u4, _⟩ => gIf rfl rfl (yT rfl u4) fun gc F hF => core_val rfl hF (o_fieldAddr (e1.trans h1) (fa_49_8 _ _)),
 fun ρz wz hE hA _ ⟨u4, u6, _⟩ => gIf rfl rfl (yT rfl u4) fun gc F hF => core_val rfl hF (o_load (gt gc u6) (run_load1 (lr_3 _ _) (CA.sub ((Hb_b1_.exn (hA rfl)).ca) 9 1))),
 fun ρz wz hE hA _ ⟨u4, u5, u7, _⟩ => gIf rfl rfl (yT rfl u4) fun gc F hF => core_call hF (call_args5 (gt gc u5) rfl (gt gc u7) rfl rfl) cf_89 (pensionref12_field_ok  _ _ _ _ _  (hz3 gc)),
 fun ρz wz hE hA _ ⟨u4, u8, _⟩ => core_valE rfl rfl (congrArg Value.bool hc2) (o_pick_and u4 u8 rfl),
 mU rfl rfl rfl,
 fun ρz wz hE hA ⟨e3, _⟩ ⟨u10, _⟩ => gIf rfl rfl (yT rfl u10) fun gc F hF => core_val rfl hF (o_move (e3.trans h3)),
 fun ρz wz hE hA ⟨e1, _⟩ ⟨u10, _⟩ => gIf rfl rfl (yT rfl u10) fun gc F hF => core_val rfl hF (o_fieldAddr (e1.trans h1) (fa_49_9 _ _)),
 fun ρz wz hE hA _ ⟨u10, u12, _⟩ => gIf rfl rfl (yT rfl u10) fun gc F hF => core_val rfl hF (o_load (gt gc u12) (run_load1 (lr_3 _ _) (CA.sub ((Hb_b1_.exn (hA rfl)).ca) 10 1))),
 fun ρz wz hE hA _ ⟨u10, u11, u13, _⟩ => gIf rfl rfl (yT rfl u10) fun gc F hF => core_call hF (call_args5 (gt gc u11) rfl (gt gc u13) rfl rfl) cf_89 (pensionref12_field_ok  _ _ _ _ _  (hz4 gc)),
 fun ρz wz hE hA _ ⟨u10, u14, _⟩ => core_valE rfl rfl (congrArg Value.bool hc3) (o_pick_and u10 u14 rfl),
 mU rfl rfl rfl,
 fun ρz wz hE hA ⟨e3, _⟩ ⟨u16, _⟩ => gIf rfl rfl (yT rfl u16) fun gc F hF => core_val rfl hF (o_move (e3.trans h3)),
 fun ρz wz hE hA ⟨e1, _⟩ ⟨u16, _⟩ => gIf rfl rfl (yT rfl u16) fun gc F hF => core_val rfl hF (o_fieldAddr (e1.trans h1) (fa_49_10 _ _)),
 fun ρz wz hE hA _ ⟨u16, u18, _⟩ => gIf rfl rfl (yT rfl u16) fun gc F hF => core_val rfl hF (o_load (gt gc u18) (run_load1 (lr_3 _ _) (CA.sub ((Hb_b1_.exn (hA rfl)).ca) 11 1))),
 fun ρz wz hE hA _ ⟨u16, u17, u19, _⟩ => gIf rfl rfl (yT rfl u16) fun gc F hF => core_call hF (call_args5 (gt gc u17) rfl (gt gc u19) rfl rfl) cf_89 (pensionref12_field_ok  _ _ _ _ _  (hz5 gc)),
 fun ρz wz hE hA _ ⟨u16, u20, _⟩ => core_valE rfl rfl (congrArg Value.bool hc4) (o_pick_and u16 u20 rfl),
 mU rfl rfl rfl,
 fun ρz wz hE hA ⟨e3, _⟩ ⟨u22, _⟩ => gIf rfl rfl (yT rfl u22) fun gc F hF => core_val rfl hF (o_move (e3.trans h3)),
 fun ρz wz hE hA ⟨e1, _⟩ ⟨u22, _⟩ => gIf rfl rfl (yT rfl u22) fun gc F hF => core_val rfl hF (o_fieldAddr (e1.trans h1) (fa_49_11 _ _)),
 fun ρz wz hE hA _ ⟨u22, u24, _⟩ => gIf rfl rfl (yT rfl u22) fun gc F hF => core_val rfl hF (o_load (gt gc u24) (run_load1 (lr_3 _ _) (CA.sub ((Hb_b1_.exn (hA rfl)).ca) 12 1))),
 fun ρz wz hE hA _ ⟨u22, u23, u25, _⟩ => gIf rfl rfl (yT rfl u22) fun gc F hF => core_call hF (call_args5 (gt gc u23) rfl (gt gc u25) rfl rfl) cf_89 (pensionref12_field_ok  _ _ _ _ _  (hz6 gc)),
 fun ρz wz hE hA _ ⟨u22, u26, _⟩ => core_valE rfl rfl (congrArg Value.bool hc5) (o_pick_and u22 u26 rfl),
 mU rfl rfl rfl,
 fun ρz wz hE hA ⟨e3, _⟩ ⟨u28, _⟩ => gIf rfl rfl (yT rfl u28) fun gc F hF => core_val rfl hF (o_move (e3.trans h3)),
 fun ρz wz hE hA ⟨e1, _⟩ ⟨u28, _⟩ => gIf rfl rfl (yT rfl u28) fun gc F hF => core_val rfl hF (o_fieldAddr (e1.trans h1) (fa_49_12 _ _)),
 fun ρz wz hE hA _ ⟨u28, u30, _⟩ => gIf rfl rfl (yT rfl u28) fun gc F hF => core_val rfl hF (o_load (gt gc u30) (run_load1 (lr_3 _ _) (CA.sub ((Hb_b1_.exn (hA rfl)).ca) 13 1))),
 fun ρz wz hE hA _ ⟨u28, u29, u31, _⟩ => gIf rfl rfl (yT rfl u28) fun gc F hF => core_call hF (call_args5 (gt gc u29) rfl (gt gc u31) rfl rfl) cf_89 (pensionref12_field_ok  _ _ _ _ _  (hz7 gc)),
 fun ρz wz hE hA _ ⟨u28, u32, _⟩ => core_valE rfl rfl (congrArg Value.bool hc6) (o_pick_and u28 u32 rfl),
 aU rfl rfl rfl, trivial⟩ ?_
  intro ρ9 w9 hN hf hr
  have h2 := hv hf 34 rfl rfl
  have hW := hW.trans hN
  refine WP.ret ?_
  show retQ Try.prog 144 Try.f58 (fun v w1 => v = .bool r ∧ Ext noG w0 w1) .ret ρ9 w9
  obtain rfl := Option.some.inj hF
  exact res1 rfl (by decide) h2 ⟨rfl, hW⟩

set_option maxHeartbeats 4000000 in
theorem pensionref12_Current_ok {w0 : World} (l_ : List api_Fact) {v_l_ : Value} (H_l_ : RepSl api_Fact.R noG w0 v_l_ l_) {r : (List api_Fact)} (hF : pensionref12_Current l_ = some r) :
    Calls Try.prog 45 #[v_l_] w0 fun e w1 => ∃ v, e = .returned v ∧ Ext noG w0 w1 ∧ Own w0.heap.size 49 14 api_Fact.cells w1 v r := by
  refine (Calls.start (P := Try.prog) (args := [v_l_]) (R := fun v w1 => Own w0.heap.size 49 14 api_Fact.cells w1 v r ∧ Ext noG w0 w1) (n := 32) (w := w0) Try.func45 rfl rfl (Nat.le_of_ble_eq_true rfl) (fun ρ hargs => ?_)).mono (fun e w1 ⟨v, he, hv, hE⟩ => ⟨v, he, hE, hv⟩)
  have h0 := hargs 0 _ rfl
  have hW := Ext.refl noG w0
  obtain ⟨_, _, hs_H_l_, _, _⟩ := RepSl.shape H_l_
  have H_l_ := H_l_.start
  rw [pensionref12_Current] at hF
  refine WP.seq (WP.rb mixed [[]] [[]] [(2, .slice none 0 0)] (by kernel_rfl) ⟨aC rfl rfl (fun _ => rfl), trivial⟩ ?_)
  intro ρ1 w1 hN hf hr
  have h0 := (hr 0 rfl).trans h0
  have H_l_ := H_l_.exn hN
  have hW := hW.trans hN
  refine WP.seq (WP.rb mixed [[]] [[]] [(3, .slice none 0 0)] (by kernel_rfl) ⟨aC rfl rfl (fun _ => rfl), trivial⟩ ?_)
  intro ρ2 w2 hN hf hr
  have h3 : ρ2 3 = .slice none 0 0 := hf 0 rfl
  have O3 : Own w0.heap.size 49 14 api_Fact.cells w2 (.slice none 0 0) [] := Own.nil _ _ _ _ _
  have h0 := (hr 0 rfl).trans h0
  have H_l_ := H_l_.exn hN
  have hW := hW.trans hN
  have O3 : Own w0.heap.size 49 14 api_Fact.cells w2 (.slice none 0 0) [] := Own.nil _ _ _ _ _
  refine WP.seq (WP.seq (WP.rb mixed [[]] [[]] [(4, .int .i64 0)] (by kernel_rfl) ⟨aC rfl rfl (fun _ => rfl), trivial⟩ ?_))
  intro ρ3 w3 hN hf hr
  have h4 := hv hf 0 rfl rfl
  obtain ⟨h0, h3⟩ := k2 hr h0 h3 rfl
  have Oo_O3 := O3
  have H_l_ := H_l_.exn hN
  have hW := hW.trans hN
  have O3 : Own w0.heap.size 49 14 api_Fact.cells w3 (.slice none 0 0) [] := Own.nil _ _ _ _ _
  refine WP.block (WP.loop (fun k_ ρ w => ∃ out_ : List api_Fact, ∃ i_ : Int, ∃ v3_ : Value, ρ 0 = v_l_ ∧ ρ 3 = v3_ ∧ ρ 4 = .int .i64 i_ ∧ RepSl api_Fact.R (gfr noG w0) w v_l_ l_ ∧ Own w0.heap.size 49 14 api_Fact.cells w v3_ out_ ∧ Ext noG w0 w ∧ loopC k_ (pensionref12_Current_l l_) (out_, i_) = some r) FU ⟨[], 0, .slice none 0 0, h0, h3, h4, H_l_, O3, hW, hF⟩ (fun _ _ h => by obtain ⟨_, _, _, _, _, _, _, _, _, h⟩ := h; cases h) ?_)
  rintro k_ ρ4 w4 ⟨out_, i_, v3_, h0, h3, h4, H_l_, O3, hW, hF⟩
  have hF : pensionref12_Current_l l_ (loopC k_ (pensionref12_Current_l l_)) (out_, i_) = some r := hF
  generalize hrec_ : loopC k_ (pensionref12_Current_l l_) = rec_ at hF
  rw [pensionref12_Current_l] at hF
  refine WP.seq (WP.seq (WP.rb mixed [[], [], [1], [0, 2]] [[4], [0], [], []] [(5, .int .i64 i_), (6, v_l_), (7, .int .i64 (l_.length : Int)), (8, .bool (decide (i_ < (l_.length : Int))))] (by kernel_rfl) ⟨mE rfl rfl h4,
 mE rfl rfl h0,
 fun ρz wz hE hA _ ⟨u1, _⟩ => core_val rfl rfl (o_len (u1.trans hs_H_l_) len_24),
 fun ρz wz hE hA _ ⟨u0, u2, _⟩ => core_val rfl rfl (o_lss u0 u2 rfl), trivial⟩ ?_))
  intro ρ5 w5 hN hf hr
  have h8 := hv hf 3 rfl rfl
  obtain ⟨h0, h3, h4⟩ := k3 hr h0 h3 h4 rfl
  have Oo_O3 := O3
  have H_l_ := H_l_.exn hN
  have hW := hW.trans hN
  have O3 := Oo_O3.exn hN
  refine WP.cond rfl h8 (fun hb => ?_) (fun hb => ?_)
  · have hF := (if_pos hb).symm.trans hF
    refine WP.skip (WP.seqJ (fun ρ w => ∃ out_2 : List api_Fact, ∃ v3_2 : Value, ρ 0 = v_l_ ∧ ρ 3 = v3_2 ∧ ρ 4 = .int .i64 i_ ∧ RepSl api_Fact.R (gfr noG w0) w v_l_ l_ ∧ Own w0.heap.size 49 14 api_Fact.cells w v3_2 out_2 ∧ Ext noG w0 w ∧ pensionref12_Current_j i_ rec_ out_2 = some r) ?_ ?_)
    · refine WP.block (WP.seq ?_)
      obtain ⟨y, hy, hF⟩ := obind hF
      obtain ⟨ay, cy, hvy, hiy, hAy⟩ := RepSl.getF H_l_ hy
      obtain ⟨z, hz, hF⟩ := obind hF
      obtain ⟨c, hc, hF⟩ := obind hF
      obtain ⟨y2, hy2, hc⟩ := andB hc
      obtain ⟨ay2, cy2, hvy2, hiy2, hAy2⟩ := RepSl.getFI H_l_ hy2
      have hc := andE hc
      refine WP.rb mixed [[], [], [0, 1], [2], [3], [4], [5], [5], [5, 6, 7], [5, 8], [5, 9], [5, 10], [5, 11]] [[0], [4], [], [], [], [], [0], [4], [], [], [], [], []] [(11, v_l_), (12, .int .i64 i_), (13, .pointer (some (ay.add (Int.toNat i_ * 14)))), (14, api_Fact.val y), (15, .bool z), (16, .bool z), (17, gv (z) v_l_), (18, gv (z) (.int .i64 i_)), (19, gv (z) (.pointer (some (ay2.add (Int.toNat i_ * 14))))), (20, gv (z) (.pointer (some ((ay2.add (Int.toNat i_ * 14)).add 3)))), (21, gv (z) (.bool y2.Withdrawn)), (22, gv (z) (.bool (!y2.Withdrawn))), (23, .bool c)] (by kernel_rfl) ⟨mE rfl rfl h0,
 mE rfl rfl h4,
 fun ρz wz hE hA _ ⟨u0, u1, _⟩ => core_val rfl rfl (o_indexAddr (u0.trans hvy) u1 (ia_24 hiy)),
 fun ρz wz hE hA _ ⟨u2, _⟩ => core_val rfl rfl (o_load u2 (run_loadN (cs := (api_Fact.cells y)) (lr_49 _ _) rfl ((hAy.exn (hA rfl)).ca))),
 fun ρz wz hE hA _ ⟨u3, _⟩ => core_call rfl (call_args1 u3) cf_58 (pensionref12_Valid_ok  _  hz),
 mU rfl rfl rfl,
 fun ρz wz hE hA ⟨e0, _⟩ ⟨u5, _⟩ => gIf rfl rfl (yT rfl u5) fun gc F hF => core_val rfl hF (o_move (e0.trans h0)),
 fun ρz wz hE hA ⟨e4, _⟩ ⟨u5, _⟩ => gIf rfl rfl (yT rfl u5) fun gc F hF => core_val rfl hF (o_move (e4.trans h4)),
 fun ρz wz hE hA _ ⟨u5, u6, u7, _⟩ => gIf rfl rfl (yT rfl u5) fun gc F hF => core_val rfl hF (o_indexAddr ((gt gc u6).trans (hvy2 gc)) (gt gc u7) (ia_24 (hiy2 gc))),
 fun ρz wz hE hA _ ⟨u5, u8, _⟩ => gIf rfl rfl (yT rfl u5) fun gc F hF => core_val rfl hF (o_fieldAddr (gt gc u8) (fa_49_3 _ _)),
 fun ρz wz hE hA _ ⟨u5, u9, _⟩ => gIf rfl rfl (yT rfl u5) fun gc F hF => core_val rfl hF (o_load (gt gc u9) (run_load1 (lr_4 _ _) (CA.sub (((hAy2 gc).exn (hA rfl)).ca) 3 1))),
 fun ρz wz hE hA _ ⟨u5, u10, _⟩ => gIf rfl rfl (yT rfl u5) fun gc F hF => core_val rfl hF (o_not (gt gc u10) rfl),
 fun ρz wz hE hA _ ⟨u5, u11, _⟩ => core_valE rfl rfl (congrArg Value.bool hc) (o_pick_and u5 u11 rfl), trivial⟩ ?_
      intro ρ8 w8 hN hf hr
      have h23 := hv hf 12 rfl rfl
      obtain ⟨h0, h3, h4⟩ := k3 hr h0 h3 h4 rfl
      have Oo_O3 := O3
      have H_l_ := H_l_.exn hN
      have hW := hW.trans hN
      have O3 := Oo_O3.exn hN
      refine WP.cond rfl h23 (fun hb => ?_) (fun hb => ?_)
      · have hF := (if_pos hb).symm.trans hF
        obtain ⟨y3, hy3, hF⟩ := obind hF
        obtain ⟨ay3, cy3, hvy3, hiy3, hAy3⟩ := RepSl.getF H_l_ hy3
        obtain ⟨l, hl, hF⟩ := obind hF
        refine WP.region mixed [[], [], [], [1, 2], [3], [4], [0, 4, 5], [0, 6]] [[], [], [], [1, 2], [3], [4], [0, 5], [6]] [[3], [0], [4], [], [], [], [], []] [6] [] [val 24 (v3_), val 25 (v_l_), val 26 (.int .i64 i_), val 27 (.pointer (some (ay3.add (Int.toNat i_ * 14)))), val 28 (api_Fact.val y3), (29, fun u wz => ∃ b, u = .slice (some ⟨b, 0, none⟩) 1 1 ∧ w8.heap.size ≤ b ∧ Mb wz b 49 (([y3]).flatMap api_Fact.cells)), (30, fun u wz => Own w0.heap.size 49 14 api_Fact.cells wz u l ∧ ∀ b, u.ownBlock = some b → (v3_.ownBlock = some b ∨ w8.heap.size ≤ b)), (3, fun u wz => Own w0.heap.size 49 14 api_Fact.cells wz u l ∧ ∀ b, u.ownBlock = some b → (v3_.ownBlock = some b ∨ w8.heap.size ≤ b))] (fun b => Value.ownBlock v3_ = some b) (by kernel_rfl) ⟨sV, sV, sV, sV, sV, fun _ _ _ hE ⟨b, hz, hs, hM⟩ => ⟨b, hz, hs, hM.ext hE (fun hg => absurd (O3.lt hg).2 (Nat.not_lt.2 hs))⟩, fun _ _ _ hE ⟨hO, hf⟩ => ⟨hO.exn hE, hf⟩, fun _ _ _ hE ⟨hO, hf⟩ => ⟨hO.exn hE, hf⟩, trivial⟩ ⟨mE rfl rfl h3,
 mE rfl rfl h0,
 mE rfl rfl h4,
 fun ρz wz hE hA _ ⟨u1, u2, _⟩ => core_val rfl rfl (o_indexAddr (u1.trans hvy3) u2 (ia_24 hiy3)),
 fun ρz wz hE hA _ ⟨u3, _⟩ => core_val rfl rfl (o_load u3 (run_loadN (cs := (api_Fact.cells y3)) (lr_49 _ _) rfl ((hAy3.exn (hA rfl)).ca))),
 fun ρz wz hE hA _ ⟨u4, _⟩ => core_slice rfl rfl hE (o_buildSlice (build_parts1 u4) (bs_24_1 _ _)),
 fun ρz wz hE hA _ ⟨u0, ⟨bz5, hz5, hge5, hM5⟩, _⟩ => core_append (n := 14) (cells := api_Fact.cells) (B := w0.heap.size) (w0 := w8) rfl rfl (fun b hb => hb) u0 hz5 (fun _ => rfl) one_49 si_24 se_49 (by decide) (by decide) (O3.exn (hA rfl)) ⟨_, (Mb.rep (n := 14) (cells := api_Fact.cells) (hn := fun _ => rfl) (G := noG) hM5 rfl (Nat.le_of_ble_eq_true rfl) (fun h => h))⟩ hl (Nat.le_trans hW.size hE.size) hE.size (fun v1 w1 h1 h2 => ⟨h1, h2⟩),
 fun ρz wz hE hA _ ⟨⟨hO6, hfr6⟩, _⟩ => core_copy rfl rfl (o_assign rfl) ⟨hO6, hfr6⟩, trivial⟩ ?_
        intro ρ9 w9 hE hN hf hr
        obtain ⟨v3_3, h3⟩ : ∃ v, ρ9 3 = v := ⟨_, rfl⟩
        have hq3 : (fun u wz => Own w0.heap.size 49 14 api_Fact.cells wz u l ∧ ∀ b, u.ownBlock = some b → (v3_.ownBlock = some b ∨ w8.heap.size ≤ b)) (ρ9 3) w9 := hf 7 rfl
        rw [h3] at hq3
        obtain ⟨hq3, hfr3⟩ := hq3
        obtain ⟨h0, h4⟩ := k2 hr h0 h4 rfl
        have Oo_O3 := O3
        have H_l_ := H_l_.over hE (fun b hb => (Oo_O3.lt hb).1)
        have hW := Ext.own hW hE (fun b hb => (Oo_O3.lt hb).1)
        have O3 := hq3
        exact ⟨l, v3_3, h0, h3, h4, H_l_, O3, hW, hF⟩
      have hF := (if_neg (Bool.eq_false_iff.1 hb)).symm.trans hF
      refine WP.skip ?_
      exact ⟨out_, v3_, h0, h3, h4, H_l_, O3, hW, hF⟩
    rintro ρ6 w6 ⟨out_2, v3_2, h0, h3, h4, H_l_, O3, hW, hF⟩
    rw [pensionref12_Current_j] at hF
    refine WP.rv mixed [[], [0], [0, 1]] [[], [0], [1]] [[4], [], []] [(9, .int .i64 i_), (10, .int .i64 (i64 (i_ + 1))), (4, .int .i64 (i64 (i_ + 1)))] (by kernel_rfl) ⟨mE rfl rfl h4,
 fun ρz wz hE hA _ ⟨u0, _⟩ => core_val rfl rfl (o_add u0 rfl rfl),
 aU rfl rfl rfl, trivial⟩ ?_
    intro ρ7 w7 hN hf hr
    have h4 := hv hf 2 rfl rfl
    obtain ⟨h0, h3⟩ := k2 hr h0 h3 rfl
    have Oo_O3 := O3
    have H_l_ := H_l_.exn hN
    have hW := hW.trans hN
    have O3 := Oo_O3.exn hN
    exact ⟨out_2, i64 (i_ + 1), v3_2, h0, h3, h4, H_l_, O3, hW, (by first | exact hF | (rw [hrec_]; exact hF))⟩
  have hF := (if_neg (Bool.eq_false_iff.1 hb)).symm.trans hF
  refine WP.exit (thenQ_exit (thenQ_exit (blockQ_hit (WP.seq (WP.rb mixed [[], [0]] [[3], []] [(31, v3_), (2, v3_)] (by kernel_rfl) ⟨mE rfl rfl h3,
 aU rfl rfl rfl, trivial⟩ ?_)))))
  intro ρ10 w10 hN hf hr
  have h2 := hv hf 1 rfl rfl
  have Oo_O3 := O3
  have hW := hW.trans hN
  have O2 := Oo_O3.exn hN
  refine WP.ret ?_
  show retQ Try.prog 32 Try.f45 (fun v w1 => Own w0.heap.size 49 14 api_Fact.cells w1 v r ∧ Ext noG w0 w1) .ret ρ10 w10
  obtain rfl := Option.some.inj hF
  exact res1 rfl (by decide) h2 ⟨O2, hW⟩

set_option maxHeartbeats 4000000 in
theorem pensionref12_least_ok {w0 : World} (l_ : List api_Fact) (kind_ : Int) {v_l_ : Value} (H_l_ : RepSl api_Fact.R noG w0 v_l_ l_) {r : Int × Bool} (hF : pensionref12_least l_ kind_ = some r) :
    Calls Try.prog 90 #[v_l_, .int .i64 kind_] w0 fun e w1 => e = .returned (.tuple #[.int .i64 r.1, .bool r.2]) ∧ Ext noG w0 w1 := by
  refine (Calls.start (P := Try.prog) (args := [v_l_, .int .i64 kind_]) (R := fun v w1 => v = .tuple #[.int .i64 r.1, .bool r.2] ∧ Ext noG w0 w1) (n := 47) (w := w0) Try.func90 rfl rfl (Nat.le_of_ble_eq_true rfl) (fun ρ hargs => ?_)).mono (fun e w1 ⟨v, he, hv, hE⟩ => ⟨hv ▸ he, hE⟩)
  have h0 := hargs 0 _ rfl
  have h1 := hargs 1 _ rfl
  have hW := Ext.refl noG w0
  obtain ⟨_, _, hs_H_l_, _, _⟩ := RepSl.shape H_l_
  have H_l_ := H_l_.start
  rw [pensionref12_least] at hF
  refine WP.seq (WP.rb mixed [[], []] [[], []] [(4, .int .i64 0), (5, .bool false)] (by kernel_rfl) ⟨aC rfl rfl (fun _ => rfl),
 aC rfl rfl (fun _ => rfl), trivial⟩ ?_)
  intro ρ1 w1 hN hf hr
  obtain ⟨h0, h1⟩ := k2 hr h0 h1 rfl
  have H_l_ := H_l_.exn hN
  have hW := hW.trans hN
  refine WP.seq ?_
  obtain ⟨z, hz, hF⟩ := obind hF
  refine WP.rg mixed [[], [0], [1]] [[], [0], [1]] [[0], [], []] [val 10 (v_l_), (11, fun u wz => Own w0.heap.size 49 14 api_Fact.cells wz u z ∧ ∀ b, u.ownBlock = some b → w1.heap.size ≤ b), (6, fun u wz => Own w0.heap.size 49 14 api_Fact.cells wz u z ∧ ∀ b, u.ownBlock = some b → w1.heap.size ≤ b)] (by kernel_rfl) ⟨sV, fun _ _ _ hE ⟨hO, hf⟩ => ⟨hO.exn hE, hf⟩, fun _ _ _ hE ⟨hO, hf⟩ => ⟨hO.exn hE, hf⟩, trivial⟩ ⟨mE rfl rfl h0,
 fun ρz wz hE hA _ ⟨u0, _⟩ => core_callR rfl (call_args1 u0) cf_45 ((pensionref12_Current_ok  _ (H_l_.exn (hA rfl)).no hz).mono (fun e w1 ⟨v, he, hE1, hO⟩ => ⟨v, he, hE1, hO.base (Nat.le_trans hW.size hE.size), fun b hb => Nat.le_trans hE.size (hO.lt hb).1⟩)),
 fun ρz wz hE hA _ ⟨⟨hO1, hfr1⟩, _⟩ => core_copy rfl rfl (o_assign rfl) ⟨hO1, hfr1⟩, trivial⟩ ?_
  intro ρ2 w2 hN hf hr
  obtain ⟨v6_, h6⟩ : ∃ v, ρ2 6 = v := ⟨_, rfl⟩
  have hq6 : (fun u wz => Own w0.heap.size 49 14 api_Fact.cells wz u z ∧ ∀ b, u.ownBlock = some b → w1.heap.size ≤ b) (ρ2 6) w2 := hf 2 rfl
  rw [h6] at hq6
  obtain ⟨hq6, hfr6⟩ := hq6
  have h1 := (hr 1 rfl).trans h1
  have hW := hW.trans hN
  have Hf6 : RepSl api_Fact.R noG w2 v6_ z := hq6.rep (fun _ _ h => h)
  obtain ⟨_, _, hs_Hf6, _, _⟩ := RepSl.shape Hf6
  refine WP.seq (WP.rb mixed [[], []] [[], []] [(7, .int .i64 0), (8, .bool false)] (by kernel_rfl) ⟨aC rfl rfl (fun _ => rfl),
 aC rfl rfl (fun _ => rfl), trivial⟩ ?_)
  intro ρ3 w3 hN hf hr
  have h7 := hv hf 0 rfl rfl
  have h8 := hv hf 1 rfl rfl
  obtain ⟨h1, h6⟩ := k2 hr h1 h6 rfl
  have Hf6 := Hf6.exn hN
  have hW := hW.trans hN
  refine WP.seq (WP.seq (WP.rb mixed [[]] [[]] [(9, .int .i64 0)] (by kernel_rfl) ⟨aC rfl rfl (fun _ => rfl), trivial⟩ ?_))
  intro ρ4 w4 hN hf hr
  have h9 := hv hf 0 rfl rfl
  obtain ⟨h1, h6, h7, h8⟩ := k4 hr h1 h6 h7 h8 rfl
  have Hf6 := Hf6.exn hN
  have hW := hW.trans hN
  refine WP.block (WP.loop (fun k_ ρ w => ∃ day_ : Int, ∃ ok_ : Bool, ∃ i_ : Int, ρ 1 = .int .i64 kind_ ∧ ρ 6 = v6_ ∧ ρ 7 = .int .i64 day_ ∧ ρ 8 = .bool ok_ ∧ ρ 9 = .int .i64 i_ ∧ RepSl api_Fact.R noG w v6_ z ∧ Ext noG w0 w ∧ loopC k_ (pensionref12_least_l kind_ z) (day_, ok_, i_) = some r) FU ⟨0, false, 0, h1, h6, h7, h8, h9, Hf6, hW, hF⟩ (fun _ _ h => by obtain ⟨_, _, _, _, _, _, _, _, _, _, h⟩ := h; cases h) ?_)
  rintro k_ ρ5 w5 ⟨day_, ok_, i_, h1, h6, h7, h8, h9, Hf6, hW, hF⟩
  have hF : pensionref12_least_l kind_ z (loopC k_ (pensionref12_least_l kind_ z)) (day_, ok_, i_) = some r := hF
  generalize hrec_ : loopC k_ (pensionref12_least_l kind_ z) = rec_ at hF
  rw [pensionref12_least_l] at hF
  refine WP.seq (WP.seq (WP.rb mixed [[], [], [1], [0, 2]] [[9], [6], [], []] [(12, .int .i64 i_), (13, v6_), (14, .int .i64 (z.length : Int)), (15, .bool (decide (i_ < (z.length : Int))))] (by kernel_rfl) ⟨mE rfl rfl h9,
 mE rfl rfl h6,
 fun ρz wz hE hA _ ⟨u1, _⟩ => core_val rfl rfl (o_len (u1.trans hs_Hf6) len_24),
 fun ρz wz hE hA _ ⟨u0, u2, _⟩ => core_val rfl rfl (o_lss u0 u2 rfl), trivial⟩ ?_))
  intro ρ6 w6 hN hf hr
  have h15 := hv hf 3 rfl rfl
  obtain ⟨h1, h6, h7, h8, h9⟩ := k5 hr h1 h6 h7 h8 h9 rfl
  have Hf6 := Hf6.exn hN
  have hW := hW.trans hN
  refine WP.cond rfl h15 (fun hb => ?_) (fun hb => ?_)
  · have hF := (if_pos hb).symm.trans hF
    refine WP.skip (WP.seqJ (fun ρ w => ∃ day_2 : Int, ∃ ok_2 : Bool, ρ 1 = .int .i64 kind_ ∧ ρ 6 = v6_ ∧ ρ 7 = .int .i64 day_2 ∧ ρ 8 = .bool ok_2 ∧ ρ 9 = .int .i64 i_ ∧ RepSl api_Fact.R noG w v6_ z ∧ Ext noG w0 w ∧ pensionref12_least_j i_ rec_ day_2 ok_2 = some r) ?_ ?_)
    · refine WP.block (WP.seq ?_)
      obtain ⟨y, hy, hF⟩ := obind hF
      obtain ⟨ay, cy, hvy, hiy, hAy⟩ := RepSl.getF Hf6 hy
      obtain ⟨c2, hc2, hF⟩ := obind hF
      obtain ⟨c, hc, hc2⟩ := andB hc2
      obtain ⟨y2, hy2, hc⟩ := orBI hc
      obtain ⟨ay2, cy2, hvy2, hiy2, hAy2⟩ := RepSl.getFI Hf6 hy2
      have hc := orEI hc
      have hc2 := andE hc2
      refine WP.rb mixed [[], [], [0, 1], [2], [3], [], [4, 5], [6], [7], [7, 8], [7, 9], [10], [10], [10, 11, 12], [10, 13], [10, 14], [10, 15], [10], [10, 16, 17], [7, 10, 18], [7, 19]] [[6], [9], [], [], [], [1], [], [], [8], [], [], [6], [9], [], [], [], [], [7], [], [], []] [(18, v6_), (19, .int .i64 i_), (20, .pointer (some (ay.add (Int.toNat i_ * 14)))), (21, .pointer (some ((ay.add (Int.toNat i_ * 14)).add 5))), (22, .int .i64 y.Kind), (23, .int .i64 kind_), (24, .bool (y.Kind == kind_)), (25, .bool (y.Kind == kind_)), (26, gv ((y.Kind == kind_)) (.bool ok_)), (27, gv ((y.Kind == kind_)) (.bool (!ok_))), (28, gv ((y.Kind == kind_)) (.bool (!ok_))), (29, gv ((y.Kind == kind_) && !(!ok_)) v6_), (30, gv ((y.Kind == kind_) && !(!ok_)) (.int .i64 i_)), (31, gv ((y.Kind == kind_) && !(!ok_)) (.pointer (some (ay2.add (Int.toNat i_ * 14))))), (32, gv ((y.Kind == kind_) && !(!ok_)) (.pointer (some ((ay2.add (Int.toNat i_ * 14)).add 7)))), (33, gv ((y.Kind == kind_) && !(!ok_)) (.pointer (some (((ay2.add (Int.toNat i_ * 14)).add 7).add 0)))), (34, gv ((y.Kind == kind_) && !(!ok_)) (.int .i64 y2.Span.From)), (35, gv ((y.Kind == kind_) && !(!ok_)) (.int .i64 day_)), (36, gv ((y.Kind == kind_) && !(!ok_)) (.bool (decide (y2.Span.From < day_)))), (37, gv ((y.Kind == kind_)) (.bool c)), (38, .bool c2)] (by kernel_rfl) ⟨mE rfl rfl h6,
 mE rfl rfl h9,
 fun ρz wz hE hA _ ⟨u0, u1, _⟩ => core_val rfl rfl (o_indexAddr (u0.trans hvy) u1 (ia_24 hiy)),
 fun ρz wz hE hA _ ⟨u2, _⟩ => core_val rfl rfl (o_fieldAddr u2 (fa_49_5 _ _)),
 fun ρz wz hE hA _ ⟨u3, _⟩ => core_val rfl rfl (o_load u3 (run_load1 (lr_3 _ _) (CA.sub ((hAy.exn (hA rfl)).ca) 5 1))),
 mE rfl rfl h1,
 fun ρz wz hE hA _ ⟨u4, u5, _⟩ => core_val rfl rfl (o_eql u4 u5 rfl),
 mU rfl rfl rfl,
 fun ρz wz hE hA ⟨e8, _⟩ ⟨u7, _⟩ => gIf rfl rfl (yT rfl u7) fun gc F hF => core_val rfl hF (o_move (e8.trans h8)),
 fun ρz wz hE hA _ ⟨u7, u8, _⟩ => gIf rfl rfl (yT rfl u7) fun gc F hF => core_val rfl hF (o_not (gt gc u8) rfl),
 fun ρz wz hE hA _ ⟨u7, u9, _⟩ => gIf rfl rfl (yT rfl u7) fun gc F hF => core_val rfl hF (o_move (gt gc u9)),
 fun ρz wz hE hA ⟨e6, _⟩ ⟨u10, _⟩ => gIf rfl rfl (yFG rfl u10) fun gc F hF => core_val rfl hF (o_move (e6.trans h6)),
 fun ρz wz hE hA ⟨e9, _⟩ ⟨u10, _⟩ => gIf rfl rfl (yFG rfl u10) fun gc F hF => core_val rfl hF (o_move (e9.trans h9)),
 fun ρz wz hE hA _ ⟨u10, u11, u12, _⟩ => gIf rfl rfl (yFG rfl u10) fun gc F hF => core_val rfl hF (o_indexAddr ((gt gc u11).trans (hvy2 gc)) (gt gc u12) (ia_24 (hiy2 gc))),
 fun ρz wz hE hA _ ⟨u10, u13, _⟩ => gIf rfl rfl (yFG rfl u10) fun gc F hF => core_val rfl hF (o_fieldAddr (gt gc u13) (fa_49_7 _ _)),
 fun ρz wz hE hA _ ⟨u10, u14, _⟩ => gIf rfl rfl (yFG rfl u10) fun gc F hF => core_val rfl hF (o_fieldAddr (gt gc u14) (fa_31_0 _ _)),
 fun ρz wz hE hA _ ⟨u10, u15, _⟩ => gIf rfl rfl (yFG rfl u10) fun gc F hF => core_val rfl hF (o_load (gt gc u15) (run_load1 (lr_3 _ _) (CA.sub (CA.sub (((hAy2 gc).exn (hA rfl)).ca) 7 2) 0 1))),
 fun ρz wz hE hA ⟨e7, _⟩ ⟨u10, _⟩ => gIf rfl rfl (yFG rfl u10) fun gc F hF => core_val rfl hF (o_move (e7.trans h7)),
 fun ρz wz hE hA _ ⟨u10, u16, u17, _⟩ => gIf rfl rfl (yFG rfl u10) fun gc F hF => core_val rfl hF (o_lss (gt gc u16) (gt gc u17) rfl),
 fun ρz wz hE hA _ ⟨u7, u10, u18, _⟩ => gIf rfl rfl (yT rfl u7) fun gc F hF => core_valE rfl hF (congrArg Value.bool (hc gc)) (o_pick_or (gt gc u10) rfl (gr gc u18)),
 fun ρz wz hE hA _ ⟨u7, u19, _⟩ => core_valE rfl rfl (congrArg Value.bool hc2) (o_pick_and u7 u19 rfl), trivial⟩ ?_
      intro ρ9 w9 hN hf hr
      have h38 := hv hf 20 rfl rfl
      obtain ⟨h1, h6, h7, h8, h9⟩ := k5 hr h1 h6 h7 h8 h9 rfl
      have Hf6 := Hf6.exn hN
      have hW := hW.trans hN
      refine WP.cond rfl h38 (fun hb => ?_) (fun hb => ?_)
      · have hF := (if_pos hb).symm.trans hF
        obtain ⟨y3, hy3, hF⟩ := obind hF
        obtain ⟨ay3, cy3, hvy3, hiy3, hAy3⟩ := RepSl.getF Hf6 hy3
        refine WP.rb mixed [[], [], [0, 1], [2], [3], [4], [5], []] [[6], [9], [], [], [], [], [], []] [(39, v6_), (40, .int .i64 i_), (41, .pointer (some (ay3.add (Int.toNat i_ * 14)))), (42, .pointer (some ((ay3.add (Int.toNat i_ * 14)).add 7))), (43, .pointer (some (((ay3.add (Int.toNat i_ * 14)).add 7).add 0))), (44, .int .i64 y3.Span.From), (7, .int .i64 y3.Span.From), (8, .bool true)] (by kernel_rfl) ⟨mE rfl rfl h6,
 mE rfl rfl h9,
 fun ρz wz hE hA _ ⟨u0, u1, _⟩ => core_val rfl rfl (o_indexAddr (u0.trans hvy3) u1 (ia_24 hiy3)),
 fun ρz wz hE hA _ ⟨u2, _⟩ => core_val rfl rfl (o_fieldAddr u2 (fa_49_7 _ _)),
 fun ρz wz hE hA _ ⟨u3, _⟩ => core_val rfl rfl (o_fieldAddr u3 (fa_31_0 _ _)),
 fun ρz wz hE hA _ ⟨u4, _⟩ => core_val rfl rfl (o_load u4 (run_load1 (lr_3 _ _) (CA.sub (CA.sub ((hAy3.exn (hA rfl)).ca) 7 2) 0 1))),
 aU rfl rfl rfl,
 aC rfl rfl (fun _ => rfl), trivial⟩ ?_
        intro ρ10 w10 hN hf hr
        have h7 := hv hf 6 rfl rfl
        have h8 := hv hf 7 rfl rfl
        obtain ⟨h1, h6, h9⟩ := k3 hr h1 h6 h9 rfl
        have Hf6 := Hf6.exn hN
        have hW := hW.trans hN
        exact ⟨y3.Span.From, true, h1, h6, h7, h8, h9, Hf6, hW, hF⟩
      have hF := (if_neg (Bool.eq_false_iff.1 hb)).symm.trans hF
      refine WP.skip ?_
      exact ⟨day_, ok_, h1, h6, h7, h8, h9, Hf6, hW, hF⟩
    rintro ρ7 w7 ⟨day_2, ok_2, h1, h6, h7, h8, h9, Hf6, hW, hF⟩
    rw [pensionref12_least_j] at hF
    refine WP.rv mixed [[], [0], [0, 1]] [[], [0], [1]] [[9], [], []] [(16, .int .i64 i_), (17, .int .i64 (i64 (i_ + 1))), (9, .int .i64 (i64 (i_ + 1)))] (by kernel_rfl) ⟨mE rfl rfl h9,
 fun ρz wz hE hA _ ⟨u0, _⟩ => core_val rfl rfl (o_add u0 rfl rfl),
 aU rfl rfl rfl, trivial⟩ ?_
    intro ρ8 w8 hN hf hr
    have h9 := hv hf 2 rfl rfl
    obtain ⟨h1, h6, h7, h8⟩ := k4 hr h1 h6 h7 h8 rfl
    have Hf6 := Hf6.exn hN
    have hW := hW.trans hN
    exact ⟨day_2, ok_2, i64 (i_ + 1), h1, h6, h7, h8, h9, Hf6, hW, (by first | exact hF | (rw [hrec_]; exact hF))⟩
  have hF := (if_neg (Bool.eq_false_iff.1 hb)).symm.trans hF
  refine WP.exit (thenQ_exit (thenQ_exit (blockQ_hit (WP.seq (WP.rb mixed [[], [], [0], [1]] [[7], [8], [], []] [(45, .int .i64 day_), (46, .bool ok_), (4, .int .i64 day_), (5, .bool ok_)] (by kernel_rfl) ⟨mE rfl rfl h7,
 mE rfl rfl h8,
 aU rfl rfl rfl,
 aU rfl rfl rfl, trivial⟩ ?_)))))
  intro ρ11 w11 hN hf hr
  have h4 := hv hf 2 rfl rfl
  have h5 := hv hf 3 rfl rfl
  have hW := hW.trans hN
  refine WP.ret ?_
  show retQ Try.prog 47 Try.f90 (fun v w1 => v = .tuple #[.int .i64 r.1, .bool r.2] ∧ Ext noG w0 w1) .ret ρ11 w11
  obtain rfl := Option.some.inj hF
  exact res2 rfl (by decide) (by decide) h4 h5 ⟨rfl, hW⟩

set_option maxHeartbeats 4000000 in
theorem pensionref12_Birth_ok {w0 : World} (l_ : List api_Fact) {v_l_ : Value} (H_l_ : RepSl api_Fact.R noG w0 v_l_ l_) {r : Int × Bool} (hF : pensionref12_Birth l_ = some r) :
    Calls Try.prog 59 #[v_l_] w0 fun e w1 => e = .returned (.tuple #[.int .i64 r.1, .bool r.2]) ∧ Ext noG w0 w1 := by
  refine (Calls.start (P := Try.prog) (args := [v_l_]) (R := fun v w1 => v = .tuple #[.int .i64 r.1, .bool r.2] ∧ Ext noG w0 w1) (n := 8) (w := w0) Try.func59 rfl rfl (Nat.le_of_ble_eq_true rfl) (fun ρ hargs => ?_)).mono (fun e w1 ⟨v, he, hv, hE⟩ => ⟨hv ▸ he, hE⟩)
  have h0 := hargs 0 _ rfl
  have hW := Ext.refl noG w0
  obtain ⟨_, _, hs_H_l_, _, _⟩ := RepSl.shape H_l_
  have H_l_ := H_l_.start
  rw [pensionref12_Birth] at hF
  refine WP.seq (WP.rb mixed [[], []] [[], []] [(2, .int .i64 0), (3, .bool false)] (by kernel_rfl) ⟨aC rfl rfl (fun _ => rfl),
 aC rfl rfl (fun _ => rfl), trivial⟩ ?_)
  intro ρ1 w1 hN hf hr
  have h0 := (hr 0 rfl).trans h0
  have H_l_ := H_l_.exn hN
  have hW := hW.trans hN
  refine WP.seq ?_
  obtain ⟨z, hz, hF⟩ := obind hF
  refine WP.rb mixed [[], [0], [1], [1], [2], [3]] [[0], [], [], [], [], []] [(4, v_l_), (5, .tuple #[.int .i64 z.1, .bool z.2]), (6, .int .i64 z.1), (7, .bool z.2), (2, .int .i64 z.1), (3, .bool z.2)] (by kernel_rfl) ⟨mE rfl rfl h0,
 fun ρz wz hE hA _ ⟨u0, _⟩ => core_call rfl (call_args2 u0 rfl) cf_90 (pensionref12_least_ok  _ _ (H_l_.exn (hA rfl)).no hz),
 fun ρz wz hE hA _ ⟨u1, _⟩ => core_val rfl rfl (o_extract u1 (by kernel_rfl)),
 fun ρz wz hE hA _ ⟨u1, _⟩ => core_val rfl rfl (o_extract u1 (by kernel_rfl)),
 aU rfl rfl rfl,
 aU rfl rfl rfl, trivial⟩ ?_
  intro ρ2 w2 hN hf hr
  have h2 := hv hf 4 rfl rfl
  have h3 := hv hf 5 rfl rfl
  have hW := hW.trans hN
  refine WP.ret ?_
  show retQ Try.prog 8 Try.f59 (fun v w1 => v = .tuple #[.int .i64 r.1, .bool r.2] ∧ Ext noG w0 w1) .ret ρ2 w2
  obtain rfl := Option.some.inj hF
  exact res2 rfl (by decide) (by decide) h2 h3 ⟨rfl, hW⟩

set_option maxHeartbeats 4000000 in
theorem pensionref12_Death_ok {w0 : World} (l_ : List api_Fact) {v_l_ : Value} (H_l_ : RepSl api_Fact.R noG w0 v_l_ l_) {r : Int × Bool} (hF : pensionref12_Death l_ = some r) :
    Calls Try.prog 60 #[v_l_] w0 fun e w1 => e = .returned (.tuple #[.int .i64 r.1, .bool r.2]) ∧ Ext noG w0 w1 := by
  refine (Calls.start (P := Try.prog) (args := [v_l_]) (R := fun v w1 => v = .tuple #[.int .i64 r.1, .bool r.2] ∧ Ext noG w0 w1) (n := 8) (w := w0) Try.func60 rfl rfl (Nat.le_of_ble_eq_true rfl) (fun ρ hargs => ?_)).mono (fun e w1 ⟨v, he, hv, hE⟩ => ⟨hv ▸ he, hE⟩)
  have h0 := hargs 0 _ rfl
  have hW := Ext.refl noG w0
  obtain ⟨_, _, hs_H_l_, _, _⟩ := RepSl.shape H_l_
  have H_l_ := H_l_.start
  rw [pensionref12_Death] at hF
  refine WP.seq (WP.rb mixed [[], []] [[], []] [(2, .int .i64 0), (3, .bool false)] (by kernel_rfl) ⟨aC rfl rfl (fun _ => rfl),
 aC rfl rfl (fun _ => rfl), trivial⟩ ?_)
  intro ρ1 w1 hN hf hr
  have h0 := (hr 0 rfl).trans h0
  have H_l_ := H_l_.exn hN
  have hW := hW.trans hN
  refine WP.seq ?_
  obtain ⟨z, hz, hF⟩ := obind hF
  refine WP.rb mixed [[], [0], [1], [1], [2], [3]] [[0], [], [], [], [], []] [(4, v_l_), (5, .tuple #[.int .i64 z.1, .bool z.2]), (6, .int .i64 z.1), (7, .bool z.2), (2, .int .i64 z.1), (3, .bool z.2)] (by kernel_rfl) ⟨mE rfl rfl h0,
 fun ρz wz hE hA _ ⟨u0, _⟩ => core_call rfl (call_args2 u0 rfl) cf_90 (pensionref12_least_ok  _ _ (H_l_.exn (hA rfl)).no hz),
 fun ρz wz hE hA _ ⟨u1, _⟩ => core_val rfl rfl (o_extract u1 (by kernel_rfl)),
 fun ρz wz hE hA _ ⟨u1, _⟩ => core_val rfl rfl (o_extract u1 (by kernel_rfl)),
 aU rfl rfl rfl,
 aU rfl rfl rfl, trivial⟩ ?_
  intro ρ2 w2 hN hf hr
  have h2 := hv hf 4 rfl rfl
  have h3 := hv hf 5 rfl rfl
  have hW := hW.trans hN
  refine WP.ret ?_
  show retQ Try.prog 8 Try.f60 (fun v w1 => v = .tuple #[.int .i64 r.1, .bool r.2] ∧ Ext noG w0 w1) .ret ρ2 w2
  obtain rfl := Option.some.inj hF
  exact res2 rfl (by decide) (by decide) h2 h3 ⟨rfl, hW⟩

set_option maxHeartbeats 4000000 in
theorem pensionref12_Life_ok {w0 : World} (l_ : List api_Fact) {v_l_ : Value} (H_l_ : RepSl api_Fact.R noG w0 v_l_ l_) {r : Span} (hF : pensionref12_Life l_ = some r) :
    Calls Try.prog 46 #[v_l_] w0 fun e w1 => e = .returned (Span.val r) ∧ Ext noG w0 w1 := by
  refine (Calls.start (P := Try.prog) (args := [v_l_]) (R := fun v w1 => v = Span.val r ∧ Ext noG w0 w1) (n := 27) (w := w0) Try.func46 rfl rfl (Nat.le_of_ble_eq_true rfl) (fun ρ hargs => ?_)).mono (fun e w1 ⟨v, he, hv, hE⟩ => ⟨hv ▸ he, hE⟩)
  have h0 := hargs 0 _ rfl
  have hW := Ext.refl noG w0
  obtain ⟨_, _, hs_H_l_, _, _⟩ := RepSl.shape H_l_
  have H_l_ := H_l_.start
  rw [pensionref12_Life] at hF
  refine WP.seq (WP.rg mixed [[]] [[]] [[]] [(2, fun u wz => ∃ b, u = .pointer (some ⟨b, 0, none⟩) ∧ w0.heap.size ≤ b ∧ Mb wz b 31 (Span.cells (⟨0, 0⟩ : Span)))] (by kernel_rfl) ⟨fun _ _ _ hE ⟨b, hb, hs, hM⟩ => ⟨b, hb, hs, hM.exn hE⟩, trivial⟩ ⟨fun ρz wz hE hA _ _ => core_new rfl rfl hE (o_alloc (al_31 _)), trivial⟩ ?_)
  intro ρ1 w1 hN hf hr
  obtain ⟨b2_, h2, hge_b2_, Hb_b2_⟩ := hf 0 rfl
  have h0 := (hr 0 rfl).trans h0
  have H_l_ := H_l_.exn hN
  have hB_b2_ : w0.heap.size ≤ b2_ := Nat.le_trans hW.size hge_b2_
  have hW := hW.trans hN
  refine WP.seq ?_
  obtain ⟨z, hz, hF⟩ := obind hF
  refine WP.rb mixed [[], [0], [1], [2], [2], [3], [4]] [[0], [], [], [], [], [], []] [(8, v_l_), (9, .tuple #[.int .i64 z.1, .bool z.2]), (7, .tuple #[.int .i64 z.1, .bool z.2]), (10, .int .i64 z.1), (11, .bool z.2), (3, .int .i64 z.1), (4, .bool z.2)] (by kernel_rfl) ⟨mE rfl rfl h0,
 fun ρz wz hE hA _ ⟨u0, _⟩ => core_call rfl (call_args1 u0) cf_59 (pensionref12_Birth_ok  _ (H_l_.exn (hA rfl)).no hz),
 mU rfl rfl rfl,
 fun ρz wz hE hA _ ⟨u2, _⟩ => core_val rfl rfl (o_extract u2 (by kernel_rfl)),
 fun ρz wz hE hA _ ⟨u2, _⟩ => core_val rfl rfl (o_extract u2 (by kernel_rfl)),
 aU rfl rfl rfl,
 aU rfl rfl rfl, trivial⟩ ?_
  intro ρ2 w2 hN hf hr
  have h3 := hv hf 5 rfl rfl
  obtain ⟨h0, h2⟩ := k2 hr h0 h2 rfl
  have Hb_b2_n := Hb_b2_.exn hN
  have H_l_ := H_l_.exn hN
  have hW := hW.trans hN
  have Hb_b2_ := Hb_b2_n
  refine WP.seq ?_
  obtain ⟨z2, hz2, hF⟩ := obind hF
  refine WP.rb mixed [[], [0], [1], [2], [2], [3], [4]] [[0], [], [], [], [], [], []] [(13, v_l_), (14, .tuple #[.int .i64 z2.1, .bool z2.2]), (12, .tuple #[.int .i64 z2.1, .bool z2.2]), (15, .int .i64 z2.1), (16, .bool z2.2), (5, .int .i64 z2.1), (6, .bool z2.2)] (by kernel_rfl) ⟨mE rfl rfl h0,
 fun ρz wz hE hA _ ⟨u0, _⟩ => core_call rfl (call_args1 u0) cf_60 (pensionref12_Death_ok  _ (H_l_.exn (hA rfl)).no hz2),
 mU rfl rfl rfl,
 fun ρz wz hE hA _ ⟨u2, _⟩ => core_val rfl rfl (o_extract u2 (by kernel_rfl)),
 fun ρz wz hE hA _ ⟨u2, _⟩ => core_val rfl rfl (o_extract u2 (by kernel_rfl)),
 aU rfl rfl rfl,
 aU rfl rfl rfl, trivial⟩ ?_
  intro ρ3 w3 hN hf hr
  have h5 := hv hf 5 rfl rfl
  have h6 := hv hf 6 rfl rfl
  obtain ⟨h2, h3⟩ := k2 hr h2 h3 rfl
  have Hb_b2_n := Hb_b2_.exn hN
  have hW := hW.trans hN
  have Hb_b2_ := Hb_b2_n
  refine WP.seqJ (fun ρ w => ∃ to_ : Int, ρ 2 = .pointer (some ⟨b2_, 0, none⟩) ∧ ρ 3 = .int .i64 z.1 ∧ ρ 5 = .int .i64 to_ ∧ Mb w b2_ 31 (Span.cells (⟨0, 0⟩ : Span)) ∧ Ext noG w0 w ∧ pensionref12_Life_j z to_ = some r) ?_ ?_
  · refine WP.seq (WP.rb mixed [[], [0]] [[6], []] [(17, .bool z2.2), (18, .bool (!z2.2))] (by kernel_rfl) ⟨mE rfl rfl h6,
 fun ρz wz hE hA _ ⟨u0, _⟩ => core_val rfl rfl (o_not u0 rfl), trivial⟩ ?_)
    intro ρ8 w8 hN hf hr
    have h18 := hv hf 1 rfl rfl
    obtain ⟨h2, h3, h5⟩ := k3 hr h2 h3 h5 rfl
    have Hb_b2_n := Hb_b2_.exn hN
    have hW := hW.trans hN
    have Hb_b2_ := Hb_b2_n
    refine WP.cond rfl h18 (fun hb => ?_) (fun hb => ?_)
    · have hF := (if_pos hb).symm.trans hF
      refine WP.rb mixed [[]] [[]] [(5, .int .i64 73048)] (by kernel_rfl) ⟨aC rfl rfl (fun _ => rfl), trivial⟩ ?_
      intro ρ9 w9 hN hf hr
      have h5 := hv hf 0 rfl rfl
      obtain ⟨h2, h3⟩ := k2 hr h2 h3 rfl
      have Hb_b2_n := Hb_b2_.exn hN
      have hW := hW.trans hN
      have Hb_b2_ := Hb_b2_n
      exact ⟨73048, h2, h3, h5, Hb_b2_, hW, hF⟩
    have hF := (if_neg (Bool.eq_false_iff.1 hb)).symm.trans hF
    refine WP.skip ?_
    exact ⟨z2.1, h2, h3, h5, Hb_b2_, hW, hF⟩
  rintro ρ4 w4 ⟨to_, h2, h3, h5, Hb_b2_, hW, hF⟩
  rw [pensionref12_Life_j] at hF
  refine WP.seq (WP.seq (WP.rb mixed [[], [], [0, 1]] [[5], [3], []] [(19, .int .i64 to_), (20, .int .i64 z.1), (21, .bool (decide (to_ < z.1)))] (by kernel_rfl) ⟨mE rfl rfl h5,
 mE rfl rfl h3,
 fun ρz wz hE hA _ ⟨u0, u1, _⟩ => core_val rfl rfl (o_lss u0 u1 rfl), trivial⟩ ?_))
  intro ρ5 w5 hN hf hr
  have h21 := hv hf 2 rfl rfl
  obtain ⟨h2, h3, h5⟩ := k3 hr h2 h3 h5 rfl
  have Hb_b2_n := Hb_b2_.exn hN
  have hW := hW.trans hN
  have Hb_b2_ := Hb_b2_n
  refine WP.cond rfl h21 (fun hb => ?_) (fun hb => ?_)
  · have hF := (if_pos hb).symm.trans hF
    refine WP.seq (WP.region mixed [[], [0]] [[], [0]] [[], [2]] [1] [] [val 22 (Span.val (⟨0, 0⟩ : Span)), (2, fun _ wz => Mb wz b2_ 31 (Span.cells (⟨0, 0⟩ : Span)))] (fun x => x = b2_) (by kernel_rfl) ⟨sV, fun _ _ _ hE hM => hM.exn hE, trivial⟩ ⟨fun ρz wz hE hA _ _ => core_val rfl rfl (o_build (by simp) (bd_31_  _)),
 fun ρz wz hE hA ⟨e2, _⟩ ⟨u0, _⟩ => core_storeBox rfl rfl (fun _ h => h) (e2.trans h2) u0 (Hb_b2_.exn (hA rfl)) (fun a w => st_31 _ a w) rfl (one_31 _), trivial⟩ ?_)
    intro ρ6 w6 hE hN hf hr
    have h2 := (hr 2 rfl).trans h2
    have Hb_b2_n := hf 1 rfl
    have hW := Ext.own hW hE (fun x h => h.symm ▸ hB_b2_)
    have Hb_b2_ := Hb_b2_n
    refine WP.ret ?_
    show retQ Try.prog 27 Try.f46 (fun v w1 => v = Span.val r ∧ Ext noG w0 w1) .ret ρ6 w6
    obtain rfl := Option.some.inj hF
    exact resC rfl (by decide) h2 (run_loadN (cs := (Span.cells (⟨0, 0⟩ : Span))) (lr_31 _ _) rfl Hb_b2_.ca) ⟨rfl, hW⟩
  have hF := (if_neg (Bool.eq_false_iff.1 hb)).symm.trans hF
  refine WP.skip (WP.seq (WP.region mixed [[], [], [1], [0, 2], [3]] [[], [], [1], [0, 2], [3]] [[3], [5], [], [], [2]] [4] [] [val 23 (.int .i64 z.1), val 24 (.int .i64 to_), val 25 (.int .i64 (i64 (to_ + 1))), val 26 (Span.val (⟨z.1, i64 (to_ + 1)⟩ : Span)), (2, fun _ wz => Mb wz b2_ 31 (Span.cells (⟨z.1, i64 (to_ + 1)⟩ : Span)))] (fun x => x = b2_) (by kernel_rfl) ⟨sV, sV, sV, sV, fun _ _ _ hE hM => hM.exn hE, trivial⟩ ⟨mE rfl rfl h3,
 mE rfl rfl h5,
 fun ρz wz hE hA _ ⟨u1, _⟩ => core_val rfl rfl (o_add u1 rfl rfl),
 fun ρz wz hE hA _ ⟨u0, u2, _⟩ => core_val rfl rfl (o_build (build_parts2 u0 u2) (bd_31_0_1 _ _ _)),
 fun ρz wz hE hA ⟨e2, _⟩ ⟨u3, _⟩ => core_storeBox rfl rfl (fun _ h => h) (e2.trans h2) u3 (Hb_b2_.exn (hA rfl)) (fun a w => st_31 _ a w) rfl (one_31 _), trivial⟩ ?_))
  intro ρ7 w7 hE hN hf hr
  have h2 := (hr 2 rfl).trans h2
  have Hb_b2_n := hf 4 rfl
  have hW := Ext.own hW hE (fun x h => h.symm ▸ hB_b2_)
  have Hb_b2_ := Hb_b2_n
  refine WP.ret ?_
  show retQ Try.prog 27 Try.f46 (fun v w1 => v = Span.val r ∧ Ext noG w0 w1) .ret ρ7 w7
  obtain rfl := Option.some.inj hF
  exact resC rfl (by decide) h2 (run_loadN (cs := (Span.cells (⟨z.1, i64 (to_ + 1)⟩ : Span))) (lr_31 _ _) rfl Hb_b2_.ca) ⟨rfl, hW⟩

set_option maxHeartbeats 4000000 in
theorem pensionref1_cutSpan_ok {w0 : World} (s_ : Span) {r : Span × Bool} (hF : pensionref1_cutSpan s_ = some r) :
    Calls Try.prog 61 #[Span.val s_] w0 fun e w1 => e = .returned (.tuple #[Span.val r.1, .bool r.2]) ∧ Ext noG w0 w1 := by
  refine (Calls.start (P := Try.prog) (args := [Span.val s_]) (R := fun v w1 => v = .tuple #[Span.val r.1, .bool r.2] ∧ Ext noG w0 w1) (n := 17) (w := w0) Try.func61 rfl rfl (Nat.le_of_ble_eq_true rfl) (fun ρ hargs => ?_)).mono (fun e w1 ⟨v, he, hv, hE⟩ => ⟨hv ▸ he, hE⟩)
  have h0 := hargs 0 _ rfl
  have hW := Ext.refl noG w0
  rw [pensionref1_cutSpan] at hF
  refine WP.seq (WP.regionN mixed ⟨[[], [], []], [[], [], []], [[0], [], []], [], [], [(0, 1), (1, 2)], []⟩ [(1, fun u wz => ∃ b, u = .pointer (some ⟨b, 0, none⟩) ∧ w0.heap.size ≤ b ∧ Mb wz b 31 (Span.cells s_)), (2, fun u wz => ∃ b, u = .pointer (some ⟨b, 0, none⟩) ∧ w0.heap.size ≤ b ∧ Mb wz b 31 (Span.cells (⟨0, 0⟩ : Span))), val 3 (.bool false)] (fun b => w0.heap.size ≤ b) (by kernel_rfl) (.inr (fun _ h => h)) ⟨TStable.box, TStable.box, sV, trivial⟩ ⟨fun ρz wz hE hA ⟨e0, _⟩ _ => core_newN rfl rfl rfl hE (o_box (e0.trans h0) (bx_31 _ _)),
 fun ρz wz hE hA _ _ => core_newN rfl rfl rfl hE (o_alloc (al_31 _)),
 fun ρz wz hE hA _ _ => core_val rfl rfl (o_assign rfl), trivial⟩ ?_)
  intro ρ1 w1 hE hN hf hr hdist
  have hN := hE.fresh
  obtain ⟨b1_, h1, hge_b1_, Hb_b1_⟩ := hf 0 rfl
  obtain ⟨b2_, h2, hge_b2_, Hb_b2_⟩ := hf 1 rfl
  have hB_b1_ : w0.heap.size ≤ b1_ := Nat.le_trans hW.size hge_b1_
  have hB_b2_ : w0.heap.size ≤ b2_ := Nat.le_trans hW.size hge_b2_
  have hne_b1__b2_ : b1_ ≠ b2_ := fun h => hdist (0, 1) (by simp) (1, 2) (by simp) (by decide) b1_ (by rw [h1]; rfl) (by rw [h2, h]; rfl)
  have hW := hW.trans hN
  refine WP.seq (WP.region mixed [[], [0], [1], [], [3], [4], [2, 5], [1, 4, 6]] [[], [0], [1], [], [3], [4], [2, 5], [6]] [[1], [], [], [1], [], [], [], [1]] [7] [] [val 4 (.pointer (some ((⟨b1_, 0, none⟩ : Addr).add 0))), val 5 (.int .i64 s_.From), val 6 (.int .i64 (max s_.From 0)), val 7 (.pointer (some ((⟨b1_, 0, none⟩ : Addr).add 1))), val 8 (.int .i64 s_.To), val 9 (.int .i64 (min s_.To 73049)), val 10 (Span.val (⟨max s_.From 0, min s_.To 73049⟩ : Span)), (1, fun _ wz => Mb wz b1_ 31 (Span.cells (⟨max s_.From 0, min s_.To 73049⟩ : Span)))] (fun x => x = b1_) (by kernel_rfl) ⟨sV, sV, sV, sV, sV, sV, sV, fun _ _ _ hE hM => hM.exn hE, trivial⟩ ⟨fun ρz wz hE hA ⟨e1, _⟩ _ => core_val rfl rfl (o_fieldAddr (e1.trans h1) (fa_31_0 _ _)),
 fun ρz wz hE hA _ ⟨u0, _⟩ => core_val rfl rfl (o_load u0 (run_load1 (lr_3 _ _) (CA.sub ((Hb_b1_.exn (hA rfl)).ca) 0 1))),
 fun ρz wz hE hA _ ⟨u1, _⟩ => core_val rfl rfl (o_max2 u1 rfl),
 fun ρz wz hE hA ⟨e1, _⟩ _ => core_val rfl rfl (o_fieldAddr (e1.trans h1) (fa_31_1 _ _)),
 fun ρz wz hE hA _ ⟨u3, _⟩ => core_val rfl rfl (o_load u3 (run_load1 (lr_3 _ _) (CA.sub ((Hb_b1_.exn (hA rfl)).ca) 1 1))),
 fun ρz wz hE hA _ ⟨u4, _⟩ => core_val rfl rfl (o_min2 u4 rfl),
 fun ρz wz hE hA _ ⟨u2, u5, _⟩ => core_val rfl rfl (o_build (build_parts2 u2 u5) (bd_31_0_1 _ _ _)),
 fun ρz wz hE hA ⟨e1, _⟩ ⟨u6, _⟩ => core_storeBox rfl rfl (fun _ h => h) (e1.trans h1) u6 (Hb_b1_.exn (hA rfl)) (fun a w => st_31 _ a w) rfl (one_31 _), trivial⟩ ?_)
  intro ρ2 w2 hE hN hf hr
  obtain ⟨h1, h2⟩ := k2 hr h1 h2 rfl
  have Hb_b1_n := hf 7 rfl
  have Hb_b2_n := Hb_b2_.ext hE (fun h => hne_b1__b2_ h.symm)
  have hW := Ext.own hW hE (fun x h => h.symm ▸ hB_b1_)
  have Hb_b1_ := Hb_b1_n
  have Hb_b2_ := Hb_b2_n
  refine WP.seq (WP.region mixed [[], [], [1], [], [3], [2, 4], [0], [5, 6]] [[], [], [1], [], [3], [2, 4], [0], [5]] [[1], [1], [], [1], [], [], [2], []] [6] [] [val 11 (Span.val (⟨max s_.From 0, min s_.To 73049⟩ : Span)), val 12 (.pointer (some ((⟨b1_, 0, none⟩ : Addr).add 0))), val 13 (.int .i64 (max s_.From 0)), val 14 (.pointer (some ((⟨b1_, 0, none⟩ : Addr).add 1))), val 15 (.int .i64 (min s_.To 73049)), val 16 (.bool (decide (max s_.From 0 < min s_.To 73049))), (2, fun _ wz => Mb wz b2_ 31 (Span.cells (⟨max s_.From 0, min s_.To 73049⟩ : Span))), val 3 (.bool (decide (max s_.From 0 < min s_.To 73049)))] (fun x => x = b2_) (by kernel_rfl) ⟨sV, sV, sV, sV, sV, sV, fun _ _ _ hE hM => hM.exn hE, sV, trivial⟩ ⟨fun ρz wz hE hA ⟨e1, _⟩ _ => core_val rfl rfl (o_load (e1.trans h1) (run_loadN (cs := (Span.cells (⟨max s_.From 0, min s_.To 73049⟩ : Span))) (lr_31 _ _) rfl ((Hb_b1_.exn (hA rfl)).ca))),
 fun ρz wz hE hA ⟨e1, _⟩ _ => core_val rfl rfl (o_fieldAddr (e1.trans h1) (fa_31_0 _ _)),
 fun ρz wz hE hA _ ⟨u1, _⟩ => core_val rfl rfl (o_load u1 (run_load1 (lr_3 _ _) (CA.sub ((Hb_b1_.ext hE (fun h => hne_b1__b2_ h)).ca) 0 1))),
 fun ρz wz hE hA ⟨e1, _⟩ _ => core_val rfl rfl (o_fieldAddr (e1.trans h1) (fa_31_1 _ _)),
 fun ρz wz hE hA _ ⟨u3, _⟩ => core_val rfl rfl (o_load u3 (run_load1 (lr_3 _ _) (CA.sub ((Hb_b1_.ext hE (fun h => hne_b1__b2_ h)).ca) 1 1))),
 fun ρz wz hE hA _ ⟨u2, u4, _⟩ => core_val rfl rfl (o_lss u2 u4 rfl),
 fun ρz wz hE hA ⟨e2, _⟩ ⟨u0, _⟩ => core_storeBox rfl rfl (fun _ h => h) (e2.trans h2) u0 (Hb_b2_.exn (hA rfl)) (fun a w => st_31 _ a w) rfl (one_31 _),
 aU rfl rfl rfl, trivial⟩ ?_)
  intro ρ3 w3 hE hN hf hr
  have h3 : ρ3 3 = .bool (decide (max s_.From 0 < min s_.To 73049)) := hf 7 rfl
  have h2 := (hr 2 rfl).trans h2
  have Hb_b2_n := hf 6 rfl
  have hW := Ext.own hW hE (fun x h => h.symm ▸ hB_b2_)
  have Hb_b2_ := Hb_b2_n
  refine WP.ret ?_
  show retQ Try.prog 17 Try.f61 (fun v w1 => v = .tuple #[Span.val r.1, .bool r.2] ∧ Ext noG w0 w1) .ret ρ3 w3
  obtain rfl := Option.some.inj hF
  exact resC1 rfl (by decide) (by decide) h2 (run_loadN (cs := (Span.cells (⟨max s_.From 0, min s_.To 73049⟩ : Span))) (lr_31 _ _) rfl Hb_b2_.ca) h3 ⟨rfl, hW⟩

set_option maxHeartbeats 4000000 in
theorem pensionref1_Ins_ok {w0 : World} (l_ : List Int) (n_ : Int) {v_l_ : Value} {B : Nat} (O0 : Own B 3 1 (fun x : Int => [Value.int .i64 x]) w0 v_l_ l_) (hB0 : B ≤ w0.heap.size) {r : (List Int)} (hF : pensionref1_Ins l_ n_ = some r) :
    Calls Try.prog 62 #[v_l_, .int .i64 n_] w0 fun e w1 => ∃ v, e = .returned v ∧ Ext (fun b => Value.ownBlock v_l_ = some b) w0 w1 ∧ (Own B 3 1 (fun x : Int => [Value.int .i64 x]) w1 v r ∧ ∀ b, v.ownBlock = some b → Value.ownBlock v_l_ = some b ∨ w0.heap.size ≤ b) := by
  refine (Calls.start (P := Try.prog) (args := [v_l_, .int .i64 n_]) (R := fun v w1 => (Own B 3 1 (fun x : Int => [Value.int .i64 x]) w1 v r ∧ ∀ b, v.ownBlock = some b → Value.ownBlock v_l_ = some b ∨ w0.heap.size ≤ b) ∧ Ext (fun b => Value.ownBlock v_l_ = some b) w0 w1) (n := 45) (w := w0) Try.func62 rfl rfl (Nat.le_of_ble_eq_true rfl) (fun ρ hargs => ?_)).mono (fun e w1 ⟨v, he, hv, hE⟩ => ⟨v, he, hE, hv⟩)
  have h0 := hargs 0 _ rfl
  have h1 := hargs 1 _ rfl
  have hW := Ext.refl (fun b => Value.ownBlock v_l_ = some b) w0
  rw [pensionref1_Ins] at hF
  refine WP.seq (WP.rb mixed [[]] [[]] [(4, .slice none 0 0)] (by kernel_rfl) ⟨aC rfl rfl (fun _ => rfl), trivial⟩ ?_)
  intro ρ1 w1 hN hf hr
  obtain ⟨h0, h1⟩ := k2 hr h0 h1 rfl
  have Oo_O0 := O0
  have hW := hW.trans hN.of_no
  have O0 := Oo_O0.exn hN
  refine WP.seq (WP.rb mixed [[], [0], [1]] [[0], [], []] [(6, v_l_), (7, .int .i64 (l_.length : Int)), (5, .int .i64 (l_.length : Int))] (by kernel_rfl) ⟨mE rfl rfl h0,
 fun ρz wz hE hA _ ⟨u0, _⟩ => core_val rfl rfl (o_len (u0.trans (Own.shape O0).choose_spec.choose_spec.1) len_55),
 aU rfl rfl rfl, trivial⟩ ?_)
  intro ρ2 w2 hN hf hr
  have h5 := hv hf 2 rfl rfl
  obtain ⟨h0, h1⟩ := k2 hr h0 h1 rfl
  have Oo_O0 := O0
  have hW := hW.trans hN.of_no
  have O0 := Oo_O0.exn hN
  refine WP.seq (WP.block (WP.loop (fun k_ ρ w => ∃ at_ : Int, ρ 0 = v_l_ ∧ ρ 1 = .int .i64 n_ ∧ ρ 5 = .int .i64 at_ ∧ Own B 3 1 (fun x : Int => [Value.int .i64 x]) w v_l_ l_ ∧ Ext (fun b => Value.ownBlock v_l_ = some b) w0 w ∧ loopC k_ (pensionref1_Ins_l l_ n_) at_ = some r) FU ⟨(l_.length : Int), h0, h1, h5, O0, hW, hF⟩ (fun _ _ h => by obtain ⟨_, _, _, _, _, _, h⟩ := h; cases h) ?_))
  rintro k_ ρ3 w3 ⟨at_, h0, h1, h5, O0, hW, hF⟩
  have hF : pensionref1_Ins_l l_ n_ (loopC k_ (pensionref1_Ins_l l_ n_)) at_ = some r := hF
  generalize hrec_ : loopC k_ (pensionref1_Ins_l l_ n_) = rec_ at hF
  rw [pensionref1_Ins_l] at hF
  refine WP.seq (WP.seq ?_)
  obtain ⟨c, hc, hF⟩ := obind hF
  obtain ⟨y, hy, hc⟩ := andB hc
  obtain ⟨ay, cy, hvy, hiy, hAy⟩ := RepSl.getFI (Own.rep (hn := fun _ => rfl) (G := noG) O0 (fun _ _ h => h)) hy
  have hc := andE hc
  refine WP.rb mixed [[], [0], [1], [2], [2], [2, 4], [2, 3, 5], [2, 6], [2], [2, 7, 8], [2, 9]] [[5], [], [], [0], [5], [], [], [], [1], [], []] [(8, .int .i64 at_), (9, .bool (decide (0 < at_))), (10, .bool (decide (0 < at_))), (11, gv (decide (0 < at_)) v_l_), (12, gv (decide (0 < at_)) (.int .i64 at_)), (13, gv (decide (0 < at_)) (.int .i64 (i64 (at_ - 1)))), (14, gv (decide (0 < at_)) (.pointer (some (ay.add (Int.toNat (i64 (at_ - 1)) * 1))))), (15, gv (decide (0 < at_)) (.int .i64 y)), (16, gv (decide (0 < at_)) (.int .i64 n_)), (17, gv (decide (0 < at_)) (.bool (decide (n_ ≤ y)))), (18, .bool c)] (by kernel_rfl) ⟨mE rfl rfl h5,
 fun ρz wz hE hA _ ⟨u0, _⟩ => core_val rfl rfl (o_gtr u0 rfl rfl),
 mU rfl rfl rfl,
 fun ρz wz hE hA ⟨e0, _⟩ ⟨u2, _⟩ => gIf rfl rfl (yT rfl u2) fun gc F hF => core_val rfl hF (o_move (e0.trans h0)),
 fun ρz wz hE hA ⟨e5, _⟩ ⟨u2, _⟩ => gIf rfl rfl (yT rfl u2) fun gc F hF => core_val rfl hF (o_move (e5.trans h5)),
 fun ρz wz hE hA _ ⟨u2, u4, _⟩ => gIf rfl rfl (yT rfl u2) fun gc F hF => core_val rfl hF (o_sub (gt gc u4) rfl rfl),
 fun ρz wz hE hA _ ⟨u2, u3, u5, _⟩ => gIf rfl rfl (yT rfl u2) fun gc F hF => core_val rfl hF (o_indexAddr ((gt gc u3).trans (hvy gc)) (gt gc u5) (ia_55 (hiy gc))),
 fun ρz wz hE hA _ ⟨u2, u6, _⟩ => gIf rfl rfl (yT rfl u2) fun gc F hF => core_val rfl hF (o_load (gt gc u6) (run_load1 (lr_3 _ _) (((hAy gc).exn (hA rfl)).ca))),
 fun ρz wz hE hA ⟨e1, _⟩ ⟨u2, _⟩ => gIf rfl rfl (yT rfl u2) fun gc F hF => core_val rfl hF (o_move (e1.trans h1)),
 fun ρz wz hE hA _ ⟨u2, u7, u8, _⟩ => gIf rfl rfl (yT rfl u2) fun gc F hF => core_val rfl hF (o_geq (gt gc u7) (gt gc u8) rfl),
 fun ρz wz hE hA _ ⟨u2, u9, _⟩ => core_valE rfl rfl (congrArg Value.bool hc) (o_pick_and u2 u9 rfl), trivial⟩ ?_
  intro ρ4 w4 hN hf hr
  have h18 := hv hf 10 rfl rfl
  obtain ⟨h0, h1, h5⟩ := k3 hr h0 h1 h5 rfl
  have Oo_O0 := O0
  have hW := hW.trans hN.of_no
  have O0 := Oo_O0.exn hN
  refine WP.cond rfl h18 (fun hb => ?_) (fun hb => ?_)
  · have hF := (if_pos hb).symm.trans hF
    refine WP.skip (WP.block (WP.rv mixed [[], [0], [0, 1]] [[], [0], [1]] [[5], [], []] [(19, .int .i64 at_), (20, .int .i64 (i64 (at_ - 1))), (5, .int .i64 (i64 (at_ - 1)))] (by kernel_rfl) ⟨mE rfl rfl h5,
 fun ρz wz hE hA _ ⟨u0, _⟩ => core_val rfl rfl (o_sub u0 rfl rfl),
 aU rfl rfl rfl, trivial⟩ ?_))
    intro ρ5 w5 hN hf hr
    have h5 := hv hf 2 rfl rfl
    obtain ⟨h0, h1⟩ := k2 hr h0 h1 rfl
    have Oo_O0 := O0
    have hW := hW.trans hN.of_no
    have O0 := Oo_O0.exn hN
    exact ⟨i64 (at_ - 1), h0, h1, h5, O0, hW, (by first | exact hF | (rw [hrec_]; exact hF))⟩
  have hF := (if_neg (Bool.eq_false_iff.1 hb)).symm.trans hF
  refine WP.exit (thenQ_exit (thenQ_exit (blockQ_hit (WP.seq (WP.seq ?_)))))
  obtain ⟨c2, hc2, hF⟩ := obind hF
  obtain ⟨y2, hy2, hc2⟩ := andB hc2
  obtain ⟨ay2, cy2, hvy2, hiy2, hAy2⟩ := RepSl.getFI (Own.rep (hn := fun _ => rfl) (G := noG) O0 (fun _ _ h => h)) hy2
  have hc2 := andE hc2
  refine WP.rb mixed [[], [], [1], [0, 2], [3], [4], [4], [4, 5, 6], [4, 7], [4], [4, 8, 9], [4, 10]] [[5], [0], [], [], [], [0], [5], [], [], [1], [], []] [(21, .int .i64 at_), (22, v_l_), (23, .int .i64 (l_.length : Int)), (24, .bool (decide (at_ < (l_.length : Int)))), (25, .bool (decide (at_ < (l_.length : Int)))), (26, gv (decide (at_ < (l_.length : Int))) v_l_), (27, gv (decide (at_ < (l_.length : Int))) (.int .i64 at_)), (28, gv (decide (at_ < (l_.length : Int))) (.pointer (some (ay2.add (Int.toNat at_ * 1))))), (29, gv (decide (at_ < (l_.length : Int))) (.int .i64 y2)), (30, gv (decide (at_ < (l_.length : Int))) (.int .i64 n_)), (31, gv (decide (at_ < (l_.length : Int))) (.bool (y2 == n_))), (32, .bool c2)] (by kernel_rfl) ⟨mE rfl rfl h5,
 mE rfl rfl h0,
 fun ρz wz hE hA _ ⟨u1, _⟩ => core_val rfl rfl (o_len (u1.trans (Own.shape O0).choose_spec.choose_spec.1) len_55),
 fun ρz wz hE hA _ ⟨u0, u2, _⟩ => core_val rfl rfl (o_lss u0 u2 rfl),
 mU rfl rfl rfl,
 fun ρz wz hE hA ⟨e0, _⟩ ⟨u4, _⟩ => gIf rfl rfl (yT rfl u4) fun gc F hF => core_val rfl hF (o_move (e0.trans h0)),
 fun ρz wz hE hA ⟨e5, _⟩ ⟨u4, _⟩ => gIf rfl rfl (yT rfl u4) fun gc F hF => core_val rfl hF (o_move (e5.trans h5)),
 fun ρz wz hE hA _ ⟨u4, u5, u6, _⟩ => gIf rfl rfl (yT rfl u4) fun gc F hF => core_val rfl hF (o_indexAddr ((gt gc u5).trans (hvy2 gc)) (gt gc u6) (ia_55 (hiy2 gc))),
 fun ρz wz hE hA _ ⟨u4, u7, _⟩ => gIf rfl rfl (yT rfl u4) fun gc F hF => core_val rfl hF (o_load (gt gc u7) (run_load1 (lr_3 _ _) (((hAy2 gc).exn (hA rfl)).ca))),
 fun ρz wz hE hA ⟨e1, _⟩ ⟨u4, _⟩ => gIf rfl rfl (yT rfl u4) fun gc F hF => core_val rfl hF (o_move (e1.trans h1)),
 fun ρz wz hE hA _ ⟨u4, u8, u9, _⟩ => gIf rfl rfl (yT rfl u4) fun gc F hF => core_val rfl hF (o_eql (gt gc u8) (gt gc u9) rfl),
 fun ρz wz hE hA _ ⟨u4, u10, _⟩ => core_valE rfl rfl (congrArg Value.bool hc2) (o_pick_and u4 u10 rfl), trivial⟩ ?_
  intro ρ6 w6 hN hf hr
  have h32 := hv hf 11 rfl rfl
  obtain ⟨h0, h1, h5⟩ := k3 hr h0 h1 h5 rfl
  have Oo_O0 := O0
  have hW := hW.trans hN.of_no
  have O0 := Oo_O0.exn hN
  refine WP.cond rfl h32 (fun hb => ?_) (fun hb => ?_)
  · have hF := (if_pos hb).symm.trans hF
    refine WP.seq (WP.rb mixed [[], [0]] [[0], []] [(33, v_l_), (4, v_l_)] (by kernel_rfl) ⟨mE rfl rfl h0,
 aU rfl rfl rfl, trivial⟩ ?_)
    intro ρ7 w7 hN hf hr
    have h4 := hv hf 1 rfl rfl
    have h0 := (hr 0 rfl).trans h0
    have Oo_O0 := O0
    have hW := hW.trans hN.of_no
    have O0 := Oo_O0.exn hN
    have O4 := Oo_O0.exn hN
    refine WP.ret ?_
    show retQ Try.prog 45 Try.f62 (fun v w1 => (Own B 3 1 (fun x : Int => [Value.int .i64 x]) w1 v r ∧ ∀ b, v.ownBlock = some b → Value.ownBlock v_l_ = some b ∨ w0.heap.size ≤ b) ∧ Ext (fun b => Value.ownBlock v_l_ = some b) w0 w1) .ret ρ7 w7
    obtain rfl := Option.some.inj hF
    exact res1 rfl (by decide) h4 ⟨⟨O4, fun _ h => .inl h⟩, hW⟩
  have hF := (if_neg (Bool.eq_false_iff.1 hb)).symm.trans hF
  refine WP.skip (WP.seq ?_)
  obtain ⟨s, hs, hF⟩ := obind hF
  obtain ⟨l, hl, hF⟩ := obind hF
  obtain ⟨l2, hl2, hF⟩ := obind hF
  obtain ⟨s2, hs2, hF⟩ := obind hF
  obtain ⟨l3, hl3, hF⟩ := obind hF
  refine WP.region mixed [[], [], [0, 1], [2], [], [4], [3, 5], [], [], [7, 8], [6, 9], [6, 10]] [[], [], [0, 1], [2], [], [4], [3, 5], [], [], [7, 8], [6, 9], [10]] [[0], [5], [], [], [1], [], [], [0], [5], [], [], []] [6, 10] [(6, 10), (3, 6), (5, 6)] [val 34 (v_l_), val 35 (.int .i64 at_), (36, fun u wz => RepSl intR (fun b => w6.heap.size ≤ b) wz u s), (37, fun u wz => Own w0.heap.size 3 1 (fun x : Int => [Value.int .i64 x]) wz u l ∧ ∀ b, u.ownBlock = some b → w6.heap.size ≤ b), val 38 (.int .i64 n_), (39, fun u wz => ∃ b, u = .slice (some ⟨b, 0, none⟩) 1 1 ∧ w6.heap.size ≤ b ∧ Mb wz b 3 (([n_]).flatMap (fun x : Int => [Value.int .i64 x]))), (40, fun u wz => Own w0.heap.size 3 1 (fun x : Int => [Value.int .i64 x]) wz u l2 ∧ ∀ b, u.ownBlock = some b → w6.heap.size ≤ b), val 41 (v_l_), val 42 (.int .i64 at_), (43, fun u wz => RepSl intR (fun b => w6.heap.size ≤ b) wz u s2), (44, fun u wz => Own w0.heap.size 3 1 (fun x : Int => [Value.int .i64 x]) wz u l3 ∧ ∀ b, u.ownBlock = some b → w6.heap.size ≤ b), (4, fun u wz => Own w0.heap.size 3 1 (fun x : Int => [Value.int .i64 x]) wz u l3 ∧ ∀ b, u.ownBlock = some b → w6.heap.size ≤ b)] (fun b => w6.heap.size ≤ b) (by kernel_rfl) ⟨sV, sV, fun _ _ _ hE h => h.ext hE, fun _ _ _ hE ⟨hO, hf⟩ => ⟨hO.exn hE, hf⟩, sV, fun _ _ _ hE ⟨b, hz, hs, hM⟩ => ⟨b, hz, hs, hM.exn hE⟩, fun _ _ _ hE ⟨hO, hf⟩ => ⟨hO.exn hE, hf⟩, sV, sV, fun _ _ _ hE h => h.ext hE, fun _ _ _ hE ⟨hO, hf⟩ => ⟨hO.exn hE, hf⟩, fun _ _ _ hE ⟨hO, hf⟩ => ⟨hO.exn hE, hf⟩, trivial⟩ ⟨mE rfl rfl h0,
 mE rfl rfl h5,
 fun ρz wz hE hA _ ⟨u0, u1, _⟩ => core_cut (R := intR) rfl u0 si_55 sz_3 ((O0.ext hE (fun _ hb hg => absurd (O0.lt hb).2 (Nat.not_lt.2 hg))).rep (hn := fun _ => rfl) (G := fun b => w6.heap.size ≤ b) (fun _ hb hg => absurd (O0.lt hb).2 (Nat.not_lt.2 hg))) hs (.inl ⟨rfl, rfl⟩) (.inr (congrArg some u1)) (fun _ h => h),
 fun ρz wz hE hA _ ⟨hR2, _⟩ => core_appendN (n := 1) (cells := fun x : Int => [Value.int .i64 x]) (B := w0.heap.size) (w0 := w6) rfl  rfl rfl (fun _ => rfl) one_3 si_55 se_3 (by decide) (by decide) (Own.nil w0.heap.size 3 1 (fun x : Int => [Value.int .i64 x]) wz) ⟨_, hR2⟩ hl (Nat.le_trans hW.size hE.size) hE.size (fun v1 w1 h1 h2 => ⟨h1, fun b hb => (h2 b hb).resolve_left (by simp [Value.ownBlock])⟩),
 mE rfl rfl h1,
 fun ρz wz hE hA _ ⟨u4, _⟩ => core_slice rfl rfl hE (o_buildSlice (build_parts1 u4) (bs_55_1 _ _)),
 fun ρz wz hE hA _ ⟨⟨hO3, hfr3⟩, ⟨bz5, hz5, hge5, hM5⟩, _⟩ => core_append (n := 1) (cells := fun x : Int => [Value.int .i64 x]) (B := w0.heap.size) (w0 := w6) rfl rfl (fun b hb => hfr3 b hb) rfl hz5 (fun _ => rfl) one_3 si_55 se_3 (by decide) (by decide) hO3 ⟨_, (Mb.rep (n := 1) (cells := fun x : Int => [Value.int .i64 x]) (hn := fun _ => rfl) (G := noG) hM5 rfl (Nat.le_of_ble_eq_true rfl) (fun h => h))⟩ hl2 (Nat.le_trans hW.size hE.size) hE.size (fun v1 w1 h1 h2 => ⟨h1, fun b hb => (h2 b hb).elim (hfr3 b) id⟩),
 mE rfl rfl h0,
 mE rfl rfl h5,
 fun ρz wz hE hA _ ⟨u7, u8, _⟩ => core_cut (R := intR) rfl u7 si_55 sz_3 ((O0.ext hE (fun _ hb hg => absurd (O0.lt hb).2 (Nat.not_lt.2 hg))).rep (hn := fun _ => rfl) (G := fun b => w6.heap.size ≤ b) (fun _ hb hg => absurd (O0.lt hb).2 (Nat.not_lt.2 hg))) hs2 (.inr (congrArg some u8)) (.inl ⟨rfl, rfl⟩) (fun _ h => h),
 fun ρz wz hE hA _ ⟨⟨hO6, hfr6⟩, hR9, _⟩ => core_append (n := 1) (cells := fun x : Int => [Value.int .i64 x]) (B := w0.heap.size) (w0 := w6) rfl rfl (fun b hb => hfr6 b hb) rfl rfl (fun _ => rfl) one_3 si_55 se_3 (by decide) (by decide) hO6 ⟨_, hR9⟩ hl3 (Nat.le_trans hW.size hE.size) hE.size (fun v1 w1 h1 h2 => ⟨h1, fun b hb => (h2 b hb).elim (hfr6 b) id⟩),
 fun ρz wz hE hA _ ⟨⟨hO10, hfr10⟩, _⟩ => core_copy rfl rfl (o_assign rfl) ⟨hO10, hfr10⟩, trivial⟩ ?_
  intro ρ8 w8 hE hN hf hr
  have hN := hE.fresh
  obtain ⟨v4_, h4⟩ : ∃ v, ρ8 4 = v := ⟨_, rfl⟩
  have hq4 : (fun u wz => Own w0.heap.size 3 1 (fun x : Int => [Value.int .i64 x]) wz u l3 ∧ ∀ b, u.ownBlock = some b → w6.heap.size ≤ b) (ρ8 4) w8 := hf 11 rfl
  rw [h4] at hq4
  obtain ⟨hq4, hfr4⟩ := hq4
  have h0 := (hr 0 rfl).trans h0
  have Oo_O0 := O0
  have hW := hW.trans hN.of_no
  have O0 := Oo_O0.exn hN
  have O4 := hq4
  have hdd_O0_O4 : ∀ b, Value.ownBlock v_l_ = some b → Value.ownBlock v4_ ≠ some b := fun b h1 h2 => absurd (Oo_O0.lt h1).2 (Nat.not_lt.2 (hfr4 _ h2))
  refine WP.ret ?_
  show retQ Try.prog 45 Try.f62 (fun v w1 => (Own B 3 1 (fun x : Int => [Value.int .i64 x]) w1 v r ∧ ∀ b, v.ownBlock = some b → Value.ownBlock v_l_ = some b ∨ w0.heap.size ≤ b) ∧ Ext (fun b => Value.ownBlock v_l_ = some b) w0 w1) .ret ρ8 w8
  obtain rfl := Option.some.inj hF
  exact res1 rfl (by decide) h4 ⟨⟨O4.base hB0, fun _ h => .inr (O4.lt h).1⟩, hW⟩

set_option maxHeartbeats 4000000 in
theorem pensionref1_edges_ok {w0 : World} (lists_ : List (List Span)) {v_lists_ : Value} (H_lists_ : RepSl (slR Span.R) noG w0 v_lists_ lists_) {r : (List Int)} (hF : pensionref1_edges lists_ = some r) :
    Calls Try.prog 48 #[v_lists_] w0 fun e w1 => ∃ v, e = .returned v ∧ Ext noG w0 w1 ∧ Own w0.heap.size 3 1 (fun x : Int => [Value.int .i64 x]) w1 v r := by
  refine (Calls.start (P := Try.prog) (args := [v_lists_]) (R := fun v w1 => Own w0.heap.size 3 1 (fun x : Int => [Value.int .i64 x]) w1 v r ∧ Ext noG w0 w1) (n := 43) (w := w0) Try.func48 rfl rfl (Nat.le_of_ble_eq_true rfl) (fun ρ hargs => ?_)).mono (fun e w1 ⟨v, he, hv, hE⟩ => ⟨v, he, hE, hv⟩)
  have h0 := hargs 0 _ rfl
  have hW := Ext.refl noG w0
  obtain ⟨_, _, hs_H_lists_, _, _⟩ := RepSl.shape H_lists_
  have H_lists_ := H_lists_.start
  rw [pensionref1_edges] at hF
  refine WP.seq (WP.rb mixed [[]] [[]] [(2, .slice none 0 0)] (by kernel_rfl) ⟨aC rfl rfl (fun _ => rfl), trivial⟩ ?_)
  intro ρ1 w1 hN hf hr
  have h0 := (hr 0 rfl).trans h0
  have H_lists_ := H_lists_.exn hN
  have hW := hW.trans hN
  refine WP.seq (WP.rb mixed [[]] [[]] [(3, .slice none 0 0)] (by kernel_rfl) ⟨aC rfl rfl (fun _ => rfl), trivial⟩ ?_)
  intro ρ2 w2 hN hf hr
  have h3 : ρ2 3 = .slice none 0 0 := hf 0 rfl
  have O3 : Own w0.heap.size 3 1 (fun x : Int => [Value.int .i64 x]) w2 (.slice none 0 0) [] := Own.nil _ _ _ _ _
  have h0 := (hr 0 rfl).trans h0
  have H_lists_ := H_lists_.exn hN
  have hW := hW.trans hN
  have O3 : Own w0.heap.size 3 1 (fun x : Int => [Value.int .i64 x]) w2 (.slice none 0 0) [] := Own.nil _ _ _ _ _
  refine WP.seq (WP.seq (WP.rb mixed [[]] [[]] [(4, .int .i64 0)] (by kernel_rfl) ⟨aC rfl rfl (fun _ => rfl), trivial⟩ ?_))
  intro ρ3 w3 hN hf hr
  have h4 := hv hf 0 rfl rfl
  obtain ⟨h0, h3⟩ := k2 hr h0 h3 rfl
  have Oo_O3 := O3
  have H_lists_ := H_lists_.exn hN
  have hW := hW.trans hN
  have O3 : Own w0.heap.size 3 1 (fun x : Int => [Value.int .i64 x]) w3 (.slice none 0 0) [] := Own.nil _ _ _ _ _
  refine WP.block (WP.loop (fun k_ ρ w => ∃ out_ : List Int, ∃ i_ : Int, ∃ v3_ : Value, ρ 0 = v_lists_ ∧ ρ 3 = v3_ ∧ ρ 4 = .int .i64 i_ ∧ RepSl (slR Span.R) (gfr noG w0) w v_lists_ lists_ ∧ Own w0.heap.size 3 1 (fun x : Int => [Value.int .i64 x]) w v3_ out_ ∧ Ext noG w0 w ∧ loopC k_ (pensionref1_edges_l lists_) (out_, i_) = some r) FU ⟨[], 0, .slice none 0 0, h0, h3, h4, H_lists_, O3, hW, hF⟩ (fun _ _ h => by obtain ⟨_, _, _, _, _, _, _, _, _, h⟩ := h; cases h) ?_)
  rintro k_ ρ4 w4 ⟨out_, i_, v3_, h0, h3, h4, H_lists_, O3, hW, hF⟩
  have hF : pensionref1_edges_l lists_ (loopC k_ (pensionref1_edges_l lists_)) (out_, i_) = some r := hF
  generalize hrec_ : loopC k_ (pensionref1_edges_l lists_) = rec_ at hF
  rw [pensionref1_edges_l] at hF
  refine WP.seq (WP.seq (WP.rb mixed [[], [], [1], [0, 2]] [[4], [0], [], []] [(8, .int .i64 i_), (9, v_lists_), (10, .int .i64 (lists_.length : Int)), (11, .bool (decide (i_ < (lists_.length : Int))))] (by kernel_rfl) ⟨mE rfl rfl h4,
 mE rfl rfl h0,
 fun ρz wz hE hA _ ⟨u1, _⟩ => core_val rfl rfl (o_len (u1.trans hs_H_lists_) len_85),
 fun ρz wz hE hA _ ⟨u0, u2, _⟩ => core_val rfl rfl (o_lss u0 u2 rfl), trivial⟩ ?_))
  intro ρ5 w5 hN hf hr
  have h11 := hv hf 3 rfl rfl
  obtain ⟨h0, h3, h4⟩ := k3 hr h0 h3 h4 rfl
  have Oo_O3 := O3
  have H_lists_ := H_lists_.exn hN
  have hW := hW.trans hN
  have O3 := Oo_O3.exn hN
  refine WP.cond rfl h11 (fun hb => ?_) (fun hb => ?_)
  · have hF := (if_pos hb).symm.trans hF
    refine WP.skip (WP.seq (WP.block (WP.seq (WP.rb mixed [[]] [[]] [(5, .int .i64 0)] (by kernel_rfl) ⟨aC rfl rfl (fun _ => rfl), trivial⟩ ?_))))
    intro ρ6 w6 hN hf hr
    have h5 := hv hf 0 rfl rfl
    obtain ⟨h0, h3, h4⟩ := k3 hr h0 h3 h4 rfl
    have Oo_O3 := O3
    have H_lists_ := H_lists_.exn hN
    have hW := hW.trans hN
    have O3 := Oo_O3.exn hN
    refine WP.block (WP.loop (fun k_3 ρ w => ∃ out_2 : List Int, ∃ k_2 : Int, ∃ v3_2 : Value, ρ 0 = v_lists_ ∧ ρ 3 = v3_2 ∧ ρ 4 = .int .i64 i_ ∧ ρ 5 = .int .i64 k_2 ∧ RepSl (slR Span.R) (gfr noG w0) w v_lists_ lists_ ∧ Own w0.heap.size 3 1 (fun x : Int => [Value.int .i64 x]) w v3_2 out_2 ∧ Ext noG w0 w ∧ loopC k_3 (pensionref1_edges_l2 lists_ i_ rec_) (out_2, k_2) = some r) FU ⟨out_, 0, v3_, h0, h3, h4, h5, H_lists_, O3, hW, hF⟩ (fun _ _ h => by obtain ⟨_, _, _, _, _, _, _, _, _, _, h⟩ := h; cases h) ?_)
    rintro k_3 ρ7 w7 ⟨out_2, k_2, v3_2, h0, h3, h4, h5, H_lists_, O3, hW, hF⟩
    have hF : pensionref1_edges_l2 lists_ i_ rec_ (loopC k_3 (pensionref1_edges_l2 lists_ i_ rec_)) (out_2, k_2) = some r := hF
    generalize hrec_2 : loopC k_3 (pensionref1_edges_l2 lists_ i_ rec_) = rec_2 at hF
    rw [pensionref1_edges_l2] at hF
    refine WP.seq (WP.seq ?_)
    obtain ⟨y, hy, hF⟩ := obind hF
    obtain ⟨ay, cy, usy, hvy, hiy, hAy, HSy⟩ := RepSl.getS H_lists_ hy
    obtain ⟨_, _, hs_HSy, _, _⟩ := RepSl.shape HSy
    refine WP.rb mixed [[], [], [], [1, 2], [3], [4], [0, 5]] [[5], [0], [4], [], [], [], []] [(14, .int .i64 k_2), (15, v_lists_), (16, .int .i64 i_), (17, .pointer (some (ay.add (Int.toNat i_ * 1)))), (18, usy), (19, .int .i64 (y.length : Int)), (20, .bool (decide (k_2 < (y.length : Int))))] (by kernel_rfl) ⟨mE rfl rfl h5,
 mE rfl rfl h0,
 mE rfl rfl h4,
 fun ρz wz hE hA _ ⟨u1, u2, _⟩ => core_val rfl rfl (o_indexAddr (u1.trans hvy) u2 (ia_85 hiy)),
 fun ρz wz hE hA _ ⟨u3, _⟩ => core_val rfl rfl (o_load u3 (run_load1 (lr_32 _ _) ((hAy.exn (hA rfl)).ca))),
 fun ρz wz hE hA _ ⟨u4, _⟩ => core_val rfl rfl (o_len (u4.trans hs_HSy) len_32),
 fun ρz wz hE hA _ ⟨u0, u5, _⟩ => core_val rfl rfl (o_lss u0 u5 rfl), trivial⟩ ?_
    intro ρ8 w8 hN hf hr
    have h20 := hv hf 6 rfl rfl
    obtain ⟨h0, h3, h4, h5⟩ := k4 hr h0 h3 h4 h5 rfl
    have Oo_O3 := O3
    have H_lists_ := H_lists_.exn hN
    have hW := hW.trans hN
    have O3 := Oo_O3.exn hN
    refine WP.cond rfl h20 (fun hb => ?_) (fun hb => ?_)
    · have hF := (if_pos hb).symm.trans hF
      refine WP.skip (WP.seqJ (fun ρ w => ∃ out_3 : List Int, ∃ v3_3 : Value, ρ 0 = v_lists_ ∧ ρ 3 = v3_3 ∧ ρ 4 = .int .i64 i_ ∧ ρ 5 = .int .i64 k_2 ∧ RepSl (slR Span.R) (gfr noG w0) w v_lists_ lists_ ∧ Own w0.heap.size 3 1 (fun x : Int => [Value.int .i64 x]) w v3_3 out_3 ∧ Ext noG w0 w ∧ pensionref1_edges_j k_2 rec_2 out_3 = some r) ?_ ?_)
      · refine WP.block (WP.seq ?_)
        obtain ⟨y2, hy2, hF⟩ := obind hF
        obtain ⟨ay2, cy2, usy2, hvy2, hiy2, hAy2, HSy2⟩ := RepSl.getS H_lists_ hy2
        obtain ⟨_, _, hs_HSy2, _, _⟩ := RepSl.shape HSy2
        obtain ⟨y3, hy3, hF⟩ := obind hF
        obtain ⟨ay3, cy3, hvy3, hiy3, hAy3⟩ := RepSl.getF HSy2 hy3
        obtain ⟨z, hz, hF⟩ := obind hF
        refine WP.region mixed [[], [], [0, 1], [2], [], [3, 4], [5], [6], [7], [8], [8], [], [9, 11], [10, 12]] [[], [], [0, 1], [2], [], [3, 4], [5], [6], [7], [8], [8], [], [9, 11], [10]] [[0], [4], [], [], [5], [], [], [], [], [], [], [], [], []] [12] [(11, 12)] [val 24 (v_lists_), val 25 (.int .i64 i_), val 26 (.pointer (some (ay2.add (Int.toNat i_ * 1)))), val 27 (usy2), val 28 (.int .i64 k_2), val 29 (.pointer (some (ay3.add (Int.toNat k_2 * 2)))), val 30 (Span.val y3), val 31 (.tuple #[Span.val z.1, .bool z.2]), val 23 (.tuple #[Span.val z.1, .bool z.2]), val 32 (Span.val z.1), val 33 (.bool z.2), (6, fun u wz => ∃ b, u = .pointer (some ⟨b, 0, none⟩) ∧ w8.heap.size ≤ b ∧ Mb wz b 31 (Span.cells (⟨0, 0⟩ : Span))), (6, fun u wz => ∃ b, u = .pointer (some ⟨b, 0, none⟩) ∧ w8.heap.size ≤ b ∧ Mb wz b 31 (Span.cells z.1)), val 7 (.bool z.2)] (fun b => w8.heap.size ≤ b) (by kernel_rfl) ⟨sV, sV, sV, sV, sV, sV, sV, sV, sV, sV, sV, fun _ _ _ hE ⟨b, hb, hs, hM⟩ => ⟨b, hb, hs, hM.exn hE⟩, fun _ _ _ hE ⟨b, hb, hs, hM⟩ => ⟨b, hb, hs, hM.exn hE⟩, sV, trivial⟩ ⟨mE rfl rfl h0,
 mE rfl rfl h4,
 fun ρz wz hE hA _ ⟨u0, u1, _⟩ => core_val rfl rfl (o_indexAddr (u0.trans hvy2) u1 (ia_85 hiy2)),
 fun ρz wz hE hA _ ⟨u2, _⟩ => core_val rfl rfl (o_load u2 (run_load1 (lr_32 _ _) ((hAy2.exn hE.fresh).ca))),
 mE rfl rfl h5,
 fun ρz wz hE hA _ ⟨u3, u4, _⟩ => core_val rfl rfl (o_indexAddr (u3.trans hvy3) u4 (ia_32 hiy3)),
 fun ρz wz hE hA _ ⟨u5, _⟩ => core_val rfl rfl (o_load u5 (run_loadN (cs := (Span.cells y3)) (lr_31 _ _) rfl ((hAy3.exn hE.fresh).ca))),
 fun ρz wz hE hA _ ⟨u6, _⟩ => core_call rfl (call_args1 u6) cf_61 (pensionref1_cutSpan_ok  _  hz),
 mU rfl rfl rfl,
 fun ρz wz hE hA _ ⟨u8, _⟩ => core_val rfl rfl (o_extract u8 (by kernel_rfl)),
 fun ρz wz hE hA _ ⟨u8, _⟩ => core_val rfl rfl (o_extract u8 (by kernel_rfl)),
 fun ρz wz hE hA _ _ => core_new rfl rfl hE (o_alloc (al_31 _)),
 fun ρz wz hE hA _ ⟨u9, u11, _⟩ => core_storeNew rfl rfl rfl rfl u9 u11 (fun a w => st_31 _ a w) rfl (one_31 _),
 aU rfl rfl rfl, trivial⟩ ?_
        intro ρ11 w11 hE hN hf hr
        have hN := hE.fresh
        obtain ⟨b6_, h6, hge_b6_, Hb_b6_⟩ := hf 12 rfl
        have h7 : ρ11 7 = .bool z.2 := hf 13 rfl
        obtain ⟨h0, h3, h4, h5⟩ := k4 hr h0 h3 h4 h5 rfl
        have Oo_O3 := O3
        have H_lists_ := H_lists_.exn hN
        have hB_b6_ : w0.heap.size ≤ b6_ := Nat.le_trans hW.size hge_b6_
        have hW := hW.trans hN
        have O3 := Oo_O3.exn hN
        have hnb_O3_b6_ : Value.ownBlock v3_2 ≠ some b6_ := fun h => absurd (Oo_O3.lt h).2 (Nat.not_lt.2 hge_b6_)
        refine WP.seq (WP.rb mixed [[]] [[7]] [(34, .bool z.2)] (by kernel_rfl) ⟨mE rfl rfl h7, trivial⟩ ?_)
        intro ρ12 w12 hN hf hr
        have h34 := hv hf 0 rfl rfl
        obtain ⟨h0, h3, h4, h5, h6⟩ := k5 hr h0 h3 h4 h5 h6 rfl
        have Oo_O3 := O3
        have Hb_b6_n := Hb_b6_.exn hN
        have H_lists_ := H_lists_.exn hN
        have hW := hW.trans hN
        have O3 := Oo_O3.exn hN
        have Hb_b6_ := Hb_b6_n
        refine WP.cond rfl h34 (fun hb => ?_) (fun hb => ?_)
        · have hF := (if_pos hb).symm.trans hF
          obtain ⟨z2, hz2, hF⟩ := obind hF
          obtain ⟨z3, hz3, hF⟩ := obind hF
          refine WP.region mixed [[], [], [1], [0, 2], [], [4], [2, 3, 5], [0, 3, 6]] [[], [], [1], [0, 2], [], [4], [3, 5], [6]] [[3], [6], [], [], [6], [], [], []] [3, 6] [(3, 6)] [val 35 (v3_2), val 36 (.pointer (some ((⟨b6_, 0, none⟩ : Addr).add 0))), val 37 (.int .i64 z.1.From), (38, fun u wz => Own w0.heap.size 3 1 (fun x : Int => [Value.int .i64 x]) wz u z2 ∧ ∀ b, u.ownBlock = some b → (v3_2.ownBlock = some b ∨ w12.heap.size ≤ b)), val 39 (.pointer (some ((⟨b6_, 0, none⟩ : Addr).add 1))), val 40 (.int .i64 z.1.To), (41, fun u wz => Own w0.heap.size 3 1 (fun x : Int => [Value.int .i64 x]) wz u z3 ∧ ∀ b, u.ownBlock = some b → (v3_2.ownBlock = some b ∨ w12.heap.size ≤ b)), (3, fun u wz => Own w0.heap.size 3 1 (fun x : Int => [Value.int .i64 x]) wz u z3 ∧ ∀ b, u.ownBlock = some b → (v3_2.ownBlock = some b ∨ w12.heap.size ≤ b))] (fun b => Value.ownBlock v3_2 = some b ∨ w12.heap.size ≤ b) (by kernel_rfl) ⟨sV, sV, sV, fun _ _ _ hE ⟨hO, hf⟩ => ⟨hO.exn hE, hf⟩, sV, sV, fun _ _ _ hE ⟨hO, hf⟩ => ⟨hO.exn hE, hf⟩, fun _ _ _ hE ⟨hO, hf⟩ => ⟨hO.exn hE, hf⟩, trivial⟩ ⟨mE rfl rfl h3,
 fun ρz wz hE hA ⟨e6, _⟩ _ => core_val rfl rfl (o_fieldAddr (e6.trans h6) (fa_31_0 _ _)),
 fun ρz wz hE hA _ ⟨u1, _⟩ => core_val rfl rfl (o_load u1 (run_load1 (lr_3 _ _) (CA.sub ((Hb_b6_.exn (hA rfl)).ca) 0 1))),
 fun ρz wz hE hA _ ⟨u0, u2, _⟩ => core_callC rfl rfl (fun b hb => .inl hb) (call_args2 u0 u2) cf_62 ((pensionref1_Ins_ok  _ _ (O3.exn (hA rfl)) (Nat.le_trans hW.size hE.size) hz2).mono (fun e w1 ⟨v, he, hE1, hO, hb⟩ => ⟨v, he, hE1, hO, fun b h => (hb b h).imp id (Nat.le_trans hE.size)⟩)),
 fun ρz wz hE hA ⟨e6, _⟩ _ => core_val rfl rfl (o_fieldAddr (e6.trans h6) (fa_31_1 _ _)),
 fun ρz wz hE hA _ ⟨u4, _⟩ => core_val rfl rfl (o_load u4 (run_load1 (lr_3 _ _) (CA.sub ((Hb_b6_.ext hE (fun h => h.elim (fun h => hnb_O3_b6_ h) (fun h => absurd Hb_b6_.lt (Nat.not_lt.2 h)))).ca) 1 1))),
 fun ρz wz hE hA _ ⟨⟨hO3, hfr3⟩, u5, _⟩ => core_callC rfl rfl (fun b hb => hfr3 b hb) (call_args2 rfl u5) cf_62 ((pensionref1_Ins_ok  _ _ hO3 (Nat.le_trans hW.size hE.size) hz3).mono (fun e w1 ⟨v, he, hE1, hO, hb⟩ => ⟨v, he, hE1, hO, fun b h => (hb b h).elim (hfr3 b) (fun h => .inr (Nat.le_trans hE.size h))⟩)),
 fun ρz wz hE hA _ ⟨⟨hO6, hfr6⟩, _⟩ => core_copy rfl rfl (o_assign rfl) ⟨hO6, hfr6⟩, trivial⟩ ?_
          intro ρ13 w13 hE hN hf hr
          obtain ⟨v3_4, h3⟩ : ∃ v, ρ13 3 = v := ⟨_, rfl⟩
          have hq3 : (fun u wz => Own w0.heap.size 3 1 (fun x : Int => [Value.int .i64 x]) wz u z3 ∧ ∀ b, u.ownBlock = some b → (v3_2.ownBlock = some b ∨ w12.heap.size ≤ b)) (ρ13 3) w13 := hf 7 rfl
          rw [h3] at hq3
          obtain ⟨hq3, hfr3⟩ := hq3
          obtain ⟨h0, h4, h5⟩ := k3 hr h0 h4 h5 rfl
          have Oo_O3 := O3
          have H_lists_ := H_lists_.over hE (fun b hb => hb.elim (fun h => (Oo_O3.lt h).1) (fun h => Nat.le_trans hW.size h))
          have hW := Ext.own hW hE (fun b hb => hb.elim (fun h => (Oo_O3.lt h).1) (fun h => Nat.le_trans hW.size h))
          have O3 := hq3
          exact ⟨z3, v3_4, h0, h3, h4, h5, H_lists_, O3, hW, hF⟩
        have hF := (if_neg (Bool.eq_false_iff.1 hb)).symm.trans hF
        refine WP.skip ?_
        exact ⟨out_2, v3_2, h0, h3, h4, h5, H_lists_, O3, hW, hF⟩
      rintro ρ9 w9 ⟨out_3, v3_3, h0, h3, h4, h5, H_lists_, O3, hW, hF⟩
      rw [pensionref1_edges_j] at hF
      refine WP.rv mixed [[], [0], [0, 1]] [[], [0], [1]] [[5], [], []] [(21, .int .i64 k_2), (22, .int .i64 (i64 (k_2 + 1))), (5, .int .i64 (i64 (k_2 + 1)))] (by kernel_rfl) ⟨mE rfl rfl h5,
 fun ρz wz hE hA _ ⟨u0, _⟩ => core_val rfl rfl (o_add u0 rfl rfl),
 aU rfl rfl rfl, trivial⟩ ?_
      intro ρ10 w10 hN hf hr
      have h5 := hv hf 2 rfl rfl
      obtain ⟨h0, h3, h4⟩ := k3 hr h0 h3 h4 rfl
      have Oo_O3 := O3
      have H_lists_ := H_lists_.exn hN
      have hW := hW.trans hN
      have O3 := Oo_O3.exn hN
      exact ⟨out_3, i64 (k_2 + 1), v3_3, h0, h3, h4, h5, H_lists_, O3, hW, (by first | exact hF | (rw [hrec_2]; exact hF))⟩
    have hF := (if_neg (Bool.eq_false_iff.1 hb)).symm.trans hF
    refine WP.exit (thenQ_exit (thenQ_exit (blockQ_hit (WP.rv mixed [[], [0], [0, 1]] [[], [0], [1]] [[4], [], []] [(12, .int .i64 i_), (13, .int .i64 (i64 (i_ + 1))), (4, .int .i64 (i64 (i_ + 1)))] (by kernel_rfl) ⟨mE rfl rfl h4,
 fun ρz wz hE hA _ ⟨u0, _⟩ => core_val rfl rfl (o_add u0 rfl rfl),
 aU rfl rfl rfl, trivial⟩ ?_))))
    intro ρ14 w14 hN hf hr
    have h4 := hv hf 2 rfl rfl
    obtain ⟨h0, h3⟩ := k2 hr h0 h3 rfl
    have Oo_O3 := O3
    have H_lists_ := H_lists_.exn hN
    have hW := hW.trans hN
    have O3 := Oo_O3.exn hN
    exact ⟨out_2, i64 (i_ + 1), v3_2, h0, h3, h4, H_lists_, O3, hW, (by first | exact hF | (rw [hrec_]; exact hF))⟩
  have hF := (if_neg (Bool.eq_false_iff.1 hb)).symm.trans hF
  refine WP.exit (thenQ_exit (thenQ_exit (blockQ_hit (WP.seq (WP.rb mixed [[], [0]] [[3], []] [(42, v3_), (2, v3_)] (by kernel_rfl) ⟨mE rfl rfl h3,
 aU rfl rfl rfl, trivial⟩ ?_)))))
  intro ρ15 w15 hN hf hr
  have h2 := hv hf 1 rfl rfl
  have Oo_O3 := O3
  have hW := hW.trans hN
  have O2 := Oo_O3.exn hN
  refine WP.ret ?_
  show retQ Try.prog 43 Try.f48 (fun v w1 => Own w0.heap.size 3 1 (fun x : Int => [Value.int .i64 x]) w1 v r ∧ Ext noG w0 w1) .ret ρ15 w15
  obtain rfl := Option.some.inj hF
  exact res1 rfl (by decide) h2 ⟨O2, hW⟩

set_option maxHeartbeats 4000000 in
theorem pensionref1_ValidDay_ok {w0 : World} (day_ : Int) {r : Bool} (hF : pensionref1_ValidDay day_ = some r) :
    Calls Try.prog 37 #[.int .i64 day_] w0 fun e w1 => e = .returned (.bool r) ∧ Ext noG w0 w1 := by
  refine (Calls.start (P := Try.prog) (args := [.int .i64 day_]) (R := fun v w1 => v = .bool r ∧ Ext noG w0 w1) (n := 9) (w := w0) Try.func37 rfl rfl (Nat.le_of_ble_eq_true rfl) (fun ρ hargs => ?_)).mono (fun e w1 ⟨v, he, hv, hE⟩ => ⟨hv ▸ he, hE⟩)
  have h0 := hargs 0 _ rfl
  have hW := Ext.refl noG w0
  rw [pensionref1_ValidDay] at hF
  refine WP.seq (WP.rb mixed [[]] [[]] [(2, .bool false)] (by kernel_rfl) ⟨aC rfl rfl (fun _ => rfl), trivial⟩ ?_)
  intro ρ1 w1 hN hf hr
  have h0 := (hr 0 rfl).trans h0
  have hW := hW.trans hN
  refine WP.seq (WP.rb mixed [[], [0], [1], [2], [2, 3], [2, 4], [5]] [[0], [], [], [0], [], [], []] [(3, .int .i64 day_), (4, .bool (decide (0 ≤ day_))), (5, .bool (decide (0 ≤ day_))), (6, gv (decide (0 ≤ day_)) (.int .i64 day_)), (7, gv (decide (0 ≤ day_)) (.bool (decide (day_ ≤ 73048)))), (8, .bool (decide (0 ≤ day_) && decide (day_ ≤ 73048))), (2, .bool (decide (0 ≤ day_) && decide (day_ ≤ 73048)))] (by kernel_rfl) ⟨mE rfl rfl h0,
 fun ρz wz hE hA _ ⟨u0, _⟩ => core_val rfl rfl (o_geq u0 rfl rfl),
 mU rfl rfl rfl,
 fun ρz wz hE hA ⟨e0, _⟩ ⟨u2, _⟩ => gIf rfl rfl (yT rfl u2) fun gc F hF => core_val rfl hF (o_move (e0.trans h0)),
 fun ρz wz hE hA _ ⟨u2, u3, _⟩ => gIf rfl rfl (yT rfl u2) fun gc F hF => core_val rfl hF (o_leq (gt gc u3) rfl rfl),
 fun ρz wz hE hA _ ⟨u2, u4, _⟩ => core_val rfl rfl (o_pick_and u2 u4 rfl),
 aU rfl rfl rfl, trivial⟩ ?_)
  intro ρ2 w2 hN hf hr
  have h2 := hv hf 6 rfl rfl
  have hW := hW.trans hN
  refine WP.ret ?_
  show retQ Try.prog 9 Try.f37 (fun v w1 => v = .bool r ∧ Ext noG w0 w1) .ret ρ2 w2
  obtain rfl := Option.some.inj hF
  exact res1 rfl (by decide) h2 ⟨rfl, hW⟩

set_option maxHeartbeats 4000000 in
theorem pensionref1_Contains_ok {w0 : World} (l_ : List Span) (day_ : Int) {v_l_ : Value} (H_l_ : RepSl Span.R noG w0 v_l_ l_) {r : Bool} (hF : pensionref1_Contains l_ day_ = some r) :
    Calls Try.prog 27 #[v_l_, .int .i64 day_] w0 fun e w1 => e = .returned (.bool r) ∧ Ext noG w0 w1 := by
  refine (Calls.start (P := Try.prog) (args := [v_l_, .int .i64 day_]) (R := fun v w1 => v = .bool r ∧ Ext noG w0 w1) (n := 32) (w := w0) Try.func27 rfl rfl (Nat.le_of_ble_eq_true rfl) (fun ρ hargs => ?_)).mono (fun e w1 ⟨v, he, hv, hE⟩ => ⟨hv ▸ he, hE⟩)
  have h0 := hargs 0 _ rfl
  have h1 := hargs 1 _ rfl
  have hW := Ext.refl noG w0
  obtain ⟨_, _, hs_H_l_, _, _⟩ := RepSl.shape H_l_
  have H_l_ := H_l_.start
  rw [pensionref1_Contains] at hF
  refine WP.seq (WP.rb mixed [[]] [[]] [(4, .bool false)] (by kernel_rfl) ⟨aC rfl rfl (fun _ => rfl), trivial⟩ ?_)
  intro ρ1 w1 hN hf hr
  obtain ⟨h0, h1⟩ := k2 hr h0 h1 rfl
  have H_l_ := H_l_.exn hN
  have hW := hW.trans hN
  refine WP.seq (WP.seq (WP.rb mixed [[]] [[]] [(5, .int .i64 0)] (by kernel_rfl) ⟨aC rfl rfl (fun _ => rfl), trivial⟩ ?_))
  intro ρ2 w2 hN hf hr
  have h5 := hv hf 0 rfl rfl
  obtain ⟨h0, h1⟩ := k2 hr h0 h1 rfl
  have H_l_ := H_l_.exn hN
  have hW := hW.trans hN
  refine WP.block (WP.loop (fun k_ ρ w => ∃ i_ : Int, ρ 0 = v_l_ ∧ ρ 1 = .int .i64 day_ ∧ ρ 5 = .int .i64 i_ ∧ RepSl Span.R (gfr noG w0) w v_l_ l_ ∧ Ext noG w0 w ∧ loopC k_ (pensionref1_Contains_l l_ day_) i_ = some r) FU ⟨0, h0, h1, h5, H_l_, hW, hF⟩ (fun _ _ h => by obtain ⟨_, _, _, _, _, _, h⟩ := h; cases h) ?_)
  rintro k_ ρ3 w3 ⟨i_, h0, h1, h5, H_l_, hW, hF⟩
  have hF : pensionref1_Contains_l l_ day_ (loopC k_ (pensionref1_Contains_l l_ day_)) i_ = some r := hF
  generalize hrec_ : loopC k_ (pensionref1_Contains_l l_ day_) = rec_ at hF
  rw [pensionref1_Contains_l] at hF
  refine WP.seq (WP.seq (WP.rb mixed [[], [], [1], [0, 2]] [[5], [0], [], []] [(6, .int .i64 i_), (7, v_l_), (8, .int .i64 (l_.length : Int)), (9, .bool (decide (i_ < (l_.length : Int))))] (by kernel_rfl) ⟨mE rfl rfl h5,
 mE rfl rfl h0,
 fun ρz wz hE hA _ ⟨u1, _⟩ => core_val rfl rfl (o_len (u1.trans hs_H_l_) len_32),
 fun ρz wz hE hA _ ⟨u0, u2, _⟩ => core_val rfl rfl (o_lss u0 u2 rfl), trivial⟩ ?_))
  intro ρ4 w4 hN hf hr
  have h9 := hv hf 3 rfl rfl
  obtain ⟨h0, h1, h5⟩ := k3 hr h0 h1 h5 rfl
  have H_l_ := H_l_.exn hN
  have hW := hW.trans hN
  refine WP.cond rfl h9 (fun hb => ?_) (fun hb => ?_)
  · have hF := (if_pos hb).symm.trans hF
    refine WP.skip (WP.seq (WP.block (WP.seq ?_)))
    obtain ⟨y, hy, hF⟩ := obind hF
    obtain ⟨ay, cy, hvy, hiy, hAy⟩ := RepSl.getF H_l_ hy
    obtain ⟨c, hc, hF⟩ := obind hF
    obtain ⟨y2, hy2, hc⟩ := andB hc
    obtain ⟨ay2, cy2, hvy2, hiy2, hAy2⟩ := RepSl.getFI H_l_ hy2
    have hc := andE hc
    obtain ⟨c2, hc2, hF⟩ := obind hF
    obtain ⟨z, hz, hc2⟩ := andB hc2
    have hc2 := andE hc2
    refine WP.rb mixed [[], [], [], [1, 2], [3], [4], [0, 5], [6], [7], [7], [7], [7, 9, 10], [7, 11], [7, 12], [7, 8, 13], [7, 14], [15], [16], [16, 17], [16, 18]] [[1], [0], [5], [], [], [], [], [], [1], [0], [5], [], [], [], [], [], [], [1], [], []] [(12, .int .i64 day_), (13, v_l_), (14, .int .i64 i_), (15, .pointer (some (ay.add (Int.toNat i_ * 2)))), (16, .pointer (some ((ay.add (Int.toNat i_ * 2)).add 0))), (17, .int .i64 y.From), (18, .bool (decide (y.From ≤ day_))), (19, .bool (decide (y.From ≤ day_))), (20, gv (decide (y.From ≤ day_)) (.int .i64 day_)), (21, gv (decide (y.From ≤ day_)) v_l_), (22, gv (decide (y.From ≤ day_)) (.int .i64 i_)), (23, gv (decide (y.From ≤ day_)) (.pointer (some (ay2.add (Int.toNat i_ * 2))))), (24, gv (decide (y.From ≤ day_)) (.pointer (some ((ay2.add (Int.toNat i_ * 2)).add 1)))), (25, gv (decide (y.From ≤ day_)) (.int .i64 y2.To)), (26, gv (decide (y.From ≤ day_)) (.bool (decide (day_ < y2.To)))), (27, .bool c), (28, .bool c), (29, gv (c) (.int .i64 day_)), (30, gv (c) (.bool z)), (31, .bool c2)] (by kernel_rfl) ⟨mE rfl rfl h1,
 mE rfl rfl h0,
 mE rfl rfl h5,
 fun ρz wz hE hA _ ⟨u1, u2, _⟩ => core_val rfl rfl (o_indexAddr (u1.trans hvy) u2 (ia_32 hiy)),
 fun ρz wz hE hA _ ⟨u3, _⟩ => core_val rfl rfl (o_fieldAddr u3 (fa_31_0 _ _)),
 fun ρz wz hE hA _ ⟨u4, _⟩ => core_val rfl rfl (o_load u4 (run_load1 (lr_3 _ _) (CA.sub ((hAy.exn (hA rfl)).ca) 0 1))),
 fun ρz wz hE hA _ ⟨u0, u5, _⟩ => core_val rfl rfl (o_geq u0 u5 rfl),
 mU rfl rfl rfl,
 fun ρz wz hE hA ⟨e1, _⟩ ⟨u7, _⟩ => gIf rfl rfl (yT rfl u7) fun gc F hF => core_val rfl hF (o_move (e1.trans h1)),
 fun ρz wz hE hA ⟨e0, _⟩ ⟨u7, _⟩ => gIf rfl rfl (yT rfl u7) fun gc F hF => core_val rfl hF (o_move (e0.trans h0)),
 fun ρz wz hE hA ⟨e5, _⟩ ⟨u7, _⟩ => gIf rfl rfl (yT rfl u7) fun gc F hF => core_val rfl hF (o_move (e5.trans h5)),
 fun ρz wz hE hA _ ⟨u7, u9, u10, _⟩ => gIf rfl rfl (yT rfl u7) fun gc F hF => core_val rfl hF (o_indexAddr ((gt gc u9).trans (hvy2 gc)) (gt gc u10) (ia_32 (hiy2 gc))),
 fun ρz wz hE hA _ ⟨u7, u11, _⟩ => gIf rfl rfl (yT rfl u7) fun gc F hF => core_val rfl hF (o_fieldAddr (gt gc u11) (fa_31_1 _ _)),
 fun ρz wz hE hA _ ⟨u7, u12, _⟩ => gIf rfl rfl (yT rfl u7) fun gc F hF => core_val rfl hF (o_load (gt gc u12) (run_load1 (lr_3 _ _) (CA.sub (((hAy2 gc).exn (hA rfl)).ca) 1 1))),
 fun ρz wz hE hA _ ⟨u7, u8, u13, _⟩ => gIf rfl rfl (yT rfl u7) fun gc F hF => core_val rfl hF (o_lss (gt gc u8) (gt gc u13) rfl),
 fun ρz wz hE hA _ ⟨u7, u14, _⟩ => core_valE rfl rfl (congrArg Value.bool hc) (o_pick_and u7 u14 rfl),
 mU rfl rfl rfl,
 fun ρz wz hE hA ⟨e1, _⟩ ⟨u16, _⟩ => gIf rfl rfl (yT rfl u16) fun gc F hF => core_val rfl hF (o_move (e1.trans h1)),
 fun ρz wz hE hA _ ⟨u16, u17, _⟩ => gIf rfl rfl (yT rfl u16) fun gc F hF => core_call hF (call_args1 (gt gc u17)) cf_37 (pensionref1_ValidDay_ok  _  (hz gc)),
 fun ρz wz hE hA _ ⟨u16, u18, _⟩ => core_valE rfl rfl (congrArg Value.bool hc2) (o_pick_and u16 u18 rfl), trivial⟩ ?_
    intro ρ5 w5 hN hf hr
    have h31 := hv hf 19 rfl rfl
    obtain ⟨h0, h1, h5⟩ := k3 hr h0 h1 h5 rfl
    have H_l_ := H_l_.exn hN
    have hW := hW.trans hN
    refine WP.cond rfl h31 (fun hb => ?_) (fun hb => ?_)
    · have hF := (if_pos hb).symm.trans hF
      refine WP.seq (WP.rb mixed [[]] [[]] [(4, .bool true)] (by kernel_rfl) ⟨aC rfl rfl (fun _ => rfl), trivial⟩ ?_)
      intro ρ6 w6 hN hf hr
      have h4 := hv hf 0 rfl rfl
      have hW := hW.trans hN
      refine WP.ret ?_
      show retQ Try.prog 32 Try.f27 (fun v w1 => v = .bool r ∧ Ext noG w0 w1) .ret ρ6 w6
      obtain rfl := Option.some.inj hF
      exact res1 rfl (by decide) h4 ⟨rfl, hW⟩
    have hF := (if_neg (Bool.eq_false_iff.1 hb)).symm.trans hF
    refine WP.skip (WP.rv mixed [[], [0], [0, 1]] [[], [0], [1]] [[5], [], []] [(10, .int .i64 i_), (11, .int .i64 (i64 (i_ + 1))), (5, .int .i64 (i64 (i_ + 1)))] (by kernel_rfl) ⟨mE rfl rfl h5,
 fun ρz wz hE hA _ ⟨u0, _⟩ => core_val rfl rfl (o_add u0 rfl rfl),
 aU rfl rfl rfl, trivial⟩ ?_)
    intro ρ7 w7 hN hf hr
    have h5 := hv hf 2 rfl rfl
    obtain ⟨h0, h1⟩ := k2 hr h0 h1 rfl
    have H_l_ := H_l_.exn hN
    have hW := hW.trans hN
    exact ⟨i64 (i_ + 1), h0, h1, h5, H_l_, hW, (by first | exact hF | (rw [hrec_]; exact hF))⟩
  have hF := (if_neg (Bool.eq_false_iff.1 hb)).symm.trans hF
  refine WP.exit (thenQ_exit (thenQ_exit (blockQ_hit (WP.seq (WP.rb mixed [[]] [[]] [(4, .bool false)] (by kernel_rfl) ⟨aC rfl rfl (fun _ => rfl), trivial⟩ ?_)))))
  intro ρ8 w8 hN hf hr
  have h4 := hv hf 0 rfl rfl
  have hW := hW.trans hN
  refine WP.ret ?_
  show retQ Try.prog 32 Try.f27 (fun v w1 => v = .bool r ∧ Ext noG w0 w1) .ret ρ8 w8
  obtain rfl := Option.some.inj hF
  exact res1 rfl (by decide) h4 ⟨rfl, hW⟩
end Go.PL
