/- The translated code computes the Lean functions (printed by a program). -/
import Derived.Test.YtndkbfbjjnhgoaaGreatDoorTy
set_option linter.unusedVariables false
set_option linter.unusedSimpArgs false
set_option maxRecDepth 10000
namespace Go.PL
open Go Go.Proofs

set_option maxHeartbeats 4000000 in
theorem pensionplain_Mod_ok {w0 : World} (n_ : Int) (m_ : Int) {r : Int} (hF : pensionplain_Mod n_ m_ = some r) :
    Calls Tryz.prog 6 #[.int .i64 n_, .int .i64 m_] w0 fun e w1 => e = .returned (.int .i64 r) ∧ Ext noG w0 w1 := by
  refine (Calls.start (P := Tryz.prog) (args := [.int .i64 n_, .int .i64 m_]) (R := fun v w1 => v = .int .i64 r ∧ Ext noG w0 w1) (n := 15) (w := w0) Tryz.func6 rfl rfl (Nat.le_of_ble_eq_true rfl) (fun ρ hargs => ?_)).mono (fun e w1 ⟨v, he, hv, hE⟩ => ⟨hv ▸ he, hE⟩)
  have h0 := hargs 0 _ rfl
  have h1 := hargs 1 _ rfl
  have hW := Ext.refl noG w0
  rw [pensionplain_Mod] at hF
  refine WP.seq (WP.rb mixed [[]] [[]] [(4, .int .i64 0)] (by kernel_rfl) ⟨aC rfl rfl (fun _ => rfl), trivial⟩ ?_)
  intro ρ1 w1 hN hf hr
  obtain ⟨h0, h1⟩ := k2 hr h0 h1 rfl
  have hW := hW.trans hN
  refine WP.seq ?_
  obtain ⟨q, hq, hF⟩ := obind hF
  refine WP.rb mixed [[], [], [0, 1], [2]] [[0], [1], [], []] [(6, .int .i64 n_), (7, .int .i64 m_), (8, .int .i64 q), (5, .int .i64 q)] (by kernel_rfl) ⟨mE rfl rfl h0,
 mE rfl rfl h1,
 fun ρz wz hE hA _ ⟨u0, u1, _⟩ => core_val rfl rfl (o_rem u0 u1 (remI_some hq).1 (remI_some hq).2),
 aU rfl rfl rfl, trivial⟩ ?_
  intro ρ2 w2 hN hf hr
  have h5 := hv hf 3 rfl rfl
  have h1 := (hr 1 rfl).trans h1
  have hW := hW.trans hN
  refine WP.seqJ (fun ρ w => ∃ r_ : Int, ρ 5 = .int .i64 r_ ∧ Ext noG w0 w ∧ pensionplain_Mod_j r_ = some r) ?_ ?_
  · refine WP.seq (WP.rb mixed [[], [0]] [[5], []] [(9, .int .i64 q), (10, .bool (decide (q < 0)))] (by kernel_rfl) ⟨mE rfl rfl h5,
 fun ρz wz hE hA _ ⟨u0, _⟩ => core_val rfl rfl (o_lss u0 rfl rfl), trivial⟩ ?_)
    intro ρ5 w5 hN hf hr
    have h10 := hv hf 1 rfl rfl
    obtain ⟨h1, h5⟩ := k2 hr h1 h5 rfl
    have hW := hW.trans hN
    refine WP.cond rfl h10 (fun hb => ?_) (fun hb => ?_)
    · have hF := (if_pos hb).symm.trans hF
      refine WP.rv mixed [[], [], [0, 1], [0, 2]] [[], [], [0, 1], [2]] [[5], [1], [], []] [(11, .int .i64 q), (12, .int .i64 m_), (13, .int .i64 (i64 (q + m_))), (5, .int .i64 (i64 (q + m_)))] (by kernel_rfl) ⟨mE rfl rfl h5,
 mE rfl rfl h1,
 fun ρz wz hE hA _ ⟨u0, u1, _⟩ => core_val rfl rfl (o_add u0 u1 rfl),
 aU rfl rfl rfl, trivial⟩ ?_
      intro ρ6 w6 hN hf hr
      have h5 := hv hf 3 rfl rfl
      have hW := hW.trans hN
      exact ⟨i64 (q + m_), h5, hW, hF⟩
    have hF := (if_neg (Bool.eq_false_iff.1 hb)).symm.trans hF
    refine WP.skip ?_
    exact ⟨q, h5, hW, hF⟩
  rintro ρ3 w3 ⟨r_, h5, hW, hF⟩
  rw [pensionplain_Mod_j] at hF
  refine WP.seq (WP.rb mixed [[], [0]] [[5], []] [(14, .int .i64 r_), (4, .int .i64 r_)] (by kernel_rfl) ⟨mE rfl rfl h5,
 aU rfl rfl rfl, trivial⟩ ?_)
  intro ρ4 w4 hN hf hr
  have h4 := hv hf 1 rfl rfl
  have hW := hW.trans hN
  refine WP.ret ?_
  show retQ Tryz.prog 15 Tryz.f6 (fun v w1 => v = .int .i64 r ∧ Ext noG w0 w1) .ret ρ4 w4
  obtain rfl := Option.some.inj hF
  exact res1 rfl (by decide) h4 ⟨rfl, hW⟩

set_option maxHeartbeats 4000000 in
theorem pensionhand_Pick_ok {w0 : World} (n_ : List Int) (i_ : Int) {v_n_ : Value} (H_n_ : RepSl intR noG w0 v_n_ n_) {r : Int} (hF : pensionhand_Pick n_ i_ = some r) :
    Calls Tryz.prog 13 #[v_n_, .int .i64 i_] w0 fun e w1 => e = .returned (.int .i64 r) ∧ Ext noG w0 w1 := by
  refine (Calls.start (P := Tryz.prog) (args := [v_n_, .int .i64 i_]) (R := fun v w1 => v = .int .i64 r ∧ Ext noG w0 w1) (n := 15) (w := w0) Tryz.func13 rfl rfl (Nat.le_of_ble_eq_true rfl) (fun ρ hargs => ?_)).mono (fun e w1 ⟨v, he, hv, hE⟩ => ⟨hv ▸ he, hE⟩)
  have h0 := hargs 0 _ rfl
  have h1 := hargs 1 _ rfl
  have hW := Ext.refl noG w0
  obtain ⟨_, _, hs_H_n_, _, _⟩ := RepSl.shape H_n_
  have H_n_ := H_n_.start
  rw [pensionhand_Pick] at hF
  refine WP.seq (WP.rb mixed [[]] [[]] [(4, .int .i64 0)] (by kernel_rfl) ⟨aC rfl rfl (fun _ => rfl), trivial⟩ ?_)
  intro ρ1 w1 hN hf hr
  obtain ⟨h0, h1⟩ := k2 hr h0 h1 rfl
  have H_n_ := H_n_.exn hN
  have hW := hW.trans hN
  refine WP.seq (WP.seq (WP.rb mixed [[], [0], [1]] [[0], [], []] [(5, v_n_), (6, .int .i64 (n_.length : Int)), (7, .bool ((n_.length : Int) == 0))] (by kernel_rfl) ⟨mE rfl rfl h0,
 fun ρz wz hE hA _ ⟨u0, _⟩ => core_val rfl rfl (o_len (u0.trans hs_H_n_) len_22),
 fun ρz wz hE hA _ ⟨u1, _⟩ => core_val rfl rfl (o_eql u1 rfl rfl), trivial⟩ ?_))
  intro ρ2 w2 hN hf hr
  have h7 := hv hf 2 rfl rfl
  obtain ⟨h0, h1⟩ := k2 hr h0 h1 rfl
  have H_n_ := H_n_.exn hN
  have hW := hW.trans hN
  refine WP.cond rfl h7 (fun hb => ?_) (fun hb => ?_)
  · have hF := (if_pos hb).symm.trans hF
    refine WP.seq (WP.rb mixed [[]] [[]] [(4, .int .i64 0)] (by kernel_rfl) ⟨aC rfl rfl (fun _ => rfl), trivial⟩ ?_)
    intro ρ3 w3 hN hf hr
    have h4 := hv hf 0 rfl rfl
    have hW := hW.trans hN
    refine WP.ret ?_
    show retQ Tryz.prog 15 Tryz.f13 (fun v w1 => v = .int .i64 r ∧ Ext noG w0 w1) .ret ρ3 w3
    obtain rfl := Option.some.inj hF
    exact res1 rfl (by decide) h4 ⟨rfl, hW⟩
  have hF := (if_neg (Bool.eq_false_iff.1 hb)).symm.trans hF
  refine WP.skip (WP.seq ?_)
  obtain ⟨z, hz, hF⟩ := obind hF
  obtain ⟨y, hy, hF⟩ := obind hF
  obtain ⟨ay, cy, hvy, hiy, hAy⟩ := RepSl.getF H_n_ hy
  refine WP.rb mixed [[], [], [], [2], [1, 3], [0, 4], [5], [6]] [[0], [1], [0], [], [], [], [], []] [(8, v_n_), (9, .int .i64 i_), (10, v_n_), (11, .int .i64 (n_.length : Int)), (12, .int .i64 z), (13, .pointer (some (ay.add (Int.toNat z * 1)))), (14, .int .i64 y), (4, .int .i64 y)] (by kernel_rfl) ⟨mE rfl rfl h0,
 mE rfl rfl h1,
 mE rfl rfl h0,
 fun ρz wz hE hA _ ⟨u2, _⟩ => core_val rfl rfl (o_len (u2.trans hs_H_n_) len_22),
 fun ρz wz hE hA _ ⟨u1, u3, _⟩ => core_call rfl (call_args2 u1 u3) cf_6 (pensionplain_Mod_ok  _ _  hz),
 fun ρz wz hE hA _ ⟨u0, u4, _⟩ => core_val rfl rfl (o_indexAddr (u0.trans hvy) u4 (ia_22 hiy)),
 fun ρz wz hE hA _ ⟨u5, _⟩ => core_val rfl rfl (o_load u5 (run_load1 (lr_3 _ _) ((hAy.exn (hA rfl)).ca))),
 aU rfl rfl rfl, trivial⟩ ?_
  intro ρ4 w4 hN hf hr
  have h4 := hv hf 7 rfl rfl
  have hW := hW.trans hN
  refine WP.ret ?_
  show retQ Tryz.prog 15 Tryz.f13 (fun v w1 => v = .int .i64 r ∧ Ext noG w0 w1) .ret ρ4 w4
  obtain rfl := Option.some.inj hF
  exact res1 rfl (by decide) h4 ⟨rfl, hW⟩

set_option maxHeartbeats 4000000 in
theorem pensionhand_Lives_ok {w0 : World} (d_ : List Int) {v_d_ : Value} (H_d_ : RepSl intR noG w0 v_d_ d_) {r : (List api_Fact)} (hF : pensionhand_Lives d_ = some r) :
    Calls Tryz.prog 4 #[v_d_] w0 fun e w1 => ∃ v, e = .returned v ∧ Ext noG w0 w1 ∧ Own w0.heap.size 38 14 api_Fact.cells w1 v r := by
  refine (Calls.start (P := Tryz.prog) (args := [v_d_]) (R := fun v w1 => Own w0.heap.size 38 14 api_Fact.cells w1 v r ∧ Ext noG w0 w1) (n := 163) (w := w0) Tryz.func4 rfl rfl (Nat.le_of_ble_eq_true rfl) (fun ρ hargs => ?_)).mono (fun e w1 ⟨v, he, hv, hE⟩ => ⟨v, he, hE, hv⟩)
  have h0 := hargs 0 _ rfl
  have hW := Ext.refl noG w0
  obtain ⟨_, _, hs_H_d_, _, _⟩ := RepSl.shape H_d_
  have H_d_ := H_d_.start
  rw [pensionhand_Lives] at hF
  refine WP.seq (WP.rb mixed [[]] [[]] [(2, .slice none 0 0)] (by kernel_rfl) ⟨aC rfl rfl (fun _ => rfl), trivial⟩ ?_)
  intro ρ1 w1 hN hf hr
  have h0 := (hr 0 rfl).trans h0
  have H_d_ := H_d_.exn hN
  have hW := hW.trans hN
  refine WP.seq (WP.rb mixed [[]] [[]] [(3, .slice none 0 0)] (by kernel_rfl) ⟨aC rfl rfl (fun _ => rfl), trivial⟩ ?_)
  intro ρ2 w2 hN hf hr
  have h3 : ρ2 3 = .slice none 0 0 := hf 0 rfl
  have O3 : Own w0.heap.size 38 14 api_Fact.cells w2 (.slice none 0 0) [] := Own.nil _ _ _ _ _
  have h0 := (hr 0 rfl).trans h0
  have H_d_ := H_d_.exn hN
  have hW := hW.trans hN
  have O3 : Own w0.heap.size 38 14 api_Fact.cells w2 (.slice none 0 0) [] := Own.nil _ _ _ _ _
  refine WP.seq (WP.seq (WP.rb mixed [[]] [[]] [(4, .int .i64 1)] (by kernel_rfl) ⟨aC rfl rfl (fun _ => rfl), trivial⟩ ?_))
  intro ρ3 w3 hN hf hr
  have h4 := hv hf 0 rfl rfl
  obtain ⟨h0, h3⟩ := k2 hr h0 h3 rfl
  have Oo_O3 := O3
  have H_d_ := H_d_.exn hN
  have hW := hW.trans hN
  have O3 : Own w0.heap.size 38 14 api_Fact.cells w3 (.slice none 0 0) [] := Own.nil _ _ _ _ _
  refine WP.block (WP.loop (fun k_ ρ w => ∃ x : List api_Fact, ∃ x2 : Int, ∃ v3_ : Value, ρ 0 = v_d_ ∧ ρ 3 = v3_ ∧ ρ 4 = .int .i64 x2 ∧ RepSl intR (gfr noG w0) w v_d_ d_ ∧ Own w0.heap.size 38 14 api_Fact.cells w v3_ x ∧ Ext noG w0 w ∧ loopC k_ (pensionhand_Lives_l d_) (x, x2) = some r) FU ⟨[], 1, .slice none 0 0, h0, h3, h4, H_d_, O3, hW, hF⟩ (fun _ _ h => by obtain ⟨_, _, _, _, _, _, _, _, _, h⟩ := h; cases h) ?_)
  rintro k_ ρ4 w4 ⟨x, x2, v3_, h0, h3, h4, H_d_, O3, hW, hF⟩
  have hF : pensionhand_Lives_l d_ (loopC k_ (pensionhand_Lives_l d_)) (x, x2) = some r := (loopC_succ k_ (pensionhand_Lives_l d_) (x, x2)).symm.trans hF
  generalize hrec_ : loopC k_ (pensionhand_Lives_l d_) = rec_ at hF
  rw [pensionhand_Lives_l] at hF
  refine WP.seq (WP.seq (WP.rb mixed [[], [0]] [[4], []] [(9, .int .i64 x2), (10, .bool (decide (x2 ≤ 2)))] (by kernel_rfl) ⟨mE rfl rfl h4,
 fun ρz wz hE hA _ ⟨u0, _⟩ => core_val rfl rfl (o_leq u0 rfl rfl), trivial⟩ ?_))
  intro ρ5 w5 hN hf hr
  have h10 := hv hf 1 rfl rfl
  obtain ⟨h0, h3, h4⟩ := k3 hr h0 h3 h4 rfl
  have Oo_O3 := O3
  have H_d_ := H_d_.exn hN
  have hW := hW.trans hN
  have O3 := Oo_O3.exn hN
  refine WP.cond rfl h10 (fun hb => ?_) (fun hb => ?_)
  · have hF := (if_pos hb).symm.trans hF
    refine WP.skip (WP.seq (WP.block (WP.seq ?_)))
    obtain ⟨z, hz, hF⟩ := obind hF
    obtain ⟨z2, hz2, hF⟩ := obind hF
    obtain ⟨z3, hz3, hF⟩ := obind hF
    obtain ⟨z4, hz4, hF⟩ := obind hF
    refine WP.rb mixed [[], [], [0, 1], [2], [], [], [5], [4, 6], [7], [3], [8]] [[0], [4], [], [], [0], [4], [], [], [], [], []] [(13, v_d_), (14, .int .i64 x2), (15, .int .i64 z), (16, .int .i64 z2), (17, v_d_), (18, .int .i64 x2), (19, .int .i64 (i64 (x2 + 2))), (20, .int .i64 z3), (21, .int .i64 z4), (5, .int .i64 z2), (6, .int .i64 z4)] (by kernel_rfl) ⟨mE rfl rfl h0,
 mE rfl rfl h4,
 fun ρz wz hE hA _ ⟨u0, u1, _⟩ => core_call rfl (call_args2 u0 u1) cf_13 (pensionhand_Pick_ok  _ _ (H_d_.exn (hA rfl)).no hz),
 fun ρz wz hE hA _ ⟨u2, _⟩ => core_call rfl (call_args2 u2 rfl) cf_6 (pensionplain_Mod_ok  _ _  hz2),
 mE rfl rfl h0,
 mE rfl rfl h4,
 fun ρz wz hE hA _ ⟨u5, _⟩ => core_val rfl rfl (o_add u5 rfl rfl),
 fun ρz wz hE hA _ ⟨u4, u6, _⟩ => core_call rfl (call_args2 u4 u6) cf_13 (pensionhand_Pick_ok  _ _ (H_d_.exn (hA rfl)).no hz3),
 fun ρz wz hE hA _ ⟨u7, _⟩ => core_call rfl (call_args2 u7 rfl) cf_6 (pensionplain_Mod_ok  _ _  hz4),
 aU rfl rfl rfl,
 aU rfl rfl rfl, trivial⟩ ?_
    intro ρ6 w6 hN hf hr
    have h5 := hv hf 9 rfl rfl
    have h6 := hv hf 10 rfl rfl
    obtain ⟨h0, h3, h4⟩ := k3 hr h0 h3 h4 rfl
    have Oo_O3 := O3
    have H_d_ := H_d_.exn hN
    have hW := hW.trans hN
    have O3 := Oo_O3.exn hN
    refine WP.seq ?_
    obtain ⟨z5, hz5, hF⟩ := obind hF
    obtain ⟨z6, hz6, hF⟩ := obind hF
    refine WP.rb mixed [[], [], [1], [0, 2], [3], [4], [5]] [[0], [4], [], [], [], [], []] [(22, v_d_), (23, .int .i64 x2), (24, .int .i64 (i64 (x2 + 4))), (25, .int .i64 z5), (26, .int .i64 z6), (27, .int .i64 (i64 (27000 + z6))), (7, .int .i64 (i64 (27000 + z6)))] (by kernel_rfl) ⟨mE rfl rfl h0,
 mE rfl rfl h4,
 fun ρz wz hE hA _ ⟨u1, _⟩ => core_val rfl rfl (o_add u1 rfl rfl),
 fun ρz wz hE hA _ ⟨u0, u2, _⟩ => core_call rfl (call_args2 u0 u2) cf_13 (pensionhand_Pick_ok  _ _ (H_d_.exn (hA rfl)).no hz5),
 fun ρz wz hE hA _ ⟨u3, _⟩ => core_call rfl (call_args2 u3 rfl) cf_6 (pensionplain_Mod_ok  _ _  hz6),
 fun ρz wz hE hA _ ⟨u4, _⟩ => core_val rfl rfl (o_add rfl u4 rfl),
 aU rfl rfl rfl, trivial⟩ ?_
    intro ρ7 w7 hN hf hr
    have h7 := hv hf 6 rfl rfl
    obtain ⟨h0, h3, h4, h5, h6⟩ := k5 hr h0 h3 h4 h5 h6 rfl
    have Oo_O3 := O3
    have H_d_ := H_d_.exn hN
    have hW := hW.trans hN
    have O3 := Oo_O3.exn hN
    refine WP.seq ?_
    obtain ⟨z7, hz7, hF⟩ := obind hF
    obtain ⟨z8, hz8, hF⟩ := obind hF
    refine WP.rb mixed [[], [], [1], [0, 2], [3], [4], [5]] [[0], [4], [], [], [], [], []] [(28, v_d_), (29, .int .i64 x2), (30, .int .i64 (i64 (x2 + 6))), (31, .int .i64 z7), (32, .int .i64 z8), (33, .int .i64 (i64 (13000 + z8))), (8, .int .i64 (i64 (13000 + z8)))] (by kernel_rfl) ⟨mE rfl rfl h0,
 mE rfl rfl h4,
 fun ρz wz hE hA _ ⟨u1, _⟩ => core_val rfl rfl (o_add u1 rfl rfl),
 fun ρz wz hE hA _ ⟨u0, u2, _⟩ => core_call rfl (call_args2 u0 u2) cf_13 (pensionhand_Pick_ok  _ _ (H_d_.exn (hA rfl)).no hz7),
 fun ρz wz hE hA _ ⟨u3, _⟩ => core_call rfl (call_args2 u3 rfl) cf_6 (pensionplain_Mod_ok  _ _  hz8),
 fun ρz wz hE hA _ ⟨u4, _⟩ => core_val rfl rfl (o_add rfl u4 rfl),
 aU rfl rfl rfl, trivial⟩ ?_
    intro ρ8 w8 hN hf hr
    have h8 := hv hf 6 rfl rfl
    obtain ⟨h0, h3, h4, h5, h6, h7⟩ := k6 hr h0 h3 h4 h5 h6 h7 rfl
    have Oo_O3 := O3
    have H_d_ := H_d_.exn hN
    have hW := hW.trans hN
    have O3 := Oo_O3.exn hN
    refine WP.seq ?_
    obtain ⟨l, hl, hF⟩ := obind hF
    refine WP.region mixed [[], [], [], [2], [], [], [], [6], [5, 7], [1, 3, 4, 8], [9], [0, 10], [0, 11]] [[], [], [], [2], [], [], [], [6], [5, 7], [1, 3, 4, 8], [9], [0, 10], [11]] [[3], [5], [4], [], [4], [8], [8], [], [], [], [], [], []] [11] [] [val 34 (v3_), val 35 (.int .i64 z2), val 36 (.int .i64 x2), val 37 (.int .i64 (i64 (900 + x2))), val 38 (.int .i64 x2), val 39 (.int .i64 (i64 (13000 + z8))), val 40 (.int .i64 (i64 (13000 + z8))), val 41 (.int .i64 (i64 (i64 (13000 + z8) + 1))), val 42 (Span.val (⟨i64 (13000 + z8), i64 (i64 (13000 + z8) + 1)⟩ : Span)), val 43 (api_Fact.val (⟨z2, i64 (900 + x2), 1, false, x2, 11, 0, (⟨i64 (13000 + z8), i64 (i64 (13000 + z8) + 1)⟩ : Span), 0, 0, 0, 0, 0⟩ : api_Fact)), (44, fun u wz => ∃ b, u = .slice (some ⟨b, 0, none⟩) 1 1 ∧ w8.heap.size ≤ b ∧ Mb wz b 38 (([(⟨z2, i64 (900 + x2), 1, false, x2, 11, 0, (⟨i64 (13000 + z8), i64 (i64 (13000 + z8) + 1)⟩ : Span), 0, 0, 0, 0, 0⟩ : api_Fact)]).flatMap api_Fact.cells)), (45, fun u wz => Own w0.heap.size 38 14 api_Fact.cells wz u l ∧ ∀ b, u.ownBlock = some b → (v3_.ownBlock = some b ∨ w8.heap.size ≤ b)), (3, fun u wz => Own w0.heap.size 38 14 api_Fact.cells wz u l ∧ ∀ b, u.ownBlock = some b → (v3_.ownBlock = some b ∨ w8.heap.size ≤ b))] (fun b => Value.ownBlock v3_ = some b) (by kernel_rfl) ⟨sV, sV, sV, sV, sV, sV, sV, sV, sV, sV, fun _ _ _ hE ⟨b, hz, hs, hM⟩ => ⟨b, hz, hs, hM.ext hE (fun hg => absurd (O3.lt hg).2 (Nat.not_lt.2 hs))⟩, fun _ _ _ hE ⟨hO, hf⟩ => ⟨hO.exn hE, hf⟩, fun _ _ _ hE ⟨hO, hf⟩ => ⟨hO.exn hE, hf⟩, trivial⟩ ⟨mE rfl rfl h3,
 mE rfl rfl h5,
 mE rfl rfl h4,
 fun ρz wz hE hA _ ⟨u2, _⟩ => core_val rfl rfl (o_add rfl u2 rfl),
 mE rfl rfl h4,
 mE rfl rfl h8,
 mE rfl rfl h8,
 fun ρz wz hE hA _ ⟨u6, _⟩ => core_val rfl rfl (o_add u6 rfl rfl),
 fun ρz wz hE hA _ ⟨u5, u7, _⟩ => core_val rfl rfl (o_build (build_parts2 u5 u7) (bd_36_0_1 _ _ _)),
 fun ρz wz hE hA _ ⟨u1, u3, u4, u8, _⟩ => core_val rfl rfl (o_build (bpS u1 (bpS u3 (bpS rfl (bpS u4 (bpS rfl (bpS u8 bp0)))))) (bd_38_0_1_2_4_5_7 _ _ _ _ _ _ _)),
 fun ρz wz hE hA _ ⟨u9, _⟩ => core_slice rfl rfl hE (o_buildSlice (build_parts1 u9) (bs_24_1 _ _)),
 fun ρz wz hE hA _ ⟨u0, ⟨bz10, hzn10, hge10, hM10⟩, _⟩ => core_append (n := 14) (cells := api_Fact.cells) (B := w0.heap.size) (w0 := w8) rfl rfl (fun b hb => hb) u0 hzn10 (fun _ => rfl) one_38 si_24 se_38 (by decide) (by decide) (O3.exn (hA rfl)) ⟨_, (Mb.rep (n := 14) (cells := api_Fact.cells) (hn := fun _ => rfl) (G := noG) hM10 rfl (Nat.le_of_ble_eq_true rfl) (fun h => h))⟩ hl (Nat.le_trans hW.size hE.size) hE.size (fun v1 w1 h1 h2 => ⟨h1, h2⟩),
 fun ρz wz hE hA _ ⟨⟨hO11, hfr11⟩, _⟩ => core_copy rfl rfl (o_assign rfl) ⟨hO11, hfr11⟩, trivial⟩ ?_
    intro ρ9 w9 hE hN hf hr
    obtain ⟨v3_2, h3⟩ : ∃ v, ρ9 3 = v := ⟨_, rfl⟩
    have hq3 : (fun u wz => Own w0.heap.size 38 14 api_Fact.cells wz u l ∧ ∀ b, u.ownBlock = some b → (v3_.ownBlock = some b ∨ w8.heap.size ≤ b)) (ρ9 3) w9 := hf 12 rfl
    rw [h3] at hq3
    obtain ⟨hq3, hfr3⟩ := hq3
    obtain ⟨h0, h4, h5, h6, h7⟩ := k5 hr h0 h4 h5 h6 h7 rfl
    have Oo_O3 := O3
    have H_d_ := H_d_.over hE (fun b hb => (Oo_O3.lt hb).1)
    have hW := Ext.own hW hE (fun b hb => (Oo_O3.lt hb).1)
    have O3 := hq3
    refine WP.seq ?_
    obtain ⟨l2, hl2, hF⟩ := obind hF
    refine WP.region mixed [[], [], [], [2], [], [], [], [1, 3, 4, 5, 6], [7], [0, 8], [0, 9]] [[], [], [], [2], [], [], [], [1, 3, 4, 5, 6], [7], [0, 8], [9]] [[3], [5], [4], [], [4], [5], [], [], [], [], []] [9] [] [val 46 (v3_2), val 47 (.int .i64 z2), val 48 (.int .i64 x2), val 49 (.int .i64 (i64 (910 + x2))), val 50 (.int .i64 x2), val 51 (.int .i64 z2), val 52 (Span.val (⟨20000, 60000⟩ : Span)), val 53 (api_Fact.val (⟨z2, i64 (910 + x2), 1, false, x2, 5, z2, (⟨20000, 60000⟩ : Span), 0, 0, 0, 0, 0⟩ : api_Fact)), (54, fun u wz => ∃ b, u = .slice (some ⟨b, 0, none⟩) 1 1 ∧ w9.heap.size ≤ b ∧ Mb wz b 38 (([(⟨z2, i64 (910 + x2), 1, false, x2, 5, z2, (⟨20000, 60000⟩ : Span), 0, 0, 0, 0, 0⟩ : api_Fact)]).flatMap api_Fact.cells)), (55, fun u wz => Own w0.heap.size 38 14 api_Fact.cells wz u l2 ∧ ∀ b, u.ownBlock = some b → (v3_2.ownBlock = some b ∨ w9.heap.size ≤ b)), (3, fun u wz => Own w0.heap.size 38 14 api_Fact.cells wz u l2 ∧ ∀ b, u.ownBlock = some b → (v3_2.ownBlock = some b ∨ w9.heap.size ≤ b))] (fun b => Value.ownBlock v3_2 = some b) (by kernel_rfl) ⟨sV, sV, sV, sV, sV, sV, sV, sV, fun _ _ _ hE ⟨b, hz, hs, hM⟩ => ⟨b, hz, hs, hM.ext hE (fun hg => absurd (O3.lt hg).2 (Nat.not_lt.2 hs))⟩, fun _ _ _ hE ⟨hO, hf⟩ => ⟨hO.exn hE, hf⟩, fun _ _ _ hE ⟨hO, hf⟩ => ⟨hO.exn hE, hf⟩, trivial⟩ ⟨mE rfl rfl h3,
 mE rfl rfl h5,
 mE rfl rfl h4,
 fun ρz wz hE hA _ ⟨u2, _⟩ => core_val rfl rfl (o_add rfl u2 rfl),
 mE rfl rfl h4,
 mE rfl rfl h5,
 fun ρz wz hE hA _ _ => core_val rfl rfl (o_build (build_parts2 rfl rfl) (bd_36_0_1 _ _ _)),
 fun ρz wz hE hA _ ⟨u1, u3, u4, u5, u6, _⟩ => core_val rfl rfl (o_build (bpS u1 (bpS u3 (bpS rfl (bpS u4 (bpS rfl (bpS u5 (bpS u6 bp0))))))) (bd_38_0_1_2_4_5_6_7 _ _ _ _ _ _ _ _)),
 fun ρz wz hE hA _ ⟨u7, _⟩ => core_slice rfl rfl hE (o_buildSlice (build_parts1 u7) (bs_24_1 _ _)),
 fun ρz wz hE hA _ ⟨u0, ⟨bz8, hzn8, hge8, hM8⟩, _⟩ => core_append (n := 14) (cells := api_Fact.cells) (B := w0.heap.size) (w0 := w9) rfl rfl (fun b hb => hb) u0 hzn8 (fun _ => rfl) one_38 si_24 se_38 (by decide) (by decide) (O3.exn (hA rfl)) ⟨_, (Mb.rep (n := 14) (cells := api_Fact.cells) (hn := fun _ => rfl) (G := noG) hM8 rfl (Nat.le_of_ble_eq_true rfl) (fun h => h))⟩ hl2 (Nat.le_trans hW.size hE.size) hE.size (fun v1 w1 h1 h2 => ⟨h1, h2⟩),
 fun ρz wz hE hA _ ⟨⟨hO9, hfr9⟩, _⟩ => core_copy rfl rfl (o_assign rfl) ⟨hO9, hfr9⟩, trivial⟩ ?_
    intro ρ10 w10 hE hN hf hr
    obtain ⟨v3_3, h3⟩ : ∃ v, ρ10 3 = v := ⟨_, rfl⟩
    have hq3 : (fun u wz => Own w0.heap.size 38 14 api_Fact.cells wz u l2 ∧ ∀ b, u.ownBlock = some b → (v3_2.ownBlock = some b ∨ w9.heap.size ≤ b)) (ρ10 3) w10 := hf 10 rfl
    rw [h3] at hq3
    obtain ⟨hq3, hfr3⟩ := hq3
    obtain ⟨h0, h4, h5, h6, h7⟩ := k5 hr h0 h4 h5 h6 h7 rfl
    have Oo_O3 := O3
    have H_d_ := H_d_.over hE (fun b hb => (Oo_O3.lt hb).1)
    have hW := Ext.own hW hE (fun b hb => (Oo_O3.lt hb).1)
    have O3 := hq3
    refine WP.seq ?_
    obtain ⟨z9, hz9, hF⟩ := obind hF
    obtain ⟨z10, hz10, hF⟩ := obind hF
    obtain ⟨l3, hl3, hF⟩ := obind hF
    refine WP.region mixed [[], [], [], [2], [], [], [], [6], [], [], [9], [], [], [12], [11, 13], [14], [14, 15], [1, 3, 4, 5, 7, 8, 10, 14, 16], [14, 17], [0, 14, 15, 18], [0, 19]] [[], [], [], [2], [], [], [], [6], [], [], [9], [], [], [12], [11, 13], [14], [15], [1, 3, 4, 5, 7, 8, 10, 16], [17], [0, 18], [19]] [[3], [5], [4], [], [4], [5], [7], [], [5], [5], [], [0], [4], [], [], [], [], [], [], [], []] [19] [] [val 56 (v3_3), val 57 (.int .i64 z2), val 58 (.int .i64 x2), val 59 (.int .i64 (i64 (920 + x2))), val 60 (.int .i64 x2), val 61 (.int .i64 z2), val 62 (.int .i64 (i64 (27000 + z6))), val 63 (Span.val (⟨22000, i64 (27000 + z6)⟩ : Span)), val 64 (.int .i64 z2), val 65 (.int .i64 z2), val 66 (.int .i64 (i64 (1 + z2))), val 67 (v_d_), val 68 (.int .i64 x2), val 69 (.int .i64 (i64 (x2 + 8))), val 70 (.int .i64 z9), val 71 (.int .i64 z10), val 72 (.int .i64 (i64 (900000 + z10))), val 73 (api_Fact.val (⟨z2, i64 (920 + x2), 1, false, x2, 1, z2, (⟨22000, i64 (27000 + z6)⟩ : Span), z2, 100, i64 (1 + z2), i64 (900000 + z10), 0⟩ : api_Fact)), (74, fun u wz => ∃ b, u = .slice (some ⟨b, 0, none⟩) 1 1 ∧ w10.heap.size ≤ b ∧ Mb wz b 38 (([(⟨z2, i64 (920 + x2), 1, false, x2, 1, z2, (⟨22000, i64 (27000 + z6)⟩ : Span), z2, 100, i64 (1 + z2), i64 (900000 + z10), 0⟩ : api_Fact)]).flatMap api_Fact.cells)), (75, fun u wz => Own w0.heap.size 38 14 api_Fact.cells wz u l3 ∧ ∀ b, u.ownBlock = some b → (v3_3.ownBlock = some b ∨ w10.heap.size ≤ b)), (3, fun u wz => Own w0.heap.size 38 14 api_Fact.cells wz u l3 ∧ ∀ b, u.ownBlock = some b → (v3_3.ownBlock = some b ∨ w10.heap.size ≤ b))] (fun b => Value.ownBlock v3_3 = some b) (by kernel_rfl) ⟨sV, sV, sV, sV, sV, sV, sV, sV, sV, sV, sV, sV, sV, sV, sV, sV, sV, sV, fun _ _ _ hE ⟨b, hz, hs, hM⟩ => ⟨b, hz, hs, hM.ext hE (fun hg => absurd (O3.lt hg).2 (Nat.not_lt.2 hs))⟩, fun _ _ _ hE ⟨hO, hf⟩ => ⟨hO.exn hE, hf⟩, fun _ _ _ hE ⟨hO, hf⟩ => ⟨hO.exn hE, hf⟩, trivial⟩ ⟨mE rfl rfl h3,
 mE rfl rfl h5,
 mE rfl rfl h4,
 fun ρz wz hE hA _ ⟨u2, _⟩ => core_val rfl rfl (o_add rfl u2 rfl),
 mE rfl rfl h4,
 mE rfl rfl h5,
 mE rfl rfl h7,
 fun ρz wz hE hA _ ⟨u6, _⟩ => core_val rfl rfl (o_build (build_parts2 rfl u6) (bd_36_0_1 _ _ _)),
 mE rfl rfl h5,
 mE rfl rfl h5,
 fun ρz wz hE hA _ ⟨u9, _⟩ => core_val rfl rfl (o_add rfl u9 rfl),
 mE rfl rfl h0,
 mE rfl rfl h4,
 fun ρz wz hE hA _ ⟨u12, _⟩ => core_val rfl rfl (o_add u12 rfl rfl),
 fun ρz wz hE hA _ ⟨u11, u13, _⟩ => core_call rfl (call_args2 u11 u13) cf_13 (pensionhand_Pick_ok  _ _ (H_d_.exn (hA rfl)).no hz9),
 fun ρz wz hE hA _ ⟨u14, _⟩ => core_call rfl (call_args2 u14 rfl) cf_6 (pensionplain_Mod_ok  _ _  hz10),
 fun ρz wz hE hA _ ⟨u15, _⟩ => core_val rfl rfl (o_add rfl u15 rfl),
 fun ρz wz hE hA _ ⟨u1, u3, u4, u5, u7, u8, u10, u16, _⟩ => core_val rfl rfl (o_build (bpS u1 (bpS u3 (bpS rfl (bpS u4 (bpS rfl (bpS u5 (bpS u7 (bpS u8 (bpS rfl (bpS u10 (bpS u16 bp0))))))))))) (bd_38_0_1_2_4_5_6_7_8_9_10_11 _ _ _ _ _ _ _ _ _ _ _ _)),
 fun ρz wz hE hA _ ⟨u17, _⟩ => core_slice rfl rfl hE (o_buildSlice (build_parts1 u17) (bs_24_1 _ _)),
 fun ρz wz hE hA _ ⟨u0, ⟨bz18, hzn18, hge18, hM18⟩, _⟩ => core_append (n := 14) (cells := api_Fact.cells) (B := w0.heap.size) (w0 := w10) rfl rfl (fun b hb => hb) u0 hzn18 (fun _ => rfl) one_38 si_24 se_38 (by decide) (by decide) (O3.exn (hA rfl)) ⟨_, (Mb.rep (n := 14) (cells := api_Fact.cells) (hn := fun _ => rfl) (G := noG) hM18 rfl (Nat.le_of_ble_eq_true rfl) (fun h => h))⟩ hl3 (Nat.le_trans hW.size hE.size) hE.size (fun v1 w1 h1 h2 => ⟨h1, h2⟩),
 fun ρz wz hE hA _ ⟨⟨hO19, hfr19⟩, _⟩ => core_copy rfl rfl (o_assign rfl) ⟨hO19, hfr19⟩, trivial⟩ ?_
    intro ρ11 w11 hE hN hf hr
    obtain ⟨v3_4, h3⟩ : ∃ v, ρ11 3 = v := ⟨_, rfl⟩
    have hq3 : (fun u wz => Own w0.heap.size 38 14 api_Fact.cells wz u l3 ∧ ∀ b, u.ownBlock = some b → (v3_3.ownBlock = some b ∨ w10.heap.size ≤ b)) (ρ11 3) w11 := hf 20 rfl
    rw [h3] at hq3
    obtain ⟨hq3, hfr3⟩ := hq3
    obtain ⟨h0, h4, h5, h6, h7⟩ := k5 hr h0 h4 h5 h6 h7 rfl
    have Oo_O3 := O3
    have H_d_ := H_d_.over hE (fun b hb => (Oo_O3.lt hb).1)
    have hW := Ext.own hW hE (fun b hb => (Oo_O3.lt hb).1)
    have O3 := hq3
    refine WP.seq ?_
    obtain ⟨z11, hz11, hF⟩ := obind hF
    obtain ⟨z12, hz12, hF⟩ := obind hF
    obtain ⟨z13, hz13, hF⟩ := obind hF
    obtain ⟨z14, hz14, hF⟩ := obind hF
    obtain ⟨l4, hl4, hF⟩ := obind hF
    refine WP.region mixed [[], [], [], [2], [], [], [], [], [], [8], [7, 9], [10], [10, 11], [6, 10, 11, 12], [], [], [15], [], [], [18], [17, 19], [20], [20, 21], [1, 3, 4, 5, 10, 11, 13, 14, 16, 20, 22], [10, 11, 20, 23], [0, 10, 11, 20, 21, 24], [0, 25]] [[], [], [], [2], [], [], [], [], [], [8], [7, 9], [10], [11], [6, 12], [], [], [15], [], [], [18], [17, 19], [20], [21], [1, 3, 4, 5, 13, 14, 16, 22], [23], [0, 24], [25]] [[3], [6], [4], [], [4], [6], [7], [0], [4], [], [], [], [], [], [6], [6], [], [0], [4], [], [], [], [], [], [], [], []] [25] [] [val 76 (v3_4), val 77 (.int .i64 z4), val 78 (.int .i64 x2), val 79 (.int .i64 (i64 (930 + x2))), val 80 (.int .i64 x2), val 81 (.int .i64 z4), val 82 (.int .i64 (i64 (27000 + z6))), val 83 (v_d_), val 84 (.int .i64 x2), val 85 (.int .i64 (i64 (x2 + 10))), val 86 (.int .i64 z11), val 87 (.int .i64 z12), val 88 (.int .i64 (i64 (34400 + z12))), val 89 (Span.val (⟨i64 (27000 + z6), i64 (34400 + z12)⟩ : Span)), val 90 (.int .i64 z4), val 91 (.int .i64 z4), val 92 (.int .i64 (i64 (1 + z4))), val 93 (v_d_), val 94 (.int .i64 x2), val 95 (.int .i64 (i64 (x2 + 12))), val 96 (.int .i64 z13), val 97 (.int .i64 z14), val 98 (.int .i64 (i64 (700000 + z14))), val 99 (api_Fact.val (⟨z4, i64 (930 + x2), 1, false, x2, 1, z4, (⟨i64 (27000 + z6), i64 (34400 + z12)⟩ : Span), z4, 50, i64 (1 + z4), i64 (700000 + z14), 0⟩ : api_Fact)), (100, fun u wz => ∃ b, u = .slice (some ⟨b, 0, none⟩) 1 1 ∧ w11.heap.size ≤ b ∧ Mb wz b 38 (([(⟨z4, i64 (930 + x2), 1, false, x2, 1, z4, (⟨i64 (27000 + z6), i64 (34400 + z12)⟩ : Span), z4, 50, i64 (1 + z4), i64 (700000 + z14), 0⟩ : api_Fact)]).flatMap api_Fact.cells)), (101, fun u wz => Own w0.heap.size 38 14 api_Fact.cells wz u l4 ∧ ∀ b, u.ownBlock = some b → (v3_4.ownBlock = some b ∨ w11.heap.size ≤ b)), (3, fun u wz => Own w0.heap.size 38 14 api_Fact.cells wz u l4 ∧ ∀ b, u.ownBlock = some b → (v3_4.ownBlock = some b ∨ w11.heap.size ≤ b))] (fun b => Value.ownBlock v3_4 = some b) (by kernel_rfl) ⟨sV, sV, sV, sV, sV, sV, sV, sV, sV, sV, sV, sV, sV, sV, sV, sV, sV, sV, sV, sV, sV, sV, sV, sV, fun _ _ _ hE ⟨b, hz, hs, hM⟩ => ⟨b, hz, hs, hM.ext hE (fun hg => absurd (O3.lt hg).2 (Nat.not_lt.2 hs))⟩, fun _ _ _ hE ⟨hO, hf⟩ => ⟨hO.exn hE, hf⟩, fun _ _ _ hE ⟨hO, hf⟩ => ⟨hO.exn hE, hf⟩, trivial⟩ ⟨mE rfl rfl h3,
 mE rfl rfl h6,
 mE rfl rfl h4,
 fun ρz wz hE hA _ ⟨u2, _⟩ => core_val rfl rfl (o_add rfl u2 rfl),
 mE rfl rfl h4,
 mE rfl rfl h6,
 mE rfl rfl h7,
 mE rfl rfl h0,
 mE rfl rfl h4,
 fun ρz wz hE hA _ ⟨u8, _⟩ => core_val rfl rfl (o_add u8 rfl rfl),
 fun ρz wz hE hA _ ⟨u7, u9, _⟩ => core_call rfl (call_args2 u7 u9) cf_13 (pensionhand_Pick_ok  _ _ (H_d_.exn (hA rfl)).no hz11),
 fun ρz wz hE hA _ ⟨u10, _⟩ => core_call rfl (call_args2 u10 rfl) cf_6 (pensionplain_Mod_ok  _ _  hz12),
 fun ρz wz hE hA _ ⟨u11, _⟩ => core_val rfl rfl (o_add rfl u11 rfl),
 fun ρz wz hE hA _ ⟨u6, u12, _⟩ => core_val rfl rfl (o_build (build_parts2 u6 u12) (bd_36_0_1 _ _ _)),
 mE rfl rfl h6,
 mE rfl rfl h6,
 fun ρz wz hE hA _ ⟨u15, _⟩ => core_val rfl rfl (o_add rfl u15 rfl),
 mE rfl rfl h0,
 mE rfl rfl h4,
 fun ρz wz hE hA _ ⟨u18, _⟩ => core_val rfl rfl (o_add u18 rfl rfl),
 fun ρz wz hE hA _ ⟨u17, u19, _⟩ => core_call rfl (call_args2 u17 u19) cf_13 (pensionhand_Pick_ok  _ _ (H_d_.exn (hA rfl)).no hz13),
 fun ρz wz hE hA _ ⟨u20, _⟩ => core_call rfl (call_args2 u20 rfl) cf_6 (pensionplain_Mod_ok  _ _  hz14),
 fun ρz wz hE hA _ ⟨u21, _⟩ => core_val rfl rfl (o_add rfl u21 rfl),
 fun ρz wz hE hA _ ⟨u1, u3, u4, u5, u13, u14, u16, u22, _⟩ => core_val rfl rfl (o_build (bpS u1 (bpS u3 (bpS rfl (bpS u4 (bpS rfl (bpS u5 (bpS u13 (bpS u14 (bpS rfl (bpS u16 (bpS u22 bp0))))))))))) (bd_38_0_1_2_4_5_6_7_8_9_10_11 _ _ _ _ _ _ _ _ _ _ _ _)),
 fun ρz wz hE hA _ ⟨u23, _⟩ => core_slice rfl rfl hE (o_buildSlice (build_parts1 u23) (bs_24_1 _ _)),
 fun ρz wz hE hA _ ⟨u0, ⟨bz24, hzn24, hge24, hM24⟩, _⟩ => core_append (n := 14) (cells := api_Fact.cells) (B := w0.heap.size) (w0 := w11) rfl rfl (fun b hb => hb) u0 hzn24 (fun _ => rfl) one_38 si_24 se_38 (by decide) (by decide) (O3.exn (hA rfl)) ⟨_, (Mb.rep (n := 14) (cells := api_Fact.cells) (hn := fun _ => rfl) (G := noG) hM24 rfl (Nat.le_of_ble_eq_true rfl) (fun h => h))⟩ hl4 (Nat.le_trans hW.size hE.size) hE.size (fun v1 w1 h1 h2 => ⟨h1, h2⟩),
 fun ρz wz hE hA _ ⟨⟨hO25, hfr25⟩, _⟩ => core_copy rfl rfl (o_assign rfl) ⟨hO25, hfr25⟩, trivial⟩ ?_
    intro ρ12 w12 hE hN hf hr
    obtain ⟨v3_5, h3⟩ : ∃ v, ρ12 3 = v := ⟨_, rfl⟩
    have hq3 : (fun u wz => Own w0.heap.size 38 14 api_Fact.cells wz u l4 ∧ ∀ b, u.ownBlock = some b → (v3_4.ownBlock = some b ∨ w11.heap.size ≤ b)) (ρ12 3) w12 := hf 26 rfl
    rw [h3] at hq3
    obtain ⟨hq3, hfr3⟩ := hq3
    obtain ⟨h0, h4, h5⟩ := k3 hr h0 h4 h5 rfl
    have Oo_O3 := O3
    have H_d_ := H_d_.over hE (fun b hb => (Oo_O3.lt hb).1)
    have hW := Ext.own hW hE (fun b hb => (Oo_O3.lt hb).1)
    have O3 := hq3
    refine WP.seq ?_
    obtain ⟨l5, hl5, hF⟩ := obind hF
    refine WP.region mixed [[], [], [], [2], [], [], [], [1, 3, 4, 5, 6], [7], [0, 8], [0, 9]] [[], [], [], [2], [], [], [], [1, 3, 4, 5, 6], [7], [0, 8], [9]] [[3], [5], [4], [], [4], [5], [], [], [], [], []] [9] [] [val 102 (v3_5), val 103 (.int .i64 z2), val 104 (.int .i64 x2), val 105 (.int .i64 (i64 (940 + x2))), val 106 (.int .i64 x2), val 107 (.int .i64 z2), val 108 (Span.val (⟨32000, 38500⟩ : Span)), val 109 (api_Fact.val (⟨z2, i64 (940 + x2), 1, false, x2, 10, z2, (⟨32000, 38500⟩ : Span), 0, 0, 0, 0, 3⟩ : api_Fact)), (110, fun u wz => ∃ b, u = .slice (some ⟨b, 0, none⟩) 1 1 ∧ w12.heap.size ≤ b ∧ Mb wz b 38 (([(⟨z2, i64 (940 + x2), 1, false, x2, 10, z2, (⟨32000, 38500⟩ : Span), 0, 0, 0, 0, 3⟩ : api_Fact)]).flatMap api_Fact.cells)), (111, fun u wz => Own w0.heap.size 38 14 api_Fact.cells wz u l5 ∧ ∀ b, u.ownBlock = some b → (v3_5.ownBlock = some b ∨ w12.heap.size ≤ b)), (3, fun u wz => Own w0.heap.size 38 14 api_Fact.cells wz u l5 ∧ ∀ b, u.ownBlock = some b → (v3_5.ownBlock = some b ∨ w12.heap.size ≤ b))] (fun b => Value.ownBlock v3_5 = some b) (by kernel_rfl) ⟨sV, sV, sV, sV, sV, sV, sV, sV, fun _ _ _ hE ⟨b, hz, hs, hM⟩ => ⟨b, hz, hs, hM.ext hE (fun hg => absurd (O3.lt hg).2 (Nat.not_lt.2 hs))⟩, fun _ _ _ hE ⟨hO, hf⟩ => ⟨hO.exn hE, hf⟩, fun _ _ _ hE ⟨hO, hf⟩ => ⟨hO.exn hE, hf⟩, trivial⟩ ⟨mE rfl rfl h3,
 mE rfl rfl h5,
 mE rfl rfl h4,
 fun ρz wz hE hA _ ⟨u2, _⟩ => core_val rfl rfl (o_add rfl u2 rfl),
 mE rfl rfl h4,
 mE rfl rfl h5,
 fun ρz wz hE hA _ _ => core_val rfl rfl (o_build (build_parts2 rfl rfl) (bd_36_0_1 _ _ _)),
 fun ρz wz hE hA _ ⟨u1, u3, u4, u5, u6, _⟩ => core_val rfl rfl (o_build (bpS u1 (bpS u3 (bpS rfl (bpS u4 (bpS rfl (bpS u5 (bpS u6 (bpS rfl bp0)))))))) (bd_38_0_1_2_4_5_6_7_12 _ _ _ _ _ _ _ _ _)),
 fun ρz wz hE hA _ ⟨u7, _⟩ => core_slice rfl rfl hE (o_buildSlice (build_parts1 u7) (bs_24_1 _ _)),
 fun ρz wz hE hA _ ⟨u0, ⟨bz8, hzn8, hge8, hM8⟩, _⟩ => core_append (n := 14) (cells := api_Fact.cells) (B := w0.heap.size) (w0 := w12) rfl rfl (fun b hb => hb) u0 hzn8 (fun _ => rfl) one_38 si_24 se_38 (by decide) (by decide) (O3.exn (hA rfl)) ⟨_, (Mb.rep (n := 14) (cells := api_Fact.cells) (hn := fun _ => rfl) (G := noG) hM8 rfl (Nat.le_of_ble_eq_true rfl) (fun h => h))⟩ hl5 (Nat.le_trans hW.size hE.size) hE.size (fun v1 w1 h1 h2 => ⟨h1, h2⟩),
 fun ρz wz hE hA _ ⟨⟨hO9, hfr9⟩, _⟩ => core_copy rfl rfl (o_assign rfl) ⟨hO9, hfr9⟩, trivial⟩ ?_
    intro ρ13 w13 hE hN hf hr
    obtain ⟨v3_6, h3⟩ : ∃ v, ρ13 3 = v := ⟨_, rfl⟩
    have hq3 : (fun u wz => Own w0.heap.size 38 14 api_Fact.cells wz u l5 ∧ ∀ b, u.ownBlock = some b → (v3_5.ownBlock = some b ∨ w12.heap.size ≤ b)) (ρ13 3) w13 := hf 10 rfl
    rw [h3] at hq3
    obtain ⟨hq3, hfr3⟩ := hq3
    obtain ⟨h0, h4, h5⟩ := k3 hr h0 h4 h5 rfl
    have Oo_O3 := O3
    have H_d_ := H_d_.over hE (fun b hb => (Oo_O3.lt hb).1)
    have hW := Ext.own hW hE (fun b hb => (Oo_O3.lt hb).1)
    have O3 := hq3
    obtain ⟨l6, hl6, hF⟩ := obind hF
    refine WP.region mixed [[], [], [], [2], [], [], [], [6], [1, 3, 4, 5, 7], [8], [0, 9], [0, 10]] [[], [], [], [2], [], [], [], [6], [1, 3, 4, 5, 7], [8], [0, 9], [10]] [[3], [5], [4], [], [4], [], [4], [], [], [], [], []] [10] [] [val 112 (v3_6), val 113 (.int .i64 z2), val 114 (.int .i64 x2), val 115 (.int .i64 (i64 (950 + x2))), val 116 (.int .i64 x2), val 117 (Span.val (⟨26000, 50000⟩ : Span)), val 118 (.int .i64 x2), val 119 (.int .i64 (i64 (3 - x2))), val 120 (api_Fact.val (⟨z2, i64 (950 + x2), 1, false, x2, 14, 0, (⟨26000, 50000⟩ : Span), 0, 0, 0, 0, i64 (3 - x2)⟩ : api_Fact)), (121, fun u wz => ∃ b, u = .slice (some ⟨b, 0, none⟩) 1 1 ∧ w13.heap.size ≤ b ∧ Mb wz b 38 (([(⟨z2, i64 (950 + x2), 1, false, x2, 14, 0, (⟨26000, 50000⟩ : Span), 0, 0, 0, 0, i64 (3 - x2)⟩ : api_Fact)]).flatMap api_Fact.cells)), (122, fun u wz => Own w0.heap.size 38 14 api_Fact.cells wz u l6 ∧ ∀ b, u.ownBlock = some b → (v3_6.ownBlock = some b ∨ w13.heap.size ≤ b)), (3, fun u wz => Own w0.heap.size 38 14 api_Fact.cells wz u l6 ∧ ∀ b, u.ownBlock = some b → (v3_6.ownBlock = some b ∨ w13.heap.size ≤ b))] (fun b => Value.ownBlock v3_6 = some b) (by kernel_rfl) ⟨sV, sV, sV, sV, sV, sV, sV, sV, sV, fun _ _ _ hE ⟨b, hz, hs, hM⟩ => ⟨b, hz, hs, hM.ext hE (fun hg => absurd (O3.lt hg).2 (Nat.not_lt.2 hs))⟩, fun _ _ _ hE ⟨hO, hf⟩ => ⟨hO.exn hE, hf⟩, fun _ _ _ hE ⟨hO, hf⟩ => ⟨hO.exn hE, hf⟩, trivial⟩ ⟨mE rfl rfl h3,
 mE rfl rfl h5,
 mE rfl rfl h4,
 fun ρz wz hE hA _ ⟨u2, _⟩ => core_val rfl rfl (o_add rfl u2 rfl),
 mE rfl rfl h4,
 fun ρz wz hE hA _ _ => core_val rfl rfl (o_build (build_parts2 rfl rfl) (bd_36_0_1 _ _ _)),
 mE rfl rfl h4,
 fun ρz wz hE hA _ ⟨u6, _⟩ => core_val rfl rfl (o_sub rfl u6 rfl),
 fun ρz wz hE hA _ ⟨u1, u3, u4, u5, u7, _⟩ => core_val rfl rfl (o_build (bpS u1 (bpS u3 (bpS rfl (bpS u4 (bpS rfl (bpS u5 (bpS u7 bp0))))))) (bd_38_0_1_2_4_5_7_12 _ _ _ _ _ _ _ _)),
 fun ρz wz hE hA _ ⟨u8, _⟩ => core_slice rfl rfl hE (o_buildSlice (build_parts1 u8) (bs_24_1 _ _)),
 fun ρz wz hE hA _ ⟨u0, ⟨bz9, hzn9, hge9, hM9⟩, _⟩ => core_append (n := 14) (cells := api_Fact.cells) (B := w0.heap.size) (w0 := w13) rfl rfl (fun b hb => hb) u0 hzn9 (fun _ => rfl) one_38 si_24 se_38 (by decide) (by decide) (O3.exn (hA rfl)) ⟨_, (Mb.rep (n := 14) (cells := api_Fact.cells) (hn := fun _ => rfl) (G := noG) hM9 rfl (Nat.le_of_ble_eq_true rfl) (fun h => h))⟩ hl6 (Nat.le_trans hW.size hE.size) hE.size (fun v1 w1 h1 h2 => ⟨h1, h2⟩),
 fun ρz wz hE hA _ ⟨⟨hO10, hfr10⟩, _⟩ => core_copy rfl rfl (o_assign rfl) ⟨hO10, hfr10⟩, trivial⟩ ?_
    intro ρ14 w14 hE hN hf hr
    obtain ⟨v3_7, h3⟩ : ∃ v, ρ14 3 = v := ⟨_, rfl⟩
    have hq3 : (fun u wz => Own w0.heap.size 38 14 api_Fact.cells wz u l6 ∧ ∀ b, u.ownBlock = some b → (v3_6.ownBlock = some b ∨ w13.heap.size ≤ b)) (ρ14 3) w14 := hf 11 rfl
    rw [h3] at hq3
    obtain ⟨hq3, hfr3⟩ := hq3
    obtain ⟨h0, h4⟩ := k2 hr h0 h4 rfl
    have Oo_O3 := O3
    have H_d_ := H_d_.over hE (fun b hb => (Oo_O3.lt hb).1)
    have hW := Ext.own hW hE (fun b hb => (Oo_O3.lt hb).1)
    have O3 := hq3
    refine WP.rv mixed [[], [0], [0, 1]] [[], [0], [1]] [[4], [], []] [(11, .int .i64 x2), (12, .int .i64 (i64 (x2 + 1))), (4, .int .i64 (i64 (x2 + 1)))] (by kernel_rfl) ⟨mE rfl rfl h4,
 fun ρz wz hE hA _ ⟨u0, _⟩ => core_val rfl rfl (o_add u0 rfl rfl),
 aU rfl rfl rfl, trivial⟩ ?_
    intro ρ15 w15 hN hf hr
    have h4 := hv hf 2 rfl rfl
    obtain ⟨h0, h3⟩ := k2 hr h0 h3 rfl
    have Oo_O3 := O3
    have H_d_ := H_d_.exn hN
    have hW := hW.trans hN
    have O3 := Oo_O3.exn hN
    exact ⟨l6, i64 (x2 + 1), v3_7, h0, h3, h4, H_d_, O3, hW, (by first | exact hF | (rw [hrec_]; exact hF))⟩
  have hF := (if_neg (Bool.eq_false_iff.1 hb)).symm.trans hF
  refine WP.exit (thenQ_exit (thenQ_exit (blockQ_hit (WP.seq ?_))))
  obtain ⟨z15, hz15, hF⟩ := obind hF
  obtain ⟨z16, hz16, hF⟩ := obind hF
  obtain ⟨z17, hz17, hF⟩ := obind hF
  obtain ⟨z18, hz18, hF⟩ := obind hF
  obtain ⟨l7, hl7, hF⟩ := obind hF
  refine WP.region mixed [[], [], [1], [2], [2, 3], [], [5], [6], [6, 7], [2, 3, 4, 6, 8], [2, 3, 6, 9], [2, 3, 6, 10], [0, 2, 3, 6, 7, 11], [0, 12]] [[], [], [1], [2], [3], [], [5], [6], [7], [4, 8], [9], [10], [0, 11], [12]] [[3], [0], [], [], [], [0], [], [], [], [], [], [], [], []] [12] [] [val 123 (v3_), val 124 (v_d_), val 125 (.int .i64 z15), val 126 (.int .i64 z16), val 127 (.int .i64 (i64 (34000 + z16))), val 128 (v_d_), val 129 (.int .i64 z17), val 130 (.int .i64 z18), val 131 (.int .i64 (i64 (36500 + z18))), val 132 (Span.val (⟨i64 (34000 + z16), i64 (36500 + z18)⟩ : Span)), val 133 (api_Fact.val (⟨0, 961, 1, false, 1, 13, 0, (⟨i64 (34000 + z16), i64 (36500 + z18)⟩ : Span), 0, 0, 0, 0, 0⟩ : api_Fact)), (134, fun u wz => ∃ b, u = .slice (some ⟨b, 0, none⟩) 1 1 ∧ w5.heap.size ≤ b ∧ Mb wz b 38 (([(⟨0, 961, 1, false, 1, 13, 0, (⟨i64 (34000 + z16), i64 (36500 + z18)⟩ : Span), 0, 0, 0, 0, 0⟩ : api_Fact)]).flatMap api_Fact.cells)), (135, fun u wz => Own w0.heap.size 38 14 api_Fact.cells wz u l7 ∧ ∀ b, u.ownBlock = some b → (v3_.ownBlock = some b ∨ w5.heap.size ≤ b)), (3, fun u wz => Own w0.heap.size 38 14 api_Fact.cells wz u l7 ∧ ∀ b, u.ownBlock = some b → (v3_.ownBlock = some b ∨ w5.heap.size ≤ b))] (fun b => Value.ownBlock v3_ = some b) (by kernel_rfl) ⟨sV, sV, sV, sV, sV, sV, sV, sV, sV, sV, sV, fun _ _ _ hE ⟨b, hz, hs, hM⟩ => ⟨b, hz, hs, hM.ext hE (fun hg => absurd (O3.lt hg).2 (Nat.not_lt.2 hs))⟩, fun _ _ _ hE ⟨hO, hf⟩ => ⟨hO.exn hE, hf⟩, fun _ _ _ hE ⟨hO, hf⟩ => ⟨hO.exn hE, hf⟩, trivial⟩ ⟨mE rfl rfl h3,
 mE rfl rfl h0,
 fun ρz wz hE hA _ ⟨u1, _⟩ => core_call rfl (call_args2 u1 rfl) cf_13 (pensionhand_Pick_ok  _ _ (H_d_.exn (hA rfl)).no hz15),
 fun ρz wz hE hA _ ⟨u2, _⟩ => core_call rfl (call_args2 u2 rfl) cf_6 (pensionplain_Mod_ok  _ _  hz16),
 fun ρz wz hE hA _ ⟨u3, _⟩ => core_val rfl rfl (o_add rfl u3 rfl),
 mE rfl rfl h0,
 fun ρz wz hE hA _ ⟨u5, _⟩ => core_call rfl (call_args2 u5 rfl) cf_13 (pensionhand_Pick_ok  _ _ (H_d_.exn (hA rfl)).no hz17),
 fun ρz wz hE hA _ ⟨u6, _⟩ => core_call rfl (call_args2 u6 rfl) cf_6 (pensionplain_Mod_ok  _ _  hz18),
 fun ρz wz hE hA _ ⟨u7, _⟩ => core_val rfl rfl (o_add rfl u7 rfl),
 fun ρz wz hE hA _ ⟨u4, u8, _⟩ => core_val rfl rfl (o_build (build_parts2 u4 u8) (bd_36_0_1 _ _ _)),
 fun ρz wz hE hA _ ⟨u9, _⟩ => core_val rfl rfl (o_build (bpS rfl (bpS rfl (bpS rfl (bpS rfl (bpS rfl (bpS u9 bp0)))))) (bd_38_0_1_2_4_5_7 _ _ _ _ _ _ _)),
 fun ρz wz hE hA _ ⟨u10, _⟩ => core_slice rfl rfl hE (o_buildSlice (build_parts1 u10) (bs_24_1 _ _)),
 fun ρz wz hE hA _ ⟨u0, ⟨bz11, hzn11, hge11, hM11⟩, _⟩ => core_append (n := 14) (cells := api_Fact.cells) (B := w0.heap.size) (w0 := w5) rfl rfl (fun b hb => hb) u0 hzn11 (fun _ => rfl) one_38 si_24 se_38 (by decide) (by decide) (O3.exn (hA rfl)) ⟨_, (Mb.rep (n := 14) (cells := api_Fact.cells) (hn := fun _ => rfl) (G := noG) hM11 rfl (Nat.le_of_ble_eq_true rfl) (fun h => h))⟩ hl7 (Nat.le_trans hW.size hE.size) hE.size (fun v1 w1 h1 h2 => ⟨h1, h2⟩),
 fun ρz wz hE hA _ ⟨⟨hO12, hfr12⟩, _⟩ => core_copy rfl rfl (o_assign rfl) ⟨hO12, hfr12⟩, trivial⟩ ?_
  intro ρ16 w16 hE hN hf hr
  obtain ⟨v3_8, h3⟩ : ∃ v, ρ16 3 = v := ⟨_, rfl⟩
  have hq3 : (fun u wz => Own w0.heap.size 38 14 api_Fact.cells wz u l7 ∧ ∀ b, u.ownBlock = some b → (v3_.ownBlock = some b ∨ w5.heap.size ≤ b)) (ρ16 3) w16 := hf 13 rfl
  rw [h3] at hq3
  obtain ⟨hq3, hfr3⟩ := hq3
  have h0 := (hr 0 rfl).trans h0
  have Oo_O3 := O3
  have H_d_ := H_d_.over hE (fun b hb => (Oo_O3.lt hb).1)
  have hW := Ext.own hW hE (fun b hb => (Oo_O3.lt hb).1)
  have O3 := hq3
  refine WP.seq ?_
  obtain ⟨z19, hz19, hF⟩ := obind hF
  obtain ⟨z20, hz20, hF⟩ := obind hF
  obtain ⟨z21, hz21, hF⟩ := obind hF
  obtain ⟨z22, hz22, hF⟩ := obind hF
  obtain ⟨l8, hl8, hF⟩ := obind hF
  refine WP.region mixed [[], [], [1], [2], [2, 3], [], [5], [6], [6, 7], [2, 3, 4, 6, 8], [2, 3, 6, 9], [2, 3, 6, 10], [0, 2, 3, 6, 7, 11], [0, 12]] [[], [], [1], [2], [3], [], [5], [6], [7], [4, 8], [9], [10], [0, 11], [12]] [[3], [0], [], [], [], [0], [], [], [], [], [], [], [], []] [12] [] [val 136 (v3_8), val 137 (v_d_), val 138 (.int .i64 z19), val 139 (.int .i64 z20), val 140 (.int .i64 (i64 (35600 + z20))), val 141 (v_d_), val 142 (.int .i64 z21), val 143 (.int .i64 z22), val 144 (.int .i64 (i64 (35601 + z22))), val 145 (Span.val (⟨i64 (35600 + z20), i64 (35601 + z22)⟩ : Span)), val 146 (api_Fact.val (⟨1, 962, 1, false, 2, 12, 0, (⟨i64 (35600 + z20), i64 (35601 + z22)⟩ : Span), 0, 0, 0, 0, 0⟩ : api_Fact)), (147, fun u wz => ∃ b, u = .slice (some ⟨b, 0, none⟩) 1 1 ∧ w16.heap.size ≤ b ∧ Mb wz b 38 (([(⟨1, 962, 1, false, 2, 12, 0, (⟨i64 (35600 + z20), i64 (35601 + z22)⟩ : Span), 0, 0, 0, 0, 0⟩ : api_Fact)]).flatMap api_Fact.cells)), (148, fun u wz => Own w0.heap.size 38 14 api_Fact.cells wz u l8 ∧ ∀ b, u.ownBlock = some b → (v3_8.ownBlock = some b ∨ w16.heap.size ≤ b)), (3, fun u wz => Own w0.heap.size 38 14 api_Fact.cells wz u l8 ∧ ∀ b, u.ownBlock = some b → (v3_8.ownBlock = some b ∨ w16.heap.size ≤ b))] (fun b => Value.ownBlock v3_8 = some b) (by kernel_rfl) ⟨sV, sV, sV, sV, sV, sV, sV, sV, sV, sV, sV, fun _ _ _ hE ⟨b, hz, hs, hM⟩ => ⟨b, hz, hs, hM.ext hE (fun hg => absurd (O3.lt hg).2 (Nat.not_lt.2 hs))⟩, fun _ _ _ hE ⟨hO, hf⟩ => ⟨hO.exn hE, hf⟩, fun _ _ _ hE ⟨hO, hf⟩ => ⟨hO.exn hE, hf⟩, trivial⟩ ⟨mE rfl rfl h3,
 mE rfl rfl h0,
 fun ρz wz hE hA _ ⟨u1, _⟩ => core_call rfl (call_args2 u1 rfl) cf_13 (pensionhand_Pick_ok  _ _ (H_d_.exn (hA rfl)).no hz19),
 fun ρz wz hE hA _ ⟨u2, _⟩ => core_call rfl (call_args2 u2 rfl) cf_6 (pensionplain_Mod_ok  _ _  hz20),
 fun ρz wz hE hA _ ⟨u3, _⟩ => core_val rfl rfl (o_add rfl u3 rfl),
 mE rfl rfl h0,
 fun ρz wz hE hA _ ⟨u5, _⟩ => core_call rfl (call_args2 u5 rfl) cf_13 (pensionhand_Pick_ok  _ _ (H_d_.exn (hA rfl)).no hz21),
 fun ρz wz hE hA _ ⟨u6, _⟩ => core_call rfl (call_args2 u6 rfl) cf_6 (pensionplain_Mod_ok  _ _  hz22),
 fun ρz wz hE hA _ ⟨u7, _⟩ => core_val rfl rfl (o_add rfl u7 rfl),
 fun ρz wz hE hA _ ⟨u4, u8, _⟩ => core_val rfl rfl (o_build (build_parts2 u4 u8) (bd_36_0_1 _ _ _)),
 fun ρz wz hE hA _ ⟨u9, _⟩ => core_val rfl rfl (o_build (bpS rfl (bpS rfl (bpS rfl (bpS rfl (bpS rfl (bpS u9 bp0)))))) (bd_38_0_1_2_4_5_7 _ _ _ _ _ _ _)),
 fun ρz wz hE hA _ ⟨u10, _⟩ => core_slice rfl rfl hE (o_buildSlice (build_parts1 u10) (bs_24_1 _ _)),
 fun ρz wz hE hA _ ⟨u0, ⟨bz11, hzn11, hge11, hM11⟩, _⟩ => core_append (n := 14) (cells := api_Fact.cells) (B := w0.heap.size) (w0 := w16) rfl rfl (fun b hb => hb) u0 hzn11 (fun _ => rfl) one_38 si_24 se_38 (by decide) (by decide) (O3.exn (hA rfl)) ⟨_, (Mb.rep (n := 14) (cells := api_Fact.cells) (hn := fun _ => rfl) (G := noG) hM11 rfl (Nat.le_of_ble_eq_true rfl) (fun h => h))⟩ hl8 (Nat.le_trans hW.size hE.size) hE.size (fun v1 w1 h1 h2 => ⟨h1, h2⟩),
 fun ρz wz hE hA _ ⟨⟨hO12, hfr12⟩, _⟩ => core_copy rfl rfl (o_assign rfl) ⟨hO12, hfr12⟩, trivial⟩ ?_
  intro ρ17 w17 hE hN hf hr
  obtain ⟨v3_9, h3⟩ : ∃ v, ρ17 3 = v := ⟨_, rfl⟩
  have hq3 : (fun u wz => Own w0.heap.size 38 14 api_Fact.cells wz u l8 ∧ ∀ b, u.ownBlock = some b → (v3_8.ownBlock = some b ∨ w16.heap.size ≤ b)) (ρ17 3) w17 := hf 13 rfl
  rw [h3] at hq3
  obtain ⟨hq3, hfr3⟩ := hq3
  have h0 := (hr 0 rfl).trans h0
  have Oo_O3 := O3
  have H_d_ := H_d_.over hE (fun b hb => (Oo_O3.lt hb).1)
  have hW := Ext.own hW hE (fun b hb => (Oo_O3.lt hb).1)
  have O3 := hq3
  refine WP.seq ?_
  obtain ⟨z23, hz23, hF⟩ := obind hF
  obtain ⟨z24, hz24, hF⟩ := obind hF
  obtain ⟨z25, hz25, hF⟩ := obind hF
  obtain ⟨z26, hz26, hF⟩ := obind hF
  obtain ⟨l9, hl9, hF⟩ := obind hF
  refine WP.region mixed [[], [], [1], [2], [2, 3], [], [5], [6], [6, 7], [2, 3, 4, 6, 8], [2, 3, 6, 9], [2, 3, 6, 10], [0, 2, 3, 6, 7, 11], [0, 12]] [[], [], [1], [2], [3], [], [5], [6], [7], [4, 8], [9], [10], [0, 11], [12]] [[3], [0], [], [], [], [0], [], [], [], [], [], [], [], []] [12] [] [val 149 (v3_9), val 150 (v_d_), val 151 (.int .i64 z23), val 152 (.int .i64 z24), val 153 (.int .i64 (i64 (35000 + z24))), val 154 (v_d_), val 155 (.int .i64 z25), val 156 (.int .i64 z26), val 157 (.int .i64 (i64 (36250 + z26))), val 158 (Span.val (⟨i64 (35000 + z24), i64 (36250 + z26)⟩ : Span)), val 159 (api_Fact.val (⟨0, 963, 1, false, 1, 8, 0, (⟨i64 (35000 + z24), i64 (36250 + z26)⟩ : Span), 0, 0, 0, 0, 0⟩ : api_Fact)), (160, fun u wz => ∃ b, u = .slice (some ⟨b, 0, none⟩) 1 1 ∧ w17.heap.size ≤ b ∧ Mb wz b 38 (([(⟨0, 963, 1, false, 1, 8, 0, (⟨i64 (35000 + z24), i64 (36250 + z26)⟩ : Span), 0, 0, 0, 0, 0⟩ : api_Fact)]).flatMap api_Fact.cells)), (161, fun u wz => Own w0.heap.size 38 14 api_Fact.cells wz u l9 ∧ ∀ b, u.ownBlock = some b → (v3_9.ownBlock = some b ∨ w17.heap.size ≤ b)), (3, fun u wz => Own w0.heap.size 38 14 api_Fact.cells wz u l9 ∧ ∀ b, u.ownBlock = some b → (v3_9.ownBlock = some b ∨ w17.heap.size ≤ b))] (fun b => Value.ownBlock v3_9 = some b) (by kernel_rfl) ⟨sV, sV, sV, sV, sV, sV, sV, sV, sV, sV, sV, fun _ _ _ hE ⟨b, hz, hs, hM⟩ => ⟨b, hz, hs, hM.ext hE (fun hg => absurd (O3.lt hg).2 (Nat.not_lt.2 hs))⟩, fun _ _ _ hE ⟨hO, hf⟩ => ⟨hO.exn hE, hf⟩, fun _ _ _ hE ⟨hO, hf⟩ => ⟨hO.exn hE, hf⟩, trivial⟩ ⟨mE rfl rfl h3,
 mE rfl rfl h0,
 fun ρz wz hE hA _ ⟨u1, _⟩ => core_call rfl (call_args2 u1 rfl) cf_13 (pensionhand_Pick_ok  _ _ (H_d_.exn (hA rfl)).no hz23),
 fun ρz wz hE hA _ ⟨u2, _⟩ => core_call rfl (call_args2 u2 rfl) cf_6 (pensionplain_Mod_ok  _ _  hz24),
 fun ρz wz hE hA _ ⟨u3, _⟩ => core_val rfl rfl (o_add rfl u3 rfl),
 mE rfl rfl h0,
 fun ρz wz hE hA _ ⟨u5, _⟩ => core_call rfl (call_args2 u5 rfl) cf_13 (pensionhand_Pick_ok  _ _ (H_d_.exn (hA rfl)).no hz25),
 fun ρz wz hE hA _ ⟨u6, _⟩ => core_call rfl (call_args2 u6 rfl) cf_6 (pensionplain_Mod_ok  _ _  hz26),
 fun ρz wz hE hA _ ⟨u7, _⟩ => core_val rfl rfl (o_add rfl u7 rfl),
 fun ρz wz hE hA _ ⟨u4, u8, _⟩ => core_val rfl rfl (o_build (build_parts2 u4 u8) (bd_36_0_1 _ _ _)),
 fun ρz wz hE hA _ ⟨u9, _⟩ => core_val rfl rfl (o_build (bpS rfl (bpS rfl (bpS rfl (bpS rfl (bpS rfl (bpS rfl (bpS u9 bp0))))))) (bd_38_0_1_2_4_5_6_7 _ _ _ _ _ _ _ _)),
 fun ρz wz hE hA _ ⟨u10, _⟩ => core_slice rfl rfl hE (o_buildSlice (build_parts1 u10) (bs_24_1 _ _)),
 fun ρz wz hE hA _ ⟨u0, ⟨bz11, hzn11, hge11, hM11⟩, _⟩ => core_append (n := 14) (cells := api_Fact.cells) (B := w0.heap.size) (w0 := w17) rfl rfl (fun b hb => hb) u0 hzn11 (fun _ => rfl) one_38 si_24 se_38 (by decide) (by decide) (O3.exn (hA rfl)) ⟨_, (Mb.rep (n := 14) (cells := api_Fact.cells) (hn := fun _ => rfl) (G := noG) hM11 rfl (Nat.le_of_ble_eq_true rfl) (fun h => h))⟩ hl9 (Nat.le_trans hW.size hE.size) hE.size (fun v1 w1 h1 h2 => ⟨h1, h2⟩),
 fun ρz wz hE hA _ ⟨⟨hO12, hfr12⟩, _⟩ => core_copy rfl rfl (o_assign rfl) ⟨hO12, hfr12⟩, trivial⟩ ?_
  intro ρ18 w18 hE hN hf hr
  obtain ⟨v3_10, h3⟩ : ∃ v, ρ18 3 = v := ⟨_, rfl⟩
  have hq3 : (fun u wz => Own w0.heap.size 38 14 api_Fact.cells wz u l9 ∧ ∀ b, u.ownBlock = some b → (v3_9.ownBlock = some b ∨ w17.heap.size ≤ b)) (ρ18 3) w18 := hf 13 rfl
  rw [h3] at hq3
  obtain ⟨hq3, hfr3⟩ := hq3
  have Oo_O3 := O3
  have hW := Ext.own hW hE (fun b hb => (Oo_O3.lt hb).1)
  have O3 := hq3
  refine WP.seq (WP.rb mixed [[], [0]] [[3], []] [(162, v3_10), (2, v3_10)] (by kernel_rfl) ⟨mE rfl rfl h3,
 aU rfl rfl rfl, trivial⟩ ?_)
  intro ρ19 w19 hN hf hr
  have h2 := hv hf 1 rfl rfl
  have Oo_O3 := O3
  have hW := hW.trans hN
  have O2 := Oo_O3.exn hN
  refine WP.ret ?_
  show retQ Tryz.prog 163 Tryz.f4 (fun v w1 => Own w0.heap.size 38 14 api_Fact.cells w1 v r ∧ Ext noG w0 w1) .ret ρ19 w19
  obtain rfl := Option.some.inj hF
  exact res1 rfl (by decide) h2 ⟨O2, hW⟩

set_option maxHeartbeats 4000000 in
theorem pensionhand_length_ok {w0 : World} (n_ : Int) {r : Int} (hF : pensionhand_length n_ = some r) :
    Calls Tryz.prog 27 #[.int .i64 n_] w0 fun e w1 => e = .returned (.int .i64 r) ∧ Ext noG w0 w1 := by
  refine (Calls.start (P := Tryz.prog) (args := [.int .i64 n_]) (R := fun v w1 => v = .int .i64 r ∧ Ext noG w0 w1) (n := 27) (w := w0) Tryz.func27 rfl rfl (Nat.le_of_ble_eq_true rfl) (fun ρ hargs => ?_)).mono (fun e w1 ⟨v, he, hv, hE⟩ => ⟨hv ▸ he, hE⟩)
  have h0 := hargs 0 _ rfl
  have hW := Ext.refl noG w0
  rw [pensionhand_length] at hF
  refine WP.seq (WP.rb mixed [[]] [[]] [(2, .int .i64 0)] (by kernel_rfl) ⟨aC rfl rfl (fun _ => rfl), trivial⟩ ?_)
  intro ρ1 w1 hN hf hr
  have h0 := (hr 0 rfl).trans h0
  have hW := hW.trans hN
  refine WP.seq (WP.seq ?_)
  obtain ⟨z, hz, hF⟩ := obind hF
  refine WP.rb mixed [[], [0]] [[0], []] [(3, .int .i64 n_), (4, .int .i64 z)] (by kernel_rfl) ⟨mE rfl rfl h0,
 fun ρz wz hE hA _ ⟨u0, _⟩ => core_call rfl (call_args2 u0 rfl) cf_6 (pensionplain_Mod_ok  _ _  hz), trivial⟩ ?_
  intro ρ2 w2 hN hf hr
  have h4 := hv hf 1 rfl rfl
  have h0 := (hr 0 rfl).trans h0
  have hW := hW.trans hN
  refine WP.block (WP.seq (WP.rb mixed [[], [0]] [[4], []] [(6, .bool (z == 0)), (5, .bool (z == 0))] (by kernel_rfl) ⟨fun ρz wz hE hA ⟨e4, _⟩ _ => core_val rfl rfl (o_eql (e4.trans h4) rfl rfl),
 aU rfl rfl rfl, trivial⟩ ?_))
  intro ρ3 w3 hN hf hr
  have h5 := hv hf 1 rfl rfl
  obtain ⟨h0, h4⟩ := k2 hr h0 h4 rfl
  have hW := hW.trans hN
  refine WP.cond rfl h5 (fun hb => ?_) (fun hb => ?_)
  · have hF := (if_pos hb).symm.trans hF
    refine WP.seq ?_
    obtain ⟨z2, hz2, hF⟩ := obind hF
    refine WP.rb mixed [[], [0], [1], [2], [3]] [[0], [], [], [], []] [(7, .int .i64 n_), (8, .int .i64 (i64 (Int.tdiv n_ 4))), (9, .int .i64 z2), (10, .int .i64 (i64 (1 + z2))), (2, .int .i64 (i64 (1 + z2)))] (by kernel_rfl) ⟨mE rfl rfl h0,
 fun ρz wz hE hA _ ⟨u0, _⟩ => core_val rfl rfl (o_quo u0 rfl (by decide) rfl),
 fun ρz wz hE hA _ ⟨u1, _⟩ => core_call rfl (call_args2 u1 rfl) cf_6 (pensionplain_Mod_ok  _ _  hz2),
 fun ρz wz hE hA _ ⟨u2, _⟩ => core_val rfl rfl (o_add rfl u2 rfl),
 aU rfl rfl rfl, trivial⟩ ?_
    intro ρ4 w4 hN hf hr
    have h2 := hv hf 4 rfl rfl
    have hW := hW.trans hN
    refine WP.ret ?_
    show retQ Tryz.prog 27 Tryz.f27 (fun v w1 => v = .int .i64 r ∧ Ext noG w0 w1) .ret ρ4 w4
    obtain rfl := Option.some.inj hF
    exact res1 rfl (by decide) h2 ⟨rfl, hW⟩
  have hF := (if_neg (Bool.eq_false_iff.1 hb)).symm.trans hF
  refine WP.seq (WP.rb mixed [[], [0]] [[4], []] [(12, .bool (z == 1)), (11, .bool (z == 1))] (by kernel_rfl) ⟨fun ρz wz hE hA ⟨e4, _⟩ _ => core_val rfl rfl (o_eql (e4.trans h4) rfl rfl),
 aU rfl rfl rfl, trivial⟩ ?_)
  intro ρ5 w5 hN hf hr
  have h11 := hv hf 1 rfl rfl
  obtain ⟨h0, h4⟩ := k2 hr h0 h4 rfl
  have hW := hW.trans hN
  refine WP.cond rfl h11 (fun hb => ?_) (fun hb => ?_)
  · have hF := (if_pos hb).symm.trans hF
    refine WP.seq ?_
    obtain ⟨z3, hz3, hF⟩ := obind hF
    refine WP.rb mixed [[], [0], [1], [2], [3]] [[0], [], [], [], []] [(13, .int .i64 n_), (14, .int .i64 (i64 (Int.tdiv n_ 4))), (15, .int .i64 z3), (16, .int .i64 (i64 (1 + z3))), (2, .int .i64 (i64 (1 + z3)))] (by kernel_rfl) ⟨mE rfl rfl h0,
 fun ρz wz hE hA _ ⟨u0, _⟩ => core_val rfl rfl (o_quo u0 rfl (by decide) rfl),
 fun ρz wz hE hA _ ⟨u1, _⟩ => core_call rfl (call_args2 u1 rfl) cf_6 (pensionplain_Mod_ok  _ _  hz3),
 fun ρz wz hE hA _ ⟨u2, _⟩ => core_val rfl rfl (o_add rfl u2 rfl),
 aU rfl rfl rfl, trivial⟩ ?_
    intro ρ6 w6 hN hf hr
    have h2 := hv hf 4 rfl rfl
    have hW := hW.trans hN
    refine WP.ret ?_
    show retQ Tryz.prog 27 Tryz.f27 (fun v w1 => v = .int .i64 r ∧ Ext noG w0 w1) .ret ρ6 w6
    obtain rfl := Option.some.inj hF
    exact res1 rfl (by decide) h2 ⟨rfl, hW⟩
  have hF := (if_neg (Bool.eq_false_iff.1 hb)).symm.trans hF
  refine WP.seq (WP.rb mixed [[], [0]] [[4], []] [(18, .bool (z == 2)), (17, .bool (z == 2))] (by kernel_rfl) ⟨fun ρz wz hE hA ⟨e4, _⟩ _ => core_val rfl rfl (o_eql (e4.trans h4) rfl rfl),
 aU rfl rfl rfl, trivial⟩ ?_)
  intro ρ7 w7 hN hf hr
  have h17 := hv hf 1 rfl rfl
  have h0 := (hr 0 rfl).trans h0
  have hW := hW.trans hN
  refine WP.cond rfl h17 (fun hb => ?_) (fun hb => ?_)
  · have hF := (if_pos hb).symm.trans hF
    refine WP.seq ?_
    obtain ⟨z4, hz4, hF⟩ := obind hF
    refine WP.rb mixed [[], [0], [1], [2], [3]] [[0], [], [], [], []] [(19, .int .i64 n_), (20, .int .i64 (i64 (Int.tdiv n_ 4))), (21, .int .i64 z4), (22, .int .i64 (i64 (1 + z4))), (2, .int .i64 (i64 (1 + z4)))] (by kernel_rfl) ⟨mE rfl rfl h0,
 fun ρz wz hE hA _ ⟨u0, _⟩ => core_val rfl rfl (o_quo u0 rfl (by decide) rfl),
 fun ρz wz hE hA _ ⟨u1, _⟩ => core_call rfl (call_args2 u1 rfl) cf_6 (pensionplain_Mod_ok  _ _  hz4),
 fun ρz wz hE hA _ ⟨u2, _⟩ => core_val rfl rfl (o_add rfl u2 rfl),
 aU rfl rfl rfl, trivial⟩ ?_
    intro ρ8 w8 hN hf hr
    have h2 := hv hf 4 rfl rfl
    have hW := hW.trans hN
    refine WP.ret ?_
    show retQ Tryz.prog 27 Tryz.f27 (fun v w1 => v = .int .i64 r ∧ Ext noG w0 w1) .ret ρ8 w8
    obtain rfl := Option.some.inj hF
    exact res1 rfl (by decide) h2 ⟨rfl, hW⟩
  have hF := (if_neg (Bool.eq_false_iff.1 hb)).symm.trans hF
  refine WP.skip (WP.seq ?_)
  obtain ⟨z5, hz5, hF⟩ := obind hF
  refine WP.rb mixed [[], [0], [1], [2], [3]] [[0], [], [], [], []] [(23, .int .i64 n_), (24, .int .i64 (i64 (Int.tdiv n_ 4))), (25, .int .i64 z5), (26, .int .i64 (i64 (1 + z5))), (2, .int .i64 (i64 (1 + z5)))] (by kernel_rfl) ⟨mE rfl rfl h0,
 fun ρz wz hE hA _ ⟨u0, _⟩ => core_val rfl rfl (o_quo u0 rfl (by decide) rfl),
 fun ρz wz hE hA _ ⟨u1, _⟩ => core_call rfl (call_args2 u1 rfl) cf_6 (pensionplain_Mod_ok  _ _  hz5),
 fun ρz wz hE hA _ ⟨u2, _⟩ => core_val rfl rfl (o_add rfl u2 rfl),
 aU rfl rfl rfl, trivial⟩ ?_
  intro ρ9 w9 hN hf hr
  have h2 := hv hf 4 rfl rfl
  have hW := hW.trans hN
  refine WP.ret ?_
  show retQ Tryz.prog 27 Tryz.f27 (fun v w1 => v = .int .i64 r ∧ Ext noG w0 w1) .ret ρ9 w9
  obtain rfl := Option.some.inj hF
  exact res1 rfl (by decide) h2 ⟨rfl, hW⟩

set_option maxHeartbeats 4000000 in
theorem pensionref12_Uses_ok {w0 : World} (kind_ : Int) {r : ByteArray} (hF : pensionref12_Uses kind_ = some r) :
    Calls Tryz.prog 28 #[.int .i64 kind_] w0 fun e w1 => e = .returned (.string r) ∧ Ext noG w0 w1 := by
  refine (Calls.start (P := Tryz.prog) (args := [.int .i64 kind_]) (R := fun v w1 => v = .string r ∧ Ext noG w0 w1) (n := 17) (w := w0) Tryz.func28 rfl rfl (Nat.le_of_ble_eq_true rfl) (fun ρ hargs => ?_)).mono (fun e w1 ⟨v, he, hv, hE⟩ => ⟨hv ▸ he, hE⟩)
  have h0 := hargs 0 _ rfl
  have hW := Ext.refl noG w0
  rw [pensionref12_Uses] at hF
  refine WP.seq (WP.rb mixed [[]] [[]] [(2, .string str1)] (by kernel_rfl) ⟨aC rfl rfl (fun _ => rfl), trivial⟩ ?_)
  intro ρ1 w1 hN hf hr
  have h0 := (hr 0 rfl).trans h0
  have hW := hW.trans hN
  refine WP.seq (WP.rg mixed [[], [0]] [[], [0]] [[], []] [(4, fun u wz => ∃ b, u = .slice (some ⟨b, 0, none⟩) 15 15 ∧ w1.heap.size ≤ b ∧ Mb wz b 9 (([str1, str2, str3, str3, str4, str5, str6, str5, str5, str5, str7, str8, str8, str8, str9]).flatMap (fun x : ByteArray => [Value.string x]))), (3, fun u wz => ∃ b, u = .slice (some ⟨b, 0, none⟩) 15 15 ∧ w1.heap.size ≤ b ∧ Mb wz b 9 (([str1, str2, str3, str3, str4, str5, str6, str5, str5, str5, str7, str8, str8, str8, str9]).flatMap (fun x : ByteArray => [Value.string x])))] (by kernel_rfl) ⟨fun _ _ _ hE ⟨b, hz, hs, hM⟩ => ⟨b, hz, hs, hM.exn hE⟩, fun _ _ _ hE ⟨b, hz, hs, hM⟩ => ⟨b, hz, hs, hM.exn hE⟩, trivial⟩ ⟨fun ρz wz hE hA _ _ => core_slice rfl rfl hE (o_buildSlice ((bpS rfl (bpS rfl (bpS rfl (bpS rfl (bpS rfl (bpS rfl (bpS rfl (bpS rfl (bpS rfl (bpS rfl (bpS rfl (bpS rfl (bpS rfl (bpS rfl (bpS rfl bp0)))))))))))))))) (bs_84_15 _ _ _ _ _ _ _ _ _ _ _ _ _ _ _ _)),
 fun ρz wz hE hA _ ⟨⟨bz0, hzn0, hge0, hM0⟩, _⟩ => core_copy rfl rfl (o_assign rfl) ⟨bz0, hzn0, hge0, hM0⟩, trivial⟩ ?_)
  intro ρ2 w2 hN hf hr
  obtain ⟨bn3, h3, hgn3, hMn3⟩ : ∃ b, ρ2 3 = .slice (some ⟨b, 0, none⟩) 15 15 ∧ w1.heap.size ≤ b ∧ Mb w2 b 9 (([str1, str2, str3, str3, str4, str5, str6, str5, str5, str5, str7, str8, str8, str8, str9]).flatMap (fun x : ByteArray => [Value.string x])) := hf 1 rfl
  obtain ⟨v3_, hv3⟩ : ∃ v : Value, v = .slice (some ⟨bn3, 0, none⟩) 15 15 := ⟨_, rfl⟩
  rw [← hv3] at h3
  have hq3 : Own w0.heap.size 9 1 (fun x : ByteArray => [Value.string x]) w2 v3_ [str1, str2, str3, str3, str4, str5, str6, str5, str5, str5, str7, str8, str8, str8, str9] := hv3 ▸ hMn3.own (Nat.le_trans hW.size hgn3) rfl (Nat.le_of_ble_eq_true rfl) (fun _ => rfl)
  have hfr3 : ∀ b, v3_.ownBlock = some b → w1.heap.size ≤ b := fun b hb => by rw [hv3] at hb; simp only [Value.ownBlock, Option.some.injEq] at hb; omega
  have h0 := (hr 0 rfl).trans h0
  have hW := hW.trans hN
  have Hf3 : RepSl strR noG w2 v3_ [str1, str2, str3, str3, str4, str5, str6, str5, str5, str5, str7, str8, str8, str8, str9] := hq3.rep (fun _ _ h => h)
  obtain ⟨_, _, hs_Hf3, _, _⟩ := RepSl.shape Hf3
  refine WP.seq (WP.seq (WP.rb mixed [[], [0], [1], [2], [2], [2, 4], [2, 3, 5], [2, 6]] [[0], [], [], [0], [3], [], [], []] [(5, .int .i64 kind_), (6, .bool (decide (kind_ < 1))), (7, .bool (decide (kind_ < 1))), (8, gv (!(decide (kind_ < 1))) (.int .i64 kind_)), (9, gv (!(decide (kind_ < 1))) v3_), (10, gv (!(decide (kind_ < 1))) (.int .i64 ([str1, str2, str3, str3, str4, str5, str6, str5, str5, str5, str7, str8, str8, str8, str9].length : Int))), (11, gv (!(decide (kind_ < 1))) (.bool (decide (([str1, str2, str3, str3, str4, str5, str6, str5, str5, str5, str7, str8, str8, str8, str9].length : Int) ≤ kind_)))), (12, .bool (decide (kind_ < 1) || decide (([str1, str2, str3, str3, str4, str5, str6, str5, str5, str5, str7, str8, str8, str8, str9].length : Int) ≤ kind_)))] (by kernel_rfl) ⟨mE rfl rfl h0,
 fun ρz wz hE hA _ ⟨u0, _⟩ => core_val rfl rfl (o_lss u0 rfl rfl),
 mU rfl rfl rfl,
 fun ρz wz hE hA ⟨e0, _⟩ ⟨u2, _⟩ => gIf rfl rfl (yF rfl u2) fun gc F hF => core_val rfl hF (o_move (e0.trans h0)),
 fun ρz wz hE hA ⟨e3, _⟩ ⟨u2, _⟩ => gIf rfl rfl (yF rfl u2) fun gc F hF => core_val rfl hF (o_move (e3.trans h3)),
 fun ρz wz hE hA _ ⟨u2, u4, _⟩ => gIf rfl rfl (yF rfl u2) fun gc F hF => core_val rfl hF (o_len ((gt gc u4).trans hs_Hf3) len_84),
 fun ρz wz hE hA _ ⟨u2, u3, u5, _⟩ => gIf rfl rfl (yF rfl u2) fun gc F hF => core_val rfl hF (o_geq (gt gc u3) (gt gc u5) rfl),
 fun ρz wz hE hA _ ⟨u2, u6, _⟩ => core_val rfl rfl (o_pick_or u2 rfl u6), trivial⟩ ?_))
  intro ρ3 w3 hN hf hr
  have h12 := hv hf 7 rfl rfl
  obtain ⟨h0, h3⟩ := k2 hr h0 h3 rfl
  have Hf3 := Hf3.exn hN
  have hW := hW.trans hN
  refine WP.cond rfl h12 (fun hb => ?_) (fun hb => ?_)
  · have hF := (if_pos hb).symm.trans hF
    refine WP.seq (WP.rb mixed [[]] [[]] [(2, .string str1)] (by kernel_rfl) ⟨aC rfl rfl (fun _ => rfl), trivial⟩ ?_)
    intro ρ4 w4 hN hf hr
    have h2 := hv hf 0 rfl rfl
    have hW := hW.trans hN
    refine WP.ret ?_
    show retQ Tryz.prog 17 Tryz.f28 (fun v w1 => v = .string r ∧ Ext noG w0 w1) .ret ρ4 w4
    obtain rfl := Option.some.inj hF
    exact res1 rfl (by decide) h2 ⟨rfl, hW⟩
  have hF := (if_neg (Bool.eq_false_iff.1 hb)).symm.trans hF
  refine WP.skip (WP.seq ?_)
  obtain ⟨y, hy, hF⟩ := obind hF
  obtain ⟨ay, cy, hvy, hiy, hAy⟩ := RepSl.getF Hf3 hy
  refine WP.rb mixed [[], [], [0, 1], [2], [3]] [[3], [0], [], [], []] [(13, v3_), (14, .int .i64 kind_), (15, .pointer (some (ay.add (Int.toNat kind_ * 1)))), (16, .string y), (2, .string y)] (by kernel_rfl) ⟨mE rfl rfl h3,
 mE rfl rfl h0,
 fun ρz wz hE hA _ ⟨u0, u1, _⟩ => core_val rfl rfl (o_indexAddr (u0.trans hvy) u1 (ia_84 hiy)),
 fun ρz wz hE hA _ ⟨u2, _⟩ => core_val rfl rfl (o_load u2 (run_load1 (lr_9 _ _) ((hAy.exn (hA rfl)).ca))),
 aU rfl rfl rfl, trivial⟩ ?_
  intro ρ5 w5 hN hf hr
  have h2 := hv hf 4 rfl rfl
  have hW := hW.trans hN
  refine WP.ret ?_
  show retQ Tryz.prog 17 Tryz.f28 (fun v w1 => v = .string r ∧ Ext noG w0 w1) .ret ρ5 w5
  obtain rfl := Option.some.inj hF
  exact res1 rfl (by decide) h2 ⟨rfl, hW⟩

set_option maxHeartbeats 4000000 in
theorem pensionhand_Make_ok {w0 : World} (d_ : pensionhand_Fact) {r : api_Fact} (hF : pensionhand_Make d_ = some r) :
    Calls Tryz.prog 14 #[pensionhand_Fact.val d_] w0 fun e w1 => e = .returned (api_Fact.val r) ∧ Ext noG w0 w1 := by
  refine (Calls.start (P := Tryz.prog) (args := [pensionhand_Fact.val d_]) (R := fun v w1 => v = api_Fact.val r ∧ Ext noG w0 w1) (n := 156) (w := w0) Tryz.func14 rfl rfl (Nat.le_of_ble_eq_true rfl) (fun ρ hargs => ?_)).mono (fun e w1 ⟨v, he, hv, hE⟩ => ⟨hv ▸ he, hE⟩)
  have h0 := hargs 0 _ rfl
  have hW := Ext.refl noG w0
  rw [pensionhand_Make] at hF
  refine WP.seq (WP.regionN mixed ⟨[[], []], [[], []], [[0], []], [], [], [(0, 1), (1, 2)], []⟩ [(1, fun u wz => ∃ b, u = .pointer (some ⟨b, 0, none⟩) ∧ w0.heap.size ≤ b ∧ Mb wz b 41 (pensionhand_Fact.cells d_)), (2, fun u wz => ∃ b, u = .pointer (some ⟨b, 0, none⟩) ∧ w0.heap.size ≤ b ∧ Mb wz b 38 (api_Fact.cells (⟨0, 0, 0, false, 0, 0, 0, (⟨0, 0⟩ : Span), 0, 0, 0, 0, 0⟩ : api_Fact)))] (fun b => w0.heap.size ≤ b) (by kernel_rfl) (.inr (fun _ h => h)) ⟨TStable.box, TStable.box, trivial⟩ ⟨fun ρz wz hE hA ⟨e0, _⟩ _ => core_newN rfl rfl rfl hE (o_box (e0.trans h0) (bx_41 _ _)),
 fun ρz wz hE hA _ _ => core_newN rfl rfl rfl hE (o_alloc (al_38 _)), trivial⟩ ?_)
  intro ρ1 w1 hE hN hf hr hdist
  have hN := hE.fresh
  obtain ⟨b1_, h1, hge_b1_, Hb_b1_⟩ := hf 0 rfl
  obtain ⟨b2_, h2, hge_b2_, Hb_b2_⟩ := hf 1 rfl
  have hB_b1_ : w0.heap.size ≤ b1_ := Nat.le_trans hW.size hge_b1_
  have hB_b2_ : w0.heap.size ≤ b2_ := Nat.le_trans hW.size hge_b2_
  have hne_b1__b2_ : b1_ ≠ b2_ := fun h => hdist (0, 1) (by simp) (1, 2) (by simp) (by decide) b1_ (by rw [h1]; rfl) (by rw [h2, h]; rfl)
  have hW := hW.trans hN
  refine WP.seq ?_
  obtain ⟨z, hz, hF⟩ := obind hF
  obtain ⟨z2, hz2, hF⟩ := obind hF
  obtain ⟨z3, hz3, hF⟩ := obind hF
  refine WP.region mixed [[], [0], [1], [], [3], [4], [5], [], [7], [8], [9], [], [11], [2, 6, 10, 12], [], [13, 14]] [[], [0], [1], [], [3], [4], [5], [], [7], [8], [9], [], [11], [2, 6, 10, 12], [], [13, 14]] [[1], [], [], [1], [], [], [], [1], [], [], [], [1], [], [], [], []] [15] [(14, 15)] [val 8 (.pointer (some ((⟨b1_, 0, none⟩ : Addr).add 0))), val 9 (.int .i64 d_.Issuer), val 10 (.int .i64 z), val 11 (.pointer (some ((⟨b1_, 0, none⟩ : Addr).add 1))), val 12 (.int .i64 d_.Number), val 13 (.int .i64 z2), val 14 (.int .i64 (i64 (1 + z2))), val 15 (.pointer (some ((⟨b1_, 0, none⟩ : Addr).add 2))), val 16 (.int .i64 d_.Version), val 17 (.int .i64 z3), val 18 (.int .i64 (i64 (1 + z3))), val 19 (.pointer (some ((⟨b1_, 0, none⟩ : Addr).add 3))), val 20 (.bool d_.Withdrawn), val 21 (api_Fact.val (⟨z, i64 (1 + z2), i64 (1 + z3), d_.Withdrawn, 0, 0, 0, (⟨0, 0⟩ : Span), 0, 0, 0, 0, 0⟩ : api_Fact)), (3, fun u wz => ∃ b, u = .pointer (some ⟨b, 0, none⟩) ∧ w1.heap.size ≤ b ∧ Mb wz b 38 (api_Fact.cells (⟨0, 0, 0, false, 0, 0, 0, (⟨0, 0⟩ : Span), 0, 0, 0, 0, 0⟩ : api_Fact))), (3, fun u wz => ∃ b, u = .pointer (some ⟨b, 0, none⟩) ∧ w1.heap.size ≤ b ∧ Mb wz b 38 (api_Fact.cells (⟨z, i64 (1 + z2), i64 (1 + z3), d_.Withdrawn, 0, 0, 0, (⟨0, 0⟩ : Span), 0, 0, 0, 0, 0⟩ : api_Fact)))] (fun b => w1.heap.size ≤ b) (by kernel_rfl) ⟨sV, sV, sV, sV, sV, sV, sV, sV, sV, sV, sV, sV, sV, sV, fun _ _ _ hE ⟨b, hb, hs, hM⟩ => ⟨b, hb, hs, hM.exn hE⟩, fun _ _ _ hE ⟨b, hb, hs, hM⟩ => ⟨b, hb, hs, hM.exn hE⟩, trivial⟩ ⟨fun ρz wz hE hA ⟨e1, _⟩ _ => core_val rfl rfl (o_fieldAddr (e1.trans h1) (fa_41_0 _ _)),
 fun ρz wz hE hA _ ⟨u0, _⟩ => core_val rfl rfl (o_load u0 (run_load1 (lr_3 _ _) (CA.sub ((Hb_b1_.exn hE.fresh).ca) 0 1))),
 fun ρz wz hE hA _ ⟨u1, _⟩ => core_call rfl (call_args2 u1 rfl) cf_6 (pensionplain_Mod_ok  _ _  hz),
 fun ρz wz hE hA ⟨e1, _⟩ _ => core_val rfl rfl (o_fieldAddr (e1.trans h1) (fa_41_1 _ _)),
 fun ρz wz hE hA _ ⟨u3, _⟩ => core_val rfl rfl (o_load u3 (run_load1 (lr_3 _ _) (CA.sub ((Hb_b1_.exn hE.fresh).ca) 1 1))),
 fun ρz wz hE hA _ ⟨u4, _⟩ => core_call rfl (call_args2 u4 rfl) cf_6 (pensionplain_Mod_ok  _ _  hz2),
 fun ρz wz hE hA _ ⟨u5, _⟩ => core_val rfl rfl (o_add rfl u5 rfl),
 fun ρz wz hE hA ⟨e1, _⟩ _ => core_val rfl rfl (o_fieldAddr (e1.trans h1) (fa_41_2 _ _)),
 fun ρz wz hE hA _ ⟨u7, _⟩ => core_val rfl rfl (o_load u7 (run_load1 (lr_3 _ _) (CA.sub ((Hb_b1_.exn hE.fresh).ca) 2 1))),
 fun ρz wz hE hA _ ⟨u8, _⟩ => core_call rfl (call_args2 u8 rfl) cf_6 (pensionplain_Mod_ok  _ _  hz3),
 fun ρz wz hE hA _ ⟨u9, _⟩ => core_val rfl rfl (o_add rfl u9 rfl),
 fun ρz wz hE hA ⟨e1, _⟩ _ => core_val rfl rfl (o_fieldAddr (e1.trans h1) (fa_41_3 _ _)),
 fun ρz wz hE hA _ ⟨u11, _⟩ => core_val rfl rfl (o_load u11 (run_load1 (lr_4 _ _) (CA.sub ((Hb_b1_.exn hE.fresh).ca) 3 1))),
 fun ρz wz hE hA _ ⟨u2, u6, u10, u12, _⟩ => core_val rfl rfl (o_build (build_parts4 u2 u6 u10 u12) (bd_38_0_1_2_3 _ _ _ _ _)),
 fun ρz wz hE hA _ _ => core_new rfl rfl hE (o_alloc (al_38 _)),
 fun ρz wz hE hA _ ⟨u13, u14, _⟩ => core_storeNew rfl rfl rfl rfl u13 u14 (fun a w => st_38 _ a w) rfl (one_38 _), trivial⟩ ?_
  intro ρ2 w2 hE hN hf hr
  have hN := hE.fresh
  obtain ⟨b3_, h3, hge_b3_, Hb_b3_⟩ := hf 15 rfl
  obtain ⟨h1, h2⟩ := k2 hr h1 h2 rfl
  have Hb_b1_n := Hb_b1_.exn hN
  have Hb_b2_n := Hb_b2_.exn hN
  have hB_b3_ : w0.heap.size ≤ b3_ := Nat.le_trans hW.size hge_b3_
  have hne_b1__b3_ : b1_ ≠ b3_ := Nat.ne_of_lt (Nat.lt_of_lt_of_le Hb_b1_.lt hge_b3_)
  have hne_b2__b3_ : b2_ ≠ b3_ := Nat.ne_of_lt (Nat.lt_of_lt_of_le Hb_b2_.lt hge_b3_)
  have hW := hW.trans hN
  have Hb_b1_ := Hb_b1_n
  have Hb_b2_ := Hb_b2_n
  refine WP.seq ?_
  obtain ⟨z4, hz4, hF⟩ := obind hF
  obtain ⟨z5, hz5, hF⟩ := obind hF
  refine WP.region mixed [[], [0], [1], [2], [], [4], [5], [6], [], [1, 2, 3, 5, 6, 8], [9], [1, 2, 5, 6, 7, 9, 10]] [[], [0], [1], [2], [], [4], [5], [6], [], [3, 8], [], [7, 9, 10]] [[1], [], [], [], [1], [], [], [], [3], [], [3], []] [9, 11] [(9, 11)] [val 22 (.pointer (some ((⟨b1_, 0, none⟩ : Addr).add 4))), val 23 (.int .i64 d_.Person), val 24 (.int .i64 z4), val 25 (.int .i64 (i64 (1 + z4))), val 26 (.pointer (some ((⟨b1_, 0, none⟩ : Addr).add 5))), val 27 (.int .i64 d_.Kind), val 28 (.int .i64 z5), val 29 (.int .i64 (i64 (1 + z5))), val 30 (.pointer (some ((⟨b3_, 0, none⟩ : Addr).add 4))), (30, fun _ wz => Mb wz b3_ 38 (api_Fact.cells ({ (⟨z, i64 (1 + z2), i64 (1 + z3), d_.Withdrawn, 0, 0, 0, (⟨0, 0⟩ : Span), 0, 0, 0, 0, 0⟩ : api_Fact) with Person := i64 (1 + z4) } : api_Fact))), val 31 (.pointer (some ((⟨b3_, 0, none⟩ : Addr).add 5))), (31, fun _ wz => Mb wz b3_ 38 (api_Fact.cells ({ ({ (⟨z, i64 (1 + z2), i64 (1 + z3), d_.Withdrawn, 0, 0, 0, (⟨0, 0⟩ : Span), 0, 0, 0, 0, 0⟩ : api_Fact) with Person := i64 (1 + z4) } : api_Fact) with Kind := i64 (1 + z5) } : api_Fact)))] (fun x => x = b3_) (by kernel_rfl) ⟨sV, sV, sV, sV, sV, sV, sV, sV, sV, fun _ _ _ hE hM => hM.exn hE, sV, fun _ _ _ hE hM => hM.exn hE, trivial⟩ ⟨fun ρz wz hE hA ⟨e1, _⟩ _ => core_val rfl rfl (o_fieldAddr (e1.trans h1) (fa_41_4 _ _)),
 fun ρz wz hE hA _ ⟨u0, _⟩ => core_val rfl rfl (o_load u0 (run_load1 (lr_3 _ _) (CA.sub ((Hb_b1_.exn (hA rfl)).ca) 4 1))),
 fun ρz wz hE hA _ ⟨u1, _⟩ => core_call rfl (call_args2 u1 rfl) cf_6 (pensionplain_Mod_ok  _ _  hz4),
 fun ρz wz hE hA _ ⟨u2, _⟩ => core_val rfl rfl (o_add rfl u2 rfl),
 fun ρz wz hE hA ⟨e1, _⟩ _ => core_val rfl rfl (o_fieldAddr (e1.trans h1) (fa_41_5 _ _)),
 fun ρz wz hE hA _ ⟨u4, _⟩ => core_val rfl rfl (o_load u4 (run_load1 (lr_3 _ _) (CA.sub ((Hb_b1_.exn (hA rfl)).ca) 5 1))),
 fun ρz wz hE hA _ ⟨u5, _⟩ => core_call rfl (call_args2 u5 rfl) cf_6 (pensionplain_Mod_ok  _ _  hz5),
 fun ρz wz hE hA _ ⟨u6, _⟩ => core_val rfl rfl (o_add rfl u6 rfl),
 fun ρz wz hE hA ⟨e3, _⟩ _ => core_val rfl rfl (o_fieldAddr (e3.trans h3) (fa_38_4 _ _)),
 fun ρz wz hE hA _ ⟨u3, u8, _⟩ => core_storePart (k := 4) (vs := [Value.int .i64 (i64 (1 + z4))]) (cs0 := (api_Fact.cells (⟨z, i64 (1 + z2), i64 (1 + z3), d_.Withdrawn, 0, 0, 0, (⟨0, 0⟩ : Span), 0, 0, 0, 0, 0⟩ : api_Fact))) rfl rfl (fun _ h => h) u8 rfl u3 (Hb_b3_.exn (hA rfl)) (fun a w => st_3 _ a w) (Nat.le_of_ble_eq_true rfl) rfl (one_3 _),
 fun ρz wz hE hA ⟨e3, _⟩ _ => core_val rfl rfl (o_fieldAddr (e3.trans h3) (fa_38_5 _ _)),
 fun ρz wz hE hA _ ⟨u7, u9, u10, _⟩ => core_storePart (k := 5) (vs := [Value.int .i64 (i64 (1 + z5))]) (cs0 := (api_Fact.cells ({ (⟨z, i64 (1 + z2), i64 (1 + z3), d_.Withdrawn, 0, 0, 0, (⟨0, 0⟩ : Span), 0, 0, 0, 0, 0⟩ : api_Fact) with Person := i64 (1 + z4) } : api_Fact))) rfl rfl (fun _ h => h) u10 rfl u7 u9 (fun a w => st_3 _ a w) (Nat.le_of_ble_eq_true rfl) rfl (one_3 _), trivial⟩ ?_
  intro ρ3 w3 hE hN hf hr
  obtain ⟨h1, h2, h3⟩ := k3 hr h1 h2 h3 rfl
  have Hb_b1_n := Hb_b1_.ext hE (fun h => hne_b1__b3_ h)
  have Hb_b2_n := Hb_b2_.ext hE (fun h => hne_b2__b3_ h)
  have Hb_b3_n := hf 11 rfl
  have hW := Ext.own hW hE (fun x h => h.symm ▸ hB_b3_)
  have Hb_b1_ := Hb_b1_n
  have Hb_b2_ := Hb_b2_n
  have Hb_b3_ := Hb_b3_n
  refine WP.seq ?_
  obtain ⟨z6, hz6, hF⟩ := obind hF
  refine WP.rb mixed [[], [0], [1], [2], [3]] [[1], [], [], [], []] [(32, .pointer (some ((⟨b1_, 0, none⟩ : Addr).add 8))), (33, .int .i64 d_.From), (34, .int .i64 z6), (35, .int .i64 (i64 (21900 + z6))), (4, .int .i64 (i64 (21900 + z6)))] (by kernel_rfl) ⟨fun ρz wz hE hA ⟨e1, _⟩ _ => core_val rfl rfl (o_fieldAddr (e1.trans h1) (fa_41_8 _ _)),
 fun ρz wz hE hA _ ⟨u0, _⟩ => core_val rfl rfl (o_load u0 (run_load1 (lr_3 _ _) (CA.sub ((Hb_b1_.exn (hA rfl)).ca) 8 1))),
 fun ρz wz hE hA _ ⟨u1, _⟩ => core_call rfl (call_args2 u1 rfl) cf_6 (pensionplain_Mod_ok  _ _  hz6),
 fun ρz wz hE hA _ ⟨u2, _⟩ => core_val rfl rfl (o_add rfl u2 rfl),
 aU rfl rfl rfl, trivial⟩ ?_
  intro ρ4 w4 hN hf hr
  have h4 := hv hf 4 rfl rfl
  obtain ⟨h1, h2, h3⟩ := k3 hr h1 h2 h3 rfl
  have Hb_b1_n := Hb_b1_.exn hN
  have Hb_b2_n := Hb_b2_.exn hN
  have Hb_b3_n := Hb_b3_.exn hN
  have hW := hW.trans hN
  have Hb_b1_ := Hb_b1_n
  have Hb_b2_ := Hb_b2_n
  have Hb_b3_ := Hb_b3_n
  refine WP.seq ?_
  obtain ⟨z7, hz7, hF⟩ := obind hF
  refine WP.rb mixed [[], [], [1], [2], [0, 3], [4]] [[4], [1], [], [], [], []] [(36, .int .i64 (i64 (21900 + z6))), (37, .pointer (some ((⟨b1_, 0, none⟩ : Addr).add 9))), (38, .int .i64 d_.Length), (39, .int .i64 z7), (40, .int .i64 (i64 (i64 (21900 + z6) + z7))), (5, .int .i64 (i64 (i64 (21900 + z6) + z7)))] (by kernel_rfl) ⟨mE rfl rfl h4,
 fun ρz wz hE hA ⟨e1, _⟩ _ => core_val rfl rfl (o_fieldAddr (e1.trans h1) (fa_41_9 _ _)),
 fun ρz wz hE hA _ ⟨u1, _⟩ => core_val rfl rfl (o_load u1 (run_load1 (lr_3 _ _) (CA.sub ((Hb_b1_.exn (hA rfl)).ca) 9 1))),
 fun ρz wz hE hA _ ⟨u2, _⟩ => core_call rfl (call_args1 u2) cf_27 (pensionhand_length_ok  _  hz7),
 fun ρz wz hE hA _ ⟨u0, u3, _⟩ => core_val rfl rfl (o_add u0 u3 rfl),
 aU rfl rfl rfl, trivial⟩ ?_
  intro ρ5 w5 hN hf hr
  have h5 := hv hf 5 rfl rfl
  obtain ⟨h1, h2, h3, h4⟩ := k4 hr h1 h2 h3 h4 rfl
  have Hb_b1_n := Hb_b1_.exn hN
  have Hb_b2_n := Hb_b2_.exn hN
  have Hb_b3_n := Hb_b3_.exn hN
  have hW := hW.trans hN
  have Hb_b1_ := Hb_b1_n
  have Hb_b2_ := Hb_b2_n
  have Hb_b3_ := Hb_b3_n
  refine WP.seqJ (fun ρ w => ∃ x : Int, ∃ x2 : Int, ρ 1 = .pointer (some ⟨b1_, 0, none⟩) ∧ ρ 2 = .pointer (some ⟨b2_, 0, none⟩) ∧ ρ 3 = .pointer (some ⟨b3_, 0, none⟩) ∧ ρ 4 = .int .i64 x ∧ ρ 5 = .int .i64 x2 ∧ Mb w b1_ 41 (pensionhand_Fact.cells d_) ∧ Mb w b2_ 38 (api_Fact.cells (⟨0, 0, 0, false, 0, 0, 0, (⟨0, 0⟩ : Span), 0, 0, 0, 0, 0⟩ : api_Fact)) ∧ Mb w b3_ 38 (api_Fact.cells ({ ({ (⟨z, i64 (1 + z2), i64 (1 + z3), d_.Withdrawn, 0, 0, 0, (⟨0, 0⟩ : Span), 0, 0, 0, 0, 0⟩ : api_Fact) with Person := i64 (1 + z4) } : api_Fact) with Kind := i64 (1 + z5) } : api_Fact)) ∧ b1_ ≠ b2_ ∧ b1_ ≠ b3_ ∧ b2_ ≠ b3_ ∧ Ext noG w0 w ∧ pensionhand_Make_j d_ z z2 z3 z4 z5 x x2 = some r) ?_ ?_
  · refine WP.seq (WP.rb mixed [[], [0]] [[3], []] [(41, .pointer (some ((⟨b3_, 0, none⟩ : Addr).add 5))), (42, .int .i64 (({ ({ (⟨z, i64 (1 + z2), i64 (1 + z3), d_.Withdrawn, 0, 0, 0, (⟨0, 0⟩ : Span), 0, 0, 0, 0, 0⟩ : api_Fact) with Person := i64 (1 + z4) } : api_Fact) with Kind := i64 (1 + z5) } : api_Fact).Kind))] (by kernel_rfl) ⟨fun ρz wz hE hA ⟨e3, _⟩ _ => core_val rfl rfl (o_fieldAddr (e3.trans h3) (fa_38_5 _ _)),
 fun ρz wz hE hA _ ⟨u0, _⟩ => core_val rfl rfl (o_load u0 (run_load1 (lr_3 _ _) (CA.sub ((Hb_b3_.exn (hA rfl)).ca) 5 1))), trivial⟩ ?_)
    intro ρ32 w32 hN hf hr
    have h42 := hv hf 1 rfl rfl
    obtain ⟨h1, h2, h3, h4, h5⟩ := k5 hr h1 h2 h3 h4 h5 rfl
    have Hb_b1_n := Hb_b1_.exn hN
    have Hb_b2_n := Hb_b2_.exn hN
    have Hb_b3_n := Hb_b3_.exn hN
    have hW := hW.trans hN
    have Hb_b1_ := Hb_b1_n
    have Hb_b2_ := Hb_b2_n
    have Hb_b3_ := Hb_b3_n
    refine WP.block (WP.seq (WP.rb mixed [[], [0]] [[42], []] [(44, .bool (({ ({ (⟨z, i64 (1 + z2), i64 (1 + z3), d_.Withdrawn, 0, 0, 0, (⟨0, 0⟩ : Span), 0, 0, 0, 0, 0⟩ : api_Fact) with Person := i64 (1 + z4) } : api_Fact) with Kind := i64 (1 + z5) } : api_Fact).Kind == 11)), (43, .bool (({ ({ (⟨z, i64 (1 + z2), i64 (1 + z3), d_.Withdrawn, 0, 0, 0, (⟨0, 0⟩ : Span), 0, 0, 0, 0, 0⟩ : api_Fact) with Person := i64 (1 + z4) } : api_Fact) with Kind := i64 (1 + z5) } : api_Fact).Kind == 11))] (by kernel_rfl) ⟨fun ρz wz hE hA ⟨e42, _⟩ _ => core_val rfl rfl (o_eql (e42.trans h42) rfl rfl),
 aU rfl rfl rfl, trivial⟩ ?_))
    intro ρ33 w33 hN hf hr
    have h43 := hv hf 1 rfl rfl
    obtain ⟨h1, h2, h3, h4, h5, h42⟩ := k6 hr h1 h2 h3 h4 h5 h42 rfl
    have Hb_b1_n := Hb_b1_.exn hN
    have Hb_b2_n := Hb_b2_.exn hN
    have Hb_b3_n := Hb_b3_.exn hN
    have hW := hW.trans hN
    have Hb_b1_ := Hb_b1_n
    have Hb_b2_ := Hb_b2_n
    have Hb_b3_ := Hb_b3_n
    refine WP.cond rfl h43 (fun hb => ?_) (fun hb => ?_)
    · have hF := (if_pos hb).symm.trans hF
      refine WP.seq ?_
      obtain ⟨z17, hz17, hF⟩ := obind hF
      refine WP.rb mixed [[], [0], [1], [2], [3]] [[1], [], [], [], []] [(45, .pointer (some ((⟨b1_, 0, none⟩ : Addr).add 8))), (46, .int .i64 d_.From), (47, .int .i64 z17), (48, .int .i64 (i64 (12000 + z17))), (4, .int .i64 (i64 (12000 + z17)))] (by kernel_rfl) ⟨fun ρz wz hE hA ⟨e1, _⟩ _ => core_val rfl rfl (o_fieldAddr (e1.trans h1) (fa_41_8 _ _)),
 fun ρz wz hE hA _ ⟨u0, _⟩ => core_val rfl rfl (o_load u0 (run_load1 (lr_3 _ _) (CA.sub ((Hb_b1_.exn (hA rfl)).ca) 8 1))),
 fun ρz wz hE hA _ ⟨u1, _⟩ => core_call rfl (call_args2 u1 rfl) cf_6 (pensionplain_Mod_ok  _ _  hz17),
 fun ρz wz hE hA _ ⟨u2, _⟩ => core_val rfl rfl (o_add rfl u2 rfl),
 aU rfl rfl rfl, trivial⟩ ?_
      intro ρ34 w34 hN hf hr
      have h4 := hv hf 4 rfl rfl
      obtain ⟨h1, h2, h3⟩ := k3 hr h1 h2 h3 rfl
      have Hb_b1_n := Hb_b1_.exn hN
      have Hb_b2_n := Hb_b2_.exn hN
      have Hb_b3_n := Hb_b3_.exn hN
      have hW := hW.trans hN
      have Hb_b1_ := Hb_b1_n
      have Hb_b2_ := Hb_b2_n
      have Hb_b3_ := Hb_b3_n
      refine WP.rb mixed [[], [0], [1]] [[4], [], []] [(49, .int .i64 (i64 (12000 + z17))), (50, .int .i64 (i64 (i64 (12000 + z17) + 1))), (5, .int .i64 (i64 (i64 (12000 + z17) + 1)))] (by kernel_rfl) ⟨mE rfl rfl h4,
 fun ρz wz hE hA _ ⟨u0, _⟩ => core_val rfl rfl (o_add u0 rfl rfl),
 aU rfl rfl rfl, trivial⟩ ?_
      intro ρ35 w35 hN hf hr
      have h5 := hv hf 2 rfl rfl
      obtain ⟨h1, h2, h3, h4⟩ := k4 hr h1 h2 h3 h4 rfl
      have Hb_b1_n := Hb_b1_.exn hN
      have Hb_b2_n := Hb_b2_.exn hN
      have Hb_b3_n := Hb_b3_.exn hN
      have hW := hW.trans hN
      have Hb_b1_ := Hb_b1_n
      have Hb_b2_ := Hb_b2_n
      have Hb_b3_ := Hb_b3_n
      exact ⟨i64 (12000 + z17), i64 (i64 (12000 + z17) + 1), h1, h2, h3, h4, h5, Hb_b1_, Hb_b2_, Hb_b3_, hne_b1__b2_, hne_b1__b3_, hne_b2__b3_, hW, hF⟩
    have hF := (if_neg (Bool.eq_false_iff.1 hb)).symm.trans hF
    refine WP.seq (WP.rb mixed [[], [0]] [[42], []] [(52, .bool (({ ({ (⟨z, i64 (1 + z2), i64 (1 + z3), d_.Withdrawn, 0, 0, 0, (⟨0, 0⟩ : Span), 0, 0, 0, 0, 0⟩ : api_Fact) with Person := i64 (1 + z4) } : api_Fact) with Kind := i64 (1 + z5) } : api_Fact).Kind == 12)), (51, .bool (({ ({ (⟨z, i64 (1 + z2), i64 (1 + z3), d_.Withdrawn, 0, 0, 0, (⟨0, 0⟩ : Span), 0, 0, 0, 0, 0⟩ : api_Fact) with Person := i64 (1 + z4) } : api_Fact) with Kind := i64 (1 + z5) } : api_Fact).Kind == 12))] (by kernel_rfl) ⟨fun ρz wz hE hA ⟨e42, _⟩ _ => core_val rfl rfl (o_eql (e42.trans h42) rfl rfl),
 aU rfl rfl rfl, trivial⟩ ?_)
    intro ρ36 w36 hN hf hr
    have h51 := hv hf 1 rfl rfl
    obtain ⟨h1, h2, h3, h4, h5, h42⟩ := k6 hr h1 h2 h3 h4 h5 h42 rfl
    have Hb_b1_n := Hb_b1_.exn hN
    have Hb_b2_n := Hb_b2_.exn hN
    have Hb_b3_n := Hb_b3_.exn hN
    have hW := hW.trans hN
    have Hb_b1_ := Hb_b1_n
    have Hb_b2_ := Hb_b2_n
    have Hb_b3_ := Hb_b3_n
    refine WP.cond rfl h51 (fun hb => ?_) (fun hb => ?_)
    · have hF := (if_pos hb).symm.trans hF
      refine WP.seq ?_
      obtain ⟨z18, hz18, hF⟩ := obind hF
      refine WP.rb mixed [[], [0], [1], [2], [3]] [[1], [], [], [], []] [(53, .pointer (some ((⟨b1_, 0, none⟩ : Addr).add 8))), (54, .int .i64 d_.From), (55, .int .i64 z18), (56, .int .i64 (i64 (34000 + z18))), (4, .int .i64 (i64 (34000 + z18)))] (by kernel_rfl) ⟨fun ρz wz hE hA ⟨e1, _⟩ _ => core_val rfl rfl (o_fieldAddr (e1.trans h1) (fa_41_8 _ _)),
 fun ρz wz hE hA _ ⟨u0, _⟩ => core_val rfl rfl (o_load u0 (run_load1 (lr_3 _ _) (CA.sub ((Hb_b1_.exn (hA rfl)).ca) 8 1))),
 fun ρz wz hE hA _ ⟨u1, _⟩ => core_call rfl (call_args2 u1 rfl) cf_6 (pensionplain_Mod_ok  _ _  hz18),
 fun ρz wz hE hA _ ⟨u2, _⟩ => core_val rfl rfl (o_add rfl u2 rfl),
 aU rfl rfl rfl, trivial⟩ ?_
      intro ρ37 w37 hN hf hr
      have h4 := hv hf 4 rfl rfl
      obtain ⟨h1, h2, h3⟩ := k3 hr h1 h2 h3 rfl
      have Hb_b1_n := Hb_b1_.exn hN
      have Hb_b2_n := Hb_b2_.exn hN
      have Hb_b3_n := Hb_b3_.exn hN
      have hW := hW.trans hN
      have Hb_b1_ := Hb_b1_n
      have Hb_b2_ := Hb_b2_n
      have Hb_b3_ := Hb_b3_n
      refine WP.rb mixed [[], [0], [1]] [[4], [], []] [(57, .int .i64 (i64 (34000 + z18))), (58, .int .i64 (i64 (i64 (34000 + z18) + 1))), (5, .int .i64 (i64 (i64 (34000 + z18) + 1)))] (by kernel_rfl) ⟨mE rfl rfl h4,
 fun ρz wz hE hA _ ⟨u0, _⟩ => core_val rfl rfl (o_add u0 rfl rfl),
 aU rfl rfl rfl, trivial⟩ ?_
      intro ρ38 w38 hN hf hr
      have h5 := hv hf 2 rfl rfl
      obtain ⟨h1, h2, h3, h4⟩ := k4 hr h1 h2 h3 h4 rfl
      have Hb_b1_n := Hb_b1_.exn hN
      have Hb_b2_n := Hb_b2_.exn hN
      have Hb_b3_n := Hb_b3_.exn hN
      have hW := hW.trans hN
      have Hb_b1_ := Hb_b1_n
      have Hb_b2_ := Hb_b2_n
      have Hb_b3_ := Hb_b3_n
      exact ⟨i64 (34000 + z18), i64 (i64 (34000 + z18) + 1), h1, h2, h3, h4, h5, Hb_b1_, Hb_b2_, Hb_b3_, hne_b1__b2_, hne_b1__b3_, hne_b2__b3_, hW, hF⟩
    have hF := (if_neg (Bool.eq_false_iff.1 hb)).symm.trans hF
    refine WP.seq (WP.rb mixed [[], [0]] [[42], []] [(60, .bool (({ ({ (⟨z, i64 (1 + z2), i64 (1 + z3), d_.Withdrawn, 0, 0, 0, (⟨0, 0⟩ : Span), 0, 0, 0, 0, 0⟩ : api_Fact) with Person := i64 (1 + z4) } : api_Fact) with Kind := i64 (1 + z5) } : api_Fact).Kind == 8)), (59, .bool (({ ({ (⟨z, i64 (1 + z2), i64 (1 + z3), d_.Withdrawn, 0, 0, 0, (⟨0, 0⟩ : Span), 0, 0, 0, 0, 0⟩ : api_Fact) with Person := i64 (1 + z4) } : api_Fact) with Kind := i64 (1 + z5) } : api_Fact).Kind == 8))] (by kernel_rfl) ⟨fun ρz wz hE hA ⟨e42, _⟩ _ => core_val rfl rfl (o_eql (e42.trans h42) rfl rfl),
 aU rfl rfl rfl, trivial⟩ ?_)
    intro ρ39 w39 hN hf hr
    have h59 := hv hf 1 rfl rfl
    obtain ⟨h1, h2, h3, h4, h5⟩ := k5 hr h1 h2 h3 h4 h5 rfl
    have Hb_b1_n := Hb_b1_.exn hN
    have Hb_b2_n := Hb_b2_.exn hN
    have Hb_b3_n := Hb_b3_.exn hN
    have hW := hW.trans hN
    have Hb_b1_ := Hb_b1_n
    have Hb_b2_ := Hb_b2_n
    have Hb_b3_ := Hb_b3_n
    refine WP.cond rfl h59 (fun hb => ?_) (fun hb => ?_)
    · have hF := (if_pos hb).symm.trans hF
      refine WP.seq ?_
      obtain ⟨z19, hz19, hF⟩ := obind hF
      refine WP.rb mixed [[], [0], [1], [2], [3]] [[1], [], [], [], []] [(61, .pointer (some ((⟨b1_, 0, none⟩ : Addr).add 8))), (62, .int .i64 d_.From), (63, .int .i64 z19), (64, .int .i64 (i64 (34000 + z19))), (4, .int .i64 (i64 (34000 + z19)))] (by kernel_rfl) ⟨fun ρz wz hE hA ⟨e1, _⟩ _ => core_val rfl rfl (o_fieldAddr (e1.trans h1) (fa_41_8 _ _)),
 fun ρz wz hE hA _ ⟨u0, _⟩ => core_val rfl rfl (o_load u0 (run_load1 (lr_3 _ _) (CA.sub ((Hb_b1_.exn (hA rfl)).ca) 8 1))),
 fun ρz wz hE hA _ ⟨u1, _⟩ => core_call rfl (call_args2 u1 rfl) cf_6 (pensionplain_Mod_ok  _ _  hz19),
 fun ρz wz hE hA _ ⟨u2, _⟩ => core_val rfl rfl (o_add rfl u2 rfl),
 aU rfl rfl rfl, trivial⟩ ?_
      intro ρ40 w40 hN hf hr
      have h4 := hv hf 4 rfl rfl
      obtain ⟨h1, h2, h3⟩ := k3 hr h1 h2 h3 rfl
      have Hb_b1_n := Hb_b1_.exn hN
      have Hb_b2_n := Hb_b2_.exn hN
      have Hb_b3_n := Hb_b3_.exn hN
      have hW := hW.trans hN
      have Hb_b1_ := Hb_b1_n
      have Hb_b2_ := Hb_b2_n
      have Hb_b3_ := Hb_b3_n
      obtain ⟨z20, hz20, hF⟩ := obind hF
      refine WP.rb mixed [[], [0], [], [2], [3], [1, 4], [5]] [[4], [], [1], [], [], [], []] [(65, .int .i64 (i64 (34000 + z19))), (66, .int .i64 (i64 (i64 (34000 + z19) + 1))), (67, .pointer (some ((⟨b1_, 0, none⟩ : Addr).add 9))), (68, .int .i64 d_.Length), (69, .int .i64 z20), (70, .int .i64 (i64 (i64 (i64 (34000 + z19) + 1) + z20))), (5, .int .i64 (i64 (i64 (i64 (34000 + z19) + 1) + z20)))] (by kernel_rfl) ⟨mE rfl rfl h4,
 fun ρz wz hE hA _ ⟨u0, _⟩ => core_val rfl rfl (o_add u0 rfl rfl),
 fun ρz wz hE hA ⟨e1, _⟩ _ => core_val rfl rfl (o_fieldAddr (e1.trans h1) (fa_41_9 _ _)),
 fun ρz wz hE hA _ ⟨u2, _⟩ => core_val rfl rfl (o_load u2 (run_load1 (lr_3 _ _) (CA.sub ((Hb_b1_.exn (hA rfl)).ca) 9 1))),
 fun ρz wz hE hA _ ⟨u3, _⟩ => core_call rfl (call_args2 u3 rfl) cf_6 (pensionplain_Mod_ok  _ _  hz20),
 fun ρz wz hE hA _ ⟨u1, u4, _⟩ => core_val rfl rfl (o_add u1 u4 rfl),
 aU rfl rfl rfl, trivial⟩ ?_
      intro ρ41 w41 hN hf hr
      have h5 := hv hf 6 rfl rfl
      obtain ⟨h1, h2, h3, h4⟩ := k4 hr h1 h2 h3 h4 rfl
      have Hb_b1_n := Hb_b1_.exn hN
      have Hb_b2_n := Hb_b2_.exn hN
      have Hb_b3_n := Hb_b3_.exn hN
      have hW := hW.trans hN
      have Hb_b1_ := Hb_b1_n
      have Hb_b2_ := Hb_b2_n
      have Hb_b3_ := Hb_b3_n
      exact ⟨i64 (34000 + z19), i64 (i64 (i64 (34000 + z19) + 1) + z20), h1, h2, h3, h4, h5, Hb_b1_, Hb_b2_, Hb_b3_, hne_b1__b2_, hne_b1__b3_, hne_b2__b3_, hW, hF⟩
    have hF := (if_neg (Bool.eq_false_iff.1 hb)).symm.trans hF
    refine WP.skip ?_
    exact ⟨i64 (21900 + z6), i64 (i64 (21900 + z6) + z7), h1, h2, h3, h4, h5, Hb_b1_, Hb_b2_, Hb_b3_, hne_b1__b2_, hne_b1__b3_, hne_b2__b3_, hW, hF⟩
  rintro ρ6 w6 ⟨x, x2, h1, h2, h3, h4, h5, Hb_b1_, Hb_b2_, Hb_b3_, hne_b1__b2_, hne_b1__b3_, hne_b2__b3_, hW, hF⟩
  rw [pensionhand_Make_j] at hF
  refine WP.seq ?_
  obtain ⟨z8, hz8, hF⟩ := obind hF
  refine WP.rb mixed [[], [0], [1], [2]] [[3], [], [], []] [(71, .pointer (some ((⟨b3_, 0, none⟩ : Addr).add 5))), (72, .int .i64 (({ ({ (⟨z, i64 (1 + z2), i64 (1 + z3), d_.Withdrawn, 0, 0, 0, (⟨0, 0⟩ : Span), 0, 0, 0, 0, 0⟩ : api_Fact) with Person := i64 (1 + z4) } : api_Fact) with Kind := i64 (1 + z5) } : api_Fact).Kind)), (73, .string z8), (6, .string z8)] (by kernel_rfl) ⟨fun ρz wz hE hA ⟨e3, _⟩ _ => core_val rfl rfl (o_fieldAddr (e3.trans h3) (fa_38_5 _ _)),
 fun ρz wz hE hA _ ⟨u0, _⟩ => core_val rfl rfl (o_load u0 (run_load1 (lr_3 _ _) (CA.sub ((Hb_b3_.exn (hA rfl)).ca) 5 1))),
 fun ρz wz hE hA _ ⟨u1, _⟩ => core_call rfl (call_args1 u1) cf_28 (pensionref12_Uses_ok  _  hz8),
 aU rfl rfl rfl, trivial⟩ ?_
  intro ρ7 w7 hN hf hr
  have h6 := hv hf 3 rfl rfl
  obtain ⟨h1, h2, h3, h4, h5⟩ := k5 hr h1 h2 h3 h4 h5 rfl
  have Hb_b1_n := Hb_b1_.exn hN
  have Hb_b2_n := Hb_b2_.exn hN
  have Hb_b3_n := Hb_b3_.exn hN
  have hW := hW.trans hN
  have Hb_b1_ := Hb_b1_n
  have Hb_b2_ := Hb_b2_n
  have Hb_b3_ := Hb_b3_n
  refine WP.seq (WP.seq (WP.rb mixed [[]] [[]] [(7, .int .i64 0)] (by kernel_rfl) ⟨aC rfl rfl (fun _ => rfl), trivial⟩ ?_))
  intro ρ8 w8 hN hf hr
  have h7 := hv hf 0 rfl rfl
  obtain ⟨h1, h2, h3, h4, h5, h6⟩ := k6 hr h1 h2 h3 h4 h5 h6 rfl
  have Hb_b1_n := Hb_b1_.exn hN
  have Hb_b2_n := Hb_b2_.exn hN
  have Hb_b3_n := Hb_b3_.exn hN
  have hW := hW.trans hN
  have Hb_b1_ := Hb_b1_n
  have Hb_b2_ := Hb_b2_n
  have Hb_b3_ := Hb_b3_n
  refine WP.block (WP.loop (fun k_ ρ w => ∃ x3 : Int, ∃ v : api_Fact, ρ 1 = .pointer (some ⟨b1_, 0, none⟩) ∧ ρ 2 = .pointer (some ⟨b2_, 0, none⟩) ∧ ρ 3 = .pointer (some ⟨b3_, 0, none⟩) ∧ ρ 4 = .int .i64 x ∧ ρ 5 = .int .i64 x2 ∧ ρ 6 = .string z8 ∧ ρ 7 = .int .i64 x3 ∧ Mb w b1_ 41 (pensionhand_Fact.cells d_) ∧ Mb w b2_ 38 (api_Fact.cells (⟨0, 0, 0, false, 0, 0, 0, (⟨0, 0⟩ : Span), 0, 0, 0, 0, 0⟩ : api_Fact)) ∧ Mb w b3_ 38 (api_Fact.cells v) ∧ b1_ ≠ b2_ ∧ b1_ ≠ b3_ ∧ b2_ ≠ b3_ ∧ Ext noG w0 w ∧ loopC k_ (pensionhand_Make_l d_ x x2 z8) (x3, v) = some r) FU ⟨0, ({ ({ (⟨z, i64 (1 + z2), i64 (1 + z3), d_.Withdrawn, 0, 0, 0, (⟨0, 0⟩ : Span), 0, 0, 0, 0, 0⟩ : api_Fact) with Person := i64 (1 + z4) } : api_Fact) with Kind := i64 (1 + z5) } : api_Fact), h1, h2, h3, h4, h5, h6, h7, Hb_b1_, Hb_b2_, Hb_b3_, hne_b1__b2_, hne_b1__b3_, hne_b2__b3_, hW, hF⟩ (fun _ _ h => by obtain ⟨_, _, _, _, _, _, _, _, _, _, _, _, _, _, _, _, h⟩ := h; cases h) ?_)
  rintro k_ ρ9 w9 ⟨x3, v, h1, h2, h3, h4, h5, h6, h7, Hb_b1_, Hb_b2_, Hb_b3_, hne_b1__b2_, hne_b1__b3_, hne_b2__b3_, hW, hF⟩
  have hF : pensionhand_Make_l d_ x x2 z8 (loopC k_ (pensionhand_Make_l d_ x x2 z8)) (x3, v) = some r := (loopC_succ k_ (pensionhand_Make_l d_ x x2 z8) (x3, v)).symm.trans hF
  generalize hrec_ : loopC k_ (pensionhand_Make_l d_ x x2 z8) = rec_ at hF
  rw [pensionhand_Make_l] at hF
  refine WP.seq (WP.seq (WP.rb mixed [[], [], [1], [0, 2]] [[7], [6], [], []] [(74, .int .i64 x3), (75, .string z8), (76, .int .i64 (z8.size : Int)), (77, .bool (decide (x3 < (z8.size : Int))))] (by kernel_rfl) ⟨mE rfl rfl h7,
 mE rfl rfl h6,
 fun ρz wz hE hA _ ⟨u1, _⟩ => core_val rfl rfl (o_len u1 len_9),
 fun ρz wz hE hA _ ⟨u0, u2, _⟩ => core_val rfl rfl (o_lss u0 u2 rfl), trivial⟩ ?_))
  intro ρ10 w10 hN hf hr
  have h77 := hv hf 3 rfl rfl
  obtain ⟨h1, h2, h3, h4, h5, h6⟩ := k6 hr h1 h2 h3 h4 h5 h6 rfl
  have h7 := (hr 7 rfl).trans h7
  have Hb_b1_n := Hb_b1_.exn hN
  have Hb_b2_n := Hb_b2_.exn hN
  have Hb_b3_n := Hb_b3_.exn hN
  have hW := hW.trans hN
  have Hb_b1_ := Hb_b1_n
  have Hb_b2_ := Hb_b2_n
  have Hb_b3_ := Hb_b3_n
  refine WP.cond rfl h77 (fun hb => ?_) (fun hb => ?_)
  · have hF := (if_pos hb).symm.trans hF
    refine WP.skip (WP.seqJ (fun ρ w => ∃ v2 : api_Fact, ρ 1 = .pointer (some ⟨b1_, 0, none⟩) ∧ ρ 2 = .pointer (some ⟨b2_, 0, none⟩) ∧ ρ 3 = .pointer (some ⟨b3_, 0, none⟩) ∧ ρ 4 = .int .i64 x ∧ ρ 5 = .int .i64 x2 ∧ ρ 6 = .string z8 ∧ ρ 7 = .int .i64 x3 ∧ Mb w b1_ 41 (pensionhand_Fact.cells d_) ∧ Mb w b2_ 38 (api_Fact.cells (⟨0, 0, 0, false, 0, 0, 0, (⟨0, 0⟩ : Span), 0, 0, 0, 0, 0⟩ : api_Fact)) ∧ Mb w b3_ 38 (api_Fact.cells v2) ∧ b1_ ≠ b2_ ∧ b1_ ≠ b3_ ∧ b2_ ≠ b3_ ∧ Ext noG w0 w ∧ pensionhand_Make_j2 x3 rec_ v2 = some r) ?_ ?_)
    · refine WP.block (WP.seq ?_)
      obtain ⟨y, hy, hF⟩ := obind hF
      refine WP.rb mixed [[], [], [0, 1]] [[6], [7], []] [(80, .string z8), (81, .int .i64 x3), (82, .int .u8 y)] (by kernel_rfl) ⟨mE rfl rfl h6,
 mE rfl rfl h7,
 fun ρz wz hE hA _ ⟨u0, u1, _⟩ => core_val rfl rfl (o_index u0 u1 (by kernel_rfl) hy), trivial⟩ ?_
      intro ρ13 w13 hN hf hr
      have h82 := hv hf 2 rfl rfl
      obtain ⟨h1, h2, h3, h4, h5, h6⟩ := k6 hr h1 h2 h3 h4 h5 h6 rfl
      have h7 := (hr 7 rfl).trans h7
      have Hb_b1_n := Hb_b1_.exn hN
      have Hb_b2_n := Hb_b2_.exn hN
      have Hb_b3_n := Hb_b3_.exn hN
      have hW := hW.trans hN
      have Hb_b1_ := Hb_b1_n
      have Hb_b2_ := Hb_b2_n
      have Hb_b3_ := Hb_b3_n
      refine WP.block (WP.seq (WP.rb mixed [[], [0]] [[82], []] [(99, .bool (y == 83)), (98, .bool (y == 83))] (by kernel_rfl) ⟨fun ρz wz hE hA ⟨e82, _⟩ _ => core_val rfl rfl (o_eql (e82.trans h82) rfl rfl),
 aU rfl rfl rfl, trivial⟩ ?_))
      intro ρ14 w14 hN hf hr
      have h98 := hv hf 1 rfl rfl
      obtain ⟨h1, h2, h3, h4, h5, h6⟩ := k6 hr h1 h2 h3 h4 h5 h6 rfl
      obtain ⟨h7, h82⟩ := k2 hr h7 h82 rfl
      have Hb_b1_n := Hb_b1_.exn hN
      have Hb_b2_n := Hb_b2_.exn hN
      have Hb_b3_n := Hb_b3_.exn hN
      have hW := hW.trans hN
      have Hb_b1_ := Hb_b1_n
      have Hb_b2_ := Hb_b2_n
      have Hb_b3_ := Hb_b3_n
      refine WP.cond rfl h98 (fun hb => ?_) (fun hb => ?_)
      · have hF := (if_pos hb).symm.trans hF
        obtain ⟨z9, hz9, hF⟩ := obind hF
        refine WP.region mixed [[], [0], [1], [], [1, 2, 3]] [[], [0], [1], [], [2, 3]] [[1], [], [], [3], []] [4] [] [val 100 (.pointer (some ((⟨b1_, 0, none⟩ : Addr).add 6))), val 101 (.int .i64 d_.State), val 102 (.int .i64 z9), val 103 (.pointer (some ((⟨b3_, 0, none⟩ : Addr).add 6))), (103, fun _ wz => Mb wz b3_ 38 (api_Fact.cells ({ v with State := z9 } : api_Fact)))] (fun x => x = b3_) (by kernel_rfl) ⟨sV, sV, sV, sV, fun _ _ _ hE hM => hM.exn hE, trivial⟩ ⟨fun ρz wz hE hA ⟨e1, _⟩ _ => core_val rfl rfl (o_fieldAddr (e1.trans h1) (fa_41_6 _ _)),
 fun ρz wz hE hA _ ⟨u0, _⟩ => core_val rfl rfl (o_load u0 (run_load1 (lr_3 _ _) (CA.sub ((Hb_b1_.exn (hA rfl)).ca) 6 1))),
 fun ρz wz hE hA _ ⟨u1, _⟩ => core_call rfl (call_args2 u1 rfl) cf_6 (pensionplain_Mod_ok  _ _  hz9),
 fun ρz wz hE hA ⟨e3, _⟩ _ => core_val rfl rfl (o_fieldAddr (e3.trans h3) (fa_38_6 _ _)),
 fun ρz wz hE hA _ ⟨u2, u3, _⟩ => core_storePart (k := 6) (vs := [Value.int .i64 z9]) (cs0 := (api_Fact.cells v)) rfl rfl (fun _ h => h) u3 rfl u2 (Hb_b3_.exn (hA rfl)) (fun a w => st_3 _ a w) (Nat.le_of_ble_eq_true rfl) rfl (one_3 _), trivial⟩ ?_
        intro ρ15 w15 hE hN hf hr
        obtain ⟨h1, h2, h3, h4, h5, h6⟩ := k6 hr h1 h2 h3 h4 h5 h6 rfl
        have h7 := (hr 7 rfl).trans h7
        have Hb_b1_n := Hb_b1_.ext hE (fun h => hne_b1__b3_ h)
        have Hb_b2_n := Hb_b2_.ext hE (fun h => hne_b2__b3_ h)
        have Hb_b3_n := hf 4 rfl
        have hW := Ext.own hW hE (fun x h => h.symm ▸ hB_b3_)
        have Hb_b1_ := Hb_b1_n
        have Hb_b2_ := Hb_b2_n
        have Hb_b3_ := Hb_b3_n
        exact ⟨({ v with State := z9 } : api_Fact), h1, h2, h3, h4, h5, h6, h7, Hb_b1_, Hb_b2_, Hb_b3_, hne_b1__b2_, hne_b1__b3_, hne_b2__b3_, hW, hF⟩
      have hF := (if_neg (Bool.eq_false_iff.1 hb)).symm.trans hF
      refine WP.seq (WP.rb mixed [[], [0]] [[82], []] [(105, .bool (y == 80)), (104, .bool (y == 80))] (by kernel_rfl) ⟨fun ρz wz hE hA ⟨e82, _⟩ _ => core_val rfl rfl (o_eql (e82.trans h82) rfl rfl),
 aU rfl rfl rfl, trivial⟩ ?_)
      intro ρ16 w16 hN hf hr
      have h104 := hv hf 1 rfl rfl
      obtain ⟨h1, h2, h3, h4, h5, h6⟩ := k6 hr h1 h2 h3 h4 h5 h6 rfl
      obtain ⟨h7, h82⟩ := k2 hr h7 h82 rfl
      have Hb_b1_n := Hb_b1_.exn hN
      have Hb_b2_n := Hb_b2_.exn hN
      have Hb_b3_n := Hb_b3_.exn hN
      have hW := hW.trans hN
      have Hb_b1_ := Hb_b1_n
      have Hb_b2_ := Hb_b2_n
      have Hb_b3_ := Hb_b3_n
      refine WP.cond rfl h104 (fun hb => ?_) (fun hb => ?_)
      · have hF := (if_pos hb).symm.trans hF
        refine WP.region mixed [[], [], [0, 1], [], [2, 3]] [[], [], [0, 1], [], [2, 3]] [[4], [5], [], [3], []] [4] [] [val 106 (.int .i64 x), val 107 (.int .i64 x2), val 108 (Span.val (⟨x, x2⟩ : Span)), val 109 (.pointer (some ((⟨b3_, 0, none⟩ : Addr).add 7))), (109, fun _ wz => Mb wz b3_ 38 (api_Fact.cells ({ v with Span := (⟨x, x2⟩ : Span) } : api_Fact)))] (fun x => x = b3_) (by kernel_rfl) ⟨sV, sV, sV, sV, fun _ _ _ hE hM => hM.exn hE, trivial⟩ ⟨mE rfl rfl h4,
 mE rfl rfl h5,
 fun ρz wz hE hA _ ⟨u0, u1, _⟩ => core_val rfl rfl (o_build (build_parts2 u0 u1) (bd_36_0_1 _ _ _)),
 fun ρz wz hE hA ⟨e3, _⟩ _ => core_val rfl rfl (o_fieldAddr (e3.trans h3) (fa_38_7 _ _)),
 fun ρz wz hE hA _ ⟨u2, u3, _⟩ => core_storePart (k := 7) (vs := (Span.cells (⟨x, x2⟩ : Span))) (cs0 := (api_Fact.cells v)) rfl rfl (fun _ h => h) u3 rfl u2 (Hb_b3_.exn (hA rfl)) (fun a w => st_36 _ a w) (Nat.le_of_ble_eq_true rfl) rfl (one_36 _), trivial⟩ ?_
        intro ρ17 w17 hE hN hf hr
        obtain ⟨h1, h2, h3, h4, h5, h6⟩ := k6 hr h1 h2 h3 h4 h5 h6 rfl
        have h7 := (hr 7 rfl).trans h7
        have Hb_b1_n := Hb_b1_.ext hE (fun h => hne_b1__b3_ h)
        have Hb_b2_n := Hb_b2_.ext hE (fun h => hne_b2__b3_ h)
        have Hb_b3_n := hf 4 rfl
        have hW := Ext.own hW hE (fun x h => h.symm ▸ hB_b3_)
        have Hb_b1_ := Hb_b1_n
        have Hb_b2_ := Hb_b2_n
        have Hb_b3_ := Hb_b3_n
        exact ⟨({ v with Span := (⟨x, x2⟩ : Span) } : api_Fact), h1, h2, h3, h4, h5, h6, h7, Hb_b1_, Hb_b2_, Hb_b3_, hne_b1__b2_, hne_b1__b3_, hne_b2__b3_, hW, hF⟩
      have hF := (if_neg (Bool.eq_false_iff.1 hb)).symm.trans hF
      refine WP.seq (WP.rb mixed [[], [0]] [[82], []] [(111, .bool (y == 84)), (110, .bool (y == 84))] (by kernel_rfl) ⟨fun ρz wz hE hA ⟨e82, _⟩ _ => core_val rfl rfl (o_eql (e82.trans h82) rfl rfl),
 aU rfl rfl rfl, trivial⟩ ?_)
      intro ρ18 w18 hN hf hr
      have h110 := hv hf 1 rfl rfl
      obtain ⟨h1, h2, h3, h4, h5, h6⟩ := k6 hr h1 h2 h3 h4 h5 h6 rfl
      obtain ⟨h7, h82⟩ := k2 hr h7 h82 rfl
      have Hb_b1_n := Hb_b1_.exn hN
      have Hb_b2_n := Hb_b2_.exn hN
      have Hb_b3_n := Hb_b3_.exn hN
      have hW := hW.trans hN
      have Hb_b1_ := Hb_b1_n
      have Hb_b2_ := Hb_b2_n
      have Hb_b3_ := Hb_b3_n
      refine WP.cond rfl h110 (fun hb => ?_) (fun hb => ?_)
      · have hF := (if_pos hb).symm.trans hF
        refine WP.seq ?_
        obtain ⟨z10, hz10, hF⟩ := obind hF
        refine WP.region mixed [[], [0], [1], [], [1, 2, 3]] [[], [0], [1], [], [2, 3]] [[1], [], [], [3], []] [4] [] [val 112 (.pointer (some ((⟨b1_, 0, none⟩ : Addr).add 7))), val 113 (.int .i64 d_.Seat), val 114 (.int .i64 z10), val 115 (.pointer (some ((⟨b3_, 0, none⟩ : Addr).add 9))), (115, fun _ wz => Mb wz b3_ 38 (api_Fact.cells ({ v with Seat := z10 } : api_Fact)))] (fun x => x = b3_) (by kernel_rfl) ⟨sV, sV, sV, sV, fun _ _ _ hE hM => hM.exn hE, trivial⟩ ⟨fun ρz wz hE hA ⟨e1, _⟩ _ => core_val rfl rfl (o_fieldAddr (e1.trans h1) (fa_41_7 _ _)),
 fun ρz wz hE hA _ ⟨u0, _⟩ => core_val rfl rfl (o_load u0 (run_load1 (lr_3 _ _) (CA.sub ((Hb_b1_.exn (hA rfl)).ca) 7 1))),
 fun ρz wz hE hA _ ⟨u1, _⟩ => core_call rfl (call_args2 u1 rfl) cf_6 (pensionplain_Mod_ok  _ _  hz10),
 fun ρz wz hE hA ⟨e3, _⟩ _ => core_val rfl rfl (o_fieldAddr (e3.trans h3) (fa_38_8 _ _)),
 fun ρz wz hE hA _ ⟨u2, u3, _⟩ => core_storePart (k := 9) (vs := [Value.int .i64 z10]) (cs0 := (api_Fact.cells v)) rfl rfl (fun _ h => h) u3 rfl u2 (Hb_b3_.exn (hA rfl)) (fun a w => st_3 _ a w) (Nat.le_of_ble_eq_true rfl) rfl (one_3 _), trivial⟩ ?_
        intro ρ19 w19 hE hN hf hr
        obtain ⟨h1, h2, h3, h4, h5, h6⟩ := k6 hr h1 h2 h3 h4 h5 h6 rfl
        have h7 := (hr 7 rfl).trans h7
        have Hb_b1_n := Hb_b1_.ext hE (fun h => hne_b1__b3_ h)
        have Hb_b2_n := Hb_b2_.ext hE (fun h => hne_b2__b3_ h)
        have Hb_b3_n := hf 4 rfl
        have hW := Ext.own hW hE (fun x h => h.symm ▸ hB_b3_)
        have Hb_b1_ := Hb_b1_n
        have Hb_b2_ := Hb_b2_n
        have Hb_b3_ := Hb_b3_n
        refine WP.seq (WP.rb mixed [[], [0], [1], [2], [3], [3, 4], [3], [3, 6], [3, 5, 7], [3, 8]] [[3], [], [], [], [3], [], [3], [], [], []] [(116, .pointer (some ((⟨b3_, 0, none⟩ : Addr).add 5))), (117, .int .i64 (({ v with Seat := z10 } : api_Fact).Kind)), (118, .bool (({ v with Seat := z10 } : api_Fact).Kind == 4)), (119, .bool (({ v with Seat := z10 } : api_Fact).Kind == 4)), (120, gv ((({ v with Seat := z10 } : api_Fact).Kind == 4)) (.pointer (some ((⟨b3_, 0, none⟩ : Addr).add 9)))), (121, gv ((({ v with Seat := z10 } : api_Fact).Kind == 4)) (.int .i64 (({ v with Seat := z10 } : api_Fact).Seat))), (122, gv ((({ v with Seat := z10 } : api_Fact).Kind == 4)) (.pointer (some ((⟨b3_, 0, none⟩ : Addr).add 6)))), (123, gv ((({ v with Seat := z10 } : api_Fact).Kind == 4)) (.int .i64 (({ v with Seat := z10 } : api_Fact).State))), (124, gv ((({ v with Seat := z10 } : api_Fact).Kind == 4)) (.bool (({ v with Seat := z10 } : api_Fact).Seat == ({ v with Seat := z10 } : api_Fact).State))), (125, .bool ((({ v with Seat := z10 } : api_Fact).Kind == 4) && (({ v with Seat := z10 } : api_Fact).Seat == ({ v with Seat := z10 } : api_Fact).State)))] (by kernel_rfl) ⟨fun ρz wz hE hA ⟨e3, _⟩ _ => core_val rfl rfl (o_fieldAddr (e3.trans h3) (fa_38_5 _ _)),
 fun ρz wz hE hA _ ⟨u0, _⟩ => core_val rfl rfl (o_load u0 (run_load1 (lr_3 _ _) (CA.sub ((Hb_b3_.exn (hA rfl)).ca) 5 1))),
 fun ρz wz hE hA _ ⟨u1, _⟩ => core_val rfl rfl (o_eql u1 rfl rfl),
 mU rfl rfl rfl,
 fun ρz wz hE hA ⟨e3, _⟩ ⟨u3, _⟩ => gIf rfl rfl (yT rfl u3) fun gc F hF => core_val rfl hF (o_fieldAddr (e3.trans h3) (fa_38_8 _ _)),
 fun ρz wz hE hA _ ⟨u3, u4, _⟩ => gIf rfl rfl (yT rfl u3) fun gc F hF => core_val rfl hF (o_load (gt gc u4) (run_load1 (lr_3 _ _) (CA.sub ((Hb_b3_.exn (hA rfl)).ca) 9 1))),
 fun ρz wz hE hA ⟨e3, _⟩ ⟨u3, _⟩ => gIf rfl rfl (yT rfl u3) fun gc F hF => core_val rfl hF (o_fieldAddr (e3.trans h3) (fa_38_6 _ _)),
 fun ρz wz hE hA _ ⟨u3, u6, _⟩ => gIf rfl rfl (yT rfl u3) fun gc F hF => core_val rfl hF (o_load (gt gc u6) (run_load1 (lr_3 _ _) (CA.sub ((Hb_b3_.exn (hA rfl)).ca) 6 1))),
 fun ρz wz hE hA _ ⟨u3, u5, u7, _⟩ => gIf rfl rfl (yT rfl u3) fun gc F hF => core_val rfl hF (o_eql (gt gc u5) (gt gc u7) rfl),
 fun ρz wz hE hA _ ⟨u3, u8, _⟩ => core_val rfl rfl (o_pick_and u3 u8 rfl), trivial⟩ ?_)
        intro ρ20 w20 hN hf hr
        have h125 := hv hf 9 rfl rfl
        obtain ⟨h1, h2, h3, h4, h5, h6⟩ := k6 hr h1 h2 h3 h4 h5 h6 rfl
        have h7 := (hr 7 rfl).trans h7
        have Hb_b1_n := Hb_b1_.exn hN
        have Hb_b2_n := Hb_b2_.exn hN
        have Hb_b3_n := Hb_b3_.exn hN
        have hW := hW.trans hN
        have Hb_b1_ := Hb_b1_n
        have Hb_b2_ := Hb_b2_n
        have Hb_b3_ := Hb_b3_n
        refine WP.cond rfl h125 (fun hb => ?_) (fun hb => ?_)
        · have hF := (if_pos hb).symm.trans hF
          obtain ⟨z11, hz11, hF⟩ := obind hF
          refine WP.region mixed [[], [0], [1], [2], [], [1, 3, 4]] [[], [0], [1], [2], [], [3, 4]] [[3], [], [], [], [3], []] [5] [] [val 126 (.pointer (some ((⟨b3_, 0, none⟩ : Addr).add 6))), val 127 (.int .i64 (({ v with Seat := z10 } : api_Fact).State)), val 128 (.int .i64 (i64 (({ v with Seat := z10 } : api_Fact).State + 1))), val 129 (.int .i64 z11), val 130 (.pointer (some ((⟨b3_, 0, none⟩ : Addr).add 9))), (130, fun _ wz => Mb wz b3_ 38 (api_Fact.cells ({ ({ v with Seat := z10 } : api_Fact) with Seat := z11 } : api_Fact)))] (fun x => x = b3_) (by kernel_rfl) ⟨sV, sV, sV, sV, sV, fun _ _ _ hE hM => hM.exn hE, trivial⟩ ⟨fun ρz wz hE hA ⟨e3, _⟩ _ => core_val rfl rfl (o_fieldAddr (e3.trans h3) (fa_38_6 _ _)),
 fun ρz wz hE hA _ ⟨u0, _⟩ => core_val rfl rfl (o_load u0 (run_load1 (lr_3 _ _) (CA.sub ((Hb_b3_.exn (hA rfl)).ca) 6 1))),
 fun ρz wz hE hA _ ⟨u1, _⟩ => core_val rfl rfl (o_add u1 rfl rfl),
 fun ρz wz hE hA _ ⟨u2, _⟩ => core_call rfl (call_args2 u2 rfl) cf_6 (pensionplain_Mod_ok  _ _  hz11),
 fun ρz wz hE hA ⟨e3, _⟩ _ => core_val rfl rfl (o_fieldAddr (e3.trans h3) (fa_38_8 _ _)),
 fun ρz wz hE hA _ ⟨u3, u4, _⟩ => core_storePart (k := 9) (vs := [Value.int .i64 z11]) (cs0 := (api_Fact.cells ({ v with Seat := z10 } : api_Fact))) rfl rfl (fun _ h => h) u4 rfl u3 (Hb_b3_.exn (hA rfl)) (fun a w => st_3 _ a w) (Nat.le_of_ble_eq_true rfl) rfl (one_3 _), trivial⟩ ?_
          intro ρ21 w21 hE hN hf hr
          obtain ⟨h1, h2, h3, h4, h5, h6⟩ := k6 hr h1 h2 h3 h4 h5 h6 rfl
          have h7 := (hr 7 rfl).trans h7
          have Hb_b1_n := Hb_b1_.ext hE (fun h => hne_b1__b3_ h)
          have Hb_b2_n := Hb_b2_.ext hE (fun h => hne_b2__b3_ h)
          have Hb_b3_n := hf 5 rfl
          have hW := Ext.own hW hE (fun x h => h.symm ▸ hB_b3_)
          have Hb_b1_ := Hb_b1_n
          have Hb_b2_ := Hb_b2_n
          have Hb_b3_ := Hb_b3_n
          exact ⟨({ ({ v with Seat := z10 } : api_Fact) with Seat := z11 } : api_Fact), h1, h2, h3, h4, h5, h6, h7, Hb_b1_, Hb_b2_, Hb_b3_, hne_b1__b2_, hne_b1__b3_, hne_b2__b3_, hW, hF⟩
        have hF := (if_neg (Bool.eq_false_iff.1 hb)).symm.trans hF
        refine WP.skip ?_
        exact ⟨({ v with Seat := z10 } : api_Fact), h1, h2, h3, h4, h5, h6, h7, Hb_b1_, Hb_b2_, Hb_b3_, hne_b1__b2_, hne_b1__b3_, hne_b2__b3_, hW, hF⟩
      have hF := (if_neg (Bool.eq_false_iff.1 hb)).symm.trans hF
      refine WP.seq (WP.rb mixed [[], [0]] [[82], []] [(132, .bool (y == 72)), (131, .bool (y == 72))] (by kernel_rfl) ⟨fun ρz wz hE hA ⟨e82, _⟩ _ => core_val rfl rfl (o_eql (e82.trans h82) rfl rfl),
 aU rfl rfl rfl, trivial⟩ ?_)
      intro ρ22 w22 hN hf hr
      have h131 := hv hf 1 rfl rfl
      obtain ⟨h1, h2, h3, h4, h5, h6⟩ := k6 hr h1 h2 h3 h4 h5 h6 rfl
      obtain ⟨h7, h82⟩ := k2 hr h7 h82 rfl
      have Hb_b1_n := Hb_b1_.exn hN
      have Hb_b2_n := Hb_b2_.exn hN
      have Hb_b3_n := Hb_b3_.exn hN
      have hW := hW.trans hN
      have Hb_b1_ := Hb_b1_n
      have Hb_b2_ := Hb_b2_n
      have Hb_b3_ := Hb_b3_n
      refine WP.cond rfl h131 (fun hb => ?_) (fun hb => ?_)
      · have hF := (if_pos hb).symm.trans hF
        obtain ⟨z12, hz12, hF⟩ := obind hF
        refine WP.region mixed [[], [0], [1], [2], [], [1, 2, 3, 4]] [[], [0], [1], [2], [], [3, 4]] [[1], [], [], [], [3], []] [5] [] [val 133 (.pointer (some ((⟨b1_, 0, none⟩ : Addr).add 10))), val 134 (.int .i64 d_.Share), val 135 (.int .i64 z12), val 136 (.int .i64 (i64 (1 + z12))), val 137 (.pointer (some ((⟨b3_, 0, none⟩ : Addr).add 10))), (137, fun _ wz => Mb wz b3_ 38 (api_Fact.cells ({ v with Share := i64 (1 + z12) } : api_Fact)))] (fun x => x = b3_) (by kernel_rfl) ⟨sV, sV, sV, sV, sV, fun _ _ _ hE hM => hM.exn hE, trivial⟩ ⟨fun ρz wz hE hA ⟨e1, _⟩ _ => core_val rfl rfl (o_fieldAddr (e1.trans h1) (fa_41_10 _ _)),
 fun ρz wz hE hA _ ⟨u0, _⟩ => core_val rfl rfl (o_load u0 (run_load1 (lr_3 _ _) (CA.sub ((Hb_b1_.exn (hA rfl)).ca) 10 1))),
 fun ρz wz hE hA _ ⟨u1, _⟩ => core_call rfl (call_args2 u1 rfl) cf_6 (pensionplain_Mod_ok  _ _  hz12),
 fun ρz wz hE hA _ ⟨u2, _⟩ => core_val rfl rfl (o_add rfl u2 rfl),
 fun ρz wz hE hA ⟨e3, _⟩ _ => core_val rfl rfl (o_fieldAddr (e3.trans h3) (fa_38_9 _ _)),
 fun ρz wz hE hA _ ⟨u3, u4, _⟩ => core_storePart (k := 10) (vs := [Value.int .i64 (i64 (1 + z12))]) (cs0 := (api_Fact.cells v)) rfl rfl (fun _ h => h) u4 rfl u3 (Hb_b3_.exn (hA rfl)) (fun a w => st_3 _ a w) (Nat.le_of_ble_eq_true rfl) rfl (one_3 _), trivial⟩ ?_
        intro ρ23 w23 hE hN hf hr
        obtain ⟨h1, h2, h3, h4, h5, h6⟩ := k6 hr h1 h2 h3 h4 h5 h6 rfl
        have h7 := (hr 7 rfl).trans h7
        have Hb_b1_n := Hb_b1_.ext hE (fun h => hne_b1__b3_ h)
        have Hb_b2_n := Hb_b2_.ext hE (fun h => hne_b2__b3_ h)
        have Hb_b3_n := hf 5 rfl
        have hW := Ext.own hW hE (fun x h => h.symm ▸ hB_b3_)
        have Hb_b1_ := Hb_b1_n
        have Hb_b2_ := Hb_b2_n
        have Hb_b3_ := Hb_b3_n
        exact ⟨({ v with Share := i64 (1 + z12) } : api_Fact), h1, h2, h3, h4, h5, h6, h7, Hb_b1_, Hb_b2_, Hb_b3_, hne_b1__b2_, hne_b1__b3_, hne_b2__b3_, hW, hF⟩
      have hF := (if_neg (Bool.eq_false_iff.1 hb)).symm.trans hF
      refine WP.seq (WP.rb mixed [[], [0]] [[82], []] [(139, .bool (y == 67)), (138, .bool (y == 67))] (by kernel_rfl) ⟨fun ρz wz hE hA ⟨e82, _⟩ _ => core_val rfl rfl (o_eql (e82.trans h82) rfl rfl),
 aU rfl rfl rfl, trivial⟩ ?_)
      intro ρ24 w24 hN hf hr
      have h138 := hv hf 1 rfl rfl
      obtain ⟨h1, h2, h3, h4, h5, h6⟩ := k6 hr h1 h2 h3 h4 h5 h6 rfl
      obtain ⟨h7, h82⟩ := k2 hr h7 h82 rfl
      have Hb_b1_n := Hb_b1_.exn hN
      have Hb_b2_n := Hb_b2_.exn hN
      have Hb_b3_n := Hb_b3_.exn hN
      have hW := hW.trans hN
      have Hb_b1_ := Hb_b1_n
      have Hb_b2_ := Hb_b2_n
      have Hb_b3_ := Hb_b3_n
      refine WP.cond rfl h138 (fun hb => ?_) (fun hb => ?_)
      · have hF := (if_pos hb).symm.trans hF
        obtain ⟨z13, hz13, hF⟩ := obind hF
        refine WP.region mixed [[], [0], [], [2], [3], [1, 4], [5], [6], [], [1, 3, 6, 7, 8]] [[], [0], [], [2], [3], [1, 4], [5], [6], [], [7, 8]] [[1], [], [1], [], [], [], [], [], [3], []] [9] [] [val 140 (.pointer (some ((⟨b1_, 0, none⟩ : Addr).add 7))), val 141 (.int .i64 d_.Seat), val 142 (.pointer (some ((⟨b1_, 0, none⟩ : Addr).add 6))), val 143 (.int .i64 d_.State), val 144 (.int .i64 (Int.tmod d_.State 3)), val 145 (.int .i64 (i64 (d_.Seat + Int.tmod d_.State 3))), val 146 (.int .i64 z13), val 147 (.int .i64 (i64 (1 + z13))), val 148 (.pointer (some ((⟨b3_, 0, none⟩ : Addr).add 11))), (148, fun _ wz => Mb wz b3_ 38 (api_Fact.cells ({ v with Currency := i64 (1 + z13) } : api_Fact)))] (fun x => x = b3_) (by kernel_rfl) ⟨sV, sV, sV, sV, sV, sV, sV, sV, sV, fun _ _ _ hE hM => hM.exn hE, trivial⟩ ⟨fun ρz wz hE hA ⟨e1, _⟩ _ => core_val rfl rfl (o_fieldAddr (e1.trans h1) (fa_41_7 _ _)),
 fun ρz wz hE hA _ ⟨u0, _⟩ => core_val rfl rfl (o_load u0 (run_load1 (lr_3 _ _) (CA.sub ((Hb_b1_.exn (hA rfl)).ca) 7 1))),
 fun ρz wz hE hA ⟨e1, _⟩ _ => core_val rfl rfl (o_fieldAddr (e1.trans h1) (fa_41_6 _ _)),
 fun ρz wz hE hA _ ⟨u2, _⟩ => core_val rfl rfl (o_load u2 (run_load1 (lr_3 _ _) (CA.sub ((Hb_b1_.exn (hA rfl)).ca) 6 1))),
 fun ρz wz hE hA _ ⟨u3, _⟩ => core_val rfl rfl (o_rem u3 rfl (by decide) rfl),
 fun ρz wz hE hA _ ⟨u1, u4, _⟩ => core_val rfl rfl (o_add u1 u4 rfl),
 fun ρz wz hE hA _ ⟨u5, _⟩ => core_call rfl (call_args2 u5 rfl) cf_6 (pensionplain_Mod_ok  _ _  hz13),
 fun ρz wz hE hA _ ⟨u6, _⟩ => core_val rfl rfl (o_add rfl u6 rfl),
 fun ρz wz hE hA ⟨e3, _⟩ _ => core_val rfl rfl (o_fieldAddr (e3.trans h3) (fa_38_10 _ _)),
 fun ρz wz hE hA _ ⟨u7, u8, _⟩ => core_storePart (k := 11) (vs := [Value.int .i64 (i64 (1 + z13))]) (cs0 := (api_Fact.cells v)) rfl rfl (fun _ h => h) u8 rfl u7 (Hb_b3_.exn (hA rfl)) (fun a w => st_3 _ a w) (Nat.le_of_ble_eq_true rfl) rfl (one_3 _), trivial⟩ ?_
        intro ρ25 w25 hE hN hf hr
        obtain ⟨h1, h2, h3, h4, h5, h6⟩ := k6 hr h1 h2 h3 h4 h5 h6 rfl
        have h7 := (hr 7 rfl).trans h7
        have Hb_b1_n := Hb_b1_.ext hE (fun h => hne_b1__b3_ h)
        have Hb_b2_n := Hb_b2_.ext hE (fun h => hne_b2__b3_ h)
        have Hb_b3_n := hf 9 rfl
        have hW := Ext.own hW hE (fun x h => h.symm ▸ hB_b3_)
        have Hb_b1_ := Hb_b1_n
        have Hb_b2_ := Hb_b2_n
        have Hb_b3_ := Hb_b3_n
        exact ⟨({ v with Currency := i64 (1 + z13) } : api_Fact), h1, h2, h3, h4, h5, h6, h7, Hb_b1_, Hb_b2_, Hb_b3_, hne_b1__b2_, hne_b1__b3_, hne_b2__b3_, hW, hF⟩
      have hF := (if_neg (Bool.eq_false_iff.1 hb)).symm.trans hF
      refine WP.seq (WP.rb mixed [[], [0]] [[82], []] [(150, .bool (y == 65)), (149, .bool (y == 65))] (by kernel_rfl) ⟨fun ρz wz hE hA ⟨e82, _⟩ _ => core_val rfl rfl (o_eql (e82.trans h82) rfl rfl),
 aU rfl rfl rfl, trivial⟩ ?_)
      intro ρ26 w26 hN hf hr
      have h149 := hv hf 1 rfl rfl
      obtain ⟨h1, h2, h3, h4, h5, h6⟩ := k6 hr h1 h2 h3 h4 h5 h6 rfl
      have h7 := (hr 7 rfl).trans h7
      have Hb_b1_n := Hb_b1_.exn hN
      have Hb_b2_n := Hb_b2_.exn hN
      have Hb_b3_n := Hb_b3_.exn hN
      have hW := hW.trans hN
      have Hb_b1_ := Hb_b1_n
      have Hb_b2_ := Hb_b2_n
      have Hb_b3_ := Hb_b3_n
      refine WP.cond rfl h149 (fun hb => ?_) (fun hb => ?_)
      · have hF := (if_pos hb).symm.trans hF
        obtain ⟨z14, hz14, hF⟩ := obind hF
        refine WP.region mixed [[], [0], [1], [], [1, 2, 3]] [[], [0], [1], [], [2, 3]] [[1], [], [], [3], []] [4] [] [val 151 (.pointer (some ((⟨b1_, 0, none⟩ : Addr).add 11))), val 152 (.int .i64 d_.Amount), val 153 (.int .i64 z14), val 154 (.pointer (some ((⟨b3_, 0, none⟩ : Addr).add 12))), (154, fun _ wz => Mb wz b3_ 38 (api_Fact.cells ({ v with Amount := z14 } : api_Fact)))] (fun x => x = b3_) (by kernel_rfl) ⟨sV, sV, sV, sV, fun _ _ _ hE hM => hM.exn hE, trivial⟩ ⟨fun ρz wz hE hA ⟨e1, _⟩ _ => core_val rfl rfl (o_fieldAddr (e1.trans h1) (fa_41_11 _ _)),
 fun ρz wz hE hA _ ⟨u0, _⟩ => core_val rfl rfl (o_load u0 (run_load1 (lr_3 _ _) (CA.sub ((Hb_b1_.exn (hA rfl)).ca) 11 1))),
 fun ρz wz hE hA _ ⟨u1, _⟩ => core_call rfl (call_args2 u1 rfl) cf_6 (pensionplain_Mod_ok  _ _  hz14),
 fun ρz wz hE hA ⟨e3, _⟩ _ => core_val rfl rfl (o_fieldAddr (e3.trans h3) (fa_38_11 _ _)),
 fun ρz wz hE hA _ ⟨u2, u3, _⟩ => core_storePart (k := 12) (vs := [Value.int .i64 z14]) (cs0 := (api_Fact.cells v)) rfl rfl (fun _ h => h) u3 rfl u2 (Hb_b3_.exn (hA rfl)) (fun a w => st_3 _ a w) (Nat.le_of_ble_eq_true rfl) rfl (one_3 _), trivial⟩ ?_
        intro ρ27 w27 hE hN hf hr
        obtain ⟨h1, h2, h3, h4, h5, h6⟩ := k6 hr h1 h2 h3 h4 h5 h6 rfl
        have h7 := (hr 7 rfl).trans h7
        have Hb_b1_n := Hb_b1_.ext hE (fun h => hne_b1__b3_ h)
        have Hb_b2_n := Hb_b2_.ext hE (fun h => hne_b2__b3_ h)
        have Hb_b3_n := hf 4 rfl
        have hW := Ext.own hW hE (fun x h => h.symm ▸ hB_b3_)
        have Hb_b1_ := Hb_b1_n
        have Hb_b2_ := Hb_b2_n
        have Hb_b3_ := Hb_b3_n
        exact ⟨({ v with Amount := z14 } : api_Fact), h1, h2, h3, h4, h5, h6, h7, Hb_b1_, Hb_b2_, Hb_b3_, hne_b1__b2_, hne_b1__b3_, hne_b2__b3_, hW, hF⟩
      have hF := (if_neg (Bool.eq_false_iff.1 hb)).symm.trans hF
      refine WP.seq ?_
      obtain ⟨z15, hz15, hF⟩ := obind hF
      refine WP.region mixed [[], [0], [1], [2], [], [1, 2, 3, 4]] [[], [0], [1], [2], [], [3, 4]] [[1], [], [], [], [3], []] [5] [] [val 83 (.pointer (some ((⟨b1_, 0, none⟩ : Addr).add 12))), val 84 (.int .i64 d_.Ref), val 85 (.int .i64 z15), val 86 (.int .i64 (i64 (1 + z15))), val 87 (.pointer (some ((⟨b3_, 0, none⟩ : Addr).add 13))), (87, fun _ wz => Mb wz b3_ 38 (api_Fact.cells ({ v with Ref := i64 (1 + z15) } : api_Fact)))] (fun x => x = b3_) (by kernel_rfl) ⟨sV, sV, sV, sV, sV, fun _ _ _ hE hM => hM.exn hE, trivial⟩ ⟨fun ρz wz hE hA ⟨e1, _⟩ _ => core_val rfl rfl (o_fieldAddr (e1.trans h1) (fa_41_12 _ _)),
 fun ρz wz hE hA _ ⟨u0, _⟩ => core_val rfl rfl (o_load u0 (run_load1 (lr_3 _ _) (CA.sub ((Hb_b1_.exn (hA rfl)).ca) 12 1))),
 fun ρz wz hE hA _ ⟨u1, _⟩ => core_call rfl (call_args2 u1 rfl) cf_6 (pensionplain_Mod_ok  _ _  hz15),
 fun ρz wz hE hA _ ⟨u2, _⟩ => core_val rfl rfl (o_add rfl u2 rfl),
 fun ρz wz hE hA ⟨e3, _⟩ _ => core_val rfl rfl (o_fieldAddr (e3.trans h3) (fa_38_12 _ _)),
 fun ρz wz hE hA _ ⟨u3, u4, _⟩ => core_storePart (k := 13) (vs := [Value.int .i64 (i64 (1 + z15))]) (cs0 := (api_Fact.cells v)) rfl rfl (fun _ h => h) u4 rfl u3 (Hb_b3_.exn (hA rfl)) (fun a w => st_3 _ a w) (Nat.le_of_ble_eq_true rfl) rfl (one_3 _), trivial⟩ ?_
      intro ρ28 w28 hE hN hf hr
      obtain ⟨h1, h2, h3, h4, h5, h6⟩ := k6 hr h1 h2 h3 h4 h5 h6 rfl
      have h7 := (hr 7 rfl).trans h7
      have Hb_b1_n := Hb_b1_.ext hE (fun h => hne_b1__b3_ h)
      have Hb_b2_n := Hb_b2_.ext hE (fun h => hne_b2__b3_ h)
      have Hb_b3_n := hf 5 rfl
      have hW := Ext.own hW hE (fun x h => h.symm ▸ hB_b3_)
      have Hb_b1_ := Hb_b1_n
      have Hb_b2_ := Hb_b2_n
      have Hb_b3_ := Hb_b3_n
      refine WP.seq (WP.rb mixed [[], [0], [], [2], [1, 3]] [[3], [], [3], [], []] [(88, .pointer (some ((⟨b3_, 0, none⟩ : Addr).add 13))), (89, .int .i64 (({ v with Ref := i64 (1 + z15) } : api_Fact).Ref)), (90, .pointer (some ((⟨b3_, 0, none⟩ : Addr).add 4))), (91, .int .i64 (({ v with Ref := i64 (1 + z15) } : api_Fact).Person)), (92, .bool (({ v with Ref := i64 (1 + z15) } : api_Fact).Ref == ({ v with Ref := i64 (1 + z15) } : api_Fact).Person))] (by kernel_rfl) ⟨fun ρz wz hE hA ⟨e3, _⟩ _ => core_val rfl rfl (o_fieldAddr (e3.trans h3) (fa_38_12 _ _)),
 fun ρz wz hE hA _ ⟨u0, _⟩ => core_val rfl rfl (o_load u0 (run_load1 (lr_3 _ _) (CA.sub ((Hb_b3_.exn (hA rfl)).ca) 13 1))),
 fun ρz wz hE hA ⟨e3, _⟩ _ => core_val rfl rfl (o_fieldAddr (e3.trans h3) (fa_38_4 _ _)),
 fun ρz wz hE hA _ ⟨u2, _⟩ => core_val rfl rfl (o_load u2 (run_load1 (lr_3 _ _) (CA.sub ((Hb_b3_.exn (hA rfl)).ca) 4 1))),
 fun ρz wz hE hA _ ⟨u1, u3, _⟩ => core_val rfl rfl (o_eql u1 u3 rfl), trivial⟩ ?_)
      intro ρ29 w29 hN hf hr
      have h92 := hv hf 4 rfl rfl
      obtain ⟨h1, h2, h3, h4, h5, h6⟩ := k6 hr h1 h2 h3 h4 h5 h6 rfl
      have h7 := (hr 7 rfl).trans h7
      have Hb_b1_n := Hb_b1_.exn hN
      have Hb_b2_n := Hb_b2_.exn hN
      have Hb_b3_n := Hb_b3_.exn hN
      have hW := hW.trans hN
      have Hb_b1_ := Hb_b1_n
      have Hb_b2_ := Hb_b2_n
      have Hb_b3_ := Hb_b3_n
      refine WP.cond rfl h92 (fun hb => ?_) (fun hb => ?_)
      · have hF := (if_pos hb).symm.trans hF
        obtain ⟨z16, hz16, hF⟩ := obind hF
        refine WP.region mixed [[], [0], [1], [2], [], [1, 2, 3, 4]] [[], [0], [1], [2], [], [3, 4]] [[3], [], [], [], [3], []] [5] [] [val 93 (.pointer (some ((⟨b3_, 0, none⟩ : Addr).add 4))), val 94 (.int .i64 (({ v with Ref := i64 (1 + z15) } : api_Fact).Person)), val 95 (.int .i64 z16), val 96 (.int .i64 (i64 (1 + z16))), val 97 (.pointer (some ((⟨b3_, 0, none⟩ : Addr).add 13))), (97, fun _ wz => Mb wz b3_ 38 (api_Fact.cells ({ ({ v with Ref := i64 (1 + z15) } : api_Fact) with Ref := i64 (1 + z16) } : api_Fact)))] (fun x => x = b3_) (by kernel_rfl) ⟨sV, sV, sV, sV, sV, fun _ _ _ hE hM => hM.exn hE, trivial⟩ ⟨fun ρz wz hE hA ⟨e3, _⟩ _ => core_val rfl rfl (o_fieldAddr (e3.trans h3) (fa_38_4 _ _)),
 fun ρz wz hE hA _ ⟨u0, _⟩ => core_val rfl rfl (o_load u0 (run_load1 (lr_3 _ _) (CA.sub ((Hb_b3_.exn (hA rfl)).ca) 4 1))),
 fun ρz wz hE hA _ ⟨u1, _⟩ => core_call rfl (call_args2 u1 rfl) cf_6 (pensionplain_Mod_ok  _ _  hz16),
 fun ρz wz hE hA _ ⟨u2, _⟩ => core_val rfl rfl (o_add rfl u2 rfl),
 fun ρz wz hE hA ⟨e3, _⟩ _ => core_val rfl rfl (o_fieldAddr (e3.trans h3) (fa_38_12 _ _)),
 fun ρz wz hE hA _ ⟨u3, u4, _⟩ => core_storePart (k := 13) (vs := [Value.int .i64 (i64 (1 + z16))]) (cs0 := (api_Fact.cells ({ v with Ref := i64 (1 + z15) } : api_Fact))) rfl rfl (fun _ h => h) u4 rfl u3 (Hb_b3_.exn (hA rfl)) (fun a w => st_3 _ a w) (Nat.le_of_ble_eq_true rfl) rfl (one_3 _), trivial⟩ ?_
        intro ρ30 w30 hE hN hf hr
        obtain ⟨h1, h2, h3, h4, h5, h6⟩ := k6 hr h1 h2 h3 h4 h5 h6 rfl
        have h7 := (hr 7 rfl).trans h7
        have Hb_b1_n := Hb_b1_.ext hE (fun h => hne_b1__b3_ h)
        have Hb_b2_n := Hb_b2_.ext hE (fun h => hne_b2__b3_ h)
        have Hb_b3_n := hf 5 rfl
        have hW := Ext.own hW hE (fun x h => h.symm ▸ hB_b3_)
        have Hb_b1_ := Hb_b1_n
        have Hb_b2_ := Hb_b2_n
        have Hb_b3_ := Hb_b3_n
        exact ⟨({ ({ v with Ref := i64 (1 + z15) } : api_Fact) with Ref := i64 (1 + z16) } : api_Fact), h1, h2, h3, h4, h5, h6, h7, Hb_b1_, Hb_b2_, Hb_b3_, hne_b1__b2_, hne_b1__b3_, hne_b2__b3_, hW, hF⟩
      have hF := (if_neg (Bool.eq_false_iff.1 hb)).symm.trans hF
      refine WP.skip ?_
      exact ⟨({ v with Ref := i64 (1 + z15) } : api_Fact), h1, h2, h3, h4, h5, h6, h7, Hb_b1_, Hb_b2_, Hb_b3_, hne_b1__b2_, hne_b1__b3_, hne_b2__b3_, hW, hF⟩
    rintro ρ11 w11 ⟨v2, h1, h2, h3, h4, h5, h6, h7, Hb_b1_, Hb_b2_, Hb_b3_, hne_b1__b2_, hne_b1__b3_, hne_b2__b3_, hW, hF⟩
    rw [pensionhand_Make_j2] at hF
    refine WP.rv mixed [[], [0], [0, 1]] [[], [0], [1]] [[7], [], []] [(78, .int .i64 x3), (79, .int .i64 (i64 (x3 + 1))), (7, .int .i64 (i64 (x3 + 1)))] (by kernel_rfl) ⟨mE rfl rfl h7,
 fun ρz wz hE hA _ ⟨u0, _⟩ => core_val rfl rfl (o_add u0 rfl rfl),
 aU rfl rfl rfl, trivial⟩ ?_
    intro ρ12 w12 hN hf hr
    have h7 := hv hf 2 rfl rfl
    obtain ⟨h1, h2, h3, h4, h5, h6⟩ := k6 hr h1 h2 h3 h4 h5 h6 rfl
    have Hb_b1_n := Hb_b1_.exn hN
    have Hb_b2_n := Hb_b2_.exn hN
    have Hb_b3_n := Hb_b3_.exn hN
    have hW := hW.trans hN
    have Hb_b1_ := Hb_b1_n
    have Hb_b2_ := Hb_b2_n
    have Hb_b3_ := Hb_b3_n
    exact ⟨i64 (x3 + 1), v2, h1, h2, h3, h4, h5, h6, h7, Hb_b1_, Hb_b2_, Hb_b3_, hne_b1__b2_, hne_b1__b3_, hne_b2__b3_, hW, (by first | exact hF | (rw [hrec_]; exact hF))⟩
  have hF := (if_neg (Bool.eq_false_iff.1 hb)).symm.trans hF
  refine WP.exit (thenQ_exit (thenQ_exit (blockQ_hit (WP.seq (WP.region mixed [[], [0]] [[], [0]] [[3], [2]] [1] [] [val 155 (api_Fact.val v), (2, fun _ wz => Mb wz b2_ 38 (api_Fact.cells v))] (fun x => x = b2_) (by kernel_rfl) ⟨sV, fun _ _ _ hE hM => hM.exn hE, trivial⟩ ⟨fun ρz wz hE hA ⟨e3, _⟩ _ => core_val rfl rfl (o_load (e3.trans h3) (run_loadN (cs := (api_Fact.cells v)) (lr_38 _ _) rfl ((Hb_b3_.exn (hA rfl)).ca))),
 fun ρz wz hE hA ⟨e2, _⟩ ⟨u0, _⟩ => core_storeBox rfl rfl (fun _ h => h) (e2.trans h2) u0 (Hb_b2_.exn (hA rfl)) (fun a w => st_38 _ a w) rfl (one_38 _), trivial⟩ ?_)))))
  intro ρ31 w31 hE hN hf hr
  have h2 := (hr 2 rfl).trans h2
  have Hb_b2_n := hf 1 rfl
  have hW := Ext.own hW hE (fun x h => h.symm ▸ hB_b2_)
  have Hb_b2_ := Hb_b2_n
  refine WP.ret ?_
  show retQ Tryz.prog 156 Tryz.f14 (fun v w1 => v = api_Fact.val r ∧ Ext noG w0 w1) .ret ρ31 w31
  obtain rfl := Option.some.inj hF
  exact resC rfl (by decide) h2 (run_loadN (cs := (api_Fact.cells v)) (lr_38 _ _) rfl Hb_b2_.ca) ⟨rfl, hW⟩

set_option maxHeartbeats 4000000 in
theorem pensionhand_Facts_ok {w0 : World} (l_ : List pensionhand_Fact) {v_l_ : Value} (H_l_ : RepSl pensionhand_Fact.R noG w0 v_l_ l_) {r : (List api_Fact)} (hF : pensionhand_Facts l_ = some r) :
    Calls Tryz.prog 5 #[v_l_] w0 fun e w1 => ∃ v, e = .returned v ∧ Ext noG w0 w1 ∧ Own w0.heap.size 38 14 api_Fact.cells w1 v r := by
  refine (Calls.start (P := Tryz.prog) (args := [v_l_]) (R := fun v w1 => Own w0.heap.size 38 14 api_Fact.cells w1 v r ∧ Ext noG w0 w1) (n := 24) (w := w0) Tryz.func5 rfl rfl (Nat.le_of_ble_eq_true rfl) (fun ρ hargs => ?_)).mono (fun e w1 ⟨v, he, hv, hE⟩ => ⟨v, he, hE, hv⟩)
  have h0 := hargs 0 _ rfl
  have hW := Ext.refl noG w0
  obtain ⟨_, _, hs_H_l_, _, _⟩ := RepSl.shape H_l_
  have H_l_ := H_l_.start
  rw [pensionhand_Facts] at hF
  refine WP.seq (WP.rb mixed [[]] [[]] [(2, .slice none 0 0)] (by kernel_rfl) ⟨aC rfl rfl (fun _ => rfl), trivial⟩ ?_)
  intro ρ1 w1 hN hf hr
  have h0 := (hr 0 rfl).trans h0
  have H_l_ := H_l_.exn hN
  have hW := hW.trans hN
  refine WP.seq (WP.rb mixed [[]] [[]] [(3, .slice none 0 0)] (by kernel_rfl) ⟨aC rfl rfl (fun _ => rfl), trivial⟩ ?_)
  intro ρ2 w2 hN hf hr
  have h3 : ρ2 3 = .slice none 0 0 := hf 0 rfl
  have O3 : Own w0.heap.size 38 14 api_Fact.cells w2 (.slice none 0 0) [] := Own.nil _ _ _ _ _
  have h0 := (hr 0 rfl).trans h0
  have H_l_ := H_l_.exn hN
  have hW := hW.trans hN
  have O3 : Own w0.heap.size 38 14 api_Fact.cells w2 (.slice none 0 0) [] := Own.nil _ _ _ _ _
  refine WP.seq (WP.seq (WP.rb mixed [[]] [[]] [(4, .int .i64 0)] (by kernel_rfl) ⟨aC rfl rfl (fun _ => rfl), trivial⟩ ?_))
  intro ρ3 w3 hN hf hr
  have h4 := hv hf 0 rfl rfl
  obtain ⟨h0, h3⟩ := k2 hr h0 h3 rfl
  have Oo_O3 := O3
  have H_l_ := H_l_.exn hN
  have hW := hW.trans hN
  have O3 : Own w0.heap.size 38 14 api_Fact.cells w3 (.slice none 0 0) [] := Own.nil _ _ _ _ _
  refine WP.block (WP.loop (fun k_ ρ w => ∃ out_ : List api_Fact, ∃ i_ : Int, ∃ v3_ : Value, ρ 0 = v_l_ ∧ ρ 3 = v3_ ∧ ρ 4 = .int .i64 i_ ∧ RepSl pensionhand_Fact.R (gfr noG w0) w v_l_ l_ ∧ Own w0.heap.size 38 14 api_Fact.cells w v3_ out_ ∧ Ext noG w0 w ∧ loopC k_ (pensionhand_Facts_l l_) (out_, i_) = some r) FU ⟨[], 0, .slice none 0 0, h0, h3, h4, H_l_, O3, hW, hF⟩ (fun _ _ h => by obtain ⟨_, _, _, _, _, _, _, _, _, h⟩ := h; cases h) ?_)
  rintro k_ ρ4 w4 ⟨out_, i_, v3_, h0, h3, h4, H_l_, O3, hW, hF⟩
  have hF : pensionhand_Facts_l l_ (loopC k_ (pensionhand_Facts_l l_)) (out_, i_) = some r := (loopC_succ k_ (pensionhand_Facts_l l_) (out_, i_)).symm.trans hF
  generalize hrec_ : loopC k_ (pensionhand_Facts_l l_) = rec_ at hF
  rw [pensionhand_Facts_l] at hF
  refine WP.seq (WP.seq (WP.rb mixed [[], [], [1], [0, 2], [3], [4], [4, 5], [4, 6]] [[4], [0], [], [], [], [4], [], []] [(5, .int .i64 i_), (6, v_l_), (7, .int .i64 (l_.length : Int)), (8, .bool (decide (i_ < (l_.length : Int)))), (9, .bool (decide (i_ < (l_.length : Int)))), (10, gv (decide (i_ < (l_.length : Int))) (.int .i64 i_)), (11, gv (decide (i_ < (l_.length : Int))) (.bool (decide (i_ < 12)))), (12, .bool (decide (i_ < (l_.length : Int)) && decide (i_ < 12)))] (by kernel_rfl) ⟨mE rfl rfl h4,
 mE rfl rfl h0,
 fun ρz wz hE hA _ ⟨u1, _⟩ => core_val rfl rfl (o_len (u1.trans hs_H_l_) len_23),
 fun ρz wz hE hA _ ⟨u0, u2, _⟩ => core_val rfl rfl (o_lss u0 u2 rfl),
 mU rfl rfl rfl,
 fun ρz wz hE hA ⟨e4, _⟩ ⟨u4, _⟩ => gIf rfl rfl (yT rfl u4) fun gc F hF => core_val rfl hF (o_move (e4.trans h4)),
 fun ρz wz hE hA _ ⟨u4, u5, _⟩ => gIf rfl rfl (yT rfl u4) fun gc F hF => core_val rfl hF (o_lss (gt gc u5) rfl rfl),
 fun ρz wz hE hA _ ⟨u4, u6, _⟩ => core_val rfl rfl (o_pick_and u4 u6 rfl), trivial⟩ ?_))
  intro ρ5 w5 hN hf hr
  have h12 := hv hf 7 rfl rfl
  obtain ⟨h0, h3, h4⟩ := k3 hr h0 h3 h4 rfl
  have Oo_O3 := O3
  have H_l_ := H_l_.exn hN
  have hW := hW.trans hN
  have O3 := Oo_O3.exn hN
  refine WP.cond rfl h12 (fun hb => ?_) (fun hb => ?_)
  · have hF := (if_pos hb).symm.trans hF
    refine WP.skip (WP.seq (WP.block ?_))
    obtain ⟨y, hy, hF⟩ := obind hF
    obtain ⟨ay, cy, hvy, hiy, hAy⟩ := RepSl.getF H_l_ hy
    obtain ⟨z, hz, hF⟩ := obind hF
    obtain ⟨l, hl, hF⟩ := obind hF
    refine WP.region mixed [[], [], [], [1, 2], [3], [4], [4, 5], [0, 4, 5, 6], [0, 7]] [[], [], [], [1, 2], [3], [4], [5], [0, 6], [7]] [[3], [0], [4], [], [], [], [], [], []] [7] [] [val 15 (v3_), val 16 (v_l_), val 17 (.int .i64 i_), val 18 (.pointer (some (ay.add (Int.toNat i_ * 13)))), val 19 (pensionhand_Fact.val y), val 20 (api_Fact.val z), (21, fun u wz => ∃ b, u = .slice (some ⟨b, 0, none⟩) 1 1 ∧ w5.heap.size ≤ b ∧ Mb wz b 38 (([z]).flatMap api_Fact.cells)), (22, fun u wz => Own w0.heap.size 38 14 api_Fact.cells wz u l ∧ ∀ b, u.ownBlock = some b → (v3_.ownBlock = some b ∨ w5.heap.size ≤ b)), (3, fun u wz => Own w0.heap.size 38 14 api_Fact.cells wz u l ∧ ∀ b, u.ownBlock = some b → (v3_.ownBlock = some b ∨ w5.heap.size ≤ b))] (fun b => Value.ownBlock v3_ = some b) (by kernel_rfl) ⟨sV, sV, sV, sV, sV, sV, fun _ _ _ hE ⟨b, hz, hs, hM⟩ => ⟨b, hz, hs, hM.ext hE (fun hg => absurd (O3.lt hg).2 (Nat.not_lt.2 hs))⟩, fun _ _ _ hE ⟨hO, hf⟩ => ⟨hO.exn hE, hf⟩, fun _ _ _ hE ⟨hO, hf⟩ => ⟨hO.exn hE, hf⟩, trivial⟩ ⟨mE rfl rfl h3,
 mE rfl rfl h0,
 mE rfl rfl h4,
 fun ρz wz hE hA _ ⟨u1, u2, _⟩ => core_val rfl rfl (o_indexAddr (u1.trans hvy) u2 (ia_23 hiy)),
 fun ρz wz hE hA _ ⟨u3, _⟩ => core_val rfl rfl (o_load u3 (run_loadN (cs := (pensionhand_Fact.cells y)) (lr_41 _ _) rfl ((hAy.exn (hA rfl)).ca))),
 fun ρz wz hE hA _ ⟨u4, _⟩ => core_call rfl (call_args1 u4) cf_14 (pensionhand_Make_ok  _  hz),
 fun ρz wz hE hA _ ⟨u5, _⟩ => core_slice rfl rfl hE (o_buildSlice (build_parts1 u5) (bs_24_1 _ _)),
 fun ρz wz hE hA _ ⟨u0, ⟨bz6, hzn6, hge6, hM6⟩, _⟩ => core_append (n := 14) (cells := api_Fact.cells) (B := w0.heap.size) (w0 := w5) rfl rfl (fun b hb => hb) u0 hzn6 (fun _ => rfl) one_38 si_24 se_38 (by decide) (by decide) (O3.exn (hA rfl)) ⟨_, (Mb.rep (n := 14) (cells := api_Fact.cells) (hn := fun _ => rfl) (G := noG) hM6 rfl (Nat.le_of_ble_eq_true rfl) (fun h => h))⟩ hl (Nat.le_trans hW.size hE.size) hE.size (fun v1 w1 h1 h2 => ⟨h1, h2⟩),
 fun ρz wz hE hA _ ⟨⟨hO7, hfr7⟩, _⟩ => core_copy rfl rfl (o_assign rfl) ⟨hO7, hfr7⟩, trivial⟩ ?_
    intro ρ6 w6 hE hN hf hr
    obtain ⟨v3_2, h3⟩ : ∃ v, ρ6 3 = v := ⟨_, rfl⟩
    have hq3 : (fun u wz => Own w0.heap.size 38 14 api_Fact.cells wz u l ∧ ∀ b, u.ownBlock = some b → (v3_.ownBlock = some b ∨ w5.heap.size ≤ b)) (ρ6 3) w6 := hf 8 rfl
    rw [h3] at hq3
    obtain ⟨hq3, hfr3⟩ := hq3
    obtain ⟨h0, h4⟩ := k2 hr h0 h4 rfl
    have Oo_O3 := O3
    have H_l_ := H_l_.over hE (fun b hb => (Oo_O3.lt hb).1)
    have hW := Ext.own hW hE (fun b hb => (Oo_O3.lt hb).1)
    have O3 := hq3
    refine WP.rv mixed [[], [0], [0, 1]] [[], [0], [1]] [[4], [], []] [(13, .int .i64 i_), (14, .int .i64 (i64 (i_ + 1))), (4, .int .i64 (i64 (i_ + 1)))] (by kernel_rfl) ⟨mE rfl rfl h4,
 fun ρz wz hE hA _ ⟨u0, _⟩ => core_val rfl rfl (o_add u0 rfl rfl),
 aU rfl rfl rfl, trivial⟩ ?_
    intro ρ7 w7 hN hf hr
    have h4 := hv hf 2 rfl rfl
    obtain ⟨h0, h3⟩ := k2 hr h0 h3 rfl
    have Oo_O3 := O3
    have H_l_ := H_l_.exn hN
    have hW := hW.trans hN
    have O3 := Oo_O3.exn hN
    exact ⟨l, i64 (i_ + 1), v3_2, h0, h3, h4, H_l_, O3, hW, (by first | exact hF | (rw [hrec_]; exact hF))⟩
  have hF := (if_neg (Bool.eq_false_iff.1 hb)).symm.trans hF
  refine WP.exit (thenQ_exit (thenQ_exit (blockQ_hit (WP.seq (WP.rb mixed [[], [0]] [[3], []] [(23, v3_), (2, v3_)] (by kernel_rfl) ⟨mE rfl rfl h3,
 aU rfl rfl rfl, trivial⟩ ?_)))))
  intro ρ8 w8 hN hf hr
  have h2 := hv hf 1 rfl rfl
  have Oo_O3 := O3
  have hW := hW.trans hN
  have O2 := Oo_O3.exn hN
  refine WP.ret ?_
  show retQ Tryz.prog 24 Tryz.f5 (fun v w1 => Own w0.heap.size 38 14 api_Fact.cells w1 v r ∧ Ext noG w0 w1) .ret ρ8 w8
  obtain rfl := Option.some.inj hF
  exact res1 rfl (by decide) h2 ⟨O2, hW⟩

set_option maxHeartbeats 4000000 in
theorem fact_Uses_ok {w0 : World} (kind_ : Int) {r : ByteArray} (hF : fact_Uses kind_ = some r) :
    Calls Tryz.prog 90 #[.int .i64 kind_] w0 fun e w1 => e = .returned (.string r) ∧ Ext noG w0 w1 := by
  refine (Calls.start (P := Tryz.prog) (args := [.int .i64 kind_]) (R := fun v w1 => v = .string r ∧ Ext noG w0 w1) (n := 26) (w := w0) Tryz.func90 rfl rfl (Nat.le_of_ble_eq_true rfl) (fun ρ hargs => ?_)).mono (fun e w1 ⟨v, he, hv, hE⟩ => ⟨hv ▸ he, hE⟩)
  have h0 := hargs 0 _ rfl
  have hW := Ext.refl noG w0
  rw [fact_Uses] at hF
  refine WP.seq (WP.rb mixed [[]] [[]] [(2, .string str1)] (by kernel_rfl) ⟨aC rfl rfl (fun _ => rfl), trivial⟩ ?_)
  intro ρ1 w1 hN hf hr
  have h0 := (hr 0 rfl).trans h0
  have hW := hW.trans hN
  refine WP.seq (WP.seq (WP.rb mixed [[]] [[0]] [(3, .int .i64 kind_)] (by kernel_rfl) ⟨mE rfl rfl h0, trivial⟩ ?_))
  intro ρ2 w2 hN hf hr
  have h3 := hv hf 0 rfl rfl
  have hW := hW.trans hN
  refine WP.block (WP.seq (WP.rb mixed [[], [0]] [[3], []] [(5, .bool (kind_ == 1)), (4, .bool (kind_ == 1))] (by kernel_rfl) ⟨fun ρz wz hE hA ⟨e3, _⟩ _ => core_val rfl rfl (o_eql (e3.trans h3) rfl rfl),
 aU rfl rfl rfl, trivial⟩ ?_))
  intro ρ3 w3 hN hf hr
  have h4 := hv hf 1 rfl rfl
  have h3 := (hr 3 rfl).trans h3
  have hW := hW.trans hN
  refine WP.cond rfl h4 (fun hb => ?_) (fun hb => ?_)
  · have hF := (if_pos hb).symm.trans hF
    refine WP.seq (WP.rb mixed [[]] [[]] [(2, .string str2)] (by kernel_rfl) ⟨aC rfl rfl (fun _ => rfl), trivial⟩ ?_)
    intro ρ4 w4 hN hf hr
    have h2 := hv hf 0 rfl rfl
    have hW := hW.trans hN
    refine WP.ret ?_
    show retQ Tryz.prog 26 Tryz.f90 (fun v w1 => v = .string r ∧ Ext noG w0 w1) .ret ρ4 w4
    obtain rfl := Option.some.inj hF
    exact res1 rfl (by decide) h2 ⟨rfl, hW⟩
  have hF := (if_neg (Bool.eq_false_iff.1 hb)).symm.trans hF
  refine WP.seqJ (fun ρ w => ∃ x : Bool, ρ 3 = .int .i64 kind_ ∧ ρ 6 = .bool x ∧ Ext noG w0 w ∧ fact_Uses_j kind_ x = some r) ?_ ?_
  · refine WP.seq (WP.rb mixed [[], [0]] [[3], []] [(7, .bool (kind_ == 2)), (6, .bool (kind_ == 2))] (by kernel_rfl) ⟨fun ρz wz hE hA ⟨e3, _⟩ _ => core_val rfl rfl (o_eql (e3.trans h3) rfl rfl),
 aU rfl rfl rfl, trivial⟩ ?_)
    intro ρ27 w27 hN hf hr
    have h6 := hv hf 1 rfl rfl
    have h3 := (hr 3 rfl).trans h3
    have hW := hW.trans hN
    refine WP.cond rfl h6 (fun hb => ?_) (fun hb => ?_)
    · have hF := (if_pos hb).symm.trans hF
      refine WP.skip ?_
      exact ⟨(kind_ == 2), h3, h6, hW, hF⟩
    have hF := (if_neg (Bool.eq_false_iff.1 hb)).symm.trans hF
    refine WP.rb mixed [[], [0]] [[3], []] [(8, .bool (kind_ == 3)), (6, .bool (kind_ == 3))] (by kernel_rfl) ⟨fun ρz wz hE hA ⟨e3, _⟩ _ => core_val rfl rfl (o_eql (e3.trans h3) rfl rfl),
 aU rfl rfl rfl, trivial⟩ ?_
    intro ρ28 w28 hN hf hr
    have h6 := hv hf 1 rfl rfl
    have h3 := (hr 3 rfl).trans h3
    have hW := hW.trans hN
    exact ⟨(kind_ == 3), h3, h6, hW, hF⟩
  rintro ρ5 w5 ⟨x, h3, h6, hW, hF⟩
  rw [fact_Uses_j] at hF
  refine WP.cond rfl h6 (fun hb => ?_) (fun hb => ?_)
  · have hF := (if_pos hb).symm.trans hF
    refine WP.seq (WP.rb mixed [[]] [[]] [(2, .string str3)] (by kernel_rfl) ⟨aC rfl rfl (fun _ => rfl), trivial⟩ ?_)
    intro ρ6 w6 hN hf hr
    have h2 := hv hf 0 rfl rfl
    have hW := hW.trans hN
    refine WP.ret ?_
    show retQ Tryz.prog 26 Tryz.f90 (fun v w1 => v = .string r ∧ Ext noG w0 w1) .ret ρ6 w6
    obtain rfl := Option.some.inj hF
    exact res1 rfl (by decide) h2 ⟨rfl, hW⟩
  have hF := (if_neg (Bool.eq_false_iff.1 hb)).symm.trans hF
  refine WP.seq (WP.rb mixed [[], [0]] [[3], []] [(10, .bool (kind_ == 4)), (9, .bool (kind_ == 4))] (by kernel_rfl) ⟨fun ρz wz hE hA ⟨e3, _⟩ _ => core_val rfl rfl (o_eql (e3.trans h3) rfl rfl),
 aU rfl rfl rfl, trivial⟩ ?_)
  intro ρ7 w7 hN hf hr
  have h9 := hv hf 1 rfl rfl
  have h3 := (hr 3 rfl).trans h3
  have hW := hW.trans hN
  refine WP.cond rfl h9 (fun hb => ?_) (fun hb => ?_)
  · have hF := (if_pos hb).symm.trans hF
    refine WP.seq (WP.rb mixed [[]] [[]] [(2, .string str4)] (by kernel_rfl) ⟨aC rfl rfl (fun _ => rfl), trivial⟩ ?_)
    intro ρ8 w8 hN hf hr
    have h2 := hv hf 0 rfl rfl
    have hW := hW.trans hN
    refine WP.ret ?_
    show retQ Tryz.prog 26 Tryz.f90 (fun v w1 => v = .string r ∧ Ext noG w0 w1) .ret ρ8 w8
    obtain rfl := Option.some.inj hF
    exact res1 rfl (by decide) h2 ⟨rfl, hW⟩
  have hF := (if_neg (Bool.eq_false_iff.1 hb)).symm.trans hF
  refine WP.seqJ (fun ρ w => ∃ x2 : Bool, ρ 3 = .int .i64 kind_ ∧ ρ 11 = .bool x2 ∧ Ext noG w0 w ∧ fact_Uses_j2 kind_ x2 = some r) ?_ ?_
  · refine WP.seq (WP.rb mixed [[], [0]] [[3], []] [(12, .bool (kind_ == 5)), (11, .bool (kind_ == 5))] (by kernel_rfl) ⟨fun ρz wz hE hA ⟨e3, _⟩ _ => core_val rfl rfl (o_eql (e3.trans h3) rfl rfl),
 aU rfl rfl rfl, trivial⟩ ?_)
    intro ρ23 w23 hN hf hr
    have h11 := hv hf 1 rfl rfl
    have h3 := (hr 3 rfl).trans h3
    have hW := hW.trans hN
    refine WP.cond rfl h11 (fun hb => ?_) (fun hb => ?_)
    · have hF := (if_pos hb).symm.trans hF
      refine WP.skip ?_
      exact ⟨(kind_ == 5), h3, h11, hW, hF⟩
    have hF := (if_neg (Bool.eq_false_iff.1 hb)).symm.trans hF
    refine WP.seq (WP.rb mixed [[], [0]] [[3], []] [(13, .bool (kind_ == 7)), (11, .bool (kind_ == 7))] (by kernel_rfl) ⟨fun ρz wz hE hA ⟨e3, _⟩ _ => core_val rfl rfl (o_eql (e3.trans h3) rfl rfl),
 aU rfl rfl rfl, trivial⟩ ?_)
    intro ρ24 w24 hN hf hr
    have h11 := hv hf 1 rfl rfl
    have h3 := (hr 3 rfl).trans h3
    have hW := hW.trans hN
    refine WP.cond rfl h11 (fun hb => ?_) (fun hb => ?_)
    · have hF := (if_pos hb).symm.trans hF
      refine WP.skip ?_
      exact ⟨(kind_ == 7), h3, h11, hW, hF⟩
    have hF := (if_neg (Bool.eq_false_iff.1 hb)).symm.trans hF
    refine WP.seq (WP.rb mixed [[], [0]] [[3], []] [(14, .bool (kind_ == 8)), (11, .bool (kind_ == 8))] (by kernel_rfl) ⟨fun ρz wz hE hA ⟨e3, _⟩ _ => core_val rfl rfl (o_eql (e3.trans h3) rfl rfl),
 aU rfl rfl rfl, trivial⟩ ?_)
    intro ρ25 w25 hN hf hr
    have h11 := hv hf 1 rfl rfl
    have h3 := (hr 3 rfl).trans h3
    have hW := hW.trans hN
    refine WP.cond rfl h11 (fun hb => ?_) (fun hb => ?_)
    · have hF := (if_pos hb).symm.trans hF
      refine WP.skip ?_
      exact ⟨(kind_ == 8), h3, h11, hW, hF⟩
    have hF := (if_neg (Bool.eq_false_iff.1 hb)).symm.trans hF
    refine WP.rb mixed [[], [0]] [[3], []] [(15, .bool (kind_ == 9)), (11, .bool (kind_ == 9))] (by kernel_rfl) ⟨fun ρz wz hE hA ⟨e3, _⟩ _ => core_val rfl rfl (o_eql (e3.trans h3) rfl rfl),
 aU rfl rfl rfl, trivial⟩ ?_
    intro ρ26 w26 hN hf hr
    have h11 := hv hf 1 rfl rfl
    have h3 := (hr 3 rfl).trans h3
    have hW := hW.trans hN
    exact ⟨(kind_ == 9), h3, h11, hW, hF⟩
  rintro ρ9 w9 ⟨x2, h3, h11, hW, hF⟩
  rw [fact_Uses_j2] at hF
  refine WP.cond rfl h11 (fun hb => ?_) (fun hb => ?_)
  · have hF := (if_pos hb).symm.trans hF
    refine WP.seq (WP.rb mixed [[]] [[]] [(2, .string str5)] (by kernel_rfl) ⟨aC rfl rfl (fun _ => rfl), trivial⟩ ?_)
    intro ρ10 w10 hN hf hr
    have h2 := hv hf 0 rfl rfl
    have hW := hW.trans hN
    refine WP.ret ?_
    show retQ Tryz.prog 26 Tryz.f90 (fun v w1 => v = .string r ∧ Ext noG w0 w1) .ret ρ10 w10
    obtain rfl := Option.some.inj hF
    exact res1 rfl (by decide) h2 ⟨rfl, hW⟩
  have hF := (if_neg (Bool.eq_false_iff.1 hb)).symm.trans hF
  refine WP.seq (WP.rb mixed [[], [0]] [[3], []] [(17, .bool (kind_ == 6)), (16, .bool (kind_ == 6))] (by kernel_rfl) ⟨fun ρz wz hE hA ⟨e3, _⟩ _ => core_val rfl rfl (o_eql (e3.trans h3) rfl rfl),
 aU rfl rfl rfl, trivial⟩ ?_)
  intro ρ11 w11 hN hf hr
  have h16 := hv hf 1 rfl rfl
  have h3 := (hr 3 rfl).trans h3
  have hW := hW.trans hN
  refine WP.cond rfl h16 (fun hb => ?_) (fun hb => ?_)
  · have hF := (if_pos hb).symm.trans hF
    refine WP.seq (WP.rb mixed [[]] [[]] [(2, .string str6)] (by kernel_rfl) ⟨aC rfl rfl (fun _ => rfl), trivial⟩ ?_)
    intro ρ12 w12 hN hf hr
    have h2 := hv hf 0 rfl rfl
    have hW := hW.trans hN
    refine WP.ret ?_
    show retQ Tryz.prog 26 Tryz.f90 (fun v w1 => v = .string r ∧ Ext noG w0 w1) .ret ρ12 w12
    obtain rfl := Option.some.inj hF
    exact res1 rfl (by decide) h2 ⟨rfl, hW⟩
  have hF := (if_neg (Bool.eq_false_iff.1 hb)).symm.trans hF
  refine WP.seq (WP.rb mixed [[], [0]] [[3], []] [(19, .bool (kind_ == 10)), (18, .bool (kind_ == 10))] (by kernel_rfl) ⟨fun ρz wz hE hA ⟨e3, _⟩ _ => core_val rfl rfl (o_eql (e3.trans h3) rfl rfl),
 aU rfl rfl rfl, trivial⟩ ?_)
  intro ρ13 w13 hN hf hr
  have h18 := hv hf 1 rfl rfl
  have h3 := (hr 3 rfl).trans h3
  have hW := hW.trans hN
  refine WP.cond rfl h18 (fun hb => ?_) (fun hb => ?_)
  · have hF := (if_pos hb).symm.trans hF
    refine WP.seq (WP.rb mixed [[]] [[]] [(2, .string str7)] (by kernel_rfl) ⟨aC rfl rfl (fun _ => rfl), trivial⟩ ?_)
    intro ρ14 w14 hN hf hr
    have h2 := hv hf 0 rfl rfl
    have hW := hW.trans hN
    refine WP.ret ?_
    show retQ Tryz.prog 26 Tryz.f90 (fun v w1 => v = .string r ∧ Ext noG w0 w1) .ret ρ14 w14
    obtain rfl := Option.some.inj hF
    exact res1 rfl (by decide) h2 ⟨rfl, hW⟩
  have hF := (if_neg (Bool.eq_false_iff.1 hb)).symm.trans hF
  refine WP.seqJ (fun ρ w => ∃ x3 : Bool, ρ 3 = .int .i64 kind_ ∧ ρ 20 = .bool x3 ∧ Ext noG w0 w ∧ fact_Uses_j3 kind_ x3 = some r) ?_ ?_
  · refine WP.seq (WP.rb mixed [[], [0]] [[3], []] [(21, .bool (kind_ == 11)), (20, .bool (kind_ == 11))] (by kernel_rfl) ⟨fun ρz wz hE hA ⟨e3, _⟩ _ => core_val rfl rfl (o_eql (e3.trans h3) rfl rfl),
 aU rfl rfl rfl, trivial⟩ ?_)
    intro ρ20 w20 hN hf hr
    have h20 := hv hf 1 rfl rfl
    have h3 := (hr 3 rfl).trans h3
    have hW := hW.trans hN
    refine WP.cond rfl h20 (fun hb => ?_) (fun hb => ?_)
    · have hF := (if_pos hb).symm.trans hF
      refine WP.skip ?_
      exact ⟨(kind_ == 11), h3, h20, hW, hF⟩
    have hF := (if_neg (Bool.eq_false_iff.1 hb)).symm.trans hF
    refine WP.seq (WP.rb mixed [[], [0]] [[3], []] [(22, .bool (kind_ == 12)), (20, .bool (kind_ == 12))] (by kernel_rfl) ⟨fun ρz wz hE hA ⟨e3, _⟩ _ => core_val rfl rfl (o_eql (e3.trans h3) rfl rfl),
 aU rfl rfl rfl, trivial⟩ ?_)
    intro ρ21 w21 hN hf hr
    have h20 := hv hf 1 rfl rfl
    have h3 := (hr 3 rfl).trans h3
    have hW := hW.trans hN
    refine WP.cond rfl h20 (fun hb => ?_) (fun hb => ?_)
    · have hF := (if_pos hb).symm.trans hF
      refine WP.skip ?_
      exact ⟨(kind_ == 12), h3, h20, hW, hF⟩
    have hF := (if_neg (Bool.eq_false_iff.1 hb)).symm.trans hF
    refine WP.rb mixed [[], [0]] [[3], []] [(23, .bool (kind_ == 13)), (20, .bool (kind_ == 13))] (by kernel_rfl) ⟨fun ρz wz hE hA ⟨e3, _⟩ _ => core_val rfl rfl (o_eql (e3.trans h3) rfl rfl),
 aU rfl rfl rfl, trivial⟩ ?_
    intro ρ22 w22 hN hf hr
    have h20 := hv hf 1 rfl rfl
    have h3 := (hr 3 rfl).trans h3
    have hW := hW.trans hN
    exact ⟨(kind_ == 13), h3, h20, hW, hF⟩
  rintro ρ15 w15 ⟨x3, h3, h20, hW, hF⟩
  rw [fact_Uses_j3] at hF
  refine WP.cond rfl h20 (fun hb => ?_) (fun hb => ?_)
  · have hF := (if_pos hb).symm.trans hF
    refine WP.seq (WP.rb mixed [[]] [[]] [(2, .string str8)] (by kernel_rfl) ⟨aC rfl rfl (fun _ => rfl), trivial⟩ ?_)
    intro ρ16 w16 hN hf hr
    have h2 := hv hf 0 rfl rfl
    have hW := hW.trans hN
    refine WP.ret ?_
    show retQ Tryz.prog 26 Tryz.f90 (fun v w1 => v = .string r ∧ Ext noG w0 w1) .ret ρ16 w16
    obtain rfl := Option.some.inj hF
    exact res1 rfl (by decide) h2 ⟨rfl, hW⟩
  have hF := (if_neg (Bool.eq_false_iff.1 hb)).symm.trans hF
  refine WP.seq (WP.rb mixed [[], [0]] [[3], []] [(25, .bool (kind_ == 14)), (24, .bool (kind_ == 14))] (by kernel_rfl) ⟨fun ρz wz hE hA ⟨e3, _⟩ _ => core_val rfl rfl (o_eql (e3.trans h3) rfl rfl),
 aU rfl rfl rfl, trivial⟩ ?_)
  intro ρ17 w17 hN hf hr
  have h24 := hv hf 1 rfl rfl
  have hW := hW.trans hN
  refine WP.cond rfl h24 (fun hb => ?_) (fun hb => ?_)
  · have hF := (if_pos hb).symm.trans hF
    refine WP.seq (WP.rb mixed [[]] [[]] [(2, .string str9)] (by kernel_rfl) ⟨aC rfl rfl (fun _ => rfl), trivial⟩ ?_)
    intro ρ18 w18 hN hf hr
    have h2 := hv hf 0 rfl rfl
    have hW := hW.trans hN
    refine WP.ret ?_
    show retQ Tryz.prog 26 Tryz.f90 (fun v w1 => v = .string r ∧ Ext noG w0 w1) .ret ρ18 w18
    obtain rfl := Option.some.inj hF
    exact res1 rfl (by decide) h2 ⟨rfl, hW⟩
  have hF := (if_neg (Bool.eq_false_iff.1 hb)).symm.trans hF
  refine WP.skip (WP.seq (WP.rb mixed [[]] [[]] [(2, .string str1)] (by kernel_rfl) ⟨aC rfl rfl (fun _ => rfl), trivial⟩ ?_))
  intro ρ19 w19 hN hf hr
  have h2 := hv hf 0 rfl rfl
  have hW := hW.trans hN
  refine WP.ret ?_
  show retQ Tryz.prog 26 Tryz.f90 (fun v w1 => v = .string r ∧ Ext noG w0 w1) .ret ρ19 w19
  obtain rfl := Option.some.inj hF
  exact res1 rfl (by decide) h2 ⟨rfl, hW⟩

theorem strings_Contains_ok {w0 : World} (s_ sub_ : ByteArray) {r : Bool} (hF : strings_Contains s_ sub_ = some r) :
    Calls Tryz.prog 92 #[.string s_, .string sub_] w0 fun e w1 => e = .returned (.bool r) ∧ Ext noG w0 w1 := contains_calls Go.Proofs.Tryz.containsLay92 hF w0

set_option maxHeartbeats 4000000 in
theorem fact_Valid_1_ok {w0 : World} (letter_ : ByteArray) (c_ : ByteArray) {bc1_ : Nat} (Hb_bc1_ : Mb w0 bc1_ 9 [Value.string c_]) {r : Bool} (hF : fact_Valid_1 letter_ c_ = some r) :
    Calls Tryz.prog 91 #[.string letter_, .pointer (some ⟨bc1_, 0, none⟩)] w0 fun e w1 => e = .returned (.bool r) ∧ Ext noG w0 w1 := by
  refine (Calls.start (P := Tryz.prog) (args := [.string letter_, .pointer (some ⟨bc1_, 0, none⟩)]) (R := fun v w1 => v = .bool r ∧ Ext noG w0 w1) (n := 7) (w := w0) Tryz.func91 rfl rfl (Nat.le_of_ble_eq_true rfl) (fun ρ hargs => ?_)).mono (fun e w1 ⟨v, he, hv, hE⟩ => ⟨hv ▸ he, hE⟩)
  have h0 := hargs 0 _ rfl
  have h1 := hargs 1 _ rfl
  have hW := Ext.refl noG w0
  rw [fact_Valid_1] at hF
  refine WP.seq (WP.rb mixed [[]] [[]] [(3, .bool false)] (by kernel_rfl) ⟨aC rfl rfl (fun _ => rfl), trivial⟩ ?_)
  intro ρ1 w1 hN hf hr
  obtain ⟨h0, h1⟩ := k2 hr h0 h1 rfl
  have Hb_bc1_n := Hb_bc1_.exn hN
  have hW := hW.trans hN
  have Hb_bc1_ := Hb_bc1_n
  refine WP.seq ?_
  obtain ⟨z, hz, hF⟩ := obind hF
  refine WP.rb mixed [[], [], [0, 1], [2]] [[1], [0], [], []] [(4, .string c_), (5, .string letter_), (6, .bool z), (3, .bool z)] (by kernel_rfl) ⟨fun ρz wz hE hA ⟨e1, _⟩ _ => core_val rfl rfl (o_load (e1.trans h1) (run_load1 (lr_9 _ _) ((Hb_bc1_.exn (hA rfl)).ca))),
 mE rfl rfl h0,
 fun ρz wz hE hA _ ⟨u0, u1, _⟩ => core_call rfl (call_args2 u0 u1) cf_92 (strings_Contains_ok  _ _  hz),
 aU rfl rfl rfl, trivial⟩ ?_
  intro ρ2 w2 hN hf hr
  have h3 := hv hf 3 rfl rfl
  have hW := hW.trans hN
  refine WP.ret ?_
  show retQ Tryz.prog 7 Tryz.f91 (fun v w1 => v = .bool r ∧ Ext noG w0 w1) .ret ρ2 w2
  obtain rfl := Option.some.inj hF
  exact res1 rfl (by decide) h3 ⟨rfl, hW⟩

set_option maxHeartbeats 4000000 in
theorem fact_within_ok {w0 : World} (x_ : Int) (low_ : Int) (high_ : Int) {r : Bool} (hF : fact_within x_ low_ high_ = some r) :
    Calls Tryz.prog 93 #[.int .i64 x_, .int .i64 low_, .int .i64 high_] w0 fun e w1 => e = .returned (.bool r) ∧ Ext noG w0 w1 := by
  refine (Calls.start (P := Tryz.prog) (args := [.int .i64 x_, .int .i64 low_, .int .i64 high_]) (R := fun v w1 => v = .bool r ∧ Ext noG w0 w1) (n := 15) (w := w0) Tryz.func93 rfl rfl (Nat.le_of_ble_eq_true rfl) (fun ρ hargs => ?_)).mono (fun e w1 ⟨v, he, hv, hE⟩ => ⟨hv ▸ he, hE⟩)
  have h0 := hargs 0 _ rfl
  have h1 := hargs 1 _ rfl
  have h2 := hargs 2 _ rfl
  have hW := Ext.refl noG w0
  rw [fact_within] at hF
  refine WP.seq (WP.rb mixed [[]] [[]] [(6, .bool false)] (by kernel_rfl) ⟨aC rfl rfl (fun _ => rfl), trivial⟩ ?_)
  intro ρ1 w1 hN hf hr
  obtain ⟨h0, h1, h2⟩ := k3 hr h0 h1 h2 rfl
  have hW := hW.trans hN
  refine WP.seq (WP.rb mixed [[], [], [0, 1], [2], [3], [3], [3, 4, 5], [3, 6], [7]] [[0], [1], [], [], [0], [2], [], [], []] [(7, .int .i64 x_), (8, .int .i64 low_), (9, .bool (decide (low_ ≤ x_))), (10, .bool (decide (low_ ≤ x_))), (11, gv (decide (low_ ≤ x_)) (.int .i64 x_)), (12, gv (decide (low_ ≤ x_)) (.int .i64 high_)), (13, gv (decide (low_ ≤ x_)) (.bool (decide (x_ ≤ high_)))), (14, .bool (decide (low_ ≤ x_) && decide (x_ ≤ high_))), (6, .bool (decide (low_ ≤ x_) && decide (x_ ≤ high_)))] (by kernel_rfl) ⟨mE rfl rfl h0,
 mE rfl rfl h1,
 fun ρz wz hE hA _ ⟨u0, u1, _⟩ => core_val rfl rfl (o_geq u0 u1 rfl),
 mU rfl rfl rfl,
 fun ρz wz hE hA ⟨e0, _⟩ ⟨u3, _⟩ => gIf rfl rfl (yT rfl u3) fun gc F hF => core_val rfl hF (o_move (e0.trans h0)),
 fun ρz wz hE hA ⟨e2, _⟩ ⟨u3, _⟩ => gIf rfl rfl (yT rfl u3) fun gc F hF => core_val rfl hF (o_move (e2.trans h2)),
 fun ρz wz hE hA _ ⟨u3, u4, u5, _⟩ => gIf rfl rfl (yT rfl u3) fun gc F hF => core_val rfl hF (o_leq (gt gc u4) (gt gc u5) rfl),
 fun ρz wz hE hA _ ⟨u3, u6, _⟩ => core_val rfl rfl (o_pick_and u3 u6 rfl),
 aU rfl rfl rfl, trivial⟩ ?_)
  intro ρ2 w2 hN hf hr
  have h6 := hv hf 8 rfl rfl
  have hW := hW.trans hN
  refine WP.ret ?_
  show retQ Tryz.prog 15 Tryz.f93 (fun v w1 => v = .bool r ∧ Ext noG w0 w1) .ret ρ2 w2
  obtain rfl := Option.some.inj hF
  exact res1 rfl (by decide) h6 ⟨rfl, hW⟩

set_option maxHeartbeats 4000000 in
theorem fact_field_ok {w0 : World} (used_ : Bool) (x_ : Int) (low_ : Int) (high_ : Int) {r : Bool} (hF : fact_field used_ x_ low_ high_ = some r) :
    Calls Tryz.prog 94 #[.bool used_, .int .i64 x_, .int .i64 low_, .int .i64 high_] w0 fun e w1 => e = .returned (.bool r) ∧ Ext noG w0 w1 := by
  refine (Calls.start (P := Tryz.prog) (args := [.bool used_, .int .i64 x_, .int .i64 low_, .int .i64 high_]) (R := fun v w1 => v = .bool r ∧ Ext noG w0 w1) (n := 24) (w := w0) Tryz.func94 rfl rfl (Nat.le_of_ble_eq_true rfl) (fun ρ hargs => ?_)).mono (fun e w1 ⟨v, he, hv, hE⟩ => ⟨hv ▸ he, hE⟩)
  have h0 := hargs 0 _ rfl
  have h1 := hargs 1 _ rfl
  have h2 := hargs 2 _ rfl
  have h3 := hargs 3 _ rfl
  have hW := Ext.refl noG w0
  rw [fact_field] at hF
  refine WP.seq (WP.rb mixed [[]] [[]] [(8, .bool false)] (by kernel_rfl) ⟨aC rfl rfl (fun _ => rfl), trivial⟩ ?_)
  intro ρ1 w1 hN hf hr
  obtain ⟨h0, h1, h2, h3⟩ := k4 hr h0 h1 h2 h3 rfl
  have hW := hW.trans hN
  refine WP.seq ?_
  obtain ⟨c, hc, hF⟩ := obind hF
  obtain ⟨z, hz, hc⟩ := andB hc
  have hc := andE hc
  refine WP.rb mixed [[], [0], [1], [1], [1], [1, 2, 3, 4], [1, 5], [6], [7], [7, 8], [7, 9], [10], [10, 11], [7, 10, 12], [7, 13], [14]] [[0], [], [1], [2], [3], [], [], [], [0], [], [], [1], [], [], [], []] [(9, .bool used_), (10, .bool used_), (11, gv (used_) (.int .i64 x_)), (12, gv (used_) (.int .i64 low_)), (13, gv (used_) (.int .i64 high_)), (14, gv (used_) (.bool z)), (15, .bool c), (16, .bool c), (17, gv (!c) (.bool used_)), (18, gv (!c) (.bool (!used_))), (19, gv (!c) (.bool (!used_))), (20, gv ((!c) && (!used_)) (.int .i64 x_)), (21, gv ((!c) && (!used_)) (.bool (x_ == 0))), (22, gv (!c) (.bool ((!used_) && (x_ == 0)))), (23, .bool (c || ((!used_) && (x_ == 0)))), (8, .bool (c || ((!used_) && (x_ == 0))))] (by kernel_rfl) ⟨mE rfl rfl h0,
 mU rfl rfl rfl,
 fun ρz wz hE hA ⟨e1, _⟩ ⟨u1, _⟩ => gIf rfl rfl (yT rfl u1) fun gc F hF => core_val rfl hF (o_move (e1.trans h1)),
 fun ρz wz hE hA ⟨e2, _⟩ ⟨u1, _⟩ => gIf rfl rfl (yT rfl u1) fun gc F hF => core_val rfl hF (o_move (e2.trans h2)),
 fun ρz wz hE hA ⟨e3, _⟩ ⟨u1, _⟩ => gIf rfl rfl (yT rfl u1) fun gc F hF => core_val rfl hF (o_move (e3.trans h3)),
 fun ρz wz hE hA _ ⟨u1, u2, u3, u4, _⟩ => gIf rfl rfl (yT rfl u1) fun gc F hF => core_call hF (call_args3 (gt gc u2) (gt gc u3) (gt gc u4)) cf_93 (fact_within_ok  _ _ _  (hz gc)),
 fun ρz wz hE hA _ ⟨u1, u5, _⟩ => core_valE rfl rfl (congrArg Value.bool hc) (o_pick_and u1 u5 rfl),
 mU rfl rfl rfl,
 fun ρz wz hE hA ⟨e0, _⟩ ⟨u7, _⟩ => gIf rfl rfl (yF rfl u7) fun gc F hF => core_val rfl hF (o_move (e0.trans h0)),
 fun ρz wz hE hA _ ⟨u7, u8, _⟩ => gIf rfl rfl (yF rfl u7) fun gc F hF => core_val rfl hF (o_not (gt gc u8) rfl),
 fun ρz wz hE hA _ ⟨u7, u9, _⟩ => gIf rfl rfl (yF rfl u7) fun gc F hF => core_val rfl hF (o_move (gt gc u9)),
 fun ρz wz hE hA ⟨e1, _⟩ ⟨u10, _⟩ => gIf rfl rfl (yTG rfl u10) fun gc F hF => core_val rfl hF (o_move (e1.trans h1)),
 fun ρz wz hE hA _ ⟨u10, u11, _⟩ => gIf rfl rfl (yTG rfl u10) fun gc F hF => core_val rfl hF (o_eql (gt gc u11) rfl rfl),
 fun ρz wz hE hA _ ⟨u7, u10, u12, _⟩ => gIf rfl rfl (yF rfl u7) fun gc F hF => core_val rfl hF (o_pick_and (gt gc u10) (gr gc u12) rfl),
 fun ρz wz hE hA _ ⟨u7, u13, _⟩ => core_val rfl rfl (o_pick_or u7 rfl u13),
 aU rfl rfl rfl, trivial⟩ ?_
  intro ρ2 w2 hN hf hr
  have h8 := hv hf 15 rfl rfl
  have hW := hW.trans hN
  refine WP.ret ?_
  show retQ Tryz.prog 24 Tryz.f94 (fun v w1 => v = .bool r ∧ Ext noG w0 w1) .ret ρ2 w2
  obtain rfl := Option.some.inj hF
  exact res1 rfl (by decide) h8 ⟨rfl, hW⟩

set_option maxHeartbeats 4000000 in
theorem fact_validSpan_ok {w0 : World} (s_ : Span) {r : Bool} (hF : fact_validSpan s_ = some r) :
    Calls Tryz.prog 95 #[Span.val s_] w0 fun e w1 => e = .returned (.bool r) ∧ Ext noG w0 w1 := by
  refine (Calls.start (P := Tryz.prog) (args := [Span.val s_]) (R := fun v w1 => v = .bool r ∧ Ext noG w0 w1) (n := 18) (w := w0) Tryz.func95 rfl rfl (Nat.le_of_ble_eq_true rfl) (fun ρ hargs => ?_)).mono (fun e w1 ⟨v, he, hv, hE⟩ => ⟨hv ▸ he, hE⟩)
  have h0 := hargs 0 _ rfl
  have hW := Ext.refl noG w0
  rw [fact_validSpan] at hF
  refine WP.seq (WP.rg mixed [[], []] [[], []] [[0], []] [(1, fun u wz => ∃ b, u = .pointer (some ⟨b, 0, none⟩) ∧ w0.heap.size ≤ b ∧ Mb wz b 36 (Span.cells s_)), val 2 (.bool false)] (by kernel_rfl) ⟨fun _ _ _ hE ⟨b, hb, hs, hM⟩ => ⟨b, hb, hs, hM.exn hE⟩, sV, trivial⟩ ⟨fun ρz wz hE hA ⟨e0, _⟩ _ => core_new rfl rfl hE (o_box (e0.trans h0) (bx_36 _ _)),
 aC rfl rfl (fun _ => rfl), trivial⟩ ?_)
  intro ρ1 w1 hN hf hr
  obtain ⟨b1_, h1, hge_b1_, Hb_b1_⟩ := hf 0 rfl
  have hB_b1_ : w0.heap.size ≤ b1_ := Nat.le_trans hW.size hge_b1_
  have hW := hW.trans hN
  refine WP.seq (WP.rb mixed [[], [0], [1], [2], [3], [3, 4], [3], [3, 6], [3, 5, 7], [3, 8], [9], [10], [10, 11], [10, 12], [10, 13], [14]] [[1], [], [], [], [1], [], [1], [], [], [], [], [1], [], [], [], []] [(3, .pointer (some ((⟨b1_, 0, none⟩ : Addr).add 0))), (4, .int .i64 s_.From), (5, .bool (decide (0 ≤ s_.From))), (6, .bool (decide (0 ≤ s_.From))), (7, gv (decide (0 ≤ s_.From)) (.pointer (some ((⟨b1_, 0, none⟩ : Addr).add 0)))), (8, gv (decide (0 ≤ s_.From)) (.int .i64 s_.From)), (9, gv (decide (0 ≤ s_.From)) (.pointer (some ((⟨b1_, 0, none⟩ : Addr).add 1)))), (10, gv (decide (0 ≤ s_.From)) (.int .i64 s_.To)), (11, gv (decide (0 ≤ s_.From)) (.bool (decide (s_.From < s_.To)))), (12, .bool (decide (0 ≤ s_.From) && decide (s_.From < s_.To))), (13, .bool (decide (0 ≤ s_.From) && decide (s_.From < s_.To))), (14, gv ((decide (0 ≤ s_.From) && decide (s_.From < s_.To))) (.pointer (some ((⟨b1_, 0, none⟩ : Addr).add 1)))), (15, gv ((decide (0 ≤ s_.From) && decide (s_.From < s_.To))) (.int .i64 s_.To)), (16, gv ((decide (0 ≤ s_.From) && decide (s_.From < s_.To))) (.bool (decide (s_.To ≤ 73049)))), (17, .bool ((decide (0 ≤ s_.From) && decide (s_.From < s_.To)) && decide (s_.To ≤ 73049))), (2, .bool ((decide (0 ≤ s_.From) && decide (s_.From < s_.To)) && decide (s_.To ≤ 73049)))] (by kernel_rfl) ⟨fun ρz wz hE hA ⟨e1, _⟩ _ => core_val rfl rfl (o_fieldAddr (e1.trans h1) (fa_36_0 _ _)),
 fun ρz wz hE hA _ ⟨u0, _⟩ => core_val rfl rfl (o_load u0 (run_load1 (lr_3 _ _) (CA.sub ((Hb_b1_.exn (hA rfl)).ca) 0 1))),
 fun ρz wz hE hA _ ⟨u1, _⟩ => core_val rfl rfl (o_geq u1 rfl rfl),
 mU rfl rfl rfl,
 fun ρz wz hE hA ⟨e1, _⟩ ⟨u3, _⟩ => gIf rfl rfl (yT rfl u3) fun gc F hF => core_val rfl hF (o_fieldAddr (e1.trans h1) (fa_36_0 _ _)),
 fun ρz wz hE hA _ ⟨u3, u4, _⟩ => gIf rfl rfl (yT rfl u3) fun gc F hF => core_val rfl hF (o_load (gt gc u4) (run_load1 (lr_3 _ _) (CA.sub ((Hb_b1_.exn (hA rfl)).ca) 0 1))),
 fun ρz wz hE hA ⟨e1, _⟩ ⟨u3, _⟩ => gIf rfl rfl (yT rfl u3) fun gc F hF => core_val rfl hF (o_fieldAddr (e1.trans h1) (fa_36_1 _ _)),
 fun ρz wz hE hA _ ⟨u3, u6, _⟩ => gIf rfl rfl (yT rfl u3) fun gc F hF => core_val rfl hF (o_load (gt gc u6) (run_load1 (lr_3 _ _) (CA.sub ((Hb_b1_.exn (hA rfl)).ca) 1 1))),
 fun ρz wz hE hA _ ⟨u3, u5, u7, _⟩ => gIf rfl rfl (yT rfl u3) fun gc F hF => core_val rfl hF (o_lss (gt gc u5) (gt gc u7) rfl),
 fun ρz wz hE hA _ ⟨u3, u8, _⟩ => core_val rfl rfl (o_pick_and u3 u8 rfl),
 mU rfl rfl rfl,
 fun ρz wz hE hA ⟨e1, _⟩ ⟨u10, _⟩ => gIf rfl rfl (yT rfl u10) fun gc F hF => core_val rfl hF (o_fieldAddr (e1.trans h1) (fa_36_1 _ _)),
 fun ρz wz hE hA _ ⟨u10, u11, _⟩ => gIf rfl rfl (yT rfl u10) fun gc F hF => core_val rfl hF (o_load (gt gc u11) (run_load1 (lr_3 _ _) (CA.sub ((Hb_b1_.exn (hA rfl)).ca) 1 1))),
 fun ρz wz hE hA _ ⟨u10, u12, _⟩ => gIf rfl rfl (yT rfl u10) fun gc F hF => core_val rfl hF (o_leq (gt gc u12) rfl rfl),
 fun ρz wz hE hA _ ⟨u10, u13, _⟩ => core_val rfl rfl (o_pick_and u10 u13 rfl),
 aU rfl rfl rfl, trivial⟩ ?_)
  intro ρ2 w2 hN hf hr
  have h2 := hv hf 15 rfl rfl
  have hW := hW.trans hN
  refine WP.ret ?_
  show retQ Tryz.prog 18 Tryz.f95 (fun v w1 => v = .bool r ∧ Ext noG w0 w1) .ret ρ2 w2
  obtain rfl := Option.some.inj hF
  exact res1 rfl (by decide) h2 ⟨rfl, hW⟩

set_option maxHeartbeats 4000000 in
theorem fact_Valid_ok {w0 : World} (d_ : api_Fact) {r : Bool} (hF : fact_Valid d_ = some r) :
    Calls Tryz.prog 64 #[api_Fact.val d_] w0 fun e w1 => e = .returned (.bool r) ∧ Ext noG w0 w1 := by
  refine (Calls.start (P := Tryz.prog) (args := [api_Fact.val d_]) (R := fun v w1 => v = .bool r ∧ Ext noG w0 w1) (n := 116) (w := w0) Tryz.func64 rfl rfl (Nat.le_of_ble_eq_true rfl) (fun ρ hargs => ?_)).mono (fun e w1 ⟨v, he, hv, hE⟩ => ⟨hv ▸ he, hE⟩)
  have h0 := hargs 0 _ rfl
  have hW := Ext.refl noG w0
  rw [fact_Valid] at hF
  refine WP.seq (WP.rg mixed [[], []] [[], []] [[0], []] [(1, fun u wz => ∃ b, u = .pointer (some ⟨b, 0, none⟩) ∧ w0.heap.size ≤ b ∧ Mb wz b 38 (api_Fact.cells d_)), val 2 (.bool false)] (by kernel_rfl) ⟨fun _ _ _ hE ⟨b, hb, hs, hM⟩ => ⟨b, hb, hs, hM.exn hE⟩, sV, trivial⟩ ⟨fun ρz wz hE hA ⟨e0, _⟩ _ => core_new rfl rfl hE (o_box (e0.trans h0) (bx_38 _ _)),
 aC rfl rfl (fun _ => rfl), trivial⟩ ?_)
  intro ρ1 w1 hN hf hr
  obtain ⟨b1_, h1, hge_b1_, Hb_b1_⟩ := hf 0 rfl
  have hB_b1_ : w0.heap.size ≤ b1_ := Nat.le_trans hW.size hge_b1_
  have hW := hW.trans hN
  refine WP.seq ?_
  obtain ⟨z, hz, hF⟩ := obind hF
  refine WP.region mixed [[], [0], [1], [], [2, 3]] [[], [0], [1], [], [2, 3]] [[1], [], [], [], []] [4] [(3, 4)] [val 5 (.pointer (some ((⟨b1_, 0, none⟩ : Addr).add 5))), val 6 (.int .i64 d_.Kind), val 7 (.string z), (3, fun u wz => ∃ b, u = .pointer (some ⟨b, 0, none⟩) ∧ w1.heap.size ≤ b ∧ Mb wz b 9 [Value.string (⟨#[]⟩ : ByteArray)]), (3, fun u wz => ∃ b, u = .pointer (some ⟨b, 0, none⟩) ∧ w1.heap.size ≤ b ∧ Mb wz b 9 [Value.string z])] (fun b => w1.heap.size ≤ b) (by kernel_rfl) ⟨sV, sV, sV, fun _ _ _ hE ⟨b, hb, hs, hM⟩ => ⟨b, hb, hs, hM.exn hE⟩, fun _ _ _ hE ⟨b, hb, hs, hM⟩ => ⟨b, hb, hs, hM.exn hE⟩, trivial⟩ ⟨fun ρz wz hE hA ⟨e1, _⟩ _ => core_val rfl rfl (o_fieldAddr (e1.trans h1) (fa_38_5 _ _)),
 fun ρz wz hE hA _ ⟨u0, _⟩ => core_val rfl rfl (o_load u0 (run_load1 (lr_3 _ _) (CA.sub ((Hb_b1_.exn hE.fresh).ca) 5 1))),
 fun ρz wz hE hA _ ⟨u1, _⟩ => core_call rfl (call_args1 u1) cf_90 (fact_Uses_ok  _  hz),
 fun ρz wz hE hA _ _ => core_new rfl rfl hE (o_alloc (al_9 _)),
 fun ρz wz hE hA _ ⟨u2, u3, _⟩ => core_storeNew rfl rfl rfl rfl u2 u3 (fun a w => st_9 _ a w) rfl (one_9 _), trivial⟩ ?_
  intro ρ2 w2 hE hN hf hr
  have hN := hE.fresh
  obtain ⟨b3_, h3, hge_b3_, Hb_b3_⟩ := hf 4 rfl
  have h1 := (hr 1 rfl).trans h1
  have Hb_b1_n := Hb_b1_.exn hN
  have hB_b3_ : w0.heap.size ≤ b3_ := Nat.le_trans hW.size hge_b3_
  have hne_b1__b3_ : b1_ ≠ b3_ := Nat.ne_of_lt (Nat.lt_of_lt_of_le Hb_b1_.lt hge_b3_)
  have hW := hW.trans hN
  have Hb_b1_ := Hb_b1_n
  refine WP.seq (WP.rb mixed [[], [0]] [[3], []] [(8, .func (.func 91) #[] #[.pointer (some ⟨b3_, 0, none⟩)]), (4, .func (.func 91) #[] #[.pointer (some ⟨b3_, 0, none⟩)])] (by kernel_rfl) ⟨fun ρz wz hE hA ⟨e3, _⟩ _ => core_val rfl rfl (o_makeFunc (call_args1 (e3.trans h3))),
 aU rfl rfl rfl, trivial⟩ ?_)
  intro ρ3 w3 hN hf hr
  have h4 := hv hf 1 rfl rfl
  obtain ⟨h1, h3⟩ := k2 hr h1 h3 rfl
  have Hb_b1_n := Hb_b1_.exn hN
  have Hb_b3_n := Hb_b3_.exn hN
  have hW := hW.trans hN
  have Hb_b1_ := Hb_b1_n
  have Hb_b3_ := Hb_b3_n
  refine WP.seq (WP.block (WP.seq ?_))
  obtain ⟨c, hc, hF⟩ := obind hF
  obtain ⟨z2, hz2, hc⟩ := orB hc
  have hc := orE hc
  obtain ⟨c2, hc2, hF⟩ := obind hF
  obtain ⟨z3, hz3, hc2⟩ := orB hc2
  have hc2 := orE hc2
  obtain ⟨c3, hc3, hF⟩ := obind hF
  obtain ⟨z4, hz4, hc3⟩ := orB hc3
  have hc3 := orE hc3
  obtain ⟨c4, hc4, hF⟩ := obind hF
  obtain ⟨z5, hz5, hc4⟩ := orB hc4
  have hc4 := orE hc4
  refine WP.rb mixed [[], [0], [1], [2], [2, 3], [2, 4], [2, 5], [2, 6], [7], [8], [8, 9], [8, 10], [8, 11], [8, 12], [13], [14], [14, 15], [14, 16], [14, 17], [14, 18], [19], [20], [20, 21], [20, 22], [20, 23], [20, 24], [25]] [[3], [], [], [1], [], [], [], [], [], [1], [], [], [], [], [], [1], [], [], [], [], [], [1], [], [], [], [], []] [(10, .string z), (11, .bool (z.toList == str1.toList)), (12, .bool (z.toList == str1.toList)), (13, gv (!(z.toList == str1.toList)) (.pointer (some ((⟨b1_, 0, none⟩ : Addr).add 0)))), (14, gv (!(z.toList == str1.toList)) (.int .i64 d_.Issuer)), (15, gv (!(z.toList == str1.toList)) (.bool z2)), (16, gv (!(z.toList == str1.toList)) (.bool (!z2))), (17, .bool c), (18, .bool c), (19, gv (!c) (.pointer (some ((⟨b1_, 0, none⟩ : Addr).add 1)))), (20, gv (!c) (.int .i64 d_.Number)), (21, gv (!c) (.bool z3)), (22, gv (!c) (.bool (!z3))), (23, .bool c2), (24, .bool c2), (25, gv (!c2) (.pointer (some ((⟨b1_, 0, none⟩ : Addr).add 2)))), (26, gv (!c2) (.int .i64 d_.Version)), (27, gv (!c2) (.bool z4)), (28, gv (!c2) (.bool (!z4))), (29, .bool c3), (30, .bool c3), (31, gv (!c3) (.pointer (some ((⟨b1_, 0, none⟩ : Addr).add 4)))), (32, gv (!c3) (.int .i64 d_.Person)), (33, gv (!c3) (.bool z5)), (34, gv (!c3) (.bool (!z5))), (35, .bool c4), (9, .bool c4)] (by kernel_rfl) ⟨fun ρz wz hE hA ⟨e3, _⟩ _ => core_val rfl rfl (o_load (e3.trans h3) (run_load1 (lr_9 _ _) ((Hb_b3_.exn (hA rfl)).ca))),
 fun ρz wz hE hA _ ⟨u0, _⟩ => core_val rfl rfl (o_eqlT u0 rfl rfl),
 mU rfl rfl rfl,
 fun ρz wz hE hA ⟨e1, _⟩ ⟨u2, _⟩ => gIf rfl rfl (yF rfl u2) fun gc F hF => core_val rfl hF (o_fieldAddr (e1.trans h1) (fa_38_0 _ _)),
 fun ρz wz hE hA _ ⟨u2, u3, _⟩ => gIf rfl rfl (yF rfl u2) fun gc F hF => core_val rfl hF (o_load (gt gc u3) (run_load1 (lr_3 _ _) (CA.sub ((Hb_b1_.exn (hA rfl)).ca) 0 1))),
 fun ρz wz hE hA _ ⟨u2, u4, _⟩ => gIf rfl rfl (yF rfl u2) fun gc F hF => core_call hF (call_args3 (gt gc u4) rfl rfl) cf_93 (fact_within_ok  _ _ _  (hz2 gc)),
 fun ρz wz hE hA _ ⟨u2, u5, _⟩ => gIf rfl rfl (yF rfl u2) fun gc F hF => core_val rfl hF (o_not (gt gc u5) rfl),
 fun ρz wz hE hA _ ⟨u2, u6, _⟩ => core_valE rfl rfl (congrArg Value.bool hc) (o_pick_or u2 rfl u6),
 mU rfl rfl rfl,
 fun ρz wz hE hA ⟨e1, _⟩ ⟨u8, _⟩ => gIf rfl rfl (yF rfl u8) fun gc F hF => core_val rfl hF (o_fieldAddr (e1.trans h1) (fa_38_1 _ _)),
 fun ρz wz hE hA _ ⟨u8, u9, _⟩ => gIf rfl rfl (yF rfl u8) fun gc F hF => core_val rfl hF (o_load (gt gc u9) (run_load1 (lr_3 _ _) (CA.sub ((Hb_b1_.exn (hA rfl)).ca) 1 1))),
 fun ρz wz hE hA _ ⟨u8, u10, _⟩ => gIf rfl rfl (yF rfl u8) fun gc F hF => core_call hF (call_args3 (gt gc u10) rfl rfl) cf_93 (fact_within_ok  _ _ _  (hz3 gc)),
 fun ρz wz hE hA _ ⟨u8, u11, _⟩ => gIf rfl rfl (yF rfl u8) fun gc F hF => core_val rfl hF (o_not (gt gc u11) rfl),
 fun ρz wz hE hA _ ⟨u8, u12, _⟩ => core_valE rfl rfl (congrArg Value.bool hc2) (o_pick_or u8 rfl u12),
 mU rfl rfl rfl,
 fun ρz wz hE hA ⟨e1, _⟩ ⟨u14, _⟩ => gIf rfl rfl (yF rfl u14) fun gc F hF => core_val rfl hF (o_fieldAddr (e1.trans h1) (fa_38_2 _ _)),
 fun ρz wz hE hA _ ⟨u14, u15, _⟩ => gIf rfl rfl (yF rfl u14) fun gc F hF => core_val rfl hF (o_load (gt gc u15) (run_load1 (lr_3 _ _) (CA.sub ((Hb_b1_.exn (hA rfl)).ca) 2 1))),
 fun ρz wz hE hA _ ⟨u14, u16, _⟩ => gIf rfl rfl (yF rfl u14) fun gc F hF => core_call hF (call_args3 (gt gc u16) rfl rfl) cf_93 (fact_within_ok  _ _ _  (hz4 gc)),
 fun ρz wz hE hA _ ⟨u14, u17, _⟩ => gIf rfl rfl (yF rfl u14) fun gc F hF => core_val rfl hF (o_not (gt gc u17) rfl),
 fun ρz wz hE hA _ ⟨u14, u18, _⟩ => core_valE rfl rfl (congrArg Value.bool hc3) (o_pick_or u14 rfl u18),
 mU rfl rfl rfl,
 fun ρz wz hE hA ⟨e1, _⟩ ⟨u20, _⟩ => gIf rfl rfl (yF rfl u20) fun gc F hF => core_val rfl hF (o_fieldAddr (e1.trans h1) (fa_38_4 _ _)),
 fun ρz wz hE hA _ ⟨u20, u21, _⟩ => gIf rfl rfl (yF rfl u20) fun gc F hF => core_val rfl hF (o_load (gt gc u21) (run_load1 (lr_3 _ _) (CA.sub ((Hb_b1_.exn (hA rfl)).ca) 4 1))),
 fun ρz wz hE hA _ ⟨u20, u22, _⟩ => gIf rfl rfl (yF rfl u20) fun gc F hF => core_call hF (call_args3 (gt gc u22) rfl rfl) cf_93 (fact_within_ok  _ _ _  (hz5 gc)),
 fun ρz wz hE hA _ ⟨u20, u23, _⟩ => gIf rfl rfl (yF rfl u20) fun gc F hF => core_val rfl hF (o_not (gt gc u23) rfl),
 fun ρz wz hE hA _ ⟨u20, u24, _⟩ => core_valE rfl rfl (congrArg Value.bool hc4) (o_pick_or u20 rfl u24),
 aU rfl rfl rfl, trivial⟩ ?_
  intro ρ4 w4 hN hf hr
  have h9 := hv hf 26 rfl rfl
  obtain ⟨h1, h4⟩ := k2 hr h1 h4 rfl
  have Hb_b1_n := Hb_b1_.exn hN
  have Hb_b3_n := Hb_b3_.exn hN
  have hW := hW.trans hN
  have Hb_b1_ := Hb_b1_n
  have Hb_b3_ := Hb_b3_n
  refine WP.cond rfl h9 (fun hb => ?_) (fun hb => ?_)
  · have hF := (if_pos hb).symm.trans hF
    refine WP.seq (WP.rb mixed [[]] [[]] [(2, .bool false)] (by kernel_rfl) ⟨aC rfl rfl (fun _ => rfl), trivial⟩ ?_)
    intro ρ5 w5 hN hf hr
    have h2 := hv hf 0 rfl rfl
    have hW := hW.trans hN
    refine WP.ret ?_
    show retQ Tryz.prog 116 Tryz.f64 (fun v w1 => v = .bool r ∧ Ext noG w0 w1) .ret ρ5 w5
    obtain rfl := Option.some.inj hF
    exact res1 rfl (by decide) h2 ⟨rfl, hW⟩
  have hF := (if_neg (Bool.eq_false_iff.1 hb)).symm.trans hF
  refine WP.seq ?_
  obtain ⟨z6, hz6, hF⟩ := obind hF
  obtain ⟨z7, hz7, hF⟩ := obind hF
  obtain ⟨c5, hc5, hF⟩ := obind hF
  obtain ⟨z8, hz8, hc5⟩ := orB hc5
  obtain ⟨z9, hz9, hc5⟩ := orB hc5
  have hc5 := orE hc5
  obtain ⟨c6, hc6, hF⟩ := obind hF
  obtain ⟨z10, hz10, hc6⟩ := orB hc6
  have hc6 := orE hc6
  refine WP.rb mixed [[], [0], [], [2], [1, 3], [4], [5], [6], [6, 7], [6], [6, 9], [6, 8, 10], [6, 11], [6, 12], [13], [14], [14, 15], [14, 16], [14, 17], [14, 18], [19]] [[4], [], [1], [], [], [], [], [4], [], [1], [], [], [], [], [], [1], [], [], [], [], []] [(37, .func (.func 91) #[] #[.pointer (some ⟨b3_, 0, none⟩)]), (38, .bool z6), (39, .pointer (some ((⟨b1_, 0, none⟩ : Addr).add 6))), (40, .int .i64 d_.State), (41, .bool z7), (42, .bool (!z7)), (43, .bool (!z7)), (44, gv (!(!z7)) (.func (.func 91) #[] #[.pointer (some ⟨b3_, 0, none⟩)])), (45, gv (!(!z7)) (.bool z8)), (46, gv (!(!z7)) (.pointer (some ((⟨b1_, 0, none⟩ : Addr).add 9)))), (47, gv (!(!z7)) (.int .i64 d_.Seat)), (48, gv (!(!z7)) (.bool z9)), (49, gv (!(!z7)) (.bool (!z9))), (50, .bool c5), (51, .bool c5), (52, gv (!c5) (.pointer (some ((⟨b1_, 0, none⟩ : Addr).add 7)))), (53, gv (!c5) (Span.val d_.Span)), (54, gv (!c5) (.bool z10)), (55, gv (!c5) (.bool (!z10))), (56, .bool c6), (36, .bool c6)] (by kernel_rfl) ⟨mE rfl rfl h4,
 fun ρz wz hE hA _ ⟨u0, _⟩ => core_callF (V := fnV_113) (W := fnW_113) (a := str10) (r := z6) rfl u0 (call_args1 rfl) (FnR.mk (V := fnV_113) (W := fnW_113) (G := noG) (cap := [.pointer (some ⟨b3_, 0, none⟩)]) cf_91 (fun w' hE' x r hr => fact_Valid_1_ok _ _ ((Hb_b3_.exn (hA rfl)).exn hE') hr)) hz6,
 fun ρz wz hE hA ⟨e1, _⟩ _ => core_val rfl rfl (o_fieldAddr (e1.trans h1) (fa_38_6 _ _)),
 fun ρz wz hE hA _ ⟨u2, _⟩ => core_val rfl rfl (o_load u2 (run_load1 (lr_3 _ _) (CA.sub ((Hb_b1_.exn (hA rfl)).ca) 6 1))),
 fun ρz wz hE hA _ ⟨u1, u3, _⟩ => core_call rfl (call_args4 u1 u3 rfl rfl) cf_94 (fact_field_ok  _ _ _ _  hz7),
 fun ρz wz hE hA _ ⟨u4, _⟩ => core_val rfl rfl (o_not u4 rfl),
 mU rfl rfl rfl,
 fun ρz wz hE hA ⟨e4, _⟩ ⟨u6, _⟩ => gIf rfl rfl (yF rfl u6) fun gc F hF => core_val rfl hF (o_move (e4.trans h4)),
 fun ρz wz hE hA _ ⟨u6, u7, _⟩ => gIf rfl rfl (yF rfl u6) fun gc F hF => core_callF (V := fnV_113) (W := fnW_113) (a := str11) (r := z8) hF (gt gc u7) (call_args1 rfl) (FnR.mk (V := fnV_113) (W := fnW_113) (G := noG) (cap := [.pointer (some ⟨b3_, 0, none⟩)]) cf_91 (fun w' hE' x r hr => fact_Valid_1_ok _ _ ((Hb_b3_.exn (hA rfl)).exn hE') hr)) (hz8 gc),
 fun ρz wz hE hA ⟨e1, _⟩ ⟨u6, _⟩ => gIf rfl rfl (yF rfl u6) fun gc F hF => core_val rfl hF (o_fieldAddr (e1.trans h1) (fa_38_8 _ _)),
 fun ρz wz hE hA _ ⟨u6, u9, _⟩ => gIf rfl rfl (yF rfl u6) fun gc F hF => core_val rfl hF (o_load (gt gc u9) (run_load1 (lr_3 _ _) (CA.sub ((Hb_b1_.exn (hA rfl)).ca) 9 1))),
 fun ρz wz hE hA _ ⟨u6, u8, u10, _⟩ => gIf rfl rfl (yF rfl u6) fun gc F hF => core_call hF (call_args4 (gt gc u8) (gt gc u10) rfl rfl) cf_94 (fact_field_ok  _ _ _ _  (hz9 gc)),
 fun ρz wz hE hA _ ⟨u6, u11, _⟩ => gIf rfl rfl (yF rfl u6) fun gc F hF => core_val rfl hF (o_not (gt gc u11) rfl),
 fun ρz wz hE hA _ ⟨u6, u12, _⟩ => core_valE rfl rfl (congrArg Value.bool hc5) (o_pick_or u6 rfl u12),
 mU rfl rfl rfl,
 fun ρz wz hE hA ⟨e1, _⟩ ⟨u14, _⟩ => gIf rfl rfl (yF rfl u14) fun gc F hF => core_val rfl hF (o_fieldAddr (e1.trans h1) (fa_38_7 _ _)),
 fun ρz wz hE hA _ ⟨u14, u15, _⟩ => gIf rfl rfl (yF rfl u14) fun gc F hF => core_val rfl hF (o_load (gt gc u15) (run_loadN (cs := (Span.cells d_.Span)) (lr_36 _ _) rfl (CA.sub ((Hb_b1_.exn (hA rfl)).ca) 7 2))),
 fun ρz wz hE hA _ ⟨u14, u16, _⟩ => gIf rfl rfl (yF rfl u14) fun gc F hF => core_call hF (call_args1 (gt gc u16)) cf_95 (fact_validSpan_ok  _  (hz10 gc)),
 fun ρz wz hE hA _ ⟨u14, u17, _⟩ => gIf rfl rfl (yF rfl u14) fun gc F hF => core_val rfl hF (o_not (gt gc u17) rfl),
 fun ρz wz hE hA _ ⟨u14, u18, _⟩ => core_valE rfl rfl (congrArg Value.bool hc6) (o_pick_or u14 rfl u18),
 aU rfl rfl rfl, trivial⟩ ?_
  intro ρ6 w6 hN hf hr
  have h36 := hv hf 20 rfl rfl
  obtain ⟨h1, h4⟩ := k2 hr h1 h4 rfl
  have Hb_b1_n := Hb_b1_.exn hN
  have Hb_b3_n := Hb_b3_.exn hN
  have hW := hW.trans hN
  have Hb_b1_ := Hb_b1_n
  have Hb_b3_ := Hb_b3_n
  refine WP.cond rfl h36 (fun hb => ?_) (fun hb => ?_)
  · have hF := (if_pos hb).symm.trans hF
    refine WP.seq (WP.rb mixed [[]] [[]] [(2, .bool false)] (by kernel_rfl) ⟨aC rfl rfl (fun _ => rfl), trivial⟩ ?_)
    intro ρ7 w7 hN hf hr
    have h2 := hv hf 0 rfl rfl
    have hW := hW.trans hN
    refine WP.ret ?_
    show retQ Tryz.prog 116 Tryz.f64 (fun v w1 => v = .bool r ∧ Ext noG w0 w1) .ret ρ7 w7
    obtain rfl := Option.some.inj hF
    exact res1 rfl (by decide) h2 ⟨rfl, hW⟩
  have hF := (if_neg (Bool.eq_false_iff.1 hb)).symm.trans hF
  refine WP.seq ?_
  obtain ⟨z11, hz11, hF⟩ := obind hF
  obtain ⟨z12, hz12, hF⟩ := obind hF
  obtain ⟨c7, hc7, hF⟩ := obind hF
  obtain ⟨z13, hz13, hc7⟩ := orB hc7
  obtain ⟨z14, hz14, hc7⟩ := orB hc7
  have hc7 := orE hc7
  obtain ⟨c8, hc8, hF⟩ := obind hF
  obtain ⟨z15, hz15, hc8⟩ := orB hc8
  obtain ⟨z16, hz16, hc8⟩ := orB hc8
  have hc8 := orE hc8
  obtain ⟨c9, hc9, hF⟩ := obind hF
  obtain ⟨z17, hz17, hc9⟩ := orB hc9
  obtain ⟨z18, hz18, hc9⟩ := orB hc9
  have hc9 := orE hc9
  refine WP.rb mixed [[], [0], [], [2], [1, 3], [4], [5], [6], [6, 7], [6], [6, 9], [6, 8, 10], [6, 11], [6, 12], [13], [14], [14, 15], [14], [14, 17], [14, 16, 18], [14, 19], [14, 20], [21], [22], [22, 23], [22], [22, 25], [22, 24, 26], [22, 27], [22, 28], [29]] [[4], [], [1], [], [], [], [], [4], [], [1], [], [], [], [], [], [4], [], [1], [], [], [], [], [], [4], [], [1], [], [], [], [], []] [(58, .func (.func 91) #[] #[.pointer (some ⟨b3_, 0, none⟩)]), (59, .bool z11), (60, .pointer (some ((⟨b1_, 0, none⟩ : Addr).add 10))), (61, .int .i64 d_.Share), (62, .bool z12), (63, .bool (!z12)), (64, .bool (!z12)), (65, gv (!(!z12)) (.func (.func 91) #[] #[.pointer (some ⟨b3_, 0, none⟩)])), (66, gv (!(!z12)) (.bool z13)), (67, gv (!(!z12)) (.pointer (some ((⟨b1_, 0, none⟩ : Addr).add 11)))), (68, gv (!(!z12)) (.int .i64 d_.Currency)), (69, gv (!(!z12)) (.bool z14)), (70, gv (!(!z12)) (.bool (!z14))), (71, .bool c7), (72, .bool c7), (73, gv (!c7) (.func (.func 91) #[] #[.pointer (some ⟨b3_, 0, none⟩)])), (74, gv (!c7) (.bool z15)), (75, gv (!c7) (.pointer (some ((⟨b1_, 0, none⟩ : Addr).add 12)))), (76, gv (!c7) (.int .i64 d_.Amount)), (77, gv (!c7) (.bool z16)), (78, gv (!c7) (.bool (!z16))), (79, .bool c8), (80, .bool c8), (81, gv (!c8) (.func (.func 91) #[] #[.pointer (some ⟨b3_, 0, none⟩)])), (82, gv (!c8) (.bool z17)), (83, gv (!c8) (.pointer (some ((⟨b1_, 0, none⟩ : Addr).add 13)))), (84, gv (!c8) (.int .i64 d_.Ref)), (85, gv (!c8) (.bool z18)), (86, gv (!c8) (.bool (!z18))), (87, .bool c9), (57, .bool c9)] (by kernel_rfl) ⟨mE rfl rfl h4,
 fun ρz wz hE hA _ ⟨u0, _⟩ => core_callF (V := fnV_113) (W := fnW_113) (a := str12) (r := z11) rfl u0 (call_args1 rfl) (FnR.mk (V := fnV_113) (W := fnW_113) (G := noG) (cap := [.pointer (some ⟨b3_, 0, none⟩)]) cf_91 (fun w' hE' x r hr => fact_Valid_1_ok _ _ ((Hb_b3_.exn (hA rfl)).exn hE') hr)) hz11,
 fun ρz wz hE hA ⟨e1, _⟩ _ => core_val rfl rfl (o_fieldAddr (e1.trans h1) (fa_38_9 _ _)),
 fun ρz wz hE hA _ ⟨u2, _⟩ => core_val rfl rfl (o_load u2 (run_load1 (lr_3 _ _) (CA.sub ((Hb_b1_.exn (hA rfl)).ca) 10 1))),
 fun ρz wz hE hA _ ⟨u1, u3, _⟩ => core_call rfl (call_args4 u1 u3 rfl rfl) cf_94 (fact_field_ok  _ _ _ _  hz12),
 fun ρz wz hE hA _ ⟨u4, _⟩ => core_val rfl rfl (o_not u4 rfl),
 mU rfl rfl rfl,
 fun ρz wz hE hA ⟨e4, _⟩ ⟨u6, _⟩ => gIf rfl rfl (yF rfl u6) fun gc F hF => core_val rfl hF (o_move (e4.trans h4)),
 fun ρz wz hE hA _ ⟨u6, u7, _⟩ => gIf rfl rfl (yF rfl u6) fun gc F hF => core_callF (V := fnV_113) (W := fnW_113) (a := str13) (r := z13) hF (gt gc u7) (call_args1 rfl) (FnR.mk (V := fnV_113) (W := fnW_113) (G := noG) (cap := [.pointer (some ⟨b3_, 0, none⟩)]) cf_91 (fun w' hE' x r hr => fact_Valid_1_ok _ _ ((Hb_b3_.exn (hA rfl)).exn hE') hr)) (hz13 gc),
 fun ρz wz hE hA ⟨e1, _⟩ ⟨u6, _⟩ => gIf rfl rfl (yF rfl u6) fun gc F hF => core_val rfl hF (o_fieldAddr (e1.trans h1) (fa_38_10 _ _)),
 fun ρz wz hE hA _ ⟨u6, u9, _⟩ => gIf rfl rfl (yF rfl u6) fun gc F hF => core_val rfl hF (o_load (gt gc u9) (run_load1 (lr_3 _ _) (CA.sub ((Hb_b1_.exn (hA rfl)).ca) 11 1))),
 fun ρz wz hE hA _ ⟨u6, u8, u10, _⟩ => gIf rfl rfl (yF rfl u6) fun gc F hF => core_call hF (call_args4 (gt gc u8) (gt gc u10) rfl rfl) cf_94 (fact_field_ok  _ _ _ _  (hz14 gc)),
 fun ρz wz hE hA _ ⟨u6, u11, _⟩ => gIf rfl rfl (yF rfl u6) fun gc F hF => core_val rfl hF (o_not (gt gc u11) rfl),
 fun ρz wz hE hA _ ⟨u6, u12, _⟩ => core_valE rfl rfl (congrArg Value.bool hc7) (o_pick_or u6 rfl u12),
 mU rfl rfl rfl,
 fun ρz wz hE hA ⟨e4, _⟩ ⟨u14, _⟩ => gIf rfl rfl (yF rfl u14) fun gc F hF => core_val rfl hF (o_move (e4.trans h4)),
 fun ρz wz hE hA _ ⟨u14, u15, _⟩ => gIf rfl rfl (yF rfl u14) fun gc F hF => core_callF (V := fnV_113) (W := fnW_113) (a := str14) (r := z15) hF (gt gc u15) (call_args1 rfl) (FnR.mk (V := fnV_113) (W := fnW_113) (G := noG) (cap := [.pointer (some ⟨b3_, 0, none⟩)]) cf_91 (fun w' hE' x r hr => fact_Valid_1_ok _ _ ((Hb_b3_.exn (hA rfl)).exn hE') hr)) (hz15 gc),
 fun ρz wz hE hA ⟨e1, _⟩ ⟨u14, _⟩ => gIf rfl rfl (yF rfl u14) fun gc F hF => core_val rfl hF (o_fieldAddr (e1.trans h1) (fa_38_11 _ _)),
 fun ρz wz hE hA _ ⟨u14, u17, _⟩ => gIf rfl rfl (yF rfl u14) fun gc F hF => core_val rfl hF (o_load (gt gc u17) (run_load1 (lr_3 _ _) (CA.sub ((Hb_b1_.exn (hA rfl)).ca) 12 1))),
 fun ρz wz hE hA _ ⟨u14, u16, u18, _⟩ => gIf rfl rfl (yF rfl u14) fun gc F hF => core_call hF (call_args4 (gt gc u16) (gt gc u18) rfl rfl) cf_94 (fact_field_ok  _ _ _ _  (hz16 gc)),
 fun ρz wz hE hA _ ⟨u14, u19, _⟩ => gIf rfl rfl (yF rfl u14) fun gc F hF => core_val rfl hF (o_not (gt gc u19) rfl),
 fun ρz wz hE hA _ ⟨u14, u20, _⟩ => core_valE rfl rfl (congrArg Value.bool hc8) (o_pick_or u14 rfl u20),
 mU rfl rfl rfl,
 fun ρz wz hE hA ⟨e4, _⟩ ⟨u22, _⟩ => gIf rfl rfl (yF rfl u22) fun gc F hF => core_val rfl hF (o_move (e4.trans h4)),
 fun ρz wz hE hA _ ⟨u22, u23, _⟩ => gIf rfl rfl (yF rfl u22) fun gc F hF => core_callF (V := fnV_113) (W := fnW_113) (a := str15) (r := z17) hF (gt gc u23) (call_args1 rfl) (FnR.mk (V := fnV_113) (W := fnW_113) (G := noG) (cap := [.pointer (some ⟨b3_, 0, none⟩)]) cf_91 (fun w' hE' x r hr => fact_Valid_1_ok _ _ ((Hb_b3_.exn (hA rfl)).exn hE') hr)) (hz17 gc),
 fun ρz wz hE hA ⟨e1, _⟩ ⟨u22, _⟩ => gIf rfl rfl (yF rfl u22) fun gc F hF => core_val rfl hF (o_fieldAddr (e1.trans h1) (fa_38_12 _ _)),
 fun ρz wz hE hA _ ⟨u22, u25, _⟩ => gIf rfl rfl (yF rfl u22) fun gc F hF => core_val rfl hF (o_load (gt gc u25) (run_load1 (lr_3 _ _) (CA.sub ((Hb_b1_.exn (hA rfl)).ca) 13 1))),
 fun ρz wz hE hA _ ⟨u22, u24, u26, _⟩ => gIf rfl rfl (yF rfl u22) fun gc F hF => core_call hF (call_args4 (gt gc u24) (gt gc u26) rfl rfl) cf_94 (fact_field_ok  _ _ _ _  (hz18 gc)),
 fun ρz wz hE hA _ ⟨u22, u27, _⟩ => gIf rfl rfl (yF rfl u22) fun gc F hF => core_val rfl hF (o_not (gt gc u27) rfl),
 fun ρz wz hE hA _ ⟨u22, u28, _⟩ => core_valE rfl rfl (congrArg Value.bool hc9) (o_pick_or u22 rfl u28),
 aU rfl rfl rfl, trivial⟩ ?_
  intro ρ8 w8 hN hf hr
  have h57 := hv hf 30 rfl rfl
  have h1 := (hr 1 rfl).trans h1
  have Hb_b1_n := Hb_b1_.exn hN
  have hW := hW.trans hN
  have Hb_b1_ := Hb_b1_n
  refine WP.cond rfl h57 (fun hb => ?_) (fun hb => ?_)
  · have hF := (if_pos hb).symm.trans hF
    refine WP.seq (WP.rb mixed [[]] [[]] [(2, .bool false)] (by kernel_rfl) ⟨aC rfl rfl (fun _ => rfl), trivial⟩ ?_)
    intro ρ9 w9 hN hf hr
    have h2 := hv hf 0 rfl rfl
    have hW := hW.trans hN
    refine WP.ret ?_
    show retQ Tryz.prog 116 Tryz.f64 (fun v w1 => v = .bool r ∧ Ext noG w0 w1) .ret ρ9 w9
    obtain rfl := Option.some.inj hF
    exact res1 rfl (by decide) h2 ⟨rfl, hW⟩
  have hF := (if_neg (Bool.eq_false_iff.1 hb)).symm.trans hF
  refine WP.skip (WP.seq (WP.seq (WP.rb mixed [[], [0]] [[1], []] [(88, .pointer (some ((⟨b1_, 0, none⟩ : Addr).add 5))), (89, .int .i64 d_.Kind)] (by kernel_rfl) ⟨fun ρz wz hE hA ⟨e1, _⟩ _ => core_val rfl rfl (o_fieldAddr (e1.trans h1) (fa_38_5 _ _)),
 fun ρz wz hE hA _ ⟨u0, _⟩ => core_val rfl rfl (o_load u0 (run_load1 (lr_3 _ _) (CA.sub ((Hb_b1_.exn (hA rfl)).ca) 5 1))), trivial⟩ ?_)))
  intro ρ10 w10 hN hf hr
  have h89 := hv hf 1 rfl rfl
  have h1 := (hr 1 rfl).trans h1
  have Hb_b1_n := Hb_b1_.exn hN
  have hW := hW.trans hN
  have Hb_b1_ := Hb_b1_n
  refine WP.block (WP.seq (WP.rb mixed [[], [0]] [[89], []] [(91, .bool (d_.Kind == 4)), (90, .bool (d_.Kind == 4))] (by kernel_rfl) ⟨fun ρz wz hE hA ⟨e89, _⟩ _ => core_val rfl rfl (o_eql (e89.trans h89) rfl rfl),
 aU rfl rfl rfl, trivial⟩ ?_))
  intro ρ11 w11 hN hf hr
  have h90 := hv hf 1 rfl rfl
  obtain ⟨h1, h89⟩ := k2 hr h1 h89 rfl
  have Hb_b1_n := Hb_b1_.exn hN
  have hW := hW.trans hN
  have Hb_b1_ := Hb_b1_n
  refine WP.cond rfl h90 (fun hb => ?_) (fun hb => ?_)
  · have hF := (if_pos hb).symm.trans hF
    refine WP.seq (WP.rb mixed [[], [0], [], [2], [1, 3], [4]] [[1], [], [1], [], [], []] [(92, .pointer (some ((⟨b1_, 0, none⟩ : Addr).add 6))), (93, .int .i64 d_.State), (94, .pointer (some ((⟨b1_, 0, none⟩ : Addr).add 9))), (95, .int .i64 d_.Seat), (96, .bool (d_.State != d_.Seat)), (2, .bool (d_.State != d_.Seat))] (by kernel_rfl) ⟨fun ρz wz hE hA ⟨e1, _⟩ _ => core_val rfl rfl (o_fieldAddr (e1.trans h1) (fa_38_6 _ _)),
 fun ρz wz hE hA _ ⟨u0, _⟩ => core_val rfl rfl (o_load u0 (run_load1 (lr_3 _ _) (CA.sub ((Hb_b1_.exn (hA rfl)).ca) 6 1))),
 fun ρz wz hE hA ⟨e1, _⟩ _ => core_val rfl rfl (o_fieldAddr (e1.trans h1) (fa_38_8 _ _)),
 fun ρz wz hE hA _ ⟨u2, _⟩ => core_val rfl rfl (o_load u2 (run_load1 (lr_3 _ _) (CA.sub ((Hb_b1_.exn (hA rfl)).ca) 9 1))),
 fun ρz wz hE hA _ ⟨u1, u3, _⟩ => core_val rfl rfl (o_neq u1 u3 rfl),
 aU rfl rfl rfl, trivial⟩ ?_)
    intro ρ12 w12 hN hf hr
    have h2 := hv hf 5 rfl rfl
    have hW := hW.trans hN
    refine WP.ret ?_
    show retQ Tryz.prog 116 Tryz.f64 (fun v w1 => v = .bool r ∧ Ext noG w0 w1) .ret ρ12 w12
    obtain rfl := Option.some.inj hF
    exact res1 rfl (by decide) h2 ⟨rfl, hW⟩
  have hF := (if_neg (Bool.eq_false_iff.1 hb)).symm.trans hF
  refine WP.seqJ (fun ρ w => ∃ x : Bool, ρ 1 = .pointer (some ⟨b1_, 0, none⟩) ∧ ρ 89 = .int .i64 d_.Kind ∧ ρ 97 = .bool x ∧ Mb w b1_ 38 (api_Fact.cells d_) ∧ Ext noG w0 w ∧ fact_Valid_j d_ x = some r) ?_ ?_
  · refine WP.seq (WP.rb mixed [[], [0]] [[89], []] [(98, .bool (d_.Kind == 11)), (97, .bool (d_.Kind == 11))] (by kernel_rfl) ⟨fun ρz wz hE hA ⟨e89, _⟩ _ => core_val rfl rfl (o_eql (e89.trans h89) rfl rfl),
 aU rfl rfl rfl, trivial⟩ ?_)
    intro ρ20 w20 hN hf hr
    have h97 := hv hf 1 rfl rfl
    obtain ⟨h1, h89⟩ := k2 hr h1 h89 rfl
    have Hb_b1_n := Hb_b1_.exn hN
    have hW := hW.trans hN
    have Hb_b1_ := Hb_b1_n
    refine WP.cond rfl h97 (fun hb => ?_) (fun hb => ?_)
    · have hF := (if_pos hb).symm.trans hF
      refine WP.skip ?_
      exact ⟨(d_.Kind == 11), h1, h89, h97, Hb_b1_, hW, hF⟩
    have hF := (if_neg (Bool.eq_false_iff.1 hb)).symm.trans hF
    refine WP.rb mixed [[], [0]] [[89], []] [(99, .bool (d_.Kind == 12)), (97, .bool (d_.Kind == 12))] (by kernel_rfl) ⟨fun ρz wz hE hA ⟨e89, _⟩ _ => core_val rfl rfl (o_eql (e89.trans h89) rfl rfl),
 aU rfl rfl rfl, trivial⟩ ?_
    intro ρ21 w21 hN hf hr
    have h97 := hv hf 1 rfl rfl
    obtain ⟨h1, h89⟩ := k2 hr h1 h89 rfl
    have Hb_b1_n := Hb_b1_.exn hN
    have hW := hW.trans hN
    have Hb_b1_ := Hb_b1_n
    exact ⟨(d_.Kind == 12), h1, h89, h97, Hb_b1_, hW, hF⟩
  rintro ρ13 w13 ⟨x, h1, h89, h97, Hb_b1_, hW, hF⟩
  rw [fact_Valid_j] at hF
  refine WP.cond rfl h97 (fun hb => ?_) (fun hb => ?_)
  · have hF := (if_pos hb).symm.trans hF
    refine WP.seq (WP.rb mixed [[], [0], [1], [], [3], [4], [5], [2, 6], [7]] [[1], [], [], [1], [], [], [], [], []] [(100, .pointer (some ((⟨b1_, 0, none⟩ : Addr).add 7))), (101, .pointer (some (((⟨b1_, 0, none⟩ : Addr).add 7).add 1))), (102, .int .i64 d_.Span.To), (103, .pointer (some ((⟨b1_, 0, none⟩ : Addr).add 7))), (104, .pointer (some (((⟨b1_, 0, none⟩ : Addr).add 7).add 0))), (105, .int .i64 d_.Span.From), (106, .int .i64 (i64 (d_.Span.From + 1))), (107, .bool (d_.Span.To == i64 (d_.Span.From + 1))), (2, .bool (d_.Span.To == i64 (d_.Span.From + 1)))] (by kernel_rfl) ⟨fun ρz wz hE hA ⟨e1, _⟩ _ => core_val rfl rfl (o_fieldAddr (e1.trans h1) (fa_38_7 _ _)),
 fun ρz wz hE hA _ ⟨u0, _⟩ => core_val rfl rfl (o_fieldAddr u0 (fa_36_1 _ _)),
 fun ρz wz hE hA _ ⟨u1, _⟩ => core_val rfl rfl (o_load u1 (run_load1 (lr_3 _ _) (CA.sub (CA.sub ((Hb_b1_.exn (hA rfl)).ca) 7 2) 1 1))),
 fun ρz wz hE hA ⟨e1, _⟩ _ => core_val rfl rfl (o_fieldAddr (e1.trans h1) (fa_38_7 _ _)),
 fun ρz wz hE hA _ ⟨u3, _⟩ => core_val rfl rfl (o_fieldAddr u3 (fa_36_0 _ _)),
 fun ρz wz hE hA _ ⟨u4, _⟩ => core_val rfl rfl (o_load u4 (run_load1 (lr_3 _ _) (CA.sub (CA.sub ((Hb_b1_.exn (hA rfl)).ca) 7 2) 0 1))),
 fun ρz wz hE hA _ ⟨u5, _⟩ => core_val rfl rfl (o_add u5 rfl rfl),
 fun ρz wz hE hA _ ⟨u2, u6, _⟩ => core_val rfl rfl (o_eql u2 u6 rfl),
 aU rfl rfl rfl, trivial⟩ ?_)
    intro ρ14 w14 hN hf hr
    have h2 := hv hf 8 rfl rfl
    have hW := hW.trans hN
    refine WP.ret ?_
    show retQ Tryz.prog 116 Tryz.f64 (fun v w1 => v = .bool r ∧ Ext noG w0 w1) .ret ρ14 w14
    obtain rfl := Option.some.inj hF
    exact res1 rfl (by decide) h2 ⟨rfl, hW⟩
  have hF := (if_neg (Bool.eq_false_iff.1 hb)).symm.trans hF
  refine WP.seqJ (fun ρ w => ∃ x2 : Bool, ρ 1 = .pointer (some ⟨b1_, 0, none⟩) ∧ ρ 108 = .bool x2 ∧ Mb w b1_ 38 (api_Fact.cells d_) ∧ Ext noG w0 w ∧ fact_Valid_j2 d_ x2 = some r) ?_ ?_
  · refine WP.seq (WP.rb mixed [[], [0]] [[89], []] [(109, .bool (d_.Kind == 10)), (108, .bool (d_.Kind == 10))] (by kernel_rfl) ⟨fun ρz wz hE hA ⟨e89, _⟩ _ => core_val rfl rfl (o_eql (e89.trans h89) rfl rfl),
 aU rfl rfl rfl, trivial⟩ ?_)
    intro ρ18 w18 hN hf hr
    have h108 := hv hf 1 rfl rfl
    obtain ⟨h1, h89⟩ := k2 hr h1 h89 rfl
    have Hb_b1_n := Hb_b1_.exn hN
    have hW := hW.trans hN
    have Hb_b1_ := Hb_b1_n
    refine WP.cond rfl h108 (fun hb => ?_) (fun hb => ?_)
    · have hF := (if_pos hb).symm.trans hF
      refine WP.skip ?_
      exact ⟨(d_.Kind == 10), h1, h108, Hb_b1_, hW, hF⟩
    have hF := (if_neg (Bool.eq_false_iff.1 hb)).symm.trans hF
    refine WP.rb mixed [[], [0]] [[89], []] [(110, .bool (d_.Kind == 14)), (108, .bool (d_.Kind == 14))] (by kernel_rfl) ⟨fun ρz wz hE hA ⟨e89, _⟩ _ => core_val rfl rfl (o_eql (e89.trans h89) rfl rfl),
 aU rfl rfl rfl, trivial⟩ ?_
    intro ρ19 w19 hN hf hr
    have h108 := hv hf 1 rfl rfl
    have h1 := (hr 1 rfl).trans h1
    have Hb_b1_n := Hb_b1_.exn hN
    have hW := hW.trans hN
    have Hb_b1_ := Hb_b1_n
    exact ⟨(d_.Kind == 14), h1, h108, Hb_b1_, hW, hF⟩
  rintro ρ15 w15 ⟨x2, h1, h108, Hb_b1_, hW, hF⟩
  rw [fact_Valid_j2] at hF
  refine WP.cond rfl h108 (fun hb => ?_) (fun hb => ?_)
  · have hF := (if_pos hb).symm.trans hF
    refine WP.seq (WP.rb mixed [[], [0], [], [2], [1, 3], [4]] [[1], [], [1], [], [], []] [(111, .pointer (some ((⟨b1_, 0, none⟩ : Addr).add 13))), (112, .int .i64 d_.Ref), (113, .pointer (some ((⟨b1_, 0, none⟩ : Addr).add 4))), (114, .int .i64 d_.Person), (115, .bool (d_.Ref != d_.Person)), (2, .bool (d_.Ref != d_.Person))] (by kernel_rfl) ⟨fun ρz wz hE hA ⟨e1, _⟩ _ => core_val rfl rfl (o_fieldAddr (e1.trans h1) (fa_38_12 _ _)),
 fun ρz wz hE hA _ ⟨u0, _⟩ => core_val rfl rfl (o_load u0 (run_load1 (lr_3 _ _) (CA.sub ((Hb_b1_.exn (hA rfl)).ca) 13 1))),
 fun ρz wz hE hA ⟨e1, _⟩ _ => core_val rfl rfl (o_fieldAddr (e1.trans h1) (fa_38_4 _ _)),
 fun ρz wz hE hA _ ⟨u2, _⟩ => core_val rfl rfl (o_load u2 (run_load1 (lr_3 _ _) (CA.sub ((Hb_b1_.exn (hA rfl)).ca) 4 1))),
 fun ρz wz hE hA _ ⟨u1, u3, _⟩ => core_val rfl rfl (o_neq u1 u3 rfl),
 aU rfl rfl rfl, trivial⟩ ?_)
    intro ρ16 w16 hN hf hr
    have h2 := hv hf 5 rfl rfl
    have hW := hW.trans hN
    refine WP.ret ?_
    show retQ Tryz.prog 116 Tryz.f64 (fun v w1 => v = .bool r ∧ Ext noG w0 w1) .ret ρ16 w16
    obtain rfl := Option.some.inj hF
    exact res1 rfl (by decide) h2 ⟨rfl, hW⟩
  have hF := (if_neg (Bool.eq_false_iff.1 hb)).symm.trans hF
  refine WP.skip (WP.seq (WP.rb mixed [[]] [[]] [(2, .bool true)] (by kernel_rfl) ⟨aC rfl rfl (fun _ => rfl), trivial⟩ ?_))
  intro ρ17 w17 hN hf hr
  have h2 := hv hf 0 rfl rfl
  have hW := hW.trans hN
  refine WP.ret ?_
  show retQ Tryz.prog 116 Tryz.f64 (fun v w1 => v = .bool r ∧ Ext noG w0 w1) .ret ρ17 w17
  obtain rfl := Option.some.inj hF
  exact res1 rfl (by decide) h2 ⟨rfl, hW⟩

set_option maxHeartbeats 4000000 in
theorem career_merge_of_api_Fact_ok {w0 : World} (d_ : List api_Fact) (i_ : List api_Fact) (p_ : (api_Fact × api_Fact) → Option Int) (p_2 : (api_Fact × api_Fact) → Option api_Fact) {v_d_ : Value} (H_d_ : RepSl api_Fact.R noG w0 v_d_ d_) {v_i_ : Value} (H_i_ : RepSl api_Fact.R noG w0 v_i_ i_) {v_p_ : Value} (H_p_ : FnR Tryz.prog fnV_86 fnW_86 p_ noG w0 v_p_) {v_p_2 : Value} (H_p_2 : FnR Tryz.prog fnV_87 fnW_87 p_2 noG w0 v_p_2) {r : (List api_Fact)} (hF : career_merge_of_api_Fact d_ i_ p_ p_2 = some r) :
    Calls Tryz.prog 54 #[v_d_, v_i_, v_p_, v_p_2] w0 fun e w1 => ∃ v, e = .returned v ∧ Ext noG w0 w1 ∧ Own w0.heap.size 38 14 api_Fact.cells w1 v r := by
  refine (Calls.start (P := Tryz.prog) (args := [v_d_, v_i_, v_p_, v_p_2]) (R := fun v w1 => Own w0.heap.size 38 14 api_Fact.cells w1 v r ∧ Ext noG w0 w1) (n := 69) (w := w0) Tryz.func54 rfl rfl (Nat.le_of_ble_eq_true rfl) (fun ρ hargs => ?_)).mono (fun e w1 ⟨v, he, hv, hE⟩ => ⟨v, he, hE, hv⟩)
  have h0 := hargs 0 _ rfl
  have h1 := hargs 1 _ rfl
  have h2 := hargs 2 _ rfl
  have h3 := hargs 3 _ rfl
  have hW := Ext.refl noG w0
  obtain ⟨_, _, hs_H_d_, _, _⟩ := RepSl.shape H_d_
  have H_d_ := H_d_.start
  obtain ⟨_, _, hs_H_i_, _, _⟩ := RepSl.shape H_i_
  have H_i_ := H_i_.start
  have H_p_ := H_p_.start
  have H_p_2 := H_p_2.start
  rw [career_merge_of_api_Fact] at hF
  refine WP.seq (WP.rb mixed [[]] [[]] [(8, .slice none 0 0)] (by kernel_rfl) ⟨aC rfl rfl (fun _ => rfl), trivial⟩ ?_)
  intro ρ1 w1 hN hf hr
  obtain ⟨h0, h1, h2, h3⟩ := k4 hr h0 h1 h2 h3 rfl
  have H_d_ := H_d_.exn hN
  have H_i_ := H_i_.exn hN
  have H_p_ := H_p_.exn hN
  have H_p_2 := H_p_2.exn hN
  have hW := hW.trans hN
  refine WP.seq (WP.rb mixed [[]] [[]] [(9, .slice none 0 0)] (by kernel_rfl) ⟨aC rfl rfl (fun _ => rfl), trivial⟩ ?_)
  intro ρ2 w2 hN hf hr
  have h9 : ρ2 9 = .slice none 0 0 := hf 0 rfl
  have O9 : Own w0.heap.size 38 14 api_Fact.cells w2 (.slice none 0 0) [] := Own.nil _ _ _ _ _
  obtain ⟨h0, h1, h2, h3⟩ := k4 hr h0 h1 h2 h3 rfl
  have H_d_ := H_d_.exn hN
  have H_i_ := H_i_.exn hN
  have H_p_ := H_p_.exn hN
  have H_p_2 := H_p_2.exn hN
  have hW := hW.trans hN
  have O9 : Own w0.heap.size 38 14 api_Fact.cells w2 (.slice none 0 0) [] := Own.nil _ _ _ _ _
  refine WP.seq (WP.block ?_)
  have Hv0 := H_d_
  have Hv1 := H_i_
  refine WP.loop (fun k_ ρ w => ∃ d_2 : List api_Fact, ∃ i_2 : List api_Fact, ∃ x : List api_Fact, ∃ v0_ : Value, ∃ v1_ : Value, ∃ v9_ : Value, ρ 0 = v0_ ∧ ρ 1 = v1_ ∧ ρ 2 = v_p_ ∧ ρ 3 = v_p_2 ∧ ρ 9 = v9_ ∧ FnR Tryz.prog fnV_86 fnW_86 p_ (gfr noG w0) w v_p_ ∧ FnR Tryz.prog fnV_87 fnW_87 p_2 (gfr noG w0) w v_p_2 ∧ RepSl api_Fact.R (gfr noG w0) w v0_ d_2 ∧ RepSl api_Fact.R (gfr noG w0) w v1_ i_2 ∧ Own w0.heap.size 38 14 api_Fact.cells w v9_ x ∧ Ext noG w0 w ∧ loopC k_ (career_merge_of_api_Fact_l p_ p_2) (d_2, i_2, x) = some r) FU ⟨d_, i_, [], v_d_, v_i_, .slice none 0 0, h0, h1, h2, h3, h9, H_p_, H_p_2, Hv0, Hv1, O9, hW, hF⟩ (fun _ _ h => by obtain ⟨_, _, _, _, _, _, _, _, _, _, _, _, _, _, _, _, _, h⟩ := h; cases h) ?_
  rintro k_ ρ3 w3 ⟨d_2, i_2, x, v0_, v1_, v9_, h0, h1, h2, h3, h9, H_p_, H_p_2, Hv0, Hv1, O9, hW, hF⟩
  obtain ⟨_, _, hs_Hv0, _, _⟩ := RepSl.shape Hv0
  obtain ⟨_, _, hs_Hv1, _, _⟩ := RepSl.shape Hv1
  have hF : career_merge_of_api_Fact_l p_ p_2 (loopC k_ (career_merge_of_api_Fact_l p_ p_2)) (d_2, i_2, x) = some r := (loopC_succ k_ (career_merge_of_api_Fact_l p_ p_2) (d_2, i_2, x)).symm.trans hF
  generalize hrec_ : loopC k_ (career_merge_of_api_Fact_l p_ p_2) = rec_ at hF
  rw [career_merge_of_api_Fact_l] at hF
  refine WP.seq (WP.seq (WP.rb mixed [[], [0], [1], [2], [3], [3, 4], [3, 5], [3, 6]] [[0], [], [], [], [1], [], [], []] [(11, v0_), (12, .int .i64 (d_2.length : Int)), (13, .bool (decide (0 < (d_2.length : Int)))), (14, .bool (decide (0 < (d_2.length : Int)))), (15, gv (decide (0 < (d_2.length : Int))) v1_), (16, gv (decide (0 < (d_2.length : Int))) (.int .i64 (i_2.length : Int))), (17, gv (decide (0 < (d_2.length : Int))) (.bool (decide (0 < (i_2.length : Int))))), (18, .bool (decide (0 < (d_2.length : Int)) && decide (0 < (i_2.length : Int))))] (by kernel_rfl) ⟨mE rfl rfl h0,
 fun ρz wz hE hA _ ⟨u0, _⟩ => core_val rfl rfl (o_len (u0.trans hs_Hv0) len_24),
 fun ρz wz hE hA _ ⟨u1, _⟩ => core_val rfl rfl (o_gtr u1 rfl rfl),
 mU rfl rfl rfl,
 fun ρz wz hE hA ⟨e1, _⟩ ⟨u3, _⟩ => gIf rfl rfl (yT rfl u3) fun gc F hF => core_val rfl hF (o_move (e1.trans h1)),
 fun ρz wz hE hA _ ⟨u3, u4, _⟩ => gIf rfl rfl (yT rfl u3) fun gc F hF => core_val rfl hF (o_len ((gt gc u4).trans hs_Hv1) len_24),
 fun ρz wz hE hA _ ⟨u3, u5, _⟩ => gIf rfl rfl (yT rfl u3) fun gc F hF => core_val rfl hF (o_gtr (gt gc u5) rfl rfl),
 fun ρz wz hE hA _ ⟨u3, u6, _⟩ => core_val rfl rfl (o_pick_and u3 u6 rfl), trivial⟩ ?_))
  intro ρ4 w4 hN hf hr
  have h18 := hv hf 7 rfl rfl
  obtain ⟨h0, h1, h2, h3, h9⟩ := k5 hr h0 h1 h2 h3 h9 rfl
  have Oo_O9 := O9
  have H_p_ := H_p_.exn hN
  have H_p_2 := H_p_2.exn hN
  have Hv0 := Hv0.exn hN
  have Hv1 := Hv1.exn hN
  have hW := hW.trans hN
  have O9 := Oo_O9.exn hN
  refine WP.cond rfl h18 (fun hb => ?_) (fun hb => ?_)
  · have hF := (if_pos hb).symm.trans hF
    refine WP.skip (WP.block (WP.seq ?_))
    obtain ⟨y, hy, hF⟩ := obind hF
    obtain ⟨ay, cy, hvy, hiy, hAy⟩ := RepSl.getF Hv0 hy
    obtain ⟨y2, hy2, hF⟩ := obind hF
    obtain ⟨ay2, cy2, hvy2, hiy2, hAy2⟩ := RepSl.getF Hv1 hy2
    obtain ⟨z, hz, hF⟩ := obind hF
    refine WP.rb mixed [[], [], [1], [2], [], [4], [5], [0, 3, 6], [7]] [[2], [0], [], [], [1], [], [], [], []] [(19, v_p_), (20, v0_), (21, .pointer (some (ay.add (Int.toNat 0 * 14)))), (22, api_Fact.val y), (23, v1_), (24, .pointer (some (ay2.add (Int.toNat 0 * 14)))), (25, api_Fact.val y2), (26, .int .i64 z), (10, .int .i64 z)] (by kernel_rfl) ⟨mE rfl rfl h2,
 mE rfl rfl h0,
 fun ρz wz hE hA _ ⟨u1, _⟩ => core_val rfl rfl (o_indexAddr (u1.trans hvy) rfl (ia_24 hiy)),
 fun ρz wz hE hA _ ⟨u2, _⟩ => core_val rfl rfl (o_load u2 (run_loadN (cs := (api_Fact.cells y)) (lr_38 _ _) rfl ((hAy.exn (hA rfl)).ca))),
 mE rfl rfl h1,
 fun ρz wz hE hA _ ⟨u4, _⟩ => core_val rfl rfl (o_indexAddr (u4.trans hvy2) rfl (ia_24 hiy2)),
 fun ρz wz hE hA _ ⟨u5, _⟩ => core_val rfl rfl (o_load u5 (run_loadN (cs := (api_Fact.cells y2)) (lr_38 _ _) rfl ((hAy2.exn (hA rfl)).ca))),
 fun ρz wz hE hA _ ⟨u0, u3, u6, _⟩ => core_callF (V := fnV_86) (W := fnW_86) (a := (y, y2)) (r := z) rfl u0 (call_args2 u3 u6) (H_p_.exn (hA rfl)).no hz,
 aU rfl rfl rfl, trivial⟩ ?_
    intro ρ5 w5 hN hf hr
    have h10 := hv hf 8 rfl rfl
    obtain ⟨h0, h1, h2, h3, h9⟩ := k5 hr h0 h1 h2 h3 h9 rfl
    have Oo_O9 := O9
    have H_p_ := H_p_.exn hN
    have H_p_2 := H_p_2.exn hN
    have Hv0 := Hv0.exn hN
    have Hv1 := Hv1.exn hN
    have hW := hW.trans hN
    have O9 := Oo_O9.exn hN
    refine WP.block (WP.seq (WP.rb mixed [[], [0], [1]] [[10], [], []] [(43, .int .i64 z), (44, .bool (decide (z < 0))), (42, .bool (decide (z < 0)))] (by kernel_rfl) ⟨mE rfl rfl h10,
 fun ρz wz hE hA _ ⟨u0, _⟩ => core_val rfl rfl (o_lss u0 rfl rfl),
 aU rfl rfl rfl, trivial⟩ ?_))
    intro ρ6 w6 hN hf hr
    have h42 := hv hf 2 rfl rfl
    obtain ⟨h0, h1, h2, h3, h9, h10⟩ := k6 hr h0 h1 h2 h3 h9 h10 rfl
    have Oo_O9 := O9
    have H_p_ := H_p_.exn hN
    have H_p_2 := H_p_2.exn hN
    have Hv0 := Hv0.exn hN
    have Hv1 := Hv1.exn hN
    have hW := hW.trans hN
    have O9 := Oo_O9.exn hN
    refine WP.cond rfl h42 (fun hb => ?_) (fun hb => ?_)
    · have hF := (if_pos hb).symm.trans hF
      obtain ⟨y3, hy3, hF⟩ := obind hF
      obtain ⟨ay3, cy3, hvy3, hiy3, hAy3⟩ := RepSl.getF Hv0 hy3
      obtain ⟨l, hl, hF⟩ := obind hF
      obtain ⟨s, hs, hF⟩ := obind hF
      refine WP.region mixed [[], [], [1], [2], [3], [0, 3, 4], [], [6], [0, 5], [1, 5, 6, 7]] [[], [], [1], [2], [3], [0, 4], [], [6], [5], [7]] [[9], [0], [], [], [], [], [0], [], [], []] [5] [] [val 45 (v9_), val 46 (v0_), val 47 (.pointer (some (ay3.add (Int.toNat 0 * 14)))), val 48 (api_Fact.val y3), (49, fun u wz => ∃ b, u = .slice (some ⟨b, 0, none⟩) 1 1 ∧ w6.heap.size ≤ b ∧ Mb wz b 38 (([y3]).flatMap api_Fact.cells)), (50, fun u wz => Own w0.heap.size 38 14 api_Fact.cells wz u l ∧ ∀ b, u.ownBlock = some b → (v9_.ownBlock = some b ∨ w6.heap.size ≤ b)), val 51 (v0_), (52, fun u wz => RepSl api_Fact.R (gfr noG w0) wz u s), (9, fun u wz => Own w0.heap.size 38 14 api_Fact.cells wz u l ∧ ∀ b, u.ownBlock = some b → (v9_.ownBlock = some b ∨ w6.heap.size ≤ b)), (0, fun u wz => RepSl api_Fact.R (gfr noG w0) wz u s)] (fun b => Value.ownBlock v9_ = some b) (by kernel_rfl) ⟨sV, sV, sV, sV, fun _ _ _ hE ⟨b, hz, hs, hM⟩ => ⟨b, hz, hs, hM.ext hE (fun hg => absurd (O9.lt hg).2 (Nat.not_lt.2 hs))⟩, fun _ _ _ hE ⟨hO, hf⟩ => ⟨hO.exn hE, hf⟩, sV, fun _ _ _ hE h => h.over hE (fun _ hb => (O9.lt hb).1), fun _ _ _ hE ⟨hO, hf⟩ => ⟨hO.exn hE, hf⟩, fun _ _ _ hE h => h.exn hE, trivial⟩ ⟨mE rfl rfl h9,
 mE rfl rfl h0,
 fun ρz wz hE hA _ ⟨u1, _⟩ => core_val rfl rfl (o_indexAddr (u1.trans hvy3) rfl (ia_24 hiy3)),
 fun ρz wz hE hA _ ⟨u2, _⟩ => core_val rfl rfl (o_load u2 (run_loadN (cs := (api_Fact.cells y3)) (lr_38 _ _) rfl ((hAy3.exn (hA rfl)).ca))),
 fun ρz wz hE hA _ ⟨u3, _⟩ => core_slice rfl rfl hE (o_buildSlice (build_parts1 u3) (bs_24_1 _ _)),
 fun ρz wz hE hA _ ⟨u0, ⟨bz4, hzn4, hge4, hM4⟩, _⟩ => core_append (n := 14) (cells := api_Fact.cells) (B := w0.heap.size) (w0 := w6) rfl rfl (fun b hb => hb) u0 hzn4 (fun _ => rfl) one_38 si_24 se_38 (by decide) (by decide) (O9.exn (hA rfl)) ⟨_, (Mb.rep (n := 14) (cells := api_Fact.cells) (hn := fun _ => rfl) (G := noG) hM4 rfl (Nat.le_of_ble_eq_true rfl) (fun h => h))⟩ hl (Nat.le_trans hW.size hE.size) hE.size (fun v1 w1 h1 h2 => ⟨h1, h2⟩),
 mE rfl rfl h0,
 fun ρz wz hE hA _ ⟨u6, _⟩ => core_cut (R := api_Fact.R) rfl u6 si_24 sz_38 (Hv0.over hE (fun _ hb => (O9.lt hb).1)) hs (.inr (congrArg some rfl)) (.inl ⟨rfl, rfl⟩) (fun _ h => h),
 fun ρz wz hE hA _ ⟨⟨hO5, hfr5⟩, _⟩ => core_copy rfl rfl (o_assign rfl) ⟨hO5, hfr5⟩,
 fun ρz wz hE hA _ ⟨hR7, _⟩ => core_copy rfl rfl (o_assign rfl) hR7, trivial⟩ ?_
      intro ρ7 w7 hE hN hf hr
      obtain ⟨v0_2, h0⟩ : ∃ v, ρ7 0 = v := ⟨_, rfl⟩
      have hq0 : (fun u wz => RepSl api_Fact.R (gfr noG w0) wz u s) (ρ7 0) w7 := hf 9 rfl
      rw [h0] at hq0
      obtain ⟨v9_2, h9⟩ : ∃ v, ρ7 9 = v := ⟨_, rfl⟩
      have hq9 : (fun u wz => Own w0.heap.size 38 14 api_Fact.cells wz u l ∧ ∀ b, u.ownBlock = some b → (v9_.ownBlock = some b ∨ w6.heap.size ≤ b)) (ρ7 9) w7 := hf 8 rfl
      rw [h9] at hq9
      obtain ⟨hq9, hfr9⟩ := hq9
      obtain ⟨h1, h2, h3⟩ := k3 hr h1 h2 h3 rfl
      have Oo_O9 := O9
      have H_p_ := H_p_.over hE (fun b hb => (Oo_O9.lt hb).1)
      have H_p_2 := H_p_2.over hE (fun b hb => (Oo_O9.lt hb).1)
      have Hv1 := Hv1.over hE (fun b hb => (Oo_O9.lt hb).1)
      have hW := Ext.own hW hE (fun b hb => (Oo_O9.lt hb).1)
      have Hf0 := hq0
      obtain ⟨_, _, hs_Hf0, _, _⟩ := RepSl.shape Hf0
      have O9 := hq9
      have Hv0 := Hf0
      exact ⟨s, i_2, l, v0_2, v1_, v9_2, h0, h1, h2, h3, h9, H_p_, H_p_2, Hv0, Hv1, O9, hW, (by first | exact hF | (rw [hrec_]; exact hF))⟩
    have hF := (if_neg (Bool.eq_false_iff.1 hb)).symm.trans hF
    refine WP.seq (WP.rb mixed [[], [0], [1]] [[10], [], []] [(54, .int .i64 z), (55, .bool (decide (0 < z))), (53, .bool (decide (0 < z)))] (by kernel_rfl) ⟨mE rfl rfl h10,
 fun ρz wz hE hA _ ⟨u0, _⟩ => core_val rfl rfl (o_gtr u0 rfl rfl),
 aU rfl rfl rfl, trivial⟩ ?_)
    intro ρ8 w8 hN hf hr
    have h53 := hv hf 2 rfl rfl
    obtain ⟨h0, h1, h2, h3, h9⟩ := k5 hr h0 h1 h2 h3 h9 rfl
    have Oo_O9 := O9
    have H_p_ := H_p_.exn hN
    have H_p_2 := H_p_2.exn hN
    have Hv0 := Hv0.exn hN
    have Hv1 := Hv1.exn hN
    have hW := hW.trans hN
    have O9 := Oo_O9.exn hN
    refine WP.cond rfl h53 (fun hb => ?_) (fun hb => ?_)
    · have hF := (if_pos hb).symm.trans hF
      obtain ⟨y4, hy4, hF⟩ := obind hF
      obtain ⟨ay4, cy4, hvy4, hiy4, hAy4⟩ := RepSl.getF Hv1 hy4
      obtain ⟨l2, hl2, hF⟩ := obind hF
      obtain ⟨s2, hs2, hF⟩ := obind hF
      refine WP.region mixed [[], [], [1], [2], [3], [0, 3, 4], [], [6], [0, 5], [1, 5, 6, 7]] [[], [], [1], [2], [3], [0, 4], [], [6], [5], [7]] [[9], [1], [], [], [], [], [1], [], [], []] [5] [] [val 56 (v9_), val 57 (v1_), val 58 (.pointer (some (ay4.add (Int.toNat 0 * 14)))), val 59 (api_Fact.val y4), (60, fun u wz => ∃ b, u = .slice (some ⟨b, 0, none⟩) 1 1 ∧ w8.heap.size ≤ b ∧ Mb wz b 38 (([y4]).flatMap api_Fact.cells)), (61, fun u wz => Own w0.heap.size 38 14 api_Fact.cells wz u l2 ∧ ∀ b, u.ownBlock = some b → (v9_.ownBlock = some b ∨ w8.heap.size ≤ b)), val 62 (v1_), (63, fun u wz => RepSl api_Fact.R (gfr noG w0) wz u s2), (9, fun u wz => Own w0.heap.size 38 14 api_Fact.cells wz u l2 ∧ ∀ b, u.ownBlock = some b → (v9_.ownBlock = some b ∨ w8.heap.size ≤ b)), (1, fun u wz => RepSl api_Fact.R (gfr noG w0) wz u s2)] (fun b => Value.ownBlock v9_ = some b) (by kernel_rfl) ⟨sV, sV, sV, sV, fun _ _ _ hE ⟨b, hz, hs, hM⟩ => ⟨b, hz, hs, hM.ext hE (fun hg => absurd (O9.lt hg).2 (Nat.not_lt.2 hs))⟩, fun _ _ _ hE ⟨hO, hf⟩ => ⟨hO.exn hE, hf⟩, sV, fun _ _ _ hE h => h.over hE (fun _ hb => (O9.lt hb).1), fun _ _ _ hE ⟨hO, hf⟩ => ⟨hO.exn hE, hf⟩, fun _ _ _ hE h => h.exn hE, trivial⟩ ⟨mE rfl rfl h9,
 mE rfl rfl h1,
 fun ρz wz hE hA _ ⟨u1, _⟩ => core_val rfl rfl (o_indexAddr (u1.trans hvy4) rfl (ia_24 hiy4)),
 fun ρz wz hE hA _ ⟨u2, _⟩ => core_val rfl rfl (o_load u2 (run_loadN (cs := (api_Fact.cells y4)) (lr_38 _ _) rfl ((hAy4.exn (hA rfl)).ca))),
 fun ρz wz hE hA _ ⟨u3, _⟩ => core_slice rfl rfl hE (o_buildSlice (build_parts1 u3) (bs_24_1 _ _)),
 fun ρz wz hE hA _ ⟨u0, ⟨bz4, hzn4, hge4, hM4⟩, _⟩ => core_append (n := 14) (cells := api_Fact.cells) (B := w0.heap.size) (w0 := w8) rfl rfl (fun b hb => hb) u0 hzn4 (fun _ => rfl) one_38 si_24 se_38 (by decide) (by decide) (O9.exn (hA rfl)) ⟨_, (Mb.rep (n := 14) (cells := api_Fact.cells) (hn := fun _ => rfl) (G := noG) hM4 rfl (Nat.le_of_ble_eq_true rfl) (fun h => h))⟩ hl2 (Nat.le_trans hW.size hE.size) hE.size (fun v1 w1 h1 h2 => ⟨h1, h2⟩),
 mE rfl rfl h1,
 fun ρz wz hE hA _ ⟨u6, _⟩ => core_cut (R := api_Fact.R) rfl u6 si_24 sz_38 (Hv1.over hE (fun _ hb => (O9.lt hb).1)) hs2 (.inr (congrArg some rfl)) (.inl ⟨rfl, rfl⟩) (fun _ h => h),
 fun ρz wz hE hA _ ⟨⟨hO5, hfr5⟩, _⟩ => core_copy rfl rfl (o_assign rfl) ⟨hO5, hfr5⟩,
 fun ρz wz hE hA _ ⟨hR7, _⟩ => core_copy rfl rfl (o_assign rfl) hR7, trivial⟩ ?_
      intro ρ9 w9 hE hN hf hr
      obtain ⟨v1_2, h1⟩ : ∃ v, ρ9 1 = v := ⟨_, rfl⟩
      have hq1 : (fun u wz => RepSl api_Fact.R (gfr noG w0) wz u s2) (ρ9 1) w9 := hf 9 rfl
      rw [h1] at hq1
      obtain ⟨v9_3, h9⟩ : ∃ v, ρ9 9 = v := ⟨_, rfl⟩
      have hq9 : (fun u wz => Own w0.heap.size 38 14 api_Fact.cells wz u l2 ∧ ∀ b, u.ownBlock = some b → (v9_.ownBlock = some b ∨ w8.heap.size ≤ b)) (ρ9 9) w9 := hf 8 rfl
      rw [h9] at hq9
      obtain ⟨hq9, hfr9⟩ := hq9
      obtain ⟨h0, h2, h3⟩ := k3 hr h0 h2 h3 rfl
      have Oo_O9 := O9
      have H_p_ := H_p_.over hE (fun b hb => (Oo_O9.lt hb).1)
      have H_p_2 := H_p_2.over hE (fun b hb => (Oo_O9.lt hb).1)
      have Hv0 := Hv0.over hE (fun b hb => (Oo_O9.lt hb).1)
      have hW := Ext.own hW hE (fun b hb => (Oo_O9.lt hb).1)
      have Hf1 := hq1
      obtain ⟨_, _, hs_Hf1, _, _⟩ := RepSl.shape Hf1
      have O9 := hq9
      have Hv1 := Hf1
      exact ⟨d_2, s2, l2, v0_, v1_2, v9_3, h0, h1, h2, h3, h9, H_p_, H_p_2, Hv0, Hv1, O9, hW, (by first | exact hF | (rw [hrec_]; exact hF))⟩
    have hF := (if_neg (Bool.eq_false_iff.1 hb)).symm.trans hF
    obtain ⟨y5, hy5, hF⟩ := obind hF
    obtain ⟨ay5, cy5, hvy5, hiy5, hAy5⟩ := RepSl.getF Hv0 hy5
    obtain ⟨y6, hy6, hF⟩ := obind hF
    obtain ⟨ay6, cy6, hvy6, hiy6, hAy6⟩ := RepSl.getF Hv1 hy6
    obtain ⟨z2, hz2, hF⟩ := obind hF
    obtain ⟨l3, hl3, hF⟩ := obind hF
    obtain ⟨s3, hs3, hF⟩ := obind hF
    obtain ⟨s4, hs4, hF⟩ := obind hF
    refine WP.region mixed [[], [], [], [2], [3], [], [5], [6], [1, 4, 7], [4, 7, 8], [0, 4, 7, 8, 9], [], [11], [], [13], [0, 10], [2, 10, 11, 12], [5, 10, 13, 14]] [[], [], [], [2], [3], [], [5], [6], [1, 4, 7], [8], [0, 9], [], [11], [], [13], [10], [12], [14]] [[9], [3], [0], [], [], [1], [], [], [], [], [], [0], [], [1], [], [], [], []] [10] [] [val 27 (v9_), val 28 (v_p_2), val 29 (v0_), val 30 (.pointer (some (ay5.add (Int.toNat 0 * 14)))), val 31 (api_Fact.val y5), val 32 (v1_), val 33 (.pointer (some (ay6.add (Int.toNat 0 * 14)))), val 34 (api_Fact.val y6), val 35 (api_Fact.val z2), (36, fun u wz => ∃ b, u = .slice (some ⟨b, 0, none⟩) 1 1 ∧ w8.heap.size ≤ b ∧ Mb wz b 38 (([z2]).flatMap api_Fact.cells)), (37, fun u wz => Own w0.heap.size 38 14 api_Fact.cells wz u l3 ∧ ∀ b, u.ownBlock = some b → (v9_.ownBlock = some b ∨ w8.heap.size ≤ b)), val 38 (v0_), (39, fun u wz => RepSl api_Fact.R (gfr noG w0) wz u s3), val 40 (v1_), (41, fun u wz => RepSl api_Fact.R (gfr noG w0) wz u s4), (9, fun u wz => Own w0.heap.size 38 14 api_Fact.cells wz u l3 ∧ ∀ b, u.ownBlock = some b → (v9_.ownBlock = some b ∨ w8.heap.size ≤ b)), (0, fun u wz => RepSl api_Fact.R (gfr noG w0) wz u s3), (1, fun u wz => RepSl api_Fact.R (gfr noG w0) wz u s4)] (fun b => Value.ownBlock v9_ = some b) (by kernel_rfl) ⟨sV, sV, sV, sV, sV, sV, sV, sV, sV, fun _ _ _ hE ⟨b, hz, hs, hM⟩ => ⟨b, hz, hs, hM.ext hE (fun hg => absurd (O9.lt hg).2 (Nat.not_lt.2 hs))⟩, fun _ _ _ hE ⟨hO, hf⟩ => ⟨hO.exn hE, hf⟩, sV, fun _ _ _ hE h => h.over hE (fun _ hb => (O9.lt hb).1), sV, fun _ _ _ hE h => h.over hE (fun _ hb => (O9.lt hb).1), fun _ _ _ hE ⟨hO, hf⟩ => ⟨hO.exn hE, hf⟩, fun _ _ _ hE h => h.exn hE, fun _ _ _ hE h => h.exn hE, trivial⟩ ⟨mE rfl rfl h9,
 mE rfl rfl h3,
 mE rfl rfl h0,
 fun ρz wz hE hA _ ⟨u2, _⟩ => core_val rfl rfl (o_indexAddr (u2.trans hvy5) rfl (ia_24 hiy5)),
 fun ρz wz hE hA _ ⟨u3, _⟩ => core_val rfl rfl (o_load u3 (run_loadN (cs := (api_Fact.cells y5)) (lr_38 _ _) rfl ((hAy5.exn (hA rfl)).ca))),
 mE rfl rfl h1,
 fun ρz wz hE hA _ ⟨u5, _⟩ => core_val rfl rfl (o_indexAddr (u5.trans hvy6) rfl (ia_24 hiy6)),
 fun ρz wz hE hA _ ⟨u6, _⟩ => core_val rfl rfl (o_load u6 (run_loadN (cs := (api_Fact.cells y6)) (lr_38 _ _) rfl ((hAy6.exn (hA rfl)).ca))),
 fun ρz wz hE hA _ ⟨u1, u4, u7, _⟩ => core_callF (V := fnV_87) (W := fnW_87) (a := (y5, y6)) (r := z2) rfl u1 (call_args2 u4 u7) (H_p_2.exn (hA rfl)).no hz2,
 fun ρz wz hE hA _ ⟨u8, _⟩ => core_slice rfl rfl hE (o_buildSlice (build_parts1 u8) (bs_24_1 _ _)),
 fun ρz wz hE hA _ ⟨u0, ⟨bz9, hzn9, hge9, hM9⟩, _⟩ => core_append (n := 14) (cells := api_Fact.cells) (B := w0.heap.size) (w0 := w8) rfl rfl (fun b hb => hb) u0 hzn9 (fun _ => rfl) one_38 si_24 se_38 (by decide) (by decide) (O9.exn (hA rfl)) ⟨_, (Mb.rep (n := 14) (cells := api_Fact.cells) (hn := fun _ => rfl) (G := noG) hM9 rfl (Nat.le_of_ble_eq_true rfl) (fun h => h))⟩ hl3 (Nat.le_trans hW.size hE.size) hE.size (fun v1 w1 h1 h2 => ⟨h1, h2⟩),
 mE rfl rfl h0,
 fun ρz wz hE hA _ ⟨u11, _⟩ => core_cut (R := api_Fact.R) rfl u11 si_24 sz_38 (Hv0.over hE (fun _ hb => (O9.lt hb).1)) hs3 (.inr (congrArg some rfl)) (.inl ⟨rfl, rfl⟩) (fun _ h => h),
 mE rfl rfl h1,
 fun ρz wz hE hA _ ⟨u13, _⟩ => core_cut (R := api_Fact.R) rfl u13 si_24 sz_38 (Hv1.over hE (fun _ hb => (O9.lt hb).1)) hs4 (.inr (congrArg some rfl)) (.inl ⟨rfl, rfl⟩) (fun _ h => h),
 fun ρz wz hE hA _ ⟨⟨hO10, hfr10⟩, _⟩ => core_copy rfl rfl (o_assign rfl) ⟨hO10, hfr10⟩,
 fun ρz wz hE hA _ ⟨hR12, _⟩ => core_copy rfl rfl (o_assign rfl) hR12,
 fun ρz wz hE hA _ ⟨hR14, _⟩ => core_copy rfl rfl (o_assign rfl) hR14, trivial⟩ ?_
    intro ρ10 w10 hE hN hf hr
    obtain ⟨v0_3, h0⟩ : ∃ v, ρ10 0 = v := ⟨_, rfl⟩
    have hq0 : (fun u wz => RepSl api_Fact.R (gfr noG w0) wz u s3) (ρ10 0) w10 := hf 16 rfl
    rw [h0] at hq0
    obtain ⟨v1_3, h1⟩ : ∃ v, ρ10 1 = v := ⟨_, rfl⟩
    have hq1 : (fun u wz => RepSl api_Fact.R (gfr noG w0) wz u s4) (ρ10 1) w10 := hf 17 rfl
    rw [h1] at hq1
    obtain ⟨v9_4, h9⟩ : ∃ v, ρ10 9 = v := ⟨_, rfl⟩
    have hq9 : (fun u wz => Own w0.heap.size 38 14 api_Fact.cells wz u l3 ∧ ∀ b, u.ownBlock = some b → (v9_.ownBlock = some b ∨ w8.heap.size ≤ b)) (ρ10 9) w10 := hf 15 rfl
    rw [h9] at hq9
    obtain ⟨hq9, hfr9⟩ := hq9
    obtain ⟨h2, h3⟩ := k2 hr h2 h3 rfl
    have Oo_O9 := O9
    have H_p_ := H_p_.over hE (fun b hb => (Oo_O9.lt hb).1)
    have H_p_2 := H_p_2.over hE (fun b hb => (Oo_O9.lt hb).1)
    have hW := Ext.own hW hE (fun b hb => (Oo_O9.lt hb).1)
    have Hf0 := hq0
    obtain ⟨_, _, hs_Hf0, _, _⟩ := RepSl.shape Hf0
    have Hf1 := hq1
    obtain ⟨_, _, hs_Hf1, _, _⟩ := RepSl.shape Hf1
    have O9 := hq9
    have Hv0 := Hf0
    have Hv1 := Hf1
    exact ⟨s3, s4, l3, v0_3, v1_3, v9_4, h0, h1, h2, h3, h9, H_p_, H_p_2, Hv0, Hv1, O9, hW, (by first | exact hF | (rw [hrec_]; exact hF))⟩
  have hF := (if_neg (Bool.eq_false_iff.1 hb)).symm.trans hF
  refine WP.exit (thenQ_exit (thenQ_exit (blockQ_hit (WP.seq ?_))))
  obtain ⟨l4, hl4, hF⟩ := obind hF
  obtain ⟨l5, hl5, hF⟩ := obind hF
  refine WP.region mixed [[], [], [0, 1], [], [2, 3], [2, 4]] [[], [], [0, 1], [], [2, 3], [4]] [[9], [0], [], [1], [], []] [2, 4] [(2, 4)] [val 64 (v9_), val 65 (v0_), (66, fun u wz => Own w0.heap.size 38 14 api_Fact.cells wz u l4 ∧ ∀ b, u.ownBlock = some b → (v9_.ownBlock = some b ∨ w4.heap.size ≤ b)), val 67 (v1_), (68, fun u wz => Own w0.heap.size 38 14 api_Fact.cells wz u l5 ∧ ∀ b, u.ownBlock = some b → (v9_.ownBlock = some b ∨ w4.heap.size ≤ b)), (8, fun u wz => Own w0.heap.size 38 14 api_Fact.cells wz u l5 ∧ ∀ b, u.ownBlock = some b → (v9_.ownBlock = some b ∨ w4.heap.size ≤ b))] (fun b => Value.ownBlock v9_ = some b ∨ w4.heap.size ≤ b) (by kernel_rfl) ⟨sV, sV, fun _ _ _ hE ⟨hO, hf⟩ => ⟨hO.exn hE, hf⟩, sV, fun _ _ _ hE ⟨hO, hf⟩ => ⟨hO.exn hE, hf⟩, fun _ _ _ hE ⟨hO, hf⟩ => ⟨hO.exn hE, hf⟩, trivial⟩ ⟨mE rfl rfl h9,
 mE rfl rfl h0,
 fun ρz wz hE hA _ ⟨u0, u1, _⟩ => core_append (n := 14) (cells := api_Fact.cells) (B := w0.heap.size) (w0 := w4) rfl rfl (fun b hb => .inl hb) u0 u1 (fun _ => rfl) one_38 si_24 se_38 (by decide) (by decide) (O9.exn (hA rfl)) ⟨_, (Hv0.over hE (fun b hb => hb.elim (fun h => (O9.lt h).1) (fun h => Nat.le_trans hW.size h)))⟩ hl4 (Nat.le_trans hW.size hE.size) hE.size (fun v1 w1 h1 h2 => ⟨h1, h2⟩),
 mE rfl rfl h1,
 fun ρz wz hE hA _ ⟨⟨hO2, hfr2⟩, u3, _⟩ => core_append (n := 14) (cells := api_Fact.cells) (B := w0.heap.size) (w0 := w4) rfl rfl (fun b hb => hfr2 b hb) rfl u3 (fun _ => rfl) one_38 si_24 se_38 (by decide) (by decide) hO2 ⟨_, (Hv1.over hE (fun b hb => hb.elim (fun h => (O9.lt h).1) (fun h => Nat.le_trans hW.size h)))⟩ hl5 (Nat.le_trans hW.size hE.size) hE.size (fun v1 w1 h1 h2 => ⟨h1, fun b hb => (h2 b hb).elim (hfr2 b) .inr⟩),
 fun ρz wz hE hA _ ⟨⟨hO4, hfr4⟩, _⟩ => core_copy rfl rfl (o_assign rfl) ⟨hO4, hfr4⟩, trivial⟩ ?_
  intro ρ11 w11 hE hN hf hr
  obtain ⟨v8_, h8⟩ : ∃ v, ρ11 8 = v := ⟨_, rfl⟩
  have hq8 : (fun u wz => Own w0.heap.size 38 14 api_Fact.cells wz u l5 ∧ ∀ b, u.ownBlock = some b → (v9_.ownBlock = some b ∨ w4.heap.size ≤ b)) (ρ11 8) w11 := hf 5 rfl
  rw [h8] at hq8
  obtain ⟨hq8, hfr8⟩ := hq8
  have Oo_O9 := O9
  have hW := Ext.own hW hE (fun b hb => hb.elim (fun h => (Oo_O9.lt h).1) (fun h => Nat.le_trans hW.size h))
  have O8 := hq8
  refine WP.ret ?_
  show retQ Tryz.prog 69 Tryz.f54 (fun v w1 => Own w0.heap.size 38 14 api_Fact.cells w1 v r ∧ Ext noG w0 w1) .ret ρ11 w11
  obtain rfl := Option.some.inj hF
  exact res1 rfl (by decide) h8 ⟨O8, hW⟩

set_option maxHeartbeats 4000000 in
theorem cmp_isNaN_of_int_ok {w0 : World} (x_ : Int) {r : Bool} (hF : cmp_isNaN_of_int x_ = some r) :
    Calls Tryz.prog 77 #[.int .i64 x_] w0 fun e w1 => e = .returned (.bool r) ∧ Ext noG w0 w1 := by
  refine (Calls.start (P := Tryz.prog) (args := [.int .i64 x_]) (R := fun v w1 => v = .bool r ∧ Ext noG w0 w1) (n := 6) (w := w0) Tryz.func77 rfl rfl (Nat.le_of_ble_eq_true rfl) (fun ρ hargs => ?_)).mono (fun e w1 ⟨v, he, hv, hE⟩ => ⟨hv ▸ he, hE⟩)
  have h0 := hargs 0 _ rfl
  have hW := Ext.refl noG w0
  rw [cmp_isNaN_of_int] at hF
  refine WP.seq (WP.rb mixed [[]] [[]] [(2, .bool false)] (by kernel_rfl) ⟨aC rfl rfl (fun _ => rfl), trivial⟩ ?_)
  intro ρ1 w1 hN hf hr
  have h0 := (hr 0 rfl).trans h0
  have hW := hW.trans hN
  refine WP.seq (WP.rb mixed [[], [], [0, 1], [2]] [[0], [0], [], []] [(3, .int .i64 x_), (4, .int .i64 x_), (5, .bool (x_ != x_)), (2, .bool (x_ != x_))] (by kernel_rfl) ⟨mE rfl rfl h0,
 mE rfl rfl h0,
 fun ρz wz hE hA _ ⟨u0, u1, _⟩ => core_val rfl rfl (o_neq u0 u1 rfl),
 aU rfl rfl rfl, trivial⟩ ?_)
  intro ρ2 w2 hN hf hr
  have h2 := hv hf 3 rfl rfl
  have hW := hW.trans hN
  refine WP.ret ?_
  show retQ Tryz.prog 6 Tryz.f77 (fun v w1 => v = .bool r ∧ Ext noG w0 w1) .ret ρ2 w2
  obtain rfl := Option.some.inj hF
  exact res1 rfl (by decide) h2 ⟨rfl, hW⟩

set_option maxHeartbeats 4000000 in
theorem cmp_Compare_of_int_ok {w0 : World} (x_ : Int) (y_ : Int) {r : Int} (hF : cmp_Compare_of_int x_ y_ = some r) :
    Calls Tryz.prog 49 #[.int .i64 x_, .int .i64 y_] w0 fun e w1 => e = .returned (.int .i64 r) ∧ Ext noG w0 w1 := by
  refine (Calls.start (P := Tryz.prog) (args := [.int .i64 x_, .int .i64 y_]) (R := fun v w1 => v = .int .i64 r ∧ Ext noG w0 w1) (n := 20) (w := w0) Tryz.func49 rfl rfl (Nat.le_of_ble_eq_true rfl) (fun ρ hargs => ?_)).mono (fun e w1 ⟨v, he, hv, hE⟩ => ⟨hv ▸ he, hE⟩)
  have h0 := hargs 0 _ rfl
  have h1 := hargs 1 _ rfl
  have hW := Ext.refl noG w0
  rw [cmp_Compare_of_int] at hF
  refine WP.seq (WP.rb mixed [[]] [[]] [(4, .int .i64 0)] (by kernel_rfl) ⟨aC rfl rfl (fun _ => rfl), trivial⟩ ?_)
  intro ρ1 w1 hN hf hr
  obtain ⟨h0, h1⟩ := k2 hr h0 h1 rfl
  have hW := hW.trans hN
  refine WP.seq ?_
  obtain ⟨z, hz, hF⟩ := obind hF
  refine WP.rb mixed [[], [0], [1]] [[0], [], []] [(7, .int .i64 x_), (8, .bool z), (5, .bool z)] (by kernel_rfl) ⟨mE rfl rfl h0,
 fun ρz wz hE hA _ ⟨u0, _⟩ => core_call rfl (call_args1 u0) cf_77 (cmp_isNaN_of_int_ok  _  hz),
 aU rfl rfl rfl, trivial⟩ ?_
  intro ρ2 w2 hN hf hr
  have h5 := hv hf 2 rfl rfl
  obtain ⟨h0, h1⟩ := k2 hr h0 h1 rfl
  have hW := hW.trans hN
  refine WP.seq ?_
  obtain ⟨z2, hz2, hF⟩ := obind hF
  refine WP.rb mixed [[], [0], [1]] [[1], [], []] [(9, .int .i64 y_), (10, .bool z2), (6, .bool z2)] (by kernel_rfl) ⟨mE rfl rfl h1,
 fun ρz wz hE hA _ ⟨u0, _⟩ => core_call rfl (call_args1 u0) cf_77 (cmp_isNaN_of_int_ok  _  hz2),
 aU rfl rfl rfl, trivial⟩ ?_
  intro ρ3 w3 hN hf hr
  have h6 := hv hf 2 rfl rfl
  obtain ⟨h0, h1, h5⟩ := k3 hr h0 h1 h5 rfl
  have hW := hW.trans hN
  refine WP.seq (WP.seq (WP.rb mixed [[]] [[5]] [(11, .bool z)] (by kernel_rfl) ⟨mE rfl rfl h5, trivial⟩ ?_))
  intro ρ4 w4 hN hf hr
  have h11 := hv hf 0 rfl rfl
  obtain ⟨h0, h1, h6⟩ := k3 hr h0 h1 h6 rfl
  have hW := hW.trans hN
  refine WP.cond rfl h11 (fun hb => ?_) (fun hb => ?_)
  · have hF := (if_pos hb).symm.trans hF
    refine WP.seq (WP.seq (WP.rb mixed [[]] [[6]] [(12, .bool z2)] (by kernel_rfl) ⟨mE rfl rfl h6, trivial⟩ ?_))
    intro ρ5 w5 hN hf hr
    have h12 := hv hf 0 rfl rfl
    have hW := hW.trans hN
    refine WP.cond rfl h12 (fun hb => ?_) (fun hb => ?_)
    · have hF := (if_pos hb).symm.trans hF
      refine WP.seq (WP.rb mixed [[]] [[]] [(4, .int .i64 0)] (by kernel_rfl) ⟨aC rfl rfl (fun _ => rfl), trivial⟩ ?_)
      intro ρ6 w6 hN hf hr
      have h4 := hv hf 0 rfl rfl
      have hW := hW.trans hN
      refine WP.ret ?_
      show retQ Tryz.prog 20 Tryz.f49 (fun v w1 => v = .int .i64 r ∧ Ext noG w0 w1) .ret ρ6 w6
      obtain rfl := Option.some.inj hF
      exact res1 rfl (by decide) h4 ⟨rfl, hW⟩
    have hF := (if_neg (Bool.eq_false_iff.1 hb)).symm.trans hF
    refine WP.skip (WP.seq (WP.rb mixed [[]] [[]] [(4, .int .i64 (-1))] (by kernel_rfl) ⟨aC rfl rfl (fun _ => rfl), trivial⟩ ?_))
    intro ρ7 w7 hN hf hr
    have h4 := hv hf 0 rfl rfl
    have hW := hW.trans hN
    refine WP.ret ?_
    show retQ Tryz.prog 20 Tryz.f49 (fun v w1 => v = .int .i64 r ∧ Ext noG w0 w1) .ret ρ7 w7
    obtain rfl := Option.some.inj hF
    exact res1 rfl (by decide) h4 ⟨rfl, hW⟩
  have hF := (if_neg (Bool.eq_false_iff.1 hb)).symm.trans hF
  refine WP.skip (WP.seq (WP.seq (WP.rb mixed [[]] [[6]] [(13, .bool z2)] (by kernel_rfl) ⟨mE rfl rfl h6, trivial⟩ ?_)))
  intro ρ8 w8 hN hf hr
  have h13 := hv hf 0 rfl rfl
  obtain ⟨h0, h1⟩ := k2 hr h0 h1 rfl
  have hW := hW.trans hN
  refine WP.cond rfl h13 (fun hb => ?_) (fun hb => ?_)
  · have hF := (if_pos hb).symm.trans hF
    refine WP.seq (WP.rb mixed [[]] [[]] [(4, .int .i64 1)] (by kernel_rfl) ⟨aC rfl rfl (fun _ => rfl), trivial⟩ ?_)
    intro ρ9 w9 hN hf hr
    have h4 := hv hf 0 rfl rfl
    have hW := hW.trans hN
    refine WP.ret ?_
    show retQ Tryz.prog 20 Tryz.f49 (fun v w1 => v = .int .i64 r ∧ Ext noG w0 w1) .ret ρ9 w9
    obtain rfl := Option.some.inj hF
    exact res1 rfl (by decide) h4 ⟨rfl, hW⟩
  have hF := (if_neg (Bool.eq_false_iff.1 hb)).symm.trans hF
  refine WP.skip (WP.seq (WP.seq (WP.rb mixed [[], [], [0, 1]] [[0], [1], []] [(14, .int .i64 x_), (15, .int .i64 y_), (16, .bool (decide (x_ < y_)))] (by kernel_rfl) ⟨mE rfl rfl h0,
 mE rfl rfl h1,
 fun ρz wz hE hA _ ⟨u0, u1, _⟩ => core_val rfl rfl (o_lss u0 u1 rfl), trivial⟩ ?_)))
  intro ρ10 w10 hN hf hr
  have h16 := hv hf 2 rfl rfl
  obtain ⟨h0, h1⟩ := k2 hr h0 h1 rfl
  have hW := hW.trans hN
  refine WP.cond rfl h16 (fun hb => ?_) (fun hb => ?_)
  · have hF := (if_pos hb).symm.trans hF
    refine WP.seq (WP.rb mixed [[]] [[]] [(4, .int .i64 (-1))] (by kernel_rfl) ⟨aC rfl rfl (fun _ => rfl), trivial⟩ ?_)
    intro ρ11 w11 hN hf hr
    have h4 := hv hf 0 rfl rfl
    have hW := hW.trans hN
    refine WP.ret ?_
    show retQ Tryz.prog 20 Tryz.f49 (fun v w1 => v = .int .i64 r ∧ Ext noG w0 w1) .ret ρ11 w11
    obtain rfl := Option.some.inj hF
    exact res1 rfl (by decide) h4 ⟨rfl, hW⟩
  have hF := (if_neg (Bool.eq_false_iff.1 hb)).symm.trans hF
  refine WP.skip (WP.seq (WP.seq (WP.rb mixed [[], [], [0, 1]] [[0], [1], []] [(17, .int .i64 x_), (18, .int .i64 y_), (19, .bool (decide (y_ < x_)))] (by kernel_rfl) ⟨mE rfl rfl h0,
 mE rfl rfl h1,
 fun ρz wz hE hA _ ⟨u0, u1, _⟩ => core_val rfl rfl (o_gtr u0 u1 rfl), trivial⟩ ?_)))
  intro ρ12 w12 hN hf hr
  have h19 := hv hf 2 rfl rfl
  have hW := hW.trans hN
  refine WP.cond rfl h19 (fun hb => ?_) (fun hb => ?_)
  · have hF := (if_pos hb).symm.trans hF
    refine WP.seq (WP.rb mixed [[]] [[]] [(4, .int .i64 1)] (by kernel_rfl) ⟨aC rfl rfl (fun _ => rfl), trivial⟩ ?_)
    intro ρ13 w13 hN hf hr
    have h4 := hv hf 0 rfl rfl
    have hW := hW.trans hN
    refine WP.ret ?_
    show retQ Tryz.prog 20 Tryz.f49 (fun v w1 => v = .int .i64 r ∧ Ext noG w0 w1) .ret ρ13 w13
    obtain rfl := Option.some.inj hF
    exact res1 rfl (by decide) h4 ⟨rfl, hW⟩
  have hF := (if_neg (Bool.eq_false_iff.1 hb)).symm.trans hF
  refine WP.skip (WP.seq (WP.rb mixed [[]] [[]] [(4, .int .i64 0)] (by kernel_rfl) ⟨aC rfl rfl (fun _ => rfl), trivial⟩ ?_))
  intro ρ14 w14 hN hf hr
  have h4 := hv hf 0 rfl rfl
  have hW := hW.trans hN
  refine WP.ret ?_
  show retQ Tryz.prog 20 Tryz.f49 (fun v w1 => v = .int .i64 r ∧ Ext noG w0 w1) .ret ρ14 w14
  obtain rfl := Option.some.inj hF
  exact res1 rfl (by decide) h4 ⟨rfl, hW⟩

set_option maxHeartbeats 4000000 in
theorem cmp_Or_of_int_ok {w0 : World} (vals_ : List Int) {v_vals_ : Value} (H_vals_ : RepSl intR noG w0 v_vals_ vals_) {r : Int} (hF : cmp_Or_of_int vals_ = some r) :
    Calls Tryz.prog 48 #[v_vals_] w0 fun e w1 => e = .returned (.int .i64 r) ∧ Ext noG w0 w1 := by
  refine (Calls.start (P := Tryz.prog) (args := [v_vals_]) (R := fun v w1 => v = .int .i64 r ∧ Ext noG w0 w1) (n := 18) (w := w0) Tryz.func48 rfl rfl (Nat.le_of_ble_eq_true rfl) (fun ρ hargs => ?_)).mono (fun e w1 ⟨v, he, hv, hE⟩ => ⟨hv ▸ he, hE⟩)
  have h0 := hargs 0 _ rfl
  have hW := Ext.refl noG w0
  obtain ⟨_, _, hs_H_vals_, _, _⟩ := RepSl.shape H_vals_
  have H_vals_ := H_vals_.start
  rw [cmp_Or_of_int] at hF
  refine WP.seq (WP.rb mixed [[]] [[]] [(2, .int .i64 0)] (by kernel_rfl) ⟨aC rfl rfl (fun _ => rfl), trivial⟩ ?_)
  intro ρ1 w1 hN hf hr
  have h0 := (hr 0 rfl).trans h0
  have H_vals_ := H_vals_.exn hN
  have hW := hW.trans hN
  refine WP.seq (WP.rb mixed [[]] [[]] [(3, .int .i64 0)] (by kernel_rfl) ⟨aC rfl rfl (fun _ => rfl), trivial⟩ ?_)
  intro ρ2 w2 hN hf hr
  have h3 := hv hf 0 rfl rfl
  have h0 := (hr 0 rfl).trans h0
  have H_vals_ := H_vals_.exn hN
  have hW := hW.trans hN
  refine WP.seq (WP.seq (WP.rb mixed [[], [0], []] [[0], [], []] [(6, v_vals_), (7, .int .i64 (vals_.length : Int)), (8, .int .i64 0)] (by kernel_rfl) ⟨mE rfl rfl h0,
 fun ρz wz hE hA _ ⟨u0, _⟩ => core_val rfl rfl (o_len (u0.trans hs_H_vals_) len_22),
 mC rfl rfl (fun _ => rfl), trivial⟩ ?_))
  intro ρ3 w3 hN hf hr
  have h6 := hv hf 0 rfl rfl
  have h7 := hv hf 1 rfl rfl
  have h8 := hv hf 2 rfl rfl
  have h3 := (hr 3 rfl).trans h3
  have H_vals_ := H_vals_.exn hN
  have hW := hW.trans hN
  refine WP.block (WP.loop (fun k_ ρ w => ∃ x : Int, ρ 3 = .int .i64 0 ∧ ρ 6 = v_vals_ ∧ ρ 7 = .int .i64 (vals_.length : Int) ∧ ρ 8 = .int .i64 x ∧ RepSl intR (gfr noG w0) w v_vals_ vals_ ∧ Ext noG w0 w ∧ loopC k_ (cmp_Or_of_int_l vals_) x = some r) FU ⟨0, h3, h6, h7, h8, H_vals_, hW, hF⟩ (fun _ _ h => by obtain ⟨_, _, _, _, _, _, _, h⟩ := h; cases h) ?_)
  rintro k_ ρ4 w4 ⟨x, h3, h6, h7, h8, H_vals_, hW, hF⟩
  have hF : cmp_Or_of_int_l vals_ (loopC k_ (cmp_Or_of_int_l vals_)) x = some r := (loopC_succ k_ (cmp_Or_of_int_l vals_) x).symm.trans hF
  generalize hrec_ : loopC k_ (cmp_Or_of_int_l vals_) = rec_ at hF
  rw [cmp_Or_of_int_l] at hF
  refine WP.seq (WP.rb mixed [[]] [[8, 7]] [(9, .bool (decide (x < (vals_.length : Int))))] (by kernel_rfl) ⟨fun ρz wz hE hA ⟨e8, e7, _⟩ _ => core_val rfl rfl (o_lss (e8.trans h8) (e7.trans h7) rfl), trivial⟩ ?_)
  intro ρ5 w5 hN hf hr
  have h9 := hv hf 0 rfl rfl
  obtain ⟨h3, h6, h7, h8⟩ := k4 hr h3 h6 h7 h8 rfl
  have H_vals_ := H_vals_.exn hN
  have hW := hW.trans hN
  refine WP.seq (WP.cond rfl h9 (fun hb => ?_) (fun hb => ?_))
  · have hF := (if_pos hb).symm.trans hF
    refine WP.skip (WP.seq (WP.block (WP.seq ?_)))
    obtain ⟨y, hy, hF⟩ := obind hF
    obtain ⟨ay, cy, hvy, hiy, hAy⟩ := RepSl.getF H_vals_ hy
    refine WP.rb mixed [[], [0], [1]] [[6, 8], [], []] [(10, .pointer (some (ay.add (Int.toNat x * 1)))), (11, .int .i64 y), (5, .int .i64 y)] (by kernel_rfl) ⟨fun ρz wz hE hA ⟨e6, e8, _⟩ _ => core_val rfl rfl (o_indexAddr ((e6.trans h6).trans hvy) (e8.trans h8) (ia_22 hiy)),
 fun ρz wz hE hA _ ⟨u0, _⟩ => core_val rfl rfl (o_load u0 (run_load1 (lr_3 _ _) ((hAy.exn (hA rfl)).ca))),
 aU rfl rfl rfl, trivial⟩ ?_
    intro ρ6 w6 hN hf hr
    have h5 := hv hf 2 rfl rfl
    obtain ⟨h3, h6, h7, h8⟩ := k4 hr h3 h6 h7 h8 rfl
    have H_vals_ := H_vals_.exn hN
    have hW := hW.trans hN
    refine WP.seq (WP.rb mixed [[], [], [0, 1]] [[5], [3], []] [(12, .int .i64 y), (13, .int .i64 0), (14, .bool (y != 0))] (by kernel_rfl) ⟨mE rfl rfl h5,
 mE rfl rfl h3,
 fun ρz wz hE hA _ ⟨u0, u1, _⟩ => core_val rfl rfl (o_neq u0 u1 rfl), trivial⟩ ?_)
    intro ρ7 w7 hN hf hr
    have h14 := hv hf 2 rfl rfl
    obtain ⟨h3, h6, h7, h8, h5⟩ := k5 hr h3 h6 h7 h8 h5 rfl
    have H_vals_ := H_vals_.exn hN
    have hW := hW.trans hN
    refine WP.cond rfl h14 (fun hb => ?_) (fun hb => ?_)
    · have hF := (if_pos hb).symm.trans hF
      refine WP.seq (WP.rb mixed [[], [0]] [[5], []] [(15, .int .i64 y), (2, .int .i64 y)] (by kernel_rfl) ⟨mE rfl rfl h5,
 aU rfl rfl rfl, trivial⟩ ?_)
      intro ρ8 w8 hN hf hr
      have h2 := hv hf 1 rfl rfl
      have hW := hW.trans hN
      refine WP.ret ?_
      show retQ Tryz.prog 18 Tryz.f48 (fun v w1 => v = .int .i64 r ∧ Ext noG w0 w1) .ret ρ8 w8
      obtain rfl := Option.some.inj hF
      exact res1 rfl (by decide) h2 ⟨rfl, hW⟩
    have hF := (if_neg (Bool.eq_false_iff.1 hb)).symm.trans hF
    refine WP.skip (WP.rb mixed [[], [0]] [[8], []] [(16, .int .i64 (i64 (x + 1))), (8, .int .i64 (i64 (x + 1)))] (by kernel_rfl) ⟨fun ρz wz hE hA ⟨e8, _⟩ _ => core_val rfl rfl (o_add (e8.trans h8) rfl rfl),
 mU rfl rfl rfl, trivial⟩ ?_)
    intro ρ9 w9 hN hf hr
    have h8 := hv hf 1 rfl rfl
    obtain ⟨h3, h6, h7⟩ := k3 hr h3 h6 h7 rfl
    have H_vals_ := H_vals_.exn hN
    have hW := hW.trans hN
    exact ⟨i64 (x + 1), h3, h6, h7, h8, H_vals_, hW, (by first | exact hF | (rw [hrec_]; exact hF))⟩
  have hF := (if_neg (Bool.eq_false_iff.1 hb)).symm.trans hF
  refine WP.exit (thenQ_exit (thenQ_exit (blockQ_hit (WP.seq (WP.rb mixed [[], [0]] [[3], []] [(17, .int .i64 0), (2, .int .i64 0)] (by kernel_rfl) ⟨mE rfl rfl h3,
 aU rfl rfl rfl, trivial⟩ ?_)))))
  intro ρ10 w10 hN hf hr
  have h2 := hv hf 1 rfl rfl
  have hW := hW.trans hN
  refine WP.ret ?_
  show retQ Tryz.prog 18 Tryz.f48 (fun v w1 => v = .int .i64 r ∧ Ext noG w0 w1) .ret ρ10 w10
  obtain rfl := Option.some.inj hF
  exact res1 rfl (by decide) h2 ⟨rfl, hW⟩

set_option maxHeartbeats 4000000 in
theorem career_byIdentity_ok {w0 : World} (a_ : api_Fact) (b_ : api_Fact) {r : Int} (hF : career_byIdentity a_ b_ = some r) :
    Calls Tryz.prog 56 #[api_Fact.val a_, api_Fact.val b_] w0 fun e w1 => e = .returned (.int .i64 r) ∧ Ext noG w0 w1 := by
  refine (Calls.start (P := Tryz.prog) (args := [api_Fact.val a_, api_Fact.val b_]) (R := fun v w1 => v = .int .i64 r ∧ Ext noG w0 w1) (n := 17) (w := w0) Tryz.func56 rfl rfl (Nat.le_of_ble_eq_true rfl) (fun ρ hargs => ?_)).mono (fun e w1 ⟨v, he, hv, hE⟩ => ⟨hv ▸ he, hE⟩)
  have h0 := hargs 0 _ rfl
  have h1 := hargs 1 _ rfl
  have hW := Ext.refl noG w0
  rw [career_byIdentity] at hF
  refine WP.seq (WP.regionN mixed ⟨[[], [], []], [[], [], []], [[0], [1], []], [], [], [(0, 2), (1, 3)], []⟩ [(2, fun u wz => ∃ b, u = .pointer (some ⟨b, 0, none⟩) ∧ w0.heap.size ≤ b ∧ Mb wz b 38 (api_Fact.cells a_)), (3, fun u wz => ∃ b, u = .pointer (some ⟨b, 0, none⟩) ∧ w0.heap.size ≤ b ∧ Mb wz b 38 (api_Fact.cells b_)), val 4 (.int .i64 0)] (fun b => w0.heap.size ≤ b) (by kernel_rfl) (.inr (fun _ h => h)) ⟨TStable.box, TStable.box, sV, trivial⟩ ⟨fun ρz wz hE hA ⟨e0, _⟩ _ => core_newN rfl rfl rfl hE (o_box (e0.trans h0) (bx_38 _ _)),
 fun ρz wz hE hA ⟨e1, _⟩ _ => core_newN rfl rfl rfl hE (o_box (e1.trans h1) (bx_38 _ _)),
 fun ρz wz hE hA _ _ => core_val rfl rfl (o_assign rfl), trivial⟩ ?_)
  intro ρ1 w1 hE hN hf hr hdist
  have hN := hE.fresh
  obtain ⟨b2_, h2, hge_b2_, Hb_b2_⟩ := hf 0 rfl
  obtain ⟨b3_, h3, hge_b3_, Hb_b3_⟩ := hf 1 rfl
  have hB_b2_ : w0.heap.size ≤ b2_ := Nat.le_trans hW.size hge_b2_
  have hB_b3_ : w0.heap.size ≤ b3_ := Nat.le_trans hW.size hge_b3_
  have hW := hW.trans hN
  refine WP.seq ?_
  obtain ⟨z, hz, hF⟩ := obind hF
  obtain ⟨z2, hz2, hF⟩ := obind hF
  obtain ⟨z3, hz3, hF⟩ := obind hF
  refine WP.rg mixed [[], [0], [], [2], [1, 3], [], [5], [], [7], [6, 8], [4, 9], [10], [11]] [[], [0], [], [2], [1, 3], [], [5], [], [7], [6, 8], [4, 9], [10], [11]] [[2], [], [3], [], [], [2], [], [3], [], [], [], [], []] [val 5 (.pointer (some ((⟨b2_, 0, none⟩ : Addr).add 0))), val 6 (.int .i64 a_.Issuer), val 7 (.pointer (some ((⟨b3_, 0, none⟩ : Addr).add 0))), val 8 (.int .i64 b_.Issuer), val 9 (.int .i64 z), val 10 (.pointer (some ((⟨b2_, 0, none⟩ : Addr).add 1))), val 11 (.int .i64 a_.Number), val 12 (.pointer (some ((⟨b3_, 0, none⟩ : Addr).add 1))), val 13 (.int .i64 b_.Number), val 14 (.int .i64 z2), (15, fun u wz => ∃ b, u = .slice (some ⟨b, 0, none⟩) 2 2 ∧ w1.heap.size ≤ b ∧ Mb wz b 3 (([z, z2]).flatMap (fun x : Int => [Value.int .i64 x]))), val 16 (.int .i64 z3), val 4 (.int .i64 z3)] (by kernel_rfl) ⟨sV, sV, sV, sV, sV, sV, sV, sV, sV, sV, fun _ _ _ hE ⟨b, hz, hs, hM⟩ => ⟨b, hz, hs, hM.exn hE⟩, sV, sV, trivial⟩ ⟨fun ρz wz hE hA ⟨e2, _⟩ _ => core_val rfl rfl (o_fieldAddr (e2.trans h2) (fa_38_0 _ _)),
 fun ρz wz hE hA _ ⟨u0, _⟩ => core_val rfl rfl (o_load u0 (run_load1 (lr_3 _ _) (CA.sub ((Hb_b2_.exn (hA rfl)).ca) 0 1))),
 fun ρz wz hE hA ⟨e3, _⟩ _ => core_val rfl rfl (o_fieldAddr (e3.trans h3) (fa_38_0 _ _)),
 fun ρz wz hE hA _ ⟨u2, _⟩ => core_val rfl rfl (o_load u2 (run_load1 (lr_3 _ _) (CA.sub ((Hb_b3_.exn (hA rfl)).ca) 0 1))),
 fun ρz wz hE hA _ ⟨u1, u3, _⟩ => core_call rfl (call_args2 u1 u3) cf_49 (cmp_Compare_of_int_ok  _ _  hz),
 fun ρz wz hE hA ⟨e2, _⟩ _ => core_val rfl rfl (o_fieldAddr (e2.trans h2) (fa_38_1 _ _)),
 fun ρz wz hE hA _ ⟨u5, _⟩ => core_val rfl rfl (o_load u5 (run_load1 (lr_3 _ _) (CA.sub ((Hb_b2_.exn (hA rfl)).ca) 1 1))),
 fun ρz wz hE hA ⟨e3, _⟩ _ => core_val rfl rfl (o_fieldAddr (e3.trans h3) (fa_38_1 _ _)),
 fun ρz wz hE hA _ ⟨u7, _⟩ => core_val rfl rfl (o_load u7 (run_load1 (lr_3 _ _) (CA.sub ((Hb_b3_.exn (hA rfl)).ca) 1 1))),
 fun ρz wz hE hA _ ⟨u6, u8, _⟩ => core_call rfl (call_args2 u6 u8) cf_49 (cmp_Compare_of_int_ok  _ _  hz2),
 fun ρz wz hE hA _ ⟨u4, u9, _⟩ => core_slice rfl rfl hE (o_buildSlice (build_parts2 u4 u9) (bs_22_2 _ _ _)),
 fun ρz wz hE hA _ ⟨⟨bz10, hzn10, hge10, hM10⟩, _⟩ => core_call rfl (call_args1 hzn10) cf_48 (cmp_Or_of_int_ok  _ (Mb.rep (n := 1) (cells := fun x : Int => [Value.int .i64 x]) (hn := fun _ => rfl) (G := noG) hM10 rfl (Nat.le_of_ble_eq_true rfl) (fun h => h)).no hz3),
 aU rfl rfl rfl, trivial⟩ ?_
  intro ρ2 w2 hN hf hr
  have h4 : ρ2 4 = .int .i64 z3 := hf 12 rfl
  have hW := hW.trans hN
  refine WP.ret ?_
  show retQ Tryz.prog 17 Tryz.f56 (fun v w1 => v = .int .i64 r ∧ Ext noG w0 w1) .ret ρ2 w2
  obtain rfl := Option.some.inj hF
  exact res1 rfl (by decide) h4 ⟨rfl, hW⟩

set_option maxHeartbeats 4000000 in
theorem fact_appendNumbers_ok {w0 : World} (b_ : List Int) (size_ : Int) (numbers_ : List Int) {v_b_ : Value} {B : Nat} (O0 : Own B 5 1 (fun x : Int => [Value.int .u8 x]) w0 v_b_ b_) {v_numbers_ : Value} (H_numbers_ : RepSl intR (fun b => Value.ownBlock v_b_ = some b) w0 v_numbers_ numbers_) (hB0 : B ≤ w0.heap.size) {r : (List Int)} (hF : fact_appendNumbers b_ size_ numbers_ = some r) :
    Calls Tryz.prog 128 #[v_b_, .int .i64 size_, v_numbers_] w0 fun e w1 => ∃ v, e = .returned v ∧ Ext (fun b => Value.ownBlock v_b_ = some b) w0 w1 ∧ (Own B 5 1 (fun x : Int => [Value.int .u8 x]) w1 v r ∧ ∀ b, v.ownBlock = some b → Value.ownBlock v_b_ = some b ∨ w0.heap.size ≤ b) := by
  refine (Calls.start (P := Tryz.prog) (args := [v_b_, .int .i64 size_, v_numbers_]) (R := fun v w1 => (Own B 5 1 (fun x : Int => [Value.int .u8 x]) w1 v r ∧ ∀ b, v.ownBlock = some b → Value.ownBlock v_b_ = some b ∨ w0.heap.size ≤ b) ∧ Ext (fun b => Value.ownBlock v_b_ = some b) w0 w1) (n := 32) (w := w0) Tryz.func128 rfl rfl (Nat.le_of_ble_eq_true rfl) (fun ρ hargs => ?_)).mono (fun e w1 ⟨v, he, hv, hE⟩ => ⟨v, he, hE, hv⟩)
  have h0 := hargs 0 _ rfl
  have h1 := hargs 1 _ rfl
  have h2 := hargs 2 _ rfl
  have hW := Ext.refl (fun b => Value.ownBlock v_b_ = some b) w0
  have hpf_O0 : ∀ k, Value.ownBlock v_b_ = some k → Value.ownBlock v_b_ = some k ∨ w0.heap.size ≤ k := fun _ h => .inl h
  obtain ⟨_, _, hs_H_numbers_, _, _⟩ := RepSl.shape H_numbers_
  have H_numbers_ := H_numbers_.start
  rw [fact_appendNumbers] at hF
  refine WP.seq (WP.rb mixed [[]] [[]] [(6, .slice none 0 0)] (by kernel_rfl) ⟨aC rfl rfl (fun _ => rfl), trivial⟩ ?_)
  intro ρ1 w1 hN hf hr
  obtain ⟨h0, h1, h2⟩ := k3 hr h0 h1 h2 rfl
  have Oo_O0 := O0
  have H_numbers_ := H_numbers_.exn hN
  have hpo_O0 := hpf_O0
  have hW := hW.trans hN.of_no
  have O0 := Oo_O0.exn hN
  refine WP.seq (WP.seq (WP.rb mixed [[], [0], []] [[2], [], []] [(10, v_numbers_), (11, .int .i64 (numbers_.length : Int)), (12, .int .i64 0)] (by kernel_rfl) ⟨mE rfl rfl h2,
 fun ρz wz hE hA _ ⟨u0, _⟩ => core_val rfl rfl (o_len (u0.trans hs_H_numbers_) len_22),
 mC rfl rfl (fun _ => rfl), trivial⟩ ?_))
  intro ρ2 w2 hN hf hr
  have h10 := hv hf 0 rfl rfl
  have h11 := hv hf 1 rfl rfl
  have h12 := hv hf 2 rfl rfl
  obtain ⟨h0, h1⟩ := k2 hr h0 h1 rfl
  have Oo_O0 := O0
  have H_numbers_ := H_numbers_.exn hN
  have hpo_O0 := hpf_O0
  have hW := hW.trans hN.of_no
  have O0 := Oo_O0.exn hN
  refine WP.block (WP.loop (fun k_ ρ w => ∃ b_2 : List Int, ∃ x : Int, ∃ v0_ : Value, ρ 0 = v0_ ∧ ρ 1 = .int .i64 size_ ∧ ρ 10 = v_numbers_ ∧ ρ 11 = .int .i64 (numbers_.length : Int) ∧ ρ 12 = .int .i64 x ∧ RepSl intR (gfr (fun b => Value.ownBlock v_b_ = some b) w0) w v_numbers_ numbers_ ∧ Own B 5 1 (fun x : Int => [Value.int .u8 x]) w v0_ b_2 ∧ (∀ k, Value.ownBlock v0_ = some k → Value.ownBlock v_b_ = some k ∨ w0.heap.size ≤ k) ∧ Ext (fun b => Value.ownBlock v_b_ = some b) w0 w ∧ loopC k_ (fact_appendNumbers_l size_ numbers_) (b_2, x) = some r) FU ⟨b_, 0, v_b_, h0, h1, h10, h11, h12, H_numbers_, O0, hpf_O0, hW, hF⟩ (fun _ _ h => by obtain ⟨_, _, _, _, _, _, _, _, _, _, _, _, h⟩ := h; cases h) ?_)
  rintro k_ ρ3 w3 ⟨b_2, x, v0_, h0, h1, h10, h11, h12, H_numbers_, O0, hpf_O0, hW, hF⟩
  have hF : fact_appendNumbers_l size_ numbers_ (loopC k_ (fact_appendNumbers_l size_ numbers_)) (b_2, x) = some r := (loopC_succ k_ (fact_appendNumbers_l size_ numbers_) (b_2, x)).symm.trans hF
  generalize hrec_ : loopC k_ (fact_appendNumbers_l size_ numbers_) = rec_ at hF
  rw [fact_appendNumbers_l] at hF
  refine WP.seq (WP.rb mixed [[]] [[12, 11]] [(13, .bool (decide (x < (numbers_.length : Int))))] (by kernel_rfl) ⟨fun ρz wz hE hA ⟨e12, e11, _⟩ _ => core_val rfl rfl (o_lss (e12.trans h12) (e11.trans h11) rfl), trivial⟩ ?_)
  intro ρ4 w4 hN hf hr
  have h13 := hv hf 0 rfl rfl
  obtain ⟨h0, h1, h10, h11, h12⟩ := k5 hr h0 h1 h10 h11 h12 rfl
  have Oo_O0 := O0
  have H_numbers_ := H_numbers_.exn hN
  have hpo_O0 := hpf_O0
  have hW := hW.trans hN.of_no
  have O0 := Oo_O0.exn hN
  refine WP.seq (WP.cond rfl h13 (fun hb => ?_) (fun hb => ?_))
  · have hF := (if_pos hb).symm.trans hF
    refine WP.skip (WP.seq (WP.block (WP.seq ?_)))
    obtain ⟨y, hy, hF⟩ := obind hF
    obtain ⟨ay, cy, hvy, hiy, hAy⟩ := RepSl.getF H_numbers_ hy
    refine WP.rb mixed [[], [0], [1]] [[10, 12], [], []] [(14, .pointer (some (ay.add (Int.toNat x * 1)))), (15, .int .i64 y), (8, .int .i64 y)] (by kernel_rfl) ⟨fun ρz wz hE hA ⟨e10, e12, _⟩ _ => core_val rfl rfl (o_indexAddr ((e10.trans h10).trans hvy) (e12.trans h12) (ia_22 hiy)),
 fun ρz wz hE hA _ ⟨u0, _⟩ => core_val rfl rfl (o_load u0 (run_load1 (lr_3 _ _) ((hAy.exn (hA rfl)).ca))),
 aU rfl rfl rfl, trivial⟩ ?_
    intro ρ5 w5 hN hf hr
    have h8 := hv hf 2 rfl rfl
    obtain ⟨h0, h1, h10, h11, h12⟩ := k5 hr h0 h1 h10 h11 h12 rfl
    have Oo_O0 := O0
    have H_numbers_ := H_numbers_.exn hN
    have hpo_O0 := hpf_O0
    have hW := hW.trans hN.of_no
    have O0 := Oo_O0.exn hN
    refine WP.seq (WP.rb mixed [[], [0], [1]] [[1], [], []] [(16, .int .i64 size_), (17, .int .i64 (i64 (size_ - 1))), (9, .int .i64 (i64 (size_ - 1)))] (by kernel_rfl) ⟨mE rfl rfl h1,
 fun ρz wz hE hA _ ⟨u0, _⟩ => core_val rfl rfl (o_sub u0 rfl rfl),
 aU rfl rfl rfl, trivial⟩ ?_)
    intro ρ6 w6 hN hf hr
    have h9 := hv hf 2 rfl rfl
    obtain ⟨h0, h1, h10, h11, h12, h8⟩ := k6 hr h0 h1 h10 h11 h12 h8 rfl
    have Oo_O0 := O0
    have H_numbers_ := H_numbers_.exn hN
    have hpo_O0 := hpf_O0
    have hW := hW.trans hN.of_no
    have O0 := Oo_O0.exn hN
    refine WP.block (WP.loop (fun k_2 ρ w => ∃ b_3 : List Int, ∃ i_ : Int, ∃ v0_2 : Value, ρ 0 = v0_2 ∧ ρ 1 = .int .i64 size_ ∧ ρ 10 = v_numbers_ ∧ ρ 11 = .int .i64 (numbers_.length : Int) ∧ ρ 12 = .int .i64 x ∧ ρ 8 = .int .i64 y ∧ ρ 9 = .int .i64 i_ ∧ RepSl intR (gfr (fun b => Value.ownBlock v_b_ = some b) w0) w v_numbers_ numbers_ ∧ Own B 5 1 (fun x : Int => [Value.int .u8 x]) w v0_2 b_3 ∧ (∀ k, Value.ownBlock v0_2 = some k → Value.ownBlock v_b_ = some k ∨ w0.heap.size ≤ k) ∧ Ext (fun b => Value.ownBlock v_b_ = some b) w0 w ∧ loopC k_2 (fact_appendNumbers_l2 x rec_ y) (b_3, i_) = some r) FU ⟨b_2, i64 (size_ - 1), v0_, h0, h1, h10, h11, h12, h8, h9, H_numbers_, O0, hpf_O0, hW, hF⟩ (fun _ _ h => by obtain ⟨_, _, _, _, _, _, _, _, _, _, _, _, _, _, h⟩ := h; cases h) ?_)
    rintro k_2 ρ7 w7 ⟨b_3, i_, v0_2, h0, h1, h10, h11, h12, h8, h9, H_numbers_, O0, hpf_O0, hW, hF⟩
    have hF : fact_appendNumbers_l2 x rec_ y (loopC k_2 (fact_appendNumbers_l2 x rec_ y)) (b_3, i_) = some r := (loopC_succ k_2 (fact_appendNumbers_l2 x rec_ y) (b_3, i_)).symm.trans hF
    generalize hrec_2 : loopC k_2 (fact_appendNumbers_l2 x rec_ y) = rec_2 at hF
    rw [fact_appendNumbers_l2] at hF
    refine WP.seq (WP.seq (WP.rb mixed [[], [0]] [[9], []] [(18, .int .i64 i_), (19, .bool (decide (0 ≤ i_)))] (by kernel_rfl) ⟨mE rfl rfl h9,
 fun ρz wz hE hA _ ⟨u0, _⟩ => core_val rfl rfl (o_geq u0 rfl rfl), trivial⟩ ?_))
    intro ρ8 w8 hN hf hr
    have h19 := hv hf 1 rfl rfl
    obtain ⟨h0, h1, h10, h11, h12, h8⟩ := k6 hr h0 h1 h10 h11 h12 h8 rfl
    have h9 := (hr 9 rfl).trans h9
    have Oo_O0 := O0
    have H_numbers_ := H_numbers_.exn hN
    have hpo_O0 := hpf_O0
    have hW := hW.trans hN.of_no
    have O0 := Oo_O0.exn hN
    refine WP.cond rfl h19 (fun hb => ?_) (fun hb => ?_)
    · have hF := (if_pos hb).symm.trans hF
      refine WP.skip (WP.seq (WP.block ?_))
      obtain ⟨q, hq, hF⟩ := obind hF
      obtain ⟨l, hl, hF⟩ := obind hF
      refine WP.region mixed [[], [], [], [2], [1, 3], [4], [5], [0, 6], [0, 7]] [[], [], [], [2], [1, 3], [4], [5], [0, 6], [7]] [[0], [8], [9], [], [], [], [], [], []] [7] [] [val 22 (v0_2), val 23 (.int .i64 y), val 24 (.int .i64 i_), val 25 (.int .i64 (i64 (8 * i_))), val 26 (.int .i64 q), val 27 (.int .u8 ((IntKind.u8.wrap) q)), (28, fun u wz => ∃ b, u = .slice (some ⟨b, 0, none⟩) 1 1 ∧ w8.heap.size ≤ b ∧ Mb wz b 5 (([(IntKind.u8.wrap) q]).flatMap (fun x : Int => [Value.int .u8 x]))), (29, fun u wz => Own B 5 1 (fun x : Int => [Value.int .u8 x]) wz u l ∧ ∀ b, u.ownBlock = some b → (v0_2.ownBlock = some b ∨ w8.heap.size ≤ b)), (0, fun u wz => Own B 5 1 (fun x : Int => [Value.int .u8 x]) wz u l ∧ ∀ b, u.ownBlock = some b → (v0_2.ownBlock = some b ∨ w8.heap.size ≤ b))] (fun b => Value.ownBlock v0_2 = some b) (by kernel_rfl) ⟨sV, sV, sV, sV, sV, sV, fun _ _ _ hE ⟨b, hz, hs, hM⟩ => ⟨b, hz, hs, hM.ext hE (fun hg => absurd (O0.lt hg).2 (Nat.not_lt.2 hs))⟩, fun _ _ _ hE ⟨hO, hf⟩ => ⟨hO.exn hE, hf⟩, fun _ _ _ hE ⟨hO, hf⟩ => ⟨hO.exn hE, hf⟩, trivial⟩ ⟨mE rfl rfl h0,
 mE rfl rfl h8,
 mE rfl rfl h9,
 fun ρz wz hE hA _ ⟨u2, _⟩ => core_val rfl rfl (o_mul rfl u2 rfl),
 fun ρz wz hE hA _ ⟨u1, u3, _⟩ => core_val rfl rfl (o_shr u1 u3 (shrO_some hq).1 (shrO_some hq).2),
 fun ρz wz hE hA _ ⟨u4, _⟩ => core_val rfl rfl (o_conv u4 (cv_3_5 _ _)),
 fun ρz wz hE hA _ ⟨u5, _⟩ => core_slice rfl rfl hE (o_buildSlice (build_parts1 u5) (bs_117_1 _ _)),
 fun ρz wz hE hA _ ⟨u0, ⟨bz6, hzn6, hge6, hM6⟩, _⟩ => core_append (n := 1) (cells := fun x : Int => [Value.int .u8 x]) (B := B) (w0 := w8) rfl rfl (fun b hb => hb) u0 hzn6 (fun _ => rfl) one_5 si_117 se_5 (by decide) (by decide) (O0.exn (hA rfl)) ⟨_, (Mb.rep (n := 1) (cells := fun x : Int => [Value.int .u8 x]) (hn := fun _ => rfl) (G := noG) hM6 rfl (Nat.le_of_ble_eq_true rfl) (fun h => h))⟩ hl (Nat.le_trans hB0 (Nat.le_trans hW.size hE.size)) hE.size (fun v1 w1 h1 h2 => ⟨h1, h2⟩),
 fun ρz wz hE hA _ ⟨⟨hO7, hfr7⟩, _⟩ => core_copy rfl rfl (o_assign rfl) ⟨hO7, hfr7⟩, trivial⟩ ?_
      intro ρ9 w9 hE hN hf hr
      obtain ⟨v0_3, h0⟩ : ∃ v, ρ9 0 = v := ⟨_, rfl⟩
      have hq0 : (fun u wz => Own B 5 1 (fun x : Int => [Value.int .u8 x]) wz u l ∧ ∀ b, u.ownBlock = some b → (v0_2.ownBlock = some b ∨ w8.heap.size ≤ b)) (ρ9 0) w9 := hf 8 rfl
      rw [h0] at hq0
      obtain ⟨hq0, hfr0⟩ := hq0
      obtain ⟨h1, h10, h11, h12, h8, h9⟩ := k6 hr h1 h10 h11 h12 h8 h9 rfl
      have Oo_O0 := O0
      have H_numbers_ := H_numbers_.ext (hE.mono fun b hb => hpf_O0 b hb)
      have hpo_O0 := hpf_O0
      have hpf_O0 : ∀ k, Value.ownBlock v0_3 = some k → Value.ownBlock v_b_ = some k ∨ w0.heap.size ≤ k := fun k h1 => (hfr0 _ h1).elim (fun h => hpo_O0 k h) (fun h => .inr (Nat.le_trans hW.size h))
      have hW := Ext.par hW hE (fun b hb => hpo_O0 b hb)
      have O0 := hq0
      refine WP.rv mixed [[], [0], [0, 1]] [[], [0], [1]] [[9], [], []] [(20, .int .i64 i_), (21, .int .i64 (i64 (i_ - 1))), (9, .int .i64 (i64 (i_ - 1)))] (by kernel_rfl) ⟨mE rfl rfl h9,
 fun ρz wz hE hA _ ⟨u0, _⟩ => core_val rfl rfl (o_sub u0 rfl rfl),
 aU rfl rfl rfl, trivial⟩ ?_
      intro ρ10 w10 hN hf hr
      have h9 := hv hf 2 rfl rfl
      obtain ⟨h0, h1, h10, h11, h12, h8⟩ := k6 hr h0 h1 h10 h11 h12 h8 rfl
      have Oo_O0 := O0
      have H_numbers_ := H_numbers_.exn hN
      have hpo_O0 := hpf_O0
      have hW := hW.trans hN.of_no
      have O0 := Oo_O0.exn hN
      exact ⟨l, i64 (i_ - 1), v0_3, h0, h1, h10, h11, h12, h8, h9, H_numbers_, O0, hpf_O0, hW, (by first | exact hF | (rw [hrec_2]; exact hF))⟩
    have hF := (if_neg (Bool.eq_false_iff.1 hb)).symm.trans hF
    refine WP.exit (thenQ_exit (thenQ_exit (blockQ_hit (WP.rb mixed [[], [0]] [[12], []] [(30, .int .i64 (i64 (x + 1))), (12, .int .i64 (i64 (x + 1)))] (by kernel_rfl) ⟨fun ρz wz hE hA ⟨e12, _⟩ _ => core_val rfl rfl (o_add (e12.trans h12) rfl rfl),
 mU rfl rfl rfl, trivial⟩ ?_))))
    intro ρ11 w11 hN hf hr
    have h12 := hv hf 1 rfl rfl
    obtain ⟨h0, h1, h10, h11⟩ := k4 hr h0 h1 h10 h11 rfl
    have Oo_O0 := O0
    have H_numbers_ := H_numbers_.exn hN
    have hpo_O0 := hpf_O0
    have hW := hW.trans hN.of_no
    have O0 := Oo_O0.exn hN
    exact ⟨b_3, i64 (x + 1), v0_2, h0, h1, h10, h11, h12, H_numbers_, O0, hpf_O0, hW, (by first | exact hF | (rw [hrec_]; exact hF))⟩
  have hF := (if_neg (Bool.eq_false_iff.1 hb)).symm.trans hF
  refine WP.exit (thenQ_exit (thenQ_exit (blockQ_hit (WP.seq (WP.rb mixed [[], [0]] [[0], []] [(31, v0_), (6, v0_)] (by kernel_rfl) ⟨mE rfl rfl h0,
 aU rfl rfl rfl, trivial⟩ ?_)))))
  intro ρ12 w12 hN hf hr
  have h6 := hv hf 1 rfl rfl
  have h0 := (hr 0 rfl).trans h0
  have Oo_O0 := O0
  have hpo_O0 := hpf_O0
  have hpf_O6 := hpo_O0
  have hW := hW.trans hN.of_no
  have O0 := Oo_O0.exn hN
  have O6 := Oo_O0.exn hN
  refine WP.ret ?_
  show retQ Tryz.prog 32 Tryz.f128 (fun v w1 => (Own B 5 1 (fun x : Int => [Value.int .u8 x]) w1 v r ∧ ∀ b, v.ownBlock = some b → Value.ownBlock v_b_ = some b ∨ w0.heap.size ≤ b) ∧ Ext (fun b => Value.ownBlock v_b_ = some b) w0 w1) .ret ρ12 w12
  obtain rfl := Option.some.inj hF
  exact res1 rfl (by decide) h6 ⟨⟨O6, hpf_O6⟩, hW⟩
end Go.PL
