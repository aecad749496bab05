/- The translated code computes the Lean functions (printed by a program). -/
import Derived.Test.YtcgfjcpggbcloaaDoorW1
set_option linter.unusedVariables false
set_option linter.unusedSimpArgs false
set_option maxRecDepth 10000
namespace Go.PL
open Go Go.Proofs

set_option maxHeartbeats 4000000 in
theorem cmp_Or_of_int_ok {w0 : World} (vals_ : List Int) {v_vals_ : Value} (H_vals_ : RepSl intR noG w0 v_vals_ vals_) {r : Int} (hF : cmp_Or_of_int vals_ = some r) :
    Calls Tryd.prog 31 #[v_vals_] w0 fun e w1 => e = .returned (.int .i64 r) ∧ Ext noG w0 w1 := by
  refine (Calls.start (P := Tryd.prog) (args := [v_vals_]) (R := fun v w1 => v = .int .i64 r ∧ Ext noG w0 w1) (n := 18) (w := w0) Tryd.func31 rfl rfl (Nat.le_of_ble_eq_true rfl) (fun ρ hargs => ?_)).mono (fun e w1 ⟨v, he, hv, hE⟩ => ⟨hv ▸ he, hE⟩)
  have h0 := hargs 0 _ rfl
  have hW := Ext.refl noG w0
  have hsz := Nat.le_refl w0.heap.size
  obtain ⟨_, _, hs_H_vals_, _, _⟩ := RepSl.shape H_vals_
  have H_vals_ := H_vals_.start
  rw [cmp_Or_of_int] at hF
  refine WP.seq ?_
  refine WP.rb mixed [[]] [[]] [(2, .int .i64 0)] (by kernel_rfl) ⟨fun ρz wz hE hA _ _ => core_val rfl rfl (o_assign rfl), trivial⟩ ?_
  intro ρ1 w1 hN hf hr
  have h0 := (hr 0 rfl).trans h0
  have H_vals_ := H_vals_.exn hN
  have hW := hW.trans hN
  have hsz := hW.size
  refine WP.seq ?_
  refine WP.rb mixed [[]] [[]] [(3, .int .i64 0)] (by kernel_rfl) ⟨fun ρz wz hE hA _ _ => core_val rfl rfl (o_assign rfl), trivial⟩ ?_
  intro ρ2 w2 hN hf hr
  have h3 : ρ2 3 = .int .i64 0 := hf 0 rfl
  have h0 := (hr 0 rfl).trans h0
  have H_vals_ := H_vals_.exn hN
  have hW := hW.trans hN
  have hsz := hW.size
  refine WP.seq ?_
  refine WP.seq ?_
  refine WP.rb mixed [[], [0], []] [[0], [], []] [(6, v_vals_), (7, .int .i64 (vals_.length : Int)), (8, .int .i64 0)] (by kernel_rfl) ⟨fun ρz wz hE hA ⟨e0, _⟩ _ => core_val rfl rfl (o_move (e0.trans h0)),
 fun ρz wz hE hA _ ⟨u0, _⟩ => core_val rfl rfl (o_len (u0.trans hs_H_vals_) len_23),
 fun ρz wz hE hA _ _ => core_val rfl rfl (o_move rfl), trivial⟩ ?_
  intro ρ3 w3 hN hf hr
  have h6 : ρ3 6 = v_vals_ := hf 0 rfl
  have h7 : ρ3 7 = .int .i64 (vals_.length : Int) := hf 1 rfl
  have h8 : ρ3 8 = .int .i64 0 := hf 2 rfl
  have h3 := (hr 3 rfl).trans h3
  have H_vals_ := H_vals_.exn hN
  have hW := hW.trans hN
  have hsz := hW.size
  refine WP.block ?_
  refine WP.loop (fun k_ ρ w => ∃ x : Int, ρ 3 = .int .i64 0 ∧ ρ 6 = v_vals_ ∧ ρ 7 = .int .i64 (vals_.length : Int) ∧ ρ 8 = .int .i64 x ∧ RepSl intR (gfr noG w0) w v_vals_ vals_ ∧ Ext noG w0 w ∧ w0.heap.size ≤ w.heap.size ∧ loopC k_ (cmp_Or_of_int_l vals_) x = some r) FU ⟨0, h3, h6, h7, h8, H_vals_, hW, hsz, hF⟩ (fun _ _ h => by obtain ⟨_, _, _, _, _, _, _, _, h⟩ := h; cases h) ?_
  rintro k_ ρ4 w4 ⟨x, h3, h6, h7, h8, H_vals_, hW, hsz, hF⟩
  have hF : cmp_Or_of_int_l vals_ (loopC k_ (cmp_Or_of_int_l vals_)) x = some r := hF
  generalize hrec_ : loopC k_ (cmp_Or_of_int_l vals_) = rec_ at hF
  rw [cmp_Or_of_int_l] at hF
  refine WP.seq ?_
  refine WP.rb mixed [[]] [[8, 7]] [(9, .bool (decide (x < (vals_.length : Int))))] (by kernel_rfl) ⟨fun ρz wz hE hA ⟨e8, e7, _⟩ _ => core_val rfl rfl (o_lss (e8.trans h8) (e7.trans h7) rfl), trivial⟩ ?_
  intro ρ5 w5 hN hf hr
  have h9 : ρ5 9 = .bool (decide (x < (vals_.length : Int))) := hf 0 rfl
  obtain ⟨h3, h6, h7, h8⟩ := k4 hr h3 h6 h7 h8 rfl
  have H_vals_ := H_vals_.exn hN
  have hW := hW.trans hN
  have hsz := hW.size
  refine WP.seq ?_
  refine WP.cond rfl h9 (fun hb => ?_) (fun hb => ?_)
  · have hF := (if_pos hb).symm.trans hF
    refine WP.skip ?_
    refine WP.seq ?_
    refine WP.block ?_
    refine WP.seq ?_
    obtain ⟨y, hy, hF⟩ := obind hF
    obtain ⟨ay, cy, hvy, hiy, hAy⟩ := RepSl.getF H_vals_ hy
    refine WP.rb mixed [[], [0], [1]] [[6, 8], [], []] [(10, .pointer (some (ay.add (Int.toNat x * 1)))), (11, .int .i64 y), (5, .int .i64 y)] (by kernel_rfl) ⟨fun ρz wz hE hA ⟨e6, e8, _⟩ _ => core_val rfl rfl (o_indexAddr ((e6.trans h6).trans hvy) (e8.trans h8) (ia_23 hiy)),
 fun ρz wz hE hA _ ⟨u0, _⟩ => core_val rfl rfl (o_load u0 (run_load1 (lr_3 _ _) ((hAy.exn (hA rfl)).ca))),
 fun ρz wz hE hA _ ⟨u1, _⟩ => core_val rfl rfl (o_assign u1), trivial⟩ ?_
    intro ρ6 w6 hN hf hr
    have h5 : ρ6 5 = .int .i64 y := hf 2 rfl
    obtain ⟨h3, h6, h7, h8⟩ := k4 hr h3 h6 h7 h8 rfl
    have H_vals_ := H_vals_.exn hN
    have hW := hW.trans hN
    have hsz := hW.size
    refine WP.seq ?_
    refine WP.rb mixed [[], [], [0, 1]] [[5], [3], []] [(12, .int .i64 y), (13, .int .i64 0), (14, .bool (y != 0))] (by kernel_rfl) ⟨fun ρz wz hE hA ⟨e5, _⟩ _ => core_val rfl rfl (o_move (e5.trans h5)),
 fun ρz wz hE hA ⟨e3, _⟩ _ => core_val rfl rfl (o_move (e3.trans h3)),
 fun ρz wz hE hA _ ⟨u0, u1, _⟩ => core_val rfl rfl (o_neq u0 u1 rfl), trivial⟩ ?_
    intro ρ7 w7 hN hf hr
    have h14 : ρ7 14 = .bool (y != 0) := hf 2 rfl
    obtain ⟨h3, h6, h7, h8, h5⟩ := k5 hr h3 h6 h7 h8 h5 rfl
    have H_vals_ := H_vals_.exn hN
    have hW := hW.trans hN
    have hsz := hW.size
    refine WP.cond rfl h14 (fun hb => ?_) (fun hb => ?_)
    · have hF := (if_pos hb).symm.trans hF
      refine WP.seq ?_
      refine WP.rb mixed [[], [0]] [[5], []] [(15, .int .i64 y), (2, .int .i64 y)] (by kernel_rfl) ⟨fun ρz wz hE hA ⟨e5, _⟩ _ => core_val rfl rfl (o_move (e5.trans h5)),
 fun ρz wz hE hA _ ⟨u0, _⟩ => core_val rfl rfl (o_assign u0), trivial⟩ ?_
      intro ρ8 w8 hN hf hr
      have h2 : ρ8 2 = .int .i64 y := hf 1 rfl
      have hW := hW.trans hN
      have hsz := hW.size
      refine WP.ret ?_
      show retQ Tryd.prog 18 Tryd.f31 (fun v w1 => v = .int .i64 r ∧ Ext noG w0 w1) .ret ρ8 w8
      obtain rfl := Option.some.inj hF
      exact res1 rfl (by decide) h2 ⟨rfl, hW⟩
    have hF := (if_neg (Bool.eq_false_iff.1 hb)).symm.trans hF
    refine WP.skip ?_
    refine WP.rb mixed [[], [0]] [[8], []] [(16, .int .i64 (i64 (x + 1))), (8, .int .i64 (i64 (x + 1)))] (by kernel_rfl) ⟨fun ρz wz hE hA ⟨e8, _⟩ _ => core_val rfl rfl (o_add (e8.trans h8) rfl rfl),
 fun ρz wz hE hA _ ⟨u0, _⟩ => core_val rfl rfl (o_move u0), trivial⟩ ?_
    intro ρ9 w9 hN hf hr
    have h8 : ρ9 8 = .int .i64 (i64 (x + 1)) := hf 1 rfl
    obtain ⟨h3, h6, h7⟩ := k3 hr h3 h6 h7 rfl
    have H_vals_ := H_vals_.exn hN
    have hW := hW.trans hN
    have hsz := hW.size
    exact ⟨i64 (x + 1), h3, h6, h7, h8, H_vals_, hW, hsz, (by first | exact hF | (rw [hrec_]; exact hF))⟩
  have hF := (if_neg (Bool.eq_false_iff.1 hb)).symm.trans hF
  refine WP.exit ?_
  refine thenQ_exit ?_
  refine thenQ_exit ?_
  refine blockQ_hit ?_
  refine WP.seq ?_
  refine WP.rb mixed [[], [0]] [[3], []] [(17, .int .i64 0), (2, .int .i64 0)] (by kernel_rfl) ⟨fun ρz wz hE hA ⟨e3, _⟩ _ => core_val rfl rfl (o_move (e3.trans h3)),
 fun ρz wz hE hA _ ⟨u0, _⟩ => core_val rfl rfl (o_assign u0), trivial⟩ ?_
  intro ρ10 w10 hN hf hr
  have h2 : ρ10 2 = .int .i64 0 := hf 1 rfl
  have hW := hW.trans hN
  have hsz := hW.size
  refine WP.ret ?_
  show retQ Tryd.prog 18 Tryd.f31 (fun v w1 => v = .int .i64 r ∧ Ext noG w0 w1) .ret ρ10 w10
  obtain rfl := Option.some.inj hF
  exact res1 rfl (by decide) h2 ⟨rfl, hW⟩

set_option maxHeartbeats 4000000 in
theorem bits_Len64_ok {w0 : World} (x_ : Int) {r : Int} (hF : bits_Len64 x_ = some r) :
    Calls Tryd.prog 79 #[.int .u64 x_] w0 fun e w1 => e = .returned (.int .i64 r) ∧ Ext noG w0 w1 := by
  refine (Calls.start (P := Tryd.prog) (args := [.int .u64 x_]) (R := fun v w1 => v = .int .i64 r ∧ Ext noG w0 w1) (n := 25) (w := w0) Tryd.func79 rfl rfl (Nat.le_of_ble_eq_true rfl) (fun ρ hargs => ?_)).mono (fun e w1 ⟨v, he, hv, hE⟩ => ⟨hv ▸ he, hE⟩)
  have h0 := hargs 0 _ rfl
  have hW := Ext.refl noG w0
  have hsz := Nat.le_refl w0.heap.size
  rw [bits_Len64] at hF
  refine WP.seq ?_
  refine WP.rb mixed [[]] [[]] [(2, .int .i64 0)] (by kernel_rfl) ⟨fun ρz wz hE hA _ _ => core_val rfl rfl (o_assign rfl), trivial⟩ ?_
  intro ρ1 w1 hN hf hr
  have h2 : ρ1 2 = .int .i64 0 := hf 0 rfl
  have h0 := (hr 0 rfl).trans h0
  have hW := hW.trans hN
  have hsz := hW.size
  refine WP.seqJ (fun ρ w => ∃ x_2 : Int, ∃ n_ : Int, ρ 0 = .int .u64 x_2 ∧ ρ 2 = .int .i64 n_ ∧ Ext noG w0 w ∧ w0.heap.size ≤ w.heap.size ∧ bits_Len64_j x_2 n_ = some r) ?_ ?_
  · refine WP.seq ?_
    refine WP.rb mixed [[], [0]] [[0], []] [(3, .int .u64 x_), (4, .bool (decide (4294967296 ≤ x_)))] (by kernel_rfl) ⟨fun ρz wz hE hA ⟨e0, _⟩ _ => core_val rfl rfl (o_move (e0.trans h0)),
 fun ρz wz hE hA _ ⟨u0, _⟩ => core_val rfl rfl (o_geq u0 rfl rfl), trivial⟩ ?_
    intro ρ12 w12 hN hf hr
    have h4 : ρ12 4 = .bool (decide (4294967296 ≤ x_)) := hf 1 rfl
    obtain ⟨h0, h2⟩ := k2 hr h0 h2 rfl
    have hW := hW.trans hN
    have hsz := hW.size
    refine WP.cond rfl h4 (fun hb => ?_) (fun hb => ?_)
    · have hF := (if_pos hb).symm.trans hF
      refine WP.seq ?_
      refine WP.rv mixed [[], [0], [0, 1]] [[], [0], [1]] [[0], [], []] [(5, .int .u64 x_), (6, .int .u64 (shrK .u64 x_ 32)), (0, .int .u64 (shrK .u64 x_ 32))] (by kernel_rfl) ⟨fun ρz wz hE hA ⟨e0, _⟩ _ => core_val rfl rfl (o_move (e0.trans h0)),
 fun ρz wz hE hA _ ⟨u0, _⟩ => core_val rfl rfl (o_shr u0 rfl (by decide) rfl),
 fun ρz wz hE hA _ ⟨u1, _⟩ => core_val rfl rfl (o_assign u1), trivial⟩ ?_
      intro ρ13 w13 hN hf hr
      have h0 : ρ13 0 = .int .u64 (shrK .u64 x_ 32) := hf 2 rfl
      have hW := hW.trans hN
      have hsz := hW.size
      refine WP.rb mixed [[]] [[]] [(2, .int .i64 32)] (by kernel_rfl) ⟨fun ρz wz hE hA _ _ => core_val rfl rfl (o_assign rfl), trivial⟩ ?_
      intro ρ14 w14 hN hf hr
      have h2 : ρ14 2 = .int .i64 32 := hf 0 rfl
      have h0 := (hr 0 rfl).trans h0
      have hW := hW.trans hN
      have hsz := hW.size
      exact ⟨shrK .u64 x_ 32, 32, h0, h2, hW, hsz, hF⟩
    have hF := (if_neg (Bool.eq_false_iff.1 hb)).symm.trans hF
    refine WP.skip ?_
    exact ⟨x_, 0, h0, h2, hW, hsz, hF⟩
  rintro ρ2 w2 ⟨x_2, n_, h0, h2, hW, hsz, hF⟩
  rw [bits_Len64_j] at hF
  refine WP.seqJ (fun ρ w => ∃ x_3 : Int, ∃ n_2 : Int, ρ 0 = .int .u64 x_3 ∧ ρ 2 = .int .i64 n_2 ∧ Ext noG w0 w ∧ w0.heap.size ≤ w.heap.size ∧ bits_Len64_j2 x_3 n_2 = some r) ?_ ?_
  · refine WP.seq ?_
    refine WP.rb mixed [[], [0]] [[0], []] [(7, .int .u64 x_2), (8, .bool (decide (65536 ≤ x_2)))] (by kernel_rfl) ⟨fun ρz wz hE hA ⟨e0, _⟩ _ => core_val rfl rfl (o_move (e0.trans h0)),
 fun ρz wz hE hA _ ⟨u0, _⟩ => core_val rfl rfl (o_geq u0 rfl rfl), trivial⟩ ?_
    intro ρ9 w9 hN hf hr
    have h8 : ρ9 8 = .bool (decide (65536 ≤ x_2)) := hf 1 rfl
    obtain ⟨h0, h2⟩ := k2 hr h0 h2 rfl
    have hW := hW.trans hN
    have hsz := hW.size
    refine WP.cond rfl h8 (fun hb => ?_) (fun hb => ?_)
    · have hF := (if_pos hb).symm.trans hF
      refine WP.seq ?_
      refine WP.rv mixed [[], [0], [0, 1]] [[], [0], [1]] [[0], [], []] [(9, .int .u64 x_2), (10, .int .u64 (shrK .u64 x_2 16)), (0, .int .u64 (shrK .u64 x_2 16))] (by kernel_rfl) ⟨fun ρz wz hE hA ⟨e0, _⟩ _ => core_val rfl rfl (o_move (e0.trans h0)),
 fun ρz wz hE hA _ ⟨u0, _⟩ => core_val rfl rfl (o_shr u0 rfl (by decide) rfl),
 fun ρz wz hE hA _ ⟨u1, _⟩ => core_val rfl rfl (o_assign u1), trivial⟩ ?_
      intro ρ10 w10 hN hf hr
      have h0 : ρ10 0 = .int .u64 (shrK .u64 x_2 16) := hf 2 rfl
      have h2 := (hr 2 rfl).trans h2
      have hW := hW.trans hN
      have hsz := hW.size
      refine WP.rv mixed [[], [0], [0, 1]] [[], [0], [1]] [[2], [], []] [(11, .int .i64 n_), (12, .int .i64 (i64 (n_ + 16))), (2, .int .i64 (i64 (n_ + 16)))] (by kernel_rfl) ⟨fun ρz wz hE hA ⟨e2, _⟩ _ => core_val rfl rfl (o_move (e2.trans h2)),
 fun ρz wz hE hA _ ⟨u0, _⟩ => core_val rfl rfl (o_add u0 rfl rfl),
 fun ρz wz hE hA _ ⟨u1, _⟩ => core_val rfl rfl (o_assign u1), trivial⟩ ?_
      intro ρ11 w11 hN hf hr
      have h2 : ρ11 2 = .int .i64 (i64 (n_ + 16)) := hf 2 rfl
      have h0 := (hr 0 rfl).trans h0
      have hW := hW.trans hN
      have hsz := hW.size
      exact ⟨shrK .u64 x_2 16, i64 (n_ + 16), h0, h2, hW, hsz, hF⟩
    have hF := (if_neg (Bool.eq_false_iff.1 hb)).symm.trans hF
    refine WP.skip ?_
    exact ⟨x_2, n_, h0, h2, hW, hsz, hF⟩
  rintro ρ3 w3 ⟨x_3, n_2, h0, h2, hW, hsz, hF⟩
  rw [bits_Len64_j2] at hF
  refine WP.seqJ (fun ρ w => ∃ x_4 : Int, ∃ n_3 : Int, ρ 0 = .int .u64 x_4 ∧ ρ 2 = .int .i64 n_3 ∧ Ext noG w0 w ∧ w0.heap.size ≤ w.heap.size ∧ bits_Len64_j3 x_4 n_3 = some r) ?_ ?_
  · refine WP.seq ?_
    refine WP.rb mixed [[], [0]] [[0], []] [(13, .int .u64 x_3), (14, .bool (decide (256 ≤ x_3)))] (by kernel_rfl) ⟨fun ρz wz hE hA ⟨e0, _⟩ _ => core_val rfl rfl (o_move (e0.trans h0)),
 fun ρz wz hE hA _ ⟨u0, _⟩ => core_val rfl rfl (o_geq u0 rfl rfl), trivial⟩ ?_
    intro ρ6 w6 hN hf hr
    have h14 : ρ6 14 = .bool (decide (256 ≤ x_3)) := hf 1 rfl
    obtain ⟨h0, h2⟩ := k2 hr h0 h2 rfl
    have hW := hW.trans hN
    have hsz := hW.size
    refine WP.cond rfl h14 (fun hb => ?_) (fun hb => ?_)
    · have hF := (if_pos hb).symm.trans hF
      refine WP.seq ?_
      refine WP.rv mixed [[], [0], [0, 1]] [[], [0], [1]] [[0], [], []] [(15, .int .u64 x_3), (16, .int .u64 (shrK .u64 x_3 8)), (0, .int .u64 (shrK .u64 x_3 8))] (by kernel_rfl) ⟨fun ρz wz hE hA ⟨e0, _⟩ _ => core_val rfl rfl (o_move (e0.trans h0)),
 fun ρz wz hE hA _ ⟨u0, _⟩ => core_val rfl rfl (o_shr u0 rfl (by decide) rfl),
 fun ρz wz hE hA _ ⟨u1, _⟩ => core_val rfl rfl (o_assign u1), trivial⟩ ?_
      intro ρ7 w7 hN hf hr
      have h0 : ρ7 0 = .int .u64 (shrK .u64 x_3 8) := hf 2 rfl
      have h2 := (hr 2 rfl).trans h2
      have hW := hW.trans hN
      have hsz := hW.size
      refine WP.rv mixed [[], [0], [0, 1]] [[], [0], [1]] [[2], [], []] [(17, .int .i64 n_2), (18, .int .i64 (i64 (n_2 + 8))), (2, .int .i64 (i64 (n_2 + 8)))] (by kernel_rfl) ⟨fun ρz wz hE hA ⟨e2, _⟩ _ => core_val rfl rfl (o_move (e2.trans h2)),
 fun ρz wz hE hA _ ⟨u0, _⟩ => core_val rfl rfl (o_add u0 rfl rfl),
 fun ρz wz hE hA _ ⟨u1, _⟩ => core_val rfl rfl (o_assign u1), trivial⟩ ?_
      intro ρ8 w8 hN hf hr
      have h2 : ρ8 2 = .int .i64 (i64 (n_2 + 8)) := hf 2 rfl
      have h0 := (hr 0 rfl).trans h0
      have hW := hW.trans hN
      have hsz := hW.size
      exact ⟨shrK .u64 x_3 8, i64 (n_2 + 8), h0, h2, hW, hsz, hF⟩
    have hF := (if_neg (Bool.eq_false_iff.1 hb)).symm.trans hF
    refine WP.skip ?_
    exact ⟨x_3, n_2, h0, h2, hW, hsz, hF⟩
  rintro ρ4 w4 ⟨x_4, n_3, h0, h2, hW, hsz, hF⟩
  rw [bits_Len64_j3] at hF
  refine WP.seq ?_
  obtain ⟨y, hy, hF⟩ := obind hF
  refine WP.rv mixed [[], [], [1], [2], [3], [0, 4], [0, 5]] [[], [], [1], [2], [3], [0, 4], [5]] [[2], [0], [], [], [], [], []] [(19, .int .i64 n_3), (20, .int .u64 x_4), (21, .int .u8 ((IntKind.u8.wrap) x_4)), (22, .int .u8 y), (23, .int .i64 (i64 y)), (24, .int .i64 (i64 (n_3 + i64 y))), (2, .int .i64 (i64 (n_3 + i64 y)))] (by kernel_rfl) ⟨fun ρz wz hE hA ⟨e2, _⟩ _ => core_val rfl rfl (o_move (e2.trans h2)),
 fun ρz wz hE hA ⟨e0, _⟩ _ => core_val rfl rfl (o_move (e0.trans h0)),
 fun ρz wz hE hA _ ⟨u1, _⟩ => core_val rfl rfl (o_conv u1 (cv_62_5 _ _)),
 fun ρz wz hE hA _ ⟨u2, _⟩ => core_val rfl rfl (o_index rfl u2 (by kernel_rfl) hy),
 fun ρz wz hE hA _ ⟨u3, _⟩ => core_val rfl rfl (o_conv u3 (cv_5_3 _ _)),
 fun ρz wz hE hA _ ⟨u0, u4, _⟩ => core_val rfl rfl (o_add u0 u4 rfl),
 fun ρz wz hE hA _ ⟨u5, _⟩ => core_val rfl rfl (o_assign u5), trivial⟩ ?_
  intro ρ5 w5 hN hf hr
  have h2 : ρ5 2 = .int .i64 (i64 (n_3 + i64 y)) := hf 6 rfl
  have hW := hW.trans hN
  have hsz := hW.size
  refine WP.ret ?_
  show retQ Tryd.prog 25 Tryd.f79 (fun v w1 => v = .int .i64 r ∧ Ext noG w0 w1) .ret ρ5 w5
  obtain rfl := Option.some.inj hF
  exact res1 rfl (by decide) h2 ⟨rfl, hW⟩

set_option maxHeartbeats 4000000 in
theorem bits_LeadingZeros64_ok {w0 : World} (x_ : Int) {r : Int} (hF : bits_LeadingZeros64 x_ = some r) :
    Calls Tryd.prog 90 #[.int .u64 x_] w0 fun e w1 => e = .returned (.int .i64 r) ∧ Ext noG w0 w1 := by
  refine (Calls.start (P := Tryd.prog) (args := [.int .u64 x_]) (R := fun v w1 => v = .int .i64 r ∧ Ext noG w0 w1) (n := 6) (w := w0) Tryd.func90 rfl rfl (Nat.le_of_ble_eq_true rfl) (fun ρ hargs => ?_)).mono (fun e w1 ⟨v, he, hv, hE⟩ => ⟨hv ▸ he, hE⟩)
  have h0 := hargs 0 _ rfl
  have hW := Ext.refl noG w0
  have hsz := Nat.le_refl w0.heap.size
  rw [bits_LeadingZeros64] at hF
  refine WP.seq ?_
  refine WP.rb mixed [[]] [[]] [(2, .int .i64 0)] (by kernel_rfl) ⟨fun ρz wz hE hA _ _ => core_val rfl rfl (o_assign rfl), trivial⟩ ?_
  intro ρ1 w1 hN hf hr
  have h0 := (hr 0 rfl).trans h0
  have hW := hW.trans hN
  have hsz := hW.size
  refine WP.seq ?_
  obtain ⟨z, hz, hF⟩ := obind hF
  refine WP.rb mixed [[], [0], [1], [2]] [[0], [], [], []] [(3, .int .u64 x_), (4, .int .i64 z), (5, .int .i64 (i64 (64 - z))), (2, .int .i64 (i64 (64 - z)))] (by kernel_rfl) ⟨fun ρz wz hE hA ⟨e0, _⟩ _ => core_val rfl rfl (o_move (e0.trans h0)),
 fun ρz wz hE hA _ ⟨u0, _⟩ => core_call rfl (call_args1 u0) cf_79 (bits_Len64_ok  _  hz),
 fun ρz wz hE hA _ ⟨u1, _⟩ => core_val rfl rfl (o_sub rfl u1 rfl),
 fun ρz wz hE hA _ ⟨u2, _⟩ => core_val rfl rfl (o_assign u2), trivial⟩ ?_
  intro ρ2 w2 hN hf hr
  have h2 : ρ2 2 = .int .i64 (i64 (64 - z)) := hf 3 rfl
  have hW := hW.trans hN
  have hsz := hW.size
  refine WP.ret ?_
  show retQ Tryd.prog 6 Tryd.f90 (fun v w1 => v = .int .i64 r ∧ Ext noG w0 w1) .ret ρ2 w2
  obtain rfl := Option.some.inj hF
  exact res1 rfl (by decide) h2 ⟨rfl, hW⟩

set_option maxHeartbeats 4000000 in
theorem bits_Mul64_ok {w0 : World} (x_ : Int) (y_ : Int) {r : Int × Int} (hF : bits_Mul64 x_ y_ = some r) :
    Calls Tryd.prog 50 #[.int .u64 x_, .int .u64 y_] w0 fun e w1 => e = .returned (.tuple #[.int .u64 r.1, .int .u64 r.2]) ∧ Ext noG w0 w1 := by
  refine (Calls.start (P := Tryd.prog) (args := [.int .u64 x_, .int .u64 y_]) (R := fun v w1 => v = .tuple #[.int .u64 r.1, .int .u64 r.2] ∧ Ext noG w0 w1) (n := 51) (w := w0) Tryd.func50 rfl rfl (Nat.le_of_ble_eq_true rfl) (fun ρ hargs => ?_)).mono (fun e w1 ⟨v, he, hv, hE⟩ => ⟨hv ▸ he, hE⟩)
  have h0 := hargs 0 _ rfl
  have h1 := hargs 1 _ rfl
  have hW := Ext.refl noG w0
  have hsz := Nat.le_refl w0.heap.size
  rw [bits_Mul64] at hF
  refine WP.seq ?_
  refine WP.rb mixed [[], []] [[], []] [(4, .int .u64 0), (5, .int .u64 0)] (by kernel_rfl) ⟨fun ρz wz hE hA _ _ => core_val rfl rfl (o_assign rfl),
 fun ρz wz hE hA _ _ => core_val rfl rfl (o_assign rfl), trivial⟩ ?_
  intro ρ1 w1 hN hf hr
  obtain ⟨h0, h1⟩ := k2 hr h0 h1 rfl
  have hW := hW.trans hN
  have hsz := hW.size
  refine WP.seq ?_
  refine WP.rb mixed [[], [0], [1]] [[0], [], []] [(14, .int .u64 x_), (15, .int .u64 (andK .u64 x_ 4294967295)), (6, .int .u64 (andK .u64 x_ 4294967295))] (by kernel_rfl) ⟨fun ρz wz hE hA ⟨e0, _⟩ _ => core_val rfl rfl (o_move (e0.trans h0)),
 fun ρz wz hE hA _ ⟨u0, _⟩ => core_val rfl rfl (o_and u0 rfl rfl),
 fun ρz wz hE hA _ ⟨u1, _⟩ => core_val rfl rfl (o_assign u1), trivial⟩ ?_
  intro ρ2 w2 hN hf hr
  have h6 : ρ2 6 = .int .u64 (andK .u64 x_ 4294967295) := hf 2 rfl
  obtain ⟨h0, h1⟩ := k2 hr h0 h1 rfl
  have hW := hW.trans hN
  have hsz := hW.size
  refine WP.seq ?_
  refine WP.rb mixed [[], [0], [1]] [[0], [], []] [(16, .int .u64 x_), (17, .int .u64 (shrK .u64 x_ 32)), (7, .int .u64 (shrK .u64 x_ 32))] (by kernel_rfl) ⟨fun ρz wz hE hA ⟨e0, _⟩ _ => core_val rfl rfl (o_move (e0.trans h0)),
 fun ρz wz hE hA _ ⟨u0, _⟩ => core_val rfl rfl (o_shr u0 rfl (by decide) rfl),
 fun ρz wz hE hA _ ⟨u1, _⟩ => core_val rfl rfl (o_assign u1), trivial⟩ ?_
  intro ρ3 w3 hN hf hr
  have h7 : ρ3 7 = .int .u64 (shrK .u64 x_ 32) := hf 2 rfl
  obtain ⟨h0, h1, h6⟩ := k3 hr h0 h1 h6 rfl
  have hW := hW.trans hN
  have hsz := hW.size
  refine WP.seq ?_
  refine WP.rb mixed [[], [0], [1]] [[1], [], []] [(18, .int .u64 y_), (19, .int .u64 (andK .u64 y_ 4294967295)), (8, .int .u64 (andK .u64 y_ 4294967295))] (by kernel_rfl) ⟨fun ρz wz hE hA ⟨e1, _⟩ _ => core_val rfl rfl (o_move (e1.trans h1)),
 fun ρz wz hE hA _ ⟨u0, _⟩ => core_val rfl rfl (o_and u0 rfl rfl),
 fun ρz wz hE hA _ ⟨u1, _⟩ => core_val rfl rfl (o_assign u1), trivial⟩ ?_
  intro ρ4 w4 hN hf hr
  have h8 : ρ4 8 = .int .u64 (andK .u64 y_ 4294967295) := hf 2 rfl
  obtain ⟨h0, h1, h6, h7⟩ := k4 hr h0 h1 h6 h7 rfl
  have hW := hW.trans hN
  have hsz := hW.size
  refine WP.seq ?_
  refine WP.rb mixed [[], [0], [1]] [[1], [], []] [(20, .int .u64 y_), (21, .int .u64 (shrK .u64 y_ 32)), (9, .int .u64 (shrK .u64 y_ 32))] (by kernel_rfl) ⟨fun ρz wz hE hA ⟨e1, _⟩ _ => core_val rfl rfl (o_move (e1.trans h1)),
 fun ρz wz hE hA _ ⟨u0, _⟩ => core_val rfl rfl (o_shr u0 rfl (by decide) rfl),
 fun ρz wz hE hA _ ⟨u1, _⟩ => core_val rfl rfl (o_assign u1), trivial⟩ ?_
  intro ρ5 w5 hN hf hr
  have h9 : ρ5 9 = .int .u64 (shrK .u64 y_ 32) := hf 2 rfl
  obtain ⟨h0, h1, h6, h7, h8⟩ := k5 hr h0 h1 h6 h7 h8 rfl
  have hW := hW.trans hN
  have hsz := hW.size
  refine WP.seq ?_
  refine WP.rb mixed [[], [], [0, 1], [2]] [[6], [8], [], []] [(22, .int .u64 (andK .u64 x_ 4294967295)), (23, .int .u64 (andK .u64 y_ 4294967295)), (24, .int .u64 (u64 (andK .u64 x_ 4294967295 * (andK .u64 y_ 4294967295)))), (10, .int .u64 (u64 (andK .u64 x_ 4294967295 * (andK .u64 y_ 4294967295))))] (by kernel_rfl) ⟨fun ρz wz hE hA ⟨e6, _⟩ _ => core_val rfl rfl (o_move (e6.trans h6)),
 fun ρz wz hE hA ⟨e8, _⟩ _ => core_val rfl rfl (o_move (e8.trans h8)),
 fun ρz wz hE hA _ ⟨u0, u1, _⟩ => core_val rfl rfl (o_mul u0 u1 rfl),
 fun ρz wz hE hA _ ⟨u2, _⟩ => core_val rfl rfl (o_assign u2), trivial⟩ ?_
  intro ρ6 w6 hN hf hr
  have h10 : ρ6 10 = .int .u64 (u64 (andK .u64 x_ 4294967295 * (andK .u64 y_ 4294967295))) := hf 3 rfl
  obtain ⟨h0, h1, h6, h7, h8, h9⟩ := k6 hr h0 h1 h6 h7 h8 h9 rfl
  have hW := hW.trans hN
  have hsz := hW.size
  refine WP.seq ?_
  refine WP.rb mixed [[], [], [0, 1], [], [3], [2, 4], [5]] [[7], [8], [], [10], [], [], []] [(25, .int .u64 (shrK .u64 x_ 32)), (26, .int .u64 (andK .u64 y_ 4294967295)), (27, .int .u64 (u64 (shrK .u64 x_ 32 * (andK .u64 y_ 4294967295)))), (28, .int .u64 (u64 (andK .u64 x_ 4294967295 * (andK .u64 y_ 4294967295)))), (29, .int .u64 (shrK .u64 (u64 (andK .u64 x_ 4294967295 * (andK .u64 y_ 4294967295))) 32)), (30, .int .u64 (u64 (u64 (shrK .u64 x_ 32 * (andK .u64 y_ 4294967295)) + shrK .u64 (u64 (andK .u64 x_ 4294967295 * (andK .u64 y_ 4294967295))) 32))), (11, .int .u64 (u64 (u64 (shrK .u64 x_ 32 * (andK .u64 y_ 4294967295)) + shrK .u64 (u64 (andK .u64 x_ 4294967295 * (andK .u64 y_ 4294967295))) 32)))] (by kernel_rfl) ⟨fun ρz wz hE hA ⟨e7, _⟩ _ => core_val rfl rfl (o_move (e7.trans h7)),
 fun ρz wz hE hA ⟨e8, _⟩ _ => core_val rfl rfl (o_move (e8.trans h8)),
 fun ρz wz hE hA _ ⟨u0, u1, _⟩ => core_val rfl rfl (o_mul u0 u1 rfl),
 fun ρz wz hE hA ⟨e10, _⟩ _ => core_val rfl rfl (o_move (e10.trans h10)),
 fun ρz wz hE hA _ ⟨u3, _⟩ => core_val rfl rfl (o_shr u3 rfl (by decide) rfl),
 fun ρz wz hE hA _ ⟨u2, u4, _⟩ => core_val rfl rfl (o_add u2 u4 rfl),
 fun ρz wz hE hA _ ⟨u5, _⟩ => core_val rfl rfl (o_assign u5), trivial⟩ ?_
  intro ρ7 w7 hN hf hr
  have h11 : ρ7 11 = .int .u64 (u64 (u64 (shrK .u64 x_ 32 * (andK .u64 y_ 4294967295)) + shrK .u64 (u64 (andK .u64 x_ 4294967295 * (andK .u64 y_ 4294967295))) 32)) := hf 6 rfl
  obtain ⟨h0, h1, h6, h7, h9⟩ := k5 hr h0 h1 h6 h7 h9 rfl
  have hW := hW.trans hN
  have hsz := hW.size
  refine WP.seq ?_
  refine WP.rb mixed [[], [0], [1]] [[11], [], []] [(31, .int .u64 (u64 (u64 (shrK .u64 x_ 32 * (andK .u64 y_ 4294967295)) + shrK .u64 (u64 (andK .u64 x_ 4294967295 * (andK .u64 y_ 4294967295))) 32))), (32, .int .u64 (andK .u64 (u64 (u64 (shrK .u64 x_ 32 * (andK .u64 y_ 4294967295)) + shrK .u64 (u64 (andK .u64 x_ 4294967295 * (andK .u64 y_ 4294967295))) 32)) 4294967295)), (12, .int .u64 (andK .u64 (u64 (u64 (shrK .u64 x_ 32 * (andK .u64 y_ 4294967295)) + shrK .u64 (u64 (andK .u64 x_ 4294967295 * (andK .u64 y_ 4294967295))) 32)) 4294967295))] (by kernel_rfl) ⟨fun ρz wz hE hA ⟨e11, _⟩ _ => core_val rfl rfl (o_move (e11.trans h11)),
 fun ρz wz hE hA _ ⟨u0, _⟩ => core_val rfl rfl (o_and u0 rfl rfl),
 fun ρz wz hE hA _ ⟨u1, _⟩ => core_val rfl rfl (o_assign u1), trivial⟩ ?_
  intro ρ8 w8 hN hf hr
  have h12 : ρ8 12 = .int .u64 (andK .u64 (u64 (u64 (shrK .u64 x_ 32 * (andK .u64 y_ 4294967295)) + shrK .u64 (u64 (andK .u64 x_ 4294967295 * (andK .u64 y_ 4294967295))) 32)) 4294967295) := hf 2 rfl
  obtain ⟨h0, h1, h6, h7, h9, h11⟩ := k6 hr h0 h1 h6 h7 h9 h11 rfl
  have hW := hW.trans hN
  have hsz := hW.size
  refine WP.seq ?_
  refine WP.rb mixed [[], [0], [1]] [[11], [], []] [(33, .int .u64 (u64 (u64 (shrK .u64 x_ 32 * (andK .u64 y_ 4294967295)) + shrK .u64 (u64 (andK .u64 x_ 4294967295 * (andK .u64 y_ 4294967295))) 32))), (34, .int .u64 (shrK .u64 (u64 (u64 (shrK .u64 x_ 32 * (andK .u64 y_ 4294967295)) + shrK .u64 (u64 (andK .u64 x_ 4294967295 * (andK .u64 y_ 4294967295))) 32)) 32)), (13, .int .u64 (shrK .u64 (u64 (u64 (shrK .u64 x_ 32 * (andK .u64 y_ 4294967295)) + shrK .u64 (u64 (andK .u64 x_ 4294967295 * (andK .u64 y_ 4294967295))) 32)) 32))] (by kernel_rfl) ⟨fun ρz wz hE hA ⟨e11, _⟩ _ => core_val rfl rfl (o_move (e11.trans h11)),
 fun ρz wz hE hA _ ⟨u0, _⟩ => core_val rfl rfl (o_shr u0 rfl (by decide) rfl),
 fun ρz wz hE hA _ ⟨u1, _⟩ => core_val rfl rfl (o_assign u1), trivial⟩ ?_
  intro ρ9 w9 hN hf hr
  have h13 : ρ9 13 = .int .u64 (shrK .u64 (u64 (u64 (shrK .u64 x_ 32 * (andK .u64 y_ 4294967295)) + shrK .u64 (u64 (andK .u64 x_ 4294967295 * (andK .u64 y_ 4294967295))) 32)) 32) := hf 2 rfl
  obtain ⟨h0, h1, h6, h7, h9, h12⟩ := k6 hr h0 h1 h6 h7 h9 h12 rfl
  have hW := hW.trans hN
  have hsz := hW.size
  refine WP.seq ?_
  refine WP.rv mixed [[], [], [], [1, 2], [0, 3], [0, 4]] [[], [], [], [1, 2], [0, 3], [4]] [[12], [6], [9], [], [], []] [(35, .int .u64 (andK .u64 (u64 (u64 (shrK .u64 x_ 32 * (andK .u64 y_ 4294967295)) + shrK .u64 (u64 (andK .u64 x_ 4294967295 * (andK .u64 y_ 4294967295))) 32)) 4294967295)), (36, .int .u64 (andK .u64 x_ 4294967295)), (37, .int .u64 (shrK .u64 y_ 32)), (38, .int .u64 (u64 (andK .u64 x_ 4294967295 * (shrK .u64 y_ 32)))), (39, .int .u64 (u64 (andK .u64 (u64 (u64 (shrK .u64 x_ 32 * (andK .u64 y_ 4294967295)) + shrK .u64 (u64 (andK .u64 x_ 4294967295 * (andK .u64 y_ 4294967295))) 32)) 4294967295 + u64 (andK .u64 x_ 4294967295 * (shrK .u64 y_ 32))))), (12, .int .u64 (u64 (andK .u64 (u64 (u64 (shrK .u64 x_ 32 * (andK .u64 y_ 4294967295)) + shrK .u64 (u64 (andK .u64 x_ 4294967295 * (andK .u64 y_ 4294967295))) 32)) 4294967295 + u64 (andK .u64 x_ 4294967295 * (shrK .u64 y_ 32)))))] (by kernel_rfl) ⟨fun ρz wz hE hA ⟨e12, _⟩ _ => core_val rfl rfl (o_move (e12.trans h12)),
 fun ρz wz hE hA ⟨e6, _⟩ _ => core_val rfl rfl (o_move (e6.trans h6)),
 fun ρz wz hE hA ⟨e9, _⟩ _ => core_val rfl rfl (o_move (e9.trans h9)),
 fun ρz wz hE hA _ ⟨u1, u2, _⟩ => core_val rfl rfl (o_mul u1 u2 rfl),
 fun ρz wz hE hA _ ⟨u0, u3, _⟩ => core_val rfl rfl (o_add u0 u3 rfl),
 fun ρz wz hE hA _ ⟨u4, _⟩ => core_val rfl rfl (o_assign u4), trivial⟩ ?_
  intro ρ10 w10 hN hf hr
  have h12 : ρ10 12 = .int .u64 (u64 (andK .u64 (u64 (u64 (shrK .u64 x_ 32 * (andK .u64 y_ 4294967295)) + shrK .u64 (u64 (andK .u64 x_ 4294967295 * (andK .u64 y_ 4294967295))) 32)) 4294967295 + u64 (andK .u64 x_ 4294967295 * (shrK .u64 y_ 32)))) := hf 5 rfl
  obtain ⟨h0, h1, h7, h9, h13⟩ := k5 hr h0 h1 h7 h9 h13 rfl
  have hW := hW.trans hN
  have hsz := hW.size
  refine WP.seq ?_
  refine WP.rb mixed [[], [], [0, 1], [], [2, 3], [], [5], [4, 6], [7]] [[7], [9], [], [13], [], [12], [], [], []] [(40, .int .u64 (shrK .u64 x_ 32)), (41, .int .u64 (shrK .u64 y_ 32)), (42, .int .u64 (u64 (shrK .u64 x_ 32 * (shrK .u64 y_ 32)))), (43, .int .u64 (shrK .u64 (u64 (u64 (shrK .u64 x_ 32 * (andK .u64 y_ 4294967295)) + shrK .u64 (u64 (andK .u64 x_ 4294967295 * (andK .u64 y_ 4294967295))) 32)) 32)), (44, .int .u64 (u64 (u64 (shrK .u64 x_ 32 * (shrK .u64 y_ 32)) + shrK .u64 (u64 (u64 (shrK .u64 x_ 32 * (andK .u64 y_ 4294967295)) + shrK .u64 (u64 (andK .u64 x_ 4294967295 * (andK .u64 y_ 4294967295))) 32)) 32))), (45, .int .u64 (u64 (andK .u64 (u64 (u64 (shrK .u64 x_ 32 * (andK .u64 y_ 4294967295)) + shrK .u64 (u64 (andK .u64 x_ 4294967295 * (andK .u64 y_ 4294967295))) 32)) 4294967295 + u64 (andK .u64 x_ 4294967295 * (shrK .u64 y_ 32))))), (46, .int .u64 (shrK .u64 (u64 (andK .u64 (u64 (u64 (shrK .u64 x_ 32 * (andK .u64 y_ 4294967295)) + shrK .u64 (u64 (andK .u64 x_ 4294967295 * (andK .u64 y_ 4294967295))) 32)) 4294967295 + u64 (andK .u64 x_ 4294967295 * (shrK .u64 y_ 32)))) 32)), (47, .int .u64 (u64 (u64 (u64 (shrK .u64 x_ 32 * (shrK .u64 y_ 32)) + shrK .u64 (u64 (u64 (shrK .u64 x_ 32 * (andK .u64 y_ 4294967295)) + shrK .u64 (u64 (andK .u64 x_ 4294967295 * (andK .u64 y_ 4294967295))) 32)) 32) + shrK .u64 (u64 (andK .u64 (u64 (u64 (shrK .u64 x_ 32 * (andK .u64 y_ 4294967295)) + shrK .u64 (u64 (andK .u64 x_ 4294967295 * (andK .u64 y_ 4294967295))) 32)) 4294967295 + u64 (andK .u64 x_ 4294967295 * (shrK .u64 y_ 32)))) 32))), (4, .int .u64 (u64 (u64 (u64 (shrK .u64 x_ 32 * (shrK .u64 y_ 32)) + shrK .u64 (u64 (u64 (shrK .u64 x_ 32 * (andK .u64 y_ 4294967295)) + shrK .u64 (u64 (andK .u64 x_ 4294967295 * (andK .u64 y_ 4294967295))) 32)) 32) + shrK .u64 (u64 (andK .u64 (u64 (u64 (shrK .u64 x_ 32 * (andK .u64 y_ 4294967295)) + shrK .u64 (u64 (andK .u64 x_ 4294967295 * (andK .u64 y_ 4294967295))) 32)) 4294967295 + u64 (andK .u64 x_ 4294967295 * (shrK .u64 y_ 32)))) 32)))] (by kernel_rfl) ⟨fun ρz wz hE hA ⟨e7, _⟩ _ => core_val rfl rfl (o_move (e7.trans h7)),
 fun ρz wz hE hA ⟨e9, _⟩ _ => core_val rfl rfl (o_move (e9.trans h9)),
 fun ρz wz hE hA _ ⟨u0, u1, _⟩ => core_val rfl rfl (o_mul u0 u1 rfl),
 fun ρz wz hE hA ⟨e13, _⟩ _ => core_val rfl rfl (o_move (e13.trans h13)),
 fun ρz wz hE hA _ ⟨u2, u3, _⟩ => core_val rfl rfl (o_add u2 u3 rfl),
 fun ρz wz hE hA ⟨e12, _⟩ _ => core_val rfl rfl (o_move (e12.trans h12)),
 fun ρz wz hE hA _ ⟨u5, _⟩ => core_val rfl rfl (o_shr u5 rfl (by decide) rfl),
 fun ρz wz hE hA _ ⟨u4, u6, _⟩ => core_val rfl rfl (o_add u4 u6 rfl),
 fun ρz wz hE hA _ ⟨u7, _⟩ => core_val rfl rfl (o_assign u7), trivial⟩ ?_
  intro ρ11 w11 hN hf hr
  have h4 : ρ11 4 = .int .u64 (u64 (u64 (u64 (shrK .u64 x_ 32 * (shrK .u64 y_ 32)) + shrK .u64 (u64 (u64 (shrK .u64 x_ 32 * (andK .u64 y_ 4294967295)) + shrK .u64 (u64 (andK .u64 x_ 4294967295 * (andK .u64 y_ 4294967295))) 32)) 32) + shrK .u64 (u64 (andK .u64 (u64 (u64 (shrK .u64 x_ 32 * (andK .u64 y_ 4294967295)) + shrK .u64 (u64 (andK .u64 x_ 4294967295 * (andK .u64 y_ 4294967295))) 32)) 4294967295 + u64 (andK .u64 x_ 4294967295 * (shrK .u64 y_ 32)))) 32)) := hf 8 rfl
  obtain ⟨h0, h1⟩ := k2 hr h0 h1 rfl
  have hW := hW.trans hN
  have hsz := hW.size
  refine WP.seq ?_
  refine WP.rb mixed [[], [], [0, 1], [2]] [[0], [1], [], []] [(48, .int .u64 x_), (49, .int .u64 y_), (50, .int .u64 (u64 (x_ * y_))), (5, .int .u64 (u64 (x_ * y_)))] (by kernel_rfl) ⟨fun ρz wz hE hA ⟨e0, _⟩ _ => core_val rfl rfl (o_move (e0.trans h0)),
 fun ρz wz hE hA ⟨e1, _⟩ _ => core_val rfl rfl (o_move (e1.trans h1)),
 fun ρz wz hE hA _ ⟨u0, u1, _⟩ => core_val rfl rfl (o_mul u0 u1 rfl),
 fun ρz wz hE hA _ ⟨u2, _⟩ => core_val rfl rfl (o_assign u2), trivial⟩ ?_
  intro ρ12 w12 hN hf hr
  have h5 : ρ12 5 = .int .u64 (u64 (x_ * y_)) := hf 3 rfl
  have h4 := (hr 4 rfl).trans h4
  have hW := hW.trans hN
  have hsz := hW.size
  refine WP.ret ?_
  show retQ Tryd.prog 51 Tryd.f50 (fun v w1 => v = .tuple #[.int .u64 r.1, .int .u64 r.2] ∧ Ext noG w0 w1) .ret ρ12 w12
  obtain rfl := Option.some.inj hF
  exact res2 rfl (by decide) (by decide) h4 h5 ⟨rfl, hW⟩

set_option maxHeartbeats 4000000 in
theorem bits_Div64_ok {w0 : World} (d_ : Int) (i_ : Int) (p_ : Int) {r : Int × Int} (hF : bits_Div64 d_ i_ p_ = some r) :
    Calls Tryd.prog 81 #[.int .u64 d_, .int .u64 i_, .int .u64 p_] w0 fun e w1 => e = .returned (.tuple #[.int .u64 r.1, .int .u64 r.2]) ∧ Ext noG w0 w1 := by
  refine (Calls.start (P := Tryd.prog) (args := [.int .u64 d_, .int .u64 i_, .int .u64 p_]) (R := fun v w1 => v = .tuple #[.int .u64 r.1, .int .u64 r.2] ∧ Ext noG w0 w1) (n := 135) (w := w0) Tryd.func81 rfl rfl (Nat.le_of_ble_eq_true rfl) (fun ρ hargs => ?_)).mono (fun e w1 ⟨v, he, hv, hE⟩ => ⟨hv ▸ he, hE⟩)
  have h0 := hargs 0 _ rfl
  have h1 := hargs 1 _ rfl
  have h2 := hargs 2 _ rfl
  have hW := Ext.refl noG w0
  have hsz := Nat.le_refl w0.heap.size
  rw [bits_Div64] at hF
  refine WP.seq ?_
  refine WP.rb mixed [[], []] [[], []] [(6, .int .u64 0), (7, .int .u64 0)] (by kernel_rfl) ⟨fun ρz wz hE hA _ _ => core_val rfl rfl (o_assign rfl),
 fun ρz wz hE hA _ _ => core_val rfl rfl (o_assign rfl), trivial⟩ ?_
  intro ρ1 w1 hN hf hr
  obtain ⟨h0, h1, h2⟩ := k3 hr h0 h1 h2 rfl
  have hW := hW.trans hN
  have hsz := hW.size
  refine WP.seqJ (fun ρ w => ρ 0 = .int .u64 d_ ∧ ρ 1 = .int .u64 i_ ∧ ρ 2 = .int .u64 p_ ∧ Ext noG w0 w ∧ w0.heap.size ≤ w.heap.size ∧ bits_Div64_j d_ i_ p_ = some r) ?_ ?_
  · refine WP.seq ?_
    refine WP.rb mixed [[], [0]] [[2], []] [(19, .int .u64 p_), (20, .bool (p_ == 0))] (by kernel_rfl) ⟨fun ρz wz hE hA ⟨e2, _⟩ _ => core_val rfl rfl (o_move (e2.trans h2)),
 fun ρz wz hE hA _ ⟨u0, _⟩ => core_val rfl rfl (o_eql u0 rfl rfl), trivial⟩ ?_
    intro ρ33 w33 hN hf hr
    have h20 : ρ33 20 = .bool (p_ == 0) := hf 1 rfl
    obtain ⟨h0, h1, h2⟩ := k3 hr h0 h1 h2 rfl
    have hW := hW.trans hN
    have hsz := hW.size
    refine WP.cond rfl h20 (fun hb => ?_) (fun hb => ?_)
    · have hF := (if_pos hb).symm.trans hF
      cases hF
    have hF := (if_neg (Bool.eq_false_iff.1 hb)).symm.trans hF
    refine WP.skip ?_
    exact ⟨h0, h1, h2, hW, hsz, hF⟩
  rintro ρ2 w2 ⟨h0, h1, h2, hW, hsz, hF⟩
  rw [bits_Div64_j] at hF
  refine WP.seqJ (fun ρ w => ρ 0 = .int .u64 d_ ∧ ρ 1 = .int .u64 i_ ∧ ρ 2 = .int .u64 p_ ∧ Ext noG w0 w ∧ w0.heap.size ≤ w.heap.size ∧ bits_Div64_j2 d_ i_ p_ = some r) ?_ ?_
  · refine WP.seq ?_
    refine WP.rb mixed [[], [], [0, 1]] [[2], [0], []] [(22, .int .u64 p_), (23, .int .u64 d_), (24, .bool (decide (p_ ≤ d_)))] (by kernel_rfl) ⟨fun ρz wz hE hA ⟨e2, _⟩ _ => core_val rfl rfl (o_move (e2.trans h2)),
 fun ρz wz hE hA ⟨e0, _⟩ _ => core_val rfl rfl (o_move (e0.trans h0)),
 fun ρz wz hE hA _ ⟨u0, u1, _⟩ => core_val rfl rfl (o_leq u0 u1 rfl), trivial⟩ ?_
    intro ρ32 w32 hN hf hr
    have h24 : ρ32 24 = .bool (decide (p_ ≤ d_)) := hf 2 rfl
    obtain ⟨h0, h1, h2⟩ := k3 hr h0 h1 h2 rfl
    have hW := hW.trans hN
    have hsz := hW.size
    refine WP.cond rfl h24 (fun hb => ?_) (fun hb => ?_)
    · have hF := (if_pos hb).symm.trans hF
      cases hF
    have hF := (if_neg (Bool.eq_false_iff.1 hb)).symm.trans hF
    refine WP.skip ?_
    exact ⟨h0, h1, h2, hW, hsz, hF⟩
  rintro ρ3 w3 ⟨h0, h1, h2, hW, hsz, hF⟩
  rw [bits_Div64_j2] at hF
  refine WP.seq ?_
  refine WP.seq ?_
  refine WP.rb mixed [[], [0]] [[0], []] [(26, .int .u64 d_), (27, .bool (d_ == 0))] (by kernel_rfl) ⟨fun ρz wz hE hA ⟨e0, _⟩ _ => core_val rfl rfl (o_move (e0.trans h0)),
 fun ρz wz hE hA _ ⟨u0, _⟩ => core_val rfl rfl (o_eql u0 rfl rfl), trivial⟩ ?_
  intro ρ4 w4 hN hf hr
  have h27 : ρ4 27 = .bool (d_ == 0) := hf 1 rfl
  obtain ⟨h0, h1, h2⟩ := k3 hr h0 h1 h2 rfl
  have hW := hW.trans hN
  have hsz := hW.size
  refine WP.cond rfl h27 (fun hb => ?_) (fun hb => ?_)
  · have hF := (if_pos hb).symm.trans hF
    refine WP.seq ?_
    obtain ⟨q, hq, hF⟩ := obind hF
    obtain ⟨q2, hq2, hF⟩ := obind hF
    refine WP.rb mixed [[], [], [0, 1], [], [], [3, 4], [2], [5]] [[1], [2], [], [1], [2], [], [], []] [(28, .int .u64 i_), (29, .int .u64 p_), (30, .int .u64 q), (31, .int .u64 i_), (32, .int .u64 p_), (33, .int .u64 q2), (6, .int .u64 q), (7, .int .u64 q2)] (by kernel_rfl) ⟨fun ρz wz hE hA ⟨e1, _⟩ _ => core_val rfl rfl (o_move (e1.trans h1)),
 fun ρz wz hE hA ⟨e2, _⟩ _ => core_val rfl rfl (o_move (e2.trans h2)),
 fun ρz wz hE hA _ ⟨u0, u1, _⟩ => core_val rfl rfl (o_quo u0 u1 (quoU_some hq).1 (quoU_some hq).2),
 fun ρz wz hE hA ⟨e1, _⟩ _ => core_val rfl rfl (o_move (e1.trans h1)),
 fun ρz wz hE hA ⟨e2, _⟩ _ => core_val rfl rfl (o_move (e2.trans h2)),
 fun ρz wz hE hA _ ⟨u3, u4, _⟩ => core_val rfl rfl (o_rem u3 u4 (remI_some hq2).1 (remI_some hq2).2),
 fun ρz wz hE hA _ ⟨u2, _⟩ => core_val rfl rfl (o_assign u2),
 fun ρz wz hE hA _ ⟨u5, _⟩ => core_val rfl rfl (o_assign u5), trivial⟩ ?_
    intro ρ5 w5 hN hf hr
    have h6 : ρ5 6 = .int .u64 q := hf 6 rfl
    have h7 : ρ5 7 = .int .u64 q2 := hf 7 rfl
    have hW := hW.trans hN
    have hsz := hW.size
    refine WP.ret ?_
    show retQ Tryd.prog 135 Tryd.f81 (fun v w1 => v = .tuple #[.int .u64 r.1, .int .u64 r.2] ∧ Ext noG w0 w1) .ret ρ5 w5
    obtain rfl := Option.some.inj hF
    exact res2 rfl (by decide) (by decide) h6 h7 ⟨rfl, hW⟩
  have hF := (if_neg (Bool.eq_false_iff.1 hb)).symm.trans hF
  refine WP.skip ?_
  refine WP.seq ?_
  obtain ⟨z, hz, hF⟩ := obind hF
  refine WP.rb mixed [[], [0], [1], [2]] [[2], [], [], []] [(34, .int .u64 p_), (35, .int .i64 z), (36, .int .u64 (u64 z)), (8, .int .u64 (u64 z))] (by kernel_rfl) ⟨fun ρz wz hE hA ⟨e2, _⟩ _ => core_val rfl rfl (o_move (e2.trans h2)),
 fun ρz wz hE hA _ ⟨u0, _⟩ => core_call rfl (call_args1 u0) cf_90 (bits_LeadingZeros64_ok  _  hz),
 fun ρz wz hE hA _ ⟨u1, _⟩ => core_val rfl rfl (o_conv u1 (cv_3_78 _ _)),
 fun ρz wz hE hA _ ⟨u2, _⟩ => core_val rfl rfl (o_assign u2), trivial⟩ ?_
  intro ρ6 w6 hN hf hr
  have h8 : ρ6 8 = .int .u64 (u64 z) := hf 3 rfl
  obtain ⟨h0, h1, h2⟩ := k3 hr h0 h1 h2 rfl
  have hW := hW.trans hN
  have hsz := hW.size
  refine WP.seq ?_
  obtain ⟨q3, hq3, hF⟩ := obind hF
  refine WP.rv mixed [[], [], [0, 1], [0, 2]] [[], [], [0, 1], [2]] [[2], [8], [], []] [(37, .int .u64 p_), (38, .int .u64 (u64 z)), (39, .int .u64 q3), (2, .int .u64 q3)] (by kernel_rfl) ⟨fun ρz wz hE hA ⟨e2, _⟩ _ => core_val rfl rfl (o_move (e2.trans h2)),
 fun ρz wz hE hA ⟨e8, _⟩ _ => core_val rfl rfl (o_move (e8.trans h8)),
 fun ρz wz hE hA _ ⟨u0, u1, _⟩ => core_val rfl rfl (o_shl u0 u1 (shlO_some hq3).1 (shlO_some hq3).2),
 fun ρz wz hE hA _ ⟨u2, _⟩ => core_val rfl rfl (o_assign u2), trivial⟩ ?_
  intro ρ7 w7 hN hf hr
  have h2 : ρ7 2 = .int .u64 q3 := hf 3 rfl
  obtain ⟨h0, h1, h8⟩ := k3 hr h0 h1 h8 rfl
  have hW := hW.trans hN
  have hsz := hW.size
  refine WP.seq ?_
  refine WP.rb mixed [[], [0], [1]] [[2], [], []] [(40, .int .u64 q3), (41, .int .u64 (shrK .u64 q3 32)), (9, .int .u64 (shrK .u64 q3 32))] (by kernel_rfl) ⟨fun ρz wz hE hA ⟨e2, _⟩ _ => core_val rfl rfl (o_move (e2.trans h2)),
 fun ρz wz hE hA _ ⟨u0, _⟩ => core_val rfl rfl (o_shr u0 rfl (by decide) rfl),
 fun ρz wz hE hA _ ⟨u1, _⟩ => core_val rfl rfl (o_assign u1), trivial⟩ ?_
  intro ρ8 w8 hN hf hr
  have h9 : ρ8 9 = .int .u64 (shrK .u64 q3 32) := hf 2 rfl
  obtain ⟨h0, h1, h2, h8⟩ := k4 hr h0 h1 h2 h8 rfl
  have hW := hW.trans hN
  have hsz := hW.size
  refine WP.seq ?_
  refine WP.rb mixed [[], [0], [1]] [[2], [], []] [(42, .int .u64 q3), (43, .int .u64 (andK .u64 q3 4294967295)), (10, .int .u64 (andK .u64 q3 4294967295))] (by kernel_rfl) ⟨fun ρz wz hE hA ⟨e2, _⟩ _ => core_val rfl rfl (o_move (e2.trans h2)),
 fun ρz wz hE hA _ ⟨u0, _⟩ => core_val rfl rfl (o_and u0 rfl rfl),
 fun ρz wz hE hA _ ⟨u1, _⟩ => core_val rfl rfl (o_assign u1), trivial⟩ ?_
  intro ρ9 w9 hN hf hr
  have h10 : ρ9 10 = .int .u64 (andK .u64 q3 4294967295) := hf 2 rfl
  obtain ⟨h0, h1, h2, h8, h9⟩ := k5 hr h0 h1 h2 h8 h9 rfl
  have hW := hW.trans hN
  have hsz := hW.size
  refine WP.seq ?_
  obtain ⟨q4, hq4, hF⟩ := obind hF
  obtain ⟨q5, hq5, hF⟩ := obind hF
  refine WP.rb mixed [[], [], [0, 1], [], [], [4], [3, 5], [2, 6], [7]] [[0], [8], [], [1], [8], [], [], [], []] [(44, .int .u64 d_), (45, .int .u64 (u64 z)), (46, .int .u64 q4), (47, .int .u64 i_), (48, .int .u64 (u64 z)), (49, .int .u64 (u64 (64 - (u64 z)))), (50, .int .u64 q5), (51, .int .u64 (orK .u64 q4 q5)), (11, .int .u64 (orK .u64 q4 q5))] (by kernel_rfl) ⟨fun ρz wz hE hA ⟨e0, _⟩ _ => core_val rfl rfl (o_move (e0.trans h0)),
 fun ρz wz hE hA ⟨e8, _⟩ _ => core_val rfl rfl (o_move (e8.trans h8)),
 fun ρz wz hE hA _ ⟨u0, u1, _⟩ => core_val rfl rfl (o_shl u0 u1 (shlO_some hq4).1 (shlO_some hq4).2),
 fun ρz wz hE hA ⟨e1, _⟩ _ => core_val rfl rfl (o_move (e1.trans h1)),
 fun ρz wz hE hA ⟨e8, _⟩ _ => core_val rfl rfl (o_move (e8.trans h8)),
 fun ρz wz hE hA _ ⟨u4, _⟩ => core_val rfl rfl (o_sub rfl u4 rfl),
 fun ρz wz hE hA _ ⟨u3, u5, _⟩ => core_val rfl rfl (o_shr u3 u5 (shrO_some hq5).1 (shrO_some hq5).2),
 fun ρz wz hE hA _ ⟨u2, u6, _⟩ => core_val rfl rfl (o_or u2 u6 rfl),
 fun ρz wz hE hA _ ⟨u7, _⟩ => core_val rfl rfl (o_assign u7), trivial⟩ ?_
  intro ρ10 w10 hN hf hr
  have h11 : ρ10 11 = .int .u64 (orK .u64 q4 q5) := hf 8 rfl
  obtain ⟨h1, h2, h8, h9, h10⟩ := k5 hr h1 h2 h8 h9 h10 rfl
  have hW := hW.trans hN
  have hsz := hW.size
  refine WP.seq ?_
  obtain ⟨q6, hq6, hF⟩ := obind hF
  refine WP.rb mixed [[], [], [0, 1], [2]] [[1], [8], [], []] [(52, .int .u64 i_), (53, .int .u64 (u64 z)), (54, .int .u64 q6), (12, .int .u64 q6)] (by kernel_rfl) ⟨fun ρz wz hE hA ⟨e1, _⟩ _ => core_val rfl rfl (o_move (e1.trans h1)),
 fun ρz wz hE hA ⟨e8, _⟩ _ => core_val rfl rfl (o_move (e8.trans h8)),
 fun ρz wz hE hA _ ⟨u0, u1, _⟩ => core_val rfl rfl (o_shl u0 u1 (shlO_some hq6).1 (shlO_some hq6).2),
 fun ρz wz hE hA _ ⟨u2, _⟩ => core_val rfl rfl (o_assign u2), trivial⟩ ?_
  intro ρ11 w11 hN hf hr
  have h12 : ρ11 12 = .int .u64 q6 := hf 3 rfl
  obtain ⟨h2, h8, h9, h10, h11⟩ := k5 hr h2 h8 h9 h10 h11 rfl
  have hW := hW.trans hN
  have hsz := hW.size
  refine WP.seq ?_
  refine WP.rb mixed [[], [0], [1]] [[12], [], []] [(55, .int .u64 q6), (56, .int .u64 (shrK .u64 q6 32)), (13, .int .u64 (shrK .u64 q6 32))] (by kernel_rfl) ⟨fun ρz wz hE hA ⟨e12, _⟩ _ => core_val rfl rfl (o_move (e12.trans h12)),
 fun ρz wz hE hA _ ⟨u0, _⟩ => core_val rfl rfl (o_shr u0 rfl (by decide) rfl),
 fun ρz wz hE hA _ ⟨u1, _⟩ => core_val rfl rfl (o_assign u1), trivial⟩ ?_
  intro ρ12 w12 hN hf hr
  have h13 : ρ12 13 = .int .u64 (shrK .u64 q6 32) := hf 2 rfl
  obtain ⟨h2, h8, h9, h10, h11, h12⟩ := k6 hr h2 h8 h9 h10 h11 h12 rfl
  have hW := hW.trans hN
  have hsz := hW.size
  refine WP.seq ?_
  refine WP.rb mixed [[], [0], [1]] [[12], [], []] [(57, .int .u64 q6), (58, .int .u64 (andK .u64 q6 4294967295)), (14, .int .u64 (andK .u64 q6 4294967295))] (by kernel_rfl) ⟨fun ρz wz hE hA ⟨e12, _⟩ _ => core_val rfl rfl (o_move (e12.trans h12)),
 fun ρz wz hE hA _ ⟨u0, _⟩ => core_val rfl rfl (o_and u0 rfl rfl),
 fun ρz wz hE hA _ ⟨u1, _⟩ => core_val rfl rfl (o_assign u1), trivial⟩ ?_
  intro ρ13 w13 hN hf hr
  have h14 : ρ13 14 = .int .u64 (andK .u64 q6 4294967295) := hf 2 rfl
  obtain ⟨h2, h8, h9, h10, h11, h13⟩ := k6 hr h2 h8 h9 h10 h11 h13 rfl
  have hW := hW.trans hN
  have hsz := hW.size
  refine WP.seq ?_
  obtain ⟨q7, hq7, hF⟩ := obind hF
  refine WP.rb mixed [[], [], [0, 1], [2]] [[11], [9], [], []] [(59, .int .u64 (orK .u64 q4 q5)), (60, .int .u64 (shrK .u64 q3 32)), (61, .int .u64 q7), (15, .int .u64 q7)] (by kernel_rfl) ⟨fun ρz wz hE hA ⟨e11, _⟩ _ => core_val rfl rfl (o_move (e11.trans h11)),
 fun ρz wz hE hA ⟨e9, _⟩ _ => core_val rfl rfl (o_move (e9.trans h9)),
 fun ρz wz hE hA _ ⟨u0, u1, _⟩ => core_val rfl rfl (o_quo u0 u1 (quoU_some hq7).1 (quoU_some hq7).2),
 fun ρz wz hE hA _ ⟨u2, _⟩ => core_val rfl rfl (o_assign u2), trivial⟩ ?_
  intro ρ14 w14 hN hf hr
  have h15 : ρ14 15 = .int .u64 q7 := hf 3 rfl
  obtain ⟨h2, h8, h9, h10, h11, h13⟩ := k6 hr h2 h8 h9 h10 h11 h13 rfl
  have h14 := (hr 14 rfl).trans h14
  have hW := hW.trans hN
  have hsz := hW.size
  refine WP.seq ?_
  refine WP.rb mixed [[], [], [], [1, 2], [0, 3], [4]] [[11], [15], [9], [], [], []] [(62, .int .u64 (orK .u64 q4 q5)), (63, .int .u64 q7), (64, .int .u64 (shrK .u64 q3 32)), (65, .int .u64 (u64 (q7 * (shrK .u64 q3 32)))), (66, .int .u64 (u64 (orK .u64 q4 q5 - (u64 (q7 * (shrK .u64 q3 32)))))), (16, .int .u64 (u64 (orK .u64 q4 q5 - (u64 (q7 * (shrK .u64 q3 32))))))] (by kernel_rfl) ⟨fun ρz wz hE hA ⟨e11, _⟩ _ => core_val rfl rfl (o_move (e11.trans h11)),
 fun ρz wz hE hA ⟨e15, _⟩ _ => core_val rfl rfl (o_move (e15.trans h15)),
 fun ρz wz hE hA ⟨e9, _⟩ _ => core_val rfl rfl (o_move (e9.trans h9)),
 fun ρz wz hE hA _ ⟨u1, u2, _⟩ => core_val rfl rfl (o_mul u1 u2 rfl),
 fun ρz wz hE hA _ ⟨u0, u3, _⟩ => core_val rfl rfl (o_sub u0 u3 rfl),
 fun ρz wz hE hA _ ⟨u4, _⟩ => core_val rfl rfl (o_assign u4), trivial⟩ ?_
  intro ρ15 w15 hN hf hr
  have h16 : ρ15 16 = .int .u64 (u64 (orK .u64 q4 q5 - (u64 (q7 * (shrK .u64 q3 32))))) := hf 5 rfl
  obtain ⟨h2, h8, h9, h10, h11, h13⟩ := k6 hr h2 h8 h9 h10 h11 h13 rfl
  obtain ⟨h14, h15⟩ := k2 hr h14 h15 rfl
  have hW := hW.trans hN
  have hsz := hW.size
  refine WP.seqJ (fun ρ w => ∃ x : Int, ρ 2 = .int .u64 q3 ∧ ρ 8 = .int .u64 (u64 z) ∧ ρ 9 = .int .u64 (shrK .u64 q3 32) ∧ ρ 10 = .int .u64 (andK .u64 q3 4294967295) ∧ ρ 11 = .int .u64 (orK .u64 q4 q5) ∧ ρ 13 = .int .u64 (shrK .u64 q6 32) ∧ ρ 14 = .int .u64 (andK .u64 q6 4294967295) ∧ ρ 15 = .int .u64 x ∧ Ext noG w0 w ∧ w0.heap.size ≤ w.heap.size ∧ bits_Div64_j3 z q3 q4 q5 q6 x = some r) ?_ ?_
  · refine WP.block ?_
    refine WP.loop (fun k_2 ρ w => ∃ x5 : Int, ∃ x6 : Int, ρ 2 = .int .u64 q3 ∧ ρ 8 = .int .u64 (u64 z) ∧ ρ 9 = .int .u64 (shrK .u64 q3 32) ∧ ρ 10 = .int .u64 (andK .u64 q3 4294967295) ∧ ρ 11 = .int .u64 (orK .u64 q4 q5) ∧ ρ 13 = .int .u64 (shrK .u64 q6 32) ∧ ρ 14 = .int .u64 (andK .u64 q6 4294967295) ∧ ρ 15 = .int .u64 x5 ∧ ρ 16 = .int .u64 x6 ∧ Ext noG w0 w ∧ w0.heap.size ≤ w.heap.size ∧ loopC k_2 (bits_Div64_l2 z q3 q4 q5 q6) (x5, x6) = some r) FU ⟨q7, u64 (orK .u64 q4 q5 - (u64 (q7 * (shrK .u64 q3 32)))), h2, h8, h9, h10, h11, h13, h14, h15, h16, hW, hsz, hF⟩ (fun _ _ h => by obtain ⟨_, _, _, _, _, _, _, _, _, _, _, _, _, h⟩ := h; cases h) ?_
    rintro k_2 ρ27 w27 ⟨x5, x6, h2, h8, h9, h10, h11, h13, h14, h15, h16, hW, hsz, hF⟩
    have hF : bits_Div64_l2 z q3 q4 q5 q6 (loopC k_2 (bits_Div64_l2 z q3 q4 q5 q6)) (x5, x6) = some r := hF
    generalize hrec_2 : loopC k_2 (bits_Div64_l2 z q3 q4 q5 q6) = rec_2 at hF
    rw [bits_Div64_l2] at hF
    refine WP.seq ?_
    refine WP.seq ?_
    refine WP.rb mixed [[], [0], [1], [2], [2], [2, 3, 4], [2], [2, 6], [2], [2, 7, 8], [2, 5, 9], [2, 10]] [[15], [], [], [15], [10], [], [16], [], [13], [], [], []] [(67, .int .u64 x5), (68, .bool (decide (4294967296 ≤ x5))), (69, .bool (decide (4294967296 ≤ x5))), (70, gv (!(decide (4294967296 ≤ x5))) (.int .u64 x5)), (71, gv (!(decide (4294967296 ≤ x5))) (.int .u64 (andK .u64 q3 4294967295))), (72, gv (!(decide (4294967296 ≤ x5))) (.int .u64 (u64 (x5 * (andK .u64 q3 4294967295))))), (73, gv (!(decide (4294967296 ≤ x5))) (.int .u64 x6)), (74, gv (!(decide (4294967296 ≤ x5))) (.int .u64 (u64 (4294967296 * x6)))), (75, gv (!(decide (4294967296 ≤ x5))) (.int .u64 (shrK .u64 q6 32))), (76, gv (!(decide (4294967296 ≤ x5))) (.int .u64 (u64 (u64 (4294967296 * x6) + shrK .u64 q6 32)))), (77, gv (!(decide (4294967296 ≤ x5))) (.bool (decide (u64 (u64 (4294967296 * x6) + shrK .u64 q6 32) < u64 (x5 * (andK .u64 q3 4294967295)))))), (78, .bool (decide (4294967296 ≤ x5) || decide (u64 (u64 (4294967296 * x6) + shrK .u64 q6 32) < u64 (x5 * (andK .u64 q3 4294967295)))))] (by kernel_rfl) ⟨fun ρz wz hE hA ⟨e15, _⟩ _ => core_val rfl rfl (o_move (e15.trans h15)),
 fun ρz wz hE hA _ ⟨u0, _⟩ => core_val rfl rfl (o_geq u0 rfl rfl),
 fun ρz wz hE hA _ ⟨u1, _⟩ => core_val rfl rfl (o_move u1),
 fun ρz wz hE hA ⟨e15, _⟩ ⟨u2, _⟩ => gIf rfl rfl (yF rfl u2) fun gc F hF => core_val rfl hF (o_move (e15.trans h15)),
 fun ρz wz hE hA ⟨e10, _⟩ ⟨u2, _⟩ => gIf rfl rfl (yF rfl u2) fun gc F hF => core_val rfl hF (o_move (e10.trans h10)),
 fun ρz wz hE hA _ ⟨u2, u3, u4, _⟩ => gIf rfl rfl (yF rfl u2) fun gc F hF => core_val rfl hF (o_mul (gt gc u3) (gt gc u4) rfl),
 fun ρz wz hE hA ⟨e16, _⟩ ⟨u2, _⟩ => gIf rfl rfl (yF rfl u2) fun gc F hF => core_val rfl hF (o_move (e16.trans h16)),
 fun ρz wz hE hA _ ⟨u2, u6, _⟩ => gIf rfl rfl (yF rfl u2) fun gc F hF => core_val rfl hF (o_mul rfl (gt gc u6) rfl),
 fun ρz wz hE hA ⟨e13, _⟩ ⟨u2, _⟩ => gIf rfl rfl (yF rfl u2) fun gc F hF => core_val rfl hF (o_move (e13.trans h13)),
 fun ρz wz hE hA _ ⟨u2, u7, u8, _⟩ => gIf rfl rfl (yF rfl u2) fun gc F hF => core_val rfl hF (o_add (gt gc u7) (gt gc u8) rfl),
 fun ρz wz hE hA _ ⟨u2, u5, u9, _⟩ => gIf rfl rfl (yF rfl u2) fun gc F hF => core_val rfl hF (o_gtr (gt gc u5) (gt gc u9) rfl),
 fun ρz wz hE hA _ ⟨u2, u10, _⟩ => core_val rfl rfl (o_pick_or u2 rfl u10), trivial⟩ ?_
    intro ρ28 w28 hN hf hr
    have h78 : ρ28 78 = .bool (decide (4294967296 ≤ x5) || decide (u64 (u64 (4294967296 * x6) + shrK .u64 q6 32) < u64 (x5 * (andK .u64 q3 4294967295)))) := hf 11 rfl
    obtain ⟨h2, h8, h9, h10, h11, h13⟩ := k6 hr h2 h8 h9 h10 h11 h13 rfl
    obtain ⟨h14, h15, h16⟩ := k3 hr h14 h15 h16 rfl
    have hW := hW.trans hN
    have hsz := hW.size
    refine WP.cond rfl h78 (fun hb => ?_) (fun hb => ?_)
    · have hF := (if_pos hb).symm.trans hF
      refine WP.skip ?_
      refine WP.block ?_
      refine WP.seq ?_
      refine WP.rv mixed [[], [0], [0, 1]] [[], [0], [1]] [[15], [], []] [(79, .int .u64 x5), (80, .int .u64 (u64 (x5 - 1))), (15, .int .u64 (u64 (x5 - 1)))] (by kernel_rfl) ⟨fun ρz wz hE hA ⟨e15, _⟩ _ => core_val rfl rfl (o_move (e15.trans h15)),
 fun ρz wz hE hA _ ⟨u0, _⟩ => core_val rfl rfl (o_sub u0 rfl rfl),
 fun ρz wz hE hA _ ⟨u1, _⟩ => core_val rfl rfl (o_assign u1), trivial⟩ ?_
      intro ρ29 w29 hN hf hr
      have h15 : ρ29 15 = .int .u64 (u64 (x5 - 1)) := hf 2 rfl
      obtain ⟨h2, h8, h9, h10, h11, h13⟩ := k6 hr h2 h8 h9 h10 h11 h13 rfl
      obtain ⟨h14, h16⟩ := k2 hr h14 h16 rfl
      have hW := hW.trans hN
      have hsz := hW.size
      refine WP.seq ?_
      refine WP.rv mixed [[], [], [0, 1], [0, 2]] [[], [], [0, 1], [2]] [[16], [9], [], []] [(81, .int .u64 x6), (82, .int .u64 (shrK .u64 q3 32)), (83, .int .u64 (u64 (x6 + shrK .u64 q3 32))), (16, .int .u64 (u64 (x6 + shrK .u64 q3 32)))] (by kernel_rfl) ⟨fun ρz wz hE hA ⟨e16, _⟩ _ => core_val rfl rfl (o_move (e16.trans h16)),
 fun ρz wz hE hA ⟨e9, _⟩ _ => core_val rfl rfl (o_move (e9.trans h9)),
 fun ρz wz hE hA _ ⟨u0, u1, _⟩ => core_val rfl rfl (o_add u0 u1 rfl),
 fun ρz wz hE hA _ ⟨u2, _⟩ => core_val rfl rfl (o_assign u2), trivial⟩ ?_
      intro ρ30 w30 hN hf hr
      have h16 : ρ30 16 = .int .u64 (u64 (x6 + shrK .u64 q3 32)) := hf 3 rfl
      obtain ⟨h2, h8, h9, h10, h11, h13⟩ := k6 hr h2 h8 h9 h10 h11 h13 rfl
      obtain ⟨h14, h15⟩ := k2 hr h14 h15 rfl
      have hW := hW.trans hN
      have hsz := hW.size
      refine WP.seq ?_
      refine WP.rb mixed [[], [0]] [[16], []] [(84, .int .u64 (u64 (x6 + shrK .u64 q3 32))), (85, .bool (decide (4294967296 ≤ u64 (x6 + shrK .u64 q3 32))))] (by kernel_rfl) ⟨fun ρz wz hE hA ⟨e16, _⟩ _ => core_val rfl rfl (o_move (e16.trans h16)),
 fun ρz wz hE hA _ ⟨u0, _⟩ => core_val rfl rfl (o_geq u0 rfl rfl), trivial⟩ ?_
      intro ρ31 w31 hN hf hr
      have h85 : ρ31 85 = .bool (decide (4294967296 ≤ u64 (x6 + shrK .u64 q3 32))) := hf 1 rfl
      obtain ⟨h2, h8, h9, h10, h11, h13⟩ := k6 hr h2 h8 h9 h10 h11 h13 rfl
      obtain ⟨h14, h15, h16⟩ := k3 hr h14 h15 h16 rfl
      have hW := hW.trans hN
      have hsz := hW.size
      refine WP.cond rfl h85 (fun hb => ?_) (fun hb => ?_)
      · have hF := (if_pos hb).symm.trans hF
        refine WP.exit ?_
        refine blockQ_pass (by decide) ?_
        refine thenQ_exit ?_
        refine blockQ_hit ?_
        exact ⟨u64 (x5 - 1), h2, h8, h9, h10, h11, h13, h14, h15, hW, hsz, hF⟩
      have hF := (if_neg (Bool.eq_false_iff.1 hb)).symm.trans hF
      refine WP.skip ?_
      exact ⟨u64 (x5 - 1), u64 (x6 + shrK .u64 q3 32), h2, h8, h9, h10, h11, h13, h14, h15, h16, hW, hsz, (by first | exact hF | (rw [hrec_2]; exact hF))⟩
    have hF := (if_neg (Bool.eq_false_iff.1 hb)).symm.trans hF
    refine WP.exit ?_
    refine thenQ_exit ?_
    refine thenQ_exit ?_
    refine blockQ_hit ?_
    exact ⟨x5, h2, h8, h9, h10, h11, h13, h14, h15, hW, hsz, hF⟩
  rintro ρ16 w16 ⟨x, h2, h8, h9, h10, h11, h13, h14, h15, hW, hsz, hF⟩
  rw [bits_Div64_j3] at hF
  refine WP.seq ?_
  refine WP.rb mixed [[], [0], [], [1, 2], [], [], [4, 5], [3, 6], [7]] [[11], [], [13], [], [15], [2], [], [], []] [(86, .int .u64 (orK .u64 q4 q5)), (87, .int .u64 (u64 (orK .u64 q4 q5 * 4294967296))), (88, .int .u64 (shrK .u64 q6 32)), (89, .int .u64 (u64 (u64 (orK .u64 q4 q5 * 4294967296) + shrK .u64 q6 32))), (90, .int .u64 x), (91, .int .u64 q3), (92, .int .u64 (u64 (x * q3))), (93, .int .u64 (u64 (u64 (u64 (orK .u64 q4 q5 * 4294967296) + shrK .u64 q6 32) - (u64 (x * q3))))), (17, .int .u64 (u64 (u64 (u64 (orK .u64 q4 q5 * 4294967296) + shrK .u64 q6 32) - (u64 (x * q3)))))] (by kernel_rfl) ⟨fun ρz wz hE hA ⟨e11, _⟩ _ => core_val rfl rfl (o_move (e11.trans h11)),
 fun ρz wz hE hA _ ⟨u0, _⟩ => core_val rfl rfl (o_mul u0 rfl rfl),
 fun ρz wz hE hA ⟨e13, _⟩ _ => core_val rfl rfl (o_move (e13.trans h13)),
 fun ρz wz hE hA _ ⟨u1, u2, _⟩ => core_val rfl rfl (o_add u1 u2 rfl),
 fun ρz wz hE hA ⟨e15, _⟩ _ => core_val rfl rfl (o_move (e15.trans h15)),
 fun ρz wz hE hA ⟨e2, _⟩ _ => core_val rfl rfl (o_move (e2.trans h2)),
 fun ρz wz hE hA _ ⟨u4, u5, _⟩ => core_val rfl rfl (o_mul u4 u5 rfl),
 fun ρz wz hE hA _ ⟨u3, u6, _⟩ => core_val rfl rfl (o_sub u3 u6 rfl),
 fun ρz wz hE hA _ ⟨u7, _⟩ => core_val rfl rfl (o_assign u7), trivial⟩ ?_
  intro ρ17 w17 hN hf hr
  have h17 : ρ17 17 = .int .u64 (u64 (u64 (u64 (orK .u64 q4 q5 * 4294967296) + shrK .u64 q6 32) - (u64 (x * q3)))) := hf 8 rfl
  obtain ⟨h2, h8, h9, h10, h14, h15⟩ := k6 hr h2 h8 h9 h10 h14 h15 rfl
  have hW := hW.trans hN
  have hsz := hW.size
  refine WP.seq ?_
  obtain ⟨q8, hq8, hF⟩ := obind hF
  refine WP.rb mixed [[], [], [0, 1], [2]] [[17], [9], [], []] [(94, .int .u64 (u64 (u64 (u64 (orK .u64 q4 q5 * 4294967296) + shrK .u64 q6 32) - (u64 (x * q3))))), (95, .int .u64 (shrK .u64 q3 32)), (96, .int .u64 q8), (18, .int .u64 q8)] (by kernel_rfl) ⟨fun ρz wz hE hA ⟨e17, _⟩ _ => core_val rfl rfl (o_move (e17.trans h17)),
 fun ρz wz hE hA ⟨e9, _⟩ _ => core_val rfl rfl (o_move (e9.trans h9)),
 fun ρz wz hE hA _ ⟨u0, u1, _⟩ => core_val rfl rfl (o_quo u0 u1 (quoU_some hq8).1 (quoU_some hq8).2),
 fun ρz wz hE hA _ ⟨u2, _⟩ => core_val rfl rfl (o_assign u2), trivial⟩ ?_
  intro ρ18 w18 hN hf hr
  have h18 : ρ18 18 = .int .u64 q8 := hf 3 rfl
  obtain ⟨h2, h8, h9, h10, h14, h15⟩ := k6 hr h2 h8 h9 h10 h14 h15 rfl
  have h17 := (hr 17 rfl).trans h17
  have hW := hW.trans hN
  have hsz := hW.size
  refine WP.seq ?_
  refine WP.rb mixed [[], [], [], [1, 2], [0, 3], [4]] [[17], [18], [9], [], [], []] [(97, .int .u64 (u64 (u64 (u64 (orK .u64 q4 q5 * 4294967296) + shrK .u64 q6 32) - (u64 (x * q3))))), (98, .int .u64 q8), (99, .int .u64 (shrK .u64 q3 32)), (100, .int .u64 (u64 (q8 * (shrK .u64 q3 32)))), (101, .int .u64 (u64 (u64 (u64 (u64 (orK .u64 q4 q5 * 4294967296) + shrK .u64 q6 32) - (u64 (x * q3))) - (u64 (q8 * (shrK .u64 q3 32)))))), (16, .int .u64 (u64 (u64 (u64 (u64 (orK .u64 q4 q5 * 4294967296) + shrK .u64 q6 32) - (u64 (x * q3))) - (u64 (q8 * (shrK .u64 q3 32))))))] (by kernel_rfl) ⟨fun ρz wz hE hA ⟨e17, _⟩ _ => core_val rfl rfl (o_move (e17.trans h17)),
 fun ρz wz hE hA ⟨e18, _⟩ _ => core_val rfl rfl (o_move (e18.trans h18)),
 fun ρz wz hE hA ⟨e9, _⟩ _ => core_val rfl rfl (o_move (e9.trans h9)),
 fun ρz wz hE hA _ ⟨u1, u2, _⟩ => core_val rfl rfl (o_mul u1 u2 rfl),
 fun ρz wz hE hA _ ⟨u0, u3, _⟩ => core_val rfl rfl (o_sub u0 u3 rfl),
 fun ρz wz hE hA _ ⟨u4, _⟩ => core_val rfl rfl (o_assign u4), trivial⟩ ?_
  intro ρ19 w19 hN hf hr
  have h16 : ρ19 16 = .int .u64 (u64 (u64 (u64 (u64 (orK .u64 q4 q5 * 4294967296) + shrK .u64 q6 32) - (u64 (x * q3))) - (u64 (q8 * (shrK .u64 q3 32))))) := hf 5 rfl
  obtain ⟨h2, h8, h9, h10, h14, h15⟩ := k6 hr h2 h8 h9 h10 h14 h15 rfl
  obtain ⟨h17, h18⟩ := k2 hr h17 h18 rfl
  have hW := hW.trans hN
  have hsz := hW.size
  refine WP.seqJ (fun ρ w => ∃ x2 : Int, ρ 2 = .int .u64 q3 ∧ ρ 8 = .int .u64 (u64 z) ∧ ρ 14 = .int .u64 (andK .u64 q6 4294967295) ∧ ρ 15 = .int .u64 x ∧ ρ 17 = .int .u64 (u64 (u64 (u64 (orK .u64 q4 q5 * 4294967296) + shrK .u64 q6 32) - (u64 (x * q3)))) ∧ ρ 18 = .int .u64 x2 ∧ Ext noG w0 w ∧ w0.heap.size ≤ w.heap.size ∧ bits_Div64_j4 z q3 q4 q5 q6 x x2 = some r) ?_ ?_
  · refine WP.block ?_
    refine WP.loop (fun k_ ρ w => ∃ x3 : Int, ∃ x4 : Int, ρ 2 = .int .u64 q3 ∧ ρ 8 = .int .u64 (u64 z) ∧ ρ 9 = .int .u64 (shrK .u64 q3 32) ∧ ρ 10 = .int .u64 (andK .u64 q3 4294967295) ∧ ρ 14 = .int .u64 (andK .u64 q6 4294967295) ∧ ρ 15 = .int .u64 x ∧ ρ 17 = .int .u64 (u64 (u64 (u64 (orK .u64 q4 q5 * 4294967296) + shrK .u64 q6 32) - (u64 (x * q3)))) ∧ ρ 18 = .int .u64 x4 ∧ ρ 16 = .int .u64 x3 ∧ Ext noG w0 w ∧ w0.heap.size ≤ w.heap.size ∧ loopC k_ (bits_Div64_l z q3 q4 q5 q6 x) (x3, x4) = some r) FU ⟨u64 (u64 (u64 (u64 (orK .u64 q4 q5 * 4294967296) + shrK .u64 q6 32) - (u64 (x * q3))) - (u64 (q8 * (shrK .u64 q3 32)))), q8, h2, h8, h9, h10, h14, h15, h17, h18, h16, hW, hsz, hF⟩ (fun _ _ h => by obtain ⟨_, _, _, _, _, _, _, _, _, _, _, _, _, h⟩ := h; cases h) ?_
    rintro k_ ρ22 w22 ⟨x3, x4, h2, h8, h9, h10, h14, h15, h17, h18, h16, hW, hsz, hF⟩
    have hF : bits_Div64_l z q3 q4 q5 q6 x (loopC k_ (bits_Div64_l z q3 q4 q5 q6 x)) (x3, x4) = some r := hF
    generalize hrec_ : loopC k_ (bits_Div64_l z q3 q4 q5 q6 x) = rec_ at hF
    rw [bits_Div64_l] at hF
    refine WP.seq ?_
    refine WP.seq ?_
    refine WP.rb mixed [[], [0], [1], [2], [2], [2, 3, 4], [2], [2, 6], [2], [2, 7, 8], [2, 5, 9], [2, 10]] [[18], [], [], [18], [10], [], [16], [], [14], [], [], []] [(102, .int .u64 x4), (103, .bool (decide (4294967296 ≤ x4))), (104, .bool (decide (4294967296 ≤ x4))), (105, gv (!(decide (4294967296 ≤ x4))) (.int .u64 x4)), (106, gv (!(decide (4294967296 ≤ x4))) (.int .u64 (andK .u64 q3 4294967295))), (107, gv (!(decide (4294967296 ≤ x4))) (.int .u64 (u64 (x4 * (andK .u64 q3 4294967295))))), (108, gv (!(decide (4294967296 ≤ x4))) (.int .u64 x3)), (109, gv (!(decide (4294967296 ≤ x4))) (.int .u64 (u64 (4294967296 * x3)))), (110, gv (!(decide (4294967296 ≤ x4))) (.int .u64 (andK .u64 q6 4294967295))), (111, gv (!(decide (4294967296 ≤ x4))) (.int .u64 (u64 (u64 (4294967296 * x3) + andK .u64 q6 4294967295)))), (112, gv (!(decide (4294967296 ≤ x4))) (.bool (decide (u64 (u64 (4294967296 * x3) + andK .u64 q6 4294967295) < u64 (x4 * (andK .u64 q3 4294967295)))))), (113, .bool (decide (4294967296 ≤ x4) || decide (u64 (u64 (4294967296 * x3) + andK .u64 q6 4294967295) < u64 (x4 * (andK .u64 q3 4294967295)))))] (by kernel_rfl) ⟨fun ρz wz hE hA ⟨e18, _⟩ _ => core_val rfl rfl (o_move (e18.trans h18)),
 fun ρz wz hE hA _ ⟨u0, _⟩ => core_val rfl rfl (o_geq u0 rfl rfl),
 fun ρz wz hE hA _ ⟨u1, _⟩ => core_val rfl rfl (o_move u1),
 fun ρz wz hE hA ⟨e18, _⟩ ⟨u2, _⟩ => gIf rfl rfl (yF rfl u2) fun gc F hF => core_val rfl hF (o_move (e18.trans h18)),
 fun ρz wz hE hA ⟨e10, _⟩ ⟨u2, _⟩ => gIf rfl rfl (yF rfl u2) fun gc F hF => core_val rfl hF (o_move (e10.trans h10)),
 fun ρz wz hE hA _ ⟨u2, u3, u4, _⟩ => gIf rfl rfl (yF rfl u2) fun gc F hF => core_val rfl hF (o_mul (gt gc u3) (gt gc u4) rfl),
 fun ρz wz hE hA ⟨e16, _⟩ ⟨u2, _⟩ => gIf rfl rfl (yF rfl u2) fun gc F hF => core_val rfl hF (o_move (e16.trans h16)),
 fun ρz wz hE hA _ ⟨u2, u6, _⟩ => gIf rfl rfl (yF rfl u2) fun gc F hF => core_val rfl hF (o_mul rfl (gt gc u6) rfl),
 fun ρz wz hE hA ⟨e14, _⟩ ⟨u2, _⟩ => gIf rfl rfl (yF rfl u2) fun gc F hF => core_val rfl hF (o_move (e14.trans h14)),
 fun ρz wz hE hA _ ⟨u2, u7, u8, _⟩ => gIf rfl rfl (yF rfl u2) fun gc F hF => core_val rfl hF (o_add (gt gc u7) (gt gc u8) rfl),
 fun ρz wz hE hA _ ⟨u2, u5, u9, _⟩ => gIf rfl rfl (yF rfl u2) fun gc F hF => core_val rfl hF (o_gtr (gt gc u5) (gt gc u9) rfl),
 fun ρz wz hE hA _ ⟨u2, u10, _⟩ => core_val rfl rfl (o_pick_or u2 rfl u10), trivial⟩ ?_
    intro ρ23 w23 hN hf hr
    have h113 : ρ23 113 = .bool (decide (4294967296 ≤ x4) || decide (u64 (u64 (4294967296 * x3) + andK .u64 q6 4294967295) < u64 (x4 * (andK .u64 q3 4294967295)))) := hf 11 rfl
    obtain ⟨h2, h8, h9, h10, h14, h15⟩ := k6 hr h2 h8 h9 h10 h14 h15 rfl
    obtain ⟨h17, h18, h16⟩ := k3 hr h17 h18 h16 rfl
    have hW := hW.trans hN
    have hsz := hW.size
    refine WP.cond rfl h113 (fun hb => ?_) (fun hb => ?_)
    · have hF := (if_pos hb).symm.trans hF
      refine WP.skip ?_
      refine WP.block ?_
      refine WP.seq ?_
      refine WP.rv mixed [[], [0], [0, 1]] [[], [0], [1]] [[18], [], []] [(114, .int .u64 x4), (115, .int .u64 (u64 (x4 - 1))), (18, .int .u64 (u64 (x4 - 1)))] (by kernel_rfl) ⟨fun ρz wz hE hA ⟨e18, _⟩ _ => core_val rfl rfl (o_move (e18.trans h18)),
 fun ρz wz hE hA _ ⟨u0, _⟩ => core_val rfl rfl (o_sub u0 rfl rfl),
 fun ρz wz hE hA _ ⟨u1, _⟩ => core_val rfl rfl (o_assign u1), trivial⟩ ?_
      intro ρ24 w24 hN hf hr
      have h18 : ρ24 18 = .int .u64 (u64 (x4 - 1)) := hf 2 rfl
      obtain ⟨h2, h8, h9, h10, h14, h15⟩ := k6 hr h2 h8 h9 h10 h14 h15 rfl
      obtain ⟨h17, h16⟩ := k2 hr h17 h16 rfl
      have hW := hW.trans hN
      have hsz := hW.size
      refine WP.seq ?_
      refine WP.rv mixed [[], [], [0, 1], [0, 2]] [[], [], [0, 1], [2]] [[16], [9], [], []] [(116, .int .u64 x3), (117, .int .u64 (shrK .u64 q3 32)), (118, .int .u64 (u64 (x3 + shrK .u64 q3 32))), (16, .int .u64 (u64 (x3 + shrK .u64 q3 32)))] (by kernel_rfl) ⟨fun ρz wz hE hA ⟨e16, _⟩ _ => core_val rfl rfl (o_move (e16.trans h16)),
 fun ρz wz hE hA ⟨e9, _⟩ _ => core_val rfl rfl (o_move (e9.trans h9)),
 fun ρz wz hE hA _ ⟨u0, u1, _⟩ => core_val rfl rfl (o_add u0 u1 rfl),
 fun ρz wz hE hA _ ⟨u2, _⟩ => core_val rfl rfl (o_assign u2), trivial⟩ ?_
      intro ρ25 w25 hN hf hr
      have h16 : ρ25 16 = .int .u64 (u64 (x3 + shrK .u64 q3 32)) := hf 3 rfl
      obtain ⟨h2, h8, h9, h10, h14, h15⟩ := k6 hr h2 h8 h9 h10 h14 h15 rfl
      obtain ⟨h17, h18⟩ := k2 hr h17 h18 rfl
      have hW := hW.trans hN
      have hsz := hW.size
      refine WP.seq ?_
      refine WP.rb mixed [[], [0]] [[16], []] [(119, .int .u64 (u64 (x3 + shrK .u64 q3 32))), (120, .bool (decide (4294967296 ≤ u64 (x3 + shrK .u64 q3 32))))] (by kernel_rfl) ⟨fun ρz wz hE hA ⟨e16, _⟩ _ => core_val rfl rfl (o_move (e16.trans h16)),
 fun ρz wz hE hA _ ⟨u0, _⟩ => core_val rfl rfl (o_geq u0 rfl rfl), trivial⟩ ?_
      intro ρ26 w26 hN hf hr
      have h120 : ρ26 120 = .bool (decide (4294967296 ≤ u64 (x3 + shrK .u64 q3 32))) := hf 1 rfl
      obtain ⟨h2, h8, h9, h10, h14, h15⟩ := k6 hr h2 h8 h9 h10 h14 h15 rfl
      obtain ⟨h17, h18, h16⟩ := k3 hr h17 h18 h16 rfl
      have hW := hW.trans hN
      have hsz := hW.size
      refine WP.cond rfl h120 (fun hb => ?_) (fun hb => ?_)
      · have hF := (if_pos hb).symm.trans hF
        refine WP.exit ?_
        refine blockQ_pass (by decide) ?_
        refine thenQ_exit ?_
        refine blockQ_hit ?_
        exact ⟨u64 (x4 - 1), h2, h8, h14, h15, h17, h18, hW, hsz, hF⟩
      have hF := (if_neg (Bool.eq_false_iff.1 hb)).symm.trans hF
      refine WP.skip ?_
      exact ⟨u64 (x3 + shrK .u64 q3 32), u64 (x4 - 1), h2, h8, h9, h10, h14, h15, h17, h18, h16, hW, hsz, (by first | exact hF | (rw [hrec_]; exact hF))⟩
    have hF := (if_neg (Bool.eq_false_iff.1 hb)).symm.trans hF
    refine WP.exit ?_
    refine thenQ_exit ?_
    refine thenQ_exit ?_
    refine blockQ_hit ?_
    exact ⟨x4, h2, h8, h14, h15, h17, h18, hW, hsz, hF⟩
  rintro ρ20 w20 ⟨x2, h2, h8, h14, h15, h17, h18, hW, hsz, hF⟩
  rw [bits_Div64_j4] at hF
  refine WP.seq ?_
  obtain ⟨q9, hq9, hF⟩ := obind hF
  refine WP.rb mixed [[], [0], [], [1, 2], [], [4], [], [5, 6], [], [], [8, 9], [7, 10], [], [11, 12], [3], [13]] [[15], [], [18], [], [17], [], [14], [], [18], [2], [], [], [8], [], [], []] [(121, .int .u64 x), (122, .int .u64 (u64 (x * 4294967296))), (123, .int .u64 x2), (124, .int .u64 (u64 (u64 (x * 4294967296) + x2))), (125, .int .u64 (u64 (u64 (u64 (orK .u64 q4 q5 * 4294967296) + shrK .u64 q6 32) - (u64 (x * q3))))), (126, .int .u64 (u64 (u64 (u64 (u64 (orK .u64 q4 q5 * 4294967296) + shrK .u64 q6 32) - (u64 (x * q3))) * 4294967296))), (127, .int .u64 (andK .u64 q6 4294967295)), (128, .int .u64 (u64 (u64 (u64 (u64 (u64 (orK .u64 q4 q5 * 4294967296) + shrK .u64 q6 32) - (u64 (x * q3))) * 4294967296) + andK .u64 q6 4294967295))), (129, .int .u64 x2), (130, .int .u64 q3), (131, .int .u64 (u64 (x2 * q3))), (132, .int .u64 (u64 (u64 (u64 (u64 (u64 (u64 (orK .u64 q4 q5 * 4294967296) + shrK .u64 q6 32) - (u64 (x * q3))) * 4294967296) + andK .u64 q6 4294967295) - (u64 (x2 * q3))))), (133, .int .u64 (u64 z)), (134, .int .u64 q9), (6, .int .u64 (u64 (u64 (x * 4294967296) + x2))), (7, .int .u64 q9)] (by kernel_rfl) ⟨fun ρz wz hE hA ⟨e15, _⟩ _ => core_val rfl rfl (o_move (e15.trans h15)),
 fun ρz wz hE hA _ ⟨u0, _⟩ => core_val rfl rfl (o_mul u0 rfl rfl),
 fun ρz wz hE hA ⟨e18, _⟩ _ => core_val rfl rfl (o_move (e18.trans h18)),
 fun ρz wz hE hA _ ⟨u1, u2, _⟩ => core_val rfl rfl (o_add u1 u2 rfl),
 fun ρz wz hE hA ⟨e17, _⟩ _ => core_val rfl rfl (o_move (e17.trans h17)),
 fun ρz wz hE hA _ ⟨u4, _⟩ => core_val rfl rfl (o_mul u4 rfl rfl),
 fun ρz wz hE hA ⟨e14, _⟩ _ => core_val rfl rfl (o_move (e14.trans h14)),
 fun ρz wz hE hA _ ⟨u5, u6, _⟩ => core_val rfl rfl (o_add u5 u6 rfl),
 fun ρz wz hE hA ⟨e18, _⟩ _ => core_val rfl rfl (o_move (e18.trans h18)),
 fun ρz wz hE hA ⟨e2, _⟩ _ => core_val rfl rfl (o_move (e2.trans h2)),
 fun ρz wz hE hA _ ⟨u8, u9, _⟩ => core_val rfl rfl (o_mul u8 u9 rfl),
 fun ρz wz hE hA _ ⟨u7, u10, _⟩ => core_val rfl rfl (o_sub u7 u10 rfl),
 fun ρz wz hE hA ⟨e8, _⟩ _ => core_val rfl rfl (o_move (e8.trans h8)),
 fun ρz wz hE hA _ ⟨u11, u12, _⟩ => core_val rfl rfl (o_shr u11 u12 (shrO_some hq9).1 (shrO_some hq9).2),
 fun ρz wz hE hA _ ⟨u3, _⟩ => core_val rfl rfl (o_assign u3),
 fun ρz wz hE hA _ ⟨u13, _⟩ => core_val rfl rfl (o_assign u13), trivial⟩ ?_
  intro ρ21 w21 hN hf hr
  have h6 : ρ21 6 = .int .u64 (u64 (u64 (x * 4294967296) + x2)) := hf 14 rfl
  have h7 : ρ21 7 = .int .u64 q9 := hf 15 rfl
  have hW := hW.trans hN
  have hsz := hW.size
  refine WP.ret ?_
  show retQ Tryd.prog 135 Tryd.f81 (fun v w1 => v = .tuple #[.int .u64 r.1, .int .u64 r.2] ∧ Ext noG w0 w1) .ret ρ21 w21
  obtain rfl := Option.some.inj hF
  exact res2 rfl (by decide) (by decide) h6 h7 ⟨rfl, hW⟩

set_option maxHeartbeats 4000000 in
theorem pensionref1_wide_over_ok {w0 : World} (w_ : pensionref1_wide) (d_ : Int) {r : pensionref1_wide × Int} (hF : pensionref1_wide_over w_ d_ = some r) :
    Calls Tryd.prog 82 #[pensionref1_wide.val w_, .int .u64 d_] w0 fun e w1 => e = .returned (.tuple #[pensionref1_wide.val r.1, .int .u64 r.2]) ∧ Ext noG w0 w1 := by
  refine (Calls.start (P := Tryd.prog) (args := [pensionref1_wide.val w_, .int .u64 d_]) (R := fun v w1 => v = .tuple #[pensionref1_wide.val r.1, .int .u64 r.2] ∧ Ext noG w0 w1) (n := 26) (w := w0) Tryd.func82 rfl rfl (Nat.le_of_ble_eq_true rfl) (fun ρ hargs => ?_)).mono (fun e w1 ⟨v, he, hv, hE⟩ => ⟨hv ▸ he, hE⟩)
  have h0 := hargs 0 _ rfl
  have h1 := hargs 1 _ rfl
  have hW := Ext.refl noG w0
  have hsz := Nat.le_refl w0.heap.size
  rw [pensionref1_wide_over] at hF
  refine WP.seq ?_
  refine WP.rg mixed [[], [], []] [[], [], []] [[0], [], []] [(2, fun u wz => ∃ b, u = .pointer (some ⟨b, 0, none⟩) ∧ w0.heap.size ≤ b ∧ Mb wz b 91 (pensionref1_wide.cells w_)), (4, fun u wz => ∃ b, u = .pointer (some ⟨b, 0, none⟩) ∧ w0.heap.size ≤ b ∧ Mb wz b 91 (pensionref1_wide.cells (⟨0, 0⟩ : pensionref1_wide))), val 5 (.int .u64 0)] (by kernel_rfl) ⟨fun _ _ _ hE ⟨b, hb, hs, hM⟩ => ⟨b, hb, hs, hM.exn hE⟩, fun _ _ _ hE ⟨b, hb, hs, hM⟩ => ⟨b, hb, hs, hM.exn hE⟩, sV, trivial⟩ ⟨fun ρz wz hE hA ⟨e0, _⟩ _ => core_new rfl rfl hE (o_box (e0.trans h0) (bx_91 _ _)),
 fun ρz wz hE hA _ _ => core_new rfl rfl hE (o_alloc (al_91 _)),
 fun ρz wz hE hA _ _ => core_val rfl rfl (o_assign rfl), trivial⟩ ?_
  intro ρ1 w1 hN hf hr
  obtain ⟨b2_, h2, hge_b2_, Hb_b2_⟩ := hf 0 rfl
  obtain ⟨b4_, h4, hge_b4_, Hb_b4_⟩ := hf 1 rfl
  have h1 := (hr 1 rfl).trans h1
  have hW := hW.trans hN
  have hB_b2_ : w0.heap.size ≤ b2_ := Nat.le_trans hsz hge_b2_
  have hB_b4_ : w0.heap.size ≤ b4_ := Nat.le_trans hsz hge_b4_
  have hsz := hW.size
  refine WP.seq ?_
  obtain ⟨q, hq, hF⟩ := obind hF
  obtain ⟨z, hz, hF⟩ := obind hF
  refine WP.rb mixed [[], [0], [], [1, 2], [], [4], [], [3, 5, 6], [7], [8], [8], [9], [10]] [[2], [], [1], [], [2], [], [1], [], [], [], [], [], []] [(9, .pointer (some ((⟨b2_, 0, none⟩ : Addr).add 0))), (10, .int .u64 w_.hi), (11, .int .u64 d_), (12, .int .u64 q), (13, .pointer (some ((⟨b2_, 0, none⟩ : Addr).add 1))), (14, .int .u64 w_.lo), (15, .int .u64 d_), (16, .tuple #[.int .u64 z.1, .int .u64 z.2]), (8, .tuple #[.int .u64 z.1, .int .u64 z.2]), (17, .int .u64 z.1), (18, .int .u64 z.2), (6, .int .u64 z.1), (7, .int .u64 z.2)] (by kernel_rfl) ⟨fun ρz wz hE hA ⟨e2, _⟩ _ => core_val rfl rfl (o_fieldAddr (e2.trans h2) (fa_91_0 _ _)),
 fun ρz wz hE hA _ ⟨u0, _⟩ => core_val rfl rfl (o_load u0 (run_load1 (lr_62 _ _) (CA.sub ((Hb_b2_.exn (hA rfl)).ca) 0 1))),
 fun ρz wz hE hA ⟨e1, _⟩ _ => core_val rfl rfl (o_move (e1.trans h1)),
 fun ρz wz hE hA _ ⟨u1, u2, _⟩ => core_val rfl rfl (o_rem u1 u2 (remI_some hq).1 (remI_some hq).2),
 fun ρz wz hE hA ⟨e2, _⟩ _ => core_val rfl rfl (o_fieldAddr (e2.trans h2) (fa_91_1 _ _)),
 fun ρz wz hE hA _ ⟨u4, _⟩ => core_val rfl rfl (o_load u4 (run_load1 (lr_62 _ _) (CA.sub ((Hb_b2_.exn (hA rfl)).ca) 1 1))),
 fun ρz wz hE hA ⟨e1, _⟩ _ => core_val rfl rfl (o_move (e1.trans h1)),
 fun ρz wz hE hA _ ⟨u3, u5, u6, _⟩ => core_call rfl (call_args3 u3 u5 u6) cf_81 (bits_Div64_ok  _ _ _  hz),
 fun ρz wz hE hA _ ⟨u7, _⟩ => core_val rfl rfl (o_move u7),
 fun ρz wz hE hA _ ⟨u8, _⟩ => core_val rfl rfl (o_extract u8 (by kernel_rfl)),
 fun ρz wz hE hA _ ⟨u8, _⟩ => core_val rfl rfl (o_extract u8 (by kernel_rfl)),
 fun ρz wz hE hA _ ⟨u9, _⟩ => core_val rfl rfl (o_assign u9),
 fun ρz wz hE hA _ ⟨u10, _⟩ => core_val rfl rfl (o_assign u10), trivial⟩ ?_
  intro ρ2 w2 hN hf hr
  have h6 : ρ2 6 = .int .u64 z.1 := hf 11 rfl
  have h7 : ρ2 7 = .int .u64 z.2 := hf 12 rfl
  obtain ⟨h1, h2, h4⟩ := k3 hr h1 h2 h4 rfl
  have Hb_b2_n := Hb_b2_.exn hN
  have Hb_b4_n := Hb_b4_.exn hN
  have hW := hW.trans hN
  have Hb_b2_ := Hb_b2_n
  have Hb_b4_ := Hb_b4_n
  have hsz := hW.size
  refine WP.seq ?_
  obtain ⟨q2, hq2, hF⟩ := obind hF
  refine WP.region mixed [[], [0], [], [1, 2], [], [3, 4], [], [1, 5], [6, 7]] [[], [0], [], [1, 2], [], [3, 4], [], [5], [6]] [[2], [], [1], [], [6], [], [7], [4], []] [7] [] [val 19 (.pointer (some ((⟨b2_, 0, none⟩ : Addr).add 0))), val 20 (.int .u64 w_.hi), val 21 (.int .u64 d_), val 22 (.int .u64 q2), val 23 (.int .u64 z.1), val 24 (pensionref1_wide.val (⟨q2, z.1⟩ : pensionref1_wide)), val 25 (.int .u64 z.2), (4, fun _ wz => Mb wz b4_ 91 (pensionref1_wide.cells (⟨q2, z.1⟩ : pensionref1_wide))), val 5 (.int .u64 z.2)] (fun x => x = b4_) (by kernel_rfl) ⟨sV, sV, sV, sV, sV, sV, sV, fun _ _ _ hE hM => hM.exn hE, sV, trivial⟩ ⟨fun ρz wz hE hA ⟨e2, _⟩ _ => core_val rfl rfl (o_fieldAddr (e2.trans h2) (fa_91_0 _ _)),
 fun ρz wz hE hA _ ⟨u0, _⟩ => core_val rfl rfl (o_load u0 (run_load1 (lr_62 _ _) (CA.sub ((Hb_b2_.exn (hA rfl)).ca) 0 1))),
 fun ρz wz hE hA ⟨e1, _⟩ _ => core_val rfl rfl (o_move (e1.trans h1)),
 fun ρz wz hE hA _ ⟨u1, u2, _⟩ => core_val rfl rfl (o_quo u1 u2 (quoU_some hq2).1 (quoU_some hq2).2),
 fun ρz wz hE hA ⟨e6, _⟩ _ => core_val rfl rfl (o_move (e6.trans h6)),
 fun ρz wz hE hA _ ⟨u3, u4, _⟩ => core_val rfl rfl (o_build (build_parts2 u3 u4) (bd_91_0_1 _ _ _)),
 fun ρz wz hE hA ⟨e7, _⟩ _ => core_val rfl rfl (o_move (e7.trans h7)),
 fun ρz wz hE hA ⟨e4, _⟩ ⟨u5, _⟩ => core_storeBox rfl rfl (fun _ h => h) (e4.trans h4) u5 (Hb_b4_.exn (hA rfl)) (fun a w => st_91 _ a w) rfl (one_91 _),
 fun ρz wz hE hA _ ⟨u6, _⟩ => core_val rfl rfl (o_assign u6), trivial⟩ ?_
  intro ρ3 w3 hE hN hf hr
  have h5 : ρ3 5 = .int .u64 z.2 := hf 8 rfl
  have h4 := (hr 4 rfl).trans h4
  have Hb_b4_n := hf 7 rfl
  have hW := Ext.own hW hE (fun x h => h.symm ▸ hB_b4_)
  have Hb_b4_ := Hb_b4_n
  have hsz := hW.size
  refine WP.ret ?_
  show retQ Tryd.prog 26 Tryd.f82 (fun v w1 => v = .tuple #[pensionref1_wide.val r.1, .int .u64 r.2] ∧ Ext noG w0 w1) .ret ρ3 w3
  obtain rfl := Option.some.inj hF
  exact resC1 rfl (by decide) (by decide) h4 (run_loadN (cs := (pensionref1_wide.cells (⟨q2, z.1⟩ : pensionref1_wide))) (lr_91 _ _) rfl Hb_b4_.ca) h5 ⟨rfl, hW⟩

set_option maxHeartbeats 4000000 in
theorem pensionref1_times_ok {w0 : World} (a_ : Int) (b_ : Int) {r : pensionref1_wide} (hF : pensionref1_times a_ b_ = some r) :
    Calls Tryd.prog 65 #[.int .u64 a_, .int .u64 b_] w0 fun e w1 => e = .returned (pensionref1_wide.val r) ∧ Ext noG w0 w1 := by
  refine (Calls.start (P := Tryd.prog) (args := [.int .u64 a_, .int .u64 b_]) (R := fun v w1 => v = pensionref1_wide.val r ∧ Ext noG w0 w1) (n := 16) (w := w0) Tryd.func65 rfl rfl (Nat.le_of_ble_eq_true rfl) (fun ρ hargs => ?_)).mono (fun e w1 ⟨v, he, hv, hE⟩ => ⟨hv ▸ he, hE⟩)
  have h0 := hargs 0 _ rfl
  have h1 := hargs 1 _ rfl
  have hW := Ext.refl noG w0
  have hsz := Nat.le_refl w0.heap.size
  rw [pensionref1_times] at hF
  refine WP.seq ?_
  refine WP.rg mixed [[]] [[]] [[]] [(4, fun u wz => ∃ b, u = .pointer (some ⟨b, 0, none⟩) ∧ w0.heap.size ≤ b ∧ Mb wz b 91 (pensionref1_wide.cells (⟨0, 0⟩ : pensionref1_wide)))] (by kernel_rfl) ⟨fun _ _ _ hE ⟨b, hb, hs, hM⟩ => ⟨b, hb, hs, hM.exn hE⟩, trivial⟩ ⟨fun ρz wz hE hA _ _ => core_new rfl rfl hE (o_alloc (al_91 _)), trivial⟩ ?_
  intro ρ1 w1 hN hf hr
  obtain ⟨b4_, h4, hge_b4_, Hb_b4_⟩ := hf 0 rfl
  obtain ⟨h0, h1⟩ := k2 hr h0 h1 rfl
  have hW := hW.trans hN
  have hB_b4_ : w0.heap.size ≤ b4_ := Nat.le_trans hsz hge_b4_
  have hsz := hW.size
  refine WP.seq ?_
  obtain ⟨z, hz, hF⟩ := obind hF
  refine WP.rb mixed [[], [], [0, 1], [2], [3], [3], [4], [5]] [[0], [1], [], [], [], [], [], []] [(8, .int .u64 a_), (9, .int .u64 b_), (10, .tuple #[.int .u64 z.1, .int .u64 z.2]), (7, .tuple #[.int .u64 z.1, .int .u64 z.2]), (11, .int .u64 z.1), (12, .int .u64 z.2), (5, .int .u64 z.1), (6, .int .u64 z.2)] (by kernel_rfl) ⟨fun ρz wz hE hA ⟨e0, _⟩ _ => core_val rfl rfl (o_move (e0.trans h0)),
 fun ρz wz hE hA ⟨e1, _⟩ _ => core_val rfl rfl (o_move (e1.trans h1)),
 fun ρz wz hE hA _ ⟨u0, u1, _⟩ => core_call rfl (call_args2 u0 u1) cf_50 (bits_Mul64_ok  _ _  hz),
 fun ρz wz hE hA _ ⟨u2, _⟩ => core_val rfl rfl (o_move u2),
 fun ρz wz hE hA _ ⟨u3, _⟩ => core_val rfl rfl (o_extract u3 (by kernel_rfl)),
 fun ρz wz hE hA _ ⟨u3, _⟩ => core_val rfl rfl (o_extract u3 (by kernel_rfl)),
 fun ρz wz hE hA _ ⟨u4, _⟩ => core_val rfl rfl (o_assign u4),
 fun ρz wz hE hA _ ⟨u5, _⟩ => core_val rfl rfl (o_assign u5), trivial⟩ ?_
  intro ρ2 w2 hN hf hr
  have h5 : ρ2 5 = .int .u64 z.1 := hf 6 rfl
  have h6 : ρ2 6 = .int .u64 z.2 := hf 7 rfl
  have h4 := (hr 4 rfl).trans h4
  have Hb_b4_n := Hb_b4_.exn hN
  have hW := hW.trans hN
  have Hb_b4_ := Hb_b4_n
  have hsz := hW.size
  refine WP.seq ?_
  refine WP.region mixed [[], [], [0, 1], [2]] [[], [], [0, 1], [2]] [[5], [6], [], [4]] [3] [] [val 13 (.int .u64 z.1), val 14 (.int .u64 z.2), val 15 (pensionref1_wide.val (⟨z.1, z.2⟩ : pensionref1_wide)), (4, fun _ wz => Mb wz b4_ 91 (pensionref1_wide.cells (⟨z.1, z.2⟩ : pensionref1_wide)))] (fun x => x = b4_) (by kernel_rfl) ⟨sV, sV, sV, fun _ _ _ hE hM => hM.exn hE, trivial⟩ ⟨fun ρz wz hE hA ⟨e5, _⟩ _ => core_val rfl rfl (o_move (e5.trans h5)),
 fun ρz wz hE hA ⟨e6, _⟩ _ => core_val rfl rfl (o_move (e6.trans h6)),
 fun ρz wz hE hA _ ⟨u0, u1, _⟩ => core_val rfl rfl (o_build (build_parts2 u0 u1) (bd_91_0_1 _ _ _)),
 fun ρz wz hE hA ⟨e4, _⟩ ⟨u2, _⟩ => core_storeBox rfl rfl (fun _ h => h) (e4.trans h4) u2 (Hb_b4_.exn (hA rfl)) (fun a w => st_91 _ a w) rfl (one_91 _), trivial⟩ ?_
  intro ρ3 w3 hE hN hf hr
  have h4 := (hr 4 rfl).trans h4
  have Hb_b4_n := hf 3 rfl
  have hW := Ext.own hW hE (fun x h => h.symm ▸ hB_b4_)
  have Hb_b4_ := Hb_b4_n
  have hsz := hW.size
  refine WP.ret ?_
  show retQ Tryd.prog 16 Tryd.f65 (fun v w1 => v = pensionref1_wide.val r ∧ Ext noG w0 w1) .ret ρ3 w3
  obtain rfl := Option.some.inj hF
  exact resC rfl (by decide) h4 (run_loadN (cs := (pensionref1_wide.cells (⟨z.1, z.2⟩ : pensionref1_wide))) (lr_91 _ _) rfl Hb_b4_.ca) ⟨rfl, hW⟩

set_option maxHeartbeats 4000000 in
theorem pensionref1_rounded_ok {w0 : World} (d_ : Bool) (i_ : pensionref1_wide) (p_ : Int) (p_2 : Rounding) {r : Int × Int} (hF : pensionref1_rounded d_ i_ p_ p_2 = some r) :
    Calls Tryd.prog 63 #[.bool d_, pensionref1_wide.val i_, .int .u64 p_, Rounding.val p_2] w0 fun e w1 => e = .returned (.tuple #[.int .i64 r.1, .int .i64 r.2]) ∧ Ext noG w0 w1 := by
  refine (Calls.start (P := Tryd.prog) (args := [.bool d_, pensionref1_wide.val i_, .int .u64 p_, Rounding.val p_2]) (R := fun v w1 => v = .tuple #[.int .i64 r.1, .int .i64 r.2] ∧ Ext noG w0 w1) (n := 109) (w := w0) Tryd.func63 rfl rfl (Nat.le_of_ble_eq_true rfl) (fun ρ hargs => ?_)).mono (fun e w1 ⟨v, he, hv, hE⟩ => ⟨hv ▸ he, hE⟩)
  have h0 := hargs 0 _ rfl
  have h1 := hargs 1 _ rfl
  have h2 := hargs 2 _ rfl
  have h3 := hargs 3 _ rfl
  have hW := Ext.refl noG w0
  have hsz := Nat.le_refl w0.heap.size
  rw [pensionref1_rounded] at hF
  refine WP.seq ?_
  refine WP.rg mixed [[], [], [], []] [[], [], [], []] [[1], [3], [], []] [(5, fun u wz => ∃ b, u = .pointer (some ⟨b, 0, none⟩) ∧ w0.heap.size ≤ b ∧ Mb wz b 91 (pensionref1_wide.cells i_)), (7, fun u wz => ∃ b, u = .pointer (some ⟨b, 0, none⟩) ∧ w0.heap.size ≤ b ∧ Mb wz b 72 (Rounding.cells p_2)), val 8 (.int .i64 0), val 9 (.int .i64 0)] (by kernel_rfl) ⟨fun _ _ _ hE ⟨b, hb, hs, hM⟩ => ⟨b, hb, hs, hM.exn hE⟩, fun _ _ _ hE ⟨b, hb, hs, hM⟩ => ⟨b, hb, hs, hM.exn hE⟩, sV, sV, trivial⟩ ⟨fun ρz wz hE hA ⟨e1, _⟩ _ => core_new rfl rfl hE (o_box (e1.trans h1) (bx_91 _ _)),
 fun ρz wz hE hA ⟨e3, _⟩ _ => core_new rfl rfl hE (o_box (e3.trans h3) (bx_72 _ _)),
 fun ρz wz hE hA _ _ => core_val rfl rfl (o_assign rfl),
 fun ρz wz hE hA _ _ => core_val rfl rfl (o_assign rfl), trivial⟩ ?_
  intro ρ1 w1 hN hf hr
  obtain ⟨b5_, h5, hge_b5_, Hb_b5_⟩ := hf 0 rfl
  obtain ⟨b7_, h7, hge_b7_, Hb_b7_⟩ := hf 1 rfl
  obtain ⟨h0, h2⟩ := k2 hr h0 h2 rfl
  have hW := hW.trans hN
  have hB_b5_ : w0.heap.size ≤ b5_ := Nat.le_trans hsz hge_b5_
  have hB_b7_ : w0.heap.size ≤ b7_ := Nat.le_trans hsz hge_b7_
  have hsz := hW.size
  refine WP.seq ?_
  refine WP.rb mixed [[], [0], [1], [2]] [[7], [], [], []] [(15, .pointer (some ((⟨b7_, 0, none⟩ : Addr).add 1))), (16, .int .i64 p_2.Unit), (17, .int .u64 (u64 p_2.Unit)), (10, .int .u64 (u64 p_2.Unit))] (by kernel_rfl) ⟨fun ρz wz hE hA ⟨e7, _⟩ _ => core_val rfl rfl (o_fieldAddr (e7.trans h7) (fa_72_1 _ _)),
 fun ρz wz hE hA _ ⟨u0, _⟩ => core_val rfl rfl (o_load u0 (run_load1 (lr_3 _ _) (CA.sub ((Hb_b7_.exn (hA rfl)).ca) 1 1))),
 fun ρz wz hE hA _ ⟨u1, _⟩ => core_val rfl rfl (o_conv u1 (cv_3_62 _ _)),
 fun ρz wz hE hA _ ⟨u2, _⟩ => core_val rfl rfl (o_assign u2), trivial⟩ ?_
  intro ρ2 w2 hN hf hr
  have h10 : ρ2 10 = .int .u64 (u64 p_2.Unit) := hf 3 rfl
  obtain ⟨h0, h2, h5, h7⟩ := k4 hr h0 h2 h5 h7 rfl
  have Hb_b5_n := Hb_b5_.exn hN
  have Hb_b7_n := Hb_b7_.exn hN
  have hW := hW.trans hN
  have Hb_b5_ := Hb_b5_n
  have Hb_b7_ := Hb_b7_n
  have hsz := hW.size
  refine WP.seq ?_
  obtain ⟨z, hz, hF⟩ := obind hF
  refine WP.region mixed [[], [], [], [1, 2], [0, 3], [4], [5], [5], [], [6, 8], [7, 9]] [[], [], [], [1, 2], [0, 3], [4], [5], [5], [], [6, 8], [7]] [[5], [2], [10], [], [], [], [], [], [], [], []] [9] [(8, 9)] [val 19 (pensionref1_wide.val i_), val 20 (.int .u64 p_), val 21 (.int .u64 (u64 p_2.Unit)), val 22 (.int .u64 (u64 (p_ * (u64 p_2.Unit)))), val 23 (.tuple #[pensionref1_wide.val z.1, .int .u64 z.2]), val 18 (.tuple #[pensionref1_wide.val z.1, .int .u64 z.2]), val 24 (pensionref1_wide.val z.1), val 25 (.int .u64 z.2), (11, fun u wz => ∃ b, u = .pointer (some ⟨b, 0, none⟩) ∧ w2.heap.size ≤ b ∧ Mb wz b 91 (pensionref1_wide.cells (⟨0, 0⟩ : pensionref1_wide))), (11, fun u wz => ∃ b, u = .pointer (some ⟨b, 0, none⟩) ∧ w2.heap.size ≤ b ∧ Mb wz b 91 (pensionref1_wide.cells z.1)), val 12 (.int .u64 z.2)] (fun b => w2.heap.size ≤ b) (by kernel_rfl) ⟨sV, sV, sV, sV, sV, sV, sV, sV, fun _ _ _ hE ⟨b, hb, hs, hM⟩ => ⟨b, hb, hs, hM.exn hE⟩, fun _ _ _ hE ⟨b, hb, hs, hM⟩ => ⟨b, hb, hs, hM.exn hE⟩, sV, trivial⟩ ⟨fun ρz wz hE hA ⟨e5, _⟩ _ => core_val rfl rfl (o_load (e5.trans h5) (run_loadN (cs := (pensionref1_wide.cells i_)) (lr_91 _ _) rfl ((Hb_b5_.exn hE.fresh).ca))),
 fun ρz wz hE hA ⟨e2, _⟩ _ => core_val rfl rfl (o_move (e2.trans h2)),
 fun ρz wz hE hA ⟨e10, _⟩ _ => core_val rfl rfl (o_move (e10.trans h10)),
 fun ρz wz hE hA _ ⟨u1, u2, _⟩ => core_val rfl rfl (o_mul u1 u2 rfl),
 fun ρz wz hE hA _ ⟨u0, u3, _⟩ => core_call rfl (call_args2 u0 u3) cf_82 (pensionref1_wide_over_ok  _ _  hz),
 fun ρz wz hE hA _ ⟨u4, _⟩ => core_val rfl rfl (o_move u4),
 fun ρz wz hE hA _ ⟨u5, _⟩ => core_val rfl rfl (o_extract u5 (by kernel_rfl)),
 fun ρz wz hE hA _ ⟨u5, _⟩ => core_val rfl rfl (o_extract u5 (by kernel_rfl)),
 fun ρz wz hE hA _ _ => core_new rfl rfl hE (o_alloc (al_91 _)),
 fun ρz wz hE hA _ ⟨u6, u8, _⟩ => core_storeNew rfl rfl rfl rfl u6 u8 (fun a w => st_91 _ a w) rfl (one_91 _),
 fun ρz wz hE hA _ ⟨u7, _⟩ => core_val rfl rfl (o_assign u7), trivial⟩ ?_
  intro ρ3 w3 hE hN hf hr
  have hN := hE.fresh
  obtain ⟨b11_, h11, hge_b11_, Hb_b11_⟩ := hf 9 rfl
  have h12 : ρ3 12 = .int .u64 z.2 := hf 10 rfl
  obtain ⟨h0, h2, h7, h10⟩ := k4 hr h0 h2 h7 h10 rfl
  have Hb_b7_n := Hb_b7_.exn hN
  have hW := hW.trans hN
  have Hb_b7_ := Hb_b7_n
  have hB_b11_ : w0.heap.size ≤ b11_ := Nat.le_trans hsz hge_b11_
  have hsz := hW.size
  refine WP.seq ?_
  refine WP.seq ?_
  refine WP.rb mixed [[], [0], [1], [2], [3], [3, 4], [3, 5], [3, 6]] [[11], [], [], [], [11], [], [], []] [(26, .pointer (some ((⟨b11_, 0, none⟩ : Addr).add 0))), (27, .int .u64 z.1.hi), (28, .bool (z.1.hi != 0)), (29, .bool (z.1.hi != 0)), (30, gv (!(z.1.hi != 0)) (.pointer (some ((⟨b11_, 0, none⟩ : Addr).add 1)))), (31, gv (!(z.1.hi != 0)) (.int .u64 z.1.lo)), (32, gv (!(z.1.hi != 0)) (.bool (decide (1000000000000 < z.1.lo)))), (33, .bool ((z.1.hi != 0) || decide (1000000000000 < z.1.lo)))] (by kernel_rfl) ⟨fun ρz wz hE hA ⟨e11, _⟩ _ => core_val rfl rfl (o_fieldAddr (e11.trans h11) (fa_91_0 _ _)),
 fun ρz wz hE hA _ ⟨u0, _⟩ => core_val rfl rfl (o_load u0 (run_load1 (lr_62 _ _) (CA.sub ((Hb_b11_.exn (hA rfl)).ca) 0 1))),
 fun ρz wz hE hA _ ⟨u1, _⟩ => core_val rfl rfl (o_neq u1 rfl rfl),
 fun ρz wz hE hA _ ⟨u2, _⟩ => core_val rfl rfl (o_move u2),
 fun ρz wz hE hA ⟨e11, _⟩ ⟨u3, _⟩ => gIf rfl rfl (yF rfl u3) fun gc F hF => core_val rfl hF (o_fieldAddr (e11.trans h11) (fa_91_1 _ _)),
 fun ρz wz hE hA _ ⟨u3, u4, _⟩ => gIf rfl rfl (yF rfl u3) fun gc F hF => core_val rfl hF (o_load (gt gc u4) (run_load1 (lr_62 _ _) (CA.sub ((Hb_b11_.exn (hA rfl)).ca) 1 1))),
 fun ρz wz hE hA _ ⟨u3, u5, _⟩ => gIf rfl rfl (yF rfl u3) fun gc F hF => core_val rfl hF (o_gtr (gt gc u5) rfl rfl),
 fun ρz wz hE hA _ ⟨u3, u6, _⟩ => core_val rfl rfl (o_pick_or u3 rfl u6), trivial⟩ ?_
  intro ρ4 w4 hN hf hr
  have h33 : ρ4 33 = .bool ((z.1.hi != 0) || decide (1000000000000 < z.1.lo)) := hf 7 rfl
  obtain ⟨h0, h2, h7, h10, h11, h12⟩ := k6 hr h0 h2 h7 h10 h11 h12 rfl
  have Hb_b7_n := Hb_b7_.exn hN
  have Hb_b11_n := Hb_b11_.exn hN
  have hW := hW.trans hN
  have Hb_b7_ := Hb_b7_n
  have Hb_b11_ := Hb_b11_n
  have hsz := hW.size
  refine WP.cond rfl h33 (fun hb => ?_) (fun hb => ?_)
  · have hF := (if_pos hb).symm.trans hF
    refine WP.seq ?_
    refine WP.rb mixed [[], []] [[], []] [(8, .int .i64 0), (9, .int .i64 2)] (by kernel_rfl) ⟨fun ρz wz hE hA _ _ => core_val rfl rfl (o_assign rfl),
 fun ρz wz hE hA _ _ => core_val rfl rfl (o_assign rfl), trivial⟩ ?_
    intro ρ5 w5 hN hf hr
    have h8 : ρ5 8 = .int .i64 0 := hf 0 rfl
    have h9 : ρ5 9 = .int .i64 2 := hf 1 rfl
    have hW := hW.trans hN
    have hsz := hW.size
    refine WP.ret ?_
    show retQ Tryd.prog 109 Tryd.f63 (fun v w1 => v = .tuple #[.int .i64 r.1, .int .i64 r.2] ∧ Ext noG w0 w1) .ret ρ5 w5
    obtain rfl := Option.some.inj hF
    exact res2 rfl (by decide) (by decide) h8 h9 ⟨rfl, hW⟩
  have hF := (if_neg (Bool.eq_false_iff.1 hb)).symm.trans hF
  refine WP.skip ?_
  refine WP.seq ?_
  refine WP.rb mixed [[], [0], [1]] [[11], [], []] [(34, .pointer (some ((⟨b11_, 0, none⟩ : Addr).add 1))), (35, .int .u64 z.1.lo), (13, .int .u64 z.1.lo)] (by kernel_rfl) ⟨fun ρz wz hE hA ⟨e11, _⟩ _ => core_val rfl rfl (o_fieldAddr (e11.trans h11) (fa_91_1 _ _)),
 fun ρz wz hE hA _ ⟨u0, _⟩ => core_val rfl rfl (o_load u0 (run_load1 (lr_62 _ _) (CA.sub ((Hb_b11_.exn (hA rfl)).ca) 1 1))),
 fun ρz wz hE hA _ ⟨u1, _⟩ => core_val rfl rfl (o_assign u1), trivial⟩ ?_
  intro ρ6 w6 hN hf hr
  have h13 : ρ6 13 = .int .u64 z.1.lo := hf 2 rfl
  obtain ⟨h0, h2, h7, h10, h12⟩ := k5 hr h0 h2 h7 h10 h12 rfl
  have Hb_b7_n := Hb_b7_.exn hN
  have hW := hW.trans hN
  have Hb_b7_ := Hb_b7_n
  have hsz := hW.size
  refine WP.seq ?_
  refine WP.rb mixed [[], [], [0, 1], [], [2, 3], [4]] [[2], [10], [], [12], [], []] [(36, .int .u64 p_), (37, .int .u64 (u64 p_2.Unit)), (38, .int .u64 (u64 (p_ * (u64 p_2.Unit)))), (39, .int .u64 z.2), (40, .int .u64 (u64 (u64 (p_ * (u64 p_2.Unit)) - z.2))), (14, .int .u64 (u64 (u64 (p_ * (u64 p_2.Unit)) - z.2)))] (by kernel_rfl) ⟨fun ρz wz hE hA ⟨e2, _⟩ _ => core_val rfl rfl (o_move (e2.trans h2)),
 fun ρz wz hE hA ⟨e10, _⟩ _ => core_val rfl rfl (o_move (e10.trans h10)),
 fun ρz wz hE hA _ ⟨u0, u1, _⟩ => core_val rfl rfl (o_mul u0 u1 rfl),
 fun ρz wz hE hA ⟨e12, _⟩ _ => core_val rfl rfl (o_move (e12.trans h12)),
 fun ρz wz hE hA _ ⟨u2, u3, _⟩ => core_val rfl rfl (o_sub u2 u3 rfl),
 fun ρz wz hE hA _ ⟨u4, _⟩ => core_val rfl rfl (o_assign u4), trivial⟩ ?_
  intro ρ7 w7 hN hf hr
  have h14 : ρ7 14 = .int .u64 (u64 (u64 (p_ * (u64 p_2.Unit)) - z.2)) := hf 5 rfl
  obtain ⟨h0, h7, h10, h12, h13⟩ := k5 hr h0 h7 h10 h12 h13 rfl
  have Hb_b7_n := Hb_b7_.exn hN
  have hW := hW.trans hN
  have Hb_b7_ := Hb_b7_n
  have hsz := hW.size
  refine WP.seqJ (fun ρ w => ∃ x : Int, ρ 0 = .bool d_ ∧ ρ 10 = .int .u64 (u64 p_2.Unit) ∧ ρ 13 = .int .u64 x ∧ Ext noG w0 w ∧ w0.heap.size ≤ w.heap.size ∧ pensionref1_rounded_j d_ p_2 x = some r) ?_ ?_
  · refine WP.seq ?_
    refine WP.rb mixed [[], [0]] [[7], []] [(41, .pointer (some ((⟨b7_, 0, none⟩ : Addr).add 0))), (42, .int .i64 p_2.Mode)] (by kernel_rfl) ⟨fun ρz wz hE hA ⟨e7, _⟩ _ => core_val rfl rfl (o_fieldAddr (e7.trans h7) (fa_72_0 _ _)),
 fun ρz wz hE hA _ ⟨u0, _⟩ => core_val rfl rfl (o_load u0 (run_load1 (lr_3 _ _) (CA.sub ((Hb_b7_.exn (hA rfl)).ca) 0 1))), trivial⟩ ?_
    intro ρ14 w14 hN hf hr
    have h42 : ρ14 42 = .int .i64 p_2.Mode := hf 1 rfl
    obtain ⟨h0, h10, h12, h13, h14⟩ := k5 hr h0 h10 h12 h13 h14 rfl
    have hW := hW.trans hN
    have hsz := hW.size
    refine WP.block ?_
    refine WP.seq ?_
    refine WP.rb mixed [[], [0]] [[42], []] [(44, .bool (p_2.Mode == 1)), (43, .bool (p_2.Mode == 1))] (by kernel_rfl) ⟨fun ρz wz hE hA ⟨e42, _⟩ _ => core_val rfl rfl (o_eql (e42.trans h42) rfl rfl),
 fun ρz wz hE hA _ ⟨u0, _⟩ => core_val rfl rfl (o_assign u0), trivial⟩ ?_
    intro ρ15 w15 hN hf hr
    have h43 : ρ15 43 = .bool (p_2.Mode == 1) := hf 1 rfl
    obtain ⟨h0, h10, h12, h13, h14, h42⟩ := k6 hr h0 h10 h12 h13 h14 h42 rfl
    have hW := hW.trans hN
    have hsz := hW.size
    refine WP.cond rfl h43 (fun hb => ?_) (fun hb => ?_)
    · have hF := (if_pos hb).symm.trans hF
      refine WP.seq ?_
      refine WP.rb mixed [[], [0], [1], [1, 2], [1, 3]] [[0], [], [12], [], []] [(45, .bool d_), (46, .bool d_), (47, gv (d_) (.int .u64 z.2)), (48, gv (d_) (.bool (decide (0 < z.2)))), (49, .bool (d_ && decide (0 < z.2)))] (by kernel_rfl) ⟨fun ρz wz hE hA ⟨e0, _⟩ _ => core_val rfl rfl (o_move (e0.trans h0)),
 fun ρz wz hE hA _ ⟨u0, _⟩ => core_val rfl rfl (o_move u0),
 fun ρz wz hE hA ⟨e12, _⟩ ⟨u1, _⟩ => gIf rfl rfl (yT rfl u1) fun gc F hF => core_val rfl hF (o_move (e12.trans h12)),
 fun ρz wz hE hA _ ⟨u1, u2, _⟩ => gIf rfl rfl (yT rfl u1) fun gc F hF => core_val rfl hF (o_gtr (gt gc u2) rfl rfl),
 fun ρz wz hE hA _ ⟨u1, u3, _⟩ => core_val rfl rfl (o_pick_and u1 u3 rfl), trivial⟩ ?_
      intro ρ16 w16 hN hf hr
      have h49 : ρ16 49 = .bool (d_ && decide (0 < z.2)) := hf 4 rfl
      obtain ⟨h0, h10, h13⟩ := k3 hr h0 h10 h13 rfl
      have hW := hW.trans hN
      have hsz := hW.size
      refine WP.cond rfl h49 (fun hb => ?_) (fun hb => ?_)
      · have hF := (if_pos hb).symm.trans hF
        refine WP.rv mixed [[], [0], [0, 1]] [[], [0], [1]] [[13], [], []] [(50, .int .u64 z.1.lo), (51, .int .u64 (u64 (z.1.lo + 1))), (13, .int .u64 (u64 (z.1.lo + 1)))] (by kernel_rfl) ⟨fun ρz wz hE hA ⟨e13, _⟩ _ => core_val rfl rfl (o_move (e13.trans h13)),
 fun ρz wz hE hA _ ⟨u0, _⟩ => core_val rfl rfl (o_add u0 rfl rfl),
 fun ρz wz hE hA _ ⟨u1, _⟩ => core_val rfl rfl (o_assign u1), trivial⟩ ?_
        intro ρ17 w17 hN hf hr
        have h13 : ρ17 13 = .int .u64 (u64 (z.1.lo + 1)) := hf 2 rfl
        obtain ⟨h0, h10⟩ := k2 hr h0 h10 rfl
        have hW := hW.trans hN
        have hsz := hW.size
        exact ⟨u64 (z.1.lo + 1), h0, h10, h13, hW, hsz, hF⟩
      have hF := (if_neg (Bool.eq_false_iff.1 hb)).symm.trans hF
      refine WP.skip ?_
      exact ⟨z.1.lo, h0, h10, h13, hW, hsz, hF⟩
    have hF := (if_neg (Bool.eq_false_iff.1 hb)).symm.trans hF
    refine WP.seq ?_
    refine WP.rb mixed [[], [0]] [[42], []] [(53, .bool (p_2.Mode == 2)), (52, .bool (p_2.Mode == 2))] (by kernel_rfl) ⟨fun ρz wz hE hA ⟨e42, _⟩ _ => core_val rfl rfl (o_eql (e42.trans h42) rfl rfl),
 fun ρz wz hE hA _ ⟨u0, _⟩ => core_val rfl rfl (o_assign u0), trivial⟩ ?_
    intro ρ18 w18 hN hf hr
    have h52 : ρ18 52 = .bool (p_2.Mode == 2) := hf 1 rfl
    obtain ⟨h0, h10, h12, h13, h14, h42⟩ := k6 hr h0 h10 h12 h13 h14 h42 rfl
    have hW := hW.trans hN
    have hsz := hW.size
    refine WP.cond rfl h52 (fun hb => ?_) (fun hb => ?_)
    · have hF := (if_pos hb).symm.trans hF
      refine WP.seq ?_
      refine WP.rb mixed [[], [0], [1], [2], [2, 3], [2, 4]] [[0], [], [], [12], [], []] [(54, .bool d_), (55, .bool (!d_)), (56, .bool (!d_)), (57, gv ((!d_)) (.int .u64 z.2)), (58, gv ((!d_)) (.bool (decide (0 < z.2)))), (59, .bool ((!d_) && decide (0 < z.2)))] (by kernel_rfl) ⟨fun ρz wz hE hA ⟨e0, _⟩ _ => core_val rfl rfl (o_move (e0.trans h0)),
 fun ρz wz hE hA _ ⟨u0, _⟩ => core_val rfl rfl (o_not u0 rfl),
 fun ρz wz hE hA _ ⟨u1, _⟩ => core_val rfl rfl (o_move u1),
 fun ρz wz hE hA ⟨e12, _⟩ ⟨u2, _⟩ => gIf rfl rfl (yT rfl u2) fun gc F hF => core_val rfl hF (o_move (e12.trans h12)),
 fun ρz wz hE hA _ ⟨u2, u3, _⟩ => gIf rfl rfl (yT rfl u2) fun gc F hF => core_val rfl hF (o_gtr (gt gc u3) rfl rfl),
 fun ρz wz hE hA _ ⟨u2, u4, _⟩ => core_val rfl rfl (o_pick_and u2 u4 rfl), trivial⟩ ?_
      intro ρ19 w19 hN hf hr
      have h59 : ρ19 59 = .bool ((!d_) && decide (0 < z.2)) := hf 5 rfl
      obtain ⟨h0, h10, h13⟩ := k3 hr h0 h10 h13 rfl
      have hW := hW.trans hN
      have hsz := hW.size
      refine WP.cond rfl h59 (fun hb => ?_) (fun hb => ?_)
      · have hF := (if_pos hb).symm.trans hF
        refine WP.rv mixed [[], [0], [0, 1]] [[], [0], [1]] [[13], [], []] [(60, .int .u64 z.1.lo), (61, .int .u64 (u64 (z.1.lo + 1))), (13, .int .u64 (u64 (z.1.lo + 1)))] (by kernel_rfl) ⟨fun ρz wz hE hA ⟨e13, _⟩ _ => core_val rfl rfl (o_move (e13.trans h13)),
 fun ρz wz hE hA _ ⟨u0, _⟩ => core_val rfl rfl (o_add u0 rfl rfl),
 fun ρz wz hE hA _ ⟨u1, _⟩ => core_val rfl rfl (o_assign u1), trivial⟩ ?_
        intro ρ20 w20 hN hf hr
        have h13 : ρ20 13 = .int .u64 (u64 (z.1.lo + 1)) := hf 2 rfl
        obtain ⟨h0, h10⟩ := k2 hr h0 h10 rfl
        have hW := hW.trans hN
        have hsz := hW.size
        exact ⟨u64 (z.1.lo + 1), h0, h10, h13, hW, hsz, hF⟩
      have hF := (if_neg (Bool.eq_false_iff.1 hb)).symm.trans hF
      refine WP.skip ?_
      exact ⟨z.1.lo, h0, h10, h13, hW, hsz, hF⟩
    have hF := (if_neg (Bool.eq_false_iff.1 hb)).symm.trans hF
    refine WP.seq ?_
    refine WP.rb mixed [[], [0]] [[42], []] [(63, .bool (p_2.Mode == 3)), (62, .bool (p_2.Mode == 3))] (by kernel_rfl) ⟨fun ρz wz hE hA ⟨e42, _⟩ _ => core_val rfl rfl (o_eql (e42.trans h42) rfl rfl),
 fun ρz wz hE hA _ ⟨u0, _⟩ => core_val rfl rfl (o_assign u0), trivial⟩ ?_
    intro ρ21 w21 hN hf hr
    have h62 : ρ21 62 = .bool (p_2.Mode == 3) := hf 1 rfl
    obtain ⟨h0, h10, h12, h13, h14, h42⟩ := k6 hr h0 h10 h12 h13 h14 h42 rfl
    have hW := hW.trans hN
    have hsz := hW.size
    refine WP.cond rfl h62 (fun hb => ?_) (fun hb => ?_)
    · have hF := (if_pos hb).symm.trans hF
      refine WP.seq ?_
      refine WP.rb mixed [[], [], [0, 1], [2], [3], [3], [3, 4, 5], [3, 6], [7], [7, 8], [3, 7, 9], [3, 10]] [[12], [14], [], [], [12], [14], [], [], [0], [], [], []] [(64, .int .u64 z.2), (65, .int .u64 (u64 (u64 (p_ * (u64 p_2.Unit)) - z.2))), (66, .bool (decide (u64 (u64 (p_ * (u64 p_2.Unit)) - z.2) < z.2))), (67, .bool (decide (u64 (u64 (p_ * (u64 p_2.Unit)) - z.2) < z.2))), (68, gv (!(decide (u64 (u64 (p_ * (u64 p_2.Unit)) - z.2) < z.2))) (.int .u64 z.2)), (69, gv (!(decide (u64 (u64 (p_ * (u64 p_2.Unit)) - z.2) < z.2))) (.int .u64 (u64 (u64 (p_ * (u64 p_2.Unit)) - z.2)))), (70, gv (!(decide (u64 (u64 (p_ * (u64 p_2.Unit)) - z.2) < z.2))) (.bool (z.2 == u64 (u64 (p_ * (u64 p_2.Unit)) - z.2)))), (71, gv (!(decide (u64 (u64 (p_ * (u64 p_2.Unit)) - z.2) < z.2))) (.bool (z.2 == u64 (u64 (p_ * (u64 p_2.Unit)) - z.2)))), (72, gv ((!(decide (u64 (u64 (p_ * (u64 p_2.Unit)) - z.2) < z.2))) && (z.2 == u64 (u64 (p_ * (u64 p_2.Unit)) - z.2))) (.bool d_)), (73, gv ((!(decide (u64 (u64 (p_ * (u64 p_2.Unit)) - z.2) < z.2))) && (z.2 == u64 (u64 (p_ * (u64 p_2.Unit)) - z.2))) (.bool (!d_))), (74, gv (!(decide (u64 (u64 (p_ * (u64 p_2.Unit)) - z.2) < z.2))) (.bool ((z.2 == u64 (u64 (p_ * (u64 p_2.Unit)) - z.2)) && (!d_)))), (75, .bool (decide (u64 (u64 (p_ * (u64 p_2.Unit)) - z.2) < z.2) || ((z.2 == u64 (u64 (p_ * (u64 p_2.Unit)) - z.2)) && (!d_))))] (by kernel_rfl) ⟨fun ρz wz hE hA ⟨e12, _⟩ _ => core_val rfl rfl (o_move (e12.trans h12)),
 fun ρz wz hE hA ⟨e14, _⟩ _ => core_val rfl rfl (o_move (e14.trans h14)),
 fun ρz wz hE hA _ ⟨u0, u1, _⟩ => core_val rfl rfl (o_gtr u0 u1 rfl),
 fun ρz wz hE hA _ ⟨u2, _⟩ => core_val rfl rfl (o_move u2),
 fun ρz wz hE hA ⟨e12, _⟩ ⟨u3, _⟩ => gIf rfl rfl (yF rfl u3) fun gc F hF => core_val rfl hF (o_move (e12.trans h12)),
 fun ρz wz hE hA ⟨e14, _⟩ ⟨u3, _⟩ => gIf rfl rfl (yF rfl u3) fun gc F hF => core_val rfl hF (o_move (e14.trans h14)),
 fun ρz wz hE hA _ ⟨u3, u4, u5, _⟩ => gIf rfl rfl (yF rfl u3) fun gc F hF => core_val rfl hF (o_eql (gt gc u4) (gt gc u5) rfl),
 fun ρz wz hE hA _ ⟨u3, u6, _⟩ => gIf rfl rfl (yF rfl u3) fun gc F hF => core_val rfl hF (o_move (gt gc u6)),
 fun ρz wz hE hA ⟨e0, _⟩ ⟨u7, _⟩ => gIf rfl rfl (yTG rfl u7) fun gc F hF => core_val rfl hF (o_move (e0.trans h0)),
 fun ρz wz hE hA _ ⟨u7, u8, _⟩ => gIf rfl rfl (yTG rfl u7) fun gc F hF => core_val rfl hF (o_not (gt gc u8) rfl),
 fun ρz wz hE hA _ ⟨u3, u7, u9, _⟩ => gIf rfl rfl (yF rfl u3) fun gc F hF => core_val rfl hF (o_pick_and (gt gc u7) (gr gc u9) rfl),
 fun ρz wz hE hA _ ⟨u3, u10, _⟩ => core_val rfl rfl (o_pick_or u3 rfl u10), trivial⟩ ?_
      intro ρ22 w22 hN hf hr
      have h75 : ρ22 75 = .bool (decide (u64 (u64 (p_ * (u64 p_2.Unit)) - z.2) < z.2) || ((z.2 == u64 (u64 (p_ * (u64 p_2.Unit)) - z.2)) && (!d_))) := hf 11 rfl
      obtain ⟨h0, h10, h13⟩ := k3 hr h0 h10 h13 rfl
      have hW := hW.trans hN
      have hsz := hW.size
      refine WP.cond rfl h75 (fun hb => ?_) (fun hb => ?_)
      · have hF := (if_pos hb).symm.trans hF
        refine WP.rv mixed [[], [0], [0, 1]] [[], [0], [1]] [[13], [], []] [(76, .int .u64 z.1.lo), (77, .int .u64 (u64 (z.1.lo + 1))), (13, .int .u64 (u64 (z.1.lo + 1)))] (by kernel_rfl) ⟨fun ρz wz hE hA ⟨e13, _⟩ _ => core_val rfl rfl (o_move (e13.trans h13)),
 fun ρz wz hE hA _ ⟨u0, _⟩ => core_val rfl rfl (o_add u0 rfl rfl),
 fun ρz wz hE hA _ ⟨u1, _⟩ => core_val rfl rfl (o_assign u1), trivial⟩ ?_
        intro ρ23 w23 hN hf hr
        have h13 : ρ23 13 = .int .u64 (u64 (z.1.lo + 1)) := hf 2 rfl
        obtain ⟨h0, h10⟩ := k2 hr h0 h10 rfl
        have hW := hW.trans hN
        have hsz := hW.size
        exact ⟨u64 (z.1.lo + 1), h0, h10, h13, hW, hsz, hF⟩
      have hF := (if_neg (Bool.eq_false_iff.1 hb)).symm.trans hF
      refine WP.skip ?_
      exact ⟨z.1.lo, h0, h10, h13, hW, hsz, hF⟩
    have hF := (if_neg (Bool.eq_false_iff.1 hb)).symm.trans hF
    refine WP.seq ?_
    refine WP.rb mixed [[], [0]] [[42], []] [(79, .bool (p_2.Mode == 4)), (78, .bool (p_2.Mode == 4))] (by kernel_rfl) ⟨fun ρz wz hE hA ⟨e42, _⟩ _ => core_val rfl rfl (o_eql (e42.trans h42) rfl rfl),
 fun ρz wz hE hA _ ⟨u0, _⟩ => core_val rfl rfl (o_assign u0), trivial⟩ ?_
    intro ρ24 w24 hN hf hr
    have h78 : ρ24 78 = .bool (p_2.Mode == 4) := hf 1 rfl
    obtain ⟨h0, h10, h12, h13, h14⟩ := k5 hr h0 h10 h12 h13 h14 rfl
    have hW := hW.trans hN
    have hsz := hW.size
    refine WP.cond rfl h78 (fun hb => ?_) (fun hb => ?_)
    · have hF := (if_pos hb).symm.trans hF
      refine WP.seq ?_
      refine WP.rb mixed [[], [], [0, 1], [2], [3], [3], [3, 4, 5], [3, 6], [7], [7, 8], [7, 9], [3, 7, 10], [3, 11]] [[12], [14], [], [], [12], [14], [], [], [13], [], [], [], []] [(80, .int .u64 z.2), (81, .int .u64 (u64 (u64 (p_ * (u64 p_2.Unit)) - z.2))), (82, .bool (decide (u64 (u64 (p_ * (u64 p_2.Unit)) - z.2) < z.2))), (83, .bool (decide (u64 (u64 (p_ * (u64 p_2.Unit)) - z.2) < z.2))), (84, gv (!(decide (u64 (u64 (p_ * (u64 p_2.Unit)) - z.2) < z.2))) (.int .u64 z.2)), (85, gv (!(decide (u64 (u64 (p_ * (u64 p_2.Unit)) - z.2) < z.2))) (.int .u64 (u64 (u64 (p_ * (u64 p_2.Unit)) - z.2)))), (86, gv (!(decide (u64 (u64 (p_ * (u64 p_2.Unit)) - z.2) < z.2))) (.bool (z.2 == u64 (u64 (p_ * (u64 p_2.Unit)) - z.2)))), (87, gv (!(decide (u64 (u64 (p_ * (u64 p_2.Unit)) - z.2) < z.2))) (.bool (z.2 == u64 (u64 (p_ * (u64 p_2.Unit)) - z.2)))), (88, gv ((!(decide (u64 (u64 (p_ * (u64 p_2.Unit)) - z.2) < z.2))) && (z.2 == u64 (u64 (p_ * (u64 p_2.Unit)) - z.2))) (.int .u64 z.1.lo)), (89, gv ((!(decide (u64 (u64 (p_ * (u64 p_2.Unit)) - z.2) < z.2))) && (z.2 == u64 (u64 (p_ * (u64 p_2.Unit)) - z.2))) (.int .u64 (Int.tmod z.1.lo 2))), (90, gv ((!(decide (u64 (u64 (p_ * (u64 p_2.Unit)) - z.2) < z.2))) && (z.2 == u64 (u64 (p_ * (u64 p_2.Unit)) - z.2))) (.bool (Int.tmod z.1.lo 2 == 1))), (91, gv (!(decide (u64 (u64 (p_ * (u64 p_2.Unit)) - z.2) < z.2))) (.bool ((z.2 == u64 (u64 (p_ * (u64 p_2.Unit)) - z.2)) && (Int.tmod z.1.lo 2 == 1)))), (92, .bool (decide (u64 (u64 (p_ * (u64 p_2.Unit)) - z.2) < z.2) || ((z.2 == u64 (u64 (p_ * (u64 p_2.Unit)) - z.2)) && (Int.tmod z.1.lo 2 == 1))))] (by kernel_rfl) ⟨fun ρz wz hE hA ⟨e12, _⟩ _ => core_val rfl rfl (o_move (e12.trans h12)),
 fun ρz wz hE hA ⟨e14, _⟩ _ => core_val rfl rfl (o_move (e14.trans h14)),
 fun ρz wz hE hA _ ⟨u0, u1, _⟩ => core_val rfl rfl (o_gtr u0 u1 rfl),
 fun ρz wz hE hA _ ⟨u2, _⟩ => core_val rfl rfl (o_move u2),
 fun ρz wz hE hA ⟨e12, _⟩ ⟨u3, _⟩ => gIf rfl rfl (yF rfl u3) fun gc F hF => core_val rfl hF (o_move (e12.trans h12)),
 fun ρz wz hE hA ⟨e14, _⟩ ⟨u3, _⟩ => gIf rfl rfl (yF rfl u3) fun gc F hF => core_val rfl hF (o_move (e14.trans h14)),
 fun ρz wz hE hA _ ⟨u3, u4, u5, _⟩ => gIf rfl rfl (yF rfl u3) fun gc F hF => core_val rfl hF (o_eql (gt gc u4) (gt gc u5) rfl),
 fun ρz wz hE hA _ ⟨u3, u6, _⟩ => gIf rfl rfl (yF rfl u3) fun gc F hF => core_val rfl hF (o_move (gt gc u6)),
 fun ρz wz hE hA ⟨e13, _⟩ ⟨u7, _⟩ => gIf rfl rfl (yTG rfl u7) fun gc F hF => core_val rfl hF (o_move (e13.trans h13)),
 fun ρz wz hE hA _ ⟨u7, u8, _⟩ => gIf rfl rfl (yTG rfl u7) fun gc F hF => core_val rfl hF (o_rem (gt gc u8) rfl (by decide) rfl),
 fun ρz wz hE hA _ ⟨u7, u9, _⟩ => gIf rfl rfl (yTG rfl u7) fun gc F hF => core_val rfl hF (o_eql (gt gc u9) rfl rfl),
 fun ρz wz hE hA _ ⟨u3, u7, u10, _⟩ => gIf rfl rfl (yF rfl u3) fun gc F hF => core_val rfl hF (o_pick_and (gt gc u7) (gr gc u10) rfl),
 fun ρz wz hE hA _ ⟨u3, u11, _⟩ => core_val rfl rfl (o_pick_or u3 rfl u11), trivial⟩ ?_
      intro ρ25 w25 hN hf hr
      have h92 : ρ25 92 = .bool (decide (u64 (u64 (p_ * (u64 p_2.Unit)) - z.2) < z.2) || ((z.2 == u64 (u64 (p_ * (u64 p_2.Unit)) - z.2)) && (Int.tmod z.1.lo 2 == 1))) := hf 12 rfl
      obtain ⟨h0, h10, h13⟩ := k3 hr h0 h10 h13 rfl
      have hW := hW.trans hN
      have hsz := hW.size
      refine WP.cond rfl h92 (fun hb => ?_) (fun hb => ?_)
      · have hF := (if_pos hb).symm.trans hF
        refine WP.rv mixed [[], [0], [0, 1]] [[], [0], [1]] [[13], [], []] [(93, .int .u64 z.1.lo), (94, .int .u64 (u64 (z.1.lo + 1))), (13, .int .u64 (u64 (z.1.lo + 1)))] (by kernel_rfl) ⟨fun ρz wz hE hA ⟨e13, _⟩ _ => core_val rfl rfl (o_move (e13.trans h13)),
 fun ρz wz hE hA _ ⟨u0, _⟩ => core_val rfl rfl (o_add u0 rfl rfl),
 fun ρz wz hE hA _ ⟨u1, _⟩ => core_val rfl rfl (o_assign u1), trivial⟩ ?_
        intro ρ26 w26 hN hf hr
        have h13 : ρ26 13 = .int .u64 (u64 (z.1.lo + 1)) := hf 2 rfl
        obtain ⟨h0, h10⟩ := k2 hr h0 h10 rfl
        have hW := hW.trans hN
        have hsz := hW.size
        exact ⟨u64 (z.1.lo + 1), h0, h10, h13, hW, hsz, hF⟩
      have hF := (if_neg (Bool.eq_false_iff.1 hb)).symm.trans hF
      refine WP.skip ?_
      exact ⟨z.1.lo, h0, h10, h13, hW, hsz, hF⟩
    have hF := (if_neg (Bool.eq_false_iff.1 hb)).symm.trans hF
    refine WP.skip ?_
    exact ⟨z.1.lo, h0, h10, h13, hW, hsz, hF⟩
  rintro ρ8 w8 ⟨x, h0, h10, h13, hW, hsz, hF⟩
  rw [pensionref1_rounded_j] at hF
  refine WP.seq ?_
  refine WP.seq ?_
  obtain ⟨q, hq, hF⟩ := obind hF
  refine WP.rb mixed [[], [], [1], [0, 2]] [[13], [10], [], []] [(95, .int .u64 x), (96, .int .u64 (u64 p_2.Unit)), (97, .int .u64 q), (98, .bool (decide (q < x)))] (by kernel_rfl) ⟨fun ρz wz hE hA ⟨e13, _⟩ _ => core_val rfl rfl (o_move (e13.trans h13)),
 fun ρz wz hE hA ⟨e10, _⟩ _ => core_val rfl rfl (o_move (e10.trans h10)),
 fun ρz wz hE hA _ ⟨u1, _⟩ => core_val rfl rfl (o_quo rfl u1 (quoU_some hq).1 (quoU_some hq).2),
 fun ρz wz hE hA _ ⟨u0, u2, _⟩ => core_val rfl rfl (o_gtr u0 u2 rfl), trivial⟩ ?_
  intro ρ9 w9 hN hf hr
  have h98 : ρ9 98 = .bool (decide (q < x)) := hf 3 rfl
  obtain ⟨h0, h10, h13⟩ := k3 hr h0 h10 h13 rfl
  have hW := hW.trans hN
  have hsz := hW.size
  refine WP.cond rfl h98 (fun hb => ?_) (fun hb => ?_)
  · have hF := (if_pos hb).symm.trans hF
    refine WP.seq ?_
    refine WP.rb mixed [[], []] [[], []] [(8, .int .i64 0), (9, .int .i64 2)] (by kernel_rfl) ⟨fun ρz wz hE hA _ _ => core_val rfl rfl (o_assign rfl),
 fun ρz wz hE hA _ _ => core_val rfl rfl (o_assign rfl), trivial⟩ ?_
    intro ρ10 w10 hN hf hr
    have h8 : ρ10 8 = .int .i64 0 := hf 0 rfl
    have h9 : ρ10 9 = .int .i64 2 := hf 1 rfl
    have hW := hW.trans hN
    have hsz := hW.size
    refine WP.ret ?_
    show retQ Tryd.prog 109 Tryd.f63 (fun v w1 => v = .tuple #[.int .i64 r.1, .int .i64 r.2] ∧ Ext noG w0 w1) .ret ρ10 w10
    obtain rfl := Option.some.inj hF
    exact res2 rfl (by decide) (by decide) h8 h9 ⟨rfl, hW⟩
  have hF := (if_neg (Bool.eq_false_iff.1 hb)).symm.trans hF
  refine WP.skip ?_
  refine WP.seq ?_
  refine WP.seq ?_
  refine WP.rb mixed [[]] [[0]] [(99, .bool d_)] (by kernel_rfl) ⟨fun ρz wz hE hA ⟨e0, _⟩ _ => core_val rfl rfl (o_move (e0.trans h0)), trivial⟩ ?_
  intro ρ11 w11 hN hf hr
  have h99 : ρ11 99 = .bool d_ := hf 0 rfl
  obtain ⟨h10, h13⟩ := k2 hr h10 h13 rfl
  have hW := hW.trans hN
  have hsz := hW.size
  refine WP.cond rfl h99 (fun hb => ?_) (fun hb => ?_)
  · have hF := (if_pos hb).symm.trans hF
    refine WP.seq ?_
    refine WP.rb mixed [[], [], [0, 1], [2], [3], [4], []] [[13], [10], [], [], [], [], []] [(100, .int .u64 x), (101, .int .u64 (u64 p_2.Unit)), (102, .int .u64 (u64 (x * (u64 p_2.Unit)))), (103, .int .i64 (i64 (u64 (x * (u64 p_2.Unit))))), (104, .int .i64 (i64 (-(i64 (u64 (x * (u64 p_2.Unit))))))), (8, .int .i64 (i64 (-(i64 (u64 (x * (u64 p_2.Unit))))))), (9, .int .i64 0)] (by kernel_rfl) ⟨fun ρz wz hE hA ⟨e13, _⟩ _ => core_val rfl rfl (o_move (e13.trans h13)),
 fun ρz wz hE hA ⟨e10, _⟩ _ => core_val rfl rfl (o_move (e10.trans h10)),
 fun ρz wz hE hA _ ⟨u0, u1, _⟩ => core_val rfl rfl (o_mul u0 u1 rfl),
 fun ρz wz hE hA _ ⟨u2, _⟩ => core_val rfl rfl (o_conv u2 (cv_62_3 _ _)),
 fun ρz wz hE hA _ ⟨u3, _⟩ => core_val rfl rfl (o_neg u3 rfl),
 fun ρz wz hE hA _ ⟨u4, _⟩ => core_val rfl rfl (o_assign u4),
 fun ρz wz hE hA _ _ => core_val rfl rfl (o_assign rfl), trivial⟩ ?_
    intro ρ12 w12 hN hf hr
    have h8 : ρ12 8 = .int .i64 (i64 (-(i64 (u64 (x * (u64 p_2.Unit)))))) := hf 5 rfl
    have h9 : ρ12 9 = .int .i64 0 := hf 6 rfl
    have hW := hW.trans hN
    have hsz := hW.size
    refine WP.ret ?_
    show retQ Tryd.prog 109 Tryd.f63 (fun v w1 => v = .tuple #[.int .i64 r.1, .int .i64 r.2] ∧ Ext noG w0 w1) .ret ρ12 w12
    obtain rfl := Option.some.inj hF
    exact res2 rfl (by decide) (by decide) h8 h9 ⟨rfl, hW⟩
  have hF := (if_neg (Bool.eq_false_iff.1 hb)).symm.trans hF
  refine WP.skip ?_
  refine WP.seq ?_
  refine WP.rb mixed [[], [], [0, 1], [2], [3], []] [[13], [10], [], [], [], []] [(105, .int .u64 x), (106, .int .u64 (u64 p_2.Unit)), (107, .int .u64 (u64 (x * (u64 p_2.Unit)))), (108, .int .i64 (i64 (u64 (x * (u64 p_2.Unit))))), (8, .int .i64 (i64 (u64 (x * (u64 p_2.Unit))))), (9, .int .i64 0)] (by kernel_rfl) ⟨fun ρz wz hE hA ⟨e13, _⟩ _ => core_val rfl rfl (o_move (e13.trans h13)),
 fun ρz wz hE hA ⟨e10, _⟩ _ => core_val rfl rfl (o_move (e10.trans h10)),
 fun ρz wz hE hA _ ⟨u0, u1, _⟩ => core_val rfl rfl (o_mul u0 u1 rfl),
 fun ρz wz hE hA _ ⟨u2, _⟩ => core_val rfl rfl (o_conv u2 (cv_62_3 _ _)),
 fun ρz wz hE hA _ ⟨u3, _⟩ => core_val rfl rfl (o_assign u3),
 fun ρz wz hE hA _ _ => core_val rfl rfl (o_assign rfl), trivial⟩ ?_
  intro ρ13 w13 hN hf hr
  have h8 : ρ13 8 = .int .i64 (i64 (u64 (x * (u64 p_2.Unit)))) := hf 4 rfl
  have h9 : ρ13 9 = .int .i64 0 := hf 5 rfl
  have hW := hW.trans hN
  have hsz := hW.size
  refine WP.ret ?_
  show retQ Tryd.prog 109 Tryd.f63 (fun v w1 => v = .tuple #[.int .i64 r.1, .int .i64 r.2] ∧ Ext noG w0 w1) .ret ρ13 w13
  obtain rfl := Option.some.inj hF
  exact res2 rfl (by decide) (by decide) h8 h9 ⟨rfl, hW⟩

set_option maxHeartbeats 4000000 in
theorem money_divide_ok {w0 : World} (d_ : Bool) (i_ : Int) (p_ : Int) (p_2 : Int) (p_3 : Rounding) {r : Int × Int} (hF : money_divide d_ i_ p_ p_2 p_3 = some r) :
    Calls Tryd.prog 58 #[.bool d_, .int .u64 i_, .int .u64 p_, .int .u64 p_2, Rounding.val p_3] w0 fun e w1 => e = .returned (.tuple #[.int .i64 r.1, .int .i64 r.2]) ∧ Ext noG w0 w1 := by
  refine (Calls.start (P := Tryd.prog) (args := [.bool d_, .int .u64 i_, .int .u64 p_, .int .u64 p_2, Rounding.val p_3]) (R := fun v w1 => v = .tuple #[.int .i64 r.1, .int .i64 r.2] ∧ Ext noG w0 w1) (n := 97) (w := w0) Tryd.func58 rfl rfl (Nat.le_of_ble_eq_true rfl) (fun ρ hargs => ?_)).mono (fun e w1 ⟨v, he, hv, hE⟩ => ⟨hv ▸ he, hE⟩)
  have h0 := hargs 0 _ rfl
  have h1 := hargs 1 _ rfl
  have h2 := hargs 2 _ rfl
  have h3 := hargs 3 _ rfl
  have h4 := hargs 4 _ rfl
  have hW := Ext.refl noG w0
  have hsz := Nat.le_refl w0.heap.size
  rw [money_divide] at hF
  refine WP.seq ?_
  refine WP.rg mixed [[], [], []] [[], [], []] [[4], [], []] [(9, fun u wz => ∃ b, u = .pointer (some ⟨b, 0, none⟩) ∧ w0.heap.size ≤ b ∧ Mb wz b 72 (Rounding.cells p_3)), val 10 (.int .i64 0), val 11 (.int .i64 0)] (by kernel_rfl) ⟨fun _ _ _ hE ⟨b, hb, hs, hM⟩ => ⟨b, hb, hs, hM.exn hE⟩, sV, sV, trivial⟩ ⟨fun ρz wz hE hA ⟨e4, _⟩ _ => core_new rfl rfl hE (o_box (e4.trans h4) (bx_72 _ _)),
 fun ρz wz hE hA _ _ => core_val rfl rfl (o_assign rfl),
 fun ρz wz hE hA _ _ => core_val rfl rfl (o_assign rfl), trivial⟩ ?_
  intro ρ1 w1 hN hf hr
  obtain ⟨b9_, h9, hge_b9_, Hb_b9_⟩ := hf 0 rfl
  obtain ⟨h0, h1, h2, h3⟩ := k4 hr h0 h1 h2 h3 rfl
  have hW := hW.trans hN
  have hB_b9_ : w0.heap.size ≤ b9_ := Nat.le_trans hsz hge_b9_
  have hsz := hW.size
  refine WP.seq ?_
  refine WP.rb mixed [[], [], [1], [2], [0, 3], [4]] [[3], [9], [], [], [], []] [(17, .int .u64 p_2), (18, .pointer (some ((⟨b9_, 0, none⟩ : Addr).add 1))), (19, .int .i64 p_3.Unit), (20, .int .u64 (u64 p_3.Unit)), (21, .int .u64 (u64 (p_2 * (u64 p_3.Unit)))), (12, .int .u64 (u64 (p_2 * (u64 p_3.Unit))))] (by kernel_rfl) ⟨fun ρz wz hE hA ⟨e3, _⟩ _ => core_val rfl rfl (o_move (e3.trans h3)),
 fun ρz wz hE hA ⟨e9, _⟩ _ => core_val rfl rfl (o_fieldAddr (e9.trans h9) (fa_72_1 _ _)),
 fun ρz wz hE hA _ ⟨u1, _⟩ => core_val rfl rfl (o_load u1 (run_load1 (lr_3 _ _) (CA.sub ((Hb_b9_.exn (hA rfl)).ca) 1 1))),
 fun ρz wz hE hA _ ⟨u2, _⟩ => core_val rfl rfl (o_conv u2 (cv_3_62 _ _)),
 fun ρz wz hE hA _ ⟨u0, u3, _⟩ => core_val rfl rfl (o_mul u0 u3 rfl),
 fun ρz wz hE hA _ ⟨u4, _⟩ => core_val rfl rfl (o_assign u4), trivial⟩ ?_
  intro ρ2 w2 hN hf hr
  have h12 : ρ2 12 = .int .u64 (u64 (p_2 * (u64 p_3.Unit))) := hf 5 rfl
  obtain ⟨h0, h1, h2, h9⟩ := k4 hr h0 h1 h2 h9 rfl
  have Hb_b9_n := Hb_b9_.exn hN
  have hW := hW.trans hN
  have Hb_b9_ := Hb_b9_n
  have hsz := hW.size
  refine WP.seq ?_
  refine WP.seq ?_
  refine WP.rb mixed [[], [], [0, 1]] [[1], [12], []] [(22, .int .u64 i_), (23, .int .u64 (u64 (p_2 * (u64 p_3.Unit)))), (24, .bool (decide (u64 (p_2 * (u64 p_3.Unit)) ≤ i_)))] (by kernel_rfl) ⟨fun ρz wz hE hA ⟨e1, _⟩ _ => core_val rfl rfl (o_move (e1.trans h1)),
 fun ρz wz hE hA ⟨e12, _⟩ _ => core_val rfl rfl (o_move (e12.trans h12)),
 fun ρz wz hE hA _ ⟨u0, u1, _⟩ => core_val rfl rfl (o_geq u0 u1 rfl), trivial⟩ ?_
  intro ρ3 w3 hN hf hr
  have h24 : ρ3 24 = .bool (decide (u64 (p_2 * (u64 p_3.Unit)) ≤ i_)) := hf 2 rfl
  obtain ⟨h0, h1, h2, h9, h12⟩ := k5 hr h0 h1 h2 h9 h12 rfl
  have Hb_b9_n := Hb_b9_.exn hN
  have hW := hW.trans hN
  have Hb_b9_ := Hb_b9_n
  have hsz := hW.size
  refine WP.cond rfl h24 (fun hb => ?_) (fun hb => ?_)
  · have hF := (if_pos hb).symm.trans hF
    refine WP.seq ?_
    refine WP.rb mixed [[], []] [[], []] [(10, .int .i64 0), (11, .int .i64 2)] (by kernel_rfl) ⟨fun ρz wz hE hA _ _ => core_val rfl rfl (o_assign rfl),
 fun ρz wz hE hA _ _ => core_val rfl rfl (o_assign rfl), trivial⟩ ?_
    intro ρ4 w4 hN hf hr
    have h10 : ρ4 10 = .int .i64 0 := hf 0 rfl
    have h11 : ρ4 11 = .int .i64 2 := hf 1 rfl
    have hW := hW.trans hN
    have hsz := hW.size
    refine WP.ret ?_
    show retQ Tryd.prog 97 Tryd.f58 (fun v w1 => v = .tuple #[.int .i64 r.1, .int .i64 r.2] ∧ Ext noG w0 w1) .ret ρ4 w4
    obtain rfl := Option.some.inj hF
    exact res2 rfl (by decide) (by decide) h10 h11 ⟨rfl, hW⟩
  have hF := (if_neg (Bool.eq_false_iff.1 hb)).symm.trans hF
  refine WP.skip ?_
  refine WP.seq ?_
  obtain ⟨z, hz, hF⟩ := obind hF
  refine WP.rb mixed [[], [], [], [0, 1, 2], [3], [4], [4], [5], [6]] [[1], [2], [12], [], [], [], [], [], []] [(26, .int .u64 i_), (27, .int .u64 p_), (28, .int .u64 (u64 (p_2 * (u64 p_3.Unit)))), (29, .tuple #[.int .u64 z.1, .int .u64 z.2]), (25, .tuple #[.int .u64 z.1, .int .u64 z.2]), (30, .int .u64 z.1), (31, .int .u64 z.2), (13, .int .u64 z.1), (14, .int .u64 z.2)] (by kernel_rfl) ⟨fun ρz wz hE hA ⟨e1, _⟩ _ => core_val rfl rfl (o_move (e1.trans h1)),
 fun ρz wz hE hA ⟨e2, _⟩ _ => core_val rfl rfl (o_move (e2.trans h2)),
 fun ρz wz hE hA ⟨e12, _⟩ _ => core_val rfl rfl (o_move (e12.trans h12)),
 fun ρz wz hE hA _ ⟨u0, u1, u2, _⟩ => core_call rfl (call_args3 u0 u1 u2) cf_81 (bits_Div64_ok  _ _ _  hz),
 fun ρz wz hE hA _ ⟨u3, _⟩ => core_val rfl rfl (o_move u3),
 fun ρz wz hE hA _ ⟨u4, _⟩ => core_val rfl rfl (o_extract u4 (by kernel_rfl)),
 fun ρz wz hE hA _ ⟨u4, _⟩ => core_val rfl rfl (o_extract u4 (by kernel_rfl)),
 fun ρz wz hE hA _ ⟨u5, _⟩ => core_val rfl rfl (o_assign u5),
 fun ρz wz hE hA _ ⟨u6, _⟩ => core_val rfl rfl (o_assign u6), trivial⟩ ?_
  intro ρ5 w5 hN hf hr
  have h13 : ρ5 13 = .int .u64 z.1 := hf 7 rfl
  have h14 : ρ5 14 = .int .u64 z.2 := hf 8 rfl
  obtain ⟨h0, h9, h12⟩ := k3 hr h0 h9 h12 rfl
  have Hb_b9_n := Hb_b9_.exn hN
  have hW := hW.trans hN
  have Hb_b9_ := Hb_b9_n
  have hsz := hW.size
  refine WP.seq ?_
  refine WP.seq ?_
  refine WP.rb mixed [[], [0]] [[13], []] [(32, .int .u64 z.1), (33, .bool (decide (2000000000000 < z.1)))] (by kernel_rfl) ⟨fun ρz wz hE hA ⟨e13, _⟩ _ => core_val rfl rfl (o_move (e13.trans h13)),
 fun ρz wz hE hA _ ⟨u0, _⟩ => core_val rfl rfl (o_gtr u0 rfl rfl), trivial⟩ ?_
  intro ρ6 w6 hN hf hr
  have h33 : ρ6 33 = .bool (decide (2000000000000 < z.1)) := hf 1 rfl
  obtain ⟨h0, h9, h12, h13, h14⟩ := k5 hr h0 h9 h12 h13 h14 rfl
  have Hb_b9_n := Hb_b9_.exn hN
  have hW := hW.trans hN
  have Hb_b9_ := Hb_b9_n
  have hsz := hW.size
  refine WP.cond rfl h33 (fun hb => ?_) (fun hb => ?_)
  · have hF := (if_pos hb).symm.trans hF
    refine WP.seq ?_
    refine WP.rb mixed [[], []] [[], []] [(10, .int .i64 0), (11, .int .i64 2)] (by kernel_rfl) ⟨fun ρz wz hE hA _ _ => core_val rfl rfl (o_assign rfl),
 fun ρz wz hE hA _ _ => core_val rfl rfl (o_assign rfl), trivial⟩ ?_
    intro ρ7 w7 hN hf hr
    have h10 : ρ7 10 = .int .i64 0 := hf 0 rfl
    have h11 : ρ7 11 = .int .i64 2 := hf 1 rfl
    have hW := hW.trans hN
    have hsz := hW.size
    refine WP.ret ?_
    show retQ Tryd.prog 97 Tryd.f58 (fun v w1 => v = .tuple #[.int .i64 r.1, .int .i64 r.2] ∧ Ext noG w0 w1) .ret ρ7 w7
    obtain rfl := Option.some.inj hF
    exact res2 rfl (by decide) (by decide) h10 h11 ⟨rfl, hW⟩
  have hF := (if_neg (Bool.eq_false_iff.1 hb)).symm.trans hF
  refine WP.skip ?_
  refine WP.seq ?_
  refine WP.rb mixed [[], [0], [1]] [[13], [], []] [(34, .int .u64 z.1), (35, .int .i64 (i64 z.1)), (15, .int .i64 (i64 z.1))] (by kernel_rfl) ⟨fun ρz wz hE hA ⟨e13, _⟩ _ => core_val rfl rfl (o_move (e13.trans h13)),
 fun ρz wz hE hA _ ⟨u0, _⟩ => core_val rfl rfl (o_conv u0 (cv_62_3 _ _)),
 fun ρz wz hE hA _ ⟨u1, _⟩ => core_val rfl rfl (o_assign u1), trivial⟩ ?_
  intro ρ8 w8 hN hf hr
  have h15 : ρ8 15 = .int .i64 (i64 z.1) := hf 2 rfl
  obtain ⟨h0, h9, h12, h14⟩ := k4 hr h0 h9 h12 h14 rfl
  have Hb_b9_n := Hb_b9_.exn hN
  have hW := hW.trans hN
  have Hb_b9_ := Hb_b9_n
  have hsz := hW.size
  refine WP.seqJ (fun ρ w => ∃ x : Int, ∃ x2 : Int, ρ 9 = .pointer (some ⟨b9_, 0, none⟩) ∧ ρ 12 = .int .u64 (u64 (p_2 * (u64 p_3.Unit))) ∧ ρ 14 = .int .u64 x ∧ ρ 15 = .int .i64 x2 ∧ Mb w b9_ 72 (Rounding.cells p_3) ∧ Ext noG w0 w ∧ w0.heap.size ≤ w.heap.size ∧ money_divide_j p_2 p_3 x x2 = some r) ?_ ?_
  · refine WP.seq ?_
    refine WP.rb mixed [[]] [[0]] [(36, .bool d_)] (by kernel_rfl) ⟨fun ρz wz hE hA ⟨e0, _⟩ _ => core_val rfl rfl (o_move (e0.trans h0)), trivial⟩ ?_
    intro ρ25 w25 hN hf hr
    have h36 : ρ25 36 = .bool d_ := hf 0 rfl
    obtain ⟨h9, h12, h14, h15⟩ := k4 hr h9 h12 h14 h15 rfl
    have Hb_b9_n := Hb_b9_.exn hN
    have hW := hW.trans hN
    have Hb_b9_ := Hb_b9_n
    have hsz := hW.size
    refine WP.cond rfl h36 (fun hb => ?_) (fun hb => ?_)
    · have hF := (if_pos hb).symm.trans hF
      refine WP.seq ?_
      refine WP.rv mixed [[], [0], [0, 1]] [[], [0], [1]] [[15], [], []] [(37, .int .i64 (i64 z.1)), (38, .int .i64 (i64 (-(i64 z.1)))), (15, .int .i64 (i64 (-(i64 z.1))))] (by kernel_rfl) ⟨fun ρz wz hE hA ⟨e15, _⟩ _ => core_val rfl rfl (o_move (e15.trans h15)),
 fun ρz wz hE hA _ ⟨u0, _⟩ => core_val rfl rfl (o_neg u0 rfl),
 fun ρz wz hE hA _ ⟨u1, _⟩ => core_val rfl rfl (o_assign u1), trivial⟩ ?_
      intro ρ26 w26 hN hf hr
      have h15 : ρ26 15 = .int .i64 (i64 (-(i64 z.1))) := hf 2 rfl
      obtain ⟨h9, h12, h14⟩ := k3 hr h9 h12 h14 rfl
      have Hb_b9_n := Hb_b9_.exn hN
      have hW := hW.trans hN
      have Hb_b9_ := Hb_b9_n
      have hsz := hW.size
      refine WP.seq ?_
      refine WP.rb mixed [[], [0]] [[14], []] [(39, .int .u64 z.2), (40, .bool (decide (0 < z.2)))] (by kernel_rfl) ⟨fun ρz wz hE hA ⟨e14, _⟩ _ => core_val rfl rfl (o_move (e14.trans h14)),
 fun ρz wz hE hA _ ⟨u0, _⟩ => core_val rfl rfl (o_gtr u0 rfl rfl), trivial⟩ ?_
      intro ρ27 w27 hN hf hr
      have h40 : ρ27 40 = .bool (decide (0 < z.2)) := hf 1 rfl
      obtain ⟨h9, h12, h14, h15⟩ := k4 hr h9 h12 h14 h15 rfl
      have Hb_b9_n := Hb_b9_.exn hN
      have hW := hW.trans hN
      have Hb_b9_ := Hb_b9_n
      have hsz := hW.size
      refine WP.cond rfl h40 (fun hb => ?_) (fun hb => ?_)
      · have hF := (if_pos hb).symm.trans hF
        refine WP.seq ?_
        refine WP.rv mixed [[], [0], [0, 1]] [[], [0], [1]] [[15], [], []] [(41, .int .i64 (i64 (-(i64 z.1)))), (42, .int .i64 (i64 (i64 (-(i64 z.1)) - 1))), (15, .int .i64 (i64 (i64 (-(i64 z.1)) - 1)))] (by kernel_rfl) ⟨fun ρz wz hE hA ⟨e15, _⟩ _ => core_val rfl rfl (o_move (e15.trans h15)),
 fun ρz wz hE hA _ ⟨u0, _⟩ => core_val rfl rfl (o_sub u0 rfl rfl),
 fun ρz wz hE hA _ ⟨u1, _⟩ => core_val rfl rfl (o_assign u1), trivial⟩ ?_
        intro ρ28 w28 hN hf hr
        have h15 : ρ28 15 = .int .i64 (i64 (i64 (-(i64 z.1)) - 1)) := hf 2 rfl
        obtain ⟨h9, h12, h14⟩ := k3 hr h9 h12 h14 rfl
        have Hb_b9_n := Hb_b9_.exn hN
        have hW := hW.trans hN
        have Hb_b9_ := Hb_b9_n
        have hsz := hW.size
        refine WP.rv mixed [[], [], [0, 1], [1, 2]] [[], [], [0, 1], [2]] [[12], [14], [], []] [(43, .int .u64 (u64 (p_2 * (u64 p_3.Unit)))), (44, .int .u64 z.2), (45, .int .u64 (u64 (u64 (p_2 * (u64 p_3.Unit)) - z.2))), (14, .int .u64 (u64 (u64 (p_2 * (u64 p_3.Unit)) - z.2)))] (by kernel_rfl) ⟨fun ρz wz hE hA ⟨e12, _⟩ _ => core_val rfl rfl (o_move (e12.trans h12)),
 fun ρz wz hE hA ⟨e14, _⟩ _ => core_val rfl rfl (o_move (e14.trans h14)),
 fun ρz wz hE hA _ ⟨u0, u1, _⟩ => core_val rfl rfl (o_sub u0 u1 rfl),
 fun ρz wz hE hA _ ⟨u2, _⟩ => core_val rfl rfl (o_assign u2), trivial⟩ ?_
        intro ρ29 w29 hN hf hr
        have h14 : ρ29 14 = .int .u64 (u64 (u64 (p_2 * (u64 p_3.Unit)) - z.2)) := hf 3 rfl
        obtain ⟨h9, h12, h15⟩ := k3 hr h9 h12 h15 rfl
        have Hb_b9_n := Hb_b9_.exn hN
        have hW := hW.trans hN
        have Hb_b9_ := Hb_b9_n
        have hsz := hW.size
        exact ⟨u64 (u64 (p_2 * (u64 p_3.Unit)) - z.2), i64 (i64 (-(i64 z.1)) - 1), h9, h12, h14, h15, Hb_b9_, hW, hsz, hF⟩
      have hF := (if_neg (Bool.eq_false_iff.1 hb)).symm.trans hF
      refine WP.skip ?_
      exact ⟨z.2, i64 (-(i64 z.1)), h9, h12, h14, h15, Hb_b9_, hW, hsz, hF⟩
    have hF := (if_neg (Bool.eq_false_iff.1 hb)).symm.trans hF
    refine WP.skip ?_
    exact ⟨z.2, i64 z.1, h9, h12, h14, h15, Hb_b9_, hW, hsz, hF⟩
  rintro ρ9 w9 ⟨x, x2, h9, h12, h14, h15, Hb_b9_, hW, hsz, hF⟩
  rw [money_divide_j] at hF
  refine WP.seq ?_
  refine WP.rb mixed [[]] [[]] [(16, .bool false)] (by kernel_rfl) ⟨fun ρz wz hE hA _ _ => core_val rfl rfl (o_assign rfl), trivial⟩ ?_
  intro ρ10 w10 hN hf hr
  have h16 : ρ10 16 = .bool false := hf 0 rfl
  obtain ⟨h9, h12, h14, h15⟩ := k4 hr h9 h12 h14 h15 rfl
  have Hb_b9_n := Hb_b9_.exn hN
  have hW := hW.trans hN
  have Hb_b9_ := Hb_b9_n
  have hsz := hW.size
  refine WP.seqJ (fun ρ w => ∃ x3 : Bool, ρ 9 = .pointer (some ⟨b9_, 0, none⟩) ∧ ρ 15 = .int .i64 x2 ∧ ρ 16 = .bool x3 ∧ Mb w b9_ 72 (Rounding.cells p_3) ∧ Ext noG w0 w ∧ w0.heap.size ≤ w.heap.size ∧ money_divide_j2 p_3 x2 x3 = some r) ?_ ?_
  · refine WP.seq ?_
    refine WP.rb mixed [[], [0]] [[9], []] [(46, .pointer (some ((⟨b9_, 0, none⟩ : Addr).add 0))), (47, .int .i64 p_3.Mode)] (by kernel_rfl) ⟨fun ρz wz hE hA ⟨e9, _⟩ _ => core_val rfl rfl (o_fieldAddr (e9.trans h9) (fa_72_0 _ _)),
 fun ρz wz hE hA _ ⟨u0, _⟩ => core_val rfl rfl (o_load u0 (run_load1 (lr_3 _ _) (CA.sub ((Hb_b9_.exn (hA rfl)).ca) 0 1))), trivial⟩ ?_
    intro ρ18 w18 hN hf hr
    have h47 : ρ18 47 = .int .i64 p_3.Mode := hf 1 rfl
    obtain ⟨h9, h12, h14, h15, h16⟩ := k5 hr h9 h12 h14 h15 h16 rfl
    have Hb_b9_n := Hb_b9_.exn hN
    have hW := hW.trans hN
    have Hb_b9_ := Hb_b9_n
    have hsz := hW.size
    refine WP.block ?_
    refine WP.seq ?_
    refine WP.rb mixed [[], [0]] [[47], []] [(49, .bool (p_3.Mode == 2)), (48, .bool (p_3.Mode == 2))] (by kernel_rfl) ⟨fun ρz wz hE hA ⟨e47, _⟩ _ => core_val rfl rfl (o_eql (e47.trans h47) rfl rfl),
 fun ρz wz hE hA _ ⟨u0, _⟩ => core_val rfl rfl (o_assign u0), trivial⟩ ?_
    intro ρ19 w19 hN hf hr
    have h48 : ρ19 48 = .bool (p_3.Mode == 2) := hf 1 rfl
    obtain ⟨h9, h12, h14, h15, h16, h47⟩ := k6 hr h9 h12 h14 h15 h16 h47 rfl
    have Hb_b9_n := Hb_b9_.exn hN
    have hW := hW.trans hN
    have Hb_b9_ := Hb_b9_n
    have hsz := hW.size
    refine WP.cond rfl h48 (fun hb => ?_) (fun hb => ?_)
    · have hF := (if_pos hb).symm.trans hF
      refine WP.rb mixed [[], [0], [1]] [[14], [], []] [(50, .int .u64 x), (51, .bool (decide (0 < x))), (16, .bool (decide (0 < x)))] (by kernel_rfl) ⟨fun ρz wz hE hA ⟨e14, _⟩ _ => core_val rfl rfl (o_move (e14.trans h14)),
 fun ρz wz hE hA _ ⟨u0, _⟩ => core_val rfl rfl (o_gtr u0 rfl rfl),
 fun ρz wz hE hA _ ⟨u1, _⟩ => core_val rfl rfl (o_assign u1), trivial⟩ ?_
      intro ρ20 w20 hN hf hr
      have h16 : ρ20 16 = .bool (decide (0 < x)) := hf 2 rfl
      obtain ⟨h9, h15⟩ := k2 hr h9 h15 rfl
      have Hb_b9_n := Hb_b9_.exn hN
      have hW := hW.trans hN
      have Hb_b9_ := Hb_b9_n
      have hsz := hW.size
      exact ⟨decide (0 < x), h9, h15, h16, Hb_b9_, hW, hsz, hF⟩
    have hF := (if_neg (Bool.eq_false_iff.1 hb)).symm.trans hF
    refine WP.seq ?_
    refine WP.rb mixed [[], [0]] [[47], []] [(53, .bool (p_3.Mode == 3)), (52, .bool (p_3.Mode == 3))] (by kernel_rfl) ⟨fun ρz wz hE hA ⟨e47, _⟩ _ => core_val rfl rfl (o_eql (e47.trans h47) rfl rfl),
 fun ρz wz hE hA _ ⟨u0, _⟩ => core_val rfl rfl (o_assign u0), trivial⟩ ?_
    intro ρ21 w21 hN hf hr
    have h52 : ρ21 52 = .bool (p_3.Mode == 3) := hf 1 rfl
    obtain ⟨h9, h12, h14, h15, h16, h47⟩ := k6 hr h9 h12 h14 h15 h16 h47 rfl
    have Hb_b9_n := Hb_b9_.exn hN
    have hW := hW.trans hN
    have Hb_b9_ := Hb_b9_n
    have hsz := hW.size
    refine WP.cond rfl h52 (fun hb => ?_) (fun hb => ?_)
    · have hF := (if_pos hb).symm.trans hF
      refine WP.rb mixed [[], [], [], [1, 2], [0, 3], [4]] [[14], [12], [14], [], [], []] [(54, .int .u64 x), (55, .int .u64 (u64 (p_2 * (u64 p_3.Unit)))), (56, .int .u64 x), (57, .int .u64 (u64 (u64 (p_2 * (u64 p_3.Unit)) - x))), (58, .bool (decide (u64 (u64 (p_2 * (u64 p_3.Unit)) - x) ≤ x))), (16, .bool (decide (u64 (u64 (p_2 * (u64 p_3.Unit)) - x) ≤ x)))] (by kernel_rfl) ⟨fun ρz wz hE hA ⟨e14, _⟩ _ => core_val rfl rfl (o_move (e14.trans h14)),
 fun ρz wz hE hA ⟨e12, _⟩ _ => core_val rfl rfl (o_move (e12.trans h12)),
 fun ρz wz hE hA ⟨e14, _⟩ _ => core_val rfl rfl (o_move (e14.trans h14)),
 fun ρz wz hE hA _ ⟨u1, u2, _⟩ => core_val rfl rfl (o_sub u1 u2 rfl),
 fun ρz wz hE hA _ ⟨u0, u3, _⟩ => core_val rfl rfl (o_geq u0 u3 rfl),
 fun ρz wz hE hA _ ⟨u4, _⟩ => core_val rfl rfl (o_assign u4), trivial⟩ ?_
      intro ρ22 w22 hN hf hr
      have h16 : ρ22 16 = .bool (decide (u64 (u64 (p_2 * (u64 p_3.Unit)) - x) ≤ x)) := hf 5 rfl
      obtain ⟨h9, h15⟩ := k2 hr h9 h15 rfl
      have Hb_b9_n := Hb_b9_.exn hN
      have hW := hW.trans hN
      have Hb_b9_ := Hb_b9_n
      have hsz := hW.size
      exact ⟨decide (u64 (u64 (p_2 * (u64 p_3.Unit)) - x) ≤ x), h9, h15, h16, Hb_b9_, hW, hsz, hF⟩
    have hF := (if_neg (Bool.eq_false_iff.1 hb)).symm.trans hF
    refine WP.seq ?_
    refine WP.rb mixed [[], [0]] [[47], []] [(60, .bool (p_3.Mode == 4)), (59, .bool (p_3.Mode == 4))] (by kernel_rfl) ⟨fun ρz wz hE hA ⟨e47, _⟩ _ => core_val rfl rfl (o_eql (e47.trans h47) rfl rfl),
 fun ρz wz hE hA _ ⟨u0, _⟩ => core_val rfl rfl (o_assign u0), trivial⟩ ?_
    intro ρ23 w23 hN hf hr
    have h59 : ρ23 59 = .bool (p_3.Mode == 4) := hf 1 rfl
    obtain ⟨h9, h12, h14, h15, h16⟩ := k5 hr h9 h12 h14 h15 h16 rfl
    have Hb_b9_n := Hb_b9_.exn hN
    have hW := hW.trans hN
    have Hb_b9_ := Hb_b9_n
    have hsz := hW.size
    refine WP.cond rfl h59 (fun hb => ?_) (fun hb => ?_)
    · have hF := (if_pos hb).symm.trans hF
      refine WP.rb mixed [[], [], [], [1, 2], [0, 3], [4], [5], [5], [5], [5, 7, 8], [5, 6, 9], [5, 10], [11], [11, 12], [11, 13], [5, 11, 14], [5, 15], [16]] [[14], [12], [14], [], [], [], [14], [12], [14], [], [], [], [15], [], [], [], [], []] [(61, .int .u64 x), (62, .int .u64 (u64 (p_2 * (u64 p_3.Unit)))), (63, .int .u64 x), (64, .int .u64 (u64 (u64 (p_2 * (u64 p_3.Unit)) - x))), (65, .bool (decide (u64 (u64 (p_2 * (u64 p_3.Unit)) - x) < x))), (66, .bool (decide (u64 (u64 (p_2 * (u64 p_3.Unit)) - x) < x))), (67, gv (!(decide (u64 (u64 (p_2 * (u64 p_3.Unit)) - x) < x))) (.int .u64 x)), (68, gv (!(decide (u64 (u64 (p_2 * (u64 p_3.Unit)) - x) < x))) (.int .u64 (u64 (p_2 * (u64 p_3.Unit))))), (69, gv (!(decide (u64 (u64 (p_2 * (u64 p_3.Unit)) - x) < x))) (.int .u64 x)), (70, gv (!(decide (u64 (u64 (p_2 * (u64 p_3.Unit)) - x) < x))) (.int .u64 (u64 (u64 (p_2 * (u64 p_3.Unit)) - x)))), (71, gv (!(decide (u64 (u64 (p_2 * (u64 p_3.Unit)) - x) < x))) (.bool (x == u64 (u64 (p_2 * (u64 p_3.Unit)) - x)))), (72, gv (!(decide (u64 (u64 (p_2 * (u64 p_3.Unit)) - x) < x))) (.bool (x == u64 (u64 (p_2 * (u64 p_3.Unit)) - x)))), (73, gv ((!(decide (u64 (u64 (p_2 * (u64 p_3.Unit)) - x) < x))) && (x == u64 (u64 (p_2 * (u64 p_3.Unit)) - x))) (.int .i64 x2)), (74, gv ((!(decide (u64 (u64 (p_2 * (u64 p_3.Unit)) - x) < x))) && (x == u64 (u64 (p_2 * (u64 p_3.Unit)) - x))) (.int .i64 (Int.tmod x2 2))), (75, gv ((!(decide (u64 (u64 (p_2 * (u64 p_3.Unit)) - x) < x))) && (x == u64 (u64 (p_2 * (u64 p_3.Unit)) - x))) (.bool (Int.tmod x2 2 != 0))), (76, gv (!(decide (u64 (u64 (p_2 * (u64 p_3.Unit)) - x) < x))) (.bool ((x == u64 (u64 (p_2 * (u64 p_3.Unit)) - x)) && (Int.tmod x2 2 != 0)))), (77, .bool (decide (u64 (u64 (p_2 * (u64 p_3.Unit)) - x) < x) || ((x == u64 (u64 (p_2 * (u64 p_3.Unit)) - x)) && (Int.tmod x2 2 != 0)))), (16, .bool (decide (u64 (u64 (p_2 * (u64 p_3.Unit)) - x) < x) || ((x == u64 (u64 (p_2 * (u64 p_3.Unit)) - x)) && (Int.tmod x2 2 != 0))))] (by kernel_rfl) ⟨fun ρz wz hE hA ⟨e14, _⟩ _ => core_val rfl rfl (o_move (e14.trans h14)),
 fun ρz wz hE hA ⟨e12, _⟩ _ => core_val rfl rfl (o_move (e12.trans h12)),
 fun ρz wz hE hA ⟨e14, _⟩ _ => core_val rfl rfl (o_move (e14.trans h14)),
 fun ρz wz hE hA _ ⟨u1, u2, _⟩ => core_val rfl rfl (o_sub u1 u2 rfl),
 fun ρz wz hE hA _ ⟨u0, u3, _⟩ => core_val rfl rfl (o_gtr u0 u3 rfl),
 fun ρz wz hE hA _ ⟨u4, _⟩ => core_val rfl rfl (o_move u4),
 fun ρz wz hE hA ⟨e14, _⟩ ⟨u5, _⟩ => gIf rfl rfl (yF rfl u5) fun gc F hF => core_val rfl hF (o_move (e14.trans h14)),
 fun ρz wz hE hA ⟨e12, _⟩ ⟨u5, _⟩ => gIf rfl rfl (yF rfl u5) fun gc F hF => core_val rfl hF (o_move (e12.trans h12)),
 fun ρz wz hE hA ⟨e14, _⟩ ⟨u5, _⟩ => gIf rfl rfl (yF rfl u5) fun gc F hF => core_val rfl hF (o_move (e14.trans h14)),
 fun ρz wz hE hA _ ⟨u5, u7, u8, _⟩ => gIf rfl rfl (yF rfl u5) fun gc F hF => core_val rfl hF (o_sub (gt gc u7) (gt gc u8) rfl),
 fun ρz wz hE hA _ ⟨u5, u6, u9, _⟩ => gIf rfl rfl (yF rfl u5) fun gc F hF => core_val rfl hF (o_eql (gt gc u6) (gt gc u9) rfl),
 fun ρz wz hE hA _ ⟨u5, u10, _⟩ => gIf rfl rfl (yF rfl u5) fun gc F hF => core_val rfl hF (o_move (gt gc u10)),
 fun ρz wz hE hA ⟨e15, _⟩ ⟨u11, _⟩ => gIf rfl rfl (yTG rfl u11) fun gc F hF => core_val rfl hF (o_move (e15.trans h15)),
 fun ρz wz hE hA _ ⟨u11, u12, _⟩ => gIf rfl rfl (yTG rfl u11) fun gc F hF => core_val rfl hF (o_rem (gt gc u12) rfl (by decide) rfl),
 fun ρz wz hE hA _ ⟨u11, u13, _⟩ => gIf rfl rfl (yTG rfl u11) fun gc F hF => core_val rfl hF (o_neq (gt gc u13) rfl rfl),
 fun ρz wz hE hA _ ⟨u5, u11, u14, _⟩ => gIf rfl rfl (yF rfl u5) fun gc F hF => core_val rfl hF (o_pick_and (gt gc u11) (gr gc u14) rfl),
 fun ρz wz hE hA _ ⟨u5, u15, _⟩ => core_val rfl rfl (o_pick_or u5 rfl u15),
 fun ρz wz hE hA _ ⟨u16, _⟩ => core_val rfl rfl (o_assign u16), trivial⟩ ?_
      intro ρ24 w24 hN hf hr
      have h16 : ρ24 16 = .bool (decide (u64 (u64 (p_2 * (u64 p_3.Unit)) - x) < x) || ((x == u64 (u64 (p_2 * (u64 p_3.Unit)) - x)) && (Int.tmod x2 2 != 0))) := hf 17 rfl
      obtain ⟨h9, h15⟩ := k2 hr h9 h15 rfl
      have Hb_b9_n := Hb_b9_.exn hN
      have hW := hW.trans hN
      have Hb_b9_ := Hb_b9_n
      have hsz := hW.size
      exact ⟨(decide (u64 (u64 (p_2 * (u64 p_3.Unit)) - x) < x) || ((x == u64 (u64 (p_2 * (u64 p_3.Unit)) - x)) && (Int.tmod x2 2 != 0))), h9, h15, h16, Hb_b9_, hW, hsz, hF⟩
    have hF := (if_neg (Bool.eq_false_iff.1 hb)).symm.trans hF
    refine WP.skip ?_
    exact ⟨false, h9, h15, h16, Hb_b9_, hW, hsz, hF⟩
  rintro ρ11 w11 ⟨x3, h9, h15, h16, Hb_b9_, hW, hsz, hF⟩
  rw [money_divide_j2] at hF
  refine WP.seqJ (fun ρ w => ∃ x4 : Int, ρ 9 = .pointer (some ⟨b9_, 0, none⟩) ∧ ρ 15 = .int .i64 x4 ∧ Mb w b9_ 72 (Rounding.cells p_3) ∧ Ext noG w0 w ∧ w0.heap.size ≤ w.heap.size ∧ money_divide_j3 p_3 x4 = some r) ?_ ?_
  · refine WP.seq ?_
    refine WP.rb mixed [[]] [[16]] [(78, .bool x3)] (by kernel_rfl) ⟨fun ρz wz hE hA ⟨e16, _⟩ _ => core_val rfl rfl (o_move (e16.trans h16)), trivial⟩ ?_
    intro ρ16 w16 hN hf hr
    have h78 : ρ16 78 = .bool x3 := hf 0 rfl
    obtain ⟨h9, h15⟩ := k2 hr h9 h15 rfl
    have Hb_b9_n := Hb_b9_.exn hN
    have hW := hW.trans hN
    have Hb_b9_ := Hb_b9_n
    have hsz := hW.size
    refine WP.cond rfl h78 (fun hb => ?_) (fun hb => ?_)
    · have hF := (if_pos hb).symm.trans hF
      refine WP.rv mixed [[], [0], [0, 1]] [[], [0], [1]] [[15], [], []] [(79, .int .i64 x2), (80, .int .i64 (i64 (x2 + 1))), (15, .int .i64 (i64 (x2 + 1)))] (by kernel_rfl) ⟨fun ρz wz hE hA ⟨e15, _⟩ _ => core_val rfl rfl (o_move (e15.trans h15)),
 fun ρz wz hE hA _ ⟨u0, _⟩ => core_val rfl rfl (o_add u0 rfl rfl),
 fun ρz wz hE hA _ ⟨u1, _⟩ => core_val rfl rfl (o_assign u1), trivial⟩ ?_
      intro ρ17 w17 hN hf hr
      have h15 : ρ17 15 = .int .i64 (i64 (x2 + 1)) := hf 2 rfl
      have h9 := (hr 9 rfl).trans h9
      have Hb_b9_n := Hb_b9_.exn hN
      have hW := hW.trans hN
      have Hb_b9_ := Hb_b9_n
      have hsz := hW.size
      exact ⟨i64 (x2 + 1), h9, h15, Hb_b9_, hW, hsz, hF⟩
    have hF := (if_neg (Bool.eq_false_iff.1 hb)).symm.trans hF
    refine WP.skip ?_
    exact ⟨x2, h9, h15, Hb_b9_, hW, hsz, hF⟩
  rintro ρ12 w12 ⟨x4, h9, h15, Hb_b9_, hW, hsz, hF⟩
  rw [money_divide_j3] at hF
  refine WP.seq ?_
  refine WP.seq ?_
  obtain ⟨q, hq, hF⟩ := obind hF
  obtain ⟨c, hc, hF⟩ := obind hF
  obtain ⟨q2, hq2, hc⟩ := orB hc
  have hc := orE hc
  refine WP.rb mixed [[], [], [1], [2], [0, 3], [4], [5], [5], [5, 7], [5, 8], [5, 6, 9], [5, 10]] [[15], [9], [], [], [], [], [15], [9], [], [], [], []] [(81, .int .i64 x4), (82, .pointer (some ((⟨b9_, 0, none⟩ : Addr).add 1))), (83, .int .i64 p_3.Unit), (84, .int .i64 q), (85, .bool (decide (q < x4))), (86, .bool (decide (q < x4))), (87, gv (!(decide (q < x4))) (.int .i64 x4)), (88, gv (!(decide (q < x4))) (.pointer (some ((⟨b9_, 0, none⟩ : Addr).add 1)))), (89, gv (!(decide (q < x4))) (.int .i64 p_3.Unit)), (90, gv (!(decide (q < x4))) (.int .i64 q2)), (91, gv (!(decide (q < x4))) (.bool (decide (x4 < q2)))), (92, .bool c)] (by kernel_rfl) ⟨fun ρz wz hE hA ⟨e15, _⟩ _ => core_val rfl rfl (o_move (e15.trans h15)),
 fun ρz wz hE hA ⟨e9, _⟩ _ => core_val rfl rfl (o_fieldAddr (e9.trans h9) (fa_72_1 _ _)),
 fun ρz wz hE hA _ ⟨u1, _⟩ => core_val rfl rfl (o_load u1 (run_load1 (lr_3 _ _) (CA.sub ((Hb_b9_.exn (hA rfl)).ca) 1 1))),
 fun ρz wz hE hA _ ⟨u2, _⟩ => core_val rfl rfl (o_quo rfl u2 (quoI_some hq).1 (quoI_some hq).2),
 fun ρz wz hE hA _ ⟨u0, u3, _⟩ => core_val rfl rfl (o_gtr u0 u3 rfl),
 fun ρz wz hE hA _ ⟨u4, _⟩ => core_val rfl rfl (o_move u4),
 fun ρz wz hE hA ⟨e15, _⟩ ⟨u5, _⟩ => gIf rfl rfl (yF rfl u5) fun gc F hF => core_val rfl hF (o_move (e15.trans h15)),
 fun ρz wz hE hA ⟨e9, _⟩ ⟨u5, _⟩ => gIf rfl rfl (yF rfl u5) fun gc F hF => core_val rfl hF (o_fieldAddr (e9.trans h9) (fa_72_1 _ _)),
 fun ρz wz hE hA _ ⟨u5, u7, _⟩ => gIf rfl rfl (yF rfl u5) fun gc F hF => core_val rfl hF (o_load (gt gc u7) (run_load1 (lr_3 _ _) (CA.sub ((Hb_b9_.exn (hA rfl)).ca) 1 1))),
 fun ρz wz hE hA _ ⟨u5, u8, _⟩ => gIf rfl rfl (yF rfl u5) fun gc F hF => core_val rfl hF (o_quo rfl (gt gc u8) (quoI_some (hq2 gc)).1 (quoI_some (hq2 gc)).2),
 fun ρz wz hE hA _ ⟨u5, u6, u9, _⟩ => gIf rfl rfl (yF rfl u5) fun gc F hF => core_val rfl hF (o_lss (gt gc u6) (gt gc u9) rfl),
 fun ρz wz hE hA _ ⟨u5, u10, _⟩ => core_valE rfl rfl (congrArg Value.bool hc) (o_pick_or u5 rfl u10), trivial⟩ ?_
  intro ρ13 w13 hN hf hr
  have h92 : ρ13 92 = .bool c := hf 11 rfl
  obtain ⟨h9, h15⟩ := k2 hr h9 h15 rfl
  have Hb_b9_n := Hb_b9_.exn hN
  have hW := hW.trans hN
  have Hb_b9_ := Hb_b9_n
  have hsz := hW.size
  refine WP.cond rfl h92 (fun hb => ?_) (fun hb => ?_)
  · have hF := (if_pos hb).symm.trans hF
    refine WP.seq ?_
    refine WP.rb mixed [[], []] [[], []] [(10, .int .i64 0), (11, .int .i64 2)] (by kernel_rfl) ⟨fun ρz wz hE hA _ _ => core_val rfl rfl (o_assign rfl),
 fun ρz wz hE hA _ _ => core_val rfl rfl (o_assign rfl), trivial⟩ ?_
    intro ρ14 w14 hN hf hr
    have h10 : ρ14 10 = .int .i64 0 := hf 0 rfl
    have h11 : ρ14 11 = .int .i64 2 := hf 1 rfl
    have hW := hW.trans hN
    have hsz := hW.size
    refine WP.ret ?_
    show retQ Tryd.prog 97 Tryd.f58 (fun v w1 => v = .tuple #[.int .i64 r.1, .int .i64 r.2] ∧ Ext noG w0 w1) .ret ρ14 w14
    obtain rfl := Option.some.inj hF
    exact res2 rfl (by decide) (by decide) h10 h11 ⟨rfl, hW⟩
  have hF := (if_neg (Bool.eq_false_iff.1 hb)).symm.trans hF
  refine WP.skip ?_
  refine WP.seq ?_
  refine WP.rb mixed [[], [], [1], [0, 2], [3], []] [[15], [9], [], [], [], []] [(93, .int .i64 x4), (94, .pointer (some ((⟨b9_, 0, none⟩ : Addr).add 1))), (95, .int .i64 p_3.Unit), (96, .int .i64 (i64 (x4 * p_3.Unit))), (10, .int .i64 (i64 (x4 * p_3.Unit))), (11, .int .i64 0)] (by kernel_rfl) ⟨fun ρz wz hE hA ⟨e15, _⟩ _ => core_val rfl rfl (o_move (e15.trans h15)),
 fun ρz wz hE hA ⟨e9, _⟩ _ => core_val rfl rfl (o_fieldAddr (e9.trans h9) (fa_72_1 _ _)),
 fun ρz wz hE hA _ ⟨u1, _⟩ => core_val rfl rfl (o_load u1 (run_load1 (lr_3 _ _) (CA.sub ((Hb_b9_.exn (hA rfl)).ca) 1 1))),
 fun ρz wz hE hA _ ⟨u0, u2, _⟩ => core_val rfl rfl (o_mul u0 u2 rfl),
 fun ρz wz hE hA _ ⟨u3, _⟩ => core_val rfl rfl (o_assign u3),
 fun ρz wz hE hA _ _ => core_val rfl rfl (o_assign rfl), trivial⟩ ?_
  intro ρ15 w15 hN hf hr
  have h10 : ρ15 10 = .int .i64 (i64 (x4 * p_3.Unit)) := hf 4 rfl
  have h11 : ρ15 11 = .int .i64 0 := hf 5 rfl
  have hW := hW.trans hN
  have hsz := hW.size
  refine WP.ret ?_
  show retQ Tryd.prog 97 Tryd.f58 (fun v w1 => v = .tuple #[.int .i64 r.1, .int .i64 r.2] ∧ Ext noG w0 w1) .ret ρ15 w15
  obtain rfl := Option.some.inj hF
  exact res2 rfl (by decide) (by decide) h10 h11 ⟨rfl, hW⟩

set_option maxHeartbeats 4000000 in
theorem money_Value_ok {w0 : World} (t_ : List Rate) (currency_ : Int) (month_ : Int) {v_t_ : Value} (H_t_ : RepSl Rate.R noG w0 v_t_ t_) {r : Fraction × Bool} (hF : money_Value t_ currency_ month_ = some r) :
    Calls Tryd.prog 52 #[v_t_, .int .i64 currency_, .int .i64 month_] w0 fun e w1 => e = .returned (.tuple #[Fraction.val r.1, .bool r.2]) ∧ Ext noG w0 w1 := by
  refine (Calls.start (P := Tryd.prog) (args := [v_t_, .int .i64 currency_, .int .i64 month_]) (R := fun v w1 => v = .tuple #[Fraction.val r.1, .bool r.2] ∧ Ext noG w0 w1) (n := 52) (w := w0) Tryd.func52 rfl rfl (Nat.le_of_ble_eq_true rfl) (fun ρ hargs => ?_)).mono (fun e w1 ⟨v, he, hv, hE⟩ => ⟨hv ▸ he, hE⟩)
  have h0 := hargs 0 _ rfl
  have h1 := hargs 1 _ rfl
  have h2 := hargs 2 _ rfl
  have hW := Ext.refl noG w0
  have hsz := Nat.le_refl w0.heap.size
  obtain ⟨_, _, hs_H_t_, _, _⟩ := RepSl.shape H_t_
  have H_t_ := H_t_.start
  rw [money_Value] at hF
  refine WP.seq ?_
  refine WP.rg mixed [[], []] [[], []] [[], []] [(6, fun u wz => ∃ b, u = .pointer (some ⟨b, 0, none⟩) ∧ w0.heap.size ≤ b ∧ Mb wz b 54 (Fraction.cells (⟨0, 0⟩ : Fraction))), val 7 (.bool false)] (by kernel_rfl) ⟨fun _ _ _ hE ⟨b, hb, hs, hM⟩ => ⟨b, hb, hs, hM.exn hE⟩, sV, trivial⟩ ⟨fun ρz wz hE hA _ _ => core_new rfl rfl hE (o_alloc (al_54 _)),
 fun ρz wz hE hA _ _ => core_val rfl rfl (o_assign rfl), trivial⟩ ?_
  intro ρ1 w1 hN hf hr
  obtain ⟨b6_, h6, hge_b6_, Hb_b6_⟩ := hf 0 rfl
  obtain ⟨h0, h1, h2⟩ := k3 hr h0 h1 h2 rfl
  have H_t_ := H_t_.exn hN
  have hW := hW.trans hN
  have hB_b6_ : w0.heap.size ≤ b6_ := Nat.le_trans hsz hge_b6_
  have hsz := hW.size
  refine WP.seq ?_
  refine WP.rb mixed [[]] [[]] [(8, .int .i64 (-1))] (by kernel_rfl) ⟨fun ρz wz hE hA _ _ => core_val rfl rfl (o_assign rfl), trivial⟩ ?_
  intro ρ2 w2 hN hf hr
  have h8 : ρ2 8 = .int .i64 (-1) := hf 0 rfl
  obtain ⟨h0, h1, h2, h6⟩ := k4 hr h0 h1 h2 h6 rfl
  have Hb_b6_n := Hb_b6_.exn hN
  have H_t_ := H_t_.exn hN
  have hW := hW.trans hN
  have Hb_b6_ := Hb_b6_n
  have hsz := hW.size
  refine WP.seq ?_
  refine WP.seq ?_
  refine WP.rb mixed [[], [0], []] [[0], [], []] [(11, v_t_), (12, .int .i64 (t_.length : Int)), (13, .int .i64 0)] (by kernel_rfl) ⟨fun ρz wz hE hA ⟨e0, _⟩ _ => core_val rfl rfl (o_move (e0.trans h0)),
 fun ρz wz hE hA _ ⟨u0, _⟩ => core_val rfl rfl (o_len (u0.trans hs_H_t_) len_26),
 fun ρz wz hE hA _ _ => core_val rfl rfl (o_move rfl), trivial⟩ ?_
  intro ρ3 w3 hN hf hr
  have h11 : ρ3 11 = v_t_ := hf 0 rfl
  have h12 : ρ3 12 = .int .i64 (t_.length : Int) := hf 1 rfl
  have h13 : ρ3 13 = .int .i64 0 := hf 2 rfl
  obtain ⟨h0, h1, h2, h6, h8⟩ := k5 hr h0 h1 h2 h6 h8 rfl
  have Hb_b6_n := Hb_b6_.exn hN
  have H_t_ := H_t_.exn hN
  have hW := hW.trans hN
  have Hb_b6_ := Hb_b6_n
  have hsz := hW.size
  refine WP.block ?_
  refine WP.loop (fun k_ ρ w => ∃ best_ : Int, ∃ x : Int, ρ 0 = v_t_ ∧ ρ 1 = .int .i64 currency_ ∧ ρ 2 = .int .i64 month_ ∧ ρ 6 = .pointer (some ⟨b6_, 0, none⟩) ∧ ρ 8 = .int .i64 best_ ∧ ρ 11 = v_t_ ∧ ρ 12 = .int .i64 (t_.length : Int) ∧ ρ 13 = .int .i64 x ∧ Mb w b6_ 54 (Fraction.cells (⟨0, 0⟩ : Fraction)) ∧ RepSl Rate.R (gfr noG w0) w v_t_ t_ ∧ Ext noG w0 w ∧ w0.heap.size ≤ w.heap.size ∧ loopC k_ (money_Value_l t_ currency_ month_) (best_, x) = some r) FU ⟨(-1), 0, h0, h1, h2, h6, h8, h11, h12, h13, Hb_b6_, H_t_, hW, hsz, hF⟩ (fun _ _ h => by obtain ⟨_, _, _, _, _, _, _, _, _, _, _, _, _, _, h⟩ := h; cases h) ?_
  rintro k_ ρ4 w4 ⟨best_, x, h0, h1, h2, h6, h8, h11, h12, h13, Hb_b6_, H_t_, hW, hsz, hF⟩
  have hF : money_Value_l t_ currency_ month_ (loopC k_ (money_Value_l t_ currency_ month_)) (best_, x) = some r := hF
  generalize hrec_ : loopC k_ (money_Value_l t_ currency_ month_) = rec_ at hF
  rw [money_Value_l] at hF
  refine WP.seq ?_
  refine WP.rb mixed [[]] [[13, 12]] [(14, .bool (decide (x < (t_.length : Int))))] (by kernel_rfl) ⟨fun ρz wz hE hA ⟨e13, e12, _⟩ _ => core_val rfl rfl (o_lss (e13.trans h13) (e12.trans h12) rfl), trivial⟩ ?_
  intro ρ5 w5 hN hf hr
  have h14 : ρ5 14 = .bool (decide (x < (t_.length : Int))) := hf 0 rfl
  obtain ⟨h0, h1, h2, h6, h8, h11⟩ := k6 hr h0 h1 h2 h6 h8 h11 rfl
  obtain ⟨h12, h13⟩ := k2 hr h12 h13 rfl
  have Hb_b6_n := Hb_b6_.exn hN
  have H_t_ := H_t_.exn hN
  have hW := hW.trans hN
  have Hb_b6_ := Hb_b6_n
  have hsz := hW.size
  refine WP.seq ?_
  refine WP.cond rfl h14 (fun hb => ?_) (fun hb => ?_)
  · have hF := (if_pos hb).symm.trans hF
    refine WP.skip ?_
    refine WP.seqJ (fun ρ w => ∃ best_2 : Int, ρ 0 = v_t_ ∧ ρ 1 = .int .i64 currency_ ∧ ρ 2 = .int .i64 month_ ∧ ρ 6 = .pointer (some ⟨b6_, 0, none⟩) ∧ ρ 8 = .int .i64 best_2 ∧ ρ 11 = v_t_ ∧ ρ 12 = .int .i64 (t_.length : Int) ∧ ρ 13 = .int .i64 x ∧ Mb w b6_ 54 (Fraction.cells (⟨0, 0⟩ : Fraction)) ∧ RepSl Rate.R (gfr noG w0) w v_t_ t_ ∧ Ext noG w0 w ∧ w0.heap.size ≤ w.heap.size ∧ money_Value_j x rec_ best_2 = some r) ?_ ?_
    · refine WP.block ?_
      refine WP.seq ?_
      obtain ⟨y, hy, hF⟩ := obind hF
      obtain ⟨ay, cy, hvy, hiy, hAy⟩ := RepSl.getF H_t_ hy
      refine WP.region mixed [[], [], [1], [], [0], [2, 3]] [[], [], [1], [], [0], [2, 3]] [[13], [11, 13], [], [], [], []] [5] [(3, 5)] [val 15 (.int .i64 x), val 16 (.pointer (some (ay.add (Int.toNat x * 4)))), val 17 (Rate.val y), (10, fun u wz => ∃ b, u = .pointer (some ⟨b, 0, none⟩) ∧ w5.heap.size ≤ b ∧ Mb wz b 57 (Rate.cells (⟨0, 0, (⟨0, 0⟩ : Fraction)⟩ : Rate))), val 9 (.int .i64 x), (10, fun u wz => ∃ b, u = .pointer (some ⟨b, 0, none⟩) ∧ w5.heap.size ≤ b ∧ Mb wz b 57 (Rate.cells y))] (fun b => w5.heap.size ≤ b) (by kernel_rfl) ⟨sV, sV, sV, fun _ _ _ hE ⟨b, hb, hs, hM⟩ => ⟨b, hb, hs, hM.exn hE⟩, sV, fun _ _ _ hE ⟨b, hb, hs, hM⟩ => ⟨b, hb, hs, hM.exn hE⟩, trivial⟩ ⟨fun ρz wz hE hA ⟨e13, _⟩ _ => core_val rfl rfl (o_move (e13.trans h13)),
 fun ρz wz hE hA ⟨e11, e13, _⟩ _ => core_val rfl rfl (o_indexAddr ((e11.trans h11).trans hvy) (e13.trans h13) (ia_26 hiy)),
 fun ρz wz hE hA _ ⟨u1, _⟩ => core_val rfl rfl (o_load u1 (run_loadN (cs := (Rate.cells y)) (lr_57 _ _) rfl ((hAy.exn hE.fresh).ca))),
 fun ρz wz hE hA _ _ => core_new rfl rfl hE (o_alloc (al_57 _)),
 fun ρz wz hE hA _ ⟨u0, _⟩ => core_val rfl rfl (o_assign u0),
 fun ρz wz hE hA _ ⟨u2, u3, _⟩ => core_storeNew rfl rfl rfl rfl u2 u3 (fun a w => st_57 _ a w) rfl (one_57 _), trivial⟩ ?_
      intro ρ8 w8 hE hN hf hr
      have hN := hE.fresh
      obtain ⟨b10_, h10, hge_b10_, Hb_b10_⟩ := hf 5 rfl
      have h9 : ρ8 9 = .int .i64 x := hf 4 rfl
      obtain ⟨h0, h1, h2, h6, h8, h11⟩ := k6 hr h0 h1 h2 h6 h8 h11 rfl
      obtain ⟨h12, h13⟩ := k2 hr h12 h13 rfl
      have Hb_b6_n := Hb_b6_.exn hN
      have H_t_ := H_t_.exn hN
      have hW := hW.trans hN
      have Hb_b6_ := Hb_b6_n
      have hB_b10_ : w0.heap.size ≤ b10_ := Nat.le_trans hsz hge_b10_
      have hsz := hW.size
      refine WP.seq ?_
      obtain ⟨c2, hc2, hF⟩ := obind hF
      obtain ⟨c, hc, hc2⟩ := andB hc2
      obtain ⟨y2, hy2, hc⟩ := orBI hc
      obtain ⟨ay2, cy2, hvy2, hiy2, hAy2⟩ := RepSl.getFI H_t_ hy2
      have hc := orEI hc
      have hc2 := andE hc2
      refine WP.rb mixed [[], [0], [], [1, 2], [3], [4], [4, 5], [4], [4, 6, 7], [4, 8], [9], [10], [10, 11], [10, 12], [13], [13, 14], [13], [13], [13, 16, 17], [13, 18], [13, 19], [13, 15, 20], [10, 13, 21], [10, 22]] [[10], [], [1], [], [], [10], [], [2], [], [], [], [8], [], [], [10], [], [0], [8], [], [], [], [], [], []] [(18, .pointer (some ((⟨b10_, 0, none⟩ : Addr).add 0))), (19, .int .i64 y.Currency), (20, .int .i64 currency_), (21, .bool (y.Currency == currency_)), (22, .bool (y.Currency == currency_)), (23, gv ((y.Currency == currency_)) (.pointer (some ((⟨b10_, 0, none⟩ : Addr).add 1)))), (24, gv ((y.Currency == currency_)) (.int .i64 y.Month)), (25, gv ((y.Currency == currency_)) (.int .i64 month_)), (26, gv ((y.Currency == currency_)) (.bool (decide (y.Month ≤ month_)))), (27, .bool ((y.Currency == currency_) && decide (y.Month ≤ month_))), (28, .bool ((y.Currency == currency_) && decide (y.Month ≤ month_))), (29, gv (((y.Currency == currency_) && decide (y.Month ≤ month_))) (.int .i64 best_)), (30, gv (((y.Currency == currency_) && decide (y.Month ≤ month_))) (.bool (decide (best_ < 0)))), (31, gv (((y.Currency == currency_) && decide (y.Month ≤ month_))) (.bool (decide (best_ < 0)))), (32, gv ((((y.Currency == currency_) && decide (y.Month ≤ month_))) && !(decide (best_ < 0))) (.pointer (some ((⟨b10_, 0, none⟩ : Addr).add 1)))), (33, gv ((((y.Currency == currency_) && decide (y.Month ≤ month_))) && !(decide (best_ < 0))) (.int .i64 y.Month)), (34, gv ((((y.Currency == currency_) && decide (y.Month ≤ month_))) && !(decide (best_ < 0))) v_t_), (35, gv ((((y.Currency == currency_) && decide (y.Month ≤ month_))) && !(decide (best_ < 0))) (.int .i64 best_)), (36, gv ((((y.Currency == currency_) && decide (y.Month ≤ month_))) && !(decide (best_ < 0))) (.pointer (some (ay2.add (Int.toNat best_ * 4))))), (37, gv ((((y.Currency == currency_) && decide (y.Month ≤ month_))) && !(decide (best_ < 0))) (.pointer (some ((ay2.add (Int.toNat best_ * 4)).add 1)))), (38, gv ((((y.Currency == currency_) && decide (y.Month ≤ month_))) && !(decide (best_ < 0))) (.int .i64 y2.Month)), (39, gv ((((y.Currency == currency_) && decide (y.Month ≤ month_))) && !(decide (best_ < 0))) (.bool (decide (y2.Month < y.Month)))), (40, gv (((y.Currency == currency_) && decide (y.Month ≤ month_))) (.bool c)), (41, .bool c2)] (by kernel_rfl) ⟨fun ρz wz hE hA ⟨e10, _⟩ _ => core_val rfl rfl (o_fieldAddr (e10.trans h10) (fa_57_0 _ _)),
 fun ρz wz hE hA _ ⟨u0, _⟩ => core_val rfl rfl (o_load u0 (run_load1 (lr_3 _ _) (CA.sub ((Hb_b10_.exn (hA rfl)).ca) 0 1))),
 fun ρz wz hE hA ⟨e1, _⟩ _ => core_val rfl rfl (o_move (e1.trans h1)),
 fun ρz wz hE hA _ ⟨u1, u2, _⟩ => core_val rfl rfl (o_eql u1 u2 rfl),
 fun ρz wz hE hA _ ⟨u3, _⟩ => core_val rfl rfl (o_move u3),
 fun ρz wz hE hA ⟨e10, _⟩ ⟨u4, _⟩ => gIf rfl rfl (yT rfl u4) fun gc F hF => core_val rfl hF (o_fieldAddr (e10.trans h10) (fa_57_1 _ _)),
 fun ρz wz hE hA _ ⟨u4, u5, _⟩ => gIf rfl rfl (yT rfl u4) fun gc F hF => core_val rfl hF (o_load (gt gc u5) (run_load1 (lr_3 _ _) (CA.sub ((Hb_b10_.exn (hA rfl)).ca) 1 1))),
 fun ρz wz hE hA ⟨e2, _⟩ ⟨u4, _⟩ => gIf rfl rfl (yT rfl u4) fun gc F hF => core_val rfl hF (o_move (e2.trans h2)),
 fun ρz wz hE hA _ ⟨u4, u6, u7, _⟩ => gIf rfl rfl (yT rfl u4) fun gc F hF => core_val rfl hF (o_leq (gt gc u6) (gt gc u7) rfl),
 fun ρz wz hE hA _ ⟨u4, u8, _⟩ => core_val rfl rfl (o_pick_and u4 u8 rfl),
 fun ρz wz hE hA _ ⟨u9, _⟩ => core_val rfl rfl (o_move u9),
 fun ρz wz hE hA ⟨e8, _⟩ ⟨u10, _⟩ => gIf rfl rfl (yT rfl u10) fun gc F hF => core_val rfl hF (o_move (e8.trans h8)),
 fun ρz wz hE hA _ ⟨u10, u11, _⟩ => gIf rfl rfl (yT rfl u10) fun gc F hF => core_val rfl hF (o_lss (gt gc u11) rfl rfl),
 fun ρz wz hE hA _ ⟨u10, u12, _⟩ => gIf rfl rfl (yT rfl u10) fun gc F hF => core_val rfl hF (o_move (gt gc u12)),
 fun ρz wz hE hA ⟨e10, _⟩ ⟨u13, _⟩ => gIf rfl rfl (yFG rfl u13) fun gc F hF => core_val rfl hF (o_fieldAddr (e10.trans h10) (fa_57_1 _ _)),
 fun ρz wz hE hA _ ⟨u13, u14, _⟩ => gIf rfl rfl (yFG rfl u13) fun gc F hF => core_val rfl hF (o_load (gt gc u14) (run_load1 (lr_3 _ _) (CA.sub ((Hb_b10_.exn (hA rfl)).ca) 1 1))),
 fun ρz wz hE hA ⟨e0, _⟩ ⟨u13, _⟩ => gIf rfl rfl (yFG rfl u13) fun gc F hF => core_val rfl hF (o_move (e0.trans h0)),
 fun ρz wz hE hA ⟨e8, _⟩ ⟨u13, _⟩ => gIf rfl rfl (yFG rfl u13) fun gc F hF => core_val rfl hF (o_move (e8.trans h8)),
 fun ρz wz hE hA _ ⟨u13, u16, u17, _⟩ => gIf rfl rfl (yFG rfl u13) fun gc F hF => core_val rfl hF (o_indexAddr ((gt gc u16).trans (hvy2 gc)) (gt gc u17) (ia_26 (hiy2 gc))),
 fun ρz wz hE hA _ ⟨u13, u18, _⟩ => gIf rfl rfl (yFG rfl u13) fun gc F hF => core_val rfl hF (o_fieldAddr (gt gc u18) (fa_57_1 _ _)),
 fun ρz wz hE hA _ ⟨u13, u19, _⟩ => gIf rfl rfl (yFG rfl u13) fun gc F hF => core_val rfl hF (o_load (gt gc u19) (run_load1 (lr_3 _ _) (CA.sub (((hAy2 gc).exn (hA rfl)).ca) 1 1))),
 fun ρz wz hE hA _ ⟨u13, u15, u20, _⟩ => gIf rfl rfl (yFG rfl u13) fun gc F hF => core_val rfl hF (o_gtr (gt gc u15) (gt gc u20) rfl),
 fun ρz wz hE hA _ ⟨u10, u13, u21, _⟩ => gIf rfl rfl (yT rfl u10) fun gc F hF => core_valE rfl hF (congrArg Value.bool (hc gc)) (o_pick_or (gt gc u13) rfl (gr gc u21)),
 fun ρz wz hE hA _ ⟨u10, u22, _⟩ => core_valE rfl rfl (congrArg Value.bool hc2) (o_pick_and u10 u22 rfl), trivial⟩ ?_
      intro ρ9 w9 hN hf hr
      have h41 : ρ9 41 = .bool c2 := hf 23 rfl
      obtain ⟨h0, h1, h2, h6, h8, h11⟩ := k6 hr h0 h1 h2 h6 h8 h11 rfl
      obtain ⟨h12, h13, h9⟩ := k3 hr h12 h13 h9 rfl
      have Hb_b6_n := Hb_b6_.exn hN
      have H_t_ := H_t_.exn hN
      have hW := hW.trans hN
      have Hb_b6_ := Hb_b6_n
      have hsz := hW.size
      refine WP.cond rfl h41 (fun hb => ?_) (fun hb => ?_)
      · have hF := (if_pos hb).symm.trans hF
        refine WP.rb mixed [[], [0]] [[9], []] [(42, .int .i64 x), (8, .int .i64 x)] (by kernel_rfl) ⟨fun ρz wz hE hA ⟨e9, _⟩ _ => core_val rfl rfl (o_move (e9.trans h9)),
 fun ρz wz hE hA _ ⟨u0, _⟩ => core_val rfl rfl (o_assign u0), trivial⟩ ?_
        intro ρ10 w10 hN hf hr
        have h8 : ρ10 8 = .int .i64 x := hf 1 rfl
        obtain ⟨h0, h1, h2, h6, h11, h12⟩ := k6 hr h0 h1 h2 h6 h11 h12 rfl
        have h13 := (hr 13 rfl).trans h13
        have Hb_b6_n := Hb_b6_.exn hN
        have H_t_ := H_t_.exn hN
        have hW := hW.trans hN
        have Hb_b6_ := Hb_b6_n
        have hsz := hW.size
        exact ⟨x, h0, h1, h2, h6, h8, h11, h12, h13, Hb_b6_, H_t_, hW, hsz, hF⟩
      have hF := (if_neg (Bool.eq_false_iff.1 hb)).symm.trans hF
      refine WP.skip ?_
      exact ⟨best_, h0, h1, h2, h6, h8, h11, h12, h13, Hb_b6_, H_t_, hW, hsz, hF⟩
    rintro ρ6 w6 ⟨best_2, h0, h1, h2, h6, h8, h11, h12, h13, Hb_b6_, H_t_, hW, hsz, hF⟩
    rw [money_Value_j] at hF
    refine WP.rb mixed [[], [0]] [[13], []] [(43, .int .i64 (i64 (x + 1))), (13, .int .i64 (i64 (x + 1)))] (by kernel_rfl) ⟨fun ρz wz hE hA ⟨e13, _⟩ _ => core_val rfl rfl (o_add (e13.trans h13) rfl rfl),
 fun ρz wz hE hA _ ⟨u0, _⟩ => core_val rfl rfl (o_move u0), trivial⟩ ?_
    intro ρ7 w7 hN hf hr
    have h13 : ρ7 13 = .int .i64 (i64 (x + 1)) := hf 1 rfl
    obtain ⟨h0, h1, h2, h6, h8, h11⟩ := k6 hr h0 h1 h2 h6 h8 h11 rfl
    have h12 := (hr 12 rfl).trans h12
    have Hb_b6_n := Hb_b6_.exn hN
    have H_t_ := H_t_.exn hN
    have hW := hW.trans hN
    have Hb_b6_ := Hb_b6_n
    have hsz := hW.size
    exact ⟨best_2, i64 (x + 1), h0, h1, h2, h6, h8, h11, h12, h13, Hb_b6_, H_t_, hW, hsz, (by first | exact hF | (rw [hrec_]; exact hF))⟩
  have hF := (if_neg (Bool.eq_false_iff.1 hb)).symm.trans hF
  refine WP.exit ?_
  refine thenQ_exit ?_
  refine thenQ_exit ?_
  refine blockQ_hit ?_
  refine WP.seq ?_
  refine WP.seq ?_
  refine WP.rb mixed [[], [0]] [[8], []] [(44, .int .i64 best_), (45, .bool (decide (best_ < 0)))] (by kernel_rfl) ⟨fun ρz wz hE hA ⟨e8, _⟩ _ => core_val rfl rfl (o_move (e8.trans h8)),
 fun ρz wz hE hA _ ⟨u0, _⟩ => core_val rfl rfl (o_lss u0 rfl rfl), trivial⟩ ?_
  intro ρ11 w11 hN hf hr
  have h45 : ρ11 45 = .bool (decide (best_ < 0)) := hf 1 rfl
  obtain ⟨h0, h6, h8⟩ := k3 hr h0 h6 h8 rfl
  have Hb_b6_n := Hb_b6_.exn hN
  have H_t_ := H_t_.exn hN
  have hW := hW.trans hN
  have Hb_b6_ := Hb_b6_n
  have hsz := hW.size
  refine WP.cond rfl h45 (fun hb => ?_) (fun hb => ?_)
  · have hF := (if_pos hb).symm.trans hF
    refine WP.seq ?_
    refine WP.region mixed [[], [0], [1]] [[], [0], []] [[], [6], []] [1] [] [val 46 (Fraction.val (⟨0, 0⟩ : Fraction)), (6, fun _ wz => Mb wz b6_ 54 (Fraction.cells (⟨0, 0⟩ : Fraction))), val 7 (.bool false)] (fun x => x = b6_) (by kernel_rfl) ⟨sV, fun _ _ _ hE hM => hM.exn hE, sV, trivial⟩ ⟨fun ρz wz hE hA _ _ => core_val rfl rfl (o_build (by simp) (bd_54_  _)),
 fun ρz wz hE hA ⟨e6, _⟩ ⟨u0, _⟩ => core_storeBox rfl rfl (fun _ h => h) (e6.trans h6) u0 (Hb_b6_.exn (hA rfl)) (fun a w => st_54 _ a w) rfl (one_54 _),
 fun ρz wz hE hA _ _ => core_val rfl rfl (o_assign rfl), trivial⟩ ?_
    intro ρ12 w12 hE hN hf hr
    have h7 : ρ12 7 = .bool false := hf 2 rfl
    have h6 := (hr 6 rfl).trans h6
    have Hb_b6_n := hf 1 rfl
    have hW := Ext.own hW hE (fun x h => h.symm ▸ hB_b6_)
    have Hb_b6_ := Hb_b6_n
    have hsz := hW.size
    refine WP.ret ?_
    show retQ Tryd.prog 52 Tryd.f52 (fun v w1 => v = .tuple #[Fraction.val r.1, .bool r.2] ∧ Ext noG w0 w1) .ret ρ12 w12
    obtain rfl := Option.some.inj hF
    exact resC1 rfl (by decide) (by decide) h6 (run_loadN (cs := (Fraction.cells (⟨0, 0⟩ : Fraction))) (lr_54 _ _) rfl Hb_b6_.ca) h7 ⟨rfl, hW⟩
  have hF := (if_neg (Bool.eq_false_iff.1 hb)).symm.trans hF
  refine WP.skip ?_
  refine WP.seq ?_
  obtain ⟨y3, hy3, hF⟩ := obind hF
  obtain ⟨ay3, cy3, hvy3, hiy3, hAy3⟩ := RepSl.getF H_t_ hy3
  refine WP.region mixed [[], [], [0, 1], [2], [3], [4], [5]] [[], [], [0, 1], [2], [3], [4], []] [[0], [8], [], [], [], [6], []] [5] [] [val 47 (v_t_), val 48 (.int .i64 best_), val 49 (.pointer (some (ay3.add (Int.toNat best_ * 4)))), val 50 (.pointer (some ((ay3.add (Int.toNat best_ * 4)).add 2))), val 51 (Fraction.val y3.Value), (6, fun _ wz => Mb wz b6_ 54 (Fraction.cells y3.Value)), val 7 (.bool true)] (fun x => x = b6_) (by kernel_rfl) ⟨sV, sV, sV, sV, sV, fun _ _ _ hE hM => hM.exn hE, sV, trivial⟩ ⟨fun ρz wz hE hA ⟨e0, _⟩ _ => core_val rfl rfl (o_move (e0.trans h0)),
 fun ρz wz hE hA ⟨e8, _⟩ _ => core_val rfl rfl (o_move (e8.trans h8)),
 fun ρz wz hE hA _ ⟨u0, u1, _⟩ => core_val rfl rfl (o_indexAddr (u0.trans hvy3) u1 (ia_26 hiy3)),
 fun ρz wz hE hA _ ⟨u2, _⟩ => core_val rfl rfl (o_fieldAddr u2 (fa_57_2 _ _)),
 fun ρz wz hE hA _ ⟨u3, _⟩ => core_val rfl rfl (o_load u3 (run_loadN (cs := (Fraction.cells y3.Value)) (lr_54 _ _) rfl (CA.sub ((hAy3.exn (hA rfl)).ca) 2 2))),
 fun ρz wz hE hA ⟨e6, _⟩ ⟨u4, _⟩ => core_storeBox rfl rfl (fun _ h => h) (e6.trans h6) u4 (Hb_b6_.exn (hA rfl)) (fun a w => st_54 _ a w) rfl (one_54 _),
 fun ρz wz hE hA _ _ => core_val rfl rfl (o_assign rfl), trivial⟩ ?_
  intro ρ13 w13 hE hN hf hr
  have h7 : ρ13 7 = .bool true := hf 6 rfl
  have h6 := (hr 6 rfl).trans h6
  have Hb_b6_n := hf 5 rfl
  have hW := Ext.own hW hE (fun x h => h.symm ▸ hB_b6_)
  have Hb_b6_ := Hb_b6_n
  have hsz := hW.size
  refine WP.ret ?_
  show retQ Tryd.prog 52 Tryd.f52 (fun v w1 => v = .tuple #[Fraction.val r.1, .bool r.2] ∧ Ext noG w0 w1) .ret ρ13 w13
  obtain rfl := Option.some.inj hF
  exact resC1 rfl (by decide) (by decide) h6 (run_loadN (cs := (Fraction.cells y3.Value)) (lr_54 _ _) rfl Hb_b6_.ca) h7 ⟨rfl, hW⟩

set_option maxHeartbeats 4000000 in
theorem pensionref1_Convert_ok {w0 : World} (d_ : Int) (i_ : Int) (p_ : Int) (p_2 : Int) (p_3 : List Rate) (p_4 : Rounding) {v_p_3 : Value} (H_p_3 : RepSl Rate.R noG w0 v_p_3 p_3) {r : Int × Int} (hF : pensionref1_Convert d_ i_ p_ p_2 p_3 p_4 = some r) :
    Calls Tryd.prog 39 #[.int .i64 d_, .int .i64 i_, .int .i64 p_, .int .i64 p_2, v_p_3, Rounding.val p_4] w0 fun e w1 => e = .returned (.tuple #[.int .i64 r.1, .int .i64 r.2]) ∧ Ext noG w0 w1 := by
  refine (Calls.start (P := Tryd.prog) (args := [.int .i64 d_, .int .i64 i_, .int .i64 p_, .int .i64 p_2, v_p_3, Rounding.val p_4]) (R := fun v w1 => v = .tuple #[.int .i64 r.1, .int .i64 r.2] ∧ Ext noG w0 w1) (n := 101) (w := w0) Tryd.func39 rfl rfl (Nat.le_of_ble_eq_true rfl) (fun ρ hargs => ?_)).mono (fun e w1 ⟨v, he, hv, hE⟩ => ⟨hv ▸ he, hE⟩)
  have h0 := hargs 0 _ rfl
  have h1 := hargs 1 _ rfl
  have h2 := hargs 2 _ rfl
  have h3 := hargs 3 _ rfl
  have h4 := hargs 4 _ rfl
  have h5 := hargs 5 _ rfl
  have hW := Ext.refl noG w0
  have hsz := Nat.le_refl w0.heap.size
  obtain ⟨_, _, hs_H_p_3, _, _⟩ := RepSl.shape H_p_3
  have H_p_3 := H_p_3.start
  rw [pensionref1_Convert] at hF
  refine WP.seq ?_
  refine WP.rg mixed [[], [], []] [[], [], []] [[5], [], []] [(11, fun u wz => ∃ b, u = .pointer (some ⟨b, 0, none⟩) ∧ w0.heap.size ≤ b ∧ Mb wz b 72 (Rounding.cells p_4)), val 12 (.int .i64 0), val 13 (.int .i64 0)] (by kernel_rfl) ⟨fun _ _ _ hE ⟨b, hb, hs, hM⟩ => ⟨b, hb, hs, hM.exn hE⟩, sV, sV, trivial⟩ ⟨fun ρz wz hE hA ⟨e5, _⟩ _ => core_new rfl rfl hE (o_box (e5.trans h5) (bx_72 _ _)),
 fun ρz wz hE hA _ _ => core_val rfl rfl (o_assign rfl),
 fun ρz wz hE hA _ _ => core_val rfl rfl (o_assign rfl), trivial⟩ ?_
  intro ρ1 w1 hN hf hr
  obtain ⟨b11_, h11, hge_b11_, Hb_b11_⟩ := hf 0 rfl
  obtain ⟨h0, h1, h2, h3, h4⟩ := k5 hr h0 h1 h2 h3 h4 rfl
  have H_p_3 := H_p_3.exn hN
  have hW := hW.trans hN
  have hB_b11_ : w0.heap.size ≤ b11_ := Nat.le_trans hsz hge_b11_
  have hsz := hW.size
  refine WP.seq ?_
  refine WP.seq ?_
  obtain ⟨z, hz, hF⟩ := obind hF
  obtain ⟨c, hc, hF⟩ := obind hF
  obtain ⟨z2, hz2, hc⟩ := orB hc
  have hc := orE hc
  obtain ⟨c2, hc2, hF⟩ := obind hF
  obtain ⟨z3, hz3, hc2⟩ := orB hc2
  have hc2 := orE hc2
  obtain ⟨c3, hc3, hF⟩ := obind hF
  obtain ⟨z4, hz4, hc3⟩ := orB hc3
  have hc3 := orE hc3
  obtain ⟨c4, hc4, hF⟩ := obind hF
  obtain ⟨z5, hz5, hc4⟩ := orB hc4
  have hc4 := orE hc4
  obtain ⟨c5, hc5, hF⟩ := obind hF
  obtain ⟨z6, hz6, hc5⟩ := orB hc5
  have hc5 := orE hc5
  refine WP.rb mixed [[], [0], [1], [2], [3], [3, 4], [3, 5], [3, 6], [7], [8], [8, 9], [8, 10], [8, 11], [12], [13], [13, 14], [13, 15], [13, 16], [17], [18], [18, 19], [18, 20], [18, 21], [22], [23], [23, 24], [23, 25], [23, 26]] [[0], [], [], [], [1], [], [], [], [], [2], [], [], [], [], [3], [], [], [], [], [11], [], [], [], [], [4], [], [], []] [(18, .int .i64 d_), (19, .bool z), (20, .bool (!z)), (21, .bool (!z)), (22, gv (!(!z)) (.int .i64 i_)), (23, gv (!(!z)) (.bool z2)), (24, gv (!(!z)) (.bool (!z2))), (25, .bool c), (26, .bool c), (27, gv (!c) (.int .i64 p_)), (28, gv (!c) (.bool z3)), (29, gv (!c) (.bool (!z3))), (30, .bool c2), (31, .bool c2), (32, gv (!c2) (.int .i64 p_2)), (33, gv (!c2) (.bool z4)), (34, gv (!c2) (.bool (!z4))), (35, .bool c3), (36, .bool c3), (37, gv (!c3) (Rounding.val p_4)), (38, gv (!c3) (.bool z5)), (39, gv (!c3) (.bool (!z5))), (40, .bool c4), (41, .bool c4), (42, gv (!c4) v_p_3), (43, gv (!c4) (.int .i64 z6)), (44, gv (!c4) (.bool (z6 != 0))), (45, .bool c5)] (by kernel_rfl) ⟨fun ρz wz hE hA ⟨e0, _⟩ _ => core_val rfl rfl (o_move (e0.trans h0)),
 fun ρz wz hE hA _ ⟨u0, _⟩ => core_call rfl (call_args1 u0) cf_60 (pensionref1_ValidAmount_ok  _  hz),
 fun ρz wz hE hA _ ⟨u1, _⟩ => core_val rfl rfl (o_not u1 rfl),
 fun ρz wz hE hA _ ⟨u2, _⟩ => core_val rfl rfl (o_move u2),
 fun ρz wz hE hA ⟨e1, _⟩ ⟨u3, _⟩ => gIf rfl rfl (yF rfl u3) fun gc F hF => core_val rfl hF (o_move (e1.trans h1)),
 fun ρz wz hE hA _ ⟨u3, u4, _⟩ => gIf rfl rfl (yF rfl u3) fun gc F hF => core_call hF (call_args1 (gt gc u4)) cf_61 (pensionref1_validCurrency_ok  _  (hz2 gc)),
 fun ρz wz hE hA _ ⟨u3, u5, _⟩ => gIf rfl rfl (yF rfl u3) fun gc F hF => core_val rfl hF (o_not (gt gc u5) rfl),
 fun ρz wz hE hA _ ⟨u3, u6, _⟩ => core_valE rfl rfl (congrArg Value.bool hc) (o_pick_or u3 rfl u6),
 fun ρz wz hE hA _ ⟨u7, _⟩ => core_val rfl rfl (o_move u7),
 fun ρz wz hE hA ⟨e2, _⟩ ⟨u8, _⟩ => gIf rfl rfl (yF rfl u8) fun gc F hF => core_val rfl hF (o_move (e2.trans h2)),
 fun ρz wz hE hA _ ⟨u8, u9, _⟩ => gIf rfl rfl (yF rfl u8) fun gc F hF => core_call hF (call_args1 (gt gc u9)) cf_61 (pensionref1_validCurrency_ok  _  (hz3 gc)),
 fun ρz wz hE hA _ ⟨u8, u10, _⟩ => gIf rfl rfl (yF rfl u8) fun gc F hF => core_val rfl hF (o_not (gt gc u10) rfl),
 fun ρz wz hE hA _ ⟨u8, u11, _⟩ => core_valE rfl rfl (congrArg Value.bool hc2) (o_pick_or u8 rfl u11),
 fun ρz wz hE hA _ ⟨u12, _⟩ => core_val rfl rfl (o_move u12),
 fun ρz wz hE hA ⟨e3, _⟩ ⟨u13, _⟩ => gIf rfl rfl (yF rfl u13) fun gc F hF => core_val rfl hF (o_move (e3.trans h3)),
 fun ρz wz hE hA _ ⟨u13, u14, _⟩ => gIf rfl rfl (yF rfl u13) fun gc F hF => core_call hF (call_args1 (gt gc u14)) cf_19 (pensionref1_ValidMonth_ok  _  (hz4 gc)),
 fun ρz wz hE hA _ ⟨u13, u15, _⟩ => gIf rfl rfl (yF rfl u13) fun gc F hF => core_val rfl hF (o_not (gt gc u15) rfl),
 fun ρz wz hE hA _ ⟨u13, u16, _⟩ => core_valE rfl rfl (congrArg Value.bool hc3) (o_pick_or u13 rfl u16),
 fun ρz wz hE hA _ ⟨u17, _⟩ => core_val rfl rfl (o_move u17),
 fun ρz wz hE hA ⟨e11, _⟩ ⟨u18, _⟩ => gIf rfl rfl (yF rfl u18) fun gc F hF => core_val rfl hF (o_load (e11.trans h11) (run_loadN (cs := (Rounding.cells p_4)) (lr_72 _ _) rfl ((Hb_b11_.exn (hA rfl)).ca))),
 fun ρz wz hE hA _ ⟨u18, u19, _⟩ => gIf rfl rfl (yF rfl u18) fun gc F hF => core_call hF (call_args1 (gt gc u19)) cf_62 (pensionref1_ValidRounding_ok  _  (hz5 gc)),
 fun ρz wz hE hA _ ⟨u18, u20, _⟩ => gIf rfl rfl (yF rfl u18) fun gc F hF => core_val rfl hF (o_not (gt gc u20) rfl),
 fun ρz wz hE hA _ ⟨u18, u21, _⟩ => core_valE rfl rfl (congrArg Value.bool hc4) (o_pick_or u18 rfl u21),
 fun ρz wz hE hA _ ⟨u22, _⟩ => core_val rfl rfl (o_move u22),
 fun ρz wz hE hA ⟨e4, _⟩ ⟨u23, _⟩ => gIf rfl rfl (yF rfl u23) fun gc F hF => core_val rfl hF (o_move (e4.trans h4)),
 fun ρz wz hE hA _ ⟨u23, u24, _⟩ => gIf rfl rfl (yF rfl u23) fun gc F hF => core_call hF (call_args1 (gt gc u24)) cf_20 (pensionref1_CheckRates_ok  _ (H_p_3.exn (hA rfl)).no (hz6 gc)),
 fun ρz wz hE hA _ ⟨u23, u25, _⟩ => gIf rfl rfl (yF rfl u23) fun gc F hF => core_val rfl hF (o_neq (gt gc u25) rfl rfl),
 fun ρz wz hE hA _ ⟨u23, u26, _⟩ => core_valE rfl rfl (congrArg Value.bool hc5) (o_pick_or u23 rfl u26), trivial⟩ ?_
  intro ρ2 w2 hN hf hr
  have h45 : ρ2 45 = .bool c5 := hf 27 rfl
  obtain ⟨h0, h1, h2, h3, h4, h11⟩ := k6 hr h0 h1 h2 h3 h4 h11 rfl
  have Hb_b11_n := Hb_b11_.exn hN
  have H_p_3 := H_p_3.exn hN
  have hW := hW.trans hN
  have Hb_b11_ := Hb_b11_n
  have hsz := hW.size
  refine WP.cond rfl h45 (fun hb => ?_) (fun hb => ?_)
  · have hF := (if_pos hb).symm.trans hF
    refine WP.seq ?_
    refine WP.rb mixed [[], []] [[], []] [(12, .int .i64 0), (13, .int .i64 1)] (by kernel_rfl) ⟨fun ρz wz hE hA _ _ => core_val rfl rfl (o_assign rfl),
 fun ρz wz hE hA _ _ => core_val rfl rfl (o_assign rfl), trivial⟩ ?_
    intro ρ3 w3 hN hf hr
    have h12 : ρ3 12 = .int .i64 0 := hf 0 rfl
    have h13 : ρ3 13 = .int .i64 1 := hf 1 rfl
    have hW := hW.trans hN
    have hsz := hW.size
    refine WP.ret ?_
    show retQ Tryd.prog 101 Tryd.f39 (fun v w1 => v = .tuple #[.int .i64 r.1, .int .i64 r.2] ∧ Ext noG w0 w1) .ret ρ3 w3
    obtain rfl := Option.some.inj hF
    exact res2 rfl (by decide) (by decide) h12 h13 ⟨rfl, hW⟩
  have hF := (if_neg (Bool.eq_false_iff.1 hb)).symm.trans hF
  refine WP.skip ?_
  refine WP.seq ?_
  refine WP.seq ?_
  refine WP.rb mixed [[], [], [0, 1]] [[1], [2], []] [(46, .int .i64 i_), (47, .int .i64 p_), (48, .bool (i_ == p_))] (by kernel_rfl) ⟨fun ρz wz hE hA ⟨e1, _⟩ _ => core_val rfl rfl (o_move (e1.trans h1)),
 fun ρz wz hE hA ⟨e2, _⟩ _ => core_val rfl rfl (o_move (e2.trans h2)),
 fun ρz wz hE hA _ ⟨u0, u1, _⟩ => core_val rfl rfl (o_eql u0 u1 rfl), trivial⟩ ?_
  intro ρ4 w4 hN hf hr
  have h48 : ρ4 48 = .bool (i_ == p_) := hf 2 rfl
  obtain ⟨h0, h1, h2, h3, h4, h11⟩ := k6 hr h0 h1 h2 h3 h4 h11 rfl
  have Hb_b11_n := Hb_b11_.exn hN
  have H_p_3 := H_p_3.exn hN
  have hW := hW.trans hN
  have Hb_b11_ := Hb_b11_n
  have hsz := hW.size
  refine WP.cond rfl h48 (fun hb => ?_) (fun hb => ?_)
  · have hF := (if_pos hb).symm.trans hF
    refine WP.seq ?_
    obtain ⟨z7, hz7, hF⟩ := obind hF
    obtain ⟨z8, hz8, hF⟩ := obind hF
    refine WP.rb mixed [[], [0], [], [2], [3], [], [1, 4, 5], [6], [6], [7], [8]] [[0], [], [0], [], [], [11], [], [], [], [], []] [(49, .int .i64 d_), (50, .bool (decide (d_ < 0))), (51, .int .i64 d_), (52, .int .u64 z7), (53, pensionref1_wide.val (⟨0, z7⟩ : pensionref1_wide)), (54, Rounding.val p_4), (55, .tuple #[.int .i64 z8.1, .int .i64 z8.2]), (56, .int .i64 z8.1), (57, .int .i64 z8.2), (12, .int .i64 z8.1), (13, .int .i64 z8.2)] (by kernel_rfl) ⟨fun ρz wz hE hA ⟨e0, _⟩ _ => core_val rfl rfl (o_move (e0.trans h0)),
 fun ρz wz hE hA _ ⟨u0, _⟩ => core_val rfl rfl (o_lss u0 rfl rfl),
 fun ρz wz hE hA ⟨e0, _⟩ _ => core_val rfl rfl (o_move (e0.trans h0)),
 fun ρz wz hE hA _ ⟨u2, _⟩ => core_call rfl (call_args1 u2) cf_55 (pensionref1_size_ok  _  hz7),
 fun ρz wz hE hA _ ⟨u3, _⟩ => core_val rfl rfl (o_build (build_parts2 rfl u3) (bd_91_0_1 _ _ _)),
 fun ρz wz hE hA ⟨e11, _⟩ _ => core_val rfl rfl (o_load (e11.trans h11) (run_loadN (cs := (Rounding.cells p_4)) (lr_72 _ _) rfl ((Hb_b11_.exn (hA rfl)).ca))),
 fun ρz wz hE hA _ ⟨u1, u4, u5, _⟩ => core_call rfl (call_args4 u1 u4 rfl u5) cf_63 (pensionref1_rounded_ok  _ _ _ _  hz8),
 fun ρz wz hE hA _ ⟨u6, _⟩ => core_val rfl rfl (o_extract u6 (by kernel_rfl)),
 fun ρz wz hE hA _ ⟨u6, _⟩ => core_val rfl rfl (o_extract u6 (by kernel_rfl)),
 fun ρz wz hE hA _ ⟨u7, _⟩ => core_val rfl rfl (o_assign u7),
 fun ρz wz hE hA _ ⟨u8, _⟩ => core_val rfl rfl (o_assign u8), trivial⟩ ?_
    intro ρ5 w5 hN hf hr
    have h12 : ρ5 12 = .int .i64 z8.1 := hf 9 rfl
    have h13 : ρ5 13 = .int .i64 z8.2 := hf 10 rfl
    have hW := hW.trans hN
    have hsz := hW.size
    refine WP.ret ?_
    show retQ Tryd.prog 101 Tryd.f39 (fun v w1 => v = .tuple #[.int .i64 r.1, .int .i64 r.2] ∧ Ext noG w0 w1) .ret ρ5 w5
    obtain rfl := Option.some.inj hF
    exact res2 rfl (by decide) (by decide) h12 h13 ⟨rfl, hW⟩
  have hF := (if_neg (Bool.eq_false_iff.1 hb)).symm.trans hF
  refine WP.skip ?_
  refine WP.seq ?_
  obtain ⟨z9, hz9, hF⟩ := obind hF
  refine WP.region mixed [[], [], [], [0, 1, 2], [3], [4], [4], [], [5, 7], [6, 8]] [[], [], [], [0, 1, 2], [3], [4], [4], [], [5, 7], [6]] [[4], [1], [3], [], [], [], [], [], [], []] [8] [(7, 8)] [val 59 (v_p_3), val 60 (.int .i64 i_), val 61 (.int .i64 p_2), val 62 (.tuple #[Fraction.val z9.1, .bool z9.2]), val 58 (.tuple #[Fraction.val z9.1, .bool z9.2]), val 63 (Fraction.val z9.1), val 64 (.bool z9.2), (14, fun u wz => ∃ b, u = .pointer (some ⟨b, 0, none⟩) ∧ w4.heap.size ≤ b ∧ Mb wz b 54 (Fraction.cells (⟨0, 0⟩ : Fraction))), (14, fun u wz => ∃ b, u = .pointer (some ⟨b, 0, none⟩) ∧ w4.heap.size ≤ b ∧ Mb wz b 54 (Fraction.cells z9.1)), val 15 (.bool z9.2)] (fun b => w4.heap.size ≤ b) (by kernel_rfl) ⟨sV, sV, sV, sV, sV, sV, sV, fun _ _ _ hE ⟨b, hb, hs, hM⟩ => ⟨b, hb, hs, hM.exn hE⟩, fun _ _ _ hE ⟨b, hb, hs, hM⟩ => ⟨b, hb, hs, hM.exn hE⟩, sV, trivial⟩ ⟨fun ρz wz hE hA ⟨e4, _⟩ _ => core_val rfl rfl (o_move (e4.trans h4)),
 fun ρz wz hE hA ⟨e1, _⟩ _ => core_val rfl rfl (o_move (e1.trans h1)),
 fun ρz wz hE hA ⟨e3, _⟩ _ => core_val rfl rfl (o_move (e3.trans h3)),
 fun ρz wz hE hA _ ⟨u0, u1, u2, _⟩ => core_call rfl (call_args3 u0 u1 u2) cf_64 (pensionref1_RateAt_ok  _ _ _ (H_p_3.exn hE.fresh).no hz9),
 fun ρz wz hE hA _ ⟨u3, _⟩ => core_val rfl rfl (o_move u3),
 fun ρz wz hE hA _ ⟨u4, _⟩ => core_val rfl rfl (o_extract u4 (by kernel_rfl)),
 fun ρz wz hE hA _ ⟨u4, _⟩ => core_val rfl rfl (o_extract u4 (by kernel_rfl)),
 fun ρz wz hE hA _ _ => core_new rfl rfl hE (o_alloc (al_54 _)),
 fun ρz wz hE hA _ ⟨u5, u7, _⟩ => core_storeNew rfl rfl rfl rfl u5 u7 (fun a w => st_54 _ a w) rfl (one_54 _),
 fun ρz wz hE hA _ ⟨u6, _⟩ => core_val rfl rfl (o_assign u6), trivial⟩ ?_
  intro ρ6 w6 hE hN hf hr
  have hN := hE.fresh
  obtain ⟨b14_, h14, hge_b14_, Hb_b14_⟩ := hf 8 rfl
  have h15 : ρ6 15 = .bool z9.2 := hf 9 rfl
  obtain ⟨h0, h2, h3, h4, h11⟩ := k5 hr h0 h2 h3 h4 h11 rfl
  have Hb_b11_n := Hb_b11_.exn hN
  have H_p_3 := H_p_3.exn hN
  have hW := hW.trans hN
  have Hb_b11_ := Hb_b11_n
  have hB_b14_ : w0.heap.size ≤ b14_ := Nat.le_trans hsz hge_b14_
  have hsz := hW.size
  refine WP.seq ?_
  obtain ⟨z10, hz10, hF⟩ := obind hF
  refine WP.region mixed [[], [], [], [0, 1, 2], [3], [4], [4], [], [5, 7], [6, 8]] [[], [], [], [0, 1, 2], [3], [4], [4], [], [5, 7], [6]] [[4], [2], [3], [], [], [], [], [], [], []] [8] [(7, 8)] [val 66 (v_p_3), val 67 (.int .i64 p_), val 68 (.int .i64 p_2), val 69 (.tuple #[Fraction.val z10.1, .bool z10.2]), val 65 (.tuple #[Fraction.val z10.1, .bool z10.2]), val 70 (Fraction.val z10.1), val 71 (.bool z10.2), (16, fun u wz => ∃ b, u = .pointer (some ⟨b, 0, none⟩) ∧ w6.heap.size ≤ b ∧ Mb wz b 54 (Fraction.cells (⟨0, 0⟩ : Fraction))), (16, fun u wz => ∃ b, u = .pointer (some ⟨b, 0, none⟩) ∧ w6.heap.size ≤ b ∧ Mb wz b 54 (Fraction.cells z10.1)), val 17 (.bool z10.2)] (fun b => w6.heap.size ≤ b) (by kernel_rfl) ⟨sV, sV, sV, sV, sV, sV, sV, fun _ _ _ hE ⟨b, hb, hs, hM⟩ => ⟨b, hb, hs, hM.exn hE⟩, fun _ _ _ hE ⟨b, hb, hs, hM⟩ => ⟨b, hb, hs, hM.exn hE⟩, sV, trivial⟩ ⟨fun ρz wz hE hA ⟨e4, _⟩ _ => core_val rfl rfl (o_move (e4.trans h4)),
 fun ρz wz hE hA ⟨e2, _⟩ _ => core_val rfl rfl (o_move (e2.trans h2)),
 fun ρz wz hE hA ⟨e3, _⟩ _ => core_val rfl rfl (o_move (e3.trans h3)),
 fun ρz wz hE hA _ ⟨u0, u1, u2, _⟩ => core_call rfl (call_args3 u0 u1 u2) cf_64 (pensionref1_RateAt_ok  _ _ _ (H_p_3.exn hE.fresh).no hz10),
 fun ρz wz hE hA _ ⟨u3, _⟩ => core_val rfl rfl (o_move u3),
 fun ρz wz hE hA _ ⟨u4, _⟩ => core_val rfl rfl (o_extract u4 (by kernel_rfl)),
 fun ρz wz hE hA _ ⟨u4, _⟩ => core_val rfl rfl (o_extract u4 (by kernel_rfl)),
 fun ρz wz hE hA _ _ => core_new rfl rfl hE (o_alloc (al_54 _)),
 fun ρz wz hE hA _ ⟨u5, u7, _⟩ => core_storeNew rfl rfl rfl rfl u5 u7 (fun a w => st_54 _ a w) rfl (one_54 _),
 fun ρz wz hE hA _ ⟨u6, _⟩ => core_val rfl rfl (o_assign u6), trivial⟩ ?_
  intro ρ7 w7 hE hN hf hr
  have hN := hE.fresh
  obtain ⟨b16_, h16, hge_b16_, Hb_b16_⟩ := hf 8 rfl
  have h17 : ρ7 17 = .bool z10.2 := hf 9 rfl
  obtain ⟨h0, h11, h14, h15⟩ := k4 hr h0 h11 h14 h15 rfl
  have Hb_b11_n := Hb_b11_.exn hN
  have Hb_b14_n := Hb_b14_.exn hN
  have hW := hW.trans hN
  have Hb_b11_ := Hb_b11_n
  have Hb_b14_ := Hb_b14_n
  have hB_b16_ : w0.heap.size ≤ b16_ := Nat.le_trans hsz hge_b16_
  have hsz := hW.size
  refine WP.seq ?_
  refine WP.seq ?_
  refine WP.rb mixed [[], [0], [1], [2], [2, 3], [2, 4]] [[15], [], [], [17], [], []] [(72, .bool z9.2), (73, .bool (!z9.2)), (74, .bool (!z9.2)), (75, gv (!(!z9.2)) (.bool z10.2)), (76, gv (!(!z9.2)) (.bool (!z10.2))), (77, .bool ((!z9.2) || (!z10.2)))] (by kernel_rfl) ⟨fun ρz wz hE hA ⟨e15, _⟩ _ => core_val rfl rfl (o_move (e15.trans h15)),
 fun ρz wz hE hA _ ⟨u0, _⟩ => core_val rfl rfl (o_not u0 rfl),
 fun ρz wz hE hA _ ⟨u1, _⟩ => core_val rfl rfl (o_move u1),
 fun ρz wz hE hA ⟨e17, _⟩ ⟨u2, _⟩ => gIf rfl rfl (yF rfl u2) fun gc F hF => core_val rfl hF (o_move (e17.trans h17)),
 fun ρz wz hE hA _ ⟨u2, u3, _⟩ => gIf rfl rfl (yF rfl u2) fun gc F hF => core_val rfl hF (o_not (gt gc u3) rfl),
 fun ρz wz hE hA _ ⟨u2, u4, _⟩ => core_val rfl rfl (o_pick_or u2 rfl u4), trivial⟩ ?_
  intro ρ8 w8 hN hf hr
  have h77 : ρ8 77 = .bool ((!z9.2) || (!z10.2)) := hf 5 rfl
  obtain ⟨h0, h11, h14, h16⟩ := k4 hr h0 h11 h14 h16 rfl
  have Hb_b11_n := Hb_b11_.exn hN
  have Hb_b14_n := Hb_b14_.exn hN
  have Hb_b16_n := Hb_b16_.exn hN
  have hW := hW.trans hN
  have Hb_b11_ := Hb_b11_n
  have Hb_b14_ := Hb_b14_n
  have Hb_b16_ := Hb_b16_n
  have hsz := hW.size
  refine WP.cond rfl h77 (fun hb => ?_) (fun hb => ?_)
  · have hF := (if_pos hb).symm.trans hF
    refine WP.seq ?_
    refine WP.rb mixed [[], []] [[], []] [(12, .int .i64 0), (13, .int .i64 9)] (by kernel_rfl) ⟨fun ρz wz hE hA _ _ => core_val rfl rfl (o_assign rfl),
 fun ρz wz hE hA _ _ => core_val rfl rfl (o_assign rfl), trivial⟩ ?_
    intro ρ9 w9 hN hf hr
    have h12 : ρ9 12 = .int .i64 0 := hf 0 rfl
    have h13 : ρ9 13 = .int .i64 9 := hf 1 rfl
    have hW := hW.trans hN
    have hsz := hW.size
    refine WP.ret ?_
    show retQ Tryd.prog 101 Tryd.f39 (fun v w1 => v = .tuple #[.int .i64 r.1, .int .i64 r.2] ∧ Ext noG w0 w1) .ret ρ9 w9
    obtain rfl := Option.some.inj hF
    exact res2 rfl (by decide) (by decide) h12 h13 ⟨rfl, hW⟩
  have hF := (if_neg (Bool.eq_false_iff.1 hb)).symm.trans hF
  refine WP.skip ?_
  refine WP.seq ?_
  obtain ⟨z11, hz11, hF⟩ := obind hF
  obtain ⟨z12, hz12, hF⟩ := obind hF
  obtain ⟨z13, hz13, hF⟩ := obind hF
  refine WP.rb mixed [[], [0], [], [2], [], [4], [5], [], [7], [8], [6, 9], [3, 10], [], [12], [13], [], [15], [16], [14, 17], [], [1, 11, 18, 19], [20], [20], [21], [22]] [[0], [], [0], [], [14], [], [], [16], [], [], [], [], [14], [], [], [16], [], [], [], [11], [], [], [], [], []] [(78, .int .i64 d_), (79, .bool (decide (d_ < 0))), (80, .int .i64 d_), (81, .int .u64 z11), (82, .pointer (some ((⟨b14_, 0, none⟩ : Addr).add 0))), (83, .int .i64 z9.1.Num), (84, .int .u64 (u64 z9.1.Num)), (85, .pointer (some ((⟨b16_, 0, none⟩ : Addr).add 1))), (86, .int .i64 z10.1.Den), (87, .int .u64 (u64 z10.1.Den)), (88, .int .u64 (u64 (u64 z9.1.Num * (u64 z10.1.Den)))), (89, pensionref1_wide.val z12), (90, .pointer (some ((⟨b14_, 0, none⟩ : Addr).add 1))), (91, .int .i64 z9.1.Den), (92, .int .u64 (u64 z9.1.Den)), (93, .pointer (some ((⟨b16_, 0, none⟩ : Addr).add 0))), (94, .int .i64 z10.1.Num), (95, .int .u64 (u64 z10.1.Num)), (96, .int .u64 (u64 (u64 z9.1.Den * (u64 z10.1.Num)))), (97, Rounding.val p_4), (98, .tuple #[.int .i64 z13.1, .int .i64 z13.2]), (99, .int .i64 z13.1), (100, .int .i64 z13.2), (12, .int .i64 z13.1), (13, .int .i64 z13.2)] (by kernel_rfl) ⟨fun ρz wz hE hA ⟨e0, _⟩ _ => core_val rfl rfl (o_move (e0.trans h0)),
 fun ρz wz hE hA _ ⟨u0, _⟩ => core_val rfl rfl (o_lss u0 rfl rfl),
 fun ρz wz hE hA ⟨e0, _⟩ _ => core_val rfl rfl (o_move (e0.trans h0)),
 fun ρz wz hE hA _ ⟨u2, _⟩ => core_call rfl (call_args1 u2) cf_55 (pensionref1_size_ok  _  hz11),
 fun ρz wz hE hA ⟨e14, _⟩ _ => core_val rfl rfl (o_fieldAddr (e14.trans h14) (fa_54_0 _ _)),
 fun ρz wz hE hA _ ⟨u4, _⟩ => core_val rfl rfl (o_load u4 (run_load1 (lr_3 _ _) (CA.sub ((Hb_b14_.exn (hA rfl)).ca) 0 1))),
 fun ρz wz hE hA _ ⟨u5, _⟩ => core_val rfl rfl (o_conv u5 (cv_3_62 _ _)),
 fun ρz wz hE hA ⟨e16, _⟩ _ => core_val rfl rfl (o_fieldAddr (e16.trans h16) (fa_54_1 _ _)),
 fun ρz wz hE hA _ ⟨u7, _⟩ => core_val rfl rfl (o_load u7 (run_load1 (lr_3 _ _) (CA.sub ((Hb_b16_.exn (hA rfl)).ca) 1 1))),
 fun ρz wz hE hA _ ⟨u8, _⟩ => core_val rfl rfl (o_conv u8 (cv_3_62 _ _)),
 fun ρz wz hE hA _ ⟨u6, u9, _⟩ => core_val rfl rfl (o_mul u6 u9 rfl),
 fun ρz wz hE hA _ ⟨u3, u10, _⟩ => core_call rfl (call_args2 u3 u10) cf_65 (pensionref1_times_ok  _ _  hz12),
 fun ρz wz hE hA ⟨e14, _⟩ _ => core_val rfl rfl (o_fieldAddr (e14.trans h14) (fa_54_1 _ _)),
 fun ρz wz hE hA _ ⟨u12, _⟩ => core_val rfl rfl (o_load u12 (run_load1 (lr_3 _ _) (CA.sub ((Hb_b14_.exn (hA rfl)).ca) 1 1))),
 fun ρz wz hE hA _ ⟨u13, _⟩ => core_val rfl rfl (o_conv u13 (cv_3_62 _ _)),
 fun ρz wz hE hA ⟨e16, _⟩ _ => core_val rfl rfl (o_fieldAddr (e16.trans h16) (fa_54_0 _ _)),
 fun ρz wz hE hA _ ⟨u15, _⟩ => core_val rfl rfl (o_load u15 (run_load1 (lr_3 _ _) (CA.sub ((Hb_b16_.exn (hA rfl)).ca) 0 1))),
 fun ρz wz hE hA _ ⟨u16, _⟩ => core_val rfl rfl (o_conv u16 (cv_3_62 _ _)),
 fun ρz wz hE hA _ ⟨u14, u17, _⟩ => core_val rfl rfl (o_mul u14 u17 rfl),
 fun ρz wz hE hA ⟨e11, _⟩ _ => core_val rfl rfl (o_load (e11.trans h11) (run_loadN (cs := (Rounding.cells p_4)) (lr_72 _ _) rfl ((Hb_b11_.exn (hA rfl)).ca))),
 fun ρz wz hE hA _ ⟨u1, u11, u18, u19, _⟩ => core_call rfl (call_args4 u1 u11 u18 u19) cf_63 (pensionref1_rounded_ok  _ _ _ _  hz13),
 fun ρz wz hE hA _ ⟨u20, _⟩ => core_val rfl rfl (o_extract u20 (by kernel_rfl)),
 fun ρz wz hE hA _ ⟨u20, _⟩ => core_val rfl rfl (o_extract u20 (by kernel_rfl)),
 fun ρz wz hE hA _ ⟨u21, _⟩ => core_val rfl rfl (o_assign u21),
 fun ρz wz hE hA _ ⟨u22, _⟩ => core_val rfl rfl (o_assign u22), trivial⟩ ?_
  intro ρ10 w10 hN hf hr
  have h12 : ρ10 12 = .int .i64 z13.1 := hf 23 rfl
  have h13 : ρ10 13 = .int .i64 z13.2 := hf 24 rfl
  have hW := hW.trans hN
  have hsz := hW.size
  refine WP.ret ?_
  show retQ Tryd.prog 101 Tryd.f39 (fun v w1 => v = .tuple #[.int .i64 r.1, .int .i64 r.2] ∧ Ext noG w0 w1) .ret ρ10 w10
  obtain rfl := Option.some.inj hF
  exact res2 rfl (by decide) (by decide) h12 h13 ⟨rfl, hW⟩

set_option maxHeartbeats 4000000 in
theorem money_Convert_ok {w0 : World} (d_ : Int) (i_ : Int) (p_ : Int) (p_2 : Int) (p_3 : List Rate) (p_4 : Rounding) {v_p_3 : Value} (H_p_3 : RepSl Rate.R noG w0 v_p_3 p_3) {r : Int × Int} (hF : money_Convert d_ i_ p_ p_2 p_3 p_4 = some r) :
    Calls Tryd.prog 38 #[.int .i64 d_, .int .i64 i_, .int .i64 p_, .int .i64 p_2, v_p_3, Rounding.val p_4] w0 fun e w1 => e = .returned (.tuple #[.int .i64 r.1, .int .i64 r.2]) ∧ Ext noG w0 w1 := by
  refine (Calls.start (P := Tryd.prog) (args := [.int .i64 d_, .int .i64 i_, .int .i64 p_, .int .i64 p_2, v_p_3, Rounding.val p_4]) (R := fun v w1 => v = .tuple #[.int .i64 r.1, .int .i64 r.2] ∧ Ext noG w0 w1) (n := 107) (w := w0) Tryd.func38 rfl rfl (Nat.le_of_ble_eq_true rfl) (fun ρ hargs => ?_)).mono (fun e w1 ⟨v, he, hv, hE⟩ => ⟨hv ▸ he, hE⟩)
  have h0 := hargs 0 _ rfl
  have h1 := hargs 1 _ rfl
  have h2 := hargs 2 _ rfl
  have h3 := hargs 3 _ rfl
  have h4 := hargs 4 _ rfl
  have h5 := hargs 5 _ rfl
  have hW := Ext.refl noG w0
  have hsz := Nat.le_refl w0.heap.size
  obtain ⟨_, _, hs_H_p_3, _, _⟩ := RepSl.shape H_p_3
  have H_p_3 := H_p_3.start
  rw [money_Convert] at hF
  refine WP.seq ?_
  refine WP.rg mixed [[], [], []] [[], [], []] [[5], [], []] [(11, fun u wz => ∃ b, u = .pointer (some ⟨b, 0, none⟩) ∧ w0.heap.size ≤ b ∧ Mb wz b 72 (Rounding.cells p_4)), val 12 (.int .i64 0), val 13 (.int .i64 0)] (by kernel_rfl) ⟨fun _ _ _ hE ⟨b, hb, hs, hM⟩ => ⟨b, hb, hs, hM.exn hE⟩, sV, sV, trivial⟩ ⟨fun ρz wz hE hA ⟨e5, _⟩ _ => core_new rfl rfl hE (o_box (e5.trans h5) (bx_72 _ _)),
 fun ρz wz hE hA _ _ => core_val rfl rfl (o_assign rfl),
 fun ρz wz hE hA _ _ => core_val rfl rfl (o_assign rfl), trivial⟩ ?_
  intro ρ1 w1 hN hf hr
  obtain ⟨b11_, h11, hge_b11_, Hb_b11_⟩ := hf 0 rfl
  obtain ⟨h0, h1, h2, h3, h4⟩ := k5 hr h0 h1 h2 h3 h4 rfl
  have H_p_3 := H_p_3.exn hN
  have hW := hW.trans hN
  have hB_b11_ : w0.heap.size ≤ b11_ := Nat.le_trans hsz hge_b11_
  have hsz := hW.size
  refine WP.seq ?_
  refine WP.seq ?_
  obtain ⟨z, hz, hF⟩ := obind hF
  obtain ⟨c, hc, hF⟩ := obind hF
  obtain ⟨z2, hz2, hc⟩ := orB hc
  have hc := orE hc
  obtain ⟨c2, hc2, hF⟩ := obind hF
  obtain ⟨z3, hz3, hc2⟩ := orB hc2
  have hc2 := orE hc2
  obtain ⟨c3, hc3, hF⟩ := obind hF
  obtain ⟨z4, hz4, hc3⟩ := orB hc3
  have hc3 := orE hc3
  obtain ⟨c4, hc4, hF⟩ := obind hF
  obtain ⟨z5, hz5, hc4⟩ := orB hc4
  have hc4 := orE hc4
  obtain ⟨c5, hc5, hF⟩ := obind hF
  obtain ⟨z6, hz6, hc5⟩ := orB hc5
  have hc5 := orE hc5
  refine WP.rb mixed [[], [0], [1], [2], [3], [3, 4], [3, 5], [3, 6], [7], [8], [8, 9], [8, 10], [8, 11], [12], [13], [13, 14], [13, 15], [13, 16], [17], [18], [18, 19], [18, 20], [18, 21], [22], [23], [23, 24], [23, 25], [23, 26]] [[0], [], [], [], [1], [], [], [], [], [2], [], [], [], [], [3], [], [], [], [], [11], [], [], [], [], [4], [], [], []] [(20, .int .i64 d_), (21, .bool z), (22, .bool (!z)), (23, .bool (!z)), (24, gv (!(!z)) (.int .i64 i_)), (25, gv (!(!z)) (.bool z2)), (26, gv (!(!z)) (.bool (!z2))), (27, .bool c), (28, .bool c), (29, gv (!c) (.int .i64 p_)), (30, gv (!c) (.bool z3)), (31, gv (!c) (.bool (!z3))), (32, .bool c2), (33, .bool c2), (34, gv (!c2) (.int .i64 p_2)), (35, gv (!c2) (.bool z4)), (36, gv (!c2) (.bool (!z4))), (37, .bool c3), (38, .bool c3), (39, gv (!c3) (Rounding.val p_4)), (40, gv (!c3) (.bool z5)), (41, gv (!c3) (.bool (!z5))), (42, .bool c4), (43, .bool c4), (44, gv (!c4) v_p_3), (45, gv (!c4) (.int .i64 z6)), (46, gv (!c4) (.bool (z6 != 0))), (47, .bool c5)] (by kernel_rfl) ⟨fun ρz wz hE hA ⟨e0, _⟩ _ => core_val rfl rfl (o_move (e0.trans h0)),
 fun ρz wz hE hA _ ⟨u0, _⟩ => core_call rfl (call_args1 u0) cf_56 (money_amount_ok  _  hz),
 fun ρz wz hE hA _ ⟨u1, _⟩ => core_val rfl rfl (o_not u1 rfl),
 fun ρz wz hE hA _ ⟨u2, _⟩ => core_val rfl rfl (o_move u2),
 fun ρz wz hE hA ⟨e1, _⟩ ⟨u3, _⟩ => gIf rfl rfl (yF rfl u3) fun gc F hF => core_val rfl hF (o_move (e1.trans h1)),
 fun ρz wz hE hA _ ⟨u3, u4, _⟩ => gIf rfl rfl (yF rfl u3) fun gc F hF => core_call hF (call_args1 (gt gc u4)) cf_43 (money_currency_ok  _  (hz2 gc)),
 fun ρz wz hE hA _ ⟨u3, u5, _⟩ => gIf rfl rfl (yF rfl u3) fun gc F hF => core_val rfl hF (o_not (gt gc u5) rfl),
 fun ρz wz hE hA _ ⟨u3, u6, _⟩ => core_valE rfl rfl (congrArg Value.bool hc) (o_pick_or u3 rfl u6),
 fun ρz wz hE hA _ ⟨u7, _⟩ => core_val rfl rfl (o_move u7),
 fun ρz wz hE hA ⟨e2, _⟩ ⟨u8, _⟩ => gIf rfl rfl (yF rfl u8) fun gc F hF => core_val rfl hF (o_move (e2.trans h2)),
 fun ρz wz hE hA _ ⟨u8, u9, _⟩ => gIf rfl rfl (yF rfl u8) fun gc F hF => core_call hF (call_args1 (gt gc u9)) cf_43 (money_currency_ok  _  (hz3 gc)),
 fun ρz wz hE hA _ ⟨u8, u10, _⟩ => gIf rfl rfl (yF rfl u8) fun gc F hF => core_val rfl hF (o_not (gt gc u10) rfl),
 fun ρz wz hE hA _ ⟨u8, u11, _⟩ => core_valE rfl rfl (congrArg Value.bool hc2) (o_pick_or u8 rfl u11),
 fun ρz wz hE hA _ ⟨u12, _⟩ => core_val rfl rfl (o_move u12),
 fun ρz wz hE hA ⟨e3, _⟩ ⟨u13, _⟩ => gIf rfl rfl (yF rfl u13) fun gc F hF => core_val rfl hF (o_move (e3.trans h3)),
 fun ρz wz hE hA _ ⟨u13, u14, _⟩ => gIf rfl rfl (yF rfl u13) fun gc F hF => core_call hF (call_args1 (gt gc u14)) cf_44 (money_month_ok  _  (hz4 gc)),
 fun ρz wz hE hA _ ⟨u13, u15, _⟩ => gIf rfl rfl (yF rfl u13) fun gc F hF => core_val rfl hF (o_not (gt gc u15) rfl),
 fun ρz wz hE hA _ ⟨u13, u16, _⟩ => core_valE rfl rfl (congrArg Value.bool hc3) (o_pick_or u13 rfl u16),
 fun ρz wz hE hA _ ⟨u17, _⟩ => core_val rfl rfl (o_move u17),
 fun ρz wz hE hA ⟨e11, _⟩ ⟨u18, _⟩ => gIf rfl rfl (yF rfl u18) fun gc F hF => core_val rfl hF (o_load (e11.trans h11) (run_loadN (cs := (Rounding.cells p_4)) (lr_72 _ _) rfl ((Hb_b11_.exn (hA rfl)).ca))),
 fun ρz wz hE hA _ ⟨u18, u19, _⟩ => gIf rfl rfl (yF rfl u18) fun gc F hF => core_call hF (call_args1 (gt gc u19)) cf_57 (money_ValidRounding_ok  _  (hz5 gc)),
 fun ρz wz hE hA _ ⟨u18, u20, _⟩ => gIf rfl rfl (yF rfl u18) fun gc F hF => core_val rfl hF (o_not (gt gc u20) rfl),
 fun ρz wz hE hA _ ⟨u18, u21, _⟩ => core_valE rfl rfl (congrArg Value.bool hc4) (o_pick_or u18 rfl u21),
 fun ρz wz hE hA _ ⟨u22, _⟩ => core_val rfl rfl (o_move u22),
 fun ρz wz hE hA ⟨e4, _⟩ ⟨u23, _⟩ => gIf rfl rfl (yF rfl u23) fun gc F hF => core_val rfl hF (o_move (e4.trans h4)),
 fun ρz wz hE hA _ ⟨u23, u24, _⟩ => gIf rfl rfl (yF rfl u23) fun gc F hF => core_call hF (call_args1 (gt gc u24)) cf_27 (money_CheckRates_ok  _ (H_p_3.exn (hA rfl)).no (hz6 gc)),
 fun ρz wz hE hA _ ⟨u23, u25, _⟩ => gIf rfl rfl (yF rfl u23) fun gc F hF => core_val rfl hF (o_neq (gt gc u25) rfl rfl),
 fun ρz wz hE hA _ ⟨u23, u26, _⟩ => core_valE rfl rfl (congrArg Value.bool hc5) (o_pick_or u23 rfl u26), trivial⟩ ?_
  intro ρ2 w2 hN hf hr
  have h47 : ρ2 47 = .bool c5 := hf 27 rfl
  obtain ⟨h0, h1, h2, h3, h4, h11⟩ := k6 hr h0 h1 h2 h3 h4 h11 rfl
  have Hb_b11_n := Hb_b11_.exn hN
  have H_p_3 := H_p_3.exn hN
  have hW := hW.trans hN
  have Hb_b11_ := Hb_b11_n
  have hsz := hW.size
  refine WP.cond rfl h47 (fun hb => ?_) (fun hb => ?_)
  · have hF := (if_pos hb).symm.trans hF
    refine WP.seq ?_
    refine WP.rb mixed [[], []] [[], []] [(12, .int .i64 0), (13, .int .i64 1)] (by kernel_rfl) ⟨fun ρz wz hE hA _ _ => core_val rfl rfl (o_assign rfl),
 fun ρz wz hE hA _ _ => core_val rfl rfl (o_assign rfl), trivial⟩ ?_
    intro ρ3 w3 hN hf hr
    have h12 : ρ3 12 = .int .i64 0 := hf 0 rfl
    have h13 : ρ3 13 = .int .i64 1 := hf 1 rfl
    have hW := hW.trans hN
    have hsz := hW.size
    refine WP.ret ?_
    show retQ Tryd.prog 107 Tryd.f38 (fun v w1 => v = .tuple #[.int .i64 r.1, .int .i64 r.2] ∧ Ext noG w0 w1) .ret ρ3 w3
    obtain rfl := Option.some.inj hF
    exact res2 rfl (by decide) (by decide) h12 h13 ⟨rfl, hW⟩
  have hF := (if_neg (Bool.eq_false_iff.1 hb)).symm.trans hF
  refine WP.skip ?_
  refine WP.seq ?_
  refine WP.seq ?_
  refine WP.rb mixed [[], [], [0, 1]] [[1], [2], []] [(48, .int .i64 i_), (49, .int .i64 p_), (50, .bool (i_ == p_))] (by kernel_rfl) ⟨fun ρz wz hE hA ⟨e1, _⟩ _ => core_val rfl rfl (o_move (e1.trans h1)),
 fun ρz wz hE hA ⟨e2, _⟩ _ => core_val rfl rfl (o_move (e2.trans h2)),
 fun ρz wz hE hA _ ⟨u0, u1, _⟩ => core_val rfl rfl (o_eql u0 u1 rfl), trivial⟩ ?_
  intro ρ4 w4 hN hf hr
  have h50 : ρ4 50 = .bool (i_ == p_) := hf 2 rfl
  obtain ⟨h0, h1, h2, h3, h4, h11⟩ := k6 hr h0 h1 h2 h3 h4 h11 rfl
  have Hb_b11_n := Hb_b11_.exn hN
  have H_p_3 := H_p_3.exn hN
  have hW := hW.trans hN
  have Hb_b11_ := Hb_b11_n
  have hsz := hW.size
  refine WP.cond rfl h50 (fun hb => ?_) (fun hb => ?_)
  · have hF := (if_pos hb).symm.trans hF
    refine WP.seq ?_
    obtain ⟨z7, hz7, hF⟩ := obind hF
    obtain ⟨z8, hz8, hF⟩ := obind hF
    refine WP.rb mixed [[], [0], [], [2], [], [1, 3, 4], [5], [5], [6], [7]] [[0], [], [0], [], [11], [], [], [], [], []] [(51, .int .i64 d_), (52, .bool (decide (d_ < 0))), (53, .int .i64 d_), (54, .int .u64 z7), (55, Rounding.val p_4), (56, .tuple #[.int .i64 z8.1, .int .i64 z8.2]), (57, .int .i64 z8.1), (58, .int .i64 z8.2), (12, .int .i64 z8.1), (13, .int .i64 z8.2)] (by kernel_rfl) ⟨fun ρz wz hE hA ⟨e0, _⟩ _ => core_val rfl rfl (o_move (e0.trans h0)),
 fun ρz wz hE hA _ ⟨u0, _⟩ => core_val rfl rfl (o_lss u0 rfl rfl),
 fun ρz wz hE hA ⟨e0, _⟩ _ => core_val rfl rfl (o_move (e0.trans h0)),
 fun ρz wz hE hA _ ⟨u2, _⟩ => core_call rfl (call_args1 u2) cf_59 (money_size_ok  _  hz7),
 fun ρz wz hE hA ⟨e11, _⟩ _ => core_val rfl rfl (o_load (e11.trans h11) (run_loadN (cs := (Rounding.cells p_4)) (lr_72 _ _) rfl ((Hb_b11_.exn (hA rfl)).ca))),
 fun ρz wz hE hA _ ⟨u1, u3, u4, _⟩ => core_call rfl (call_args5 u1 rfl u3 rfl u4) cf_58 (money_divide_ok  _ _ _ _ _  hz8),
 fun ρz wz hE hA _ ⟨u5, _⟩ => core_val rfl rfl (o_extract u5 (by kernel_rfl)),
 fun ρz wz hE hA _ ⟨u5, _⟩ => core_val rfl rfl (o_extract u5 (by kernel_rfl)),
 fun ρz wz hE hA _ ⟨u6, _⟩ => core_val rfl rfl (o_assign u6),
 fun ρz wz hE hA _ ⟨u7, _⟩ => core_val rfl rfl (o_assign u7), trivial⟩ ?_
    intro ρ5 w5 hN hf hr
    have h12 : ρ5 12 = .int .i64 z8.1 := hf 8 rfl
    have h13 : ρ5 13 = .int .i64 z8.2 := hf 9 rfl
    have hW := hW.trans hN
    have hsz := hW.size
    refine WP.ret ?_
    show retQ Tryd.prog 107 Tryd.f38 (fun v w1 => v = .tuple #[.int .i64 r.1, .int .i64 r.2] ∧ Ext noG w0 w1) .ret ρ5 w5
    obtain rfl := Option.some.inj hF
    exact res2 rfl (by decide) (by decide) h12 h13 ⟨rfl, hW⟩
  have hF := (if_neg (Bool.eq_false_iff.1 hb)).symm.trans hF
  refine WP.skip ?_
  refine WP.seq ?_
  obtain ⟨z9, hz9, hF⟩ := obind hF
  refine WP.region mixed [[], [], [], [0, 1, 2], [3], [4], [4], [], [5, 7], [6, 8]] [[], [], [], [0, 1, 2], [3], [4], [4], [], [5, 7], [6]] [[4], [1], [3], [], [], [], [], [], [], []] [8] [(7, 8)] [val 60 (v_p_3), val 61 (.int .i64 i_), val 62 (.int .i64 p_2), val 63 (.tuple #[Fraction.val z9.1, .bool z9.2]), val 59 (.tuple #[Fraction.val z9.1, .bool z9.2]), val 64 (Fraction.val z9.1), val 65 (.bool z9.2), (14, fun u wz => ∃ b, u = .pointer (some ⟨b, 0, none⟩) ∧ w4.heap.size ≤ b ∧ Mb wz b 54 (Fraction.cells (⟨0, 0⟩ : Fraction))), (14, fun u wz => ∃ b, u = .pointer (some ⟨b, 0, none⟩) ∧ w4.heap.size ≤ b ∧ Mb wz b 54 (Fraction.cells z9.1)), val 15 (.bool z9.2)] (fun b => w4.heap.size ≤ b) (by kernel_rfl) ⟨sV, sV, sV, sV, sV, sV, sV, fun _ _ _ hE ⟨b, hb, hs, hM⟩ => ⟨b, hb, hs, hM.exn hE⟩, fun _ _ _ hE ⟨b, hb, hs, hM⟩ => ⟨b, hb, hs, hM.exn hE⟩, sV, trivial⟩ ⟨fun ρz wz hE hA ⟨e4, _⟩ _ => core_val rfl rfl (o_move (e4.trans h4)),
 fun ρz wz hE hA ⟨e1, _⟩ _ => core_val rfl rfl (o_move (e1.trans h1)),
 fun ρz wz hE hA ⟨e3, _⟩ _ => core_val rfl rfl (o_move (e3.trans h3)),
 fun ρz wz hE hA _ ⟨u0, u1, u2, _⟩ => core_call rfl (call_args3 u0 u1 u2) cf_52 (money_Value_ok  _ _ _ (H_p_3.exn hE.fresh).no hz9),
 fun ρz wz hE hA _ ⟨u3, _⟩ => core_val rfl rfl (o_move u3),
 fun ρz wz hE hA _ ⟨u4, _⟩ => core_val rfl rfl (o_extract u4 (by kernel_rfl)),
 fun ρz wz hE hA _ ⟨u4, _⟩ => core_val rfl rfl (o_extract u4 (by kernel_rfl)),
 fun ρz wz hE hA _ _ => core_new rfl rfl hE (o_alloc (al_54 _)),
 fun ρz wz hE hA _ ⟨u5, u7, _⟩ => core_storeNew rfl rfl rfl rfl u5 u7 (fun a w => st_54 _ a w) rfl (one_54 _),
 fun ρz wz hE hA _ ⟨u6, _⟩ => core_val rfl rfl (o_assign u6), trivial⟩ ?_
  intro ρ6 w6 hE hN hf hr
  have hN := hE.fresh
  obtain ⟨b14_, h14, hge_b14_, Hb_b14_⟩ := hf 8 rfl
  have h15 : ρ6 15 = .bool z9.2 := hf 9 rfl
  obtain ⟨h0, h2, h3, h4, h11⟩ := k5 hr h0 h2 h3 h4 h11 rfl
  have Hb_b11_n := Hb_b11_.exn hN
  have H_p_3 := H_p_3.exn hN
  have hW := hW.trans hN
  have Hb_b11_ := Hb_b11_n
  have hB_b14_ : w0.heap.size ≤ b14_ := Nat.le_trans hsz hge_b14_
  have hsz := hW.size
  refine WP.seq ?_
  obtain ⟨z10, hz10, hF⟩ := obind hF
  refine WP.region mixed [[], [], [], [0, 1, 2], [3], [4], [4], [], [5, 7], [6, 8]] [[], [], [], [0, 1, 2], [3], [4], [4], [], [5, 7], [6]] [[4], [2], [3], [], [], [], [], [], [], []] [8] [(7, 8)] [val 67 (v_p_3), val 68 (.int .i64 p_), val 69 (.int .i64 p_2), val 70 (.tuple #[Fraction.val z10.1, .bool z10.2]), val 66 (.tuple #[Fraction.val z10.1, .bool z10.2]), val 71 (Fraction.val z10.1), val 72 (.bool z10.2), (16, fun u wz => ∃ b, u = .pointer (some ⟨b, 0, none⟩) ∧ w6.heap.size ≤ b ∧ Mb wz b 54 (Fraction.cells (⟨0, 0⟩ : Fraction))), (16, fun u wz => ∃ b, u = .pointer (some ⟨b, 0, none⟩) ∧ w6.heap.size ≤ b ∧ Mb wz b 54 (Fraction.cells z10.1)), val 17 (.bool z10.2)] (fun b => w6.heap.size ≤ b) (by kernel_rfl) ⟨sV, sV, sV, sV, sV, sV, sV, fun _ _ _ hE ⟨b, hb, hs, hM⟩ => ⟨b, hb, hs, hM.exn hE⟩, fun _ _ _ hE ⟨b, hb, hs, hM⟩ => ⟨b, hb, hs, hM.exn hE⟩, sV, trivial⟩ ⟨fun ρz wz hE hA ⟨e4, _⟩ _ => core_val rfl rfl (o_move (e4.trans h4)),
 fun ρz wz hE hA ⟨e2, _⟩ _ => core_val rfl rfl (o_move (e2.trans h2)),
 fun ρz wz hE hA ⟨e3, _⟩ _ => core_val rfl rfl (o_move (e3.trans h3)),
 fun ρz wz hE hA _ ⟨u0, u1, u2, _⟩ => core_call rfl (call_args3 u0 u1 u2) cf_52 (money_Value_ok  _ _ _ (H_p_3.exn hE.fresh).no hz10),
 fun ρz wz hE hA _ ⟨u3, _⟩ => core_val rfl rfl (o_move u3),
 fun ρz wz hE hA _ ⟨u4, _⟩ => core_val rfl rfl (o_extract u4 (by kernel_rfl)),
 fun ρz wz hE hA _ ⟨u4, _⟩ => core_val rfl rfl (o_extract u4 (by kernel_rfl)),
 fun ρz wz hE hA _ _ => core_new rfl rfl hE (o_alloc (al_54 _)),
 fun ρz wz hE hA _ ⟨u5, u7, _⟩ => core_storeNew rfl rfl rfl rfl u5 u7 (fun a w => st_54 _ a w) rfl (one_54 _),
 fun ρz wz hE hA _ ⟨u6, _⟩ => core_val rfl rfl (o_assign u6), trivial⟩ ?_
  intro ρ7 w7 hE hN hf hr
  have hN := hE.fresh
  obtain ⟨b16_, h16, hge_b16_, Hb_b16_⟩ := hf 8 rfl
  have h17 : ρ7 17 = .bool z10.2 := hf 9 rfl
  obtain ⟨h0, h11, h14, h15⟩ := k4 hr h0 h11 h14 h15 rfl
  have Hb_b11_n := Hb_b11_.exn hN
  have Hb_b14_n := Hb_b14_.exn hN
  have hW := hW.trans hN
  have Hb_b11_ := Hb_b11_n
  have Hb_b14_ := Hb_b14_n
  have hB_b16_ : w0.heap.size ≤ b16_ := Nat.le_trans hsz hge_b16_
  have hsz := hW.size
  refine WP.seq ?_
  refine WP.seq ?_
  refine WP.rb mixed [[], [0], [1], [2], [2, 3], [2, 4]] [[15], [], [], [17], [], []] [(73, .bool z9.2), (74, .bool (!z9.2)), (75, .bool (!z9.2)), (76, gv (!(!z9.2)) (.bool z10.2)), (77, gv (!(!z9.2)) (.bool (!z10.2))), (78, .bool ((!z9.2) || (!z10.2)))] (by kernel_rfl) ⟨fun ρz wz hE hA ⟨e15, _⟩ _ => core_val rfl rfl (o_move (e15.trans h15)),
 fun ρz wz hE hA _ ⟨u0, _⟩ => core_val rfl rfl (o_not u0 rfl),
 fun ρz wz hE hA _ ⟨u1, _⟩ => core_val rfl rfl (o_move u1),
 fun ρz wz hE hA ⟨e17, _⟩ ⟨u2, _⟩ => gIf rfl rfl (yF rfl u2) fun gc F hF => core_val rfl hF (o_move (e17.trans h17)),
 fun ρz wz hE hA _ ⟨u2, u3, _⟩ => gIf rfl rfl (yF rfl u2) fun gc F hF => core_val rfl hF (o_not (gt gc u3) rfl),
 fun ρz wz hE hA _ ⟨u2, u4, _⟩ => core_val rfl rfl (o_pick_or u2 rfl u4), trivial⟩ ?_
  intro ρ8 w8 hN hf hr
  have h78 : ρ8 78 = .bool ((!z9.2) || (!z10.2)) := hf 5 rfl
  obtain ⟨h0, h11, h14, h16⟩ := k4 hr h0 h11 h14 h16 rfl
  have Hb_b11_n := Hb_b11_.exn hN
  have Hb_b14_n := Hb_b14_.exn hN
  have Hb_b16_n := Hb_b16_.exn hN
  have hW := hW.trans hN
  have Hb_b11_ := Hb_b11_n
  have Hb_b14_ := Hb_b14_n
  have Hb_b16_ := Hb_b16_n
  have hsz := hW.size
  refine WP.cond rfl h78 (fun hb => ?_) (fun hb => ?_)
  · have hF := (if_pos hb).symm.trans hF
    refine WP.seq ?_
    refine WP.rb mixed [[], []] [[], []] [(12, .int .i64 0), (13, .int .i64 9)] (by kernel_rfl) ⟨fun ρz wz hE hA _ _ => core_val rfl rfl (o_assign rfl),
 fun ρz wz hE hA _ _ => core_val rfl rfl (o_assign rfl), trivial⟩ ?_
    intro ρ9 w9 hN hf hr
    have h12 : ρ9 12 = .int .i64 0 := hf 0 rfl
    have h13 : ρ9 13 = .int .i64 9 := hf 1 rfl
    have hW := hW.trans hN
    have hsz := hW.size
    refine WP.ret ?_
    show retQ Tryd.prog 107 Tryd.f38 (fun v w1 => v = .tuple #[.int .i64 r.1, .int .i64 r.2] ∧ Ext noG w0 w1) .ret ρ9 w9
    obtain rfl := Option.some.inj hF
    exact res2 rfl (by decide) (by decide) h12 h13 ⟨rfl, hW⟩
  have hF := (if_neg (Bool.eq_false_iff.1 hb)).symm.trans hF
  refine WP.skip ?_
  refine WP.seq ?_
  obtain ⟨z11, hz11, hF⟩ := obind hF
  obtain ⟨z12, hz12, hF⟩ := obind hF
  refine WP.rb mixed [[], [0], [], [2], [3], [], [5], [6], [4, 7], [1, 8], [9], [10], [10], [11], [12]] [[0], [], [14], [], [], [16], [], [], [], [], [], [], [], [], []] [(80, .int .i64 d_), (81, .int .u64 z11), (82, .pointer (some ((⟨b14_, 0, none⟩ : Addr).add 0))), (83, .int .i64 z9.1.Num), (84, .int .u64 (u64 z9.1.Num)), (85, .pointer (some ((⟨b16_, 0, none⟩ : Addr).add 1))), (86, .int .i64 z10.1.Den), (87, .int .u64 (u64 z10.1.Den)), (88, .int .u64 (u64 (u64 z9.1.Num * (u64 z10.1.Den)))), (89, .tuple #[.int .u64 z12.1, .int .u64 z12.2]), (79, .tuple #[.int .u64 z12.1, .int .u64 z12.2]), (90, .int .u64 z12.1), (91, .int .u64 z12.2), (18, .int .u64 z12.1), (19, .int .u64 z12.2)] (by kernel_rfl) ⟨fun ρz wz hE hA ⟨e0, _⟩ _ => core_val rfl rfl (o_move (e0.trans h0)),
 fun ρz wz hE hA _ ⟨u0, _⟩ => core_call rfl (call_args1 u0) cf_59 (money_size_ok  _  hz11),
 fun ρz wz hE hA ⟨e14, _⟩ _ => core_val rfl rfl (o_fieldAddr (e14.trans h14) (fa_54_0 _ _)),
 fun ρz wz hE hA _ ⟨u2, _⟩ => core_val rfl rfl (o_load u2 (run_load1 (lr_3 _ _) (CA.sub ((Hb_b14_.exn (hA rfl)).ca) 0 1))),
 fun ρz wz hE hA _ ⟨u3, _⟩ => core_val rfl rfl (o_conv u3 (cv_3_62 _ _)),
 fun ρz wz hE hA ⟨e16, _⟩ _ => core_val rfl rfl (o_fieldAddr (e16.trans h16) (fa_54_1 _ _)),
 fun ρz wz hE hA _ ⟨u5, _⟩ => core_val rfl rfl (o_load u5 (run_load1 (lr_3 _ _) (CA.sub ((Hb_b16_.exn (hA rfl)).ca) 1 1))),
 fun ρz wz hE hA _ ⟨u6, _⟩ => core_val rfl rfl (o_conv u6 (cv_3_62 _ _)),
 fun ρz wz hE hA _ ⟨u4, u7, _⟩ => core_val rfl rfl (o_mul u4 u7 rfl),
 fun ρz wz hE hA _ ⟨u1, u8, _⟩ => core_call rfl (call_args2 u1 u8) cf_50 (bits_Mul64_ok  _ _  hz12),
 fun ρz wz hE hA _ ⟨u9, _⟩ => core_val rfl rfl (o_move u9),
 fun ρz wz hE hA _ ⟨u10, _⟩ => core_val rfl rfl (o_extract u10 (by kernel_rfl)),
 fun ρz wz hE hA _ ⟨u10, _⟩ => core_val rfl rfl (o_extract u10 (by kernel_rfl)),
 fun ρz wz hE hA _ ⟨u11, _⟩ => core_val rfl rfl (o_assign u11),
 fun ρz wz hE hA _ ⟨u12, _⟩ => core_val rfl rfl (o_assign u12), trivial⟩ ?_
  intro ρ10 w10 hN hf hr
  have h18 : ρ10 18 = .int .u64 z12.1 := hf 13 rfl
  have h19 : ρ10 19 = .int .u64 z12.2 := hf 14 rfl
  obtain ⟨h0, h11, h14, h16⟩ := k4 hr h0 h11 h14 h16 rfl
  have Hb_b11_n := Hb_b11_.exn hN
  have Hb_b14_n := Hb_b14_.exn hN
  have Hb_b16_n := Hb_b16_.exn hN
  have hW := hW.trans hN
  have Hb_b11_ := Hb_b11_n
  have Hb_b14_ := Hb_b14_n
  have Hb_b16_ := Hb_b16_n
  have hsz := hW.size
  refine WP.seq ?_
  obtain ⟨z13, hz13, hF⟩ := obind hF
  refine WP.rb mixed [[], [0], [], [], [], [4], [5], [], [7], [8], [6, 9], [], [1, 2, 3, 10, 11], [12], [12], [13], [14]] [[0], [], [18], [19], [14], [], [], [16], [], [], [], [11], [], [], [], [], []] [(92, .int .i64 d_), (93, .bool (decide (d_ < 0))), (94, .int .u64 z12.1), (95, .int .u64 z12.2), (96, .pointer (some ((⟨b14_, 0, none⟩ : Addr).add 1))), (97, .int .i64 z9.1.Den), (98, .int .u64 (u64 z9.1.Den)), (99, .pointer (some ((⟨b16_, 0, none⟩ : Addr).add 0))), (100, .int .i64 z10.1.Num), (101, .int .u64 (u64 z10.1.Num)), (102, .int .u64 (u64 (u64 z9.1.Den * (u64 z10.1.Num)))), (103, Rounding.val p_4), (104, .tuple #[.int .i64 z13.1, .int .i64 z13.2]), (105, .int .i64 z13.1), (106, .int .i64 z13.2), (12, .int .i64 z13.1), (13, .int .i64 z13.2)] (by kernel_rfl) ⟨fun ρz wz hE hA ⟨e0, _⟩ _ => core_val rfl rfl (o_move (e0.trans h0)),
 fun ρz wz hE hA _ ⟨u0, _⟩ => core_val rfl rfl (o_lss u0 rfl rfl),
 fun ρz wz hE hA ⟨e18, _⟩ _ => core_val rfl rfl (o_move (e18.trans h18)),
 fun ρz wz hE hA ⟨e19, _⟩ _ => core_val rfl rfl (o_move (e19.trans h19)),
 fun ρz wz hE hA ⟨e14, _⟩ _ => core_val rfl rfl (o_fieldAddr (e14.trans h14) (fa_54_1 _ _)),
 fun ρz wz hE hA _ ⟨u4, _⟩ => core_val rfl rfl (o_load u4 (run_load1 (lr_3 _ _) (CA.sub ((Hb_b14_.exn (hA rfl)).ca) 1 1))),
 fun ρz wz hE hA _ ⟨u5, _⟩ => core_val rfl rfl (o_conv u5 (cv_3_62 _ _)),
 fun ρz wz hE hA ⟨e16, _⟩ _ => core_val rfl rfl (o_fieldAddr (e16.trans h16) (fa_54_0 _ _)),
 fun ρz wz hE hA _ ⟨u7, _⟩ => core_val rfl rfl (o_load u7 (run_load1 (lr_3 _ _) (CA.sub ((Hb_b16_.exn (hA rfl)).ca) 0 1))),
 fun ρz wz hE hA _ ⟨u8, _⟩ => core_val rfl rfl (o_conv u8 (cv_3_62 _ _)),
 fun ρz wz hE hA _ ⟨u6, u9, _⟩ => core_val rfl rfl (o_mul u6 u9 rfl),
 fun ρz wz hE hA ⟨e11, _⟩ _ => core_val rfl rfl (o_load (e11.trans h11) (run_loadN (cs := (Rounding.cells p_4)) (lr_72 _ _) rfl ((Hb_b11_.exn (hA rfl)).ca))),
 fun ρz wz hE hA _ ⟨u1, u2, u3, u10, u11, _⟩ => core_call rfl (call_args5 u1 u2 u3 u10 u11) cf_58 (money_divide_ok  _ _ _ _ _  hz13),
 fun ρz wz hE hA _ ⟨u12, _⟩ => core_val rfl rfl (o_extract u12 (by kernel_rfl)),
 fun ρz wz hE hA _ ⟨u12, _⟩ => core_val rfl rfl (o_extract u12 (by kernel_rfl)),
 fun ρz wz hE hA _ ⟨u13, _⟩ => core_val rfl rfl (o_assign u13),
 fun ρz wz hE hA _ ⟨u14, _⟩ => core_val rfl rfl (o_assign u14), trivial⟩ ?_
  intro ρ11 w11 hN hf hr
  have h12 : ρ11 12 = .int .i64 z13.1 := hf 15 rfl
  have h13 : ρ11 13 = .int .i64 z13.2 := hf 16 rfl
  have hW := hW.trans hN
  have hsz := hW.size
  refine WP.ret ?_
  show retQ Tryd.prog 107 Tryd.f38 (fun v w1 => v = .tuple #[.int .i64 r.1, .int .i64 r.2] ∧ Ext noG w0 w1) .ret ρ11 w11
  obtain rfl := Option.some.inj hF
  exact res2 rfl (by decide) (by decide) h12 h13 ⟨rfl, hW⟩

set_option maxHeartbeats 4000000 in
theorem pensionref21_worth_ok {w0 : World} (d_ : Right) (i_ : Right) (p_ : List Rate) (p_2 : Int) {v_p_ : Value} (H_p_ : RepSl Rate.R noG w0 v_p_ p_) {r : Int} (hF : pensionref21_worth d_ i_ p_ p_2 = some r) :
    Calls Tryd.prog 53 #[Right.val d_, Right.val i_, v_p_, .int .i64 p_2] w0 fun e w1 => e = .returned (.int .i64 r) ∧ Ext noG w0 w1 := by
  refine (Calls.start (P := Tryd.prog) (args := [Right.val d_, Right.val i_, v_p_, .int .i64 p_2]) (R := fun v w1 => v = .int .i64 r ∧ Ext noG w0 w1) (n := 100) (w := w0) Tryd.func53 rfl rfl (Nat.le_of_ble_eq_true rfl) (fun ρ hargs => ?_)).mono (fun e w1 ⟨v, he, hv, hE⟩ => ⟨hv ▸ he, hE⟩)
  have h0 := hargs 0 _ rfl
  have h1 := hargs 1 _ rfl
  have h2 := hargs 2 _ rfl
  have h3 := hargs 3 _ rfl
  have hW := Ext.refl noG w0
  have hsz := Nat.le_refl w0.heap.size
  obtain ⟨_, _, hs_H_p_, _, _⟩ := RepSl.shape H_p_
  have H_p_ := H_p_.start
  rw [pensionref21_worth] at hF
  refine WP.seq ?_
  refine WP.rg mixed [[], [], []] [[], [], []] [[0], [1], []] [(4, fun u wz => ∃ b, u = .pointer (some ⟨b, 0, none⟩) ∧ w0.heap.size ≤ b ∧ Mb wz b 43 (Right.cells d_)), (5, fun u wz => ∃ b, u = .pointer (some ⟨b, 0, none⟩) ∧ w0.heap.size ≤ b ∧ Mb wz b 43 (Right.cells i_)), val 8 (.int .i64 0)] (by kernel_rfl) ⟨fun _ _ _ hE ⟨b, hb, hs, hM⟩ => ⟨b, hb, hs, hM.exn hE⟩, fun _ _ _ hE ⟨b, hb, hs, hM⟩ => ⟨b, hb, hs, hM.exn hE⟩, sV, trivial⟩ ⟨fun ρz wz hE hA ⟨e0, _⟩ _ => core_new rfl rfl hE (o_box (e0.trans h0) (bx_43 _ _)),
 fun ρz wz hE hA ⟨e1, _⟩ _ => core_new rfl rfl hE (o_box (e1.trans h1) (bx_43 _ _)),
 fun ρz wz hE hA _ _ => core_val rfl rfl (o_assign rfl), trivial⟩ ?_
  intro ρ1 w1 hN hf hr
  obtain ⟨b4_, h4, hge_b4_, Hb_b4_⟩ := hf 0 rfl
  obtain ⟨b5_, h5, hge_b5_, Hb_b5_⟩ := hf 1 rfl
  obtain ⟨h2, h3⟩ := k2 hr h2 h3 rfl
  have H_p_ := H_p_.exn hN
  have hW := hW.trans hN
  have hB_b4_ : w0.heap.size ≤ b4_ := Nat.le_trans hsz hge_b4_
  have hB_b5_ : w0.heap.size ≤ b5_ := Nat.le_trans hsz hge_b5_
  have hsz := hW.size
  refine WP.seq ?_
  obtain ⟨z, hz, hF⟩ := obind hF
  refine WP.region mixed [[], [], [1], [], [0, 2, 3], [4], [5], [5], [], [6, 8], [7, 9]] [[], [], [1], [], [0, 2, 3], [4], [5], [5], [], [6, 8], [7]] [[2], [4], [], [3], [], [], [], [], [], [], []] [9] [(8, 9)] [val 18 (v_p_), val 19 (.pointer (some ((⟨b4_, 0, none⟩ : Addr).add 2))), val 20 (.int .i64 d_.Currency), val 21 (.int .i64 p_2), val 22 (.tuple #[Fraction.val z.1, .bool z.2]), val 17 (.tuple #[Fraction.val z.1, .bool z.2]), val 23 (Fraction.val z.1), val 24 (.bool z.2), (9, fun u wz => ∃ b, u = .pointer (some ⟨b, 0, none⟩) ∧ w1.heap.size ≤ b ∧ Mb wz b 54 (Fraction.cells (⟨0, 0⟩ : Fraction))), (9, fun u wz => ∃ b, u = .pointer (some ⟨b, 0, none⟩) ∧ w1.heap.size ≤ b ∧ Mb wz b 54 (Fraction.cells z.1)), val 10 (.bool z.2)] (fun b => w1.heap.size ≤ b) (by kernel_rfl) ⟨sV, sV, sV, sV, sV, sV, sV, sV, fun _ _ _ hE ⟨b, hb, hs, hM⟩ => ⟨b, hb, hs, hM.exn hE⟩, fun _ _ _ hE ⟨b, hb, hs, hM⟩ => ⟨b, hb, hs, hM.exn hE⟩, sV, trivial⟩ ⟨fun ρz wz hE hA ⟨e2, _⟩ _ => core_val rfl rfl (o_move (e2.trans h2)),
 fun ρz wz hE hA ⟨e4, _⟩ _ => core_val rfl rfl (o_fieldAddr (e4.trans h4) (fa_43_2 _ _)),
 fun ρz wz hE hA _ ⟨u1, _⟩ => core_val rfl rfl (o_load u1 (run_load1 (lr_3 _ _) (CA.sub ((Hb_b4_.exn hE.fresh).ca) 2 1))),
 fun ρz wz hE hA ⟨e3, _⟩ _ => core_val rfl rfl (o_move (e3.trans h3)),
 fun ρz wz hE hA _ ⟨u0, u2, u3, _⟩ => core_call rfl (call_args3 u0 u2 u3) cf_64 (pensionref1_RateAt_ok  _ _ _ (H_p_.exn hE.fresh).no hz),
 fun ρz wz hE hA _ ⟨u4, _⟩ => core_val rfl rfl (o_move u4),
 fun ρz wz hE hA _ ⟨u5, _⟩ => core_val rfl rfl (o_extract u5 (by kernel_rfl)),
 fun ρz wz hE hA _ ⟨u5, _⟩ => core_val rfl rfl (o_extract u5 (by kernel_rfl)),
 fun ρz wz hE hA _ _ => core_new rfl rfl hE (o_alloc (al_54 _)),
 fun ρz wz hE hA _ ⟨u6, u8, _⟩ => core_storeNew rfl rfl rfl rfl u6 u8 (fun a w => st_54 _ a w) rfl (one_54 _),
 fun ρz wz hE hA _ ⟨u7, _⟩ => core_val rfl rfl (o_assign u7), trivial⟩ ?_
  intro ρ2 w2 hE hN hf hr
  have hN := hE.fresh
  obtain ⟨b9_, h9, hge_b9_, Hb_b9_⟩ := hf 9 rfl
  obtain ⟨h2, h3, h4, h5⟩ := k4 hr h2 h3 h4 h5 rfl
  have Hb_b4_n := Hb_b4_.exn hN
  have Hb_b5_n := Hb_b5_.exn hN
  have H_p_ := H_p_.exn hN
  have hW := hW.trans hN
  have Hb_b4_ := Hb_b4_n
  have Hb_b5_ := Hb_b5_n
  have hB_b9_ : w0.heap.size ≤ b9_ := Nat.le_trans hsz hge_b9_
  have hsz := hW.size
  refine WP.seq ?_
  obtain ⟨z2, hz2, hF⟩ := obind hF
  refine WP.region mixed [[], [], [1], [], [0, 2, 3], [4], [5], [5], [], [6, 8], [7, 9]] [[], [], [1], [], [0, 2, 3], [4], [5], [5], [], [6, 8], [7]] [[2], [5], [], [3], [], [], [], [], [], [], []] [9] [(8, 9)] [val 26 (v_p_), val 27 (.pointer (some ((⟨b5_, 0, none⟩ : Addr).add 2))), val 28 (.int .i64 i_.Currency), val 29 (.int .i64 p_2), val 30 (.tuple #[Fraction.val z2.1, .bool z2.2]), val 25 (.tuple #[Fraction.val z2.1, .bool z2.2]), val 31 (Fraction.val z2.1), val 32 (.bool z2.2), (11, fun u wz => ∃ b, u = .pointer (some ⟨b, 0, none⟩) ∧ w2.heap.size ≤ b ∧ Mb wz b 54 (Fraction.cells (⟨0, 0⟩ : Fraction))), (11, fun u wz => ∃ b, u = .pointer (some ⟨b, 0, none⟩) ∧ w2.heap.size ≤ b ∧ Mb wz b 54 (Fraction.cells z2.1)), val 12 (.bool z2.2)] (fun b => w2.heap.size ≤ b) (by kernel_rfl) ⟨sV, sV, sV, sV, sV, sV, sV, sV, fun _ _ _ hE ⟨b, hb, hs, hM⟩ => ⟨b, hb, hs, hM.exn hE⟩, fun _ _ _ hE ⟨b, hb, hs, hM⟩ => ⟨b, hb, hs, hM.exn hE⟩, sV, trivial⟩ ⟨fun ρz wz hE hA ⟨e2, _⟩ _ => core_val rfl rfl (o_move (e2.trans h2)),
 fun ρz wz hE hA ⟨e5, _⟩ _ => core_val rfl rfl (o_fieldAddr (e5.trans h5) (fa_43_2 _ _)),
 fun ρz wz hE hA _ ⟨u1, _⟩ => core_val rfl rfl (o_load u1 (run_load1 (lr_3 _ _) (CA.sub ((Hb_b5_.exn hE.fresh).ca) 2 1))),
 fun ρz wz hE hA ⟨e3, _⟩ _ => core_val rfl rfl (o_move (e3.trans h3)),
 fun ρz wz hE hA _ ⟨u0, u2, u3, _⟩ => core_call rfl (call_args3 u0 u2 u3) cf_64 (pensionref1_RateAt_ok  _ _ _ (H_p_.exn hE.fresh).no hz2),
 fun ρz wz hE hA _ ⟨u4, _⟩ => core_val rfl rfl (o_move u4),
 fun ρz wz hE hA _ ⟨u5, _⟩ => core_val rfl rfl (o_extract u5 (by kernel_rfl)),
 fun ρz wz hE hA _ ⟨u5, _⟩ => core_val rfl rfl (o_extract u5 (by kernel_rfl)),
 fun ρz wz hE hA _ _ => core_new rfl rfl hE (o_alloc (al_54 _)),
 fun ρz wz hE hA _ ⟨u6, u8, _⟩ => core_storeNew rfl rfl rfl rfl u6 u8 (fun a w => st_54 _ a w) rfl (one_54 _),
 fun ρz wz hE hA _ ⟨u7, _⟩ => core_val rfl rfl (o_assign u7), trivial⟩ ?_
  intro ρ3 w3 hE hN hf hr
  have hN := hE.fresh
  obtain ⟨b11_, h11, hge_b11_, Hb_b11_⟩ := hf 9 rfl
  obtain ⟨h4, h5, h9⟩ := k3 hr h4 h5 h9 rfl
  have Hb_b4_n := Hb_b4_.exn hN
  have Hb_b5_n := Hb_b5_.exn hN
  have Hb_b9_n := Hb_b9_.exn hN
  have hW := hW.trans hN
  have Hb_b4_ := Hb_b4_n
  have Hb_b5_ := Hb_b5_n
  have Hb_b9_ := Hb_b9_n
  have hB_b11_ : w0.heap.size ≤ b11_ := Nat.le_trans hsz hge_b11_
  have hsz := hW.size
  refine WP.seq ?_
  refine WP.seq ?_
  refine WP.rb mixed [[], [0], [1], [2], [3], [3, 4], [3, 5], [3, 6]] [[9], [], [], [], [11], [], [], []] [(33, .pointer (some ((⟨b9_, 0, none⟩ : Addr).add 1))), (34, .int .i64 z.1.Den), (35, .bool (z.1.Den == 0)), (36, .bool (z.1.Den == 0)), (37, gv (!(z.1.Den == 0)) (.pointer (some ((⟨b11_, 0, none⟩ : Addr).add 1)))), (38, gv (!(z.1.Den == 0)) (.int .i64 z2.1.Den)), (39, gv (!(z.1.Den == 0)) (.bool (z2.1.Den == 0))), (40, .bool ((z.1.Den == 0) || (z2.1.Den == 0)))] (by kernel_rfl) ⟨fun ρz wz hE hA ⟨e9, _⟩ _ => core_val rfl rfl (o_fieldAddr (e9.trans h9) (fa_54_1 _ _)),
 fun ρz wz hE hA _ ⟨u0, _⟩ => core_val rfl rfl (o_load u0 (run_load1 (lr_3 _ _) (CA.sub ((Hb_b9_.exn (hA rfl)).ca) 1 1))),
 fun ρz wz hE hA _ ⟨u1, _⟩ => core_val rfl rfl (o_eql u1 rfl rfl),
 fun ρz wz hE hA _ ⟨u2, _⟩ => core_val rfl rfl (o_move u2),
 fun ρz wz hE hA ⟨e11, _⟩ ⟨u3, _⟩ => gIf rfl rfl (yF rfl u3) fun gc F hF => core_val rfl hF (o_fieldAddr (e11.trans h11) (fa_54_1 _ _)),
 fun ρz wz hE hA _ ⟨u3, u4, _⟩ => gIf rfl rfl (yF rfl u3) fun gc F hF => core_val rfl hF (o_load (gt gc u4) (run_load1 (lr_3 _ _) (CA.sub ((Hb_b11_.exn (hA rfl)).ca) 1 1))),
 fun ρz wz hE hA _ ⟨u3, u5, _⟩ => gIf rfl rfl (yF rfl u3) fun gc F hF => core_val rfl hF (o_eql (gt gc u5) rfl rfl),
 fun ρz wz hE hA _ ⟨u3, u6, _⟩ => core_val rfl rfl (o_pick_or u3 rfl u6), trivial⟩ ?_
  intro ρ4 w4 hN hf hr
  have h40 : ρ4 40 = .bool ((z.1.Den == 0) || (z2.1.Den == 0)) := hf 7 rfl
  obtain ⟨h4, h5, h9, h11⟩ := k4 hr h4 h5 h9 h11 rfl
  have Hb_b4_n := Hb_b4_.exn hN
  have Hb_b5_n := Hb_b5_.exn hN
  have Hb_b9_n := Hb_b9_.exn hN
  have Hb_b11_n := Hb_b11_.exn hN
  have hW := hW.trans hN
  have Hb_b4_ := Hb_b4_n
  have Hb_b5_ := Hb_b5_n
  have Hb_b9_ := Hb_b9_n
  have Hb_b11_ := Hb_b11_n
  have hsz := hW.size
  refine WP.cond rfl h40 (fun hb => ?_) (fun hb => ?_)
  · have hF := (if_pos hb).symm.trans hF
    refine WP.seq ?_
    refine WP.block ?_
    refine WP.seq ?_
    refine WP.rb mixed [[], [0], [1], [2]] [[9], [], [], []] [(42, .pointer (some ((⟨b9_, 0, none⟩ : Addr).add 1))), (43, .int .i64 z.1.Den), (44, .bool (z.1.Den != 0)), (41, .bool (z.1.Den != 0))] (by kernel_rfl) ⟨fun ρz wz hE hA ⟨e9, _⟩ _ => core_val rfl rfl (o_fieldAddr (e9.trans h9) (fa_54_1 _ _)),
 fun ρz wz hE hA _ ⟨u0, _⟩ => core_val rfl rfl (o_load u0 (run_load1 (lr_3 _ _) (CA.sub ((Hb_b9_.exn (hA rfl)).ca) 1 1))),
 fun ρz wz hE hA _ ⟨u1, _⟩ => core_val rfl rfl (o_neq u1 rfl rfl),
 fun ρz wz hE hA _ ⟨u2, _⟩ => core_val rfl rfl (o_assign u2), trivial⟩ ?_
    intro ρ5 w5 hN hf hr
    have h41 : ρ5 41 = .bool (z.1.Den != 0) := hf 3 rfl
    have h11 := (hr 11 rfl).trans h11
    have Hb_b11_n := Hb_b11_.exn hN
    have hW := hW.trans hN
    have Hb_b11_ := Hb_b11_n
    have hsz := hW.size
    refine WP.cond rfl h41 (fun hb => ?_) (fun hb => ?_)
    · have hF := (if_pos hb).symm.trans hF
      refine WP.seq ?_
      refine WP.rb mixed [[]] [[]] [(8, .int .i64 1)] (by kernel_rfl) ⟨fun ρz wz hE hA _ _ => core_val rfl rfl (o_assign rfl), trivial⟩ ?_
      intro ρ6 w6 hN hf hr
      have h8 : ρ6 8 = .int .i64 1 := hf 0 rfl
      have hW := hW.trans hN
      have hsz := hW.size
      refine WP.ret ?_
      show retQ Tryd.prog 100 Tryd.f53 (fun v w1 => v = .int .i64 r ∧ Ext noG w0 w1) .ret ρ6 w6
      obtain rfl := Option.some.inj hF
      exact res1 rfl (by decide) h8 ⟨rfl, hW⟩
    have hF := (if_neg (Bool.eq_false_iff.1 hb)).symm.trans hF
    refine WP.seq ?_
    refine WP.rb mixed [[], [0], [1], [2]] [[11], [], [], []] [(46, .pointer (some ((⟨b11_, 0, none⟩ : Addr).add 1))), (47, .int .i64 z2.1.Den), (48, .bool (z2.1.Den != 0)), (45, .bool (z2.1.Den != 0))] (by kernel_rfl) ⟨fun ρz wz hE hA ⟨e11, _⟩ _ => core_val rfl rfl (o_fieldAddr (e11.trans h11) (fa_54_1 _ _)),
 fun ρz wz hE hA _ ⟨u0, _⟩ => core_val rfl rfl (o_load u0 (run_load1 (lr_3 _ _) (CA.sub ((Hb_b11_.exn (hA rfl)).ca) 1 1))),
 fun ρz wz hE hA _ ⟨u1, _⟩ => core_val rfl rfl (o_neq u1 rfl rfl),
 fun ρz wz hE hA _ ⟨u2, _⟩ => core_val rfl rfl (o_assign u2), trivial⟩ ?_
    intro ρ7 w7 hN hf hr
    have h45 : ρ7 45 = .bool (z2.1.Den != 0) := hf 3 rfl
    have hW := hW.trans hN
    have hsz := hW.size
    refine WP.cond rfl h45 (fun hb => ?_) (fun hb => ?_)
    · have hF := (if_pos hb).symm.trans hF
      refine WP.seq ?_
      refine WP.rb mixed [[]] [[]] [(8, .int .i64 (-1))] (by kernel_rfl) ⟨fun ρz wz hE hA _ _ => core_val rfl rfl (o_assign rfl), trivial⟩ ?_
      intro ρ8 w8 hN hf hr
      have h8 : ρ8 8 = .int .i64 (-1) := hf 0 rfl
      have hW := hW.trans hN
      have hsz := hW.size
      refine WP.ret ?_
      show retQ Tryd.prog 100 Tryd.f53 (fun v w1 => v = .int .i64 r ∧ Ext noG w0 w1) .ret ρ8 w8
      obtain rfl := Option.some.inj hF
      exact res1 rfl (by decide) h8 ⟨rfl, hW⟩
    have hF := (if_neg (Bool.eq_false_iff.1 hb)).symm.trans hF
    refine WP.skip ?_
    refine WP.seq ?_
    refine WP.rb mixed [[]] [[]] [(8, .int .i64 0)] (by kernel_rfl) ⟨fun ρz wz hE hA _ _ => core_val rfl rfl (o_assign rfl), trivial⟩ ?_
    intro ρ9 w9 hN hf hr
    have h8 : ρ9 8 = .int .i64 0 := hf 0 rfl
    have hW := hW.trans hN
    have hsz := hW.size
    refine WP.ret ?_
    show retQ Tryd.prog 100 Tryd.f53 (fun v w1 => v = .int .i64 r ∧ Ext noG w0 w1) .ret ρ9 w9
    obtain rfl := Option.some.inj hF
    exact res1 rfl (by decide) h8 ⟨rfl, hW⟩
  have hF := (if_neg (Bool.eq_false_iff.1 hb)).symm.trans hF
  refine WP.skip ?_
  refine WP.seq ?_
  obtain ⟨z3, hz3, hF⟩ := obind hF
  refine WP.rb mixed [[], [0], [1], [], [3], [4], [2, 5], [], [7], [8], [6, 9], [10], [11], [11], [12], [13]] [[4], [], [], [9], [], [], [], [11], [], [], [], [], [], [], [], []] [(50, .pointer (some ((⟨b4_, 0, none⟩ : Addr).add 3))), (51, .int .i64 d_.Amount), (52, .int .u64 (u64 d_.Amount)), (53, .pointer (some ((⟨b9_, 0, none⟩ : Addr).add 0))), (54, .int .i64 z.1.Num), (55, .int .u64 (u64 z.1.Num)), (56, .int .u64 (u64 (u64 d_.Amount * (u64 z.1.Num)))), (57, .pointer (some ((⟨b11_, 0, none⟩ : Addr).add 1))), (58, .int .i64 z2.1.Den), (59, .int .u64 (u64 z2.1.Den)), (60, .tuple #[.int .u64 z3.1, .int .u64 z3.2]), (49, .tuple #[.int .u64 z3.1, .int .u64 z3.2]), (61, .int .u64 z3.1), (62, .int .u64 z3.2), (13, .int .u64 z3.1), (14, .int .u64 z3.2)] (by kernel_rfl) ⟨fun ρz wz hE hA ⟨e4, _⟩ _ => core_val rfl rfl (o_fieldAddr (e4.trans h4) (fa_43_3 _ _)),
 fun ρz wz hE hA _ ⟨u0, _⟩ => core_val rfl rfl (o_load u0 (run_load1 (lr_3 _ _) (CA.sub ((Hb_b4_.exn (hA rfl)).ca) 3 1))),
 fun ρz wz hE hA _ ⟨u1, _⟩ => core_val rfl rfl (o_conv u1 (cv_3_62 _ _)),
 fun ρz wz hE hA ⟨e9, _⟩ _ => core_val rfl rfl (o_fieldAddr (e9.trans h9) (fa_54_0 _ _)),
 fun ρz wz hE hA _ ⟨u3, _⟩ => core_val rfl rfl (o_load u3 (run_load1 (lr_3 _ _) (CA.sub ((Hb_b9_.exn (hA rfl)).ca) 0 1))),
 fun ρz wz hE hA _ ⟨u4, _⟩ => core_val rfl rfl (o_conv u4 (cv_3_62 _ _)),
 fun ρz wz hE hA _ ⟨u2, u5, _⟩ => core_val rfl rfl (o_mul u2 u5 rfl),
 fun ρz wz hE hA ⟨e11, _⟩ _ => core_val rfl rfl (o_fieldAddr (e11.trans h11) (fa_54_1 _ _)),
 fun ρz wz hE hA _ ⟨u7, _⟩ => core_val rfl rfl (o_load u7 (run_load1 (lr_3 _ _) (CA.sub ((Hb_b11_.exn (hA rfl)).ca) 1 1))),
 fun ρz wz hE hA _ ⟨u8, _⟩ => core_val rfl rfl (o_conv u8 (cv_3_62 _ _)),
 fun ρz wz hE hA _ ⟨u6, u9, _⟩ => core_call rfl (call_args2 u6 u9) cf_50 (bits_Mul64_ok  _ _  hz3),
 fun ρz wz hE hA _ ⟨u10, _⟩ => core_val rfl rfl (o_move u10),
 fun ρz wz hE hA _ ⟨u11, _⟩ => core_val rfl rfl (o_extract u11 (by kernel_rfl)),
 fun ρz wz hE hA _ ⟨u11, _⟩ => core_val rfl rfl (o_extract u11 (by kernel_rfl)),
 fun ρz wz hE hA _ ⟨u12, _⟩ => core_val rfl rfl (o_assign u12),
 fun ρz wz hE hA _ ⟨u13, _⟩ => core_val rfl rfl (o_assign u13), trivial⟩ ?_
  intro ρ10 w10 hN hf hr
  have h13 : ρ10 13 = .int .u64 z3.1 := hf 14 rfl
  have h14 : ρ10 14 = .int .u64 z3.2 := hf 15 rfl
  obtain ⟨h5, h9, h11⟩ := k3 hr h5 h9 h11 rfl
  have Hb_b5_n := Hb_b5_.exn hN
  have Hb_b9_n := Hb_b9_.exn hN
  have Hb_b11_n := Hb_b11_.exn hN
  have hW := hW.trans hN
  have Hb_b5_ := Hb_b5_n
  have Hb_b9_ := Hb_b9_n
  have Hb_b11_ := Hb_b11_n
  have hsz := hW.size
  refine WP.seq ?_
  obtain ⟨z4, hz4, hF⟩ := obind hF
  refine WP.rb mixed [[], [0], [1], [], [3], [4], [2, 5], [], [7], [8], [6, 9], [10], [11], [11], [12], [13]] [[5], [], [], [11], [], [], [], [9], [], [], [], [], [], [], [], []] [(64, .pointer (some ((⟨b5_, 0, none⟩ : Addr).add 3))), (65, .int .i64 i_.Amount), (66, .int .u64 (u64 i_.Amount)), (67, .pointer (some ((⟨b11_, 0, none⟩ : Addr).add 0))), (68, .int .i64 z2.1.Num), (69, .int .u64 (u64 z2.1.Num)), (70, .int .u64 (u64 (u64 i_.Amount * (u64 z2.1.Num)))), (71, .pointer (some ((⟨b9_, 0, none⟩ : Addr).add 1))), (72, .int .i64 z.1.Den), (73, .int .u64 (u64 z.1.Den)), (74, .tuple #[.int .u64 z4.1, .int .u64 z4.2]), (63, .tuple #[.int .u64 z4.1, .int .u64 z4.2]), (75, .int .u64 z4.1), (76, .int .u64 z4.2), (15, .int .u64 z4.1), (16, .int .u64 z4.2)] (by kernel_rfl) ⟨fun ρz wz hE hA ⟨e5, _⟩ _ => core_val rfl rfl (o_fieldAddr (e5.trans h5) (fa_43_3 _ _)),
 fun ρz wz hE hA _ ⟨u0, _⟩ => core_val rfl rfl (o_load u0 (run_load1 (lr_3 _ _) (CA.sub ((Hb_b5_.exn (hA rfl)).ca) 3 1))),
 fun ρz wz hE hA _ ⟨u1, _⟩ => core_val rfl rfl (o_conv u1 (cv_3_62 _ _)),
 fun ρz wz hE hA ⟨e11, _⟩ _ => core_val rfl rfl (o_fieldAddr (e11.trans h11) (fa_54_0 _ _)),
 fun ρz wz hE hA _ ⟨u3, _⟩ => core_val rfl rfl (o_load u3 (run_load1 (lr_3 _ _) (CA.sub ((Hb_b11_.exn (hA rfl)).ca) 0 1))),
 fun ρz wz hE hA _ ⟨u4, _⟩ => core_val rfl rfl (o_conv u4 (cv_3_62 _ _)),
 fun ρz wz hE hA _ ⟨u2, u5, _⟩ => core_val rfl rfl (o_mul u2 u5 rfl),
 fun ρz wz hE hA ⟨e9, _⟩ _ => core_val rfl rfl (o_fieldAddr (e9.trans h9) (fa_54_1 _ _)),
 fun ρz wz hE hA _ ⟨u7, _⟩ => core_val rfl rfl (o_load u7 (run_load1 (lr_3 _ _) (CA.sub ((Hb_b9_.exn (hA rfl)).ca) 1 1))),
 fun ρz wz hE hA _ ⟨u8, _⟩ => core_val rfl rfl (o_conv u8 (cv_3_62 _ _)),
 fun ρz wz hE hA _ ⟨u6, u9, _⟩ => core_call rfl (call_args2 u6 u9) cf_50 (bits_Mul64_ok  _ _  hz4),
 fun ρz wz hE hA _ ⟨u10, _⟩ => core_val rfl rfl (o_move u10),
 fun ρz wz hE hA _ ⟨u11, _⟩ => core_val rfl rfl (o_extract u11 (by kernel_rfl)),
 fun ρz wz hE hA _ ⟨u11, _⟩ => core_val rfl rfl (o_extract u11 (by kernel_rfl)),
 fun ρz wz hE hA _ ⟨u12, _⟩ => core_val rfl rfl (o_assign u12),
 fun ρz wz hE hA _ ⟨u13, _⟩ => core_val rfl rfl (o_assign u13), trivial⟩ ?_
  intro ρ11 w11 hN hf hr
  have h15 : ρ11 15 = .int .u64 z4.1 := hf 14 rfl
  have h16 : ρ11 16 = .int .u64 z4.2 := hf 15 rfl
  obtain ⟨h13, h14⟩ := k2 hr h13 h14 rfl
  have hW := hW.trans hN
  have hsz := hW.size
  refine WP.seq ?_
  refine WP.block ?_
  refine WP.seq ?_
  refine WP.rb mixed [[], [], [0, 1], [2], [3], [3], [3, 4, 5], [3, 6], [7]] [[13], [15], [], [], [14], [16], [], [], []] [(78, .int .u64 z3.1), (79, .int .u64 z4.1), (80, .bool (z3.1 == z4.1)), (81, .bool (z3.1 == z4.1)), (82, gv ((z3.1 == z4.1)) (.int .u64 z3.2)), (83, gv ((z3.1 == z4.1)) (.int .u64 z4.2)), (84, gv ((z3.1 == z4.1)) (.bool (z3.2 == z4.2))), (85, .bool ((z3.1 == z4.1) && (z3.2 == z4.2))), (77, .bool ((z3.1 == z4.1) && (z3.2 == z4.2)))] (by kernel_rfl) ⟨fun ρz wz hE hA ⟨e13, _⟩ _ => core_val rfl rfl (o_move (e13.trans h13)),
 fun ρz wz hE hA ⟨e15, _⟩ _ => core_val rfl rfl (o_move (e15.trans h15)),
 fun ρz wz hE hA _ ⟨u0, u1, _⟩ => core_val rfl rfl (o_eql u0 u1 rfl),
 fun ρz wz hE hA _ ⟨u2, _⟩ => core_val rfl rfl (o_move u2),
 fun ρz wz hE hA ⟨e14, _⟩ ⟨u3, _⟩ => gIf rfl rfl (yT rfl u3) fun gc F hF => core_val rfl hF (o_move (e14.trans h14)),
 fun ρz wz hE hA ⟨e16, _⟩ ⟨u3, _⟩ => gIf rfl rfl (yT rfl u3) fun gc F hF => core_val rfl hF (o_move (e16.trans h16)),
 fun ρz wz hE hA _ ⟨u3, u4, u5, _⟩ => gIf rfl rfl (yT rfl u3) fun gc F hF => core_val rfl hF (o_eql (gt gc u4) (gt gc u5) rfl),
 fun ρz wz hE hA _ ⟨u3, u6, _⟩ => core_val rfl rfl (o_pick_and u3 u6 rfl),
 fun ρz wz hE hA _ ⟨u7, _⟩ => core_val rfl rfl (o_assign u7), trivial⟩ ?_
  intro ρ12 w12 hN hf hr
  have h77 : ρ12 77 = .bool ((z3.1 == z4.1) && (z3.2 == z4.2)) := hf 8 rfl
  obtain ⟨h13, h14, h15, h16⟩ := k4 hr h13 h14 h15 h16 rfl
  have hW := hW.trans hN
  have hsz := hW.size
  refine WP.cond rfl h77 (fun hb => ?_) (fun hb => ?_)
  · have hF := (if_pos hb).symm.trans hF
    refine WP.seq ?_
    refine WP.rb mixed [[]] [[]] [(8, .int .i64 0)] (by kernel_rfl) ⟨fun ρz wz hE hA _ _ => core_val rfl rfl (o_assign rfl), trivial⟩ ?_
    intro ρ13 w13 hN hf hr
    have h8 : ρ13 8 = .int .i64 0 := hf 0 rfl
    have hW := hW.trans hN
    have hsz := hW.size
    refine WP.ret ?_
    show retQ Tryd.prog 100 Tryd.f53 (fun v w1 => v = .int .i64 r ∧ Ext noG w0 w1) .ret ρ13 w13
    obtain rfl := Option.some.inj hF
    exact res1 rfl (by decide) h8 ⟨rfl, hW⟩
  have hF := (if_neg (Bool.eq_false_iff.1 hb)).symm.trans hF
  refine WP.seq ?_
  refine WP.rb mixed [[], [], [0, 1], [2], [3], [3], [3, 4, 5], [3, 6], [7], [7], [7, 8, 9], [3, 7, 10], [3, 11], [12]] [[13], [15], [], [], [13], [15], [], [], [14], [16], [], [], [], []] [(87, .int .u64 z3.1), (88, .int .u64 z4.1), (89, .bool (decide (z3.1 < z4.1))), (90, .bool (decide (z3.1 < z4.1))), (91, gv (!(decide (z3.1 < z4.1))) (.int .u64 z3.1)), (92, gv (!(decide (z3.1 < z4.1))) (.int .u64 z4.1)), (93, gv (!(decide (z3.1 < z4.1))) (.bool (z3.1 == z4.1))), (94, gv (!(decide (z3.1 < z4.1))) (.bool (z3.1 == z4.1))), (95, gv ((!(decide (z3.1 < z4.1))) && (z3.1 == z4.1)) (.int .u64 z3.2)), (96, gv ((!(decide (z3.1 < z4.1))) && (z3.1 == z4.1)) (.int .u64 z4.2)), (97, gv ((!(decide (z3.1 < z4.1))) && (z3.1 == z4.1)) (.bool (decide (z3.2 < z4.2)))), (98, gv (!(decide (z3.1 < z4.1))) (.bool ((z3.1 == z4.1) && decide (z3.2 < z4.2)))), (99, .bool (decide (z3.1 < z4.1) || ((z3.1 == z4.1) && decide (z3.2 < z4.2)))), (86, .bool (decide (z3.1 < z4.1) || ((z3.1 == z4.1) && decide (z3.2 < z4.2))))] (by kernel_rfl) ⟨fun ρz wz hE hA ⟨e13, _⟩ _ => core_val rfl rfl (o_move (e13.trans h13)),
 fun ρz wz hE hA ⟨e15, _⟩ _ => core_val rfl rfl (o_move (e15.trans h15)),
 fun ρz wz hE hA _ ⟨u0, u1, _⟩ => core_val rfl rfl (o_lss u0 u1 rfl),
 fun ρz wz hE hA _ ⟨u2, _⟩ => core_val rfl rfl (o_move u2),
 fun ρz wz hE hA ⟨e13, _⟩ ⟨u3, _⟩ => gIf rfl rfl (yF rfl u3) fun gc F hF => core_val rfl hF (o_move (e13.trans h13)),
 fun ρz wz hE hA ⟨e15, _⟩ ⟨u3, _⟩ => gIf rfl rfl (yF rfl u3) fun gc F hF => core_val rfl hF (o_move (e15.trans h15)),
 fun ρz wz hE hA _ ⟨u3, u4, u5, _⟩ => gIf rfl rfl (yF rfl u3) fun gc F hF => core_val rfl hF (o_eql (gt gc u4) (gt gc u5) rfl),
 fun ρz wz hE hA _ ⟨u3, u6, _⟩ => gIf rfl rfl (yF rfl u3) fun gc F hF => core_val rfl hF (o_move (gt gc u6)),
 fun ρz wz hE hA ⟨e14, _⟩ ⟨u7, _⟩ => gIf rfl rfl (yTG rfl u7) fun gc F hF => core_val rfl hF (o_move (e14.trans h14)),
 fun ρz wz hE hA ⟨e16, _⟩ ⟨u7, _⟩ => gIf rfl rfl (yTG rfl u7) fun gc F hF => core_val rfl hF (o_move (e16.trans h16)),
 fun ρz wz hE hA _ ⟨u7, u8, u9, _⟩ => gIf rfl rfl (yTG rfl u7) fun gc F hF => core_val rfl hF (o_lss (gt gc u8) (gt gc u9) rfl),
 fun ρz wz hE hA _ ⟨u3, u7, u10, _⟩ => gIf rfl rfl (yF rfl u3) fun gc F hF => core_val rfl hF (o_pick_and (gt gc u7) (gr gc u10) rfl),
 fun ρz wz hE hA _ ⟨u3, u11, _⟩ => core_val rfl rfl (o_pick_or u3 rfl u11),
 fun ρz wz hE hA _ ⟨u12, _⟩ => core_val rfl rfl (o_assign u12), trivial⟩ ?_
  intro ρ14 w14 hN hf hr
  have h86 : ρ14 86 = .bool (decide (z3.1 < z4.1) || ((z3.1 == z4.1) && decide (z3.2 < z4.2))) := hf 13 rfl
  have hW := hW.trans hN
  have hsz := hW.size
  refine WP.cond rfl h86 (fun hb => ?_) (fun hb => ?_)
  · have hF := (if_pos hb).symm.trans hF
    refine WP.seq ?_
    refine WP.rb mixed [[]] [[]] [(8, .int .i64 (-1))] (by kernel_rfl) ⟨fun ρz wz hE hA _ _ => core_val rfl rfl (o_assign rfl), trivial⟩ ?_
    intro ρ15 w15 hN hf hr
    have h8 : ρ15 8 = .int .i64 (-1) := hf 0 rfl
    have hW := hW.trans hN
    have hsz := hW.size
    refine WP.ret ?_
    show retQ Tryd.prog 100 Tryd.f53 (fun v w1 => v = .int .i64 r ∧ Ext noG w0 w1) .ret ρ15 w15
    obtain rfl := Option.some.inj hF
    exact res1 rfl (by decide) h8 ⟨rfl, hW⟩
  have hF := (if_neg (Bool.eq_false_iff.1 hb)).symm.trans hF
  refine WP.skip ?_
  refine WP.seq ?_
  refine WP.rb mixed [[]] [[]] [(8, .int .i64 1)] (by kernel_rfl) ⟨fun ρz wz hE hA _ _ => core_val rfl rfl (o_assign rfl), trivial⟩ ?_
  intro ρ16 w16 hN hf hr
  have h8 : ρ16 8 = .int .i64 1 := hf 0 rfl
  have hW := hW.trans hN
  have hsz := hW.size
  refine WP.ret ?_
  show retQ Tryd.prog 100 Tryd.f53 (fun v w1 => v = .int .i64 r ∧ Ext noG w0 w1) .ret ρ16 w16
  obtain rfl := Option.some.inj hF
  exact res1 rfl (by decide) h8 ⟨rfl, hW⟩

set_option maxHeartbeats 4000000 in
theorem family_worth_ok {w0 : World} (r_ : Right) (t_ : List Rate) (month_ : Int) {v_t_ : Value} (H_t_ : RepSl Rate.R noG w0 v_t_ t_) {r : family_value} (hF : family_worth r_ t_ month_ = some r) :
    Calls Tryd.prog 34 #[Right.val r_, v_t_, .int .i64 month_] w0 fun e w1 => e = .returned (family_value.val r) ∧ Ext noG w0 w1 := by
  refine (Calls.start (P := Tryd.prog) (args := [Right.val r_, v_t_, .int .i64 month_]) (R := fun v w1 => v = family_value.val r ∧ Ext noG w0 w1) (n := 31) (w := w0) Tryd.func34 rfl rfl (Nat.le_of_ble_eq_true rfl) (fun ρ hargs => ?_)).mono (fun e w1 ⟨v, he, hv, hE⟩ => ⟨hv ▸ he, hE⟩)
  have h0 := hargs 0 _ rfl
  have h1 := hargs 1 _ rfl
  have h2 := hargs 2 _ rfl
  have hW := Ext.refl noG w0
  have hsz := Nat.le_refl w0.heap.size
  obtain ⟨_, _, hs_H_t_, _, _⟩ := RepSl.shape H_t_
  have H_t_ := H_t_.start
  rw [family_worth] at hF
  refine WP.seq ?_
  refine WP.rg mixed [[], []] [[], []] [[0], []] [(3, fun u wz => ∃ b, u = .pointer (some ⟨b, 0, none⟩) ∧ w0.heap.size ≤ b ∧ Mb wz b 43 (Right.cells r_)), (6, fun u wz => ∃ b, u = .pointer (some ⟨b, 0, none⟩) ∧ w0.heap.size ≤ b ∧ Mb wz b 64 (family_value.cells (⟨0, 0⟩ : family_value)))] (by kernel_rfl) ⟨fun _ _ _ hE ⟨b, hb, hs, hM⟩ => ⟨b, hb, hs, hM.exn hE⟩, fun _ _ _ hE ⟨b, hb, hs, hM⟩ => ⟨b, hb, hs, hM.exn hE⟩, trivial⟩ ⟨fun ρz wz hE hA ⟨e0, _⟩ _ => core_new rfl rfl hE (o_box (e0.trans h0) (bx_43 _ _)),
 fun ρz wz hE hA _ _ => core_new rfl rfl hE (o_alloc (al_64 _)), trivial⟩ ?_
  intro ρ1 w1 hN hf hr
  obtain ⟨b3_, h3, hge_b3_, Hb_b3_⟩ := hf 0 rfl
  obtain ⟨b6_, h6, hge_b6_, Hb_b6_⟩ := hf 1 rfl
  obtain ⟨h1, h2⟩ := k2 hr h1 h2 rfl
  have H_t_ := H_t_.exn hN
  have hW := hW.trans hN
  have hB_b3_ : w0.heap.size ≤ b3_ := Nat.le_trans hsz hge_b3_
  have hB_b6_ : w0.heap.size ≤ b6_ := Nat.le_trans hsz hge_b6_
  have hsz := hW.size
  refine WP.seq ?_
  obtain ⟨z, hz, hF⟩ := obind hF
  refine WP.region mixed [[], [], [1], [], [0, 2, 3], [4], [5], [5], [], [6, 8], [7, 9]] [[], [], [1], [], [0, 2, 3], [4], [5], [5], [], [6, 8], [7]] [[1], [3], [], [2], [], [], [], [], [], [], []] [9] [(8, 9)] [val 10 (v_t_), val 11 (.pointer (some ((⟨b3_, 0, none⟩ : Addr).add 2))), val 12 (.int .i64 r_.Currency), val 13 (.int .i64 month_), val 14 (.tuple #[Fraction.val z.1, .bool z.2]), val 9 (.tuple #[Fraction.val z.1, .bool z.2]), val 15 (Fraction.val z.1), val 16 (.bool z.2), (7, fun u wz => ∃ b, u = .pointer (some ⟨b, 0, none⟩) ∧ w1.heap.size ≤ b ∧ Mb wz b 54 (Fraction.cells (⟨0, 0⟩ : Fraction))), (7, fun u wz => ∃ b, u = .pointer (some ⟨b, 0, none⟩) ∧ w1.heap.size ≤ b ∧ Mb wz b 54 (Fraction.cells z.1)), val 8 (.bool z.2)] (fun b => w1.heap.size ≤ b) (by kernel_rfl) ⟨sV, sV, sV, sV, sV, sV, sV, sV, fun _ _ _ hE ⟨b, hb, hs, hM⟩ => ⟨b, hb, hs, hM.exn hE⟩, fun _ _ _ hE ⟨b, hb, hs, hM⟩ => ⟨b, hb, hs, hM.exn hE⟩, sV, trivial⟩ ⟨fun ρz wz hE hA ⟨e1, _⟩ _ => core_val rfl rfl (o_move (e1.trans h1)),
 fun ρz wz hE hA ⟨e3, _⟩ _ => core_val rfl rfl (o_fieldAddr (e3.trans h3) (fa_43_2 _ _)),
 fun ρz wz hE hA _ ⟨u1, _⟩ => core_val rfl rfl (o_load u1 (run_load1 (lr_3 _ _) (CA.sub ((Hb_b3_.exn hE.fresh).ca) 2 1))),
 fun ρz wz hE hA ⟨e2, _⟩ _ => core_val rfl rfl (o_move (e2.trans h2)),
 fun ρz wz hE hA _ ⟨u0, u2, u3, _⟩ => core_call rfl (call_args3 u0 u2 u3) cf_52 (money_Value_ok  _ _ _ (H_t_.exn hE.fresh).no hz),
 fun ρz wz hE hA _ ⟨u4, _⟩ => core_val rfl rfl (o_move u4),
 fun ρz wz hE hA _ ⟨u5, _⟩ => core_val rfl rfl (o_extract u5 (by kernel_rfl)),
 fun ρz wz hE hA _ ⟨u5, _⟩ => core_val rfl rfl (o_extract u5 (by kernel_rfl)),
 fun ρz wz hE hA _ _ => core_new rfl rfl hE (o_alloc (al_54 _)),
 fun ρz wz hE hA _ ⟨u6, u8, _⟩ => core_storeNew rfl rfl rfl rfl u6 u8 (fun a w => st_54 _ a w) rfl (one_54 _),
 fun ρz wz hE hA _ ⟨u7, _⟩ => core_val rfl rfl (o_assign u7), trivial⟩ ?_
  intro ρ2 w2 hE hN hf hr
  have hN := hE.fresh
  obtain ⟨b7_, h7, hge_b7_, Hb_b7_⟩ := hf 9 rfl
  have h8 : ρ2 8 = .bool z.2 := hf 10 rfl
  obtain ⟨h3, h6⟩ := k2 hr h3 h6 rfl
  have Hb_b3_n := Hb_b3_.exn hN
  have Hb_b6_n := Hb_b6_.exn hN
  have hW := hW.trans hN
  have Hb_b3_ := Hb_b3_n
  have Hb_b6_ := Hb_b6_n
  have hB_b7_ : w0.heap.size ≤ b7_ := Nat.le_trans hsz hge_b7_
  have hsz := hW.size
  refine WP.seq ?_
  refine WP.seq ?_
  refine WP.rb mixed [[], [0]] [[8], []] [(17, .bool z.2), (18, .bool (!z.2))] (by kernel_rfl) ⟨fun ρz wz hE hA ⟨e8, _⟩ _ => core_val rfl rfl (o_move (e8.trans h8)),
 fun ρz wz hE hA _ ⟨u0, _⟩ => core_val rfl rfl (o_not u0 rfl), trivial⟩ ?_
  intro ρ3 w3 hN hf hr
  have h18 : ρ3 18 = .bool (!z.2) := hf 1 rfl
  obtain ⟨h3, h6, h7⟩ := k3 hr h3 h6 h7 rfl
  have Hb_b3_n := Hb_b3_.exn hN
  have Hb_b6_n := Hb_b6_.exn hN
  have Hb_b7_n := Hb_b7_.exn hN
  have hW := hW.trans hN
  have Hb_b3_ := Hb_b3_n
  have Hb_b6_ := Hb_b6_n
  have Hb_b7_ := Hb_b7_n
  have hsz := hW.size
  refine WP.cond rfl h18 (fun hb => ?_) (fun hb => ?_)
  · have hF := (if_pos hb).symm.trans hF
    refine WP.seq ?_
    refine WP.region mixed [[], [0]] [[], [0]] [[], [6]] [1] [] [val 19 (family_value.val (⟨0, 1⟩ : family_value)), (6, fun _ wz => Mb wz b6_ 64 (family_value.cells (⟨0, 1⟩ : family_value)))] (fun x => x = b6_) (by kernel_rfl) ⟨sV, fun _ _ _ hE hM => hM.exn hE, trivial⟩ ⟨fun ρz wz hE hA _ _ => core_val rfl rfl (o_build (build_parts2 rfl rfl) (bd_64_0_1 _ _ _)),
 fun ρz wz hE hA ⟨e6, _⟩ ⟨u0, _⟩ => core_storeBox rfl rfl (fun _ h => h) (e6.trans h6) u0 (Hb_b6_.exn (hA rfl)) (fun a w => st_64 _ a w) rfl (one_64 _), trivial⟩ ?_
    intro ρ4 w4 hE hN hf hr
    have h6 := (hr 6 rfl).trans h6
    have Hb_b6_n := hf 1 rfl
    have hW := Ext.own hW hE (fun x h => h.symm ▸ hB_b6_)
    have Hb_b6_ := Hb_b6_n
    have hsz := hW.size
    refine WP.ret ?_
    show retQ Tryd.prog 31 Tryd.f34 (fun v w1 => v = family_value.val r ∧ Ext noG w0 w1) .ret ρ4 w4
    obtain rfl := Option.some.inj hF
    exact resC rfl (by decide) h6 (run_loadN (cs := (family_value.cells (⟨0, 1⟩ : family_value))) (lr_64 _ _) rfl Hb_b6_.ca) ⟨rfl, hW⟩
  have hF := (if_neg (Bool.eq_false_iff.1 hb)).symm.trans hF
  refine WP.skip ?_
  refine WP.seq ?_
  refine WP.region mixed [[], [0], [1], [], [3], [4], [2, 5], [], [7], [8], [6, 9], [1, 4, 8, 10]] [[], [0], [1], [], [3], [4], [2, 5], [], [7], [8], [6, 9], [10]] [[3], [], [], [7], [], [], [], [7], [], [], [], [6]] [11] [] [val 20 (.pointer (some ((⟨b3_, 0, none⟩ : Addr).add 3))), val 21 (.int .i64 r_.Amount), val 22 (.int .u64 (u64 r_.Amount)), val 23 (.pointer (some ((⟨b7_, 0, none⟩ : Addr).add 0))), val 24 (.int .i64 z.1.Num), val 25 (.int .u64 (u64 z.1.Num)), val 26 (.int .u64 (u64 (u64 r_.Amount * (u64 z.1.Num)))), val 27 (.pointer (some ((⟨b7_, 0, none⟩ : Addr).add 1))), val 28 (.int .i64 z.1.Den), val 29 (.int .u64 (u64 z.1.Den)), val 30 (family_value.val (⟨u64 (u64 r_.Amount * (u64 z.1.Num)), u64 z.1.Den⟩ : family_value)), (6, fun _ wz => Mb wz b6_ 64 (family_value.cells (⟨u64 (u64 r_.Amount * (u64 z.1.Num)), u64 z.1.Den⟩ : family_value)))] (fun x => x = b6_) (by kernel_rfl) ⟨sV, sV, sV, sV, sV, sV, sV, sV, sV, sV, sV, fun _ _ _ hE hM => hM.exn hE, trivial⟩ ⟨fun ρz wz hE hA ⟨e3, _⟩ _ => core_val rfl rfl (o_fieldAddr (e3.trans h3) (fa_43_3 _ _)),
 fun ρz wz hE hA _ ⟨u0, _⟩ => core_val rfl rfl (o_load u0 (run_load1 (lr_3 _ _) (CA.sub ((Hb_b3_.exn (hA rfl)).ca) 3 1))),
 fun ρz wz hE hA _ ⟨u1, _⟩ => core_val rfl rfl (o_conv u1 (cv_3_62 _ _)),
 fun ρz wz hE hA ⟨e7, _⟩ _ => core_val rfl rfl (o_fieldAddr (e7.trans h7) (fa_54_0 _ _)),
 fun ρz wz hE hA _ ⟨u3, _⟩ => core_val rfl rfl (o_load u3 (run_load1 (lr_3 _ _) (CA.sub ((Hb_b7_.exn (hA rfl)).ca) 0 1))),
 fun ρz wz hE hA _ ⟨u4, _⟩ => core_val rfl rfl (o_conv u4 (cv_3_62 _ _)),
 fun ρz wz hE hA _ ⟨u2, u5, _⟩ => core_val rfl rfl (o_mul u2 u5 rfl),
 fun ρz wz hE hA ⟨e7, _⟩ _ => core_val rfl rfl (o_fieldAddr (e7.trans h7) (fa_54_1 _ _)),
 fun ρz wz hE hA _ ⟨u7, _⟩ => core_val rfl rfl (o_load u7 (run_load1 (lr_3 _ _) (CA.sub ((Hb_b7_.exn (hA rfl)).ca) 1 1))),
 fun ρz wz hE hA _ ⟨u8, _⟩ => core_val rfl rfl (o_conv u8 (cv_3_62 _ _)),
 fun ρz wz hE hA _ ⟨u6, u9, _⟩ => core_val rfl rfl (o_build (build_parts2 u6 u9) (bd_64_0_1 _ _ _)),
 fun ρz wz hE hA ⟨e6, _⟩ ⟨u10, _⟩ => core_storeBox rfl rfl (fun _ h => h) (e6.trans h6) u10 (Hb_b6_.exn (hA rfl)) (fun a w => st_64 _ a w) rfl (one_64 _), trivial⟩ ?_
  intro ρ5 w5 hE hN hf hr
  have h6 := (hr 6 rfl).trans h6
  have Hb_b6_n := hf 11 rfl
  have hW := Ext.own hW hE (fun x h => h.symm ▸ hB_b6_)
  have Hb_b6_ := Hb_b6_n
  have hsz := hW.size
  refine WP.ret ?_
  show retQ Tryd.prog 31 Tryd.f34 (fun v w1 => v = family_value.val r ∧ Ext noG w0 w1) .ret ρ5 w5
  obtain rfl := Option.some.inj hF
  exact resC rfl (by decide) h6 (run_loadN (cs := (family_value.cells (⟨u64 (u64 r_.Amount * (u64 z.1.Num)), u64 z.1.Den⟩ : family_value))) (lr_64 _ _) rfl Hb_b6_.ca) ⟨rfl, hW⟩

set_option maxHeartbeats 4000000 in
theorem pensionref21_before_ok {w0 : World} (a_ : Right) (b_ : Right) (home_ : Int) (t_ : List Rate) (month_ : Int) {v_t_ : Value} (H_t_ : RepSl Rate.R noG w0 v_t_ t_) {r : Bool} (hF : pensionref21_before a_ b_ home_ t_ month_ = some r) :
    Calls Tryd.prog 36 #[Right.val a_, Right.val b_, .int .i64 home_, v_t_, .int .i64 month_] w0 fun e w1 => e = .returned (.bool r) ∧ Ext noG w0 w1 := by
  refine (Calls.start (P := Tryd.prog) (args := [Right.val a_, Right.val b_, .int .i64 home_, v_t_, .int .i64 month_]) (R := fun v w1 => v = .bool r ∧ Ext noG w0 w1) (n := 49) (w := w0) Tryd.func36 rfl rfl (Nat.le_of_ble_eq_true rfl) (fun ρ hargs => ?_)).mono (fun e w1 ⟨v, he, hv, hE⟩ => ⟨hv ▸ he, hE⟩)
  have h0 := hargs 0 _ rfl
  have h1 := hargs 1 _ rfl
  have h2 := hargs 2 _ rfl
  have h3 := hargs 3 _ rfl
  have h4 := hargs 4 _ rfl
  have hW := Ext.refl noG w0
  have hsz := Nat.le_refl w0.heap.size
  obtain ⟨_, _, hs_H_t_, _, _⟩ := RepSl.shape H_t_
  have H_t_ := H_t_.start
  rw [pensionref21_before] at hF
  refine WP.seq ?_
  refine WP.rg mixed [[], [], []] [[], [], []] [[0], [1], []] [(5, fun u wz => ∃ b, u = .pointer (some ⟨b, 0, none⟩) ∧ w0.heap.size ≤ b ∧ Mb wz b 43 (Right.cells a_)), (6, fun u wz => ∃ b, u = .pointer (some ⟨b, 0, none⟩) ∧ w0.heap.size ≤ b ∧ Mb wz b 43 (Right.cells b_)), val 10 (.bool false)] (by kernel_rfl) ⟨fun _ _ _ hE ⟨b, hb, hs, hM⟩ => ⟨b, hb, hs, hM.exn hE⟩, fun _ _ _ hE ⟨b, hb, hs, hM⟩ => ⟨b, hb, hs, hM.exn hE⟩, sV, trivial⟩ ⟨fun ρz wz hE hA ⟨e0, _⟩ _ => core_new rfl rfl hE (o_box (e0.trans h0) (bx_43 _ _)),
 fun ρz wz hE hA ⟨e1, _⟩ _ => core_new rfl rfl hE (o_box (e1.trans h1) (bx_43 _ _)),
 fun ρz wz hE hA _ _ => core_val rfl rfl (o_assign rfl), trivial⟩ ?_
  intro ρ1 w1 hN hf hr
  obtain ⟨b5_, h5, hge_b5_, Hb_b5_⟩ := hf 0 rfl
  obtain ⟨b6_, h6, hge_b6_, Hb_b6_⟩ := hf 1 rfl
  obtain ⟨h2, h3, h4⟩ := k3 hr h2 h3 h4 rfl
  have H_t_ := H_t_.exn hN
  have hW := hW.trans hN
  have hB_b5_ : w0.heap.size ≤ b5_ := Nat.le_trans hsz hge_b5_
  have hB_b6_ : w0.heap.size ≤ b6_ := Nat.le_trans hsz hge_b6_
  have hsz := hW.size
  refine WP.seq ?_
  refine WP.seq ?_
  refine WP.rb mixed [[], [0], [], [2], [1, 3]] [[5], [], [6], [], []] [(12, .pointer (some ((⟨b5_, 0, none⟩ : Addr).add 1))), (13, .int .i64 a_.Basis), (14, .pointer (some ((⟨b6_, 0, none⟩ : Addr).add 1))), (15, .int .i64 b_.Basis), (16, .bool (a_.Basis != b_.Basis))] (by kernel_rfl) ⟨fun ρz wz hE hA ⟨e5, _⟩ _ => core_val rfl rfl (o_fieldAddr (e5.trans h5) (fa_43_1 _ _)),
 fun ρz wz hE hA _ ⟨u0, _⟩ => core_val rfl rfl (o_load u0 (run_load1 (lr_3 _ _) (CA.sub ((Hb_b5_.exn (hA rfl)).ca) 1 1))),
 fun ρz wz hE hA ⟨e6, _⟩ _ => core_val rfl rfl (o_fieldAddr (e6.trans h6) (fa_43_1 _ _)),
 fun ρz wz hE hA _ ⟨u2, _⟩ => core_val rfl rfl (o_load u2 (run_load1 (lr_3 _ _) (CA.sub ((Hb_b6_.exn (hA rfl)).ca) 1 1))),
 fun ρz wz hE hA _ ⟨u1, u3, _⟩ => core_val rfl rfl (o_neq u1 u3 rfl), trivial⟩ ?_
  intro ρ2 w2 hN hf hr
  have h16 : ρ2 16 = .bool (a_.Basis != b_.Basis) := hf 4 rfl
  obtain ⟨h2, h3, h4, h5, h6⟩ := k5 hr h2 h3 h4 h5 h6 rfl
  have Hb_b5_n := Hb_b5_.exn hN
  have Hb_b6_n := Hb_b6_.exn hN
  have H_t_ := H_t_.exn hN
  have hW := hW.trans hN
  have Hb_b5_ := Hb_b5_n
  have Hb_b6_ := Hb_b6_n
  have hsz := hW.size
  refine WP.cond rfl h16 (fun hb => ?_) (fun hb => ?_)
  · have hF := (if_pos hb).symm.trans hF
    refine WP.seq ?_
    refine WP.rb mixed [[], [0], [], [2], [1, 3], [4]] [[5], [], [6], [], [], []] [(17, .pointer (some ((⟨b5_, 0, none⟩ : Addr).add 1))), (18, .int .i64 a_.Basis), (19, .pointer (some ((⟨b6_, 0, none⟩ : Addr).add 1))), (20, .int .i64 b_.Basis), (21, .bool (decide (a_.Basis < b_.Basis))), (10, .bool (decide (a_.Basis < b_.Basis)))] (by kernel_rfl) ⟨fun ρz wz hE hA ⟨e5, _⟩ _ => core_val rfl rfl (o_fieldAddr (e5.trans h5) (fa_43_1 _ _)),
 fun ρz wz hE hA _ ⟨u0, _⟩ => core_val rfl rfl (o_load u0 (run_load1 (lr_3 _ _) (CA.sub ((Hb_b5_.exn (hA rfl)).ca) 1 1))),
 fun ρz wz hE hA ⟨e6, _⟩ _ => core_val rfl rfl (o_fieldAddr (e6.trans h6) (fa_43_1 _ _)),
 fun ρz wz hE hA _ ⟨u2, _⟩ => core_val rfl rfl (o_load u2 (run_load1 (lr_3 _ _) (CA.sub ((Hb_b6_.exn (hA rfl)).ca) 1 1))),
 fun ρz wz hE hA _ ⟨u1, u3, _⟩ => core_val rfl rfl (o_lss u1 u3 rfl),
 fun ρz wz hE hA _ ⟨u4, _⟩ => core_val rfl rfl (o_assign u4), trivial⟩ ?_
    intro ρ3 w3 hN hf hr
    have h10 : ρ3 10 = .bool (decide (a_.Basis < b_.Basis)) := hf 5 rfl
    have hW := hW.trans hN
    have hsz := hW.size
    refine WP.ret ?_
    show retQ Tryd.prog 49 Tryd.f36 (fun v w1 => v = .bool r ∧ Ext noG w0 w1) .ret ρ3 w3
    obtain rfl := Option.some.inj hF
    exact res1 rfl (by decide) h10 ⟨rfl, hW⟩
  have hF := (if_neg (Bool.eq_false_iff.1 hb)).symm.trans hF
  refine WP.skip ?_
  refine WP.seq ?_
  refine WP.seq ?_
  refine WP.rb mixed [[], [0], [], [1, 2], [], [4], [], [5, 6], [3, 7]] [[5], [], [2], [], [6], [], [2], [], []] [(22, .pointer (some ((⟨b5_, 0, none⟩ : Addr).add 0))), (23, .int .i64 a_.State), (24, .int .i64 home_), (25, .bool (a_.State == home_)), (26, .pointer (some ((⟨b6_, 0, none⟩ : Addr).add 0))), (27, .int .i64 b_.State), (28, .int .i64 home_), (29, .bool (b_.State == home_)), (30, .bool ((a_.State == home_) != (b_.State == home_)))] (by kernel_rfl) ⟨fun ρz wz hE hA ⟨e5, _⟩ _ => core_val rfl rfl (o_fieldAddr (e5.trans h5) (fa_43_0 _ _)),
 fun ρz wz hE hA _ ⟨u0, _⟩ => core_val rfl rfl (o_load u0 (run_load1 (lr_3 _ _) (CA.sub ((Hb_b5_.exn (hA rfl)).ca) 0 1))),
 fun ρz wz hE hA ⟨e2, _⟩ _ => core_val rfl rfl (o_move (e2.trans h2)),
 fun ρz wz hE hA _ ⟨u1, u2, _⟩ => core_val rfl rfl (o_eql u1 u2 rfl),
 fun ρz wz hE hA ⟨e6, _⟩ _ => core_val rfl rfl (o_fieldAddr (e6.trans h6) (fa_43_0 _ _)),
 fun ρz wz hE hA _ ⟨u4, _⟩ => core_val rfl rfl (o_load u4 (run_load1 (lr_3 _ _) (CA.sub ((Hb_b6_.exn (hA rfl)).ca) 0 1))),
 fun ρz wz hE hA ⟨e2, _⟩ _ => core_val rfl rfl (o_move (e2.trans h2)),
 fun ρz wz hE hA _ ⟨u5, u6, _⟩ => core_val rfl rfl (o_eql u5 u6 rfl),
 fun ρz wz hE hA _ ⟨u3, u7, _⟩ => core_val rfl rfl (o_neqB u3 u7 (by kernel_rfl) rfl), trivial⟩ ?_
  intro ρ4 w4 hN hf hr
  have h30 : ρ4 30 = .bool ((a_.State == home_) != (b_.State == home_)) := hf 8 rfl
  obtain ⟨h2, h3, h4, h5, h6⟩ := k5 hr h2 h3 h4 h5 h6 rfl
  have Hb_b5_n := Hb_b5_.exn hN
  have Hb_b6_n := Hb_b6_.exn hN
  have H_t_ := H_t_.exn hN
  have hW := hW.trans hN
  have Hb_b5_ := Hb_b5_n
  have Hb_b6_ := Hb_b6_n
  have hsz := hW.size
  refine WP.cond rfl h30 (fun hb => ?_) (fun hb => ?_)
  · have hF := (if_pos hb).symm.trans hF
    refine WP.seq ?_
    refine WP.rb mixed [[], [0], [], [1, 2], [3]] [[5], [], [2], [], []] [(31, .pointer (some ((⟨b5_, 0, none⟩ : Addr).add 0))), (32, .int .i64 a_.State), (33, .int .i64 home_), (34, .bool (a_.State == home_)), (10, .bool (a_.State == home_))] (by kernel_rfl) ⟨fun ρz wz hE hA ⟨e5, _⟩ _ => core_val rfl rfl (o_fieldAddr (e5.trans h5) (fa_43_0 _ _)),
 fun ρz wz hE hA _ ⟨u0, _⟩ => core_val rfl rfl (o_load u0 (run_load1 (lr_3 _ _) (CA.sub ((Hb_b5_.exn (hA rfl)).ca) 0 1))),
 fun ρz wz hE hA ⟨e2, _⟩ _ => core_val rfl rfl (o_move (e2.trans h2)),
 fun ρz wz hE hA _ ⟨u1, u2, _⟩ => core_val rfl rfl (o_eql u1 u2 rfl),
 fun ρz wz hE hA _ ⟨u3, _⟩ => core_val rfl rfl (o_assign u3), trivial⟩ ?_
    intro ρ5 w5 hN hf hr
    have h10 : ρ5 10 = .bool (a_.State == home_) := hf 4 rfl
    have hW := hW.trans hN
    have hsz := hW.size
    refine WP.ret ?_
    show retQ Tryd.prog 49 Tryd.f36 (fun v w1 => v = .bool r ∧ Ext noG w0 w1) .ret ρ5 w5
    obtain rfl := Option.some.inj hF
    exact res1 rfl (by decide) h10 ⟨rfl, hW⟩
  have hF := (if_neg (Bool.eq_false_iff.1 hb)).symm.trans hF
  refine WP.skip ?_
  refine WP.seq ?_
  obtain ⟨z, hz, hF⟩ := obind hF
  refine WP.rb mixed [[], [], [], [], [0, 1, 2, 3], [4]] [[5], [6], [3], [4], [], []] [(35, Right.val a_), (36, Right.val b_), (37, v_t_), (38, .int .i64 month_), (39, .int .i64 z), (11, .int .i64 z)] (by kernel_rfl) ⟨fun ρz wz hE hA ⟨e5, _⟩ _ => core_val rfl rfl (o_load (e5.trans h5) (run_loadN (cs := (Right.cells a_)) (lr_43 _ _) rfl ((Hb_b5_.exn (hA rfl)).ca))),
 fun ρz wz hE hA ⟨e6, _⟩ _ => core_val rfl rfl (o_load (e6.trans h6) (run_loadN (cs := (Right.cells b_)) (lr_43 _ _) rfl ((Hb_b6_.exn (hA rfl)).ca))),
 fun ρz wz hE hA ⟨e3, _⟩ _ => core_val rfl rfl (o_move (e3.trans h3)),
 fun ρz wz hE hA ⟨e4, _⟩ _ => core_val rfl rfl (o_move (e4.trans h4)),
 fun ρz wz hE hA _ ⟨u0, u1, u2, u3, _⟩ => core_call rfl (call_args4 u0 u1 u2 u3) cf_53 (pensionref21_worth_ok  _ _ _ _ (H_t_.exn (hA rfl)).no hz),
 fun ρz wz hE hA _ ⟨u4, _⟩ => core_val rfl rfl (o_assign u4), trivial⟩ ?_
  intro ρ6 w6 hN hf hr
  have h11 : ρ6 11 = .int .i64 z := hf 5 rfl
  obtain ⟨h5, h6⟩ := k2 hr h5 h6 rfl
  have Hb_b5_n := Hb_b5_.exn hN
  have Hb_b6_n := Hb_b6_.exn hN
  have hW := hW.trans hN
  have Hb_b5_ := Hb_b5_n
  have Hb_b6_ := Hb_b6_n
  have hsz := hW.size
  refine WP.seq ?_
  refine WP.seq ?_
  refine WP.rb mixed [[], [0]] [[11], []] [(40, .int .i64 z), (41, .bool (z != 0))] (by kernel_rfl) ⟨fun ρz wz hE hA ⟨e11, _⟩ _ => core_val rfl rfl (o_move (e11.trans h11)),
 fun ρz wz hE hA _ ⟨u0, _⟩ => core_val rfl rfl (o_neq u0 rfl rfl), trivial⟩ ?_
  intro ρ7 w7 hN hf hr
  have h41 : ρ7 41 = .bool (z != 0) := hf 1 rfl
  obtain ⟨h5, h6, h11⟩ := k3 hr h5 h6 h11 rfl
  have Hb_b5_n := Hb_b5_.exn hN
  have Hb_b6_n := Hb_b6_.exn hN
  have hW := hW.trans hN
  have Hb_b5_ := Hb_b5_n
  have Hb_b6_ := Hb_b6_n
  have hsz := hW.size
  refine WP.cond rfl h41 (fun hb => ?_) (fun hb => ?_)
  · have hF := (if_pos hb).symm.trans hF
    refine WP.seq ?_
    refine WP.rb mixed [[], [0], [1]] [[11], [], []] [(42, .int .i64 z), (43, .bool (decide (0 < z))), (10, .bool (decide (0 < z)))] (by kernel_rfl) ⟨fun ρz wz hE hA ⟨e11, _⟩ _ => core_val rfl rfl (o_move (e11.trans h11)),
 fun ρz wz hE hA _ ⟨u0, _⟩ => core_val rfl rfl (o_gtr u0 rfl rfl),
 fun ρz wz hE hA _ ⟨u1, _⟩ => core_val rfl rfl (o_assign u1), trivial⟩ ?_
    intro ρ8 w8 hN hf hr
    have h10 : ρ8 10 = .bool (decide (0 < z)) := hf 2 rfl
    have hW := hW.trans hN
    have hsz := hW.size
    refine WP.ret ?_
    show retQ Tryd.prog 49 Tryd.f36 (fun v w1 => v = .bool r ∧ Ext noG w0 w1) .ret ρ8 w8
    obtain rfl := Option.some.inj hF
    exact res1 rfl (by decide) h10 ⟨rfl, hW⟩
  have hF := (if_neg (Bool.eq_false_iff.1 hb)).symm.trans hF
  refine WP.skip ?_
  refine WP.seq ?_
  refine WP.rb mixed [[], [0], [], [2], [1, 3], [4]] [[5], [], [6], [], [], []] [(44, .pointer (some ((⟨b5_, 0, none⟩ : Addr).add 0))), (45, .int .i64 a_.State), (46, .pointer (some ((⟨b6_, 0, none⟩ : Addr).add 0))), (47, .int .i64 b_.State), (48, .bool (decide (a_.State < b_.State))), (10, .bool (decide (a_.State < b_.State)))] (by kernel_rfl) ⟨fun ρz wz hE hA ⟨e5, _⟩ _ => core_val rfl rfl (o_fieldAddr (e5.trans h5) (fa_43_0 _ _)),
 fun ρz wz hE hA _ ⟨u0, _⟩ => core_val rfl rfl (o_load u0 (run_load1 (lr_3 _ _) (CA.sub ((Hb_b5_.exn (hA rfl)).ca) 0 1))),
 fun ρz wz hE hA ⟨e6, _⟩ _ => core_val rfl rfl (o_fieldAddr (e6.trans h6) (fa_43_0 _ _)),
 fun ρz wz hE hA _ ⟨u2, _⟩ => core_val rfl rfl (o_load u2 (run_load1 (lr_3 _ _) (CA.sub ((Hb_b6_.exn (hA rfl)).ca) 0 1))),
 fun ρz wz hE hA _ ⟨u1, u3, _⟩ => core_val rfl rfl (o_lss u1 u3 rfl),
 fun ρz wz hE hA _ ⟨u4, _⟩ => core_val rfl rfl (o_assign u4), trivial⟩ ?_
  intro ρ9 w9 hN hf hr
  have h10 : ρ9 10 = .bool (decide (a_.State < b_.State)) := hf 5 rfl
  have hW := hW.trans hN
  have hsz := hW.size
  refine WP.ret ?_
  show retQ Tryd.prog 49 Tryd.f36 (fun v w1 => v = .bool r ∧ Ext noG w0 w1) .ret ρ9 w9
  obtain rfl := Option.some.inj hF
  exact res1 rfl (by decide) h10 ⟨rfl, hW⟩

set_option maxHeartbeats 4000000 in
theorem family_compare_ok {w0 : World} (a_ : family_value) (b_ : family_value) {r : Int} (hF : family_compare a_ b_ = some r) :
    Calls Tryd.prog 33 #[family_value.val a_, family_value.val b_] w0 fun e w1 => e = .returned (.int .i64 r) ∧ Ext noG w0 w1 := by
  refine (Calls.start (P := Tryd.prog) (args := [family_value.val a_, family_value.val b_]) (R := fun v w1 => v = .int .i64 r ∧ Ext noG w0 w1) (n := 33) (w := w0) Tryd.func33 rfl rfl (Nat.le_of_ble_eq_true rfl) (fun ρ hargs => ?_)).mono (fun e w1 ⟨v, he, hv, hE⟩ => ⟨hv ▸ he, hE⟩)
  have h0 := hargs 0 _ rfl
  have h1 := hargs 1 _ rfl
  have hW := Ext.refl noG w0
  have hsz := Nat.le_refl w0.heap.size
  rw [family_compare] at hF
  refine WP.seq ?_
  refine WP.rg mixed [[], [], []] [[], [], []] [[0], [1], []] [(2, fun u wz => ∃ b, u = .pointer (some ⟨b, 0, none⟩) ∧ w0.heap.size ≤ b ∧ Mb wz b 64 (family_value.cells a_)), (3, fun u wz => ∃ b, u = .pointer (some ⟨b, 0, none⟩) ∧ w0.heap.size ≤ b ∧ Mb wz b 64 (family_value.cells b_)), val 4 (.int .i64 0)] (by kernel_rfl) ⟨fun _ _ _ hE ⟨b, hb, hs, hM⟩ => ⟨b, hb, hs, hM.exn hE⟩, fun _ _ _ hE ⟨b, hb, hs, hM⟩ => ⟨b, hb, hs, hM.exn hE⟩, sV, trivial⟩ ⟨fun ρz wz hE hA ⟨e0, _⟩ _ => core_new rfl rfl hE (o_box (e0.trans h0) (bx_64 _ _)),
 fun ρz wz hE hA ⟨e1, _⟩ _ => core_new rfl rfl hE (o_box (e1.trans h1) (bx_64 _ _)),
 fun ρz wz hE hA _ _ => core_val rfl rfl (o_assign rfl), trivial⟩ ?_
  intro ρ1 w1 hN hf hr
  obtain ⟨b2_, h2, hge_b2_, Hb_b2_⟩ := hf 0 rfl
  obtain ⟨b3_, h3, hge_b3_, Hb_b3_⟩ := hf 1 rfl
  have hW := hW.trans hN
  have hB_b2_ : w0.heap.size ≤ b2_ := Nat.le_trans hsz hge_b2_
  have hB_b3_ : w0.heap.size ≤ b3_ := Nat.le_trans hsz hge_b3_
  have hsz := hW.size
  refine WP.seq ?_
  obtain ⟨z, hz, hF⟩ := obind hF
  refine WP.rb mixed [[], [0], [], [2], [1, 3], [4], [5], [5], [6], [7]] [[2], [], [3], [], [], [], [], [], [], []] [(10, .pointer (some ((⟨b2_, 0, none⟩ : Addr).add 0))), (11, .int .u64 a_.num), (12, .pointer (some ((⟨b3_, 0, none⟩ : Addr).add 1))), (13, .int .u64 b_.den), (14, .tuple #[.int .u64 z.1, .int .u64 z.2]), (9, .tuple #[.int .u64 z.1, .int .u64 z.2]), (15, .int .u64 z.1), (16, .int .u64 z.2), (5, .int .u64 z.1), (6, .int .u64 z.2)] (by kernel_rfl) ⟨fun ρz wz hE hA ⟨e2, _⟩ _ => core_val rfl rfl (o_fieldAddr (e2.trans h2) (fa_64_0 _ _)),
 fun ρz wz hE hA _ ⟨u0, _⟩ => core_val rfl rfl (o_load u0 (run_load1 (lr_62 _ _) (CA.sub ((Hb_b2_.exn (hA rfl)).ca) 0 1))),
 fun ρz wz hE hA ⟨e3, _⟩ _ => core_val rfl rfl (o_fieldAddr (e3.trans h3) (fa_64_1 _ _)),
 fun ρz wz hE hA _ ⟨u2, _⟩ => core_val rfl rfl (o_load u2 (run_load1 (lr_62 _ _) (CA.sub ((Hb_b3_.exn (hA rfl)).ca) 1 1))),
 fun ρz wz hE hA _ ⟨u1, u3, _⟩ => core_call rfl (call_args2 u1 u3) cf_50 (bits_Mul64_ok  _ _  hz),
 fun ρz wz hE hA _ ⟨u4, _⟩ => core_val rfl rfl (o_move u4),
 fun ρz wz hE hA _ ⟨u5, _⟩ => core_val rfl rfl (o_extract u5 (by kernel_rfl)),
 fun ρz wz hE hA _ ⟨u5, _⟩ => core_val rfl rfl (o_extract u5 (by kernel_rfl)),
 fun ρz wz hE hA _ ⟨u6, _⟩ => core_val rfl rfl (o_assign u6),
 fun ρz wz hE hA _ ⟨u7, _⟩ => core_val rfl rfl (o_assign u7), trivial⟩ ?_
  intro ρ2 w2 hN hf hr
  have h5 : ρ2 5 = .int .u64 z.1 := hf 8 rfl
  have h6 : ρ2 6 = .int .u64 z.2 := hf 9 rfl
  obtain ⟨h2, h3⟩ := k2 hr h2 h3 rfl
  have Hb_b2_n := Hb_b2_.exn hN
  have Hb_b3_n := Hb_b3_.exn hN
  have hW := hW.trans hN
  have Hb_b2_ := Hb_b2_n
  have Hb_b3_ := Hb_b3_n
  have hsz := hW.size
  refine WP.seq ?_
  obtain ⟨z2, hz2, hF⟩ := obind hF
  refine WP.rb mixed [[], [0], [], [2], [1, 3], [4], [5], [5], [6], [7]] [[3], [], [2], [], [], [], [], [], [], []] [(18, .pointer (some ((⟨b3_, 0, none⟩ : Addr).add 0))), (19, .int .u64 b_.num), (20, .pointer (some ((⟨b2_, 0, none⟩ : Addr).add 1))), (21, .int .u64 a_.den), (22, .tuple #[.int .u64 z2.1, .int .u64 z2.2]), (17, .tuple #[.int .u64 z2.1, .int .u64 z2.2]), (23, .int .u64 z2.1), (24, .int .u64 z2.2), (7, .int .u64 z2.1), (8, .int .u64 z2.2)] (by kernel_rfl) ⟨fun ρz wz hE hA ⟨e3, _⟩ _ => core_val rfl rfl (o_fieldAddr (e3.trans h3) (fa_64_0 _ _)),
 fun ρz wz hE hA _ ⟨u0, _⟩ => core_val rfl rfl (o_load u0 (run_load1 (lr_62 _ _) (CA.sub ((Hb_b3_.exn (hA rfl)).ca) 0 1))),
 fun ρz wz hE hA ⟨e2, _⟩ _ => core_val rfl rfl (o_fieldAddr (e2.trans h2) (fa_64_1 _ _)),
 fun ρz wz hE hA _ ⟨u2, _⟩ => core_val rfl rfl (o_load u2 (run_load1 (lr_62 _ _) (CA.sub ((Hb_b2_.exn (hA rfl)).ca) 1 1))),
 fun ρz wz hE hA _ ⟨u1, u3, _⟩ => core_call rfl (call_args2 u1 u3) cf_50 (bits_Mul64_ok  _ _  hz2),
 fun ρz wz hE hA _ ⟨u4, _⟩ => core_val rfl rfl (o_move u4),
 fun ρz wz hE hA _ ⟨u5, _⟩ => core_val rfl rfl (o_extract u5 (by kernel_rfl)),
 fun ρz wz hE hA _ ⟨u5, _⟩ => core_val rfl rfl (o_extract u5 (by kernel_rfl)),
 fun ρz wz hE hA _ ⟨u6, _⟩ => core_val rfl rfl (o_assign u6),
 fun ρz wz hE hA _ ⟨u7, _⟩ => core_val rfl rfl (o_assign u7), trivial⟩ ?_
  intro ρ3 w3 hN hf hr
  have h7 : ρ3 7 = .int .u64 z2.1 := hf 8 rfl
  have h8 : ρ3 8 = .int .u64 z2.2 := hf 9 rfl
  obtain ⟨h5, h6⟩ := k2 hr h5 h6 rfl
  have hW := hW.trans hN
  have hsz := hW.size
  refine WP.seq ?_
  obtain ⟨z3, hz3, hF⟩ := obind hF
  obtain ⟨z4, hz4, hF⟩ := obind hF
  obtain ⟨z5, hz5, hF⟩ := obind hF
  refine WP.rg mixed [[], [], [0, 1], [], [], [3, 4], [2, 5], [6], [7]] [[], [], [0, 1], [], [], [3, 4], [2, 5], [6], [7]] [[5], [7], [], [6], [8], [], [], [], []] [val 25 (.int .u64 z.1), val 26 (.int .u64 z2.1), val 27 (.int .i64 z3), val 28 (.int .u64 z.2), val 29 (.int .u64 z2.2), val 30 (.int .i64 z4), (31, fun u wz => ∃ b, u = .slice (some ⟨b, 0, none⟩) 2 2 ∧ w3.heap.size ≤ b ∧ Mb wz b 3 (([z3, z4]).flatMap (fun x : Int => [Value.int .i64 x]))), val 32 (.int .i64 z5), val 4 (.int .i64 z5)] (by kernel_rfl) ⟨sV, sV, sV, sV, sV, sV, fun _ _ _ hE ⟨b, hz, hs, hM⟩ => ⟨b, hz, hs, hM.exn hE⟩, sV, sV, trivial⟩ ⟨fun ρz wz hE hA ⟨e5, _⟩ _ => core_val rfl rfl (o_move (e5.trans h5)),
 fun ρz wz hE hA ⟨e7, _⟩ _ => core_val rfl rfl (o_move (e7.trans h7)),
 fun ρz wz hE hA _ ⟨u0, u1, _⟩ => core_call rfl (call_args2 u0 u1) cf_51 (cmp_Compare_of_uint64_ok  _ _  hz3),
 fun ρz wz hE hA ⟨e6, _⟩ _ => core_val rfl rfl (o_move (e6.trans h6)),
 fun ρz wz hE hA ⟨e8, _⟩ _ => core_val rfl rfl (o_move (e8.trans h8)),
 fun ρz wz hE hA _ ⟨u3, u4, _⟩ => core_call rfl (call_args2 u3 u4) cf_51 (cmp_Compare_of_uint64_ok  _ _  hz4),
 fun ρz wz hE hA _ ⟨u2, u5, _⟩ => core_slice rfl rfl hE (o_buildSlice (build_parts2 u2 u5) (bs_23_2 _ _ _)),
 fun ρz wz hE hA _ ⟨⟨bz6, hz6, hge6, hM6⟩, _⟩ => core_call rfl (call_args1 hz6) cf_31 (cmp_Or_of_int_ok  _ (Mb.rep (n := 1) (cells := fun x : Int => [Value.int .i64 x]) (hn := fun _ => rfl) (G := noG) hM6 rfl (Nat.le_of_ble_eq_true rfl) (fun h => h)).no hz5),
 fun ρz wz hE hA _ ⟨u7, _⟩ => core_val rfl rfl (o_assign u7), trivial⟩ ?_
  intro ρ4 w4 hN hf hr
  have h4 : ρ4 4 = .int .i64 z5 := hf 8 rfl
  have hW := hW.trans hN
  have hsz := hW.size
  refine WP.ret ?_
  show retQ Tryd.prog 33 Tryd.f33 (fun v w1 => v = .int .i64 r ∧ Ext noG w0 w1) .ret ρ4 w4
  obtain rfl := Option.some.inj hF
  exact res1 rfl (by decide) h4 ⟨rfl, hW⟩

set_option maxHeartbeats 4000000 in
theorem family_valid_1_ok {w0 : World} (o_ : Right) (c_ : Right) {bc1_ : Nat} (Hb_bc1_ : Mb w0 bc1_ 43 (Right.cells c_)) {r : Bool} (hF : family_valid_1 o_ c_ = some r) :
    Calls Tryd.prog 42 #[Right.val o_, .pointer (some ⟨bc1_, 0, none⟩)] w0 fun e w1 => e = .returned (.bool r) ∧ Ext noG w0 w1 := by
  refine (Calls.start (P := Tryd.prog) (args := [Right.val o_, .pointer (some ⟨bc1_, 0, none⟩)]) (R := fun v w1 => v = .bool r ∧ Ext noG w0 w1) (n := 9) (w := w0) Tryd.func42 rfl rfl (Nat.le_of_ble_eq_true rfl) (fun ρ hargs => ?_)).mono (fun e w1 ⟨v, he, hv, hE⟩ => ⟨hv ▸ he, hE⟩)
  have h0 := hargs 0 _ rfl
  have h1 := hargs 1 _ rfl
  have hW := Ext.refl noG w0
  have hsz := Nat.le_refl w0.heap.size
  rw [family_valid_1] at hF
  refine WP.seq ?_
  refine WP.rg mixed [[], []] [[], []] [[0], []] [(2, fun u wz => ∃ b, u = .pointer (some ⟨b, 0, none⟩) ∧ w0.heap.size ≤ b ∧ Mb wz b 43 (Right.cells o_)), val 3 (.bool false)] (by kernel_rfl) ⟨fun _ _ _ hE ⟨b, hb, hs, hM⟩ => ⟨b, hb, hs, hM.exn hE⟩, sV, trivial⟩ ⟨fun ρz wz hE hA ⟨e0, _⟩ _ => core_new rfl rfl hE (o_box (e0.trans h0) (bx_43 _ _)),
 fun ρz wz hE hA _ _ => core_val rfl rfl (o_assign rfl), trivial⟩ ?_
  intro ρ1 w1 hN hf hr
  obtain ⟨b2_, h2, hge_b2_, Hb_b2_⟩ := hf 0 rfl
  have h1 := (hr 1 rfl).trans h1
  have Hb_bc1_n := Hb_bc1_.exn hN
  have hW := hW.trans hN
  have Hb_bc1_ := Hb_bc1_n
  have hB_b2_ : w0.heap.size ≤ b2_ := Nat.le_trans hsz hge_b2_
  have hsz := hW.size
  refine WP.seq ?_
  refine WP.rb mixed [[], [0], [], [2], [1, 3], [4]] [[2], [], [1], [], [], []] [(4, .pointer (some ((⟨b2_, 0, none⟩ : Addr).add 0))), (5, .int .i64 o_.State), (6, .pointer (some ((⟨bc1_, 0, none⟩ : Addr).add 0))), (7, .int .i64 c_.State), (8, .bool (o_.State == c_.State)), (3, .bool (o_.State == c_.State))] (by kernel_rfl) ⟨fun ρz wz hE hA ⟨e2, _⟩ _ => core_val rfl rfl (o_fieldAddr (e2.trans h2) (fa_43_0 _ _)),
 fun ρz wz hE hA _ ⟨u0, _⟩ => core_val rfl rfl (o_load u0 (run_load1 (lr_3 _ _) (CA.sub ((Hb_b2_.exn (hA rfl)).ca) 0 1))),
 fun ρz wz hE hA ⟨e1, _⟩ _ => core_val rfl rfl (o_fieldAddr (e1.trans h1) (fa_43_0 _ _)),
 fun ρz wz hE hA _ ⟨u2, _⟩ => core_val rfl rfl (o_load u2 (run_load1 (lr_3 _ _) (CA.sub ((Hb_bc1_.exn (hA rfl)).ca) 0 1))),
 fun ρz wz hE hA _ ⟨u1, u3, _⟩ => core_val rfl rfl (o_eql u1 u3 rfl),
 fun ρz wz hE hA _ ⟨u4, _⟩ => core_val rfl rfl (o_assign u4), trivial⟩ ?_
  intro ρ2 w2 hN hf hr
  have h3 : ρ2 3 = .bool (o_.State == c_.State) := hf 5 rfl
  have hW := hW.trans hN
  have hsz := hW.size
  refine WP.ret ?_
  show retQ Tryd.prog 9 Tryd.f42 (fun v w1 => v = .bool r ∧ Ext noG w0 w1) .ret ρ2 w2
  obtain rfl := Option.some.inj hF
  exact res1 rfl (by decide) h3 ⟨rfl, hW⟩

set_option maxHeartbeats 4000000 in
theorem slices_IndexFunc_of_api_Right_ok {w0 : World} (s_ : List Right) (f_ : Right → Option Bool) {v_s_ : Value} (H_s_ : RepSl Right.R noG w0 v_s_ s_) {v_f_ : Value} (H_f_ : FnR Tryd.prog fnV_75 fnW_75 f_ noG w0 v_f_) {r : Int} (hF : slices_IndexFunc_of_api_Right s_ f_ = some r) :
    Calls Tryd.prog 66 #[v_s_, v_f_] w0 fun e w1 => e = .returned (.int .i64 r) ∧ Ext noG w0 w1 := by
  refine (Calls.start (P := Tryd.prog) (args := [v_s_, v_f_]) (R := fun v w1 => v = .int .i64 r ∧ Ext noG w0 w1) (n := 19) (w := w0) Tryd.func66 rfl rfl (Nat.le_of_ble_eq_true rfl) (fun ρ hargs => ?_)).mono (fun e w1 ⟨v, he, hv, hE⟩ => ⟨hv ▸ he, hE⟩)
  have h0 := hargs 0 _ rfl
  have h1 := hargs 1 _ rfl
  have hW := Ext.refl noG w0
  have hsz := Nat.le_refl w0.heap.size
  obtain ⟨_, _, hs_H_s_, _, _⟩ := RepSl.shape H_s_
  have H_s_ := H_s_.start
  have H_f_ := H_f_.start
  rw [slices_IndexFunc_of_api_Right] at hF
  refine WP.seq ?_
  refine WP.rb mixed [[]] [[]] [(4, .int .i64 0)] (by kernel_rfl) ⟨fun ρz wz hE hA _ _ => core_val rfl rfl (o_assign rfl), trivial⟩ ?_
  intro ρ1 w1 hN hf hr
  obtain ⟨h0, h1⟩ := k2 hr h0 h1 rfl
  have H_s_ := H_s_.exn hN
  have H_f_ := H_f_.exn hN
  have hW := hW.trans hN
  have hsz := hW.size
  refine WP.seq ?_
  refine WP.seq ?_
  refine WP.rb mixed [[], [0], []] [[0], [], []] [(6, v_s_), (7, .int .i64 (s_.length : Int)), (8, .int .i64 0)] (by kernel_rfl) ⟨fun ρz wz hE hA ⟨e0, _⟩ _ => core_val rfl rfl (o_move (e0.trans h0)),
 fun ρz wz hE hA _ ⟨u0, _⟩ => core_val rfl rfl (o_len (u0.trans hs_H_s_) len_24),
 fun ρz wz hE hA _ _ => core_val rfl rfl (o_move rfl), trivial⟩ ?_
  intro ρ2 w2 hN hf hr
  have h7 : ρ2 7 = .int .i64 (s_.length : Int) := hf 1 rfl
  have h8 : ρ2 8 = .int .i64 0 := hf 2 rfl
  obtain ⟨h0, h1⟩ := k2 hr h0 h1 rfl
  have H_s_ := H_s_.exn hN
  have H_f_ := H_f_.exn hN
  have hW := hW.trans hN
  have hsz := hW.size
  refine WP.block ?_
  refine WP.loop (fun k_ ρ w => ∃ x : Int, ρ 0 = v_s_ ∧ ρ 1 = v_f_ ∧ ρ 7 = .int .i64 (s_.length : Int) ∧ ρ 8 = .int .i64 x ∧ RepSl Right.R (gfr noG w0) w v_s_ s_ ∧ FnR Tryd.prog fnV_75 fnW_75 f_ (gfr noG w0) w v_f_ ∧ Ext noG w0 w ∧ w0.heap.size ≤ w.heap.size ∧ loopC k_ (slices_IndexFunc_of_api_Right_l s_ f_) x = some r) FU ⟨0, h0, h1, h7, h8, H_s_, H_f_, hW, hsz, hF⟩ (fun _ _ h => by obtain ⟨_, _, _, _, _, _, _, _, _, h⟩ := h; cases h) ?_
  rintro k_ ρ3 w3 ⟨x, h0, h1, h7, h8, H_s_, H_f_, hW, hsz, hF⟩
  have hF : slices_IndexFunc_of_api_Right_l s_ f_ (loopC k_ (slices_IndexFunc_of_api_Right_l s_ f_)) x = some r := hF
  generalize hrec_ : loopC k_ (slices_IndexFunc_of_api_Right_l s_ f_) = rec_ at hF
  rw [slices_IndexFunc_of_api_Right_l] at hF
  refine WP.seq ?_
  refine WP.rb mixed [[]] [[8, 7]] [(9, .bool (decide (x < (s_.length : Int))))] (by kernel_rfl) ⟨fun ρz wz hE hA ⟨e8, e7, _⟩ _ => core_val rfl rfl (o_lss (e8.trans h8) (e7.trans h7) rfl), trivial⟩ ?_
  intro ρ4 w4 hN hf hr
  have h9 : ρ4 9 = .bool (decide (x < (s_.length : Int))) := hf 0 rfl
  obtain ⟨h0, h1, h7, h8⟩ := k4 hr h0 h1 h7 h8 rfl
  have H_s_ := H_s_.exn hN
  have H_f_ := H_f_.exn hN
  have hW := hW.trans hN
  have hsz := hW.size
  refine WP.seq ?_
  refine WP.cond rfl h9 (fun hb => ?_) (fun hb => ?_)
  · have hF := (if_pos hb).symm.trans hF
    refine WP.skip ?_
    refine WP.seq ?_
    refine WP.block ?_
    refine WP.seq ?_
    refine WP.rb mixed [[], [0]] [[8], []] [(10, .int .i64 x), (5, .int .i64 x)] (by kernel_rfl) ⟨fun ρz wz hE hA ⟨e8, _⟩ _ => core_val rfl rfl (o_move (e8.trans h8)),
 fun ρz wz hE hA _ ⟨u0, _⟩ => core_val rfl rfl (o_assign u0), trivial⟩ ?_
    intro ρ5 w5 hN hf hr
    have h5 : ρ5 5 = .int .i64 x := hf 1 rfl
    obtain ⟨h0, h1, h7, h8⟩ := k4 hr h0 h1 h7 h8 rfl
    have H_s_ := H_s_.exn hN
    have H_f_ := H_f_.exn hN
    have hW := hW.trans hN
    have hsz := hW.size
    refine WP.seq ?_
    obtain ⟨y, hy, hF⟩ := obind hF
    obtain ⟨ay, cy, hvy, hiy, hAy⟩ := RepSl.getF H_s_ hy
    obtain ⟨z, hz, hF⟩ := obind hF
    refine WP.rb mixed [[], [], [], [1, 2], [3], [0, 4]] [[1], [0], [5], [], [], []] [(11, v_f_), (12, v_s_), (13, .int .i64 x), (14, .pointer (some (ay.add (Int.toNat x * 4)))), (15, Right.val y), (16, .bool z)] (by kernel_rfl) ⟨fun ρz wz hE hA ⟨e1, _⟩ _ => core_val rfl rfl (o_move (e1.trans h1)),
 fun ρz wz hE hA ⟨e0, _⟩ _ => core_val rfl rfl (o_move (e0.trans h0)),
 fun ρz wz hE hA ⟨e5, _⟩ _ => core_val rfl rfl (o_move (e5.trans h5)),
 fun ρz wz hE hA _ ⟨u1, u2, _⟩ => core_val rfl rfl (o_indexAddr (u1.trans hvy) u2 (ia_24 hiy)),
 fun ρz wz hE hA _ ⟨u3, _⟩ => core_val rfl rfl (o_load u3 (run_loadN (cs := (Right.cells y)) (lr_43 _ _) rfl ((hAy.exn (hA rfl)).ca))),
 fun ρz wz hE hA _ ⟨u0, u4, _⟩ => core_callF (V := fnV_75) (W := fnW_75) (a := y) (r := z) rfl u0 (call_args1 u4) (H_f_.exn (hA rfl)).no hz, trivial⟩ ?_
    intro ρ6 w6 hN hf hr
    have h16 : ρ6 16 = .bool z := hf 5 rfl
    obtain ⟨h0, h1, h7, h8, h5⟩ := k5 hr h0 h1 h7 h8 h5 rfl
    have H_s_ := H_s_.exn hN
    have H_f_ := H_f_.exn hN
    have hW := hW.trans hN
    have hsz := hW.size
    refine WP.cond rfl h16 (fun hb => ?_) (fun hb => ?_)
    · have hF := (if_pos hb).symm.trans hF
      refine WP.seq ?_
      refine WP.rb mixed [[], [0]] [[5], []] [(17, .int .i64 x), (4, .int .i64 x)] (by kernel_rfl) ⟨fun ρz wz hE hA ⟨e5, _⟩ _ => core_val rfl rfl (o_move (e5.trans h5)),
 fun ρz wz hE hA _ ⟨u0, _⟩ => core_val rfl rfl (o_assign u0), trivial⟩ ?_
      intro ρ7 w7 hN hf hr
      have h4 : ρ7 4 = .int .i64 x := hf 1 rfl
      have hW := hW.trans hN
      have hsz := hW.size
      refine WP.ret ?_
      show retQ Tryd.prog 19 Tryd.f66 (fun v w1 => v = .int .i64 r ∧ Ext noG w0 w1) .ret ρ7 w7
      obtain rfl := Option.some.inj hF
      exact res1 rfl (by decide) h4 ⟨rfl, hW⟩
    have hF := (if_neg (Bool.eq_false_iff.1 hb)).symm.trans hF
    refine WP.skip ?_
    refine WP.rb mixed [[], [0]] [[8], []] [(18, .int .i64 (i64 (x + 1))), (8, .int .i64 (i64 (x + 1)))] (by kernel_rfl) ⟨fun ρz wz hE hA ⟨e8, _⟩ _ => core_val rfl rfl (o_add (e8.trans h8) rfl rfl),
 fun ρz wz hE hA _ ⟨u0, _⟩ => core_val rfl rfl (o_move u0), trivial⟩ ?_
    intro ρ8 w8 hN hf hr
    have h8 : ρ8 8 = .int .i64 (i64 (x + 1)) := hf 1 rfl
    obtain ⟨h0, h1, h7⟩ := k3 hr h0 h1 h7 rfl
    have H_s_ := H_s_.exn hN
    have H_f_ := H_f_.exn hN
    have hW := hW.trans hN
    have hsz := hW.size
    exact ⟨i64 (x + 1), h0, h1, h7, h8, H_s_, H_f_, hW, hsz, (by first | exact hF | (rw [hrec_]; exact hF))⟩
  have hF := (if_neg (Bool.eq_false_iff.1 hb)).symm.trans hF
  refine WP.exit ?_
  refine thenQ_exit ?_
  refine thenQ_exit ?_
  refine blockQ_hit ?_
  refine WP.seq ?_
  refine WP.rb mixed [[]] [[]] [(4, .int .i64 (-1))] (by kernel_rfl) ⟨fun ρz wz hE hA _ _ => core_val rfl rfl (o_assign rfl), trivial⟩ ?_
  intro ρ9 w9 hN hf hr
  have h4 : ρ9 4 = .int .i64 (-1) := hf 0 rfl
  have hW := hW.trans hN
  have hsz := hW.size
  refine WP.ret ?_
  show retQ Tryd.prog 19 Tryd.f66 (fun v w1 => v = .int .i64 r ∧ Ext noG w0 w1) .ret ρ9 w9
  obtain rfl := Option.some.inj hF
  exact res1 rfl (by decide) h4 ⟨rfl, hW⟩

set_option maxHeartbeats 4000000 in
theorem slices_ContainsFunc_of_api_Right_ok {w0 : World} (s_ : List Right) (f_ : Right → Option Bool) {v_s_ : Value} (H_s_ : RepSl Right.R noG w0 v_s_ s_) {v_f_ : Value} (H_f_ : FnR Tryd.prog fnV_75 fnW_75 f_ noG w0 v_f_) {r : Bool} (hF : slices_ContainsFunc_of_api_Right s_ f_ = some r) :
    Calls Tryd.prog 41 #[v_s_, v_f_] w0 fun e w1 => e = .returned (.bool r) ∧ Ext noG w0 w1 := by
  refine (Calls.start (P := Tryd.prog) (args := [v_s_, v_f_]) (R := fun v w1 => v = .bool r ∧ Ext noG w0 w1) (n := 9) (w := w0) Tryd.func41 rfl rfl (Nat.le_of_ble_eq_true rfl) (fun ρ hargs => ?_)).mono (fun e w1 ⟨v, he, hv, hE⟩ => ⟨hv ▸ he, hE⟩)
  have h0 := hargs 0 _ rfl
  have h1 := hargs 1 _ rfl
  have hW := Ext.refl noG w0
  have hsz := Nat.le_refl w0.heap.size
  obtain ⟨_, _, hs_H_s_, _, _⟩ := RepSl.shape H_s_
  have H_s_ := H_s_.start
  have H_f_ := H_f_.start
  rw [slices_ContainsFunc_of_api_Right] at hF
  refine WP.seq ?_
  refine WP.rb mixed [[]] [[]] [(4, .bool false)] (by kernel_rfl) ⟨fun ρz wz hE hA _ _ => core_val rfl rfl (o_assign rfl), trivial⟩ ?_
  intro ρ1 w1 hN hf hr
  obtain ⟨h0, h1⟩ := k2 hr h0 h1 rfl
  have H_s_ := H_s_.exn hN
  have H_f_ := H_f_.exn hN
  have hW := hW.trans hN
  have hsz := hW.size
  refine WP.seq ?_
  obtain ⟨z, hz, hF⟩ := obind hF
  refine WP.rb mixed [[], [], [0, 1], [2], [3]] [[0], [1], [], [], []] [(5, v_s_), (6, v_f_), (7, .int .i64 z), (8, .bool (decide (0 ≤ z))), (4, .bool (decide (0 ≤ z)))] (by kernel_rfl) ⟨fun ρz wz hE hA ⟨e0, _⟩ _ => core_val rfl rfl (o_move (e0.trans h0)),
 fun ρz wz hE hA ⟨e1, _⟩ _ => core_val rfl rfl (o_move (e1.trans h1)),
 fun ρz wz hE hA _ ⟨u0, u1, _⟩ => core_call rfl (call_args2 u0 u1) cf_66 (slices_IndexFunc_of_api_Right_ok  _ _ (H_s_.exn (hA rfl)).no (H_f_.exn (hA rfl)).no hz),
 fun ρz wz hE hA _ ⟨u2, _⟩ => core_val rfl rfl (o_geq u2 rfl rfl),
 fun ρz wz hE hA _ ⟨u3, _⟩ => core_val rfl rfl (o_assign u3), trivial⟩ ?_
  intro ρ2 w2 hN hf hr
  have h4 : ρ2 4 = .bool (decide (0 ≤ z)) := hf 4 rfl
  have hW := hW.trans hN
  have hsz := hW.size
  refine WP.ret ?_
  show retQ Tryd.prog 9 Tryd.f41 (fun v w1 => v = .bool r ∧ Ext noG w0 w1) .ret ρ2 w2
  obtain rfl := Option.some.inj hF
  exact res1 rfl (by decide) h4 ⟨rfl, hW⟩
end Go.PL
