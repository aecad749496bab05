/- The translated code computes the Lean functions (printed by a program). -/
import Derived.Test.YtcgfjcpggbcloaaDoorW1
set_option linter.unusedVariables false
set_option linter.unusedSimpArgs false
set_option maxRecDepth 10000
namespace Go.PL
open Go Go.Proofs

set_option maxHeartbeats 4000000 in
theorem pensionref1_CheckRates_ok {w0 : World} (d_ : List Rate) {v_d_ : Value} (H_d_ : RepSl Rate.R noG w0 v_d_ d_) {r : Int} (hF : pensionref1_CheckRates d_ = some r) :
    Calls Tryd.prog 20 #[v_d_] w0 fun e w1 => e = .returned (.int .i64 r) ∧ Ext noG w0 w1 := by
  refine (Calls.start (P := Tryd.prog) (args := [v_d_]) (R := fun v w1 => v = .int .i64 r ∧ Ext noG w0 w1) (n := 106) (w := w0) Tryd.func20 rfl rfl (Nat.le_of_ble_eq_true rfl) (fun ρ hargs => ?_)).mono (fun e w1 ⟨v, he, hv, hE⟩ => ⟨hv ▸ he, hE⟩)
  have h0 := hargs 0 _ rfl
  have hW := Ext.refl noG w0
  have hsz := Nat.le_refl w0.heap.size
  obtain ⟨_, _, hs_H_d_, _, _⟩ := RepSl.shape H_d_
  have H_d_ := H_d_.start
  rw [pensionref1_CheckRates] at hF
  refine WP.seq ?_
  refine WP.region mixed [[]] [[]] [[]] [] []
    [val 2 (.int .i64 0)] noG (by kernel_rfl)
    ⟨Stable.val _ _ _, trivial⟩
    ⟨fun ρz wz hE hA _ _ => core_val rfl rfl (o_assign rfl), trivial⟩ ?_
  intro ρ1 w1 hE hN hf hr
  have hN := hN rfl
  have h0 := (hr 0 rfl).trans h0
  have H_d__at0 := H_d_
  have H_d_ := H_d_.exn hN
  have hW := hW.trans hN
  have hsz := Nat.le_trans hsz hN.size
  refine WP.seq ?_
  refine WP.seq ?_
  refine WP.region mixed [[], [0], [1]] [[], [0], [1]] [[0], [], []] [] []
    [val 5 (v_d_), val 6 (.int .i64 (d_.length : Int)), val 7 (.bool (decide (40 < (d_.length : Int))))] noG (by kernel_rfl)
    ⟨Stable.val _ _ _, Stable.val _ _ _, Stable.val _ _ _, trivial⟩
    ⟨fun ρz wz hE hA ⟨e0, _⟩ _ => core_val rfl rfl (o_move (e0.trans h0)),
     fun ρz wz hE hA _ ⟨u0, _⟩ => core_val rfl rfl (o_len (u0.trans hs_H_d_) len_26),
     fun ρz wz hE hA _ ⟨u1, _⟩ => core_val rfl rfl (o_gtr u1 rfl rfl), trivial⟩ ?_
  intro ρ2 w2 hE hN hf hr
  have hN := hN rfl
  have h0 := (hr 0 rfl).trans h0
  have h7 : ρ2 7 = .bool (decide (40 < (d_.length : Int))) := hf 2 rfl
  have H_d__at0 := H_d_
  have H_d_ := H_d_.exn hN
  have hW := hW.trans hN
  have hsz := Nat.le_trans hsz hN.size
  refine WP.cond rfl h7 (fun hb => ?_) (fun hb => ?_)
  · have hF := (if_pos hb).symm.trans hF
    refine WP.seq ?_
    refine WP.region mixed [[]] [[]] [[]] [] []
      [val 2 (.int .i64 7)] noG (by kernel_rfl)
      ⟨Stable.val _ _ _, trivial⟩
      ⟨fun ρz wz hE hA _ _ => core_val rfl rfl (o_assign rfl), trivial⟩ ?_
    intro ρ3 w3 hE hN hf hr
    have hN := hN rfl
    have h2 : ρ3 2 = .int .i64 7 := hf 0 rfl
    have hW := hW.trans hN
    have hsz := Nat.le_trans hsz hN.size
    refine WP.ret ?_
    show retQ Tryd.prog 106 Tryd.f20 (fun v w1 => v = .int .i64 r ∧ Ext noG w0 w1) .ret ρ3 w3
    obtain rfl := Option.some.inj hF
    exact res1 rfl (by decide) h2 ⟨rfl, hW⟩
  · have hF := (if_neg (Bool.eq_false_iff.1 hb)).symm.trans hF
    refine WP.skip ?_
    refine WP.seq ?_
    refine WP.seq ?_
    refine WP.region mixed [[]] [[]] [[]] [] []
      [val 3 (.int .i64 0)] noG (by kernel_rfl)
      ⟨Stable.val _ _ _, trivial⟩
      ⟨fun ρz wz hE hA _ _ => core_val rfl rfl (o_assign rfl), trivial⟩ ?_
    intro ρ4 w4 hE hN hf hr
    have hN := hN rfl
    have h0 := (hr 0 rfl).trans h0
    have h3 : ρ4 3 = .int .i64 0 := hf 0 rfl
    have H_d__at0 := H_d_
    have H_d_ := H_d_.exn hN
    have hW := hW.trans hN
    have hsz := Nat.le_trans hsz hN.size
    refine WP.block ?_
    refine WP.loop (fun k_ ρ w => ∃ x : Int, ρ 0 = v_d_ ∧ ρ 3 = .int .i64 x ∧ RepSl Rate.R (gfr noG w0) w v_d_ d_ ∧ Ext noG w0 w ∧ w0.heap.size ≤ w.heap.size ∧ loopC k_ (pensionref1_CheckRates_l d_) x = some r) FU ⟨0, h0, h3, H_d_, hW, hsz, hF⟩ (fun _ _ h => by obtain ⟨_, _, _, _, _, _, h⟩ := h; cases h) ?_
    rintro k_ ρ5 w5 ⟨x, h0, h3, H_d_, hW, hsz, hF⟩
    have hF : pensionref1_CheckRates_l d_ (loopC k_ (pensionref1_CheckRates_l d_)) x = some r := hF
    generalize hrec_ : loopC k_ (pensionref1_CheckRates_l d_) = rec_ at hF
    rw [pensionref1_CheckRates_l] at hF
    refine WP.seq ?_
    refine WP.seq ?_
    refine WP.region mixed [[], [], [1], [0, 2]] [[], [], [1], [0, 2]] [[3], [0], [], []] [] []
      [val 8 (.int .i64 x), val 9 (v_d_), val 10 (.int .i64 (d_.length : Int)), val 11 (.bool (decide (x < (d_.length : Int))))] noG (by kernel_rfl)
      ⟨Stable.val _ _ _, Stable.val _ _ _, Stable.val _ _ _, Stable.val _ _ _, trivial⟩
      ⟨fun ρz wz hE hA ⟨e3, _⟩ _ => core_val rfl rfl (o_move (e3.trans h3)),
     fun ρz wz hE hA ⟨e0, _⟩ _ => core_val rfl rfl (o_move (e0.trans h0)),
     fun ρz wz hE hA _ ⟨u1, _⟩ => core_val rfl rfl (o_len (u1.trans hs_H_d_) len_26),
     fun ρz wz hE hA _ ⟨u0, u2, _⟩ => core_val rfl rfl (o_lss u0 u2 rfl), trivial⟩ ?_
    intro ρ6 w6 hE hN hf hr
    have hN := hN rfl
    have h0 := (hr 0 rfl).trans h0
    have h3 := (hr 3 rfl).trans h3
    have h11 : ρ6 11 = .bool (decide (x < (d_.length : Int))) := hf 3 rfl
    have H_d__at0 := H_d_
    have H_d_ := H_d_.exn hN
    have hW := hW.trans hN
    have hsz := Nat.le_trans hsz hN.size
    refine WP.cond rfl h11 (fun hb => ?_) (fun hb => ?_)
    · have hF := (if_pos hb).symm.trans hF
      refine WP.skip ?_
      refine WP.seq ?_
      refine WP.block ?_
      refine WP.seq ?_
      obtain ⟨y, hy, hF⟩ := obind hF
      obtain ⟨ay, cy, hvy, hiy, hAy⟩ := RepSl.getF H_d_ hy
      refine WP.region mixed [[], [], [0, 1], [2], [3], [], [4, 5]] [[], [], [0, 1], [2], [3], [], [5, 4]] [[0], [3], [], [], [], [], []] [6] [(5, 6)]
        [val 14 (v_d_), val 15 (.int .i64 x), val 16 (.pointer (some (ay.add (Int.toNat x * 4)))), val 17 (.pointer (some ((ay.add (Int.toNat x * 4)).add 2))), val 18 (Fraction.val y.Value), (4, fun u wz => ∃ b, u = .pointer (some ⟨b, 0, none⟩) ∧ w6.heap.size ≤ b ∧ Mb wz b 54 (Fraction.cells (⟨0, 0⟩ : Fraction))), (4, fun u wz => ∃ b, u = .pointer (some ⟨b, 0, none⟩) ∧ w6.heap.size ≤ b ∧ Mb wz b 54 (Fraction.cells y.Value))] (fun b => w6.heap.size ≤ b) (by kernel_rfl)
        ⟨Stable.val _ _ _, Stable.val _ _ _, Stable.val _ _ _, Stable.val _ _ _, Stable.val _ _ _, fun _ _ _ hE ⟨b, hb, hs, hM⟩ => ⟨b, hb, hs, hM.exn hE⟩, fun _ _ _ hE ⟨b, hb, hs, hM⟩ => ⟨b, hb, hs, hM.exn hE⟩, trivial⟩
        ⟨fun ρz wz hE hA ⟨e0, _⟩ _ => core_val rfl rfl (o_move (e0.trans h0)),
     fun ρz wz hE hA ⟨e3, _⟩ _ => core_val rfl rfl (o_move (e3.trans h3)),
     fun ρz wz hE hA _ ⟨u0, u1, _⟩ => core_val rfl rfl (o_indexAddr (u0.trans hvy) u1 (ia_26 hiy)),
     fun ρz wz hE hA _ ⟨u2, _⟩ => core_val rfl rfl (o_fieldAddr u2 (fa_57_2 _ _)),
     fun ρz wz hE hA _ ⟨u3, _⟩ => core_val rfl rfl (o_load u3 (run_loadN (cs := (Fraction.cells y.Value)) (lr_54 _ _) rfl (CA.sub ((hAy.exn hE.fresh).ca) 2 2))),
     fun ρz wz hE hA _ _ => core_new rfl rfl hE (o_alloc (al_54 _)),
     fun ρz wz hE hA _ ⟨u5, u4, _⟩ => core_storeNew rfl rfl rfl rfl u4 u5 (fun a w => st_54 _ a w) rfl (one_54 _), trivial⟩ ?_
      intro ρ7 w7 hE hN hf hr
      have hN := hE.fresh
      have h0 := (hr 0 rfl).trans h0
      have h3 := (hr 3 rfl).trans h3
      obtain ⟨b4_, h4, hge_b4_, Hb_b4_⟩ := hf 6 rfl
      have H_d__at0 := H_d_
      have H_d_ := H_d_.exn hN
      have hW := hW.trans hN
      have hB_b4_ : w0.heap.size ≤ b4_ := Nat.le_trans hsz hge_b4_
      have hsz := Nat.le_trans hsz hN.size
      refine WP.seq ?_
      refine WP.seq ?_
      obtain ⟨y2, hy2, hF⟩ := obind hF
      obtain ⟨ay2, cy2, hvy2, hiy2, hAy2⟩ := RepSl.getF H_d_ hy2
      obtain ⟨c, hc, hF⟩ := obind hF
      obtain ⟨c2, hc2, hF⟩ := obind hF
      obtain ⟨c3, hc3, hF⟩ := obind hF
      refine WP.via (fun ρ w => ρ 0 = v_d_ ∧ ρ 3 = .int .i64 x ∧ ρ 61 = .bool (((c3 || decide (y.Value.Num < 1)) || decide (1000000 < y.Value.Num)) || decide (1000000 < y.Value.Den)) ∧ RepSl Rate.R (gfr noG w0) w v_d_ d_ ∧ Ext noG w0 w ∧ w0.heap.size ≤ w.heap.size) ?_ ?_
      · rcases Bool.eq_false_or_eq_true (decide (y2.Currency < 1)) with hd6 | hd6
        · have hc := (if_pos (by simp [hd6])).symm.trans hc
          have hc := Option.some.inj hc
          have hc2 := (if_pos (by simp [hd6, ← hc])).symm.trans hc2
          have hc2 := Option.some.inj hc2
          have hc3 := (if_pos (by simp [hd6, ← hc, ← hc2])).symm.trans hc3
          have hc3 := Option.some.inj hc3
          refine WP.region mixed [[], [], [0, 1], [2], [3], [4], [5], [6], [6], [6], [6], [6], [6], [6], [13], [14], [14], [14], [14], [14], [14], [14], [14], [22], [23], [23], [23], [23], [27], [28], [28], [28], [28], [32], [33], [33], [33], [33], [37], [38], [38], [38], [38]] [[], [], [0, 1], [2], [3], [4], [5], [6], [6], [6], [6], [6], [6], [6], [13], [14], [14], [14], [14], [14], [14], [14], [14], [22], [23], [23], [23], [23], [27], [28], [28], [28], [28], [32], [33], [33], [33], [33], [37], [38], [38], [38], [38]] [[0], [3], [], [], [], [], [], [], [], [], [], [], [], [], [], [], [], [], [], [], [], [], [], [], [], [], [], [], [], [], [], [], [], [], [], [], [], [], [], [], [], [], []] [] []
            [val 19 (v_d_), val 20 (.int .i64 x), val 21 (.pointer (some (ay2.add (Int.toNat x * 4)))), val 22 (.pointer (some ((ay2.add (Int.toNat x * 4)).add 0))), val 23 (.int .i64 y2.Currency), val 24 (.bool (decide (y2.Currency < 1))), val 25 (.bool true), anyF 26, anyF 27, anyF 28, anyF 29, anyF 30, anyF 31, val 32 (.bool true), val 33 (.bool true), anyF 34, anyF 35, anyF 36, anyF 37, anyF 38, anyF 39, anyF 40, val 41 (.bool true), val 42 (.bool true), anyF 43, anyF 44, anyF 45, val 46 (.bool true), val 47 (.bool true), anyF 48, anyF 49, anyF 50, val 51 (.bool true), val 52 (.bool true), anyF 53, anyF 54, anyF 55, val 56 (.bool true), val 57 (.bool true), anyF 58, anyF 59, anyF 60, val 61 (.bool true)] noG (by kernel_rfl)
            ⟨Stable.val _ _ _, Stable.val _ _ _, Stable.val _ _ _, Stable.val _ _ _, Stable.val _ _ _, Stable.val _ _ _, Stable.val _ _ _, Stable.any _ _, Stable.any _ _, Stable.any _ _, Stable.any _ _, Stable.any _ _, Stable.any _ _, Stable.val _ _ _, Stable.val _ _ _, Stable.any _ _, Stable.any _ _, Stable.any _ _, Stable.any _ _, Stable.any _ _, Stable.any _ _, Stable.any _ _, Stable.val _ _ _, Stable.val _ _ _, Stable.any _ _, Stable.any _ _, Stable.any _ _, Stable.val _ _ _, Stable.val _ _ _, Stable.any _ _, Stable.any _ _, Stable.any _ _, Stable.val _ _ _, Stable.val _ _ _, Stable.any _ _, Stable.any _ _, Stable.any _ _, Stable.val _ _ _, Stable.val _ _ _, Stable.any _ _, Stable.any _ _, Stable.any _ _, Stable.val _ _ _, trivial⟩
            ⟨fun ρz wz hE hA ⟨e0, _⟩ _ => core_val rfl rfl (o_move (e0.trans h0)),
     fun ρz wz hE hA ⟨e3, _⟩ _ => core_val rfl rfl (o_move (e3.trans h3)),
     fun ρz wz hE hA _ ⟨u0, u1, _⟩ => core_val rfl rfl (o_indexAddr (u0.trans hvy2) u1 (ia_26 hiy2)),
     fun ρz wz hE hA _ ⟨u2, _⟩ => core_val rfl rfl (o_fieldAddr u2 (fa_57_0 _ _)),
     fun ρz wz hE hA _ ⟨u3, _⟩ => core_val rfl rfl (o_load u3 (run_load1 (lr_3 _ _) (CA.sub ((hAy2.exn (hA rfl)).ca) 0 1))),
     fun ρz wz hE hA _ ⟨u4, _⟩ => core_val rfl rfl (o_lss u4 rfl rfl),
     fun ρz wz hE hA _ ⟨u5, _⟩ => core_valE rfl rfl (congrArg Value.bool hd6) (o_move u5),
     fun _ _ _ _ _ ⟨u6, _⟩ => gNo rfl u6 rfl trivial,
     fun _ _ _ _ _ ⟨u6, _⟩ => gNo rfl u6 rfl trivial,
     fun _ _ _ _ _ ⟨u6, _⟩ => gNo rfl u6 rfl trivial,
     fun _ _ _ _ _ ⟨u6, _⟩ => gNo rfl u6 rfl trivial,
     fun _ _ _ _ _ ⟨u6, _⟩ => gNo rfl u6 rfl trivial,
     fun _ _ _ _ _ ⟨u6, _⟩ => gNo rfl u6 rfl trivial,
     fun ρz wz hE hA _ ⟨u6, _⟩ => core_val rfl rfl (o_pick_t u6 rfl),
     fun ρz wz hE hA _ ⟨u13, _⟩ => core_val rfl rfl (o_move u13),
     fun _ _ _ _ _ ⟨u14, _⟩ => gNo rfl u14 rfl trivial,
     fun _ _ _ _ _ ⟨u14, _⟩ => gNo rfl u14 rfl trivial,
     fun _ _ _ _ _ ⟨u14, _⟩ => gNo rfl u14 rfl trivial,
     fun _ _ _ _ _ ⟨u14, _⟩ => gNo rfl u14 rfl trivial,
     fun _ _ _ _ _ ⟨u14, _⟩ => gNo rfl u14 rfl trivial,
     fun _ _ _ _ _ ⟨u14, _⟩ => gNo rfl u14 rfl trivial,
     fun _ _ _ _ _ ⟨u14, _⟩ => gNo rfl u14 rfl trivial,
     fun ρz wz hE hA _ ⟨u14, _⟩ => core_val rfl rfl (o_pick_t u14 rfl),
     fun ρz wz hE hA _ ⟨u22, _⟩ => core_val rfl rfl (o_move u22),
     fun _ _ _ _ _ ⟨u23, _⟩ => gNo rfl u23 rfl trivial,
     fun _ _ _ _ _ ⟨u23, _⟩ => gNo rfl u23 rfl trivial,
     fun _ _ _ _ _ ⟨u23, _⟩ => gNo rfl u23 rfl trivial,
     fun ρz wz hE hA _ ⟨u23, _⟩ => core_val rfl rfl (o_pick_t u23 rfl),
     fun ρz wz hE hA _ ⟨u27, _⟩ => core_val rfl rfl (o_move u27),
     fun _ _ _ _ _ ⟨u28, _⟩ => gNo rfl u28 rfl trivial,
     fun _ _ _ _ _ ⟨u28, _⟩ => gNo rfl u28 rfl trivial,
     fun _ _ _ _ _ ⟨u28, _⟩ => gNo rfl u28 rfl trivial,
     fun ρz wz hE hA _ ⟨u28, _⟩ => core_val rfl rfl (o_pick_t u28 rfl),
     fun ρz wz hE hA _ ⟨u32, _⟩ => core_val rfl rfl (o_move u32),
     fun _ _ _ _ _ ⟨u33, _⟩ => gNo rfl u33 rfl trivial,
     fun _ _ _ _ _ ⟨u33, _⟩ => gNo rfl u33 rfl trivial,
     fun _ _ _ _ _ ⟨u33, _⟩ => gNo rfl u33 rfl trivial,
     fun ρz wz hE hA _ ⟨u33, _⟩ => core_val rfl rfl (o_pick_t u33 rfl),
     fun ρz wz hE hA _ ⟨u37, _⟩ => core_val rfl rfl (o_move u37),
     fun _ _ _ _ _ ⟨u38, _⟩ => gNo rfl u38 rfl trivial,
     fun _ _ _ _ _ ⟨u38, _⟩ => gNo rfl u38 rfl trivial,
     fun _ _ _ _ _ ⟨u38, _⟩ => gNo rfl u38 rfl trivial,
     fun ρz wz hE hA _ ⟨u38, _⟩ => core_val rfl rfl (o_pick_t u38 rfl), trivial⟩ ?_
          intro ρ9 w9 hE hN hf hr
          have hN := hN rfl
          have h0 := (hr 0 rfl).trans h0
          have h3 := (hr 3 rfl).trans h3
          have h61 : ρ9 61 = .bool true := hf 42 rfl
          have H_d__at0 := H_d_
          have H_d_ := H_d_.exn hN
          have hW := hW.trans hN
          have hsz := Nat.le_trans hsz hN.size
          exact ⟨h0, h3, (h61.trans (congrArg Value.bool (by simp [hd6, ← hc, ← hc2, ← hc3]))), H_d_, hW, hsz⟩
        · have hc := (if_neg (Bool.eq_false_iff.1 (by simp [hd6]))).symm.trans hc
          obtain ⟨y3, hy3, hc⟩ := obind hc
          obtain ⟨ay3, cy3, hvy3, hiy3, hAy3⟩ := RepSl.getF H_d_ hy3
          have hc := Option.some.inj hc
          rcases Bool.eq_false_or_eq_true (decide (999 < y3.Currency)) with hd14 | hd14
          · have hc2 := (if_pos (by simp [hd6, hd14, ← hc])).symm.trans hc2
            have hc2 := Option.some.inj hc2
            have hc3 := (if_pos (by simp [hd6, hd14, ← hc, ← hc2])).symm.trans hc3
            have hc3 := Option.some.inj hc3
            refine WP.region mixed [[], [], [0, 1], [2], [3], [4], [5], [6], [6], [6, 7, 8], [6, 9], [6, 10], [6, 11], [6, 12], [13], [14], [14], [14], [14], [14], [14], [14], [14], [22], [23], [23], [23], [23], [27], [28], [28], [28], [28], [32], [33], [33], [33], [33], [37], [38], [38], [38], [38]] [[], [], [0, 1], [2], [3], [4], [5], [6], [6], [6, 7, 8], [6, 9], [6, 10], [6, 11], [6, 12], [13], [14], [14], [14], [14], [14], [14], [14], [14], [22], [23], [23], [23], [23], [27], [28], [28], [28], [28], [32], [33], [33], [33], [33], [37], [38], [38], [38], [38]] [[0], [3], [], [], [], [], [], [0], [3], [], [], [], [], [], [], [], [], [], [], [], [], [], [], [], [], [], [], [], [], [], [], [], [], [], [], [], [], [], [], [], [], [], []] [] []
              [val 19 (v_d_), val 20 (.int .i64 x), val 21 (.pointer (some (ay2.add (Int.toNat x * 4)))), val 22 (.pointer (some ((ay2.add (Int.toNat x * 4)).add 0))), val 23 (.int .i64 y2.Currency), val 24 (.bool (decide (y2.Currency < 1))), val 25 (.bool false), val 26 (v_d_), val 27 (.int .i64 x), val 28 (.pointer (some (ay3.add (Int.toNat x * 4)))), val 29 (.pointer (some ((ay3.add (Int.toNat x * 4)).add 0))), val 30 (.int .i64 y3.Currency), val 31 (.bool (decide (999 < y3.Currency))), val 32 (.bool (decide (999 < y3.Currency))), val 33 (.bool true), anyF 34, anyF 35, anyF 36, anyF 37, anyF 38, anyF 39, anyF 40, val 41 (.bool true), val 42 (.bool true), anyF 43, anyF 44, anyF 45, val 46 (.bool true), val 47 (.bool true), anyF 48, anyF 49, anyF 50, val 51 (.bool true), val 52 (.bool true), anyF 53, anyF 54, anyF 55, val 56 (.bool true), val 57 (.bool true), anyF 58, anyF 59, anyF 60, val 61 (.bool true)] noG (by kernel_rfl)
              ⟨Stable.val _ _ _, Stable.val _ _ _, Stable.val _ _ _, Stable.val _ _ _, Stable.val _ _ _, Stable.val _ _ _, Stable.val _ _ _, Stable.val _ _ _, Stable.val _ _ _, Stable.val _ _ _, Stable.val _ _ _, Stable.val _ _ _, Stable.val _ _ _, Stable.val _ _ _, Stable.val _ _ _, Stable.any _ _, Stable.any _ _, Stable.any _ _, Stable.any _ _, Stable.any _ _, Stable.any _ _, Stable.any _ _, Stable.val _ _ _, Stable.val _ _ _, Stable.any _ _, Stable.any _ _, Stable.any _ _, Stable.val _ _ _, Stable.val _ _ _, Stable.any _ _, Stable.any _ _, Stable.any _ _, Stable.val _ _ _, Stable.val _ _ _, Stable.any _ _, Stable.any _ _, Stable.any _ _, Stable.val _ _ _, Stable.val _ _ _, Stable.any _ _, Stable.any _ _, Stable.any _ _, Stable.val _ _ _, trivial⟩
              ⟨fun ρz wz hE hA ⟨e0, _⟩ _ => core_val rfl rfl (o_move (e0.trans h0)),
     fun ρz wz hE hA ⟨e3, _⟩ _ => core_val rfl rfl (o_move (e3.trans h3)),
     fun ρz wz hE hA _ ⟨u0, u1, _⟩ => core_val rfl rfl (o_indexAddr (u0.trans hvy2) u1 (ia_26 hiy2)),
     fun ρz wz hE hA _ ⟨u2, _⟩ => core_val rfl rfl (o_fieldAddr u2 (fa_57_0 _ _)),
     fun ρz wz hE hA _ ⟨u3, _⟩ => core_val rfl rfl (o_load u3 (run_load1 (lr_3 _ _) (CA.sub ((hAy2.exn (hA rfl)).ca) 0 1))),
     fun ρz wz hE hA _ ⟨u4, _⟩ => core_val rfl rfl (o_lss u4 rfl rfl),
     fun ρz wz hE hA _ ⟨u5, _⟩ => core_valE rfl rfl (congrArg Value.bool hd6) (o_move u5),
     fun ρz wz hE hA ⟨e0, _⟩ ⟨u6, _⟩ => gYes rfl u6 (core_val rfl rfl (o_move (e0.trans h0))),
     fun ρz wz hE hA ⟨e3, _⟩ ⟨u6, _⟩ => gYes rfl u6 (core_val rfl rfl (o_move (e3.trans h3))),
     fun ρz wz hE hA _ ⟨u6, u7, u8, _⟩ => gYes rfl u6 (core_val rfl rfl (o_indexAddr (u7.trans hvy3) u8 (ia_26 hiy3))),
     fun ρz wz hE hA _ ⟨u6, u9, _⟩ => gYes rfl u6 (core_val rfl rfl (o_fieldAddr u9 (fa_57_0 _ _))),
     fun ρz wz hE hA _ ⟨u6, u10, _⟩ => gYes rfl u6 (core_val rfl rfl (o_load u10 (run_load1 (lr_3 _ _) (CA.sub ((hAy3.exn (hA rfl)).ca) 0 1)))),
     fun ρz wz hE hA _ ⟨u6, u11, _⟩ => gYes rfl u6 (core_val rfl rfl (o_gtr u11 rfl rfl)),
     fun ρz wz hE hA _ ⟨u6, u12, _⟩ => core_val rfl rfl (o_pick_f u6 u12),
     fun ρz wz hE hA _ ⟨u13, _⟩ => core_valE rfl rfl (congrArg Value.bool hd14) (o_move u13),
     fun _ _ _ _ _ ⟨u14, _⟩ => gNo rfl u14 rfl trivial,
     fun _ _ _ _ _ ⟨u14, _⟩ => gNo rfl u14 rfl trivial,
     fun _ _ _ _ _ ⟨u14, _⟩ => gNo rfl u14 rfl trivial,
     fun _ _ _ _ _ ⟨u14, _⟩ => gNo rfl u14 rfl trivial,
     fun _ _ _ _ _ ⟨u14, _⟩ => gNo rfl u14 rfl trivial,
     fun _ _ _ _ _ ⟨u14, _⟩ => gNo rfl u14 rfl trivial,
     fun _ _ _ _ _ ⟨u14, _⟩ => gNo rfl u14 rfl trivial,
     fun ρz wz hE hA _ ⟨u14, _⟩ => core_val rfl rfl (o_pick_t u14 rfl),
     fun ρz wz hE hA _ ⟨u22, _⟩ => core_val rfl rfl (o_move u22),
     fun _ _ _ _ _ ⟨u23, _⟩ => gNo rfl u23 rfl trivial,
     fun _ _ _ _ _ ⟨u23, _⟩ => gNo rfl u23 rfl trivial,
     fun _ _ _ _ _ ⟨u23, _⟩ => gNo rfl u23 rfl trivial,
     fun ρz wz hE hA _ ⟨u23, _⟩ => core_val rfl rfl (o_pick_t u23 rfl),
     fun ρz wz hE hA _ ⟨u27, _⟩ => core_val rfl rfl (o_move u27),
     fun _ _ _ _ _ ⟨u28, _⟩ => gNo rfl u28 rfl trivial,
     fun _ _ _ _ _ ⟨u28, _⟩ => gNo rfl u28 rfl trivial,
     fun _ _ _ _ _ ⟨u28, _⟩ => gNo rfl u28 rfl trivial,
     fun ρz wz hE hA _ ⟨u28, _⟩ => core_val rfl rfl (o_pick_t u28 rfl),
     fun ρz wz hE hA _ ⟨u32, _⟩ => core_val rfl rfl (o_move u32),
     fun _ _ _ _ _ ⟨u33, _⟩ => gNo rfl u33 rfl trivial,
     fun _ _ _ _ _ ⟨u33, _⟩ => gNo rfl u33 rfl trivial,
     fun _ _ _ _ _ ⟨u33, _⟩ => gNo rfl u33 rfl trivial,
     fun ρz wz hE hA _ ⟨u33, _⟩ => core_val rfl rfl (o_pick_t u33 rfl),
     fun ρz wz hE hA _ ⟨u37, _⟩ => core_val rfl rfl (o_move u37),
     fun _ _ _ _ _ ⟨u38, _⟩ => gNo rfl u38 rfl trivial,
     fun _ _ _ _ _ ⟨u38, _⟩ => gNo rfl u38 rfl trivial,
     fun _ _ _ _ _ ⟨u38, _⟩ => gNo rfl u38 rfl trivial,
     fun ρz wz hE hA _ ⟨u38, _⟩ => core_val rfl rfl (o_pick_t u38 rfl), trivial⟩ ?_
            intro ρ10 w10 hE hN hf hr
            have hN := hN rfl
            have h0 := (hr 0 rfl).trans h0
            have h3 := (hr 3 rfl).trans h3
            have h61 : ρ10 61 = .bool true := hf 42 rfl
            have H_d__at0 := H_d_
            have H_d_ := H_d_.exn hN
            have hW := hW.trans hN
            have hsz := Nat.le_trans hsz hN.size
            exact ⟨h0, h3, (h61.trans (congrArg Value.bool (by simp [hd6, hd14, ← hc, ← hc2, ← hc3]))), H_d_, hW, hsz⟩
          · have hc2 := (if_neg (Bool.eq_false_iff.1 (by simp [hd6, hd14, ← hc]))).symm.trans hc2
            obtain ⟨y4, hy4, hc2⟩ := obind hc2
            obtain ⟨ay4, cy4, hvy4, hiy4, hAy4⟩ := RepSl.getF H_d_ hy4
            obtain ⟨z, hz, hc2⟩ := obind hc2
            have hc2 := Option.some.inj hc2
            rcases Bool.eq_false_or_eq_true (!z) with hd23 | hd23
            · have hc3 := (if_pos (by simp [hd6, hd14, hd23, ← hc, ← hc2])).symm.trans hc3
              have hc3 := Option.some.inj hc3
              refine WP.region mixed [[], [], [0, 1], [2], [3], [4], [5], [6], [6], [6, 7, 8], [6, 9], [6, 10], [6, 11], [6, 12], [13], [14], [14], [14, 15, 16], [14, 17], [14, 18], [14, 19], [14, 20], [14, 21], [22], [23], [23], [23], [23], [27], [28], [28], [28], [28], [32], [33], [33], [33], [33], [37], [38], [38], [38], [38]] [[], [], [0, 1], [2], [3], [4], [5], [6], [6], [6, 7, 8], [6, 9], [6, 10], [6, 11], [6, 12], [13], [14], [14], [14, 15, 16], [14, 17], [14, 18], [14, 19], [14, 20], [14, 21], [22], [23], [23], [23], [23], [27], [28], [28], [28], [28], [32], [33], [33], [33], [33], [37], [38], [38], [38], [38]] [[0], [3], [], [], [], [], [], [0], [3], [], [], [], [], [], [], [0], [3], [], [], [], [], [], [], [], [], [], [], [], [], [], [], [], [], [], [], [], [], [], [], [], [], [], []] [] []
                [val 19 (v_d_), val 20 (.int .i64 x), val 21 (.pointer (some (ay2.add (Int.toNat x * 4)))), val 22 (.pointer (some ((ay2.add (Int.toNat x * 4)).add 0))), val 23 (.int .i64 y2.Currency), val 24 (.bool (decide (y2.Currency < 1))), val 25 (.bool false), val 26 (v_d_), val 27 (.int .i64 x), val 28 (.pointer (some (ay3.add (Int.toNat x * 4)))), val 29 (.pointer (some ((ay3.add (Int.toNat x * 4)).add 0))), val 30 (.int .i64 y3.Currency), val 31 (.bool (decide (999 < y3.Currency))), val 32 (.bool (decide (999 < y3.Currency))), val 33 (.bool false), val 34 (v_d_), val 35 (.int .i64 x), val 36 (.pointer (some (ay4.add (Int.toNat x * 4)))), val 37 (.pointer (some ((ay4.add (Int.toNat x * 4)).add 1))), val 38 (.int .i64 y4.Month), val 39 (.bool z), val 40 (.bool (!z)), val 41 (.bool (!z)), val 42 (.bool true), anyF 43, anyF 44, anyF 45, val 46 (.bool true), val 47 (.bool true), anyF 48, anyF 49, anyF 50, val 51 (.bool true), val 52 (.bool true), anyF 53, anyF 54, anyF 55, val 56 (.bool true), val 57 (.bool true), anyF 58, anyF 59, anyF 60, val 61 (.bool true)] noG (by kernel_rfl)
                ⟨Stable.val _ _ _, Stable.val _ _ _, Stable.val _ _ _, Stable.val _ _ _, Stable.val _ _ _, Stable.val _ _ _, Stable.val _ _ _, Stable.val _ _ _, Stable.val _ _ _, Stable.val _ _ _, Stable.val _ _ _, Stable.val _ _ _, Stable.val _ _ _, Stable.val _ _ _, Stable.val _ _ _, Stable.val _ _ _, Stable.val _ _ _, Stable.val _ _ _, Stable.val _ _ _, Stable.val _ _ _, Stable.val _ _ _, Stable.val _ _ _, Stable.val _ _ _, Stable.val _ _ _, Stable.any _ _, Stable.any _ _, Stable.any _ _, Stable.val _ _ _, Stable.val _ _ _, Stable.any _ _, Stable.any _ _, Stable.any _ _, Stable.val _ _ _, Stable.val _ _ _, Stable.any _ _, Stable.any _ _, Stable.any _ _, Stable.val _ _ _, Stable.val _ _ _, Stable.any _ _, Stable.any _ _, Stable.any _ _, Stable.val _ _ _, trivial⟩
                ⟨fun ρz wz hE hA ⟨e0, _⟩ _ => core_val rfl rfl (o_move (e0.trans h0)),
     fun ρz wz hE hA ⟨e3, _⟩ _ => core_val rfl rfl (o_move (e3.trans h3)),
     fun ρz wz hE hA _ ⟨u0, u1, _⟩ => core_val rfl rfl (o_indexAddr (u0.trans hvy2) u1 (ia_26 hiy2)),
     fun ρz wz hE hA _ ⟨u2, _⟩ => core_val rfl rfl (o_fieldAddr u2 (fa_57_0 _ _)),
     fun ρz wz hE hA _ ⟨u3, _⟩ => core_val rfl rfl (o_load u3 (run_load1 (lr_3 _ _) (CA.sub ((hAy2.exn (hA rfl)).ca) 0 1))),
     fun ρz wz hE hA _ ⟨u4, _⟩ => core_val rfl rfl (o_lss u4 rfl rfl),
     fun ρz wz hE hA _ ⟨u5, _⟩ => core_valE rfl rfl (congrArg Value.bool hd6) (o_move u5),
     fun ρz wz hE hA ⟨e0, _⟩ ⟨u6, _⟩ => gYes rfl u6 (core_val rfl rfl (o_move (e0.trans h0))),
     fun ρz wz hE hA ⟨e3, _⟩ ⟨u6, _⟩ => gYes rfl u6 (core_val rfl rfl (o_move (e3.trans h3))),
     fun ρz wz hE hA _ ⟨u6, u7, u8, _⟩ => gYes rfl u6 (core_val rfl rfl (o_indexAddr (u7.trans hvy3) u8 (ia_26 hiy3))),
     fun ρz wz hE hA _ ⟨u6, u9, _⟩ => gYes rfl u6 (core_val rfl rfl (o_fieldAddr u9 (fa_57_0 _ _))),
     fun ρz wz hE hA _ ⟨u6, u10, _⟩ => gYes rfl u6 (core_val rfl rfl (o_load u10 (run_load1 (lr_3 _ _) (CA.sub ((hAy3.exn (hA rfl)).ca) 0 1)))),
     fun ρz wz hE hA _ ⟨u6, u11, _⟩ => gYes rfl u6 (core_val rfl rfl (o_gtr u11 rfl rfl)),
     fun ρz wz hE hA _ ⟨u6, u12, _⟩ => core_val rfl rfl (o_pick_f u6 u12),
     fun ρz wz hE hA _ ⟨u13, _⟩ => core_valE rfl rfl (congrArg Value.bool hd14) (o_move u13),
     fun ρz wz hE hA ⟨e0, _⟩ ⟨u14, _⟩ => gYes rfl u14 (core_val rfl rfl (o_move (e0.trans h0))),
     fun ρz wz hE hA ⟨e3, _⟩ ⟨u14, _⟩ => gYes rfl u14 (core_val rfl rfl (o_move (e3.trans h3))),
     fun ρz wz hE hA _ ⟨u14, u15, u16, _⟩ => gYes rfl u14 (core_val rfl rfl (o_indexAddr (u15.trans hvy4) u16 (ia_26 hiy4))),
     fun ρz wz hE hA _ ⟨u14, u17, _⟩ => gYes rfl u14 (core_val rfl rfl (o_fieldAddr u17 (fa_57_1 _ _))),
     fun ρz wz hE hA _ ⟨u14, u18, _⟩ => gYes rfl u14 (core_val rfl rfl (o_load u18 (run_load1 (lr_3 _ _) (CA.sub ((hAy4.exn (hA rfl)).ca) 1 1)))),
     fun ρz wz hE hA _ ⟨u14, u19, _⟩ => gYes rfl u14 (core_call rfl (call_args1 u19) cf_19 (pensionref1_ValidMonth_ok  _  hz)),
     fun ρz wz hE hA _ ⟨u14, u20, _⟩ => gYes rfl u14 (core_val rfl rfl (o_not u20 rfl)),
     fun ρz wz hE hA _ ⟨u14, u21, _⟩ => core_val rfl rfl (o_pick_f u14 u21),
     fun ρz wz hE hA _ ⟨u22, _⟩ => core_valE rfl rfl (congrArg Value.bool hd23) (o_move u22),
     fun _ _ _ _ _ ⟨u23, _⟩ => gNo rfl u23 rfl trivial,
     fun _ _ _ _ _ ⟨u23, _⟩ => gNo rfl u23 rfl trivial,
     fun _ _ _ _ _ ⟨u23, _⟩ => gNo rfl u23 rfl trivial,
     fun ρz wz hE hA _ ⟨u23, _⟩ => core_val rfl rfl (o_pick_t u23 rfl),
     fun ρz wz hE hA _ ⟨u27, _⟩ => core_val rfl rfl (o_move u27),
     fun _ _ _ _ _ ⟨u28, _⟩ => gNo rfl u28 rfl trivial,
     fun _ _ _ _ _ ⟨u28, _⟩ => gNo rfl u28 rfl trivial,
     fun _ _ _ _ _ ⟨u28, _⟩ => gNo rfl u28 rfl trivial,
     fun ρz wz hE hA _ ⟨u28, _⟩ => core_val rfl rfl (o_pick_t u28 rfl),
     fun ρz wz hE hA _ ⟨u32, _⟩ => core_val rfl rfl (o_move u32),
     fun _ _ _ _ _ ⟨u33, _⟩ => gNo rfl u33 rfl trivial,
     fun _ _ _ _ _ ⟨u33, _⟩ => gNo rfl u33 rfl trivial,
     fun _ _ _ _ _ ⟨u33, _⟩ => gNo rfl u33 rfl trivial,
     fun ρz wz hE hA _ ⟨u33, _⟩ => core_val rfl rfl (o_pick_t u33 rfl),
     fun ρz wz hE hA _ ⟨u37, _⟩ => core_val rfl rfl (o_move u37),
     fun _ _ _ _ _ ⟨u38, _⟩ => gNo rfl u38 rfl trivial,
     fun _ _ _ _ _ ⟨u38, _⟩ => gNo rfl u38 rfl trivial,
     fun _ _ _ _ _ ⟨u38, _⟩ => gNo rfl u38 rfl trivial,
     fun ρz wz hE hA _ ⟨u38, _⟩ => core_val rfl rfl (o_pick_t u38 rfl), trivial⟩ ?_
              intro ρ11 w11 hE hN hf hr
              have hN := hN rfl
              have h0 := (hr 0 rfl).trans h0
              have h3 := (hr 3 rfl).trans h3
              have h61 : ρ11 61 = .bool true := hf 42 rfl
              have H_d__at0 := H_d_
              have H_d_ := H_d_.exn hN
              have hW := hW.trans hN
              have hsz := Nat.le_trans hsz hN.size
              exact ⟨h0, h3, (h61.trans (congrArg Value.bool (by simp [hd6, hd14, hd23, ← hc, ← hc2, ← hc3]))), H_d_, hW, hsz⟩
            · have hc3 := (if_neg (Bool.eq_false_iff.1 (by simp [hd6, hd14, hd23, ← hc, ← hc2]))).symm.trans hc3
              obtain ⟨z2, hz2, hc3⟩ := obind hc3
              have hc3 := Option.some.inj hc3
              rcases Bool.eq_false_or_eq_true (!z2) with hd28 | hd28
              · refine WP.region mixed [[], [], [0, 1], [2], [3], [4], [5], [6], [6], [6, 7, 8], [6, 9], [6, 10], [6, 11], [6, 12], [13], [14], [14], [14, 15, 16], [14, 17], [14, 18], [14, 19], [14, 20], [14, 21], [22], [23], [23, 24], [23, 25], [23, 26], [27], [28], [28], [28], [28], [32], [33], [33], [33], [33], [37], [38], [38], [38], [38]] [[], [], [0, 1], [2], [3], [4], [5], [6], [6], [6, 7, 8], [6, 9], [6, 10], [6, 11], [6, 12], [13], [14], [14], [14, 15, 16], [14, 17], [14, 18], [14, 19], [14, 20], [14, 21], [22], [23], [23, 24], [23, 25], [23, 26], [27], [28], [28], [28], [28], [32], [33], [33], [33], [33], [37], [38], [38], [38], [38]] [[0], [3], [], [], [], [], [], [0], [3], [], [], [], [], [], [], [0], [3], [], [], [], [], [], [], [], [4], [], [], [], [], [], [], [], [], [], [], [], [], [], [], [], [], [], []] [] []
                  [val 19 (v_d_), val 20 (.int .i64 x), val 21 (.pointer (some (ay2.add (Int.toNat x * 4)))), val 22 (.pointer (some ((ay2.add (Int.toNat x * 4)).add 0))), val 23 (.int .i64 y2.Currency), val 24 (.bool (decide (y2.Currency < 1))), val 25 (.bool false), val 26 (v_d_), val 27 (.int .i64 x), val 28 (.pointer (some (ay3.add (Int.toNat x * 4)))), val 29 (.pointer (some ((ay3.add (Int.toNat x * 4)).add 0))), val 30 (.int .i64 y3.Currency), val 31 (.bool (decide (999 < y3.Currency))), val 32 (.bool (decide (999 < y3.Currency))), val 33 (.bool false), val 34 (v_d_), val 35 (.int .i64 x), val 36 (.pointer (some (ay4.add (Int.toNat x * 4)))), val 37 (.pointer (some ((ay4.add (Int.toNat x * 4)).add 1))), val 38 (.int .i64 y4.Month), val 39 (.bool z), val 40 (.bool (!z)), val 41 (.bool (!z)), val 42 (.bool false), val 43 (Fraction.val y.Value), val 44 (.bool z2), val 45 (.bool (!z2)), val 46 (.bool (!z2)), val 47 (.bool true), anyF 48, anyF 49, anyF 50, val 51 (.bool true), val 52 (.bool true), anyF 53, anyF 54, anyF 55, val 56 (.bool true), val 57 (.bool true), anyF 58, anyF 59, anyF 60, val 61 (.bool true)] noG (by kernel_rfl)
                  ⟨Stable.val _ _ _, Stable.val _ _ _, Stable.val _ _ _, Stable.val _ _ _, Stable.val _ _ _, Stable.val _ _ _, Stable.val _ _ _, Stable.val _ _ _, Stable.val _ _ _, Stable.val _ _ _, Stable.val _ _ _, Stable.val _ _ _, Stable.val _ _ _, Stable.val _ _ _, Stable.val _ _ _, Stable.val _ _ _, Stable.val _ _ _, Stable.val _ _ _, Stable.val _ _ _, Stable.val _ _ _, Stable.val _ _ _, Stable.val _ _ _, Stable.val _ _ _, Stable.val _ _ _, Stable.val _ _ _, Stable.val _ _ _, Stable.val _ _ _, Stable.val _ _ _, Stable.val _ _ _, Stable.any _ _, Stable.any _ _, Stable.any _ _, Stable.val _ _ _, Stable.val _ _ _, Stable.any _ _, Stable.any _ _, Stable.any _ _, Stable.val _ _ _, Stable.val _ _ _, Stable.any _ _, Stable.any _ _, Stable.any _ _, Stable.val _ _ _, trivial⟩
                  ⟨fun ρz wz hE hA ⟨e0, _⟩ _ => core_val rfl rfl (o_move (e0.trans h0)),
     fun ρz wz hE hA ⟨e3, _⟩ _ => core_val rfl rfl (o_move (e3.trans h3)),
     fun ρz wz hE hA _ ⟨u0, u1, _⟩ => core_val rfl rfl (o_indexAddr (u0.trans hvy2) u1 (ia_26 hiy2)),
     fun ρz wz hE hA _ ⟨u2, _⟩ => core_val rfl rfl (o_fieldAddr u2 (fa_57_0 _ _)),
     fun ρz wz hE hA _ ⟨u3, _⟩ => core_val rfl rfl (o_load u3 (run_load1 (lr_3 _ _) (CA.sub ((hAy2.exn (hA rfl)).ca) 0 1))),
     fun ρz wz hE hA _ ⟨u4, _⟩ => core_val rfl rfl (o_lss u4 rfl rfl),
     fun ρz wz hE hA _ ⟨u5, _⟩ => core_valE rfl rfl (congrArg Value.bool hd6) (o_move u5),
     fun ρz wz hE hA ⟨e0, _⟩ ⟨u6, _⟩ => gYes rfl u6 (core_val rfl rfl (o_move (e0.trans h0))),
     fun ρz wz hE hA ⟨e3, _⟩ ⟨u6, _⟩ => gYes rfl u6 (core_val rfl rfl (o_move (e3.trans h3))),
     fun ρz wz hE hA _ ⟨u6, u7, u8, _⟩ => gYes rfl u6 (core_val rfl rfl (o_indexAddr (u7.trans hvy3) u8 (ia_26 hiy3))),
     fun ρz wz hE hA _ ⟨u6, u9, _⟩ => gYes rfl u6 (core_val rfl rfl (o_fieldAddr u9 (fa_57_0 _ _))),
     fun ρz wz hE hA _ ⟨u6, u10, _⟩ => gYes rfl u6 (core_val rfl rfl (o_load u10 (run_load1 (lr_3 _ _) (CA.sub ((hAy3.exn (hA rfl)).ca) 0 1)))),
     fun ρz wz hE hA _ ⟨u6, u11, _⟩ => gYes rfl u6 (core_val rfl rfl (o_gtr u11 rfl rfl)),
     fun ρz wz hE hA _ ⟨u6, u12, _⟩ => core_val rfl rfl (o_pick_f u6 u12),
     fun ρz wz hE hA _ ⟨u13, _⟩ => core_valE rfl rfl (congrArg Value.bool hd14) (o_move u13),
     fun ρz wz hE hA ⟨e0, _⟩ ⟨u14, _⟩ => gYes rfl u14 (core_val rfl rfl (o_move (e0.trans h0))),
     fun ρz wz hE hA ⟨e3, _⟩ ⟨u14, _⟩ => gYes rfl u14 (core_val rfl rfl (o_move (e3.trans h3))),
     fun ρz wz hE hA _ ⟨u14, u15, u16, _⟩ => gYes rfl u14 (core_val rfl rfl (o_indexAddr (u15.trans hvy4) u16 (ia_26 hiy4))),
     fun ρz wz hE hA _ ⟨u14, u17, _⟩ => gYes rfl u14 (core_val rfl rfl (o_fieldAddr u17 (fa_57_1 _ _))),
     fun ρz wz hE hA _ ⟨u14, u18, _⟩ => gYes rfl u14 (core_val rfl rfl (o_load u18 (run_load1 (lr_3 _ _) (CA.sub ((hAy4.exn (hA rfl)).ca) 1 1)))),
     fun ρz wz hE hA _ ⟨u14, u19, _⟩ => gYes rfl u14 (core_call rfl (call_args1 u19) cf_19 (pensionref1_ValidMonth_ok  _  hz)),
     fun ρz wz hE hA _ ⟨u14, u20, _⟩ => gYes rfl u14 (core_val rfl rfl (o_not u20 rfl)),
     fun ρz wz hE hA _ ⟨u14, u21, _⟩ => core_val rfl rfl (o_pick_f u14 u21),
     fun ρz wz hE hA _ ⟨u22, _⟩ => core_valE rfl rfl (congrArg Value.bool hd23) (o_move u22),
     fun ρz wz hE hA ⟨e4, _⟩ ⟨u23, _⟩ => gYes rfl u23 (core_val rfl rfl (o_load (e4.trans h4) (run_loadN (cs := (Fraction.cells y.Value)) (lr_54 _ _) rfl ((Hb_b4_.exn (hA rfl)).ca)))),
     fun ρz wz hE hA _ ⟨u23, u24, _⟩ => gYes rfl u23 (core_call rfl (call_args1 u24) cf_37 (pensionref1_ValidFraction_ok  _  hz2)),
     fun ρz wz hE hA _ ⟨u23, u25, _⟩ => gYes rfl u23 (core_val rfl rfl (o_not u25 rfl)),
     fun ρz wz hE hA _ ⟨u23, u26, _⟩ => core_val rfl rfl (o_pick_f u23 u26),
     fun ρz wz hE hA _ ⟨u27, _⟩ => core_valE rfl rfl (congrArg Value.bool hd28) (o_move u27),
     fun _ _ _ _ _ ⟨u28, _⟩ => gNo rfl u28 rfl trivial,
     fun _ _ _ _ _ ⟨u28, _⟩ => gNo rfl u28 rfl trivial,
     fun _ _ _ _ _ ⟨u28, _⟩ => gNo rfl u28 rfl trivial,
     fun ρz wz hE hA _ ⟨u28, _⟩ => core_val rfl rfl (o_pick_t u28 rfl),
     fun ρz wz hE hA _ ⟨u32, _⟩ => core_val rfl rfl (o_move u32),
     fun _ _ _ _ _ ⟨u33, _⟩ => gNo rfl u33 rfl trivial,
     fun _ _ _ _ _ ⟨u33, _⟩ => gNo rfl u33 rfl trivial,
     fun _ _ _ _ _ ⟨u33, _⟩ => gNo rfl u33 rfl trivial,
     fun ρz wz hE hA _ ⟨u33, _⟩ => core_val rfl rfl (o_pick_t u33 rfl),
     fun ρz wz hE hA _ ⟨u37, _⟩ => core_val rfl rfl (o_move u37),
     fun _ _ _ _ _ ⟨u38, _⟩ => gNo rfl u38 rfl trivial,
     fun _ _ _ _ _ ⟨u38, _⟩ => gNo rfl u38 rfl trivial,
     fun _ _ _ _ _ ⟨u38, _⟩ => gNo rfl u38 rfl trivial,
     fun ρz wz hE hA _ ⟨u38, _⟩ => core_val rfl rfl (o_pick_t u38 rfl), trivial⟩ ?_
                intro ρ12 w12 hE hN hf hr
                have hN := hN rfl
                have h0 := (hr 0 rfl).trans h0
                have h3 := (hr 3 rfl).trans h3
                have h61 : ρ12 61 = .bool true := hf 42 rfl
                have H_d__at0 := H_d_
                have H_d_ := H_d_.exn hN
                have hW := hW.trans hN
                have hsz := Nat.le_trans hsz hN.size
                exact ⟨h0, h3, (h61.trans (congrArg Value.bool (by simp [hd6, hd14, hd23, hd28, ← hc, ← hc2, ← hc3]))), H_d_, hW, hsz⟩
              · rcases Bool.eq_false_or_eq_true (decide (y.Value.Num < 1)) with hd33 | hd33
                · refine WP.region mixed [[], [], [0, 1], [2], [3], [4], [5], [6], [6], [6, 7, 8], [6, 9], [6, 10], [6, 11], [6, 12], [13], [14], [14], [14, 15, 16], [14, 17], [14, 18], [14, 19], [14, 20], [14, 21], [22], [23], [23, 24], [23, 25], [23, 26], [27], [28], [28, 29], [28, 30], [28, 31], [32], [33], [33], [33], [33], [37], [38], [38], [38], [38]] [[], [], [0, 1], [2], [3], [4], [5], [6], [6], [6, 7, 8], [6, 9], [6, 10], [6, 11], [6, 12], [13], [14], [14], [14, 15, 16], [14, 17], [14, 18], [14, 19], [14, 20], [14, 21], [22], [23], [23, 24], [23, 25], [23, 26], [27], [28], [28, 29], [28, 30], [28, 31], [32], [33], [33], [33], [33], [37], [38], [38], [38], [38]] [[0], [3], [], [], [], [], [], [0], [3], [], [], [], [], [], [], [0], [3], [], [], [], [], [], [], [], [4], [], [], [], [], [4], [], [], [], [], [], [], [], [], [], [], [], [], []] [] []
                    [val 19 (v_d_), val 20 (.int .i64 x), val 21 (.pointer (some (ay2.add (Int.toNat x * 4)))), val 22 (.pointer (some ((ay2.add (Int.toNat x * 4)).add 0))), val 23 (.int .i64 y2.Currency), val 24 (.bool (decide (y2.Currency < 1))), val 25 (.bool false), val 26 (v_d_), val 27 (.int .i64 x), val 28 (.pointer (some (ay3.add (Int.toNat x * 4)))), val 29 (.pointer (some ((ay3.add (Int.toNat x * 4)).add 0))), val 30 (.int .i64 y3.Currency), val 31 (.bool (decide (999 < y3.Currency))), val 32 (.bool (decide (999 < y3.Currency))), val 33 (.bool false), val 34 (v_d_), val 35 (.int .i64 x), val 36 (.pointer (some (ay4.add (Int.toNat x * 4)))), val 37 (.pointer (some ((ay4.add (Int.toNat x * 4)).add 1))), val 38 (.int .i64 y4.Month), val 39 (.bool z), val 40 (.bool (!z)), val 41 (.bool (!z)), val 42 (.bool false), val 43 (Fraction.val y.Value), val 44 (.bool z2), val 45 (.bool (!z2)), val 46 (.bool (!z2)), val 47 (.bool false), val 48 (.pointer (some ((⟨b4_, 0, none⟩ : Addr).add 0))), val 49 (.int .i64 y.Value.Num), val 50 (.bool (decide (y.Value.Num < 1))), val 51 (.bool (decide (y.Value.Num < 1))), val 52 (.bool true), anyF 53, anyF 54, anyF 55, val 56 (.bool true), val 57 (.bool true), anyF 58, anyF 59, anyF 60, val 61 (.bool true)] noG (by kernel_rfl)
                    ⟨Stable.val _ _ _, Stable.val _ _ _, Stable.val _ _ _, Stable.val _ _ _, Stable.val _ _ _, Stable.val _ _ _, Stable.val _ _ _, Stable.val _ _ _, Stable.val _ _ _, Stable.val _ _ _, Stable.val _ _ _, Stable.val _ _ _, Stable.val _ _ _, Stable.val _ _ _, Stable.val _ _ _, Stable.val _ _ _, Stable.val _ _ _, Stable.val _ _ _, Stable.val _ _ _, Stable.val _ _ _, Stable.val _ _ _, Stable.val _ _ _, Stable.val _ _ _, Stable.val _ _ _, Stable.val _ _ _, Stable.val _ _ _, Stable.val _ _ _, Stable.val _ _ _, Stable.val _ _ _, Stable.val _ _ _, Stable.val _ _ _, Stable.val _ _ _, Stable.val _ _ _, Stable.val _ _ _, Stable.any _ _, Stable.any _ _, Stable.any _ _, Stable.val _ _ _, Stable.val _ _ _, Stable.any _ _, Stable.any _ _, Stable.any _ _, Stable.val _ _ _, trivial⟩
                    ⟨fun ρz wz hE hA ⟨e0, _⟩ _ => core_val rfl rfl (o_move (e0.trans h0)),
     fun ρz wz hE hA ⟨e3, _⟩ _ => core_val rfl rfl (o_move (e3.trans h3)),
     fun ρz wz hE hA _ ⟨u0, u1, _⟩ => core_val rfl rfl (o_indexAddr (u0.trans hvy2) u1 (ia_26 hiy2)),
     fun ρz wz hE hA _ ⟨u2, _⟩ => core_val rfl rfl (o_fieldAddr u2 (fa_57_0 _ _)),
     fun ρz wz hE hA _ ⟨u3, _⟩ => core_val rfl rfl (o_load u3 (run_load1 (lr_3 _ _) (CA.sub ((hAy2.exn (hA rfl)).ca) 0 1))),
     fun ρz wz hE hA _ ⟨u4, _⟩ => core_val rfl rfl (o_lss u4 rfl rfl),
     fun ρz wz hE hA _ ⟨u5, _⟩ => core_valE rfl rfl (congrArg Value.bool hd6) (o_move u5),
     fun ρz wz hE hA ⟨e0, _⟩ ⟨u6, _⟩ => gYes rfl u6 (core_val rfl rfl (o_move (e0.trans h0))),
     fun ρz wz hE hA ⟨e3, _⟩ ⟨u6, _⟩ => gYes rfl u6 (core_val rfl rfl (o_move (e3.trans h3))),
     fun ρz wz hE hA _ ⟨u6, u7, u8, _⟩ => gYes rfl u6 (core_val rfl rfl (o_indexAddr (u7.trans hvy3) u8 (ia_26 hiy3))),
     fun ρz wz hE hA _ ⟨u6, u9, _⟩ => gYes rfl u6 (core_val rfl rfl (o_fieldAddr u9 (fa_57_0 _ _))),
     fun ρz wz hE hA _ ⟨u6, u10, _⟩ => gYes rfl u6 (core_val rfl rfl (o_load u10 (run_load1 (lr_3 _ _) (CA.sub ((hAy3.exn (hA rfl)).ca) 0 1)))),
     fun ρz wz hE hA _ ⟨u6, u11, _⟩ => gYes rfl u6 (core_val rfl rfl (o_gtr u11 rfl rfl)),
     fun ρz wz hE hA _ ⟨u6, u12, _⟩ => core_val rfl rfl (o_pick_f u6 u12),
     fun ρz wz hE hA _ ⟨u13, _⟩ => core_valE rfl rfl (congrArg Value.bool hd14) (o_move u13),
     fun ρz wz hE hA ⟨e0, _⟩ ⟨u14, _⟩ => gYes rfl u14 (core_val rfl rfl (o_move (e0.trans h0))),
     fun ρz wz hE hA ⟨e3, _⟩ ⟨u14, _⟩ => gYes rfl u14 (core_val rfl rfl (o_move (e3.trans h3))),
     fun ρz wz hE hA _ ⟨u14, u15, u16, _⟩ => gYes rfl u14 (core_val rfl rfl (o_indexAddr (u15.trans hvy4) u16 (ia_26 hiy4))),
     fun ρz wz hE hA _ ⟨u14, u17, _⟩ => gYes rfl u14 (core_val rfl rfl (o_fieldAddr u17 (fa_57_1 _ _))),
     fun ρz wz hE hA _ ⟨u14, u18, _⟩ => gYes rfl u14 (core_val rfl rfl (o_load u18 (run_load1 (lr_3 _ _) (CA.sub ((hAy4.exn (hA rfl)).ca) 1 1)))),
     fun ρz wz hE hA _ ⟨u14, u19, _⟩ => gYes rfl u14 (core_call rfl (call_args1 u19) cf_19 (pensionref1_ValidMonth_ok  _  hz)),
     fun ρz wz hE hA _ ⟨u14, u20, _⟩ => gYes rfl u14 (core_val rfl rfl (o_not u20 rfl)),
     fun ρz wz hE hA _ ⟨u14, u21, _⟩ => core_val rfl rfl (o_pick_f u14 u21),
     fun ρz wz hE hA _ ⟨u22, _⟩ => core_valE rfl rfl (congrArg Value.bool hd23) (o_move u22),
     fun ρz wz hE hA ⟨e4, _⟩ ⟨u23, _⟩ => gYes rfl u23 (core_val rfl rfl (o_load (e4.trans h4) (run_loadN (cs := (Fraction.cells y.Value)) (lr_54 _ _) rfl ((Hb_b4_.exn (hA rfl)).ca)))),
     fun ρz wz hE hA _ ⟨u23, u24, _⟩ => gYes rfl u23 (core_call rfl (call_args1 u24) cf_37 (pensionref1_ValidFraction_ok  _  hz2)),
     fun ρz wz hE hA _ ⟨u23, u25, _⟩ => gYes rfl u23 (core_val rfl rfl (o_not u25 rfl)),
     fun ρz wz hE hA _ ⟨u23, u26, _⟩ => core_val rfl rfl (o_pick_f u23 u26),
     fun ρz wz hE hA _ ⟨u27, _⟩ => core_valE rfl rfl (congrArg Value.bool hd28) (o_move u27),
     fun ρz wz hE hA ⟨e4, _⟩ ⟨u28, _⟩ => gYes rfl u28 (core_val rfl rfl (o_fieldAddr (e4.trans h4) (fa_54_0 _ _))),
     fun ρz wz hE hA _ ⟨u28, u29, _⟩ => gYes rfl u28 (core_val rfl rfl (o_load u29 (run_load1 (lr_3 _ _) (CA.sub ((Hb_b4_.exn (hA rfl)).ca) 0 1)))),
     fun ρz wz hE hA _ ⟨u28, u30, _⟩ => gYes rfl u28 (core_val rfl rfl (o_lss u30 rfl rfl)),
     fun ρz wz hE hA _ ⟨u28, u31, _⟩ => core_val rfl rfl (o_pick_f u28 u31),
     fun ρz wz hE hA _ ⟨u32, _⟩ => core_valE rfl rfl (congrArg Value.bool hd33) (o_move u32),
     fun _ _ _ _ _ ⟨u33, _⟩ => gNo rfl u33 rfl trivial,
     fun _ _ _ _ _ ⟨u33, _⟩ => gNo rfl u33 rfl trivial,
     fun _ _ _ _ _ ⟨u33, _⟩ => gNo rfl u33 rfl trivial,
     fun ρz wz hE hA _ ⟨u33, _⟩ => core_val rfl rfl (o_pick_t u33 rfl),
     fun ρz wz hE hA _ ⟨u37, _⟩ => core_val rfl rfl (o_move u37),
     fun _ _ _ _ _ ⟨u38, _⟩ => gNo rfl u38 rfl trivial,
     fun _ _ _ _ _ ⟨u38, _⟩ => gNo rfl u38 rfl trivial,
     fun _ _ _ _ _ ⟨u38, _⟩ => gNo rfl u38 rfl trivial,
     fun ρz wz hE hA _ ⟨u38, _⟩ => core_val rfl rfl (o_pick_t u38 rfl), trivial⟩ ?_
                  intro ρ13 w13 hE hN hf hr
                  have hN := hN rfl
                  have h0 := (hr 0 rfl).trans h0
                  have h3 := (hr 3 rfl).trans h3
                  have h61 : ρ13 61 = .bool true := hf 42 rfl
                  have H_d__at0 := H_d_
                  have H_d_ := H_d_.exn hN
                  have hW := hW.trans hN
                  have hsz := Nat.le_trans hsz hN.size
                  exact ⟨h0, h3, (h61.trans (congrArg Value.bool (by simp [hd6, hd14, hd23, hd28, hd33, ← hc, ← hc2, ← hc3]))), H_d_, hW, hsz⟩
                · rcases Bool.eq_false_or_eq_true (decide (1000000 < y.Value.Num)) with hd38 | hd38
                  · refine WP.region mixed [[], [], [0, 1], [2], [3], [4], [5], [6], [6], [6, 7, 8], [6, 9], [6, 10], [6, 11], [6, 12], [13], [14], [14], [14, 15, 16], [14, 17], [14, 18], [14, 19], [14, 20], [14, 21], [22], [23], [23, 24], [23, 25], [23, 26], [27], [28], [28, 29], [28, 30], [28, 31], [32], [33], [33, 34], [33, 35], [33, 36], [37], [38], [38], [38], [38]] [[], [], [0, 1], [2], [3], [4], [5], [6], [6], [6, 7, 8], [6, 9], [6, 10], [6, 11], [6, 12], [13], [14], [14], [14, 15, 16], [14, 17], [14, 18], [14, 19], [14, 20], [14, 21], [22], [23], [23, 24], [23, 25], [23, 26], [27], [28], [28, 29], [28, 30], [28, 31], [32], [33], [33, 34], [33, 35], [33, 36], [37], [38], [38], [38], [38]] [[0], [3], [], [], [], [], [], [0], [3], [], [], [], [], [], [], [0], [3], [], [], [], [], [], [], [], [4], [], [], [], [], [4], [], [], [], [], [4], [], [], [], [], [], [], [], []] [] []
                      [val 19 (v_d_), val 20 (.int .i64 x), val 21 (.pointer (some (ay2.add (Int.toNat x * 4)))), val 22 (.pointer (some ((ay2.add (Int.toNat x * 4)).add 0))), val 23 (.int .i64 y2.Currency), val 24 (.bool (decide (y2.Currency < 1))), val 25 (.bool false), val 26 (v_d_), val 27 (.int .i64 x), val 28 (.pointer (some (ay3.add (Int.toNat x * 4)))), val 29 (.pointer (some ((ay3.add (Int.toNat x * 4)).add 0))), val 30 (.int .i64 y3.Currency), val 31 (.bool (decide (999 < y3.Currency))), val 32 (.bool (decide (999 < y3.Currency))), val 33 (.bool false), val 34 (v_d_), val 35 (.int .i64 x), val 36 (.pointer (some (ay4.add (Int.toNat x * 4)))), val 37 (.pointer (some ((ay4.add (Int.toNat x * 4)).add 1))), val 38 (.int .i64 y4.Month), val 39 (.bool z), val 40 (.bool (!z)), val 41 (.bool (!z)), val 42 (.bool false), val 43 (Fraction.val y.Value), val 44 (.bool z2), val 45 (.bool (!z2)), val 46 (.bool (!z2)), val 47 (.bool false), val 48 (.pointer (some ((⟨b4_, 0, none⟩ : Addr).add 0))), val 49 (.int .i64 y.Value.Num), val 50 (.bool (decide (y.Value.Num < 1))), val 51 (.bool (decide (y.Value.Num < 1))), val 52 (.bool false), val 53 (.pointer (some ((⟨b4_, 0, none⟩ : Addr).add 0))), val 54 (.int .i64 y.Value.Num), val 55 (.bool (decide (1000000 < y.Value.Num))), val 56 (.bool (decide (1000000 < y.Value.Num))), val 57 (.bool true), anyF 58, anyF 59, anyF 60, val 61 (.bool true)] noG (by kernel_rfl)
                      ⟨Stable.val _ _ _, Stable.val _ _ _, Stable.val _ _ _, Stable.val _ _ _, Stable.val _ _ _, Stable.val _ _ _, Stable.val _ _ _, Stable.val _ _ _, Stable.val _ _ _, Stable.val _ _ _, Stable.val _ _ _, Stable.val _ _ _, Stable.val _ _ _, Stable.val _ _ _, Stable.val _ _ _, Stable.val _ _ _, Stable.val _ _ _, Stable.val _ _ _, Stable.val _ _ _, Stable.val _ _ _, Stable.val _ _ _, Stable.val _ _ _, Stable.val _ _ _, Stable.val _ _ _, Stable.val _ _ _, Stable.val _ _ _, Stable.val _ _ _, Stable.val _ _ _, Stable.val _ _ _, Stable.val _ _ _, Stable.val _ _ _, Stable.val _ _ _, Stable.val _ _ _, Stable.val _ _ _, Stable.val _ _ _, Stable.val _ _ _, Stable.val _ _ _, Stable.val _ _ _, Stable.val _ _ _, Stable.any _ _, Stable.any _ _, Stable.any _ _, Stable.val _ _ _, trivial⟩
                      ⟨fun ρz wz hE hA ⟨e0, _⟩ _ => core_val rfl rfl (o_move (e0.trans h0)),
     fun ρz wz hE hA ⟨e3, _⟩ _ => core_val rfl rfl (o_move (e3.trans h3)),
     fun ρz wz hE hA _ ⟨u0, u1, _⟩ => core_val rfl rfl (o_indexAddr (u0.trans hvy2) u1 (ia_26 hiy2)),
     fun ρz wz hE hA _ ⟨u2, _⟩ => core_val rfl rfl (o_fieldAddr u2 (fa_57_0 _ _)),
     fun ρz wz hE hA _ ⟨u3, _⟩ => core_val rfl rfl (o_load u3 (run_load1 (lr_3 _ _) (CA.sub ((hAy2.exn (hA rfl)).ca) 0 1))),
     fun ρz wz hE hA _ ⟨u4, _⟩ => core_val rfl rfl (o_lss u4 rfl rfl),
     fun ρz wz hE hA _ ⟨u5, _⟩ => core_valE rfl rfl (congrArg Value.bool hd6) (o_move u5),
     fun ρz wz hE hA ⟨e0, _⟩ ⟨u6, _⟩ => gYes rfl u6 (core_val rfl rfl (o_move (e0.trans h0))),
     fun ρz wz hE hA ⟨e3, _⟩ ⟨u6, _⟩ => gYes rfl u6 (core_val rfl rfl (o_move (e3.trans h3))),
     fun ρz wz hE hA _ ⟨u6, u7, u8, _⟩ => gYes rfl u6 (core_val rfl rfl (o_indexAddr (u7.trans hvy3) u8 (ia_26 hiy3))),
     fun ρz wz hE hA _ ⟨u6, u9, _⟩ => gYes rfl u6 (core_val rfl rfl (o_fieldAddr u9 (fa_57_0 _ _))),
     fun ρz wz hE hA _ ⟨u6, u10, _⟩ => gYes rfl u6 (core_val rfl rfl (o_load u10 (run_load1 (lr_3 _ _) (CA.sub ((hAy3.exn (hA rfl)).ca) 0 1)))),
     fun ρz wz hE hA _ ⟨u6, u11, _⟩ => gYes rfl u6 (core_val rfl rfl (o_gtr u11 rfl rfl)),
     fun ρz wz hE hA _ ⟨u6, u12, _⟩ => core_val rfl rfl (o_pick_f u6 u12),
     fun ρz wz hE hA _ ⟨u13, _⟩ => core_valE rfl rfl (congrArg Value.bool hd14) (o_move u13),
     fun ρz wz hE hA ⟨e0, _⟩ ⟨u14, _⟩ => gYes rfl u14 (core_val rfl rfl (o_move (e0.trans h0))),
     fun ρz wz hE hA ⟨e3, _⟩ ⟨u14, _⟩ => gYes rfl u14 (core_val rfl rfl (o_move (e3.trans h3))),
     fun ρz wz hE hA _ ⟨u14, u15, u16, _⟩ => gYes rfl u14 (core_val rfl rfl (o_indexAddr (u15.trans hvy4) u16 (ia_26 hiy4))),
     fun ρz wz hE hA _ ⟨u14, u17, _⟩ => gYes rfl u14 (core_val rfl rfl (o_fieldAddr u17 (fa_57_1 _ _))),
     fun ρz wz hE hA _ ⟨u14, u18, _⟩ => gYes rfl u14 (core_val rfl rfl (o_load u18 (run_load1 (lr_3 _ _) (CA.sub ((hAy4.exn (hA rfl)).ca) 1 1)))),
     fun ρz wz hE hA _ ⟨u14, u19, _⟩ => gYes rfl u14 (core_call rfl (call_args1 u19) cf_19 (pensionref1_ValidMonth_ok  _  hz)),
     fun ρz wz hE hA _ ⟨u14, u20, _⟩ => gYes rfl u14 (core_val rfl rfl (o_not u20 rfl)),
     fun ρz wz hE hA _ ⟨u14, u21, _⟩ => core_val rfl rfl (o_pick_f u14 u21),
     fun ρz wz hE hA _ ⟨u22, _⟩ => core_valE rfl rfl (congrArg Value.bool hd23) (o_move u22),
     fun ρz wz hE hA ⟨e4, _⟩ ⟨u23, _⟩ => gYes rfl u23 (core_val rfl rfl (o_load (e4.trans h4) (run_loadN (cs := (Fraction.cells y.Value)) (lr_54 _ _) rfl ((Hb_b4_.exn (hA rfl)).ca)))),
     fun ρz wz hE hA _ ⟨u23, u24, _⟩ => gYes rfl u23 (core_call rfl (call_args1 u24) cf_37 (pensionref1_ValidFraction_ok  _  hz2)),
     fun ρz wz hE hA _ ⟨u23, u25, _⟩ => gYes rfl u23 (core_val rfl rfl (o_not u25 rfl)),
     fun ρz wz hE hA _ ⟨u23, u26, _⟩ => core_val rfl rfl (o_pick_f u23 u26),
     fun ρz wz hE hA _ ⟨u27, _⟩ => core_valE rfl rfl (congrArg Value.bool hd28) (o_move u27),
     fun ρz wz hE hA ⟨e4, _⟩ ⟨u28, _⟩ => gYes rfl u28 (core_val rfl rfl (o_fieldAddr (e4.trans h4) (fa_54_0 _ _))),
     fun ρz wz hE hA _ ⟨u28, u29, _⟩ => gYes rfl u28 (core_val rfl rfl (o_load u29 (run_load1 (lr_3 _ _) (CA.sub ((Hb_b4_.exn (hA rfl)).ca) 0 1)))),
     fun ρz wz hE hA _ ⟨u28, u30, _⟩ => gYes rfl u28 (core_val rfl rfl (o_lss u30 rfl rfl)),
     fun ρz wz hE hA _ ⟨u28, u31, _⟩ => core_val rfl rfl (o_pick_f u28 u31),
     fun ρz wz hE hA _ ⟨u32, _⟩ => core_valE rfl rfl (congrArg Value.bool hd33) (o_move u32),
     fun ρz wz hE hA ⟨e4, _⟩ ⟨u33, _⟩ => gYes rfl u33 (core_val rfl rfl (o_fieldAddr (e4.trans h4) (fa_54_0 _ _))),
     fun ρz wz hE hA _ ⟨u33, u34, _⟩ => gYes rfl u33 (core_val rfl rfl (o_load u34 (run_load1 (lr_3 _ _) (CA.sub ((Hb_b4_.exn (hA rfl)).ca) 0 1)))),
     fun ρz wz hE hA _ ⟨u33, u35, _⟩ => gYes rfl u33 (core_val rfl rfl (o_gtr u35 rfl rfl)),
     fun ρz wz hE hA _ ⟨u33, u36, _⟩ => core_val rfl rfl (o_pick_f u33 u36),
     fun ρz wz hE hA _ ⟨u37, _⟩ => core_valE rfl rfl (congrArg Value.bool hd38) (o_move u37),
     fun _ _ _ _ _ ⟨u38, _⟩ => gNo rfl u38 rfl trivial,
     fun _ _ _ _ _ ⟨u38, _⟩ => gNo rfl u38 rfl trivial,
     fun _ _ _ _ _ ⟨u38, _⟩ => gNo rfl u38 rfl trivial,
     fun ρz wz hE hA _ ⟨u38, _⟩ => core_val rfl rfl (o_pick_t u38 rfl), trivial⟩ ?_
                    intro ρ14 w14 hE hN hf hr
                    have hN := hN rfl
                    have h0 := (hr 0 rfl).trans h0
                    have h3 := (hr 3 rfl).trans h3
                    have h61 : ρ14 61 = .bool true := hf 42 rfl
                    have H_d__at0 := H_d_
                    have H_d_ := H_d_.exn hN
                    have hW := hW.trans hN
                    have hsz := Nat.le_trans hsz hN.size
                    exact ⟨h0, h3, (h61.trans (congrArg Value.bool (by simp [hd6, hd14, hd23, hd28, hd33, hd38, ← hc, ← hc2, ← hc3]))), H_d_, hW, hsz⟩
                  · refine WP.region mixed [[], [], [0, 1], [2], [3], [4], [5], [6], [6], [6, 7, 8], [6, 9], [6, 10], [6, 11], [6, 12], [13], [14], [14], [14, 15, 16], [14, 17], [14, 18], [14, 19], [14, 20], [14, 21], [22], [23], [23, 24], [23, 25], [23, 26], [27], [28], [28, 29], [28, 30], [28, 31], [32], [33], [33, 34], [33, 35], [33, 36], [37], [38], [38, 39], [38, 40], [38, 41]] [[], [], [0, 1], [2], [3], [4], [5], [6], [6], [6, 7, 8], [6, 9], [6, 10], [6, 11], [6, 12], [13], [14], [14], [14, 15, 16], [14, 17], [14, 18], [14, 19], [14, 20], [14, 21], [22], [23], [23, 24], [23, 25], [23, 26], [27], [28], [28, 29], [28, 30], [28, 31], [32], [33], [33, 34], [33, 35], [33, 36], [37], [38], [38, 39], [38, 40], [38, 41]] [[0], [3], [], [], [], [], [], [0], [3], [], [], [], [], [], [], [0], [3], [], [], [], [], [], [], [], [4], [], [], [], [], [4], [], [], [], [], [4], [], [], [], [], [4], [], [], []] [] []
                      [val 19 (v_d_), val 20 (.int .i64 x), val 21 (.pointer (some (ay2.add (Int.toNat x * 4)))), val 22 (.pointer (some ((ay2.add (Int.toNat x * 4)).add 0))), val 23 (.int .i64 y2.Currency), val 24 (.bool (decide (y2.Currency < 1))), val 25 (.bool false), val 26 (v_d_), val 27 (.int .i64 x), val 28 (.pointer (some (ay3.add (Int.toNat x * 4)))), val 29 (.pointer (some ((ay3.add (Int.toNat x * 4)).add 0))), val 30 (.int .i64 y3.Currency), val 31 (.bool (decide (999 < y3.Currency))), val 32 (.bool (decide (999 < y3.Currency))), val 33 (.bool false), val 34 (v_d_), val 35 (.int .i64 x), val 36 (.pointer (some (ay4.add (Int.toNat x * 4)))), val 37 (.pointer (some ((ay4.add (Int.toNat x * 4)).add 1))), val 38 (.int .i64 y4.Month), val 39 (.bool z), val 40 (.bool (!z)), val 41 (.bool (!z)), val 42 (.bool false), val 43 (Fraction.val y.Value), val 44 (.bool z2), val 45 (.bool (!z2)), val 46 (.bool (!z2)), val 47 (.bool false), val 48 (.pointer (some ((⟨b4_, 0, none⟩ : Addr).add 0))), val 49 (.int .i64 y.Value.Num), val 50 (.bool (decide (y.Value.Num < 1))), val 51 (.bool (decide (y.Value.Num < 1))), val 52 (.bool false), val 53 (.pointer (some ((⟨b4_, 0, none⟩ : Addr).add 0))), val 54 (.int .i64 y.Value.Num), val 55 (.bool (decide (1000000 < y.Value.Num))), val 56 (.bool (decide (1000000 < y.Value.Num))), val 57 (.bool false), val 58 (.pointer (some ((⟨b4_, 0, none⟩ : Addr).add 1))), val 59 (.int .i64 y.Value.Den), val 60 (.bool (decide (1000000 < y.Value.Den))), val 61 (.bool (decide (1000000 < y.Value.Den)))] noG (by kernel_rfl)
                      ⟨Stable.val _ _ _, Stable.val _ _ _, Stable.val _ _ _, Stable.val _ _ _, Stable.val _ _ _, Stable.val _ _ _, Stable.val _ _ _, Stable.val _ _ _, Stable.val _ _ _, Stable.val _ _ _, Stable.val _ _ _, Stable.val _ _ _, Stable.val _ _ _, Stable.val _ _ _, Stable.val _ _ _, Stable.val _ _ _, Stable.val _ _ _, Stable.val _ _ _, Stable.val _ _ _, Stable.val _ _ _, Stable.val _ _ _, Stable.val _ _ _, Stable.val _ _ _, Stable.val _ _ _, Stable.val _ _ _, Stable.val _ _ _, Stable.val _ _ _, Stable.val _ _ _, Stable.val _ _ _, Stable.val _ _ _, Stable.val _ _ _, Stable.val _ _ _, Stable.val _ _ _, Stable.val _ _ _, Stable.val _ _ _, Stable.val _ _ _, Stable.val _ _ _, Stable.val _ _ _, Stable.val _ _ _, Stable.val _ _ _, Stable.val _ _ _, Stable.val _ _ _, Stable.val _ _ _, trivial⟩
                      ⟨fun ρz wz hE hA ⟨e0, _⟩ _ => core_val rfl rfl (o_move (e0.trans h0)),
     fun ρz wz hE hA ⟨e3, _⟩ _ => core_val rfl rfl (o_move (e3.trans h3)),
     fun ρz wz hE hA _ ⟨u0, u1, _⟩ => core_val rfl rfl (o_indexAddr (u0.trans hvy2) u1 (ia_26 hiy2)),
     fun ρz wz hE hA _ ⟨u2, _⟩ => core_val rfl rfl (o_fieldAddr u2 (fa_57_0 _ _)),
     fun ρz wz hE hA _ ⟨u3, _⟩ => core_val rfl rfl (o_load u3 (run_load1 (lr_3 _ _) (CA.sub ((hAy2.exn (hA rfl)).ca) 0 1))),
     fun ρz wz hE hA _ ⟨u4, _⟩ => core_val rfl rfl (o_lss u4 rfl rfl),
     fun ρz wz hE hA _ ⟨u5, _⟩ => core_valE rfl rfl (congrArg Value.bool hd6) (o_move u5),
     fun ρz wz hE hA ⟨e0, _⟩ ⟨u6, _⟩ => gYes rfl u6 (core_val rfl rfl (o_move (e0.trans h0))),
     fun ρz wz hE hA ⟨e3, _⟩ ⟨u6, _⟩ => gYes rfl u6 (core_val rfl rfl (o_move (e3.trans h3))),
     fun ρz wz hE hA _ ⟨u6, u7, u8, _⟩ => gYes rfl u6 (core_val rfl rfl (o_indexAddr (u7.trans hvy3) u8 (ia_26 hiy3))),
     fun ρz wz hE hA _ ⟨u6, u9, _⟩ => gYes rfl u6 (core_val rfl rfl (o_fieldAddr u9 (fa_57_0 _ _))),
     fun ρz wz hE hA _ ⟨u6, u10, _⟩ => gYes rfl u6 (core_val rfl rfl (o_load u10 (run_load1 (lr_3 _ _) (CA.sub ((hAy3.exn (hA rfl)).ca) 0 1)))),
     fun ρz wz hE hA _ ⟨u6, u11, _⟩ => gYes rfl u6 (core_val rfl rfl (o_gtr u11 rfl rfl)),
     fun ρz wz hE hA _ ⟨u6, u12, _⟩ => core_val rfl rfl (o_pick_f u6 u12),
     fun ρz wz hE hA _ ⟨u13, _⟩ => core_valE rfl rfl (congrArg Value.bool hd14) (o_move u13),
     fun ρz wz hE hA ⟨e0, _⟩ ⟨u14, _⟩ => gYes rfl u14 (core_val rfl rfl (o_move (e0.trans h0))),
     fun ρz wz hE hA ⟨e3, _⟩ ⟨u14, _⟩ => gYes rfl u14 (core_val rfl rfl (o_move (e3.trans h3))),
     fun ρz wz hE hA _ ⟨u14, u15, u16, _⟩ => gYes rfl u14 (core_val rfl rfl (o_indexAddr (u15.trans hvy4) u16 (ia_26 hiy4))),
     fun ρz wz hE hA _ ⟨u14, u17, _⟩ => gYes rfl u14 (core_val rfl rfl (o_fieldAddr u17 (fa_57_1 _ _))),
     fun ρz wz hE hA _ ⟨u14, u18, _⟩ => gYes rfl u14 (core_val rfl rfl (o_load u18 (run_load1 (lr_3 _ _) (CA.sub ((hAy4.exn (hA rfl)).ca) 1 1)))),
     fun ρz wz hE hA _ ⟨u14, u19, _⟩ => gYes rfl u14 (core_call rfl (call_args1 u19) cf_19 (pensionref1_ValidMonth_ok  _  hz)),
     fun ρz wz hE hA _ ⟨u14, u20, _⟩ => gYes rfl u14 (core_val rfl rfl (o_not u20 rfl)),
     fun ρz wz hE hA _ ⟨u14, u21, _⟩ => core_val rfl rfl (o_pick_f u14 u21),
     fun ρz wz hE hA _ ⟨u22, _⟩ => core_valE rfl rfl (congrArg Value.bool hd23) (o_move u22),
     fun ρz wz hE hA ⟨e4, _⟩ ⟨u23, _⟩ => gYes rfl u23 (core_val rfl rfl (o_load (e4.trans h4) (run_loadN (cs := (Fraction.cells y.Value)) (lr_54 _ _) rfl ((Hb_b4_.exn (hA rfl)).ca)))),
     fun ρz wz hE hA _ ⟨u23, u24, _⟩ => gYes rfl u23 (core_call rfl (call_args1 u24) cf_37 (pensionref1_ValidFraction_ok  _  hz2)),
     fun ρz wz hE hA _ ⟨u23, u25, _⟩ => gYes rfl u23 (core_val rfl rfl (o_not u25 rfl)),
     fun ρz wz hE hA _ ⟨u23, u26, _⟩ => core_val rfl rfl (o_pick_f u23 u26),
     fun ρz wz hE hA _ ⟨u27, _⟩ => core_valE rfl rfl (congrArg Value.bool hd28) (o_move u27),
     fun ρz wz hE hA ⟨e4, _⟩ ⟨u28, _⟩ => gYes rfl u28 (core_val rfl rfl (o_fieldAddr (e4.trans h4) (fa_54_0 _ _))),
     fun ρz wz hE hA _ ⟨u28, u29, _⟩ => gYes rfl u28 (core_val rfl rfl (o_load u29 (run_load1 (lr_3 _ _) (CA.sub ((Hb_b4_.exn (hA rfl)).ca) 0 1)))),
     fun ρz wz hE hA _ ⟨u28, u30, _⟩ => gYes rfl u28 (core_val rfl rfl (o_lss u30 rfl rfl)),
     fun ρz wz hE hA _ ⟨u28, u31, _⟩ => core_val rfl rfl (o_pick_f u28 u31),
     fun ρz wz hE hA _ ⟨u32, _⟩ => core_valE rfl rfl (congrArg Value.bool hd33) (o_move u32),
     fun ρz wz hE hA ⟨e4, _⟩ ⟨u33, _⟩ => gYes rfl u33 (core_val rfl rfl (o_fieldAddr (e4.trans h4) (fa_54_0 _ _))),
     fun ρz wz hE hA _ ⟨u33, u34, _⟩ => gYes rfl u33 (core_val rfl rfl (o_load u34 (run_load1 (lr_3 _ _) (CA.sub ((Hb_b4_.exn (hA rfl)).ca) 0 1)))),
     fun ρz wz hE hA _ ⟨u33, u35, _⟩ => gYes rfl u33 (core_val rfl rfl (o_gtr u35 rfl rfl)),
     fun ρz wz hE hA _ ⟨u33, u36, _⟩ => core_val rfl rfl (o_pick_f u33 u36),
     fun ρz wz hE hA _ ⟨u37, _⟩ => core_valE rfl rfl (congrArg Value.bool hd38) (o_move u37),
     fun ρz wz hE hA ⟨e4, _⟩ ⟨u38, _⟩ => gYes rfl u38 (core_val rfl rfl (o_fieldAddr (e4.trans h4) (fa_54_1 _ _))),
     fun ρz wz hE hA _ ⟨u38, u39, _⟩ => gYes rfl u38 (core_val rfl rfl (o_load u39 (run_load1 (lr_3 _ _) (CA.sub ((Hb_b4_.exn (hA rfl)).ca) 1 1)))),
     fun ρz wz hE hA _ ⟨u38, u40, _⟩ => gYes rfl u38 (core_val rfl rfl (o_gtr u40 rfl rfl)),
     fun ρz wz hE hA _ ⟨u38, u41, _⟩ => core_val rfl rfl (o_pick_f u38 u41), trivial⟩ ?_
                    intro ρ15 w15 hE hN hf hr
                    have hN := hN rfl
                    have h0 := (hr 0 rfl).trans h0
                    have h3 := (hr 3 rfl).trans h3
                    have h61 : ρ15 61 = .bool (decide (1000000 < y.Value.Den)) := hf 42 rfl
                    have H_d__at0 := H_d_
                    have H_d_ := H_d_.exn hN
                    have hW := hW.trans hN
                    have hsz := Nat.le_trans hsz hN.size
                    exact ⟨h0, h3, (h61.trans (congrArg Value.bool (by simp [hd6, hd14, hd23, hd28, hd33, hd38, ← hc, ← hc2, ← hc3]))), H_d_, hW, hsz⟩
      rintro ρ8 w8 ⟨h0, h3, h61, H_d_, hW, hsz⟩
      refine WP.cond rfl h61 (fun hb => ?_) (fun hb => ?_)
      · have hF := (if_pos hb).symm.trans hF
        refine WP.seq ?_
        refine WP.region mixed [[]] [[]] [[]] [] []
          [val 2 (.int .i64 1)] noG (by kernel_rfl)
          ⟨Stable.val _ _ _, trivial⟩
          ⟨fun ρz wz hE hA _ _ => core_val rfl rfl (o_assign rfl), trivial⟩ ?_
        intro ρ16 w16 hE hN hf hr
        have hN := hN rfl
        have h2 : ρ16 2 = .int .i64 1 := hf 0 rfl
        have hW := hW.trans hN
        have hsz := Nat.le_trans hsz hN.size
        refine WP.ret ?_
        show retQ Tryd.prog 106 Tryd.f20 (fun v w1 => v = .int .i64 r ∧ Ext noG w0 w1) .ret ρ16 w16
        obtain rfl := Option.some.inj hF
        exact res1 rfl (by decide) h2 ⟨rfl, hW⟩
      · have hF := (if_neg (Bool.eq_false_iff.1 hb)).symm.trans hF
        refine WP.skip ?_
        refine WP.seq ?_
        obtain ⟨c6, hc6, hF⟩ := obind hF
        refine WP.via (fun ρ w => ρ 0 = v_d_ ∧ ρ 3 = .int .i64 x ∧ ρ 105 = .bool c6 ∧ RepSl Rate.R (gfr noG w0) w v_d_ d_ ∧ Ext noG w0 w ∧ w0.heap.size ≤ w.heap.size) ?_ ?_
        · rcases Bool.eq_false_or_eq_true (decide (0 < x)) with hd2 | hd2
          · have hc6 := (if_pos (by simp [hd2])).symm.trans hc6
            obtain ⟨y5, hy5, hc6⟩ := obind hc6
            obtain ⟨ay5, cy5, hvy5, hiy5, hAy5⟩ := RepSl.getF H_d_ hy5
            obtain ⟨y6, hy6, hc6⟩ := obind hc6
            obtain ⟨ay6, cy6, hvy6, hiy6, hAy6⟩ := RepSl.getF H_d_ hy6
            obtain ⟨c5, hc5, hc6⟩ := obind hc6
            have hc6 := Option.some.inj hc6
            rcases Bool.eq_false_or_eq_true (decide (y6.Currency < y5.Currency)) with hd15 | hd15
            · have hc5 := (if_pos (by simp [hd2, hd15, ← hc6])).symm.trans hc5
              have hc5 := Option.some.inj hc5
              refine WP.region mixed [[], [0], [1], [2], [2], [2, 4], [2, 3, 5], [2, 6], [2, 7], [2], [2], [2, 9, 10], [2, 11], [2, 12], [2, 8, 13], [2, 14], [15], [15], [15], [15], [15], [15], [15], [15], [15], [15], [15], [15], [15], [28], [28], [28], [28], [28], [28], [28], [28], [28], [28], [28], [28], [15], [2, 15], [2, 42]] [[], [0], [1], [2], [2], [2, 4], [2, 3, 5], [2, 6], [2, 7], [2], [2], [2, 9, 10], [2, 11], [2, 12], [2, 8, 13], [2, 14], [15], [15], [15], [15], [15], [15], [15], [15], [15], [15], [15], [15], [15], [28], [28], [28], [28], [28], [28], [28], [28], [28], [28], [28], [28], [15], [2, 15], [2, 42]] [[3], [], [], [0], [3], [], [], [], [], [0], [3], [], [], [], [], [], [], [], [], [], [], [], [], [], [], [], [], [], [], [], [], [], [], [], [], [], [], [], [], [], [], [], [], []] [] []
                [val 62 (.int .i64 x), val 63 (.bool (decide (0 < x))), val 64 (.bool true), val 65 (v_d_), val 66 (.int .i64 x), val 67 (.int .i64 (i64 (x - 1))), val 68 (.pointer (some (ay5.add (Int.toNat (i64 (x - 1)) * 4)))), val 69 (.pointer (some ((ay5.add (Int.toNat (i64 (x - 1)) * 4)).add 0))), val 70 (.int .i64 y5.Currency), val 71 (v_d_), val 72 (.int .i64 x), val 73 (.pointer (some (ay6.add (Int.toNat x * 4)))), val 74 (.pointer (some ((ay6.add (Int.toNat x * 4)).add 0))), val 75 (.int .i64 y6.Currency), val 76 (.bool (decide (y6.Currency < y5.Currency))), val 77 (.bool true), anyF 78, anyF 79, anyF 80, anyF 81, anyF 82, anyF 83, anyF 84, anyF 85, anyF 86, anyF 87, anyF 88, anyF 89, val 90 undef, anyF 91, anyF 92, anyF 93, anyF 94, anyF 95, anyF 96, anyF 97, anyF 98, anyF 99, anyF 100, anyF 101, anyF 102, anyF 103, val 104 (.bool true), val 105 (.bool true)] noG (by kernel_rfl)
                ⟨Stable.val _ _ _, Stable.val _ _ _, Stable.val _ _ _, Stable.val _ _ _, Stable.val _ _ _, Stable.val _ _ _, Stable.val _ _ _, Stable.val _ _ _, Stable.val _ _ _, Stable.val _ _ _, Stable.val _ _ _, Stable.val _ _ _, Stable.val _ _ _, Stable.val _ _ _, Stable.val _ _ _, Stable.val _ _ _, Stable.any _ _, Stable.any _ _, Stable.any _ _, Stable.any _ _, Stable.any _ _, Stable.any _ _, Stable.any _ _, Stable.any _ _, Stable.any _ _, Stable.any _ _, Stable.any _ _, Stable.any _ _, Stable.val _ _ _, Stable.any _ _, Stable.any _ _, Stable.any _ _, Stable.any _ _, Stable.any _ _, Stable.any _ _, Stable.any _ _, Stable.any _ _, Stable.any _ _, Stable.any _ _, Stable.any _ _, Stable.any _ _, Stable.any _ _, Stable.val _ _ _, Stable.val _ _ _, trivial⟩
                ⟨fun ρz wz hE hA ⟨e3, _⟩ _ => core_val rfl rfl (o_move (e3.trans h3)),
     fun ρz wz hE hA _ ⟨u0, _⟩ => core_val rfl rfl (o_gtr u0 rfl rfl),
     fun ρz wz hE hA _ ⟨u1, _⟩ => core_valE rfl rfl (congrArg Value.bool hd2) (o_move u1),
     fun ρz wz hE hA ⟨e0, _⟩ ⟨u2, _⟩ => gYes rfl u2 (core_val rfl rfl (o_move (e0.trans h0))),
     fun ρz wz hE hA ⟨e3, _⟩ ⟨u2, _⟩ => gYes rfl u2 (core_val rfl rfl (o_move (e3.trans h3))),
     fun ρz wz hE hA _ ⟨u2, u4, _⟩ => gYes rfl u2 (core_val rfl rfl (o_sub u4 rfl rfl)),
     fun ρz wz hE hA _ ⟨u2, u3, u5, _⟩ => gYes rfl u2 (core_val rfl rfl (o_indexAddr (u3.trans hvy5) u5 (ia_26 hiy5))),
     fun ρz wz hE hA _ ⟨u2, u6, _⟩ => gYes rfl u2 (core_val rfl rfl (o_fieldAddr u6 (fa_57_0 _ _))),
     fun ρz wz hE hA _ ⟨u2, u7, _⟩ => gYes rfl u2 (core_val rfl rfl (o_load u7 (run_load1 (lr_3 _ _) (CA.sub ((hAy5.exn (hA rfl)).ca) 0 1)))),
     fun ρz wz hE hA ⟨e0, _⟩ ⟨u2, _⟩ => gYes rfl u2 (core_val rfl rfl (o_move (e0.trans h0))),
     fun ρz wz hE hA ⟨e3, _⟩ ⟨u2, _⟩ => gYes rfl u2 (core_val rfl rfl (o_move (e3.trans h3))),
     fun ρz wz hE hA _ ⟨u2, u9, u10, _⟩ => gYes rfl u2 (core_val rfl rfl (o_indexAddr (u9.trans hvy6) u10 (ia_26 hiy6))),
     fun ρz wz hE hA _ ⟨u2, u11, _⟩ => gYes rfl u2 (core_val rfl rfl (o_fieldAddr u11 (fa_57_0 _ _))),
     fun ρz wz hE hA _ ⟨u2, u12, _⟩ => gYes rfl u2 (core_val rfl rfl (o_load u12 (run_load1 (lr_3 _ _) (CA.sub ((hAy6.exn (hA rfl)).ca) 0 1)))),
     fun ρz wz hE hA _ ⟨u2, u8, u13, _⟩ => gYes rfl u2 (core_val rfl rfl (o_gtr u8 u13 rfl)),
     fun ρz wz hE hA _ ⟨u2, u14, _⟩ => gYes rfl u2 (core_valE rfl rfl (congrArg Value.bool hd15) (o_move u14)),
     fun _ _ _ _ _ ⟨u15, _⟩ => gNo rfl u15 rfl trivial,
     fun _ _ _ _ _ ⟨u15, _⟩ => gNo rfl u15 rfl trivial,
     fun _ _ _ _ _ ⟨u15, _⟩ => gNo rfl u15 rfl trivial,
     fun _ _ _ _ _ ⟨u15, _⟩ => gNo rfl u15 rfl trivial,
     fun _ _ _ _ _ ⟨u15, _⟩ => gNo rfl u15 rfl trivial,
     fun _ _ _ _ _ ⟨u15, _⟩ => gNo rfl u15 rfl trivial,
     fun _ _ _ _ _ ⟨u15, _⟩ => gNo rfl u15 rfl trivial,
     fun _ _ _ _ _ ⟨u15, _⟩ => gNo rfl u15 rfl trivial,
     fun _ _ _ _ _ ⟨u15, _⟩ => gNo rfl u15 rfl trivial,
     fun _ _ _ _ _ ⟨u15, _⟩ => gNo rfl u15 rfl trivial,
     fun _ _ _ _ _ ⟨u15, _⟩ => gNo rfl u15 rfl trivial,
     fun _ _ _ _ _ ⟨u15, _⟩ => gNo rfl u15 rfl trivial,
     fun _ _ _ _ _ ⟨u15, _⟩ => gNo rfl u15 rfl (upd_same _ _ _),
     fun _ _ _ _ _ ⟨u28, _⟩ => gOff rfl u28 trivial,
     fun _ _ _ _ _ ⟨u28, _⟩ => gOff rfl u28 trivial,
     fun _ _ _ _ _ ⟨u28, _⟩ => gOff rfl u28 trivial,
     fun _ _ _ _ _ ⟨u28, _⟩ => gOff rfl u28 trivial,
     fun _ _ _ _ _ ⟨u28, _⟩ => gOff rfl u28 trivial,
     fun _ _ _ _ _ ⟨u28, _⟩ => gOff rfl u28 trivial,
     fun _ _ _ _ _ ⟨u28, _⟩ => gOff rfl u28 trivial,
     fun _ _ _ _ _ ⟨u28, _⟩ => gOff rfl u28 trivial,
     fun _ _ _ _ _ ⟨u28, _⟩ => gOff rfl u28 trivial,
     fun _ _ _ _ _ ⟨u28, _⟩ => gOff rfl u28 trivial,
     fun _ _ _ _ _ ⟨u28, _⟩ => gOff rfl u28 trivial,
     fun _ _ _ _ _ ⟨u28, _⟩ => gOff rfl u28 trivial,
     fun _ _ _ _ _ ⟨u15, _⟩ => gNo rfl u15 rfl trivial,
     fun ρz wz hE hA _ ⟨u2, u15, _⟩ => gYes rfl u2 (core_val rfl rfl (o_pick_t u15 rfl)),
     fun ρz wz hE hA _ ⟨u2, u42, _⟩ => core_val rfl rfl (o_pick_t u2 u42), trivial⟩ ?_
              intro ρ18 w18 hE hN hf hr
              have hN := hN rfl
              have h0 := (hr 0 rfl).trans h0
              have h3 := (hr 3 rfl).trans h3
              have h105 : ρ18 105 = .bool true := hf 43 rfl
              have H_d__at0 := H_d_
              have H_d_ := H_d_.exn hN
              have hW := hW.trans hN
              have hsz := Nat.le_trans hsz hN.size
              exact ⟨h0, h3, (h105.trans (congrArg Value.bool (by simp [hd2, hd15, ← hc6, ← hc5]))), H_d_, hW, hsz⟩
            · have hc5 := (if_neg (Bool.eq_false_iff.1 (by simp [hd2, hd15, ← hc6]))).symm.trans hc5
              obtain ⟨y7, hy7, hc5⟩ := obind hc5
              obtain ⟨ay7, cy7, hvy7, hiy7, hAy7⟩ := RepSl.getF H_d_ hy7
              obtain ⟨y8, hy8, hc5⟩ := obind hc5
              obtain ⟨ay8, cy8, hvy8, hiy8, hAy8⟩ := RepSl.getF H_d_ hy8
              obtain ⟨c4, hc4, hc5⟩ := obind hc5
              have hc5 := Option.some.inj hc5
              rcases Bool.eq_false_or_eq_true (y7.Currency == y8.Currency) with hd28 | hd28
              · have hc4 := (if_pos (by simp [hd2, hd15, hd28, ← hc6, ← hc5])).symm.trans hc4
                obtain ⟨y9, hy9, hc4⟩ := obind hc4
                obtain ⟨ay9, cy9, hvy9, hiy9, hAy9⟩ := RepSl.getF H_d_ hy9
                obtain ⟨y10, hy10, hc4⟩ := obind hc4
                obtain ⟨ay10, cy10, hvy10, hiy10, hAy10⟩ := RepSl.getF H_d_ hy10
                have hc4 := Option.some.inj hc4
                refine WP.region mixed [[], [0], [1], [2], [2], [2, 4], [2, 3, 5], [2, 6], [2, 7], [2], [2], [2, 9, 10], [2, 11], [2, 12], [2, 8, 13], [2, 14], [15], [15], [15, 17], [15, 16, 18], [15, 19], [15, 20], [15], [15], [15, 22, 23], [15, 24], [15, 25], [15, 21, 26], [15, 27], [28], [28], [28, 30], [28, 29, 31], [28, 32], [28, 33], [28], [28], [28, 35, 36], [28, 37], [28, 38], [28, 34, 39], [15, 28, 40], [2, 15, 41], [2, 42]] [[], [0], [1], [2], [2], [2, 4], [2, 3, 5], [2, 6], [2, 7], [2], [2], [2, 9, 10], [2, 11], [2, 12], [2, 8, 13], [2, 14], [15], [15], [15, 17], [15, 16, 18], [15, 19], [15, 20], [15], [15], [15, 22, 23], [15, 24], [15, 25], [15, 21, 26], [15, 27], [28], [28], [28, 30], [28, 29, 31], [28, 32], [28, 33], [28], [28], [28, 35, 36], [28, 37], [28, 38], [28, 34, 39], [15, 28, 40], [2, 15, 41], [2, 42]] [[3], [], [], [0], [3], [], [], [], [], [0], [3], [], [], [], [], [], [0], [3], [], [], [], [], [0], [3], [], [], [], [], [], [0], [3], [], [], [], [], [0], [3], [], [], [], [], [], [], []] [] []
                  [val 62 (.int .i64 x), val 63 (.bool (decide (0 < x))), val 64 (.bool true), val 65 (v_d_), val 66 (.int .i64 x), val 67 (.int .i64 (i64 (x - 1))), val 68 (.pointer (some (ay5.add (Int.toNat (i64 (x - 1)) * 4)))), val 69 (.pointer (some ((ay5.add (Int.toNat (i64 (x - 1)) * 4)).add 0))), val 70 (.int .i64 y5.Currency), val 71 (v_d_), val 72 (.int .i64 x), val 73 (.pointer (some (ay6.add (Int.toNat x * 4)))), val 74 (.pointer (some ((ay6.add (Int.toNat x * 4)).add 0))), val 75 (.int .i64 y6.Currency), val 76 (.bool (decide (y6.Currency < y5.Currency))), val 77 (.bool false), val 78 (v_d_), val 79 (.int .i64 x), val 80 (.int .i64 (i64 (x - 1))), val 81 (.pointer (some (ay7.add (Int.toNat (i64 (x - 1)) * 4)))), val 82 (.pointer (some ((ay7.add (Int.toNat (i64 (x - 1)) * 4)).add 0))), val 83 (.int .i64 y7.Currency), val 84 (v_d_), val 85 (.int .i64 x), val 86 (.pointer (some (ay8.add (Int.toNat x * 4)))), val 87 (.pointer (some ((ay8.add (Int.toNat x * 4)).add 0))), val 88 (.int .i64 y8.Currency), val 89 (.bool (y7.Currency == y8.Currency)), val 90 (.bool true), val 91 (v_d_), val 92 (.int .i64 x), val 93 (.int .i64 (i64 (x - 1))), val 94 (.pointer (some (ay9.add (Int.toNat (i64 (x - 1)) * 4)))), val 95 (.pointer (some ((ay9.add (Int.toNat (i64 (x - 1)) * 4)).add 1))), val 96 (.int .i64 y9.Month), val 97 (v_d_), val 98 (.int .i64 x), val 99 (.pointer (some (ay10.add (Int.toNat x * 4)))), val 100 (.pointer (some ((ay10.add (Int.toNat x * 4)).add 1))), val 101 (.int .i64 y10.Month), val 102 (.bool (decide (y10.Month ≤ y9.Month))), val 103 (.bool (decide (y10.Month ≤ y9.Month))), val 104 (.bool (decide (y10.Month ≤ y9.Month))), val 105 (.bool (decide (y10.Month ≤ y9.Month)))] noG (by kernel_rfl)
                  ⟨Stable.val _ _ _, Stable.val _ _ _, Stable.val _ _ _, Stable.val _ _ _, Stable.val _ _ _, Stable.val _ _ _, Stable.val _ _ _, Stable.val _ _ _, Stable.val _ _ _, Stable.val _ _ _, Stable.val _ _ _, Stable.val _ _ _, Stable.val _ _ _, Stable.val _ _ _, Stable.val _ _ _, Stable.val _ _ _, Stable.val _ _ _, Stable.val _ _ _, Stable.val _ _ _, Stable.val _ _ _, Stable.val _ _ _, Stable.val _ _ _, Stable.val _ _ _, Stable.val _ _ _, Stable.val _ _ _, Stable.val _ _ _, Stable.val _ _ _, Stable.val _ _ _, Stable.val _ _ _, Stable.val _ _ _, Stable.val _ _ _, Stable.val _ _ _, Stable.val _ _ _, Stable.val _ _ _, Stable.val _ _ _, Stable.val _ _ _, Stable.val _ _ _, Stable.val _ _ _, Stable.val _ _ _, Stable.val _ _ _, Stable.val _ _ _, Stable.val _ _ _, Stable.val _ _ _, Stable.val _ _ _, trivial⟩
                  ⟨fun ρz wz hE hA ⟨e3, _⟩ _ => core_val rfl rfl (o_move (e3.trans h3)),
     fun ρz wz hE hA _ ⟨u0, _⟩ => core_val rfl rfl (o_gtr u0 rfl rfl),
     fun ρz wz hE hA _ ⟨u1, _⟩ => core_valE rfl rfl (congrArg Value.bool hd2) (o_move u1),
     fun ρz wz hE hA ⟨e0, _⟩ ⟨u2, _⟩ => gYes rfl u2 (core_val rfl rfl (o_move (e0.trans h0))),
     fun ρz wz hE hA ⟨e3, _⟩ ⟨u2, _⟩ => gYes rfl u2 (core_val rfl rfl (o_move (e3.trans h3))),
     fun ρz wz hE hA _ ⟨u2, u4, _⟩ => gYes rfl u2 (core_val rfl rfl (o_sub u4 rfl rfl)),
     fun ρz wz hE hA _ ⟨u2, u3, u5, _⟩ => gYes rfl u2 (core_val rfl rfl (o_indexAddr (u3.trans hvy5) u5 (ia_26 hiy5))),
     fun ρz wz hE hA _ ⟨u2, u6, _⟩ => gYes rfl u2 (core_val rfl rfl (o_fieldAddr u6 (fa_57_0 _ _))),
     fun ρz wz hE hA _ ⟨u2, u7, _⟩ => gYes rfl u2 (core_val rfl rfl (o_load u7 (run_load1 (lr_3 _ _) (CA.sub ((hAy5.exn (hA rfl)).ca) 0 1)))),
     fun ρz wz hE hA ⟨e0, _⟩ ⟨u2, _⟩ => gYes rfl u2 (core_val rfl rfl (o_move (e0.trans h0))),
     fun ρz wz hE hA ⟨e3, _⟩ ⟨u2, _⟩ => gYes rfl u2 (core_val rfl rfl (o_move (e3.trans h3))),
     fun ρz wz hE hA _ ⟨u2, u9, u10, _⟩ => gYes rfl u2 (core_val rfl rfl (o_indexAddr (u9.trans hvy6) u10 (ia_26 hiy6))),
     fun ρz wz hE hA _ ⟨u2, u11, _⟩ => gYes rfl u2 (core_val rfl rfl (o_fieldAddr u11 (fa_57_0 _ _))),
     fun ρz wz hE hA _ ⟨u2, u12, _⟩ => gYes rfl u2 (core_val rfl rfl (o_load u12 (run_load1 (lr_3 _ _) (CA.sub ((hAy6.exn (hA rfl)).ca) 0 1)))),
     fun ρz wz hE hA _ ⟨u2, u8, u13, _⟩ => gYes rfl u2 (core_val rfl rfl (o_gtr u8 u13 rfl)),
     fun ρz wz hE hA _ ⟨u2, u14, _⟩ => gYes rfl u2 (core_valE rfl rfl (congrArg Value.bool hd15) (o_move u14)),
     fun ρz wz hE hA ⟨e0, _⟩ ⟨u15, _⟩ => gYes rfl u15 (core_val rfl rfl (o_move (e0.trans h0))),
     fun ρz wz hE hA ⟨e3, _⟩ ⟨u15, _⟩ => gYes rfl u15 (core_val rfl rfl (o_move (e3.trans h3))),
     fun ρz wz hE hA _ ⟨u15, u17, _⟩ => gYes rfl u15 (core_val rfl rfl (o_sub u17 rfl rfl)),
     fun ρz wz hE hA _ ⟨u15, u16, u18, _⟩ => gYes rfl u15 (core_val rfl rfl (o_indexAddr (u16.trans hvy7) u18 (ia_26 hiy7))),
     fun ρz wz hE hA _ ⟨u15, u19, _⟩ => gYes rfl u15 (core_val rfl rfl (o_fieldAddr u19 (fa_57_0 _ _))),
     fun ρz wz hE hA _ ⟨u15, u20, _⟩ => gYes rfl u15 (core_val rfl rfl (o_load u20 (run_load1 (lr_3 _ _) (CA.sub ((hAy7.exn (hA rfl)).ca) 0 1)))),
     fun ρz wz hE hA ⟨e0, _⟩ ⟨u15, _⟩ => gYes rfl u15 (core_val rfl rfl (o_move (e0.trans h0))),
     fun ρz wz hE hA ⟨e3, _⟩ ⟨u15, _⟩ => gYes rfl u15 (core_val rfl rfl (o_move (e3.trans h3))),
     fun ρz wz hE hA _ ⟨u15, u22, u23, _⟩ => gYes rfl u15 (core_val rfl rfl (o_indexAddr (u22.trans hvy8) u23 (ia_26 hiy8))),
     fun ρz wz hE hA _ ⟨u15, u24, _⟩ => gYes rfl u15 (core_val rfl rfl (o_fieldAddr u24 (fa_57_0 _ _))),
     fun ρz wz hE hA _ ⟨u15, u25, _⟩ => gYes rfl u15 (core_val rfl rfl (o_load u25 (run_load1 (lr_3 _ _) (CA.sub ((hAy8.exn (hA rfl)).ca) 0 1)))),
     fun ρz wz hE hA _ ⟨u15, u21, u26, _⟩ => gYes rfl u15 (core_val rfl rfl (o_eql u21 u26 rfl)),
     fun ρz wz hE hA _ ⟨u15, u27, _⟩ => gYes rfl u15 (core_valE rfl rfl (congrArg Value.bool hd28) (o_move u27)),
     fun ρz wz hE hA ⟨e0, _⟩ ⟨u28, _⟩ => gYes rfl u28 (core_val rfl rfl (o_move (e0.trans h0))),
     fun ρz wz hE hA ⟨e3, _⟩ ⟨u28, _⟩ => gYes rfl u28 (core_val rfl rfl (o_move (e3.trans h3))),
     fun ρz wz hE hA _ ⟨u28, u30, _⟩ => gYes rfl u28 (core_val rfl rfl (o_sub u30 rfl rfl)),
     fun ρz wz hE hA _ ⟨u28, u29, u31, _⟩ => gYes rfl u28 (core_val rfl rfl (o_indexAddr (u29.trans hvy9) u31 (ia_26 hiy9))),
     fun ρz wz hE hA _ ⟨u28, u32, _⟩ => gYes rfl u28 (core_val rfl rfl (o_fieldAddr u32 (fa_57_1 _ _))),
     fun ρz wz hE hA _ ⟨u28, u33, _⟩ => gYes rfl u28 (core_val rfl rfl (o_load u33 (run_load1 (lr_3 _ _) (CA.sub ((hAy9.exn (hA rfl)).ca) 1 1)))),
     fun ρz wz hE hA ⟨e0, _⟩ ⟨u28, _⟩ => gYes rfl u28 (core_val rfl rfl (o_move (e0.trans h0))),
     fun ρz wz hE hA ⟨e3, _⟩ ⟨u28, _⟩ => gYes rfl u28 (core_val rfl rfl (o_move (e3.trans h3))),
     fun ρz wz hE hA _ ⟨u28, u35, u36, _⟩ => gYes rfl u28 (core_val rfl rfl (o_indexAddr (u35.trans hvy10) u36 (ia_26 hiy10))),
     fun ρz wz hE hA _ ⟨u28, u37, _⟩ => gYes rfl u28 (core_val rfl rfl (o_fieldAddr u37 (fa_57_1 _ _))),
     fun ρz wz hE hA _ ⟨u28, u38, _⟩ => gYes rfl u28 (core_val rfl rfl (o_load u38 (run_load1 (lr_3 _ _) (CA.sub ((hAy10.exn (hA rfl)).ca) 1 1)))),
     fun ρz wz hE hA _ ⟨u28, u34, u39, _⟩ => gYes rfl u28 (core_val rfl rfl (o_geq u34 u39 rfl)),
     fun ρz wz hE hA _ ⟨u15, u28, u40, _⟩ => gYes rfl u15 (core_val rfl rfl (o_pick_t u28 u40)),
     fun ρz wz hE hA _ ⟨u2, u15, u41, _⟩ => gYes rfl u2 (core_val rfl rfl (o_pick_f u15 u41)),
     fun ρz wz hE hA _ ⟨u2, u42, _⟩ => core_val rfl rfl (o_pick_t u2 u42), trivial⟩ ?_
                intro ρ19 w19 hE hN hf hr
                have hN := hN rfl
                have h0 := (hr 0 rfl).trans h0
                have h3 := (hr 3 rfl).trans h3
                have h105 : ρ19 105 = .bool (decide (y10.Month ≤ y9.Month)) := hf 43 rfl
                have H_d__at0 := H_d_
                have H_d_ := H_d_.exn hN
                have hW := hW.trans hN
                have hsz := Nat.le_trans hsz hN.size
                exact ⟨h0, h3, (h105.trans (congrArg Value.bool (by simp [hd2, hd15, hd28, ← hc6, ← hc5, ← hc4]))), H_d_, hW, hsz⟩
              · have hc4 := (if_neg (Bool.eq_false_iff.1 (by simp [hd2, hd15, hd28, ← hc6, ← hc5]))).symm.trans hc4
                have hc4 := Option.some.inj hc4
                refine WP.region mixed [[], [0], [1], [2], [2], [2, 4], [2, 3, 5], [2, 6], [2, 7], [2], [2], [2, 9, 10], [2, 11], [2, 12], [2, 8, 13], [2, 14], [15], [15], [15, 17], [15, 16, 18], [15, 19], [15, 20], [15], [15], [15, 22, 23], [15, 24], [15, 25], [15, 21, 26], [15, 27], [28], [28], [28], [28], [28], [28], [28], [28], [28], [28], [28], [28], [15, 28], [2, 15, 41], [2, 42]] [[], [0], [1], [2], [2], [2, 4], [2, 3, 5], [2, 6], [2, 7], [2], [2], [2, 9, 10], [2, 11], [2, 12], [2, 8, 13], [2, 14], [15], [15], [15, 17], [15, 16, 18], [15, 19], [15, 20], [15], [15], [15, 22, 23], [15, 24], [15, 25], [15, 21, 26], [15, 27], [28], [28], [28], [28], [28], [28], [28], [28], [28], [28], [28], [28], [15, 28], [2, 15, 41], [2, 42]] [[3], [], [], [0], [3], [], [], [], [], [0], [3], [], [], [], [], [], [0], [3], [], [], [], [], [0], [3], [], [], [], [], [], [], [], [], [], [], [], [], [], [], [], [], [], [], [], []] [] []
                  [val 62 (.int .i64 x), val 63 (.bool (decide (0 < x))), val 64 (.bool true), val 65 (v_d_), val 66 (.int .i64 x), val 67 (.int .i64 (i64 (x - 1))), val 68 (.pointer (some (ay5.add (Int.toNat (i64 (x - 1)) * 4)))), val 69 (.pointer (some ((ay5.add (Int.toNat (i64 (x - 1)) * 4)).add 0))), val 70 (.int .i64 y5.Currency), val 71 (v_d_), val 72 (.int .i64 x), val 73 (.pointer (some (ay6.add (Int.toNat x * 4)))), val 74 (.pointer (some ((ay6.add (Int.toNat x * 4)).add 0))), val 75 (.int .i64 y6.Currency), val 76 (.bool (decide (y6.Currency < y5.Currency))), val 77 (.bool false), val 78 (v_d_), val 79 (.int .i64 x), val 80 (.int .i64 (i64 (x - 1))), val 81 (.pointer (some (ay7.add (Int.toNat (i64 (x - 1)) * 4)))), val 82 (.pointer (some ((ay7.add (Int.toNat (i64 (x - 1)) * 4)).add 0))), val 83 (.int .i64 y7.Currency), val 84 (v_d_), val 85 (.int .i64 x), val 86 (.pointer (some (ay8.add (Int.toNat x * 4)))), val 87 (.pointer (some ((ay8.add (Int.toNat x * 4)).add 0))), val 88 (.int .i64 y8.Currency), val 89 (.bool (y7.Currency == y8.Currency)), val 90 (.bool false), anyF 91, anyF 92, anyF 93, anyF 94, anyF 95, anyF 96, anyF 97, anyF 98, anyF 99, anyF 100, anyF 101, anyF 102, val 103 (.bool false), val 104 (.bool false), val 105 (.bool false)] noG (by kernel_rfl)
                  ⟨Stable.val _ _ _, Stable.val _ _ _, Stable.val _ _ _, Stable.val _ _ _, Stable.val _ _ _, Stable.val _ _ _, Stable.val _ _ _, Stable.val _ _ _, Stable.val _ _ _, Stable.val _ _ _, Stable.val _ _ _, Stable.val _ _ _, Stable.val _ _ _, Stable.val _ _ _, Stable.val _ _ _, Stable.val _ _ _, Stable.val _ _ _, Stable.val _ _ _, Stable.val _ _ _, Stable.val _ _ _, Stable.val _ _ _, Stable.val _ _ _, Stable.val _ _ _, Stable.val _ _ _, Stable.val _ _ _, Stable.val _ _ _, Stable.val _ _ _, Stable.val _ _ _, Stable.val _ _ _, Stable.any _ _, Stable.any _ _, Stable.any _ _, Stable.any _ _, Stable.any _ _, Stable.any _ _, Stable.any _ _, Stable.any _ _, Stable.any _ _, Stable.any _ _, Stable.any _ _, Stable.any _ _, Stable.val _ _ _, Stable.val _ _ _, Stable.val _ _ _, trivial⟩
                  ⟨fun ρz wz hE hA ⟨e3, _⟩ _ => core_val rfl rfl (o_move (e3.trans h3)),
     fun ρz wz hE hA _ ⟨u0, _⟩ => core_val rfl rfl (o_gtr u0 rfl rfl),
     fun ρz wz hE hA _ ⟨u1, _⟩ => core_valE rfl rfl (congrArg Value.bool hd2) (o_move u1),
     fun ρz wz hE hA ⟨e0, _⟩ ⟨u2, _⟩ => gYes rfl u2 (core_val rfl rfl (o_move (e0.trans h0))),
     fun ρz wz hE hA ⟨e3, _⟩ ⟨u2, _⟩ => gYes rfl u2 (core_val rfl rfl (o_move (e3.trans h3))),
     fun ρz wz hE hA _ ⟨u2, u4, _⟩ => gYes rfl u2 (core_val rfl rfl (o_sub u4 rfl rfl)),
     fun ρz wz hE hA _ ⟨u2, u3, u5, _⟩ => gYes rfl u2 (core_val rfl rfl (o_indexAddr (u3.trans hvy5) u5 (ia_26 hiy5))),
     fun ρz wz hE hA _ ⟨u2, u6, _⟩ => gYes rfl u2 (core_val rfl rfl (o_fieldAddr u6 (fa_57_0 _ _))),
     fun ρz wz hE hA _ ⟨u2, u7, _⟩ => gYes rfl u2 (core_val rfl rfl (o_load u7 (run_load1 (lr_3 _ _) (CA.sub ((hAy5.exn (hA rfl)).ca) 0 1)))),
     fun ρz wz hE hA ⟨e0, _⟩ ⟨u2, _⟩ => gYes rfl u2 (core_val rfl rfl (o_move (e0.trans h0))),
     fun ρz wz hE hA ⟨e3, _⟩ ⟨u2, _⟩ => gYes rfl u2 (core_val rfl rfl (o_move (e3.trans h3))),
     fun ρz wz hE hA _ ⟨u2, u9, u10, _⟩ => gYes rfl u2 (core_val rfl rfl (o_indexAddr (u9.trans hvy6) u10 (ia_26 hiy6))),
     fun ρz wz hE hA _ ⟨u2, u11, _⟩ => gYes rfl u2 (core_val rfl rfl (o_fieldAddr u11 (fa_57_0 _ _))),
     fun ρz wz hE hA _ ⟨u2, u12, _⟩ => gYes rfl u2 (core_val rfl rfl (o_load u12 (run_load1 (lr_3 _ _) (CA.sub ((hAy6.exn (hA rfl)).ca) 0 1)))),
     fun ρz wz hE hA _ ⟨u2, u8, u13, _⟩ => gYes rfl u2 (core_val rfl rfl (o_gtr u8 u13 rfl)),
     fun ρz wz hE hA _ ⟨u2, u14, _⟩ => gYes rfl u2 (core_valE rfl rfl (congrArg Value.bool hd15) (o_move u14)),
     fun ρz wz hE hA ⟨e0, _⟩ ⟨u15, _⟩ => gYes rfl u15 (core_val rfl rfl (o_move (e0.trans h0))),
     fun ρz wz hE hA ⟨e3, _⟩ ⟨u15, _⟩ => gYes rfl u15 (core_val rfl rfl (o_move (e3.trans h3))),
     fun ρz wz hE hA _ ⟨u15, u17, _⟩ => gYes rfl u15 (core_val rfl rfl (o_sub u17 rfl rfl)),
     fun ρz wz hE hA _ ⟨u15, u16, u18, _⟩ => gYes rfl u15 (core_val rfl rfl (o_indexAddr (u16.trans hvy7) u18 (ia_26 hiy7))),
     fun ρz wz hE hA _ ⟨u15, u19, _⟩ => gYes rfl u15 (core_val rfl rfl (o_fieldAddr u19 (fa_57_0 _ _))),
     fun ρz wz hE hA _ ⟨u15, u20, _⟩ => gYes rfl u15 (core_val rfl rfl (o_load u20 (run_load1 (lr_3 _ _) (CA.sub ((hAy7.exn (hA rfl)).ca) 0 1)))),
     fun ρz wz hE hA ⟨e0, _⟩ ⟨u15, _⟩ => gYes rfl u15 (core_val rfl rfl (o_move (e0.trans h0))),
     fun ρz wz hE hA ⟨e3, _⟩ ⟨u15, _⟩ => gYes rfl u15 (core_val rfl rfl (o_move (e3.trans h3))),
     fun ρz wz hE hA _ ⟨u15, u22, u23, _⟩ => gYes rfl u15 (core_val rfl rfl (o_indexAddr (u22.trans hvy8) u23 (ia_26 hiy8))),
     fun ρz wz hE hA _ ⟨u15, u24, _⟩ => gYes rfl u15 (core_val rfl rfl (o_fieldAddr u24 (fa_57_0 _ _))),
     fun ρz wz hE hA _ ⟨u15, u25, _⟩ => gYes rfl u15 (core_val rfl rfl (o_load u25 (run_load1 (lr_3 _ _) (CA.sub ((hAy8.exn (hA rfl)).ca) 0 1)))),
     fun ρz wz hE hA _ ⟨u15, u21, u26, _⟩ => gYes rfl u15 (core_val rfl rfl (o_eql u21 u26 rfl)),
     fun ρz wz hE hA _ ⟨u15, u27, _⟩ => gYes rfl u15 (core_valE rfl rfl (congrArg Value.bool hd28) (o_move u27)),
     fun _ _ _ _ _ ⟨u28, _⟩ => gNo rfl u28 rfl trivial,
     fun _ _ _ _ _ ⟨u28, _⟩ => gNo rfl u28 rfl trivial,
     fun _ _ _ _ _ ⟨u28, _⟩ => gNo rfl u28 rfl trivial,
     fun _ _ _ _ _ ⟨u28, _⟩ => gNo rfl u28 rfl trivial,
     fun _ _ _ _ _ ⟨u28, _⟩ => gNo rfl u28 rfl trivial,
     fun _ _ _ _ _ ⟨u28, _⟩ => gNo rfl u28 rfl trivial,
     fun _ _ _ _ _ ⟨u28, _⟩ => gNo rfl u28 rfl trivial,
     fun _ _ _ _ _ ⟨u28, _⟩ => gNo rfl u28 rfl trivial,
     fun _ _ _ _ _ ⟨u28, _⟩ => gNo rfl u28 rfl trivial,
     fun _ _ _ _ _ ⟨u28, _⟩ => gNo rfl u28 rfl trivial,
     fun _ _ _ _ _ ⟨u28, _⟩ => gNo rfl u28 rfl trivial,
     fun _ _ _ _ _ ⟨u28, _⟩ => gNo rfl u28 rfl trivial,
     fun ρz wz hE hA _ ⟨u15, u28, _⟩ => gYes rfl u15 (core_val rfl rfl (o_pick_f u28 rfl)),
     fun ρz wz hE hA _ ⟨u2, u15, u41, _⟩ => gYes rfl u2 (core_val rfl rfl (o_pick_f u15 u41)),
     fun ρz wz hE hA _ ⟨u2, u42, _⟩ => core_val rfl rfl (o_pick_t u2 u42), trivial⟩ ?_
                intro ρ20 w20 hE hN hf hr
                have hN := hN rfl
                have h0 := (hr 0 rfl).trans h0
                have h3 := (hr 3 rfl).trans h3
                have h105 : ρ20 105 = .bool false := hf 43 rfl
                have H_d__at0 := H_d_
                have H_d_ := H_d_.exn hN
                have hW := hW.trans hN
                have hsz := Nat.le_trans hsz hN.size
                exact ⟨h0, h3, (h105.trans (congrArg Value.bool (by simp [hd2, hd15, hd28, ← hc6, ← hc5, ← hc4]))), H_d_, hW, hsz⟩
          · have hc6 := (if_neg (Bool.eq_false_iff.1 (by simp [hd2]))).symm.trans hc6
            have hc6 := Option.some.inj hc6
            refine WP.region mixed [[], [0], [1], [2], [2], [2], [2], [2], [2], [2], [2], [2], [2], [2], [2], [2], [15], [15], [15], [15], [15], [15], [15], [15], [15], [15], [15], [15], [15], [28], [28], [28], [28], [28], [28], [28], [28], [28], [28], [28], [28], [15], [2], [2]] [[], [0], [1], [2], [2], [2], [2], [2], [2], [2], [2], [2], [2], [2], [2], [2], [15], [15], [15], [15], [15], [15], [15], [15], [15], [15], [15], [15], [15], [28], [28], [28], [28], [28], [28], [28], [28], [28], [28], [28], [28], [15], [2], [2]] [[3], [], [], [], [], [], [], [], [], [], [], [], [], [], [], [], [], [], [], [], [], [], [], [], [], [], [], [], [], [], [], [], [], [], [], [], [], [], [], [], [], [], [], []] [] []
              [val 62 (.int .i64 x), val 63 (.bool (decide (0 < x))), val 64 (.bool false), anyF 65, anyF 66, anyF 67, anyF 68, anyF 69, anyF 70, anyF 71, anyF 72, anyF 73, anyF 74, anyF 75, anyF 76, val 77 undef, anyF 78, anyF 79, anyF 80, anyF 81, anyF 82, anyF 83, anyF 84, anyF 85, anyF 86, anyF 87, anyF 88, anyF 89, val 90 undef, anyF 91, anyF 92, anyF 93, anyF 94, anyF 95, anyF 96, anyF 97, anyF 98, anyF 99, anyF 100, anyF 101, anyF 102, anyF 103, anyF 104, val 105 (.bool false)] noG (by kernel_rfl)
              ⟨Stable.val _ _ _, Stable.val _ _ _, Stable.val _ _ _, Stable.any _ _, Stable.any _ _, Stable.any _ _, Stable.any _ _, Stable.any _ _, Stable.any _ _, Stable.any _ _, Stable.any _ _, Stable.any _ _, Stable.any _ _, Stable.any _ _, Stable.any _ _, Stable.val _ _ _, Stable.any _ _, Stable.any _ _, Stable.any _ _, Stable.any _ _, Stable.any _ _, Stable.any _ _, Stable.any _ _, Stable.any _ _, Stable.any _ _, Stable.any _ _, Stable.any _ _, Stable.any _ _, Stable.val _ _ _, Stable.any _ _, Stable.any _ _, Stable.any _ _, Stable.any _ _, Stable.any _ _, Stable.any _ _, Stable.any _ _, Stable.any _ _, Stable.any _ _, Stable.any _ _, Stable.any _ _, Stable.any _ _, Stable.any _ _, Stable.any _ _, Stable.val _ _ _, trivial⟩
              ⟨fun ρz wz hE hA ⟨e3, _⟩ _ => core_val rfl rfl (o_move (e3.trans h3)),
     fun ρz wz hE hA _ ⟨u0, _⟩ => core_val rfl rfl (o_gtr u0 rfl rfl),
     fun ρz wz hE hA _ ⟨u1, _⟩ => core_valE rfl rfl (congrArg Value.bool hd2) (o_move u1),
     fun _ _ _ _ _ ⟨u2, _⟩ => gNo rfl u2 rfl trivial,
     fun _ _ _ _ _ ⟨u2, _⟩ => gNo rfl u2 rfl trivial,
     fun _ _ _ _ _ ⟨u2, _⟩ => gNo rfl u2 rfl trivial,
     fun _ _ _ _ _ ⟨u2, _⟩ => gNo rfl u2 rfl trivial,
     fun _ _ _ _ _ ⟨u2, _⟩ => gNo rfl u2 rfl trivial,
     fun _ _ _ _ _ ⟨u2, _⟩ => gNo rfl u2 rfl trivial,
     fun _ _ _ _ _ ⟨u2, _⟩ => gNo rfl u2 rfl trivial,
     fun _ _ _ _ _ ⟨u2, _⟩ => gNo rfl u2 rfl trivial,
     fun _ _ _ _ _ ⟨u2, _⟩ => gNo rfl u2 rfl trivial,
     fun _ _ _ _ _ ⟨u2, _⟩ => gNo rfl u2 rfl trivial,
     fun _ _ _ _ _ ⟨u2, _⟩ => gNo rfl u2 rfl trivial,
     fun _ _ _ _ _ ⟨u2, _⟩ => gNo rfl u2 rfl trivial,
     fun _ _ _ _ _ ⟨u2, _⟩ => gNo rfl u2 rfl (upd_same _ _ _),
     fun _ _ _ _ _ ⟨u15, _⟩ => gOff rfl u15 trivial,
     fun _ _ _ _ _ ⟨u15, _⟩ => gOff rfl u15 trivial,
     fun _ _ _ _ _ ⟨u15, _⟩ => gOff rfl u15 trivial,
     fun _ _ _ _ _ ⟨u15, _⟩ => gOff rfl u15 trivial,
     fun _ _ _ _ _ ⟨u15, _⟩ => gOff rfl u15 trivial,
     fun _ _ _ _ _ ⟨u15, _⟩ => gOff rfl u15 trivial,
     fun _ _ _ _ _ ⟨u15, _⟩ => gOff rfl u15 trivial,
     fun _ _ _ _ _ ⟨u15, _⟩ => gOff rfl u15 trivial,
     fun _ _ _ _ _ ⟨u15, _⟩ => gOff rfl u15 trivial,
     fun _ _ _ _ _ ⟨u15, _⟩ => gOff rfl u15 trivial,
     fun _ _ _ _ _ ⟨u15, _⟩ => gOff rfl u15 trivial,
     fun _ _ _ _ _ ⟨u15, _⟩ => gOff rfl u15 trivial,
     fun _ _ _ _ _ ⟨u15, _⟩ => gOff rfl u15 (upd_same _ _ _),
     fun _ _ _ _ _ ⟨u28, _⟩ => gOff rfl u28 trivial,
     fun _ _ _ _ _ ⟨u28, _⟩ => gOff rfl u28 trivial,
     fun _ _ _ _ _ ⟨u28, _⟩ => gOff rfl u28 trivial,
     fun _ _ _ _ _ ⟨u28, _⟩ => gOff rfl u28 trivial,
     fun _ _ _ _ _ ⟨u28, _⟩ => gOff rfl u28 trivial,
     fun _ _ _ _ _ ⟨u28, _⟩ => gOff rfl u28 trivial,
     fun _ _ _ _ _ ⟨u28, _⟩ => gOff rfl u28 trivial,
     fun _ _ _ _ _ ⟨u28, _⟩ => gOff rfl u28 trivial,
     fun _ _ _ _ _ ⟨u28, _⟩ => gOff rfl u28 trivial,
     fun _ _ _ _ _ ⟨u28, _⟩ => gOff rfl u28 trivial,
     fun _ _ _ _ _ ⟨u28, _⟩ => gOff rfl u28 trivial,
     fun _ _ _ _ _ ⟨u28, _⟩ => gOff rfl u28 trivial,
     fun _ _ _ _ _ ⟨u15, _⟩ => gOff rfl u15 trivial,
     fun _ _ _ _ _ ⟨u2, _⟩ => gNo rfl u2 rfl trivial,
     fun ρz wz hE hA _ ⟨u2, _⟩ => core_val rfl rfl (o_pick_f u2 rfl), trivial⟩ ?_
            intro ρ21 w21 hE hN hf hr
            have hN := hN rfl
            have h0 := (hr 0 rfl).trans h0
            have h3 := (hr 3 rfl).trans h3
            have h105 : ρ21 105 = .bool false := hf 43 rfl
            have H_d__at0 := H_d_
            have H_d_ := H_d_.exn hN
            have hW := hW.trans hN
            have hsz := Nat.le_trans hsz hN.size
            exact ⟨h0, h3, (h105.trans (congrArg Value.bool (by simp [hd2, ← hc6]))), H_d_, hW, hsz⟩
        rintro ρ17 w17 ⟨h0, h3, h105, H_d_, hW, hsz⟩
        refine WP.cond rfl h105 (fun hb => ?_) (fun hb => ?_)
        · have hF := (if_pos hb).symm.trans hF
          refine WP.seq ?_
          refine WP.region mixed [[]] [[]] [[]] [] []
            [val 2 (.int .i64 1)] noG (by kernel_rfl)
            ⟨Stable.val _ _ _, trivial⟩
            ⟨fun ρz wz hE hA _ _ => core_val rfl rfl (o_assign rfl), trivial⟩ ?_
          intro ρ22 w22 hE hN hf hr
          have hN := hN rfl
          have h2 : ρ22 2 = .int .i64 1 := hf 0 rfl
          have hW := hW.trans hN
          have hsz := Nat.le_trans hsz hN.size
          refine WP.ret ?_
          show retQ Tryd.prog 106 Tryd.f20 (fun v w1 => v = .int .i64 r ∧ Ext noG w0 w1) .ret ρ22 w22
          obtain rfl := Option.some.inj hF
          exact res1 rfl (by decide) h2 ⟨rfl, hW⟩
        · have hF := (if_neg (Bool.eq_false_iff.1 hb)).symm.trans hF
          refine WP.skip ?_
          refine WP.region mixed [[], [0], [0, 1]] [[], [0], [1]] [[3], [], []] [] []
            [val 12 (.int .i64 x), val 13 (.int .i64 (i64 (x + 1))), val 3 (.int .i64 (i64 (x + 1)))] noG (by kernel_rfl)
            ⟨Stable.val _ _ _, Stable.val _ _ _, Stable.val _ _ _, trivial⟩
            ⟨fun ρz wz hE hA ⟨e3, _⟩ _ => core_val rfl rfl (o_move (e3.trans h3)),
     fun ρz wz hE hA _ ⟨u0, _⟩ => core_val rfl rfl (o_add u0 rfl rfl),
     fun ρz wz hE hA _ ⟨u1, _⟩ => core_val rfl rfl (o_assign u1), trivial⟩ ?_
          intro ρ23 w23 hE hN hf hr
          have hN := hN rfl
          have h0 := (hr 0 rfl).trans h0
          have h3 : ρ23 3 = .int .i64 (i64 (x + 1)) := hf 2 rfl
          have H_d__at0 := H_d_
          have H_d_ := H_d_.exn hN
          have hW := hW.trans hN
          have hsz := Nat.le_trans hsz hN.size
          exact ⟨i64 (x + 1), h0, h3, H_d_, hW, hsz, (by first | exact hF | (rw [hrec_]; exact hF))⟩
    · have hF := (if_neg (Bool.eq_false_iff.1 hb)).symm.trans hF
      refine WP.exit ?_
      refine thenQ_exit ?_
      refine thenQ_exit ?_
      refine blockQ_hit ?_
      refine WP.seq ?_
      refine WP.region mixed [[]] [[]] [[]] [] []
        [val 2 (.int .i64 0)] noG (by kernel_rfl)
        ⟨Stable.val _ _ _, trivial⟩
        ⟨fun ρz wz hE hA _ _ => core_val rfl rfl (o_assign rfl), trivial⟩ ?_
      intro ρ24 w24 hE hN hf hr
      have hN := hN rfl
      have h2 : ρ24 2 = .int .i64 0 := hf 0 rfl
      have hW := hW.trans hN
      have hsz := Nat.le_trans hsz hN.size
      refine WP.ret ?_
      show retQ Tryd.prog 106 Tryd.f20 (fun v w1 => v = .int .i64 r ∧ Ext noG w0 w1) .ret ρ24 w24
      obtain rfl := Option.some.inj hF
      exact res1 rfl (by decide) h2 ⟨rfl, hW⟩

set_option maxHeartbeats 4000000 in
theorem money_amount_ok {w0 : World} (x_ : Int) {r : Bool} (hF : money_amount x_ = some r) :
    Calls Tryd.prog 56 #[.int .i64 x_] w0 fun e w1 => e = .returned (.bool r) ∧ Ext noG w0 w1 := by
  refine (Calls.start (P := Tryd.prog) (args := [.int .i64 x_]) (R := fun v w1 => v = .bool r ∧ Ext noG w0 w1) (n := 9) (w := w0) Tryd.func56 rfl rfl (Nat.le_of_ble_eq_true rfl) (fun ρ hargs => ?_)).mono (fun e w1 ⟨v, he, hv, hE⟩ => ⟨hv ▸ he, hE⟩)
  have h0 := hargs 0 _ rfl
  have hW := Ext.refl noG w0
  have hsz := Nat.le_refl w0.heap.size
  rw [money_amount] at hF
  refine WP.seq ?_
  refine WP.region mixed [[]] [[]] [[]] [] []
    [val 2 (.bool false)] noG (by kernel_rfl)
    ⟨Stable.val _ _ _, trivial⟩
    ⟨fun ρz wz hE hA _ _ => core_val rfl rfl (o_assign rfl), trivial⟩ ?_
  intro ρ1 w1 hE hN hf hr
  have hN := hN rfl
  have h0 := (hr 0 rfl).trans h0
  have hW := hW.trans hN
  have hsz := Nat.le_trans hsz hN.size
  refine WP.seq ?_
  refine WP.via (fun ρ w => ρ 2 = .bool (decide ((-1000000000000) ≤ x_) && decide (x_ ≤ 1000000000000)) ∧ Ext noG w0 w ∧ w0.heap.size ≤ w.heap.size) ?_ ?_
  · rcases Bool.eq_false_or_eq_true (decide ((-1000000000000) ≤ x_)) with hd2 | hd2
    · refine WP.region mixed [[], [0], [1], [2], [2, 3], [2, 4], [5]] [[], [0], [1], [2], [2, 3], [2, 4], [5]] [[0], [], [], [0], [], [], []] [] []
        [val 3 (.int .i64 x_), val 4 (.bool (decide ((-1000000000000) ≤ x_))), val 5 (.bool true), val 6 (.int .i64 x_), val 7 (.bool (decide (x_ ≤ 1000000000000))), val 8 (.bool (decide (x_ ≤ 1000000000000))), val 2 (.bool (decide (x_ ≤ 1000000000000)))] noG (by kernel_rfl)
        ⟨Stable.val _ _ _, Stable.val _ _ _, Stable.val _ _ _, Stable.val _ _ _, Stable.val _ _ _, Stable.val _ _ _, Stable.val _ _ _, trivial⟩
        ⟨fun ρz wz hE hA ⟨e0, _⟩ _ => core_val rfl rfl (o_move (e0.trans h0)),
     fun ρz wz hE hA _ ⟨u0, _⟩ => core_val rfl rfl (o_geq u0 rfl rfl),
     fun ρz wz hE hA _ ⟨u1, _⟩ => core_valE rfl rfl (congrArg Value.bool hd2) (o_move u1),
     fun ρz wz hE hA ⟨e0, _⟩ ⟨u2, _⟩ => gYes rfl u2 (core_val rfl rfl (o_move (e0.trans h0))),
     fun ρz wz hE hA _ ⟨u2, u3, _⟩ => gYes rfl u2 (core_val rfl rfl (o_leq u3 rfl rfl)),
     fun ρz wz hE hA _ ⟨u2, u4, _⟩ => core_val rfl rfl (o_pick_t u2 u4),
     fun ρz wz hE hA _ ⟨u5, _⟩ => core_val rfl rfl (o_assign u5), trivial⟩ ?_
      intro ρ3 w3 hE hN hf hr
      have hN := hN rfl
      have h2 : ρ3 2 = .bool (decide (x_ ≤ 1000000000000)) := hf 6 rfl
      have hW := hW.trans hN
      have hsz := Nat.le_trans hsz hN.size
      exact ⟨(h2.trans (congrArg Value.bool (by simp [hd2]))), hW, hsz⟩
    · refine WP.region mixed [[], [0], [1], [2], [2], [2], [5]] [[], [0], [1], [2], [2], [2], [5]] [[0], [], [], [], [], [], []] [] []
        [val 3 (.int .i64 x_), val 4 (.bool (decide ((-1000000000000) ≤ x_))), val 5 (.bool false), anyF 6, anyF 7, val 8 (.bool false), val 2 (.bool false)] noG (by kernel_rfl)
        ⟨Stable.val _ _ _, Stable.val _ _ _, Stable.val _ _ _, Stable.any _ _, Stable.any _ _, Stable.val _ _ _, Stable.val _ _ _, trivial⟩
        ⟨fun ρz wz hE hA ⟨e0, _⟩ _ => core_val rfl rfl (o_move (e0.trans h0)),
     fun ρz wz hE hA _ ⟨u0, _⟩ => core_val rfl rfl (o_geq u0 rfl rfl),
     fun ρz wz hE hA _ ⟨u1, _⟩ => core_valE rfl rfl (congrArg Value.bool hd2) (o_move u1),
     fun _ _ _ _ _ ⟨u2, _⟩ => gNo rfl u2 rfl trivial,
     fun _ _ _ _ _ ⟨u2, _⟩ => gNo rfl u2 rfl trivial,
     fun ρz wz hE hA _ ⟨u2, _⟩ => core_val rfl rfl (o_pick_f u2 rfl),
     fun ρz wz hE hA _ ⟨u5, _⟩ => core_val rfl rfl (o_assign u5), trivial⟩ ?_
      intro ρ4 w4 hE hN hf hr
      have hN := hN rfl
      have h2 : ρ4 2 = .bool false := hf 6 rfl
      have hW := hW.trans hN
      have hsz := Nat.le_trans hsz hN.size
      exact ⟨(h2.trans (congrArg Value.bool (by simp [hd2]))), hW, hsz⟩
  rintro ρ2 w2 ⟨h2, hW, hsz⟩
  refine WP.ret ?_
  show retQ Tryd.prog 9 Tryd.f56 (fun v w1 => v = .bool r ∧ Ext noG w0 w1) .ret ρ2 w2
  obtain rfl := Option.some.inj hF
  exact res1 rfl (by decide) h2 ⟨rfl, hW⟩

set_option maxHeartbeats 4000000 in
theorem money_ValidRounding_ok {w0 : World} (r_ : Rounding) {r : Bool} (hF : money_ValidRounding r_ = some r) :
    Calls Tryd.prog 57 #[Rounding.val r_] w0 fun e w1 => e = .returned (.bool r) ∧ Ext noG w0 w1 := by
  refine (Calls.start (P := Tryd.prog) (args := [Rounding.val r_]) (R := fun v w1 => v = .bool r ∧ Ext noG w0 w1) (n := 18) (w := w0) Tryd.func57 rfl rfl (Nat.le_of_ble_eq_true rfl) (fun ρ hargs => ?_)).mono (fun e w1 ⟨v, he, hv, hE⟩ => ⟨hv ▸ he, hE⟩)
  have h0 := hargs 0 _ rfl
  have hW := Ext.refl noG w0
  have hsz := Nat.le_refl w0.heap.size
  rw [money_ValidRounding] at hF
  refine WP.seq ?_
  refine WP.region mixed [[], []] [[], []] [[0], []] [] []
    [(1, fun u wz => ∃ b, u = .pointer (some ⟨b, 0, none⟩) ∧ w0.heap.size ≤ b ∧ Mb wz b 72 (Rounding.cells r_)), val 2 (.bool false)] noG (by kernel_rfl)
    ⟨fun _ _ _ hE ⟨b, hb, hs, hM⟩ => ⟨b, hb, hs, hM.exn hE⟩, Stable.val _ _ _, trivial⟩
    ⟨fun ρz wz hE hA ⟨e0, _⟩ _ => core_new rfl rfl hE (o_box (e0.trans h0) (bx_72 _ _)),
     fun ρz wz hE hA _ _ => core_val rfl rfl (o_assign rfl), trivial⟩ ?_
  intro ρ1 w1 hE hN hf hr
  have hN := hN rfl
  obtain ⟨b1_, h1, hge_b1_, Hb_b1_⟩ := hf 0 rfl
  have hW := hW.trans hN
  have hB_b1_ : w0.heap.size ≤ b1_ := Nat.le_trans hsz hge_b1_
  have hsz := Nat.le_trans hsz hN.size
  refine WP.seq ?_
  refine WP.seq ?_
  refine WP.region mixed [[], [0]] [[], [0]] [[1], []] [] []
    [val 3 (.pointer (some ((⟨b1_, 0, none⟩ : Addr).add 0))), val 4 (.int .i64 r_.Mode)] noG (by kernel_rfl)
    ⟨Stable.val _ _ _, Stable.val _ _ _, trivial⟩
    ⟨fun ρz wz hE hA ⟨e1, _⟩ _ => core_val rfl rfl (o_fieldAddr (e1.trans h1) (fa_72_0 _ _)),
     fun ρz wz hE hA _ ⟨u0, _⟩ => core_val rfl rfl (o_load u0 (run_load1 (lr_3 _ _) (CA.sub ((Hb_b1_.exn (hA rfl)).ca) 0 1))), trivial⟩ ?_
  intro ρ2 w2 hE hN hf hr
  have hN := hN rfl
  have h1 := (hr 1 rfl).trans h1
  have h4 : ρ2 4 = .int .i64 r_.Mode := hf 1 rfl
  have Hb_b1_n := Hb_b1_.exn hN
  have hW := hW.trans hN
  have Hb_b1_ := Hb_b1_n
  have hsz := Nat.le_trans hsz hN.size
  refine WP.block ?_
  refine WP.seqJ (fun ρ w => ∃ x : Bool, ρ 1 = .pointer (some ⟨b1_, 0, none⟩) ∧ ρ 5 = .bool x ∧ Mb w b1_ 72 (Rounding.cells r_) ∧ Ext noG w0 w ∧ w0.heap.size ≤ w.heap.size ∧ money_ValidRounding_j r_ x = some r) ?_ ?_
  · refine WP.seq ?_
    refine WP.region mixed [[], [0]] [[], [0]] [[4], []] [] []
      [val 6 (.bool (r_.Mode == 1)), val 5 (.bool (r_.Mode == 1))] noG (by kernel_rfl)
      ⟨Stable.val _ _ _, Stable.val _ _ _, trivial⟩
      ⟨fun ρz wz hE hA ⟨e4, _⟩ _ => core_val rfl rfl (o_eql (e4.trans h4) rfl rfl),
     fun ρz wz hE hA _ ⟨u0, _⟩ => core_val rfl rfl (o_assign u0), trivial⟩ ?_
    intro ρ8 w8 hE hN hf hr
    have hN := hN rfl
    have h1 := (hr 1 rfl).trans h1
    have h4 := (hr 4 rfl).trans h4
    have h5 : ρ8 5 = .bool (r_.Mode == 1) := hf 1 rfl
    have Hb_b1_n := Hb_b1_.exn hN
    have hW := hW.trans hN
    have Hb_b1_ := Hb_b1_n
    have hsz := Nat.le_trans hsz hN.size
    refine WP.cond rfl h5 (fun hb => ?_) (fun hb => ?_)
    · have hF := (if_pos hb).symm.trans hF
      refine WP.skip ?_
      exact ⟨(r_.Mode == 1), h1, h5, Hb_b1_, hW, hsz, hF⟩
    · have hF := (if_neg (Bool.eq_false_iff.1 hb)).symm.trans hF
      refine WP.seq ?_
      refine WP.region mixed [[], [0]] [[], [0]] [[4], []] [] []
        [val 7 (.bool (r_.Mode == 2)), val 5 (.bool (r_.Mode == 2))] noG (by kernel_rfl)
        ⟨Stable.val _ _ _, Stable.val _ _ _, trivial⟩
        ⟨fun ρz wz hE hA ⟨e4, _⟩ _ => core_val rfl rfl (o_eql (e4.trans h4) rfl rfl),
     fun ρz wz hE hA _ ⟨u0, _⟩ => core_val rfl rfl (o_assign u0), trivial⟩ ?_
      intro ρ9 w9 hE hN hf hr
      have hN := hN rfl
      have h1 := (hr 1 rfl).trans h1
      have h4 := (hr 4 rfl).trans h4
      have h5 : ρ9 5 = .bool (r_.Mode == 2) := hf 1 rfl
      have Hb_b1_n := Hb_b1_.exn hN
      have hW := hW.trans hN
      have Hb_b1_ := Hb_b1_n
      have hsz := Nat.le_trans hsz hN.size
      refine WP.cond rfl h5 (fun hb => ?_) (fun hb => ?_)
      · have hF := (if_pos hb).symm.trans hF
        refine WP.skip ?_
        exact ⟨(r_.Mode == 2), h1, h5, Hb_b1_, hW, hsz, hF⟩
      · have hF := (if_neg (Bool.eq_false_iff.1 hb)).symm.trans hF
        refine WP.seq ?_
        refine WP.region mixed [[], [0]] [[], [0]] [[4], []] [] []
          [val 8 (.bool (r_.Mode == 3)), val 5 (.bool (r_.Mode == 3))] noG (by kernel_rfl)
          ⟨Stable.val _ _ _, Stable.val _ _ _, trivial⟩
          ⟨fun ρz wz hE hA ⟨e4, _⟩ _ => core_val rfl rfl (o_eql (e4.trans h4) rfl rfl),
     fun ρz wz hE hA _ ⟨u0, _⟩ => core_val rfl rfl (o_assign u0), trivial⟩ ?_
        intro ρ10 w10 hE hN hf hr
        have hN := hN rfl
        have h1 := (hr 1 rfl).trans h1
        have h4 := (hr 4 rfl).trans h4
        have h5 : ρ10 5 = .bool (r_.Mode == 3) := hf 1 rfl
        have Hb_b1_n := Hb_b1_.exn hN
        have hW := hW.trans hN
        have Hb_b1_ := Hb_b1_n
        have hsz := Nat.le_trans hsz hN.size
        refine WP.cond rfl h5 (fun hb => ?_) (fun hb => ?_)
        · have hF := (if_pos hb).symm.trans hF
          refine WP.skip ?_
          exact ⟨(r_.Mode == 3), h1, h5, Hb_b1_, hW, hsz, hF⟩
        · have hF := (if_neg (Bool.eq_false_iff.1 hb)).symm.trans hF
          refine WP.region mixed [[], [0]] [[], [0]] [[4], []] [] []
            [val 9 (.bool (r_.Mode == 4)), val 5 (.bool (r_.Mode == 4))] noG (by kernel_rfl)
            ⟨Stable.val _ _ _, Stable.val _ _ _, trivial⟩
            ⟨fun ρz wz hE hA ⟨e4, _⟩ _ => core_val rfl rfl (o_eql (e4.trans h4) rfl rfl),
     fun ρz wz hE hA _ ⟨u0, _⟩ => core_val rfl rfl (o_assign u0), trivial⟩ ?_
          intro ρ11 w11 hE hN hf hr
          have hN := hN rfl
          have h1 := (hr 1 rfl).trans h1
          have h5 : ρ11 5 = .bool (r_.Mode == 4) := hf 1 rfl
          have Hb_b1_n := Hb_b1_.exn hN
          have hW := hW.trans hN
          have Hb_b1_ := Hb_b1_n
          have hsz := Nat.le_trans hsz hN.size
          exact ⟨(r_.Mode == 4), h1, h5, Hb_b1_, hW, hsz, hF⟩
  · rintro ρ3 w3 ⟨x, h1, h5, Hb_b1_, hW, hsz, hF⟩
    rw [money_ValidRounding_j] at hF
    refine WP.cond rfl h5 (fun hb => ?_) (fun hb => ?_)
    · have hF := (if_pos hb).symm.trans hF
      refine WP.seq ?_
      refine WP.via (fun ρ w => ρ 2 = .bool (decide (1 ≤ r_.Unit) && decide (r_.Unit ≤ 100000)) ∧ Ext noG w0 w ∧ w0.heap.size ≤ w.heap.size) ?_ ?_
      · rcases Bool.eq_false_or_eq_true (decide (1 ≤ r_.Unit)) with hd3 | hd3
        · refine WP.region mixed [[], [0], [1], [2], [3], [3, 4], [3, 5], [3, 6], [7]] [[], [0], [1], [2], [3], [3, 4], [3, 5], [3, 6], [7]] [[1], [], [], [], [1], [], [], [], []] [] []
            [val 10 (.pointer (some ((⟨b1_, 0, none⟩ : Addr).add 1))), val 11 (.int .i64 r_.Unit), val 12 (.bool (decide (1 ≤ r_.Unit))), val 13 (.bool true), val 14 (.pointer (some ((⟨b1_, 0, none⟩ : Addr).add 1))), val 15 (.int .i64 r_.Unit), val 16 (.bool (decide (r_.Unit ≤ 100000))), val 17 (.bool (decide (r_.Unit ≤ 100000))), val 2 (.bool (decide (r_.Unit ≤ 100000)))] noG (by kernel_rfl)
            ⟨Stable.val _ _ _, Stable.val _ _ _, Stable.val _ _ _, Stable.val _ _ _, Stable.val _ _ _, Stable.val _ _ _, Stable.val _ _ _, Stable.val _ _ _, Stable.val _ _ _, trivial⟩
            ⟨fun ρz wz hE hA ⟨e1, _⟩ _ => core_val rfl rfl (o_fieldAddr (e1.trans h1) (fa_72_1 _ _)),
     fun ρz wz hE hA _ ⟨u0, _⟩ => core_val rfl rfl (o_load u0 (run_load1 (lr_3 _ _) (CA.sub ((Hb_b1_.exn (hA rfl)).ca) 1 1))),
     fun ρz wz hE hA _ ⟨u1, _⟩ => core_val rfl rfl (o_geq u1 rfl rfl),
     fun ρz wz hE hA _ ⟨u2, _⟩ => core_valE rfl rfl (congrArg Value.bool hd3) (o_move u2),
     fun ρz wz hE hA ⟨e1, _⟩ ⟨u3, _⟩ => gYes rfl u3 (core_val rfl rfl (o_fieldAddr (e1.trans h1) (fa_72_1 _ _))),
     fun ρz wz hE hA _ ⟨u3, u4, _⟩ => gYes rfl u3 (core_val rfl rfl (o_load u4 (run_load1 (lr_3 _ _) (CA.sub ((Hb_b1_.exn (hA rfl)).ca) 1 1)))),
     fun ρz wz hE hA _ ⟨u3, u5, _⟩ => gYes rfl u3 (core_val rfl rfl (o_leq u5 rfl rfl)),
     fun ρz wz hE hA _ ⟨u3, u6, _⟩ => core_val rfl rfl (o_pick_t u3 u6),
     fun ρz wz hE hA _ ⟨u7, _⟩ => core_val rfl rfl (o_assign u7), trivial⟩ ?_
          intro ρ5 w5 hE hN hf hr
          have hN := hN rfl
          have h2 : ρ5 2 = .bool (decide (r_.Unit ≤ 100000)) := hf 8 rfl
          have hW := hW.trans hN
          have hsz := Nat.le_trans hsz hN.size
          exact ⟨(h2.trans (congrArg Value.bool (by simp [hd3]))), hW, hsz⟩
        · refine WP.region mixed [[], [0], [1], [2], [3], [3], [3], [3], [7]] [[], [0], [1], [2], [3], [3], [3], [3], [7]] [[1], [], [], [], [], [], [], [], []] [] []
            [val 10 (.pointer (some ((⟨b1_, 0, none⟩ : Addr).add 1))), val 11 (.int .i64 r_.Unit), val 12 (.bool (decide (1 ≤ r_.Unit))), val 13 (.bool false), anyF 14, anyF 15, anyF 16, val 17 (.bool false), val 2 (.bool false)] noG (by kernel_rfl)
            ⟨Stable.val _ _ _, Stable.val _ _ _, Stable.val _ _ _, Stable.val _ _ _, Stable.any _ _, Stable.any _ _, Stable.any _ _, Stable.val _ _ _, Stable.val _ _ _, trivial⟩
            ⟨fun ρz wz hE hA ⟨e1, _⟩ _ => core_val rfl rfl (o_fieldAddr (e1.trans h1) (fa_72_1 _ _)),
     fun ρz wz hE hA _ ⟨u0, _⟩ => core_val rfl rfl (o_load u0 (run_load1 (lr_3 _ _) (CA.sub ((Hb_b1_.exn (hA rfl)).ca) 1 1))),
     fun ρz wz hE hA _ ⟨u1, _⟩ => core_val rfl rfl (o_geq u1 rfl rfl),
     fun ρz wz hE hA _ ⟨u2, _⟩ => core_valE rfl rfl (congrArg Value.bool hd3) (o_move u2),
     fun _ _ _ _ _ ⟨u3, _⟩ => gNo rfl u3 rfl trivial,
     fun _ _ _ _ _ ⟨u3, _⟩ => gNo rfl u3 rfl trivial,
     fun _ _ _ _ _ ⟨u3, _⟩ => gNo rfl u3 rfl trivial,
     fun ρz wz hE hA _ ⟨u3, _⟩ => core_val rfl rfl (o_pick_f u3 rfl),
     fun ρz wz hE hA _ ⟨u7, _⟩ => core_val rfl rfl (o_assign u7), trivial⟩ ?_
          intro ρ6 w6 hE hN hf hr
          have hN := hN rfl
          have h2 : ρ6 2 = .bool false := hf 8 rfl
          have hW := hW.trans hN
          have hsz := Nat.le_trans hsz hN.size
          exact ⟨(h2.trans (congrArg Value.bool (by simp [hd3]))), hW, hsz⟩
      rintro ρ4 w4 ⟨h2, hW, hsz⟩
      refine WP.ret ?_
      show retQ Tryd.prog 18 Tryd.f57 (fun v w1 => v = .bool r ∧ Ext noG w0 w1) .ret ρ4 w4
      obtain rfl := Option.some.inj hF
      exact res1 rfl (by decide) h2 ⟨rfl, hW⟩
    · have hF := (if_neg (Bool.eq_false_iff.1 hb)).symm.trans hF
      refine WP.skip ?_
      refine WP.seq ?_
      refine WP.region mixed [[]] [[]] [[]] [] []
        [val 2 (.bool false)] noG (by kernel_rfl)
        ⟨Stable.val _ _ _, trivial⟩
        ⟨fun ρz wz hE hA _ _ => core_val rfl rfl (o_assign rfl), trivial⟩ ?_
      intro ρ7 w7 hE hN hf hr
      have hN := hN rfl
      have h2 : ρ7 2 = .bool false := hf 0 rfl
      have hW := hW.trans hN
      have hsz := Nat.le_trans hsz hN.size
      refine WP.ret ?_
      show retQ Tryd.prog 18 Tryd.f57 (fun v w1 => v = .bool r ∧ Ext noG w0 w1) .ret ρ7 w7
      obtain rfl := Option.some.inj hF
      exact res1 rfl (by decide) h2 ⟨rfl, hW⟩

set_option maxHeartbeats 4000000 in
theorem pensionref21_ValidRights_ok {w0 : World} (d_ : List Right) {v_d_ : Value} (H_d_ : RepSl Right.R noG w0 v_d_ d_) {r : Bool} (hF : pensionref21_ValidRights d_ = some r) :
    Calls Tryd.prog 18 #[v_d_] w0 fun e w1 => e = .returned (.bool r) ∧ Ext noG w0 w1 := by
  refine (Calls.start (P := Tryd.prog) (args := [v_d_]) (R := fun v w1 => v = .bool r ∧ Ext noG w0 w1) (n := 70) (w := w0) Tryd.func18 rfl rfl (Nat.le_of_ble_eq_true rfl) (fun ρ hargs => ?_)).mono (fun e w1 ⟨v, he, hv, hE⟩ => ⟨hv ▸ he, hE⟩)
  have h0 := hargs 0 _ rfl
  have hW := Ext.refl noG w0
  have hsz := Nat.le_refl w0.heap.size
  obtain ⟨_, _, hs_H_d_, _, _⟩ := RepSl.shape H_d_
  have H_d_ := H_d_.start
  rw [pensionref21_ValidRights] at hF
  refine WP.seq ?_
  refine WP.region mixed [[]] [[]] [[]] [] []
    [val 2 (.bool false)] noG (by kernel_rfl)
    ⟨Stable.val _ _ _, trivial⟩
    ⟨fun ρz wz hE hA _ _ => core_val rfl rfl (o_assign rfl), trivial⟩ ?_
  intro ρ1 w1 hE hN hf hr
  have hN := hN rfl
  have h0 := (hr 0 rfl).trans h0
  have H_d__at0 := H_d_
  have H_d_ := H_d_.exn hN
  have hW := hW.trans hN
  have hsz := Nat.le_trans hsz hN.size
  refine WP.seq ?_
  refine WP.seq ?_
  refine WP.region mixed [[], [0], [1]] [[], [0], [1]] [[0], [], []] [] []
    [val 6 (v_d_), val 7 (.int .i64 (d_.length : Int)), val 8 (.bool (decide (6 < (d_.length : Int))))] noG (by kernel_rfl)
    ⟨Stable.val _ _ _, Stable.val _ _ _, Stable.val _ _ _, trivial⟩
    ⟨fun ρz wz hE hA ⟨e0, _⟩ _ => core_val rfl rfl (o_move (e0.trans h0)),
     fun ρz wz hE hA _ ⟨u0, _⟩ => core_val rfl rfl (o_len (u0.trans hs_H_d_) len_24),
     fun ρz wz hE hA _ ⟨u1, _⟩ => core_val rfl rfl (o_gtr u1 rfl rfl), trivial⟩ ?_
  intro ρ2 w2 hE hN hf hr
  have hN := hN rfl
  have h0 := (hr 0 rfl).trans h0
  have h8 : ρ2 8 = .bool (decide (6 < (d_.length : Int))) := hf 2 rfl
  have H_d__at0 := H_d_
  have H_d_ := H_d_.exn hN
  have hW := hW.trans hN
  have hsz := Nat.le_trans hsz hN.size
  refine WP.cond rfl h8 (fun hb => ?_) (fun hb => ?_)
  · have hF := (if_pos hb).symm.trans hF
    refine WP.seq ?_
    refine WP.region mixed [[]] [[]] [[]] [] []
      [val 2 (.bool false)] noG (by kernel_rfl)
      ⟨Stable.val _ _ _, trivial⟩
      ⟨fun ρz wz hE hA _ _ => core_val rfl rfl (o_assign rfl), trivial⟩ ?_
    intro ρ3 w3 hE hN hf hr
    have hN := hN rfl
    have h2 : ρ3 2 = .bool false := hf 0 rfl
    have hW := hW.trans hN
    have hsz := Nat.le_trans hsz hN.size
    refine WP.ret ?_
    show retQ Tryd.prog 70 Tryd.f18 (fun v w1 => v = .bool r ∧ Ext noG w0 w1) .ret ρ3 w3
    obtain rfl := Option.some.inj hF
    exact res1 rfl (by decide) h2 ⟨rfl, hW⟩
  · have hF := (if_neg (Bool.eq_false_iff.1 hb)).symm.trans hF
    refine WP.skip ?_
    refine WP.seq ?_
    refine WP.seq ?_
    refine WP.region mixed [[]] [[]] [[]] [] []
      [val 3 (.int .i64 0)] noG (by kernel_rfl)
      ⟨Stable.val _ _ _, trivial⟩
      ⟨fun ρz wz hE hA _ _ => core_val rfl rfl (o_assign rfl), trivial⟩ ?_
    intro ρ4 w4 hE hN hf hr
    have hN := hN rfl
    have h0 := (hr 0 rfl).trans h0
    have h3 : ρ4 3 = .int .i64 0 := hf 0 rfl
    have H_d__at0 := H_d_
    have H_d_ := H_d_.exn hN
    have hW := hW.trans hN
    have hsz := Nat.le_trans hsz hN.size
    refine WP.block ?_
    refine WP.loop (fun k_ ρ w => ∃ x : Int, ρ 0 = v_d_ ∧ ρ 3 = .int .i64 x ∧ RepSl Right.R (gfr noG w0) w v_d_ d_ ∧ Ext noG w0 w ∧ w0.heap.size ≤ w.heap.size ∧ loopC k_ (pensionref21_ValidRights_l d_) x = some r) FU ⟨0, h0, h3, H_d_, hW, hsz, hF⟩ (fun _ _ h => by obtain ⟨_, _, _, _, _, _, h⟩ := h; cases h) ?_
    rintro k_ ρ5 w5 ⟨x, h0, h3, H_d_, hW, hsz, hF⟩
    have hF : pensionref21_ValidRights_l d_ (loopC k_ (pensionref21_ValidRights_l d_)) x = some r := hF
    generalize hrec_ : loopC k_ (pensionref21_ValidRights_l d_) = rec_ at hF
    rw [pensionref21_ValidRights_l] at hF
    refine WP.seq ?_
    refine WP.seq ?_
    refine WP.region mixed [[], [], [1], [0, 2]] [[], [], [1], [0, 2]] [[3], [0], [], []] [] []
      [val 9 (.int .i64 x), val 10 (v_d_), val 11 (.int .i64 (d_.length : Int)), val 12 (.bool (decide (x < (d_.length : Int))))] noG (by kernel_rfl)
      ⟨Stable.val _ _ _, Stable.val _ _ _, Stable.val _ _ _, Stable.val _ _ _, trivial⟩
      ⟨fun ρz wz hE hA ⟨e3, _⟩ _ => core_val rfl rfl (o_move (e3.trans h3)),
     fun ρz wz hE hA ⟨e0, _⟩ _ => core_val rfl rfl (o_move (e0.trans h0)),
     fun ρz wz hE hA _ ⟨u1, _⟩ => core_val rfl rfl (o_len (u1.trans hs_H_d_) len_24),
     fun ρz wz hE hA _ ⟨u0, u2, _⟩ => core_val rfl rfl (o_lss u0 u2 rfl), trivial⟩ ?_
    intro ρ6 w6 hE hN hf hr
    have hN := hN rfl
    have h0 := (hr 0 rfl).trans h0
    have h3 := (hr 3 rfl).trans h3
    have h12 : ρ6 12 = .bool (decide (x < (d_.length : Int))) := hf 3 rfl
    have H_d__at0 := H_d_
    have H_d_ := H_d_.exn hN
    have hW := hW.trans hN
    have hsz := Nat.le_trans hsz hN.size
    refine WP.cond rfl h12 (fun hb => ?_) (fun hb => ?_)
    · have hF := (if_pos hb).symm.trans hF
      refine WP.skip ?_
      refine WP.seq ?_
      refine WP.block ?_
      refine WP.seq ?_
      obtain ⟨y, hy, hF⟩ := obind hF
      obtain ⟨ay, cy, hvy, hiy, hAy⟩ := RepSl.getF H_d_ hy
      refine WP.region mixed [[], [], [0, 1], [2], [], [3, 4]] [[], [], [0, 1], [2], [], [4, 3]] [[0], [3], [], [], [], []] [5] [(4, 5)]
        [val 15 (v_d_), val 16 (.int .i64 x), val 17 (.pointer (some (ay.add (Int.toNat x * 4)))), val 18 (Right.val y), (4, fun u wz => ∃ b, u = .pointer (some ⟨b, 0, none⟩) ∧ w6.heap.size ≤ b ∧ Mb wz b 43 (Right.cells (⟨0, 0, 0, 0⟩ : Right))), (4, fun u wz => ∃ b, u = .pointer (some ⟨b, 0, none⟩) ∧ w6.heap.size ≤ b ∧ Mb wz b 43 (Right.cells y))] (fun b => w6.heap.size ≤ b) (by kernel_rfl)
        ⟨Stable.val _ _ _, Stable.val _ _ _, Stable.val _ _ _, Stable.val _ _ _, fun _ _ _ hE ⟨b, hb, hs, hM⟩ => ⟨b, hb, hs, hM.exn hE⟩, fun _ _ _ hE ⟨b, hb, hs, hM⟩ => ⟨b, hb, hs, hM.exn hE⟩, trivial⟩
        ⟨fun ρz wz hE hA ⟨e0, _⟩ _ => core_val rfl rfl (o_move (e0.trans h0)),
     fun ρz wz hE hA ⟨e3, _⟩ _ => core_val rfl rfl (o_move (e3.trans h3)),
     fun ρz wz hE hA _ ⟨u0, u1, _⟩ => core_val rfl rfl (o_indexAddr (u0.trans hvy) u1 (ia_24 hiy)),
     fun ρz wz hE hA _ ⟨u2, _⟩ => core_val rfl rfl (o_load u2 (run_loadN (cs := (Right.cells y)) (lr_43 _ _) rfl ((hAy.exn hE.fresh).ca))),
     fun ρz wz hE hA _ _ => core_new rfl rfl hE (o_alloc (al_43 _)),
     fun ρz wz hE hA _ ⟨u4, u3, _⟩ => core_storeNew rfl rfl rfl rfl u3 u4 (fun a w => st_43 _ a w) rfl (one_43 _), trivial⟩ ?_
      intro ρ7 w7 hE hN hf hr
      have hN := hE.fresh
      have h0 := (hr 0 rfl).trans h0
      have h3 := (hr 3 rfl).trans h3
      obtain ⟨b4_, h4, hge_b4_, Hb_b4_⟩ := hf 5 rfl
      have H_d__at0 := H_d_
      have H_d_ := H_d_.exn hN
      have hW := hW.trans hN
      have hB_b4_ : w0.heap.size ≤ b4_ := Nat.le_trans hsz hge_b4_
      have hsz := Nat.le_trans hsz hN.size
      refine WP.seq ?_
      refine WP.seq ?_
      refine WP.via (fun ρ w => ρ 0 = v_d_ ∧ ρ 3 = .int .i64 x ∧ ρ 4 = .pointer (some ⟨b4_, 0, none⟩) ∧ ρ 56 = .bool (((((((decide (y.State < 0) || decide (6 ≤ y.State)) || decide (y.Basis < 1)) || decide (3 < y.Basis)) || decide (y.Currency < 1)) || decide (999 < y.Currency)) || decide (y.Amount < 1)) || decide (1000000000000 < y.Amount)) ∧ Mb w b4_ 43 (Right.cells y) ∧ RepSl Right.R (gfr noG w0) w v_d_ d_ ∧ Ext noG w0 w ∧ w0.heap.size ≤ w.heap.size) ?_ ?_
      · rcases Bool.eq_false_or_eq_true (decide (y.State < 0)) with hd3 | hd3
        · refine WP.region mixed [[], [0], [1], [2], [3], [3], [3], [3], [7], [8], [8], [8], [8], [12], [13], [13], [13], [13], [17], [18], [18], [18], [18], [22], [23], [23], [23], [23], [27], [28], [28], [28], [28], [32], [33], [33], [33], [33]] [[], [0], [1], [2], [3], [3], [3], [3], [7], [8], [8], [8], [8], [12], [13], [13], [13], [13], [17], [18], [18], [18], [18], [22], [23], [23], [23], [23], [27], [28], [28], [28], [28], [32], [33], [33], [33], [33]] [[4], [], [], [], [], [], [], [], [], [], [], [], [], [], [], [], [], [], [], [], [], [], [], [], [], [], [], [], [], [], [], [], [], [], [], [], [], []] [] []
            [val 19 (.pointer (some ((⟨b4_, 0, none⟩ : Addr).add 0))), val 20 (.int .i64 y.State), val 21 (.bool (decide (y.State < 0))), val 22 (.bool true), anyF 23, anyF 24, anyF 25, val 26 (.bool true), val 27 (.bool true), anyF 28, anyF 29, anyF 30, val 31 (.bool true), val 32 (.bool true), anyF 33, anyF 34, anyF 35, val 36 (.bool true), val 37 (.bool true), anyF 38, anyF 39, anyF 40, val 41 (.bool true), val 42 (.bool true), anyF 43, anyF 44, anyF 45, val 46 (.bool true), val 47 (.bool true), anyF 48, anyF 49, anyF 50, val 51 (.bool true), val 52 (.bool true), anyF 53, anyF 54, anyF 55, val 56 (.bool true)] noG (by kernel_rfl)
            ⟨Stable.val _ _ _, Stable.val _ _ _, Stable.val _ _ _, Stable.val _ _ _, Stable.any _ _, Stable.any _ _, Stable.any _ _, Stable.val _ _ _, Stable.val _ _ _, Stable.any _ _, Stable.any _ _, Stable.any _ _, Stable.val _ _ _, Stable.val _ _ _, Stable.any _ _, Stable.any _ _, Stable.any _ _, Stable.val _ _ _, Stable.val _ _ _, Stable.any _ _, Stable.any _ _, Stable.any _ _, Stable.val _ _ _, Stable.val _ _ _, Stable.any _ _, Stable.any _ _, Stable.any _ _, Stable.val _ _ _, Stable.val _ _ _, Stable.any _ _, Stable.any _ _, Stable.any _ _, Stable.val _ _ _, Stable.val _ _ _, Stable.any _ _, Stable.any _ _, Stable.any _ _, Stable.val _ _ _, trivial⟩
            ⟨fun ρz wz hE hA ⟨e4, _⟩ _ => core_val rfl rfl (o_fieldAddr (e4.trans h4) (fa_43_0 _ _)),
     fun ρz wz hE hA _ ⟨u0, _⟩ => core_val rfl rfl (o_load u0 (run_load1 (lr_3 _ _) (CA.sub ((Hb_b4_.exn (hA rfl)).ca) 0 1))),
     fun ρz wz hE hA _ ⟨u1, _⟩ => core_val rfl rfl (o_lss u1 rfl rfl),
     fun ρz wz hE hA _ ⟨u2, _⟩ => core_valE rfl rfl (congrArg Value.bool hd3) (o_move u2),
     fun _ _ _ _ _ ⟨u3, _⟩ => gNo rfl u3 rfl trivial,
     fun _ _ _ _ _ ⟨u3, _⟩ => gNo rfl u3 rfl trivial,
     fun _ _ _ _ _ ⟨u3, _⟩ => gNo rfl u3 rfl trivial,
     fun ρz wz hE hA _ ⟨u3, _⟩ => core_val rfl rfl (o_pick_t u3 rfl),
     fun ρz wz hE hA _ ⟨u7, _⟩ => core_val rfl rfl (o_move u7),
     fun _ _ _ _ _ ⟨u8, _⟩ => gNo rfl u8 rfl trivial,
     fun _ _ _ _ _ ⟨u8, _⟩ => gNo rfl u8 rfl trivial,
     fun _ _ _ _ _ ⟨u8, _⟩ => gNo rfl u8 rfl trivial,
     fun ρz wz hE hA _ ⟨u8, _⟩ => core_val rfl rfl (o_pick_t u8 rfl),
     fun ρz wz hE hA _ ⟨u12, _⟩ => core_val rfl rfl (o_move u12),
     fun _ _ _ _ _ ⟨u13, _⟩ => gNo rfl u13 rfl trivial,
     fun _ _ _ _ _ ⟨u13, _⟩ => gNo rfl u13 rfl trivial,
     fun _ _ _ _ _ ⟨u13, _⟩ => gNo rfl u13 rfl trivial,
     fun ρz wz hE hA _ ⟨u13, _⟩ => core_val rfl rfl (o_pick_t u13 rfl),
     fun ρz wz hE hA _ ⟨u17, _⟩ => core_val rfl rfl (o_move u17),
     fun _ _ _ _ _ ⟨u18, _⟩ => gNo rfl u18 rfl trivial,
     fun _ _ _ _ _ ⟨u18, _⟩ => gNo rfl u18 rfl trivial,
     fun _ _ _ _ _ ⟨u18, _⟩ => gNo rfl u18 rfl trivial,
     fun ρz wz hE hA _ ⟨u18, _⟩ => core_val rfl rfl (o_pick_t u18 rfl),
     fun ρz wz hE hA _ ⟨u22, _⟩ => core_val rfl rfl (o_move u22),
     fun _ _ _ _ _ ⟨u23, _⟩ => gNo rfl u23 rfl trivial,
     fun _ _ _ _ _ ⟨u23, _⟩ => gNo rfl u23 rfl trivial,
     fun _ _ _ _ _ ⟨u23, _⟩ => gNo rfl u23 rfl trivial,
     fun ρz wz hE hA _ ⟨u23, _⟩ => core_val rfl rfl (o_pick_t u23 rfl),
     fun ρz wz hE hA _ ⟨u27, _⟩ => core_val rfl rfl (o_move u27),
     fun _ _ _ _ _ ⟨u28, _⟩ => gNo rfl u28 rfl trivial,
     fun _ _ _ _ _ ⟨u28, _⟩ => gNo rfl u28 rfl trivial,
     fun _ _ _ _ _ ⟨u28, _⟩ => gNo rfl u28 rfl trivial,
     fun ρz wz hE hA _ ⟨u28, _⟩ => core_val rfl rfl (o_pick_t u28 rfl),
     fun ρz wz hE hA _ ⟨u32, _⟩ => core_val rfl rfl (o_move u32),
     fun _ _ _ _ _ ⟨u33, _⟩ => gNo rfl u33 rfl trivial,
     fun _ _ _ _ _ ⟨u33, _⟩ => gNo rfl u33 rfl trivial,
     fun _ _ _ _ _ ⟨u33, _⟩ => gNo rfl u33 rfl trivial,
     fun ρz wz hE hA _ ⟨u33, _⟩ => core_val rfl rfl (o_pick_t u33 rfl), trivial⟩ ?_
          intro ρ9 w9 hE hN hf hr
          have hN := hN rfl
          have h0 := (hr 0 rfl).trans h0
          have h3 := (hr 3 rfl).trans h3
          have h4 := (hr 4 rfl).trans h4
          have h56 : ρ9 56 = .bool true := hf 37 rfl
          have Hb_b4_n := Hb_b4_.exn hN
          have H_d__at0 := H_d_
          have H_d_ := H_d_.exn hN
          have hW := hW.trans hN
          have Hb_b4_ := Hb_b4_n
          have hsz := Nat.le_trans hsz hN.size
          exact ⟨h0, h3, h4, (h56.trans (congrArg Value.bool (by simp [hd3]))), Hb_b4_, H_d_, hW, hsz⟩
        · rcases Bool.eq_false_or_eq_true (decide (6 ≤ y.State)) with hd8 | hd8
          · refine WP.region mixed [[], [0], [1], [2], [3], [3, 4], [3, 5], [3, 6], [7], [8], [8], [8], [8], [12], [13], [13], [13], [13], [17], [18], [18], [18], [18], [22], [23], [23], [23], [23], [27], [28], [28], [28], [28], [32], [33], [33], [33], [33]] [[], [0], [1], [2], [3], [3, 4], [3, 5], [3, 6], [7], [8], [8], [8], [8], [12], [13], [13], [13], [13], [17], [18], [18], [18], [18], [22], [23], [23], [23], [23], [27], [28], [28], [28], [28], [32], [33], [33], [33], [33]] [[4], [], [], [], [4], [], [], [], [], [], [], [], [], [], [], [], [], [], [], [], [], [], [], [], [], [], [], [], [], [], [], [], [], [], [], [], [], []] [] []
              [val 19 (.pointer (some ((⟨b4_, 0, none⟩ : Addr).add 0))), val 20 (.int .i64 y.State), val 21 (.bool (decide (y.State < 0))), val 22 (.bool false), val 23 (.pointer (some ((⟨b4_, 0, none⟩ : Addr).add 0))), val 24 (.int .i64 y.State), val 25 (.bool (decide (6 ≤ y.State))), val 26 (.bool (decide (6 ≤ y.State))), val 27 (.bool true), anyF 28, anyF 29, anyF 30, val 31 (.bool true), val 32 (.bool true), anyF 33, anyF 34, anyF 35, val 36 (.bool true), val 37 (.bool true), anyF 38, anyF 39, anyF 40, val 41 (.bool true), val 42 (.bool true), anyF 43, anyF 44, anyF 45, val 46 (.bool true), val 47 (.bool true), anyF 48, anyF 49, anyF 50, val 51 (.bool true), val 52 (.bool true), anyF 53, anyF 54, anyF 55, val 56 (.bool true)] noG (by kernel_rfl)
              ⟨Stable.val _ _ _, Stable.val _ _ _, Stable.val _ _ _, Stable.val _ _ _, Stable.val _ _ _, Stable.val _ _ _, Stable.val _ _ _, Stable.val _ _ _, Stable.val _ _ _, Stable.any _ _, Stable.any _ _, Stable.any _ _, Stable.val _ _ _, Stable.val _ _ _, Stable.any _ _, Stable.any _ _, Stable.any _ _, Stable.val _ _ _, Stable.val _ _ _, Stable.any _ _, Stable.any _ _, Stable.any _ _, Stable.val _ _ _, Stable.val _ _ _, Stable.any _ _, Stable.any _ _, Stable.any _ _, Stable.val _ _ _, Stable.val _ _ _, Stable.any _ _, Stable.any _ _, Stable.any _ _, Stable.val _ _ _, Stable.val _ _ _, Stable.any _ _, Stable.any _ _, Stable.any _ _, Stable.val _ _ _, trivial⟩
              ⟨fun ρz wz hE hA ⟨e4, _⟩ _ => core_val rfl rfl (o_fieldAddr (e4.trans h4) (fa_43_0 _ _)),
     fun ρz wz hE hA _ ⟨u0, _⟩ => core_val rfl rfl (o_load u0 (run_load1 (lr_3 _ _) (CA.sub ((Hb_b4_.exn (hA rfl)).ca) 0 1))),
     fun ρz wz hE hA _ ⟨u1, _⟩ => core_val rfl rfl (o_lss u1 rfl rfl),
     fun ρz wz hE hA _ ⟨u2, _⟩ => core_valE rfl rfl (congrArg Value.bool hd3) (o_move u2),
     fun ρz wz hE hA ⟨e4, _⟩ ⟨u3, _⟩ => gYes rfl u3 (core_val rfl rfl (o_fieldAddr (e4.trans h4) (fa_43_0 _ _))),
     fun ρz wz hE hA _ ⟨u3, u4, _⟩ => gYes rfl u3 (core_val rfl rfl (o_load u4 (run_load1 (lr_3 _ _) (CA.sub ((Hb_b4_.exn (hA rfl)).ca) 0 1)))),
     fun ρz wz hE hA _ ⟨u3, u5, _⟩ => gYes rfl u3 (core_val rfl rfl (o_geq u5 rfl rfl)),
     fun ρz wz hE hA _ ⟨u3, u6, _⟩ => core_val rfl rfl (o_pick_f u3 u6),
     fun ρz wz hE hA _ ⟨u7, _⟩ => core_valE rfl rfl (congrArg Value.bool hd8) (o_move u7),
     fun _ _ _ _ _ ⟨u8, _⟩ => gNo rfl u8 rfl trivial,
     fun _ _ _ _ _ ⟨u8, _⟩ => gNo rfl u8 rfl trivial,
     fun _ _ _ _ _ ⟨u8, _⟩ => gNo rfl u8 rfl trivial,
     fun ρz wz hE hA _ ⟨u8, _⟩ => core_val rfl rfl (o_pick_t u8 rfl),
     fun ρz wz hE hA _ ⟨u12, _⟩ => core_val rfl rfl (o_move u12),
     fun _ _ _ _ _ ⟨u13, _⟩ => gNo rfl u13 rfl trivial,
     fun _ _ _ _ _ ⟨u13, _⟩ => gNo rfl u13 rfl trivial,
     fun _ _ _ _ _ ⟨u13, _⟩ => gNo rfl u13 rfl trivial,
     fun ρz wz hE hA _ ⟨u13, _⟩ => core_val rfl rfl (o_pick_t u13 rfl),
     fun ρz wz hE hA _ ⟨u17, _⟩ => core_val rfl rfl (o_move u17),
     fun _ _ _ _ _ ⟨u18, _⟩ => gNo rfl u18 rfl trivial,
     fun _ _ _ _ _ ⟨u18, _⟩ => gNo rfl u18 rfl trivial,
     fun _ _ _ _ _ ⟨u18, _⟩ => gNo rfl u18 rfl trivial,
     fun ρz wz hE hA _ ⟨u18, _⟩ => core_val rfl rfl (o_pick_t u18 rfl),
     fun ρz wz hE hA _ ⟨u22, _⟩ => core_val rfl rfl (o_move u22),
     fun _ _ _ _ _ ⟨u23, _⟩ => gNo rfl u23 rfl trivial,
     fun _ _ _ _ _ ⟨u23, _⟩ => gNo rfl u23 rfl trivial,
     fun _ _ _ _ _ ⟨u23, _⟩ => gNo rfl u23 rfl trivial,
     fun ρz wz hE hA _ ⟨u23, _⟩ => core_val rfl rfl (o_pick_t u23 rfl),
     fun ρz wz hE hA _ ⟨u27, _⟩ => core_val rfl rfl (o_move u27),
     fun _ _ _ _ _ ⟨u28, _⟩ => gNo rfl u28 rfl trivial,
     fun _ _ _ _ _ ⟨u28, _⟩ => gNo rfl u28 rfl trivial,
     fun _ _ _ _ _ ⟨u28, _⟩ => gNo rfl u28 rfl trivial,
     fun ρz wz hE hA _ ⟨u28, _⟩ => core_val rfl rfl (o_pick_t u28 rfl),
     fun ρz wz hE hA _ ⟨u32, _⟩ => core_val rfl rfl (o_move u32),
     fun _ _ _ _ _ ⟨u33, _⟩ => gNo rfl u33 rfl trivial,
     fun _ _ _ _ _ ⟨u33, _⟩ => gNo rfl u33 rfl trivial,
     fun _ _ _ _ _ ⟨u33, _⟩ => gNo rfl u33 rfl trivial,
     fun ρz wz hE hA _ ⟨u33, _⟩ => core_val rfl rfl (o_pick_t u33 rfl), trivial⟩ ?_
            intro ρ10 w10 hE hN hf hr
            have hN := hN rfl
            have h0 := (hr 0 rfl).trans h0
            have h3 := (hr 3 rfl).trans h3
            have h4 := (hr 4 rfl).trans h4
            have h56 : ρ10 56 = .bool true := hf 37 rfl
            have Hb_b4_n := Hb_b4_.exn hN
            have H_d__at0 := H_d_
            have H_d_ := H_d_.exn hN
            have hW := hW.trans hN
            have Hb_b4_ := Hb_b4_n
            have hsz := Nat.le_trans hsz hN.size
            exact ⟨h0, h3, h4, (h56.trans (congrArg Value.bool (by simp [hd3, hd8]))), Hb_b4_, H_d_, hW, hsz⟩
          · rcases Bool.eq_false_or_eq_true (decide (y.Basis < 1)) with hd13 | hd13
            · refine WP.region mixed [[], [0], [1], [2], [3], [3, 4], [3, 5], [3, 6], [7], [8], [8, 9], [8, 10], [8, 11], [12], [13], [13], [13], [13], [17], [18], [18], [18], [18], [22], [23], [23], [23], [23], [27], [28], [28], [28], [28], [32], [33], [33], [33], [33]] [[], [0], [1], [2], [3], [3, 4], [3, 5], [3, 6], [7], [8], [8, 9], [8, 10], [8, 11], [12], [13], [13], [13], [13], [17], [18], [18], [18], [18], [22], [23], [23], [23], [23], [27], [28], [28], [28], [28], [32], [33], [33], [33], [33]] [[4], [], [], [], [4], [], [], [], [], [4], [], [], [], [], [], [], [], [], [], [], [], [], [], [], [], [], [], [], [], [], [], [], [], [], [], [], [], []] [] []
                [val 19 (.pointer (some ((⟨b4_, 0, none⟩ : Addr).add 0))), val 20 (.int .i64 y.State), val 21 (.bool (decide (y.State < 0))), val 22 (.bool false), val 23 (.pointer (some ((⟨b4_, 0, none⟩ : Addr).add 0))), val 24 (.int .i64 y.State), val 25 (.bool (decide (6 ≤ y.State))), val 26 (.bool (decide (6 ≤ y.State))), val 27 (.bool false), val 28 (.pointer (some ((⟨b4_, 0, none⟩ : Addr).add 1))), val 29 (.int .i64 y.Basis), val 30 (.bool (decide (y.Basis < 1))), val 31 (.bool (decide (y.Basis < 1))), val 32 (.bool true), anyF 33, anyF 34, anyF 35, val 36 (.bool true), val 37 (.bool true), anyF 38, anyF 39, anyF 40, val 41 (.bool true), val 42 (.bool true), anyF 43, anyF 44, anyF 45, val 46 (.bool true), val 47 (.bool true), anyF 48, anyF 49, anyF 50, val 51 (.bool true), val 52 (.bool true), anyF 53, anyF 54, anyF 55, val 56 (.bool true)] noG (by kernel_rfl)
                ⟨Stable.val _ _ _, Stable.val _ _ _, Stable.val _ _ _, Stable.val _ _ _, Stable.val _ _ _, Stable.val _ _ _, Stable.val _ _ _, Stable.val _ _ _, Stable.val _ _ _, Stable.val _ _ _, Stable.val _ _ _, Stable.val _ _ _, Stable.val _ _ _, Stable.val _ _ _, Stable.any _ _, Stable.any _ _, Stable.any _ _, Stable.val _ _ _, Stable.val _ _ _, Stable.any _ _, Stable.any _ _, Stable.any _ _, Stable.val _ _ _, Stable.val _ _ _, Stable.any _ _, Stable.any _ _, Stable.any _ _, Stable.val _ _ _, Stable.val _ _ _, Stable.any _ _, Stable.any _ _, Stable.any _ _, Stable.val _ _ _, Stable.val _ _ _, Stable.any _ _, Stable.any _ _, Stable.any _ _, Stable.val _ _ _, trivial⟩
                ⟨fun ρz wz hE hA ⟨e4, _⟩ _ => core_val rfl rfl (o_fieldAddr (e4.trans h4) (fa_43_0 _ _)),
     fun ρz wz hE hA _ ⟨u0, _⟩ => core_val rfl rfl (o_load u0 (run_load1 (lr_3 _ _) (CA.sub ((Hb_b4_.exn (hA rfl)).ca) 0 1))),
     fun ρz wz hE hA _ ⟨u1, _⟩ => core_val rfl rfl (o_lss u1 rfl rfl),
     fun ρz wz hE hA _ ⟨u2, _⟩ => core_valE rfl rfl (congrArg Value.bool hd3) (o_move u2),
     fun ρz wz hE hA ⟨e4, _⟩ ⟨u3, _⟩ => gYes rfl u3 (core_val rfl rfl (o_fieldAddr (e4.trans h4) (fa_43_0 _ _))),
     fun ρz wz hE hA _ ⟨u3, u4, _⟩ => gYes rfl u3 (core_val rfl rfl (o_load u4 (run_load1 (lr_3 _ _) (CA.sub ((Hb_b4_.exn (hA rfl)).ca) 0 1)))),
     fun ρz wz hE hA _ ⟨u3, u5, _⟩ => gYes rfl u3 (core_val rfl rfl (o_geq u5 rfl rfl)),
     fun ρz wz hE hA _ ⟨u3, u6, _⟩ => core_val rfl rfl (o_pick_f u3 u6),
     fun ρz wz hE hA _ ⟨u7, _⟩ => core_valE rfl rfl (congrArg Value.bool hd8) (o_move u7),
     fun ρz wz hE hA ⟨e4, _⟩ ⟨u8, _⟩ => gYes rfl u8 (core_val rfl rfl (o_fieldAddr (e4.trans h4) (fa_43_1 _ _))),
     fun ρz wz hE hA _ ⟨u8, u9, _⟩ => gYes rfl u8 (core_val rfl rfl (o_load u9 (run_load1 (lr_3 _ _) (CA.sub ((Hb_b4_.exn (hA rfl)).ca) 1 1)))),
     fun ρz wz hE hA _ ⟨u8, u10, _⟩ => gYes rfl u8 (core_val rfl rfl (o_lss u10 rfl rfl)),
     fun ρz wz hE hA _ ⟨u8, u11, _⟩ => core_val rfl rfl (o_pick_f u8 u11),
     fun ρz wz hE hA _ ⟨u12, _⟩ => core_valE rfl rfl (congrArg Value.bool hd13) (o_move u12),
     fun _ _ _ _ _ ⟨u13, _⟩ => gNo rfl u13 rfl trivial,
     fun _ _ _ _ _ ⟨u13, _⟩ => gNo rfl u13 rfl trivial,
     fun _ _ _ _ _ ⟨u13, _⟩ => gNo rfl u13 rfl trivial,
     fun ρz wz hE hA _ ⟨u13, _⟩ => core_val rfl rfl (o_pick_t u13 rfl),
     fun ρz wz hE hA _ ⟨u17, _⟩ => core_val rfl rfl (o_move u17),
     fun _ _ _ _ _ ⟨u18, _⟩ => gNo rfl u18 rfl trivial,
     fun _ _ _ _ _ ⟨u18, _⟩ => gNo rfl u18 rfl trivial,
     fun _ _ _ _ _ ⟨u18, _⟩ => gNo rfl u18 rfl trivial,
     fun ρz wz hE hA _ ⟨u18, _⟩ => core_val rfl rfl (o_pick_t u18 rfl),
     fun ρz wz hE hA _ ⟨u22, _⟩ => core_val rfl rfl (o_move u22),
     fun _ _ _ _ _ ⟨u23, _⟩ => gNo rfl u23 rfl trivial,
     fun _ _ _ _ _ ⟨u23, _⟩ => gNo rfl u23 rfl trivial,
     fun _ _ _ _ _ ⟨u23, _⟩ => gNo rfl u23 rfl trivial,
     fun ρz wz hE hA _ ⟨u23, _⟩ => core_val rfl rfl (o_pick_t u23 rfl),
     fun ρz wz hE hA _ ⟨u27, _⟩ => core_val rfl rfl (o_move u27),
     fun _ _ _ _ _ ⟨u28, _⟩ => gNo rfl u28 rfl trivial,
     fun _ _ _ _ _ ⟨u28, _⟩ => gNo rfl u28 rfl trivial,
     fun _ _ _ _ _ ⟨u28, _⟩ => gNo rfl u28 rfl trivial,
     fun ρz wz hE hA _ ⟨u28, _⟩ => core_val rfl rfl (o_pick_t u28 rfl),
     fun ρz wz hE hA _ ⟨u32, _⟩ => core_val rfl rfl (o_move u32),
     fun _ _ _ _ _ ⟨u33, _⟩ => gNo rfl u33 rfl trivial,
     fun _ _ _ _ _ ⟨u33, _⟩ => gNo rfl u33 rfl trivial,
     fun _ _ _ _ _ ⟨u33, _⟩ => gNo rfl u33 rfl trivial,
     fun ρz wz hE hA _ ⟨u33, _⟩ => core_val rfl rfl (o_pick_t u33 rfl), trivial⟩ ?_
              intro ρ11 w11 hE hN hf hr
              have hN := hN rfl
              have h0 := (hr 0 rfl).trans h0
              have h3 := (hr 3 rfl).trans h3
              have h4 := (hr 4 rfl).trans h4
              have h56 : ρ11 56 = .bool true := hf 37 rfl
              have Hb_b4_n := Hb_b4_.exn hN
              have H_d__at0 := H_d_
              have H_d_ := H_d_.exn hN
              have hW := hW.trans hN
              have Hb_b4_ := Hb_b4_n
              have hsz := Nat.le_trans hsz hN.size
              exact ⟨h0, h3, h4, (h56.trans (congrArg Value.bool (by simp [hd3, hd8, hd13]))), Hb_b4_, H_d_, hW, hsz⟩
            · rcases Bool.eq_false_or_eq_true (decide (3 < y.Basis)) with hd18 | hd18
              · refine WP.region mixed [[], [0], [1], [2], [3], [3, 4], [3, 5], [3, 6], [7], [8], [8, 9], [8, 10], [8, 11], [12], [13], [13, 14], [13, 15], [13, 16], [17], [18], [18], [18], [18], [22], [23], [23], [23], [23], [27], [28], [28], [28], [28], [32], [33], [33], [33], [33]] [[], [0], [1], [2], [3], [3, 4], [3, 5], [3, 6], [7], [8], [8, 9], [8, 10], [8, 11], [12], [13], [13, 14], [13, 15], [13, 16], [17], [18], [18], [18], [18], [22], [23], [23], [23], [23], [27], [28], [28], [28], [28], [32], [33], [33], [33], [33]] [[4], [], [], [], [4], [], [], [], [], [4], [], [], [], [], [4], [], [], [], [], [], [], [], [], [], [], [], [], [], [], [], [], [], [], [], [], [], [], []] [] []
                  [val 19 (.pointer (some ((⟨b4_, 0, none⟩ : Addr).add 0))), val 20 (.int .i64 y.State), val 21 (.bool (decide (y.State < 0))), val 22 (.bool false), val 23 (.pointer (some ((⟨b4_, 0, none⟩ : Addr).add 0))), val 24 (.int .i64 y.State), val 25 (.bool (decide (6 ≤ y.State))), val 26 (.bool (decide (6 ≤ y.State))), val 27 (.bool false), val 28 (.pointer (some ((⟨b4_, 0, none⟩ : Addr).add 1))), val 29 (.int .i64 y.Basis), val 30 (.bool (decide (y.Basis < 1))), val 31 (.bool (decide (y.Basis < 1))), val 32 (.bool false), val 33 (.pointer (some ((⟨b4_, 0, none⟩ : Addr).add 1))), val 34 (.int .i64 y.Basis), val 35 (.bool (decide (3 < y.Basis))), val 36 (.bool (decide (3 < y.Basis))), val 37 (.bool true), anyF 38, anyF 39, anyF 40, val 41 (.bool true), val 42 (.bool true), anyF 43, anyF 44, anyF 45, val 46 (.bool true), val 47 (.bool true), anyF 48, anyF 49, anyF 50, val 51 (.bool true), val 52 (.bool true), anyF 53, anyF 54, anyF 55, val 56 (.bool true)] noG (by kernel_rfl)
                  ⟨Stable.val _ _ _, Stable.val _ _ _, Stable.val _ _ _, Stable.val _ _ _, Stable.val _ _ _, Stable.val _ _ _, Stable.val _ _ _, Stable.val _ _ _, Stable.val _ _ _, Stable.val _ _ _, Stable.val _ _ _, Stable.val _ _ _, Stable.val _ _ _, Stable.val _ _ _, Stable.val _ _ _, Stable.val _ _ _, Stable.val _ _ _, Stable.val _ _ _, Stable.val _ _ _, Stable.any _ _, Stable.any _ _, Stable.any _ _, Stable.val _ _ _, Stable.val _ _ _, Stable.any _ _, Stable.any _ _, Stable.any _ _, Stable.val _ _ _, Stable.val _ _ _, Stable.any _ _, Stable.any _ _, Stable.any _ _, Stable.val _ _ _, Stable.val _ _ _, Stable.any _ _, Stable.any _ _, Stable.any _ _, Stable.val _ _ _, trivial⟩
                  ⟨fun ρz wz hE hA ⟨e4, _⟩ _ => core_val rfl rfl (o_fieldAddr (e4.trans h4) (fa_43_0 _ _)),
     fun ρz wz hE hA _ ⟨u0, _⟩ => core_val rfl rfl (o_load u0 (run_load1 (lr_3 _ _) (CA.sub ((Hb_b4_.exn (hA rfl)).ca) 0 1))),
     fun ρz wz hE hA _ ⟨u1, _⟩ => core_val rfl rfl (o_lss u1 rfl rfl),
     fun ρz wz hE hA _ ⟨u2, _⟩ => core_valE rfl rfl (congrArg Value.bool hd3) (o_move u2),
     fun ρz wz hE hA ⟨e4, _⟩ ⟨u3, _⟩ => gYes rfl u3 (core_val rfl rfl (o_fieldAddr (e4.trans h4) (fa_43_0 _ _))),
     fun ρz wz hE hA _ ⟨u3, u4, _⟩ => gYes rfl u3 (core_val rfl rfl (o_load u4 (run_load1 (lr_3 _ _) (CA.sub ((Hb_b4_.exn (hA rfl)).ca) 0 1)))),
     fun ρz wz hE hA _ ⟨u3, u5, _⟩ => gYes rfl u3 (core_val rfl rfl (o_geq u5 rfl rfl)),
     fun ρz wz hE hA _ ⟨u3, u6, _⟩ => core_val rfl rfl (o_pick_f u3 u6),
     fun ρz wz hE hA _ ⟨u7, _⟩ => core_valE rfl rfl (congrArg Value.bool hd8) (o_move u7),
     fun ρz wz hE hA ⟨e4, _⟩ ⟨u8, _⟩ => gYes rfl u8 (core_val rfl rfl (o_fieldAddr (e4.trans h4) (fa_43_1 _ _))),
     fun ρz wz hE hA _ ⟨u8, u9, _⟩ => gYes rfl u8 (core_val rfl rfl (o_load u9 (run_load1 (lr_3 _ _) (CA.sub ((Hb_b4_.exn (hA rfl)).ca) 1 1)))),
     fun ρz wz hE hA _ ⟨u8, u10, _⟩ => gYes rfl u8 (core_val rfl rfl (o_lss u10 rfl rfl)),
     fun ρz wz hE hA _ ⟨u8, u11, _⟩ => core_val rfl rfl (o_pick_f u8 u11),
     fun ρz wz hE hA _ ⟨u12, _⟩ => core_valE rfl rfl (congrArg Value.bool hd13) (o_move u12),
     fun ρz wz hE hA ⟨e4, _⟩ ⟨u13, _⟩ => gYes rfl u13 (core_val rfl rfl (o_fieldAddr (e4.trans h4) (fa_43_1 _ _))),
     fun ρz wz hE hA _ ⟨u13, u14, _⟩ => gYes rfl u13 (core_val rfl rfl (o_load u14 (run_load1 (lr_3 _ _) (CA.sub ((Hb_b4_.exn (hA rfl)).ca) 1 1)))),
     fun ρz wz hE hA _ ⟨u13, u15, _⟩ => gYes rfl u13 (core_val rfl rfl (o_gtr u15 rfl rfl)),
     fun ρz wz hE hA _ ⟨u13, u16, _⟩ => core_val rfl rfl (o_pick_f u13 u16),
     fun ρz wz hE hA _ ⟨u17, _⟩ => core_valE rfl rfl (congrArg Value.bool hd18) (o_move u17),
     fun _ _ _ _ _ ⟨u18, _⟩ => gNo rfl u18 rfl trivial,
     fun _ _ _ _ _ ⟨u18, _⟩ => gNo rfl u18 rfl trivial,
     fun _ _ _ _ _ ⟨u18, _⟩ => gNo rfl u18 rfl trivial,
     fun ρz wz hE hA _ ⟨u18, _⟩ => core_val rfl rfl (o_pick_t u18 rfl),
     fun ρz wz hE hA _ ⟨u22, _⟩ => core_val rfl rfl (o_move u22),
     fun _ _ _ _ _ ⟨u23, _⟩ => gNo rfl u23 rfl trivial,
     fun _ _ _ _ _ ⟨u23, _⟩ => gNo rfl u23 rfl trivial,
     fun _ _ _ _ _ ⟨u23, _⟩ => gNo rfl u23 rfl trivial,
     fun ρz wz hE hA _ ⟨u23, _⟩ => core_val rfl rfl (o_pick_t u23 rfl),
     fun ρz wz hE hA _ ⟨u27, _⟩ => core_val rfl rfl (o_move u27),
     fun _ _ _ _ _ ⟨u28, _⟩ => gNo rfl u28 rfl trivial,
     fun _ _ _ _ _ ⟨u28, _⟩ => gNo rfl u28 rfl trivial,
     fun _ _ _ _ _ ⟨u28, _⟩ => gNo rfl u28 rfl trivial,
     fun ρz wz hE hA _ ⟨u28, _⟩ => core_val rfl rfl (o_pick_t u28 rfl),
     fun ρz wz hE hA _ ⟨u32, _⟩ => core_val rfl rfl (o_move u32),
     fun _ _ _ _ _ ⟨u33, _⟩ => gNo rfl u33 rfl trivial,
     fun _ _ _ _ _ ⟨u33, _⟩ => gNo rfl u33 rfl trivial,
     fun _ _ _ _ _ ⟨u33, _⟩ => gNo rfl u33 rfl trivial,
     fun ρz wz hE hA _ ⟨u33, _⟩ => core_val rfl rfl (o_pick_t u33 rfl), trivial⟩ ?_
                intro ρ12 w12 hE hN hf hr
                have hN := hN rfl
                have h0 := (hr 0 rfl).trans h0
                have h3 := (hr 3 rfl).trans h3
                have h4 := (hr 4 rfl).trans h4
                have h56 : ρ12 56 = .bool true := hf 37 rfl
                have Hb_b4_n := Hb_b4_.exn hN
                have H_d__at0 := H_d_
                have H_d_ := H_d_.exn hN
                have hW := hW.trans hN
                have Hb_b4_ := Hb_b4_n
                have hsz := Nat.le_trans hsz hN.size
                exact ⟨h0, h3, h4, (h56.trans (congrArg Value.bool (by simp [hd3, hd8, hd13, hd18]))), Hb_b4_, H_d_, hW, hsz⟩
              · rcases Bool.eq_false_or_eq_true (decide (y.Currency < 1)) with hd23 | hd23
                · refine WP.region mixed [[], [0], [1], [2], [3], [3, 4], [3, 5], [3, 6], [7], [8], [8, 9], [8, 10], [8, 11], [12], [13], [13, 14], [13, 15], [13, 16], [17], [18], [18, 19], [18, 20], [18, 21], [22], [23], [23], [23], [23], [27], [28], [28], [28], [28], [32], [33], [33], [33], [33]] [[], [0], [1], [2], [3], [3, 4], [3, 5], [3, 6], [7], [8], [8, 9], [8, 10], [8, 11], [12], [13], [13, 14], [13, 15], [13, 16], [17], [18], [18, 19], [18, 20], [18, 21], [22], [23], [23], [23], [23], [27], [28], [28], [28], [28], [32], [33], [33], [33], [33]] [[4], [], [], [], [4], [], [], [], [], [4], [], [], [], [], [4], [], [], [], [], [4], [], [], [], [], [], [], [], [], [], [], [], [], [], [], [], [], [], []] [] []
                    [val 19 (.pointer (some ((⟨b4_, 0, none⟩ : Addr).add 0))), val 20 (.int .i64 y.State), val 21 (.bool (decide (y.State < 0))), val 22 (.bool false), val 23 (.pointer (some ((⟨b4_, 0, none⟩ : Addr).add 0))), val 24 (.int .i64 y.State), val 25 (.bool (decide (6 ≤ y.State))), val 26 (.bool (decide (6 ≤ y.State))), val 27 (.bool false), val 28 (.pointer (some ((⟨b4_, 0, none⟩ : Addr).add 1))), val 29 (.int .i64 y.Basis), val 30 (.bool (decide (y.Basis < 1))), val 31 (.bool (decide (y.Basis < 1))), val 32 (.bool false), val 33 (.pointer (some ((⟨b4_, 0, none⟩ : Addr).add 1))), val 34 (.int .i64 y.Basis), val 35 (.bool (decide (3 < y.Basis))), val 36 (.bool (decide (3 < y.Basis))), val 37 (.bool false), val 38 (.pointer (some ((⟨b4_, 0, none⟩ : Addr).add 2))), val 39 (.int .i64 y.Currency), val 40 (.bool (decide (y.Currency < 1))), val 41 (.bool (decide (y.Currency < 1))), val 42 (.bool true), anyF 43, anyF 44, anyF 45, val 46 (.bool true), val 47 (.bool true), anyF 48, anyF 49, anyF 50, val 51 (.bool true), val 52 (.bool true), anyF 53, anyF 54, anyF 55, val 56 (.bool true)] noG (by kernel_rfl)
                    ⟨Stable.val _ _ _, Stable.val _ _ _, Stable.val _ _ _, Stable.val _ _ _, Stable.val _ _ _, Stable.val _ _ _, Stable.val _ _ _, Stable.val _ _ _, Stable.val _ _ _, Stable.val _ _ _, Stable.val _ _ _, Stable.val _ _ _, Stable.val _ _ _, Stable.val _ _ _, Stable.val _ _ _, Stable.val _ _ _, Stable.val _ _ _, Stable.val _ _ _, Stable.val _ _ _, Stable.val _ _ _, Stable.val _ _ _, Stable.val _ _ _, Stable.val _ _ _, Stable.val _ _ _, Stable.any _ _, Stable.any _ _, Stable.any _ _, Stable.val _ _ _, Stable.val _ _ _, Stable.any _ _, Stable.any _ _, Stable.any _ _, Stable.val _ _ _, Stable.val _ _ _, Stable.any _ _, Stable.any _ _, Stable.any _ _, Stable.val _ _ _, trivial⟩
                    ⟨fun ρz wz hE hA ⟨e4, _⟩ _ => core_val rfl rfl (o_fieldAddr (e4.trans h4) (fa_43_0 _ _)),
     fun ρz wz hE hA _ ⟨u0, _⟩ => core_val rfl rfl (o_load u0 (run_load1 (lr_3 _ _) (CA.sub ((Hb_b4_.exn (hA rfl)).ca) 0 1))),
     fun ρz wz hE hA _ ⟨u1, _⟩ => core_val rfl rfl (o_lss u1 rfl rfl),
     fun ρz wz hE hA _ ⟨u2, _⟩ => core_valE rfl rfl (congrArg Value.bool hd3) (o_move u2),
     fun ρz wz hE hA ⟨e4, _⟩ ⟨u3, _⟩ => gYes rfl u3 (core_val rfl rfl (o_fieldAddr (e4.trans h4) (fa_43_0 _ _))),
     fun ρz wz hE hA _ ⟨u3, u4, _⟩ => gYes rfl u3 (core_val rfl rfl (o_load u4 (run_load1 (lr_3 _ _) (CA.sub ((Hb_b4_.exn (hA rfl)).ca) 0 1)))),
     fun ρz wz hE hA _ ⟨u3, u5, _⟩ => gYes rfl u3 (core_val rfl rfl (o_geq u5 rfl rfl)),
     fun ρz wz hE hA _ ⟨u3, u6, _⟩ => core_val rfl rfl (o_pick_f u3 u6),
     fun ρz wz hE hA _ ⟨u7, _⟩ => core_valE rfl rfl (congrArg Value.bool hd8) (o_move u7),
     fun ρz wz hE hA ⟨e4, _⟩ ⟨u8, _⟩ => gYes rfl u8 (core_val rfl rfl (o_fieldAddr (e4.trans h4) (fa_43_1 _ _))),
     fun ρz wz hE hA _ ⟨u8, u9, _⟩ => gYes rfl u8 (core_val rfl rfl (o_load u9 (run_load1 (lr_3 _ _) (CA.sub ((Hb_b4_.exn (hA rfl)).ca) 1 1)))),
     fun ρz wz hE hA _ ⟨u8, u10, _⟩ => gYes rfl u8 (core_val rfl rfl (o_lss u10 rfl rfl)),
     fun ρz wz hE hA _ ⟨u8, u11, _⟩ => core_val rfl rfl (o_pick_f u8 u11),
     fun ρz wz hE hA _ ⟨u12, _⟩ => core_valE rfl rfl (congrArg Value.bool hd13) (o_move u12),
     fun ρz wz hE hA ⟨e4, _⟩ ⟨u13, _⟩ => gYes rfl u13 (core_val rfl rfl (o_fieldAddr (e4.trans h4) (fa_43_1 _ _))),
     fun ρz wz hE hA _ ⟨u13, u14, _⟩ => gYes rfl u13 (core_val rfl rfl (o_load u14 (run_load1 (lr_3 _ _) (CA.sub ((Hb_b4_.exn (hA rfl)).ca) 1 1)))),
     fun ρz wz hE hA _ ⟨u13, u15, _⟩ => gYes rfl u13 (core_val rfl rfl (o_gtr u15 rfl rfl)),
     fun ρz wz hE hA _ ⟨u13, u16, _⟩ => core_val rfl rfl (o_pick_f u13 u16),
     fun ρz wz hE hA _ ⟨u17, _⟩ => core_valE rfl rfl (congrArg Value.bool hd18) (o_move u17),
     fun ρz wz hE hA ⟨e4, _⟩ ⟨u18, _⟩ => gYes rfl u18 (core_val rfl rfl (o_fieldAddr (e4.trans h4) (fa_43_2 _ _))),
     fun ρz wz hE hA _ ⟨u18, u19, _⟩ => gYes rfl u18 (core_val rfl rfl (o_load u19 (run_load1 (lr_3 _ _) (CA.sub ((Hb_b4_.exn (hA rfl)).ca) 2 1)))),
     fun ρz wz hE hA _ ⟨u18, u20, _⟩ => gYes rfl u18 (core_val rfl rfl (o_lss u20 rfl rfl)),
     fun ρz wz hE hA _ ⟨u18, u21, _⟩ => core_val rfl rfl (o_pick_f u18 u21),
     fun ρz wz hE hA _ ⟨u22, _⟩ => core_valE rfl rfl (congrArg Value.bool hd23) (o_move u22),
     fun _ _ _ _ _ ⟨u23, _⟩ => gNo rfl u23 rfl trivial,
     fun _ _ _ _ _ ⟨u23, _⟩ => gNo rfl u23 rfl trivial,
     fun _ _ _ _ _ ⟨u23, _⟩ => gNo rfl u23 rfl trivial,
     fun ρz wz hE hA _ ⟨u23, _⟩ => core_val rfl rfl (o_pick_t u23 rfl),
     fun ρz wz hE hA _ ⟨u27, _⟩ => core_val rfl rfl (o_move u27),
     fun _ _ _ _ _ ⟨u28, _⟩ => gNo rfl u28 rfl trivial,
     fun _ _ _ _ _ ⟨u28, _⟩ => gNo rfl u28 rfl trivial,
     fun _ _ _ _ _ ⟨u28, _⟩ => gNo rfl u28 rfl trivial,
     fun ρz wz hE hA _ ⟨u28, _⟩ => core_val rfl rfl (o_pick_t u28 rfl),
     fun ρz wz hE hA _ ⟨u32, _⟩ => core_val rfl rfl (o_move u32),
     fun _ _ _ _ _ ⟨u33, _⟩ => gNo rfl u33 rfl trivial,
     fun _ _ _ _ _ ⟨u33, _⟩ => gNo rfl u33 rfl trivial,
     fun _ _ _ _ _ ⟨u33, _⟩ => gNo rfl u33 rfl trivial,
     fun ρz wz hE hA _ ⟨u33, _⟩ => core_val rfl rfl (o_pick_t u33 rfl), trivial⟩ ?_
                  intro ρ13 w13 hE hN hf hr
                  have hN := hN rfl
                  have h0 := (hr 0 rfl).trans h0
                  have h3 := (hr 3 rfl).trans h3
                  have h4 := (hr 4 rfl).trans h4
                  have h56 : ρ13 56 = .bool true := hf 37 rfl
                  have Hb_b4_n := Hb_b4_.exn hN
                  have H_d__at0 := H_d_
                  have H_d_ := H_d_.exn hN
                  have hW := hW.trans hN
                  have Hb_b4_ := Hb_b4_n
                  have hsz := Nat.le_trans hsz hN.size
                  exact ⟨h0, h3, h4, (h56.trans (congrArg Value.bool (by simp [hd3, hd8, hd13, hd18, hd23]))), Hb_b4_, H_d_, hW, hsz⟩
                · rcases Bool.eq_false_or_eq_true (decide (999 < y.Currency)) with hd28 | hd28
                  · refine WP.region mixed [[], [0], [1], [2], [3], [3, 4], [3, 5], [3, 6], [7], [8], [8, 9], [8, 10], [8, 11], [12], [13], [13, 14], [13, 15], [13, 16], [17], [18], [18, 19], [18, 20], [18, 21], [22], [23], [23, 24], [23, 25], [23, 26], [27], [28], [28], [28], [28], [32], [33], [33], [33], [33]] [[], [0], [1], [2], [3], [3, 4], [3, 5], [3, 6], [7], [8], [8, 9], [8, 10], [8, 11], [12], [13], [13, 14], [13, 15], [13, 16], [17], [18], [18, 19], [18, 20], [18, 21], [22], [23], [23, 24], [23, 25], [23, 26], [27], [28], [28], [28], [28], [32], [33], [33], [33], [33]] [[4], [], [], [], [4], [], [], [], [], [4], [], [], [], [], [4], [], [], [], [], [4], [], [], [], [], [4], [], [], [], [], [], [], [], [], [], [], [], [], []] [] []
                      [val 19 (.pointer (some ((⟨b4_, 0, none⟩ : Addr).add 0))), val 20 (.int .i64 y.State), val 21 (.bool (decide (y.State < 0))), val 22 (.bool false), val 23 (.pointer (some ((⟨b4_, 0, none⟩ : Addr).add 0))), val 24 (.int .i64 y.State), val 25 (.bool (decide (6 ≤ y.State))), val 26 (.bool (decide (6 ≤ y.State))), val 27 (.bool false), val 28 (.pointer (some ((⟨b4_, 0, none⟩ : Addr).add 1))), val 29 (.int .i64 y.Basis), val 30 (.bool (decide (y.Basis < 1))), val 31 (.bool (decide (y.Basis < 1))), val 32 (.bool false), val 33 (.pointer (some ((⟨b4_, 0, none⟩ : Addr).add 1))), val 34 (.int .i64 y.Basis), val 35 (.bool (decide (3 < y.Basis))), val 36 (.bool (decide (3 < y.Basis))), val 37 (.bool false), val 38 (.pointer (some ((⟨b4_, 0, none⟩ : Addr).add 2))), val 39 (.int .i64 y.Currency), val 40 (.bool (decide (y.Currency < 1))), val 41 (.bool (decide (y.Currency < 1))), val 42 (.bool false), val 43 (.pointer (some ((⟨b4_, 0, none⟩ : Addr).add 2))), val 44 (.int .i64 y.Currency), val 45 (.bool (decide (999 < y.Currency))), val 46 (.bool (decide (999 < y.Currency))), val 47 (.bool true), anyF 48, anyF 49, anyF 50, val 51 (.bool true), val 52 (.bool true), anyF 53, anyF 54, anyF 55, val 56 (.bool true)] noG (by kernel_rfl)
                      ⟨Stable.val _ _ _, Stable.val _ _ _, Stable.val _ _ _, Stable.val _ _ _, Stable.val _ _ _, Stable.val _ _ _, Stable.val _ _ _, Stable.val _ _ _, Stable.val _ _ _, Stable.val _ _ _, Stable.val _ _ _, Stable.val _ _ _, Stable.val _ _ _, Stable.val _ _ _, Stable.val _ _ _, Stable.val _ _ _, Stable.val _ _ _, Stable.val _ _ _, Stable.val _ _ _, Stable.val _ _ _, Stable.val _ _ _, Stable.val _ _ _, Stable.val _ _ _, Stable.val _ _ _, Stable.val _ _ _, Stable.val _ _ _, Stable.val _ _ _, Stable.val _ _ _, Stable.val _ _ _, Stable.any _ _, Stable.any _ _, Stable.any _ _, Stable.val _ _ _, Stable.val _ _ _, Stable.any _ _, Stable.any _ _, Stable.any _ _, Stable.val _ _ _, trivial⟩
                      ⟨fun ρz wz hE hA ⟨e4, _⟩ _ => core_val rfl rfl (o_fieldAddr (e4.trans h4) (fa_43_0 _ _)),
     fun ρz wz hE hA _ ⟨u0, _⟩ => core_val rfl rfl (o_load u0 (run_load1 (lr_3 _ _) (CA.sub ((Hb_b4_.exn (hA rfl)).ca) 0 1))),
     fun ρz wz hE hA _ ⟨u1, _⟩ => core_val rfl rfl (o_lss u1 rfl rfl),
     fun ρz wz hE hA _ ⟨u2, _⟩ => core_valE rfl rfl (congrArg Value.bool hd3) (o_move u2),
     fun ρz wz hE hA ⟨e4, _⟩ ⟨u3, _⟩ => gYes rfl u3 (core_val rfl rfl (o_fieldAddr (e4.trans h4) (fa_43_0 _ _))),
     fun ρz wz hE hA _ ⟨u3, u4, _⟩ => gYes rfl u3 (core_val rfl rfl (o_load u4 (run_load1 (lr_3 _ _) (CA.sub ((Hb_b4_.exn (hA rfl)).ca) 0 1)))),
     fun ρz wz hE hA _ ⟨u3, u5, _⟩ => gYes rfl u3 (core_val rfl rfl (o_geq u5 rfl rfl)),
     fun ρz wz hE hA _ ⟨u3, u6, _⟩ => core_val rfl rfl (o_pick_f u3 u6),
     fun ρz wz hE hA _ ⟨u7, _⟩ => core_valE rfl rfl (congrArg Value.bool hd8) (o_move u7),
     fun ρz wz hE hA ⟨e4, _⟩ ⟨u8, _⟩ => gYes rfl u8 (core_val rfl rfl (o_fieldAddr (e4.trans h4) (fa_43_1 _ _))),
     fun ρz wz hE hA _ ⟨u8, u9, _⟩ => gYes rfl u8 (core_val rfl rfl (o_load u9 (run_load1 (lr_3 _ _) (CA.sub ((Hb_b4_.exn (hA rfl)).ca) 1 1)))),
     fun ρz wz hE hA _ ⟨u8, u10, _⟩ => gYes rfl u8 (core_val rfl rfl (o_lss u10 rfl rfl)),
     fun ρz wz hE hA _ ⟨u8, u11, _⟩ => core_val rfl rfl (o_pick_f u8 u11),
     fun ρz wz hE hA _ ⟨u12, _⟩ => core_valE rfl rfl (congrArg Value.bool hd13) (o_move u12),
     fun ρz wz hE hA ⟨e4, _⟩ ⟨u13, _⟩ => gYes rfl u13 (core_val rfl rfl (o_fieldAddr (e4.trans h4) (fa_43_1 _ _))),
     fun ρz wz hE hA _ ⟨u13, u14, _⟩ => gYes rfl u13 (core_val rfl rfl (o_load u14 (run_load1 (lr_3 _ _) (CA.sub ((Hb_b4_.exn (hA rfl)).ca) 1 1)))),
     fun ρz wz hE hA _ ⟨u13, u15, _⟩ => gYes rfl u13 (core_val rfl rfl (o_gtr u15 rfl rfl)),
     fun ρz wz hE hA _ ⟨u13, u16, _⟩ => core_val rfl rfl (o_pick_f u13 u16),
     fun ρz wz hE hA _ ⟨u17, _⟩ => core_valE rfl rfl (congrArg Value.bool hd18) (o_move u17),
     fun ρz wz hE hA ⟨e4, _⟩ ⟨u18, _⟩ => gYes rfl u18 (core_val rfl rfl (o_fieldAddr (e4.trans h4) (fa_43_2 _ _))),
     fun ρz wz hE hA _ ⟨u18, u19, _⟩ => gYes rfl u18 (core_val rfl rfl (o_load u19 (run_load1 (lr_3 _ _) (CA.sub ((Hb_b4_.exn (hA rfl)).ca) 2 1)))),
     fun ρz wz hE hA _ ⟨u18, u20, _⟩ => gYes rfl u18 (core_val rfl rfl (o_lss u20 rfl rfl)),
     fun ρz wz hE hA _ ⟨u18, u21, _⟩ => core_val rfl rfl (o_pick_f u18 u21),
     fun ρz wz hE hA _ ⟨u22, _⟩ => core_valE rfl rfl (congrArg Value.bool hd23) (o_move u22),
     fun ρz wz hE hA ⟨e4, _⟩ ⟨u23, _⟩ => gYes rfl u23 (core_val rfl rfl (o_fieldAddr (e4.trans h4) (fa_43_2 _ _))),
     fun ρz wz hE hA _ ⟨u23, u24, _⟩ => gYes rfl u23 (core_val rfl rfl (o_load u24 (run_load1 (lr_3 _ _) (CA.sub ((Hb_b4_.exn (hA rfl)).ca) 2 1)))),
     fun ρz wz hE hA _ ⟨u23, u25, _⟩ => gYes rfl u23 (core_val rfl rfl (o_gtr u25 rfl rfl)),
     fun ρz wz hE hA _ ⟨u23, u26, _⟩ => core_val rfl rfl (o_pick_f u23 u26),
     fun ρz wz hE hA _ ⟨u27, _⟩ => core_valE rfl rfl (congrArg Value.bool hd28) (o_move u27),
     fun _ _ _ _ _ ⟨u28, _⟩ => gNo rfl u28 rfl trivial,
     fun _ _ _ _ _ ⟨u28, _⟩ => gNo rfl u28 rfl trivial,
     fun _ _ _ _ _ ⟨u28, _⟩ => gNo rfl u28 rfl trivial,
     fun ρz wz hE hA _ ⟨u28, _⟩ => core_val rfl rfl (o_pick_t u28 rfl),
     fun ρz wz hE hA _ ⟨u32, _⟩ => core_val rfl rfl (o_move u32),
     fun _ _ _ _ _ ⟨u33, _⟩ => gNo rfl u33 rfl trivial,
     fun _ _ _ _ _ ⟨u33, _⟩ => gNo rfl u33 rfl trivial,
     fun _ _ _ _ _ ⟨u33, _⟩ => gNo rfl u33 rfl trivial,
     fun ρz wz hE hA _ ⟨u33, _⟩ => core_val rfl rfl (o_pick_t u33 rfl), trivial⟩ ?_
                    intro ρ14 w14 hE hN hf hr
                    have hN := hN rfl
                    have h0 := (hr 0 rfl).trans h0
                    have h3 := (hr 3 rfl).trans h3
                    have h4 := (hr 4 rfl).trans h4
                    have h56 : ρ14 56 = .bool true := hf 37 rfl
                    have Hb_b4_n := Hb_b4_.exn hN
                    have H_d__at0 := H_d_
                    have H_d_ := H_d_.exn hN
                    have hW := hW.trans hN
                    have Hb_b4_ := Hb_b4_n
                    have hsz := Nat.le_trans hsz hN.size
                    exact ⟨h0, h3, h4, (h56.trans (congrArg Value.bool (by simp [hd3, hd8, hd13, hd18, hd23, hd28]))), Hb_b4_, H_d_, hW, hsz⟩
                  · rcases Bool.eq_false_or_eq_true (decide (y.Amount < 1)) with hd33 | hd33
                    · refine WP.region mixed [[], [0], [1], [2], [3], [3, 4], [3, 5], [3, 6], [7], [8], [8, 9], [8, 10], [8, 11], [12], [13], [13, 14], [13, 15], [13, 16], [17], [18], [18, 19], [18, 20], [18, 21], [22], [23], [23, 24], [23, 25], [23, 26], [27], [28], [28, 29], [28, 30], [28, 31], [32], [33], [33], [33], [33]] [[], [0], [1], [2], [3], [3, 4], [3, 5], [3, 6], [7], [8], [8, 9], [8, 10], [8, 11], [12], [13], [13, 14], [13, 15], [13, 16], [17], [18], [18, 19], [18, 20], [18, 21], [22], [23], [23, 24], [23, 25], [23, 26], [27], [28], [28, 29], [28, 30], [28, 31], [32], [33], [33], [33], [33]] [[4], [], [], [], [4], [], [], [], [], [4], [], [], [], [], [4], [], [], [], [], [4], [], [], [], [], [4], [], [], [], [], [4], [], [], [], [], [], [], [], []] [] []
                        [val 19 (.pointer (some ((⟨b4_, 0, none⟩ : Addr).add 0))), val 20 (.int .i64 y.State), val 21 (.bool (decide (y.State < 0))), val 22 (.bool false), val 23 (.pointer (some ((⟨b4_, 0, none⟩ : Addr).add 0))), val 24 (.int .i64 y.State), val 25 (.bool (decide (6 ≤ y.State))), val 26 (.bool (decide (6 ≤ y.State))), val 27 (.bool false), val 28 (.pointer (some ((⟨b4_, 0, none⟩ : Addr).add 1))), val 29 (.int .i64 y.Basis), val 30 (.bool (decide (y.Basis < 1))), val 31 (.bool (decide (y.Basis < 1))), val 32 (.bool false), val 33 (.pointer (some ((⟨b4_, 0, none⟩ : Addr).add 1))), val 34 (.int .i64 y.Basis), val 35 (.bool (decide (3 < y.Basis))), val 36 (.bool (decide (3 < y.Basis))), val 37 (.bool false), val 38 (.pointer (some ((⟨b4_, 0, none⟩ : Addr).add 2))), val 39 (.int .i64 y.Currency), val 40 (.bool (decide (y.Currency < 1))), val 41 (.bool (decide (y.Currency < 1))), val 42 (.bool false), val 43 (.pointer (some ((⟨b4_, 0, none⟩ : Addr).add 2))), val 44 (.int .i64 y.Currency), val 45 (.bool (decide (999 < y.Currency))), val 46 (.bool (decide (999 < y.Currency))), val 47 (.bool false), val 48 (.pointer (some ((⟨b4_, 0, none⟩ : Addr).add 3))), val 49 (.int .i64 y.Amount), val 50 (.bool (decide (y.Amount < 1))), val 51 (.bool (decide (y.Amount < 1))), val 52 (.bool true), anyF 53, anyF 54, anyF 55, val 56 (.bool true)] noG (by kernel_rfl)
                        ⟨Stable.val _ _ _, Stable.val _ _ _, Stable.val _ _ _, Stable.val _ _ _, Stable.val _ _ _, Stable.val _ _ _, Stable.val _ _ _, Stable.val _ _ _, Stable.val _ _ _, Stable.val _ _ _, Stable.val _ _ _, Stable.val _ _ _, Stable.val _ _ _, Stable.val _ _ _, Stable.val _ _ _, Stable.val _ _ _, Stable.val _ _ _, Stable.val _ _ _, Stable.val _ _ _, Stable.val _ _ _, Stable.val _ _ _, Stable.val _ _ _, Stable.val _ _ _, Stable.val _ _ _, Stable.val _ _ _, Stable.val _ _ _, Stable.val _ _ _, Stable.val _ _ _, Stable.val _ _ _, Stable.val _ _ _, Stable.val _ _ _, Stable.val _ _ _, Stable.val _ _ _, Stable.val _ _ _, Stable.any _ _, Stable.any _ _, Stable.any _ _, Stable.val _ _ _, trivial⟩
                        ⟨fun ρz wz hE hA ⟨e4, _⟩ _ => core_val rfl rfl (o_fieldAddr (e4.trans h4) (fa_43_0 _ _)),
     fun ρz wz hE hA _ ⟨u0, _⟩ => core_val rfl rfl (o_load u0 (run_load1 (lr_3 _ _) (CA.sub ((Hb_b4_.exn (hA rfl)).ca) 0 1))),
     fun ρz wz hE hA _ ⟨u1, _⟩ => core_val rfl rfl (o_lss u1 rfl rfl),
     fun ρz wz hE hA _ ⟨u2, _⟩ => core_valE rfl rfl (congrArg Value.bool hd3) (o_move u2),
     fun ρz wz hE hA ⟨e4, _⟩ ⟨u3, _⟩ => gYes rfl u3 (core_val rfl rfl (o_fieldAddr (e4.trans h4) (fa_43_0 _ _))),
     fun ρz wz hE hA _ ⟨u3, u4, _⟩ => gYes rfl u3 (core_val rfl rfl (o_load u4 (run_load1 (lr_3 _ _) (CA.sub ((Hb_b4_.exn (hA rfl)).ca) 0 1)))),
     fun ρz wz hE hA _ ⟨u3, u5, _⟩ => gYes rfl u3 (core_val rfl rfl (o_geq u5 rfl rfl)),
     fun ρz wz hE hA _ ⟨u3, u6, _⟩ => core_val rfl rfl (o_pick_f u3 u6),
     fun ρz wz hE hA _ ⟨u7, _⟩ => core_valE rfl rfl (congrArg Value.bool hd8) (o_move u7),
     fun ρz wz hE hA ⟨e4, _⟩ ⟨u8, _⟩ => gYes rfl u8 (core_val rfl rfl (o_fieldAddr (e4.trans h4) (fa_43_1 _ _))),
     fun ρz wz hE hA _ ⟨u8, u9, _⟩ => gYes rfl u8 (core_val rfl rfl (o_load u9 (run_load1 (lr_3 _ _) (CA.sub ((Hb_b4_.exn (hA rfl)).ca) 1 1)))),
     fun ρz wz hE hA _ ⟨u8, u10, _⟩ => gYes rfl u8 (core_val rfl rfl (o_lss u10 rfl rfl)),
     fun ρz wz hE hA _ ⟨u8, u11, _⟩ => core_val rfl rfl (o_pick_f u8 u11),
     fun ρz wz hE hA _ ⟨u12, _⟩ => core_valE rfl rfl (congrArg Value.bool hd13) (o_move u12),
     fun ρz wz hE hA ⟨e4, _⟩ ⟨u13, _⟩ => gYes rfl u13 (core_val rfl rfl (o_fieldAddr (e4.trans h4) (fa_43_1 _ _))),
     fun ρz wz hE hA _ ⟨u13, u14, _⟩ => gYes rfl u13 (core_val rfl rfl (o_load u14 (run_load1 (lr_3 _ _) (CA.sub ((Hb_b4_.exn (hA rfl)).ca) 1 1)))),
     fun ρz wz hE hA _ ⟨u13, u15, _⟩ => gYes rfl u13 (core_val rfl rfl (o_gtr u15 rfl rfl)),
     fun ρz wz hE hA _ ⟨u13, u16, _⟩ => core_val rfl rfl (o_pick_f u13 u16),
     fun ρz wz hE hA _ ⟨u17, _⟩ => core_valE rfl rfl (congrArg Value.bool hd18) (o_move u17),
     fun ρz wz hE hA ⟨e4, _⟩ ⟨u18, _⟩ => gYes rfl u18 (core_val rfl rfl (o_fieldAddr (e4.trans h4) (fa_43_2 _ _))),
     fun ρz wz hE hA _ ⟨u18, u19, _⟩ => gYes rfl u18 (core_val rfl rfl (o_load u19 (run_load1 (lr_3 _ _) (CA.sub ((Hb_b4_.exn (hA rfl)).ca) 2 1)))),
     fun ρz wz hE hA _ ⟨u18, u20, _⟩ => gYes rfl u18 (core_val rfl rfl (o_lss u20 rfl rfl)),
     fun ρz wz hE hA _ ⟨u18, u21, _⟩ => core_val rfl rfl (o_pick_f u18 u21),
     fun ρz wz hE hA _ ⟨u22, _⟩ => core_valE rfl rfl (congrArg Value.bool hd23) (o_move u22),
     fun ρz wz hE hA ⟨e4, _⟩ ⟨u23, _⟩ => gYes rfl u23 (core_val rfl rfl (o_fieldAddr (e4.trans h4) (fa_43_2 _ _))),
     fun ρz wz hE hA _ ⟨u23, u24, _⟩ => gYes rfl u23 (core_val rfl rfl (o_load u24 (run_load1 (lr_3 _ _) (CA.sub ((Hb_b4_.exn (hA rfl)).ca) 2 1)))),
     fun ρz wz hE hA _ ⟨u23, u25, _⟩ => gYes rfl u23 (core_val rfl rfl (o_gtr u25 rfl rfl)),
     fun ρz wz hE hA _ ⟨u23, u26, _⟩ => core_val rfl rfl (o_pick_f u23 u26),
     fun ρz wz hE hA _ ⟨u27, _⟩ => core_valE rfl rfl (congrArg Value.bool hd28) (o_move u27),
     fun ρz wz hE hA ⟨e4, _⟩ ⟨u28, _⟩ => gYes rfl u28 (core_val rfl rfl (o_fieldAddr (e4.trans h4) (fa_43_3 _ _))),
     fun ρz wz hE hA _ ⟨u28, u29, _⟩ => gYes rfl u28 (core_val rfl rfl (o_load u29 (run_load1 (lr_3 _ _) (CA.sub ((Hb_b4_.exn (hA rfl)).ca) 3 1)))),
     fun ρz wz hE hA _ ⟨u28, u30, _⟩ => gYes rfl u28 (core_val rfl rfl (o_lss u30 rfl rfl)),
     fun ρz wz hE hA _ ⟨u28, u31, _⟩ => core_val rfl rfl (o_pick_f u28 u31),
     fun ρz wz hE hA _ ⟨u32, _⟩ => core_valE rfl rfl (congrArg Value.bool hd33) (o_move u32),
     fun _ _ _ _ _ ⟨u33, _⟩ => gNo rfl u33 rfl trivial,
     fun _ _ _ _ _ ⟨u33, _⟩ => gNo rfl u33 rfl trivial,
     fun _ _ _ _ _ ⟨u33, _⟩ => gNo rfl u33 rfl trivial,
     fun ρz wz hE hA _ ⟨u33, _⟩ => core_val rfl rfl (o_pick_t u33 rfl), trivial⟩ ?_
                      intro ρ15 w15 hE hN hf hr
                      have hN := hN rfl
                      have h0 := (hr 0 rfl).trans h0
                      have h3 := (hr 3 rfl).trans h3
                      have h4 := (hr 4 rfl).trans h4
                      have h56 : ρ15 56 = .bool true := hf 37 rfl
                      have Hb_b4_n := Hb_b4_.exn hN
                      have H_d__at0 := H_d_
                      have H_d_ := H_d_.exn hN
                      have hW := hW.trans hN
                      have Hb_b4_ := Hb_b4_n
                      have hsz := Nat.le_trans hsz hN.size
                      exact ⟨h0, h3, h4, (h56.trans (congrArg Value.bool (by simp [hd3, hd8, hd13, hd18, hd23, hd28, hd33]))), Hb_b4_, H_d_, hW, hsz⟩
                    · refine WP.region mixed [[], [0], [1], [2], [3], [3, 4], [3, 5], [3, 6], [7], [8], [8, 9], [8, 10], [8, 11], [12], [13], [13, 14], [13, 15], [13, 16], [17], [18], [18, 19], [18, 20], [18, 21], [22], [23], [23, 24], [23, 25], [23, 26], [27], [28], [28, 29], [28, 30], [28, 31], [32], [33], [33, 34], [33, 35], [33, 36]] [[], [0], [1], [2], [3], [3, 4], [3, 5], [3, 6], [7], [8], [8, 9], [8, 10], [8, 11], [12], [13], [13, 14], [13, 15], [13, 16], [17], [18], [18, 19], [18, 20], [18, 21], [22], [23], [23, 24], [23, 25], [23, 26], [27], [28], [28, 29], [28, 30], [28, 31], [32], [33], [33, 34], [33, 35], [33, 36]] [[4], [], [], [], [4], [], [], [], [], [4], [], [], [], [], [4], [], [], [], [], [4], [], [], [], [], [4], [], [], [], [], [4], [], [], [], [], [4], [], [], []] [] []
                        [val 19 (.pointer (some ((⟨b4_, 0, none⟩ : Addr).add 0))), val 20 (.int .i64 y.State), val 21 (.bool (decide (y.State < 0))), val 22 (.bool false), val 23 (.pointer (some ((⟨b4_, 0, none⟩ : Addr).add 0))), val 24 (.int .i64 y.State), val 25 (.bool (decide (6 ≤ y.State))), val 26 (.bool (decide (6 ≤ y.State))), val 27 (.bool false), val 28 (.pointer (some ((⟨b4_, 0, none⟩ : Addr).add 1))), val 29 (.int .i64 y.Basis), val 30 (.bool (decide (y.Basis < 1))), val 31 (.bool (decide (y.Basis < 1))), val 32 (.bool false), val 33 (.pointer (some ((⟨b4_, 0, none⟩ : Addr).add 1))), val 34 (.int .i64 y.Basis), val 35 (.bool (decide (3 < y.Basis))), val 36 (.bool (decide (3 < y.Basis))), val 37 (.bool false), val 38 (.pointer (some ((⟨b4_, 0, none⟩ : Addr).add 2))), val 39 (.int .i64 y.Currency), val 40 (.bool (decide (y.Currency < 1))), val 41 (.bool (decide (y.Currency < 1))), val 42 (.bool false), val 43 (.pointer (some ((⟨b4_, 0, none⟩ : Addr).add 2))), val 44 (.int .i64 y.Currency), val 45 (.bool (decide (999 < y.Currency))), val 46 (.bool (decide (999 < y.Currency))), val 47 (.bool false), val 48 (.pointer (some ((⟨b4_, 0, none⟩ : Addr).add 3))), val 49 (.int .i64 y.Amount), val 50 (.bool (decide (y.Amount < 1))), val 51 (.bool (decide (y.Amount < 1))), val 52 (.bool false), val 53 (.pointer (some ((⟨b4_, 0, none⟩ : Addr).add 3))), val 54 (.int .i64 y.Amount), val 55 (.bool (decide (1000000000000 < y.Amount))), val 56 (.bool (decide (1000000000000 < y.Amount)))] noG (by kernel_rfl)
                        ⟨Stable.val _ _ _, Stable.val _ _ _, Stable.val _ _ _, Stable.val _ _ _, Stable.val _ _ _, Stable.val _ _ _, Stable.val _ _ _, Stable.val _ _ _, Stable.val _ _ _, Stable.val _ _ _, Stable.val _ _ _, Stable.val _ _ _, Stable.val _ _ _, Stable.val _ _ _, Stable.val _ _ _, Stable.val _ _ _, Stable.val _ _ _, Stable.val _ _ _, Stable.val _ _ _, Stable.val _ _ _, Stable.val _ _ _, Stable.val _ _ _, Stable.val _ _ _, Stable.val _ _ _, Stable.val _ _ _, Stable.val _ _ _, Stable.val _ _ _, Stable.val _ _ _, Stable.val _ _ _, Stable.val _ _ _, Stable.val _ _ _, Stable.val _ _ _, Stable.val _ _ _, Stable.val _ _ _, Stable.val _ _ _, Stable.val _ _ _, Stable.val _ _ _, Stable.val _ _ _, trivial⟩
                        ⟨fun ρz wz hE hA ⟨e4, _⟩ _ => core_val rfl rfl (o_fieldAddr (e4.trans h4) (fa_43_0 _ _)),
     fun ρz wz hE hA _ ⟨u0, _⟩ => core_val rfl rfl (o_load u0 (run_load1 (lr_3 _ _) (CA.sub ((Hb_b4_.exn (hA rfl)).ca) 0 1))),
     fun ρz wz hE hA _ ⟨u1, _⟩ => core_val rfl rfl (o_lss u1 rfl rfl),
     fun ρz wz hE hA _ ⟨u2, _⟩ => core_valE rfl rfl (congrArg Value.bool hd3) (o_move u2),
     fun ρz wz hE hA ⟨e4, _⟩ ⟨u3, _⟩ => gYes rfl u3 (core_val rfl rfl (o_fieldAddr (e4.trans h4) (fa_43_0 _ _))),
     fun ρz wz hE hA _ ⟨u3, u4, _⟩ => gYes rfl u3 (core_val rfl rfl (o_load u4 (run_load1 (lr_3 _ _) (CA.sub ((Hb_b4_.exn (hA rfl)).ca) 0 1)))),
     fun ρz wz hE hA _ ⟨u3, u5, _⟩ => gYes rfl u3 (core_val rfl rfl (o_geq u5 rfl rfl)),
     fun ρz wz hE hA _ ⟨u3, u6, _⟩ => core_val rfl rfl (o_pick_f u3 u6),
     fun ρz wz hE hA _ ⟨u7, _⟩ => core_valE rfl rfl (congrArg Value.bool hd8) (o_move u7),
     fun ρz wz hE hA ⟨e4, _⟩ ⟨u8, _⟩ => gYes rfl u8 (core_val rfl rfl (o_fieldAddr (e4.trans h4) (fa_43_1 _ _))),
     fun ρz wz hE hA _ ⟨u8, u9, _⟩ => gYes rfl u8 (core_val rfl rfl (o_load u9 (run_load1 (lr_3 _ _) (CA.sub ((Hb_b4_.exn (hA rfl)).ca) 1 1)))),
     fun ρz wz hE hA _ ⟨u8, u10, _⟩ => gYes rfl u8 (core_val rfl rfl (o_lss u10 rfl rfl)),
     fun ρz wz hE hA _ ⟨u8, u11, _⟩ => core_val rfl rfl (o_pick_f u8 u11),
     fun ρz wz hE hA _ ⟨u12, _⟩ => core_valE rfl rfl (congrArg Value.bool hd13) (o_move u12),
     fun ρz wz hE hA ⟨e4, _⟩ ⟨u13, _⟩ => gYes rfl u13 (core_val rfl rfl (o_fieldAddr (e4.trans h4) (fa_43_1 _ _))),
     fun ρz wz hE hA _ ⟨u13, u14, _⟩ => gYes rfl u13 (core_val rfl rfl (o_load u14 (run_load1 (lr_3 _ _) (CA.sub ((Hb_b4_.exn (hA rfl)).ca) 1 1)))),
     fun ρz wz hE hA _ ⟨u13, u15, _⟩ => gYes rfl u13 (core_val rfl rfl (o_gtr u15 rfl rfl)),
     fun ρz wz hE hA _ ⟨u13, u16, _⟩ => core_val rfl rfl (o_pick_f u13 u16),
     fun ρz wz hE hA _ ⟨u17, _⟩ => core_valE rfl rfl (congrArg Value.bool hd18) (o_move u17),
     fun ρz wz hE hA ⟨e4, _⟩ ⟨u18, _⟩ => gYes rfl u18 (core_val rfl rfl (o_fieldAddr (e4.trans h4) (fa_43_2 _ _))),
     fun ρz wz hE hA _ ⟨u18, u19, _⟩ => gYes rfl u18 (core_val rfl rfl (o_load u19 (run_load1 (lr_3 _ _) (CA.sub ((Hb_b4_.exn (hA rfl)).ca) 2 1)))),
     fun ρz wz hE hA _ ⟨u18, u20, _⟩ => gYes rfl u18 (core_val rfl rfl (o_lss u20 rfl rfl)),
     fun ρz wz hE hA _ ⟨u18, u21, _⟩ => core_val rfl rfl (o_pick_f u18 u21),
     fun ρz wz hE hA _ ⟨u22, _⟩ => core_valE rfl rfl (congrArg Value.bool hd23) (o_move u22),
     fun ρz wz hE hA ⟨e4, _⟩ ⟨u23, _⟩ => gYes rfl u23 (core_val rfl rfl (o_fieldAddr (e4.trans h4) (fa_43_2 _ _))),
     fun ρz wz hE hA _ ⟨u23, u24, _⟩ => gYes rfl u23 (core_val rfl rfl (o_load u24 (run_load1 (lr_3 _ _) (CA.sub ((Hb_b4_.exn (hA rfl)).ca) 2 1)))),
     fun ρz wz hE hA _ ⟨u23, u25, _⟩ => gYes rfl u23 (core_val rfl rfl (o_gtr u25 rfl rfl)),
     fun ρz wz hE hA _ ⟨u23, u26, _⟩ => core_val rfl rfl (o_pick_f u23 u26),
     fun ρz wz hE hA _ ⟨u27, _⟩ => core_valE rfl rfl (congrArg Value.bool hd28) (o_move u27),
     fun ρz wz hE hA ⟨e4, _⟩ ⟨u28, _⟩ => gYes rfl u28 (core_val rfl rfl (o_fieldAddr (e4.trans h4) (fa_43_3 _ _))),
     fun ρz wz hE hA _ ⟨u28, u29, _⟩ => gYes rfl u28 (core_val rfl rfl (o_load u29 (run_load1 (lr_3 _ _) (CA.sub ((Hb_b4_.exn (hA rfl)).ca) 3 1)))),
     fun ρz wz hE hA _ ⟨u28, u30, _⟩ => gYes rfl u28 (core_val rfl rfl (o_lss u30 rfl rfl)),
     fun ρz wz hE hA _ ⟨u28, u31, _⟩ => core_val rfl rfl (o_pick_f u28 u31),
     fun ρz wz hE hA _ ⟨u32, _⟩ => core_valE rfl rfl (congrArg Value.bool hd33) (o_move u32),
     fun ρz wz hE hA ⟨e4, _⟩ ⟨u33, _⟩ => gYes rfl u33 (core_val rfl rfl (o_fieldAddr (e4.trans h4) (fa_43_3 _ _))),
     fun ρz wz hE hA _ ⟨u33, u34, _⟩ => gYes rfl u33 (core_val rfl rfl (o_load u34 (run_load1 (lr_3 _ _) (CA.sub ((Hb_b4_.exn (hA rfl)).ca) 3 1)))),
     fun ρz wz hE hA _ ⟨u33, u35, _⟩ => gYes rfl u33 (core_val rfl rfl (o_gtr u35 rfl rfl)),
     fun ρz wz hE hA _ ⟨u33, u36, _⟩ => core_val rfl rfl (o_pick_f u33 u36), trivial⟩ ?_
                      intro ρ16 w16 hE hN hf hr
                      have hN := hN rfl
                      have h0 := (hr 0 rfl).trans h0
                      have h3 := (hr 3 rfl).trans h3
                      have h4 := (hr 4 rfl).trans h4
                      have h56 : ρ16 56 = .bool (decide (1000000000000 < y.Amount)) := hf 37 rfl
                      have Hb_b4_n := Hb_b4_.exn hN
                      have H_d__at0 := H_d_
                      have H_d_ := H_d_.exn hN
                      have hW := hW.trans hN
                      have Hb_b4_ := Hb_b4_n
                      have hsz := Nat.le_trans hsz hN.size
                      exact ⟨h0, h3, h4, (h56.trans (congrArg Value.bool (by simp [hd3, hd8, hd13, hd18, hd23, hd28, hd33]))), Hb_b4_, H_d_, hW, hsz⟩
      rintro ρ8 w8 ⟨h0, h3, h4, h56, Hb_b4_, H_d_, hW, hsz⟩
      refine WP.cond rfl h56 (fun hb => ?_) (fun hb => ?_)
      · have hF := (if_pos hb).symm.trans hF
        refine WP.seq ?_
        refine WP.region mixed [[]] [[]] [[]] [] []
          [val 2 (.bool false)] noG (by kernel_rfl)
          ⟨Stable.val _ _ _, trivial⟩
          ⟨fun ρz wz hE hA _ _ => core_val rfl rfl (o_assign rfl), trivial⟩ ?_
        intro ρ17 w17 hE hN hf hr
        have hN := hN rfl
        have h2 : ρ17 2 = .bool false := hf 0 rfl
        have hW := hW.trans hN
        have hsz := Nat.le_trans hsz hN.size
        refine WP.ret ?_
        show retQ Tryd.prog 70 Tryd.f18 (fun v w1 => v = .bool r ∧ Ext noG w0 w1) .ret ρ17 w17
        obtain rfl := Option.some.inj hF
        exact res1 rfl (by decide) h2 ⟨rfl, hW⟩
      · have hF := (if_neg (Bool.eq_false_iff.1 hb)).symm.trans hF
        refine WP.skip ?_
        refine WP.seq ?_
        refine WP.region mixed [[]] [[]] [[]] [] []
          [val 5 (.int .i64 0)] noG (by kernel_rfl)
          ⟨Stable.val _ _ _, trivial⟩
          ⟨fun ρz wz hE hA _ _ => core_val rfl rfl (o_assign rfl), trivial⟩ ?_
        intro ρ18 w18 hE hN hf hr
        have hN := hN rfl
        have h0 := (hr 0 rfl).trans h0
        have h3 := (hr 3 rfl).trans h3
        have h4 := (hr 4 rfl).trans h4
        have h5 : ρ18 5 = .int .i64 0 := hf 0 rfl
        have Hb_b4_n := Hb_b4_.exn hN
        have H_d__at0 := H_d_
        have H_d_ := H_d_.exn hN
        have hW := hW.trans hN
        have Hb_b4_ := Hb_b4_n
        have hsz := Nat.le_trans hsz hN.size
        refine WP.block ?_
        refine WP.loop (fun k_2 ρ w => ∃ x2 : Int, ρ 0 = v_d_ ∧ ρ 3 = .int .i64 x ∧ ρ 4 = .pointer (some ⟨b4_, 0, none⟩) ∧ ρ 5 = .int .i64 x2 ∧ Mb w b4_ 43 (Right.cells y) ∧ RepSl Right.R (gfr noG w0) w v_d_ d_ ∧ Ext noG w0 w ∧ w0.heap.size ≤ w.heap.size ∧ loopC k_2 (pensionref21_ValidRights_l2 d_ x rec_ y) x2 = some r) FU ⟨0, h0, h3, h4, h5, Hb_b4_, H_d_, hW, hsz, hF⟩ (fun _ _ h => by obtain ⟨_, _, _, _, _, _, _, _, _, h⟩ := h; cases h) ?_
        rintro k_2 ρ19 w19 ⟨x2, h0, h3, h4, h5, Hb_b4_, H_d_, hW, hsz, hF⟩
        have hF : pensionref21_ValidRights_l2 d_ x rec_ y (loopC k_2 (pensionref21_ValidRights_l2 d_ x rec_ y)) x2 = some r := hF
        generalize hrec_2 : loopC k_2 (pensionref21_ValidRights_l2 d_ x rec_ y) = rec_2 at hF
        rw [pensionref21_ValidRights_l2] at hF
        refine WP.seq ?_
        refine WP.seq ?_
        refine WP.region mixed [[], [], [0, 1]] [[], [], [0, 1]] [[5], [3], []] [] []
          [val 57 (.int .i64 x2), val 58 (.int .i64 x), val 59 (.bool (decide (x2 < x)))] noG (by kernel_rfl)
          ⟨Stable.val _ _ _, Stable.val _ _ _, Stable.val _ _ _, trivial⟩
          ⟨fun ρz wz hE hA ⟨e5, _⟩ _ => core_val rfl rfl (o_move (e5.trans h5)),
     fun ρz wz hE hA ⟨e3, _⟩ _ => core_val rfl rfl (o_move (e3.trans h3)),
     fun ρz wz hE hA _ ⟨u0, u1, _⟩ => core_val rfl rfl (o_lss u0 u1 rfl), trivial⟩ ?_
        intro ρ20 w20 hE hN hf hr
        have hN := hN rfl
        have h0 := (hr 0 rfl).trans h0
        have h3 := (hr 3 rfl).trans h3
        have h4 := (hr 4 rfl).trans h4
        have h5 := (hr 5 rfl).trans h5
        have h59 : ρ20 59 = .bool (decide (x2 < x)) := hf 2 rfl
        have Hb_b4_n := Hb_b4_.exn hN
        have H_d__at0 := H_d_
        have H_d_ := H_d_.exn hN
        have hW := hW.trans hN
        have Hb_b4_ := Hb_b4_n
        have hsz := Nat.le_trans hsz hN.size
        refine WP.cond rfl h59 (fun hb => ?_) (fun hb => ?_)
        · have hF := (if_pos hb).symm.trans hF
          refine WP.skip ?_
          refine WP.seq ?_
          refine WP.block ?_
          refine WP.seq ?_
          obtain ⟨y2, hy2, hF⟩ := obind hF
          obtain ⟨ay2, cy2, hvy2, hiy2, hAy2⟩ := RepSl.getF H_d_ hy2
          refine WP.region mixed [[], [], [0, 1], [2], [3], [], [5], [4, 6]] [[], [], [0, 1], [2], [3], [], [5], [4, 6]] [[0], [5], [], [], [], [4], [], []] [] []
            [val 62 (v_d_), val 63 (.int .i64 x2), val 64 (.pointer (some (ay2.add (Int.toNat x2 * 4)))), val 65 (.pointer (some ((ay2.add (Int.toNat x2 * 4)).add 0))), val 66 (.int .i64 y2.State), val 67 (.pointer (some ((⟨b4_, 0, none⟩ : Addr).add 0))), val 68 (.int .i64 y.State), val 69 (.bool (y2.State == y.State))] noG (by kernel_rfl)
            ⟨Stable.val _ _ _, Stable.val _ _ _, Stable.val _ _ _, Stable.val _ _ _, Stable.val _ _ _, Stable.val _ _ _, Stable.val _ _ _, Stable.val _ _ _, trivial⟩
            ⟨fun ρz wz hE hA ⟨e0, _⟩ _ => core_val rfl rfl (o_move (e0.trans h0)),
     fun ρz wz hE hA ⟨e5, _⟩ _ => core_val rfl rfl (o_move (e5.trans h5)),
     fun ρz wz hE hA _ ⟨u0, u1, _⟩ => core_val rfl rfl (o_indexAddr (u0.trans hvy2) u1 (ia_24 hiy2)),
     fun ρz wz hE hA _ ⟨u2, _⟩ => core_val rfl rfl (o_fieldAddr u2 (fa_43_0 _ _)),
     fun ρz wz hE hA _ ⟨u3, _⟩ => core_val rfl rfl (o_load u3 (run_load1 (lr_3 _ _) (CA.sub ((hAy2.exn (hA rfl)).ca) 0 1))),
     fun ρz wz hE hA ⟨e4, _⟩ _ => core_val rfl rfl (o_fieldAddr (e4.trans h4) (fa_43_0 _ _)),
     fun ρz wz hE hA _ ⟨u5, _⟩ => core_val rfl rfl (o_load u5 (run_load1 (lr_3 _ _) (CA.sub ((Hb_b4_.exn (hA rfl)).ca) 0 1))),
     fun ρz wz hE hA _ ⟨u4, u6, _⟩ => core_val rfl rfl (o_eql u4 u6 rfl), trivial⟩ ?_
          intro ρ21 w21 hE hN hf hr
          have hN := hN rfl
          have h0 := (hr 0 rfl).trans h0
          have h3 := (hr 3 rfl).trans h3
          have h4 := (hr 4 rfl).trans h4
          have h5 := (hr 5 rfl).trans h5
          have h69 : ρ21 69 = .bool (y2.State == y.State) := hf 7 rfl
          have Hb_b4_n := Hb_b4_.exn hN
          have H_d__at0 := H_d_
          have H_d_ := H_d_.exn hN
          have hW := hW.trans hN
          have Hb_b4_ := Hb_b4_n
          have hsz := Nat.le_trans hsz hN.size
          refine WP.cond rfl h69 (fun hb => ?_) (fun hb => ?_)
          · have hF := (if_pos hb).symm.trans hF
            refine WP.seq ?_
            refine WP.region mixed [[]] [[]] [[]] [] []
              [val 2 (.bool false)] noG (by kernel_rfl)
              ⟨Stable.val _ _ _, trivial⟩
              ⟨fun ρz wz hE hA _ _ => core_val rfl rfl (o_assign rfl), trivial⟩ ?_
            intro ρ22 w22 hE hN hf hr
            have hN := hN rfl
            have h2 : ρ22 2 = .bool false := hf 0 rfl
            have hW := hW.trans hN
            have hsz := Nat.le_trans hsz hN.size
            refine WP.ret ?_
            show retQ Tryd.prog 70 Tryd.f18 (fun v w1 => v = .bool r ∧ Ext noG w0 w1) .ret ρ22 w22
            obtain rfl := Option.some.inj hF
            exact res1 rfl (by decide) h2 ⟨rfl, hW⟩
          · have hF := (if_neg (Bool.eq_false_iff.1 hb)).symm.trans hF
            refine WP.skip ?_
            refine WP.region mixed [[], [0], [0, 1]] [[], [0], [1]] [[5], [], []] [] []
              [val 60 (.int .i64 x2), val 61 (.int .i64 (i64 (x2 + 1))), val 5 (.int .i64 (i64 (x2 + 1)))] noG (by kernel_rfl)
              ⟨Stable.val _ _ _, Stable.val _ _ _, Stable.val _ _ _, trivial⟩
              ⟨fun ρz wz hE hA ⟨e5, _⟩ _ => core_val rfl rfl (o_move (e5.trans h5)),
     fun ρz wz hE hA _ ⟨u0, _⟩ => core_val rfl rfl (o_add u0 rfl rfl),
     fun ρz wz hE hA _ ⟨u1, _⟩ => core_val rfl rfl (o_assign u1), trivial⟩ ?_
            intro ρ23 w23 hE hN hf hr
            have hN := hN rfl
            have h0 := (hr 0 rfl).trans h0
            have h3 := (hr 3 rfl).trans h3
            have h4 := (hr 4 rfl).trans h4
            have h5 : ρ23 5 = .int .i64 (i64 (x2 + 1)) := hf 2 rfl
            have Hb_b4_n := Hb_b4_.exn hN
            have H_d__at0 := H_d_
            have H_d_ := H_d_.exn hN
            have hW := hW.trans hN
            have Hb_b4_ := Hb_b4_n
            have hsz := Nat.le_trans hsz hN.size
            exact ⟨i64 (x2 + 1), h0, h3, h4, h5, Hb_b4_, H_d_, hW, hsz, (by first | exact hF | (rw [hrec_2]; exact hF))⟩
        · have hF := (if_neg (Bool.eq_false_iff.1 hb)).symm.trans hF
          refine WP.exit ?_
          refine thenQ_exit ?_
          refine thenQ_exit ?_
          refine blockQ_hit ?_
          refine WP.region mixed [[], [0], [0, 1]] [[], [0], [1]] [[3], [], []] [] []
            [val 13 (.int .i64 x), val 14 (.int .i64 (i64 (x + 1))), val 3 (.int .i64 (i64 (x + 1)))] noG (by kernel_rfl)
            ⟨Stable.val _ _ _, Stable.val _ _ _, Stable.val _ _ _, trivial⟩
            ⟨fun ρz wz hE hA ⟨e3, _⟩ _ => core_val rfl rfl (o_move (e3.trans h3)),
     fun ρz wz hE hA _ ⟨u0, _⟩ => core_val rfl rfl (o_add u0 rfl rfl),
     fun ρz wz hE hA _ ⟨u1, _⟩ => core_val rfl rfl (o_assign u1), trivial⟩ ?_
          intro ρ24 w24 hE hN hf hr
          have hN := hN rfl
          have h0 := (hr 0 rfl).trans h0
          have h3 : ρ24 3 = .int .i64 (i64 (x + 1)) := hf 2 rfl
          have H_d__at0 := H_d_
          have H_d_ := H_d_.exn hN
          have hW := hW.trans hN
          have hsz := Nat.le_trans hsz hN.size
          exact ⟨i64 (x + 1), h0, h3, H_d_, hW, hsz, (by first | exact hF | (rw [hrec_]; exact hF))⟩
    · have hF := (if_neg (Bool.eq_false_iff.1 hb)).symm.trans hF
      refine WP.exit ?_
      refine thenQ_exit ?_
      refine thenQ_exit ?_
      refine blockQ_hit ?_
      refine WP.seq ?_
      refine WP.region mixed [[]] [[]] [[]] [] []
        [val 2 (.bool true)] noG (by kernel_rfl)
        ⟨Stable.val _ _ _, trivial⟩
        ⟨fun ρz wz hE hA _ _ => core_val rfl rfl (o_assign rfl), trivial⟩ ?_
      intro ρ25 w25 hE hN hf hr
      have hN := hN rfl
      have h2 : ρ25 2 = .bool true := hf 0 rfl
      have hW := hW.trans hN
      have hsz := Nat.le_trans hsz hN.size
      refine WP.ret ?_
      show retQ Tryd.prog 70 Tryd.f18 (fun v w1 => v = .bool r ∧ Ext noG w0 w1) .ret ρ25 w25
      obtain rfl := Option.some.inj hF
      exact res1 rfl (by decide) h2 ⟨rfl, hW⟩

set_option maxHeartbeats 4000000 in
theorem pensionplain_Ints_ok {w0 : World} (a_ : List Int) (b_ : List Int) {v_a_ : Value} (H_a_ : RepSl intR noG w0 v_a_ a_) {v_b_ : Value} (H_b_ : RepSl intR noG w0 v_b_ b_) {r : Bool} (hF : pensionplain_Ints a_ b_ = some r) :
    Calls Tryd.prog 17 #[v_a_, v_b_] w0 fun e w1 => e = .returned (.bool r) ∧ Ext noG w0 w1 := by
  refine (Calls.start (P := Tryd.prog) (args := [v_a_, v_b_]) (R := fun v w1 => v = .bool r ∧ Ext noG w0 w1) (n := 26) (w := w0) Tryd.func17 rfl rfl (Nat.le_of_ble_eq_true rfl) (fun ρ hargs => ?_)).mono (fun e w1 ⟨v, he, hv, hE⟩ => ⟨hv ▸ he, hE⟩)
  have h0 := hargs 0 _ rfl
  have h1 := hargs 1 _ rfl
  have hW := Ext.refl noG w0
  have hsz := Nat.le_refl w0.heap.size
  obtain ⟨_, _, hs_H_a_, _, _⟩ := RepSl.shape H_a_
  have H_a_ := H_a_.start
  obtain ⟨_, _, hs_H_b_, _, _⟩ := RepSl.shape H_b_
  have H_b_ := H_b_.start
  rw [pensionplain_Ints] at hF
  refine WP.seq ?_
  refine WP.region mixed [[]] [[]] [[]] [] []
    [val 4 (.bool false)] noG (by kernel_rfl)
    ⟨Stable.val _ _ _, trivial⟩
    ⟨fun ρz wz hE hA _ _ => core_val rfl rfl (o_assign rfl), trivial⟩ ?_
  intro ρ1 w1 hE hN hf hr
  have hN := hN rfl
  have h0 := (hr 0 rfl).trans h0
  have h1 := (hr 1 rfl).trans h1
  have H_a__at0 := H_a_
  have H_a_ := H_a_.exn hN
  have H_b__at0 := H_b_
  have H_b_ := H_b_.exn hN
  have hW := hW.trans hN
  have hsz := Nat.le_trans hsz hN.size
  refine WP.seq ?_
  refine WP.seq ?_
  refine WP.region mixed [[], [0], [], [2], [1, 3]] [[], [0], [], [2], [1, 3]] [[0], [], [1], [], []] [] []
    [val 6 (v_a_), val 7 (.int .i64 (a_.length : Int)), val 8 (v_b_), val 9 (.int .i64 (b_.length : Int)), val 10 (.bool ((a_.length : Int) != (b_.length : Int)))] noG (by kernel_rfl)
    ⟨Stable.val _ _ _, Stable.val _ _ _, Stable.val _ _ _, Stable.val _ _ _, Stable.val _ _ _, trivial⟩
    ⟨fun ρz wz hE hA ⟨e0, _⟩ _ => core_val rfl rfl (o_move (e0.trans h0)),
     fun ρz wz hE hA _ ⟨u0, _⟩ => core_val rfl rfl (o_len (u0.trans hs_H_a_) len_23),
     fun ρz wz hE hA ⟨e1, _⟩ _ => core_val rfl rfl (o_move (e1.trans h1)),
     fun ρz wz hE hA _ ⟨u2, _⟩ => core_val rfl rfl (o_len (u2.trans hs_H_b_) len_23),
     fun ρz wz hE hA _ ⟨u1, u3, _⟩ => core_val rfl rfl (o_neq u1 u3 rfl), trivial⟩ ?_
  intro ρ2 w2 hE hN hf hr
  have hN := hN rfl
  have h0 := (hr 0 rfl).trans h0
  have h1 := (hr 1 rfl).trans h1
  have h10 : ρ2 10 = .bool ((a_.length : Int) != (b_.length : Int)) := hf 4 rfl
  have H_a__at0 := H_a_
  have H_a_ := H_a_.exn hN
  have H_b__at0 := H_b_
  have H_b_ := H_b_.exn hN
  have hW := hW.trans hN
  have hsz := Nat.le_trans hsz hN.size
  refine WP.cond rfl h10 (fun hb => ?_) (fun hb => ?_)
  · have hF := (if_pos hb).symm.trans hF
    refine WP.seq ?_
    refine WP.region mixed [[]] [[]] [[]] [] []
      [val 4 (.bool false)] noG (by kernel_rfl)
      ⟨Stable.val _ _ _, trivial⟩
      ⟨fun ρz wz hE hA _ _ => core_val rfl rfl (o_assign rfl), trivial⟩ ?_
    intro ρ3 w3 hE hN hf hr
    have hN := hN rfl
    have h4 : ρ3 4 = .bool false := hf 0 rfl
    have hW := hW.trans hN
    have hsz := Nat.le_trans hsz hN.size
    refine WP.ret ?_
    show retQ Tryd.prog 26 Tryd.f17 (fun v w1 => v = .bool r ∧ Ext noG w0 w1) .ret ρ3 w3
    obtain rfl := Option.some.inj hF
    exact res1 rfl (by decide) h4 ⟨rfl, hW⟩
  · have hF := (if_neg (Bool.eq_false_iff.1 hb)).symm.trans hF
    refine WP.skip ?_
    refine WP.seq ?_
    refine WP.seq ?_
    refine WP.region mixed [[]] [[]] [[]] [] []
      [val 5 (.int .i64 0)] noG (by kernel_rfl)
      ⟨Stable.val _ _ _, trivial⟩
      ⟨fun ρz wz hE hA _ _ => core_val rfl rfl (o_assign rfl), trivial⟩ ?_
    intro ρ4 w4 hE hN hf hr
    have hN := hN rfl
    have h0 := (hr 0 rfl).trans h0
    have h1 := (hr 1 rfl).trans h1
    have h5 : ρ4 5 = .int .i64 0 := hf 0 rfl
    have H_a__at0 := H_a_
    have H_a_ := H_a_.exn hN
    have H_b__at0 := H_b_
    have H_b_ := H_b_.exn hN
    have hW := hW.trans hN
    have hsz := Nat.le_trans hsz hN.size
    refine WP.block ?_
    refine WP.loop (fun k_ ρ w => ∃ i_ : Int, ρ 0 = v_a_ ∧ ρ 1 = v_b_ ∧ ρ 5 = .int .i64 i_ ∧ RepSl intR (gfr noG w0) w v_a_ a_ ∧ RepSl intR (gfr noG w0) w v_b_ b_ ∧ Ext noG w0 w ∧ w0.heap.size ≤ w.heap.size ∧ loopC k_ (pensionplain_Ints_l a_ b_) i_ = some r) FU ⟨0, h0, h1, h5, H_a_, H_b_, hW, hsz, hF⟩ (fun _ _ h => by obtain ⟨_, _, _, _, _, _, _, _, h⟩ := h; cases h) ?_
    rintro k_ ρ5 w5 ⟨i_, h0, h1, h5, H_a_, H_b_, hW, hsz, hF⟩
    have hF : pensionplain_Ints_l a_ b_ (loopC k_ (pensionplain_Ints_l a_ b_)) i_ = some r := hF
    generalize hrec_ : loopC k_ (pensionplain_Ints_l a_ b_) = rec_ at hF
    rw [pensionplain_Ints_l] at hF
    refine WP.seq ?_
    refine WP.seq ?_
    refine WP.region mixed [[], [], [1], [0, 2]] [[], [], [1], [0, 2]] [[5], [0], [], []] [] []
      [val 11 (.int .i64 i_), val 12 (v_a_), val 13 (.int .i64 (a_.length : Int)), val 14 (.bool (decide (i_ < (a_.length : Int))))] noG (by kernel_rfl)
      ⟨Stable.val _ _ _, Stable.val _ _ _, Stable.val _ _ _, Stable.val _ _ _, trivial⟩
      ⟨fun ρz wz hE hA ⟨e5, _⟩ _ => core_val rfl rfl (o_move (e5.trans h5)),
     fun ρz wz hE hA ⟨e0, _⟩ _ => core_val rfl rfl (o_move (e0.trans h0)),
     fun ρz wz hE hA _ ⟨u1, _⟩ => core_val rfl rfl (o_len (u1.trans hs_H_a_) len_23),
     fun ρz wz hE hA _ ⟨u0, u2, _⟩ => core_val rfl rfl (o_lss u0 u2 rfl), trivial⟩ ?_
    intro ρ6 w6 hE hN hf hr
    have hN := hN rfl
    have h0 := (hr 0 rfl).trans h0
    have h1 := (hr 1 rfl).trans h1
    have h5 := (hr 5 rfl).trans h5
    have h14 : ρ6 14 = .bool (decide (i_ < (a_.length : Int))) := hf 3 rfl
    have H_a__at0 := H_a_
    have H_a_ := H_a_.exn hN
    have H_b__at0 := H_b_
    have H_b_ := H_b_.exn hN
    have hW := hW.trans hN
    have hsz := Nat.le_trans hsz hN.size
    refine WP.cond rfl h14 (fun hb => ?_) (fun hb => ?_)
    · have hF := (if_pos hb).symm.trans hF
      refine WP.skip ?_
      refine WP.seq ?_
      refine WP.block ?_
      refine WP.seq ?_
      obtain ⟨y, hy, hF⟩ := obind hF
      obtain ⟨ay, cy, hvy, hiy, hAy⟩ := RepSl.getF H_a_ hy
      obtain ⟨y2, hy2, hF⟩ := obind hF
      obtain ⟨ay2, cy2, hvy2, hiy2, hAy2⟩ := RepSl.getF H_b_ hy2
      refine WP.region mixed [[], [], [0, 1], [2], [], [], [4, 5], [6], [3, 7]] [[], [], [0, 1], [2], [], [], [4, 5], [6], [3, 7]] [[0], [5], [], [], [1], [5], [], [], []] [] []
        [val 17 (v_a_), val 18 (.int .i64 i_), val 19 (.pointer (some (ay.add (Int.toNat i_ * 1)))), val 20 (.int .i64 y), val 21 (v_b_), val 22 (.int .i64 i_), val 23 (.pointer (some (ay2.add (Int.toNat i_ * 1)))), val 24 (.int .i64 y2), val 25 (.bool (y != y2))] noG (by kernel_rfl)
        ⟨Stable.val _ _ _, Stable.val _ _ _, Stable.val _ _ _, Stable.val _ _ _, Stable.val _ _ _, Stable.val _ _ _, Stable.val _ _ _, Stable.val _ _ _, Stable.val _ _ _, trivial⟩
        ⟨fun ρz wz hE hA ⟨e0, _⟩ _ => core_val rfl rfl (o_move (e0.trans h0)),
     fun ρz wz hE hA ⟨e5, _⟩ _ => core_val rfl rfl (o_move (e5.trans h5)),
     fun ρz wz hE hA _ ⟨u0, u1, _⟩ => core_val rfl rfl (o_indexAddr (u0.trans hvy) u1 (ia_23 hiy)),
     fun ρz wz hE hA _ ⟨u2, _⟩ => core_val rfl rfl (o_load u2 (run_load1 (lr_3 _ _) ((hAy.exn (hA rfl)).ca))),
     fun ρz wz hE hA ⟨e1, _⟩ _ => core_val rfl rfl (o_move (e1.trans h1)),
     fun ρz wz hE hA ⟨e5, _⟩ _ => core_val rfl rfl (o_move (e5.trans h5)),
     fun ρz wz hE hA _ ⟨u4, u5, _⟩ => core_val rfl rfl (o_indexAddr (u4.trans hvy2) u5 (ia_23 hiy2)),
     fun ρz wz hE hA _ ⟨u6, _⟩ => core_val rfl rfl (o_load u6 (run_load1 (lr_3 _ _) ((hAy2.exn (hA rfl)).ca))),
     fun ρz wz hE hA _ ⟨u3, u7, _⟩ => core_val rfl rfl (o_neq u3 u7 rfl), trivial⟩ ?_
      intro ρ7 w7 hE hN hf hr
      have hN := hN rfl
      have h0 := (hr 0 rfl).trans h0
      have h1 := (hr 1 rfl).trans h1
      have h5 := (hr 5 rfl).trans h5
      have h25 : ρ7 25 = .bool (y != y2) := hf 8 rfl
      have H_a__at0 := H_a_
      have H_a_ := H_a_.exn hN
      have H_b__at0 := H_b_
      have H_b_ := H_b_.exn hN
      have hW := hW.trans hN
      have hsz := Nat.le_trans hsz hN.size
      refine WP.cond rfl h25 (fun hb => ?_) (fun hb => ?_)
      · have hF := (if_pos hb).symm.trans hF
        refine WP.seq ?_
        refine WP.region mixed [[]] [[]] [[]] [] []
          [val 4 (.bool false)] noG (by kernel_rfl)
          ⟨Stable.val _ _ _, trivial⟩
          ⟨fun ρz wz hE hA _ _ => core_val rfl rfl (o_assign rfl), trivial⟩ ?_
        intro ρ8 w8 hE hN hf hr
        have hN := hN rfl
        have h4 : ρ8 4 = .bool false := hf 0 rfl
        have hW := hW.trans hN
        have hsz := Nat.le_trans hsz hN.size
        refine WP.ret ?_
        show retQ Tryd.prog 26 Tryd.f17 (fun v w1 => v = .bool r ∧ Ext noG w0 w1) .ret ρ8 w8
        obtain rfl := Option.some.inj hF
        exact res1 rfl (by decide) h4 ⟨rfl, hW⟩
      · have hF := (if_neg (Bool.eq_false_iff.1 hb)).symm.trans hF
        refine WP.skip ?_
        refine WP.region mixed [[], [0], [0, 1]] [[], [0], [1]] [[5], [], []] [] []
          [val 15 (.int .i64 i_), val 16 (.int .i64 (i64 (i_ + 1))), val 5 (.int .i64 (i64 (i_ + 1)))] noG (by kernel_rfl)
          ⟨Stable.val _ _ _, Stable.val _ _ _, Stable.val _ _ _, trivial⟩
          ⟨fun ρz wz hE hA ⟨e5, _⟩ _ => core_val rfl rfl (o_move (e5.trans h5)),
     fun ρz wz hE hA _ ⟨u0, _⟩ => core_val rfl rfl (o_add u0 rfl rfl),
     fun ρz wz hE hA _ ⟨u1, _⟩ => core_val rfl rfl (o_assign u1), trivial⟩ ?_
        intro ρ9 w9 hE hN hf hr
        have hN := hN rfl
        have h0 := (hr 0 rfl).trans h0
        have h1 := (hr 1 rfl).trans h1
        have h5 : ρ9 5 = .int .i64 (i64 (i_ + 1)) := hf 2 rfl
        have H_a__at0 := H_a_
        have H_a_ := H_a_.exn hN
        have H_b__at0 := H_b_
        have H_b_ := H_b_.exn hN
        have hW := hW.trans hN
        have hsz := Nat.le_trans hsz hN.size
        exact ⟨i64 (i_ + 1), h0, h1, h5, H_a_, H_b_, hW, hsz, (by first | exact hF | (rw [hrec_]; exact hF))⟩
    · have hF := (if_neg (Bool.eq_false_iff.1 hb)).symm.trans hF
      refine WP.exit ?_
      refine thenQ_exit ?_
      refine thenQ_exit ?_
      refine blockQ_hit ?_
      refine WP.seq ?_
      refine WP.region mixed [[]] [[]] [[]] [] []
        [val 4 (.bool true)] noG (by kernel_rfl)
        ⟨Stable.val _ _ _, trivial⟩
        ⟨fun ρz wz hE hA _ _ => core_val rfl rfl (o_assign rfl), trivial⟩ ?_
      intro ρ10 w10 hE hN hf hr
      have hN := hN rfl
      have h4 : ρ10 4 = .bool true := hf 0 rfl
      have hW := hW.trans hN
      have hsz := Nat.le_trans hsz hN.size
      refine WP.ret ?_
      show retQ Tryd.prog 26 Tryd.f17 (fun v w1 => v = .bool r ∧ Ext noG w0 w1) .ret ρ10 w10
      obtain rfl := Option.some.inj hF
      exact res1 rfl (by decide) h4 ⟨rfl, hW⟩

set_option maxHeartbeats 4000000 in
theorem cmp_isNaN_of_int_ok {w0 : World} (x_ : Int) {r : Bool} (hF : cmp_isNaN_of_int x_ = some r) :
    Calls Tryd.prog 49 #[.int .i64 x_] w0 fun e w1 => e = .returned (.bool r) ∧ Ext noG w0 w1 := by
  refine (Calls.start (P := Tryd.prog) (args := [.int .i64 x_]) (R := fun v w1 => v = .bool r ∧ Ext noG w0 w1) (n := 6) (w := w0) Tryd.func49 rfl rfl (Nat.le_of_ble_eq_true rfl) (fun ρ hargs => ?_)).mono (fun e w1 ⟨v, he, hv, hE⟩ => ⟨hv ▸ he, hE⟩)
  have h0 := hargs 0 _ rfl
  have hW := Ext.refl noG w0
  have hsz := Nat.le_refl w0.heap.size
  rw [cmp_isNaN_of_int] at hF
  refine WP.seq ?_
  refine WP.region mixed [[]] [[]] [[]] [] []
    [val 2 (.bool false)] noG (by kernel_rfl)
    ⟨Stable.val _ _ _, trivial⟩
    ⟨fun ρz wz hE hA _ _ => core_val rfl rfl (o_assign rfl), trivial⟩ ?_
  intro ρ1 w1 hE hN hf hr
  have hN := hN rfl
  have h0 := (hr 0 rfl).trans h0
  have hW := hW.trans hN
  have hsz := Nat.le_trans hsz hN.size
  refine WP.seq ?_
  refine WP.region mixed [[], [], [0, 1], [2]] [[], [], [0, 1], [2]] [[0], [0], [], []] [] []
    [val 3 (.int .i64 x_), val 4 (.int .i64 x_), val 5 (.bool (x_ != x_)), val 2 (.bool (x_ != x_))] noG (by kernel_rfl)
    ⟨Stable.val _ _ _, Stable.val _ _ _, Stable.val _ _ _, Stable.val _ _ _, trivial⟩
    ⟨fun ρz wz hE hA ⟨e0, _⟩ _ => core_val rfl rfl (o_move (e0.trans h0)),
     fun ρz wz hE hA ⟨e0, _⟩ _ => core_val rfl rfl (o_move (e0.trans h0)),
     fun ρz wz hE hA _ ⟨u0, u1, _⟩ => core_val rfl rfl (o_neq u0 u1 rfl),
     fun ρz wz hE hA _ ⟨u2, _⟩ => core_val rfl rfl (o_assign u2), trivial⟩ ?_
  intro ρ2 w2 hE hN hf hr
  have hN := hN rfl
  have h2 : ρ2 2 = .bool (x_ != x_) := hf 3 rfl
  have hW := hW.trans hN
  have hsz := Nat.le_trans hsz hN.size
  refine WP.ret ?_
  show retQ Tryd.prog 6 Tryd.f49 (fun v w1 => v = .bool r ∧ Ext noG w0 w1) .ret ρ2 w2
  obtain rfl := Option.some.inj hF
  exact res1 rfl (by decide) h2 ⟨rfl, hW⟩

set_option maxHeartbeats 4000000 in
theorem cmp_isNaN_of_uint64_ok {w0 : World} (x_ : Int) {r : Bool} (hF : cmp_isNaN_of_uint64 x_ = some r) :
    Calls Tryd.prog 80 #[.int .u64 x_] w0 fun e w1 => e = .returned (.bool r) ∧ Ext noG w0 w1 := by
  refine (Calls.start (P := Tryd.prog) (args := [.int .u64 x_]) (R := fun v w1 => v = .bool r ∧ Ext noG w0 w1) (n := 6) (w := w0) Tryd.func80 rfl rfl (Nat.le_of_ble_eq_true rfl) (fun ρ hargs => ?_)).mono (fun e w1 ⟨v, he, hv, hE⟩ => ⟨hv ▸ he, hE⟩)
  have h0 := hargs 0 _ rfl
  have hW := Ext.refl noG w0
  have hsz := Nat.le_refl w0.heap.size
  rw [cmp_isNaN_of_uint64] at hF
  refine WP.seq ?_
  refine WP.region mixed [[]] [[]] [[]] [] []
    [val 2 (.bool false)] noG (by kernel_rfl)
    ⟨Stable.val _ _ _, trivial⟩
    ⟨fun ρz wz hE hA _ _ => core_val rfl rfl (o_assign rfl), trivial⟩ ?_
  intro ρ1 w1 hE hN hf hr
  have hN := hN rfl
  have h0 := (hr 0 rfl).trans h0
  have hW := hW.trans hN
  have hsz := Nat.le_trans hsz hN.size
  refine WP.seq ?_
  refine WP.region mixed [[], [], [0, 1], [2]] [[], [], [0, 1], [2]] [[0], [0], [], []] [] []
    [val 3 (.int .u64 x_), val 4 (.int .u64 x_), val 5 (.bool (x_ != x_)), val 2 (.bool (x_ != x_))] noG (by kernel_rfl)
    ⟨Stable.val _ _ _, Stable.val _ _ _, Stable.val _ _ _, Stable.val _ _ _, trivial⟩
    ⟨fun ρz wz hE hA ⟨e0, _⟩ _ => core_val rfl rfl (o_move (e0.trans h0)),
     fun ρz wz hE hA ⟨e0, _⟩ _ => core_val rfl rfl (o_move (e0.trans h0)),
     fun ρz wz hE hA _ ⟨u0, u1, _⟩ => core_val rfl rfl (o_neq u0 u1 rfl),
     fun ρz wz hE hA _ ⟨u2, _⟩ => core_val rfl rfl (o_assign u2), trivial⟩ ?_
  intro ρ2 w2 hE hN hf hr
  have hN := hN rfl
  have h2 : ρ2 2 = .bool (x_ != x_) := hf 3 rfl
  have hW := hW.trans hN
  have hsz := Nat.le_trans hsz hN.size
  refine WP.ret ?_
  show retQ Tryd.prog 6 Tryd.f80 (fun v w1 => v = .bool r ∧ Ext noG w0 w1) .ret ρ2 w2
  obtain rfl := Option.some.inj hF
  exact res1 rfl (by decide) h2 ⟨rfl, hW⟩

set_option maxHeartbeats 4000000 in
theorem cmp_Compare_of_int_ok {w0 : World} (x_ : Int) (y_ : Int) {r : Int} (hF : cmp_Compare_of_int x_ y_ = some r) :
    Calls Tryd.prog 32 #[.int .i64 x_, .int .i64 y_] w0 fun e w1 => e = .returned (.int .i64 r) ∧ Ext noG w0 w1 := by
  refine (Calls.start (P := Tryd.prog) (args := [.int .i64 x_, .int .i64 y_]) (R := fun v w1 => v = .int .i64 r ∧ Ext noG w0 w1) (n := 20) (w := w0) Tryd.func32 rfl rfl (Nat.le_of_ble_eq_true rfl) (fun ρ hargs => ?_)).mono (fun e w1 ⟨v, he, hv, hE⟩ => ⟨hv ▸ he, hE⟩)
  have h0 := hargs 0 _ rfl
  have h1 := hargs 1 _ rfl
  have hW := Ext.refl noG w0
  have hsz := Nat.le_refl w0.heap.size
  rw [cmp_Compare_of_int] at hF
  refine WP.seq ?_
  refine WP.region mixed [[]] [[]] [[]] [] []
    [val 4 (.int .i64 0)] noG (by kernel_rfl)
    ⟨Stable.val _ _ _, trivial⟩
    ⟨fun ρz wz hE hA _ _ => core_val rfl rfl (o_assign rfl), trivial⟩ ?_
  intro ρ1 w1 hE hN hf hr
  have hN := hN rfl
  have h0 := (hr 0 rfl).trans h0
  have h1 := (hr 1 rfl).trans h1
  have hW := hW.trans hN
  have hsz := Nat.le_trans hsz hN.size
  refine WP.seq ?_
  obtain ⟨z, hz, hF⟩ := obind hF
  refine WP.region mixed [[], [0], [1]] [[], [0], [1]] [[0], [], []] [] []
    [val 7 (.int .i64 x_), val 8 (.bool z), val 5 (.bool z)] noG (by kernel_rfl)
    ⟨Stable.val _ _ _, Stable.val _ _ _, Stable.val _ _ _, trivial⟩
    ⟨fun ρz wz hE hA ⟨e0, _⟩ _ => core_val rfl rfl (o_move (e0.trans h0)),
     fun ρz wz hE hA _ ⟨u0, _⟩ => core_call rfl (call_args1 u0) cf_49 (cmp_isNaN_of_int_ok  _  hz),
     fun ρz wz hE hA _ ⟨u1, _⟩ => core_val rfl rfl (o_assign u1), trivial⟩ ?_
  intro ρ2 w2 hE hN hf hr
  have hN := hN rfl
  have h0 := (hr 0 rfl).trans h0
  have h1 := (hr 1 rfl).trans h1
  have h5 : ρ2 5 = .bool z := hf 2 rfl
  have hW := hW.trans hN
  have hsz := Nat.le_trans hsz hN.size
  refine WP.seq ?_
  obtain ⟨z2, hz2, hF⟩ := obind hF
  refine WP.region mixed [[], [0], [1]] [[], [0], [1]] [[1], [], []] [] []
    [val 9 (.int .i64 y_), val 10 (.bool z2), val 6 (.bool z2)] noG (by kernel_rfl)
    ⟨Stable.val _ _ _, Stable.val _ _ _, Stable.val _ _ _, trivial⟩
    ⟨fun ρz wz hE hA ⟨e1, _⟩ _ => core_val rfl rfl (o_move (e1.trans h1)),
     fun ρz wz hE hA _ ⟨u0, _⟩ => core_call rfl (call_args1 u0) cf_49 (cmp_isNaN_of_int_ok  _  hz2),
     fun ρz wz hE hA _ ⟨u1, _⟩ => core_val rfl rfl (o_assign u1), trivial⟩ ?_
  intro ρ3 w3 hE hN hf hr
  have hN := hN rfl
  have h0 := (hr 0 rfl).trans h0
  have h1 := (hr 1 rfl).trans h1
  have h5 := (hr 5 rfl).trans h5
  have h6 : ρ3 6 = .bool z2 := hf 2 rfl
  have hW := hW.trans hN
  have hsz := Nat.le_trans hsz hN.size
  refine WP.seq ?_
  refine WP.seq ?_
  refine WP.region mixed [[]] [[]] [[5]] [] []
    [val 11 (.bool z)] noG (by kernel_rfl)
    ⟨Stable.val _ _ _, trivial⟩
    ⟨fun ρz wz hE hA ⟨e5, _⟩ _ => core_val rfl rfl (o_move (e5.trans h5)), trivial⟩ ?_
  intro ρ4 w4 hE hN hf hr
  have hN := hN rfl
  have h0 := (hr 0 rfl).trans h0
  have h1 := (hr 1 rfl).trans h1
  have h6 := (hr 6 rfl).trans h6
  have h11 : ρ4 11 = .bool z := hf 0 rfl
  have hW := hW.trans hN
  have hsz := Nat.le_trans hsz hN.size
  refine WP.cond rfl h11 (fun hb => ?_) (fun hb => ?_)
  · have hF := (if_pos hb).symm.trans hF
    refine WP.seq ?_
    refine WP.seq ?_
    refine WP.region mixed [[]] [[]] [[6]] [] []
      [val 12 (.bool z2)] noG (by kernel_rfl)
      ⟨Stable.val _ _ _, trivial⟩
      ⟨fun ρz wz hE hA ⟨e6, _⟩ _ => core_val rfl rfl (o_move (e6.trans h6)), trivial⟩ ?_
    intro ρ5 w5 hE hN hf hr
    have hN := hN rfl
    have h12 : ρ5 12 = .bool z2 := hf 0 rfl
    have hW := hW.trans hN
    have hsz := Nat.le_trans hsz hN.size
    refine WP.cond rfl h12 (fun hb => ?_) (fun hb => ?_)
    · have hF := (if_pos hb).symm.trans hF
      refine WP.seq ?_
      refine WP.region mixed [[]] [[]] [[]] [] []
        [val 4 (.int .i64 0)] noG (by kernel_rfl)
        ⟨Stable.val _ _ _, trivial⟩
        ⟨fun ρz wz hE hA _ _ => core_val rfl rfl (o_assign rfl), trivial⟩ ?_
      intro ρ6 w6 hE hN hf hr
      have hN := hN rfl
      have h4 : ρ6 4 = .int .i64 0 := hf 0 rfl
      have hW := hW.trans hN
      have hsz := Nat.le_trans hsz hN.size
      refine WP.ret ?_
      show retQ Tryd.prog 20 Tryd.f32 (fun v w1 => v = .int .i64 r ∧ Ext noG w0 w1) .ret ρ6 w6
      obtain rfl := Option.some.inj hF
      exact res1 rfl (by decide) h4 ⟨rfl, hW⟩
    · have hF := (if_neg (Bool.eq_false_iff.1 hb)).symm.trans hF
      refine WP.skip ?_
      refine WP.seq ?_
      refine WP.region mixed [[]] [[]] [[]] [] []
        [val 4 (.int .i64 (-1))] noG (by kernel_rfl)
        ⟨Stable.val _ _ _, trivial⟩
        ⟨fun ρz wz hE hA _ _ => core_val rfl rfl (o_assign rfl), trivial⟩ ?_
      intro ρ7 w7 hE hN hf hr
      have hN := hN rfl
      have h4 : ρ7 4 = .int .i64 (-1) := hf 0 rfl
      have hW := hW.trans hN
      have hsz := Nat.le_trans hsz hN.size
      refine WP.ret ?_
      show retQ Tryd.prog 20 Tryd.f32 (fun v w1 => v = .int .i64 r ∧ Ext noG w0 w1) .ret ρ7 w7
      obtain rfl := Option.some.inj hF
      exact res1 rfl (by decide) h4 ⟨rfl, hW⟩
  · have hF := (if_neg (Bool.eq_false_iff.1 hb)).symm.trans hF
    refine WP.skip ?_
    refine WP.seq ?_
    refine WP.seq ?_
    refine WP.region mixed [[]] [[]] [[6]] [] []
      [val 13 (.bool z2)] noG (by kernel_rfl)
      ⟨Stable.val _ _ _, trivial⟩
      ⟨fun ρz wz hE hA ⟨e6, _⟩ _ => core_val rfl rfl (o_move (e6.trans h6)), trivial⟩ ?_
    intro ρ8 w8 hE hN hf hr
    have hN := hN rfl
    have h0 := (hr 0 rfl).trans h0
    have h1 := (hr 1 rfl).trans h1
    have h13 : ρ8 13 = .bool z2 := hf 0 rfl
    have hW := hW.trans hN
    have hsz := Nat.le_trans hsz hN.size
    refine WP.cond rfl h13 (fun hb => ?_) (fun hb => ?_)
    · have hF := (if_pos hb).symm.trans hF
      refine WP.seq ?_
      refine WP.region mixed [[]] [[]] [[]] [] []
        [val 4 (.int .i64 1)] noG (by kernel_rfl)
        ⟨Stable.val _ _ _, trivial⟩
        ⟨fun ρz wz hE hA _ _ => core_val rfl rfl (o_assign rfl), trivial⟩ ?_
      intro ρ9 w9 hE hN hf hr
      have hN := hN rfl
      have h4 : ρ9 4 = .int .i64 1 := hf 0 rfl
      have hW := hW.trans hN
      have hsz := Nat.le_trans hsz hN.size
      refine WP.ret ?_
      show retQ Tryd.prog 20 Tryd.f32 (fun v w1 => v = .int .i64 r ∧ Ext noG w0 w1) .ret ρ9 w9
      obtain rfl := Option.some.inj hF
      exact res1 rfl (by decide) h4 ⟨rfl, hW⟩
    · have hF := (if_neg (Bool.eq_false_iff.1 hb)).symm.trans hF
      refine WP.skip ?_
      refine WP.seq ?_
      refine WP.seq ?_
      refine WP.region mixed [[], [], [0, 1]] [[], [], [0, 1]] [[0], [1], []] [] []
        [val 14 (.int .i64 x_), val 15 (.int .i64 y_), val 16 (.bool (decide (x_ < y_)))] noG (by kernel_rfl)
        ⟨Stable.val _ _ _, Stable.val _ _ _, Stable.val _ _ _, trivial⟩
        ⟨fun ρz wz hE hA ⟨e0, _⟩ _ => core_val rfl rfl (o_move (e0.trans h0)),
     fun ρz wz hE hA ⟨e1, _⟩ _ => core_val rfl rfl (o_move (e1.trans h1)),
     fun ρz wz hE hA _ ⟨u0, u1, _⟩ => core_val rfl rfl (o_lss u0 u1 rfl), trivial⟩ ?_
      intro ρ10 w10 hE hN hf hr
      have hN := hN rfl
      have h0 := (hr 0 rfl).trans h0
      have h1 := (hr 1 rfl).trans h1
      have h16 : ρ10 16 = .bool (decide (x_ < y_)) := hf 2 rfl
      have hW := hW.trans hN
      have hsz := Nat.le_trans hsz hN.size
      refine WP.cond rfl h16 (fun hb => ?_) (fun hb => ?_)
      · have hF := (if_pos hb).symm.trans hF
        refine WP.seq ?_
        refine WP.region mixed [[]] [[]] [[]] [] []
          [val 4 (.int .i64 (-1))] noG (by kernel_rfl)
          ⟨Stable.val _ _ _, trivial⟩
          ⟨fun ρz wz hE hA _ _ => core_val rfl rfl (o_assign rfl), trivial⟩ ?_
        intro ρ11 w11 hE hN hf hr
        have hN := hN rfl
        have h4 : ρ11 4 = .int .i64 (-1) := hf 0 rfl
        have hW := hW.trans hN
        have hsz := Nat.le_trans hsz hN.size
        refine WP.ret ?_
        show retQ Tryd.prog 20 Tryd.f32 (fun v w1 => v = .int .i64 r ∧ Ext noG w0 w1) .ret ρ11 w11
        obtain rfl := Option.some.inj hF
        exact res1 rfl (by decide) h4 ⟨rfl, hW⟩
      · have hF := (if_neg (Bool.eq_false_iff.1 hb)).symm.trans hF
        refine WP.skip ?_
        refine WP.seq ?_
        refine WP.seq ?_
        refine WP.region mixed [[], [], [0, 1]] [[], [], [0, 1]] [[0], [1], []] [] []
          [val 17 (.int .i64 x_), val 18 (.int .i64 y_), val 19 (.bool (decide (y_ < x_)))] noG (by kernel_rfl)
          ⟨Stable.val _ _ _, Stable.val _ _ _, Stable.val _ _ _, trivial⟩
          ⟨fun ρz wz hE hA ⟨e0, _⟩ _ => core_val rfl rfl (o_move (e0.trans h0)),
     fun ρz wz hE hA ⟨e1, _⟩ _ => core_val rfl rfl (o_move (e1.trans h1)),
     fun ρz wz hE hA _ ⟨u0, u1, _⟩ => core_val rfl rfl (o_gtr u0 u1 rfl), trivial⟩ ?_
        intro ρ12 w12 hE hN hf hr
        have hN := hN rfl
        have h19 : ρ12 19 = .bool (decide (y_ < x_)) := hf 2 rfl
        have hW := hW.trans hN
        have hsz := Nat.le_trans hsz hN.size
        refine WP.cond rfl h19 (fun hb => ?_) (fun hb => ?_)
        · have hF := (if_pos hb).symm.trans hF
          refine WP.seq ?_
          refine WP.region mixed [[]] [[]] [[]] [] []
            [val 4 (.int .i64 1)] noG (by kernel_rfl)
            ⟨Stable.val _ _ _, trivial⟩
            ⟨fun ρz wz hE hA _ _ => core_val rfl rfl (o_assign rfl), trivial⟩ ?_
          intro ρ13 w13 hE hN hf hr
          have hN := hN rfl
          have h4 : ρ13 4 = .int .i64 1 := hf 0 rfl
          have hW := hW.trans hN
          have hsz := Nat.le_trans hsz hN.size
          refine WP.ret ?_
          show retQ Tryd.prog 20 Tryd.f32 (fun v w1 => v = .int .i64 r ∧ Ext noG w0 w1) .ret ρ13 w13
          obtain rfl := Option.some.inj hF
          exact res1 rfl (by decide) h4 ⟨rfl, hW⟩
        · have hF := (if_neg (Bool.eq_false_iff.1 hb)).symm.trans hF
          refine WP.skip ?_
          refine WP.seq ?_
          refine WP.region mixed [[]] [[]] [[]] [] []
            [val 4 (.int .i64 0)] noG (by kernel_rfl)
            ⟨Stable.val _ _ _, trivial⟩
            ⟨fun ρz wz hE hA _ _ => core_val rfl rfl (o_assign rfl), trivial⟩ ?_
          intro ρ14 w14 hE hN hf hr
          have hN := hN rfl
          have h4 : ρ14 4 = .int .i64 0 := hf 0 rfl
          have hW := hW.trans hN
          have hsz := Nat.le_trans hsz hN.size
          refine WP.ret ?_
          show retQ Tryd.prog 20 Tryd.f32 (fun v w1 => v = .int .i64 r ∧ Ext noG w0 w1) .ret ρ14 w14
          obtain rfl := Option.some.inj hF
          exact res1 rfl (by decide) h4 ⟨rfl, hW⟩

set_option maxHeartbeats 4000000 in
theorem cmp_Compare_of_uint64_ok {w0 : World} (x_ : Int) (y_ : Int) {r : Int} (hF : cmp_Compare_of_uint64 x_ y_ = some r) :
    Calls Tryd.prog 51 #[.int .u64 x_, .int .u64 y_] w0 fun e w1 => e = .returned (.int .i64 r) ∧ Ext noG w0 w1 := by
  refine (Calls.start (P := Tryd.prog) (args := [.int .u64 x_, .int .u64 y_]) (R := fun v w1 => v = .int .i64 r ∧ Ext noG w0 w1) (n := 20) (w := w0) Tryd.func51 rfl rfl (Nat.le_of_ble_eq_true rfl) (fun ρ hargs => ?_)).mono (fun e w1 ⟨v, he, hv, hE⟩ => ⟨hv ▸ he, hE⟩)
  have h0 := hargs 0 _ rfl
  have h1 := hargs 1 _ rfl
  have hW := Ext.refl noG w0
  have hsz := Nat.le_refl w0.heap.size
  rw [cmp_Compare_of_uint64] at hF
  refine WP.seq ?_
  refine WP.region mixed [[]] [[]] [[]] [] []
    [val 4 (.int .i64 0)] noG (by kernel_rfl)
    ⟨Stable.val _ _ _, trivial⟩
    ⟨fun ρz wz hE hA _ _ => core_val rfl rfl (o_assign rfl), trivial⟩ ?_
  intro ρ1 w1 hE hN hf hr
  have hN := hN rfl
  have h0 := (hr 0 rfl).trans h0
  have h1 := (hr 1 rfl).trans h1
  have hW := hW.trans hN
  have hsz := Nat.le_trans hsz hN.size
  refine WP.seq ?_
  obtain ⟨z, hz, hF⟩ := obind hF
  refine WP.region mixed [[], [0], [1]] [[], [0], [1]] [[0], [], []] [] []
    [val 7 (.int .u64 x_), val 8 (.bool z), val 5 (.bool z)] noG (by kernel_rfl)
    ⟨Stable.val _ _ _, Stable.val _ _ _, Stable.val _ _ _, trivial⟩
    ⟨fun ρz wz hE hA ⟨e0, _⟩ _ => core_val rfl rfl (o_move (e0.trans h0)),
     fun ρz wz hE hA _ ⟨u0, _⟩ => core_call rfl (call_args1 u0) cf_80 (cmp_isNaN_of_uint64_ok  _  hz),
     fun ρz wz hE hA _ ⟨u1, _⟩ => core_val rfl rfl (o_assign u1), trivial⟩ ?_
  intro ρ2 w2 hE hN hf hr
  have hN := hN rfl
  have h0 := (hr 0 rfl).trans h0
  have h1 := (hr 1 rfl).trans h1
  have h5 : ρ2 5 = .bool z := hf 2 rfl
  have hW := hW.trans hN
  have hsz := Nat.le_trans hsz hN.size
  refine WP.seq ?_
  obtain ⟨z2, hz2, hF⟩ := obind hF
  refine WP.region mixed [[], [0], [1]] [[], [0], [1]] [[1], [], []] [] []
    [val 9 (.int .u64 y_), val 10 (.bool z2), val 6 (.bool z2)] noG (by kernel_rfl)
    ⟨Stable.val _ _ _, Stable.val _ _ _, Stable.val _ _ _, trivial⟩
    ⟨fun ρz wz hE hA ⟨e1, _⟩ _ => core_val rfl rfl (o_move (e1.trans h1)),
     fun ρz wz hE hA _ ⟨u0, _⟩ => core_call rfl (call_args1 u0) cf_80 (cmp_isNaN_of_uint64_ok  _  hz2),
     fun ρz wz hE hA _ ⟨u1, _⟩ => core_val rfl rfl (o_assign u1), trivial⟩ ?_
  intro ρ3 w3 hE hN hf hr
  have hN := hN rfl
  have h0 := (hr 0 rfl).trans h0
  have h1 := (hr 1 rfl).trans h1
  have h5 := (hr 5 rfl).trans h5
  have h6 : ρ3 6 = .bool z2 := hf 2 rfl
  have hW := hW.trans hN
  have hsz := Nat.le_trans hsz hN.size
  refine WP.seq ?_
  refine WP.seq ?_
  refine WP.region mixed [[]] [[]] [[5]] [] []
    [val 11 (.bool z)] noG (by kernel_rfl)
    ⟨Stable.val _ _ _, trivial⟩
    ⟨fun ρz wz hE hA ⟨e5, _⟩ _ => core_val rfl rfl (o_move (e5.trans h5)), trivial⟩ ?_
  intro ρ4 w4 hE hN hf hr
  have hN := hN rfl
  have h0 := (hr 0 rfl).trans h0
  have h1 := (hr 1 rfl).trans h1
  have h6 := (hr 6 rfl).trans h6
  have h11 : ρ4 11 = .bool z := hf 0 rfl
  have hW := hW.trans hN
  have hsz := Nat.le_trans hsz hN.size
  refine WP.cond rfl h11 (fun hb => ?_) (fun hb => ?_)
  · have hF := (if_pos hb).symm.trans hF
    refine WP.seq ?_
    refine WP.seq ?_
    refine WP.region mixed [[]] [[]] [[6]] [] []
      [val 12 (.bool z2)] noG (by kernel_rfl)
      ⟨Stable.val _ _ _, trivial⟩
      ⟨fun ρz wz hE hA ⟨e6, _⟩ _ => core_val rfl rfl (o_move (e6.trans h6)), trivial⟩ ?_
    intro ρ5 w5 hE hN hf hr
    have hN := hN rfl
    have h12 : ρ5 12 = .bool z2 := hf 0 rfl
    have hW := hW.trans hN
    have hsz := Nat.le_trans hsz hN.size
    refine WP.cond rfl h12 (fun hb => ?_) (fun hb => ?_)
    · have hF := (if_pos hb).symm.trans hF
      refine WP.seq ?_
      refine WP.region mixed [[]] [[]] [[]] [] []
        [val 4 (.int .i64 0)] noG (by kernel_rfl)
        ⟨Stable.val _ _ _, trivial⟩
        ⟨fun ρz wz hE hA _ _ => core_val rfl rfl (o_assign rfl), trivial⟩ ?_
      intro ρ6 w6 hE hN hf hr
      have hN := hN rfl
      have h4 : ρ6 4 = .int .i64 0 := hf 0 rfl
      have hW := hW.trans hN
      have hsz := Nat.le_trans hsz hN.size
      refine WP.ret ?_
      show retQ Tryd.prog 20 Tryd.f51 (fun v w1 => v = .int .i64 r ∧ Ext noG w0 w1) .ret ρ6 w6
      obtain rfl := Option.some.inj hF
      exact res1 rfl (by decide) h4 ⟨rfl, hW⟩
    · have hF := (if_neg (Bool.eq_false_iff.1 hb)).symm.trans hF
      refine WP.skip ?_
      refine WP.seq ?_
      refine WP.region mixed [[]] [[]] [[]] [] []
        [val 4 (.int .i64 (-1))] noG (by kernel_rfl)
        ⟨Stable.val _ _ _, trivial⟩
        ⟨fun ρz wz hE hA _ _ => core_val rfl rfl (o_assign rfl), trivial⟩ ?_
      intro ρ7 w7 hE hN hf hr
      have hN := hN rfl
      have h4 : ρ7 4 = .int .i64 (-1) := hf 0 rfl
      have hW := hW.trans hN
      have hsz := Nat.le_trans hsz hN.size
      refine WP.ret ?_
      show retQ Tryd.prog 20 Tryd.f51 (fun v w1 => v = .int .i64 r ∧ Ext noG w0 w1) .ret ρ7 w7
      obtain rfl := Option.some.inj hF
      exact res1 rfl (by decide) h4 ⟨rfl, hW⟩
  · have hF := (if_neg (Bool.eq_false_iff.1 hb)).symm.trans hF
    refine WP.skip ?_
    refine WP.seq ?_
    refine WP.seq ?_
    refine WP.region mixed [[]] [[]] [[6]] [] []
      [val 13 (.bool z2)] noG (by kernel_rfl)
      ⟨Stable.val _ _ _, trivial⟩
      ⟨fun ρz wz hE hA ⟨e6, _⟩ _ => core_val rfl rfl (o_move (e6.trans h6)), trivial⟩ ?_
    intro ρ8 w8 hE hN hf hr
    have hN := hN rfl
    have h0 := (hr 0 rfl).trans h0
    have h1 := (hr 1 rfl).trans h1
    have h13 : ρ8 13 = .bool z2 := hf 0 rfl
    have hW := hW.trans hN
    have hsz := Nat.le_trans hsz hN.size
    refine WP.cond rfl h13 (fun hb => ?_) (fun hb => ?_)
    · have hF := (if_pos hb).symm.trans hF
      refine WP.seq ?_
      refine WP.region mixed [[]] [[]] [[]] [] []
        [val 4 (.int .i64 1)] noG (by kernel_rfl)
        ⟨Stable.val _ _ _, trivial⟩
        ⟨fun ρz wz hE hA _ _ => core_val rfl rfl (o_assign rfl), trivial⟩ ?_
      intro ρ9 w9 hE hN hf hr
      have hN := hN rfl
      have h4 : ρ9 4 = .int .i64 1 := hf 0 rfl
      have hW := hW.trans hN
      have hsz := Nat.le_trans hsz hN.size
      refine WP.ret ?_
      show retQ Tryd.prog 20 Tryd.f51 (fun v w1 => v = .int .i64 r ∧ Ext noG w0 w1) .ret ρ9 w9
      obtain rfl := Option.some.inj hF
      exact res1 rfl (by decide) h4 ⟨rfl, hW⟩
    · have hF := (if_neg (Bool.eq_false_iff.1 hb)).symm.trans hF
      refine WP.skip ?_
      refine WP.seq ?_
      refine WP.seq ?_
      refine WP.region mixed [[], [], [0, 1]] [[], [], [0, 1]] [[0], [1], []] [] []
        [val 14 (.int .u64 x_), val 15 (.int .u64 y_), val 16 (.bool (decide (x_ < y_)))] noG (by kernel_rfl)
        ⟨Stable.val _ _ _, Stable.val _ _ _, Stable.val _ _ _, trivial⟩
        ⟨fun ρz wz hE hA ⟨e0, _⟩ _ => core_val rfl rfl (o_move (e0.trans h0)),
     fun ρz wz hE hA ⟨e1, _⟩ _ => core_val rfl rfl (o_move (e1.trans h1)),
     fun ρz wz hE hA _ ⟨u0, u1, _⟩ => core_val rfl rfl (o_lss u0 u1 rfl), trivial⟩ ?_
      intro ρ10 w10 hE hN hf hr
      have hN := hN rfl
      have h0 := (hr 0 rfl).trans h0
      have h1 := (hr 1 rfl).trans h1
      have h16 : ρ10 16 = .bool (decide (x_ < y_)) := hf 2 rfl
      have hW := hW.trans hN
      have hsz := Nat.le_trans hsz hN.size
      refine WP.cond rfl h16 (fun hb => ?_) (fun hb => ?_)
      · have hF := (if_pos hb).symm.trans hF
        refine WP.seq ?_
        refine WP.region mixed [[]] [[]] [[]] [] []
          [val 4 (.int .i64 (-1))] noG (by kernel_rfl)
          ⟨Stable.val _ _ _, trivial⟩
          ⟨fun ρz wz hE hA _ _ => core_val rfl rfl (o_assign rfl), trivial⟩ ?_
        intro ρ11 w11 hE hN hf hr
        have hN := hN rfl
        have h4 : ρ11 4 = .int .i64 (-1) := hf 0 rfl
        have hW := hW.trans hN
        have hsz := Nat.le_trans hsz hN.size
        refine WP.ret ?_
        show retQ Tryd.prog 20 Tryd.f51 (fun v w1 => v = .int .i64 r ∧ Ext noG w0 w1) .ret ρ11 w11
        obtain rfl := Option.some.inj hF
        exact res1 rfl (by decide) h4 ⟨rfl, hW⟩
      · have hF := (if_neg (Bool.eq_false_iff.1 hb)).symm.trans hF
        refine WP.skip ?_
        refine WP.seq ?_
        refine WP.seq ?_
        refine WP.region mixed [[], [], [0, 1]] [[], [], [0, 1]] [[0], [1], []] [] []
          [val 17 (.int .u64 x_), val 18 (.int .u64 y_), val 19 (.bool (decide (y_ < x_)))] noG (by kernel_rfl)
          ⟨Stable.val _ _ _, Stable.val _ _ _, Stable.val _ _ _, trivial⟩
          ⟨fun ρz wz hE hA ⟨e0, _⟩ _ => core_val rfl rfl (o_move (e0.trans h0)),
     fun ρz wz hE hA ⟨e1, _⟩ _ => core_val rfl rfl (o_move (e1.trans h1)),
     fun ρz wz hE hA _ ⟨u0, u1, _⟩ => core_val rfl rfl (o_gtr u0 u1 rfl), trivial⟩ ?_
        intro ρ12 w12 hE hN hf hr
        have hN := hN rfl
        have h19 : ρ12 19 = .bool (decide (y_ < x_)) := hf 2 rfl
        have hW := hW.trans hN
        have hsz := Nat.le_trans hsz hN.size
        refine WP.cond rfl h19 (fun hb => ?_) (fun hb => ?_)
        · have hF := (if_pos hb).symm.trans hF
          refine WP.seq ?_
          refine WP.region mixed [[]] [[]] [[]] [] []
            [val 4 (.int .i64 1)] noG (by kernel_rfl)
            ⟨Stable.val _ _ _, trivial⟩
            ⟨fun ρz wz hE hA _ _ => core_val rfl rfl (o_assign rfl), trivial⟩ ?_
          intro ρ13 w13 hE hN hf hr
          have hN := hN rfl
          have h4 : ρ13 4 = .int .i64 1 := hf 0 rfl
          have hW := hW.trans hN
          have hsz := Nat.le_trans hsz hN.size
          refine WP.ret ?_
          show retQ Tryd.prog 20 Tryd.f51 (fun v w1 => v = .int .i64 r ∧ Ext noG w0 w1) .ret ρ13 w13
          obtain rfl := Option.some.inj hF
          exact res1 rfl (by decide) h4 ⟨rfl, hW⟩
        · have hF := (if_neg (Bool.eq_false_iff.1 hb)).symm.trans hF
          refine WP.skip ?_
          refine WP.seq ?_
          refine WP.region mixed [[]] [[]] [[]] [] []
            [val 4 (.int .i64 0)] noG (by kernel_rfl)
            ⟨Stable.val _ _ _, trivial⟩
            ⟨fun ρz wz hE hA _ _ => core_val rfl rfl (o_assign rfl), trivial⟩ ?_
          intro ρ14 w14 hE hN hf hr
          have hN := hN rfl
          have h4 : ρ14 4 = .int .i64 0 := hf 0 rfl
          have hW := hW.trans hN
          have hsz := Nat.le_trans hsz hN.size
          refine WP.ret ?_
          show retQ Tryd.prog 20 Tryd.f51 (fun v w1 => v = .int .i64 r ∧ Ext noG w0 w1) .ret ρ14 w14
          obtain rfl := Option.some.inj hF
          exact res1 rfl (by decide) h4 ⟨rfl, hW⟩

set_option maxHeartbeats 4000000 in
theorem cmp_Or_of_int_ok {w0 : World} (vals_ : List Int) {v_vals_ : Value} (H_vals_ : RepSl intR noG w0 v_vals_ vals_) {r : Int} (hF : cmp_Or_of_int vals_ = some r) :
    Calls Tryd.prog 31 #[v_vals_] w0 fun e w1 => e = .returned (.int .i64 r) ∧ Ext noG w0 w1 := by
  refine (Calls.start (P := Tryd.prog) (args := [v_vals_]) (R := fun v w1 => v = .int .i64 r ∧ Ext noG w0 w1) (n := 18) (w := w0) Tryd.func31 rfl rfl (Nat.le_of_ble_eq_true rfl) (fun ρ hargs => ?_)).mono (fun e w1 ⟨v, he, hv, hE⟩ => ⟨hv ▸ he, hE⟩)
  have h0 := hargs 0 _ rfl
  have hW := Ext.refl noG w0
  have hsz := Nat.le_refl w0.heap.size
  obtain ⟨_, _, hs_H_vals_, _, _⟩ := RepSl.shape H_vals_
  have H_vals_ := H_vals_.start
  rw [cmp_Or_of_int] at hF
  refine WP.seq ?_
  refine WP.region mixed [[]] [[]] [[]] [] []
    [val 2 (.int .i64 0)] noG (by kernel_rfl)
    ⟨Stable.val _ _ _, trivial⟩
    ⟨fun ρz wz hE hA _ _ => core_val rfl rfl (o_assign rfl), trivial⟩ ?_
  intro ρ1 w1 hE hN hf hr
  have hN := hN rfl
  have h0 := (hr 0 rfl).trans h0
  have H_vals__at0 := H_vals_
  have H_vals_ := H_vals_.exn hN
  have hW := hW.trans hN
  have hsz := Nat.le_trans hsz hN.size
  refine WP.seq ?_
  refine WP.region mixed [[]] [[]] [[]] [] []
    [val 3 (.int .i64 0)] noG (by kernel_rfl)
    ⟨Stable.val _ _ _, trivial⟩
    ⟨fun ρz wz hE hA _ _ => core_val rfl rfl (o_assign rfl), trivial⟩ ?_
  intro ρ2 w2 hE hN hf hr
  have hN := hN rfl
  have h0 := (hr 0 rfl).trans h0
  have h3 : ρ2 3 = .int .i64 0 := hf 0 rfl
  have H_vals__at0 := H_vals_
  have H_vals_ := H_vals_.exn hN
  have hW := hW.trans hN
  have hsz := Nat.le_trans hsz hN.size
  refine WP.seq ?_
  refine WP.seq ?_
  refine WP.region mixed [[], [0], []] [[], [0], []] [[0], [], []] [] []
    [val 6 (v_vals_), val 7 (.int .i64 (vals_.length : Int)), val 8 (.int .i64 0)] noG (by kernel_rfl)
    ⟨Stable.val _ _ _, Stable.val _ _ _, Stable.val _ _ _, trivial⟩
    ⟨fun ρz wz hE hA ⟨e0, _⟩ _ => core_val rfl rfl (o_move (e0.trans h0)),
     fun ρz wz hE hA _ ⟨u0, _⟩ => core_val rfl rfl (o_len (u0.trans hs_H_vals_) len_23),
     fun ρz wz hE hA _ _ => core_val rfl rfl (o_move rfl), trivial⟩ ?_
  intro ρ3 w3 hE hN hf hr
  have hN := hN rfl
  have h3 := (hr 3 rfl).trans h3
  have h6 : ρ3 6 = v_vals_ := hf 0 rfl
  have h7 : ρ3 7 = .int .i64 (vals_.length : Int) := hf 1 rfl
  have h8 : ρ3 8 = .int .i64 0 := hf 2 rfl
  have H_vals__at0 := H_vals_
  have H_vals_ := H_vals_.exn hN
  have hW := hW.trans hN
  have hsz := Nat.le_trans hsz hN.size
  refine WP.block ?_
  refine WP.loop (fun k_ ρ w => ∃ x : Int, ρ 3 = .int .i64 0 ∧ ρ 6 = v_vals_ ∧ ρ 7 = .int .i64 (vals_.length : Int) ∧ ρ 8 = .int .i64 x ∧ RepSl intR (gfr noG w0) w v_vals_ vals_ ∧ Ext noG w0 w ∧ w0.heap.size ≤ w.heap.size ∧ loopC k_ (cmp_Or_of_int_l vals_) x = some r) FU ⟨0, h3, h6, h7, h8, H_vals_, hW, hsz, hF⟩ (fun _ _ h => by obtain ⟨_, _, _, _, _, _, _, _, h⟩ := h; cases h) ?_
  rintro k_ ρ4 w4 ⟨x, h3, h6, h7, h8, H_vals_, hW, hsz, hF⟩
  have hF : cmp_Or_of_int_l vals_ (loopC k_ (cmp_Or_of_int_l vals_)) x = some r := hF
  generalize hrec_ : loopC k_ (cmp_Or_of_int_l vals_) = rec_ at hF
  rw [cmp_Or_of_int_l] at hF
  refine WP.seq ?_
  refine WP.region mixed [[]] [[]] [[8, 7]] [] []
    [val 9 (.bool (decide (x < (vals_.length : Int))))] noG (by kernel_rfl)
    ⟨Stable.val _ _ _, trivial⟩
    ⟨fun ρz wz hE hA ⟨e8, e7, _⟩ _ => core_val rfl rfl (o_lss (e8.trans h8) (e7.trans h7) rfl), trivial⟩ ?_
  intro ρ5 w5 hE hN hf hr
  have hN := hN rfl
  have h3 := (hr 3 rfl).trans h3
  have h6 := (hr 6 rfl).trans h6
  have h7 := (hr 7 rfl).trans h7
  have h8 := (hr 8 rfl).trans h8
  have h9 : ρ5 9 = .bool (decide (x < (vals_.length : Int))) := hf 0 rfl
  have H_vals__at0 := H_vals_
  have H_vals_ := H_vals_.exn hN
  have hW := hW.trans hN
  have hsz := Nat.le_trans hsz hN.size
  refine WP.seq ?_
  refine WP.cond rfl h9 (fun hb => ?_) (fun hb => ?_)
  · have hF := (if_pos hb).symm.trans hF
    refine WP.skip ?_
    refine WP.seq ?_
    refine WP.block ?_
    refine WP.seq ?_
    obtain ⟨y, hy, hF⟩ := obind hF
    obtain ⟨ay, cy, hvy, hiy, hAy⟩ := RepSl.getF H_vals_ hy
    refine WP.region mixed [[], [0], [1]] [[], [0], [1]] [[6, 8], [], []] [] []
      [val 10 (.pointer (some (ay.add (Int.toNat x * 1)))), val 11 (.int .i64 y), val 5 (.int .i64 y)] noG (by kernel_rfl)
      ⟨Stable.val _ _ _, Stable.val _ _ _, Stable.val _ _ _, trivial⟩
      ⟨fun ρz wz hE hA ⟨e6, e8, _⟩ _ => core_val rfl rfl (o_indexAddr ((e6.trans h6).trans hvy) (e8.trans h8) (ia_23 hiy)),
     fun ρz wz hE hA _ ⟨u0, _⟩ => core_val rfl rfl (o_load u0 (run_load1 (lr_3 _ _) ((hAy.exn (hA rfl)).ca))),
     fun ρz wz hE hA _ ⟨u1, _⟩ => core_val rfl rfl (o_assign u1), trivial⟩ ?_
    intro ρ6 w6 hE hN hf hr
    have hN := hN rfl
    have h3 := (hr 3 rfl).trans h3
    have h6 := (hr 6 rfl).trans h6
    have h7 := (hr 7 rfl).trans h7
    have h8 := (hr 8 rfl).trans h8
    have h5 : ρ6 5 = .int .i64 y := hf 2 rfl
    have H_vals__at0 := H_vals_
    have H_vals_ := H_vals_.exn hN
    have hW := hW.trans hN
    have hsz := Nat.le_trans hsz hN.size
    refine WP.seq ?_
    refine WP.region mixed [[], [], [0, 1]] [[], [], [0, 1]] [[5], [3], []] [] []
      [val 12 (.int .i64 y), val 13 (.int .i64 0), val 14 (.bool (y != 0))] noG (by kernel_rfl)
      ⟨Stable.val _ _ _, Stable.val _ _ _, Stable.val _ _ _, trivial⟩
      ⟨fun ρz wz hE hA ⟨e5, _⟩ _ => core_val rfl rfl (o_move (e5.trans h5)),
     fun ρz wz hE hA ⟨e3, _⟩ _ => core_val rfl rfl (o_move (e3.trans h3)),
     fun ρz wz hE hA _ ⟨u0, u1, _⟩ => core_val rfl rfl (o_neq u0 u1 rfl), trivial⟩ ?_
    intro ρ7 w7 hE hN hf hr
    have hN := hN rfl
    have h3 := (hr 3 rfl).trans h3
    have h6 := (hr 6 rfl).trans h6
    have h7 := (hr 7 rfl).trans h7
    have h8 := (hr 8 rfl).trans h8
    have h5 := (hr 5 rfl).trans h5
    have h14 : ρ7 14 = .bool (y != 0) := hf 2 rfl
    have H_vals__at0 := H_vals_
    have H_vals_ := H_vals_.exn hN
    have hW := hW.trans hN
    have hsz := Nat.le_trans hsz hN.size
    refine WP.cond rfl h14 (fun hb => ?_) (fun hb => ?_)
    · have hF := (if_pos hb).symm.trans hF
      refine WP.seq ?_
      refine WP.region mixed [[], [0]] [[], [0]] [[5], []] [] []
        [val 15 (.int .i64 y), val 2 (.int .i64 y)] noG (by kernel_rfl)
        ⟨Stable.val _ _ _, Stable.val _ _ _, trivial⟩
        ⟨fun ρz wz hE hA ⟨e5, _⟩ _ => core_val rfl rfl (o_move (e5.trans h5)),
     fun ρz wz hE hA _ ⟨u0, _⟩ => core_val rfl rfl (o_assign u0), trivial⟩ ?_
      intro ρ8 w8 hE hN hf hr
      have hN := hN rfl
      have h2 : ρ8 2 = .int .i64 y := hf 1 rfl
      have hW := hW.trans hN
      have hsz := Nat.le_trans hsz hN.size
      refine WP.ret ?_
      show retQ Tryd.prog 18 Tryd.f31 (fun v w1 => v = .int .i64 r ∧ Ext noG w0 w1) .ret ρ8 w8
      obtain rfl := Option.some.inj hF
      exact res1 rfl (by decide) h2 ⟨rfl, hW⟩
    · have hF := (if_neg (Bool.eq_false_iff.1 hb)).symm.trans hF
      refine WP.skip ?_
      refine WP.region mixed [[], [0]] [[], [0]] [[8], []] [] []
        [val 16 (.int .i64 (i64 (x + 1))), val 8 (.int .i64 (i64 (x + 1)))] noG (by kernel_rfl)
        ⟨Stable.val _ _ _, Stable.val _ _ _, trivial⟩
        ⟨fun ρz wz hE hA ⟨e8, _⟩ _ => core_val rfl rfl (o_add (e8.trans h8) rfl rfl),
     fun ρz wz hE hA _ ⟨u0, _⟩ => core_val rfl rfl (o_move u0), trivial⟩ ?_
      intro ρ9 w9 hE hN hf hr
      have hN := hN rfl
      have h3 := (hr 3 rfl).trans h3
      have h6 := (hr 6 rfl).trans h6
      have h7 := (hr 7 rfl).trans h7
      have h8 : ρ9 8 = .int .i64 (i64 (x + 1)) := hf 1 rfl
      have H_vals__at0 := H_vals_
      have H_vals_ := H_vals_.exn hN
      have hW := hW.trans hN
      have hsz := Nat.le_trans hsz hN.size
      exact ⟨i64 (x + 1), h3, h6, h7, h8, H_vals_, hW, hsz, (by first | exact hF | (rw [hrec_]; exact hF))⟩
  · have hF := (if_neg (Bool.eq_false_iff.1 hb)).symm.trans hF
    refine WP.exit ?_
    refine thenQ_exit ?_
    refine thenQ_exit ?_
    refine blockQ_hit ?_
    refine WP.seq ?_
    refine WP.region mixed [[], [0]] [[], [0]] [[3], []] [] []
      [val 17 (.int .i64 0), val 2 (.int .i64 0)] noG (by kernel_rfl)
      ⟨Stable.val _ _ _, Stable.val _ _ _, trivial⟩
      ⟨fun ρz wz hE hA ⟨e3, _⟩ _ => core_val rfl rfl (o_move (e3.trans h3)),
     fun ρz wz hE hA _ ⟨u0, _⟩ => core_val rfl rfl (o_assign u0), trivial⟩ ?_
    intro ρ10 w10 hE hN hf hr
    have hN := hN rfl
    have h2 : ρ10 2 = .int .i64 0 := hf 1 rfl
    have hW := hW.trans hN
    have hsz := Nat.le_trans hsz hN.size
    refine WP.ret ?_
    show retQ Tryd.prog 18 Tryd.f31 (fun v w1 => v = .int .i64 r ∧ Ext noG w0 w1) .ret ρ10 w10
    obtain rfl := Option.some.inj hF
    exact res1 rfl (by decide) h2 ⟨rfl, hW⟩

set_option maxHeartbeats 4000000 in
theorem bits_Len64_ok {w0 : World} (x_ : Int) {r : Int} (hF : bits_Len64 x_ = some r) :
    Calls Tryd.prog 79 #[.int .u64 x_] w0 fun e w1 => e = .returned (.int .i64 r) ∧ Ext noG w0 w1 := by
  refine (Calls.start (P := Tryd.prog) (args := [.int .u64 x_]) (R := fun v w1 => v = .int .i64 r ∧ Ext noG w0 w1) (n := 25) (w := w0) Tryd.func79 rfl rfl (Nat.le_of_ble_eq_true rfl) (fun ρ hargs => ?_)).mono (fun e w1 ⟨v, he, hv, hE⟩ => ⟨hv ▸ he, hE⟩)
  have h0 := hargs 0 _ rfl
  have hW := Ext.refl noG w0
  have hsz := Nat.le_refl w0.heap.size
  rw [bits_Len64] at hF
  refine WP.seq ?_
  refine WP.region mixed [[]] [[]] [[]] [] []
    [val 2 (.int .i64 0)] noG (by kernel_rfl)
    ⟨Stable.val _ _ _, trivial⟩
    ⟨fun ρz wz hE hA _ _ => core_val rfl rfl (o_assign rfl), trivial⟩ ?_
  intro ρ1 w1 hE hN hf hr
  have hN := hN rfl
  have h0 := (hr 0 rfl).trans h0
  have h2 : ρ1 2 = .int .i64 0 := hf 0 rfl
  have hW := hW.trans hN
  have hsz := Nat.le_trans hsz hN.size
  refine WP.seqJ (fun ρ w => ∃ x_2 : Int, ∃ n_ : Int, ρ 0 = .int .u64 x_2 ∧ ρ 2 = .int .i64 n_ ∧ Ext noG w0 w ∧ w0.heap.size ≤ w.heap.size ∧ bits_Len64_j x_2 n_ = some r) ?_ ?_
  · refine WP.seq ?_
    refine WP.region mixed [[], [0]] [[], [0]] [[0], []] [] []
      [val 3 (.int .u64 x_), val 4 (.bool (decide (4294967296 ≤ x_)))] noG (by kernel_rfl)
      ⟨Stable.val _ _ _, Stable.val _ _ _, trivial⟩
      ⟨fun ρz wz hE hA ⟨e0, _⟩ _ => core_val rfl rfl (o_move (e0.trans h0)),
     fun ρz wz hE hA _ ⟨u0, _⟩ => core_val rfl rfl (o_geq u0 rfl rfl), trivial⟩ ?_
    intro ρ12 w12 hE hN hf hr
    have hN := hN rfl
    have h0 := (hr 0 rfl).trans h0
    have h2 := (hr 2 rfl).trans h2
    have h4 : ρ12 4 = .bool (decide (4294967296 ≤ x_)) := hf 1 rfl
    have hW := hW.trans hN
    have hsz := Nat.le_trans hsz hN.size
    refine WP.cond rfl h4 (fun hb => ?_) (fun hb => ?_)
    · have hF := (if_pos hb).symm.trans hF
      refine WP.seq ?_
      refine WP.region mixed [[], [0], [0, 1]] [[], [0], [1]] [[0], [], []] [] []
        [val 5 (.int .u64 x_), val 6 (.int .u64 (shrK .u64 x_ 32)), val 0 (.int .u64 (shrK .u64 x_ 32))] noG (by kernel_rfl)
        ⟨Stable.val _ _ _, Stable.val _ _ _, Stable.val _ _ _, trivial⟩
        ⟨fun ρz wz hE hA ⟨e0, _⟩ _ => core_val rfl rfl (o_move (e0.trans h0)),
     fun ρz wz hE hA _ ⟨u0, _⟩ => core_val rfl rfl (o_shr u0 rfl (by decide) rfl),
     fun ρz wz hE hA _ ⟨u1, _⟩ => core_val rfl rfl (o_assign u1), trivial⟩ ?_
      intro ρ13 w13 hE hN hf hr
      have hN := hN rfl
      have h0 : ρ13 0 = .int .u64 (shrK .u64 x_ 32) := hf 2 rfl
      have hW := hW.trans hN
      have hsz := Nat.le_trans hsz hN.size
      refine WP.region mixed [[]] [[]] [[]] [] []
        [val 2 (.int .i64 32)] noG (by kernel_rfl)
        ⟨Stable.val _ _ _, trivial⟩
        ⟨fun ρz wz hE hA _ _ => core_val rfl rfl (o_assign rfl), trivial⟩ ?_
      intro ρ14 w14 hE hN hf hr
      have hN := hN rfl
      have h0 := (hr 0 rfl).trans h0
      have h2 : ρ14 2 = .int .i64 32 := hf 0 rfl
      have hW := hW.trans hN
      have hsz := Nat.le_trans hsz hN.size
      exact ⟨shrK .u64 x_ 32, 32, h0, h2, hW, hsz, hF⟩
    · have hF := (if_neg (Bool.eq_false_iff.1 hb)).symm.trans hF
      refine WP.skip ?_
      exact ⟨x_, 0, h0, h2, hW, hsz, hF⟩
  · rintro ρ2 w2 ⟨x_2, n_, h0, h2, hW, hsz, hF⟩
    rw [bits_Len64_j] at hF
    refine WP.seqJ (fun ρ w => ∃ x_3 : Int, ∃ n_2 : Int, ρ 0 = .int .u64 x_3 ∧ ρ 2 = .int .i64 n_2 ∧ Ext noG w0 w ∧ w0.heap.size ≤ w.heap.size ∧ bits_Len64_j2 x_3 n_2 = some r) ?_ ?_
    · refine WP.seq ?_
      refine WP.region mixed [[], [0]] [[], [0]] [[0], []] [] []
        [val 7 (.int .u64 x_2), val 8 (.bool (decide (65536 ≤ x_2)))] noG (by kernel_rfl)
        ⟨Stable.val _ _ _, Stable.val _ _ _, trivial⟩
        ⟨fun ρz wz hE hA ⟨e0, _⟩ _ => core_val rfl rfl (o_move (e0.trans h0)),
     fun ρz wz hE hA _ ⟨u0, _⟩ => core_val rfl rfl (o_geq u0 rfl rfl), trivial⟩ ?_
      intro ρ9 w9 hE hN hf hr
      have hN := hN rfl
      have h0 := (hr 0 rfl).trans h0
      have h2 := (hr 2 rfl).trans h2
      have h8 : ρ9 8 = .bool (decide (65536 ≤ x_2)) := hf 1 rfl
      have hW := hW.trans hN
      have hsz := Nat.le_trans hsz hN.size
      refine WP.cond rfl h8 (fun hb => ?_) (fun hb => ?_)
      · have hF := (if_pos hb).symm.trans hF
        refine WP.seq ?_
        refine WP.region mixed [[], [0], [0, 1]] [[], [0], [1]] [[0], [], []] [] []
          [val 9 (.int .u64 x_2), val 10 (.int .u64 (shrK .u64 x_2 16)), val 0 (.int .u64 (shrK .u64 x_2 16))] noG (by kernel_rfl)
          ⟨Stable.val _ _ _, Stable.val _ _ _, Stable.val _ _ _, trivial⟩
          ⟨fun ρz wz hE hA ⟨e0, _⟩ _ => core_val rfl rfl (o_move (e0.trans h0)),
     fun ρz wz hE hA _ ⟨u0, _⟩ => core_val rfl rfl (o_shr u0 rfl (by decide) rfl),
     fun ρz wz hE hA _ ⟨u1, _⟩ => core_val rfl rfl (o_assign u1), trivial⟩ ?_
        intro ρ10 w10 hE hN hf hr
        have hN := hN rfl
        have h0 : ρ10 0 = .int .u64 (shrK .u64 x_2 16) := hf 2 rfl
        have h2 := (hr 2 rfl).trans h2
        have hW := hW.trans hN
        have hsz := Nat.le_trans hsz hN.size
        refine WP.region mixed [[], [0], [0, 1]] [[], [0], [1]] [[2], [], []] [] []
          [val 11 (.int .i64 n_), val 12 (.int .i64 (i64 (n_ + 16))), val 2 (.int .i64 (i64 (n_ + 16)))] noG (by kernel_rfl)
          ⟨Stable.val _ _ _, Stable.val _ _ _, Stable.val _ _ _, trivial⟩
          ⟨fun ρz wz hE hA ⟨e2, _⟩ _ => core_val rfl rfl (o_move (e2.trans h2)),
     fun ρz wz hE hA _ ⟨u0, _⟩ => core_val rfl rfl (o_add u0 rfl rfl),
     fun ρz wz hE hA _ ⟨u1, _⟩ => core_val rfl rfl (o_assign u1), trivial⟩ ?_
        intro ρ11 w11 hE hN hf hr
        have hN := hN rfl
        have h0 := (hr 0 rfl).trans h0
        have h2 : ρ11 2 = .int .i64 (i64 (n_ + 16)) := hf 2 rfl
        have hW := hW.trans hN
        have hsz := Nat.le_trans hsz hN.size
        exact ⟨shrK .u64 x_2 16, i64 (n_ + 16), h0, h2, hW, hsz, hF⟩
      · have hF := (if_neg (Bool.eq_false_iff.1 hb)).symm.trans hF
        refine WP.skip ?_
        exact ⟨x_2, n_, h0, h2, hW, hsz, hF⟩
    · rintro ρ3 w3 ⟨x_3, n_2, h0, h2, hW, hsz, hF⟩
      rw [bits_Len64_j2] at hF
      refine WP.seqJ (fun ρ w => ∃ x_4 : Int, ∃ n_3 : Int, ρ 0 = .int .u64 x_4 ∧ ρ 2 = .int .i64 n_3 ∧ Ext noG w0 w ∧ w0.heap.size ≤ w.heap.size ∧ bits_Len64_j3 x_4 n_3 = some r) ?_ ?_
      · refine WP.seq ?_
        refine WP.region mixed [[], [0]] [[], [0]] [[0], []] [] []
          [val 13 (.int .u64 x_3), val 14 (.bool (decide (256 ≤ x_3)))] noG (by kernel_rfl)
          ⟨Stable.val _ _ _, Stable.val _ _ _, trivial⟩
          ⟨fun ρz wz hE hA ⟨e0, _⟩ _ => core_val rfl rfl (o_move (e0.trans h0)),
     fun ρz wz hE hA _ ⟨u0, _⟩ => core_val rfl rfl (o_geq u0 rfl rfl), trivial⟩ ?_
        intro ρ6 w6 hE hN hf hr
        have hN := hN rfl
        have h0 := (hr 0 rfl).trans h0
        have h2 := (hr 2 rfl).trans h2
        have h14 : ρ6 14 = .bool (decide (256 ≤ x_3)) := hf 1 rfl
        have hW := hW.trans hN
        have hsz := Nat.le_trans hsz hN.size
        refine WP.cond rfl h14 (fun hb => ?_) (fun hb => ?_)
        · have hF := (if_pos hb).symm.trans hF
          refine WP.seq ?_
          refine WP.region mixed [[], [0], [0, 1]] [[], [0], [1]] [[0], [], []] [] []
            [val 15 (.int .u64 x_3), val 16 (.int .u64 (shrK .u64 x_3 8)), val 0 (.int .u64 (shrK .u64 x_3 8))] noG (by kernel_rfl)
            ⟨Stable.val _ _ _, Stable.val _ _ _, Stable.val _ _ _, trivial⟩
            ⟨fun ρz wz hE hA ⟨e0, _⟩ _ => core_val rfl rfl (o_move (e0.trans h0)),
     fun ρz wz hE hA _ ⟨u0, _⟩ => core_val rfl rfl (o_shr u0 rfl (by decide) rfl),
     fun ρz wz hE hA _ ⟨u1, _⟩ => core_val rfl rfl (o_assign u1), trivial⟩ ?_
          intro ρ7 w7 hE hN hf hr
          have hN := hN rfl
          have h0 : ρ7 0 = .int .u64 (shrK .u64 x_3 8) := hf 2 rfl
          have h2 := (hr 2 rfl).trans h2
          have hW := hW.trans hN
          have hsz := Nat.le_trans hsz hN.size
          refine WP.region mixed [[], [0], [0, 1]] [[], [0], [1]] [[2], [], []] [] []
            [val 17 (.int .i64 n_2), val 18 (.int .i64 (i64 (n_2 + 8))), val 2 (.int .i64 (i64 (n_2 + 8)))] noG (by kernel_rfl)
            ⟨Stable.val _ _ _, Stable.val _ _ _, Stable.val _ _ _, trivial⟩
            ⟨fun ρz wz hE hA ⟨e2, _⟩ _ => core_val rfl rfl (o_move (e2.trans h2)),
     fun ρz wz hE hA _ ⟨u0, _⟩ => core_val rfl rfl (o_add u0 rfl rfl),
     fun ρz wz hE hA _ ⟨u1, _⟩ => core_val rfl rfl (o_assign u1), trivial⟩ ?_
          intro ρ8 w8 hE hN hf hr
          have hN := hN rfl
          have h0 := (hr 0 rfl).trans h0
          have h2 : ρ8 2 = .int .i64 (i64 (n_2 + 8)) := hf 2 rfl
          have hW := hW.trans hN
          have hsz := Nat.le_trans hsz hN.size
          exact ⟨shrK .u64 x_3 8, i64 (n_2 + 8), h0, h2, hW, hsz, hF⟩
        · have hF := (if_neg (Bool.eq_false_iff.1 hb)).symm.trans hF
          refine WP.skip ?_
          exact ⟨x_3, n_2, h0, h2, hW, hsz, hF⟩
      · rintro ρ4 w4 ⟨x_4, n_3, h0, h2, hW, hsz, hF⟩
        rw [bits_Len64_j3] at hF
        refine WP.seq ?_
        obtain ⟨y, hy, hF⟩ := obind hF
        refine WP.region mixed [[], [], [1], [2], [3], [0, 4], [0, 5]] [[], [], [1], [2], [3], [0, 4], [5]] [[2], [0], [], [], [], [], []] [] []
          [val 19 (.int .i64 n_3), val 20 (.int .u64 x_4), val 21 (.int .u8 ((IntKind.u8.wrap) x_4)), val 22 (.int .u8 y), val 23 (.int .i64 (i64 y)), val 24 (.int .i64 (i64 (n_3 + i64 y))), val 2 (.int .i64 (i64 (n_3 + i64 y)))] noG (by kernel_rfl)
          ⟨Stable.val _ _ _, Stable.val _ _ _, Stable.val _ _ _, Stable.val _ _ _, Stable.val _ _ _, Stable.val _ _ _, Stable.val _ _ _, trivial⟩
          ⟨fun ρz wz hE hA ⟨e2, _⟩ _ => core_val rfl rfl (o_move (e2.trans h2)),
     fun ρz wz hE hA ⟨e0, _⟩ _ => core_val rfl rfl (o_move (e0.trans h0)),
     fun ρz wz hE hA _ ⟨u1, _⟩ => core_val rfl rfl (o_conv u1 (cv_62_5 _ _)),
     fun ρz wz hE hA _ ⟨u2, _⟩ => core_val rfl rfl (o_index rfl u2 (by kernel_rfl) hy),
     fun ρz wz hE hA _ ⟨u3, _⟩ => core_val rfl rfl (o_conv u3 (cv_5_3 _ _)),
     fun ρz wz hE hA _ ⟨u0, u4, _⟩ => core_val rfl rfl (o_add u0 u4 rfl),
     fun ρz wz hE hA _ ⟨u5, _⟩ => core_val rfl rfl (o_assign u5), trivial⟩ ?_
        intro ρ5 w5 hE hN hf hr
        have hN := hN rfl
        have h2 : ρ5 2 = .int .i64 (i64 (n_3 + i64 y)) := hf 6 rfl
        have hW := hW.trans hN
        have hsz := Nat.le_trans hsz hN.size
        refine WP.ret ?_
        show retQ Tryd.prog 25 Tryd.f79 (fun v w1 => v = .int .i64 r ∧ Ext noG w0 w1) .ret ρ5 w5
        obtain rfl := Option.some.inj hF
        exact res1 rfl (by decide) h2 ⟨rfl, hW⟩

set_option maxHeartbeats 4000000 in
theorem bits_LeadingZeros64_ok {w0 : World} (x_ : Int) {r : Int} (hF : bits_LeadingZeros64 x_ = some r) :
    Calls Tryd.prog 90 #[.int .u64 x_] w0 fun e w1 => e = .returned (.int .i64 r) ∧ Ext noG w0 w1 := by
  refine (Calls.start (P := Tryd.prog) (args := [.int .u64 x_]) (R := fun v w1 => v = .int .i64 r ∧ Ext noG w0 w1) (n := 6) (w := w0) Tryd.func90 rfl rfl (Nat.le_of_ble_eq_true rfl) (fun ρ hargs => ?_)).mono (fun e w1 ⟨v, he, hv, hE⟩ => ⟨hv ▸ he, hE⟩)
  have h0 := hargs 0 _ rfl
  have hW := Ext.refl noG w0
  have hsz := Nat.le_refl w0.heap.size
  rw [bits_LeadingZeros64] at hF
  refine WP.seq ?_
  refine WP.region mixed [[]] [[]] [[]] [] []
    [val 2 (.int .i64 0)] noG (by kernel_rfl)
    ⟨Stable.val _ _ _, trivial⟩
    ⟨fun ρz wz hE hA _ _ => core_val rfl rfl (o_assign rfl), trivial⟩ ?_
  intro ρ1 w1 hE hN hf hr
  have hN := hN rfl
  have h0 := (hr 0 rfl).trans h0
  have hW := hW.trans hN
  have hsz := Nat.le_trans hsz hN.size
  refine WP.seq ?_
  obtain ⟨z, hz, hF⟩ := obind hF
  refine WP.region mixed [[], [0], [1], [2]] [[], [0], [1], [2]] [[0], [], [], []] [] []
    [val 3 (.int .u64 x_), val 4 (.int .i64 z), val 5 (.int .i64 (i64 (64 - z))), val 2 (.int .i64 (i64 (64 - z)))] noG (by kernel_rfl)
    ⟨Stable.val _ _ _, Stable.val _ _ _, Stable.val _ _ _, Stable.val _ _ _, trivial⟩
    ⟨fun ρz wz hE hA ⟨e0, _⟩ _ => core_val rfl rfl (o_move (e0.trans h0)),
     fun ρz wz hE hA _ ⟨u0, _⟩ => core_call rfl (call_args1 u0) cf_79 (bits_Len64_ok  _  hz),
     fun ρz wz hE hA _ ⟨u1, _⟩ => core_val rfl rfl (o_sub rfl u1 rfl),
     fun ρz wz hE hA _ ⟨u2, _⟩ => core_val rfl rfl (o_assign u2), trivial⟩ ?_
  intro ρ2 w2 hE hN hf hr
  have hN := hN rfl
  have h2 : ρ2 2 = .int .i64 (i64 (64 - z)) := hf 3 rfl
  have hW := hW.trans hN
  have hsz := Nat.le_trans hsz hN.size
  refine WP.ret ?_
  show retQ Tryd.prog 6 Tryd.f90 (fun v w1 => v = .int .i64 r ∧ Ext noG w0 w1) .ret ρ2 w2
  obtain rfl := Option.some.inj hF
  exact res1 rfl (by decide) h2 ⟨rfl, hW⟩

set_option maxHeartbeats 4000000 in
theorem bits_Mul64_ok {w0 : World} (x_ : Int) (y_ : Int) {r : Int × Int} (hF : bits_Mul64 x_ y_ = some r) :
    Calls Tryd.prog 50 #[.int .u64 x_, .int .u64 y_] w0 fun e w1 => e = .returned (.tuple #[.int .u64 r.1, .int .u64 r.2]) ∧ Ext noG w0 w1 := by
  refine (Calls.start (P := Tryd.prog) (args := [.int .u64 x_, .int .u64 y_]) (R := fun v w1 => v = .tuple #[.int .u64 r.1, .int .u64 r.2] ∧ Ext noG w0 w1) (n := 51) (w := w0) Tryd.func50 rfl rfl (Nat.le_of_ble_eq_true rfl) (fun ρ hargs => ?_)).mono (fun e w1 ⟨v, he, hv, hE⟩ => ⟨hv ▸ he, hE⟩)
  have h0 := hargs 0 _ rfl
  have h1 := hargs 1 _ rfl
  have hW := Ext.refl noG w0
  have hsz := Nat.le_refl w0.heap.size
  rw [bits_Mul64] at hF
  refine WP.seq ?_
  refine WP.region mixed [[], []] [[], []] [[], []] [] []
    [val 4 (.int .u64 0), val 5 (.int .u64 0)] noG (by kernel_rfl)
    ⟨Stable.val _ _ _, Stable.val _ _ _, trivial⟩
    ⟨fun ρz wz hE hA _ _ => core_val rfl rfl (o_assign rfl),
     fun ρz wz hE hA _ _ => core_val rfl rfl (o_assign rfl), trivial⟩ ?_
  intro ρ1 w1 hE hN hf hr
  have hN := hN rfl
  have h0 := (hr 0 rfl).trans h0
  have h1 := (hr 1 rfl).trans h1
  have hW := hW.trans hN
  have hsz := Nat.le_trans hsz hN.size
  refine WP.seq ?_
  refine WP.region mixed [[], [0], [1]] [[], [0], [1]] [[0], [], []] [] []
    [val 14 (.int .u64 x_), val 15 (.int .u64 (andK .u64 x_ 4294967295)), val 6 (.int .u64 (andK .u64 x_ 4294967295))] noG (by kernel_rfl)
    ⟨Stable.val _ _ _, Stable.val _ _ _, Stable.val _ _ _, trivial⟩
    ⟨fun ρz wz hE hA ⟨e0, _⟩ _ => core_val rfl rfl (o_move (e0.trans h0)),
     fun ρz wz hE hA _ ⟨u0, _⟩ => core_val rfl rfl (o_and u0 rfl rfl),
     fun ρz wz hE hA _ ⟨u1, _⟩ => core_val rfl rfl (o_assign u1), trivial⟩ ?_
  intro ρ2 w2 hE hN hf hr
  have hN := hN rfl
  have h0 := (hr 0 rfl).trans h0
  have h1 := (hr 1 rfl).trans h1
  have h6 : ρ2 6 = .int .u64 (andK .u64 x_ 4294967295) := hf 2 rfl
  have hW := hW.trans hN
  have hsz := Nat.le_trans hsz hN.size
  refine WP.seq ?_
  refine WP.region mixed [[], [0], [1]] [[], [0], [1]] [[0], [], []] [] []
    [val 16 (.int .u64 x_), val 17 (.int .u64 (shrK .u64 x_ 32)), val 7 (.int .u64 (shrK .u64 x_ 32))] noG (by kernel_rfl)
    ⟨Stable.val _ _ _, Stable.val _ _ _, Stable.val _ _ _, trivial⟩
    ⟨fun ρz wz hE hA ⟨e0, _⟩ _ => core_val rfl rfl (o_move (e0.trans h0)),
     fun ρz wz hE hA _ ⟨u0, _⟩ => core_val rfl rfl (o_shr u0 rfl (by decide) rfl),
     fun ρz wz hE hA _ ⟨u1, _⟩ => core_val rfl rfl (o_assign u1), trivial⟩ ?_
  intro ρ3 w3 hE hN hf hr
  have hN := hN rfl
  have h0 := (hr 0 rfl).trans h0
  have h1 := (hr 1 rfl).trans h1
  have h6 := (hr 6 rfl).trans h6
  have h7 : ρ3 7 = .int .u64 (shrK .u64 x_ 32) := hf 2 rfl
  have hW := hW.trans hN
  have hsz := Nat.le_trans hsz hN.size
  refine WP.seq ?_
  refine WP.region mixed [[], [0], [1]] [[], [0], [1]] [[1], [], []] [] []
    [val 18 (.int .u64 y_), val 19 (.int .u64 (andK .u64 y_ 4294967295)), val 8 (.int .u64 (andK .u64 y_ 4294967295))] noG (by kernel_rfl)
    ⟨Stable.val _ _ _, Stable.val _ _ _, Stable.val _ _ _, trivial⟩
    ⟨fun ρz wz hE hA ⟨e1, _⟩ _ => core_val rfl rfl (o_move (e1.trans h1)),
     fun ρz wz hE hA _ ⟨u0, _⟩ => core_val rfl rfl (o_and u0 rfl rfl),
     fun ρz wz hE hA _ ⟨u1, _⟩ => core_val rfl rfl (o_assign u1), trivial⟩ ?_
  intro ρ4 w4 hE hN hf hr
  have hN := hN rfl
  have h0 := (hr 0 rfl).trans h0
  have h1 := (hr 1 rfl).trans h1
  have h6 := (hr 6 rfl).trans h6
  have h7 := (hr 7 rfl).trans h7
  have h8 : ρ4 8 = .int .u64 (andK .u64 y_ 4294967295) := hf 2 rfl
  have hW := hW.trans hN
  have hsz := Nat.le_trans hsz hN.size
  refine WP.seq ?_
  refine WP.region mixed [[], [0], [1]] [[], [0], [1]] [[1], [], []] [] []
    [val 20 (.int .u64 y_), val 21 (.int .u64 (shrK .u64 y_ 32)), val 9 (.int .u64 (shrK .u64 y_ 32))] noG (by kernel_rfl)
    ⟨Stable.val _ _ _, Stable.val _ _ _, Stable.val _ _ _, trivial⟩
    ⟨fun ρz wz hE hA ⟨e1, _⟩ _ => core_val rfl rfl (o_move (e1.trans h1)),
     fun ρz wz hE hA _ ⟨u0, _⟩ => core_val rfl rfl (o_shr u0 rfl (by decide) rfl),
     fun ρz wz hE hA _ ⟨u1, _⟩ => core_val rfl rfl (o_assign u1), trivial⟩ ?_
  intro ρ5 w5 hE hN hf hr
  have hN := hN rfl
  have h0 := (hr 0 rfl).trans h0
  have h1 := (hr 1 rfl).trans h1
  have h6 := (hr 6 rfl).trans h6
  have h7 := (hr 7 rfl).trans h7
  have h8 := (hr 8 rfl).trans h8
  have h9 : ρ5 9 = .int .u64 (shrK .u64 y_ 32) := hf 2 rfl
  have hW := hW.trans hN
  have hsz := Nat.le_trans hsz hN.size
  refine WP.seq ?_
  refine WP.region mixed [[], [], [0, 1], [2]] [[], [], [0, 1], [2]] [[6], [8], [], []] [] []
    [val 22 (.int .u64 (andK .u64 x_ 4294967295)), val 23 (.int .u64 (andK .u64 y_ 4294967295)), val 24 (.int .u64 (u64 (andK .u64 x_ 4294967295 * (andK .u64 y_ 4294967295)))), val 10 (.int .u64 (u64 (andK .u64 x_ 4294967295 * (andK .u64 y_ 4294967295))))] noG (by kernel_rfl)
    ⟨Stable.val _ _ _, Stable.val _ _ _, Stable.val _ _ _, Stable.val _ _ _, trivial⟩
    ⟨fun ρz wz hE hA ⟨e6, _⟩ _ => core_val rfl rfl (o_move (e6.trans h6)),
     fun ρz wz hE hA ⟨e8, _⟩ _ => core_val rfl rfl (o_move (e8.trans h8)),
     fun ρz wz hE hA _ ⟨u0, u1, _⟩ => core_val rfl rfl (o_mul u0 u1 rfl),
     fun ρz wz hE hA _ ⟨u2, _⟩ => core_val rfl rfl (o_assign u2), trivial⟩ ?_
  intro ρ6 w6 hE hN hf hr
  have hN := hN rfl
  have h0 := (hr 0 rfl).trans h0
  have h1 := (hr 1 rfl).trans h1
  have h6 := (hr 6 rfl).trans h6
  have h7 := (hr 7 rfl).trans h7
  have h8 := (hr 8 rfl).trans h8
  have h9 := (hr 9 rfl).trans h9
  have h10 : ρ6 10 = .int .u64 (u64 (andK .u64 x_ 4294967295 * (andK .u64 y_ 4294967295))) := hf 3 rfl
  have hW := hW.trans hN
  have hsz := Nat.le_trans hsz hN.size
  refine WP.seq ?_
  refine WP.region mixed [[], [], [0, 1], [], [3], [2, 4], [5]] [[], [], [0, 1], [], [3], [2, 4], [5]] [[7], [8], [], [10], [], [], []] [] []
    [val 25 (.int .u64 (shrK .u64 x_ 32)), val 26 (.int .u64 (andK .u64 y_ 4294967295)), val 27 (.int .u64 (u64 (shrK .u64 x_ 32 * (andK .u64 y_ 4294967295)))), val 28 (.int .u64 (u64 (andK .u64 x_ 4294967295 * (andK .u64 y_ 4294967295)))), val 29 (.int .u64 (shrK .u64 (u64 (andK .u64 x_ 4294967295 * (andK .u64 y_ 4294967295))) 32)), val 30 (.int .u64 (u64 (u64 (shrK .u64 x_ 32 * (andK .u64 y_ 4294967295)) + shrK .u64 (u64 (andK .u64 x_ 4294967295 * (andK .u64 y_ 4294967295))) 32))), val 11 (.int .u64 (u64 (u64 (shrK .u64 x_ 32 * (andK .u64 y_ 4294967295)) + shrK .u64 (u64 (andK .u64 x_ 4294967295 * (andK .u64 y_ 4294967295))) 32)))] noG (by kernel_rfl)
    ⟨Stable.val _ _ _, Stable.val _ _ _, Stable.val _ _ _, Stable.val _ _ _, Stable.val _ _ _, Stable.val _ _ _, Stable.val _ _ _, trivial⟩
    ⟨fun ρz wz hE hA ⟨e7, _⟩ _ => core_val rfl rfl (o_move (e7.trans h7)),
     fun ρz wz hE hA ⟨e8, _⟩ _ => core_val rfl rfl (o_move (e8.trans h8)),
     fun ρz wz hE hA _ ⟨u0, u1, _⟩ => core_val rfl rfl (o_mul u0 u1 rfl),
     fun ρz wz hE hA ⟨e10, _⟩ _ => core_val rfl rfl (o_move (e10.trans h10)),
     fun ρz wz hE hA _ ⟨u3, _⟩ => core_val rfl rfl (o_shr u3 rfl (by decide) rfl),
     fun ρz wz hE hA _ ⟨u2, u4, _⟩ => core_val rfl rfl (o_add u2 u4 rfl),
     fun ρz wz hE hA _ ⟨u5, _⟩ => core_val rfl rfl (o_assign u5), trivial⟩ ?_
  intro ρ7 w7 hE hN hf hr
  have hN := hN rfl
  have h0 := (hr 0 rfl).trans h0
  have h1 := (hr 1 rfl).trans h1
  have h6 := (hr 6 rfl).trans h6
  have h7 := (hr 7 rfl).trans h7
  have h9 := (hr 9 rfl).trans h9
  have h11 : ρ7 11 = .int .u64 (u64 (u64 (shrK .u64 x_ 32 * (andK .u64 y_ 4294967295)) + shrK .u64 (u64 (andK .u64 x_ 4294967295 * (andK .u64 y_ 4294967295))) 32)) := hf 6 rfl
  have hW := hW.trans hN
  have hsz := Nat.le_trans hsz hN.size
  refine WP.seq ?_
  refine WP.region mixed [[], [0], [1]] [[], [0], [1]] [[11], [], []] [] []
    [val 31 (.int .u64 (u64 (u64 (shrK .u64 x_ 32 * (andK .u64 y_ 4294967295)) + shrK .u64 (u64 (andK .u64 x_ 4294967295 * (andK .u64 y_ 4294967295))) 32))), val 32 (.int .u64 (andK .u64 (u64 (u64 (shrK .u64 x_ 32 * (andK .u64 y_ 4294967295)) + shrK .u64 (u64 (andK .u64 x_ 4294967295 * (andK .u64 y_ 4294967295))) 32)) 4294967295)), val 12 (.int .u64 (andK .u64 (u64 (u64 (shrK .u64 x_ 32 * (andK .u64 y_ 4294967295)) + shrK .u64 (u64 (andK .u64 x_ 4294967295 * (andK .u64 y_ 4294967295))) 32)) 4294967295))] noG (by kernel_rfl)
    ⟨Stable.val _ _ _, Stable.val _ _ _, Stable.val _ _ _, trivial⟩
    ⟨fun ρz wz hE hA ⟨e11, _⟩ _ => core_val rfl rfl (o_move (e11.trans h11)),
     fun ρz wz hE hA _ ⟨u0, _⟩ => core_val rfl rfl (o_and u0 rfl rfl),
     fun ρz wz hE hA _ ⟨u1, _⟩ => core_val rfl rfl (o_assign u1), trivial⟩ ?_
  intro ρ8 w8 hE hN hf hr
  have hN := hN rfl
  have h0 := (hr 0 rfl).trans h0
  have h1 := (hr 1 rfl).trans h1
  have h6 := (hr 6 rfl).trans h6
  have h7 := (hr 7 rfl).trans h7
  have h9 := (hr 9 rfl).trans h9
  have h11 := (hr 11 rfl).trans h11
  have h12 : ρ8 12 = .int .u64 (andK .u64 (u64 (u64 (shrK .u64 x_ 32 * (andK .u64 y_ 4294967295)) + shrK .u64 (u64 (andK .u64 x_ 4294967295 * (andK .u64 y_ 4294967295))) 32)) 4294967295) := hf 2 rfl
  have hW := hW.trans hN
  have hsz := Nat.le_trans hsz hN.size
  refine WP.seq ?_
  refine WP.region mixed [[], [0], [1]] [[], [0], [1]] [[11], [], []] [] []
    [val 33 (.int .u64 (u64 (u64 (shrK .u64 x_ 32 * (andK .u64 y_ 4294967295)) + shrK .u64 (u64 (andK .u64 x_ 4294967295 * (andK .u64 y_ 4294967295))) 32))), val 34 (.int .u64 (shrK .u64 (u64 (u64 (shrK .u64 x_ 32 * (andK .u64 y_ 4294967295)) + shrK .u64 (u64 (andK .u64 x_ 4294967295 * (andK .u64 y_ 4294967295))) 32)) 32)), val 13 (.int .u64 (shrK .u64 (u64 (u64 (shrK .u64 x_ 32 * (andK .u64 y_ 4294967295)) + shrK .u64 (u64 (andK .u64 x_ 4294967295 * (andK .u64 y_ 4294967295))) 32)) 32))] noG (by kernel_rfl)
    ⟨Stable.val _ _ _, Stable.val _ _ _, Stable.val _ _ _, trivial⟩
    ⟨fun ρz wz hE hA ⟨e11, _⟩ _ => core_val rfl rfl (o_move (e11.trans h11)),
     fun ρz wz hE hA _ ⟨u0, _⟩ => core_val rfl rfl (o_shr u0 rfl (by decide) rfl),
     fun ρz wz hE hA _ ⟨u1, _⟩ => core_val rfl rfl (o_assign u1), trivial⟩ ?_
  intro ρ9 w9 hE hN hf hr
  have hN := hN rfl
  have h0 := (hr 0 rfl).trans h0
  have h1 := (hr 1 rfl).trans h1
  have h6 := (hr 6 rfl).trans h6
  have h7 := (hr 7 rfl).trans h7
  have h9 := (hr 9 rfl).trans h9
  have h12 := (hr 12 rfl).trans h12
  have h13 : ρ9 13 = .int .u64 (shrK .u64 (u64 (u64 (shrK .u64 x_ 32 * (andK .u64 y_ 4294967295)) + shrK .u64 (u64 (andK .u64 x_ 4294967295 * (andK .u64 y_ 4294967295))) 32)) 32) := hf 2 rfl
  have hW := hW.trans hN
  have hsz := Nat.le_trans hsz hN.size
  refine WP.seq ?_
  refine WP.region mixed [[], [], [], [1, 2], [0, 3], [0, 4]] [[], [], [], [1, 2], [0, 3], [4]] [[12], [6], [9], [], [], []] [] []
    [val 35 (.int .u64 (andK .u64 (u64 (u64 (shrK .u64 x_ 32 * (andK .u64 y_ 4294967295)) + shrK .u64 (u64 (andK .u64 x_ 4294967295 * (andK .u64 y_ 4294967295))) 32)) 4294967295)), val 36 (.int .u64 (andK .u64 x_ 4294967295)), val 37 (.int .u64 (shrK .u64 y_ 32)), val 38 (.int .u64 (u64 (andK .u64 x_ 4294967295 * (shrK .u64 y_ 32)))), val 39 (.int .u64 (u64 (andK .u64 (u64 (u64 (shrK .u64 x_ 32 * (andK .u64 y_ 4294967295)) + shrK .u64 (u64 (andK .u64 x_ 4294967295 * (andK .u64 y_ 4294967295))) 32)) 4294967295 + u64 (andK .u64 x_ 4294967295 * (shrK .u64 y_ 32))))), val 12 (.int .u64 (u64 (andK .u64 (u64 (u64 (shrK .u64 x_ 32 * (andK .u64 y_ 4294967295)) + shrK .u64 (u64 (andK .u64 x_ 4294967295 * (andK .u64 y_ 4294967295))) 32)) 4294967295 + u64 (andK .u64 x_ 4294967295 * (shrK .u64 y_ 32)))))] noG (by kernel_rfl)
    ⟨Stable.val _ _ _, Stable.val _ _ _, Stable.val _ _ _, Stable.val _ _ _, Stable.val _ _ _, Stable.val _ _ _, trivial⟩
    ⟨fun ρz wz hE hA ⟨e12, _⟩ _ => core_val rfl rfl (o_move (e12.trans h12)),
     fun ρz wz hE hA ⟨e6, _⟩ _ => core_val rfl rfl (o_move (e6.trans h6)),
     fun ρz wz hE hA ⟨e9, _⟩ _ => core_val rfl rfl (o_move (e9.trans h9)),
     fun ρz wz hE hA _ ⟨u1, u2, _⟩ => core_val rfl rfl (o_mul u1 u2 rfl),
     fun ρz wz hE hA _ ⟨u0, u3, _⟩ => core_val rfl rfl (o_add u0 u3 rfl),
     fun ρz wz hE hA _ ⟨u4, _⟩ => core_val rfl rfl (o_assign u4), trivial⟩ ?_
  intro ρ10 w10 hE hN hf hr
  have hN := hN rfl
  have h0 := (hr 0 rfl).trans h0
  have h1 := (hr 1 rfl).trans h1
  have h7 := (hr 7 rfl).trans h7
  have h9 := (hr 9 rfl).trans h9
  have h12 : ρ10 12 = .int .u64 (u64 (andK .u64 (u64 (u64 (shrK .u64 x_ 32 * (andK .u64 y_ 4294967295)) + shrK .u64 (u64 (andK .u64 x_ 4294967295 * (andK .u64 y_ 4294967295))) 32)) 4294967295 + u64 (andK .u64 x_ 4294967295 * (shrK .u64 y_ 32)))) := hf 5 rfl
  have h13 := (hr 13 rfl).trans h13
  have hW := hW.trans hN
  have hsz := Nat.le_trans hsz hN.size
  refine WP.seq ?_
  refine WP.region mixed [[], [], [0, 1], [], [2, 3], [], [5], [4, 6], [7]] [[], [], [0, 1], [], [2, 3], [], [5], [4, 6], [7]] [[7], [9], [], [13], [], [12], [], [], []] [] []
    [val 40 (.int .u64 (shrK .u64 x_ 32)), val 41 (.int .u64 (shrK .u64 y_ 32)), val 42 (.int .u64 (u64 (shrK .u64 x_ 32 * (shrK .u64 y_ 32)))), val 43 (.int .u64 (shrK .u64 (u64 (u64 (shrK .u64 x_ 32 * (andK .u64 y_ 4294967295)) + shrK .u64 (u64 (andK .u64 x_ 4294967295 * (andK .u64 y_ 4294967295))) 32)) 32)), val 44 (.int .u64 (u64 (u64 (shrK .u64 x_ 32 * (shrK .u64 y_ 32)) + shrK .u64 (u64 (u64 (shrK .u64 x_ 32 * (andK .u64 y_ 4294967295)) + shrK .u64 (u64 (andK .u64 x_ 4294967295 * (andK .u64 y_ 4294967295))) 32)) 32))), val 45 (.int .u64 (u64 (andK .u64 (u64 (u64 (shrK .u64 x_ 32 * (andK .u64 y_ 4294967295)) + shrK .u64 (u64 (andK .u64 x_ 4294967295 * (andK .u64 y_ 4294967295))) 32)) 4294967295 + u64 (andK .u64 x_ 4294967295 * (shrK .u64 y_ 32))))), val 46 (.int .u64 (shrK .u64 (u64 (andK .u64 (u64 (u64 (shrK .u64 x_ 32 * (andK .u64 y_ 4294967295)) + shrK .u64 (u64 (andK .u64 x_ 4294967295 * (andK .u64 y_ 4294967295))) 32)) 4294967295 + u64 (andK .u64 x_ 4294967295 * (shrK .u64 y_ 32)))) 32)), val 47 (.int .u64 (u64 (u64 (u64 (shrK .u64 x_ 32 * (shrK .u64 y_ 32)) + shrK .u64 (u64 (u64 (shrK .u64 x_ 32 * (andK .u64 y_ 4294967295)) + shrK .u64 (u64 (andK .u64 x_ 4294967295 * (andK .u64 y_ 4294967295))) 32)) 32) + shrK .u64 (u64 (andK .u64 (u64 (u64 (shrK .u64 x_ 32 * (andK .u64 y_ 4294967295)) + shrK .u64 (u64 (andK .u64 x_ 4294967295 * (andK .u64 y_ 4294967295))) 32)) 4294967295 + u64 (andK .u64 x_ 4294967295 * (shrK .u64 y_ 32)))) 32))), val 4 (.int .u64 (u64 (u64 (u64 (shrK .u64 x_ 32 * (shrK .u64 y_ 32)) + shrK .u64 (u64 (u64 (shrK .u64 x_ 32 * (andK .u64 y_ 4294967295)) + shrK .u64 (u64 (andK .u64 x_ 4294967295 * (andK .u64 y_ 4294967295))) 32)) 32) + shrK .u64 (u64 (andK .u64 (u64 (u64 (shrK .u64 x_ 32 * (andK .u64 y_ 4294967295)) + shrK .u64 (u64 (andK .u64 x_ 4294967295 * (andK .u64 y_ 4294967295))) 32)) 4294967295 + u64 (andK .u64 x_ 4294967295 * (shrK .u64 y_ 32)))) 32)))] noG (by kernel_rfl)
    ⟨Stable.val _ _ _, Stable.val _ _ _, Stable.val _ _ _, Stable.val _ _ _, Stable.val _ _ _, Stable.val _ _ _, Stable.val _ _ _, Stable.val _ _ _, Stable.val _ _ _, trivial⟩
    ⟨fun ρz wz hE hA ⟨e7, _⟩ _ => core_val rfl rfl (o_move (e7.trans h7)),
     fun ρz wz hE hA ⟨e9, _⟩ _ => core_val rfl rfl (o_move (e9.trans h9)),
     fun ρz wz hE hA _ ⟨u0, u1, _⟩ => core_val rfl rfl (o_mul u0 u1 rfl),
     fun ρz wz hE hA ⟨e13, _⟩ _ => core_val rfl rfl (o_move (e13.trans h13)),
     fun ρz wz hE hA _ ⟨u2, u3, _⟩ => core_val rfl rfl (o_add u2 u3 rfl),
     fun ρz wz hE hA ⟨e12, _⟩ _ => core_val rfl rfl (o_move (e12.trans h12)),
     fun ρz wz hE hA _ ⟨u5, _⟩ => core_val rfl rfl (o_shr u5 rfl (by decide) rfl),
     fun ρz wz hE hA _ ⟨u4, u6, _⟩ => core_val rfl rfl (o_add u4 u6 rfl),
     fun ρz wz hE hA _ ⟨u7, _⟩ => core_val rfl rfl (o_assign u7), trivial⟩ ?_
  intro ρ11 w11 hE hN hf hr
  have hN := hN rfl
  have h0 := (hr 0 rfl).trans h0
  have h1 := (hr 1 rfl).trans h1
  have h4 : ρ11 4 = .int .u64 (u64 (u64 (u64 (shrK .u64 x_ 32 * (shrK .u64 y_ 32)) + shrK .u64 (u64 (u64 (shrK .u64 x_ 32 * (andK .u64 y_ 4294967295)) + shrK .u64 (u64 (andK .u64 x_ 4294967295 * (andK .u64 y_ 4294967295))) 32)) 32) + shrK .u64 (u64 (andK .u64 (u64 (u64 (shrK .u64 x_ 32 * (andK .u64 y_ 4294967295)) + shrK .u64 (u64 (andK .u64 x_ 4294967295 * (andK .u64 y_ 4294967295))) 32)) 4294967295 + u64 (andK .u64 x_ 4294967295 * (shrK .u64 y_ 32)))) 32)) := hf 8 rfl
  have hW := hW.trans hN
  have hsz := Nat.le_trans hsz hN.size
  refine WP.seq ?_
  refine WP.region mixed [[], [], [0, 1], [2]] [[], [], [0, 1], [2]] [[0], [1], [], []] [] []
    [val 48 (.int .u64 x_), val 49 (.int .u64 y_), val 50 (.int .u64 (u64 (x_ * y_))), val 5 (.int .u64 (u64 (x_ * y_)))] noG (by kernel_rfl)
    ⟨Stable.val _ _ _, Stable.val _ _ _, Stable.val _ _ _, Stable.val _ _ _, trivial⟩
    ⟨fun ρz wz hE hA ⟨e0, _⟩ _ => core_val rfl rfl (o_move (e0.trans h0)),
     fun ρz wz hE hA ⟨e1, _⟩ _ => core_val rfl rfl (o_move (e1.trans h1)),
     fun ρz wz hE hA _ ⟨u0, u1, _⟩ => core_val rfl rfl (o_mul u0 u1 rfl),
     fun ρz wz hE hA _ ⟨u2, _⟩ => core_val rfl rfl (o_assign u2), trivial⟩ ?_
  intro ρ12 w12 hE hN hf hr
  have hN := hN rfl
  have h4 := (hr 4 rfl).trans h4
  have h5 : ρ12 5 = .int .u64 (u64 (x_ * y_)) := hf 3 rfl
  have hW := hW.trans hN
  have hsz := Nat.le_trans hsz hN.size
  refine WP.ret ?_
  show retQ Tryd.prog 51 Tryd.f50 (fun v w1 => v = .tuple #[.int .u64 r.1, .int .u64 r.2] ∧ Ext noG w0 w1) .ret ρ12 w12
  obtain rfl := Option.some.inj hF
  exact res2 rfl (by decide) (by decide) h4 h5 ⟨rfl, hW⟩
end Go.PL
