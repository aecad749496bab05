/- The translated code computes the Lean functions (printed by a program). -/
import Derived.Test.YtndkbfbjjnhgoaaGreatW1
set_option linter.unusedVariables false
set_option linter.unusedSimpArgs false
set_option maxRecDepth 10000
namespace Go.PL
open Go Go.Proofs

set_option maxHeartbeats 4000000 in
theorem decision_effective_ok {w0 : World} (d_ : List Claim) (i_ : Int) (p_ : Int) {v_d_ : Value} (H_d_ : RepSl Claim.R noG w0 v_d_ d_) {r : (List Claim)} (hF : decision_effective d_ i_ p_ = some r) :
    Calls Tryz.prog 22 #[v_d_, .int .i64 i_, .int .i64 p_] w0 fun e w1 => ∃ v, e = .returned v ∧ Ext noG w0 w1 ∧ Own w0.heap.size 28 6 Claim.cells w1 v r := by
  refine (Calls.start (P := Tryz.prog) (args := [v_d_, .int .i64 i_, .int .i64 p_]) (R := fun v w1 => Own w0.heap.size 28 6 Claim.cells w1 v r ∧ Ext noG w0 w1) (n := 69) (w := w0) Tryz.func22 rfl rfl (Nat.le_of_ble_eq_true rfl) (fun ρ hargs => ?_)).mono (fun e w1 ⟨v, he, hv, hE⟩ => ⟨v, he, hE, hv⟩)
  have h0 := hargs 0 _ rfl
  have h1 := hargs 1 _ rfl
  have h2 := hargs 2 _ rfl
  have hW := Ext.refl noG w0
  obtain ⟨_, _, hs_H_d_, _, _⟩ := RepSl.shape H_d_
  have H_d_ := H_d_.start
  rw [decision_effective] at hF
  refine WP.seq (WP.rb mixed [[]] [[]] [(6, .slice none 0 0)] (by kernel_rfl) ⟨aC rfl rfl (fun _ => rfl), trivial⟩ ?_)
  intro ρ1 w1 hN hf hr
  obtain ⟨h0, h1, h2⟩ := k3 hr h0 h1 h2 rfl
  have H_d_ := H_d_.exn hN
  have hW := hW.trans hN
  refine WP.seq (WP.rb mixed [[]] [[]] [(7, .slice none 0 0)] (by kernel_rfl) ⟨aC rfl rfl (fun _ => rfl), trivial⟩ ?_)
  intro ρ2 w2 hN hf hr
  have h7 : ρ2 7 = .slice none 0 0 := hf 0 rfl
  have O7 : Own w0.heap.size 28 6 Claim.cells w2 (.slice none 0 0) [] := Own.nil _ _ _ _ _
  obtain ⟨h0, h1, h2⟩ := k3 hr h0 h1 h2 rfl
  have H_d_ := H_d_.exn hN
  have hW := hW.trans hN
  refine WP.seq (WP.rg mixed [[]] [[]] [[]] [(8, fun u wz => ∃ b, u = .pointer (some ⟨b, 0, none⟩) ∧ w2.heap.size ≤ b ∧ Mb wz b 70 ((List.replicate 6 false).flatMap (fun x : Bool => [Value.bool x])))] (by kernel_rfl) ⟨fun _ _ _ hE ⟨b, hb, hs, hM⟩ => ⟨b, hb, hs, hM.exn hE⟩, trivial⟩ ⟨fun ρz wz hE hA _ _ => core_new rfl rfl hE (o_alloc (al_70 _)), trivial⟩ ?_)
  intro ρ3 w3 hN hf hr
  obtain ⟨b8_, h8, hge_b8_, Hb_b8_⟩ := hf 0 rfl
  obtain ⟨h0, h1, h2, h7⟩ := k4 hr h0 h1 h2 h7 rfl
  have Oo_O7 := O7
  have H_d_ := H_d_.exn hN
  have hnb_O7_b8_ : Value.ownBlock (.slice none 0 0) ≠ some b8_ := by simp [Value.ownBlock]
  have hB_b8_ : w0.heap.size ≤ b8_ := Nat.le_trans hW.size hge_b8_
  have hW := hW.trans hN
  have O7 := O7.exn hN
  have hlen_b8_ : (List.replicate 6 false).length = 6 := by simp
  refine WP.seq (WP.rg mixed [[]] [[]] [[]] [(9, fun u wz => ∃ b, u = .pointer (some ⟨b, 0, none⟩) ∧ w3.heap.size ≤ b ∧ Mb wz b 71 ((List.replicate 100 false).flatMap (fun x : Bool => [Value.bool x])))] (by kernel_rfl) ⟨fun _ _ _ hE ⟨b, hb, hs, hM⟩ => ⟨b, hb, hs, hM.exn hE⟩, trivial⟩ ⟨fun ρz wz hE hA _ _ => core_new rfl rfl hE (o_alloc (al_71 _)), trivial⟩ ?_)
  intro ρ4 w4 hN hf hr
  obtain ⟨b9_, h9, hge_b9_, Hb_b9_⟩ := hf 0 rfl
  obtain ⟨h0, h1, h2, h7, h8⟩ := k5 hr h0 h1 h2 h7 h8 rfl
  have Oo_O7 := O7
  have Hb_b8_n := Hb_b8_.exn hN
  have H_d_ := H_d_.exn hN
  have hnb_O7_b8_ : Value.ownBlock (.slice none 0 0) ≠ some b8_ := by simp [Value.ownBlock]
  have hnb_O7_b9_ : Value.ownBlock (.slice none 0 0) ≠ some b9_ := by simp [Value.ownBlock]
  have hB_b9_ : w0.heap.size ≤ b9_ := Nat.le_trans hW.size hge_b9_
  have hne_b8__b9_ : b8_ ≠ b9_ := Nat.ne_of_lt (Nat.lt_of_lt_of_le Hb_b8_.lt hge_b9_)
  have hW := hW.trans hN
  have O7 := O7.exn hN
  have Hb_b8_ := Hb_b8_n
  have hlen_b9_ : (List.replicate 100 false).length = 100 := by simp
  refine WP.seq (WP.seq (WP.rb mixed [[], [0], []] [[0], [], []] [(12, v_d_), (13, .int .i64 (d_.length : Int)), (14, .int .i64 0)] (by kernel_rfl) ⟨mE rfl rfl h0,
 fun ρz wz hE hA _ ⟨u0, _⟩ => core_val rfl rfl (o_len (u0.trans hs_H_d_) len_23),
 mC rfl rfl (fun _ => rfl), trivial⟩ ?_))
  intro ρ5 w5 hN hf hr
  have h12 := hv hf 0 rfl rfl
  have h13 := hv hf 1 rfl rfl
  have h14 := hv hf 2 rfl rfl
  obtain ⟨h1, h2, h7, h8, h9⟩ := k5 hr h1 h2 h7 h8 h9 rfl
  have Oo_O7 := O7
  have Hb_b8_n := Hb_b8_.exn hN
  have Hb_b9_n := Hb_b9_.exn hN
  have H_d_ := H_d_.exn hN
  have hnb_O7_b8_ : Value.ownBlock (.slice none 0 0) ≠ some b8_ := by simp [Value.ownBlock]
  have hnb_O7_b9_ : Value.ownBlock (.slice none 0 0) ≠ some b9_ := by simp [Value.ownBlock]
  have hW := hW.trans hN
  have O7 := O7.exn hN
  have Hb_b8_ := Hb_b8_n
  have Hb_b9_ := Hb_b9_n
  refine WP.block (WP.loop (fun k_ ρ w => ∃ x : List Claim, ∃ x2 : Int, ∃ v : List Bool, ∃ v2 : List Bool, ∃ v7_ : Value, ρ 1 = .int .i64 i_ ∧ ρ 2 = .int .i64 p_ ∧ ρ 7 = v7_ ∧ ρ 8 = .pointer (some ⟨b8_, 0, none⟩) ∧ ρ 9 = .pointer (some ⟨b9_, 0, none⟩) ∧ ρ 12 = v_d_ ∧ ρ 13 = .int .i64 (d_.length : Int) ∧ ρ 14 = .int .i64 x2 ∧ Mb w b8_ 70 (v2.flatMap (fun x : Bool => [Value.bool x])) ∧ Mb w b9_ 71 (v.flatMap (fun x : Bool => [Value.bool x])) ∧ b8_ ≠ b9_ ∧ v2.length = 6 ∧ v.length = 100 ∧ RepSl Claim.R (gfr noG w0) w v_d_ d_ ∧ Own w0.heap.size 28 6 Claim.cells w v7_ x ∧ Value.ownBlock v7_ ≠ some b8_ ∧ Value.ownBlock v7_ ≠ some b9_ ∧ Ext noG w0 w ∧ loopC k_ (decision_effective_l d_ i_ p_) (x, x2, v, v2) = some r) FU ⟨[], 0, (List.replicate 100 false), (List.replicate 6 false), .slice none 0 0, h1, h2, h7, h8, h9, h12, h13, h14, Hb_b8_, Hb_b9_, hne_b8__b9_, hlen_b8_, hlen_b9_, H_d_, O7, hnb_O7_b8_, hnb_O7_b9_, hW, hF⟩ (fun _ _ h => by obtain ⟨_, _, _, _, _, _, _, _, _, _, _, _, _, _, _, _, _, _, _, _, _, _, _, h⟩ := h; cases h) ?_)
  rintro k_ ρ6 w6 ⟨x, x2, v, v2, v7_, h1, h2, h7, h8, h9, h12, h13, h14, Hb_b8_, Hb_b9_, hne_b8__b9_, hlen_b8_, hlen_b9_, H_d_, O7, hnb_O7_b8_, hnb_O7_b9_, hW, hF⟩
  have hF : decision_effective_l d_ i_ p_ (loopC k_ (decision_effective_l d_ i_ p_)) (x, x2, v, v2) = some r := hF
  generalize hrec_ : loopC k_ (decision_effective_l d_ i_ p_) = rec_ at hF
  rw [decision_effective_l] at hF
  refine WP.seq (WP.rb mixed [[]] [[14, 13]] [(15, .bool (decide (x2 < (d_.length : Int))))] (by kernel_rfl) ⟨fun ρz wz hE hA ⟨e14, e13, _⟩ _ => core_val rfl rfl (o_lss (e14.trans h14) (e13.trans h13) rfl), trivial⟩ ?_)
  intro ρ7 w7 hN hf hr
  have h15 := hv hf 0 rfl rfl
  obtain ⟨h1, h2, h7, h8, h9, h12⟩ := k6 hr h1 h2 h7 h8 h9 h12 rfl
  obtain ⟨h13, h14⟩ := k2 hr h13 h14 rfl
  have Oo_O7 := O7
  have Hb_b8_n := Hb_b8_.exn hN
  have Hb_b9_n := Hb_b9_.exn hN
  have H_d_ := H_d_.exn hN
  have hW := hW.trans hN
  have O7 := O7.exn hN
  have Hb_b8_ := Hb_b8_n
  have Hb_b9_ := Hb_b9_n
  refine WP.seq (WP.cond rfl h15 (fun hb => ?_) (fun hb => ?_))
  · have hF := (if_pos hb).symm.trans hF
    refine WP.skip (WP.seqJ (fun ρ w => ∃ x3 : List Claim, ∃ v3 : List Bool, ∃ v4 : List Bool, ∃ v7_2 : Value, ρ 1 = .int .i64 i_ ∧ ρ 2 = .int .i64 p_ ∧ ρ 7 = v7_2 ∧ ρ 8 = .pointer (some ⟨b8_, 0, none⟩) ∧ ρ 9 = .pointer (some ⟨b9_, 0, none⟩) ∧ ρ 12 = v_d_ ∧ ρ 13 = .int .i64 (d_.length : Int) ∧ ρ 14 = .int .i64 x2 ∧ Mb w b8_ 70 (v4.flatMap (fun x : Bool => [Value.bool x])) ∧ Mb w b9_ 71 (v3.flatMap (fun x : Bool => [Value.bool x])) ∧ b8_ ≠ b9_ ∧ v4.length = 6 ∧ v3.length = 100 ∧ RepSl Claim.R (gfr noG w0) w v_d_ d_ ∧ Own w0.heap.size 28 6 Claim.cells w v7_2 x3 ∧ Value.ownBlock v7_2 ≠ some b8_ ∧ Value.ownBlock v7_2 ≠ some b9_ ∧ Ext noG w0 w ∧ decision_effective_j x2 rec_ x3 v3 v4 = some r) ?_ ?_)
    · refine WP.block (WP.seq ?_)
      obtain ⟨y, hy, hF⟩ := obind hF
      obtain ⟨ay, cy, hvy, hiy, hAy⟩ := RepSl.getF H_d_ hy
      refine WP.region mixed [[], [0], [], [1, 2]] [[], [0], [], [1, 2]] [[12, 14], [], [], []] [3] [(2, 3)] [val 16 (.pointer (some (ay.add (Int.toNat x2 * 6)))), val 17 (Claim.val y), (11, fun u wz => ∃ b, u = .pointer (some ⟨b, 0, none⟩) ∧ w7.heap.size ≤ b ∧ Mb wz b 28 (Claim.cells (⟨0, 0, 0, 0, 0, 0⟩ : Claim))), (11, fun u wz => ∃ b, u = .pointer (some ⟨b, 0, none⟩) ∧ w7.heap.size ≤ b ∧ Mb wz b 28 (Claim.cells y))] (fun b => w7.heap.size ≤ b) (by kernel_rfl) ⟨sV, sV, fun _ _ _ hE ⟨b, hb, hs, hM⟩ => ⟨b, hb, hs, hM.exn hE⟩, fun _ _ _ hE ⟨b, hb, hs, hM⟩ => ⟨b, hb, hs, hM.exn hE⟩, trivial⟩ ⟨fun ρz wz hE hA ⟨e12, e14, _⟩ _ => core_val rfl rfl (o_indexAddr ((e12.trans h12).trans hvy) (e14.trans h14) (ia_23 hiy)),
 fun ρz wz hE hA _ ⟨u0, _⟩ => core_val rfl rfl (o_load u0 (run_loadN (cs := (Claim.cells y)) (lr_28 _ _) rfl ((hAy.exn hE.fresh).ca))),
 fun ρz wz hE hA _ _ => core_new rfl rfl hE (o_alloc (al_28 _)),
 fun ρz wz hE hA _ ⟨u1, u2, _⟩ => core_storeNew rfl rfl rfl rfl u1 u2 (fun a w => st_28 _ a w) rfl (one_28 _), trivial⟩ ?_
      intro ρ10 w10 hE hN hf hr
      have hN := hE.fresh
      obtain ⟨b11_, h11, hge_b11_, Hb_b11_⟩ := hf 3 rfl
      obtain ⟨h1, h2, h7, h8, h9, h12⟩ := k6 hr h1 h2 h7 h8 h9 h12 rfl
      obtain ⟨h13, h14⟩ := k2 hr h13 h14 rfl
      have Oo_O7 := O7
      have Hb_b8_n := Hb_b8_.exn hN
      have Hb_b9_n := Hb_b9_.exn hN
      have H_d_ := H_d_.exn hN
      have hnb_O7_b11_ : Value.ownBlock v7_ ≠ some b11_ := fun h => absurd (O7.lt h).2 (Nat.not_lt.2 hge_b11_)
      have hB_b11_ : w0.heap.size ≤ b11_ := Nat.le_trans hW.size hge_b11_
      have hne_b11__b8_ : b11_ ≠ b8_ := (Nat.ne_of_lt (Nat.lt_of_lt_of_le Hb_b8_.lt hge_b11_)).symm
      have hne_b11__b9_ : b11_ ≠ b9_ := (Nat.ne_of_lt (Nat.lt_of_lt_of_le Hb_b9_.lt hge_b11_)).symm
      have hW := hW.trans hN
      have O7 := O7.exn hN
      have Hb_b8_ := Hb_b8_n
      have Hb_b9_ := Hb_b9_n
      refine WP.block (WP.seq (WP.rb mixed [[], [0], [1], [2]] [[11], [], [], []] [(19, .pointer (some ((⟨b11_, 0, none⟩ : Addr).add 3))), (20, .int .i64 y.Benefit), (21, .bool (y.Benefit == 4)), (18, .bool (y.Benefit == 4))] (by kernel_rfl) ⟨fun ρz wz hE hA ⟨e11, _⟩ _ => core_val rfl rfl (o_fieldAddr (e11.trans h11) (fa_28_3 _ _)),
 fun ρz wz hE hA _ ⟨u0, _⟩ => core_val rfl rfl (o_load u0 (run_load1 (lr_3 _ _) (CA.sub ((Hb_b11_.exn (hA rfl)).ca) 3 1))),
 fun ρz wz hE hA _ ⟨u1, _⟩ => core_val rfl rfl (o_eql u1 rfl rfl),
 aU rfl rfl rfl, trivial⟩ ?_))
      intro ρ11 w11 hN hf hr
      have h18 := hv hf 3 rfl rfl
      obtain ⟨h1, h2, h7, h8, h9, h12⟩ := k6 hr h1 h2 h7 h8 h9 h12 rfl
      obtain ⟨h13, h14, h11⟩ := k3 hr h13 h14 h11 rfl
      have Oo_O7 := O7
      have Hb_b8_n := Hb_b8_.exn hN
      have Hb_b9_n := Hb_b9_.exn hN
      have Hb_b11_n := Hb_b11_.exn hN
      have H_d_ := H_d_.exn hN
      have hW := hW.trans hN
      have O7 := O7.exn hN
      have Hb_b8_ := Hb_b8_n
      have Hb_b9_ := Hb_b9_n
      have Hb_b11_ := Hb_b11_n
      refine WP.cond rfl h18 (fun hb => ?_) (fun hb => ?_)
      · have hF := (if_pos hb).symm.trans hF
        refine WP.seq ?_
        obtain ⟨z, hz, hF⟩ := obind hF
        obtain ⟨c, hc, hF⟩ := obind hF
        obtain ⟨y2, hy2, hc⟩ := andB hc
        have hc := andE hc
        refine WP.rb mixed [[], [], [0, 1], [2], [3], [3, 4], [3, 5], [3, 6], [3, 7], [3, 8]] [[11], [2], [], [], [11], [], [9], [], [], []] [(22, Claim.val y), (23, .int .i64 p_), (24, .bool z), (25, .bool z), (26, gv (z) (.pointer (some ((⟨b11_, 0, none⟩ : Addr).add 4)))), (27, gv (z) (.int .i64 y.Ref)), (28, gv (z) (.pointer (some ((⟨b9_, 0, none⟩ : Addr).add (Int.toNat y.Ref * 1))))), (29, gv (z) (.bool y2)), (30, gv (z) (.bool (!y2))), (31, .bool c)] (by kernel_rfl) ⟨fun ρz wz hE hA ⟨e11, _⟩ _ => core_val rfl rfl (o_load (e11.trans h11) (run_loadN (cs := (Claim.cells y)) (lr_28 _ _) rfl ((Hb_b11_.exn (hA rfl)).ca))),
 mE rfl rfl h2,
 fun ρz wz hE hA _ ⟨u0, u1, _⟩ => core_call rfl (call_args2 u0 u1) cf_44 (decision_started_ok  _ _  hz),
 mU rfl rfl rfl,
 fun ρz wz hE hA ⟨e11, _⟩ ⟨u3, _⟩ => gIf rfl rfl (yT rfl u3) fun gc F hF => core_val rfl hF (o_fieldAddr (e11.trans h11) (fa_28_4 _ _)),
 fun ρz wz hE hA _ ⟨u3, u4, _⟩ => gIf rfl rfl (yT rfl u3) fun gc F hF => core_val rfl hF (o_load (gt gc u4) (run_load1 (lr_3 _ _) (CA.sub ((Hb_b11_.exn (hA rfl)).ca) 4 1))),
 fun ρz wz hE hA ⟨e9, _⟩ ⟨u3, u5, _⟩ => gIf rfl rfl (yT rfl u3) fun gc F hF => core_val rfl hF (o_indexAddr (e9.trans h9) (gt gc u5) (ia_71 (arr_lt (hy2 gc) (by first | exact hlen_b9_ | simp)))),
 fun ρz wz hE hA _ ⟨u3, u6, _⟩ => gIf rfl rfl (yT rfl u3) fun gc F hF => core_val rfl hF (o_load (gt gc u6) (run_load1 (lr_4 _ _) (CA.elem (cells := fun x : Bool => [Value.bool x]) 1 (fun _ => rfl) ((Hb_b9_.exn (hA rfl)).ca) (hy2 gc)))),
 fun ρz wz hE hA _ ⟨u3, u7, _⟩ => gIf rfl rfl (yT rfl u3) fun gc F hF => core_val rfl hF (o_not (gt gc u7) rfl),
 fun ρz wz hE hA _ ⟨u3, u8, _⟩ => core_valE rfl rfl (congrArg Value.bool hc) (o_pick_and u3 u8 rfl), trivial⟩ ?_
        intro ρ12 w12 hN hf hr
        have h31 := hv hf 9 rfl rfl
        obtain ⟨h1, h2, h7, h8, h9, h12⟩ := k6 hr h1 h2 h7 h8 h9 h12 rfl
        obtain ⟨h13, h14, h11⟩ := k3 hr h13 h14 h11 rfl
        have Oo_O7 := O7
        have Hb_b8_n := Hb_b8_.exn hN
        have Hb_b9_n := Hb_b9_.exn hN
        have Hb_b11_n := Hb_b11_.exn hN
        have H_d_ := H_d_.exn hN
        have hW := hW.trans hN
        have O7 := O7.exn hN
        have Hb_b8_ := Hb_b8_n
        have Hb_b9_ := Hb_b9_n
        have Hb_b11_ := Hb_b11_n
        refine WP.cond rfl h31 (fun hb => ?_) (fun hb => ?_)
        · have hF := (if_pos hb).symm.trans hF
          refine WP.seq ?_
          obtain ⟨y3, hy3, hF⟩ := obind hF
          refine WP.region mixed [[], [0], [1], [1, 2]] [[], [0], [1], [2]] [[11], [], [9], []] [3] [] [val 32 (.pointer (some ((⟨b11_, 0, none⟩ : Addr).add 4))), val 33 (.int .i64 y.Ref), val 34 (.pointer (some ((⟨b9_, 0, none⟩ : Addr).add (Int.toNat y.Ref * 1)))), (34, fun _ wz => Mb wz b9_ 71 ((setI v y.Ref true).flatMap (fun x : Bool => [Value.bool x])))] (fun x => x = b9_) (by kernel_rfl) ⟨sV, sV, sV, fun _ _ _ hE hM => hM.exn hE, trivial⟩ ⟨fun ρz wz hE hA ⟨e11, _⟩ _ => core_val rfl rfl (o_fieldAddr (e11.trans h11) (fa_28_4 _ _)),
 fun ρz wz hE hA _ ⟨u0, _⟩ => core_val rfl rfl (o_load u0 (run_load1 (lr_3 _ _) (CA.sub ((Hb_b11_.exn (hA rfl)).ca) 4 1))),
 fun ρz wz hE hA ⟨e9, _⟩ ⟨u1, _⟩ => core_val rfl rfl (o_indexAddr (e9.trans h9) u1 (ia_71 (arr_lt hy3 (by first | exact hlen_b9_ | simp)))),
 fun ρz wz hE hA _ ⟨u2, _⟩ => core_storePart (k := (Int.toNat y.Ref * 1)) (vs := [Value.bool true]) (cs0 := (v.flatMap (fun x : Bool => [Value.bool x]))) rfl rfl (fun _ h => h) u2 rfl rfl (Hb_b9_.exn (hA rfl)) (fun a w => st_4 _ a w) (arr_room (cells := fun x : Bool => [Value.bool x]) (fun _ => rfl) hy3 rfl) (flatMap_setI (cells := fun x : Bool => [Value.bool x]) (fun _ => rfl) hy3 rfl) (one_4 _), trivial⟩ ?_
          intro ρ13 w13 hE hN hf hr
          obtain ⟨h1, h2, h7, h8, h9, h12⟩ := k6 hr h1 h2 h7 h8 h9 h12 rfl
          obtain ⟨h13, h14, h11⟩ := k3 hr h13 h14 h11 rfl
          have Oo_O7 := O7
          have Hb_b8_n := Hb_b8_.ext hE (fun h => hne_b8__b9_ h)
          have Hb_b9_n := hf 3 rfl
          have hlen_b9_ : (setI v y.Ref true).length = 100 := by simp [length_setI, hlen_b9_]
          have Hb_b11_n := Hb_b11_.ext hE (fun h => hne_b11__b9_ h)
          have H_d_ := H_d_.over hE (fun b hb => hb.symm ▸ hB_b9_)
          have hW := Ext.own hW hE (fun x h => h.symm ▸ hB_b9_)
          have O7 := O7.ext hE (fun b hb hg => hnb_O7_b9_ (hg ▸ hb))
          have Hb_b8_ := Hb_b8_n
          have Hb_b9_ := Hb_b9_n
          have Hb_b11_ := Hb_b11_n
          refine WP.seq (WP.rb mixed [[], [0], [], [1, 2]] [[11], [], [1], []] [(35, .pointer (some ((⟨b11_, 0, none⟩ : Addr).add 2))), (36, .int .i64 y.Person), (37, .int .i64 i_), (38, .bool (y.Person == i_))] (by kernel_rfl) ⟨fun ρz wz hE hA ⟨e11, _⟩ _ => core_val rfl rfl (o_fieldAddr (e11.trans h11) (fa_28_2 _ _)),
 fun ρz wz hE hA _ ⟨u0, _⟩ => core_val rfl rfl (o_load u0 (run_load1 (lr_3 _ _) (CA.sub ((Hb_b11_.exn (hA rfl)).ca) 2 1))),
 mE rfl rfl h1,
 fun ρz wz hE hA _ ⟨u1, u2, _⟩ => core_val rfl rfl (o_eql u1 u2 rfl), trivial⟩ ?_)
          intro ρ14 w14 hN hf hr
          have h38 := hv hf 3 rfl rfl
          obtain ⟨h1, h2, h7, h8, h9, h12⟩ := k6 hr h1 h2 h7 h8 h9 h12 rfl
          obtain ⟨h13, h14, h11⟩ := k3 hr h13 h14 h11 rfl
          have Oo_O7 := O7
          have Hb_b8_n := Hb_b8_.exn hN
          have Hb_b9_n := Hb_b9_.exn hN
          have Hb_b11_n := Hb_b11_.exn hN
          have H_d_ := H_d_.exn hN
          have hW := hW.trans hN
          have O7 := O7.exn hN
          have Hb_b8_ := Hb_b8_n
          have Hb_b9_ := Hb_b9_n
          have Hb_b11_ := Hb_b11_n
          refine WP.cond rfl h38 (fun hb => ?_) (fun hb => ?_)
          · have hF := (if_pos hb).symm.trans hF
            obtain ⟨l, hl, hF⟩ := obind hF
            refine WP.region mixed [[], [], [1], [0, 1, 2], [0, 3]] [[], [], [1], [0, 2], [3]] [[7], [11], [], [], []] [3] [] [val 39 (v7_), val 40 (Claim.val y), (41, fun u wz => ∃ b, u = .slice (some ⟨b, 0, none⟩) 1 1 ∧ w14.heap.size ≤ b ∧ Mb wz b 28 (([y]).flatMap Claim.cells)), (42, fun u wz => Own w0.heap.size 28 6 Claim.cells wz u l ∧ ∀ b, u.ownBlock = some b → (v7_.ownBlock = some b ∨ w14.heap.size ≤ b)), (7, fun u wz => Own w0.heap.size 28 6 Claim.cells wz u l ∧ ∀ b, u.ownBlock = some b → (v7_.ownBlock = some b ∨ w14.heap.size ≤ b))] (fun b => Value.ownBlock v7_ = some b) (by kernel_rfl) ⟨sV, sV, fun _ _ _ hE ⟨b, hz, hs, hM⟩ => ⟨b, hz, hs, hM.ext hE (fun hg => absurd (O7.lt hg).2 (Nat.not_lt.2 hs))⟩, fun _ _ _ hE ⟨hO, hf⟩ => ⟨hO.exn hE, hf⟩, fun _ _ _ hE ⟨hO, hf⟩ => ⟨hO.exn hE, hf⟩, trivial⟩ ⟨mE rfl rfl h7,
 fun ρz wz hE hA ⟨e11, _⟩ _ => core_val rfl rfl (o_load (e11.trans h11) (run_loadN (cs := (Claim.cells y)) (lr_28 _ _) rfl ((Hb_b11_.exn (hA rfl)).ca))),
 fun ρz wz hE hA _ ⟨u1, _⟩ => core_slice rfl rfl hE (o_buildSlice (build_parts1 u1) (bs_23_1 _ _)),
 fun ρz wz hE hA _ ⟨u0, ⟨bz2, hz2, hge2, hM2⟩, _⟩ => core_append (n := 6) (cells := Claim.cells) (B := w0.heap.size) (w0 := w14) rfl rfl (fun b hb => hb) u0 hz2 (fun _ => rfl) one_28 si_23 se_28 (by decide) (by decide) (O7.exn (hA rfl)) ⟨_, (Mb.rep (n := 6) (cells := Claim.cells) (hn := fun _ => rfl) (G := noG) hM2 rfl (Nat.le_of_ble_eq_true rfl) (fun h => h))⟩ hl (Nat.le_trans hW.size hE.size) hE.size (fun v1 w1 h1 h2 => ⟨h1, h2⟩),
 fun ρz wz hE hA _ ⟨⟨hO3, hfr3⟩, _⟩ => core_copy rfl rfl (o_assign rfl) ⟨hO3, hfr3⟩, trivial⟩ ?_
            intro ρ15 w15 hE hN hf hr
            obtain ⟨v7_3, h7⟩ : ∃ v, ρ15 7 = v := ⟨_, rfl⟩
            have hq7 : (fun u wz => Own w0.heap.size 28 6 Claim.cells wz u l ∧ ∀ b, u.ownBlock = some b → (v7_.ownBlock = some b ∨ w14.heap.size ≤ b)) (ρ15 7) w15 := hf 4 rfl
            rw [h7] at hq7
            obtain ⟨hq7, hfr7⟩ := hq7
            obtain ⟨h1, h2, h8, h9, h12, h13⟩ := k6 hr h1 h2 h8 h9 h12 h13 rfl
            have h14 := (hr 14 rfl).trans h14
            have Oo_O7 := O7
            have Hb_b8_n := Hb_b8_.ext hE (fun h => hnb_O7_b8_ h)
            have Hb_b9_n := Hb_b9_.ext hE (fun h => hnb_O7_b9_ h)
            have H_d_ := H_d_.over hE (fun b hb => (O7.lt hb).1)
            have hnb_O7_b8_ : v7_3.ownBlock ≠ some b8_ := fun h => (hfr7 _ h).elim (fun h2 => hnb_O7_b8_ h2) (fun h2 => absurd Hb_b8_.lt (Nat.not_lt.2 h2))
            have hnb_O7_b9_ : v7_3.ownBlock ≠ some b9_ := fun h => (hfr7 _ h).elim (fun h2 => hnb_O7_b9_ h2) (fun h2 => absurd Hb_b9_.lt (Nat.not_lt.2 h2))
            have hW := Ext.own hW hE (fun b hb => (O7.lt hb).1)
            have O7 := hq7
            have Hb_b8_ := Hb_b8_n
            have Hb_b9_ := Hb_b9_n
            exact ⟨l, setI v y.Ref true, v2, v7_3, h1, h2, h7, h8, h9, h12, h13, h14, Hb_b8_, Hb_b9_, hne_b8__b9_, hlen_b8_, hlen_b9_, H_d_, O7, hnb_O7_b8_, hnb_O7_b9_, hW, hF⟩
          have hF := (if_neg (Bool.eq_false_iff.1 hb)).symm.trans hF
          refine WP.skip ?_
          exact ⟨x, setI v y.Ref true, v2, v7_, h1, h2, h7, h8, h9, h12, h13, h14, Hb_b8_, Hb_b9_, hne_b8__b9_, hlen_b8_, hlen_b9_, H_d_, O7, hnb_O7_b8_, hnb_O7_b9_, hW, hF⟩
        have hF := (if_neg (Bool.eq_false_iff.1 hb)).symm.trans hF
        refine WP.skip ?_
        exact ⟨x, v, v2, v7_, h1, h2, h7, h8, h9, h12, h13, h14, Hb_b8_, Hb_b9_, hne_b8__b9_, hlen_b8_, hlen_b9_, H_d_, O7, hnb_O7_b8_, hnb_O7_b9_, hW, hF⟩
      have hF := (if_neg (Bool.eq_false_iff.1 hb)).symm.trans hF
      refine WP.seq ?_
      obtain ⟨c2, hc2, hF⟩ := obind hF
      obtain ⟨y4, hy4, hc2⟩ := andB hc2
      have hc2 := andE hc2
      refine WP.rb mixed [[], [0], [], [1, 2], [3], [4], [4, 5], [4, 6], [4, 7], [4, 8], [4, 9], [10]] [[11], [], [1], [], [], [11], [], [8], [], [], [], []] [(44, .pointer (some ((⟨b11_, 0, none⟩ : Addr).add 2))), (45, .int .i64 y.Person), (46, .int .i64 i_), (47, .bool (y.Person == i_)), (48, .bool (y.Person == i_)), (49, gv ((y.Person == i_)) (.pointer (some ((⟨b11_, 0, none⟩ : Addr).add 3)))), (50, gv ((y.Person == i_)) (.int .i64 y.Benefit)), (51, gv ((y.Person == i_)) (.pointer (some ((⟨b8_, 0, none⟩ : Addr).add (Int.toNat y.Benefit * 1))))), (52, gv ((y.Person == i_)) (.bool y4)), (53, gv ((y.Person == i_)) (.bool (!y4))), (54, .bool c2), (43, .bool c2)] (by kernel_rfl) ⟨fun ρz wz hE hA ⟨e11, _⟩ _ => core_val rfl rfl (o_fieldAddr (e11.trans h11) (fa_28_2 _ _)),
 fun ρz wz hE hA _ ⟨u0, _⟩ => core_val rfl rfl (o_load u0 (run_load1 (lr_3 _ _) (CA.sub ((Hb_b11_.exn (hA rfl)).ca) 2 1))),
 mE rfl rfl h1,
 fun ρz wz hE hA _ ⟨u1, u2, _⟩ => core_val rfl rfl (o_eql u1 u2 rfl),
 mU rfl rfl rfl,
 fun ρz wz hE hA ⟨e11, _⟩ ⟨u4, _⟩ => gIf rfl rfl (yT rfl u4) fun gc F hF => core_val rfl hF (o_fieldAddr (e11.trans h11) (fa_28_3 _ _)),
 fun ρz wz hE hA _ ⟨u4, u5, _⟩ => gIf rfl rfl (yT rfl u4) fun gc F hF => core_val rfl hF (o_load (gt gc u5) (run_load1 (lr_3 _ _) (CA.sub ((Hb_b11_.exn (hA rfl)).ca) 3 1))),
 fun ρz wz hE hA ⟨e8, _⟩ ⟨u4, u6, _⟩ => gIf rfl rfl (yT rfl u4) fun gc F hF => core_val rfl hF (o_indexAddr (e8.trans h8) (gt gc u6) (ia_70 (arr_lt (hy4 gc) (by first | exact hlen_b8_ | simp)))),
 fun ρz wz hE hA _ ⟨u4, u7, _⟩ => gIf rfl rfl (yT rfl u4) fun gc F hF => core_val rfl hF (o_load (gt gc u7) (run_load1 (lr_4 _ _) (CA.elem (cells := fun x : Bool => [Value.bool x]) 1 (fun _ => rfl) ((Hb_b8_.exn (hA rfl)).ca) (hy4 gc)))),
 fun ρz wz hE hA _ ⟨u4, u8, _⟩ => gIf rfl rfl (yT rfl u4) fun gc F hF => core_val rfl hF (o_not (gt gc u8) rfl),
 fun ρz wz hE hA _ ⟨u4, u9, _⟩ => core_valE rfl rfl (congrArg Value.bool hc2) (o_pick_and u4 u9 rfl),
 aU rfl rfl rfl, trivial⟩ ?_
      intro ρ16 w16 hN hf hr
      have h43 := hv hf 11 rfl rfl
      obtain ⟨h1, h2, h7, h8, h9, h12⟩ := k6 hr h1 h2 h7 h8 h9 h12 rfl
      obtain ⟨h13, h14, h11⟩ := k3 hr h13 h14 h11 rfl
      have Oo_O7 := O7
      have Hb_b8_n := Hb_b8_.exn hN
      have Hb_b9_n := Hb_b9_.exn hN
      have Hb_b11_n := Hb_b11_.exn hN
      have H_d_ := H_d_.exn hN
      have hW := hW.trans hN
      have O7 := O7.exn hN
      have Hb_b8_ := Hb_b8_n
      have Hb_b9_ := Hb_b9_n
      have Hb_b11_ := Hb_b11_n
      refine WP.cond rfl h43 (fun hb => ?_) (fun hb => ?_)
      · have hF := (if_pos hb).symm.trans hF
        refine WP.seq ?_
        obtain ⟨y5, hy5, hF⟩ := obind hF
        refine WP.region mixed [[], [0], [1], [1, 2]] [[], [0], [1], [2]] [[11], [], [8], []] [3] [] [val 55 (.pointer (some ((⟨b11_, 0, none⟩ : Addr).add 3))), val 56 (.int .i64 y.Benefit), val 57 (.pointer (some ((⟨b8_, 0, none⟩ : Addr).add (Int.toNat y.Benefit * 1)))), (57, fun _ wz => Mb wz b8_ 70 ((setI v2 y.Benefit true).flatMap (fun x : Bool => [Value.bool x])))] (fun x => x = b8_) (by kernel_rfl) ⟨sV, sV, sV, fun _ _ _ hE hM => hM.exn hE, trivial⟩ ⟨fun ρz wz hE hA ⟨e11, _⟩ _ => core_val rfl rfl (o_fieldAddr (e11.trans h11) (fa_28_3 _ _)),
 fun ρz wz hE hA _ ⟨u0, _⟩ => core_val rfl rfl (o_load u0 (run_load1 (lr_3 _ _) (CA.sub ((Hb_b11_.exn (hA rfl)).ca) 3 1))),
 fun ρz wz hE hA ⟨e8, _⟩ ⟨u1, _⟩ => core_val rfl rfl (o_indexAddr (e8.trans h8) u1 (ia_70 (arr_lt hy5 (by first | exact hlen_b8_ | simp)))),
 fun ρz wz hE hA _ ⟨u2, _⟩ => core_storePart (k := (Int.toNat y.Benefit * 1)) (vs := [Value.bool true]) (cs0 := (v2.flatMap (fun x : Bool => [Value.bool x]))) rfl rfl (fun _ h => h) u2 rfl rfl (Hb_b8_.exn (hA rfl)) (fun a w => st_4 _ a w) (arr_room (cells := fun x : Bool => [Value.bool x]) (fun _ => rfl) hy5 rfl) (flatMap_setI (cells := fun x : Bool => [Value.bool x]) (fun _ => rfl) hy5 rfl) (one_4 _), trivial⟩ ?_
        intro ρ17 w17 hE hN hf hr
        obtain ⟨h1, h2, h7, h8, h9, h12⟩ := k6 hr h1 h2 h7 h8 h9 h12 rfl
        obtain ⟨h13, h14, h11⟩ := k3 hr h13 h14 h11 rfl
        have Oo_O7 := O7
        have Hb_b8_n := hf 3 rfl
        have hlen_b8_ : (setI v2 y.Benefit true).length = 6 := by simp [length_setI, hlen_b8_]
        have Hb_b9_n := Hb_b9_.ext hE (fun h => hne_b8__b9_ h.symm)
        have Hb_b11_n := Hb_b11_.ext hE (fun h => hne_b11__b8_ h)
        have H_d_ := H_d_.over hE (fun b hb => hb.symm ▸ hB_b8_)
        have hW := Ext.own hW hE (fun x h => h.symm ▸ hB_b8_)
        have O7 := O7.ext hE (fun b hb hg => hnb_O7_b8_ (hg ▸ hb))
        have Hb_b8_ := Hb_b8_n
        have Hb_b9_ := Hb_b9_n
        have Hb_b11_ := Hb_b11_n
        refine WP.seq ?_
        obtain ⟨z2, hz2, hF⟩ := obind hF
        refine WP.rb mixed [[], [], [0, 1]] [[11], [2], []] [(58, Claim.val y), (59, .int .i64 p_), (60, .bool z2)] (by kernel_rfl) ⟨fun ρz wz hE hA ⟨e11, _⟩ _ => core_val rfl rfl (o_load (e11.trans h11) (run_loadN (cs := (Claim.cells y)) (lr_28 _ _) rfl ((Hb_b11_.exn (hA rfl)).ca))),
 mE rfl rfl h2,
 fun ρz wz hE hA _ ⟨u0, u1, _⟩ => core_call rfl (call_args2 u0 u1) cf_44 (decision_started_ok  _ _  hz2), trivial⟩ ?_
        intro ρ18 w18 hN hf hr
        have h60 := hv hf 2 rfl rfl
        obtain ⟨h1, h2, h7, h8, h9, h12⟩ := k6 hr h1 h2 h7 h8 h9 h12 rfl
        obtain ⟨h13, h14, h11⟩ := k3 hr h13 h14 h11 rfl
        have Oo_O7 := O7
        have Hb_b8_n := Hb_b8_.exn hN
        have Hb_b9_n := Hb_b9_.exn hN
        have Hb_b11_n := Hb_b11_.exn hN
        have H_d_ := H_d_.exn hN
        have hW := hW.trans hN
        have O7 := O7.exn hN
        have Hb_b8_ := Hb_b8_n
        have Hb_b9_ := Hb_b9_n
        have Hb_b11_ := Hb_b11_n
        refine WP.cond rfl h60 (fun hb => ?_) (fun hb => ?_)
        · have hF := (if_pos hb).symm.trans hF
          obtain ⟨l2, hl2, hF⟩ := obind hF
          refine WP.region mixed [[], [], [1], [0, 1, 2], [0, 3]] [[], [], [1], [0, 2], [3]] [[7], [11], [], [], []] [3] [] [val 61 (v7_), val 62 (Claim.val y), (63, fun u wz => ∃ b, u = .slice (some ⟨b, 0, none⟩) 1 1 ∧ w18.heap.size ≤ b ∧ Mb wz b 28 (([y]).flatMap Claim.cells)), (64, fun u wz => Own w0.heap.size 28 6 Claim.cells wz u l2 ∧ ∀ b, u.ownBlock = some b → (v7_.ownBlock = some b ∨ w18.heap.size ≤ b)), (7, fun u wz => Own w0.heap.size 28 6 Claim.cells wz u l2 ∧ ∀ b, u.ownBlock = some b → (v7_.ownBlock = some b ∨ w18.heap.size ≤ b))] (fun b => Value.ownBlock v7_ = some b) (by kernel_rfl) ⟨sV, sV, fun _ _ _ hE ⟨b, hz, hs, hM⟩ => ⟨b, hz, hs, hM.ext hE (fun hg => absurd (O7.lt hg).2 (Nat.not_lt.2 hs))⟩, fun _ _ _ hE ⟨hO, hf⟩ => ⟨hO.exn hE, hf⟩, fun _ _ _ hE ⟨hO, hf⟩ => ⟨hO.exn hE, hf⟩, trivial⟩ ⟨mE rfl rfl h7,
 fun ρz wz hE hA ⟨e11, _⟩ _ => core_val rfl rfl (o_load (e11.trans h11) (run_loadN (cs := (Claim.cells y)) (lr_28 _ _) rfl ((Hb_b11_.exn (hA rfl)).ca))),
 fun ρz wz hE hA _ ⟨u1, _⟩ => core_slice rfl rfl hE (o_buildSlice (build_parts1 u1) (bs_23_1 _ _)),
 fun ρz wz hE hA _ ⟨u0, ⟨bz2, hz2, hge2, hM2⟩, _⟩ => core_append (n := 6) (cells := Claim.cells) (B := w0.heap.size) (w0 := w18) rfl rfl (fun b hb => hb) u0 hz2 (fun _ => rfl) one_28 si_23 se_28 (by decide) (by decide) (O7.exn (hA rfl)) ⟨_, (Mb.rep (n := 6) (cells := Claim.cells) (hn := fun _ => rfl) (G := noG) hM2 rfl (Nat.le_of_ble_eq_true rfl) (fun h => h))⟩ hl2 (Nat.le_trans hW.size hE.size) hE.size (fun v1 w1 h1 h2 => ⟨h1, h2⟩),
 fun ρz wz hE hA _ ⟨⟨hO3, hfr3⟩, _⟩ => core_copy rfl rfl (o_assign rfl) ⟨hO3, hfr3⟩, trivial⟩ ?_
          intro ρ19 w19 hE hN hf hr
          obtain ⟨v7_4, h7⟩ : ∃ v, ρ19 7 = v := ⟨_, rfl⟩
          have hq7 : (fun u wz => Own w0.heap.size 28 6 Claim.cells wz u l2 ∧ ∀ b, u.ownBlock = some b → (v7_.ownBlock = some b ∨ w18.heap.size ≤ b)) (ρ19 7) w19 := hf 4 rfl
          rw [h7] at hq7
          obtain ⟨hq7, hfr7⟩ := hq7
          obtain ⟨h1, h2, h8, h9, h12, h13⟩ := k6 hr h1 h2 h8 h9 h12 h13 rfl
          have h14 := (hr 14 rfl).trans h14
          have Oo_O7 := O7
          have Hb_b8_n := Hb_b8_.ext hE (fun h => hnb_O7_b8_ h)
          have Hb_b9_n := Hb_b9_.ext hE (fun h => hnb_O7_b9_ h)
          have H_d_ := H_d_.over hE (fun b hb => (O7.lt hb).1)
          have hnb_O7_b8_ : v7_4.ownBlock ≠ some b8_ := fun h => (hfr7 _ h).elim (fun h2 => hnb_O7_b8_ h2) (fun h2 => absurd Hb_b8_.lt (Nat.not_lt.2 h2))
          have hnb_O7_b9_ : v7_4.ownBlock ≠ some b9_ := fun h => (hfr7 _ h).elim (fun h2 => hnb_O7_b9_ h2) (fun h2 => absurd Hb_b9_.lt (Nat.not_lt.2 h2))
          have hW := Ext.own hW hE (fun b hb => (O7.lt hb).1)
          have O7 := hq7
          have Hb_b8_ := Hb_b8_n
          have Hb_b9_ := Hb_b9_n
          exact ⟨l2, v, setI v2 y.Benefit true, v7_4, h1, h2, h7, h8, h9, h12, h13, h14, Hb_b8_, Hb_b9_, hne_b8__b9_, hlen_b8_, hlen_b9_, H_d_, O7, hnb_O7_b8_, hnb_O7_b9_, hW, hF⟩
        have hF := (if_neg (Bool.eq_false_iff.1 hb)).symm.trans hF
        refine WP.skip ?_
        exact ⟨x, v, setI v2 y.Benefit true, v7_, h1, h2, h7, h8, h9, h12, h13, h14, Hb_b8_, Hb_b9_, hne_b8__b9_, hlen_b8_, hlen_b9_, H_d_, O7, hnb_O7_b8_, hnb_O7_b9_, hW, hF⟩
      have hF := (if_neg (Bool.eq_false_iff.1 hb)).symm.trans hF
      refine WP.skip ?_
      exact ⟨x, v, v2, v7_, h1, h2, h7, h8, h9, h12, h13, h14, Hb_b8_, Hb_b9_, hne_b8__b9_, hlen_b8_, hlen_b9_, H_d_, O7, hnb_O7_b8_, hnb_O7_b9_, hW, hF⟩
    rintro ρ8 w8 ⟨x3, v3, v4, v7_2, h1, h2, h7, h8, h9, h12, h13, h14, Hb_b8_, Hb_b9_, hne_b8__b9_, hlen_b8_, hlen_b9_, H_d_, O7, hnb_O7_b8_, hnb_O7_b9_, hW, hF⟩
    rw [decision_effective_j] at hF
    refine WP.rb mixed [[], [0]] [[14], []] [(65, .int .i64 (i64 (x2 + 1))), (14, .int .i64 (i64 (x2 + 1)))] (by kernel_rfl) ⟨fun ρz wz hE hA ⟨e14, _⟩ _ => core_val rfl rfl (o_add (e14.trans h14) rfl rfl),
 mU rfl rfl rfl, trivial⟩ ?_
    intro ρ9 w9 hN hf hr
    have h14 := hv hf 1 rfl rfl
    obtain ⟨h1, h2, h7, h8, h9, h12⟩ := k6 hr h1 h2 h7 h8 h9 h12 rfl
    have h13 := (hr 13 rfl).trans h13
    have Oo_O7 := O7
    have Hb_b8_n := Hb_b8_.exn hN
    have Hb_b9_n := Hb_b9_.exn hN
    have H_d_ := H_d_.exn hN
    have hW := hW.trans hN
    have O7 := O7.exn hN
    have Hb_b8_ := Hb_b8_n
    have Hb_b9_ := Hb_b9_n
    exact ⟨x3, i64 (x2 + 1), v3, v4, v7_2, h1, h2, h7, h8, h9, h12, h13, h14, Hb_b8_, Hb_b9_, hne_b8__b9_, hlen_b8_, hlen_b9_, H_d_, O7, hnb_O7_b8_, hnb_O7_b9_, hW, (by first | exact hF | (rw [hrec_]; exact hF))⟩
  have hF := (if_neg (Bool.eq_false_iff.1 hb)).symm.trans hF
  refine WP.exit (thenQ_exit (thenQ_exit (blockQ_hit (WP.seq ?_))))
  obtain ⟨z3, hz3, hF⟩ := obind hF
  refine WP.region mixed [[], [0]] [[], [0]] [[7], []] [1] [] [val 66 (v7_), (67, fun u wz => u = .tuple #[] ∧ Own w0.heap.size 28 6 Claim.cells wz v7_ z3)] (fun b => Value.ownBlock v7_ = some b) (by kernel_rfl) ⟨sV, fun _ _ _ hE ⟨h1, h2⟩ => ⟨h1, h2.exn hE⟩, trivial⟩ ⟨mE rfl rfl h7,
 fun ρz wz hE hA _ ⟨u0, _⟩ => core_callM rfl rfl (fun _ h => h) (call_args2 u0 rfl) cf_45 (slices_SortStableFunc_of_api_Claim_ok  _ _ (O7.exn (hA rfl)) (FnR.mk (V := fnV_75) (W := fnW_75) (G := (fun b => Value.ownBlock v7_ = some b)) (cap := []) cf_46 (fun w' hE' x r hr => decision_effective_1_ok _ _   hr)) hz3), trivial⟩ ?_
  intro ρ20 w20 hE hN hf hr
  have h7 := (hr 7 rfl).trans h7
  have Oo_O7 := O7
  have hW := Ext.own hW hE (fun b hb => (O7.lt hb).1)
  have O7 := (hf 1 rfl).2
  refine WP.seq (WP.rb mixed [[], [0]] [[7], []] [(68, v7_), (6, v7_)] (by kernel_rfl) ⟨mE rfl rfl h7,
 aU rfl rfl rfl, trivial⟩ ?_)
  intro ρ21 w21 hN hf hr
  have h6 := hv hf 1 rfl rfl
  have Oo_O7 := O7
  have hW := hW.trans hN
  have O6 := Oo_O7.exn hN
  refine WP.ret ?_
  show retQ Tryz.prog 69 Tryz.f22 (fun v w1 => Own w0.heap.size 28 6 Claim.cells w1 v r ∧ Ext noG w0 w1) .ret ρ21 w21
  obtain rfl := Option.some.inj hF
  exact res1 rfl (by decide) h6 ⟨O6, hW⟩

set_option maxHeartbeats 4000000 in
theorem decision_Select_ok {w0 : World} (claims_ : List Claim) (person_ : Int) (month_ : Int) {v_claims_ : Value} (H_claims_ : RepSl Claim.R noG w0 v_claims_ claims_) {r : (List Claim)} (hF : decision_Select claims_ person_ month_ = some r) :
    Calls Tryz.prog 12 #[v_claims_, .int .i64 person_, .int .i64 month_] w0 fun e w1 => ∃ v, e = .returned v ∧ Ext noG w0 w1 ∧ Own w0.heap.size 28 6 Claim.cells w1 v r := by
  refine (Calls.start (P := Tryz.prog) (args := [v_claims_, .int .i64 person_, .int .i64 month_]) (R := fun v w1 => Own w0.heap.size 28 6 Claim.cells w1 v r ∧ Ext noG w0 w1) (n := 18) (w := w0) Tryz.func12 rfl rfl (Nat.le_of_ble_eq_true rfl) (fun ρ hargs => ?_)).mono (fun e w1 ⟨v, he, hv, hE⟩ => ⟨v, he, hE, hv⟩)
  have h0 := hargs 0 _ rfl
  have h1 := hargs 1 _ rfl
  have h2 := hargs 2 _ rfl
  have hW := Ext.refl noG w0
  obtain ⟨_, _, hs_H_claims_, _, _⟩ := RepSl.shape H_claims_
  have H_claims_ := H_claims_.start
  rw [decision_Select] at hF
  refine WP.seq (WP.rb mixed [[]] [[]] [(6, .slice none 0 0)] (by kernel_rfl) ⟨aC rfl rfl (fun _ => rfl), trivial⟩ ?_)
  intro ρ1 w1 hN hf hr
  obtain ⟨h0, h1, h2⟩ := k3 hr h0 h1 h2 rfl
  have H_claims_ := H_claims_.exn hN
  have hW := hW.trans hN
  refine WP.seq (WP.seq (WP.rb mixed [[], [0], [1], [2], [2, 3], [2, 4]] [[2], [], [], [2], [], []] [(7, .int .i64 month_), (8, .bool (decide (month_ < 0))), (9, .bool (decide (month_ < 0))), (10, gv (!(decide (month_ < 0))) (.int .i64 month_)), (11, gv (!(decide (month_ < 0))) (.bool (decide (2399 < month_)))), (12, .bool (decide (month_ < 0) || decide (2399 < month_)))] (by kernel_rfl) ⟨mE rfl rfl h2,
 fun ρz wz hE hA _ ⟨u0, _⟩ => core_val rfl rfl (o_lss u0 rfl rfl),
 mU rfl rfl rfl,
 fun ρz wz hE hA ⟨e2, _⟩ ⟨u2, _⟩ => gIf rfl rfl (yF rfl u2) fun gc F hF => core_val rfl hF (o_move (e2.trans h2)),
 fun ρz wz hE hA _ ⟨u2, u3, _⟩ => gIf rfl rfl (yF rfl u2) fun gc F hF => core_val rfl hF (o_gtr (gt gc u3) rfl rfl),
 fun ρz wz hE hA _ ⟨u2, u4, _⟩ => core_val rfl rfl (o_pick_or u2 rfl u4), trivial⟩ ?_))
  intro ρ2 w2 hN hf hr
  have h12 := hv hf 5 rfl rfl
  obtain ⟨h0, h1, h2⟩ := k3 hr h0 h1 h2 rfl
  have H_claims_ := H_claims_.exn hN
  have hW := hW.trans hN
  refine WP.cond rfl h12 (fun hb => ?_) (fun hb => ?_)
  · have hF := (if_pos hb).symm.trans hF
    refine WP.seq (WP.rb mixed [[]] [[]] [(6, .slice none 0 0)] (by kernel_rfl) ⟨aC rfl rfl (fun _ => rfl), trivial⟩ ?_)
    intro ρ3 w3 hN hf hr
    have h6 : ρ3 6 = .slice none 0 0 := hf 0 rfl
    have O6 : Own w0.heap.size 28 6 Claim.cells w3 (.slice none 0 0) [] := Own.nil _ _ _ _ _
    have hW := hW.trans hN
    refine WP.ret ?_
    show retQ Tryz.prog 18 Tryz.f12 (fun v w1 => Own w0.heap.size 28 6 Claim.cells w1 v r ∧ Ext noG w0 w1) .ret ρ3 w3
    obtain rfl := Option.some.inj hF
    exact res1 rfl (by decide) h6 ⟨O6, hW⟩
  have hF := (if_neg (Bool.eq_false_iff.1 hb)).symm.trans hF
  refine WP.skip (WP.seq ?_)
  obtain ⟨z, hz, hF⟩ := obind hF
  obtain ⟨z2, hz2, hF⟩ := obind hF
  refine WP.rg mixed [[], [0], [], [], [1, 2, 3], [4]] [[], [0], [], [], [1, 2, 3], [4]] [[0], [], [1], [2], [], []] [val 13 (v_claims_), (14, fun u wz => Own w0.heap.size 28 6 Claim.cells wz u z ∧ ∀ b, u.ownBlock = some b → w2.heap.size ≤ b), val 15 (.int .i64 person_), val 16 (.int .i64 month_), (17, fun u wz => Own w0.heap.size 28 6 Claim.cells wz u z2 ∧ ∀ b, u.ownBlock = some b → w2.heap.size ≤ b), (6, fun u wz => Own w0.heap.size 28 6 Claim.cells wz u z2 ∧ ∀ b, u.ownBlock = some b → w2.heap.size ≤ b)] (by kernel_rfl) ⟨sV, fun _ _ _ hE ⟨hO, hf⟩ => ⟨hO.exn hE, hf⟩, sV, sV, fun _ _ _ hE ⟨hO, hf⟩ => ⟨hO.exn hE, hf⟩, fun _ _ _ hE ⟨hO, hf⟩ => ⟨hO.exn hE, hf⟩, trivial⟩ ⟨mE rfl rfl h0,
 fun ρz wz hE hA _ ⟨u0, _⟩ => core_callR rfl (call_args1 u0) cf_23 ((decision_sorted_ok  _ (H_claims_.exn (hA rfl)).no hz).mono (fun e w1 ⟨v, he, hE1, hO⟩ => ⟨v, he, hE1, hO.base (Nat.le_trans hW.size hE.size), fun b hb => Nat.le_trans hE.size (hO.lt hb).1⟩)),
 mE rfl rfl h1,
 mE rfl rfl h2,
 fun ρz wz hE hA _ ⟨⟨hO1, hfr1⟩, u2, u3, _⟩ => core_callR rfl (call_args3 rfl u2 u3) cf_22 ((decision_effective_ok  _ _ _ (hO1.rep (hn := fun _ => rfl) (G := noG) (fun _ _ h => h)).no hz2).mono (fun e w1 ⟨v, he, hE1, hO⟩ => ⟨v, he, hE1, hO.base (Nat.le_trans hW.size hE.size), fun b hb => Nat.le_trans hE.size (hO.lt hb).1⟩)),
 fun ρz wz hE hA _ ⟨⟨hO4, hfr4⟩, _⟩ => core_copy rfl rfl (o_assign rfl) ⟨hO4, hfr4⟩, trivial⟩ ?_
  intro ρ4 w4 hN hf hr
  obtain ⟨v6_, h6⟩ : ∃ v, ρ4 6 = v := ⟨_, rfl⟩
  have hq6 : (fun u wz => Own w0.heap.size 28 6 Claim.cells wz u z2 ∧ ∀ b, u.ownBlock = some b → w2.heap.size ≤ b) (ρ4 6) w4 := hf 5 rfl
  rw [h6] at hq6
  obtain ⟨hq6, hfr6⟩ := hq6
  have hW := hW.trans hN
  have O6 := hq6
  refine WP.ret ?_
  show retQ Tryz.prog 18 Tryz.f12 (fun v w1 => Own w0.heap.size 28 6 Claim.cells w1 v r ∧ Ext noG w0 w1) .ret ρ4 w4
  obtain rfl := Option.some.inj hF
  exact res1 rfl (by decide) h6 ⟨O6, hW⟩

set_option maxHeartbeats 4000000 in
theorem career_merge_of_api_Fact_ok {w0 : World} (d_ : List api_Fact) (i_ : List api_Fact) (p_ : (api_Fact × api_Fact) → Option Int) (p_2 : (api_Fact × api_Fact) → Option api_Fact) {v_d_ : Value} (H_d_ : RepSl api_Fact.R noG w0 v_d_ d_) {v_i_ : Value} (H_i_ : RepSl api_Fact.R noG w0 v_i_ i_) {v_p_ : Value} (H_p_ : FnR Tryz.prog fnV_147 fnW_147 p_ noG w0 v_p_) {v_p_2 : Value} (H_p_2 : FnR Tryz.prog fnV_148 fnW_148 p_2 noG w0 v_p_2) {r : (List api_Fact)} (hF : career_merge_of_api_Fact d_ i_ p_ p_2 = some r) :
    Calls Tryz.prog 97 #[v_d_, v_i_, v_p_, v_p_2] w0 fun e w1 => ∃ v, e = .returned v ∧ Ext noG w0 w1 ∧ Own w0.heap.size 80 14 api_Fact.cells w1 v r := by
  refine (Calls.start (P := Tryz.prog) (args := [v_d_, v_i_, v_p_, v_p_2]) (R := fun v w1 => Own w0.heap.size 80 14 api_Fact.cells w1 v r ∧ Ext noG w0 w1) (n := 69) (w := w0) Tryz.func97 rfl rfl (Nat.le_of_ble_eq_true rfl) (fun ρ hargs => ?_)).mono (fun e w1 ⟨v, he, hv, hE⟩ => ⟨v, he, hE, hv⟩)
  have h0 := hargs 0 _ rfl
  have h1 := hargs 1 _ rfl
  have h2 := hargs 2 _ rfl
  have h3 := hargs 3 _ rfl
  have hW := Ext.refl noG w0
  obtain ⟨_, _, hs_H_d_, _, _⟩ := RepSl.shape H_d_
  have H_d_ := H_d_.start
  obtain ⟨_, _, hs_H_i_, _, _⟩ := RepSl.shape H_i_
  have H_i_ := H_i_.start
  have H_p_ := H_p_.start
  have H_p_2 := H_p_2.start
  rw [career_merge_of_api_Fact] at hF
  refine WP.seq (WP.rb mixed [[]] [[]] [(8, .slice none 0 0)] (by kernel_rfl) ⟨aC rfl rfl (fun _ => rfl), trivial⟩ ?_)
  intro ρ1 w1 hN hf hr
  obtain ⟨h0, h1, h2, h3⟩ := k4 hr h0 h1 h2 h3 rfl
  have H_d_ := H_d_.exn hN
  have H_i_ := H_i_.exn hN
  have H_p_ := H_p_.exn hN
  have H_p_2 := H_p_2.exn hN
  have hW := hW.trans hN
  refine WP.seq (WP.rb mixed [[]] [[]] [(9, .slice none 0 0)] (by kernel_rfl) ⟨aC rfl rfl (fun _ => rfl), trivial⟩ ?_)
  intro ρ2 w2 hN hf hr
  have h9 : ρ2 9 = .slice none 0 0 := hf 0 rfl
  have O9 : Own w0.heap.size 80 14 api_Fact.cells w2 (.slice none 0 0) [] := Own.nil _ _ _ _ _
  obtain ⟨h0, h1, h2, h3⟩ := k4 hr h0 h1 h2 h3 rfl
  have H_d_ := H_d_.exn hN
  have H_i_ := H_i_.exn hN
  have H_p_ := H_p_.exn hN
  have H_p_2 := H_p_2.exn hN
  have hW := hW.trans hN
  refine WP.seq (WP.block ?_)
  have Hv0 := H_d_
  have Hv1 := H_i_
  refine WP.loop (fun k_ ρ w => ∃ d_2 : List api_Fact, ∃ i_2 : List api_Fact, ∃ x : List api_Fact, ∃ v0_ : Value, ∃ v1_ : Value, ∃ v9_ : Value, ρ 0 = v0_ ∧ ρ 1 = v1_ ∧ ρ 2 = v_p_ ∧ ρ 3 = v_p_2 ∧ ρ 9 = v9_ ∧ FnR Tryz.prog fnV_147 fnW_147 p_ (gfr noG w0) w v_p_ ∧ FnR Tryz.prog fnV_148 fnW_148 p_2 (gfr noG w0) w v_p_2 ∧ RepSl api_Fact.R (gfr noG w0) w v0_ d_2 ∧ RepSl api_Fact.R (gfr noG w0) w v1_ i_2 ∧ Own w0.heap.size 80 14 api_Fact.cells w v9_ x ∧ Ext noG w0 w ∧ loopC k_ (career_merge_of_api_Fact_l p_) (d_2, i_2, x) = some r) FU ⟨d_, i_, [], v_d_, v_i_, .slice none 0 0, h0, h1, h2, h3, h9, H_p_, H_p_2, Hv0, Hv1, O9, hW, hF⟩ (fun _ _ h => by obtain ⟨_, _, _, _, _, _, _, _, _, _, _, _, _, _, _, _, _, h⟩ := h; cases h) ?_
  rintro k_ ρ3 w3 ⟨d_2, i_2, x, v0_, v1_, v9_, h0, h1, h2, h3, h9, H_p_, H_p_2, Hv0, Hv1, O9, hW, hF⟩
  obtain ⟨_, _, hs_Hv0, _, _⟩ := RepSl.shape Hv0
  obtain ⟨_, _, hs_Hv1, _, _⟩ := RepSl.shape Hv1
  have hF : career_merge_of_api_Fact_l p_ (loopC k_ (career_merge_of_api_Fact_l p_)) (d_2, i_2, x) = some r := hF
  generalize hrec_ : loopC k_ (career_merge_of_api_Fact_l p_) = rec_ at hF
  rw [career_merge_of_api_Fact_l] at hF
  refine WP.seq (WP.seq (WP.rb mixed [[], [0], [1], [2], [3], [3, 4], [3, 5], [3, 6]] [[0], [], [], [], [1], [], [], []] [(11, v0_), (12, .int .i64 (d_2.length : Int)), (13, .bool (decide (0 < (d_2.length : Int)))), (14, .bool (decide (0 < (d_2.length : Int)))), (15, gv (decide (0 < (d_2.length : Int))) v1_), (16, gv (decide (0 < (d_2.length : Int))) (.int .i64 (i_2.length : Int))), (17, gv (decide (0 < (d_2.length : Int))) (.bool (decide (0 < (i_2.length : Int))))), (18, .bool (decide (0 < (d_2.length : Int)) && decide (0 < (i_2.length : Int))))] (by kernel_rfl) ⟨mE rfl rfl h0,
 fun ρz wz hE hA _ ⟨u0, _⟩ => core_val rfl rfl (o_len (u0.trans hs_Hv0) len_44),
 fun ρz wz hE hA _ ⟨u1, _⟩ => core_val rfl rfl (o_gtr u1 rfl rfl),
 mU rfl rfl rfl,
 fun ρz wz hE hA ⟨e1, _⟩ ⟨u3, _⟩ => gIf rfl rfl (yT rfl u3) fun gc F hF => core_val rfl hF (o_move (e1.trans h1)),
 fun ρz wz hE hA _ ⟨u3, u4, _⟩ => gIf rfl rfl (yT rfl u3) fun gc F hF => core_val rfl hF (o_len ((gt gc u4).trans hs_Hv1) len_44),
 fun ρz wz hE hA _ ⟨u3, u5, _⟩ => gIf rfl rfl (yT rfl u3) fun gc F hF => core_val rfl hF (o_gtr (gt gc u5) rfl rfl),
 fun ρz wz hE hA _ ⟨u3, u6, _⟩ => core_val rfl rfl (o_pick_and u3 u6 rfl), trivial⟩ ?_))
  intro ρ4 w4 hN hf hr
  have h18 := hv hf 7 rfl rfl
  obtain ⟨h0, h1, h2, h3, h9⟩ := k5 hr h0 h1 h2 h3 h9 rfl
  have Oo_O9 := O9
  have H_p_ := H_p_.exn hN
  have H_p_2 := H_p_2.exn hN
  have Hv0 := Hv0.exn hN
  have Hv1 := Hv1.exn hN
  have hW := hW.trans hN
  have O9 := O9.exn hN
  refine WP.cond rfl h18 (fun hb => ?_) (fun hb => ?_)
  · have hF := (if_pos hb).symm.trans hF
    refine WP.skip (WP.block (WP.seq ?_))
    obtain ⟨y, hy, hF⟩ := obind hF
    obtain ⟨ay, cy, hvy, hiy, hAy⟩ := RepSl.getF Hv0 hy
    obtain ⟨y2, hy2, hF⟩ := obind hF
    obtain ⟨ay2, cy2, hvy2, hiy2, hAy2⟩ := RepSl.getF Hv1 hy2
    obtain ⟨z, hz, hF⟩ := obind hF
    refine WP.rb mixed [[], [], [1], [2], [], [4], [5], [0, 3, 6], [7]] [[2], [0], [], [], [1], [], [], [], []] [(19, v_p_), (20, v0_), (21, .pointer (some (ay.add (Int.toNat 0 * 14)))), (22, api_Fact.val y), (23, v1_), (24, .pointer (some (ay2.add (Int.toNat 0 * 14)))), (25, api_Fact.val y2), (26, .int .i64 z), (10, .int .i64 z)] (by kernel_rfl) ⟨mE rfl rfl h2,
 mE rfl rfl h0,
 fun ρz wz hE hA _ ⟨u1, _⟩ => core_val rfl rfl (o_indexAddr (u1.trans hvy) rfl (ia_44 hiy)),
 fun ρz wz hE hA _ ⟨u2, _⟩ => core_val rfl rfl (o_load u2 (run_loadN (cs := (api_Fact.cells y)) (lr_80 _ _) rfl ((hAy.exn (hA rfl)).ca))),
 mE rfl rfl h1,
 fun ρz wz hE hA _ ⟨u4, _⟩ => core_val rfl rfl (o_indexAddr (u4.trans hvy2) rfl (ia_44 hiy2)),
 fun ρz wz hE hA _ ⟨u5, _⟩ => core_val rfl rfl (o_load u5 (run_loadN (cs := (api_Fact.cells y2)) (lr_80 _ _) rfl ((hAy2.exn (hA rfl)).ca))),
 fun ρz wz hE hA _ ⟨u0, u3, u6, _⟩ => core_callF (V := fnV_147) (W := fnW_147) (a := (y, y2)) (r := z) rfl u0 (call_args2 u3 u6) (H_p_.exn (hA rfl)).no hz,
 aU rfl rfl rfl, trivial⟩ ?_
    intro ρ5 w5 hN hf hr
    have h10 := hv hf 8 rfl rfl
    obtain ⟨h0, h1, h2, h3, h9⟩ := k5 hr h0 h1 h2 h3 h9 rfl
    have Oo_O9 := O9
    have H_p_ := H_p_.exn hN
    have H_p_2 := H_p_2.exn hN
    have Hv0 := Hv0.exn hN
    have Hv1 := Hv1.exn hN
    have hW := hW.trans hN
    have O9 := O9.exn hN
    refine WP.block (WP.seq (WP.rb mixed [[], [0], [1]] [[10], [], []] [(43, .int .i64 z), (44, .bool (decide (z < 0))), (42, .bool (decide (z < 0)))] (by kernel_rfl) ⟨mE rfl rfl h10,
 fun ρz wz hE hA _ ⟨u0, _⟩ => core_val rfl rfl (o_lss u0 rfl rfl),
 aU rfl rfl rfl, trivial⟩ ?_))
    intro ρ6 w6 hN hf hr
    have h42 := hv hf 2 rfl rfl
    obtain ⟨h0, h1, h2, h3, h9, h10⟩ := k6 hr h0 h1 h2 h3 h9 h10 rfl
    have Oo_O9 := O9
    have H_p_ := H_p_.exn hN
    have H_p_2 := H_p_2.exn hN
    have Hv0 := Hv0.exn hN
    have Hv1 := Hv1.exn hN
    have hW := hW.trans hN
    have O9 := O9.exn hN
    refine WP.cond rfl h42 (fun hb => ?_) (fun hb => ?_)
    · have hF := (if_pos hb).symm.trans hF
      cases hF
    have hF := (if_neg (Bool.eq_false_iff.1 hb)).symm.trans hF
    refine WP.seq (WP.rb mixed [[], [0], [1]] [[10], [], []] [(54, .int .i64 z), (55, .bool (decide (0 < z))), (53, .bool (decide (0 < z)))] (by kernel_rfl) ⟨mE rfl rfl h10,
 fun ρz wz hE hA _ ⟨u0, _⟩ => core_val rfl rfl (o_gtr u0 rfl rfl),
 aU rfl rfl rfl, trivial⟩ ?_)
    intro ρ8 w8 hN hf hr
    have h53 := hv hf 2 rfl rfl
    obtain ⟨h0, h1, h2, h3, h9⟩ := k5 hr h0 h1 h2 h3 h9 rfl
    have Oo_O9 := O9
    have H_p_ := H_p_.exn hN
    have H_p_2 := H_p_2.exn hN
    have Hv0 := Hv0.exn hN
    have Hv1 := Hv1.exn hN
    have hW := hW.trans hN
    have O9 := O9.exn hN
    refine WP.cond rfl h53 (fun hb => ?_) (fun hb => ?_)
    · have hF := (if_pos hb).symm.trans hF
      cases hF
    have hF := (if_neg (Bool.eq_false_iff.1 hb)).symm.trans hF
    cases hF
  have hF := (if_neg (Bool.eq_false_iff.1 hb)).symm.trans hF
  refine WP.exit (thenQ_exit (thenQ_exit (blockQ_hit (WP.seq ?_))))
  obtain ⟨l4, hl4, hF⟩ := obind hF
  obtain ⟨l5, hl5, hF⟩ := obind hF
  refine WP.region mixed [[], [], [0, 1], [], [2, 3], [2, 4]] [[], [], [0, 1], [], [2, 3], [4]] [[9], [0], [], [1], [], []] [2, 4] [(2, 4)] [val 64 (v9_), val 65 (v0_), (66, fun u wz => Own w0.heap.size 80 14 api_Fact.cells wz u l4 ∧ ∀ b, u.ownBlock = some b → (v9_.ownBlock = some b ∨ w4.heap.size ≤ b)), val 67 (v1_), (68, fun u wz => Own w0.heap.size 80 14 api_Fact.cells wz u l5 ∧ ∀ b, u.ownBlock = some b → (v9_.ownBlock = some b ∨ w4.heap.size ≤ b)), (8, fun u wz => Own w0.heap.size 80 14 api_Fact.cells wz u l5 ∧ ∀ b, u.ownBlock = some b → (v9_.ownBlock = some b ∨ w4.heap.size ≤ b))] (fun b => Value.ownBlock v9_ = some b ∨ w4.heap.size ≤ b) (by kernel_rfl) ⟨sV, sV, fun _ _ _ hE ⟨hO, hf⟩ => ⟨hO.exn hE, hf⟩, sV, fun _ _ _ hE ⟨hO, hf⟩ => ⟨hO.exn hE, hf⟩, fun _ _ _ hE ⟨hO, hf⟩ => ⟨hO.exn hE, hf⟩, trivial⟩ ⟨mE rfl rfl h9,
 mE rfl rfl h0,
 fun ρz wz hE hA _ ⟨u0, u1, _⟩ => core_append (n := 14) (cells := api_Fact.cells) (B := w0.heap.size) (w0 := w4) rfl rfl (fun b hb => .inl hb) u0 u1 (fun _ => rfl) one_80 si_44 se_80 (by decide) (by decide) (O9.exn (hA rfl)) ⟨_, (Hv0.over hE (fun b hb => hb.elim (fun h => (O9.lt h).1) (fun h => Nat.le_trans hW.size h)))⟩ hl4 (Nat.le_trans hW.size hE.size) hE.size (fun v1 w1 h1 h2 => ⟨h1, h2⟩),
 mE rfl rfl h1,
 fun ρz wz hE hA _ ⟨⟨hO2, hfr2⟩, u3, _⟩ => core_append (n := 14) (cells := api_Fact.cells) (B := w0.heap.size) (w0 := w4) rfl rfl (fun b hb => hfr2 b hb) rfl u3 (fun _ => rfl) one_80 si_44 se_80 (by decide) (by decide) hO2 ⟨_, (Hv1.over hE (fun b hb => hb.elim (fun h => (O9.lt h).1) (fun h => Nat.le_trans hW.size h)))⟩ hl5 (Nat.le_trans hW.size hE.size) hE.size (fun v1 w1 h1 h2 => ⟨h1, fun b hb => (h2 b hb).elim (hfr2 b) .inr⟩),
 fun ρz wz hE hA _ ⟨⟨hO4, hfr4⟩, _⟩ => core_copy rfl rfl (o_assign rfl) ⟨hO4, hfr4⟩, trivial⟩ ?_
  intro ρ11 w11 hE hN hf hr
  obtain ⟨v8_, h8⟩ : ∃ v, ρ11 8 = v := ⟨_, rfl⟩
  have hq8 : (fun u wz => Own w0.heap.size 80 14 api_Fact.cells wz u l5 ∧ ∀ b, u.ownBlock = some b → (v9_.ownBlock = some b ∨ w4.heap.size ≤ b)) (ρ11 8) w11 := hf 5 rfl
  rw [h8] at hq8
  obtain ⟨hq8, hfr8⟩ := hq8
  have Oo_O9 := O9
  have hW := Ext.own hW hE (fun b hb => hb.elim (fun h => (O9.lt h).1) (fun h => Nat.le_trans hW.size h))
  have O8 := hq8
  refine WP.ret ?_
  show retQ Tryz.prog 69 Tryz.f97 (fun v w1 => Own w0.heap.size 80 14 api_Fact.cells w1 v r ∧ Ext noG w0 w1) .ret ρ11 w11
  obtain rfl := Option.some.inj hF
  exact res1 rfl (by decide) h8 ⟨O8, hW⟩

set_option maxHeartbeats 4000000 in
theorem career_byIdentity_ok {w0 : World} (a_ : api_Fact) (b_ : api_Fact) {r : Int} (hF : career_byIdentity a_ b_ = some r) :
    Calls Tryz.prog 99 #[api_Fact.val a_, api_Fact.val b_] w0 fun e w1 => e = .returned (.int .i64 r) ∧ Ext noG w0 w1 := by
  refine (Calls.start (P := Tryz.prog) (args := [api_Fact.val a_, api_Fact.val b_]) (R := fun v w1 => v = .int .i64 r ∧ Ext noG w0 w1) (n := 17) (w := w0) Tryz.func99 rfl rfl (Nat.le_of_ble_eq_true rfl) (fun ρ hargs => ?_)).mono (fun e w1 ⟨v, he, hv, hE⟩ => ⟨hv ▸ he, hE⟩)
  have h0 := hargs 0 _ rfl
  have h1 := hargs 1 _ rfl
  have hW := Ext.refl noG w0
  rw [career_byIdentity] at hF
  refine WP.seq (WP.regionN mixed ⟨[[], [], []], [[], [], []], [[0], [1], []], [], [], [(0, 2), (1, 3)], []⟩ [(2, fun u wz => ∃ b, u = .pointer (some ⟨b, 0, none⟩) ∧ w0.heap.size ≤ b ∧ Mb wz b 80 (api_Fact.cells a_)), (3, fun u wz => ∃ b, u = .pointer (some ⟨b, 0, none⟩) ∧ w0.heap.size ≤ b ∧ Mb wz b 80 (api_Fact.cells b_)), val 4 (.int .i64 0)] (fun b => w0.heap.size ≤ b) (by kernel_rfl) (.inr (fun _ h => h)) ⟨TStable.box, TStable.box, sV, trivial⟩ ⟨fun ρz wz hE hA ⟨e0, _⟩ _ => core_newN rfl rfl rfl hE (o_box (e0.trans h0) (bx_80 _ _)),
 fun ρz wz hE hA ⟨e1, _⟩ _ => core_newN rfl rfl rfl hE (o_box (e1.trans h1) (bx_80 _ _)),
 fun ρz wz hE hA _ _ => core_val rfl rfl (o_assign rfl), trivial⟩ ?_)
  intro ρ1 w1 hE hN hf hr hdist
  have hN := hE.fresh
  obtain ⟨b2_, h2, hge_b2_, Hb_b2_⟩ := hf 0 rfl
  obtain ⟨b3_, h3, hge_b3_, Hb_b3_⟩ := hf 1 rfl
  have hB_b2_ : w0.heap.size ≤ b2_ := Nat.le_trans hW.size hge_b2_
  have hB_b3_ : w0.heap.size ≤ b3_ := Nat.le_trans hW.size hge_b3_
  have hW := hW.trans hN
  refine WP.seq ?_
  obtain ⟨z, hz, hF⟩ := obind hF
  obtain ⟨z2, hz2, hF⟩ := obind hF
  obtain ⟨z3, hz3, hF⟩ := obind hF
  refine WP.rg mixed [[], [0], [], [2], [1, 3], [], [5], [], [7], [6, 8], [4, 9], [10], [11]] [[], [0], [], [2], [1, 3], [], [5], [], [7], [6, 8], [4, 9], [10], [11]] [[2], [], [3], [], [], [2], [], [3], [], [], [], [], []] [val 5 (.pointer (some ((⟨b2_, 0, none⟩ : Addr).add 0))), val 6 (.int .i64 a_.Issuer), val 7 (.pointer (some ((⟨b3_, 0, none⟩ : Addr).add 0))), val 8 (.int .i64 b_.Issuer), val 9 (.int .i64 z), val 10 (.pointer (some ((⟨b2_, 0, none⟩ : Addr).add 1))), val 11 (.int .i64 a_.Number), val 12 (.pointer (some ((⟨b3_, 0, none⟩ : Addr).add 1))), val 13 (.int .i64 b_.Number), val 14 (.int .i64 z2), (15, fun u wz => ∃ b, u = .slice (some ⟨b, 0, none⟩) 2 2 ∧ w1.heap.size ≤ b ∧ Mb wz b 3 (([z, z2]).flatMap (fun x : Int => [Value.int .i64 x]))), val 16 (.int .i64 z3), val 4 (.int .i64 z3)] (by kernel_rfl) ⟨sV, sV, sV, sV, sV, sV, sV, sV, sV, sV, fun _ _ _ hE ⟨b, hz, hs, hM⟩ => ⟨b, hz, hs, hM.exn hE⟩, sV, sV, trivial⟩ ⟨fun ρz wz hE hA ⟨e2, _⟩ _ => core_val rfl rfl (o_fieldAddr (e2.trans h2) (fa_80_0 _ _)),
 fun ρz wz hE hA _ ⟨u0, _⟩ => core_val rfl rfl (o_load u0 (run_load1 (lr_3 _ _) (CA.sub ((Hb_b2_.exn (hA rfl)).ca) 0 1))),
 fun ρz wz hE hA ⟨e3, _⟩ _ => core_val rfl rfl (o_fieldAddr (e3.trans h3) (fa_80_0 _ _)),
 fun ρz wz hE hA _ ⟨u2, _⟩ => core_val rfl rfl (o_load u2 (run_load1 (lr_3 _ _) (CA.sub ((Hb_b3_.exn (hA rfl)).ca) 0 1))),
 fun ρz wz hE hA _ ⟨u1, u3, _⟩ => core_call rfl (call_args2 u1 u3) cf_48 (cmp_Compare_of_int_ok  _ _  hz),
 fun ρz wz hE hA ⟨e2, _⟩ _ => core_val rfl rfl (o_fieldAddr (e2.trans h2) (fa_80_1 _ _)),
 fun ρz wz hE hA _ ⟨u5, _⟩ => core_val rfl rfl (o_load u5 (run_load1 (lr_3 _ _) (CA.sub ((Hb_b2_.exn (hA rfl)).ca) 1 1))),
 fun ρz wz hE hA ⟨e3, _⟩ _ => core_val rfl rfl (o_fieldAddr (e3.trans h3) (fa_80_1 _ _)),
 fun ρz wz hE hA _ ⟨u7, _⟩ => core_val rfl rfl (o_load u7 (run_load1 (lr_3 _ _) (CA.sub ((Hb_b3_.exn (hA rfl)).ca) 1 1))),
 fun ρz wz hE hA _ ⟨u6, u8, _⟩ => core_call rfl (call_args2 u6 u8) cf_48 (cmp_Compare_of_int_ok  _ _  hz2),
 fun ρz wz hE hA _ ⟨u4, u9, _⟩ => core_slice rfl rfl hE (o_buildSlice (build_parts2 u4 u9) (bs_35_2 _ _ _)),
 fun ρz wz hE hA _ ⟨⟨bz10, hz10, hge10, hM10⟩, _⟩ => core_call rfl (call_args1 hz10) cf_47 (cmp_Or_of_int_ok  _ (Mb.rep (n := 1) (cells := fun x : Int => [Value.int .i64 x]) (hn := fun _ => rfl) (G := noG) hM10 rfl (Nat.le_of_ble_eq_true rfl) (fun h => h)).no hz3),
 aU rfl rfl rfl, trivial⟩ ?_
  intro ρ2 w2 hN hf hr
  have h4 : ρ2 4 = .int .i64 z3 := hf 12 rfl
  have hW := hW.trans hN
  refine WP.ret ?_
  show retQ Tryz.prog 17 Tryz.f99 (fun v w1 => v = .int .i64 r ∧ Ext noG w0 w1) .ret ρ2 w2
  obtain rfl := Option.some.inj hF
  exact res1 rfl (by decide) h4 ⟨rfl, hW⟩

set_option maxHeartbeats 4000000 in
theorem career_greater_ok {w0 : World} (a_ : api_Fact) (b_ : api_Fact) {r : api_Fact} (hF : career_greater a_ b_ = some r) :
    Calls Tryz.prog 100 #[api_Fact.val a_, api_Fact.val b_] w0 fun e w1 => e = .returned (api_Fact.val r) ∧ Ext noG w0 w1 := by
  refine (Calls.start (P := Tryz.prog) (args := [api_Fact.val a_, api_Fact.val b_]) (R := fun v w1 => v = api_Fact.val r ∧ Ext noG w0 w1) (n := 10) (w := w0) Tryz.func100 rfl rfl (Nat.le_of_ble_eq_true rfl) (fun ρ hargs => ?_)).mono (fun e w1 ⟨v, he, hv, hE⟩ => ⟨hv ▸ he, hE⟩)
  have h0 := hargs 0 _ rfl
  have h1 := hargs 1 _ rfl
  have hW := Ext.refl noG w0
  rw [career_greater] at hF
  refine WP.seq (WP.regionN mixed ⟨[[], [], []], [[], [], []], [[0], [1], []], [], [], [(0, 2), (1, 3), (2, 4)], []⟩ [(2, fun u wz => ∃ b, u = .pointer (some ⟨b, 0, none⟩) ∧ w0.heap.size ≤ b ∧ Mb wz b 80 (api_Fact.cells a_)), (3, fun u wz => ∃ b, u = .pointer (some ⟨b, 0, none⟩) ∧ w0.heap.size ≤ b ∧ Mb wz b 80 (api_Fact.cells b_)), (4, fun u wz => ∃ b, u = .pointer (some ⟨b, 0, none⟩) ∧ w0.heap.size ≤ b ∧ Mb wz b 80 (api_Fact.cells (⟨0, 0, 0, false, 0, 0, 0, (⟨0, 0⟩ : Span), 0, 0, 0, 0, 0⟩ : api_Fact)))] (fun b => w0.heap.size ≤ b) (by kernel_rfl) (.inr (fun _ h => h)) ⟨TStable.box, TStable.box, TStable.box, trivial⟩ ⟨fun ρz wz hE hA ⟨e0, _⟩ _ => core_newN rfl rfl rfl hE (o_box (e0.trans h0) (bx_80 _ _)),
 fun ρz wz hE hA ⟨e1, _⟩ _ => core_newN rfl rfl rfl hE (o_box (e1.trans h1) (bx_80 _ _)),
 fun ρz wz hE hA _ _ => core_newN rfl rfl rfl hE (o_alloc (al_80 _)), trivial⟩ ?_)
  intro ρ1 w1 hE hN hf hr hdist
  have hN := hE.fresh
  obtain ⟨b2_, h2, hge_b2_, Hb_b2_⟩ := hf 0 rfl
  obtain ⟨b3_, h3, hge_b3_, Hb_b3_⟩ := hf 1 rfl
  obtain ⟨b4_, h4, hge_b4_, Hb_b4_⟩ := hf 2 rfl
  have hB_b2_ : w0.heap.size ≤ b2_ := Nat.le_trans hW.size hge_b2_
  have hB_b3_ : w0.heap.size ≤ b3_ := Nat.le_trans hW.size hge_b3_
  have hB_b4_ : w0.heap.size ≤ b4_ := Nat.le_trans hW.size hge_b4_
  have hne_b2__b3_ : b2_ ≠ b3_ := fun h => hdist (0, 2) (by simp) (1, 3) (by simp) (by decide) b2_ (by rw [h2]; rfl) (by rw [h3, h]; rfl)
  have hne_b2__b4_ : b2_ ≠ b4_ := fun h => hdist (0, 2) (by simp) (2, 4) (by simp) (by decide) b2_ (by rw [h2]; rfl) (by rw [h4, h]; rfl)
  have hne_b3__b4_ : b3_ ≠ b4_ := fun h => hdist (1, 3) (by simp) (2, 4) (by simp) (by decide) b3_ (by rw [h3]; rfl) (by rw [h4, h]; rfl)
  have hW := hW.trans hN
  refine WP.seq (WP.seq ?_)
  cases hF

set_option maxHeartbeats 4000000 in
theorem career_ascending_ok {w0 : World} (l_ : List api_Fact) {v_l_ : Value} (H_l_ : RepSl api_Fact.R noG w0 v_l_ l_) {r : (List api_Fact)} (hF : career_ascending l_ = some r) :
    Calls Tryz.prog 98 #[v_l_] w0 fun e w1 => ∃ v, e = .returned v ∧ Ext noG w0 w1 ∧ Own w0.heap.size 80 14 api_Fact.cells w1 v r := by
  refine (Calls.start (P := Tryz.prog) (args := [v_l_]) (R := fun v w1 => Own w0.heap.size 80 14 api_Fact.cells w1 v r ∧ Ext noG w0 w1) (n := 20) (w := w0) Tryz.func98 rfl rfl (Nat.le_of_ble_eq_true rfl) (fun ρ hargs => ?_)).mono (fun e w1 ⟨v, he, hv, hE⟩ => ⟨v, he, hE, hv⟩)
  have h0 := hargs 0 _ rfl
  have hW := Ext.refl noG w0
  obtain ⟨_, _, hs_H_l_, _, _⟩ := RepSl.shape H_l_
  have H_l_ := H_l_.start
  rw [career_ascending] at hF
  refine WP.seq (WP.rb mixed [[]] [[]] [(2, .slice none 0 0)] (by kernel_rfl) ⟨aC rfl rfl (fun _ => rfl), trivial⟩ ?_)
  intro ρ1 w1 hN hf hr
  have h0 := (hr 0 rfl).trans h0
  have H_l_ := H_l_.exn hN
  have hW := hW.trans hN
  refine WP.seq (WP.rb mixed [[]] [[]] [(3, .slice none 0 0)] (by kernel_rfl) ⟨aC rfl rfl (fun _ => rfl), trivial⟩ ?_)
  intro ρ2 w2 hN hf hr
  have h3 : ρ2 3 = .slice none 0 0 := hf 0 rfl
  have O3 : Own w0.heap.size 80 14 api_Fact.cells w2 (.slice none 0 0) [] := Own.nil _ _ _ _ _
  have h0 := (hr 0 rfl).trans h0
  have H_l_ := H_l_.exn hN
  have hW := hW.trans hN
  refine WP.seq (WP.seq (WP.rb mixed [[], [0], []] [[0], [], []] [(6, v_l_), (7, .int .i64 (l_.length : Int)), (8, .int .i64 0)] (by kernel_rfl) ⟨mE rfl rfl h0,
 fun ρz wz hE hA _ ⟨u0, _⟩ => core_val rfl rfl (o_len (u0.trans hs_H_l_) len_44),
 mC rfl rfl (fun _ => rfl), trivial⟩ ?_))
  intro ρ3 w3 hN hf hr
  have h6 := hv hf 0 rfl rfl
  have h7 := hv hf 1 rfl rfl
  have h8 := hv hf 2 rfl rfl
  have h3 := (hr 3 rfl).trans h3
  have Oo_O3 := O3
  have H_l_ := H_l_.exn hN
  have hW := hW.trans hN
  have O3 := O3.exn hN
  refine WP.block (WP.loop (fun k_ ρ w => ∃ out_ : List api_Fact, ∃ x : Int, ∃ v3_ : Value, ρ 3 = v3_ ∧ ρ 6 = v_l_ ∧ ρ 7 = .int .i64 (l_.length : Int) ∧ ρ 8 = .int .i64 x ∧ RepSl api_Fact.R (gfr noG w0) w v_l_ l_ ∧ Own w0.heap.size 80 14 api_Fact.cells w v3_ out_ ∧ Ext noG w0 w ∧ loopC k_ (career_ascending_l l_) (out_, x) = some r) FU ⟨[], 0, .slice none 0 0, h3, h6, h7, h8, H_l_, O3, hW, hF⟩ (fun _ _ h => by obtain ⟨_, _, _, _, _, _, _, _, _, _, h⟩ := h; cases h) ?_)
  rintro k_ ρ4 w4 ⟨out_, x, v3_, h3, h6, h7, h8, H_l_, O3, hW, hF⟩
  have hF : career_ascending_l l_ (loopC k_ (career_ascending_l l_)) (out_, x) = some r := hF
  generalize hrec_ : loopC k_ (career_ascending_l l_) = rec_ at hF
  rw [career_ascending_l] at hF
  refine WP.seq (WP.rb mixed [[]] [[8, 7]] [(9, .bool (decide (x < (l_.length : Int))))] (by kernel_rfl) ⟨fun ρz wz hE hA ⟨e8, e7, _⟩ _ => core_val rfl rfl (o_lss (e8.trans h8) (e7.trans h7) rfl), trivial⟩ ?_)
  intro ρ5 w5 hN hf hr
  have h9 := hv hf 0 rfl rfl
  obtain ⟨h3, h6, h7, h8⟩ := k4 hr h3 h6 h7 h8 rfl
  have Oo_O3 := O3
  have H_l_ := H_l_.exn hN
  have hW := hW.trans hN
  have O3 := O3.exn hN
  refine WP.seq (WP.cond rfl h9 (fun hb => ?_) (fun hb => ?_))
  · have hF := (if_pos hb).symm.trans hF
    refine WP.skip (WP.seqJ (fun ρ w => ∃ out_2 : List api_Fact, ∃ v3_2 : Value, ρ 3 = v3_2 ∧ ρ 6 = v_l_ ∧ ρ 7 = .int .i64 (l_.length : Int) ∧ ρ 8 = .int .i64 x ∧ RepSl api_Fact.R (gfr noG w0) w v_l_ l_ ∧ Own w0.heap.size 80 14 api_Fact.cells w v3_2 out_2 ∧ Ext noG w0 w ∧ career_ascending_j x rec_ out_2 = some r) ?_ ?_)
    · refine WP.block (WP.seq ?_)
      obtain ⟨y, hy, hF⟩ := obind hF
      obtain ⟨ay, cy, hvy, hiy, hAy⟩ := RepSl.getF H_l_ hy
      refine WP.region mixed [[], [0], [], [1, 2]] [[], [0], [], [1, 2]] [[6, 8], [], [], []] [3] [(2, 3)] [val 10 (.pointer (some (ay.add (Int.toNat x * 14)))), val 11 (api_Fact.val y), (5, fun u wz => ∃ b, u = .pointer (some ⟨b, 0, none⟩) ∧ w5.heap.size ≤ b ∧ Mb wz b 80 (api_Fact.cells (⟨0, 0, 0, false, 0, 0, 0, (⟨0, 0⟩ : Span), 0, 0, 0, 0, 0⟩ : api_Fact))), (5, fun u wz => ∃ b, u = .pointer (some ⟨b, 0, none⟩) ∧ w5.heap.size ≤ b ∧ Mb wz b 80 (api_Fact.cells y))] (fun b => w5.heap.size ≤ b) (by kernel_rfl) ⟨sV, sV, fun _ _ _ hE ⟨b, hb, hs, hM⟩ => ⟨b, hb, hs, hM.exn hE⟩, fun _ _ _ hE ⟨b, hb, hs, hM⟩ => ⟨b, hb, hs, hM.exn hE⟩, trivial⟩ ⟨fun ρz wz hE hA ⟨e6, e8, _⟩ _ => core_val rfl rfl (o_indexAddr ((e6.trans h6).trans hvy) (e8.trans h8) (ia_44 hiy)),
 fun ρz wz hE hA _ ⟨u0, _⟩ => core_val rfl rfl (o_load u0 (run_loadN (cs := (api_Fact.cells y)) (lr_80 _ _) rfl ((hAy.exn hE.fresh).ca))),
 fun ρz wz hE hA _ _ => core_new rfl rfl hE (o_alloc (al_80 _)),
 fun ρz wz hE hA _ ⟨u1, u2, _⟩ => core_storeNew rfl rfl rfl rfl u1 u2 (fun a w => st_80 _ a w) rfl (one_80 _), trivial⟩ ?_
      intro ρ8 w8 hE hN hf hr
      have hN := hE.fresh
      obtain ⟨b5_, h5, hge_b5_, Hb_b5_⟩ := hf 3 rfl
      obtain ⟨h3, h6, h7, h8⟩ := k4 hr h3 h6 h7 h8 rfl
      have Oo_O3 := O3
      have H_l_ := H_l_.exn hN
      have hnb_O3_b5_ : Value.ownBlock v3_ ≠ some b5_ := fun h => absurd (O3.lt h).2 (Nat.not_lt.2 hge_b5_)
      have hB_b5_ : w0.heap.size ≤ b5_ := Nat.le_trans hW.size hge_b5_
      have hW := hW.trans hN
      have O3 := O3.exn hN
      refine WP.seq ?_
      cases hF
    rintro ρ6 w6 ⟨out_2, v3_2, h3, h6, h7, h8, H_l_, O3, hW, hF⟩
    rw [career_ascending_j] at hF
    refine WP.rb mixed [[], [0]] [[8], []] [(18, .int .i64 (i64 (x + 1))), (8, .int .i64 (i64 (x + 1)))] (by kernel_rfl) ⟨fun ρz wz hE hA ⟨e8, _⟩ _ => core_val rfl rfl (o_add (e8.trans h8) rfl rfl),
 mU rfl rfl rfl, trivial⟩ ?_
    intro ρ7 w7 hN hf hr
    have h8 := hv hf 1 rfl rfl
    obtain ⟨h3, h6, h7⟩ := k3 hr h3 h6 h7 rfl
    have Oo_O3 := O3
    have H_l_ := H_l_.exn hN
    have hW := hW.trans hN
    have O3 := O3.exn hN
    exact ⟨out_2, i64 (x + 1), v3_2, h3, h6, h7, h8, H_l_, O3, hW, (by first | exact hF | (rw [hrec_]; exact hF))⟩
  have hF := (if_neg (Bool.eq_false_iff.1 hb)).symm.trans hF
  refine WP.exit (thenQ_exit (thenQ_exit (blockQ_hit (WP.seq (WP.rb mixed [[], [0]] [[3], []] [(19, v3_), (2, v3_)] (by kernel_rfl) ⟨mE rfl rfl h3,
 aU rfl rfl rfl, trivial⟩ ?_)))))
  intro ρ9 w9 hN hf hr
  have h2 := hv hf 1 rfl rfl
  have Oo_O3 := O3
  have hW := hW.trans hN
  have O2 := Oo_O3.exn hN
  refine WP.ret ?_
  show retQ Tryz.prog 20 Tryz.f98 (fun v w1 => Own w0.heap.size 80 14 api_Fact.cells w1 v r ∧ Ext noG w0 w1) .ret ρ9 w9
  obtain rfl := Option.some.inj hF
  exact res1 rfl (by decide) h2 ⟨O2, hW⟩

set_option maxHeartbeats 4000000 in
theorem career_Merge_ok {w0 : World} (a_ : List api_Fact) (b_ : List api_Fact) {v_a_ : Value} (H_a_ : RepSl api_Fact.R noG w0 v_a_ a_) {v_b_ : Value} (H_b_ : RepSl api_Fact.R noG w0 v_b_ b_) {r : (List api_Fact)} (hF : career_Merge a_ b_ = some r) :
    Calls Tryz.prog 57 #[v_a_, v_b_] w0 fun e w1 => ∃ v, e = .returned v ∧ Ext noG w0 w1 ∧ Own w0.heap.size 80 14 api_Fact.cells w1 v r := by
  refine (Calls.start (P := Tryz.prog) (args := [v_a_, v_b_]) (R := fun v w1 => Own w0.heap.size 80 14 api_Fact.cells w1 v r ∧ Ext noG w0 w1) (n := 10) (w := w0) Tryz.func57 rfl rfl (Nat.le_of_ble_eq_true rfl) (fun ρ hargs => ?_)).mono (fun e w1 ⟨v, he, hv, hE⟩ => ⟨v, he, hE, hv⟩)
  have h0 := hargs 0 _ rfl
  have h1 := hargs 1 _ rfl
  have hW := Ext.refl noG w0
  obtain ⟨_, _, hs_H_a_, _, _⟩ := RepSl.shape H_a_
  have H_a_ := H_a_.start
  obtain ⟨_, _, hs_H_b_, _, _⟩ := RepSl.shape H_b_
  have H_b_ := H_b_.start
  rw [career_Merge] at hF
  refine WP.seq (WP.rb mixed [[]] [[]] [(4, .slice none 0 0)] (by kernel_rfl) ⟨aC rfl rfl (fun _ => rfl), trivial⟩ ?_)
  intro ρ1 w1 hN hf hr
  obtain ⟨h0, h1⟩ := k2 hr h0 h1 rfl
  have H_a_ := H_a_.exn hN
  have H_b_ := H_b_.exn hN
  have hW := hW.trans hN
  refine WP.seq ?_
  obtain ⟨z, hz, hF⟩ := obind hF
  obtain ⟨z2, hz2, hF⟩ := obind hF
  obtain ⟨z3, hz3, hF⟩ := obind hF
  refine WP.rg mixed [[], [0], [], [2], [1, 3], [4]] [[], [0], [], [2], [1, 3], [4]] [[0], [], [1], [], [], []] [val 5 (v_a_), (6, fun u wz => Own w0.heap.size 80 14 api_Fact.cells wz u z ∧ ∀ b, u.ownBlock = some b → w1.heap.size ≤ b), val 7 (v_b_), (8, fun u wz => Own w0.heap.size 80 14 api_Fact.cells wz u z2 ∧ ∀ b, u.ownBlock = some b → w1.heap.size ≤ b), (9, fun u wz => Own w0.heap.size 80 14 api_Fact.cells wz u z3 ∧ ∀ b, u.ownBlock = some b → w1.heap.size ≤ b), (4, fun u wz => Own w0.heap.size 80 14 api_Fact.cells wz u z3 ∧ ∀ b, u.ownBlock = some b → w1.heap.size ≤ b)] (by kernel_rfl) ⟨sV, fun _ _ _ hE ⟨hO, hf⟩ => ⟨hO.exn hE, hf⟩, sV, fun _ _ _ hE ⟨hO, hf⟩ => ⟨hO.exn hE, hf⟩, fun _ _ _ hE ⟨hO, hf⟩ => ⟨hO.exn hE, hf⟩, fun _ _ _ hE ⟨hO, hf⟩ => ⟨hO.exn hE, hf⟩, trivial⟩ ⟨mE rfl rfl h0,
 fun ρz wz hE hA _ ⟨u0, _⟩ => core_callR rfl (call_args1 u0) cf_98 ((career_ascending_ok  _ (H_a_.exn (hA rfl)).no hz).mono (fun e w1 ⟨v, he, hE1, hO⟩ => ⟨v, he, hE1, hO.base (Nat.le_trans hW.size hE.size), fun b hb => Nat.le_trans hE.size (hO.lt hb).1⟩)),
 mE rfl rfl h1,
 fun ρz wz hE hA _ ⟨u2, _⟩ => core_callR rfl (call_args1 u2) cf_98 ((career_ascending_ok  _ (H_b_.exn (hA rfl)).no hz2).mono (fun e w1 ⟨v, he, hE1, hO⟩ => ⟨v, he, hE1, hO.base (Nat.le_trans hW.size hE.size), fun b hb => Nat.le_trans hE.size (hO.lt hb).1⟩)),
 fun ρz wz hE hA _ ⟨⟨hO1, hfr1⟩, ⟨hO3, hfr3⟩, _⟩ => core_callR rfl (call_args4 rfl rfl rfl rfl) cf_97 ((career_merge_of_api_Fact_ok  _ _ _ _ (hO1.rep (hn := fun _ => rfl) (G := noG) (fun _ _ h => h)).no (hO3.rep (hn := fun _ => rfl) (G := noG) (fun _ _ h => h)).no (FnR.mk (V := fnV_147) (W := fnW_147) (G := noG) (cap := []) cf_99 (fun w' hE' x r hr => career_byIdentity_ok _ _   hr)) (FnR.mk (V := fnV_148) (W := fnW_148) (G := noG) (cap := []) cf_100 (fun w' hE' x r hr => career_greater_ok _ _   hr)) hz3).mono (fun e w1 ⟨v, he, hE1, hO⟩ => ⟨v, he, hE1, hO.base (Nat.le_trans hW.size hE.size), fun b hb => Nat.le_trans hE.size (hO.lt hb).1⟩)),
 fun ρz wz hE hA _ ⟨⟨hO4, hfr4⟩, _⟩ => core_copy rfl rfl (o_assign rfl) ⟨hO4, hfr4⟩, trivial⟩ ?_
  intro ρ2 w2 hN hf hr
  obtain ⟨v4_, h4⟩ : ∃ v, ρ2 4 = v := ⟨_, rfl⟩
  have hq4 : (fun u wz => Own w0.heap.size 80 14 api_Fact.cells wz u z3 ∧ ∀ b, u.ownBlock = some b → w1.heap.size ≤ b) (ρ2 4) w2 := hf 5 rfl
  rw [h4] at hq4
  obtain ⟨hq4, hfr4⟩ := hq4
  have hW := hW.trans hN
  have O4 := hq4
  refine WP.ret ?_
  show retQ Tryz.prog 10 Tryz.f57 (fun v w1 => Own w0.heap.size 80 14 api_Fact.cells w1 v r ∧ Ext noG w0 w1) .ret ρ2 w2
  obtain rfl := Option.some.inj hF
  exact res1 rfl (by decide) h4 ⟨O4, hW⟩

set_option maxHeartbeats 4000000 in
theorem career_Of_1_ok {w0 : World} (f_ : api_Fact) (c_ : Int) {bc1_ : Nat} (Hb_bc1_ : Mb w0 bc1_ 3 [Value.int .i64 c_]) {r : Bool} (hF : career_Of_1 f_ c_ = some r) :
    Calls Tryz.prog 102 #[api_Fact.val f_, .pointer (some ⟨bc1_, 0, none⟩)] w0 fun e w1 => e = .returned (.bool r) ∧ Ext noG w0 w1 := by
  refine (Calls.start (P := Tryz.prog) (args := [api_Fact.val f_, .pointer (some ⟨bc1_, 0, none⟩)]) (R := fun v w1 => v = .bool r ∧ Ext noG w0 w1) (n := 8) (w := w0) Tryz.func102 rfl rfl (Nat.le_of_ble_eq_true rfl) (fun ρ hargs => ?_)).mono (fun e w1 ⟨v, he, hv, hE⟩ => ⟨hv ▸ he, hE⟩)
  have h0 := hargs 0 _ rfl
  have h1 := hargs 1 _ rfl
  have hW := Ext.refl noG w0
  rw [career_Of_1] at hF
  refine WP.seq (WP.rg mixed [[], []] [[], []] [[0], []] [(2, fun u wz => ∃ b, u = .pointer (some ⟨b, 0, none⟩) ∧ w0.heap.size ≤ b ∧ Mb wz b 80 (api_Fact.cells f_)), val 3 (.bool false)] (by kernel_rfl) ⟨fun _ _ _ hE ⟨b, hb, hs, hM⟩ => ⟨b, hb, hs, hM.exn hE⟩, sV, trivial⟩ ⟨fun ρz wz hE hA ⟨e0, _⟩ _ => core_new rfl rfl hE (o_box (e0.trans h0) (bx_80 _ _)),
 aC rfl rfl (fun _ => rfl), trivial⟩ ?_)
  intro ρ1 w1 hN hf hr
  obtain ⟨b2_, h2, hge_b2_, Hb_b2_⟩ := hf 0 rfl
  have h1 := (hr 1 rfl).trans h1
  have Hb_bc1_n := Hb_bc1_.exn hN
  have hB_b2_ : w0.heap.size ≤ b2_ := Nat.le_trans hW.size hge_b2_
  have hW := hW.trans hN
  have Hb_bc1_ := Hb_bc1_n
  refine WP.seq (WP.rb mixed [[], [0], [], [1, 2], [3]] [[2], [], [1], [], []] [(4, .pointer (some ((⟨b2_, 0, none⟩ : Addr).add 4))), (5, .int .i64 f_.Person), (6, .int .i64 c_), (7, .bool (f_.Person == c_)), (3, .bool (f_.Person == c_))] (by kernel_rfl) ⟨fun ρz wz hE hA ⟨e2, _⟩ _ => core_val rfl rfl (o_fieldAddr (e2.trans h2) (fa_80_4 _ _)),
 fun ρz wz hE hA _ ⟨u0, _⟩ => core_val rfl rfl (o_load u0 (run_load1 (lr_3 _ _) (CA.sub ((Hb_b2_.exn (hA rfl)).ca) 4 1))),
 fun ρz wz hE hA ⟨e1, _⟩ _ => core_val rfl rfl (o_load (e1.trans h1) (run_load1 (lr_3 _ _) ((Hb_bc1_.exn (hA rfl)).ca))),
 fun ρz wz hE hA _ ⟨u1, u2, _⟩ => core_val rfl rfl (o_eql u1 u2 rfl),
 aU rfl rfl rfl, trivial⟩ ?_)
  intro ρ2 w2 hN hf hr
  have h3 := hv hf 4 rfl rfl
  have hW := hW.trans hN
  refine WP.ret ?_
  show retQ Tryz.prog 8 Tryz.f102 (fun v w1 => v = .bool r ∧ Ext noG w0 w1) .ret ρ2 w2
  obtain rfl := Option.some.inj hF
  exact res1 rfl (by decide) h3 ⟨rfl, hW⟩

set_option maxHeartbeats 4000000 in
theorem career_filter_ok {w0 : World} (l_ : List api_Fact) (want_ : api_Fact → Option Bool) {v_l_ : Value} (H_l_ : RepSl api_Fact.R noG w0 v_l_ l_) {v_want_ : Value} (H_want_ : FnR Tryz.prog fnV_150 fnW_150 want_ noG w0 v_want_) {r : (List api_Fact)} (hF : career_filter l_ want_ = some r) :
    Calls Tryz.prog 101 #[v_l_, v_want_] w0 fun e w1 => ∃ v, e = .returned v ∧ Ext noG w0 w1 ∧ Own w0.heap.size 80 14 api_Fact.cells w1 v r := by
  refine (Calls.start (P := Tryz.prog) (args := [v_l_, v_want_]) (R := fun v w1 => Own w0.heap.size 80 14 api_Fact.cells w1 v r ∧ Ext noG w0 w1) (n := 23) (w := w0) Tryz.func101 rfl rfl (Nat.le_of_ble_eq_true rfl) (fun ρ hargs => ?_)).mono (fun e w1 ⟨v, he, hv, hE⟩ => ⟨v, he, hE, hv⟩)
  have h0 := hargs 0 _ rfl
  have h1 := hargs 1 _ rfl
  have hW := Ext.refl noG w0
  obtain ⟨_, _, hs_H_l_, _, _⟩ := RepSl.shape H_l_
  have H_l_ := H_l_.start
  have H_want_ := H_want_.start
  rw [career_filter] at hF
  refine WP.seq (WP.rb mixed [[]] [[]] [(4, .slice none 0 0)] (by kernel_rfl) ⟨aC rfl rfl (fun _ => rfl), trivial⟩ ?_)
  intro ρ1 w1 hN hf hr
  obtain ⟨h0, h1⟩ := k2 hr h0 h1 rfl
  have H_l_ := H_l_.exn hN
  have H_want_ := H_want_.exn hN
  have hW := hW.trans hN
  refine WP.seq (WP.rb mixed [[]] [[]] [(5, .slice none 0 0)] (by kernel_rfl) ⟨aC rfl rfl (fun _ => rfl), trivial⟩ ?_)
  intro ρ2 w2 hN hf hr
  have h5 : ρ2 5 = .slice none 0 0 := hf 0 rfl
  have O5 : Own w0.heap.size 80 14 api_Fact.cells w2 (.slice none 0 0) [] := Own.nil _ _ _ _ _
  obtain ⟨h0, h1⟩ := k2 hr h0 h1 rfl
  have H_l_ := H_l_.exn hN
  have H_want_ := H_want_.exn hN
  have hW := hW.trans hN
  refine WP.seq (WP.seq (WP.rb mixed [[], [0], []] [[0], [], []] [(8, v_l_), (9, .int .i64 (l_.length : Int)), (10, .int .i64 0)] (by kernel_rfl) ⟨mE rfl rfl h0,
 fun ρz wz hE hA _ ⟨u0, _⟩ => core_val rfl rfl (o_len (u0.trans hs_H_l_) len_44),
 mC rfl rfl (fun _ => rfl), trivial⟩ ?_))
  intro ρ3 w3 hN hf hr
  have h8 := hv hf 0 rfl rfl
  have h9 := hv hf 1 rfl rfl
  have h10 := hv hf 2 rfl rfl
  obtain ⟨h1, h5⟩ := k2 hr h1 h5 rfl
  have Oo_O5 := O5
  have H_l_ := H_l_.exn hN
  have H_want_ := H_want_.exn hN
  have hW := hW.trans hN
  have O5 := O5.exn hN
  refine WP.block (WP.loop (fun k_ ρ w => ∃ out_ : List api_Fact, ∃ x : Int, ∃ v5_ : Value, ρ 1 = v_want_ ∧ ρ 5 = v5_ ∧ ρ 8 = v_l_ ∧ ρ 9 = .int .i64 (l_.length : Int) ∧ ρ 10 = .int .i64 x ∧ RepSl api_Fact.R (gfr noG w0) w v_l_ l_ ∧ FnR Tryz.prog fnV_150 fnW_150 want_ (gfr noG w0) w v_want_ ∧ Own w0.heap.size 80 14 api_Fact.cells w v5_ out_ ∧ Ext noG w0 w ∧ loopC k_ (career_filter_l l_ want_) (out_, x) = some r) FU ⟨[], 0, .slice none 0 0, h1, h5, h8, h9, h10, H_l_, H_want_, O5, hW, hF⟩ (fun _ _ h => by obtain ⟨_, _, _, _, _, _, _, _, _, _, _, _, h⟩ := h; cases h) ?_)
  rintro k_ ρ4 w4 ⟨out_, x, v5_, h1, h5, h8, h9, h10, H_l_, H_want_, O5, hW, hF⟩
  have hF : career_filter_l l_ want_ (loopC k_ (career_filter_l l_ want_)) (out_, x) = some r := hF
  generalize hrec_ : loopC k_ (career_filter_l l_ want_) = rec_ at hF
  rw [career_filter_l] at hF
  refine WP.seq (WP.rb mixed [[]] [[10, 9]] [(11, .bool (decide (x < (l_.length : Int))))] (by kernel_rfl) ⟨fun ρz wz hE hA ⟨e10, e9, _⟩ _ => core_val rfl rfl (o_lss (e10.trans h10) (e9.trans h9) rfl), trivial⟩ ?_)
  intro ρ5 w5 hN hf hr
  have h11 := hv hf 0 rfl rfl
  obtain ⟨h1, h5, h8, h9, h10⟩ := k5 hr h1 h5 h8 h9 h10 rfl
  have Oo_O5 := O5
  have H_l_ := H_l_.exn hN
  have H_want_ := H_want_.exn hN
  have hW := hW.trans hN
  have O5 := O5.exn hN
  refine WP.seq (WP.cond rfl h11 (fun hb => ?_) (fun hb => ?_))
  · have hF := (if_pos hb).symm.trans hF
    refine WP.skip (WP.seqJ (fun ρ w => ∃ out_2 : List api_Fact, ∃ v5_2 : Value, ρ 1 = v_want_ ∧ ρ 5 = v5_2 ∧ ρ 8 = v_l_ ∧ ρ 9 = .int .i64 (l_.length : Int) ∧ ρ 10 = .int .i64 x ∧ RepSl api_Fact.R (gfr noG w0) w v_l_ l_ ∧ FnR Tryz.prog fnV_150 fnW_150 want_ (gfr noG w0) w v_want_ ∧ Own w0.heap.size 80 14 api_Fact.cells w v5_2 out_2 ∧ Ext noG w0 w ∧ career_filter_j x rec_ out_2 = some r) ?_ ?_)
    · refine WP.block (WP.seq ?_)
      obtain ⟨y, hy, hF⟩ := obind hF
      obtain ⟨ay, cy, hvy, hiy, hAy⟩ := RepSl.getF H_l_ hy
      refine WP.region mixed [[], [0], [], [1, 2]] [[], [0], [], [1, 2]] [[8, 10], [], [], []] [3] [(2, 3)] [val 12 (.pointer (some (ay.add (Int.toNat x * 14)))), val 13 (api_Fact.val y), (7, fun u wz => ∃ b, u = .pointer (some ⟨b, 0, none⟩) ∧ w5.heap.size ≤ b ∧ Mb wz b 80 (api_Fact.cells (⟨0, 0, 0, false, 0, 0, 0, (⟨0, 0⟩ : Span), 0, 0, 0, 0, 0⟩ : api_Fact))), (7, fun u wz => ∃ b, u = .pointer (some ⟨b, 0, none⟩) ∧ w5.heap.size ≤ b ∧ Mb wz b 80 (api_Fact.cells y))] (fun b => w5.heap.size ≤ b) (by kernel_rfl) ⟨sV, sV, fun _ _ _ hE ⟨b, hb, hs, hM⟩ => ⟨b, hb, hs, hM.exn hE⟩, fun _ _ _ hE ⟨b, hb, hs, hM⟩ => ⟨b, hb, hs, hM.exn hE⟩, trivial⟩ ⟨fun ρz wz hE hA ⟨e8, e10, _⟩ _ => core_val rfl rfl (o_indexAddr ((e8.trans h8).trans hvy) (e10.trans h10) (ia_44 hiy)),
 fun ρz wz hE hA _ ⟨u0, _⟩ => core_val rfl rfl (o_load u0 (run_loadN (cs := (api_Fact.cells y)) (lr_80 _ _) rfl ((hAy.exn hE.fresh).ca))),
 fun ρz wz hE hA _ _ => core_new rfl rfl hE (o_alloc (al_80 _)),
 fun ρz wz hE hA _ ⟨u1, u2, _⟩ => core_storeNew rfl rfl rfl rfl u1 u2 (fun a w => st_80 _ a w) rfl (one_80 _), trivial⟩ ?_
      intro ρ8 w8 hE hN hf hr
      have hN := hE.fresh
      obtain ⟨b7_, h7, hge_b7_, Hb_b7_⟩ := hf 3 rfl
      obtain ⟨h1, h5, h8, h9, h10⟩ := k5 hr h1 h5 h8 h9 h10 rfl
      have Oo_O5 := O5
      have H_l_ := H_l_.exn hN
      have H_want_ := H_want_.exn hN
      have hnb_O5_b7_ : Value.ownBlock v5_ ≠ some b7_ := fun h => absurd (O5.lt h).2 (Nat.not_lt.2 hge_b7_)
      have hB_b7_ : w0.heap.size ≤ b7_ := Nat.le_trans hW.size hge_b7_
      have hW := hW.trans hN
      have O5 := O5.exn hN
      refine WP.seq ?_
      obtain ⟨z, hz, hF⟩ := obind hF
      refine WP.rb mixed [[], [], [0, 1]] [[1], [7], []] [(14, v_want_), (15, api_Fact.val y), (16, .bool z)] (by kernel_rfl) ⟨mE rfl rfl h1,
 fun ρz wz hE hA ⟨e7, _⟩ _ => core_val rfl rfl (o_load (e7.trans h7) (run_loadN (cs := (api_Fact.cells y)) (lr_80 _ _) rfl ((Hb_b7_.exn (hA rfl)).ca))),
 fun ρz wz hE hA _ ⟨u0, u1, _⟩ => core_callF (V := fnV_150) (W := fnW_150) (a := y) (r := z) rfl u0 (call_args1 u1) (H_want_.exn (hA rfl)).no hz, trivial⟩ ?_
      intro ρ9 w9 hN hf hr
      have h16 := hv hf 2 rfl rfl
      obtain ⟨h1, h5, h8, h9, h10, h7⟩ := k6 hr h1 h5 h8 h9 h10 h7 rfl
      have Oo_O5 := O5
      have Hb_b7_n := Hb_b7_.exn hN
      have H_l_ := H_l_.exn hN
      have H_want_ := H_want_.exn hN
      have hW := hW.trans hN
      have O5 := O5.exn hN
      have Hb_b7_ := Hb_b7_n
      refine WP.cond rfl h16 (fun hb => ?_) (fun hb => ?_)
      · have hF := (if_pos hb).symm.trans hF
        obtain ⟨l, hl, hF⟩ := obind hF
        refine WP.region mixed [[], [], [1], [0, 1, 2], [0, 3]] [[], [], [1], [0, 2], [3]] [[5], [7], [], [], []] [3] [] [val 17 (v5_), val 18 (api_Fact.val y), (19, fun u wz => ∃ b, u = .slice (some ⟨b, 0, none⟩) 1 1 ∧ w9.heap.size ≤ b ∧ Mb wz b 80 (([y]).flatMap api_Fact.cells)), (20, fun u wz => Own w0.heap.size 80 14 api_Fact.cells wz u l ∧ ∀ b, u.ownBlock = some b → (v5_.ownBlock = some b ∨ w9.heap.size ≤ b)), (5, fun u wz => Own w0.heap.size 80 14 api_Fact.cells wz u l ∧ ∀ b, u.ownBlock = some b → (v5_.ownBlock = some b ∨ w9.heap.size ≤ b))] (fun b => Value.ownBlock v5_ = some b) (by kernel_rfl) ⟨sV, sV, fun _ _ _ hE ⟨b, hz, hs, hM⟩ => ⟨b, hz, hs, hM.ext hE (fun hg => absurd (O5.lt hg).2 (Nat.not_lt.2 hs))⟩, fun _ _ _ hE ⟨hO, hf⟩ => ⟨hO.exn hE, hf⟩, fun _ _ _ hE ⟨hO, hf⟩ => ⟨hO.exn hE, hf⟩, trivial⟩ ⟨mE rfl rfl h5,
 fun ρz wz hE hA ⟨e7, _⟩ _ => core_val rfl rfl (o_load (e7.trans h7) (run_loadN (cs := (api_Fact.cells y)) (lr_80 _ _) rfl ((Hb_b7_.exn (hA rfl)).ca))),
 fun ρz wz hE hA _ ⟨u1, _⟩ => core_slice rfl rfl hE (o_buildSlice (build_parts1 u1) (bs_44_1 _ _)),
 fun ρz wz hE hA _ ⟨u0, ⟨bz2, hz2, hge2, hM2⟩, _⟩ => core_append (n := 14) (cells := api_Fact.cells) (B := w0.heap.size) (w0 := w9) rfl rfl (fun b hb => hb) u0 hz2 (fun _ => rfl) one_80 si_44 se_80 (by decide) (by decide) (O5.exn (hA rfl)) ⟨_, (Mb.rep (n := 14) (cells := api_Fact.cells) (hn := fun _ => rfl) (G := noG) hM2 rfl (Nat.le_of_ble_eq_true rfl) (fun h => h))⟩ hl (Nat.le_trans hW.size hE.size) hE.size (fun v1 w1 h1 h2 => ⟨h1, h2⟩),
 fun ρz wz hE hA _ ⟨⟨hO3, hfr3⟩, _⟩ => core_copy rfl rfl (o_assign rfl) ⟨hO3, hfr3⟩, trivial⟩ ?_
        intro ρ10 w10 hE hN hf hr
        obtain ⟨v5_3, h5⟩ : ∃ v, ρ10 5 = v := ⟨_, rfl⟩
        have hq5 : (fun u wz => Own w0.heap.size 80 14 api_Fact.cells wz u l ∧ ∀ b, u.ownBlock = some b → (v5_.ownBlock = some b ∨ w9.heap.size ≤ b)) (ρ10 5) w10 := hf 4 rfl
        rw [h5] at hq5
        obtain ⟨hq5, hfr5⟩ := hq5
        obtain ⟨h1, h8, h9, h10⟩ := k4 hr h1 h8 h9 h10 rfl
        have Oo_O5 := O5
        have H_l_ := H_l_.over hE (fun b hb => (O5.lt hb).1)
        have H_want_ := H_want_.over hE (fun b hb => (O5.lt hb).1)
        have hW := Ext.own hW hE (fun b hb => (O5.lt hb).1)
        have O5 := hq5
        exact ⟨l, v5_3, h1, h5, h8, h9, h10, H_l_, H_want_, O5, hW, hF⟩
      have hF := (if_neg (Bool.eq_false_iff.1 hb)).symm.trans hF
      refine WP.skip ?_
      exact ⟨out_, v5_, h1, h5, h8, h9, h10, H_l_, H_want_, O5, hW, hF⟩
    rintro ρ6 w6 ⟨out_2, v5_2, h1, h5, h8, h9, h10, H_l_, H_want_, O5, hW, hF⟩
    rw [career_filter_j] at hF
    refine WP.rb mixed [[], [0]] [[10], []] [(21, .int .i64 (i64 (x + 1))), (10, .int .i64 (i64 (x + 1)))] (by kernel_rfl) ⟨fun ρz wz hE hA ⟨e10, _⟩ _ => core_val rfl rfl (o_add (e10.trans h10) rfl rfl),
 mU rfl rfl rfl, trivial⟩ ?_
    intro ρ7 w7 hN hf hr
    have h10 := hv hf 1 rfl rfl
    obtain ⟨h1, h5, h8, h9⟩ := k4 hr h1 h5 h8 h9 rfl
    have Oo_O5 := O5
    have H_l_ := H_l_.exn hN
    have H_want_ := H_want_.exn hN
    have hW := hW.trans hN
    have O5 := O5.exn hN
    exact ⟨out_2, i64 (x + 1), v5_2, h1, h5, h8, h9, h10, H_l_, H_want_, O5, hW, (by first | exact hF | (rw [hrec_]; exact hF))⟩
  have hF := (if_neg (Bool.eq_false_iff.1 hb)).symm.trans hF
  refine WP.exit (thenQ_exit (thenQ_exit (blockQ_hit (WP.seq (WP.rb mixed [[], [0]] [[5], []] [(22, v5_), (4, v5_)] (by kernel_rfl) ⟨mE rfl rfl h5,
 aU rfl rfl rfl, trivial⟩ ?_)))))
  intro ρ11 w11 hN hf hr
  have h4 := hv hf 1 rfl rfl
  have Oo_O5 := O5
  have hW := hW.trans hN
  have O4 := Oo_O5.exn hN
  refine WP.ret ?_
  show retQ Tryz.prog 23 Tryz.f101 (fun v w1 => Own w0.heap.size 80 14 api_Fact.cells w1 v r ∧ Ext noG w0 w1) .ret ρ11 w11
  obtain rfl := Option.some.inj hF
  exact res1 rfl (by decide) h4 ⟨O4, hW⟩

set_option maxHeartbeats 4000000 in
theorem career_Of_ok {w0 : World} (l_ : List api_Fact) (person_ : Int) {v_l_ : Value} (H_l_ : RepSl api_Fact.R noG w0 v_l_ l_) {r : (List api_Fact)} (hF : career_Of l_ person_ = some r) :
    Calls Tryz.prog 58 #[v_l_, .int .i64 person_] w0 fun e w1 => ∃ v, e = .returned v ∧ Ext noG w0 w1 ∧ Own w0.heap.size 80 14 api_Fact.cells w1 v r := by
  refine (Calls.start (P := Tryz.prog) (args := [v_l_, .int .i64 person_]) (R := fun v w1 => Own w0.heap.size 80 14 api_Fact.cells w1 v r ∧ Ext noG w0 w1) (n := 8) (w := w0) Tryz.func58 rfl rfl (Nat.le_of_ble_eq_true rfl) (fun ρ hargs => ?_)).mono (fun e w1 ⟨v, he, hv, hE⟩ => ⟨v, he, hE, hv⟩)
  have h0 := hargs 0 _ rfl
  have h1 := hargs 1 _ rfl
  have hW := Ext.refl noG w0
  obtain ⟨_, _, hs_H_l_, _, _⟩ := RepSl.shape H_l_
  have H_l_ := H_l_.start
  rw [career_Of] at hF
  refine WP.seq (WP.rg mixed [[], []] [[], []] [[1], []] [(3, fun u wz => ∃ b, u = .pointer (some ⟨b, 0, none⟩) ∧ w0.heap.size ≤ b ∧ Mb wz b 3 [Value.int .i64 person_]), val 4 (.slice none 0 0)] (by kernel_rfl) ⟨fun _ _ _ hE ⟨b, hb, hs, hM⟩ => ⟨b, hb, hs, hM.exn hE⟩, sV, trivial⟩ ⟨fun ρz wz hE hA ⟨e1, _⟩ _ => core_new rfl rfl hE (o_box (e1.trans h1) (bx_3 _ _)),
 aC rfl rfl (fun _ => rfl), trivial⟩ ?_)
  intro ρ1 w1 hN hf hr
  obtain ⟨b3_, h3, hge_b3_, Hb_b3_⟩ := hf 0 rfl
  have h0 := (hr 0 rfl).trans h0
  have H_l_ := H_l_.exn hN
  have hB_b3_ : w0.heap.size ≤ b3_ := Nat.le_trans hW.size hge_b3_
  have hW := hW.trans hN
  refine WP.seq ?_
  obtain ⟨z, hz, hF⟩ := obind hF
  refine WP.rg mixed [[], [], [0, 1], [2]] [[], [], [0, 1], [2]] [[0], [3], [], []] [val 5 (v_l_), val 6 (.func (.func 102) #[] #[.pointer (some ⟨b3_, 0, none⟩)]), (7, fun u wz => Own w0.heap.size 80 14 api_Fact.cells wz u z ∧ ∀ b, u.ownBlock = some b → w1.heap.size ≤ b), (4, fun u wz => Own w0.heap.size 80 14 api_Fact.cells wz u z ∧ ∀ b, u.ownBlock = some b → w1.heap.size ≤ b)] (by kernel_rfl) ⟨sV, sV, fun _ _ _ hE ⟨hO, hf⟩ => ⟨hO.exn hE, hf⟩, fun _ _ _ hE ⟨hO, hf⟩ => ⟨hO.exn hE, hf⟩, trivial⟩ ⟨mE rfl rfl h0,
 fun ρz wz hE hA ⟨e3, _⟩ _ => core_val rfl rfl (o_makeFunc (call_args1 (e3.trans h3))),
 fun ρz wz hE hA _ ⟨u0, u1, _⟩ => core_callR rfl (call_args2 u0 u1) cf_101 ((career_filter_ok  _ _ (H_l_.exn (hA rfl)).no (FnR.mk (V := fnV_150) (W := fnW_150) (G := noG) (cap := [.pointer (some ⟨b3_, 0, none⟩)]) cf_102 (fun w' hE' x r hr => career_Of_1_ok _ _ ((Hb_b3_.exn (hA rfl)).exn hE') hr)) hz).mono (fun e w1 ⟨v, he, hE1, hO⟩ => ⟨v, he, hE1, hO.base (Nat.le_trans hW.size hE.size), fun b hb => Nat.le_trans hE.size (hO.lt hb).1⟩)),
 fun ρz wz hE hA _ ⟨⟨hO2, hfr2⟩, _⟩ => core_copy rfl rfl (o_assign rfl) ⟨hO2, hfr2⟩, trivial⟩ ?_
  intro ρ2 w2 hN hf hr
  obtain ⟨v4_, h4⟩ : ∃ v, ρ2 4 = v := ⟨_, rfl⟩
  have hq4 : (fun u wz => Own w0.heap.size 80 14 api_Fact.cells wz u z ∧ ∀ b, u.ownBlock = some b → w1.heap.size ≤ b) (ρ2 4) w2 := hf 3 rfl
  rw [h4] at hq4
  obtain ⟨hq4, hfr4⟩ := hq4
  have hW := hW.trans hN
  have O4 := hq4
  refine WP.ret ?_
  show retQ Tryz.prog 8 Tryz.f58 (fun v w1 => Own w0.heap.size 80 14 api_Fact.cells w1 v r ∧ Ext noG w0 w1) .ret ρ2 w2
  obtain rfl := Option.some.inj hF
  exact res1 rfl (by decide) h4 ⟨O4, hW⟩

set_option maxHeartbeats 4000000 in
theorem decision_open_ok {w0 : World} (x_ : Laws) (l_ : List api_Fact) (claims_ : List Claim) (person_ : Int) {v_x_ : Value} (S_x_ : ∃ a n c, v_x_ = Value.slice a n c) {v_x_2 : Value} (S_x_2 : ∃ a n c, v_x_2 = Value.slice a n c) {v_x_3 : Value} (H_x_ : RepSl Rate.R noG w0 v_x_3 x_.Rates) {v_l_ : Value} (H_l_ : RepSl api_Fact.R noG w0 v_l_ l_) {v_claims_ : Value} (H_claims_ : RepSl Claim.R noG w0 v_claims_ claims_) {r : decision_file} (hF : decision_open x_ l_ claims_ person_ = some r) :
    Calls Tryz.prog 28 #[.agg #[v_x_, v_x_2, v_x_3], v_l_, v_claims_, .int .i64 person_] w0 fun e w1 => ∃ v, e = .returned v ∧ Ext noG w0 w1 ∧ ∃ b : Nat, ∃ qv0 : Value, ∃ qv1 : Value, ∃ qv2 : Value, ∃ qv3 : Value, ∃ qv4 : Value, ∃ qv5 : Value, v = .pointer (some ⟨b, 0, none⟩) ∧ w0.heap.size ≤ b ∧ Mb w1 b 102 [(qv0 : Value), qv1, qv2, qv3, qv4, qv5, .int .i64 r.person] ∧ (∃ a n c, qv0 = Value.slice a n c) ∧ (∃ a n c, qv1 = Value.slice a n c) ∧ (RepSl Rate.R noG w1 qv2 r.x.Rates) ∧ (RepSl api_Fact.R noG w1 qv3 r.facts) ∧ (RepSl api_Fact.R noG w1 qv4 r.own) ∧ (RepSl Claim.R noG w1 qv5 r.claims) := by
  refine (Calls.start (P := Tryz.prog) (args := [.agg #[v_x_, v_x_2, v_x_3], v_l_, v_claims_, .int .i64 person_]) (R := fun v w1 => (∃ b : Nat, ∃ qv0 : Value, ∃ qv1 : Value, ∃ qv2 : Value, ∃ qv3 : Value, ∃ qv4 : Value, ∃ qv5 : Value, v = .pointer (some ⟨b, 0, none⟩) ∧ w0.heap.size ≤ b ∧ Mb w1 b 102 [(qv0 : Value), qv1, qv2, qv3, qv4, qv5, .int .i64 r.person] ∧ (∃ a n c, qv0 = Value.slice a n c) ∧ (∃ a n c, qv1 = Value.slice a n c) ∧ (RepSl Rate.R noG w1 qv2 r.x.Rates) ∧ (RepSl api_Fact.R noG w1 qv3 r.facts) ∧ (RepSl api_Fact.R noG w1 qv4 r.own) ∧ (RepSl Claim.R noG w1 qv5 r.claims)) ∧ Ext noG w0 w1) (n := 22) (w := w0) Tryz.func28 rfl rfl (Nat.le_of_ble_eq_true rfl) (fun ρ hargs => ?_)).mono (fun e w1 ⟨v, he, hv, hE⟩ => ⟨v, he, hE, hv⟩)
  have h0 := hargs 0 _ rfl
  have h1 := hargs 1 _ rfl
  have h2 := hargs 2 _ rfl
  have h3 := hargs 3 _ rfl
  have hW := Ext.refl noG w0
  obtain ⟨_, _, hs_H_x_, _, _⟩ := RepSl.shape H_x_
  have H_x_ := H_x_.start
  obtain ⟨_, _, hs_H_l_, _, _⟩ := RepSl.shape H_l_
  have H_l_ := H_l_.start
  obtain ⟨_, _, hs_H_claims_, _, _⟩ := RepSl.shape H_claims_
  have H_claims_ := H_claims_.start
  rw [decision_open] at hF
  refine WP.seq (WP.rg mixed [[], []] [[], []] [[0], []] [(4, fun u wz => ∃ b, u = .pointer (some ⟨b, 0, none⟩) ∧ w0.heap.size ≤ b ∧ Mb wz b 43 [v_x_, v_x_2, v_x_3]), val 8 (.pointer none)] (by kernel_rfl) ⟨fun _ _ _ hE ⟨b, hb, hs, hM⟩ => ⟨b, hb, hs, hM.exn hE⟩, sV, trivial⟩ ⟨fun ρz wz hE hA ⟨e0, _⟩ _ => core_new rfl rfl hE (o_box (e0.trans h0) (bxx_43 _)),
 aC rfl rfl (fun _ => rfl), trivial⟩ ?_)
  intro ρ1 w1 hN hf hr
  obtain ⟨b4_, h4, hge_b4_, Hb_b4_⟩ := hf 0 rfl
  obtain ⟨h1, h2, h3⟩ := k3 hr h1 h2 h3 rfl
  have H_x_ := H_x_.exn hN
  have H_l_ := H_l_.exn hN
  have H_claims_ := H_claims_.exn hN
  have hB_b4_ : w0.heap.size ≤ b4_ := Nat.le_trans hW.size hge_b4_
  have hW := hW.trans hN
  refine WP.seq ?_
  obtain ⟨z, hz, hF⟩ := obind hF
  refine WP.rg mixed [[], [0], [1]] [[], [0], [1]] [[1], [], []] [val 10 (v_l_), (11, fun u wz => Own w0.heap.size 80 14 api_Fact.cells wz u z ∧ ∀ b, u.ownBlock = some b → w1.heap.size ≤ b), (9, fun u wz => Own w0.heap.size 80 14 api_Fact.cells wz u z ∧ ∀ b, u.ownBlock = some b → w1.heap.size ≤ b)] (by kernel_rfl) ⟨sV, fun _ _ _ hE ⟨hO, hf⟩ => ⟨hO.exn hE, hf⟩, fun _ _ _ hE ⟨hO, hf⟩ => ⟨hO.exn hE, hf⟩, trivial⟩ ⟨mE rfl rfl h1,
 fun ρz wz hE hA _ ⟨u0, _⟩ => core_callR rfl (call_args2 u0 rfl) cf_57 ((career_Merge_ok  _ _ (H_l_.exn (hA rfl)).no (RepSl.nil _ noG _).no hz).mono (fun e w1 ⟨v, he, hE1, hO⟩ => ⟨v, he, hE1, hO.base (Nat.le_trans hW.size hE.size), fun b hb => Nat.le_trans hE.size (hO.lt hb).1⟩)),
 fun ρz wz hE hA _ ⟨⟨hO1, hfr1⟩, _⟩ => core_copy rfl rfl (o_assign rfl) ⟨hO1, hfr1⟩, trivial⟩ ?_
  intro ρ2 w2 hN hf hr
  obtain ⟨v9_, h9⟩ : ∃ v, ρ2 9 = v := ⟨_, rfl⟩
  have hq9 : (fun u wz => Own w0.heap.size 80 14 api_Fact.cells wz u z ∧ ∀ b, u.ownBlock = some b → w1.heap.size ≤ b) (ρ2 9) w2 := hf 2 rfl
  rw [h9] at hq9
  obtain ⟨hq9, hfr9⟩ := hq9
  obtain ⟨h2, h3, h4⟩ := k3 hr h2 h3 h4 rfl
  have Hb_b4_n := Hb_b4_.exn hN
  have H_x_ := H_x_.exn hN
  have H_claims_ := H_claims_.exn hN
  have hW := hW.trans hN
  have Hf9 : RepSl api_Fact.R noG w2 v9_ z := hq9.rep (fun _ _ h => h)
  obtain ⟨_, _, hs_Hf9, _, _⟩ := RepSl.shape Hf9
  have Hb_b4_ := Hb_b4_n
  refine WP.seq ?_
  obtain ⟨z2, hz2, hF⟩ := obind hF
  obtain ⟨z3, hz3, hF⟩ := obind hF
  refine WP.rg mixed [[], [], [], [], [2, 3], [], [5], [], [0, 1, 4, 6, 7], [8], [9]] [[], [], [], [], [2, 3], [], [5], [], [0, 1, 4, 6, 7], [8], [9]] [[4], [9], [9], [3], [], [2], [], [3], [], [], []] [val 12 (.agg #[v_x_, v_x_2, v_x_3]), val 13 (v9_), val 14 (v9_), val 15 (.int .i64 person_), (16, fun u wz => Own w0.heap.size 80 14 api_Fact.cells wz u z2 ∧ ∀ b, u.ownBlock = some b → w2.heap.size ≤ b), val 17 (v_claims_), (18, fun u wz => Own w0.heap.size 28 6 Claim.cells wz u z3 ∧ ∀ b, u.ownBlock = some b → w2.heap.size ≤ b), val 19 (.int .i64 person_), (20, fun u wz => ∃ q8v0 : Value, ∃ q8v1 : Value, u = .agg #[v_x_, v_x_2, v_x_3, v9_, q8v0, q8v1, .int .i64 person_] ∧ (RepSl api_Fact.R noG wz q8v0 z2) ∧ (RepSl Claim.R noG wz q8v1 z3)), (21, fun u wz => ∃ b : Nat, ∃ q9v0 : Value, ∃ q9v1 : Value, u = .pointer (some ⟨b, 0, none⟩) ∧ w2.heap.size ≤ b ∧ Mb wz b 102 [(v_x_ : Value), v_x_2, v_x_3, v9_, q9v0, q9v1, .int .i64 person_] ∧ (RepSl api_Fact.R noG wz q9v0 z2) ∧ (RepSl Claim.R noG wz q9v1 z3)), (8, fun u wz => ∃ b : Nat, ∃ q10v0 : Value, ∃ q10v1 : Value, u = .pointer (some ⟨b, 0, none⟩) ∧ w2.heap.size ≤ b ∧ Mb wz b 102 [(v_x_ : Value), v_x_2, v_x_3, v9_, q10v0, q10v1, .int .i64 person_] ∧ (RepSl api_Fact.R noG wz q10v0 z2) ∧ (RepSl Claim.R noG wz q10v1 z3))] (by kernel_rfl) ⟨sV, sV, sV, sV, fun _ _ _ hE ⟨hO, hf⟩ => ⟨hO.exn hE, hf⟩, sV, fun _ _ _ hE ⟨hO, hf⟩ => ⟨hO.exn hE, hf⟩, sV, fun _ _ _ hE ⟨_, _, h1, k0, k1⟩ => ⟨_, _, h1, k0.exn hE, k1.exn hE⟩, fun _ _ _ hE ⟨b, _, _, h1, h2, h3, k0, k1⟩ => ⟨b, _, _, h1, h2, h3.exn hE, k0.exn hE, k1.exn hE⟩, fun _ _ _ hE ⟨b, _, _, h1, h2, h3, k0, k1⟩ => ⟨b, _, _, h1, h2, h3.exn hE, k0.exn hE, k1.exn hE⟩, trivial⟩ ⟨fun ρz wz hE hA ⟨e4, _⟩ _ => core_val rfl rfl (o_load (e4.trans h4) (run_loadN (cs := [v_x_, v_x_2, v_x_3]) (lr_43 _ _) rfl ((Hb_b4_.exn (hA rfl)).ca))),
 mE rfl rfl h9,
 mE rfl rfl h9,
 mE rfl rfl h3,
 fun ρz wz hE hA _ ⟨u2, u3, _⟩ => core_callR rfl (call_args2 u2 u3) cf_58 ((career_Of_ok  _ _ (Hf9.exn (hA rfl)).no hz2).mono (fun e w1 ⟨v, he, hE1, hO⟩ => ⟨v, he, hE1, hO.base (Nat.le_trans hW.size hE.size), fun b hb => Nat.le_trans hE.size (hO.lt hb).1⟩)),
 mE rfl rfl h2,
 fun ρz wz hE hA _ ⟨u5, _⟩ => core_callR rfl (call_args1 u5) cf_23 ((decision_sorted_ok  _ (H_claims_.exn (hA rfl)).no hz3).mono (fun e w1 ⟨v, he, hE1, hO⟩ => ⟨v, he, hE1, hO.base (Nat.le_trans hW.size hE.size), fun b hb => Nat.le_trans hE.size (hO.lt hb).1⟩)),
 mE rfl rfl h3,
 fun ρz wz hE hA _ ⟨u0, u1, ⟨hO4, hfr4⟩, ⟨hO6, hfr6⟩, u7, _⟩ => core_copy rfl rfl (o_build (bpS u0 (bpS u1 (bpS rfl (bpS rfl (bpS u7 bp0))))) (bdx_102_0_1_2_3_4 ⟨_, _, _, hs_Hf9⟩ (RepSl.shp (hO4.rep (hn := fun _ => rfl) (G := noG) (fun _ _ h => h))) (RepSl.shp (hO6.rep (hn := fun _ => rfl) (G := noG) (fun _ _ h => h))) _)) ⟨_, _, rfl, (hO4.rep (hn := fun _ => rfl) (G := noG) (fun _ _ h => h)).no, (hO6.rep (hn := fun _ => rfl) (G := noG) (fun _ _ h => h)).no⟩,
 fun ρz wz hE hA _ ⟨⟨q8v0, q8v1, hz8, q8h0, q8h1⟩, _⟩ => core_newR rfl rfl hE (o_box hz8 (bxx_102 _)) (fun w1 hN1 hs hM => ⟨_, _, _, rfl, hs, hM, q8h0.exn hN1, q8h1.exn hN1⟩),
 fun ρz wz hE hA _ ⟨⟨bz9, q9v0, q9v1, hz9, hge9, hM9, q9h0, q9h1⟩, _⟩ => core_copy rfl rfl (o_assign hz9) ⟨bz9, q9v0, q9v1, rfl, hge9, hM9, q9h0, q9h1⟩, trivial⟩ ?_
  intro ρ3 w3 hN hf hr
  obtain ⟨br8_, br8_v0, br8_v1, h8, hge_br8_, Hb_br8_, br8_h0, br8_h1⟩ := hf 10 rfl
  have H_x_ := H_x_.exn hN
  have Hf9 := Hf9.exn hN
  have hB_br8_ : w0.heap.size ≤ br8_ := Nat.le_trans hW.size hge_br8_
  have hW := hW.trans hN
  refine WP.ret ?_
  show retQ Tryz.prog 22 Tryz.f28 (fun v w1 => (∃ b : Nat, ∃ qv0 : Value, ∃ qv1 : Value, ∃ qv2 : Value, ∃ qv3 : Value, ∃ qv4 : Value, ∃ qv5 : Value, v = .pointer (some ⟨b, 0, none⟩) ∧ w0.heap.size ≤ b ∧ Mb w1 b 102 [(qv0 : Value), qv1, qv2, qv3, qv4, qv5, .int .i64 r.person] ∧ (∃ a n c, qv0 = Value.slice a n c) ∧ (∃ a n c, qv1 = Value.slice a n c) ∧ (RepSl Rate.R noG w1 qv2 r.x.Rates) ∧ (RepSl api_Fact.R noG w1 qv3 r.facts) ∧ (RepSl api_Fact.R noG w1 qv4 r.own) ∧ (RepSl Claim.R noG w1 qv5 r.claims)) ∧ Ext noG w0 w1) .ret ρ3 w3
  obtain rfl := Option.some.inj hF
  exact res1 rfl (by decide) h8 ⟨⟨_, _, _, _, _, _, _, rfl, hB_br8_, Hb_br8_, S_x_, S_x_2, H_x_.no, Hf9.no, br8_h0.no, br8_h1.no⟩, hW⟩

set_option maxHeartbeats 4000000 in
theorem decision_file_inEffect_ok {w0 : World} (f_ : decision_file) (benefit_ : Int) (month_ : Int) {bp0_ : Nat} {v_f_ : Value} {v_f_2 : Value} {v_f_3 : Value} {v_f_4 : Value} {v_f_5 : Value} {v_f_6 : Value} (Hb_bp0_ : Mb w0 bp0_ 102 [(v_f_ : Value), v_f_2, v_f_3, v_f_4, v_f_5, v_f_6, .int .i64 f_.person]) (S_f_ : ∃ a n c, v_f_ = Value.slice a n c) (S_f_2 : ∃ a n c, v_f_2 = Value.slice a n c) (H_f_ : RepSl Rate.R noG w0 v_f_3 f_.x.Rates) (H_f_2 : RepSl api_Fact.R noG w0 v_f_4 f_.facts) (H_f_3 : RepSl api_Fact.R noG w0 v_f_5 f_.own) (H_f_4 : RepSl Claim.R noG w0 v_f_6 f_.claims) {r : (List Claim)} (hF : decision_file_inEffect f_ benefit_ month_ = some r) :
    Calls Tryz.prog 59 #[.pointer (some ⟨bp0_, 0, none⟩), .int .i64 benefit_, .int .i64 month_] w0 fun e w1 => ∃ v, e = .returned v ∧ Ext noG w0 w1 ∧ Own w0.heap.size 28 6 Claim.cells w1 v r := by
  refine (Calls.start (P := Tryz.prog) (args := [.pointer (some ⟨bp0_, 0, none⟩), .int .i64 benefit_, .int .i64 month_]) (R := fun v w1 => Own w0.heap.size 28 6 Claim.cells w1 v r ∧ Ext noG w0 w1) (n := 35) (w := w0) Tryz.func59 rfl rfl (Nat.le_of_ble_eq_true rfl) (fun ρ hargs => ?_)).mono (fun e w1 ⟨v, he, hv, hE⟩ => ⟨v, he, hE, hv⟩)
  have h0 := hargs 0 _ rfl
  have h1 := hargs 1 _ rfl
  have h2 := hargs 2 _ rfl
  have hW := Ext.refl noG w0
  obtain ⟨_, _, hs_H_f_, _, _⟩ := RepSl.shape H_f_
  have H_f_ := H_f_.start
  obtain ⟨_, _, hs_H_f_2, _, _⟩ := RepSl.shape H_f_2
  have H_f_2 := H_f_2.start
  obtain ⟨_, _, hs_H_f_3, _, _⟩ := RepSl.shape H_f_3
  have H_f_3 := H_f_3.start
  obtain ⟨_, _, hs_H_f_4, _, _⟩ := RepSl.shape H_f_4
  have H_f_4 := H_f_4.start
  rw [decision_file_inEffect] at hF
  refine WP.seq (WP.rb mixed [[]] [[]] [(6, .slice none 0 0)] (by kernel_rfl) ⟨aC rfl rfl (fun _ => rfl), trivial⟩ ?_)
  intro ρ1 w1 hN hf hr
  obtain ⟨h0, h1, h2⟩ := k3 hr h0 h1 h2 rfl
  have Hb_bp0_n := Hb_bp0_.exn hN
  have H_f_ := H_f_.exn hN
  have H_f_2 := H_f_2.exn hN
  have H_f_3 := H_f_3.exn hN
  have H_f_4 := H_f_4.exn hN
  have hW := hW.trans hN
  have Hb_bp0_ := Hb_bp0_n
  refine WP.seq (WP.rb mixed [[]] [[]] [(7, .slice none 0 0)] (by kernel_rfl) ⟨aC rfl rfl (fun _ => rfl), trivial⟩ ?_)
  intro ρ2 w2 hN hf hr
  have h7 : ρ2 7 = .slice none 0 0 := hf 0 rfl
  have O7 : Own w0.heap.size 28 6 Claim.cells w2 (.slice none 0 0) [] := Own.nil _ _ _ _ _
  obtain ⟨h0, h1, h2⟩ := k3 hr h0 h1 h2 rfl
  have Hb_bp0_n := Hb_bp0_.exn hN
  have H_f_ := H_f_.exn hN
  have H_f_2 := H_f_2.exn hN
  have H_f_3 := H_f_3.exn hN
  have H_f_4 := H_f_4.exn hN
  have hnb_O7_bp0_ : Value.ownBlock (.slice none 0 0) ≠ some bp0_ := by simp [Value.ownBlock]
  have hW := hW.trans hN
  have Hb_bp0_ := Hb_bp0_n
  refine WP.seq (WP.seq ?_)
  obtain ⟨z, hz, hF⟩ := obind hF
  refine WP.rg mixed [[], [0], [1], [2], [], [4], [5], [6], [], [3, 7, 8], [9], []] [[], [0], [1], [2], [], [4], [5], [6], [], [3, 7, 8], [9], []] [[0], [], [], [], [0], [], [], [], [2], [], [], []] [val 10 (.pointer (some ⟨bp0_, 0, none⟩)), val 11 (.pointer (some ⟨bp0_, 0, none⟩)), val 12 (.pointer (some ((⟨bp0_, 0, none⟩ : Addr).add 5))), val 13 (v_f_6), val 14 (.pointer (some ⟨bp0_, 0, none⟩)), val 15 (.pointer (some ⟨bp0_, 0, none⟩)), val 16 (.pointer (some ((⟨bp0_, 0, none⟩ : Addr).add 6))), val 17 (.int .i64 f_.person), val 18 (.int .i64 month_), (19, fun u wz => Own w0.heap.size 28 6 Claim.cells wz u z ∧ ∀ b, u.ownBlock = some b → w2.heap.size ≤ b), val 20 (.int .i64 (z.length : Int)), val 21 (.int .i64 0)] (by kernel_rfl) ⟨sV, sV, sV, sV, sV, sV, sV, sV, sV, fun _ _ _ hE ⟨hO, hf⟩ => ⟨hO.exn hE, hf⟩, sV, sV, trivial⟩ ⟨mE rfl rfl h0,
 fun ρz wz hE hA _ ⟨u0, _⟩ => core_val rfl rfl (o_nilCheck u0),
 fun ρz wz hE hA _ ⟨u1, _⟩ => core_val rfl rfl (o_fieldAddr u1 (fa_102_3 _ _)),
 fun ρz wz hE hA _ ⟨u2, _⟩ => core_val rfl rfl (o_load u2 (run_load1 (lr_23 _ _) (CA.sub ((Hb_bp0_.exn (hA rfl)).ca) 5 1))),
 mE rfl rfl h0,
 fun ρz wz hE hA _ ⟨u4, _⟩ => core_val rfl rfl (o_nilCheck u4),
 fun ρz wz hE hA _ ⟨u5, _⟩ => core_val rfl rfl (o_fieldAddr u5 (fa_102_4 _ _)),
 fun ρz wz hE hA _ ⟨u6, _⟩ => core_val rfl rfl (o_load u6 (run_load1 (lr_3 _ _) (CA.sub ((Hb_bp0_.exn (hA rfl)).ca) 6 1))),
 mE rfl rfl h2,
 fun ρz wz hE hA _ ⟨u3, u7, u8, _⟩ => core_callR rfl (call_args3 u3 u7 u8) cf_22 ((decision_effective_ok  _ _ _ (H_f_4.exn (hA rfl)).no hz).mono (fun e w1 ⟨v, he, hE1, hO⟩ => ⟨v, he, hE1, hO.base (Nat.le_trans hW.size hE.size), fun b hb => Nat.le_trans hE.size (hO.lt hb).1⟩)),
 fun ρz wz hE hA _ ⟨⟨hO9, hfr9⟩, _⟩ => core_val rfl rfl (o_len ((Own.shape hO9).choose_spec.choose_spec.1) len_23),
 mC rfl rfl (fun _ => rfl), trivial⟩ ?_
  intro ρ3 w3 hN hf hr
  obtain ⟨v19_, h19⟩ : ∃ v, ρ3 19 = v := ⟨_, rfl⟩
  have hq19 : (fun u wz => Own w0.heap.size 28 6 Claim.cells wz u z ∧ ∀ b, u.ownBlock = some b → w2.heap.size ≤ b) (ρ3 19) w3 := hf 9 rfl
  rw [h19] at hq19
  obtain ⟨hq19, hfr19⟩ := hq19
  have h20 : ρ3 20 = .int .i64 (z.length : Int) := hf 10 rfl
  have h21 : ρ3 21 = .int .i64 0 := hf 11 rfl
  obtain ⟨h1, h7⟩ := k2 hr h1 h7 rfl
  have Oo_O7 := O7
  have hW := hW.trans hN
  have O7 := O7.exn hN
  have Hf19 : RepSl Claim.R (gov noG (.slice none 0 0)) w3 v19_ z := hq19.rep (fun b hb hg => hg.elim id (fun h2 => absurd (Oo_O7.lt h2).2 (by have := hfr19 b hb; have := hN.size; omega)))
  obtain ⟨_, _, hs_Hf19, _, _⟩ := RepSl.shape Hf19
  refine WP.block (WP.loop (fun k_ ρ w => ∃ out_ : List Claim, ∃ x : Int, ∃ v7_ : Value, ρ 1 = .int .i64 benefit_ ∧ ρ 7 = v7_ ∧ ρ 19 = v19_ ∧ ρ 20 = .int .i64 (z.length : Int) ∧ ρ 21 = .int .i64 x ∧ RepSl Claim.R (gov noG v7_) w v19_ z ∧ Own w0.heap.size 28 6 Claim.cells w v7_ out_ ∧ Ext noG w0 w ∧ loopC k_ (decision_file_inEffect_l benefit_ z) (out_, x) = some r) FU ⟨[], 0, .slice none 0 0, h1, h7, h19, h20, h21, Hf19, O7, hW, hF⟩ (fun _ _ h => by obtain ⟨_, _, _, _, _, _, _, _, _, _, _, h⟩ := h; cases h) ?_)
  rintro k_ ρ4 w4 ⟨out_, x, v7_, h1, h7, h19, h20, h21, Hf19, O7, hW, hF⟩
  have hF : decision_file_inEffect_l benefit_ z (loopC k_ (decision_file_inEffect_l benefit_ z)) (out_, x) = some r := hF
  generalize hrec_ : loopC k_ (decision_file_inEffect_l benefit_ z) = rec_ at hF
  rw [decision_file_inEffect_l] at hF
  refine WP.seq (WP.rb mixed [[]] [[21, 20]] [(22, .bool (decide (x < (z.length : Int))))] (by kernel_rfl) ⟨fun ρz wz hE hA ⟨e21, e20, _⟩ _ => core_val rfl rfl (o_lss (e21.trans h21) (e20.trans h20) rfl), trivial⟩ ?_)
  intro ρ5 w5 hN hf hr
  have h22 := hv hf 0 rfl rfl
  obtain ⟨h1, h7, h19, h20, h21⟩ := k5 hr h1 h7 h19 h20 h21 rfl
  have Oo_O7 := O7
  have Hf19 := Hf19.exn hN
  have hW := hW.trans hN
  have O7 := O7.exn hN
  refine WP.seq (WP.cond rfl h22 (fun hb => ?_) (fun hb => ?_))
  · have hF := (if_pos hb).symm.trans hF
    refine WP.skip (WP.seqJ (fun ρ w => ∃ out_2 : List Claim, ∃ v7_2 : Value, ρ 1 = .int .i64 benefit_ ∧ ρ 7 = v7_2 ∧ ρ 19 = v19_ ∧ ρ 20 = .int .i64 (z.length : Int) ∧ ρ 21 = .int .i64 x ∧ RepSl Claim.R (gov noG v7_2) w v19_ z ∧ Own w0.heap.size 28 6 Claim.cells w v7_2 out_2 ∧ Ext noG w0 w ∧ decision_file_inEffect_j x rec_ out_2 = some r) ?_ ?_)
    · refine WP.block (WP.seq ?_)
      obtain ⟨y, hy, hF⟩ := obind hF
      obtain ⟨ay, cy, hvy, hiy, hAy⟩ := RepSl.getF Hf19 hy
      refine WP.region mixed [[], [0], [], [1, 2]] [[], [0], [], [1, 2]] [[19, 21], [], [], []] [3] [(2, 3)] [val 23 (.pointer (some (ay.add (Int.toNat x * 6)))), val 24 (Claim.val y), (9, fun u wz => ∃ b, u = .pointer (some ⟨b, 0, none⟩) ∧ w5.heap.size ≤ b ∧ Mb wz b 28 (Claim.cells (⟨0, 0, 0, 0, 0, 0⟩ : Claim))), (9, fun u wz => ∃ b, u = .pointer (some ⟨b, 0, none⟩) ∧ w5.heap.size ≤ b ∧ Mb wz b 28 (Claim.cells y))] (fun b => w5.heap.size ≤ b) (by kernel_rfl) ⟨sV, sV, fun _ _ _ hE ⟨b, hb, hs, hM⟩ => ⟨b, hb, hs, hM.exn hE⟩, fun _ _ _ hE ⟨b, hb, hs, hM⟩ => ⟨b, hb, hs, hM.exn hE⟩, trivial⟩ ⟨fun ρz wz hE hA ⟨e19, e21, _⟩ _ => core_val rfl rfl (o_indexAddr ((e19.trans h19).trans hvy) (e21.trans h21) (ia_23 hiy)),
 fun ρz wz hE hA _ ⟨u0, _⟩ => core_val rfl rfl (o_load u0 (run_loadN (cs := (Claim.cells y)) (lr_28 _ _) rfl ((hAy.exn hE.fresh).ca))),
 fun ρz wz hE hA _ _ => core_new rfl rfl hE (o_alloc (al_28 _)),
 fun ρz wz hE hA _ ⟨u1, u2, _⟩ => core_storeNew rfl rfl rfl rfl u1 u2 (fun a w => st_28 _ a w) rfl (one_28 _), trivial⟩ ?_
      intro ρ8 w8 hE hN hf hr
      have hN := hE.fresh
      obtain ⟨b9_, h9, hge_b9_, Hb_b9_⟩ := hf 3 rfl
      obtain ⟨h1, h7, h19, h20, h21⟩ := k5 hr h1 h7 h19 h20 h21 rfl
      have Oo_O7 := O7
      have Hf19 := Hf19.exn hN
      have hnb_O7_b9_ : Value.ownBlock v7_ ≠ some b9_ := fun h => absurd (O7.lt h).2 (Nat.not_lt.2 hge_b9_)
      have hB_b9_ : w0.heap.size ≤ b9_ := Nat.le_trans hW.size hge_b9_
      have hW := hW.trans hN
      have O7 := O7.exn hN
      refine WP.seq (WP.rb mixed [[], [0], [], [1, 2]] [[9], [], [1], []] [(25, .pointer (some ((⟨b9_, 0, none⟩ : Addr).add 3))), (26, .int .i64 y.Benefit), (27, .int .i64 benefit_), (28, .bool (y.Benefit == benefit_))] (by kernel_rfl) ⟨fun ρz wz hE hA ⟨e9, _⟩ _ => core_val rfl rfl (o_fieldAddr (e9.trans h9) (fa_28_3 _ _)),
 fun ρz wz hE hA _ ⟨u0, _⟩ => core_val rfl rfl (o_load u0 (run_load1 (lr_3 _ _) (CA.sub ((Hb_b9_.exn (hA rfl)).ca) 3 1))),
 mE rfl rfl h1,
 fun ρz wz hE hA _ ⟨u1, u2, _⟩ => core_val rfl rfl (o_eql u1 u2 rfl), trivial⟩ ?_)
      intro ρ9 w9 hN hf hr
      have h28 := hv hf 3 rfl rfl
      obtain ⟨h1, h7, h19, h20, h21, h9⟩ := k6 hr h1 h7 h19 h20 h21 h9 rfl
      have Oo_O7 := O7
      have Hb_b9_n := Hb_b9_.exn hN
      have Hf19 := Hf19.exn hN
      have hW := hW.trans hN
      have O7 := O7.exn hN
      have Hb_b9_ := Hb_b9_n
      refine WP.cond rfl h28 (fun hb => ?_) (fun hb => ?_)
      · have hF := (if_pos hb).symm.trans hF
        obtain ⟨l, hl, hF⟩ := obind hF
        refine WP.region mixed [[], [], [1], [0, 1, 2], [0, 3]] [[], [], [1], [0, 2], [3]] [[7], [9], [], [], []] [3] [] [val 29 (v7_), val 30 (Claim.val y), (31, fun u wz => ∃ b, u = .slice (some ⟨b, 0, none⟩) 1 1 ∧ w9.heap.size ≤ b ∧ Mb wz b 28 (([y]).flatMap Claim.cells)), (32, fun u wz => Own w0.heap.size 28 6 Claim.cells wz u l ∧ ∀ b, u.ownBlock = some b → (v7_.ownBlock = some b ∨ w9.heap.size ≤ b)), (7, fun u wz => Own w0.heap.size 28 6 Claim.cells wz u l ∧ ∀ b, u.ownBlock = some b → (v7_.ownBlock = some b ∨ w9.heap.size ≤ b))] (fun b => Value.ownBlock v7_ = some b) (by kernel_rfl) ⟨sV, sV, fun _ _ _ hE ⟨b, hz, hs, hM⟩ => ⟨b, hz, hs, hM.ext hE (fun hg => absurd (O7.lt hg).2 (Nat.not_lt.2 hs))⟩, fun _ _ _ hE ⟨hO, hf⟩ => ⟨hO.exn hE, hf⟩, fun _ _ _ hE ⟨hO, hf⟩ => ⟨hO.exn hE, hf⟩, trivial⟩ ⟨mE rfl rfl h7,
 fun ρz wz hE hA ⟨e9, _⟩ _ => core_val rfl rfl (o_load (e9.trans h9) (run_loadN (cs := (Claim.cells y)) (lr_28 _ _) rfl ((Hb_b9_.exn (hA rfl)).ca))),
 fun ρz wz hE hA _ ⟨u1, _⟩ => core_slice rfl rfl hE (o_buildSlice (build_parts1 u1) (bs_23_1 _ _)),
 fun ρz wz hE hA _ ⟨u0, ⟨bz2, hz2, hge2, hM2⟩, _⟩ => core_append (n := 6) (cells := Claim.cells) (B := w0.heap.size) (w0 := w9) rfl rfl (fun b hb => hb) u0 hz2 (fun _ => rfl) one_28 si_23 se_28 (by decide) (by decide) (O7.exn (hA rfl)) ⟨_, (Mb.rep (n := 6) (cells := Claim.cells) (hn := fun _ => rfl) (G := noG) hM2 rfl (Nat.le_of_ble_eq_true rfl) (fun h => h))⟩ hl (Nat.le_trans hW.size hE.size) hE.size (fun v1 w1 h1 h2 => ⟨h1, h2⟩),
 fun ρz wz hE hA _ ⟨⟨hO3, hfr3⟩, _⟩ => core_copy rfl rfl (o_assign rfl) ⟨hO3, hfr3⟩, trivial⟩ ?_
        intro ρ10 w10 hE hN hf hr
        obtain ⟨v7_3, h7⟩ : ∃ v, ρ10 7 = v := ⟨_, rfl⟩
        have hq7 : (fun u wz => Own w0.heap.size 28 6 Claim.cells wz u l ∧ ∀ b, u.ownBlock = some b → (v7_.ownBlock = some b ∨ w9.heap.size ≤ b)) (ρ10 7) w10 := hf 4 rfl
        rw [h7] at hq7
        obtain ⟨hq7, hfr7⟩ := hq7
        obtain ⟨h1, h19, h20, h21⟩ := k4 hr h1 h19 h20 h21 rfl
        have Oo_O7 := O7
        have Hf19 := Hf19.move hE hfr7
        have hW := Ext.own hW hE (fun b hb => (O7.lt hb).1)
        have O7 := hq7
        exact ⟨l, v7_3, h1, h7, h19, h20, h21, Hf19, O7, hW, hF⟩
      have hF := (if_neg (Bool.eq_false_iff.1 hb)).symm.trans hF
      refine WP.skip ?_
      exact ⟨out_, v7_, h1, h7, h19, h20, h21, Hf19, O7, hW, hF⟩
    rintro ρ6 w6 ⟨out_2, v7_2, h1, h7, h19, h20, h21, Hf19, O7, hW, hF⟩
    rw [decision_file_inEffect_j] at hF
    refine WP.rb mixed [[], [0]] [[21], []] [(33, .int .i64 (i64 (x + 1))), (21, .int .i64 (i64 (x + 1)))] (by kernel_rfl) ⟨fun ρz wz hE hA ⟨e21, _⟩ _ => core_val rfl rfl (o_add (e21.trans h21) rfl rfl),
 mU rfl rfl rfl, trivial⟩ ?_
    intro ρ7 w7 hN hf hr
    have h21 := hv hf 1 rfl rfl
    obtain ⟨h1, h7, h19, h20⟩ := k4 hr h1 h7 h19 h20 rfl
    have Oo_O7 := O7
    have Hf19 := Hf19.exn hN
    have hW := hW.trans hN
    have O7 := O7.exn hN
    exact ⟨out_2, i64 (x + 1), v7_2, h1, h7, h19, h20, h21, Hf19, O7, hW, (by first | exact hF | (rw [hrec_]; exact hF))⟩
  have hF := (if_neg (Bool.eq_false_iff.1 hb)).symm.trans hF
  refine WP.exit (thenQ_exit (thenQ_exit (blockQ_hit (WP.seq (WP.rb mixed [[], [0]] [[7], []] [(34, v7_), (6, v7_)] (by kernel_rfl) ⟨mE rfl rfl h7,
 aU rfl rfl rfl, trivial⟩ ?_)))))
  intro ρ11 w11 hN hf hr
  have h6 := hv hf 1 rfl rfl
  have Oo_O7 := O7
  have hW := hW.trans hN
  have O6 := Oo_O7.exn hN
  refine WP.ret ?_
  show retQ Tryz.prog 35 Tryz.f59 (fun v w1 => Own w0.heap.size 28 6 Claim.cells w1 v r ∧ Ext noG w0 w1) .ret ρ11 w11
  obtain rfl := Option.some.inj hF
  exact res1 rfl (by decide) h6 ⟨O6, hW⟩

set_option maxHeartbeats 4000000 in
theorem career_first_ok {w0 : World} (l_ : List api_Fact) (kind_ : Int) {v_l_ : Value} (H_l_ : RepSl api_Fact.R noG w0 v_l_ l_) {r : Int × Bool} (hF : career_first l_ kind_ = some r) :
    Calls Tryz.prog 152 #[v_l_, .int .i64 kind_] w0 fun e w1 => e = .returned (.tuple #[.int .i64 r.1, .bool r.2]) ∧ Ext noG w0 w1 := by
  refine (Calls.start (P := Tryz.prog) (args := [v_l_, .int .i64 kind_]) (R := fun v w1 => v = .tuple #[.int .i64 r.1, .bool r.2] ∧ Ext noG w0 w1) (n := 41) (w := w0) Tryz.func152 rfl rfl (Nat.le_of_ble_eq_true rfl) (fun ρ hargs => ?_)).mono (fun e w1 ⟨v, he, hv, hE⟩ => ⟨hv ▸ he, hE⟩)
  have h0 := hargs 0 _ rfl
  have h1 := hargs 1 _ rfl
  have hW := Ext.refl noG w0
  obtain ⟨_, _, hs_H_l_, _, _⟩ := RepSl.shape H_l_
  have H_l_ := H_l_.start
  rw [career_first] at hF
  refine WP.seq (WP.rb mixed [[], []] [[], []] [(4, .int .i64 0), (5, .bool false)] (by kernel_rfl) ⟨aC rfl rfl (fun _ => rfl),
 aC rfl rfl (fun _ => rfl), trivial⟩ ?_)
  intro ρ1 w1 hN hf hr
  obtain ⟨h0, h1⟩ := k2 hr h0 h1 rfl
  have H_l_ := H_l_.exn hN
  have hW := hW.trans hN
  refine WP.seq (WP.rb mixed [[], []] [[], []] [(6, .int .i64 0), (7, .bool false)] (by kernel_rfl) ⟨aC rfl rfl (fun _ => rfl),
 aC rfl rfl (fun _ => rfl), trivial⟩ ?_)
  intro ρ2 w2 hN hf hr
  have h6 := hv hf 0 rfl rfl
  have h7 := hv hf 1 rfl rfl
  obtain ⟨h0, h1⟩ := k2 hr h0 h1 rfl
  have H_l_ := H_l_.exn hN
  have hW := hW.trans hN
  refine WP.seq (WP.seq (WP.rb mixed [[], [0], []] [[0], [], []] [(10, v_l_), (11, .int .i64 (l_.length : Int)), (12, .int .i64 0)] (by kernel_rfl) ⟨mE rfl rfl h0,
 fun ρz wz hE hA _ ⟨u0, _⟩ => core_val rfl rfl (o_len (u0.trans hs_H_l_) len_44),
 mC rfl rfl (fun _ => rfl), trivial⟩ ?_))
  intro ρ3 w3 hN hf hr
  have h10 := hv hf 0 rfl rfl
  have h11 := hv hf 1 rfl rfl
  have h12 := hv hf 2 rfl rfl
  obtain ⟨h1, h6, h7⟩ := k3 hr h1 h6 h7 rfl
  have H_l_ := H_l_.exn hN
  have hW := hW.trans hN
  refine WP.block (WP.loop (fun k_ ρ w => ∃ day_ : Int, ∃ ok_ : Bool, ∃ x : Int, ρ 1 = .int .i64 kind_ ∧ ρ 6 = .int .i64 day_ ∧ ρ 7 = .bool ok_ ∧ ρ 10 = v_l_ ∧ ρ 11 = .int .i64 (l_.length : Int) ∧ ρ 12 = .int .i64 x ∧ RepSl api_Fact.R (gfr noG w0) w v_l_ l_ ∧ Ext noG w0 w ∧ loopC k_ (career_first_l l_) (day_, ok_, x) = some r) FU ⟨0, false, 0, h1, h6, h7, h10, h11, h12, H_l_, hW, hF⟩ (fun _ _ h => by obtain ⟨_, _, _, _, _, _, _, _, _, _, _, h⟩ := h; cases h) ?_)
  rintro k_ ρ4 w4 ⟨day_, ok_, x, h1, h6, h7, h10, h11, h12, H_l_, hW, hF⟩
  have hF : career_first_l l_ (loopC k_ (career_first_l l_)) (day_, ok_, x) = some r := hF
  generalize hrec_ : loopC k_ (career_first_l l_) = rec_ at hF
  rw [career_first_l] at hF
  refine WP.seq (WP.rb mixed [[]] [[12, 11]] [(13, .bool (decide (x < (l_.length : Int))))] (by kernel_rfl) ⟨fun ρz wz hE hA ⟨e12, e11, _⟩ _ => core_val rfl rfl (o_lss (e12.trans h12) (e11.trans h11) rfl), trivial⟩ ?_)
  intro ρ5 w5 hN hf hr
  have h13 := hv hf 0 rfl rfl
  obtain ⟨h1, h6, h7, h10, h11, h12⟩ := k6 hr h1 h6 h7 h10 h11 h12 rfl
  have H_l_ := H_l_.exn hN
  have hW := hW.trans hN
  refine WP.seq (WP.cond rfl h13 (fun hb => ?_) (fun hb => ?_))
  · have hF := (if_pos hb).symm.trans hF
    refine WP.skip (WP.seqJ (fun ρ w => ∃ day_2 : Int, ∃ ok_2 : Bool, ρ 1 = .int .i64 kind_ ∧ ρ 6 = .int .i64 day_2 ∧ ρ 7 = .bool ok_2 ∧ ρ 10 = v_l_ ∧ ρ 11 = .int .i64 (l_.length : Int) ∧ ρ 12 = .int .i64 x ∧ RepSl api_Fact.R (gfr noG w0) w v_l_ l_ ∧ Ext noG w0 w ∧ career_first_j x rec_ day_2 ok_2 = some r) ?_ ?_)
    · refine WP.block (WP.seq ?_)
      obtain ⟨y, hy, hF⟩ := obind hF
      obtain ⟨ay, cy, hvy, hiy, hAy⟩ := RepSl.getF H_l_ hy
      refine WP.region mixed [[], [0], [], [1, 2]] [[], [0], [], [1, 2]] [[10, 12], [], [], []] [3] [(2, 3)] [val 14 (.pointer (some (ay.add (Int.toNat x * 14)))), val 15 (api_Fact.val y), (9, fun u wz => ∃ b, u = .pointer (some ⟨b, 0, none⟩) ∧ w5.heap.size ≤ b ∧ Mb wz b 80 (api_Fact.cells (⟨0, 0, 0, false, 0, 0, 0, (⟨0, 0⟩ : Span), 0, 0, 0, 0, 0⟩ : api_Fact))), (9, fun u wz => ∃ b, u = .pointer (some ⟨b, 0, none⟩) ∧ w5.heap.size ≤ b ∧ Mb wz b 80 (api_Fact.cells y))] (fun b => w5.heap.size ≤ b) (by kernel_rfl) ⟨sV, sV, fun _ _ _ hE ⟨b, hb, hs, hM⟩ => ⟨b, hb, hs, hM.exn hE⟩, fun _ _ _ hE ⟨b, hb, hs, hM⟩ => ⟨b, hb, hs, hM.exn hE⟩, trivial⟩ ⟨fun ρz wz hE hA ⟨e10, e12, _⟩ _ => core_val rfl rfl (o_indexAddr ((e10.trans h10).trans hvy) (e12.trans h12) (ia_44 hiy)),
 fun ρz wz hE hA _ ⟨u0, _⟩ => core_val rfl rfl (o_load u0 (run_loadN (cs := (api_Fact.cells y)) (lr_80 _ _) rfl ((hAy.exn hE.fresh).ca))),
 fun ρz wz hE hA _ _ => core_new rfl rfl hE (o_alloc (al_80 _)),
 fun ρz wz hE hA _ ⟨u1, u2, _⟩ => core_storeNew rfl rfl rfl rfl u1 u2 (fun a w => st_80 _ a w) rfl (one_80 _), trivial⟩ ?_
      intro ρ8 w8 hE hN hf hr
      have hN := hE.fresh
      obtain ⟨b9_, h9, hge_b9_, Hb_b9_⟩ := hf 3 rfl
      obtain ⟨h1, h6, h7, h10, h11, h12⟩ := k6 hr h1 h6 h7 h10 h11 h12 rfl
      have H_l_ := H_l_.exn hN
      have hB_b9_ : w0.heap.size ≤ b9_ := Nat.le_trans hW.size hge_b9_
      have hW := hW.trans hN
      refine WP.seq ?_
      cases hF
    rintro ρ6 w6 ⟨day_2, ok_2, h1, h6, h7, h10, h11, h12, H_l_, hW, hF⟩
    rw [career_first_j] at hF
    refine WP.rb mixed [[], [0]] [[12], []] [(38, .int .i64 (i64 (x + 1))), (12, .int .i64 (i64 (x + 1)))] (by kernel_rfl) ⟨fun ρz wz hE hA ⟨e12, _⟩ _ => core_val rfl rfl (o_add (e12.trans h12) rfl rfl),
 mU rfl rfl rfl, trivial⟩ ?_
    intro ρ7 w7 hN hf hr
    have h12 := hv hf 1 rfl rfl
    obtain ⟨h1, h6, h7, h10, h11⟩ := k5 hr h1 h6 h7 h10 h11 rfl
    have H_l_ := H_l_.exn hN
    have hW := hW.trans hN
    exact ⟨day_2, ok_2, i64 (x + 1), h1, h6, h7, h10, h11, h12, H_l_, hW, (by first | exact hF | (rw [hrec_]; exact hF))⟩
  have hF := (if_neg (Bool.eq_false_iff.1 hb)).symm.trans hF
  refine WP.exit (thenQ_exit (thenQ_exit (blockQ_hit (WP.seq (WP.rb mixed [[], [], [0], [1]] [[6], [7], [], []] [(39, .int .i64 day_), (40, .bool ok_), (4, .int .i64 day_), (5, .bool ok_)] (by kernel_rfl) ⟨mE rfl rfl h6,
 mE rfl rfl h7,
 aU rfl rfl rfl,
 aU rfl rfl rfl, trivial⟩ ?_)))))
  intro ρ9 w9 hN hf hr
  have h4 := hv hf 2 rfl rfl
  have h5 := hv hf 3 rfl rfl
  have hW := hW.trans hN
  refine WP.ret ?_
  show retQ Tryz.prog 41 Tryz.f152 (fun v w1 => v = .tuple #[.int .i64 r.1, .bool r.2] ∧ Ext noG w0 w1) .ret ρ9 w9
  obtain rfl := Option.some.inj hF
  exact res2 rfl (by decide) (by decide) h4 h5 ⟨rfl, hW⟩

set_option maxHeartbeats 4000000 in
theorem career_Death_ok {w0 : World} (l_ : List api_Fact) {v_l_ : Value} (H_l_ : RepSl api_Fact.R noG w0 v_l_ l_) {r : Int × Bool} (hF : career_Death l_ = some r) :
    Calls Tryz.prog 103 #[v_l_] w0 fun e w1 => e = .returned (.tuple #[.int .i64 r.1, .bool r.2]) ∧ Ext noG w0 w1 := by
  refine (Calls.start (P := Tryz.prog) (args := [v_l_]) (R := fun v w1 => v = .tuple #[.int .i64 r.1, .bool r.2] ∧ Ext noG w0 w1) (n := 8) (w := w0) Tryz.func103 rfl rfl (Nat.le_of_ble_eq_true rfl) (fun ρ hargs => ?_)).mono (fun e w1 ⟨v, he, hv, hE⟩ => ⟨hv ▸ he, hE⟩)
  have h0 := hargs 0 _ rfl
  have hW := Ext.refl noG w0
  obtain ⟨_, _, hs_H_l_, _, _⟩ := RepSl.shape H_l_
  have H_l_ := H_l_.start
  rw [career_Death] at hF
  refine WP.seq (WP.rb mixed [[], []] [[], []] [(2, .int .i64 0), (3, .bool false)] (by kernel_rfl) ⟨aC rfl rfl (fun _ => rfl),
 aC rfl rfl (fun _ => rfl), trivial⟩ ?_)
  intro ρ1 w1 hN hf hr
  have h0 := (hr 0 rfl).trans h0
  have H_l_ := H_l_.exn hN
  have hW := hW.trans hN
  refine WP.seq ?_
  obtain ⟨z, hz, hF⟩ := obind hF
  refine WP.rb mixed [[], [0], [1], [1], [2], [3]] [[0], [], [], [], [], []] [(4, v_l_), (5, .tuple #[.int .i64 z.1, .bool z.2]), (6, .int .i64 z.1), (7, .bool z.2), (2, .int .i64 z.1), (3, .bool z.2)] (by kernel_rfl) ⟨mE rfl rfl h0,
 fun ρz wz hE hA _ ⟨u0, _⟩ => core_call rfl (call_args2 u0 rfl) cf_152 (career_first_ok  _ _ (H_l_.exn (hA rfl)).no hz),
 fun ρz wz hE hA _ ⟨u1, _⟩ => core_val rfl rfl (o_extract u1 (by kernel_rfl)),
 fun ρz wz hE hA _ ⟨u1, _⟩ => core_val rfl rfl (o_extract u1 (by kernel_rfl)),
 aU rfl rfl rfl,
 aU rfl rfl rfl, trivial⟩ ?_
  intro ρ2 w2 hN hf hr
  have h2 := hv hf 4 rfl rfl
  have h3 := hv hf 5 rfl rfl
  have hW := hW.trans hN
  refine WP.ret ?_
  show retQ Tryz.prog 8 Tryz.f103 (fun v w1 => v = .tuple #[.int .i64 r.1, .bool r.2] ∧ Ext noG w0 w1) .ret ρ2 w2
  obtain rfl := Option.some.inj hF
  exact res2 rfl (by decide) (by decide) h2 h3 ⟨rfl, hW⟩

set_option maxHeartbeats 4000000 in
theorem decision_file_alive_ok {w0 : World} (f_ : decision_file) (day_ : Int) {bp0_ : Nat} {v_f_ : Value} {v_f_2 : Value} {v_f_3 : Value} {v_f_4 : Value} {v_f_5 : Value} {v_f_6 : Value} (Hb_bp0_ : Mb w0 bp0_ 102 [(v_f_ : Value), v_f_2, v_f_3, v_f_4, v_f_5, v_f_6, .int .i64 f_.person]) (S_f_ : ∃ a n c, v_f_ = Value.slice a n c) (S_f_2 : ∃ a n c, v_f_2 = Value.slice a n c) (H_f_ : RepSl Rate.R noG w0 v_f_3 f_.x.Rates) (H_f_2 : RepSl api_Fact.R noG w0 v_f_4 f_.facts) (H_f_3 : RepSl api_Fact.R noG w0 v_f_5 f_.own) (H_f_4 : RepSl Claim.R noG w0 v_f_6 f_.claims) {r : Bool} (hF : decision_file_alive f_ day_ = some r) :
    Calls Tryz.prog 60 #[.pointer (some ⟨bp0_, 0, none⟩), .int .i64 day_] w0 fun e w1 => e = .returned (.bool r) ∧ Ext noG w0 w1 := by
  refine (Calls.start (P := Tryz.prog) (args := [.pointer (some ⟨bp0_, 0, none⟩), .int .i64 day_]) (R := fun v w1 => v = .bool r ∧ Ext noG w0 w1) (n := 22) (w := w0) Tryz.func60 rfl rfl (Nat.le_of_ble_eq_true rfl) (fun ρ hargs => ?_)).mono (fun e w1 ⟨v, he, hv, hE⟩ => ⟨hv ▸ he, hE⟩)
  have h0 := hargs 0 _ rfl
  have h1 := hargs 1 _ rfl
  have hW := Ext.refl noG w0
  obtain ⟨_, _, hs_H_f_, _, _⟩ := RepSl.shape H_f_
  have H_f_ := H_f_.start
  obtain ⟨_, _, hs_H_f_2, _, _⟩ := RepSl.shape H_f_2
  have H_f_2 := H_f_2.start
  obtain ⟨_, _, hs_H_f_3, _, _⟩ := RepSl.shape H_f_3
  have H_f_3 := H_f_3.start
  obtain ⟨_, _, hs_H_f_4, _, _⟩ := RepSl.shape H_f_4
  have H_f_4 := H_f_4.start
  rw [decision_file_alive] at hF
  refine WP.seq (WP.rb mixed [[]] [[]] [(4, .bool false)] (by kernel_rfl) ⟨aC rfl rfl (fun _ => rfl), trivial⟩ ?_)
  intro ρ1 w1 hN hf hr
  obtain ⟨h0, h1⟩ := k2 hr h0 h1 rfl
  have Hb_bp0_n := Hb_bp0_.exn hN
  have H_f_ := H_f_.exn hN
  have H_f_2 := H_f_2.exn hN
  have H_f_3 := H_f_3.exn hN
  have H_f_4 := H_f_4.exn hN
  have hW := hW.trans hN
  have Hb_bp0_ := Hb_bp0_n
  refine WP.seq ?_
  obtain ⟨z, hz, hF⟩ := obind hF
  refine WP.rb mixed [[], [0], [1], [2], [3], [4], [5], [5], [6], [7]] [[0], [], [], [], [], [], [], [], [], []] [(8, .pointer (some ⟨bp0_, 0, none⟩)), (9, .pointer (some ⟨bp0_, 0, none⟩)), (10, .pointer (some ((⟨bp0_, 0, none⟩ : Addr).add 4))), (11, v_f_5), (12, .tuple #[.int .i64 z.1, .bool z.2]), (7, .tuple #[.int .i64 z.1, .bool z.2]), (13, .int .i64 z.1), (14, .bool z.2), (5, .int .i64 z.1), (6, .bool z.2)] (by kernel_rfl) ⟨mE rfl rfl h0,
 fun ρz wz hE hA _ ⟨u0, _⟩ => core_val rfl rfl (o_nilCheck u0),
 fun ρz wz hE hA _ ⟨u1, _⟩ => core_val rfl rfl (o_fieldAddr u1 (fa_102_2 _ _)),
 fun ρz wz hE hA _ ⟨u2, _⟩ => core_val rfl rfl (o_load u2 (run_load1 (lr_44 _ _) (CA.sub ((Hb_bp0_.exn (hA rfl)).ca) 4 1))),
 fun ρz wz hE hA _ ⟨u3, _⟩ => core_call rfl (call_args1 u3) cf_103 (career_Death_ok  _ (H_f_3.exn (hA rfl)).no hz),
 mU rfl rfl rfl,
 fun ρz wz hE hA _ ⟨u5, _⟩ => core_val rfl rfl (o_extract u5 (by kernel_rfl)),
 fun ρz wz hE hA _ ⟨u5, _⟩ => core_val rfl rfl (o_extract u5 (by kernel_rfl)),
 aU rfl rfl rfl,
 aU rfl rfl rfl, trivial⟩ ?_
  intro ρ2 w2 hN hf hr
  have h5 := hv hf 8 rfl rfl
  have h6 := hv hf 9 rfl rfl
  have h1 := (hr 1 rfl).trans h1
  have hW := hW.trans hN
  refine WP.seq (WP.rb mixed [[], [0], [1], [2], [2], [2, 3, 4], [2, 5], [6]] [[6], [], [], [5], [1], [], [], []] [(15, .bool z.2), (16, .bool (!z.2)), (17, .bool (!z.2)), (18, gv (!(!z.2)) (.int .i64 z.1)), (19, gv (!(!z.2)) (.int .i64 day_)), (20, gv (!(!z.2)) (.bool (decide (day_ ≤ z.1)))), (21, .bool ((!z.2) || decide (day_ ≤ z.1))), (4, .bool ((!z.2) || decide (day_ ≤ z.1)))] (by kernel_rfl) ⟨mE rfl rfl h6,
 fun ρz wz hE hA _ ⟨u0, _⟩ => core_val rfl rfl (o_not u0 rfl),
 mU rfl rfl rfl,
 fun ρz wz hE hA ⟨e5, _⟩ ⟨u2, _⟩ => gIf rfl rfl (yF rfl u2) fun gc F hF => core_val rfl hF (o_move (e5.trans h5)),
 fun ρz wz hE hA ⟨e1, _⟩ ⟨u2, _⟩ => gIf rfl rfl (yF rfl u2) fun gc F hF => core_val rfl hF (o_move (e1.trans h1)),
 fun ρz wz hE hA _ ⟨u2, u3, u4, _⟩ => gIf rfl rfl (yF rfl u2) fun gc F hF => core_val rfl hF (o_geq (gt gc u3) (gt gc u4) rfl),
 fun ρz wz hE hA _ ⟨u2, u5, _⟩ => core_val rfl rfl (o_pick_or u2 rfl u5),
 aU rfl rfl rfl, trivial⟩ ?_)
  intro ρ3 w3 hN hf hr
  have h4 := hv hf 7 rfl rfl
  have hW := hW.trans hN
  refine WP.ret ?_
  show retQ Tryz.prog 22 Tryz.f60 (fun v w1 => v = .bool r ∧ Ext noG w0 w1) .ret ρ3 w3
  obtain rfl := Option.some.inj hF
  exact res1 rfl (by decide) h4 ⟨rfl, hW⟩

set_option maxHeartbeats 4000000 in
theorem decision_file_entitled_ok {w0 : World} (f_ : decision_file) (benefit_ : Int) (month_ : Int) (day_ : Int) {bp0_ : Nat} {v_f_ : Value} {v_f_2 : Value} {v_f_3 : Value} {v_f_4 : Value} {v_f_5 : Value} {v_f_6 : Value} (Hb_bp0_ : Mb w0 bp0_ 102 [(v_f_ : Value), v_f_2, v_f_3, v_f_4, v_f_5, v_f_6, .int .i64 f_.person]) (S_f_ : ∃ a n c, v_f_ = Value.slice a n c) (S_f_2 : ∃ a n c, v_f_2 = Value.slice a n c) (H_f_ : RepSl Rate.R noG w0 v_f_3 f_.x.Rates) (H_f_2 : RepSl api_Fact.R noG w0 v_f_4 f_.facts) (H_f_3 : RepSl api_Fact.R noG w0 v_f_5 f_.own) (H_f_4 : RepSl Claim.R noG w0 v_f_6 f_.claims) {r : Bool} (hF : decision_file_entitled f_ benefit_ month_ day_ = some r) :
    Calls Tryz.prog 29 #[.pointer (some ⟨bp0_, 0, none⟩), .int .i64 benefit_, .int .i64 month_, .int .i64 day_] w0 fun e w1 => e = .returned (.bool r) ∧ Ext noG w0 w1 := by
  refine (Calls.start (P := Tryz.prog) (args := [.pointer (some ⟨bp0_, 0, none⟩), .int .i64 benefit_, .int .i64 month_, .int .i64 day_]) (R := fun v w1 => v = .bool r ∧ Ext noG w0 w1) (n := 49) (w := w0) Tryz.func29 rfl rfl (Nat.le_of_ble_eq_true rfl) (fun ρ hargs => ?_)).mono (fun e w1 ⟨v, he, hv, hE⟩ => ⟨hv ▸ he, hE⟩)
  have h0 := hargs 0 _ rfl
  have h1 := hargs 1 _ rfl
  have h2 := hargs 2 _ rfl
  have h3 := hargs 3 _ rfl
  have hW := Ext.refl noG w0
  obtain ⟨_, _, hs_H_f_, _, _⟩ := RepSl.shape H_f_
  have H_f_ := H_f_.start
  obtain ⟨_, _, hs_H_f_2, _, _⟩ := RepSl.shape H_f_2
  have H_f_2 := H_f_2.start
  obtain ⟨_, _, hs_H_f_3, _, _⟩ := RepSl.shape H_f_3
  have H_f_3 := H_f_3.start
  obtain ⟨_, _, hs_H_f_4, _, _⟩ := RepSl.shape H_f_4
  have H_f_4 := H_f_4.start
  rw [decision_file_entitled] at hF
  refine WP.seq (WP.regionN mixed ⟨[[], [], []], [[], [], []], [[0], [3], []], [], [], [(0, 4), (1, 7)], []⟩ [(4, fun u wz => ∃ b, u = .pointer (some ⟨b, 0, none⟩) ∧ w0.heap.size ≤ b ∧ Mb wz b 59 [(.pointer (some ⟨bp0_, 0, none⟩) : Value)]), (7, fun u wz => ∃ b, u = .pointer (some ⟨b, 0, none⟩) ∧ w0.heap.size ≤ b ∧ Mb wz b 3 [Value.int .i64 day_]), val 8 (.bool false)] (fun b => w0.heap.size ≤ b) (by kernel_rfl) (.inr (fun _ h => h)) ⟨TStable.box, TStable.box, sV, trivial⟩ ⟨fun ρz wz hE hA ⟨e0, _⟩ _ => core_newN rfl rfl rfl hE (o_box (e0.trans h0) (bxp_59 _)),
 fun ρz wz hE hA ⟨e3, _⟩ _ => core_newN rfl rfl rfl hE (o_box (e3.trans h3) (bx_3 _ _)),
 fun ρz wz hE hA _ _ => core_val rfl rfl (o_assign rfl), trivial⟩ ?_)
  intro ρ1 w1 hE hN hf hr hdist
  have hN := hE.fresh
  obtain ⟨b4_, h4, hge_b4_, Hb_b4_⟩ := hf 0 rfl
  obtain ⟨b7_, h7, hge_b7_, Hb_b7_⟩ := hf 1 rfl
  obtain ⟨h1, h2⟩ := k2 hr h1 h2 rfl
  have Hb_bp0_n := Hb_bp0_.exn hN
  have H_f_ := H_f_.exn hN
  have H_f_2 := H_f_2.exn hN
  have H_f_3 := H_f_3.exn hN
  have H_f_4 := H_f_4.exn hN
  have hB_b4_ : w0.heap.size ≤ b4_ := Nat.le_trans hW.size hge_b4_
  have hB_b7_ : w0.heap.size ≤ b7_ := Nat.le_trans hW.size hge_b7_
  have hW := hW.trans hN
  have Hb_bp0_ := Hb_bp0_n
  refine WP.seq ?_
  obtain ⟨z, hz, hF⟩ := obind hF
  refine WP.rg mixed [[], [], [], [0, 1, 2], [3]] [[], [], [], [0, 1, 2], [3]] [[4], [1], [2], [], []] [val 10 (.pointer (some ⟨bp0_, 0, none⟩)), val 11 (.int .i64 benefit_), val 12 (.int .i64 month_), (13, fun u wz => Own w0.heap.size 28 6 Claim.cells wz u z ∧ ∀ b, u.ownBlock = some b → w1.heap.size ≤ b), (9, fun u wz => Own w0.heap.size 28 6 Claim.cells wz u z ∧ ∀ b, u.ownBlock = some b → w1.heap.size ≤ b)] (by kernel_rfl) ⟨sV, sV, sV, fun _ _ _ hE ⟨hO, hf⟩ => ⟨hO.exn hE, hf⟩, fun _ _ _ hE ⟨hO, hf⟩ => ⟨hO.exn hE, hf⟩, trivial⟩ ⟨fun ρz wz hE hA ⟨e4, _⟩ _ => core_val rfl rfl (o_load (e4.trans h4) (run_load1 (lr_59 _ _) ((Hb_b4_.exn (hA rfl)).ca))),
 mE rfl rfl h1,
 mE rfl rfl h2,
 fun ρz wz hE hA _ ⟨u0, u1, u2, _⟩ => core_callR rfl (call_args3 u0 u1 u2) cf_59 ((decision_file_inEffect_ok  _ _ _ (Hb_bp0_.exn (hA rfl)) S_f_ S_f_2 (H_f_.exn (hA rfl)).no (H_f_2.exn (hA rfl)).no (H_f_3.exn (hA rfl)).no (H_f_4.exn (hA rfl)).no hz).mono (fun e w1 ⟨v, he, hE1, hO⟩ => ⟨v, he, hE1, hO.base (Nat.le_trans hW.size hE.size), fun b hb => Nat.le_trans hE.size (hO.lt hb).1⟩)),
 fun ρz wz hE hA _ ⟨⟨hO3, hfr3⟩, _⟩ => core_copy rfl rfl (o_assign rfl) ⟨hO3, hfr3⟩, trivial⟩ ?_
  intro ρ2 w2 hN hf hr
  obtain ⟨v9_, h9⟩ : ∃ v, ρ2 9 = v := ⟨_, rfl⟩
  have hq9 : (fun u wz => Own w0.heap.size 28 6 Claim.cells wz u z ∧ ∀ b, u.ownBlock = some b → w1.heap.size ≤ b) (ρ2 9) w2 := hf 4 rfl
  rw [h9] at hq9
  obtain ⟨hq9, hfr9⟩ := hq9
  obtain ⟨h1, h4, h7⟩ := k3 hr h1 h4 h7 rfl
  have Hb_bp0_n := Hb_bp0_.exn hN
  have Hb_b4_n := Hb_b4_.exn hN
  have Hb_b7_n := Hb_b7_.exn hN
  have H_f_ := H_f_.exn hN
  have H_f_2 := H_f_2.exn hN
  have H_f_3 := H_f_3.exn hN
  have H_f_4 := H_f_4.exn hN
  have hW := hW.trans hN
  have Hf9 : RepSl Claim.R noG w2 v9_ z := hq9.rep (fun _ _ h => h)
  obtain ⟨_, _, hs_Hf9, _, _⟩ := RepSl.shape Hf9
  have Hb_bp0_ := Hb_bp0_n
  have Hb_b4_ := Hb_b4_n
  have Hb_b7_ := Hb_b7_n
  refine WP.seq (WP.seq ?_)
  obtain ⟨c, hc, hF⟩ := obind hF
  obtain ⟨z2, hz2, hc⟩ := orB hc
  have hc := orE hc
  refine WP.rb mixed [[], [0], [1], [2], [3], [3], [3, 4, 5], [3, 6], [3, 7]] [[9], [], [], [], [4], [7], [], [], []] [(14, v9_), (15, .int .i64 (z.length : Int)), (16, .bool ((z.length : Int) == 0)), (17, .bool ((z.length : Int) == 0)), (18, gv (!((z.length : Int) == 0)) (.pointer (some ⟨bp0_, 0, none⟩))), (19, gv (!((z.length : Int) == 0)) (.int .i64 day_)), (20, gv (!((z.length : Int) == 0)) (.bool z2)), (21, gv (!((z.length : Int) == 0)) (.bool (!z2))), (22, .bool c)] (by kernel_rfl) ⟨mE rfl rfl h9,
 fun ρz wz hE hA _ ⟨u0, _⟩ => core_val rfl rfl (o_len (u0.trans hs_Hf9) len_23),
 fun ρz wz hE hA _ ⟨u1, _⟩ => core_val rfl rfl (o_eql u1 rfl rfl),
 mU rfl rfl rfl,
 fun ρz wz hE hA ⟨e4, _⟩ ⟨u3, _⟩ => gIf rfl rfl (yF rfl u3) fun gc F hF => core_val rfl hF (o_load (e4.trans h4) (run_load1 (lr_59 _ _) ((Hb_b4_.exn (hA rfl)).ca))),
 fun ρz wz hE hA ⟨e7, _⟩ ⟨u3, _⟩ => gIf rfl rfl (yF rfl u3) fun gc F hF => core_val rfl hF (o_load (e7.trans h7) (run_load1 (lr_3 _ _) ((Hb_b7_.exn (hA rfl)).ca))),
 fun ρz wz hE hA _ ⟨u3, u4, u5, _⟩ => gIf rfl rfl (yF rfl u3) fun gc F hF => core_call hF (call_args2 (gt gc u4) (gt gc u5)) cf_60 (decision_file_alive_ok  _ _ (Hb_bp0_.exn (hA rfl)) S_f_ S_f_2 (H_f_.exn (hA rfl)).no (H_f_2.exn (hA rfl)).no (H_f_3.exn (hA rfl)).no (H_f_4.exn (hA rfl)).no (hz2 gc)),
 fun ρz wz hE hA _ ⟨u3, u6, _⟩ => gIf rfl rfl (yF rfl u3) fun gc F hF => core_val rfl hF (o_not (gt gc u6) rfl),
 fun ρz wz hE hA _ ⟨u3, u7, _⟩ => core_valE rfl rfl (congrArg Value.bool hc) (o_pick_or u3 rfl u7), trivial⟩ ?_
  intro ρ3 w3 hN hf hr
  have h22 := hv hf 8 rfl rfl
  obtain ⟨h1, h4, h7, h9⟩ := k4 hr h1 h4 h7 h9 rfl
  have Hb_bp0_n := Hb_bp0_.exn hN
  have Hb_b4_n := Hb_b4_.exn hN
  have Hb_b7_n := Hb_b7_.exn hN
  have H_f_ := H_f_.exn hN
  have H_f_2 := H_f_2.exn hN
  have H_f_3 := H_f_3.exn hN
  have H_f_4 := H_f_4.exn hN
  have Hf9 := Hf9.exn hN
  have hW := hW.trans hN
  have Hb_bp0_ := Hb_bp0_n
  have Hb_b4_ := Hb_b4_n
  have Hb_b7_ := Hb_b7_n
  refine WP.cond rfl h22 (fun hb => ?_) (fun hb => ?_)
  · have hF := (if_pos hb).symm.trans hF
    refine WP.seq (WP.rb mixed [[]] [[]] [(8, .bool false)] (by kernel_rfl) ⟨aC rfl rfl (fun _ => rfl), trivial⟩ ?_)
    intro ρ4 w4 hN hf hr
    have h8 := hv hf 0 rfl rfl
    have hW := hW.trans hN
    refine WP.ret ?_
    show retQ Tryz.prog 49 Tryz.f29 (fun v w1 => v = .bool r ∧ Ext noG w0 w1) .ret ρ4 w4
    obtain rfl := Option.some.inj hF
    exact res1 rfl (by decide) h8 ⟨rfl, hW⟩
  have hF := (if_neg (Bool.eq_false_iff.1 hb)).symm.trans hF
  refine WP.skip (WP.seq (WP.seq (WP.rb mixed [[]] [[1]] [(23, .int .i64 benefit_)] (by kernel_rfl) ⟨mE rfl rfl h1, trivial⟩ ?_)))
  intro ρ5 w5 hN hf hr
  have h23 := hv hf 0 rfl rfl
  obtain ⟨h4, h7, h9⟩ := k3 hr h4 h7 h9 rfl
  have Hb_bp0_n := Hb_bp0_.exn hN
  have Hb_b4_n := Hb_b4_.exn hN
  have Hb_b7_n := Hb_b7_.exn hN
  have H_f_ := H_f_.exn hN
  have H_f_2 := H_f_2.exn hN
  have H_f_3 := H_f_3.exn hN
  have H_f_4 := H_f_4.exn hN
  have Hf9 := Hf9.exn hN
  have hW := hW.trans hN
  have Hb_bp0_ := Hb_bp0_n
  have Hb_b4_ := Hb_b4_n
  have Hb_b7_ := Hb_b7_n
  refine WP.block (WP.seq (WP.rb mixed [[], [0]] [[23], []] [(25, .bool (benefit_ == 2)), (24, .bool (benefit_ == 2))] (by kernel_rfl) ⟨fun ρz wz hE hA ⟨e23, _⟩ _ => core_val rfl rfl (o_eql (e23.trans h23) rfl rfl),
 aU rfl rfl rfl, trivial⟩ ?_))
  intro ρ6 w6 hN hf hr
  have h24 := hv hf 1 rfl rfl
  obtain ⟨h4, h7, h9, h23⟩ := k4 hr h4 h7 h9 h23 rfl
  have Hb_bp0_n := Hb_bp0_.exn hN
  have Hb_b4_n := Hb_b4_.exn hN
  have Hb_b7_n := Hb_b7_.exn hN
  have H_f_ := H_f_.exn hN
  have H_f_2 := H_f_2.exn hN
  have H_f_3 := H_f_3.exn hN
  have H_f_4 := H_f_4.exn hN
  have Hf9 := Hf9.exn hN
  have hW := hW.trans hN
  have Hb_bp0_ := Hb_bp0_n
  have Hb_b4_ := Hb_b4_n
  have Hb_b7_ := Hb_b7_n
  refine WP.cond rfl h24 (fun hb => ?_) (fun hb => ?_)
  · have hF := (if_pos hb).symm.trans hF
    refine WP.seq ?_
    cases hF
  have hF := (if_neg (Bool.eq_false_iff.1 hb)).symm.trans hF
  refine WP.seq (WP.rb mixed [[], [0]] [[23], []] [(30, .bool (benefit_ == 3)), (29, .bool (benefit_ == 3))] (by kernel_rfl) ⟨fun ρz wz hE hA ⟨e23, _⟩ _ => core_val rfl rfl (o_eql (e23.trans h23) rfl rfl),
 aU rfl rfl rfl, trivial⟩ ?_)
  intro ρ7 w7 hN hf hr
  have h29 := hv hf 1 rfl rfl
  obtain ⟨h4, h7, h9, h23⟩ := k4 hr h4 h7 h9 h23 rfl
  have Hb_bp0_n := Hb_bp0_.exn hN
  have Hb_b4_n := Hb_b4_.exn hN
  have Hb_b7_n := Hb_b7_.exn hN
  have H_f_ := H_f_.exn hN
  have H_f_2 := H_f_2.exn hN
  have H_f_3 := H_f_3.exn hN
  have H_f_4 := H_f_4.exn hN
  have Hf9 := Hf9.exn hN
  have hW := hW.trans hN
  have Hb_bp0_ := Hb_bp0_n
  have Hb_b4_ := Hb_b4_n
  have Hb_b7_ := Hb_b7_n
  refine WP.cond rfl h29 (fun hb => ?_) (fun hb => ?_)
  · have hF := (if_pos hb).symm.trans hF
    refine WP.seq ?_
    cases hF
  have hF := (if_neg (Bool.eq_false_iff.1 hb)).symm.trans hF
  refine WP.seq (WP.rb mixed [[], [0]] [[23], []] [(45, .bool (benefit_ == 4)), (44, .bool (benefit_ == 4))] (by kernel_rfl) ⟨fun ρz wz hE hA ⟨e23, _⟩ _ => core_val rfl rfl (o_eql (e23.trans h23) rfl rfl),
 aU rfl rfl rfl, trivial⟩ ?_)
  intro ρ8 w8 hN hf hr
  have h44 := hv hf 1 rfl rfl
  obtain ⟨h4, h7, h9⟩ := k3 hr h4 h7 h9 rfl
  have Hb_bp0_n := Hb_bp0_.exn hN
  have Hb_b4_n := Hb_b4_.exn hN
  have Hb_b7_n := Hb_b7_.exn hN
  have H_f_ := H_f_.exn hN
  have H_f_2 := H_f_2.exn hN
  have H_f_3 := H_f_3.exn hN
  have H_f_4 := H_f_4.exn hN
  have Hf9 := Hf9.exn hN
  have hW := hW.trans hN
  have Hb_bp0_ := Hb_bp0_n
  have Hb_b4_ := Hb_b4_n
  have Hb_b7_ := Hb_b7_n
  refine WP.cond rfl h44 (fun hb => ?_) (fun hb => ?_)
  · have hF := (if_pos hb).symm.trans hF
    refine WP.seq ?_
    cases hF
  have hF := (if_neg (Bool.eq_false_iff.1 hb)).symm.trans hF
  refine WP.skip (WP.seq (WP.rb mixed [[]] [[]] [(8, .bool true)] (by kernel_rfl) ⟨aC rfl rfl (fun _ => rfl), trivial⟩ ?_))
  intro ρ9 w9 hN hf hr
  have h8 := hv hf 0 rfl rfl
  have hW := hW.trans hN
  refine WP.ret ?_
  show retQ Tryz.prog 49 Tryz.f29 (fun v w1 => v = .bool r ∧ Ext noG w0 w1) .ret ρ9 w9
  obtain rfl := Option.some.inj hF
  exact res1 rfl (by decide) h8 ⟨rfl, hW⟩

set_option maxHeartbeats 4000000 in
theorem decision_Entitled_ok {w0 : World} (l_ : List api_Fact) (claims_ : List Claim) (person_ : Int) (benefit_ : Int) (month_ : Int) {v_l_ : Value} (H_l_ : RepSl api_Fact.R noG w0 v_l_ l_) {v_claims_ : Value} (H_claims_ : RepSl Claim.R noG w0 v_claims_ claims_) {r : Bool} (hF : decision_Entitled l_ claims_ person_ benefit_ month_ = some r) :
    Calls Tryz.prog 16 #[v_l_, v_claims_, .int .i64 person_, .int .i64 benefit_, .int .i64 month_] w0 fun e w1 => e = .returned (.bool r) ∧ Ext noG w0 w1 := by
  refine (Calls.start (P := Tryz.prog) (args := [v_l_, v_claims_, .int .i64 person_, .int .i64 benefit_, .int .i64 month_]) (R := fun v w1 => v = .bool r ∧ Ext noG w0 w1) (n := 30) (w := w0) Tryz.func16 rfl rfl (Nat.le_of_ble_eq_true rfl) (fun ρ hargs => ?_)).mono (fun e w1 ⟨v, he, hv, hE⟩ => ⟨hv ▸ he, hE⟩)
  have h0 := hargs 0 _ rfl
  have h1 := hargs 1 _ rfl
  have h2 := hargs 2 _ rfl
  have h3 := hargs 3 _ rfl
  have h4 := hargs 4 _ rfl
  have hW := Ext.refl noG w0
  obtain ⟨_, _, hs_H_l_, _, _⟩ := RepSl.shape H_l_
  have H_l_ := H_l_.start
  obtain ⟨_, _, hs_H_claims_, _, _⟩ := RepSl.shape H_claims_
  have H_claims_ := H_claims_.start
  rw [decision_Entitled] at hF
  refine WP.seq (WP.rb mixed [[]] [[]] [(10, .bool false)] (by kernel_rfl) ⟨aC rfl rfl (fun _ => rfl), trivial⟩ ?_)
  intro ρ1 w1 hN hf hr
  obtain ⟨h0, h1, h2, h3, h4⟩ := k5 hr h0 h1 h2 h3 h4 rfl
  have H_l_ := H_l_.exn hN
  have H_claims_ := H_claims_.exn hN
  have hW := hW.trans hN
  refine WP.seq ?_
  obtain ⟨z, hz, hF⟩ := obind hF
  refine WP.rb mixed [[], [0], [1], [2], [2], [3], [4]] [[4], [], [], [], [], [], []] [(14, .int .i64 month_), (15, .tuple #[.int .i64 z.1, .bool z.2]), (13, .tuple #[.int .i64 z.1, .bool z.2]), (16, .int .i64 z.1), (17, .bool z.2), (11, .int .i64 z.1), (12, .bool z.2)] (by kernel_rfl) ⟨mE rfl rfl h4,
 fun ρz wz hE hA _ ⟨u0, _⟩ => core_call rfl (call_args1 u0) cf_27 (calendar_MonthStart_ok  _  hz),
 mU rfl rfl rfl,
 fun ρz wz hE hA _ ⟨u2, _⟩ => core_val rfl rfl (o_extract u2 (by kernel_rfl)),
 fun ρz wz hE hA _ ⟨u2, _⟩ => core_val rfl rfl (o_extract u2 (by kernel_rfl)),
 aU rfl rfl rfl,
 aU rfl rfl rfl, trivial⟩ ?_
  intro ρ2 w2 hN hf hr
  have h11 := hv hf 5 rfl rfl
  have h12 := hv hf 6 rfl rfl
  obtain ⟨h0, h1, h2, h3, h4⟩ := k5 hr h0 h1 h2 h3 h4 rfl
  have H_l_ := H_l_.exn hN
  have H_claims_ := H_claims_.exn hN
  have hW := hW.trans hN
  refine WP.seq ?_
  obtain ⟨c, hc, hF⟩ := obind hF
  obtain ⟨z2, hz2, hc⟩ := andB hc
  obtain ⟨z3, hz3, hc⟩ := andB hc
  have hc := andE hc
  refine WP.rg mixed [[], [0], [1], [1], [1], [1], [1, 2, 3, 4, 5], [1], [1], [1], [1, 6, 7, 8, 9], [1, 10], [11]] [[], [0], [1], [1], [1], [1], [1, 2, 3, 4, 5], [1], [1], [1], [1, 6, 7, 8, 9], [1, 10], [11]] [[12], [], [], [0], [1], [2], [], [3], [4], [11], [], [], []] [val 18 (.bool z.2), val 19 (.bool z.2), val 20 (gv (z.2) (.agg #[.slice none 0 0, .slice none 0 0, .slice none 0 0])), val 21 (gv (z.2) v_l_), val 22 (gv (z.2) v_claims_), val 23 (gv (z.2) (.int .i64 person_)), (24, fun u wz => (z.2) = true → (fun u wz => ∃ b : Nat, ∃ q6v0 : Value, ∃ q6v1 : Value, ∃ q6v2 : Value, ∃ q6v3 : Value, ∃ q6v4 : Value, ∃ q6v5 : Value, u = .pointer (some ⟨b, 0, none⟩) ∧ w2.heap.size ≤ b ∧ Mb wz b 102 [(q6v0 : Value), q6v1, q6v2, q6v3, q6v4, q6v5, .int .i64 z2.person] ∧ (∃ a n c, q6v0 = Value.slice a n c) ∧ (∃ a n c, q6v1 = Value.slice a n c) ∧ (RepSl Rate.R noG wz q6v2 z2.x.Rates) ∧ (RepSl api_Fact.R noG wz q6v3 z2.facts) ∧ (RepSl api_Fact.R noG wz q6v4 z2.own) ∧ (RepSl Claim.R noG wz q6v5 z2.claims)) u wz), val 25 (gv (z.2) (.int .i64 benefit_)), val 26 (gv (z.2) (.int .i64 month_)), val 27 (gv (z.2) (.int .i64 z.1)), val 28 (gv (z.2) (.bool z3)), val 29 (.bool c), val 10 (.bool c)] (by kernel_rfl) ⟨sV, sV, sV, sV, sV, sV, stabI (Φ := fun u wz => ∃ b : Nat, ∃ q6v0 : Value, ∃ q6v1 : Value, ∃ q6v2 : Value, ∃ q6v3 : Value, ∃ q6v4 : Value, ∃ q6v5 : Value, u = .pointer (some ⟨b, 0, none⟩) ∧ w2.heap.size ≤ b ∧ Mb wz b 102 [(q6v0 : Value), q6v1, q6v2, q6v3, q6v4, q6v5, .int .i64 z2.person] ∧ (∃ a n c, q6v0 = Value.slice a n c) ∧ (∃ a n c, q6v1 = Value.slice a n c) ∧ (RepSl Rate.R noG wz q6v2 z2.x.Rates) ∧ (RepSl api_Fact.R noG wz q6v3 z2.facts) ∧ (RepSl api_Fact.R noG wz q6v4 z2.own) ∧ (RepSl Claim.R noG wz q6v5 z2.claims)) (fun _ _ _ hE ⟨b, _, _, _, _, _, _, h1, h2, h3, k0, k1, k2, k3, k4, k5⟩ => ⟨b, _, _, _, _, _, _, h1, h2, h3.exn hE, k0, k1, k2.exn hE, k3.exn hE, k4.exn hE, k5.exn hE⟩), sV, sV, sV, sV, sV, sV, trivial⟩ ⟨mE rfl rfl h12,
 mU rfl rfl rfl,
 fun ρz wz hE hA _ ⟨u1, _⟩ => gIf rfl rfl (yT rfl u1) fun gc F hF => core_val rfl hF (o_build bp0 (bdx_43_  _)),
 fun ρz wz hE hA ⟨e0, _⟩ ⟨u1, _⟩ => gIf rfl rfl (yT rfl u1) fun gc F hF => core_val rfl hF (o_move (e0.trans h0)),
 fun ρz wz hE hA ⟨e1, _⟩ ⟨u1, _⟩ => gIf rfl rfl (yT rfl u1) fun gc F hF => core_val rfl hF (o_move (e1.trans h1)),
 fun ρz wz hE hA ⟨e2, _⟩ ⟨u1, _⟩ => gIf rfl rfl (yT rfl u1) fun gc F hF => core_val rfl hF (o_move (e2.trans h2)),
 fun ρz wz hE hA _ ⟨u1, u2, u3, u4, u5, _⟩ => gIfR rfl (yT rfl u1) fun gc F hF => core_callR hF (call_args4 (gt gc u2) (gt gc u3) (gt gc u4) (gt gc u5)) cf_28 ((decision_open_ok  _ _ _ _ ⟨_, _, _, rfl⟩ ⟨_, _, _, rfl⟩ (RepSl.nil _ noG _).no (H_l_.exn (hA rfl)).no (H_claims_.exn (hA rfl)).no (hz2 gc)).mono (fun e w1 ⟨v, he, hE1, b, _, _, _, _, _, _, hv, hge, hR⟩ => ⟨v, he, hE1, b, _, _, _, _, _, _, hv, Nat.le_trans hE.size hge, hR⟩)),
 fun ρz wz hE hA ⟨e3, _⟩ ⟨u1, _⟩ => gIf rfl rfl (yT rfl u1) fun gc F hF => core_val rfl hF (o_move (e3.trans h3)),
 fun ρz wz hE hA ⟨e4, _⟩ ⟨u1, _⟩ => gIf rfl rfl (yT rfl u1) fun gc F hF => core_val rfl hF (o_move (e4.trans h4)),
 fun ρz wz hE hA ⟨e11, _⟩ ⟨u1, _⟩ => gIf rfl rfl (yT rfl u1) fun gc F hF => core_val rfl hF (o_move (e11.trans h11)),
 fun ρz wz hE hA _ ⟨u1, u6, u7, u8, u9, _⟩ => gIf rfl rfl (yT rfl u1) fun gc F hF => let ⟨bz6, q6v0, q6v1, q6v2, q6v3, q6v4, q6v5, hz6, hge6, hM6, q6h0, q6h1, q6h2, q6h3, q6h4, q6h5⟩ := u6 gc; core_call hF (call_args4 hz6 (gt gc u7) (gt gc u8) (gt gc u9)) cf_29 (decision_file_entitled_ok  _ _ _ _ hM6 q6h0 q6h1 q6h2 q6h3 q6h4 q6h5 (hz3 gc)),
 fun ρz wz hE hA _ ⟨u1, u10, _⟩ => core_valE rfl rfl (congrArg Value.bool hc) (o_pick_and u1 u10 rfl),
 aU rfl rfl rfl, trivial⟩ ?_
  intro ρ3 w3 hN hf hr
  have h10 : ρ3 10 = .bool c := hf 12 rfl
  have hW := hW.trans hN
  refine WP.ret ?_
  show retQ Tryz.prog 30 Tryz.f16 (fun v w1 => v = .bool r ∧ Ext noG w0 w1) .ret ρ3 w3
  obtain rfl := Option.some.inj hF
  exact res1 rfl (by decide) h10 ⟨rfl, hW⟩

set_option maxHeartbeats 4000000 in
theorem pensionlaw26_awake_ok {w0 : World} {r : Bool} (hF : pensionlaw26_awake = some r) :
    Calls Tryz.prog 10 #[] w0 fun e w1 => e = .returned (.bool r) ∧ Ext noG w0 w1 := by
  refine (Calls.start (P := Tryz.prog) (args := []) (R := fun v w1 => v = .bool r ∧ Ext noG w0 w1) (n := 51) (w := w0) Tryz.func10 rfl rfl (Nat.le_of_ble_eq_true rfl) (fun ρ hargs => ?_)).mono (fun e w1 ⟨v, he, hv, hE⟩ => ⟨hv ▸ he, hE⟩)
  have hW := Ext.refl noG w0
  rw [pensionlaw26_awake] at hF
  refine WP.seq (WP.rb mixed [[]] [[]] [(0, .bool false)] (by kernel_rfl) ⟨aC rfl rfl (fun _ => rfl), trivial⟩ ?_)
  intro ρ1 w1 hN hf hr
  have hW := hW.trans hN
  refine WP.seq (WP.region mixed [[], [], [0, 1]] [[], [], [0, 1]] [[], [], []] [2] [(1, 2)] [val 5 (Claim.val (⟨1, 5, 2, 1, 0, 0⟩ : Claim)), (1, fun u wz => ∃ b, u = .pointer (some ⟨b, 0, none⟩) ∧ w1.heap.size ≤ b ∧ Mb wz b 28 (Claim.cells (⟨0, 0, 0, 0, 0, 0⟩ : Claim))), (1, fun u wz => ∃ b, u = .pointer (some ⟨b, 0, none⟩) ∧ w1.heap.size ≤ b ∧ Mb wz b 28 (Claim.cells (⟨1, 5, 2, 1, 0, 0⟩ : Claim)))] (fun b => w1.heap.size ≤ b) (by kernel_rfl) ⟨sV, fun _ _ _ hE ⟨b, hb, hs, hM⟩ => ⟨b, hb, hs, hM.exn hE⟩, fun _ _ _ hE ⟨b, hb, hs, hM⟩ => ⟨b, hb, hs, hM.exn hE⟩, trivial⟩ ⟨fun ρz wz hE hA _ _ => core_val rfl rfl (o_build (build_parts4 rfl rfl rfl rfl) (bd_28_0_1_2_3 _ _ _ _ _)),
 fun ρz wz hE hA _ _ => core_new rfl rfl hE (o_alloc (al_28 _)),
 fun ρz wz hE hA _ ⟨u0, u1, _⟩ => core_storeNew rfl rfl rfl rfl u0 u1 (fun a w => st_28 _ a w) rfl (one_28 _), trivial⟩ ?_)
  intro ρ2 w2 hE hN hf hr
  have hN := hE.fresh
  obtain ⟨b1_, h1, hge_b1_, Hb_b1_⟩ := hf 2 rfl
  have hB_b1_ : w0.heap.size ≤ b1_ := Nat.le_trans hW.size hge_b1_
  have hW := hW.trans hN
  refine WP.seq ?_
  obtain ⟨z, hz, hF⟩ := obind hF
  refine WP.region mixed [[], [0], [1], [1], [], [0, 2, 4]] [[], [0], [1], [1], [], [2, 4]] [[], [], [], [], [1], []] [5] [] [val 7 (.tuple #[.int .i64 z.1, .bool z.2]), val 6 (.tuple #[.int .i64 z.1, .bool z.2]), val 8 (.int .i64 z.1), val 9 (.bool z.2), val 10 (.pointer (some ((⟨b1_, 0, none⟩ : Addr).add 5))), (10, fun _ wz => Mb wz b1_ 28 (Claim.cells ({ (⟨1, 5, 2, 1, 0, 0⟩ : Claim) with Day := z.1 } : Claim)))] (fun x => x = b1_) (by kernel_rfl) ⟨sV, sV, sV, sV, sV, fun _ _ _ hE hM => hM.exn hE, trivial⟩ ⟨fun ρz wz hE hA _ _ => core_call rfl (call_args3 rfl rfl rfl) cf_19 (calendar_Day_ok  _ _ _  hz),
 mU rfl rfl rfl,
 fun ρz wz hE hA _ ⟨u1, _⟩ => core_val rfl rfl (o_extract u1 (by kernel_rfl)),
 fun ρz wz hE hA _ ⟨u1, _⟩ => core_val rfl rfl (o_extract u1 (by kernel_rfl)),
 fun ρz wz hE hA ⟨e1, _⟩ _ => core_val rfl rfl (o_fieldAddr (e1.trans h1) (fa_28_5 _ _)),
 fun ρz wz hE hA _ ⟨u2, u4, _⟩ => core_storePart (k := 5) (vs := [Value.int .i64 z.1]) (cs0 := (Claim.cells (⟨1, 5, 2, 1, 0, 0⟩ : Claim))) rfl rfl (fun _ h => h) u4 rfl u2 (Hb_b1_.exn (hA rfl)) (fun a w => st_3 _ a w) (Nat.le_of_ble_eq_true rfl) rfl (one_3 _), trivial⟩ ?_
  intro ρ3 w3 hE hN hf hr
  have h1 := (hr 1 rfl).trans h1
  have Hb_b1_n := hf 5 rfl
  have hW := Ext.own hW hE (fun x h => h.symm ▸ hB_b1_)
  have Hb_b1_ := Hb_b1_n
  refine WP.seq ?_
  obtain ⟨z2, hz2, hF⟩ := obind hF
  refine WP.rb mixed [[], [0], [1], [2], [2], [3], [4]] [[1], [], [], [], [], [], []] [(12, Claim.val ({ (⟨1, 5, 2, 1, 0, 0⟩ : Claim) with Day := z.1 } : Claim)), (13, .tuple #[.int .i64 z2.1, .bool z2.2]), (11, .tuple #[.int .i64 z2.1, .bool z2.2]), (14, .int .i64 z2.1), (15, .bool z2.2), (2, .int .i64 z2.1), (3, .bool z2.2)] (by kernel_rfl) ⟨fun ρz wz hE hA ⟨e1, _⟩ _ => core_val rfl rfl (o_load (e1.trans h1) (run_loadN (cs := (Claim.cells ({ (⟨1, 5, 2, 1, 0, 0⟩ : Claim) with Day := z.1 } : Claim))) (lr_28 _ _) rfl ((Hb_b1_.exn (hA rfl)).ca))),
 fun ρz wz hE hA _ ⟨u0, _⟩ => core_call rfl (call_args1 u0) cf_20 (decision_Start_ok  _  hz2),
 mU rfl rfl rfl,
 fun ρz wz hE hA _ ⟨u2, _⟩ => core_val rfl rfl (o_extract u2 (by kernel_rfl)),
 fun ρz wz hE hA _ ⟨u2, _⟩ => core_val rfl rfl (o_extract u2 (by kernel_rfl)),
 aU rfl rfl rfl,
 aU rfl rfl rfl, trivial⟩ ?_
  intro ρ4 w4 hN hf hr
  have h2 := hv hf 5 rfl rfl
  have h3 := hv hf 6 rfl rfl
  have h1 := (hr 1 rfl).trans h1
  have Hb_b1_n := Hb_b1_.exn hN
  have hW := hW.trans hN
  have Hb_b1_ := Hb_b1_n
  refine WP.seq ?_
  obtain ⟨z3, hz3, hF⟩ := obind hF
  refine WP.rg mixed [[], [0], [1], [2]] [[], [0], [1], [2]] [[1], [], [], []] [val 16 (Claim.val ({ (⟨1, 5, 2, 1, 0, 0⟩ : Claim) with Day := z.1 } : Claim)), (17, fun u wz => ∃ b, u = .slice (some ⟨b, 0, none⟩) 1 1 ∧ w4.heap.size ≤ b ∧ Mb wz b 28 (([({ (⟨1, 5, 2, 1, 0, 0⟩ : Claim) with Day := z.1 } : Claim)]).flatMap Claim.cells)), (18, fun u wz => Own w0.heap.size 28 6 Claim.cells wz u z3 ∧ ∀ b, u.ownBlock = some b → w4.heap.size ≤ b), (4, fun u wz => Own w0.heap.size 28 6 Claim.cells wz u z3 ∧ ∀ b, u.ownBlock = some b → w4.heap.size ≤ b)] (by kernel_rfl) ⟨sV, fun _ _ _ hE ⟨b, hz, hs, hM⟩ => ⟨b, hz, hs, hM.exn hE⟩, fun _ _ _ hE ⟨hO, hf⟩ => ⟨hO.exn hE, hf⟩, fun _ _ _ hE ⟨hO, hf⟩ => ⟨hO.exn hE, hf⟩, trivial⟩ ⟨fun ρz wz hE hA ⟨e1, _⟩ _ => core_val rfl rfl (o_load (e1.trans h1) (run_loadN (cs := (Claim.cells ({ (⟨1, 5, 2, 1, 0, 0⟩ : Claim) with Day := z.1 } : Claim))) (lr_28 _ _) rfl ((Hb_b1_.exn (hA rfl)).ca))),
 fun ρz wz hE hA _ ⟨u0, _⟩ => core_slice rfl rfl hE (o_buildSlice (build_parts1 u0) (bs_23_1 _ _)),
 fun ρz wz hE hA _ ⟨⟨bz1, hz1, hge1, hM1⟩, _⟩ => core_callR rfl (call_args3 hz1 rfl rfl) cf_12 ((decision_Select_ok  _ _ _ (Mb.rep (n := 6) (cells := Claim.cells) (hn := fun _ => rfl) (G := noG) hM1 rfl (Nat.le_of_ble_eq_true rfl) (fun h => h)).no hz3).mono (fun e w1 ⟨v, he, hE1, hO⟩ => ⟨v, he, hE1, hO.base (Nat.le_trans hW.size hE.size), fun b hb => Nat.le_trans hE.size (hO.lt hb).1⟩)),
 fun ρz wz hE hA _ ⟨⟨hO2, hfr2⟩, _⟩ => core_copy rfl rfl (o_assign rfl) ⟨hO2, hfr2⟩, trivial⟩ ?_
  intro ρ5 w5 hN hf hr
  obtain ⟨v4_, h4⟩ : ∃ v, ρ5 4 = v := ⟨_, rfl⟩
  have hq4 : (fun u wz => Own w0.heap.size 28 6 Claim.cells wz u z3 ∧ ∀ b, u.ownBlock = some b → w4.heap.size ≤ b) (ρ5 4) w5 := hf 3 rfl
  rw [h4] at hq4
  obtain ⟨hq4, hfr4⟩ := hq4
  obtain ⟨h1, h2, h3⟩ := k3 hr h1 h2 h3 rfl
  have Hb_b1_n := Hb_b1_.exn hN
  have hnb_O4_b1_ : v4_.ownBlock ≠ some b1_ := fun h => absurd Hb_b1_.lt (Nat.not_lt.2 (hfr4 _ h))
  have hW := hW.trans hN
  have O4 := hq4
  have Hb_b1_ := Hb_b1_n
  refine WP.seq ?_
  obtain ⟨c, hc, hF⟩ := obind hF
  obtain ⟨z4, hz4, hc⟩ := andB hc
  have hc := andE hc
  obtain ⟨c2, hc2, hF⟩ := obind hF
  obtain ⟨y, hy, hc2⟩ := andB hc2
  obtain ⟨ay, cy, hvy, hiy, hAy⟩ := RepSl.getFI (Own.rep (hn := fun _ => rfl) (G := noG) O4 (fun _ _ h => h)) hy
  have hc2 := andE hc2
  obtain ⟨c3, hc3, hF⟩ := obind hF
  obtain ⟨z5, hz5, hc3⟩ := andB hc3
  have hc3 := andE hc3
  obtain ⟨c4, hc4, hF⟩ := obind hF
  obtain ⟨z6, hz6, hc4⟩ := andB hc4
  have hc4 := andE hc4
  refine WP.rg mixed [[], [0], [1], [1, 2], [1, 3], [4], [5], [5, 6], [5, 7], [8], [9], [9, 10], [9, 11], [9, 12], [13], [14], [14, 15], [14, 16], [14], [14, 17, 18], [14, 19], [20], [21], [21, 22], [21, 23], [21, 24], [25], [26], [26, 27], [26, 28], [26, 29], [26, 30], [31]] [[], [0], [1], [1, 2], [1, 3], [4], [5], [5, 6], [5, 7], [8], [9], [9, 10], [9, 11], [9, 12], [13], [14], [14, 15], [14, 16], [14], [14, 17, 18], [14, 19], [20], [21], [21, 22], [21, 23], [21, 24], [25], [26], [26, 27], [26, 28], [26, 29], [26, 30], [31]] [[3], [], [2], [], [], [], [1], [], [], [], [4], [], [], [], [], [4], [], [], [1], [], [], [], [1], [], [], [], [], [1], [], [], [], [], []] [val 19 (.bool z2.2), val 20 (.bool z2.2), val 21 (gv (z2.2) (.int .i64 z2.1)), val 22 (gv (z2.2) (.bool (z2.1 == 1203))), val 23 (.bool (z2.2 && (z2.1 == 1203))), val 24 (.bool (z2.2 && (z2.1 == 1203))), val 25 (gv ((z2.2 && (z2.1 == 1203))) (Claim.val ({ (⟨1, 5, 2, 1, 0, 0⟩ : Claim) with Day := z.1 } : Claim))), val 26 (gv ((z2.2 && (z2.1 == 1203))) (.bool z4)), val 27 (.bool c), val 28 (.bool c), val 29 (gv (c) v4_), val 30 (gv (c) (.int .i64 (z3.length : Int))), val 31 (gv (c) (.bool ((z3.length : Int) == 1))), val 32 (.bool (c && ((z3.length : Int) == 1))), val 33 (.bool (c && ((z3.length : Int) == 1))), val 34 (gv ((c && ((z3.length : Int) == 1))) v4_), val 35 (gv ((c && ((z3.length : Int) == 1))) (.pointer (some (ay.add (Int.toNat 0 * 6))))), val 36 (gv ((c && ((z3.length : Int) == 1))) (Claim.val y)), val 37 (gv ((c && ((z3.length : Int) == 1))) (Claim.val ({ (⟨1, 5, 2, 1, 0, 0⟩ : Claim) with Day := z.1 } : Claim))), val 38 (gv ((c && ((z3.length : Int) == 1))) (.bool (Claim.eqb y ({ (⟨1, 5, 2, 1, 0, 0⟩ : Claim) with Day := z.1 } : Claim)))), val 39 (.bool c2), val 40 (.bool c2), val 41 (gv (c2) (Claim.val ({ (⟨1, 5, 2, 1, 0, 0⟩ : Claim) with Day := z.1 } : Claim))), (42, fun u wz => (c2) = true → (fun u wz => ∃ b, u = .slice (some ⟨b, 0, none⟩) 1 1 ∧ w5.heap.size ≤ b ∧ Mb wz b 28 (([({ (⟨1, 5, 2, 1, 0, 0⟩ : Claim) with Day := z.1 } : Claim)]).flatMap Claim.cells)) u wz), val 43 (gv (c2) (.bool z5)), val 44 (.bool c3), val 45 (.bool c3), val 46 (gv (c3) (Claim.val ({ (⟨1, 5, 2, 1, 0, 0⟩ : Claim) with Day := z.1 } : Claim))), (47, fun u wz => (c3) = true → (fun u wz => ∃ b, u = .slice (some ⟨b, 0, none⟩) 1 1 ∧ w5.heap.size ≤ b ∧ Mb wz b 28 (([({ (⟨1, 5, 2, 1, 0, 0⟩ : Claim) with Day := z.1 } : Claim)]).flatMap Claim.cells)) u wz), val 48 (gv (c3) (.bool z6)), val 49 (gv (c3) (.bool (!z6))), val 50 (.bool c4), val 0 (.bool c4)] (by kernel_rfl) ⟨sV, sV, sV, sV, sV, sV, sV, sV, sV, sV, sV, sV, sV, sV, sV, sV, sV, sV, sV, sV, sV, sV, sV, stabI (Φ := fun u wz => ∃ b, u = .slice (some ⟨b, 0, none⟩) 1 1 ∧ w5.heap.size ≤ b ∧ Mb wz b 28 (([({ (⟨1, 5, 2, 1, 0, 0⟩ : Claim) with Day := z.1 } : Claim)]).flatMap Claim.cells)) (fun _ _ _ hE ⟨b, hz, hs, hM⟩ => ⟨b, hz, hs, hM.exn hE⟩), sV, sV, sV, sV, stabI (Φ := fun u wz => ∃ b, u = .slice (some ⟨b, 0, none⟩) 1 1 ∧ w5.heap.size ≤ b ∧ Mb wz b 28 (([({ (⟨1, 5, 2, 1, 0, 0⟩ : Claim) with Day := z.1 } : Claim)]).flatMap Claim.cells)) (fun _ _ _ hE ⟨b, hz, hs, hM⟩ => ⟨b, hz, hs, hM.exn hE⟩), sV, sV, sV, sV, trivial⟩ ⟨mE rfl rfl h3,
 mU rfl rfl rfl,
 fun ρz wz hE hA ⟨e2, _⟩ ⟨u1, _⟩ => gIf rfl rfl (yT rfl u1) fun gc F hF => core_val rfl hF (o_move (e2.trans h2)),
 fun ρz wz hE hA _ ⟨u1, u2, _⟩ => gIf rfl rfl (yT rfl u1) fun gc F hF => core_val rfl hF (o_eql (gt gc u2) rfl rfl),
 fun ρz wz hE hA _ ⟨u1, u3, _⟩ => core_val rfl rfl (o_pick_and u1 u3 rfl),
 mU rfl rfl rfl,
 fun ρz wz hE hA ⟨e1, _⟩ ⟨u5, _⟩ => gIf rfl rfl (yT rfl u5) fun gc F hF => core_val rfl hF (o_load (e1.trans h1) (run_loadN (cs := (Claim.cells ({ (⟨1, 5, 2, 1, 0, 0⟩ : Claim) with Day := z.1 } : Claim))) (lr_28 _ _) rfl ((Hb_b1_.exn (hA rfl)).ca))),
 fun ρz wz hE hA _ ⟨u5, u6, _⟩ => gIf rfl rfl (yT rfl u5) fun gc F hF => core_call hF (call_args1 (gt gc u6)) cf_21 (decision_Valid_ok  _  (hz4 gc)),
 fun ρz wz hE hA _ ⟨u5, u7, _⟩ => core_valE rfl rfl (congrArg Value.bool hc) (o_pick_and u5 u7 rfl),
 mU rfl rfl rfl,
 fun ρz wz hE hA ⟨e4, _⟩ ⟨u9, _⟩ => gIf rfl rfl (yT rfl u9) fun gc F hF => core_val rfl hF (o_move (e4.trans h4)),
 fun ρz wz hE hA _ ⟨u9, u10, _⟩ => gIf rfl rfl (yT rfl u9) fun gc F hF => core_val rfl hF (o_len ((gt gc u10).trans (Own.shape O4).choose_spec.choose_spec.1) len_23),
 fun ρz wz hE hA _ ⟨u9, u11, _⟩ => gIf rfl rfl (yT rfl u9) fun gc F hF => core_val rfl hF (o_eql (gt gc u11) rfl rfl),
 fun ρz wz hE hA _ ⟨u9, u12, _⟩ => core_val rfl rfl (o_pick_and u9 u12 rfl),
 mU rfl rfl rfl,
 fun ρz wz hE hA ⟨e4, _⟩ ⟨u14, _⟩ => gIf rfl rfl (yT rfl u14) fun gc F hF => core_val rfl hF (o_move (e4.trans h4)),
 fun ρz wz hE hA _ ⟨u14, u15, _⟩ => gIf rfl rfl (yT rfl u14) fun gc F hF => core_val rfl hF (o_indexAddr ((gt gc u15).trans (hvy gc)) rfl (ia_23 (hiy gc))),
 fun ρz wz hE hA _ ⟨u14, u16, _⟩ => gIf rfl rfl (yT rfl u14) fun gc F hF => core_val rfl hF (o_load (gt gc u16) (run_loadN (cs := (Claim.cells y)) (lr_28 _ _) rfl (((hAy gc).exn (hA rfl)).ca))),
 fun ρz wz hE hA ⟨e1, _⟩ ⟨u14, _⟩ => gIf rfl rfl (yT rfl u14) fun gc F hF => core_val rfl hF (o_load (e1.trans h1) (run_loadN (cs := (Claim.cells ({ (⟨1, 5, 2, 1, 0, 0⟩ : Claim) with Day := z.1 } : Claim))) (lr_28 _ _) rfl ((Hb_b1_.exn (hA rfl)).ca))),
 fun ρz wz hE hA _ ⟨u14, u17, u18, _⟩ => gIf rfl rfl (yT rfl u14) fun gc F hF => core_val rfl hF (o_eqS (gt gc u17) (gt gc u18) (by kernel_rfl) (eqs_28 9998 _ _ _) rfl),
 fun ρz wz hE hA _ ⟨u14, u19, _⟩ => core_valE rfl rfl (congrArg Value.bool hc2) (o_pick_and u14 u19 rfl),
 mU rfl rfl rfl,
 fun ρz wz hE hA ⟨e1, _⟩ ⟨u21, _⟩ => gIf rfl rfl (yT rfl u21) fun gc F hF => core_val rfl hF (o_load (e1.trans h1) (run_loadN (cs := (Claim.cells ({ (⟨1, 5, 2, 1, 0, 0⟩ : Claim) with Day := z.1 } : Claim))) (lr_28 _ _) rfl ((Hb_b1_.exn (hA rfl)).ca))),
 fun ρz wz hE hA _ ⟨u21, u22, _⟩ => gIfR rfl (yT rfl u21) fun gc F hF => core_slice rfl hF hE (o_buildSlice (build_parts1 (gt gc u22)) (bs_23_1 _ _)),
 fun ρz wz hE hA _ ⟨u21, u23, _⟩ => gIf rfl rfl (yT rfl u21) fun gc F hF => let ⟨bz23, hz23, hge23, hM23⟩ := u23 gc; core_call hF (call_args5 rfl hz23 rfl rfl rfl) cf_16 (decision_Entitled_ok  _ _ _ _ _ (RepSl.nil _ noG _).no (Mb.rep (n := 6) (cells := Claim.cells) (hn := fun _ => rfl) (G := noG) hM23 rfl (Nat.le_of_ble_eq_true rfl) (fun h => h)).no (hz5 gc)),
 fun ρz wz hE hA _ ⟨u21, u24, _⟩ => core_valE rfl rfl (congrArg Value.bool hc3) (o_pick_and u21 u24 rfl),
 mU rfl rfl rfl,
 fun ρz wz hE hA ⟨e1, _⟩ ⟨u26, _⟩ => gIf rfl rfl (yT rfl u26) fun gc F hF => core_val rfl hF (o_load (e1.trans h1) (run_loadN (cs := (Claim.cells ({ (⟨1, 5, 2, 1, 0, 0⟩ : Claim) with Day := z.1 } : Claim))) (lr_28 _ _) rfl ((Hb_b1_.exn (hA rfl)).ca))),
 fun ρz wz hE hA _ ⟨u26, u27, _⟩ => gIfR rfl (yT rfl u26) fun gc F hF => core_slice rfl hF hE (o_buildSlice (build_parts1 (gt gc u27)) (bs_23_1 _ _)),
 fun ρz wz hE hA _ ⟨u26, u28, _⟩ => gIf rfl rfl (yT rfl u26) fun gc F hF => let ⟨bz28, hz28, hge28, hM28⟩ := u28 gc; core_call hF (call_args5 rfl hz28 rfl rfl rfl) cf_16 (decision_Entitled_ok  _ _ _ _ _ (RepSl.nil _ noG _).no (Mb.rep (n := 6) (cells := Claim.cells) (hn := fun _ => rfl) (G := noG) hM28 rfl (Nat.le_of_ble_eq_true rfl) (fun h => h)).no (hz6 gc)),
 fun ρz wz hE hA _ ⟨u26, u29, _⟩ => gIf rfl rfl (yT rfl u26) fun gc F hF => core_val rfl hF (o_not (gt gc u29) rfl),
 fun ρz wz hE hA _ ⟨u26, u30, _⟩ => core_valE rfl rfl (congrArg Value.bool hc4) (o_pick_and u26 u30 rfl),
 aU rfl rfl rfl, trivial⟩ ?_
  intro ρ6 w6 hN hf hr
  have h0 : ρ6 0 = .bool c4 := hf 32 rfl
  have Oo_O4 := O4
  have hW := hW.trans hN
  refine WP.ret ?_
  show retQ Tryz.prog 51 Tryz.f10 (fun v w1 => v = .bool r ∧ Ext noG w0 w1) .ret ρ6 w6
  obtain rfl := Option.some.inj hF
  exact res1 rfl (by decide) h0 ⟨rfl, hW⟩

set_option maxHeartbeats 4000000 in
theorem pensionlaw26_Turn_ok {w0 : World} (l_ : List Claim) (by_ : Int) {v_l_ : Value} (H_l_ : RepSl Claim.R noG w0 v_l_ l_) {r : (List Claim)} (hF : pensionlaw26_Turn l_ by_ = some r) :
    Calls Tryz.prog 13 #[v_l_, .int .i64 by_] w0 fun e w1 => ∃ v, e = .returned v ∧ Ext noG w0 w1 ∧ Own w0.heap.size 28 6 Claim.cells w1 v r := by
  refine (Calls.start (P := Tryz.prog) (args := [v_l_, .int .i64 by_]) (R := fun v w1 => Own w0.heap.size 28 6 Claim.cells w1 v r ∧ Ext noG w0 w1) (n := 27) (w := w0) Tryz.func13 rfl rfl (Nat.le_of_ble_eq_true rfl) (fun ρ hargs => ?_)).mono (fun e w1 ⟨v, he, hv, hE⟩ => ⟨v, he, hE, hv⟩)
  have h0 := hargs 0 _ rfl
  have h1 := hargs 1 _ rfl
  have hW := Ext.refl noG w0
  obtain ⟨_, _, hs_H_l_, _, _⟩ := RepSl.shape H_l_
  have H_l_ := H_l_.start
  rw [pensionlaw26_Turn] at hF
  refine WP.seq (WP.rb mixed [[]] [[]] [(4, .slice none 0 0)] (by kernel_rfl) ⟨aC rfl rfl (fun _ => rfl), trivial⟩ ?_)
  intro ρ1 w1 hN hf hr
  obtain ⟨h0, h1⟩ := k2 hr h0 h1 rfl
  have H_l_ := H_l_.exn hN
  have hW := hW.trans hN
  refine WP.seq (WP.seq (WP.rb mixed [[], [0], [1]] [[0], [], []] [(6, v_l_), (7, .int .i64 (l_.length : Int)), (8, .bool ((l_.length : Int) == 0))] (by kernel_rfl) ⟨mE rfl rfl h0,
 fun ρz wz hE hA _ ⟨u0, _⟩ => core_val rfl rfl (o_len (u0.trans hs_H_l_) len_23),
 fun ρz wz hE hA _ ⟨u1, _⟩ => core_val rfl rfl (o_eql u1 rfl rfl), trivial⟩ ?_))
  intro ρ2 w2 hN hf hr
  have h8 := hv hf 2 rfl rfl
  obtain ⟨h0, h1⟩ := k2 hr h0 h1 rfl
  have H_l_ := H_l_.exn hN
  have hW := hW.trans hN
  refine WP.cond rfl h8 (fun hb => ?_) (fun hb => ?_)
  · have hF := (if_pos hb).symm.trans hF
    refine WP.seq (WP.rb mixed [[]] [[]] [(4, .slice none 0 0)] (by kernel_rfl) ⟨aC rfl rfl (fun _ => rfl), trivial⟩ ?_)
    intro ρ3 w3 hN hf hr
    have h4 : ρ3 4 = .slice none 0 0 := hf 0 rfl
    have O4 : Own w0.heap.size 28 6 Claim.cells w3 (.slice none 0 0) [] := Own.nil _ _ _ _ _
    have hW := hW.trans hN
    refine WP.ret ?_
    show retQ Tryz.prog 27 Tryz.f13 (fun v w1 => Own w0.heap.size 28 6 Claim.cells w1 v r ∧ Ext noG w0 w1) .ret ρ3 w3
    obtain rfl := Option.some.inj hF
    exact res1 rfl (by decide) h4 ⟨O4, hW⟩
  have hF := (if_neg (Bool.eq_false_iff.1 hb)).symm.trans hF
  refine WP.skip (WP.seq ?_)
  obtain ⟨z, hz, hF⟩ := obind hF
  refine WP.rb mixed [[], [], [1], [0, 2], [3]] [[1], [0], [], [], []] [(9, .int .i64 by_), (10, v_l_), (11, .int .i64 (l_.length : Int)), (12, .int .i64 z), (5, .int .i64 z)] (by kernel_rfl) ⟨mE rfl rfl h1,
 mE rfl rfl h0,
 fun ρz wz hE hA _ ⟨u1, _⟩ => core_val rfl rfl (o_len (u1.trans hs_H_l_) len_23),
 fun ρz wz hE hA _ ⟨u0, u2, _⟩ => core_call rfl (call_args2 u0 u2) cf_15 (pensionplain_Mod_ok  _ _  hz),
 aU rfl rfl rfl, trivial⟩ ?_
  intro ρ4 w4 hN hf hr
  have h5 := hv hf 4 rfl rfl
  have h0 := (hr 0 rfl).trans h0
  have H_l_ := H_l_.exn hN
  have hW := hW.trans hN
  refine WP.seq ?_
  obtain ⟨s, hs, hF⟩ := obind hF
  obtain ⟨l, hl, hF⟩ := obind hF
  obtain ⟨s2, hs2, hF⟩ := obind hF
  obtain ⟨l2, hl2, hF⟩ := obind hF
  obtain ⟨y, hy, hF⟩ := obind hF
  obtain ⟨ay, cy, hvy, hiy, hAy⟩ := RepSl.getF H_l_ hy
  obtain ⟨l3, hl3, hF⟩ := obind hF
  refine WP.regionN mixed ⟨[[], [], [0, 1], [2], [], [], [4, 5], [3, 6], [], [], [8, 9], [10], [11], [7, 12], [7, 13]], [[], [], [0, 1], [2], [], [], [4, 5], [3, 6], [], [], [8, 9], [10], [11], [7, 12], [13]], [[0], [5], [], [], [0], [5], [], [], [0], [5], [], [], [], [], []], [7, 13], [(7, 13), (3, 7), (12, 13)], [(3, 16), (12, 25)], [(7, 16)]⟩ [val 13 (v_l_), val 14 (.int .i64 z), (15, fun u wz => RepSl Claim.R (gfr noG w0) wz u s), (16, fun u wz => Own w0.heap.size 28 6 Claim.cells wz u l ∧ ∀ b, u.ownBlock = some b → w4.heap.size ≤ b), val 17 (v_l_), val 18 (.int .i64 z), (19, fun u wz => RepSl Claim.R (gfr noG w0) wz u s2), (20, fun u wz => Own w0.heap.size 28 6 Claim.cells wz u l2 ∧ ∀ b, u.ownBlock = some b → w4.heap.size ≤ b), val 21 (v_l_), val 22 (.int .i64 z), val 23 (.pointer (some (ay.add (Int.toNat z * 6)))), val 24 (Claim.val y), (25, fun u wz => ∃ b, u = .slice (some ⟨b, 0, none⟩) 1 1 ∧ w4.heap.size ≤ b ∧ Mb wz b 28 (([y]).flatMap Claim.cells)), (26, fun u wz => Own w0.heap.size 28 6 Claim.cells wz u l3 ∧ ∀ b, u.ownBlock = some b → w4.heap.size ≤ b), (4, fun u wz => Own w0.heap.size 28 6 Claim.cells wz u l3 ∧ ∀ b, u.ownBlock = some b → w4.heap.size ≤ b)] (fun b => w4.heap.size ≤ b) (by kernel_rfl) (.inr (fun _ h => h)) ⟨sV, sV, fun _ _ _ hE h => h.over hE (fun _ hb => Nat.le_trans hW.size hb), TStable.own, sV, sV, fun _ _ _ hE h => h.over hE (fun _ hb => Nat.le_trans hW.size hb), fun _ _ _ hE ⟨hO, hf⟩ => ⟨hO.exn hE, hf⟩, sV, sV, sV, sV, TStable.nsl, fun _ _ _ hE ⟨hO, hf⟩ => ⟨hO.exn hE, hf⟩, fun _ _ _ hE ⟨hO, hf⟩ => ⟨hO.exn hE, hf⟩, trivial⟩ ⟨fun ρz wz hE hA ⟨e0, _⟩ _ => core_val rfl rfl (o_move (e0.trans h0)),
 fun ρz wz hE hA ⟨e5, _⟩ _ => core_val rfl rfl (o_move (e5.trans h5)),
 fun ρz wz hE hA _ ⟨u0, u1, _⟩ => core_cut (R := Claim.R) rfl u0 si_23 sz_28 (H_l_.over hE (fun _ h => Nat.le_trans hW.size h)) hs (.inr (congrArg some u1)) (.inl ⟨rfl, rfl⟩) (fun _ h => h),
 fun ρz wz hE hA _ ⟨hR2, _⟩ => core_appendNN (n := 6) (cells := Claim.cells) (B := w0.heap.size) (w0 := w4) rfl  rfl rfl (fun _ => rfl) one_28 si_23 se_28 (by decide) (by decide) (Own.nil w0.heap.size 28 6 Claim.cells wz) ⟨_, hR2⟩ hl (Nat.le_trans hW.size hE.size) hE.size (fun v1 w1 h1 h2 => ⟨h1, fun b hb => (h2 b hb).resolve_left (by simp [Value.ownBlock])⟩),
 fun ρz wz hE hA ⟨e0, _⟩ _ => core_val rfl rfl (o_move (e0.trans h0)),
 fun ρz wz hE hA ⟨e5, _⟩ _ => core_val rfl rfl (o_move (e5.trans h5)),
 fun ρz wz hE hA _ ⟨u4, u5, _⟩ => core_cut (R := Claim.R) rfl u4 si_23 sz_28 (H_l_.over hE (fun _ h => Nat.le_trans hW.size h)) hs2 (.inl ⟨rfl, rfl⟩) (.inr (congrArg some u5)) (fun _ h => h),
 fun ρz wz hE hA _ ⟨⟨hO3, hfr3⟩, hR6, _⟩ => core_appendT (d0 := 16) (n := 6) (cells := Claim.cells) (B := w0.heap.size) (w0 := w4) rfl rfl (fun _ => rfl) one_28 si_23 se_28 (by decide) (by decide) hO3 ⟨_, hR6⟩ hl2 (Nat.le_trans hW.size hE.size) hE.size (fun v1 w1 h1 h2 => ⟨h1, fun b hb => (h2 b hb).elim (hfr3 b) id⟩),
 fun ρz wz hE hA ⟨e0, _⟩ _ => core_val rfl rfl (o_move (e0.trans h0)),
 fun ρz wz hE hA ⟨e5, _⟩ _ => core_val rfl rfl (o_move (e5.trans h5)),
 fun ρz wz hE hA _ ⟨u8, u9, _⟩ => core_val rfl rfl (o_indexAddr (u8.trans hvy) u9 (ia_23 hiy)),
 fun ρz wz hE hA _ ⟨u10, _⟩ => core_val rfl rfl (o_load u10 (run_loadN (cs := (Claim.cells y)) (lr_28 _ _) rfl ((hAy.exn hE.fresh).ca))),
 fun ρz wz hE hA _ ⟨u11, _⟩ => core_sliceN rfl rfl rfl hE (o_buildSlice (build_parts1 u11) (bs_23_1 _ _)),
 fun ρz wz hE hA _ ⟨⟨hO7, hfr7⟩, ⟨bz12, hz12, hge12, hM12⟩, _⟩ => core_append (n := 6) (cells := Claim.cells) (B := w0.heap.size) (w0 := w4) rfl rfl (fun b hb => hfr7 b hb) rfl hz12 (fun _ => rfl) one_28 si_23 se_28 (by decide) (by decide) hO7 ⟨_, (Mb.rep (n := 6) (cells := Claim.cells) (hn := fun _ => rfl) (G := noG) hM12 rfl (Nat.le_of_ble_eq_true rfl) (fun h => h))⟩ hl3 (Nat.le_trans hW.size hE.size) hE.size (fun v1 w1 h1 h2 => ⟨h1, fun b hb => (h2 b hb).elim (hfr7 b) id⟩),
 fun ρz wz hE hA _ ⟨⟨hO13, hfr13⟩, _⟩ => core_copy rfl rfl (o_assign rfl) ⟨hO13, hfr13⟩, trivial⟩ ?_
  intro ρ5 w5 hE hN hf hr hdist
  have hN := hE.fresh
  obtain ⟨v4_, h4⟩ : ∃ v, ρ5 4 = v := ⟨_, rfl⟩
  have hq4 : (fun u wz => Own w0.heap.size 28 6 Claim.cells wz u l3 ∧ ∀ b, u.ownBlock = some b → w4.heap.size ≤ b) (ρ5 4) w5 := hf 14 rfl
  rw [h4] at hq4
  obtain ⟨hq4, hfr4⟩ := hq4
  have hW := hW.trans hN
  have O4 := hq4
  refine WP.ret ?_
  show retQ Tryz.prog 27 Tryz.f13 (fun v w1 => Own w0.heap.size 28 6 Claim.cells w1 v r ∧ Ext noG w0 w1) .ret ρ5 w5
  obtain rfl := Option.some.inj hF
  exact res1 rfl (by decide) h4 ⟨O4, hW⟩

set_option maxHeartbeats 4000000 in
theorem pensionplain_Same_of_api_Claim_ok {w0 : World} (a_ : List Claim) (b_ : List Claim) {v_a_ : Value} (H_a_ : RepSl Claim.R noG w0 v_a_ a_) {v_b_ : Value} (H_b_ : RepSl Claim.R noG w0 v_b_ b_) {r : Bool} (hF : pensionplain_Same_of_api_Claim a_ b_ = some r) :
    Calls Tryz.prog 11 #[v_a_, v_b_] w0 fun e w1 => e = .returned (.bool r) ∧ Ext noG w0 w1 := by
  refine (Calls.start (P := Tryz.prog) (args := [v_a_, v_b_]) (R := fun v w1 => v = .bool r ∧ Ext noG w0 w1) (n := 26) (w := w0) Tryz.func11 rfl rfl (Nat.le_of_ble_eq_true rfl) (fun ρ hargs => ?_)).mono (fun e w1 ⟨v, he, hv, hE⟩ => ⟨hv ▸ he, hE⟩)
  have h0 := hargs 0 _ rfl
  have h1 := hargs 1 _ rfl
  have hW := Ext.refl noG w0
  obtain ⟨_, _, hs_H_a_, _, _⟩ := RepSl.shape H_a_
  have H_a_ := H_a_.start
  obtain ⟨_, _, hs_H_b_, _, _⟩ := RepSl.shape H_b_
  have H_b_ := H_b_.start
  rw [pensionplain_Same_of_api_Claim] at hF
  refine WP.seq (WP.rb mixed [[]] [[]] [(4, .bool false)] (by kernel_rfl) ⟨aC rfl rfl (fun _ => rfl), trivial⟩ ?_)
  intro ρ1 w1 hN hf hr
  obtain ⟨h0, h1⟩ := k2 hr h0 h1 rfl
  have H_a_ := H_a_.exn hN
  have H_b_ := H_b_.exn hN
  have hW := hW.trans hN
  refine WP.seq (WP.seq (WP.rb mixed [[], [0], [], [2], [1, 3]] [[0], [], [1], [], []] [(6, v_a_), (7, .int .i64 (a_.length : Int)), (8, v_b_), (9, .int .i64 (b_.length : Int)), (10, .bool ((a_.length : Int) != (b_.length : Int)))] (by kernel_rfl) ⟨mE rfl rfl h0,
 fun ρz wz hE hA _ ⟨u0, _⟩ => core_val rfl rfl (o_len (u0.trans hs_H_a_) len_23),
 mE rfl rfl h1,
 fun ρz wz hE hA _ ⟨u2, _⟩ => core_val rfl rfl (o_len (u2.trans hs_H_b_) len_23),
 fun ρz wz hE hA _ ⟨u1, u3, _⟩ => core_val rfl rfl (o_neq u1 u3 rfl), trivial⟩ ?_))
  intro ρ2 w2 hN hf hr
  have h10 := hv hf 4 rfl rfl
  obtain ⟨h0, h1⟩ := k2 hr h0 h1 rfl
  have H_a_ := H_a_.exn hN
  have H_b_ := H_b_.exn hN
  have hW := hW.trans hN
  refine WP.cond rfl h10 (fun hb => ?_) (fun hb => ?_)
  · have hF := (if_pos hb).symm.trans hF
    refine WP.seq (WP.rb mixed [[]] [[]] [(4, .bool false)] (by kernel_rfl) ⟨aC rfl rfl (fun _ => rfl), trivial⟩ ?_)
    intro ρ3 w3 hN hf hr
    have h4 := hv hf 0 rfl rfl
    have hW := hW.trans hN
    refine WP.ret ?_
    show retQ Tryz.prog 26 Tryz.f11 (fun v w1 => v = .bool r ∧ Ext noG w0 w1) .ret ρ3 w3
    obtain rfl := Option.some.inj hF
    exact res1 rfl (by decide) h4 ⟨rfl, hW⟩
  have hF := (if_neg (Bool.eq_false_iff.1 hb)).symm.trans hF
  refine WP.skip (WP.seq (WP.seq (WP.rb mixed [[]] [[]] [(5, .int .i64 0)] (by kernel_rfl) ⟨aC rfl rfl (fun _ => rfl), trivial⟩ ?_)))
  intro ρ4 w4 hN hf hr
  have h5 := hv hf 0 rfl rfl
  obtain ⟨h0, h1⟩ := k2 hr h0 h1 rfl
  have H_a_ := H_a_.exn hN
  have H_b_ := H_b_.exn hN
  have hW := hW.trans hN
  refine WP.block (WP.loop (fun k_ ρ w => ∃ i_ : Int, ρ 0 = v_a_ ∧ ρ 1 = v_b_ ∧ ρ 5 = .int .i64 i_ ∧ RepSl Claim.R (gfr noG w0) w v_a_ a_ ∧ RepSl Claim.R (gfr noG w0) w v_b_ b_ ∧ Ext noG w0 w ∧ loopC k_ (pensionplain_Same_of_api_Claim_l a_ b_) i_ = some r) FU ⟨0, h0, h1, h5, H_a_, H_b_, hW, hF⟩ (fun _ _ h => by obtain ⟨_, _, _, _, _, _, _, h⟩ := h; cases h) ?_)
  rintro k_ ρ5 w5 ⟨i_, h0, h1, h5, H_a_, H_b_, hW, hF⟩
  have hF : pensionplain_Same_of_api_Claim_l a_ b_ (loopC k_ (pensionplain_Same_of_api_Claim_l a_ b_)) i_ = some r := hF
  generalize hrec_ : loopC k_ (pensionplain_Same_of_api_Claim_l a_ b_) = rec_ at hF
  rw [pensionplain_Same_of_api_Claim_l] at hF
  refine WP.seq (WP.seq (WP.rb mixed [[], [], [1], [0, 2]] [[5], [0], [], []] [(11, .int .i64 i_), (12, v_a_), (13, .int .i64 (a_.length : Int)), (14, .bool (decide (i_ < (a_.length : Int))))] (by kernel_rfl) ⟨mE rfl rfl h5,
 mE rfl rfl h0,
 fun ρz wz hE hA _ ⟨u1, _⟩ => core_val rfl rfl (o_len (u1.trans hs_H_a_) len_23),
 fun ρz wz hE hA _ ⟨u0, u2, _⟩ => core_val rfl rfl (o_lss u0 u2 rfl), trivial⟩ ?_))
  intro ρ6 w6 hN hf hr
  have h14 := hv hf 3 rfl rfl
  obtain ⟨h0, h1, h5⟩ := k3 hr h0 h1 h5 rfl
  have H_a_ := H_a_.exn hN
  have H_b_ := H_b_.exn hN
  have hW := hW.trans hN
  refine WP.cond rfl h14 (fun hb => ?_) (fun hb => ?_)
  · have hF := (if_pos hb).symm.trans hF
    refine WP.skip (WP.seq (WP.block (WP.seq ?_)))
    obtain ⟨y, hy, hF⟩ := obind hF
    obtain ⟨ay, cy, hvy, hiy, hAy⟩ := RepSl.getF H_a_ hy
    obtain ⟨y2, hy2, hF⟩ := obind hF
    obtain ⟨ay2, cy2, hvy2, hiy2, hAy2⟩ := RepSl.getF H_b_ hy2
    refine WP.rb mixed [[], [], [0, 1], [2], [], [], [4, 5], [6], [3, 7]] [[0], [5], [], [], [1], [5], [], [], []] [(17, v_a_), (18, .int .i64 i_), (19, .pointer (some (ay.add (Int.toNat i_ * 6)))), (20, Claim.val y), (21, v_b_), (22, .int .i64 i_), (23, .pointer (some (ay2.add (Int.toNat i_ * 6)))), (24, Claim.val y2), (25, .bool (!Claim.eqb y y2))] (by kernel_rfl) ⟨mE rfl rfl h0,
 mE rfl rfl h5,
 fun ρz wz hE hA _ ⟨u0, u1, _⟩ => core_val rfl rfl (o_indexAddr (u0.trans hvy) u1 (ia_23 hiy)),
 fun ρz wz hE hA _ ⟨u2, _⟩ => core_val rfl rfl (o_load u2 (run_loadN (cs := (Claim.cells y)) (lr_28 _ _) rfl ((hAy.exn (hA rfl)).ca))),
 mE rfl rfl h1,
 mE rfl rfl h5,
 fun ρz wz hE hA _ ⟨u4, u5, _⟩ => core_val rfl rfl (o_indexAddr (u4.trans hvy2) u5 (ia_23 hiy2)),
 fun ρz wz hE hA _ ⟨u6, _⟩ => core_val rfl rfl (o_load u6 (run_loadN (cs := (Claim.cells y2)) (lr_28 _ _) rfl ((hAy2.exn (hA rfl)).ca))),
 fun ρz wz hE hA _ ⟨u3, u7, _⟩ => core_val rfl rfl (o_neS u3 u7 (by kernel_rfl) (eqs_28 9998 _ _ _) rfl), trivial⟩ ?_
    intro ρ7 w7 hN hf hr
    have h25 := hv hf 8 rfl rfl
    obtain ⟨h0, h1, h5⟩ := k3 hr h0 h1 h5 rfl
    have H_a_ := H_a_.exn hN
    have H_b_ := H_b_.exn hN
    have hW := hW.trans hN
    refine WP.cond rfl h25 (fun hb => ?_) (fun hb => ?_)
    · have hF := (if_pos hb).symm.trans hF
      refine WP.seq (WP.rb mixed [[]] [[]] [(4, .bool false)] (by kernel_rfl) ⟨aC rfl rfl (fun _ => rfl), trivial⟩ ?_)
      intro ρ8 w8 hN hf hr
      have h4 := hv hf 0 rfl rfl
      have hW := hW.trans hN
      refine WP.ret ?_
      show retQ Tryz.prog 26 Tryz.f11 (fun v w1 => v = .bool r ∧ Ext noG w0 w1) .ret ρ8 w8
      obtain rfl := Option.some.inj hF
      exact res1 rfl (by decide) h4 ⟨rfl, hW⟩
    have hF := (if_neg (Bool.eq_false_iff.1 hb)).symm.trans hF
    refine WP.skip (WP.rv mixed [[], [0], [0, 1]] [[], [0], [1]] [[5], [], []] [(15, .int .i64 i_), (16, .int .i64 (i64 (i_ + 1))), (5, .int .i64 (i64 (i_ + 1)))] (by kernel_rfl) ⟨mE rfl rfl h5,
 fun ρz wz hE hA _ ⟨u0, _⟩ => core_val rfl rfl (o_add u0 rfl rfl),
 aU rfl rfl rfl, trivial⟩ ?_)
    intro ρ9 w9 hN hf hr
    have h5 := hv hf 2 rfl rfl
    obtain ⟨h0, h1⟩ := k2 hr h0 h1 rfl
    have H_a_ := H_a_.exn hN
    have H_b_ := H_b_.exn hN
    have hW := hW.trans hN
    exact ⟨i64 (i_ + 1), h0, h1, h5, H_a_, H_b_, hW, (by first | exact hF | (rw [hrec_]; exact hF))⟩
  have hF := (if_neg (Bool.eq_false_iff.1 hb)).symm.trans hF
  refine WP.exit (thenQ_exit (thenQ_exit (blockQ_hit (WP.seq (WP.rb mixed [[]] [[]] [(4, .bool true)] (by kernel_rfl) ⟨aC rfl rfl (fun _ => rfl), trivial⟩ ?_)))))
  intro ρ10 w10 hN hf hr
  have h4 := hv hf 0 rfl rfl
  have hW := hW.trans hN
  refine WP.ret ?_
  show retQ Tryz.prog 26 Tryz.f11 (fun v w1 => v = .bool r ∧ Ext noG w0 w1) .ret ρ10 w10
  obtain rfl := Option.some.inj hF
  exact res1 rfl (by decide) h4 ⟨rfl, hW⟩

set_option maxHeartbeats 4000000 in
theorem pensionlaw26_DecisionSelectIgnoresOrder_ok {w0 : World} (r_ : List pensionhand_Claim) (raw_ : List Claim) (day_ : Int) (person_ : Int) (month_ : Int) (by_ : Int) {v_r_ : Value} (H_r_ : RepSl pensionhand_Claim.R noG w0 v_r_ r_) {v_raw_ : Value} (H_raw_ : RepSl Claim.R noG w0 v_raw_ raw_) {r : Bool} (hF : pensionlaw26_DecisionSelectIgnoresOrder r_ raw_ day_ person_ month_ by_ = some r) :
    Calls Tryz.prog 3 #[v_r_, v_raw_, .int .i64 day_, .int .i64 person_, .int .i64 month_, .int .i64 by_] w0 fun e w1 => e = .returned (.bool r) ∧ Ext noG w0 w1 := by
  refine (Calls.start (P := Tryz.prog) (args := [v_r_, v_raw_, .int .i64 day_, .int .i64 person_, .int .i64 month_, .int .i64 by_]) (R := fun v w1 => v = .bool r ∧ Ext noG w0 w1) (n := 62) (w := w0) Tryz.func3 rfl rfl (Nat.le_of_ble_eq_true rfl) (fun ρ hargs => ?_)).mono (fun e w1 ⟨v, he, hv, hE⟩ => ⟨hv ▸ he, hE⟩)
  have h0 := hargs 0 _ rfl
  have h1 := hargs 1 _ rfl
  have h2 := hargs 2 _ rfl
  have h3 := hargs 3 _ rfl
  have h4 := hargs 4 _ rfl
  have h5 := hargs 5 _ rfl
  have hW := Ext.refl noG w0
  obtain ⟨_, _, hs_H_r_, _, _⟩ := RepSl.shape H_r_
  have H_r_ := H_r_.start
  obtain ⟨_, _, hs_H_raw_, _, _⟩ := RepSl.shape H_raw_
  have H_raw_ := H_raw_.start
  rw [pensionlaw26_DecisionSelectIgnoresOrder] at hF
  refine WP.seq (WP.rb mixed [[]] [[]] [(12, .bool false)] (by kernel_rfl) ⟨aC rfl rfl (fun _ => rfl), trivial⟩ ?_)
  intro ρ1 w1 hN hf hr
  obtain ⟨h0, h1, h2, h3, h4, h5⟩ := k6 hr h0 h1 h2 h3 h4 h5 rfl
  have H_r_ := H_r_.exn hN
  have H_raw_ := H_raw_.exn hN
  have hW := hW.trans hN
  refine WP.seq ?_
  obtain ⟨z, hz, hF⟩ := obind hF
  obtain ⟨z2, hz2, hF⟩ := obind hF
  obtain ⟨l, hl, hF⟩ := obind hF
  refine WP.region mixed [[], [0], [], [2], [1, 3], [4]] [[], [0], [], [2], [1, 3], [4]] [[0], [], [2], [], [], []] [4] [(1, 4), (3, 4)] [val 18 (v_r_), (19, fun u wz => Own w0.heap.size 28 6 Claim.cells wz u z ∧ ∀ b, u.ownBlock = some b → w1.heap.size ≤ b), val 20 (.int .i64 day_), (21, fun u wz => Own w0.heap.size 28 6 Claim.cells wz u z2 ∧ ∀ b, u.ownBlock = some b → w1.heap.size ≤ b), (22, fun u wz => Own w0.heap.size 28 6 Claim.cells wz u l ∧ ∀ b, u.ownBlock = some b → w1.heap.size ≤ b), (13, fun u wz => Own w0.heap.size 28 6 Claim.cells wz u l ∧ ∀ b, u.ownBlock = some b → w1.heap.size ≤ b)] (fun b => w1.heap.size ≤ b) (by kernel_rfl) ⟨sV, fun _ _ _ hE ⟨hO, hf⟩ => ⟨hO.exn hE, hf⟩, sV, fun _ _ _ hE ⟨hO, hf⟩ => ⟨hO.exn hE, hf⟩, fun _ _ _ hE ⟨hO, hf⟩ => ⟨hO.exn hE, hf⟩, fun _ _ _ hE ⟨hO, hf⟩ => ⟨hO.exn hE, hf⟩, trivial⟩ ⟨mE rfl rfl h0,
 fun ρz wz hE hA _ ⟨u0, _⟩ => core_callR rfl (call_args1 u0) cf_5 ((pensionhand_Claims_ok  _ (H_r_.over hE (fun _ h => Nat.le_trans hW.size h)).no hz).mono (fun e w1 ⟨v, he, hE1, hO⟩ => ⟨v, he, hE1, hO.base (Nat.le_trans hW.size hE.size), fun b hb => Nat.le_trans hE.size (hO.lt hb).1⟩)),
 mE rfl rfl h2,
 fun ρz wz hE hA _ ⟨u2, _⟩ => core_callR rfl (call_args1 u2) cf_6 ((pensionhand_All_ok  _  hz2).mono (fun e w1 ⟨v, he, hE1, hO⟩ => ⟨v, he, hE1, hO.base (Nat.le_trans hW.size hE.size), fun b hb => Nat.le_trans hE.size (hO.lt hb).1⟩)),
 fun ρz wz hE hA _ ⟨⟨hO1, hfr1⟩, ⟨hO3, hfr3⟩, _⟩ => core_append (n := 6) (cells := Claim.cells) (B := w0.heap.size) (w0 := w1) rfl rfl (fun b hb => hfr1 b hb) rfl rfl (fun _ => rfl) one_28 si_23 se_28 (by decide) (by decide) hO1 ⟨_, (hO3.rep (hn := fun _ => rfl) (G := noG) (fun _ _ h => h))⟩ hl (Nat.le_trans hW.size hE.size) hE.size (fun v1 w1 h1 h2 => ⟨h1, fun b hb => (h2 b hb).elim (hfr1 b) id⟩),
 fun ρz wz hE hA _ ⟨⟨hO4, hfr4⟩, _⟩ => core_copy rfl rfl (o_assign rfl) ⟨hO4, hfr4⟩, trivial⟩ ?_
  intro ρ2 w2 hE hN hf hr
  have hN := hE.fresh
  obtain ⟨v13_, h13⟩ : ∃ v, ρ2 13 = v := ⟨_, rfl⟩
  have hq13 : (fun u wz => Own w0.heap.size 28 6 Claim.cells wz u l ∧ ∀ b, u.ownBlock = some b → w1.heap.size ≤ b) (ρ2 13) w2 := hf 5 rfl
  rw [h13] at hq13
  obtain ⟨hq13, hfr13⟩ := hq13
  obtain ⟨h1, h3, h4, h5⟩ := k4 hr h1 h3 h4 h5 rfl
  have H_raw_ := H_raw_.exn hN
  have hW := hW.trans hN
  have Hf13 : RepSl Claim.R (gov noG (.slice none 0 0)) w2 v13_ l := hq13.rep (fun b hb hg => hg.elim id (fun h2 => by simp [Value.ownBlock] at h2))
  obtain ⟨_, _, hs_Hf13, _, _⟩ := RepSl.shape Hf13
  refine WP.seq (WP.rb mixed [[]] [[]] [(14, .slice none 0 0)] (by kernel_rfl) ⟨aC rfl rfl (fun _ => rfl), trivial⟩ ?_)
  intro ρ3 w3 hN hf hr
  have h14 : ρ3 14 = .slice none 0 0 := hf 0 rfl
  have O14 : Own w0.heap.size 28 6 Claim.cells w3 (.slice none 0 0) [] := Own.nil _ _ _ _ _
  obtain ⟨h1, h3, h4, h5, h13⟩ := k5 hr h1 h3 h4 h5 h13 rfl
  have H_raw_ := H_raw_.exn hN
  have Hf13 := Hf13.exn hN
  have hW := hW.trans hN
  refine WP.seq (WP.seq (WP.rb mixed [[]] [[]] [(15, .int .i64 0)] (by kernel_rfl) ⟨aC rfl rfl (fun _ => rfl), trivial⟩ ?_))
  intro ρ4 w4 hN hf hr
  have h15 := hv hf 0 rfl rfl
  obtain ⟨h1, h3, h4, h5, h13, h14⟩ := k6 hr h1 h3 h4 h5 h13 h14 rfl
  have Oo_O14 := O14
  have H_raw_ := H_raw_.exn hN
  have Hf13 := Hf13.exn hN
  have hW := hW.trans hN
  have O14 := O14.exn hN
  refine WP.block (WP.loop (fun k_ ρ w => ∃ bad_ : List Claim, ∃ i_ : Int, ∃ v14_ : Value, ρ 1 = v_raw_ ∧ ρ 3 = .int .i64 person_ ∧ ρ 4 = .int .i64 month_ ∧ ρ 5 = .int .i64 by_ ∧ ρ 13 = v13_ ∧ ρ 14 = v14_ ∧ ρ 15 = .int .i64 i_ ∧ RepSl Claim.R (gfr noG w0) w v_raw_ raw_ ∧ RepSl Claim.R (gov noG v14_) w v13_ l ∧ Own w0.heap.size 28 6 Claim.cells w v14_ bad_ ∧ Ext noG w0 w ∧ loopC k_ (pensionlaw26_DecisionSelectIgnoresOrder_l raw_ person_ month_ by_ l) (bad_, i_) = some r) FU ⟨[], 0, .slice none 0 0, h1, h3, h4, h5, h13, h14, h15, H_raw_, Hf13, O14, hW, hF⟩ (fun _ _ h => by obtain ⟨_, _, _, _, _, _, _, _, _, _, _, _, _, _, h⟩ := h; cases h) ?_)
  rintro k_ ρ5 w5 ⟨bad_, i_, v14_, h1, h3, h4, h5, h13, h14, h15, H_raw_, Hf13, O14, hW, hF⟩
  have hF : pensionlaw26_DecisionSelectIgnoresOrder_l raw_ person_ month_ by_ l (loopC k_ (pensionlaw26_DecisionSelectIgnoresOrder_l raw_ person_ month_ by_ l)) (bad_, i_) = some r := hF
  generalize hrec_ : loopC k_ (pensionlaw26_DecisionSelectIgnoresOrder_l raw_ person_ month_ by_ l) = rec_ at hF
  rw [pensionlaw26_DecisionSelectIgnoresOrder_l] at hF
  refine WP.seq (WP.seq (WP.rb mixed [[], [], [1], [0, 2]] [[15], [1], [], []] [(23, .int .i64 i_), (24, v_raw_), (25, .int .i64 (raw_.length : Int)), (26, .bool (decide (i_ < (raw_.length : Int))))] (by kernel_rfl) ⟨mE rfl rfl h15,
 mE rfl rfl h1,
 fun ρz wz hE hA _ ⟨u1, _⟩ => core_val rfl rfl (o_len (u1.trans hs_H_raw_) len_23),
 fun ρz wz hE hA _ ⟨u0, u2, _⟩ => core_val rfl rfl (o_lss u0 u2 rfl), trivial⟩ ?_))
  intro ρ6 w6 hN hf hr
  have h26 := hv hf 3 rfl rfl
  obtain ⟨h1, h3, h4, h5, h13, h14⟩ := k6 hr h1 h3 h4 h5 h13 h14 rfl
  have h15 := (hr 15 rfl).trans h15
  have Oo_O14 := O14
  have H_raw_ := H_raw_.exn hN
  have Hf13 := Hf13.exn hN
  have hW := hW.trans hN
  have O14 := O14.exn hN
  refine WP.cond rfl h26 (fun hb => ?_) (fun hb => ?_)
  · have hF := (if_pos hb).symm.trans hF
    refine WP.skip (WP.seqJ (fun ρ w => ∃ bad_2 : List Claim, ∃ v14_2 : Value, ρ 1 = v_raw_ ∧ ρ 3 = .int .i64 person_ ∧ ρ 4 = .int .i64 month_ ∧ ρ 5 = .int .i64 by_ ∧ ρ 13 = v13_ ∧ ρ 14 = v14_2 ∧ ρ 15 = .int .i64 i_ ∧ RepSl Claim.R (gfr noG w0) w v_raw_ raw_ ∧ RepSl Claim.R (gov noG v14_2) w v13_ l ∧ Own w0.heap.size 28 6 Claim.cells w v14_2 bad_2 ∧ Ext noG w0 w ∧ pensionlaw26_DecisionSelectIgnoresOrder_j i_ rec_ bad_2 = some r) ?_ ?_)
    · refine WP.block (WP.seq ?_)
      obtain ⟨y, hy, hF⟩ := obind hF
      obtain ⟨ay, cy, hvy, hiy, hAy⟩ := RepSl.getF H_raw_ hy
      obtain ⟨z3, hz3, hF⟩ := obind hF
      refine WP.rb mixed [[], [], [0, 1], [2], [3], [4]] [[1], [15], [], [], [], []] [(29, v_raw_), (30, .int .i64 i_), (31, .pointer (some (ay.add (Int.toNat i_ * 6)))), (32, Claim.val y), (33, .bool z3), (34, .bool (!z3))] (by kernel_rfl) ⟨mE rfl rfl h1,
 mE rfl rfl h15,
 fun ρz wz hE hA _ ⟨u0, u1, _⟩ => core_val rfl rfl (o_indexAddr (u0.trans hvy) u1 (ia_23 hiy)),
 fun ρz wz hE hA _ ⟨u2, _⟩ => core_val rfl rfl (o_load u2 (run_loadN (cs := (Claim.cells y)) (lr_28 _ _) rfl ((hAy.exn (hA rfl)).ca))),
 fun ρz wz hE hA _ ⟨u3, _⟩ => core_call rfl (call_args1 u3) cf_7 (pensionref26_Valid_ok  _  hz3),
 fun ρz wz hE hA _ ⟨u4, _⟩ => core_val rfl rfl (o_not u4 rfl), trivial⟩ ?_
      intro ρ9 w9 hN hf hr
      have h34 := hv hf 5 rfl rfl
      obtain ⟨h1, h3, h4, h5, h13, h14⟩ := k6 hr h1 h3 h4 h5 h13 h14 rfl
      have h15 := (hr 15 rfl).trans h15
      have Oo_O14 := O14
      have H_raw_ := H_raw_.exn hN
      have Hf13 := Hf13.exn hN
      have hW := hW.trans hN
      have O14 := O14.exn hN
      refine WP.cond rfl h34 (fun hb => ?_) (fun hb => ?_)
      · have hF := (if_pos hb).symm.trans hF
        obtain ⟨y2, hy2, hF⟩ := obind hF
        obtain ⟨ay2, cy2, hvy2, hiy2, hAy2⟩ := RepSl.getF H_raw_ hy2
        obtain ⟨l2, hl2, hF⟩ := obind hF
        refine WP.region mixed [[], [], [], [1, 2], [3], [4], [0, 4, 5], [0, 6]] [[], [], [], [1, 2], [3], [4], [0, 5], [6]] [[14], [1], [15], [], [], [], [], []] [6] [] [val 35 (v14_), val 36 (v_raw_), val 37 (.int .i64 i_), val 38 (.pointer (some (ay2.add (Int.toNat i_ * 6)))), val 39 (Claim.val y2), (40, fun u wz => ∃ b, u = .slice (some ⟨b, 0, none⟩) 1 1 ∧ w9.heap.size ≤ b ∧ Mb wz b 28 (([y2]).flatMap Claim.cells)), (41, fun u wz => Own w0.heap.size 28 6 Claim.cells wz u l2 ∧ ∀ b, u.ownBlock = some b → (v14_.ownBlock = some b ∨ w9.heap.size ≤ b)), (14, fun u wz => Own w0.heap.size 28 6 Claim.cells wz u l2 ∧ ∀ b, u.ownBlock = some b → (v14_.ownBlock = some b ∨ w9.heap.size ≤ b))] (fun b => Value.ownBlock v14_ = some b) (by kernel_rfl) ⟨sV, sV, sV, sV, sV, fun _ _ _ hE ⟨b, hz, hs, hM⟩ => ⟨b, hz, hs, hM.ext hE (fun hg => absurd (O14.lt hg).2 (Nat.not_lt.2 hs))⟩, fun _ _ _ hE ⟨hO, hf⟩ => ⟨hO.exn hE, hf⟩, fun _ _ _ hE ⟨hO, hf⟩ => ⟨hO.exn hE, hf⟩, trivial⟩ ⟨mE rfl rfl h14,
 mE rfl rfl h1,
 mE rfl rfl h15,
 fun ρz wz hE hA _ ⟨u1, u2, _⟩ => core_val rfl rfl (o_indexAddr (u1.trans hvy2) u2 (ia_23 hiy2)),
 fun ρz wz hE hA _ ⟨u3, _⟩ => core_val rfl rfl (o_load u3 (run_loadN (cs := (Claim.cells y2)) (lr_28 _ _) rfl ((hAy2.exn (hA rfl)).ca))),
 fun ρz wz hE hA _ ⟨u4, _⟩ => core_slice rfl rfl hE (o_buildSlice (build_parts1 u4) (bs_23_1 _ _)),
 fun ρz wz hE hA _ ⟨u0, ⟨bz5, hz5, hge5, hM5⟩, _⟩ => core_append (n := 6) (cells := Claim.cells) (B := w0.heap.size) (w0 := w9) rfl rfl (fun b hb => hb) u0 hz5 (fun _ => rfl) one_28 si_23 se_28 (by decide) (by decide) (O14.exn (hA rfl)) ⟨_, (Mb.rep (n := 6) (cells := Claim.cells) (hn := fun _ => rfl) (G := noG) hM5 rfl (Nat.le_of_ble_eq_true rfl) (fun h => h))⟩ hl2 (Nat.le_trans hW.size hE.size) hE.size (fun v1 w1 h1 h2 => ⟨h1, h2⟩),
 fun ρz wz hE hA _ ⟨⟨hO6, hfr6⟩, _⟩ => core_copy rfl rfl (o_assign rfl) ⟨hO6, hfr6⟩, trivial⟩ ?_
        intro ρ10 w10 hE hN hf hr
        obtain ⟨v14_3, h14⟩ : ∃ v, ρ10 14 = v := ⟨_, rfl⟩
        have hq14 : (fun u wz => Own w0.heap.size 28 6 Claim.cells wz u l2 ∧ ∀ b, u.ownBlock = some b → (v14_.ownBlock = some b ∨ w9.heap.size ≤ b)) (ρ10 14) w10 := hf 7 rfl
        rw [h14] at hq14
        obtain ⟨hq14, hfr14⟩ := hq14
        obtain ⟨h1, h3, h4, h5, h13, h15⟩ := k6 hr h1 h3 h4 h5 h13 h15 rfl
        have Oo_O14 := O14
        have H_raw_ := H_raw_.over hE (fun b hb => (O14.lt hb).1)
        have Hf13 := Hf13.move hE hfr14
        have hW := Ext.own hW hE (fun b hb => (O14.lt hb).1)
        have O14 := hq14
        exact ⟨l2, v14_3, h1, h3, h4, h5, h13, h14, h15, H_raw_, Hf13, O14, hW, hF⟩
      have hF := (if_neg (Bool.eq_false_iff.1 hb)).symm.trans hF
      refine WP.skip ?_
      exact ⟨bad_, v14_, h1, h3, h4, h5, h13, h14, h15, H_raw_, Hf13, O14, hW, hF⟩
    rintro ρ7 w7 ⟨bad_2, v14_2, h1, h3, h4, h5, h13, h14, h15, H_raw_, Hf13, O14, hW, hF⟩
    rw [pensionlaw26_DecisionSelectIgnoresOrder_j] at hF
    refine WP.rv mixed [[], [0], [0, 1]] [[], [0], [1]] [[15], [], []] [(27, .int .i64 i_), (28, .int .i64 (i64 (i_ + 1))), (15, .int .i64 (i64 (i_ + 1)))] (by kernel_rfl) ⟨mE rfl rfl h15,
 fun ρz wz hE hA _ ⟨u0, _⟩ => core_val rfl rfl (o_add u0 rfl rfl),
 aU rfl rfl rfl, trivial⟩ ?_
    intro ρ8 w8 hN hf hr
    have h15 := hv hf 2 rfl rfl
    obtain ⟨h1, h3, h4, h5, h13, h14⟩ := k6 hr h1 h3 h4 h5 h13 h14 rfl
    have Oo_O14 := O14
    have H_raw_ := H_raw_.exn hN
    have Hf13 := Hf13.exn hN
    have hW := hW.trans hN
    have O14 := O14.exn hN
    exact ⟨bad_2, i64 (i_ + 1), v14_2, h1, h3, h4, h5, h13, h14, h15, H_raw_, Hf13, O14, hW, (by first | exact hF | (rw [hrec_]; exact hF))⟩
  have hF := (if_neg (Bool.eq_false_iff.1 hb)).symm.trans hF
  refine WP.exit (thenQ_exit (thenQ_exit (blockQ_hit (WP.seq ?_))))
  obtain ⟨z4, hz4, hF⟩ := obind hF
  obtain ⟨z5, hz5, hF⟩ := obind hF
  refine WP.rb mixed [[], [0], [], [2], [1], [3]] [[3], [], [4], [], [], []] [(42, .int .i64 person_), (43, .int .i64 z4), (44, .int .i64 month_), (45, .int .i64 z5), (16, .int .i64 z4), (17, .int .i64 z5)] (by kernel_rfl) ⟨mE rfl rfl h3,
 fun ρz wz hE hA _ ⟨u0, _⟩ => core_call rfl (call_args1 u0) cf_8 (pensionlaw26_Person_ok  _  hz4),
 mE rfl rfl h4,
 fun ρz wz hE hA _ ⟨u2, _⟩ => core_call rfl (call_args1 u2) cf_9 (pensionlaw26_Month_ok  _  hz5),
 aU rfl rfl rfl,
 aU rfl rfl rfl, trivial⟩ ?_
  intro ρ11 w11 hN hf hr
  have h16 := hv hf 4 rfl rfl
  have h17 := hv hf 5 rfl rfl
  obtain ⟨h5, h13, h14⟩ := k3 hr h5 h13 h14 rfl
  have Oo_O14 := O14
  have Hf13 := Hf13.exn hN
  have hW := hW.trans hN
  have O14 := O14.exn hN
  refine WP.seq ?_
  obtain ⟨z6, hz6, hF⟩ := obind hF
  obtain ⟨c, hc, hF⟩ := obind hF
  obtain ⟨z7, hz7, hc⟩ := andB hc
  obtain ⟨z8, hz8, hc⟩ := andB hc
  obtain ⟨l3, hl3, hc⟩ := andB hc
  obtain ⟨z9, hz9, hc⟩ := andB hc
  obtain ⟨z10, hz10, hc⟩ := andB hc
  have hc := andE hc
  refine WP.region mixed [[], [0], [1], [1], [1], [1, 2, 3, 4], [0, 1], [1], [1], [1, 5, 7, 8], [0, 1, 5, 6, 9], [1], [1], [1, 10, 11, 12], [1, 5, 10, 13], [1, 10, 14], [10, 15]] [[], [0], [1], [1], [1], [1, 2, 3, 4], [1], [1], [1], [1, 7, 8], [1, 6, 9], [1], [1], [1, 10, 11, 12], [1, 5, 13], [1, 14], [15]] [[], [], [13], [16], [17], [], [14], [13], [5], [], [], [16], [17], [], [], [], []] [10] [] [val 46 (.bool z6), val 47 (.bool z6), val 48 (gv (z6) v13_), val 49 (gv (z6) (.int .i64 z4)), val 50 (gv (z6) (.int .i64 z5)), (51, fun u wz => (z6) = true → (fun u wz => Own w0.heap.size 28 6 Claim.cells wz u z7 ∧ ∀ b, u.ownBlock = some b → w11.heap.size ≤ b) u wz), val 52 (gv (z6) v14_), val 53 (gv (z6) v13_), val 54 (gv (z6) (.int .i64 by_)), (55, fun u wz => (z6) = true → (fun u wz => Own w0.heap.size 28 6 Claim.cells wz u z8 ∧ ∀ b, u.ownBlock = some b → w11.heap.size ≤ b) u wz), (56, fun u wz => (z6) = true → (fun u wz => Own w0.heap.size 28 6 Claim.cells wz u l3 ∧ ∀ b, u.ownBlock = some b → (v14_.ownBlock = some b ∨ w11.heap.size ≤ b)) u wz), val 57 (gv (z6) (.int .i64 z4)), val 58 (gv (z6) (.int .i64 z5)), (59, fun u wz => (z6) = true → (fun u wz => Own w0.heap.size 28 6 Claim.cells wz u z9 ∧ ∀ b, u.ownBlock = some b → w11.heap.size ≤ b) u wz), val 60 (gv (z6) (.bool z10)), val 61 (.bool c), val 12 (.bool c)] (fun b => Value.ownBlock v14_ = some b) (by kernel_rfl) ⟨sV, sV, sV, sV, sV, stabI (Φ := fun u wz => Own w0.heap.size 28 6 Claim.cells wz u z7 ∧ ∀ b, u.ownBlock = some b → w11.heap.size ≤ b) (fun _ _ _ hE ⟨hO, hf⟩ => ⟨hO.ext hE (fun b hb hg => absurd (O14.lt hg).2 (Nat.not_lt.2 (hf b hb))), hf⟩), sV, sV, sV, stabI (Φ := fun u wz => Own w0.heap.size 28 6 Claim.cells wz u z8 ∧ ∀ b, u.ownBlock = some b → w11.heap.size ≤ b) (fun _ _ _ hE ⟨hO, hf⟩ => ⟨hO.ext hE (fun b hb hg => absurd (O14.lt hg).2 (Nat.not_lt.2 (hf b hb))), hf⟩), stabI (Φ := fun u wz => Own w0.heap.size 28 6 Claim.cells wz u l3 ∧ ∀ b, u.ownBlock = some b → (v14_.ownBlock = some b ∨ w11.heap.size ≤ b)) (fun _ _ _ hE ⟨hO, hf⟩ => ⟨hO.exn hE, hf⟩), sV, sV, stabI (Φ := fun u wz => Own w0.heap.size 28 6 Claim.cells wz u z9 ∧ ∀ b, u.ownBlock = some b → w11.heap.size ≤ b) (fun _ _ _ hE ⟨hO, hf⟩ => ⟨hO.exn hE, hf⟩), sV, sV, sV, trivial⟩ ⟨fun ρz wz hE hA _ _ => core_call rfl call_args0 cf_10 (pensionlaw26_awake_ok    hz6),
 mU rfl rfl rfl,
 fun ρz wz hE hA ⟨e13, _⟩ ⟨u1, _⟩ => gIf rfl rfl (yT rfl u1) fun gc F hF => core_val rfl hF (o_move (e13.trans h13)),
 fun ρz wz hE hA ⟨e16, _⟩ ⟨u1, _⟩ => gIf rfl rfl (yT rfl u1) fun gc F hF => core_val rfl hF (o_move (e16.trans h16)),
 fun ρz wz hE hA ⟨e17, _⟩ ⟨u1, _⟩ => gIf rfl rfl (yT rfl u1) fun gc F hF => core_val rfl hF (o_move (e17.trans h17)),
 fun ρz wz hE hA _ ⟨u1, u2, u3, u4, _⟩ => gIfR rfl (yT rfl u1) fun gc F hF => core_callR hF (call_args3 (gt gc u2) (gt gc u3) (gt gc u4)) cf_12 ((decision_Select_ok  _ _ _ (Hf13.exn (hA rfl)).no (hz7 gc)).mono (fun e w1 ⟨v, he, hE1, hO⟩ => ⟨v, he, hE1, hO.base (Nat.le_trans hW.size hE.size), fun b hb => Nat.le_trans hE.size (hO.lt hb).1⟩)),
 fun ρz wz hE hA ⟨e14, _⟩ ⟨u1, _⟩ => gIf rfl rfl (yT rfl u1) fun gc F hF => core_val rfl hF (o_move (e14.trans h14)),
 fun ρz wz hE hA ⟨e13, _⟩ ⟨u1, _⟩ => gIf rfl rfl (yT rfl u1) fun gc F hF => core_val rfl hF (o_move (e13.trans h13)),
 fun ρz wz hE hA ⟨e5, _⟩ ⟨u1, _⟩ => gIf rfl rfl (yT rfl u1) fun gc F hF => core_val rfl hF (o_move (e5.trans h5)),
 fun ρz wz hE hA _ ⟨u1, u7, u8, _⟩ => gIfR rfl (yT rfl u1) fun gc F hF => core_callR hF (call_args2 (gt gc u7) (gt gc u8)) cf_13 ((pensionlaw26_Turn_ok  _ _ (Hf13.exn (hA rfl)).no (hz8 gc)).mono (fun e w1 ⟨v, he, hE1, hO⟩ => ⟨v, he, hE1, hO.base (Nat.le_trans hW.size hE.size), fun b hb => Nat.le_trans hE.size (hO.lt hb).1⟩)),
 fun ρz wz hE hA _ ⟨u1, u6, u9, _⟩ => gIfR rfl (yT rfl u1) fun gc F hF => let ⟨hO9, hfr9⟩ := u9 gc; core_append (n := 6) (cells := Claim.cells) (B := w0.heap.size) (w0 := w11) hF rfl (fun b hb => hb) (gt gc u6) rfl (fun _ => rfl) one_28 si_23 se_28 (by decide) (by decide) (O14.exn (hA rfl)) ⟨_, (hO9.rep (hn := fun _ => rfl) (G := noG) (fun _ _ h => h))⟩ (hl3 gc) (Nat.le_trans hW.size hE.size) hE.size (fun v1 w1 h1 h2 => ⟨h1, h2⟩),
 fun ρz wz hE hA ⟨e16, _⟩ ⟨u1, _⟩ => gIf rfl rfl (yT rfl u1) fun gc F hF => core_val rfl hF (o_move (e16.trans h16)),
 fun ρz wz hE hA ⟨e17, _⟩ ⟨u1, _⟩ => gIf rfl rfl (yT rfl u1) fun gc F hF => core_val rfl hF (o_move (e17.trans h17)),
 fun ρz wz hE hA _ ⟨u1, u10, u11, u12, _⟩ => gIfR rfl (yT rfl u1) fun gc F hF => let ⟨hO10, hfr10⟩ := u10 gc; core_callR hF (call_args3 rfl (gt gc u11) (gt gc u12)) cf_12 ((decision_Select_ok  _ _ _ (hO10.rep (hn := fun _ => rfl) (G := noG) (fun _ _ h => h)).no (hz9 gc)).mono (fun e w1 ⟨v, he, hE1, hO⟩ => ⟨v, he, hE1, hO.base (Nat.le_trans hW.size hE.size), fun b hb => Nat.le_trans hE.size (hO.lt hb).1⟩)),
 fun ρz wz hE hA _ ⟨u1, u5, u13, _⟩ => gIf rfl rfl (yT rfl u1) fun gc F hF => let ⟨hO5, hfr5⟩ := u5 gc; let ⟨hO13, hfr13⟩ := u13 gc; core_call hF (call_args2 rfl rfl) cf_11 (pensionplain_Same_of_api_Claim_ok  _ _ (hO5.rep (hn := fun _ => rfl) (G := noG) (fun _ _ h => h)).no (hO13.rep (hn := fun _ => rfl) (G := noG) (fun _ _ h => h)).no (hz10 gc)),
 fun ρz wz hE hA _ ⟨u1, u14, _⟩ => core_valE rfl rfl (congrArg Value.bool hc) (o_pick_and u1 u14 rfl),
 aU rfl rfl rfl, trivial⟩ ?_
  intro ρ12 w12 hE hN hf hr
  have h12 : ρ12 12 = .bool c := hf 16 rfl
  have Oo_O14 := O14
  have hW := Ext.own hW hE (fun b hb => (O14.lt hb).1)
  refine WP.ret ?_
  show retQ Tryz.prog 62 Tryz.f3 (fun v w1 => v = .bool r ∧ Ext noG w0 w1) .ret ρ12 w12
  obtain rfl := Option.some.inj hF
  exact res1 rfl (by decide) h12 ⟨rfl, hW⟩
end Go.PL
