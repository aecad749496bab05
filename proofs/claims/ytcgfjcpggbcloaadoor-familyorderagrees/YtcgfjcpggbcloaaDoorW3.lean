/- The translated code computes the Lean functions (printed by a program). -/
import Derived.Test.YtcgfjcpggbcloaaDoorW2
set_option linter.unusedVariables false
set_option linter.unusedSimpArgs false
set_option maxRecDepth 10000
namespace Go.PL
open Go Go.Proofs

set_option maxHeartbeats 4000000 in
theorem family_valid_ok {w0 : World} (l_ : List Right) {v_l_ : Value} (H_l_ : RepSl Right.R noG w0 v_l_ l_) {r : Bool} (hF : family_valid l_ = some r) :
    Calls Tryd.prog 26 #[v_l_] w0 fun e w1 => e = .returned (.bool r) ∧ Ext noG w0 w1 := by
  refine (Calls.start (P := Tryd.prog) (args := [v_l_]) (R := fun v w1 => v = .bool r ∧ Ext noG w0 w1) (n := 59) (w := w0) Tryd.func26 rfl rfl (Nat.le_of_ble_eq_true rfl) (fun ρ hargs => ?_)).mono (fun e w1 ⟨v, he, hv, hE⟩ => ⟨hv ▸ he, hE⟩)
  have h0 := hargs 0 _ rfl
  have hW := Ext.refl noG w0
  have hsz := Nat.le_refl w0.heap.size
  obtain ⟨_, _, hs_H_l_, _, _⟩ := RepSl.shape H_l_
  have H_l_ := H_l_.start
  rw [family_valid] at hF
  refine WP.seq ?_
  refine WP.rb mixed [[]] [[]] [(2, .bool false)] (by kernel_rfl) ⟨fun ρz wz hE hA _ _ => core_val rfl rfl (o_assign rfl), trivial⟩ ?_
  intro ρ1 w1 hN hf hr
  have h0 := (hr 0 rfl).trans h0
  have H_l_ := H_l_.exn hN
  have hW := hW.trans hN
  have hsz := hW.size
  refine WP.seq ?_
  refine WP.seq ?_
  refine WP.rb mixed [[], [0], [1]] [[0], [], []] [(5, v_l_), (6, .int .i64 (l_.length : Int)), (7, .bool (decide (6 < (l_.length : Int))))] (by kernel_rfl) ⟨fun ρz wz hE hA ⟨e0, _⟩ _ => core_val rfl rfl (o_move (e0.trans h0)),
 fun ρz wz hE hA _ ⟨u0, _⟩ => core_val rfl rfl (o_len (u0.trans hs_H_l_) len_24),
 fun ρz wz hE hA _ ⟨u1, _⟩ => core_val rfl rfl (o_gtr u1 rfl rfl), trivial⟩ ?_
  intro ρ2 w2 hN hf hr
  have h7 : ρ2 7 = .bool (decide (6 < (l_.length : Int))) := hf 2 rfl
  have h0 := (hr 0 rfl).trans h0
  have H_l_ := H_l_.exn hN
  have hW := hW.trans hN
  have hsz := hW.size
  refine WP.cond rfl h7 (fun hb => ?_) (fun hb => ?_)
  · have hF := (if_pos hb).symm.trans hF
    refine WP.seq ?_
    refine WP.rb mixed [[]] [[]] [(2, .bool false)] (by kernel_rfl) ⟨fun ρz wz hE hA _ _ => core_val rfl rfl (o_assign rfl), trivial⟩ ?_
    intro ρ3 w3 hN hf hr
    have h2 : ρ3 2 = .bool false := hf 0 rfl
    have hW := hW.trans hN
    have hsz := hW.size
    refine WP.ret ?_
    show retQ Tryd.prog 59 Tryd.f26 (fun v w1 => v = .bool r ∧ Ext noG w0 w1) .ret ρ3 w3
    obtain rfl := Option.some.inj hF
    exact res1 rfl (by decide) h2 ⟨rfl, hW⟩
  have hF := (if_neg (Bool.eq_false_iff.1 hb)).symm.trans hF
  refine WP.skip ?_
  refine WP.seq ?_
  refine WP.seq ?_
  refine WP.rb mixed [[], [0], []] [[0], [], []] [(8, v_l_), (9, .int .i64 (l_.length : Int)), (10, .int .i64 0)] (by kernel_rfl) ⟨fun ρz wz hE hA ⟨e0, _⟩ _ => core_val rfl rfl (o_move (e0.trans h0)),
 fun ρz wz hE hA _ ⟨u0, _⟩ => core_val rfl rfl (o_len (u0.trans hs_H_l_) len_24),
 fun ρz wz hE hA _ _ => core_val rfl rfl (o_move rfl), trivial⟩ ?_
  intro ρ4 w4 hN hf hr
  have h8 : ρ4 8 = v_l_ := hf 0 rfl
  have h9 : ρ4 9 = .int .i64 (l_.length : Int) := hf 1 rfl
  have h10 : ρ4 10 = .int .i64 0 := hf 2 rfl
  have h0 := (hr 0 rfl).trans h0
  have H_l_ := H_l_.exn hN
  have hW := hW.trans hN
  have hsz := hW.size
  refine WP.block ?_
  refine WP.loop (fun k_ ρ w => ∃ x : Int, ρ 0 = v_l_ ∧ ρ 8 = v_l_ ∧ ρ 9 = .int .i64 (l_.length : Int) ∧ ρ 10 = .int .i64 x ∧ RepSl Right.R (gfr noG w0) w v_l_ l_ ∧ Ext noG w0 w ∧ w0.heap.size ≤ w.heap.size ∧ loopC k_ (family_valid_l l_) x = some r) FU ⟨0, h0, h8, h9, h10, H_l_, hW, hsz, hF⟩ (fun _ _ h => by obtain ⟨_, _, _, _, _, _, _, _, h⟩ := h; cases h) ?_
  rintro k_ ρ5 w5 ⟨x, h0, h8, h9, h10, H_l_, hW, hsz, hF⟩
  have hF : family_valid_l l_ (loopC k_ (family_valid_l l_)) x = some r := hF
  generalize hrec_ : loopC k_ (family_valid_l l_) = rec_ at hF
  rw [family_valid_l] at hF
  refine WP.seq ?_
  refine WP.rb mixed [[]] [[10, 9]] [(11, .bool (decide (x < (l_.length : Int))))] (by kernel_rfl) ⟨fun ρz wz hE hA ⟨e10, e9, _⟩ _ => core_val rfl rfl (o_lss (e10.trans h10) (e9.trans h9) rfl), trivial⟩ ?_
  intro ρ6 w6 hN hf hr
  have h11 : ρ6 11 = .bool (decide (x < (l_.length : Int))) := hf 0 rfl
  obtain ⟨h0, h8, h9, h10⟩ := k4 hr h0 h8 h9 h10 rfl
  have H_l_ := H_l_.exn hN
  have hW := hW.trans hN
  have hsz := hW.size
  refine WP.seq ?_
  refine WP.cond rfl h11 (fun hb => ?_) (fun hb => ?_)
  · have hF := (if_pos hb).symm.trans hF
    refine WP.skip ?_
    refine WP.seq ?_
    refine WP.block ?_
    refine WP.seq ?_
    obtain ⟨y, hy, hF⟩ := obind hF
    obtain ⟨ay, cy, hvy, hiy, hAy⟩ := RepSl.getF H_l_ hy
    refine WP.region mixed [[], [], [1], [], [0], [2, 3]] [[], [], [1], [], [0], [2, 3]] [[10], [8, 10], [], [], [], []] [5] [(3, 5)] [val 12 (.int .i64 x), val 13 (.pointer (some (ay.add (Int.toNat x * 4)))), val 14 (Right.val y), (4, fun u wz => ∃ b, u = .pointer (some ⟨b, 0, none⟩) ∧ w6.heap.size ≤ b ∧ Mb wz b 43 (Right.cells (⟨0, 0, 0, 0⟩ : Right))), val 3 (.int .i64 x), (4, fun u wz => ∃ b, u = .pointer (some ⟨b, 0, none⟩) ∧ w6.heap.size ≤ b ∧ Mb wz b 43 (Right.cells y))] (fun b => w6.heap.size ≤ b) (by kernel_rfl) ⟨sV, sV, sV, fun _ _ _ hE ⟨b, hb, hs, hM⟩ => ⟨b, hb, hs, hM.exn hE⟩, sV, fun _ _ _ hE ⟨b, hb, hs, hM⟩ => ⟨b, hb, hs, hM.exn hE⟩, trivial⟩ ⟨fun ρz wz hE hA ⟨e10, _⟩ _ => core_val rfl rfl (o_move (e10.trans h10)),
 fun ρz wz hE hA ⟨e8, e10, _⟩ _ => core_val rfl rfl (o_indexAddr ((e8.trans h8).trans hvy) (e10.trans h10) (ia_24 hiy)),
 fun ρz wz hE hA _ ⟨u1, _⟩ => core_val rfl rfl (o_load u1 (run_loadN (cs := (Right.cells y)) (lr_43 _ _) rfl ((hAy.exn hE.fresh).ca))),
 fun ρz wz hE hA _ _ => core_new rfl rfl hE (o_alloc (al_43 _)),
 fun ρz wz hE hA _ ⟨u0, _⟩ => core_val rfl rfl (o_assign u0),
 fun ρz wz hE hA _ ⟨u2, u3, _⟩ => core_storeNew rfl rfl rfl rfl u2 u3 (fun a w => st_43 _ a w) rfl (one_43 _), trivial⟩ ?_
    intro ρ7 w7 hE hN hf hr
    have hN := hE.fresh
    obtain ⟨b4_, h4, hge_b4_, Hb_b4_⟩ := hf 5 rfl
    have h3 : ρ7 3 = .int .i64 x := hf 4 rfl
    obtain ⟨h0, h8, h9, h10⟩ := k4 hr h0 h8 h9 h10 rfl
    have H_l_ := H_l_.exn hN
    have hW := hW.trans hN
    have hB_b4_ : w0.heap.size ≤ b4_ := Nat.le_trans hsz hge_b4_
    have hsz := hW.size
    refine WP.seq ?_
    refine WP.seq ?_
    refine WP.rb mixed [[], [0], [1], [2], [3], [3, 4], [3, 5], [3, 6], [7], [8], [8, 9], [8, 10], [8, 11], [12], [13], [13, 14], [13, 15], [13, 16], [17], [18], [18, 19], [18, 20], [18, 21], [22], [23], [23, 24], [23, 25], [23, 26], [27], [28], [28, 29], [28, 30], [28, 31], [32], [33], [33, 34], [33, 35], [33, 36]] [[4], [], [], [], [4], [], [], [], [], [4], [], [], [], [], [4], [], [], [], [], [4], [], [], [], [], [4], [], [], [], [], [4], [], [], [], [], [4], [], [], []] [(15, .pointer (some ((⟨b4_, 0, none⟩ : Addr).add 0))), (16, .int .i64 y.State), (17, .bool (decide (y.State < 0))), (18, .bool (decide (y.State < 0))), (19, gv (!(decide (y.State < 0))) (.pointer (some ((⟨b4_, 0, none⟩ : Addr).add 0)))), (20, gv (!(decide (y.State < 0))) (.int .i64 y.State)), (21, gv (!(decide (y.State < 0))) (.bool (decide (6 ≤ y.State)))), (22, .bool (decide (y.State < 0) || decide (6 ≤ y.State))), (23, .bool (decide (y.State < 0) || decide (6 ≤ y.State))), (24, gv (!(decide (y.State < 0) || decide (6 ≤ y.State))) (.pointer (some ((⟨b4_, 0, none⟩ : Addr).add 1)))), (25, gv (!(decide (y.State < 0) || decide (6 ≤ y.State))) (.int .i64 y.Basis)), (26, gv (!(decide (y.State < 0) || decide (6 ≤ y.State))) (.bool (decide (y.Basis < 1)))), (27, .bool ((decide (y.State < 0) || decide (6 ≤ y.State)) || decide (y.Basis < 1))), (28, .bool ((decide (y.State < 0) || decide (6 ≤ y.State)) || decide (y.Basis < 1))), (29, gv (!((decide (y.State < 0) || decide (6 ≤ y.State)) || decide (y.Basis < 1))) (.pointer (some ((⟨b4_, 0, none⟩ : Addr).add 1)))), (30, gv (!((decide (y.State < 0) || decide (6 ≤ y.State)) || decide (y.Basis < 1))) (.int .i64 y.Basis)), (31, gv (!((decide (y.State < 0) || decide (6 ≤ y.State)) || decide (y.Basis < 1))) (.bool (decide (3 < y.Basis)))), (32, .bool (((decide (y.State < 0) || decide (6 ≤ y.State)) || decide (y.Basis < 1)) || decide (3 < y.Basis))), (33, .bool (((decide (y.State < 0) || decide (6 ≤ y.State)) || decide (y.Basis < 1)) || decide (3 < y.Basis))), (34, gv (!(((decide (y.State < 0) || decide (6 ≤ y.State)) || decide (y.Basis < 1)) || decide (3 < y.Basis))) (.pointer (some ((⟨b4_, 0, none⟩ : Addr).add 2)))), (35, gv (!(((decide (y.State < 0) || decide (6 ≤ y.State)) || decide (y.Basis < 1)) || decide (3 < y.Basis))) (.int .i64 y.Currency)), (36, gv (!(((decide (y.State < 0) || decide (6 ≤ y.State)) || decide (y.Basis < 1)) || decide (3 < y.Basis))) (.bool (decide (y.Currency < 1)))), (37, .bool ((((decide (y.State < 0) || decide (6 ≤ y.State)) || decide (y.Basis < 1)) || decide (3 < y.Basis)) || decide (y.Currency < 1))), (38, .bool ((((decide (y.State < 0) || decide (6 ≤ y.State)) || decide (y.Basis < 1)) || decide (3 < y.Basis)) || decide (y.Currency < 1))), (39, gv (!((((decide (y.State < 0) || decide (6 ≤ y.State)) || decide (y.Basis < 1)) || decide (3 < y.Basis)) || decide (y.Currency < 1))) (.pointer (some ((⟨b4_, 0, none⟩ : Addr).add 2)))), (40, gv (!((((decide (y.State < 0) || decide (6 ≤ y.State)) || decide (y.Basis < 1)) || decide (3 < y.Basis)) || decide (y.Currency < 1))) (.int .i64 y.Currency)), (41, gv (!((((decide (y.State < 0) || decide (6 ≤ y.State)) || decide (y.Basis < 1)) || decide (3 < y.Basis)) || decide (y.Currency < 1))) (.bool (decide (999 < y.Currency)))), (42, .bool (((((decide (y.State < 0) || decide (6 ≤ y.State)) || decide (y.Basis < 1)) || decide (3 < y.Basis)) || decide (y.Currency < 1)) || decide (999 < y.Currency))), (43, .bool (((((decide (y.State < 0) || decide (6 ≤ y.State)) || decide (y.Basis < 1)) || decide (3 < y.Basis)) || decide (y.Currency < 1)) || decide (999 < y.Currency))), (44, gv (!(((((decide (y.State < 0) || decide (6 ≤ y.State)) || decide (y.Basis < 1)) || decide (3 < y.Basis)) || decide (y.Currency < 1)) || decide (999 < y.Currency))) (.pointer (some ((⟨b4_, 0, none⟩ : Addr).add 3)))), (45, gv (!(((((decide (y.State < 0) || decide (6 ≤ y.State)) || decide (y.Basis < 1)) || decide (3 < y.Basis)) || decide (y.Currency < 1)) || decide (999 < y.Currency))) (.int .i64 y.Amount)), (46, gv (!(((((decide (y.State < 0) || decide (6 ≤ y.State)) || decide (y.Basis < 1)) || decide (3 < y.Basis)) || decide (y.Currency < 1)) || decide (999 < y.Currency))) (.bool (decide (y.Amount < 1)))), (47, .bool ((((((decide (y.State < 0) || decide (6 ≤ y.State)) || decide (y.Basis < 1)) || decide (3 < y.Basis)) || decide (y.Currency < 1)) || decide (999 < y.Currency)) || decide (y.Amount < 1))), (48, .bool ((((((decide (y.State < 0) || decide (6 ≤ y.State)) || decide (y.Basis < 1)) || decide (3 < y.Basis)) || decide (y.Currency < 1)) || decide (999 < y.Currency)) || decide (y.Amount < 1))), (49, gv (!((((((decide (y.State < 0) || decide (6 ≤ y.State)) || decide (y.Basis < 1)) || decide (3 < y.Basis)) || decide (y.Currency < 1)) || decide (999 < y.Currency)) || decide (y.Amount < 1))) (.pointer (some ((⟨b4_, 0, none⟩ : Addr).add 3)))), (50, gv (!((((((decide (y.State < 0) || decide (6 ≤ y.State)) || decide (y.Basis < 1)) || decide (3 < y.Basis)) || decide (y.Currency < 1)) || decide (999 < y.Currency)) || decide (y.Amount < 1))) (.int .i64 y.Amount)), (51, gv (!((((((decide (y.State < 0) || decide (6 ≤ y.State)) || decide (y.Basis < 1)) || decide (3 < y.Basis)) || decide (y.Currency < 1)) || decide (999 < y.Currency)) || decide (y.Amount < 1))) (.bool (decide (1000000000000 < y.Amount)))), (52, .bool (((((((decide (y.State < 0) || decide (6 ≤ y.State)) || decide (y.Basis < 1)) || decide (3 < y.Basis)) || decide (y.Currency < 1)) || decide (999 < y.Currency)) || decide (y.Amount < 1)) || decide (1000000000000 < y.Amount)))] (by kernel_rfl) ⟨fun ρz wz hE hA ⟨e4, _⟩ _ => core_val rfl rfl (o_fieldAddr (e4.trans h4) (fa_43_0 _ _)),
 fun ρz wz hE hA _ ⟨u0, _⟩ => core_val rfl rfl (o_load u0 (run_load1 (lr_3 _ _) (CA.sub ((Hb_b4_.exn (hA rfl)).ca) 0 1))),
 fun ρz wz hE hA _ ⟨u1, _⟩ => core_val rfl rfl (o_lss u1 rfl rfl),
 fun ρz wz hE hA _ ⟨u2, _⟩ => core_val rfl rfl (o_move u2),
 fun ρz wz hE hA ⟨e4, _⟩ ⟨u3, _⟩ => gIf rfl rfl (yF rfl u3) fun gc F hF => core_val rfl hF (o_fieldAddr (e4.trans h4) (fa_43_0 _ _)),
 fun ρz wz hE hA _ ⟨u3, u4, _⟩ => gIf rfl rfl (yF rfl u3) fun gc F hF => core_val rfl hF (o_load (gt gc u4) (run_load1 (lr_3 _ _) (CA.sub ((Hb_b4_.exn (hA rfl)).ca) 0 1))),
 fun ρz wz hE hA _ ⟨u3, u5, _⟩ => gIf rfl rfl (yF rfl u3) fun gc F hF => core_val rfl hF (o_geq (gt gc u5) rfl rfl),
 fun ρz wz hE hA _ ⟨u3, u6, _⟩ => core_val rfl rfl (o_pick_or u3 rfl u6),
 fun ρz wz hE hA _ ⟨u7, _⟩ => core_val rfl rfl (o_move u7),
 fun ρz wz hE hA ⟨e4, _⟩ ⟨u8, _⟩ => gIf rfl rfl (yF rfl u8) fun gc F hF => core_val rfl hF (o_fieldAddr (e4.trans h4) (fa_43_1 _ _)),
 fun ρz wz hE hA _ ⟨u8, u9, _⟩ => gIf rfl rfl (yF rfl u8) fun gc F hF => core_val rfl hF (o_load (gt gc u9) (run_load1 (lr_3 _ _) (CA.sub ((Hb_b4_.exn (hA rfl)).ca) 1 1))),
 fun ρz wz hE hA _ ⟨u8, u10, _⟩ => gIf rfl rfl (yF rfl u8) fun gc F hF => core_val rfl hF (o_lss (gt gc u10) rfl rfl),
 fun ρz wz hE hA _ ⟨u8, u11, _⟩ => core_val rfl rfl (o_pick_or u8 rfl u11),
 fun ρz wz hE hA _ ⟨u12, _⟩ => core_val rfl rfl (o_move u12),
 fun ρz wz hE hA ⟨e4, _⟩ ⟨u13, _⟩ => gIf rfl rfl (yF rfl u13) fun gc F hF => core_val rfl hF (o_fieldAddr (e4.trans h4) (fa_43_1 _ _)),
 fun ρz wz hE hA _ ⟨u13, u14, _⟩ => gIf rfl rfl (yF rfl u13) fun gc F hF => core_val rfl hF (o_load (gt gc u14) (run_load1 (lr_3 _ _) (CA.sub ((Hb_b4_.exn (hA rfl)).ca) 1 1))),
 fun ρz wz hE hA _ ⟨u13, u15, _⟩ => gIf rfl rfl (yF rfl u13) fun gc F hF => core_val rfl hF (o_gtr (gt gc u15) rfl rfl),
 fun ρz wz hE hA _ ⟨u13, u16, _⟩ => core_val rfl rfl (o_pick_or u13 rfl u16),
 fun ρz wz hE hA _ ⟨u17, _⟩ => core_val rfl rfl (o_move u17),
 fun ρz wz hE hA ⟨e4, _⟩ ⟨u18, _⟩ => gIf rfl rfl (yF rfl u18) fun gc F hF => core_val rfl hF (o_fieldAddr (e4.trans h4) (fa_43_2 _ _)),
 fun ρz wz hE hA _ ⟨u18, u19, _⟩ => gIf rfl rfl (yF rfl u18) fun gc F hF => core_val rfl hF (o_load (gt gc u19) (run_load1 (lr_3 _ _) (CA.sub ((Hb_b4_.exn (hA rfl)).ca) 2 1))),
 fun ρz wz hE hA _ ⟨u18, u20, _⟩ => gIf rfl rfl (yF rfl u18) fun gc F hF => core_val rfl hF (o_lss (gt gc u20) rfl rfl),
 fun ρz wz hE hA _ ⟨u18, u21, _⟩ => core_val rfl rfl (o_pick_or u18 rfl u21),
 fun ρz wz hE hA _ ⟨u22, _⟩ => core_val rfl rfl (o_move u22),
 fun ρz wz hE hA ⟨e4, _⟩ ⟨u23, _⟩ => gIf rfl rfl (yF rfl u23) fun gc F hF => core_val rfl hF (o_fieldAddr (e4.trans h4) (fa_43_2 _ _)),
 fun ρz wz hE hA _ ⟨u23, u24, _⟩ => gIf rfl rfl (yF rfl u23) fun gc F hF => core_val rfl hF (o_load (gt gc u24) (run_load1 (lr_3 _ _) (CA.sub ((Hb_b4_.exn (hA rfl)).ca) 2 1))),
 fun ρz wz hE hA _ ⟨u23, u25, _⟩ => gIf rfl rfl (yF rfl u23) fun gc F hF => core_val rfl hF (o_gtr (gt gc u25) rfl rfl),
 fun ρz wz hE hA _ ⟨u23, u26, _⟩ => core_val rfl rfl (o_pick_or u23 rfl u26),
 fun ρz wz hE hA _ ⟨u27, _⟩ => core_val rfl rfl (o_move u27),
 fun ρz wz hE hA ⟨e4, _⟩ ⟨u28, _⟩ => gIf rfl rfl (yF rfl u28) fun gc F hF => core_val rfl hF (o_fieldAddr (e4.trans h4) (fa_43_3 _ _)),
 fun ρz wz hE hA _ ⟨u28, u29, _⟩ => gIf rfl rfl (yF rfl u28) fun gc F hF => core_val rfl hF (o_load (gt gc u29) (run_load1 (lr_3 _ _) (CA.sub ((Hb_b4_.exn (hA rfl)).ca) 3 1))),
 fun ρz wz hE hA _ ⟨u28, u30, _⟩ => gIf rfl rfl (yF rfl u28) fun gc F hF => core_val rfl hF (o_lss (gt gc u30) rfl rfl),
 fun ρz wz hE hA _ ⟨u28, u31, _⟩ => core_val rfl rfl (o_pick_or u28 rfl u31),
 fun ρz wz hE hA _ ⟨u32, _⟩ => core_val rfl rfl (o_move u32),
 fun ρz wz hE hA ⟨e4, _⟩ ⟨u33, _⟩ => gIf rfl rfl (yF rfl u33) fun gc F hF => core_val rfl hF (o_fieldAddr (e4.trans h4) (fa_43_3 _ _)),
 fun ρz wz hE hA _ ⟨u33, u34, _⟩ => gIf rfl rfl (yF rfl u33) fun gc F hF => core_val rfl hF (o_load (gt gc u34) (run_load1 (lr_3 _ _) (CA.sub ((Hb_b4_.exn (hA rfl)).ca) 3 1))),
 fun ρz wz hE hA _ ⟨u33, u35, _⟩ => gIf rfl rfl (yF rfl u33) fun gc F hF => core_val rfl hF (o_gtr (gt gc u35) rfl rfl),
 fun ρz wz hE hA _ ⟨u33, u36, _⟩ => core_val rfl rfl (o_pick_or u33 rfl u36), trivial⟩ ?_
    intro ρ8 w8 hN hf hr
    have h52 : ρ8 52 = .bool (((((((decide (y.State < 0) || decide (6 ≤ y.State)) || decide (y.Basis < 1)) || decide (3 < y.Basis)) || decide (y.Currency < 1)) || decide (999 < y.Currency)) || decide (y.Amount < 1)) || decide (1000000000000 < y.Amount)) := hf 37 rfl
    obtain ⟨h0, h8, h9, h10, h4, h3⟩ := k6 hr h0 h8 h9 h10 h4 h3 rfl
    have Hb_b4_n := Hb_b4_.exn hN
    have H_l_ := H_l_.exn hN
    have hW := hW.trans hN
    have Hb_b4_ := Hb_b4_n
    have hsz := hW.size
    refine WP.cond rfl h52 (fun hb => ?_) (fun hb => ?_)
    · have hF := (if_pos hb).symm.trans hF
      refine WP.seq ?_
      refine WP.rb mixed [[]] [[]] [(2, .bool false)] (by kernel_rfl) ⟨fun ρz wz hE hA _ _ => core_val rfl rfl (o_assign rfl), trivial⟩ ?_
      intro ρ9 w9 hN hf hr
      have h2 : ρ9 2 = .bool false := hf 0 rfl
      have hW := hW.trans hN
      have hsz := hW.size
      refine WP.ret ?_
      show retQ Tryd.prog 59 Tryd.f26 (fun v w1 => v = .bool r ∧ Ext noG w0 w1) .ret ρ9 w9
      obtain rfl := Option.some.inj hF
      exact res1 rfl (by decide) h2 ⟨rfl, hW⟩
    have hF := (if_neg (Bool.eq_false_iff.1 hb)).symm.trans hF
    refine WP.skip ?_
    refine WP.seq ?_
    obtain ⟨s, hs, hF⟩ := obind hF
    obtain ⟨z, hz, hF⟩ := obind hF
    refine WP.rg mixed [[], [], [0, 1], [], [2, 3]] [[], [], [0, 1], [], [2, 3]] [[0], [3], [], [4], []] [val 53 (v_l_), val 54 (.int .i64 x), (55, fun u wz => RepSl Right.R (gfr noG w0) wz u s), val 56 (.func (.func 42) #[] #[.pointer (some ⟨b4_, 0, none⟩)]), val 57 (.bool z)] (by kernel_rfl) ⟨sV, sV, fun _ _ _ hE h => h.exn hE, sV, sV, trivial⟩ ⟨fun ρz wz hE hA ⟨e0, _⟩ _ => core_val rfl rfl (o_move (e0.trans h0)),
 fun ρz wz hE hA ⟨e3, _⟩ _ => core_val rfl rfl (o_move (e3.trans h3)),
 fun ρz wz hE hA _ ⟨u0, u1, _⟩ => core_cut (R := Right.R) rfl u0 si_24 sz_43 (H_l_.exn (hA rfl)) hs (.inl ⟨rfl, rfl⟩) (.inr (congrArg some u1)) (fun _ h => h),
 fun ρz wz hE hA ⟨e4, _⟩ _ => core_val rfl rfl (o_makeFunc (call_args1 (e4.trans h4))),
 fun ρz wz hE hA _ ⟨hR2, u3, _⟩ => core_call rfl (call_args2 rfl u3) cf_41 (slices_ContainsFunc_of_api_Right_ok  _ _ hR2.no (FnR.mk (V := fnV_75) (W := fnW_75) (G := noG) (cap := [.pointer (some ⟨b4_, 0, none⟩)]) cf_42 (fun w' hE' x r hr => family_valid_1_ok _ _ ((Hb_b4_.exn (hA rfl)).exn hE') hr)) hz), trivial⟩ ?_
    intro ρ10 w10 hN hf hr
    have h57 : ρ10 57 = .bool z := hf 4 rfl
    obtain ⟨h0, h8, h9, h10⟩ := k4 hr h0 h8 h9 h10 rfl
    have H_l_ := H_l_.exn hN
    have hW := hW.trans hN
    have hsz := hW.size
    refine WP.cond rfl h57 (fun hb => ?_) (fun hb => ?_)
    · have hF := (if_pos hb).symm.trans hF
      refine WP.seq ?_
      refine WP.rb mixed [[]] [[]] [(2, .bool false)] (by kernel_rfl) ⟨fun ρz wz hE hA _ _ => core_val rfl rfl (o_assign rfl), trivial⟩ ?_
      intro ρ11 w11 hN hf hr
      have h2 : ρ11 2 = .bool false := hf 0 rfl
      have hW := hW.trans hN
      have hsz := hW.size
      refine WP.ret ?_
      show retQ Tryd.prog 59 Tryd.f26 (fun v w1 => v = .bool r ∧ Ext noG w0 w1) .ret ρ11 w11
      obtain rfl := Option.some.inj hF
      exact res1 rfl (by decide) h2 ⟨rfl, hW⟩
    have hF := (if_neg (Bool.eq_false_iff.1 hb)).symm.trans hF
    refine WP.skip ?_
    refine WP.rb mixed [[], [0]] [[10], []] [(58, .int .i64 (i64 (x + 1))), (10, .int .i64 (i64 (x + 1)))] (by kernel_rfl) ⟨fun ρz wz hE hA ⟨e10, _⟩ _ => core_val rfl rfl (o_add (e10.trans h10) rfl rfl),
 fun ρz wz hE hA _ ⟨u0, _⟩ => core_val rfl rfl (o_move u0), trivial⟩ ?_
    intro ρ12 w12 hN hf hr
    have h10 : ρ12 10 = .int .i64 (i64 (x + 1)) := hf 1 rfl
    obtain ⟨h0, h8, h9⟩ := k3 hr h0 h8 h9 rfl
    have H_l_ := H_l_.exn hN
    have hW := hW.trans hN
    have hsz := hW.size
    exact ⟨i64 (x + 1), h0, h8, h9, h10, H_l_, hW, hsz, (by first | exact hF | (rw [hrec_]; exact hF))⟩
  have hF := (if_neg (Bool.eq_false_iff.1 hb)).symm.trans hF
  refine WP.exit ?_
  refine thenQ_exit ?_
  refine thenQ_exit ?_
  refine blockQ_hit ?_
  refine WP.seq ?_
  refine WP.rb mixed [[]] [[]] [(2, .bool true)] (by kernel_rfl) ⟨fun ρz wz hE hA _ _ => core_val rfl rfl (o_assign rfl), trivial⟩ ?_
  intro ρ13 w13 hN hf hr
  have h2 : ρ13 2 = .bool true := hf 0 rfl
  have hW := hW.trans hN
  have hsz := hW.size
  refine WP.ret ?_
  show retQ Tryd.prog 59 Tryd.f26 (fun v w1 => v = .bool r ∧ Ext noG w0 w1) .ret ρ13 w13
  obtain rfl := Option.some.inj hF
  exact res1 rfl (by decide) h2 ⟨rfl, hW⟩

set_option maxHeartbeats 4000000 in
theorem family_Order_1_ok {w0 : World} (r_ : Right) (c_ : Int) {bc1_ : Nat} (Hb_bc1_ : Mb w0 bc1_ 3 [Value.int .i64 c_]) {r : Int} (hF : family_Order_1 r_ c_ = some r) :
    Calls Tryd.prog 28 #[Right.val r_, .pointer (some ⟨bc1_, 0, none⟩)] w0 fun e w1 => e = .returned (.int .i64 r) ∧ Ext noG w0 w1 := by
  refine (Calls.start (P := Tryd.prog) (args := [Right.val r_, .pointer (some ⟨bc1_, 0, none⟩)]) (R := fun v w1 => v = .int .i64 r ∧ Ext noG w0 w1) (n := 8) (w := w0) Tryd.func28 rfl rfl (Nat.le_of_ble_eq_true rfl) (fun ρ hargs => ?_)).mono (fun e w1 ⟨v, he, hv, hE⟩ => ⟨hv ▸ he, hE⟩)
  have h0 := hargs 0 _ rfl
  have h1 := hargs 1 _ rfl
  have hW := Ext.refl noG w0
  have hsz := Nat.le_refl w0.heap.size
  rw [family_Order_1] at hF
  refine WP.seq ?_
  refine WP.rg mixed [[], []] [[], []] [[0], []] [(2, fun u wz => ∃ b, u = .pointer (some ⟨b, 0, none⟩) ∧ w0.heap.size ≤ b ∧ Mb wz b 43 (Right.cells r_)), val 3 (.int .i64 0)] (by kernel_rfl) ⟨fun _ _ _ hE ⟨b, hb, hs, hM⟩ => ⟨b, hb, hs, hM.exn hE⟩, sV, trivial⟩ ⟨fun ρz wz hE hA ⟨e0, _⟩ _ => core_new rfl rfl hE (o_box (e0.trans h0) (bx_43 _ _)),
 fun ρz wz hE hA _ _ => core_val rfl rfl (o_assign rfl), trivial⟩ ?_
  intro ρ1 w1 hN hf hr
  obtain ⟨b2_, h2, hge_b2_, Hb_b2_⟩ := hf 0 rfl
  have h1 := (hr 1 rfl).trans h1
  have Hb_bc1_n := Hb_bc1_.exn hN
  have hW := hW.trans hN
  have Hb_bc1_ := Hb_bc1_n
  have hB_b2_ : w0.heap.size ≤ b2_ := Nat.le_trans hsz hge_b2_
  have hsz := hW.size
  refine WP.seq ?_
  refine WP.seq ?_
  refine WP.rb mixed [[], [0], [], [1, 2]] [[2], [], [1], []] [(4, .pointer (some ((⟨b2_, 0, none⟩ : Addr).add 0))), (5, .int .i64 r_.State), (6, .int .i64 c_), (7, .bool (r_.State == c_))] (by kernel_rfl) ⟨fun ρz wz hE hA ⟨e2, _⟩ _ => core_val rfl rfl (o_fieldAddr (e2.trans h2) (fa_43_0 _ _)),
 fun ρz wz hE hA _ ⟨u0, _⟩ => core_val rfl rfl (o_load u0 (run_load1 (lr_3 _ _) (CA.sub ((Hb_b2_.exn (hA rfl)).ca) 0 1))),
 fun ρz wz hE hA ⟨e1, _⟩ _ => core_val rfl rfl (o_load (e1.trans h1) (run_load1 (lr_3 _ _) ((Hb_bc1_.exn (hA rfl)).ca))),
 fun ρz wz hE hA _ ⟨u1, u2, _⟩ => core_val rfl rfl (o_eql u1 u2 rfl), trivial⟩ ?_
  intro ρ2 w2 hN hf hr
  have h7 : ρ2 7 = .bool (r_.State == c_) := hf 3 rfl
  have hW := hW.trans hN
  have hsz := hW.size
  refine WP.cond rfl h7 (fun hb => ?_) (fun hb => ?_)
  · have hF := (if_pos hb).symm.trans hF
    refine WP.seq ?_
    refine WP.rb mixed [[]] [[]] [(3, .int .i64 0)] (by kernel_rfl) ⟨fun ρz wz hE hA _ _ => core_val rfl rfl (o_assign rfl), trivial⟩ ?_
    intro ρ3 w3 hN hf hr
    have h3 : ρ3 3 = .int .i64 0 := hf 0 rfl
    have hW := hW.trans hN
    have hsz := hW.size
    refine WP.ret ?_
    show retQ Tryd.prog 8 Tryd.f28 (fun v w1 => v = .int .i64 r ∧ Ext noG w0 w1) .ret ρ3 w3
    obtain rfl := Option.some.inj hF
    exact res1 rfl (by decide) h3 ⟨rfl, hW⟩
  have hF := (if_neg (Bool.eq_false_iff.1 hb)).symm.trans hF
  refine WP.skip ?_
  refine WP.seq ?_
  refine WP.rb mixed [[]] [[]] [(3, .int .i64 1)] (by kernel_rfl) ⟨fun ρz wz hE hA _ _ => core_val rfl rfl (o_assign rfl), trivial⟩ ?_
  intro ρ4 w4 hN hf hr
  have h3 : ρ4 3 = .int .i64 1 := hf 0 rfl
  have hW := hW.trans hN
  have hsz := hW.size
  refine WP.ret ?_
  show retQ Tryd.prog 8 Tryd.f28 (fun v w1 => v = .int .i64 r ∧ Ext noG w0 w1) .ret ρ4 w4
  obtain rfl := Option.some.inj hF
  exact res1 rfl (by decide) h3 ⟨rfl, hW⟩

set_option maxHeartbeats 4000000 in
theorem family_Order_2_ok {w0 : World} (i_ : Int) (k_ : Int) (c_ : List Right) (c_2 : Right → Option Int) (c_3 : List Rate) (c_4 : Int) {bc2_ : Nat} {v_c_ : Value} (Hb_bc2_ : Mb w0 bc2_ 24 [v_c_]) (H_c_ : RepSl Right.R noG w0 v_c_ c_) {bc3_ : Nat} {v_c_2 : Value} (Hb_bc3_ : Mb w0 bc3_ 58 [v_c_2]) (H_c_2 : FnR Tryd.prog fnV_58 fnW_58 c_2 noG w0 v_c_2) {bc4_ : Nat} {v_c_3 : Value} (Hb_bc4_ : Mb w0 bc4_ 26 [v_c_3]) (H_c_3 : RepSl Rate.R noG w0 v_c_3 c_3) {bc5_ : Nat} (Hb_bc5_ : Mb w0 bc5_ 3 [Value.int .i64 c_4]) {r : Int} (hF : family_Order_2 i_ k_ c_ c_2 c_3 c_4 = some r) :
    Calls Tryd.prog 30 #[.int .i64 i_, .int .i64 k_, .pointer (some ⟨bc2_, 0, none⟩), .pointer (some ⟨bc3_, 0, none⟩), .pointer (some ⟨bc4_, 0, none⟩), .pointer (some ⟨bc5_, 0, none⟩)] w0 fun e w1 => e = .returned (.int .i64 r) ∧ Ext noG w0 w1 := by
  refine (Calls.start (P := Tryd.prog) (args := [.int .i64 i_, .int .i64 k_, .pointer (some ⟨bc2_, 0, none⟩), .pointer (some ⟨bc3_, 0, none⟩), .pointer (some ⟨bc4_, 0, none⟩), .pointer (some ⟨bc5_, 0, none⟩)]) (R := fun v w1 => v = .int .i64 r ∧ Ext noG w0 w1) (n := 47) (w := w0) Tryd.func30 rfl rfl (Nat.le_of_ble_eq_true rfl) (fun ρ hargs => ?_)).mono (fun e w1 ⟨v, he, hv, hE⟩ => ⟨hv ▸ he, hE⟩)
  have h0 := hargs 0 _ rfl
  have h1 := hargs 1 _ rfl
  have h2 := hargs 2 _ rfl
  have h3 := hargs 3 _ rfl
  have h4 := hargs 4 _ rfl
  have h5 := hargs 5 _ rfl
  have hW := Ext.refl noG w0
  have hsz := Nat.le_refl w0.heap.size
  obtain ⟨_, _, hs_H_c_, _, _⟩ := RepSl.shape H_c_
  have H_c_ := H_c_.start
  have H_c_2 := H_c_2.start
  obtain ⟨_, _, hs_H_c_3, _, _⟩ := RepSl.shape H_c_3
  have H_c_3 := H_c_3.start
  rw [family_Order_2] at hF
  refine WP.seq ?_
  refine WP.rb mixed [[]] [[]] [(8, .int .i64 0)] (by kernel_rfl) ⟨fun ρz wz hE hA _ _ => core_val rfl rfl (o_assign rfl), trivial⟩ ?_
  intro ρ1 w1 hN hf hr
  obtain ⟨h0, h1, h2, h3, h4, h5⟩ := k6 hr h0 h1 h2 h3 h4 h5 rfl
  have Hb_bc2_n := Hb_bc2_.exn hN
  have Hb_bc3_n := Hb_bc3_.exn hN
  have Hb_bc4_n := Hb_bc4_.exn hN
  have Hb_bc5_n := Hb_bc5_.exn hN
  have H_c_ := H_c_.exn hN
  have H_c_2 := H_c_2.exn hN
  have H_c_3 := H_c_3.exn hN
  have hW := hW.trans hN
  have Hb_bc2_ := Hb_bc2_n
  have Hb_bc3_ := Hb_bc3_n
  have Hb_bc4_ := Hb_bc4_n
  have Hb_bc5_ := Hb_bc5_n
  have hsz := hW.size
  refine WP.seq ?_
  obtain ⟨y, hy, hF⟩ := obind hF
  obtain ⟨ay, cy, hvy, hiy, hAy⟩ := RepSl.getF H_c_ hy
  obtain ⟨y2, hy2, hF⟩ := obind hF
  obtain ⟨ay2, cy2, hvy2, hiy2, hAy2⟩ := RepSl.getF H_c_ hy2
  refine WP.regionN mixed ⟨[[], [], [0, 1], [2], [], [], [4, 5], [6], [], [], [3, 8], [7, 9, 10]], [[], [], [0, 1], [2], [], [], [4, 5], [6], [], [], [3, 8], [7, 9]], [[2], [0], [], [], [2], [1], [], [], [], [], [], []], [10, 11], [(8, 10), (9, 11)], [(8, 9), (9, 10)], [(10, 9), (11, 10)]⟩ [val 11 (v_c_), val 12 (.int .i64 i_), val 13 (.pointer (some (ay.add (Int.toNat i_ * 4)))), val 14 (Right.val y), val 15 (v_c_), val 16 (.int .i64 k_), val 17 (.pointer (some (ay2.add (Int.toNat k_ * 4)))), val 18 (Right.val y2), (9, fun u wz => ∃ b, u = .pointer (some ⟨b, 0, none⟩) ∧ w1.heap.size ≤ b ∧ Mb wz b 43 (Right.cells (⟨0, 0, 0, 0⟩ : Right))), (10, fun u wz => ∃ b, u = .pointer (some ⟨b, 0, none⟩) ∧ w1.heap.size ≤ b ∧ Mb wz b 43 (Right.cells (⟨0, 0, 0, 0⟩ : Right))), (9, fun u wz => ∃ b, u = .pointer (some ⟨b, 0, none⟩) ∧ w1.heap.size ≤ b ∧ Mb wz b 43 (Right.cells y)), (10, fun u wz => ∃ b, u = .pointer (some ⟨b, 0, none⟩) ∧ w1.heap.size ≤ b ∧ Mb wz b 43 (Right.cells y2))] (fun b => w1.heap.size ≤ b) (by kernel_rfl) (.inr (fun _ h => h)) ⟨sV, sV, sV, sV, sV, sV, sV, sV, TStable.box, TStable.box, TStable.box, TStable.box, trivial⟩ ⟨fun ρz wz hE hA ⟨e2, _⟩ _ => core_val rfl rfl (o_load (e2.trans h2) (run_load1 (lr_24 _ _) ((Hb_bc2_.exn hE.fresh).ca))),
 fun ρz wz hE hA ⟨e0, _⟩ _ => core_val rfl rfl (o_move (e0.trans h0)),
 fun ρz wz hE hA _ ⟨u0, u1, _⟩ => core_val rfl rfl (o_indexAddr (u0.trans hvy) u1 (ia_24 hiy)),
 fun ρz wz hE hA _ ⟨u2, _⟩ => core_val rfl rfl (o_load u2 (run_loadN (cs := (Right.cells y)) (lr_43 _ _) rfl ((hAy.exn hE.fresh).ca))),
 fun ρz wz hE hA ⟨e2, _⟩ _ => core_val rfl rfl (o_load (e2.trans h2) (run_load1 (lr_24 _ _) ((Hb_bc2_.exn hE.fresh).ca))),
 fun ρz wz hE hA ⟨e1, _⟩ _ => core_val rfl rfl (o_move (e1.trans h1)),
 fun ρz wz hE hA _ ⟨u4, u5, _⟩ => core_val rfl rfl (o_indexAddr (u4.trans hvy2) u5 (ia_24 hiy2)),
 fun ρz wz hE hA _ ⟨u6, _⟩ => core_val rfl rfl (o_load u6 (run_loadN (cs := (Right.cells y2)) (lr_43 _ _) rfl ((hAy2.exn hE.fresh).ca))),
 fun ρz wz hE hA _ _ => core_newN rfl rfl rfl hE (o_alloc (al_43 _)),
 fun ρz wz hE hA _ _ => core_newN rfl rfl rfl hE (o_alloc (al_43 _)),
 fun ρz wz hE hA _ ⟨u3, u8, _⟩ => core_storeNewN rfl rfl u3 u8 (fun a w => st_43 _ a w) rfl (one_43 _),
 fun ρz wz hE hA _ ⟨u7, u9, _⟩ => core_storeNewN rfl rfl u7 u9 (fun a w => st_43 _ a w) rfl (one_43 _), trivial⟩ ?_
  intro ρ2 w2 hE hN hf hr hdist
  have hN := hE.fresh
  obtain ⟨b9_, h9, hge_b9_, Hb_b9_⟩ := hf 10 rfl
  obtain ⟨b10_, h10, hge_b10_, Hb_b10_⟩ := hf 11 rfl
  obtain ⟨h3, h4, h5⟩ := k3 hr h3 h4 h5 rfl
  have Hb_bc3_n := Hb_bc3_.exn hN
  have Hb_bc4_n := Hb_bc4_.exn hN
  have Hb_bc5_n := Hb_bc5_.exn hN
  have H_c_2 := H_c_2.exn hN
  have H_c_3 := H_c_3.exn hN
  have hW := hW.trans hN
  have Hb_bc3_ := Hb_bc3_n
  have Hb_bc4_ := Hb_bc4_n
  have Hb_bc5_ := Hb_bc5_n
  have hB_b9_ : w0.heap.size ≤ b9_ := Nat.le_trans hsz hge_b9_
  have hB_b10_ : w0.heap.size ≤ b10_ := Nat.le_trans hsz hge_b10_
  have hsz := hW.size
  refine WP.seq ?_
  obtain ⟨z, hz, hF⟩ := obind hF
  obtain ⟨z2, hz2, hF⟩ := obind hF
  obtain ⟨z3, hz3, hF⟩ := obind hF
  obtain ⟨z4, hz4, hF⟩ := obind hF
  obtain ⟨z5, hz5, hF⟩ := obind hF
  obtain ⟨z6, hz6, hF⟩ := obind hF
  obtain ⟨z7, hz7, hF⟩ := obind hF
  obtain ⟨z8, hz8, hF⟩ := obind hF
  obtain ⟨z9, hz9, hF⟩ := obind hF
  refine WP.rg mixed [[], [0], [], [2], [1, 3], [], [], [5, 6], [], [], [8, 9], [7, 10], [], [], [], [12, 13, 14], [], [], [], [16, 17, 18], [15, 19], [], [21], [], [23], [22, 24], [4, 11, 20, 25], [26], [27]] [[], [0], [], [2], [1, 3], [], [], [5, 6], [], [], [8, 9], [7, 10], [], [], [], [12, 13, 14], [], [], [], [16, 17, 18], [15, 19], [], [21], [], [23], [22, 24], [4, 11, 20, 25], [26], [27]] [[9], [], [10], [], [], [3], [9], [], [3], [10], [], [], [10], [4], [5], [], [9], [4], [5], [], [], [9], [], [10], [], [], [], [], []] [val 19 (.pointer (some ((⟨b9_, 0, none⟩ : Addr).add 1))), val 20 (.int .i64 y.Basis), val 21 (.pointer (some ((⟨b10_, 0, none⟩ : Addr).add 1))), val 22 (.int .i64 y2.Basis), val 23 (.int .i64 z), val 24 (v_c_2), val 25 (Right.val y), val 26 (.int .i64 z2), val 27 (v_c_2), val 28 (Right.val y2), val 29 (.int .i64 z3), val 30 (.int .i64 z4), val 31 (Right.val y2), val 32 (v_c_3), val 33 (.int .i64 c_4), val 34 (family_value.val z5), val 35 (Right.val y), val 36 (v_c_3), val 37 (.int .i64 c_4), val 38 (family_value.val z6), val 39 (.int .i64 z7), val 40 (.pointer (some ((⟨b9_, 0, none⟩ : Addr).add 0))), val 41 (.int .i64 y.State), val 42 (.pointer (some ((⟨b10_, 0, none⟩ : Addr).add 0))), val 43 (.int .i64 y2.State), val 44 (.int .i64 z8), (45, fun u wz => ∃ b, u = .slice (some ⟨b, 0, none⟩) 4 4 ∧ w2.heap.size ≤ b ∧ Mb wz b 3 (([z, z4, z7, z8]).flatMap (fun x : Int => [Value.int .i64 x]))), val 46 (.int .i64 z9), val 8 (.int .i64 z9)] (by kernel_rfl) ⟨sV, sV, sV, sV, sV, sV, sV, sV, sV, sV, sV, sV, sV, sV, sV, sV, sV, sV, sV, sV, sV, sV, sV, sV, sV, sV, fun _ _ _ hE ⟨b, hz, hs, hM⟩ => ⟨b, hz, hs, hM.exn hE⟩, sV, sV, trivial⟩ ⟨fun ρz wz hE hA ⟨e9, _⟩ _ => core_val rfl rfl (o_fieldAddr (e9.trans h9) (fa_43_1 _ _)),
 fun ρz wz hE hA _ ⟨u0, _⟩ => core_val rfl rfl (o_load u0 (run_load1 (lr_3 _ _) (CA.sub ((Hb_b9_.exn (hA rfl)).ca) 1 1))),
 fun ρz wz hE hA ⟨e10, _⟩ _ => core_val rfl rfl (o_fieldAddr (e10.trans h10) (fa_43_1 _ _)),
 fun ρz wz hE hA _ ⟨u2, _⟩ => core_val rfl rfl (o_load u2 (run_load1 (lr_3 _ _) (CA.sub ((Hb_b10_.exn (hA rfl)).ca) 1 1))),
 fun ρz wz hE hA _ ⟨u1, u3, _⟩ => core_call rfl (call_args2 u1 u3) cf_32 (cmp_Compare_of_int_ok  _ _  hz),
 fun ρz wz hE hA ⟨e3, _⟩ _ => core_val rfl rfl (o_load (e3.trans h3) (run_load1 (lr_58 _ _) ((Hb_bc3_.exn (hA rfl)).ca))),
 fun ρz wz hE hA ⟨e9, _⟩ _ => core_val rfl rfl (o_load (e9.trans h9) (run_loadN (cs := (Right.cells y)) (lr_43 _ _) rfl ((Hb_b9_.exn (hA rfl)).ca))),
 fun ρz wz hE hA _ ⟨u5, u6, _⟩ => core_callF (V := fnV_58) (W := fnW_58) (a := y) (r := z2) rfl u5 (call_args1 u6) (H_c_2.exn (hA rfl)).no hz2,
 fun ρz wz hE hA ⟨e3, _⟩ _ => core_val rfl rfl (o_load (e3.trans h3) (run_load1 (lr_58 _ _) ((Hb_bc3_.exn (hA rfl)).ca))),
 fun ρz wz hE hA ⟨e10, _⟩ _ => core_val rfl rfl (o_load (e10.trans h10) (run_loadN (cs := (Right.cells y2)) (lr_43 _ _) rfl ((Hb_b10_.exn (hA rfl)).ca))),
 fun ρz wz hE hA _ ⟨u8, u9, _⟩ => core_callF (V := fnV_58) (W := fnW_58) (a := y2) (r := z3) rfl u8 (call_args1 u9) (H_c_2.exn (hA rfl)).no hz3,
 fun ρz wz hE hA _ ⟨u7, u10, _⟩ => core_call rfl (call_args2 u7 u10) cf_32 (cmp_Compare_of_int_ok  _ _  hz4),
 fun ρz wz hE hA ⟨e10, _⟩ _ => core_val rfl rfl (o_load (e10.trans h10) (run_loadN (cs := (Right.cells y2)) (lr_43 _ _) rfl ((Hb_b10_.exn (hA rfl)).ca))),
 fun ρz wz hE hA ⟨e4, _⟩ _ => core_val rfl rfl (o_load (e4.trans h4) (run_load1 (lr_26 _ _) ((Hb_bc4_.exn (hA rfl)).ca))),
 fun ρz wz hE hA ⟨e5, _⟩ _ => core_val rfl rfl (o_load (e5.trans h5) (run_load1 (lr_3 _ _) ((Hb_bc5_.exn (hA rfl)).ca))),
 fun ρz wz hE hA _ ⟨u12, u13, u14, _⟩ => core_call rfl (call_args3 u12 u13 u14) cf_34 (family_worth_ok  _ _ _ (H_c_3.exn (hA rfl)).no hz5),
 fun ρz wz hE hA ⟨e9, _⟩ _ => core_val rfl rfl (o_load (e9.trans h9) (run_loadN (cs := (Right.cells y)) (lr_43 _ _) rfl ((Hb_b9_.exn (hA rfl)).ca))),
 fun ρz wz hE hA ⟨e4, _⟩ _ => core_val rfl rfl (o_load (e4.trans h4) (run_load1 (lr_26 _ _) ((Hb_bc4_.exn (hA rfl)).ca))),
 fun ρz wz hE hA ⟨e5, _⟩ _ => core_val rfl rfl (o_load (e5.trans h5) (run_load1 (lr_3 _ _) ((Hb_bc5_.exn (hA rfl)).ca))),
 fun ρz wz hE hA _ ⟨u16, u17, u18, _⟩ => core_call rfl (call_args3 u16 u17 u18) cf_34 (family_worth_ok  _ _ _ (H_c_3.exn (hA rfl)).no hz6),
 fun ρz wz hE hA _ ⟨u15, u19, _⟩ => core_call rfl (call_args2 u15 u19) cf_33 (family_compare_ok  _ _  hz7),
 fun ρz wz hE hA ⟨e9, _⟩ _ => core_val rfl rfl (o_fieldAddr (e9.trans h9) (fa_43_0 _ _)),
 fun ρz wz hE hA _ ⟨u21, _⟩ => core_val rfl rfl (o_load u21 (run_load1 (lr_3 _ _) (CA.sub ((Hb_b9_.exn (hA rfl)).ca) 0 1))),
 fun ρz wz hE hA ⟨e10, _⟩ _ => core_val rfl rfl (o_fieldAddr (e10.trans h10) (fa_43_0 _ _)),
 fun ρz wz hE hA _ ⟨u23, _⟩ => core_val rfl rfl (o_load u23 (run_load1 (lr_3 _ _) (CA.sub ((Hb_b10_.exn (hA rfl)).ca) 0 1))),
 fun ρz wz hE hA _ ⟨u22, u24, _⟩ => core_call rfl (call_args2 u22 u24) cf_32 (cmp_Compare_of_int_ok  _ _  hz8),
 fun ρz wz hE hA _ ⟨u4, u11, u20, u25, _⟩ => core_slice rfl rfl hE (o_buildSlice (build_parts4 u4 u11 u20 u25) (bs_23_4 _ _ _ _ _)),
 fun ρz wz hE hA _ ⟨⟨bz26, hz26, hge26, hM26⟩, _⟩ => core_call rfl (call_args1 hz26) cf_31 (cmp_Or_of_int_ok  _ (Mb.rep (n := 1) (cells := fun x : Int => [Value.int .i64 x]) (hn := fun _ => rfl) (G := noG) hM26 rfl (Nat.le_of_ble_eq_true rfl) (fun h => h)).no hz9),
 fun ρz wz hE hA _ ⟨u27, _⟩ => core_val rfl rfl (o_assign u27), trivial⟩ ?_
  intro ρ3 w3 hN hf hr
  have h8 : ρ3 8 = .int .i64 z9 := hf 28 rfl
  have hW := hW.trans hN
  have hsz := hW.size
  refine WP.ret ?_
  show retQ Tryd.prog 47 Tryd.f30 (fun v w1 => v = .int .i64 r ∧ Ext noG w0 w1) .ret ρ3 w3
  obtain rfl := Option.some.inj hF
  exact res1 rfl (by decide) h8 ⟨rfl, hW⟩

set_option maxHeartbeats 4000000 in
theorem bits_Len32_ok {w0 : World} (x_ : Int) {r : Int} (hF : bits_Len32 x_ = some r) :
    Calls Tryd.prog 78 #[.int .u32 x_] w0 fun e w1 => e = .returned (.int .i64 r) ∧ Ext noG w0 w1 := by
  refine (Calls.start (P := Tryd.prog) (args := [.int .u32 x_]) (R := fun v w1 => v = .int .i64 r ∧ Ext noG w0 w1) (n := 19) (w := w0) Tryd.func78 rfl rfl (Nat.le_of_ble_eq_true rfl) (fun ρ hargs => ?_)).mono (fun e w1 ⟨v, he, hv, hE⟩ => ⟨hv ▸ he, hE⟩)
  have h0 := hargs 0 _ rfl
  have hW := Ext.refl noG w0
  have hsz := Nat.le_refl w0.heap.size
  rw [bits_Len32] at hF
  refine WP.seq ?_
  refine WP.rb mixed [[]] [[]] [(2, .int .i64 0)] (by kernel_rfl) ⟨fun ρz wz hE hA _ _ => core_val rfl rfl (o_assign rfl), trivial⟩ ?_
  intro ρ1 w1 hN hf hr
  have h2 : ρ1 2 = .int .i64 0 := hf 0 rfl
  have h0 := (hr 0 rfl).trans h0
  have hW := hW.trans hN
  have hsz := hW.size
  refine WP.seqJ (fun ρ w => ∃ x_2 : Int, ∃ n_ : Int, ρ 0 = .int .u32 x_2 ∧ ρ 2 = .int .i64 n_ ∧ Ext noG w0 w ∧ w0.heap.size ≤ w.heap.size ∧ bits_Len32_j x_2 n_ = some r) ?_ ?_
  · refine WP.seq ?_
    refine WP.rb mixed [[], [0]] [[0], []] [(3, .int .u32 x_), (4, .bool (decide (65536 ≤ x_)))] (by kernel_rfl) ⟨fun ρz wz hE hA ⟨e0, _⟩ _ => core_val rfl rfl (o_move (e0.trans h0)),
 fun ρz wz hE hA _ ⟨u0, _⟩ => core_val rfl rfl (o_geq u0 rfl rfl), trivial⟩ ?_
    intro ρ8 w8 hN hf hr
    have h4 : ρ8 4 = .bool (decide (65536 ≤ x_)) := hf 1 rfl
    obtain ⟨h0, h2⟩ := k2 hr h0 h2 rfl
    have hW := hW.trans hN
    have hsz := hW.size
    refine WP.cond rfl h4 (fun hb => ?_) (fun hb => ?_)
    · have hF := (if_pos hb).symm.trans hF
      refine WP.seq ?_
      refine WP.rv mixed [[], [0], [0, 1]] [[], [0], [1]] [[0], [], []] [(5, .int .u32 x_), (6, .int .u32 (shrK .u32 x_ 16)), (0, .int .u32 (shrK .u32 x_ 16))] (by kernel_rfl) ⟨fun ρz wz hE hA ⟨e0, _⟩ _ => core_val rfl rfl (o_move (e0.trans h0)),
 fun ρz wz hE hA _ ⟨u0, _⟩ => core_val rfl rfl (o_shr u0 rfl (by decide) rfl),
 fun ρz wz hE hA _ ⟨u1, _⟩ => core_val rfl rfl (o_assign u1), trivial⟩ ?_
      intro ρ9 w9 hN hf hr
      have h0 : ρ9 0 = .int .u32 (shrK .u32 x_ 16) := hf 2 rfl
      have hW := hW.trans hN
      have hsz := hW.size
      refine WP.rb mixed [[]] [[]] [(2, .int .i64 16)] (by kernel_rfl) ⟨fun ρz wz hE hA _ _ => core_val rfl rfl (o_assign rfl), trivial⟩ ?_
      intro ρ10 w10 hN hf hr
      have h2 : ρ10 2 = .int .i64 16 := hf 0 rfl
      have h0 := (hr 0 rfl).trans h0
      have hW := hW.trans hN
      have hsz := hW.size
      exact ⟨shrK .u32 x_ 16, 16, h0, h2, hW, hsz, hF⟩
    have hF := (if_neg (Bool.eq_false_iff.1 hb)).symm.trans hF
    refine WP.skip ?_
    exact ⟨x_, 0, h0, h2, hW, hsz, hF⟩
  rintro ρ2 w2 ⟨x_2, n_, h0, h2, hW, hsz, hF⟩
  rw [bits_Len32_j] at hF
  refine WP.seqJ (fun ρ w => ∃ x_3 : Int, ∃ n_2 : Int, ρ 0 = .int .u32 x_3 ∧ ρ 2 = .int .i64 n_2 ∧ Ext noG w0 w ∧ w0.heap.size ≤ w.heap.size ∧ bits_Len32_j2 x_3 n_2 = some r) ?_ ?_
  · refine WP.seq ?_
    refine WP.rb mixed [[], [0]] [[0], []] [(7, .int .u32 x_2), (8, .bool (decide (256 ≤ x_2)))] (by kernel_rfl) ⟨fun ρz wz hE hA ⟨e0, _⟩ _ => core_val rfl rfl (o_move (e0.trans h0)),
 fun ρz wz hE hA _ ⟨u0, _⟩ => core_val rfl rfl (o_geq u0 rfl rfl), trivial⟩ ?_
    intro ρ5 w5 hN hf hr
    have h8 : ρ5 8 = .bool (decide (256 ≤ x_2)) := hf 1 rfl
    obtain ⟨h0, h2⟩ := k2 hr h0 h2 rfl
    have hW := hW.trans hN
    have hsz := hW.size
    refine WP.cond rfl h8 (fun hb => ?_) (fun hb => ?_)
    · have hF := (if_pos hb).symm.trans hF
      refine WP.seq ?_
      refine WP.rv mixed [[], [0], [0, 1]] [[], [0], [1]] [[0], [], []] [(9, .int .u32 x_2), (10, .int .u32 (shrK .u32 x_2 8)), (0, .int .u32 (shrK .u32 x_2 8))] (by kernel_rfl) ⟨fun ρz wz hE hA ⟨e0, _⟩ _ => core_val rfl rfl (o_move (e0.trans h0)),
 fun ρz wz hE hA _ ⟨u0, _⟩ => core_val rfl rfl (o_shr u0 rfl (by decide) rfl),
 fun ρz wz hE hA _ ⟨u1, _⟩ => core_val rfl rfl (o_assign u1), trivial⟩ ?_
      intro ρ6 w6 hN hf hr
      have h0 : ρ6 0 = .int .u32 (shrK .u32 x_2 8) := hf 2 rfl
      have h2 := (hr 2 rfl).trans h2
      have hW := hW.trans hN
      have hsz := hW.size
      refine WP.rv mixed [[], [0], [0, 1]] [[], [0], [1]] [[2], [], []] [(11, .int .i64 n_), (12, .int .i64 (i64 (n_ + 8))), (2, .int .i64 (i64 (n_ + 8)))] (by kernel_rfl) ⟨fun ρz wz hE hA ⟨e2, _⟩ _ => core_val rfl rfl (o_move (e2.trans h2)),
 fun ρz wz hE hA _ ⟨u0, _⟩ => core_val rfl rfl (o_add u0 rfl rfl),
 fun ρz wz hE hA _ ⟨u1, _⟩ => core_val rfl rfl (o_assign u1), trivial⟩ ?_
      intro ρ7 w7 hN hf hr
      have h2 : ρ7 2 = .int .i64 (i64 (n_ + 8)) := hf 2 rfl
      have h0 := (hr 0 rfl).trans h0
      have hW := hW.trans hN
      have hsz := hW.size
      exact ⟨shrK .u32 x_2 8, i64 (n_ + 8), h0, h2, hW, hsz, hF⟩
    have hF := (if_neg (Bool.eq_false_iff.1 hb)).symm.trans hF
    refine WP.skip ?_
    exact ⟨x_2, n_, h0, h2, hW, hsz, hF⟩
  rintro ρ3 w3 ⟨x_3, n_2, h0, h2, hW, hsz, hF⟩
  rw [bits_Len32_j2] at hF
  refine WP.seq ?_
  obtain ⟨y, hy, hF⟩ := obind hF
  refine WP.rv mixed [[], [], [1], [2], [3], [0, 4], [0, 5]] [[], [], [1], [2], [3], [0, 4], [5]] [[2], [0], [], [], [], [], []] [(13, .int .i64 n_2), (14, .int .u32 x_3), (15, .int .u8 ((IntKind.u8.wrap) x_3)), (16, .int .u8 y), (17, .int .i64 (i64 y)), (18, .int .i64 (i64 (n_2 + i64 y))), (2, .int .i64 (i64 (n_2 + i64 y)))] (by kernel_rfl) ⟨fun ρz wz hE hA ⟨e2, _⟩ _ => core_val rfl rfl (o_move (e2.trans h2)),
 fun ρz wz hE hA ⟨e0, _⟩ _ => core_val rfl rfl (o_move (e0.trans h0)),
 fun ρz wz hE hA _ ⟨u1, _⟩ => core_val rfl rfl (o_conv u1 (cv_103_5 _ _)),
 fun ρz wz hE hA _ ⟨u2, _⟩ => core_val rfl rfl (o_index rfl u2 (by kernel_rfl) hy),
 fun ρz wz hE hA _ ⟨u3, _⟩ => core_val rfl rfl (o_conv u3 (cv_5_3 _ _)),
 fun ρz wz hE hA _ ⟨u0, u4, _⟩ => core_val rfl rfl (o_add u0 u4 rfl),
 fun ρz wz hE hA _ ⟨u5, _⟩ => core_val rfl rfl (o_assign u5), trivial⟩ ?_
  intro ρ4 w4 hN hf hr
  have h2 : ρ4 2 = .int .i64 (i64 (n_2 + i64 y)) := hf 6 rfl
  have hW := hW.trans hN
  have hsz := hW.size
  refine WP.ret ?_
  show retQ Tryd.prog 19 Tryd.f78 (fun v w1 => v = .int .i64 r ∧ Ext noG w0 w1) .ret ρ4 w4
  obtain rfl := Option.some.inj hF
  exact res1 rfl (by decide) h2 ⟨rfl, hW⟩

set_option maxHeartbeats 4000000 in
theorem bits_Len_ok {w0 : World} (x_ : Int) {r : Int} (hF : bits_Len x_ = some r) :
    Calls Tryd.prog 48 #[.int .u64 x_] w0 fun e w1 => e = .returned (.int .i64 r) ∧ Ext noG w0 w1 := by
  refine (Calls.start (P := Tryd.prog) (args := [.int .u64 x_]) (R := fun v w1 => v = .int .i64 r ∧ Ext noG w0 w1) (n := 8) (w := w0) Tryd.func48 rfl rfl (Nat.le_of_ble_eq_true rfl) (fun ρ hargs => ?_)).mono (fun e w1 ⟨v, he, hv, hE⟩ => ⟨hv ▸ he, hE⟩)
  have h0 := hargs 0 _ rfl
  have hW := Ext.refl noG w0
  have hsz := Nat.le_refl w0.heap.size
  rw [bits_Len] at hF
  refine WP.seq ?_
  refine WP.rb mixed [[]] [[]] [(2, .int .i64 0)] (by kernel_rfl) ⟨fun ρz wz hE hA _ _ => core_val rfl rfl (o_assign rfl), trivial⟩ ?_
  intro ρ1 w1 hN hf hr
  have h0 := (hr 0 rfl).trans h0
  have hW := hW.trans hN
  have hsz := hW.size
  refine WP.seq ?_
  refine WP.cond (t := false) rfl rfl (fun hb => ?_) (fun hb => ?_)
  · exact absurd hb (by decide)
  · refine WP.skip ?_
    refine WP.seq ?_
    obtain ⟨z, hz, hF⟩ := obind hF
    refine WP.rb mixed [[], [0], [1]] [[0], [], []] [(6, .int .u64 x_), (7, .int .i64 z), (2, .int .i64 z)] (by kernel_rfl) ⟨fun ρz wz hE hA ⟨e0, _⟩ _ => core_val rfl rfl (o_move (e0.trans h0)),
 fun ρz wz hE hA _ ⟨u0, _⟩ => core_call rfl (call_args1 u0) cf_79 (bits_Len64_ok  _  hz),
 fun ρz wz hE hA _ ⟨u1, _⟩ => core_val rfl rfl (o_assign u1), trivial⟩ ?_
    intro ρ2 w2 hN hf hr
    have h2 : ρ2 2 = .int .i64 z := hf 2 rfl
    have hW := hW.trans hN
    have hsz := hW.size
    refine WP.ret ?_
    show retQ Tryd.prog 8 Tryd.f48 (fun v w1 => v = .int .i64 r ∧ Ext noG w0 w1) .ret ρ2 w2
    obtain rfl := Option.some.inj hF
    exact res1 rfl (by decide) h2 ⟨rfl, hW⟩

set_option maxHeartbeats 4000000 in
theorem slices_insertionSortCmpFunc_of_int_ok {w0 : World} (data_ : List Int) (a_ : Int) (b_ : Int) (cmp_ : (Int × Int) → Option Int) {v_data_ : Value} {B : Nat} (O0 : Own B 3 1 (fun x : Int => [Value.int .i64 x]) w0 v_data_ data_) {v_cmp_ : Value} (H_cmp_ : FnR Tryd.prog fnV_28 fnW_28 cmp_ (fun b => Value.ownBlock v_data_ = some b) w0 v_cmp_) {r : List Int} (hF : slices_insertionSortCmpFunc_of_int data_ a_ b_ cmp_ = some r) :
    Calls Tryd.prog 70 #[v_data_, .int .i64 a_, .int .i64 b_, v_cmp_] w0 fun e w1 => e = .returned (.tuple #[]) ∧ Ext (fun b => Value.ownBlock v_data_ = some b) w0 w1 ∧ Own B 3 1 (fun x : Int => [Value.int .i64 x]) w1 v_data_ r := by
  refine (Calls.start (P := Tryd.prog) (args := [v_data_, .int .i64 a_, .int .i64 b_, v_cmp_]) (R := fun v w1 => (v = .tuple #[] ∧ Own B 3 1 (fun x : Int => [Value.int .i64 x]) w1 v_data_ r) ∧ Ext (fun b => Value.ownBlock v_data_ = some b) w0 w1) (n := 53) (w := w0) Tryd.func70 rfl rfl (Nat.le_of_ble_eq_true rfl) (fun ρ hargs => ?_)).mono (fun e w1 ⟨v, he, hv, hE⟩ => ⟨hv.1 ▸ he, hE, hv.2⟩)
  have h0 := hargs 0 _ rfl
  have h1 := hargs 1 _ rfl
  have h2 := hargs 2 _ rfl
  have h3 := hargs 3 _ rfl
  have hW := Ext.refl (fun b => Value.ownBlock v_data_ = some b) w0
  have hsz := Nat.le_refl w0.heap.size
  have H_cmp_ := H_cmp_.start
  rw [slices_insertionSortCmpFunc_of_int] at hF
  refine WP.seq ?_
  refine WP.rb mixed [[], [0], [1]] [[1], [], []] [(10, .int .i64 a_), (11, .int .i64 (i64 (a_ + 1))), (8, .int .i64 (i64 (a_ + 1)))] (by kernel_rfl) ⟨fun ρz wz hE hA ⟨e1, _⟩ _ => core_val rfl rfl (o_move (e1.trans h1)),
 fun ρz wz hE hA _ ⟨u0, _⟩ => core_val rfl rfl (o_add u0 rfl rfl),
 fun ρz wz hE hA _ ⟨u1, _⟩ => core_val rfl rfl (o_assign u1), trivial⟩ ?_
  intro ρ1 w1 hN hf hr
  have h8 : ρ1 8 = .int .i64 (i64 (a_ + 1)) := hf 2 rfl
  obtain ⟨h0, h1, h2, h3⟩ := k4 hr h0 h1 h2 h3 rfl
  have Oo_O0 := O0
  have H_cmp_ := H_cmp_.exn hN
  have hW := hW.trans hN.of_no
  have O0 := O0.exn hN
  have hsz := hW.size
  refine WP.block ?_
  refine WP.loop (fun k_ ρ w => ∃ i_ : Int, ∃ data_l : List Int, ρ 0 = v_data_ ∧ ρ 1 = .int .i64 a_ ∧ ρ 2 = .int .i64 b_ ∧ ρ 3 = v_cmp_ ∧ ρ 8 = .int .i64 i_ ∧ FnR Tryd.prog fnV_28 fnW_28 cmp_ (gfr (fun b => Value.ownBlock v_data_ = some b) w0) w v_cmp_ ∧ Own B 3 1 (fun x : Int => [Value.int .i64 x]) w v_data_ data_l ∧ Ext (fun b => Value.ownBlock v_data_ = some b) w0 w ∧ w0.heap.size ≤ w.heap.size ∧ loopC k_ (slices_insertionSortCmpFunc_of_int_l a_ b_ cmp_) (i_, data_l) = some r) FU ⟨i64 (a_ + 1), data_, h0, h1, h2, h3, h8, H_cmp_, O0, hW, hsz, hF⟩ (fun _ _ h => by obtain ⟨_, _, _, _, _, _, _, _, _, _, _, h⟩ := h; cases h) ?_
  rintro k_ ρ2 w2 ⟨i_, data_l, h0, h1, h2, h3, h8, H_cmp_, O0, hW, hsz, hF⟩
  have hF : slices_insertionSortCmpFunc_of_int_l a_ b_ cmp_ (loopC k_ (slices_insertionSortCmpFunc_of_int_l a_ b_ cmp_)) (i_, data_l) = some r := hF
  generalize hrec_ : loopC k_ (slices_insertionSortCmpFunc_of_int_l a_ b_ cmp_) = rec_ at hF
  rw [slices_insertionSortCmpFunc_of_int_l] at hF
  refine WP.seq ?_
  refine WP.seq ?_
  refine WP.rb mixed [[], [], [0, 1]] [[8], [2], []] [(12, .int .i64 i_), (13, .int .i64 b_), (14, .bool (decide (i_ < b_)))] (by kernel_rfl) ⟨fun ρz wz hE hA ⟨e8, _⟩ _ => core_val rfl rfl (o_move (e8.trans h8)),
 fun ρz wz hE hA ⟨e2, _⟩ _ => core_val rfl rfl (o_move (e2.trans h2)),
 fun ρz wz hE hA _ ⟨u0, u1, _⟩ => core_val rfl rfl (o_lss u0 u1 rfl), trivial⟩ ?_
  intro ρ3 w3 hN hf hr
  have h14 : ρ3 14 = .bool (decide (i_ < b_)) := hf 2 rfl
  obtain ⟨h0, h1, h2, h3, h8⟩ := k5 hr h0 h1 h2 h3 h8 rfl
  have Oo_O0 := O0
  have H_cmp_ := H_cmp_.exn hN
  have hW := hW.trans hN.of_no
  have O0 := O0.exn hN
  have hsz := hW.size
  refine WP.cond rfl h14 (fun hb => ?_) (fun hb => ?_)
  · have hF := (if_pos hb).symm.trans hF
    refine WP.skip ?_
    refine WP.seq ?_
    refine WP.block ?_
    refine WP.seq ?_
    refine WP.rb mixed [[], [0]] [[8], []] [(17, .int .i64 i_), (9, .int .i64 i_)] (by kernel_rfl) ⟨fun ρz wz hE hA ⟨e8, _⟩ _ => core_val rfl rfl (o_move (e8.trans h8)),
 fun ρz wz hE hA _ ⟨u0, _⟩ => core_val rfl rfl (o_assign u0), trivial⟩ ?_
    intro ρ4 w4 hN hf hr
    have h9 : ρ4 9 = .int .i64 i_ := hf 1 rfl
    obtain ⟨h0, h1, h2, h3, h8⟩ := k5 hr h0 h1 h2 h3 h8 rfl
    have Oo_O0 := O0
    have H_cmp_ := H_cmp_.exn hN
    have hW := hW.trans hN.of_no
    have O0 := O0.exn hN
    have hsz := hW.size
    refine WP.block ?_
    refine WP.loop (fun k_2 ρ w => ∃ j_ : Int, ∃ data_l2 : List Int, ρ 0 = v_data_ ∧ ρ 1 = .int .i64 a_ ∧ ρ 2 = .int .i64 b_ ∧ ρ 3 = v_cmp_ ∧ ρ 8 = .int .i64 i_ ∧ ρ 9 = .int .i64 j_ ∧ FnR Tryd.prog fnV_28 fnW_28 cmp_ (gfr (fun b => Value.ownBlock v_data_ = some b) w0) w v_cmp_ ∧ Own B 3 1 (fun x : Int => [Value.int .i64 x]) w v_data_ data_l2 ∧ Ext (fun b => Value.ownBlock v_data_ = some b) w0 w ∧ w0.heap.size ≤ w.heap.size ∧ loopC k_2 (slices_insertionSortCmpFunc_of_int_l2 a_ cmp_ i_ rec_) (j_, data_l2) = some r) FU ⟨i_, data_l, h0, h1, h2, h3, h8, h9, H_cmp_, O0, hW, hsz, hF⟩ (fun _ _ h => by obtain ⟨_, _, _, _, _, _, _, _, _, _, _, _, h⟩ := h; cases h) ?_
    rintro k_2 ρ5 w5 ⟨j_, data_l2, h0, h1, h2, h3, h8, h9, H_cmp_, O0, hW, hsz, hF⟩
    have hF : slices_insertionSortCmpFunc_of_int_l2 a_ cmp_ i_ rec_ (loopC k_2 (slices_insertionSortCmpFunc_of_int_l2 a_ cmp_ i_ rec_)) (j_, data_l2) = some r := hF
    generalize hrec_2 : loopC k_2 (slices_insertionSortCmpFunc_of_int_l2 a_ cmp_ i_ rec_) = rec_2 at hF
    rw [slices_insertionSortCmpFunc_of_int_l2] at hF
    refine WP.seq ?_
    refine WP.seq ?_
    obtain ⟨c, hc, hF⟩ := obind hF
    obtain ⟨y, hy, hc⟩ := andB hc
    obtain ⟨ay, cy, hvy, hiy, hAy⟩ := RepSl.getFI (Own.rep (hn := fun _ => rfl) (G := noG) O0 (fun _ _ h => h)) hy
    obtain ⟨y2, hy2, hc⟩ := andB hc
    obtain ⟨ay2, cy2, hvy2, hiy2, hAy2⟩ := RepSl.getFI (Own.rep (hn := fun _ => rfl) (G := noG) O0 (fun _ _ h => h)) hy2
    obtain ⟨z, hz, hc⟩ := andB hc
    have hc := andE hc
    refine WP.rb mixed [[], [], [0, 1], [2], [3], [3], [3], [3, 5, 6], [3, 7], [3], [3], [3, 10], [3, 9, 11], [3, 12], [3, 4, 8, 13], [3, 14], [3, 15]] [[9], [1], [], [], [3], [0], [9], [], [], [0], [9], [], [], [], [], [], []] [(18, .int .i64 j_), (19, .int .i64 a_), (20, .bool (decide (a_ < j_))), (21, .bool (decide (a_ < j_))), (22, gv (decide (a_ < j_)) v_cmp_), (23, gv (decide (a_ < j_)) v_data_), (24, gv (decide (a_ < j_)) (.int .i64 j_)), (25, gv (decide (a_ < j_)) (.pointer (some (ay.add (Int.toNat j_ * 1))))), (26, gv (decide (a_ < j_)) (.int .i64 y)), (27, gv (decide (a_ < j_)) v_data_), (28, gv (decide (a_ < j_)) (.int .i64 j_)), (29, gv (decide (a_ < j_)) (.int .i64 (i64 (j_ - 1)))), (30, gv (decide (a_ < j_)) (.pointer (some (ay2.add (Int.toNat (i64 (j_ - 1)) * 1))))), (31, gv (decide (a_ < j_)) (.int .i64 y2)), (32, gv (decide (a_ < j_)) (.int .i64 z)), (33, gv (decide (a_ < j_)) (.bool (decide (z < 0)))), (34, .bool c)] (by kernel_rfl) ⟨fun ρz wz hE hA ⟨e9, _⟩ _ => core_val rfl rfl (o_move (e9.trans h9)),
 fun ρz wz hE hA ⟨e1, _⟩ _ => core_val rfl rfl (o_move (e1.trans h1)),
 fun ρz wz hE hA _ ⟨u0, u1, _⟩ => core_val rfl rfl (o_gtr u0 u1 rfl),
 fun ρz wz hE hA _ ⟨u2, _⟩ => core_val rfl rfl (o_move u2),
 fun ρz wz hE hA ⟨e3, _⟩ ⟨u3, _⟩ => gIf rfl rfl (yT rfl u3) fun gc F hF => core_val rfl hF (o_move (e3.trans h3)),
 fun ρz wz hE hA ⟨e0, _⟩ ⟨u3, _⟩ => gIf rfl rfl (yT rfl u3) fun gc F hF => core_val rfl hF (o_move (e0.trans h0)),
 fun ρz wz hE hA ⟨e9, _⟩ ⟨u3, _⟩ => gIf rfl rfl (yT rfl u3) fun gc F hF => core_val rfl hF (o_move (e9.trans h9)),
 fun ρz wz hE hA _ ⟨u3, u5, u6, _⟩ => gIf rfl rfl (yT rfl u3) fun gc F hF => core_val rfl hF (o_indexAddr ((gt gc u5).trans (hvy gc)) (gt gc u6) (ia_23 (hiy gc))),
 fun ρz wz hE hA _ ⟨u3, u7, _⟩ => gIf rfl rfl (yT rfl u3) fun gc F hF => core_val rfl hF (o_load (gt gc u7) (run_load1 (lr_3 _ _) (((hAy gc).exn (hA rfl)).ca))),
 fun ρz wz hE hA ⟨e0, _⟩ ⟨u3, _⟩ => gIf rfl rfl (yT rfl u3) fun gc F hF => core_val rfl hF (o_move (e0.trans h0)),
 fun ρz wz hE hA ⟨e9, _⟩ ⟨u3, _⟩ => gIf rfl rfl (yT rfl u3) fun gc F hF => core_val rfl hF (o_move (e9.trans h9)),
 fun ρz wz hE hA _ ⟨u3, u10, _⟩ => gIf rfl rfl (yT rfl u3) fun gc F hF => core_val rfl hF (o_sub (gt gc u10) rfl rfl),
 fun ρz wz hE hA _ ⟨u3, u9, u11, _⟩ => gIf rfl rfl (yT rfl u3) fun gc F hF => core_val rfl hF (o_indexAddr ((gt gc u9).trans (hvy2 gc)) (gt gc u11) (ia_23 (hiy2 gc))),
 fun ρz wz hE hA _ ⟨u3, u12, _⟩ => gIf rfl rfl (yT rfl u3) fun gc F hF => core_val rfl hF (o_load (gt gc u12) (run_load1 (lr_3 _ _) (((hAy2 gc).exn (hA rfl)).ca))),
 fun ρz wz hE hA _ ⟨u3, u4, u8, u13, _⟩ => gIf rfl rfl (yT rfl u3) fun gc F hF => core_callF (V := fnV_28) (W := fnW_28) (a := (y, y2)) (r := z) hF (gt gc u4) (call_args2 (gt gc u8) (gt gc u13)) (H_cmp_.exn (hA rfl)).no (hz gc),
 fun ρz wz hE hA _ ⟨u3, u14, _⟩ => gIf rfl rfl (yT rfl u3) fun gc F hF => core_val rfl hF (o_lss (gt gc u14) rfl rfl),
 fun ρz wz hE hA _ ⟨u3, u15, _⟩ => core_valE rfl rfl (congrArg Value.bool hc) (o_pick_and u3 u15 rfl), trivial⟩ ?_
    intro ρ6 w6 hN hf hr
    have h34 : ρ6 34 = .bool c := hf 16 rfl
    obtain ⟨h0, h1, h2, h3, h8, h9⟩ := k6 hr h0 h1 h2 h3 h8 h9 rfl
    have Oo_O0 := O0
    have H_cmp_ := H_cmp_.exn hN
    have hW := hW.trans hN.of_no
    have O0 := O0.exn hN
    have hsz := hW.size
    refine WP.cond rfl h34 (fun hb => ?_) (fun hb => ?_)
    · have hF := (if_pos hb).symm.trans hF
      refine WP.skip ?_
      refine WP.seq ?_
      refine WP.block ?_
      obtain ⟨y3, hy3, hF⟩ := obind hF
      obtain ⟨ay3, cy3, hvy3, hiy3, hAy3⟩ := RepSl.getF (Own.rep (hn := fun _ => rfl) (G := noG) O0 (fun _ _ h => h)) hy3
      obtain ⟨y4, hy4, hF⟩ := obind hF
      obtain ⟨ay4, cy4, hvy4, hiy4, hAy4⟩ := RepSl.getF (Own.rep (hn := fun _ => rfl) (G := noG) O0 (fun _ _ h => h)) hy4
      obtain ⟨y5, hy5, hF⟩ := obind hF
      obtain ⟨ay5, cy5, hvy5, hiy5, hAy5⟩ := RepSl.getF (Own.rep (hn := fun _ => rfl) (G := noG) O0 (fun _ _ h => h)) hy5
      obtain ⟨y6, hy6, hF⟩ := obind hF
      obtain ⟨ay6, cy6, hvy6, hiy6, hAy6⟩ := RepSl.getF (Own.rep (hn := fun _ => rfl) (G := noG) O0 (fun _ _ h => h)) hy6
      refine WP.region mixed [[], [], [], [], [3], [], [], [6], [5, 7], [8], [], [], [10, 11], [12], [0, 1], [9, 13, 14], [2, 4, 15], [9, 13, 15, 16]] [[], [], [], [], [3], [], [], [6], [5, 7], [8], [], [], [10, 11], [12], [0, 1], [9, 14], [2, 4], [13, 15, 16]] [[0], [9], [0], [9], [], [0], [9], [], [], [], [0], [9], [], [], [], [], [], []] [15, 17] [(15, 17)] [val 37 (v_data_), val 38 (.int .i64 j_), val 39 (v_data_), val 40 (.int .i64 j_), val 41 (.int .i64 (i64 (j_ - 1))), val 42 (v_data_), val 43 (.int .i64 j_), val 44 (.int .i64 (i64 (j_ - 1))), val 45 (.pointer (some (ay3.add (Int.toNat (i64 (j_ - 1)) * 1)))), val 46 (.int .i64 y3), val 47 (v_data_), val 48 (.int .i64 j_), val 49 (.pointer (some (ay4.add (Int.toNat j_ * 1)))), val 50 (.int .i64 y4), val 51 (.pointer (some (ay5.add (Int.toNat j_ * 1)))), (51, fun _ wz => Own B 3 1 (fun x : Int => [Value.int .i64 x]) wz v_data_ (setI data_l2 j_ y3)), val 52 (.pointer (some (ay6.add (Int.toNat (i64 (j_ - 1)) * 1)))), (52, fun _ wz => Own B 3 1 (fun x : Int => [Value.int .i64 x]) wz v_data_ (setI (setI data_l2 j_ y3) (i64 (j_ - 1)) y4))] (fun b => Value.ownBlock v_data_ = some b) (by kernel_rfl) ⟨sV, sV, sV, sV, sV, sV, sV, sV, sV, sV, sV, sV, sV, sV, sV, fun _ _ _ hE h => h.exn hE, sV, fun _ _ _ hE h => h.exn hE, trivial⟩ ⟨fun ρz wz hE hA ⟨e0, _⟩ _ => core_val rfl rfl (o_move (e0.trans h0)),
 fun ρz wz hE hA ⟨e9, _⟩ _ => core_val rfl rfl (o_move (e9.trans h9)),
 fun ρz wz hE hA ⟨e0, _⟩ _ => core_val rfl rfl (o_move (e0.trans h0)),
 fun ρz wz hE hA ⟨e9, _⟩ _ => core_val rfl rfl (o_move (e9.trans h9)),
 fun ρz wz hE hA _ ⟨u3, _⟩ => core_val rfl rfl (o_sub u3 rfl rfl),
 fun ρz wz hE hA ⟨e0, _⟩ _ => core_val rfl rfl (o_move (e0.trans h0)),
 fun ρz wz hE hA ⟨e9, _⟩ _ => core_val rfl rfl (o_move (e9.trans h9)),
 fun ρz wz hE hA _ ⟨u6, _⟩ => core_val rfl rfl (o_sub u6 rfl rfl),
 fun ρz wz hE hA _ ⟨u5, u7, _⟩ => core_val rfl rfl (o_indexAddr (u5.trans hvy3) u7 (ia_23 hiy3)),
 fun ρz wz hE hA _ ⟨u8, _⟩ => core_val rfl rfl (o_load u8 (run_load1 (lr_3 _ _) ((hAy3.exn (hA rfl)).ca))),
 fun ρz wz hE hA ⟨e0, _⟩ _ => core_val rfl rfl (o_move (e0.trans h0)),
 fun ρz wz hE hA ⟨e9, _⟩ _ => core_val rfl rfl (o_move (e9.trans h9)),
 fun ρz wz hE hA _ ⟨u10, u11, _⟩ => core_val rfl rfl (o_indexAddr (u10.trans hvy4) u11 (ia_23 hiy4)),
 fun ρz wz hE hA _ ⟨u12, _⟩ => core_val rfl rfl (o_load u12 (run_load1 (lr_3 _ _) ((hAy4.exn (hA rfl)).ca))),
 fun ρz wz hE hA _ ⟨u0, u1, _⟩ => core_val rfl rfl (o_indexAddr (u0.trans hvy5) u1 (ia_23 hiy5)),
 fun ρz wz hE hA _ ⟨u9, u14, _⟩ => core_storeOwn (n := 1) (off := 0) (cells := fun x : Int => [Value.int .i64 x]) (y1 := y3) (vs := [Value.int .i64 y3]) rfl rfl (fun _ h => h) (fun _ => rfl) u14 hvy5 rfl u9 (O0.exn (hA rfl)) hy5 (fun a w => st_3 _ a w) (Nat.le_of_ble_eq_true rfl) (full_set (cells := fun x : Int => [Value.int .i64 x]) (n := 1) (fun _ => rfl) rfl) (one_3 _),
 fun ρz wz hE hA _ ⟨u2, u4, _⟩ => core_val rfl rfl (o_indexAddr (u2.trans hvy6) u4 (ia_23 hiy6)),
 fun ρz wz hE hA _ ⟨u13, u15, u16, _⟩ => core_storeOwn (n := 1) (off := 0) (cells := fun x : Int => [Value.int .i64 x]) (y1 := y4) (vs := [Value.int .i64 y4]) rfl rfl (fun _ h => h) (fun _ => rfl) u16 hvy6 rfl u13 u15 (Exists.choose_spec (getI_setI_some hy6)) (fun a w => st_3 _ a w) (Nat.le_of_ble_eq_true rfl) (full_set (cells := fun x : Int => [Value.int .i64 x]) (n := 1) (fun _ => rfl) rfl) (one_3 _), trivial⟩ ?_
      intro ρ7 w7 hE hN hf hr
      obtain ⟨h0, h1, h2, h3, h8, h9⟩ := k6 hr h0 h1 h2 h3 h8 h9 rfl
      have Oo_O0 := O0
      have H_cmp_ := H_cmp_.ext (hE.mono fun b hb => .inl hb)
      have hW := hW.trans hE
      have O0 := hf 17 rfl
      have hsz := hW.size
      refine WP.rv mixed [[], [0], [0, 1]] [[], [0], [1]] [[9], [], []] [(35, .int .i64 j_), (36, .int .i64 (i64 (j_ - 1))), (9, .int .i64 (i64 (j_ - 1)))] (by kernel_rfl) ⟨fun ρz wz hE hA ⟨e9, _⟩ _ => core_val rfl rfl (o_move (e9.trans h9)),
 fun ρz wz hE hA _ ⟨u0, _⟩ => core_val rfl rfl (o_sub u0 rfl rfl),
 fun ρz wz hE hA _ ⟨u1, _⟩ => core_val rfl rfl (o_assign u1), trivial⟩ ?_
      intro ρ8 w8 hN hf hr
      have h9 : ρ8 9 = .int .i64 (i64 (j_ - 1)) := hf 2 rfl
      obtain ⟨h0, h1, h2, h3, h8⟩ := k5 hr h0 h1 h2 h3 h8 rfl
      have Oo_O0 := O0
      have H_cmp_ := H_cmp_.exn hN
      have hW := hW.trans hN.of_no
      have O0 := O0.exn hN
      have hsz := hW.size
      exact ⟨i64 (j_ - 1), setI (setI data_l2 j_ y3) (i64 (j_ - 1)) y4, h0, h1, h2, h3, h8, h9, H_cmp_, O0, hW, hsz, (by first | exact hF | (rw [hrec_2]; exact hF))⟩
    have hF := (if_neg (Bool.eq_false_iff.1 hb)).symm.trans hF
    refine WP.exit ?_
    refine thenQ_exit ?_
    refine thenQ_exit ?_
    refine blockQ_hit ?_
    refine WP.rv mixed [[], [0], [0, 1]] [[], [0], [1]] [[8], [], []] [(15, .int .i64 i_), (16, .int .i64 (i64 (i_ + 1))), (8, .int .i64 (i64 (i_ + 1)))] (by kernel_rfl) ⟨fun ρz wz hE hA ⟨e8, _⟩ _ => core_val rfl rfl (o_move (e8.trans h8)),
 fun ρz wz hE hA _ ⟨u0, _⟩ => core_val rfl rfl (o_add u0 rfl rfl),
 fun ρz wz hE hA _ ⟨u1, _⟩ => core_val rfl rfl (o_assign u1), trivial⟩ ?_
    intro ρ9 w9 hN hf hr
    have h8 : ρ9 8 = .int .i64 (i64 (i_ + 1)) := hf 2 rfl
    obtain ⟨h0, h1, h2, h3⟩ := k4 hr h0 h1 h2 h3 rfl
    have Oo_O0 := O0
    have H_cmp_ := H_cmp_.exn hN
    have hW := hW.trans hN.of_no
    have O0 := O0.exn hN
    have hsz := hW.size
    exact ⟨i64 (i_ + 1), data_l2, h0, h1, h2, h3, h8, H_cmp_, O0, hW, hsz, (by first | exact hF | (rw [hrec_]; exact hF))⟩
  have hF := (if_neg (Bool.eq_false_iff.1 hb)).symm.trans hF
  refine WP.exit ?_
  refine thenQ_exit ?_
  refine thenQ_exit ?_
  refine blockQ_hit ?_
  show retQ Tryd.prog 53 Tryd.f70 (fun v w1 => (v = .tuple #[] ∧ Own B 3 1 (fun x : Int => [Value.int .i64 x]) w1 v_data_ r) ∧ Ext (fun b => Value.ownBlock v_data_ = some b) w0 w1) .ret ρ3 w3
  obtain rfl := Option.some.inj hF
  exact res0 rfl ⟨⟨rfl, O0⟩, hW⟩

set_option maxHeartbeats 4000000 in
theorem slices_pdqsortCmpFunc_of_int_ok {w0 : World} (d_ : List Int) (i_ : Int) (p_ : Int) (p_2 : Int) (p_3 : (Int × Int) → Option Int) {v_d_ : Value} {B : Nat} (O0 : Own B 3 1 (fun x : Int => [Value.int .i64 x]) w0 v_d_ d_) {v_p_3 : Value} (H_p_3 : FnR Tryd.prog fnV_28 fnW_28 p_3 (fun b => Value.ownBlock v_d_ = some b) w0 v_p_3) {r : List Int} (hF : slices_pdqsortCmpFunc_of_int d_ i_ p_ p_2 p_3 = some r) :
    Calls Tryd.prog 47 #[v_d_, .int .i64 i_, .int .i64 p_, .int .i64 p_2, v_p_3] w0 fun e w1 => e = .returned (.tuple #[]) ∧ Ext (fun b => Value.ownBlock v_d_ = some b) w0 w1 ∧ Own B 3 1 (fun x : Int => [Value.int .i64 x]) w1 v_d_ r := by
  refine (Calls.start (P := Tryd.prog) (args := [v_d_, .int .i64 i_, .int .i64 p_, .int .i64 p_2, v_p_3]) (R := fun v w1 => (v = .tuple #[] ∧ Own B 3 1 (fun x : Int => [Value.int .i64 x]) w1 v_d_ r) ∧ Ext (fun b => Value.ownBlock v_d_ = some b) w0 w1) (n := 148) (w := w0) Tryd.func47 rfl rfl (Nat.le_of_ble_eq_true rfl) (fun ρ hargs => ?_)).mono (fun e w1 ⟨v, he, hv, hE⟩ => ⟨hv.1 ▸ he, hE, hv.2⟩)
  have h0 := hargs 0 _ rfl
  have h1 := hargs 1 _ rfl
  have h2 := hargs 2 _ rfl
  have h3 := hargs 3 _ rfl
  have h4 := hargs 4 _ rfl
  have hW := Ext.refl (fun b => Value.ownBlock v_d_ = some b) w0
  have hsz := Nat.le_refl w0.heap.size
  have H_p_3 := H_p_3.start
  rw [slices_pdqsortCmpFunc_of_int] at hF
  refine WP.seq ?_
  refine WP.rb mixed [[]] [[]] [(10, .bool true)] (by kernel_rfl) ⟨fun ρz wz hE hA _ _ => core_val rfl rfl (o_assign rfl), trivial⟩ ?_
  intro ρ1 w1 hN hf hr
  have h10 : ρ1 10 = .bool true := hf 0 rfl
  obtain ⟨h0, h1, h2, h3, h4⟩ := k5 hr h0 h1 h2 h3 h4 rfl
  have Oo_O0 := O0
  have H_p_3 := H_p_3.exn hN
  have hW := hW.trans hN.of_no
  have O0 := O0.exn hN
  have hsz := hW.size
  refine WP.seq ?_
  refine WP.rb mixed [[]] [[]] [(11, .bool true)] (by kernel_rfl) ⟨fun ρz wz hE hA _ _ => core_val rfl rfl (o_assign rfl), trivial⟩ ?_
  intro ρ2 w2 hN hf hr
  have h11 : ρ2 11 = .bool true := hf 0 rfl
  obtain ⟨h0, h1, h2, h3, h4, h10⟩ := k6 hr h0 h1 h2 h3 h4 h10 rfl
  have Oo_O0 := O0
  have H_p_3 := H_p_3.exn hN
  have hW := hW.trans hN.of_no
  have O0 := O0.exn hN
  have hsz := hW.size
  refine WP.block ?_
  refine WP.loop (fun k_ ρ w => ∃ i_2 : Int, ∃ x : Int, ∃ x2 : Int, ∃ x3 : Bool, ∃ x4 : Bool, ∃ d_l : List Int, ρ 0 = v_d_ ∧ ρ 1 = .int .i64 i_2 ∧ ρ 2 = .int .i64 x ∧ ρ 3 = .int .i64 x2 ∧ ρ 4 = v_p_3 ∧ ρ 10 = .bool x3 ∧ ρ 11 = .bool x4 ∧ FnR Tryd.prog fnV_28 fnW_28 p_3 (gfr (fun b => Value.ownBlock v_d_ = some b) w0) w v_p_3 ∧ Own B 3 1 (fun x : Int => [Value.int .i64 x]) w v_d_ d_l ∧ Ext (fun b => Value.ownBlock v_d_ = some b) w0 w ∧ w0.heap.size ≤ w.heap.size ∧ loopC k_ (slices_pdqsortCmpFunc_of_int_l p_3) (i_2, x, x2, x3, x4, d_l) = some r) FU ⟨i_, p_, p_2, true, true, d_, h0, h1, h2, h3, h4, h10, h11, H_p_3, O0, hW, hsz, hF⟩ (fun _ _ h => by obtain ⟨_, _, _, _, _, _, _, _, _, _, _, _, _, _, _, _, _, h⟩ := h; cases h) ?_
  rintro k_ ρ3 w3 ⟨i_2, x, x2, x3, x4, d_l, h0, h1, h2, h3, h4, h10, h11, H_p_3, O0, hW, hsz, hF⟩
  have hF : slices_pdqsortCmpFunc_of_int_l p_3 (loopC k_ (slices_pdqsortCmpFunc_of_int_l p_3)) (i_2, x, x2, x3, x4, d_l) = some r := hF
  generalize hrec_ : loopC k_ (slices_pdqsortCmpFunc_of_int_l p_3) = rec_ at hF
  rw [slices_pdqsortCmpFunc_of_int_l] at hF
  refine WP.block ?_
  refine WP.seq ?_
  refine WP.rb mixed [[], [], [0, 1], [2]] [[2], [1], [], []] [(21, .int .i64 x), (22, .int .i64 i_2), (23, .int .i64 (i64 (x - i_2))), (12, .int .i64 (i64 (x - i_2)))] (by kernel_rfl) ⟨fun ρz wz hE hA ⟨e2, _⟩ _ => core_val rfl rfl (o_move (e2.trans h2)),
 fun ρz wz hE hA ⟨e1, _⟩ _ => core_val rfl rfl (o_move (e1.trans h1)),
 fun ρz wz hE hA _ ⟨u0, u1, _⟩ => core_val rfl rfl (o_sub u0 u1 rfl),
 fun ρz wz hE hA _ ⟨u2, _⟩ => core_val rfl rfl (o_assign u2), trivial⟩ ?_
  intro ρ4 w4 hN hf hr
  have h12 : ρ4 12 = .int .i64 (i64 (x - i_2)) := hf 3 rfl
  obtain ⟨h0, h1, h2, h3, h4, h10⟩ := k6 hr h0 h1 h2 h3 h4 h10 rfl
  have h11 := (hr 11 rfl).trans h11
  have Oo_O0 := O0
  have H_p_3 := H_p_3.exn hN
  have hW := hW.trans hN.of_no
  have O0 := O0.exn hN
  have hsz := hW.size
  refine WP.seq ?_
  refine WP.seq ?_
  refine WP.rb mixed [[], [0]] [[12], []] [(24, .int .i64 (i64 (x - i_2))), (25, .bool (decide (i64 (x - i_2) ≤ 12)))] (by kernel_rfl) ⟨fun ρz wz hE hA ⟨e12, _⟩ _ => core_val rfl rfl (o_move (e12.trans h12)),
 fun ρz wz hE hA _ ⟨u0, _⟩ => core_val rfl rfl (o_leq u0 rfl rfl), trivial⟩ ?_
  intro ρ5 w5 hN hf hr
  have h25 : ρ5 25 = .bool (decide (i64 (x - i_2) ≤ 12)) := hf 1 rfl
  obtain ⟨h0, h1, h2, h3, h4, h10⟩ := k6 hr h0 h1 h2 h3 h4 h10 rfl
  obtain ⟨h11, h12⟩ := k2 hr h11 h12 rfl
  have Oo_O0 := O0
  have H_p_3 := H_p_3.exn hN
  have hW := hW.trans hN.of_no
  have O0 := O0.exn hN
  have hsz := hW.size
  refine WP.cond rfl h25 (fun hb => ?_) (fun hb => ?_)
  · have hF := (if_pos hb).symm.trans hF
    refine WP.seq ?_
    obtain ⟨z, hz, hF⟩ := obind hF
    refine WP.region mixed [[], [], [], [], [0, 1, 2, 3]] [[], [], [], [], [0, 1, 2, 3]] [[0], [1], [2], [4], []] [4] [] [val 26 (v_d_), val 27 (.int .i64 i_2), val 28 (.int .i64 x), val 29 (v_p_3), (30, fun u wz => u = .tuple #[] ∧ Own B 3 1 (fun x : Int => [Value.int .i64 x]) wz v_d_ z)] (fun b => Value.ownBlock v_d_ = some b) (by kernel_rfl) ⟨sV, sV, sV, sV, fun _ _ _ hE ⟨h1, h2⟩ => ⟨h1, h2.exn hE⟩, trivial⟩ ⟨fun ρz wz hE hA ⟨e0, _⟩ _ => core_val rfl rfl (o_move (e0.trans h0)),
 fun ρz wz hE hA ⟨e1, _⟩ _ => core_val rfl rfl (o_move (e1.trans h1)),
 fun ρz wz hE hA ⟨e2, _⟩ _ => core_val rfl rfl (o_move (e2.trans h2)),
 fun ρz wz hE hA ⟨e4, _⟩ _ => core_val rfl rfl (o_move (e4.trans h4)),
 fun ρz wz hE hA _ ⟨u0, u1, u2, u3, _⟩ => core_callM rfl rfl (fun _ h => h) (call_args4 u0 u1 u2 u3) cf_70 (slices_insertionSortCmpFunc_of_int_ok  _ _ _ _ (O0.exn (hA rfl)) ((H_p_3.exn (hA rfl)).weaken (fun b _ hb => .inl hb)) hz), trivial⟩ ?_
    intro ρ6 w6 hE hN hf hr
    have h0 := (hr 0 rfl).trans h0
    have Oo_O0 := O0
    have hW := hW.trans hE
    have O0 := (hf 4 rfl).2
    have hsz := hW.size
    refine WP.ret ?_
    show retQ Tryd.prog 148 Tryd.f47 (fun v w1 => (v = .tuple #[] ∧ Own B 3 1 (fun x : Int => [Value.int .i64 x]) w1 v_d_ r) ∧ Ext (fun b => Value.ownBlock v_d_ = some b) w0 w1) .ret ρ6 w6
    obtain rfl := Option.some.inj hF
    exact res0 rfl ⟨⟨rfl, O0⟩, hW⟩
  have hF := (if_neg (Bool.eq_false_iff.1 hb)).symm.trans hF
  refine WP.skip ?_
  refine WP.seq ?_
  refine WP.seq ?_
  refine WP.rb mixed [[], [0]] [[3], []] [(31, .int .i64 x2), (32, .bool (x2 == 0))] (by kernel_rfl) ⟨fun ρz wz hE hA ⟨e3, _⟩ _ => core_val rfl rfl (o_move (e3.trans h3)),
 fun ρz wz hE hA _ ⟨u0, _⟩ => core_val rfl rfl (o_eql u0 rfl rfl), trivial⟩ ?_
  intro ρ7 w7 hN hf hr
  have h32 : ρ7 32 = .bool (x2 == 0) := hf 1 rfl
  obtain ⟨h0, h1, h2, h3, h4, h10⟩ := k6 hr h0 h1 h2 h3 h4 h10 rfl
  obtain ⟨h11, h12⟩ := k2 hr h11 h12 rfl
  have Oo_O0 := O0
  have H_p_3 := H_p_3.exn hN
  have hW := hW.trans hN.of_no
  have O0 := O0.exn hN
  have hsz := hW.size
  refine WP.cond rfl h32 (fun hb => ?_) (fun hb => ?_)
  · have hF := (if_pos hb).symm.trans hF
    refine WP.seq ?_
    cases hF
  have hF := (if_neg (Bool.eq_false_iff.1 hb)).symm.trans hF
  refine WP.skip ?_
  refine WP.seqJ (fun ρ w => ∃ x5 : Int, ρ 0 = v_d_ ∧ ρ 1 = .int .i64 i_2 ∧ ρ 2 = .int .i64 x ∧ ρ 3 = .int .i64 x5 ∧ ρ 4 = v_p_3 ∧ ρ 10 = .bool x3 ∧ ρ 11 = .bool x4 ∧ ρ 12 = .int .i64 (i64 (x - i_2)) ∧ FnR Tryd.prog fnV_28 fnW_28 p_3 (gfr (fun b => Value.ownBlock v_d_ = some b) w0) w v_p_3 ∧ Own B 3 1 (fun x : Int => [Value.int .i64 x]) w v_d_ d_l ∧ Ext (fun b => Value.ownBlock v_d_ = some b) w0 w ∧ w0.heap.size ≤ w.heap.size ∧ slices_pdqsortCmpFunc_of_int_j x5 = some r) ?_ ?_
  · refine WP.seq ?_
    refine WP.rb mixed [[], [0]] [[10], []] [(38, .bool x3), (39, .bool (!x3))] (by kernel_rfl) ⟨fun ρz wz hE hA ⟨e10, _⟩ _ => core_val rfl rfl (o_move (e10.trans h10)),
 fun ρz wz hE hA _ ⟨u0, _⟩ => core_val rfl rfl (o_not u0 rfl), trivial⟩ ?_
    intro ρ9 w9 hN hf hr
    have h39 : ρ9 39 = .bool (!x3) := hf 1 rfl
    obtain ⟨h0, h1, h2, h3, h4, h10⟩ := k6 hr h0 h1 h2 h3 h4 h10 rfl
    obtain ⟨h11, h12⟩ := k2 hr h11 h12 rfl
    have Oo_O0 := O0
    have H_p_3 := H_p_3.exn hN
    have hW := hW.trans hN.of_no
    have O0 := O0.exn hN
    have hsz := hW.size
    refine WP.cond rfl h39 (fun hb => ?_) (fun hb => ?_)
    · have hF := (if_pos hb).symm.trans hF
      refine WP.seq ?_
      cases hF
    have hF := (if_neg (Bool.eq_false_iff.1 hb)).symm.trans hF
    refine WP.skip ?_
    exact ⟨x2, h0, h1, h2, h3, h4, h10, h11, h12, H_p_3, O0, hW, hsz, hF⟩
  rintro ρ8 w8 ⟨x5, h0, h1, h2, h3, h4, h10, h11, h12, H_p_3, O0, hW, hsz, hF⟩
  rw [slices_pdqsortCmpFunc_of_int_j] at hF
  refine WP.seq ?_
  cases hF

set_option maxHeartbeats 4000000 in
theorem slices_SortFunc_of__int_int_ok {w0 : World} (x_ : List Int) (cmp_ : (Int × Int) → Option Int) {v_x_ : Value} {B : Nat} (O0 : Own B 3 1 (fun x : Int => [Value.int .i64 x]) w0 v_x_ x_) {v_cmp_ : Value} (H_cmp_ : FnR Tryd.prog fnV_28 fnW_28 cmp_ (fun b => Value.ownBlock v_x_ = some b) w0 v_cmp_) {r : List Int} (hF : slices_SortFunc_of__int_int x_ cmp_ = some r) :
    Calls Tryd.prog 29 #[v_x_, v_cmp_] w0 fun e w1 => e = .returned (.tuple #[]) ∧ Ext (fun b => Value.ownBlock v_x_ = some b) w0 w1 ∧ Own B 3 1 (fun x : Int => [Value.int .i64 x]) w1 v_x_ r := by
  refine (Calls.start (P := Tryd.prog) (args := [v_x_, v_cmp_]) (R := fun v w1 => (v = .tuple #[] ∧ Own B 3 1 (fun x : Int => [Value.int .i64 x]) w1 v_x_ r) ∧ Ext (fun b => Value.ownBlock v_x_ = some b) w0 w1) (n := 14) (w := w0) Tryd.func29 rfl rfl (Nat.le_of_ble_eq_true rfl) (fun ρ hargs => ?_)).mono (fun e w1 ⟨v, he, hv, hE⟩ => ⟨hv.1 ▸ he, hE, hv.2⟩)
  have h0 := hargs 0 _ rfl
  have h1 := hargs 1 _ rfl
  have hW := Ext.refl (fun b => Value.ownBlock v_x_ = some b) w0
  have hsz := Nat.le_refl w0.heap.size
  have H_cmp_ := H_cmp_.start
  rw [slices_SortFunc_of__int_int] at hF
  refine WP.seq ?_
  refine WP.rb mixed [[], [0], [1]] [[0], [], []] [(5, v_x_), (6, .int .i64 (x_.length : Int)), (4, .int .i64 (x_.length : Int))] (by kernel_rfl) ⟨fun ρz wz hE hA ⟨e0, _⟩ _ => core_val rfl rfl (o_move (e0.trans h0)),
 fun ρz wz hE hA _ ⟨u0, _⟩ => core_val rfl rfl (o_len (u0.trans (Own.shape O0).choose_spec.choose_spec.1) len_23),
 fun ρz wz hE hA _ ⟨u1, _⟩ => core_val rfl rfl (o_assign u1), trivial⟩ ?_
  intro ρ1 w1 hN hf hr
  have h4 : ρ1 4 = .int .i64 (x_.length : Int) := hf 2 rfl
  obtain ⟨h0, h1⟩ := k2 hr h0 h1 rfl
  have Oo_O0 := O0
  have H_cmp_ := H_cmp_.exn hN
  have hW := hW.trans hN.of_no
  have O0 := O0.exn hN
  have hsz := hW.size
  obtain ⟨z, hz, hF⟩ := obind hF
  obtain ⟨z2, hz2, hF⟩ := obind hF
  refine WP.region mixed [[], [], [], [2], [3], [], [0, 1, 4, 5]] [[], [], [], [2], [3], [], [0, 1, 4, 5]] [[0], [4], [4], [], [], [1], []] [6] [] [val 7 (v_x_), val 8 (.int .i64 (x_.length : Int)), val 9 (.int .i64 (x_.length : Int)), val 10 (.int .u64 (u64 (x_.length : Int))), val 11 (.int .i64 z), val 12 (v_cmp_), (13, fun u wz => u = .tuple #[] ∧ Own B 3 1 (fun x : Int => [Value.int .i64 x]) wz v_x_ z2)] (fun b => Value.ownBlock v_x_ = some b) (by kernel_rfl) ⟨sV, sV, sV, sV, sV, sV, fun _ _ _ hE ⟨h1, h2⟩ => ⟨h1, h2.exn hE⟩, trivial⟩ ⟨fun ρz wz hE hA ⟨e0, _⟩ _ => core_val rfl rfl (o_move (e0.trans h0)),
 fun ρz wz hE hA ⟨e4, _⟩ _ => core_val rfl rfl (o_move (e4.trans h4)),
 fun ρz wz hE hA ⟨e4, _⟩ _ => core_val rfl rfl (o_move (e4.trans h4)),
 fun ρz wz hE hA _ ⟨u2, _⟩ => core_val rfl rfl (o_conv u2 (cv_3_78 _ _)),
 fun ρz wz hE hA _ ⟨u3, _⟩ => core_call rfl (call_args1 u3) cf_48 (bits_Len_ok  _  hz),
 fun ρz wz hE hA ⟨e1, _⟩ _ => core_val rfl rfl (o_move (e1.trans h1)),
 fun ρz wz hE hA _ ⟨u0, u1, u4, u5, _⟩ => core_callM rfl rfl (fun _ h => h) (call_args5 u0 rfl u1 u4 u5) cf_47 (slices_pdqsortCmpFunc_of_int_ok  _ _ _ _ _ (O0.exn (hA rfl)) ((H_cmp_.exn (hA rfl)).weaken (fun b _ hb => .inl hb)) hz2), trivial⟩ ?_
  intro ρ2 w2 hE hN hf hr
  have h0 := (hr 0 rfl).trans h0
  have Oo_O0 := O0
  have hW := hW.trans hE
  have O0 := (hf 6 rfl).2
  have hsz := hW.size
  show retQ Tryd.prog 14 Tryd.f29 (fun v w1 => (v = .tuple #[] ∧ Own B 3 1 (fun x : Int => [Value.int .i64 x]) w1 v_x_ r) ∧ Ext (fun b => Value.ownBlock v_x_ = some b) w0 w1) .ret ρ2 w2
  obtain rfl := Option.some.inj hF
  exact res0 rfl ⟨⟨rfl, O0⟩, hW⟩

set_option maxHeartbeats 4000000 in
theorem pensionref21_down_ok {w0 : World} {r : Rounding} (hF : pensionref21_down = some r) :
    Calls Tryd.prog 40 #[] w0 fun e w1 => e = .returned (Rounding.val r) ∧ Ext noG w0 w1 := by
  refine (Calls.start (P := Tryd.prog) (args := []) (R := fun v w1 => v = Rounding.val r ∧ Ext noG w0 w1) (n := 2) (w := w0) Tryd.func40 rfl rfl (Nat.le_of_ble_eq_true rfl) (fun ρ hargs => ?_)).mono (fun e w1 ⟨v, he, hv, hE⟩ => ⟨hv ▸ he, hE⟩)
  have hW := Ext.refl noG w0
  have hsz := Nat.le_refl w0.heap.size
  rw [pensionref21_down] at hF
  refine WP.seq ?_
  refine WP.rg mixed [[]] [[]] [[]] [(0, fun u wz => ∃ b, u = .pointer (some ⟨b, 0, none⟩) ∧ w0.heap.size ≤ b ∧ Mb wz b 72 (Rounding.cells (⟨0, 0⟩ : Rounding)))] (by kernel_rfl) ⟨fun _ _ _ hE ⟨b, hb, hs, hM⟩ => ⟨b, hb, hs, hM.exn hE⟩, trivial⟩ ⟨fun ρz wz hE hA _ _ => core_new rfl rfl hE (o_alloc (al_72 _)), trivial⟩ ?_
  intro ρ1 w1 hN hf hr
  obtain ⟨b0_, h0, hge_b0_, Hb_b0_⟩ := hf 0 rfl
  have hW := hW.trans hN
  have hB_b0_ : w0.heap.size ≤ b0_ := Nat.le_trans hsz hge_b0_
  have hsz := hW.size
  refine WP.seq ?_
  refine WP.region mixed [[], [0]] [[], [0]] [[], [0]] [1] [] [val 1 (Rounding.val (⟨1, 1⟩ : Rounding)), (0, fun _ wz => Mb wz b0_ 72 (Rounding.cells (⟨1, 1⟩ : Rounding)))] (fun x => x = b0_) (by kernel_rfl) ⟨sV, fun _ _ _ hE hM => hM.exn hE, trivial⟩ ⟨fun ρz wz hE hA _ _ => core_val rfl rfl (o_build (build_parts2 rfl rfl) (bd_72_0_1 _ _ _)),
 fun ρz wz hE hA ⟨e0, _⟩ ⟨u0, _⟩ => core_storeBox rfl rfl (fun _ h => h) (e0.trans h0) u0 (Hb_b0_.exn (hA rfl)) (fun a w => st_72 _ a w) rfl (one_72 _), trivial⟩ ?_
  intro ρ2 w2 hE hN hf hr
  have h0 := (hr 0 rfl).trans h0
  have Hb_b0_n := hf 1 rfl
  have hW := Ext.own hW hE (fun x h => h.symm ▸ hB_b0_)
  have Hb_b0_ := Hb_b0_n
  have hsz := hW.size
  refine WP.ret ?_
  show retQ Tryd.prog 2 Tryd.f40 (fun v w1 => v = Rounding.val r ∧ Ext noG w0 w1) .ret ρ2 w2
  obtain rfl := Option.some.inj hF
  exact resC rfl (by decide) h0 (run_loadN (cs := (Rounding.cells (⟨1, 1⟩ : Rounding))) (lr_72 _ _) rfl Hb_b0_.ca) ⟨rfl, hW⟩

set_option maxHeartbeats 4000000 in
theorem pensionref21_Order_ok {w0 : World} (l_ : List Right) (home_ : Int) (t_ : List Rate) (month_ : Int) {v_l_ : Value} (H_l_ : RepSl Right.R noG w0 v_l_ l_) {v_t_ : Value} (H_t_ : RepSl Rate.R noG w0 v_t_ t_) {r : (List Int) × Int} (hF : pensionref21_Order l_ home_ t_ month_ = some r) :
    Calls Tryd.prog 15 #[v_l_, .int .i64 home_, v_t_, .int .i64 month_] w0 fun e w1 => ∃ v, e = .returned v ∧ Ext noG w0 w1 ∧ (∃ u0 : Value, v = .tuple #[u0, .int .i64 r.2] ∧ Own w0.heap.size 3 1 (fun x : Int => [Value.int .i64 x]) w1 u0 r.1) := by
  refine (Calls.start (P := Tryd.prog) (args := [v_l_, .int .i64 home_, v_t_, .int .i64 month_]) (R := fun v w1 => (∃ u0 : Value, v = .tuple #[u0, .int .i64 r.2] ∧ Own w0.heap.size 3 1 (fun x : Int => [Value.int .i64 x]) w1 u0 r.1) ∧ Ext noG w0 w1) (n := 64) (w := w0) Tryd.func15 rfl rfl (Nat.le_of_ble_eq_true rfl) (fun ρ hargs => ?_)).mono (fun e w1 ⟨v, he, hv, hE⟩ => ⟨v, he, hE, hv⟩)
  have h0 := hargs 0 _ rfl
  have h1 := hargs 1 _ rfl
  have h2 := hargs 2 _ rfl
  have h3 := hargs 3 _ rfl
  have hW := Ext.refl noG w0
  have hsz := Nat.le_refl w0.heap.size
  obtain ⟨_, _, hs_H_l_, _, _⟩ := RepSl.shape H_l_
  have H_l_ := H_l_.start
  obtain ⟨_, _, hs_H_t_, _, _⟩ := RepSl.shape H_t_
  have H_t_ := H_t_.start
  rw [pensionref21_Order] at hF
  refine WP.seq ?_
  refine WP.rb mixed [[], []] [[], []] [(8, .slice none 0 0), (9, .int .i64 0)] (by kernel_rfl) ⟨fun ρz wz hE hA _ _ => core_val rfl rfl (o_assign rfl),
 fun ρz wz hE hA _ _ => core_val rfl rfl (o_assign rfl), trivial⟩ ?_
  intro ρ1 w1 hN hf hr
  obtain ⟨h0, h1, h2, h3⟩ := k4 hr h0 h1 h2 h3 rfl
  have H_l_ := H_l_.exn hN
  have H_t_ := H_t_.exn hN
  have hW := hW.trans hN
  have hsz := hW.size
  refine WP.seq ?_
  refine WP.seq ?_
  obtain ⟨z, hz, hF⟩ := obind hF
  obtain ⟨c, hc, hF⟩ := obind hF
  obtain ⟨z2, hz2, hc⟩ := orB hc
  have hc := orE hc
  refine WP.rb mixed [[], [0], [1], [2], [3], [3], [3, 4, 5], [3, 6], [3, 7]] [[0], [], [], [], [2], [3], [], [], []] [(13, v_l_), (14, .bool z), (15, .bool (!z)), (16, .bool (!z)), (17, gv (!(!z)) v_t_), (18, gv (!(!z)) (.int .i64 month_)), (19, gv (!(!z)) (.bool z2)), (20, gv (!(!z)) (.bool (!z2))), (21, .bool c)] (by kernel_rfl) ⟨fun ρz wz hE hA ⟨e0, _⟩ _ => core_val rfl rfl (o_move (e0.trans h0)),
 fun ρz wz hE hA _ ⟨u0, _⟩ => core_call rfl (call_args1 u0) cf_18 (pensionref21_ValidRights_ok  _ (H_l_.exn (hA rfl)).no hz),
 fun ρz wz hE hA _ ⟨u1, _⟩ => core_val rfl rfl (o_not u1 rfl),
 fun ρz wz hE hA _ ⟨u2, _⟩ => core_val rfl rfl (o_move u2),
 fun ρz wz hE hA ⟨e2, _⟩ ⟨u3, _⟩ => gIf rfl rfl (yF rfl u3) fun gc F hF => core_val rfl hF (o_move (e2.trans h2)),
 fun ρz wz hE hA ⟨e3, _⟩ ⟨u3, _⟩ => gIf rfl rfl (yF rfl u3) fun gc F hF => core_val rfl hF (o_move (e3.trans h3)),
 fun ρz wz hE hA _ ⟨u3, u4, u5, _⟩ => gIf rfl rfl (yF rfl u3) fun gc F hF => core_call hF (call_args2 (gt gc u4) (gt gc u5)) cf_35 (pensionref21_okRates_ok  _ _ (H_t_.exn (hA rfl)).no (hz2 gc)),
 fun ρz wz hE hA _ ⟨u3, u6, _⟩ => gIf rfl rfl (yF rfl u3) fun gc F hF => core_val rfl hF (o_not (gt gc u6) rfl),
 fun ρz wz hE hA _ ⟨u3, u7, _⟩ => core_valE rfl rfl (congrArg Value.bool hc) (o_pick_or u3 rfl u7), trivial⟩ ?_
  intro ρ2 w2 hN hf hr
  have h21 : ρ2 21 = .bool c := hf 8 rfl
  obtain ⟨h0, h1, h2, h3⟩ := k4 hr h0 h1 h2 h3 rfl
  have H_l_ := H_l_.exn hN
  have H_t_ := H_t_.exn hN
  have hW := hW.trans hN
  have hsz := hW.size
  refine WP.cond rfl h21 (fun hb => ?_) (fun hb => ?_)
  · have hF := (if_pos hb).symm.trans hF
    refine WP.seq ?_
    refine WP.rb mixed [[], []] [[], []] [(8, .slice none 0 0), (9, .int .i64 1)] (by kernel_rfl) ⟨fun ρz wz hE hA _ _ => core_val rfl rfl (o_assign rfl),
 fun ρz wz hE hA _ _ => core_val rfl rfl (o_assign rfl), trivial⟩ ?_
    intro ρ3 w3 hN hf hr
    have h8 : ρ3 8 = .slice none 0 0 := hf 0 rfl
    have O8 : Own w0.heap.size 3 1 (fun x : Int => [Value.int .i64 x]) w3 (.slice none 0 0) [] := Own.nil _ _ _ _ _
    have h9 : ρ3 9 = .int .i64 1 := hf 1 rfl
    have hW := hW.trans hN
    have hsz := hW.size
    refine WP.ret ?_
    show retQ Tryd.prog 64 Tryd.f15 (fun v w1 => (∃ u0 : Value, v = .tuple #[u0, .int .i64 r.2] ∧ Own w0.heap.size 3 1 (fun x : Int => [Value.int .i64 x]) w1 u0 r.1) ∧ Ext noG w0 w1) .ret ρ3 w3
    obtain rfl := Option.some.inj hF
    exact res2 rfl (by decide) (by decide) h8 h9 ⟨⟨_, rfl, O8⟩, hW⟩
  have hF := (if_neg (Bool.eq_false_iff.1 hb)).symm.trans hF
  refine WP.skip ?_
  refine WP.seq ?_
  refine WP.rb mixed [[]] [[]] [(10, .slice none 0 0)] (by kernel_rfl) ⟨fun ρz wz hE hA _ _ => core_val rfl rfl (o_assign rfl), trivial⟩ ?_
  intro ρ4 w4 hN hf hr
  have h10 : ρ4 10 = .slice none 0 0 := hf 0 rfl
  have O10 : Own w0.heap.size 3 1 (fun x : Int => [Value.int .i64 x]) w4 (.slice none 0 0) [] := Own.nil _ _ _ _ _
  obtain ⟨h0, h1, h2, h3⟩ := k4 hr h0 h1 h2 h3 rfl
  have H_l_ := H_l_.exn hN
  have H_t_ := H_t_.exn hN
  have hW := hW.trans hN
  have hsz := hW.size
  refine WP.seq ?_
  refine WP.seq ?_
  refine WP.rb mixed [[]] [[]] [(11, .int .i64 0)] (by kernel_rfl) ⟨fun ρz wz hE hA _ _ => core_val rfl rfl (o_assign rfl), trivial⟩ ?_
  intro ρ5 w5 hN hf hr
  have h11 : ρ5 11 = .int .i64 0 := hf 0 rfl
  obtain ⟨h0, h1, h2, h3, h10⟩ := k5 hr h0 h1 h2 h3 h10 rfl
  have Oo_O10 := O10
  have H_l_ := H_l_.exn hN
  have H_t_ := H_t_.exn hN
  have hW := hW.trans hN
  have O10 := O10.exn hN
  have hsz := hW.size
  refine WP.block ?_
  refine WP.loop (fun k_ ρ w => ∃ out_ : List Int, ∃ i_ : Int, ∃ v10_ : Value, ρ 0 = v_l_ ∧ ρ 1 = .int .i64 home_ ∧ ρ 2 = v_t_ ∧ ρ 3 = .int .i64 month_ ∧ ρ 10 = v10_ ∧ ρ 11 = .int .i64 i_ ∧ RepSl Right.R (gfr noG w0) w v_l_ l_ ∧ RepSl Rate.R (gfr noG w0) w v_t_ t_ ∧ Own w0.heap.size 3 1 (fun x : Int => [Value.int .i64 x]) w v10_ out_ ∧ Ext noG w0 w ∧ w0.heap.size ≤ w.heap.size ∧ loopC k_ (pensionref21_Order_l l_ home_ t_ month_) (out_, i_) = some r) FU ⟨[], 0, .slice none 0 0, h0, h1, h2, h3, h10, h11, H_l_, H_t_, O10, hW, hsz, hF⟩ (fun _ _ h => by obtain ⟨_, _, _, _, _, _, _, _, _, _, _, _, _, _, h⟩ := h; cases h) ?_
  rintro k_ ρ6 w6 ⟨out_, i_, v10_, h0, h1, h2, h3, h10, h11, H_l_, H_t_, O10, hW, hsz, hF⟩
  have hF : pensionref21_Order_l l_ home_ t_ month_ (loopC k_ (pensionref21_Order_l l_ home_ t_ month_)) (out_, i_) = some r := hF
  generalize hrec_ : loopC k_ (pensionref21_Order_l l_ home_ t_ month_) = rec_ at hF
  rw [pensionref21_Order_l] at hF
  refine WP.seq ?_
  refine WP.seq ?_
  refine WP.rb mixed [[], [], [1], [0, 2]] [[11], [0], [], []] [(22, .int .i64 i_), (23, v_l_), (24, .int .i64 (l_.length : Int)), (25, .bool (decide (i_ < (l_.length : Int))))] (by kernel_rfl) ⟨fun ρz wz hE hA ⟨e11, _⟩ _ => core_val rfl rfl (o_move (e11.trans h11)),
 fun ρz wz hE hA ⟨e0, _⟩ _ => core_val rfl rfl (o_move (e0.trans h0)),
 fun ρz wz hE hA _ ⟨u1, _⟩ => core_val rfl rfl (o_len (u1.trans hs_H_l_) len_24),
 fun ρz wz hE hA _ ⟨u0, u2, _⟩ => core_val rfl rfl (o_lss u0 u2 rfl), trivial⟩ ?_
  intro ρ7 w7 hN hf hr
  have h25 : ρ7 25 = .bool (decide (i_ < (l_.length : Int))) := hf 3 rfl
  obtain ⟨h0, h1, h2, h3, h10, h11⟩ := k6 hr h0 h1 h2 h3 h10 h11 rfl
  have Oo_O10 := O10
  have H_l_ := H_l_.exn hN
  have H_t_ := H_t_.exn hN
  have hW := hW.trans hN
  have O10 := O10.exn hN
  have hsz := hW.size
  refine WP.cond rfl h25 (fun hb => ?_) (fun hb => ?_)
  · have hF := (if_pos hb).symm.trans hF
    refine WP.skip ?_
    refine WP.seq ?_
    refine WP.block ?_
    refine WP.seq ?_
    refine WP.rb mixed [[], [0], [1]] [[10], [], []] [(28, v10_), (29, .int .i64 (out_.length : Int)), (12, .int .i64 (out_.length : Int))] (by kernel_rfl) ⟨fun ρz wz hE hA ⟨e10, _⟩ _ => core_val rfl rfl (o_move (e10.trans h10)),
 fun ρz wz hE hA _ ⟨u0, _⟩ => core_val rfl rfl (o_len (u0.trans (Own.shape O10).choose_spec.choose_spec.1) len_23),
 fun ρz wz hE hA _ ⟨u1, _⟩ => core_val rfl rfl (o_assign u1), trivial⟩ ?_
    intro ρ8 w8 hN hf hr
    have h12 : ρ8 12 = .int .i64 (out_.length : Int) := hf 2 rfl
    obtain ⟨h0, h1, h2, h3, h10, h11⟩ := k6 hr h0 h1 h2 h3 h10 h11 rfl
    have Oo_O10 := O10
    have H_l_ := H_l_.exn hN
    have H_t_ := H_t_.exn hN
    have hW := hW.trans hN
    have O10 := O10.exn hN
    have hsz := hW.size
    refine WP.seq ?_
    refine WP.block ?_
    refine WP.loop (fun k_3 ρ w => ∃ k_2 : Int, ρ 0 = v_l_ ∧ ρ 1 = .int .i64 home_ ∧ ρ 2 = v_t_ ∧ ρ 3 = .int .i64 month_ ∧ ρ 10 = v10_ ∧ ρ 11 = .int .i64 i_ ∧ ρ 12 = .int .i64 k_2 ∧ RepSl Right.R (gfr noG w0) w v_l_ l_ ∧ RepSl Rate.R (gfr noG w0) w v_t_ t_ ∧ Own w0.heap.size 3 1 (fun x : Int => [Value.int .i64 x]) w v10_ out_ ∧ Ext noG w0 w ∧ w0.heap.size ≤ w.heap.size ∧ loopC k_3 (pensionref21_Order_l2 l_ home_ t_ month_ out_ i_ rec_) k_2 = some r) FU ⟨(out_.length : Int), h0, h1, h2, h3, h10, h11, h12, H_l_, H_t_, O10, hW, hsz, hF⟩ (fun _ _ h => by obtain ⟨_, _, _, _, _, _, _, _, _, _, _, _, _, h⟩ := h; cases h) ?_
    rintro k_3 ρ9 w9 ⟨k_2, h0, h1, h2, h3, h10, h11, h12, H_l_, H_t_, O10, hW, hsz, hF⟩
    have hF : pensionref21_Order_l2 l_ home_ t_ month_ out_ i_ rec_ (loopC k_3 (pensionref21_Order_l2 l_ home_ t_ month_ out_ i_ rec_)) k_2 = some r := hF
    generalize hrec_2 : loopC k_3 (pensionref21_Order_l2 l_ home_ t_ month_ out_ i_ rec_) = rec_2 at hF
    rw [pensionref21_Order_l2] at hF
    refine WP.seq ?_
    refine WP.seq ?_
    obtain ⟨c2, hc2, hF⟩ := obind hF
    obtain ⟨y, hy, hc2⟩ := andB hc2
    obtain ⟨ay, cy, hvy, hiy, hAy⟩ := RepSl.getFI H_l_ hy
    obtain ⟨y2, hy2, hc2⟩ := andB hc2
    obtain ⟨ay2, cy2, hvy2, hiy2, hAy2⟩ := RepSl.getFI (Own.rep (hn := fun _ => rfl) (G := noG) O10 (fun _ _ h => h)) hy2
    obtain ⟨y3, hy3, hc2⟩ := andB hc2
    obtain ⟨ay3, cy3, hvy3, hiy3, hAy3⟩ := RepSl.getFI H_l_ hy3
    obtain ⟨z3, hz3, hc2⟩ := andB hc2
    have hc2 := andE hc2
    refine WP.rb mixed [[], [0], [1], [2], [2], [2, 3, 4], [2, 5], [2], [2], [2], [2, 9], [2, 8, 10], [2, 11], [2, 7, 12], [2, 13], [2], [2], [2], [2, 6, 14, 15, 16, 17], [2, 18]] [[12], [], [], [0], [11], [], [], [0], [10], [12], [], [], [], [], [], [1], [2], [3], [], []] [(30, .int .i64 k_2), (31, .bool (decide (0 < k_2))), (32, .bool (decide (0 < k_2))), (33, gv (decide (0 < k_2)) v_l_), (34, gv (decide (0 < k_2)) (.int .i64 i_)), (35, gv (decide (0 < k_2)) (.pointer (some (ay.add (Int.toNat i_ * 4))))), (36, gv (decide (0 < k_2)) (Right.val y)), (37, gv (decide (0 < k_2)) v_l_), (38, gv (decide (0 < k_2)) v10_), (39, gv (decide (0 < k_2)) (.int .i64 k_2)), (40, gv (decide (0 < k_2)) (.int .i64 (i64 (k_2 - 1)))), (41, gv (decide (0 < k_2)) (.pointer (some (ay2.add (Int.toNat (i64 (k_2 - 1)) * 1))))), (42, gv (decide (0 < k_2)) (.int .i64 y2)), (43, gv (decide (0 < k_2)) (.pointer (some (ay3.add (Int.toNat y2 * 4))))), (44, gv (decide (0 < k_2)) (Right.val y3)), (45, gv (decide (0 < k_2)) (.int .i64 home_)), (46, gv (decide (0 < k_2)) v_t_), (47, gv (decide (0 < k_2)) (.int .i64 month_)), (48, gv (decide (0 < k_2)) (.bool z3)), (49, .bool c2)] (by kernel_rfl) ⟨fun ρz wz hE hA ⟨e12, _⟩ _ => core_val rfl rfl (o_move (e12.trans h12)),
 fun ρz wz hE hA _ ⟨u0, _⟩ => core_val rfl rfl (o_gtr u0 rfl rfl),
 fun ρz wz hE hA _ ⟨u1, _⟩ => core_val rfl rfl (o_move u1),
 fun ρz wz hE hA ⟨e0, _⟩ ⟨u2, _⟩ => gIf rfl rfl (yT rfl u2) fun gc F hF => core_val rfl hF (o_move (e0.trans h0)),
 fun ρz wz hE hA ⟨e11, _⟩ ⟨u2, _⟩ => gIf rfl rfl (yT rfl u2) fun gc F hF => core_val rfl hF (o_move (e11.trans h11)),
 fun ρz wz hE hA _ ⟨u2, u3, u4, _⟩ => gIf rfl rfl (yT rfl u2) fun gc F hF => core_val rfl hF (o_indexAddr ((gt gc u3).trans (hvy gc)) (gt gc u4) (ia_24 (hiy gc))),
 fun ρz wz hE hA _ ⟨u2, u5, _⟩ => gIf rfl rfl (yT rfl u2) fun gc F hF => core_val rfl hF (o_load (gt gc u5) (run_loadN (cs := (Right.cells y)) (lr_43 _ _) rfl (((hAy gc).exn (hA rfl)).ca))),
 fun ρz wz hE hA ⟨e0, _⟩ ⟨u2, _⟩ => gIf rfl rfl (yT rfl u2) fun gc F hF => core_val rfl hF (o_move (e0.trans h0)),
 fun ρz wz hE hA ⟨e10, _⟩ ⟨u2, _⟩ => gIf rfl rfl (yT rfl u2) fun gc F hF => core_val rfl hF (o_move (e10.trans h10)),
 fun ρz wz hE hA ⟨e12, _⟩ ⟨u2, _⟩ => gIf rfl rfl (yT rfl u2) fun gc F hF => core_val rfl hF (o_move (e12.trans h12)),
 fun ρz wz hE hA _ ⟨u2, u9, _⟩ => gIf rfl rfl (yT rfl u2) fun gc F hF => core_val rfl hF (o_sub (gt gc u9) rfl rfl),
 fun ρz wz hE hA _ ⟨u2, u8, u10, _⟩ => gIf rfl rfl (yT rfl u2) fun gc F hF => core_val rfl hF (o_indexAddr ((gt gc u8).trans (hvy2 gc)) (gt gc u10) (ia_23 (hiy2 gc))),
 fun ρz wz hE hA _ ⟨u2, u11, _⟩ => gIf rfl rfl (yT rfl u2) fun gc F hF => core_val rfl hF (o_load (gt gc u11) (run_load1 (lr_3 _ _) (((hAy2 gc).exn (hA rfl)).ca))),
 fun ρz wz hE hA _ ⟨u2, u7, u12, _⟩ => gIf rfl rfl (yT rfl u2) fun gc F hF => core_val rfl hF (o_indexAddr ((gt gc u7).trans (hvy3 gc)) (gt gc u12) (ia_24 (hiy3 gc))),
 fun ρz wz hE hA _ ⟨u2, u13, _⟩ => gIf rfl rfl (yT rfl u2) fun gc F hF => core_val rfl hF (o_load (gt gc u13) (run_loadN (cs := (Right.cells y3)) (lr_43 _ _) rfl (((hAy3 gc).exn (hA rfl)).ca))),
 fun ρz wz hE hA ⟨e1, _⟩ ⟨u2, _⟩ => gIf rfl rfl (yT rfl u2) fun gc F hF => core_val rfl hF (o_move (e1.trans h1)),
 fun ρz wz hE hA ⟨e2, _⟩ ⟨u2, _⟩ => gIf rfl rfl (yT rfl u2) fun gc F hF => core_val rfl hF (o_move (e2.trans h2)),
 fun ρz wz hE hA ⟨e3, _⟩ ⟨u2, _⟩ => gIf rfl rfl (yT rfl u2) fun gc F hF => core_val rfl hF (o_move (e3.trans h3)),
 fun ρz wz hE hA _ ⟨u2, u6, u14, u15, u16, u17, _⟩ => gIf rfl rfl (yT rfl u2) fun gc F hF => core_call hF (call_args5 (gt gc u6) (gt gc u14) (gt gc u15) (gt gc u16) (gt gc u17)) cf_36 (pensionref21_before_ok  _ _ _ _ _ (H_t_.exn (hA rfl)).no (hz3 gc)),
 fun ρz wz hE hA _ ⟨u2, u18, _⟩ => core_valE rfl rfl (congrArg Value.bool hc2) (o_pick_and u2 u18 rfl), trivial⟩ ?_
    intro ρ10 w10 hN hf hr
    have h49 : ρ10 49 = .bool c2 := hf 19 rfl
    obtain ⟨h0, h1, h2, h3, h10, h11⟩ := k6 hr h0 h1 h2 h3 h10 h11 rfl
    have h12 := (hr 12 rfl).trans h12
    have Oo_O10 := O10
    have H_l_ := H_l_.exn hN
    have H_t_ := H_t_.exn hN
    have hW := hW.trans hN
    have O10 := O10.exn hN
    have hsz := hW.size
    refine WP.cond rfl h49 (fun hb => ?_) (fun hb => ?_)
    · have hF := (if_pos hb).symm.trans hF
      refine WP.skip ?_
      refine WP.block ?_
      refine WP.rv mixed [[], [0], [0, 1]] [[], [0], [1]] [[12], [], []] [(50, .int .i64 k_2), (51, .int .i64 (i64 (k_2 - 1))), (12, .int .i64 (i64 (k_2 - 1)))] (by kernel_rfl) ⟨fun ρz wz hE hA ⟨e12, _⟩ _ => core_val rfl rfl (o_move (e12.trans h12)),
 fun ρz wz hE hA _ ⟨u0, _⟩ => core_val rfl rfl (o_sub u0 rfl rfl),
 fun ρz wz hE hA _ ⟨u1, _⟩ => core_val rfl rfl (o_assign u1), trivial⟩ ?_
      intro ρ11 w11 hN hf hr
      have h12 : ρ11 12 = .int .i64 (i64 (k_2 - 1)) := hf 2 rfl
      obtain ⟨h0, h1, h2, h3, h10, h11⟩ := k6 hr h0 h1 h2 h3 h10 h11 rfl
      have Oo_O10 := O10
      have H_l_ := H_l_.exn hN
      have H_t_ := H_t_.exn hN
      have hW := hW.trans hN
      have O10 := O10.exn hN
      have hsz := hW.size
      exact ⟨i64 (k_2 - 1), h0, h1, h2, h3, h10, h11, h12, H_l_, H_t_, O10, hW, hsz, (by first | exact hF | (rw [hrec_2]; exact hF))⟩
    have hF := (if_neg (Bool.eq_false_iff.1 hb)).symm.trans hF
    refine WP.exit ?_
    refine thenQ_exit ?_
    refine thenQ_exit ?_
    refine blockQ_hit ?_
    obtain ⟨s, hs, hF⟩ := obind hF
    obtain ⟨l, hl, hF⟩ := obind hF
    obtain ⟨l2, hl2, hF⟩ := obind hF
    obtain ⟨s2, hs2, hF⟩ := obind hF
    obtain ⟨l3, hl3, hF⟩ := obind hF
    refine WP.region mixed [[], [], [0, 1], [2], [], [4], [3, 5], [], [], [7, 8], [6, 9], [0, 6, 7, 10]] [[], [], [0, 1], [2], [], [4], [3, 5], [], [], [7, 8], [6, 9], [10]] [[10], [12], [], [], [11], [], [], [10], [12], [], [], []] [6, 10] [(6, 10), (3, 6), (5, 6)] [val 52 (v10_), val 53 (.int .i64 k_2), (54, fun u wz => RepSl intR (fun b => w10.heap.size ≤ b) wz u s), (55, fun u wz => Own w0.heap.size 3 1 (fun x : Int => [Value.int .i64 x]) wz u l ∧ ∀ b, u.ownBlock = some b → w10.heap.size ≤ b), val 56 (.int .i64 i_), (57, fun u wz => ∃ b, u = .slice (some ⟨b, 0, none⟩) 1 1 ∧ w10.heap.size ≤ b ∧ Mb wz b 3 (([i_]).flatMap (fun x : Int => [Value.int .i64 x]))), (58, fun u wz => Own w0.heap.size 3 1 (fun x : Int => [Value.int .i64 x]) wz u l2 ∧ ∀ b, u.ownBlock = some b → w10.heap.size ≤ b), val 59 (v10_), val 60 (.int .i64 k_2), (61, fun u wz => RepSl intR (fun b => w10.heap.size ≤ b) wz u s2), (62, fun u wz => Own w0.heap.size 3 1 (fun x : Int => [Value.int .i64 x]) wz u l3 ∧ ∀ b, u.ownBlock = some b → w10.heap.size ≤ b), (10, fun u wz => Own w0.heap.size 3 1 (fun x : Int => [Value.int .i64 x]) wz u l3 ∧ ∀ b, u.ownBlock = some b → w10.heap.size ≤ b)] (fun b => w10.heap.size ≤ b) (by kernel_rfl) ⟨sV, sV, fun _ _ _ hE h => h.ext hE, fun _ _ _ hE ⟨hO, hf⟩ => ⟨hO.exn hE, hf⟩, sV, fun _ _ _ hE ⟨b, hz, hs, hM⟩ => ⟨b, hz, hs, hM.exn hE⟩, fun _ _ _ hE ⟨hO, hf⟩ => ⟨hO.exn hE, hf⟩, sV, sV, fun _ _ _ hE h => h.ext hE, fun _ _ _ hE ⟨hO, hf⟩ => ⟨hO.exn hE, hf⟩, fun _ _ _ hE ⟨hO, hf⟩ => ⟨hO.exn hE, hf⟩, trivial⟩ ⟨fun ρz wz hE hA ⟨e10, _⟩ _ => core_val rfl rfl (o_move (e10.trans h10)),
 fun ρz wz hE hA ⟨e12, _⟩ _ => core_val rfl rfl (o_move (e12.trans h12)),
 fun ρz wz hE hA _ ⟨u0, u1, _⟩ => core_cut (R := intR) rfl u0 si_23 sz_3 ((O10.ext hE (fun _ hb hg => absurd (O10.lt hb).2 (Nat.not_lt.2 hg))).rep (hn := fun _ => rfl) (G := fun b => w10.heap.size ≤ b) (fun _ hb hg => absurd (O10.lt hb).2 (Nat.not_lt.2 hg))) hs (.inl ⟨rfl, rfl⟩) (.inr (congrArg some u1)) (fun _ h => h),
 fun ρz wz hE hA _ ⟨hR2, _⟩ => core_appendN (n := 1) (cells := fun x : Int => [Value.int .i64 x]) (B := w0.heap.size) (w0 := w10) rfl  rfl rfl (fun _ => rfl) one_3 si_23 se_3 (by decide) (by decide) (Own.nil w0.heap.size 3 1 (fun x : Int => [Value.int .i64 x]) wz) ⟨_, hR2⟩ hl (Nat.le_trans hsz hE.size) hE.size (fun v1 w1 h1 h2 => ⟨h1, fun b hb => (h2 b hb).resolve_left (by simp [Value.ownBlock])⟩),
 fun ρz wz hE hA ⟨e11, _⟩ _ => core_val rfl rfl (o_move (e11.trans h11)),
 fun ρz wz hE hA _ ⟨u4, _⟩ => core_slice rfl rfl hE (o_buildSlice (build_parts1 u4) (bs_23_1 _ _)),
 fun ρz wz hE hA _ ⟨⟨hO3, hfr3⟩, ⟨bz5, hz5, hge5, hM5⟩, _⟩ => core_append (n := 1) (cells := fun x : Int => [Value.int .i64 x]) (B := w0.heap.size) (w0 := w10) rfl rfl (fun b hb => hfr3 b hb) rfl hz5 (fun _ => rfl) one_3 si_23 se_3 (by decide) (by decide) hO3 ⟨_, (Mb.rep (n := 1) (cells := fun x : Int => [Value.int .i64 x]) (hn := fun _ => rfl) (G := noG) hM5 rfl (Nat.le_of_ble_eq_true rfl) (fun h => h))⟩ hl2 (Nat.le_trans hsz hE.size) hE.size (fun v1 w1 h1 h2 => ⟨h1, fun b hb => (h2 b hb).elim (hfr3 b) id⟩),
 fun ρz wz hE hA ⟨e10, _⟩ _ => core_val rfl rfl (o_move (e10.trans h10)),
 fun ρz wz hE hA ⟨e12, _⟩ _ => core_val rfl rfl (o_move (e12.trans h12)),
 fun ρz wz hE hA _ ⟨u7, u8, _⟩ => core_cut (R := intR) rfl u7 si_23 sz_3 ((O10.ext hE (fun _ hb hg => absurd (O10.lt hb).2 (Nat.not_lt.2 hg))).rep (hn := fun _ => rfl) (G := fun b => w10.heap.size ≤ b) (fun _ hb hg => absurd (O10.lt hb).2 (Nat.not_lt.2 hg))) hs2 (.inr (congrArg some u8)) (.inl ⟨rfl, rfl⟩) (fun _ h => h),
 fun ρz wz hE hA _ ⟨⟨hO6, hfr6⟩, hR9, _⟩ => core_append (n := 1) (cells := fun x : Int => [Value.int .i64 x]) (B := w0.heap.size) (w0 := w10) rfl rfl (fun b hb => hfr6 b hb) rfl rfl (fun _ => rfl) one_3 si_23 se_3 (by decide) (by decide) hO6 ⟨_, hR9⟩ hl3 (Nat.le_trans hsz hE.size) hE.size (fun v1 w1 h1 h2 => ⟨h1, fun b hb => (h2 b hb).elim (hfr6 b) id⟩),
 fun ρz wz hE hA _ ⟨⟨hO10, hfr10⟩, _⟩ => core_copy rfl rfl (o_assign rfl) ⟨hO10, hfr10⟩, trivial⟩ ?_
    intro ρ12 w12 hE hN hf hr
    have hN := hE.fresh
    obtain ⟨v10_2, h10⟩ : ∃ v, ρ12 10 = v := ⟨_, rfl⟩
    have hq10 : (fun u wz => Own w0.heap.size 3 1 (fun x : Int => [Value.int .i64 x]) wz u l3 ∧ ∀ b, u.ownBlock = some b → w10.heap.size ≤ b) (ρ12 10) w12 := hf 11 rfl
    rw [h10] at hq10
    obtain ⟨hq10, hfr10⟩ := hq10
    obtain ⟨h0, h1, h2, h3, h11⟩ := k5 hr h0 h1 h2 h3 h11 rfl
    have Oo_O10 := O10
    have H_l_ := H_l_.exn hN
    have H_t_ := H_t_.exn hN
    have hW := hW.trans hN
    have O10 := hq10
    have hsz := hW.size
    refine WP.rv mixed [[], [0], [0, 1]] [[], [0], [1]] [[11], [], []] [(26, .int .i64 i_), (27, .int .i64 (i64 (i_ + 1))), (11, .int .i64 (i64 (i_ + 1)))] (by kernel_rfl) ⟨fun ρz wz hE hA ⟨e11, _⟩ _ => core_val rfl rfl (o_move (e11.trans h11)),
 fun ρz wz hE hA _ ⟨u0, _⟩ => core_val rfl rfl (o_add u0 rfl rfl),
 fun ρz wz hE hA _ ⟨u1, _⟩ => core_val rfl rfl (o_assign u1), trivial⟩ ?_
    intro ρ13 w13 hN hf hr
    have h11 : ρ13 11 = .int .i64 (i64 (i_ + 1)) := hf 2 rfl
    obtain ⟨h0, h1, h2, h3, h10⟩ := k5 hr h0 h1 h2 h3 h10 rfl
    have Oo_O10 := O10
    have H_l_ := H_l_.exn hN
    have H_t_ := H_t_.exn hN
    have hW := hW.trans hN
    have O10 := O10.exn hN
    have hsz := hW.size
    exact ⟨l3, i64 (i_ + 1), v10_2, h0, h1, h2, h3, h10, h11, H_l_, H_t_, O10, hW, hsz, (by first | exact hF | (rw [hrec_]; exact hF))⟩
  have hF := (if_neg (Bool.eq_false_iff.1 hb)).symm.trans hF
  refine WP.exit ?_
  refine thenQ_exit ?_
  refine thenQ_exit ?_
  refine blockQ_hit ?_
  refine WP.seq ?_
  refine WP.rb mixed [[], [0], []] [[10], [], []] [(63, v10_), (8, v10_), (9, .int .i64 0)] (by kernel_rfl) ⟨fun ρz wz hE hA ⟨e10, _⟩ _ => core_val rfl rfl (o_move (e10.trans h10)),
 fun ρz wz hE hA _ ⟨u0, _⟩ => core_val rfl rfl (o_assign u0),
 fun ρz wz hE hA _ _ => core_val rfl rfl (o_assign rfl), trivial⟩ ?_
  intro ρ14 w14 hN hf hr
  have h8 : ρ14 8 = v10_ := hf 1 rfl
  have h9 : ρ14 9 = .int .i64 0 := hf 2 rfl
  have Oo_O10 := O10
  have hW := hW.trans hN
  have O8 := O10.exn hN
  have hsz := hW.size
  refine WP.ret ?_
  show retQ Tryd.prog 64 Tryd.f15 (fun v w1 => (∃ u0 : Value, v = .tuple #[u0, .int .i64 r.2] ∧ Own w0.heap.size 3 1 (fun x : Int => [Value.int .i64 x]) w1 u0 r.1) ∧ Ext noG w0 w1) .ret ρ14 w14
  obtain rfl := Option.some.inj hF
  exact res2 rfl (by decide) (by decide) h8 h9 ⟨⟨_, rfl, O8⟩, hW⟩

set_option maxHeartbeats 4000000 in
theorem family_Order_ok {w0 : World} (l_ : List Right) (home_ : Int) (t_ : List Rate) (month_ : Int) {v_l_ : Value} (H_l_ : RepSl Right.R noG w0 v_l_ l_) {v_t_ : Value} (H_t_ : RepSl Rate.R noG w0 v_t_ t_) {r : (List Int) × Int} (hF : family_Order l_ home_ t_ month_ = some r) :
    Calls Tryd.prog 14 #[v_l_, .int .i64 home_, v_t_, .int .i64 month_] w0 fun e w1 => ∃ v, e = .returned v ∧ Ext noG w0 w1 ∧ (∃ u0 : Value, v = .tuple #[u0, .int .i64 r.2] ∧ Own w0.heap.size 3 1 (fun x : Int => [Value.int .i64 x]) w1 u0 r.1) := by
  refine (Calls.start (P := Tryd.prog) (args := [v_l_, .int .i64 home_, v_t_, .int .i64 month_]) (R := fun v w1 => (∃ u0 : Value, v = .tuple #[u0, .int .i64 r.2] ∧ Own w0.heap.size 3 1 (fun x : Int => [Value.int .i64 x]) w1 u0 r.1) ∧ Ext noG w0 w1) (n := 44) (w := w0) Tryd.func14 rfl rfl (Nat.le_of_ble_eq_true rfl) (fun ρ hargs => ?_)).mono (fun e w1 ⟨v, he, hv, hE⟩ => ⟨v, he, hE, hv⟩)
  have h0 := hargs 0 _ rfl
  have h1 := hargs 1 _ rfl
  have h2 := hargs 2 _ rfl
  have h3 := hargs 3 _ rfl
  have hW := Ext.refl noG w0
  have hsz := Nat.le_refl w0.heap.size
  obtain ⟨_, _, hs_H_l_, _, _⟩ := RepSl.shape H_l_
  have H_l_ := H_l_.start
  obtain ⟨_, _, hs_H_t_, _, _⟩ := RepSl.shape H_t_
  have H_t_ := H_t_.start
  rw [family_Order] at hF
  refine WP.seq ?_
  refine WP.rg mixed [[], [], [], [], [], []] [[], [], [], [], [], []] [[0], [1], [2], [3], [], []] [(4, fun u wz => ∃ b, u = .pointer (some ⟨b, 0, none⟩) ∧ w0.heap.size ≤ b ∧ Mb wz b 24 [v_l_]), (5, fun u wz => ∃ b, u = .pointer (some ⟨b, 0, none⟩) ∧ w0.heap.size ≤ b ∧ Mb wz b 3 [Value.int .i64 home_]), (6, fun u wz => ∃ b, u = .pointer (some ⟨b, 0, none⟩) ∧ w0.heap.size ≤ b ∧ Mb wz b 26 [v_t_]), (7, fun u wz => ∃ b, u = .pointer (some ⟨b, 0, none⟩) ∧ w0.heap.size ≤ b ∧ Mb wz b 3 [Value.int .i64 month_]), val 8 (.slice none 0 0), val 9 (.int .i64 0)] (by kernel_rfl) ⟨fun _ _ _ hE ⟨b, hb, hs, hM⟩ => ⟨b, hb, hs, hM.exn hE⟩, fun _ _ _ hE ⟨b, hb, hs, hM⟩ => ⟨b, hb, hs, hM.exn hE⟩, fun _ _ _ hE ⟨b, hb, hs, hM⟩ => ⟨b, hb, hs, hM.exn hE⟩, fun _ _ _ hE ⟨b, hb, hs, hM⟩ => ⟨b, hb, hs, hM.exn hE⟩, sV, sV, trivial⟩ ⟨fun ρz wz hE hA ⟨e0, _⟩ _ => core_new rfl rfl hE (o_box (e0.trans h0) (bxv_24 ⟨_, _, _, hs_H_l_⟩ _)),
 fun ρz wz hE hA ⟨e1, _⟩ _ => core_new rfl rfl hE (o_box (e1.trans h1) (bx_3 _ _)),
 fun ρz wz hE hA ⟨e2, _⟩ _ => core_new rfl rfl hE (o_box (e2.trans h2) (bxv_26 ⟨_, _, _, hs_H_t_⟩ _)),
 fun ρz wz hE hA ⟨e3, _⟩ _ => core_new rfl rfl hE (o_box (e3.trans h3) (bx_3 _ _)),
 fun ρz wz hE hA _ _ => core_val rfl rfl (o_assign rfl),
 fun ρz wz hE hA _ _ => core_val rfl rfl (o_assign rfl), trivial⟩ ?_
  intro ρ1 w1 hN hf hr
  obtain ⟨b4_, h4, hge_b4_, Hb_b4_⟩ := hf 0 rfl
  obtain ⟨b5_, h5, hge_b5_, Hb_b5_⟩ := hf 1 rfl
  obtain ⟨b6_, h6, hge_b6_, Hb_b6_⟩ := hf 2 rfl
  obtain ⟨b7_, h7, hge_b7_, Hb_b7_⟩ := hf 3 rfl
  have H_l_ := H_l_.exn hN
  have H_t_ := H_t_.exn hN
  have hW := hW.trans hN
  have hB_b4_ : w0.heap.size ≤ b4_ := Nat.le_trans hsz hge_b4_
  have hB_b5_ : w0.heap.size ≤ b5_ := Nat.le_trans hsz hge_b5_
  have hB_b6_ : w0.heap.size ≤ b6_ := Nat.le_trans hsz hge_b6_
  have hB_b7_ : w0.heap.size ≤ b7_ := Nat.le_trans hsz hge_b7_
  have hsz := hW.size
  refine WP.seq ?_
  refine WP.seq ?_
  obtain ⟨z, hz, hF⟩ := obind hF
  obtain ⟨c, hc, hF⟩ := obind hF
  obtain ⟨z2, hz2, hc⟩ := orB hc
  have hc := orE hc
  refine WP.rb mixed [[], [0], [1], [2], [3], [3, 4], [3, 5], [6], [7], [7, 8], [7, 9], [10], [11], [11, 12], [11, 13], [11, 14]] [[4], [], [], [], [7], [], [], [], [7], [], [], [], [6], [], [], []] [(13, v_l_), (14, .bool z), (15, .bool (!z)), (16, .bool (!z)), (17, gv (!(!z)) (.int .i64 month_)), (18, gv (!(!z)) (.bool (decide (month_ < 0)))), (19, .bool ((!z) || decide (month_ < 0))), (20, .bool ((!z) || decide (month_ < 0))), (21, gv (!((!z) || decide (month_ < 0))) (.int .i64 month_)), (22, gv (!((!z) || decide (month_ < 0))) (.bool (decide (2399 < month_)))), (23, .bool (((!z) || decide (month_ < 0)) || decide (2399 < month_))), (24, .bool (((!z) || decide (month_ < 0)) || decide (2399 < month_))), (25, gv (!(((!z) || decide (month_ < 0)) || decide (2399 < month_))) v_t_), (26, gv (!(((!z) || decide (month_ < 0)) || decide (2399 < month_))) (.int .i64 z2)), (27, gv (!(((!z) || decide (month_ < 0)) || decide (2399 < month_))) (.bool (z2 != 0))), (28, .bool c)] (by kernel_rfl) ⟨fun ρz wz hE hA ⟨e4, _⟩ _ => core_val rfl rfl (o_load (e4.trans h4) (run_load1 (lr_24 _ _) ((Hb_b4_.exn (hA rfl)).ca))),
 fun ρz wz hE hA _ ⟨u0, _⟩ => core_call rfl (call_args1 u0) cf_26 (family_valid_ok  _ (H_l_.exn (hA rfl)).no hz),
 fun ρz wz hE hA _ ⟨u1, _⟩ => core_val rfl rfl (o_not u1 rfl),
 fun ρz wz hE hA _ ⟨u2, _⟩ => core_val rfl rfl (o_move u2),
 fun ρz wz hE hA ⟨e7, _⟩ ⟨u3, _⟩ => gIf rfl rfl (yF rfl u3) fun gc F hF => core_val rfl hF (o_load (e7.trans h7) (run_load1 (lr_3 _ _) ((Hb_b7_.exn (hA rfl)).ca))),
 fun ρz wz hE hA _ ⟨u3, u4, _⟩ => gIf rfl rfl (yF rfl u3) fun gc F hF => core_val rfl hF (o_lss (gt gc u4) rfl rfl),
 fun ρz wz hE hA _ ⟨u3, u5, _⟩ => core_val rfl rfl (o_pick_or u3 rfl u5),
 fun ρz wz hE hA _ ⟨u6, _⟩ => core_val rfl rfl (o_move u6),
 fun ρz wz hE hA ⟨e7, _⟩ ⟨u7, _⟩ => gIf rfl rfl (yF rfl u7) fun gc F hF => core_val rfl hF (o_load (e7.trans h7) (run_load1 (lr_3 _ _) ((Hb_b7_.exn (hA rfl)).ca))),
 fun ρz wz hE hA _ ⟨u7, u8, _⟩ => gIf rfl rfl (yF rfl u7) fun gc F hF => core_val rfl hF (o_gtr (gt gc u8) rfl rfl),
 fun ρz wz hE hA _ ⟨u7, u9, _⟩ => core_val rfl rfl (o_pick_or u7 rfl u9),
 fun ρz wz hE hA _ ⟨u10, _⟩ => core_val rfl rfl (o_move u10),
 fun ρz wz hE hA ⟨e6, _⟩ ⟨u11, _⟩ => gIf rfl rfl (yF rfl u11) fun gc F hF => core_val rfl hF (o_load (e6.trans h6) (run_load1 (lr_26 _ _) ((Hb_b6_.exn (hA rfl)).ca))),
 fun ρz wz hE hA _ ⟨u11, u12, _⟩ => gIf rfl rfl (yF rfl u11) fun gc F hF => core_call hF (call_args1 (gt gc u12)) cf_27 (money_CheckRates_ok  _ (H_t_.exn (hA rfl)).no (hz2 gc)),
 fun ρz wz hE hA _ ⟨u11, u13, _⟩ => gIf rfl rfl (yF rfl u11) fun gc F hF => core_val rfl hF (o_neq (gt gc u13) rfl rfl),
 fun ρz wz hE hA _ ⟨u11, u14, _⟩ => core_valE rfl rfl (congrArg Value.bool hc) (o_pick_or u11 rfl u14), trivial⟩ ?_
  intro ρ2 w2 hN hf hr
  have h28 : ρ2 28 = .bool c := hf 15 rfl
  obtain ⟨h4, h5, h6, h7⟩ := k4 hr h4 h5 h6 h7 rfl
  have Hb_b4_n := Hb_b4_.exn hN
  have Hb_b5_n := Hb_b5_.exn hN
  have Hb_b6_n := Hb_b6_.exn hN
  have Hb_b7_n := Hb_b7_.exn hN
  have H_l_ := H_l_.exn hN
  have H_t_ := H_t_.exn hN
  have hW := hW.trans hN
  have Hb_b4_ := Hb_b4_n
  have Hb_b5_ := Hb_b5_n
  have Hb_b6_ := Hb_b6_n
  have Hb_b7_ := Hb_b7_n
  have hsz := hW.size
  refine WP.cond rfl h28 (fun hb => ?_) (fun hb => ?_)
  · have hF := (if_pos hb).symm.trans hF
    refine WP.seq ?_
    refine WP.rb mixed [[], []] [[], []] [(8, .slice none 0 0), (9, .int .i64 1)] (by kernel_rfl) ⟨fun ρz wz hE hA _ _ => core_val rfl rfl (o_assign rfl),
 fun ρz wz hE hA _ _ => core_val rfl rfl (o_assign rfl), trivial⟩ ?_
    intro ρ3 w3 hN hf hr
    have h8 : ρ3 8 = .slice none 0 0 := hf 0 rfl
    have O8 : Own w0.heap.size 3 1 (fun x : Int => [Value.int .i64 x]) w3 (.slice none 0 0) [] := Own.nil _ _ _ _ _
    have h9 : ρ3 9 = .int .i64 1 := hf 1 rfl
    have hW := hW.trans hN
    have hsz := hW.size
    refine WP.ret ?_
    show retQ Tryd.prog 44 Tryd.f14 (fun v w1 => (∃ u0 : Value, v = .tuple #[u0, .int .i64 r.2] ∧ Own w0.heap.size 3 1 (fun x : Int => [Value.int .i64 x]) w1 u0 r.1) ∧ Ext noG w0 w1) .ret ρ3 w3
    obtain rfl := Option.some.inj hF
    exact res2 rfl (by decide) (by decide) h8 h9 ⟨⟨_, rfl, O8⟩, hW⟩
  have hF := (if_neg (Bool.eq_false_iff.1 hb)).symm.trans hF
  refine WP.skip ?_
  refine WP.seq ?_
  refine WP.region mixed [[], [], [0, 1]] [[], [], [0, 1]] [[5], [], []] [2] [(1, 2)] [val 29 (.func (.func 28) #[] #[.pointer (some ⟨b5_, 0, none⟩)]), (10, fun u wz => ∃ b, u = .pointer (some ⟨b, 0, none⟩) ∧ w2.heap.size ≤ b ∧ Mb wz b 58 [Value.nilFunc]), (10, fun u wz => ∃ b, u = .pointer (some ⟨b, 0, none⟩) ∧ w2.heap.size ≤ b ∧ Mb wz b 58 [.func (.func 28) #[] #[.pointer (some ⟨b5_, 0, none⟩)]])] (fun b => w2.heap.size ≤ b) (by kernel_rfl) ⟨sV, fun _ _ _ hE ⟨b, hb, hs, hM⟩ => ⟨b, hb, hs, hM.exn hE⟩, fun _ _ _ hE ⟨b, hb, hs, hM⟩ => ⟨b, hb, hs, hM.exn hE⟩, trivial⟩ ⟨fun ρz wz hE hA ⟨e5, _⟩ _ => core_val rfl rfl (o_makeFunc (call_args1 (e5.trans h5))),
 fun ρz wz hE hA _ _ => core_new rfl rfl hE (o_alloc (al_58 _)),
 fun ρz wz hE hA _ ⟨u0, u1, _⟩ => core_storeNew rfl rfl rfl rfl u0 u1 (stv_58 ⟨_, _, _, rfl⟩) rfl (one_val (oneC_func ⟨_, _, _, rfl⟩)), trivial⟩ ?_
  intro ρ4 w4 hE hN hf hr
  have hN := hE.fresh
  obtain ⟨b10_, h10, hge_b10_, Hb_b10_⟩ := hf 2 rfl
  obtain ⟨h4, h6, h7⟩ := k3 hr h4 h6 h7 rfl
  have Hb_b4_n := Hb_b4_.exn hN
  have Hb_b5_n := Hb_b5_.exn hN
  have Hb_b6_n := Hb_b6_.exn hN
  have Hb_b7_n := Hb_b7_.exn hN
  have H_l_ := H_l_.exn hN
  have H_t_ := H_t_.exn hN
  have hW := hW.trans hN
  have Hb_b4_ := Hb_b4_n
  have Hb_b5_ := Hb_b5_n
  have Hb_b6_ := Hb_b6_n
  have Hb_b7_ := Hb_b7_n
  have hB_b10_ : w0.heap.size ≤ b10_ := Nat.le_trans hsz hge_b10_
  have hsz := hW.size
  refine WP.seq ?_
  refine WP.rb mixed [[]] [[]] [(11, .slice none 0 0)] (by kernel_rfl) ⟨fun ρz wz hE hA _ _ => core_val rfl rfl (o_assign rfl), trivial⟩ ?_
  intro ρ5 w5 hN hf hr
  have h11 : ρ5 11 = .slice none 0 0 := hf 0 rfl
  have O11 : Own w0.heap.size 3 1 (fun x : Int => [Value.int .i64 x]) w5 (.slice none 0 0) [] := Own.nil _ _ _ _ _
  obtain ⟨h4, h6, h7, h10⟩ := k4 hr h4 h6 h7 h10 rfl
  have Hb_b4_n := Hb_b4_.exn hN
  have Hb_b5_n := Hb_b5_.exn hN
  have Hb_b6_n := Hb_b6_.exn hN
  have Hb_b7_n := Hb_b7_.exn hN
  have Hb_b10_n := Hb_b10_.exn hN
  have H_l_ := H_l_.exn hN
  have H_t_ := H_t_.exn hN
  have hnb_O11_b4_ : Value.ownBlock (.slice none 0 0) ≠ some b4_ := by simp [Value.ownBlock]
  have hnb_O11_b5_ : Value.ownBlock (.slice none 0 0) ≠ some b5_ := by simp [Value.ownBlock]
  have hnb_O11_b6_ : Value.ownBlock (.slice none 0 0) ≠ some b6_ := by simp [Value.ownBlock]
  have hnb_O11_b7_ : Value.ownBlock (.slice none 0 0) ≠ some b7_ := by simp [Value.ownBlock]
  have hnb_O11_b10_ : Value.ownBlock (.slice none 0 0) ≠ some b10_ := by simp [Value.ownBlock]
  have hW := hW.trans hN
  have Hb_b4_ := Hb_b4_n
  have Hb_b5_ := Hb_b5_n
  have Hb_b6_ := Hb_b6_n
  have Hb_b7_ := Hb_b7_n
  have Hb_b10_ := Hb_b10_n
  have hsz := hW.size
  refine WP.seq ?_
  refine WP.seq ?_
  refine WP.rb mixed [[], [0], []] [[4], [], []] [(30, v_l_), (31, .int .i64 (l_.length : Int)), (32, .int .i64 0)] (by kernel_rfl) ⟨fun ρz wz hE hA ⟨e4, _⟩ _ => core_val rfl rfl (o_load (e4.trans h4) (run_load1 (lr_24 _ _) ((Hb_b4_.exn (hA rfl)).ca))),
 fun ρz wz hE hA _ ⟨u0, _⟩ => core_val rfl rfl (o_len (u0.trans hs_H_l_) len_24),
 fun ρz wz hE hA _ _ => core_val rfl rfl (o_move rfl), trivial⟩ ?_
  intro ρ6 w6 hN hf hr
  have h31 : ρ6 31 = .int .i64 (l_.length : Int) := hf 1 rfl
  have h32 : ρ6 32 = .int .i64 0 := hf 2 rfl
  obtain ⟨h4, h6, h7, h10, h11⟩ := k5 hr h4 h6 h7 h10 h11 rfl
  have Oo_O11 := O11
  have Hb_b4_n := Hb_b4_.exn hN
  have Hb_b5_n := Hb_b5_.exn hN
  have Hb_b6_n := Hb_b6_.exn hN
  have Hb_b7_n := Hb_b7_.exn hN
  have Hb_b10_n := Hb_b10_.exn hN
  have H_l_ := H_l_.exn hN
  have H_t_ := H_t_.exn hN
  have hnb_O11_b4_ : Value.ownBlock (.slice none 0 0) ≠ some b4_ := by simp [Value.ownBlock]
  have hnb_O11_b5_ : Value.ownBlock (.slice none 0 0) ≠ some b5_ := by simp [Value.ownBlock]
  have hnb_O11_b6_ : Value.ownBlock (.slice none 0 0) ≠ some b6_ := by simp [Value.ownBlock]
  have hnb_O11_b7_ : Value.ownBlock (.slice none 0 0) ≠ some b7_ := by simp [Value.ownBlock]
  have hnb_O11_b10_ : Value.ownBlock (.slice none 0 0) ≠ some b10_ := by simp [Value.ownBlock]
  have hW := hW.trans hN
  have O11 := O11.exn hN
  have Hb_b4_ := Hb_b4_n
  have Hb_b5_ := Hb_b5_n
  have Hb_b6_ := Hb_b6_n
  have Hb_b7_ := Hb_b7_n
  have Hb_b10_ := Hb_b10_n
  have hsz := hW.size
  refine WP.block ?_
  refine WP.loop (fun k_ ρ w => ∃ out_ : List Int, ∃ x : Int, ∃ v11_ : Value, ρ 4 = .pointer (some ⟨b4_, 0, none⟩) ∧ ρ 6 = .pointer (some ⟨b6_, 0, none⟩) ∧ ρ 7 = .pointer (some ⟨b7_, 0, none⟩) ∧ ρ 10 = .pointer (some ⟨b10_, 0, none⟩) ∧ ρ 11 = v11_ ∧ ρ 31 = .int .i64 (l_.length : Int) ∧ ρ 32 = .int .i64 x ∧ Mb w b4_ 24 [v_l_] ∧ Mb w b5_ 3 [Value.int .i64 home_] ∧ Mb w b6_ 26 [v_t_] ∧ Mb w b7_ 3 [Value.int .i64 month_] ∧ Mb w b10_ 58 [.func (.func 28) #[] #[.pointer (some ⟨b5_, 0, none⟩)]] ∧ RepSl Right.R (gfr noG w0) w v_l_ l_ ∧ RepSl Rate.R (gfr noG w0) w v_t_ t_ ∧ Own w0.heap.size 3 1 (fun x : Int => [Value.int .i64 x]) w v11_ out_ ∧ Value.ownBlock v11_ ≠ some b4_ ∧ Value.ownBlock v11_ ≠ some b5_ ∧ Value.ownBlock v11_ ≠ some b6_ ∧ Value.ownBlock v11_ ≠ some b7_ ∧ Value.ownBlock v11_ ≠ some b10_ ∧ Ext noG w0 w ∧ w0.heap.size ≤ w.heap.size ∧ loopC k_ (family_Order_l l_ home_ t_ month_) (out_, x) = some r) FU ⟨[], 0, .slice none 0 0, h4, h6, h7, h10, h11, h31, h32, Hb_b4_, Hb_b5_, Hb_b6_, Hb_b7_, Hb_b10_, H_l_, H_t_, O11, hnb_O11_b4_, hnb_O11_b5_, hnb_O11_b6_, hnb_O11_b7_, hnb_O11_b10_, hW, hsz, hF⟩ (fun _ _ h => by obtain ⟨_, _, _, _, _, _, _, _, _, _, _, _, _, _, _, _, _, _, _, _, _, _, _, _, _, h⟩ := h; cases h) ?_
  rintro k_ ρ7 w7 ⟨out_, x, v11_, h4, h6, h7, h10, h11, h31, h32, Hb_b4_, Hb_b5_, Hb_b6_, Hb_b7_, Hb_b10_, H_l_, H_t_, O11, hnb_O11_b4_, hnb_O11_b5_, hnb_O11_b6_, hnb_O11_b7_, hnb_O11_b10_, hW, hsz, hF⟩
  have hF : family_Order_l l_ home_ t_ month_ (loopC k_ (family_Order_l l_ home_ t_ month_)) (out_, x) = some r := hF
  generalize hrec_ : loopC k_ (family_Order_l l_ home_ t_ month_) = rec_ at hF
  rw [family_Order_l] at hF
  refine WP.seq ?_
  refine WP.rb mixed [[]] [[32, 31]] [(33, .bool (decide (x < (l_.length : Int))))] (by kernel_rfl) ⟨fun ρz wz hE hA ⟨e32, e31, _⟩ _ => core_val rfl rfl (o_lss (e32.trans h32) (e31.trans h31) rfl), trivial⟩ ?_
  intro ρ8 w8 hN hf hr
  have h33 : ρ8 33 = .bool (decide (x < (l_.length : Int))) := hf 0 rfl
  obtain ⟨h4, h6, h7, h10, h11, h31⟩ := k6 hr h4 h6 h7 h10 h11 h31 rfl
  have h32 := (hr 32 rfl).trans h32
  have Oo_O11 := O11
  have Hb_b4_n := Hb_b4_.exn hN
  have Hb_b5_n := Hb_b5_.exn hN
  have Hb_b6_n := Hb_b6_.exn hN
  have Hb_b7_n := Hb_b7_.exn hN
  have Hb_b10_n := Hb_b10_.exn hN
  have H_l_ := H_l_.exn hN
  have H_t_ := H_t_.exn hN
  have hW := hW.trans hN
  have O11 := O11.exn hN
  have Hb_b4_ := Hb_b4_n
  have Hb_b5_ := Hb_b5_n
  have Hb_b6_ := Hb_b6_n
  have Hb_b7_ := Hb_b7_n
  have Hb_b10_ := Hb_b10_n
  have hsz := hW.size
  refine WP.seq ?_
  refine WP.cond rfl h33 (fun hb => ?_) (fun hb => ?_)
  · have hF := (if_pos hb).symm.trans hF
    refine WP.skip ?_
    refine WP.seq ?_
    refine WP.block ?_
    refine WP.seq ?_
    refine WP.rb mixed [[], [0]] [[32], []] [(34, .int .i64 x), (12, .int .i64 x)] (by kernel_rfl) ⟨fun ρz wz hE hA ⟨e32, _⟩ _ => core_val rfl rfl (o_move (e32.trans h32)),
 fun ρz wz hE hA _ ⟨u0, _⟩ => core_val rfl rfl (o_assign u0), trivial⟩ ?_
    intro ρ9 w9 hN hf hr
    have h12 : ρ9 12 = .int .i64 x := hf 1 rfl
    obtain ⟨h4, h6, h7, h10, h11, h31⟩ := k6 hr h4 h6 h7 h10 h11 h31 rfl
    have h32 := (hr 32 rfl).trans h32
    have Oo_O11 := O11
    have Hb_b4_n := Hb_b4_.exn hN
    have Hb_b5_n := Hb_b5_.exn hN
    have Hb_b6_n := Hb_b6_.exn hN
    have Hb_b7_n := Hb_b7_.exn hN
    have Hb_b10_n := Hb_b10_.exn hN
    have H_l_ := H_l_.exn hN
    have H_t_ := H_t_.exn hN
    have hW := hW.trans hN
    have O11 := O11.exn hN
    have Hb_b4_ := Hb_b4_n
    have Hb_b5_ := Hb_b5_n
    have Hb_b6_ := Hb_b6_n
    have Hb_b7_ := Hb_b7_n
    have Hb_b10_ := Hb_b10_n
    have hsz := hW.size
    obtain ⟨l, hl, hF⟩ := obind hF
    refine WP.region mixed [[], [], [1], [0, 2], [0, 3]] [[], [], [1], [0, 2], [3]] [[11], [12], [], [], []] [3] [] [val 35 (v11_), val 36 (.int .i64 x), (37, fun u wz => ∃ b, u = .slice (some ⟨b, 0, none⟩) 1 1 ∧ w9.heap.size ≤ b ∧ Mb wz b 3 (([x]).flatMap (fun x : Int => [Value.int .i64 x]))), (38, fun u wz => Own w0.heap.size 3 1 (fun x : Int => [Value.int .i64 x]) wz u l ∧ ∀ b, u.ownBlock = some b → (v11_.ownBlock = some b ∨ w9.heap.size ≤ b)), (11, fun u wz => Own w0.heap.size 3 1 (fun x : Int => [Value.int .i64 x]) wz u l ∧ ∀ b, u.ownBlock = some b → (v11_.ownBlock = some b ∨ w9.heap.size ≤ b))] (fun b => Value.ownBlock v11_ = some b) (by kernel_rfl) ⟨sV, sV, fun _ _ _ hE ⟨b, hz, hs, hM⟩ => ⟨b, hz, hs, hM.ext hE (fun hg => absurd (O11.lt hg).2 (Nat.not_lt.2 hs))⟩, fun _ _ _ hE ⟨hO, hf⟩ => ⟨hO.exn hE, hf⟩, fun _ _ _ hE ⟨hO, hf⟩ => ⟨hO.exn hE, hf⟩, trivial⟩ ⟨fun ρz wz hE hA ⟨e11, _⟩ _ => core_val rfl rfl (o_move (e11.trans h11)),
 fun ρz wz hE hA ⟨e12, _⟩ _ => core_val rfl rfl (o_move (e12.trans h12)),
 fun ρz wz hE hA _ ⟨u1, _⟩ => core_slice rfl rfl hE (o_buildSlice (build_parts1 u1) (bs_23_1 _ _)),
 fun ρz wz hE hA _ ⟨u0, ⟨bz2, hz2, hge2, hM2⟩, _⟩ => core_append (n := 1) (cells := fun x : Int => [Value.int .i64 x]) (B := w0.heap.size) (w0 := w9) rfl rfl (fun b hb => hb) u0 hz2 (fun _ => rfl) one_3 si_23 se_3 (by decide) (by decide) (O11.exn (hA rfl)) ⟨_, (Mb.rep (n := 1) (cells := fun x : Int => [Value.int .i64 x]) (hn := fun _ => rfl) (G := noG) hM2 rfl (Nat.le_of_ble_eq_true rfl) (fun h => h))⟩ hl (Nat.le_trans hsz hE.size) hE.size (fun v1 w1 h1 h2 => ⟨h1, h2⟩),
 fun ρz wz hE hA _ ⟨⟨hO3, hfr3⟩, _⟩ => core_copy rfl rfl (o_assign rfl) ⟨hO3, hfr3⟩, trivial⟩ ?_
    intro ρ10 w10 hE hN hf hr
    obtain ⟨v11_2, h11⟩ : ∃ v, ρ10 11 = v := ⟨_, rfl⟩
    have hq11 : (fun u wz => Own w0.heap.size 3 1 (fun x : Int => [Value.int .i64 x]) wz u l ∧ ∀ b, u.ownBlock = some b → (v11_.ownBlock = some b ∨ w9.heap.size ≤ b)) (ρ10 11) w10 := hf 4 rfl
    rw [h11] at hq11
    obtain ⟨hq11, hfr11⟩ := hq11
    obtain ⟨h4, h6, h7, h10, h31, h32⟩ := k6 hr h4 h6 h7 h10 h31 h32 rfl
    have Oo_O11 := O11
    have Hb_b4_n := Hb_b4_.ext hE (fun h => hnb_O11_b4_ h)
    have Hb_b5_n := Hb_b5_.ext hE (fun h => hnb_O11_b5_ h)
    have Hb_b6_n := Hb_b6_.ext hE (fun h => hnb_O11_b6_ h)
    have Hb_b7_n := Hb_b7_.ext hE (fun h => hnb_O11_b7_ h)
    have Hb_b10_n := Hb_b10_.ext hE (fun h => hnb_O11_b10_ h)
    have H_l_ := H_l_.over hE (fun b hb => (O11.lt hb).1)
    have H_t_ := H_t_.over hE (fun b hb => (O11.lt hb).1)
    have hnb_O11_b4_ : v11_2.ownBlock ≠ some b4_ := fun h => (hfr11 _ h).elim (fun h2 => hnb_O11_b4_ h2) (fun h2 => absurd Hb_b4_.lt (Nat.not_lt.2 h2))
    have hnb_O11_b5_ : v11_2.ownBlock ≠ some b5_ := fun h => (hfr11 _ h).elim (fun h2 => hnb_O11_b5_ h2) (fun h2 => absurd Hb_b5_.lt (Nat.not_lt.2 h2))
    have hnb_O11_b6_ : v11_2.ownBlock ≠ some b6_ := fun h => (hfr11 _ h).elim (fun h2 => hnb_O11_b6_ h2) (fun h2 => absurd Hb_b6_.lt (Nat.not_lt.2 h2))
    have hnb_O11_b7_ : v11_2.ownBlock ≠ some b7_ := fun h => (hfr11 _ h).elim (fun h2 => hnb_O11_b7_ h2) (fun h2 => absurd Hb_b7_.lt (Nat.not_lt.2 h2))
    have hnb_O11_b10_ : v11_2.ownBlock ≠ some b10_ := fun h => (hfr11 _ h).elim (fun h2 => hnb_O11_b10_ h2) (fun h2 => absurd Hb_b10_.lt (Nat.not_lt.2 h2))
    have hW := Ext.own hW hE (fun b hb => (O11.lt hb).1)
    have O11 := hq11
    have Hb_b4_ := Hb_b4_n
    have Hb_b5_ := Hb_b5_n
    have Hb_b6_ := Hb_b6_n
    have Hb_b7_ := Hb_b7_n
    have Hb_b10_ := Hb_b10_n
    have hsz := hW.size
    refine WP.rb mixed [[], [0]] [[32], []] [(39, .int .i64 (i64 (x + 1))), (32, .int .i64 (i64 (x + 1)))] (by kernel_rfl) ⟨fun ρz wz hE hA ⟨e32, _⟩ _ => core_val rfl rfl (o_add (e32.trans h32) rfl rfl),
 fun ρz wz hE hA _ ⟨u0, _⟩ => core_val rfl rfl (o_move u0), trivial⟩ ?_
    intro ρ11 w11 hN hf hr
    have h32 : ρ11 32 = .int .i64 (i64 (x + 1)) := hf 1 rfl
    obtain ⟨h4, h6, h7, h10, h11, h31⟩ := k6 hr h4 h6 h7 h10 h11 h31 rfl
    have Oo_O11 := O11
    have Hb_b4_n := Hb_b4_.exn hN
    have Hb_b5_n := Hb_b5_.exn hN
    have Hb_b6_n := Hb_b6_.exn hN
    have Hb_b7_n := Hb_b7_.exn hN
    have Hb_b10_n := Hb_b10_.exn hN
    have H_l_ := H_l_.exn hN
    have H_t_ := H_t_.exn hN
    have hW := hW.trans hN
    have O11 := O11.exn hN
    have Hb_b4_ := Hb_b4_n
    have Hb_b5_ := Hb_b5_n
    have Hb_b6_ := Hb_b6_n
    have Hb_b7_ := Hb_b7_n
    have Hb_b10_ := Hb_b10_n
    have hsz := hW.size
    exact ⟨l, i64 (x + 1), v11_2, h4, h6, h7, h10, h11, h31, h32, Hb_b4_, Hb_b5_, Hb_b6_, Hb_b7_, Hb_b10_, H_l_, H_t_, O11, hnb_O11_b4_, hnb_O11_b5_, hnb_O11_b6_, hnb_O11_b7_, hnb_O11_b10_, hW, hsz, (by first | exact hF | (rw [hrec_]; exact hF))⟩
  have hF := (if_neg (Bool.eq_false_iff.1 hb)).symm.trans hF
  refine WP.exit ?_
  refine thenQ_exit ?_
  refine thenQ_exit ?_
  refine blockQ_hit ?_
  refine WP.seq ?_
  obtain ⟨z3, hz3, hF⟩ := obind hF
  refine WP.region mixed [[], [], [0, 1]] [[], [], [0, 1]] [[11], [4, 10, 6, 7], []] [2] [] [val 40 (v11_), val 41 (.func (.func 30) #[] #[.pointer (some ⟨b4_, 0, none⟩), .pointer (some ⟨b10_, 0, none⟩), .pointer (some ⟨b6_, 0, none⟩), .pointer (some ⟨b7_, 0, none⟩)]), (42, fun u wz => u = .tuple #[] ∧ Own w0.heap.size 3 1 (fun x : Int => [Value.int .i64 x]) wz v11_ z3)] (fun b => Value.ownBlock v11_ = some b) (by kernel_rfl) ⟨sV, sV, fun _ _ _ hE ⟨h1, h2⟩ => ⟨h1, h2.exn hE⟩, trivial⟩ ⟨fun ρz wz hE hA ⟨e11, _⟩ _ => core_val rfl rfl (o_move (e11.trans h11)),
 fun ρz wz hE hA ⟨e4, e10, e6, e7, _⟩ _ => core_val rfl rfl (o_makeFunc (call_args4 (e4.trans h4) (e10.trans h10) (e6.trans h6) (e7.trans h7))),
 fun ρz wz hE hA _ ⟨u0, u1, _⟩ => core_callM rfl rfl (fun _ h => h) (call_args2 u0 u1) cf_29 (slices_SortFunc_of__int_int_ok  _ _ (O11.exn (hA rfl)) (FnR.mk (V := fnV_28) (W := fnW_28) (G := (fun b => Value.ownBlock v11_ = some b)) (cap := [.pointer (some ⟨b4_, 0, none⟩), .pointer (some ⟨b10_, 0, none⟩), .pointer (some ⟨b6_, 0, none⟩), .pointer (some ⟨b7_, 0, none⟩)]) cf_30 (fun w' hE' x r hr => family_Order_2_ok _ _ _ _ _ _ ((Hb_b4_.exn (hA rfl)).ext hE' (fun h => hnb_O11_b4_ h)) ((H_l_.exn (hA rfl)).over hE' (fun b hb => (O11.lt hb).1)).no ((Hb_b10_.exn (hA rfl)).ext hE' (fun h => hnb_O11_b10_ h)) (((FnR.mk (V := fnV_58) (W := fnW_58) (G := (fun b => Value.ownBlock v11_ = some b)) (cap := [.pointer (some ⟨b5_, 0, none⟩)]) cf_28 (fun w' hE' x r hr => family_Order_1_ok _ _ ((Hb_b5_.exn (hA rfl)).ext hE' (fun h => hnb_O11_b5_ h)) hr))).ext hE').no ((Hb_b6_.exn (hA rfl)).ext hE' (fun h => hnb_O11_b6_ h)) ((H_t_.exn (hA rfl)).over hE' (fun b hb => (O11.lt hb).1)).no ((Hb_b7_.exn (hA rfl)).ext hE' (fun h => hnb_O11_b7_ h)) hr)) hz3), trivial⟩ ?_
  intro ρ12 w12 hE hN hf hr
  have h11 := (hr 11 rfl).trans h11
  have Oo_O11 := O11
  have hW := Ext.own hW hE (fun b hb => (O11.lt hb).1)
  have O11 := (hf 2 rfl).2
  have hsz := hW.size
  refine WP.seq ?_
  refine WP.rb mixed [[], [0], []] [[11], [], []] [(43, v11_), (8, v11_), (9, .int .i64 0)] (by kernel_rfl) ⟨fun ρz wz hE hA ⟨e11, _⟩ _ => core_val rfl rfl (o_move (e11.trans h11)),
 fun ρz wz hE hA _ ⟨u0, _⟩ => core_val rfl rfl (o_assign u0),
 fun ρz wz hE hA _ _ => core_val rfl rfl (o_assign rfl), trivial⟩ ?_
  intro ρ13 w13 hN hf hr
  have h8 : ρ13 8 = v11_ := hf 1 rfl
  have h9 : ρ13 9 = .int .i64 0 := hf 2 rfl
  have Oo_O11 := O11
  have hW := hW.trans hN
  have O8 := O11.exn hN
  have hsz := hW.size
  refine WP.ret ?_
  show retQ Tryd.prog 44 Tryd.f14 (fun v w1 => (∃ u0 : Value, v = .tuple #[u0, .int .i64 r.2] ∧ Own w0.heap.size 3 1 (fun x : Int => [Value.int .i64 x]) w1 u0 r.1) ∧ Ext noG w0 w1) .ret ρ13 w13
  obtain rfl := Option.some.inj hF
  exact res2 rfl (by decide) (by decide) h8 h9 ⟨⟨_, rfl, O8⟩, hW⟩

set_option maxHeartbeats 4000000 in
theorem pensionref21_Payments_ok {w0 : World} (d_ : List Right) (i_ : Int) (p_ : List Rate) (p_2 : Int) {v_d_ : Value} (H_d_ : RepSl Right.R noG w0 v_d_ d_) {v_p_ : Value} (H_p_ : RepSl Rate.R noG w0 v_p_ p_) {r : (List FamilyPay) × Int} (hF : pensionref21_Payments d_ i_ p_ p_2 = some r) :
    Calls Tryd.prog 22 #[v_d_, .int .i64 i_, v_p_, .int .i64 p_2] w0 fun e w1 => ∃ v, e = .returned v ∧ Ext noG w0 w1 ∧ (∃ u0 : Value, v = .tuple #[u0, .int .i64 r.2] ∧ Own w0.heap.size 48 4 FamilyPay.cells w1 u0 r.1) := by
  refine (Calls.start (P := Tryd.prog) (args := [v_d_, .int .i64 i_, v_p_, .int .i64 p_2]) (R := fun v w1 => (∃ u0 : Value, v = .tuple #[u0, .int .i64 r.2] ∧ Own w0.heap.size 48 4 FamilyPay.cells w1 u0 r.1) ∧ Ext noG w0 w1) (n := 94) (w := w0) Tryd.func22 rfl rfl (Nat.le_of_ble_eq_true rfl) (fun ρ hargs => ?_)).mono (fun e w1 ⟨v, he, hv, hE⟩ => ⟨v, he, hE, hv⟩)
  have h0 := hargs 0 _ rfl
  have h1 := hargs 1 _ rfl
  have h2 := hargs 2 _ rfl
  have h3 := hargs 3 _ rfl
  have hW := Ext.refl noG w0
  have hsz := Nat.le_refl w0.heap.size
  obtain ⟨_, _, hs_H_d_, _, _⟩ := RepSl.shape H_d_
  have H_d_ := H_d_.start
  obtain ⟨_, _, hs_H_p_, _, _⟩ := RepSl.shape H_p_
  have H_p_ := H_p_.start
  rw [pensionref21_Payments] at hF
  refine WP.seq ?_
  refine WP.rb mixed [[], []] [[], []] [(8, .slice none 0 0), (9, .int .i64 0)] (by kernel_rfl) ⟨fun ρz wz hE hA _ _ => core_val rfl rfl (o_assign rfl),
 fun ρz wz hE hA _ _ => core_val rfl rfl (o_assign rfl), trivial⟩ ?_
  intro ρ1 w1 hN hf hr
  obtain ⟨h0, h1, h2, h3⟩ := k4 hr h0 h1 h2 h3 rfl
  have H_d_ := H_d_.exn hN
  have H_p_ := H_p_.exn hN
  have hW := hW.trans hN
  have hsz := hW.size
  refine WP.seq ?_
  obtain ⟨z, hz, hF⟩ := obind hF
  refine WP.rg mixed [[], [], [], [], [0, 1, 2, 3], [4], [5], [5], [6], [7]] [[], [], [], [], [0, 1, 2, 3], [4], [5], [5], [6], [7]] [[0], [1], [2], [3], [], [], [], [], [], []] [val 20 (v_d_), val 21 (.int .i64 i_), val 22 (v_p_), val 23 (.int .i64 p_2), (24, fun u wz => ∃ q : Value, u = .tuple #[q, .int .i64 z.2] ∧ Own w0.heap.size 3 1 (fun x : Int => [Value.int .i64 x]) wz q z.1 ∧ ∀ b, q.ownBlock = some b → w1.heap.size ≤ b), (19, fun u wz => ∃ q : Value, u = .tuple #[q, .int .i64 z.2] ∧ Own w0.heap.size 3 1 (fun x : Int => [Value.int .i64 x]) wz q z.1 ∧ ∀ b, q.ownBlock = some b → w1.heap.size ≤ b), (25, fun u wz => Own w0.heap.size 3 1 (fun x : Int => [Value.int .i64 x]) wz u z.1 ∧ ∀ b, u.ownBlock = some b → w1.heap.size ≤ b), val 26 (.int .i64 z.2), (10, fun u wz => Own w0.heap.size 3 1 (fun x : Int => [Value.int .i64 x]) wz u z.1 ∧ ∀ b, u.ownBlock = some b → w1.heap.size ≤ b), val 11 (.int .i64 z.2)] (by kernel_rfl) ⟨sV, sV, sV, sV, fun _ _ _ hE ⟨q, ht, hO, hf⟩ => ⟨q, ht, hO.exn hE, hf⟩, fun _ _ _ hE ⟨q, ht, hO, hf⟩ => ⟨q, ht, hO.exn hE, hf⟩, fun _ _ _ hE ⟨hO, hf⟩ => ⟨hO.exn hE, hf⟩, sV, fun _ _ _ hE ⟨hO, hf⟩ => ⟨hO.exn hE, hf⟩, sV, trivial⟩ ⟨fun ρz wz hE hA ⟨e0, _⟩ _ => core_val rfl rfl (o_move (e0.trans h0)),
 fun ρz wz hE hA ⟨e1, _⟩ _ => core_val rfl rfl (o_move (e1.trans h1)),
 fun ρz wz hE hA ⟨e2, _⟩ _ => core_val rfl rfl (o_move (e2.trans h2)),
 fun ρz wz hE hA ⟨e3, _⟩ _ => core_val rfl rfl (o_move (e3.trans h3)),
 fun ρz wz hE hA _ ⟨u0, u1, u2, u3, _⟩ => core_callR rfl (call_args4 u0 u1 u2 u3) cf_15 ((pensionref21_Order_ok  _ _ _ _ (H_d_.exn (hA rfl)).no (H_p_.exn (hA rfl)).no hz).mono (fun e w1 ⟨v, he, hE1, q, hv, hO⟩ => ⟨v, he, hE1, q, hv, hO.base (Nat.le_trans hsz hE.size), fun b hb => Nat.le_trans hE.size (hO.lt hb).1⟩)),
 fun ρz wz hE hA _ ⟨⟨q4, ht4, hO4, hfr4⟩, _⟩ => core_copy rfl rfl (o_move rfl) ⟨q4, ht4, hO4, hfr4⟩,
 fun ρz wz hE hA _ ⟨⟨q5, ht5, hO5, hfr5⟩, _⟩ => core_copy rfl rfl (o_extract ht5 (by kernel_rfl)) ⟨hO5, hfr5⟩,
 fun ρz wz hE hA _ ⟨⟨q5, ht5, hO5, hfr5⟩, _⟩ => core_val rfl rfl (o_extract ht5 (by kernel_rfl)),
 fun ρz wz hE hA _ ⟨⟨hO6, hfr6⟩, _⟩ => core_copy rfl rfl (o_assign rfl) ⟨hO6, hfr6⟩,
 fun ρz wz hE hA _ ⟨u7, _⟩ => core_val rfl rfl (o_assign u7), trivial⟩ ?_
  intro ρ2 w2 hN hf hr
  obtain ⟨v10_, h10⟩ : ∃ v, ρ2 10 = v := ⟨_, rfl⟩
  have hq10 : (fun u wz => Own w0.heap.size 3 1 (fun x : Int => [Value.int .i64 x]) wz u z.1 ∧ ∀ b, u.ownBlock = some b → w1.heap.size ≤ b) (ρ2 10) w2 := hf 8 rfl
  rw [h10] at hq10
  obtain ⟨hq10, hfr10⟩ := hq10
  have h11 : ρ2 11 = .int .i64 z.2 := hf 9 rfl
  obtain ⟨h0, h2, h3⟩ := k3 hr h0 h2 h3 rfl
  have H_d_ := H_d_.exn hN
  have H_p_ := H_p_.exn hN
  have hW := hW.trans hN
  have Hf10 : RepSl intR (gov noG (.slice none 0 0)) w2 v10_ z.1 := hq10.rep (fun b hb hg => hg.elim id (fun h2 => by simp [Value.ownBlock] at h2))
  obtain ⟨_, _, hs_Hf10, _, _⟩ := RepSl.shape Hf10
  have hsz := hW.size
  refine WP.seq ?_
  refine WP.seq ?_
  refine WP.rb mixed [[], [0]] [[11], []] [(27, .int .i64 z.2), (28, .bool (z.2 != 0))] (by kernel_rfl) ⟨fun ρz wz hE hA ⟨e11, _⟩ _ => core_val rfl rfl (o_move (e11.trans h11)),
 fun ρz wz hE hA _ ⟨u0, _⟩ => core_val rfl rfl (o_neq u0 rfl rfl), trivial⟩ ?_
  intro ρ3 w3 hN hf hr
  have h28 : ρ3 28 = .bool (z.2 != 0) := hf 1 rfl
  obtain ⟨h0, h2, h3, h10, h11⟩ := k5 hr h0 h2 h3 h10 h11 rfl
  have H_d_ := H_d_.exn hN
  have H_p_ := H_p_.exn hN
  have Hf10 := Hf10.exn hN
  have hW := hW.trans hN
  have hsz := hW.size
  refine WP.cond rfl h28 (fun hb => ?_) (fun hb => ?_)
  · have hF := (if_pos hb).symm.trans hF
    refine WP.seq ?_
    refine WP.rb mixed [[], [], [0]] [[11], [], []] [(29, .int .i64 z.2), (8, .slice none 0 0), (9, .int .i64 z.2)] (by kernel_rfl) ⟨fun ρz wz hE hA ⟨e11, _⟩ _ => core_val rfl rfl (o_move (e11.trans h11)),
 fun ρz wz hE hA _ _ => core_val rfl rfl (o_assign rfl),
 fun ρz wz hE hA _ ⟨u0, _⟩ => core_val rfl rfl (o_assign u0), trivial⟩ ?_
    intro ρ4 w4 hN hf hr
    have h8 : ρ4 8 = .slice none 0 0 := hf 1 rfl
    have O8 : Own w0.heap.size 48 4 FamilyPay.cells w4 (.slice none 0 0) [] := Own.nil _ _ _ _ _
    have h9 : ρ4 9 = .int .i64 z.2 := hf 2 rfl
    have hW := hW.trans hN
    have hsz := hW.size
    refine WP.ret ?_
    show retQ Tryd.prog 94 Tryd.f22 (fun v w1 => (∃ u0 : Value, v = .tuple #[u0, .int .i64 r.2] ∧ Own w0.heap.size 48 4 FamilyPay.cells w1 u0 r.1) ∧ Ext noG w0 w1) .ret ρ4 w4
    obtain rfl := Option.some.inj hF
    exact res2 rfl (by decide) (by decide) h8 h9 ⟨⟨_, rfl, O8⟩, hW⟩
  have hF := (if_neg (Bool.eq_false_iff.1 hb)).symm.trans hF
  refine WP.skip ?_
  refine WP.seq ?_
  refine WP.rb mixed [[]] [[]] [(12, .slice none 0 0)] (by kernel_rfl) ⟨fun ρz wz hE hA _ _ => core_val rfl rfl (o_assign rfl), trivial⟩ ?_
  intro ρ5 w5 hN hf hr
  have h12 : ρ5 12 = .slice none 0 0 := hf 0 rfl
  have O12 : Own w0.heap.size 48 4 FamilyPay.cells w5 (.slice none 0 0) [] := Own.nil _ _ _ _ _
  obtain ⟨h0, h2, h3, h10⟩ := k4 hr h0 h2 h3 h10 rfl
  have H_d_ := H_d_.exn hN
  have H_p_ := H_p_.exn hN
  have Hf10 := Hf10.exn hN
  have hW := hW.trans hN
  have hsz := hW.size
  refine WP.seq ?_
  refine WP.seq ?_
  refine WP.rb mixed [[]] [[]] [(13, .int .i64 0)] (by kernel_rfl) ⟨fun ρz wz hE hA _ _ => core_val rfl rfl (o_assign rfl), trivial⟩ ?_
  intro ρ6 w6 hN hf hr
  have h13 : ρ6 13 = .int .i64 0 := hf 0 rfl
  obtain ⟨h0, h2, h3, h10, h12⟩ := k5 hr h0 h2 h3 h10 h12 rfl
  have Oo_O12 := O12
  have H_d_ := H_d_.exn hN
  have H_p_ := H_p_.exn hN
  have Hf10 := Hf10.exn hN
  have hW := hW.trans hN
  have O12 := O12.exn hN
  have hsz := hW.size
  refine WP.block ?_
  refine WP.loop (fun k_ ρ w => ∃ x : List FamilyPay, ∃ x2 : Int, ∃ v12_ : Value, ρ 0 = v_d_ ∧ ρ 2 = v_p_ ∧ ρ 3 = .int .i64 p_2 ∧ ρ 10 = v10_ ∧ ρ 12 = v12_ ∧ ρ 13 = .int .i64 x2 ∧ RepSl Right.R (gfr noG w0) w v_d_ d_ ∧ RepSl Rate.R (gfr noG w0) w v_p_ p_ ∧ RepSl intR (gov noG v12_) w v10_ z.1 ∧ Own w0.heap.size 48 4 FamilyPay.cells w v12_ x ∧ Ext noG w0 w ∧ w0.heap.size ≤ w.heap.size ∧ loopC k_ (pensionref21_Payments_l d_ p_ p_2 z) (x, x2) = some r) FU ⟨[], 0, .slice none 0 0, h0, h2, h3, h10, h12, h13, H_d_, H_p_, Hf10, O12, hW, hsz, hF⟩ (fun _ _ h => by obtain ⟨_, _, _, _, _, _, _, _, _, _, _, _, _, _, _, h⟩ := h; cases h) ?_
  rintro k_ ρ7 w7 ⟨x, x2, v12_, h0, h2, h3, h10, h12, h13, H_d_, H_p_, Hf10, O12, hW, hsz, hF⟩
  have hF : pensionref21_Payments_l d_ p_ p_2 z (loopC k_ (pensionref21_Payments_l d_ p_ p_2 z)) (x, x2) = some r := hF
  generalize hrec_ : loopC k_ (pensionref21_Payments_l d_ p_ p_2 z) = rec_ at hF
  rw [pensionref21_Payments_l] at hF
  refine WP.seq ?_
  refine WP.seq ?_
  refine WP.rb mixed [[], [], [1], [0, 2]] [[13], [10], [], []] [(30, .int .i64 x2), (31, v10_), (32, .int .i64 (z.1.length : Int)), (33, .bool (decide (x2 < (z.1.length : Int))))] (by kernel_rfl) ⟨fun ρz wz hE hA ⟨e13, _⟩ _ => core_val rfl rfl (o_move (e13.trans h13)),
 fun ρz wz hE hA ⟨e10, _⟩ _ => core_val rfl rfl (o_move (e10.trans h10)),
 fun ρz wz hE hA _ ⟨u1, _⟩ => core_val rfl rfl (o_len (u1.trans hs_Hf10) len_23),
 fun ρz wz hE hA _ ⟨u0, u2, _⟩ => core_val rfl rfl (o_lss u0 u2 rfl), trivial⟩ ?_
  intro ρ8 w8 hN hf hr
  have h33 : ρ8 33 = .bool (decide (x2 < (z.1.length : Int))) := hf 3 rfl
  obtain ⟨h0, h2, h3, h10, h12, h13⟩ := k6 hr h0 h2 h3 h10 h12 h13 rfl
  have Oo_O12 := O12
  have H_d_ := H_d_.exn hN
  have H_p_ := H_p_.exn hN
  have Hf10 := Hf10.exn hN
  have hW := hW.trans hN
  have O12 := O12.exn hN
  have hsz := hW.size
  refine WP.cond rfl h33 (fun hb => ?_) (fun hb => ?_)
  · have hF := (if_pos hb).symm.trans hF
    refine WP.skip ?_
    refine WP.seq ?_
    refine WP.block ?_
    refine WP.seq ?_
    obtain ⟨y, hy, hF⟩ := obind hF
    obtain ⟨ay, cy, hvy, hiy, hAy⟩ := RepSl.getF Hf10 hy
    obtain ⟨y2, hy2, hF⟩ := obind hF
    obtain ⟨ay2, cy2, hvy2, hiy2, hAy2⟩ := RepSl.getF H_d_ hy2
    refine WP.region mixed [[], [], [], [1, 2], [3], [0, 4], [5], [], [6, 7]] [[], [], [], [1, 2], [3], [0, 4], [5], [], [6, 7]] [[0], [10], [13], [], [], [], [], [], []] [8] [(7, 8)] [val 36 (v_d_), val 37 (v10_), val 38 (.int .i64 x2), val 39 (.pointer (some (ay.add (Int.toNat x2 * 1)))), val 40 (.int .i64 y), val 41 (.pointer (some (ay2.add (Int.toNat y * 4)))), val 42 (Right.val y2), (14, fun u wz => ∃ b, u = .pointer (some ⟨b, 0, none⟩) ∧ w8.heap.size ≤ b ∧ Mb wz b 43 (Right.cells (⟨0, 0, 0, 0⟩ : Right))), (14, fun u wz => ∃ b, u = .pointer (some ⟨b, 0, none⟩) ∧ w8.heap.size ≤ b ∧ Mb wz b 43 (Right.cells y2))] (fun b => w8.heap.size ≤ b) (by kernel_rfl) ⟨sV, sV, sV, sV, sV, sV, sV, fun _ _ _ hE ⟨b, hb, hs, hM⟩ => ⟨b, hb, hs, hM.exn hE⟩, fun _ _ _ hE ⟨b, hb, hs, hM⟩ => ⟨b, hb, hs, hM.exn hE⟩, trivial⟩ ⟨fun ρz wz hE hA ⟨e0, _⟩ _ => core_val rfl rfl (o_move (e0.trans h0)),
 fun ρz wz hE hA ⟨e10, _⟩ _ => core_val rfl rfl (o_move (e10.trans h10)),
 fun ρz wz hE hA ⟨e13, _⟩ _ => core_val rfl rfl (o_move (e13.trans h13)),
 fun ρz wz hE hA _ ⟨u1, u2, _⟩ => core_val rfl rfl (o_indexAddr (u1.trans hvy) u2 (ia_23 hiy)),
 fun ρz wz hE hA _ ⟨u3, _⟩ => core_val rfl rfl (o_load u3 (run_load1 (lr_3 _ _) ((hAy.exn hE.fresh).ca))),
 fun ρz wz hE hA _ ⟨u0, u4, _⟩ => core_val rfl rfl (o_indexAddr (u0.trans hvy2) u4 (ia_24 hiy2)),
 fun ρz wz hE hA _ ⟨u5, _⟩ => core_val rfl rfl (o_load u5 (run_loadN (cs := (Right.cells y2)) (lr_43 _ _) rfl ((hAy2.exn hE.fresh).ca))),
 fun ρz wz hE hA _ _ => core_new rfl rfl hE (o_alloc (al_43 _)),
 fun ρz wz hE hA _ ⟨u6, u7, _⟩ => core_storeNew rfl rfl rfl rfl u6 u7 (fun a w => st_43 _ a w) rfl (one_43 _), trivial⟩ ?_
    intro ρ9 w9 hE hN hf hr
    have hN := hE.fresh
    obtain ⟨b14_, h14, hge_b14_, Hb_b14_⟩ := hf 8 rfl
    obtain ⟨h0, h2, h3, h10, h12, h13⟩ := k6 hr h0 h2 h3 h10 h12 h13 rfl
    have Oo_O12 := O12
    have H_d_ := H_d_.exn hN
    have H_p_ := H_p_.exn hN
    have Hf10 := Hf10.exn hN
    have hnb_O12_b14_ : Value.ownBlock v12_ ≠ some b14_ := fun h => absurd (O12.lt h).2 (Nat.not_lt.2 hge_b14_)
    have hW := hW.trans hN
    have O12 := O12.exn hN
    have hB_b14_ : w0.heap.size ≤ b14_ := Nat.le_trans hsz hge_b14_
    have hsz := hW.size
    refine WP.seq ?_
    refine WP.rb mixed [[]] [[]] [(15, .int .i64 0)] (by kernel_rfl) ⟨fun ρz wz hE hA _ _ => core_val rfl rfl (o_assign rfl), trivial⟩ ?_
    intro ρ10 w10 hN hf hr
    have h15 : ρ10 15 = .int .i64 0 := hf 0 rfl
    obtain ⟨h0, h2, h3, h10, h12, h13⟩ := k6 hr h0 h2 h3 h10 h12 h13 rfl
    have h14 := (hr 14 rfl).trans h14
    have Oo_O12 := O12
    have Hb_b14_n := Hb_b14_.exn hN
    have H_d_ := H_d_.exn hN
    have H_p_ := H_p_.exn hN
    have Hf10 := Hf10.exn hN
    have hW := hW.trans hN
    have O12 := O12.exn hN
    have Hb_b14_ := Hb_b14_n
    have hsz := hW.size
    refine WP.seq ?_
    refine WP.seq ?_
    refine WP.rb mixed [[]] [[]] [(16, .int .i64 0)] (by kernel_rfl) ⟨fun ρz wz hE hA _ _ => core_val rfl rfl (o_assign rfl), trivial⟩ ?_
    intro ρ11 w11 hN hf hr
    have h16 : ρ11 16 = .int .i64 0 := hf 0 rfl
    obtain ⟨h0, h2, h3, h10, h12, h13⟩ := k6 hr h0 h2 h3 h10 h12 h13 rfl
    obtain ⟨h14, h15⟩ := k2 hr h14 h15 rfl
    have Oo_O12 := O12
    have Hb_b14_n := Hb_b14_.exn hN
    have H_d_ := H_d_.exn hN
    have H_p_ := H_p_.exn hN
    have Hf10 := Hf10.exn hN
    have hW := hW.trans hN
    have O12 := O12.exn hN
    have Hb_b14_ := Hb_b14_n
    have hsz := hW.size
    refine WP.block ?_
    refine WP.loop (fun k_2 ρ w => ∃ x3 : Int, ∃ x4 : Int, ρ 0 = v_d_ ∧ ρ 2 = v_p_ ∧ ρ 3 = .int .i64 p_2 ∧ ρ 10 = v10_ ∧ ρ 12 = v12_ ∧ ρ 13 = .int .i64 x2 ∧ ρ 14 = .pointer (some ⟨b14_, 0, none⟩) ∧ ρ 15 = .int .i64 x3 ∧ ρ 16 = .int .i64 x4 ∧ Mb w b14_ 43 (Right.cells y2) ∧ RepSl Right.R (gfr noG w0) w v_d_ d_ ∧ RepSl Rate.R (gfr noG w0) w v_p_ p_ ∧ RepSl intR (gov noG v12_) w v10_ z.1 ∧ Own w0.heap.size 48 4 FamilyPay.cells w v12_ x ∧ Value.ownBlock v12_ ≠ some b14_ ∧ Ext noG w0 w ∧ w0.heap.size ≤ w.heap.size ∧ loopC k_2 (pensionref21_Payments_l2 d_ p_ p_2 z x x2 rec_ y2) (x3, x4) = some r) FU ⟨0, 0, h0, h2, h3, h10, h12, h13, h14, h15, h16, Hb_b14_, H_d_, H_p_, Hf10, O12, hnb_O12_b14_, hW, hsz, hF⟩ (fun _ _ h => by obtain ⟨_, _, _, _, _, _, _, _, _, _, _, _, _, _, _, _, _, _, _, h⟩ := h; cases h) ?_
    rintro k_2 ρ12 w12 ⟨x3, x4, h0, h2, h3, h10, h12, h13, h14, h15, h16, Hb_b14_, H_d_, H_p_, Hf10, O12, hnb_O12_b14_, hW, hsz, hF⟩
    have hF : pensionref21_Payments_l2 d_ p_ p_2 z x x2 rec_ y2 (loopC k_2 (pensionref21_Payments_l2 d_ p_ p_2 z x x2 rec_ y2)) (x3, x4) = some r := hF
    generalize hrec_2 : loopC k_2 (pensionref21_Payments_l2 d_ p_ p_2 z x x2 rec_ y2) = rec_2 at hF
    rw [pensionref21_Payments_l2] at hF
    refine WP.seq ?_
    refine WP.seq ?_
    refine WP.rb mixed [[], [], [0, 1]] [[16], [13], []] [(43, .int .i64 x4), (44, .int .i64 x2), (45, .bool (decide (x4 < x2)))] (by kernel_rfl) ⟨fun ρz wz hE hA ⟨e16, _⟩ _ => core_val rfl rfl (o_move (e16.trans h16)),
 fun ρz wz hE hA ⟨e13, _⟩ _ => core_val rfl rfl (o_move (e13.trans h13)),
 fun ρz wz hE hA _ ⟨u0, u1, _⟩ => core_val rfl rfl (o_lss u0 u1 rfl), trivial⟩ ?_
    intro ρ13 w13 hN hf hr
    have h45 : ρ13 45 = .bool (decide (x4 < x2)) := hf 2 rfl
    obtain ⟨h0, h2, h3, h10, h12, h13⟩ := k6 hr h0 h2 h3 h10 h12 h13 rfl
    obtain ⟨h14, h15, h16⟩ := k3 hr h14 h15 h16 rfl
    have Oo_O12 := O12
    have Hb_b14_n := Hb_b14_.exn hN
    have H_d_ := H_d_.exn hN
    have H_p_ := H_p_.exn hN
    have Hf10 := Hf10.exn hN
    have hW := hW.trans hN
    have O12 := O12.exn hN
    have Hb_b14_ := Hb_b14_n
    have hsz := hW.size
    refine WP.cond rfl h45 (fun hb => ?_) (fun hb => ?_)
    · have hF := (if_pos hb).symm.trans hF
      refine WP.skip ?_
      refine WP.seqJ (fun ρ w => ∃ x5 : Int, ρ 0 = v_d_ ∧ ρ 2 = v_p_ ∧ ρ 3 = .int .i64 p_2 ∧ ρ 10 = v10_ ∧ ρ 12 = v12_ ∧ ρ 13 = .int .i64 x2 ∧ ρ 14 = .pointer (some ⟨b14_, 0, none⟩) ∧ ρ 15 = .int .i64 x5 ∧ ρ 16 = .int .i64 x4 ∧ Mb w b14_ 43 (Right.cells y2) ∧ RepSl Right.R (gfr noG w0) w v_d_ d_ ∧ RepSl Rate.R (gfr noG w0) w v_p_ p_ ∧ RepSl intR (gov noG v12_) w v10_ z.1 ∧ Own w0.heap.size 48 4 FamilyPay.cells w v12_ x ∧ Value.ownBlock v12_ ≠ some b14_ ∧ Ext noG w0 w ∧ w0.heap.size ≤ w.heap.size ∧ pensionref21_Payments_j x4 rec_2 x5 = some r) ?_ ?_
      · refine WP.block ?_
        refine WP.seq ?_
        obtain ⟨y3, hy3, hF⟩ := obind hF
        obtain ⟨ay3, cy3, hvy3, hiy3, hAy3⟩ := RepSl.getF Hf10 hy3
        obtain ⟨y4, hy4, hF⟩ := obind hF
        obtain ⟨ay4, cy4, hvy4, hiy4, hAy4⟩ := RepSl.getF H_d_ hy4
        obtain ⟨y5, hy5, hF⟩ := obind hF
        obtain ⟨ay5, cy5, hvy5, hiy5, hAy5⟩ := RepSl.getF Hf10 hy5
        obtain ⟨y6, hy6, hF⟩ := obind hF
        obtain ⟨ay6, cy6, hvy6, hiy6, hAy6⟩ := RepSl.getF H_d_ hy6
        obtain ⟨z2, hz2, hF⟩ := obind hF
        obtain ⟨z3, hz3, hF⟩ := obind hF
        refine WP.rb mixed [[], [], [], [1, 2], [3], [0, 4], [5], [6], [], [], [], [9, 10], [11], [8, 12], [13], [14], [], [16], [], [], [], [7, 15, 17, 18, 19, 20], [21], [22], [22], [23], [24]] [[0], [10], [16], [], [], [], [], [], [0], [10], [16], [], [], [], [], [], [14], [], [3], [2], [], [], [], [], [], [], []] [(49, v_d_), (50, v10_), (51, .int .i64 x4), (52, .pointer (some (ay3.add (Int.toNat x4 * 1)))), (53, .int .i64 y3), (54, .pointer (some (ay4.add (Int.toNat y3 * 4)))), (55, .pointer (some ((ay4.add (Int.toNat y3 * 4)).add 3))), (56, .int .i64 y4.Amount), (57, v_d_), (58, v10_), (59, .int .i64 x4), (60, .pointer (some (ay5.add (Int.toNat x4 * 1)))), (61, .int .i64 y5), (62, .pointer (some (ay6.add (Int.toNat y5 * 4)))), (63, .pointer (some ((ay6.add (Int.toNat y5 * 4)).add 2))), (64, .int .i64 y6.Currency), (65, .pointer (some ((⟨b14_, 0, none⟩ : Addr).add 2))), (66, .int .i64 y2.Currency), (67, .int .i64 p_2), (68, v_p_), (69, Rounding.val z2), (70, .tuple #[.int .i64 z3.1, .int .i64 z3.2]), (48, .tuple #[.int .i64 z3.1, .int .i64 z3.2]), (71, .int .i64 z3.1), (72, .int .i64 z3.2), (17, .int .i64 z3.1), (18, .int .i64 z3.2)] (by kernel_rfl) ⟨fun ρz wz hE hA ⟨e0, _⟩ _ => core_val rfl rfl (o_move (e0.trans h0)),
 fun ρz wz hE hA ⟨e10, _⟩ _ => core_val rfl rfl (o_move (e10.trans h10)),
 fun ρz wz hE hA ⟨e16, _⟩ _ => core_val rfl rfl (o_move (e16.trans h16)),
 fun ρz wz hE hA _ ⟨u1, u2, _⟩ => core_val rfl rfl (o_indexAddr (u1.trans hvy3) u2 (ia_23 hiy3)),
 fun ρz wz hE hA _ ⟨u3, _⟩ => core_val rfl rfl (o_load u3 (run_load1 (lr_3 _ _) ((hAy3.exn (hA rfl)).ca))),
 fun ρz wz hE hA _ ⟨u0, u4, _⟩ => core_val rfl rfl (o_indexAddr (u0.trans hvy4) u4 (ia_24 hiy4)),
 fun ρz wz hE hA _ ⟨u5, _⟩ => core_val rfl rfl (o_fieldAddr u5 (fa_43_3 _ _)),
 fun ρz wz hE hA _ ⟨u6, _⟩ => core_val rfl rfl (o_load u6 (run_load1 (lr_3 _ _) (CA.sub ((hAy4.exn (hA rfl)).ca) 3 1))),
 fun ρz wz hE hA ⟨e0, _⟩ _ => core_val rfl rfl (o_move (e0.trans h0)),
 fun ρz wz hE hA ⟨e10, _⟩ _ => core_val rfl rfl (o_move (e10.trans h10)),
 fun ρz wz hE hA ⟨e16, _⟩ _ => core_val rfl rfl (o_move (e16.trans h16)),
 fun ρz wz hE hA _ ⟨u9, u10, _⟩ => core_val rfl rfl (o_indexAddr (u9.trans hvy5) u10 (ia_23 hiy5)),
 fun ρz wz hE hA _ ⟨u11, _⟩ => core_val rfl rfl (o_load u11 (run_load1 (lr_3 _ _) ((hAy5.exn (hA rfl)).ca))),
 fun ρz wz hE hA _ ⟨u8, u12, _⟩ => core_val rfl rfl (o_indexAddr (u8.trans hvy6) u12 (ia_24 hiy6)),
 fun ρz wz hE hA _ ⟨u13, _⟩ => core_val rfl rfl (o_fieldAddr u13 (fa_43_2 _ _)),
 fun ρz wz hE hA _ ⟨u14, _⟩ => core_val rfl rfl (o_load u14 (run_load1 (lr_3 _ _) (CA.sub ((hAy6.exn (hA rfl)).ca) 2 1))),
 fun ρz wz hE hA ⟨e14, _⟩ _ => core_val rfl rfl (o_fieldAddr (e14.trans h14) (fa_43_2 _ _)),
 fun ρz wz hE hA _ ⟨u16, _⟩ => core_val rfl rfl (o_load u16 (run_load1 (lr_3 _ _) (CA.sub ((Hb_b14_.exn (hA rfl)).ca) 2 1))),
 fun ρz wz hE hA ⟨e3, _⟩ _ => core_val rfl rfl (o_move (e3.trans h3)),
 fun ρz wz hE hA ⟨e2, _⟩ _ => core_val rfl rfl (o_move (e2.trans h2)),
 fun ρz wz hE hA _ _ => core_call rfl call_args0 cf_40 (pensionref21_down_ok    hz2),
 fun ρz wz hE hA _ ⟨u7, u15, u17, u18, u19, u20, _⟩ => core_call rfl (call_args6 u7 u15 u17 u18 u19 u20) cf_39 (pensionref1_Convert_ok  _ _ _ _ _ _ (H_p_.exn (hA rfl)).no hz3),
 fun ρz wz hE hA _ ⟨u21, _⟩ => core_val rfl rfl (o_move u21),
 fun ρz wz hE hA _ ⟨u22, _⟩ => core_val rfl rfl (o_extract u22 (by kernel_rfl)),
 fun ρz wz hE hA _ ⟨u22, _⟩ => core_val rfl rfl (o_extract u22 (by kernel_rfl)),
 fun ρz wz hE hA _ ⟨u23, _⟩ => core_val rfl rfl (o_assign u23),
 fun ρz wz hE hA _ ⟨u24, _⟩ => core_val rfl rfl (o_assign u24), trivial⟩ ?_
        intro ρ16 w16 hN hf hr
        have h17 : ρ16 17 = .int .i64 z3.1 := hf 25 rfl
        have h18 : ρ16 18 = .int .i64 z3.2 := hf 26 rfl
        obtain ⟨h0, h2, h3, h10, h12, h13⟩ := k6 hr h0 h2 h3 h10 h12 h13 rfl
        obtain ⟨h14, h15, h16⟩ := k3 hr h14 h15 h16 rfl
        have Oo_O12 := O12
        have Hb_b14_n := Hb_b14_.exn hN
        have H_d_ := H_d_.exn hN
        have H_p_ := H_p_.exn hN
        have Hf10 := Hf10.exn hN
        have hW := hW.trans hN
        have O12 := O12.exn hN
        have Hb_b14_ := Hb_b14_n
        have hsz := hW.size
        refine WP.seq ?_
        refine WP.rb mixed [[], [0]] [[18], []] [(73, .int .i64 z3.2), (74, .bool (z3.2 == 0))] (by kernel_rfl) ⟨fun ρz wz hE hA ⟨e18, _⟩ _ => core_val rfl rfl (o_move (e18.trans h18)),
 fun ρz wz hE hA _ ⟨u0, _⟩ => core_val rfl rfl (o_eql u0 rfl rfl), trivial⟩ ?_
        intro ρ17 w17 hN hf hr
        have h74 : ρ17 74 = .bool (z3.2 == 0) := hf 1 rfl
        obtain ⟨h0, h2, h3, h10, h12, h13⟩ := k6 hr h0 h2 h3 h10 h12 h13 rfl
        obtain ⟨h14, h15, h16, h17⟩ := k4 hr h14 h15 h16 h17 rfl
        have Oo_O12 := O12
        have Hb_b14_n := Hb_b14_.exn hN
        have H_d_ := H_d_.exn hN
        have H_p_ := H_p_.exn hN
        have Hf10 := Hf10.exn hN
        have hW := hW.trans hN
        have O12 := O12.exn hN
        have Hb_b14_ := Hb_b14_n
        have hsz := hW.size
        refine WP.cond rfl h74 (fun hb => ?_) (fun hb => ?_)
        · have hF := (if_pos hb).symm.trans hF
          refine WP.rv mixed [[], [], [0, 1], [0, 2]] [[], [], [0, 1], [2]] [[15], [17], [], []] [(75, .int .i64 x3), (76, .int .i64 z3.1), (77, .int .i64 (max x3 z3.1)), (15, .int .i64 (max x3 z3.1))] (by kernel_rfl) ⟨fun ρz wz hE hA ⟨e15, _⟩ _ => core_val rfl rfl (o_move (e15.trans h15)),
 fun ρz wz hE hA ⟨e17, _⟩ _ => core_val rfl rfl (o_move (e17.trans h17)),
 fun ρz wz hE hA _ ⟨u0, u1, _⟩ => core_val rfl rfl (o_max2 u0 u1),
 fun ρz wz hE hA _ ⟨u2, _⟩ => core_val rfl rfl (o_assign u2), trivial⟩ ?_
          intro ρ18 w18 hN hf hr
          have h15 : ρ18 15 = .int .i64 (max x3 z3.1) := hf 3 rfl
          obtain ⟨h0, h2, h3, h10, h12, h13⟩ := k6 hr h0 h2 h3 h10 h12 h13 rfl
          obtain ⟨h14, h16⟩ := k2 hr h14 h16 rfl
          have Oo_O12 := O12
          have Hb_b14_n := Hb_b14_.exn hN
          have H_d_ := H_d_.exn hN
          have H_p_ := H_p_.exn hN
          have Hf10 := Hf10.exn hN
          have hW := hW.trans hN
          have O12 := O12.exn hN
          have Hb_b14_ := Hb_b14_n
          have hsz := hW.size
          exact ⟨max x3 z3.1, h0, h2, h3, h10, h12, h13, h14, h15, h16, Hb_b14_, H_d_, H_p_, Hf10, O12, hnb_O12_b14_, hW, hsz, hF⟩
        have hF := (if_neg (Bool.eq_false_iff.1 hb)).symm.trans hF
        refine WP.skip ?_
        exact ⟨x3, h0, h2, h3, h10, h12, h13, h14, h15, h16, Hb_b14_, H_d_, H_p_, Hf10, O12, hnb_O12_b14_, hW, hsz, hF⟩
      rintro ρ14 w14 ⟨x5, h0, h2, h3, h10, h12, h13, h14, h15, h16, Hb_b14_, H_d_, H_p_, Hf10, O12, hnb_O12_b14_, hW, hsz, hF⟩
      rw [pensionref21_Payments_j] at hF
      refine WP.rv mixed [[], [0], [0, 1]] [[], [0], [1]] [[16], [], []] [(46, .int .i64 x4), (47, .int .i64 (i64 (x4 + 1))), (16, .int .i64 (i64 (x4 + 1)))] (by kernel_rfl) ⟨fun ρz wz hE hA ⟨e16, _⟩ _ => core_val rfl rfl (o_move (e16.trans h16)),
 fun ρz wz hE hA _ ⟨u0, _⟩ => core_val rfl rfl (o_add u0 rfl rfl),
 fun ρz wz hE hA _ ⟨u1, _⟩ => core_val rfl rfl (o_assign u1), trivial⟩ ?_
      intro ρ15 w15 hN hf hr
      have h16 : ρ15 16 = .int .i64 (i64 (x4 + 1)) := hf 2 rfl
      obtain ⟨h0, h2, h3, h10, h12, h13⟩ := k6 hr h0 h2 h3 h10 h12 h13 rfl
      obtain ⟨h14, h15⟩ := k2 hr h14 h15 rfl
      have Oo_O12 := O12
      have Hb_b14_n := Hb_b14_.exn hN
      have H_d_ := H_d_.exn hN
      have H_p_ := H_p_.exn hN
      have Hf10 := Hf10.exn hN
      have hW := hW.trans hN
      have O12 := O12.exn hN
      have Hb_b14_ := Hb_b14_n
      have hsz := hW.size
      exact ⟨x5, i64 (x4 + 1), h0, h2, h3, h10, h12, h13, h14, h15, h16, Hb_b14_, H_d_, H_p_, Hf10, O12, hnb_O12_b14_, hW, hsz, (by first | exact hF | (rw [hrec_2]; exact hF))⟩
    have hF := (if_neg (Bool.eq_false_iff.1 hb)).symm.trans hF
    refine WP.exit ?_
    refine thenQ_exit ?_
    refine thenQ_exit ?_
    refine blockQ_hit ?_
    obtain ⟨l, hl, hF⟩ := obind hF
    refine WP.region mixed [[], [], [1], [], [3], [], [5], [], [6, 7], [6, 8], [], [10], [2, 4, 6, 9, 11], [2, 4, 6, 12], [0, 2, 4, 6, 13], [0, 14]] [[], [], [1], [], [3], [], [5], [], [6, 7], [8], [], [10], [2, 4, 9, 11], [12], [0, 13], [14]] [[12], [14], [], [14], [], [14], [], [15], [], [], [13], [], [], [], [], []] [14] [] [val 78 (v12_), val 79 (.pointer (some ((⟨b14_, 0, none⟩ : Addr).add 0))), val 80 (.int .i64 y2.State), val 81 (.pointer (some ((⟨b14_, 0, none⟩ : Addr).add 2))), val 82 (.int .i64 y2.Currency), val 83 (.pointer (some ((⟨b14_, 0, none⟩ : Addr).add 3))), val 84 (.int .i64 y2.Amount), val 85 (.int .i64 x3), val 86 (.int .i64 (i64 (y2.Amount - x3))), val 87 (.int .i64 (max (i64 (y2.Amount - x3)) 0)), val 88 (.int .i64 x2), val 89 (.bool (x2 == 0)), val 90 (FamilyPay.val (⟨y2.State, y2.Currency, max (i64 (y2.Amount - x3)) 0, (x2 == 0)⟩ : FamilyPay)), (91, fun u wz => ∃ b, u = .slice (some ⟨b, 0, none⟩) 1 1 ∧ w13.heap.size ≤ b ∧ Mb wz b 48 (([(⟨y2.State, y2.Currency, max (i64 (y2.Amount - x3)) 0, (x2 == 0)⟩ : FamilyPay)]).flatMap FamilyPay.cells)), (92, fun u wz => Own w0.heap.size 48 4 FamilyPay.cells wz u l ∧ ∀ b, u.ownBlock = some b → (v12_.ownBlock = some b ∨ w13.heap.size ≤ b)), (12, fun u wz => Own w0.heap.size 48 4 FamilyPay.cells wz u l ∧ ∀ b, u.ownBlock = some b → (v12_.ownBlock = some b ∨ w13.heap.size ≤ b))] (fun b => Value.ownBlock v12_ = some b) (by kernel_rfl) ⟨sV, sV, sV, sV, sV, sV, sV, sV, sV, sV, sV, sV, sV, fun _ _ _ hE ⟨b, hz, hs, hM⟩ => ⟨b, hz, hs, hM.ext hE (fun hg => absurd (O12.lt hg).2 (Nat.not_lt.2 hs))⟩, fun _ _ _ hE ⟨hO, hf⟩ => ⟨hO.exn hE, hf⟩, fun _ _ _ hE ⟨hO, hf⟩ => ⟨hO.exn hE, hf⟩, trivial⟩ ⟨fun ρz wz hE hA ⟨e12, _⟩ _ => core_val rfl rfl (o_move (e12.trans h12)),
 fun ρz wz hE hA ⟨e14, _⟩ _ => core_val rfl rfl (o_fieldAddr (e14.trans h14) (fa_43_0 _ _)),
 fun ρz wz hE hA _ ⟨u1, _⟩ => core_val rfl rfl (o_load u1 (run_load1 (lr_3 _ _) (CA.sub ((Hb_b14_.exn (hA rfl)).ca) 0 1))),
 fun ρz wz hE hA ⟨e14, _⟩ _ => core_val rfl rfl (o_fieldAddr (e14.trans h14) (fa_43_2 _ _)),
 fun ρz wz hE hA _ ⟨u3, _⟩ => core_val rfl rfl (o_load u3 (run_load1 (lr_3 _ _) (CA.sub ((Hb_b14_.exn (hA rfl)).ca) 2 1))),
 fun ρz wz hE hA ⟨e14, _⟩ _ => core_val rfl rfl (o_fieldAddr (e14.trans h14) (fa_43_3 _ _)),
 fun ρz wz hE hA _ ⟨u5, _⟩ => core_val rfl rfl (o_load u5 (run_load1 (lr_3 _ _) (CA.sub ((Hb_b14_.exn (hA rfl)).ca) 3 1))),
 fun ρz wz hE hA ⟨e15, _⟩ _ => core_val rfl rfl (o_move (e15.trans h15)),
 fun ρz wz hE hA _ ⟨u6, u7, _⟩ => core_val rfl rfl (o_sub u6 u7 rfl),
 fun ρz wz hE hA _ ⟨u8, _⟩ => core_val rfl rfl (o_max2 u8 rfl),
 fun ρz wz hE hA ⟨e13, _⟩ _ => core_val rfl rfl (o_move (e13.trans h13)),
 fun ρz wz hE hA _ ⟨u10, _⟩ => core_val rfl rfl (o_eql u10 rfl rfl),
 fun ρz wz hE hA _ ⟨u2, u4, u9, u11, _⟩ => core_val rfl rfl (o_build (build_parts4 u2 u4 u9 u11) (bd_48_0_1_2_3 _ _ _ _ _)),
 fun ρz wz hE hA _ ⟨u12, _⟩ => core_slice rfl rfl hE (o_buildSlice (build_parts1 u12) (bs_38_1 _ _)),
 fun ρz wz hE hA _ ⟨u0, ⟨bz13, hz13, hge13, hM13⟩, _⟩ => core_append (n := 4) (cells := FamilyPay.cells) (B := w0.heap.size) (w0 := w13) rfl rfl (fun b hb => hb) u0 hz13 (fun _ => rfl) one_48 si_38 se_48 (by decide) (by decide) (O12.exn (hA rfl)) ⟨_, (Mb.rep (n := 4) (cells := FamilyPay.cells) (hn := fun _ => rfl) (G := noG) hM13 rfl (Nat.le_of_ble_eq_true rfl) (fun h => h))⟩ hl (Nat.le_trans hsz hE.size) hE.size (fun v1 w1 h1 h2 => ⟨h1, h2⟩),
 fun ρz wz hE hA _ ⟨⟨hO14, hfr14⟩, _⟩ => core_copy rfl rfl (o_assign rfl) ⟨hO14, hfr14⟩, trivial⟩ ?_
    intro ρ19 w19 hE hN hf hr
    obtain ⟨v12_2, h12⟩ : ∃ v, ρ19 12 = v := ⟨_, rfl⟩
    have hq12 : (fun u wz => Own w0.heap.size 48 4 FamilyPay.cells wz u l ∧ ∀ b, u.ownBlock = some b → (v12_.ownBlock = some b ∨ w13.heap.size ≤ b)) (ρ19 12) w19 := hf 15 rfl
    rw [h12] at hq12
    obtain ⟨hq12, hfr12⟩ := hq12
    obtain ⟨h0, h2, h3, h10, h13⟩ := k5 hr h0 h2 h3 h10 h13 rfl
    have Oo_O12 := O12
    have H_d_ := H_d_.over hE (fun b hb => (O12.lt hb).1)
    have H_p_ := H_p_.over hE (fun b hb => (O12.lt hb).1)
    have Hf10 := Hf10.move hE hfr12
    have hW := Ext.own hW hE (fun b hb => (O12.lt hb).1)
    have O12 := hq12
    have hsz := hW.size
    refine WP.rv mixed [[], [0], [0, 1]] [[], [0], [1]] [[13], [], []] [(34, .int .i64 x2), (35, .int .i64 (i64 (x2 + 1))), (13, .int .i64 (i64 (x2 + 1)))] (by kernel_rfl) ⟨fun ρz wz hE hA ⟨e13, _⟩ _ => core_val rfl rfl (o_move (e13.trans h13)),
 fun ρz wz hE hA _ ⟨u0, _⟩ => core_val rfl rfl (o_add u0 rfl rfl),
 fun ρz wz hE hA _ ⟨u1, _⟩ => core_val rfl rfl (o_assign u1), trivial⟩ ?_
    intro ρ20 w20 hN hf hr
    have h13 : ρ20 13 = .int .i64 (i64 (x2 + 1)) := hf 2 rfl
    obtain ⟨h0, h2, h3, h10, h12⟩ := k5 hr h0 h2 h3 h10 h12 rfl
    have Oo_O12 := O12
    have H_d_ := H_d_.exn hN
    have H_p_ := H_p_.exn hN
    have Hf10 := Hf10.exn hN
    have hW := hW.trans hN
    have O12 := O12.exn hN
    have hsz := hW.size
    exact ⟨l, i64 (x2 + 1), v12_2, h0, h2, h3, h10, h12, h13, H_d_, H_p_, Hf10, O12, hW, hsz, (by first | exact hF | (rw [hrec_]; exact hF))⟩
  have hF := (if_neg (Bool.eq_false_iff.1 hb)).symm.trans hF
  refine WP.exit ?_
  refine thenQ_exit ?_
  refine thenQ_exit ?_
  refine blockQ_hit ?_
  refine WP.seq ?_
  refine WP.rb mixed [[], [0], []] [[12], [], []] [(93, v12_), (8, v12_), (9, .int .i64 0)] (by kernel_rfl) ⟨fun ρz wz hE hA ⟨e12, _⟩ _ => core_val rfl rfl (o_move (e12.trans h12)),
 fun ρz wz hE hA _ ⟨u0, _⟩ => core_val rfl rfl (o_assign u0),
 fun ρz wz hE hA _ _ => core_val rfl rfl (o_assign rfl), trivial⟩ ?_
  intro ρ21 w21 hN hf hr
  have h8 : ρ21 8 = v12_ := hf 1 rfl
  have h9 : ρ21 9 = .int .i64 0 := hf 2 rfl
  have Oo_O12 := O12
  have hW := hW.trans hN
  have O8 := O12.exn hN
  have hsz := hW.size
  refine WP.ret ?_
  show retQ Tryd.prog 94 Tryd.f22 (fun v w1 => (∃ u0 : Value, v = .tuple #[u0, .int .i64 r.2] ∧ Own w0.heap.size 48 4 FamilyPay.cells w1 u0 r.1) ∧ Ext noG w0 w1) .ret ρ21 w21
  obtain rfl := Option.some.inj hF
  exact res2 rfl (by decide) (by decide) h8 h9 ⟨⟨_, rfl, O8⟩, hW⟩

set_option maxHeartbeats 4000000 in
theorem family_Payments_ok {w0 : World} (Hg_0 : GR [Value.int .i64 1, Value.int .i64 1] noG w0 0) (d_ : List Right) (i_ : Int) (p_ : List Rate) (p_2 : Int) {v_d_ : Value} (H_d_ : RepSl Right.R noG w0 v_d_ d_) {v_p_ : Value} (H_p_ : RepSl Rate.R noG w0 v_p_ p_) {r : (List FamilyPay) × Int} (hF : family_Payments d_ i_ p_ p_2 = some r) :
    Calls Tryd.prog 21 #[v_d_, .int .i64 i_, v_p_, .int .i64 p_2] w0 fun e w1 => ∃ v, e = .returned v ∧ Ext noG w0 w1 ∧ (∃ u0 : Value, v = .tuple #[u0, .int .i64 r.2] ∧ Own w0.heap.size 48 4 FamilyPay.cells w1 u0 r.1) := by
  refine (Calls.start (P := Tryd.prog) (args := [v_d_, .int .i64 i_, v_p_, .int .i64 p_2]) (R := fun v w1 => (∃ u0 : Value, v = .tuple #[u0, .int .i64 r.2] ∧ Own w0.heap.size 48 4 FamilyPay.cells w1 u0 r.1) ∧ Ext noG w0 w1) (n := 93) (w := w0) Tryd.func21 rfl rfl (Nat.le_of_ble_eq_true rfl) (fun ρ hargs => ?_)).mono (fun e w1 ⟨v, he, hv, hE⟩ => ⟨v, he, hE, hv⟩)
  have h0 := hargs 0 _ rfl
  have h1 := hargs 1 _ rfl
  have h2 := hargs 2 _ rfl
  have h3 := hargs 3 _ rfl
  have hW := Ext.refl noG w0
  have hsz := Nat.le_refl w0.heap.size
  obtain ⟨_, _, hs_H_d_, _, _⟩ := RepSl.shape H_d_
  have H_d_ := H_d_.start
  obtain ⟨_, _, hs_H_p_, _, _⟩ := RepSl.shape H_p_
  have H_p_ := H_p_.start
  have Hg_0 := Hg_0.start
  rw [family_Payments] at hF
  refine WP.seq ?_
  refine WP.rb mixed [[], []] [[], []] [(8, .slice none 0 0), (9, .int .i64 0)] (by kernel_rfl) ⟨fun ρz wz hE hA _ _ => core_val rfl rfl (o_assign rfl),
 fun ρz wz hE hA _ _ => core_val rfl rfl (o_assign rfl), trivial⟩ ?_
  intro ρ1 w1 hN hf hr
  obtain ⟨h0, h1, h2, h3⟩ := k4 hr h0 h1 h2 h3 rfl
  have H_d_ := H_d_.exn hN
  have H_p_ := H_p_.exn hN
  have Hg_0 := Hg_0.exn hN
  have hW := hW.trans hN
  have hsz := hW.size
  refine WP.seq ?_
  obtain ⟨z, hz, hF⟩ := obind hF
  refine WP.rg mixed [[], [], [], [], [0, 1, 2, 3], [4], [5], [5], [6], [7]] [[], [], [], [], [0, 1, 2, 3], [4], [5], [5], [6], [7]] [[0], [1], [2], [3], [], [], [], [], [], []] [val 22 (v_d_), val 23 (.int .i64 i_), val 24 (v_p_), val 25 (.int .i64 p_2), (26, fun u wz => ∃ q : Value, u = .tuple #[q, .int .i64 z.2] ∧ Own w0.heap.size 3 1 (fun x : Int => [Value.int .i64 x]) wz q z.1 ∧ ∀ b, q.ownBlock = some b → w1.heap.size ≤ b), (21, fun u wz => ∃ q : Value, u = .tuple #[q, .int .i64 z.2] ∧ Own w0.heap.size 3 1 (fun x : Int => [Value.int .i64 x]) wz q z.1 ∧ ∀ b, q.ownBlock = some b → w1.heap.size ≤ b), (27, fun u wz => Own w0.heap.size 3 1 (fun x : Int => [Value.int .i64 x]) wz u z.1 ∧ ∀ b, u.ownBlock = some b → w1.heap.size ≤ b), val 28 (.int .i64 z.2), (10, fun u wz => Own w0.heap.size 3 1 (fun x : Int => [Value.int .i64 x]) wz u z.1 ∧ ∀ b, u.ownBlock = some b → w1.heap.size ≤ b), val 11 (.int .i64 z.2)] (by kernel_rfl) ⟨sV, sV, sV, sV, fun _ _ _ hE ⟨q, ht, hO, hf⟩ => ⟨q, ht, hO.exn hE, hf⟩, fun _ _ _ hE ⟨q, ht, hO, hf⟩ => ⟨q, ht, hO.exn hE, hf⟩, fun _ _ _ hE ⟨hO, hf⟩ => ⟨hO.exn hE, hf⟩, sV, fun _ _ _ hE ⟨hO, hf⟩ => ⟨hO.exn hE, hf⟩, sV, trivial⟩ ⟨fun ρz wz hE hA ⟨e0, _⟩ _ => core_val rfl rfl (o_move (e0.trans h0)),
 fun ρz wz hE hA ⟨e1, _⟩ _ => core_val rfl rfl (o_move (e1.trans h1)),
 fun ρz wz hE hA ⟨e2, _⟩ _ => core_val rfl rfl (o_move (e2.trans h2)),
 fun ρz wz hE hA ⟨e3, _⟩ _ => core_val rfl rfl (o_move (e3.trans h3)),
 fun ρz wz hE hA _ ⟨u0, u1, u2, u3, _⟩ => core_callR rfl (call_args4 u0 u1 u2 u3) cf_14 ((family_Order_ok  _ _ _ _ (H_d_.exn (hA rfl)).no (H_p_.exn (hA rfl)).no hz).mono (fun e w1 ⟨v, he, hE1, q, hv, hO⟩ => ⟨v, he, hE1, q, hv, hO.base (Nat.le_trans hsz hE.size), fun b hb => Nat.le_trans hE.size (hO.lt hb).1⟩)),
 fun ρz wz hE hA _ ⟨⟨q4, ht4, hO4, hfr4⟩, _⟩ => core_copy rfl rfl (o_move rfl) ⟨q4, ht4, hO4, hfr4⟩,
 fun ρz wz hE hA _ ⟨⟨q5, ht5, hO5, hfr5⟩, _⟩ => core_copy rfl rfl (o_extract ht5 (by kernel_rfl)) ⟨hO5, hfr5⟩,
 fun ρz wz hE hA _ ⟨⟨q5, ht5, hO5, hfr5⟩, _⟩ => core_val rfl rfl (o_extract ht5 (by kernel_rfl)),
 fun ρz wz hE hA _ ⟨⟨hO6, hfr6⟩, _⟩ => core_copy rfl rfl (o_assign rfl) ⟨hO6, hfr6⟩,
 fun ρz wz hE hA _ ⟨u7, _⟩ => core_val rfl rfl (o_assign u7), trivial⟩ ?_
  intro ρ2 w2 hN hf hr
  obtain ⟨v10_, h10⟩ : ∃ v, ρ2 10 = v := ⟨_, rfl⟩
  have hq10 : (fun u wz => Own w0.heap.size 3 1 (fun x : Int => [Value.int .i64 x]) wz u z.1 ∧ ∀ b, u.ownBlock = some b → w1.heap.size ≤ b) (ρ2 10) w2 := hf 8 rfl
  rw [h10] at hq10
  obtain ⟨hq10, hfr10⟩ := hq10
  have h11 : ρ2 11 = .int .i64 z.2 := hf 9 rfl
  obtain ⟨h0, h2, h3⟩ := k3 hr h0 h2 h3 rfl
  have H_d_ := H_d_.exn hN
  have H_p_ := H_p_.exn hN
  have Hg_0 := Hg_0.exn hN
  have hW := hW.trans hN
  have Hf10 : RepSl intR (gov noG (.slice none 0 0)) w2 v10_ z.1 := hq10.rep (fun b hb hg => hg.elim id (fun h2 => by simp [Value.ownBlock] at h2))
  obtain ⟨_, _, hs_Hf10, _, _⟩ := RepSl.shape Hf10
  have hsz := hW.size
  refine WP.seq ?_
  refine WP.seq ?_
  refine WP.rb mixed [[], [0]] [[11], []] [(29, .int .i64 z.2), (30, .bool (z.2 != 0))] (by kernel_rfl) ⟨fun ρz wz hE hA ⟨e11, _⟩ _ => core_val rfl rfl (o_move (e11.trans h11)),
 fun ρz wz hE hA _ ⟨u0, _⟩ => core_val rfl rfl (o_neq u0 rfl rfl), trivial⟩ ?_
  intro ρ3 w3 hN hf hr
  have h30 : ρ3 30 = .bool (z.2 != 0) := hf 1 rfl
  obtain ⟨h0, h2, h3, h10, h11⟩ := k5 hr h0 h2 h3 h10 h11 rfl
  have H_d_ := H_d_.exn hN
  have H_p_ := H_p_.exn hN
  have Hg_0 := Hg_0.exn hN
  have Hf10 := Hf10.exn hN
  have hW := hW.trans hN
  have hsz := hW.size
  refine WP.cond rfl h30 (fun hb => ?_) (fun hb => ?_)
  · have hF := (if_pos hb).symm.trans hF
    refine WP.seq ?_
    refine WP.rb mixed [[], [], [0]] [[11], [], []] [(31, .int .i64 z.2), (8, .slice none 0 0), (9, .int .i64 z.2)] (by kernel_rfl) ⟨fun ρz wz hE hA ⟨e11, _⟩ _ => core_val rfl rfl (o_move (e11.trans h11)),
 fun ρz wz hE hA _ _ => core_val rfl rfl (o_assign rfl),
 fun ρz wz hE hA _ ⟨u0, _⟩ => core_val rfl rfl (o_assign u0), trivial⟩ ?_
    intro ρ4 w4 hN hf hr
    have h8 : ρ4 8 = .slice none 0 0 := hf 1 rfl
    have O8 : Own w0.heap.size 48 4 FamilyPay.cells w4 (.slice none 0 0) [] := Own.nil _ _ _ _ _
    have h9 : ρ4 9 = .int .i64 z.2 := hf 2 rfl
    have Hg_0 := Hg_0.exn hN
    have hW := hW.trans hN
    have hsz := hW.size
    refine WP.ret ?_
    show retQ Tryd.prog 93 Tryd.f21 (fun v w1 => (∃ u0 : Value, v = .tuple #[u0, .int .i64 r.2] ∧ Own w0.heap.size 48 4 FamilyPay.cells w1 u0 r.1) ∧ Ext noG w0 w1) .ret ρ4 w4
    obtain rfl := Option.some.inj hF
    exact res2 rfl (by decide) (by decide) h8 h9 ⟨⟨_, rfl, O8⟩, hW⟩
  have hF := (if_neg (Bool.eq_false_iff.1 hb)).symm.trans hF
  refine WP.skip ?_
  refine WP.seq ?_
  refine WP.rb mixed [[]] [[]] [(12, .slice none 0 0)] (by kernel_rfl) ⟨fun ρz wz hE hA _ _ => core_val rfl rfl (o_assign rfl), trivial⟩ ?_
  intro ρ5 w5 hN hf hr
  have h12 : ρ5 12 = .slice none 0 0 := hf 0 rfl
  have O12 : Own w0.heap.size 48 4 FamilyPay.cells w5 (.slice none 0 0) [] := Own.nil _ _ _ _ _
  obtain ⟨h0, h2, h3, h10⟩ := k4 hr h0 h2 h3 h10 rfl
  have H_d_ := H_d_.exn hN
  have H_p_ := H_p_.exn hN
  have Hg_0 := Hg_0.exn hN
  have Hf10 := Hf10.exn hN
  have hW := hW.trans hN
  have hsz := hW.size
  refine WP.seq ?_
  refine WP.seq ?_
  refine WP.rb mixed [[], [0], []] [[10], [], []] [(32, v10_), (33, .int .i64 (z.1.length : Int)), (34, .int .i64 0)] (by kernel_rfl) ⟨fun ρz wz hE hA ⟨e10, _⟩ _ => core_val rfl rfl (o_move (e10.trans h10)),
 fun ρz wz hE hA _ ⟨u0, _⟩ => core_val rfl rfl (o_len (u0.trans hs_Hf10) len_23),
 fun ρz wz hE hA _ _ => core_val rfl rfl (o_move rfl), trivial⟩ ?_
  intro ρ6 w6 hN hf hr
  have h32 : ρ6 32 = v10_ := hf 0 rfl
  have h33 : ρ6 33 = .int .i64 (z.1.length : Int) := hf 1 rfl
  have h34 : ρ6 34 = .int .i64 0 := hf 2 rfl
  obtain ⟨h0, h2, h3, h10, h12⟩ := k5 hr h0 h2 h3 h10 h12 rfl
  have Oo_O12 := O12
  have H_d_ := H_d_.exn hN
  have H_p_ := H_p_.exn hN
  have Hg_0 := Hg_0.exn hN
  have Hf10 := Hf10.exn hN
  have hW := hW.trans hN
  have O12 := O12.exn hN
  have hsz := hW.size
  refine WP.block ?_
  refine WP.loop (fun k_ ρ w => ∃ x : List FamilyPay, ∃ x2 : Int, ∃ v12_ : Value, ρ 0 = v_d_ ∧ ρ 2 = v_p_ ∧ ρ 3 = .int .i64 p_2 ∧ ρ 10 = v10_ ∧ ρ 12 = v12_ ∧ ρ 32 = v10_ ∧ ρ 33 = .int .i64 (z.1.length : Int) ∧ ρ 34 = .int .i64 x2 ∧ RepSl Right.R (gfr noG w0) w v_d_ d_ ∧ RepSl Rate.R (gfr noG w0) w v_p_ p_ ∧ GR [Value.int .i64 1, Value.int .i64 1] (gfr noG w0) w 0 ∧ RepSl intR (gov noG v12_) w v10_ z.1 ∧ Own w0.heap.size 48 4 FamilyPay.cells w v12_ x ∧ Ext noG w0 w ∧ w0.heap.size ≤ w.heap.size ∧ loopC k_ (family_Payments_l d_ p_ p_2 z) (x, x2) = some r) FU ⟨[], 0, .slice none 0 0, h0, h2, h3, h10, h12, h32, h33, h34, H_d_, H_p_, Hg_0, Hf10, O12, hW, hsz, hF⟩ (fun _ _ h => by obtain ⟨_, _, _, _, _, _, _, _, _, _, _, _, _, _, _, _, _, _, h⟩ := h; cases h) ?_
  rintro k_ ρ7 w7 ⟨x, x2, v12_, h0, h2, h3, h10, h12, h32, h33, h34, H_d_, H_p_, Hg_0, Hf10, O12, hW, hsz, hF⟩
  have hF : family_Payments_l d_ p_ p_2 z (loopC k_ (family_Payments_l d_ p_ p_2 z)) (x, x2) = some r := hF
  generalize hrec_ : loopC k_ (family_Payments_l d_ p_ p_2 z) = rec_ at hF
  rw [family_Payments_l] at hF
  refine WP.seq ?_
  refine WP.rb mixed [[]] [[34, 33]] [(35, .bool (decide (x2 < (z.1.length : Int))))] (by kernel_rfl) ⟨fun ρz wz hE hA ⟨e34, e33, _⟩ _ => core_val rfl rfl (o_lss (e34.trans h34) (e33.trans h33) rfl), trivial⟩ ?_
  intro ρ8 w8 hN hf hr
  have h35 : ρ8 35 = .bool (decide (x2 < (z.1.length : Int))) := hf 0 rfl
  obtain ⟨h0, h2, h3, h10, h12, h32⟩ := k6 hr h0 h2 h3 h10 h12 h32 rfl
  obtain ⟨h33, h34⟩ := k2 hr h33 h34 rfl
  have Oo_O12 := O12
  have H_d_ := H_d_.exn hN
  have H_p_ := H_p_.exn hN
  have Hg_0 := Hg_0.exn hN
  have Hf10 := Hf10.exn hN
  have hW := hW.trans hN
  have O12 := O12.exn hN
  have hsz := hW.size
  refine WP.seq ?_
  refine WP.cond rfl h35 (fun hb => ?_) (fun hb => ?_)
  · have hF := (if_pos hb).symm.trans hF
    refine WP.skip ?_
    refine WP.seq ?_
    refine WP.block ?_
    refine WP.seq ?_
    obtain ⟨y, hy, hF⟩ := obind hF
    obtain ⟨ay, cy, hvy, hiy, hAy⟩ := RepSl.getF Hf10 hy
    refine WP.rb mixed [[], [], [1], [0], [2]] [[34], [32, 34], [], [], []] [(36, .int .i64 x2), (37, .pointer (some (ay.add (Int.toNat x2 * 1)))), (38, .int .i64 y), (13, .int .i64 x2), (14, .int .i64 y)] (by kernel_rfl) ⟨fun ρz wz hE hA ⟨e34, _⟩ _ => core_val rfl rfl (o_move (e34.trans h34)),
 fun ρz wz hE hA ⟨e32, e34, _⟩ _ => core_val rfl rfl (o_indexAddr ((e32.trans h32).trans hvy) (e34.trans h34) (ia_23 hiy)),
 fun ρz wz hE hA _ ⟨u1, _⟩ => core_val rfl rfl (o_load u1 (run_load1 (lr_3 _ _) ((hAy.exn (hA rfl)).ca))),
 fun ρz wz hE hA _ ⟨u0, _⟩ => core_val rfl rfl (o_assign u0),
 fun ρz wz hE hA _ ⟨u2, _⟩ => core_val rfl rfl (o_assign u2), trivial⟩ ?_
    intro ρ9 w9 hN hf hr
    have h13 : ρ9 13 = .int .i64 x2 := hf 3 rfl
    have h14 : ρ9 14 = .int .i64 y := hf 4 rfl
    obtain ⟨h0, h2, h3, h10, h12, h32⟩ := k6 hr h0 h2 h3 h10 h12 h32 rfl
    obtain ⟨h33, h34⟩ := k2 hr h33 h34 rfl
    have Oo_O12 := O12
    have H_d_ := H_d_.exn hN
    have H_p_ := H_p_.exn hN
    have Hg_0 := Hg_0.exn hN
    have Hf10 := Hf10.exn hN
    have hW := hW.trans hN
    have O12 := O12.exn hN
    have hsz := hW.size
    refine WP.seq ?_
    obtain ⟨y2, hy2, hF⟩ := obind hF
    obtain ⟨ay2, cy2, hvy2, hiy2, hAy2⟩ := RepSl.getF H_d_ hy2
    refine WP.region mixed [[], [], [0, 1], [2], [], [3, 4]] [[], [], [0, 1], [2], [], [3, 4]] [[0], [14], [], [], [], []] [5] [(4, 5)] [val 39 (v_d_), val 40 (.int .i64 y), val 41 (.pointer (some (ay2.add (Int.toNat y * 4)))), val 42 (Right.val y2), (15, fun u wz => ∃ b, u = .pointer (some ⟨b, 0, none⟩) ∧ w9.heap.size ≤ b ∧ Mb wz b 43 (Right.cells (⟨0, 0, 0, 0⟩ : Right))), (15, fun u wz => ∃ b, u = .pointer (some ⟨b, 0, none⟩) ∧ w9.heap.size ≤ b ∧ Mb wz b 43 (Right.cells y2))] (fun b => w9.heap.size ≤ b) (by kernel_rfl) ⟨sV, sV, sV, sV, fun _ _ _ hE ⟨b, hb, hs, hM⟩ => ⟨b, hb, hs, hM.exn hE⟩, fun _ _ _ hE ⟨b, hb, hs, hM⟩ => ⟨b, hb, hs, hM.exn hE⟩, trivial⟩ ⟨fun ρz wz hE hA ⟨e0, _⟩ _ => core_val rfl rfl (o_move (e0.trans h0)),
 fun ρz wz hE hA ⟨e14, _⟩ _ => core_val rfl rfl (o_move (e14.trans h14)),
 fun ρz wz hE hA _ ⟨u0, u1, _⟩ => core_val rfl rfl (o_indexAddr (u0.trans hvy2) u1 (ia_24 hiy2)),
 fun ρz wz hE hA _ ⟨u2, _⟩ => core_val rfl rfl (o_load u2 (run_loadN (cs := (Right.cells y2)) (lr_43 _ _) rfl ((hAy2.exn hE.fresh).ca))),
 fun ρz wz hE hA _ _ => core_new rfl rfl hE (o_alloc (al_43 _)),
 fun ρz wz hE hA _ ⟨u3, u4, _⟩ => core_storeNew rfl rfl rfl rfl u3 u4 (fun a w => st_43 _ a w) rfl (one_43 _), trivial⟩ ?_
    intro ρ10 w10 hE hN hf hr
    have hN := hE.fresh
    obtain ⟨b15_, h15, hge_b15_, Hb_b15_⟩ := hf 5 rfl
    obtain ⟨h0, h2, h3, h10, h12, h32⟩ := k6 hr h0 h2 h3 h10 h12 h32 rfl
    obtain ⟨h33, h34, h13⟩ := k3 hr h33 h34 h13 rfl
    have Oo_O12 := O12
    have H_d_ := H_d_.exn hN
    have H_p_ := H_p_.exn hN
    have Hg_0 := Hg_0.exn hN
    have Hf10 := Hf10.exn hN
    have hnb_O12_b15_ : Value.ownBlock v12_ ≠ some b15_ := fun h => absurd (O12.lt h).2 (Nat.not_lt.2 hge_b15_)
    have hW := hW.trans hN
    have O12 := O12.exn hN
    have hB_b15_ : w0.heap.size ≤ b15_ := Nat.le_trans hsz hge_b15_
    have hsz := hW.size
    refine WP.seq ?_
    refine WP.rb mixed [[]] [[]] [(16, .int .i64 0)] (by kernel_rfl) ⟨fun ρz wz hE hA _ _ => core_val rfl rfl (o_assign rfl), trivial⟩ ?_
    intro ρ11 w11 hN hf hr
    have h16 : ρ11 16 = .int .i64 0 := hf 0 rfl
    obtain ⟨h0, h2, h3, h10, h12, h32⟩ := k6 hr h0 h2 h3 h10 h12 h32 rfl
    obtain ⟨h33, h34, h13, h15⟩ := k4 hr h33 h34 h13 h15 rfl
    have Oo_O12 := O12
    have Hb_b15_n := Hb_b15_.exn hN
    have H_d_ := H_d_.exn hN
    have H_p_ := H_p_.exn hN
    have Hg_0 := Hg_0.exn hN
    have Hf10 := Hf10.exn hN
    have hW := hW.trans hN
    have O12 := O12.exn hN
    have Hb_b15_ := Hb_b15_n
    have hsz := hW.size
    refine WP.seq ?_
    refine WP.seq ?_
    obtain ⟨s, hs, hF⟩ := obind hF
    refine WP.rg mixed [[], [], [0, 1], [2], []] [[], [], [0, 1], [2], []] [[10], [13], [], [], []] [val 43 (v10_), val 44 (.int .i64 x2), (45, fun u wz => RepSl intR (gov noG v12_) wz u s), val 46 (.int .i64 (s.length : Int)), val 47 (.int .i64 0)] (by kernel_rfl) ⟨sV, sV, fun _ _ _ hE h => h.exn hE, sV, sV, trivial⟩ ⟨fun ρz wz hE hA ⟨e10, _⟩ _ => core_val rfl rfl (o_move (e10.trans h10)),
 fun ρz wz hE hA ⟨e13, _⟩ _ => core_val rfl rfl (o_move (e13.trans h13)),
 fun ρz wz hE hA _ ⟨u0, u1, _⟩ => core_cut (R := intR) rfl u0 si_23 sz_3 (Hf10.exn (hA rfl)) hs (.inl ⟨rfl, rfl⟩) (.inr (congrArg some u1)) (fun _ h => h),
 fun ρz wz hE hA _ ⟨hR2, _⟩ => core_val rfl rfl (o_len ((RepSl.shape hR2).choose_spec.choose_spec.1) len_23),
 fun ρz wz hE hA _ _ => core_val rfl rfl (o_move rfl), trivial⟩ ?_
    intro ρ12 w12 hN hf hr
    obtain ⟨v45_, h45⟩ : ∃ v, ρ12 45 = v := ⟨_, rfl⟩
    have hq45 : (fun u wz => RepSl intR (gov noG v12_) wz u s) (ρ12 45) w12 := hf 2 rfl
    rw [h45] at hq45
    have h46 : ρ12 46 = .int .i64 (s.length : Int) := hf 3 rfl
    have h47 : ρ12 47 = .int .i64 0 := hf 4 rfl
    obtain ⟨h0, h2, h3, h10, h12, h32⟩ := k6 hr h0 h2 h3 h10 h12 h32 rfl
    obtain ⟨h33, h34, h13, h15, h16⟩ := k5 hr h33 h34 h13 h15 h16 rfl
    have Oo_O12 := O12
    have Hb_b15_n := Hb_b15_.exn hN
    have H_d_ := H_d_.exn hN
    have H_p_ := H_p_.exn hN
    have Hg_0 := Hg_0.exn hN
    have Hf10 := Hf10.exn hN
    have hW := hW.trans hN
    have O12 := O12.exn hN
    have Hf45 := hq45
    obtain ⟨_, _, hs_Hf45, _, _⟩ := RepSl.shape Hf45
    have Hb_b15_ := Hb_b15_n
    have hsz := hW.size
    refine WP.block ?_
    refine WP.loop (fun k_2 ρ w => ∃ x3 : Int, ∃ x4 : Int, ρ 0 = v_d_ ∧ ρ 2 = v_p_ ∧ ρ 3 = .int .i64 p_2 ∧ ρ 10 = v10_ ∧ ρ 12 = v12_ ∧ ρ 32 = v10_ ∧ ρ 33 = .int .i64 (z.1.length : Int) ∧ ρ 34 = .int .i64 x2 ∧ ρ 13 = .int .i64 x2 ∧ ρ 15 = .pointer (some ⟨b15_, 0, none⟩) ∧ ρ 16 = .int .i64 x3 ∧ ρ 45 = v45_ ∧ ρ 46 = .int .i64 (s.length : Int) ∧ ρ 47 = .int .i64 x4 ∧ Mb w b15_ 43 (Right.cells y2) ∧ RepSl Right.R (gfr noG w0) w v_d_ d_ ∧ RepSl Rate.R (gfr noG w0) w v_p_ p_ ∧ GR [Value.int .i64 1, Value.int .i64 1] (gfr noG w0) w 0 ∧ RepSl intR (gov noG v12_) w v10_ z.1 ∧ RepSl intR (gov noG v12_) w v45_ s ∧ Own w0.heap.size 48 4 FamilyPay.cells w v12_ x ∧ Value.ownBlock v12_ ≠ some b15_ ∧ Ext noG w0 w ∧ w0.heap.size ≤ w.heap.size ∧ loopC k_2 (family_Payments_l2 d_ p_ p_2 x x2 rec_ y2 s) (x3, x4) = some r) FU ⟨0, 0, h0, h2, h3, h10, h12, h32, h33, h34, h13, h15, h16, h45, h46, h47, Hb_b15_, H_d_, H_p_, Hg_0, Hf10, Hf45, O12, hnb_O12_b15_, hW, hsz, hF⟩ (fun _ _ h => by obtain ⟨_, _, _, _, _, _, _, _, _, _, _, _, _, _, _, _, _, _, _, _, _, _, _, _, _, _, h⟩ := h; cases h) ?_
    rintro k_2 ρ13 w13 ⟨x3, x4, h0, h2, h3, h10, h12, h32, h33, h34, h13, h15, h16, h45, h46, h47, Hb_b15_, H_d_, H_p_, Hg_0, Hf10, Hf45, O12, hnb_O12_b15_, hW, hsz, hF⟩
    have hF : family_Payments_l2 d_ p_ p_2 x x2 rec_ y2 s (loopC k_2 (family_Payments_l2 d_ p_ p_2 x x2 rec_ y2 s)) (x3, x4) = some r := hF
    generalize hrec_2 : loopC k_2 (family_Payments_l2 d_ p_ p_2 x x2 rec_ y2 s) = rec_2 at hF
    rw [family_Payments_l2] at hF
    refine WP.seq ?_
    refine WP.rb mixed [[]] [[47, 46]] [(48, .bool (decide (x4 < (s.length : Int))))] (by kernel_rfl) ⟨fun ρz wz hE hA ⟨e47, e46, _⟩ _ => core_val rfl rfl (o_lss (e47.trans h47) (e46.trans h46) rfl), trivial⟩ ?_
    intro ρ14 w14 hN hf hr
    have h48 : ρ14 48 = .bool (decide (x4 < (s.length : Int))) := hf 0 rfl
    obtain ⟨h0, h2, h3, h10, h12, h32⟩ := k6 hr h0 h2 h3 h10 h12 h32 rfl
    obtain ⟨h33, h34, h13, h15, h16, h45⟩ := k6 hr h33 h34 h13 h15 h16 h45 rfl
    obtain ⟨h46, h47⟩ := k2 hr h46 h47 rfl
    have Oo_O12 := O12
    have Hb_b15_n := Hb_b15_.exn hN
    have H_d_ := H_d_.exn hN
    have H_p_ := H_p_.exn hN
    have Hg_0 := Hg_0.exn hN
    have Hf10 := Hf10.exn hN
    have Hf45 := Hf45.exn hN
    have hW := hW.trans hN
    have O12 := O12.exn hN
    have Hb_b15_ := Hb_b15_n
    have hsz := hW.size
    refine WP.seq ?_
    refine WP.cond rfl h48 (fun hb => ?_) (fun hb => ?_)
    · have hF := (if_pos hb).symm.trans hF
      refine WP.skip ?_
      refine WP.seqJ (fun ρ w => ∃ x5 : Int, ρ 0 = v_d_ ∧ ρ 2 = v_p_ ∧ ρ 3 = .int .i64 p_2 ∧ ρ 10 = v10_ ∧ ρ 12 = v12_ ∧ ρ 32 = v10_ ∧ ρ 33 = .int .i64 (z.1.length : Int) ∧ ρ 34 = .int .i64 x2 ∧ ρ 13 = .int .i64 x2 ∧ ρ 15 = .pointer (some ⟨b15_, 0, none⟩) ∧ ρ 16 = .int .i64 x5 ∧ ρ 45 = v45_ ∧ ρ 46 = .int .i64 (s.length : Int) ∧ ρ 47 = .int .i64 x4 ∧ Mb w b15_ 43 (Right.cells y2) ∧ RepSl Right.R (gfr noG w0) w v_d_ d_ ∧ RepSl Rate.R (gfr noG w0) w v_p_ p_ ∧ GR [Value.int .i64 1, Value.int .i64 1] (gfr noG w0) w 0 ∧ RepSl intR (gov noG v12_) w v10_ z.1 ∧ RepSl intR (gov noG v12_) w v45_ s ∧ Own w0.heap.size 48 4 FamilyPay.cells w v12_ x ∧ Value.ownBlock v12_ ≠ some b15_ ∧ Ext noG w0 w ∧ w0.heap.size ≤ w.heap.size ∧ family_Payments_j x4 rec_2 x5 = some r) ?_ ?_
      · refine WP.block ?_
        refine WP.seq ?_
        obtain ⟨y3, hy3, hF⟩ := obind hF
        obtain ⟨ay3, cy3, hvy3, hiy3, hAy3⟩ := RepSl.getF Hf45 hy3
        refine WP.rb mixed [[], [0], [1]] [[45, 47], [], []] [(49, .pointer (some (ay3.add (Int.toNat x4 * 1)))), (50, .int .i64 y3), (18, .int .i64 y3)] (by kernel_rfl) ⟨fun ρz wz hE hA ⟨e45, e47, _⟩ _ => core_val rfl rfl (o_indexAddr ((e45.trans h45).trans hvy3) (e47.trans h47) (ia_23 hiy3)),
 fun ρz wz hE hA _ ⟨u0, _⟩ => core_val rfl rfl (o_load u0 (run_load1 (lr_3 _ _) ((hAy3.exn (hA rfl)).ca))),
 fun ρz wz hE hA _ ⟨u1, _⟩ => core_val rfl rfl (o_assign u1), trivial⟩ ?_
        intro ρ17 w17 hN hf hr
        have h18 : ρ17 18 = .int .i64 y3 := hf 2 rfl
        obtain ⟨h0, h2, h3, h10, h12, h32⟩ := k6 hr h0 h2 h3 h10 h12 h32 rfl
        obtain ⟨h33, h34, h13, h15, h16, h45⟩ := k6 hr h33 h34 h13 h15 h16 h45 rfl
        obtain ⟨h46, h47⟩ := k2 hr h46 h47 rfl
        have Oo_O12 := O12
        have Hb_b15_n := Hb_b15_.exn hN
        have H_d_ := H_d_.exn hN
        have H_p_ := H_p_.exn hN
        have Hg_0 := Hg_0.exn hN
        have Hf10 := Hf10.exn hN
        have Hf45 := Hf45.exn hN
        have hW := hW.trans hN
        have O12 := O12.exn hN
        have Hb_b15_ := Hb_b15_n
        have hsz := hW.size
        refine WP.seq ?_
        obtain ⟨y4, hy4, hF⟩ := obind hF
        obtain ⟨ay4, cy4, hvy4, hiy4, hAy4⟩ := RepSl.getF H_d_ hy4
        obtain ⟨y5, hy5, hF⟩ := obind hF
        obtain ⟨ay5, cy5, hvy5, hiy5, hAy5⟩ := RepSl.getF H_d_ hy5
        obtain ⟨z2, hz2, hF⟩ := obind hF
        refine WP.rb mixed [[], [], [0, 1], [2], [3], [], [], [5, 6], [7], [8], [], [10], [], [], [], [4, 9, 11, 12, 13, 14], [15], [16], [16], [17], [18]] [[0], [18], [], [], [], [0], [18], [], [], [], [15], [], [3], [2], [], [], [], [], [], [], []] [(52, v_d_), (53, .int .i64 y3), (54, .pointer (some (ay4.add (Int.toNat y3 * 4)))), (55, .pointer (some ((ay4.add (Int.toNat y3 * 4)).add 3))), (56, .int .i64 y4.Amount), (57, v_d_), (58, .int .i64 y3), (59, .pointer (some (ay5.add (Int.toNat y3 * 4)))), (60, .pointer (some ((ay5.add (Int.toNat y3 * 4)).add 2))), (61, .int .i64 y5.Currency), (62, .pointer (some ((⟨b15_, 0, none⟩ : Addr).add 2))), (63, .int .i64 y2.Currency), (64, .int .i64 p_2), (65, v_p_), (66, Rounding.val (⟨1, 1⟩ : Rounding)), (67, .tuple #[.int .i64 z2.1, .int .i64 z2.2]), (51, .tuple #[.int .i64 z2.1, .int .i64 z2.2]), (68, .int .i64 z2.1), (69, .int .i64 z2.2), (19, .int .i64 z2.1), (20, .int .i64 z2.2)] (by kernel_rfl) ⟨fun ρz wz hE hA ⟨e0, _⟩ _ => core_val rfl rfl (o_move (e0.trans h0)),
 fun ρz wz hE hA ⟨e18, _⟩ _ => core_val rfl rfl (o_move (e18.trans h18)),
 fun ρz wz hE hA _ ⟨u0, u1, _⟩ => core_val rfl rfl (o_indexAddr (u0.trans hvy4) u1 (ia_24 hiy4)),
 fun ρz wz hE hA _ ⟨u2, _⟩ => core_val rfl rfl (o_fieldAddr u2 (fa_43_3 _ _)),
 fun ρz wz hE hA _ ⟨u3, _⟩ => core_val rfl rfl (o_load u3 (run_load1 (lr_3 _ _) (CA.sub ((hAy4.exn (hA rfl)).ca) 3 1))),
 fun ρz wz hE hA ⟨e0, _⟩ _ => core_val rfl rfl (o_move (e0.trans h0)),
 fun ρz wz hE hA ⟨e18, _⟩ _ => core_val rfl rfl (o_move (e18.trans h18)),
 fun ρz wz hE hA _ ⟨u5, u6, _⟩ => core_val rfl rfl (o_indexAddr (u5.trans hvy5) u6 (ia_24 hiy5)),
 fun ρz wz hE hA _ ⟨u7, _⟩ => core_val rfl rfl (o_fieldAddr u7 (fa_43_2 _ _)),
 fun ρz wz hE hA _ ⟨u8, _⟩ => core_val rfl rfl (o_load u8 (run_load1 (lr_3 _ _) (CA.sub ((hAy5.exn (hA rfl)).ca) 2 1))),
 fun ρz wz hE hA ⟨e15, _⟩ _ => core_val rfl rfl (o_fieldAddr (e15.trans h15) (fa_43_2 _ _)),
 fun ρz wz hE hA _ ⟨u10, _⟩ => core_val rfl rfl (o_load u10 (run_load1 (lr_3 _ _) (CA.sub ((Hb_b15_.exn (hA rfl)).ca) 2 1))),
 fun ρz wz hE hA ⟨e3, _⟩ _ => core_val rfl rfl (o_move (e3.trans h3)),
 fun ρz wz hE hA ⟨e2, _⟩ _ => core_val rfl rfl (o_move (e2.trans h2)),
 fun ρz wz hE hA _ _ => core_val rfl rfl (o_load rfl (run_loadN (cs := (Rounding.cells (⟨1, 1⟩ : Rounding))) (lr_72 _ _) rfl ((Hg_0.exn (hA rfl)).ca))),
 fun ρz wz hE hA _ ⟨u4, u9, u11, u12, u13, u14, _⟩ => core_call rfl (call_args6 u4 u9 u11 u12 u13 u14) cf_38 (money_Convert_ok  _ _ _ _ _ _ (H_p_.exn (hA rfl)).no hz2),
 fun ρz wz hE hA _ ⟨u15, _⟩ => core_val rfl rfl (o_move u15),
 fun ρz wz hE hA _ ⟨u16, _⟩ => core_val rfl rfl (o_extract u16 (by kernel_rfl)),
 fun ρz wz hE hA _ ⟨u16, _⟩ => core_val rfl rfl (o_extract u16 (by kernel_rfl)),
 fun ρz wz hE hA _ ⟨u17, _⟩ => core_val rfl rfl (o_assign u17),
 fun ρz wz hE hA _ ⟨u18, _⟩ => core_val rfl rfl (o_assign u18), trivial⟩ ?_
        intro ρ18 w18 hN hf hr
        have h19 : ρ18 19 = .int .i64 z2.1 := hf 19 rfl
        have h20 : ρ18 20 = .int .i64 z2.2 := hf 20 rfl
        obtain ⟨h0, h2, h3, h10, h12, h32⟩ := k6 hr h0 h2 h3 h10 h12 h32 rfl
        obtain ⟨h33, h34, h13, h15, h16, h45⟩ := k6 hr h33 h34 h13 h15 h16 h45 rfl
        obtain ⟨h46, h47⟩ := k2 hr h46 h47 rfl
        have Oo_O12 := O12
        have Hb_b15_n := Hb_b15_.exn hN
        have H_d_ := H_d_.exn hN
        have H_p_ := H_p_.exn hN
        have Hg_0 := Hg_0.exn hN
        have Hf10 := Hf10.exn hN
        have Hf45 := Hf45.exn hN
        have hW := hW.trans hN
        have O12 := O12.exn hN
        have Hb_b15_ := Hb_b15_n
        have hsz := hW.size
        refine WP.seq ?_
        refine WP.rb mixed [[], [0]] [[20], []] [(70, .int .i64 z2.2), (71, .bool (z2.2 == 0))] (by kernel_rfl) ⟨fun ρz wz hE hA ⟨e20, _⟩ _ => core_val rfl rfl (o_move (e20.trans h20)),
 fun ρz wz hE hA _ ⟨u0, _⟩ => core_val rfl rfl (o_eql u0 rfl rfl), trivial⟩ ?_
        intro ρ19 w19 hN hf hr
        have h71 : ρ19 71 = .bool (z2.2 == 0) := hf 1 rfl
        obtain ⟨h0, h2, h3, h10, h12, h32⟩ := k6 hr h0 h2 h3 h10 h12 h32 rfl
        obtain ⟨h33, h34, h13, h15, h16, h45⟩ := k6 hr h33 h34 h13 h15 h16 h45 rfl
        obtain ⟨h46, h47, h19⟩ := k3 hr h46 h47 h19 rfl
        have Oo_O12 := O12
        have Hb_b15_n := Hb_b15_.exn hN
        have H_d_ := H_d_.exn hN
        have H_p_ := H_p_.exn hN
        have Hg_0 := Hg_0.exn hN
        have Hf10 := Hf10.exn hN
        have Hf45 := Hf45.exn hN
        have hW := hW.trans hN
        have O12 := O12.exn hN
        have Hb_b15_ := Hb_b15_n
        have hsz := hW.size
        refine WP.cond rfl h71 (fun hb => ?_) (fun hb => ?_)
        · have hF := (if_pos hb).symm.trans hF
          refine WP.rv mixed [[], [], [0, 1], [0, 2]] [[], [], [0, 1], [2]] [[16], [19], [], []] [(72, .int .i64 x3), (73, .int .i64 z2.1), (74, .int .i64 (max x3 z2.1)), (16, .int .i64 (max x3 z2.1))] (by kernel_rfl) ⟨fun ρz wz hE hA ⟨e16, _⟩ _ => core_val rfl rfl (o_move (e16.trans h16)),
 fun ρz wz hE hA ⟨e19, _⟩ _ => core_val rfl rfl (o_move (e19.trans h19)),
 fun ρz wz hE hA _ ⟨u0, u1, _⟩ => core_val rfl rfl (o_max2 u0 u1),
 fun ρz wz hE hA _ ⟨u2, _⟩ => core_val rfl rfl (o_assign u2), trivial⟩ ?_
          intro ρ20 w20 hN hf hr
          have h16 : ρ20 16 = .int .i64 (max x3 z2.1) := hf 3 rfl
          obtain ⟨h0, h2, h3, h10, h12, h32⟩ := k6 hr h0 h2 h3 h10 h12 h32 rfl
          obtain ⟨h33, h34, h13, h15, h45, h46⟩ := k6 hr h33 h34 h13 h15 h45 h46 rfl
          have h47 := (hr 47 rfl).trans h47
          have Oo_O12 := O12
          have Hb_b15_n := Hb_b15_.exn hN
          have H_d_ := H_d_.exn hN
          have H_p_ := H_p_.exn hN
          have Hg_0 := Hg_0.exn hN
          have Hf10 := Hf10.exn hN
          have Hf45 := Hf45.exn hN
          have hW := hW.trans hN
          have O12 := O12.exn hN
          have Hb_b15_ := Hb_b15_n
          have hsz := hW.size
          exact ⟨max x3 z2.1, h0, h2, h3, h10, h12, h32, h33, h34, h13, h15, h16, h45, h46, h47, Hb_b15_, H_d_, H_p_, Hg_0, Hf10, Hf45, O12, hnb_O12_b15_, hW, hsz, hF⟩
        have hF := (if_neg (Bool.eq_false_iff.1 hb)).symm.trans hF
        refine WP.skip ?_
        exact ⟨x3, h0, h2, h3, h10, h12, h32, h33, h34, h13, h15, h16, h45, h46, h47, Hb_b15_, H_d_, H_p_, Hg_0, Hf10, Hf45, O12, hnb_O12_b15_, hW, hsz, hF⟩
      rintro ρ15 w15 ⟨x5, h0, h2, h3, h10, h12, h32, h33, h34, h13, h15, h16, h45, h46, h47, Hb_b15_, H_d_, H_p_, Hg_0, Hf10, Hf45, O12, hnb_O12_b15_, hW, hsz, hF⟩
      rw [family_Payments_j] at hF
      refine WP.rb mixed [[], [0]] [[47], []] [(75, .int .i64 (i64 (x4 + 1))), (47, .int .i64 (i64 (x4 + 1)))] (by kernel_rfl) ⟨fun ρz wz hE hA ⟨e47, _⟩ _ => core_val rfl rfl (o_add (e47.trans h47) rfl rfl),
 fun ρz wz hE hA _ ⟨u0, _⟩ => core_val rfl rfl (o_move u0), trivial⟩ ?_
      intro ρ16 w16 hN hf hr
      have h47 : ρ16 47 = .int .i64 (i64 (x4 + 1)) := hf 1 rfl
      obtain ⟨h0, h2, h3, h10, h12, h32⟩ := k6 hr h0 h2 h3 h10 h12 h32 rfl
      obtain ⟨h33, h34, h13, h15, h16, h45⟩ := k6 hr h33 h34 h13 h15 h16 h45 rfl
      have h46 := (hr 46 rfl).trans h46
      have Oo_O12 := O12
      have Hb_b15_n := Hb_b15_.exn hN
      have H_d_ := H_d_.exn hN
      have H_p_ := H_p_.exn hN
      have Hg_0 := Hg_0.exn hN
      have Hf10 := Hf10.exn hN
      have Hf45 := Hf45.exn hN
      have hW := hW.trans hN
      have O12 := O12.exn hN
      have Hb_b15_ := Hb_b15_n
      have hsz := hW.size
      exact ⟨x5, i64 (x4 + 1), h0, h2, h3, h10, h12, h32, h33, h34, h13, h15, h16, h45, h46, h47, Hb_b15_, H_d_, H_p_, Hg_0, Hf10, Hf45, O12, hnb_O12_b15_, hW, hsz, (by first | exact hF | (rw [hrec_2]; exact hF))⟩
    have hF := (if_neg (Bool.eq_false_iff.1 hb)).symm.trans hF
    refine WP.exit ?_
    refine thenQ_exit ?_
    refine thenQ_exit ?_
    refine blockQ_hit ?_
    obtain ⟨l, hl, hF⟩ := obind hF
    refine WP.region mixed [[], [], [1], [], [3], [], [5], [], [6, 7], [6, 8], [], [10], [2, 4, 6, 9, 11], [2, 4, 6, 12], [0, 2, 4, 6, 13], [0, 14]] [[], [], [1], [], [3], [], [5], [], [6, 7], [8], [], [10], [2, 4, 9, 11], [12], [0, 13], [14]] [[12], [15], [], [15], [], [15], [], [16], [], [], [13], [], [], [], [], []] [14] [] [val 76 (v12_), val 77 (.pointer (some ((⟨b15_, 0, none⟩ : Addr).add 0))), val 78 (.int .i64 y2.State), val 79 (.pointer (some ((⟨b15_, 0, none⟩ : Addr).add 2))), val 80 (.int .i64 y2.Currency), val 81 (.pointer (some ((⟨b15_, 0, none⟩ : Addr).add 3))), val 82 (.int .i64 y2.Amount), val 83 (.int .i64 x3), val 84 (.int .i64 (i64 (y2.Amount - x3))), val 85 (.int .i64 (max 0 (i64 (y2.Amount - x3)))), val 86 (.int .i64 x2), val 87 (.bool (x2 == 0)), val 88 (FamilyPay.val (⟨y2.State, y2.Currency, max 0 (i64 (y2.Amount - x3)), (x2 == 0)⟩ : FamilyPay)), (89, fun u wz => ∃ b, u = .slice (some ⟨b, 0, none⟩) 1 1 ∧ w14.heap.size ≤ b ∧ Mb wz b 48 (([(⟨y2.State, y2.Currency, max 0 (i64 (y2.Amount - x3)), (x2 == 0)⟩ : FamilyPay)]).flatMap FamilyPay.cells)), (90, fun u wz => Own w0.heap.size 48 4 FamilyPay.cells wz u l ∧ ∀ b, u.ownBlock = some b → (v12_.ownBlock = some b ∨ w14.heap.size ≤ b)), (12, fun u wz => Own w0.heap.size 48 4 FamilyPay.cells wz u l ∧ ∀ b, u.ownBlock = some b → (v12_.ownBlock = some b ∨ w14.heap.size ≤ b))] (fun b => Value.ownBlock v12_ = some b) (by kernel_rfl) ⟨sV, sV, sV, sV, sV, sV, sV, sV, sV, sV, sV, sV, sV, fun _ _ _ hE ⟨b, hz, hs, hM⟩ => ⟨b, hz, hs, hM.ext hE (fun hg => absurd (O12.lt hg).2 (Nat.not_lt.2 hs))⟩, fun _ _ _ hE ⟨hO, hf⟩ => ⟨hO.exn hE, hf⟩, fun _ _ _ hE ⟨hO, hf⟩ => ⟨hO.exn hE, hf⟩, trivial⟩ ⟨fun ρz wz hE hA ⟨e12, _⟩ _ => core_val rfl rfl (o_move (e12.trans h12)),
 fun ρz wz hE hA ⟨e15, _⟩ _ => core_val rfl rfl (o_fieldAddr (e15.trans h15) (fa_43_0 _ _)),
 fun ρz wz hE hA _ ⟨u1, _⟩ => core_val rfl rfl (o_load u1 (run_load1 (lr_3 _ _) (CA.sub ((Hb_b15_.exn (hA rfl)).ca) 0 1))),
 fun ρz wz hE hA ⟨e15, _⟩ _ => core_val rfl rfl (o_fieldAddr (e15.trans h15) (fa_43_2 _ _)),
 fun ρz wz hE hA _ ⟨u3, _⟩ => core_val rfl rfl (o_load u3 (run_load1 (lr_3 _ _) (CA.sub ((Hb_b15_.exn (hA rfl)).ca) 2 1))),
 fun ρz wz hE hA ⟨e15, _⟩ _ => core_val rfl rfl (o_fieldAddr (e15.trans h15) (fa_43_3 _ _)),
 fun ρz wz hE hA _ ⟨u5, _⟩ => core_val rfl rfl (o_load u5 (run_load1 (lr_3 _ _) (CA.sub ((Hb_b15_.exn (hA rfl)).ca) 3 1))),
 fun ρz wz hE hA ⟨e16, _⟩ _ => core_val rfl rfl (o_move (e16.trans h16)),
 fun ρz wz hE hA _ ⟨u6, u7, _⟩ => core_val rfl rfl (o_sub u6 u7 rfl),
 fun ρz wz hE hA _ ⟨u8, _⟩ => core_val rfl rfl (o_max2 rfl u8),
 fun ρz wz hE hA ⟨e13, _⟩ _ => core_val rfl rfl (o_move (e13.trans h13)),
 fun ρz wz hE hA _ ⟨u10, _⟩ => core_val rfl rfl (o_eql u10 rfl rfl),
 fun ρz wz hE hA _ ⟨u2, u4, u9, u11, _⟩ => core_val rfl rfl (o_build (build_parts4 u2 u4 u9 u11) (bd_48_0_1_2_3 _ _ _ _ _)),
 fun ρz wz hE hA _ ⟨u12, _⟩ => core_slice rfl rfl hE (o_buildSlice (build_parts1 u12) (bs_38_1 _ _)),
 fun ρz wz hE hA _ ⟨u0, ⟨bz13, hz13, hge13, hM13⟩, _⟩ => core_append (n := 4) (cells := FamilyPay.cells) (B := w0.heap.size) (w0 := w14) rfl rfl (fun b hb => hb) u0 hz13 (fun _ => rfl) one_48 si_38 se_48 (by decide) (by decide) (O12.exn (hA rfl)) ⟨_, (Mb.rep (n := 4) (cells := FamilyPay.cells) (hn := fun _ => rfl) (G := noG) hM13 rfl (Nat.le_of_ble_eq_true rfl) (fun h => h))⟩ hl (Nat.le_trans hsz hE.size) hE.size (fun v1 w1 h1 h2 => ⟨h1, h2⟩),
 fun ρz wz hE hA _ ⟨⟨hO14, hfr14⟩, _⟩ => core_copy rfl rfl (o_assign rfl) ⟨hO14, hfr14⟩, trivial⟩ ?_
    intro ρ21 w21 hE hN hf hr
    obtain ⟨v12_2, h12⟩ : ∃ v, ρ21 12 = v := ⟨_, rfl⟩
    have hq12 : (fun u wz => Own w0.heap.size 48 4 FamilyPay.cells wz u l ∧ ∀ b, u.ownBlock = some b → (v12_.ownBlock = some b ∨ w14.heap.size ≤ b)) (ρ21 12) w21 := hf 15 rfl
    rw [h12] at hq12
    obtain ⟨hq12, hfr12⟩ := hq12
    obtain ⟨h0, h2, h3, h10, h32, h33⟩ := k6 hr h0 h2 h3 h10 h32 h33 rfl
    have h34 := (hr 34 rfl).trans h34
    have Oo_O12 := O12
    have H_d_ := H_d_.over hE (fun b hb => (O12.lt hb).1)
    have H_p_ := H_p_.over hE (fun b hb => (O12.lt hb).1)
    have Hg_0 := Hg_0.over hE (fun b hb => (O12.lt hb).1)
    have Hf10 := Hf10.move hE hfr12
    have hW := Ext.own hW hE (fun b hb => (O12.lt hb).1)
    have O12 := hq12
    have hsz := hW.size
    refine WP.rb mixed [[], [0]] [[34], []] [(91, .int .i64 (i64 (x2 + 1))), (34, .int .i64 (i64 (x2 + 1)))] (by kernel_rfl) ⟨fun ρz wz hE hA ⟨e34, _⟩ _ => core_val rfl rfl (o_add (e34.trans h34) rfl rfl),
 fun ρz wz hE hA _ ⟨u0, _⟩ => core_val rfl rfl (o_move u0), trivial⟩ ?_
    intro ρ22 w22 hN hf hr
    have h34 : ρ22 34 = .int .i64 (i64 (x2 + 1)) := hf 1 rfl
    obtain ⟨h0, h2, h3, h10, h12, h32⟩ := k6 hr h0 h2 h3 h10 h12 h32 rfl
    have h33 := (hr 33 rfl).trans h33
    have Oo_O12 := O12
    have H_d_ := H_d_.exn hN
    have H_p_ := H_p_.exn hN
    have Hg_0 := Hg_0.exn hN
    have Hf10 := Hf10.exn hN
    have hW := hW.trans hN
    have O12 := O12.exn hN
    have hsz := hW.size
    exact ⟨l, i64 (x2 + 1), v12_2, h0, h2, h3, h10, h12, h32, h33, h34, H_d_, H_p_, Hg_0, Hf10, O12, hW, hsz, (by first | exact hF | (rw [hrec_]; exact hF))⟩
  have hF := (if_neg (Bool.eq_false_iff.1 hb)).symm.trans hF
  refine WP.exit ?_
  refine thenQ_exit ?_
  refine thenQ_exit ?_
  refine blockQ_hit ?_
  refine WP.seq ?_
  refine WP.rb mixed [[], [0], []] [[12], [], []] [(92, v12_), (8, v12_), (9, .int .i64 0)] (by kernel_rfl) ⟨fun ρz wz hE hA ⟨e12, _⟩ _ => core_val rfl rfl (o_move (e12.trans h12)),
 fun ρz wz hE hA _ ⟨u0, _⟩ => core_val rfl rfl (o_assign u0),
 fun ρz wz hE hA _ _ => core_val rfl rfl (o_assign rfl), trivial⟩ ?_
  intro ρ23 w23 hN hf hr
  have h8 : ρ23 8 = v12_ := hf 1 rfl
  have h9 : ρ23 9 = .int .i64 0 := hf 2 rfl
  have Oo_O12 := O12
  have Hg_0 := Hg_0.exn hN
  have hW := hW.trans hN
  have O8 := O12.exn hN
  have hsz := hW.size
  refine WP.ret ?_
  show retQ Tryd.prog 93 Tryd.f21 (fun v w1 => (∃ u0 : Value, v = .tuple #[u0, .int .i64 r.2] ∧ Own w0.heap.size 48 4 FamilyPay.cells w1 u0 r.1) ∧ Ext noG w0 w1) .ret ρ23 w23
  obtain rfl := Option.some.inj hF
  exact res2 rfl (by decide) (by decide) h8 h9 ⟨⟨_, rfl, O8⟩, hW⟩

set_option maxHeartbeats 4000000 in
theorem pensionplain_Same_of_api_FamilyPay_ok {w0 : World} (a_ : List FamilyPay) (b_ : List FamilyPay) {v_a_ : Value} (H_a_ : RepSl FamilyPay.R noG w0 v_a_ a_) {v_b_ : Value} (H_b_ : RepSl FamilyPay.R noG w0 v_b_ b_) {r : Bool} (hF : pensionplain_Same_of_api_FamilyPay a_ b_ = some r) :
    Calls Tryd.prog 23 #[v_a_, v_b_] w0 fun e w1 => e = .returned (.bool r) ∧ Ext noG w0 w1 := by
  refine (Calls.start (P := Tryd.prog) (args := [v_a_, v_b_]) (R := fun v w1 => v = .bool r ∧ Ext noG w0 w1) (n := 26) (w := w0) Tryd.func23 rfl rfl (Nat.le_of_ble_eq_true rfl) (fun ρ hargs => ?_)).mono (fun e w1 ⟨v, he, hv, hE⟩ => ⟨hv ▸ he, hE⟩)
  have h0 := hargs 0 _ rfl
  have h1 := hargs 1 _ rfl
  have hW := Ext.refl noG w0
  have hsz := Nat.le_refl w0.heap.size
  obtain ⟨_, _, hs_H_a_, _, _⟩ := RepSl.shape H_a_
  have H_a_ := H_a_.start
  obtain ⟨_, _, hs_H_b_, _, _⟩ := RepSl.shape H_b_
  have H_b_ := H_b_.start
  rw [pensionplain_Same_of_api_FamilyPay] at hF
  refine WP.seq ?_
  refine WP.rb mixed [[]] [[]] [(4, .bool false)] (by kernel_rfl) ⟨fun ρz wz hE hA _ _ => core_val rfl rfl (o_assign rfl), trivial⟩ ?_
  intro ρ1 w1 hN hf hr
  obtain ⟨h0, h1⟩ := k2 hr h0 h1 rfl
  have H_a_ := H_a_.exn hN
  have H_b_ := H_b_.exn hN
  have hW := hW.trans hN
  have hsz := hW.size
  refine WP.seq ?_
  refine WP.seq ?_
  refine WP.rb mixed [[], [0], [], [2], [1, 3]] [[0], [], [1], [], []] [(6, v_a_), (7, .int .i64 (a_.length : Int)), (8, v_b_), (9, .int .i64 (b_.length : Int)), (10, .bool ((a_.length : Int) != (b_.length : Int)))] (by kernel_rfl) ⟨fun ρz wz hE hA ⟨e0, _⟩ _ => core_val rfl rfl (o_move (e0.trans h0)),
 fun ρz wz hE hA _ ⟨u0, _⟩ => core_val rfl rfl (o_len (u0.trans hs_H_a_) len_38),
 fun ρz wz hE hA ⟨e1, _⟩ _ => core_val rfl rfl (o_move (e1.trans h1)),
 fun ρz wz hE hA _ ⟨u2, _⟩ => core_val rfl rfl (o_len (u2.trans hs_H_b_) len_38),
 fun ρz wz hE hA _ ⟨u1, u3, _⟩ => core_val rfl rfl (o_neq u1 u3 rfl), trivial⟩ ?_
  intro ρ2 w2 hN hf hr
  have h10 : ρ2 10 = .bool ((a_.length : Int) != (b_.length : Int)) := hf 4 rfl
  obtain ⟨h0, h1⟩ := k2 hr h0 h1 rfl
  have H_a_ := H_a_.exn hN
  have H_b_ := H_b_.exn hN
  have hW := hW.trans hN
  have hsz := hW.size
  refine WP.cond rfl h10 (fun hb => ?_) (fun hb => ?_)
  · have hF := (if_pos hb).symm.trans hF
    refine WP.seq ?_
    refine WP.rb mixed [[]] [[]] [(4, .bool false)] (by kernel_rfl) ⟨fun ρz wz hE hA _ _ => core_val rfl rfl (o_assign rfl), trivial⟩ ?_
    intro ρ3 w3 hN hf hr
    have h4 : ρ3 4 = .bool false := hf 0 rfl
    have hW := hW.trans hN
    have hsz := hW.size
    refine WP.ret ?_
    show retQ Tryd.prog 26 Tryd.f23 (fun v w1 => v = .bool r ∧ Ext noG w0 w1) .ret ρ3 w3
    obtain rfl := Option.some.inj hF
    exact res1 rfl (by decide) h4 ⟨rfl, hW⟩
  have hF := (if_neg (Bool.eq_false_iff.1 hb)).symm.trans hF
  refine WP.skip ?_
  refine WP.seq ?_
  refine WP.seq ?_
  refine WP.rb mixed [[]] [[]] [(5, .int .i64 0)] (by kernel_rfl) ⟨fun ρz wz hE hA _ _ => core_val rfl rfl (o_assign rfl), trivial⟩ ?_
  intro ρ4 w4 hN hf hr
  have h5 : ρ4 5 = .int .i64 0 := hf 0 rfl
  obtain ⟨h0, h1⟩ := k2 hr h0 h1 rfl
  have H_a_ := H_a_.exn hN
  have H_b_ := H_b_.exn hN
  have hW := hW.trans hN
  have hsz := hW.size
  refine WP.block ?_
  refine WP.loop (fun k_ ρ w => ∃ i_ : Int, ρ 0 = v_a_ ∧ ρ 1 = v_b_ ∧ ρ 5 = .int .i64 i_ ∧ RepSl FamilyPay.R (gfr noG w0) w v_a_ a_ ∧ RepSl FamilyPay.R (gfr noG w0) w v_b_ b_ ∧ Ext noG w0 w ∧ w0.heap.size ≤ w.heap.size ∧ loopC k_ (pensionplain_Same_of_api_FamilyPay_l a_ b_) i_ = some r) FU ⟨0, h0, h1, h5, H_a_, H_b_, hW, hsz, hF⟩ (fun _ _ h => by obtain ⟨_, _, _, _, _, _, _, _, h⟩ := h; cases h) ?_
  rintro k_ ρ5 w5 ⟨i_, h0, h1, h5, H_a_, H_b_, hW, hsz, hF⟩
  have hF : pensionplain_Same_of_api_FamilyPay_l a_ b_ (loopC k_ (pensionplain_Same_of_api_FamilyPay_l a_ b_)) i_ = some r := hF
  generalize hrec_ : loopC k_ (pensionplain_Same_of_api_FamilyPay_l a_ b_) = rec_ at hF
  rw [pensionplain_Same_of_api_FamilyPay_l] at hF
  refine WP.seq ?_
  refine WP.seq ?_
  refine WP.rb mixed [[], [], [1], [0, 2]] [[5], [0], [], []] [(11, .int .i64 i_), (12, v_a_), (13, .int .i64 (a_.length : Int)), (14, .bool (decide (i_ < (a_.length : Int))))] (by kernel_rfl) ⟨fun ρz wz hE hA ⟨e5, _⟩ _ => core_val rfl rfl (o_move (e5.trans h5)),
 fun ρz wz hE hA ⟨e0, _⟩ _ => core_val rfl rfl (o_move (e0.trans h0)),
 fun ρz wz hE hA _ ⟨u1, _⟩ => core_val rfl rfl (o_len (u1.trans hs_H_a_) len_38),
 fun ρz wz hE hA _ ⟨u0, u2, _⟩ => core_val rfl rfl (o_lss u0 u2 rfl), trivial⟩ ?_
  intro ρ6 w6 hN hf hr
  have h14 : ρ6 14 = .bool (decide (i_ < (a_.length : Int))) := hf 3 rfl
  obtain ⟨h0, h1, h5⟩ := k3 hr h0 h1 h5 rfl
  have H_a_ := H_a_.exn hN
  have H_b_ := H_b_.exn hN
  have hW := hW.trans hN
  have hsz := hW.size
  refine WP.cond rfl h14 (fun hb => ?_) (fun hb => ?_)
  · have hF := (if_pos hb).symm.trans hF
    refine WP.skip ?_
    refine WP.seq ?_
    refine WP.block ?_
    refine WP.seq ?_
    obtain ⟨y, hy, hF⟩ := obind hF
    obtain ⟨ay, cy, hvy, hiy, hAy⟩ := RepSl.getF H_a_ hy
    obtain ⟨y2, hy2, hF⟩ := obind hF
    obtain ⟨ay2, cy2, hvy2, hiy2, hAy2⟩ := RepSl.getF H_b_ hy2
    refine WP.rb mixed [[], [], [0, 1], [2], [], [], [4, 5], [6], [3, 7]] [[0], [5], [], [], [1], [5], [], [], []] [(17, v_a_), (18, .int .i64 i_), (19, .pointer (some (ay.add (Int.toNat i_ * 4)))), (20, FamilyPay.val y), (21, v_b_), (22, .int .i64 i_), (23, .pointer (some (ay2.add (Int.toNat i_ * 4)))), (24, FamilyPay.val y2), (25, .bool (!FamilyPay.eqb y y2))] (by kernel_rfl) ⟨fun ρz wz hE hA ⟨e0, _⟩ _ => core_val rfl rfl (o_move (e0.trans h0)),
 fun ρz wz hE hA ⟨e5, _⟩ _ => core_val rfl rfl (o_move (e5.trans h5)),
 fun ρz wz hE hA _ ⟨u0, u1, _⟩ => core_val rfl rfl (o_indexAddr (u0.trans hvy) u1 (ia_38 hiy)),
 fun ρz wz hE hA _ ⟨u2, _⟩ => core_val rfl rfl (o_load u2 (run_loadN (cs := (FamilyPay.cells y)) (lr_48 _ _) rfl ((hAy.exn (hA rfl)).ca))),
 fun ρz wz hE hA ⟨e1, _⟩ _ => core_val rfl rfl (o_move (e1.trans h1)),
 fun ρz wz hE hA ⟨e5, _⟩ _ => core_val rfl rfl (o_move (e5.trans h5)),
 fun ρz wz hE hA _ ⟨u4, u5, _⟩ => core_val rfl rfl (o_indexAddr (u4.trans hvy2) u5 (ia_38 hiy2)),
 fun ρz wz hE hA _ ⟨u6, _⟩ => core_val rfl rfl (o_load u6 (run_loadN (cs := (FamilyPay.cells y2)) (lr_48 _ _) rfl ((hAy2.exn (hA rfl)).ca))),
 fun ρz wz hE hA _ ⟨u3, u7, _⟩ => core_val rfl rfl (o_neS u3 u7 (by kernel_rfl) (eqs_48 9998 _ _ _) rfl), trivial⟩ ?_
    intro ρ7 w7 hN hf hr
    have h25 : ρ7 25 = .bool (!FamilyPay.eqb y y2) := hf 8 rfl
    obtain ⟨h0, h1, h5⟩ := k3 hr h0 h1 h5 rfl
    have H_a_ := H_a_.exn hN
    have H_b_ := H_b_.exn hN
    have hW := hW.trans hN
    have hsz := hW.size
    refine WP.cond rfl h25 (fun hb => ?_) (fun hb => ?_)
    · have hF := (if_pos hb).symm.trans hF
      refine WP.seq ?_
      refine WP.rb mixed [[]] [[]] [(4, .bool false)] (by kernel_rfl) ⟨fun ρz wz hE hA _ _ => core_val rfl rfl (o_assign rfl), trivial⟩ ?_
      intro ρ8 w8 hN hf hr
      have h4 : ρ8 4 = .bool false := hf 0 rfl
      have hW := hW.trans hN
      have hsz := hW.size
      refine WP.ret ?_
      show retQ Tryd.prog 26 Tryd.f23 (fun v w1 => v = .bool r ∧ Ext noG w0 w1) .ret ρ8 w8
      obtain rfl := Option.some.inj hF
      exact res1 rfl (by decide) h4 ⟨rfl, hW⟩
    have hF := (if_neg (Bool.eq_false_iff.1 hb)).symm.trans hF
    refine WP.skip ?_
    refine WP.rv mixed [[], [0], [0, 1]] [[], [0], [1]] [[5], [], []] [(15, .int .i64 i_), (16, .int .i64 (i64 (i_ + 1))), (5, .int .i64 (i64 (i_ + 1)))] (by kernel_rfl) ⟨fun ρz wz hE hA ⟨e5, _⟩ _ => core_val rfl rfl (o_move (e5.trans h5)),
 fun ρz wz hE hA _ ⟨u0, _⟩ => core_val rfl rfl (o_add u0 rfl rfl),
 fun ρz wz hE hA _ ⟨u1, _⟩ => core_val rfl rfl (o_assign u1), trivial⟩ ?_
    intro ρ9 w9 hN hf hr
    have h5 : ρ9 5 = .int .i64 (i64 (i_ + 1)) := hf 2 rfl
    obtain ⟨h0, h1⟩ := k2 hr h0 h1 rfl
    have H_a_ := H_a_.exn hN
    have H_b_ := H_b_.exn hN
    have hW := hW.trans hN
    have hsz := hW.size
    exact ⟨i64 (i_ + 1), h0, h1, h5, H_a_, H_b_, hW, hsz, (by first | exact hF | (rw [hrec_]; exact hF))⟩
  have hF := (if_neg (Bool.eq_false_iff.1 hb)).symm.trans hF
  refine WP.exit ?_
  refine thenQ_exit ?_
  refine thenQ_exit ?_
  refine blockQ_hit ?_
  refine WP.seq ?_
  refine WP.rb mixed [[]] [[]] [(4, .bool true)] (by kernel_rfl) ⟨fun ρz wz hE hA _ _ => core_val rfl rfl (o_assign rfl), trivial⟩ ?_
  intro ρ10 w10 hN hf hr
  have h4 : ρ10 4 = .bool true := hf 0 rfl
  have hW := hW.trans hN
  have hsz := hW.size
  refine WP.ret ?_
  show retQ Tryd.prog 26 Tryd.f23 (fun v w1 => v = .bool r ∧ Ext noG w0 w1) .ret ρ10 w10
  obtain rfl := Option.some.inj hF
  exact res1 rfl (by decide) h4 ⟨rfl, hW⟩

set_option maxHeartbeats 4000000 in
theorem pensionlaw24_awake_ok {w0 : World} (Hg_0 : GR [Value.int .i64 1, Value.int .i64 1] noG w0 0) {r : Bool} (hF : pensionlaw24_awake = some r) :
    Calls Tryd.prog 16 #[] w0 fun e w1 => e = .returned (.bool r) ∧ Ext noG w0 w1 := by
  refine (Calls.start (P := Tryd.prog) (args := []) (R := fun v w1 => v = .bool r ∧ Ext noG w0 w1) (n := 56) (w := w0) Tryd.func16 rfl rfl (Nat.le_of_ble_eq_true rfl) (fun ρ hargs => ?_)).mono (fun e w1 ⟨v, he, hv, hE⟩ => ⟨hv ▸ he, hE⟩)
  have hW := Ext.refl noG w0
  have hsz := Nat.le_refl w0.heap.size
  have Hg_0 := Hg_0.start
  rw [pensionlaw24_awake] at hF
  refine WP.seq ?_
  refine WP.rb mixed [[]] [[]] [(0, .bool false)] (by kernel_rfl) ⟨fun ρz wz hE hA _ _ => core_val rfl rfl (o_assign rfl), trivial⟩ ?_
  intro ρ1 w1 hN hf hr
  have Hg_0 := Hg_0.exn hN
  have hW := hW.trans hN
  have hsz := hW.size
  refine WP.seq ?_
  refine WP.rg mixed [[], [], [0, 1], [2]] [[], [], [0, 1], [2]] [[], [], [], []] [val 6 (Right.val (⟨1, 3, 1, 130⟩ : Right)), val 7 (Right.val (⟨2, 1, 1, 100⟩ : Right)), (8, fun u wz => ∃ b, u = .slice (some ⟨b, 0, none⟩) 2 2 ∧ w1.heap.size ≤ b ∧ Mb wz b 43 (([(⟨1, 3, 1, 130⟩ : Right), (⟨2, 1, 1, 100⟩ : Right)]).flatMap Right.cells)), (1, fun u wz => ∃ b, u = .slice (some ⟨b, 0, none⟩) 2 2 ∧ w1.heap.size ≤ b ∧ Mb wz b 43 (([(⟨1, 3, 1, 130⟩ : Right), (⟨2, 1, 1, 100⟩ : Right)]).flatMap Right.cells))] (by kernel_rfl) ⟨sV, sV, fun _ _ _ hE ⟨b, hz, hs, hM⟩ => ⟨b, hz, hs, hM.exn hE⟩, fun _ _ _ hE ⟨b, hz, hs, hM⟩ => ⟨b, hz, hs, hM.exn hE⟩, trivial⟩ ⟨fun ρz wz hE hA _ _ => core_val rfl rfl (o_build (build_parts4 rfl rfl rfl rfl) (bd_43_0_1_2_3 _ _ _ _ _)),
 fun ρz wz hE hA _ _ => core_val rfl rfl (o_build (build_parts4 rfl rfl rfl rfl) (bd_43_0_1_2_3 _ _ _ _ _)),
 fun ρz wz hE hA _ ⟨u0, u1, _⟩ => core_slice rfl rfl hE (o_buildSlice (build_parts2 u0 u1) (bs_24_2 _ _ _)),
 fun ρz wz hE hA _ ⟨⟨bz2, hz2, hge2, hM2⟩, _⟩ => core_copy rfl rfl (o_assign rfl) ⟨bz2, hz2, hge2, hM2⟩, trivial⟩ ?_
  intro ρ2 w2 hN hf hr
  obtain ⟨bn1, h1, hgn1, hMn1⟩ : ∃ b, ρ2 1 = .slice (some ⟨b, 0, none⟩) 2 2 ∧ w1.heap.size ≤ b ∧ Mb w2 b 43 (([(⟨1, 3, 1, 130⟩ : Right), (⟨2, 1, 1, 100⟩ : Right)]).flatMap Right.cells) := hf 3 rfl
  obtain ⟨v1_, hv1⟩ : ∃ v : Value, v = .slice (some ⟨bn1, 0, none⟩) 2 2 := ⟨_, rfl⟩
  rw [← hv1] at h1
  have hq1 : Own w0.heap.size 43 4 Right.cells w2 v1_ [(⟨1, 3, 1, 130⟩ : Right), (⟨2, 1, 1, 100⟩ : Right)] := hv1 ▸ hMn1.own (Nat.le_trans hsz hgn1) rfl (Nat.le_of_ble_eq_true rfl) (fun _ => rfl)
  have hfr1 : ∀ b, v1_.ownBlock = some b → w1.heap.size ≤ b := fun b hb => by rw [hv1] at hb; simp only [Value.ownBlock, Option.some.injEq] at hb; omega
  have Hg_0 := Hg_0.exn hN
  have hW := hW.trans hN
  have Hf1 : RepSl Right.R noG w2 v1_ [(⟨1, 3, 1, 130⟩ : Right), (⟨2, 1, 1, 100⟩ : Right)] := hq1.rep (fun _ _ h => h)
  obtain ⟨_, _, hs_Hf1, _, _⟩ := RepSl.shape Hf1
  have hsz := hW.size
  refine WP.seq ?_
  obtain ⟨z, hz, hF⟩ := obind hF
  refine WP.rg mixed [[], [0], [1], [2], [2], [3], [4]] [[], [0], [1], [2], [2], [3], [4]] [[1], [], [], [], [], [], []] [val 10 (v1_), (11, fun u wz => ∃ q : Value, u = .tuple #[q, .int .i64 z.2] ∧ Own w0.heap.size 3 1 (fun x : Int => [Value.int .i64 x]) wz q z.1 ∧ ∀ b, q.ownBlock = some b → w2.heap.size ≤ b), (9, fun u wz => ∃ q : Value, u = .tuple #[q, .int .i64 z.2] ∧ Own w0.heap.size 3 1 (fun x : Int => [Value.int .i64 x]) wz q z.1 ∧ ∀ b, q.ownBlock = some b → w2.heap.size ≤ b), (12, fun u wz => Own w0.heap.size 3 1 (fun x : Int => [Value.int .i64 x]) wz u z.1 ∧ ∀ b, u.ownBlock = some b → w2.heap.size ≤ b), val 13 (.int .i64 z.2), (2, fun u wz => Own w0.heap.size 3 1 (fun x : Int => [Value.int .i64 x]) wz u z.1 ∧ ∀ b, u.ownBlock = some b → w2.heap.size ≤ b), val 3 (.int .i64 z.2)] (by kernel_rfl) ⟨sV, fun _ _ _ hE ⟨q, ht, hO, hf⟩ => ⟨q, ht, hO.exn hE, hf⟩, fun _ _ _ hE ⟨q, ht, hO, hf⟩ => ⟨q, ht, hO.exn hE, hf⟩, fun _ _ _ hE ⟨hO, hf⟩ => ⟨hO.exn hE, hf⟩, sV, fun _ _ _ hE ⟨hO, hf⟩ => ⟨hO.exn hE, hf⟩, sV, trivial⟩ ⟨fun ρz wz hE hA ⟨e1, _⟩ _ => core_val rfl rfl (o_move (e1.trans h1)),
 fun ρz wz hE hA _ ⟨u0, _⟩ => core_callR rfl (call_args4 u0 rfl rfl rfl) cf_14 ((family_Order_ok  _ _ _ _ (Hf1.exn (hA rfl)).no (RepSl.nil _ noG _).no hz).mono (fun e w1 ⟨v, he, hE1, q, hv, hO⟩ => ⟨v, he, hE1, q, hv, hO.base (Nat.le_trans hsz hE.size), fun b hb => Nat.le_trans hE.size (hO.lt hb).1⟩)),
 fun ρz wz hE hA _ ⟨⟨q1, ht1, hO1, hfr1⟩, _⟩ => core_copy rfl rfl (o_move rfl) ⟨q1, ht1, hO1, hfr1⟩,
 fun ρz wz hE hA _ ⟨⟨q2, ht2, hO2, hfr2⟩, _⟩ => core_copy rfl rfl (o_extract ht2 (by kernel_rfl)) ⟨hO2, hfr2⟩,
 fun ρz wz hE hA _ ⟨⟨q2, ht2, hO2, hfr2⟩, _⟩ => core_val rfl rfl (o_extract ht2 (by kernel_rfl)),
 fun ρz wz hE hA _ ⟨⟨hO3, hfr3⟩, _⟩ => core_copy rfl rfl (o_assign rfl) ⟨hO3, hfr3⟩,
 fun ρz wz hE hA _ ⟨u4, _⟩ => core_val rfl rfl (o_assign u4), trivial⟩ ?_
  intro ρ3 w3 hN hf hr
  obtain ⟨v2_, h2⟩ : ∃ v, ρ3 2 = v := ⟨_, rfl⟩
  have hq2 : (fun u wz => Own w0.heap.size 3 1 (fun x : Int => [Value.int .i64 x]) wz u z.1 ∧ ∀ b, u.ownBlock = some b → w2.heap.size ≤ b) (ρ3 2) w3 := hf 5 rfl
  rw [h2] at hq2
  obtain ⟨hq2, hfr2⟩ := hq2
  have h3 : ρ3 3 = .int .i64 z.2 := hf 6 rfl
  have h1 := (hr 1 rfl).trans h1
  have Hg_0 := Hg_0.exn hN
  have Hf1 := Hf1.exn hN
  have hW := hW.trans hN
  have Hf2 : RepSl intR noG w3 v2_ z.1 := hq2.rep (fun _ _ h => h)
  obtain ⟨_, _, hs_Hf2, _, _⟩ := RepSl.shape Hf2
  have hsz := hW.size
  refine WP.seq ?_
  obtain ⟨z2, hz2, hF⟩ := obind hF
  refine WP.rg mixed [[], [0], [1], [2], [2], [3], [4]] [[], [0], [1], [2], [2], [3], [4]] [[1], [], [], [], [], [], []] [val 15 (v1_), (16, fun u wz => ∃ q : Value, u = .tuple #[q, .int .i64 z2.2] ∧ Own w0.heap.size 48 4 FamilyPay.cells wz q z2.1 ∧ ∀ b, q.ownBlock = some b → w3.heap.size ≤ b), (14, fun u wz => ∃ q : Value, u = .tuple #[q, .int .i64 z2.2] ∧ Own w0.heap.size 48 4 FamilyPay.cells wz q z2.1 ∧ ∀ b, q.ownBlock = some b → w3.heap.size ≤ b), (17, fun u wz => Own w0.heap.size 48 4 FamilyPay.cells wz u z2.1 ∧ ∀ b, u.ownBlock = some b → w3.heap.size ≤ b), val 18 (.int .i64 z2.2), (4, fun u wz => Own w0.heap.size 48 4 FamilyPay.cells wz u z2.1 ∧ ∀ b, u.ownBlock = some b → w3.heap.size ≤ b), val 5 (.int .i64 z2.2)] (by kernel_rfl) ⟨sV, fun _ _ _ hE ⟨q, ht, hO, hf⟩ => ⟨q, ht, hO.exn hE, hf⟩, fun _ _ _ hE ⟨q, ht, hO, hf⟩ => ⟨q, ht, hO.exn hE, hf⟩, fun _ _ _ hE ⟨hO, hf⟩ => ⟨hO.exn hE, hf⟩, sV, fun _ _ _ hE ⟨hO, hf⟩ => ⟨hO.exn hE, hf⟩, sV, trivial⟩ ⟨fun ρz wz hE hA ⟨e1, _⟩ _ => core_val rfl rfl (o_move (e1.trans h1)),
 fun ρz wz hE hA _ ⟨u0, _⟩ => core_callR rfl (call_args4 u0 rfl rfl rfl) cf_21 ((family_Payments_ok (Hg_0.exn (hA rfl)).no _ _ _ _ (Hf1.exn (hA rfl)).no (RepSl.nil _ noG _).no hz2).mono (fun e w1 ⟨v, he, hE1, q, hv, hO⟩ => ⟨v, he, hE1, q, hv, hO.base (Nat.le_trans hsz hE.size), fun b hb => Nat.le_trans hE.size (hO.lt hb).1⟩)),
 fun ρz wz hE hA _ ⟨⟨q1, ht1, hO1, hfr1⟩, _⟩ => core_copy rfl rfl (o_move rfl) ⟨q1, ht1, hO1, hfr1⟩,
 fun ρz wz hE hA _ ⟨⟨q2, ht2, hO2, hfr2⟩, _⟩ => core_copy rfl rfl (o_extract ht2 (by kernel_rfl)) ⟨hO2, hfr2⟩,
 fun ρz wz hE hA _ ⟨⟨q2, ht2, hO2, hfr2⟩, _⟩ => core_val rfl rfl (o_extract ht2 (by kernel_rfl)),
 fun ρz wz hE hA _ ⟨⟨hO3, hfr3⟩, _⟩ => core_copy rfl rfl (o_assign rfl) ⟨hO3, hfr3⟩,
 fun ρz wz hE hA _ ⟨u4, _⟩ => core_val rfl rfl (o_assign u4), trivial⟩ ?_
  intro ρ4 w4 hN hf hr
  obtain ⟨v4_, h4⟩ : ∃ v, ρ4 4 = v := ⟨_, rfl⟩
  have hq4 : (fun u wz => Own w0.heap.size 48 4 FamilyPay.cells wz u z2.1 ∧ ∀ b, u.ownBlock = some b → w3.heap.size ≤ b) (ρ4 4) w4 := hf 5 rfl
  rw [h4] at hq4
  obtain ⟨hq4, hfr4⟩ := hq4
  have h5 : ρ4 5 = .int .i64 z2.2 := hf 6 rfl
  obtain ⟨h2, h3⟩ := k2 hr h2 h3 rfl
  have Hg_0 := Hg_0.exn hN
  have Hf2 := Hf2.exn hN
  have hW := hW.trans hN
  have Hf4 : RepSl FamilyPay.R noG w4 v4_ z2.1 := hq4.rep (fun _ _ h => h)
  obtain ⟨_, _, hs_Hf4, _, _⟩ := RepSl.shape Hf4
  have hsz := hW.size
  refine WP.seq ?_
  obtain ⟨c, hc, hF⟩ := obind hF
  obtain ⟨z3, hz3, hc⟩ := andB hc
  have hc := andE hc
  obtain ⟨c2, hc2, hF⟩ := obind hF
  obtain ⟨y, hy, hc2⟩ := andB hc2
  obtain ⟨ay, cy, hvy, hiy, hAy⟩ := RepSl.getFI Hf4 hy
  have hc2 := andE hc2
  obtain ⟨c3, hc3, hF⟩ := obind hF
  obtain ⟨y2, hy2, hc3⟩ := andB hc3
  obtain ⟨ay2, cy2, hvy2, hiy2, hAy2⟩ := RepSl.getFI Hf4 hy2
  have hc3 := andE hc3
  obtain ⟨c4, hc4, hF⟩ := obind hF
  obtain ⟨y3, hy3, hc4⟩ := andB hc4
  obtain ⟨ay3, cy3, hvy3, hiy3, hAy3⟩ := RepSl.getFI Hf4 hy3
  have hc4 := andE hc4
  refine WP.rg mixed [[], [0], [1], [2], [2, 3], [2, 4], [5], [6], [6], [6, 7, 8], [6, 9], [10], [11], [11, 12], [11, 13], [11, 14], [15], [16], [16, 17], [16, 18], [16], [16, 19, 20], [16, 21], [22], [23], [23, 24], [23, 25], [23, 26], [23, 27], [23, 28], [29], [30], [30, 31], [30, 32], [30, 33], [30, 34], [30, 35], [36]] [[], [0], [1], [2], [2, 3], [2, 4], [5], [6], [6], [6, 7, 8], [6, 9], [10], [11], [11, 12], [11, 13], [11, 14], [15], [16], [16, 17], [16, 18], [16], [16, 19, 20], [16, 21], [22], [23], [23, 24], [23, 25], [23, 26], [23, 27], [23, 28], [29], [30], [30, 31], [30, 32], [30, 33], [30, 34], [30, 35], [36]] [[3], [], [], [5], [], [], [], [2], [], [], [], [], [4], [], [], [], [], [4], [], [], [], [], [], [], [4], [], [], [], [], [], [], [4], [], [], [], [], [], []] [val 19 (.int .i64 z.2), val 20 (.bool (z.2 == 0)), val 21 (.bool (z.2 == 0)), val 22 (gv ((z.2 == 0)) (.int .i64 z2.2)), val 23 (gv ((z.2 == 0)) (.bool (z2.2 == 0))), val 24 (.bool ((z.2 == 0) && (z2.2 == 0))), val 25 (.bool ((z.2 == 0) && (z2.2 == 0))), val 26 (gv (((z.2 == 0) && (z2.2 == 0))) v2_), (27, fun u wz => (((z.2 == 0) && (z2.2 == 0))) = true → (fun u wz => ∃ b, u = .slice (some ⟨b, 0, none⟩) 2 2 ∧ w4.heap.size ≤ b ∧ Mb wz b 3 (([1, 0]).flatMap (fun x : Int => [Value.int .i64 x]))) u wz), val 28 (gv (((z.2 == 0) && (z2.2 == 0))) (.bool z3)), val 29 (.bool c), val 30 (.bool c), val 31 (gv (c) v4_), val 32 (gv (c) (.int .i64 (z2.1.length : Int))), val 33 (gv (c) (.bool ((z2.1.length : Int) == 2))), val 34 (.bool (c && ((z2.1.length : Int) == 2))), val 35 (.bool (c && ((z2.1.length : Int) == 2))), val 36 (gv ((c && ((z2.1.length : Int) == 2))) v4_), val 37 (gv ((c && ((z2.1.length : Int) == 2))) (.pointer (some (ay.add (Int.toNat 0 * 4))))), val 38 (gv ((c && ((z2.1.length : Int) == 2))) (FamilyPay.val y)), val 39 (gv ((c && ((z2.1.length : Int) == 2))) (FamilyPay.val (⟨2, 1, 100, true⟩ : FamilyPay))), val 40 (gv ((c && ((z2.1.length : Int) == 2))) (.bool (FamilyPay.eqb y (⟨2, 1, 100, true⟩ : FamilyPay)))), val 41 (.bool c2), val 42 (.bool c2), val 43 (gv (c2) v4_), val 44 (gv (c2) (.pointer (some (ay2.add (Int.toNat 1 * 4))))), val 45 (gv (c2) (.pointer (some ((ay2.add (Int.toNat 1 * 4)).add 2)))), val 46 (gv (c2) (.int .i64 y2.Amount)), val 47 (gv (c2) (.bool (y2.Amount == 30))), val 48 (.bool c3), val 49 (.bool c3), val 50 (gv (c3) v4_), val 51 (gv (c3) (.pointer (some (ay3.add (Int.toNat 1 * 4))))), val 52 (gv (c3) (.pointer (some ((ay3.add (Int.toNat 1 * 4)).add 3)))), val 53 (gv (c3) (.bool y3.Primary)), val 54 (gv (c3) (.bool (!y3.Primary))), val 55 (.bool c4), val 0 (.bool c4)] (by kernel_rfl) ⟨sV, sV, sV, sV, sV, sV, sV, sV, stabI (Φ := fun u wz => ∃ b, u = .slice (some ⟨b, 0, none⟩) 2 2 ∧ w4.heap.size ≤ b ∧ Mb wz b 3 (([1, 0]).flatMap (fun x : Int => [Value.int .i64 x]))) (fun _ _ _ hE ⟨b, hz, hs, hM⟩ => ⟨b, hz, hs, hM.exn hE⟩), sV, sV, sV, sV, sV, sV, sV, sV, sV, sV, sV, sV, sV, sV, sV, sV, sV, sV, sV, sV, sV, sV, sV, sV, sV, sV, sV, sV, sV, trivial⟩ ⟨fun ρz wz hE hA ⟨e3, _⟩ _ => core_val rfl rfl (o_move (e3.trans h3)),
 fun ρz wz hE hA _ ⟨u0, _⟩ => core_val rfl rfl (o_eql u0 rfl rfl),
 fun ρz wz hE hA _ ⟨u1, _⟩ => core_val rfl rfl (o_move u1),
 fun ρz wz hE hA ⟨e5, _⟩ ⟨u2, _⟩ => gIf rfl rfl (yT rfl u2) fun gc F hF => core_val rfl hF (o_move (e5.trans h5)),
 fun ρz wz hE hA _ ⟨u2, u3, _⟩ => gIf rfl rfl (yT rfl u2) fun gc F hF => core_val rfl hF (o_eql (gt gc u3) rfl rfl),
 fun ρz wz hE hA _ ⟨u2, u4, _⟩ => core_val rfl rfl (o_pick_and u2 u4 rfl),
 fun ρz wz hE hA _ ⟨u5, _⟩ => core_val rfl rfl (o_move u5),
 fun ρz wz hE hA ⟨e2, _⟩ ⟨u6, _⟩ => gIf rfl rfl (yT rfl u6) fun gc F hF => core_val rfl hF (o_move (e2.trans h2)),
 fun ρz wz hE hA _ ⟨u6, _⟩ => gIfR rfl (yT rfl u6) fun gc F hF => core_slice rfl hF hE (o_buildSlice (build_parts2 rfl rfl) (bs_23_2 _ _ _)),
 fun ρz wz hE hA _ ⟨u6, u7, u8, _⟩ => gIf rfl rfl (yT rfl u6) fun gc F hF => let ⟨bz8, hz8, hge8, hM8⟩ := u8 gc; core_call hF (call_args2 (gt gc u7) hz8) cf_17 (pensionplain_Ints_ok  _ _ (Hf2.exn (hA rfl)).no (Mb.rep (n := 1) (cells := fun x : Int => [Value.int .i64 x]) (hn := fun _ => rfl) (G := noG) hM8 rfl (Nat.le_of_ble_eq_true rfl) (fun h => h)).no (hz3 gc)),
 fun ρz wz hE hA _ ⟨u6, u9, _⟩ => core_valE rfl rfl (congrArg Value.bool hc) (o_pick_and u6 u9 rfl),
 fun ρz wz hE hA _ ⟨u10, _⟩ => core_val rfl rfl (o_move u10),
 fun ρz wz hE hA ⟨e4, _⟩ ⟨u11, _⟩ => gIf rfl rfl (yT rfl u11) fun gc F hF => core_val rfl hF (o_move (e4.trans h4)),
 fun ρz wz hE hA _ ⟨u11, u12, _⟩ => gIf rfl rfl (yT rfl u11) fun gc F hF => core_val rfl hF (o_len ((gt gc u12).trans hs_Hf4) len_38),
 fun ρz wz hE hA _ ⟨u11, u13, _⟩ => gIf rfl rfl (yT rfl u11) fun gc F hF => core_val rfl hF (o_eql (gt gc u13) rfl rfl),
 fun ρz wz hE hA _ ⟨u11, u14, _⟩ => core_val rfl rfl (o_pick_and u11 u14 rfl),
 fun ρz wz hE hA _ ⟨u15, _⟩ => core_val rfl rfl (o_move u15),
 fun ρz wz hE hA ⟨e4, _⟩ ⟨u16, _⟩ => gIf rfl rfl (yT rfl u16) fun gc F hF => core_val rfl hF (o_move (e4.trans h4)),
 fun ρz wz hE hA _ ⟨u16, u17, _⟩ => gIf rfl rfl (yT rfl u16) fun gc F hF => core_val rfl hF (o_indexAddr ((gt gc u17).trans (hvy gc)) rfl (ia_38 (hiy gc))),
 fun ρz wz hE hA _ ⟨u16, u18, _⟩ => gIf rfl rfl (yT rfl u16) fun gc F hF => core_val rfl hF (o_load (gt gc u18) (run_loadN (cs := (FamilyPay.cells y)) (lr_48 _ _) rfl (((hAy gc).exn (hA rfl)).ca))),
 fun ρz wz hE hA _ ⟨u16, _⟩ => gIf rfl rfl (yT rfl u16) fun gc F hF => core_val rfl hF (o_build (build_parts4 rfl rfl rfl rfl) (bd_48_0_1_2_3 _ _ _ _ _)),
 fun ρz wz hE hA _ ⟨u16, u19, u20, _⟩ => gIf rfl rfl (yT rfl u16) fun gc F hF => core_val rfl hF (o_eqS (gt gc u19) (gt gc u20) (by kernel_rfl) (eqs_48 9998 _ _ _) rfl),
 fun ρz wz hE hA _ ⟨u16, u21, _⟩ => core_valE rfl rfl (congrArg Value.bool hc2) (o_pick_and u16 u21 rfl),
 fun ρz wz hE hA _ ⟨u22, _⟩ => core_val rfl rfl (o_move u22),
 fun ρz wz hE hA ⟨e4, _⟩ ⟨u23, _⟩ => gIf rfl rfl (yT rfl u23) fun gc F hF => core_val rfl hF (o_move (e4.trans h4)),
 fun ρz wz hE hA _ ⟨u23, u24, _⟩ => gIf rfl rfl (yT rfl u23) fun gc F hF => core_val rfl hF (o_indexAddr ((gt gc u24).trans (hvy2 gc)) rfl (ia_38 (hiy2 gc))),
 fun ρz wz hE hA _ ⟨u23, u25, _⟩ => gIf rfl rfl (yT rfl u23) fun gc F hF => core_val rfl hF (o_fieldAddr (gt gc u25) (fa_48_2 _ _)),
 fun ρz wz hE hA _ ⟨u23, u26, _⟩ => gIf rfl rfl (yT rfl u23) fun gc F hF => core_val rfl hF (o_load (gt gc u26) (run_load1 (lr_3 _ _) (CA.sub (((hAy2 gc).exn (hA rfl)).ca) 2 1))),
 fun ρz wz hE hA _ ⟨u23, u27, _⟩ => gIf rfl rfl (yT rfl u23) fun gc F hF => core_val rfl hF (o_eql (gt gc u27) rfl rfl),
 fun ρz wz hE hA _ ⟨u23, u28, _⟩ => core_valE rfl rfl (congrArg Value.bool hc3) (o_pick_and u23 u28 rfl),
 fun ρz wz hE hA _ ⟨u29, _⟩ => core_val rfl rfl (o_move u29),
 fun ρz wz hE hA ⟨e4, _⟩ ⟨u30, _⟩ => gIf rfl rfl (yT rfl u30) fun gc F hF => core_val rfl hF (o_move (e4.trans h4)),
 fun ρz wz hE hA _ ⟨u30, u31, _⟩ => gIf rfl rfl (yT rfl u30) fun gc F hF => core_val rfl hF (o_indexAddr ((gt gc u31).trans (hvy3 gc)) rfl (ia_38 (hiy3 gc))),
 fun ρz wz hE hA _ ⟨u30, u32, _⟩ => gIf rfl rfl (yT rfl u30) fun gc F hF => core_val rfl hF (o_fieldAddr (gt gc u32) (fa_48_3 _ _)),
 fun ρz wz hE hA _ ⟨u30, u33, _⟩ => gIf rfl rfl (yT rfl u30) fun gc F hF => core_val rfl hF (o_load (gt gc u33) (run_load1 (lr_4 _ _) (CA.sub (((hAy3 gc).exn (hA rfl)).ca) 3 1))),
 fun ρz wz hE hA _ ⟨u30, u34, _⟩ => gIf rfl rfl (yT rfl u30) fun gc F hF => core_val rfl hF (o_not (gt gc u34) rfl),
 fun ρz wz hE hA _ ⟨u30, u35, _⟩ => core_valE rfl rfl (congrArg Value.bool hc4) (o_pick_and u30 u35 rfl),
 fun ρz wz hE hA _ ⟨u36, _⟩ => core_val rfl rfl (o_assign u36), trivial⟩ ?_
  intro ρ5 w5 hN hf hr
  have h0 : ρ5 0 = .bool c4 := hf 37 rfl
  have Hg_0 := Hg_0.exn hN
  have hW := hW.trans hN
  have hsz := hW.size
  refine WP.ret ?_
  show retQ Tryd.prog 56 Tryd.f16 (fun v w1 => v = .bool r ∧ Ext noG w0 w1) .ret ρ5 w5
  obtain rfl := Option.some.inj hF
  exact res1 rfl (by decide) h0 ⟨rfl, hW⟩

set_option maxHeartbeats 4000000 in
theorem pensionlaw24_FamilyOrderAgrees_ok {w0 : World} (Hg_0 : GR [Value.int .i64 1, Value.int .i64 1] noG w0 0) (l_ : List pensionlaw24_Raw) (home_ : Int) (rates_ : List Int) (month_ : Int) {v_l_ : Value} (H_l_ : RepSl pensionlaw24_Raw.R noG w0 v_l_ l_) {v_rates_ : Value} (H_rates_ : RepSl intR noG w0 v_rates_ rates_) {r : Bool} (hF : pensionlaw24_FamilyOrderAgrees l_ home_ rates_ month_ = some r) :
    Calls Tryd.prog 3 #[v_l_, .int .i64 home_, v_rates_, .int .i64 month_] w0 fun e w1 => e = .returned (.bool r) ∧ Ext noG w0 w1 := by
  refine (Calls.start (P := Tryd.prog) (args := [v_l_, .int .i64 home_, v_rates_, .int .i64 month_]) (R := fun v w1 => v = .bool r ∧ Ext noG w0 w1) (n := 53) (w := w0) Tryd.func3 rfl rfl (Nat.le_of_ble_eq_true rfl) (fun ρ hargs => ?_)).mono (fun e w1 ⟨v, he, hv, hE⟩ => ⟨hv ▸ he, hE⟩)
  have h0 := hargs 0 _ rfl
  have h1 := hargs 1 _ rfl
  have h2 := hargs 2 _ rfl
  have h3 := hargs 3 _ rfl
  have hW := Ext.refl noG w0
  have hsz := Nat.le_refl w0.heap.size
  obtain ⟨_, _, hs_H_l_, _, _⟩ := RepSl.shape H_l_
  have H_l_ := H_l_.start
  obtain ⟨_, _, hs_H_rates_, _, _⟩ := RepSl.shape H_rates_
  have H_rates_ := H_rates_.start
  have Hg_0 := Hg_0.start
  rw [pensionlaw24_FamilyOrderAgrees] at hF
  refine WP.seq ?_
  refine WP.rb mixed [[]] [[]] [(8, .bool false)] (by kernel_rfl) ⟨fun ρz wz hE hA _ _ => core_val rfl rfl (o_assign rfl), trivial⟩ ?_
  intro ρ1 w1 hN hf hr
  obtain ⟨h0, h1, h2, h3⟩ := k4 hr h0 h1 h2 h3 rfl
  have H_l_ := H_l_.exn hN
  have H_rates_ := H_rates_.exn hN
  have Hg_0 := Hg_0.exn hN
  have hW := hW.trans hN
  have hsz := hW.size
  refine WP.seq ?_
  obtain ⟨z, hz, hF⟩ := obind hF
  obtain ⟨z2, hz2, hF⟩ := obind hF
  obtain ⟨z3, hz3, hF⟩ := obind hF
  obtain ⟨z4, hz4, hF⟩ := obind hF
  refine WP.rg mixed [[], [0], [], [2], [], [4], [], [6], [7], [1], [3], [5], [8]] [[], [0], [], [2], [], [4], [], [6], [7], [1], [3], [5], [8]] [[0], [], [2], [], [3], [], [1], [], [], [], [], [], []] [val 17 (v_l_), (18, fun u wz => Own w0.heap.size 43 4 Right.cells wz u z ∧ ∀ b, u.ownBlock = some b → w1.heap.size ≤ b), val 19 (v_rates_), (20, fun u wz => Own w0.heap.size 57 4 Rate.cells wz u z2 ∧ ∀ b, u.ownBlock = some b → w1.heap.size ≤ b), val 21 (.int .i64 month_), val 22 (.int .i64 z3), val 23 (.int .i64 home_), val 24 (.int .i64 z4), val 25 (.int .i64 (i64 (z4 - 1))), (9, fun u wz => Own w0.heap.size 43 4 Right.cells wz u z ∧ ∀ b, u.ownBlock = some b → w1.heap.size ≤ b), (10, fun u wz => Own w0.heap.size 57 4 Rate.cells wz u z2 ∧ ∀ b, u.ownBlock = some b → w1.heap.size ≤ b), val 11 (.int .i64 z3), val 12 (.int .i64 (i64 (z4 - 1)))] (by kernel_rfl) ⟨sV, fun _ _ _ hE ⟨hO, hf⟩ => ⟨hO.exn hE, hf⟩, sV, fun _ _ _ hE ⟨hO, hf⟩ => ⟨hO.exn hE, hf⟩, sV, sV, sV, sV, sV, fun _ _ _ hE ⟨hO, hf⟩ => ⟨hO.exn hE, hf⟩, fun _ _ _ hE ⟨hO, hf⟩ => ⟨hO.exn hE, hf⟩, sV, sV, trivial⟩ ⟨fun ρz wz hE hA ⟨e0, _⟩ _ => core_val rfl rfl (o_move (e0.trans h0)),
 fun ρz wz hE hA _ ⟨u0, _⟩ => core_callR rfl (call_args1 u0) cf_11 ((pensionlaw24_List_ok  _ (H_l_.exn (hA rfl)).no hz).mono (fun e w1 ⟨v, he, hE1, hO⟩ => ⟨v, he, hE1, hO.base (Nat.le_trans hsz hE.size), fun b hb => Nat.le_trans hE.size (hO.lt hb).1⟩)),
 fun ρz wz hE hA ⟨e2, _⟩ _ => core_val rfl rfl (o_move (e2.trans h2)),
 fun ρz wz hE hA _ ⟨u2, _⟩ => core_callR rfl (call_args1 u2) cf_12 ((pensionplain_Rates_ok  _ (H_rates_.exn (hA rfl)).no hz2).mono (fun e w1 ⟨v, he, hE1, hO⟩ => ⟨v, he, hE1, hO.base (Nat.le_trans hsz hE.size), fun b hb => Nat.le_trans hE.size (hO.lt hb).1⟩)),
 fun ρz wz hE hA ⟨e3, _⟩ _ => core_val rfl rfl (o_move (e3.trans h3)),
 fun ρz wz hE hA _ ⟨u4, _⟩ => core_call rfl (call_args2 u4 rfl) cf_13 (pensionplain_Mod_ok  _ _  hz3),
 fun ρz wz hE hA ⟨e1, _⟩ _ => core_val rfl rfl (o_move (e1.trans h1)),
 fun ρz wz hE hA _ ⟨u6, _⟩ => core_call rfl (call_args2 u6 rfl) cf_13 (pensionplain_Mod_ok  _ _  hz4),
 fun ρz wz hE hA _ ⟨u7, _⟩ => core_val rfl rfl (o_sub u7 rfl rfl),
 fun ρz wz hE hA _ ⟨⟨hO1, hfr1⟩, _⟩ => core_copy rfl rfl (o_assign rfl) ⟨hO1, hfr1⟩,
 fun ρz wz hE hA _ ⟨⟨hO3, hfr3⟩, _⟩ => core_copy rfl rfl (o_assign rfl) ⟨hO3, hfr3⟩,
 fun ρz wz hE hA _ ⟨u5, _⟩ => core_val rfl rfl (o_assign u5),
 fun ρz wz hE hA _ ⟨u8, _⟩ => core_val rfl rfl (o_assign u8), trivial⟩ ?_
  intro ρ2 w2 hN hf hr
  obtain ⟨v9_, h9⟩ : ∃ v, ρ2 9 = v := ⟨_, rfl⟩
  have hq9 : (fun u wz => Own w0.heap.size 43 4 Right.cells wz u z ∧ ∀ b, u.ownBlock = some b → w1.heap.size ≤ b) (ρ2 9) w2 := hf 9 rfl
  rw [h9] at hq9
  obtain ⟨hq9, hfr9⟩ := hq9
  obtain ⟨v10_, h10⟩ : ∃ v, ρ2 10 = v := ⟨_, rfl⟩
  have hq10 : (fun u wz => Own w0.heap.size 57 4 Rate.cells wz u z2 ∧ ∀ b, u.ownBlock = some b → w1.heap.size ≤ b) (ρ2 10) w2 := hf 10 rfl
  rw [h10] at hq10
  obtain ⟨hq10, hfr10⟩ := hq10
  have h11 : ρ2 11 = .int .i64 z3 := hf 11 rfl
  have h12 : ρ2 12 = .int .i64 (i64 (z4 - 1)) := hf 12 rfl
  have Hg_0 := Hg_0.exn hN
  have hW := hW.trans hN
  have Hf9 : RepSl Right.R noG w2 v9_ z := hq9.rep (fun _ _ h => h)
  obtain ⟨_, _, hs_Hf9, _, _⟩ := RepSl.shape Hf9
  have Hf10 : RepSl Rate.R noG w2 v10_ z2 := hq10.rep (fun _ _ h => h)
  obtain ⟨_, _, hs_Hf10, _, _⟩ := RepSl.shape Hf10
  have hsz := hW.size
  refine WP.seq ?_
  obtain ⟨z5, hz5, hF⟩ := obind hF
  refine WP.rg mixed [[], [], [], [], [0, 1, 2, 3], [4], [5], [5], [6], [7]] [[], [], [], [], [0, 1, 2, 3], [4], [5], [5], [6], [7]] [[9], [12], [10], [11], [], [], [], [], [], []] [val 27 (v9_), val 28 (.int .i64 (i64 (z4 - 1))), val 29 (v10_), val 30 (.int .i64 z3), (31, fun u wz => ∃ q : Value, u = .tuple #[q, .int .i64 z5.2] ∧ Own w0.heap.size 3 1 (fun x : Int => [Value.int .i64 x]) wz q z5.1 ∧ ∀ b, q.ownBlock = some b → w2.heap.size ≤ b), (26, fun u wz => ∃ q : Value, u = .tuple #[q, .int .i64 z5.2] ∧ Own w0.heap.size 3 1 (fun x : Int => [Value.int .i64 x]) wz q z5.1 ∧ ∀ b, q.ownBlock = some b → w2.heap.size ≤ b), (32, fun u wz => Own w0.heap.size 3 1 (fun x : Int => [Value.int .i64 x]) wz u z5.1 ∧ ∀ b, u.ownBlock = some b → w2.heap.size ≤ b), val 33 (.int .i64 z5.2), (13, fun u wz => Own w0.heap.size 3 1 (fun x : Int => [Value.int .i64 x]) wz u z5.1 ∧ ∀ b, u.ownBlock = some b → w2.heap.size ≤ b), val 14 (.int .i64 z5.2)] (by kernel_rfl) ⟨sV, sV, sV, sV, fun _ _ _ hE ⟨q, ht, hO, hf⟩ => ⟨q, ht, hO.exn hE, hf⟩, fun _ _ _ hE ⟨q, ht, hO, hf⟩ => ⟨q, ht, hO.exn hE, hf⟩, fun _ _ _ hE ⟨hO, hf⟩ => ⟨hO.exn hE, hf⟩, sV, fun _ _ _ hE ⟨hO, hf⟩ => ⟨hO.exn hE, hf⟩, sV, trivial⟩ ⟨fun ρz wz hE hA ⟨e9, _⟩ _ => core_val rfl rfl (o_move (e9.trans h9)),
 fun ρz wz hE hA ⟨e12, _⟩ _ => core_val rfl rfl (o_move (e12.trans h12)),
 fun ρz wz hE hA ⟨e10, _⟩ _ => core_val rfl rfl (o_move (e10.trans h10)),
 fun ρz wz hE hA ⟨e11, _⟩ _ => core_val rfl rfl (o_move (e11.trans h11)),
 fun ρz wz hE hA _ ⟨u0, u1, u2, u3, _⟩ => core_callR rfl (call_args4 u0 u1 u2 u3) cf_14 ((family_Order_ok  _ _ _ _ (Hf9.exn (hA rfl)).no (Hf10.exn (hA rfl)).no hz5).mono (fun e w1 ⟨v, he, hE1, q, hv, hO⟩ => ⟨v, he, hE1, q, hv, hO.base (Nat.le_trans hsz hE.size), fun b hb => Nat.le_trans hE.size (hO.lt hb).1⟩)),
 fun ρz wz hE hA _ ⟨⟨q4, ht4, hO4, hfr4⟩, _⟩ => core_copy rfl rfl (o_move rfl) ⟨q4, ht4, hO4, hfr4⟩,
 fun ρz wz hE hA _ ⟨⟨q5, ht5, hO5, hfr5⟩, _⟩ => core_copy rfl rfl (o_extract ht5 (by kernel_rfl)) ⟨hO5, hfr5⟩,
 fun ρz wz hE hA _ ⟨⟨q5, ht5, hO5, hfr5⟩, _⟩ => core_val rfl rfl (o_extract ht5 (by kernel_rfl)),
 fun ρz wz hE hA _ ⟨⟨hO6, hfr6⟩, _⟩ => core_copy rfl rfl (o_assign rfl) ⟨hO6, hfr6⟩,
 fun ρz wz hE hA _ ⟨u7, _⟩ => core_val rfl rfl (o_assign u7), trivial⟩ ?_
  intro ρ3 w3 hN hf hr
  obtain ⟨v13_, h13⟩ : ∃ v, ρ3 13 = v := ⟨_, rfl⟩
  have hq13 : (fun u wz => Own w0.heap.size 3 1 (fun x : Int => [Value.int .i64 x]) wz u z5.1 ∧ ∀ b, u.ownBlock = some b → w2.heap.size ≤ b) (ρ3 13) w3 := hf 8 rfl
  rw [h13] at hq13
  obtain ⟨hq13, hfr13⟩ := hq13
  have h14 : ρ3 14 = .int .i64 z5.2 := hf 9 rfl
  obtain ⟨h9, h10, h11, h12⟩ := k4 hr h9 h10 h11 h12 rfl
  have Hg_0 := Hg_0.exn hN
  have Hf9 := Hf9.exn hN
  have Hf10 := Hf10.exn hN
  have hW := hW.trans hN
  have Hf13 : RepSl intR noG w3 v13_ z5.1 := hq13.rep (fun _ _ h => h)
  obtain ⟨_, _, hs_Hf13, _, _⟩ := RepSl.shape Hf13
  have hsz := hW.size
  refine WP.seq ?_
  obtain ⟨z6, hz6, hF⟩ := obind hF
  refine WP.rg mixed [[], [], [], [], [0, 1, 2, 3], [4], [5], [5], [6], [7]] [[], [], [], [], [0, 1, 2, 3], [4], [5], [5], [6], [7]] [[9], [12], [10], [11], [], [], [], [], [], []] [val 35 (v9_), val 36 (.int .i64 (i64 (z4 - 1))), val 37 (v10_), val 38 (.int .i64 z3), (39, fun u wz => ∃ q : Value, u = .tuple #[q, .int .i64 z6.2] ∧ Own w0.heap.size 3 1 (fun x : Int => [Value.int .i64 x]) wz q z6.1 ∧ ∀ b, q.ownBlock = some b → w3.heap.size ≤ b), (34, fun u wz => ∃ q : Value, u = .tuple #[q, .int .i64 z6.2] ∧ Own w0.heap.size 3 1 (fun x : Int => [Value.int .i64 x]) wz q z6.1 ∧ ∀ b, q.ownBlock = some b → w3.heap.size ≤ b), (40, fun u wz => Own w0.heap.size 3 1 (fun x : Int => [Value.int .i64 x]) wz u z6.1 ∧ ∀ b, u.ownBlock = some b → w3.heap.size ≤ b), val 41 (.int .i64 z6.2), (15, fun u wz => Own w0.heap.size 3 1 (fun x : Int => [Value.int .i64 x]) wz u z6.1 ∧ ∀ b, u.ownBlock = some b → w3.heap.size ≤ b), val 16 (.int .i64 z6.2)] (by kernel_rfl) ⟨sV, sV, sV, sV, fun _ _ _ hE ⟨q, ht, hO, hf⟩ => ⟨q, ht, hO.exn hE, hf⟩, fun _ _ _ hE ⟨q, ht, hO, hf⟩ => ⟨q, ht, hO.exn hE, hf⟩, fun _ _ _ hE ⟨hO, hf⟩ => ⟨hO.exn hE, hf⟩, sV, fun _ _ _ hE ⟨hO, hf⟩ => ⟨hO.exn hE, hf⟩, sV, trivial⟩ ⟨fun ρz wz hE hA ⟨e9, _⟩ _ => core_val rfl rfl (o_move (e9.trans h9)),
 fun ρz wz hE hA ⟨e12, _⟩ _ => core_val rfl rfl (o_move (e12.trans h12)),
 fun ρz wz hE hA ⟨e10, _⟩ _ => core_val rfl rfl (o_move (e10.trans h10)),
 fun ρz wz hE hA ⟨e11, _⟩ _ => core_val rfl rfl (o_move (e11.trans h11)),
 fun ρz wz hE hA _ ⟨u0, u1, u2, u3, _⟩ => core_callR rfl (call_args4 u0 u1 u2 u3) cf_15 ((pensionref21_Order_ok  _ _ _ _ (Hf9.exn (hA rfl)).no (Hf10.exn (hA rfl)).no hz6).mono (fun e w1 ⟨v, he, hE1, q, hv, hO⟩ => ⟨v, he, hE1, q, hv, hO.base (Nat.le_trans hsz hE.size), fun b hb => Nat.le_trans hE.size (hO.lt hb).1⟩)),
 fun ρz wz hE hA _ ⟨⟨q4, ht4, hO4, hfr4⟩, _⟩ => core_copy rfl rfl (o_move rfl) ⟨q4, ht4, hO4, hfr4⟩,
 fun ρz wz hE hA _ ⟨⟨q5, ht5, hO5, hfr5⟩, _⟩ => core_copy rfl rfl (o_extract ht5 (by kernel_rfl)) ⟨hO5, hfr5⟩,
 fun ρz wz hE hA _ ⟨⟨q5, ht5, hO5, hfr5⟩, _⟩ => core_val rfl rfl (o_extract ht5 (by kernel_rfl)),
 fun ρz wz hE hA _ ⟨⟨hO6, hfr6⟩, _⟩ => core_copy rfl rfl (o_assign rfl) ⟨hO6, hfr6⟩,
 fun ρz wz hE hA _ ⟨u7, _⟩ => core_val rfl rfl (o_assign u7), trivial⟩ ?_
  intro ρ4 w4 hN hf hr
  obtain ⟨v15_, h15⟩ : ∃ v, ρ4 15 = v := ⟨_, rfl⟩
  have hq15 : (fun u wz => Own w0.heap.size 3 1 (fun x : Int => [Value.int .i64 x]) wz u z6.1 ∧ ∀ b, u.ownBlock = some b → w3.heap.size ≤ b) (ρ4 15) w4 := hf 8 rfl
  rw [h15] at hq15
  obtain ⟨hq15, hfr15⟩ := hq15
  have h16 : ρ4 16 = .int .i64 z6.2 := hf 9 rfl
  obtain ⟨h13, h14⟩ := k2 hr h13 h14 rfl
  have Hg_0 := Hg_0.exn hN
  have Hf13 := Hf13.exn hN
  have hW := hW.trans hN
  have Hf15 : RepSl intR noG w4 v15_ z6.1 := hq15.rep (fun _ _ h => h)
  obtain ⟨_, _, hs_Hf15, _, _⟩ := RepSl.shape Hf15
  have hsz := hW.size
  refine WP.seq ?_
  obtain ⟨z7, hz7, hF⟩ := obind hF
  obtain ⟨c, hc, hF⟩ := obind hF
  obtain ⟨z8, hz8, hc⟩ := andB hc
  have hc := andE hc
  refine WP.rb mixed [[], [0], [1], [1], [1, 2, 3], [1, 4], [5], [6], [6], [6, 7, 8], [6, 9], [10]] [[], [], [14], [16], [], [], [], [13], [15], [], [], []] [(42, .bool z7), (43, .bool z7), (44, gv (z7) (.int .i64 z5.2)), (45, gv (z7) (.int .i64 z6.2)), (46, gv (z7) (.bool (z5.2 == z6.2))), (47, .bool (z7 && (z5.2 == z6.2))), (48, .bool (z7 && (z5.2 == z6.2))), (49, gv ((z7 && (z5.2 == z6.2))) v13_), (50, gv ((z7 && (z5.2 == z6.2))) v15_), (51, gv ((z7 && (z5.2 == z6.2))) (.bool z8)), (52, .bool c), (8, .bool c)] (by kernel_rfl) ⟨fun ρz wz hE hA _ _ => core_call rfl call_args0 cf_16 (pensionlaw24_awake_ok (Hg_0.exn (hA rfl)).no   hz7),
 fun ρz wz hE hA _ ⟨u0, _⟩ => core_val rfl rfl (o_move u0),
 fun ρz wz hE hA ⟨e14, _⟩ ⟨u1, _⟩ => gIf rfl rfl (yT rfl u1) fun gc F hF => core_val rfl hF (o_move (e14.trans h14)),
 fun ρz wz hE hA ⟨e16, _⟩ ⟨u1, _⟩ => gIf rfl rfl (yT rfl u1) fun gc F hF => core_val rfl hF (o_move (e16.trans h16)),
 fun ρz wz hE hA _ ⟨u1, u2, u3, _⟩ => gIf rfl rfl (yT rfl u1) fun gc F hF => core_val rfl hF (o_eql (gt gc u2) (gt gc u3) rfl),
 fun ρz wz hE hA _ ⟨u1, u4, _⟩ => core_val rfl rfl (o_pick_and u1 u4 rfl),
 fun ρz wz hE hA _ ⟨u5, _⟩ => core_val rfl rfl (o_move u5),
 fun ρz wz hE hA ⟨e13, _⟩ ⟨u6, _⟩ => gIf rfl rfl (yT rfl u6) fun gc F hF => core_val rfl hF (o_move (e13.trans h13)),
 fun ρz wz hE hA ⟨e15, _⟩ ⟨u6, _⟩ => gIf rfl rfl (yT rfl u6) fun gc F hF => core_val rfl hF (o_move (e15.trans h15)),
 fun ρz wz hE hA _ ⟨u6, u7, u8, _⟩ => gIf rfl rfl (yT rfl u6) fun gc F hF => core_call hF (call_args2 (gt gc u7) (gt gc u8)) cf_17 (pensionplain_Ints_ok  _ _ (Hf13.exn (hA rfl)).no (Hf15.exn (hA rfl)).no (hz8 gc)),
 fun ρz wz hE hA _ ⟨u6, u9, _⟩ => core_valE rfl rfl (congrArg Value.bool hc) (o_pick_and u6 u9 rfl),
 fun ρz wz hE hA _ ⟨u10, _⟩ => core_val rfl rfl (o_assign u10), trivial⟩ ?_
  intro ρ5 w5 hN hf hr
  have h8 : ρ5 8 = .bool c := hf 11 rfl
  have Hg_0 := Hg_0.exn hN
  have hW := hW.trans hN
  have hsz := hW.size
  refine WP.ret ?_
  show retQ Tryd.prog 53 Tryd.f3 (fun v w1 => v = .bool r ∧ Ext noG w0 w1) .ret ρ5 w5
  obtain rfl := Option.some.inj hF
  exact res1 rfl (by decide) h8 ⟨rfl, hW⟩

set_option maxHeartbeats 4000000 in
theorem pensionlaw24_FamilyRejects_ok {w0 : World} (Hg_0 : GR [Value.int .i64 1, Value.int .i64 1] noG w0 0) (d_ : List Right) (i_ : Int) (p_ : List Rate) (p_2 : Int) {v_d_ : Value} (H_d_ : RepSl Right.R noG w0 v_d_ d_) {v_p_ : Value} (H_p_ : RepSl Rate.R noG w0 v_p_ p_) {r : Bool} (hF : pensionlaw24_FamilyRejects d_ i_ p_ p_2 = some r) :
    Calls Tryd.prog 4 #[v_d_, .int .i64 i_, v_p_, .int .i64 p_2] w0 fun e w1 => e = .returned (.bool r) ∧ Ext noG w0 w1 := by
  refine (Calls.start (P := Tryd.prog) (args := [v_d_, .int .i64 i_, v_p_, .int .i64 p_2]) (R := fun v w1 => v = .bool r ∧ Ext noG w0 w1) (n := 72) (w := w0) Tryd.func4 rfl rfl (Nat.le_of_ble_eq_true rfl) (fun ρ hargs => ?_)).mono (fun e w1 ⟨v, he, hv, hE⟩ => ⟨hv ▸ he, hE⟩)
  have h0 := hargs 0 _ rfl
  have h1 := hargs 1 _ rfl
  have h2 := hargs 2 _ rfl
  have h3 := hargs 3 _ rfl
  have hW := Ext.refl noG w0
  have hsz := Nat.le_refl w0.heap.size
  obtain ⟨_, _, hs_H_d_, _, _⟩ := RepSl.shape H_d_
  have H_d_ := H_d_.start
  obtain ⟨_, _, hs_H_p_, _, _⟩ := RepSl.shape H_p_
  have H_p_ := H_p_.start
  have Hg_0 := Hg_0.start
  rw [pensionlaw24_FamilyRejects] at hF
  refine WP.seq ?_
  refine WP.rb mixed [[]] [[]] [(8, .bool false)] (by kernel_rfl) ⟨fun ρz wz hE hA _ _ => core_val rfl rfl (o_assign rfl), trivial⟩ ?_
  intro ρ1 w1 hN hf hr
  obtain ⟨h0, h1, h2, h3⟩ := k4 hr h0 h1 h2 h3 rfl
  have H_d_ := H_d_.exn hN
  have H_p_ := H_p_.exn hN
  have Hg_0 := Hg_0.exn hN
  have hW := hW.trans hN
  have hsz := hW.size
  refine WP.seq ?_
  obtain ⟨z, hz, hF⟩ := obind hF
  obtain ⟨c, hc, hF⟩ := obind hF
  obtain ⟨z2, hz2, hc⟩ := orB hc
  have hc := orE hc
  obtain ⟨c2, hc2, hF⟩ := obind hF
  obtain ⟨z3, hz3, hc2⟩ := orB hc2
  have hc2 := orE hc2
  refine WP.rb mixed [[], [0], [1], [2], [3], [3, 4], [3, 5], [3, 6], [7], [8], [8, 9], [8, 10], [8, 11], [12]] [[0], [], [], [], [3], [], [], [], [], [2], [], [], [], []] [(14, v_d_), (15, .bool z), (16, .bool (!z)), (17, .bool (!z)), (18, gv (!(!z)) (.int .i64 p_2)), (19, gv (!(!z)) (.bool z2)), (20, gv (!(!z)) (.bool (!z2))), (21, .bool c), (22, .bool c), (23, gv (!c) v_p_), (24, gv (!c) (.int .i64 z3)), (25, gv (!c) (.bool (z3 != 0))), (26, .bool c2), (9, .bool c2)] (by kernel_rfl) ⟨fun ρz wz hE hA ⟨e0, _⟩ _ => core_val rfl rfl (o_move (e0.trans h0)),
 fun ρz wz hE hA _ ⟨u0, _⟩ => core_call rfl (call_args1 u0) cf_18 (pensionref21_ValidRights_ok  _ (H_d_.exn (hA rfl)).no hz),
 fun ρz wz hE hA _ ⟨u1, _⟩ => core_val rfl rfl (o_not u1 rfl),
 fun ρz wz hE hA _ ⟨u2, _⟩ => core_val rfl rfl (o_move u2),
 fun ρz wz hE hA ⟨e3, _⟩ ⟨u3, _⟩ => gIf rfl rfl (yF rfl u3) fun gc F hF => core_val rfl hF (o_move (e3.trans h3)),
 fun ρz wz hE hA _ ⟨u3, u4, _⟩ => gIf rfl rfl (yF rfl u3) fun gc F hF => core_call hF (call_args1 (gt gc u4)) cf_19 (pensionref1_ValidMonth_ok  _  (hz2 gc)),
 fun ρz wz hE hA _ ⟨u3, u5, _⟩ => gIf rfl rfl (yF rfl u3) fun gc F hF => core_val rfl hF (o_not (gt gc u5) rfl),
 fun ρz wz hE hA _ ⟨u3, u6, _⟩ => core_valE rfl rfl (congrArg Value.bool hc) (o_pick_or u3 rfl u6),
 fun ρz wz hE hA _ ⟨u7, _⟩ => core_val rfl rfl (o_move u7),
 fun ρz wz hE hA ⟨e2, _⟩ ⟨u8, _⟩ => gIf rfl rfl (yF rfl u8) fun gc F hF => core_val rfl hF (o_move (e2.trans h2)),
 fun ρz wz hE hA _ ⟨u8, u9, _⟩ => gIf rfl rfl (yF rfl u8) fun gc F hF => core_call hF (call_args1 (gt gc u9)) cf_20 (pensionref1_CheckRates_ok  _ (H_p_.exn (hA rfl)).no (hz3 gc)),
 fun ρz wz hE hA _ ⟨u8, u10, _⟩ => gIf rfl rfl (yF rfl u8) fun gc F hF => core_val rfl hF (o_neq (gt gc u10) rfl rfl),
 fun ρz wz hE hA _ ⟨u8, u11, _⟩ => core_valE rfl rfl (congrArg Value.bool hc2) (o_pick_or u8 rfl u11),
 fun ρz wz hE hA _ ⟨u12, _⟩ => core_val rfl rfl (o_assign u12), trivial⟩ ?_
  intro ρ2 w2 hN hf hr
  have h9 : ρ2 9 = .bool c2 := hf 13 rfl
  obtain ⟨h0, h1, h2, h3⟩ := k4 hr h0 h1 h2 h3 rfl
  have H_d_ := H_d_.exn hN
  have H_p_ := H_p_.exn hN
  have Hg_0 := Hg_0.exn hN
  have hW := hW.trans hN
  have hsz := hW.size
  refine WP.seq ?_
  obtain ⟨z4, hz4, hF⟩ := obind hF
  refine WP.rg mixed [[], [], [], [], [0, 1, 2, 3], [4], [5], [5], [6], [7]] [[], [], [], [], [0, 1, 2, 3], [4], [5], [5], [6], [7]] [[0], [1], [2], [3], [], [], [], [], [], []] [val 28 (v_d_), val 29 (.int .i64 i_), val 30 (v_p_), val 31 (.int .i64 p_2), (32, fun u wz => ∃ q : Value, u = .tuple #[q, .int .i64 z4.2] ∧ Own w0.heap.size 3 1 (fun x : Int => [Value.int .i64 x]) wz q z4.1 ∧ ∀ b, q.ownBlock = some b → w2.heap.size ≤ b), (27, fun u wz => ∃ q : Value, u = .tuple #[q, .int .i64 z4.2] ∧ Own w0.heap.size 3 1 (fun x : Int => [Value.int .i64 x]) wz q z4.1 ∧ ∀ b, q.ownBlock = some b → w2.heap.size ≤ b), (33, fun u wz => Own w0.heap.size 3 1 (fun x : Int => [Value.int .i64 x]) wz u z4.1 ∧ ∀ b, u.ownBlock = some b → w2.heap.size ≤ b), val 34 (.int .i64 z4.2), (10, fun u wz => Own w0.heap.size 3 1 (fun x : Int => [Value.int .i64 x]) wz u z4.1 ∧ ∀ b, u.ownBlock = some b → w2.heap.size ≤ b), val 11 (.int .i64 z4.2)] (by kernel_rfl) ⟨sV, sV, sV, sV, fun _ _ _ hE ⟨q, ht, hO, hf⟩ => ⟨q, ht, hO.exn hE, hf⟩, fun _ _ _ hE ⟨q, ht, hO, hf⟩ => ⟨q, ht, hO.exn hE, hf⟩, fun _ _ _ hE ⟨hO, hf⟩ => ⟨hO.exn hE, hf⟩, sV, fun _ _ _ hE ⟨hO, hf⟩ => ⟨hO.exn hE, hf⟩, sV, trivial⟩ ⟨fun ρz wz hE hA ⟨e0, _⟩ _ => core_val rfl rfl (o_move (e0.trans h0)),
 fun ρz wz hE hA ⟨e1, _⟩ _ => core_val rfl rfl (o_move (e1.trans h1)),
 fun ρz wz hE hA ⟨e2, _⟩ _ => core_val rfl rfl (o_move (e2.trans h2)),
 fun ρz wz hE hA ⟨e3, _⟩ _ => core_val rfl rfl (o_move (e3.trans h3)),
 fun ρz wz hE hA _ ⟨u0, u1, u2, u3, _⟩ => core_callR rfl (call_args4 u0 u1 u2 u3) cf_14 ((family_Order_ok  _ _ _ _ (H_d_.exn (hA rfl)).no (H_p_.exn (hA rfl)).no hz4).mono (fun e w1 ⟨v, he, hE1, q, hv, hO⟩ => ⟨v, he, hE1, q, hv, hO.base (Nat.le_trans hsz hE.size), fun b hb => Nat.le_trans hE.size (hO.lt hb).1⟩)),
 fun ρz wz hE hA _ ⟨⟨q4, ht4, hO4, hfr4⟩, _⟩ => core_copy rfl rfl (o_move rfl) ⟨q4, ht4, hO4, hfr4⟩,
 fun ρz wz hE hA _ ⟨⟨q5, ht5, hO5, hfr5⟩, _⟩ => core_copy rfl rfl (o_extract ht5 (by kernel_rfl)) ⟨hO5, hfr5⟩,
 fun ρz wz hE hA _ ⟨⟨q5, ht5, hO5, hfr5⟩, _⟩ => core_val rfl rfl (o_extract ht5 (by kernel_rfl)),
 fun ρz wz hE hA _ ⟨⟨hO6, hfr6⟩, _⟩ => core_copy rfl rfl (o_assign rfl) ⟨hO6, hfr6⟩,
 fun ρz wz hE hA _ ⟨u7, _⟩ => core_val rfl rfl (o_assign u7), trivial⟩ ?_
  intro ρ3 w3 hN hf hr
  obtain ⟨v10_, h10⟩ : ∃ v, ρ3 10 = v := ⟨_, rfl⟩
  have hq10 : (fun u wz => Own w0.heap.size 3 1 (fun x : Int => [Value.int .i64 x]) wz u z4.1 ∧ ∀ b, u.ownBlock = some b → w2.heap.size ≤ b) (ρ3 10) w3 := hf 8 rfl
  rw [h10] at hq10
  obtain ⟨hq10, hfr10⟩ := hq10
  have h11 : ρ3 11 = .int .i64 z4.2 := hf 9 rfl
  obtain ⟨h0, h1, h2, h3, h9⟩ := k5 hr h0 h1 h2 h3 h9 rfl
  have H_d_ := H_d_.exn hN
  have H_p_ := H_p_.exn hN
  have Hg_0 := Hg_0.exn hN
  have hW := hW.trans hN
  have Hf10 : RepSl intR noG w3 v10_ z4.1 := hq10.rep (fun _ _ h => h)
  obtain ⟨_, _, hs_Hf10, _, _⟩ := RepSl.shape Hf10
  have hsz := hW.size
  refine WP.seq ?_
  obtain ⟨z5, hz5, hF⟩ := obind hF
  refine WP.rg mixed [[], [], [], [], [0, 1, 2, 3], [4], [5], [5], [6], [7]] [[], [], [], [], [0, 1, 2, 3], [4], [5], [5], [6], [7]] [[0], [1], [2], [3], [], [], [], [], [], []] [val 36 (v_d_), val 37 (.int .i64 i_), val 38 (v_p_), val 39 (.int .i64 p_2), (40, fun u wz => ∃ q : Value, u = .tuple #[q, .int .i64 z5.2] ∧ Own w0.heap.size 48 4 FamilyPay.cells wz q z5.1 ∧ ∀ b, q.ownBlock = some b → w3.heap.size ≤ b), (35, fun u wz => ∃ q : Value, u = .tuple #[q, .int .i64 z5.2] ∧ Own w0.heap.size 48 4 FamilyPay.cells wz q z5.1 ∧ ∀ b, q.ownBlock = some b → w3.heap.size ≤ b), (41, fun u wz => Own w0.heap.size 48 4 FamilyPay.cells wz u z5.1 ∧ ∀ b, u.ownBlock = some b → w3.heap.size ≤ b), val 42 (.int .i64 z5.2), (12, fun u wz => Own w0.heap.size 48 4 FamilyPay.cells wz u z5.1 ∧ ∀ b, u.ownBlock = some b → w3.heap.size ≤ b), val 13 (.int .i64 z5.2)] (by kernel_rfl) ⟨sV, sV, sV, sV, fun _ _ _ hE ⟨q, ht, hO, hf⟩ => ⟨q, ht, hO.exn hE, hf⟩, fun _ _ _ hE ⟨q, ht, hO, hf⟩ => ⟨q, ht, hO.exn hE, hf⟩, fun _ _ _ hE ⟨hO, hf⟩ => ⟨hO.exn hE, hf⟩, sV, fun _ _ _ hE ⟨hO, hf⟩ => ⟨hO.exn hE, hf⟩, sV, trivial⟩ ⟨fun ρz wz hE hA ⟨e0, _⟩ _ => core_val rfl rfl (o_move (e0.trans h0)),
 fun ρz wz hE hA ⟨e1, _⟩ _ => core_val rfl rfl (o_move (e1.trans h1)),
 fun ρz wz hE hA ⟨e2, _⟩ _ => core_val rfl rfl (o_move (e2.trans h2)),
 fun ρz wz hE hA ⟨e3, _⟩ _ => core_val rfl rfl (o_move (e3.trans h3)),
 fun ρz wz hE hA _ ⟨u0, u1, u2, u3, _⟩ => core_callR rfl (call_args4 u0 u1 u2 u3) cf_21 ((family_Payments_ok (Hg_0.exn (hA rfl)).no _ _ _ _ (H_d_.exn (hA rfl)).no (H_p_.exn (hA rfl)).no hz5).mono (fun e w1 ⟨v, he, hE1, q, hv, hO⟩ => ⟨v, he, hE1, q, hv, hO.base (Nat.le_trans hsz hE.size), fun b hb => Nat.le_trans hE.size (hO.lt hb).1⟩)),
 fun ρz wz hE hA _ ⟨⟨q4, ht4, hO4, hfr4⟩, _⟩ => core_copy rfl rfl (o_move rfl) ⟨q4, ht4, hO4, hfr4⟩,
 fun ρz wz hE hA _ ⟨⟨q5, ht5, hO5, hfr5⟩, _⟩ => core_copy rfl rfl (o_extract ht5 (by kernel_rfl)) ⟨hO5, hfr5⟩,
 fun ρz wz hE hA _ ⟨⟨q5, ht5, hO5, hfr5⟩, _⟩ => core_val rfl rfl (o_extract ht5 (by kernel_rfl)),
 fun ρz wz hE hA _ ⟨⟨hO6, hfr6⟩, _⟩ => core_copy rfl rfl (o_assign rfl) ⟨hO6, hfr6⟩,
 fun ρz wz hE hA _ ⟨u7, _⟩ => core_val rfl rfl (o_assign u7), trivial⟩ ?_
  intro ρ4 w4 hN hf hr
  obtain ⟨v12_, h12⟩ : ∃ v, ρ4 12 = v := ⟨_, rfl⟩
  have hq12 : (fun u wz => Own w0.heap.size 48 4 FamilyPay.cells wz u z5.1 ∧ ∀ b, u.ownBlock = some b → w3.heap.size ≤ b) (ρ4 12) w4 := hf 8 rfl
  rw [h12] at hq12
  obtain ⟨hq12, hfr12⟩ := hq12
  have h13 : ρ4 13 = .int .i64 z5.2 := hf 9 rfl
  obtain ⟨h9, h10, h11⟩ := k3 hr h9 h10 h11 rfl
  have Hg_0 := Hg_0.exn hN
  have Hf10 := Hf10.exn hN
  have hW := hW.trans hN
  have Hf12 : RepSl FamilyPay.R noG w4 v12_ z5.1 := hq12.rep (fun _ _ h => h)
  obtain ⟨_, _, hs_Hf12, _, _⟩ := RepSl.shape Hf12
  have hsz := hW.size
  refine WP.seq ?_
  refine WP.seq ?_
  refine WP.rb mixed [[]] [[9]] [(43, .bool c2)] (by kernel_rfl) ⟨fun ρz wz hE hA ⟨e9, _⟩ _ => core_val rfl rfl (o_move (e9.trans h9)), trivial⟩ ?_
  intro ρ5 w5 hN hf hr
  have h43 : ρ5 43 = .bool c2 := hf 0 rfl
  obtain ⟨h10, h11, h12, h13⟩ := k4 hr h10 h11 h12 h13 rfl
  have Hg_0 := Hg_0.exn hN
  have Hf10 := Hf10.exn hN
  have Hf12 := Hf12.exn hN
  have hW := hW.trans hN
  have hsz := hW.size
  refine WP.cond rfl h43 (fun hb => ?_) (fun hb => ?_)
  · have hF := (if_pos hb).symm.trans hF
    refine WP.seq ?_
    obtain ⟨z6, hz6, hF⟩ := obind hF
    refine WP.rb mixed [[], [0], [1], [1, 2], [1, 3], [4], [5], [5, 6], [5, 7], [8], [9], [9, 10], [9, 11], [9, 12], [13], [14], [14, 15], [14, 16], [14, 17], [18]] [[], [], [11], [], [], [], [13], [], [], [], [10], [], [], [], [], [12], [], [], [], []] [(44, .bool z6), (45, .bool z6), (46, gv (z6) (.int .i64 z4.2)), (47, gv (z6) (.bool (z4.2 == 1))), (48, .bool (z6 && (z4.2 == 1))), (49, .bool (z6 && (z4.2 == 1))), (50, gv ((z6 && (z4.2 == 1))) (.int .i64 z5.2)), (51, gv ((z6 && (z4.2 == 1))) (.bool (z5.2 == 1))), (52, .bool ((z6 && (z4.2 == 1)) && (z5.2 == 1))), (53, .bool ((z6 && (z4.2 == 1)) && (z5.2 == 1))), (54, gv (((z6 && (z4.2 == 1)) && (z5.2 == 1))) v10_), (55, gv (((z6 && (z4.2 == 1)) && (z5.2 == 1))) (.int .i64 (z4.1.length : Int))), (56, gv (((z6 && (z4.2 == 1)) && (z5.2 == 1))) (.bool ((z4.1.length : Int) == 0))), (57, .bool (((z6 && (z4.2 == 1)) && (z5.2 == 1)) && ((z4.1.length : Int) == 0))), (58, .bool (((z6 && (z4.2 == 1)) && (z5.2 == 1)) && ((z4.1.length : Int) == 0))), (59, gv ((((z6 && (z4.2 == 1)) && (z5.2 == 1)) && ((z4.1.length : Int) == 0))) v12_), (60, gv ((((z6 && (z4.2 == 1)) && (z5.2 == 1)) && ((z4.1.length : Int) == 0))) (.int .i64 (z5.1.length : Int))), (61, gv ((((z6 && (z4.2 == 1)) && (z5.2 == 1)) && ((z4.1.length : Int) == 0))) (.bool ((z5.1.length : Int) == 0))), (62, .bool ((((z6 && (z4.2 == 1)) && (z5.2 == 1)) && ((z4.1.length : Int) == 0)) && ((z5.1.length : Int) == 0))), (8, .bool ((((z6 && (z4.2 == 1)) && (z5.2 == 1)) && ((z4.1.length : Int) == 0)) && ((z5.1.length : Int) == 0)))] (by kernel_rfl) ⟨fun ρz wz hE hA _ _ => core_call rfl call_args0 cf_16 (pensionlaw24_awake_ok (Hg_0.exn (hA rfl)).no   hz6),
 fun ρz wz hE hA _ ⟨u0, _⟩ => core_val rfl rfl (o_move u0),
 fun ρz wz hE hA ⟨e11, _⟩ ⟨u1, _⟩ => gIf rfl rfl (yT rfl u1) fun gc F hF => core_val rfl hF (o_move (e11.trans h11)),
 fun ρz wz hE hA _ ⟨u1, u2, _⟩ => gIf rfl rfl (yT rfl u1) fun gc F hF => core_val rfl hF (o_eql (gt gc u2) rfl rfl),
 fun ρz wz hE hA _ ⟨u1, u3, _⟩ => core_val rfl rfl (o_pick_and u1 u3 rfl),
 fun ρz wz hE hA _ ⟨u4, _⟩ => core_val rfl rfl (o_move u4),
 fun ρz wz hE hA ⟨e13, _⟩ ⟨u5, _⟩ => gIf rfl rfl (yT rfl u5) fun gc F hF => core_val rfl hF (o_move (e13.trans h13)),
 fun ρz wz hE hA _ ⟨u5, u6, _⟩ => gIf rfl rfl (yT rfl u5) fun gc F hF => core_val rfl hF (o_eql (gt gc u6) rfl rfl),
 fun ρz wz hE hA _ ⟨u5, u7, _⟩ => core_val rfl rfl (o_pick_and u5 u7 rfl),
 fun ρz wz hE hA _ ⟨u8, _⟩ => core_val rfl rfl (o_move u8),
 fun ρz wz hE hA ⟨e10, _⟩ ⟨u9, _⟩ => gIf rfl rfl (yT rfl u9) fun gc F hF => core_val rfl hF (o_move (e10.trans h10)),
 fun ρz wz hE hA _ ⟨u9, u10, _⟩ => gIf rfl rfl (yT rfl u9) fun gc F hF => core_val rfl hF (o_len ((gt gc u10).trans hs_Hf10) len_23),
 fun ρz wz hE hA _ ⟨u9, u11, _⟩ => gIf rfl rfl (yT rfl u9) fun gc F hF => core_val rfl hF (o_eql (gt gc u11) rfl rfl),
 fun ρz wz hE hA _ ⟨u9, u12, _⟩ => core_val rfl rfl (o_pick_and u9 u12 rfl),
 fun ρz wz hE hA _ ⟨u13, _⟩ => core_val rfl rfl (o_move u13),
 fun ρz wz hE hA ⟨e12, _⟩ ⟨u14, _⟩ => gIf rfl rfl (yT rfl u14) fun gc F hF => core_val rfl hF (o_move (e12.trans h12)),
 fun ρz wz hE hA _ ⟨u14, u15, _⟩ => gIf rfl rfl (yT rfl u14) fun gc F hF => core_val rfl hF (o_len ((gt gc u15).trans hs_Hf12) len_38),
 fun ρz wz hE hA _ ⟨u14, u16, _⟩ => gIf rfl rfl (yT rfl u14) fun gc F hF => core_val rfl hF (o_eql (gt gc u16) rfl rfl),
 fun ρz wz hE hA _ ⟨u14, u17, _⟩ => core_val rfl rfl (o_pick_and u14 u17 rfl),
 fun ρz wz hE hA _ ⟨u18, _⟩ => core_val rfl rfl (o_assign u18), trivial⟩ ?_
    intro ρ6 w6 hN hf hr
    have h8 : ρ6 8 = .bool ((((z6 && (z4.2 == 1)) && (z5.2 == 1)) && ((z4.1.length : Int) == 0)) && ((z5.1.length : Int) == 0)) := hf 19 rfl
    have Hg_0 := Hg_0.exn hN
    have hW := hW.trans hN
    have hsz := hW.size
    refine WP.ret ?_
    show retQ Tryd.prog 72 Tryd.f4 (fun v w1 => v = .bool r ∧ Ext noG w0 w1) .ret ρ6 w6
    obtain rfl := Option.some.inj hF
    exact res1 rfl (by decide) h8 ⟨rfl, hW⟩
  have hF := (if_neg (Bool.eq_false_iff.1 hb)).symm.trans hF
  refine WP.skip ?_
  refine WP.seq ?_
  obtain ⟨z7, hz7, hF⟩ := obind hF
  refine WP.rb mixed [[], [0], [1], [1, 2], [1, 3], [4], [5], [5, 6], [5, 7], [8]] [[], [], [11], [], [], [], [13], [], [], []] [(63, .bool z7), (64, .bool z7), (65, gv (z7) (.int .i64 z4.2)), (66, gv (z7) (.bool (z4.2 == 0))), (67, .bool (z7 && (z4.2 == 0))), (68, .bool (z7 && (z4.2 == 0))), (69, gv ((z7 && (z4.2 == 0))) (.int .i64 z5.2)), (70, gv ((z7 && (z4.2 == 0))) (.bool (z5.2 == 0))), (71, .bool ((z7 && (z4.2 == 0)) && (z5.2 == 0))), (8, .bool ((z7 && (z4.2 == 0)) && (z5.2 == 0)))] (by kernel_rfl) ⟨fun ρz wz hE hA _ _ => core_call rfl call_args0 cf_16 (pensionlaw24_awake_ok (Hg_0.exn (hA rfl)).no   hz7),
 fun ρz wz hE hA _ ⟨u0, _⟩ => core_val rfl rfl (o_move u0),
 fun ρz wz hE hA ⟨e11, _⟩ ⟨u1, _⟩ => gIf rfl rfl (yT rfl u1) fun gc F hF => core_val rfl hF (o_move (e11.trans h11)),
 fun ρz wz hE hA _ ⟨u1, u2, _⟩ => gIf rfl rfl (yT rfl u1) fun gc F hF => core_val rfl hF (o_eql (gt gc u2) rfl rfl),
 fun ρz wz hE hA _ ⟨u1, u3, _⟩ => core_val rfl rfl (o_pick_and u1 u3 rfl),
 fun ρz wz hE hA _ ⟨u4, _⟩ => core_val rfl rfl (o_move u4),
 fun ρz wz hE hA ⟨e13, _⟩ ⟨u5, _⟩ => gIf rfl rfl (yT rfl u5) fun gc F hF => core_val rfl hF (o_move (e13.trans h13)),
 fun ρz wz hE hA _ ⟨u5, u6, _⟩ => gIf rfl rfl (yT rfl u5) fun gc F hF => core_val rfl hF (o_eql (gt gc u6) rfl rfl),
 fun ρz wz hE hA _ ⟨u5, u7, _⟩ => core_val rfl rfl (o_pick_and u5 u7 rfl),
 fun ρz wz hE hA _ ⟨u8, _⟩ => core_val rfl rfl (o_assign u8), trivial⟩ ?_
  intro ρ7 w7 hN hf hr
  have h8 : ρ7 8 = .bool ((z7 && (z4.2 == 0)) && (z5.2 == 0)) := hf 9 rfl
  have Hg_0 := Hg_0.exn hN
  have hW := hW.trans hN
  have hsz := hW.size
  refine WP.ret ?_
  show retQ Tryd.prog 72 Tryd.f4 (fun v w1 => v = .bool r ∧ Ext noG w0 w1) .ret ρ7 w7
  obtain rfl := Option.some.inj hF
  exact res1 rfl (by decide) h8 ⟨rfl, hW⟩
end Go.PL
