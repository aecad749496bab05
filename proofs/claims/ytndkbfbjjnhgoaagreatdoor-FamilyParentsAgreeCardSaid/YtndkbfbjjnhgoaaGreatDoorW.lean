/- The translated code computes the Lean functions (printed by a program). -/
import Derived.Test.YtndkbfbjjnhgoaaGreatDoorW3
set_option linter.unusedVariables false
set_option linter.unusedSimpArgs false
set_option maxRecDepth 10000
namespace Go.PL
open Go Go.Proofs

set_option maxHeartbeats 4000000 in
theorem family_Order_1_ok {w0 : World} (r_ : Right) (c_ : Int) {bc1_ : Nat} (Hb_bc1_ : Mb w0 bc1_ 3 [Value.int .i64 c_]) {r : Int} (hF : family_Order_1 r_ c_ = some r) :
    Calls Tryz.prog 45 #[Right.val r_, .pointer (some ⟨bc1_, 0, none⟩)] w0 fun e w1 => e = .returned (.int .i64 r) ∧ Ext noG w0 w1 := by
  refine (Calls.start (P := Tryz.prog) (args := [Right.val r_, .pointer (some ⟨bc1_, 0, none⟩)]) (R := fun v w1 => v = .int .i64 r ∧ Ext noG w0 w1) (n := 8) (w := w0) Tryz.func45 rfl rfl (Nat.le_of_ble_eq_true rfl) (fun ρ hargs => ?_)).mono (fun e w1 ⟨v, he, hv, hE⟩ => ⟨hv ▸ he, hE⟩)
  have h0 := hargs 0 _ rfl
  have h1 := hargs 1 _ rfl
  have hW := Ext.refl noG w0
  rw [family_Order_1] at hF
  refine WP.seq (WP.rg mixed [[], []] [[], []] [[0], []] [(2, fun u wz => ∃ b, u = .pointer (some ⟨b, 0, none⟩) ∧ w0.heap.size ≤ b ∧ Mb wz b 46 (Right.cells r_)), val 3 (.int .i64 0)] (by kernel_rfl) ⟨fun _ _ _ hE ⟨b, hb, hs, hM⟩ => ⟨b, hb, hs, hM.exn hE⟩, sV, trivial⟩ ⟨fun ρz wz hE hA ⟨e0, _⟩ _ => core_new rfl rfl hE (o_box (e0.trans h0) (bx_46 _ _)),
 aC rfl rfl (fun _ => rfl), trivial⟩ ?_)
  intro ρ1 w1 hN hf hr
  obtain ⟨b2_, h2, hge_b2_, Hb_b2_⟩ := hf 0 rfl
  have h1 := (hr 1 rfl).trans h1
  have Hb_bc1_n := Hb_bc1_.exn hN
  have hB_b2_ : w0.heap.size ≤ b2_ := Nat.le_trans hW.size hge_b2_
  have hW := hW.trans hN
  have Hb_bc1_ := Hb_bc1_n
  refine WP.seq (WP.seq (WP.rb mixed [[], [0], [], [1, 2]] [[2], [], [1], []] [(4, .pointer (some ((⟨b2_, 0, none⟩ : Addr).add 0))), (5, .int .i64 r_.State), (6, .int .i64 c_), (7, .bool (r_.State == c_))] (by kernel_rfl) ⟨fun ρz wz hE hA ⟨e2, _⟩ _ => core_val rfl rfl (o_fieldAddr (e2.trans h2) (fa_46_0 _ _)),
 fun ρz wz hE hA _ ⟨u0, _⟩ => core_val rfl rfl (o_load u0 (run_load1 (lr_3 _ _) (CA.sub ((Hb_b2_.exn (hA rfl)).ca) 0 1))),
 fun ρz wz hE hA ⟨e1, _⟩ _ => core_val rfl rfl (o_load (e1.trans h1) (run_load1 (lr_3 _ _) ((Hb_bc1_.exn (hA rfl)).ca))),
 fun ρz wz hE hA _ ⟨u1, u2, _⟩ => core_val rfl rfl (o_eql u1 u2 rfl), trivial⟩ ?_))
  intro ρ2 w2 hN hf hr
  have h7 := hv hf 3 rfl rfl
  have hW := hW.trans hN
  refine WP.cond rfl h7 (fun hb => ?_) (fun hb => ?_)
  · have hF := (if_pos hb).symm.trans hF
    refine WP.seq (WP.rb mixed [[]] [[]] [(3, .int .i64 0)] (by kernel_rfl) ⟨aC rfl rfl (fun _ => rfl), trivial⟩ ?_)
    intro ρ3 w3 hN hf hr
    have h3 := hv hf 0 rfl rfl
    have hW := hW.trans hN
    refine WP.ret ?_
    show retQ Tryz.prog 8 Tryz.f45 (fun v w1 => v = .int .i64 r ∧ Ext noG w0 w1) .ret ρ3 w3
    obtain rfl := Option.some.inj hF
    exact res1 rfl (by decide) h3 ⟨rfl, hW⟩
  have hF := (if_neg (Bool.eq_false_iff.1 hb)).symm.trans hF
  refine WP.skip (WP.seq (WP.rb mixed [[]] [[]] [(3, .int .i64 1)] (by kernel_rfl) ⟨aC rfl rfl (fun _ => rfl), trivial⟩ ?_))
  intro ρ4 w4 hN hf hr
  have h3 := hv hf 0 rfl rfl
  have hW := hW.trans hN
  refine WP.ret ?_
  show retQ Tryz.prog 8 Tryz.f45 (fun v w1 => v = .int .i64 r ∧ Ext noG w0 w1) .ret ρ4 w4
  obtain rfl := Option.some.inj hF
  exact res1 rfl (by decide) h3 ⟨rfl, hW⟩

set_option maxHeartbeats 4000000 in
theorem money_Value_ok {w0 : World} (t_ : List Rate) (currency_ : Int) (month_ : Int) {v_t_ : Value} (H_t_ : RepSl Rate.R noG w0 v_t_ t_) {r : Fraction × Bool} (hF : money_Value t_ currency_ month_ = some r) :
    Calls Tryz.prog 80 #[v_t_, .int .i64 currency_, .int .i64 month_] w0 fun e w1 => e = .returned (.tuple #[Fraction.val r.1, .bool r.2]) ∧ Ext noG w0 w1 := by
  refine (Calls.start (P := Tryz.prog) (args := [v_t_, .int .i64 currency_, .int .i64 month_]) (R := fun v w1 => v = .tuple #[Fraction.val r.1, .bool r.2] ∧ Ext noG w0 w1) (n := 52) (w := w0) Tryz.func80 rfl rfl (Nat.le_of_ble_eq_true rfl) (fun ρ hargs => ?_)).mono (fun e w1 ⟨v, he, hv, hE⟩ => ⟨hv ▸ he, hE⟩)
  have h0 := hargs 0 _ rfl
  have h1 := hargs 1 _ rfl
  have h2 := hargs 2 _ rfl
  have hW := Ext.refl noG w0
  obtain ⟨_, _, hs_H_t_, _, _⟩ := RepSl.shape H_t_
  have H_t_ := H_t_.start
  rw [money_Value] at hF
  refine WP.seq (WP.rg mixed [[], []] [[], []] [[], []] [(6, fun u wz => ∃ b, u = .pointer (some ⟨b, 0, none⟩) ∧ w0.heap.size ≤ b ∧ Mb wz b 95 (Fraction.cells (⟨0, 0⟩ : Fraction))), val 7 (.bool false)] (by kernel_rfl) ⟨fun _ _ _ hE ⟨b, hb, hs, hM⟩ => ⟨b, hb, hs, hM.exn hE⟩, sV, trivial⟩ ⟨fun ρz wz hE hA _ _ => core_new rfl rfl hE (o_alloc (al_95 _)),
 aC rfl rfl (fun _ => rfl), trivial⟩ ?_)
  intro ρ1 w1 hN hf hr
  obtain ⟨b6_, h6, hge_b6_, Hb_b6_⟩ := hf 0 rfl
  obtain ⟨h0, h1, h2⟩ := k3 hr h0 h1 h2 rfl
  have H_t_ := H_t_.exn hN
  have hB_b6_ : w0.heap.size ≤ b6_ := Nat.le_trans hW.size hge_b6_
  have hW := hW.trans hN
  refine WP.seq (WP.rb mixed [[]] [[]] [(8, .int .i64 (-1))] (by kernel_rfl) ⟨aC rfl rfl (fun _ => rfl), trivial⟩ ?_)
  intro ρ2 w2 hN hf hr
  have h8 := hv hf 0 rfl rfl
  obtain ⟨h0, h1, h2, h6⟩ := k4 hr h0 h1 h2 h6 rfl
  have Hb_b6_n := Hb_b6_.exn hN
  have H_t_ := H_t_.exn hN
  have hW := hW.trans hN
  have Hb_b6_ := Hb_b6_n
  refine WP.seq (WP.seq (WP.rb mixed [[], [0], []] [[0], [], []] [(11, v_t_), (12, .int .i64 (t_.length : Int)), (13, .int .i64 0)] (by kernel_rfl) ⟨mE rfl rfl h0,
 fun ρz wz hE hA _ ⟨u0, _⟩ => core_val rfl rfl (o_len (u0.trans hs_H_t_) len_68),
 mC rfl rfl (fun _ => rfl), trivial⟩ ?_))
  intro ρ3 w3 hN hf hr
  have h11 := hv hf 0 rfl rfl
  have h12 := hv hf 1 rfl rfl
  have h13 := hv hf 2 rfl rfl
  obtain ⟨h0, h1, h2, h6, h8⟩ := k5 hr h0 h1 h2 h6 h8 rfl
  have Hb_b6_n := Hb_b6_.exn hN
  have H_t_ := H_t_.exn hN
  have hW := hW.trans hN
  have Hb_b6_ := Hb_b6_n
  refine WP.block (WP.loop (fun k_ ρ w => ∃ best_ : Int, ∃ x : Int, ρ 0 = v_t_ ∧ ρ 1 = .int .i64 currency_ ∧ ρ 2 = .int .i64 month_ ∧ ρ 6 = .pointer (some ⟨b6_, 0, none⟩) ∧ ρ 8 = .int .i64 best_ ∧ ρ 11 = v_t_ ∧ ρ 12 = .int .i64 (t_.length : Int) ∧ ρ 13 = .int .i64 x ∧ Mb w b6_ 95 (Fraction.cells (⟨0, 0⟩ : Fraction)) ∧ RepSl Rate.R (gfr noG w0) w v_t_ t_ ∧ Ext noG w0 w ∧ loopC k_ (money_Value_l t_) (best_, x) = some r) FU ⟨(-1), 0, h0, h1, h2, h6, h8, h11, h12, h13, Hb_b6_, H_t_, hW, hF⟩ (fun _ _ h => by obtain ⟨_, _, _, _, _, _, _, _, _, _, _, _, _, h⟩ := h; cases h) ?_)
  rintro k_ ρ4 w4 ⟨best_, x, h0, h1, h2, h6, h8, h11, h12, h13, Hb_b6_, H_t_, hW, hF⟩
  have hF : money_Value_l t_ (loopC k_ (money_Value_l t_)) (best_, x) = some r := (loopC_succ k_ (money_Value_l t_) (best_, x)).symm.trans hF
  generalize hrec_ : loopC k_ (money_Value_l t_) = rec_ at hF
  rw [money_Value_l] at hF
  refine WP.seq (WP.rb mixed [[]] [[13, 12]] [(14, .bool (decide (x < (t_.length : Int))))] (by kernel_rfl) ⟨fun ρz wz hE hA ⟨e13, e12, _⟩ _ => core_val rfl rfl (o_lss (e13.trans h13) (e12.trans h12) rfl), trivial⟩ ?_)
  intro ρ5 w5 hN hf hr
  have h14 := hv hf 0 rfl rfl
  obtain ⟨h0, h1, h2, h6, h8, h11⟩ := k6 hr h0 h1 h2 h6 h8 h11 rfl
  obtain ⟨h12, h13⟩ := k2 hr h12 h13 rfl
  have Hb_b6_n := Hb_b6_.exn hN
  have H_t_ := H_t_.exn hN
  have hW := hW.trans hN
  have Hb_b6_ := Hb_b6_n
  refine WP.seq (WP.cond rfl h14 (fun hb => ?_) (fun hb => ?_))
  · exact nomatch (if_pos hb).symm.trans hF
  have hF := (if_neg (Bool.eq_false_iff.1 hb)).symm.trans hF
  refine WP.exit (thenQ_exit (thenQ_exit (blockQ_hit (WP.seq (WP.seq (WP.rb mixed [[], [0]] [[8], []] [(44, .int .i64 best_), (45, .bool (decide (best_ < 0)))] (by kernel_rfl) ⟨mE rfl rfl h8,
 fun ρz wz hE hA _ ⟨u0, _⟩ => core_val rfl rfl (o_lss u0 rfl rfl), trivial⟩ ?_))))))
  intro ρ11 w11 hN hf hr
  have h45 := hv hf 1 rfl rfl
  obtain ⟨h0, h6, h8⟩ := k3 hr h0 h6 h8 rfl
  have Hb_b6_n := Hb_b6_.exn hN
  have H_t_ := H_t_.exn hN
  have hW := hW.trans hN
  have Hb_b6_ := Hb_b6_n
  refine WP.cond rfl h45 (fun hb => ?_) (fun hb => ?_)
  · have hF := (if_pos hb).symm.trans hF
    refine WP.seq (WP.region mixed [[], [0], [1]] [[], [0], []] [[], [6], []] [1] [] [val 46 (Fraction.val (⟨0, 0⟩ : Fraction)), (6, fun _ wz => Mb wz b6_ 95 (Fraction.cells (⟨0, 0⟩ : Fraction))), val 7 (.bool false)] (fun x => x = b6_) (by kernel_rfl) ⟨sV, fun _ _ _ hE hM => hM.exn hE, sV, trivial⟩ ⟨fun ρz wz hE hA _ _ => core_val rfl rfl (o_build (by simp) (bd_95_  _)),
 fun ρz wz hE hA ⟨e6, _⟩ ⟨u0, _⟩ => core_storeBox rfl rfl (fun _ h => h) (e6.trans h6) u0 (Hb_b6_.exn (hA rfl)) (fun a w => st_95 _ a w) rfl (one_95 _),
 aC rfl rfl (fun _ => rfl), trivial⟩ ?_)
    intro ρ12 w12 hE hN hf hr
    have h7 : ρ12 7 = .bool false := hf 2 rfl
    have h6 := (hr 6 rfl).trans h6
    have Hb_b6_n := hf 1 rfl
    have hW := Ext.own hW hE (fun x h => h.symm ▸ hB_b6_)
    have Hb_b6_ := Hb_b6_n
    refine WP.ret ?_
    show retQ Tryz.prog 52 Tryz.f80 (fun v w1 => v = .tuple #[Fraction.val r.1, .bool r.2] ∧ Ext noG w0 w1) .ret ρ12 w12
    obtain rfl := Option.some.inj hF
    exact resC1 rfl (by decide) (by decide) h6 (run_loadN (cs := (Fraction.cells (⟨0, 0⟩ : Fraction))) (lr_95 _ _) rfl Hb_b6_.ca) h7 ⟨rfl, hW⟩
  exact nomatch (if_neg (Bool.eq_false_iff.1 hb)).symm.trans hF

set_option maxHeartbeats 4000000 in
theorem family_worth_ok {w0 : World} (r_ : Right) (t_ : List Rate) (month_ : Int) {v_t_ : Value} (H_t_ : RepSl Rate.R noG w0 v_t_ t_) {r : family_value} (hF : family_worth r_ t_ month_ = some r) :
    Calls Tryz.prog 51 #[Right.val r_, v_t_, .int .i64 month_] w0 fun e w1 => e = .returned (family_value.val r) ∧ Ext noG w0 w1 := by
  refine (Calls.start (P := Tryz.prog) (args := [Right.val r_, v_t_, .int .i64 month_]) (R := fun v w1 => v = family_value.val r ∧ Ext noG w0 w1) (n := 31) (w := w0) Tryz.func51 rfl rfl (Nat.le_of_ble_eq_true rfl) (fun ρ hargs => ?_)).mono (fun e w1 ⟨v, he, hv, hE⟩ => ⟨hv ▸ he, hE⟩)
  have h0 := hargs 0 _ rfl
  have h1 := hargs 1 _ rfl
  have h2 := hargs 2 _ rfl
  have hW := Ext.refl noG w0
  obtain ⟨_, _, hs_H_t_, _, _⟩ := RepSl.shape H_t_
  have H_t_ := H_t_.start
  rw [family_worth] at hF
  refine WP.seq (WP.regionN mixed ⟨[[], []], [[], []], [[0], []], [], [], [(0, 3), (1, 6)], []⟩ [(3, fun u wz => ∃ b, u = .pointer (some ⟨b, 0, none⟩) ∧ w0.heap.size ≤ b ∧ Mb wz b 46 (Right.cells r_)), (6, fun u wz => ∃ b, u = .pointer (some ⟨b, 0, none⟩) ∧ w0.heap.size ≤ b ∧ Mb wz b 77 (family_value.cells (⟨0, 0⟩ : family_value)))] (fun b => w0.heap.size ≤ b) (by kernel_rfl) (.inr (fun _ h => h)) ⟨TStable.box, TStable.box, trivial⟩ ⟨fun ρz wz hE hA ⟨e0, _⟩ _ => core_newN rfl rfl rfl hE (o_box (e0.trans h0) (bx_46 _ _)),
 fun ρz wz hE hA _ _ => core_newN rfl rfl rfl hE (o_alloc (al_77 _)), trivial⟩ ?_)
  intro ρ1 w1 hE hN hf hr hdist
  have hN := hE.fresh
  obtain ⟨b3_, h3, hge_b3_, Hb_b3_⟩ := hf 0 rfl
  obtain ⟨b6_, h6, hge_b6_, Hb_b6_⟩ := hf 1 rfl
  obtain ⟨h1, h2⟩ := k2 hr h1 h2 rfl
  have H_t_ := H_t_.exn hN
  have hB_b3_ : w0.heap.size ≤ b3_ := Nat.le_trans hW.size hge_b3_
  have hB_b6_ : w0.heap.size ≤ b6_ := Nat.le_trans hW.size hge_b6_
  have hne_b3__b6_ : b3_ ≠ b6_ := fun h => hdist (0, 3) (by simp) (1, 6) (by simp) (by decide) b3_ (by rw [h3]; rfl) (by rw [h6, h]; rfl)
  have hW := hW.trans hN
  refine WP.seq ?_
  obtain ⟨z, hz, hF⟩ := obind hF
  refine WP.region mixed [[], [], [1], [], [0, 2, 3], [4], [5], [5], [], [6, 8], [7, 9]] [[], [], [1], [], [0, 2, 3], [4], [5], [5], [], [6, 8], [7]] [[1], [3], [], [2], [], [], [], [], [], [], []] [9] [(8, 9)] [val 10 (v_t_), val 11 (.pointer (some ((⟨b3_, 0, none⟩ : Addr).add 2))), val 12 (.int .i64 r_.Currency), val 13 (.int .i64 month_), val 14 (.tuple #[Fraction.val z.1, .bool z.2]), val 9 (.tuple #[Fraction.val z.1, .bool z.2]), val 15 (Fraction.val z.1), val 16 (.bool z.2), (7, fun u wz => ∃ b, u = .pointer (some ⟨b, 0, none⟩) ∧ w1.heap.size ≤ b ∧ Mb wz b 95 (Fraction.cells (⟨0, 0⟩ : Fraction))), (7, fun u wz => ∃ b, u = .pointer (some ⟨b, 0, none⟩) ∧ w1.heap.size ≤ b ∧ Mb wz b 95 (Fraction.cells z.1)), val 8 (.bool z.2)] (fun b => w1.heap.size ≤ b) (by kernel_rfl) ⟨sV, sV, sV, sV, sV, sV, sV, sV, fun _ _ _ hE ⟨b, hb, hs, hM⟩ => ⟨b, hb, hs, hM.exn hE⟩, fun _ _ _ hE ⟨b, hb, hs, hM⟩ => ⟨b, hb, hs, hM.exn hE⟩, sV, trivial⟩ ⟨mE rfl rfl h1,
 fun ρz wz hE hA ⟨e3, _⟩ _ => core_val rfl rfl (o_fieldAddr (e3.trans h3) (fa_46_2 _ _)),
 fun ρz wz hE hA _ ⟨u1, _⟩ => core_val rfl rfl (o_load u1 (run_load1 (lr_3 _ _) (CA.sub ((Hb_b3_.exn hE.fresh).ca) 2 1))),
 mE rfl rfl h2,
 fun ρz wz hE hA _ ⟨u0, u2, u3, _⟩ => core_call rfl (call_args3 u0 u2 u3) cf_80 (money_Value_ok  _ _ _ (H_t_.exn hE.fresh).no hz),
 mU rfl rfl rfl,
 fun ρz wz hE hA _ ⟨u5, _⟩ => core_val rfl rfl (o_extract u5 (by kernel_rfl)),
 fun ρz wz hE hA _ ⟨u5, _⟩ => core_val rfl rfl (o_extract u5 (by kernel_rfl)),
 fun ρz wz hE hA _ _ => core_new rfl rfl hE (o_alloc (al_95 _)),
 fun ρz wz hE hA _ ⟨u6, u8, _⟩ => core_storeNew rfl rfl rfl rfl u6 u8 (fun a w => st_95 _ a w) rfl (one_95 _),
 aU rfl rfl rfl, trivial⟩ ?_
  intro ρ2 w2 hE hN hf hr
  have hN := hE.fresh
  obtain ⟨b7_, h7, hge_b7_, Hb_b7_⟩ := hf 9 rfl
  have h8 : ρ2 8 = .bool z.2 := hf 10 rfl
  obtain ⟨h3, h6⟩ := k2 hr h3 h6 rfl
  have Hb_b3_n := Hb_b3_.exn hN
  have Hb_b6_n := Hb_b6_.exn hN
  have hB_b7_ : w0.heap.size ≤ b7_ := Nat.le_trans hW.size hge_b7_
  have hne_b3__b7_ : b3_ ≠ b7_ := Nat.ne_of_lt (Nat.lt_of_lt_of_le Hb_b3_.lt hge_b7_)
  have hne_b6__b7_ : b6_ ≠ b7_ := Nat.ne_of_lt (Nat.lt_of_lt_of_le Hb_b6_.lt hge_b7_)
  have hW := hW.trans hN
  have Hb_b3_ := Hb_b3_n
  have Hb_b6_ := Hb_b6_n
  refine WP.seq (WP.seq (WP.rb mixed [[], [0]] [[8], []] [(17, .bool z.2), (18, .bool (!z.2))] (by kernel_rfl) ⟨mE rfl rfl h8,
 fun ρz wz hE hA _ ⟨u0, _⟩ => core_val rfl rfl (o_not u0 rfl), trivial⟩ ?_))
  intro ρ3 w3 hN hf hr
  have h18 := hv hf 1 rfl rfl
  obtain ⟨h3, h6, h7⟩ := k3 hr h3 h6 h7 rfl
  have Hb_b3_n := Hb_b3_.exn hN
  have Hb_b6_n := Hb_b6_.exn hN
  have Hb_b7_n := Hb_b7_.exn hN
  have hW := hW.trans hN
  have Hb_b3_ := Hb_b3_n
  have Hb_b6_ := Hb_b6_n
  have Hb_b7_ := Hb_b7_n
  refine WP.cond rfl h18 (fun hb => ?_) (fun hb => ?_)
  · have hF := (if_pos hb).symm.trans hF
    refine WP.seq (WP.region mixed [[], [0]] [[], [0]] [[], [6]] [1] [] [val 19 (family_value.val (⟨0, 1⟩ : family_value)), (6, fun _ wz => Mb wz b6_ 77 (family_value.cells (⟨0, 1⟩ : family_value)))] (fun x => x = b6_) (by kernel_rfl) ⟨sV, fun _ _ _ hE hM => hM.exn hE, trivial⟩ ⟨fun ρz wz hE hA _ _ => core_val rfl rfl (o_build (build_parts2 rfl rfl) (bd_77_0_1 _ _ _)),
 fun ρz wz hE hA ⟨e6, _⟩ ⟨u0, _⟩ => core_storeBox rfl rfl (fun _ h => h) (e6.trans h6) u0 (Hb_b6_.exn (hA rfl)) (fun a w => st_77 _ a w) rfl (one_77 _), trivial⟩ ?_)
    intro ρ4 w4 hE hN hf hr
    have h6 := (hr 6 rfl).trans h6
    have Hb_b6_n := hf 1 rfl
    have hW := Ext.own hW hE (fun x h => h.symm ▸ hB_b6_)
    have Hb_b6_ := Hb_b6_n
    refine WP.ret ?_
    show retQ Tryz.prog 31 Tryz.f51 (fun v w1 => v = family_value.val r ∧ Ext noG w0 w1) .ret ρ4 w4
    obtain rfl := Option.some.inj hF
    exact resC rfl (by decide) h6 (run_loadN (cs := (family_value.cells (⟨0, 1⟩ : family_value))) (lr_77 _ _) rfl Hb_b6_.ca) ⟨rfl, hW⟩
  exact nomatch (if_neg (Bool.eq_false_iff.1 hb)).symm.trans hF

set_option maxHeartbeats 4000000 in
theorem bits_Mul64_ok {w0 : World} (x_ : Int) (y_ : Int) {r : Int × Int} (hF : bits_Mul64 x_ y_ = some r) :
    Calls Tryz.prog 78 #[.int .u64 x_, .int .u64 y_] w0 fun e w1 => e = .returned (.tuple #[.int .u64 r.1, .int .u64 r.2]) ∧ Ext noG w0 w1 := by
  refine (Calls.start (P := Tryz.prog) (args := [.int .u64 x_, .int .u64 y_]) (R := fun v w1 => v = .tuple #[.int .u64 r.1, .int .u64 r.2] ∧ Ext noG w0 w1) (n := 51) (w := w0) Tryz.func78 rfl rfl (Nat.le_of_ble_eq_true rfl) (fun ρ hargs => ?_)).mono (fun e w1 ⟨v, he, hv, hE⟩ => ⟨hv ▸ he, hE⟩)
  have h0 := hargs 0 _ rfl
  have h1 := hargs 1 _ rfl
  have hW := Ext.refl noG w0
  rw [bits_Mul64] at hF
  refine WP.seq (WP.rb mixed [[], []] [[], []] [(4, .int .u64 0), (5, .int .u64 0)] (by kernel_rfl) ⟨aC rfl rfl (fun _ => rfl),
 aC rfl rfl (fun _ => rfl), trivial⟩ ?_)
  intro ρ1 w1 hN hf hr
  obtain ⟨h0, h1⟩ := k2 hr h0 h1 rfl
  have hW := hW.trans hN
  refine WP.seq (WP.rb mixed [[], [0], [1]] [[0], [], []] [(14, .int .u64 x_), (15, .int .u64 (andK .u64 x_ 4294967295)), (6, .int .u64 (andK .u64 x_ 4294967295))] (by kernel_rfl) ⟨mE rfl rfl h0,
 fun ρz wz hE hA _ ⟨u0, _⟩ => core_val rfl rfl (o_and u0 rfl rfl),
 aU rfl rfl rfl, trivial⟩ ?_)
  intro ρ2 w2 hN hf hr
  have h6 := hv hf 2 rfl rfl
  obtain ⟨h0, h1⟩ := k2 hr h0 h1 rfl
  have hW := hW.trans hN
  refine WP.seq (WP.rb mixed [[], [0], [1]] [[0], [], []] [(16, .int .u64 x_), (17, .int .u64 (shrK .u64 x_ 32)), (7, .int .u64 (shrK .u64 x_ 32))] (by kernel_rfl) ⟨mE rfl rfl h0,
 fun ρz wz hE hA _ ⟨u0, _⟩ => core_val rfl rfl (o_shr u0 rfl (by decide) rfl),
 aU rfl rfl rfl, trivial⟩ ?_)
  intro ρ3 w3 hN hf hr
  have h7 := hv hf 2 rfl rfl
  obtain ⟨h0, h1, h6⟩ := k3 hr h0 h1 h6 rfl
  have hW := hW.trans hN
  refine WP.seq (WP.rb mixed [[], [0], [1]] [[1], [], []] [(18, .int .u64 y_), (19, .int .u64 (andK .u64 y_ 4294967295)), (8, .int .u64 (andK .u64 y_ 4294967295))] (by kernel_rfl) ⟨mE rfl rfl h1,
 fun ρz wz hE hA _ ⟨u0, _⟩ => core_val rfl rfl (o_and u0 rfl rfl),
 aU rfl rfl rfl, trivial⟩ ?_)
  intro ρ4 w4 hN hf hr
  have h8 := hv hf 2 rfl rfl
  obtain ⟨h0, h1, h6, h7⟩ := k4 hr h0 h1 h6 h7 rfl
  have hW := hW.trans hN
  refine WP.seq (WP.rb mixed [[], [0], [1]] [[1], [], []] [(20, .int .u64 y_), (21, .int .u64 (shrK .u64 y_ 32)), (9, .int .u64 (shrK .u64 y_ 32))] (by kernel_rfl) ⟨mE rfl rfl h1,
 fun ρz wz hE hA _ ⟨u0, _⟩ => core_val rfl rfl (o_shr u0 rfl (by decide) rfl),
 aU rfl rfl rfl, trivial⟩ ?_)
  intro ρ5 w5 hN hf hr
  have h9 := hv hf 2 rfl rfl
  obtain ⟨h0, h1, h6, h7, h8⟩ := k5 hr h0 h1 h6 h7 h8 rfl
  have hW := hW.trans hN
  refine WP.seq (WP.rb mixed [[], [], [0, 1], [2]] [[6], [8], [], []] [(22, .int .u64 (andK .u64 x_ 4294967295)), (23, .int .u64 (andK .u64 y_ 4294967295)), (24, .int .u64 (u64 (andK .u64 x_ 4294967295 * (andK .u64 y_ 4294967295)))), (10, .int .u64 (u64 (andK .u64 x_ 4294967295 * (andK .u64 y_ 4294967295))))] (by kernel_rfl) ⟨mE rfl rfl h6,
 mE rfl rfl h8,
 fun ρz wz hE hA _ ⟨u0, u1, _⟩ => core_val rfl rfl (o_mul u0 u1 rfl),
 aU rfl rfl rfl, trivial⟩ ?_)
  intro ρ6 w6 hN hf hr
  have h10 := hv hf 3 rfl rfl
  obtain ⟨h0, h1, h6, h7, h8, h9⟩ := k6 hr h0 h1 h6 h7 h8 h9 rfl
  have hW := hW.trans hN
  refine WP.seq (WP.rb mixed [[], [], [0, 1], [], [3], [2, 4], [5]] [[7], [8], [], [10], [], [], []] [(25, .int .u64 (shrK .u64 x_ 32)), (26, .int .u64 (andK .u64 y_ 4294967295)), (27, .int .u64 (u64 (shrK .u64 x_ 32 * (andK .u64 y_ 4294967295)))), (28, .int .u64 (u64 (andK .u64 x_ 4294967295 * (andK .u64 y_ 4294967295)))), (29, .int .u64 (shrK .u64 (u64 (andK .u64 x_ 4294967295 * (andK .u64 y_ 4294967295))) 32)), (30, .int .u64 (u64 (u64 (shrK .u64 x_ 32 * (andK .u64 y_ 4294967295)) + shrK .u64 (u64 (andK .u64 x_ 4294967295 * (andK .u64 y_ 4294967295))) 32))), (11, .int .u64 (u64 (u64 (shrK .u64 x_ 32 * (andK .u64 y_ 4294967295)) + shrK .u64 (u64 (andK .u64 x_ 4294967295 * (andK .u64 y_ 4294967295))) 32)))] (by kernel_rfl) ⟨mE rfl rfl h7,
 mE rfl rfl h8,
 fun ρz wz hE hA _ ⟨u0, u1, _⟩ => core_val rfl rfl (o_mul u0 u1 rfl),
 mE rfl rfl h10,
 fun ρz wz hE hA _ ⟨u3, _⟩ => core_val rfl rfl (o_shr u3 rfl (by decide) rfl),
 fun ρz wz hE hA _ ⟨u2, u4, _⟩ => core_val rfl rfl (o_add u2 u4 rfl),
 aU rfl rfl rfl, trivial⟩ ?_)
  intro ρ7 w7 hN hf hr
  have h11 := hv hf 6 rfl rfl
  obtain ⟨h0, h1, h6, h7, h9⟩ := k5 hr h0 h1 h6 h7 h9 rfl
  have hW := hW.trans hN
  refine WP.seq (WP.rb mixed [[], [0], [1]] [[11], [], []] [(31, .int .u64 (u64 (u64 (shrK .u64 x_ 32 * (andK .u64 y_ 4294967295)) + shrK .u64 (u64 (andK .u64 x_ 4294967295 * (andK .u64 y_ 4294967295))) 32))), (32, .int .u64 (andK .u64 (u64 (u64 (shrK .u64 x_ 32 * (andK .u64 y_ 4294967295)) + shrK .u64 (u64 (andK .u64 x_ 4294967295 * (andK .u64 y_ 4294967295))) 32)) 4294967295)), (12, .int .u64 (andK .u64 (u64 (u64 (shrK .u64 x_ 32 * (andK .u64 y_ 4294967295)) + shrK .u64 (u64 (andK .u64 x_ 4294967295 * (andK .u64 y_ 4294967295))) 32)) 4294967295))] (by kernel_rfl) ⟨mE rfl rfl h11,
 fun ρz wz hE hA _ ⟨u0, _⟩ => core_val rfl rfl (o_and u0 rfl rfl),
 aU rfl rfl rfl, trivial⟩ ?_)
  intro ρ8 w8 hN hf hr
  have h12 := hv hf 2 rfl rfl
  obtain ⟨h0, h1, h6, h7, h9, h11⟩ := k6 hr h0 h1 h6 h7 h9 h11 rfl
  have hW := hW.trans hN
  refine WP.seq (WP.rb mixed [[], [0], [1]] [[11], [], []] [(33, .int .u64 (u64 (u64 (shrK .u64 x_ 32 * (andK .u64 y_ 4294967295)) + shrK .u64 (u64 (andK .u64 x_ 4294967295 * (andK .u64 y_ 4294967295))) 32))), (34, .int .u64 (shrK .u64 (u64 (u64 (shrK .u64 x_ 32 * (andK .u64 y_ 4294967295)) + shrK .u64 (u64 (andK .u64 x_ 4294967295 * (andK .u64 y_ 4294967295))) 32)) 32)), (13, .int .u64 (shrK .u64 (u64 (u64 (shrK .u64 x_ 32 * (andK .u64 y_ 4294967295)) + shrK .u64 (u64 (andK .u64 x_ 4294967295 * (andK .u64 y_ 4294967295))) 32)) 32))] (by kernel_rfl) ⟨mE rfl rfl h11,
 fun ρz wz hE hA _ ⟨u0, _⟩ => core_val rfl rfl (o_shr u0 rfl (by decide) rfl),
 aU rfl rfl rfl, trivial⟩ ?_)
  intro ρ9 w9 hN hf hr
  have h13 := hv hf 2 rfl rfl
  obtain ⟨h0, h1, h6, h7, h9, h12⟩ := k6 hr h0 h1 h6 h7 h9 h12 rfl
  have hW := hW.trans hN
  refine WP.seq (WP.rv mixed [[], [], [], [1, 2], [0, 3], [0, 4]] [[], [], [], [1, 2], [0, 3], [4]] [[12], [6], [9], [], [], []] [(35, .int .u64 (andK .u64 (u64 (u64 (shrK .u64 x_ 32 * (andK .u64 y_ 4294967295)) + shrK .u64 (u64 (andK .u64 x_ 4294967295 * (andK .u64 y_ 4294967295))) 32)) 4294967295)), (36, .int .u64 (andK .u64 x_ 4294967295)), (37, .int .u64 (shrK .u64 y_ 32)), (38, .int .u64 (u64 (andK .u64 x_ 4294967295 * (shrK .u64 y_ 32)))), (39, .int .u64 (u64 (andK .u64 (u64 (u64 (shrK .u64 x_ 32 * (andK .u64 y_ 4294967295)) + shrK .u64 (u64 (andK .u64 x_ 4294967295 * (andK .u64 y_ 4294967295))) 32)) 4294967295 + u64 (andK .u64 x_ 4294967295 * (shrK .u64 y_ 32))))), (12, .int .u64 (u64 (andK .u64 (u64 (u64 (shrK .u64 x_ 32 * (andK .u64 y_ 4294967295)) + shrK .u64 (u64 (andK .u64 x_ 4294967295 * (andK .u64 y_ 4294967295))) 32)) 4294967295 + u64 (andK .u64 x_ 4294967295 * (shrK .u64 y_ 32)))))] (by kernel_rfl) ⟨mE rfl rfl h12,
 mE rfl rfl h6,
 mE rfl rfl h9,
 fun ρz wz hE hA _ ⟨u1, u2, _⟩ => core_val rfl rfl (o_mul u1 u2 rfl),
 fun ρz wz hE hA _ ⟨u0, u3, _⟩ => core_val rfl rfl (o_add u0 u3 rfl),
 aU rfl rfl rfl, trivial⟩ ?_)
  intro ρ10 w10 hN hf hr
  have h12 := hv hf 5 rfl rfl
  obtain ⟨h0, h1, h7, h9, h13⟩ := k5 hr h0 h1 h7 h9 h13 rfl
  have hW := hW.trans hN
  refine WP.seq (WP.rb mixed [[], [], [0, 1], [], [2, 3], [], [5], [4, 6], [7]] [[7], [9], [], [13], [], [12], [], [], []] [(40, .int .u64 (shrK .u64 x_ 32)), (41, .int .u64 (shrK .u64 y_ 32)), (42, .int .u64 (u64 (shrK .u64 x_ 32 * (shrK .u64 y_ 32)))), (43, .int .u64 (shrK .u64 (u64 (u64 (shrK .u64 x_ 32 * (andK .u64 y_ 4294967295)) + shrK .u64 (u64 (andK .u64 x_ 4294967295 * (andK .u64 y_ 4294967295))) 32)) 32)), (44, .int .u64 (u64 (u64 (shrK .u64 x_ 32 * (shrK .u64 y_ 32)) + shrK .u64 (u64 (u64 (shrK .u64 x_ 32 * (andK .u64 y_ 4294967295)) + shrK .u64 (u64 (andK .u64 x_ 4294967295 * (andK .u64 y_ 4294967295))) 32)) 32))), (45, .int .u64 (u64 (andK .u64 (u64 (u64 (shrK .u64 x_ 32 * (andK .u64 y_ 4294967295)) + shrK .u64 (u64 (andK .u64 x_ 4294967295 * (andK .u64 y_ 4294967295))) 32)) 4294967295 + u64 (andK .u64 x_ 4294967295 * (shrK .u64 y_ 32))))), (46, .int .u64 (shrK .u64 (u64 (andK .u64 (u64 (u64 (shrK .u64 x_ 32 * (andK .u64 y_ 4294967295)) + shrK .u64 (u64 (andK .u64 x_ 4294967295 * (andK .u64 y_ 4294967295))) 32)) 4294967295 + u64 (andK .u64 x_ 4294967295 * (shrK .u64 y_ 32)))) 32)), (47, .int .u64 (u64 (u64 (u64 (shrK .u64 x_ 32 * (shrK .u64 y_ 32)) + shrK .u64 (u64 (u64 (shrK .u64 x_ 32 * (andK .u64 y_ 4294967295)) + shrK .u64 (u64 (andK .u64 x_ 4294967295 * (andK .u64 y_ 4294967295))) 32)) 32) + shrK .u64 (u64 (andK .u64 (u64 (u64 (shrK .u64 x_ 32 * (andK .u64 y_ 4294967295)) + shrK .u64 (u64 (andK .u64 x_ 4294967295 * (andK .u64 y_ 4294967295))) 32)) 4294967295 + u64 (andK .u64 x_ 4294967295 * (shrK .u64 y_ 32)))) 32))), (4, .int .u64 (u64 (u64 (u64 (shrK .u64 x_ 32 * (shrK .u64 y_ 32)) + shrK .u64 (u64 (u64 (shrK .u64 x_ 32 * (andK .u64 y_ 4294967295)) + shrK .u64 (u64 (andK .u64 x_ 4294967295 * (andK .u64 y_ 4294967295))) 32)) 32) + shrK .u64 (u64 (andK .u64 (u64 (u64 (shrK .u64 x_ 32 * (andK .u64 y_ 4294967295)) + shrK .u64 (u64 (andK .u64 x_ 4294967295 * (andK .u64 y_ 4294967295))) 32)) 4294967295 + u64 (andK .u64 x_ 4294967295 * (shrK .u64 y_ 32)))) 32)))] (by kernel_rfl) ⟨mE rfl rfl h7,
 mE rfl rfl h9,
 fun ρz wz hE hA _ ⟨u0, u1, _⟩ => core_val rfl rfl (o_mul u0 u1 rfl),
 mE rfl rfl h13,
 fun ρz wz hE hA _ ⟨u2, u3, _⟩ => core_val rfl rfl (o_add u2 u3 rfl),
 mE rfl rfl h12,
 fun ρz wz hE hA _ ⟨u5, _⟩ => core_val rfl rfl (o_shr u5 rfl (by decide) rfl),
 fun ρz wz hE hA _ ⟨u4, u6, _⟩ => core_val rfl rfl (o_add u4 u6 rfl),
 aU rfl rfl rfl, trivial⟩ ?_)
  intro ρ11 w11 hN hf hr
  have h4 := hv hf 8 rfl rfl
  obtain ⟨h0, h1⟩ := k2 hr h0 h1 rfl
  have hW := hW.trans hN
  refine WP.seq (WP.rb mixed [[], [], [0, 1], [2]] [[0], [1], [], []] [(48, .int .u64 x_), (49, .int .u64 y_), (50, .int .u64 (u64 (x_ * y_))), (5, .int .u64 (u64 (x_ * y_)))] (by kernel_rfl) ⟨mE rfl rfl h0,
 mE rfl rfl h1,
 fun ρz wz hE hA _ ⟨u0, u1, _⟩ => core_val rfl rfl (o_mul u0 u1 rfl),
 aU rfl rfl rfl, trivial⟩ ?_)
  intro ρ12 w12 hN hf hr
  have h5 := hv hf 3 rfl rfl
  have h4 := (hr 4 rfl).trans h4
  have hW := hW.trans hN
  refine WP.ret ?_
  show retQ Tryz.prog 51 Tryz.f78 (fun v w1 => v = .tuple #[.int .u64 r.1, .int .u64 r.2] ∧ Ext noG w0 w1) .ret ρ12 w12
  obtain rfl := Option.some.inj hF
  exact res2 rfl (by decide) (by decide) h4 h5 ⟨rfl, hW⟩

set_option maxHeartbeats 4000000 in
theorem cmp_isNaN_of_uint64_ok {w0 : World} (x_ : Int) {r : Bool} (hF : cmp_isNaN_of_uint64 x_ = some r) :
    Calls Tryz.prog 112 #[.int .u64 x_] w0 fun e w1 => e = .returned (.bool r) ∧ Ext noG w0 w1 := by
  refine (Calls.start (P := Tryz.prog) (args := [.int .u64 x_]) (R := fun v w1 => v = .bool r ∧ Ext noG w0 w1) (n := 6) (w := w0) Tryz.func112 rfl rfl (Nat.le_of_ble_eq_true rfl) (fun ρ hargs => ?_)).mono (fun e w1 ⟨v, he, hv, hE⟩ => ⟨hv ▸ he, hE⟩)
  have h0 := hargs 0 _ rfl
  have hW := Ext.refl noG w0
  rw [cmp_isNaN_of_uint64] at hF
  refine WP.seq (WP.rb mixed [[]] [[]] [(2, .bool false)] (by kernel_rfl) ⟨aC rfl rfl (fun _ => rfl), trivial⟩ ?_)
  intro ρ1 w1 hN hf hr
  have h0 := (hr 0 rfl).trans h0
  have hW := hW.trans hN
  refine WP.seq (WP.rb mixed [[], [], [0, 1], [2]] [[0], [0], [], []] [(3, .int .u64 x_), (4, .int .u64 x_), (5, .bool (x_ != x_)), (2, .bool (x_ != x_))] (by kernel_rfl) ⟨mE rfl rfl h0,
 mE rfl rfl h0,
 fun ρz wz hE hA _ ⟨u0, u1, _⟩ => core_val rfl rfl (o_neq u0 u1 rfl),
 aU rfl rfl rfl, trivial⟩ ?_)
  intro ρ2 w2 hN hf hr
  have h2 := hv hf 3 rfl rfl
  have hW := hW.trans hN
  refine WP.ret ?_
  show retQ Tryz.prog 6 Tryz.f112 (fun v w1 => v = .bool r ∧ Ext noG w0 w1) .ret ρ2 w2
  obtain rfl := Option.some.inj hF
  exact res1 rfl (by decide) h2 ⟨rfl, hW⟩

set_option maxHeartbeats 4000000 in
theorem cmp_Compare_of_uint64_ok {w0 : World} (x_ : Int) (y_ : Int) {r : Int} (hF : cmp_Compare_of_uint64 x_ y_ = some r) :
    Calls Tryz.prog 79 #[.int .u64 x_, .int .u64 y_] w0 fun e w1 => e = .returned (.int .i64 r) ∧ Ext noG w0 w1 := by
  refine (Calls.start (P := Tryz.prog) (args := [.int .u64 x_, .int .u64 y_]) (R := fun v w1 => v = .int .i64 r ∧ Ext noG w0 w1) (n := 20) (w := w0) Tryz.func79 rfl rfl (Nat.le_of_ble_eq_true rfl) (fun ρ hargs => ?_)).mono (fun e w1 ⟨v, he, hv, hE⟩ => ⟨hv ▸ he, hE⟩)
  have h0 := hargs 0 _ rfl
  have h1 := hargs 1 _ rfl
  have hW := Ext.refl noG w0
  rw [cmp_Compare_of_uint64] at hF
  refine WP.seq (WP.rb mixed [[]] [[]] [(4, .int .i64 0)] (by kernel_rfl) ⟨aC rfl rfl (fun _ => rfl), trivial⟩ ?_)
  intro ρ1 w1 hN hf hr
  obtain ⟨h0, h1⟩ := k2 hr h0 h1 rfl
  have hW := hW.trans hN
  refine WP.seq ?_
  obtain ⟨z, hz, hF⟩ := obind hF
  refine WP.rb mixed [[], [0], [1]] [[0], [], []] [(7, .int .u64 x_), (8, .bool z), (5, .bool z)] (by kernel_rfl) ⟨mE rfl rfl h0,
 fun ρz wz hE hA _ ⟨u0, _⟩ => core_call rfl (call_args1 u0) cf_112 (cmp_isNaN_of_uint64_ok  _  hz),
 aU rfl rfl rfl, trivial⟩ ?_
  intro ρ2 w2 hN hf hr
  have h5 := hv hf 2 rfl rfl
  obtain ⟨h0, h1⟩ := k2 hr h0 h1 rfl
  have hW := hW.trans hN
  refine WP.seq ?_
  obtain ⟨z2, hz2, hF⟩ := obind hF
  refine WP.rb mixed [[], [0], [1]] [[1], [], []] [(9, .int .u64 y_), (10, .bool z2), (6, .bool z2)] (by kernel_rfl) ⟨mE rfl rfl h1,
 fun ρz wz hE hA _ ⟨u0, _⟩ => core_call rfl (call_args1 u0) cf_112 (cmp_isNaN_of_uint64_ok  _  hz2),
 aU rfl rfl rfl, trivial⟩ ?_
  intro ρ3 w3 hN hf hr
  have h6 := hv hf 2 rfl rfl
  obtain ⟨h0, h1, h5⟩ := k3 hr h0 h1 h5 rfl
  have hW := hW.trans hN
  refine WP.seq (WP.seq (WP.rb mixed [[]] [[5]] [(11, .bool z)] (by kernel_rfl) ⟨mE rfl rfl h5, trivial⟩ ?_))
  intro ρ4 w4 hN hf hr
  have h11 := hv hf 0 rfl rfl
  obtain ⟨h0, h1, h6⟩ := k3 hr h0 h1 h6 rfl
  have hW := hW.trans hN
  refine WP.cond rfl h11 (fun hb => ?_) (fun hb => ?_)
  · exact nomatch (if_pos hb).symm.trans hF
  have hF := (if_neg (Bool.eq_false_iff.1 hb)).symm.trans hF
  refine WP.skip (WP.seq (WP.seq (WP.rb mixed [[]] [[6]] [(13, .bool z2)] (by kernel_rfl) ⟨mE rfl rfl h6, trivial⟩ ?_)))
  intro ρ8 w8 hN hf hr
  have h13 := hv hf 0 rfl rfl
  obtain ⟨h0, h1⟩ := k2 hr h0 h1 rfl
  have hW := hW.trans hN
  refine WP.cond rfl h13 (fun hb => ?_) (fun hb => ?_)
  · exact nomatch (if_pos hb).symm.trans hF
  have hF := (if_neg (Bool.eq_false_iff.1 hb)).symm.trans hF
  refine WP.skip (WP.seq (WP.seq (WP.rb mixed [[], [], [0, 1]] [[0], [1], []] [(14, .int .u64 x_), (15, .int .u64 y_), (16, .bool (decide (x_ < y_)))] (by kernel_rfl) ⟨mE rfl rfl h0,
 mE rfl rfl h1,
 fun ρz wz hE hA _ ⟨u0, u1, _⟩ => core_val rfl rfl (o_lss u0 u1 rfl), trivial⟩ ?_)))
  intro ρ10 w10 hN hf hr
  have h16 := hv hf 2 rfl rfl
  obtain ⟨h0, h1⟩ := k2 hr h0 h1 rfl
  have hW := hW.trans hN
  refine WP.cond rfl h16 (fun hb => ?_) (fun hb => ?_)
  · exact nomatch (if_pos hb).symm.trans hF
  have hF := (if_neg (Bool.eq_false_iff.1 hb)).symm.trans hF
  refine WP.skip (WP.seq (WP.seq (WP.rb mixed [[], [], [0, 1]] [[0], [1], []] [(17, .int .u64 x_), (18, .int .u64 y_), (19, .bool (decide (y_ < x_)))] (by kernel_rfl) ⟨mE rfl rfl h0,
 mE rfl rfl h1,
 fun ρz wz hE hA _ ⟨u0, u1, _⟩ => core_val rfl rfl (o_gtr u0 u1 rfl), trivial⟩ ?_)))
  intro ρ12 w12 hN hf hr
  have h19 := hv hf 2 rfl rfl
  have hW := hW.trans hN
  refine WP.cond rfl h19 (fun hb => ?_) (fun hb => ?_)
  · exact nomatch (if_pos hb).symm.trans hF
  have hF := (if_neg (Bool.eq_false_iff.1 hb)).symm.trans hF
  refine WP.skip (WP.seq (WP.rb mixed [[]] [[]] [(4, .int .i64 0)] (by kernel_rfl) ⟨aC rfl rfl (fun _ => rfl), trivial⟩ ?_))
  intro ρ14 w14 hN hf hr
  have h4 := hv hf 0 rfl rfl
  have hW := hW.trans hN
  refine WP.ret ?_
  show retQ Tryz.prog 20 Tryz.f79 (fun v w1 => v = .int .i64 r ∧ Ext noG w0 w1) .ret ρ14 w14
  obtain rfl := Option.some.inj hF
  exact res1 rfl (by decide) h4 ⟨rfl, hW⟩

set_option maxHeartbeats 4000000 in
theorem family_compare_ok {w0 : World} (a_ : family_value) (b_ : family_value) {r : Int} (hF : family_compare a_ b_ = some r) :
    Calls Tryz.prog 50 #[family_value.val a_, family_value.val b_] w0 fun e w1 => e = .returned (.int .i64 r) ∧ Ext noG w0 w1 := by
  refine (Calls.start (P := Tryz.prog) (args := [family_value.val a_, family_value.val b_]) (R := fun v w1 => v = .int .i64 r ∧ Ext noG w0 w1) (n := 33) (w := w0) Tryz.func50 rfl rfl (Nat.le_of_ble_eq_true rfl) (fun ρ hargs => ?_)).mono (fun e w1 ⟨v, he, hv, hE⟩ => ⟨hv ▸ he, hE⟩)
  have h0 := hargs 0 _ rfl
  have h1 := hargs 1 _ rfl
  have hW := Ext.refl noG w0
  rw [family_compare] at hF
  refine WP.seq (WP.regionN mixed ⟨[[], [], []], [[], [], []], [[0], [1], []], [], [], [(0, 2), (1, 3)], []⟩ [(2, fun u wz => ∃ b, u = .pointer (some ⟨b, 0, none⟩) ∧ w0.heap.size ≤ b ∧ Mb wz b 77 (family_value.cells a_)), (3, fun u wz => ∃ b, u = .pointer (some ⟨b, 0, none⟩) ∧ w0.heap.size ≤ b ∧ Mb wz b 77 (family_value.cells b_)), val 4 (.int .i64 0)] (fun b => w0.heap.size ≤ b) (by kernel_rfl) (.inr (fun _ h => h)) ⟨TStable.box, TStable.box, sV, trivial⟩ ⟨fun ρz wz hE hA ⟨e0, _⟩ _ => core_newN rfl rfl rfl hE (o_box (e0.trans h0) (bx_77 _ _)),
 fun ρz wz hE hA ⟨e1, _⟩ _ => core_newN rfl rfl rfl hE (o_box (e1.trans h1) (bx_77 _ _)),
 fun ρz wz hE hA _ _ => core_val rfl rfl (o_assign rfl), trivial⟩ ?_)
  intro ρ1 w1 hE hN hf hr hdist
  have hN := hE.fresh
  obtain ⟨b2_, h2, hge_b2_, Hb_b2_⟩ := hf 0 rfl
  obtain ⟨b3_, h3, hge_b3_, Hb_b3_⟩ := hf 1 rfl
  have hB_b2_ : w0.heap.size ≤ b2_ := Nat.le_trans hW.size hge_b2_
  have hB_b3_ : w0.heap.size ≤ b3_ := Nat.le_trans hW.size hge_b3_
  have hW := hW.trans hN
  refine WP.seq ?_
  obtain ⟨z, hz, hF⟩ := obind hF
  refine WP.rb mixed [[], [0], [], [2], [1, 3], [4], [5], [5], [6], [7]] [[2], [], [3], [], [], [], [], [], [], []] [(10, .pointer (some ((⟨b2_, 0, none⟩ : Addr).add 0))), (11, .int .u64 a_.num), (12, .pointer (some ((⟨b3_, 0, none⟩ : Addr).add 1))), (13, .int .u64 b_.den), (14, .tuple #[.int .u64 z.1, .int .u64 z.2]), (9, .tuple #[.int .u64 z.1, .int .u64 z.2]), (15, .int .u64 z.1), (16, .int .u64 z.2), (5, .int .u64 z.1), (6, .int .u64 z.2)] (by kernel_rfl) ⟨fun ρz wz hE hA ⟨e2, _⟩ _ => core_val rfl rfl (o_fieldAddr (e2.trans h2) (fa_77_0 _ _)),
 fun ρz wz hE hA _ ⟨u0, _⟩ => core_val rfl rfl (o_load u0 (run_load1 (lr_75 _ _) (CA.sub ((Hb_b2_.exn (hA rfl)).ca) 0 1))),
 fun ρz wz hE hA ⟨e3, _⟩ _ => core_val rfl rfl (o_fieldAddr (e3.trans h3) (fa_77_1 _ _)),
 fun ρz wz hE hA _ ⟨u2, _⟩ => core_val rfl rfl (o_load u2 (run_load1 (lr_75 _ _) (CA.sub ((Hb_b3_.exn (hA rfl)).ca) 1 1))),
 fun ρz wz hE hA _ ⟨u1, u3, _⟩ => core_call rfl (call_args2 u1 u3) cf_78 (bits_Mul64_ok  _ _  hz),
 mU rfl rfl rfl,
 fun ρz wz hE hA _ ⟨u5, _⟩ => core_val rfl rfl (o_extract u5 (by kernel_rfl)),
 fun ρz wz hE hA _ ⟨u5, _⟩ => core_val rfl rfl (o_extract u5 (by kernel_rfl)),
 aU rfl rfl rfl,
 aU rfl rfl rfl, trivial⟩ ?_
  intro ρ2 w2 hN hf hr
  have h5 := hv hf 8 rfl rfl
  have h6 := hv hf 9 rfl rfl
  obtain ⟨h2, h3⟩ := k2 hr h2 h3 rfl
  have Hb_b2_n := Hb_b2_.exn hN
  have Hb_b3_n := Hb_b3_.exn hN
  have hW := hW.trans hN
  have Hb_b2_ := Hb_b2_n
  have Hb_b3_ := Hb_b3_n
  refine WP.seq ?_
  obtain ⟨z2, hz2, hF⟩ := obind hF
  refine WP.rb mixed [[], [0], [], [2], [1, 3], [4], [5], [5], [6], [7]] [[3], [], [2], [], [], [], [], [], [], []] [(18, .pointer (some ((⟨b3_, 0, none⟩ : Addr).add 0))), (19, .int .u64 b_.num), (20, .pointer (some ((⟨b2_, 0, none⟩ : Addr).add 1))), (21, .int .u64 a_.den), (22, .tuple #[.int .u64 z2.1, .int .u64 z2.2]), (17, .tuple #[.int .u64 z2.1, .int .u64 z2.2]), (23, .int .u64 z2.1), (24, .int .u64 z2.2), (7, .int .u64 z2.1), (8, .int .u64 z2.2)] (by kernel_rfl) ⟨fun ρz wz hE hA ⟨e3, _⟩ _ => core_val rfl rfl (o_fieldAddr (e3.trans h3) (fa_77_0 _ _)),
 fun ρz wz hE hA _ ⟨u0, _⟩ => core_val rfl rfl (o_load u0 (run_load1 (lr_75 _ _) (CA.sub ((Hb_b3_.exn (hA rfl)).ca) 0 1))),
 fun ρz wz hE hA ⟨e2, _⟩ _ => core_val rfl rfl (o_fieldAddr (e2.trans h2) (fa_77_1 _ _)),
 fun ρz wz hE hA _ ⟨u2, _⟩ => core_val rfl rfl (o_load u2 (run_load1 (lr_75 _ _) (CA.sub ((Hb_b2_.exn (hA rfl)).ca) 1 1))),
 fun ρz wz hE hA _ ⟨u1, u3, _⟩ => core_call rfl (call_args2 u1 u3) cf_78 (bits_Mul64_ok  _ _  hz2),
 mU rfl rfl rfl,
 fun ρz wz hE hA _ ⟨u5, _⟩ => core_val rfl rfl (o_extract u5 (by kernel_rfl)),
 fun ρz wz hE hA _ ⟨u5, _⟩ => core_val rfl rfl (o_extract u5 (by kernel_rfl)),
 aU rfl rfl rfl,
 aU rfl rfl rfl, trivial⟩ ?_
  intro ρ3 w3 hN hf hr
  have h7 := hv hf 8 rfl rfl
  have h8 := hv hf 9 rfl rfl
  obtain ⟨h5, h6⟩ := k2 hr h5 h6 rfl
  have hW := hW.trans hN
  refine WP.seq ?_
  obtain ⟨z3, hz3, hF⟩ := obind hF
  obtain ⟨z4, hz4, hF⟩ := obind hF
  obtain ⟨z5, hz5, hF⟩ := obind hF
  refine WP.rg mixed [[], [], [0, 1], [], [], [3, 4], [2, 5], [6], [7]] [[], [], [0, 1], [], [], [3, 4], [2, 5], [6], [7]] [[5], [7], [], [6], [8], [], [], [], []] [val 25 (.int .u64 z.1), val 26 (.int .u64 z2.1), val 27 (.int .i64 z3), val 28 (.int .u64 z.2), val 29 (.int .u64 z2.2), val 30 (.int .i64 z4), (31, fun u wz => ∃ b, u = .slice (some ⟨b, 0, none⟩) 2 2 ∧ w3.heap.size ≤ b ∧ Mb wz b 3 (([z3, z4]).flatMap (fun x : Int => [Value.int .i64 x]))), val 32 (.int .i64 z5), val 4 (.int .i64 z5)] (by kernel_rfl) ⟨sV, sV, sV, sV, sV, sV, fun _ _ _ hE ⟨b, hz, hs, hM⟩ => ⟨b, hz, hs, hM.exn hE⟩, sV, sV, trivial⟩ ⟨mE rfl rfl h5,
 mE rfl rfl h7,
 fun ρz wz hE hA _ ⟨u0, u1, _⟩ => core_call rfl (call_args2 u0 u1) cf_79 (cmp_Compare_of_uint64_ok  _ _  hz3),
 mE rfl rfl h6,
 mE rfl rfl h8,
 fun ρz wz hE hA _ ⟨u3, u4, _⟩ => core_call rfl (call_args2 u3 u4) cf_79 (cmp_Compare_of_uint64_ok  _ _  hz4),
 fun ρz wz hE hA _ ⟨u2, u5, _⟩ => core_slice rfl rfl hE (o_buildSlice (build_parts2 u2 u5) (bs_22_2 _ _ _)),
 fun ρz wz hE hA _ ⟨⟨bz6, hzn6, hge6, hM6⟩, _⟩ => core_call rfl (call_args1 hzn6) cf_48 (cmp_Or_of_int_ok  _ (Mb.rep (n := 1) (cells := fun x : Int => [Value.int .i64 x]) (hn := fun _ => rfl) (G := noG) hM6 rfl (Nat.le_of_ble_eq_true rfl) (fun h => h)).no hz5),
 aU rfl rfl rfl, trivial⟩ ?_
  intro ρ4 w4 hN hf hr
  have h4 : ρ4 4 = .int .i64 z5 := hf 8 rfl
  have hW := hW.trans hN
  refine WP.ret ?_
  show retQ Tryz.prog 33 Tryz.f50 (fun v w1 => v = .int .i64 r ∧ Ext noG w0 w1) .ret ρ4 w4
  obtain rfl := Option.some.inj hF
  exact res1 rfl (by decide) h4 ⟨rfl, hW⟩

set_option maxHeartbeats 4000000 in
theorem family_Order_2_ok {w0 : World} (i_ : Int) (k_ : Int) (c_ : List Right) (c_2 : Right → Option Int) (c_3 : List Rate) (c_4 : Int) {bc2_ : Nat} {v_c_ : Value} (Hb_bc2_ : Mb w0 bc2_ 47 [v_c_]) (H_c_ : RepSl Right.R noG w0 v_c_ c_) {bc3_ : Nat} {v_c_2 : Value} (Hb_bc3_ : Mb w0 bc3_ 71 [v_c_2]) (H_c_2 : FnR Tryz.prog fnV_71 fnW_71 c_2 noG w0 v_c_2) {bc4_ : Nat} {v_c_3 : Value} (Hb_bc4_ : Mb w0 bc4_ 68 [v_c_3]) (H_c_3 : RepSl Rate.R noG w0 v_c_3 c_3) {bc5_ : Nat} (Hb_bc5_ : Mb w0 bc5_ 3 [Value.int .i64 c_4]) {r : Int} (hF : family_Order_2 i_ k_ c_ c_2 c_3 c_4 = some r) :
    Calls Tryz.prog 47 #[.int .i64 i_, .int .i64 k_, .pointer (some ⟨bc2_, 0, none⟩), .pointer (some ⟨bc3_, 0, none⟩), .pointer (some ⟨bc4_, 0, none⟩), .pointer (some ⟨bc5_, 0, none⟩)] w0 fun e w1 => e = .returned (.int .i64 r) ∧ Ext noG w0 w1 := by
  refine (Calls.start (P := Tryz.prog) (args := [.int .i64 i_, .int .i64 k_, .pointer (some ⟨bc2_, 0, none⟩), .pointer (some ⟨bc3_, 0, none⟩), .pointer (some ⟨bc4_, 0, none⟩), .pointer (some ⟨bc5_, 0, none⟩)]) (R := fun v w1 => v = .int .i64 r ∧ Ext noG w0 w1) (n := 47) (w := w0) Tryz.func47 rfl rfl (Nat.le_of_ble_eq_true rfl) (fun ρ hargs => ?_)).mono (fun e w1 ⟨v, he, hv, hE⟩ => ⟨hv ▸ he, hE⟩)
  have h0 := hargs 0 _ rfl
  have h1 := hargs 1 _ rfl
  have h2 := hargs 2 _ rfl
  have h3 := hargs 3 _ rfl
  have h4 := hargs 4 _ rfl
  have h5 := hargs 5 _ rfl
  have hW := Ext.refl noG w0
  obtain ⟨_, _, hs_H_c_, _, _⟩ := RepSl.shape H_c_
  have H_c_ := H_c_.start
  have H_c_2 := H_c_2.start
  obtain ⟨_, _, hs_H_c_3, _, _⟩ := RepSl.shape H_c_3
  have H_c_3 := H_c_3.start
  rw [family_Order_2] at hF
  refine WP.seq (WP.rb mixed [[]] [[]] [(8, .int .i64 0)] (by kernel_rfl) ⟨aC rfl rfl (fun _ => rfl), trivial⟩ ?_)
  intro ρ1 w1 hN hf hr
  obtain ⟨h0, h1, h2, h3, h4, h5⟩ := k6 hr h0 h1 h2 h3 h4 h5 rfl
  have Hb_bc2_n := Hb_bc2_.exn hN
  have Hb_bc3_n := Hb_bc3_.exn hN
  have Hb_bc4_n := Hb_bc4_.exn hN
  have Hb_bc5_n := Hb_bc5_.exn hN
  have H_c_ := H_c_.exn hN
  have H_c_2 := H_c_2.exn hN
  have H_c_3 := H_c_3.exn hN
  have hW := hW.trans hN
  have Hb_bc2_ := Hb_bc2_n
  have Hb_bc3_ := Hb_bc3_n
  have Hb_bc4_ := Hb_bc4_n
  have Hb_bc5_ := Hb_bc5_n
  refine WP.seq ?_
  obtain ⟨y, hy, hF⟩ := obind hF
  obtain ⟨ay, cy, hvy, hiy, hAy⟩ := RepSl.getF H_c_ hy
  obtain ⟨y2, hy2, hF⟩ := obind hF
  obtain ⟨ay2, cy2, hvy2, hiy2, hAy2⟩ := RepSl.getF H_c_ hy2
  refine WP.regionN mixed ⟨[[], [], [0, 1], [2], [], [], [4, 5], [6], [], [], [3, 8], [7, 9, 10]], [[], [], [0, 1], [2], [], [], [4, 5], [6], [], [], [3, 8], [7, 9]], [[2], [0], [], [], [2], [1], [], [], [], [], [], []], [10, 11], [(8, 10), (9, 11)], [(8, 9), (9, 10)], [(10, 9), (11, 10)]⟩ [val 11 (v_c_), val 12 (.int .i64 i_), val 13 (.pointer (some (ay.add (Int.toNat i_ * 4)))), val 14 (Right.val y), val 15 (v_c_), val 16 (.int .i64 k_), val 17 (.pointer (some (ay2.add (Int.toNat k_ * 4)))), val 18 (Right.val y2), (9, fun u wz => ∃ b, u = .pointer (some ⟨b, 0, none⟩) ∧ w1.heap.size ≤ b ∧ Mb wz b 46 (Right.cells (⟨0, 0, 0, 0⟩ : Right))), (10, fun u wz => ∃ b, u = .pointer (some ⟨b, 0, none⟩) ∧ w1.heap.size ≤ b ∧ Mb wz b 46 (Right.cells (⟨0, 0, 0, 0⟩ : Right))), (9, fun u wz => ∃ b, u = .pointer (some ⟨b, 0, none⟩) ∧ w1.heap.size ≤ b ∧ Mb wz b 46 (Right.cells y)), (10, fun u wz => ∃ b, u = .pointer (some ⟨b, 0, none⟩) ∧ w1.heap.size ≤ b ∧ Mb wz b 46 (Right.cells y2))] (fun b => w1.heap.size ≤ b) (by kernel_rfl) (.inr (fun _ h => h)) ⟨sV, sV, sV, sV, sV, sV, sV, sV, TStable.box, TStable.box, TStable.box, TStable.box, trivial⟩ ⟨fun ρz wz hE hA ⟨e2, _⟩ _ => core_val rfl rfl (o_load (e2.trans h2) (run_load1 (lr_47 _ _) ((Hb_bc2_.exn hE.fresh).ca))),
 fun ρz wz hE hA ⟨e0, _⟩ _ => core_val rfl rfl (o_move (e0.trans h0)),
 fun ρz wz hE hA _ ⟨u0, u1, _⟩ => core_val rfl rfl (o_indexAddr (u0.trans hvy) u1 (ia_47 hiy)),
 fun ρz wz hE hA _ ⟨u2, _⟩ => core_val rfl rfl (o_load u2 (run_loadN (cs := (Right.cells y)) (lr_46 _ _) rfl ((hAy.exn hE.fresh).ca))),
 fun ρz wz hE hA ⟨e2, _⟩ _ => core_val rfl rfl (o_load (e2.trans h2) (run_load1 (lr_47 _ _) ((Hb_bc2_.exn hE.fresh).ca))),
 fun ρz wz hE hA ⟨e1, _⟩ _ => core_val rfl rfl (o_move (e1.trans h1)),
 fun ρz wz hE hA _ ⟨u4, u5, _⟩ => core_val rfl rfl (o_indexAddr (u4.trans hvy2) u5 (ia_47 hiy2)),
 fun ρz wz hE hA _ ⟨u6, _⟩ => core_val rfl rfl (o_load u6 (run_loadN (cs := (Right.cells y2)) (lr_46 _ _) rfl ((hAy2.exn hE.fresh).ca))),
 fun ρz wz hE hA _ _ => core_newN rfl rfl rfl hE (o_alloc (al_46 _)),
 fun ρz wz hE hA _ _ => core_newN rfl rfl rfl hE (o_alloc (al_46 _)),
 fun ρz wz hE hA _ ⟨u3, u8, _⟩ => core_storeNewN rfl rfl u3 u8 (fun a w => st_46 _ a w) rfl (one_46 _),
 fun ρz wz hE hA _ ⟨u7, u9, _⟩ => core_storeNewN rfl rfl u7 u9 (fun a w => st_46 _ a w) rfl (one_46 _), trivial⟩ ?_
  intro ρ2 w2 hE hN hf hr hdist
  have hN := hE.fresh
  obtain ⟨b9_, h9, hge_b9_, Hb_b9_⟩ := hf 10 rfl
  obtain ⟨b10_, h10, hge_b10_, Hb_b10_⟩ := hf 11 rfl
  obtain ⟨h3, h4, h5⟩ := k3 hr h3 h4 h5 rfl
  have Hb_bc3_n := Hb_bc3_.exn hN
  have Hb_bc4_n := Hb_bc4_.exn hN
  have Hb_bc5_n := Hb_bc5_.exn hN
  have H_c_2 := H_c_2.exn hN
  have H_c_3 := H_c_3.exn hN
  have hB_b9_ : w0.heap.size ≤ b9_ := Nat.le_trans hW.size hge_b9_
  have hB_b10_ : w0.heap.size ≤ b10_ := Nat.le_trans hW.size hge_b10_
  have hne_b10__b9_ : b10_ ≠ b9_ := fun h => hdist (9, 10) (by simp) (8, 9) (by simp) (by decide) b10_ (by rw [h10]; rfl) (by rw [h9, h]; rfl)
  have hW := hW.trans hN
  have Hb_bc3_ := Hb_bc3_n
  have Hb_bc4_ := Hb_bc4_n
  have Hb_bc5_ := Hb_bc5_n
  refine WP.seq ?_
  obtain ⟨z, hz, hF⟩ := obind hF
  obtain ⟨z2, hz2, hF⟩ := obind hF
  obtain ⟨z3, hz3, hF⟩ := obind hF
  obtain ⟨z4, hz4, hF⟩ := obind hF
  obtain ⟨z5, hz5, hF⟩ := obind hF
  obtain ⟨z6, hz6, hF⟩ := obind hF
  obtain ⟨z7, hz7, hF⟩ := obind hF
  obtain ⟨z8, hz8, hF⟩ := obind hF
  obtain ⟨z9, hz9, hF⟩ := obind hF
  refine WP.rg mixed [[], [0], [], [2], [1, 3], [], [], [5, 6], [], [], [8, 9], [7, 10], [], [], [], [12, 13, 14], [], [], [], [16, 17, 18], [15, 19], [], [21], [], [23], [22, 24], [4, 11, 20, 25], [26], [27]] [[], [0], [], [2], [1, 3], [], [], [5, 6], [], [], [8, 9], [7, 10], [], [], [], [12, 13, 14], [], [], [], [16, 17, 18], [15, 19], [], [21], [], [23], [22, 24], [4, 11, 20, 25], [26], [27]] [[9], [], [10], [], [], [3], [9], [], [3], [10], [], [], [10], [4], [5], [], [9], [4], [5], [], [], [9], [], [10], [], [], [], [], []] [val 19 (.pointer (some ((⟨b9_, 0, none⟩ : Addr).add 1))), val 20 (.int .i64 y.Basis), val 21 (.pointer (some ((⟨b10_, 0, none⟩ : Addr).add 1))), val 22 (.int .i64 y2.Basis), val 23 (.int .i64 z), val 24 (v_c_2), val 25 (Right.val y), val 26 (.int .i64 z2), val 27 (v_c_2), val 28 (Right.val y2), val 29 (.int .i64 z3), val 30 (.int .i64 z4), val 31 (Right.val y2), val 32 (v_c_3), val 33 (.int .i64 c_4), val 34 (family_value.val z5), val 35 (Right.val y), val 36 (v_c_3), val 37 (.int .i64 c_4), val 38 (family_value.val z6), val 39 (.int .i64 z7), val 40 (.pointer (some ((⟨b9_, 0, none⟩ : Addr).add 0))), val 41 (.int .i64 y.State), val 42 (.pointer (some ((⟨b10_, 0, none⟩ : Addr).add 0))), val 43 (.int .i64 y2.State), val 44 (.int .i64 z8), (45, fun u wz => ∃ b, u = .slice (some ⟨b, 0, none⟩) 4 4 ∧ w2.heap.size ≤ b ∧ Mb wz b 3 (([z, z4, z7, z8]).flatMap (fun x : Int => [Value.int .i64 x]))), val 46 (.int .i64 z9), val 8 (.int .i64 z9)] (by kernel_rfl) ⟨sV, sV, sV, sV, sV, sV, sV, sV, sV, sV, sV, sV, sV, sV, sV, sV, sV, sV, sV, sV, sV, sV, sV, sV, sV, sV, fun _ _ _ hE ⟨b, hz, hs, hM⟩ => ⟨b, hz, hs, hM.exn hE⟩, sV, sV, trivial⟩ ⟨fun ρz wz hE hA ⟨e9, _⟩ _ => core_val rfl rfl (o_fieldAddr (e9.trans h9) (fa_46_1 _ _)),
 fun ρz wz hE hA _ ⟨u0, _⟩ => core_val rfl rfl (o_load u0 (run_load1 (lr_3 _ _) (CA.sub ((Hb_b9_.exn (hA rfl)).ca) 1 1))),
 fun ρz wz hE hA ⟨e10, _⟩ _ => core_val rfl rfl (o_fieldAddr (e10.trans h10) (fa_46_1 _ _)),
 fun ρz wz hE hA _ ⟨u2, _⟩ => core_val rfl rfl (o_load u2 (run_load1 (lr_3 _ _) (CA.sub ((Hb_b10_.exn (hA rfl)).ca) 1 1))),
 fun ρz wz hE hA _ ⟨u1, u3, _⟩ => core_call rfl (call_args2 u1 u3) cf_49 (cmp_Compare_of_int_ok  _ _  hz),
 fun ρz wz hE hA ⟨e3, _⟩ _ => core_val rfl rfl (o_load (e3.trans h3) (run_load1 (lr_71 _ _) ((Hb_bc3_.exn (hA rfl)).ca))),
 fun ρz wz hE hA ⟨e9, _⟩ _ => core_val rfl rfl (o_load (e9.trans h9) (run_loadN (cs := (Right.cells y)) (lr_46 _ _) rfl ((Hb_b9_.exn (hA rfl)).ca))),
 fun ρz wz hE hA _ ⟨u5, u6, _⟩ => core_callF (V := fnV_71) (W := fnW_71) (a := y) (r := z2) rfl u5 (call_args1 u6) (H_c_2.exn (hA rfl)).no hz2,
 fun ρz wz hE hA ⟨e3, _⟩ _ => core_val rfl rfl (o_load (e3.trans h3) (run_load1 (lr_71 _ _) ((Hb_bc3_.exn (hA rfl)).ca))),
 fun ρz wz hE hA ⟨e10, _⟩ _ => core_val rfl rfl (o_load (e10.trans h10) (run_loadN (cs := (Right.cells y2)) (lr_46 _ _) rfl ((Hb_b10_.exn (hA rfl)).ca))),
 fun ρz wz hE hA _ ⟨u8, u9, _⟩ => core_callF (V := fnV_71) (W := fnW_71) (a := y2) (r := z3) rfl u8 (call_args1 u9) (H_c_2.exn (hA rfl)).no hz3,
 fun ρz wz hE hA _ ⟨u7, u10, _⟩ => core_call rfl (call_args2 u7 u10) cf_49 (cmp_Compare_of_int_ok  _ _  hz4),
 fun ρz wz hE hA ⟨e10, _⟩ _ => core_val rfl rfl (o_load (e10.trans h10) (run_loadN (cs := (Right.cells y2)) (lr_46 _ _) rfl ((Hb_b10_.exn (hA rfl)).ca))),
 fun ρz wz hE hA ⟨e4, _⟩ _ => core_val rfl rfl (o_load (e4.trans h4) (run_load1 (lr_68 _ _) ((Hb_bc4_.exn (hA rfl)).ca))),
 fun ρz wz hE hA ⟨e5, _⟩ _ => core_val rfl rfl (o_load (e5.trans h5) (run_load1 (lr_3 _ _) ((Hb_bc5_.exn (hA rfl)).ca))),
 fun ρz wz hE hA _ ⟨u12, u13, u14, _⟩ => core_call rfl (call_args3 u12 u13 u14) cf_51 (family_worth_ok  _ _ _ (H_c_3.exn (hA rfl)).no hz5),
 fun ρz wz hE hA ⟨e9, _⟩ _ => core_val rfl rfl (o_load (e9.trans h9) (run_loadN (cs := (Right.cells y)) (lr_46 _ _) rfl ((Hb_b9_.exn (hA rfl)).ca))),
 fun ρz wz hE hA ⟨e4, _⟩ _ => core_val rfl rfl (o_load (e4.trans h4) (run_load1 (lr_68 _ _) ((Hb_bc4_.exn (hA rfl)).ca))),
 fun ρz wz hE hA ⟨e5, _⟩ _ => core_val rfl rfl (o_load (e5.trans h5) (run_load1 (lr_3 _ _) ((Hb_bc5_.exn (hA rfl)).ca))),
 fun ρz wz hE hA _ ⟨u16, u17, u18, _⟩ => core_call rfl (call_args3 u16 u17 u18) cf_51 (family_worth_ok  _ _ _ (H_c_3.exn (hA rfl)).no hz6),
 fun ρz wz hE hA _ ⟨u15, u19, _⟩ => core_call rfl (call_args2 u15 u19) cf_50 (family_compare_ok  _ _  hz7),
 fun ρz wz hE hA ⟨e9, _⟩ _ => core_val rfl rfl (o_fieldAddr (e9.trans h9) (fa_46_0 _ _)),
 fun ρz wz hE hA _ ⟨u21, _⟩ => core_val rfl rfl (o_load u21 (run_load1 (lr_3 _ _) (CA.sub ((Hb_b9_.exn (hA rfl)).ca) 0 1))),
 fun ρz wz hE hA ⟨e10, _⟩ _ => core_val rfl rfl (o_fieldAddr (e10.trans h10) (fa_46_0 _ _)),
 fun ρz wz hE hA _ ⟨u23, _⟩ => core_val rfl rfl (o_load u23 (run_load1 (lr_3 _ _) (CA.sub ((Hb_b10_.exn (hA rfl)).ca) 0 1))),
 fun ρz wz hE hA _ ⟨u22, u24, _⟩ => core_call rfl (call_args2 u22 u24) cf_49 (cmp_Compare_of_int_ok  _ _  hz8),
 fun ρz wz hE hA _ ⟨u4, u11, u20, u25, _⟩ => core_slice rfl rfl hE (o_buildSlice (build_parts4 u4 u11 u20 u25) (bs_22_4 _ _ _ _ _)),
 fun ρz wz hE hA _ ⟨⟨bz26, hzn26, hge26, hM26⟩, _⟩ => core_call rfl (call_args1 hzn26) cf_48 (cmp_Or_of_int_ok  _ (Mb.rep (n := 1) (cells := fun x : Int => [Value.int .i64 x]) (hn := fun _ => rfl) (G := noG) hM26 rfl (Nat.le_of_ble_eq_true rfl) (fun h => h)).no hz9),
 aU rfl rfl rfl, trivial⟩ ?_
  intro ρ3 w3 hN hf hr
  have h8 : ρ3 8 = .int .i64 z9 := hf 28 rfl
  have hW := hW.trans hN
  refine WP.ret ?_
  show retQ Tryz.prog 47 Tryz.f47 (fun v w1 => v = .int .i64 r ∧ Ext noG w0 w1) .ret ρ3 w3
  obtain rfl := Option.some.inj hF
  exact res1 rfl (by decide) h8 ⟨rfl, hW⟩

set_option maxHeartbeats 4000000 in
theorem bits_Len64_ok {w0 : World} (x_ : Int) {r : Int} (hF : bits_Len64 x_ = some r) :
    Calls Tryz.prog 111 #[.int .u64 x_] w0 fun e w1 => e = .returned (.int .i64 r) ∧ Ext noG w0 w1 := by
  refine (Calls.start (P := Tryz.prog) (args := [.int .u64 x_]) (R := fun v w1 => v = .int .i64 r ∧ Ext noG w0 w1) (n := 25) (w := w0) Tryz.func111 rfl rfl (Nat.le_of_ble_eq_true rfl) (fun ρ hargs => ?_)).mono (fun e w1 ⟨v, he, hv, hE⟩ => ⟨hv ▸ he, hE⟩)
  have h0 := hargs 0 _ rfl
  have hW := Ext.refl noG w0
  rw [bits_Len64] at hF
  refine WP.seq (WP.rb mixed [[]] [[]] [(2, .int .i64 0)] (by kernel_rfl) ⟨aC rfl rfl (fun _ => rfl), trivial⟩ ?_)
  intro ρ1 w1 hN hf hr
  have h2 := hv hf 0 rfl rfl
  have h0 := (hr 0 rfl).trans h0
  have hW := hW.trans hN
  refine WP.seqJ (fun ρ w => ∃ x_2 : Int, ∃ n_ : Int, ρ 0 = .int .u64 x_2 ∧ ρ 2 = .int .i64 n_ ∧ Ext noG w0 w ∧ bits_Len64_j x_2 n_ = some r) ?_ ?_
  · refine WP.seq (WP.rb mixed [[], [0]] [[0], []] [(3, .int .u64 x_), (4, .bool (decide (4294967296 ≤ x_)))] (by kernel_rfl) ⟨mE rfl rfl h0,
 fun ρz wz hE hA _ ⟨u0, _⟩ => core_val rfl rfl (o_geq u0 rfl rfl), trivial⟩ ?_)
    intro ρ12 w12 hN hf hr
    have h4 := hv hf 1 rfl rfl
    obtain ⟨h0, h2⟩ := k2 hr h0 h2 rfl
    have hW := hW.trans hN
    refine WP.cond rfl h4 (fun hb => ?_) (fun hb => ?_)
    · exact nomatch (if_pos hb).symm.trans hF
    have hF := (if_neg (Bool.eq_false_iff.1 hb)).symm.trans hF
    refine WP.skip ?_
    exact ⟨x_, 0, h0, h2, hW, hF⟩
  rintro ρ2 w2 ⟨x_2, n_, h0, h2, hW, hF⟩
  rw [bits_Len64_j] at hF
  refine WP.seqJ (fun ρ w => ∃ x_3 : Int, ∃ n_2 : Int, ρ 0 = .int .u64 x_3 ∧ ρ 2 = .int .i64 n_2 ∧ Ext noG w0 w ∧ bits_Len64_j2 x_3 n_2 = some r) ?_ ?_
  · refine WP.seq (WP.rb mixed [[], [0]] [[0], []] [(7, .int .u64 x_2), (8, .bool (decide (65536 ≤ x_2)))] (by kernel_rfl) ⟨mE rfl rfl h0,
 fun ρz wz hE hA _ ⟨u0, _⟩ => core_val rfl rfl (o_geq u0 rfl rfl), trivial⟩ ?_)
    intro ρ9 w9 hN hf hr
    have h8 := hv hf 1 rfl rfl
    obtain ⟨h0, h2⟩ := k2 hr h0 h2 rfl
    have hW := hW.trans hN
    refine WP.cond rfl h8 (fun hb => ?_) (fun hb => ?_)
    · exact nomatch (if_pos hb).symm.trans hF
    have hF := (if_neg (Bool.eq_false_iff.1 hb)).symm.trans hF
    refine WP.skip ?_
    exact ⟨x_2, n_, h0, h2, hW, hF⟩
  rintro ρ3 w3 ⟨x_3, n_2, h0, h2, hW, hF⟩
  rw [bits_Len64_j2] at hF
  refine WP.seqJ (fun ρ w => ∃ x_4 : Int, ∃ n_3 : Int, ρ 0 = .int .u64 x_4 ∧ ρ 2 = .int .i64 n_3 ∧ Ext noG w0 w ∧ bits_Len64_j3 x_4 n_3 = some r) ?_ ?_
  · refine WP.seq (WP.rb mixed [[], [0]] [[0], []] [(13, .int .u64 x_3), (14, .bool (decide (256 ≤ x_3)))] (by kernel_rfl) ⟨mE rfl rfl h0,
 fun ρz wz hE hA _ ⟨u0, _⟩ => core_val rfl rfl (o_geq u0 rfl rfl), trivial⟩ ?_)
    intro ρ6 w6 hN hf hr
    have h14 := hv hf 1 rfl rfl
    obtain ⟨h0, h2⟩ := k2 hr h0 h2 rfl
    have hW := hW.trans hN
    refine WP.cond rfl h14 (fun hb => ?_) (fun hb => ?_)
    · exact nomatch (if_pos hb).symm.trans hF
    have hF := (if_neg (Bool.eq_false_iff.1 hb)).symm.trans hF
    refine WP.skip ?_
    exact ⟨x_3, n_2, h0, h2, hW, hF⟩
  rintro ρ4 w4 ⟨x_4, n_3, h0, h2, hW, hF⟩
  rw [bits_Len64_j3] at hF
  refine WP.seq ?_
  obtain ⟨y, hy, hF⟩ := obind hF
  refine WP.rv mixed [[], [], [1], [2], [3], [0, 4], [0, 5]] [[], [], [1], [2], [3], [0, 4], [5]] [[2], [0], [], [], [], [], []] [(19, .int .i64 n_3), (20, .int .u64 x_4), (21, .int .u8 ((IntKind.u8.wrap) x_4)), (22, .int .u8 y), (23, .int .i64 (i64 y)), (24, .int .i64 (i64 (n_3 + i64 y))), (2, .int .i64 (i64 (n_3 + i64 y)))] (by kernel_rfl) ⟨mE rfl rfl h2,
 mE rfl rfl h0,
 fun ρz wz hE hA _ ⟨u1, _⟩ => core_val rfl rfl (o_conv u1 (cv_75_5 _ _)),
 fun ρz wz hE hA _ ⟨u2, _⟩ => core_val rfl rfl (o_index rfl u2 (by kernel_rfl) hy),
 fun ρz wz hE hA _ ⟨u3, _⟩ => core_val rfl rfl (o_conv u3 (cv_5_3 _ _)),
 fun ρz wz hE hA _ ⟨u0, u4, _⟩ => core_val rfl rfl (o_add u0 u4 rfl),
 aU rfl rfl rfl, trivial⟩ ?_
  intro ρ5 w5 hN hf hr
  have h2 := hv hf 6 rfl rfl
  have hW := hW.trans hN
  refine WP.ret ?_
  show retQ Tryz.prog 25 Tryz.f111 (fun v w1 => v = .int .i64 r ∧ Ext noG w0 w1) .ret ρ5 w5
  obtain rfl := Option.some.inj hF
  exact res1 rfl (by decide) h2 ⟨rfl, hW⟩

set_option maxHeartbeats 4000000 in
theorem bits_Len_ok {w0 : World} (x_ : Int) {r : Int} (hF : bits_Len x_ = some r) :
    Calls Tryz.prog 76 #[.int .u64 x_] w0 fun e w1 => e = .returned (.int .i64 r) ∧ Ext noG w0 w1 := by
  refine (Calls.start (P := Tryz.prog) (args := [.int .u64 x_]) (R := fun v w1 => v = .int .i64 r ∧ Ext noG w0 w1) (n := 8) (w := w0) Tryz.func76 rfl rfl (Nat.le_of_ble_eq_true rfl) (fun ρ hargs => ?_)).mono (fun e w1 ⟨v, he, hv, hE⟩ => ⟨hv ▸ he, hE⟩)
  have h0 := hargs 0 _ rfl
  have hW := Ext.refl noG w0
  rw [bits_Len] at hF
  refine WP.seq (WP.rb mixed [[]] [[]] [(2, .int .i64 0)] (by kernel_rfl) ⟨aC rfl rfl (fun _ => rfl), trivial⟩ ?_)
  intro ρ1 w1 hN hf hr
  have h0 := (hr 0 rfl).trans h0
  have hW := hW.trans hN
  refine WP.seq (WP.cond (t := false) rfl rfl (fun hb => ?_) (fun hb => ?_))
  · exact absurd hb (by decide)
  · refine WP.skip (WP.seq ?_)
    obtain ⟨z, hz, hF⟩ := obind hF
    refine WP.rb mixed [[], [0], [1]] [[0], [], []] [(6, .int .u64 x_), (7, .int .i64 z), (2, .int .i64 z)] (by kernel_rfl) ⟨mE rfl rfl h0,
 fun ρz wz hE hA _ ⟨u0, _⟩ => core_call rfl (call_args1 u0) cf_111 (bits_Len64_ok  _  hz),
 aU rfl rfl rfl, trivial⟩ ?_
    intro ρ2 w2 hN hf hr
    have h2 := hv hf 2 rfl rfl
    have hW := hW.trans hN
    refine WP.ret ?_
    show retQ Tryz.prog 8 Tryz.f76 (fun v w1 => v = .int .i64 r ∧ Ext noG w0 w1) .ret ρ2 w2
    obtain rfl := Option.some.inj hF
    exact res1 rfl (by decide) h2 ⟨rfl, hW⟩

set_option maxHeartbeats 4000000 in
theorem slices_insertionSortCmpFunc_of_int_ok {w0 : World} (data_ : List Int) (a_ : Int) (b_ : Int) (cmp_ : (Int × Int) → Option Int) {v_data_ : Value} {B : Nat} (O0 : Own B 3 1 (fun x : Int => [Value.int .i64 x]) w0 v_data_ data_) {v_cmp_ : Value} (H_cmp_ : FnR Tryz.prog fnV_27 fnW_27 cmp_ (fun b => Value.ownBlock v_data_ = some b) w0 v_cmp_) {r : List Int} (hF : slices_insertionSortCmpFunc_of_int data_ a_ b_ cmp_ = some r) :
    Calls Tryz.prog 102 #[v_data_, .int .i64 a_, .int .i64 b_, v_cmp_] w0 fun e w1 => e = .returned (.tuple #[]) ∧ Ext (fun b => Value.ownBlock v_data_ = some b) w0 w1 ∧ Own B 3 1 (fun x : Int => [Value.int .i64 x]) w1 v_data_ r := by
  refine (Calls.start (P := Tryz.prog) (args := [v_data_, .int .i64 a_, .int .i64 b_, v_cmp_]) (R := fun v w1 => (v = .tuple #[] ∧ Own B 3 1 (fun x : Int => [Value.int .i64 x]) w1 v_data_ r) ∧ Ext (fun b => Value.ownBlock v_data_ = some b) w0 w1) (n := 53) (w := w0) Tryz.func102 rfl rfl (Nat.le_of_ble_eq_true rfl) (fun ρ hargs => ?_)).mono (fun e w1 ⟨v, he, hv, hE⟩ => ⟨hv.1 ▸ he, hE, hv.2⟩)
  have h0 := hargs 0 _ rfl
  have h1 := hargs 1 _ rfl
  have h2 := hargs 2 _ rfl
  have h3 := hargs 3 _ rfl
  have hW := Ext.refl (fun b => Value.ownBlock v_data_ = some b) w0
  have H_cmp_ := H_cmp_.start
  rw [slices_insertionSortCmpFunc_of_int] at hF
  refine WP.seq (WP.rb mixed [[], [0], [1]] [[1], [], []] [(10, .int .i64 a_), (11, .int .i64 (i64 (a_ + 1))), (8, .int .i64 (i64 (a_ + 1)))] (by kernel_rfl) ⟨mE rfl rfl h1,
 fun ρz wz hE hA _ ⟨u0, _⟩ => core_val rfl rfl (o_add u0 rfl rfl),
 aU rfl rfl rfl, trivial⟩ ?_)
  intro ρ1 w1 hN hf hr
  have h8 := hv hf 2 rfl rfl
  obtain ⟨h0, h1, h2, h3⟩ := k4 hr h0 h1 h2 h3 rfl
  have Oo_O0 := O0
  have H_cmp_ := H_cmp_.exn hN
  have hW := hW.trans hN.of_no
  have O0 := Oo_O0.exn hN
  refine WP.block (WP.loop (fun k_ ρ w => ∃ i_ : Int, ∃ data_l : List Int, ρ 0 = v_data_ ∧ ρ 1 = .int .i64 a_ ∧ ρ 2 = .int .i64 b_ ∧ ρ 3 = v_cmp_ ∧ ρ 8 = .int .i64 i_ ∧ FnR Tryz.prog fnV_27 fnW_27 cmp_ (gfr (fun b => Value.ownBlock v_data_ = some b) w0) w v_cmp_ ∧ Own B 3 1 (fun x : Int => [Value.int .i64 x]) w v_data_ data_l ∧ Ext (fun b => Value.ownBlock v_data_ = some b) w0 w ∧ loopC k_ (slices_insertionSortCmpFunc_of_int_l a_ b_ cmp_) (i_, data_l) = some r) FU ⟨i64 (a_ + 1), data_, h0, h1, h2, h3, h8, H_cmp_, O0, hW, hF⟩ (fun _ _ h => by obtain ⟨_, _, _, _, _, _, _, _, _, _, h⟩ := h; cases h) ?_)
  rintro k_ ρ2 w2 ⟨i_, data_l, h0, h1, h2, h3, h8, H_cmp_, O0, hW, hF⟩
  have hF : slices_insertionSortCmpFunc_of_int_l a_ b_ cmp_ (loopC k_ (slices_insertionSortCmpFunc_of_int_l a_ b_ cmp_)) (i_, data_l) = some r := (loopC_succ k_ (slices_insertionSortCmpFunc_of_int_l a_ b_ cmp_) (i_, data_l)).symm.trans hF
  generalize hrec_ : loopC k_ (slices_insertionSortCmpFunc_of_int_l a_ b_ cmp_) = rec_ at hF
  rw [slices_insertionSortCmpFunc_of_int_l] at hF
  refine WP.seq (WP.seq (WP.rb mixed [[], [], [0, 1]] [[8], [2], []] [(12, .int .i64 i_), (13, .int .i64 b_), (14, .bool (decide (i_ < b_)))] (by kernel_rfl) ⟨mE rfl rfl h8,
 mE rfl rfl h2,
 fun ρz wz hE hA _ ⟨u0, u1, _⟩ => core_val rfl rfl (o_lss u0 u1 rfl), trivial⟩ ?_))
  intro ρ3 w3 hN hf hr
  have h14 := hv hf 2 rfl rfl
  obtain ⟨h0, h1, h2, h3, h8⟩ := k5 hr h0 h1 h2 h3 h8 rfl
  have Oo_O0 := O0
  have H_cmp_ := H_cmp_.exn hN
  have hW := hW.trans hN.of_no
  have O0 := Oo_O0.exn hN
  refine WP.cond rfl h14 (fun hb => ?_) (fun hb => ?_)
  · have hF := (if_pos hb).symm.trans hF
    refine WP.skip (WP.seq (WP.block (WP.seq (WP.rb mixed [[], [0]] [[8], []] [(17, .int .i64 i_), (9, .int .i64 i_)] (by kernel_rfl) ⟨mE rfl rfl h8,
 aU rfl rfl rfl, trivial⟩ ?_))))
    intro ρ4 w4 hN hf hr
    have h9 := hv hf 1 rfl rfl
    obtain ⟨h0, h1, h2, h3, h8⟩ := k5 hr h0 h1 h2 h3 h8 rfl
    have Oo_O0 := O0
    have H_cmp_ := H_cmp_.exn hN
    have hW := hW.trans hN.of_no
    have O0 := Oo_O0.exn hN
    refine WP.block (WP.loop (fun k_2 ρ w => ∃ j_ : Int, ∃ data_l2 : List Int, ρ 0 = v_data_ ∧ ρ 1 = .int .i64 a_ ∧ ρ 2 = .int .i64 b_ ∧ ρ 3 = v_cmp_ ∧ ρ 8 = .int .i64 i_ ∧ ρ 9 = .int .i64 j_ ∧ FnR Tryz.prog fnV_27 fnW_27 cmp_ (gfr (fun b => Value.ownBlock v_data_ = some b) w0) w v_cmp_ ∧ Own B 3 1 (fun x : Int => [Value.int .i64 x]) w v_data_ data_l2 ∧ Ext (fun b => Value.ownBlock v_data_ = some b) w0 w ∧ loopC k_2 (slices_insertionSortCmpFunc_of_int_l2 a_ cmp_ i_ rec_) (j_, data_l2) = some r) FU ⟨i_, data_l, h0, h1, h2, h3, h8, h9, H_cmp_, O0, hW, hF⟩ (fun _ _ h => by obtain ⟨_, _, _, _, _, _, _, _, _, _, _, h⟩ := h; cases h) ?_)
    rintro k_2 ρ5 w5 ⟨j_, data_l2, h0, h1, h2, h3, h8, h9, H_cmp_, O0, hW, hF⟩
    have hF : slices_insertionSortCmpFunc_of_int_l2 a_ cmp_ i_ rec_ (loopC k_2 (slices_insertionSortCmpFunc_of_int_l2 a_ cmp_ i_ rec_)) (j_, data_l2) = some r := (loopC_succ k_2 (slices_insertionSortCmpFunc_of_int_l2 a_ cmp_ i_ rec_) (j_, data_l2)).symm.trans hF
    generalize hrec_2 : loopC k_2 (slices_insertionSortCmpFunc_of_int_l2 a_ cmp_ i_ rec_) = rec_2 at hF
    rw [slices_insertionSortCmpFunc_of_int_l2] at hF
    refine WP.seq (WP.seq ?_)
    obtain ⟨c, hc, hF⟩ := obind hF
    obtain ⟨y, hy, hc⟩ := andB hc
    obtain ⟨ay, cy, hvy, hiy, hAy⟩ := RepSl.getFI (Own.rep (hn := fun _ => rfl) (G := noG) O0 (fun _ _ h => h)) hy
    obtain ⟨y2, hy2, hc⟩ := andB hc
    obtain ⟨ay2, cy2, hvy2, hiy2, hAy2⟩ := RepSl.getFI (Own.rep (hn := fun _ => rfl) (G := noG) O0 (fun _ _ h => h)) hy2
    obtain ⟨z, hz, hc⟩ := andB hc
    have hc := andE hc
    refine WP.rb mixed [[], [], [0, 1], [2], [3], [3], [3], [3, 5, 6], [3, 7], [3], [3], [3, 10], [3, 9, 11], [3, 12], [3, 4, 8, 13], [3, 14], [3, 15]] [[9], [1], [], [], [3], [0], [9], [], [], [0], [9], [], [], [], [], [], []] [(18, .int .i64 j_), (19, .int .i64 a_), (20, .bool (decide (a_ < j_))), (21, .bool (decide (a_ < j_))), (22, gv (decide (a_ < j_)) v_cmp_), (23, gv (decide (a_ < j_)) v_data_), (24, gv (decide (a_ < j_)) (.int .i64 j_)), (25, gv (decide (a_ < j_)) (.pointer (some (ay.add (Int.toNat j_ * 1))))), (26, gv (decide (a_ < j_)) (.int .i64 y)), (27, gv (decide (a_ < j_)) v_data_), (28, gv (decide (a_ < j_)) (.int .i64 j_)), (29, gv (decide (a_ < j_)) (.int .i64 (i64 (j_ - 1)))), (30, gv (decide (a_ < j_)) (.pointer (some (ay2.add (Int.toNat (i64 (j_ - 1)) * 1))))), (31, gv (decide (a_ < j_)) (.int .i64 y2)), (32, gv (decide (a_ < j_)) (.int .i64 z)), (33, gv (decide (a_ < j_)) (.bool (decide (z < 0)))), (34, .bool c)] (by kernel_rfl) ⟨mE rfl rfl h9,
 mE rfl rfl h1,
 fun ρz wz hE hA _ ⟨u0, u1, _⟩ => core_val rfl rfl (o_gtr u0 u1 rfl),
 mU rfl rfl rfl,
 fun ρz wz hE hA ⟨e3, _⟩ ⟨u3, _⟩ => gIf rfl rfl (yT rfl u3) fun gc F hF => core_val rfl hF (o_move (e3.trans h3)),
 fun ρz wz hE hA ⟨e0, _⟩ ⟨u3, _⟩ => gIf rfl rfl (yT rfl u3) fun gc F hF => core_val rfl hF (o_move (e0.trans h0)),
 fun ρz wz hE hA ⟨e9, _⟩ ⟨u3, _⟩ => gIf rfl rfl (yT rfl u3) fun gc F hF => core_val rfl hF (o_move (e9.trans h9)),
 fun ρz wz hE hA _ ⟨u3, u5, u6, _⟩ => gIf rfl rfl (yT rfl u3) fun gc F hF => core_val rfl hF (o_indexAddr ((gt gc u5).trans (hvy gc)) (gt gc u6) (ia_22 (hiy gc))),
 fun ρz wz hE hA _ ⟨u3, u7, _⟩ => gIf rfl rfl (yT rfl u3) fun gc F hF => core_val rfl hF (o_load (gt gc u7) (run_load1 (lr_3 _ _) (((hAy gc).exn (hA rfl)).ca))),
 fun ρz wz hE hA ⟨e0, _⟩ ⟨u3, _⟩ => gIf rfl rfl (yT rfl u3) fun gc F hF => core_val rfl hF (o_move (e0.trans h0)),
 fun ρz wz hE hA ⟨e9, _⟩ ⟨u3, _⟩ => gIf rfl rfl (yT rfl u3) fun gc F hF => core_val rfl hF (o_move (e9.trans h9)),
 fun ρz wz hE hA _ ⟨u3, u10, _⟩ => gIf rfl rfl (yT rfl u3) fun gc F hF => core_val rfl hF (o_sub (gt gc u10) rfl rfl),
 fun ρz wz hE hA _ ⟨u3, u9, u11, _⟩ => gIf rfl rfl (yT rfl u3) fun gc F hF => core_val rfl hF (o_indexAddr ((gt gc u9).trans (hvy2 gc)) (gt gc u11) (ia_22 (hiy2 gc))),
 fun ρz wz hE hA _ ⟨u3, u12, _⟩ => gIf rfl rfl (yT rfl u3) fun gc F hF => core_val rfl hF (o_load (gt gc u12) (run_load1 (lr_3 _ _) (((hAy2 gc).exn (hA rfl)).ca))),
 fun ρz wz hE hA _ ⟨u3, u4, u8, u13, _⟩ => gIf rfl rfl (yT rfl u3) fun gc F hF => core_callF (V := fnV_27) (W := fnW_27) (a := (y, y2)) (r := z) hF (gt gc u4) (call_args2 (gt gc u8) (gt gc u13)) (H_cmp_.exn (hA rfl)).no (hz gc),
 fun ρz wz hE hA _ ⟨u3, u14, _⟩ => gIf rfl rfl (yT rfl u3) fun gc F hF => core_val rfl hF (o_lss (gt gc u14) rfl rfl),
 fun ρz wz hE hA _ ⟨u3, u15, _⟩ => core_valE rfl rfl (congrArg Value.bool hc) (o_pick_and u3 u15 rfl), trivial⟩ ?_
    intro ρ6 w6 hN hf hr
    have h34 := hv hf 16 rfl rfl
    obtain ⟨h0, h1, h2, h3, h8, h9⟩ := k6 hr h0 h1 h2 h3 h8 h9 rfl
    have Oo_O0 := O0
    have H_cmp_ := H_cmp_.exn hN
    have hW := hW.trans hN.of_no
    have O0 := Oo_O0.exn hN
    refine WP.cond rfl h34 (fun hb => ?_) (fun hb => ?_)
    · have hF := (if_pos hb).symm.trans hF
      refine WP.skip (WP.seq (WP.block ?_))
      obtain ⟨y3, hy3, hF⟩ := obind hF
      obtain ⟨ay3, cy3, hvy3, hiy3, hAy3⟩ := RepSl.getF (Own.rep (hn := fun _ => rfl) (G := noG) O0 (fun _ _ h => h)) hy3
      obtain ⟨y4, hy4, hF⟩ := obind hF
      obtain ⟨ay4, cy4, hvy4, hiy4, hAy4⟩ := RepSl.getF (Own.rep (hn := fun _ => rfl) (G := noG) O0 (fun _ _ h => h)) hy4
      obtain ⟨y5, hy5, hF⟩ := obind hF
      obtain ⟨ay5, cy5, hvy5, hiy5, hAy5⟩ := RepSl.getF (Own.rep (hn := fun _ => rfl) (G := noG) O0 (fun _ _ h => h)) hy5
      obtain ⟨y6, hy6, hF⟩ := obind hF
      obtain ⟨ay6, cy6, hvy6, hiy6, hAy6⟩ := RepSl.getF (Own.rep (hn := fun _ => rfl) (G := noG) O0 (fun _ _ h => h)) hy6
      refine WP.region mixed [[], [], [], [], [3], [], [], [6], [5, 7], [8], [], [], [10, 11], [12], [0, 1], [9, 13, 14], [2, 4, 15], [9, 13, 15, 16]] [[], [], [], [], [3], [], [], [6], [5, 7], [8], [], [], [10, 11], [12], [0, 1], [9, 14], [2, 4], [13, 15, 16]] [[0], [9], [0], [9], [], [0], [9], [], [], [], [0], [9], [], [], [], [], [], []] [15, 17] [(15, 17)] [val 37 (v_data_), val 38 (.int .i64 j_), val 39 (v_data_), val 40 (.int .i64 j_), val 41 (.int .i64 (i64 (j_ - 1))), val 42 (v_data_), val 43 (.int .i64 j_), val 44 (.int .i64 (i64 (j_ - 1))), val 45 (.pointer (some (ay3.add (Int.toNat (i64 (j_ - 1)) * 1)))), val 46 (.int .i64 y3), val 47 (v_data_), val 48 (.int .i64 j_), val 49 (.pointer (some (ay4.add (Int.toNat j_ * 1)))), val 50 (.int .i64 y4), val 51 (.pointer (some (ay5.add (Int.toNat j_ * 1)))), (51, fun _ wz => Own B 3 1 (fun x : Int => [Value.int .i64 x]) wz v_data_ (setI data_l2 j_ y3)), val 52 (.pointer (some (ay6.add (Int.toNat (i64 (j_ - 1)) * 1)))), (52, fun _ wz => Own B 3 1 (fun x : Int => [Value.int .i64 x]) wz v_data_ (setI (setI data_l2 j_ y3) (i64 (j_ - 1)) y4))] (fun b => Value.ownBlock v_data_ = some b) (by kernel_rfl) ⟨sV, sV, sV, sV, sV, sV, sV, sV, sV, sV, sV, sV, sV, sV, sV, fun _ _ _ hE h => h.exn hE, sV, fun _ _ _ hE h => h.exn hE, trivial⟩ ⟨mE rfl rfl h0,
 mE rfl rfl h9,
 mE rfl rfl h0,
 mE rfl rfl h9,
 fun ρz wz hE hA _ ⟨u3, _⟩ => core_val rfl rfl (o_sub u3 rfl rfl),
 mE rfl rfl h0,
 mE rfl rfl h9,
 fun ρz wz hE hA _ ⟨u6, _⟩ => core_val rfl rfl (o_sub u6 rfl rfl),
 fun ρz wz hE hA _ ⟨u5, u7, _⟩ => core_val rfl rfl (o_indexAddr (u5.trans hvy3) u7 (ia_22 hiy3)),
 fun ρz wz hE hA _ ⟨u8, _⟩ => core_val rfl rfl (o_load u8 (run_load1 (lr_3 _ _) ((hAy3.exn (hA rfl)).ca))),
 mE rfl rfl h0,
 mE rfl rfl h9,
 fun ρz wz hE hA _ ⟨u10, u11, _⟩ => core_val rfl rfl (o_indexAddr (u10.trans hvy4) u11 (ia_22 hiy4)),
 fun ρz wz hE hA _ ⟨u12, _⟩ => core_val rfl rfl (o_load u12 (run_load1 (lr_3 _ _) ((hAy4.exn (hA rfl)).ca))),
 fun ρz wz hE hA _ ⟨u0, u1, _⟩ => core_val rfl rfl (o_indexAddr (u0.trans hvy5) u1 (ia_22 hiy5)),
 fun ρz wz hE hA _ ⟨u9, u14, _⟩ => core_storeOwn (n := 1) (off := 0) (cells := fun x : Int => [Value.int .i64 x]) (y1 := y3) (vs := [Value.int .i64 y3]) rfl rfl (fun _ h => h) (fun _ => rfl) u14 hvy5 rfl u9 (O0.exn (hA rfl)) hy5 (fun a w => st_3 _ a w) (Nat.le_of_ble_eq_true rfl) (full_set (cells := fun x : Int => [Value.int .i64 x]) (n := 1) (fun _ => rfl) rfl) (one_3 _),
 fun ρz wz hE hA _ ⟨u2, u4, _⟩ => core_val rfl rfl (o_indexAddr (u2.trans hvy6) u4 (ia_22 hiy6)),
 fun ρz wz hE hA _ ⟨u13, u15, u16, _⟩ => core_storeOwn (n := 1) (off := 0) (cells := fun x : Int => [Value.int .i64 x]) (y1 := y4) (vs := [Value.int .i64 y4]) rfl rfl (fun _ h => h) (fun _ => rfl) u16 hvy6 rfl u13 u15 (Exists.choose_spec (getI_setI_some hy6)) (fun a w => st_3 _ a w) (Nat.le_of_ble_eq_true rfl) (full_set (cells := fun x : Int => [Value.int .i64 x]) (n := 1) (fun _ => rfl) rfl) (one_3 _), trivial⟩ ?_
      intro ρ7 w7 hE hN hf hr
      obtain ⟨h0, h1, h2, h3, h8, h9⟩ := k6 hr h0 h1 h2 h3 h8 h9 rfl
      have Oo_O0 := O0
      have H_cmp_ := H_cmp_.ext (hE.mono fun b hb => .inl hb)
      have hW := hW.trans hE
      have O0 := hf 17 rfl
      refine WP.rv mixed [[], [0], [0, 1]] [[], [0], [1]] [[9], [], []] [(35, .int .i64 j_), (36, .int .i64 (i64 (j_ - 1))), (9, .int .i64 (i64 (j_ - 1)))] (by kernel_rfl) ⟨mE rfl rfl h9,
 fun ρz wz hE hA _ ⟨u0, _⟩ => core_val rfl rfl (o_sub u0 rfl rfl),
 aU rfl rfl rfl, trivial⟩ ?_
      intro ρ8 w8 hN hf hr
      have h9 := hv hf 2 rfl rfl
      obtain ⟨h0, h1, h2, h3, h8⟩ := k5 hr h0 h1 h2 h3 h8 rfl
      have Oo_O0 := O0
      have H_cmp_ := H_cmp_.exn hN
      have hW := hW.trans hN.of_no
      have O0 := Oo_O0.exn hN
      exact ⟨i64 (j_ - 1), setI (setI data_l2 j_ y3) (i64 (j_ - 1)) y4, h0, h1, h2, h3, h8, h9, H_cmp_, O0, hW, (by first | exact hF | (rw [hrec_2]; exact hF))⟩
    have hF := (if_neg (Bool.eq_false_iff.1 hb)).symm.trans hF
    refine WP.exit (thenQ_exit (thenQ_exit (blockQ_hit (WP.rv mixed [[], [0], [0, 1]] [[], [0], [1]] [[8], [], []] [(15, .int .i64 i_), (16, .int .i64 (i64 (i_ + 1))), (8, .int .i64 (i64 (i_ + 1)))] (by kernel_rfl) ⟨mE rfl rfl h8,
 fun ρz wz hE hA _ ⟨u0, _⟩ => core_val rfl rfl (o_add u0 rfl rfl),
 aU rfl rfl rfl, trivial⟩ ?_))))
    intro ρ9 w9 hN hf hr
    have h8 := hv hf 2 rfl rfl
    obtain ⟨h0, h1, h2, h3⟩ := k4 hr h0 h1 h2 h3 rfl
    have Oo_O0 := O0
    have H_cmp_ := H_cmp_.exn hN
    have hW := hW.trans hN.of_no
    have O0 := Oo_O0.exn hN
    exact ⟨i64 (i_ + 1), data_l2, h0, h1, h2, h3, h8, H_cmp_, O0, hW, (by first | exact hF | (rw [hrec_]; exact hF))⟩
  have hF := (if_neg (Bool.eq_false_iff.1 hb)).symm.trans hF
  refine WP.exit (thenQ_exit (thenQ_exit (blockQ_hit ?_)))
  show retQ Tryz.prog 53 Tryz.f102 (fun v w1 => (v = .tuple #[] ∧ Own B 3 1 (fun x : Int => [Value.int .i64 x]) w1 v_data_ r) ∧ Ext (fun b => Value.ownBlock v_data_ = some b) w0 w1) .ret ρ3 w3
  obtain rfl := Option.some.inj hF
  exact res0 rfl ⟨⟨rfl, O0⟩, hW⟩

set_option maxHeartbeats 4000000 in
theorem slices_pdqsortCmpFunc_of_int_ok {w0 : World} (d_ : List Int) (i_ : Int) (p_ : Int) (p_2 : Int) (p_3 : (Int × Int) → Option Int) {v_d_ : Value} {B : Nat} (O0 : Own B 3 1 (fun x : Int => [Value.int .i64 x]) w0 v_d_ d_) {v_p_3 : Value} (H_p_3 : FnR Tryz.prog fnV_27 fnW_27 p_3 (fun b => Value.ownBlock v_d_ = some b) w0 v_p_3) {r : List Int} (hF : slices_pdqsortCmpFunc_of_int d_ i_ p_ p_2 p_3 = some r) :
    Calls Tryz.prog 75 #[v_d_, .int .i64 i_, .int .i64 p_, .int .i64 p_2, v_p_3] w0 fun e w1 => e = .returned (.tuple #[]) ∧ Ext (fun b => Value.ownBlock v_d_ = some b) w0 w1 ∧ Own B 3 1 (fun x : Int => [Value.int .i64 x]) w1 v_d_ r := by
  refine (Calls.start (P := Tryz.prog) (args := [v_d_, .int .i64 i_, .int .i64 p_, .int .i64 p_2, v_p_3]) (R := fun v w1 => (v = .tuple #[] ∧ Own B 3 1 (fun x : Int => [Value.int .i64 x]) w1 v_d_ r) ∧ Ext (fun b => Value.ownBlock v_d_ = some b) w0 w1) (n := 148) (w := w0) Tryz.func75 rfl rfl (Nat.le_of_ble_eq_true rfl) (fun ρ hargs => ?_)).mono (fun e w1 ⟨v, he, hv, hE⟩ => ⟨hv.1 ▸ he, hE, hv.2⟩)
  have h0 := hargs 0 _ rfl
  have h1 := hargs 1 _ rfl
  have h2 := hargs 2 _ rfl
  have h3 := hargs 3 _ rfl
  have h4 := hargs 4 _ rfl
  have hW := Ext.refl (fun b => Value.ownBlock v_d_ = some b) w0
  have H_p_3 := H_p_3.start
  rw [slices_pdqsortCmpFunc_of_int] at hF
  refine WP.seq (WP.rb mixed [[]] [[]] [(10, .bool true)] (by kernel_rfl) ⟨aC rfl rfl (fun _ => rfl), trivial⟩ ?_)
  intro ρ1 w1 hN hf hr
  have h10 := hv hf 0 rfl rfl
  obtain ⟨h0, h1, h2, h3, h4⟩ := k5 hr h0 h1 h2 h3 h4 rfl
  have Oo_O0 := O0
  have H_p_3 := H_p_3.exn hN
  have hW := hW.trans hN.of_no
  have O0 := Oo_O0.exn hN
  refine WP.seq (WP.rb mixed [[]] [[]] [(11, .bool true)] (by kernel_rfl) ⟨aC rfl rfl (fun _ => rfl), trivial⟩ ?_)
  intro ρ2 w2 hN hf hr
  have h11 := hv hf 0 rfl rfl
  obtain ⟨h0, h1, h2, h3, h4, h10⟩ := k6 hr h0 h1 h2 h3 h4 h10 rfl
  have Oo_O0 := O0
  have H_p_3 := H_p_3.exn hN
  have hW := hW.trans hN.of_no
  have O0 := Oo_O0.exn hN
  refine WP.block (WP.loop (fun k_ ρ w => ∃ i_2 : Int, ∃ x : Int, ∃ x2 : Int, ∃ x3 : Bool, ∃ x4 : Bool, ∃ d_l : List Int, ρ 0 = v_d_ ∧ ρ 1 = .int .i64 i_2 ∧ ρ 2 = .int .i64 x ∧ ρ 3 = .int .i64 x2 ∧ ρ 4 = v_p_3 ∧ ρ 10 = .bool x3 ∧ ρ 11 = .bool x4 ∧ FnR Tryz.prog fnV_27 fnW_27 p_3 (gfr (fun b => Value.ownBlock v_d_ = some b) w0) w v_p_3 ∧ Own B 3 1 (fun x : Int => [Value.int .i64 x]) w v_d_ d_l ∧ Ext (fun b => Value.ownBlock v_d_ = some b) w0 w ∧ loopC k_ (slices_pdqsortCmpFunc_of_int_l p_3) (i_2, x, x2, x3, x4, d_l) = some r) FU ⟨i_, p_, p_2, true, true, d_, h0, h1, h2, h3, h4, h10, h11, H_p_3, O0, hW, hF⟩ (fun _ _ h => by obtain ⟨_, _, _, _, _, _, _, _, _, _, _, _, _, _, _, _, h⟩ := h; cases h) ?_)
  rintro k_ ρ3 w3 ⟨i_2, x, x2, x3, x4, d_l, h0, h1, h2, h3, h4, h10, h11, H_p_3, O0, hW, hF⟩
  have hF : slices_pdqsortCmpFunc_of_int_l p_3 (loopC k_ (slices_pdqsortCmpFunc_of_int_l p_3)) (i_2, x, x2, x3, x4, d_l) = some r := (loopC_succ k_ (slices_pdqsortCmpFunc_of_int_l p_3) (i_2, x, x2, x3, x4, d_l)).symm.trans hF
  generalize hrec_ : loopC k_ (slices_pdqsortCmpFunc_of_int_l p_3) = rec_ at hF
  rw [slices_pdqsortCmpFunc_of_int_l] at hF
  refine WP.block (WP.seq (WP.rb mixed [[], [], [0, 1], [2]] [[2], [1], [], []] [(21, .int .i64 x), (22, .int .i64 i_2), (23, .int .i64 (i64 (x - i_2))), (12, .int .i64 (i64 (x - i_2)))] (by kernel_rfl) ⟨mE rfl rfl h2,
 mE rfl rfl h1,
 fun ρz wz hE hA _ ⟨u0, u1, _⟩ => core_val rfl rfl (o_sub u0 u1 rfl),
 aU rfl rfl rfl, trivial⟩ ?_))
  intro ρ4 w4 hN hf hr
  have h12 := hv hf 3 rfl rfl
  obtain ⟨h0, h1, h2, h3, h4, h10⟩ := k6 hr h0 h1 h2 h3 h4 h10 rfl
  have h11 := (hr 11 rfl).trans h11
  have Oo_O0 := O0
  have H_p_3 := H_p_3.exn hN
  have hW := hW.trans hN.of_no
  have O0 := Oo_O0.exn hN
  refine WP.seq (WP.seq (WP.rb mixed [[], [0]] [[12], []] [(24, .int .i64 (i64 (x - i_2))), (25, .bool (decide (i64 (x - i_2) ≤ 12)))] (by kernel_rfl) ⟨mE rfl rfl h12,
 fun ρz wz hE hA _ ⟨u0, _⟩ => core_val rfl rfl (o_leq u0 rfl rfl), trivial⟩ ?_))
  intro ρ5 w5 hN hf hr
  have h25 := hv hf 1 rfl rfl
  obtain ⟨h0, h1, h2, h3, h4, h10⟩ := k6 hr h0 h1 h2 h3 h4 h10 rfl
  obtain ⟨h11, h12⟩ := k2 hr h11 h12 rfl
  have Oo_O0 := O0
  have H_p_3 := H_p_3.exn hN
  have hW := hW.trans hN.of_no
  have O0 := Oo_O0.exn hN
  refine WP.cond rfl h25 (fun hb => ?_) (fun hb => ?_)
  · have hF := (if_pos hb).symm.trans hF
    refine WP.seq ?_
    obtain ⟨z, hz, hF⟩ := obind hF
    refine WP.region mixed [[], [], [], [], [0, 1, 2, 3]] [[], [], [], [], [0, 1, 2, 3]] [[0], [1], [2], [4], []] [4] [] [val 26 (v_d_), val 27 (.int .i64 i_2), val 28 (.int .i64 x), val 29 (v_p_3), (30, fun u wz => u = .tuple #[] ∧ Own B 3 1 (fun x : Int => [Value.int .i64 x]) wz v_d_ z)] (fun b => Value.ownBlock v_d_ = some b) (by kernel_rfl) ⟨sV, sV, sV, sV, fun _ _ _ hE ⟨h1, h2⟩ => ⟨h1, h2.exn hE⟩, trivial⟩ ⟨mE rfl rfl h0,
 mE rfl rfl h1,
 mE rfl rfl h2,
 mE rfl rfl h4,
 fun ρz wz hE hA _ ⟨u0, u1, u2, u3, _⟩ => core_callM rfl rfl (fun _ h => h) (call_args4 u0 u1 u2 u3) cf_102 (slices_insertionSortCmpFunc_of_int_ok  _ _ _ _ (O0.exn (hA rfl)) ((H_p_3.exn (hA rfl)).weaken (fun b _ hb => .inl hb)) hz), trivial⟩ ?_
    intro ρ6 w6 hE hN hf hr
    have h0 := (hr 0 rfl).trans h0
    have Oo_O0 := O0
    have hW := hW.trans hE
    have O0 := (hf 4 rfl).2
    refine WP.ret ?_
    show retQ Tryz.prog 148 Tryz.f75 (fun v w1 => (v = .tuple #[] ∧ Own B 3 1 (fun x : Int => [Value.int .i64 x]) w1 v_d_ r) ∧ Ext (fun b => Value.ownBlock v_d_ = some b) w0 w1) .ret ρ6 w6
    obtain rfl := Option.some.inj hF
    exact res0 rfl ⟨⟨rfl, O0⟩, hW⟩
  exact nomatch (if_neg (Bool.eq_false_iff.1 hb)).symm.trans hF

set_option maxHeartbeats 4000000 in
theorem slices_SortFunc_of__int_int_ok {w0 : World} (x_ : List Int) (cmp_ : (Int × Int) → Option Int) {v_x_ : Value} {B : Nat} (O0 : Own B 3 1 (fun x : Int => [Value.int .i64 x]) w0 v_x_ x_) {v_cmp_ : Value} (H_cmp_ : FnR Tryz.prog fnV_27 fnW_27 cmp_ (fun b => Value.ownBlock v_x_ = some b) w0 v_cmp_) {r : List Int} (hF : slices_SortFunc_of__int_int x_ cmp_ = some r) :
    Calls Tryz.prog 46 #[v_x_, v_cmp_] w0 fun e w1 => e = .returned (.tuple #[]) ∧ Ext (fun b => Value.ownBlock v_x_ = some b) w0 w1 ∧ Own B 3 1 (fun x : Int => [Value.int .i64 x]) w1 v_x_ r := by
  refine (Calls.start (P := Tryz.prog) (args := [v_x_, v_cmp_]) (R := fun v w1 => (v = .tuple #[] ∧ Own B 3 1 (fun x : Int => [Value.int .i64 x]) w1 v_x_ r) ∧ Ext (fun b => Value.ownBlock v_x_ = some b) w0 w1) (n := 14) (w := w0) Tryz.func46 rfl rfl (Nat.le_of_ble_eq_true rfl) (fun ρ hargs => ?_)).mono (fun e w1 ⟨v, he, hv, hE⟩ => ⟨hv.1 ▸ he, hE, hv.2⟩)
  have h0 := hargs 0 _ rfl
  have h1 := hargs 1 _ rfl
  have hW := Ext.refl (fun b => Value.ownBlock v_x_ = some b) w0
  have H_cmp_ := H_cmp_.start
  rw [slices_SortFunc_of__int_int] at hF
  refine WP.seq (WP.rb mixed [[], [0], [1]] [[0], [], []] [(5, v_x_), (6, .int .i64 (x_.length : Int)), (4, .int .i64 (x_.length : Int))] (by kernel_rfl) ⟨mE rfl rfl h0,
 fun ρz wz hE hA _ ⟨u0, _⟩ => core_val rfl rfl (o_len (u0.trans (Own.shape O0).choose_spec.choose_spec.1) len_22),
 aU rfl rfl rfl, trivial⟩ ?_)
  intro ρ1 w1 hN hf hr
  have h4 := hv hf 2 rfl rfl
  obtain ⟨h0, h1⟩ := k2 hr h0 h1 rfl
  have Oo_O0 := O0
  have H_cmp_ := H_cmp_.exn hN
  have hW := hW.trans hN.of_no
  have O0 := Oo_O0.exn hN
  obtain ⟨z, hz, hF⟩ := obind hF
  obtain ⟨z2, hz2, hF⟩ := obind hF
  refine WP.region mixed [[], [], [], [2], [3], [], [0, 1, 4, 5]] [[], [], [], [2], [3], [], [0, 1, 4, 5]] [[0], [4], [4], [], [], [1], []] [6] [] [val 7 (v_x_), val 8 (.int .i64 (x_.length : Int)), val 9 (.int .i64 (x_.length : Int)), val 10 (.int .u64 (u64 (x_.length : Int))), val 11 (.int .i64 z), val 12 (v_cmp_), (13, fun u wz => u = .tuple #[] ∧ Own B 3 1 (fun x : Int => [Value.int .i64 x]) wz v_x_ z2)] (fun b => Value.ownBlock v_x_ = some b) (by kernel_rfl) ⟨sV, sV, sV, sV, sV, sV, fun _ _ _ hE ⟨h1, h2⟩ => ⟨h1, h2.exn hE⟩, trivial⟩ ⟨mE rfl rfl h0,
 mE rfl rfl h4,
 mE rfl rfl h4,
 fun ρz wz hE hA _ ⟨u2, _⟩ => core_val rfl rfl (o_conv u2 (cv_3_101 _ _)),
 fun ρz wz hE hA _ ⟨u3, _⟩ => core_call rfl (call_args1 u3) cf_76 (bits_Len_ok  _  hz),
 mE rfl rfl h1,
 fun ρz wz hE hA _ ⟨u0, u1, u4, u5, _⟩ => core_callM rfl rfl (fun _ h => h) (call_args5 u0 rfl u1 u4 u5) cf_75 (slices_pdqsortCmpFunc_of_int_ok  _ _ _ _ _ (O0.exn (hA rfl)) ((H_cmp_.exn (hA rfl)).weaken (fun b _ hb => .inl hb)) hz2), trivial⟩ ?_
  intro ρ2 w2 hE hN hf hr
  have h0 := (hr 0 rfl).trans h0
  have Oo_O0 := O0
  have hW := hW.trans hE
  have O0 := (hf 6 rfl).2
  show retQ Tryz.prog 14 Tryz.f46 (fun v w1 => (v = .tuple #[] ∧ Own B 3 1 (fun x : Int => [Value.int .i64 x]) w1 v_x_ r) ∧ Ext (fun b => Value.ownBlock v_x_ = some b) w0 w1) .ret ρ2 w2
  obtain rfl := Option.some.inj hF
  exact res0 rfl ⟨⟨rfl, O0⟩, hW⟩

set_option maxHeartbeats 4000000 in
theorem family_Order_ok {w0 : World} (l_ : List Right) (home_ : Int) (t_ : List Rate) (month_ : Int) {v_l_ : Value} (H_l_ : RepSl Right.R noG w0 v_l_ l_) {v_t_ : Value} (H_t_ : RepSl Rate.R noG w0 v_t_ t_) {r : (List Int) × Int} (hF : family_Order l_ home_ t_ month_ = some r) :
    Calls Tryz.prog 22 #[v_l_, .int .i64 home_, v_t_, .int .i64 month_] w0 fun e w1 => ∃ v, e = .returned v ∧ Ext noG w0 w1 ∧ (∃ u0 : Value, v = .tuple #[u0, .int .i64 r.2] ∧ Own w0.heap.size 3 1 (fun x : Int => [Value.int .i64 x]) w1 u0 r.1) := by
  refine (Calls.start (P := Tryz.prog) (args := [v_l_, .int .i64 home_, v_t_, .int .i64 month_]) (R := fun v w1 => (∃ u0 : Value, v = .tuple #[u0, .int .i64 r.2] ∧ Own w0.heap.size 3 1 (fun x : Int => [Value.int .i64 x]) w1 u0 r.1) ∧ Ext noG w0 w1) (n := 44) (w := w0) Tryz.func22 rfl rfl (Nat.le_of_ble_eq_true rfl) (fun ρ hargs => ?_)).mono (fun e w1 ⟨v, he, hv, hE⟩ => ⟨v, he, hE, hv⟩)
  have h0 := hargs 0 _ rfl
  have h1 := hargs 1 _ rfl
  have h2 := hargs 2 _ rfl
  have h3 := hargs 3 _ rfl
  have hW := Ext.refl noG w0
  obtain ⟨_, _, hs_H_l_, _, _⟩ := RepSl.shape H_l_
  have H_l_ := H_l_.start
  obtain ⟨_, _, hs_H_t_, _, _⟩ := RepSl.shape H_t_
  have H_t_ := H_t_.start
  rw [family_Order] at hF
  refine WP.seq (WP.regionN mixed ⟨[[], [], [], [], [], []], [[], [], [], [], [], []], [[0], [1], [2], [3], [], []], [], [], [(0, 4), (1, 5), (2, 6), (3, 7)], []⟩ [(4, fun u wz => ∃ b, u = .pointer (some ⟨b, 0, none⟩) ∧ w0.heap.size ≤ b ∧ Mb wz b 47 [v_l_]), (5, fun u wz => ∃ b, u = .pointer (some ⟨b, 0, none⟩) ∧ w0.heap.size ≤ b ∧ Mb wz b 3 [Value.int .i64 home_]), (6, fun u wz => ∃ b, u = .pointer (some ⟨b, 0, none⟩) ∧ w0.heap.size ≤ b ∧ Mb wz b 68 [v_t_]), (7, fun u wz => ∃ b, u = .pointer (some ⟨b, 0, none⟩) ∧ w0.heap.size ≤ b ∧ Mb wz b 3 [Value.int .i64 month_]), val 8 (.slice none 0 0), val 9 (.int .i64 0)] (fun b => w0.heap.size ≤ b) (by kernel_rfl) (.inr (fun _ h => h)) ⟨TStable.box, TStable.box, TStable.box, TStable.box, sV, sV, trivial⟩ ⟨fun ρz wz hE hA ⟨e0, _⟩ _ => core_newN rfl rfl rfl hE (o_box (e0.trans h0) (bxv_47 ⟨_, _, _, hs_H_l_⟩ _)),
 fun ρz wz hE hA ⟨e1, _⟩ _ => core_newN rfl rfl rfl hE (o_box (e1.trans h1) (bx_3 _ _)),
 fun ρz wz hE hA ⟨e2, _⟩ _ => core_newN rfl rfl rfl hE (o_box (e2.trans h2) (bxv_68 ⟨_, _, _, hs_H_t_⟩ _)),
 fun ρz wz hE hA ⟨e3, _⟩ _ => core_newN rfl rfl rfl hE (o_box (e3.trans h3) (bx_3 _ _)),
 fun ρz wz hE hA _ _ => core_val rfl rfl (o_assign rfl),
 fun ρz wz hE hA _ _ => core_val rfl rfl (o_assign rfl), trivial⟩ ?_)
  intro ρ1 w1 hE hN hf hr hdist
  have hN := hE.fresh
  obtain ⟨b4_, h4, hge_b4_, Hb_b4_⟩ := hf 0 rfl
  obtain ⟨b5_, h5, hge_b5_, Hb_b5_⟩ := hf 1 rfl
  obtain ⟨b6_, h6, hge_b6_, Hb_b6_⟩ := hf 2 rfl
  obtain ⟨b7_, h7, hge_b7_, Hb_b7_⟩ := hf 3 rfl
  have H_l_ := H_l_.exn hN
  have H_t_ := H_t_.exn hN
  have hB_b4_ : w0.heap.size ≤ b4_ := Nat.le_trans hW.size hge_b4_
  have hB_b5_ : w0.heap.size ≤ b5_ := Nat.le_trans hW.size hge_b5_
  have hB_b6_ : w0.heap.size ≤ b6_ := Nat.le_trans hW.size hge_b6_
  have hB_b7_ : w0.heap.size ≤ b7_ := Nat.le_trans hW.size hge_b7_
  have hne_b4__b5_ : b4_ ≠ b5_ := fun h => hdist (0, 4) (by simp) (1, 5) (by simp) (by decide) b4_ (by rw [h4]; rfl) (by rw [h5, h]; rfl)
  have hne_b4__b6_ : b4_ ≠ b6_ := fun h => hdist (0, 4) (by simp) (2, 6) (by simp) (by decide) b4_ (by rw [h4]; rfl) (by rw [h6, h]; rfl)
  have hne_b4__b7_ : b4_ ≠ b7_ := fun h => hdist (0, 4) (by simp) (3, 7) (by simp) (by decide) b4_ (by rw [h4]; rfl) (by rw [h7, h]; rfl)
  have hne_b5__b6_ : b5_ ≠ b6_ := fun h => hdist (1, 5) (by simp) (2, 6) (by simp) (by decide) b5_ (by rw [h5]; rfl) (by rw [h6, h]; rfl)
  have hne_b5__b7_ : b5_ ≠ b7_ := fun h => hdist (1, 5) (by simp) (3, 7) (by simp) (by decide) b5_ (by rw [h5]; rfl) (by rw [h7, h]; rfl)
  have hne_b6__b7_ : b6_ ≠ b7_ := fun h => hdist (2, 6) (by simp) (3, 7) (by simp) (by decide) b6_ (by rw [h6]; rfl) (by rw [h7, h]; rfl)
  have hW := hW.trans hN
  refine WP.seq (WP.seq ?_)
  obtain ⟨z, hz, hF⟩ := obind hF
  obtain ⟨c, hc, hF⟩ := obind hF
  obtain ⟨z2, hz2, hc⟩ := orB hc
  have hc := orE hc
  refine WP.rb mixed [[], [0], [1], [2], [3], [3, 4], [3, 5], [6], [7], [7, 8], [7, 9], [10], [11], [11, 12], [11, 13], [11, 14]] [[4], [], [], [], [7], [], [], [], [7], [], [], [], [6], [], [], []] [(13, v_l_), (14, .bool z), (15, .bool (!z)), (16, .bool (!z)), (17, gv (!(!z)) (.int .i64 month_)), (18, gv (!(!z)) (.bool (decide (month_ < 0)))), (19, .bool ((!z) || decide (month_ < 0))), (20, .bool ((!z) || decide (month_ < 0))), (21, gv (!((!z) || decide (month_ < 0))) (.int .i64 month_)), (22, gv (!((!z) || decide (month_ < 0))) (.bool (decide (2399 < month_)))), (23, .bool (((!z) || decide (month_ < 0)) || decide (2399 < month_))), (24, .bool (((!z) || decide (month_ < 0)) || decide (2399 < month_))), (25, gv (!(((!z) || decide (month_ < 0)) || decide (2399 < month_))) v_t_), (26, gv (!(((!z) || decide (month_ < 0)) || decide (2399 < month_))) (.int .i64 z2)), (27, gv (!(((!z) || decide (month_ < 0)) || decide (2399 < month_))) (.bool (z2 != 0))), (28, .bool c)] (by kernel_rfl) ⟨fun ρz wz hE hA ⟨e4, _⟩ _ => core_val rfl rfl (o_load (e4.trans h4) (run_load1 (lr_47 _ _) ((Hb_b4_.exn (hA rfl)).ca))),
 fun ρz wz hE hA _ ⟨u0, _⟩ => core_call rfl (call_args1 u0) cf_43 (family_valid_ok  _ (H_l_.exn (hA rfl)).no hz),
 fun ρz wz hE hA _ ⟨u1, _⟩ => core_val rfl rfl (o_not u1 rfl),
 mU rfl rfl rfl,
 fun ρz wz hE hA ⟨e7, _⟩ ⟨u3, _⟩ => gIf rfl rfl (yF rfl u3) fun gc F hF => core_val rfl hF (o_load (e7.trans h7) (run_load1 (lr_3 _ _) ((Hb_b7_.exn (hA rfl)).ca))),
 fun ρz wz hE hA _ ⟨u3, u4, _⟩ => gIf rfl rfl (yF rfl u3) fun gc F hF => core_val rfl hF (o_lss (gt gc u4) rfl rfl),
 fun ρz wz hE hA _ ⟨u3, u5, _⟩ => core_val rfl rfl (o_pick_or u3 rfl u5),
 mU rfl rfl rfl,
 fun ρz wz hE hA ⟨e7, _⟩ ⟨u7, _⟩ => gIf rfl rfl (yF rfl u7) fun gc F hF => core_val rfl hF (o_load (e7.trans h7) (run_load1 (lr_3 _ _) ((Hb_b7_.exn (hA rfl)).ca))),
 fun ρz wz hE hA _ ⟨u7, u8, _⟩ => gIf rfl rfl (yF rfl u7) fun gc F hF => core_val rfl hF (o_gtr (gt gc u8) rfl rfl),
 fun ρz wz hE hA _ ⟨u7, u9, _⟩ => core_val rfl rfl (o_pick_or u7 rfl u9),
 mU rfl rfl rfl,
 fun ρz wz hE hA ⟨e6, _⟩ ⟨u11, _⟩ => gIf rfl rfl (yF rfl u11) fun gc F hF => core_val rfl hF (o_load (e6.trans h6) (run_load1 (lr_68 _ _) ((Hb_b6_.exn (hA rfl)).ca))),
 fun ρz wz hE hA _ ⟨u11, u12, _⟩ => gIf rfl rfl (yF rfl u11) fun gc F hF => core_call hF (call_args1 (gt gc u12)) cf_44 (money_CheckRates_ok  _ (H_t_.exn (hA rfl)).no (hz2 gc)),
 fun ρz wz hE hA _ ⟨u11, u13, _⟩ => gIf rfl rfl (yF rfl u11) fun gc F hF => core_val rfl hF (o_neq (gt gc u13) rfl rfl),
 fun ρz wz hE hA _ ⟨u11, u14, _⟩ => core_valE rfl rfl (congrArg Value.bool hc) (o_pick_or u11 rfl u14), trivial⟩ ?_
  intro ρ2 w2 hN hf hr
  have h28 := hv hf 15 rfl rfl
  obtain ⟨h4, h5, h6, h7⟩ := k4 hr h4 h5 h6 h7 rfl
  have Hb_b4_n := Hb_b4_.exn hN
  have Hb_b5_n := Hb_b5_.exn hN
  have Hb_b6_n := Hb_b6_.exn hN
  have Hb_b7_n := Hb_b7_.exn hN
  have H_l_ := H_l_.exn hN
  have H_t_ := H_t_.exn hN
  have hW := hW.trans hN
  have Hb_b4_ := Hb_b4_n
  have Hb_b5_ := Hb_b5_n
  have Hb_b6_ := Hb_b6_n
  have Hb_b7_ := Hb_b7_n
  refine WP.cond rfl h28 (fun hb => ?_) (fun hb => ?_)
  · exact nomatch (if_pos hb).symm.trans hF
  have hF := (if_neg (Bool.eq_false_iff.1 hb)).symm.trans hF
  refine WP.skip (WP.seq (WP.region mixed [[], [], [0, 1]] [[], [], [0, 1]] [[5], [], []] [2] [(1, 2)] [val 29 (.func (.func 45) #[] #[.pointer (some ⟨b5_, 0, none⟩)]), (10, fun u wz => ∃ b, u = .pointer (some ⟨b, 0, none⟩) ∧ w2.heap.size ≤ b ∧ Mb wz b 71 [Value.nilFunc]), (10, fun u wz => ∃ b, u = .pointer (some ⟨b, 0, none⟩) ∧ w2.heap.size ≤ b ∧ Mb wz b 71 [.func (.func 45) #[] #[.pointer (some ⟨b5_, 0, none⟩)]])] (fun b => w2.heap.size ≤ b) (by kernel_rfl) ⟨sV, fun _ _ _ hE ⟨b, hb, hs, hM⟩ => ⟨b, hb, hs, hM.exn hE⟩, fun _ _ _ hE ⟨b, hb, hs, hM⟩ => ⟨b, hb, hs, hM.exn hE⟩, trivial⟩ ⟨fun ρz wz hE hA ⟨e5, _⟩ _ => core_val rfl rfl (o_makeFunc (call_args1 (e5.trans h5))),
 fun ρz wz hE hA _ _ => core_new rfl rfl hE (o_alloc (al_71 _)),
 fun ρz wz hE hA _ ⟨u0, u1, _⟩ => core_storeNew rfl rfl rfl rfl u0 u1 (stv_71 ⟨_, _, _, rfl⟩) rfl (one_val (oneC_func ⟨_, _, _, rfl⟩)), trivial⟩ ?_))
  intro ρ4 w4 hE hN hf hr
  have hN := hE.fresh
  obtain ⟨b10_, h10, hge_b10_, Hb_b10_⟩ := hf 2 rfl
  obtain ⟨h4, h6, h7⟩ := k3 hr h4 h6 h7 rfl
  have Hb_b4_n := Hb_b4_.exn hN
  have Hb_b5_n := Hb_b5_.exn hN
  have Hb_b6_n := Hb_b6_.exn hN
  have Hb_b7_n := Hb_b7_.exn hN
  have H_l_ := H_l_.exn hN
  have H_t_ := H_t_.exn hN
  have hB_b10_ : w0.heap.size ≤ b10_ := Nat.le_trans hW.size hge_b10_
  have hne_b10__b4_ : b10_ ≠ b4_ := (Nat.ne_of_lt (Nat.lt_of_lt_of_le Hb_b4_.lt hge_b10_)).symm
  have hne_b10__b5_ : b10_ ≠ b5_ := (Nat.ne_of_lt (Nat.lt_of_lt_of_le Hb_b5_.lt hge_b10_)).symm
  have hne_b10__b6_ : b10_ ≠ b6_ := (Nat.ne_of_lt (Nat.lt_of_lt_of_le Hb_b6_.lt hge_b10_)).symm
  have hne_b10__b7_ : b10_ ≠ b7_ := (Nat.ne_of_lt (Nat.lt_of_lt_of_le Hb_b7_.lt hge_b10_)).symm
  have hW := hW.trans hN
  have Hb_b4_ := Hb_b4_n
  have Hb_b5_ := Hb_b5_n
  have Hb_b6_ := Hb_b6_n
  have Hb_b7_ := Hb_b7_n
  refine WP.seq (WP.rb mixed [[]] [[]] [(11, .slice none 0 0)] (by kernel_rfl) ⟨aC rfl rfl (fun _ => rfl), trivial⟩ ?_)
  intro ρ5 w5 hN hf hr
  have h11 : ρ5 11 = .slice none 0 0 := hf 0 rfl
  have O11 : Own w0.heap.size 3 1 (fun x : Int => [Value.int .i64 x]) w5 (.slice none 0 0) [] := Own.nil _ _ _ _ _
  obtain ⟨h4, h6, h7, h10⟩ := k4 hr h4 h6 h7 h10 rfl
  have Hb_b4_n := Hb_b4_.exn hN
  have Hb_b5_n := Hb_b5_.exn hN
  have Hb_b6_n := Hb_b6_.exn hN
  have Hb_b7_n := Hb_b7_.exn hN
  have Hb_b10_n := Hb_b10_.exn hN
  have H_l_ := H_l_.exn hN
  have H_t_ := H_t_.exn hN
  have hW := hW.trans hN
  have O11 : Own w0.heap.size 3 1 (fun x : Int => [Value.int .i64 x]) w5 (.slice none 0 0) [] := Own.nil _ _ _ _ _
  have hnb_O11_b4_ : Value.ownBlock (.slice none 0 0) ≠ some b4_ := by simp [Value.ownBlock]
  have hnb_O11_b5_ : Value.ownBlock (.slice none 0 0) ≠ some b5_ := by simp [Value.ownBlock]
  have hnb_O11_b6_ : Value.ownBlock (.slice none 0 0) ≠ some b6_ := by simp [Value.ownBlock]
  have hnb_O11_b7_ : Value.ownBlock (.slice none 0 0) ≠ some b7_ := by simp [Value.ownBlock]
  have hnb_O11_b10_ : Value.ownBlock (.slice none 0 0) ≠ some b10_ := by simp [Value.ownBlock]
  have Hb_b4_ := Hb_b4_n
  have Hb_b5_ := Hb_b5_n
  have Hb_b6_ := Hb_b6_n
  have Hb_b7_ := Hb_b7_n
  have Hb_b10_ := Hb_b10_n
  refine WP.seq (WP.seq (WP.rb mixed [[], [0], []] [[4], [], []] [(30, v_l_), (31, .int .i64 (l_.length : Int)), (32, .int .i64 0)] (by kernel_rfl) ⟨fun ρz wz hE hA ⟨e4, _⟩ _ => core_val rfl rfl (o_load (e4.trans h4) (run_load1 (lr_47 _ _) ((Hb_b4_.exn (hA rfl)).ca))),
 fun ρz wz hE hA _ ⟨u0, _⟩ => core_val rfl rfl (o_len (u0.trans hs_H_l_) len_47),
 mC rfl rfl (fun _ => rfl), trivial⟩ ?_))
  intro ρ6 w6 hN hf hr
  have h31 := hv hf 1 rfl rfl
  have h32 := hv hf 2 rfl rfl
  obtain ⟨h4, h6, h7, h10, h11⟩ := k5 hr h4 h6 h7 h10 h11 rfl
  have Oo_O11 := O11
  have Hb_b4_n := Hb_b4_.exn hN
  have Hb_b5_n := Hb_b5_.exn hN
  have Hb_b6_n := Hb_b6_.exn hN
  have Hb_b7_n := Hb_b7_.exn hN
  have Hb_b10_n := Hb_b10_.exn hN
  have H_l_ := H_l_.exn hN
  have H_t_ := H_t_.exn hN
  have hW := hW.trans hN
  have O11 : Own w0.heap.size 3 1 (fun x : Int => [Value.int .i64 x]) w6 (.slice none 0 0) [] := Own.nil _ _ _ _ _
  have hnb_O11_b4_ : Value.ownBlock (.slice none 0 0) ≠ some b4_ := by simp [Value.ownBlock]
  have hnb_O11_b5_ : Value.ownBlock (.slice none 0 0) ≠ some b5_ := by simp [Value.ownBlock]
  have hnb_O11_b6_ : Value.ownBlock (.slice none 0 0) ≠ some b6_ := by simp [Value.ownBlock]
  have hnb_O11_b7_ : Value.ownBlock (.slice none 0 0) ≠ some b7_ := by simp [Value.ownBlock]
  have hnb_O11_b10_ : Value.ownBlock (.slice none 0 0) ≠ some b10_ := by simp [Value.ownBlock]
  have Hb_b4_ := Hb_b4_n
  have Hb_b5_ := Hb_b5_n
  have Hb_b6_ := Hb_b6_n
  have Hb_b7_ := Hb_b7_n
  have Hb_b10_ := Hb_b10_n
  refine WP.block (WP.loop (fun k_ ρ w => ∃ out_ : List Int, ∃ x : Int, ∃ v11_ : Value, ρ 4 = .pointer (some ⟨b4_, 0, none⟩) ∧ ρ 6 = .pointer (some ⟨b6_, 0, none⟩) ∧ ρ 7 = .pointer (some ⟨b7_, 0, none⟩) ∧ ρ 10 = .pointer (some ⟨b10_, 0, none⟩) ∧ ρ 11 = v11_ ∧ ρ 31 = .int .i64 (l_.length : Int) ∧ ρ 32 = .int .i64 x ∧ Mb w b4_ 47 [v_l_] ∧ Mb w b5_ 3 [Value.int .i64 home_] ∧ Mb w b6_ 68 [v_t_] ∧ Mb w b7_ 3 [Value.int .i64 month_] ∧ Mb w b10_ 71 [.func (.func 45) #[] #[.pointer (some ⟨b5_, 0, none⟩)]] ∧ b4_ ≠ b5_ ∧ b4_ ≠ b6_ ∧ b4_ ≠ b7_ ∧ b5_ ≠ b6_ ∧ b5_ ≠ b7_ ∧ b6_ ≠ b7_ ∧ b10_ ≠ b4_ ∧ b10_ ≠ b5_ ∧ b10_ ≠ b6_ ∧ b10_ ≠ b7_ ∧ RepSl Right.R (gfr noG w0) w v_l_ l_ ∧ RepSl Rate.R (gfr noG w0) w v_t_ t_ ∧ Own w0.heap.size 3 1 (fun x : Int => [Value.int .i64 x]) w v11_ out_ ∧ Value.ownBlock v11_ ≠ some b4_ ∧ Value.ownBlock v11_ ≠ some b5_ ∧ Value.ownBlock v11_ ≠ some b6_ ∧ Value.ownBlock v11_ ≠ some b7_ ∧ Value.ownBlock v11_ ≠ some b10_ ∧ Ext noG w0 w ∧ loopC k_ (family_Order_l l_ home_ t_ month_) (out_, x) = some r) FU ⟨[], 0, .slice none 0 0, h4, h6, h7, h10, h11, h31, h32, Hb_b4_, Hb_b5_, Hb_b6_, Hb_b7_, Hb_b10_, hne_b4__b5_, hne_b4__b6_, hne_b4__b7_, hne_b5__b6_, hne_b5__b7_, hne_b6__b7_, hne_b10__b4_, hne_b10__b5_, hne_b10__b6_, hne_b10__b7_, H_l_, H_t_, O11, hnb_O11_b4_, hnb_O11_b5_, hnb_O11_b6_, hnb_O11_b7_, hnb_O11_b10_, hW, hF⟩ (fun _ _ h => by obtain ⟨_, _, _, _, _, _, _, _, _, _, _, _, _, _, _, _, _, _, _, _, _, _, _, _, _, _, _, _, _, _, _, _, _, _, h⟩ := h; cases h) ?_)
  rintro k_ ρ7 w7 ⟨out_, x, v11_, h4, h6, h7, h10, h11, h31, h32, Hb_b4_, Hb_b5_, Hb_b6_, Hb_b7_, Hb_b10_, hne_b4__b5_, hne_b4__b6_, hne_b4__b7_, hne_b5__b6_, hne_b5__b7_, hne_b6__b7_, hne_b10__b4_, hne_b10__b5_, hne_b10__b6_, hne_b10__b7_, H_l_, H_t_, O11, hnb_O11_b4_, hnb_O11_b5_, hnb_O11_b6_, hnb_O11_b7_, hnb_O11_b10_, hW, hF⟩
  have hF : family_Order_l l_ home_ t_ month_ (loopC k_ (family_Order_l l_ home_ t_ month_)) (out_, x) = some r := (loopC_succ k_ (family_Order_l l_ home_ t_ month_) (out_, x)).symm.trans hF
  generalize hrec_ : loopC k_ (family_Order_l l_ home_ t_ month_) = rec_ at hF
  rw [family_Order_l] at hF
  refine WP.seq (WP.rb mixed [[]] [[32, 31]] [(33, .bool (decide (x < (l_.length : Int))))] (by kernel_rfl) ⟨fun ρz wz hE hA ⟨e32, e31, _⟩ _ => core_val rfl rfl (o_lss (e32.trans h32) (e31.trans h31) rfl), trivial⟩ ?_)
  intro ρ8 w8 hN hf hr
  have h33 := hv hf 0 rfl rfl
  obtain ⟨h4, h6, h7, h10, h11, h31⟩ := k6 hr h4 h6 h7 h10 h11 h31 rfl
  have h32 := (hr 32 rfl).trans h32
  have Oo_O11 := O11
  have Hb_b4_n := Hb_b4_.exn hN
  have Hb_b5_n := Hb_b5_.exn hN
  have Hb_b6_n := Hb_b6_.exn hN
  have Hb_b7_n := Hb_b7_.exn hN
  have Hb_b10_n := Hb_b10_.exn hN
  have H_l_ := H_l_.exn hN
  have H_t_ := H_t_.exn hN
  have hW := hW.trans hN
  have O11 := Oo_O11.exn hN
  have Hb_b4_ := Hb_b4_n
  have Hb_b5_ := Hb_b5_n
  have Hb_b6_ := Hb_b6_n
  have Hb_b7_ := Hb_b7_n
  have Hb_b10_ := Hb_b10_n
  refine WP.seq (WP.cond rfl h33 (fun hb => ?_) (fun hb => ?_))
  · have hF := (if_pos hb).symm.trans hF
    refine WP.skip (WP.seq (WP.block (WP.seq (WP.rb mixed [[], [0]] [[32], []] [(34, .int .i64 x), (12, .int .i64 x)] (by kernel_rfl) ⟨mE rfl rfl h32,
 aU rfl rfl rfl, trivial⟩ ?_))))
    intro ρ9 w9 hN hf hr
    have h12 := hv hf 1 rfl rfl
    obtain ⟨h4, h6, h7, h10, h11, h31⟩ := k6 hr h4 h6 h7 h10 h11 h31 rfl
    have h32 := (hr 32 rfl).trans h32
    have Oo_O11 := O11
    have Hb_b4_n := Hb_b4_.exn hN
    have Hb_b5_n := Hb_b5_.exn hN
    have Hb_b6_n := Hb_b6_.exn hN
    have Hb_b7_n := Hb_b7_.exn hN
    have Hb_b10_n := Hb_b10_.exn hN
    have H_l_ := H_l_.exn hN
    have H_t_ := H_t_.exn hN
    have hW := hW.trans hN
    have O11 := Oo_O11.exn hN
    have Hb_b4_ := Hb_b4_n
    have Hb_b5_ := Hb_b5_n
    have Hb_b6_ := Hb_b6_n
    have Hb_b7_ := Hb_b7_n
    have Hb_b10_ := Hb_b10_n
    obtain ⟨l, hl, hF⟩ := obind hF
    refine WP.region mixed [[], [], [1], [0, 2], [0, 3]] [[], [], [1], [0, 2], [3]] [[11], [12], [], [], []] [3] [] [val 35 (v11_), val 36 (.int .i64 x), (37, fun u wz => ∃ b, u = .slice (some ⟨b, 0, none⟩) 1 1 ∧ w9.heap.size ≤ b ∧ Mb wz b 3 (([x]).flatMap (fun x : Int => [Value.int .i64 x]))), (38, fun u wz => Own w0.heap.size 3 1 (fun x : Int => [Value.int .i64 x]) wz u l ∧ ∀ b, u.ownBlock = some b → (v11_.ownBlock = some b ∨ w9.heap.size ≤ b)), (11, fun u wz => Own w0.heap.size 3 1 (fun x : Int => [Value.int .i64 x]) wz u l ∧ ∀ b, u.ownBlock = some b → (v11_.ownBlock = some b ∨ w9.heap.size ≤ b))] (fun b => Value.ownBlock v11_ = some b) (by kernel_rfl) ⟨sV, sV, fun _ _ _ hE ⟨b, hz, hs, hM⟩ => ⟨b, hz, hs, hM.ext hE (fun hg => absurd (O11.lt hg).2 (Nat.not_lt.2 hs))⟩, fun _ _ _ hE ⟨hO, hf⟩ => ⟨hO.exn hE, hf⟩, fun _ _ _ hE ⟨hO, hf⟩ => ⟨hO.exn hE, hf⟩, trivial⟩ ⟨mE rfl rfl h11,
 mE rfl rfl h12,
 fun ρz wz hE hA _ ⟨u1, _⟩ => core_slice rfl rfl hE (o_buildSlice (build_parts1 u1) (bs_22_1 _ _)),
 fun ρz wz hE hA _ ⟨u0, ⟨bz2, hzn2, hge2, hM2⟩, _⟩ => core_append (n := 1) (cells := fun x : Int => [Value.int .i64 x]) (B := w0.heap.size) (w0 := w9) rfl rfl (fun b hb => hb) u0 hzn2 (fun _ => rfl) one_3 si_22 se_3 (by decide) (by decide) (O11.exn (hA rfl)) ⟨_, (Mb.rep (n := 1) (cells := fun x : Int => [Value.int .i64 x]) (hn := fun _ => rfl) (G := noG) hM2 rfl (Nat.le_of_ble_eq_true rfl) (fun h => h))⟩ hl (Nat.le_trans hW.size hE.size) hE.size (fun v1 w1 h1 h2 => ⟨h1, h2⟩),
 fun ρz wz hE hA _ ⟨⟨hO3, hfr3⟩, _⟩ => core_copy rfl rfl (o_assign rfl) ⟨hO3, hfr3⟩, trivial⟩ ?_
    intro ρ10 w10 hE hN hf hr
    obtain ⟨v11_2, h11⟩ : ∃ v, ρ10 11 = v := ⟨_, rfl⟩
    have hq11 : (fun u wz => Own w0.heap.size 3 1 (fun x : Int => [Value.int .i64 x]) wz u l ∧ ∀ b, u.ownBlock = some b → (v11_.ownBlock = some b ∨ w9.heap.size ≤ b)) (ρ10 11) w10 := hf 4 rfl
    rw [h11] at hq11
    obtain ⟨hq11, hfr11⟩ := hq11
    obtain ⟨h4, h6, h7, h10, h31, h32⟩ := k6 hr h4 h6 h7 h10 h31 h32 rfl
    have Oo_O11 := O11
    have Hb_b4_n := Hb_b4_.ext hE (fun h => hnb_O11_b4_ h)
    have Hb_b5_n := Hb_b5_.ext hE (fun h => hnb_O11_b5_ h)
    have Hb_b6_n := Hb_b6_.ext hE (fun h => hnb_O11_b6_ h)
    have Hb_b7_n := Hb_b7_.ext hE (fun h => hnb_O11_b7_ h)
    have Hb_b10_n := Hb_b10_.ext hE (fun h => hnb_O11_b10_ h)
    have H_l_ := H_l_.over hE (fun b hb => (Oo_O11.lt hb).1)
    have H_t_ := H_t_.over hE (fun b hb => (Oo_O11.lt hb).1)
    have hW := Ext.own hW hE (fun b hb => (Oo_O11.lt hb).1)
    have O11 := hq11
    have hnb_O11_b4_ : Value.ownBlock v11_2 ≠ some b4_ := fun h1 => (hfr11 _ h1).elim (fun h => hnb_O11_b4_ h) (fun h => absurd Hb_b4_.lt (Nat.not_lt.2 h))
    have hnb_O11_b5_ : Value.ownBlock v11_2 ≠ some b5_ := fun h1 => (hfr11 _ h1).elim (fun h => hnb_O11_b5_ h) (fun h => absurd Hb_b5_.lt (Nat.not_lt.2 h))
    have hnb_O11_b6_ : Value.ownBlock v11_2 ≠ some b6_ := fun h1 => (hfr11 _ h1).elim (fun h => hnb_O11_b6_ h) (fun h => absurd Hb_b6_.lt (Nat.not_lt.2 h))
    have hnb_O11_b7_ : Value.ownBlock v11_2 ≠ some b7_ := fun h1 => (hfr11 _ h1).elim (fun h => hnb_O11_b7_ h) (fun h => absurd Hb_b7_.lt (Nat.not_lt.2 h))
    have hnb_O11_b10_ : Value.ownBlock v11_2 ≠ some b10_ := fun h1 => (hfr11 _ h1).elim (fun h => hnb_O11_b10_ h) (fun h => absurd Hb_b10_.lt (Nat.not_lt.2 h))
    have Hb_b4_ := Hb_b4_n
    have Hb_b5_ := Hb_b5_n
    have Hb_b6_ := Hb_b6_n
    have Hb_b7_ := Hb_b7_n
    have Hb_b10_ := Hb_b10_n
    refine WP.rb mixed [[], [0]] [[32], []] [(39, .int .i64 (i64 (x + 1))), (32, .int .i64 (i64 (x + 1)))] (by kernel_rfl) ⟨fun ρz wz hE hA ⟨e32, _⟩ _ => core_val rfl rfl (o_add (e32.trans h32) rfl rfl),
 mU rfl rfl rfl, trivial⟩ ?_
    intro ρ11 w11 hN hf hr
    have h32 := hv hf 1 rfl rfl
    obtain ⟨h4, h6, h7, h10, h11, h31⟩ := k6 hr h4 h6 h7 h10 h11 h31 rfl
    have Oo_O11 := O11
    have Hb_b4_n := Hb_b4_.exn hN
    have Hb_b5_n := Hb_b5_.exn hN
    have Hb_b6_n := Hb_b6_.exn hN
    have Hb_b7_n := Hb_b7_.exn hN
    have Hb_b10_n := Hb_b10_.exn hN
    have H_l_ := H_l_.exn hN
    have H_t_ := H_t_.exn hN
    have hW := hW.trans hN
    have O11 := Oo_O11.exn hN
    have Hb_b4_ := Hb_b4_n
    have Hb_b5_ := Hb_b5_n
    have Hb_b6_ := Hb_b6_n
    have Hb_b7_ := Hb_b7_n
    have Hb_b10_ := Hb_b10_n
    exact ⟨l, i64 (x + 1), v11_2, h4, h6, h7, h10, h11, h31, h32, Hb_b4_, Hb_b5_, Hb_b6_, Hb_b7_, Hb_b10_, hne_b4__b5_, hne_b4__b6_, hne_b4__b7_, hne_b5__b6_, hne_b5__b7_, hne_b6__b7_, hne_b10__b4_, hne_b10__b5_, hne_b10__b6_, hne_b10__b7_, H_l_, H_t_, O11, hnb_O11_b4_, hnb_O11_b5_, hnb_O11_b6_, hnb_O11_b7_, hnb_O11_b10_, hW, (by first | exact hF | (rw [hrec_]; exact hF))⟩
  have hF := (if_neg (Bool.eq_false_iff.1 hb)).symm.trans hF
  refine WP.exit (thenQ_exit (thenQ_exit (blockQ_hit (WP.seq ?_))))
  obtain ⟨z3, hz3, hF⟩ := obind hF
  refine WP.region mixed [[], [], [0, 1]] [[], [], [0, 1]] [[11], [4, 10, 6, 7], []] [2] [] [val 40 (v11_), val 41 (.func (.func 47) #[] #[.pointer (some ⟨b4_, 0, none⟩), .pointer (some ⟨b10_, 0, none⟩), .pointer (some ⟨b6_, 0, none⟩), .pointer (some ⟨b7_, 0, none⟩)]), (42, fun u wz => u = .tuple #[] ∧ Own w0.heap.size 3 1 (fun x : Int => [Value.int .i64 x]) wz v11_ z3)] (fun b => Value.ownBlock v11_ = some b) (by kernel_rfl) ⟨sV, sV, fun _ _ _ hE ⟨h1, h2⟩ => ⟨h1, h2.exn hE⟩, trivial⟩ ⟨mE rfl rfl h11,
 fun ρz wz hE hA ⟨e4, e10, e6, e7, _⟩ _ => core_val rfl rfl (o_makeFunc (call_args4 (e4.trans h4) (e10.trans h10) (e6.trans h6) (e7.trans h7))),
 fun ρz wz hE hA _ ⟨u0, u1, _⟩ => core_callM rfl rfl (fun _ h => h) (call_args2 u0 u1) cf_46 (slices_SortFunc_of__int_int_ok  _ _ (O11.exn (hA rfl)) (FnR.mk (V := fnV_27) (W := fnW_27) (G := (fun b => Value.ownBlock v11_ = some b)) (cap := [.pointer (some ⟨b4_, 0, none⟩), .pointer (some ⟨b10_, 0, none⟩), .pointer (some ⟨b6_, 0, none⟩), .pointer (some ⟨b7_, 0, none⟩)]) cf_47 (fun w' hE' x r hr => family_Order_2_ok _ _ _ _ _ _ ((Hb_b4_.exn (hA rfl)).ext hE' (fun h => hnb_O11_b4_ h)) ((H_l_.exn (hA rfl)).over hE' (fun b hb => (O11.lt hb).1)).no ((Hb_b10_.exn (hA rfl)).ext hE' (fun h => hnb_O11_b10_ h)) (((FnR.mk (V := fnV_71) (W := fnW_71) (G := (fun b => Value.ownBlock v11_ = some b)) (cap := [.pointer (some ⟨b5_, 0, none⟩)]) cf_45 (fun w' hE' x r hr => family_Order_1_ok _ _ ((Hb_b5_.exn (hA rfl)).ext hE' (fun h => hnb_O11_b5_ h)) hr))).ext hE').no ((Hb_b6_.exn (hA rfl)).ext hE' (fun h => hnb_O11_b6_ h)) ((H_t_.exn (hA rfl)).over hE' (fun b hb => (O11.lt hb).1)).no ((Hb_b7_.exn (hA rfl)).ext hE' (fun h => hnb_O11_b7_ h)) hr)) hz3), trivial⟩ ?_
  intro ρ12 w12 hE hN hf hr
  have h11 := (hr 11 rfl).trans h11
  have Oo_O11 := O11
  have hW := Ext.own hW hE (fun b hb => (Oo_O11.lt hb).1)
  have O11 := (hf 2 rfl).2
  refine WP.seq (WP.rb mixed [[], [0], []] [[11], [], []] [(43, v11_), (8, v11_), (9, .int .i64 0)] (by kernel_rfl) ⟨mE rfl rfl h11,
 aU rfl rfl rfl,
 aC rfl rfl (fun _ => rfl), trivial⟩ ?_)
  intro ρ13 w13 hN hf hr
  have h8 := hv hf 1 rfl rfl
  have h9 := hv hf 2 rfl rfl
  have Oo_O11 := O11
  have hW := hW.trans hN
  have O8 := Oo_O11.exn hN
  refine WP.ret ?_
  show retQ Tryz.prog 44 Tryz.f22 (fun v w1 => (∃ u0 : Value, v = .tuple #[u0, .int .i64 r.2] ∧ Own w0.heap.size 3 1 (fun x : Int => [Value.int .i64 x]) w1 u0 r.1) ∧ Ext noG w0 w1) .ret ρ13 w13
  obtain rfl := Option.some.inj hF
  exact res2 rfl (by decide) (by decide) h8 h9 ⟨⟨_, rfl, O8⟩, hW⟩

set_option maxHeartbeats 4000000 in
theorem money_amount_ok {w0 : World} (x_ : Int) {r : Bool} (hF : money_amount x_ = some r) :
    Calls Tryz.prog 81 #[.int .i64 x_] w0 fun e w1 => e = .returned (.bool r) ∧ Ext noG w0 w1 := by
  refine (Calls.start (P := Tryz.prog) (args := [.int .i64 x_]) (R := fun v w1 => v = .bool r ∧ Ext noG w0 w1) (n := 9) (w := w0) Tryz.func81 rfl rfl (Nat.le_of_ble_eq_true rfl) (fun ρ hargs => ?_)).mono (fun e w1 ⟨v, he, hv, hE⟩ => ⟨hv ▸ he, hE⟩)
  have h0 := hargs 0 _ rfl
  have hW := Ext.refl noG w0
  rw [money_amount] at hF
  refine WP.seq (WP.rb mixed [[]] [[]] [(2, .bool false)] (by kernel_rfl) ⟨aC rfl rfl (fun _ => rfl), trivial⟩ ?_)
  intro ρ1 w1 hN hf hr
  have h0 := (hr 0 rfl).trans h0
  have hW := hW.trans hN
  refine WP.seq (WP.rb mixed [[], [0], [1], [2], [2, 3], [2, 4], [5]] [[0], [], [], [0], [], [], []] [(3, .int .i64 x_), (4, .bool (decide ((-1000000000000) ≤ x_))), (5, .bool (decide ((-1000000000000) ≤ x_))), (6, gv (decide ((-1000000000000) ≤ x_)) (.int .i64 x_)), (7, gv (decide ((-1000000000000) ≤ x_)) (.bool (decide (x_ ≤ 1000000000000)))), (8, .bool (decide ((-1000000000000) ≤ x_) && decide (x_ ≤ 1000000000000))), (2, .bool (decide ((-1000000000000) ≤ x_) && decide (x_ ≤ 1000000000000)))] (by kernel_rfl) ⟨mE rfl rfl h0,
 fun ρz wz hE hA _ ⟨u0, _⟩ => core_val rfl rfl (o_geq u0 rfl rfl),
 mU rfl rfl rfl,
 fun ρz wz hE hA ⟨e0, _⟩ ⟨u2, _⟩ => gIf rfl rfl (yT rfl u2) fun gc F hF => core_val rfl hF (o_move (e0.trans h0)),
 fun ρz wz hE hA _ ⟨u2, u3, _⟩ => gIf rfl rfl (yT rfl u2) fun gc F hF => core_val rfl hF (o_leq (gt gc u3) rfl rfl),
 fun ρz wz hE hA _ ⟨u2, u4, _⟩ => core_val rfl rfl (o_pick_and u2 u4 rfl),
 aU rfl rfl rfl, trivial⟩ ?_)
  intro ρ2 w2 hN hf hr
  have h2 := hv hf 6 rfl rfl
  have hW := hW.trans hN
  refine WP.ret ?_
  show retQ Tryz.prog 9 Tryz.f81 (fun v w1 => v = .bool r ∧ Ext noG w0 w1) .ret ρ2 w2
  obtain rfl := Option.some.inj hF
  exact res1 rfl (by decide) h2 ⟨rfl, hW⟩

set_option maxHeartbeats 4000000 in
theorem money_ValidRounding_ok {w0 : World} (r_ : Rounding) {r : Bool} (hF : money_ValidRounding r_ = some r) :
    Calls Tryz.prog 82 #[Rounding.val r_] w0 fun e w1 => e = .returned (.bool r) ∧ Ext noG w0 w1 := by
  refine (Calls.start (P := Tryz.prog) (args := [Rounding.val r_]) (R := fun v w1 => v = .bool r ∧ Ext noG w0 w1) (n := 18) (w := w0) Tryz.func82 rfl rfl (Nat.le_of_ble_eq_true rfl) (fun ρ hargs => ?_)).mono (fun e w1 ⟨v, he, hv, hE⟩ => ⟨hv ▸ he, hE⟩)
  have h0 := hargs 0 _ rfl
  have hW := Ext.refl noG w0
  rw [money_ValidRounding] at hF
  refine WP.seq (WP.rg mixed [[], []] [[], []] [[0], []] [(1, fun u wz => ∃ b, u = .pointer (some ⟨b, 0, none⟩) ∧ w0.heap.size ≤ b ∧ Mb wz b 82 (Rounding.cells r_)), val 2 (.bool false)] (by kernel_rfl) ⟨fun _ _ _ hE ⟨b, hb, hs, hM⟩ => ⟨b, hb, hs, hM.exn hE⟩, sV, trivial⟩ ⟨fun ρz wz hE hA ⟨e0, _⟩ _ => core_new rfl rfl hE (o_box (e0.trans h0) (bx_82 _ _)),
 aC rfl rfl (fun _ => rfl), trivial⟩ ?_)
  intro ρ1 w1 hN hf hr
  obtain ⟨b1_, h1, hge_b1_, Hb_b1_⟩ := hf 0 rfl
  have hB_b1_ : w0.heap.size ≤ b1_ := Nat.le_trans hW.size hge_b1_
  have hW := hW.trans hN
  refine WP.seq (WP.seq (WP.rb mixed [[], [0]] [[1], []] [(3, .pointer (some ((⟨b1_, 0, none⟩ : Addr).add 0))), (4, .int .i64 r_.Mode)] (by kernel_rfl) ⟨fun ρz wz hE hA ⟨e1, _⟩ _ => core_val rfl rfl (o_fieldAddr (e1.trans h1) (fa_82_0 _ _)),
 fun ρz wz hE hA _ ⟨u0, _⟩ => core_val rfl rfl (o_load u0 (run_load1 (lr_3 _ _) (CA.sub ((Hb_b1_.exn (hA rfl)).ca) 0 1))), trivial⟩ ?_))
  intro ρ2 w2 hN hf hr
  have h4 := hv hf 1 rfl rfl
  have h1 := (hr 1 rfl).trans h1
  have Hb_b1_n := Hb_b1_.exn hN
  have hW := hW.trans hN
  have Hb_b1_ := Hb_b1_n
  refine WP.block (WP.seqJ (fun ρ w => ∃ x : Bool, ρ 1 = .pointer (some ⟨b1_, 0, none⟩) ∧ ρ 5 = .bool x ∧ Mb w b1_ 82 (Rounding.cells r_) ∧ Ext noG w0 w ∧ money_ValidRounding_j r_ x = some r) ?_ ?_)
  · refine WP.seq (WP.rb mixed [[], [0]] [[4], []] [(6, .bool (r_.Mode == 1)), (5, .bool (r_.Mode == 1))] (by kernel_rfl) ⟨fun ρz wz hE hA ⟨e4, _⟩ _ => core_val rfl rfl (o_eql (e4.trans h4) rfl rfl),
 aU rfl rfl rfl, trivial⟩ ?_)
    intro ρ6 w6 hN hf hr
    have h5 := hv hf 1 rfl rfl
    obtain ⟨h1, h4⟩ := k2 hr h1 h4 rfl
    have Hb_b1_n := Hb_b1_.exn hN
    have hW := hW.trans hN
    have Hb_b1_ := Hb_b1_n
    refine WP.cond rfl h5 (fun hb => ?_) (fun hb => ?_)
    · have hF := (if_pos hb).symm.trans hF
      refine WP.skip ?_
      exact ⟨(r_.Mode == 1), h1, h5, Hb_b1_, hW, hF⟩
    exact nomatch (if_neg (Bool.eq_false_iff.1 hb)).symm.trans hF
  rintro ρ3 w3 ⟨x, h1, h5, Hb_b1_, hW, hF⟩
  rw [money_ValidRounding_j] at hF
  refine WP.cond rfl h5 (fun hb => ?_) (fun hb => ?_)
  · have hF := (if_pos hb).symm.trans hF
    refine WP.seq (WP.rb mixed [[], [0], [1], [2], [3], [3, 4], [3, 5], [3, 6], [7]] [[1], [], [], [], [1], [], [], [], []] [(10, .pointer (some ((⟨b1_, 0, none⟩ : Addr).add 1))), (11, .int .i64 r_.Unit), (12, .bool (decide (1 ≤ r_.Unit))), (13, .bool (decide (1 ≤ r_.Unit))), (14, gv (decide (1 ≤ r_.Unit)) (.pointer (some ((⟨b1_, 0, none⟩ : Addr).add 1)))), (15, gv (decide (1 ≤ r_.Unit)) (.int .i64 r_.Unit)), (16, gv (decide (1 ≤ r_.Unit)) (.bool (decide (r_.Unit ≤ 100000)))), (17, .bool (decide (1 ≤ r_.Unit) && decide (r_.Unit ≤ 100000))), (2, .bool (decide (1 ≤ r_.Unit) && decide (r_.Unit ≤ 100000)))] (by kernel_rfl) ⟨fun ρz wz hE hA ⟨e1, _⟩ _ => core_val rfl rfl (o_fieldAddr (e1.trans h1) (fa_82_1 _ _)),
 fun ρz wz hE hA _ ⟨u0, _⟩ => core_val rfl rfl (o_load u0 (run_load1 (lr_3 _ _) (CA.sub ((Hb_b1_.exn (hA rfl)).ca) 1 1))),
 fun ρz wz hE hA _ ⟨u1, _⟩ => core_val rfl rfl (o_geq u1 rfl rfl),
 mU rfl rfl rfl,
 fun ρz wz hE hA ⟨e1, _⟩ ⟨u3, _⟩ => gIf rfl rfl (yT rfl u3) fun gc F hF => core_val rfl hF (o_fieldAddr (e1.trans h1) (fa_82_1 _ _)),
 fun ρz wz hE hA _ ⟨u3, u4, _⟩ => gIf rfl rfl (yT rfl u3) fun gc F hF => core_val rfl hF (o_load (gt gc u4) (run_load1 (lr_3 _ _) (CA.sub ((Hb_b1_.exn (hA rfl)).ca) 1 1))),
 fun ρz wz hE hA _ ⟨u3, u5, _⟩ => gIf rfl rfl (yT rfl u3) fun gc F hF => core_val rfl hF (o_leq (gt gc u5) rfl rfl),
 fun ρz wz hE hA _ ⟨u3, u6, _⟩ => core_val rfl rfl (o_pick_and u3 u6 rfl),
 aU rfl rfl rfl, trivial⟩ ?_)
    intro ρ4 w4 hN hf hr
    have h2 := hv hf 8 rfl rfl
    have hW := hW.trans hN
    refine WP.ret ?_
    show retQ Tryz.prog 18 Tryz.f82 (fun v w1 => v = .bool r ∧ Ext noG w0 w1) .ret ρ4 w4
    obtain rfl := Option.some.inj hF
    exact res1 rfl (by decide) h2 ⟨rfl, hW⟩
  exact nomatch (if_neg (Bool.eq_false_iff.1 hb)).symm.trans hF

set_option maxHeartbeats 4000000 in
theorem money_size_ok {w0 : World} (x_ : Int) {r : Int} (hF : money_size x_ = some r) :
    Calls Tryz.prog 84 #[.int .i64 x_] w0 fun e w1 => e = .returned (.int .u64 r) ∧ Ext noG w0 w1 := by
  refine (Calls.start (P := Tryz.prog) (args := [.int .i64 x_]) (R := fun v w1 => v = .int .u64 r ∧ Ext noG w0 w1) (n := 10) (w := w0) Tryz.func84 rfl rfl (Nat.le_of_ble_eq_true rfl) (fun ρ hargs => ?_)).mono (fun e w1 ⟨v, he, hv, hE⟩ => ⟨hv ▸ he, hE⟩)
  have h0 := hargs 0 _ rfl
  have hW := Ext.refl noG w0
  rw [money_size] at hF
  refine WP.seq (WP.rb mixed [[]] [[]] [(2, .int .u64 0)] (by kernel_rfl) ⟨aC rfl rfl (fun _ => rfl), trivial⟩ ?_)
  intro ρ1 w1 hN hf hr
  have h0 := (hr 0 rfl).trans h0
  have hW := hW.trans hN
  refine WP.seq (WP.seq (WP.rb mixed [[], [0]] [[0], []] [(3, .int .i64 x_), (4, .bool (decide (x_ < 0)))] (by kernel_rfl) ⟨mE rfl rfl h0,
 fun ρz wz hE hA _ ⟨u0, _⟩ => core_val rfl rfl (o_lss u0 rfl rfl), trivial⟩ ?_))
  intro ρ2 w2 hN hf hr
  have h4 := hv hf 1 rfl rfl
  have h0 := (hr 0 rfl).trans h0
  have hW := hW.trans hN
  refine WP.cond rfl h4 (fun hb => ?_) (fun hb => ?_)
  · exact nomatch (if_pos hb).symm.trans hF
  have hF := (if_neg (Bool.eq_false_iff.1 hb)).symm.trans hF
  refine WP.skip (WP.seq (WP.rb mixed [[], [0], [1]] [[0], [], []] [(8, .int .i64 x_), (9, .int .u64 (u64 x_)), (2, .int .u64 (u64 x_))] (by kernel_rfl) ⟨mE rfl rfl h0,
 fun ρz wz hE hA _ ⟨u0, _⟩ => core_val rfl rfl (o_conv u0 (cv_3_75 _ _)),
 aU rfl rfl rfl, trivial⟩ ?_))
  intro ρ4 w4 hN hf hr
  have h2 := hv hf 2 rfl rfl
  have hW := hW.trans hN
  refine WP.ret ?_
  show retQ Tryz.prog 10 Tryz.f84 (fun v w1 => v = .int .u64 r ∧ Ext noG w0 w1) .ret ρ4 w4
  obtain rfl := Option.some.inj hF
  exact res1 rfl (by decide) h2 ⟨rfl, hW⟩

set_option maxHeartbeats 4000000 in
theorem bits_LeadingZeros64_ok {w0 : World} (x_ : Int) {r : Int} (hF : bits_LeadingZeros64 x_ = some r) :
    Calls Tryz.prog 126 #[.int .u64 x_] w0 fun e w1 => e = .returned (.int .i64 r) ∧ Ext noG w0 w1 := by
  refine (Calls.start (P := Tryz.prog) (args := [.int .u64 x_]) (R := fun v w1 => v = .int .i64 r ∧ Ext noG w0 w1) (n := 6) (w := w0) Tryz.func126 rfl rfl (Nat.le_of_ble_eq_true rfl) (fun ρ hargs => ?_)).mono (fun e w1 ⟨v, he, hv, hE⟩ => ⟨hv ▸ he, hE⟩)
  have h0 := hargs 0 _ rfl
  have hW := Ext.refl noG w0
  rw [bits_LeadingZeros64] at hF
  refine WP.seq (WP.rb mixed [[]] [[]] [(2, .int .i64 0)] (by kernel_rfl) ⟨aC rfl rfl (fun _ => rfl), trivial⟩ ?_)
  intro ρ1 w1 hN hf hr
  have h0 := (hr 0 rfl).trans h0
  have hW := hW.trans hN
  refine WP.seq ?_
  obtain ⟨z, hz, hF⟩ := obind hF
  refine WP.rb mixed [[], [0], [1], [2]] [[0], [], [], []] [(3, .int .u64 x_), (4, .int .i64 z), (5, .int .i64 (i64 (64 - z))), (2, .int .i64 (i64 (64 - z)))] (by kernel_rfl) ⟨mE rfl rfl h0,
 fun ρz wz hE hA _ ⟨u0, _⟩ => core_call rfl (call_args1 u0) cf_111 (bits_Len64_ok  _  hz),
 fun ρz wz hE hA _ ⟨u1, _⟩ => core_val rfl rfl (o_sub rfl u1 rfl),
 aU rfl rfl rfl, trivial⟩ ?_
  intro ρ2 w2 hN hf hr
  have h2 := hv hf 3 rfl rfl
  have hW := hW.trans hN
  refine WP.ret ?_
  show retQ Tryz.prog 6 Tryz.f126 (fun v w1 => v = .int .i64 r ∧ Ext noG w0 w1) .ret ρ2 w2
  obtain rfl := Option.some.inj hF
  exact res1 rfl (by decide) h2 ⟨rfl, hW⟩

set_option maxHeartbeats 4000000 in
theorem bits_Div64_ok {w0 : World} (d_ : Int) (i_ : Int) (p_ : Int) {r : Int × Int} (hF : bits_Div64 d_ i_ p_ = some r) :
    Calls Tryz.prog 113 #[.int .u64 d_, .int .u64 i_, .int .u64 p_] w0 fun e w1 => e = .returned (.tuple #[.int .u64 r.1, .int .u64 r.2]) ∧ Ext noG w0 w1 := by
  refine (Calls.start (P := Tryz.prog) (args := [.int .u64 d_, .int .u64 i_, .int .u64 p_]) (R := fun v w1 => v = .tuple #[.int .u64 r.1, .int .u64 r.2] ∧ Ext noG w0 w1) (n := 135) (w := w0) Tryz.func113 rfl rfl (Nat.le_of_ble_eq_true rfl) (fun ρ hargs => ?_)).mono (fun e w1 ⟨v, he, hv, hE⟩ => ⟨hv ▸ he, hE⟩)
  have h0 := hargs 0 _ rfl
  have h1 := hargs 1 _ rfl
  have h2 := hargs 2 _ rfl
  have hW := Ext.refl noG w0
  rw [bits_Div64] at hF
  refine WP.seq (WP.rb mixed [[], []] [[], []] [(6, .int .u64 0), (7, .int .u64 0)] (by kernel_rfl) ⟨aC rfl rfl (fun _ => rfl),
 aC rfl rfl (fun _ => rfl), trivial⟩ ?_)
  intro ρ1 w1 hN hf hr
  obtain ⟨h0, h1, h2⟩ := k3 hr h0 h1 h2 rfl
  have hW := hW.trans hN
  refine WP.seqJ (fun ρ w => ρ 0 = .int .u64 d_ ∧ ρ 1 = .int .u64 i_ ∧ ρ 2 = .int .u64 p_ ∧ Ext noG w0 w ∧ bits_Div64_j d_ i_ p_ = some r) ?_ ?_
  · refine WP.seq (WP.rb mixed [[], [0]] [[2], []] [(19, .int .u64 p_), (20, .bool (p_ == 0))] (by kernel_rfl) ⟨mE rfl rfl h2,
 fun ρz wz hE hA _ ⟨u0, _⟩ => core_val rfl rfl (o_eql u0 rfl rfl), trivial⟩ ?_)
    intro ρ33 w33 hN hf hr
    have h20 := hv hf 1 rfl rfl
    obtain ⟨h0, h1, h2⟩ := k3 hr h0 h1 h2 rfl
    have hW := hW.trans hN
    refine WP.cond rfl h20 (fun hb => ?_) (fun hb => ?_)
    · exact nomatch (if_pos hb).symm.trans hF
    have hF := (if_neg (Bool.eq_false_iff.1 hb)).symm.trans hF
    refine WP.skip ?_
    exact ⟨h0, h1, h2, hW, hF⟩
  rintro ρ2 w2 ⟨h0, h1, h2, hW, hF⟩
  rw [bits_Div64_j] at hF
  refine WP.seqJ (fun ρ w => ρ 0 = .int .u64 d_ ∧ ρ 1 = .int .u64 i_ ∧ ρ 2 = .int .u64 p_ ∧ Ext noG w0 w ∧ bits_Div64_j2 d_ i_ p_ = some r) ?_ ?_
  · refine WP.seq (WP.rb mixed [[], [], [0, 1]] [[2], [0], []] [(22, .int .u64 p_), (23, .int .u64 d_), (24, .bool (decide (p_ ≤ d_)))] (by kernel_rfl) ⟨mE rfl rfl h2,
 mE rfl rfl h0,
 fun ρz wz hE hA _ ⟨u0, u1, _⟩ => core_val rfl rfl (o_leq u0 u1 rfl), trivial⟩ ?_)
    intro ρ32 w32 hN hf hr
    have h24 := hv hf 2 rfl rfl
    obtain ⟨h0, h1, h2⟩ := k3 hr h0 h1 h2 rfl
    have hW := hW.trans hN
    refine WP.cond rfl h24 (fun hb => ?_) (fun hb => ?_)
    · exact nomatch (if_pos hb).symm.trans hF
    have hF := (if_neg (Bool.eq_false_iff.1 hb)).symm.trans hF
    refine WP.skip ?_
    exact ⟨h0, h1, h2, hW, hF⟩
  rintro ρ3 w3 ⟨h0, h1, h2, hW, hF⟩
  rw [bits_Div64_j2] at hF
  refine WP.seq (WP.seq (WP.rb mixed [[], [0]] [[0], []] [(26, .int .u64 d_), (27, .bool (d_ == 0))] (by kernel_rfl) ⟨mE rfl rfl h0,
 fun ρz wz hE hA _ ⟨u0, _⟩ => core_val rfl rfl (o_eql u0 rfl rfl), trivial⟩ ?_))
  intro ρ4 w4 hN hf hr
  have h27 := hv hf 1 rfl rfl
  obtain ⟨h0, h1, h2⟩ := k3 hr h0 h1 h2 rfl
  have hW := hW.trans hN
  refine WP.cond rfl h27 (fun hb => ?_) (fun hb => ?_)
  · have hF := (if_pos hb).symm.trans hF
    refine WP.seq ?_
    obtain ⟨q, hq, hF⟩ := obind hF
    obtain ⟨q2, hq2, hF⟩ := obind hF
    refine WP.rb mixed [[], [], [0, 1], [], [], [3, 4], [2], [5]] [[1], [2], [], [1], [2], [], [], []] [(28, .int .u64 i_), (29, .int .u64 p_), (30, .int .u64 q), (31, .int .u64 i_), (32, .int .u64 p_), (33, .int .u64 q2), (6, .int .u64 q), (7, .int .u64 q2)] (by kernel_rfl) ⟨mE rfl rfl h1,
 mE rfl rfl h2,
 fun ρz wz hE hA _ ⟨u0, u1, _⟩ => core_val rfl rfl (o_quo u0 u1 (quoU_some hq).1 (quoU_some hq).2),
 mE rfl rfl h1,
 mE rfl rfl h2,
 fun ρz wz hE hA _ ⟨u3, u4, _⟩ => core_val rfl rfl (o_rem u3 u4 (remI_some hq2).1 (remI_some hq2).2),
 aU rfl rfl rfl,
 aU rfl rfl rfl, trivial⟩ ?_
    intro ρ5 w5 hN hf hr
    have h6 := hv hf 6 rfl rfl
    have h7 := hv hf 7 rfl rfl
    have hW := hW.trans hN
    refine WP.ret ?_
    show retQ Tryz.prog 135 Tryz.f113 (fun v w1 => v = .tuple #[.int .u64 r.1, .int .u64 r.2] ∧ Ext noG w0 w1) .ret ρ5 w5
    obtain rfl := Option.some.inj hF
    exact res2 rfl (by decide) (by decide) h6 h7 ⟨rfl, hW⟩
  exact nomatch (if_neg (Bool.eq_false_iff.1 hb)).symm.trans hF

set_option maxHeartbeats 4000000 in
theorem money_divide_ok {w0 : World} (d_ : Bool) (i_ : Int) (p_ : Int) (p_2 : Int) (p_3 : Rounding) {r : Int × Int} (hF : money_divide d_ i_ p_ p_2 p_3 = some r) :
    Calls Tryz.prog 83 #[.bool d_, .int .u64 i_, .int .u64 p_, .int .u64 p_2, Rounding.val p_3] w0 fun e w1 => e = .returned (.tuple #[.int .i64 r.1, .int .i64 r.2]) ∧ Ext noG w0 w1 := by
  refine (Calls.start (P := Tryz.prog) (args := [.bool d_, .int .u64 i_, .int .u64 p_, .int .u64 p_2, Rounding.val p_3]) (R := fun v w1 => v = .tuple #[.int .i64 r.1, .int .i64 r.2] ∧ Ext noG w0 w1) (n := 97) (w := w0) Tryz.func83 rfl rfl (Nat.le_of_ble_eq_true rfl) (fun ρ hargs => ?_)).mono (fun e w1 ⟨v, he, hv, hE⟩ => ⟨hv ▸ he, hE⟩)
  have h0 := hargs 0 _ rfl
  have h1 := hargs 1 _ rfl
  have h2 := hargs 2 _ rfl
  have h3 := hargs 3 _ rfl
  have h4 := hargs 4 _ rfl
  have hW := Ext.refl noG w0
  rw [money_divide] at hF
  refine WP.seq (WP.rg mixed [[], [], []] [[], [], []] [[4], [], []] [(9, fun u wz => ∃ b, u = .pointer (some ⟨b, 0, none⟩) ∧ w0.heap.size ≤ b ∧ Mb wz b 82 (Rounding.cells p_3)), val 10 (.int .i64 0), val 11 (.int .i64 0)] (by kernel_rfl) ⟨fun _ _ _ hE ⟨b, hb, hs, hM⟩ => ⟨b, hb, hs, hM.exn hE⟩, sV, sV, trivial⟩ ⟨fun ρz wz hE hA ⟨e4, _⟩ _ => core_new rfl rfl hE (o_box (e4.trans h4) (bx_82 _ _)),
 aC rfl rfl (fun _ => rfl),
 aC rfl rfl (fun _ => rfl), trivial⟩ ?_)
  intro ρ1 w1 hN hf hr
  obtain ⟨b9_, h9, hge_b9_, Hb_b9_⟩ := hf 0 rfl
  obtain ⟨h0, h1, h2, h3⟩ := k4 hr h0 h1 h2 h3 rfl
  have hB_b9_ : w0.heap.size ≤ b9_ := Nat.le_trans hW.size hge_b9_
  have hW := hW.trans hN
  refine WP.seq (WP.rb mixed [[], [], [1], [2], [0, 3], [4]] [[3], [9], [], [], [], []] [(17, .int .u64 p_2), (18, .pointer (some ((⟨b9_, 0, none⟩ : Addr).add 1))), (19, .int .i64 p_3.Unit), (20, .int .u64 (u64 p_3.Unit)), (21, .int .u64 (u64 (p_2 * (u64 p_3.Unit)))), (12, .int .u64 (u64 (p_2 * (u64 p_3.Unit))))] (by kernel_rfl) ⟨mE rfl rfl h3,
 fun ρz wz hE hA ⟨e9, _⟩ _ => core_val rfl rfl (o_fieldAddr (e9.trans h9) (fa_82_1 _ _)),
 fun ρz wz hE hA _ ⟨u1, _⟩ => core_val rfl rfl (o_load u1 (run_load1 (lr_3 _ _) (CA.sub ((Hb_b9_.exn (hA rfl)).ca) 1 1))),
 fun ρz wz hE hA _ ⟨u2, _⟩ => core_val rfl rfl (o_conv u2 (cv_3_75 _ _)),
 fun ρz wz hE hA _ ⟨u0, u3, _⟩ => core_val rfl rfl (o_mul u0 u3 rfl),
 aU rfl rfl rfl, trivial⟩ ?_)
  intro ρ2 w2 hN hf hr
  have h12 := hv hf 5 rfl rfl
  obtain ⟨h0, h1, h2, h9⟩ := k4 hr h0 h1 h2 h9 rfl
  have Hb_b9_n := Hb_b9_.exn hN
  have hW := hW.trans hN
  have Hb_b9_ := Hb_b9_n
  refine WP.seq (WP.seq (WP.rb mixed [[], [], [0, 1]] [[1], [12], []] [(22, .int .u64 i_), (23, .int .u64 (u64 (p_2 * (u64 p_3.Unit)))), (24, .bool (decide (u64 (p_2 * (u64 p_3.Unit)) ≤ i_)))] (by kernel_rfl) ⟨mE rfl rfl h1,
 mE rfl rfl h12,
 fun ρz wz hE hA _ ⟨u0, u1, _⟩ => core_val rfl rfl (o_geq u0 u1 rfl), trivial⟩ ?_))
  intro ρ3 w3 hN hf hr
  have h24 := hv hf 2 rfl rfl
  obtain ⟨h0, h1, h2, h9, h12⟩ := k5 hr h0 h1 h2 h9 h12 rfl
  have Hb_b9_n := Hb_b9_.exn hN
  have hW := hW.trans hN
  have Hb_b9_ := Hb_b9_n
  refine WP.cond rfl h24 (fun hb => ?_) (fun hb => ?_)
  · exact nomatch (if_pos hb).symm.trans hF
  have hF := (if_neg (Bool.eq_false_iff.1 hb)).symm.trans hF
  refine WP.skip (WP.seq ?_)
  obtain ⟨z, hz, hF⟩ := obind hF
  refine WP.rb mixed [[], [], [], [0, 1, 2], [3], [4], [4], [5], [6]] [[1], [2], [12], [], [], [], [], [], []] [(26, .int .u64 i_), (27, .int .u64 p_), (28, .int .u64 (u64 (p_2 * (u64 p_3.Unit)))), (29, .tuple #[.int .u64 z.1, .int .u64 z.2]), (25, .tuple #[.int .u64 z.1, .int .u64 z.2]), (30, .int .u64 z.1), (31, .int .u64 z.2), (13, .int .u64 z.1), (14, .int .u64 z.2)] (by kernel_rfl) ⟨mE rfl rfl h1,
 mE rfl rfl h2,
 mE rfl rfl h12,
 fun ρz wz hE hA _ ⟨u0, u1, u2, _⟩ => core_call rfl (call_args3 u0 u1 u2) cf_113 (bits_Div64_ok  _ _ _  hz),
 mU rfl rfl rfl,
 fun ρz wz hE hA _ ⟨u4, _⟩ => core_val rfl rfl (o_extract u4 (by kernel_rfl)),
 fun ρz wz hE hA _ ⟨u4, _⟩ => core_val rfl rfl (o_extract u4 (by kernel_rfl)),
 aU rfl rfl rfl,
 aU rfl rfl rfl, trivial⟩ ?_
  intro ρ5 w5 hN hf hr
  have h13 := hv hf 7 rfl rfl
  have h14 := hv hf 8 rfl rfl
  obtain ⟨h0, h9, h12⟩ := k3 hr h0 h9 h12 rfl
  have Hb_b9_n := Hb_b9_.exn hN
  have hW := hW.trans hN
  have Hb_b9_ := Hb_b9_n
  refine WP.seq (WP.seq (WP.rb mixed [[], [0]] [[13], []] [(32, .int .u64 z.1), (33, .bool (decide (2000000000000 < z.1)))] (by kernel_rfl) ⟨mE rfl rfl h13,
 fun ρz wz hE hA _ ⟨u0, _⟩ => core_val rfl rfl (o_gtr u0 rfl rfl), trivial⟩ ?_))
  intro ρ6 w6 hN hf hr
  have h33 := hv hf 1 rfl rfl
  obtain ⟨h0, h9, h12, h13, h14⟩ := k5 hr h0 h9 h12 h13 h14 rfl
  have Hb_b9_n := Hb_b9_.exn hN
  have hW := hW.trans hN
  have Hb_b9_ := Hb_b9_n
  refine WP.cond rfl h33 (fun hb => ?_) (fun hb => ?_)
  · exact nomatch (if_pos hb).symm.trans hF
  have hF := (if_neg (Bool.eq_false_iff.1 hb)).symm.trans hF
  refine WP.skip (WP.seq (WP.rb mixed [[], [0], [1]] [[13], [], []] [(34, .int .u64 z.1), (35, .int .i64 (i64 z.1)), (15, .int .i64 (i64 z.1))] (by kernel_rfl) ⟨mE rfl rfl h13,
 fun ρz wz hE hA _ ⟨u0, _⟩ => core_val rfl rfl (o_conv u0 (cv_75_3 _ _)),
 aU rfl rfl rfl, trivial⟩ ?_))
  intro ρ8 w8 hN hf hr
  have h15 := hv hf 2 rfl rfl
  obtain ⟨h0, h9, h12, h14⟩ := k4 hr h0 h9 h12 h14 rfl
  have Hb_b9_n := Hb_b9_.exn hN
  have hW := hW.trans hN
  have Hb_b9_ := Hb_b9_n
  refine WP.seqJ (fun ρ w => ∃ x : Int, ∃ x2 : Int, ρ 9 = .pointer (some ⟨b9_, 0, none⟩) ∧ ρ 12 = .int .u64 (u64 (p_2 * (u64 p_3.Unit))) ∧ ρ 14 = .int .u64 x ∧ ρ 15 = .int .i64 x2 ∧ Mb w b9_ 82 (Rounding.cells p_3) ∧ Ext noG w0 w ∧ money_divide_j p_3 x x2 = some r) ?_ ?_
  · refine WP.seq (WP.rb mixed [[]] [[0]] [(36, .bool d_)] (by kernel_rfl) ⟨mE rfl rfl h0, trivial⟩ ?_)
    intro ρ25 w25 hN hf hr
    have h36 := hv hf 0 rfl rfl
    obtain ⟨h9, h12, h14, h15⟩ := k4 hr h9 h12 h14 h15 rfl
    have Hb_b9_n := Hb_b9_.exn hN
    have hW := hW.trans hN
    have Hb_b9_ := Hb_b9_n
    refine WP.cond rfl h36 (fun hb => ?_) (fun hb => ?_)
    · exact nomatch (if_pos hb).symm.trans hF
    have hF := (if_neg (Bool.eq_false_iff.1 hb)).symm.trans hF
    refine WP.skip ?_
    exact ⟨z.2, i64 z.1, h9, h12, h14, h15, Hb_b9_, hW, hF⟩
  rintro ρ9 w9 ⟨x, x2, h9, h12, h14, h15, Hb_b9_, hW, hF⟩
  rw [money_divide_j] at hF
  refine WP.seq (WP.rb mixed [[]] [[]] [(16, .bool false)] (by kernel_rfl) ⟨aC rfl rfl (fun _ => rfl), trivial⟩ ?_)
  intro ρ10 w10 hN hf hr
  have h16 := hv hf 0 rfl rfl
  obtain ⟨h9, h12, h14, h15⟩ := k4 hr h9 h12 h14 h15 rfl
  have Hb_b9_n := Hb_b9_.exn hN
  have hW := hW.trans hN
  have Hb_b9_ := Hb_b9_n
  refine WP.seqJ (fun ρ w => ∃ x3 : Bool, ρ 9 = .pointer (some ⟨b9_, 0, none⟩) ∧ ρ 15 = .int .i64 x2 ∧ ρ 16 = .bool x3 ∧ Mb w b9_ 82 (Rounding.cells p_3) ∧ Ext noG w0 w ∧ money_divide_j2 p_3 x2 x3 = some r) ?_ ?_
  · refine WP.seq (WP.rb mixed [[], [0]] [[9], []] [(46, .pointer (some ((⟨b9_, 0, none⟩ : Addr).add 0))), (47, .int .i64 p_3.Mode)] (by kernel_rfl) ⟨fun ρz wz hE hA ⟨e9, _⟩ _ => core_val rfl rfl (o_fieldAddr (e9.trans h9) (fa_82_0 _ _)),
 fun ρz wz hE hA _ ⟨u0, _⟩ => core_val rfl rfl (o_load u0 (run_load1 (lr_3 _ _) (CA.sub ((Hb_b9_.exn (hA rfl)).ca) 0 1))), trivial⟩ ?_)
    intro ρ18 w18 hN hf hr
    have h47 := hv hf 1 rfl rfl
    obtain ⟨h9, h12, h14, h15, h16⟩ := k5 hr h9 h12 h14 h15 h16 rfl
    have Hb_b9_n := Hb_b9_.exn hN
    have hW := hW.trans hN
    have Hb_b9_ := Hb_b9_n
    refine WP.block (WP.seq (WP.rb mixed [[], [0]] [[47], []] [(49, .bool (p_3.Mode == 2)), (48, .bool (p_3.Mode == 2))] (by kernel_rfl) ⟨fun ρz wz hE hA ⟨e47, _⟩ _ => core_val rfl rfl (o_eql (e47.trans h47) rfl rfl),
 aU rfl rfl rfl, trivial⟩ ?_))
    intro ρ19 w19 hN hf hr
    have h48 := hv hf 1 rfl rfl
    obtain ⟨h9, h12, h14, h15, h16, h47⟩ := k6 hr h9 h12 h14 h15 h16 h47 rfl
    have Hb_b9_n := Hb_b9_.exn hN
    have hW := hW.trans hN
    have Hb_b9_ := Hb_b9_n
    refine WP.cond rfl h48 (fun hb => ?_) (fun hb => ?_)
    · exact nomatch (if_pos hb).symm.trans hF
    have hF := (if_neg (Bool.eq_false_iff.1 hb)).symm.trans hF
    refine WP.seq (WP.rb mixed [[], [0]] [[47], []] [(53, .bool (p_3.Mode == 3)), (52, .bool (p_3.Mode == 3))] (by kernel_rfl) ⟨fun ρz wz hE hA ⟨e47, _⟩ _ => core_val rfl rfl (o_eql (e47.trans h47) rfl rfl),
 aU rfl rfl rfl, trivial⟩ ?_)
    intro ρ21 w21 hN hf hr
    have h52 := hv hf 1 rfl rfl
    obtain ⟨h9, h12, h14, h15, h16, h47⟩ := k6 hr h9 h12 h14 h15 h16 h47 rfl
    have Hb_b9_n := Hb_b9_.exn hN
    have hW := hW.trans hN
    have Hb_b9_ := Hb_b9_n
    refine WP.cond rfl h52 (fun hb => ?_) (fun hb => ?_)
    · exact nomatch (if_pos hb).symm.trans hF
    have hF := (if_neg (Bool.eq_false_iff.1 hb)).symm.trans hF
    refine WP.seq (WP.rb mixed [[], [0]] [[47], []] [(60, .bool (p_3.Mode == 4)), (59, .bool (p_3.Mode == 4))] (by kernel_rfl) ⟨fun ρz wz hE hA ⟨e47, _⟩ _ => core_val rfl rfl (o_eql (e47.trans h47) rfl rfl),
 aU rfl rfl rfl, trivial⟩ ?_)
    intro ρ23 w23 hN hf hr
    have h59 := hv hf 1 rfl rfl
    obtain ⟨h9, h12, h14, h15, h16⟩ := k5 hr h9 h12 h14 h15 h16 rfl
    have Hb_b9_n := Hb_b9_.exn hN
    have hW := hW.trans hN
    have Hb_b9_ := Hb_b9_n
    refine WP.cond rfl h59 (fun hb => ?_) (fun hb => ?_)
    · exact nomatch (if_pos hb).symm.trans hF
    have hF := (if_neg (Bool.eq_false_iff.1 hb)).symm.trans hF
    refine WP.skip ?_
    exact ⟨false, h9, h15, h16, Hb_b9_, hW, hF⟩
  rintro ρ11 w11 ⟨x3, h9, h15, h16, Hb_b9_, hW, hF⟩
  rw [money_divide_j2] at hF
  refine WP.seqJ (fun ρ w => ∃ x4 : Int, ρ 9 = .pointer (some ⟨b9_, 0, none⟩) ∧ ρ 15 = .int .i64 x4 ∧ Mb w b9_ 82 (Rounding.cells p_3) ∧ Ext noG w0 w ∧ money_divide_j3 p_3 x4 = some r) ?_ ?_
  · refine WP.seq (WP.rb mixed [[]] [[16]] [(78, .bool x3)] (by kernel_rfl) ⟨mE rfl rfl h16, trivial⟩ ?_)
    intro ρ16 w16 hN hf hr
    have h78 := hv hf 0 rfl rfl
    obtain ⟨h9, h15⟩ := k2 hr h9 h15 rfl
    have Hb_b9_n := Hb_b9_.exn hN
    have hW := hW.trans hN
    have Hb_b9_ := Hb_b9_n
    refine WP.cond rfl h78 (fun hb => ?_) (fun hb => ?_)
    · exact nomatch (if_pos hb).symm.trans hF
    have hF := (if_neg (Bool.eq_false_iff.1 hb)).symm.trans hF
    refine WP.skip ?_
    exact ⟨x2, h9, h15, Hb_b9_, hW, hF⟩
  rintro ρ12 w12 ⟨x4, h9, h15, Hb_b9_, hW, hF⟩
  rw [money_divide_j3] at hF
  refine WP.seq (WP.seq ?_)
  obtain ⟨q, hq, hF⟩ := obind hF
  obtain ⟨c, hc, hF⟩ := obind hF
  obtain ⟨q2, hq2, hc⟩ := orB hc
  have hc := orE hc
  refine WP.rb mixed [[], [], [1], [2], [0, 3], [4], [5], [5], [5, 7], [5, 8], [5, 6, 9], [5, 10]] [[15], [9], [], [], [], [], [15], [9], [], [], [], []] [(81, .int .i64 x4), (82, .pointer (some ((⟨b9_, 0, none⟩ : Addr).add 1))), (83, .int .i64 p_3.Unit), (84, .int .i64 q), (85, .bool (decide (q < x4))), (86, .bool (decide (q < x4))), (87, gv (!(decide (q < x4))) (.int .i64 x4)), (88, gv (!(decide (q < x4))) (.pointer (some ((⟨b9_, 0, none⟩ : Addr).add 1)))), (89, gv (!(decide (q < x4))) (.int .i64 p_3.Unit)), (90, gv (!(decide (q < x4))) (.int .i64 q2)), (91, gv (!(decide (q < x4))) (.bool (decide (x4 < q2)))), (92, .bool c)] (by kernel_rfl) ⟨mE rfl rfl h15,
 fun ρz wz hE hA ⟨e9, _⟩ _ => core_val rfl rfl (o_fieldAddr (e9.trans h9) (fa_82_1 _ _)),
 fun ρz wz hE hA _ ⟨u1, _⟩ => core_val rfl rfl (o_load u1 (run_load1 (lr_3 _ _) (CA.sub ((Hb_b9_.exn (hA rfl)).ca) 1 1))),
 fun ρz wz hE hA _ ⟨u2, _⟩ => core_val rfl rfl (o_quo rfl u2 (quoI_some hq).1 (quoI_some hq).2),
 fun ρz wz hE hA _ ⟨u0, u3, _⟩ => core_val rfl rfl (o_gtr u0 u3 rfl),
 mU rfl rfl rfl,
 fun ρz wz hE hA ⟨e15, _⟩ ⟨u5, _⟩ => gIf rfl rfl (yF rfl u5) fun gc F hF => core_val rfl hF (o_move (e15.trans h15)),
 fun ρz wz hE hA ⟨e9, _⟩ ⟨u5, _⟩ => gIf rfl rfl (yF rfl u5) fun gc F hF => core_val rfl hF (o_fieldAddr (e9.trans h9) (fa_82_1 _ _)),
 fun ρz wz hE hA _ ⟨u5, u7, _⟩ => gIf rfl rfl (yF rfl u5) fun gc F hF => core_val rfl hF (o_load (gt gc u7) (run_load1 (lr_3 _ _) (CA.sub ((Hb_b9_.exn (hA rfl)).ca) 1 1))),
 fun ρz wz hE hA _ ⟨u5, u8, _⟩ => gIf rfl rfl (yF rfl u5) fun gc F hF => core_val rfl hF (o_quo rfl (gt gc u8) (quoI_some (hq2 gc)).1 (quoI_some (hq2 gc)).2),
 fun ρz wz hE hA _ ⟨u5, u6, u9, _⟩ => gIf rfl rfl (yF rfl u5) fun gc F hF => core_val rfl hF (o_lss (gt gc u6) (gt gc u9) rfl),
 fun ρz wz hE hA _ ⟨u5, u10, _⟩ => core_valE rfl rfl (congrArg Value.bool hc) (o_pick_or u5 rfl u10), trivial⟩ ?_
  intro ρ13 w13 hN hf hr
  have h92 := hv hf 11 rfl rfl
  obtain ⟨h9, h15⟩ := k2 hr h9 h15 rfl
  have Hb_b9_n := Hb_b9_.exn hN
  have hW := hW.trans hN
  have Hb_b9_ := Hb_b9_n
  refine WP.cond rfl h92 (fun hb => ?_) (fun hb => ?_)
  · exact nomatch (if_pos hb).symm.trans hF
  have hF := (if_neg (Bool.eq_false_iff.1 hb)).symm.trans hF
  refine WP.skip (WP.seq (WP.rb mixed [[], [], [1], [0, 2], [3], []] [[15], [9], [], [], [], []] [(93, .int .i64 x4), (94, .pointer (some ((⟨b9_, 0, none⟩ : Addr).add 1))), (95, .int .i64 p_3.Unit), (96, .int .i64 (i64 (x4 * p_3.Unit))), (10, .int .i64 (i64 (x4 * p_3.Unit))), (11, .int .i64 0)] (by kernel_rfl) ⟨mE rfl rfl h15,
 fun ρz wz hE hA ⟨e9, _⟩ _ => core_val rfl rfl (o_fieldAddr (e9.trans h9) (fa_82_1 _ _)),
 fun ρz wz hE hA _ ⟨u1, _⟩ => core_val rfl rfl (o_load u1 (run_load1 (lr_3 _ _) (CA.sub ((Hb_b9_.exn (hA rfl)).ca) 1 1))),
 fun ρz wz hE hA _ ⟨u0, u2, _⟩ => core_val rfl rfl (o_mul u0 u2 rfl),
 aU rfl rfl rfl,
 aC rfl rfl (fun _ => rfl), trivial⟩ ?_))
  intro ρ15 w15 hN hf hr
  have h10 := hv hf 4 rfl rfl
  have h11 := hv hf 5 rfl rfl
  have hW := hW.trans hN
  refine WP.ret ?_
  show retQ Tryz.prog 97 Tryz.f83 (fun v w1 => v = .tuple #[.int .i64 r.1, .int .i64 r.2] ∧ Ext noG w0 w1) .ret ρ15 w15
  obtain rfl := Option.some.inj hF
  exact res2 rfl (by decide) (by decide) h10 h11 ⟨rfl, hW⟩

set_option maxHeartbeats 4000000 in
theorem money_Convert_ok {w0 : World} (d_ : Int) (i_ : Int) (p_ : Int) (p_2 : Int) (p_3 : List Rate) (p_4 : Rounding) {v_p_3 : Value} (H_p_3 : RepSl Rate.R noG w0 v_p_3 p_3) {r : Int × Int} (hF : money_Convert d_ i_ p_ p_2 p_3 p_4 = some r) :
    Calls Tryz.prog 52 #[.int .i64 d_, .int .i64 i_, .int .i64 p_, .int .i64 p_2, v_p_3, Rounding.val p_4] w0 fun e w1 => e = .returned (.tuple #[.int .i64 r.1, .int .i64 r.2]) ∧ Ext noG w0 w1 := by
  refine (Calls.start (P := Tryz.prog) (args := [.int .i64 d_, .int .i64 i_, .int .i64 p_, .int .i64 p_2, v_p_3, Rounding.val p_4]) (R := fun v w1 => v = .tuple #[.int .i64 r.1, .int .i64 r.2] ∧ Ext noG w0 w1) (n := 107) (w := w0) Tryz.func52 rfl rfl (Nat.le_of_ble_eq_true rfl) (fun ρ hargs => ?_)).mono (fun e w1 ⟨v, he, hv, hE⟩ => ⟨hv ▸ he, hE⟩)
  have h0 := hargs 0 _ rfl
  have h1 := hargs 1 _ rfl
  have h2 := hargs 2 _ rfl
  have h3 := hargs 3 _ rfl
  have h4 := hargs 4 _ rfl
  have h5 := hargs 5 _ rfl
  have hW := Ext.refl noG w0
  obtain ⟨_, _, hs_H_p_3, _, _⟩ := RepSl.shape H_p_3
  have H_p_3 := H_p_3.start
  rw [money_Convert] at hF
  refine WP.seq (WP.rg mixed [[], [], []] [[], [], []] [[5], [], []] [(11, fun u wz => ∃ b, u = .pointer (some ⟨b, 0, none⟩) ∧ w0.heap.size ≤ b ∧ Mb wz b 82 (Rounding.cells p_4)), val 12 (.int .i64 0), val 13 (.int .i64 0)] (by kernel_rfl) ⟨fun _ _ _ hE ⟨b, hb, hs, hM⟩ => ⟨b, hb, hs, hM.exn hE⟩, sV, sV, trivial⟩ ⟨fun ρz wz hE hA ⟨e5, _⟩ _ => core_new rfl rfl hE (o_box (e5.trans h5) (bx_82 _ _)),
 aC rfl rfl (fun _ => rfl),
 aC rfl rfl (fun _ => rfl), trivial⟩ ?_)
  intro ρ1 w1 hN hf hr
  obtain ⟨b11_, h11, hge_b11_, Hb_b11_⟩ := hf 0 rfl
  obtain ⟨h0, h1, h2, h3, h4⟩ := k5 hr h0 h1 h2 h3 h4 rfl
  have H_p_3 := H_p_3.exn hN
  have hB_b11_ : w0.heap.size ≤ b11_ := Nat.le_trans hW.size hge_b11_
  have hW := hW.trans hN
  refine WP.seq (WP.seq ?_)
  obtain ⟨z, hz, hF⟩ := obind hF
  obtain ⟨c, hc, hF⟩ := obind hF
  obtain ⟨z2, hz2, hc⟩ := orB hc
  have hc := orE hc
  obtain ⟨c2, hc2, hF⟩ := obind hF
  obtain ⟨z3, hz3, hc2⟩ := orB hc2
  have hc2 := orE hc2
  obtain ⟨c3, hc3, hF⟩ := obind hF
  obtain ⟨z4, hz4, hc3⟩ := orB hc3
  have hc3 := orE hc3
  obtain ⟨c4, hc4, hF⟩ := obind hF
  obtain ⟨z5, hz5, hc4⟩ := orB hc4
  have hc4 := orE hc4
  obtain ⟨c5, hc5, hF⟩ := obind hF
  obtain ⟨z6, hz6, hc5⟩ := orB hc5
  have hc5 := orE hc5
  refine WP.rb mixed [[], [0], [1], [2], [3], [3, 4], [3, 5], [3, 6], [7], [8], [8, 9], [8, 10], [8, 11], [12], [13], [13, 14], [13, 15], [13, 16], [17], [18], [18, 19], [18, 20], [18, 21], [22], [23], [23, 24], [23, 25], [23, 26]] [[0], [], [], [], [1], [], [], [], [], [2], [], [], [], [], [3], [], [], [], [], [11], [], [], [], [], [4], [], [], []] [(20, .int .i64 d_), (21, .bool z), (22, .bool (!z)), (23, .bool (!z)), (24, gv (!(!z)) (.int .i64 i_)), (25, gv (!(!z)) (.bool z2)), (26, gv (!(!z)) (.bool (!z2))), (27, .bool c), (28, .bool c), (29, gv (!c) (.int .i64 p_)), (30, gv (!c) (.bool z3)), (31, gv (!c) (.bool (!z3))), (32, .bool c2), (33, .bool c2), (34, gv (!c2) (.int .i64 p_2)), (35, gv (!c2) (.bool z4)), (36, gv (!c2) (.bool (!z4))), (37, .bool c3), (38, .bool c3), (39, gv (!c3) (Rounding.val p_4)), (40, gv (!c3) (.bool z5)), (41, gv (!c3) (.bool (!z5))), (42, .bool c4), (43, .bool c4), (44, gv (!c4) v_p_3), (45, gv (!c4) (.int .i64 z6)), (46, gv (!c4) (.bool (z6 != 0))), (47, .bool c5)] (by kernel_rfl) ⟨mE rfl rfl h0,
 fun ρz wz hE hA _ ⟨u0, _⟩ => core_call rfl (call_args1 u0) cf_81 (money_amount_ok  _  hz),
 fun ρz wz hE hA _ ⟨u1, _⟩ => core_val rfl rfl (o_not u1 rfl),
 mU rfl rfl rfl,
 fun ρz wz hE hA ⟨e1, _⟩ ⟨u3, _⟩ => gIf rfl rfl (yF rfl u3) fun gc F hF => core_val rfl hF (o_move (e1.trans h1)),
 fun ρz wz hE hA _ ⟨u3, u4, _⟩ => gIf rfl rfl (yF rfl u3) fun gc F hF => core_call hF (call_args1 (gt gc u4)) cf_71 (money_currency_ok  _  (hz2 gc)),
 fun ρz wz hE hA _ ⟨u3, u5, _⟩ => gIf rfl rfl (yF rfl u3) fun gc F hF => core_val rfl hF (o_not (gt gc u5) rfl),
 fun ρz wz hE hA _ ⟨u3, u6, _⟩ => core_valE rfl rfl (congrArg Value.bool hc) (o_pick_or u3 rfl u6),
 mU rfl rfl rfl,
 fun ρz wz hE hA ⟨e2, _⟩ ⟨u8, _⟩ => gIf rfl rfl (yF rfl u8) fun gc F hF => core_val rfl hF (o_move (e2.trans h2)),
 fun ρz wz hE hA _ ⟨u8, u9, _⟩ => gIf rfl rfl (yF rfl u8) fun gc F hF => core_call hF (call_args1 (gt gc u9)) cf_71 (money_currency_ok  _  (hz3 gc)),
 fun ρz wz hE hA _ ⟨u8, u10, _⟩ => gIf rfl rfl (yF rfl u8) fun gc F hF => core_val rfl hF (o_not (gt gc u10) rfl),
 fun ρz wz hE hA _ ⟨u8, u11, _⟩ => core_valE rfl rfl (congrArg Value.bool hc2) (o_pick_or u8 rfl u11),
 mU rfl rfl rfl,
 fun ρz wz hE hA ⟨e3, _⟩ ⟨u13, _⟩ => gIf rfl rfl (yF rfl u13) fun gc F hF => core_val rfl hF (o_move (e3.trans h3)),
 fun ρz wz hE hA _ ⟨u13, u14, _⟩ => gIf rfl rfl (yF rfl u13) fun gc F hF => core_call hF (call_args1 (gt gc u14)) cf_72 (money_month_ok  _  (hz4 gc)),
 fun ρz wz hE hA _ ⟨u13, u15, _⟩ => gIf rfl rfl (yF rfl u13) fun gc F hF => core_val rfl hF (o_not (gt gc u15) rfl),
 fun ρz wz hE hA _ ⟨u13, u16, _⟩ => core_valE rfl rfl (congrArg Value.bool hc3) (o_pick_or u13 rfl u16),
 mU rfl rfl rfl,
 fun ρz wz hE hA ⟨e11, _⟩ ⟨u18, _⟩ => gIf rfl rfl (yF rfl u18) fun gc F hF => core_val rfl hF (o_load (e11.trans h11) (run_loadN (cs := (Rounding.cells p_4)) (lr_82 _ _) rfl ((Hb_b11_.exn (hA rfl)).ca))),
 fun ρz wz hE hA _ ⟨u18, u19, _⟩ => gIf rfl rfl (yF rfl u18) fun gc F hF => core_call hF (call_args1 (gt gc u19)) cf_82 (money_ValidRounding_ok  _  (hz5 gc)),
 fun ρz wz hE hA _ ⟨u18, u20, _⟩ => gIf rfl rfl (yF rfl u18) fun gc F hF => core_val rfl hF (o_not (gt gc u20) rfl),
 fun ρz wz hE hA _ ⟨u18, u21, _⟩ => core_valE rfl rfl (congrArg Value.bool hc4) (o_pick_or u18 rfl u21),
 mU rfl rfl rfl,
 fun ρz wz hE hA ⟨e4, _⟩ ⟨u23, _⟩ => gIf rfl rfl (yF rfl u23) fun gc F hF => core_val rfl hF (o_move (e4.trans h4)),
 fun ρz wz hE hA _ ⟨u23, u24, _⟩ => gIf rfl rfl (yF rfl u23) fun gc F hF => core_call hF (call_args1 (gt gc u24)) cf_44 (money_CheckRates_ok  _ (H_p_3.exn (hA rfl)).no (hz6 gc)),
 fun ρz wz hE hA _ ⟨u23, u25, _⟩ => gIf rfl rfl (yF rfl u23) fun gc F hF => core_val rfl hF (o_neq (gt gc u25) rfl rfl),
 fun ρz wz hE hA _ ⟨u23, u26, _⟩ => core_valE rfl rfl (congrArg Value.bool hc5) (o_pick_or u23 rfl u26), trivial⟩ ?_
  intro ρ2 w2 hN hf hr
  have h47 := hv hf 27 rfl rfl
  obtain ⟨h0, h1, h2, h3, h4, h11⟩ := k6 hr h0 h1 h2 h3 h4 h11 rfl
  have Hb_b11_n := Hb_b11_.exn hN
  have H_p_3 := H_p_3.exn hN
  have hW := hW.trans hN
  have Hb_b11_ := Hb_b11_n
  refine WP.cond rfl h47 (fun hb => ?_) (fun hb => ?_)
  · exact nomatch (if_pos hb).symm.trans hF
  have hF := (if_neg (Bool.eq_false_iff.1 hb)).symm.trans hF
  refine WP.skip (WP.seq (WP.seq (WP.rb mixed [[], [], [0, 1]] [[1], [2], []] [(48, .int .i64 i_), (49, .int .i64 p_), (50, .bool (i_ == p_))] (by kernel_rfl) ⟨mE rfl rfl h1,
 mE rfl rfl h2,
 fun ρz wz hE hA _ ⟨u0, u1, _⟩ => core_val rfl rfl (o_eql u0 u1 rfl), trivial⟩ ?_)))
  intro ρ4 w4 hN hf hr
  have h50 := hv hf 2 rfl rfl
  obtain ⟨h0, h1, h2, h3, h4, h11⟩ := k6 hr h0 h1 h2 h3 h4 h11 rfl
  have Hb_b11_n := Hb_b11_.exn hN
  have H_p_3 := H_p_3.exn hN
  have hW := hW.trans hN
  have Hb_b11_ := Hb_b11_n
  refine WP.cond rfl h50 (fun hb => ?_) (fun hb => ?_)
  · have hF := (if_pos hb).symm.trans hF
    refine WP.seq ?_
    obtain ⟨z7, hz7, hF⟩ := obind hF
    obtain ⟨z8, hz8, hF⟩ := obind hF
    refine WP.rb mixed [[], [0], [], [2], [], [1, 3, 4], [5], [5], [6], [7]] [[0], [], [0], [], [11], [], [], [], [], []] [(51, .int .i64 d_), (52, .bool (decide (d_ < 0))), (53, .int .i64 d_), (54, .int .u64 z7), (55, Rounding.val p_4), (56, .tuple #[.int .i64 z8.1, .int .i64 z8.2]), (57, .int .i64 z8.1), (58, .int .i64 z8.2), (12, .int .i64 z8.1), (13, .int .i64 z8.2)] (by kernel_rfl) ⟨mE rfl rfl h0,
 fun ρz wz hE hA _ ⟨u0, _⟩ => core_val rfl rfl (o_lss u0 rfl rfl),
 mE rfl rfl h0,
 fun ρz wz hE hA _ ⟨u2, _⟩ => core_call rfl (call_args1 u2) cf_84 (money_size_ok  _  hz7),
 fun ρz wz hE hA ⟨e11, _⟩ _ => core_val rfl rfl (o_load (e11.trans h11) (run_loadN (cs := (Rounding.cells p_4)) (lr_82 _ _) rfl ((Hb_b11_.exn (hA rfl)).ca))),
 fun ρz wz hE hA _ ⟨u1, u3, u4, _⟩ => core_call rfl (call_args5 u1 rfl u3 rfl u4) cf_83 (money_divide_ok  _ _ _ _ _  hz8),
 fun ρz wz hE hA _ ⟨u5, _⟩ => core_val rfl rfl (o_extract u5 (by kernel_rfl)),
 fun ρz wz hE hA _ ⟨u5, _⟩ => core_val rfl rfl (o_extract u5 (by kernel_rfl)),
 aU rfl rfl rfl,
 aU rfl rfl rfl, trivial⟩ ?_
    intro ρ5 w5 hN hf hr
    have h12 := hv hf 8 rfl rfl
    have h13 := hv hf 9 rfl rfl
    have hW := hW.trans hN
    refine WP.ret ?_
    show retQ Tryz.prog 107 Tryz.f52 (fun v w1 => v = .tuple #[.int .i64 r.1, .int .i64 r.2] ∧ Ext noG w0 w1) .ret ρ5 w5
    obtain rfl := Option.some.inj hF
    exact res2 rfl (by decide) (by decide) h12 h13 ⟨rfl, hW⟩
  exact nomatch (if_neg (Bool.eq_false_iff.1 hb)).symm.trans hF

set_option maxHeartbeats 4000000 in
theorem family_Payments_ok {w0 : World} (Hg_0 : GR [Value.int .i64 1, Value.int .i64 1] noG w0 0) (d_ : List Right) (i_ : Int) (p_ : List Rate) (p_2 : Int) {v_d_ : Value} (H_d_ : RepSl Right.R noG w0 v_d_ d_) {v_p_ : Value} (H_p_ : RepSl Rate.R noG w0 v_p_ p_) {r : (List FamilyPay) × Int} (hF : family_Payments d_ i_ p_ p_2 = some r) :
    Calls Tryz.prog 23 #[v_d_, .int .i64 i_, v_p_, .int .i64 p_2] w0 fun e w1 => ∃ v, e = .returned v ∧ Ext noG w0 w1 ∧ (∃ u0 : Value, v = .tuple #[u0, .int .i64 r.2] ∧ Own w0.heap.size 55 4 FamilyPay.cells w1 u0 r.1) := by
  refine (Calls.start (P := Tryz.prog) (args := [v_d_, .int .i64 i_, v_p_, .int .i64 p_2]) (R := fun v w1 => (∃ u0 : Value, v = .tuple #[u0, .int .i64 r.2] ∧ Own w0.heap.size 55 4 FamilyPay.cells w1 u0 r.1) ∧ Ext noG w0 w1) (n := 93) (w := w0) Tryz.func23 rfl rfl (Nat.le_of_ble_eq_true rfl) (fun ρ hargs => ?_)).mono (fun e w1 ⟨v, he, hv, hE⟩ => ⟨v, he, hE, hv⟩)
  have h0 := hargs 0 _ rfl
  have h1 := hargs 1 _ rfl
  have h2 := hargs 2 _ rfl
  have h3 := hargs 3 _ rfl
  have hW := Ext.refl noG w0
  obtain ⟨_, _, hs_H_d_, _, _⟩ := RepSl.shape H_d_
  have H_d_ := H_d_.start
  obtain ⟨_, _, hs_H_p_, _, _⟩ := RepSl.shape H_p_
  have H_p_ := H_p_.start
  have Hg_0 := Hg_0.start
  rw [family_Payments] at hF
  refine WP.seq (WP.rb mixed [[], []] [[], []] [(8, .slice none 0 0), (9, .int .i64 0)] (by kernel_rfl) ⟨aC rfl rfl (fun _ => rfl),
 aC rfl rfl (fun _ => rfl), trivial⟩ ?_)
  intro ρ1 w1 hN hf hr
  obtain ⟨h0, h1, h2, h3⟩ := k4 hr h0 h1 h2 h3 rfl
  have H_d_ := H_d_.exn hN
  have H_p_ := H_p_.exn hN
  have Hg_0 := Hg_0.exn hN
  have hW := hW.trans hN
  refine WP.seq ?_
  obtain ⟨z, hz, hF⟩ := obind hF
  refine WP.rg mixed [[], [], [], [], [0, 1, 2, 3], [4], [5], [5], [6], [7]] [[], [], [], [], [0, 1, 2, 3], [4], [5], [5], [6], [7]] [[0], [1], [2], [3], [], [], [], [], [], []] [val 22 (v_d_), val 23 (.int .i64 i_), val 24 (v_p_), val 25 (.int .i64 p_2), (26, fun u wz => ∃ q : Value, u = .tuple #[q, .int .i64 z.2] ∧ Own w0.heap.size 3 1 (fun x : Int => [Value.int .i64 x]) wz q z.1 ∧ ∀ b, q.ownBlock = some b → w1.heap.size ≤ b), (21, fun u wz => ∃ q : Value, u = .tuple #[q, .int .i64 z.2] ∧ Own w0.heap.size 3 1 (fun x : Int => [Value.int .i64 x]) wz q z.1 ∧ ∀ b, q.ownBlock = some b → w1.heap.size ≤ b), (27, fun u wz => Own w0.heap.size 3 1 (fun x : Int => [Value.int .i64 x]) wz u z.1 ∧ ∀ b, u.ownBlock = some b → w1.heap.size ≤ b), val 28 (.int .i64 z.2), (10, fun u wz => Own w0.heap.size 3 1 (fun x : Int => [Value.int .i64 x]) wz u z.1 ∧ ∀ b, u.ownBlock = some b → w1.heap.size ≤ b), val 11 (.int .i64 z.2)] (by kernel_rfl) ⟨sV, sV, sV, sV, fun _ _ _ hE ⟨q, ht, hO, hf⟩ => ⟨q, ht, hO.exn hE, hf⟩, fun _ _ _ hE ⟨q, ht, hO, hf⟩ => ⟨q, ht, hO.exn hE, hf⟩, fun _ _ _ hE ⟨hO, hf⟩ => ⟨hO.exn hE, hf⟩, sV, fun _ _ _ hE ⟨hO, hf⟩ => ⟨hO.exn hE, hf⟩, sV, trivial⟩ ⟨mE rfl rfl h0,
 mE rfl rfl h1,
 mE rfl rfl h2,
 mE rfl rfl h3,
 fun ρz wz hE hA _ ⟨u0, u1, u2, u3, _⟩ => core_callR rfl (call_args4 u0 u1 u2 u3) cf_22 ((family_Order_ok  _ _ _ _ (H_d_.exn (hA rfl)).no (H_p_.exn (hA rfl)).no hz).mono (fun e w1 ⟨v, he, hE1, q, hv, hO⟩ => ⟨v, he, hE1, q, hv, hO.base (Nat.le_trans hW.size hE.size), fun b hb => Nat.le_trans hE.size (hO.lt hb).1⟩)),
 fun ρz wz hE hA _ ⟨⟨q4, ht4, hO4, hfr4⟩, _⟩ => core_copy rfl rfl (o_move rfl) ⟨q4, ht4, hO4, hfr4⟩,
 fun ρz wz hE hA _ ⟨⟨q5, ht5, hO5, hfr5⟩, _⟩ => core_copy rfl rfl (o_extract ht5 (by kernel_rfl)) ⟨hO5, hfr5⟩,
 fun ρz wz hE hA _ ⟨⟨q5, ht5, hO5, hfr5⟩, _⟩ => core_val rfl rfl (o_extract ht5 (by kernel_rfl)),
 fun ρz wz hE hA _ ⟨⟨hO6, hfr6⟩, _⟩ => core_copy rfl rfl (o_assign rfl) ⟨hO6, hfr6⟩,
 aU rfl rfl rfl, trivial⟩ ?_
  intro ρ2 w2 hN hf hr
  obtain ⟨v10_, h10⟩ : ∃ v, ρ2 10 = v := ⟨_, rfl⟩
  have hq10 : (fun u wz => Own w0.heap.size 3 1 (fun x : Int => [Value.int .i64 x]) wz u z.1 ∧ ∀ b, u.ownBlock = some b → w1.heap.size ≤ b) (ρ2 10) w2 := hf 8 rfl
  rw [h10] at hq10
  obtain ⟨hq10, hfr10⟩ := hq10
  have h11 : ρ2 11 = .int .i64 z.2 := hf 9 rfl
  obtain ⟨h0, h2, h3⟩ := k3 hr h0 h2 h3 rfl
  have H_d_ := H_d_.exn hN
  have H_p_ := H_p_.exn hN
  have Hg_0 := Hg_0.exn hN
  have hW := hW.trans hN
  have Hf10 : RepSl intR noG w2 v10_ z.1 := hq10.rep (fun _ _ h => h)
  obtain ⟨_, _, hs_Hf10, _, _⟩ := RepSl.shape Hf10
  refine WP.seq (WP.seq (WP.rb mixed [[], [0]] [[11], []] [(29, .int .i64 z.2), (30, .bool (z.2 != 0))] (by kernel_rfl) ⟨mE rfl rfl h11,
 fun ρz wz hE hA _ ⟨u0, _⟩ => core_val rfl rfl (o_neq u0 rfl rfl), trivial⟩ ?_))
  intro ρ3 w3 hN hf hr
  have h30 := hv hf 1 rfl rfl
  obtain ⟨h0, h2, h3, h10, h11⟩ := k5 hr h0 h2 h3 h10 h11 rfl
  have H_d_ := H_d_.exn hN
  have H_p_ := H_p_.exn hN
  have Hg_0 := Hg_0.exn hN
  have Hf10 := Hf10.exn hN
  have hW := hW.trans hN
  refine WP.cond rfl h30 (fun hb => ?_) (fun hb => ?_)
  · exact nomatch (if_pos hb).symm.trans hF
  have hF := (if_neg (Bool.eq_false_iff.1 hb)).symm.trans hF
  refine WP.skip (WP.seq (WP.rb mixed [[]] [[]] [(12, .slice none 0 0)] (by kernel_rfl) ⟨aC rfl rfl (fun _ => rfl), trivial⟩ ?_))
  intro ρ5 w5 hN hf hr
  have h12 : ρ5 12 = .slice none 0 0 := hf 0 rfl
  have O12 : Own w0.heap.size 55 4 FamilyPay.cells w5 (.slice none 0 0) [] := Own.nil _ _ _ _ _
  obtain ⟨h0, h2, h3, h10⟩ := k4 hr h0 h2 h3 h10 rfl
  have H_d_ := H_d_.exn hN
  have H_p_ := H_p_.exn hN
  have Hg_0 := Hg_0.exn hN
  have Hf10 : RepSl intR (gL [ownG (.slice none 0 0)]) w5 v10_ z.1 := Hf10.mv hN (fun _ h => h.elim) (fun b h => h.elim (fun h => by simp [ownG, Value.ownBlock] at h) (fun h => h.elim))
  have hW := hW.trans hN
  have O12 : Own w0.heap.size 55 4 FamilyPay.cells w5 (.slice none 0 0) [] := Own.nil _ _ _ _ _
  refine WP.seq (WP.seq (WP.rb mixed [[], [0], []] [[10], [], []] [(32, v10_), (33, .int .i64 (z.1.length : Int)), (34, .int .i64 0)] (by kernel_rfl) ⟨mE rfl rfl h10,
 fun ρz wz hE hA _ ⟨u0, _⟩ => core_val rfl rfl (o_len (u0.trans hs_Hf10) len_22),
 mC rfl rfl (fun _ => rfl), trivial⟩ ?_))
  intro ρ6 w6 hN hf hr
  have h32 := hv hf 0 rfl rfl
  have h33 := hv hf 1 rfl rfl
  have h34 := hv hf 2 rfl rfl
  obtain ⟨h0, h2, h3, h10, h12⟩ := k5 hr h0 h2 h3 h10 h12 rfl
  have Oo_O12 := O12
  have H_d_ := H_d_.exn hN
  have H_p_ := H_p_.exn hN
  have Hg_0 := Hg_0.exn hN
  have Hf10 := Hf10.exn hN
  have hW := hW.trans hN
  have O12 : Own w0.heap.size 55 4 FamilyPay.cells w6 (.slice none 0 0) [] := Own.nil _ _ _ _ _
  refine WP.block (WP.loop (fun k_ ρ w => ∃ x : List FamilyPay, ∃ x2 : Int, ∃ v12_ : Value, ρ 0 = v_d_ ∧ ρ 2 = v_p_ ∧ ρ 3 = .int .i64 p_2 ∧ ρ 10 = v10_ ∧ ρ 12 = v12_ ∧ ρ 32 = v10_ ∧ ρ 33 = .int .i64 (z.1.length : Int) ∧ ρ 34 = .int .i64 x2 ∧ RepSl Right.R (gfr noG w0) w v_d_ d_ ∧ RepSl Rate.R (gfr noG w0) w v_p_ p_ ∧ GR [Value.int .i64 1, Value.int .i64 1] (gfr noG w0) w 0 ∧ RepSl intR (gL [ownG v12_]) w v10_ z.1 ∧ Own w0.heap.size 55 4 FamilyPay.cells w v12_ x ∧ Ext noG w0 w ∧ loopC k_ (family_Payments_l d_ p_ p_2 z) (x, x2) = some r) FU ⟨[], 0, .slice none 0 0, h0, h2, h3, h10, h12, h32, h33, h34, H_d_, H_p_, Hg_0, Hf10, O12, hW, hF⟩ (fun _ _ h => by obtain ⟨_, _, _, _, _, _, _, _, _, _, _, _, _, _, _, _, _, h⟩ := h; cases h) ?_)
  rintro k_ ρ7 w7 ⟨x, x2, v12_, h0, h2, h3, h10, h12, h32, h33, h34, H_d_, H_p_, Hg_0, Hf10, O12, hW, hF⟩
  have hF : family_Payments_l d_ p_ p_2 z (loopC k_ (family_Payments_l d_ p_ p_2 z)) (x, x2) = some r := (loopC_succ k_ (family_Payments_l d_ p_ p_2 z) (x, x2)).symm.trans hF
  generalize hrec_ : loopC k_ (family_Payments_l d_ p_ p_2 z) = rec_ at hF
  rw [family_Payments_l] at hF
  refine WP.seq (WP.rb mixed [[]] [[34, 33]] [(35, .bool (decide (x2 < (z.1.length : Int))))] (by kernel_rfl) ⟨fun ρz wz hE hA ⟨e34, e33, _⟩ _ => core_val rfl rfl (o_lss (e34.trans h34) (e33.trans h33) rfl), trivial⟩ ?_)
  intro ρ8 w8 hN hf hr
  have h35 := hv hf 0 rfl rfl
  obtain ⟨h0, h2, h3, h10, h12, h32⟩ := k6 hr h0 h2 h3 h10 h12 h32 rfl
  obtain ⟨h33, h34⟩ := k2 hr h33 h34 rfl
  have Oo_O12 := O12
  have H_d_ := H_d_.exn hN
  have H_p_ := H_p_.exn hN
  have Hg_0 := Hg_0.exn hN
  have Hf10 := Hf10.exn hN
  have hW := hW.trans hN
  have O12 := Oo_O12.exn hN
  refine WP.seq (WP.cond rfl h35 (fun hb => ?_) (fun hb => ?_))
  · have hF := (if_pos hb).symm.trans hF
    refine WP.skip (WP.seq (WP.block (WP.seq ?_)))
    obtain ⟨y, hy, hF⟩ := obind hF
    obtain ⟨ay, cy, hvy, hiy, hAy⟩ := RepSl.getF Hf10 hy
    refine WP.rb mixed [[], [], [1], [0], [2]] [[34], [32, 34], [], [], []] [(36, .int .i64 x2), (37, .pointer (some (ay.add (Int.toNat x2 * 1)))), (38, .int .i64 y), (13, .int .i64 x2), (14, .int .i64 y)] (by kernel_rfl) ⟨mE rfl rfl h34,
 fun ρz wz hE hA ⟨e32, e34, _⟩ _ => core_val rfl rfl (o_indexAddr ((e32.trans h32).trans hvy) (e34.trans h34) (ia_22 hiy)),
 fun ρz wz hE hA _ ⟨u1, _⟩ => core_val rfl rfl (o_load u1 (run_load1 (lr_3 _ _) ((hAy.exn (hA rfl)).ca))),
 aU rfl rfl rfl,
 aU rfl rfl rfl, trivial⟩ ?_
    intro ρ9 w9 hN hf hr
    have h13 := hv hf 3 rfl rfl
    have h14 := hv hf 4 rfl rfl
    obtain ⟨h0, h2, h3, h10, h12, h32⟩ := k6 hr h0 h2 h3 h10 h12 h32 rfl
    obtain ⟨h33, h34⟩ := k2 hr h33 h34 rfl
    have Oo_O12 := O12
    have H_d_ := H_d_.exn hN
    have H_p_ := H_p_.exn hN
    have Hg_0 := Hg_0.exn hN
    have Hf10 := Hf10.exn hN
    have hW := hW.trans hN
    have O12 := Oo_O12.exn hN
    refine WP.seq ?_
    obtain ⟨y2, hy2, hF⟩ := obind hF
    obtain ⟨ay2, cy2, hvy2, hiy2, hAy2⟩ := RepSl.getF H_d_ hy2
    refine WP.region mixed [[], [], [0, 1], [2], [], [3, 4]] [[], [], [0, 1], [2], [], [3, 4]] [[0], [14], [], [], [], []] [5] [(4, 5)] [val 39 (v_d_), val 40 (.int .i64 y), val 41 (.pointer (some (ay2.add (Int.toNat y * 4)))), val 42 (Right.val y2), (15, fun u wz => ∃ b, u = .pointer (some ⟨b, 0, none⟩) ∧ w9.heap.size ≤ b ∧ Mb wz b 46 (Right.cells (⟨0, 0, 0, 0⟩ : Right))), (15, fun u wz => ∃ b, u = .pointer (some ⟨b, 0, none⟩) ∧ w9.heap.size ≤ b ∧ Mb wz b 46 (Right.cells y2))] (fun b => w9.heap.size ≤ b) (by kernel_rfl) ⟨sV, sV, sV, sV, fun _ _ _ hE ⟨b, hb, hs, hM⟩ => ⟨b, hb, hs, hM.exn hE⟩, fun _ _ _ hE ⟨b, hb, hs, hM⟩ => ⟨b, hb, hs, hM.exn hE⟩, trivial⟩ ⟨mE rfl rfl h0,
 mE rfl rfl h14,
 fun ρz wz hE hA _ ⟨u0, u1, _⟩ => core_val rfl rfl (o_indexAddr (u0.trans hvy2) u1 (ia_47 hiy2)),
 fun ρz wz hE hA _ ⟨u2, _⟩ => core_val rfl rfl (o_load u2 (run_loadN (cs := (Right.cells y2)) (lr_46 _ _) rfl ((hAy2.exn hE.fresh).ca))),
 fun ρz wz hE hA _ _ => core_new rfl rfl hE (o_alloc (al_46 _)),
 fun ρz wz hE hA _ ⟨u3, u4, _⟩ => core_storeNew rfl rfl rfl rfl u3 u4 (fun a w => st_46 _ a w) rfl (one_46 _), trivial⟩ ?_
    intro ρ10 w10 hE hN hf hr
    have hN := hE.fresh
    obtain ⟨b15_, h15, hge_b15_, Hb_b15_⟩ := hf 5 rfl
    obtain ⟨h0, h2, h3, h10, h12, h32⟩ := k6 hr h0 h2 h3 h10 h12 h32 rfl
    obtain ⟨h33, h34, h13⟩ := k3 hr h33 h34 h13 rfl
    have Oo_O12 := O12
    have H_d_ := H_d_.exn hN
    have H_p_ := H_p_.exn hN
    have Hg_0 := Hg_0.exn hN
    have Hf10 := Hf10.exn hN
    have hB_b15_ : w0.heap.size ≤ b15_ := Nat.le_trans hW.size hge_b15_
    have hW := hW.trans hN
    have O12 := Oo_O12.exn hN
    have hnb_O12_b15_ : Value.ownBlock v12_ ≠ some b15_ := fun h => absurd (Oo_O12.lt h).2 (Nat.not_lt.2 hge_b15_)
    refine WP.seq (WP.rb mixed [[]] [[]] [(16, .int .i64 0)] (by kernel_rfl) ⟨aC rfl rfl (fun _ => rfl), trivial⟩ ?_)
    intro ρ11 w11 hN hf hr
    have h16 := hv hf 0 rfl rfl
    obtain ⟨h0, h2, h3, h10, h12, h32⟩ := k6 hr h0 h2 h3 h10 h12 h32 rfl
    obtain ⟨h33, h34, h13, h15⟩ := k4 hr h33 h34 h13 h15 rfl
    have Oo_O12 := O12
    have Hb_b15_n := Hb_b15_.exn hN
    have H_d_ := H_d_.exn hN
    have H_p_ := H_p_.exn hN
    have Hg_0 := Hg_0.exn hN
    have Hf10 := Hf10.exn hN
    have hW := hW.trans hN
    have O12 := Oo_O12.exn hN
    have Hb_b15_ := Hb_b15_n
    refine WP.seq (WP.seq ?_)
    obtain ⟨s, hs, hF⟩ := obind hF
    refine WP.rg mixed [[], [], [0, 1], [2], []] [[], [], [0, 1], [2], []] [[10], [13], [], [], []] [val 43 (v10_), val 44 (.int .i64 x2), (45, fun u wz => RepSl intR (gL [ownG v12_]) wz u s), val 46 (.int .i64 (s.length : Int)), val 47 (.int .i64 0)] (by kernel_rfl) ⟨sV, sV, fun _ _ _ hE h => h.exn hE, sV, sV, trivial⟩ ⟨mE rfl rfl h10,
 mE rfl rfl h13,
 fun ρz wz hE hA _ ⟨u0, u1, _⟩ => core_cut (R := intR) rfl u0 si_22 sz_3 (Hf10.exn (hA rfl)) hs (.inl ⟨rfl, rfl⟩) (.inr (congrArg some u1)) (fun _ h => h),
 fun ρz wz hE hA _ ⟨hR2, _⟩ => core_val rfl rfl (o_len ((RepSl.shape hR2).choose_spec.choose_spec.1) len_22),
 mC rfl rfl (fun _ => rfl), trivial⟩ ?_
    intro ρ12 w12 hN hf hr
    obtain ⟨v45_, h45⟩ : ∃ v, ρ12 45 = v := ⟨_, rfl⟩
    have hq45 : (fun u wz => RepSl intR (gL [ownG v12_]) wz u s) (ρ12 45) w12 := hf 2 rfl
    rw [h45] at hq45
    have h46 : ρ12 46 = .int .i64 (s.length : Int) := hf 3 rfl
    have h47 : ρ12 47 = .int .i64 0 := hf 4 rfl
    obtain ⟨h0, h2, h3, h10, h12, h32⟩ := k6 hr h0 h2 h3 h10 h12 h32 rfl
    obtain ⟨h33, h34, h13, h15, h16⟩ := k5 hr h33 h34 h13 h15 h16 rfl
    have Oo_O12 := O12
    have Hb_b15_n := Hb_b15_.exn hN
    have H_d_ := H_d_.exn hN
    have H_p_ := H_p_.exn hN
    have Hg_0 := Hg_0.exn hN
    have Hf10 := Hf10.exn hN
    have hW := hW.trans hN
    have O12 := Oo_O12.exn hN
    have Hf45 := hq45
    obtain ⟨_, _, hs_Hf45, _, _⟩ := RepSl.shape Hf45
    have Hb_b15_ := Hb_b15_n
    refine WP.block (WP.loop (fun k_2 ρ w => ∃ x3 : Int, ∃ x4 : Int, ρ 0 = v_d_ ∧ ρ 2 = v_p_ ∧ ρ 3 = .int .i64 p_2 ∧ ρ 10 = v10_ ∧ ρ 12 = v12_ ∧ ρ 32 = v10_ ∧ ρ 33 = .int .i64 (z.1.length : Int) ∧ ρ 34 = .int .i64 x2 ∧ ρ 13 = .int .i64 x2 ∧ ρ 15 = .pointer (some ⟨b15_, 0, none⟩) ∧ ρ 16 = .int .i64 x3 ∧ ρ 45 = v45_ ∧ ρ 46 = .int .i64 (s.length : Int) ∧ ρ 47 = .int .i64 x4 ∧ Mb w b15_ 46 (Right.cells y2) ∧ RepSl Right.R (gfr noG w0) w v_d_ d_ ∧ RepSl Rate.R (gfr noG w0) w v_p_ p_ ∧ GR [Value.int .i64 1, Value.int .i64 1] (gfr noG w0) w 0 ∧ RepSl intR (gL [ownG v12_]) w v10_ z.1 ∧ RepSl intR (gL [ownG v12_]) w v45_ s ∧ Own w0.heap.size 55 4 FamilyPay.cells w v12_ x ∧ Value.ownBlock v12_ ≠ some b15_ ∧ Ext noG w0 w ∧ loopC k_2 (family_Payments_l2 d_ p_ p_2 x x2 rec_ y2 s) (x3, x4) = some r) FU ⟨0, 0, h0, h2, h3, h10, h12, h32, h33, h34, h13, h15, h16, h45, h46, h47, Hb_b15_, H_d_, H_p_, Hg_0, Hf10, Hf45, O12, hnb_O12_b15_, hW, hF⟩ (fun _ _ h => by obtain ⟨_, _, _, _, _, _, _, _, _, _, _, _, _, _, _, _, _, _, _, _, _, _, _, _, _, h⟩ := h; cases h) ?_)
    rintro k_2 ρ13 w13 ⟨x3, x4, h0, h2, h3, h10, h12, h32, h33, h34, h13, h15, h16, h45, h46, h47, Hb_b15_, H_d_, H_p_, Hg_0, Hf10, Hf45, O12, hnb_O12_b15_, hW, hF⟩
    have hF : family_Payments_l2 d_ p_ p_2 x x2 rec_ y2 s (loopC k_2 (family_Payments_l2 d_ p_ p_2 x x2 rec_ y2 s)) (x3, x4) = some r := (loopC_succ k_2 (family_Payments_l2 d_ p_ p_2 x x2 rec_ y2 s) (x3, x4)).symm.trans hF
    generalize hrec_2 : loopC k_2 (family_Payments_l2 d_ p_ p_2 x x2 rec_ y2 s) = rec_2 at hF
    rw [family_Payments_l2] at hF
    refine WP.seq (WP.rb mixed [[]] [[47, 46]] [(48, .bool (decide (x4 < (s.length : Int))))] (by kernel_rfl) ⟨fun ρz wz hE hA ⟨e47, e46, _⟩ _ => core_val rfl rfl (o_lss (e47.trans h47) (e46.trans h46) rfl), trivial⟩ ?_)
    intro ρ14 w14 hN hf hr
    have h48 := hv hf 0 rfl rfl
    obtain ⟨h0, h2, h3, h10, h12, h32⟩ := k6 hr h0 h2 h3 h10 h12 h32 rfl
    obtain ⟨h33, h34, h13, h15, h16, h45⟩ := k6 hr h33 h34 h13 h15 h16 h45 rfl
    obtain ⟨h46, h47⟩ := k2 hr h46 h47 rfl
    have Oo_O12 := O12
    have Hb_b15_n := Hb_b15_.exn hN
    have H_d_ := H_d_.exn hN
    have H_p_ := H_p_.exn hN
    have Hg_0 := Hg_0.exn hN
    have Hf10 := Hf10.exn hN
    have Hf45 := Hf45.exn hN
    have hW := hW.trans hN
    have O12 := Oo_O12.exn hN
    have Hb_b15_ := Hb_b15_n
    refine WP.seq (WP.cond rfl h48 (fun hb => ?_) (fun hb => ?_))
    · have hF := (if_pos hb).symm.trans hF
      refine WP.skip (WP.seqJ (fun ρ w => ∃ x5 : Int, ρ 0 = v_d_ ∧ ρ 2 = v_p_ ∧ ρ 3 = .int .i64 p_2 ∧ ρ 10 = v10_ ∧ ρ 12 = v12_ ∧ ρ 32 = v10_ ∧ ρ 33 = .int .i64 (z.1.length : Int) ∧ ρ 34 = .int .i64 x2 ∧ ρ 13 = .int .i64 x2 ∧ ρ 15 = .pointer (some ⟨b15_, 0, none⟩) ∧ ρ 16 = .int .i64 x5 ∧ ρ 45 = v45_ ∧ ρ 46 = .int .i64 (s.length : Int) ∧ ρ 47 = .int .i64 x4 ∧ Mb w b15_ 46 (Right.cells y2) ∧ RepSl Right.R (gfr noG w0) w v_d_ d_ ∧ RepSl Rate.R (gfr noG w0) w v_p_ p_ ∧ GR [Value.int .i64 1, Value.int .i64 1] (gfr noG w0) w 0 ∧ RepSl intR (gL [ownG v12_]) w v10_ z.1 ∧ RepSl intR (gL [ownG v12_]) w v45_ s ∧ Own w0.heap.size 55 4 FamilyPay.cells w v12_ x ∧ Value.ownBlock v12_ ≠ some b15_ ∧ Ext noG w0 w ∧ family_Payments_j x4 rec_2 x5 = some r) ?_ ?_)
      · refine WP.block (WP.seq ?_)
        obtain ⟨y3, hy3, hF⟩ := obind hF
        obtain ⟨ay3, cy3, hvy3, hiy3, hAy3⟩ := RepSl.getF Hf45 hy3
        refine WP.rb mixed [[], [0], [1]] [[45, 47], [], []] [(49, .pointer (some (ay3.add (Int.toNat x4 * 1)))), (50, .int .i64 y3), (18, .int .i64 y3)] (by kernel_rfl) ⟨fun ρz wz hE hA ⟨e45, e47, _⟩ _ => core_val rfl rfl (o_indexAddr ((e45.trans h45).trans hvy3) (e47.trans h47) (ia_22 hiy3)),
 fun ρz wz hE hA _ ⟨u0, _⟩ => core_val rfl rfl (o_load u0 (run_load1 (lr_3 _ _) ((hAy3.exn (hA rfl)).ca))),
 aU rfl rfl rfl, trivial⟩ ?_
        intro ρ17 w17 hN hf hr
        have h18 := hv hf 2 rfl rfl
        obtain ⟨h0, h2, h3, h10, h12, h32⟩ := k6 hr h0 h2 h3 h10 h12 h32 rfl
        obtain ⟨h33, h34, h13, h15, h16, h45⟩ := k6 hr h33 h34 h13 h15 h16 h45 rfl
        obtain ⟨h46, h47⟩ := k2 hr h46 h47 rfl
        have Oo_O12 := O12
        have Hb_b15_n := Hb_b15_.exn hN
        have H_d_ := H_d_.exn hN
        have H_p_ := H_p_.exn hN
        have Hg_0 := Hg_0.exn hN
        have Hf10 := Hf10.exn hN
        have Hf45 := Hf45.exn hN
        have hW := hW.trans hN
        have O12 := Oo_O12.exn hN
        have Hb_b15_ := Hb_b15_n
        refine WP.seq ?_
        obtain ⟨y4, hy4, hF⟩ := obind hF
        obtain ⟨ay4, cy4, hvy4, hiy4, hAy4⟩ := RepSl.getF H_d_ hy4
        obtain ⟨y5, hy5, hF⟩ := obind hF
        obtain ⟨ay5, cy5, hvy5, hiy5, hAy5⟩ := RepSl.getF H_d_ hy5
        obtain ⟨z2, hz2, hF⟩ := obind hF
        refine WP.rb mixed [[], [], [0, 1], [2], [3], [], [], [5, 6], [7], [8], [], [10], [], [], [], [4, 9, 11, 12, 13, 14], [15], [16], [16], [17], [18]] [[0], [18], [], [], [], [0], [18], [], [], [], [15], [], [3], [2], [], [], [], [], [], [], []] [(52, v_d_), (53, .int .i64 y3), (54, .pointer (some (ay4.add (Int.toNat y3 * 4)))), (55, .pointer (some ((ay4.add (Int.toNat y3 * 4)).add 3))), (56, .int .i64 y4.Amount), (57, v_d_), (58, .int .i64 y3), (59, .pointer (some (ay5.add (Int.toNat y3 * 4)))), (60, .pointer (some ((ay5.add (Int.toNat y3 * 4)).add 2))), (61, .int .i64 y5.Currency), (62, .pointer (some ((⟨b15_, 0, none⟩ : Addr).add 2))), (63, .int .i64 y2.Currency), (64, .int .i64 p_2), (65, v_p_), (66, Rounding.val (⟨1, 1⟩ : Rounding)), (67, .tuple #[.int .i64 z2.1, .int .i64 z2.2]), (51, .tuple #[.int .i64 z2.1, .int .i64 z2.2]), (68, .int .i64 z2.1), (69, .int .i64 z2.2), (19, .int .i64 z2.1), (20, .int .i64 z2.2)] (by kernel_rfl) ⟨mE rfl rfl h0,
 mE rfl rfl h18,
 fun ρz wz hE hA _ ⟨u0, u1, _⟩ => core_val rfl rfl (o_indexAddr (u0.trans hvy4) u1 (ia_47 hiy4)),
 fun ρz wz hE hA _ ⟨u2, _⟩ => core_val rfl rfl (o_fieldAddr u2 (fa_46_3 _ _)),
 fun ρz wz hE hA _ ⟨u3, _⟩ => core_val rfl rfl (o_load u3 (run_load1 (lr_3 _ _) (CA.sub ((hAy4.exn (hA rfl)).ca) 3 1))),
 mE rfl rfl h0,
 mE rfl rfl h18,
 fun ρz wz hE hA _ ⟨u5, u6, _⟩ => core_val rfl rfl (o_indexAddr (u5.trans hvy5) u6 (ia_47 hiy5)),
 fun ρz wz hE hA _ ⟨u7, _⟩ => core_val rfl rfl (o_fieldAddr u7 (fa_46_2 _ _)),
 fun ρz wz hE hA _ ⟨u8, _⟩ => core_val rfl rfl (o_load u8 (run_load1 (lr_3 _ _) (CA.sub ((hAy5.exn (hA rfl)).ca) 2 1))),
 fun ρz wz hE hA ⟨e15, _⟩ _ => core_val rfl rfl (o_fieldAddr (e15.trans h15) (fa_46_2 _ _)),
 fun ρz wz hE hA _ ⟨u10, _⟩ => core_val rfl rfl (o_load u10 (run_load1 (lr_3 _ _) (CA.sub ((Hb_b15_.exn (hA rfl)).ca) 2 1))),
 mE rfl rfl h3,
 mE rfl rfl h2,
 fun ρz wz hE hA _ _ => core_val rfl rfl (o_load rfl (run_loadN (cs := (Rounding.cells (⟨1, 1⟩ : Rounding))) (lr_82 _ _) rfl ((Hg_0.exn (hA rfl)).ca))),
 fun ρz wz hE hA _ ⟨u4, u9, u11, u12, u13, u14, _⟩ => core_call rfl (call_args6 u4 u9 u11 u12 u13 u14) cf_52 (money_Convert_ok  _ _ _ _ _ _ (H_p_.exn (hA rfl)).no hz2),
 mU rfl rfl rfl,
 fun ρz wz hE hA _ ⟨u16, _⟩ => core_val rfl rfl (o_extract u16 (by kernel_rfl)),
 fun ρz wz hE hA _ ⟨u16, _⟩ => core_val rfl rfl (o_extract u16 (by kernel_rfl)),
 aU rfl rfl rfl,
 aU rfl rfl rfl, trivial⟩ ?_
        intro ρ18 w18 hN hf hr
        have h19 := hv hf 19 rfl rfl
        have h20 := hv hf 20 rfl rfl
        obtain ⟨h0, h2, h3, h10, h12, h32⟩ := k6 hr h0 h2 h3 h10 h12 h32 rfl
        obtain ⟨h33, h34, h13, h15, h16, h45⟩ := k6 hr h33 h34 h13 h15 h16 h45 rfl
        obtain ⟨h46, h47⟩ := k2 hr h46 h47 rfl
        have Oo_O12 := O12
        have Hb_b15_n := Hb_b15_.exn hN
        have H_d_ := H_d_.exn hN
        have H_p_ := H_p_.exn hN
        have Hg_0 := Hg_0.exn hN
        have Hf10 := Hf10.exn hN
        have Hf45 := Hf45.exn hN
        have hW := hW.trans hN
        have O12 := Oo_O12.exn hN
        have Hb_b15_ := Hb_b15_n
        refine WP.seq (WP.rb mixed [[], [0]] [[20], []] [(70, .int .i64 z2.2), (71, .bool (z2.2 == 0))] (by kernel_rfl) ⟨mE rfl rfl h20,
 fun ρz wz hE hA _ ⟨u0, _⟩ => core_val rfl rfl (o_eql u0 rfl rfl), trivial⟩ ?_)
        intro ρ19 w19 hN hf hr
        have h71 := hv hf 1 rfl rfl
        obtain ⟨h0, h2, h3, h10, h12, h32⟩ := k6 hr h0 h2 h3 h10 h12 h32 rfl
        obtain ⟨h33, h34, h13, h15, h16, h45⟩ := k6 hr h33 h34 h13 h15 h16 h45 rfl
        obtain ⟨h46, h47, h19⟩ := k3 hr h46 h47 h19 rfl
        have Oo_O12 := O12
        have Hb_b15_n := Hb_b15_.exn hN
        have H_d_ := H_d_.exn hN
        have H_p_ := H_p_.exn hN
        have Hg_0 := Hg_0.exn hN
        have Hf10 := Hf10.exn hN
        have Hf45 := Hf45.exn hN
        have hW := hW.trans hN
        have O12 := Oo_O12.exn hN
        have Hb_b15_ := Hb_b15_n
        refine WP.cond rfl h71 (fun hb => ?_) (fun hb => ?_)
        · have hF := (if_pos hb).symm.trans hF
          refine WP.rv mixed [[], [], [0, 1], [0, 2]] [[], [], [0, 1], [2]] [[16], [19], [], []] [(72, .int .i64 x3), (73, .int .i64 z2.1), (74, .int .i64 (max x3 z2.1)), (16, .int .i64 (max x3 z2.1))] (by kernel_rfl) ⟨mE rfl rfl h16,
 mE rfl rfl h19,
 fun ρz wz hE hA _ ⟨u0, u1, _⟩ => core_val rfl rfl (o_max2 u0 u1),
 aU rfl rfl rfl, trivial⟩ ?_
          intro ρ20 w20 hN hf hr
          have h16 := hv hf 3 rfl rfl
          obtain ⟨h0, h2, h3, h10, h12, h32⟩ := k6 hr h0 h2 h3 h10 h12 h32 rfl
          obtain ⟨h33, h34, h13, h15, h45, h46⟩ := k6 hr h33 h34 h13 h15 h45 h46 rfl
          have h47 := (hr 47 rfl).trans h47
          have Oo_O12 := O12
          have Hb_b15_n := Hb_b15_.exn hN
          have H_d_ := H_d_.exn hN
          have H_p_ := H_p_.exn hN
          have Hg_0 := Hg_0.exn hN
          have Hf10 := Hf10.exn hN
          have Hf45 := Hf45.exn hN
          have hW := hW.trans hN
          have O12 := Oo_O12.exn hN
          have Hb_b15_ := Hb_b15_n
          exact ⟨max x3 z2.1, h0, h2, h3, h10, h12, h32, h33, h34, h13, h15, h16, h45, h46, h47, Hb_b15_, H_d_, H_p_, Hg_0, Hf10, Hf45, O12, hnb_O12_b15_, hW, hF⟩
        exact nomatch (if_neg (Bool.eq_false_iff.1 hb)).symm.trans hF
      rintro ρ15 w15 ⟨x5, h0, h2, h3, h10, h12, h32, h33, h34, h13, h15, h16, h45, h46, h47, Hb_b15_, H_d_, H_p_, Hg_0, Hf10, Hf45, O12, hnb_O12_b15_, hW, hF⟩
      rw [family_Payments_j] at hF
      refine WP.rb mixed [[], [0]] [[47], []] [(75, .int .i64 (i64 (x4 + 1))), (47, .int .i64 (i64 (x4 + 1)))] (by kernel_rfl) ⟨fun ρz wz hE hA ⟨e47, _⟩ _ => core_val rfl rfl (o_add (e47.trans h47) rfl rfl),
 mU rfl rfl rfl, trivial⟩ ?_
      intro ρ16 w16 hN hf hr
      have h47 := hv hf 1 rfl rfl
      obtain ⟨h0, h2, h3, h10, h12, h32⟩ := k6 hr h0 h2 h3 h10 h12 h32 rfl
      obtain ⟨h33, h34, h13, h15, h16, h45⟩ := k6 hr h33 h34 h13 h15 h16 h45 rfl
      have h46 := (hr 46 rfl).trans h46
      have Oo_O12 := O12
      have Hb_b15_n := Hb_b15_.exn hN
      have H_d_ := H_d_.exn hN
      have H_p_ := H_p_.exn hN
      have Hg_0 := Hg_0.exn hN
      have Hf10 := Hf10.exn hN
      have Hf45 := Hf45.exn hN
      have hW := hW.trans hN
      have O12 := Oo_O12.exn hN
      have Hb_b15_ := Hb_b15_n
      exact ⟨x5, i64 (x4 + 1), h0, h2, h3, h10, h12, h32, h33, h34, h13, h15, h16, h45, h46, h47, Hb_b15_, H_d_, H_p_, Hg_0, Hf10, Hf45, O12, hnb_O12_b15_, hW, (by first | exact hF | (rw [hrec_2]; exact hF))⟩
    have hF := (if_neg (Bool.eq_false_iff.1 hb)).symm.trans hF
    refine WP.exit (thenQ_exit (thenQ_exit (blockQ_hit ?_)))
    obtain ⟨l, hl, hF⟩ := obind hF
    refine WP.region mixed [[], [], [1], [], [3], [], [5], [], [6, 7], [6, 8], [], [10], [2, 4, 6, 9, 11], [2, 4, 6, 12], [0, 2, 4, 6, 13], [0, 14]] [[], [], [1], [], [3], [], [5], [], [6, 7], [8], [], [10], [2, 4, 9, 11], [12], [0, 13], [14]] [[12], [15], [], [15], [], [15], [], [16], [], [], [13], [], [], [], [], []] [14] [] [val 76 (v12_), val 77 (.pointer (some ((⟨b15_, 0, none⟩ : Addr).add 0))), val 78 (.int .i64 y2.State), val 79 (.pointer (some ((⟨b15_, 0, none⟩ : Addr).add 2))), val 80 (.int .i64 y2.Currency), val 81 (.pointer (some ((⟨b15_, 0, none⟩ : Addr).add 3))), val 82 (.int .i64 y2.Amount), val 83 (.int .i64 x3), val 84 (.int .i64 (i64 (y2.Amount - x3))), val 85 (.int .i64 (max 0 (i64 (y2.Amount - x3)))), val 86 (.int .i64 x2), val 87 (.bool (x2 == 0)), val 88 (FamilyPay.val (⟨y2.State, y2.Currency, max 0 (i64 (y2.Amount - x3)), (x2 == 0)⟩ : FamilyPay)), (89, fun u wz => ∃ b, u = .slice (some ⟨b, 0, none⟩) 1 1 ∧ w14.heap.size ≤ b ∧ Mb wz b 55 (([(⟨y2.State, y2.Currency, max 0 (i64 (y2.Amount - x3)), (x2 == 0)⟩ : FamilyPay)]).flatMap FamilyPay.cells)), (90, fun u wz => Own w0.heap.size 55 4 FamilyPay.cells wz u l ∧ ∀ b, u.ownBlock = some b → (v12_.ownBlock = some b ∨ w14.heap.size ≤ b)), (12, fun u wz => Own w0.heap.size 55 4 FamilyPay.cells wz u l ∧ ∀ b, u.ownBlock = some b → (v12_.ownBlock = some b ∨ w14.heap.size ≤ b))] (fun b => Value.ownBlock v12_ = some b) (by kernel_rfl) ⟨sV, sV, sV, sV, sV, sV, sV, sV, sV, sV, sV, sV, sV, fun _ _ _ hE ⟨b, hz, hs, hM⟩ => ⟨b, hz, hs, hM.ext hE (fun hg => absurd (O12.lt hg).2 (Nat.not_lt.2 hs))⟩, fun _ _ _ hE ⟨hO, hf⟩ => ⟨hO.exn hE, hf⟩, fun _ _ _ hE ⟨hO, hf⟩ => ⟨hO.exn hE, hf⟩, trivial⟩ ⟨mE rfl rfl h12,
 fun ρz wz hE hA ⟨e15, _⟩ _ => core_val rfl rfl (o_fieldAddr (e15.trans h15) (fa_46_0 _ _)),
 fun ρz wz hE hA _ ⟨u1, _⟩ => core_val rfl rfl (o_load u1 (run_load1 (lr_3 _ _) (CA.sub ((Hb_b15_.exn (hA rfl)).ca) 0 1))),
 fun ρz wz hE hA ⟨e15, _⟩ _ => core_val rfl rfl (o_fieldAddr (e15.trans h15) (fa_46_2 _ _)),
 fun ρz wz hE hA _ ⟨u3, _⟩ => core_val rfl rfl (o_load u3 (run_load1 (lr_3 _ _) (CA.sub ((Hb_b15_.exn (hA rfl)).ca) 2 1))),
 fun ρz wz hE hA ⟨e15, _⟩ _ => core_val rfl rfl (o_fieldAddr (e15.trans h15) (fa_46_3 _ _)),
 fun ρz wz hE hA _ ⟨u5, _⟩ => core_val rfl rfl (o_load u5 (run_load1 (lr_3 _ _) (CA.sub ((Hb_b15_.exn (hA rfl)).ca) 3 1))),
 mE rfl rfl h16,
 fun ρz wz hE hA _ ⟨u6, u7, _⟩ => core_val rfl rfl (o_sub u6 u7 rfl),
 fun ρz wz hE hA _ ⟨u8, _⟩ => core_val rfl rfl (o_max2 rfl u8),
 mE rfl rfl h13,
 fun ρz wz hE hA _ ⟨u10, _⟩ => core_val rfl rfl (o_eql u10 rfl rfl),
 fun ρz wz hE hA _ ⟨u2, u4, u9, u11, _⟩ => core_val rfl rfl (o_build (build_parts4 u2 u4 u9 u11) (bd_55_0_1_2_3 _ _ _ _ _)),
 fun ρz wz hE hA _ ⟨u12, _⟩ => core_slice rfl rfl hE (o_buildSlice (build_parts1 u12) (bs_51_1 _ _)),
 fun ρz wz hE hA _ ⟨u0, ⟨bz13, hzn13, hge13, hM13⟩, _⟩ => core_append (n := 4) (cells := FamilyPay.cells) (B := w0.heap.size) (w0 := w14) rfl rfl (fun b hb => hb) u0 hzn13 (fun _ => rfl) one_55 si_51 se_55 (by decide) (by decide) (O12.exn (hA rfl)) ⟨_, (Mb.rep (n := 4) (cells := FamilyPay.cells) (hn := fun _ => rfl) (G := noG) hM13 rfl (Nat.le_of_ble_eq_true rfl) (fun h => h))⟩ hl (Nat.le_trans hW.size hE.size) hE.size (fun v1 w1 h1 h2 => ⟨h1, h2⟩),
 fun ρz wz hE hA _ ⟨⟨hO14, hfr14⟩, _⟩ => core_copy rfl rfl (o_assign rfl) ⟨hO14, hfr14⟩, trivial⟩ ?_
    intro ρ21 w21 hE hN hf hr
    obtain ⟨v12_2, h12⟩ : ∃ v, ρ21 12 = v := ⟨_, rfl⟩
    have hq12 : (fun u wz => Own w0.heap.size 55 4 FamilyPay.cells wz u l ∧ ∀ b, u.ownBlock = some b → (v12_.ownBlock = some b ∨ w14.heap.size ≤ b)) (ρ21 12) w21 := hf 15 rfl
    rw [h12] at hq12
    obtain ⟨hq12, hfr12⟩ := hq12
    obtain ⟨h0, h2, h3, h10, h32, h33⟩ := k6 hr h0 h2 h3 h10 h32 h33 rfl
    have h34 := (hr 34 rfl).trans h34
    have Oo_O12 := O12
    have H_d_ := H_d_.over hE (fun b hb => (Oo_O12.lt hb).1)
    have H_p_ := H_p_.over hE (fun b hb => (Oo_O12.lt hb).1)
    have Hg_0 := Hg_0.over hE (fun b hb => (Oo_O12.lt hb).1)
    have Hf10 : RepSl intR (gL [ownG v12_2]) w21 v10_ z.1 := Hf10.mv hE (fun _ h => .inl (.inl h)) (fun b h => h.elim (fun h => (hfr12 _ h).elim (fun h => .inl (by have h := h; exact (.inl h))) (fun h => .inr h)) (fun h => h.elim))
    have hW := Ext.own hW hE (fun b hb => (Oo_O12.lt hb).1)
    have O12 := hq12
    refine WP.rb mixed [[], [0]] [[34], []] [(91, .int .i64 (i64 (x2 + 1))), (34, .int .i64 (i64 (x2 + 1)))] (by kernel_rfl) ⟨fun ρz wz hE hA ⟨e34, _⟩ _ => core_val rfl rfl (o_add (e34.trans h34) rfl rfl),
 mU rfl rfl rfl, trivial⟩ ?_
    intro ρ22 w22 hN hf hr
    have h34 := hv hf 1 rfl rfl
    obtain ⟨h0, h2, h3, h10, h12, h32⟩ := k6 hr h0 h2 h3 h10 h12 h32 rfl
    have h33 := (hr 33 rfl).trans h33
    have Oo_O12 := O12
    have H_d_ := H_d_.exn hN
    have H_p_ := H_p_.exn hN
    have Hg_0 := Hg_0.exn hN
    have Hf10 := Hf10.exn hN
    have hW := hW.trans hN
    have O12 := Oo_O12.exn hN
    exact ⟨l, i64 (x2 + 1), v12_2, h0, h2, h3, h10, h12, h32, h33, h34, H_d_, H_p_, Hg_0, Hf10, O12, hW, (by first | exact hF | (rw [hrec_]; exact hF))⟩
  have hF := (if_neg (Bool.eq_false_iff.1 hb)).symm.trans hF
  refine WP.exit (thenQ_exit (thenQ_exit (blockQ_hit (WP.seq (WP.rb mixed [[], [0], []] [[12], [], []] [(92, v12_), (8, v12_), (9, .int .i64 0)] (by kernel_rfl) ⟨mE rfl rfl h12,
 aU rfl rfl rfl,
 aC rfl rfl (fun _ => rfl), trivial⟩ ?_)))))
  intro ρ23 w23 hN hf hr
  have h8 := hv hf 1 rfl rfl
  have h9 := hv hf 2 rfl rfl
  have Oo_O12 := O12
  have Hg_0 := Hg_0.exn hN
  have hW := hW.trans hN
  have O8 := Oo_O12.exn hN
  refine WP.ret ?_
  show retQ Tryz.prog 93 Tryz.f23 (fun v w1 => (∃ u0 : Value, v = .tuple #[u0, .int .i64 r.2] ∧ Own w0.heap.size 55 4 FamilyPay.cells w1 u0 r.1) ∧ Ext noG w0 w1) .ret ρ23 w23
  obtain rfl := Option.some.inj hF
  exact res2 rfl (by decide) (by decide) h8 h9 ⟨⟨_, rfl, O8⟩, hW⟩

set_option maxHeartbeats 4000000 in
theorem pensionplain_Ints_ok {w0 : World} (a_ : List Int) (b_ : List Int) {v_a_ : Value} (H_a_ : RepSl intR noG w0 v_a_ a_) {v_b_ : Value} (H_b_ : RepSl intR noG w0 v_b_ b_) {r : Bool} (hF : pensionplain_Ints a_ b_ = some r) :
    Calls Tryz.prog 10 #[v_a_, v_b_] w0 fun e w1 => e = .returned (.bool r) ∧ Ext noG w0 w1 := by
  refine (Calls.start (P := Tryz.prog) (args := [v_a_, v_b_]) (R := fun v w1 => v = .bool r ∧ Ext noG w0 w1) (n := 26) (w := w0) Tryz.func10 rfl rfl (Nat.le_of_ble_eq_true rfl) (fun ρ hargs => ?_)).mono (fun e w1 ⟨v, he, hv, hE⟩ => ⟨hv ▸ he, hE⟩)
  have h0 := hargs 0 _ rfl
  have h1 := hargs 1 _ rfl
  have hW := Ext.refl noG w0
  obtain ⟨_, _, hs_H_a_, _, _⟩ := RepSl.shape H_a_
  have H_a_ := H_a_.start
  obtain ⟨_, _, hs_H_b_, _, _⟩ := RepSl.shape H_b_
  have H_b_ := H_b_.start
  rw [pensionplain_Ints] at hF
  refine WP.seq (WP.rb mixed [[]] [[]] [(4, .bool false)] (by kernel_rfl) ⟨aC rfl rfl (fun _ => rfl), trivial⟩ ?_)
  intro ρ1 w1 hN hf hr
  obtain ⟨h0, h1⟩ := k2 hr h0 h1 rfl
  have H_a_ := H_a_.exn hN
  have H_b_ := H_b_.exn hN
  have hW := hW.trans hN
  refine WP.seq (WP.seq (WP.rb mixed [[], [0], [], [2], [1, 3]] [[0], [], [1], [], []] [(6, v_a_), (7, .int .i64 (a_.length : Int)), (8, v_b_), (9, .int .i64 (b_.length : Int)), (10, .bool ((a_.length : Int) != (b_.length : Int)))] (by kernel_rfl) ⟨mE rfl rfl h0,
 fun ρz wz hE hA _ ⟨u0, _⟩ => core_val rfl rfl (o_len (u0.trans hs_H_a_) len_22),
 mE rfl rfl h1,
 fun ρz wz hE hA _ ⟨u2, _⟩ => core_val rfl rfl (o_len (u2.trans hs_H_b_) len_22),
 fun ρz wz hE hA _ ⟨u1, u3, _⟩ => core_val rfl rfl (o_neq u1 u3 rfl), trivial⟩ ?_))
  intro ρ2 w2 hN hf hr
  have h10 := hv hf 4 rfl rfl
  obtain ⟨h0, h1⟩ := k2 hr h0 h1 rfl
  have H_a_ := H_a_.exn hN
  have H_b_ := H_b_.exn hN
  have hW := hW.trans hN
  refine WP.cond rfl h10 (fun hb => ?_) (fun hb => ?_)
  · have hF := (if_pos hb).symm.trans hF
    refine WP.seq (WP.rb mixed [[]] [[]] [(4, .bool false)] (by kernel_rfl) ⟨aC rfl rfl (fun _ => rfl), trivial⟩ ?_)
    intro ρ3 w3 hN hf hr
    have h4 := hv hf 0 rfl rfl
    have hW := hW.trans hN
    refine WP.ret ?_
    show retQ Tryz.prog 26 Tryz.f10 (fun v w1 => v = .bool r ∧ Ext noG w0 w1) .ret ρ3 w3
    obtain rfl := Option.some.inj hF
    exact res1 rfl (by decide) h4 ⟨rfl, hW⟩
  have hF := (if_neg (Bool.eq_false_iff.1 hb)).symm.trans hF
  refine WP.skip (WP.seq (WP.seq (WP.rb mixed [[]] [[]] [(5, .int .i64 0)] (by kernel_rfl) ⟨aC rfl rfl (fun _ => rfl), trivial⟩ ?_)))
  intro ρ4 w4 hN hf hr
  have h5 := hv hf 0 rfl rfl
  obtain ⟨h0, h1⟩ := k2 hr h0 h1 rfl
  have H_a_ := H_a_.exn hN
  have H_b_ := H_b_.exn hN
  have hW := hW.trans hN
  refine WP.block (WP.loop (fun k_ ρ w => ∃ i_ : Int, ρ 0 = v_a_ ∧ ρ 1 = v_b_ ∧ ρ 5 = .int .i64 i_ ∧ RepSl intR (gfr noG w0) w v_a_ a_ ∧ RepSl intR (gfr noG w0) w v_b_ b_ ∧ Ext noG w0 w ∧ loopC k_ (pensionplain_Ints_l a_ b_) i_ = some r) FU ⟨0, h0, h1, h5, H_a_, H_b_, hW, hF⟩ (fun _ _ h => by obtain ⟨_, _, _, _, _, _, _, h⟩ := h; cases h) ?_)
  rintro k_ ρ5 w5 ⟨i_, h0, h1, h5, H_a_, H_b_, hW, hF⟩
  have hF : pensionplain_Ints_l a_ b_ (loopC k_ (pensionplain_Ints_l a_ b_)) i_ = some r := (loopC_succ k_ (pensionplain_Ints_l a_ b_) i_).symm.trans hF
  generalize hrec_ : loopC k_ (pensionplain_Ints_l a_ b_) = rec_ at hF
  rw [pensionplain_Ints_l] at hF
  refine WP.seq (WP.seq (WP.rb mixed [[], [], [1], [0, 2]] [[5], [0], [], []] [(11, .int .i64 i_), (12, v_a_), (13, .int .i64 (a_.length : Int)), (14, .bool (decide (i_ < (a_.length : Int))))] (by kernel_rfl) ⟨mE rfl rfl h5,
 mE rfl rfl h0,
 fun ρz wz hE hA _ ⟨u1, _⟩ => core_val rfl rfl (o_len (u1.trans hs_H_a_) len_22),
 fun ρz wz hE hA _ ⟨u0, u2, _⟩ => core_val rfl rfl (o_lss u0 u2 rfl), trivial⟩ ?_))
  intro ρ6 w6 hN hf hr
  have h14 := hv hf 3 rfl rfl
  obtain ⟨h0, h1, h5⟩ := k3 hr h0 h1 h5 rfl
  have H_a_ := H_a_.exn hN
  have H_b_ := H_b_.exn hN
  have hW := hW.trans hN
  refine WP.cond rfl h14 (fun hb => ?_) (fun hb => ?_)
  · have hF := (if_pos hb).symm.trans hF
    refine WP.skip (WP.seq (WP.block (WP.seq ?_)))
    obtain ⟨y, hy, hF⟩ := obind hF
    obtain ⟨ay, cy, hvy, hiy, hAy⟩ := RepSl.getF H_a_ hy
    obtain ⟨y2, hy2, hF⟩ := obind hF
    obtain ⟨ay2, cy2, hvy2, hiy2, hAy2⟩ := RepSl.getF H_b_ hy2
    refine WP.rb mixed [[], [], [0, 1], [2], [], [], [4, 5], [6], [3, 7]] [[0], [5], [], [], [1], [5], [], [], []] [(17, v_a_), (18, .int .i64 i_), (19, .pointer (some (ay.add (Int.toNat i_ * 1)))), (20, .int .i64 y), (21, v_b_), (22, .int .i64 i_), (23, .pointer (some (ay2.add (Int.toNat i_ * 1)))), (24, .int .i64 y2), (25, .bool (y != y2))] (by kernel_rfl) ⟨mE rfl rfl h0,
 mE rfl rfl h5,
 fun ρz wz hE hA _ ⟨u0, u1, _⟩ => core_val rfl rfl (o_indexAddr (u0.trans hvy) u1 (ia_22 hiy)),
 fun ρz wz hE hA _ ⟨u2, _⟩ => core_val rfl rfl (o_load u2 (run_load1 (lr_3 _ _) ((hAy.exn (hA rfl)).ca))),
 mE rfl rfl h1,
 mE rfl rfl h5,
 fun ρz wz hE hA _ ⟨u4, u5, _⟩ => core_val rfl rfl (o_indexAddr (u4.trans hvy2) u5 (ia_22 hiy2)),
 fun ρz wz hE hA _ ⟨u6, _⟩ => core_val rfl rfl (o_load u6 (run_load1 (lr_3 _ _) ((hAy2.exn (hA rfl)).ca))),
 fun ρz wz hE hA _ ⟨u3, u7, _⟩ => core_val rfl rfl (o_neq u3 u7 rfl), trivial⟩ ?_
    intro ρ7 w7 hN hf hr
    have h25 := hv hf 8 rfl rfl
    obtain ⟨h0, h1, h5⟩ := k3 hr h0 h1 h5 rfl
    have H_a_ := H_a_.exn hN
    have H_b_ := H_b_.exn hN
    have hW := hW.trans hN
    refine WP.cond rfl h25 (fun hb => ?_) (fun hb => ?_)
    · have hF := (if_pos hb).symm.trans hF
      refine WP.seq (WP.rb mixed [[]] [[]] [(4, .bool false)] (by kernel_rfl) ⟨aC rfl rfl (fun _ => rfl), trivial⟩ ?_)
      intro ρ8 w8 hN hf hr
      have h4 := hv hf 0 rfl rfl
      have hW := hW.trans hN
      refine WP.ret ?_
      show retQ Tryz.prog 26 Tryz.f10 (fun v w1 => v = .bool r ∧ Ext noG w0 w1) .ret ρ8 w8
      obtain rfl := Option.some.inj hF
      exact res1 rfl (by decide) h4 ⟨rfl, hW⟩
    have hF := (if_neg (Bool.eq_false_iff.1 hb)).symm.trans hF
    refine WP.skip (WP.rv mixed [[], [0], [0, 1]] [[], [0], [1]] [[5], [], []] [(15, .int .i64 i_), (16, .int .i64 (i64 (i_ + 1))), (5, .int .i64 (i64 (i_ + 1)))] (by kernel_rfl) ⟨mE rfl rfl h5,
 fun ρz wz hE hA _ ⟨u0, _⟩ => core_val rfl rfl (o_add u0 rfl rfl),
 aU rfl rfl rfl, trivial⟩ ?_)
    intro ρ9 w9 hN hf hr
    have h5 := hv hf 2 rfl rfl
    obtain ⟨h0, h1⟩ := k2 hr h0 h1 rfl
    have H_a_ := H_a_.exn hN
    have H_b_ := H_b_.exn hN
    have hW := hW.trans hN
    exact ⟨i64 (i_ + 1), h0, h1, h5, H_a_, H_b_, hW, (by first | exact hF | (rw [hrec_]; exact hF))⟩
  have hF := (if_neg (Bool.eq_false_iff.1 hb)).symm.trans hF
  refine WP.exit (thenQ_exit (thenQ_exit (blockQ_hit (WP.seq (WP.rb mixed [[]] [[]] [(4, .bool true)] (by kernel_rfl) ⟨aC rfl rfl (fun _ => rfl), trivial⟩ ?_)))))
  intro ρ10 w10 hN hf hr
  have h4 := hv hf 0 rfl rfl
  have hW := hW.trans hN
  refine WP.ret ?_
  show retQ Tryz.prog 26 Tryz.f10 (fun v w1 => v = .bool r ∧ Ext noG w0 w1) .ret ρ10 w10
  obtain rfl := Option.some.inj hF
  exact res1 rfl (by decide) h4 ⟨rfl, hW⟩

set_option maxHeartbeats 4000000 in
theorem pensionlaw24_awake_ok {w0 : World} (Hg_0 : GR [Value.int .i64 1, Value.int .i64 1] noG w0 0) {r : Bool} (hF : pensionlaw24_awake = some r) :
    Calls Tryz.prog 9 #[] w0 fun e w1 => e = .returned (.bool r) ∧ Ext noG w0 w1 := by
  refine (Calls.start (P := Tryz.prog) (args := []) (R := fun v w1 => v = .bool r ∧ Ext noG w0 w1) (n := 56) (w := w0) Tryz.func9 rfl rfl (Nat.le_of_ble_eq_true rfl) (fun ρ hargs => ?_)).mono (fun e w1 ⟨v, he, hv, hE⟩ => ⟨hv ▸ he, hE⟩)
  have hW := Ext.refl noG w0
  have Hg_0 := Hg_0.start
  rw [pensionlaw24_awake] at hF
  refine WP.seq (WP.rb mixed [[]] [[]] [(0, .bool false)] (by kernel_rfl) ⟨aC rfl rfl (fun _ => rfl), trivial⟩ ?_)
  intro ρ1 w1 hN hf hr
  have Hg_0 := Hg_0.exn hN
  have hW := hW.trans hN
  refine WP.seq (WP.rg mixed [[], [], [0, 1], [2]] [[], [], [0, 1], [2]] [[], [], [], []] [val 6 (Right.val (⟨1, 3, 1, 130⟩ : Right)), val 7 (Right.val (⟨2, 1, 1, 100⟩ : Right)), (8, fun u wz => ∃ b, u = .slice (some ⟨b, 0, none⟩) 2 2 ∧ w1.heap.size ≤ b ∧ Mb wz b 46 (([(⟨1, 3, 1, 130⟩ : Right), (⟨2, 1, 1, 100⟩ : Right)]).flatMap Right.cells)), (1, fun u wz => ∃ b, u = .slice (some ⟨b, 0, none⟩) 2 2 ∧ w1.heap.size ≤ b ∧ Mb wz b 46 (([(⟨1, 3, 1, 130⟩ : Right), (⟨2, 1, 1, 100⟩ : Right)]).flatMap Right.cells))] (by kernel_rfl) ⟨sV, sV, fun _ _ _ hE ⟨b, hz, hs, hM⟩ => ⟨b, hz, hs, hM.exn hE⟩, fun _ _ _ hE ⟨b, hz, hs, hM⟩ => ⟨b, hz, hs, hM.exn hE⟩, trivial⟩ ⟨fun ρz wz hE hA _ _ => core_val rfl rfl (o_build (build_parts4 rfl rfl rfl rfl) (bd_46_0_1_2_3 _ _ _ _ _)),
 fun ρz wz hE hA _ _ => core_val rfl rfl (o_build (build_parts4 rfl rfl rfl rfl) (bd_46_0_1_2_3 _ _ _ _ _)),
 fun ρz wz hE hA _ ⟨u0, u1, _⟩ => core_slice rfl rfl hE (o_buildSlice (build_parts2 u0 u1) (bs_47_2 _ _ _)),
 fun ρz wz hE hA _ ⟨⟨bz2, hzn2, hge2, hM2⟩, _⟩ => core_copy rfl rfl (o_assign rfl) ⟨bz2, hzn2, hge2, hM2⟩, trivial⟩ ?_)
  intro ρ2 w2 hN hf hr
  obtain ⟨bn1, h1, hgn1, hMn1⟩ : ∃ b, ρ2 1 = .slice (some ⟨b, 0, none⟩) 2 2 ∧ w1.heap.size ≤ b ∧ Mb w2 b 46 (([(⟨1, 3, 1, 130⟩ : Right), (⟨2, 1, 1, 100⟩ : Right)]).flatMap Right.cells) := hf 3 rfl
  obtain ⟨v1_, hv1⟩ : ∃ v : Value, v = .slice (some ⟨bn1, 0, none⟩) 2 2 := ⟨_, rfl⟩
  rw [← hv1] at h1
  have hq1 : Own w0.heap.size 46 4 Right.cells w2 v1_ [(⟨1, 3, 1, 130⟩ : Right), (⟨2, 1, 1, 100⟩ : Right)] := hv1 ▸ hMn1.own (Nat.le_trans hW.size hgn1) rfl (Nat.le_of_ble_eq_true rfl) (fun _ => rfl)
  have hfr1 : ∀ b, v1_.ownBlock = some b → w1.heap.size ≤ b := fun b hb => by rw [hv1] at hb; simp only [Value.ownBlock, Option.some.injEq] at hb; omega
  have Hg_0 := Hg_0.exn hN
  have hW := hW.trans hN
  have Hf1 : RepSl Right.R noG w2 v1_ [(⟨1, 3, 1, 130⟩ : Right), (⟨2, 1, 1, 100⟩ : Right)] := hq1.rep (fun _ _ h => h)
  obtain ⟨_, _, hs_Hf1, _, _⟩ := RepSl.shape Hf1
  refine WP.seq ?_
  obtain ⟨z, hz, hF⟩ := obind hF
  refine WP.rg mixed [[], [0], [1], [2], [2], [3], [4]] [[], [0], [1], [2], [2], [3], [4]] [[1], [], [], [], [], [], []] [val 10 (v1_), (11, fun u wz => ∃ q : Value, u = .tuple #[q, .int .i64 z.2] ∧ Own w0.heap.size 3 1 (fun x : Int => [Value.int .i64 x]) wz q z.1 ∧ ∀ b, q.ownBlock = some b → w2.heap.size ≤ b), (9, fun u wz => ∃ q : Value, u = .tuple #[q, .int .i64 z.2] ∧ Own w0.heap.size 3 1 (fun x : Int => [Value.int .i64 x]) wz q z.1 ∧ ∀ b, q.ownBlock = some b → w2.heap.size ≤ b), (12, fun u wz => Own w0.heap.size 3 1 (fun x : Int => [Value.int .i64 x]) wz u z.1 ∧ ∀ b, u.ownBlock = some b → w2.heap.size ≤ b), val 13 (.int .i64 z.2), (2, fun u wz => Own w0.heap.size 3 1 (fun x : Int => [Value.int .i64 x]) wz u z.1 ∧ ∀ b, u.ownBlock = some b → w2.heap.size ≤ b), val 3 (.int .i64 z.2)] (by kernel_rfl) ⟨sV, fun _ _ _ hE ⟨q, ht, hO, hf⟩ => ⟨q, ht, hO.exn hE, hf⟩, fun _ _ _ hE ⟨q, ht, hO, hf⟩ => ⟨q, ht, hO.exn hE, hf⟩, fun _ _ _ hE ⟨hO, hf⟩ => ⟨hO.exn hE, hf⟩, sV, fun _ _ _ hE ⟨hO, hf⟩ => ⟨hO.exn hE, hf⟩, sV, trivial⟩ ⟨mE rfl rfl h1,
 fun ρz wz hE hA _ ⟨u0, _⟩ => core_callR rfl (call_args4 u0 rfl rfl rfl) cf_22 ((family_Order_ok  _ _ _ _ (Hf1.exn (hA rfl)).no (RepSl.nil _ noG _).no hz).mono (fun e w1 ⟨v, he, hE1, q, hv, hO⟩ => ⟨v, he, hE1, q, hv, hO.base (Nat.le_trans hW.size hE.size), fun b hb => Nat.le_trans hE.size (hO.lt hb).1⟩)),
 fun ρz wz hE hA _ ⟨⟨q1, ht1, hO1, hfr1⟩, _⟩ => core_copy rfl rfl (o_move rfl) ⟨q1, ht1, hO1, hfr1⟩,
 fun ρz wz hE hA _ ⟨⟨q2, ht2, hO2, hfr2⟩, _⟩ => core_copy rfl rfl (o_extract ht2 (by kernel_rfl)) ⟨hO2, hfr2⟩,
 fun ρz wz hE hA _ ⟨⟨q2, ht2, hO2, hfr2⟩, _⟩ => core_val rfl rfl (o_extract ht2 (by kernel_rfl)),
 fun ρz wz hE hA _ ⟨⟨hO3, hfr3⟩, _⟩ => core_copy rfl rfl (o_assign rfl) ⟨hO3, hfr3⟩,
 aU rfl rfl rfl, trivial⟩ ?_
  intro ρ3 w3 hN hf hr
  obtain ⟨v2_, h2⟩ : ∃ v, ρ3 2 = v := ⟨_, rfl⟩
  have hq2 : (fun u wz => Own w0.heap.size 3 1 (fun x : Int => [Value.int .i64 x]) wz u z.1 ∧ ∀ b, u.ownBlock = some b → w2.heap.size ≤ b) (ρ3 2) w3 := hf 5 rfl
  rw [h2] at hq2
  obtain ⟨hq2, hfr2⟩ := hq2
  have h3 : ρ3 3 = .int .i64 z.2 := hf 6 rfl
  have h1 := (hr 1 rfl).trans h1
  have Hg_0 := Hg_0.exn hN
  have Hf1 := Hf1.exn hN
  have hW := hW.trans hN
  have Hf2 : RepSl intR noG w3 v2_ z.1 := hq2.rep (fun _ _ h => h)
  obtain ⟨_, _, hs_Hf2, _, _⟩ := RepSl.shape Hf2
  refine WP.seq ?_
  obtain ⟨z2, hz2, hF⟩ := obind hF
  refine WP.rg mixed [[], [0], [1], [2], [2], [3], [4]] [[], [0], [1], [2], [2], [3], [4]] [[1], [], [], [], [], [], []] [val 15 (v1_), (16, fun u wz => ∃ q : Value, u = .tuple #[q, .int .i64 z2.2] ∧ Own w0.heap.size 55 4 FamilyPay.cells wz q z2.1 ∧ ∀ b, q.ownBlock = some b → w3.heap.size ≤ b), (14, fun u wz => ∃ q : Value, u = .tuple #[q, .int .i64 z2.2] ∧ Own w0.heap.size 55 4 FamilyPay.cells wz q z2.1 ∧ ∀ b, q.ownBlock = some b → w3.heap.size ≤ b), (17, fun u wz => Own w0.heap.size 55 4 FamilyPay.cells wz u z2.1 ∧ ∀ b, u.ownBlock = some b → w3.heap.size ≤ b), val 18 (.int .i64 z2.2), (4, fun u wz => Own w0.heap.size 55 4 FamilyPay.cells wz u z2.1 ∧ ∀ b, u.ownBlock = some b → w3.heap.size ≤ b), val 5 (.int .i64 z2.2)] (by kernel_rfl) ⟨sV, fun _ _ _ hE ⟨q, ht, hO, hf⟩ => ⟨q, ht, hO.exn hE, hf⟩, fun _ _ _ hE ⟨q, ht, hO, hf⟩ => ⟨q, ht, hO.exn hE, hf⟩, fun _ _ _ hE ⟨hO, hf⟩ => ⟨hO.exn hE, hf⟩, sV, fun _ _ _ hE ⟨hO, hf⟩ => ⟨hO.exn hE, hf⟩, sV, trivial⟩ ⟨mE rfl rfl h1,
 fun ρz wz hE hA _ ⟨u0, _⟩ => core_callR rfl (call_args4 u0 rfl rfl rfl) cf_23 ((family_Payments_ok (Hg_0.exn (hA rfl)).no _ _ _ _ (Hf1.exn (hA rfl)).no (RepSl.nil _ noG _).no hz2).mono (fun e w1 ⟨v, he, hE1, q, hv, hO⟩ => ⟨v, he, hE1, q, hv, hO.base (Nat.le_trans hW.size hE.size), fun b hb => Nat.le_trans hE.size (hO.lt hb).1⟩)),
 fun ρz wz hE hA _ ⟨⟨q1, ht1, hO1, hfr1⟩, _⟩ => core_copy rfl rfl (o_move rfl) ⟨q1, ht1, hO1, hfr1⟩,
 fun ρz wz hE hA _ ⟨⟨q2, ht2, hO2, hfr2⟩, _⟩ => core_copy rfl rfl (o_extract ht2 (by kernel_rfl)) ⟨hO2, hfr2⟩,
 fun ρz wz hE hA _ ⟨⟨q2, ht2, hO2, hfr2⟩, _⟩ => core_val rfl rfl (o_extract ht2 (by kernel_rfl)),
 fun ρz wz hE hA _ ⟨⟨hO3, hfr3⟩, _⟩ => core_copy rfl rfl (o_assign rfl) ⟨hO3, hfr3⟩,
 aU rfl rfl rfl, trivial⟩ ?_
  intro ρ4 w4 hN hf hr
  obtain ⟨v4_, h4⟩ : ∃ v, ρ4 4 = v := ⟨_, rfl⟩
  have hq4 : (fun u wz => Own w0.heap.size 55 4 FamilyPay.cells wz u z2.1 ∧ ∀ b, u.ownBlock = some b → w3.heap.size ≤ b) (ρ4 4) w4 := hf 5 rfl
  rw [h4] at hq4
  obtain ⟨hq4, hfr4⟩ := hq4
  have h5 : ρ4 5 = .int .i64 z2.2 := hf 6 rfl
  obtain ⟨h2, h3⟩ := k2 hr h2 h3 rfl
  have Hg_0 := Hg_0.exn hN
  have Hf2 := Hf2.exn hN
  have hW := hW.trans hN
  have Hf4 : RepSl FamilyPay.R noG w4 v4_ z2.1 := hq4.rep (fun _ _ h => h)
  obtain ⟨_, _, hs_Hf4, _, _⟩ := RepSl.shape Hf4
  refine WP.seq ?_
  obtain ⟨c, hc, hF⟩ := obind hF
  obtain ⟨z3, hz3, hc⟩ := andB hc
  have hc := andE hc
  obtain ⟨c2, hc2, hF⟩ := obind hF
  obtain ⟨y, hy, hc2⟩ := andB hc2
  obtain ⟨ay, cy, hvy, hiy, hAy⟩ := RepSl.getFI Hf4 hy
  have hc2 := andE hc2
  obtain ⟨c3, hc3, hF⟩ := obind hF
  obtain ⟨y2, hy2, hc3⟩ := andB hc3
  obtain ⟨ay2, cy2, hvy2, hiy2, hAy2⟩ := RepSl.getFI Hf4 hy2
  have hc3 := andE hc3
  obtain ⟨c4, hc4, hF⟩ := obind hF
  obtain ⟨y3, hy3, hc4⟩ := andB hc4
  obtain ⟨ay3, cy3, hvy3, hiy3, hAy3⟩ := RepSl.getFI Hf4 hy3
  have hc4 := andE hc4
  refine WP.rg mixed [[], [0], [1], [2], [2, 3], [2, 4], [5], [6], [6], [6, 7, 8], [6, 9], [10], [11], [11, 12], [11, 13], [11, 14], [15], [16], [16, 17], [16, 18], [16], [16, 19, 20], [16, 21], [22], [23], [23, 24], [23, 25], [23, 26], [23, 27], [23, 28], [29], [30], [30, 31], [30, 32], [30, 33], [30, 34], [30, 35], [36]] [[], [0], [1], [2], [2, 3], [2, 4], [5], [6], [6], [6, 7, 8], [6, 9], [10], [11], [11, 12], [11, 13], [11, 14], [15], [16], [16, 17], [16, 18], [16], [16, 19, 20], [16, 21], [22], [23], [23, 24], [23, 25], [23, 26], [23, 27], [23, 28], [29], [30], [30, 31], [30, 32], [30, 33], [30, 34], [30, 35], [36]] [[3], [], [], [5], [], [], [], [2], [], [], [], [], [4], [], [], [], [], [4], [], [], [], [], [], [], [4], [], [], [], [], [], [], [4], [], [], [], [], [], []] [val 19 (.int .i64 z.2), val 20 (.bool (z.2 == 0)), val 21 (.bool (z.2 == 0)), val 22 (gv ((z.2 == 0)) (.int .i64 z2.2)), val 23 (gv ((z.2 == 0)) (.bool (z2.2 == 0))), val 24 (.bool ((z.2 == 0) && (z2.2 == 0))), val 25 (.bool ((z.2 == 0) && (z2.2 == 0))), val 26 (gv (((z.2 == 0) && (z2.2 == 0))) v2_), (27, fun u wz => (((z.2 == 0) && (z2.2 == 0))) = true → (fun u wz => ∃ b, u = .slice (some ⟨b, 0, none⟩) 2 2 ∧ w4.heap.size ≤ b ∧ Mb wz b 3 (([1, 0]).flatMap (fun x : Int => [Value.int .i64 x]))) u wz), val 28 (gv (((z.2 == 0) && (z2.2 == 0))) (.bool z3)), val 29 (.bool c), val 30 (.bool c), val 31 (gv (c) v4_), val 32 (gv (c) (.int .i64 (z2.1.length : Int))), val 33 (gv (c) (.bool ((z2.1.length : Int) == 2))), val 34 (.bool (c && ((z2.1.length : Int) == 2))), val 35 (.bool (c && ((z2.1.length : Int) == 2))), val 36 (gv ((c && ((z2.1.length : Int) == 2))) v4_), val 37 (gv ((c && ((z2.1.length : Int) == 2))) (.pointer (some (ay.add (Int.toNat 0 * 4))))), val 38 (gv ((c && ((z2.1.length : Int) == 2))) (FamilyPay.val y)), val 39 (gv ((c && ((z2.1.length : Int) == 2))) (FamilyPay.val (⟨2, 1, 100, true⟩ : FamilyPay))), val 40 (gv ((c && ((z2.1.length : Int) == 2))) (.bool (FamilyPay.eqb y (⟨2, 1, 100, true⟩ : FamilyPay)))), val 41 (.bool c2), val 42 (.bool c2), val 43 (gv (c2) v4_), val 44 (gv (c2) (.pointer (some (ay2.add (Int.toNat 1 * 4))))), val 45 (gv (c2) (.pointer (some ((ay2.add (Int.toNat 1 * 4)).add 2)))), val 46 (gv (c2) (.int .i64 y2.Amount)), val 47 (gv (c2) (.bool (y2.Amount == 30))), val 48 (.bool c3), val 49 (.bool c3), val 50 (gv (c3) v4_), val 51 (gv (c3) (.pointer (some (ay3.add (Int.toNat 1 * 4))))), val 52 (gv (c3) (.pointer (some ((ay3.add (Int.toNat 1 * 4)).add 3)))), val 53 (gv (c3) (.bool y3.Primary)), val 54 (gv (c3) (.bool (!y3.Primary))), val 55 (.bool c4), val 0 (.bool c4)] (by kernel_rfl) ⟨sV, sV, sV, sV, sV, sV, sV, sV, stabI (Φ := fun u wz => ∃ b, u = .slice (some ⟨b, 0, none⟩) 2 2 ∧ w4.heap.size ≤ b ∧ Mb wz b 3 (([1, 0]).flatMap (fun x : Int => [Value.int .i64 x]))) (fun _ _ _ hE ⟨b, hz, hs, hM⟩ => ⟨b, hz, hs, hM.exn hE⟩), sV, sV, sV, sV, sV, sV, sV, sV, sV, sV, sV, sV, sV, sV, sV, sV, sV, sV, sV, sV, sV, sV, sV, sV, sV, sV, sV, sV, sV, trivial⟩ ⟨mE rfl rfl h3,
 fun ρz wz hE hA _ ⟨u0, _⟩ => core_val rfl rfl (o_eql u0 rfl rfl),
 mU rfl rfl rfl,
 fun ρz wz hE hA ⟨e5, _⟩ ⟨u2, _⟩ => gIf rfl rfl (yT rfl u2) fun gc F hF => core_val rfl hF (o_move (e5.trans h5)),
 fun ρz wz hE hA _ ⟨u2, u3, _⟩ => gIf rfl rfl (yT rfl u2) fun gc F hF => core_val rfl hF (o_eql (gt gc u3) rfl rfl),
 fun ρz wz hE hA _ ⟨u2, u4, _⟩ => core_val rfl rfl (o_pick_and u2 u4 rfl),
 mU rfl rfl rfl,
 fun ρz wz hE hA ⟨e2, _⟩ ⟨u6, _⟩ => gIf rfl rfl (yT rfl u6) fun gc F hF => core_val rfl hF (o_move (e2.trans h2)),
 fun ρz wz hE hA _ ⟨u6, _⟩ => gIfR rfl (yT rfl u6) fun gc F hF => core_slice rfl hF hE (o_buildSlice (build_parts2 rfl rfl) (bs_22_2 _ _ _)),
 fun ρz wz hE hA _ ⟨u6, u7, u8, _⟩ => gIf rfl rfl (yT rfl u6) fun gc F hF => let ⟨bz8, hzn8, hge8, hM8⟩ := u8 gc; core_call hF (call_args2 (gt gc u7) hzn8) cf_10 (pensionplain_Ints_ok  _ _ (Hf2.exn (hA rfl)).no (Mb.rep (n := 1) (cells := fun x : Int => [Value.int .i64 x]) (hn := fun _ => rfl) (G := noG) hM8 rfl (Nat.le_of_ble_eq_true rfl) (fun h => h)).no (hz3 gc)),
 fun ρz wz hE hA _ ⟨u6, u9, _⟩ => core_valE rfl rfl (congrArg Value.bool hc) (o_pick_and u6 u9 rfl),
 mU rfl rfl rfl,
 fun ρz wz hE hA ⟨e4, _⟩ ⟨u11, _⟩ => gIf rfl rfl (yT rfl u11) fun gc F hF => core_val rfl hF (o_move (e4.trans h4)),
 fun ρz wz hE hA _ ⟨u11, u12, _⟩ => gIf rfl rfl (yT rfl u11) fun gc F hF => core_val rfl hF (o_len ((gt gc u12).trans hs_Hf4) len_51),
 fun ρz wz hE hA _ ⟨u11, u13, _⟩ => gIf rfl rfl (yT rfl u11) fun gc F hF => core_val rfl hF (o_eql (gt gc u13) rfl rfl),
 fun ρz wz hE hA _ ⟨u11, u14, _⟩ => core_val rfl rfl (o_pick_and u11 u14 rfl),
 mU rfl rfl rfl,
 fun ρz wz hE hA ⟨e4, _⟩ ⟨u16, _⟩ => gIf rfl rfl (yT rfl u16) fun gc F hF => core_val rfl hF (o_move (e4.trans h4)),
 fun ρz wz hE hA _ ⟨u16, u17, _⟩ => gIf rfl rfl (yT rfl u16) fun gc F hF => core_val rfl hF (o_indexAddr ((gt gc u17).trans (hvy gc)) rfl (ia_51 (hiy gc))),
 fun ρz wz hE hA _ ⟨u16, u18, _⟩ => gIf rfl rfl (yT rfl u16) fun gc F hF => core_val rfl hF (o_load (gt gc u18) (run_loadN (cs := (FamilyPay.cells y)) (lr_55 _ _) rfl (((hAy gc).exn (hA rfl)).ca))),
 fun ρz wz hE hA _ ⟨u16, _⟩ => gIf rfl rfl (yT rfl u16) fun gc F hF => core_val rfl hF (o_build (build_parts4 rfl rfl rfl rfl) (bd_55_0_1_2_3 _ _ _ _ _)),
 fun ρz wz hE hA _ ⟨u16, u19, u20, _⟩ => gIf rfl rfl (yT rfl u16) fun gc F hF => core_val rfl hF (o_eqS (gt gc u19) (gt gc u20) (by kernel_rfl) (eqs_55 9998 _ _ _) rfl),
 fun ρz wz hE hA _ ⟨u16, u21, _⟩ => core_valE rfl rfl (congrArg Value.bool hc2) (o_pick_and u16 u21 rfl),
 mU rfl rfl rfl,
 fun ρz wz hE hA ⟨e4, _⟩ ⟨u23, _⟩ => gIf rfl rfl (yT rfl u23) fun gc F hF => core_val rfl hF (o_move (e4.trans h4)),
 fun ρz wz hE hA _ ⟨u23, u24, _⟩ => gIf rfl rfl (yT rfl u23) fun gc F hF => core_val rfl hF (o_indexAddr ((gt gc u24).trans (hvy2 gc)) rfl (ia_51 (hiy2 gc))),
 fun ρz wz hE hA _ ⟨u23, u25, _⟩ => gIf rfl rfl (yT rfl u23) fun gc F hF => core_val rfl hF (o_fieldAddr (gt gc u25) (fa_55_2 _ _)),
 fun ρz wz hE hA _ ⟨u23, u26, _⟩ => gIf rfl rfl (yT rfl u23) fun gc F hF => core_val rfl hF (o_load (gt gc u26) (run_load1 (lr_3 _ _) (CA.sub (((hAy2 gc).exn (hA rfl)).ca) 2 1))),
 fun ρz wz hE hA _ ⟨u23, u27, _⟩ => gIf rfl rfl (yT rfl u23) fun gc F hF => core_val rfl hF (o_eql (gt gc u27) rfl rfl),
 fun ρz wz hE hA _ ⟨u23, u28, _⟩ => core_valE rfl rfl (congrArg Value.bool hc3) (o_pick_and u23 u28 rfl),
 mU rfl rfl rfl,
 fun ρz wz hE hA ⟨e4, _⟩ ⟨u30, _⟩ => gIf rfl rfl (yT rfl u30) fun gc F hF => core_val rfl hF (o_move (e4.trans h4)),
 fun ρz wz hE hA _ ⟨u30, u31, _⟩ => gIf rfl rfl (yT rfl u30) fun gc F hF => core_val rfl hF (o_indexAddr ((gt gc u31).trans (hvy3 gc)) rfl (ia_51 (hiy3 gc))),
 fun ρz wz hE hA _ ⟨u30, u32, _⟩ => gIf rfl rfl (yT rfl u30) fun gc F hF => core_val rfl hF (o_fieldAddr (gt gc u32) (fa_55_3 _ _)),
 fun ρz wz hE hA _ ⟨u30, u33, _⟩ => gIf rfl rfl (yT rfl u30) fun gc F hF => core_val rfl hF (o_load (gt gc u33) (run_load1 (lr_4 _ _) (CA.sub (((hAy3 gc).exn (hA rfl)).ca) 3 1))),
 fun ρz wz hE hA _ ⟨u30, u34, _⟩ => gIf rfl rfl (yT rfl u30) fun gc F hF => core_val rfl hF (o_not (gt gc u34) rfl),
 fun ρz wz hE hA _ ⟨u30, u35, _⟩ => core_valE rfl rfl (congrArg Value.bool hc4) (o_pick_and u30 u35 rfl),
 aU rfl rfl rfl, trivial⟩ ?_
  intro ρ5 w5 hN hf hr
  have h0 : ρ5 0 = .bool c4 := hf 37 rfl
  have Hg_0 := Hg_0.exn hN
  have hW := hW.trans hN
  refine WP.ret ?_
  show retQ Tryz.prog 56 Tryz.f9 (fun v w1 => v = .bool r ∧ Ext noG w0 w1) .ret ρ5 w5
  obtain rfl := Option.some.inj hF
  exact res1 rfl (by decide) h0 ⟨rfl, hW⟩

set_option maxHeartbeats 4000000 in
theorem family_Parents_ok {w0 : World} (l_ : List api_Fact) (child_ : Int) (day_ : Int) {v_l_ : Value} (H_l_ : RepSl api_Fact.R noG w0 v_l_ l_) {r : (List Int)} (hF : family_Parents l_ child_ day_ = some r) :
    Calls Tryz.prog 11 #[v_l_, .int .i64 child_, .int .i64 day_] w0 fun e w1 => ∃ v, e = .returned v ∧ Ext noG w0 w1 ∧ Own w0.heap.size 3 1 (fun x : Int => [Value.int .i64 x]) w1 v r := by
  refine (Calls.start (P := Tryz.prog) (args := [v_l_, .int .i64 child_, .int .i64 day_]) (R := fun v w1 => Own w0.heap.size 3 1 (fun x : Int => [Value.int .i64 x]) w1 v r ∧ Ext noG w0 w1) (n := 12) (w := w0) Tryz.func11 rfl rfl (Nat.le_of_ble_eq_true rfl) (fun ρ hargs => ?_)).mono (fun e w1 ⟨v, he, hv, hE⟩ => ⟨v, he, hE, hv⟩)
  have h0 := hargs 0 _ rfl
  have h1 := hargs 1 _ rfl
  have h2 := hargs 2 _ rfl
  have hW := Ext.refl noG w0
  obtain ⟨_, _, hs_H_l_, _, _⟩ := RepSl.shape H_l_
  have H_l_ := H_l_.start
  rw [family_Parents] at hF
  refine WP.seq (WP.rb mixed [[]] [[]] [(6, .slice none 0 0)] (by kernel_rfl) ⟨aC rfl rfl (fun _ => rfl), trivial⟩ ?_)
  intro ρ1 w1 hN hf hr
  obtain ⟨h0, h1, h2⟩ := k3 hr h0 h1 h2 rfl
  have H_l_ := H_l_.exn hN
  have hW := hW.trans hN
  refine WP.seq ?_
  obtain ⟨z, hz, hF⟩ := obind hF
  obtain ⟨z2, hz2, hF⟩ := obind hF
  refine WP.rg mixed [[], [0], [], [], [1, 2, 3], [4]] [[], [0], [], [], [1, 2, 3], [4]] [[0], [], [1], [2], [], []] [val 7 (v_l_), (8, fun u wz => Own w0.heap.size 38 14 api_Fact.cells wz u z ∧ ∀ b, u.ownBlock = some b → w1.heap.size ≤ b), val 9 (.int .i64 child_), val 10 (.int .i64 day_), (11, fun u wz => Own w0.heap.size 3 1 (fun x : Int => [Value.int .i64 x]) wz u z2 ∧ ∀ b, u.ownBlock = some b → w1.heap.size ≤ b), (6, fun u wz => Own w0.heap.size 3 1 (fun x : Int => [Value.int .i64 x]) wz u z2 ∧ ∀ b, u.ownBlock = some b → w1.heap.size ≤ b)] (by kernel_rfl) ⟨sV, fun _ _ _ hE ⟨hO, hf⟩ => ⟨hO.exn hE, hf⟩, sV, sV, fun _ _ _ hE ⟨hO, hf⟩ => ⟨hO.exn hE, hf⟩, fun _ _ _ hE ⟨hO, hf⟩ => ⟨hO.exn hE, hf⟩, trivial⟩ ⟨mE rfl rfl h0,
 fun ρz wz hE hA _ ⟨u0, _⟩ => core_callR rfl (call_args1 u0) cf_15 ((family_facts_ok  _ (H_l_.exn (hA rfl)).no hz).mono (fun e w1 ⟨v, he, hE1, hO⟩ => ⟨v, he, hE1, hO.base (Nat.le_trans hW.size hE.size), fun b hb => Nat.le_trans hE.size (hO.lt hb).1⟩)),
 mE rfl rfl h1,
 mE rfl rfl h2,
 fun ρz wz hE hA _ ⟨⟨hO1, hfr1⟩, u2, u3, _⟩ => core_callR rfl (call_args3 rfl u2 u3) cf_16 ((family_parents_ok  _ _ _ (hO1.rep (hn := fun _ => rfl) (G := noG) (fun _ _ h => h)).no hz2).mono (fun e w1 ⟨v, he, hE1, hO⟩ => ⟨v, he, hE1, hO.base (Nat.le_trans hW.size hE.size), fun b hb => Nat.le_trans hE.size (hO.lt hb).1⟩)),
 fun ρz wz hE hA _ ⟨⟨hO4, hfr4⟩, _⟩ => core_copy rfl rfl (o_assign rfl) ⟨hO4, hfr4⟩, trivial⟩ ?_
  intro ρ2 w2 hN hf hr
  obtain ⟨v6_, h6⟩ : ∃ v, ρ2 6 = v := ⟨_, rfl⟩
  have hq6 : (fun u wz => Own w0.heap.size 3 1 (fun x : Int => [Value.int .i64 x]) wz u z2 ∧ ∀ b, u.ownBlock = some b → w1.heap.size ≤ b) (ρ2 6) w2 := hf 5 rfl
  rw [h6] at hq6
  obtain ⟨hq6, hfr6⟩ := hq6
  have hW := hW.trans hN
  have O6 := hq6
  refine WP.ret ?_
  show retQ Tryz.prog 12 Tryz.f11 (fun v w1 => Own w0.heap.size 3 1 (fun x : Int => [Value.int .i64 x]) w1 v r ∧ Ext noG w0 w1) .ret ρ2 w2
  obtain rfl := Option.some.inj hF
  exact res1 rfl (by decide) h6 ⟨O6, hW⟩

set_option maxHeartbeats 4000000 in
theorem pensionlaw24_FamilyParentsAgree_ok {w0 : World} (Hg_0 : GR [Value.int .i64 1, Value.int .i64 1] noG w0 0) (d_ : List Int) (i_ : List pensionhand_Fact) (p_ : Int) (p_2 : Int) {v_d_ : Value} (H_d_ : RepSl intR noG w0 v_d_ d_) {v_i_ : Value} (H_i_ : RepSl pensionhand_Fact.R noG w0 v_i_ i_) {r : Bool} (hF : pensionlaw24_FamilyParentsAgree d_ i_ p_ p_2 = some r) :
    Calls Tryz.prog 3 #[v_d_, v_i_, .int .i64 p_, .int .i64 p_2] w0 fun e w1 => e = .returned (.bool r) ∧ Ext noG w0 w1 := by
  refine (Calls.start (P := Tryz.prog) (args := [v_d_, v_i_, .int .i64 p_, .int .i64 p_2]) (R := fun v w1 => v = .bool r ∧ Ext noG w0 w1) (n := 74) (w := w0) Tryz.func3 rfl rfl (Nat.le_of_ble_eq_true rfl) (fun ρ hargs => ?_)).mono (fun e w1 ⟨v, he, hv, hE⟩ => ⟨hv ▸ he, hE⟩)
  have h0 := hargs 0 _ rfl
  have h1 := hargs 1 _ rfl
  have h2 := hargs 2 _ rfl
  have h3 := hargs 3 _ rfl
  have hW := Ext.refl noG w0
  obtain ⟨_, _, hs_H_d_, _, _⟩ := RepSl.shape H_d_
  have H_d_ := H_d_.start
  obtain ⟨_, _, hs_H_i_, _, _⟩ := RepSl.shape H_i_
  have H_i_ := H_i_.start
  have Hg_0 := Hg_0.start
  rw [pensionlaw24_FamilyParentsAgree] at hF
  refine WP.seq (WP.rb mixed [[]] [[]] [(8, .bool false)] (by kernel_rfl) ⟨aC rfl rfl (fun _ => rfl), trivial⟩ ?_)
  intro ρ1 w1 hN hf hr
  obtain ⟨h0, h1, h2, h3⟩ := k4 hr h0 h1 h2 h3 rfl
  have H_d_ := H_d_.exn hN
  have H_i_ := H_i_.exn hN
  have Hg_0 := Hg_0.exn hN
  have hW := hW.trans hN
  refine WP.seq ?_
  obtain ⟨z, hz, hF⟩ := obind hF
  obtain ⟨z2, hz2, hF⟩ := obind hF
  obtain ⟨l, hl, hF⟩ := obind hF
  refine WP.region mixed [[], [0], [], [2], [1, 3], [4]] [[], [0], [], [2], [1, 3], [4]] [[0], [], [1], [], [], []] [4] [(1, 4), (3, 4)] [val 16 (v_d_), (17, fun u wz => Own w0.heap.size 38 14 api_Fact.cells wz u z ∧ ∀ b, u.ownBlock = some b → w1.heap.size ≤ b), val 18 (v_i_), (19, fun u wz => Own w0.heap.size 38 14 api_Fact.cells wz u z2 ∧ ∀ b, u.ownBlock = some b → w1.heap.size ≤ b), (20, fun u wz => Own w0.heap.size 38 14 api_Fact.cells wz u l ∧ ∀ b, u.ownBlock = some b → w1.heap.size ≤ b), (9, fun u wz => Own w0.heap.size 38 14 api_Fact.cells wz u l ∧ ∀ b, u.ownBlock = some b → w1.heap.size ≤ b)] (fun b => w1.heap.size ≤ b) (by kernel_rfl) ⟨sV, fun _ _ _ hE ⟨hO, hf⟩ => ⟨hO.exn hE, hf⟩, sV, fun _ _ _ hE ⟨hO, hf⟩ => ⟨hO.exn hE, hf⟩, fun _ _ _ hE ⟨hO, hf⟩ => ⟨hO.exn hE, hf⟩, fun _ _ _ hE ⟨hO, hf⟩ => ⟨hO.exn hE, hf⟩, trivial⟩ ⟨mE rfl rfl h0,
 fun ρz wz hE hA _ ⟨u0, _⟩ => core_callR rfl (call_args1 u0) cf_4 ((pensionhand_Lives_ok  _ (H_d_.over hE (fun _ h => Nat.le_trans hW.size h)).no hz).mono (fun e w1 ⟨v, he, hE1, hO⟩ => ⟨v, he, hE1, hO.base (Nat.le_trans hW.size hE.size), fun b hb => Nat.le_trans hE.size (hO.lt hb).1⟩)),
 mE rfl rfl h1,
 fun ρz wz hE hA _ ⟨u2, _⟩ => core_callR rfl (call_args1 u2) cf_5 ((pensionhand_Facts_ok  _ (H_i_.over hE (fun _ h => Nat.le_trans hW.size h)).no hz2).mono (fun e w1 ⟨v, he, hE1, hO⟩ => ⟨v, he, hE1, hO.base (Nat.le_trans hW.size hE.size), fun b hb => Nat.le_trans hE.size (hO.lt hb).1⟩)),
 fun ρz wz hE hA _ ⟨⟨hO1, hfr1⟩, ⟨hO3, hfr3⟩, _⟩ => core_append (n := 14) (cells := api_Fact.cells) (B := w0.heap.size) (w0 := w1) rfl rfl (fun b hb => hfr1 b hb) rfl rfl (fun _ => rfl) one_38 si_24 se_38 (by decide) (by decide) hO1 ⟨_, (hO3.rep (hn := fun _ => rfl) (G := noG) (fun _ _ h => h))⟩ hl (Nat.le_trans hW.size hE.size) hE.size (fun v1 w1 h1 h2 => ⟨h1, fun b hb => (h2 b hb).elim (hfr1 b) id⟩),
 fun ρz wz hE hA _ ⟨⟨hO4, hfr4⟩, _⟩ => core_copy rfl rfl (o_assign rfl) ⟨hO4, hfr4⟩, trivial⟩ ?_
  intro ρ2 w2 hE hN hf hr
  have hN := hE.fresh
  obtain ⟨v9_, h9⟩ : ∃ v, ρ2 9 = v := ⟨_, rfl⟩
  have hq9 : (fun u wz => Own w0.heap.size 38 14 api_Fact.cells wz u l ∧ ∀ b, u.ownBlock = some b → w1.heap.size ≤ b) (ρ2 9) w2 := hf 5 rfl
  rw [h9] at hq9
  obtain ⟨hq9, hfr9⟩ := hq9
  obtain ⟨h2, h3⟩ := k2 hr h2 h3 rfl
  have Hg_0 := Hg_0.exn hN
  have hW := hW.trans hN
  have Hf9 : RepSl api_Fact.R noG w2 v9_ l := hq9.rep (fun _ _ h => h)
  obtain ⟨_, _, hs_Hf9, _, _⟩ := RepSl.shape Hf9
  refine WP.seq ?_
  obtain ⟨z3, hz3, hF⟩ := obind hF
  obtain ⟨z4, hz4, hF⟩ := obind hF
  refine WP.rb mixed [[], [0], [1], [], [3], [4], [2], [5]] [[2], [], [], [3], [], [], [], []] [(21, .int .i64 p_), (22, .int .i64 z3), (23, .int .i64 (i64 (1 + z3))), (24, .int .i64 p_2), (25, .int .i64 z4), (26, .int .i64 (i64 (33000 + z4))), (10, .int .i64 (i64 (1 + z3))), (11, .int .i64 (i64 (33000 + z4)))] (by kernel_rfl) ⟨mE rfl rfl h2,
 fun ρz wz hE hA _ ⟨u0, _⟩ => core_call rfl (call_args2 u0 rfl) cf_6 (pensionplain_Mod_ok  _ _  hz3),
 fun ρz wz hE hA _ ⟨u1, _⟩ => core_val rfl rfl (o_add rfl u1 rfl),
 mE rfl rfl h3,
 fun ρz wz hE hA _ ⟨u3, _⟩ => core_call rfl (call_args2 u3 rfl) cf_6 (pensionplain_Mod_ok  _ _  hz4),
 fun ρz wz hE hA _ ⟨u4, _⟩ => core_val rfl rfl (o_add rfl u4 rfl),
 aU rfl rfl rfl,
 aU rfl rfl rfl, trivial⟩ ?_
  intro ρ3 w3 hN hf hr
  have h10 := hv hf 6 rfl rfl
  have h11 := hv hf 7 rfl rfl
  obtain ⟨h2, h3, h9⟩ := k3 hr h2 h3 h9 rfl
  have Hg_0 := Hg_0.exn hN
  have Hf9 := Hf9.exn hN
  have hW := hW.trans hN
  refine WP.seq ?_
  obtain ⟨z5, hz5, hF⟩ := obind hF
  refine WP.rb mixed [[], [], [], [0, 1, 2], [3], [4], [4], [5], [6]] [[9], [10], [11], [], [], [], [], [], []] [(28, v9_), (29, .int .i64 (i64 (1 + z3))), (30, .int .i64 (i64 (33000 + z4))), (31, .tuple #[.int .i64 z5.1, .bool z5.2]), (27, .tuple #[.int .i64 z5.1, .bool z5.2]), (32, .int .i64 z5.1), (33, .bool z5.2), (12, .int .i64 z5.1), (13, .bool z5.2)] (by kernel_rfl) ⟨mE rfl rfl h9,
 mE rfl rfl h10,
 mE rfl rfl h11,
 fun ρz wz hE hA _ ⟨u0, u1, u2, _⟩ => core_call rfl (call_args3 u0 u1 u2) cf_7 (family_Home_ok  _ _ _ (Hf9.exn (hA rfl)).no hz5),
 mU rfl rfl rfl,
 fun ρz wz hE hA _ ⟨u4, _⟩ => core_val rfl rfl (o_extract u4 (by kernel_rfl)),
 fun ρz wz hE hA _ ⟨u4, _⟩ => core_val rfl rfl (o_extract u4 (by kernel_rfl)),
 aU rfl rfl rfl,
 aU rfl rfl rfl, trivial⟩ ?_
  intro ρ4 w4 hN hf hr
  have h12 := hv hf 7 rfl rfl
  have h13 := hv hf 8 rfl rfl
  obtain ⟨h2, h3, h9, h10, h11⟩ := k5 hr h2 h3 h9 h10 h11 rfl
  have Hg_0 := Hg_0.exn hN
  have Hf9 := Hf9.exn hN
  have hW := hW.trans hN
  refine WP.seq ?_
  obtain ⟨z6, hz6, hF⟩ := obind hF
  refine WP.rb mixed [[], [], [], [0, 1, 2], [3], [4], [4], [5], [6]] [[9], [10], [11], [], [], [], [], [], []] [(35, v9_), (36, .int .i64 (i64 (1 + z3))), (37, .int .i64 (i64 (33000 + z4))), (38, .tuple #[.int .i64 z6.1, .bool z6.2]), (34, .tuple #[.int .i64 z6.1, .bool z6.2]), (39, .int .i64 z6.1), (40, .bool z6.2), (14, .int .i64 z6.1), (15, .bool z6.2)] (by kernel_rfl) ⟨mE rfl rfl h9,
 mE rfl rfl h10,
 mE rfl rfl h11,
 fun ρz wz hE hA _ ⟨u0, u1, u2, _⟩ => core_call rfl (call_args3 u0 u1 u2) cf_8 (pensionref21_Home_ok  _ _ _ (Hf9.exn (hA rfl)).no hz6),
 mU rfl rfl rfl,
 fun ρz wz hE hA _ ⟨u4, _⟩ => core_val rfl rfl (o_extract u4 (by kernel_rfl)),
 fun ρz wz hE hA _ ⟨u4, _⟩ => core_val rfl rfl (o_extract u4 (by kernel_rfl)),
 aU rfl rfl rfl,
 aU rfl rfl rfl, trivial⟩ ?_
  intro ρ5 w5 hN hf hr
  have h14 := hv hf 7 rfl rfl
  have h15 := hv hf 8 rfl rfl
  obtain ⟨h2, h3, h9, h10, h11, h12⟩ := k6 hr h2 h3 h9 h10 h11 h12 rfl
  have h13 := (hr 13 rfl).trans h13
  have Hg_0 := Hg_0.exn hN
  have Hf9 := Hf9.exn hN
  have hW := hW.trans hN
  refine WP.seq ?_
  obtain ⟨z7, hz7, hF⟩ := obind hF
  obtain ⟨c, hc, hF⟩ := obind hF
  obtain ⟨z8, hz8, hc⟩ := andB hc
  obtain ⟨z9, hz9, hc⟩ := andB hc
  obtain ⟨z10, hz10, hc⟩ := andB hc
  have hc := andE hc
  obtain ⟨c2, hc2, hF⟩ := obind hF
  obtain ⟨z11, hz11, hc2⟩ := andB hc2
  obtain ⟨z12, hz12, hc2⟩ := andB hc2
  obtain ⟨z13, hz13, hc2⟩ := andB hc2
  have hc2 := andE hc2
  refine WP.rg mixed [[], [0], [1], [1], [1], [1, 2, 3, 4], [1], [1], [1], [1, 6, 7, 8], [1, 5, 9], [1, 10], [11], [12], [12], [12], [12, 13, 14, 15], [12], [12], [12], [12, 17, 18, 19], [12, 16, 20], [12, 21], [22], [23], [23], [23, 24, 25], [23, 26], [27], [28], [28], [28, 29, 30], [28, 31], [32]] [[], [0], [1], [1], [1], [1, 2, 3, 4], [1], [1], [1], [1, 6, 7, 8], [1, 5, 9], [1, 10], [11], [12], [12], [12], [12, 13, 14, 15], [12], [12], [12], [12, 17, 18, 19], [12, 16, 20], [12, 21], [22], [23], [23], [23, 24, 25], [23, 26], [27], [28], [28], [28, 29, 30], [28, 31], [32]] [[], [], [9], [10], [11], [], [9], [10], [11], [], [], [], [], [9], [2], [3], [], [9], [2], [3], [], [], [], [], [12], [14], [], [], [], [13], [15], [], [], []] [val 41 (.bool z7), val 42 (.bool z7), val 43 (gv (z7) v9_), val 44 (gv (z7) (.int .i64 (i64 (1 + z3)))), val 45 (gv (z7) (.int .i64 (i64 (33000 + z4)))), (46, fun u wz => (z7) = true → (fun u wz => Own w0.heap.size 3 1 (fun x : Int => [Value.int .i64 x]) wz u z8 ∧ ∀ b, u.ownBlock = some b → w5.heap.size ≤ b) u wz), val 47 (gv (z7) v9_), val 48 (gv (z7) (.int .i64 (i64 (1 + z3)))), val 49 (gv (z7) (.int .i64 (i64 (33000 + z4)))), (50, fun u wz => (z7) = true → (fun u wz => Own w0.heap.size 3 1 (fun x : Int => [Value.int .i64 x]) wz u z9 ∧ ∀ b, u.ownBlock = some b → w5.heap.size ≤ b) u wz), val 51 (gv (z7) (.bool z10)), val 52 (.bool c), val 53 (.bool c), val 54 (gv (c) v9_), val 55 (gv (c) (.int .i64 p_)), val 56 (gv (c) (.int .i64 p_2)), (57, fun u wz => (c) = true → (fun u wz => Own w0.heap.size 3 1 (fun x : Int => [Value.int .i64 x]) wz u z11 ∧ ∀ b, u.ownBlock = some b → w5.heap.size ≤ b) u wz), val 58 (gv (c) v9_), val 59 (gv (c) (.int .i64 p_)), val 60 (gv (c) (.int .i64 p_2)), (61, fun u wz => (c) = true → (fun u wz => Own w0.heap.size 3 1 (fun x : Int => [Value.int .i64 x]) wz u z12 ∧ ∀ b, u.ownBlock = some b → w5.heap.size ≤ b) u wz), val 62 (gv (c) (.bool z13)), val 63 (.bool c2), val 64 (.bool c2), val 65 (gv (c2) (.int .i64 z5.1)), val 66 (gv (c2) (.int .i64 z6.1)), val 67 (gv (c2) (.bool (z5.1 == z6.1))), val 68 (.bool (c2 && (z5.1 == z6.1))), val 69 (.bool (c2 && (z5.1 == z6.1))), val 70 (gv ((c2 && (z5.1 == z6.1))) (.bool z5.2)), val 71 (gv ((c2 && (z5.1 == z6.1))) (.bool z6.2)), val 72 (gv ((c2 && (z5.1 == z6.1))) (.bool (z5.2 == z6.2))), val 73 (.bool ((c2 && (z5.1 == z6.1)) && (z5.2 == z6.2))), val 8 (.bool ((c2 && (z5.1 == z6.1)) && (z5.2 == z6.2)))] (by kernel_rfl) ⟨sV, sV, sV, sV, sV, stabI (Φ := fun u wz => Own w0.heap.size 3 1 (fun x : Int => [Value.int .i64 x]) wz u z8 ∧ ∀ b, u.ownBlock = some b → w5.heap.size ≤ b) (fun _ _ _ hE ⟨hO, hf⟩ => ⟨hO.exn hE, hf⟩), sV, sV, sV, stabI (Φ := fun u wz => Own w0.heap.size 3 1 (fun x : Int => [Value.int .i64 x]) wz u z9 ∧ ∀ b, u.ownBlock = some b → w5.heap.size ≤ b) (fun _ _ _ hE ⟨hO, hf⟩ => ⟨hO.exn hE, hf⟩), sV, sV, sV, sV, sV, sV, stabI (Φ := fun u wz => Own w0.heap.size 3 1 (fun x : Int => [Value.int .i64 x]) wz u z11 ∧ ∀ b, u.ownBlock = some b → w5.heap.size ≤ b) (fun _ _ _ hE ⟨hO, hf⟩ => ⟨hO.exn hE, hf⟩), sV, sV, sV, stabI (Φ := fun u wz => Own w0.heap.size 3 1 (fun x : Int => [Value.int .i64 x]) wz u z12 ∧ ∀ b, u.ownBlock = some b → w5.heap.size ≤ b) (fun _ _ _ hE ⟨hO, hf⟩ => ⟨hO.exn hE, hf⟩), sV, sV, sV, sV, sV, sV, sV, sV, sV, sV, sV, sV, sV, trivial⟩ ⟨fun ρz wz hE hA _ _ => core_call rfl call_args0 cf_9 (pensionlaw24_awake_ok (Hg_0.exn (hA rfl)).no   hz7),
 mU rfl rfl rfl,
 fun ρz wz hE hA ⟨e9, _⟩ ⟨u1, _⟩ => gIf rfl rfl (yT rfl u1) fun gc F hF => core_val rfl hF (o_move (e9.trans h9)),
 fun ρz wz hE hA ⟨e10, _⟩ ⟨u1, _⟩ => gIf rfl rfl (yT rfl u1) fun gc F hF => core_val rfl hF (o_move (e10.trans h10)),
 fun ρz wz hE hA ⟨e11, _⟩ ⟨u1, _⟩ => gIf rfl rfl (yT rfl u1) fun gc F hF => core_val rfl hF (o_move (e11.trans h11)),
 fun ρz wz hE hA _ ⟨u1, u2, u3, u4, _⟩ => gIfR rfl (yT rfl u1) fun gc F hF => core_callR hF (call_args3 (gt gc u2) (gt gc u3) (gt gc u4)) cf_11 ((family_Parents_ok  _ _ _ (Hf9.exn (hA rfl)).no (hz8 gc)).mono (fun e w1 ⟨v, he, hE1, hO⟩ => ⟨v, he, hE1, hO.base (Nat.le_trans hW.size hE.size), fun b hb => Nat.le_trans hE.size (hO.lt hb).1⟩)),
 fun ρz wz hE hA ⟨e9, _⟩ ⟨u1, _⟩ => gIf rfl rfl (yT rfl u1) fun gc F hF => core_val rfl hF (o_move (e9.trans h9)),
 fun ρz wz hE hA ⟨e10, _⟩ ⟨u1, _⟩ => gIf rfl rfl (yT rfl u1) fun gc F hF => core_val rfl hF (o_move (e10.trans h10)),
 fun ρz wz hE hA ⟨e11, _⟩ ⟨u1, _⟩ => gIf rfl rfl (yT rfl u1) fun gc F hF => core_val rfl hF (o_move (e11.trans h11)),
 fun ρz wz hE hA _ ⟨u1, u6, u7, u8, _⟩ => gIfR rfl (yT rfl u1) fun gc F hF => core_callR hF (call_args3 (gt gc u6) (gt gc u7) (gt gc u8)) cf_12 ((pensionref21_Parents_ok  _ _ _ (Hf9.exn (hA rfl)).no (hz9 gc)).mono (fun e w1 ⟨v, he, hE1, hO⟩ => ⟨v, he, hE1, hO.base (Nat.le_trans hW.size hE.size), fun b hb => Nat.le_trans hE.size (hO.lt hb).1⟩)),
 fun ρz wz hE hA _ ⟨u1, u5, u9, _⟩ => gIf rfl rfl (yT rfl u1) fun gc F hF => let ⟨hO5, hfr5⟩ := u5 gc; let ⟨hO9, hfr9⟩ := u9 gc; core_call hF (call_args2 rfl rfl) cf_10 (pensionplain_Ints_ok  _ _ (hO5.rep (hn := fun _ => rfl) (G := noG) (fun _ _ h => h)).no (hO9.rep (hn := fun _ => rfl) (G := noG) (fun _ _ h => h)).no (hz10 gc)),
 fun ρz wz hE hA _ ⟨u1, u10, _⟩ => core_valE rfl rfl (congrArg Value.bool hc) (o_pick_and u1 u10 rfl),
 mU rfl rfl rfl,
 fun ρz wz hE hA ⟨e9, _⟩ ⟨u12, _⟩ => gIf rfl rfl (yT rfl u12) fun gc F hF => core_val rfl hF (o_move (e9.trans h9)),
 fun ρz wz hE hA ⟨e2, _⟩ ⟨u12, _⟩ => gIf rfl rfl (yT rfl u12) fun gc F hF => core_val rfl hF (o_move (e2.trans h2)),
 fun ρz wz hE hA ⟨e3, _⟩ ⟨u12, _⟩ => gIf rfl rfl (yT rfl u12) fun gc F hF => core_val rfl hF (o_move (e3.trans h3)),
 fun ρz wz hE hA _ ⟨u12, u13, u14, u15, _⟩ => gIfR rfl (yT rfl u12) fun gc F hF => core_callR hF (call_args3 (gt gc u13) (gt gc u14) (gt gc u15)) cf_11 ((family_Parents_ok  _ _ _ (Hf9.exn (hA rfl)).no (hz11 gc)).mono (fun e w1 ⟨v, he, hE1, hO⟩ => ⟨v, he, hE1, hO.base (Nat.le_trans hW.size hE.size), fun b hb => Nat.le_trans hE.size (hO.lt hb).1⟩)),
 fun ρz wz hE hA ⟨e9, _⟩ ⟨u12, _⟩ => gIf rfl rfl (yT rfl u12) fun gc F hF => core_val rfl hF (o_move (e9.trans h9)),
 fun ρz wz hE hA ⟨e2, _⟩ ⟨u12, _⟩ => gIf rfl rfl (yT rfl u12) fun gc F hF => core_val rfl hF (o_move (e2.trans h2)),
 fun ρz wz hE hA ⟨e3, _⟩ ⟨u12, _⟩ => gIf rfl rfl (yT rfl u12) fun gc F hF => core_val rfl hF (o_move (e3.trans h3)),
 fun ρz wz hE hA _ ⟨u12, u17, u18, u19, _⟩ => gIfR rfl (yT rfl u12) fun gc F hF => core_callR hF (call_args3 (gt gc u17) (gt gc u18) (gt gc u19)) cf_12 ((pensionref21_Parents_ok  _ _ _ (Hf9.exn (hA rfl)).no (hz12 gc)).mono (fun e w1 ⟨v, he, hE1, hO⟩ => ⟨v, he, hE1, hO.base (Nat.le_trans hW.size hE.size), fun b hb => Nat.le_trans hE.size (hO.lt hb).1⟩)),
 fun ρz wz hE hA _ ⟨u12, u16, u20, _⟩ => gIf rfl rfl (yT rfl u12) fun gc F hF => let ⟨hO16, hfr16⟩ := u16 gc; let ⟨hO20, hfr20⟩ := u20 gc; core_call hF (call_args2 rfl rfl) cf_10 (pensionplain_Ints_ok  _ _ (hO16.rep (hn := fun _ => rfl) (G := noG) (fun _ _ h => h)).no (hO20.rep (hn := fun _ => rfl) (G := noG) (fun _ _ h => h)).no (hz13 gc)),
 fun ρz wz hE hA _ ⟨u12, u21, _⟩ => core_valE rfl rfl (congrArg Value.bool hc2) (o_pick_and u12 u21 rfl),
 mU rfl rfl rfl,
 fun ρz wz hE hA ⟨e12, _⟩ ⟨u23, _⟩ => gIf rfl rfl (yT rfl u23) fun gc F hF => core_val rfl hF (o_move (e12.trans h12)),
 fun ρz wz hE hA ⟨e14, _⟩ ⟨u23, _⟩ => gIf rfl rfl (yT rfl u23) fun gc F hF => core_val rfl hF (o_move (e14.trans h14)),
 fun ρz wz hE hA _ ⟨u23, u24, u25, _⟩ => gIf rfl rfl (yT rfl u23) fun gc F hF => core_val rfl hF (o_eql (gt gc u24) (gt gc u25) rfl),
 fun ρz wz hE hA _ ⟨u23, u26, _⟩ => core_val rfl rfl (o_pick_and u23 u26 rfl),
 mU rfl rfl rfl,
 fun ρz wz hE hA ⟨e13, _⟩ ⟨u28, _⟩ => gIf rfl rfl (yT rfl u28) fun gc F hF => core_val rfl hF (o_move (e13.trans h13)),
 fun ρz wz hE hA ⟨e15, _⟩ ⟨u28, _⟩ => gIf rfl rfl (yT rfl u28) fun gc F hF => core_val rfl hF (o_move (e15.trans h15)),
 fun ρz wz hE hA _ ⟨u28, u29, u30, _⟩ => gIf rfl rfl (yT rfl u28) fun gc F hF => core_val rfl hF (o_eqlB (gt gc u29) (gt gc u30) (by kernel_rfl) rfl),
 fun ρz wz hE hA _ ⟨u28, u31, _⟩ => core_val rfl rfl (o_pick_and u28 u31 rfl),
 aU rfl rfl rfl, trivial⟩ ?_
  intro ρ6 w6 hN hf hr
  have h8 : ρ6 8 = .bool ((c2 && (z5.1 == z6.1)) && (z5.2 == z6.2)) := hf 33 rfl
  have Hg_0 := Hg_0.exn hN
  have hW := hW.trans hN
  refine WP.ret ?_
  show retQ Tryz.prog 74 Tryz.f3 (fun v w1 => v = .bool r ∧ Ext noG w0 w1) .ret ρ6 w6
  obtain rfl := Option.some.inj hF
  exact res1 rfl (by decide) h8 ⟨rfl, hW⟩
end Go.PL
