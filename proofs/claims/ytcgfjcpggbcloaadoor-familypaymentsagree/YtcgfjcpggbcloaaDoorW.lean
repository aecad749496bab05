/- The translated code computes the Lean functions (printed by a program). -/
import Derived.Test.YtcgfjcpggbcloaaDoorW3
set_option linter.unusedVariables false
set_option linter.unusedSimpArgs false
set_option maxRecDepth 10000
namespace Go.PL
open Go Go.Proofs

set_option maxHeartbeats 4000000 in
theorem pensionlaw24_FamilyRejectsOneRight_ok {w0 : World} (Hg_0 : GR [Value.int .i64 1, Value.int .i64 1] noG w0 0) (d_ : List pensionlaw24_Raw) (i_ : Int) (p_ : Int) (p_2 : Int) {v_d_ : Value} (H_d_ : RepSl pensionlaw24_Raw.R noG w0 v_d_ d_) {r : Bool} (hF : pensionlaw24_FamilyRejectsOneRight d_ i_ p_ p_2 = some r) :
    Calls Tryd.prog 5 #[v_d_, .int .i64 i_, .int .i64 p_, .int .i64 p_2] w0 fun e w1 => e = .returned (.bool r) ∧ Ext noG w0 w1 := by
  refine (Calls.start (P := Tryd.prog) (args := [v_d_, .int .i64 i_, .int .i64 p_, .int .i64 p_2]) (R := fun v w1 => v = .bool r ∧ Ext noG w0 w1) (n := 111) (w := w0) Tryd.func5 rfl rfl (Nat.le_of_ble_eq_true rfl) (fun ρ hargs => ?_)).mono (fun e w1 ⟨v, he, hv, hE⟩ => ⟨hv ▸ he, hE⟩)
  have h0 := hargs 0 _ rfl
  have h1 := hargs 1 _ rfl
  have h2 := hargs 2 _ rfl
  have h3 := hargs 3 _ rfl
  have hW := Ext.refl noG w0
  have hsz := Nat.le_refl w0.heap.size
  obtain ⟨_, _, hs_H_d_, _, _⟩ := RepSl.shape H_d_
  have H_d_ := H_d_.start
  have Hg_0 := Hg_0.start
  rw [pensionlaw24_FamilyRejectsOneRight] at hF
  refine WP.seq ?_
  refine WP.rb mixed [[]] [[]] [(8, .bool false)] (by kernel_rfl) ⟨fun ρz wz hE hA _ _ => core_val rfl rfl (o_assign rfl), trivial⟩ ?_
  intro ρ1 w1 hN hf hr
  obtain ⟨h0, h1, h2, h3⟩ := k4 hr h0 h1 h2 h3 rfl
  have H_d_ := H_d_.exn hN
  have Hg_0 := Hg_0.exn hN
  have hW := hW.trans hN
  have hsz := hW.size
  refine WP.seq ?_
  obtain ⟨z, hz, hF⟩ := obind hF
  refine WP.rg mixed [[], [0], [1]] [[], [0], [1]] [[0], [], []] [val 18 (v_d_), (19, fun u wz => Own w0.heap.size 43 4 Right.cells wz u z ∧ ∀ b, u.ownBlock = some b → w1.heap.size ≤ b), (9, fun u wz => Own w0.heap.size 43 4 Right.cells wz u z ∧ ∀ b, u.ownBlock = some b → w1.heap.size ≤ b)] (by kernel_rfl) ⟨sV, fun _ _ _ hE ⟨hO, hf⟩ => ⟨hO.exn hE, hf⟩, fun _ _ _ hE ⟨hO, hf⟩ => ⟨hO.exn hE, hf⟩, trivial⟩ ⟨fun ρz wz hE hA ⟨e0, _⟩ _ => core_val rfl rfl (o_move (e0.trans h0)),
 fun ρz wz hE hA _ ⟨u0, _⟩ => core_callR rfl (call_args1 u0) cf_11 ((pensionlaw24_List_ok  _ (H_d_.exn (hA rfl)).no hz).mono (fun e w1 ⟨v, he, hE1, hO⟩ => ⟨v, he, hE1, hO.base (Nat.le_trans hsz hE.size), fun b hb => Nat.le_trans hE.size (hO.lt hb).1⟩)),
 fun ρz wz hE hA _ ⟨⟨hO1, hfr1⟩, _⟩ => core_copy rfl rfl (o_assign rfl) ⟨hO1, hfr1⟩, trivial⟩ ?_
  intro ρ2 w2 hN hf hr
  obtain ⟨v9_, h9⟩ : ∃ v, ρ2 9 = v := ⟨_, rfl⟩
  have hq9 : (fun u wz => Own w0.heap.size 43 4 Right.cells wz u z ∧ ∀ b, u.ownBlock = some b → w1.heap.size ≤ b) (ρ2 9) w2 := hf 2 rfl
  rw [h9] at hq9
  obtain ⟨hq9, hfr9⟩ := hq9
  obtain ⟨h1, h2, h3⟩ := k3 hr h1 h2 h3 rfl
  have Hg_0 := Hg_0.exn hN
  have hW := hW.trans hN
  have O9 := hq9
  have hsz := hW.size
  refine WP.seq ?_
  refine WP.seq ?_
  obtain ⟨z2, hz2, hF⟩ := obind hF
  refine WP.rg mixed [[], [0], [1], [2], [2], [3], [4]] [[], [0], [1], [2], [2], [3], [4]] [[9], [], [], [], [], [], []] [val 21 (v9_), (22, fun u wz => ∃ q : Value, u = .tuple #[q, .int .i64 z2.2] ∧ Own w0.heap.size 3 1 (fun x : Int => [Value.int .i64 x]) wz q z2.1 ∧ ∀ b, q.ownBlock = some b → w2.heap.size ≤ b), (20, fun u wz => ∃ q : Value, u = .tuple #[q, .int .i64 z2.2] ∧ Own w0.heap.size 3 1 (fun x : Int => [Value.int .i64 x]) wz q z2.1 ∧ ∀ b, q.ownBlock = some b → w2.heap.size ≤ b), (23, fun u wz => Own w0.heap.size 3 1 (fun x : Int => [Value.int .i64 x]) wz u z2.1 ∧ ∀ b, u.ownBlock = some b → w2.heap.size ≤ b), val 24 (.int .i64 z2.2), (10, fun u wz => Own w0.heap.size 3 1 (fun x : Int => [Value.int .i64 x]) wz u z2.1 ∧ ∀ b, u.ownBlock = some b → w2.heap.size ≤ b), val 11 (.int .i64 z2.2)] (by kernel_rfl) ⟨sV, fun _ _ _ hE ⟨q, ht, hO, hf⟩ => ⟨q, ht, hO.exn hE, hf⟩, fun _ _ _ hE ⟨q, ht, hO, hf⟩ => ⟨q, ht, hO.exn hE, hf⟩, fun _ _ _ hE ⟨hO, hf⟩ => ⟨hO.exn hE, hf⟩, sV, fun _ _ _ hE ⟨hO, hf⟩ => ⟨hO.exn hE, hf⟩, sV, trivial⟩ ⟨fun ρz wz hE hA ⟨e9, _⟩ _ => core_val rfl rfl (o_move (e9.trans h9)),
 fun ρz wz hE hA _ ⟨u0, _⟩ => core_callR rfl (call_args4 u0 rfl rfl rfl) cf_14 ((family_Order_ok  _ _ _ _ ((O9.exn (hA rfl)).rep (hn := fun _ => rfl) (G := noG) (fun _ _ h => h)).no (RepSl.nil _ noG _).no hz2).mono (fun e w1 ⟨v, he, hE1, q, hv, hO⟩ => ⟨v, he, hE1, q, hv, hO.base (Nat.le_trans hsz hE.size), fun b hb => Nat.le_trans hE.size (hO.lt hb).1⟩)),
 fun ρz wz hE hA _ ⟨⟨q1, ht1, hO1, hfr1⟩, _⟩ => core_copy rfl rfl (o_move rfl) ⟨q1, ht1, hO1, hfr1⟩,
 fun ρz wz hE hA _ ⟨⟨q2, ht2, hO2, hfr2⟩, _⟩ => core_copy rfl rfl (o_extract ht2 (by kernel_rfl)) ⟨hO2, hfr2⟩,
 fun ρz wz hE hA _ ⟨⟨q2, ht2, hO2, hfr2⟩, _⟩ => core_val rfl rfl (o_extract ht2 (by kernel_rfl)),
 fun ρz wz hE hA _ ⟨⟨hO3, hfr3⟩, _⟩ => core_copy rfl rfl (o_assign rfl) ⟨hO3, hfr3⟩,
 fun ρz wz hE hA _ ⟨u4, _⟩ => core_val rfl rfl (o_assign u4), trivial⟩ ?_
  intro ρ3 w3 hN hf hr
  have h11 : ρ3 11 = .int .i64 z2.2 := hf 6 rfl
  obtain ⟨h1, h2, h3, h9⟩ := k4 hr h1 h2 h3 h9 rfl
  have Oo_O9 := O9
  have Hg_0 := Hg_0.exn hN
  have hW := hW.trans hN
  have O9 := O9.exn hN
  have hsz := hW.size
  refine WP.seq ?_
  obtain ⟨c, hc, hF⟩ := obind hF
  obtain ⟨z3, hz3, hc⟩ := orB hc
  have hc := orE hc
  refine WP.rb mixed [[], [0], [1], [2], [2, 3], [2, 4]] [[11], [], [], [], [], []] [(25, .int .i64 z2.2), (26, .bool (z2.2 != 0)), (27, .bool (z2.2 != 0)), (28, gv (!(z2.2 != 0)) (.bool z3)), (29, gv (!(z2.2 != 0)) (.bool (!z3))), (30, .bool c)] (by kernel_rfl) ⟨fun ρz wz hE hA ⟨e11, _⟩ _ => core_val rfl rfl (o_move (e11.trans h11)),
 fun ρz wz hE hA _ ⟨u0, _⟩ => core_val rfl rfl (o_neq u0 rfl rfl),
 fun ρz wz hE hA _ ⟨u1, _⟩ => core_val rfl rfl (o_move u1),
 fun ρz wz hE hA _ ⟨u2, _⟩ => gIf rfl rfl (yF rfl u2) fun gc F hF => core_call hF call_args0 cf_16 (pensionlaw24_awake_ok (Hg_0.exn (hA rfl)).no   (hz3 gc)),
 fun ρz wz hE hA _ ⟨u2, u3, _⟩ => gIf rfl rfl (yF rfl u2) fun gc F hF => core_val rfl hF (o_not (gt gc u3) rfl),
 fun ρz wz hE hA _ ⟨u2, u4, _⟩ => core_valE rfl rfl (congrArg Value.bool hc) (o_pick_or u2 rfl u4), trivial⟩ ?_
  intro ρ4 w4 hN hf hr
  have h30 : ρ4 30 = .bool c := hf 5 rfl
  obtain ⟨h1, h2, h3, h9⟩ := k4 hr h1 h2 h3 h9 rfl
  have Oo_O9 := O9
  have Hg_0 := Hg_0.exn hN
  have hW := hW.trans hN
  have O9 := O9.exn hN
  have hsz := hW.size
  refine WP.cond rfl h30 (fun hb => ?_) (fun hb => ?_)
  · have hF := (if_pos hb).symm.trans hF
    refine WP.seq ?_
    refine WP.rb mixed [[]] [[]] [(8, .bool false)] (by kernel_rfl) ⟨fun ρz wz hE hA _ _ => core_val rfl rfl (o_assign rfl), trivial⟩ ?_
    intro ρ5 w5 hN hf hr
    have h8 : ρ5 8 = .bool false := hf 0 rfl
    have Oo_O9 := O9
    have Hg_0 := Hg_0.exn hN
    have hW := hW.trans hN
    have hsz := hW.size
    refine WP.ret ?_
    show retQ Tryd.prog 111 Tryd.f5 (fun v w1 => v = .bool r ∧ Ext noG w0 w1) .ret ρ5 w5
    obtain rfl := Option.some.inj hF
    exact res1 rfl (by decide) h8 ⟨rfl, hW⟩
  have hF := (if_neg (Bool.eq_false_iff.1 hb)).symm.trans hF
  refine WP.skip ?_
  refine WP.seq ?_
  refine WP.seq ?_
  refine WP.rb mixed [[], [0], [1]] [[9], [], []] [(31, v9_), (32, .int .i64 (z.length : Int)), (33, .bool ((z.length : Int) == 0))] (by kernel_rfl) ⟨fun ρz wz hE hA ⟨e9, _⟩ _ => core_val rfl rfl (o_move (e9.trans h9)),
 fun ρz wz hE hA _ ⟨u0, _⟩ => core_val rfl rfl (o_len (u0.trans (Own.shape O9).choose_spec.choose_spec.1) len_24),
 fun ρz wz hE hA _ ⟨u1, _⟩ => core_val rfl rfl (o_eql u1 rfl rfl), trivial⟩ ?_
  intro ρ6 w6 hN hf hr
  have h33 : ρ6 33 = .bool ((z.length : Int) == 0) := hf 2 rfl
  obtain ⟨h1, h2, h3, h9⟩ := k4 hr h1 h2 h3 h9 rfl
  have Oo_O9 := O9
  have Hg_0 := Hg_0.exn hN
  have hW := hW.trans hN
  have O9 := O9.exn hN
  have hsz := hW.size
  refine WP.cond rfl h33 (fun hb => ?_) (fun hb => ?_)
  · have hF := (if_pos hb).symm.trans hF
    refine WP.seq ?_
    refine WP.rb mixed [[]] [[]] [(8, .bool true)] (by kernel_rfl) ⟨fun ρz wz hE hA _ _ => core_val rfl rfl (o_assign rfl), trivial⟩ ?_
    intro ρ7 w7 hN hf hr
    have h8 : ρ7 8 = .bool true := hf 0 rfl
    have Oo_O9 := O9
    have Hg_0 := Hg_0.exn hN
    have hW := hW.trans hN
    have hsz := hW.size
    refine WP.ret ?_
    show retQ Tryd.prog 111 Tryd.f5 (fun v w1 => v = .bool r ∧ Ext noG w0 w1) .ret ρ7 w7
    obtain rfl := Option.some.inj hF
    exact res1 rfl (by decide) h8 ⟨rfl, hW⟩
  have hF := (if_neg (Bool.eq_false_iff.1 hb)).symm.trans hF
  refine WP.skip ?_
  refine WP.seq ?_
  obtain ⟨z4, hz4, hF⟩ := obind hF
  obtain ⟨z5, hz5, hF⟩ := obind hF
  refine WP.rb mixed [[], [], [1], [0, 2], [], [4], [5], [3], [6]] [[1], [9], [], [], [3], [], [], [], []] [(34, .int .i64 i_), (35, v9_), (36, .int .i64 (z.length : Int)), (37, .int .i64 z4), (38, .int .i64 p_2), (39, .int .i64 z5), (40, .int .i64 (i64 (1 + z5))), (12, .int .i64 z4), (13, .int .i64 (i64 (1 + z5)))] (by kernel_rfl) ⟨fun ρz wz hE hA ⟨e1, _⟩ _ => core_val rfl rfl (o_move (e1.trans h1)),
 fun ρz wz hE hA ⟨e9, _⟩ _ => core_val rfl rfl (o_move (e9.trans h9)),
 fun ρz wz hE hA _ ⟨u1, _⟩ => core_val rfl rfl (o_len (u1.trans (Own.shape O9).choose_spec.choose_spec.1) len_24),
 fun ρz wz hE hA _ ⟨u0, u2, _⟩ => core_call rfl (call_args2 u0 u2) cf_13 (pensionplain_Mod_ok  _ _  hz4),
 fun ρz wz hE hA ⟨e3, _⟩ _ => core_val rfl rfl (o_move (e3.trans h3)),
 fun ρz wz hE hA _ ⟨u4, _⟩ => core_call rfl (call_args2 u4 rfl) cf_13 (pensionplain_Mod_ok  _ _  hz5),
 fun ρz wz hE hA _ ⟨u5, _⟩ => core_val rfl rfl (o_add rfl u5 rfl),
 fun ρz wz hE hA _ ⟨u3, _⟩ => core_val rfl rfl (o_assign u3),
 fun ρz wz hE hA _ ⟨u6, _⟩ => core_val rfl rfl (o_assign u6), trivial⟩ ?_
  intro ρ8 w8 hN hf hr
  have h12 : ρ8 12 = .int .i64 z4 := hf 7 rfl
  have h13 : ρ8 13 = .int .i64 (i64 (1 + z5)) := hf 8 rfl
  obtain ⟨h2, h9⟩ := k2 hr h2 h9 rfl
  have Oo_O9 := O9
  have Hg_0 := Hg_0.exn hN
  have hW := hW.trans hN
  have O9 := O9.exn hN
  have hsz := hW.size
  refine WP.seqJ (fun ρ w => ∃ x : List Right, ∃ v9_2 : Value, ρ 9 = v9_2 ∧ GR [Value.int .i64 1, Value.int .i64 1] (gfr noG w0) w 0 ∧ Own w0.heap.size 43 4 Right.cells w v9_2 x ∧ Ext noG w0 w ∧ w0.heap.size ≤ w.heap.size ∧ pensionlaw24_FamilyRejectsOneRight_j x = some r) ?_ ?_
  · refine WP.seq ?_
    obtain ⟨z8, hz8, hF⟩ := obind hF
    refine WP.rb mixed [[], [0]] [[2], []] [(41, .int .i64 p_), (42, .int .i64 z8)] (by kernel_rfl) ⟨fun ρz wz hE hA ⟨e2, _⟩ _ => core_val rfl rfl (o_move (e2.trans h2)),
 fun ρz wz hE hA _ ⟨u0, _⟩ => core_call rfl (call_args2 u0 rfl) cf_13 (pensionplain_Mod_ok  _ _  hz8), trivial⟩ ?_
    intro ρ13 w13 hN hf hr
    have h42 : ρ13 42 = .int .i64 z8 := hf 1 rfl
    obtain ⟨h9, h12, h13⟩ := k3 hr h9 h12 h13 rfl
    have Oo_O9 := O9
    have Hg_0 := Hg_0.exn hN
    have hW := hW.trans hN
    have O9 := O9.exn hN
    have hsz := hW.size
    refine WP.block ?_
    refine WP.seq ?_
    refine WP.rb mixed [[], [0]] [[42], []] [(51, .bool (z8 == 0)), (50, .bool (z8 == 0))] (by kernel_rfl) ⟨fun ρz wz hE hA ⟨e42, _⟩ _ => core_val rfl rfl (o_eql (e42.trans h42) rfl rfl),
 fun ρz wz hE hA _ ⟨u0, _⟩ => core_val rfl rfl (o_assign u0), trivial⟩ ?_
    intro ρ14 w14 hN hf hr
    have h50 : ρ14 50 = .bool (z8 == 0) := hf 1 rfl
    obtain ⟨h9, h12, h13, h42⟩ := k4 hr h9 h12 h13 h42 rfl
    have Oo_O9 := O9
    have Hg_0 := Hg_0.exn hN
    have hW := hW.trans hN
    have O9 := O9.exn hN
    have hsz := hW.size
    refine WP.cond rfl h50 (fun hb => ?_) (fun hb => ?_)
    · have hF := (if_pos hb).symm.trans hF
      obtain ⟨y, hy, hF⟩ := obind hF
      obtain ⟨ay, cy, hvy, hiy, hAy⟩ := RepSl.getF (Own.rep (hn := fun _ => rfl) (G := noG) O9 (fun _ _ h => h)) hy
      refine WP.region mixed [[], [], [], [2], [0, 1], [4], [3, 5]] [[], [], [], [2], [0, 1], [4], [3, 5]] [[9], [12], [13], [], [], [], []] [6] [] [val 52 (v9_), val 53 (.int .i64 z4), val 54 (.int .i64 (i64 (1 + z5))), val 55 (.int .i64 (i64 (-(i64 (1 + z5))))), val 56 (.pointer (some (ay.add (Int.toNat z4 * 4)))), val 57 (.pointer (some ((ay.add (Int.toNat z4 * 4)).add 0))), (57, fun _ wz => Own w0.heap.size 43 4 Right.cells wz v9_ (setI z z4 ({ y with State := i64 (-(i64 (1 + z5))) } : Right)))] (fun b => Value.ownBlock v9_ = some b) (by kernel_rfl) ⟨sV, sV, sV, sV, sV, sV, fun _ _ _ hE h => h.exn hE, trivial⟩ ⟨fun ρz wz hE hA ⟨e9, _⟩ _ => core_val rfl rfl (o_move (e9.trans h9)),
 fun ρz wz hE hA ⟨e12, _⟩ _ => core_val rfl rfl (o_move (e12.trans h12)),
 fun ρz wz hE hA ⟨e13, _⟩ _ => core_val rfl rfl (o_move (e13.trans h13)),
 fun ρz wz hE hA _ ⟨u2, _⟩ => core_val rfl rfl (o_neg u2 rfl),
 fun ρz wz hE hA _ ⟨u0, u1, _⟩ => core_val rfl rfl (o_indexAddr (u0.trans hvy) u1 (ia_24 hiy)),
 fun ρz wz hE hA _ ⟨u4, _⟩ => core_val rfl rfl (o_fieldAddr u4 (fa_43_0 _ _)),
 fun ρz wz hE hA _ ⟨u3, u5, _⟩ => core_storeOwn (n := 4) (off := 0) (cells := Right.cells) (y1 := ({ y with State := i64 (-(i64 (1 + z5))) } : Right)) (vs := [Value.int .i64 (i64 (-(i64 (1 + z5))))]) rfl rfl (fun _ h => h) (fun _ => rfl) u5 hvy (Deep.add_add _ _ _) u3 (O9.exn (hA rfl)) hy (fun a w => st_3 _ a w) (Nat.le_of_ble_eq_true rfl) rfl (one_3 _), trivial⟩ ?_
      intro ρ15 w15 hE hN hf hr
      have h9 := (hr 9 rfl).trans h9
      have Oo_O9 := O9
      have Hg_0 := Hg_0.over hE (fun b hb => (O9.lt hb).1)
      have hW := Ext.own hW hE (fun b hb => (O9.lt hb).1)
      have O9 := hf 6 rfl
      have hsz := hW.size
      exact ⟨setI z z4 ({ y with State := i64 (-(i64 (1 + z5))) } : Right), v9_, h9, Hg_0, O9, hW, hsz, hF⟩
    have hF := (if_neg (Bool.eq_false_iff.1 hb)).symm.trans hF
    refine WP.seq ?_
    refine WP.rb mixed [[], [0]] [[42], []] [(59, .bool (z8 == 1)), (58, .bool (z8 == 1))] (by kernel_rfl) ⟨fun ρz wz hE hA ⟨e42, _⟩ _ => core_val rfl rfl (o_eql (e42.trans h42) rfl rfl),
 fun ρz wz hE hA _ ⟨u0, _⟩ => core_val rfl rfl (o_assign u0), trivial⟩ ?_
    intro ρ16 w16 hN hf hr
    have h58 : ρ16 58 = .bool (z8 == 1) := hf 1 rfl
    obtain ⟨h9, h12, h13, h42⟩ := k4 hr h9 h12 h13 h42 rfl
    have Oo_O9 := O9
    have Hg_0 := Hg_0.exn hN
    have hW := hW.trans hN
    have O9 := O9.exn hN
    have hsz := hW.size
    refine WP.cond rfl h58 (fun hb => ?_) (fun hb => ?_)
    · have hF := (if_pos hb).symm.trans hF
      obtain ⟨y2, hy2, hF⟩ := obind hF
      obtain ⟨ay2, cy2, hvy2, hiy2, hAy2⟩ := RepSl.getF (Own.rep (hn := fun _ => rfl) (G := noG) O9 (fun _ _ h => h)) hy2
      refine WP.region mixed [[], [], [], [2], [0, 1], [4], [3, 5]] [[], [], [], [2], [0, 1], [4], [3, 5]] [[9], [12], [13], [], [], [], []] [6] [] [val 60 (v9_), val 61 (.int .i64 z4), val 62 (.int .i64 (i64 (1 + z5))), val 63 (.int .i64 (i64 (5 + i64 (1 + z5)))), val 64 (.pointer (some (ay2.add (Int.toNat z4 * 4)))), val 65 (.pointer (some ((ay2.add (Int.toNat z4 * 4)).add 0))), (65, fun _ wz => Own w0.heap.size 43 4 Right.cells wz v9_ (setI z z4 ({ y2 with State := i64 (5 + i64 (1 + z5)) } : Right)))] (fun b => Value.ownBlock v9_ = some b) (by kernel_rfl) ⟨sV, sV, sV, sV, sV, sV, fun _ _ _ hE h => h.exn hE, trivial⟩ ⟨fun ρz wz hE hA ⟨e9, _⟩ _ => core_val rfl rfl (o_move (e9.trans h9)),
 fun ρz wz hE hA ⟨e12, _⟩ _ => core_val rfl rfl (o_move (e12.trans h12)),
 fun ρz wz hE hA ⟨e13, _⟩ _ => core_val rfl rfl (o_move (e13.trans h13)),
 fun ρz wz hE hA _ ⟨u2, _⟩ => core_val rfl rfl (o_add rfl u2 rfl),
 fun ρz wz hE hA _ ⟨u0, u1, _⟩ => core_val rfl rfl (o_indexAddr (u0.trans hvy2) u1 (ia_24 hiy2)),
 fun ρz wz hE hA _ ⟨u4, _⟩ => core_val rfl rfl (o_fieldAddr u4 (fa_43_0 _ _)),
 fun ρz wz hE hA _ ⟨u3, u5, _⟩ => core_storeOwn (n := 4) (off := 0) (cells := Right.cells) (y1 := ({ y2 with State := i64 (5 + i64 (1 + z5)) } : Right)) (vs := [Value.int .i64 (i64 (5 + i64 (1 + z5)))]) rfl rfl (fun _ h => h) (fun _ => rfl) u5 hvy2 (Deep.add_add _ _ _) u3 (O9.exn (hA rfl)) hy2 (fun a w => st_3 _ a w) (Nat.le_of_ble_eq_true rfl) rfl (one_3 _), trivial⟩ ?_
      intro ρ17 w17 hE hN hf hr
      have h9 := (hr 9 rfl).trans h9
      have Oo_O9 := O9
      have Hg_0 := Hg_0.over hE (fun b hb => (O9.lt hb).1)
      have hW := Ext.own hW hE (fun b hb => (O9.lt hb).1)
      have O9 := hf 6 rfl
      have hsz := hW.size
      exact ⟨setI z z4 ({ y2 with State := i64 (5 + i64 (1 + z5)) } : Right), v9_, h9, Hg_0, O9, hW, hsz, hF⟩
    have hF := (if_neg (Bool.eq_false_iff.1 hb)).symm.trans hF
    refine WP.seq ?_
    refine WP.rb mixed [[], [0]] [[42], []] [(67, .bool (z8 == 2)), (66, .bool (z8 == 2))] (by kernel_rfl) ⟨fun ρz wz hE hA ⟨e42, _⟩ _ => core_val rfl rfl (o_eql (e42.trans h42) rfl rfl),
 fun ρz wz hE hA _ ⟨u0, _⟩ => core_val rfl rfl (o_assign u0), trivial⟩ ?_
    intro ρ18 w18 hN hf hr
    have h66 : ρ18 66 = .bool (z8 == 2) := hf 1 rfl
    obtain ⟨h9, h12, h13, h42⟩ := k4 hr h9 h12 h13 h42 rfl
    have Oo_O9 := O9
    have Hg_0 := Hg_0.exn hN
    have hW := hW.trans hN
    have O9 := O9.exn hN
    have hsz := hW.size
    refine WP.cond rfl h66 (fun hb => ?_) (fun hb => ?_)
    · have hF := (if_pos hb).symm.trans hF
      obtain ⟨y3, hy3, hF⟩ := obind hF
      obtain ⟨ay3, cy3, hvy3, hiy3, hAy3⟩ := RepSl.getF (Own.rep (hn := fun _ => rfl) (G := noG) O9 (fun _ _ h => h)) hy3
      refine WP.region mixed [[], [], [], [2], [0, 1], [4], [3, 5]] [[], [], [], [2], [0, 1], [4], [3, 5]] [[9], [12], [13], [], [], [], []] [6] [] [val 68 (v9_), val 69 (.int .i64 z4), val 70 (.int .i64 (i64 (1 + z5))), val 71 (.int .i64 (i64 (3 + i64 (1 + z5)))), val 72 (.pointer (some (ay3.add (Int.toNat z4 * 4)))), val 73 (.pointer (some ((ay3.add (Int.toNat z4 * 4)).add 1))), (73, fun _ wz => Own w0.heap.size 43 4 Right.cells wz v9_ (setI z z4 ({ y3 with Basis := i64 (3 + i64 (1 + z5)) } : Right)))] (fun b => Value.ownBlock v9_ = some b) (by kernel_rfl) ⟨sV, sV, sV, sV, sV, sV, fun _ _ _ hE h => h.exn hE, trivial⟩ ⟨fun ρz wz hE hA ⟨e9, _⟩ _ => core_val rfl rfl (o_move (e9.trans h9)),
 fun ρz wz hE hA ⟨e12, _⟩ _ => core_val rfl rfl (o_move (e12.trans h12)),
 fun ρz wz hE hA ⟨e13, _⟩ _ => core_val rfl rfl (o_move (e13.trans h13)),
 fun ρz wz hE hA _ ⟨u2, _⟩ => core_val rfl rfl (o_add rfl u2 rfl),
 fun ρz wz hE hA _ ⟨u0, u1, _⟩ => core_val rfl rfl (o_indexAddr (u0.trans hvy3) u1 (ia_24 hiy3)),
 fun ρz wz hE hA _ ⟨u4, _⟩ => core_val rfl rfl (o_fieldAddr u4 (fa_43_1 _ _)),
 fun ρz wz hE hA _ ⟨u3, u5, _⟩ => core_storeOwn (n := 4) (off := 1) (cells := Right.cells) (y1 := ({ y3 with Basis := i64 (3 + i64 (1 + z5)) } : Right)) (vs := [Value.int .i64 (i64 (3 + i64 (1 + z5)))]) rfl rfl (fun _ h => h) (fun _ => rfl) u5 hvy3 (Deep.add_add _ _ _) u3 (O9.exn (hA rfl)) hy3 (fun a w => st_3 _ a w) (Nat.le_of_ble_eq_true rfl) rfl (one_3 _), trivial⟩ ?_
      intro ρ19 w19 hE hN hf hr
      have h9 := (hr 9 rfl).trans h9
      have Oo_O9 := O9
      have Hg_0 := Hg_0.over hE (fun b hb => (O9.lt hb).1)
      have hW := Ext.own hW hE (fun b hb => (O9.lt hb).1)
      have O9 := hf 6 rfl
      have hsz := hW.size
      exact ⟨setI z z4 ({ y3 with Basis := i64 (3 + i64 (1 + z5)) } : Right), v9_, h9, Hg_0, O9, hW, hsz, hF⟩
    have hF := (if_neg (Bool.eq_false_iff.1 hb)).symm.trans hF
    refine WP.seq ?_
    refine WP.rb mixed [[], [0]] [[42], []] [(75, .bool (z8 == 3)), (74, .bool (z8 == 3))] (by kernel_rfl) ⟨fun ρz wz hE hA ⟨e42, _⟩ _ => core_val rfl rfl (o_eql (e42.trans h42) rfl rfl),
 fun ρz wz hE hA _ ⟨u0, _⟩ => core_val rfl rfl (o_assign u0), trivial⟩ ?_
    intro ρ20 w20 hN hf hr
    have h74 : ρ20 74 = .bool (z8 == 3) := hf 1 rfl
    obtain ⟨h9, h12, h13, h42⟩ := k4 hr h9 h12 h13 h42 rfl
    have Oo_O9 := O9
    have Hg_0 := Hg_0.exn hN
    have hW := hW.trans hN
    have O9 := O9.exn hN
    have hsz := hW.size
    refine WP.cond rfl h74 (fun hb => ?_) (fun hb => ?_)
    · have hF := (if_pos hb).symm.trans hF
      obtain ⟨y4, hy4, hF⟩ := obind hF
      obtain ⟨ay4, cy4, hvy4, hiy4, hAy4⟩ := RepSl.getF (Own.rep (hn := fun _ => rfl) (G := noG) O9 (fun _ _ h => h)) hy4
      refine WP.region mixed [[], [], [], [2], [0, 1], [4], [3, 5]] [[], [], [], [2], [0, 1], [4], [3, 5]] [[9], [12], [13], [], [], [], []] [6] [] [val 76 (v9_), val 77 (.int .i64 z4), val 78 (.int .i64 (i64 (1 + z5))), val 79 (.int .i64 (i64 (999 + i64 (1 + z5)))), val 80 (.pointer (some (ay4.add (Int.toNat z4 * 4)))), val 81 (.pointer (some ((ay4.add (Int.toNat z4 * 4)).add 2))), (81, fun _ wz => Own w0.heap.size 43 4 Right.cells wz v9_ (setI z z4 ({ y4 with Currency := i64 (999 + i64 (1 + z5)) } : Right)))] (fun b => Value.ownBlock v9_ = some b) (by kernel_rfl) ⟨sV, sV, sV, sV, sV, sV, fun _ _ _ hE h => h.exn hE, trivial⟩ ⟨fun ρz wz hE hA ⟨e9, _⟩ _ => core_val rfl rfl (o_move (e9.trans h9)),
 fun ρz wz hE hA ⟨e12, _⟩ _ => core_val rfl rfl (o_move (e12.trans h12)),
 fun ρz wz hE hA ⟨e13, _⟩ _ => core_val rfl rfl (o_move (e13.trans h13)),
 fun ρz wz hE hA _ ⟨u2, _⟩ => core_val rfl rfl (o_add rfl u2 rfl),
 fun ρz wz hE hA _ ⟨u0, u1, _⟩ => core_val rfl rfl (o_indexAddr (u0.trans hvy4) u1 (ia_24 hiy4)),
 fun ρz wz hE hA _ ⟨u4, _⟩ => core_val rfl rfl (o_fieldAddr u4 (fa_43_2 _ _)),
 fun ρz wz hE hA _ ⟨u3, u5, _⟩ => core_storeOwn (n := 4) (off := 2) (cells := Right.cells) (y1 := ({ y4 with Currency := i64 (999 + i64 (1 + z5)) } : Right)) (vs := [Value.int .i64 (i64 (999 + i64 (1 + z5)))]) rfl rfl (fun _ h => h) (fun _ => rfl) u5 hvy4 (Deep.add_add _ _ _) u3 (O9.exn (hA rfl)) hy4 (fun a w => st_3 _ a w) (Nat.le_of_ble_eq_true rfl) rfl (one_3 _), trivial⟩ ?_
      intro ρ21 w21 hE hN hf hr
      have h9 := (hr 9 rfl).trans h9
      have Oo_O9 := O9
      have Hg_0 := Hg_0.over hE (fun b hb => (O9.lt hb).1)
      have hW := Ext.own hW hE (fun b hb => (O9.lt hb).1)
      have O9 := hf 6 rfl
      have hsz := hW.size
      exact ⟨setI z z4 ({ y4 with Currency := i64 (999 + i64 (1 + z5)) } : Right), v9_, h9, Hg_0, O9, hW, hsz, hF⟩
    have hF := (if_neg (Bool.eq_false_iff.1 hb)).symm.trans hF
    refine WP.seq ?_
    refine WP.rb mixed [[], [0]] [[42], []] [(83, .bool (z8 == 4)), (82, .bool (z8 == 4))] (by kernel_rfl) ⟨fun ρz wz hE hA ⟨e42, _⟩ _ => core_val rfl rfl (o_eql (e42.trans h42) rfl rfl),
 fun ρz wz hE hA _ ⟨u0, _⟩ => core_val rfl rfl (o_assign u0), trivial⟩ ?_
    intro ρ22 w22 hN hf hr
    have h82 : ρ22 82 = .bool (z8 == 4) := hf 1 rfl
    obtain ⟨h9, h12, h13⟩ := k3 hr h9 h12 h13 rfl
    have Oo_O9 := O9
    have Hg_0 := Hg_0.exn hN
    have hW := hW.trans hN
    have O9 := O9.exn hN
    have hsz := hW.size
    refine WP.cond rfl h82 (fun hb => ?_) (fun hb => ?_)
    · have hF := (if_pos hb).symm.trans hF
      obtain ⟨y5, hy5, hF⟩ := obind hF
      obtain ⟨ay5, cy5, hvy5, hiy5, hAy5⟩ := RepSl.getF (Own.rep (hn := fun _ => rfl) (G := noG) O9 (fun _ _ h => h)) hy5
      refine WP.region mixed [[], [], [], [2], [0, 1], [4], [3, 5]] [[], [], [], [2], [0, 1], [4], [3, 5]] [[9], [12], [13], [], [], [], []] [6] [] [val 84 (v9_), val 85 (.int .i64 z4), val 86 (.int .i64 (i64 (1 + z5))), val 87 (.int .i64 (i64 (1 - (i64 (1 + z5))))), val 88 (.pointer (some (ay5.add (Int.toNat z4 * 4)))), val 89 (.pointer (some ((ay5.add (Int.toNat z4 * 4)).add 3))), (89, fun _ wz => Own w0.heap.size 43 4 Right.cells wz v9_ (setI z z4 ({ y5 with Amount := i64 (1 - (i64 (1 + z5))) } : Right)))] (fun b => Value.ownBlock v9_ = some b) (by kernel_rfl) ⟨sV, sV, sV, sV, sV, sV, fun _ _ _ hE h => h.exn hE, trivial⟩ ⟨fun ρz wz hE hA ⟨e9, _⟩ _ => core_val rfl rfl (o_move (e9.trans h9)),
 fun ρz wz hE hA ⟨e12, _⟩ _ => core_val rfl rfl (o_move (e12.trans h12)),
 fun ρz wz hE hA ⟨e13, _⟩ _ => core_val rfl rfl (o_move (e13.trans h13)),
 fun ρz wz hE hA _ ⟨u2, _⟩ => core_val rfl rfl (o_sub rfl u2 rfl),
 fun ρz wz hE hA _ ⟨u0, u1, _⟩ => core_val rfl rfl (o_indexAddr (u0.trans hvy5) u1 (ia_24 hiy5)),
 fun ρz wz hE hA _ ⟨u4, _⟩ => core_val rfl rfl (o_fieldAddr u4 (fa_43_3 _ _)),
 fun ρz wz hE hA _ ⟨u3, u5, _⟩ => core_storeOwn (n := 4) (off := 3) (cells := Right.cells) (y1 := ({ y5 with Amount := i64 (1 - (i64 (1 + z5))) } : Right)) (vs := [Value.int .i64 (i64 (1 - (i64 (1 + z5))))]) rfl rfl (fun _ h => h) (fun _ => rfl) u5 hvy5 (Deep.add_add _ _ _) u3 (O9.exn (hA rfl)) hy5 (fun a w => st_3 _ a w) (Nat.le_of_ble_eq_true rfl) rfl (one_3 _), trivial⟩ ?_
      intro ρ23 w23 hE hN hf hr
      have h9 := (hr 9 rfl).trans h9
      have Oo_O9 := O9
      have Hg_0 := Hg_0.over hE (fun b hb => (O9.lt hb).1)
      have hW := Ext.own hW hE (fun b hb => (O9.lt hb).1)
      have O9 := hf 6 rfl
      have hsz := hW.size
      exact ⟨setI z z4 ({ y5 with Amount := i64 (1 - (i64 (1 + z5))) } : Right), v9_, h9, Hg_0, O9, hW, hsz, hF⟩
    have hF := (if_neg (Bool.eq_false_iff.1 hb)).symm.trans hF
    obtain ⟨y6, hy6, hF⟩ := obind hF
    obtain ⟨ay6, cy6, hvy6, hiy6, hAy6⟩ := RepSl.getF (Own.rep (hn := fun _ => rfl) (G := noG) O9 (fun _ _ h => h)) hy6
    obtain ⟨l, hl, hF⟩ := obind hF
    refine WP.region mixed [[], [], [], [1, 2], [3], [4], [0, 4, 5], [0, 1, 6]] [[], [], [], [1, 2], [3], [4], [0, 5], [6]] [[9], [9], [12], [], [], [], [], []] [6] [] [val 43 (v9_), val 44 (v9_), val 45 (.int .i64 z4), val 46 (.pointer (some (ay6.add (Int.toNat z4 * 4)))), val 47 (Right.val y6), (48, fun u wz => ∃ b, u = .slice (some ⟨b, 0, none⟩) 1 1 ∧ w22.heap.size ≤ b ∧ Mb wz b 43 (([y6]).flatMap Right.cells)), (49, fun u wz => Own w0.heap.size 43 4 Right.cells wz u l ∧ ∀ b, u.ownBlock = some b → (v9_.ownBlock = some b ∨ w22.heap.size ≤ b)), (9, fun u wz => Own w0.heap.size 43 4 Right.cells wz u l ∧ ∀ b, u.ownBlock = some b → (v9_.ownBlock = some b ∨ w22.heap.size ≤ b))] (fun b => Value.ownBlock v9_ = some b) (by kernel_rfl) ⟨sV, sV, sV, sV, sV, fun _ _ _ hE ⟨b, hz, hs, hM⟩ => ⟨b, hz, hs, hM.ext hE (fun hg => absurd (O9.lt hg).2 (Nat.not_lt.2 hs))⟩, fun _ _ _ hE ⟨hO, hf⟩ => ⟨hO.exn hE, hf⟩, fun _ _ _ hE ⟨hO, hf⟩ => ⟨hO.exn hE, hf⟩, trivial⟩ ⟨fun ρz wz hE hA ⟨e9, _⟩ _ => core_val rfl rfl (o_move (e9.trans h9)),
 fun ρz wz hE hA ⟨e9, _⟩ _ => core_val rfl rfl (o_move (e9.trans h9)),
 fun ρz wz hE hA ⟨e12, _⟩ _ => core_val rfl rfl (o_move (e12.trans h12)),
 fun ρz wz hE hA _ ⟨u1, u2, _⟩ => core_val rfl rfl (o_indexAddr (u1.trans hvy6) u2 (ia_24 hiy6)),
 fun ρz wz hE hA _ ⟨u3, _⟩ => core_val rfl rfl (o_load u3 (run_loadN (cs := (Right.cells y6)) (lr_43 _ _) rfl ((hAy6.exn (hA rfl)).ca))),
 fun ρz wz hE hA _ ⟨u4, _⟩ => core_slice rfl rfl hE (o_buildSlice (build_parts1 u4) (bs_24_1 _ _)),
 fun ρz wz hE hA _ ⟨u0, ⟨bz5, hz5, hge5, hM5⟩, _⟩ => core_append (n := 4) (cells := Right.cells) (B := w0.heap.size) (w0 := w22) rfl rfl (fun b hb => hb) u0 hz5 (fun _ => rfl) one_43 si_24 se_43 (by decide) (by decide) (O9.exn (hA rfl)) ⟨_, (Mb.rep (n := 4) (cells := Right.cells) (hn := fun _ => rfl) (G := noG) hM5 rfl (Nat.le_of_ble_eq_true rfl) (fun h => h))⟩ hl (Nat.le_trans hsz hE.size) hE.size (fun v1 w1 h1 h2 => ⟨h1, h2⟩),
 fun ρz wz hE hA _ ⟨⟨hO6, hfr6⟩, _⟩ => core_copy rfl rfl (o_assign rfl) ⟨hO6, hfr6⟩, trivial⟩ ?_
    intro ρ24 w24 hE hN hf hr
    obtain ⟨v9_3, h9⟩ : ∃ v, ρ24 9 = v := ⟨_, rfl⟩
    have hq9 : (fun u wz => Own w0.heap.size 43 4 Right.cells wz u l ∧ ∀ b, u.ownBlock = some b → (v9_.ownBlock = some b ∨ w22.heap.size ≤ b)) (ρ24 9) w24 := hf 7 rfl
    rw [h9] at hq9
    obtain ⟨hq9, hfr9⟩ := hq9
    have Oo_O9 := O9
    have Hg_0 := Hg_0.over hE (fun b hb => (O9.lt hb).1)
    have hW := Ext.own hW hE (fun b hb => (O9.lt hb).1)
    have O9 := hq9
    have hsz := hW.size
    exact ⟨l, v9_3, h9, Hg_0, O9, hW, hsz, hF⟩
  rintro ρ9 w9 ⟨x, v9_2, h9, Hg_0, O9, hW, hsz, hF⟩
  rw [pensionlaw24_FamilyRejectsOneRight_j] at hF
  refine WP.seq ?_
  obtain ⟨z6, hz6, hF⟩ := obind hF
  refine WP.rg mixed [[], [0], [1], [2], [2], [3], [4]] [[], [0], [1], [2], [2], [3], [4]] [[9], [], [], [], [], [], []] [val 91 (v9_2), (92, fun u wz => ∃ q : Value, u = .tuple #[q, .int .i64 z6.2] ∧ Own w0.heap.size 3 1 (fun x : Int => [Value.int .i64 x]) wz q z6.1 ∧ ∀ b, q.ownBlock = some b → w9.heap.size ≤ b), (90, fun u wz => ∃ q : Value, u = .tuple #[q, .int .i64 z6.2] ∧ Own w0.heap.size 3 1 (fun x : Int => [Value.int .i64 x]) wz q z6.1 ∧ ∀ b, q.ownBlock = some b → w9.heap.size ≤ b), (93, fun u wz => Own w0.heap.size 3 1 (fun x : Int => [Value.int .i64 x]) wz u z6.1 ∧ ∀ b, u.ownBlock = some b → w9.heap.size ≤ b), val 94 (.int .i64 z6.2), (14, fun u wz => Own w0.heap.size 3 1 (fun x : Int => [Value.int .i64 x]) wz u z6.1 ∧ ∀ b, u.ownBlock = some b → w9.heap.size ≤ b), val 15 (.int .i64 z6.2)] (by kernel_rfl) ⟨sV, fun _ _ _ hE ⟨q, ht, hO, hf⟩ => ⟨q, ht, hO.exn hE, hf⟩, fun _ _ _ hE ⟨q, ht, hO, hf⟩ => ⟨q, ht, hO.exn hE, hf⟩, fun _ _ _ hE ⟨hO, hf⟩ => ⟨hO.exn hE, hf⟩, sV, fun _ _ _ hE ⟨hO, hf⟩ => ⟨hO.exn hE, hf⟩, sV, trivial⟩ ⟨fun ρz wz hE hA ⟨e9, _⟩ _ => core_val rfl rfl (o_move (e9.trans h9)),
 fun ρz wz hE hA _ ⟨u0, _⟩ => core_callR rfl (call_args4 u0 rfl rfl rfl) cf_14 ((family_Order_ok  _ _ _ _ ((O9.exn (hA rfl)).rep (hn := fun _ => rfl) (G := noG) (fun _ _ h => h)).no (RepSl.nil _ noG _).no hz6).mono (fun e w1 ⟨v, he, hE1, q, hv, hO⟩ => ⟨v, he, hE1, q, hv, hO.base (Nat.le_trans hsz hE.size), fun b hb => Nat.le_trans hE.size (hO.lt hb).1⟩)),
 fun ρz wz hE hA _ ⟨⟨q1, ht1, hO1, hfr1⟩, _⟩ => core_copy rfl rfl (o_move rfl) ⟨q1, ht1, hO1, hfr1⟩,
 fun ρz wz hE hA _ ⟨⟨q2, ht2, hO2, hfr2⟩, _⟩ => core_copy rfl rfl (o_extract ht2 (by kernel_rfl)) ⟨hO2, hfr2⟩,
 fun ρz wz hE hA _ ⟨⟨q2, ht2, hO2, hfr2⟩, _⟩ => core_val rfl rfl (o_extract ht2 (by kernel_rfl)),
 fun ρz wz hE hA _ ⟨⟨hO3, hfr3⟩, _⟩ => core_copy rfl rfl (o_assign rfl) ⟨hO3, hfr3⟩,
 fun ρz wz hE hA _ ⟨u4, _⟩ => core_val rfl rfl (o_assign u4), trivial⟩ ?_
  intro ρ10 w10 hN hf hr
  have h15 : ρ10 15 = .int .i64 z6.2 := hf 6 rfl
  have h9 := (hr 9 rfl).trans h9
  have Oo_O9 := O9
  have Hg_0 := Hg_0.exn hN
  have hW := hW.trans hN
  have O9 := O9.exn hN
  have hsz := hW.size
  refine WP.seq ?_
  obtain ⟨z7, hz7, hF⟩ := obind hF
  refine WP.rg mixed [[], [0], [1], [2], [2], [3], [4]] [[], [0], [1], [2], [2], [3], [4]] [[9], [], [], [], [], [], []] [val 96 (v9_2), (97, fun u wz => ∃ q : Value, u = .tuple #[q, .int .i64 z7.2] ∧ Own w0.heap.size 48 4 FamilyPay.cells wz q z7.1 ∧ ∀ b, q.ownBlock = some b → w10.heap.size ≤ b), (95, fun u wz => ∃ q : Value, u = .tuple #[q, .int .i64 z7.2] ∧ Own w0.heap.size 48 4 FamilyPay.cells wz q z7.1 ∧ ∀ b, q.ownBlock = some b → w10.heap.size ≤ b), (98, fun u wz => Own w0.heap.size 48 4 FamilyPay.cells wz u z7.1 ∧ ∀ b, u.ownBlock = some b → w10.heap.size ≤ b), val 99 (.int .i64 z7.2), (16, fun u wz => Own w0.heap.size 48 4 FamilyPay.cells wz u z7.1 ∧ ∀ b, u.ownBlock = some b → w10.heap.size ≤ b), val 17 (.int .i64 z7.2)] (by kernel_rfl) ⟨sV, fun _ _ _ hE ⟨q, ht, hO, hf⟩ => ⟨q, ht, hO.exn hE, hf⟩, fun _ _ _ hE ⟨q, ht, hO, hf⟩ => ⟨q, ht, hO.exn hE, hf⟩, fun _ _ _ hE ⟨hO, hf⟩ => ⟨hO.exn hE, hf⟩, sV, fun _ _ _ hE ⟨hO, hf⟩ => ⟨hO.exn hE, hf⟩, sV, trivial⟩ ⟨fun ρz wz hE hA ⟨e9, _⟩ _ => core_val rfl rfl (o_move (e9.trans h9)),
 fun ρz wz hE hA _ ⟨u0, _⟩ => core_callR rfl (call_args4 u0 rfl rfl rfl) cf_21 ((family_Payments_ok (Hg_0.exn (hA rfl)).no _ _ _ _ ((O9.exn (hA rfl)).rep (hn := fun _ => rfl) (G := noG) (fun _ _ h => h)).no (RepSl.nil _ noG _).no hz7).mono (fun e w1 ⟨v, he, hE1, q, hv, hO⟩ => ⟨v, he, hE1, q, hv, hO.base (Nat.le_trans hsz hE.size), fun b hb => Nat.le_trans hE.size (hO.lt hb).1⟩)),
 fun ρz wz hE hA _ ⟨⟨q1, ht1, hO1, hfr1⟩, _⟩ => core_copy rfl rfl (o_move rfl) ⟨q1, ht1, hO1, hfr1⟩,
 fun ρz wz hE hA _ ⟨⟨q2, ht2, hO2, hfr2⟩, _⟩ => core_copy rfl rfl (o_extract ht2 (by kernel_rfl)) ⟨hO2, hfr2⟩,
 fun ρz wz hE hA _ ⟨⟨q2, ht2, hO2, hfr2⟩, _⟩ => core_val rfl rfl (o_extract ht2 (by kernel_rfl)),
 fun ρz wz hE hA _ ⟨⟨hO3, hfr3⟩, _⟩ => core_copy rfl rfl (o_assign rfl) ⟨hO3, hfr3⟩,
 fun ρz wz hE hA _ ⟨u4, _⟩ => core_val rfl rfl (o_assign u4), trivial⟩ ?_
  intro ρ11 w11 hN hf hr
  obtain ⟨v16_, h16⟩ : ∃ v, ρ11 16 = v := ⟨_, rfl⟩
  have hq16 : (fun u wz => Own w0.heap.size 48 4 FamilyPay.cells wz u z7.1 ∧ ∀ b, u.ownBlock = some b → w10.heap.size ≤ b) (ρ11 16) w11 := hf 5 rfl
  rw [h16] at hq16
  obtain ⟨hq16, hfr16⟩ := hq16
  have h17 : ρ11 17 = .int .i64 z7.2 := hf 6 rfl
  have h15 := (hr 15 rfl).trans h15
  have Oo_O9 := O9
  have Hg_0 := Hg_0.exn hN
  have hW := hW.trans hN
  have Hf16 : RepSl FamilyPay.R (gov noG (.slice none 0 0)) w11 v16_ z7.1 := hq16.rep (fun b hb hg => hg.elim id (fun h2 => by simp [Value.ownBlock] at h2))
  obtain ⟨_, _, hs_Hf16, _, _⟩ := RepSl.shape Hf16
  have hsz := hW.size
  refine WP.seq ?_
  refine WP.rb mixed [[], [0], [1], [2], [2, 3], [2, 4], [5], [6], [6, 7], [6, 8], [6, 9], [10]] [[15], [], [], [17], [], [], [], [16], [], [], [], []] [(100, .int .i64 z6.2), (101, .bool (z6.2 == 1)), (102, .bool (z6.2 == 1)), (103, gv ((z6.2 == 1)) (.int .i64 z7.2)), (104, gv ((z6.2 == 1)) (.bool (z7.2 == 1))), (105, .bool ((z6.2 == 1) && (z7.2 == 1))), (106, .bool ((z6.2 == 1) && (z7.2 == 1))), (107, gv (((z6.2 == 1) && (z7.2 == 1))) v16_), (108, gv (((z6.2 == 1) && (z7.2 == 1))) (.int .i64 (z7.1.length : Int))), (109, gv (((z6.2 == 1) && (z7.2 == 1))) (.bool ((z7.1.length : Int) == 0))), (110, .bool (((z6.2 == 1) && (z7.2 == 1)) && ((z7.1.length : Int) == 0))), (8, .bool (((z6.2 == 1) && (z7.2 == 1)) && ((z7.1.length : Int) == 0)))] (by kernel_rfl) ⟨fun ρz wz hE hA ⟨e15, _⟩ _ => core_val rfl rfl (o_move (e15.trans h15)),
 fun ρz wz hE hA _ ⟨u0, _⟩ => core_val rfl rfl (o_eql u0 rfl rfl),
 fun ρz wz hE hA _ ⟨u1, _⟩ => core_val rfl rfl (o_move u1),
 fun ρz wz hE hA ⟨e17, _⟩ ⟨u2, _⟩ => gIf rfl rfl (yT rfl u2) fun gc F hF => core_val rfl hF (o_move (e17.trans h17)),
 fun ρz wz hE hA _ ⟨u2, u3, _⟩ => gIf rfl rfl (yT rfl u2) fun gc F hF => core_val rfl hF (o_eql (gt gc u3) rfl rfl),
 fun ρz wz hE hA _ ⟨u2, u4, _⟩ => core_val rfl rfl (o_pick_and u2 u4 rfl),
 fun ρz wz hE hA _ ⟨u5, _⟩ => core_val rfl rfl (o_move u5),
 fun ρz wz hE hA ⟨e16, _⟩ ⟨u6, _⟩ => gIf rfl rfl (yT rfl u6) fun gc F hF => core_val rfl hF (o_move (e16.trans h16)),
 fun ρz wz hE hA _ ⟨u6, u7, _⟩ => gIf rfl rfl (yT rfl u6) fun gc F hF => core_val rfl hF (o_len ((gt gc u7).trans hs_Hf16) len_38),
 fun ρz wz hE hA _ ⟨u6, u8, _⟩ => gIf rfl rfl (yT rfl u6) fun gc F hF => core_val rfl hF (o_eql (gt gc u8) rfl rfl),
 fun ρz wz hE hA _ ⟨u6, u9, _⟩ => core_val rfl rfl (o_pick_and u6 u9 rfl),
 fun ρz wz hE hA _ ⟨u10, _⟩ => core_val rfl rfl (o_assign u10), trivial⟩ ?_
  intro ρ12 w12 hN hf hr
  have h8 : ρ12 8 = .bool (((z6.2 == 1) && (z7.2 == 1)) && ((z7.1.length : Int) == 0)) := hf 11 rfl
  have Hg_0 := Hg_0.exn hN
  have hW := hW.trans hN
  have hsz := hW.size
  refine WP.ret ?_
  show retQ Tryd.prog 111 Tryd.f5 (fun v w1 => v = .bool r ∧ Ext noG w0 w1) .ret ρ12 w12
  obtain rfl := Option.some.inj hF
  exact res1 rfl (by decide) h8 ⟨rfl, hW⟩

set_option maxHeartbeats 4000000 in
theorem pensionlaw24_FamilyOrderIsAPriority_ok {w0 : World} (Hg_0 : GR [Value.int .i64 1, Value.int .i64 1] noG w0 0) (d_ : List pensionlaw24_Raw) (i_ : Int) (p_ : List Int) (p_2 : Int) {v_d_ : Value} (H_d_ : RepSl pensionlaw24_Raw.R noG w0 v_d_ d_) {v_p_ : Value} (H_p_ : RepSl intR noG w0 v_p_ p_) {r : Bool} (hF : pensionlaw24_FamilyOrderIsAPriority d_ i_ p_ p_2 = some r) :
    Calls Tryd.prog 6 #[v_d_, .int .i64 i_, v_p_, .int .i64 p_2] w0 fun e w1 => e = .returned (.bool r) ∧ Ext noG w0 w1 := by
  refine (Calls.start (P := Tryd.prog) (args := [v_d_, .int .i64 i_, v_p_, .int .i64 p_2]) (R := fun v w1 => v = .bool r ∧ Ext noG w0 w1) (n := 117) (w := w0) Tryd.func6 rfl rfl (Nat.le_of_ble_eq_true rfl) (fun ρ hargs => ?_)).mono (fun e w1 ⟨v, he, hv, hE⟩ => ⟨hv ▸ he, hE⟩)
  have h0 := hargs 0 _ rfl
  have h1 := hargs 1 _ rfl
  have h2 := hargs 2 _ rfl
  have h3 := hargs 3 _ rfl
  have hW := Ext.refl noG w0
  have hsz := Nat.le_refl w0.heap.size
  obtain ⟨_, _, hs_H_d_, _, _⟩ := RepSl.shape H_d_
  have H_d_ := H_d_.start
  obtain ⟨_, _, hs_H_p_, _, _⟩ := RepSl.shape H_p_
  have H_p_ := H_p_.start
  have Hg_0 := Hg_0.start
  rw [pensionlaw24_FamilyOrderIsAPriority] at hF
  refine WP.seq ?_
  refine WP.rb mixed [[]] [[]] [(8, .bool false)] (by kernel_rfl) ⟨fun ρz wz hE hA _ _ => core_val rfl rfl (o_assign rfl), trivial⟩ ?_
  intro ρ1 w1 hN hf hr
  obtain ⟨h0, h1, h2, h3⟩ := k4 hr h0 h1 h2 h3 rfl
  have H_d_ := H_d_.exn hN
  have H_p_ := H_p_.exn hN
  have Hg_0 := Hg_0.exn hN
  have hW := hW.trans hN
  have hsz := hW.size
  refine WP.seq ?_
  obtain ⟨z, hz, hF⟩ := obind hF
  obtain ⟨z2, hz2, hF⟩ := obind hF
  obtain ⟨z3, hz3, hF⟩ := obind hF
  obtain ⟨z4, hz4, hF⟩ := obind hF
  refine WP.rg mixed [[], [0], [], [2], [], [4], [], [6], [7], [1], [3], [5], [8]] [[], [0], [], [2], [], [4], [], [6], [7], [1], [3], [5], [8]] [[0], [], [2], [], [3], [], [1], [], [], [], [], [], []] [val 19 (v_d_), (20, fun u wz => Own w0.heap.size 43 4 Right.cells wz u z ∧ ∀ b, u.ownBlock = some b → w1.heap.size ≤ b), val 21 (v_p_), (22, fun u wz => Own w0.heap.size 57 4 Rate.cells wz u z2 ∧ ∀ b, u.ownBlock = some b → w1.heap.size ≤ b), val 23 (.int .i64 p_2), val 24 (.int .i64 z3), val 25 (.int .i64 i_), val 26 (.int .i64 z4), val 27 (.int .i64 (i64 (z4 - 1))), (9, fun u wz => Own w0.heap.size 43 4 Right.cells wz u z ∧ ∀ b, u.ownBlock = some b → w1.heap.size ≤ b), (10, fun u wz => Own w0.heap.size 57 4 Rate.cells wz u z2 ∧ ∀ b, u.ownBlock = some b → w1.heap.size ≤ b), val 11 (.int .i64 z3), val 12 (.int .i64 (i64 (z4 - 1)))] (by kernel_rfl) ⟨sV, fun _ _ _ hE ⟨hO, hf⟩ => ⟨hO.exn hE, hf⟩, sV, fun _ _ _ hE ⟨hO, hf⟩ => ⟨hO.exn hE, hf⟩, sV, sV, sV, sV, sV, fun _ _ _ hE ⟨hO, hf⟩ => ⟨hO.exn hE, hf⟩, fun _ _ _ hE ⟨hO, hf⟩ => ⟨hO.exn hE, hf⟩, sV, sV, trivial⟩ ⟨fun ρz wz hE hA ⟨e0, _⟩ _ => core_val rfl rfl (o_move (e0.trans h0)),
 fun ρz wz hE hA _ ⟨u0, _⟩ => core_callR rfl (call_args1 u0) cf_11 ((pensionlaw24_List_ok  _ (H_d_.exn (hA rfl)).no hz).mono (fun e w1 ⟨v, he, hE1, hO⟩ => ⟨v, he, hE1, hO.base (Nat.le_trans hsz hE.size), fun b hb => Nat.le_trans hE.size (hO.lt hb).1⟩)),
 fun ρz wz hE hA ⟨e2, _⟩ _ => core_val rfl rfl (o_move (e2.trans h2)),
 fun ρz wz hE hA _ ⟨u2, _⟩ => core_callR rfl (call_args1 u2) cf_12 ((pensionplain_Rates_ok  _ (H_p_.exn (hA rfl)).no hz2).mono (fun e w1 ⟨v, he, hE1, hO⟩ => ⟨v, he, hE1, hO.base (Nat.le_trans hsz hE.size), fun b hb => Nat.le_trans hE.size (hO.lt hb).1⟩)),
 fun ρz wz hE hA ⟨e3, _⟩ _ => core_val rfl rfl (o_move (e3.trans h3)),
 fun ρz wz hE hA _ ⟨u4, _⟩ => core_call rfl (call_args2 u4 rfl) cf_13 (pensionplain_Mod_ok  _ _  hz3),
 fun ρz wz hE hA ⟨e1, _⟩ _ => core_val rfl rfl (o_move (e1.trans h1)),
 fun ρz wz hE hA _ ⟨u6, _⟩ => core_call rfl (call_args2 u6 rfl) cf_13 (pensionplain_Mod_ok  _ _  hz4),
 fun ρz wz hE hA _ ⟨u7, _⟩ => core_val rfl rfl (o_sub u7 rfl rfl),
 fun ρz wz hE hA _ ⟨⟨hO1, hfr1⟩, _⟩ => core_copy rfl rfl (o_assign rfl) ⟨hO1, hfr1⟩,
 fun ρz wz hE hA _ ⟨⟨hO3, hfr3⟩, _⟩ => core_copy rfl rfl (o_assign rfl) ⟨hO3, hfr3⟩,
 fun ρz wz hE hA _ ⟨u5, _⟩ => core_val rfl rfl (o_assign u5),
 fun ρz wz hE hA _ ⟨u8, _⟩ => core_val rfl rfl (o_assign u8), trivial⟩ ?_
  intro ρ2 w2 hN hf hr
  obtain ⟨v9_, h9⟩ : ∃ v, ρ2 9 = v := ⟨_, rfl⟩
  have hq9 : (fun u wz => Own w0.heap.size 43 4 Right.cells wz u z ∧ ∀ b, u.ownBlock = some b → w1.heap.size ≤ b) (ρ2 9) w2 := hf 9 rfl
  rw [h9] at hq9
  obtain ⟨hq9, hfr9⟩ := hq9
  obtain ⟨v10_, h10⟩ : ∃ v, ρ2 10 = v := ⟨_, rfl⟩
  have hq10 : (fun u wz => Own w0.heap.size 57 4 Rate.cells wz u z2 ∧ ∀ b, u.ownBlock = some b → w1.heap.size ≤ b) (ρ2 10) w2 := hf 10 rfl
  rw [h10] at hq10
  obtain ⟨hq10, hfr10⟩ := hq10
  have h11 : ρ2 11 = .int .i64 z3 := hf 11 rfl
  have h12 : ρ2 12 = .int .i64 (i64 (z4 - 1)) := hf 12 rfl
  have Hg_0 := Hg_0.exn hN
  have hW := hW.trans hN
  have O9 := hq9
  have O10 := hq10
  have hsz := hW.size
  refine WP.seq ?_
  obtain ⟨z5, hz5, hF⟩ := obind hF
  refine WP.rg mixed [[], [], [], [], [0, 1, 2, 3], [4], [5], [5], [6], [7]] [[], [], [], [], [0, 1, 2, 3], [4], [5], [5], [6], [7]] [[9], [12], [10], [11], [], [], [], [], [], []] [val 29 (v9_), val 30 (.int .i64 (i64 (z4 - 1))), val 31 (v10_), val 32 (.int .i64 z3), (33, fun u wz => ∃ q : Value, u = .tuple #[q, .int .i64 z5.2] ∧ Own w0.heap.size 3 1 (fun x : Int => [Value.int .i64 x]) wz q z5.1 ∧ ∀ b, q.ownBlock = some b → w2.heap.size ≤ b), (28, fun u wz => ∃ q : Value, u = .tuple #[q, .int .i64 z5.2] ∧ Own w0.heap.size 3 1 (fun x : Int => [Value.int .i64 x]) wz q z5.1 ∧ ∀ b, q.ownBlock = some b → w2.heap.size ≤ b), (34, fun u wz => Own w0.heap.size 3 1 (fun x : Int => [Value.int .i64 x]) wz u z5.1 ∧ ∀ b, u.ownBlock = some b → w2.heap.size ≤ b), val 35 (.int .i64 z5.2), (13, fun u wz => Own w0.heap.size 3 1 (fun x : Int => [Value.int .i64 x]) wz u z5.1 ∧ ∀ b, u.ownBlock = some b → w2.heap.size ≤ b), val 14 (.int .i64 z5.2)] (by kernel_rfl) ⟨sV, sV, sV, sV, fun _ _ _ hE ⟨q, ht, hO, hf⟩ => ⟨q, ht, hO.exn hE, hf⟩, fun _ _ _ hE ⟨q, ht, hO, hf⟩ => ⟨q, ht, hO.exn hE, hf⟩, fun _ _ _ hE ⟨hO, hf⟩ => ⟨hO.exn hE, hf⟩, sV, fun _ _ _ hE ⟨hO, hf⟩ => ⟨hO.exn hE, hf⟩, sV, trivial⟩ ⟨fun ρz wz hE hA ⟨e9, _⟩ _ => core_val rfl rfl (o_move (e9.trans h9)),
 fun ρz wz hE hA ⟨e12, _⟩ _ => core_val rfl rfl (o_move (e12.trans h12)),
 fun ρz wz hE hA ⟨e10, _⟩ _ => core_val rfl rfl (o_move (e10.trans h10)),
 fun ρz wz hE hA ⟨e11, _⟩ _ => core_val rfl rfl (o_move (e11.trans h11)),
 fun ρz wz hE hA _ ⟨u0, u1, u2, u3, _⟩ => core_callR rfl (call_args4 u0 u1 u2 u3) cf_14 ((family_Order_ok  _ _ _ _ ((O9.exn (hA rfl)).rep (hn := fun _ => rfl) (G := noG) (fun _ _ h => h)).no ((O10.exn (hA rfl)).rep (hn := fun _ => rfl) (G := noG) (fun _ _ h => h)).no hz5).mono (fun e w1 ⟨v, he, hE1, q, hv, hO⟩ => ⟨v, he, hE1, q, hv, hO.base (Nat.le_trans hsz hE.size), fun b hb => Nat.le_trans hE.size (hO.lt hb).1⟩)),
 fun ρz wz hE hA _ ⟨⟨q4, ht4, hO4, hfr4⟩, _⟩ => core_copy rfl rfl (o_move rfl) ⟨q4, ht4, hO4, hfr4⟩,
 fun ρz wz hE hA _ ⟨⟨q5, ht5, hO5, hfr5⟩, _⟩ => core_copy rfl rfl (o_extract ht5 (by kernel_rfl)) ⟨hO5, hfr5⟩,
 fun ρz wz hE hA _ ⟨⟨q5, ht5, hO5, hfr5⟩, _⟩ => core_val rfl rfl (o_extract ht5 (by kernel_rfl)),
 fun ρz wz hE hA _ ⟨⟨hO6, hfr6⟩, _⟩ => core_copy rfl rfl (o_assign rfl) ⟨hO6, hfr6⟩,
 fun ρz wz hE hA _ ⟨u7, _⟩ => core_val rfl rfl (o_assign u7), trivial⟩ ?_
  intro ρ3 w3 hN hf hr
  obtain ⟨v13_, h13⟩ : ∃ v, ρ3 13 = v := ⟨_, rfl⟩
  have hq13 : (fun u wz => Own w0.heap.size 3 1 (fun x : Int => [Value.int .i64 x]) wz u z5.1 ∧ ∀ b, u.ownBlock = some b → w2.heap.size ≤ b) (ρ3 13) w3 := hf 8 rfl
  rw [h13] at hq13
  obtain ⟨hq13, hfr13⟩ := hq13
  have h14 : ρ3 14 = .int .i64 z5.2 := hf 9 rfl
  obtain ⟨h9, h12⟩ := k2 hr h9 h12 rfl
  have Oo_O10 := O10
  have Oo_O9 := O9
  have Hg_0 := Hg_0.exn hN
  have hW := hW.trans hN
  have O9 := O9.exn hN
  have O13 := hq13
  have hsz := hW.size
  refine WP.seq ?_
  refine WP.seq ?_
  obtain ⟨z6, hz6, hF⟩ := obind hF
  refine WP.rb mixed [[], [0], [1], [2], [2, 3], [2, 4], [5], [6], [6, 7], [6], [6, 9], [6, 8, 10], [6, 11]] [[], [], [], [14], [], [], [], [13], [], [9], [], [], []] [(36, .bool z6), (37, .bool (!z6)), (38, .bool (!z6)), (39, gv (!(!z6)) (.int .i64 z5.2)), (40, gv (!(!z6)) (.bool (z5.2 != 0))), (41, .bool ((!z6) || (z5.2 != 0))), (42, .bool ((!z6) || (z5.2 != 0))), (43, gv (!((!z6) || (z5.2 != 0))) v13_), (44, gv (!((!z6) || (z5.2 != 0))) (.int .i64 (z5.1.length : Int))), (45, gv (!((!z6) || (z5.2 != 0))) v9_), (46, gv (!((!z6) || (z5.2 != 0))) (.int .i64 (z.length : Int))), (47, gv (!((!z6) || (z5.2 != 0))) (.bool ((z5.1.length : Int) != (z.length : Int)))), (48, .bool (((!z6) || (z5.2 != 0)) || ((z5.1.length : Int) != (z.length : Int))))] (by kernel_rfl) ⟨fun ρz wz hE hA _ _ => core_call rfl call_args0 cf_16 (pensionlaw24_awake_ok (Hg_0.exn (hA rfl)).no   hz6),
 fun ρz wz hE hA _ ⟨u0, _⟩ => core_val rfl rfl (o_not u0 rfl),
 fun ρz wz hE hA _ ⟨u1, _⟩ => core_val rfl rfl (o_move u1),
 fun ρz wz hE hA ⟨e14, _⟩ ⟨u2, _⟩ => gIf rfl rfl (yF rfl u2) fun gc F hF => core_val rfl hF (o_move (e14.trans h14)),
 fun ρz wz hE hA _ ⟨u2, u3, _⟩ => gIf rfl rfl (yF rfl u2) fun gc F hF => core_val rfl hF (o_neq (gt gc u3) rfl rfl),
 fun ρz wz hE hA _ ⟨u2, u4, _⟩ => core_val rfl rfl (o_pick_or u2 rfl u4),
 fun ρz wz hE hA _ ⟨u5, _⟩ => core_val rfl rfl (o_move u5),
 fun ρz wz hE hA ⟨e13, _⟩ ⟨u6, _⟩ => gIf rfl rfl (yF rfl u6) fun gc F hF => core_val rfl hF (o_move (e13.trans h13)),
 fun ρz wz hE hA _ ⟨u6, u7, _⟩ => gIf rfl rfl (yF rfl u6) fun gc F hF => core_val rfl hF (o_len ((gt gc u7).trans (Own.shape O13).choose_spec.choose_spec.1) len_23),
 fun ρz wz hE hA ⟨e9, _⟩ ⟨u6, _⟩ => gIf rfl rfl (yF rfl u6) fun gc F hF => core_val rfl hF (o_move (e9.trans h9)),
 fun ρz wz hE hA _ ⟨u6, u9, _⟩ => gIf rfl rfl (yF rfl u6) fun gc F hF => core_val rfl hF (o_len ((gt gc u9).trans (Own.shape O9).choose_spec.choose_spec.1) len_24),
 fun ρz wz hE hA _ ⟨u6, u8, u10, _⟩ => gIf rfl rfl (yF rfl u6) fun gc F hF => core_val rfl hF (o_neq (gt gc u8) (gt gc u10) rfl),
 fun ρz wz hE hA _ ⟨u6, u11, _⟩ => core_val rfl rfl (o_pick_or u6 rfl u11), trivial⟩ ?_
  intro ρ4 w4 hN hf hr
  have h48 : ρ4 48 = .bool (((!z6) || (z5.2 != 0)) || ((z5.1.length : Int) != (z.length : Int))) := hf 12 rfl
  obtain ⟨h9, h12, h13⟩ := k3 hr h9 h12 h13 rfl
  have Oo_O13 := O13
  have Oo_O9 := O9
  have Hg_0 := Hg_0.exn hN
  have hW := hW.trans hN
  have O9 := O9.exn hN
  have O13 := O13.exn hN
  have hsz := hW.size
  refine WP.cond rfl h48 (fun hb => ?_) (fun hb => ?_)
  · have hF := (if_pos hb).symm.trans hF
    refine WP.seq ?_
    refine WP.rb mixed [[]] [[]] [(8, .bool false)] (by kernel_rfl) ⟨fun ρz wz hE hA _ _ => core_val rfl rfl (o_assign rfl), trivial⟩ ?_
    intro ρ5 w5 hN hf hr
    have h8 : ρ5 8 = .bool false := hf 0 rfl
    have Oo_O13 := O13
    have Oo_O9 := O9
    have Hg_0 := Hg_0.exn hN
    have hW := hW.trans hN
    have hsz := hW.size
    refine WP.ret ?_
    show retQ Tryd.prog 117 Tryd.f6 (fun v w1 => v = .bool r ∧ Ext noG w0 w1) .ret ρ5 w5
    obtain rfl := Option.some.inj hF
    exact res1 rfl (by decide) h8 ⟨rfl, hW⟩
  have hF := (if_neg (Bool.eq_false_iff.1 hb)).symm.trans hF
  refine WP.skip ?_
  refine WP.seq ?_
  refine WP.rg mixed [[]] [[]] [[]] [(15, fun u wz => ∃ b, u = .pointer (some ⟨b, 0, none⟩) ∧ w4.heap.size ≤ b ∧ Mb wz b 45 ((List.replicate 6 false).flatMap (fun x : Bool => [Value.bool x])))] (by kernel_rfl) ⟨fun _ _ _ hE ⟨b, hb, hs, hM⟩ => ⟨b, hb, hs, hM.exn hE⟩, trivial⟩ ⟨fun ρz wz hE hA _ _ => core_new rfl rfl hE (o_alloc (al_45 _)), trivial⟩ ?_
  intro ρ6 w6 hN hf hr
  obtain ⟨b15_, h15, hge_b15_, Hb_b15_⟩ := hf 0 rfl
  obtain ⟨h9, h12, h13⟩ := k3 hr h9 h12 h13 rfl
  have Oo_O13 := O13
  have Oo_O9 := O9
  have Hg_0 := Hg_0.exn hN
  have hnb_O9_b15_ : Value.ownBlock v9_ ≠ some b15_ := fun h => absurd (O9.lt h).2 (Nat.not_lt.2 hge_b15_)
  have hnb_O13_b15_ : Value.ownBlock v13_ ≠ some b15_ := fun h => absurd (O13.lt h).2 (Nat.not_lt.2 hge_b15_)
  have hW := hW.trans hN
  have O9 := O9.exn hN
  have O13 := O13.exn hN
  have hlen_b15_ : (List.replicate 6 false).length = 6 := by simp
  have hB_b15_ : w0.heap.size ≤ b15_ := Nat.le_trans hsz hge_b15_
  have hsz := hW.size
  refine WP.seq ?_
  refine WP.seq ?_
  refine WP.rb mixed [[]] [[]] [(16, .int .i64 0)] (by kernel_rfl) ⟨fun ρz wz hE hA _ _ => core_val rfl rfl (o_assign rfl), trivial⟩ ?_
  intro ρ7 w7 hN hf hr
  have h16 : ρ7 16 = .int .i64 0 := hf 0 rfl
  obtain ⟨h9, h12, h13, h15⟩ := k4 hr h9 h12 h13 h15 rfl
  have Oo_O13 := O13
  have Oo_O9 := O9
  have Hb_b15_n := Hb_b15_.exn hN
  have Hg_0 := Hg_0.exn hN
  have hW := hW.trans hN
  have O9 := O9.exn hN
  have O13 := O13.exn hN
  have Hb_b15_ := Hb_b15_n
  have hsz := hW.size
  refine WP.block ?_
  refine WP.loop (fun k_ ρ w => ∃ x : Int, ∃ v : List Bool, ρ 9 = v9_ ∧ ρ 12 = .int .i64 (i64 (z4 - 1)) ∧ ρ 13 = v13_ ∧ ρ 15 = .pointer (some ⟨b15_, 0, none⟩) ∧ ρ 16 = .int .i64 x ∧ Mb w b15_ 45 (v.flatMap (fun x : Bool => [Value.bool x])) ∧ v.length = 6 ∧ GR [Value.int .i64 1, Value.int .i64 1] (gfr noG w0) w 0 ∧ Own w0.heap.size 43 4 Right.cells w v9_ z ∧ Own w0.heap.size 3 1 (fun x : Int => [Value.int .i64 x]) w v13_ z5.1 ∧ Value.ownBlock v9_ ≠ some b15_ ∧ Value.ownBlock v13_ ≠ some b15_ ∧ Ext noG w0 w ∧ w0.heap.size ≤ w.heap.size ∧ loopC k_ (pensionlaw24_FamilyOrderIsAPriority_l z z4 z5) (x, v) = some r) FU ⟨0, (List.replicate 6 false), h9, h12, h13, h15, h16, Hb_b15_, hlen_b15_, Hg_0, O9, O13, hnb_O9_b15_, hnb_O13_b15_, hW, hsz, hF⟩ (fun _ _ h => by obtain ⟨_, _, _, _, _, _, _, _, _, _, _, _, _, _, _, _, h⟩ := h; cases h) ?_
  rintro k_ ρ8 w8 ⟨x, v, h9, h12, h13, h15, h16, Hb_b15_, hlen_b15_, Hg_0, O9, O13, hnb_O9_b15_, hnb_O13_b15_, hW, hsz, hF⟩
  have hF : pensionlaw24_FamilyOrderIsAPriority_l z z4 z5 (loopC k_ (pensionlaw24_FamilyOrderIsAPriority_l z z4 z5)) (x, v) = some r := hF
  generalize hrec_ : loopC k_ (pensionlaw24_FamilyOrderIsAPriority_l z z4 z5) = rec_ at hF
  rw [pensionlaw24_FamilyOrderIsAPriority_l] at hF
  refine WP.seq ?_
  refine WP.seq ?_
  refine WP.rb mixed [[], [], [1], [0, 2]] [[16], [13], [], []] [(49, .int .i64 x), (50, v13_), (51, .int .i64 (z5.1.length : Int)), (52, .bool (decide (x < (z5.1.length : Int))))] (by kernel_rfl) ⟨fun ρz wz hE hA ⟨e16, _⟩ _ => core_val rfl rfl (o_move (e16.trans h16)),
 fun ρz wz hE hA ⟨e13, _⟩ _ => core_val rfl rfl (o_move (e13.trans h13)),
 fun ρz wz hE hA _ ⟨u1, _⟩ => core_val rfl rfl (o_len (u1.trans (Own.shape O13).choose_spec.choose_spec.1) len_23),
 fun ρz wz hE hA _ ⟨u0, u2, _⟩ => core_val rfl rfl (o_lss u0 u2 rfl), trivial⟩ ?_
  intro ρ9 w9 hN hf hr
  have h52 : ρ9 52 = .bool (decide (x < (z5.1.length : Int))) := hf 3 rfl
  obtain ⟨h9, h12, h13, h15, h16⟩ := k5 hr h9 h12 h13 h15 h16 rfl
  have Oo_O13 := O13
  have Oo_O9 := O9
  have Hb_b15_n := Hb_b15_.exn hN
  have Hg_0 := Hg_0.exn hN
  have hW := hW.trans hN
  have O9 := O9.exn hN
  have O13 := O13.exn hN
  have Hb_b15_ := Hb_b15_n
  have hsz := hW.size
  refine WP.cond rfl h52 (fun hb => ?_) (fun hb => ?_)
  · have hF := (if_pos hb).symm.trans hF
    refine WP.skip ?_
    refine WP.seqJ (fun ρ w => ∃ v2 : List Bool, ρ 9 = v9_ ∧ ρ 12 = .int .i64 (i64 (z4 - 1)) ∧ ρ 13 = v13_ ∧ ρ 15 = .pointer (some ⟨b15_, 0, none⟩) ∧ ρ 16 = .int .i64 x ∧ Mb w b15_ 45 (v2.flatMap (fun x : Bool => [Value.bool x])) ∧ v2.length = 6 ∧ GR [Value.int .i64 1, Value.int .i64 1] (gfr noG w0) w 0 ∧ Own w0.heap.size 43 4 Right.cells w v9_ z ∧ Own w0.heap.size 3 1 (fun x : Int => [Value.int .i64 x]) w v13_ z5.1 ∧ Value.ownBlock v9_ ≠ some b15_ ∧ Value.ownBlock v13_ ≠ some b15_ ∧ Ext noG w0 w ∧ w0.heap.size ≤ w.heap.size ∧ pensionlaw24_FamilyOrderIsAPriority_j x rec_ v2 = some r) ?_ ?_
    · refine WP.block ?_
      refine WP.seq ?_
      refine WP.seq ?_
      obtain ⟨y, hy, hF⟩ := obind hF
      obtain ⟨ay, cy, hvy, hiy, hAy⟩ := RepSl.getF (Own.rep (hn := fun _ => rfl) (G := noG) O13 (fun _ _ h => h)) hy
      obtain ⟨c, hc, hF⟩ := obind hF
      obtain ⟨y2, hy2, hc⟩ := orB hc
      obtain ⟨ay2, cy2, hvy2, hiy2, hAy2⟩ := RepSl.getFI (Own.rep (hn := fun _ => rfl) (G := noG) O13 (fun _ _ h => h)) hy2
      have hc := orE hc
      obtain ⟨c2, hc2, hF⟩ := obind hF
      obtain ⟨y3, hy3, hc2⟩ := orB hc2
      obtain ⟨ay3, cy3, hvy3, hiy3, hAy3⟩ := RepSl.getFI (Own.rep (hn := fun _ => rfl) (G := noG) O13 (fun _ _ h => h)) hy3
      obtain ⟨y4, hy4, hc2⟩ := orB hc2
      have hc2 := orE hc2
      refine WP.rb mixed [[], [], [0, 1], [2], [3], [4], [5], [5], [5, 6, 7], [5, 8], [5], [5, 10], [5, 9, 11], [5, 12], [13], [14], [14], [14, 15, 16], [14, 17], [14, 18], [14, 19], [14, 20]] [[13], [16], [], [], [], [], [13], [16], [], [], [9], [], [], [], [], [13], [16], [], [], [15], [], []] [(55, v13_), (56, .int .i64 x), (57, .pointer (some (ay.add (Int.toNat x * 1)))), (58, .int .i64 y), (59, .bool (decide (y < 0))), (60, .bool (decide (y < 0))), (61, gv (!(decide (y < 0))) v13_), (62, gv (!(decide (y < 0))) (.int .i64 x)), (63, gv (!(decide (y < 0))) (.pointer (some (ay2.add (Int.toNat x * 1))))), (64, gv (!(decide (y < 0))) (.int .i64 y2)), (65, gv (!(decide (y < 0))) v9_), (66, gv (!(decide (y < 0))) (.int .i64 (z.length : Int))), (67, gv (!(decide (y < 0))) (.bool (decide ((z.length : Int) ≤ y2)))), (68, .bool c), (69, .bool c), (70, gv (!c) v13_), (71, gv (!c) (.int .i64 x)), (72, gv (!c) (.pointer (some (ay3.add (Int.toNat x * 1))))), (73, gv (!c) (.int .i64 y3)), (74, gv (!c) (.pointer (some ((⟨b15_, 0, none⟩ : Addr).add (Int.toNat y3 * 1))))), (75, gv (!c) (.bool y4)), (76, .bool c2)] (by kernel_rfl) ⟨fun ρz wz hE hA ⟨e13, _⟩ _ => core_val rfl rfl (o_move (e13.trans h13)),
 fun ρz wz hE hA ⟨e16, _⟩ _ => core_val rfl rfl (o_move (e16.trans h16)),
 fun ρz wz hE hA _ ⟨u0, u1, _⟩ => core_val rfl rfl (o_indexAddr (u0.trans hvy) u1 (ia_23 hiy)),
 fun ρz wz hE hA _ ⟨u2, _⟩ => core_val rfl rfl (o_load u2 (run_load1 (lr_3 _ _) ((hAy.exn (hA rfl)).ca))),
 fun ρz wz hE hA _ ⟨u3, _⟩ => core_val rfl rfl (o_lss u3 rfl rfl),
 fun ρz wz hE hA _ ⟨u4, _⟩ => core_val rfl rfl (o_move u4),
 fun ρz wz hE hA ⟨e13, _⟩ ⟨u5, _⟩ => gIf rfl rfl (yF rfl u5) fun gc F hF => core_val rfl hF (o_move (e13.trans h13)),
 fun ρz wz hE hA ⟨e16, _⟩ ⟨u5, _⟩ => gIf rfl rfl (yF rfl u5) fun gc F hF => core_val rfl hF (o_move (e16.trans h16)),
 fun ρz wz hE hA _ ⟨u5, u6, u7, _⟩ => gIf rfl rfl (yF rfl u5) fun gc F hF => core_val rfl hF (o_indexAddr ((gt gc u6).trans (hvy2 gc)) (gt gc u7) (ia_23 (hiy2 gc))),
 fun ρz wz hE hA _ ⟨u5, u8, _⟩ => gIf rfl rfl (yF rfl u5) fun gc F hF => core_val rfl hF (o_load (gt gc u8) (run_load1 (lr_3 _ _) (((hAy2 gc).exn (hA rfl)).ca))),
 fun ρz wz hE hA ⟨e9, _⟩ ⟨u5, _⟩ => gIf rfl rfl (yF rfl u5) fun gc F hF => core_val rfl hF (o_move (e9.trans h9)),
 fun ρz wz hE hA _ ⟨u5, u10, _⟩ => gIf rfl rfl (yF rfl u5) fun gc F hF => core_val rfl hF (o_len ((gt gc u10).trans (Own.shape O9).choose_spec.choose_spec.1) len_24),
 fun ρz wz hE hA _ ⟨u5, u9, u11, _⟩ => gIf rfl rfl (yF rfl u5) fun gc F hF => core_val rfl hF (o_geq (gt gc u9) (gt gc u11) rfl),
 fun ρz wz hE hA _ ⟨u5, u12, _⟩ => core_valE rfl rfl (congrArg Value.bool hc) (o_pick_or u5 rfl u12),
 fun ρz wz hE hA _ ⟨u13, _⟩ => core_val rfl rfl (o_move u13),
 fun ρz wz hE hA ⟨e13, _⟩ ⟨u14, _⟩ => gIf rfl rfl (yF rfl u14) fun gc F hF => core_val rfl hF (o_move (e13.trans h13)),
 fun ρz wz hE hA ⟨e16, _⟩ ⟨u14, _⟩ => gIf rfl rfl (yF rfl u14) fun gc F hF => core_val rfl hF (o_move (e16.trans h16)),
 fun ρz wz hE hA _ ⟨u14, u15, u16, _⟩ => gIf rfl rfl (yF rfl u14) fun gc F hF => core_val rfl hF (o_indexAddr ((gt gc u15).trans (hvy3 gc)) (gt gc u16) (ia_23 (hiy3 gc))),
 fun ρz wz hE hA _ ⟨u14, u17, _⟩ => gIf rfl rfl (yF rfl u14) fun gc F hF => core_val rfl hF (o_load (gt gc u17) (run_load1 (lr_3 _ _) (((hAy3 gc).exn (hA rfl)).ca))),
 fun ρz wz hE hA ⟨e15, _⟩ ⟨u14, u18, _⟩ => gIf rfl rfl (yF rfl u14) fun gc F hF => core_val rfl hF (o_indexAddr (e15.trans h15) (gt gc u18) (ia_45 (arr_lt (hy4 gc) (by first | exact hlen_b15_ | simp)))),
 fun ρz wz hE hA _ ⟨u14, u19, _⟩ => gIf rfl rfl (yF rfl u14) fun gc F hF => core_val rfl hF (o_load (gt gc u19) (run_load1 (lr_4 _ _) (CA.elem (cells := fun x : Bool => [Value.bool x]) 1 (fun _ => rfl) ((Hb_b15_.exn (hA rfl)).ca) (hy4 gc)))),
 fun ρz wz hE hA _ ⟨u14, u20, _⟩ => core_valE rfl rfl (congrArg Value.bool hc2) (o_pick_or u14 rfl u20), trivial⟩ ?_
      intro ρ12 w12 hN hf hr
      have h76 : ρ12 76 = .bool c2 := hf 21 rfl
      obtain ⟨h9, h12, h13, h15, h16⟩ := k5 hr h9 h12 h13 h15 h16 rfl
      have Oo_O13 := O13
      have Oo_O9 := O9
      have Hb_b15_n := Hb_b15_.exn hN
      have Hg_0 := Hg_0.exn hN
      have hW := hW.trans hN
      have O9 := O9.exn hN
      have O13 := O13.exn hN
      have Hb_b15_ := Hb_b15_n
      have hsz := hW.size
      refine WP.cond rfl h76 (fun hb => ?_) (fun hb => ?_)
      · have hF := (if_pos hb).symm.trans hF
        refine WP.seq ?_
        refine WP.rb mixed [[]] [[]] [(8, .bool false)] (by kernel_rfl) ⟨fun ρz wz hE hA _ _ => core_val rfl rfl (o_assign rfl), trivial⟩ ?_
        intro ρ13 w13 hN hf hr
        have h8 : ρ13 8 = .bool false := hf 0 rfl
        have Oo_O13 := O13
        have Oo_O9 := O9
        have Hg_0 := Hg_0.exn hN
        have hW := hW.trans hN
        have hsz := hW.size
        refine WP.ret ?_
        show retQ Tryd.prog 117 Tryd.f6 (fun v w1 => v = .bool r ∧ Ext noG w0 w1) .ret ρ13 w13
        obtain rfl := Option.some.inj hF
        exact res1 rfl (by decide) h8 ⟨rfl, hW⟩
      have hF := (if_neg (Bool.eq_false_iff.1 hb)).symm.trans hF
      refine WP.skip ?_
      refine WP.seq ?_
      obtain ⟨y5, hy5, hF⟩ := obind hF
      obtain ⟨ay5, cy5, hvy5, hiy5, hAy5⟩ := RepSl.getF (Own.rep (hn := fun _ => rfl) (G := noG) O13 (fun _ _ h => h)) hy5
      obtain ⟨y6, hy6, hF⟩ := obind hF
      refine WP.region mixed [[], [], [0, 1], [2], [3], [3, 4]] [[], [], [0, 1], [2], [3], [4]] [[13], [16], [], [], [15], []] [5] [] [val 77 (v13_), val 78 (.int .i64 x), val 79 (.pointer (some (ay5.add (Int.toNat x * 1)))), val 80 (.int .i64 y5), val 81 (.pointer (some ((⟨b15_, 0, none⟩ : Addr).add (Int.toNat y5 * 1)))), (81, fun _ wz => Mb wz b15_ 45 ((setI v y5 true).flatMap (fun x : Bool => [Value.bool x])))] (fun x => x = b15_) (by kernel_rfl) ⟨sV, sV, sV, sV, sV, fun _ _ _ hE hM => hM.exn hE, trivial⟩ ⟨fun ρz wz hE hA ⟨e13, _⟩ _ => core_val rfl rfl (o_move (e13.trans h13)),
 fun ρz wz hE hA ⟨e16, _⟩ _ => core_val rfl rfl (o_move (e16.trans h16)),
 fun ρz wz hE hA _ ⟨u0, u1, _⟩ => core_val rfl rfl (o_indexAddr (u0.trans hvy5) u1 (ia_23 hiy5)),
 fun ρz wz hE hA _ ⟨u2, _⟩ => core_val rfl rfl (o_load u2 (run_load1 (lr_3 _ _) ((hAy5.exn (hA rfl)).ca))),
 fun ρz wz hE hA ⟨e15, _⟩ ⟨u3, _⟩ => core_val rfl rfl (o_indexAddr (e15.trans h15) u3 (ia_45 (arr_lt hy6 (by first | exact hlen_b15_ | simp)))),
 fun ρz wz hE hA _ ⟨u4, _⟩ => core_storePart (k := (Int.toNat y5 * 1)) (vs := [Value.bool true]) (cs0 := (v.flatMap (fun x : Bool => [Value.bool x]))) rfl rfl (fun _ h => h) u4 rfl rfl (Hb_b15_.exn (hA rfl)) (fun a w => st_4 _ a w) (arr_room (cells := fun x : Bool => [Value.bool x]) (fun _ => rfl) hy6 rfl) (flatMap_setI (cells := fun x : Bool => [Value.bool x]) (fun _ => rfl) hy6 rfl) (one_4 _), trivial⟩ ?_
      intro ρ14 w14 hE hN hf hr
      obtain ⟨h9, h12, h13, h15, h16⟩ := k5 hr h9 h12 h13 h15 h16 rfl
      have Oo_O13 := O13
      have Oo_O9 := O9
      have Hb_b15_n := hf 5 rfl
      have hlen_b15_ : (setI v y5 true).length = 6 := by simp [length_setI, hlen_b15_]
      have Hg_0 := Hg_0.over hE (fun b hb => hb.symm ▸ hB_b15_)
      have hW := Ext.own hW hE (fun x h => h.symm ▸ hB_b15_)
      have O9 := O9.ext hE (fun b hb hg => hnb_O9_b15_ (hg ▸ hb))
      have O13 := O13.ext hE (fun b hb hg => hnb_O13_b15_ (hg ▸ hb))
      have Hb_b15_ := Hb_b15_n
      have hsz := hW.size
      refine WP.seq ?_
      refine WP.seq ?_
      refine WP.rb mixed [[], [0]] [[16], []] [(82, .int .i64 x), (83, .bool (x == 0))] (by kernel_rfl) ⟨fun ρz wz hE hA ⟨e16, _⟩ _ => core_val rfl rfl (o_move (e16.trans h16)),
 fun ρz wz hE hA _ ⟨u0, _⟩ => core_val rfl rfl (o_eql u0 rfl rfl), trivial⟩ ?_
      intro ρ15 w15 hN hf hr
      have h83 : ρ15 83 = .bool (x == 0) := hf 1 rfl
      obtain ⟨h9, h12, h13, h15, h16⟩ := k5 hr h9 h12 h13 h15 h16 rfl
      have Oo_O13 := O13
      have Oo_O9 := O9
      have Hb_b15_n := Hb_b15_.exn hN
      have Hg_0 := Hg_0.exn hN
      have hW := hW.trans hN
      have O9 := O9.exn hN
      have O13 := O13.exn hN
      have Hb_b15_ := Hb_b15_n
      have hsz := hW.size
      refine WP.cond rfl h83 (fun hb => ?_) (fun hb => ?_)
      · have hF := (if_pos hb).symm.trans hF
        refine WP.exit ?_
        refine thenQ_exit ?_
        refine blockQ_hit ?_
        exact ⟨setI v y5 true, h9, h12, h13, h15, h16, Hb_b15_, hlen_b15_, Hg_0, O9, O13, hnb_O9_b15_, hnb_O13_b15_, hW, hsz, hF⟩
      have hF := (if_neg (Bool.eq_false_iff.1 hb)).symm.trans hF
      refine WP.skip ?_
      refine WP.seq ?_
      obtain ⟨y7, hy7, hF⟩ := obind hF
      obtain ⟨ay7, cy7, hvy7, hiy7, hAy7⟩ := RepSl.getF (Own.rep (hn := fun _ => rfl) (G := noG) O13 (fun _ _ h => h)) hy7
      obtain ⟨y8, hy8, hF⟩ := obind hF
      obtain ⟨ay8, cy8, hvy8, hiy8, hAy8⟩ := RepSl.getF (Own.rep (hn := fun _ => rfl) (G := noG) O9 (fun _ _ h => h)) hy8
      obtain ⟨y9, hy9, hF⟩ := obind hF
      obtain ⟨ay9, cy9, hvy9, hiy9, hAy9⟩ := RepSl.getF (Own.rep (hn := fun _ => rfl) (G := noG) O13 (fun _ _ h => h)) hy9
      obtain ⟨y10, hy10, hF⟩ := obind hF
      obtain ⟨ay10, cy10, hvy10, hiy10, hAy10⟩ := RepSl.getF (Own.rep (hn := fun _ => rfl) (G := noG) O9 (fun _ _ h => h)) hy10
      refine WP.regionN mixed ⟨[[], [], [], [2], [1, 3], [4], [0, 5], [6], [], [], [], [9, 10], [11], [8, 12], [13], [], [], [7, 15], [14, 16, 17]], [[], [], [], [2], [1, 3], [4], [0, 5], [6], [], [], [], [9, 10], [11], [8, 12], [13], [], [], [7, 15], [14, 16]], [[9], [13], [16], [], [], [], [], [], [9], [13], [16], [], [], [], [], [], [], [], []], [17, 18], [(15, 17), (16, 18)], [(15, 17), (16, 18)], [(17, 17), (18, 18)]⟩ [val 84 (v9_), val 85 (v13_), val 86 (.int .i64 x), val 87 (.int .i64 (i64 (x - 1))), val 88 (.pointer (some (ay7.add (Int.toNat (i64 (x - 1)) * 1)))), val 89 (.int .i64 y7), val 90 (.pointer (some (ay8.add (Int.toNat y7 * 4)))), val 91 (Right.val y8), val 92 (v9_), val 93 (v13_), val 94 (.int .i64 x), val 95 (.pointer (some (ay9.add (Int.toNat x * 1)))), val 96 (.int .i64 y9), val 97 (.pointer (some (ay10.add (Int.toNat y9 * 4)))), val 98 (Right.val y10), (17, fun u wz => ∃ b, u = .pointer (some ⟨b, 0, none⟩) ∧ w15.heap.size ≤ b ∧ Mb wz b 43 (Right.cells (⟨0, 0, 0, 0⟩ : Right))), (18, fun u wz => ∃ b, u = .pointer (some ⟨b, 0, none⟩) ∧ w15.heap.size ≤ b ∧ Mb wz b 43 (Right.cells (⟨0, 0, 0, 0⟩ : Right))), (17, fun u wz => ∃ b, u = .pointer (some ⟨b, 0, none⟩) ∧ w15.heap.size ≤ b ∧ Mb wz b 43 (Right.cells y8)), (18, fun u wz => ∃ b, u = .pointer (some ⟨b, 0, none⟩) ∧ w15.heap.size ≤ b ∧ Mb wz b 43 (Right.cells y10))] (fun b => w15.heap.size ≤ b) (by kernel_rfl) (.inr (fun _ h => h)) ⟨sV, sV, sV, sV, sV, sV, sV, sV, sV, sV, sV, sV, sV, sV, sV, TStable.box, TStable.box, TStable.box, TStable.box, trivial⟩ ⟨fun ρz wz hE hA ⟨e9, _⟩ _ => core_val rfl rfl (o_move (e9.trans h9)),
 fun ρz wz hE hA ⟨e13, _⟩ _ => core_val rfl rfl (o_move (e13.trans h13)),
 fun ρz wz hE hA ⟨e16, _⟩ _ => core_val rfl rfl (o_move (e16.trans h16)),
 fun ρz wz hE hA _ ⟨u2, _⟩ => core_val rfl rfl (o_sub u2 rfl rfl),
 fun ρz wz hE hA _ ⟨u1, u3, _⟩ => core_val rfl rfl (o_indexAddr (u1.trans hvy7) u3 (ia_23 hiy7)),
 fun ρz wz hE hA _ ⟨u4, _⟩ => core_val rfl rfl (o_load u4 (run_load1 (lr_3 _ _) ((hAy7.exn hE.fresh).ca))),
 fun ρz wz hE hA _ ⟨u0, u5, _⟩ => core_val rfl rfl (o_indexAddr (u0.trans hvy8) u5 (ia_24 hiy8)),
 fun ρz wz hE hA _ ⟨u6, _⟩ => core_val rfl rfl (o_load u6 (run_loadN (cs := (Right.cells y8)) (lr_43 _ _) rfl ((hAy8.exn hE.fresh).ca))),
 fun ρz wz hE hA ⟨e9, _⟩ _ => core_val rfl rfl (o_move (e9.trans h9)),
 fun ρz wz hE hA ⟨e13, _⟩ _ => core_val rfl rfl (o_move (e13.trans h13)),
 fun ρz wz hE hA ⟨e16, _⟩ _ => core_val rfl rfl (o_move (e16.trans h16)),
 fun ρz wz hE hA _ ⟨u9, u10, _⟩ => core_val rfl rfl (o_indexAddr (u9.trans hvy9) u10 (ia_23 hiy9)),
 fun ρz wz hE hA _ ⟨u11, _⟩ => core_val rfl rfl (o_load u11 (run_load1 (lr_3 _ _) ((hAy9.exn hE.fresh).ca))),
 fun ρz wz hE hA _ ⟨u8, u12, _⟩ => core_val rfl rfl (o_indexAddr (u8.trans hvy10) u12 (ia_24 hiy10)),
 fun ρz wz hE hA _ ⟨u13, _⟩ => core_val rfl rfl (o_load u13 (run_loadN (cs := (Right.cells y10)) (lr_43 _ _) rfl ((hAy10.exn hE.fresh).ca))),
 fun ρz wz hE hA _ _ => core_newN rfl rfl rfl hE (o_alloc (al_43 _)),
 fun ρz wz hE hA _ _ => core_newN rfl rfl rfl hE (o_alloc (al_43 _)),
 fun ρz wz hE hA _ ⟨u7, u15, _⟩ => core_storeNewN rfl rfl u7 u15 (fun a w => st_43 _ a w) rfl (one_43 _),
 fun ρz wz hE hA _ ⟨u14, u16, _⟩ => core_storeNewN rfl rfl u14 u16 (fun a w => st_43 _ a w) rfl (one_43 _), trivial⟩ ?_
      intro ρ16 w16 hE hN hf hr hdist
      have hN := hE.fresh
      obtain ⟨b17_, h17, hge_b17_, Hb_b17_⟩ := hf 17 rfl
      obtain ⟨b18_, h18, hge_b18_, Hb_b18_⟩ := hf 18 rfl
      obtain ⟨h9, h12, h13, h15, h16⟩ := k5 hr h9 h12 h13 h15 h16 rfl
      have Oo_O13 := O13
      have Oo_O9 := O9
      have Hb_b15_n := Hb_b15_.exn hN
      have Hg_0 := Hg_0.exn hN
      have hnb_O9_b17_ : Value.ownBlock v9_ ≠ some b17_ := fun h => absurd (O9.lt h).2 (Nat.not_lt.2 hge_b17_)
      have hnb_O9_b18_ : Value.ownBlock v9_ ≠ some b18_ := fun h => absurd (O9.lt h).2 (Nat.not_lt.2 hge_b18_)
      have hnb_O13_b17_ : Value.ownBlock v13_ ≠ some b17_ := fun h => absurd (O13.lt h).2 (Nat.not_lt.2 hge_b17_)
      have hnb_O13_b18_ : Value.ownBlock v13_ ≠ some b18_ := fun h => absurd (O13.lt h).2 (Nat.not_lt.2 hge_b18_)
      have hW := hW.trans hN
      have O9 := O9.exn hN
      have O13 := O13.exn hN
      have Hb_b15_ := Hb_b15_n
      have hB_b17_ : w0.heap.size ≤ b17_ := Nat.le_trans hsz hge_b17_
      have hB_b18_ : w0.heap.size ≤ b18_ := Nat.le_trans hsz hge_b18_
      have hsz := hW.size
      refine WP.seq ?_
      refine WP.rb mixed [[], [0], [], [2], [1, 3], [4], [5], [5, 6], [5], [5, 8], [5, 7, 9], [5, 10], [11], [11, 12], [11], [11, 13, 14], [5, 11, 15], [5, 16]] [[17], [], [18], [], [], [], [17], [], [18], [], [], [], [18], [], [12], [], [], []] [(99, .pointer (some ((⟨b17_, 0, none⟩ : Addr).add 1))), (100, .int .i64 y8.Basis), (101, .pointer (some ((⟨b18_, 0, none⟩ : Addr).add 1))), (102, .int .i64 y10.Basis), (103, .bool (decide (y10.Basis < y8.Basis))), (104, .bool (decide (y10.Basis < y8.Basis))), (105, gv (!(decide (y10.Basis < y8.Basis))) (.pointer (some ((⟨b17_, 0, none⟩ : Addr).add 1)))), (106, gv (!(decide (y10.Basis < y8.Basis))) (.int .i64 y8.Basis)), (107, gv (!(decide (y10.Basis < y8.Basis))) (.pointer (some ((⟨b18_, 0, none⟩ : Addr).add 1)))), (108, gv (!(decide (y10.Basis < y8.Basis))) (.int .i64 y10.Basis)), (109, gv (!(decide (y10.Basis < y8.Basis))) (.bool (y8.Basis == y10.Basis))), (110, gv (!(decide (y10.Basis < y8.Basis))) (.bool (y8.Basis == y10.Basis))), (111, gv ((!(decide (y10.Basis < y8.Basis))) && (y8.Basis == y10.Basis)) (.pointer (some ((⟨b18_, 0, none⟩ : Addr).add 0)))), (112, gv ((!(decide (y10.Basis < y8.Basis))) && (y8.Basis == y10.Basis)) (.int .i64 y10.State)), (113, gv ((!(decide (y10.Basis < y8.Basis))) && (y8.Basis == y10.Basis)) (.int .i64 (i64 (z4 - 1)))), (114, gv ((!(decide (y10.Basis < y8.Basis))) && (y8.Basis == y10.Basis)) (.bool (y10.State == i64 (z4 - 1)))), (115, gv (!(decide (y10.Basis < y8.Basis))) (.bool ((y8.Basis == y10.Basis) && (y10.State == i64 (z4 - 1))))), (116, .bool (decide (y10.Basis < y8.Basis) || ((y8.Basis == y10.Basis) && (y10.State == i64 (z4 - 1)))))] (by kernel_rfl) ⟨fun ρz wz hE hA ⟨e17, _⟩ _ => core_val rfl rfl (o_fieldAddr (e17.trans h17) (fa_43_1 _ _)),
 fun ρz wz hE hA _ ⟨u0, _⟩ => core_val rfl rfl (o_load u0 (run_load1 (lr_3 _ _) (CA.sub ((Hb_b17_.exn (hA rfl)).ca) 1 1))),
 fun ρz wz hE hA ⟨e18, _⟩ _ => core_val rfl rfl (o_fieldAddr (e18.trans h18) (fa_43_1 _ _)),
 fun ρz wz hE hA _ ⟨u2, _⟩ => core_val rfl rfl (o_load u2 (run_load1 (lr_3 _ _) (CA.sub ((Hb_b18_.exn (hA rfl)).ca) 1 1))),
 fun ρz wz hE hA _ ⟨u1, u3, _⟩ => core_val rfl rfl (o_gtr u1 u3 rfl),
 fun ρz wz hE hA _ ⟨u4, _⟩ => core_val rfl rfl (o_move u4),
 fun ρz wz hE hA ⟨e17, _⟩ ⟨u5, _⟩ => gIf rfl rfl (yF rfl u5) fun gc F hF => core_val rfl hF (o_fieldAddr (e17.trans h17) (fa_43_1 _ _)),
 fun ρz wz hE hA _ ⟨u5, u6, _⟩ => gIf rfl rfl (yF rfl u5) fun gc F hF => core_val rfl hF (o_load (gt gc u6) (run_load1 (lr_3 _ _) (CA.sub ((Hb_b17_.exn (hA rfl)).ca) 1 1))),
 fun ρz wz hE hA ⟨e18, _⟩ ⟨u5, _⟩ => gIf rfl rfl (yF rfl u5) fun gc F hF => core_val rfl hF (o_fieldAddr (e18.trans h18) (fa_43_1 _ _)),
 fun ρz wz hE hA _ ⟨u5, u8, _⟩ => gIf rfl rfl (yF rfl u5) fun gc F hF => core_val rfl hF (o_load (gt gc u8) (run_load1 (lr_3 _ _) (CA.sub ((Hb_b18_.exn (hA rfl)).ca) 1 1))),
 fun ρz wz hE hA _ ⟨u5, u7, u9, _⟩ => gIf rfl rfl (yF rfl u5) fun gc F hF => core_val rfl hF (o_eql (gt gc u7) (gt gc u9) rfl),
 fun ρz wz hE hA _ ⟨u5, u10, _⟩ => gIf rfl rfl (yF rfl u5) fun gc F hF => core_val rfl hF (o_move (gt gc u10)),
 fun ρz wz hE hA ⟨e18, _⟩ ⟨u11, _⟩ => gIf rfl rfl (yTG rfl u11) fun gc F hF => core_val rfl hF (o_fieldAddr (e18.trans h18) (fa_43_0 _ _)),
 fun ρz wz hE hA _ ⟨u11, u12, _⟩ => gIf rfl rfl (yTG rfl u11) fun gc F hF => core_val rfl hF (o_load (gt gc u12) (run_load1 (lr_3 _ _) (CA.sub ((Hb_b18_.exn (hA rfl)).ca) 0 1))),
 fun ρz wz hE hA ⟨e12, _⟩ ⟨u11, _⟩ => gIf rfl rfl (yTG rfl u11) fun gc F hF => core_val rfl hF (o_move (e12.trans h12)),
 fun ρz wz hE hA _ ⟨u11, u13, u14, _⟩ => gIf rfl rfl (yTG rfl u11) fun gc F hF => core_val rfl hF (o_eql (gt gc u13) (gt gc u14) rfl),
 fun ρz wz hE hA _ ⟨u5, u11, u15, _⟩ => gIf rfl rfl (yF rfl u5) fun gc F hF => core_val rfl hF (o_pick_and (gt gc u11) (gr gc u15) rfl),
 fun ρz wz hE hA _ ⟨u5, u16, _⟩ => core_val rfl rfl (o_pick_or u5 rfl u16), trivial⟩ ?_
      intro ρ17 w17 hN hf hr
      have h116 : ρ17 116 = .bool (decide (y10.Basis < y8.Basis) || ((y8.Basis == y10.Basis) && (y10.State == i64 (z4 - 1)))) := hf 17 rfl
      obtain ⟨h9, h12, h13, h15, h16⟩ := k5 hr h9 h12 h13 h15 h16 rfl
      have Oo_O13 := O13
      have Oo_O9 := O9
      have Hb_b15_n := Hb_b15_.exn hN
      have Hg_0 := Hg_0.exn hN
      have hW := hW.trans hN
      have O9 := O9.exn hN
      have O13 := O13.exn hN
      have Hb_b15_ := Hb_b15_n
      have hsz := hW.size
      refine WP.cond rfl h116 (fun hb => ?_) (fun hb => ?_)
      · have hF := (if_pos hb).symm.trans hF
        refine WP.seq ?_
        refine WP.rb mixed [[]] [[]] [(8, .bool false)] (by kernel_rfl) ⟨fun ρz wz hE hA _ _ => core_val rfl rfl (o_assign rfl), trivial⟩ ?_
        intro ρ18 w18 hN hf hr
        have h8 : ρ18 8 = .bool false := hf 0 rfl
        have Oo_O13 := O13
        have Oo_O9 := O9
        have Hg_0 := Hg_0.exn hN
        have hW := hW.trans hN
        have hsz := hW.size
        refine WP.ret ?_
        show retQ Tryd.prog 117 Tryd.f6 (fun v w1 => v = .bool r ∧ Ext noG w0 w1) .ret ρ18 w18
        obtain rfl := Option.some.inj hF
        exact res1 rfl (by decide) h8 ⟨rfl, hW⟩
      have hF := (if_neg (Bool.eq_false_iff.1 hb)).symm.trans hF
      refine WP.skip ?_
      exact ⟨setI v y5 true, h9, h12, h13, h15, h16, Hb_b15_, hlen_b15_, Hg_0, O9, O13, hnb_O9_b15_, hnb_O13_b15_, hW, hsz, hF⟩
    rintro ρ10 w10 ⟨v2, h9, h12, h13, h15, h16, Hb_b15_, hlen_b15_, Hg_0, O9, O13, hnb_O9_b15_, hnb_O13_b15_, hW, hsz, hF⟩
    rw [pensionlaw24_FamilyOrderIsAPriority_j] at hF
    refine WP.rv mixed [[], [0], [0, 1]] [[], [0], [1]] [[16], [], []] [(53, .int .i64 x), (54, .int .i64 (i64 (x + 1))), (16, .int .i64 (i64 (x + 1)))] (by kernel_rfl) ⟨fun ρz wz hE hA ⟨e16, _⟩ _ => core_val rfl rfl (o_move (e16.trans h16)),
 fun ρz wz hE hA _ ⟨u0, _⟩ => core_val rfl rfl (o_add u0 rfl rfl),
 fun ρz wz hE hA _ ⟨u1, _⟩ => core_val rfl rfl (o_assign u1), trivial⟩ ?_
    intro ρ11 w11 hN hf hr
    have h16 : ρ11 16 = .int .i64 (i64 (x + 1)) := hf 2 rfl
    obtain ⟨h9, h12, h13, h15⟩ := k4 hr h9 h12 h13 h15 rfl
    have Oo_O13 := O13
    have Oo_O9 := O9
    have Hb_b15_n := Hb_b15_.exn hN
    have Hg_0 := Hg_0.exn hN
    have hW := hW.trans hN
    have O9 := O9.exn hN
    have O13 := O13.exn hN
    have Hb_b15_ := Hb_b15_n
    have hsz := hW.size
    exact ⟨i64 (x + 1), v2, h9, h12, h13, h15, h16, Hb_b15_, hlen_b15_, Hg_0, O9, O13, hnb_O9_b15_, hnb_O13_b15_, hW, hsz, (by first | exact hF | (rw [hrec_]; exact hF))⟩
  have hF := (if_neg (Bool.eq_false_iff.1 hb)).symm.trans hF
  refine WP.exit ?_
  refine thenQ_exit ?_
  refine thenQ_exit ?_
  refine blockQ_hit ?_
  refine WP.seq ?_
  refine WP.rb mixed [[]] [[]] [(8, .bool true)] (by kernel_rfl) ⟨fun ρz wz hE hA _ _ => core_val rfl rfl (o_assign rfl), trivial⟩ ?_
  intro ρ19 w19 hN hf hr
  have h8 : ρ19 8 = .bool true := hf 0 rfl
  have Oo_O13 := O13
  have Oo_O9 := O9
  have Hg_0 := Hg_0.exn hN
  have hW := hW.trans hN
  have hsz := hW.size
  refine WP.ret ?_
  show retQ Tryd.prog 117 Tryd.f6 (fun v w1 => v = .bool r ∧ Ext noG w0 w1) .ret ρ19 w19
  obtain rfl := Option.some.inj hF
  exact res1 rfl (by decide) h8 ⟨rfl, hW⟩

set_option maxHeartbeats 4000000 in
theorem pensionlaw24_FamilyPaymentsAgree_ok {w0 : World} (Hg_0 : GR [Value.int .i64 1, Value.int .i64 1] noG w0 0) (l_ : List pensionlaw24_Raw) (home_ : Int) (rates_ : List Int) (month_ : Int) {v_l_ : Value} (H_l_ : RepSl pensionlaw24_Raw.R noG w0 v_l_ l_) {v_rates_ : Value} (H_rates_ : RepSl intR noG w0 v_rates_ rates_) {r : Bool} (hF : pensionlaw24_FamilyPaymentsAgree l_ home_ rates_ month_ = some r) :
    Calls Tryd.prog 7 #[v_l_, .int .i64 home_, v_rates_, .int .i64 month_] w0 fun e w1 => e = .returned (.bool r) ∧ Ext noG w0 w1 := by
  refine (Calls.start (P := Tryd.prog) (args := [v_l_, .int .i64 home_, v_rates_, .int .i64 month_]) (R := fun v w1 => v = .bool r ∧ Ext noG w0 w1) (n := 53) (w := w0) Tryd.func7 rfl rfl (Nat.le_of_ble_eq_true rfl) (fun ρ hargs => ?_)).mono (fun e w1 ⟨v, he, hv, hE⟩ => ⟨hv ▸ he, hE⟩)
  have h0 := hargs 0 _ rfl
  have h1 := hargs 1 _ rfl
  have h2 := hargs 2 _ rfl
  have h3 := hargs 3 _ rfl
  have hW := Ext.refl noG w0
  have hsz := Nat.le_refl w0.heap.size
  obtain ⟨_, _, hs_H_l_, _, _⟩ := RepSl.shape H_l_
  have H_l_ := H_l_.start
  obtain ⟨_, _, hs_H_rates_, _, _⟩ := RepSl.shape H_rates_
  have H_rates_ := H_rates_.start
  have Hg_0 := Hg_0.start
  rw [pensionlaw24_FamilyPaymentsAgree] at hF
  refine WP.seq ?_
  refine WP.rb mixed [[]] [[]] [(8, .bool false)] (by kernel_rfl) ⟨fun ρz wz hE hA _ _ => core_val rfl rfl (o_assign rfl), trivial⟩ ?_
  intro ρ1 w1 hN hf hr
  obtain ⟨h0, h1, h2, h3⟩ := k4 hr h0 h1 h2 h3 rfl
  have H_l_ := H_l_.exn hN
  have H_rates_ := H_rates_.exn hN
  have Hg_0 := Hg_0.exn hN
  have hW := hW.trans hN
  have hsz := hW.size
  refine WP.seq ?_
  obtain ⟨z, hz, hF⟩ := obind hF
  obtain ⟨z2, hz2, hF⟩ := obind hF
  obtain ⟨z3, hz3, hF⟩ := obind hF
  obtain ⟨z4, hz4, hF⟩ := obind hF
  refine WP.rg mixed [[], [0], [], [2], [], [4], [], [6], [7], [1], [3], [5], [8]] [[], [0], [], [2], [], [4], [], [6], [7], [1], [3], [5], [8]] [[0], [], [2], [], [3], [], [1], [], [], [], [], [], []] [val 17 (v_l_), (18, fun u wz => Own w0.heap.size 43 4 Right.cells wz u z ∧ ∀ b, u.ownBlock = some b → w1.heap.size ≤ b), val 19 (v_rates_), (20, fun u wz => Own w0.heap.size 57 4 Rate.cells wz u z2 ∧ ∀ b, u.ownBlock = some b → w1.heap.size ≤ b), val 21 (.int .i64 month_), val 22 (.int .i64 z3), val 23 (.int .i64 home_), val 24 (.int .i64 z4), val 25 (.int .i64 (i64 (z4 - 1))), (9, fun u wz => Own w0.heap.size 43 4 Right.cells wz u z ∧ ∀ b, u.ownBlock = some b → w1.heap.size ≤ b), (10, fun u wz => Own w0.heap.size 57 4 Rate.cells wz u z2 ∧ ∀ b, u.ownBlock = some b → w1.heap.size ≤ b), val 11 (.int .i64 z3), val 12 (.int .i64 (i64 (z4 - 1)))] (by kernel_rfl) ⟨sV, fun _ _ _ hE ⟨hO, hf⟩ => ⟨hO.exn hE, hf⟩, sV, fun _ _ _ hE ⟨hO, hf⟩ => ⟨hO.exn hE, hf⟩, sV, sV, sV, sV, sV, fun _ _ _ hE ⟨hO, hf⟩ => ⟨hO.exn hE, hf⟩, fun _ _ _ hE ⟨hO, hf⟩ => ⟨hO.exn hE, hf⟩, sV, sV, trivial⟩ ⟨fun ρz wz hE hA ⟨e0, _⟩ _ => core_val rfl rfl (o_move (e0.trans h0)),
 fun ρz wz hE hA _ ⟨u0, _⟩ => core_callR rfl (call_args1 u0) cf_11 ((pensionlaw24_List_ok  _ (H_l_.exn (hA rfl)).no hz).mono (fun e w1 ⟨v, he, hE1, hO⟩ => ⟨v, he, hE1, hO.base (Nat.le_trans hsz hE.size), fun b hb => Nat.le_trans hE.size (hO.lt hb).1⟩)),
 fun ρz wz hE hA ⟨e2, _⟩ _ => core_val rfl rfl (o_move (e2.trans h2)),
 fun ρz wz hE hA _ ⟨u2, _⟩ => core_callR rfl (call_args1 u2) cf_12 ((pensionplain_Rates_ok  _ (H_rates_.exn (hA rfl)).no hz2).mono (fun e w1 ⟨v, he, hE1, hO⟩ => ⟨v, he, hE1, hO.base (Nat.le_trans hsz hE.size), fun b hb => Nat.le_trans hE.size (hO.lt hb).1⟩)),
 fun ρz wz hE hA ⟨e3, _⟩ _ => core_val rfl rfl (o_move (e3.trans h3)),
 fun ρz wz hE hA _ ⟨u4, _⟩ => core_call rfl (call_args2 u4 rfl) cf_13 (pensionplain_Mod_ok  _ _  hz3),
 fun ρz wz hE hA ⟨e1, _⟩ _ => core_val rfl rfl (o_move (e1.trans h1)),
 fun ρz wz hE hA _ ⟨u6, _⟩ => core_call rfl (call_args2 u6 rfl) cf_13 (pensionplain_Mod_ok  _ _  hz4),
 fun ρz wz hE hA _ ⟨u7, _⟩ => core_val rfl rfl (o_sub u7 rfl rfl),
 fun ρz wz hE hA _ ⟨⟨hO1, hfr1⟩, _⟩ => core_copy rfl rfl (o_assign rfl) ⟨hO1, hfr1⟩,
 fun ρz wz hE hA _ ⟨⟨hO3, hfr3⟩, _⟩ => core_copy rfl rfl (o_assign rfl) ⟨hO3, hfr3⟩,
 fun ρz wz hE hA _ ⟨u5, _⟩ => core_val rfl rfl (o_assign u5),
 fun ρz wz hE hA _ ⟨u8, _⟩ => core_val rfl rfl (o_assign u8), trivial⟩ ?_
  intro ρ2 w2 hN hf hr
  obtain ⟨v9_, h9⟩ : ∃ v, ρ2 9 = v := ⟨_, rfl⟩
  have hq9 : (fun u wz => Own w0.heap.size 43 4 Right.cells wz u z ∧ ∀ b, u.ownBlock = some b → w1.heap.size ≤ b) (ρ2 9) w2 := hf 9 rfl
  rw [h9] at hq9
  obtain ⟨hq9, hfr9⟩ := hq9
  obtain ⟨v10_, h10⟩ : ∃ v, ρ2 10 = v := ⟨_, rfl⟩
  have hq10 : (fun u wz => Own w0.heap.size 57 4 Rate.cells wz u z2 ∧ ∀ b, u.ownBlock = some b → w1.heap.size ≤ b) (ρ2 10) w2 := hf 10 rfl
  rw [h10] at hq10
  obtain ⟨hq10, hfr10⟩ := hq10
  have h11 : ρ2 11 = .int .i64 z3 := hf 11 rfl
  have h12 : ρ2 12 = .int .i64 (i64 (z4 - 1)) := hf 12 rfl
  have Hg_0 := Hg_0.exn hN
  have hW := hW.trans hN
  have Hf9 : RepSl Right.R noG w2 v9_ z := hq9.rep (fun _ _ h => h)
  obtain ⟨_, _, hs_Hf9, _, _⟩ := RepSl.shape Hf9
  have Hf10 : RepSl Rate.R noG w2 v10_ z2 := hq10.rep (fun _ _ h => h)
  obtain ⟨_, _, hs_Hf10, _, _⟩ := RepSl.shape Hf10
  have hsz := hW.size
  refine WP.seq ?_
  obtain ⟨z5, hz5, hF⟩ := obind hF
  refine WP.rg mixed [[], [], [], [], [0, 1, 2, 3], [4], [5], [5], [6], [7]] [[], [], [], [], [0, 1, 2, 3], [4], [5], [5], [6], [7]] [[9], [12], [10], [11], [], [], [], [], [], []] [val 27 (v9_), val 28 (.int .i64 (i64 (z4 - 1))), val 29 (v10_), val 30 (.int .i64 z3), (31, fun u wz => ∃ q : Value, u = .tuple #[q, .int .i64 z5.2] ∧ Own w0.heap.size 48 4 FamilyPay.cells wz q z5.1 ∧ ∀ b, q.ownBlock = some b → w2.heap.size ≤ b), (26, fun u wz => ∃ q : Value, u = .tuple #[q, .int .i64 z5.2] ∧ Own w0.heap.size 48 4 FamilyPay.cells wz q z5.1 ∧ ∀ b, q.ownBlock = some b → w2.heap.size ≤ b), (32, fun u wz => Own w0.heap.size 48 4 FamilyPay.cells wz u z5.1 ∧ ∀ b, u.ownBlock = some b → w2.heap.size ≤ b), val 33 (.int .i64 z5.2), (13, fun u wz => Own w0.heap.size 48 4 FamilyPay.cells wz u z5.1 ∧ ∀ b, u.ownBlock = some b → w2.heap.size ≤ b), val 14 (.int .i64 z5.2)] (by kernel_rfl) ⟨sV, sV, sV, sV, fun _ _ _ hE ⟨q, ht, hO, hf⟩ => ⟨q, ht, hO.exn hE, hf⟩, fun _ _ _ hE ⟨q, ht, hO, hf⟩ => ⟨q, ht, hO.exn hE, hf⟩, fun _ _ _ hE ⟨hO, hf⟩ => ⟨hO.exn hE, hf⟩, sV, fun _ _ _ hE ⟨hO, hf⟩ => ⟨hO.exn hE, hf⟩, sV, trivial⟩ ⟨fun ρz wz hE hA ⟨e9, _⟩ _ => core_val rfl rfl (o_move (e9.trans h9)),
 fun ρz wz hE hA ⟨e12, _⟩ _ => core_val rfl rfl (o_move (e12.trans h12)),
 fun ρz wz hE hA ⟨e10, _⟩ _ => core_val rfl rfl (o_move (e10.trans h10)),
 fun ρz wz hE hA ⟨e11, _⟩ _ => core_val rfl rfl (o_move (e11.trans h11)),
 fun ρz wz hE hA _ ⟨u0, u1, u2, u3, _⟩ => core_callR rfl (call_args4 u0 u1 u2 u3) cf_21 ((family_Payments_ok (Hg_0.exn (hA rfl)).no _ _ _ _ (Hf9.exn (hA rfl)).no (Hf10.exn (hA rfl)).no hz5).mono (fun e w1 ⟨v, he, hE1, q, hv, hO⟩ => ⟨v, he, hE1, q, hv, hO.base (Nat.le_trans hsz hE.size), fun b hb => Nat.le_trans hE.size (hO.lt hb).1⟩)),
 fun ρz wz hE hA _ ⟨⟨q4, ht4, hO4, hfr4⟩, _⟩ => core_copy rfl rfl (o_move rfl) ⟨q4, ht4, hO4, hfr4⟩,
 fun ρz wz hE hA _ ⟨⟨q5, ht5, hO5, hfr5⟩, _⟩ => core_copy rfl rfl (o_extract ht5 (by kernel_rfl)) ⟨hO5, hfr5⟩,
 fun ρz wz hE hA _ ⟨⟨q5, ht5, hO5, hfr5⟩, _⟩ => core_val rfl rfl (o_extract ht5 (by kernel_rfl)),
 fun ρz wz hE hA _ ⟨⟨hO6, hfr6⟩, _⟩ => core_copy rfl rfl (o_assign rfl) ⟨hO6, hfr6⟩,
 fun ρz wz hE hA _ ⟨u7, _⟩ => core_val rfl rfl (o_assign u7), trivial⟩ ?_
  intro ρ3 w3 hN hf hr
  obtain ⟨v13_, h13⟩ : ∃ v, ρ3 13 = v := ⟨_, rfl⟩
  have hq13 : (fun u wz => Own w0.heap.size 48 4 FamilyPay.cells wz u z5.1 ∧ ∀ b, u.ownBlock = some b → w2.heap.size ≤ b) (ρ3 13) w3 := hf 8 rfl
  rw [h13] at hq13
  obtain ⟨hq13, hfr13⟩ := hq13
  have h14 : ρ3 14 = .int .i64 z5.2 := hf 9 rfl
  obtain ⟨h9, h10, h11, h12⟩ := k4 hr h9 h10 h11 h12 rfl
  have Hg_0 := Hg_0.exn hN
  have Hf9 := Hf9.exn hN
  have Hf10 := Hf10.exn hN
  have hW := hW.trans hN
  have Hf13 : RepSl FamilyPay.R noG w3 v13_ z5.1 := hq13.rep (fun _ _ h => h)
  obtain ⟨_, _, hs_Hf13, _, _⟩ := RepSl.shape Hf13
  have hsz := hW.size
  refine WP.seq ?_
  obtain ⟨z6, hz6, hF⟩ := obind hF
  refine WP.rg mixed [[], [], [], [], [0, 1, 2, 3], [4], [5], [5], [6], [7]] [[], [], [], [], [0, 1, 2, 3], [4], [5], [5], [6], [7]] [[9], [12], [10], [11], [], [], [], [], [], []] [val 35 (v9_), val 36 (.int .i64 (i64 (z4 - 1))), val 37 (v10_), val 38 (.int .i64 z3), (39, fun u wz => ∃ q : Value, u = .tuple #[q, .int .i64 z6.2] ∧ Own w0.heap.size 48 4 FamilyPay.cells wz q z6.1 ∧ ∀ b, q.ownBlock = some b → w3.heap.size ≤ b), (34, fun u wz => ∃ q : Value, u = .tuple #[q, .int .i64 z6.2] ∧ Own w0.heap.size 48 4 FamilyPay.cells wz q z6.1 ∧ ∀ b, q.ownBlock = some b → w3.heap.size ≤ b), (40, fun u wz => Own w0.heap.size 48 4 FamilyPay.cells wz u z6.1 ∧ ∀ b, u.ownBlock = some b → w3.heap.size ≤ b), val 41 (.int .i64 z6.2), (15, fun u wz => Own w0.heap.size 48 4 FamilyPay.cells wz u z6.1 ∧ ∀ b, u.ownBlock = some b → w3.heap.size ≤ b), val 16 (.int .i64 z6.2)] (by kernel_rfl) ⟨sV, sV, sV, sV, fun _ _ _ hE ⟨q, ht, hO, hf⟩ => ⟨q, ht, hO.exn hE, hf⟩, fun _ _ _ hE ⟨q, ht, hO, hf⟩ => ⟨q, ht, hO.exn hE, hf⟩, fun _ _ _ hE ⟨hO, hf⟩ => ⟨hO.exn hE, hf⟩, sV, fun _ _ _ hE ⟨hO, hf⟩ => ⟨hO.exn hE, hf⟩, sV, trivial⟩ ⟨fun ρz wz hE hA ⟨e9, _⟩ _ => core_val rfl rfl (o_move (e9.trans h9)),
 fun ρz wz hE hA ⟨e12, _⟩ _ => core_val rfl rfl (o_move (e12.trans h12)),
 fun ρz wz hE hA ⟨e10, _⟩ _ => core_val rfl rfl (o_move (e10.trans h10)),
 fun ρz wz hE hA ⟨e11, _⟩ _ => core_val rfl rfl (o_move (e11.trans h11)),
 fun ρz wz hE hA _ ⟨u0, u1, u2, u3, _⟩ => core_callR rfl (call_args4 u0 u1 u2 u3) cf_22 ((pensionref21_Payments_ok  _ _ _ _ (Hf9.exn (hA rfl)).no (Hf10.exn (hA rfl)).no hz6).mono (fun e w1 ⟨v, he, hE1, q, hv, hO⟩ => ⟨v, he, hE1, q, hv, hO.base (Nat.le_trans hsz hE.size), fun b hb => Nat.le_trans hE.size (hO.lt hb).1⟩)),
 fun ρz wz hE hA _ ⟨⟨q4, ht4, hO4, hfr4⟩, _⟩ => core_copy rfl rfl (o_move rfl) ⟨q4, ht4, hO4, hfr4⟩,
 fun ρz wz hE hA _ ⟨⟨q5, ht5, hO5, hfr5⟩, _⟩ => core_copy rfl rfl (o_extract ht5 (by kernel_rfl)) ⟨hO5, hfr5⟩,
 fun ρz wz hE hA _ ⟨⟨q5, ht5, hO5, hfr5⟩, _⟩ => core_val rfl rfl (o_extract ht5 (by kernel_rfl)),
 fun ρz wz hE hA _ ⟨⟨hO6, hfr6⟩, _⟩ => core_copy rfl rfl (o_assign rfl) ⟨hO6, hfr6⟩,
 fun ρz wz hE hA _ ⟨u7, _⟩ => core_val rfl rfl (o_assign u7), trivial⟩ ?_
  intro ρ4 w4 hN hf hr
  obtain ⟨v15_, h15⟩ : ∃ v, ρ4 15 = v := ⟨_, rfl⟩
  have hq15 : (fun u wz => Own w0.heap.size 48 4 FamilyPay.cells wz u z6.1 ∧ ∀ b, u.ownBlock = some b → w3.heap.size ≤ b) (ρ4 15) w4 := hf 8 rfl
  rw [h15] at hq15
  obtain ⟨hq15, hfr15⟩ := hq15
  have h16 : ρ4 16 = .int .i64 z6.2 := hf 9 rfl
  obtain ⟨h13, h14⟩ := k2 hr h13 h14 rfl
  have Hg_0 := Hg_0.exn hN
  have Hf13 := Hf13.exn hN
  have hW := hW.trans hN
  have Hf15 : RepSl FamilyPay.R noG w4 v15_ z6.1 := hq15.rep (fun _ _ h => h)
  obtain ⟨_, _, hs_Hf15, _, _⟩ := RepSl.shape Hf15
  have hsz := hW.size
  refine WP.seq ?_
  obtain ⟨z7, hz7, hF⟩ := obind hF
  obtain ⟨c, hc, hF⟩ := obind hF
  obtain ⟨z8, hz8, hc⟩ := andB hc
  have hc := andE hc
  refine WP.rb mixed [[], [0], [1], [1], [1, 2, 3], [1, 4], [5], [6], [6], [6, 7, 8], [6, 9], [10]] [[], [], [14], [16], [], [], [], [13], [15], [], [], []] [(42, .bool z7), (43, .bool z7), (44, gv (z7) (.int .i64 z5.2)), (45, gv (z7) (.int .i64 z6.2)), (46, gv (z7) (.bool (z5.2 == z6.2))), (47, .bool (z7 && (z5.2 == z6.2))), (48, .bool (z7 && (z5.2 == z6.2))), (49, gv ((z7 && (z5.2 == z6.2))) v13_), (50, gv ((z7 && (z5.2 == z6.2))) v15_), (51, gv ((z7 && (z5.2 == z6.2))) (.bool z8)), (52, .bool c), (8, .bool c)] (by kernel_rfl) ⟨fun ρz wz hE hA _ _ => core_call rfl call_args0 cf_16 (pensionlaw24_awake_ok (Hg_0.exn (hA rfl)).no   hz7),
 fun ρz wz hE hA _ ⟨u0, _⟩ => core_val rfl rfl (o_move u0),
 fun ρz wz hE hA ⟨e14, _⟩ ⟨u1, _⟩ => gIf rfl rfl (yT rfl u1) fun gc F hF => core_val rfl hF (o_move (e14.trans h14)),
 fun ρz wz hE hA ⟨e16, _⟩ ⟨u1, _⟩ => gIf rfl rfl (yT rfl u1) fun gc F hF => core_val rfl hF (o_move (e16.trans h16)),
 fun ρz wz hE hA _ ⟨u1, u2, u3, _⟩ => gIf rfl rfl (yT rfl u1) fun gc F hF => core_val rfl hF (o_eql (gt gc u2) (gt gc u3) rfl),
 fun ρz wz hE hA _ ⟨u1, u4, _⟩ => core_val rfl rfl (o_pick_and u1 u4 rfl),
 fun ρz wz hE hA _ ⟨u5, _⟩ => core_val rfl rfl (o_move u5),
 fun ρz wz hE hA ⟨e13, _⟩ ⟨u6, _⟩ => gIf rfl rfl (yT rfl u6) fun gc F hF => core_val rfl hF (o_move (e13.trans h13)),
 fun ρz wz hE hA ⟨e15, _⟩ ⟨u6, _⟩ => gIf rfl rfl (yT rfl u6) fun gc F hF => core_val rfl hF (o_move (e15.trans h15)),
 fun ρz wz hE hA _ ⟨u6, u7, u8, _⟩ => gIf rfl rfl (yT rfl u6) fun gc F hF => core_call hF (call_args2 (gt gc u7) (gt gc u8)) cf_23 (pensionplain_Same_of_api_FamilyPay_ok  _ _ (Hf13.exn (hA rfl)).no (Hf15.exn (hA rfl)).no (hz8 gc)),
 fun ρz wz hE hA _ ⟨u6, u9, _⟩ => core_valE rfl rfl (congrArg Value.bool hc) (o_pick_and u6 u9 rfl),
 fun ρz wz hE hA _ ⟨u10, _⟩ => core_val rfl rfl (o_assign u10), trivial⟩ ?_
  intro ρ5 w5 hN hf hr
  have h8 : ρ5 8 = .bool c := hf 11 rfl
  have Hg_0 := Hg_0.exn hN
  have hW := hW.trans hN
  have hsz := hW.size
  refine WP.ret ?_
  show retQ Tryd.prog 53 Tryd.f7 (fun v w1 => v = .bool r ∧ Ext noG w0 w1) .ret ρ5 w5
  obtain rfl := Option.some.inj hF
  exact res1 rfl (by decide) h8 ⟨rfl, hW⟩

set_option maxHeartbeats 4000000 in
theorem pensionlaw24_FamilyPaysTheGreatest_ok {w0 : World} (Hg_0 : GR [Value.int .i64 1, Value.int .i64 1] noG w0 0) (d_ : List pensionlaw24_Raw) (i_ : Int) (p_ : Int) {v_d_ : Value} (H_d_ : RepSl pensionlaw24_Raw.R noG w0 v_d_ d_) {r : Bool} (hF : pensionlaw24_FamilyPaysTheGreatest d_ i_ p_ = some r) :
    Calls Tryd.prog 8 #[v_d_, .int .i64 i_, .int .i64 p_] w0 fun e w1 => e = .returned (.bool r) ∧ Ext noG w0 w1 := by
  refine (Calls.start (P := Tryd.prog) (args := [v_d_, .int .i64 i_, .int .i64 p_]) (R := fun v w1 => v = .bool r ∧ Ext noG w0 w1) (n := 86) (w := w0) Tryd.func8 rfl rfl (Nat.le_of_ble_eq_true rfl) (fun ρ hargs => ?_)).mono (fun e w1 ⟨v, he, hv, hE⟩ => ⟨hv ▸ he, hE⟩)
  have h0 := hargs 0 _ rfl
  have h1 := hargs 1 _ rfl
  have h2 := hargs 2 _ rfl
  have hW := Ext.refl noG w0
  have hsz := Nat.le_refl w0.heap.size
  obtain ⟨_, _, hs_H_d_, _, _⟩ := RepSl.shape H_d_
  have H_d_ := H_d_.start
  have Hg_0 := Hg_0.start
  rw [pensionlaw24_FamilyPaysTheGreatest] at hF
  refine WP.seq ?_
  refine WP.rb mixed [[]] [[]] [(6, .bool false)] (by kernel_rfl) ⟨fun ρz wz hE hA _ _ => core_val rfl rfl (o_assign rfl), trivial⟩ ?_
  intro ρ1 w1 hN hf hr
  obtain ⟨h0, h1, h2⟩ := k3 hr h0 h1 h2 rfl
  have H_d_ := H_d_.exn hN
  have Hg_0 := Hg_0.exn hN
  have hW := hW.trans hN
  have hsz := hW.size
  refine WP.seq ?_
  obtain ⟨z, hz, hF⟩ := obind hF
  refine WP.rg mixed [[], [0], [1]] [[], [0], [1]] [[0], [], []] [val 14 (v_d_), (15, fun u wz => Own w0.heap.size 43 4 Right.cells wz u z ∧ ∀ b, u.ownBlock = some b → w1.heap.size ≤ b), (7, fun u wz => Own w0.heap.size 43 4 Right.cells wz u z ∧ ∀ b, u.ownBlock = some b → w1.heap.size ≤ b)] (by kernel_rfl) ⟨sV, fun _ _ _ hE ⟨hO, hf⟩ => ⟨hO.exn hE, hf⟩, fun _ _ _ hE ⟨hO, hf⟩ => ⟨hO.exn hE, hf⟩, trivial⟩ ⟨fun ρz wz hE hA ⟨e0, _⟩ _ => core_val rfl rfl (o_move (e0.trans h0)),
 fun ρz wz hE hA _ ⟨u0, _⟩ => core_callR rfl (call_args1 u0) cf_11 ((pensionlaw24_List_ok  _ (H_d_.exn (hA rfl)).no hz).mono (fun e w1 ⟨v, he, hE1, hO⟩ => ⟨v, he, hE1, hO.base (Nat.le_trans hsz hE.size), fun b hb => Nat.le_trans hE.size (hO.lt hb).1⟩)),
 fun ρz wz hE hA _ ⟨⟨hO1, hfr1⟩, _⟩ => core_copy rfl rfl (o_assign rfl) ⟨hO1, hfr1⟩, trivial⟩ ?_
  intro ρ2 w2 hN hf hr
  obtain ⟨v7_, h7⟩ : ∃ v, ρ2 7 = v := ⟨_, rfl⟩
  have hq7 : (fun u wz => Own w0.heap.size 43 4 Right.cells wz u z ∧ ∀ b, u.ownBlock = some b → w1.heap.size ≤ b) (ρ2 7) w2 := hf 2 rfl
  rw [h7] at hq7
  obtain ⟨hq7, hfr7⟩ := hq7
  obtain ⟨h1, h2⟩ := k2 hr h1 h2 rfl
  have Hg_0 := Hg_0.exn hN
  have hW := hW.trans hN
  have O7 := hq7
  have hsz := hW.size
  refine WP.seq ?_
  refine WP.rb mixed [[]] [[]] [(8, .int .i64 0)] (by kernel_rfl) ⟨fun ρz wz hE hA _ _ => core_val rfl rfl (o_assign rfl), trivial⟩ ?_
  intro ρ3 w3 hN hf hr
  have h8 : ρ3 8 = .int .i64 0 := hf 0 rfl
  obtain ⟨h1, h2, h7⟩ := k3 hr h1 h2 h7 rfl
  have Oo_O7 := O7
  have Hg_0 := Hg_0.exn hN
  have hW := hW.trans hN
  have O7 := O7.exn hN
  have hsz := hW.size
  refine WP.seq ?_
  refine WP.seq ?_
  refine WP.rb mixed [[]] [[]] [(9, .int .i64 0)] (by kernel_rfl) ⟨fun ρz wz hE hA _ _ => core_val rfl rfl (o_assign rfl), trivial⟩ ?_
  intro ρ4 w4 hN hf hr
  have h9 : ρ4 9 = .int .i64 0 := hf 0 rfl
  obtain ⟨h1, h2, h7, h8⟩ := k4 hr h1 h2 h7 h8 rfl
  have Oo_O7 := O7
  have Hg_0 := Hg_0.exn hN
  have hW := hW.trans hN
  have O7 := O7.exn hN
  have hsz := hW.size
  refine WP.block ?_
  refine WP.loop (fun k_ ρ w => ∃ x : Int, ∃ x2 : Int, ∃ _l : List Right, ρ 1 = .int .i64 i_ ∧ ρ 2 = .int .i64 p_ ∧ ρ 7 = v7_ ∧ ρ 8 = .int .i64 x ∧ ρ 9 = .int .i64 x2 ∧ GR [Value.int .i64 1, Value.int .i64 1] (gfr noG w0) w 0 ∧ Own w0.heap.size 43 4 Right.cells w v7_ _l ∧ Ext noG w0 w ∧ w0.heap.size ≤ w.heap.size ∧ loopC k_ (pensionlaw24_FamilyPaysTheGreatest_l i_ p_) (x, x2, _l) = some r) FU ⟨0, 0, z, h1, h2, h7, h8, h9, Hg_0, O7, hW, hsz, hF⟩ (fun _ _ h => by obtain ⟨_, _, _, _, _, _, _, _, _, _, _, _, h⟩ := h; cases h) ?_
  rintro k_ ρ5 w5 ⟨x, x2, _l, h1, h2, h7, h8, h9, Hg_0, O7, hW, hsz, hF⟩
  have hF : pensionlaw24_FamilyPaysTheGreatest_l i_ p_ (loopC k_ (pensionlaw24_FamilyPaysTheGreatest_l i_ p_)) (x, x2, _l) = some r := hF
  generalize hrec_ : loopC k_ (pensionlaw24_FamilyPaysTheGreatest_l i_ p_) = rec_ at hF
  rw [pensionlaw24_FamilyPaysTheGreatest_l] at hF
  refine WP.seq ?_
  refine WP.seq ?_
  refine WP.rb mixed [[], [], [1], [0, 2]] [[9], [7], [], []] [(16, .int .i64 x2), (17, v7_), (18, .int .i64 (_l.length : Int)), (19, .bool (decide (x2 < (_l.length : Int))))] (by kernel_rfl) ⟨fun ρz wz hE hA ⟨e9, _⟩ _ => core_val rfl rfl (o_move (e9.trans h9)),
 fun ρz wz hE hA ⟨e7, _⟩ _ => core_val rfl rfl (o_move (e7.trans h7)),
 fun ρz wz hE hA _ ⟨u1, _⟩ => core_val rfl rfl (o_len (u1.trans (Own.shape O7).choose_spec.choose_spec.1) len_24),
 fun ρz wz hE hA _ ⟨u0, u2, _⟩ => core_val rfl rfl (o_lss u0 u2 rfl), trivial⟩ ?_
  intro ρ6 w6 hN hf hr
  have h19 : ρ6 19 = .bool (decide (x2 < (_l.length : Int))) := hf 3 rfl
  obtain ⟨h1, h2, h7, h8, h9⟩ := k5 hr h1 h2 h7 h8 h9 rfl
  have Oo_O7 := O7
  have Hg_0 := Hg_0.exn hN
  have hW := hW.trans hN
  have O7 := O7.exn hN
  have hsz := hW.size
  refine WP.cond rfl h19 (fun hb => ?_) (fun hb => ?_)
  · have hF := (if_pos hb).symm.trans hF
    refine WP.skip ?_
    refine WP.seq ?_
    refine WP.block ?_
    refine WP.seq ?_
    obtain ⟨z2, hz2, hF⟩ := obind hF
    obtain ⟨y, hy, hF⟩ := obind hF
    obtain ⟨ay, cy, hvy, hiy, hAy⟩ := RepSl.getF (Own.rep (hn := fun _ => rfl) (G := noG) O7 (fun _ _ h => h)) hy
    refine WP.region mixed [[], [], [], [2], [3], [0, 1], [5], [3, 4, 6]] [[], [], [], [2], [3], [0, 1], [5], [4, 6]] [[7], [9], [2], [], [], [], [], []] [7] [] [val 22 (v7_), val 23 (.int .i64 x2), val 24 (.int .i64 p_), val 25 (.int .i64 z2), val 26 (.int .i64 (i64 (1 + z2))), val 27 (.pointer (some (ay.add (Int.toNat x2 * 4)))), val 28 (.pointer (some ((ay.add (Int.toNat x2 * 4)).add 2))), (28, fun _ wz => Own w0.heap.size 43 4 Right.cells wz v7_ (setI _l x2 ({ y with Currency := i64 (1 + z2) } : Right)))] (fun b => Value.ownBlock v7_ = some b) (by kernel_rfl) ⟨sV, sV, sV, sV, sV, sV, sV, fun _ _ _ hE h => h.exn hE, trivial⟩ ⟨fun ρz wz hE hA ⟨e7, _⟩ _ => core_val rfl rfl (o_move (e7.trans h7)),
 fun ρz wz hE hA ⟨e9, _⟩ _ => core_val rfl rfl (o_move (e9.trans h9)),
 fun ρz wz hE hA ⟨e2, _⟩ _ => core_val rfl rfl (o_move (e2.trans h2)),
 fun ρz wz hE hA _ ⟨u2, _⟩ => core_call rfl (call_args2 u2 rfl) cf_13 (pensionplain_Mod_ok  _ _  hz2),
 fun ρz wz hE hA _ ⟨u3, _⟩ => core_val rfl rfl (o_add rfl u3 rfl),
 fun ρz wz hE hA _ ⟨u0, u1, _⟩ => core_val rfl rfl (o_indexAddr (u0.trans hvy) u1 (ia_24 hiy)),
 fun ρz wz hE hA _ ⟨u5, _⟩ => core_val rfl rfl (o_fieldAddr u5 (fa_43_2 _ _)),
 fun ρz wz hE hA _ ⟨u4, u6, _⟩ => core_storeOwn (n := 4) (off := 2) (cells := Right.cells) (y1 := ({ y with Currency := i64 (1 + z2) } : Right)) (vs := [Value.int .i64 (i64 (1 + z2))]) rfl rfl (fun _ h => h) (fun _ => rfl) u6 hvy (Deep.add_add _ _ _) u4 (O7.exn (hA rfl)) hy (fun a w => st_3 _ a w) (Nat.le_of_ble_eq_true rfl) rfl (one_3 _), trivial⟩ ?_
    intro ρ7 w7 hE hN hf hr
    obtain ⟨h1, h2, h7, h8, h9⟩ := k5 hr h1 h2 h7 h8 h9 rfl
    have Oo_O7 := O7
    have Hg_0 := Hg_0.over hE (fun b hb => (O7.lt hb).1)
    have hW := Ext.own hW hE (fun b hb => (O7.lt hb).1)
    have O7 := hf 7 rfl
    have hsz := hW.size
    obtain ⟨y2, hy2, hF⟩ := obind hF
    obtain ⟨ay2, cy2, hvy2, hiy2, hAy2⟩ := RepSl.getF (Own.rep (hn := fun _ => rfl) (G := noG) O7 (fun _ _ h => h)) hy2
    refine WP.rv mixed [[], [], [], [1, 2], [3], [4], [0, 5], [0, 6]] [[], [], [], [1, 2], [3], [4], [0, 5], [6]] [[8], [7], [9], [], [], [], [], []] [(29, .int .i64 x), (30, v7_), (31, .int .i64 x2), (32, .pointer (some (ay2.add (Int.toNat x2 * 4)))), (33, .pointer (some ((ay2.add (Int.toNat x2 * 4)).add 3))), (34, .int .i64 y2.Amount), (35, .int .i64 (max x y2.Amount)), (8, .int .i64 (max x y2.Amount))] (by kernel_rfl) ⟨fun ρz wz hE hA ⟨e8, _⟩ _ => core_val rfl rfl (o_move (e8.trans h8)),
 fun ρz wz hE hA ⟨e7, _⟩ _ => core_val rfl rfl (o_move (e7.trans h7)),
 fun ρz wz hE hA ⟨e9, _⟩ _ => core_val rfl rfl (o_move (e9.trans h9)),
 fun ρz wz hE hA _ ⟨u1, u2, _⟩ => core_val rfl rfl (o_indexAddr (u1.trans hvy2) u2 (ia_24 hiy2)),
 fun ρz wz hE hA _ ⟨u3, _⟩ => core_val rfl rfl (o_fieldAddr u3 (fa_43_3 _ _)),
 fun ρz wz hE hA _ ⟨u4, _⟩ => core_val rfl rfl (o_load u4 (run_load1 (lr_3 _ _) (CA.sub ((hAy2.exn (hA rfl)).ca) 3 1))),
 fun ρz wz hE hA _ ⟨u0, u5, _⟩ => core_val rfl rfl (o_max2 u0 u5),
 fun ρz wz hE hA _ ⟨u6, _⟩ => core_val rfl rfl (o_assign u6), trivial⟩ ?_
    intro ρ8 w8 hN hf hr
    have h8 : ρ8 8 = .int .i64 (max x y2.Amount) := hf 7 rfl
    obtain ⟨h1, h2, h7, h9⟩ := k4 hr h1 h2 h7 h9 rfl
    have Oo_O7 := O7
    have Hg_0 := Hg_0.exn hN
    have hW := hW.trans hN
    have O7 := O7.exn hN
    have hsz := hW.size
    refine WP.rv mixed [[], [0], [0, 1]] [[], [0], [1]] [[9], [], []] [(20, .int .i64 x2), (21, .int .i64 (i64 (x2 + 1))), (9, .int .i64 (i64 (x2 + 1)))] (by kernel_rfl) ⟨fun ρz wz hE hA ⟨e9, _⟩ _ => core_val rfl rfl (o_move (e9.trans h9)),
 fun ρz wz hE hA _ ⟨u0, _⟩ => core_val rfl rfl (o_add u0 rfl rfl),
 fun ρz wz hE hA _ ⟨u1, _⟩ => core_val rfl rfl (o_assign u1), trivial⟩ ?_
    intro ρ9 w9 hN hf hr
    have h9 : ρ9 9 = .int .i64 (i64 (x2 + 1)) := hf 2 rfl
    obtain ⟨h1, h2, h7, h8⟩ := k4 hr h1 h2 h7 h8 rfl
    have Oo_O7 := O7
    have Hg_0 := Hg_0.exn hN
    have hW := hW.trans hN
    have O7 := O7.exn hN
    have hsz := hW.size
    exact ⟨max x y2.Amount, i64 (x2 + 1), setI _l x2 ({ y with Currency := i64 (1 + z2) } : Right), h1, h2, h7, h8, h9, Hg_0, O7, hW, hsz, (by first | exact hF | (rw [hrec_]; exact hF))⟩
  have hF := (if_neg (Bool.eq_false_iff.1 hb)).symm.trans hF
  refine WP.exit ?_
  refine thenQ_exit ?_
  refine thenQ_exit ?_
  refine blockQ_hit ?_
  refine WP.seq ?_
  obtain ⟨z3, hz3, hF⟩ := obind hF
  obtain ⟨z4, hz4, hF⟩ := obind hF
  refine WP.rg mixed [[], [], [1], [0, 2], [3], [4], [4], [5], [6]] [[], [], [1], [0, 2], [3], [4], [4], [5], [6]] [[7], [1], [], [], [], [], [], [], []] [val 37 (v7_), val 38 (.int .i64 i_), val 39 (.int .i64 z3), (40, fun u wz => ∃ q : Value, u = .tuple #[q, .int .i64 z4.2] ∧ Own w0.heap.size 48 4 FamilyPay.cells wz q z4.1 ∧ ∀ b, q.ownBlock = some b → w6.heap.size ≤ b), (36, fun u wz => ∃ q : Value, u = .tuple #[q, .int .i64 z4.2] ∧ Own w0.heap.size 48 4 FamilyPay.cells wz q z4.1 ∧ ∀ b, q.ownBlock = some b → w6.heap.size ≤ b), (41, fun u wz => Own w0.heap.size 48 4 FamilyPay.cells wz u z4.1 ∧ ∀ b, u.ownBlock = some b → w6.heap.size ≤ b), val 42 (.int .i64 z4.2), (10, fun u wz => Own w0.heap.size 48 4 FamilyPay.cells wz u z4.1 ∧ ∀ b, u.ownBlock = some b → w6.heap.size ≤ b), val 11 (.int .i64 z4.2)] (by kernel_rfl) ⟨sV, sV, sV, fun _ _ _ hE ⟨q, ht, hO, hf⟩ => ⟨q, ht, hO.exn hE, hf⟩, fun _ _ _ hE ⟨q, ht, hO, hf⟩ => ⟨q, ht, hO.exn hE, hf⟩, fun _ _ _ hE ⟨hO, hf⟩ => ⟨hO.exn hE, hf⟩, sV, fun _ _ _ hE ⟨hO, hf⟩ => ⟨hO.exn hE, hf⟩, sV, trivial⟩ ⟨fun ρz wz hE hA ⟨e7, _⟩ _ => core_val rfl rfl (o_move (e7.trans h7)),
 fun ρz wz hE hA ⟨e1, _⟩ _ => core_val rfl rfl (o_move (e1.trans h1)),
 fun ρz wz hE hA _ ⟨u1, _⟩ => core_call rfl (call_args2 u1 rfl) cf_13 (pensionplain_Mod_ok  _ _  hz3),
 fun ρz wz hE hA _ ⟨u0, u2, _⟩ => core_callR rfl (call_args4 u0 u2 rfl rfl) cf_21 ((family_Payments_ok (Hg_0.exn (hA rfl)).no _ _ _ _ ((O7.exn (hA rfl)).rep (hn := fun _ => rfl) (G := noG) (fun _ _ h => h)).no (RepSl.nil _ noG _).no hz4).mono (fun e w1 ⟨v, he, hE1, q, hv, hO⟩ => ⟨v, he, hE1, q, hv, hO.base (Nat.le_trans hsz hE.size), fun b hb => Nat.le_trans hE.size (hO.lt hb).1⟩)),
 fun ρz wz hE hA _ ⟨⟨q3, ht3, hO3, hfr3⟩, _⟩ => core_copy rfl rfl (o_move rfl) ⟨q3, ht3, hO3, hfr3⟩,
 fun ρz wz hE hA _ ⟨⟨q4, ht4, hO4, hfr4⟩, _⟩ => core_copy rfl rfl (o_extract ht4 (by kernel_rfl)) ⟨hO4, hfr4⟩,
 fun ρz wz hE hA _ ⟨⟨q4, ht4, hO4, hfr4⟩, _⟩ => core_val rfl rfl (o_extract ht4 (by kernel_rfl)),
 fun ρz wz hE hA _ ⟨⟨hO5, hfr5⟩, _⟩ => core_copy rfl rfl (o_assign rfl) ⟨hO5, hfr5⟩,
 fun ρz wz hE hA _ ⟨u6, _⟩ => core_val rfl rfl (o_assign u6), trivial⟩ ?_
  intro ρ10 w10 hN hf hr
  obtain ⟨v10_, h10⟩ : ∃ v, ρ10 10 = v := ⟨_, rfl⟩
  have hq10 : (fun u wz => Own w0.heap.size 48 4 FamilyPay.cells wz u z4.1 ∧ ∀ b, u.ownBlock = some b → w6.heap.size ≤ b) (ρ10 10) w10 := hf 7 rfl
  rw [h10] at hq10
  obtain ⟨hq10, hfr10⟩ := hq10
  have h11 : ρ10 11 = .int .i64 z4.2 := hf 8 rfl
  obtain ⟨h7, h8⟩ := k2 hr h7 h8 rfl
  have Oo_O7 := O7
  have Hg_0 := Hg_0.exn hN
  have hW := hW.trans hN
  have O7 := O7.exn hN
  have Hf10 : RepSl FamilyPay.R (gov noG v7_) w10 v10_ z4.1 := hq10.rep (fun b hb hg => hg.elim id (fun h2 => absurd (Oo_O7.lt h2).2 (by have := hfr10 b hb; have := hN.size; omega)))
  obtain ⟨_, _, hs_Hf10, _, _⟩ := RepSl.shape Hf10
  have hsz := hW.size
  refine WP.seq ?_
  refine WP.seq ?_
  obtain ⟨z5, hz5, hF⟩ := obind hF
  refine WP.rb mixed [[], [0], [1], [2], [2, 3], [2, 4], [5], [6], [6, 7], [6], [6, 9], [6, 8, 10], [6, 11]] [[], [], [], [11], [], [], [], [10], [], [7], [], [], []] [(43, .bool z5), (44, .bool (!z5)), (45, .bool (!z5)), (46, gv (!(!z5)) (.int .i64 z4.2)), (47, gv (!(!z5)) (.bool (z4.2 != 0))), (48, .bool ((!z5) || (z4.2 != 0))), (49, .bool ((!z5) || (z4.2 != 0))), (50, gv (!((!z5) || (z4.2 != 0))) v10_), (51, gv (!((!z5) || (z4.2 != 0))) (.int .i64 (z4.1.length : Int))), (52, gv (!((!z5) || (z4.2 != 0))) v7_), (53, gv (!((!z5) || (z4.2 != 0))) (.int .i64 (_l.length : Int))), (54, gv (!((!z5) || (z4.2 != 0))) (.bool ((z4.1.length : Int) != (_l.length : Int)))), (55, .bool (((!z5) || (z4.2 != 0)) || ((z4.1.length : Int) != (_l.length : Int))))] (by kernel_rfl) ⟨fun ρz wz hE hA _ _ => core_call rfl call_args0 cf_16 (pensionlaw24_awake_ok (Hg_0.exn (hA rfl)).no   hz5),
 fun ρz wz hE hA _ ⟨u0, _⟩ => core_val rfl rfl (o_not u0 rfl),
 fun ρz wz hE hA _ ⟨u1, _⟩ => core_val rfl rfl (o_move u1),
 fun ρz wz hE hA ⟨e11, _⟩ ⟨u2, _⟩ => gIf rfl rfl (yF rfl u2) fun gc F hF => core_val rfl hF (o_move (e11.trans h11)),
 fun ρz wz hE hA _ ⟨u2, u3, _⟩ => gIf rfl rfl (yF rfl u2) fun gc F hF => core_val rfl hF (o_neq (gt gc u3) rfl rfl),
 fun ρz wz hE hA _ ⟨u2, u4, _⟩ => core_val rfl rfl (o_pick_or u2 rfl u4),
 fun ρz wz hE hA _ ⟨u5, _⟩ => core_val rfl rfl (o_move u5),
 fun ρz wz hE hA ⟨e10, _⟩ ⟨u6, _⟩ => gIf rfl rfl (yF rfl u6) fun gc F hF => core_val rfl hF (o_move (e10.trans h10)),
 fun ρz wz hE hA _ ⟨u6, u7, _⟩ => gIf rfl rfl (yF rfl u6) fun gc F hF => core_val rfl hF (o_len ((gt gc u7).trans hs_Hf10) len_38),
 fun ρz wz hE hA ⟨e7, _⟩ ⟨u6, _⟩ => gIf rfl rfl (yF rfl u6) fun gc F hF => core_val rfl hF (o_move (e7.trans h7)),
 fun ρz wz hE hA _ ⟨u6, u9, _⟩ => gIf rfl rfl (yF rfl u6) fun gc F hF => core_val rfl hF (o_len ((gt gc u9).trans (Own.shape O7).choose_spec.choose_spec.1) len_24),
 fun ρz wz hE hA _ ⟨u6, u8, u10, _⟩ => gIf rfl rfl (yF rfl u6) fun gc F hF => core_val rfl hF (o_neq (gt gc u8) (gt gc u10) rfl),
 fun ρz wz hE hA _ ⟨u6, u11, _⟩ => core_val rfl rfl (o_pick_or u6 rfl u11), trivial⟩ ?_
  intro ρ11 w11 hN hf hr
  have h55 : ρ11 55 = .bool (((!z5) || (z4.2 != 0)) || ((z4.1.length : Int) != (_l.length : Int))) := hf 12 rfl
  obtain ⟨h8, h10⟩ := k2 hr h8 h10 rfl
  have Oo_O7 := O7
  have Hg_0 := Hg_0.exn hN
  have Hf10_at0 := Hf10
  have Hf10 := Hf10.exn hN
  have Hf10 : RepSl FamilyPay.R (gov noG (.slice none 0 0)) w11 v10_ z4.1 := Hf10.weaken (fun b _ hb => hb.elim (fun h => h.elim) (fun h => by simp [Value.ownBlock] at h))
  have hW := hW.trans hN
  have hsz := hW.size
  refine WP.cond rfl h55 (fun hb => ?_) (fun hb => ?_)
  · have hF := (if_pos hb).symm.trans hF
    refine WP.seq ?_
    refine WP.rb mixed [[]] [[]] [(6, .bool false)] (by kernel_rfl) ⟨fun ρz wz hE hA _ _ => core_val rfl rfl (o_assign rfl), trivial⟩ ?_
    intro ρ12 w12 hN hf hr
    have h6 : ρ12 6 = .bool false := hf 0 rfl
    have Hg_0 := Hg_0.exn hN
    have hW := hW.trans hN
    have hsz := hW.size
    refine WP.ret ?_
    show retQ Tryd.prog 86 Tryd.f8 (fun v w1 => v = .bool r ∧ Ext noG w0 w1) .ret ρ12 w12
    obtain rfl := Option.some.inj hF
    exact res1 rfl (by decide) h6 ⟨rfl, hW⟩
  have hF := (if_neg (Bool.eq_false_iff.1 hb)).symm.trans hF
  refine WP.skip ?_
  refine WP.seq ?_
  refine WP.rb mixed [[]] [[]] [(12, .int .i64 0)] (by kernel_rfl) ⟨fun ρz wz hE hA _ _ => core_val rfl rfl (o_assign rfl), trivial⟩ ?_
  intro ρ13 w13 hN hf hr
  have h12 : ρ13 12 = .int .i64 0 := hf 0 rfl
  obtain ⟨h8, h10⟩ := k2 hr h8 h10 rfl
  have Hg_0 := Hg_0.exn hN
  have Hf10 := Hf10.exn hN
  have hW := hW.trans hN
  have hsz := hW.size
  refine WP.seq ?_
  refine WP.seq ?_
  refine WP.rb mixed [[]] [[]] [(13, .int .i64 0)] (by kernel_rfl) ⟨fun ρz wz hE hA _ _ => core_val rfl rfl (o_assign rfl), trivial⟩ ?_
  intro ρ14 w14 hN hf hr
  have h13 : ρ14 13 = .int .i64 0 := hf 0 rfl
  obtain ⟨h8, h10, h12⟩ := k3 hr h8 h10 h12 rfl
  have Hg_0 := Hg_0.exn hN
  have Hf10 := Hf10.exn hN
  have hW := hW.trans hN
  have hsz := hW.size
  refine WP.block ?_
  refine WP.loop (fun k_2 ρ w => ∃ x3 : Int, ∃ x4 : Int, ρ 8 = .int .i64 x ∧ ρ 10 = v10_ ∧ ρ 12 = .int .i64 x3 ∧ ρ 13 = .int .i64 x4 ∧ GR [Value.int .i64 1, Value.int .i64 1] (gfr noG w0) w 0 ∧ RepSl FamilyPay.R (gov noG (.slice none 0 0)) w v10_ z4.1 ∧ Ext noG w0 w ∧ w0.heap.size ≤ w.heap.size ∧ loopC k_2 (pensionlaw24_FamilyPaysTheGreatest_l2 x z4) (x3, x4) = some r) FU ⟨0, 0, h8, h10, h12, h13, Hg_0, Hf10, hW, hsz, hF⟩ (fun _ _ h => by obtain ⟨_, _, _, _, _, _, _, _, _, _, h⟩ := h; cases h) ?_
  rintro k_2 ρ15 w15 ⟨x3, x4, h8, h10, h12, h13, Hg_0, Hf10, hW, hsz, hF⟩
  have hF : pensionlaw24_FamilyPaysTheGreatest_l2 x z4 (loopC k_2 (pensionlaw24_FamilyPaysTheGreatest_l2 x z4)) (x3, x4) = some r := hF
  generalize hrec_2 : loopC k_2 (pensionlaw24_FamilyPaysTheGreatest_l2 x z4) = rec_2 at hF
  rw [pensionlaw24_FamilyPaysTheGreatest_l2] at hF
  refine WP.seq ?_
  refine WP.seq ?_
  refine WP.rb mixed [[], [], [1], [0, 2]] [[13], [10], [], []] [(56, .int .i64 x4), (57, v10_), (58, .int .i64 (z4.1.length : Int)), (59, .bool (decide (x4 < (z4.1.length : Int))))] (by kernel_rfl) ⟨fun ρz wz hE hA ⟨e13, _⟩ _ => core_val rfl rfl (o_move (e13.trans h13)),
 fun ρz wz hE hA ⟨e10, _⟩ _ => core_val rfl rfl (o_move (e10.trans h10)),
 fun ρz wz hE hA _ ⟨u1, _⟩ => core_val rfl rfl (o_len (u1.trans hs_Hf10) len_38),
 fun ρz wz hE hA _ ⟨u0, u2, _⟩ => core_val rfl rfl (o_lss u0 u2 rfl), trivial⟩ ?_
  intro ρ16 w16 hN hf hr
  have h59 : ρ16 59 = .bool (decide (x4 < (z4.1.length : Int))) := hf 3 rfl
  obtain ⟨h8, h10, h12, h13⟩ := k4 hr h8 h10 h12 h13 rfl
  have Hg_0 := Hg_0.exn hN
  have Hf10 := Hf10.exn hN
  have hW := hW.trans hN
  have hsz := hW.size
  refine WP.cond rfl h59 (fun hb => ?_) (fun hb => ?_)
  · have hF := (if_pos hb).symm.trans hF
    refine WP.skip ?_
    refine WP.seq ?_
    refine WP.block ?_
    refine WP.seq ?_
    refine WP.seq ?_
    obtain ⟨y3, hy3, hF⟩ := obind hF
    obtain ⟨ay3, cy3, hvy3, hiy3, hAy3⟩ := RepSl.getF Hf10 hy3
    obtain ⟨c, hc, hF⟩ := obind hF
    obtain ⟨y4, hy4, hc⟩ := orB hc
    obtain ⟨ay4, cy4, hvy4, hiy4, hAy4⟩ := RepSl.getFI Hf10 hy4
    have hc := orE hc
    refine WP.rb mixed [[], [], [0, 1], [2], [3], [4], [5], [6], [6], [6, 7, 8], [6, 9], [6, 10], [6, 11], [6, 12]] [[10], [13], [], [], [], [], [], [10], [13], [], [], [], [], []] [(62, v10_), (63, .int .i64 x4), (64, .pointer (some (ay3.add (Int.toNat x4 * 4)))), (65, .pointer (some ((ay3.add (Int.toNat x4 * 4)).add 2))), (66, .int .i64 y3.Amount), (67, .bool (decide (y3.Amount < 0))), (68, .bool (decide (y3.Amount < 0))), (69, gv (!(decide (y3.Amount < 0))) v10_), (70, gv (!(decide (y3.Amount < 0))) (.int .i64 x4)), (71, gv (!(decide (y3.Amount < 0))) (.pointer (some (ay4.add (Int.toNat x4 * 4))))), (72, gv (!(decide (y3.Amount < 0))) (.pointer (some ((ay4.add (Int.toNat x4 * 4)).add 2)))), (73, gv (!(decide (y3.Amount < 0))) (.int .i64 y4.Amount)), (74, gv (!(decide (y3.Amount < 0))) (.bool (decide (1000000000000 < y4.Amount)))), (75, .bool c)] (by kernel_rfl) ⟨fun ρz wz hE hA ⟨e10, _⟩ _ => core_val rfl rfl (o_move (e10.trans h10)),
 fun ρz wz hE hA ⟨e13, _⟩ _ => core_val rfl rfl (o_move (e13.trans h13)),
 fun ρz wz hE hA _ ⟨u0, u1, _⟩ => core_val rfl rfl (o_indexAddr (u0.trans hvy3) u1 (ia_38 hiy3)),
 fun ρz wz hE hA _ ⟨u2, _⟩ => core_val rfl rfl (o_fieldAddr u2 (fa_48_2 _ _)),
 fun ρz wz hE hA _ ⟨u3, _⟩ => core_val rfl rfl (o_load u3 (run_load1 (lr_3 _ _) (CA.sub ((hAy3.exn (hA rfl)).ca) 2 1))),
 fun ρz wz hE hA _ ⟨u4, _⟩ => core_val rfl rfl (o_lss u4 rfl rfl),
 fun ρz wz hE hA _ ⟨u5, _⟩ => core_val rfl rfl (o_move u5),
 fun ρz wz hE hA ⟨e10, _⟩ ⟨u6, _⟩ => gIf rfl rfl (yF rfl u6) fun gc F hF => core_val rfl hF (o_move (e10.trans h10)),
 fun ρz wz hE hA ⟨e13, _⟩ ⟨u6, _⟩ => gIf rfl rfl (yF rfl u6) fun gc F hF => core_val rfl hF (o_move (e13.trans h13)),
 fun ρz wz hE hA _ ⟨u6, u7, u8, _⟩ => gIf rfl rfl (yF rfl u6) fun gc F hF => core_val rfl hF (o_indexAddr ((gt gc u7).trans (hvy4 gc)) (gt gc u8) (ia_38 (hiy4 gc))),
 fun ρz wz hE hA _ ⟨u6, u9, _⟩ => gIf rfl rfl (yF rfl u6) fun gc F hF => core_val rfl hF (o_fieldAddr (gt gc u9) (fa_48_2 _ _)),
 fun ρz wz hE hA _ ⟨u6, u10, _⟩ => gIf rfl rfl (yF rfl u6) fun gc F hF => core_val rfl hF (o_load (gt gc u10) (run_load1 (lr_3 _ _) (CA.sub (((hAy4 gc).exn (hA rfl)).ca) 2 1))),
 fun ρz wz hE hA _ ⟨u6, u11, _⟩ => gIf rfl rfl (yF rfl u6) fun gc F hF => core_val rfl hF (o_gtr (gt gc u11) rfl rfl),
 fun ρz wz hE hA _ ⟨u6, u12, _⟩ => core_valE rfl rfl (congrArg Value.bool hc) (o_pick_or u6 rfl u12), trivial⟩ ?_
    intro ρ17 w17 hN hf hr
    have h75 : ρ17 75 = .bool c := hf 13 rfl
    obtain ⟨h8, h10, h12, h13⟩ := k4 hr h8 h10 h12 h13 rfl
    have Hg_0 := Hg_0.exn hN
    have Hf10 := Hf10.exn hN
    have hW := hW.trans hN
    have hsz := hW.size
    refine WP.cond rfl h75 (fun hb => ?_) (fun hb => ?_)
    · have hF := (if_pos hb).symm.trans hF
      refine WP.seq ?_
      refine WP.rb mixed [[]] [[]] [(6, .bool false)] (by kernel_rfl) ⟨fun ρz wz hE hA _ _ => core_val rfl rfl (o_assign rfl), trivial⟩ ?_
      intro ρ18 w18 hN hf hr
      have h6 : ρ18 6 = .bool false := hf 0 rfl
      have Hg_0 := Hg_0.exn hN
      have hW := hW.trans hN
      have hsz := hW.size
      refine WP.ret ?_
      show retQ Tryd.prog 86 Tryd.f8 (fun v w1 => v = .bool r ∧ Ext noG w0 w1) .ret ρ18 w18
      obtain rfl := Option.some.inj hF
      exact res1 rfl (by decide) h6 ⟨rfl, hW⟩
    have hF := (if_neg (Bool.eq_false_iff.1 hb)).symm.trans hF
    refine WP.skip ?_
    obtain ⟨y5, hy5, hF⟩ := obind hF
    obtain ⟨ay5, cy5, hvy5, hiy5, hAy5⟩ := RepSl.getF Hf10 hy5
    refine WP.rv mixed [[], [], [], [1, 2], [3], [4], [0, 5], [0, 6]] [[], [], [], [1, 2], [3], [4], [0, 5], [6]] [[12], [10], [13], [], [], [], [], []] [(76, .int .i64 x3), (77, v10_), (78, .int .i64 x4), (79, .pointer (some (ay5.add (Int.toNat x4 * 4)))), (80, .pointer (some ((ay5.add (Int.toNat x4 * 4)).add 2))), (81, .int .i64 y5.Amount), (82, .int .i64 (i64 (x3 + y5.Amount))), (12, .int .i64 (i64 (x3 + y5.Amount)))] (by kernel_rfl) ⟨fun ρz wz hE hA ⟨e12, _⟩ _ => core_val rfl rfl (o_move (e12.trans h12)),
 fun ρz wz hE hA ⟨e10, _⟩ _ => core_val rfl rfl (o_move (e10.trans h10)),
 fun ρz wz hE hA ⟨e13, _⟩ _ => core_val rfl rfl (o_move (e13.trans h13)),
 fun ρz wz hE hA _ ⟨u1, u2, _⟩ => core_val rfl rfl (o_indexAddr (u1.trans hvy5) u2 (ia_38 hiy5)),
 fun ρz wz hE hA _ ⟨u3, _⟩ => core_val rfl rfl (o_fieldAddr u3 (fa_48_2 _ _)),
 fun ρz wz hE hA _ ⟨u4, _⟩ => core_val rfl rfl (o_load u4 (run_load1 (lr_3 _ _) (CA.sub ((hAy5.exn (hA rfl)).ca) 2 1))),
 fun ρz wz hE hA _ ⟨u0, u5, _⟩ => core_val rfl rfl (o_add u0 u5 rfl),
 fun ρz wz hE hA _ ⟨u6, _⟩ => core_val rfl rfl (o_assign u6), trivial⟩ ?_
    intro ρ19 w19 hN hf hr
    have h12 : ρ19 12 = .int .i64 (i64 (x3 + y5.Amount)) := hf 7 rfl
    obtain ⟨h8, h10, h13⟩ := k3 hr h8 h10 h13 rfl
    have Hg_0 := Hg_0.exn hN
    have Hf10 := Hf10.exn hN
    have hW := hW.trans hN
    have hsz := hW.size
    refine WP.rv mixed [[], [0], [0, 1]] [[], [0], [1]] [[13], [], []] [(60, .int .i64 x4), (61, .int .i64 (i64 (x4 + 1))), (13, .int .i64 (i64 (x4 + 1)))] (by kernel_rfl) ⟨fun ρz wz hE hA ⟨e13, _⟩ _ => core_val rfl rfl (o_move (e13.trans h13)),
 fun ρz wz hE hA _ ⟨u0, _⟩ => core_val rfl rfl (o_add u0 rfl rfl),
 fun ρz wz hE hA _ ⟨u1, _⟩ => core_val rfl rfl (o_assign u1), trivial⟩ ?_
    intro ρ20 w20 hN hf hr
    have h13 : ρ20 13 = .int .i64 (i64 (x4 + 1)) := hf 2 rfl
    obtain ⟨h8, h10, h12⟩ := k3 hr h8 h10 h12 rfl
    have Hg_0 := Hg_0.exn hN
    have Hf10 := Hf10.exn hN
    have hW := hW.trans hN
    have hsz := hW.size
    exact ⟨i64 (x3 + y5.Amount), i64 (x4 + 1), h8, h10, h12, h13, Hg_0, Hf10, hW, hsz, (by first | exact hF | (rw [hrec_2]; exact hF))⟩
  have hF := (if_neg (Bool.eq_false_iff.1 hb)).symm.trans hF
  refine WP.exit ?_
  refine thenQ_exit ?_
  refine thenQ_exit ?_
  refine blockQ_hit ?_
  refine WP.seq ?_
  refine WP.rb mixed [[], [], [0, 1], [2]] [[12], [8], [], []] [(83, .int .i64 x3), (84, .int .i64 x), (85, .bool (x3 == x)), (6, .bool (x3 == x))] (by kernel_rfl) ⟨fun ρz wz hE hA ⟨e12, _⟩ _ => core_val rfl rfl (o_move (e12.trans h12)),
 fun ρz wz hE hA ⟨e8, _⟩ _ => core_val rfl rfl (o_move (e8.trans h8)),
 fun ρz wz hE hA _ ⟨u0, u1, _⟩ => core_val rfl rfl (o_eql u0 u1 rfl),
 fun ρz wz hE hA _ ⟨u2, _⟩ => core_val rfl rfl (o_assign u2), trivial⟩ ?_
  intro ρ21 w21 hN hf hr
  have h6 : ρ21 6 = .bool (x3 == x) := hf 3 rfl
  have Hg_0 := Hg_0.exn hN
  have hW := hW.trans hN
  have hsz := hW.size
  refine WP.ret ?_
  show retQ Tryd.prog 86 Tryd.f8 (fun v w1 => v = .bool r ∧ Ext noG w0 w1) .ret ρ21 w21
  obtain rfl := Option.some.inj hF
  exact res1 rfl (by decide) h6 ⟨rfl, hW⟩

set_option maxHeartbeats 4000000 in
theorem pensionlaw24_FamilyPrimaryPaysInFull_ok {w0 : World} (Hg_0 : GR [Value.int .i64 1, Value.int .i64 1] noG w0 0) (d_ : List pensionlaw24_Raw) (i_ : Int) (p_ : List Int) (p_2 : Int) {v_d_ : Value} (H_d_ : RepSl pensionlaw24_Raw.R noG w0 v_d_ d_) {v_p_ : Value} (H_p_ : RepSl intR noG w0 v_p_ p_) {r : Bool} (hF : pensionlaw24_FamilyPrimaryPaysInFull d_ i_ p_ p_2 = some r) :
    Calls Tryd.prog 9 #[v_d_, .int .i64 i_, v_p_, .int .i64 p_2] w0 fun e w1 => e = .returned (.bool r) ∧ Ext noG w0 w1 := by
  refine (Calls.start (P := Tryd.prog) (args := [v_d_, .int .i64 i_, v_p_, .int .i64 p_2]) (R := fun v w1 => v = .bool r ∧ Ext noG w0 w1) (n := 147) (w := w0) Tryd.func9 rfl rfl (Nat.le_of_ble_eq_true rfl) (fun ρ hargs => ?_)).mono (fun e w1 ⟨v, he, hv, hE⟩ => ⟨hv ▸ he, hE⟩)
  have h0 := hargs 0 _ rfl
  have h1 := hargs 1 _ rfl
  have h2 := hargs 2 _ rfl
  have h3 := hargs 3 _ rfl
  have hW := Ext.refl noG w0
  have hsz := Nat.le_refl w0.heap.size
  obtain ⟨_, _, hs_H_d_, _, _⟩ := RepSl.shape H_d_
  have H_d_ := H_d_.start
  obtain ⟨_, _, hs_H_p_, _, _⟩ := RepSl.shape H_p_
  have H_p_ := H_p_.start
  have Hg_0 := Hg_0.start
  rw [pensionlaw24_FamilyPrimaryPaysInFull] at hF
  refine WP.seq ?_
  refine WP.rb mixed [[]] [[]] [(8, .bool false)] (by kernel_rfl) ⟨fun ρz wz hE hA _ _ => core_val rfl rfl (o_assign rfl), trivial⟩ ?_
  intro ρ1 w1 hN hf hr
  obtain ⟨h0, h1, h2, h3⟩ := k4 hr h0 h1 h2 h3 rfl
  have H_d_ := H_d_.exn hN
  have H_p_ := H_p_.exn hN
  have Hg_0 := Hg_0.exn hN
  have hW := hW.trans hN
  have hsz := hW.size
  refine WP.seq ?_
  obtain ⟨z, hz, hF⟩ := obind hF
  obtain ⟨z2, hz2, hF⟩ := obind hF
  obtain ⟨z3, hz3, hF⟩ := obind hF
  obtain ⟨z4, hz4, hF⟩ := obind hF
  refine WP.rg mixed [[], [0], [], [2], [], [4], [], [6], [7], [1], [3], [5], [8]] [[], [0], [], [2], [], [4], [], [6], [7], [1], [3], [5], [8]] [[0], [], [2], [], [3], [], [1], [], [], [], [], [], []] [val 19 (v_d_), (20, fun u wz => Own w0.heap.size 43 4 Right.cells wz u z ∧ ∀ b, u.ownBlock = some b → w1.heap.size ≤ b), val 21 (v_p_), (22, fun u wz => Own w0.heap.size 57 4 Rate.cells wz u z2 ∧ ∀ b, u.ownBlock = some b → w1.heap.size ≤ b), val 23 (.int .i64 p_2), val 24 (.int .i64 z3), val 25 (.int .i64 i_), val 26 (.int .i64 z4), val 27 (.int .i64 (i64 (z4 - 1))), (9, fun u wz => Own w0.heap.size 43 4 Right.cells wz u z ∧ ∀ b, u.ownBlock = some b → w1.heap.size ≤ b), (10, fun u wz => Own w0.heap.size 57 4 Rate.cells wz u z2 ∧ ∀ b, u.ownBlock = some b → w1.heap.size ≤ b), val 11 (.int .i64 z3), val 12 (.int .i64 (i64 (z4 - 1)))] (by kernel_rfl) ⟨sV, fun _ _ _ hE ⟨hO, hf⟩ => ⟨hO.exn hE, hf⟩, sV, fun _ _ _ hE ⟨hO, hf⟩ => ⟨hO.exn hE, hf⟩, sV, sV, sV, sV, sV, fun _ _ _ hE ⟨hO, hf⟩ => ⟨hO.exn hE, hf⟩, fun _ _ _ hE ⟨hO, hf⟩ => ⟨hO.exn hE, hf⟩, sV, sV, trivial⟩ ⟨fun ρz wz hE hA ⟨e0, _⟩ _ => core_val rfl rfl (o_move (e0.trans h0)),
 fun ρz wz hE hA _ ⟨u0, _⟩ => core_callR rfl (call_args1 u0) cf_11 ((pensionlaw24_List_ok  _ (H_d_.exn (hA rfl)).no hz).mono (fun e w1 ⟨v, he, hE1, hO⟩ => ⟨v, he, hE1, hO.base (Nat.le_trans hsz hE.size), fun b hb => Nat.le_trans hE.size (hO.lt hb).1⟩)),
 fun ρz wz hE hA ⟨e2, _⟩ _ => core_val rfl rfl (o_move (e2.trans h2)),
 fun ρz wz hE hA _ ⟨u2, _⟩ => core_callR rfl (call_args1 u2) cf_12 ((pensionplain_Rates_ok  _ (H_p_.exn (hA rfl)).no hz2).mono (fun e w1 ⟨v, he, hE1, hO⟩ => ⟨v, he, hE1, hO.base (Nat.le_trans hsz hE.size), fun b hb => Nat.le_trans hE.size (hO.lt hb).1⟩)),
 fun ρz wz hE hA ⟨e3, _⟩ _ => core_val rfl rfl (o_move (e3.trans h3)),
 fun ρz wz hE hA _ ⟨u4, _⟩ => core_call rfl (call_args2 u4 rfl) cf_13 (pensionplain_Mod_ok  _ _  hz3),
 fun ρz wz hE hA ⟨e1, _⟩ _ => core_val rfl rfl (o_move (e1.trans h1)),
 fun ρz wz hE hA _ ⟨u6, _⟩ => core_call rfl (call_args2 u6 rfl) cf_13 (pensionplain_Mod_ok  _ _  hz4),
 fun ρz wz hE hA _ ⟨u7, _⟩ => core_val rfl rfl (o_sub u7 rfl rfl),
 fun ρz wz hE hA _ ⟨⟨hO1, hfr1⟩, _⟩ => core_copy rfl rfl (o_assign rfl) ⟨hO1, hfr1⟩,
 fun ρz wz hE hA _ ⟨⟨hO3, hfr3⟩, _⟩ => core_copy rfl rfl (o_assign rfl) ⟨hO3, hfr3⟩,
 fun ρz wz hE hA _ ⟨u5, _⟩ => core_val rfl rfl (o_assign u5),
 fun ρz wz hE hA _ ⟨u8, _⟩ => core_val rfl rfl (o_assign u8), trivial⟩ ?_
  intro ρ2 w2 hN hf hr
  obtain ⟨v9_, h9⟩ : ∃ v, ρ2 9 = v := ⟨_, rfl⟩
  have hq9 : (fun u wz => Own w0.heap.size 43 4 Right.cells wz u z ∧ ∀ b, u.ownBlock = some b → w1.heap.size ≤ b) (ρ2 9) w2 := hf 9 rfl
  rw [h9] at hq9
  obtain ⟨hq9, hfr9⟩ := hq9
  obtain ⟨v10_, h10⟩ : ∃ v, ρ2 10 = v := ⟨_, rfl⟩
  have hq10 : (fun u wz => Own w0.heap.size 57 4 Rate.cells wz u z2 ∧ ∀ b, u.ownBlock = some b → w1.heap.size ≤ b) (ρ2 10) w2 := hf 10 rfl
  rw [h10] at hq10
  obtain ⟨hq10, hfr10⟩ := hq10
  have h11 : ρ2 11 = .int .i64 z3 := hf 11 rfl
  have h12 : ρ2 12 = .int .i64 (i64 (z4 - 1)) := hf 12 rfl
  have Hg_0 := Hg_0.exn hN
  have hW := hW.trans hN
  have Hf9 : RepSl Right.R noG w2 v9_ z := hq9.rep (fun _ _ h => h)
  obtain ⟨_, _, hs_Hf9, _, _⟩ := RepSl.shape Hf9
  have Hf10 : RepSl Rate.R noG w2 v10_ z2 := hq10.rep (fun _ _ h => h)
  obtain ⟨_, _, hs_Hf10, _, _⟩ := RepSl.shape Hf10
  have hsz := hW.size
  refine WP.seq ?_
  obtain ⟨z5, hz5, hF⟩ := obind hF
  refine WP.rg mixed [[], [], [], [], [0, 1, 2, 3], [4], [5], [5], [6], [7]] [[], [], [], [], [0, 1, 2, 3], [4], [5], [5], [6], [7]] [[9], [12], [10], [11], [], [], [], [], [], []] [val 29 (v9_), val 30 (.int .i64 (i64 (z4 - 1))), val 31 (v10_), val 32 (.int .i64 z3), (33, fun u wz => ∃ q : Value, u = .tuple #[q, .int .i64 z5.2] ∧ Own w0.heap.size 3 1 (fun x : Int => [Value.int .i64 x]) wz q z5.1 ∧ ∀ b, q.ownBlock = some b → w2.heap.size ≤ b), (28, fun u wz => ∃ q : Value, u = .tuple #[q, .int .i64 z5.2] ∧ Own w0.heap.size 3 1 (fun x : Int => [Value.int .i64 x]) wz q z5.1 ∧ ∀ b, q.ownBlock = some b → w2.heap.size ≤ b), (34, fun u wz => Own w0.heap.size 3 1 (fun x : Int => [Value.int .i64 x]) wz u z5.1 ∧ ∀ b, u.ownBlock = some b → w2.heap.size ≤ b), val 35 (.int .i64 z5.2), (13, fun u wz => Own w0.heap.size 3 1 (fun x : Int => [Value.int .i64 x]) wz u z5.1 ∧ ∀ b, u.ownBlock = some b → w2.heap.size ≤ b), val 14 (.int .i64 z5.2)] (by kernel_rfl) ⟨sV, sV, sV, sV, fun _ _ _ hE ⟨q, ht, hO, hf⟩ => ⟨q, ht, hO.exn hE, hf⟩, fun _ _ _ hE ⟨q, ht, hO, hf⟩ => ⟨q, ht, hO.exn hE, hf⟩, fun _ _ _ hE ⟨hO, hf⟩ => ⟨hO.exn hE, hf⟩, sV, fun _ _ _ hE ⟨hO, hf⟩ => ⟨hO.exn hE, hf⟩, sV, trivial⟩ ⟨fun ρz wz hE hA ⟨e9, _⟩ _ => core_val rfl rfl (o_move (e9.trans h9)),
 fun ρz wz hE hA ⟨e12, _⟩ _ => core_val rfl rfl (o_move (e12.trans h12)),
 fun ρz wz hE hA ⟨e10, _⟩ _ => core_val rfl rfl (o_move (e10.trans h10)),
 fun ρz wz hE hA ⟨e11, _⟩ _ => core_val rfl rfl (o_move (e11.trans h11)),
 fun ρz wz hE hA _ ⟨u0, u1, u2, u3, _⟩ => core_callR rfl (call_args4 u0 u1 u2 u3) cf_14 ((family_Order_ok  _ _ _ _ (Hf9.exn (hA rfl)).no (Hf10.exn (hA rfl)).no hz5).mono (fun e w1 ⟨v, he, hE1, q, hv, hO⟩ => ⟨v, he, hE1, q, hv, hO.base (Nat.le_trans hsz hE.size), fun b hb => Nat.le_trans hE.size (hO.lt hb).1⟩)),
 fun ρz wz hE hA _ ⟨⟨q4, ht4, hO4, hfr4⟩, _⟩ => core_copy rfl rfl (o_move rfl) ⟨q4, ht4, hO4, hfr4⟩,
 fun ρz wz hE hA _ ⟨⟨q5, ht5, hO5, hfr5⟩, _⟩ => core_copy rfl rfl (o_extract ht5 (by kernel_rfl)) ⟨hO5, hfr5⟩,
 fun ρz wz hE hA _ ⟨⟨q5, ht5, hO5, hfr5⟩, _⟩ => core_val rfl rfl (o_extract ht5 (by kernel_rfl)),
 fun ρz wz hE hA _ ⟨⟨hO6, hfr6⟩, _⟩ => core_copy rfl rfl (o_assign rfl) ⟨hO6, hfr6⟩,
 fun ρz wz hE hA _ ⟨u7, _⟩ => core_val rfl rfl (o_assign u7), trivial⟩ ?_
  intro ρ3 w3 hN hf hr
  obtain ⟨v13_, h13⟩ : ∃ v, ρ3 13 = v := ⟨_, rfl⟩
  have hq13 : (fun u wz => Own w0.heap.size 3 1 (fun x : Int => [Value.int .i64 x]) wz u z5.1 ∧ ∀ b, u.ownBlock = some b → w2.heap.size ≤ b) (ρ3 13) w3 := hf 8 rfl
  rw [h13] at hq13
  obtain ⟨hq13, hfr13⟩ := hq13
  have h14 : ρ3 14 = .int .i64 z5.2 := hf 9 rfl
  obtain ⟨h9, h10, h11, h12⟩ := k4 hr h9 h10 h11 h12 rfl
  have Hg_0 := Hg_0.exn hN
  have Hf9 := Hf9.exn hN
  have Hf10 := Hf10.exn hN
  have hW := hW.trans hN
  have Hf13 : RepSl intR noG w3 v13_ z5.1 := hq13.rep (fun _ _ h => h)
  obtain ⟨_, _, hs_Hf13, _, _⟩ := RepSl.shape Hf13
  have hsz := hW.size
  refine WP.seq ?_
  obtain ⟨z6, hz6, hF⟩ := obind hF
  refine WP.rg mixed [[], [], [], [], [0, 1, 2, 3], [4], [5], [5], [6], [7]] [[], [], [], [], [0, 1, 2, 3], [4], [5], [5], [6], [7]] [[9], [12], [10], [11], [], [], [], [], [], []] [val 37 (v9_), val 38 (.int .i64 (i64 (z4 - 1))), val 39 (v10_), val 40 (.int .i64 z3), (41, fun u wz => ∃ q : Value, u = .tuple #[q, .int .i64 z6.2] ∧ Own w0.heap.size 48 4 FamilyPay.cells wz q z6.1 ∧ ∀ b, q.ownBlock = some b → w3.heap.size ≤ b), (36, fun u wz => ∃ q : Value, u = .tuple #[q, .int .i64 z6.2] ∧ Own w0.heap.size 48 4 FamilyPay.cells wz q z6.1 ∧ ∀ b, q.ownBlock = some b → w3.heap.size ≤ b), (42, fun u wz => Own w0.heap.size 48 4 FamilyPay.cells wz u z6.1 ∧ ∀ b, u.ownBlock = some b → w3.heap.size ≤ b), val 43 (.int .i64 z6.2), (15, fun u wz => Own w0.heap.size 48 4 FamilyPay.cells wz u z6.1 ∧ ∀ b, u.ownBlock = some b → w3.heap.size ≤ b), val 16 (.int .i64 z6.2)] (by kernel_rfl) ⟨sV, sV, sV, sV, fun _ _ _ hE ⟨q, ht, hO, hf⟩ => ⟨q, ht, hO.exn hE, hf⟩, fun _ _ _ hE ⟨q, ht, hO, hf⟩ => ⟨q, ht, hO.exn hE, hf⟩, fun _ _ _ hE ⟨hO, hf⟩ => ⟨hO.exn hE, hf⟩, sV, fun _ _ _ hE ⟨hO, hf⟩ => ⟨hO.exn hE, hf⟩, sV, trivial⟩ ⟨fun ρz wz hE hA ⟨e9, _⟩ _ => core_val rfl rfl (o_move (e9.trans h9)),
 fun ρz wz hE hA ⟨e12, _⟩ _ => core_val rfl rfl (o_move (e12.trans h12)),
 fun ρz wz hE hA ⟨e10, _⟩ _ => core_val rfl rfl (o_move (e10.trans h10)),
 fun ρz wz hE hA ⟨e11, _⟩ _ => core_val rfl rfl (o_move (e11.trans h11)),
 fun ρz wz hE hA _ ⟨u0, u1, u2, u3, _⟩ => core_callR rfl (call_args4 u0 u1 u2 u3) cf_21 ((family_Payments_ok (Hg_0.exn (hA rfl)).no _ _ _ _ (Hf9.exn (hA rfl)).no (Hf10.exn (hA rfl)).no hz6).mono (fun e w1 ⟨v, he, hE1, q, hv, hO⟩ => ⟨v, he, hE1, q, hv, hO.base (Nat.le_trans hsz hE.size), fun b hb => Nat.le_trans hE.size (hO.lt hb).1⟩)),
 fun ρz wz hE hA _ ⟨⟨q4, ht4, hO4, hfr4⟩, _⟩ => core_copy rfl rfl (o_move rfl) ⟨q4, ht4, hO4, hfr4⟩,
 fun ρz wz hE hA _ ⟨⟨q5, ht5, hO5, hfr5⟩, _⟩ => core_copy rfl rfl (o_extract ht5 (by kernel_rfl)) ⟨hO5, hfr5⟩,
 fun ρz wz hE hA _ ⟨⟨q5, ht5, hO5, hfr5⟩, _⟩ => core_val rfl rfl (o_extract ht5 (by kernel_rfl)),
 fun ρz wz hE hA _ ⟨⟨hO6, hfr6⟩, _⟩ => core_copy rfl rfl (o_assign rfl) ⟨hO6, hfr6⟩,
 fun ρz wz hE hA _ ⟨u7, _⟩ => core_val rfl rfl (o_assign u7), trivial⟩ ?_
  intro ρ4 w4 hN hf hr
  obtain ⟨v15_, h15⟩ : ∃ v, ρ4 15 = v := ⟨_, rfl⟩
  have hq15 : (fun u wz => Own w0.heap.size 48 4 FamilyPay.cells wz u z6.1 ∧ ∀ b, u.ownBlock = some b → w3.heap.size ≤ b) (ρ4 15) w4 := hf 8 rfl
  rw [h15] at hq15
  obtain ⟨hq15, hfr15⟩ := hq15
  have h16 : ρ4 16 = .int .i64 z6.2 := hf 9 rfl
  obtain ⟨h9, h13, h14⟩ := k3 hr h9 h13 h14 rfl
  have Hg_0 := Hg_0.exn hN
  have Hf9 := Hf9.exn hN
  have Hf13 := Hf13.exn hN
  have hW := hW.trans hN
  have Hf15 : RepSl FamilyPay.R noG w4 v15_ z6.1 := hq15.rep (fun _ _ h => h)
  obtain ⟨_, _, hs_Hf15, _, _⟩ := RepSl.shape Hf15
  have hsz := hW.size
  refine WP.seq ?_
  refine WP.seq ?_
  obtain ⟨z7, hz7, hF⟩ := obind hF
  refine WP.rb mixed [[], [0], [1], [2], [2, 3], [2, 4], [5], [6], [6, 7], [6, 8], [9], [10], [10, 11], [10], [10, 13], [10, 12, 14], [10, 15], [16], [17], [17, 18], [17], [17, 20], [17, 19, 21], [17, 22]] [[], [], [], [14], [], [], [], [16], [], [], [], [13], [], [9], [], [], [], [], [15], [], [9], [], [], []] [(44, .bool z7), (45, .bool (!z7)), (46, .bool (!z7)), (47, gv (!(!z7)) (.int .i64 z5.2)), (48, gv (!(!z7)) (.bool (z5.2 != 0))), (49, .bool ((!z7) || (z5.2 != 0))), (50, .bool ((!z7) || (z5.2 != 0))), (51, gv (!((!z7) || (z5.2 != 0))) (.int .i64 z6.2)), (52, gv (!((!z7) || (z5.2 != 0))) (.bool (z6.2 != 0))), (53, .bool (((!z7) || (z5.2 != 0)) || (z6.2 != 0))), (54, .bool (((!z7) || (z5.2 != 0)) || (z6.2 != 0))), (55, gv (!(((!z7) || (z5.2 != 0)) || (z6.2 != 0))) v13_), (56, gv (!(((!z7) || (z5.2 != 0)) || (z6.2 != 0))) (.int .i64 (z5.1.length : Int))), (57, gv (!(((!z7) || (z5.2 != 0)) || (z6.2 != 0))) v9_), (58, gv (!(((!z7) || (z5.2 != 0)) || (z6.2 != 0))) (.int .i64 (z.length : Int))), (59, gv (!(((!z7) || (z5.2 != 0)) || (z6.2 != 0))) (.bool ((z5.1.length : Int) != (z.length : Int)))), (60, .bool ((((!z7) || (z5.2 != 0)) || (z6.2 != 0)) || ((z5.1.length : Int) != (z.length : Int)))), (61, .bool ((((!z7) || (z5.2 != 0)) || (z6.2 != 0)) || ((z5.1.length : Int) != (z.length : Int)))), (62, gv (!((((!z7) || (z5.2 != 0)) || (z6.2 != 0)) || ((z5.1.length : Int) != (z.length : Int)))) v15_), (63, gv (!((((!z7) || (z5.2 != 0)) || (z6.2 != 0)) || ((z5.1.length : Int) != (z.length : Int)))) (.int .i64 (z6.1.length : Int))), (64, gv (!((((!z7) || (z5.2 != 0)) || (z6.2 != 0)) || ((z5.1.length : Int) != (z.length : Int)))) v9_), (65, gv (!((((!z7) || (z5.2 != 0)) || (z6.2 != 0)) || ((z5.1.length : Int) != (z.length : Int)))) (.int .i64 (z.length : Int))), (66, gv (!((((!z7) || (z5.2 != 0)) || (z6.2 != 0)) || ((z5.1.length : Int) != (z.length : Int)))) (.bool ((z6.1.length : Int) != (z.length : Int)))), (67, .bool (((((!z7) || (z5.2 != 0)) || (z6.2 != 0)) || ((z5.1.length : Int) != (z.length : Int))) || ((z6.1.length : Int) != (z.length : Int))))] (by kernel_rfl) ⟨fun ρz wz hE hA _ _ => core_call rfl call_args0 cf_16 (pensionlaw24_awake_ok (Hg_0.exn (hA rfl)).no   hz7),
 fun ρz wz hE hA _ ⟨u0, _⟩ => core_val rfl rfl (o_not u0 rfl),
 fun ρz wz hE hA _ ⟨u1, _⟩ => core_val rfl rfl (o_move u1),
 fun ρz wz hE hA ⟨e14, _⟩ ⟨u2, _⟩ => gIf rfl rfl (yF rfl u2) fun gc F hF => core_val rfl hF (o_move (e14.trans h14)),
 fun ρz wz hE hA _ ⟨u2, u3, _⟩ => gIf rfl rfl (yF rfl u2) fun gc F hF => core_val rfl hF (o_neq (gt gc u3) rfl rfl),
 fun ρz wz hE hA _ ⟨u2, u4, _⟩ => core_val rfl rfl (o_pick_or u2 rfl u4),
 fun ρz wz hE hA _ ⟨u5, _⟩ => core_val rfl rfl (o_move u5),
 fun ρz wz hE hA ⟨e16, _⟩ ⟨u6, _⟩ => gIf rfl rfl (yF rfl u6) fun gc F hF => core_val rfl hF (o_move (e16.trans h16)),
 fun ρz wz hE hA _ ⟨u6, u7, _⟩ => gIf rfl rfl (yF rfl u6) fun gc F hF => core_val rfl hF (o_neq (gt gc u7) rfl rfl),
 fun ρz wz hE hA _ ⟨u6, u8, _⟩ => core_val rfl rfl (o_pick_or u6 rfl u8),
 fun ρz wz hE hA _ ⟨u9, _⟩ => core_val rfl rfl (o_move u9),
 fun ρz wz hE hA ⟨e13, _⟩ ⟨u10, _⟩ => gIf rfl rfl (yF rfl u10) fun gc F hF => core_val rfl hF (o_move (e13.trans h13)),
 fun ρz wz hE hA _ ⟨u10, u11, _⟩ => gIf rfl rfl (yF rfl u10) fun gc F hF => core_val rfl hF (o_len ((gt gc u11).trans hs_Hf13) len_23),
 fun ρz wz hE hA ⟨e9, _⟩ ⟨u10, _⟩ => gIf rfl rfl (yF rfl u10) fun gc F hF => core_val rfl hF (o_move (e9.trans h9)),
 fun ρz wz hE hA _ ⟨u10, u13, _⟩ => gIf rfl rfl (yF rfl u10) fun gc F hF => core_val rfl hF (o_len ((gt gc u13).trans hs_Hf9) len_24),
 fun ρz wz hE hA _ ⟨u10, u12, u14, _⟩ => gIf rfl rfl (yF rfl u10) fun gc F hF => core_val rfl hF (o_neq (gt gc u12) (gt gc u14) rfl),
 fun ρz wz hE hA _ ⟨u10, u15, _⟩ => core_val rfl rfl (o_pick_or u10 rfl u15),
 fun ρz wz hE hA _ ⟨u16, _⟩ => core_val rfl rfl (o_move u16),
 fun ρz wz hE hA ⟨e15, _⟩ ⟨u17, _⟩ => gIf rfl rfl (yF rfl u17) fun gc F hF => core_val rfl hF (o_move (e15.trans h15)),
 fun ρz wz hE hA _ ⟨u17, u18, _⟩ => gIf rfl rfl (yF rfl u17) fun gc F hF => core_val rfl hF (o_len ((gt gc u18).trans hs_Hf15) len_38),
 fun ρz wz hE hA ⟨e9, _⟩ ⟨u17, _⟩ => gIf rfl rfl (yF rfl u17) fun gc F hF => core_val rfl hF (o_move (e9.trans h9)),
 fun ρz wz hE hA _ ⟨u17, u20, _⟩ => gIf rfl rfl (yF rfl u17) fun gc F hF => core_val rfl hF (o_len ((gt gc u20).trans hs_Hf9) len_24),
 fun ρz wz hE hA _ ⟨u17, u19, u21, _⟩ => gIf rfl rfl (yF rfl u17) fun gc F hF => core_val rfl hF (o_neq (gt gc u19) (gt gc u21) rfl),
 fun ρz wz hE hA _ ⟨u17, u22, _⟩ => core_val rfl rfl (o_pick_or u17 rfl u22), trivial⟩ ?_
  intro ρ5 w5 hN hf hr
  have h67 : ρ5 67 = .bool (((((!z7) || (z5.2 != 0)) || (z6.2 != 0)) || ((z5.1.length : Int) != (z.length : Int))) || ((z6.1.length : Int) != (z.length : Int))) := hf 23 rfl
  obtain ⟨h9, h13, h15⟩ := k3 hr h9 h13 h15 rfl
  have Hg_0 := Hg_0.exn hN
  have Hf9 := Hf9.exn hN
  have Hf13 := Hf13.exn hN
  have Hf15 := Hf15.exn hN
  have hW := hW.trans hN
  have hsz := hW.size
  refine WP.cond rfl h67 (fun hb => ?_) (fun hb => ?_)
  · have hF := (if_pos hb).symm.trans hF
    refine WP.seq ?_
    refine WP.rb mixed [[]] [[]] [(8, .bool false)] (by kernel_rfl) ⟨fun ρz wz hE hA _ _ => core_val rfl rfl (o_assign rfl), trivial⟩ ?_
    intro ρ6 w6 hN hf hr
    have h8 : ρ6 8 = .bool false := hf 0 rfl
    have Hg_0 := Hg_0.exn hN
    have hW := hW.trans hN
    have hsz := hW.size
    refine WP.ret ?_
    show retQ Tryd.prog 147 Tryd.f9 (fun v w1 => v = .bool r ∧ Ext noG w0 w1) .ret ρ6 w6
    obtain rfl := Option.some.inj hF
    exact res1 rfl (by decide) h8 ⟨rfl, hW⟩
  have hF := (if_neg (Bool.eq_false_iff.1 hb)).symm.trans hF
  refine WP.skip ?_
  refine WP.seq ?_
  refine WP.seq ?_
  refine WP.rb mixed [[]] [[]] [(17, .int .i64 0)] (by kernel_rfl) ⟨fun ρz wz hE hA _ _ => core_val rfl rfl (o_assign rfl), trivial⟩ ?_
  intro ρ7 w7 hN hf hr
  have h17 : ρ7 17 = .int .i64 0 := hf 0 rfl
  obtain ⟨h9, h13, h15⟩ := k3 hr h9 h13 h15 rfl
  have Hg_0 := Hg_0.exn hN
  have Hf9 := Hf9.exn hN
  have Hf13 := Hf13.exn hN
  have Hf15 := Hf15.exn hN
  have hW := hW.trans hN
  have hsz := hW.size
  refine WP.block ?_
  refine WP.loop (fun k_ ρ w => ∃ x : Int, ρ 9 = v9_ ∧ ρ 13 = v13_ ∧ ρ 15 = v15_ ∧ ρ 17 = .int .i64 x ∧ GR [Value.int .i64 1, Value.int .i64 1] (gfr noG w0) w 0 ∧ RepSl Right.R noG w v9_ z ∧ RepSl intR noG w v13_ z5.1 ∧ RepSl FamilyPay.R noG w v15_ z6.1 ∧ Ext noG w0 w ∧ w0.heap.size ≤ w.heap.size ∧ loopC k_ (pensionlaw24_FamilyPrimaryPaysInFull_l z z5 z6) x = some r) FU ⟨0, h9, h13, h15, h17, Hg_0, Hf9, Hf13, Hf15, hW, hsz, hF⟩ (fun _ _ h => by obtain ⟨_, _, _, _, _, _, _, _, _, _, _, h⟩ := h; cases h) ?_
  rintro k_ ρ8 w8 ⟨x, h9, h13, h15, h17, Hg_0, Hf9, Hf13, Hf15, hW, hsz, hF⟩
  have hF : pensionlaw24_FamilyPrimaryPaysInFull_l z z5 z6 (loopC k_ (pensionlaw24_FamilyPrimaryPaysInFull_l z z5 z6)) x = some r := hF
  generalize hrec_ : loopC k_ (pensionlaw24_FamilyPrimaryPaysInFull_l z z5 z6) = rec_ at hF
  rw [pensionlaw24_FamilyPrimaryPaysInFull_l] at hF
  refine WP.seq ?_
  refine WP.seq ?_
  refine WP.rb mixed [[], [], [1], [0, 2]] [[17], [15], [], []] [(68, .int .i64 x), (69, v15_), (70, .int .i64 (z6.1.length : Int)), (71, .bool (decide (x < (z6.1.length : Int))))] (by kernel_rfl) ⟨fun ρz wz hE hA ⟨e17, _⟩ _ => core_val rfl rfl (o_move (e17.trans h17)),
 fun ρz wz hE hA ⟨e15, _⟩ _ => core_val rfl rfl (o_move (e15.trans h15)),
 fun ρz wz hE hA _ ⟨u1, _⟩ => core_val rfl rfl (o_len (u1.trans hs_Hf15) len_38),
 fun ρz wz hE hA _ ⟨u0, u2, _⟩ => core_val rfl rfl (o_lss u0 u2 rfl), trivial⟩ ?_
  intro ρ9 w9 hN hf hr
  have h71 : ρ9 71 = .bool (decide (x < (z6.1.length : Int))) := hf 3 rfl
  obtain ⟨h9, h13, h15, h17⟩ := k4 hr h9 h13 h15 h17 rfl
  have Hg_0 := Hg_0.exn hN
  have Hf9 := Hf9.exn hN
  have Hf13 := Hf13.exn hN
  have Hf15 := Hf15.exn hN
  have hW := hW.trans hN
  have hsz := hW.size
  refine WP.cond rfl h71 (fun hb => ?_) (fun hb => ?_)
  · have hF := (if_pos hb).symm.trans hF
    refine WP.skip ?_
    refine WP.seq ?_
    refine WP.block ?_
    refine WP.seq ?_
    refine WP.seq ?_
    obtain ⟨y, hy, hF⟩ := obind hF
    obtain ⟨ay, cy, hvy, hiy, hAy⟩ := RepSl.getF Hf13 hy
    obtain ⟨c, hc, hF⟩ := obind hF
    obtain ⟨y2, hy2, hc⟩ := orB hc
    obtain ⟨ay2, cy2, hvy2, hiy2, hAy2⟩ := RepSl.getFI Hf13 hy2
    have hc := orE hc
    refine WP.rb mixed [[], [], [0, 1], [2], [3], [4], [5], [5], [5, 6, 7], [5, 8], [5], [5, 10], [5, 9, 11], [5, 12]] [[13], [17], [], [], [], [], [13], [17], [], [], [9], [], [], []] [(74, v13_), (75, .int .i64 x), (76, .pointer (some (ay.add (Int.toNat x * 1)))), (77, .int .i64 y), (78, .bool (decide (y < 0))), (79, .bool (decide (y < 0))), (80, gv (!(decide (y < 0))) v13_), (81, gv (!(decide (y < 0))) (.int .i64 x)), (82, gv (!(decide (y < 0))) (.pointer (some (ay2.add (Int.toNat x * 1))))), (83, gv (!(decide (y < 0))) (.int .i64 y2)), (84, gv (!(decide (y < 0))) v9_), (85, gv (!(decide (y < 0))) (.int .i64 (z.length : Int))), (86, gv (!(decide (y < 0))) (.bool (decide ((z.length : Int) ≤ y2)))), (87, .bool c)] (by kernel_rfl) ⟨fun ρz wz hE hA ⟨e13, _⟩ _ => core_val rfl rfl (o_move (e13.trans h13)),
 fun ρz wz hE hA ⟨e17, _⟩ _ => core_val rfl rfl (o_move (e17.trans h17)),
 fun ρz wz hE hA _ ⟨u0, u1, _⟩ => core_val rfl rfl (o_indexAddr (u0.trans hvy) u1 (ia_23 hiy)),
 fun ρz wz hE hA _ ⟨u2, _⟩ => core_val rfl rfl (o_load u2 (run_load1 (lr_3 _ _) ((hAy.exn (hA rfl)).ca))),
 fun ρz wz hE hA _ ⟨u3, _⟩ => core_val rfl rfl (o_lss u3 rfl rfl),
 fun ρz wz hE hA _ ⟨u4, _⟩ => core_val rfl rfl (o_move u4),
 fun ρz wz hE hA ⟨e13, _⟩ ⟨u5, _⟩ => gIf rfl rfl (yF rfl u5) fun gc F hF => core_val rfl hF (o_move (e13.trans h13)),
 fun ρz wz hE hA ⟨e17, _⟩ ⟨u5, _⟩ => gIf rfl rfl (yF rfl u5) fun gc F hF => core_val rfl hF (o_move (e17.trans h17)),
 fun ρz wz hE hA _ ⟨u5, u6, u7, _⟩ => gIf rfl rfl (yF rfl u5) fun gc F hF => core_val rfl hF (o_indexAddr ((gt gc u6).trans (hvy2 gc)) (gt gc u7) (ia_23 (hiy2 gc))),
 fun ρz wz hE hA _ ⟨u5, u8, _⟩ => gIf rfl rfl (yF rfl u5) fun gc F hF => core_val rfl hF (o_load (gt gc u8) (run_load1 (lr_3 _ _) (((hAy2 gc).exn (hA rfl)).ca))),
 fun ρz wz hE hA ⟨e9, _⟩ ⟨u5, _⟩ => gIf rfl rfl (yF rfl u5) fun gc F hF => core_val rfl hF (o_move (e9.trans h9)),
 fun ρz wz hE hA _ ⟨u5, u10, _⟩ => gIf rfl rfl (yF rfl u5) fun gc F hF => core_val rfl hF (o_len ((gt gc u10).trans hs_Hf9) len_24),
 fun ρz wz hE hA _ ⟨u5, u9, u11, _⟩ => gIf rfl rfl (yF rfl u5) fun gc F hF => core_val rfl hF (o_geq (gt gc u9) (gt gc u11) rfl),
 fun ρz wz hE hA _ ⟨u5, u12, _⟩ => core_valE rfl rfl (congrArg Value.bool hc) (o_pick_or u5 rfl u12), trivial⟩ ?_
    intro ρ10 w10 hN hf hr
    have h87 : ρ10 87 = .bool c := hf 13 rfl
    obtain ⟨h9, h13, h15, h17⟩ := k4 hr h9 h13 h15 h17 rfl
    have Hg_0 := Hg_0.exn hN
    have Hf9 := Hf9.exn hN
    have Hf13 := Hf13.exn hN
    have Hf15 := Hf15.exn hN
    have hW := hW.trans hN
    have hsz := hW.size
    refine WP.cond rfl h87 (fun hb => ?_) (fun hb => ?_)
    · have hF := (if_pos hb).symm.trans hF
      refine WP.seq ?_
      refine WP.rb mixed [[]] [[]] [(8, .bool false)] (by kernel_rfl) ⟨fun ρz wz hE hA _ _ => core_val rfl rfl (o_assign rfl), trivial⟩ ?_
      intro ρ11 w11 hN hf hr
      have h8 : ρ11 8 = .bool false := hf 0 rfl
      have Hg_0 := Hg_0.exn hN
      have hW := hW.trans hN
      have hsz := hW.size
      refine WP.ret ?_
      show retQ Tryd.prog 147 Tryd.f9 (fun v w1 => v = .bool r ∧ Ext noG w0 w1) .ret ρ11 w11
      obtain rfl := Option.some.inj hF
      exact res1 rfl (by decide) h8 ⟨rfl, hW⟩
    have hF := (if_neg (Bool.eq_false_iff.1 hb)).symm.trans hF
    refine WP.skip ?_
    refine WP.seq ?_
    obtain ⟨y3, hy3, hF⟩ := obind hF
    obtain ⟨ay3, cy3, hvy3, hiy3, hAy3⟩ := RepSl.getF Hf13 hy3
    obtain ⟨y4, hy4, hF⟩ := obind hF
    obtain ⟨ay4, cy4, hvy4, hiy4, hAy4⟩ := RepSl.getF Hf9 hy4
    refine WP.region mixed [[], [], [], [1, 2], [3], [0, 4], [5], [], [6, 7]] [[], [], [], [1, 2], [3], [0, 4], [5], [], [6, 7]] [[9], [13], [17], [], [], [], [], [], []] [8] [(7, 8)] [val 88 (v9_), val 89 (v13_), val 90 (.int .i64 x), val 91 (.pointer (some (ay3.add (Int.toNat x * 1)))), val 92 (.int .i64 y3), val 93 (.pointer (some (ay4.add (Int.toNat y3 * 4)))), val 94 (Right.val y4), (18, fun u wz => ∃ b, u = .pointer (some ⟨b, 0, none⟩) ∧ w10.heap.size ≤ b ∧ Mb wz b 43 (Right.cells (⟨0, 0, 0, 0⟩ : Right))), (18, fun u wz => ∃ b, u = .pointer (some ⟨b, 0, none⟩) ∧ w10.heap.size ≤ b ∧ Mb wz b 43 (Right.cells y4))] (fun b => w10.heap.size ≤ b) (by kernel_rfl) ⟨sV, sV, sV, sV, sV, sV, sV, fun _ _ _ hE ⟨b, hb, hs, hM⟩ => ⟨b, hb, hs, hM.exn hE⟩, fun _ _ _ hE ⟨b, hb, hs, hM⟩ => ⟨b, hb, hs, hM.exn hE⟩, trivial⟩ ⟨fun ρz wz hE hA ⟨e9, _⟩ _ => core_val rfl rfl (o_move (e9.trans h9)),
 fun ρz wz hE hA ⟨e13, _⟩ _ => core_val rfl rfl (o_move (e13.trans h13)),
 fun ρz wz hE hA ⟨e17, _⟩ _ => core_val rfl rfl (o_move (e17.trans h17)),
 fun ρz wz hE hA _ ⟨u1, u2, _⟩ => core_val rfl rfl (o_indexAddr (u1.trans hvy3) u2 (ia_23 hiy3)),
 fun ρz wz hE hA _ ⟨u3, _⟩ => core_val rfl rfl (o_load u3 (run_load1 (lr_3 _ _) ((hAy3.exn hE.fresh).ca))),
 fun ρz wz hE hA _ ⟨u0, u4, _⟩ => core_val rfl rfl (o_indexAddr (u0.trans hvy4) u4 (ia_24 hiy4)),
 fun ρz wz hE hA _ ⟨u5, _⟩ => core_val rfl rfl (o_load u5 (run_loadN (cs := (Right.cells y4)) (lr_43 _ _) rfl ((hAy4.exn hE.fresh).ca))),
 fun ρz wz hE hA _ _ => core_new rfl rfl hE (o_alloc (al_43 _)),
 fun ρz wz hE hA _ ⟨u6, u7, _⟩ => core_storeNew rfl rfl rfl rfl u6 u7 (fun a w => st_43 _ a w) rfl (one_43 _), trivial⟩ ?_
    intro ρ12 w12 hE hN hf hr
    have hN := hE.fresh
    obtain ⟨b18_, h18, hge_b18_, Hb_b18_⟩ := hf 8 rfl
    obtain ⟨h9, h13, h15, h17⟩ := k4 hr h9 h13 h15 h17 rfl
    have Hg_0 := Hg_0.exn hN
    have Hf9 := Hf9.exn hN
    have Hf13 := Hf13.exn hN
    have Hf15 := Hf15.exn hN
    have hW := hW.trans hN
    have hB_b18_ : w0.heap.size ≤ b18_ := Nat.le_trans hsz hge_b18_
    have hsz := hW.size
    refine WP.seq ?_
    obtain ⟨y5, hy5, hF⟩ := obind hF
    obtain ⟨ay5, cy5, hvy5, hiy5, hAy5⟩ := RepSl.getF Hf15 hy5
    obtain ⟨c2, hc2, hF⟩ := obind hF
    obtain ⟨y6, hy6, hc2⟩ := orB hc2
    obtain ⟨ay6, cy6, hvy6, hiy6, hAy6⟩ := RepSl.getFI Hf15 hy6
    have hc2 := orE hc2
    obtain ⟨c3, hc3, hF⟩ := obind hF
    obtain ⟨y7, hy7, hc3⟩ := orB hc3
    obtain ⟨ay7, cy7, hvy7, hiy7, hAy7⟩ := RepSl.getFI Hf15 hy7
    have hc3 := orE hc3
    obtain ⟨c4, hc4, hF⟩ := obind hF
    obtain ⟨y8, hy8, hc4⟩ := orB hc4
    obtain ⟨ay8, cy8, hvy8, hiy8, hAy8⟩ := RepSl.getFI Hf15 hy8
    have hc4 := orE hc4
    obtain ⟨c6, hc6, hF⟩ := obind hF
    obtain ⟨c5, hc5, hc6⟩ := orB hc6
    obtain ⟨y9, hy9, hc5⟩ := andBI hc5
    obtain ⟨ay9, cy9, hvy9, hiy9, hAy9⟩ := RepSl.getFI Hf15 hy9
    have hc5 := andEI hc5
    have hc6 := orE hc6
    refine WP.rb mixed [[], [], [0, 1], [2], [3], [], [5], [4, 6], [7], [8], [8], [8, 9, 10], [8, 11], [8, 12], [8], [8, 14], [8, 13, 15], [8, 16], [17], [18], [18], [18, 19, 20], [18, 21], [18, 22], [18], [18, 24], [18, 23, 25], [18, 26], [27], [28], [28], [28, 29, 30], [28, 31], [28, 32], [28], [28, 34], [28, 33, 35], [28, 36], [37], [38], [38, 39], [38, 40], [41], [41], [41, 42, 43], [41, 44], [41, 45], [41], [41, 47], [41, 46, 48], [38, 41, 49], [38, 50]] [[15], [17], [], [], [], [18], [], [], [], [15], [17], [], [], [], [18], [], [], [], [], [15], [17], [], [], [], [18], [], [], [], [], [15], [17], [], [], [], [17], [], [], [], [], [17], [], [], [15], [17], [], [], [], [18], [], [], [], []] [(95, v15_), (96, .int .i64 x), (97, .pointer (some (ay5.add (Int.toNat x * 4)))), (98, .pointer (some ((ay5.add (Int.toNat x * 4)).add 0))), (99, .int .i64 y5.State), (100, .pointer (some ((⟨b18_, 0, none⟩ : Addr).add 0))), (101, .int .i64 y4.State), (102, .bool (y5.State != y4.State)), (103, .bool (y5.State != y4.State)), (104, gv (!(y5.State != y4.State)) v15_), (105, gv (!(y5.State != y4.State)) (.int .i64 x)), (106, gv (!(y5.State != y4.State)) (.pointer (some (ay6.add (Int.toNat x * 4))))), (107, gv (!(y5.State != y4.State)) (.pointer (some ((ay6.add (Int.toNat x * 4)).add 1)))), (108, gv (!(y5.State != y4.State)) (.int .i64 y6.Currency)), (109, gv (!(y5.State != y4.State)) (.pointer (some ((⟨b18_, 0, none⟩ : Addr).add 2)))), (110, gv (!(y5.State != y4.State)) (.int .i64 y4.Currency)), (111, gv (!(y5.State != y4.State)) (.bool (y6.Currency != y4.Currency))), (112, .bool c2), (113, .bool c2), (114, gv (!c2) v15_), (115, gv (!c2) (.int .i64 x)), (116, gv (!c2) (.pointer (some (ay7.add (Int.toNat x * 4))))), (117, gv (!c2) (.pointer (some ((ay7.add (Int.toNat x * 4)).add 2)))), (118, gv (!c2) (.int .i64 y7.Amount)), (119, gv (!c2) (.pointer (some ((⟨b18_, 0, none⟩ : Addr).add 3)))), (120, gv (!c2) (.int .i64 y4.Amount)), (121, gv (!c2) (.bool (decide (y4.Amount < y7.Amount)))), (122, .bool c3), (123, .bool c3), (124, gv (!c3) v15_), (125, gv (!c3) (.int .i64 x)), (126, gv (!c3) (.pointer (some (ay8.add (Int.toNat x * 4))))), (127, gv (!c3) (.pointer (some ((ay8.add (Int.toNat x * 4)).add 3)))), (128, gv (!c3) (.bool y8.Primary)), (129, gv (!c3) (.int .i64 x)), (130, gv (!c3) (.bool (x == 0))), (131, gv (!c3) (.bool (y8.Primary != (x == 0)))), (132, .bool c4), (133, .bool c4), (134, gv (!c4) (.int .i64 x)), (135, gv (!c4) (.bool (x == 0))), (136, gv (!c4) (.bool (x == 0))), (137, gv ((!c4) && (x == 0)) v15_), (138, gv ((!c4) && (x == 0)) (.int .i64 x)), (139, gv ((!c4) && (x == 0)) (.pointer (some (ay9.add (Int.toNat x * 4))))), (140, gv ((!c4) && (x == 0)) (.pointer (some ((ay9.add (Int.toNat x * 4)).add 2)))), (141, gv ((!c4) && (x == 0)) (.int .i64 y9.Amount)), (142, gv ((!c4) && (x == 0)) (.pointer (some ((⟨b18_, 0, none⟩ : Addr).add 3)))), (143, gv ((!c4) && (x == 0)) (.int .i64 y4.Amount)), (144, gv ((!c4) && (x == 0)) (.bool (y9.Amount != y4.Amount))), (145, gv (!c4) (.bool c5)), (146, .bool c6)] (by kernel_rfl) ⟨fun ρz wz hE hA ⟨e15, _⟩ _ => core_val rfl rfl (o_move (e15.trans h15)),
 fun ρz wz hE hA ⟨e17, _⟩ _ => core_val rfl rfl (o_move (e17.trans h17)),
 fun ρz wz hE hA _ ⟨u0, u1, _⟩ => core_val rfl rfl (o_indexAddr (u0.trans hvy5) u1 (ia_38 hiy5)),
 fun ρz wz hE hA _ ⟨u2, _⟩ => core_val rfl rfl (o_fieldAddr u2 (fa_48_0 _ _)),
 fun ρz wz hE hA _ ⟨u3, _⟩ => core_val rfl rfl (o_load u3 (run_load1 (lr_3 _ _) (CA.sub ((hAy5.exn (hA rfl)).ca) 0 1))),
 fun ρz wz hE hA ⟨e18, _⟩ _ => core_val rfl rfl (o_fieldAddr (e18.trans h18) (fa_43_0 _ _)),
 fun ρz wz hE hA _ ⟨u5, _⟩ => core_val rfl rfl (o_load u5 (run_load1 (lr_3 _ _) (CA.sub ((Hb_b18_.exn (hA rfl)).ca) 0 1))),
 fun ρz wz hE hA _ ⟨u4, u6, _⟩ => core_val rfl rfl (o_neq u4 u6 rfl),
 fun ρz wz hE hA _ ⟨u7, _⟩ => core_val rfl rfl (o_move u7),
 fun ρz wz hE hA ⟨e15, _⟩ ⟨u8, _⟩ => gIf rfl rfl (yF rfl u8) fun gc F hF => core_val rfl hF (o_move (e15.trans h15)),
 fun ρz wz hE hA ⟨e17, _⟩ ⟨u8, _⟩ => gIf rfl rfl (yF rfl u8) fun gc F hF => core_val rfl hF (o_move (e17.trans h17)),
 fun ρz wz hE hA _ ⟨u8, u9, u10, _⟩ => gIf rfl rfl (yF rfl u8) fun gc F hF => core_val rfl hF (o_indexAddr ((gt gc u9).trans (hvy6 gc)) (gt gc u10) (ia_38 (hiy6 gc))),
 fun ρz wz hE hA _ ⟨u8, u11, _⟩ => gIf rfl rfl (yF rfl u8) fun gc F hF => core_val rfl hF (o_fieldAddr (gt gc u11) (fa_48_1 _ _)),
 fun ρz wz hE hA _ ⟨u8, u12, _⟩ => gIf rfl rfl (yF rfl u8) fun gc F hF => core_val rfl hF (o_load (gt gc u12) (run_load1 (lr_3 _ _) (CA.sub (((hAy6 gc).exn (hA rfl)).ca) 1 1))),
 fun ρz wz hE hA ⟨e18, _⟩ ⟨u8, _⟩ => gIf rfl rfl (yF rfl u8) fun gc F hF => core_val rfl hF (o_fieldAddr (e18.trans h18) (fa_43_2 _ _)),
 fun ρz wz hE hA _ ⟨u8, u14, _⟩ => gIf rfl rfl (yF rfl u8) fun gc F hF => core_val rfl hF (o_load (gt gc u14) (run_load1 (lr_3 _ _) (CA.sub ((Hb_b18_.exn (hA rfl)).ca) 2 1))),
 fun ρz wz hE hA _ ⟨u8, u13, u15, _⟩ => gIf rfl rfl (yF rfl u8) fun gc F hF => core_val rfl hF (o_neq (gt gc u13) (gt gc u15) rfl),
 fun ρz wz hE hA _ ⟨u8, u16, _⟩ => core_valE rfl rfl (congrArg Value.bool hc2) (o_pick_or u8 rfl u16),
 fun ρz wz hE hA _ ⟨u17, _⟩ => core_val rfl rfl (o_move u17),
 fun ρz wz hE hA ⟨e15, _⟩ ⟨u18, _⟩ => gIf rfl rfl (yF rfl u18) fun gc F hF => core_val rfl hF (o_move (e15.trans h15)),
 fun ρz wz hE hA ⟨e17, _⟩ ⟨u18, _⟩ => gIf rfl rfl (yF rfl u18) fun gc F hF => core_val rfl hF (o_move (e17.trans h17)),
 fun ρz wz hE hA _ ⟨u18, u19, u20, _⟩ => gIf rfl rfl (yF rfl u18) fun gc F hF => core_val rfl hF (o_indexAddr ((gt gc u19).trans (hvy7 gc)) (gt gc u20) (ia_38 (hiy7 gc))),
 fun ρz wz hE hA _ ⟨u18, u21, _⟩ => gIf rfl rfl (yF rfl u18) fun gc F hF => core_val rfl hF (o_fieldAddr (gt gc u21) (fa_48_2 _ _)),
 fun ρz wz hE hA _ ⟨u18, u22, _⟩ => gIf rfl rfl (yF rfl u18) fun gc F hF => core_val rfl hF (o_load (gt gc u22) (run_load1 (lr_3 _ _) (CA.sub (((hAy7 gc).exn (hA rfl)).ca) 2 1))),
 fun ρz wz hE hA ⟨e18, _⟩ ⟨u18, _⟩ => gIf rfl rfl (yF rfl u18) fun gc F hF => core_val rfl hF (o_fieldAddr (e18.trans h18) (fa_43_3 _ _)),
 fun ρz wz hE hA _ ⟨u18, u24, _⟩ => gIf rfl rfl (yF rfl u18) fun gc F hF => core_val rfl hF (o_load (gt gc u24) (run_load1 (lr_3 _ _) (CA.sub ((Hb_b18_.exn (hA rfl)).ca) 3 1))),
 fun ρz wz hE hA _ ⟨u18, u23, u25, _⟩ => gIf rfl rfl (yF rfl u18) fun gc F hF => core_val rfl hF (o_gtr (gt gc u23) (gt gc u25) rfl),
 fun ρz wz hE hA _ ⟨u18, u26, _⟩ => core_valE rfl rfl (congrArg Value.bool hc3) (o_pick_or u18 rfl u26),
 fun ρz wz hE hA _ ⟨u27, _⟩ => core_val rfl rfl (o_move u27),
 fun ρz wz hE hA ⟨e15, _⟩ ⟨u28, _⟩ => gIf rfl rfl (yF rfl u28) fun gc F hF => core_val rfl hF (o_move (e15.trans h15)),
 fun ρz wz hE hA ⟨e17, _⟩ ⟨u28, _⟩ => gIf rfl rfl (yF rfl u28) fun gc F hF => core_val rfl hF (o_move (e17.trans h17)),
 fun ρz wz hE hA _ ⟨u28, u29, u30, _⟩ => gIf rfl rfl (yF rfl u28) fun gc F hF => core_val rfl hF (o_indexAddr ((gt gc u29).trans (hvy8 gc)) (gt gc u30) (ia_38 (hiy8 gc))),
 fun ρz wz hE hA _ ⟨u28, u31, _⟩ => gIf rfl rfl (yF rfl u28) fun gc F hF => core_val rfl hF (o_fieldAddr (gt gc u31) (fa_48_3 _ _)),
 fun ρz wz hE hA _ ⟨u28, u32, _⟩ => gIf rfl rfl (yF rfl u28) fun gc F hF => core_val rfl hF (o_load (gt gc u32) (run_load1 (lr_4 _ _) (CA.sub (((hAy8 gc).exn (hA rfl)).ca) 3 1))),
 fun ρz wz hE hA ⟨e17, _⟩ ⟨u28, _⟩ => gIf rfl rfl (yF rfl u28) fun gc F hF => core_val rfl hF (o_move (e17.trans h17)),
 fun ρz wz hE hA _ ⟨u28, u34, _⟩ => gIf rfl rfl (yF rfl u28) fun gc F hF => core_val rfl hF (o_eql (gt gc u34) rfl rfl),
 fun ρz wz hE hA _ ⟨u28, u33, u35, _⟩ => gIf rfl rfl (yF rfl u28) fun gc F hF => core_val rfl hF (o_neqB (gt gc u33) (gt gc u35) (by kernel_rfl) rfl),
 fun ρz wz hE hA _ ⟨u28, u36, _⟩ => core_valE rfl rfl (congrArg Value.bool hc4) (o_pick_or u28 rfl u36),
 fun ρz wz hE hA _ ⟨u37, _⟩ => core_val rfl rfl (o_move u37),
 fun ρz wz hE hA ⟨e17, _⟩ ⟨u38, _⟩ => gIf rfl rfl (yF rfl u38) fun gc F hF => core_val rfl hF (o_move (e17.trans h17)),
 fun ρz wz hE hA _ ⟨u38, u39, _⟩ => gIf rfl rfl (yF rfl u38) fun gc F hF => core_val rfl hF (o_eql (gt gc u39) rfl rfl),
 fun ρz wz hE hA _ ⟨u38, u40, _⟩ => gIf rfl rfl (yF rfl u38) fun gc F hF => core_val rfl hF (o_move (gt gc u40)),
 fun ρz wz hE hA ⟨e15, _⟩ ⟨u41, _⟩ => gIf rfl rfl (yTG rfl u41) fun gc F hF => core_val rfl hF (o_move (e15.trans h15)),
 fun ρz wz hE hA ⟨e17, _⟩ ⟨u41, _⟩ => gIf rfl rfl (yTG rfl u41) fun gc F hF => core_val rfl hF (o_move (e17.trans h17)),
 fun ρz wz hE hA _ ⟨u41, u42, u43, _⟩ => gIf rfl rfl (yTG rfl u41) fun gc F hF => core_val rfl hF (o_indexAddr ((gt gc u42).trans (hvy9 gc)) (gt gc u43) (ia_38 (hiy9 gc))),
 fun ρz wz hE hA _ ⟨u41, u44, _⟩ => gIf rfl rfl (yTG rfl u41) fun gc F hF => core_val rfl hF (o_fieldAddr (gt gc u44) (fa_48_2 _ _)),
 fun ρz wz hE hA _ ⟨u41, u45, _⟩ => gIf rfl rfl (yTG rfl u41) fun gc F hF => core_val rfl hF (o_load (gt gc u45) (run_load1 (lr_3 _ _) (CA.sub (((hAy9 gc).exn (hA rfl)).ca) 2 1))),
 fun ρz wz hE hA ⟨e18, _⟩ ⟨u41, _⟩ => gIf rfl rfl (yTG rfl u41) fun gc F hF => core_val rfl hF (o_fieldAddr (e18.trans h18) (fa_43_3 _ _)),
 fun ρz wz hE hA _ ⟨u41, u47, _⟩ => gIf rfl rfl (yTG rfl u41) fun gc F hF => core_val rfl hF (o_load (gt gc u47) (run_load1 (lr_3 _ _) (CA.sub ((Hb_b18_.exn (hA rfl)).ca) 3 1))),
 fun ρz wz hE hA _ ⟨u41, u46, u48, _⟩ => gIf rfl rfl (yTG rfl u41) fun gc F hF => core_val rfl hF (o_neq (gt gc u46) (gt gc u48) rfl),
 fun ρz wz hE hA _ ⟨u38, u41, u49, _⟩ => gIf rfl rfl (yF rfl u38) fun gc F hF => core_valE rfl hF (congrArg Value.bool (hc5 gc)) (o_pick_and (gt gc u41) (gr gc u49) rfl),
 fun ρz wz hE hA _ ⟨u38, u50, _⟩ => core_valE rfl rfl (congrArg Value.bool hc6) (o_pick_or u38 rfl u50), trivial⟩ ?_
    intro ρ13 w13 hN hf hr
    have h146 : ρ13 146 = .bool c6 := hf 51 rfl
    obtain ⟨h9, h13, h15, h17⟩ := k4 hr h9 h13 h15 h17 rfl
    have Hg_0 := Hg_0.exn hN
    have Hf9 := Hf9.exn hN
    have Hf13 := Hf13.exn hN
    have Hf15 := Hf15.exn hN
    have hW := hW.trans hN
    have hsz := hW.size
    refine WP.cond rfl h146 (fun hb => ?_) (fun hb => ?_)
    · have hF := (if_pos hb).symm.trans hF
      refine WP.seq ?_
      refine WP.rb mixed [[]] [[]] [(8, .bool false)] (by kernel_rfl) ⟨fun ρz wz hE hA _ _ => core_val rfl rfl (o_assign rfl), trivial⟩ ?_
      intro ρ14 w14 hN hf hr
      have h8 : ρ14 8 = .bool false := hf 0 rfl
      have Hg_0 := Hg_0.exn hN
      have hW := hW.trans hN
      have hsz := hW.size
      refine WP.ret ?_
      show retQ Tryd.prog 147 Tryd.f9 (fun v w1 => v = .bool r ∧ Ext noG w0 w1) .ret ρ14 w14
      obtain rfl := Option.some.inj hF
      exact res1 rfl (by decide) h8 ⟨rfl, hW⟩
    have hF := (if_neg (Bool.eq_false_iff.1 hb)).symm.trans hF
    refine WP.skip ?_
    refine WP.rv mixed [[], [0], [0, 1]] [[], [0], [1]] [[17], [], []] [(72, .int .i64 x), (73, .int .i64 (i64 (x + 1))), (17, .int .i64 (i64 (x + 1)))] (by kernel_rfl) ⟨fun ρz wz hE hA ⟨e17, _⟩ _ => core_val rfl rfl (o_move (e17.trans h17)),
 fun ρz wz hE hA _ ⟨u0, _⟩ => core_val rfl rfl (o_add u0 rfl rfl),
 fun ρz wz hE hA _ ⟨u1, _⟩ => core_val rfl rfl (o_assign u1), trivial⟩ ?_
    intro ρ15 w15 hN hf hr
    have h17 : ρ15 17 = .int .i64 (i64 (x + 1)) := hf 2 rfl
    obtain ⟨h9, h13, h15⟩ := k3 hr h9 h13 h15 rfl
    have Hg_0 := Hg_0.exn hN
    have Hf9 := Hf9.exn hN
    have Hf13 := Hf13.exn hN
    have Hf15 := Hf15.exn hN
    have hW := hW.trans hN
    have hsz := hW.size
    exact ⟨i64 (x + 1), h9, h13, h15, h17, Hg_0, Hf9, Hf13, Hf15, hW, hsz, (by first | exact hF | (rw [hrec_]; exact hF))⟩
  have hF := (if_neg (Bool.eq_false_iff.1 hb)).symm.trans hF
  refine WP.exit ?_
  refine thenQ_exit ?_
  refine thenQ_exit ?_
  refine blockQ_hit ?_
  refine WP.seq ?_
  refine WP.rb mixed [[]] [[]] [(8, .bool true)] (by kernel_rfl) ⟨fun ρz wz hE hA _ _ => core_val rfl rfl (o_assign rfl), trivial⟩ ?_
  intro ρ16 w16 hN hf hr
  have h8 : ρ16 8 = .bool true := hf 0 rfl
  have Hg_0 := Hg_0.exn hN
  have hW := hW.trans hN
  have hsz := hW.size
  refine WP.ret ?_
  show retQ Tryd.prog 147 Tryd.f9 (fun v w1 => v = .bool r ∧ Ext noG w0 w1) .ret ρ16 w16
  obtain rfl := Option.some.inj hF
  exact res1 rfl (by decide) h8 ⟨rfl, hW⟩

set_option maxHeartbeats 4000000 in
theorem pensionlaw24_FamilyPaymentsIgnoreOrder_ok {w0 : World} (Hg_0 : GR [Value.int .i64 1, Value.int .i64 1] noG w0 0) (d_ : List pensionlaw24_Raw) (i_ : Int) (p_ : List Int) (p_2 : Int) (p_3 : Int) {v_d_ : Value} (H_d_ : RepSl pensionlaw24_Raw.R noG w0 v_d_ d_) {v_p_ : Value} (H_p_ : RepSl intR noG w0 v_p_ p_) {r : Bool} (hF : pensionlaw24_FamilyPaymentsIgnoreOrder d_ i_ p_ p_2 p_3 = some r) :
    Calls Tryd.prog 10 #[v_d_, .int .i64 i_, v_p_, .int .i64 p_2, .int .i64 p_3] w0 fun e w1 => e = .returned (.bool r) ∧ Ext noG w0 w1 := by
  refine (Calls.start (P := Tryd.prog) (args := [v_d_, .int .i64 i_, v_p_, .int .i64 p_2, .int .i64 p_3]) (R := fun v w1 => v = .bool r ∧ Ext noG w0 w1) (n := 81) (w := w0) Tryd.func10 rfl rfl (Nat.le_of_ble_eq_true rfl) (fun ρ hargs => ?_)).mono (fun e w1 ⟨v, he, hv, hE⟩ => ⟨hv ▸ he, hE⟩)
  have h0 := hargs 0 _ rfl
  have h1 := hargs 1 _ rfl
  have h2 := hargs 2 _ rfl
  have h3 := hargs 3 _ rfl
  have h4 := hargs 4 _ rfl
  have hW := Ext.refl noG w0
  have hsz := Nat.le_refl w0.heap.size
  obtain ⟨_, _, hs_H_d_, _, _⟩ := RepSl.shape H_d_
  have H_d_ := H_d_.start
  obtain ⟨_, _, hs_H_p_, _, _⟩ := RepSl.shape H_p_
  have H_p_ := H_p_.start
  have Hg_0 := Hg_0.start
  rw [pensionlaw24_FamilyPaymentsIgnoreOrder] at hF
  refine WP.seq ?_
  refine WP.rb mixed [[]] [[]] [(10, .bool false)] (by kernel_rfl) ⟨fun ρz wz hE hA _ _ => core_val rfl rfl (o_assign rfl), trivial⟩ ?_
  intro ρ1 w1 hN hf hr
  obtain ⟨h0, h1, h2, h3, h4⟩ := k5 hr h0 h1 h2 h3 h4 rfl
  have H_d_ := H_d_.exn hN
  have H_p_ := H_p_.exn hN
  have Hg_0 := Hg_0.exn hN
  have hW := hW.trans hN
  have hsz := hW.size
  refine WP.seq ?_
  obtain ⟨z, hz, hF⟩ := obind hF
  obtain ⟨z2, hz2, hF⟩ := obind hF
  obtain ⟨z3, hz3, hF⟩ := obind hF
  obtain ⟨z4, hz4, hF⟩ := obind hF
  refine WP.rg mixed [[], [0], [], [2], [], [4], [], [6], [7], [1], [3], [5], [8]] [[], [0], [], [2], [], [4], [], [6], [7], [1], [3], [5], [8]] [[0], [], [2], [], [3], [], [1], [], [], [], [], [], []] [val 20 (v_d_), (21, fun u wz => Own w0.heap.size 43 4 Right.cells wz u z ∧ ∀ b, u.ownBlock = some b → w1.heap.size ≤ b), val 22 (v_p_), (23, fun u wz => Own w0.heap.size 57 4 Rate.cells wz u z2 ∧ ∀ b, u.ownBlock = some b → w1.heap.size ≤ b), val 24 (.int .i64 p_2), val 25 (.int .i64 z3), val 26 (.int .i64 i_), val 27 (.int .i64 z4), val 28 (.int .i64 (i64 (z4 - 1))), (11, fun u wz => Own w0.heap.size 43 4 Right.cells wz u z ∧ ∀ b, u.ownBlock = some b → w1.heap.size ≤ b), (12, fun u wz => Own w0.heap.size 57 4 Rate.cells wz u z2 ∧ ∀ b, u.ownBlock = some b → w1.heap.size ≤ b), val 13 (.int .i64 z3), val 14 (.int .i64 (i64 (z4 - 1)))] (by kernel_rfl) ⟨sV, fun _ _ _ hE ⟨hO, hf⟩ => ⟨hO.exn hE, hf⟩, sV, fun _ _ _ hE ⟨hO, hf⟩ => ⟨hO.exn hE, hf⟩, sV, sV, sV, sV, sV, fun _ _ _ hE ⟨hO, hf⟩ => ⟨hO.exn hE, hf⟩, fun _ _ _ hE ⟨hO, hf⟩ => ⟨hO.exn hE, hf⟩, sV, sV, trivial⟩ ⟨fun ρz wz hE hA ⟨e0, _⟩ _ => core_val rfl rfl (o_move (e0.trans h0)),
 fun ρz wz hE hA _ ⟨u0, _⟩ => core_callR rfl (call_args1 u0) cf_11 ((pensionlaw24_List_ok  _ (H_d_.exn (hA rfl)).no hz).mono (fun e w1 ⟨v, he, hE1, hO⟩ => ⟨v, he, hE1, hO.base (Nat.le_trans hsz hE.size), fun b hb => Nat.le_trans hE.size (hO.lt hb).1⟩)),
 fun ρz wz hE hA ⟨e2, _⟩ _ => core_val rfl rfl (o_move (e2.trans h2)),
 fun ρz wz hE hA _ ⟨u2, _⟩ => core_callR rfl (call_args1 u2) cf_12 ((pensionplain_Rates_ok  _ (H_p_.exn (hA rfl)).no hz2).mono (fun e w1 ⟨v, he, hE1, hO⟩ => ⟨v, he, hE1, hO.base (Nat.le_trans hsz hE.size), fun b hb => Nat.le_trans hE.size (hO.lt hb).1⟩)),
 fun ρz wz hE hA ⟨e3, _⟩ _ => core_val rfl rfl (o_move (e3.trans h3)),
 fun ρz wz hE hA _ ⟨u4, _⟩ => core_call rfl (call_args2 u4 rfl) cf_13 (pensionplain_Mod_ok  _ _  hz3),
 fun ρz wz hE hA ⟨e1, _⟩ _ => core_val rfl rfl (o_move (e1.trans h1)),
 fun ρz wz hE hA _ ⟨u6, _⟩ => core_call rfl (call_args2 u6 rfl) cf_13 (pensionplain_Mod_ok  _ _  hz4),
 fun ρz wz hE hA _ ⟨u7, _⟩ => core_val rfl rfl (o_sub u7 rfl rfl),
 fun ρz wz hE hA _ ⟨⟨hO1, hfr1⟩, _⟩ => core_copy rfl rfl (o_assign rfl) ⟨hO1, hfr1⟩,
 fun ρz wz hE hA _ ⟨⟨hO3, hfr3⟩, _⟩ => core_copy rfl rfl (o_assign rfl) ⟨hO3, hfr3⟩,
 fun ρz wz hE hA _ ⟨u5, _⟩ => core_val rfl rfl (o_assign u5),
 fun ρz wz hE hA _ ⟨u8, _⟩ => core_val rfl rfl (o_assign u8), trivial⟩ ?_
  intro ρ2 w2 hN hf hr
  obtain ⟨v11_, h11⟩ : ∃ v, ρ2 11 = v := ⟨_, rfl⟩
  have hq11 : (fun u wz => Own w0.heap.size 43 4 Right.cells wz u z ∧ ∀ b, u.ownBlock = some b → w1.heap.size ≤ b) (ρ2 11) w2 := hf 9 rfl
  rw [h11] at hq11
  obtain ⟨hq11, hfr11⟩ := hq11
  obtain ⟨v12_, h12⟩ : ∃ v, ρ2 12 = v := ⟨_, rfl⟩
  have hq12 : (fun u wz => Own w0.heap.size 57 4 Rate.cells wz u z2 ∧ ∀ b, u.ownBlock = some b → w1.heap.size ≤ b) (ρ2 12) w2 := hf 10 rfl
  rw [h12] at hq12
  obtain ⟨hq12, hfr12⟩ := hq12
  have h13 : ρ2 13 = .int .i64 z3 := hf 11 rfl
  have h14 : ρ2 14 = .int .i64 (i64 (z4 - 1)) := hf 12 rfl
  have h4 := (hr 4 rfl).trans h4
  have Hg_0 := Hg_0.exn hN
  have hW := hW.trans hN
  have Hf11 : RepSl Right.R (gov noG (.slice none 0 0)) w2 v11_ z := hq11.rep (fun b hb hg => hg.elim id (fun h2 => by simp [Value.ownBlock] at h2))
  obtain ⟨_, _, hs_Hf11, _, _⟩ := RepSl.shape Hf11
  have Hf12 : RepSl Rate.R (gov noG (.slice none 0 0)) w2 v12_ z2 := hq12.rep (fun b hb hg => hg.elim id (fun h2 => by simp [Value.ownBlock] at h2))
  obtain ⟨_, _, hs_Hf12, _, _⟩ := RepSl.shape Hf12
  have hsz := hW.size
  refine WP.seq ?_
  refine WP.seq ?_
  refine WP.rb mixed [[], [0], [1]] [[11], [], []] [(29, v11_), (30, .int .i64 (z.length : Int)), (31, .bool ((z.length : Int) == 0))] (by kernel_rfl) ⟨fun ρz wz hE hA ⟨e11, _⟩ _ => core_val rfl rfl (o_move (e11.trans h11)),
 fun ρz wz hE hA _ ⟨u0, _⟩ => core_val rfl rfl (o_len (u0.trans hs_Hf11) len_24),
 fun ρz wz hE hA _ ⟨u1, _⟩ => core_val rfl rfl (o_eql u1 rfl rfl), trivial⟩ ?_
  intro ρ3 w3 hN hf hr
  have h31 : ρ3 31 = .bool ((z.length : Int) == 0) := hf 2 rfl
  obtain ⟨h4, h11, h12, h13, h14⟩ := k5 hr h4 h11 h12 h13 h14 rfl
  have Hg_0 := Hg_0.exn hN
  have Hf11 := Hf11.exn hN
  have Hf12 := Hf12.exn hN
  have hW := hW.trans hN
  have hsz := hW.size
  refine WP.cond rfl h31 (fun hb => ?_) (fun hb => ?_)
  · have hF := (if_pos hb).symm.trans hF
    refine WP.seq ?_
    obtain ⟨z5, hz5, hF⟩ := obind hF
    refine WP.rb mixed [[], [0]] [[], []] [(32, .bool z5), (10, .bool z5)] (by kernel_rfl) ⟨fun ρz wz hE hA _ _ => core_call rfl call_args0 cf_16 (pensionlaw24_awake_ok (Hg_0.exn (hA rfl)).no   hz5),
 fun ρz wz hE hA _ ⟨u0, _⟩ => core_val rfl rfl (o_assign u0), trivial⟩ ?_
    intro ρ4 w4 hN hf hr
    have h10 : ρ4 10 = .bool z5 := hf 1 rfl
    have Hg_0 := Hg_0.exn hN
    have hW := hW.trans hN
    have hsz := hW.size
    refine WP.ret ?_
    show retQ Tryd.prog 81 Tryd.f10 (fun v w1 => v = .bool r ∧ Ext noG w0 w1) .ret ρ4 w4
    obtain rfl := Option.some.inj hF
    exact res1 rfl (by decide) h10 ⟨rfl, hW⟩
  have hF := (if_neg (Bool.eq_false_iff.1 hb)).symm.trans hF
  refine WP.skip ?_
  refine WP.seq ?_
  obtain ⟨z6, hz6, hF⟩ := obind hF
  refine WP.rb mixed [[], [], [1], [0, 2], [3]] [[4], [11], [], [], []] [(33, .int .i64 p_3), (34, v11_), (35, .int .i64 (z.length : Int)), (36, .int .i64 z6), (15, .int .i64 z6)] (by kernel_rfl) ⟨fun ρz wz hE hA ⟨e4, _⟩ _ => core_val rfl rfl (o_move (e4.trans h4)),
 fun ρz wz hE hA ⟨e11, _⟩ _ => core_val rfl rfl (o_move (e11.trans h11)),
 fun ρz wz hE hA _ ⟨u1, _⟩ => core_val rfl rfl (o_len (u1.trans hs_Hf11) len_24),
 fun ρz wz hE hA _ ⟨u0, u2, _⟩ => core_call rfl (call_args2 u0 u2) cf_13 (pensionplain_Mod_ok  _ _  hz6),
 fun ρz wz hE hA _ ⟨u3, _⟩ => core_val rfl rfl (o_assign u3), trivial⟩ ?_
  intro ρ5 w5 hN hf hr
  have h15 : ρ5 15 = .int .i64 z6 := hf 4 rfl
  obtain ⟨h11, h12, h13, h14⟩ := k4 hr h11 h12 h13 h14 rfl
  have Hg_0 := Hg_0.exn hN
  have Hf11 := Hf11.exn hN
  have Hf12 := Hf12.exn hN
  have hW := hW.trans hN
  have hsz := hW.size
  refine WP.seq ?_
  obtain ⟨z7, hz7, hF⟩ := obind hF
  refine WP.rg mixed [[], [], [], [], [0, 1, 2, 3], [4], [5], [5], [6], [7]] [[], [], [], [], [0, 1, 2, 3], [4], [5], [5], [6], [7]] [[11], [14], [12], [13], [], [], [], [], [], []] [val 38 (v11_), val 39 (.int .i64 (i64 (z4 - 1))), val 40 (v12_), val 41 (.int .i64 z3), (42, fun u wz => ∃ q : Value, u = .tuple #[q, .int .i64 z7.2] ∧ Own w0.heap.size 48 4 FamilyPay.cells wz q z7.1 ∧ ∀ b, q.ownBlock = some b → w5.heap.size ≤ b), (37, fun u wz => ∃ q : Value, u = .tuple #[q, .int .i64 z7.2] ∧ Own w0.heap.size 48 4 FamilyPay.cells wz q z7.1 ∧ ∀ b, q.ownBlock = some b → w5.heap.size ≤ b), (43, fun u wz => Own w0.heap.size 48 4 FamilyPay.cells wz u z7.1 ∧ ∀ b, u.ownBlock = some b → w5.heap.size ≤ b), val 44 (.int .i64 z7.2), (16, fun u wz => Own w0.heap.size 48 4 FamilyPay.cells wz u z7.1 ∧ ∀ b, u.ownBlock = some b → w5.heap.size ≤ b), val 17 (.int .i64 z7.2)] (by kernel_rfl) ⟨sV, sV, sV, sV, fun _ _ _ hE ⟨q, ht, hO, hf⟩ => ⟨q, ht, hO.exn hE, hf⟩, fun _ _ _ hE ⟨q, ht, hO, hf⟩ => ⟨q, ht, hO.exn hE, hf⟩, fun _ _ _ hE ⟨hO, hf⟩ => ⟨hO.exn hE, hf⟩, sV, fun _ _ _ hE ⟨hO, hf⟩ => ⟨hO.exn hE, hf⟩, sV, trivial⟩ ⟨fun ρz wz hE hA ⟨e11, _⟩ _ => core_val rfl rfl (o_move (e11.trans h11)),
 fun ρz wz hE hA ⟨e14, _⟩ _ => core_val rfl rfl (o_move (e14.trans h14)),
 fun ρz wz hE hA ⟨e12, _⟩ _ => core_val rfl rfl (o_move (e12.trans h12)),
 fun ρz wz hE hA ⟨e13, _⟩ _ => core_val rfl rfl (o_move (e13.trans h13)),
 fun ρz wz hE hA _ ⟨u0, u1, u2, u3, _⟩ => core_callR rfl (call_args4 u0 u1 u2 u3) cf_21 ((family_Payments_ok (Hg_0.exn (hA rfl)).no _ _ _ _ (Hf11.exn (hA rfl)).no (Hf12.exn (hA rfl)).no hz7).mono (fun e w1 ⟨v, he, hE1, q, hv, hO⟩ => ⟨v, he, hE1, q, hv, hO.base (Nat.le_trans hsz hE.size), fun b hb => Nat.le_trans hE.size (hO.lt hb).1⟩)),
 fun ρz wz hE hA _ ⟨⟨q4, ht4, hO4, hfr4⟩, _⟩ => core_copy rfl rfl (o_move rfl) ⟨q4, ht4, hO4, hfr4⟩,
 fun ρz wz hE hA _ ⟨⟨q5, ht5, hO5, hfr5⟩, _⟩ => core_copy rfl rfl (o_extract ht5 (by kernel_rfl)) ⟨hO5, hfr5⟩,
 fun ρz wz hE hA _ ⟨⟨q5, ht5, hO5, hfr5⟩, _⟩ => core_val rfl rfl (o_extract ht5 (by kernel_rfl)),
 fun ρz wz hE hA _ ⟨⟨hO6, hfr6⟩, _⟩ => core_copy rfl rfl (o_assign rfl) ⟨hO6, hfr6⟩,
 fun ρz wz hE hA _ ⟨u7, _⟩ => core_val rfl rfl (o_assign u7), trivial⟩ ?_
  intro ρ6 w6 hN hf hr
  obtain ⟨v16_, h16⟩ : ∃ v, ρ6 16 = v := ⟨_, rfl⟩
  have hq16 : (fun u wz => Own w0.heap.size 48 4 FamilyPay.cells wz u z7.1 ∧ ∀ b, u.ownBlock = some b → w5.heap.size ≤ b) (ρ6 16) w6 := hf 8 rfl
  rw [h16] at hq16
  obtain ⟨hq16, hfr16⟩ := hq16
  have h17 : ρ6 17 = .int .i64 z7.2 := hf 9 rfl
  obtain ⟨h11, h12, h13, h14, h15⟩ := k5 hr h11 h12 h13 h14 h15 rfl
  have Hg_0 := Hg_0.exn hN
  have Hf11 := Hf11.exn hN
  have Hf12 := Hf12.exn hN
  have hW := hW.trans hN
  have Hf16 : RepSl FamilyPay.R (gov noG (.slice none 0 0)) w6 v16_ z7.1 := hq16.rep (fun b hb hg => hg.elim id (fun h2 => by simp [Value.ownBlock] at h2))
  obtain ⟨_, _, hs_Hf16, _, _⟩ := RepSl.shape Hf16
  have hsz := hW.size
  refine WP.seq ?_
  obtain ⟨s, hs, hF⟩ := obind hF
  obtain ⟨l, hl, hF⟩ := obind hF
  obtain ⟨s2, hs2, hF⟩ := obind hF
  obtain ⟨l2, hl2, hF⟩ := obind hF
  obtain ⟨z8, hz8, hF⟩ := obind hF
  refine WP.region mixed [[], [], [0, 1], [2], [], [], [4, 5], [3, 6], [], [], [], [7, 8, 9, 10], [7, 11], [7, 12], [7, 12], [7, 13], [7, 14]] [[], [], [0, 1], [2], [], [], [4, 5], [3, 6], [], [], [], [7, 8, 9, 10], [11], [12], [12], [13], [14]] [[11], [15], [], [], [11], [15], [], [], [14], [12], [13], [], [], [], [], [], []] [7] [(3, 7)] [val 46 (v11_), val 47 (.int .i64 z6), (48, fun u wz => RepSl Right.R (fun b => w6.heap.size ≤ b) wz u s), (49, fun u wz => Own w0.heap.size 43 4 Right.cells wz u l ∧ ∀ b, u.ownBlock = some b → w6.heap.size ≤ b), val 50 (v11_), val 51 (.int .i64 z6), (52, fun u wz => RepSl Right.R (fun b => w6.heap.size ≤ b) wz u s2), (53, fun u wz => Own w0.heap.size 43 4 Right.cells wz u l2 ∧ ∀ b, u.ownBlock = some b → w6.heap.size ≤ b), val 54 (.int .i64 (i64 (z4 - 1))), val 55 (v12_), val 56 (.int .i64 z3), (57, fun u wz => ∃ q : Value, u = .tuple #[q, .int .i64 z8.2] ∧ Own w0.heap.size 48 4 FamilyPay.cells wz q z8.1 ∧ ∀ b, q.ownBlock = some b → w6.heap.size ≤ b), (45, fun u wz => ∃ q : Value, u = .tuple #[q, .int .i64 z8.2] ∧ Own w0.heap.size 48 4 FamilyPay.cells wz q z8.1 ∧ ∀ b, q.ownBlock = some b → w6.heap.size ≤ b), (58, fun u wz => Own w0.heap.size 48 4 FamilyPay.cells wz u z8.1 ∧ ∀ b, u.ownBlock = some b → w6.heap.size ≤ b), val 59 (.int .i64 z8.2), (18, fun u wz => Own w0.heap.size 48 4 FamilyPay.cells wz u z8.1 ∧ ∀ b, u.ownBlock = some b → w6.heap.size ≤ b), val 19 (.int .i64 z8.2)] (fun b => w6.heap.size ≤ b) (by kernel_rfl) ⟨sV, sV, fun _ _ _ hE h => h.ext hE, fun _ _ _ hE ⟨hO, hf⟩ => ⟨hO.exn hE, hf⟩, sV, sV, fun _ _ _ hE h => h.ext hE, fun _ _ _ hE ⟨hO, hf⟩ => ⟨hO.exn hE, hf⟩, sV, sV, sV, fun _ _ _ hE ⟨q, ht, hO, hf⟩ => ⟨q, ht, hO.exn hE, hf⟩, fun _ _ _ hE ⟨q, ht, hO, hf⟩ => ⟨q, ht, hO.exn hE, hf⟩, fun _ _ _ hE ⟨hO, hf⟩ => ⟨hO.exn hE, hf⟩, sV, fun _ _ _ hE ⟨hO, hf⟩ => ⟨hO.exn hE, hf⟩, sV, trivial⟩ ⟨fun ρz wz hE hA ⟨e11, _⟩ _ => core_val rfl rfl (o_move (e11.trans h11)),
 fun ρz wz hE hA ⟨e15, _⟩ _ => core_val rfl rfl (o_move (e15.trans h15)),
 fun ρz wz hE hA _ ⟨u0, u1, _⟩ => core_cut (R := Right.R) rfl u0 si_24 sz_43 ((Hf11.weaken (fun b hb hg => absurd hb (Nat.not_lt.2 hg))).ext hE) hs (.inr (congrArg some u1)) (.inl ⟨rfl, rfl⟩) (fun _ h => h),
 fun ρz wz hE hA _ ⟨hR2, _⟩ => core_appendN (n := 4) (cells := Right.cells) (B := w0.heap.size) (w0 := w6) rfl  rfl rfl (fun _ => rfl) one_43 si_24 se_43 (by decide) (by decide) (Own.nil w0.heap.size 43 4 Right.cells wz) ⟨_, hR2⟩ hl (Nat.le_trans hsz hE.size) hE.size (fun v1 w1 h1 h2 => ⟨h1, fun b hb => (h2 b hb).resolve_left (by simp [Value.ownBlock])⟩),
 fun ρz wz hE hA ⟨e11, _⟩ _ => core_val rfl rfl (o_move (e11.trans h11)),
 fun ρz wz hE hA ⟨e15, _⟩ _ => core_val rfl rfl (o_move (e15.trans h15)),
 fun ρz wz hE hA _ ⟨u4, u5, _⟩ => core_cut (R := Right.R) rfl u4 si_24 sz_43 ((Hf11.weaken (fun b hb hg => absurd hb (Nat.not_lt.2 hg))).ext hE) hs2 (.inl ⟨rfl, rfl⟩) (.inr (congrArg some u5)) (fun _ h => h),
 fun ρz wz hE hA _ ⟨⟨hO3, hfr3⟩, hR6, _⟩ => core_append (n := 4) (cells := Right.cells) (B := w0.heap.size) (w0 := w6) rfl rfl (fun b hb => hfr3 b hb) rfl rfl (fun _ => rfl) one_43 si_24 se_43 (by decide) (by decide) hO3 ⟨_, hR6⟩ hl2 (Nat.le_trans hsz hE.size) hE.size (fun v1 w1 h1 h2 => ⟨h1, fun b hb => (h2 b hb).elim (hfr3 b) id⟩),
 fun ρz wz hE hA ⟨e14, _⟩ _ => core_val rfl rfl (o_move (e14.trans h14)),
 fun ρz wz hE hA ⟨e12, _⟩ _ => core_val rfl rfl (o_move (e12.trans h12)),
 fun ρz wz hE hA ⟨e13, _⟩ _ => core_val rfl rfl (o_move (e13.trans h13)),
 fun ρz wz hE hA _ ⟨⟨hO7, hfr7⟩, u8, u9, u10, _⟩ => core_callR rfl (call_args4 rfl u8 u9 u10) cf_21 ((family_Payments_ok (Hg_0.exn hE.fresh).no _ _ _ _ (hO7.rep (hn := fun _ => rfl) (G := noG) (fun _ _ h => h)).no ((Hf12.weaken (fun b hb hg => absurd hb (Nat.not_lt.2 hg))).ext hE).no hz8).mono (fun e w1 ⟨v, he, hE1, q, hv, hO⟩ => ⟨v, he, hE1, q, hv, hO.base (Nat.le_trans hsz hE.size), fun b hb => Nat.le_trans hE.size (hO.lt hb).1⟩)),
 fun ρz wz hE hA _ ⟨⟨q11, ht11, hO11, hfr11⟩, _⟩ => core_copy rfl rfl (o_move rfl) ⟨q11, ht11, hO11, hfr11⟩,
 fun ρz wz hE hA _ ⟨⟨q12, ht12, hO12, hfr12⟩, _⟩ => core_copy rfl rfl (o_extract ht12 (by kernel_rfl)) ⟨hO12, hfr12⟩,
 fun ρz wz hE hA _ ⟨⟨q12, ht12, hO12, hfr12⟩, _⟩ => core_val rfl rfl (o_extract ht12 (by kernel_rfl)),
 fun ρz wz hE hA _ ⟨⟨hO13, hfr13⟩, _⟩ => core_copy rfl rfl (o_assign rfl) ⟨hO13, hfr13⟩,
 fun ρz wz hE hA _ ⟨u14, _⟩ => core_val rfl rfl (o_assign u14), trivial⟩ ?_
  intro ρ7 w7 hE hN hf hr
  have hN := hE.fresh
  obtain ⟨v18_, h18⟩ : ∃ v, ρ7 18 = v := ⟨_, rfl⟩
  have hq18 : (fun u wz => Own w0.heap.size 48 4 FamilyPay.cells wz u z8.1 ∧ ∀ b, u.ownBlock = some b → w6.heap.size ≤ b) (ρ7 18) w7 := hf 15 rfl
  rw [h18] at hq18
  obtain ⟨hq18, hfr18⟩ := hq18
  have h19 : ρ7 19 = .int .i64 z8.2 := hf 16 rfl
  obtain ⟨h11, h16, h17⟩ := k3 hr h11 h16 h17 rfl
  have Hg_0 := Hg_0.exn hN
  have Hf11 := Hf11.exn hN
  have Hf16 := Hf16.exn hN
  have hW := hW.trans hN
  have Hf18 : RepSl FamilyPay.R (gov noG (.slice none 0 0)) w7 v18_ z8.1 := hq18.rep (fun b hb hg => hg.elim id (fun h2 => by simp [Value.ownBlock] at h2))
  obtain ⟨_, _, hs_Hf18, _, _⟩ := RepSl.shape Hf18
  have hsz := hW.size
  refine WP.seq ?_
  obtain ⟨z9, hz9, hF⟩ := obind hF
  obtain ⟨c, hc, hF⟩ := obind hF
  obtain ⟨z10, hz10, hc⟩ := andB hc
  have hc := andE hc
  refine WP.rb mixed [[], [0], [1], [1, 2], [1, 3], [4], [5], [5, 6], [5, 7], [8], [9], [9, 10], [9], [9, 12], [9, 11, 13], [9, 14], [15], [16], [16], [16, 17, 18], [16, 19], [20]] [[], [], [17], [], [], [], [19], [], [], [], [16], [], [11], [], [], [], [], [16], [18], [], [], []] [(60, .bool z9), (61, .bool z9), (62, gv (z9) (.int .i64 z7.2)), (63, gv (z9) (.bool (z7.2 == 0))), (64, .bool (z9 && (z7.2 == 0))), (65, .bool (z9 && (z7.2 == 0))), (66, gv ((z9 && (z7.2 == 0))) (.int .i64 z8.2)), (67, gv ((z9 && (z7.2 == 0))) (.bool (z8.2 == 0))), (68, .bool ((z9 && (z7.2 == 0)) && (z8.2 == 0))), (69, .bool ((z9 && (z7.2 == 0)) && (z8.2 == 0))), (70, gv (((z9 && (z7.2 == 0)) && (z8.2 == 0))) v16_), (71, gv (((z9 && (z7.2 == 0)) && (z8.2 == 0))) (.int .i64 (z7.1.length : Int))), (72, gv (((z9 && (z7.2 == 0)) && (z8.2 == 0))) v11_), (73, gv (((z9 && (z7.2 == 0)) && (z8.2 == 0))) (.int .i64 (z.length : Int))), (74, gv (((z9 && (z7.2 == 0)) && (z8.2 == 0))) (.bool ((z7.1.length : Int) == (z.length : Int)))), (75, .bool (((z9 && (z7.2 == 0)) && (z8.2 == 0)) && ((z7.1.length : Int) == (z.length : Int)))), (76, .bool (((z9 && (z7.2 == 0)) && (z8.2 == 0)) && ((z7.1.length : Int) == (z.length : Int)))), (77, gv ((((z9 && (z7.2 == 0)) && (z8.2 == 0)) && ((z7.1.length : Int) == (z.length : Int)))) v16_), (78, gv ((((z9 && (z7.2 == 0)) && (z8.2 == 0)) && ((z7.1.length : Int) == (z.length : Int)))) v18_), (79, gv ((((z9 && (z7.2 == 0)) && (z8.2 == 0)) && ((z7.1.length : Int) == (z.length : Int)))) (.bool z10)), (80, .bool c), (10, .bool c)] (by kernel_rfl) ⟨fun ρz wz hE hA _ _ => core_call rfl call_args0 cf_16 (pensionlaw24_awake_ok (Hg_0.exn (hA rfl)).no   hz9),
 fun ρz wz hE hA _ ⟨u0, _⟩ => core_val rfl rfl (o_move u0),
 fun ρz wz hE hA ⟨e17, _⟩ ⟨u1, _⟩ => gIf rfl rfl (yT rfl u1) fun gc F hF => core_val rfl hF (o_move (e17.trans h17)),
 fun ρz wz hE hA _ ⟨u1, u2, _⟩ => gIf rfl rfl (yT rfl u1) fun gc F hF => core_val rfl hF (o_eql (gt gc u2) rfl rfl),
 fun ρz wz hE hA _ ⟨u1, u3, _⟩ => core_val rfl rfl (o_pick_and u1 u3 rfl),
 fun ρz wz hE hA _ ⟨u4, _⟩ => core_val rfl rfl (o_move u4),
 fun ρz wz hE hA ⟨e19, _⟩ ⟨u5, _⟩ => gIf rfl rfl (yT rfl u5) fun gc F hF => core_val rfl hF (o_move (e19.trans h19)),
 fun ρz wz hE hA _ ⟨u5, u6, _⟩ => gIf rfl rfl (yT rfl u5) fun gc F hF => core_val rfl hF (o_eql (gt gc u6) rfl rfl),
 fun ρz wz hE hA _ ⟨u5, u7, _⟩ => core_val rfl rfl (o_pick_and u5 u7 rfl),
 fun ρz wz hE hA _ ⟨u8, _⟩ => core_val rfl rfl (o_move u8),
 fun ρz wz hE hA ⟨e16, _⟩ ⟨u9, _⟩ => gIf rfl rfl (yT rfl u9) fun gc F hF => core_val rfl hF (o_move (e16.trans h16)),
 fun ρz wz hE hA _ ⟨u9, u10, _⟩ => gIf rfl rfl (yT rfl u9) fun gc F hF => core_val rfl hF (o_len ((gt gc u10).trans hs_Hf16) len_38),
 fun ρz wz hE hA ⟨e11, _⟩ ⟨u9, _⟩ => gIf rfl rfl (yT rfl u9) fun gc F hF => core_val rfl hF (o_move (e11.trans h11)),
 fun ρz wz hE hA _ ⟨u9, u12, _⟩ => gIf rfl rfl (yT rfl u9) fun gc F hF => core_val rfl hF (o_len ((gt gc u12).trans hs_Hf11) len_24),
 fun ρz wz hE hA _ ⟨u9, u11, u13, _⟩ => gIf rfl rfl (yT rfl u9) fun gc F hF => core_val rfl hF (o_eql (gt gc u11) (gt gc u13) rfl),
 fun ρz wz hE hA _ ⟨u9, u14, _⟩ => core_val rfl rfl (o_pick_and u9 u14 rfl),
 fun ρz wz hE hA _ ⟨u15, _⟩ => core_val rfl rfl (o_move u15),
 fun ρz wz hE hA ⟨e16, _⟩ ⟨u16, _⟩ => gIf rfl rfl (yT rfl u16) fun gc F hF => core_val rfl hF (o_move (e16.trans h16)),
 fun ρz wz hE hA ⟨e18, _⟩ ⟨u16, _⟩ => gIf rfl rfl (yT rfl u16) fun gc F hF => core_val rfl hF (o_move (e18.trans h18)),
 fun ρz wz hE hA _ ⟨u16, u17, u18, _⟩ => gIf rfl rfl (yT rfl u16) fun gc F hF => core_call hF (call_args2 (gt gc u17) (gt gc u18)) cf_23 (pensionplain_Same_of_api_FamilyPay_ok  _ _ (Hf16.exn (hA rfl)).no (Hf18.exn (hA rfl)).no (hz10 gc)),
 fun ρz wz hE hA _ ⟨u16, u19, _⟩ => core_valE rfl rfl (congrArg Value.bool hc) (o_pick_and u16 u19 rfl),
 fun ρz wz hE hA _ ⟨u20, _⟩ => core_val rfl rfl (o_assign u20), trivial⟩ ?_
  intro ρ8 w8 hN hf hr
  have h10 : ρ8 10 = .bool c := hf 21 rfl
  have Hg_0 := Hg_0.exn hN
  have hW := hW.trans hN
  have hsz := hW.size
  refine WP.ret ?_
  show retQ Tryd.prog 81 Tryd.f10 (fun v w1 => v = .bool r ∧ Ext noG w0 w1) .ret ρ8 w8
  obtain rfl := Option.some.inj hF
  exact res1 rfl (by decide) h10 ⟨rfl, hW⟩
end Go.PL
