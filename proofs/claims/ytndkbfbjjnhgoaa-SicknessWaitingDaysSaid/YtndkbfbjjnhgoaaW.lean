/- The translated code computes the Lean functions (printed by a program). -/
import Derived.Test.YtndkbfbjjnhgoaaW2
set_option linter.unusedVariables false
set_option linter.unusedSimpArgs false
set_option maxRecDepth 10000
namespace Go.PL
open Go Go.Proofs

set_option maxHeartbeats 4000000 in
theorem pensionref1_add_ok {w0 : World} (l_ : List Span) (s_ : Span) {v_l_ : Value} (H_l_ : RepSl Span.R noG w0 v_l_ l_) {r : (List Span)} (hF : pensionref1_add l_ s_ = some r) :
    Calls Try.prog 49 #[v_l_, Span.val s_] w0 fun e w1 => ∃ v, e = .returned v ∧ Ext noG w0 w1 ∧ Own w0.heap.size 31 2 Span.cells w1 v r := by
  refine (Calls.start (P := Try.prog) (args := [v_l_, Span.val s_]) (R := fun v w1 => Own w0.heap.size 31 2 Span.cells w1 v r ∧ Ext noG w0 w1) (n := 37) (w := w0) Try.func49 rfl rfl (Nat.le_of_ble_eq_true rfl) (fun ρ hargs => ?_)).mono (fun e w1 ⟨v, he, hv, hE⟩ => ⟨v, he, hE, hv⟩)
  have h0 := hargs 0 _ rfl
  have h1 := hargs 1 _ rfl
  have hW := Ext.refl noG w0
  obtain ⟨_, _, hs_H_l_, _, _⟩ := RepSl.shape H_l_
  have H_l_ := H_l_.start
  rw [pensionref1_add] at hF
  refine WP.seq (WP.rg mixed [[], []] [[], []] [[1], []] [(3, fun u wz => ∃ b, u = .pointer (some ⟨b, 0, none⟩) ∧ w0.heap.size ≤ b ∧ Mb wz b 31 (Span.cells s_)), val 4 (.slice none 0 0)] (by kernel_rfl) ⟨fun _ _ _ hE ⟨b, hb, hs, hM⟩ => ⟨b, hb, hs, hM.exn hE⟩, sV, trivial⟩ ⟨fun ρz wz hE hA ⟨e1, _⟩ _ => core_new rfl rfl hE (o_box (e1.trans h1) (bx_31 _ _)),
 aC rfl rfl (fun _ => rfl), trivial⟩ ?_)
  intro ρ1 w1 hN hf hr
  obtain ⟨b3_, h3, hge_b3_, Hb_b3_⟩ := hf 0 rfl
  have h0 := (hr 0 rfl).trans h0
  have H_l_ := H_l_.exn hN
  have hB_b3_ : w0.heap.size ≤ b3_ := Nat.le_trans hW.size hge_b3_
  have hW := hW.trans hN
  refine WP.seq (WP.seq (WP.rb mixed [[], [0], [1]] [[0], [], []] [(7, v_l_), (8, .int .i64 (l_.length : Int)), (5, .int .i64 (l_.length : Int))] (by kernel_rfl) ⟨mE rfl rfl h0,
 fun ρz wz hE hA _ ⟨u0, _⟩ => core_val rfl rfl (o_len (u0.trans hs_H_l_) len_32),
 aU rfl rfl rfl, trivial⟩ ?_))
  intro ρ2 w2 hN hf hr
  have h5 := hv hf 2 rfl rfl
  obtain ⟨h0, h3⟩ := k2 hr h0 h3 rfl
  have Hb_b3_n := Hb_b3_.exn hN
  have H_l_ := H_l_.exn hN
  have hW := hW.trans hN
  have Hb_b3_ := Hb_b3_n
  refine WP.seq ?_
  obtain ⟨c, hc, hF⟩ := obind hF
  obtain ⟨y, hy, hc⟩ := andB hc
  obtain ⟨ay, cy, hvy, hiy, hAy⟩ := RepSl.getFI H_l_ hy
  have hc := andE hc
  refine WP.rb mixed [[], [0], [1], [2], [2], [2, 4], [2, 3, 5], [2, 6], [2, 7], [2], [2, 9], [2, 8, 10], [2, 11]] [[5], [], [], [0], [5], [], [], [], [], [3], [], [], []] [(9, .int .i64 (l_.length : Int)), (10, .bool (decide (0 < (l_.length : Int)))), (11, .bool (decide (0 < (l_.length : Int)))), (12, gv (decide (0 < (l_.length : Int))) v_l_), (13, gv (decide (0 < (l_.length : Int))) (.int .i64 (l_.length : Int))), (14, gv (decide (0 < (l_.length : Int))) (.int .i64 (i64 ((l_.length : Int) - 1)))), (15, gv (decide (0 < (l_.length : Int))) (.pointer (some (ay.add (Int.toNat (i64 ((l_.length : Int) - 1)) * 2))))), (16, gv (decide (0 < (l_.length : Int))) (.pointer (some ((ay.add (Int.toNat (i64 ((l_.length : Int) - 1)) * 2)).add 1)))), (17, gv (decide (0 < (l_.length : Int))) (.int .i64 y.To)), (18, gv (decide (0 < (l_.length : Int))) (.pointer (some ((⟨b3_, 0, none⟩ : Addr).add 0)))), (19, gv (decide (0 < (l_.length : Int))) (.int .i64 s_.From)), (20, gv (decide (0 < (l_.length : Int))) (.bool (y.To == s_.From))), (21, .bool c)] (by kernel_rfl) ⟨mE rfl rfl h5,
 fun ρz wz hE hA _ ⟨u0, _⟩ => core_val rfl rfl (o_gtr u0 rfl rfl),
 mU rfl rfl rfl,
 fun ρz wz hE hA ⟨e0, _⟩ ⟨u2, _⟩ => gIf rfl rfl (yT rfl u2) fun gc F hF => core_val rfl hF (o_move (e0.trans h0)),
 fun ρz wz hE hA ⟨e5, _⟩ ⟨u2, _⟩ => gIf rfl rfl (yT rfl u2) fun gc F hF => core_val rfl hF (o_move (e5.trans h5)),
 fun ρz wz hE hA _ ⟨u2, u4, _⟩ => gIf rfl rfl (yT rfl u2) fun gc F hF => core_val rfl hF (o_sub (gt gc u4) rfl rfl),
 fun ρz wz hE hA _ ⟨u2, u3, u5, _⟩ => gIf rfl rfl (yT rfl u2) fun gc F hF => core_val rfl hF (o_indexAddr ((gt gc u3).trans (hvy gc)) (gt gc u5) (ia_32 (hiy gc))),
 fun ρz wz hE hA _ ⟨u2, u6, _⟩ => gIf rfl rfl (yT rfl u2) fun gc F hF => core_val rfl hF (o_fieldAddr (gt gc u6) (fa_31_1 _ _)),
 fun ρz wz hE hA _ ⟨u2, u7, _⟩ => gIf rfl rfl (yT rfl u2) fun gc F hF => core_val rfl hF (o_load (gt gc u7) (run_load1 (lr_3 _ _) (CA.sub (((hAy gc).exn (hA rfl)).ca) 1 1))),
 fun ρz wz hE hA ⟨e3, _⟩ ⟨u2, _⟩ => gIf rfl rfl (yT rfl u2) fun gc F hF => core_val rfl hF (o_fieldAddr (e3.trans h3) (fa_31_0 _ _)),
 fun ρz wz hE hA _ ⟨u2, u9, _⟩ => gIf rfl rfl (yT rfl u2) fun gc F hF => core_val rfl hF (o_load (gt gc u9) (run_load1 (lr_3 _ _) (CA.sub ((Hb_b3_.exn (hA rfl)).ca) 0 1))),
 fun ρz wz hE hA _ ⟨u2, u8, u10, _⟩ => gIf rfl rfl (yT rfl u2) fun gc F hF => core_val rfl hF (o_eql (gt gc u8) (gt gc u10) rfl),
 fun ρz wz hE hA _ ⟨u2, u11, _⟩ => core_valE rfl rfl (congrArg Value.bool hc) (o_pick_and u2 u11 rfl), trivial⟩ ?_
  intro ρ3 w3 hN hf hr
  have h21 := hv hf 12 rfl rfl
  obtain ⟨h0, h3, h5⟩ := k3 hr h0 h3 h5 rfl
  have Hb_b3_n := Hb_b3_.exn hN
  have H_l_ := H_l_.exn hN
  have hW := hW.trans hN
  have Hb_b3_ := Hb_b3_n
  refine WP.cond rfl h21 (fun hb => ?_) (fun hb => ?_)
  · have hF := (if_pos hb).symm.trans hF
    refine WP.seq ?_
    obtain ⟨l, hl, hF⟩ := obind hF
    refine WP.rg mixed [[], [0], [1]] [[], [0], [1]] [[0], [], []] [val 22 (v_l_), (23, fun u wz => Own w0.heap.size 31 2 Span.cells wz u l ∧ ∀ b, u.ownBlock = some b → w3.heap.size ≤ b), (6, fun u wz => Own w0.heap.size 31 2 Span.cells wz u l ∧ ∀ b, u.ownBlock = some b → w3.heap.size ≤ b)] (by kernel_rfl) ⟨sV, fun _ _ _ hE ⟨hO, hf⟩ => ⟨hO.exn hE, hf⟩, fun _ _ _ hE ⟨hO, hf⟩ => ⟨hO.exn hE, hf⟩, trivial⟩ ⟨mE rfl rfl h0,
 fun ρz wz hE hA _ ⟨u0, _⟩ => core_appendN (n := 2) (cells := Span.cells) (B := w0.heap.size) (w0 := w3) rfl  rfl u0 (fun _ => rfl) one_31 si_32 se_31 (by decide) (by decide) (Own.nil w0.heap.size 31 2 Span.cells wz) ⟨_, (H_l_.exn (hA rfl))⟩ hl (Nat.le_trans hW.size hE.size) hE.size (fun v1 w1 h1 h2 => ⟨h1, fun b hb => (h2 b hb).resolve_left (by simp [Value.ownBlock])⟩),
 fun ρz wz hE hA _ ⟨⟨hO1, hfr1⟩, _⟩ => core_copy rfl rfl (o_assign rfl) ⟨hO1, hfr1⟩, trivial⟩ ?_
    intro ρ4 w4 hN hf hr
    obtain ⟨v6_, h6⟩ : ∃ v, ρ4 6 = v := ⟨_, rfl⟩
    have hq6 : (fun u wz => Own w0.heap.size 31 2 Span.cells wz u l ∧ ∀ b, u.ownBlock = some b → w3.heap.size ≤ b) (ρ4 6) w4 := hf 2 rfl
    rw [h6] at hq6
    obtain ⟨hq6, hfr6⟩ := hq6
    obtain ⟨h3, h5⟩ := k2 hr h3 h5 rfl
    have Hb_b3_n := Hb_b3_.exn hN
    have hW := hW.trans hN
    have O6 := hq6
    have hnb_O6_b3_ : Value.ownBlock v6_ ≠ some b3_ := fun h1 => absurd Hb_b3_.lt (Nat.not_lt.2 (hfr6 _ h1))
    have Hb_b3_ := Hb_b3_n
    refine WP.seq ?_
    obtain ⟨y2, hy2, hF⟩ := obind hF
    obtain ⟨ay2, cy2, hvy2, hiy2, hAy2⟩ := RepSl.getF (Own.rep (hn := fun _ => rfl) (G := noG) O6 (fun _ _ h => h)) hy2
    refine WP.region mixed [[], [], [1], [], [3], [0, 2], [5], [4, 6]] [[], [], [1], [], [3], [0, 2], [5], [4, 6]] [[6], [5], [], [3], [], [], [], []] [7] [] [val 24 (v6_), val 25 (.int .i64 (l_.length : Int)), val 26 (.int .i64 (i64 ((l_.length : Int) - 1))), val 27 (.pointer (some ((⟨b3_, 0, none⟩ : Addr).add 1))), val 28 (.int .i64 s_.To), val 29 (.pointer (some (ay2.add (Int.toNat (i64 ((l_.length : Int) - 1)) * 2)))), val 30 (.pointer (some ((ay2.add (Int.toNat (i64 ((l_.length : Int) - 1)) * 2)).add 1))), (30, fun _ wz => Own w0.heap.size 31 2 Span.cells wz v6_ (setI l (i64 ((l_.length : Int) - 1)) ({ y2 with To := s_.To } : Span)))] (fun b => Value.ownBlock v6_ = some b) (by kernel_rfl) ⟨sV, sV, sV, sV, sV, sV, sV, fun _ _ _ hE h => h.exn hE, trivial⟩ ⟨mE rfl rfl h6,
 mE rfl rfl h5,
 fun ρz wz hE hA _ ⟨u1, _⟩ => core_val rfl rfl (o_sub u1 rfl rfl),
 fun ρz wz hE hA ⟨e3, _⟩ _ => core_val rfl rfl (o_fieldAddr (e3.trans h3) (fa_31_1 _ _)),
 fun ρz wz hE hA _ ⟨u3, _⟩ => core_val rfl rfl (o_load u3 (run_load1 (lr_3 _ _) (CA.sub ((Hb_b3_.exn (hA rfl)).ca) 1 1))),
 fun ρz wz hE hA _ ⟨u0, u2, _⟩ => core_val rfl rfl (o_indexAddr (u0.trans hvy2) u2 (ia_32 hiy2)),
 fun ρz wz hE hA _ ⟨u5, _⟩ => core_val rfl rfl (o_fieldAddr u5 (fa_31_1 _ _)),
 fun ρz wz hE hA _ ⟨u4, u6, _⟩ => core_storeOwn (n := 2) (off := 1) (cells := Span.cells) (y1 := ({ y2 with To := s_.To } : Span)) (vs := [Value.int .i64 s_.To]) rfl rfl (fun _ h => h) (fun _ => rfl) u6 hvy2 (Deep.add_add _ _ _) u4 (O6.exn (hA rfl)) hy2 (fun a w => st_3 _ a w) (Nat.le_of_ble_eq_true rfl) rfl (one_3 _), trivial⟩ ?_
    intro ρ5 w5 hE hN hf hr
    have h6 := (hr 6 rfl).trans h6
    have Oo_O6 := O6
    have hW := Ext.own hW hE (fun b hb => (Oo_O6.lt hb).1)
    have O6 := hf 7 rfl
    refine WP.seq (WP.rb mixed [[], [0]] [[6], []] [(31, v6_), (4, v6_)] (by kernel_rfl) ⟨mE rfl rfl h6,
 aU rfl rfl rfl, trivial⟩ ?_)
    intro ρ6 w6 hN hf hr
    have h4 := hv hf 1 rfl rfl
    have Oo_O6 := O6
    have hW := hW.trans hN
    have O4 := Oo_O6.exn hN
    refine WP.ret ?_
    show retQ Try.prog 37 Try.f49 (fun v w1 => Own w0.heap.size 31 2 Span.cells w1 v r ∧ Ext noG w0 w1) .ret ρ6 w6
    obtain rfl := Option.some.inj hF
    exact res1 rfl (by decide) h4 ⟨O4, hW⟩
  have hF := (if_neg (Bool.eq_false_iff.1 hb)).symm.trans hF
  refine WP.skip (WP.seq ?_)
  obtain ⟨l2, hl2, hF⟩ := obind hF
  obtain ⟨l3, hl3, hF⟩ := obind hF
  refine WP.region mixed [[], [0], [], [2], [1, 3], [4]] [[], [0], [], [2], [1, 3], [4]] [[0], [], [3], [], [], []] [4] [(1, 4), (3, 4)] [val 32 (v_l_), (33, fun u wz => Own w0.heap.size 31 2 Span.cells wz u l2 ∧ ∀ b, u.ownBlock = some b → w3.heap.size ≤ b), val 34 (Span.val s_), (35, fun u wz => ∃ b, u = .slice (some ⟨b, 0, none⟩) 1 1 ∧ w3.heap.size ≤ b ∧ Mb wz b 31 (([s_]).flatMap Span.cells)), (36, fun u wz => Own w0.heap.size 31 2 Span.cells wz u l3 ∧ ∀ b, u.ownBlock = some b → w3.heap.size ≤ b), (4, fun u wz => Own w0.heap.size 31 2 Span.cells wz u l3 ∧ ∀ b, u.ownBlock = some b → w3.heap.size ≤ b)] (fun b => w3.heap.size ≤ b) (by kernel_rfl) ⟨sV, fun _ _ _ hE ⟨hO, hf⟩ => ⟨hO.exn hE, hf⟩, sV, fun _ _ _ hE ⟨b, hz, hs, hM⟩ => ⟨b, hz, hs, hM.exn hE⟩, fun _ _ _ hE ⟨hO, hf⟩ => ⟨hO.exn hE, hf⟩, fun _ _ _ hE ⟨hO, hf⟩ => ⟨hO.exn hE, hf⟩, trivial⟩ ⟨mE rfl rfl h0,
 fun ρz wz hE hA _ ⟨u0, _⟩ => core_appendN (n := 2) (cells := Span.cells) (B := w0.heap.size) (w0 := w3) rfl  rfl u0 (fun _ => rfl) one_31 si_32 se_31 (by decide) (by decide) (Own.nil w0.heap.size 31 2 Span.cells wz) ⟨_, (H_l_.over hE (fun _ h => Nat.le_trans hW.size h))⟩ hl2 (Nat.le_trans hW.size hE.size) hE.size (fun v1 w1 h1 h2 => ⟨h1, fun b hb => (h2 b hb).resolve_left (by simp [Value.ownBlock])⟩),
 fun ρz wz hE hA ⟨e3, _⟩ _ => core_val rfl rfl (o_load (e3.trans h3) (run_loadN (cs := (Span.cells s_)) (lr_31 _ _) rfl ((Hb_b3_.exn hE.fresh).ca))),
 fun ρz wz hE hA _ ⟨u2, _⟩ => core_slice rfl rfl hE (o_buildSlice (build_parts1 u2) (bs_32_1 _ _)),
 fun ρz wz hE hA _ ⟨⟨hO1, hfr1⟩, ⟨bz3, hz3, hge3, hM3⟩, _⟩ => core_append (n := 2) (cells := Span.cells) (B := w0.heap.size) (w0 := w3) rfl rfl (fun b hb => hfr1 b hb) rfl hz3 (fun _ => rfl) one_31 si_32 se_31 (by decide) (by decide) hO1 ⟨_, (Mb.rep (n := 2) (cells := Span.cells) (hn := fun _ => rfl) (G := noG) hM3 rfl (Nat.le_of_ble_eq_true rfl) (fun h => h))⟩ hl3 (Nat.le_trans hW.size hE.size) hE.size (fun v1 w1 h1 h2 => ⟨h1, fun b hb => (h2 b hb).elim (hfr1 b) id⟩),
 fun ρz wz hE hA _ ⟨⟨hO4, hfr4⟩, _⟩ => core_copy rfl rfl (o_assign rfl) ⟨hO4, hfr4⟩, trivial⟩ ?_
  intro ρ7 w7 hE hN hf hr
  have hN := hE.fresh
  obtain ⟨v4_, h4⟩ : ∃ v, ρ7 4 = v := ⟨_, rfl⟩
  have hq4 : (fun u wz => Own w0.heap.size 31 2 Span.cells wz u l3 ∧ ∀ b, u.ownBlock = some b → w3.heap.size ≤ b) (ρ7 4) w7 := hf 5 rfl
  rw [h4] at hq4
  obtain ⟨hq4, hfr4⟩ := hq4
  have hW := hW.trans hN
  have O4 := hq4
  refine WP.ret ?_
  show retQ Try.prog 37 Try.f49 (fun v w1 => Own w0.heap.size 31 2 Span.cells w1 v r ∧ Ext noG w0 w1) .ret ρ7 w7
  obtain rfl := Option.some.inj hF
  exact res1 rfl (by decide) h4 ⟨O4, hW⟩

set_option maxHeartbeats 4000000 in
theorem pensionref1_combine_ok {w0 : World} (d_ : List Span) (i_ : List Span) (p_ : Int) {v_d_ : Value} (H_d_ : RepSl Span.R noG w0 v_d_ d_) {v_i_ : Value} (H_i_ : RepSl Span.R noG w0 v_i_ i_) {r : (List Span)} (hF : pensionref1_combine d_ i_ p_ = some r) :
    Calls Try.prog 35 #[v_d_, v_i_, .int .i64 p_] w0 fun e w1 => ∃ v, e = .returned v ∧ Ext noG w0 w1 ∧ Own w0.heap.size 31 2 Span.cells w1 v r := by
  refine (Calls.start (P := Try.prog) (args := [v_d_, v_i_, .int .i64 p_]) (R := fun v w1 => Own w0.heap.size 31 2 Span.cells w1 v r ∧ Ext noG w0 w1) (n := 77) (w := w0) Try.func35 rfl rfl (Nat.le_of_ble_eq_true rfl) (fun ρ hargs => ?_)).mono (fun e w1 ⟨v, he, hv, hE⟩ => ⟨v, he, hE, hv⟩)
  have h0 := hargs 0 _ rfl
  have h1 := hargs 1 _ rfl
  have h2 := hargs 2 _ rfl
  have hW := Ext.refl noG w0
  obtain ⟨_, _, hs_H_d_, _, _⟩ := RepSl.shape H_d_
  have H_d_ := H_d_.start
  obtain ⟨_, _, hs_H_i_, _, _⟩ := RepSl.shape H_i_
  have H_i_ := H_i_.start
  rw [pensionref1_combine] at hF
  refine WP.seq (WP.rb mixed [[]] [[]] [(6, .slice none 0 0)] (by kernel_rfl) ⟨aC rfl rfl (fun _ => rfl), trivial⟩ ?_)
  intro ρ1 w1 hN hf hr
  obtain ⟨h0, h1, h2⟩ := k3 hr h0 h1 h2 rfl
  have H_d_ := H_d_.exn hN
  have H_i_ := H_i_.exn hN
  have hW := hW.trans hN
  refine WP.seq ?_
  obtain ⟨z, hz, hF⟩ := obind hF
  refine WP.rg mixed [[], [], [0, 1], [2], [3]] [[], [], [0, 1], [2], [3]] [[0], [1], [], [], []] [val 12 (v_d_), val 13 (v_i_), (14, fun u wz => ∃ b, u = .slice (some ⟨b, 0, none⟩) 2 2 ∧ w1.heap.size ≤ b ∧ Mb wz b 32 [(v_d_ : Value), v_i_]), (15, fun u wz => Own w0.heap.size 3 1 (fun x : Int => [Value.int .i64 x]) wz u z ∧ ∀ b, u.ownBlock = some b → w1.heap.size ≤ b), (7, fun u wz => Own w0.heap.size 3 1 (fun x : Int => [Value.int .i64 x]) wz u z ∧ ∀ b, u.ownBlock = some b → w1.heap.size ≤ b)] (by kernel_rfl) ⟨sV, sV, fun _ _ _ hE ⟨b, hz, hs, hM⟩ => ⟨b, hz, hs, hM.exn hE⟩, fun _ _ _ hE ⟨hO, hf⟩ => ⟨hO.exn hE, hf⟩, fun _ _ _ hE ⟨hO, hf⟩ => ⟨hO.exn hE, hf⟩, trivial⟩ ⟨mE rfl rfl h0,
 mE rfl rfl h1,
 fun ρz wz hE hA _ ⟨u0, u1, _⟩ => core_slice rfl rfl hE (o_buildSlice (build_parts2 u0 u1) (bsv_85 ⟨_, _, _, hs_H_d_⟩ ⟨_, _, _, hs_H_i_⟩ _)),
 fun ρz wz hE hA _ ⟨⟨bz2, hz2, hge2, hM2⟩, _⟩ => core_callR rfl (call_args1 hz2) cf_48 ((pensionref1_edges_ok  _ (Mb.rep2 (G := noG) hM2 (H_d_.exn (hA rfl)).no (H_i_.exn (hA rfl)).no (fun h => h)).no hz).mono (fun e w1 ⟨v, he, hE1, hO⟩ => ⟨v, he, hE1, hO.base (Nat.le_trans hW.size hE.size), fun b hb => Nat.le_trans hE.size (hO.lt hb).1⟩)),
 fun ρz wz hE hA _ ⟨⟨hO3, hfr3⟩, _⟩ => core_copy rfl rfl (o_assign rfl) ⟨hO3, hfr3⟩, trivial⟩ ?_
  intro ρ2 w2 hN hf hr
  obtain ⟨v7_, h7⟩ : ∃ v, ρ2 7 = v := ⟨_, rfl⟩
  have hq7 : (fun u wz => Own w0.heap.size 3 1 (fun x : Int => [Value.int .i64 x]) wz u z ∧ ∀ b, u.ownBlock = some b → w1.heap.size ≤ b) (ρ2 7) w2 := hf 4 rfl
  rw [h7] at hq7
  obtain ⟨hq7, hfr7⟩ := hq7
  obtain ⟨h0, h1, h2⟩ := k3 hr h0 h1 h2 rfl
  have H_d_ := H_d_.exn hN
  have H_i_ := H_i_.exn hN
  have hW := hW.trans hN
  have Hf7 : RepSl intR noG w2 v7_ z := hq7.rep (fun _ _ h => h)
  obtain ⟨_, _, hs_Hf7, _, _⟩ := RepSl.shape Hf7
  refine WP.seq (WP.rb mixed [[]] [[]] [(8, .slice none 0 0)] (by kernel_rfl) ⟨aC rfl rfl (fun _ => rfl), trivial⟩ ?_)
  intro ρ3 w3 hN hf hr
  have h8 : ρ3 8 = .slice none 0 0 := hf 0 rfl
  have O8 : Own w0.heap.size 31 2 Span.cells w3 (.slice none 0 0) [] := Own.nil _ _ _ _ _
  obtain ⟨h0, h1, h2, h7⟩ := k4 hr h0 h1 h2 h7 rfl
  have H_d_ := H_d_.exn hN
  have H_i_ := H_i_.exn hN
  have Hf7 : RepSl intR (gL [ownG (.slice none 0 0)]) w3 v7_ z := Hf7.mv hN (fun _ h => h.elim) (fun b h => h.elim (fun h => by simp [ownG, Value.ownBlock] at h) (fun h => h.elim))
  have hW := hW.trans hN
  have O8 : Own w0.heap.size 31 2 Span.cells w3 (.slice none 0 0) [] := Own.nil _ _ _ _ _
  refine WP.seq (WP.seq (WP.rb mixed [[]] [[]] [(9, .int .i64 0)] (by kernel_rfl) ⟨aC rfl rfl (fun _ => rfl), trivial⟩ ?_))
  intro ρ4 w4 hN hf hr
  have h9 := hv hf 0 rfl rfl
  obtain ⟨h0, h1, h2, h7, h8⟩ := k5 hr h0 h1 h2 h7 h8 rfl
  have Oo_O8 := O8
  have H_d_ := H_d_.exn hN
  have H_i_ := H_i_.exn hN
  have Hf7 := Hf7.exn hN
  have hW := hW.trans hN
  have O8 : Own w0.heap.size 31 2 Span.cells w4 (.slice none 0 0) [] := Own.nil _ _ _ _ _
  refine WP.block (WP.loop (fun k_ ρ w => ∃ x : List Span, ∃ x2 : Int, ∃ v8_ : Value, ρ 0 = v_d_ ∧ ρ 1 = v_i_ ∧ ρ 2 = .int .i64 p_ ∧ ρ 7 = v7_ ∧ ρ 8 = v8_ ∧ ρ 9 = .int .i64 x2 ∧ RepSl Span.R (gfr noG w0) w v_d_ d_ ∧ RepSl Span.R (gfr noG w0) w v_i_ i_ ∧ RepSl intR (gL [ownG v8_]) w v7_ z ∧ Own w0.heap.size 31 2 Span.cells w v8_ x ∧ Ext noG w0 w ∧ loopC k_ (pensionref1_combine_l d_ i_ p_ z) (x, x2) = some r) FU ⟨[], 0, .slice none 0 0, h0, h1, h2, h7, h8, h9, H_d_, H_i_, Hf7, O8, hW, hF⟩ (fun _ _ h => by obtain ⟨_, _, _, _, _, _, _, _, _, _, _, _, _, _, h⟩ := h; cases h) ?_)
  rintro k_ ρ5 w5 ⟨x, x2, v8_, h0, h1, h2, h7, h8, h9, H_d_, H_i_, Hf7, O8, hW, hF⟩
  have hF : pensionref1_combine_l d_ i_ p_ z (loopC k_ (pensionref1_combine_l d_ i_ p_ z)) (x, x2) = some r := hF
  generalize hrec_ : loopC k_ (pensionref1_combine_l d_ i_ p_ z) = rec_ at hF
  rw [pensionref1_combine_l] at hF
  refine WP.seq (WP.seq (WP.rb mixed [[], [0], [], [2], [1, 3]] [[9], [], [7], [], []] [(16, .int .i64 x2), (17, .int .i64 (i64 (x2 + 1))), (18, v7_), (19, .int .i64 (z.length : Int)), (20, .bool (decide (i64 (x2 + 1) < (z.length : Int))))] (by kernel_rfl) ⟨mE rfl rfl h9,
 fun ρz wz hE hA _ ⟨u0, _⟩ => core_val rfl rfl (o_add u0 rfl rfl),
 mE rfl rfl h7,
 fun ρz wz hE hA _ ⟨u2, _⟩ => core_val rfl rfl (o_len (u2.trans hs_Hf7) len_55),
 fun ρz wz hE hA _ ⟨u1, u3, _⟩ => core_val rfl rfl (o_lss u1 u3 rfl), trivial⟩ ?_))
  intro ρ6 w6 hN hf hr
  have h20 := hv hf 4 rfl rfl
  obtain ⟨h0, h1, h2, h7, h8, h9⟩ := k6 hr h0 h1 h2 h7 h8 h9 rfl
  have Oo_O8 := O8
  have H_d_ := H_d_.exn hN
  have H_i_ := H_i_.exn hN
  have Hf7 := Hf7.exn hN
  have hW := hW.trans hN
  have O8 := Oo_O8.exn hN
  refine WP.cond rfl h20 (fun hb => ?_) (fun hb => ?_)
  · have hF := (if_pos hb).symm.trans hF
    refine WP.skip (WP.seqJ (fun ρ w => ∃ x3 : List Span, ∃ v8_2 : Value, ρ 0 = v_d_ ∧ ρ 1 = v_i_ ∧ ρ 2 = .int .i64 p_ ∧ ρ 7 = v7_ ∧ ρ 8 = v8_2 ∧ ρ 9 = .int .i64 x2 ∧ RepSl Span.R (gfr noG w0) w v_d_ d_ ∧ RepSl Span.R (gfr noG w0) w v_i_ i_ ∧ RepSl intR (gL [ownG v8_2]) w v7_ z ∧ Own w0.heap.size 31 2 Span.cells w v8_2 x3 ∧ Ext noG w0 w ∧ pensionref1_combine_j x2 rec_ x3 = some r) ?_ ?_)
    · refine WP.block (WP.seq ?_)
      obtain ⟨y, hy, hF⟩ := obind hF
      obtain ⟨ay, cy, hvy, hiy, hAy⟩ := RepSl.getF Hf7 hy
      obtain ⟨z2, hz2, hF⟩ := obind hF
      obtain ⟨y2, hy2, hF⟩ := obind hF
      obtain ⟨ay2, cy2, hvy2, hiy2, hAy2⟩ := RepSl.getF Hf7 hy2
      obtain ⟨z3, hz3, hF⟩ := obind hF
      refine WP.rb mixed [[], [], [], [1, 2], [3], [0, 4], [], [], [], [7, 8], [9], [6, 10], [5], [11]] [[0], [7], [9], [], [], [], [1], [7], [9], [], [], [], [], []] [(23, v_d_), (24, v7_), (25, .int .i64 x2), (26, .pointer (some (ay.add (Int.toNat x2 * 1)))), (27, .int .i64 y), (28, .bool z2), (29, v_i_), (30, v7_), (31, .int .i64 x2), (32, .pointer (some (ay2.add (Int.toNat x2 * 1)))), (33, .int .i64 y2), (34, .bool z3), (10, .bool z2), (11, .bool z3)] (by kernel_rfl) ⟨mE rfl rfl h0,
 mE rfl rfl h7,
 mE rfl rfl h9,
 fun ρz wz hE hA _ ⟨u1, u2, _⟩ => core_val rfl rfl (o_indexAddr (u1.trans hvy) u2 (ia_55 hiy)),
 fun ρz wz hE hA _ ⟨u3, _⟩ => core_val rfl rfl (o_load u3 (run_load1 (lr_3 _ _) ((hAy.exn (hA rfl)).ca))),
 fun ρz wz hE hA _ ⟨u0, u4, _⟩ => core_call rfl (call_args2 u0 u4) cf_27 (pensionref1_Contains_ok  _ _ (H_d_.exn (hA rfl)).no hz2),
 mE rfl rfl h1,
 mE rfl rfl h7,
 mE rfl rfl h9,
 fun ρz wz hE hA _ ⟨u7, u8, _⟩ => core_val rfl rfl (o_indexAddr (u7.trans hvy2) u8 (ia_55 hiy2)),
 fun ρz wz hE hA _ ⟨u9, _⟩ => core_val rfl rfl (o_load u9 (run_load1 (lr_3 _ _) ((hAy2.exn (hA rfl)).ca))),
 fun ρz wz hE hA _ ⟨u6, u10, _⟩ => core_call rfl (call_args2 u6 u10) cf_27 (pensionref1_Contains_ok  _ _ (H_i_.exn (hA rfl)).no hz3),
 aU rfl rfl rfl,
 aU rfl rfl rfl, trivial⟩ ?_
      intro ρ9 w9 hN hf hr
      have h10 := hv hf 12 rfl rfl
      have h11 := hv hf 13 rfl rfl
      obtain ⟨h0, h1, h2, h7, h8, h9⟩ := k6 hr h0 h1 h2 h7 h8 h9 rfl
      have Oo_O8 := O8
      have H_d_ := H_d_.exn hN
      have H_i_ := H_i_.exn hN
      have Hf7 := Hf7.exn hN
      have hW := hW.trans hN
      have O8 := Oo_O8.exn hN
      refine WP.seq (WP.rb mixed [[], [0], [1], [2], [2, 3], [4], [5], [5, 6], [7], [8], [8, 9], [8, 10], [11], [11, 12], [13], [11, 13, 14], [8, 11, 15], [8, 16], [17], [18], [18, 19], [18, 20], [21], [18, 21, 22], [18, 23], [24], [24, 25], [18, 24, 26], [18, 27]] [[2], [], [], [10], [], [], [11], [], [], [2], [], [], [10], [], [11], [], [], [], [], [2], [], [], [10], [], [], [11], [], [], []] [(35, .int .i64 p_), (36, .bool (p_ == 1)), (37, .bool (p_ == 1)), (38, gv ((p_ == 1)) (.bool z2)), (39, .bool ((p_ == 1) && z2)), (40, .bool ((p_ == 1) && z2)), (41, gv (((p_ == 1) && z2)) (.bool z3)), (42, .bool (((p_ == 1) && z2) && z3)), (43, .bool (((p_ == 1) && z2) && z3)), (44, gv (!(((p_ == 1) && z2) && z3)) (.int .i64 p_)), (45, gv (!(((p_ == 1) && z2) && z3)) (.bool (p_ == 2))), (46, gv (!(((p_ == 1) && z2) && z3)) (.bool (p_ == 2))), (47, gv ((!(((p_ == 1) && z2) && z3)) && (p_ == 2)) (.bool z2)), (48, gv ((!(((p_ == 1) && z2) && z3)) && (p_ == 2)) (.bool z2)), (49, gv (((!(((p_ == 1) && z2) && z3)) && (p_ == 2)) && !z2) (.bool z3)), (50, gv ((!(((p_ == 1) && z2) && z3)) && (p_ == 2)) (.bool (z2 || z3))), (51, gv (!(((p_ == 1) && z2) && z3)) (.bool ((p_ == 2) && (z2 || z3)))), (52, .bool ((((p_ == 1) && z2) && z3) || ((p_ == 2) && (z2 || z3)))), (53, .bool ((((p_ == 1) && z2) && z3) || ((p_ == 2) && (z2 || z3)))), (54, gv (!((((p_ == 1) && z2) && z3) || ((p_ == 2) && (z2 || z3)))) (.int .i64 p_)), (55, gv (!((((p_ == 1) && z2) && z3) || ((p_ == 2) && (z2 || z3)))) (.bool (p_ == 3))), (56, gv (!((((p_ == 1) && z2) && z3) || ((p_ == 2) && (z2 || z3)))) (.bool (p_ == 3))), (57, gv ((!((((p_ == 1) && z2) && z3) || ((p_ == 2) && (z2 || z3)))) && (p_ == 3)) (.bool z2)), (58, gv (!((((p_ == 1) && z2) && z3) || ((p_ == 2) && (z2 || z3)))) (.bool ((p_ == 3) && z2))), (59, gv (!((((p_ == 1) && z2) && z3) || ((p_ == 2) && (z2 || z3)))) (.bool ((p_ == 3) && z2))), (60, gv ((!((((p_ == 1) && z2) && z3) || ((p_ == 2) && (z2 || z3)))) && ((p_ == 3) && z2)) (.bool z3)), (61, gv ((!((((p_ == 1) && z2) && z3) || ((p_ == 2) && (z2 || z3)))) && ((p_ == 3) && z2)) (.bool (!z3))), (62, gv (!((((p_ == 1) && z2) && z3) || ((p_ == 2) && (z2 || z3)))) (.bool (((p_ == 3) && z2) && (!z3)))), (63, .bool (((((p_ == 1) && z2) && z3) || ((p_ == 2) && (z2 || z3))) || (((p_ == 3) && z2) && (!z3))))] (by kernel_rfl) ⟨mE rfl rfl h2,
 fun ρz wz hE hA _ ⟨u0, _⟩ => core_val rfl rfl (o_eql u0 rfl rfl),
 mU rfl rfl rfl,
 fun ρz wz hE hA ⟨e10, _⟩ ⟨u2, _⟩ => gIf rfl rfl (yT rfl u2) fun gc F hF => core_val rfl hF (o_move (e10.trans h10)),
 fun ρz wz hE hA _ ⟨u2, u3, _⟩ => core_val rfl rfl (o_pick_and u2 u3 rfl),
 mU rfl rfl rfl,
 fun ρz wz hE hA ⟨e11, _⟩ ⟨u5, _⟩ => gIf rfl rfl (yT rfl u5) fun gc F hF => core_val rfl hF (o_move (e11.trans h11)),
 fun ρz wz hE hA _ ⟨u5, u6, _⟩ => core_val rfl rfl (o_pick_and u5 u6 rfl),
 mU rfl rfl rfl,
 fun ρz wz hE hA ⟨e2, _⟩ ⟨u8, _⟩ => gIf rfl rfl (yF rfl u8) fun gc F hF => core_val rfl hF (o_move (e2.trans h2)),
 fun ρz wz hE hA _ ⟨u8, u9, _⟩ => gIf rfl rfl (yF rfl u8) fun gc F hF => core_val rfl hF (o_eql (gt gc u9) rfl rfl),
 fun ρz wz hE hA _ ⟨u8, u10, _⟩ => gIf rfl rfl (yF rfl u8) fun gc F hF => core_val rfl hF (o_move (gt gc u10)),
 fun ρz wz hE hA ⟨e10, _⟩ ⟨u11, _⟩ => gIf rfl rfl (yTG rfl u11) fun gc F hF => core_val rfl hF (o_move (e10.trans h10)),
 fun ρz wz hE hA _ ⟨u11, u12, _⟩ => gIf rfl rfl (yTG rfl u11) fun gc F hF => core_val rfl hF (o_move (gt gc u12)),
 fun ρz wz hE hA ⟨e11, _⟩ ⟨u13, _⟩ => gIf rfl rfl (yFG rfl u13) fun gc F hF => core_val rfl hF (o_move (e11.trans h11)),
 fun ρz wz hE hA _ ⟨u11, u13, u14, _⟩ => gIf rfl rfl (yTG rfl u11) fun gc F hF => core_val rfl hF (o_pick_or (gt gc u13) rfl (gr gc u14)),
 fun ρz wz hE hA _ ⟨u8, u11, u15, _⟩ => gIf rfl rfl (yF rfl u8) fun gc F hF => core_val rfl hF (o_pick_and (gt gc u11) (gr gc u15) rfl),
 fun ρz wz hE hA _ ⟨u8, u16, _⟩ => core_val rfl rfl (o_pick_or u8 rfl u16),
 mU rfl rfl rfl,
 fun ρz wz hE hA ⟨e2, _⟩ ⟨u18, _⟩ => gIf rfl rfl (yF rfl u18) fun gc F hF => core_val rfl hF (o_move (e2.trans h2)),
 fun ρz wz hE hA _ ⟨u18, u19, _⟩ => gIf rfl rfl (yF rfl u18) fun gc F hF => core_val rfl hF (o_eql (gt gc u19) rfl rfl),
 fun ρz wz hE hA _ ⟨u18, u20, _⟩ => gIf rfl rfl (yF rfl u18) fun gc F hF => core_val rfl hF (o_move (gt gc u20)),
 fun ρz wz hE hA ⟨e10, _⟩ ⟨u21, _⟩ => gIf rfl rfl (yTG rfl u21) fun gc F hF => core_val rfl hF (o_move (e10.trans h10)),
 fun ρz wz hE hA _ ⟨u18, u21, u22, _⟩ => gIf rfl rfl (yF rfl u18) fun gc F hF => core_val rfl hF (o_pick_and (gt gc u21) (gr gc u22) rfl),
 fun ρz wz hE hA _ ⟨u18, u23, _⟩ => gIf rfl rfl (yF rfl u18) fun gc F hF => core_val rfl hF (o_move (gt gc u23)),
 fun ρz wz hE hA ⟨e11, _⟩ ⟨u24, _⟩ => gIf rfl rfl (yTG rfl u24) fun gc F hF => core_val rfl hF (o_move (e11.trans h11)),
 fun ρz wz hE hA _ ⟨u24, u25, _⟩ => gIf rfl rfl (yTG rfl u24) fun gc F hF => core_val rfl hF (o_not (gt gc u25) rfl),
 fun ρz wz hE hA _ ⟨u18, u24, u26, _⟩ => gIf rfl rfl (yF rfl u18) fun gc F hF => core_val rfl hF (o_pick_and (gt gc u24) (gr gc u26) rfl),
 fun ρz wz hE hA _ ⟨u18, u27, _⟩ => core_val rfl rfl (o_pick_or u18 rfl u27), trivial⟩ ?_)
      intro ρ10 w10 hN hf hr
      have h63 := hv hf 28 rfl rfl
      obtain ⟨h0, h1, h2, h7, h8, h9⟩ := k6 hr h0 h1 h2 h7 h8 h9 rfl
      have Oo_O8 := O8
      have H_d_ := H_d_.exn hN
      have H_i_ := H_i_.exn hN
      have Hf7 := Hf7.exn hN
      have hW := hW.trans hN
      have O8 := Oo_O8.exn hN
      refine WP.cond rfl h63 (fun hb => ?_) (fun hb => ?_)
      · have hF := (if_pos hb).symm.trans hF
        obtain ⟨y3, hy3, hF⟩ := obind hF
        obtain ⟨ay3, cy3, hvy3, hiy3, hAy3⟩ := RepSl.getF Hf7 hy3
        obtain ⟨y4, hy4, hF⟩ := obind hF
        obtain ⟨ay4, cy4, hvy4, hiy4, hAy4⟩ := RepSl.getF Hf7 hy4
        obtain ⟨z4, hz4, hF⟩ := obind hF
        refine WP.rg mixed [[], [], [], [1, 2], [3], [], [], [6], [5, 7], [8], [4, 9], [0, 10], [0, 11]] [[], [], [], [1, 2], [3], [], [], [6], [5, 7], [8], [4, 9], [0, 10], [11]] [[8], [7], [9], [], [], [7], [9], [], [], [], [], [], []] [val 64 (v8_), val 65 (v7_), val 66 (.int .i64 x2), val 67 (.pointer (some (ay3.add (Int.toNat x2 * 1)))), val 68 (.int .i64 y3), val 69 (v7_), val 70 (.int .i64 x2), val 71 (.int .i64 (i64 (x2 + 1))), val 72 (.pointer (some (ay4.add (Int.toNat (i64 (x2 + 1)) * 1)))), val 73 (.int .i64 y4), val 74 (Span.val (⟨y3, y4⟩ : Span)), (75, fun u wz => Own w0.heap.size 31 2 Span.cells wz u z4 ∧ ∀ b, u.ownBlock = some b → w10.heap.size ≤ b), (8, fun u wz => Own w0.heap.size 31 2 Span.cells wz u z4 ∧ ∀ b, u.ownBlock = some b → w10.heap.size ≤ b)] (by kernel_rfl) ⟨sV, sV, sV, sV, sV, sV, sV, sV, sV, sV, sV, fun _ _ _ hE ⟨hO, hf⟩ => ⟨hO.exn hE, hf⟩, fun _ _ _ hE ⟨hO, hf⟩ => ⟨hO.exn hE, hf⟩, trivial⟩ ⟨mE rfl rfl h8,
 mE rfl rfl h7,
 mE rfl rfl h9,
 fun ρz wz hE hA _ ⟨u1, u2, _⟩ => core_val rfl rfl (o_indexAddr (u1.trans hvy3) u2 (ia_55 hiy3)),
 fun ρz wz hE hA _ ⟨u3, _⟩ => core_val rfl rfl (o_load u3 (run_load1 (lr_3 _ _) ((hAy3.exn (hA rfl)).ca))),
 mE rfl rfl h7,
 mE rfl rfl h9,
 fun ρz wz hE hA _ ⟨u6, _⟩ => core_val rfl rfl (o_add u6 rfl rfl),
 fun ρz wz hE hA _ ⟨u5, u7, _⟩ => core_val rfl rfl (o_indexAddr (u5.trans hvy4) u7 (ia_55 hiy4)),
 fun ρz wz hE hA _ ⟨u8, _⟩ => core_val rfl rfl (o_load u8 (run_load1 (lr_3 _ _) ((hAy4.exn (hA rfl)).ca))),
 fun ρz wz hE hA _ ⟨u4, u9, _⟩ => core_val rfl rfl (o_build (build_parts2 u4 u9) (bd_31_0_1 _ _ _)),
 fun ρz wz hE hA _ ⟨u0, u10, _⟩ => core_callR rfl (call_args2 u0 u10) cf_49 ((pensionref1_add_ok  _ _ ((O8.exn (hA rfl)).rep (hn := fun _ => rfl) (G := noG) (fun _ _ h => h)).no hz4).mono (fun e w1 ⟨v, he, hE1, hO⟩ => ⟨v, he, hE1, hO.base (Nat.le_trans hW.size hE.size), fun b hb => Nat.le_trans hE.size (hO.lt hb).1⟩)),
 fun ρz wz hE hA _ ⟨⟨hO11, hfr11⟩, _⟩ => core_copy rfl rfl (o_assign rfl) ⟨hO11, hfr11⟩, trivial⟩ ?_
        intro ρ11 w11 hN hf hr
        obtain ⟨v8_3, h8⟩ : ∃ v, ρ11 8 = v := ⟨_, rfl⟩
        have hq8 : (fun u wz => Own w0.heap.size 31 2 Span.cells wz u z4 ∧ ∀ b, u.ownBlock = some b → w10.heap.size ≤ b) (ρ11 8) w11 := hf 12 rfl
        rw [h8] at hq8
        obtain ⟨hq8, hfr8⟩ := hq8
        obtain ⟨h0, h1, h2, h7, h9⟩ := k5 hr h0 h1 h2 h7 h9 rfl
        have Oo_O8 := O8
        have H_d_ := H_d_.exn hN
        have H_i_ := H_i_.exn hN
        have Hf7 : RepSl intR (gL [ownG v8_3]) w11 v7_ z := Hf7.mv hN (fun _ h => h.elim) (fun b h => h.elim (fun h => .inr (hfr8 _ h)) (fun h => h.elim))
        have hW := hW.trans hN
        have O8 := hq8
        exact ⟨z4, v8_3, h0, h1, h2, h7, h8, h9, H_d_, H_i_, Hf7, O8, hW, hF⟩
      have hF := (if_neg (Bool.eq_false_iff.1 hb)).symm.trans hF
      refine WP.skip ?_
      exact ⟨x, v8_, h0, h1, h2, h7, h8, h9, H_d_, H_i_, Hf7, O8, hW, hF⟩
    rintro ρ7 w7 ⟨x3, v8_2, h0, h1, h2, h7, h8, h9, H_d_, H_i_, Hf7, O8, hW, hF⟩
    rw [pensionref1_combine_j] at hF
    refine WP.rv mixed [[], [0], [0, 1]] [[], [0], [1]] [[9], [], []] [(21, .int .i64 x2), (22, .int .i64 (i64 (x2 + 1))), (9, .int .i64 (i64 (x2 + 1)))] (by kernel_rfl) ⟨mE rfl rfl h9,
 fun ρz wz hE hA _ ⟨u0, _⟩ => core_val rfl rfl (o_add u0 rfl rfl),
 aU rfl rfl rfl, trivial⟩ ?_
    intro ρ8 w8 hN hf hr
    have h9 := hv hf 2 rfl rfl
    obtain ⟨h0, h1, h2, h7, h8⟩ := k5 hr h0 h1 h2 h7 h8 rfl
    have Oo_O8 := O8
    have H_d_ := H_d_.exn hN
    have H_i_ := H_i_.exn hN
    have Hf7 := Hf7.exn hN
    have hW := hW.trans hN
    have O8 := Oo_O8.exn hN
    exact ⟨x3, i64 (x2 + 1), v8_2, h0, h1, h2, h7, h8, h9, H_d_, H_i_, Hf7, O8, hW, (by first | exact hF | (rw [hrec_]; exact hF))⟩
  have hF := (if_neg (Bool.eq_false_iff.1 hb)).symm.trans hF
  refine WP.exit (thenQ_exit (thenQ_exit (blockQ_hit (WP.seq (WP.rb mixed [[], [0]] [[8], []] [(76, v8_), (6, v8_)] (by kernel_rfl) ⟨mE rfl rfl h8,
 aU rfl rfl rfl, trivial⟩ ?_)))))
  intro ρ12 w12 hN hf hr
  have h6 := hv hf 1 rfl rfl
  have Oo_O8 := O8
  have hW := hW.trans hN
  have O6 := Oo_O8.exn hN
  refine WP.ret ?_
  show retQ Try.prog 77 Try.f35 (fun v w1 => Own w0.heap.size 31 2 Span.cells w1 v r ∧ Ext noG w0 w1) .ret ρ12 w12
  obtain rfl := Option.some.inj hF
  exact res1 rfl (by decide) h6 ⟨O6, hW⟩

set_option maxHeartbeats 4000000 in
theorem pensionref1_Clip_ok {w0 : World} (l_ : List Span) (s_ : Span) {v_l_ : Value} (H_l_ : RepSl Span.R noG w0 v_l_ l_) {r : (List Span)} (hF : pensionref1_Clip l_ s_ = some r) :
    Calls Try.prog 22 #[v_l_, Span.val s_] w0 fun e w1 => ∃ v, e = .returned v ∧ Ext noG w0 w1 ∧ Own w0.heap.size 31 2 Span.cells w1 v r := by
  refine (Calls.start (P := Try.prog) (args := [v_l_, Span.val s_]) (R := fun v w1 => Own w0.heap.size 31 2 Span.cells w1 v r ∧ Ext noG w0 w1) (n := 9) (w := w0) Try.func22 rfl rfl (Nat.le_of_ble_eq_true rfl) (fun ρ hargs => ?_)).mono (fun e w1 ⟨v, he, hv, hE⟩ => ⟨v, he, hE, hv⟩)
  have h0 := hargs 0 _ rfl
  have h1 := hargs 1 _ rfl
  have hW := Ext.refl noG w0
  obtain ⟨_, _, hs_H_l_, _, _⟩ := RepSl.shape H_l_
  have H_l_ := H_l_.start
  rw [pensionref1_Clip] at hF
  refine WP.seq (WP.rg mixed [[], []] [[], []] [[1], []] [(3, fun u wz => ∃ b, u = .pointer (some ⟨b, 0, none⟩) ∧ w0.heap.size ≤ b ∧ Mb wz b 31 (Span.cells s_)), val 4 (.slice none 0 0)] (by kernel_rfl) ⟨fun _ _ _ hE ⟨b, hb, hs, hM⟩ => ⟨b, hb, hs, hM.exn hE⟩, sV, trivial⟩ ⟨fun ρz wz hE hA ⟨e1, _⟩ _ => core_new rfl rfl hE (o_box (e1.trans h1) (bx_31 _ _)),
 aC rfl rfl (fun _ => rfl), trivial⟩ ?_)
  intro ρ1 w1 hN hf hr
  obtain ⟨b3_, h3, hge_b3_, Hb_b3_⟩ := hf 0 rfl
  have h0 := (hr 0 rfl).trans h0
  have H_l_ := H_l_.exn hN
  have hB_b3_ : w0.heap.size ≤ b3_ := Nat.le_trans hW.size hge_b3_
  have hW := hW.trans hN
  refine WP.seq ?_
  obtain ⟨z, hz, hF⟩ := obind hF
  refine WP.rg mixed [[], [], [1], [0, 2], [3]] [[], [], [1], [0, 2], [3]] [[0], [3], [], [], []] [val 5 (v_l_), val 6 (Span.val s_), (7, fun u wz => ∃ b, u = .slice (some ⟨b, 0, none⟩) 1 1 ∧ w1.heap.size ≤ b ∧ Mb wz b 31 (([s_]).flatMap Span.cells)), (8, fun u wz => Own w0.heap.size 31 2 Span.cells wz u z ∧ ∀ b, u.ownBlock = some b → w1.heap.size ≤ b), (4, fun u wz => Own w0.heap.size 31 2 Span.cells wz u z ∧ ∀ b, u.ownBlock = some b → w1.heap.size ≤ b)] (by kernel_rfl) ⟨sV, sV, fun _ _ _ hE ⟨b, hz, hs, hM⟩ => ⟨b, hz, hs, hM.exn hE⟩, fun _ _ _ hE ⟨hO, hf⟩ => ⟨hO.exn hE, hf⟩, fun _ _ _ hE ⟨hO, hf⟩ => ⟨hO.exn hE, hf⟩, trivial⟩ ⟨mE rfl rfl h0,
 fun ρz wz hE hA ⟨e3, _⟩ _ => core_val rfl rfl (o_load (e3.trans h3) (run_loadN (cs := (Span.cells s_)) (lr_31 _ _) rfl ((Hb_b3_.exn (hA rfl)).ca))),
 fun ρz wz hE hA _ ⟨u1, _⟩ => core_slice rfl rfl hE (o_buildSlice (build_parts1 u1) (bs_32_1 _ _)),
 fun ρz wz hE hA _ ⟨u0, ⟨bz2, hz2, hge2, hM2⟩, _⟩ => core_callR rfl (call_args3 u0 hz2 rfl) cf_35 ((pensionref1_combine_ok  _ _ _ (H_l_.exn (hA rfl)).no (Mb.rep (n := 2) (cells := Span.cells) (hn := fun _ => rfl) (G := noG) hM2 rfl (Nat.le_of_ble_eq_true rfl) (fun h => h)).no hz).mono (fun e w1 ⟨v, he, hE1, hO⟩ => ⟨v, he, hE1, hO.base (Nat.le_trans hW.size hE.size), fun b hb => Nat.le_trans hE.size (hO.lt hb).1⟩)),
 fun ρz wz hE hA _ ⟨⟨hO3, hfr3⟩, _⟩ => core_copy rfl rfl (o_assign rfl) ⟨hO3, hfr3⟩, trivial⟩ ?_
  intro ρ2 w2 hN hf hr
  obtain ⟨v4_, h4⟩ : ∃ v, ρ2 4 = v := ⟨_, rfl⟩
  have hq4 : (fun u wz => Own w0.heap.size 31 2 Span.cells wz u z ∧ ∀ b, u.ownBlock = some b → w1.heap.size ≤ b) (ρ2 4) w2 := hf 4 rfl
  rw [h4] at hq4
  obtain ⟨hq4, hfr4⟩ := hq4
  have hW := hW.trans hN
  have O4 := hq4
  refine WP.ret ?_
  show retQ Try.prog 9 Try.f22 (fun v w1 => Own w0.heap.size 31 2 Span.cells w1 v r ∧ Ext noG w0 w1) .ret ρ2 w2
  obtain rfl := Option.some.inj hF
  exact res1 rfl (by decide) h4 ⟨O4, hW⟩

set_option maxHeartbeats 4000000 in
theorem pensionref12_Spans_ok {w0 : World} (l_ : List api_Fact) (kind_ : Int) (state_ : Int) {v_l_ : Value} (H_l_ : RepSl api_Fact.R noG w0 v_l_ l_) {r : (List Span)} (hF : pensionref12_Spans l_ kind_ state_ = some r) :
    Calls Try.prog 32 #[v_l_, .int .i64 kind_, .int .i64 state_] w0 fun e w1 => ∃ v, e = .returned v ∧ Ext noG w0 w1 ∧ Own w0.heap.size 31 2 Span.cells w1 v r := by
  refine (Calls.start (P := Try.prog) (args := [v_l_, .int .i64 kind_, .int .i64 state_]) (R := fun v w1 => Own w0.heap.size 31 2 Span.cells w1 v r ∧ Ext noG w0 w1) (n := 46) (w := w0) Try.func32 rfl rfl (Nat.le_of_ble_eq_true rfl) (fun ρ hargs => ?_)).mono (fun e w1 ⟨v, he, hv, hE⟩ => ⟨v, he, hE, hv⟩)
  have h0 := hargs 0 _ rfl
  have h1 := hargs 1 _ rfl
  have h2 := hargs 2 _ rfl
  have hW := Ext.refl noG w0
  obtain ⟨_, _, hs_H_l_, _, _⟩ := RepSl.shape H_l_
  have H_l_ := H_l_.start
  rw [pensionref12_Spans] at hF
  refine WP.seq (WP.rb mixed [[]] [[]] [(6, .slice none 0 0)] (by kernel_rfl) ⟨aC rfl rfl (fun _ => rfl), trivial⟩ ?_)
  intro ρ1 w1 hN hf hr
  obtain ⟨h0, h1, h2⟩ := k3 hr h0 h1 h2 rfl
  have H_l_ := H_l_.exn hN
  have hW := hW.trans hN
  refine WP.seq ?_
  obtain ⟨z, hz, hF⟩ := obind hF
  refine WP.rg mixed [[], [0], [1]] [[], [0], [1]] [[0], [], []] [val 10 (v_l_), (11, fun u wz => Own w0.heap.size 49 14 api_Fact.cells wz u z ∧ ∀ b, u.ownBlock = some b → w1.heap.size ≤ b), (7, fun u wz => Own w0.heap.size 49 14 api_Fact.cells wz u z ∧ ∀ b, u.ownBlock = some b → w1.heap.size ≤ b)] (by kernel_rfl) ⟨sV, fun _ _ _ hE ⟨hO, hf⟩ => ⟨hO.exn hE, hf⟩, fun _ _ _ hE ⟨hO, hf⟩ => ⟨hO.exn hE, hf⟩, trivial⟩ ⟨mE rfl rfl h0,
 fun ρz wz hE hA _ ⟨u0, _⟩ => core_callR rfl (call_args1 u0) cf_45 ((pensionref12_Current_ok  _ (H_l_.exn (hA rfl)).no hz).mono (fun e w1 ⟨v, he, hE1, hO⟩ => ⟨v, he, hE1, hO.base (Nat.le_trans hW.size hE.size), fun b hb => Nat.le_trans hE.size (hO.lt hb).1⟩)),
 fun ρz wz hE hA _ ⟨⟨hO1, hfr1⟩, _⟩ => core_copy rfl rfl (o_assign rfl) ⟨hO1, hfr1⟩, trivial⟩ ?_
  intro ρ2 w2 hN hf hr
  obtain ⟨v7_, h7⟩ : ∃ v, ρ2 7 = v := ⟨_, rfl⟩
  have hq7 : (fun u wz => Own w0.heap.size 49 14 api_Fact.cells wz u z ∧ ∀ b, u.ownBlock = some b → w1.heap.size ≤ b) (ρ2 7) w2 := hf 2 rfl
  rw [h7] at hq7
  obtain ⟨hq7, hfr7⟩ := hq7
  obtain ⟨h0, h1, h2⟩ := k3 hr h0 h1 h2 rfl
  have H_l_ := H_l_.exn hN
  have hW := hW.trans hN
  have Hf7 : RepSl api_Fact.R noG w2 v7_ z := hq7.rep (fun _ _ h => h)
  obtain ⟨_, _, hs_Hf7, _, _⟩ := RepSl.shape Hf7
  refine WP.seq (WP.rb mixed [[]] [[]] [(8, .slice none 0 0)] (by kernel_rfl) ⟨aC rfl rfl (fun _ => rfl), trivial⟩ ?_)
  intro ρ3 w3 hN hf hr
  have h8 : ρ3 8 = .slice none 0 0 := hf 0 rfl
  have O8 : Own w0.heap.size 31 2 Span.cells w3 (.slice none 0 0) [] := Own.nil _ _ _ _ _
  obtain ⟨h0, h1, h2, h7⟩ := k4 hr h0 h1 h2 h7 rfl
  have H_l_ := H_l_.exn hN
  have Hf7 : RepSl api_Fact.R (gL [ownG (.slice none 0 0)]) w3 v7_ z := Hf7.mv hN (fun _ h => h.elim) (fun b h => h.elim (fun h => by simp [ownG, Value.ownBlock] at h) (fun h => h.elim))
  have hW := hW.trans hN
  have O8 : Own w0.heap.size 31 2 Span.cells w3 (.slice none 0 0) [] := Own.nil _ _ _ _ _
  refine WP.seq (WP.seq (WP.rb mixed [[]] [[]] [(9, .int .i64 0)] (by kernel_rfl) ⟨aC rfl rfl (fun _ => rfl), trivial⟩ ?_))
  intro ρ4 w4 hN hf hr
  have h9 := hv hf 0 rfl rfl
  obtain ⟨h0, h1, h2, h7, h8⟩ := k5 hr h0 h1 h2 h7 h8 rfl
  have Oo_O8 := O8
  have H_l_ := H_l_.exn hN
  have Hf7 := Hf7.exn hN
  have hW := hW.trans hN
  have O8 : Own w0.heap.size 31 2 Span.cells w4 (.slice none 0 0) [] := Own.nil _ _ _ _ _
  refine WP.block (WP.loop (fun k_ ρ w => ∃ out_ : List Span, ∃ i_ : Int, ∃ v8_ : Value, ρ 0 = v_l_ ∧ ρ 1 = .int .i64 kind_ ∧ ρ 2 = .int .i64 state_ ∧ ρ 7 = v7_ ∧ ρ 8 = v8_ ∧ ρ 9 = .int .i64 i_ ∧ RepSl api_Fact.R (gfr noG w0) w v_l_ l_ ∧ RepSl api_Fact.R (gL [ownG v8_]) w v7_ z ∧ Own w0.heap.size 31 2 Span.cells w v8_ out_ ∧ Ext noG w0 w ∧ loopC k_ (pensionref12_Spans_l l_ kind_ state_ z) (out_, i_) = some r) FU ⟨[], 0, .slice none 0 0, h0, h1, h2, h7, h8, h9, H_l_, Hf7, O8, hW, hF⟩ (fun _ _ h => by obtain ⟨_, _, _, _, _, _, _, _, _, _, _, _, _, h⟩ := h; cases h) ?_)
  rintro k_ ρ5 w5 ⟨out_, i_, v8_, h0, h1, h2, h7, h8, h9, H_l_, Hf7, O8, hW, hF⟩
  have hF : pensionref12_Spans_l l_ kind_ state_ z (loopC k_ (pensionref12_Spans_l l_ kind_ state_ z)) (out_, i_) = some r := hF
  generalize hrec_ : loopC k_ (pensionref12_Spans_l l_ kind_ state_ z) = rec_ at hF
  rw [pensionref12_Spans_l] at hF
  refine WP.seq (WP.seq (WP.rb mixed [[], [], [1], [0, 2]] [[9], [7], [], []] [(12, .int .i64 i_), (13, v7_), (14, .int .i64 (z.length : Int)), (15, .bool (decide (i_ < (z.length : Int))))] (by kernel_rfl) ⟨mE rfl rfl h9,
 mE rfl rfl h7,
 fun ρz wz hE hA _ ⟨u1, _⟩ => core_val rfl rfl (o_len (u1.trans hs_Hf7) len_24),
 fun ρz wz hE hA _ ⟨u0, u2, _⟩ => core_val rfl rfl (o_lss u0 u2 rfl), trivial⟩ ?_))
  intro ρ6 w6 hN hf hr
  have h15 := hv hf 3 rfl rfl
  obtain ⟨h0, h1, h2, h7, h8, h9⟩ := k6 hr h0 h1 h2 h7 h8 h9 rfl
  have Oo_O8 := O8
  have H_l_ := H_l_.exn hN
  have Hf7 := Hf7.exn hN
  have hW := hW.trans hN
  have O8 := Oo_O8.exn hN
  refine WP.cond rfl h15 (fun hb => ?_) (fun hb => ?_)
  · have hF := (if_pos hb).symm.trans hF
    refine WP.skip (WP.seqJ (fun ρ w => ∃ out_2 : List Span, ∃ v8_2 : Value, ρ 0 = v_l_ ∧ ρ 1 = .int .i64 kind_ ∧ ρ 2 = .int .i64 state_ ∧ ρ 7 = v7_ ∧ ρ 8 = v8_2 ∧ ρ 9 = .int .i64 i_ ∧ RepSl api_Fact.R (gfr noG w0) w v_l_ l_ ∧ RepSl api_Fact.R (gL [ownG v8_2]) w v7_ z ∧ Own w0.heap.size 31 2 Span.cells w v8_2 out_2 ∧ Ext noG w0 w ∧ pensionref12_Spans_j i_ rec_ out_2 = some r) ?_ ?_)
    · refine WP.block (WP.seq ?_)
      obtain ⟨y, hy, hF⟩ := obind hF
      obtain ⟨ay, cy, hvy, hiy, hAy⟩ := RepSl.getF Hf7 hy
      obtain ⟨c, hc, hF⟩ := obind hF
      obtain ⟨y2, hy2, hc⟩ := andB hc
      obtain ⟨ay2, cy2, hvy2, hiy2, hAy2⟩ := RepSl.getFI Hf7 hy2
      have hc := andE hc
      refine WP.rb mixed [[], [], [0, 1], [2], [3], [], [4, 5], [6], [7], [7], [7, 8, 9], [7, 10], [7, 11], [7], [7, 12, 13], [7, 14]] [[7], [9], [], [], [], [1], [], [], [7], [9], [], [], [], [2], [], []] [(18, v7_), (19, .int .i64 i_), (20, .pointer (some (ay.add (Int.toNat i_ * 14)))), (21, .pointer (some ((ay.add (Int.toNat i_ * 14)).add 5))), (22, .int .i64 y.Kind), (23, .int .i64 kind_), (24, .bool (y.Kind == kind_)), (25, .bool (y.Kind == kind_)), (26, gv ((y.Kind == kind_)) v7_), (27, gv ((y.Kind == kind_)) (.int .i64 i_)), (28, gv ((y.Kind == kind_)) (.pointer (some (ay2.add (Int.toNat i_ * 14))))), (29, gv ((y.Kind == kind_)) (.pointer (some ((ay2.add (Int.toNat i_ * 14)).add 6)))), (30, gv ((y.Kind == kind_)) (.int .i64 y2.State)), (31, gv ((y.Kind == kind_)) (.int .i64 state_)), (32, gv ((y.Kind == kind_)) (.bool (y2.State == state_))), (33, .bool c)] (by kernel_rfl) ⟨mE rfl rfl h7,
 mE rfl rfl h9,
 fun ρz wz hE hA _ ⟨u0, u1, _⟩ => core_val rfl rfl (o_indexAddr (u0.trans hvy) u1 (ia_24 hiy)),
 fun ρz wz hE hA _ ⟨u2, _⟩ => core_val rfl rfl (o_fieldAddr u2 (fa_49_5 _ _)),
 fun ρz wz hE hA _ ⟨u3, _⟩ => core_val rfl rfl (o_load u3 (run_load1 (lr_3 _ _) (CA.sub ((hAy.exn (hA rfl)).ca) 5 1))),
 mE rfl rfl h1,
 fun ρz wz hE hA _ ⟨u4, u5, _⟩ => core_val rfl rfl (o_eql u4 u5 rfl),
 mU rfl rfl rfl,
 fun ρz wz hE hA ⟨e7, _⟩ ⟨u7, _⟩ => gIf rfl rfl (yT rfl u7) fun gc F hF => core_val rfl hF (o_move (e7.trans h7)),
 fun ρz wz hE hA ⟨e9, _⟩ ⟨u7, _⟩ => gIf rfl rfl (yT rfl u7) fun gc F hF => core_val rfl hF (o_move (e9.trans h9)),
 fun ρz wz hE hA _ ⟨u7, u8, u9, _⟩ => gIf rfl rfl (yT rfl u7) fun gc F hF => core_val rfl hF (o_indexAddr ((gt gc u8).trans (hvy2 gc)) (gt gc u9) (ia_24 (hiy2 gc))),
 fun ρz wz hE hA _ ⟨u7, u10, _⟩ => gIf rfl rfl (yT rfl u7) fun gc F hF => core_val rfl hF (o_fieldAddr (gt gc u10) (fa_49_6 _ _)),
 fun ρz wz hE hA _ ⟨u7, u11, _⟩ => gIf rfl rfl (yT rfl u7) fun gc F hF => core_val rfl hF (o_load (gt gc u11) (run_load1 (lr_3 _ _) (CA.sub (((hAy2 gc).exn (hA rfl)).ca) 6 1))),
 fun ρz wz hE hA ⟨e2, _⟩ ⟨u7, _⟩ => gIf rfl rfl (yT rfl u7) fun gc F hF => core_val rfl hF (o_move (e2.trans h2)),
 fun ρz wz hE hA _ ⟨u7, u12, u13, _⟩ => gIf rfl rfl (yT rfl u7) fun gc F hF => core_val rfl hF (o_eql (gt gc u12) (gt gc u13) rfl),
 fun ρz wz hE hA _ ⟨u7, u14, _⟩ => core_valE rfl rfl (congrArg Value.bool hc) (o_pick_and u7 u14 rfl), trivial⟩ ?_
      intro ρ9 w9 hN hf hr
      have h33 := hv hf 15 rfl rfl
      obtain ⟨h0, h1, h2, h7, h8, h9⟩ := k6 hr h0 h1 h2 h7 h8 h9 rfl
      have Oo_O8 := O8
      have H_l_ := H_l_.exn hN
      have Hf7 := Hf7.exn hN
      have hW := hW.trans hN
      have O8 := Oo_O8.exn hN
      refine WP.cond rfl h33 (fun hb => ?_) (fun hb => ?_)
      · have hF := (if_pos hb).symm.trans hF
        obtain ⟨y3, hy3, hF⟩ := obind hF
        obtain ⟨ay3, cy3, hvy3, hiy3, hAy3⟩ := RepSl.getF Hf7 hy3
        obtain ⟨l, hl, hF⟩ := obind hF
        refine WP.region mixed [[], [], [], [1, 2], [3], [4], [5], [0, 5, 6], [0, 7]] [[], [], [], [1, 2], [3], [4], [5], [0, 6], [7]] [[8], [7], [9], [], [], [], [], [], []] [7] [] [val 34 (v8_), val 35 (v7_), val 36 (.int .i64 i_), val 37 (.pointer (some (ay3.add (Int.toNat i_ * 14)))), val 38 (.pointer (some ((ay3.add (Int.toNat i_ * 14)).add 7))), val 39 (Span.val y3.Span), (40, fun u wz => ∃ b, u = .slice (some ⟨b, 0, none⟩) 1 1 ∧ w9.heap.size ≤ b ∧ Mb wz b 31 (([y3.Span]).flatMap Span.cells)), (41, fun u wz => Own w0.heap.size 31 2 Span.cells wz u l ∧ ∀ b, u.ownBlock = some b → (v8_.ownBlock = some b ∨ w9.heap.size ≤ b)), (8, fun u wz => Own w0.heap.size 31 2 Span.cells wz u l ∧ ∀ b, u.ownBlock = some b → (v8_.ownBlock = some b ∨ w9.heap.size ≤ b))] (fun b => Value.ownBlock v8_ = some b) (by kernel_rfl) ⟨sV, sV, sV, sV, sV, sV, fun _ _ _ hE ⟨b, hz, hs, hM⟩ => ⟨b, hz, hs, hM.ext hE (fun hg => absurd (O8.lt hg).2 (Nat.not_lt.2 hs))⟩, fun _ _ _ hE ⟨hO, hf⟩ => ⟨hO.exn hE, hf⟩, fun _ _ _ hE ⟨hO, hf⟩ => ⟨hO.exn hE, hf⟩, trivial⟩ ⟨mE rfl rfl h8,
 mE rfl rfl h7,
 mE rfl rfl h9,
 fun ρz wz hE hA _ ⟨u1, u2, _⟩ => core_val rfl rfl (o_indexAddr (u1.trans hvy3) u2 (ia_24 hiy3)),
 fun ρz wz hE hA _ ⟨u3, _⟩ => core_val rfl rfl (o_fieldAddr u3 (fa_49_7 _ _)),
 fun ρz wz hE hA _ ⟨u4, _⟩ => core_val rfl rfl (o_load u4 (run_loadN (cs := (Span.cells y3.Span)) (lr_31 _ _) rfl (CA.sub ((hAy3.exn (hA rfl)).ca) 7 2))),
 fun ρz wz hE hA _ ⟨u5, _⟩ => core_slice rfl rfl hE (o_buildSlice (build_parts1 u5) (bs_32_1 _ _)),
 fun ρz wz hE hA _ ⟨u0, ⟨bz6, hz6, hge6, hM6⟩, _⟩ => core_append (n := 2) (cells := Span.cells) (B := w0.heap.size) (w0 := w9) rfl rfl (fun b hb => hb) u0 hz6 (fun _ => rfl) one_31 si_32 se_31 (by decide) (by decide) (O8.exn (hA rfl)) ⟨_, (Mb.rep (n := 2) (cells := Span.cells) (hn := fun _ => rfl) (G := noG) hM6 rfl (Nat.le_of_ble_eq_true rfl) (fun h => h))⟩ hl (Nat.le_trans hW.size hE.size) hE.size (fun v1 w1 h1 h2 => ⟨h1, h2⟩),
 fun ρz wz hE hA _ ⟨⟨hO7, hfr7⟩, _⟩ => core_copy rfl rfl (o_assign rfl) ⟨hO7, hfr7⟩, trivial⟩ ?_
        intro ρ10 w10 hE hN hf hr
        obtain ⟨v8_3, h8⟩ : ∃ v, ρ10 8 = v := ⟨_, rfl⟩
        have hq8 : (fun u wz => Own w0.heap.size 31 2 Span.cells wz u l ∧ ∀ b, u.ownBlock = some b → (v8_.ownBlock = some b ∨ w9.heap.size ≤ b)) (ρ10 8) w10 := hf 8 rfl
        rw [h8] at hq8
        obtain ⟨hq8, hfr8⟩ := hq8
        obtain ⟨h0, h1, h2, h7, h9⟩ := k5 hr h0 h1 h2 h7 h9 rfl
        have Oo_O8 := O8
        have H_l_ := H_l_.over hE (fun b hb => (Oo_O8.lt hb).1)
        have Hf7 : RepSl api_Fact.R (gL [ownG v8_3]) w10 v7_ z := Hf7.mv hE (fun _ h => .inl (.inl h)) (fun b h => h.elim (fun h => (hfr8 _ h).elim (fun h => .inl (by have h := h; exact (.inl h))) (fun h => .inr h)) (fun h => h.elim))
        have hW := Ext.own hW hE (fun b hb => (Oo_O8.lt hb).1)
        have O8 := hq8
        exact ⟨l, v8_3, h0, h1, h2, h7, h8, h9, H_l_, Hf7, O8, hW, hF⟩
      have hF := (if_neg (Bool.eq_false_iff.1 hb)).symm.trans hF
      refine WP.skip ?_
      exact ⟨out_, v8_, h0, h1, h2, h7, h8, h9, H_l_, Hf7, O8, hW, hF⟩
    rintro ρ7 w7 ⟨out_2, v8_2, h0, h1, h2, h7, h8, h9, H_l_, Hf7, O8, hW, hF⟩
    rw [pensionref12_Spans_j] at hF
    refine WP.rv mixed [[], [0], [0, 1]] [[], [0], [1]] [[9], [], []] [(16, .int .i64 i_), (17, .int .i64 (i64 (i_ + 1))), (9, .int .i64 (i64 (i_ + 1)))] (by kernel_rfl) ⟨mE rfl rfl h9,
 fun ρz wz hE hA _ ⟨u0, _⟩ => core_val rfl rfl (o_add u0 rfl rfl),
 aU rfl rfl rfl, trivial⟩ ?_
    intro ρ8 w8 hN hf hr
    have h9 := hv hf 2 rfl rfl
    obtain ⟨h0, h1, h2, h7, h8⟩ := k5 hr h0 h1 h2 h7 h8 rfl
    have Oo_O8 := O8
    have H_l_ := H_l_.exn hN
    have Hf7 := Hf7.exn hN
    have hW := hW.trans hN
    have O8 := Oo_O8.exn hN
    exact ⟨out_2, i64 (i_ + 1), v8_2, h0, h1, h2, h7, h8, h9, H_l_, Hf7, O8, hW, (by first | exact hF | (rw [hrec_]; exact hF))⟩
  have hF := (if_neg (Bool.eq_false_iff.1 hb)).symm.trans hF
  refine WP.exit (thenQ_exit (thenQ_exit (blockQ_hit (WP.seq ?_))))
  obtain ⟨z2, hz2, hF⟩ := obind hF
  obtain ⟨z3, hz3, hF⟩ := obind hF
  refine WP.rg mixed [[], [], [1], [0, 2], [3]] [[], [], [1], [0, 2], [3]] [[8], [0], [], [], []] [val 42 (v8_), val 43 (v_l_), val 44 (Span.val z2), (45, fun u wz => Own w0.heap.size 31 2 Span.cells wz u z3 ∧ ∀ b, u.ownBlock = some b → w6.heap.size ≤ b), (6, fun u wz => Own w0.heap.size 31 2 Span.cells wz u z3 ∧ ∀ b, u.ownBlock = some b → w6.heap.size ≤ b)] (by kernel_rfl) ⟨sV, sV, sV, fun _ _ _ hE ⟨hO, hf⟩ => ⟨hO.exn hE, hf⟩, fun _ _ _ hE ⟨hO, hf⟩ => ⟨hO.exn hE, hf⟩, trivial⟩ ⟨mE rfl rfl h8,
 mE rfl rfl h0,
 fun ρz wz hE hA _ ⟨u1, _⟩ => core_call rfl (call_args1 u1) cf_46 (pensionref12_Life_ok  _ (H_l_.exn (hA rfl)).no hz2),
 fun ρz wz hE hA _ ⟨u0, u2, _⟩ => core_callR rfl (call_args2 u0 u2) cf_22 ((pensionref1_Clip_ok  _ _ ((O8.exn (hA rfl)).rep (hn := fun _ => rfl) (G := noG) (fun _ _ h => h)).no hz3).mono (fun e w1 ⟨v, he, hE1, hO⟩ => ⟨v, he, hE1, hO.base (Nat.le_trans hW.size hE.size), fun b hb => Nat.le_trans hE.size (hO.lt hb).1⟩)),
 fun ρz wz hE hA _ ⟨⟨hO3, hfr3⟩, _⟩ => core_copy rfl rfl (o_assign rfl) ⟨hO3, hfr3⟩, trivial⟩ ?_
  intro ρ11 w11 hN hf hr
  obtain ⟨v6_, h6⟩ : ∃ v, ρ11 6 = v := ⟨_, rfl⟩
  have hq6 : (fun u wz => Own w0.heap.size 31 2 Span.cells wz u z3 ∧ ∀ b, u.ownBlock = some b → w6.heap.size ≤ b) (ρ11 6) w11 := hf 4 rfl
  rw [h6] at hq6
  obtain ⟨hq6, hfr6⟩ := hq6
  have Oo_O8 := O8
  have hW := hW.trans hN
  have O6 := hq6
  refine WP.ret ?_
  show retQ Try.prog 46 Try.f32 (fun v w1 => Own w0.heap.size 31 2 Span.cells w1 v r ∧ Ext noG w0 w1) .ret ρ11 w11
  obtain rfl := Option.some.inj hF
  exact res1 rfl (by decide) h6 ⟨O6, hW⟩

set_option maxHeartbeats 4000000 in
theorem pensionref1_Union_ok {w0 : World} (a_ : List Span) (b_ : List Span) {v_a_ : Value} (H_a_ : RepSl Span.R noG w0 v_a_ a_) {v_b_ : Value} (H_b_ : RepSl Span.R noG w0 v_b_ b_) {r : (List Span)} (hF : pensionref1_Union a_ b_ = some r) :
    Calls Try.prog 31 #[v_a_, v_b_] w0 fun e w1 => ∃ v, e = .returned v ∧ Ext noG w0 w1 ∧ Own w0.heap.size 31 2 Span.cells w1 v r := by
  refine (Calls.start (P := Try.prog) (args := [v_a_, v_b_]) (R := fun v w1 => Own w0.heap.size 31 2 Span.cells w1 v r ∧ Ext noG w0 w1) (n := 8) (w := w0) Try.func31 rfl rfl (Nat.le_of_ble_eq_true rfl) (fun ρ hargs => ?_)).mono (fun e w1 ⟨v, he, hv, hE⟩ => ⟨v, he, hE, hv⟩)
  have h0 := hargs 0 _ rfl
  have h1 := hargs 1 _ rfl
  have hW := Ext.refl noG w0
  obtain ⟨_, _, hs_H_a_, _, _⟩ := RepSl.shape H_a_
  have H_a_ := H_a_.start
  obtain ⟨_, _, hs_H_b_, _, _⟩ := RepSl.shape H_b_
  have H_b_ := H_b_.start
  rw [pensionref1_Union] at hF
  refine WP.seq (WP.rb mixed [[]] [[]] [(4, .slice none 0 0)] (by kernel_rfl) ⟨aC rfl rfl (fun _ => rfl), trivial⟩ ?_)
  intro ρ1 w1 hN hf hr
  obtain ⟨h0, h1⟩ := k2 hr h0 h1 rfl
  have H_a_ := H_a_.exn hN
  have H_b_ := H_b_.exn hN
  have hW := hW.trans hN
  refine WP.seq ?_
  obtain ⟨z, hz, hF⟩ := obind hF
  refine WP.rg mixed [[], [], [0, 1], [2]] [[], [], [0, 1], [2]] [[0], [1], [], []] [val 5 (v_a_), val 6 (v_b_), (7, fun u wz => Own w0.heap.size 31 2 Span.cells wz u z ∧ ∀ b, u.ownBlock = some b → w1.heap.size ≤ b), (4, fun u wz => Own w0.heap.size 31 2 Span.cells wz u z ∧ ∀ b, u.ownBlock = some b → w1.heap.size ≤ b)] (by kernel_rfl) ⟨sV, sV, fun _ _ _ hE ⟨hO, hf⟩ => ⟨hO.exn hE, hf⟩, fun _ _ _ hE ⟨hO, hf⟩ => ⟨hO.exn hE, hf⟩, trivial⟩ ⟨mE rfl rfl h0,
 mE rfl rfl h1,
 fun ρz wz hE hA _ ⟨u0, u1, _⟩ => core_callR rfl (call_args3 u0 u1 rfl) cf_35 ((pensionref1_combine_ok  _ _ _ (H_a_.exn (hA rfl)).no (H_b_.exn (hA rfl)).no hz).mono (fun e w1 ⟨v, he, hE1, hO⟩ => ⟨v, he, hE1, hO.base (Nat.le_trans hW.size hE.size), fun b hb => Nat.le_trans hE.size (hO.lt hb).1⟩)),
 fun ρz wz hE hA _ ⟨⟨hO2, hfr2⟩, _⟩ => core_copy rfl rfl (o_assign rfl) ⟨hO2, hfr2⟩, trivial⟩ ?_
  intro ρ2 w2 hN hf hr
  obtain ⟨v4_, h4⟩ : ∃ v, ρ2 4 = v := ⟨_, rfl⟩
  have hq4 : (fun u wz => Own w0.heap.size 31 2 Span.cells wz u z ∧ ∀ b, u.ownBlock = some b → w1.heap.size ≤ b) (ρ2 4) w2 := hf 3 rfl
  rw [h4] at hq4
  obtain ⟨hq4, hfr4⟩ := hq4
  have hW := hW.trans hN
  have O4 := hq4
  refine WP.ret ?_
  show retQ Try.prog 8 Try.f31 (fun v w1 => Own w0.heap.size 31 2 Span.cells w1 v r ∧ Ext noG w0 w1) .ret ρ2 w2
  obtain rfl := Option.some.inj hF
  exact res1 rfl (by decide) h4 ⟨O4, hW⟩

set_option maxHeartbeats 4000000 in
theorem pensionref21_Sick_ok {w0 : World} (l_ : List api_Fact) {v_l_ : Value} (H_l_ : RepSl api_Fact.R noG w0 v_l_ l_) {r : (List Span)} (hF : pensionref21_Sick l_ = some r) :
    Calls Try.prog 14 #[v_l_] w0 fun e w1 => ∃ v, e = .returned v ∧ Ext noG w0 w1 ∧ Own w0.heap.size 31 2 Span.cells w1 v r := by
  refine (Calls.start (P := Try.prog) (args := [v_l_]) (R := fun v w1 => Own w0.heap.size 31 2 Span.cells w1 v r ∧ Ext noG w0 w1) (n := 15) (w := w0) Try.func14 rfl rfl (Nat.le_of_ble_eq_true rfl) (fun ρ hargs => ?_)).mono (fun e w1 ⟨v, he, hv, hE⟩ => ⟨v, he, hE, hv⟩)
  have h0 := hargs 0 _ rfl
  have hW := Ext.refl noG w0
  obtain ⟨_, _, hs_H_l_, _, _⟩ := RepSl.shape H_l_
  have H_l_ := H_l_.start
  rw [pensionref21_Sick] at hF
  refine WP.seq (WP.rb mixed [[]] [[]] [(2, .slice none 0 0)] (by kernel_rfl) ⟨aC rfl rfl (fun _ => rfl), trivial⟩ ?_)
  intro ρ1 w1 hN hf hr
  have h0 := (hr 0 rfl).trans h0
  have H_l_ := H_l_.exn hN
  have hW := hW.trans hN
  refine WP.seq (WP.rb mixed [[]] [[]] [(3, .slice none 0 0)] (by kernel_rfl) ⟨aC rfl rfl (fun _ => rfl), trivial⟩ ?_)
  intro ρ2 w2 hN hf hr
  have h3 : ρ2 3 = .slice none 0 0 := hf 0 rfl
  have O3 : Own w0.heap.size 31 2 Span.cells w2 (.slice none 0 0) [] := Own.nil _ _ _ _ _
  have h0 := (hr 0 rfl).trans h0
  have H_l_ := H_l_.exn hN
  have hW := hW.trans hN
  have O3 : Own w0.heap.size 31 2 Span.cells w2 (.slice none 0 0) [] := Own.nil _ _ _ _ _
  refine WP.seq (WP.seq (WP.rb mixed [[]] [[]] [(4, .int .i64 0)] (by kernel_rfl) ⟨aC rfl rfl (fun _ => rfl), trivial⟩ ?_))
  intro ρ3 w3 hN hf hr
  have h4 := hv hf 0 rfl rfl
  obtain ⟨h0, h3⟩ := k2 hr h0 h3 rfl
  have Oo_O3 := O3
  have H_l_ := H_l_.exn hN
  have hW := hW.trans hN
  have O3 : Own w0.heap.size 31 2 Span.cells w3 (.slice none 0 0) [] := Own.nil _ _ _ _ _
  refine WP.block (WP.loop (fun k_ ρ w => ∃ out_ : List Span, ∃ s_ : Int, ∃ v3_ : Value, ρ 0 = v_l_ ∧ ρ 3 = v3_ ∧ ρ 4 = .int .i64 s_ ∧ RepSl api_Fact.R (gfr noG w0) w v_l_ l_ ∧ Own w0.heap.size 31 2 Span.cells w v3_ out_ ∧ Ext noG w0 w ∧ loopC k_ (pensionref21_Sick_l l_) (out_, s_) = some r) FU ⟨[], 0, .slice none 0 0, h0, h3, h4, H_l_, O3, hW, hF⟩ (fun _ _ h => by obtain ⟨_, _, _, _, _, _, _, _, _, h⟩ := h; cases h) ?_)
  rintro k_ ρ4 w4 ⟨out_, s_, v3_, h0, h3, h4, H_l_, O3, hW, hF⟩
  have hF : pensionref21_Sick_l l_ (loopC k_ (pensionref21_Sick_l l_)) (out_, s_) = some r := hF
  generalize hrec_ : loopC k_ (pensionref21_Sick_l l_) = rec_ at hF
  rw [pensionref21_Sick_l] at hF
  refine WP.seq (WP.seq (WP.rb mixed [[], [0]] [[4], []] [(5, .int .i64 s_), (6, .bool (decide (s_ < 6)))] (by kernel_rfl) ⟨mE rfl rfl h4,
 fun ρz wz hE hA _ ⟨u0, _⟩ => core_val rfl rfl (o_lss u0 rfl rfl), trivial⟩ ?_))
  intro ρ5 w5 hN hf hr
  have h6 := hv hf 1 rfl rfl
  obtain ⟨h0, h3, h4⟩ := k3 hr h0 h3 h4 rfl
  have Oo_O3 := O3
  have H_l_ := H_l_.exn hN
  have hW := hW.trans hN
  have O3 := Oo_O3.exn hN
  refine WP.cond rfl h6 (fun hb => ?_) (fun hb => ?_)
  · have hF := (if_pos hb).symm.trans hF
    refine WP.skip (WP.seq (WP.block ?_))
    obtain ⟨z, hz, hF⟩ := obind hF
    obtain ⟨z2, hz2, hF⟩ := obind hF
    refine WP.rg mixed [[], [], [], [1, 2], [0, 3], [0, 4]] [[], [], [], [1, 2], [0, 3], [4]] [[3], [0], [4], [], [], []] [val 9 (v3_), val 10 (v_l_), val 11 (.int .i64 s_), (12, fun u wz => Own w0.heap.size 31 2 Span.cells wz u z ∧ ∀ b, u.ownBlock = some b → w5.heap.size ≤ b), (13, fun u wz => Own w0.heap.size 31 2 Span.cells wz u z2 ∧ ∀ b, u.ownBlock = some b → w5.heap.size ≤ b), (3, fun u wz => Own w0.heap.size 31 2 Span.cells wz u z2 ∧ ∀ b, u.ownBlock = some b → w5.heap.size ≤ b)] (by kernel_rfl) ⟨sV, sV, sV, fun _ _ _ hE ⟨hO, hf⟩ => ⟨hO.exn hE, hf⟩, fun _ _ _ hE ⟨hO, hf⟩ => ⟨hO.exn hE, hf⟩, fun _ _ _ hE ⟨hO, hf⟩ => ⟨hO.exn hE, hf⟩, trivial⟩ ⟨mE rfl rfl h3,
 mE rfl rfl h0,
 mE rfl rfl h4,
 fun ρz wz hE hA _ ⟨u1, u2, _⟩ => core_callR rfl (call_args3 u1 rfl u2) cf_32 ((pensionref12_Spans_ok  _ _ _ (H_l_.exn (hA rfl)).no hz).mono (fun e w1 ⟨v, he, hE1, hO⟩ => ⟨v, he, hE1, hO.base (Nat.le_trans hW.size hE.size), fun b hb => Nat.le_trans hE.size (hO.lt hb).1⟩)),
 fun ρz wz hE hA _ ⟨u0, ⟨hO3, hfr3⟩, _⟩ => core_callR rfl (call_args2 u0 rfl) cf_31 ((pensionref1_Union_ok  _ _ ((O3.exn (hA rfl)).rep (hn := fun _ => rfl) (G := noG) (fun _ _ h => h)).no (hO3.rep (hn := fun _ => rfl) (G := noG) (fun _ _ h => h)).no hz2).mono (fun e w1 ⟨v, he, hE1, hO⟩ => ⟨v, he, hE1, hO.base (Nat.le_trans hW.size hE.size), fun b hb => Nat.le_trans hE.size (hO.lt hb).1⟩)),
 fun ρz wz hE hA _ ⟨⟨hO4, hfr4⟩, _⟩ => core_copy rfl rfl (o_assign rfl) ⟨hO4, hfr4⟩, trivial⟩ ?_
    intro ρ6 w6 hN hf hr
    obtain ⟨v3_2, h3⟩ : ∃ v, ρ6 3 = v := ⟨_, rfl⟩
    have hq3 : (fun u wz => Own w0.heap.size 31 2 Span.cells wz u z2 ∧ ∀ b, u.ownBlock = some b → w5.heap.size ≤ b) (ρ6 3) w6 := hf 5 rfl
    rw [h3] at hq3
    obtain ⟨hq3, hfr3⟩ := hq3
    obtain ⟨h0, h4⟩ := k2 hr h0 h4 rfl
    have Oo_O3 := O3
    have H_l_ := H_l_.exn hN
    have hW := hW.trans hN
    have O3 := hq3
    refine WP.rv mixed [[], [0], [0, 1]] [[], [0], [1]] [[4], [], []] [(7, .int .i64 s_), (8, .int .i64 (i64 (s_ + 1))), (4, .int .i64 (i64 (s_ + 1)))] (by kernel_rfl) ⟨mE rfl rfl h4,
 fun ρz wz hE hA _ ⟨u0, _⟩ => core_val rfl rfl (o_add u0 rfl rfl),
 aU rfl rfl rfl, trivial⟩ ?_
    intro ρ7 w7 hN hf hr
    have h4 := hv hf 2 rfl rfl
    obtain ⟨h0, h3⟩ := k2 hr h0 h3 rfl
    have Oo_O3 := O3
    have H_l_ := H_l_.exn hN
    have hW := hW.trans hN
    have O3 := Oo_O3.exn hN
    exact ⟨z2, i64 (s_ + 1), v3_2, h0, h3, h4, H_l_, O3, hW, (by first | exact hF | (rw [hrec_]; exact hF))⟩
  have hF := (if_neg (Bool.eq_false_iff.1 hb)).symm.trans hF
  refine WP.exit (thenQ_exit (thenQ_exit (blockQ_hit (WP.seq (WP.rb mixed [[], [0]] [[3], []] [(14, v3_), (2, v3_)] (by kernel_rfl) ⟨mE rfl rfl h3,
 aU rfl rfl rfl, trivial⟩ ?_)))))
  intro ρ8 w8 hN hf hr
  have h2 := hv hf 1 rfl rfl
  have Oo_O3 := O3
  have hW := hW.trans hN
  have O2 := Oo_O3.exn hN
  refine WP.ret ?_
  show retQ Try.prog 15 Try.f14 (fun v w1 => Own w0.heap.size 31 2 Span.cells w1 v r ∧ Ext noG w0 w1) .ret ρ8 w8
  obtain rfl := Option.some.inj hF
  exact res1 rfl (by decide) h2 ⟨O2, hW⟩

set_option maxHeartbeats 4000000 in
theorem pensionplain_Same_of_api_Span_ok {w0 : World} (a_ : List Span) (b_ : List Span) {v_a_ : Value} (H_a_ : RepSl Span.R noG w0 v_a_ a_) {v_b_ : Value} (H_b_ : RepSl Span.R noG w0 v_b_ b_) {r : Bool} (hF : pensionplain_Same_of_api_Span a_ b_ = some r) :
    Calls Try.prog 12 #[v_a_, v_b_] w0 fun e w1 => e = .returned (.bool r) ∧ Ext noG w0 w1 := by
  refine (Calls.start (P := Try.prog) (args := [v_a_, v_b_]) (R := fun v w1 => v = .bool r ∧ Ext noG w0 w1) (n := 26) (w := w0) Try.func12 rfl rfl (Nat.le_of_ble_eq_true rfl) (fun ρ hargs => ?_)).mono (fun e w1 ⟨v, he, hv, hE⟩ => ⟨hv ▸ he, hE⟩)
  have h0 := hargs 0 _ rfl
  have h1 := hargs 1 _ rfl
  have hW := Ext.refl noG w0
  obtain ⟨_, _, hs_H_a_, _, _⟩ := RepSl.shape H_a_
  have H_a_ := H_a_.start
  obtain ⟨_, _, hs_H_b_, _, _⟩ := RepSl.shape H_b_
  have H_b_ := H_b_.start
  rw [pensionplain_Same_of_api_Span] at hF
  refine WP.seq (WP.rb mixed [[]] [[]] [(4, .bool false)] (by kernel_rfl) ⟨aC rfl rfl (fun _ => rfl), trivial⟩ ?_)
  intro ρ1 w1 hN hf hr
  obtain ⟨h0, h1⟩ := k2 hr h0 h1 rfl
  have H_a_ := H_a_.exn hN
  have H_b_ := H_b_.exn hN
  have hW := hW.trans hN
  refine WP.seq (WP.seq (WP.rb mixed [[], [0], [], [2], [1, 3]] [[0], [], [1], [], []] [(6, v_a_), (7, .int .i64 (a_.length : Int)), (8, v_b_), (9, .int .i64 (b_.length : Int)), (10, .bool ((a_.length : Int) != (b_.length : Int)))] (by kernel_rfl) ⟨mE rfl rfl h0,
 fun ρz wz hE hA _ ⟨u0, _⟩ => core_val rfl rfl (o_len (u0.trans hs_H_a_) len_32),
 mE rfl rfl h1,
 fun ρz wz hE hA _ ⟨u2, _⟩ => core_val rfl rfl (o_len (u2.trans hs_H_b_) len_32),
 fun ρz wz hE hA _ ⟨u1, u3, _⟩ => core_val rfl rfl (o_neq u1 u3 rfl), trivial⟩ ?_))
  intro ρ2 w2 hN hf hr
  have h10 := hv hf 4 rfl rfl
  obtain ⟨h0, h1⟩ := k2 hr h0 h1 rfl
  have H_a_ := H_a_.exn hN
  have H_b_ := H_b_.exn hN
  have hW := hW.trans hN
  refine WP.cond rfl h10 (fun hb => ?_) (fun hb => ?_)
  · have hF := (if_pos hb).symm.trans hF
    refine WP.seq (WP.rb mixed [[]] [[]] [(4, .bool false)] (by kernel_rfl) ⟨aC rfl rfl (fun _ => rfl), trivial⟩ ?_)
    intro ρ3 w3 hN hf hr
    have h4 := hv hf 0 rfl rfl
    have hW := hW.trans hN
    refine WP.ret ?_
    show retQ Try.prog 26 Try.f12 (fun v w1 => v = .bool r ∧ Ext noG w0 w1) .ret ρ3 w3
    obtain rfl := Option.some.inj hF
    exact res1 rfl (by decide) h4 ⟨rfl, hW⟩
  have hF := (if_neg (Bool.eq_false_iff.1 hb)).symm.trans hF
  refine WP.skip (WP.seq (WP.seq (WP.rb mixed [[]] [[]] [(5, .int .i64 0)] (by kernel_rfl) ⟨aC rfl rfl (fun _ => rfl), trivial⟩ ?_)))
  intro ρ4 w4 hN hf hr
  have h5 := hv hf 0 rfl rfl
  obtain ⟨h0, h1⟩ := k2 hr h0 h1 rfl
  have H_a_ := H_a_.exn hN
  have H_b_ := H_b_.exn hN
  have hW := hW.trans hN
  refine WP.block (WP.loop (fun k_ ρ w => ∃ i_ : Int, ρ 0 = v_a_ ∧ ρ 1 = v_b_ ∧ ρ 5 = .int .i64 i_ ∧ RepSl Span.R (gfr noG w0) w v_a_ a_ ∧ RepSl Span.R (gfr noG w0) w v_b_ b_ ∧ Ext noG w0 w ∧ loopC k_ (pensionplain_Same_of_api_Span_l a_ b_) i_ = some r) FU ⟨0, h0, h1, h5, H_a_, H_b_, hW, hF⟩ (fun _ _ h => by obtain ⟨_, _, _, _, _, _, _, h⟩ := h; cases h) ?_)
  rintro k_ ρ5 w5 ⟨i_, h0, h1, h5, H_a_, H_b_, hW, hF⟩
  have hF : pensionplain_Same_of_api_Span_l a_ b_ (loopC k_ (pensionplain_Same_of_api_Span_l a_ b_)) i_ = some r := hF
  generalize hrec_ : loopC k_ (pensionplain_Same_of_api_Span_l a_ b_) = rec_ at hF
  rw [pensionplain_Same_of_api_Span_l] at hF
  refine WP.seq (WP.seq (WP.rb mixed [[], [], [1], [0, 2]] [[5], [0], [], []] [(11, .int .i64 i_), (12, v_a_), (13, .int .i64 (a_.length : Int)), (14, .bool (decide (i_ < (a_.length : Int))))] (by kernel_rfl) ⟨mE rfl rfl h5,
 mE rfl rfl h0,
 fun ρz wz hE hA _ ⟨u1, _⟩ => core_val rfl rfl (o_len (u1.trans hs_H_a_) len_32),
 fun ρz wz hE hA _ ⟨u0, u2, _⟩ => core_val rfl rfl (o_lss u0 u2 rfl), trivial⟩ ?_))
  intro ρ6 w6 hN hf hr
  have h14 := hv hf 3 rfl rfl
  obtain ⟨h0, h1, h5⟩ := k3 hr h0 h1 h5 rfl
  have H_a_ := H_a_.exn hN
  have H_b_ := H_b_.exn hN
  have hW := hW.trans hN
  refine WP.cond rfl h14 (fun hb => ?_) (fun hb => ?_)
  · have hF := (if_pos hb).symm.trans hF
    refine WP.skip (WP.seq (WP.block (WP.seq ?_)))
    obtain ⟨y, hy, hF⟩ := obind hF
    obtain ⟨ay, cy, hvy, hiy, hAy⟩ := RepSl.getF H_a_ hy
    obtain ⟨y2, hy2, hF⟩ := obind hF
    obtain ⟨ay2, cy2, hvy2, hiy2, hAy2⟩ := RepSl.getF H_b_ hy2
    refine WP.rb mixed [[], [], [0, 1], [2], [], [], [4, 5], [6], [3, 7]] [[0], [5], [], [], [1], [5], [], [], []] [(17, v_a_), (18, .int .i64 i_), (19, .pointer (some (ay.add (Int.toNat i_ * 2)))), (20, Span.val y), (21, v_b_), (22, .int .i64 i_), (23, .pointer (some (ay2.add (Int.toNat i_ * 2)))), (24, Span.val y2), (25, .bool (!Span.eqb y y2))] (by kernel_rfl) ⟨mE rfl rfl h0,
 mE rfl rfl h5,
 fun ρz wz hE hA _ ⟨u0, u1, _⟩ => core_val rfl rfl (o_indexAddr (u0.trans hvy) u1 (ia_32 hiy)),
 fun ρz wz hE hA _ ⟨u2, _⟩ => core_val rfl rfl (o_load u2 (run_loadN (cs := (Span.cells y)) (lr_31 _ _) rfl ((hAy.exn (hA rfl)).ca))),
 mE rfl rfl h1,
 mE rfl rfl h5,
 fun ρz wz hE hA _ ⟨u4, u5, _⟩ => core_val rfl rfl (o_indexAddr (u4.trans hvy2) u5 (ia_32 hiy2)),
 fun ρz wz hE hA _ ⟨u6, _⟩ => core_val rfl rfl (o_load u6 (run_loadN (cs := (Span.cells y2)) (lr_31 _ _) rfl ((hAy2.exn (hA rfl)).ca))),
 fun ρz wz hE hA _ ⟨u3, u7, _⟩ => core_val rfl rfl (o_neS u3 u7 (by kernel_rfl) (eqs_31 9998 _ _ _) rfl), trivial⟩ ?_
    intro ρ7 w7 hN hf hr
    have h25 := hv hf 8 rfl rfl
    obtain ⟨h0, h1, h5⟩ := k3 hr h0 h1 h5 rfl
    have H_a_ := H_a_.exn hN
    have H_b_ := H_b_.exn hN
    have hW := hW.trans hN
    refine WP.cond rfl h25 (fun hb => ?_) (fun hb => ?_)
    · have hF := (if_pos hb).symm.trans hF
      refine WP.seq (WP.rb mixed [[]] [[]] [(4, .bool false)] (by kernel_rfl) ⟨aC rfl rfl (fun _ => rfl), trivial⟩ ?_)
      intro ρ8 w8 hN hf hr
      have h4 := hv hf 0 rfl rfl
      have hW := hW.trans hN
      refine WP.ret ?_
      show retQ Try.prog 26 Try.f12 (fun v w1 => v = .bool r ∧ Ext noG w0 w1) .ret ρ8 w8
      obtain rfl := Option.some.inj hF
      exact res1 rfl (by decide) h4 ⟨rfl, hW⟩
    have hF := (if_neg (Bool.eq_false_iff.1 hb)).symm.trans hF
    refine WP.skip (WP.rv mixed [[], [0], [0, 1]] [[], [0], [1]] [[5], [], []] [(15, .int .i64 i_), (16, .int .i64 (i64 (i_ + 1))), (5, .int .i64 (i64 (i_ + 1)))] (by kernel_rfl) ⟨mE rfl rfl h5,
 fun ρz wz hE hA _ ⟨u0, _⟩ => core_val rfl rfl (o_add u0 rfl rfl),
 aU rfl rfl rfl, trivial⟩ ?_)
    intro ρ9 w9 hN hf hr
    have h5 := hv hf 2 rfl rfl
    obtain ⟨h0, h1⟩ := k2 hr h0 h1 rfl
    have H_a_ := H_a_.exn hN
    have H_b_ := H_b_.exn hN
    have hW := hW.trans hN
    exact ⟨i64 (i_ + 1), h0, h1, h5, H_a_, H_b_, hW, (by first | exact hF | (rw [hrec_]; exact hF))⟩
  have hF := (if_neg (Bool.eq_false_iff.1 hb)).symm.trans hF
  refine WP.exit (thenQ_exit (thenQ_exit (blockQ_hit (WP.seq (WP.rb mixed [[]] [[]] [(4, .bool true)] (by kernel_rfl) ⟨aC rfl rfl (fun _ => rfl), trivial⟩ ?_)))))
  intro ρ10 w10 hN hf hr
  have h4 := hv hf 0 rfl rfl
  have hW := hW.trans hN
  refine WP.ret ?_
  show retQ Try.prog 26 Try.f12 (fun v w1 => v = .bool r ∧ Ext noG w0 w1) .ret ρ10 w10
  obtain rfl := Option.some.inj hF
  exact res1 rfl (by decide) h4 ⟨rfl, hW⟩

set_option maxHeartbeats 4000000 in
theorem pensionref21_Spells_ok {w0 : World} (l_ : List api_Fact) {v_l_ : Value} (H_l_ : RepSl api_Fact.R noG w0 v_l_ l_) {r : (List Span)} (hF : pensionref21_Spells l_ = some r) :
    Calls Try.prog 16 #[v_l_] w0 fun e w1 => ∃ v, e = .returned v ∧ Ext noG w0 w1 ∧ Own w0.heap.size 31 2 Span.cells w1 v r := by
  refine (Calls.start (P := Try.prog) (args := [v_l_]) (R := fun v w1 => Own w0.heap.size 31 2 Span.cells w1 v r ∧ Ext noG w0 w1) (n := 52) (w := w0) Try.func16 rfl rfl (Nat.le_of_ble_eq_true rfl) (fun ρ hargs => ?_)).mono (fun e w1 ⟨v, he, hv, hE⟩ => ⟨v, he, hE, hv⟩)
  have h0 := hargs 0 _ rfl
  have hW := Ext.refl noG w0
  obtain ⟨_, _, hs_H_l_, _, _⟩ := RepSl.shape H_l_
  have H_l_ := H_l_.start
  rw [pensionref21_Spells] at hF
  refine WP.seq (WP.rb mixed [[]] [[]] [(2, .slice none 0 0)] (by kernel_rfl) ⟨aC rfl rfl (fun _ => rfl), trivial⟩ ?_)
  intro ρ1 w1 hN hf hr
  have h0 := (hr 0 rfl).trans h0
  have H_l_ := H_l_.exn hN
  have hW := hW.trans hN
  refine WP.seq ?_
  obtain ⟨z, hz, hF⟩ := obind hF
  refine WP.rg mixed [[], [0], [1]] [[], [0], [1]] [[0], [], []] [val 7 (v_l_), (8, fun u wz => Own w0.heap.size 31 2 Span.cells wz u z ∧ ∀ b, u.ownBlock = some b → w1.heap.size ≤ b), (3, fun u wz => Own w0.heap.size 31 2 Span.cells wz u z ∧ ∀ b, u.ownBlock = some b → w1.heap.size ≤ b)] (by kernel_rfl) ⟨sV, fun _ _ _ hE ⟨hO, hf⟩ => ⟨hO.exn hE, hf⟩, fun _ _ _ hE ⟨hO, hf⟩ => ⟨hO.exn hE, hf⟩, trivial⟩ ⟨mE rfl rfl h0,
 fun ρz wz hE hA _ ⟨u0, _⟩ => core_callR rfl (call_args1 u0) cf_14 ((pensionref21_Sick_ok  _ (H_l_.exn (hA rfl)).no hz).mono (fun e w1 ⟨v, he, hE1, hO⟩ => ⟨v, he, hE1, hO.base (Nat.le_trans hW.size hE.size), fun b hb => Nat.le_trans hE.size (hO.lt hb).1⟩)),
 fun ρz wz hE hA _ ⟨⟨hO1, hfr1⟩, _⟩ => core_copy rfl rfl (o_assign rfl) ⟨hO1, hfr1⟩, trivial⟩ ?_
  intro ρ2 w2 hN hf hr
  obtain ⟨v3_, h3⟩ : ∃ v, ρ2 3 = v := ⟨_, rfl⟩
  have hq3 : (fun u wz => Own w0.heap.size 31 2 Span.cells wz u z ∧ ∀ b, u.ownBlock = some b → w1.heap.size ≤ b) (ρ2 3) w2 := hf 2 rfl
  rw [h3] at hq3
  obtain ⟨hq3, hfr3⟩ := hq3
  have hW := hW.trans hN
  have Hf3 : RepSl Span.R noG w2 v3_ z := hq3.rep (fun _ _ h => h)
  obtain ⟨_, _, hs_Hf3, _, _⟩ := RepSl.shape Hf3
  refine WP.seq (WP.rb mixed [[]] [[]] [(4, .slice none 0 0)] (by kernel_rfl) ⟨aC rfl rfl (fun _ => rfl), trivial⟩ ?_)
  intro ρ3 w3 hN hf hr
  have h4 : ρ3 4 = .slice none 0 0 := hf 0 rfl
  have O4 : Own w0.heap.size 31 2 Span.cells w3 (.slice none 0 0) [] := Own.nil _ _ _ _ _
  have h3 := (hr 3 rfl).trans h3
  have Hf3 : RepSl Span.R (gL [ownG (.slice none 0 0)]) w3 v3_ z := Hf3.mv hN (fun _ h => h.elim) (fun b h => h.elim (fun h => by simp [ownG, Value.ownBlock] at h) (fun h => h.elim))
  have hW := hW.trans hN
  have O4 : Own w0.heap.size 31 2 Span.cells w3 (.slice none 0 0) [] := Own.nil _ _ _ _ _
  refine WP.seq (WP.seq (WP.rb mixed [[]] [[]] [(5, .int .i64 0)] (by kernel_rfl) ⟨aC rfl rfl (fun _ => rfl), trivial⟩ ?_))
  intro ρ4 w4 hN hf hr
  have h5 := hv hf 0 rfl rfl
  obtain ⟨h3, h4⟩ := k2 hr h3 h4 rfl
  have Oo_O4 := O4
  have Hf3 := Hf3.exn hN
  have hW := hW.trans hN
  have O4 : Own w0.heap.size 31 2 Span.cells w4 (.slice none 0 0) [] := Own.nil _ _ _ _ _
  refine WP.block (WP.loop (fun k_ ρ w => ∃ out_ : List Span, ∃ i_ : Int, ∃ v4_ : Value, ρ 3 = v3_ ∧ ρ 4 = v4_ ∧ ρ 5 = .int .i64 i_ ∧ RepSl Span.R (gL [ownG v4_]) w v3_ z ∧ Own w0.heap.size 31 2 Span.cells w v4_ out_ ∧ Ext noG w0 w ∧ loopC k_ (pensionref21_Spells_l z) (out_, i_) = some r) FU ⟨[], 0, .slice none 0 0, h3, h4, h5, Hf3, O4, hW, hF⟩ (fun _ _ h => by obtain ⟨_, _, _, _, _, _, _, _, _, h⟩ := h; cases h) ?_)
  rintro k_ ρ5 w5 ⟨out_, i_, v4_, h3, h4, h5, Hf3, O4, hW, hF⟩
  have hF : pensionref21_Spells_l z (loopC k_ (pensionref21_Spells_l z)) (out_, i_) = some r := hF
  generalize hrec_ : loopC k_ (pensionref21_Spells_l z) = rec_ at hF
  rw [pensionref21_Spells_l] at hF
  refine WP.seq (WP.seq (WP.rb mixed [[], [], [1], [0, 2]] [[5], [3], [], []] [(9, .int .i64 i_), (10, v3_), (11, .int .i64 (z.length : Int)), (12, .bool (decide (i_ < (z.length : Int))))] (by kernel_rfl) ⟨mE rfl rfl h5,
 mE rfl rfl h3,
 fun ρz wz hE hA _ ⟨u1, _⟩ => core_val rfl rfl (o_len (u1.trans hs_Hf3) len_32),
 fun ρz wz hE hA _ ⟨u0, u2, _⟩ => core_val rfl rfl (o_lss u0 u2 rfl), trivial⟩ ?_))
  intro ρ6 w6 hN hf hr
  have h12 := hv hf 3 rfl rfl
  obtain ⟨h3, h4, h5⟩ := k3 hr h3 h4 h5 rfl
  have Oo_O4 := O4
  have Hf3 := Hf3.exn hN
  have hW := hW.trans hN
  have O4 := Oo_O4.exn hN
  refine WP.cond rfl h12 (fun hb => ?_) (fun hb => ?_)
  · have hF := (if_pos hb).symm.trans hF
    refine WP.skip (WP.seqJ (fun ρ w => ∃ out_2 : List Span, ∃ v4_2 : Value, ρ 3 = v3_ ∧ ρ 4 = v4_2 ∧ ρ 5 = .int .i64 i_ ∧ RepSl Span.R (gL [ownG v4_2]) w v3_ z ∧ Own w0.heap.size 31 2 Span.cells w v4_2 out_2 ∧ Ext noG w0 w ∧ pensionref21_Spells_j i_ rec_ out_2 = some r) ?_ ?_)
    · refine WP.block (WP.seq (WP.seq (WP.rb mixed [[], [0], [1]] [[4], [], []] [(15, v4_), (16, .int .i64 (out_.length : Int)), (6, .int .i64 (out_.length : Int))] (by kernel_rfl) ⟨mE rfl rfl h4,
 fun ρz wz hE hA _ ⟨u0, _⟩ => core_val rfl rfl (o_len (u0.trans (Own.shape O4).choose_spec.choose_spec.1) len_32),
 aU rfl rfl rfl, trivial⟩ ?_)))
      intro ρ9 w9 hN hf hr
      have h6 := hv hf 2 rfl rfl
      obtain ⟨h3, h4, h5⟩ := k3 hr h3 h4 h5 rfl
      have Oo_O4 := O4
      have Hf3 := Hf3.exn hN
      have hW := hW.trans hN
      have O4 := Oo_O4.exn hN
      refine WP.seq ?_
      obtain ⟨c, hc, hF⟩ := obind hF
      obtain ⟨y, hy, hc⟩ := andB hc
      obtain ⟨ay, cy, hvy, hiy, hAy⟩ := RepSl.getFI Hf3 hy
      obtain ⟨y2, hy2, hc⟩ := andB hc
      obtain ⟨ay2, cy2, hvy2, hiy2, hAy2⟩ := RepSl.getFI (Own.rep (hn := fun _ => rfl) (G := noG) O4 (fun _ _ h => h)) hy2
      have hc := andE hc
      refine WP.rb mixed [[], [0], [1], [2], [2], [2, 3, 4], [2, 5], [2, 6], [2], [2], [2, 9], [2, 8, 10], [2, 11], [2, 12], [2, 7, 13], [2, 14], [2, 15]] [[6], [], [], [3], [5], [], [], [], [4], [6], [], [], [], [], [], [], []] [(17, .int .i64 (out_.length : Int)), (18, .bool (decide (0 < (out_.length : Int)))), (19, .bool (decide (0 < (out_.length : Int)))), (20, gv (decide (0 < (out_.length : Int))) v3_), (21, gv (decide (0 < (out_.length : Int))) (.int .i64 i_)), (22, gv (decide (0 < (out_.length : Int))) (.pointer (some (ay.add (Int.toNat i_ * 2))))), (23, gv (decide (0 < (out_.length : Int))) (.pointer (some ((ay.add (Int.toNat i_ * 2)).add 0)))), (24, gv (decide (0 < (out_.length : Int))) (.int .i64 y.From)), (25, gv (decide (0 < (out_.length : Int))) v4_), (26, gv (decide (0 < (out_.length : Int))) (.int .i64 (out_.length : Int))), (27, gv (decide (0 < (out_.length : Int))) (.int .i64 (i64 ((out_.length : Int) - 1)))), (28, gv (decide (0 < (out_.length : Int))) (.pointer (some (ay2.add (Int.toNat (i64 ((out_.length : Int) - 1)) * 2))))), (29, gv (decide (0 < (out_.length : Int))) (.pointer (some ((ay2.add (Int.toNat (i64 ((out_.length : Int) - 1)) * 2)).add 1)))), (30, gv (decide (0 < (out_.length : Int))) (.int .i64 y2.To)), (31, gv (decide (0 < (out_.length : Int))) (.int .i64 (i64 (y.From - y2.To)))), (32, gv (decide (0 < (out_.length : Int))) (.bool (decide (i64 (y.From - y2.To) ≤ 56)))), (33, .bool c)] (by kernel_rfl) ⟨mE rfl rfl h6,
 fun ρz wz hE hA _ ⟨u0, _⟩ => core_val rfl rfl (o_gtr u0 rfl rfl),
 mU rfl rfl rfl,
 fun ρz wz hE hA ⟨e3, _⟩ ⟨u2, _⟩ => gIf rfl rfl (yT rfl u2) fun gc F hF => core_val rfl hF (o_move (e3.trans h3)),
 fun ρz wz hE hA ⟨e5, _⟩ ⟨u2, _⟩ => gIf rfl rfl (yT rfl u2) fun gc F hF => core_val rfl hF (o_move (e5.trans h5)),
 fun ρz wz hE hA _ ⟨u2, u3, u4, _⟩ => gIf rfl rfl (yT rfl u2) fun gc F hF => core_val rfl hF (o_indexAddr ((gt gc u3).trans (hvy gc)) (gt gc u4) (ia_32 (hiy gc))),
 fun ρz wz hE hA _ ⟨u2, u5, _⟩ => gIf rfl rfl (yT rfl u2) fun gc F hF => core_val rfl hF (o_fieldAddr (gt gc u5) (fa_31_0 _ _)),
 fun ρz wz hE hA _ ⟨u2, u6, _⟩ => gIf rfl rfl (yT rfl u2) fun gc F hF => core_val rfl hF (o_load (gt gc u6) (run_load1 (lr_3 _ _) (CA.sub (((hAy gc).exn (hA rfl)).ca) 0 1))),
 fun ρz wz hE hA ⟨e4, _⟩ ⟨u2, _⟩ => gIf rfl rfl (yT rfl u2) fun gc F hF => core_val rfl hF (o_move (e4.trans h4)),
 fun ρz wz hE hA ⟨e6, _⟩ ⟨u2, _⟩ => gIf rfl rfl (yT rfl u2) fun gc F hF => core_val rfl hF (o_move (e6.trans h6)),
 fun ρz wz hE hA _ ⟨u2, u9, _⟩ => gIf rfl rfl (yT rfl u2) fun gc F hF => core_val rfl hF (o_sub (gt gc u9) rfl rfl),
 fun ρz wz hE hA _ ⟨u2, u8, u10, _⟩ => gIf rfl rfl (yT rfl u2) fun gc F hF => core_val rfl hF (o_indexAddr ((gt gc u8).trans (hvy2 gc)) (gt gc u10) (ia_32 (hiy2 gc))),
 fun ρz wz hE hA _ ⟨u2, u11, _⟩ => gIf rfl rfl (yT rfl u2) fun gc F hF => core_val rfl hF (o_fieldAddr (gt gc u11) (fa_31_1 _ _)),
 fun ρz wz hE hA _ ⟨u2, u12, _⟩ => gIf rfl rfl (yT rfl u2) fun gc F hF => core_val rfl hF (o_load (gt gc u12) (run_load1 (lr_3 _ _) (CA.sub (((hAy2 gc).exn (hA rfl)).ca) 1 1))),
 fun ρz wz hE hA _ ⟨u2, u7, u13, _⟩ => gIf rfl rfl (yT rfl u2) fun gc F hF => core_val rfl hF (o_sub (gt gc u7) (gt gc u13) rfl),
 fun ρz wz hE hA _ ⟨u2, u14, _⟩ => gIf rfl rfl (yT rfl u2) fun gc F hF => core_val rfl hF (o_leq (gt gc u14) rfl rfl),
 fun ρz wz hE hA _ ⟨u2, u15, _⟩ => core_valE rfl rfl (congrArg Value.bool hc) (o_pick_and u2 u15 rfl), trivial⟩ ?_
      intro ρ10 w10 hN hf hr
      have h33 := hv hf 16 rfl rfl
      obtain ⟨h3, h4, h5, h6⟩ := k4 hr h3 h4 h5 h6 rfl
      have Oo_O4 := O4
      have Hf3 := Hf3.exn hN
      have hW := hW.trans hN
      have O4 := Oo_O4.exn hN
      refine WP.cond rfl h33 (fun hb => ?_) (fun hb => ?_)
      · have hF := (if_pos hb).symm.trans hF
        refine WP.seq ?_
        obtain ⟨y3, hy3, hF⟩ := obind hF
        obtain ⟨ay3, cy3, hvy3, hiy3, hAy3⟩ := RepSl.getF Hf3 hy3
        obtain ⟨y4, hy4, hF⟩ := obind hF
        obtain ⟨ay4, cy4, hvy4, hiy4, hAy4⟩ := RepSl.getF (Own.rep (hn := fun _ => rfl) (G := noG) O4 (fun _ _ h => h)) hy4
        refine WP.region mixed [[], [], [1], [], [], [3, 4], [5], [6], [0, 2], [8], [7, 9]] [[], [], [1], [], [], [3, 4], [5], [6], [0, 2], [8], [7, 9]] [[4], [6], [], [3], [5], [], [], [], [], [], []] [10] [] [val 34 (v4_), val 35 (.int .i64 (out_.length : Int)), val 36 (.int .i64 (i64 ((out_.length : Int) - 1))), val 37 (v3_), val 38 (.int .i64 i_), val 39 (.pointer (some (ay3.add (Int.toNat i_ * 2)))), val 40 (.pointer (some ((ay3.add (Int.toNat i_ * 2)).add 1))), val 41 (.int .i64 y3.To), val 42 (.pointer (some (ay4.add (Int.toNat (i64 ((out_.length : Int) - 1)) * 2)))), val 43 (.pointer (some ((ay4.add (Int.toNat (i64 ((out_.length : Int) - 1)) * 2)).add 1))), (43, fun _ wz => Own w0.heap.size 31 2 Span.cells wz v4_ (setI out_ (i64 ((out_.length : Int) - 1)) ({ y4 with To := y3.To } : Span)))] (fun b => Value.ownBlock v4_ = some b) (by kernel_rfl) ⟨sV, sV, sV, sV, sV, sV, sV, sV, sV, sV, fun _ _ _ hE h => h.exn hE, trivial⟩ ⟨mE rfl rfl h4,
 mE rfl rfl h6,
 fun ρz wz hE hA _ ⟨u1, _⟩ => core_val rfl rfl (o_sub u1 rfl rfl),
 mE rfl rfl h3,
 mE rfl rfl h5,
 fun ρz wz hE hA _ ⟨u3, u4, _⟩ => core_val rfl rfl (o_indexAddr (u3.trans hvy3) u4 (ia_32 hiy3)),
 fun ρz wz hE hA _ ⟨u5, _⟩ => core_val rfl rfl (o_fieldAddr u5 (fa_31_1 _ _)),
 fun ρz wz hE hA _ ⟨u6, _⟩ => core_val rfl rfl (o_load u6 (run_load1 (lr_3 _ _) (CA.sub ((hAy3.exn (hA rfl)).ca) 1 1))),
 fun ρz wz hE hA _ ⟨u0, u2, _⟩ => core_val rfl rfl (o_indexAddr (u0.trans hvy4) u2 (ia_32 hiy4)),
 fun ρz wz hE hA _ ⟨u8, _⟩ => core_val rfl rfl (o_fieldAddr u8 (fa_31_1 _ _)),
 fun ρz wz hE hA _ ⟨u7, u9, _⟩ => core_storeOwn (n := 2) (off := 1) (cells := Span.cells) (y1 := ({ y4 with To := y3.To } : Span)) (vs := [Value.int .i64 y3.To]) rfl rfl (fun _ h => h) (fun _ => rfl) u9 hvy4 (Deep.add_add _ _ _) u7 (O4.exn (hA rfl)) hy4 (fun a w => st_3 _ a w) (Nat.le_of_ble_eq_true rfl) rfl (one_3 _), trivial⟩ ?_
        intro ρ11 w11 hE hN hf hr
        obtain ⟨h3, h4, h5⟩ := k3 hr h3 h4 h5 rfl
        have Oo_O4 := O4
        have Hf3 : RepSl Span.R (gL [ownG v4_]) w11 v3_ z := Hf3.mv hE (fun _ h => .inl (.inl h)) (fun b h => h.elim (fun h => .inl (.inl h)) (fun h => h.elim))
        have hW := Ext.own hW hE (fun b hb => (Oo_O4.lt hb).1)
        have O4 := hf 10 rfl
        refine WP.exit (thenQ_exit (blockQ_hit ?_))
        exact ⟨setI out_ (i64 ((out_.length : Int) - 1)) ({ y4 with To := y3.To } : Span), v4_, h3, h4, h5, Hf3, O4, hW, hF⟩
      have hF := (if_neg (Bool.eq_false_iff.1 hb)).symm.trans hF
      refine WP.skip ?_
      obtain ⟨y5, hy5, hF⟩ := obind hF
      obtain ⟨ay5, cy5, hvy5, hiy5, hAy5⟩ := RepSl.getF Hf3 hy5
      obtain ⟨l, hl, hF⟩ := obind hF
      refine WP.region mixed [[], [], [], [1, 2], [3], [4], [0, 4, 5], [0, 6]] [[], [], [], [1, 2], [3], [4], [0, 5], [6]] [[4], [3], [5], [], [], [], [], []] [6] [] [val 44 (v4_), val 45 (v3_), val 46 (.int .i64 i_), val 47 (.pointer (some (ay5.add (Int.toNat i_ * 2)))), val 48 (Span.val y5), (49, fun u wz => ∃ b, u = .slice (some ⟨b, 0, none⟩) 1 1 ∧ w10.heap.size ≤ b ∧ Mb wz b 31 (([y5]).flatMap Span.cells)), (50, fun u wz => Own w0.heap.size 31 2 Span.cells wz u l ∧ ∀ b, u.ownBlock = some b → (v4_.ownBlock = some b ∨ w10.heap.size ≤ b)), (4, fun u wz => Own w0.heap.size 31 2 Span.cells wz u l ∧ ∀ b, u.ownBlock = some b → (v4_.ownBlock = some b ∨ w10.heap.size ≤ b))] (fun b => Value.ownBlock v4_ = some b) (by kernel_rfl) ⟨sV, sV, sV, sV, sV, fun _ _ _ hE ⟨b, hz, hs, hM⟩ => ⟨b, hz, hs, hM.ext hE (fun hg => absurd (O4.lt hg).2 (Nat.not_lt.2 hs))⟩, fun _ _ _ hE ⟨hO, hf⟩ => ⟨hO.exn hE, hf⟩, fun _ _ _ hE ⟨hO, hf⟩ => ⟨hO.exn hE, hf⟩, trivial⟩ ⟨mE rfl rfl h4,
 mE rfl rfl h3,
 mE rfl rfl h5,
 fun ρz wz hE hA _ ⟨u1, u2, _⟩ => core_val rfl rfl (o_indexAddr (u1.trans hvy5) u2 (ia_32 hiy5)),
 fun ρz wz hE hA _ ⟨u3, _⟩ => core_val rfl rfl (o_load u3 (run_loadN (cs := (Span.cells y5)) (lr_31 _ _) rfl ((hAy5.exn (hA rfl)).ca))),
 fun ρz wz hE hA _ ⟨u4, _⟩ => core_slice rfl rfl hE (o_buildSlice (build_parts1 u4) (bs_32_1 _ _)),
 fun ρz wz hE hA _ ⟨u0, ⟨bz5, hz5, hge5, hM5⟩, _⟩ => core_append (n := 2) (cells := Span.cells) (B := w0.heap.size) (w0 := w10) rfl rfl (fun b hb => hb) u0 hz5 (fun _ => rfl) one_31 si_32 se_31 (by decide) (by decide) (O4.exn (hA rfl)) ⟨_, (Mb.rep (n := 2) (cells := Span.cells) (hn := fun _ => rfl) (G := noG) hM5 rfl (Nat.le_of_ble_eq_true rfl) (fun h => h))⟩ hl (Nat.le_trans hW.size hE.size) hE.size (fun v1 w1 h1 h2 => ⟨h1, h2⟩),
 fun ρz wz hE hA _ ⟨⟨hO6, hfr6⟩, _⟩ => core_copy rfl rfl (o_assign rfl) ⟨hO6, hfr6⟩, trivial⟩ ?_
      intro ρ12 w12 hE hN hf hr
      obtain ⟨v4_3, h4⟩ : ∃ v, ρ12 4 = v := ⟨_, rfl⟩
      have hq4 : (fun u wz => Own w0.heap.size 31 2 Span.cells wz u l ∧ ∀ b, u.ownBlock = some b → (v4_.ownBlock = some b ∨ w10.heap.size ≤ b)) (ρ12 4) w12 := hf 7 rfl
      rw [h4] at hq4
      obtain ⟨hq4, hfr4⟩ := hq4
      obtain ⟨h3, h5⟩ := k2 hr h3 h5 rfl
      have Oo_O4 := O4
      have Hf3 : RepSl Span.R (gL [ownG v4_3]) w12 v3_ z := Hf3.mv hE (fun _ h => .inl (.inl h)) (fun b h => h.elim (fun h => (hfr4 _ h).elim (fun h => .inl (by have h := h; exact (.inl h))) (fun h => .inr h)) (fun h => h.elim))
      have hW := Ext.own hW hE (fun b hb => (Oo_O4.lt hb).1)
      have O4 := hq4
      exact ⟨l, v4_3, h3, h4, h5, Hf3, O4, hW, hF⟩
    rintro ρ7 w7 ⟨out_2, v4_2, h3, h4, h5, Hf3, O4, hW, hF⟩
    rw [pensionref21_Spells_j] at hF
    refine WP.rv mixed [[], [0], [0, 1]] [[], [0], [1]] [[5], [], []] [(13, .int .i64 i_), (14, .int .i64 (i64 (i_ + 1))), (5, .int .i64 (i64 (i_ + 1)))] (by kernel_rfl) ⟨mE rfl rfl h5,
 fun ρz wz hE hA _ ⟨u0, _⟩ => core_val rfl rfl (o_add u0 rfl rfl),
 aU rfl rfl rfl, trivial⟩ ?_
    intro ρ8 w8 hN hf hr
    have h5 := hv hf 2 rfl rfl
    obtain ⟨h3, h4⟩ := k2 hr h3 h4 rfl
    have Oo_O4 := O4
    have Hf3 := Hf3.exn hN
    have hW := hW.trans hN
    have O4 := Oo_O4.exn hN
    exact ⟨out_2, i64 (i_ + 1), v4_2, h3, h4, h5, Hf3, O4, hW, (by first | exact hF | (rw [hrec_]; exact hF))⟩
  have hF := (if_neg (Bool.eq_false_iff.1 hb)).symm.trans hF
  refine WP.exit (thenQ_exit (thenQ_exit (blockQ_hit (WP.seq (WP.rb mixed [[], [0]] [[4], []] [(51, v4_), (2, v4_)] (by kernel_rfl) ⟨mE rfl rfl h4,
 aU rfl rfl rfl, trivial⟩ ?_)))))
  intro ρ13 w13 hN hf hr
  have h2 := hv hf 1 rfl rfl
  have Oo_O4 := O4
  have hW := hW.trans hN
  have O2 := Oo_O4.exn hN
  refine WP.ret ?_
  show retQ Try.prog 52 Try.f16 (fun v w1 => Own w0.heap.size 31 2 Span.cells w1 v r ∧ Ext noG w0 w1) .ret ρ13 w13
  obtain rfl := Option.some.inj hF
  exact res1 rfl (by decide) h2 ⟨O2, hW⟩

set_option maxHeartbeats 4000000 in
theorem pensionlaw25_SicknessSpellsAgree_ok {w0 : World} (l_ : List pensionlaw25_Raw) (from_ : Int) (k_ : List pensionhand_Fact) {v_l_ : Value} (H_l_ : RepSl pensionlaw25_Raw.R noG w0 v_l_ l_) {v_k_ : Value} (H_k_ : RepSl pensionhand_Fact.R noG w0 v_k_ k_) {r : Bool} (hF : pensionlaw25_SicknessSpellsAgree l_ from_ k_ = some r) :
    Calls Try.prog 3 #[v_l_, .int .i64 from_, v_k_] w0 fun e w1 => e = .returned (.bool r) ∧ Ext noG w0 w1 := by
  refine (Calls.start (P := Try.prog) (args := [v_l_, .int .i64 from_, v_k_]) (R := fun v w1 => v = .bool r ∧ Ext noG w0 w1) (n := 44) (w := w0) Try.func3 rfl rfl (Nat.le_of_ble_eq_true rfl) (fun ρ hargs => ?_)).mono (fun e w1 ⟨v, he, hv, hE⟩ => ⟨hv ▸ he, hE⟩)
  have h0 := hargs 0 _ rfl
  have h1 := hargs 1 _ rfl
  have h2 := hargs 2 _ rfl
  have hW := Ext.refl noG w0
  obtain ⟨_, _, hs_H_l_, _, _⟩ := RepSl.shape H_l_
  have H_l_ := H_l_.start
  obtain ⟨_, _, hs_H_k_, _, _⟩ := RepSl.shape H_k_
  have H_k_ := H_k_.start
  rw [pensionlaw25_SicknessSpellsAgree] at hF
  refine WP.seq (WP.rb mixed [[]] [[]] [(6, .bool false)] (by kernel_rfl) ⟨aC rfl rfl (fun _ => rfl), trivial⟩ ?_)
  intro ρ1 w1 hN hf hr
  obtain ⟨h0, h1, h2⟩ := k3 hr h0 h1 h2 rfl
  have H_l_ := H_l_.exn hN
  have H_k_ := H_k_.exn hN
  have hW := hW.trans hN
  refine WP.seq ?_
  obtain ⟨z, hz, hF⟩ := obind hF
  refine WP.rg mixed [[], [], [0, 1], [2]] [[], [], [0, 1], [2]] [[0], [1], [], []] [val 9 (v_l_), val 10 (.int .i64 from_), (11, fun u wz => Own w0.heap.size 49 14 api_Fact.cells wz u z ∧ ∀ b, u.ownBlock = some b → w1.heap.size ≤ b), (7, fun u wz => Own w0.heap.size 49 14 api_Fact.cells wz u z ∧ ∀ b, u.ownBlock = some b → w1.heap.size ≤ b)] (by kernel_rfl) ⟨sV, sV, fun _ _ _ hE ⟨hO, hf⟩ => ⟨hO.exn hE, hf⟩, fun _ _ _ hE ⟨hO, hf⟩ => ⟨hO.exn hE, hf⟩, trivial⟩ ⟨mE rfl rfl h0,
 mE rfl rfl h1,
 fun ρz wz hE hA _ ⟨u0, u1, _⟩ => core_callR rfl (call_args2 u0 u1) cf_8 ((pensionlaw25_List_ok  _ _ (H_l_.exn (hA rfl)).no hz).mono (fun e w1 ⟨v, he, hE1, hO⟩ => ⟨v, he, hE1, hO.base (Nat.le_trans hW.size hE.size), fun b hb => Nat.le_trans hE.size (hO.lt hb).1⟩)),
 fun ρz wz hE hA _ ⟨⟨hO2, hfr2⟩, _⟩ => core_copy rfl rfl (o_assign rfl) ⟨hO2, hfr2⟩, trivial⟩ ?_
  intro ρ2 w2 hN hf hr
  obtain ⟨v7_, h7⟩ : ∃ v, ρ2 7 = v := ⟨_, rfl⟩
  have hq7 : (fun u wz => Own w0.heap.size 49 14 api_Fact.cells wz u z ∧ ∀ b, u.ownBlock = some b → w1.heap.size ≤ b) (ρ2 7) w2 := hf 3 rfl
  rw [h7] at hq7
  obtain ⟨hq7, hfr7⟩ := hq7
  have h2 := (hr 2 rfl).trans h2
  have H_k_ := H_k_.exn hN
  have hW := hW.trans hN
  have Hf7 : RepSl api_Fact.R noG w2 v7_ z := hq7.rep (fun _ _ h => h)
  obtain ⟨_, _, hs_Hf7, _, _⟩ := RepSl.shape Hf7
  refine WP.seq ?_
  obtain ⟨z2, hz2, hF⟩ := obind hF
  obtain ⟨z3, hz3, hF⟩ := obind hF
  refine WP.rg mixed [[], [0], [1], [2]] [[], [0], [1], [2]] [[2], [], [], []] [val 12 (v_k_), (13, fun u wz => Own w0.heap.size 49 14 api_Fact.cells wz u z2 ∧ ∀ b, u.ownBlock = some b → w2.heap.size ≤ b), (14, fun u wz => Own w0.heap.size 49 14 api_Fact.cells wz u z3 ∧ ∀ b, u.ownBlock = some b → w2.heap.size ≤ b), (8, fun u wz => Own w0.heap.size 49 14 api_Fact.cells wz u z3 ∧ ∀ b, u.ownBlock = some b → w2.heap.size ≤ b)] (by kernel_rfl) ⟨sV, fun _ _ _ hE ⟨hO, hf⟩ => ⟨hO.exn hE, hf⟩, fun _ _ _ hE ⟨hO, hf⟩ => ⟨hO.exn hE, hf⟩, fun _ _ _ hE ⟨hO, hf⟩ => ⟨hO.exn hE, hf⟩, trivial⟩ ⟨mE rfl rfl h2,
 fun ρz wz hE hA _ ⟨u0, _⟩ => core_callR rfl (call_args1 u0) cf_10 ((pensionhand_Facts_ok  _ (H_k_.exn (hA rfl)).no hz2).mono (fun e w1 ⟨v, he, hE1, hO⟩ => ⟨v, he, hE1, hO.base (Nat.le_trans hW.size hE.size), fun b hb => Nat.le_trans hE.size (hO.lt hb).1⟩)),
 fun ρz wz hE hA _ ⟨⟨hO1, hfr1⟩, _⟩ => core_callR rfl (call_args2 rfl rfl) cf_9 ((pensionref12_Of_ok  _ _ (hO1.rep (hn := fun _ => rfl) (G := noG) (fun _ _ h => h)).no hz3).mono (fun e w1 ⟨v, he, hE1, hO⟩ => ⟨v, he, hE1, hO.base (Nat.le_trans hW.size hE.size), fun b hb => Nat.le_trans hE.size (hO.lt hb).1⟩)),
 fun ρz wz hE hA _ ⟨⟨hO2, hfr2⟩, _⟩ => core_copy rfl rfl (o_assign rfl) ⟨hO2, hfr2⟩, trivial⟩ ?_
  intro ρ3 w3 hN hf hr
  obtain ⟨v8_, h8⟩ : ∃ v, ρ3 8 = v := ⟨_, rfl⟩
  have hq8 : (fun u wz => Own w0.heap.size 49 14 api_Fact.cells wz u z3 ∧ ∀ b, u.ownBlock = some b → w2.heap.size ≤ b) (ρ3 8) w3 := hf 3 rfl
  rw [h8] at hq8
  obtain ⟨hq8, hfr8⟩ := hq8
  have h7 := (hr 7 rfl).trans h7
  have Hf7 := Hf7.exn hN
  have hW := hW.trans hN
  have Hf8 : RepSl api_Fact.R noG w3 v8_ z3 := hq8.rep (fun _ _ h => h)
  obtain ⟨_, _, hs_Hf8, _, _⟩ := RepSl.shape Hf8
  refine WP.seq ?_
  obtain ⟨z4, hz4, hF⟩ := obind hF
  obtain ⟨c, hc, hF⟩ := obind hF
  obtain ⟨z5, hz5, hc⟩ := andB hc
  obtain ⟨z6, hz6, hc⟩ := andB hc
  obtain ⟨z7, hz7, hc⟩ := andB hc
  have hc := andE hc
  obtain ⟨c2, hc2, hF⟩ := obind hF
  obtain ⟨z8, hz8, hc2⟩ := andB hc2
  obtain ⟨z9, hz9, hc2⟩ := andB hc2
  obtain ⟨z10, hz10, hc2⟩ := andB hc2
  have hc2 := andE hc2
  obtain ⟨c3, hc3, hF⟩ := obind hF
  obtain ⟨z11, hz11, hc3⟩ := andB hc3
  obtain ⟨z12, hz12, hc3⟩ := andB hc3
  obtain ⟨z13, hz13, hc3⟩ := andB hc3
  have hc3 := andE hc3
  obtain ⟨c4, hc4, hF⟩ := obind hF
  obtain ⟨z14, hz14, hc4⟩ := andB hc4
  obtain ⟨z15, hz15, hc4⟩ := andB hc4
  obtain ⟨z16, hz16, hc4⟩ := andB hc4
  have hc4 := andE hc4
  refine WP.rg mixed [[], [0], [1], [1, 2], [1], [1, 4], [1, 3, 5], [1, 6], [7], [8], [8, 9], [8], [8, 11], [8, 10, 12], [8, 13], [14], [15], [15, 16], [15], [15, 18], [15, 17, 19], [15, 20], [21], [22], [22, 23], [22], [22, 25], [22, 24, 26], [22, 27], [28]] [[], [0], [1], [1, 2], [1], [1, 4], [1, 3, 5], [1, 6], [7], [8], [8, 9], [8], [8, 11], [8, 10, 12], [8, 13], [14], [15], [15, 16], [15], [15, 18], [15, 17, 19], [15, 20], [21], [22], [22, 23], [22], [22, 25], [22, 24, 26], [22, 27], [28]] [[], [], [7], [], [7], [], [], [], [], [7], [], [7], [], [], [], [], [8], [], [8], [], [], [], [], [8], [], [8], [], [], [], []] [val 15 (.bool z4), val 16 (.bool z4), val 17 (gv (z4) v7_), (18, fun u wz => (z4) = true → (fun u wz => Own w0.heap.size 31 2 Span.cells wz u z5 ∧ ∀ b, u.ownBlock = some b → w3.heap.size ≤ b) u wz), val 19 (gv (z4) v7_), (20, fun u wz => (z4) = true → (fun u wz => Own w0.heap.size 31 2 Span.cells wz u z6 ∧ ∀ b, u.ownBlock = some b → w3.heap.size ≤ b) u wz), val 21 (gv (z4) (.bool z7)), val 22 (.bool c), val 23 (.bool c), val 24 (gv (c) v7_), (25, fun u wz => (c) = true → (fun u wz => Own w0.heap.size 31 2 Span.cells wz u z8 ∧ ∀ b, u.ownBlock = some b → w3.heap.size ≤ b) u wz), val 26 (gv (c) v7_), (27, fun u wz => (c) = true → (fun u wz => Own w0.heap.size 31 2 Span.cells wz u z9 ∧ ∀ b, u.ownBlock = some b → w3.heap.size ≤ b) u wz), val 28 (gv (c) (.bool z10)), val 29 (.bool c2), val 30 (.bool c2), val 31 (gv (c2) v8_), (32, fun u wz => (c2) = true → (fun u wz => Own w0.heap.size 31 2 Span.cells wz u z11 ∧ ∀ b, u.ownBlock = some b → w3.heap.size ≤ b) u wz), val 33 (gv (c2) v8_), (34, fun u wz => (c2) = true → (fun u wz => Own w0.heap.size 31 2 Span.cells wz u z12 ∧ ∀ b, u.ownBlock = some b → w3.heap.size ≤ b) u wz), val 35 (gv (c2) (.bool z13)), val 36 (.bool c3), val 37 (.bool c3), val 38 (gv (c3) v8_), (39, fun u wz => (c3) = true → (fun u wz => Own w0.heap.size 31 2 Span.cells wz u z14 ∧ ∀ b, u.ownBlock = some b → w3.heap.size ≤ b) u wz), val 40 (gv (c3) v8_), (41, fun u wz => (c3) = true → (fun u wz => Own w0.heap.size 31 2 Span.cells wz u z15 ∧ ∀ b, u.ownBlock = some b → w3.heap.size ≤ b) u wz), val 42 (gv (c3) (.bool z16)), val 43 (.bool c4), val 6 (.bool c4)] (by kernel_rfl) ⟨sV, sV, sV, stabI (Φ := fun u wz => Own w0.heap.size 31 2 Span.cells wz u z5 ∧ ∀ b, u.ownBlock = some b → w3.heap.size ≤ b) (fun _ _ _ hE ⟨hO, hf⟩ => ⟨hO.exn hE, hf⟩), sV, stabI (Φ := fun u wz => Own w0.heap.size 31 2 Span.cells wz u z6 ∧ ∀ b, u.ownBlock = some b → w3.heap.size ≤ b) (fun _ _ _ hE ⟨hO, hf⟩ => ⟨hO.exn hE, hf⟩), sV, sV, sV, sV, stabI (Φ := fun u wz => Own w0.heap.size 31 2 Span.cells wz u z8 ∧ ∀ b, u.ownBlock = some b → w3.heap.size ≤ b) (fun _ _ _ hE ⟨hO, hf⟩ => ⟨hO.exn hE, hf⟩), sV, stabI (Φ := fun u wz => Own w0.heap.size 31 2 Span.cells wz u z9 ∧ ∀ b, u.ownBlock = some b → w3.heap.size ≤ b) (fun _ _ _ hE ⟨hO, hf⟩ => ⟨hO.exn hE, hf⟩), sV, sV, sV, sV, stabI (Φ := fun u wz => Own w0.heap.size 31 2 Span.cells wz u z11 ∧ ∀ b, u.ownBlock = some b → w3.heap.size ≤ b) (fun _ _ _ hE ⟨hO, hf⟩ => ⟨hO.exn hE, hf⟩), sV, stabI (Φ := fun u wz => Own w0.heap.size 31 2 Span.cells wz u z12 ∧ ∀ b, u.ownBlock = some b → w3.heap.size ≤ b) (fun _ _ _ hE ⟨hO, hf⟩ => ⟨hO.exn hE, hf⟩), sV, sV, sV, sV, stabI (Φ := fun u wz => Own w0.heap.size 31 2 Span.cells wz u z14 ∧ ∀ b, u.ownBlock = some b → w3.heap.size ≤ b) (fun _ _ _ hE ⟨hO, hf⟩ => ⟨hO.exn hE, hf⟩), sV, stabI (Φ := fun u wz => Own w0.heap.size 31 2 Span.cells wz u z15 ∧ ∀ b, u.ownBlock = some b → w3.heap.size ≤ b) (fun _ _ _ hE ⟨hO, hf⟩ => ⟨hO.exn hE, hf⟩), sV, sV, sV, trivial⟩ ⟨fun ρz wz hE hA _ _ => core_call rfl call_args0 cf_11 (pensionlaw25_awake_ok    hz4),
 mU rfl rfl rfl,
 fun ρz wz hE hA ⟨e7, _⟩ ⟨u1, _⟩ => gIf rfl rfl (yT rfl u1) fun gc F hF => core_val rfl hF (o_move (e7.trans h7)),
 fun ρz wz hE hA _ ⟨u1, u2, _⟩ => gIfR rfl (yT rfl u1) fun gc F hF => core_callR hF (call_args1 (gt gc u2)) cf_13 ((sickness_Sick_ok  _ (Hf7.exn (hA rfl)).no (hz5 gc)).mono (fun e w1 ⟨v, he, hE1, hO⟩ => ⟨v, he, hE1, hO.base (Nat.le_trans hW.size hE.size), fun b hb => Nat.le_trans hE.size (hO.lt hb).1⟩)),
 fun ρz wz hE hA ⟨e7, _⟩ ⟨u1, _⟩ => gIf rfl rfl (yT rfl u1) fun gc F hF => core_val rfl hF (o_move (e7.trans h7)),
 fun ρz wz hE hA _ ⟨u1, u4, _⟩ => gIfR rfl (yT rfl u1) fun gc F hF => core_callR hF (call_args1 (gt gc u4)) cf_14 ((pensionref21_Sick_ok  _ (Hf7.exn (hA rfl)).no (hz6 gc)).mono (fun e w1 ⟨v, he, hE1, hO⟩ => ⟨v, he, hE1, hO.base (Nat.le_trans hW.size hE.size), fun b hb => Nat.le_trans hE.size (hO.lt hb).1⟩)),
 fun ρz wz hE hA _ ⟨u1, u3, u5, _⟩ => gIf rfl rfl (yT rfl u1) fun gc F hF => let ⟨hO3, hfr3⟩ := u3 gc; let ⟨hO5, hfr5⟩ := u5 gc; core_call hF (call_args2 rfl rfl) cf_12 (pensionplain_Same_of_api_Span_ok  _ _ (hO3.rep (hn := fun _ => rfl) (G := noG) (fun _ _ h => h)).no (hO5.rep (hn := fun _ => rfl) (G := noG) (fun _ _ h => h)).no (hz7 gc)),
 fun ρz wz hE hA _ ⟨u1, u6, _⟩ => core_valE rfl rfl (congrArg Value.bool hc) (o_pick_and u1 u6 rfl),
 mU rfl rfl rfl,
 fun ρz wz hE hA ⟨e7, _⟩ ⟨u8, _⟩ => gIf rfl rfl (yT rfl u8) fun gc F hF => core_val rfl hF (o_move (e7.trans h7)),
 fun ρz wz hE hA _ ⟨u8, u9, _⟩ => gIfR rfl (yT rfl u8) fun gc F hF => core_callR hF (call_args1 (gt gc u9)) cf_15 ((sickness_Spells_ok  _ (Hf7.exn (hA rfl)).no (hz8 gc)).mono (fun e w1 ⟨v, he, hE1, hO⟩ => ⟨v, he, hE1, hO.base (Nat.le_trans hW.size hE.size), fun b hb => Nat.le_trans hE.size (hO.lt hb).1⟩)),
 fun ρz wz hE hA ⟨e7, _⟩ ⟨u8, _⟩ => gIf rfl rfl (yT rfl u8) fun gc F hF => core_val rfl hF (o_move (e7.trans h7)),
 fun ρz wz hE hA _ ⟨u8, u11, _⟩ => gIfR rfl (yT rfl u8) fun gc F hF => core_callR hF (call_args1 (gt gc u11)) cf_16 ((pensionref21_Spells_ok  _ (Hf7.exn (hA rfl)).no (hz9 gc)).mono (fun e w1 ⟨v, he, hE1, hO⟩ => ⟨v, he, hE1, hO.base (Nat.le_trans hW.size hE.size), fun b hb => Nat.le_trans hE.size (hO.lt hb).1⟩)),
 fun ρz wz hE hA _ ⟨u8, u10, u12, _⟩ => gIf rfl rfl (yT rfl u8) fun gc F hF => let ⟨hO10, hfr10⟩ := u10 gc; let ⟨hO12, hfr12⟩ := u12 gc; core_call hF (call_args2 rfl rfl) cf_12 (pensionplain_Same_of_api_Span_ok  _ _ (hO10.rep (hn := fun _ => rfl) (G := noG) (fun _ _ h => h)).no (hO12.rep (hn := fun _ => rfl) (G := noG) (fun _ _ h => h)).no (hz10 gc)),
 fun ρz wz hE hA _ ⟨u8, u13, _⟩ => core_valE rfl rfl (congrArg Value.bool hc2) (o_pick_and u8 u13 rfl),
 mU rfl rfl rfl,
 fun ρz wz hE hA ⟨e8, _⟩ ⟨u15, _⟩ => gIf rfl rfl (yT rfl u15) fun gc F hF => core_val rfl hF (o_move (e8.trans h8)),
 fun ρz wz hE hA _ ⟨u15, u16, _⟩ => gIfR rfl (yT rfl u15) fun gc F hF => core_callR hF (call_args1 (gt gc u16)) cf_13 ((sickness_Sick_ok  _ (Hf8.exn (hA rfl)).no (hz11 gc)).mono (fun e w1 ⟨v, he, hE1, hO⟩ => ⟨v, he, hE1, hO.base (Nat.le_trans hW.size hE.size), fun b hb => Nat.le_trans hE.size (hO.lt hb).1⟩)),
 fun ρz wz hE hA ⟨e8, _⟩ ⟨u15, _⟩ => gIf rfl rfl (yT rfl u15) fun gc F hF => core_val rfl hF (o_move (e8.trans h8)),
 fun ρz wz hE hA _ ⟨u15, u18, _⟩ => gIfR rfl (yT rfl u15) fun gc F hF => core_callR hF (call_args1 (gt gc u18)) cf_14 ((pensionref21_Sick_ok  _ (Hf8.exn (hA rfl)).no (hz12 gc)).mono (fun e w1 ⟨v, he, hE1, hO⟩ => ⟨v, he, hE1, hO.base (Nat.le_trans hW.size hE.size), fun b hb => Nat.le_trans hE.size (hO.lt hb).1⟩)),
 fun ρz wz hE hA _ ⟨u15, u17, u19, _⟩ => gIf rfl rfl (yT rfl u15) fun gc F hF => let ⟨hO17, hfr17⟩ := u17 gc; let ⟨hO19, hfr19⟩ := u19 gc; core_call hF (call_args2 rfl rfl) cf_12 (pensionplain_Same_of_api_Span_ok  _ _ (hO17.rep (hn := fun _ => rfl) (G := noG) (fun _ _ h => h)).no (hO19.rep (hn := fun _ => rfl) (G := noG) (fun _ _ h => h)).no (hz13 gc)),
 fun ρz wz hE hA _ ⟨u15, u20, _⟩ => core_valE rfl rfl (congrArg Value.bool hc3) (o_pick_and u15 u20 rfl),
 mU rfl rfl rfl,
 fun ρz wz hE hA ⟨e8, _⟩ ⟨u22, _⟩ => gIf rfl rfl (yT rfl u22) fun gc F hF => core_val rfl hF (o_move (e8.trans h8)),
 fun ρz wz hE hA _ ⟨u22, u23, _⟩ => gIfR rfl (yT rfl u22) fun gc F hF => core_callR hF (call_args1 (gt gc u23)) cf_15 ((sickness_Spells_ok  _ (Hf8.exn (hA rfl)).no (hz14 gc)).mono (fun e w1 ⟨v, he, hE1, hO⟩ => ⟨v, he, hE1, hO.base (Nat.le_trans hW.size hE.size), fun b hb => Nat.le_trans hE.size (hO.lt hb).1⟩)),
 fun ρz wz hE hA ⟨e8, _⟩ ⟨u22, _⟩ => gIf rfl rfl (yT rfl u22) fun gc F hF => core_val rfl hF (o_move (e8.trans h8)),
 fun ρz wz hE hA _ ⟨u22, u25, _⟩ => gIfR rfl (yT rfl u22) fun gc F hF => core_callR hF (call_args1 (gt gc u25)) cf_16 ((pensionref21_Spells_ok  _ (Hf8.exn (hA rfl)).no (hz15 gc)).mono (fun e w1 ⟨v, he, hE1, hO⟩ => ⟨v, he, hE1, hO.base (Nat.le_trans hW.size hE.size), fun b hb => Nat.le_trans hE.size (hO.lt hb).1⟩)),
 fun ρz wz hE hA _ ⟨u22, u24, u26, _⟩ => gIf rfl rfl (yT rfl u22) fun gc F hF => let ⟨hO24, hfr24⟩ := u24 gc; let ⟨hO26, hfr26⟩ := u26 gc; core_call hF (call_args2 rfl rfl) cf_12 (pensionplain_Same_of_api_Span_ok  _ _ (hO24.rep (hn := fun _ => rfl) (G := noG) (fun _ _ h => h)).no (hO26.rep (hn := fun _ => rfl) (G := noG) (fun _ _ h => h)).no (hz16 gc)),
 fun ρz wz hE hA _ ⟨u22, u27, _⟩ => core_valE rfl rfl (congrArg Value.bool hc4) (o_pick_and u22 u27 rfl),
 aU rfl rfl rfl, trivial⟩ ?_
  intro ρ4 w4 hN hf hr
  have h6 : ρ4 6 = .bool c4 := hf 29 rfl
  have hW := hW.trans hN
  refine WP.ret ?_
  show retQ Try.prog 44 Try.f3 (fun v w1 => v = .bool r ∧ Ext noG w0 w1) .ret ρ4 w4
  obtain rfl := Option.some.inj hF
  exact res1 rfl (by decide) h6 ⟨rfl, hW⟩

set_option maxHeartbeats 4000000 in
theorem pensionref21_Payable_ok {w0 : World} (d_ : List api_Fact) {v_d_ : Value} (H_d_ : RepSl api_Fact.R noG w0 v_d_ d_) {r : (List Span)} (hF : pensionref21_Payable d_ = some r) :
    Calls Try.prog 18 #[v_d_] w0 fun e w1 => ∃ v, e = .returned v ∧ Ext noG w0 w1 ∧ Own w0.heap.size 31 2 Span.cells w1 v r := by
  refine (Calls.start (P := Try.prog) (args := [v_d_]) (R := fun v w1 => Own w0.heap.size 31 2 Span.cells w1 v r ∧ Ext noG w0 w1) (n := 111) (w := w0) Try.func18 rfl rfl (Nat.le_of_ble_eq_true rfl) (fun ρ hargs => ?_)).mono (fun e w1 ⟨v, he, hv, hE⟩ => ⟨v, he, hE, hv⟩)
  have h0 := hargs 0 _ rfl
  have hW := Ext.refl noG w0
  obtain ⟨_, _, hs_H_d_, _, _⟩ := RepSl.shape H_d_
  have H_d_ := H_d_.start
  rw [pensionref21_Payable] at hF
  refine WP.seq (WP.rb mixed [[]] [[]] [(2, .slice none 0 0)] (by kernel_rfl) ⟨aC rfl rfl (fun _ => rfl), trivial⟩ ?_)
  intro ρ1 w1 hN hf hr
  have h0 := (hr 0 rfl).trans h0
  have H_d_ := H_d_.exn hN
  have hW := hW.trans hN
  refine WP.seq ?_
  obtain ⟨z, hz, hF⟩ := obind hF
  obtain ⟨z2, hz2, hF⟩ := obind hF
  refine WP.rg mixed [[], [0], [], [2], [1], [3]] [[], [0], [], [2], [1], [3]] [[0], [], [0], [], [], []] [val 13 (v_d_), (14, fun u wz => Own w0.heap.size 31 2 Span.cells wz u z ∧ ∀ b, u.ownBlock = some b → w1.heap.size ≤ b), val 15 (v_d_), (16, fun u wz => Own w0.heap.size 31 2 Span.cells wz u z2 ∧ ∀ b, u.ownBlock = some b → w1.heap.size ≤ b), (3, fun u wz => Own w0.heap.size 31 2 Span.cells wz u z ∧ ∀ b, u.ownBlock = some b → w1.heap.size ≤ b), (4, fun u wz => Own w0.heap.size 31 2 Span.cells wz u z2 ∧ ∀ b, u.ownBlock = some b → w1.heap.size ≤ b)] (by kernel_rfl) ⟨sV, fun _ _ _ hE ⟨hO, hf⟩ => ⟨hO.exn hE, hf⟩, sV, fun _ _ _ hE ⟨hO, hf⟩ => ⟨hO.exn hE, hf⟩, fun _ _ _ hE ⟨hO, hf⟩ => ⟨hO.exn hE, hf⟩, fun _ _ _ hE ⟨hO, hf⟩ => ⟨hO.exn hE, hf⟩, trivial⟩ ⟨mE rfl rfl h0,
 fun ρz wz hE hA _ ⟨u0, _⟩ => core_callR rfl (call_args1 u0) cf_14 ((pensionref21_Sick_ok  _ (H_d_.exn (hA rfl)).no hz).mono (fun e w1 ⟨v, he, hE1, hO⟩ => ⟨v, he, hE1, hO.base (Nat.le_trans hW.size hE.size), fun b hb => Nat.le_trans hE.size (hO.lt hb).1⟩)),
 mE rfl rfl h0,
 fun ρz wz hE hA _ ⟨u2, _⟩ => core_callR rfl (call_args1 u2) cf_16 ((pensionref21_Spells_ok  _ (H_d_.exn (hA rfl)).no hz2).mono (fun e w1 ⟨v, he, hE1, hO⟩ => ⟨v, he, hE1, hO.base (Nat.le_trans hW.size hE.size), fun b hb => Nat.le_trans hE.size (hO.lt hb).1⟩)),
 fun ρz wz hE hA _ ⟨⟨hO1, hfr1⟩, _⟩ => core_copy rfl rfl (o_assign rfl) ⟨hO1, hfr1⟩,
 fun ρz wz hE hA _ ⟨⟨hO3, hfr3⟩, _⟩ => core_copy rfl rfl (o_assign rfl) ⟨hO3, hfr3⟩, trivial⟩ ?_
  intro ρ2 w2 hN hf hr
  obtain ⟨v3_, h3⟩ : ∃ v, ρ2 3 = v := ⟨_, rfl⟩
  have hq3 : (fun u wz => Own w0.heap.size 31 2 Span.cells wz u z ∧ ∀ b, u.ownBlock = some b → w1.heap.size ≤ b) (ρ2 3) w2 := hf 4 rfl
  rw [h3] at hq3
  obtain ⟨hq3, hfr3⟩ := hq3
  obtain ⟨v4_, h4⟩ : ∃ v, ρ2 4 = v := ⟨_, rfl⟩
  have hq4 : (fun u wz => Own w0.heap.size 31 2 Span.cells wz u z2 ∧ ∀ b, u.ownBlock = some b → w1.heap.size ≤ b) (ρ2 4) w2 := hf 5 rfl
  rw [h4] at hq4
  obtain ⟨hq4, hfr4⟩ := hq4
  have hW := hW.trans hN
  have Hf3 : RepSl Span.R noG w2 v3_ z := hq3.rep (fun _ _ h => h)
  obtain ⟨_, _, hs_Hf3, _, _⟩ := RepSl.shape Hf3
  have Hf4 : RepSl Span.R noG w2 v4_ z2 := hq4.rep (fun _ _ h => h)
  obtain ⟨_, _, hs_Hf4, _, _⟩ := RepSl.shape Hf4
  refine WP.seq (WP.rb mixed [[]] [[]] [(5, .slice none 0 0)] (by kernel_rfl) ⟨aC rfl rfl (fun _ => rfl), trivial⟩ ?_)
  intro ρ3 w3 hN hf hr
  have h5 : ρ3 5 = .slice none 0 0 := hf 0 rfl
  have O5 : Own w0.heap.size 31 2 Span.cells w3 (.slice none 0 0) [] := Own.nil _ _ _ _ _
  obtain ⟨h3, h4⟩ := k2 hr h3 h4 rfl
  have Hf3 : RepSl Span.R (gL [ownG (.slice none 0 0)]) w3 v3_ z := Hf3.mv hN (fun _ h => h.elim) (fun b h => h.elim (fun h => by simp [ownG, Value.ownBlock] at h) (fun h => h.elim))
  have Hf4 : RepSl Span.R (gL [ownG (.slice none 0 0)]) w3 v4_ z2 := Hf4.mv hN (fun _ h => h.elim) (fun b h => h.elim (fun h => by simp [ownG, Value.ownBlock] at h) (fun h => h.elim))
  have hW := hW.trans hN
  have O5 : Own w0.heap.size 31 2 Span.cells w3 (.slice none 0 0) [] := Own.nil _ _ _ _ _
  refine WP.seq (WP.rb mixed [[]] [[]] [(6, .slice none 0 0)] (by kernel_rfl) ⟨aC rfl rfl (fun _ => rfl), trivial⟩ ?_)
  intro ρ4 w4 hN hf hr
  have h6 : ρ4 6 = .slice none 0 0 := hf 0 rfl
  have O6 : Own w0.heap.size 3 1 (fun x : Int => [Value.int .i64 x]) w4 (.slice none 0 0) [] := Own.nil _ _ _ _ _
  obtain ⟨h3, h4, h5⟩ := k3 hr h3 h4 h5 rfl
  have Oo_O5 := O5
  have Hf3 : RepSl Span.R (gL [ownG (.slice none 0 0), ownG (.slice none 0 0)]) w4 v3_ z := Hf3.mv hN (fun _ h => h.elim) (fun b h => h.elim (fun h => .inl (.inl h)) (fun h => h.elim (fun h => by simp [ownG, Value.ownBlock] at h) (fun h => h.elim)))
  have Hf4 : RepSl Span.R (gL [ownG (.slice none 0 0), ownG (.slice none 0 0)]) w4 v4_ z2 := Hf4.mv hN (fun _ h => h.elim) (fun b h => h.elim (fun h => .inl (.inl h)) (fun h => h.elim (fun h => by simp [ownG, Value.ownBlock] at h) (fun h => h.elim)))
  have hW := hW.trans hN
  have O5 : Own w0.heap.size 31 2 Span.cells w4 (.slice none 0 0) [] := Own.nil _ _ _ _ _
  have O6 : Own w0.heap.size 3 1 (fun x : Int => [Value.int .i64 x]) w4 (.slice none 0 0) [] := Own.nil _ _ _ _ _
  refine WP.seq (WP.rb mixed [[], []] [[], []] [(7, .int .i64 0), (8, .int .i64 0)] (by kernel_rfl) ⟨aC rfl rfl (fun _ => rfl),
 aC rfl rfl (fun _ => rfl), trivial⟩ ?_)
  intro ρ5 w5 hN hf hr
  have h7 := hv hf 0 rfl rfl
  have h8 := hv hf 1 rfl rfl
  obtain ⟨h3, h4, h5, h6⟩ := k4 hr h3 h4 h5 h6 rfl
  have Oo_O5 := O5
  have Oo_O6 := O6
  have Hf3 := Hf3.exn hN
  have Hf4 := Hf4.exn hN
  have hW := hW.trans hN
  have O5 : Own w0.heap.size 31 2 Span.cells w5 (.slice none 0 0) [] := Own.nil _ _ _ _ _
  have O6 : Own w0.heap.size 3 1 (fun x : Int => [Value.int .i64 x]) w5 (.slice none 0 0) [] := Own.nil _ _ _ _ _
  refine WP.seq (WP.rb mixed [[]] [[]] [(9, .int .i64 0)] (by kernel_rfl) ⟨aC rfl rfl (fun _ => rfl), trivial⟩ ?_)
  intro ρ6 w6 hN hf hr
  have h9 := hv hf 0 rfl rfl
  obtain ⟨h3, h4, h5, h6, h7, h8⟩ := k6 hr h3 h4 h5 h6 h7 h8 rfl
  have Oo_O5 := O5
  have Oo_O6 := O6
  have Hf3 := Hf3.exn hN
  have Hf4 := Hf4.exn hN
  have hW := hW.trans hN
  have O5 : Own w0.heap.size 31 2 Span.cells w6 (.slice none 0 0) [] := Own.nil _ _ _ _ _
  have O6 : Own w0.heap.size 3 1 (fun x : Int => [Value.int .i64 x]) w6 (.slice none 0 0) [] := Own.nil _ _ _ _ _
  refine WP.seq (WP.seq (WP.rb mixed [[]] [[]] [(10, .int .i64 0)] (by kernel_rfl) ⟨aC rfl rfl (fun _ => rfl), trivial⟩ ?_))
  intro ρ7 w7 hN hf hr
  have h10 := hv hf 0 rfl rfl
  obtain ⟨h3, h4, h5, h6, h7, h8⟩ := k6 hr h3 h4 h5 h6 h7 h8 rfl
  have h9 := (hr 9 rfl).trans h9
  have Oo_O5 := O5
  have Oo_O6 := O6
  have Hf3 := Hf3.exn hN
  have Hf4 := Hf4.exn hN
  have hW := hW.trans hN
  have O5 : Own w0.heap.size 31 2 Span.cells w7 (.slice none 0 0) [] := Own.nil _ _ _ _ _
  have O6 : Own w0.heap.size 3 1 (fun x : Int => [Value.int .i64 x]) w7 (.slice none 0 0) [] := Own.nil _ _ _ _ _
  refine WP.block ?_
  have hdd_O5_O6 : ∀ b, Value.ownBlock (.slice none 0 0) = some b → Value.ownBlock (.slice none 0 0) ≠ some b := fun b h => by simp [Value.ownBlock] at h
  refine WP.loop (fun k_ ρ w => ∃ x : List Span, ∃ x2 : List Int, ∃ x3 : Int, ∃ x4 : Int, ∃ x5 : Int, ∃ x6 : Int, ∃ v5_ : Value, ∃ v6_ : Value, ρ 3 = v3_ ∧ ρ 4 = v4_ ∧ ρ 5 = v5_ ∧ ρ 6 = v6_ ∧ ρ 7 = .int .i64 x3 ∧ ρ 8 = .int .i64 x4 ∧ ρ 9 = .int .i64 x5 ∧ ρ 10 = .int .i64 x6 ∧ RepSl Span.R (gL [ownG v5_, ownG v6_]) w v3_ z ∧ RepSl Span.R (gL [ownG v5_, ownG v6_]) w v4_ z2 ∧ Own w0.heap.size 31 2 Span.cells w v5_ x ∧ Own w0.heap.size 3 1 (fun x : Int => [Value.int .i64 x]) w v6_ x2 ∧ (∀ b, Value.ownBlock v5_ = some b → Value.ownBlock v6_ ≠ some b) ∧ Ext noG w0 w ∧ loopC k_ (pensionref21_Payable_l z z2) (x, x2, x3, x4, x5, x6) = some r) FU ⟨[], [], 0, 0, 0, 0, .slice none 0 0, .slice none 0 0, h3, h4, h5, h6, h7, h8, h9, h10, Hf3, Hf4, O5, O6, hdd_O5_O6, hW, hF⟩ (fun _ _ h => by obtain ⟨_, _, _, _, _, _, _, _, _, _, _, _, _, _, _, _, _, _, _, _, _, _, h⟩ := h; cases h) ?_
  rintro k_ ρ8 w8 ⟨x, x2, x3, x4, x5, x6, v5_, v6_, h3, h4, h5, h6, h7, h8, h9, h10, Hf3, Hf4, O5, O6, hdd_O5_O6, hW, hF⟩
  have hF : pensionref21_Payable_l z z2 (loopC k_ (pensionref21_Payable_l z z2)) (x, x2, x3, x4, x5, x6) = some r := hF
  generalize hrec_ : loopC k_ (pensionref21_Payable_l z z2) = rec_ at hF
  rw [pensionref21_Payable_l] at hF
  refine WP.seq (WP.seq (WP.rb mixed [[], [], [1], [0, 2]] [[10], [3], [], []] [(17, .int .i64 x6), (18, v3_), (19, .int .i64 (z.length : Int)), (20, .bool (decide (x6 < (z.length : Int))))] (by kernel_rfl) ⟨mE rfl rfl h10,
 mE rfl rfl h3,
 fun ρz wz hE hA _ ⟨u1, _⟩ => core_val rfl rfl (o_len (u1.trans hs_Hf3) len_32),
 fun ρz wz hE hA _ ⟨u0, u2, _⟩ => core_val rfl rfl (o_lss u0 u2 rfl), trivial⟩ ?_))
  intro ρ9 w9 hN hf hr
  have h20 := hv hf 3 rfl rfl
  obtain ⟨h3, h4, h5, h6, h7, h8⟩ := k6 hr h3 h4 h5 h6 h7 h8 rfl
  obtain ⟨h9, h10⟩ := k2 hr h9 h10 rfl
  have Oo_O5 := O5
  have Oo_O6 := O6
  have Hf3 := Hf3.exn hN
  have Hf4 := Hf4.exn hN
  have hW := hW.trans hN
  have O5 := Oo_O5.exn hN
  have O6 := Oo_O6.exn hN
  refine WP.cond rfl h20 (fun hb => ?_) (fun hb => ?_)
  · have hF := (if_pos hb).symm.trans hF
    refine WP.skip (WP.seq (WP.block (WP.seq ?_)))
    obtain ⟨y, hy, hF⟩ := obind hF
    obtain ⟨ay, cy, hvy, hiy, hAy⟩ := RepSl.getF Hf3 hy
    refine WP.rb mixed [[], [], [0, 1], [2], [3], [4]] [[3], [10], [], [], [], []] [(23, v3_), (24, .int .i64 x6), (25, .pointer (some (ay.add (Int.toNat x6 * 2)))), (26, .pointer (some ((ay.add (Int.toNat x6 * 2)).add 0))), (27, .int .i64 y.From), (11, .int .i64 y.From)] (by kernel_rfl) ⟨mE rfl rfl h3,
 mE rfl rfl h10,
 fun ρz wz hE hA _ ⟨u0, u1, _⟩ => core_val rfl rfl (o_indexAddr (u0.trans hvy) u1 (ia_32 hiy)),
 fun ρz wz hE hA _ ⟨u2, _⟩ => core_val rfl rfl (o_fieldAddr u2 (fa_31_0 _ _)),
 fun ρz wz hE hA _ ⟨u3, _⟩ => core_val rfl rfl (o_load u3 (run_load1 (lr_3 _ _) (CA.sub ((hAy.exn (hA rfl)).ca) 0 1))),
 aU rfl rfl rfl, trivial⟩ ?_
    intro ρ10 w10 hN hf hr
    have h11 := hv hf 5 rfl rfl
    obtain ⟨h3, h4, h5, h6, h7, h8⟩ := k6 hr h3 h4 h5 h6 h7 h8 rfl
    obtain ⟨h9, h10⟩ := k2 hr h9 h10 rfl
    have Oo_O5 := O5
    have Oo_O6 := O6
    have Hf3 := Hf3.exn hN
    have Hf4 := Hf4.exn hN
    have hW := hW.trans hN
    have O5 := Oo_O5.exn hN
    have O6 := Oo_O6.exn hN
    refine WP.block (WP.loop (fun k_2 ρ w => ∃ x7 : List Span, ∃ x8 : List Int, ∃ x9 : Int, ∃ x10 : Int, ∃ x11 : Int, ∃ x12 : Int, ∃ v5_2 : Value, ∃ v6_2 : Value, ρ 3 = v3_ ∧ ρ 4 = v4_ ∧ ρ 5 = v5_2 ∧ ρ 6 = v6_2 ∧ ρ 7 = .int .i64 x9 ∧ ρ 8 = .int .i64 x10 ∧ ρ 9 = .int .i64 x11 ∧ ρ 10 = .int .i64 x6 ∧ ρ 11 = .int .i64 x12 ∧ RepSl Span.R (gL [ownG v5_2, ownG v6_2]) w v3_ z ∧ RepSl Span.R (gL [ownG v5_2, ownG v6_2]) w v4_ z2 ∧ Own w0.heap.size 31 2 Span.cells w v5_2 x7 ∧ Own w0.heap.size 3 1 (fun x : Int => [Value.int .i64 x]) w v6_2 x8 ∧ (∀ b, Value.ownBlock v5_2 = some b → Value.ownBlock v6_2 ≠ some b) ∧ Ext noG w0 w ∧ loopC k_2 (pensionref21_Payable_l2 z z2 x6 rec_) (x7, x8, x9, x10, x11, x12) = some r) FU ⟨x, x2, x3, x4, x5, y.From, v5_, v6_, h3, h4, h5, h6, h7, h8, h9, h10, h11, Hf3, Hf4, O5, O6, hdd_O5_O6, hW, hF⟩ (fun _ _ h => by obtain ⟨_, _, _, _, _, _, _, _, _, _, _, _, _, _, _, _, _, _, _, _, _, _, _, h⟩ := h; cases h) ?_)
    rintro k_2 ρ11 w11 ⟨x7, x8, x9, x10, x11, x12, v5_2, v6_2, h3, h4, h5, h6, h7, h8, h9, h10, h11, Hf3, Hf4, O5, O6, hdd_O5_O6, hW, hF⟩
    have hF : pensionref21_Payable_l2 z z2 x6 rec_ (loopC k_2 (pensionref21_Payable_l2 z z2 x6 rec_)) (x7, x8, x9, x10, x11, x12) = some r := hF
    generalize hrec_2 : loopC k_2 (pensionref21_Payable_l2 z z2 x6 rec_) = rec_2 at hF
    rw [pensionref21_Payable_l2] at hF
    refine WP.seq (WP.seq ?_)
    obtain ⟨y2, hy2, hF⟩ := obind hF
    obtain ⟨ay2, cy2, hvy2, hiy2, hAy2⟩ := RepSl.getF Hf3 hy2
    refine WP.rb mixed [[], [], [], [1, 2], [3], [4], [0, 5]] [[11], [3], [10], [], [], [], []] [(28, .int .i64 x12), (29, v3_), (30, .int .i64 x6), (31, .pointer (some (ay2.add (Int.toNat x6 * 2)))), (32, .pointer (some ((ay2.add (Int.toNat x6 * 2)).add 1))), (33, .int .i64 y2.To), (34, .bool (decide (x12 < y2.To)))] (by kernel_rfl) ⟨mE rfl rfl h11,
 mE rfl rfl h3,
 mE rfl rfl h10,
 fun ρz wz hE hA _ ⟨u1, u2, _⟩ => core_val rfl rfl (o_indexAddr (u1.trans hvy2) u2 (ia_32 hiy2)),
 fun ρz wz hE hA _ ⟨u3, _⟩ => core_val rfl rfl (o_fieldAddr u3 (fa_31_1 _ _)),
 fun ρz wz hE hA _ ⟨u4, _⟩ => core_val rfl rfl (o_load u4 (run_load1 (lr_3 _ _) (CA.sub ((hAy2.exn (hA rfl)).ca) 1 1))),
 fun ρz wz hE hA _ ⟨u0, u5, _⟩ => core_val rfl rfl (o_lss u0 u5 rfl), trivial⟩ ?_
    intro ρ12 w12 hN hf hr
    have h34 := hv hf 6 rfl rfl
    obtain ⟨h3, h4, h5, h6, h7, h8⟩ := k6 hr h3 h4 h5 h6 h7 h8 rfl
    obtain ⟨h9, h10, h11⟩ := k3 hr h9 h10 h11 rfl
    have Oo_O5 := O5
    have Oo_O6 := O6
    have Hf3 := Hf3.exn hN
    have Hf4 := Hf4.exn hN
    have hW := hW.trans hN
    have O5 := Oo_O5.exn hN
    have O6 := Oo_O6.exn hN
    refine WP.cond rfl h34 (fun hb => ?_) (fun hb => ?_)
    · have hF := (if_pos hb).symm.trans hF
      refine WP.skip (WP.seqJ (fun ρ w => ∃ x13 : List Span, ∃ x14 : List Int, ∃ x15 : Int, ∃ x16 : Int, ∃ x17 : Int, ∃ v5_3 : Value, ∃ v6_3 : Value, ρ 3 = v3_ ∧ ρ 4 = v4_ ∧ ρ 5 = v5_3 ∧ ρ 6 = v6_3 ∧ ρ 7 = .int .i64 x15 ∧ ρ 8 = .int .i64 x16 ∧ ρ 9 = .int .i64 x17 ∧ ρ 10 = .int .i64 x6 ∧ ρ 11 = .int .i64 x12 ∧ RepSl Span.R (gL [ownG v5_3, ownG v6_3]) w v3_ z ∧ RepSl Span.R (gL [ownG v5_3, ownG v6_3]) w v4_ z2 ∧ Own w0.heap.size 31 2 Span.cells w v5_3 x13 ∧ Own w0.heap.size 3 1 (fun x : Int => [Value.int .i64 x]) w v6_3 x14 ∧ (∀ b, Value.ownBlock v5_3 = some b → Value.ownBlock v6_3 ≠ some b) ∧ Ext noG w0 w ∧ pensionref21_Payable_j x12 rec_2 x13 x14 x15 x16 x17 = some r) ?_ ?_)
      · refine WP.block (WP.seq (WP.block (WP.loop (fun k_3 ρ w => ∃ x18 : Int, ∃ x19 : Int, ρ 3 = v3_ ∧ ρ 4 = v4_ ∧ ρ 5 = v5_2 ∧ ρ 6 = v6_2 ∧ ρ 7 = .int .i64 x18 ∧ ρ 8 = .int .i64 x19 ∧ ρ 9 = .int .i64 x11 ∧ ρ 10 = .int .i64 x6 ∧ ρ 11 = .int .i64 x12 ∧ RepSl Span.R (gL [ownG v5_2, ownG v6_2]) w v3_ z ∧ RepSl Span.R (gL [ownG v5_2, ownG v6_2]) w v4_ z2 ∧ Own w0.heap.size 31 2 Span.cells w v5_2 x7 ∧ Own w0.heap.size 3 1 (fun x : Int => [Value.int .i64 x]) w v6_2 x8 ∧ (∀ b, Value.ownBlock v5_2 = some b → Value.ownBlock v6_2 ≠ some b) ∧ Ext noG w0 w ∧ loopC k_3 (pensionref21_Payable_l3 z2 x7 x8 x11 x12 rec_2) (x18, x19) = some r) FU ⟨x9, x10, h3, h4, h5, h6, h7, h8, h9, h10, h11, Hf3, Hf4, O5, O6, hdd_O5_O6, hW, hF⟩ (fun _ _ h => by obtain ⟨_, _, _, _, _, _, _, _, _, _, _, _, _, _, _, _, _, h⟩ := h; cases h) ?_)))
        rintro k_3 ρ15 w15 ⟨x18, x19, h3, h4, h5, h6, h7, h8, h9, h10, h11, Hf3, Hf4, O5, O6, hdd_O5_O6, hW, hF⟩
        have hF : pensionref21_Payable_l3 z2 x7 x8 x11 x12 rec_2 (loopC k_3 (pensionref21_Payable_l3 z2 x7 x8 x11 x12 rec_2)) (x18, x19) = some r := hF
        generalize hrec_3 : loopC k_3 (pensionref21_Payable_l3 z2 x7 x8 x11 x12 rec_2) = rec_3 at hF
        rw [pensionref21_Payable_l3] at hF
        refine WP.seq (WP.seq ?_)
        obtain ⟨c, hc, hF⟩ := obind hF
        obtain ⟨y3, hy3, hc⟩ := andB hc
        obtain ⟨ay3, cy3, hvy3, hiy3, hAy3⟩ := RepSl.getFI Hf4 hy3
        have hc := andE hc
        refine WP.rb mixed [[], [], [1], [0, 2], [3], [4], [4], [4, 5, 6], [4, 7], [4, 8], [4], [4, 9, 10], [4, 11]] [[7], [4], [], [], [], [4], [7], [], [], [], [11], [], []] [(37, .int .i64 x18), (38, v4_), (39, .int .i64 (z2.length : Int)), (40, .bool (decide (x18 < (z2.length : Int)))), (41, .bool (decide (x18 < (z2.length : Int)))), (42, gv (decide (x18 < (z2.length : Int))) v4_), (43, gv (decide (x18 < (z2.length : Int))) (.int .i64 x18)), (44, gv (decide (x18 < (z2.length : Int))) (.pointer (some (ay3.add (Int.toNat x18 * 2))))), (45, gv (decide (x18 < (z2.length : Int))) (.pointer (some ((ay3.add (Int.toNat x18 * 2)).add 1)))), (46, gv (decide (x18 < (z2.length : Int))) (.int .i64 y3.To)), (47, gv (decide (x18 < (z2.length : Int))) (.int .i64 x12)), (48, gv (decide (x18 < (z2.length : Int))) (.bool (decide (y3.To ≤ x12)))), (49, .bool c)] (by kernel_rfl) ⟨mE rfl rfl h7,
 mE rfl rfl h4,
 fun ρz wz hE hA _ ⟨u1, _⟩ => core_val rfl rfl (o_len (u1.trans hs_Hf4) len_32),
 fun ρz wz hE hA _ ⟨u0, u2, _⟩ => core_val rfl rfl (o_lss u0 u2 rfl),
 mU rfl rfl rfl,
 fun ρz wz hE hA ⟨e4, _⟩ ⟨u4, _⟩ => gIf rfl rfl (yT rfl u4) fun gc F hF => core_val rfl hF (o_move (e4.trans h4)),
 fun ρz wz hE hA ⟨e7, _⟩ ⟨u4, _⟩ => gIf rfl rfl (yT rfl u4) fun gc F hF => core_val rfl hF (o_move (e7.trans h7)),
 fun ρz wz hE hA _ ⟨u4, u5, u6, _⟩ => gIf rfl rfl (yT rfl u4) fun gc F hF => core_val rfl hF (o_indexAddr ((gt gc u5).trans (hvy3 gc)) (gt gc u6) (ia_32 (hiy3 gc))),
 fun ρz wz hE hA _ ⟨u4, u7, _⟩ => gIf rfl rfl (yT rfl u4) fun gc F hF => core_val rfl hF (o_fieldAddr (gt gc u7) (fa_31_1 _ _)),
 fun ρz wz hE hA _ ⟨u4, u8, _⟩ => gIf rfl rfl (yT rfl u4) fun gc F hF => core_val rfl hF (o_load (gt gc u8) (run_load1 (lr_3 _ _) (CA.sub (((hAy3 gc).exn (hA rfl)).ca) 1 1))),
 fun ρz wz hE hA ⟨e11, _⟩ ⟨u4, _⟩ => gIf rfl rfl (yT rfl u4) fun gc F hF => core_val rfl hF (o_move (e11.trans h11)),
 fun ρz wz hE hA _ ⟨u4, u9, u10, _⟩ => gIf rfl rfl (yT rfl u4) fun gc F hF => core_val rfl hF (o_leq (gt gc u9) (gt gc u10) rfl),
 fun ρz wz hE hA _ ⟨u4, u11, _⟩ => core_valE rfl rfl (congrArg Value.bool hc) (o_pick_and u4 u11 rfl), trivial⟩ ?_
        intro ρ16 w16 hN hf hr
        have h49 := hv hf 12 rfl rfl
        obtain ⟨h3, h4, h5, h6, h7, h8⟩ := k6 hr h3 h4 h5 h6 h7 h8 rfl
        obtain ⟨h9, h10, h11⟩ := k3 hr h9 h10 h11 rfl
        have Oo_O5 := O5
        have Oo_O6 := O6
        have Hf3 := Hf3.exn hN
        have Hf4 := Hf4.exn hN
        have hW := hW.trans hN
        have O5 := Oo_O5.exn hN
        have O6 := Oo_O6.exn hN
        refine WP.cond rfl h49 (fun hb => ?_) (fun hb => ?_)
        · have hF := (if_pos hb).symm.trans hF
          refine WP.skip (WP.block (WP.rv mixed [[], [0], [0, 1], []] [[], [0], [1], []] [[7], [], [], []] [(50, .int .i64 x18), (51, .int .i64 (i64 (x18 + 1))), (7, .int .i64 (i64 (x18 + 1))), (8, .int .i64 0)] (by kernel_rfl) ⟨mE rfl rfl h7,
 fun ρz wz hE hA _ ⟨u0, _⟩ => core_val rfl rfl (o_add u0 rfl rfl),
 aU rfl rfl rfl,
 aC rfl rfl (fun _ => rfl), trivial⟩ ?_))
          intro ρ17 w17 hN hf hr
          have h7 := hv hf 2 rfl rfl
          have h8 := hv hf 3 rfl rfl
          obtain ⟨h3, h4, h5, h6, h9, h10⟩ := k6 hr h3 h4 h5 h6 h9 h10 rfl
          have h11 := (hr 11 rfl).trans h11
          have Oo_O5 := O5
          have Oo_O6 := O6
          have Hf3 := Hf3.exn hN
          have Hf4 := Hf4.exn hN
          have hW := hW.trans hN
          have O5 := Oo_O5.exn hN
          have O6 := Oo_O6.exn hN
          exact ⟨i64 (x18 + 1), 0, h3, h4, h5, h6, h7, h8, h9, h10, h11, Hf3, Hf4, O5, O6, hdd_O5_O6, hW, (by first | exact hF | (rw [hrec_3]; exact hF))⟩
        have hF := (if_neg (Bool.eq_false_iff.1 hb)).symm.trans hF
        refine WP.exit (thenQ_exit (thenQ_exit (blockQ_hit (WP.seq (WP.rv mixed [[], [0], [0, 1]] [[], [0], [1]] [[8], [], []] [(52, .int .i64 x19), (53, .int .i64 (i64 (x19 + 1))), (8, .int .i64 (i64 (x19 + 1)))] (by kernel_rfl) ⟨mE rfl rfl h8,
 fun ρz wz hE hA _ ⟨u0, _⟩ => core_val rfl rfl (o_add u0 rfl rfl),
 aU rfl rfl rfl, trivial⟩ ?_)))))
        intro ρ18 w18 hN hf hr
        have h8 := hv hf 2 rfl rfl
        obtain ⟨h3, h4, h5, h6, h7, h9⟩ := k6 hr h3 h4 h5 h6 h7 h9 rfl
        obtain ⟨h10, h11⟩ := k2 hr h10 h11 rfl
        have Oo_O5 := O5
        have Oo_O6 := O6
        have Hf3 := Hf3.exn hN
        have Hf4 := Hf4.exn hN
        have hW := hW.trans hN
        have O5 := Oo_O5.exn hN
        have O6 := Oo_O6.exn hN
        refine WP.seq (WP.block (WP.loop (fun k_4 ρ w => ∃ x20 : Int, ρ 3 = v3_ ∧ ρ 4 = v4_ ∧ ρ 5 = v5_2 ∧ ρ 6 = v6_2 ∧ ρ 7 = .int .i64 x18 ∧ ρ 8 = .int .i64 (i64 (x19 + 1)) ∧ ρ 9 = .int .i64 x20 ∧ ρ 10 = .int .i64 x6 ∧ ρ 11 = .int .i64 x12 ∧ RepSl Span.R (gL [ownG v5_2, ownG v6_2]) w v3_ z ∧ RepSl Span.R (gL [ownG v5_2, ownG v6_2]) w v4_ z2 ∧ Own w0.heap.size 31 2 Span.cells w v5_2 x7 ∧ Own w0.heap.size 3 1 (fun x : Int => [Value.int .i64 x]) w v6_2 x8 ∧ (∀ b, Value.ownBlock v5_2 = some b → Value.ownBlock v6_2 ≠ some b) ∧ Ext noG w0 w ∧ loopC k_4 (pensionref21_Payable_l4 x7 x8 x12 rec_2 x18 x19) x20 = some r) FU ⟨x11, h3, h4, h5, h6, h7, h8, h9, h10, h11, Hf3, Hf4, O5, O6, hdd_O5_O6, hW, hF⟩ (fun _ _ h => by obtain ⟨_, _, _, _, _, _, _, _, _, _, _, _, _, _, _, _, h⟩ := h; cases h) ?_))
        rintro k_4 ρ19 w19 ⟨x20, h3, h4, h5, h6, h7, h8, h9, h10, h11, Hf3, Hf4, O5, O6, hdd_O5_O6, hW, hF⟩
        have hF : pensionref21_Payable_l4 x7 x8 x12 rec_2 x18 x19 (loopC k_4 (pensionref21_Payable_l4 x7 x8 x12 rec_2 x18 x19)) x20 = some r := hF
        generalize hrec_4 : loopC k_4 (pensionref21_Payable_l4 x7 x8 x12 rec_2 x18 x19) = rec_4 at hF
        rw [pensionref21_Payable_l4] at hF
        refine WP.seq (WP.seq ?_)
        obtain ⟨c2, hc2, hF⟩ := obind hF
        obtain ⟨y4, hy4, hc2⟩ := andB hc2
        obtain ⟨ay4, cy4, hvy4, hiy4, hAy4⟩ := RepSl.getFI (Own.rep (hn := fun _ => rfl) (G := noG) O6 (fun _ _ h => h)) hy4
        have hc2 := andE hc2
        refine WP.rb mixed [[], [], [1], [0, 2], [3], [4], [4], [4, 5, 6], [4, 7], [4], [4, 9], [4, 8, 10], [4, 11]] [[9], [6], [], [], [], [6], [9], [], [], [11], [], [], []] [(54, .int .i64 x20), (55, v6_2), (56, .int .i64 (x8.length : Int)), (57, .bool (decide (x20 < (x8.length : Int)))), (58, .bool (decide (x20 < (x8.length : Int)))), (59, gv (decide (x20 < (x8.length : Int))) v6_2), (60, gv (decide (x20 < (x8.length : Int))) (.int .i64 x20)), (61, gv (decide (x20 < (x8.length : Int))) (.pointer (some (ay4.add (Int.toNat x20 * 1))))), (62, gv (decide (x20 < (x8.length : Int))) (.int .i64 y4)), (63, gv (decide (x20 < (x8.length : Int))) (.int .i64 x12)), (64, gv (decide (x20 < (x8.length : Int))) (.int .i64 (i64 (x12 - 1094)))), (65, gv (decide (x20 < (x8.length : Int))) (.bool (decide (y4 < i64 (x12 - 1094))))), (66, .bool c2)] (by kernel_rfl) ⟨mE rfl rfl h9,
 mE rfl rfl h6,
 fun ρz wz hE hA _ ⟨u1, _⟩ => core_val rfl rfl (o_len (u1.trans (Own.shape O6).choose_spec.choose_spec.1) len_55),
 fun ρz wz hE hA _ ⟨u0, u2, _⟩ => core_val rfl rfl (o_lss u0 u2 rfl),
 mU rfl rfl rfl,
 fun ρz wz hE hA ⟨e6, _⟩ ⟨u4, _⟩ => gIf rfl rfl (yT rfl u4) fun gc F hF => core_val rfl hF (o_move (e6.trans h6)),
 fun ρz wz hE hA ⟨e9, _⟩ ⟨u4, _⟩ => gIf rfl rfl (yT rfl u4) fun gc F hF => core_val rfl hF (o_move (e9.trans h9)),
 fun ρz wz hE hA _ ⟨u4, u5, u6, _⟩ => gIf rfl rfl (yT rfl u4) fun gc F hF => core_val rfl hF (o_indexAddr ((gt gc u5).trans (hvy4 gc)) (gt gc u6) (ia_55 (hiy4 gc))),
 fun ρz wz hE hA _ ⟨u4, u7, _⟩ => gIf rfl rfl (yT rfl u4) fun gc F hF => core_val rfl hF (o_load (gt gc u7) (run_load1 (lr_3 _ _) (((hAy4 gc).exn (hA rfl)).ca))),
 fun ρz wz hE hA ⟨e11, _⟩ ⟨u4, _⟩ => gIf rfl rfl (yT rfl u4) fun gc F hF => core_val rfl hF (o_move (e11.trans h11)),
 fun ρz wz hE hA _ ⟨u4, u9, _⟩ => gIf rfl rfl (yT rfl u4) fun gc F hF => core_val rfl hF (o_sub (gt gc u9) rfl rfl),
 fun ρz wz hE hA _ ⟨u4, u8, u10, _⟩ => gIf rfl rfl (yT rfl u4) fun gc F hF => core_val rfl hF (o_lss (gt gc u8) (gt gc u10) rfl),
 fun ρz wz hE hA _ ⟨u4, u11, _⟩ => core_valE rfl rfl (congrArg Value.bool hc2) (o_pick_and u4 u11 rfl), trivial⟩ ?_
        intro ρ20 w20 hN hf hr
        have h66 := hv hf 12 rfl rfl
        obtain ⟨h3, h4, h5, h6, h7, h8⟩ := k6 hr h3 h4 h5 h6 h7 h8 rfl
        obtain ⟨h9, h10, h11⟩ := k3 hr h9 h10 h11 rfl
        have Oo_O5 := O5
        have Oo_O6 := O6
        have Hf3 := Hf3.exn hN
        have Hf4 := Hf4.exn hN
        have hW := hW.trans hN
        have O5 := Oo_O5.exn hN
        have O6 := Oo_O6.exn hN
        refine WP.cond rfl h66 (fun hb => ?_) (fun hb => ?_)
        · have hF := (if_pos hb).symm.trans hF
          refine WP.skip (WP.block (WP.rv mixed [[], [0], [0, 1]] [[], [0], [1]] [[9], [], []] [(67, .int .i64 x20), (68, .int .i64 (i64 (x20 + 1))), (9, .int .i64 (i64 (x20 + 1)))] (by kernel_rfl) ⟨mE rfl rfl h9,
 fun ρz wz hE hA _ ⟨u0, _⟩ => core_val rfl rfl (o_add u0 rfl rfl),
 aU rfl rfl rfl, trivial⟩ ?_))
          intro ρ21 w21 hN hf hr
          have h9 := hv hf 2 rfl rfl
          obtain ⟨h3, h4, h5, h6, h7, h8⟩ := k6 hr h3 h4 h5 h6 h7 h8 rfl
          obtain ⟨h10, h11⟩ := k2 hr h10 h11 rfl
          have Oo_O5 := O5
          have Oo_O6 := O6
          have Hf3 := Hf3.exn hN
          have Hf4 := Hf4.exn hN
          have hW := hW.trans hN
          have O5 := Oo_O5.exn hN
          have O6 := Oo_O6.exn hN
          exact ⟨i64 (x20 + 1), h3, h4, h5, h6, h7, h8, h9, h10, h11, Hf3, Hf4, O5, O6, hdd_O5_O6, hW, (by first | exact hF | (rw [hrec_4]; exact hF))⟩
        have hF := (if_neg (Bool.eq_false_iff.1 hb)).symm.trans hF
        refine WP.exit (thenQ_exit (thenQ_exit (blockQ_hit (WP.seq (WP.seq (WP.rb mixed [[], [0], [1], [2], [2, 3], [2], [2, 4, 5], [2, 6], [2, 7]] [[8], [], [], [6], [], [9], [], [], []] [(69, .int .i64 (i64 (x19 + 1))), (70, .bool (decide (i64 (x19 + 1) ≤ 3))), (71, .bool (decide (i64 (x19 + 1) ≤ 3))), (72, gv (!(decide (i64 (x19 + 1) ≤ 3))) v6_2), (73, gv (!(decide (i64 (x19 + 1) ≤ 3))) (.int .i64 (x8.length : Int))), (74, gv (!(decide (i64 (x19 + 1) ≤ 3))) (.int .i64 x20)), (75, gv (!(decide (i64 (x19 + 1) ≤ 3))) (.int .i64 (i64 ((x8.length : Int) - x20)))), (76, gv (!(decide (i64 (x19 + 1) ≤ 3))) (.bool (decide (546 ≤ i64 ((x8.length : Int) - x20))))), (77, .bool (decide (i64 (x19 + 1) ≤ 3) || decide (546 ≤ i64 ((x8.length : Int) - x20))))] (by kernel_rfl) ⟨mE rfl rfl h8,
 fun ρz wz hE hA _ ⟨u0, _⟩ => core_val rfl rfl (o_leq u0 rfl rfl),
 mU rfl rfl rfl,
 fun ρz wz hE hA ⟨e6, _⟩ ⟨u2, _⟩ => gIf rfl rfl (yF rfl u2) fun gc F hF => core_val rfl hF (o_move (e6.trans h6)),
 fun ρz wz hE hA _ ⟨u2, u3, _⟩ => gIf rfl rfl (yF rfl u2) fun gc F hF => core_val rfl hF (o_len ((gt gc u3).trans (Own.shape O6).choose_spec.choose_spec.1) len_55),
 fun ρz wz hE hA ⟨e9, _⟩ ⟨u2, _⟩ => gIf rfl rfl (yF rfl u2) fun gc F hF => core_val rfl hF (o_move (e9.trans h9)),
 fun ρz wz hE hA _ ⟨u2, u4, u5, _⟩ => gIf rfl rfl (yF rfl u2) fun gc F hF => core_val rfl hF (o_sub (gt gc u4) (gt gc u5) rfl),
 fun ρz wz hE hA _ ⟨u2, u6, _⟩ => gIf rfl rfl (yF rfl u2) fun gc F hF => core_val rfl hF (o_geq (gt gc u6) rfl rfl),
 fun ρz wz hE hA _ ⟨u2, u7, _⟩ => core_val rfl rfl (o_pick_or u2 rfl u7), trivial⟩ ?_))))))
        intro ρ22 w22 hN hf hr
        have h77 := hv hf 8 rfl rfl
        obtain ⟨h3, h4, h5, h6, h7, h8⟩ := k6 hr h3 h4 h5 h6 h7 h8 rfl
        obtain ⟨h9, h10, h11⟩ := k3 hr h9 h10 h11 rfl
        have Oo_O5 := O5
        have Oo_O6 := O6
        have Hf3 := Hf3.exn hN
        have Hf4 := Hf4.exn hN
        have hW := hW.trans hN
        have O5 := Oo_O5.exn hN
        have O6 := Oo_O6.exn hN
        refine WP.cond rfl h77 (fun hb => ?_) (fun hb => ?_)
        · have hF := (if_pos hb).symm.trans hF
          refine WP.exit (thenQ_exit (blockQ_hit ?_))
          exact ⟨x7, x8, x18, i64 (x19 + 1), x20, v5_2, v6_2, h3, h4, h5, h6, h7, h8, h9, h10, h11, Hf3, Hf4, O5, O6, hdd_O5_O6, hW, hF⟩
        have hF := (if_neg (Bool.eq_false_iff.1 hb)).symm.trans hF
        refine WP.skip (WP.seq ?_)
        obtain ⟨l, hl, hF⟩ := obind hF
        refine WP.region mixed [[], [], [1], [0, 2], [0, 3]] [[], [], [1], [0, 2], [3]] [[6], [11], [], [], []] [3] [] [val 78 (v6_2), val 79 (.int .i64 x12), (80, fun u wz => ∃ b, u = .slice (some ⟨b, 0, none⟩) 1 1 ∧ w22.heap.size ≤ b ∧ Mb wz b 3 (([x12]).flatMap (fun x : Int => [Value.int .i64 x]))), (81, fun u wz => Own w0.heap.size 3 1 (fun x : Int => [Value.int .i64 x]) wz u l ∧ ∀ b, u.ownBlock = some b → (v6_2.ownBlock = some b ∨ w22.heap.size ≤ b)), (6, fun u wz => Own w0.heap.size 3 1 (fun x : Int => [Value.int .i64 x]) wz u l ∧ ∀ b, u.ownBlock = some b → (v6_2.ownBlock = some b ∨ w22.heap.size ≤ b))] (fun b => Value.ownBlock v6_2 = some b) (by kernel_rfl) ⟨sV, sV, fun _ _ _ hE ⟨b, hz, hs, hM⟩ => ⟨b, hz, hs, hM.ext hE (fun hg => absurd (O6.lt hg).2 (Nat.not_lt.2 hs))⟩, fun _ _ _ hE ⟨hO, hf⟩ => ⟨hO.exn hE, hf⟩, fun _ _ _ hE ⟨hO, hf⟩ => ⟨hO.exn hE, hf⟩, trivial⟩ ⟨mE rfl rfl h6,
 mE rfl rfl h11,
 fun ρz wz hE hA _ ⟨u1, _⟩ => core_slice rfl rfl hE (o_buildSlice (build_parts1 u1) (bs_55_1 _ _)),
 fun ρz wz hE hA _ ⟨u0, ⟨bz2, hz2, hge2, hM2⟩, _⟩ => core_append (n := 1) (cells := fun x : Int => [Value.int .i64 x]) (B := w0.heap.size) (w0 := w22) rfl rfl (fun b hb => hb) u0 hz2 (fun _ => rfl) one_3 si_55 se_3 (by decide) (by decide) (O6.exn (hA rfl)) ⟨_, (Mb.rep (n := 1) (cells := fun x : Int => [Value.int .i64 x]) (hn := fun _ => rfl) (G := noG) hM2 rfl (Nat.le_of_ble_eq_true rfl) (fun h => h))⟩ hl (Nat.le_trans hW.size hE.size) hE.size (fun v1 w1 h1 h2 => ⟨h1, h2⟩),
 fun ρz wz hE hA _ ⟨⟨hO3, hfr3⟩, _⟩ => core_copy rfl rfl (o_assign rfl) ⟨hO3, hfr3⟩, trivial⟩ ?_
        intro ρ23 w23 hE hN hf hr
        obtain ⟨v6_4, h6⟩ : ∃ v, ρ23 6 = v := ⟨_, rfl⟩
        have hq6 : (fun u wz => Own w0.heap.size 3 1 (fun x : Int => [Value.int .i64 x]) wz u l ∧ ∀ b, u.ownBlock = some b → (v6_2.ownBlock = some b ∨ w22.heap.size ≤ b)) (ρ23 6) w23 := hf 4 rfl
        rw [h6] at hq6
        obtain ⟨hq6, hfr6⟩ := hq6
        obtain ⟨h3, h4, h5, h7, h8, h9⟩ := k6 hr h3 h4 h5 h7 h8 h9 rfl
        obtain ⟨h10, h11⟩ := k2 hr h10 h11 rfl
        have Oo_O5 := O5
        have Oo_O6 := O6
        have Hf3 : RepSl Span.R (gL [ownG v5_2, ownG v6_4]) w23 v3_ z := Hf3.mv hE (fun _ h => .inl (.inr (.inl h))) (fun b h => h.elim (fun h => .inl (.inl h)) (fun h => h.elim (fun h => (hfr6 _ h).elim (fun h => .inl (by have h := h; exact (.inr (.inl h)))) (fun h => .inr h)) (fun h => h.elim)))
        have Hf4 : RepSl Span.R (gL [ownG v5_2, ownG v6_4]) w23 v4_ z2 := Hf4.mv hE (fun _ h => .inl (.inr (.inl h))) (fun b h => h.elim (fun h => .inl (.inl h)) (fun h => h.elim (fun h => (hfr6 _ h).elim (fun h => .inl (by have h := h; exact (.inr (.inl h)))) (fun h => .inr h)) (fun h => h.elim)))
        have hW := Ext.own hW hE (fun b hb => (Oo_O6.lt hb).1)
        have O5 := Oo_O5.ext hE (fun b hb h => hdd_O5_O6 b hb h)
        have O6 := hq6
        have hdd_O5_O6 : ∀ b, Value.ownBlock v5_2 = some b → Value.ownBlock v6_4 ≠ some b := fun b h1 h2 => (hfr6 _ h2).elim (fun h => absurd h (hdd_O5_O6 b h1)) (fun h => absurd (Oo_O5.lt h1).2 (Nat.not_lt.2 h))
        refine WP.seq (WP.rb mixed [[], [0], [1]] [[5], [], []] [(82, v5_2), (83, .int .i64 (x7.length : Int)), (12, .int .i64 (x7.length : Int))] (by kernel_rfl) ⟨mE rfl rfl h5,
 fun ρz wz hE hA _ ⟨u0, _⟩ => core_val rfl rfl (o_len (u0.trans (Own.shape O5).choose_spec.choose_spec.1) len_32),
 aU rfl rfl rfl, trivial⟩ ?_)
        intro ρ24 w24 hN hf hr
        have h12 := hv hf 2 rfl rfl
        obtain ⟨h3, h4, h5, h6, h7, h8⟩ := k6 hr h3 h4 h5 h6 h7 h8 rfl
        obtain ⟨h9, h10, h11⟩ := k3 hr h9 h10 h11 rfl
        have Oo_O5 := O5
        have Oo_O6 := O6
        have Hf3 := Hf3.exn hN
        have Hf4 := Hf4.exn hN
        have hW := hW.trans hN
        have O5 := Oo_O5.exn hN
        have O6 := Oo_O6.exn hN
        refine WP.seq ?_
        obtain ⟨c3, hc3, hF⟩ := obind hF
        obtain ⟨y5, hy5, hc3⟩ := andB hc3
        obtain ⟨ay5, cy5, hvy5, hiy5, hAy5⟩ := RepSl.getFI (Own.rep (hn := fun _ => rfl) (G := noG) O5 (fun _ _ h => h)) hy5
        have hc3 := andE hc3
        refine WP.rb mixed [[], [0], [1], [2], [2], [2, 4], [2, 3, 5], [2, 6], [2, 7], [2], [2, 8, 9], [2, 10]] [[12], [], [], [5], [12], [], [], [], [], [11], [], []] [(84, .int .i64 (x7.length : Int)), (85, .bool (decide (0 < (x7.length : Int)))), (86, .bool (decide (0 < (x7.length : Int)))), (87, gv (decide (0 < (x7.length : Int))) v5_2), (88, gv (decide (0 < (x7.length : Int))) (.int .i64 (x7.length : Int))), (89, gv (decide (0 < (x7.length : Int))) (.int .i64 (i64 ((x7.length : Int) - 1)))), (90, gv (decide (0 < (x7.length : Int))) (.pointer (some (ay5.add (Int.toNat (i64 ((x7.length : Int) - 1)) * 2))))), (91, gv (decide (0 < (x7.length : Int))) (.pointer (some ((ay5.add (Int.toNat (i64 ((x7.length : Int) - 1)) * 2)).add 1)))), (92, gv (decide (0 < (x7.length : Int))) (.int .i64 y5.To)), (93, gv (decide (0 < (x7.length : Int))) (.int .i64 x12)), (94, gv (decide (0 < (x7.length : Int))) (.bool (y5.To == x12))), (95, .bool c3)] (by kernel_rfl) ⟨mE rfl rfl h12,
 fun ρz wz hE hA _ ⟨u0, _⟩ => core_val rfl rfl (o_gtr u0 rfl rfl),
 mU rfl rfl rfl,
 fun ρz wz hE hA ⟨e5, _⟩ ⟨u2, _⟩ => gIf rfl rfl (yT rfl u2) fun gc F hF => core_val rfl hF (o_move (e5.trans h5)),
 fun ρz wz hE hA ⟨e12, _⟩ ⟨u2, _⟩ => gIf rfl rfl (yT rfl u2) fun gc F hF => core_val rfl hF (o_move (e12.trans h12)),
 fun ρz wz hE hA _ ⟨u2, u4, _⟩ => gIf rfl rfl (yT rfl u2) fun gc F hF => core_val rfl hF (o_sub (gt gc u4) rfl rfl),
 fun ρz wz hE hA _ ⟨u2, u3, u5, _⟩ => gIf rfl rfl (yT rfl u2) fun gc F hF => core_val rfl hF (o_indexAddr ((gt gc u3).trans (hvy5 gc)) (gt gc u5) (ia_32 (hiy5 gc))),
 fun ρz wz hE hA _ ⟨u2, u6, _⟩ => gIf rfl rfl (yT rfl u2) fun gc F hF => core_val rfl hF (o_fieldAddr (gt gc u6) (fa_31_1 _ _)),
 fun ρz wz hE hA _ ⟨u2, u7, _⟩ => gIf rfl rfl (yT rfl u2) fun gc F hF => core_val rfl hF (o_load (gt gc u7) (run_load1 (lr_3 _ _) (CA.sub (((hAy5 gc).exn (hA rfl)).ca) 1 1))),
 fun ρz wz hE hA ⟨e11, _⟩ ⟨u2, _⟩ => gIf rfl rfl (yT rfl u2) fun gc F hF => core_val rfl hF (o_move (e11.trans h11)),
 fun ρz wz hE hA _ ⟨u2, u8, u9, _⟩ => gIf rfl rfl (yT rfl u2) fun gc F hF => core_val rfl hF (o_eql (gt gc u8) (gt gc u9) rfl),
 fun ρz wz hE hA _ ⟨u2, u10, _⟩ => core_valE rfl rfl (congrArg Value.bool hc3) (o_pick_and u2 u10 rfl), trivial⟩ ?_
        intro ρ25 w25 hN hf hr
        have h95 := hv hf 11 rfl rfl
        obtain ⟨h3, h4, h5, h6, h7, h8⟩ := k6 hr h3 h4 h5 h6 h7 h8 rfl
        obtain ⟨h9, h10, h11, h12⟩ := k4 hr h9 h10 h11 h12 rfl
        have Oo_O5 := O5
        have Oo_O6 := O6
        have Hf3 := Hf3.exn hN
        have Hf4 := Hf4.exn hN
        have hW := hW.trans hN
        have O5 := Oo_O5.exn hN
        have O6 := Oo_O6.exn hN
        refine WP.cond rfl h95 (fun hb => ?_) (fun hb => ?_)
        · have hF := (if_pos hb).symm.trans hF
          obtain ⟨y6, hy6, hF⟩ := obind hF
          obtain ⟨ay6, cy6, hvy6, hiy6, hAy6⟩ := RepSl.getF (Own.rep (hn := fun _ => rfl) (G := noG) O5 (fun _ _ h => h)) hy6
          refine WP.region mixed [[], [], [1], [], [3], [0, 2], [5], [4, 6]] [[], [], [1], [], [3], [0, 2], [5], [4, 6]] [[5], [12], [], [11], [], [], [], []] [7] [] [val 96 (v5_2), val 97 (.int .i64 (x7.length : Int)), val 98 (.int .i64 (i64 ((x7.length : Int) - 1))), val 99 (.int .i64 x12), val 100 (.int .i64 (i64 (x12 + 1))), val 101 (.pointer (some (ay6.add (Int.toNat (i64 ((x7.length : Int) - 1)) * 2)))), val 102 (.pointer (some ((ay6.add (Int.toNat (i64 ((x7.length : Int) - 1)) * 2)).add 1))), (102, fun _ wz => Own w0.heap.size 31 2 Span.cells wz v5_2 (setI x7 (i64 ((x7.length : Int) - 1)) ({ y6 with To := i64 (x12 + 1) } : Span)))] (fun b => Value.ownBlock v5_2 = some b) (by kernel_rfl) ⟨sV, sV, sV, sV, sV, sV, sV, fun _ _ _ hE h => h.exn hE, trivial⟩ ⟨mE rfl rfl h5,
 mE rfl rfl h12,
 fun ρz wz hE hA _ ⟨u1, _⟩ => core_val rfl rfl (o_sub u1 rfl rfl),
 mE rfl rfl h11,
 fun ρz wz hE hA _ ⟨u3, _⟩ => core_val rfl rfl (o_add u3 rfl rfl),
 fun ρz wz hE hA _ ⟨u0, u2, _⟩ => core_val rfl rfl (o_indexAddr (u0.trans hvy6) u2 (ia_32 hiy6)),
 fun ρz wz hE hA _ ⟨u5, _⟩ => core_val rfl rfl (o_fieldAddr u5 (fa_31_1 _ _)),
 fun ρz wz hE hA _ ⟨u4, u6, _⟩ => core_storeOwn (n := 2) (off := 1) (cells := Span.cells) (y1 := ({ y6 with To := i64 (x12 + 1) } : Span)) (vs := [Value.int .i64 (i64 (x12 + 1))]) rfl rfl (fun _ h => h) (fun _ => rfl) u6 hvy6 (Deep.add_add _ _ _) u4 (O5.exn (hA rfl)) hy6 (fun a w => st_3 _ a w) (Nat.le_of_ble_eq_true rfl) rfl (one_3 _), trivial⟩ ?_
          intro ρ26 w26 hE hN hf hr
          obtain ⟨h3, h4, h5, h6, h7, h8⟩ := k6 hr h3 h4 h5 h6 h7 h8 rfl
          obtain ⟨h9, h10, h11⟩ := k3 hr h9 h10 h11 rfl
          have Oo_O5 := O5
          have Oo_O6 := O6
          have Hf3 : RepSl Span.R (gL [ownG v5_2, ownG v6_4]) w26 v3_ z := Hf3.mv hE (fun _ h => .inl (.inl h)) (fun b h => h.elim (fun h => .inl (.inl h)) (fun h => h.elim (fun h => .inl (.inr (.inl h))) (fun h => h.elim)))
          have Hf4 : RepSl Span.R (gL [ownG v5_2, ownG v6_4]) w26 v4_ z2 := Hf4.mv hE (fun _ h => .inl (.inl h)) (fun b h => h.elim (fun h => .inl (.inl h)) (fun h => h.elim (fun h => .inl (.inr (.inl h))) (fun h => h.elim)))
          have hW := Ext.own hW hE (fun b hb => (Oo_O5.lt hb).1)
          have O5 := hf 7 rfl
          have O6 := Oo_O6.ext hE (fun b hb h => (fun b h1 h2 => hdd_O5_O6 b h2 h1) b hb h)
          exact ⟨setI x7 (i64 ((x7.length : Int) - 1)) ({ y6 with To := i64 (x12 + 1) } : Span), l, x18, i64 (x19 + 1), x20, v5_2, v6_4, h3, h4, h5, h6, h7, h8, h9, h10, h11, Hf3, Hf4, O5, O6, hdd_O5_O6, hW, hF⟩
        have hF := (if_neg (Bool.eq_false_iff.1 hb)).symm.trans hF
        obtain ⟨l2, hl2, hF⟩ := obind hF
        refine WP.region mixed [[], [], [], [2], [1, 3], [4], [0, 5], [0, 6]] [[], [], [], [2], [1, 3], [4], [0, 5], [6]] [[5], [11], [11], [], [], [], [], []] [6] [] [val 103 (v5_2), val 104 (.int .i64 x12), val 105 (.int .i64 x12), val 106 (.int .i64 (i64 (x12 + 1))), val 107 (Span.val (⟨x12, i64 (x12 + 1)⟩ : Span)), (108, fun u wz => ∃ b, u = .slice (some ⟨b, 0, none⟩) 1 1 ∧ w25.heap.size ≤ b ∧ Mb wz b 31 (([(⟨x12, i64 (x12 + 1)⟩ : Span)]).flatMap Span.cells)), (109, fun u wz => Own w0.heap.size 31 2 Span.cells wz u l2 ∧ ∀ b, u.ownBlock = some b → (v5_2.ownBlock = some b ∨ w25.heap.size ≤ b)), (5, fun u wz => Own w0.heap.size 31 2 Span.cells wz u l2 ∧ ∀ b, u.ownBlock = some b → (v5_2.ownBlock = some b ∨ w25.heap.size ≤ b))] (fun b => Value.ownBlock v5_2 = some b) (by kernel_rfl) ⟨sV, sV, sV, sV, sV, fun _ _ _ hE ⟨b, hz, hs, hM⟩ => ⟨b, hz, hs, hM.ext hE (fun hg => absurd (O5.lt hg).2 (Nat.not_lt.2 hs))⟩, fun _ _ _ hE ⟨hO, hf⟩ => ⟨hO.exn hE, hf⟩, fun _ _ _ hE ⟨hO, hf⟩ => ⟨hO.exn hE, hf⟩, trivial⟩ ⟨mE rfl rfl h5,
 mE rfl rfl h11,
 mE rfl rfl h11,
 fun ρz wz hE hA _ ⟨u2, _⟩ => core_val rfl rfl (o_add u2 rfl rfl),
 fun ρz wz hE hA _ ⟨u1, u3, _⟩ => core_val rfl rfl (o_build (build_parts2 u1 u3) (bd_31_0_1 _ _ _)),
 fun ρz wz hE hA _ ⟨u4, _⟩ => core_slice rfl rfl hE (o_buildSlice (build_parts1 u4) (bs_32_1 _ _)),
 fun ρz wz hE hA _ ⟨u0, ⟨bz5, hz5, hge5, hM5⟩, _⟩ => core_append (n := 2) (cells := Span.cells) (B := w0.heap.size) (w0 := w25) rfl rfl (fun b hb => hb) u0 hz5 (fun _ => rfl) one_31 si_32 se_31 (by decide) (by decide) (O5.exn (hA rfl)) ⟨_, (Mb.rep (n := 2) (cells := Span.cells) (hn := fun _ => rfl) (G := noG) hM5 rfl (Nat.le_of_ble_eq_true rfl) (fun h => h))⟩ hl2 (Nat.le_trans hW.size hE.size) hE.size (fun v1 w1 h1 h2 => ⟨h1, h2⟩),
 fun ρz wz hE hA _ ⟨⟨hO6, hfr6⟩, _⟩ => core_copy rfl rfl (o_assign rfl) ⟨hO6, hfr6⟩, trivial⟩ ?_
        intro ρ27 w27 hE hN hf hr
        obtain ⟨v5_4, h5⟩ : ∃ v, ρ27 5 = v := ⟨_, rfl⟩
        have hq5 : (fun u wz => Own w0.heap.size 31 2 Span.cells wz u l2 ∧ ∀ b, u.ownBlock = some b → (v5_2.ownBlock = some b ∨ w25.heap.size ≤ b)) (ρ27 5) w27 := hf 7 rfl
        rw [h5] at hq5
        obtain ⟨hq5, hfr5⟩ := hq5
        obtain ⟨h3, h4, h6, h7, h8, h9⟩ := k6 hr h3 h4 h6 h7 h8 h9 rfl
        obtain ⟨h10, h11⟩ := k2 hr h10 h11 rfl
        have Oo_O5 := O5
        have Oo_O6 := O6
        have Hf3 : RepSl Span.R (gL [ownG v5_4, ownG v6_4]) w27 v3_ z := Hf3.mv hE (fun _ h => .inl (.inl h)) (fun b h => h.elim (fun h => (hfr5 _ h).elim (fun h => .inl (by have h := h; exact (.inl h))) (fun h => .inr h)) (fun h => h.elim (fun h => .inl (.inr (.inl h))) (fun h => h.elim)))
        have Hf4 : RepSl Span.R (gL [ownG v5_4, ownG v6_4]) w27 v4_ z2 := Hf4.mv hE (fun _ h => .inl (.inl h)) (fun b h => h.elim (fun h => (hfr5 _ h).elim (fun h => .inl (by have h := h; exact (.inl h))) (fun h => .inr h)) (fun h => h.elim (fun h => .inl (.inr (.inl h))) (fun h => h.elim)))
        have hW := Ext.own hW hE (fun b hb => (Oo_O5.lt hb).1)
        have O6 := Oo_O6.ext hE (fun b hb h => (fun b h1 h2 => hdd_O5_O6 b h2 h1) b hb h)
        have O5 := hq5
        have hdd_O5_O6 : ∀ b, Value.ownBlock v5_4 = some b → Value.ownBlock v6_4 ≠ some b := fun b h1 h2 => (hfr5 _ h1).elim (fun h => absurd h2 (hdd_O5_O6 b h)) (fun h => absurd (Oo_O6.lt h2).2 (Nat.not_lt.2 h))
        exact ⟨l2, l, x18, i64 (x19 + 1), x20, v5_4, v6_4, h3, h4, h5, h6, h7, h8, h9, h10, h11, Hf3, Hf4, O5, O6, hdd_O5_O6, hW, hF⟩
      rintro ρ13 w13 ⟨x13, x14, x15, x16, x17, v5_3, v6_3, h3, h4, h5, h6, h7, h8, h9, h10, h11, Hf3, Hf4, O5, O6, hdd_O5_O6, hW, hF⟩
      rw [pensionref21_Payable_j] at hF
      refine WP.rv mixed [[], [0], [0, 1]] [[], [0], [1]] [[11], [], []] [(35, .int .i64 x12), (36, .int .i64 (i64 (x12 + 1))), (11, .int .i64 (i64 (x12 + 1)))] (by kernel_rfl) ⟨mE rfl rfl h11,
 fun ρz wz hE hA _ ⟨u0, _⟩ => core_val rfl rfl (o_add u0 rfl rfl),
 aU rfl rfl rfl, trivial⟩ ?_
      intro ρ14 w14 hN hf hr
      have h11 := hv hf 2 rfl rfl
      obtain ⟨h3, h4, h5, h6, h7, h8⟩ := k6 hr h3 h4 h5 h6 h7 h8 rfl
      obtain ⟨h9, h10⟩ := k2 hr h9 h10 rfl
      have Oo_O5 := O5
      have Oo_O6 := O6
      have Hf3 := Hf3.exn hN
      have Hf4 := Hf4.exn hN
      have hW := hW.trans hN
      have O5 := Oo_O5.exn hN
      have O6 := Oo_O6.exn hN
      exact ⟨x13, x14, x15, x16, x17, i64 (x12 + 1), v5_3, v6_3, h3, h4, h5, h6, h7, h8, h9, h10, h11, Hf3, Hf4, O5, O6, hdd_O5_O6, hW, (by first | exact hF | (rw [hrec_2]; exact hF))⟩
    have hF := (if_neg (Bool.eq_false_iff.1 hb)).symm.trans hF
    refine WP.exit (thenQ_exit (thenQ_exit (blockQ_hit (WP.rv mixed [[], [0], [0, 1]] [[], [0], [1]] [[10], [], []] [(21, .int .i64 x6), (22, .int .i64 (i64 (x6 + 1))), (10, .int .i64 (i64 (x6 + 1)))] (by kernel_rfl) ⟨mE rfl rfl h10,
 fun ρz wz hE hA _ ⟨u0, _⟩ => core_val rfl rfl (o_add u0 rfl rfl),
 aU rfl rfl rfl, trivial⟩ ?_))))
    intro ρ28 w28 hN hf hr
    have h10 := hv hf 2 rfl rfl
    obtain ⟨h3, h4, h5, h6, h7, h8⟩ := k6 hr h3 h4 h5 h6 h7 h8 rfl
    have h9 := (hr 9 rfl).trans h9
    have Oo_O5 := O5
    have Oo_O6 := O6
    have Hf3 := Hf3.exn hN
    have Hf4 := Hf4.exn hN
    have hW := hW.trans hN
    have O5 := Oo_O5.exn hN
    have O6 := Oo_O6.exn hN
    exact ⟨x7, x8, x9, x10, x11, i64 (x6 + 1), v5_2, v6_2, h3, h4, h5, h6, h7, h8, h9, h10, Hf3, Hf4, O5, O6, hdd_O5_O6, hW, (by first | exact hF | (rw [hrec_]; exact hF))⟩
  have hF := (if_neg (Bool.eq_false_iff.1 hb)).symm.trans hF
  refine WP.exit (thenQ_exit (thenQ_exit (blockQ_hit (WP.seq (WP.rb mixed [[], [0]] [[5], []] [(110, v5_), (2, v5_)] (by kernel_rfl) ⟨mE rfl rfl h5,
 aU rfl rfl rfl, trivial⟩ ?_)))))
  intro ρ29 w29 hN hf hr
  have h2 := hv hf 1 rfl rfl
  have Oo_O5 := O5
  have Oo_O6 := O6
  have hW := hW.trans hN
  have O2 := Oo_O5.exn hN
  refine WP.ret ?_
  show retQ Try.prog 111 Try.f18 (fun v w1 => Own w0.heap.size 31 2 Span.cells w1 v r ∧ Ext noG w0 w1) .ret ρ29 w29
  obtain rfl := Option.some.inj hF
  exact res1 rfl (by decide) h2 ⟨O2, hW⟩

set_option maxHeartbeats 4000000 in
theorem pensionlaw25_SicknessPayableAgrees_ok {w0 : World} (l_ : List pensionlaw25_Raw) (from_ : Int) (k_ : List pensionhand_Fact) {v_l_ : Value} (H_l_ : RepSl pensionlaw25_Raw.R noG w0 v_l_ l_) {v_k_ : Value} (H_k_ : RepSl pensionhand_Fact.R noG w0 v_k_ k_) {r : Bool} (hF : pensionlaw25_SicknessPayableAgrees l_ from_ k_ = some r) :
    Calls Try.prog 4 #[v_l_, .int .i64 from_, v_k_] w0 fun e w1 => e = .returned (.bool r) ∧ Ext noG w0 w1 := by
  refine (Calls.start (P := Try.prog) (args := [v_l_, .int .i64 from_, v_k_]) (R := fun v w1 => v = .bool r ∧ Ext noG w0 w1) (n := 30) (w := w0) Try.func4 rfl rfl (Nat.le_of_ble_eq_true rfl) (fun ρ hargs => ?_)).mono (fun e w1 ⟨v, he, hv, hE⟩ => ⟨hv ▸ he, hE⟩)
  have h0 := hargs 0 _ rfl
  have h1 := hargs 1 _ rfl
  have h2 := hargs 2 _ rfl
  have hW := Ext.refl noG w0
  obtain ⟨_, _, hs_H_l_, _, _⟩ := RepSl.shape H_l_
  have H_l_ := H_l_.start
  obtain ⟨_, _, hs_H_k_, _, _⟩ := RepSl.shape H_k_
  have H_k_ := H_k_.start
  rw [pensionlaw25_SicknessPayableAgrees] at hF
  refine WP.seq (WP.rb mixed [[]] [[]] [(6, .bool false)] (by kernel_rfl) ⟨aC rfl rfl (fun _ => rfl), trivial⟩ ?_)
  intro ρ1 w1 hN hf hr
  obtain ⟨h0, h1, h2⟩ := k3 hr h0 h1 h2 rfl
  have H_l_ := H_l_.exn hN
  have H_k_ := H_k_.exn hN
  have hW := hW.trans hN
  refine WP.seq ?_
  obtain ⟨z, hz, hF⟩ := obind hF
  refine WP.rg mixed [[], [], [0, 1], [2]] [[], [], [0, 1], [2]] [[0], [1], [], []] [val 9 (v_l_), val 10 (.int .i64 from_), (11, fun u wz => Own w0.heap.size 49 14 api_Fact.cells wz u z ∧ ∀ b, u.ownBlock = some b → w1.heap.size ≤ b), (7, fun u wz => Own w0.heap.size 49 14 api_Fact.cells wz u z ∧ ∀ b, u.ownBlock = some b → w1.heap.size ≤ b)] (by kernel_rfl) ⟨sV, sV, fun _ _ _ hE ⟨hO, hf⟩ => ⟨hO.exn hE, hf⟩, fun _ _ _ hE ⟨hO, hf⟩ => ⟨hO.exn hE, hf⟩, trivial⟩ ⟨mE rfl rfl h0,
 mE rfl rfl h1,
 fun ρz wz hE hA _ ⟨u0, u1, _⟩ => core_callR rfl (call_args2 u0 u1) cf_8 ((pensionlaw25_List_ok  _ _ (H_l_.exn (hA rfl)).no hz).mono (fun e w1 ⟨v, he, hE1, hO⟩ => ⟨v, he, hE1, hO.base (Nat.le_trans hW.size hE.size), fun b hb => Nat.le_trans hE.size (hO.lt hb).1⟩)),
 fun ρz wz hE hA _ ⟨⟨hO2, hfr2⟩, _⟩ => core_copy rfl rfl (o_assign rfl) ⟨hO2, hfr2⟩, trivial⟩ ?_
  intro ρ2 w2 hN hf hr
  obtain ⟨v7_, h7⟩ : ∃ v, ρ2 7 = v := ⟨_, rfl⟩
  have hq7 : (fun u wz => Own w0.heap.size 49 14 api_Fact.cells wz u z ∧ ∀ b, u.ownBlock = some b → w1.heap.size ≤ b) (ρ2 7) w2 := hf 3 rfl
  rw [h7] at hq7
  obtain ⟨hq7, hfr7⟩ := hq7
  have h2 := (hr 2 rfl).trans h2
  have H_k_ := H_k_.exn hN
  have hW := hW.trans hN
  have Hf7 : RepSl api_Fact.R noG w2 v7_ z := hq7.rep (fun _ _ h => h)
  obtain ⟨_, _, hs_Hf7, _, _⟩ := RepSl.shape Hf7
  refine WP.seq ?_
  obtain ⟨z2, hz2, hF⟩ := obind hF
  obtain ⟨z3, hz3, hF⟩ := obind hF
  refine WP.rg mixed [[], [0], [1], [2]] [[], [0], [1], [2]] [[2], [], [], []] [val 12 (v_k_), (13, fun u wz => Own w0.heap.size 49 14 api_Fact.cells wz u z2 ∧ ∀ b, u.ownBlock = some b → w2.heap.size ≤ b), (14, fun u wz => Own w0.heap.size 49 14 api_Fact.cells wz u z3 ∧ ∀ b, u.ownBlock = some b → w2.heap.size ≤ b), (8, fun u wz => Own w0.heap.size 49 14 api_Fact.cells wz u z3 ∧ ∀ b, u.ownBlock = some b → w2.heap.size ≤ b)] (by kernel_rfl) ⟨sV, fun _ _ _ hE ⟨hO, hf⟩ => ⟨hO.exn hE, hf⟩, fun _ _ _ hE ⟨hO, hf⟩ => ⟨hO.exn hE, hf⟩, fun _ _ _ hE ⟨hO, hf⟩ => ⟨hO.exn hE, hf⟩, trivial⟩ ⟨mE rfl rfl h2,
 fun ρz wz hE hA _ ⟨u0, _⟩ => core_callR rfl (call_args1 u0) cf_10 ((pensionhand_Facts_ok  _ (H_k_.exn (hA rfl)).no hz2).mono (fun e w1 ⟨v, he, hE1, hO⟩ => ⟨v, he, hE1, hO.base (Nat.le_trans hW.size hE.size), fun b hb => Nat.le_trans hE.size (hO.lt hb).1⟩)),
 fun ρz wz hE hA _ ⟨⟨hO1, hfr1⟩, _⟩ => core_callR rfl (call_args2 rfl rfl) cf_9 ((pensionref12_Of_ok  _ _ (hO1.rep (hn := fun _ => rfl) (G := noG) (fun _ _ h => h)).no hz3).mono (fun e w1 ⟨v, he, hE1, hO⟩ => ⟨v, he, hE1, hO.base (Nat.le_trans hW.size hE.size), fun b hb => Nat.le_trans hE.size (hO.lt hb).1⟩)),
 fun ρz wz hE hA _ ⟨⟨hO2, hfr2⟩, _⟩ => core_copy rfl rfl (o_assign rfl) ⟨hO2, hfr2⟩, trivial⟩ ?_
  intro ρ3 w3 hN hf hr
  obtain ⟨v8_, h8⟩ : ∃ v, ρ3 8 = v := ⟨_, rfl⟩
  have hq8 : (fun u wz => Own w0.heap.size 49 14 api_Fact.cells wz u z3 ∧ ∀ b, u.ownBlock = some b → w2.heap.size ≤ b) (ρ3 8) w3 := hf 3 rfl
  rw [h8] at hq8
  obtain ⟨hq8, hfr8⟩ := hq8
  have h7 := (hr 7 rfl).trans h7
  have Hf7 := Hf7.exn hN
  have hW := hW.trans hN
  have Hf8 : RepSl api_Fact.R noG w3 v8_ z3 := hq8.rep (fun _ _ h => h)
  obtain ⟨_, _, hs_Hf8, _, _⟩ := RepSl.shape Hf8
  refine WP.seq ?_
  obtain ⟨z4, hz4, hF⟩ := obind hF
  obtain ⟨c, hc, hF⟩ := obind hF
  obtain ⟨z5, hz5, hc⟩ := andB hc
  obtain ⟨z6, hz6, hc⟩ := andB hc
  obtain ⟨z7, hz7, hc⟩ := andB hc
  have hc := andE hc
  obtain ⟨c2, hc2, hF⟩ := obind hF
  obtain ⟨z8, hz8, hc2⟩ := andB hc2
  obtain ⟨z9, hz9, hc2⟩ := andB hc2
  obtain ⟨z10, hz10, hc2⟩ := andB hc2
  have hc2 := andE hc2
  refine WP.rg mixed [[], [0], [1], [1, 2], [1], [1, 4], [1, 3, 5], [1, 6], [7], [8], [8, 9], [8], [8, 11], [8, 10, 12], [8, 13], [14]] [[], [0], [1], [1, 2], [1], [1, 4], [1, 3, 5], [1, 6], [7], [8], [8, 9], [8], [8, 11], [8, 10, 12], [8, 13], [14]] [[], [], [7], [], [7], [], [], [], [], [8], [], [8], [], [], [], []] [val 15 (.bool z4), val 16 (.bool z4), val 17 (gv (z4) v7_), (18, fun u wz => (z4) = true → (fun u wz => Own w0.heap.size 31 2 Span.cells wz u z5 ∧ ∀ b, u.ownBlock = some b → w3.heap.size ≤ b) u wz), val 19 (gv (z4) v7_), (20, fun u wz => (z4) = true → (fun u wz => Own w0.heap.size 31 2 Span.cells wz u z6 ∧ ∀ b, u.ownBlock = some b → w3.heap.size ≤ b) u wz), val 21 (gv (z4) (.bool z7)), val 22 (.bool c), val 23 (.bool c), val 24 (gv (c) v8_), (25, fun u wz => (c) = true → (fun u wz => Own w0.heap.size 31 2 Span.cells wz u z8 ∧ ∀ b, u.ownBlock = some b → w3.heap.size ≤ b) u wz), val 26 (gv (c) v8_), (27, fun u wz => (c) = true → (fun u wz => Own w0.heap.size 31 2 Span.cells wz u z9 ∧ ∀ b, u.ownBlock = some b → w3.heap.size ≤ b) u wz), val 28 (gv (c) (.bool z10)), val 29 (.bool c2), val 6 (.bool c2)] (by kernel_rfl) ⟨sV, sV, sV, stabI (Φ := fun u wz => Own w0.heap.size 31 2 Span.cells wz u z5 ∧ ∀ b, u.ownBlock = some b → w3.heap.size ≤ b) (fun _ _ _ hE ⟨hO, hf⟩ => ⟨hO.exn hE, hf⟩), sV, stabI (Φ := fun u wz => Own w0.heap.size 31 2 Span.cells wz u z6 ∧ ∀ b, u.ownBlock = some b → w3.heap.size ≤ b) (fun _ _ _ hE ⟨hO, hf⟩ => ⟨hO.exn hE, hf⟩), sV, sV, sV, sV, stabI (Φ := fun u wz => Own w0.heap.size 31 2 Span.cells wz u z8 ∧ ∀ b, u.ownBlock = some b → w3.heap.size ≤ b) (fun _ _ _ hE ⟨hO, hf⟩ => ⟨hO.exn hE, hf⟩), sV, stabI (Φ := fun u wz => Own w0.heap.size 31 2 Span.cells wz u z9 ∧ ∀ b, u.ownBlock = some b → w3.heap.size ≤ b) (fun _ _ _ hE ⟨hO, hf⟩ => ⟨hO.exn hE, hf⟩), sV, sV, sV, trivial⟩ ⟨fun ρz wz hE hA _ _ => core_call rfl call_args0 cf_11 (pensionlaw25_awake_ok    hz4),
 mU rfl rfl rfl,
 fun ρz wz hE hA ⟨e7, _⟩ ⟨u1, _⟩ => gIf rfl rfl (yT rfl u1) fun gc F hF => core_val rfl hF (o_move (e7.trans h7)),
 fun ρz wz hE hA _ ⟨u1, u2, _⟩ => gIfR rfl (yT rfl u1) fun gc F hF => core_callR hF (call_args1 (gt gc u2)) cf_17 ((sickness_Payable_ok  _ (Hf7.exn (hA rfl)).no (hz5 gc)).mono (fun e w1 ⟨v, he, hE1, hO⟩ => ⟨v, he, hE1, hO.base (Nat.le_trans hW.size hE.size), fun b hb => Nat.le_trans hE.size (hO.lt hb).1⟩)),
 fun ρz wz hE hA ⟨e7, _⟩ ⟨u1, _⟩ => gIf rfl rfl (yT rfl u1) fun gc F hF => core_val rfl hF (o_move (e7.trans h7)),
 fun ρz wz hE hA _ ⟨u1, u4, _⟩ => gIfR rfl (yT rfl u1) fun gc F hF => core_callR hF (call_args1 (gt gc u4)) cf_18 ((pensionref21_Payable_ok  _ (Hf7.exn (hA rfl)).no (hz6 gc)).mono (fun e w1 ⟨v, he, hE1, hO⟩ => ⟨v, he, hE1, hO.base (Nat.le_trans hW.size hE.size), fun b hb => Nat.le_trans hE.size (hO.lt hb).1⟩)),
 fun ρz wz hE hA _ ⟨u1, u3, u5, _⟩ => gIf rfl rfl (yT rfl u1) fun gc F hF => let ⟨hO3, hfr3⟩ := u3 gc; let ⟨hO5, hfr5⟩ := u5 gc; core_call hF (call_args2 rfl rfl) cf_12 (pensionplain_Same_of_api_Span_ok  _ _ (hO3.rep (hn := fun _ => rfl) (G := noG) (fun _ _ h => h)).no (hO5.rep (hn := fun _ => rfl) (G := noG) (fun _ _ h => h)).no (hz7 gc)),
 fun ρz wz hE hA _ ⟨u1, u6, _⟩ => core_valE rfl rfl (congrArg Value.bool hc) (o_pick_and u1 u6 rfl),
 mU rfl rfl rfl,
 fun ρz wz hE hA ⟨e8, _⟩ ⟨u8, _⟩ => gIf rfl rfl (yT rfl u8) fun gc F hF => core_val rfl hF (o_move (e8.trans h8)),
 fun ρz wz hE hA _ ⟨u8, u9, _⟩ => gIfR rfl (yT rfl u8) fun gc F hF => core_callR hF (call_args1 (gt gc u9)) cf_17 ((sickness_Payable_ok  _ (Hf8.exn (hA rfl)).no (hz8 gc)).mono (fun e w1 ⟨v, he, hE1, hO⟩ => ⟨v, he, hE1, hO.base (Nat.le_trans hW.size hE.size), fun b hb => Nat.le_trans hE.size (hO.lt hb).1⟩)),
 fun ρz wz hE hA ⟨e8, _⟩ ⟨u8, _⟩ => gIf rfl rfl (yT rfl u8) fun gc F hF => core_val rfl hF (o_move (e8.trans h8)),
 fun ρz wz hE hA _ ⟨u8, u11, _⟩ => gIfR rfl (yT rfl u8) fun gc F hF => core_callR hF (call_args1 (gt gc u11)) cf_18 ((pensionref21_Payable_ok  _ (Hf8.exn (hA rfl)).no (hz9 gc)).mono (fun e w1 ⟨v, he, hE1, hO⟩ => ⟨v, he, hE1, hO.base (Nat.le_trans hW.size hE.size), fun b hb => Nat.le_trans hE.size (hO.lt hb).1⟩)),
 fun ρz wz hE hA _ ⟨u8, u10, u12, _⟩ => gIf rfl rfl (yT rfl u8) fun gc F hF => let ⟨hO10, hfr10⟩ := u10 gc; let ⟨hO12, hfr12⟩ := u12 gc; core_call hF (call_args2 rfl rfl) cf_12 (pensionplain_Same_of_api_Span_ok  _ _ (hO10.rep (hn := fun _ => rfl) (G := noG) (fun _ _ h => h)).no (hO12.rep (hn := fun _ => rfl) (G := noG) (fun _ _ h => h)).no (hz10 gc)),
 fun ρz wz hE hA _ ⟨u8, u13, _⟩ => core_valE rfl rfl (congrArg Value.bool hc2) (o_pick_and u8 u13 rfl),
 aU rfl rfl rfl, trivial⟩ ?_
  intro ρ4 w4 hN hf hr
  have h6 : ρ4 6 = .bool c2 := hf 15 rfl
  have hW := hW.trans hN
  refine WP.ret ?_
  show retQ Try.prog 30 Try.f4 (fun v w1 => v = .bool r ∧ Ext noG w0 w1) .ret ρ4 w4
  obtain rfl := Option.some.inj hF
  exact res1 rfl (by decide) h6 ⟨rfl, hW⟩

set_option maxHeartbeats 4000000 in
theorem pensionref1_Normal_ok {w0 : World} (l_ : List Span) {v_l_ : Value} (H_l_ : RepSl Span.R noG w0 v_l_ l_) {r : Bool} (hF : pensionref1_Normal l_ = some r) :
    Calls Try.prog 19 #[v_l_] w0 fun e w1 => e = .returned (.bool r) ∧ Ext noG w0 w1 := by
  refine (Calls.start (P := Try.prog) (args := [v_l_]) (R := fun v w1 => v = .bool r ∧ Ext noG w0 w1) (n := 55) (w := w0) Try.func19 rfl rfl (Nat.le_of_ble_eq_true rfl) (fun ρ hargs => ?_)).mono (fun e w1 ⟨v, he, hv, hE⟩ => ⟨hv ▸ he, hE⟩)
  have h0 := hargs 0 _ rfl
  have hW := Ext.refl noG w0
  obtain ⟨_, _, hs_H_l_, _, _⟩ := RepSl.shape H_l_
  have H_l_ := H_l_.start
  rw [pensionref1_Normal] at hF
  refine WP.seq (WP.rb mixed [[]] [[]] [(2, .bool false)] (by kernel_rfl) ⟨aC rfl rfl (fun _ => rfl), trivial⟩ ?_)
  intro ρ1 w1 hN hf hr
  have h0 := (hr 0 rfl).trans h0
  have H_l_ := H_l_.exn hN
  have hW := hW.trans hN
  refine WP.seq (WP.seq (WP.rb mixed [[]] [[]] [(3, .int .i64 0)] (by kernel_rfl) ⟨aC rfl rfl (fun _ => rfl), trivial⟩ ?_))
  intro ρ2 w2 hN hf hr
  have h3 := hv hf 0 rfl rfl
  have h0 := (hr 0 rfl).trans h0
  have H_l_ := H_l_.exn hN
  have hW := hW.trans hN
  refine WP.block (WP.loop (fun k_ ρ w => ∃ i_ : Int, ρ 0 = v_l_ ∧ ρ 3 = .int .i64 i_ ∧ RepSl Span.R (gfr noG w0) w v_l_ l_ ∧ Ext noG w0 w ∧ loopC k_ (pensionref1_Normal_l l_) i_ = some r) FU ⟨0, h0, h3, H_l_, hW, hF⟩ (fun _ _ h => by obtain ⟨_, _, _, _, _, h⟩ := h; cases h) ?_)
  rintro k_ ρ3 w3 ⟨i_, h0, h3, H_l_, hW, hF⟩
  have hF : pensionref1_Normal_l l_ (loopC k_ (pensionref1_Normal_l l_)) i_ = some r := hF
  generalize hrec_ : loopC k_ (pensionref1_Normal_l l_) = rec_ at hF
  rw [pensionref1_Normal_l] at hF
  refine WP.seq (WP.seq (WP.rb mixed [[], [], [1], [0, 2]] [[3], [0], [], []] [(4, .int .i64 i_), (5, v_l_), (6, .int .i64 (l_.length : Int)), (7, .bool (decide (i_ < (l_.length : Int))))] (by kernel_rfl) ⟨mE rfl rfl h3,
 mE rfl rfl h0,
 fun ρz wz hE hA _ ⟨u1, _⟩ => core_val rfl rfl (o_len (u1.trans hs_H_l_) len_32),
 fun ρz wz hE hA _ ⟨u0, u2, _⟩ => core_val rfl rfl (o_lss u0 u2 rfl), trivial⟩ ?_))
  intro ρ4 w4 hN hf hr
  have h7 := hv hf 3 rfl rfl
  obtain ⟨h0, h3⟩ := k2 hr h0 h3 rfl
  have H_l_ := H_l_.exn hN
  have hW := hW.trans hN
  refine WP.cond rfl h7 (fun hb => ?_) (fun hb => ?_)
  · have hF := (if_pos hb).symm.trans hF
    refine WP.skip (WP.seq (WP.block (WP.seq ?_)))
    obtain ⟨y, hy, hF⟩ := obind hF
    obtain ⟨ay, cy, hvy, hiy, hAy⟩ := RepSl.getF H_l_ hy
    obtain ⟨c, hc, hF⟩ := obind hF
    obtain ⟨y2, hy2, hc⟩ := orB hc
    obtain ⟨ay2, cy2, hvy2, hiy2, hAy2⟩ := RepSl.getFI H_l_ hy2
    obtain ⟨y3, hy3, hc⟩ := orB hc
    obtain ⟨ay3, cy3, hvy3, hiy3, hAy3⟩ := RepSl.getFI H_l_ hy3
    have hc := orE hc
    obtain ⟨c2, hc2, hF⟩ := obind hF
    obtain ⟨y4, hy4, hc2⟩ := orB hc2
    obtain ⟨ay4, cy4, hvy4, hiy4, hAy4⟩ := RepSl.getFI H_l_ hy4
    have hc2 := orE hc2
    obtain ⟨c4, hc4, hF⟩ := obind hF
    obtain ⟨c3, hc3, hc4⟩ := orB hc4
    obtain ⟨y5, hy5, hc3⟩ := andBI hc3
    obtain ⟨ay5, cy5, hvy5, hiy5, hAy5⟩ := RepSl.getFI H_l_ hy5
    obtain ⟨y6, hy6, hc3⟩ := andBI hc3
    obtain ⟨ay6, cy6, hvy6, hiy6, hAy6⟩ := RepSl.getFI H_l_ hy6
    have hc3 := andEI hc3
    have hc4 := orE hc4
    refine WP.rb mixed [[], [], [0, 1], [2], [3], [4], [5], [6], [6], [6, 7, 8], [6, 9], [6, 10], [6], [6], [6, 12, 13], [6, 14], [6, 15], [6, 11, 16], [6, 17], [18], [19], [19], [19, 20, 21], [19, 22], [19, 23], [19, 24], [19, 25], [26], [27], [27, 28], [27, 29], [30], [30], [30, 32], [30, 31, 33], [30, 34], [30, 35], [30], [30], [30, 37, 38], [30, 39], [30, 40], [30, 36, 41], [27, 30, 42], [27, 43]] [[0], [3], [], [], [], [], [], [0], [3], [], [], [], [0], [3], [], [], [], [], [], [], [0], [3], [], [], [], [], [], [], [3], [], [], [0], [3], [], [], [], [], [0], [3], [], [], [], [], [], []] [(10, v_l_), (11, .int .i64 i_), (12, .pointer (some (ay.add (Int.toNat i_ * 2)))), (13, .pointer (some ((ay.add (Int.toNat i_ * 2)).add 0))), (14, .int .i64 y.From), (15, .bool (decide (y.From < 0))), (16, .bool (decide (y.From < 0))), (17, gv (!(decide (y.From < 0))) v_l_), (18, gv (!(decide (y.From < 0))) (.int .i64 i_)), (19, gv (!(decide (y.From < 0))) (.pointer (some (ay2.add (Int.toNat i_ * 2))))), (20, gv (!(decide (y.From < 0))) (.pointer (some ((ay2.add (Int.toNat i_ * 2)).add 0)))), (21, gv (!(decide (y.From < 0))) (.int .i64 y2.From)), (22, gv (!(decide (y.From < 0))) v_l_), (23, gv (!(decide (y.From < 0))) (.int .i64 i_)), (24, gv (!(decide (y.From < 0))) (.pointer (some (ay3.add (Int.toNat i_ * 2))))), (25, gv (!(decide (y.From < 0))) (.pointer (some ((ay3.add (Int.toNat i_ * 2)).add 1)))), (26, gv (!(decide (y.From < 0))) (.int .i64 y3.To)), (27, gv (!(decide (y.From < 0))) (.bool (decide (y3.To ≤ y2.From)))), (28, .bool c), (29, .bool c), (30, gv (!c) v_l_), (31, gv (!c) (.int .i64 i_)), (32, gv (!c) (.pointer (some (ay4.add (Int.toNat i_ * 2))))), (33, gv (!c) (.pointer (some ((ay4.add (Int.toNat i_ * 2)).add 1)))), (34, gv (!c) (.int .i64 y4.To)), (35, gv (!c) (.bool (decide (73049 < y4.To)))), (36, .bool c2), (37, .bool c2), (38, gv (!c2) (.int .i64 i_)), (39, gv (!c2) (.bool (decide (0 < i_)))), (40, gv (!c2) (.bool (decide (0 < i_)))), (41, gv ((!c2) && (decide (0 < i_))) v_l_), (42, gv ((!c2) && (decide (0 < i_))) (.int .i64 i_)), (43, gv ((!c2) && (decide (0 < i_))) (.int .i64 (i64 (i_ - 1)))), (44, gv ((!c2) && (decide (0 < i_))) (.pointer (some (ay5.add (Int.toNat (i64 (i_ - 1)) * 2))))), (45, gv ((!c2) && (decide (0 < i_))) (.pointer (some ((ay5.add (Int.toNat (i64 (i_ - 1)) * 2)).add 1)))), (46, gv ((!c2) && (decide (0 < i_))) (.int .i64 y5.To)), (47, gv ((!c2) && (decide (0 < i_))) v_l_), (48, gv ((!c2) && (decide (0 < i_))) (.int .i64 i_)), (49, gv ((!c2) && (decide (0 < i_))) (.pointer (some (ay6.add (Int.toNat i_ * 2))))), (50, gv ((!c2) && (decide (0 < i_))) (.pointer (some ((ay6.add (Int.toNat i_ * 2)).add 0)))), (51, gv ((!c2) && (decide (0 < i_))) (.int .i64 y6.From)), (52, gv ((!c2) && (decide (0 < i_))) (.bool (decide (y6.From ≤ y5.To)))), (53, gv (!c2) (.bool c3)), (54, .bool c4)] (by kernel_rfl) ⟨mE rfl rfl h0,
 mE rfl rfl h3,
 fun ρz wz hE hA _ ⟨u0, u1, _⟩ => core_val rfl rfl (o_indexAddr (u0.trans hvy) u1 (ia_32 hiy)),
 fun ρz wz hE hA _ ⟨u2, _⟩ => core_val rfl rfl (o_fieldAddr u2 (fa_31_0 _ _)),
 fun ρz wz hE hA _ ⟨u3, _⟩ => core_val rfl rfl (o_load u3 (run_load1 (lr_3 _ _) (CA.sub ((hAy.exn (hA rfl)).ca) 0 1))),
 fun ρz wz hE hA _ ⟨u4, _⟩ => core_val rfl rfl (o_lss u4 rfl rfl),
 mU rfl rfl rfl,
 fun ρz wz hE hA ⟨e0, _⟩ ⟨u6, _⟩ => gIf rfl rfl (yF rfl u6) fun gc F hF => core_val rfl hF (o_move (e0.trans h0)),
 fun ρz wz hE hA ⟨e3, _⟩ ⟨u6, _⟩ => gIf rfl rfl (yF rfl u6) fun gc F hF => core_val rfl hF (o_move (e3.trans h3)),
 fun ρz wz hE hA _ ⟨u6, u7, u8, _⟩ => gIf rfl rfl (yF rfl u6) fun gc F hF => core_val rfl hF (o_indexAddr ((gt gc u7).trans (hvy2 gc)) (gt gc u8) (ia_32 (hiy2 gc))),
 fun ρz wz hE hA _ ⟨u6, u9, _⟩ => gIf rfl rfl (yF rfl u6) fun gc F hF => core_val rfl hF (o_fieldAddr (gt gc u9) (fa_31_0 _ _)),
 fun ρz wz hE hA _ ⟨u6, u10, _⟩ => gIf rfl rfl (yF rfl u6) fun gc F hF => core_val rfl hF (o_load (gt gc u10) (run_load1 (lr_3 _ _) (CA.sub (((hAy2 gc).exn (hA rfl)).ca) 0 1))),
 fun ρz wz hE hA ⟨e0, _⟩ ⟨u6, _⟩ => gIf rfl rfl (yF rfl u6) fun gc F hF => core_val rfl hF (o_move (e0.trans h0)),
 fun ρz wz hE hA ⟨e3, _⟩ ⟨u6, _⟩ => gIf rfl rfl (yF rfl u6) fun gc F hF => core_val rfl hF (o_move (e3.trans h3)),
 fun ρz wz hE hA _ ⟨u6, u12, u13, _⟩ => gIf rfl rfl (yF rfl u6) fun gc F hF => core_val rfl hF (o_indexAddr ((gt gc u12).trans (hvy3 gc)) (gt gc u13) (ia_32 (hiy3 gc))),
 fun ρz wz hE hA _ ⟨u6, u14, _⟩ => gIf rfl rfl (yF rfl u6) fun gc F hF => core_val rfl hF (o_fieldAddr (gt gc u14) (fa_31_1 _ _)),
 fun ρz wz hE hA _ ⟨u6, u15, _⟩ => gIf rfl rfl (yF rfl u6) fun gc F hF => core_val rfl hF (o_load (gt gc u15) (run_load1 (lr_3 _ _) (CA.sub (((hAy3 gc).exn (hA rfl)).ca) 1 1))),
 fun ρz wz hE hA _ ⟨u6, u11, u16, _⟩ => gIf rfl rfl (yF rfl u6) fun gc F hF => core_val rfl hF (o_geq (gt gc u11) (gt gc u16) rfl),
 fun ρz wz hE hA _ ⟨u6, u17, _⟩ => core_valE rfl rfl (congrArg Value.bool hc) (o_pick_or u6 rfl u17),
 mU rfl rfl rfl,
 fun ρz wz hE hA ⟨e0, _⟩ ⟨u19, _⟩ => gIf rfl rfl (yF rfl u19) fun gc F hF => core_val rfl hF (o_move (e0.trans h0)),
 fun ρz wz hE hA ⟨e3, _⟩ ⟨u19, _⟩ => gIf rfl rfl (yF rfl u19) fun gc F hF => core_val rfl hF (o_move (e3.trans h3)),
 fun ρz wz hE hA _ ⟨u19, u20, u21, _⟩ => gIf rfl rfl (yF rfl u19) fun gc F hF => core_val rfl hF (o_indexAddr ((gt gc u20).trans (hvy4 gc)) (gt gc u21) (ia_32 (hiy4 gc))),
 fun ρz wz hE hA _ ⟨u19, u22, _⟩ => gIf rfl rfl (yF rfl u19) fun gc F hF => core_val rfl hF (o_fieldAddr (gt gc u22) (fa_31_1 _ _)),
 fun ρz wz hE hA _ ⟨u19, u23, _⟩ => gIf rfl rfl (yF rfl u19) fun gc F hF => core_val rfl hF (o_load (gt gc u23) (run_load1 (lr_3 _ _) (CA.sub (((hAy4 gc).exn (hA rfl)).ca) 1 1))),
 fun ρz wz hE hA _ ⟨u19, u24, _⟩ => gIf rfl rfl (yF rfl u19) fun gc F hF => core_val rfl hF (o_gtr (gt gc u24) rfl rfl),
 fun ρz wz hE hA _ ⟨u19, u25, _⟩ => core_valE rfl rfl (congrArg Value.bool hc2) (o_pick_or u19 rfl u25),
 mU rfl rfl rfl,
 fun ρz wz hE hA ⟨e3, _⟩ ⟨u27, _⟩ => gIf rfl rfl (yF rfl u27) fun gc F hF => core_val rfl hF (o_move (e3.trans h3)),
 fun ρz wz hE hA _ ⟨u27, u28, _⟩ => gIf rfl rfl (yF rfl u27) fun gc F hF => core_val rfl hF (o_gtr (gt gc u28) rfl rfl),
 fun ρz wz hE hA _ ⟨u27, u29, _⟩ => gIf rfl rfl (yF rfl u27) fun gc F hF => core_val rfl hF (o_move (gt gc u29)),
 fun ρz wz hE hA ⟨e0, _⟩ ⟨u30, _⟩ => gIf rfl rfl (yTG rfl u30) fun gc F hF => core_val rfl hF (o_move (e0.trans h0)),
 fun ρz wz hE hA ⟨e3, _⟩ ⟨u30, _⟩ => gIf rfl rfl (yTG rfl u30) fun gc F hF => core_val rfl hF (o_move (e3.trans h3)),
 fun ρz wz hE hA _ ⟨u30, u32, _⟩ => gIf rfl rfl (yTG rfl u30) fun gc F hF => core_val rfl hF (o_sub (gt gc u32) rfl rfl),
 fun ρz wz hE hA _ ⟨u30, u31, u33, _⟩ => gIf rfl rfl (yTG rfl u30) fun gc F hF => core_val rfl hF (o_indexAddr ((gt gc u31).trans (hvy5 gc)) (gt gc u33) (ia_32 (hiy5 gc))),
 fun ρz wz hE hA _ ⟨u30, u34, _⟩ => gIf rfl rfl (yTG rfl u30) fun gc F hF => core_val rfl hF (o_fieldAddr (gt gc u34) (fa_31_1 _ _)),
 fun ρz wz hE hA _ ⟨u30, u35, _⟩ => gIf rfl rfl (yTG rfl u30) fun gc F hF => core_val rfl hF (o_load (gt gc u35) (run_load1 (lr_3 _ _) (CA.sub (((hAy5 gc).exn (hA rfl)).ca) 1 1))),
 fun ρz wz hE hA ⟨e0, _⟩ ⟨u30, _⟩ => gIf rfl rfl (yTG rfl u30) fun gc F hF => core_val rfl hF (o_move (e0.trans h0)),
 fun ρz wz hE hA ⟨e3, _⟩ ⟨u30, _⟩ => gIf rfl rfl (yTG rfl u30) fun gc F hF => core_val rfl hF (o_move (e3.trans h3)),
 fun ρz wz hE hA _ ⟨u30, u37, u38, _⟩ => gIf rfl rfl (yTG rfl u30) fun gc F hF => core_val rfl hF (o_indexAddr ((gt gc u37).trans (hvy6 gc)) (gt gc u38) (ia_32 (hiy6 gc))),
 fun ρz wz hE hA _ ⟨u30, u39, _⟩ => gIf rfl rfl (yTG rfl u30) fun gc F hF => core_val rfl hF (o_fieldAddr (gt gc u39) (fa_31_0 _ _)),
 fun ρz wz hE hA _ ⟨u30, u40, _⟩ => gIf rfl rfl (yTG rfl u30) fun gc F hF => core_val rfl hF (o_load (gt gc u40) (run_load1 (lr_3 _ _) (CA.sub (((hAy6 gc).exn (hA rfl)).ca) 0 1))),
 fun ρz wz hE hA _ ⟨u30, u36, u41, _⟩ => gIf rfl rfl (yTG rfl u30) fun gc F hF => core_val rfl hF (o_geq (gt gc u36) (gt gc u41) rfl),
 fun ρz wz hE hA _ ⟨u27, u30, u42, _⟩ => gIf rfl rfl (yF rfl u27) fun gc F hF => core_valE rfl hF (congrArg Value.bool (hc3 gc)) (o_pick_and (gt gc u30) (gr gc u42) rfl),
 fun ρz wz hE hA _ ⟨u27, u43, _⟩ => core_valE rfl rfl (congrArg Value.bool hc4) (o_pick_or u27 rfl u43), trivial⟩ ?_
    intro ρ5 w5 hN hf hr
    have h54 := hv hf 44 rfl rfl
    obtain ⟨h0, h3⟩ := k2 hr h0 h3 rfl
    have H_l_ := H_l_.exn hN
    have hW := hW.trans hN
    refine WP.cond rfl h54 (fun hb => ?_) (fun hb => ?_)
    · have hF := (if_pos hb).symm.trans hF
      refine WP.seq (WP.rb mixed [[]] [[]] [(2, .bool false)] (by kernel_rfl) ⟨aC rfl rfl (fun _ => rfl), trivial⟩ ?_)
      intro ρ6 w6 hN hf hr
      have h2 := hv hf 0 rfl rfl
      have hW := hW.trans hN
      refine WP.ret ?_
      show retQ Try.prog 55 Try.f19 (fun v w1 => v = .bool r ∧ Ext noG w0 w1) .ret ρ6 w6
      obtain rfl := Option.some.inj hF
      exact res1 rfl (by decide) h2 ⟨rfl, hW⟩
    have hF := (if_neg (Bool.eq_false_iff.1 hb)).symm.trans hF
    refine WP.skip (WP.rv mixed [[], [0], [0, 1]] [[], [0], [1]] [[3], [], []] [(8, .int .i64 i_), (9, .int .i64 (i64 (i_ + 1))), (3, .int .i64 (i64 (i_ + 1)))] (by kernel_rfl) ⟨mE rfl rfl h3,
 fun ρz wz hE hA _ ⟨u0, _⟩ => core_val rfl rfl (o_add u0 rfl rfl),
 aU rfl rfl rfl, trivial⟩ ?_)
    intro ρ7 w7 hN hf hr
    have h3 := hv hf 2 rfl rfl
    have h0 := (hr 0 rfl).trans h0
    have H_l_ := H_l_.exn hN
    have hW := hW.trans hN
    exact ⟨i64 (i_ + 1), h0, h3, H_l_, hW, (by first | exact hF | (rw [hrec_]; exact hF))⟩
  have hF := (if_neg (Bool.eq_false_iff.1 hb)).symm.trans hF
  refine WP.exit (thenQ_exit (thenQ_exit (blockQ_hit (WP.seq (WP.rb mixed [[]] [[]] [(2, .bool true)] (by kernel_rfl) ⟨aC rfl rfl (fun _ => rfl), trivial⟩ ?_)))))
  intro ρ8 w8 hN hf hr
  have h2 := hv hf 0 rfl rfl
  have hW := hW.trans hN
  refine WP.ret ?_
  show retQ Try.prog 55 Try.f19 (fun v w1 => v = .bool r ∧ Ext noG w0 w1) .ret ρ8 w8
  obtain rfl := Option.some.inj hF
  exact res1 rfl (by decide) h2 ⟨rfl, hW⟩

set_option maxHeartbeats 4000000 in
theorem pensionref1_Subtract_ok {w0 : World} (a_ : List Span) (b_ : List Span) {v_a_ : Value} (H_a_ : RepSl Span.R noG w0 v_a_ a_) {v_b_ : Value} (H_b_ : RepSl Span.R noG w0 v_b_ b_) {r : (List Span)} (hF : pensionref1_Subtract a_ b_ = some r) :
    Calls Try.prog 20 #[v_a_, v_b_] w0 fun e w1 => ∃ v, e = .returned v ∧ Ext noG w0 w1 ∧ Own w0.heap.size 31 2 Span.cells w1 v r := by
  refine (Calls.start (P := Try.prog) (args := [v_a_, v_b_]) (R := fun v w1 => Own w0.heap.size 31 2 Span.cells w1 v r ∧ Ext noG w0 w1) (n := 8) (w := w0) Try.func20 rfl rfl (Nat.le_of_ble_eq_true rfl) (fun ρ hargs => ?_)).mono (fun e w1 ⟨v, he, hv, hE⟩ => ⟨v, he, hE, hv⟩)
  have h0 := hargs 0 _ rfl
  have h1 := hargs 1 _ rfl
  have hW := Ext.refl noG w0
  obtain ⟨_, _, hs_H_a_, _, _⟩ := RepSl.shape H_a_
  have H_a_ := H_a_.start
  obtain ⟨_, _, hs_H_b_, _, _⟩ := RepSl.shape H_b_
  have H_b_ := H_b_.start
  rw [pensionref1_Subtract] at hF
  refine WP.seq (WP.rb mixed [[]] [[]] [(4, .slice none 0 0)] (by kernel_rfl) ⟨aC rfl rfl (fun _ => rfl), trivial⟩ ?_)
  intro ρ1 w1 hN hf hr
  obtain ⟨h0, h1⟩ := k2 hr h0 h1 rfl
  have H_a_ := H_a_.exn hN
  have H_b_ := H_b_.exn hN
  have hW := hW.trans hN
  refine WP.seq ?_
  obtain ⟨z, hz, hF⟩ := obind hF
  refine WP.rg mixed [[], [], [0, 1], [2]] [[], [], [0, 1], [2]] [[0], [1], [], []] [val 5 (v_a_), val 6 (v_b_), (7, fun u wz => Own w0.heap.size 31 2 Span.cells wz u z ∧ ∀ b, u.ownBlock = some b → w1.heap.size ≤ b), (4, fun u wz => Own w0.heap.size 31 2 Span.cells wz u z ∧ ∀ b, u.ownBlock = some b → w1.heap.size ≤ b)] (by kernel_rfl) ⟨sV, sV, fun _ _ _ hE ⟨hO, hf⟩ => ⟨hO.exn hE, hf⟩, fun _ _ _ hE ⟨hO, hf⟩ => ⟨hO.exn hE, hf⟩, trivial⟩ ⟨mE rfl rfl h0,
 mE rfl rfl h1,
 fun ρz wz hE hA _ ⟨u0, u1, _⟩ => core_callR rfl (call_args3 u0 u1 rfl) cf_35 ((pensionref1_combine_ok  _ _ _ (H_a_.exn (hA rfl)).no (H_b_.exn (hA rfl)).no hz).mono (fun e w1 ⟨v, he, hE1, hO⟩ => ⟨v, he, hE1, hO.base (Nat.le_trans hW.size hE.size), fun b hb => Nat.le_trans hE.size (hO.lt hb).1⟩)),
 fun ρz wz hE hA _ ⟨⟨hO2, hfr2⟩, _⟩ => core_copy rfl rfl (o_assign rfl) ⟨hO2, hfr2⟩, trivial⟩ ?_
  intro ρ2 w2 hN hf hr
  obtain ⟨v4_, h4⟩ : ∃ v, ρ2 4 = v := ⟨_, rfl⟩
  have hq4 : (fun u wz => Own w0.heap.size 31 2 Span.cells wz u z ∧ ∀ b, u.ownBlock = some b → w1.heap.size ≤ b) (ρ2 4) w2 := hf 3 rfl
  rw [h4] at hq4
  obtain ⟨hq4, hfr4⟩ := hq4
  have hW := hW.trans hN
  have O4 := hq4
  refine WP.ret ?_
  show retQ Try.prog 8 Try.f20 (fun v w1 => Own w0.heap.size 31 2 Span.cells w1 v r ∧ Ext noG w0 w1) .ret ρ2 w2
  obtain rfl := Option.some.inj hF
  exact res1 rfl (by decide) h4 ⟨O4, hW⟩

set_option maxHeartbeats 4000000 in
theorem pensionlaw25_SicknessSpellsAreApart_ok {w0 : World} (l_ : List pensionlaw25_Raw) (from_ : Int) {v_l_ : Value} (H_l_ : RepSl pensionlaw25_Raw.R noG w0 v_l_ l_) {r : Bool} (hF : pensionlaw25_SicknessSpellsAreApart l_ from_ = some r) :
    Calls Try.prog 5 #[v_l_, .int .i64 from_] w0 fun e w1 => e = .returned (.bool r) ∧ Ext noG w0 w1 := by
  refine (Calls.start (P := Try.prog) (args := [v_l_, .int .i64 from_]) (R := fun v w1 => v = .bool r ∧ Ext noG w0 w1) (n := 61) (w := w0) Try.func5 rfl rfl (Nat.le_of_ble_eq_true rfl) (fun ρ hargs => ?_)).mono (fun e w1 ⟨v, he, hv, hE⟩ => ⟨hv ▸ he, hE⟩)
  have h0 := hargs 0 _ rfl
  have h1 := hargs 1 _ rfl
  have hW := Ext.refl noG w0
  obtain ⟨_, _, hs_H_l_, _, _⟩ := RepSl.shape H_l_
  have H_l_ := H_l_.start
  rw [pensionlaw25_SicknessSpellsAreApart] at hF
  refine WP.seq (WP.rb mixed [[]] [[]] [(4, .bool false)] (by kernel_rfl) ⟨aC rfl rfl (fun _ => rfl), trivial⟩ ?_)
  intro ρ1 w1 hN hf hr
  obtain ⟨h0, h1⟩ := k2 hr h0 h1 rfl
  have H_l_ := H_l_.exn hN
  have hW := hW.trans hN
  refine WP.seq ?_
  obtain ⟨z, hz, hF⟩ := obind hF
  refine WP.rg mixed [[], [], [0, 1], [2]] [[], [], [0, 1], [2]] [[0], [1], [], []] [val 9 (v_l_), val 10 (.int .i64 from_), (11, fun u wz => Own w0.heap.size 49 14 api_Fact.cells wz u z ∧ ∀ b, u.ownBlock = some b → w1.heap.size ≤ b), (5, fun u wz => Own w0.heap.size 49 14 api_Fact.cells wz u z ∧ ∀ b, u.ownBlock = some b → w1.heap.size ≤ b)] (by kernel_rfl) ⟨sV, sV, fun _ _ _ hE ⟨hO, hf⟩ => ⟨hO.exn hE, hf⟩, fun _ _ _ hE ⟨hO, hf⟩ => ⟨hO.exn hE, hf⟩, trivial⟩ ⟨mE rfl rfl h0,
 mE rfl rfl h1,
 fun ρz wz hE hA _ ⟨u0, u1, _⟩ => core_callR rfl (call_args2 u0 u1) cf_8 ((pensionlaw25_List_ok  _ _ (H_l_.exn (hA rfl)).no hz).mono (fun e w1 ⟨v, he, hE1, hO⟩ => ⟨v, he, hE1, hO.base (Nat.le_trans hW.size hE.size), fun b hb => Nat.le_trans hE.size (hO.lt hb).1⟩)),
 fun ρz wz hE hA _ ⟨⟨hO2, hfr2⟩, _⟩ => core_copy rfl rfl (o_assign rfl) ⟨hO2, hfr2⟩, trivial⟩ ?_
  intro ρ2 w2 hN hf hr
  obtain ⟨v5_, h5⟩ : ∃ v, ρ2 5 = v := ⟨_, rfl⟩
  have hq5 : (fun u wz => Own w0.heap.size 49 14 api_Fact.cells wz u z ∧ ∀ b, u.ownBlock = some b → w1.heap.size ≤ b) (ρ2 5) w2 := hf 3 rfl
  rw [h5] at hq5
  obtain ⟨hq5, hfr5⟩ := hq5
  have hW := hW.trans hN
  have Hf5 : RepSl api_Fact.R noG w2 v5_ z := hq5.rep (fun _ _ h => h)
  obtain ⟨_, _, hs_Hf5, _, _⟩ := RepSl.shape Hf5
  refine WP.seq ?_
  obtain ⟨z2, hz2, hF⟩ := obind hF
  obtain ⟨z3, hz3, hF⟩ := obind hF
  refine WP.rg mixed [[], [0], [], [2], [1], [3]] [[], [0], [], [2], [1], [3]] [[5], [], [5], [], [], []] [val 12 (v5_), (13, fun u wz => Own w0.heap.size 31 2 Span.cells wz u z2 ∧ ∀ b, u.ownBlock = some b → w2.heap.size ≤ b), val 14 (v5_), (15, fun u wz => Own w0.heap.size 31 2 Span.cells wz u z3 ∧ ∀ b, u.ownBlock = some b → w2.heap.size ≤ b), (6, fun u wz => Own w0.heap.size 31 2 Span.cells wz u z2 ∧ ∀ b, u.ownBlock = some b → w2.heap.size ≤ b), (7, fun u wz => Own w0.heap.size 31 2 Span.cells wz u z3 ∧ ∀ b, u.ownBlock = some b → w2.heap.size ≤ b)] (by kernel_rfl) ⟨sV, fun _ _ _ hE ⟨hO, hf⟩ => ⟨hO.exn hE, hf⟩, sV, fun _ _ _ hE ⟨hO, hf⟩ => ⟨hO.exn hE, hf⟩, fun _ _ _ hE ⟨hO, hf⟩ => ⟨hO.exn hE, hf⟩, fun _ _ _ hE ⟨hO, hf⟩ => ⟨hO.exn hE, hf⟩, trivial⟩ ⟨mE rfl rfl h5,
 fun ρz wz hE hA _ ⟨u0, _⟩ => core_callR rfl (call_args1 u0) cf_13 ((sickness_Sick_ok  _ (Hf5.exn (hA rfl)).no hz2).mono (fun e w1 ⟨v, he, hE1, hO⟩ => ⟨v, he, hE1, hO.base (Nat.le_trans hW.size hE.size), fun b hb => Nat.le_trans hE.size (hO.lt hb).1⟩)),
 mE rfl rfl h5,
 fun ρz wz hE hA _ ⟨u2, _⟩ => core_callR rfl (call_args1 u2) cf_15 ((sickness_Spells_ok  _ (Hf5.exn (hA rfl)).no hz3).mono (fun e w1 ⟨v, he, hE1, hO⟩ => ⟨v, he, hE1, hO.base (Nat.le_trans hW.size hE.size), fun b hb => Nat.le_trans hE.size (hO.lt hb).1⟩)),
 fun ρz wz hE hA _ ⟨⟨hO1, hfr1⟩, _⟩ => core_copy rfl rfl (o_assign rfl) ⟨hO1, hfr1⟩,
 fun ρz wz hE hA _ ⟨⟨hO3, hfr3⟩, _⟩ => core_copy rfl rfl (o_assign rfl) ⟨hO3, hfr3⟩, trivial⟩ ?_
  intro ρ3 w3 hN hf hr
  obtain ⟨v6_, h6⟩ : ∃ v, ρ3 6 = v := ⟨_, rfl⟩
  have hq6 : (fun u wz => Own w0.heap.size 31 2 Span.cells wz u z2 ∧ ∀ b, u.ownBlock = some b → w2.heap.size ≤ b) (ρ3 6) w3 := hf 4 rfl
  rw [h6] at hq6
  obtain ⟨hq6, hfr6⟩ := hq6
  obtain ⟨v7_, h7⟩ : ∃ v, ρ3 7 = v := ⟨_, rfl⟩
  have hq7 : (fun u wz => Own w0.heap.size 31 2 Span.cells wz u z3 ∧ ∀ b, u.ownBlock = some b → w2.heap.size ≤ b) (ρ3 7) w3 := hf 5 rfl
  rw [h7] at hq7
  obtain ⟨hq7, hfr7⟩ := hq7
  have hW := hW.trans hN
  have Hf6 : RepSl Span.R noG w3 v6_ z2 := hq6.rep (fun _ _ h => h)
  obtain ⟨_, _, hs_Hf6, _, _⟩ := RepSl.shape Hf6
  have Hf7 : RepSl Span.R noG w3 v7_ z3 := hq7.rep (fun _ _ h => h)
  obtain ⟨_, _, hs_Hf7, _, _⟩ := RepSl.shape Hf7
  refine WP.seq (WP.seq ?_)
  obtain ⟨z4, hz4, hF⟩ := obind hF
  obtain ⟨c, hc, hF⟩ := obind hF
  obtain ⟨z5, hz5, hc⟩ := orB hc
  have hc := orE hc
  obtain ⟨c2, hc2, hF⟩ := obind hF
  obtain ⟨z6, hz6, hc2⟩ := orB hc2
  have hc2 := orE hc2
  obtain ⟨c3, hc3, hF⟩ := obind hF
  obtain ⟨z7, hz7, hc3⟩ := orB hc3
  have hc3 := orE hc3
  refine WP.rg mixed [[], [0], [1], [2], [2, 3], [2, 4], [2, 5], [6], [7], [7, 8], [7, 9], [7, 10], [11], [12], [12], [12, 13, 14], [12, 15], [12, 16], [12, 17]] [[], [0], [1], [2], [2, 3], [2, 4], [2, 5], [6], [7], [7, 8], [7, 9], [7, 10], [11], [12], [12], [12, 13, 14], [12, 15], [12, 16], [12, 17]] [[], [], [], [6], [], [], [], [], [7], [], [], [], [], [6], [7], [], [], [], []] [val 16 (.bool z4), val 17 (.bool (!z4)), val 18 (.bool (!z4)), val 19 (gv (!(!z4)) v6_), val 20 (gv (!(!z4)) (.bool z5)), val 21 (gv (!(!z4)) (.bool (!z5))), val 22 (.bool c), val 23 (.bool c), val 24 (gv (!c) v7_), val 25 (gv (!c) (.bool z6)), val 26 (gv (!c) (.bool (!z6))), val 27 (.bool c2), val 28 (.bool c2), val 29 (gv (!c2) v6_), val 30 (gv (!c2) v7_), (31, fun u wz => (!c2) = true → (fun u wz => Own w0.heap.size 31 2 Span.cells wz u z7 ∧ ∀ b, u.ownBlock = some b → w3.heap.size ≤ b) u wz), val 32 (gv (!c2) (.int .i64 (z7.length : Int))), val 33 (gv (!c2) (.bool (decide (0 < (z7.length : Int))))), val 34 (.bool c3)] (by kernel_rfl) ⟨sV, sV, sV, sV, sV, sV, sV, sV, sV, sV, sV, sV, sV, sV, sV, stabI (Φ := fun u wz => Own w0.heap.size 31 2 Span.cells wz u z7 ∧ ∀ b, u.ownBlock = some b → w3.heap.size ≤ b) (fun _ _ _ hE ⟨hO, hf⟩ => ⟨hO.exn hE, hf⟩), sV, sV, sV, trivial⟩ ⟨fun ρz wz hE hA _ _ => core_call rfl call_args0 cf_11 (pensionlaw25_awake_ok    hz4),
 fun ρz wz hE hA _ ⟨u0, _⟩ => core_val rfl rfl (o_not u0 rfl),
 mU rfl rfl rfl,
 fun ρz wz hE hA ⟨e6, _⟩ ⟨u2, _⟩ => gIf rfl rfl (yF rfl u2) fun gc F hF => core_val rfl hF (o_move (e6.trans h6)),
 fun ρz wz hE hA _ ⟨u2, u3, _⟩ => gIf rfl rfl (yF rfl u2) fun gc F hF => core_call hF (call_args1 (gt gc u3)) cf_19 (pensionref1_Normal_ok  _ (Hf6.exn (hA rfl)).no (hz5 gc)),
 fun ρz wz hE hA _ ⟨u2, u4, _⟩ => gIf rfl rfl (yF rfl u2) fun gc F hF => core_val rfl hF (o_not (gt gc u4) rfl),
 fun ρz wz hE hA _ ⟨u2, u5, _⟩ => core_valE rfl rfl (congrArg Value.bool hc) (o_pick_or u2 rfl u5),
 mU rfl rfl rfl,
 fun ρz wz hE hA ⟨e7, _⟩ ⟨u7, _⟩ => gIf rfl rfl (yF rfl u7) fun gc F hF => core_val rfl hF (o_move (e7.trans h7)),
 fun ρz wz hE hA _ ⟨u7, u8, _⟩ => gIf rfl rfl (yF rfl u7) fun gc F hF => core_call hF (call_args1 (gt gc u8)) cf_19 (pensionref1_Normal_ok  _ (Hf7.exn (hA rfl)).no (hz6 gc)),
 fun ρz wz hE hA _ ⟨u7, u9, _⟩ => gIf rfl rfl (yF rfl u7) fun gc F hF => core_val rfl hF (o_not (gt gc u9) rfl),
 fun ρz wz hE hA _ ⟨u7, u10, _⟩ => core_valE rfl rfl (congrArg Value.bool hc2) (o_pick_or u7 rfl u10),
 mU rfl rfl rfl,
 fun ρz wz hE hA ⟨e6, _⟩ ⟨u12, _⟩ => gIf rfl rfl (yF rfl u12) fun gc F hF => core_val rfl hF (o_move (e6.trans h6)),
 fun ρz wz hE hA ⟨e7, _⟩ ⟨u12, _⟩ => gIf rfl rfl (yF rfl u12) fun gc F hF => core_val rfl hF (o_move (e7.trans h7)),
 fun ρz wz hE hA _ ⟨u12, u13, u14, _⟩ => gIfR rfl (yF rfl u12) fun gc F hF => core_callR hF (call_args2 (gt gc u13) (gt gc u14)) cf_20 ((pensionref1_Subtract_ok  _ _ (Hf6.exn (hA rfl)).no (Hf7.exn (hA rfl)).no (hz7 gc)).mono (fun e w1 ⟨v, he, hE1, hO⟩ => ⟨v, he, hE1, hO.base (Nat.le_trans hW.size hE.size), fun b hb => Nat.le_trans hE.size (hO.lt hb).1⟩)),
 fun ρz wz hE hA _ ⟨u12, u15, _⟩ => gIf rfl rfl (yF rfl u12) fun gc F hF => let ⟨hO15, hfr15⟩ := u15 gc; core_val rfl hF (o_len ((Own.shape hO15).choose_spec.choose_spec.1) len_32),
 fun ρz wz hE hA _ ⟨u12, u16, _⟩ => gIf rfl rfl (yF rfl u12) fun gc F hF => core_val rfl hF (o_gtr (gt gc u16) rfl rfl),
 fun ρz wz hE hA _ ⟨u12, u17, _⟩ => core_valE rfl rfl (congrArg Value.bool hc3) (o_pick_or u12 rfl u17), trivial⟩ ?_
  intro ρ4 w4 hN hf hr
  have h34 : ρ4 34 = .bool c3 := hf 18 rfl
  obtain ⟨h6, h7⟩ := k2 hr h6 h7 rfl
  have Hf6 := Hf6.exn hN
  have Hf7 := Hf7.exn hN
  have hW := hW.trans hN
  refine WP.cond rfl h34 (fun hb => ?_) (fun hb => ?_)
  · have hF := (if_pos hb).symm.trans hF
    refine WP.seq (WP.rb mixed [[]] [[]] [(4, .bool false)] (by kernel_rfl) ⟨aC rfl rfl (fun _ => rfl), trivial⟩ ?_)
    intro ρ5 w5 hN hf hr
    have h4 := hv hf 0 rfl rfl
    have hW := hW.trans hN
    refine WP.ret ?_
    show retQ Try.prog 61 Try.f5 (fun v w1 => v = .bool r ∧ Ext noG w0 w1) .ret ρ5 w5
    obtain rfl := Option.some.inj hF
    exact res1 rfl (by decide) h4 ⟨rfl, hW⟩
  have hF := (if_neg (Bool.eq_false_iff.1 hb)).symm.trans hF
  refine WP.skip (WP.seq (WP.seq (WP.rb mixed [[]] [[]] [(8, .int .i64 1)] (by kernel_rfl) ⟨aC rfl rfl (fun _ => rfl), trivial⟩ ?_)))
  intro ρ6 w6 hN hf hr
  have h8 := hv hf 0 rfl rfl
  obtain ⟨h6, h7⟩ := k2 hr h6 h7 rfl
  have Hf6 := Hf6.exn hN
  have Hf7 := Hf7.exn hN
  have hW := hW.trans hN
  refine WP.block (WP.loop (fun k_ ρ w => ∃ i_ : Int, ρ 6 = v6_ ∧ ρ 7 = v7_ ∧ ρ 8 = .int .i64 i_ ∧ RepSl Span.R noG w v6_ z2 ∧ RepSl Span.R noG w v7_ z3 ∧ Ext noG w0 w ∧ loopC k_ (pensionlaw25_SicknessSpellsAreApart_l z2 z3) i_ = some r) FU ⟨1, h6, h7, h8, Hf6, Hf7, hW, hF⟩ (fun _ _ h => by obtain ⟨_, _, _, _, _, _, _, h⟩ := h; cases h) ?_)
  rintro k_ ρ7 w7 ⟨i_, h6, h7, h8, Hf6, Hf7, hW, hF⟩
  have hF : pensionlaw25_SicknessSpellsAreApart_l z2 z3 (loopC k_ (pensionlaw25_SicknessSpellsAreApart_l z2 z3)) i_ = some r := hF
  generalize hrec_ : loopC k_ (pensionlaw25_SicknessSpellsAreApart_l z2 z3) = rec_ at hF
  rw [pensionlaw25_SicknessSpellsAreApart_l] at hF
  refine WP.seq (WP.seq (WP.rb mixed [[], [], [1], [0, 2]] [[8], [7], [], []] [(35, .int .i64 i_), (36, v7_), (37, .int .i64 (z3.length : Int)), (38, .bool (decide (i_ < (z3.length : Int))))] (by kernel_rfl) ⟨mE rfl rfl h8,
 mE rfl rfl h7,
 fun ρz wz hE hA _ ⟨u1, _⟩ => core_val rfl rfl (o_len (u1.trans hs_Hf7) len_32),
 fun ρz wz hE hA _ ⟨u0, u2, _⟩ => core_val rfl rfl (o_lss u0 u2 rfl), trivial⟩ ?_))
  intro ρ8 w8 hN hf hr
  have h38 := hv hf 3 rfl rfl
  obtain ⟨h6, h7, h8⟩ := k3 hr h6 h7 h8 rfl
  have Hf6 := Hf6.exn hN
  have Hf7 := Hf7.exn hN
  have hW := hW.trans hN
  refine WP.cond rfl h38 (fun hb => ?_) (fun hb => ?_)
  · have hF := (if_pos hb).symm.trans hF
    refine WP.skip (WP.seq (WP.block (WP.seq ?_)))
    obtain ⟨y, hy, hF⟩ := obind hF
    obtain ⟨ay, cy, hvy, hiy, hAy⟩ := RepSl.getF Hf7 hy
    obtain ⟨y2, hy2, hF⟩ := obind hF
    obtain ⟨ay2, cy2, hvy2, hiy2, hAy2⟩ := RepSl.getF Hf7 hy2
    refine WP.rb mixed [[], [], [0, 1], [2], [3], [], [], [6], [5, 7], [8], [9], [4, 10], [11]] [[7], [8], [], [], [], [7], [8], [], [], [], [], [], []] [(41, v7_), (42, .int .i64 i_), (43, .pointer (some (ay.add (Int.toNat i_ * 2)))), (44, .pointer (some ((ay.add (Int.toNat i_ * 2)).add 0))), (45, .int .i64 y.From), (46, v7_), (47, .int .i64 i_), (48, .int .i64 (i64 (i_ - 1))), (49, .pointer (some (ay2.add (Int.toNat (i64 (i_ - 1)) * 2)))), (50, .pointer (some ((ay2.add (Int.toNat (i64 (i_ - 1)) * 2)).add 1))), (51, .int .i64 y2.To), (52, .int .i64 (i64 (y.From - y2.To))), (53, .bool (decide (i64 (y.From - y2.To) ≤ 56)))] (by kernel_rfl) ⟨mE rfl rfl h7,
 mE rfl rfl h8,
 fun ρz wz hE hA _ ⟨u0, u1, _⟩ => core_val rfl rfl (o_indexAddr (u0.trans hvy) u1 (ia_32 hiy)),
 fun ρz wz hE hA _ ⟨u2, _⟩ => core_val rfl rfl (o_fieldAddr u2 (fa_31_0 _ _)),
 fun ρz wz hE hA _ ⟨u3, _⟩ => core_val rfl rfl (o_load u3 (run_load1 (lr_3 _ _) (CA.sub ((hAy.exn (hA rfl)).ca) 0 1))),
 mE rfl rfl h7,
 mE rfl rfl h8,
 fun ρz wz hE hA _ ⟨u6, _⟩ => core_val rfl rfl (o_sub u6 rfl rfl),
 fun ρz wz hE hA _ ⟨u5, u7, _⟩ => core_val rfl rfl (o_indexAddr (u5.trans hvy2) u7 (ia_32 hiy2)),
 fun ρz wz hE hA _ ⟨u8, _⟩ => core_val rfl rfl (o_fieldAddr u8 (fa_31_1 _ _)),
 fun ρz wz hE hA _ ⟨u9, _⟩ => core_val rfl rfl (o_load u9 (run_load1 (lr_3 _ _) (CA.sub ((hAy2.exn (hA rfl)).ca) 1 1))),
 fun ρz wz hE hA _ ⟨u4, u10, _⟩ => core_val rfl rfl (o_sub u4 u10 rfl),
 fun ρz wz hE hA _ ⟨u11, _⟩ => core_val rfl rfl (o_leq u11 rfl rfl), trivial⟩ ?_
    intro ρ9 w9 hN hf hr
    have h53 := hv hf 12 rfl rfl
    obtain ⟨h6, h7, h8⟩ := k3 hr h6 h7 h8 rfl
    have Hf6 := Hf6.exn hN
    have Hf7 := Hf7.exn hN
    have hW := hW.trans hN
    refine WP.cond rfl h53 (fun hb => ?_) (fun hb => ?_)
    · have hF := (if_pos hb).symm.trans hF
      refine WP.seq (WP.rb mixed [[]] [[]] [(4, .bool false)] (by kernel_rfl) ⟨aC rfl rfl (fun _ => rfl), trivial⟩ ?_)
      intro ρ10 w10 hN hf hr
      have h4 := hv hf 0 rfl rfl
      have hW := hW.trans hN
      refine WP.ret ?_
      show retQ Try.prog 61 Try.f5 (fun v w1 => v = .bool r ∧ Ext noG w0 w1) .ret ρ10 w10
      obtain rfl := Option.some.inj hF
      exact res1 rfl (by decide) h4 ⟨rfl, hW⟩
    have hF := (if_neg (Bool.eq_false_iff.1 hb)).symm.trans hF
    refine WP.skip (WP.rv mixed [[], [0], [0, 1]] [[], [0], [1]] [[8], [], []] [(39, .int .i64 i_), (40, .int .i64 (i64 (i_ + 1))), (8, .int .i64 (i64 (i_ + 1)))] (by kernel_rfl) ⟨mE rfl rfl h8,
 fun ρz wz hE hA _ ⟨u0, _⟩ => core_val rfl rfl (o_add u0 rfl rfl),
 aU rfl rfl rfl, trivial⟩ ?_)
    intro ρ11 w11 hN hf hr
    have h8 := hv hf 2 rfl rfl
    obtain ⟨h6, h7⟩ := k2 hr h6 h7 rfl
    have Hf6 := Hf6.exn hN
    have Hf7 := Hf7.exn hN
    have hW := hW.trans hN
    exact ⟨i64 (i_ + 1), h6, h7, h8, Hf6, Hf7, hW, (by first | exact hF | (rw [hrec_]; exact hF))⟩
  have hF := (if_neg (Bool.eq_false_iff.1 hb)).symm.trans hF
  refine WP.exit (thenQ_exit (thenQ_exit (blockQ_hit (WP.seq (WP.rb mixed [[], [0], [1], [], [3], [4], [2, 5], [6]] [[6], [], [], [7], [], [], [], []] [(54, v6_), (55, .int .i64 (z2.length : Int)), (56, .bool ((z2.length : Int) == 0)), (57, v7_), (58, .int .i64 (z3.length : Int)), (59, .bool ((z3.length : Int) == 0)), (60, .bool (((z2.length : Int) == 0) == ((z3.length : Int) == 0))), (4, .bool (((z2.length : Int) == 0) == ((z3.length : Int) == 0)))] (by kernel_rfl) ⟨mE rfl rfl h6,
 fun ρz wz hE hA _ ⟨u0, _⟩ => core_val rfl rfl (o_len (u0.trans hs_Hf6) len_32),
 fun ρz wz hE hA _ ⟨u1, _⟩ => core_val rfl rfl (o_eql u1 rfl rfl),
 mE rfl rfl h7,
 fun ρz wz hE hA _ ⟨u3, _⟩ => core_val rfl rfl (o_len (u3.trans hs_Hf7) len_32),
 fun ρz wz hE hA _ ⟨u4, _⟩ => core_val rfl rfl (o_eql u4 rfl rfl),
 fun ρz wz hE hA _ ⟨u2, u5, _⟩ => core_val rfl rfl (o_eqlB u2 u5 (by kernel_rfl) rfl),
 aU rfl rfl rfl, trivial⟩ ?_)))))
  intro ρ12 w12 hN hf hr
  have h4 := hv hf 7 rfl rfl
  have hW := hW.trans hN
  refine WP.ret ?_
  show retQ Try.prog 61 Try.f5 (fun v w1 => v = .bool r ∧ Ext noG w0 w1) .ret ρ12 w12
  obtain rfl := Option.some.inj hF
  exact res1 rfl (by decide) h4 ⟨rfl, hW⟩

set_option maxHeartbeats 4000000 in
theorem pensionref1_MakeSpans_ok {w0 : World} (l_ : List Span) {v_l_ : Value} (H_l_ : RepSl Span.R noG w0 v_l_ l_) {r : (List Span)} (hF : pensionref1_MakeSpans l_ = some r) :
    Calls Try.prog 36 #[v_l_] w0 fun e w1 => ∃ v, e = .returned v ∧ Ext noG w0 w1 ∧ Own w0.heap.size 31 2 Span.cells w1 v r := by
  refine (Calls.start (P := Try.prog) (args := [v_l_]) (R := fun v w1 => Own w0.heap.size 31 2 Span.cells w1 v r ∧ Ext noG w0 w1) (n := 5) (w := w0) Try.func36 rfl rfl (Nat.le_of_ble_eq_true rfl) (fun ρ hargs => ?_)).mono (fun e w1 ⟨v, he, hv, hE⟩ => ⟨v, he, hE, hv⟩)
  have h0 := hargs 0 _ rfl
  have hW := Ext.refl noG w0
  obtain ⟨_, _, hs_H_l_, _, _⟩ := RepSl.shape H_l_
  have H_l_ := H_l_.start
  rw [pensionref1_MakeSpans] at hF
  refine WP.seq (WP.rb mixed [[]] [[]] [(2, .slice none 0 0)] (by kernel_rfl) ⟨aC rfl rfl (fun _ => rfl), trivial⟩ ?_)
  intro ρ1 w1 hN hf hr
  have h0 := (hr 0 rfl).trans h0
  have H_l_ := H_l_.exn hN
  have hW := hW.trans hN
  refine WP.seq ?_
  obtain ⟨z, hz, hF⟩ := obind hF
  refine WP.rg mixed [[], [0], [1]] [[], [0], [1]] [[0], [], []] [val 3 (v_l_), (4, fun u wz => Own w0.heap.size 31 2 Span.cells wz u z ∧ ∀ b, u.ownBlock = some b → w1.heap.size ≤ b), (2, fun u wz => Own w0.heap.size 31 2 Span.cells wz u z ∧ ∀ b, u.ownBlock = some b → w1.heap.size ≤ b)] (by kernel_rfl) ⟨sV, fun _ _ _ hE ⟨hO, hf⟩ => ⟨hO.exn hE, hf⟩, fun _ _ _ hE ⟨hO, hf⟩ => ⟨hO.exn hE, hf⟩, trivial⟩ ⟨mE rfl rfl h0,
 fun ρz wz hE hA _ ⟨u0, _⟩ => core_callR rfl (call_args3 u0 rfl rfl) cf_35 ((pensionref1_combine_ok  _ _ _ (H_l_.exn (hA rfl)).no (RepSl.nil _ noG _).no hz).mono (fun e w1 ⟨v, he, hE1, hO⟩ => ⟨v, he, hE1, hO.base (Nat.le_trans hW.size hE.size), fun b hb => Nat.le_trans hE.size (hO.lt hb).1⟩)),
 fun ρz wz hE hA _ ⟨⟨hO1, hfr1⟩, _⟩ => core_copy rfl rfl (o_assign rfl) ⟨hO1, hfr1⟩, trivial⟩ ?_
  intro ρ2 w2 hN hf hr
  obtain ⟨v2_, h2⟩ : ∃ v, ρ2 2 = v := ⟨_, rfl⟩
  have hq2 : (fun u wz => Own w0.heap.size 31 2 Span.cells wz u z ∧ ∀ b, u.ownBlock = some b → w1.heap.size ≤ b) (ρ2 2) w2 := hf 2 rfl
  rw [h2] at hq2
  obtain ⟨hq2, hfr2⟩ := hq2
  have hW := hW.trans hN
  have O2 := hq2
  refine WP.ret ?_
  show retQ Try.prog 5 Try.f36 (fun v w1 => Own w0.heap.size 31 2 Span.cells w1 v r ∧ Ext noG w0 w1) .ret ρ2 w2
  obtain rfl := Option.some.inj hF
  exact res1 rfl (by decide) h2 ⟨O2, hW⟩

set_option maxHeartbeats 4000000 in
theorem pensionref1_Days_ok {w0 : World} (l_ : List Span) {v_l_ : Value} (H_l_ : RepSl Span.R noG w0 v_l_ l_) {r : Int} (hF : pensionref1_Days l_ = some r) :
    Calls Try.prog 21 #[v_l_] w0 fun e w1 => e = .returned (.int .i64 r) ∧ Ext noG w0 w1 := by
  refine (Calls.start (P := Try.prog) (args := [v_l_]) (R := fun v w1 => v = .int .i64 r ∧ Ext noG w0 w1) (n := 28) (w := w0) Try.func21 rfl rfl (Nat.le_of_ble_eq_true rfl) (fun ρ hargs => ?_)).mono (fun e w1 ⟨v, he, hv, hE⟩ => ⟨hv ▸ he, hE⟩)
  have h0 := hargs 0 _ rfl
  have hW := Ext.refl noG w0
  obtain ⟨_, _, hs_H_l_, _, _⟩ := RepSl.shape H_l_
  have H_l_ := H_l_.start
  rw [pensionref1_Days] at hF
  refine WP.seq (WP.rb mixed [[]] [[]] [(2, .int .i64 0)] (by kernel_rfl) ⟨aC rfl rfl (fun _ => rfl), trivial⟩ ?_)
  intro ρ1 w1 hN hf hr
  have h0 := (hr 0 rfl).trans h0
  have H_l_ := H_l_.exn hN
  have hW := hW.trans hN
  refine WP.seq (WP.rb mixed [[]] [[]] [(3, .int .i64 0)] (by kernel_rfl) ⟨aC rfl rfl (fun _ => rfl), trivial⟩ ?_)
  intro ρ2 w2 hN hf hr
  have h3 := hv hf 0 rfl rfl
  have h0 := (hr 0 rfl).trans h0
  have H_l_ := H_l_.exn hN
  have hW := hW.trans hN
  refine WP.seq ?_
  obtain ⟨z, hz, hF⟩ := obind hF
  refine WP.rg mixed [[], [0], [1]] [[], [0], [1]] [[0], [], []] [val 6 (v_l_), (7, fun u wz => Own w0.heap.size 31 2 Span.cells wz u z ∧ ∀ b, u.ownBlock = some b → w2.heap.size ≤ b), (4, fun u wz => Own w0.heap.size 31 2 Span.cells wz u z ∧ ∀ b, u.ownBlock = some b → w2.heap.size ≤ b)] (by kernel_rfl) ⟨sV, fun _ _ _ hE ⟨hO, hf⟩ => ⟨hO.exn hE, hf⟩, fun _ _ _ hE ⟨hO, hf⟩ => ⟨hO.exn hE, hf⟩, trivial⟩ ⟨mE rfl rfl h0,
 fun ρz wz hE hA _ ⟨u0, _⟩ => core_callR rfl (call_args1 u0) cf_36 ((pensionref1_MakeSpans_ok  _ (H_l_.exn (hA rfl)).no hz).mono (fun e w1 ⟨v, he, hE1, hO⟩ => ⟨v, he, hE1, hO.base (Nat.le_trans hW.size hE.size), fun b hb => Nat.le_trans hE.size (hO.lt hb).1⟩)),
 fun ρz wz hE hA _ ⟨⟨hO1, hfr1⟩, _⟩ => core_copy rfl rfl (o_assign rfl) ⟨hO1, hfr1⟩, trivial⟩ ?_
  intro ρ3 w3 hN hf hr
  obtain ⟨v4_, h4⟩ : ∃ v, ρ3 4 = v := ⟨_, rfl⟩
  have hq4 : (fun u wz => Own w0.heap.size 31 2 Span.cells wz u z ∧ ∀ b, u.ownBlock = some b → w2.heap.size ≤ b) (ρ3 4) w3 := hf 2 rfl
  rw [h4] at hq4
  obtain ⟨hq4, hfr4⟩ := hq4
  have h3 := (hr 3 rfl).trans h3
  have hW := hW.trans hN
  have Hf4 : RepSl Span.R noG w3 v4_ z := hq4.rep (fun _ _ h => h)
  obtain ⟨_, _, hs_Hf4, _, _⟩ := RepSl.shape Hf4
  refine WP.seq (WP.seq (WP.rb mixed [[]] [[]] [(5, .int .i64 0)] (by kernel_rfl) ⟨aC rfl rfl (fun _ => rfl), trivial⟩ ?_))
  intro ρ4 w4 hN hf hr
  have h5 := hv hf 0 rfl rfl
  obtain ⟨h3, h4⟩ := k2 hr h3 h4 rfl
  have Hf4 := Hf4.exn hN
  have hW := hW.trans hN
  refine WP.block (WP.loop (fun k_ ρ w => ∃ n_ : Int, ∃ i_ : Int, ρ 3 = .int .i64 n_ ∧ ρ 4 = v4_ ∧ ρ 5 = .int .i64 i_ ∧ RepSl Span.R noG w v4_ z ∧ Ext noG w0 w ∧ loopC k_ (pensionref1_Days_l z) (n_, i_) = some r) FU ⟨0, 0, h3, h4, h5, Hf4, hW, hF⟩ (fun _ _ h => by obtain ⟨_, _, _, _, _, _, _, h⟩ := h; cases h) ?_)
  rintro k_ ρ5 w5 ⟨n_, i_, h3, h4, h5, Hf4, hW, hF⟩
  have hF : pensionref1_Days_l z (loopC k_ (pensionref1_Days_l z)) (n_, i_) = some r := hF
  generalize hrec_ : loopC k_ (pensionref1_Days_l z) = rec_ at hF
  rw [pensionref1_Days_l] at hF
  refine WP.seq (WP.seq (WP.rb mixed [[], [], [1], [0, 2]] [[5], [4], [], []] [(8, .int .i64 i_), (9, v4_), (10, .int .i64 (z.length : Int)), (11, .bool (decide (i_ < (z.length : Int))))] (by kernel_rfl) ⟨mE rfl rfl h5,
 mE rfl rfl h4,
 fun ρz wz hE hA _ ⟨u1, _⟩ => core_val rfl rfl (o_len (u1.trans hs_Hf4) len_32),
 fun ρz wz hE hA _ ⟨u0, u2, _⟩ => core_val rfl rfl (o_lss u0 u2 rfl), trivial⟩ ?_))
  intro ρ6 w6 hN hf hr
  have h11 := hv hf 3 rfl rfl
  obtain ⟨h3, h4, h5⟩ := k3 hr h3 h4 h5 rfl
  have Hf4 := Hf4.exn hN
  have hW := hW.trans hN
  refine WP.cond rfl h11 (fun hb => ?_) (fun hb => ?_)
  · have hF := (if_pos hb).symm.trans hF
    refine WP.skip (WP.seq (WP.block ?_))
    obtain ⟨y, hy, hF⟩ := obind hF
    obtain ⟨ay, cy, hvy, hiy, hAy⟩ := RepSl.getF Hf4 hy
    obtain ⟨y2, hy2, hF⟩ := obind hF
    obtain ⟨ay2, cy2, hvy2, hiy2, hAy2⟩ := RepSl.getF Hf4 hy2
    refine WP.rv mixed [[], [], [], [1, 2], [3], [4], [], [], [6, 7], [8], [9], [5, 10], [0, 11], [0, 12]] [[], [], [], [1, 2], [3], [4], [], [], [6, 7], [8], [9], [5, 10], [0, 11], [12]] [[3], [4], [5], [], [], [], [4], [5], [], [], [], [], [], []] [(14, .int .i64 n_), (15, v4_), (16, .int .i64 i_), (17, .pointer (some (ay.add (Int.toNat i_ * 2)))), (18, .pointer (some ((ay.add (Int.toNat i_ * 2)).add 1))), (19, .int .i64 y.To), (20, v4_), (21, .int .i64 i_), (22, .pointer (some (ay2.add (Int.toNat i_ * 2)))), (23, .pointer (some ((ay2.add (Int.toNat i_ * 2)).add 0))), (24, .int .i64 y2.From), (25, .int .i64 (i64 (y.To - y2.From))), (26, .int .i64 (i64 (n_ + i64 (y.To - y2.From)))), (3, .int .i64 (i64 (n_ + i64 (y.To - y2.From))))] (by kernel_rfl) ⟨mE rfl rfl h3,
 mE rfl rfl h4,
 mE rfl rfl h5,
 fun ρz wz hE hA _ ⟨u1, u2, _⟩ => core_val rfl rfl (o_indexAddr (u1.trans hvy) u2 (ia_32 hiy)),
 fun ρz wz hE hA _ ⟨u3, _⟩ => core_val rfl rfl (o_fieldAddr u3 (fa_31_1 _ _)),
 fun ρz wz hE hA _ ⟨u4, _⟩ => core_val rfl rfl (o_load u4 (run_load1 (lr_3 _ _) (CA.sub ((hAy.exn (hA rfl)).ca) 1 1))),
 mE rfl rfl h4,
 mE rfl rfl h5,
 fun ρz wz hE hA _ ⟨u6, u7, _⟩ => core_val rfl rfl (o_indexAddr (u6.trans hvy2) u7 (ia_32 hiy2)),
 fun ρz wz hE hA _ ⟨u8, _⟩ => core_val rfl rfl (o_fieldAddr u8 (fa_31_0 _ _)),
 fun ρz wz hE hA _ ⟨u9, _⟩ => core_val rfl rfl (o_load u9 (run_load1 (lr_3 _ _) (CA.sub ((hAy2.exn (hA rfl)).ca) 0 1))),
 fun ρz wz hE hA _ ⟨u5, u10, _⟩ => core_val rfl rfl (o_sub u5 u10 rfl),
 fun ρz wz hE hA _ ⟨u0, u11, _⟩ => core_val rfl rfl (o_add u0 u11 rfl),
 aU rfl rfl rfl, trivial⟩ ?_
    intro ρ7 w7 hN hf hr
    have h3 := hv hf 13 rfl rfl
    obtain ⟨h4, h5⟩ := k2 hr h4 h5 rfl
    have Hf4 := Hf4.exn hN
    have hW := hW.trans hN
    refine WP.rv mixed [[], [0], [0, 1]] [[], [0], [1]] [[5], [], []] [(12, .int .i64 i_), (13, .int .i64 (i64 (i_ + 1))), (5, .int .i64 (i64 (i_ + 1)))] (by kernel_rfl) ⟨mE rfl rfl h5,
 fun ρz wz hE hA _ ⟨u0, _⟩ => core_val rfl rfl (o_add u0 rfl rfl),
 aU rfl rfl rfl, trivial⟩ ?_
    intro ρ8 w8 hN hf hr
    have h5 := hv hf 2 rfl rfl
    obtain ⟨h3, h4⟩ := k2 hr h3 h4 rfl
    have Hf4 := Hf4.exn hN
    have hW := hW.trans hN
    exact ⟨i64 (n_ + i64 (y.To - y2.From)), i64 (i_ + 1), h3, h4, h5, Hf4, hW, (by first | exact hF | (rw [hrec_]; exact hF))⟩
  have hF := (if_neg (Bool.eq_false_iff.1 hb)).symm.trans hF
  refine WP.exit (thenQ_exit (thenQ_exit (blockQ_hit (WP.seq (WP.rb mixed [[], [0]] [[3], []] [(27, .int .i64 n_), (2, .int .i64 n_)] (by kernel_rfl) ⟨mE rfl rfl h3,
 aU rfl rfl rfl, trivial⟩ ?_)))))
  intro ρ9 w9 hN hf hr
  have h2 := hv hf 1 rfl rfl
  have hW := hW.trans hN
  refine WP.ret ?_
  show retQ Try.prog 28 Try.f21 (fun v w1 => v = .int .i64 r ∧ Ext noG w0 w1) .ret ρ9 w9
  obtain rfl := Option.some.inj hF
  exact res1 rfl (by decide) h2 ⟨rfl, hW⟩

set_option maxHeartbeats 4000000 in
theorem pensionref1_Prefix_ok {w0 : World} (l_ : List Span) (n_ : Int) {v_l_ : Value} (H_l_ : RepSl Span.R noG w0 v_l_ l_) {r : (List Span)} (hF : pensionref1_Prefix l_ n_ = some r) :
    Calls Try.prog 23 #[v_l_, .int .i64 n_] w0 fun e w1 => ∃ v, e = .returned v ∧ Ext noG w0 w1 ∧ Own w0.heap.size 31 2 Span.cells w1 v r := by
  refine (Calls.start (P := Try.prog) (args := [v_l_, .int .i64 n_]) (R := fun v w1 => Own w0.heap.size 31 2 Span.cells w1 v r ∧ Ext noG w0 w1) (n := 54) (w := w0) Try.func23 rfl rfl (Nat.le_of_ble_eq_true rfl) (fun ρ hargs => ?_)).mono (fun e w1 ⟨v, he, hv, hE⟩ => ⟨v, he, hE, hv⟩)
  have h0 := hargs 0 _ rfl
  have h1 := hargs 1 _ rfl
  have hW := Ext.refl noG w0
  obtain ⟨_, _, hs_H_l_, _, _⟩ := RepSl.shape H_l_
  have H_l_ := H_l_.start
  rw [pensionref1_Prefix] at hF
  refine WP.seq (WP.rb mixed [[]] [[]] [(4, .slice none 0 0)] (by kernel_rfl) ⟨aC rfl rfl (fun _ => rfl), trivial⟩ ?_)
  intro ρ1 w1 hN hf hr
  obtain ⟨h0, h1⟩ := k2 hr h0 h1 rfl
  have H_l_ := H_l_.exn hN
  have hW := hW.trans hN
  refine WP.seq (WP.rb mixed [[]] [[]] [(5, .slice none 0 0)] (by kernel_rfl) ⟨aC rfl rfl (fun _ => rfl), trivial⟩ ?_)
  intro ρ2 w2 hN hf hr
  have h5 : ρ2 5 = .slice none 0 0 := hf 0 rfl
  have O5 : Own w0.heap.size 31 2 Span.cells w2 (.slice none 0 0) [] := Own.nil _ _ _ _ _
  obtain ⟨h0, h1⟩ := k2 hr h0 h1 rfl
  have H_l_ := H_l_.exn hN
  have hW := hW.trans hN
  have O5 : Own w0.heap.size 31 2 Span.cells w2 (.slice none 0 0) [] := Own.nil _ _ _ _ _
  refine WP.seq ?_
  obtain ⟨z, hz, hF⟩ := obind hF
  refine WP.rg mixed [[], [0], [1]] [[], [0], [1]] [[0], [], []] [val 9 (v_l_), (10, fun u wz => Own w0.heap.size 31 2 Span.cells wz u z ∧ ∀ b, u.ownBlock = some b → w2.heap.size ≤ b), (6, fun u wz => Own w0.heap.size 31 2 Span.cells wz u z ∧ ∀ b, u.ownBlock = some b → w2.heap.size ≤ b)] (by kernel_rfl) ⟨sV, fun _ _ _ hE ⟨hO, hf⟩ => ⟨hO.exn hE, hf⟩, fun _ _ _ hE ⟨hO, hf⟩ => ⟨hO.exn hE, hf⟩, trivial⟩ ⟨mE rfl rfl h0,
 fun ρz wz hE hA _ ⟨u0, _⟩ => core_callR rfl (call_args1 u0) cf_36 ((pensionref1_MakeSpans_ok  _ (H_l_.exn (hA rfl)).no hz).mono (fun e w1 ⟨v, he, hE1, hO⟩ => ⟨v, he, hE1, hO.base (Nat.le_trans hW.size hE.size), fun b hb => Nat.le_trans hE.size (hO.lt hb).1⟩)),
 fun ρz wz hE hA _ ⟨⟨hO1, hfr1⟩, _⟩ => core_copy rfl rfl (o_assign rfl) ⟨hO1, hfr1⟩, trivial⟩ ?_
  intro ρ3 w3 hN hf hr
  obtain ⟨v6_, h6⟩ : ∃ v, ρ3 6 = v := ⟨_, rfl⟩
  have hq6 : (fun u wz => Own w0.heap.size 31 2 Span.cells wz u z ∧ ∀ b, u.ownBlock = some b → w2.heap.size ≤ b) (ρ3 6) w3 := hf 2 rfl
  rw [h6] at hq6
  obtain ⟨hq6, hfr6⟩ := hq6
  obtain ⟨h1, h5⟩ := k2 hr h1 h5 rfl
  have Oo_O5 := O5
  have hW := hW.trans hN
  have O5 : Own w0.heap.size 31 2 Span.cells w3 (.slice none 0 0) [] := Own.nil _ _ _ _ _
  have Hf6 : RepSl Span.R (gL [ownG (.slice none 0 0)]) w3 v6_ z := hq6.rep (fun b hb h => h.elim (fun h => by simp [ownG, Value.ownBlock] at h) (fun h => h.elim))
  obtain ⟨_, _, hs_Hf6, _, _⟩ := RepSl.shape Hf6
  refine WP.seq (WP.seq (WP.rb mixed [[]] [[]] [(7, .int .i64 0)] (by kernel_rfl) ⟨aC rfl rfl (fun _ => rfl), trivial⟩ ?_))
  intro ρ4 w4 hN hf hr
  have h7 := hv hf 0 rfl rfl
  obtain ⟨h1, h5, h6⟩ := k3 hr h1 h5 h6 rfl
  have Oo_O5 := O5
  have Hf6 := Hf6.exn hN
  have hW := hW.trans hN
  have O5 : Own w0.heap.size 31 2 Span.cells w4 (.slice none 0 0) [] := Own.nil _ _ _ _ _
  refine WP.block (WP.loop (fun k_ ρ w => ∃ n_2 : Int, ∃ out_ : List Span, ∃ i_ : Int, ∃ v5_ : Value, ρ 1 = .int .i64 n_2 ∧ ρ 5 = v5_ ∧ ρ 6 = v6_ ∧ ρ 7 = .int .i64 i_ ∧ RepSl Span.R (gL [ownG v5_]) w v6_ z ∧ Own w0.heap.size 31 2 Span.cells w v5_ out_ ∧ Ext noG w0 w ∧ loopC k_ (pensionref1_Prefix_l z) (n_2, out_, i_) = some r) FU ⟨n_, [], 0, .slice none 0 0, h1, h5, h6, h7, Hf6, O5, hW, hF⟩ (fun _ _ h => by obtain ⟨_, _, _, _, _, _, _, _, _, _, _, h⟩ := h; cases h) ?_)
  rintro k_ ρ5 w5 ⟨n_2, out_, i_, v5_, h1, h5, h6, h7, Hf6, O5, hW, hF⟩
  have hF : pensionref1_Prefix_l z (loopC k_ (pensionref1_Prefix_l z)) (n_2, out_, i_) = some r := hF
  generalize hrec_ : loopC k_ (pensionref1_Prefix_l z) = rec_ at hF
  rw [pensionref1_Prefix_l] at hF
  refine WP.seq (WP.seq (WP.rb mixed [[], [], [1], [0, 2], [3], [4], [4, 5], [4, 6]] [[7], [6], [], [], [], [1], [], []] [(11, .int .i64 i_), (12, v6_), (13, .int .i64 (z.length : Int)), (14, .bool (decide (i_ < (z.length : Int)))), (15, .bool (decide (i_ < (z.length : Int)))), (16, gv (decide (i_ < (z.length : Int))) (.int .i64 n_2)), (17, gv (decide (i_ < (z.length : Int))) (.bool (decide (0 < n_2)))), (18, .bool (decide (i_ < (z.length : Int)) && decide (0 < n_2)))] (by kernel_rfl) ⟨mE rfl rfl h7,
 mE rfl rfl h6,
 fun ρz wz hE hA _ ⟨u1, _⟩ => core_val rfl rfl (o_len (u1.trans hs_Hf6) len_32),
 fun ρz wz hE hA _ ⟨u0, u2, _⟩ => core_val rfl rfl (o_lss u0 u2 rfl),
 mU rfl rfl rfl,
 fun ρz wz hE hA ⟨e1, _⟩ ⟨u4, _⟩ => gIf rfl rfl (yT rfl u4) fun gc F hF => core_val rfl hF (o_move (e1.trans h1)),
 fun ρz wz hE hA _ ⟨u4, u5, _⟩ => gIf rfl rfl (yT rfl u4) fun gc F hF => core_val rfl hF (o_gtr (gt gc u5) rfl rfl),
 fun ρz wz hE hA _ ⟨u4, u6, _⟩ => core_val rfl rfl (o_pick_and u4 u6 rfl), trivial⟩ ?_))
  intro ρ6 w6 hN hf hr
  have h18 := hv hf 7 rfl rfl
  obtain ⟨h1, h5, h6, h7⟩ := k4 hr h1 h5 h6 h7 rfl
  have Oo_O5 := O5
  have Hf6 := Hf6.exn hN
  have hW := hW.trans hN
  have O5 := Oo_O5.exn hN
  refine WP.cond rfl h18 (fun hb => ?_) (fun hb => ?_)
  · have hF := (if_pos hb).symm.trans hF
    refine WP.skip (WP.seq (WP.block (WP.seq ?_)))
    obtain ⟨y, hy, hF⟩ := obind hF
    obtain ⟨ay, cy, hvy, hiy, hAy⟩ := RepSl.getF Hf6 hy
    obtain ⟨y2, hy2, hF⟩ := obind hF
    obtain ⟨ay2, cy2, hvy2, hiy2, hAy2⟩ := RepSl.getF Hf6 hy2
    refine WP.rb mixed [[], [], [], [1, 2], [3], [4], [], [], [6, 7], [8], [9], [5, 10], [0, 11], [12]] [[1], [6], [7], [], [], [], [6], [7], [], [], [], [], [], []] [(21, .int .i64 n_2), (22, v6_), (23, .int .i64 i_), (24, .pointer (some (ay.add (Int.toNat i_ * 2)))), (25, .pointer (some ((ay.add (Int.toNat i_ * 2)).add 1))), (26, .int .i64 y.To), (27, v6_), (28, .int .i64 i_), (29, .pointer (some (ay2.add (Int.toNat i_ * 2)))), (30, .pointer (some ((ay2.add (Int.toNat i_ * 2)).add 0))), (31, .int .i64 y2.From), (32, .int .i64 (i64 (y.To - y2.From))), (33, .int .i64 (min n_2 (i64 (y.To - y2.From)))), (8, .int .i64 (min n_2 (i64 (y.To - y2.From))))] (by kernel_rfl) ⟨mE rfl rfl h1,
 mE rfl rfl h6,
 mE rfl rfl h7,
 fun ρz wz hE hA _ ⟨u1, u2, _⟩ => core_val rfl rfl (o_indexAddr (u1.trans hvy) u2 (ia_32 hiy)),
 fun ρz wz hE hA _ ⟨u3, _⟩ => core_val rfl rfl (o_fieldAddr u3 (fa_31_1 _ _)),
 fun ρz wz hE hA _ ⟨u4, _⟩ => core_val rfl rfl (o_load u4 (run_load1 (lr_3 _ _) (CA.sub ((hAy.exn (hA rfl)).ca) 1 1))),
 mE rfl rfl h6,
 mE rfl rfl h7,
 fun ρz wz hE hA _ ⟨u6, u7, _⟩ => core_val rfl rfl (o_indexAddr (u6.trans hvy2) u7 (ia_32 hiy2)),
 fun ρz wz hE hA _ ⟨u8, _⟩ => core_val rfl rfl (o_fieldAddr u8 (fa_31_0 _ _)),
 fun ρz wz hE hA _ ⟨u9, _⟩ => core_val rfl rfl (o_load u9 (run_load1 (lr_3 _ _) (CA.sub ((hAy2.exn (hA rfl)).ca) 0 1))),
 fun ρz wz hE hA _ ⟨u5, u10, _⟩ => core_val rfl rfl (o_sub u5 u10 rfl),
 fun ρz wz hE hA _ ⟨u0, u11, _⟩ => core_val rfl rfl (o_min2 u0 u11),
 aU rfl rfl rfl, trivial⟩ ?_
    intro ρ7 w7 hN hf hr
    have h8 := hv hf 13 rfl rfl
    obtain ⟨h1, h5, h6, h7⟩ := k4 hr h1 h5 h6 h7 rfl
    have Oo_O5 := O5
    have Hf6 := Hf6.exn hN
    have hW := hW.trans hN
    have O5 := Oo_O5.exn hN
    refine WP.seq ?_
    obtain ⟨y3, hy3, hF⟩ := obind hF
    obtain ⟨ay3, cy3, hvy3, hiy3, hAy3⟩ := RepSl.getF Hf6 hy3
    obtain ⟨y4, hy4, hF⟩ := obind hF
    obtain ⟨ay4, cy4, hvy4, hiy4, hAy4⟩ := RepSl.getF Hf6 hy4
    obtain ⟨l, hl, hF⟩ := obind hF
    refine WP.region mixed [[], [], [], [1, 2], [3], [4], [], [], [6, 7], [8], [9], [], [10, 11], [5, 10, 12], [5, 10, 13], [0, 5, 10, 14], [0, 15]] [[], [], [], [1, 2], [3], [4], [], [], [6, 7], [8], [9], [], [10, 11], [5, 12], [13], [0, 14], [15]] [[5], [6], [7], [], [], [], [6], [7], [], [], [], [8], [], [], [], [], []] [15] [] [val 34 (v5_), val 35 (v6_), val 36 (.int .i64 i_), val 37 (.pointer (some (ay3.add (Int.toNat i_ * 2)))), val 38 (.pointer (some ((ay3.add (Int.toNat i_ * 2)).add 0))), val 39 (.int .i64 y3.From), val 40 (v6_), val 41 (.int .i64 i_), val 42 (.pointer (some (ay4.add (Int.toNat i_ * 2)))), val 43 (.pointer (some ((ay4.add (Int.toNat i_ * 2)).add 0))), val 44 (.int .i64 y4.From), val 45 (.int .i64 (min n_2 (i64 (y.To - y2.From)))), val 46 (.int .i64 (i64 (y4.From + min n_2 (i64 (y.To - y2.From))))), val 47 (Span.val (⟨y3.From, i64 (y4.From + min n_2 (i64 (y.To - y2.From)))⟩ : Span)), (48, fun u wz => ∃ b, u = .slice (some ⟨b, 0, none⟩) 1 1 ∧ w7.heap.size ≤ b ∧ Mb wz b 31 (([(⟨y3.From, i64 (y4.From + min n_2 (i64 (y.To - y2.From)))⟩ : Span)]).flatMap Span.cells)), (49, fun u wz => Own w0.heap.size 31 2 Span.cells wz u l ∧ ∀ b, u.ownBlock = some b → (v5_.ownBlock = some b ∨ w7.heap.size ≤ b)), (5, fun u wz => Own w0.heap.size 31 2 Span.cells wz u l ∧ ∀ b, u.ownBlock = some b → (v5_.ownBlock = some b ∨ w7.heap.size ≤ b))] (fun b => Value.ownBlock v5_ = some b) (by kernel_rfl) ⟨sV, sV, sV, sV, sV, sV, sV, sV, sV, sV, sV, sV, sV, sV, fun _ _ _ hE ⟨b, hz, hs, hM⟩ => ⟨b, hz, hs, hM.ext hE (fun hg => absurd (O5.lt hg).2 (Nat.not_lt.2 hs))⟩, fun _ _ _ hE ⟨hO, hf⟩ => ⟨hO.exn hE, hf⟩, fun _ _ _ hE ⟨hO, hf⟩ => ⟨hO.exn hE, hf⟩, trivial⟩ ⟨mE rfl rfl h5,
 mE rfl rfl h6,
 mE rfl rfl h7,
 fun ρz wz hE hA _ ⟨u1, u2, _⟩ => core_val rfl rfl (o_indexAddr (u1.trans hvy3) u2 (ia_32 hiy3)),
 fun ρz wz hE hA _ ⟨u3, _⟩ => core_val rfl rfl (o_fieldAddr u3 (fa_31_0 _ _)),
 fun ρz wz hE hA _ ⟨u4, _⟩ => core_val rfl rfl (o_load u4 (run_load1 (lr_3 _ _) (CA.sub ((hAy3.exn (hA rfl)).ca) 0 1))),
 mE rfl rfl h6,
 mE rfl rfl h7,
 fun ρz wz hE hA _ ⟨u6, u7, _⟩ => core_val rfl rfl (o_indexAddr (u6.trans hvy4) u7 (ia_32 hiy4)),
 fun ρz wz hE hA _ ⟨u8, _⟩ => core_val rfl rfl (o_fieldAddr u8 (fa_31_0 _ _)),
 fun ρz wz hE hA _ ⟨u9, _⟩ => core_val rfl rfl (o_load u9 (run_load1 (lr_3 _ _) (CA.sub ((hAy4.exn (hA rfl)).ca) 0 1))),
 mE rfl rfl h8,
 fun ρz wz hE hA _ ⟨u10, u11, _⟩ => core_val rfl rfl (o_add u10 u11 rfl),
 fun ρz wz hE hA _ ⟨u5, u12, _⟩ => core_val rfl rfl (o_build (build_parts2 u5 u12) (bd_31_0_1 _ _ _)),
 fun ρz wz hE hA _ ⟨u13, _⟩ => core_slice rfl rfl hE (o_buildSlice (build_parts1 u13) (bs_32_1 _ _)),
 fun ρz wz hE hA _ ⟨u0, ⟨bz14, hz14, hge14, hM14⟩, _⟩ => core_append (n := 2) (cells := Span.cells) (B := w0.heap.size) (w0 := w7) rfl rfl (fun b hb => hb) u0 hz14 (fun _ => rfl) one_31 si_32 se_31 (by decide) (by decide) (O5.exn (hA rfl)) ⟨_, (Mb.rep (n := 2) (cells := Span.cells) (hn := fun _ => rfl) (G := noG) hM14 rfl (Nat.le_of_ble_eq_true rfl) (fun h => h))⟩ hl (Nat.le_trans hW.size hE.size) hE.size (fun v1 w1 h1 h2 => ⟨h1, h2⟩),
 fun ρz wz hE hA _ ⟨⟨hO15, hfr15⟩, _⟩ => core_copy rfl rfl (o_assign rfl) ⟨hO15, hfr15⟩, trivial⟩ ?_
    intro ρ8 w8 hE hN hf hr
    obtain ⟨v5_2, h5⟩ : ∃ v, ρ8 5 = v := ⟨_, rfl⟩
    have hq5 : (fun u wz => Own w0.heap.size 31 2 Span.cells wz u l ∧ ∀ b, u.ownBlock = some b → (v5_.ownBlock = some b ∨ w7.heap.size ≤ b)) (ρ8 5) w8 := hf 16 rfl
    rw [h5] at hq5
    obtain ⟨hq5, hfr5⟩ := hq5
    obtain ⟨h1, h6, h7, h8⟩ := k4 hr h1 h6 h7 h8 rfl
    have Oo_O5 := O5
    have Hf6 : RepSl Span.R (gL [ownG v5_2]) w8 v6_ z := Hf6.mv hE (fun _ h => .inl (.inl h)) (fun b h => h.elim (fun h => (hfr5 _ h).elim (fun h => .inl (by have h := h; exact (.inl h))) (fun h => .inr h)) (fun h => h.elim))
    have hW := Ext.own hW hE (fun b hb => (Oo_O5.lt hb).1)
    have O5 := hq5
    refine WP.rv mixed [[], [], [0, 1], [0, 2]] [[], [], [0, 1], [2]] [[1], [8], [], []] [(50, .int .i64 n_2), (51, .int .i64 (min n_2 (i64 (y.To - y2.From)))), (52, .int .i64 (i64 (n_2 - (min n_2 (i64 (y.To - y2.From)))))), (1, .int .i64 (i64 (n_2 - (min n_2 (i64 (y.To - y2.From))))))] (by kernel_rfl) ⟨mE rfl rfl h1,
 mE rfl rfl h8,
 fun ρz wz hE hA _ ⟨u0, u1, _⟩ => core_val rfl rfl (o_sub u0 u1 rfl),
 aU rfl rfl rfl, trivial⟩ ?_
    intro ρ9 w9 hN hf hr
    have h1 := hv hf 3 rfl rfl
    obtain ⟨h5, h6, h7⟩ := k3 hr h5 h6 h7 rfl
    have Oo_O5 := O5
    have Hf6 := Hf6.exn hN
    have hW := hW.trans hN
    have O5 := Oo_O5.exn hN
    refine WP.rv mixed [[], [0], [0, 1]] [[], [0], [1]] [[7], [], []] [(19, .int .i64 i_), (20, .int .i64 (i64 (i_ + 1))), (7, .int .i64 (i64 (i_ + 1)))] (by kernel_rfl) ⟨mE rfl rfl h7,
 fun ρz wz hE hA _ ⟨u0, _⟩ => core_val rfl rfl (o_add u0 rfl rfl),
 aU rfl rfl rfl, trivial⟩ ?_
    intro ρ10 w10 hN hf hr
    have h7 := hv hf 2 rfl rfl
    obtain ⟨h1, h5, h6⟩ := k3 hr h1 h5 h6 rfl
    have Oo_O5 := O5
    have Hf6 := Hf6.exn hN
    have hW := hW.trans hN
    have O5 := Oo_O5.exn hN
    exact ⟨i64 (n_2 - (min n_2 (i64 (y.To - y2.From)))), l, i64 (i_ + 1), v5_2, h1, h5, h6, h7, Hf6, O5, hW, (by first | exact hF | (rw [hrec_]; exact hF))⟩
  have hF := (if_neg (Bool.eq_false_iff.1 hb)).symm.trans hF
  refine WP.exit (thenQ_exit (thenQ_exit (blockQ_hit (WP.seq (WP.rb mixed [[], [0]] [[5], []] [(53, v5_), (4, v5_)] (by kernel_rfl) ⟨mE rfl rfl h5,
 aU rfl rfl rfl, trivial⟩ ?_)))))
  intro ρ11 w11 hN hf hr
  have h4 := hv hf 1 rfl rfl
  have Oo_O5 := O5
  have hW := hW.trans hN
  have O4 := Oo_O5.exn hN
  refine WP.ret ?_
  show retQ Try.prog 54 Try.f23 (fun v w1 => Own w0.heap.size 31 2 Span.cells w1 v r ∧ Ext noG w0 w1) .ret ρ11 w11
  obtain rfl := Option.some.inj hF
  exact res1 rfl (by decide) h4 ⟨O4, hW⟩

set_option maxHeartbeats 4000000 in
theorem pensionref1_Intersect_ok {w0 : World} (a_ : List Span) (b_ : List Span) {v_a_ : Value} (H_a_ : RepSl Span.R noG w0 v_a_ a_) {v_b_ : Value} (H_b_ : RepSl Span.R noG w0 v_b_ b_) {r : (List Span)} (hF : pensionref1_Intersect a_ b_ = some r) :
    Calls Try.prog 24 #[v_a_, v_b_] w0 fun e w1 => ∃ v, e = .returned v ∧ Ext noG w0 w1 ∧ Own w0.heap.size 31 2 Span.cells w1 v r := by
  refine (Calls.start (P := Try.prog) (args := [v_a_, v_b_]) (R := fun v w1 => Own w0.heap.size 31 2 Span.cells w1 v r ∧ Ext noG w0 w1) (n := 8) (w := w0) Try.func24 rfl rfl (Nat.le_of_ble_eq_true rfl) (fun ρ hargs => ?_)).mono (fun e w1 ⟨v, he, hv, hE⟩ => ⟨v, he, hE, hv⟩)
  have h0 := hargs 0 _ rfl
  have h1 := hargs 1 _ rfl
  have hW := Ext.refl noG w0
  obtain ⟨_, _, hs_H_a_, _, _⟩ := RepSl.shape H_a_
  have H_a_ := H_a_.start
  obtain ⟨_, _, hs_H_b_, _, _⟩ := RepSl.shape H_b_
  have H_b_ := H_b_.start
  rw [pensionref1_Intersect] at hF
  refine WP.seq (WP.rb mixed [[]] [[]] [(4, .slice none 0 0)] (by kernel_rfl) ⟨aC rfl rfl (fun _ => rfl), trivial⟩ ?_)
  intro ρ1 w1 hN hf hr
  obtain ⟨h0, h1⟩ := k2 hr h0 h1 rfl
  have H_a_ := H_a_.exn hN
  have H_b_ := H_b_.exn hN
  have hW := hW.trans hN
  refine WP.seq ?_
  obtain ⟨z, hz, hF⟩ := obind hF
  refine WP.rg mixed [[], [], [0, 1], [2]] [[], [], [0, 1], [2]] [[0], [1], [], []] [val 5 (v_a_), val 6 (v_b_), (7, fun u wz => Own w0.heap.size 31 2 Span.cells wz u z ∧ ∀ b, u.ownBlock = some b → w1.heap.size ≤ b), (4, fun u wz => Own w0.heap.size 31 2 Span.cells wz u z ∧ ∀ b, u.ownBlock = some b → w1.heap.size ≤ b)] (by kernel_rfl) ⟨sV, sV, fun _ _ _ hE ⟨hO, hf⟩ => ⟨hO.exn hE, hf⟩, fun _ _ _ hE ⟨hO, hf⟩ => ⟨hO.exn hE, hf⟩, trivial⟩ ⟨mE rfl rfl h0,
 mE rfl rfl h1,
 fun ρz wz hE hA _ ⟨u0, u1, _⟩ => core_callR rfl (call_args3 u0 u1 rfl) cf_35 ((pensionref1_combine_ok  _ _ _ (H_a_.exn (hA rfl)).no (H_b_.exn (hA rfl)).no hz).mono (fun e w1 ⟨v, he, hE1, hO⟩ => ⟨v, he, hE1, hO.base (Nat.le_trans hW.size hE.size), fun b hb => Nat.le_trans hE.size (hO.lt hb).1⟩)),
 fun ρz wz hE hA _ ⟨⟨hO2, hfr2⟩, _⟩ => core_copy rfl rfl (o_assign rfl) ⟨hO2, hfr2⟩, trivial⟩ ?_
  intro ρ2 w2 hN hf hr
  obtain ⟨v4_, h4⟩ : ∃ v, ρ2 4 = v := ⟨_, rfl⟩
  have hq4 : (fun u wz => Own w0.heap.size 31 2 Span.cells wz u z ∧ ∀ b, u.ownBlock = some b → w1.heap.size ≤ b) (ρ2 4) w2 := hf 3 rfl
  rw [h4] at hq4
  obtain ⟨hq4, hfr4⟩ := hq4
  have hW := hW.trans hN
  have O4 := hq4
  refine WP.ret ?_
  show retQ Try.prog 8 Try.f24 (fun v w1 => Own w0.heap.size 31 2 Span.cells w1 v r ∧ Ext noG w0 w1) .ret ρ2 w2
  obtain rfl := Option.some.inj hF
  exact res1 rfl (by decide) h4 ⟨O4, hW⟩

set_option maxHeartbeats 4000000 in
theorem pensionlaw25_SicknessWaitingDays_ok {w0 : World} (d_ : List pensionlaw25_Raw) (i_ : Int) {v_d_ : Value} (H_d_ : RepSl pensionlaw25_Raw.R noG w0 v_d_ d_) {r : Bool} (hF : pensionlaw25_SicknessWaitingDays d_ i_ = some r) :
    Calls Try.prog 6 #[v_d_, .int .i64 i_] w0 fun e w1 => e = .returned (.bool r) ∧ Ext noG w0 w1 := by
  refine (Calls.start (P := Try.prog) (args := [v_d_, .int .i64 i_]) (R := fun v w1 => v = .bool r ∧ Ext noG w0 w1) (n := 68) (w := w0) Try.func6 rfl rfl (Nat.le_of_ble_eq_true rfl) (fun ρ hargs => ?_)).mono (fun e w1 ⟨v, he, hv, hE⟩ => ⟨hv ▸ he, hE⟩)
  have h0 := hargs 0 _ rfl
  have h1 := hargs 1 _ rfl
  have hW := Ext.refl noG w0
  obtain ⟨_, _, hs_H_d_, _, _⟩ := RepSl.shape H_d_
  have H_d_ := H_d_.start
  rw [pensionlaw25_SicknessWaitingDays] at hF
  refine WP.seq (WP.rb mixed [[]] [[]] [(4, .bool false)] (by kernel_rfl) ⟨aC rfl rfl (fun _ => rfl), trivial⟩ ?_)
  intro ρ1 w1 hN hf hr
  obtain ⟨h0, h1⟩ := k2 hr h0 h1 rfl
  have H_d_ := H_d_.exn hN
  have hW := hW.trans hN
  refine WP.seq ?_
  obtain ⟨z, hz, hF⟩ := obind hF
  refine WP.rg mixed [[], [], [0, 1], [2]] [[], [], [0, 1], [2]] [[0], [1], [], []] [val 13 (v_d_), val 14 (.int .i64 i_), (15, fun u wz => Own w0.heap.size 49 14 api_Fact.cells wz u z ∧ ∀ b, u.ownBlock = some b → w1.heap.size ≤ b), (5, fun u wz => Own w0.heap.size 49 14 api_Fact.cells wz u z ∧ ∀ b, u.ownBlock = some b → w1.heap.size ≤ b)] (by kernel_rfl) ⟨sV, sV, fun _ _ _ hE ⟨hO, hf⟩ => ⟨hO.exn hE, hf⟩, fun _ _ _ hE ⟨hO, hf⟩ => ⟨hO.exn hE, hf⟩, trivial⟩ ⟨mE rfl rfl h0,
 mE rfl rfl h1,
 fun ρz wz hE hA _ ⟨u0, u1, _⟩ => core_callR rfl (call_args2 u0 u1) cf_8 ((pensionlaw25_List_ok  _ _ (H_d_.exn (hA rfl)).no hz).mono (fun e w1 ⟨v, he, hE1, hO⟩ => ⟨v, he, hE1, hO.base (Nat.le_trans hW.size hE.size), fun b hb => Nat.le_trans hE.size (hO.lt hb).1⟩)),
 fun ρz wz hE hA _ ⟨⟨hO2, hfr2⟩, _⟩ => core_copy rfl rfl (o_assign rfl) ⟨hO2, hfr2⟩, trivial⟩ ?_
  intro ρ2 w2 hN hf hr
  obtain ⟨v5_, h5⟩ : ∃ v, ρ2 5 = v := ⟨_, rfl⟩
  have hq5 : (fun u wz => Own w0.heap.size 49 14 api_Fact.cells wz u z ∧ ∀ b, u.ownBlock = some b → w1.heap.size ≤ b) (ρ2 5) w2 := hf 3 rfl
  rw [h5] at hq5
  obtain ⟨hq5, hfr5⟩ := hq5
  have hW := hW.trans hN
  have Hf5 : RepSl api_Fact.R noG w2 v5_ z := hq5.rep (fun _ _ h => h)
  obtain ⟨_, _, hs_Hf5, _, _⟩ := RepSl.shape Hf5
  refine WP.seq ?_
  obtain ⟨z2, hz2, hF⟩ := obind hF
  obtain ⟨z3, hz3, hF⟩ := obind hF
  obtain ⟨z4, hz4, hF⟩ := obind hF
  refine WP.rg mixed [[], [0], [], [2], [], [4], [1], [3], [5]] [[], [0], [], [2], [], [4], [1], [3], [5]] [[5], [], [5], [], [5], [], [], [], []] [val 16 (v5_), (17, fun u wz => Own w0.heap.size 31 2 Span.cells wz u z2 ∧ ∀ b, u.ownBlock = some b → w2.heap.size ≤ b), val 18 (v5_), (19, fun u wz => Own w0.heap.size 31 2 Span.cells wz u z3 ∧ ∀ b, u.ownBlock = some b → w2.heap.size ≤ b), val 20 (v5_), (21, fun u wz => Own w0.heap.size 31 2 Span.cells wz u z4 ∧ ∀ b, u.ownBlock = some b → w2.heap.size ≤ b), (6, fun u wz => Own w0.heap.size 31 2 Span.cells wz u z2 ∧ ∀ b, u.ownBlock = some b → w2.heap.size ≤ b), (7, fun u wz => Own w0.heap.size 31 2 Span.cells wz u z3 ∧ ∀ b, u.ownBlock = some b → w2.heap.size ≤ b), (8, fun u wz => Own w0.heap.size 31 2 Span.cells wz u z4 ∧ ∀ b, u.ownBlock = some b → w2.heap.size ≤ b)] (by kernel_rfl) ⟨sV, fun _ _ _ hE ⟨hO, hf⟩ => ⟨hO.exn hE, hf⟩, sV, fun _ _ _ hE ⟨hO, hf⟩ => ⟨hO.exn hE, hf⟩, sV, fun _ _ _ hE ⟨hO, hf⟩ => ⟨hO.exn hE, hf⟩, fun _ _ _ hE ⟨hO, hf⟩ => ⟨hO.exn hE, hf⟩, fun _ _ _ hE ⟨hO, hf⟩ => ⟨hO.exn hE, hf⟩, fun _ _ _ hE ⟨hO, hf⟩ => ⟨hO.exn hE, hf⟩, trivial⟩ ⟨mE rfl rfl h5,
 fun ρz wz hE hA _ ⟨u0, _⟩ => core_callR rfl (call_args1 u0) cf_13 ((sickness_Sick_ok  _ (Hf5.exn (hA rfl)).no hz2).mono (fun e w1 ⟨v, he, hE1, hO⟩ => ⟨v, he, hE1, hO.base (Nat.le_trans hW.size hE.size), fun b hb => Nat.le_trans hE.size (hO.lt hb).1⟩)),
 mE rfl rfl h5,
 fun ρz wz hE hA _ ⟨u2, _⟩ => core_callR rfl (call_args1 u2) cf_15 ((sickness_Spells_ok  _ (Hf5.exn (hA rfl)).no hz3).mono (fun e w1 ⟨v, he, hE1, hO⟩ => ⟨v, he, hE1, hO.base (Nat.le_trans hW.size hE.size), fun b hb => Nat.le_trans hE.size (hO.lt hb).1⟩)),
 mE rfl rfl h5,
 fun ρz wz hE hA _ ⟨u4, _⟩ => core_callR rfl (call_args1 u4) cf_17 ((sickness_Payable_ok  _ (Hf5.exn (hA rfl)).no hz4).mono (fun e w1 ⟨v, he, hE1, hO⟩ => ⟨v, he, hE1, hO.base (Nat.le_trans hW.size hE.size), fun b hb => Nat.le_trans hE.size (hO.lt hb).1⟩)),
 fun ρz wz hE hA _ ⟨⟨hO1, hfr1⟩, _⟩ => core_copy rfl rfl (o_assign rfl) ⟨hO1, hfr1⟩,
 fun ρz wz hE hA _ ⟨⟨hO3, hfr3⟩, _⟩ => core_copy rfl rfl (o_assign rfl) ⟨hO3, hfr3⟩,
 fun ρz wz hE hA _ ⟨⟨hO5, hfr5⟩, _⟩ => core_copy rfl rfl (o_assign rfl) ⟨hO5, hfr5⟩, trivial⟩ ?_
  intro ρ3 w3 hN hf hr
  obtain ⟨v6_, h6⟩ : ∃ v, ρ3 6 = v := ⟨_, rfl⟩
  have hq6 : (fun u wz => Own w0.heap.size 31 2 Span.cells wz u z2 ∧ ∀ b, u.ownBlock = some b → w2.heap.size ≤ b) (ρ3 6) w3 := hf 6 rfl
  rw [h6] at hq6
  obtain ⟨hq6, hfr6⟩ := hq6
  obtain ⟨v7_, h7⟩ : ∃ v, ρ3 7 = v := ⟨_, rfl⟩
  have hq7 : (fun u wz => Own w0.heap.size 31 2 Span.cells wz u z3 ∧ ∀ b, u.ownBlock = some b → w2.heap.size ≤ b) (ρ3 7) w3 := hf 7 rfl
  rw [h7] at hq7
  obtain ⟨hq7, hfr7⟩ := hq7
  obtain ⟨v8_, h8⟩ : ∃ v, ρ3 8 = v := ⟨_, rfl⟩
  have hq8 : (fun u wz => Own w0.heap.size 31 2 Span.cells wz u z4 ∧ ∀ b, u.ownBlock = some b → w2.heap.size ≤ b) (ρ3 8) w3 := hf 8 rfl
  rw [h8] at hq8
  obtain ⟨hq8, hfr8⟩ := hq8
  have hW := hW.trans hN
  have Hf6 : RepSl Span.R noG w3 v6_ z2 := hq6.rep (fun _ _ h => h)
  obtain ⟨_, _, hs_Hf6, _, _⟩ := RepSl.shape Hf6
  have Hf7 : RepSl Span.R noG w3 v7_ z3 := hq7.rep (fun _ _ h => h)
  obtain ⟨_, _, hs_Hf7, _, _⟩ := RepSl.shape Hf7
  have Hf8 : RepSl Span.R noG w3 v8_ z4 := hq8.rep (fun _ _ h => h)
  obtain ⟨_, _, hs_Hf8, _, _⟩ := RepSl.shape Hf8
  refine WP.seq (WP.seq ?_)
  obtain ⟨z5, hz5, hF⟩ := obind hF
  obtain ⟨c, hc, hF⟩ := obind hF
  obtain ⟨z6, hz6, hc⟩ := orB hc
  have hc := orE hc
  obtain ⟨c2, hc2, hF⟩ := obind hF
  obtain ⟨z7, hz7, hc2⟩ := orB hc2
  have hc2 := orE hc2
  refine WP.rg mixed [[], [0], [1], [2], [2, 3], [2, 4], [2, 5], [6], [7], [7], [7, 8, 9], [7, 10], [7, 11], [7, 12]] [[], [0], [1], [2], [2, 3], [2, 4], [2, 5], [6], [7], [7], [7, 8, 9], [7, 10], [7, 11], [7, 12]] [[], [], [], [8], [], [], [], [], [8], [6], [], [], [], []] [val 22 (.bool z5), val 23 (.bool (!z5)), val 24 (.bool (!z5)), val 25 (gv (!(!z5)) v8_), val 26 (gv (!(!z5)) (.bool z6)), val 27 (gv (!(!z5)) (.bool (!z6))), val 28 (.bool c), val 29 (.bool c), val 30 (gv (!c) v8_), val 31 (gv (!c) v6_), (32, fun u wz => (!c) = true → (fun u wz => Own w0.heap.size 31 2 Span.cells wz u z7 ∧ ∀ b, u.ownBlock = some b → w3.heap.size ≤ b) u wz), val 33 (gv (!c) (.int .i64 (z7.length : Int))), val 34 (gv (!c) (.bool (decide (0 < (z7.length : Int))))), val 35 (.bool c2)] (by kernel_rfl) ⟨sV, sV, sV, sV, sV, sV, sV, sV, sV, sV, stabI (Φ := fun u wz => Own w0.heap.size 31 2 Span.cells wz u z7 ∧ ∀ b, u.ownBlock = some b → w3.heap.size ≤ b) (fun _ _ _ hE ⟨hO, hf⟩ => ⟨hO.exn hE, hf⟩), sV, sV, sV, trivial⟩ ⟨fun ρz wz hE hA _ _ => core_call rfl call_args0 cf_11 (pensionlaw25_awake_ok    hz5),
 fun ρz wz hE hA _ ⟨u0, _⟩ => core_val rfl rfl (o_not u0 rfl),
 mU rfl rfl rfl,
 fun ρz wz hE hA ⟨e8, _⟩ ⟨u2, _⟩ => gIf rfl rfl (yF rfl u2) fun gc F hF => core_val rfl hF (o_move (e8.trans h8)),
 fun ρz wz hE hA _ ⟨u2, u3, _⟩ => gIf rfl rfl (yF rfl u2) fun gc F hF => core_call hF (call_args1 (gt gc u3)) cf_19 (pensionref1_Normal_ok  _ (Hf8.exn (hA rfl)).no (hz6 gc)),
 fun ρz wz hE hA _ ⟨u2, u4, _⟩ => gIf rfl rfl (yF rfl u2) fun gc F hF => core_val rfl hF (o_not (gt gc u4) rfl),
 fun ρz wz hE hA _ ⟨u2, u5, _⟩ => core_valE rfl rfl (congrArg Value.bool hc) (o_pick_or u2 rfl u5),
 mU rfl rfl rfl,
 fun ρz wz hE hA ⟨e8, _⟩ ⟨u7, _⟩ => gIf rfl rfl (yF rfl u7) fun gc F hF => core_val rfl hF (o_move (e8.trans h8)),
 fun ρz wz hE hA ⟨e6, _⟩ ⟨u7, _⟩ => gIf rfl rfl (yF rfl u7) fun gc F hF => core_val rfl hF (o_move (e6.trans h6)),
 fun ρz wz hE hA _ ⟨u7, u8, u9, _⟩ => gIfR rfl (yF rfl u7) fun gc F hF => core_callR hF (call_args2 (gt gc u8) (gt gc u9)) cf_20 ((pensionref1_Subtract_ok  _ _ (Hf8.exn (hA rfl)).no (Hf6.exn (hA rfl)).no (hz7 gc)).mono (fun e w1 ⟨v, he, hE1, hO⟩ => ⟨v, he, hE1, hO.base (Nat.le_trans hW.size hE.size), fun b hb => Nat.le_trans hE.size (hO.lt hb).1⟩)),
 fun ρz wz hE hA _ ⟨u7, u10, _⟩ => gIf rfl rfl (yF rfl u7) fun gc F hF => let ⟨hO10, hfr10⟩ := u10 gc; core_val rfl hF (o_len ((Own.shape hO10).choose_spec.choose_spec.1) len_32),
 fun ρz wz hE hA _ ⟨u7, u11, _⟩ => gIf rfl rfl (yF rfl u7) fun gc F hF => core_val rfl hF (o_gtr (gt gc u11) rfl rfl),
 fun ρz wz hE hA _ ⟨u7, u12, _⟩ => core_valE rfl rfl (congrArg Value.bool hc2) (o_pick_or u7 rfl u12), trivial⟩ ?_
  intro ρ4 w4 hN hf hr
  have h35 : ρ4 35 = .bool c2 := hf 13 rfl
  obtain ⟨h6, h7, h8⟩ := k3 hr h6 h7 h8 rfl
  have Hf6 := Hf6.exn hN
  have Hf7 := Hf7.exn hN
  have Hf8 := Hf8.exn hN
  have hW := hW.trans hN
  refine WP.cond rfl h35 (fun hb => ?_) (fun hb => ?_)
  · have hF := (if_pos hb).symm.trans hF
    refine WP.seq (WP.rb mixed [[]] [[]] [(4, .bool false)] (by kernel_rfl) ⟨aC rfl rfl (fun _ => rfl), trivial⟩ ?_)
    intro ρ5 w5 hN hf hr
    have h4 := hv hf 0 rfl rfl
    have hW := hW.trans hN
    refine WP.ret ?_
    show retQ Try.prog 68 Try.f6 (fun v w1 => v = .bool r ∧ Ext noG w0 w1) .ret ρ5 w5
    obtain rfl := Option.some.inj hF
    exact res1 rfl (by decide) h4 ⟨rfl, hW⟩
  have hF := (if_neg (Bool.eq_false_iff.1 hb)).symm.trans hF
  refine WP.skip (WP.seq ?_)
  obtain ⟨z8, hz8, hF⟩ := obind hF
  refine WP.rb mixed [[], [0], [1]] [[6], [], []] [(36, v6_), (37, .int .i64 z8), (9, .int .i64 z8)] (by kernel_rfl) ⟨mE rfl rfl h6,
 fun ρz wz hE hA _ ⟨u0, _⟩ => core_call rfl (call_args1 u0) cf_21 (pensionref1_Days_ok  _ (Hf6.exn (hA rfl)).no hz8),
 aU rfl rfl rfl, trivial⟩ ?_
  intro ρ6 w6 hN hf hr
  have h9 := hv hf 2 rfl rfl
  obtain ⟨h6, h7, h8⟩ := k3 hr h6 h7 h8 rfl
  have Hf6 := Hf6.exn hN
  have Hf7 := Hf7.exn hN
  have Hf8 := Hf8.exn hN
  have hW := hW.trans hN
  refine WP.seq (WP.seq (WP.rb mixed [[]] [[]] [(10, .int .i64 0)] (by kernel_rfl) ⟨aC rfl rfl (fun _ => rfl), trivial⟩ ?_))
  intro ρ7 w7 hN hf hr
  have h10 := hv hf 0 rfl rfl
  obtain ⟨h6, h7, h8, h9⟩ := k4 hr h6 h7 h8 h9 rfl
  have Hf6 := Hf6.exn hN
  have Hf7 := Hf7.exn hN
  have Hf8 := Hf8.exn hN
  have hW := hW.trans hN
  refine WP.block (WP.loop (fun k_ ρ w => ∃ x : Int, ρ 6 = v6_ ∧ ρ 7 = v7_ ∧ ρ 8 = v8_ ∧ ρ 9 = .int .i64 z8 ∧ ρ 10 = .int .i64 x ∧ RepSl Span.R noG w v6_ z2 ∧ RepSl Span.R noG w v7_ z3 ∧ RepSl Span.R noG w v8_ z4 ∧ Ext noG w0 w ∧ loopC k_ (pensionlaw25_SicknessWaitingDays_l z2 z3 z4 z8) x = some r) FU ⟨0, h6, h7, h8, h9, h10, Hf6, Hf7, Hf8, hW, hF⟩ (fun _ _ h => by obtain ⟨_, _, _, _, _, _, _, _, _, _, h⟩ := h; cases h) ?_)
  rintro k_ ρ8 w8 ⟨x, h6, h7, h8, h9, h10, Hf6, Hf7, Hf8, hW, hF⟩
  have hF : pensionlaw25_SicknessWaitingDays_l z2 z3 z4 z8 (loopC k_ (pensionlaw25_SicknessWaitingDays_l z2 z3 z4 z8)) x = some r := hF
  generalize hrec_ : loopC k_ (pensionlaw25_SicknessWaitingDays_l z2 z3 z4 z8) = rec_ at hF
  rw [pensionlaw25_SicknessWaitingDays_l] at hF
  refine WP.seq (WP.seq (WP.rb mixed [[], [], [1], [0, 2]] [[10], [7], [], []] [(38, .int .i64 x), (39, v7_), (40, .int .i64 (z3.length : Int)), (41, .bool (decide (x < (z3.length : Int))))] (by kernel_rfl) ⟨mE rfl rfl h10,
 mE rfl rfl h7,
 fun ρz wz hE hA _ ⟨u1, _⟩ => core_val rfl rfl (o_len (u1.trans hs_Hf7) len_32),
 fun ρz wz hE hA _ ⟨u0, u2, _⟩ => core_val rfl rfl (o_lss u0 u2 rfl), trivial⟩ ?_))
  intro ρ9 w9 hN hf hr
  have h41 := hv hf 3 rfl rfl
  obtain ⟨h6, h7, h8, h9, h10⟩ := k5 hr h6 h7 h8 h9 h10 rfl
  have Hf6 := Hf6.exn hN
  have Hf7 := Hf7.exn hN
  have Hf8 := Hf8.exn hN
  have hW := hW.trans hN
  refine WP.cond rfl h41 (fun hb => ?_) (fun hb => ?_)
  · have hF := (if_pos hb).symm.trans hF
    refine WP.skip (WP.seq (WP.block (WP.seq ?_)))
    obtain ⟨y, hy, hF⟩ := obind hF
    obtain ⟨ay, cy, hvy, hiy, hAy⟩ := RepSl.getF Hf7 hy
    obtain ⟨z9, hz9, hF⟩ := obind hF
    refine WP.rg mixed [[], [], [], [1, 2], [3], [0, 4], [5]] [[], [], [], [1, 2], [3], [0, 4], [5]] [[6], [7], [10], [], [], [], []] [val 44 (v6_), val 45 (v7_), val 46 (.int .i64 x), val 47 (.pointer (some (ay.add (Int.toNat x * 2)))), val 48 (Span.val y), (49, fun u wz => Own w0.heap.size 31 2 Span.cells wz u z9 ∧ ∀ b, u.ownBlock = some b → w9.heap.size ≤ b), (11, fun u wz => Own w0.heap.size 31 2 Span.cells wz u z9 ∧ ∀ b, u.ownBlock = some b → w9.heap.size ≤ b)] (by kernel_rfl) ⟨sV, sV, sV, sV, sV, fun _ _ _ hE ⟨hO, hf⟩ => ⟨hO.exn hE, hf⟩, fun _ _ _ hE ⟨hO, hf⟩ => ⟨hO.exn hE, hf⟩, trivial⟩ ⟨mE rfl rfl h6,
 mE rfl rfl h7,
 mE rfl rfl h10,
 fun ρz wz hE hA _ ⟨u1, u2, _⟩ => core_val rfl rfl (o_indexAddr (u1.trans hvy) u2 (ia_32 hiy)),
 fun ρz wz hE hA _ ⟨u3, _⟩ => core_val rfl rfl (o_load u3 (run_loadN (cs := (Span.cells y)) (lr_31 _ _) rfl ((hAy.exn (hA rfl)).ca))),
 fun ρz wz hE hA _ ⟨u0, u4, _⟩ => core_callR rfl (call_args2 u0 u4) cf_22 ((pensionref1_Clip_ok  _ _ (Hf6.exn (hA rfl)).no hz9).mono (fun e w1 ⟨v, he, hE1, hO⟩ => ⟨v, he, hE1, hO.base (Nat.le_trans hW.size hE.size), fun b hb => Nat.le_trans hE.size (hO.lt hb).1⟩)),
 fun ρz wz hE hA _ ⟨⟨hO5, hfr5⟩, _⟩ => core_copy rfl rfl (o_assign rfl) ⟨hO5, hfr5⟩, trivial⟩ ?_
    intro ρ10 w10 hN hf hr
    obtain ⟨v11_, h11⟩ : ∃ v, ρ10 11 = v := ⟨_, rfl⟩
    have hq11 : (fun u wz => Own w0.heap.size 31 2 Span.cells wz u z9 ∧ ∀ b, u.ownBlock = some b → w9.heap.size ≤ b) (ρ10 11) w10 := hf 6 rfl
    rw [h11] at hq11
    obtain ⟨hq11, hfr11⟩ := hq11
    obtain ⟨h6, h7, h8, h9, h10⟩ := k5 hr h6 h7 h8 h9 h10 rfl
    have Hf6 := Hf6.exn hN
    have Hf7 := Hf7.exn hN
    have Hf8 := Hf8.exn hN
    have hW := hW.trans hN
    have Hf11 : RepSl Span.R noG w10 v11_ z9 := hq11.rep (fun _ _ h => h)
    obtain ⟨_, _, hs_Hf11, _, _⟩ := RepSl.shape Hf11
    refine WP.seq ?_
    obtain ⟨z10, hz10, hF⟩ := obind hF
    refine WP.rg mixed [[], [0], [1]] [[], [0], [1]] [[11], [], []] [val 50 (v11_), (51, fun u wz => Own w0.heap.size 31 2 Span.cells wz u z10 ∧ ∀ b, u.ownBlock = some b → w10.heap.size ≤ b), (12, fun u wz => Own w0.heap.size 31 2 Span.cells wz u z10 ∧ ∀ b, u.ownBlock = some b → w10.heap.size ≤ b)] (by kernel_rfl) ⟨sV, fun _ _ _ hE ⟨hO, hf⟩ => ⟨hO.exn hE, hf⟩, fun _ _ _ hE ⟨hO, hf⟩ => ⟨hO.exn hE, hf⟩, trivial⟩ ⟨mE rfl rfl h11,
 fun ρz wz hE hA _ ⟨u0, _⟩ => core_callR rfl (call_args2 u0 rfl) cf_23 ((pensionref1_Prefix_ok  _ _ (Hf11.exn (hA rfl)).no hz10).mono (fun e w1 ⟨v, he, hE1, hO⟩ => ⟨v, he, hE1, hO.base (Nat.le_trans hW.size hE.size), fun b hb => Nat.le_trans hE.size (hO.lt hb).1⟩)),
 fun ρz wz hE hA _ ⟨⟨hO1, hfr1⟩, _⟩ => core_copy rfl rfl (o_assign rfl) ⟨hO1, hfr1⟩, trivial⟩ ?_
    intro ρ11 w11 hN hf hr
    obtain ⟨v12_, h12⟩ : ∃ v, ρ11 12 = v := ⟨_, rfl⟩
    have hq12 : (fun u wz => Own w0.heap.size 31 2 Span.cells wz u z10 ∧ ∀ b, u.ownBlock = some b → w10.heap.size ≤ b) (ρ11 12) w11 := hf 2 rfl
    rw [h12] at hq12
    obtain ⟨hq12, hfr12⟩ := hq12
    obtain ⟨h6, h7, h8, h9, h10, h11⟩ := k6 hr h6 h7 h8 h9 h10 h11 rfl
    have Hf6 := Hf6.exn hN
    have Hf7 := Hf7.exn hN
    have Hf8 := Hf8.exn hN
    have Hf11 := Hf11.exn hN
    have hW := hW.trans hN
    have Hf12 : RepSl Span.R noG w11 v12_ z10 := hq12.rep (fun _ _ h => h)
    obtain ⟨_, _, hs_Hf12, _, _⟩ := RepSl.shape Hf12
    refine WP.seq (WP.seq ?_)
    obtain ⟨z11, hz11, hF⟩ := obind hF
    refine WP.rg mixed [[], [], [0, 1], [2], [3]] [[], [], [0, 1], [2], [3]] [[8], [12], [], [], []] [val 52 (v8_), val 53 (v12_), (54, fun u wz => Own w0.heap.size 31 2 Span.cells wz u z11 ∧ ∀ b, u.ownBlock = some b → w11.heap.size ≤ b), val 55 (.int .i64 (z11.length : Int)), val 56 (.bool (decide (0 < (z11.length : Int))))] (by kernel_rfl) ⟨sV, sV, fun _ _ _ hE ⟨hO, hf⟩ => ⟨hO.exn hE, hf⟩, sV, sV, trivial⟩ ⟨mE rfl rfl h8,
 mE rfl rfl h12,
 fun ρz wz hE hA _ ⟨u0, u1, _⟩ => core_callR rfl (call_args2 u0 u1) cf_24 ((pensionref1_Intersect_ok  _ _ (Hf8.exn (hA rfl)).no (Hf12.exn (hA rfl)).no hz11).mono (fun e w1 ⟨v, he, hE1, hO⟩ => ⟨v, he, hE1, hO.base (Nat.le_trans hW.size hE.size), fun b hb => Nat.le_trans hE.size (hO.lt hb).1⟩)),
 fun ρz wz hE hA _ ⟨⟨hO2, hfr2⟩, _⟩ => core_val rfl rfl (o_len ((Own.shape hO2).choose_spec.choose_spec.1) len_32),
 fun ρz wz hE hA _ ⟨u3, _⟩ => core_val rfl rfl (o_gtr u3 rfl rfl), trivial⟩ ?_
    intro ρ12 w12 hN hf hr
    have h56 : ρ12 56 = .bool (decide (0 < (z11.length : Int))) := hf 4 rfl
    obtain ⟨h6, h7, h8, h9, h10, h11⟩ := k6 hr h6 h7 h8 h9 h10 h11 rfl
    have h12 := (hr 12 rfl).trans h12
    have Hf6 := Hf6.exn hN
    have Hf7 := Hf7.exn hN
    have Hf8 := Hf8.exn hN
    have Hf11 := Hf11.exn hN
    have Hf12 := Hf12.exn hN
    have hW := hW.trans hN
    refine WP.cond rfl h56 (fun hb => ?_) (fun hb => ?_)
    · have hF := (if_pos hb).symm.trans hF
      refine WP.seq (WP.rb mixed [[]] [[]] [(4, .bool false)] (by kernel_rfl) ⟨aC rfl rfl (fun _ => rfl), trivial⟩ ?_)
      intro ρ13 w13 hN hf hr
      have h4 := hv hf 0 rfl rfl
      have hW := hW.trans hN
      refine WP.ret ?_
      show retQ Try.prog 68 Try.f6 (fun v w1 => v = .bool r ∧ Ext noG w0 w1) .ret ρ13 w13
      obtain rfl := Option.some.inj hF
      exact res1 rfl (by decide) h4 ⟨rfl, hW⟩
    have hF := (if_neg (Bool.eq_false_iff.1 hb)).symm.trans hF
    refine WP.skip (WP.seq ?_)
    obtain ⟨c3, hc3, hF⟩ := obind hF
    obtain ⟨z12, hz12, hc3⟩ := andB hc3
    obtain ⟨z13, hz13, hc3⟩ := andB hc3
    have hc3 := andE hc3
    refine WP.rg mixed [[], [0], [1], [2], [2], [2, 3, 4], [2], [2, 5, 6], [2, 7], [2, 8], [2, 9]] [[], [0], [1], [2], [2], [2, 3, 4], [2], [2, 5, 6], [2, 7], [2, 8], [2, 9]] [[9], [], [], [11], [12], [], [8], [], [], [], []] [val 57 (.int .i64 z8), val 58 (.bool (decide (z8 ≤ 546))), val 59 (.bool (decide (z8 ≤ 546))), val 60 (gv (decide (z8 ≤ 546)) v11_), val 61 (gv (decide (z8 ≤ 546)) v12_), (62, fun u wz => (decide (z8 ≤ 546)) = true → (fun u wz => Own w0.heap.size 31 2 Span.cells wz u z12 ∧ ∀ b, u.ownBlock = some b → w12.heap.size ≤ b) u wz), val 63 (gv (decide (z8 ≤ 546)) v8_), (64, fun u wz => (decide (z8 ≤ 546)) = true → (fun u wz => Own w0.heap.size 31 2 Span.cells wz u z13 ∧ ∀ b, u.ownBlock = some b → w12.heap.size ≤ b) u wz), val 65 (gv (decide (z8 ≤ 546)) (.int .i64 (z13.length : Int))), val 66 (gv (decide (z8 ≤ 546)) (.bool (decide (0 < (z13.length : Int))))), val 67 (.bool c3)] (by kernel_rfl) ⟨sV, sV, sV, sV, sV, stabI (Φ := fun u wz => Own w0.heap.size 31 2 Span.cells wz u z12 ∧ ∀ b, u.ownBlock = some b → w12.heap.size ≤ b) (fun _ _ _ hE ⟨hO, hf⟩ => ⟨hO.exn hE, hf⟩), sV, stabI (Φ := fun u wz => Own w0.heap.size 31 2 Span.cells wz u z13 ∧ ∀ b, u.ownBlock = some b → w12.heap.size ≤ b) (fun _ _ _ hE ⟨hO, hf⟩ => ⟨hO.exn hE, hf⟩), sV, sV, sV, trivial⟩ ⟨mE rfl rfl h9,
 fun ρz wz hE hA _ ⟨u0, _⟩ => core_val rfl rfl (o_leq u0 rfl rfl),
 mU rfl rfl rfl,
 fun ρz wz hE hA ⟨e11, _⟩ ⟨u2, _⟩ => gIf rfl rfl (yT rfl u2) fun gc F hF => core_val rfl hF (o_move (e11.trans h11)),
 fun ρz wz hE hA ⟨e12, _⟩ ⟨u2, _⟩ => gIf rfl rfl (yT rfl u2) fun gc F hF => core_val rfl hF (o_move (e12.trans h12)),
 fun ρz wz hE hA _ ⟨u2, u3, u4, _⟩ => gIfR rfl (yT rfl u2) fun gc F hF => core_callR hF (call_args2 (gt gc u3) (gt gc u4)) cf_20 ((pensionref1_Subtract_ok  _ _ (Hf11.exn (hA rfl)).no (Hf12.exn (hA rfl)).no (hz12 gc)).mono (fun e w1 ⟨v, he, hE1, hO⟩ => ⟨v, he, hE1, hO.base (Nat.le_trans hW.size hE.size), fun b hb => Nat.le_trans hE.size (hO.lt hb).1⟩)),
 fun ρz wz hE hA ⟨e8, _⟩ ⟨u2, _⟩ => gIf rfl rfl (yT rfl u2) fun gc F hF => core_val rfl hF (o_move (e8.trans h8)),
 fun ρz wz hE hA _ ⟨u2, u5, u6, _⟩ => gIfR rfl (yT rfl u2) fun gc F hF => let ⟨hO5, hfr5⟩ := u5 gc; core_callR hF (call_args2 rfl (gt gc u6)) cf_20 ((pensionref1_Subtract_ok  _ _ (hO5.rep (hn := fun _ => rfl) (G := noG) (fun _ _ h => h)).no (Hf8.exn (hA rfl)).no (hz13 gc)).mono (fun e w1 ⟨v, he, hE1, hO⟩ => ⟨v, he, hE1, hO.base (Nat.le_trans hW.size hE.size), fun b hb => Nat.le_trans hE.size (hO.lt hb).1⟩)),
 fun ρz wz hE hA _ ⟨u2, u7, _⟩ => gIf rfl rfl (yT rfl u2) fun gc F hF => let ⟨hO7, hfr7⟩ := u7 gc; core_val rfl hF (o_len ((Own.shape hO7).choose_spec.choose_spec.1) len_32),
 fun ρz wz hE hA _ ⟨u2, u8, _⟩ => gIf rfl rfl (yT rfl u2) fun gc F hF => core_val rfl hF (o_gtr (gt gc u8) rfl rfl),
 fun ρz wz hE hA _ ⟨u2, u9, _⟩ => core_valE rfl rfl (congrArg Value.bool hc3) (o_pick_and u2 u9 rfl), trivial⟩ ?_
    intro ρ14 w14 hN hf hr
    have h67 : ρ14 67 = .bool c3 := hf 10 rfl
    obtain ⟨h6, h7, h8, h9, h10⟩ := k5 hr h6 h7 h8 h9 h10 rfl
    have Hf6 := Hf6.exn hN
    have Hf7 := Hf7.exn hN
    have Hf8 := Hf8.exn hN
    have hW := hW.trans hN
    refine WP.cond rfl h67 (fun hb => ?_) (fun hb => ?_)
    · have hF := (if_pos hb).symm.trans hF
      refine WP.seq (WP.rb mixed [[]] [[]] [(4, .bool false)] (by kernel_rfl) ⟨aC rfl rfl (fun _ => rfl), trivial⟩ ?_)
      intro ρ15 w15 hN hf hr
      have h4 := hv hf 0 rfl rfl
      have hW := hW.trans hN
      refine WP.ret ?_
      show retQ Try.prog 68 Try.f6 (fun v w1 => v = .bool r ∧ Ext noG w0 w1) .ret ρ15 w15
      obtain rfl := Option.some.inj hF
      exact res1 rfl (by decide) h4 ⟨rfl, hW⟩
    have hF := (if_neg (Bool.eq_false_iff.1 hb)).symm.trans hF
    refine WP.skip (WP.rv mixed [[], [0], [0, 1]] [[], [0], [1]] [[10], [], []] [(42, .int .i64 x), (43, .int .i64 (i64 (x + 1))), (10, .int .i64 (i64 (x + 1)))] (by kernel_rfl) ⟨mE rfl rfl h10,
 fun ρz wz hE hA _ ⟨u0, _⟩ => core_val rfl rfl (o_add u0 rfl rfl),
 aU rfl rfl rfl, trivial⟩ ?_)
    intro ρ16 w16 hN hf hr
    have h10 := hv hf 2 rfl rfl
    obtain ⟨h6, h7, h8, h9⟩ := k4 hr h6 h7 h8 h9 rfl
    have Hf6 := Hf6.exn hN
    have Hf7 := Hf7.exn hN
    have Hf8 := Hf8.exn hN
    have hW := hW.trans hN
    exact ⟨i64 (x + 1), h6, h7, h8, h9, h10, Hf6, Hf7, Hf8, hW, (by first | exact hF | (rw [hrec_]; exact hF))⟩
  have hF := (if_neg (Bool.eq_false_iff.1 hb)).symm.trans hF
  refine WP.exit (thenQ_exit (thenQ_exit (blockQ_hit (WP.seq (WP.rb mixed [[]] [[]] [(4, .bool true)] (by kernel_rfl) ⟨aC rfl rfl (fun _ => rfl), trivial⟩ ?_)))))
  intro ρ17 w17 hN hf hr
  have h4 := hv hf 0 rfl rfl
  have hW := hW.trans hN
  refine WP.ret ?_
  show retQ Try.prog 68 Try.f6 (fun v w1 => v = .bool r ∧ Ext noG w0 w1) .ret ρ17 w17
  obtain rfl := Option.some.inj hF
  exact res1 rfl (by decide) h4 ⟨rfl, hW⟩

set_option maxHeartbeats 4000000 in
theorem pensionref1_Nth_ok {w0 : World} (l_ : List Span) (n_ : Int) {v_l_ : Value} (H_l_ : RepSl Span.R noG w0 v_l_ l_) {r : Int × Bool} (hF : pensionref1_Nth l_ n_ = some r) :
    Calls Try.prog 25 #[v_l_, .int .i64 n_] w0 fun e w1 => e = .returned (.tuple #[.int .i64 r.1, .bool r.2]) ∧ Ext noG w0 w1 := by
  refine (Calls.start (P := Try.prog) (args := [v_l_, .int .i64 n_]) (R := fun v w1 => v = .tuple #[.int .i64 r.1, .bool r.2] ∧ Ext noG w0 w1) (n := 45) (w := w0) Try.func25 rfl rfl (Nat.le_of_ble_eq_true rfl) (fun ρ hargs => ?_)).mono (fun e w1 ⟨v, he, hv, hE⟩ => ⟨hv ▸ he, hE⟩)
  have h0 := hargs 0 _ rfl
  have h1 := hargs 1 _ rfl
  have hW := Ext.refl noG w0
  obtain ⟨_, _, hs_H_l_, _, _⟩ := RepSl.shape H_l_
  have H_l_ := H_l_.start
  rw [pensionref1_Nth] at hF
  refine WP.seq (WP.rb mixed [[], []] [[], []] [(4, .int .i64 0), (5, .bool false)] (by kernel_rfl) ⟨aC rfl rfl (fun _ => rfl),
 aC rfl rfl (fun _ => rfl), trivial⟩ ?_)
  intro ρ1 w1 hN hf hr
  obtain ⟨h0, h1⟩ := k2 hr h0 h1 rfl
  have H_l_ := H_l_.exn hN
  have hW := hW.trans hN
  refine WP.seq ?_
  obtain ⟨z, hz, hF⟩ := obind hF
  refine WP.rg mixed [[], [0], [1]] [[], [0], [1]] [[0], [], []] [val 9 (v_l_), (10, fun u wz => Own w0.heap.size 31 2 Span.cells wz u z ∧ ∀ b, u.ownBlock = some b → w1.heap.size ≤ b), (6, fun u wz => Own w0.heap.size 31 2 Span.cells wz u z ∧ ∀ b, u.ownBlock = some b → w1.heap.size ≤ b)] (by kernel_rfl) ⟨sV, fun _ _ _ hE ⟨hO, hf⟩ => ⟨hO.exn hE, hf⟩, fun _ _ _ hE ⟨hO, hf⟩ => ⟨hO.exn hE, hf⟩, trivial⟩ ⟨mE rfl rfl h0,
 fun ρz wz hE hA _ ⟨u0, _⟩ => core_callR rfl (call_args1 u0) cf_36 ((pensionref1_MakeSpans_ok  _ (H_l_.exn (hA rfl)).no hz).mono (fun e w1 ⟨v, he, hE1, hO⟩ => ⟨v, he, hE1, hO.base (Nat.le_trans hW.size hE.size), fun b hb => Nat.le_trans hE.size (hO.lt hb).1⟩)),
 fun ρz wz hE hA _ ⟨⟨hO1, hfr1⟩, _⟩ => core_copy rfl rfl (o_assign rfl) ⟨hO1, hfr1⟩, trivial⟩ ?_
  intro ρ2 w2 hN hf hr
  obtain ⟨v6_, h6⟩ : ∃ v, ρ2 6 = v := ⟨_, rfl⟩
  have hq6 : (fun u wz => Own w0.heap.size 31 2 Span.cells wz u z ∧ ∀ b, u.ownBlock = some b → w1.heap.size ≤ b) (ρ2 6) w2 := hf 2 rfl
  rw [h6] at hq6
  obtain ⟨hq6, hfr6⟩ := hq6
  have h1 := (hr 1 rfl).trans h1
  have hW := hW.trans hN
  have Hf6 : RepSl Span.R noG w2 v6_ z := hq6.rep (fun _ _ h => h)
  obtain ⟨_, _, hs_Hf6, _, _⟩ := RepSl.shape Hf6
  refine WP.seq (WP.seq (WP.rb mixed [[]] [[]] [(7, .int .i64 0)] (by kernel_rfl) ⟨aC rfl rfl (fun _ => rfl), trivial⟩ ?_))
  intro ρ3 w3 hN hf hr
  have h7 := hv hf 0 rfl rfl
  obtain ⟨h1, h6⟩ := k2 hr h1 h6 rfl
  have Hf6 := Hf6.exn hN
  have hW := hW.trans hN
  refine WP.block (WP.loop (fun k_ ρ w => ∃ n_2 : Int, ∃ i_ : Int, ρ 1 = .int .i64 n_2 ∧ ρ 6 = v6_ ∧ ρ 7 = .int .i64 i_ ∧ RepSl Span.R noG w v6_ z ∧ Ext noG w0 w ∧ loopC k_ (pensionref1_Nth_l z) (n_2, i_) = some r) FU ⟨n_, 0, h1, h6, h7, Hf6, hW, hF⟩ (fun _ _ h => by obtain ⟨_, _, _, _, _, _, _, h⟩ := h; cases h) ?_)
  rintro k_ ρ4 w4 ⟨n_2, i_, h1, h6, h7, Hf6, hW, hF⟩
  have hF : pensionref1_Nth_l z (loopC k_ (pensionref1_Nth_l z)) (n_2, i_) = some r := hF
  generalize hrec_ : loopC k_ (pensionref1_Nth_l z) = rec_ at hF
  rw [pensionref1_Nth_l] at hF
  refine WP.seq (WP.seq (WP.rb mixed [[], [], [1], [0, 2], [3], [4], [4, 5], [4, 6]] [[7], [6], [], [], [], [1], [], []] [(11, .int .i64 i_), (12, v6_), (13, .int .i64 (z.length : Int)), (14, .bool (decide (i_ < (z.length : Int)))), (15, .bool (decide (i_ < (z.length : Int)))), (16, gv (decide (i_ < (z.length : Int))) (.int .i64 n_2)), (17, gv (decide (i_ < (z.length : Int))) (.bool (decide (0 ≤ n_2)))), (18, .bool (decide (i_ < (z.length : Int)) && decide (0 ≤ n_2)))] (by kernel_rfl) ⟨mE rfl rfl h7,
 mE rfl rfl h6,
 fun ρz wz hE hA _ ⟨u1, _⟩ => core_val rfl rfl (o_len (u1.trans hs_Hf6) len_32),
 fun ρz wz hE hA _ ⟨u0, u2, _⟩ => core_val rfl rfl (o_lss u0 u2 rfl),
 mU rfl rfl rfl,
 fun ρz wz hE hA ⟨e1, _⟩ ⟨u4, _⟩ => gIf rfl rfl (yT rfl u4) fun gc F hF => core_val rfl hF (o_move (e1.trans h1)),
 fun ρz wz hE hA _ ⟨u4, u5, _⟩ => gIf rfl rfl (yT rfl u4) fun gc F hF => core_val rfl hF (o_geq (gt gc u5) rfl rfl),
 fun ρz wz hE hA _ ⟨u4, u6, _⟩ => core_val rfl rfl (o_pick_and u4 u6 rfl), trivial⟩ ?_))
  intro ρ5 w5 hN hf hr
  have h18 := hv hf 7 rfl rfl
  obtain ⟨h1, h6, h7⟩ := k3 hr h1 h6 h7 rfl
  have Hf6 := Hf6.exn hN
  have hW := hW.trans hN
  refine WP.cond rfl h18 (fun hb => ?_) (fun hb => ?_)
  · have hF := (if_pos hb).symm.trans hF
    refine WP.skip (WP.seq (WP.block (WP.seq ?_)))
    obtain ⟨y, hy, hF⟩ := obind hF
    obtain ⟨ay, cy, hvy, hiy, hAy⟩ := RepSl.getF Hf6 hy
    obtain ⟨y2, hy2, hF⟩ := obind hF
    obtain ⟨ay2, cy2, hvy2, hiy2, hAy2⟩ := RepSl.getF Hf6 hy2
    refine WP.rb mixed [[], [], [0, 1], [2], [3], [], [], [5, 6], [7], [8], [4, 9], [10]] [[6], [7], [], [], [], [6], [7], [], [], [], [], []] [(21, v6_), (22, .int .i64 i_), (23, .pointer (some (ay.add (Int.toNat i_ * 2)))), (24, .pointer (some ((ay.add (Int.toNat i_ * 2)).add 1))), (25, .int .i64 y.To), (26, v6_), (27, .int .i64 i_), (28, .pointer (some (ay2.add (Int.toNat i_ * 2)))), (29, .pointer (some ((ay2.add (Int.toNat i_ * 2)).add 0))), (30, .int .i64 y2.From), (31, .int .i64 (i64 (y.To - y2.From))), (8, .int .i64 (i64 (y.To - y2.From)))] (by kernel_rfl) ⟨mE rfl rfl h6,
 mE rfl rfl h7,
 fun ρz wz hE hA _ ⟨u0, u1, _⟩ => core_val rfl rfl (o_indexAddr (u0.trans hvy) u1 (ia_32 hiy)),
 fun ρz wz hE hA _ ⟨u2, _⟩ => core_val rfl rfl (o_fieldAddr u2 (fa_31_1 _ _)),
 fun ρz wz hE hA _ ⟨u3, _⟩ => core_val rfl rfl (o_load u3 (run_load1 (lr_3 _ _) (CA.sub ((hAy.exn (hA rfl)).ca) 1 1))),
 mE rfl rfl h6,
 mE rfl rfl h7,
 fun ρz wz hE hA _ ⟨u5, u6, _⟩ => core_val rfl rfl (o_indexAddr (u5.trans hvy2) u6 (ia_32 hiy2)),
 fun ρz wz hE hA _ ⟨u7, _⟩ => core_val rfl rfl (o_fieldAddr u7 (fa_31_0 _ _)),
 fun ρz wz hE hA _ ⟨u8, _⟩ => core_val rfl rfl (o_load u8 (run_load1 (lr_3 _ _) (CA.sub ((hAy2.exn (hA rfl)).ca) 0 1))),
 fun ρz wz hE hA _ ⟨u4, u9, _⟩ => core_val rfl rfl (o_sub u4 u9 rfl),
 aU rfl rfl rfl, trivial⟩ ?_
    intro ρ6 w6 hN hf hr
    have h8 := hv hf 11 rfl rfl
    obtain ⟨h1, h6, h7⟩ := k3 hr h1 h6 h7 rfl
    have Hf6 := Hf6.exn hN
    have hW := hW.trans hN
    refine WP.seq (WP.seq (WP.rb mixed [[], [], [0, 1]] [[1], [8], []] [(32, .int .i64 n_2), (33, .int .i64 (i64 (y.To - y2.From))), (34, .bool (decide (n_2 < i64 (y.To - y2.From))))] (by kernel_rfl) ⟨mE rfl rfl h1,
 mE rfl rfl h8,
 fun ρz wz hE hA _ ⟨u0, u1, _⟩ => core_val rfl rfl (o_lss u0 u1 rfl), trivial⟩ ?_))
    intro ρ7 w7 hN hf hr
    have h34 := hv hf 2 rfl rfl
    obtain ⟨h1, h6, h7, h8⟩ := k4 hr h1 h6 h7 h8 rfl
    have Hf6 := Hf6.exn hN
    have hW := hW.trans hN
    refine WP.cond rfl h34 (fun hb => ?_) (fun hb => ?_)
    · have hF := (if_pos hb).symm.trans hF
      refine WP.seq ?_
      obtain ⟨y3, hy3, hF⟩ := obind hF
      obtain ⟨ay3, cy3, hvy3, hiy3, hAy3⟩ := RepSl.getF Hf6 hy3
      refine WP.rb mixed [[], [], [0, 1], [2], [3], [], [4, 5], [6], []] [[6], [7], [], [], [], [1], [], [], []] [(35, v6_), (36, .int .i64 i_), (37, .pointer (some (ay3.add (Int.toNat i_ * 2)))), (38, .pointer (some ((ay3.add (Int.toNat i_ * 2)).add 0))), (39, .int .i64 y3.From), (40, .int .i64 n_2), (41, .int .i64 (i64 (y3.From + n_2))), (4, .int .i64 (i64 (y3.From + n_2))), (5, .bool true)] (by kernel_rfl) ⟨mE rfl rfl h6,
 mE rfl rfl h7,
 fun ρz wz hE hA _ ⟨u0, u1, _⟩ => core_val rfl rfl (o_indexAddr (u0.trans hvy3) u1 (ia_32 hiy3)),
 fun ρz wz hE hA _ ⟨u2, _⟩ => core_val rfl rfl (o_fieldAddr u2 (fa_31_0 _ _)),
 fun ρz wz hE hA _ ⟨u3, _⟩ => core_val rfl rfl (o_load u3 (run_load1 (lr_3 _ _) (CA.sub ((hAy3.exn (hA rfl)).ca) 0 1))),
 mE rfl rfl h1,
 fun ρz wz hE hA _ ⟨u4, u5, _⟩ => core_val rfl rfl (o_add u4 u5 rfl),
 aU rfl rfl rfl,
 aC rfl rfl (fun _ => rfl), trivial⟩ ?_
      intro ρ8 w8 hN hf hr
      have h4 := hv hf 7 rfl rfl
      have h5 := hv hf 8 rfl rfl
      have hW := hW.trans hN
      refine WP.ret ?_
      show retQ Try.prog 45 Try.f25 (fun v w1 => v = .tuple #[.int .i64 r.1, .bool r.2] ∧ Ext noG w0 w1) .ret ρ8 w8
      obtain rfl := Option.some.inj hF
      exact res2 rfl (by decide) (by decide) h4 h5 ⟨rfl, hW⟩
    have hF := (if_neg (Bool.eq_false_iff.1 hb)).symm.trans hF
    refine WP.skip (WP.rv mixed [[], [], [0, 1], [0, 2]] [[], [], [0, 1], [2]] [[1], [8], [], []] [(42, .int .i64 n_2), (43, .int .i64 (i64 (y.To - y2.From))), (44, .int .i64 (i64 (n_2 - (i64 (y.To - y2.From))))), (1, .int .i64 (i64 (n_2 - (i64 (y.To - y2.From)))))] (by kernel_rfl) ⟨mE rfl rfl h1,
 mE rfl rfl h8,
 fun ρz wz hE hA _ ⟨u0, u1, _⟩ => core_val rfl rfl (o_sub u0 u1 rfl),
 aU rfl rfl rfl, trivial⟩ ?_)
    intro ρ9 w9 hN hf hr
    have h1 := hv hf 3 rfl rfl
    obtain ⟨h6, h7⟩ := k2 hr h6 h7 rfl
    have Hf6 := Hf6.exn hN
    have hW := hW.trans hN
    refine WP.rv mixed [[], [0], [0, 1]] [[], [0], [1]] [[7], [], []] [(19, .int .i64 i_), (20, .int .i64 (i64 (i_ + 1))), (7, .int .i64 (i64 (i_ + 1)))] (by kernel_rfl) ⟨mE rfl rfl h7,
 fun ρz wz hE hA _ ⟨u0, _⟩ => core_val rfl rfl (o_add u0 rfl rfl),
 aU rfl rfl rfl, trivial⟩ ?_
    intro ρ10 w10 hN hf hr
    have h7 := hv hf 2 rfl rfl
    obtain ⟨h1, h6⟩ := k2 hr h1 h6 rfl
    have Hf6 := Hf6.exn hN
    have hW := hW.trans hN
    exact ⟨i64 (n_2 - (i64 (y.To - y2.From))), i64 (i_ + 1), h1, h6, h7, Hf6, hW, (by first | exact hF | (rw [hrec_]; exact hF))⟩
  have hF := (if_neg (Bool.eq_false_iff.1 hb)).symm.trans hF
  refine WP.exit (thenQ_exit (thenQ_exit (blockQ_hit (WP.seq (WP.rb mixed [[], []] [[], []] [(4, .int .i64 0), (5, .bool false)] (by kernel_rfl) ⟨aC rfl rfl (fun _ => rfl),
 aC rfl rfl (fun _ => rfl), trivial⟩ ?_)))))
  intro ρ11 w11 hN hf hr
  have h4 := hv hf 0 rfl rfl
  have h5 := hv hf 1 rfl rfl
  have hW := hW.trans hN
  refine WP.ret ?_
  show retQ Try.prog 45 Try.f25 (fun v w1 => v = .tuple #[.int .i64 r.1, .bool r.2] ∧ Ext noG w0 w1) .ret ρ11 w11
  obtain rfl := Option.some.inj hF
  exact res2 rfl (by decide) (by decide) h4 h5 ⟨rfl, hW⟩

set_option maxHeartbeats 4000000 in
theorem pensionlaw25_SicknessMostDays_ok {w0 : World} (d_ : List pensionlaw25_Raw) (i_ : Int) (p_ : Int) {v_d_ : Value} (H_d_ : RepSl pensionlaw25_Raw.R noG w0 v_d_ d_) {r : Bool} (hF : pensionlaw25_SicknessMostDays d_ i_ p_ = some r) :
    Calls Try.prog 7 #[v_d_, .int .i64 i_, .int .i64 p_] w0 fun e w1 => e = .returned (.bool r) ∧ Ext noG w0 w1 := by
  refine (Calls.start (P := Try.prog) (args := [v_d_, .int .i64 i_, .int .i64 p_]) (R := fun v w1 => v = .bool r ∧ Ext noG w0 w1) (n := 82) (w := w0) Try.func7 rfl rfl (Nat.le_of_ble_eq_true rfl) (fun ρ hargs => ?_)).mono (fun e w1 ⟨v, he, hv, hE⟩ => ⟨hv ▸ he, hE⟩)
  have h0 := hargs 0 _ rfl
  have h1 := hargs 1 _ rfl
  have h2 := hargs 2 _ rfl
  have hW := Ext.refl noG w0
  obtain ⟨_, _, hs_H_d_, _, _⟩ := RepSl.shape H_d_
  have H_d_ := H_d_.start
  rw [pensionlaw25_SicknessMostDays] at hF
  refine WP.seq (WP.rb mixed [[]] [[]] [(6, .bool false)] (by kernel_rfl) ⟨aC rfl rfl (fun _ => rfl), trivial⟩ ?_)
  intro ρ1 w1 hN hf hr
  obtain ⟨h0, h1, h2⟩ := k3 hr h0 h1 h2 rfl
  have H_d_ := H_d_.exn hN
  have hW := hW.trans hN
  refine WP.seq ?_
  obtain ⟨z, hz, hF⟩ := obind hF
  refine WP.rg mixed [[], [], [0, 1], [2]] [[], [], [0, 1], [2]] [[0], [1], [], []] [val 17 (v_d_), val 18 (.int .i64 i_), (19, fun u wz => Own w0.heap.size 49 14 api_Fact.cells wz u z ∧ ∀ b, u.ownBlock = some b → w1.heap.size ≤ b), (7, fun u wz => Own w0.heap.size 49 14 api_Fact.cells wz u z ∧ ∀ b, u.ownBlock = some b → w1.heap.size ≤ b)] (by kernel_rfl) ⟨sV, sV, fun _ _ _ hE ⟨hO, hf⟩ => ⟨hO.exn hE, hf⟩, fun _ _ _ hE ⟨hO, hf⟩ => ⟨hO.exn hE, hf⟩, trivial⟩ ⟨mE rfl rfl h0,
 mE rfl rfl h1,
 fun ρz wz hE hA _ ⟨u0, u1, _⟩ => core_callR rfl (call_args2 u0 u1) cf_8 ((pensionlaw25_List_ok  _ _ (H_d_.exn (hA rfl)).no hz).mono (fun e w1 ⟨v, he, hE1, hO⟩ => ⟨v, he, hE1, hO.base (Nat.le_trans hW.size hE.size), fun b hb => Nat.le_trans hE.size (hO.lt hb).1⟩)),
 fun ρz wz hE hA _ ⟨⟨hO2, hfr2⟩, _⟩ => core_copy rfl rfl (o_assign rfl) ⟨hO2, hfr2⟩, trivial⟩ ?_
  intro ρ2 w2 hN hf hr
  obtain ⟨v7_, h7⟩ : ∃ v, ρ2 7 = v := ⟨_, rfl⟩
  have hq7 : (fun u wz => Own w0.heap.size 49 14 api_Fact.cells wz u z ∧ ∀ b, u.ownBlock = some b → w1.heap.size ≤ b) (ρ2 7) w2 := hf 3 rfl
  rw [h7] at hq7
  obtain ⟨hq7, hfr7⟩ := hq7
  have h2 := (hr 2 rfl).trans h2
  have hW := hW.trans hN
  have Hf7 : RepSl api_Fact.R noG w2 v7_ z := hq7.rep (fun _ _ h => h)
  obtain ⟨_, _, hs_Hf7, _, _⟩ := RepSl.shape Hf7
  refine WP.seq ?_
  obtain ⟨z2, hz2, hF⟩ := obind hF
  obtain ⟨z3, hz3, hF⟩ := obind hF
  obtain ⟨z4, hz4, hF⟩ := obind hF
  refine WP.rg mixed [[], [0], [], [2], [], [4], [1], [3], [5]] [[], [0], [], [2], [], [4], [1], [3], [5]] [[7], [], [7], [], [7], [], [], [], []] [val 20 (v7_), (21, fun u wz => Own w0.heap.size 31 2 Span.cells wz u z2 ∧ ∀ b, u.ownBlock = some b → w2.heap.size ≤ b), val 22 (v7_), (23, fun u wz => Own w0.heap.size 31 2 Span.cells wz u z3 ∧ ∀ b, u.ownBlock = some b → w2.heap.size ≤ b), val 24 (v7_), (25, fun u wz => Own w0.heap.size 31 2 Span.cells wz u z4 ∧ ∀ b, u.ownBlock = some b → w2.heap.size ≤ b), (8, fun u wz => Own w0.heap.size 31 2 Span.cells wz u z2 ∧ ∀ b, u.ownBlock = some b → w2.heap.size ≤ b), (9, fun u wz => Own w0.heap.size 31 2 Span.cells wz u z3 ∧ ∀ b, u.ownBlock = some b → w2.heap.size ≤ b), (10, fun u wz => Own w0.heap.size 31 2 Span.cells wz u z4 ∧ ∀ b, u.ownBlock = some b → w2.heap.size ≤ b)] (by kernel_rfl) ⟨sV, fun _ _ _ hE ⟨hO, hf⟩ => ⟨hO.exn hE, hf⟩, sV, fun _ _ _ hE ⟨hO, hf⟩ => ⟨hO.exn hE, hf⟩, sV, fun _ _ _ hE ⟨hO, hf⟩ => ⟨hO.exn hE, hf⟩, fun _ _ _ hE ⟨hO, hf⟩ => ⟨hO.exn hE, hf⟩, fun _ _ _ hE ⟨hO, hf⟩ => ⟨hO.exn hE, hf⟩, fun _ _ _ hE ⟨hO, hf⟩ => ⟨hO.exn hE, hf⟩, trivial⟩ ⟨mE rfl rfl h7,
 fun ρz wz hE hA _ ⟨u0, _⟩ => core_callR rfl (call_args1 u0) cf_13 ((sickness_Sick_ok  _ (Hf7.exn (hA rfl)).no hz2).mono (fun e w1 ⟨v, he, hE1, hO⟩ => ⟨v, he, hE1, hO.base (Nat.le_trans hW.size hE.size), fun b hb => Nat.le_trans hE.size (hO.lt hb).1⟩)),
 mE rfl rfl h7,
 fun ρz wz hE hA _ ⟨u2, _⟩ => core_callR rfl (call_args1 u2) cf_15 ((sickness_Spells_ok  _ (Hf7.exn (hA rfl)).no hz3).mono (fun e w1 ⟨v, he, hE1, hO⟩ => ⟨v, he, hE1, hO.base (Nat.le_trans hW.size hE.size), fun b hb => Nat.le_trans hE.size (hO.lt hb).1⟩)),
 mE rfl rfl h7,
 fun ρz wz hE hA _ ⟨u4, _⟩ => core_callR rfl (call_args1 u4) cf_17 ((sickness_Payable_ok  _ (Hf7.exn (hA rfl)).no hz4).mono (fun e w1 ⟨v, he, hE1, hO⟩ => ⟨v, he, hE1, hO.base (Nat.le_trans hW.size hE.size), fun b hb => Nat.le_trans hE.size (hO.lt hb).1⟩)),
 fun ρz wz hE hA _ ⟨⟨hO1, hfr1⟩, _⟩ => core_copy rfl rfl (o_assign rfl) ⟨hO1, hfr1⟩,
 fun ρz wz hE hA _ ⟨⟨hO3, hfr3⟩, _⟩ => core_copy rfl rfl (o_assign rfl) ⟨hO3, hfr3⟩,
 fun ρz wz hE hA _ ⟨⟨hO5, hfr5⟩, _⟩ => core_copy rfl rfl (o_assign rfl) ⟨hO5, hfr5⟩, trivial⟩ ?_
  intro ρ3 w3 hN hf hr
  obtain ⟨v8_, h8⟩ : ∃ v, ρ3 8 = v := ⟨_, rfl⟩
  have hq8 : (fun u wz => Own w0.heap.size 31 2 Span.cells wz u z2 ∧ ∀ b, u.ownBlock = some b → w2.heap.size ≤ b) (ρ3 8) w3 := hf 6 rfl
  rw [h8] at hq8
  obtain ⟨hq8, hfr8⟩ := hq8
  obtain ⟨v9_, h9⟩ : ∃ v, ρ3 9 = v := ⟨_, rfl⟩
  have hq9 : (fun u wz => Own w0.heap.size 31 2 Span.cells wz u z3 ∧ ∀ b, u.ownBlock = some b → w2.heap.size ≤ b) (ρ3 9) w3 := hf 7 rfl
  rw [h9] at hq9
  obtain ⟨hq9, hfr9⟩ := hq9
  obtain ⟨v10_, h10⟩ : ∃ v, ρ3 10 = v := ⟨_, rfl⟩
  have hq10 : (fun u wz => Own w0.heap.size 31 2 Span.cells wz u z4 ∧ ∀ b, u.ownBlock = some b → w2.heap.size ≤ b) (ρ3 10) w3 := hf 8 rfl
  rw [h10] at hq10
  obtain ⟨hq10, hfr10⟩ := hq10
  have h2 := (hr 2 rfl).trans h2
  have hW := hW.trans hN
  have Hf8 : RepSl Span.R noG w3 v8_ z2 := hq8.rep (fun _ _ h => h)
  obtain ⟨_, _, hs_Hf8, _, _⟩ := RepSl.shape Hf8
  have Hf9 : RepSl Span.R noG w3 v9_ z3 := hq9.rep (fun _ _ h => h)
  obtain ⟨_, _, hs_Hf9, _, _⟩ := RepSl.shape Hf9
  have Hf10 : RepSl Span.R noG w3 v10_ z4 := hq10.rep (fun _ _ h => h)
  obtain ⟨_, _, hs_Hf10, _, _⟩ := RepSl.shape Hf10
  refine WP.seq (WP.seq ?_)
  obtain ⟨z5, hz5, hF⟩ := obind hF
  refine WP.rb mixed [[], [0]] [[], []] [(26, .bool z5), (27, .bool (!z5))] (by kernel_rfl) ⟨fun ρz wz hE hA _ _ => core_call rfl call_args0 cf_11 (pensionlaw25_awake_ok    hz5),
 fun ρz wz hE hA _ ⟨u0, _⟩ => core_val rfl rfl (o_not u0 rfl), trivial⟩ ?_
  intro ρ4 w4 hN hf hr
  have h27 := hv hf 1 rfl rfl
  obtain ⟨h2, h8, h9, h10⟩ := k4 hr h2 h8 h9 h10 rfl
  have Hf8 := Hf8.exn hN
  have Hf9 := Hf9.exn hN
  have Hf10 := Hf10.exn hN
  have hW := hW.trans hN
  refine WP.cond rfl h27 (fun hb => ?_) (fun hb => ?_)
  · have hF := (if_pos hb).symm.trans hF
    refine WP.seq (WP.rb mixed [[]] [[]] [(6, .bool false)] (by kernel_rfl) ⟨aC rfl rfl (fun _ => rfl), trivial⟩ ?_)
    intro ρ5 w5 hN hf hr
    have h6 := hv hf 0 rfl rfl
    have hW := hW.trans hN
    refine WP.ret ?_
    show retQ Try.prog 82 Try.f7 (fun v w1 => v = .bool r ∧ Ext noG w0 w1) .ret ρ5 w5
    obtain rfl := Option.some.inj hF
    exact res1 rfl (by decide) h6 ⟨rfl, hW⟩
  have hF := (if_neg (Bool.eq_false_iff.1 hb)).symm.trans hF
  refine WP.skip (WP.seq ?_)
  obtain ⟨z6, hz6, hF⟩ := obind hF
  refine WP.rb mixed [[], [0], [1]] [[8], [], []] [(28, v8_), (29, .int .i64 z6), (11, .int .i64 z6)] (by kernel_rfl) ⟨mE rfl rfl h8,
 fun ρz wz hE hA _ ⟨u0, _⟩ => core_call rfl (call_args1 u0) cf_21 (pensionref1_Days_ok  _ (Hf8.exn (hA rfl)).no hz6),
 aU rfl rfl rfl, trivial⟩ ?_
  intro ρ6 w6 hN hf hr
  have h11 := hv hf 2 rfl rfl
  obtain ⟨h2, h8, h9, h10⟩ := k4 hr h2 h8 h9 h10 rfl
  have Hf8 := Hf8.exn hN
  have Hf9 := Hf9.exn hN
  have Hf10 := Hf10.exn hN
  have hW := hW.trans hN
  refine WP.seq (WP.seq (WP.rb mixed [[], [0]] [[11], []] [(30, .int .i64 z6), (31, .bool (z6 == 0))] (by kernel_rfl) ⟨mE rfl rfl h11,
 fun ρz wz hE hA _ ⟨u0, _⟩ => core_val rfl rfl (o_eql u0 rfl rfl), trivial⟩ ?_))
  intro ρ7 w7 hN hf hr
  have h31 := hv hf 1 rfl rfl
  obtain ⟨h2, h8, h9, h10, h11⟩ := k5 hr h2 h8 h9 h10 h11 rfl
  have Hf8 := Hf8.exn hN
  have Hf9 := Hf9.exn hN
  have Hf10 := Hf10.exn hN
  have hW := hW.trans hN
  refine WP.cond rfl h31 (fun hb => ?_) (fun hb => ?_)
  · have hF := (if_pos hb).symm.trans hF
    refine WP.seq (WP.rb mixed [[], [0], [1], [2]] [[10], [], [], []] [(32, v10_), (33, .int .i64 (z4.length : Int)), (34, .bool ((z4.length : Int) == 0)), (6, .bool ((z4.length : Int) == 0))] (by kernel_rfl) ⟨mE rfl rfl h10,
 fun ρz wz hE hA _ ⟨u0, _⟩ => core_val rfl rfl (o_len (u0.trans hs_Hf10) len_32),
 fun ρz wz hE hA _ ⟨u1, _⟩ => core_val rfl rfl (o_eql u1 rfl rfl),
 aU rfl rfl rfl, trivial⟩ ?_)
    intro ρ8 w8 hN hf hr
    have h6 := hv hf 3 rfl rfl
    have hW := hW.trans hN
    refine WP.ret ?_
    show retQ Try.prog 82 Try.f7 (fun v w1 => v = .bool r ∧ Ext noG w0 w1) .ret ρ8 w8
    obtain rfl := Option.some.inj hF
    exact res1 rfl (by decide) h6 ⟨rfl, hW⟩
  have hF := (if_neg (Bool.eq_false_iff.1 hb)).symm.trans hF
  refine WP.skip (WP.seq ?_)
  obtain ⟨z7, hz7, hF⟩ := obind hF
  obtain ⟨z8, hz8, hF⟩ := obind hF
  refine WP.rb mixed [[], [], [], [1, 2], [0, 3], [4], [5], [5], [6], [7]] [[8], [2], [11], [], [], [], [], [], [], []] [(36, v8_), (37, .int .i64 p_), (38, .int .i64 z6), (39, .int .i64 z7), (40, .tuple #[.int .i64 z8.1, .bool z8.2]), (35, .tuple #[.int .i64 z8.1, .bool z8.2]), (41, .int .i64 z8.1), (42, .bool z8.2), (12, .int .i64 z8.1), (13, .bool z8.2)] (by kernel_rfl) ⟨mE rfl rfl h8,
 mE rfl rfl h2,
 mE rfl rfl h11,
 fun ρz wz hE hA _ ⟨u1, u2, _⟩ => core_call rfl (call_args2 u1 u2) cf_26 (pensionplain_Mod_ok  _ _  hz7),
 fun ρz wz hE hA _ ⟨u0, u3, _⟩ => core_call rfl (call_args2 u0 u3) cf_25 (pensionref1_Nth_ok  _ _ (Hf8.exn (hA rfl)).no hz8),
 mU rfl rfl rfl,
 fun ρz wz hE hA _ ⟨u5, _⟩ => core_val rfl rfl (o_extract u5 (by kernel_rfl)),
 fun ρz wz hE hA _ ⟨u5, _⟩ => core_val rfl rfl (o_extract u5 (by kernel_rfl)),
 aU rfl rfl rfl,
 aU rfl rfl rfl, trivial⟩ ?_
  intro ρ9 w9 hN hf hr
  have h12 := hv hf 8 rfl rfl
  have h13 := hv hf 9 rfl rfl
  obtain ⟨h8, h9, h10⟩ := k3 hr h8 h9 h10 rfl
  have Hf8 := Hf8.exn hN
  have Hf9 := Hf9.exn hN
  have Hf10 := Hf10.exn hN
  have hW := hW.trans hN
  refine WP.seq (WP.seq (WP.rb mixed [[], [0]] [[13], []] [(43, .bool z8.2), (44, .bool (!z8.2))] (by kernel_rfl) ⟨mE rfl rfl h13,
 fun ρz wz hE hA _ ⟨u0, _⟩ => core_val rfl rfl (o_not u0 rfl), trivial⟩ ?_))
  intro ρ10 w10 hN hf hr
  have h44 := hv hf 1 rfl rfl
  obtain ⟨h8, h9, h10, h12⟩ := k4 hr h8 h9 h10 h12 rfl
  have Hf8 := Hf8.exn hN
  have Hf9 := Hf9.exn hN
  have Hf10 := Hf10.exn hN
  have hW := hW.trans hN
  refine WP.cond rfl h44 (fun hb => ?_) (fun hb => ?_)
  · have hF := (if_pos hb).symm.trans hF
    refine WP.seq (WP.rb mixed [[]] [[]] [(6, .bool false)] (by kernel_rfl) ⟨aC rfl rfl (fun _ => rfl), trivial⟩ ?_)
    intro ρ11 w11 hN hf hr
    have h6 := hv hf 0 rfl rfl
    have hW := hW.trans hN
    refine WP.ret ?_
    show retQ Try.prog 82 Try.f7 (fun v w1 => v = .bool r ∧ Ext noG w0 w1) .ret ρ11 w11
    obtain rfl := Option.some.inj hF
    exact res1 rfl (by decide) h6 ⟨rfl, hW⟩
  have hF := (if_neg (Bool.eq_false_iff.1 hb)).symm.trans hF
  refine WP.skip (WP.seq ?_)
  obtain ⟨z9, hz9, hF⟩ := obind hF
  obtain ⟨z10, hz10, hF⟩ := obind hF
  refine WP.rg mixed [[], [], [1], [], [2, 3], [0, 4], [5], [6]] [[], [], [1], [], [2, 3], [0, 4], [5], [6]] [[10], [12], [], [12], [], [], [], []] [val 45 (v10_), val 46 (.int .i64 z8.1), val 47 (.int .i64 (i64 (z8.1 - 1094))), val 48 (.int .i64 z8.1), val 49 (Span.val (⟨i64 (z8.1 - 1094), z8.1⟩ : Span)), (50, fun u wz => Own w0.heap.size 31 2 Span.cells wz u z9 ∧ ∀ b, u.ownBlock = some b → w10.heap.size ≤ b), val 51 (.int .i64 z10), val 14 (.int .i64 z10)] (by kernel_rfl) ⟨sV, sV, sV, sV, sV, fun _ _ _ hE ⟨hO, hf⟩ => ⟨hO.exn hE, hf⟩, sV, sV, trivial⟩ ⟨mE rfl rfl h10,
 mE rfl rfl h12,
 fun ρz wz hE hA _ ⟨u1, _⟩ => core_val rfl rfl (o_sub u1 rfl rfl),
 mE rfl rfl h12,
 fun ρz wz hE hA _ ⟨u2, u3, _⟩ => core_val rfl rfl (o_build (build_parts2 u2 u3) (bd_31_0_1 _ _ _)),
 fun ρz wz hE hA _ ⟨u0, u4, _⟩ => core_callR rfl (call_args2 u0 u4) cf_22 ((pensionref1_Clip_ok  _ _ (Hf10.exn (hA rfl)).no hz9).mono (fun e w1 ⟨v, he, hE1, hO⟩ => ⟨v, he, hE1, hO.base (Nat.le_trans hW.size hE.size), fun b hb => Nat.le_trans hE.size (hO.lt hb).1⟩)),
 fun ρz wz hE hA _ ⟨⟨hO5, hfr5⟩, _⟩ => core_call rfl (call_args1 rfl) cf_21 (pensionref1_Days_ok  _ (hO5.rep (hn := fun _ => rfl) (G := noG) (fun _ _ h => h)).no hz10),
 aU rfl rfl rfl, trivial⟩ ?_
  intro ρ12 w12 hN hf hr
  have h14 : ρ12 14 = .int .i64 z10 := hf 7 rfl
  obtain ⟨h8, h9, h10, h12⟩ := k4 hr h8 h9 h10 h12 rfl
  have Hf8 := Hf8.exn hN
  have Hf9 := Hf9.exn hN
  have Hf10 := Hf10.exn hN
  have hW := hW.trans hN
  refine WP.seq (WP.seq (WP.rb mixed [[], [0]] [[14], []] [(52, .int .i64 z10), (53, .bool (decide (546 < z10)))] (by kernel_rfl) ⟨mE rfl rfl h14,
 fun ρz wz hE hA _ ⟨u0, _⟩ => core_val rfl rfl (o_gtr u0 rfl rfl), trivial⟩ ?_))
  intro ρ13 w13 hN hf hr
  have h53 := hv hf 1 rfl rfl
  obtain ⟨h8, h9, h10, h12, h14⟩ := k5 hr h8 h9 h10 h12 h14 rfl
  have Hf8 := Hf8.exn hN
  have Hf9 := Hf9.exn hN
  have Hf10 := Hf10.exn hN
  have hW := hW.trans hN
  refine WP.cond rfl h53 (fun hb => ?_) (fun hb => ?_)
  · have hF := (if_pos hb).symm.trans hF
    refine WP.seq (WP.rb mixed [[]] [[]] [(6, .bool false)] (by kernel_rfl) ⟨aC rfl rfl (fun _ => rfl), trivial⟩ ?_)
    intro ρ14 w14 hN hf hr
    have h6 := hv hf 0 rfl rfl
    have hW := hW.trans hN
    refine WP.ret ?_
    show retQ Try.prog 82 Try.f7 (fun v w1 => v = .bool r ∧ Ext noG w0 w1) .ret ρ14 w14
    obtain rfl := Option.some.inj hF
    exact res1 rfl (by decide) h6 ⟨rfl, hW⟩
  have hF := (if_neg (Bool.eq_false_iff.1 hb)).symm.trans hF
  refine WP.skip (WP.seq (WP.rb mixed [[]] [[]] [(15, .bool false)] (by kernel_rfl) ⟨aC rfl rfl (fun _ => rfl), trivial⟩ ?_))
  intro ρ15 w15 hN hf hr
  have h15 := hv hf 0 rfl rfl
  obtain ⟨h8, h9, h10, h12, h14⟩ := k5 hr h8 h9 h10 h12 h14 rfl
  have Hf8 := Hf8.exn hN
  have Hf9 := Hf9.exn hN
  have Hf10 := Hf10.exn hN
  have hW := hW.trans hN
  refine WP.seq (WP.seq (WP.rb mixed [[]] [[]] [(16, .int .i64 0)] (by kernel_rfl) ⟨aC rfl rfl (fun _ => rfl), trivial⟩ ?_))
  intro ρ16 w16 hN hf hr
  have h16 := hv hf 0 rfl rfl
  obtain ⟨h8, h9, h10, h12, h14, h15⟩ := k6 hr h8 h9 h10 h12 h14 h15 rfl
  have Hf8 := Hf8.exn hN
  have Hf9 := Hf9.exn hN
  have Hf10 := Hf10.exn hN
  have hW := hW.trans hN
  refine WP.block (WP.loop (fun k_ ρ w => ∃ x : Bool, ∃ x2 : Int, ρ 8 = v8_ ∧ ρ 9 = v9_ ∧ ρ 10 = v10_ ∧ ρ 12 = .int .i64 z8.1 ∧ ρ 14 = .int .i64 z10 ∧ ρ 15 = .bool x ∧ ρ 16 = .int .i64 x2 ∧ RepSl Span.R noG w v8_ z2 ∧ RepSl Span.R noG w v9_ z3 ∧ RepSl Span.R noG w v10_ z4 ∧ Ext noG w0 w ∧ loopC k_ (pensionlaw25_SicknessMostDays_l z2 z3 z4 z8 z10) (x, x2) = some r) FU ⟨false, 0, h8, h9, h10, h12, h14, h15, h16, Hf8, Hf9, Hf10, hW, hF⟩ (fun _ _ h => by obtain ⟨_, _, _, _, _, _, _, _, _, _, _, _, _, h⟩ := h; cases h) ?_)
  rintro k_ ρ17 w17 ⟨x, x2, h8, h9, h10, h12, h14, h15, h16, Hf8, Hf9, Hf10, hW, hF⟩
  have hF : pensionlaw25_SicknessMostDays_l z2 z3 z4 z8 z10 (loopC k_ (pensionlaw25_SicknessMostDays_l z2 z3 z4 z8 z10)) (x, x2) = some r := hF
  generalize hrec_ : loopC k_ (pensionlaw25_SicknessMostDays_l z2 z3 z4 z8 z10) = rec_ at hF
  rw [pensionlaw25_SicknessMostDays_l] at hF
  refine WP.seq (WP.seq (WP.rb mixed [[], [], [1], [0, 2]] [[16], [9], [], []] [(54, .int .i64 x2), (55, v9_), (56, .int .i64 (z3.length : Int)), (57, .bool (decide (x2 < (z3.length : Int))))] (by kernel_rfl) ⟨mE rfl rfl h16,
 mE rfl rfl h9,
 fun ρz wz hE hA _ ⟨u1, _⟩ => core_val rfl rfl (o_len (u1.trans hs_Hf9) len_32),
 fun ρz wz hE hA _ ⟨u0, u2, _⟩ => core_val rfl rfl (o_lss u0 u2 rfl), trivial⟩ ?_))
  intro ρ18 w18 hN hf hr
  have h57 := hv hf 3 rfl rfl
  obtain ⟨h8, h9, h10, h12, h14, h15⟩ := k6 hr h8 h9 h10 h12 h14 h15 rfl
  have h16 := (hr 16 rfl).trans h16
  have Hf8 := Hf8.exn hN
  have Hf9 := Hf9.exn hN
  have Hf10 := Hf10.exn hN
  have hW := hW.trans hN
  refine WP.cond rfl h57 (fun hb => ?_) (fun hb => ?_)
  · have hF := (if_pos hb).symm.trans hF
    refine WP.skip (WP.seq (WP.block ?_))
    obtain ⟨c, hc, hF⟩ := obind hF
    obtain ⟨y, hy, hc⟩ := orB hc
    obtain ⟨ay, cy, hvy, hiy, hAy⟩ := RepSl.getFI Hf9 hy
    obtain ⟨z11, hz11, hc⟩ := orB hc
    obtain ⟨z12, hz12, hc⟩ := orB hc
    obtain ⟨z13, hz13, hc⟩ := orB hc
    have hc := orE hc
    refine WP.rg mixed [[], [0], [1], [1], [1], [1, 3, 4], [1, 5], [1, 2, 6], [1, 7], [1], [1, 8, 9], [1, 10], [0, 11]] [[], [0], [1], [1], [1], [1, 3, 4], [1, 5], [1, 2, 6], [1, 7], [1], [1, 8, 9], [1, 10], [11]] [[15], [], [8], [9], [16], [], [], [], [], [12], [], [], []] [val 60 (.bool x), val 61 (.bool x), val 62 (gv (!x) v8_), val 63 (gv (!x) v9_), val 64 (gv (!x) (.int .i64 x2)), val 65 (gv (!x) (.pointer (some (ay.add (Int.toNat x2 * 2))))), val 66 (gv (!x) (Span.val y)), (67, fun u wz => (!x) = true → (fun u wz => Own w0.heap.size 31 2 Span.cells wz u z11 ∧ ∀ b, u.ownBlock = some b → w18.heap.size ≤ b) u wz), (68, fun u wz => (!x) = true → (fun u wz => Own w0.heap.size 31 2 Span.cells wz u z12 ∧ ∀ b, u.ownBlock = some b → w18.heap.size ≤ b) u wz), val 69 (gv (!x) (.int .i64 z8.1)), val 70 (gv (!x) (.bool z13)), val 71 (.bool c), val 15 (.bool c)] (by kernel_rfl) ⟨sV, sV, sV, sV, sV, sV, sV, stabI (Φ := fun u wz => Own w0.heap.size 31 2 Span.cells wz u z11 ∧ ∀ b, u.ownBlock = some b → w18.heap.size ≤ b) (fun _ _ _ hE ⟨hO, hf⟩ => ⟨hO.exn hE, hf⟩), stabI (Φ := fun u wz => Own w0.heap.size 31 2 Span.cells wz u z12 ∧ ∀ b, u.ownBlock = some b → w18.heap.size ≤ b) (fun _ _ _ hE ⟨hO, hf⟩ => ⟨hO.exn hE, hf⟩), sV, sV, sV, sV, trivial⟩ ⟨mE rfl rfl h15,
 mU rfl rfl rfl,
 fun ρz wz hE hA ⟨e8, _⟩ ⟨u1, _⟩ => gIf rfl rfl (yF rfl u1) fun gc F hF => core_val rfl hF (o_move (e8.trans h8)),
 fun ρz wz hE hA ⟨e9, _⟩ ⟨u1, _⟩ => gIf rfl rfl (yF rfl u1) fun gc F hF => core_val rfl hF (o_move (e9.trans h9)),
 fun ρz wz hE hA ⟨e16, _⟩ ⟨u1, _⟩ => gIf rfl rfl (yF rfl u1) fun gc F hF => core_val rfl hF (o_move (e16.trans h16)),
 fun ρz wz hE hA _ ⟨u1, u3, u4, _⟩ => gIf rfl rfl (yF rfl u1) fun gc F hF => core_val rfl hF (o_indexAddr ((gt gc u3).trans (hvy gc)) (gt gc u4) (ia_32 (hiy gc))),
 fun ρz wz hE hA _ ⟨u1, u5, _⟩ => gIf rfl rfl (yF rfl u1) fun gc F hF => core_val rfl hF (o_load (gt gc u5) (run_loadN (cs := (Span.cells y)) (lr_31 _ _) rfl (((hAy gc).exn (hA rfl)).ca))),
 fun ρz wz hE hA _ ⟨u1, u2, u6, _⟩ => gIfR rfl (yF rfl u1) fun gc F hF => core_callR hF (call_args2 (gt gc u2) (gt gc u6)) cf_22 ((pensionref1_Clip_ok  _ _ (Hf8.exn (hA rfl)).no (hz11 gc)).mono (fun e w1 ⟨v, he, hE1, hO⟩ => ⟨v, he, hE1, hO.base (Nat.le_trans hW.size hE.size), fun b hb => Nat.le_trans hE.size (hO.lt hb).1⟩)),
 fun ρz wz hE hA _ ⟨u1, u7, _⟩ => gIfR rfl (yF rfl u1) fun gc F hF => let ⟨hO7, hfr7⟩ := u7 gc; core_callR hF (call_args2 rfl rfl) cf_23 ((pensionref1_Prefix_ok  _ _ (hO7.rep (hn := fun _ => rfl) (G := noG) (fun _ _ h => h)).no (hz12 gc)).mono (fun e w1 ⟨v, he, hE1, hO⟩ => ⟨v, he, hE1, hO.base (Nat.le_trans hW.size hE.size), fun b hb => Nat.le_trans hE.size (hO.lt hb).1⟩)),
 fun ρz wz hE hA ⟨e12, _⟩ ⟨u1, _⟩ => gIf rfl rfl (yF rfl u1) fun gc F hF => core_val rfl hF (o_move (e12.trans h12)),
 fun ρz wz hE hA _ ⟨u1, u8, u9, _⟩ => gIf rfl rfl (yF rfl u1) fun gc F hF => let ⟨hO8, hfr8⟩ := u8 gc; core_call hF (call_args2 rfl (gt gc u9)) cf_27 (pensionref1_Contains_ok  _ _ (hO8.rep (hn := fun _ => rfl) (G := noG) (fun _ _ h => h)).no (hz13 gc)),
 fun ρz wz hE hA _ ⟨u1, u10, _⟩ => core_valE rfl rfl (congrArg Value.bool hc) (o_pick_or u1 rfl u10),
 aU rfl rfl rfl, trivial⟩ ?_
    intro ρ19 w19 hN hf hr
    have h15 : ρ19 15 = .bool c := hf 12 rfl
    obtain ⟨h8, h9, h10, h12, h14, h16⟩ := k6 hr h8 h9 h10 h12 h14 h16 rfl
    have Hf8 := Hf8.exn hN
    have Hf9 := Hf9.exn hN
    have Hf10 := Hf10.exn hN
    have hW := hW.trans hN
    refine WP.rv mixed [[], [0], [0, 1]] [[], [0], [1]] [[16], [], []] [(58, .int .i64 x2), (59, .int .i64 (i64 (x2 + 1))), (16, .int .i64 (i64 (x2 + 1)))] (by kernel_rfl) ⟨mE rfl rfl h16,
 fun ρz wz hE hA _ ⟨u0, _⟩ => core_val rfl rfl (o_add u0 rfl rfl),
 aU rfl rfl rfl, trivial⟩ ?_
    intro ρ20 w20 hN hf hr
    have h16 := hv hf 2 rfl rfl
    obtain ⟨h8, h9, h10, h12, h14, h15⟩ := k6 hr h8 h9 h10 h12 h14 h15 rfl
    have Hf8 := Hf8.exn hN
    have Hf9 := Hf9.exn hN
    have Hf10 := Hf10.exn hN
    have hW := hW.trans hN
    exact ⟨c, i64 (x2 + 1), h8, h9, h10, h12, h14, h15, h16, Hf8, Hf9, Hf10, hW, (by first | exact hF | (rw [hrec_]; exact hF))⟩
  have hF := (if_neg (Bool.eq_false_iff.1 hb)).symm.trans hF
  refine WP.exit (thenQ_exit (thenQ_exit (blockQ_hit (WP.seq ?_))))
  obtain ⟨z14, hz14, hF⟩ := obind hF
  refine WP.rb mixed [[], [], [0, 1], [], [3], [4], [5], [5, 6], [5, 7], [2, 8], [9]] [[10], [12], [], [15], [], [], [14], [], [], [], []] [(72, v10_), (73, .int .i64 z8.1), (74, .bool z14), (75, .bool x), (76, .bool (!x)), (77, .bool (!x)), (78, gv ((!x)) (.int .i64 z10)), (79, gv ((!x)) (.bool (decide (z10 < 546)))), (80, .bool ((!x) && decide (z10 < 546))), (81, .bool (z14 == ((!x) && decide (z10 < 546)))), (6, .bool (z14 == ((!x) && decide (z10 < 546))))] (by kernel_rfl) ⟨mE rfl rfl h10,
 mE rfl rfl h12,
 fun ρz wz hE hA _ ⟨u0, u1, _⟩ => core_call rfl (call_args2 u0 u1) cf_27 (pensionref1_Contains_ok  _ _ (Hf10.exn (hA rfl)).no hz14),
 mE rfl rfl h15,
 fun ρz wz hE hA _ ⟨u3, _⟩ => core_val rfl rfl (o_not u3 rfl),
 mU rfl rfl rfl,
 fun ρz wz hE hA ⟨e14, _⟩ ⟨u5, _⟩ => gIf rfl rfl (yT rfl u5) fun gc F hF => core_val rfl hF (o_move (e14.trans h14)),
 fun ρz wz hE hA _ ⟨u5, u6, _⟩ => gIf rfl rfl (yT rfl u5) fun gc F hF => core_val rfl hF (o_lss (gt gc u6) rfl rfl),
 fun ρz wz hE hA _ ⟨u5, u7, _⟩ => core_val rfl rfl (o_pick_and u5 u7 rfl),
 fun ρz wz hE hA _ ⟨u2, u8, _⟩ => core_val rfl rfl (o_eqlB u2 u8 (by kernel_rfl) rfl),
 aU rfl rfl rfl, trivial⟩ ?_
  intro ρ21 w21 hN hf hr
  have h6 := hv hf 10 rfl rfl
  have hW := hW.trans hN
  refine WP.ret ?_
  show retQ Try.prog 82 Try.f7 (fun v w1 => v = .bool r ∧ Ext noG w0 w1) .ret ρ21 w21
  obtain rfl := Option.some.inj hF
  exact res1 rfl (by decide) h6 ⟨rfl, hW⟩
end Go.PL
