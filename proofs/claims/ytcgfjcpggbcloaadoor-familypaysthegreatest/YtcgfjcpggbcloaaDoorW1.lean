/- The translated code computes the Lean functions (printed by a program). -/
import Derived.Test.YtcgfjcpggbcloaaDoorTy
set_option linter.unusedVariables false
set_option linter.unusedSimpArgs false
set_option maxRecDepth 10000
namespace Go.PL
open Go Go.Proofs

set_option maxHeartbeats 4000000 in
theorem pensionplain_Mod_ok {w0 : World} (n_ : Int) (m_ : Int) {r : Int} (hF : pensionplain_Mod n_ m_ = some r) :
    Calls Tryd.prog 13 #[.int .i64 n_, .int .i64 m_] w0 fun e w1 => e = .returned (.int .i64 r) ∧ Ext noG w0 w1 := by
  refine (Calls.start (P := Tryd.prog) (args := [.int .i64 n_, .int .i64 m_]) (R := fun v w1 => v = .int .i64 r ∧ Ext noG w0 w1) (n := 15) (w := w0) Tryd.func13 rfl rfl (Nat.le_of_ble_eq_true rfl) (fun ρ hargs => ?_)).mono (fun e w1 ⟨v, he, hv, hE⟩ => ⟨hv ▸ he, hE⟩)
  have h0 := hargs 0 _ rfl
  have h1 := hargs 1 _ rfl
  have hW := Ext.refl noG w0
  have hsz := Nat.le_refl w0.heap.size
  rw [pensionplain_Mod] at hF
  refine WP.seq ?_
  refine WP.rb mixed [[]] [[]] [(4, .int .i64 0)] (by kernel_rfl) ⟨fun ρz wz hE hA _ _ => core_val rfl rfl (o_assign rfl), trivial⟩ ?_
  intro ρ1 w1 hN hf hr
  obtain ⟨h0, h1⟩ := k2 hr h0 h1 rfl
  have hW := hW.trans hN
  have hsz := hW.size
  refine WP.seq ?_
  obtain ⟨q, hq, hF⟩ := obind hF
  refine WP.rb mixed [[], [], [0, 1], [2]] [[0], [1], [], []] [(6, .int .i64 n_), (7, .int .i64 m_), (8, .int .i64 q), (5, .int .i64 q)] (by kernel_rfl) ⟨fun ρz wz hE hA ⟨e0, _⟩ _ => core_val rfl rfl (o_move (e0.trans h0)),
 fun ρz wz hE hA ⟨e1, _⟩ _ => core_val rfl rfl (o_move (e1.trans h1)),
 fun ρz wz hE hA _ ⟨u0, u1, _⟩ => core_val rfl rfl (o_rem u0 u1 (remI_some hq).1 (remI_some hq).2),
 fun ρz wz hE hA _ ⟨u2, _⟩ => core_val rfl rfl (o_assign u2), trivial⟩ ?_
  intro ρ2 w2 hN hf hr
  have h5 : ρ2 5 = .int .i64 q := hf 3 rfl
  have h1 := (hr 1 rfl).trans h1
  have hW := hW.trans hN
  have hsz := hW.size
  refine WP.seqJ (fun ρ w => ∃ r_ : Int, ρ 5 = .int .i64 r_ ∧ Ext noG w0 w ∧ w0.heap.size ≤ w.heap.size ∧ pensionplain_Mod_j r_ = some r) ?_ ?_
  · refine WP.seq ?_
    refine WP.rb mixed [[], [0]] [[5], []] [(9, .int .i64 q), (10, .bool (decide (q < 0)))] (by kernel_rfl) ⟨fun ρz wz hE hA ⟨e5, _⟩ _ => core_val rfl rfl (o_move (e5.trans h5)),
 fun ρz wz hE hA _ ⟨u0, _⟩ => core_val rfl rfl (o_lss u0 rfl rfl), trivial⟩ ?_
    intro ρ5 w5 hN hf hr
    have h10 : ρ5 10 = .bool (decide (q < 0)) := hf 1 rfl
    obtain ⟨h1, h5⟩ := k2 hr h1 h5 rfl
    have hW := hW.trans hN
    have hsz := hW.size
    refine WP.cond rfl h10 (fun hb => ?_) (fun hb => ?_)
    · have hF := (if_pos hb).symm.trans hF
      refine WP.rv mixed [[], [], [0, 1], [0, 2]] [[], [], [0, 1], [2]] [[5], [1], [], []] [(11, .int .i64 q), (12, .int .i64 m_), (13, .int .i64 (i64 (q + m_))), (5, .int .i64 (i64 (q + m_)))] (by kernel_rfl) ⟨fun ρz wz hE hA ⟨e5, _⟩ _ => core_val rfl rfl (o_move (e5.trans h5)),
 fun ρz wz hE hA ⟨e1, _⟩ _ => core_val rfl rfl (o_move (e1.trans h1)),
 fun ρz wz hE hA _ ⟨u0, u1, _⟩ => core_val rfl rfl (o_add u0 u1 rfl),
 fun ρz wz hE hA _ ⟨u2, _⟩ => core_val rfl rfl (o_assign u2), trivial⟩ ?_
      intro ρ6 w6 hN hf hr
      have h5 : ρ6 5 = .int .i64 (i64 (q + m_)) := hf 3 rfl
      have hW := hW.trans hN
      have hsz := hW.size
      exact ⟨i64 (q + m_), h5, hW, hsz, hF⟩
    have hF := (if_neg (Bool.eq_false_iff.1 hb)).symm.trans hF
    refine WP.skip ?_
    exact ⟨q, h5, hW, hsz, hF⟩
  rintro ρ3 w3 ⟨r_, h5, hW, hsz, hF⟩
  rw [pensionplain_Mod_j] at hF
  refine WP.seq ?_
  refine WP.rb mixed [[], [0]] [[5], []] [(14, .int .i64 r_), (4, .int .i64 r_)] (by kernel_rfl) ⟨fun ρz wz hE hA ⟨e5, _⟩ _ => core_val rfl rfl (o_move (e5.trans h5)),
 fun ρz wz hE hA _ ⟨u0, _⟩ => core_val rfl rfl (o_assign u0), trivial⟩ ?_
  intro ρ4 w4 hN hf hr
  have h4 : ρ4 4 = .int .i64 r_ := hf 1 rfl
  have hW := hW.trans hN
  have hsz := hW.size
  refine WP.ret ?_
  show retQ Tryd.prog 15 Tryd.f13 (fun v w1 => v = .int .i64 r ∧ Ext noG w0 w1) .ret ρ4 w4
  obtain rfl := Option.some.inj hF
  exact res1 rfl (by decide) h4 ⟨rfl, hW⟩

set_option maxHeartbeats 4000000 in
theorem pensionplain_Amount_ok {w0 : World} (n_ : Int) {r : Int} (hF : pensionplain_Amount n_ = some r) :
    Calls Tryd.prog 24 #[.int .i64 n_] w0 fun e w1 => e = .returned (.int .i64 r) ∧ Ext noG w0 w1 := by
  refine (Calls.start (P := Tryd.prog) (args := [.int .i64 n_]) (R := fun v w1 => v = .int .i64 r ∧ Ext noG w0 w1) (n := 21) (w := w0) Tryd.func24 rfl rfl (Nat.le_of_ble_eq_true rfl) (fun ρ hargs => ?_)).mono (fun e w1 ⟨v, he, hv, hE⟩ => ⟨hv ▸ he, hE⟩)
  have h0 := hargs 0 _ rfl
  have hW := Ext.refl noG w0
  have hsz := Nat.le_refl w0.heap.size
  rw [pensionplain_Amount] at hF
  refine WP.seq ?_
  refine WP.rb mixed [[]] [[]] [(2, .int .i64 0)] (by kernel_rfl) ⟨fun ρz wz hE hA _ _ => core_val rfl rfl (o_assign rfl), trivial⟩ ?_
  intro ρ1 w1 hN hf hr
  have h0 := (hr 0 rfl).trans h0
  have hW := hW.trans hN
  have hsz := hW.size
  refine WP.seq ?_
  refine WP.seq ?_
  obtain ⟨z, hz, hF⟩ := obind hF
  refine WP.rb mixed [[], [0]] [[0], []] [(3, .int .i64 n_), (4, .int .i64 z)] (by kernel_rfl) ⟨fun ρz wz hE hA ⟨e0, _⟩ _ => core_val rfl rfl (o_move (e0.trans h0)),
 fun ρz wz hE hA _ ⟨u0, _⟩ => core_call rfl (call_args2 u0 rfl) cf_13 (pensionplain_Mod_ok  _ _  hz), trivial⟩ ?_
  intro ρ2 w2 hN hf hr
  have h4 : ρ2 4 = .int .i64 z := hf 1 rfl
  have h0 := (hr 0 rfl).trans h0
  have hW := hW.trans hN
  have hsz := hW.size
  refine WP.block ?_
  refine WP.seq ?_
  refine WP.rb mixed [[], [0]] [[4], []] [(6, .bool (z == 0)), (5, .bool (z == 0))] (by kernel_rfl) ⟨fun ρz wz hE hA ⟨e4, _⟩ _ => core_val rfl rfl (o_eql (e4.trans h4) rfl rfl),
 fun ρz wz hE hA _ ⟨u0, _⟩ => core_val rfl rfl (o_assign u0), trivial⟩ ?_
  intro ρ3 w3 hN hf hr
  have h5 : ρ3 5 = .bool (z == 0) := hf 1 rfl
  obtain ⟨h0, h4⟩ := k2 hr h0 h4 rfl
  have hW := hW.trans hN
  have hsz := hW.size
  refine WP.cond rfl h5 (fun hb => ?_) (fun hb => ?_)
  · have hF := (if_pos hb).symm.trans hF
    refine WP.seq ?_
    refine WP.rb mixed [[]] [[]] [(2, .int .i64 0)] (by kernel_rfl) ⟨fun ρz wz hE hA _ _ => core_val rfl rfl (o_assign rfl), trivial⟩ ?_
    intro ρ4 w4 hN hf hr
    have h2 : ρ4 2 = .int .i64 0 := hf 0 rfl
    have hW := hW.trans hN
    have hsz := hW.size
    refine WP.ret ?_
    show retQ Tryd.prog 21 Tryd.f24 (fun v w1 => v = .int .i64 r ∧ Ext noG w0 w1) .ret ρ4 w4
    obtain rfl := Option.some.inj hF
    exact res1 rfl (by decide) h2 ⟨rfl, hW⟩
  have hF := (if_neg (Bool.eq_false_iff.1 hb)).symm.trans hF
  refine WP.seq ?_
  refine WP.rb mixed [[], [0]] [[4], []] [(8, .bool (z == 1)), (7, .bool (z == 1))] (by kernel_rfl) ⟨fun ρz wz hE hA ⟨e4, _⟩ _ => core_val rfl rfl (o_eql (e4.trans h4) rfl rfl),
 fun ρz wz hE hA _ ⟨u0, _⟩ => core_val rfl rfl (o_assign u0), trivial⟩ ?_
  intro ρ5 w5 hN hf hr
  have h7 : ρ5 7 = .bool (z == 1) := hf 1 rfl
  obtain ⟨h0, h4⟩ := k2 hr h0 h4 rfl
  have hW := hW.trans hN
  have hsz := hW.size
  refine WP.cond rfl h7 (fun hb => ?_) (fun hb => ?_)
  · have hF := (if_pos hb).symm.trans hF
    refine WP.seq ?_
    obtain ⟨z2, hz2, hF⟩ := obind hF
    refine WP.rb mixed [[], [0], [1], [2], [3]] [[0], [], [], [], []] [(9, .int .i64 n_), (10, .int .i64 (i64 (Int.tdiv n_ 8))), (11, .int .i64 z2), (12, .int .i64 (i64 (1000000000000 - z2))), (2, .int .i64 (i64 (1000000000000 - z2)))] (by kernel_rfl) ⟨fun ρz wz hE hA ⟨e0, _⟩ _ => core_val rfl rfl (o_move (e0.trans h0)),
 fun ρz wz hE hA _ ⟨u0, _⟩ => core_val rfl rfl (o_quo u0 rfl (by decide) rfl),
 fun ρz wz hE hA _ ⟨u1, _⟩ => core_call rfl (call_args2 u1 rfl) cf_13 (pensionplain_Mod_ok  _ _  hz2),
 fun ρz wz hE hA _ ⟨u2, _⟩ => core_val rfl rfl (o_sub rfl u2 rfl),
 fun ρz wz hE hA _ ⟨u3, _⟩ => core_val rfl rfl (o_assign u3), trivial⟩ ?_
    intro ρ6 w6 hN hf hr
    have h2 : ρ6 2 = .int .i64 (i64 (1000000000000 - z2)) := hf 4 rfl
    have hW := hW.trans hN
    have hsz := hW.size
    refine WP.ret ?_
    show retQ Tryd.prog 21 Tryd.f24 (fun v w1 => v = .int .i64 r ∧ Ext noG w0 w1) .ret ρ6 w6
    obtain rfl := Option.some.inj hF
    exact res1 rfl (by decide) h2 ⟨rfl, hW⟩
  have hF := (if_neg (Bool.eq_false_iff.1 hb)).symm.trans hF
  refine WP.seq ?_
  refine WP.rb mixed [[], [0]] [[4], []] [(14, .bool (z == 2)), (13, .bool (z == 2))] (by kernel_rfl) ⟨fun ρz wz hE hA ⟨e4, _⟩ _ => core_val rfl rfl (o_eql (e4.trans h4) rfl rfl),
 fun ρz wz hE hA _ ⟨u0, _⟩ => core_val rfl rfl (o_assign u0), trivial⟩ ?_
  intro ρ7 w7 hN hf hr
  have h13 : ρ7 13 = .bool (z == 2) := hf 1 rfl
  have h0 := (hr 0 rfl).trans h0
  have hW := hW.trans hN
  have hsz := hW.size
  refine WP.cond rfl h13 (fun hb => ?_) (fun hb => ?_)
  · have hF := (if_pos hb).symm.trans hF
    refine WP.seq ?_
    obtain ⟨z3, hz3, hF⟩ := obind hF
    refine WP.rb mixed [[], [0], [1], [2]] [[0], [], [], []] [(15, .int .i64 n_), (16, .int .i64 (i64 (Int.tdiv n_ 8))), (17, .int .i64 z3), (2, .int .i64 z3)] (by kernel_rfl) ⟨fun ρz wz hE hA ⟨e0, _⟩ _ => core_val rfl rfl (o_move (e0.trans h0)),
 fun ρz wz hE hA _ ⟨u0, _⟩ => core_val rfl rfl (o_quo u0 rfl (by decide) rfl),
 fun ρz wz hE hA _ ⟨u1, _⟩ => core_call rfl (call_args2 u1 rfl) cf_13 (pensionplain_Mod_ok  _ _  hz3),
 fun ρz wz hE hA _ ⟨u2, _⟩ => core_val rfl rfl (o_assign u2), trivial⟩ ?_
    intro ρ8 w8 hN hf hr
    have h2 : ρ8 2 = .int .i64 z3 := hf 3 rfl
    have hW := hW.trans hN
    have hsz := hW.size
    refine WP.ret ?_
    show retQ Tryd.prog 21 Tryd.f24 (fun v w1 => v = .int .i64 r ∧ Ext noG w0 w1) .ret ρ8 w8
    obtain rfl := Option.some.inj hF
    exact res1 rfl (by decide) h2 ⟨rfl, hW⟩
  have hF := (if_neg (Bool.eq_false_iff.1 hb)).symm.trans hF
  refine WP.skip ?_
  refine WP.seq ?_
  obtain ⟨z4, hz4, hF⟩ := obind hF
  refine WP.rb mixed [[], [0], [1], [2]] [[0], [], [], []] [(18, .int .i64 n_), (19, .int .i64 (i64 (Int.tdiv n_ 8))), (20, .int .i64 z4), (2, .int .i64 z4)] (by kernel_rfl) ⟨fun ρz wz hE hA ⟨e0, _⟩ _ => core_val rfl rfl (o_move (e0.trans h0)),
 fun ρz wz hE hA _ ⟨u0, _⟩ => core_val rfl rfl (o_quo u0 rfl (by decide) rfl),
 fun ρz wz hE hA _ ⟨u1, _⟩ => core_call rfl (call_args2 u1 rfl) cf_13 (pensionplain_Mod_ok  _ _  hz4),
 fun ρz wz hE hA _ ⟨u2, _⟩ => core_val rfl rfl (o_assign u2), trivial⟩ ?_
  intro ρ9 w9 hN hf hr
  have h2 : ρ9 2 = .int .i64 z4 := hf 3 rfl
  have hW := hW.trans hN
  have hsz := hW.size
  refine WP.ret ?_
  show retQ Tryd.prog 21 Tryd.f24 (fun v w1 => v = .int .i64 r ∧ Ext noG w0 w1) .ret ρ9 w9
  obtain rfl := Option.some.inj hF
  exact res1 rfl (by decide) h2 ⟨rfl, hW⟩

set_option maxHeartbeats 4000000 in
theorem pensionplain_fraction_ok {w0 : World} (num_ : Int) (den_ : Int) {r : Fraction} (hF : pensionplain_fraction num_ den_ = some r) :
    Calls Tryd.prog 25 #[.int .i64 num_, .int .i64 den_] w0 fun e w1 => e = .returned (Fraction.val r) ∧ Ext noG w0 w1 := by
  refine (Calls.start (P := Tryd.prog) (args := [.int .i64 num_, .int .i64 den_]) (R := fun v w1 => v = Fraction.val r ∧ Ext noG w0 w1) (n := 22) (w := w0) Tryd.func25 rfl rfl (Nat.le_of_ble_eq_true rfl) (fun ρ hargs => ?_)).mono (fun e w1 ⟨v, he, hv, hE⟩ => ⟨hv ▸ he, hE⟩)
  have h0 := hargs 0 _ rfl
  have h1 := hargs 1 _ rfl
  have hW := Ext.refl noG w0
  have hsz := Nat.le_refl w0.heap.size
  rw [pensionplain_fraction] at hF
  refine WP.seq ?_
  refine WP.rg mixed [[]] [[]] [[]] [(4, fun u wz => ∃ b, u = .pointer (some ⟨b, 0, none⟩) ∧ w0.heap.size ≤ b ∧ Mb wz b 54 (Fraction.cells (⟨0, 0⟩ : Fraction)))] (by kernel_rfl) ⟨fun _ _ _ hE ⟨b, hb, hs, hM⟩ => ⟨b, hb, hs, hM.exn hE⟩, trivial⟩ ⟨fun ρz wz hE hA _ _ => core_new rfl rfl hE (o_alloc (al_54 _)), trivial⟩ ?_
  intro ρ1 w1 hN hf hr
  obtain ⟨b4_, h4, hge_b4_, Hb_b4_⟩ := hf 0 rfl
  obtain ⟨h0, h1⟩ := k2 hr h0 h1 rfl
  have hW := hW.trans hN
  have hB_b4_ : w0.heap.size ≤ b4_ := Nat.le_trans hsz hge_b4_
  have hsz := hW.size
  refine WP.seq ?_
  refine WP.rb mixed [[], [], [0], [1]] [[0], [1], [], []] [(7, .int .i64 num_), (8, .int .i64 den_), (5, .int .i64 num_), (6, .int .i64 den_)] (by kernel_rfl) ⟨fun ρz wz hE hA ⟨e0, _⟩ _ => core_val rfl rfl (o_move (e0.trans h0)),
 fun ρz wz hE hA ⟨e1, _⟩ _ => core_val rfl rfl (o_move (e1.trans h1)),
 fun ρz wz hE hA _ ⟨u0, _⟩ => core_val rfl rfl (o_assign u0),
 fun ρz wz hE hA _ ⟨u1, _⟩ => core_val rfl rfl (o_assign u1), trivial⟩ ?_
  intro ρ2 w2 hN hf hr
  have h5 : ρ2 5 = .int .i64 num_ := hf 2 rfl
  have h6 : ρ2 6 = .int .i64 den_ := hf 3 rfl
  obtain ⟨h0, h1, h4⟩ := k3 hr h0 h1 h4 rfl
  have Hb_b4_n := Hb_b4_.exn hN
  have hW := hW.trans hN
  have Hb_b4_ := Hb_b4_n
  have hsz := hW.size
  refine WP.seq ?_
  refine WP.block ?_
  refine WP.loop (fun k_ ρ w => ∃ a_ : Int, ∃ b_ : Int, ρ 0 = .int .i64 num_ ∧ ρ 1 = .int .i64 den_ ∧ ρ 4 = .pointer (some ⟨b4_, 0, none⟩) ∧ ρ 5 = .int .i64 a_ ∧ ρ 6 = .int .i64 b_ ∧ Mb w b4_ 54 (Fraction.cells (⟨0, 0⟩ : Fraction)) ∧ Ext noG w0 w ∧ w0.heap.size ≤ w.heap.size ∧ loopC k_ (pensionplain_fraction_l num_ den_) (a_, b_) = some r) FU ⟨num_, den_, h0, h1, h4, h5, h6, Hb_b4_, hW, hsz, hF⟩ (fun _ _ h => by obtain ⟨_, _, _, _, _, _, _, _, _, _, h⟩ := h; cases h) ?_
  rintro k_ ρ3 w3 ⟨a_, b_, h0, h1, h4, h5, h6, Hb_b4_, hW, hsz, hF⟩
  have hF : pensionplain_fraction_l num_ den_ (loopC k_ (pensionplain_fraction_l num_ den_)) (a_, b_) = some r := hF
  generalize hrec_ : loopC k_ (pensionplain_fraction_l num_ den_) = rec_ at hF
  rw [pensionplain_fraction_l] at hF
  refine WP.seq ?_
  refine WP.seq ?_
  refine WP.rb mixed [[], [0]] [[6], []] [(9, .int .i64 b_), (10, .bool (b_ != 0))] (by kernel_rfl) ⟨fun ρz wz hE hA ⟨e6, _⟩ _ => core_val rfl rfl (o_move (e6.trans h6)),
 fun ρz wz hE hA _ ⟨u0, _⟩ => core_val rfl rfl (o_neq u0 rfl rfl), trivial⟩ ?_
  intro ρ4 w4 hN hf hr
  have h10 : ρ4 10 = .bool (b_ != 0) := hf 1 rfl
  obtain ⟨h0, h1, h4, h5, h6⟩ := k5 hr h0 h1 h4 h5 h6 rfl
  have Hb_b4_n := Hb_b4_.exn hN
  have hW := hW.trans hN
  have Hb_b4_ := Hb_b4_n
  have hsz := hW.size
  refine WP.cond rfl h10 (fun hb => ?_) (fun hb => ?_)
  · have hF := (if_pos hb).symm.trans hF
    refine WP.skip ?_
    refine WP.block ?_
    obtain ⟨q, hq, hF⟩ := obind hF
    refine WP.rv mixed [[], [], [], [1, 2], [0, 1], [0, 2, 3]] [[], [], [], [1, 2], [0], [3]] [[6], [5], [6], [], [], []] [(11, .int .i64 b_), (12, .int .i64 a_), (13, .int .i64 b_), (14, .int .i64 q), (5, .int .i64 b_), (6, .int .i64 q)] (by kernel_rfl) ⟨fun ρz wz hE hA ⟨e6, _⟩ _ => core_val rfl rfl (o_move (e6.trans h6)),
 fun ρz wz hE hA ⟨e5, _⟩ _ => core_val rfl rfl (o_move (e5.trans h5)),
 fun ρz wz hE hA ⟨e6, _⟩ _ => core_val rfl rfl (o_move (e6.trans h6)),
 fun ρz wz hE hA _ ⟨u1, u2, _⟩ => core_val rfl rfl (o_rem u1 u2 (remI_some hq).1 (remI_some hq).2),
 fun ρz wz hE hA _ ⟨u0, _⟩ => core_val rfl rfl (o_assign u0),
 fun ρz wz hE hA _ ⟨u3, _⟩ => core_val rfl rfl (o_assign u3), trivial⟩ ?_
    intro ρ5 w5 hN hf hr
    have h5 : ρ5 5 = .int .i64 b_ := hf 4 rfl
    have h6 : ρ5 6 = .int .i64 q := hf 5 rfl
    obtain ⟨h0, h1, h4⟩ := k3 hr h0 h1 h4 rfl
    have Hb_b4_n := Hb_b4_.exn hN
    have hW := hW.trans hN
    have Hb_b4_ := Hb_b4_n
    have hsz := hW.size
    exact ⟨b_, q, h0, h1, h4, h5, h6, Hb_b4_, hW, hsz, (by first | exact hF | (rw [hrec_]; exact hF))⟩
  have hF := (if_neg (Bool.eq_false_iff.1 hb)).symm.trans hF
  refine WP.exit ?_
  refine thenQ_exit ?_
  refine thenQ_exit ?_
  refine blockQ_hit ?_
  refine WP.seq ?_
  obtain ⟨q2, hq2, hF⟩ := obind hF
  obtain ⟨q3, hq3, hF⟩ := obind hF
  refine WP.region mixed [[], [], [0, 1], [], [], [3, 4], [2, 5], [6]] [[], [], [0, 1], [], [], [3, 4], [2, 5], [6]] [[0], [5], [], [1], [5], [], [], [4]] [7] [] [val 15 (.int .i64 num_), val 16 (.int .i64 a_), val 17 (.int .i64 q2), val 18 (.int .i64 den_), val 19 (.int .i64 a_), val 20 (.int .i64 q3), val 21 (Fraction.val (⟨q2, q3⟩ : Fraction)), (4, fun _ wz => Mb wz b4_ 54 (Fraction.cells (⟨q2, q3⟩ : Fraction)))] (fun x => x = b4_) (by kernel_rfl) ⟨sV, sV, sV, sV, sV, sV, sV, fun _ _ _ hE hM => hM.exn hE, trivial⟩ ⟨fun ρz wz hE hA ⟨e0, _⟩ _ => core_val rfl rfl (o_move (e0.trans h0)),
 fun ρz wz hE hA ⟨e5, _⟩ _ => core_val rfl rfl (o_move (e5.trans h5)),
 fun ρz wz hE hA _ ⟨u0, u1, _⟩ => core_val rfl rfl (o_quo u0 u1 (quoI_some hq2).1 (quoI_some hq2).2),
 fun ρz wz hE hA ⟨e1, _⟩ _ => core_val rfl rfl (o_move (e1.trans h1)),
 fun ρz wz hE hA ⟨e5, _⟩ _ => core_val rfl rfl (o_move (e5.trans h5)),
 fun ρz wz hE hA _ ⟨u3, u4, _⟩ => core_val rfl rfl (o_quo u3 u4 (quoI_some hq3).1 (quoI_some hq3).2),
 fun ρz wz hE hA _ ⟨u2, u5, _⟩ => core_val rfl rfl (o_build (build_parts2 u2 u5) (bd_54_0_1 _ _ _)),
 fun ρz wz hE hA ⟨e4, _⟩ ⟨u6, _⟩ => core_storeBox rfl rfl (fun _ h => h) (e4.trans h4) u6 (Hb_b4_.exn (hA rfl)) (fun a w => st_54 _ a w) rfl (one_54 _), trivial⟩ ?_
  intro ρ6 w6 hE hN hf hr
  have h4 := (hr 4 rfl).trans h4
  have Hb_b4_n := hf 7 rfl
  have hW := Ext.own hW hE (fun x h => h.symm ▸ hB_b4_)
  have Hb_b4_ := Hb_b4_n
  have hsz := hW.size
  refine WP.ret ?_
  show retQ Tryd.prog 22 Tryd.f25 (fun v w1 => v = Fraction.val r ∧ Ext noG w0 w1) .ret ρ6 w6
  obtain rfl := Option.some.inj hF
  exact resC rfl (by decide) h4 (run_loadN (cs := (Fraction.cells (⟨q2, q3⟩ : Fraction))) (lr_54 _ _) rfl Hb_b4_.ca) ⟨rfl, hW⟩

set_option maxHeartbeats 4000000 in
theorem calendar_leap_ok {w0 : World} (year_ : Int) {r : Bool} (hF : calendar_leap year_ = some r) :
    Calls Tryd.prog 91 #[.int .i64 year_] w0 fun e w1 => e = .returned (.bool r) ∧ Ext noG w0 w1 := by
  refine (Calls.start (P := Tryd.prog) (args := [.int .i64 year_]) (R := fun v w1 => v = .bool r ∧ Ext noG w0 w1) (n := 16) (w := w0) Tryd.func91 rfl rfl (Nat.le_of_ble_eq_true rfl) (fun ρ hargs => ?_)).mono (fun e w1 ⟨v, he, hv, hE⟩ => ⟨hv ▸ he, hE⟩)
  have h0 := hargs 0 _ rfl
  have hW := Ext.refl noG w0
  have hsz := Nat.le_refl w0.heap.size
  rw [calendar_leap] at hF
  refine WP.seq ?_
  refine WP.rb mixed [[]] [[]] [(2, .bool false)] (by kernel_rfl) ⟨fun ρz wz hE hA _ _ => core_val rfl rfl (o_assign rfl), trivial⟩ ?_
  intro ρ1 w1 hN hf hr
  have h0 := (hr 0 rfl).trans h0
  have hW := hW.trans hN
  have hsz := hW.size
  refine WP.seq ?_
  refine WP.rb mixed [[], [0], [1], [2], [3], [3, 4], [3, 5], [3, 6], [7], [8], [8, 9], [8, 10], [8, 11], [12]] [[0], [], [], [], [0], [], [], [], [], [0], [], [], [], []] [(3, .int .i64 year_), (4, .int .i64 (Int.tmod year_ 4)), (5, .bool (Int.tmod year_ 4 == 0)), (6, .bool (Int.tmod year_ 4 == 0)), (7, gv ((Int.tmod year_ 4 == 0)) (.int .i64 year_)), (8, gv ((Int.tmod year_ 4 == 0)) (.int .i64 (Int.tmod year_ 100))), (9, gv ((Int.tmod year_ 4 == 0)) (.bool (Int.tmod year_ 100 != 0))), (10, .bool ((Int.tmod year_ 4 == 0) && (Int.tmod year_ 100 != 0))), (11, .bool ((Int.tmod year_ 4 == 0) && (Int.tmod year_ 100 != 0))), (12, gv (!((Int.tmod year_ 4 == 0) && (Int.tmod year_ 100 != 0))) (.int .i64 year_)), (13, gv (!((Int.tmod year_ 4 == 0) && (Int.tmod year_ 100 != 0))) (.int .i64 (Int.tmod year_ 400))), (14, gv (!((Int.tmod year_ 4 == 0) && (Int.tmod year_ 100 != 0))) (.bool (Int.tmod year_ 400 == 0))), (15, .bool (((Int.tmod year_ 4 == 0) && (Int.tmod year_ 100 != 0)) || (Int.tmod year_ 400 == 0))), (2, .bool (((Int.tmod year_ 4 == 0) && (Int.tmod year_ 100 != 0)) || (Int.tmod year_ 400 == 0)))] (by kernel_rfl) ⟨fun ρz wz hE hA ⟨e0, _⟩ _ => core_val rfl rfl (o_move (e0.trans h0)),
 fun ρz wz hE hA _ ⟨u0, _⟩ => core_val rfl rfl (o_rem u0 rfl (by decide) rfl),
 fun ρz wz hE hA _ ⟨u1, _⟩ => core_val rfl rfl (o_eql u1 rfl rfl),
 fun ρz wz hE hA _ ⟨u2, _⟩ => core_val rfl rfl (o_move u2),
 fun ρz wz hE hA ⟨e0, _⟩ ⟨u3, _⟩ => gIf rfl rfl (yT rfl u3) fun gc F hF => core_val rfl hF (o_move (e0.trans h0)),
 fun ρz wz hE hA _ ⟨u3, u4, _⟩ => gIf rfl rfl (yT rfl u3) fun gc F hF => core_val rfl hF (o_rem (gt gc u4) rfl (by decide) rfl),
 fun ρz wz hE hA _ ⟨u3, u5, _⟩ => gIf rfl rfl (yT rfl u3) fun gc F hF => core_val rfl hF (o_neq (gt gc u5) rfl rfl),
 fun ρz wz hE hA _ ⟨u3, u6, _⟩ => core_val rfl rfl (o_pick_and u3 u6 rfl),
 fun ρz wz hE hA _ ⟨u7, _⟩ => core_val rfl rfl (o_move u7),
 fun ρz wz hE hA ⟨e0, _⟩ ⟨u8, _⟩ => gIf rfl rfl (yF rfl u8) fun gc F hF => core_val rfl hF (o_move (e0.trans h0)),
 fun ρz wz hE hA _ ⟨u8, u9, _⟩ => gIf rfl rfl (yF rfl u8) fun gc F hF => core_val rfl hF (o_rem (gt gc u9) rfl (by decide) rfl),
 fun ρz wz hE hA _ ⟨u8, u10, _⟩ => gIf rfl rfl (yF rfl u8) fun gc F hF => core_val rfl hF (o_eql (gt gc u10) rfl rfl),
 fun ρz wz hE hA _ ⟨u8, u11, _⟩ => core_val rfl rfl (o_pick_or u8 rfl u11),
 fun ρz wz hE hA _ ⟨u12, _⟩ => core_val rfl rfl (o_assign u12), trivial⟩ ?_
  intro ρ2 w2 hN hf hr
  have h2 : ρ2 2 = .bool (((Int.tmod year_ 4 == 0) && (Int.tmod year_ 100 != 0)) || (Int.tmod year_ 400 == 0)) := hf 13 rfl
  have hW := hW.trans hN
  have hsz := hW.size
  refine WP.ret ?_
  show retQ Tryd.prog 16 Tryd.f91 (fun v w1 => v = .bool r ∧ Ext noG w0 w1) .ret ρ2 w2
  obtain rfl := Option.some.inj hF
  exact res1 rfl (by decide) h2 ⟨rfl, hW⟩

set_option maxHeartbeats 4000000 in
theorem calendar_monthLength_ok {w0 : World} (year_ : Int) (month_ : Int) {r : Int} (hF : calendar_monthLength year_ month_ = some r) :
    Calls Tryd.prog 84 #[.int .i64 year_, .int .i64 month_] w0 fun e w1 => e = .returned (.int .i64 r) ∧ Ext noG w0 w1 := by
  refine (Calls.start (P := Tryd.prog) (args := [.int .i64 year_, .int .i64 month_]) (R := fun v w1 => v = .int .i64 r ∧ Ext noG w0 w1) (n := 17) (w := w0) Tryd.func84 rfl rfl (Nat.le_of_ble_eq_true rfl) (fun ρ hargs => ?_)).mono (fun e w1 ⟨v, he, hv, hE⟩ => ⟨hv ▸ he, hE⟩)
  have h0 := hargs 0 _ rfl
  have h1 := hargs 1 _ rfl
  have hW := Ext.refl noG w0
  have hsz := Nat.le_refl w0.heap.size
  rw [calendar_monthLength] at hF
  refine WP.seq ?_
  refine WP.rb mixed [[]] [[]] [(4, .int .i64 0)] (by kernel_rfl) ⟨fun ρz wz hE hA _ _ => core_val rfl rfl (o_assign rfl), trivial⟩ ?_
  intro ρ1 w1 hN hf hr
  obtain ⟨h0, h1⟩ := k2 hr h0 h1 rfl
  have hW := hW.trans hN
  have hsz := hW.size
  refine WP.seq ?_
  refine WP.region mixed [[], [], [0, 1]] [[], [], [0, 1]] [[], [], []] [2] [(1, 2)] [val 6 (arrV (fun x : Int => [Value.int .i64 x]) [31, 28, 31, 30, 31, 30, 31, 31, 30, 31, 30, 31]), (5, fun u wz => ∃ b, u = .pointer (some ⟨b, 0, none⟩) ∧ w1.heap.size ≤ b ∧ Mb wz b 117 ((List.replicate 12 0).flatMap (fun x : Int => [Value.int .i64 x]))), (5, fun u wz => ∃ b, u = .pointer (some ⟨b, 0, none⟩) ∧ w1.heap.size ≤ b ∧ Mb wz b 117 ([31, 28, 31, 30, 31, 30, 31, 31, 30, 31, 30, 31].flatMap (fun x : Int => [Value.int .i64 x])))] (fun b => w1.heap.size ≤ b) (by kernel_rfl) ⟨sV, fun _ _ _ hE ⟨b, hb, hs, hM⟩ => ⟨b, hb, hs, hM.exn hE⟩, fun _ _ _ hE ⟨b, hb, hs, hM⟩ => ⟨b, hb, hs, hM.exn hE⟩, trivial⟩ ⟨fun ρz wz hE hA _ _ => core_val rfl rfl (o_build rfl (by kernel_rfl)),
 fun ρz wz hE hA _ _ => core_new rfl rfl hE (o_alloc (al_117 _)),
 fun ρz wz hE hA _ ⟨u0, u1, _⟩ => core_storeNew rfl rfl rfl rfl u0 u1 (fun a w => (st_117 _ (by simp)) a w) rfl (one_117 _), trivial⟩ ?_
  intro ρ2 w2 hE hN hf hr
  have hN := hE.fresh
  obtain ⟨b5_, h5, hge_b5_, Hb_b5_⟩ := hf 2 rfl
  obtain ⟨h0, h1⟩ := k2 hr h0 h1 rfl
  have hW := hW.trans hN
  have hlen_b5_ : [31, 28, 31, 30, 31, 30, 31, 31, 30, 31, 30, 31].length = 12 := by simp
  have hB_b5_ : w0.heap.size ≤ b5_ := Nat.le_trans hsz hge_b5_
  have hsz := hW.size
  refine WP.seq ?_
  refine WP.seq ?_
  obtain ⟨c, hc, hF⟩ := obind hF
  obtain ⟨z, hz, hc⟩ := andB hc
  have hc := andE hc
  refine WP.rb mixed [[], [0], [1], [2], [2, 3], [2, 4]] [[1], [], [], [0], [], []] [(7, .int .i64 month_), (8, .bool (month_ == 2)), (9, .bool (month_ == 2)), (10, gv ((month_ == 2)) (.int .i64 year_)), (11, gv ((month_ == 2)) (.bool z)), (12, .bool c)] (by kernel_rfl) ⟨fun ρz wz hE hA ⟨e1, _⟩ _ => core_val rfl rfl (o_move (e1.trans h1)),
 fun ρz wz hE hA _ ⟨u0, _⟩ => core_val rfl rfl (o_eql u0 rfl rfl),
 fun ρz wz hE hA _ ⟨u1, _⟩ => core_val rfl rfl (o_move u1),
 fun ρz wz hE hA ⟨e0, _⟩ ⟨u2, _⟩ => gIf rfl rfl (yT rfl u2) fun gc F hF => core_val rfl hF (o_move (e0.trans h0)),
 fun ρz wz hE hA _ ⟨u2, u3, _⟩ => gIf rfl rfl (yT rfl u2) fun gc F hF => core_call hF (call_args1 (gt gc u3)) cf_91 (calendar_leap_ok  _  (hz gc)),
 fun ρz wz hE hA _ ⟨u2, u4, _⟩ => core_valE rfl rfl (congrArg Value.bool hc) (o_pick_and u2 u4 rfl), trivial⟩ ?_
  intro ρ3 w3 hN hf hr
  have h12 : ρ3 12 = .bool c := hf 5 rfl
  obtain ⟨h1, h5⟩ := k2 hr h1 h5 rfl
  have Hb_b5_n := Hb_b5_.exn hN
  have hW := hW.trans hN
  have Hb_b5_ := Hb_b5_n
  have hsz := hW.size
  refine WP.cond rfl h12 (fun hb => ?_) (fun hb => ?_)
  · have hF := (if_pos hb).symm.trans hF
    refine WP.seq ?_
    refine WP.rb mixed [[]] [[]] [(4, .int .i64 29)] (by kernel_rfl) ⟨fun ρz wz hE hA _ _ => core_val rfl rfl (o_assign rfl), trivial⟩ ?_
    intro ρ4 w4 hN hf hr
    have h4 : ρ4 4 = .int .i64 29 := hf 0 rfl
    have hW := hW.trans hN
    have hsz := hW.size
    refine WP.ret ?_
    show retQ Tryd.prog 17 Tryd.f84 (fun v w1 => v = .int .i64 r ∧ Ext noG w0 w1) .ret ρ4 w4
    obtain rfl := Option.some.inj hF
    exact res1 rfl (by decide) h4 ⟨rfl, hW⟩
  have hF := (if_neg (Bool.eq_false_iff.1 hb)).symm.trans hF
  refine WP.skip ?_
  refine WP.seq ?_
  obtain ⟨y, hy, hF⟩ := obind hF
  refine WP.rb mixed [[], [0], [1], [2], [3]] [[1], [], [5], [], []] [(13, .int .i64 month_), (14, .int .i64 (i64 (month_ - 1))), (15, .pointer (some ((⟨b5_, 0, none⟩ : Addr).add (Int.toNat (i64 (month_ - 1)) * 1)))), (16, .int .i64 y), (4, .int .i64 y)] (by kernel_rfl) ⟨fun ρz wz hE hA ⟨e1, _⟩ _ => core_val rfl rfl (o_move (e1.trans h1)),
 fun ρz wz hE hA _ ⟨u0, _⟩ => core_val rfl rfl (o_sub u0 rfl rfl),
 fun ρz wz hE hA ⟨e5, _⟩ ⟨u1, _⟩ => core_val rfl rfl (o_indexAddr (e5.trans h5) u1 (ia_117 (arr_lt hy (by first | exact hlen_b5_ | simp)))),
 fun ρz wz hE hA _ ⟨u2, _⟩ => core_val rfl rfl (o_load u2 (run_load1 (lr_3 _ _) (CA.elem (cells := fun x : Int => [Value.int .i64 x]) 1 (fun _ => rfl) ((Hb_b5_.exn (hA rfl)).ca) hy))),
 fun ρz wz hE hA _ ⟨u3, _⟩ => core_val rfl rfl (o_assign u3), trivial⟩ ?_
  intro ρ5 w5 hN hf hr
  have h4 : ρ5 4 = .int .i64 y := hf 4 rfl
  have hW := hW.trans hN
  have hsz := hW.size
  refine WP.ret ?_
  show retQ Tryd.prog 17 Tryd.f84 (fun v w1 => v = .int .i64 r ∧ Ext noG w0 w1) .ret ρ5 w5
  obtain rfl := Option.some.inj hF
  exact res1 rfl (by decide) h4 ⟨rfl, hW⟩

set_option maxHeartbeats 4000000 in
theorem calendar_validMonth_ok {w0 : World} (month_ : Int) {r : Bool} (hF : calendar_validMonth month_ = some r) :
    Calls Tryd.prog 83 #[.int .i64 month_] w0 fun e w1 => e = .returned (.bool r) ∧ Ext noG w0 w1 := by
  refine (Calls.start (P := Tryd.prog) (args := [.int .i64 month_]) (R := fun v w1 => v = .bool r ∧ Ext noG w0 w1) (n := 9) (w := w0) Tryd.func83 rfl rfl (Nat.le_of_ble_eq_true rfl) (fun ρ hargs => ?_)).mono (fun e w1 ⟨v, he, hv, hE⟩ => ⟨hv ▸ he, hE⟩)
  have h0 := hargs 0 _ rfl
  have hW := Ext.refl noG w0
  have hsz := Nat.le_refl w0.heap.size
  rw [calendar_validMonth] at hF
  refine WP.seq ?_
  refine WP.rb mixed [[]] [[]] [(2, .bool false)] (by kernel_rfl) ⟨fun ρz wz hE hA _ _ => core_val rfl rfl (o_assign rfl), trivial⟩ ?_
  intro ρ1 w1 hN hf hr
  have h0 := (hr 0 rfl).trans h0
  have hW := hW.trans hN
  have hsz := hW.size
  refine WP.seq ?_
  refine WP.rb mixed [[], [0], [1], [2], [2, 3], [2, 4], [5]] [[0], [], [], [0], [], [], []] [(3, .int .i64 month_), (4, .bool (decide (0 ≤ month_))), (5, .bool (decide (0 ≤ month_))), (6, gv (decide (0 ≤ month_)) (.int .i64 month_)), (7, gv (decide (0 ≤ month_)) (.bool (decide (month_ ≤ 2399)))), (8, .bool (decide (0 ≤ month_) && decide (month_ ≤ 2399))), (2, .bool (decide (0 ≤ month_) && decide (month_ ≤ 2399)))] (by kernel_rfl) ⟨fun ρz wz hE hA ⟨e0, _⟩ _ => core_val rfl rfl (o_move (e0.trans h0)),
 fun ρz wz hE hA _ ⟨u0, _⟩ => core_val rfl rfl (o_geq u0 rfl rfl),
 fun ρz wz hE hA _ ⟨u1, _⟩ => core_val rfl rfl (o_move u1),
 fun ρz wz hE hA ⟨e0, _⟩ ⟨u2, _⟩ => gIf rfl rfl (yT rfl u2) fun gc F hF => core_val rfl hF (o_move (e0.trans h0)),
 fun ρz wz hE hA _ ⟨u2, u3, _⟩ => gIf rfl rfl (yT rfl u2) fun gc F hF => core_val rfl hF (o_leq (gt gc u3) rfl rfl),
 fun ρz wz hE hA _ ⟨u2, u4, _⟩ => core_val rfl rfl (o_pick_and u2 u4 rfl),
 fun ρz wz hE hA _ ⟨u5, _⟩ => core_val rfl rfl (o_assign u5), trivial⟩ ?_
  intro ρ2 w2 hN hf hr
  have h2 : ρ2 2 = .bool (decide (0 ≤ month_) && decide (month_ ≤ 2399)) := hf 6 rfl
  have hW := hW.trans hN
  have hsz := hW.size
  refine WP.ret ?_
  show retQ Tryd.prog 9 Tryd.f83 (fun v w1 => v = .bool r ∧ Ext noG w0 w1) .ret ρ2 w2
  obtain rfl := Option.some.inj hF
  exact res1 rfl (by decide) h2 ⟨rfl, hW⟩

set_option maxHeartbeats 4000000 in
theorem calendar_MonthDays_ok {w0 : World} (month_ : Int) {r : Int} (hF : calendar_MonthDays month_ = some r) :
    Calls Tryd.prog 67 #[.int .i64 month_] w0 fun e w1 => e = .returned (.int .i64 r) ∧ Ext noG w0 w1 := by
  refine (Calls.start (P := Tryd.prog) (args := [.int .i64 month_]) (R := fun v w1 => v = .int .i64 r ∧ Ext noG w0 w1) (n := 13) (w := w0) Tryd.func67 rfl rfl (Nat.le_of_ble_eq_true rfl) (fun ρ hargs => ?_)).mono (fun e w1 ⟨v, he, hv, hE⟩ => ⟨hv ▸ he, hE⟩)
  have h0 := hargs 0 _ rfl
  have hW := Ext.refl noG w0
  have hsz := Nat.le_refl w0.heap.size
  rw [calendar_MonthDays] at hF
  refine WP.seq ?_
  refine WP.rb mixed [[]] [[]] [(2, .int .i64 0)] (by kernel_rfl) ⟨fun ρz wz hE hA _ _ => core_val rfl rfl (o_assign rfl), trivial⟩ ?_
  intro ρ1 w1 hN hf hr
  have h0 := (hr 0 rfl).trans h0
  have hW := hW.trans hN
  have hsz := hW.size
  refine WP.seq ?_
  refine WP.seq ?_
  obtain ⟨z, hz, hF⟩ := obind hF
  refine WP.rb mixed [[], [0], [1]] [[0], [], []] [(3, .int .i64 month_), (4, .bool z), (5, .bool (!z))] (by kernel_rfl) ⟨fun ρz wz hE hA ⟨e0, _⟩ _ => core_val rfl rfl (o_move (e0.trans h0)),
 fun ρz wz hE hA _ ⟨u0, _⟩ => core_call rfl (call_args1 u0) cf_83 (calendar_validMonth_ok  _  hz),
 fun ρz wz hE hA _ ⟨u1, _⟩ => core_val rfl rfl (o_not u1 rfl), trivial⟩ ?_
  intro ρ2 w2 hN hf hr
  have h5 : ρ2 5 = .bool (!z) := hf 2 rfl
  have h0 := (hr 0 rfl).trans h0
  have hW := hW.trans hN
  have hsz := hW.size
  refine WP.cond rfl h5 (fun hb => ?_) (fun hb => ?_)
  · have hF := (if_pos hb).symm.trans hF
    refine WP.seq ?_
    refine WP.rb mixed [[]] [[]] [(2, .int .i64 0)] (by kernel_rfl) ⟨fun ρz wz hE hA _ _ => core_val rfl rfl (o_assign rfl), trivial⟩ ?_
    intro ρ3 w3 hN hf hr
    have h2 : ρ3 2 = .int .i64 0 := hf 0 rfl
    have hW := hW.trans hN
    have hsz := hW.size
    refine WP.ret ?_
    show retQ Tryd.prog 13 Tryd.f67 (fun v w1 => v = .int .i64 r ∧ Ext noG w0 w1) .ret ρ3 w3
    obtain rfl := Option.some.inj hF
    exact res1 rfl (by decide) h2 ⟨rfl, hW⟩
  have hF := (if_neg (Bool.eq_false_iff.1 hb)).symm.trans hF
  refine WP.skip ?_
  refine WP.seq ?_
  obtain ⟨z2, hz2, hF⟩ := obind hF
  refine WP.rb mixed [[], [0], [1], [], [3], [4], [2, 5], [6]] [[0], [], [], [0], [], [], [], []] [(6, .int .i64 month_), (7, .int .i64 (i64 (Int.tdiv month_ 12))), (8, .int .i64 (i64 (1900 + i64 (Int.tdiv month_ 12)))), (9, .int .i64 month_), (10, .int .i64 (Int.tmod month_ 12)), (11, .int .i64 (i64 (Int.tmod month_ 12 + 1))), (12, .int .i64 z2), (2, .int .i64 z2)] (by kernel_rfl) ⟨fun ρz wz hE hA ⟨e0, _⟩ _ => core_val rfl rfl (o_move (e0.trans h0)),
 fun ρz wz hE hA _ ⟨u0, _⟩ => core_val rfl rfl (o_quo u0 rfl (by decide) rfl),
 fun ρz wz hE hA _ ⟨u1, _⟩ => core_val rfl rfl (o_add rfl u1 rfl),
 fun ρz wz hE hA ⟨e0, _⟩ _ => core_val rfl rfl (o_move (e0.trans h0)),
 fun ρz wz hE hA _ ⟨u3, _⟩ => core_val rfl rfl (o_rem u3 rfl (by decide) rfl),
 fun ρz wz hE hA _ ⟨u4, _⟩ => core_val rfl rfl (o_add u4 rfl rfl),
 fun ρz wz hE hA _ ⟨u2, u5, _⟩ => core_call rfl (call_args2 u2 u5) cf_84 (calendar_monthLength_ok  _ _  hz2),
 fun ρz wz hE hA _ ⟨u6, _⟩ => core_val rfl rfl (o_assign u6), trivial⟩ ?_
  intro ρ4 w4 hN hf hr
  have h2 : ρ4 2 = .int .i64 z2 := hf 7 rfl
  have hW := hW.trans hN
  have hsz := hW.size
  refine WP.ret ?_
  show retQ Tryd.prog 13 Tryd.f67 (fun v w1 => v = .int .i64 r ∧ Ext noG w0 w1) .ret ρ4 w4
  obtain rfl := Option.some.inj hF
  exact res1 rfl (by decide) h2 ⟨rfl, hW⟩

set_option maxHeartbeats 4000000 in
theorem money_currency_ok {w0 : World} (x_ : Int) {r : Bool} (hF : money_currency x_ = some r) :
    Calls Tryd.prog 43 #[.int .i64 x_] w0 fun e w1 => e = .returned (.bool r) ∧ Ext noG w0 w1 := by
  refine (Calls.start (P := Tryd.prog) (args := [.int .i64 x_]) (R := fun v w1 => v = .bool r ∧ Ext noG w0 w1) (n := 9) (w := w0) Tryd.func43 rfl rfl (Nat.le_of_ble_eq_true rfl) (fun ρ hargs => ?_)).mono (fun e w1 ⟨v, he, hv, hE⟩ => ⟨hv ▸ he, hE⟩)
  have h0 := hargs 0 _ rfl
  have hW := Ext.refl noG w0
  have hsz := Nat.le_refl w0.heap.size
  rw [money_currency] at hF
  refine WP.seq ?_
  refine WP.rb mixed [[]] [[]] [(2, .bool false)] (by kernel_rfl) ⟨fun ρz wz hE hA _ _ => core_val rfl rfl (o_assign rfl), trivial⟩ ?_
  intro ρ1 w1 hN hf hr
  have h0 := (hr 0 rfl).trans h0
  have hW := hW.trans hN
  have hsz := hW.size
  refine WP.seq ?_
  refine WP.rb mixed [[], [0], [1], [2], [2, 3], [2, 4], [5]] [[0], [], [], [0], [], [], []] [(3, .int .i64 x_), (4, .bool (decide (1 ≤ x_))), (5, .bool (decide (1 ≤ x_))), (6, gv (decide (1 ≤ x_)) (.int .i64 x_)), (7, gv (decide (1 ≤ x_)) (.bool (decide (x_ ≤ 999)))), (8, .bool (decide (1 ≤ x_) && decide (x_ ≤ 999))), (2, .bool (decide (1 ≤ x_) && decide (x_ ≤ 999)))] (by kernel_rfl) ⟨fun ρz wz hE hA ⟨e0, _⟩ _ => core_val rfl rfl (o_move (e0.trans h0)),
 fun ρz wz hE hA _ ⟨u0, _⟩ => core_val rfl rfl (o_geq u0 rfl rfl),
 fun ρz wz hE hA _ ⟨u1, _⟩ => core_val rfl rfl (o_move u1),
 fun ρz wz hE hA ⟨e0, _⟩ ⟨u2, _⟩ => gIf rfl rfl (yT rfl u2) fun gc F hF => core_val rfl hF (o_move (e0.trans h0)),
 fun ρz wz hE hA _ ⟨u2, u3, _⟩ => gIf rfl rfl (yT rfl u2) fun gc F hF => core_val rfl hF (o_leq (gt gc u3) rfl rfl),
 fun ρz wz hE hA _ ⟨u2, u4, _⟩ => core_val rfl rfl (o_pick_and u2 u4 rfl),
 fun ρz wz hE hA _ ⟨u5, _⟩ => core_val rfl rfl (o_assign u5), trivial⟩ ?_
  intro ρ2 w2 hN hf hr
  have h2 : ρ2 2 = .bool (decide (1 ≤ x_) && decide (x_ ≤ 999)) := hf 6 rfl
  have hW := hW.trans hN
  have hsz := hW.size
  refine WP.ret ?_
  show retQ Tryd.prog 9 Tryd.f43 (fun v w1 => v = .bool r ∧ Ext noG w0 w1) .ret ρ2 w2
  obtain rfl := Option.some.inj hF
  exact res1 rfl (by decide) h2 ⟨rfl, hW⟩

set_option maxHeartbeats 4000000 in
theorem money_small_ok {w0 : World} (x_ : Int) {r : Bool} (hF : money_small x_ = some r) :
    Calls Tryd.prog 46 #[.int .i64 x_] w0 fun e w1 => e = .returned (.bool r) ∧ Ext noG w0 w1 := by
  refine (Calls.start (P := Tryd.prog) (args := [.int .i64 x_]) (R := fun v w1 => v = .bool r ∧ Ext noG w0 w1) (n := 9) (w := w0) Tryd.func46 rfl rfl (Nat.le_of_ble_eq_true rfl) (fun ρ hargs => ?_)).mono (fun e w1 ⟨v, he, hv, hE⟩ => ⟨hv ▸ he, hE⟩)
  have h0 := hargs 0 _ rfl
  have hW := Ext.refl noG w0
  have hsz := Nat.le_refl w0.heap.size
  rw [money_small] at hF
  refine WP.seq ?_
  refine WP.rb mixed [[]] [[]] [(2, .bool false)] (by kernel_rfl) ⟨fun ρz wz hE hA _ _ => core_val rfl rfl (o_assign rfl), trivial⟩ ?_
  intro ρ1 w1 hN hf hr
  have h0 := (hr 0 rfl).trans h0
  have hW := hW.trans hN
  have hsz := hW.size
  refine WP.seq ?_
  refine WP.rb mixed [[], [0], [1], [2], [2, 3], [2, 4], [5]] [[0], [], [], [0], [], [], []] [(3, .int .i64 x_), (4, .bool (decide (1 ≤ x_))), (5, .bool (decide (1 ≤ x_))), (6, gv (decide (1 ≤ x_)) (.int .i64 x_)), (7, gv (decide (1 ≤ x_)) (.bool (decide (x_ ≤ 1000000)))), (8, .bool (decide (1 ≤ x_) && decide (x_ ≤ 1000000))), (2, .bool (decide (1 ≤ x_) && decide (x_ ≤ 1000000)))] (by kernel_rfl) ⟨fun ρz wz hE hA ⟨e0, _⟩ _ => core_val rfl rfl (o_move (e0.trans h0)),
 fun ρz wz hE hA _ ⟨u0, _⟩ => core_val rfl rfl (o_geq u0 rfl rfl),
 fun ρz wz hE hA _ ⟨u1, _⟩ => core_val rfl rfl (o_move u1),
 fun ρz wz hE hA ⟨e0, _⟩ ⟨u2, _⟩ => gIf rfl rfl (yT rfl u2) fun gc F hF => core_val rfl hF (o_move (e0.trans h0)),
 fun ρz wz hE hA _ ⟨u2, u3, _⟩ => gIf rfl rfl (yT rfl u2) fun gc F hF => core_val rfl hF (o_leq (gt gc u3) rfl rfl),
 fun ρz wz hE hA _ ⟨u2, u4, _⟩ => core_val rfl rfl (o_pick_and u2 u4 rfl),
 fun ρz wz hE hA _ ⟨u5, _⟩ => core_val rfl rfl (o_assign u5), trivial⟩ ?_
  intro ρ2 w2 hN hf hr
  have h2 : ρ2 2 = .bool (decide (1 ≤ x_) && decide (x_ ≤ 1000000)) := hf 6 rfl
  have hW := hW.trans hN
  have hsz := hW.size
  refine WP.ret ?_
  show retQ Tryd.prog 9 Tryd.f46 (fun v w1 => v = .bool r ∧ Ext noG w0 w1) .ret ρ2 w2
  obtain rfl := Option.some.inj hF
  exact res1 rfl (by decide) h2 ⟨rfl, hW⟩

set_option maxHeartbeats 4000000 in
theorem money_size_ok {w0 : World} (x_ : Int) {r : Int} (hF : money_size x_ = some r) :
    Calls Tryd.prog 59 #[.int .i64 x_] w0 fun e w1 => e = .returned (.int .u64 r) ∧ Ext noG w0 w1 := by
  refine (Calls.start (P := Tryd.prog) (args := [.int .i64 x_]) (R := fun v w1 => v = .int .u64 r ∧ Ext noG w0 w1) (n := 10) (w := w0) Tryd.func59 rfl rfl (Nat.le_of_ble_eq_true rfl) (fun ρ hargs => ?_)).mono (fun e w1 ⟨v, he, hv, hE⟩ => ⟨hv ▸ he, hE⟩)
  have h0 := hargs 0 _ rfl
  have hW := Ext.refl noG w0
  have hsz := Nat.le_refl w0.heap.size
  rw [money_size] at hF
  refine WP.seq ?_
  refine WP.rb mixed [[]] [[]] [(2, .int .u64 0)] (by kernel_rfl) ⟨fun ρz wz hE hA _ _ => core_val rfl rfl (o_assign rfl), trivial⟩ ?_
  intro ρ1 w1 hN hf hr
  have h0 := (hr 0 rfl).trans h0
  have hW := hW.trans hN
  have hsz := hW.size
  refine WP.seq ?_
  refine WP.seq ?_
  refine WP.rb mixed [[], [0]] [[0], []] [(3, .int .i64 x_), (4, .bool (decide (x_ < 0)))] (by kernel_rfl) ⟨fun ρz wz hE hA ⟨e0, _⟩ _ => core_val rfl rfl (o_move (e0.trans h0)),
 fun ρz wz hE hA _ ⟨u0, _⟩ => core_val rfl rfl (o_lss u0 rfl rfl), trivial⟩ ?_
  intro ρ2 w2 hN hf hr
  have h4 : ρ2 4 = .bool (decide (x_ < 0)) := hf 1 rfl
  have h0 := (hr 0 rfl).trans h0
  have hW := hW.trans hN
  have hsz := hW.size
  refine WP.cond rfl h4 (fun hb => ?_) (fun hb => ?_)
  · have hF := (if_pos hb).symm.trans hF
    refine WP.seq ?_
    refine WP.rb mixed [[], [0], [1], [2]] [[0], [], [], []] [(5, .int .i64 x_), (6, .int .i64 (i64 (-x_))), (7, .int .u64 (u64 (i64 (-x_)))), (2, .int .u64 (u64 (i64 (-x_))))] (by kernel_rfl) ⟨fun ρz wz hE hA ⟨e0, _⟩ _ => core_val rfl rfl (o_move (e0.trans h0)),
 fun ρz wz hE hA _ ⟨u0, _⟩ => core_val rfl rfl (o_neg u0 rfl),
 fun ρz wz hE hA _ ⟨u1, _⟩ => core_val rfl rfl (o_conv u1 (cv_3_62 _ _)),
 fun ρz wz hE hA _ ⟨u2, _⟩ => core_val rfl rfl (o_assign u2), trivial⟩ ?_
    intro ρ3 w3 hN hf hr
    have h2 : ρ3 2 = .int .u64 (u64 (i64 (-x_))) := hf 3 rfl
    have hW := hW.trans hN
    have hsz := hW.size
    refine WP.ret ?_
    show retQ Tryd.prog 10 Tryd.f59 (fun v w1 => v = .int .u64 r ∧ Ext noG w0 w1) .ret ρ3 w3
    obtain rfl := Option.some.inj hF
    exact res1 rfl (by decide) h2 ⟨rfl, hW⟩
  have hF := (if_neg (Bool.eq_false_iff.1 hb)).symm.trans hF
  refine WP.skip ?_
  refine WP.seq ?_
  refine WP.rb mixed [[], [0], [1]] [[0], [], []] [(8, .int .i64 x_), (9, .int .u64 (u64 x_)), (2, .int .u64 (u64 x_))] (by kernel_rfl) ⟨fun ρz wz hE hA ⟨e0, _⟩ _ => core_val rfl rfl (o_move (e0.trans h0)),
 fun ρz wz hE hA _ ⟨u0, _⟩ => core_val rfl rfl (o_conv u0 (cv_3_62 _ _)),
 fun ρz wz hE hA _ ⟨u1, _⟩ => core_val rfl rfl (o_assign u1), trivial⟩ ?_
  intro ρ4 w4 hN hf hr
  have h2 : ρ4 2 = .int .u64 (u64 x_) := hf 2 rfl
  have hW := hW.trans hN
  have hsz := hW.size
  refine WP.ret ?_
  show retQ Tryd.prog 10 Tryd.f59 (fun v w1 => v = .int .u64 r ∧ Ext noG w0 w1) .ret ρ4 w4
  obtain rfl := Option.some.inj hF
  exact res1 rfl (by decide) h2 ⟨rfl, hW⟩

set_option maxHeartbeats 4000000 in
theorem rational_size_ok {w0 : World} (x_ : Int) {r : Int} (hF : rational_size x_ = some r) :
    Calls Tryd.prog 69 #[.int .i64 x_] w0 fun e w1 => e = .returned (.int .u64 r) ∧ Ext noG w0 w1 := by
  refine (Calls.start (P := Tryd.prog) (args := [.int .i64 x_]) (R := fun v w1 => v = .int .u64 r ∧ Ext noG w0 w1) (n := 10) (w := w0) Tryd.func69 rfl rfl (Nat.le_of_ble_eq_true rfl) (fun ρ hargs => ?_)).mono (fun e w1 ⟨v, he, hv, hE⟩ => ⟨hv ▸ he, hE⟩)
  have h0 := hargs 0 _ rfl
  have hW := Ext.refl noG w0
  have hsz := Nat.le_refl w0.heap.size
  rw [rational_size] at hF
  refine WP.seq ?_
  refine WP.rb mixed [[]] [[]] [(2, .int .u64 0)] (by kernel_rfl) ⟨fun ρz wz hE hA _ _ => core_val rfl rfl (o_assign rfl), trivial⟩ ?_
  intro ρ1 w1 hN hf hr
  have h0 := (hr 0 rfl).trans h0
  have hW := hW.trans hN
  have hsz := hW.size
  refine WP.seq ?_
  refine WP.seq ?_
  refine WP.rb mixed [[], [0]] [[0], []] [(3, .int .i64 x_), (4, .bool (decide (x_ < 0)))] (by kernel_rfl) ⟨fun ρz wz hE hA ⟨e0, _⟩ _ => core_val rfl rfl (o_move (e0.trans h0)),
 fun ρz wz hE hA _ ⟨u0, _⟩ => core_val rfl rfl (o_lss u0 rfl rfl), trivial⟩ ?_
  intro ρ2 w2 hN hf hr
  have h4 : ρ2 4 = .bool (decide (x_ < 0)) := hf 1 rfl
  have h0 := (hr 0 rfl).trans h0
  have hW := hW.trans hN
  have hsz := hW.size
  refine WP.cond rfl h4 (fun hb => ?_) (fun hb => ?_)
  · have hF := (if_pos hb).symm.trans hF
    refine WP.seq ?_
    refine WP.rb mixed [[], [0], [1], [2]] [[0], [], [], []] [(5, .int .i64 x_), (6, .int .u64 (u64 x_)), (7, .int .u64 (u64 (-(u64 x_)))), (2, .int .u64 (u64 (-(u64 x_))))] (by kernel_rfl) ⟨fun ρz wz hE hA ⟨e0, _⟩ _ => core_val rfl rfl (o_move (e0.trans h0)),
 fun ρz wz hE hA _ ⟨u0, _⟩ => core_val rfl rfl (o_conv u0 (cv_3_62 _ _)),
 fun ρz wz hE hA _ ⟨u1, _⟩ => core_val rfl rfl (o_neg u1 rfl),
 fun ρz wz hE hA _ ⟨u2, _⟩ => core_val rfl rfl (o_assign u2), trivial⟩ ?_
    intro ρ3 w3 hN hf hr
    have h2 : ρ3 2 = .int .u64 (u64 (-(u64 x_))) := hf 3 rfl
    have hW := hW.trans hN
    have hsz := hW.size
    refine WP.ret ?_
    show retQ Tryd.prog 10 Tryd.f69 (fun v w1 => v = .int .u64 r ∧ Ext noG w0 w1) .ret ρ3 w3
    obtain rfl := Option.some.inj hF
    exact res1 rfl (by decide) h2 ⟨rfl, hW⟩
  have hF := (if_neg (Bool.eq_false_iff.1 hb)).symm.trans hF
  refine WP.skip ?_
  refine WP.seq ?_
  refine WP.rb mixed [[], [0], [1]] [[0], [], []] [(8, .int .i64 x_), (9, .int .u64 (u64 x_)), (2, .int .u64 (u64 x_))] (by kernel_rfl) ⟨fun ρz wz hE hA ⟨e0, _⟩ _ => core_val rfl rfl (o_move (e0.trans h0)),
 fun ρz wz hE hA _ ⟨u0, _⟩ => core_val rfl rfl (o_conv u0 (cv_3_62 _ _)),
 fun ρz wz hE hA _ ⟨u1, _⟩ => core_val rfl rfl (o_assign u1), trivial⟩ ?_
  intro ρ4 w4 hN hf hr
  have h2 : ρ4 2 = .int .u64 (u64 x_) := hf 2 rfl
  have hW := hW.trans hN
  have hsz := hW.size
  refine WP.ret ?_
  show retQ Tryd.prog 10 Tryd.f69 (fun v w1 => v = .int .u64 r ∧ Ext noG w0 w1) .ret ρ4 w4
  obtain rfl := Option.some.inj hF
  exact res1 rfl (by decide) h2 ⟨rfl, hW⟩

set_option maxHeartbeats 4000000 in
theorem rational_gcd_ok {w0 : World} (a_ : Int) (b_ : Int) {r : Int} (hF : rational_gcd a_ b_ = some r) :
    Calls Tryd.prog 68 #[.int .u64 a_, .int .u64 b_] w0 fun e w1 => e = .returned (.int .u64 r) ∧ Ext noG w0 w1 := by
  refine (Calls.start (P := Tryd.prog) (args := [.int .u64 a_, .int .u64 b_]) (R := fun v w1 => v = .int .u64 r ∧ Ext noG w0 w1) (n := 12) (w := w0) Tryd.func68 rfl rfl (Nat.le_of_ble_eq_true rfl) (fun ρ hargs => ?_)).mono (fun e w1 ⟨v, he, hv, hE⟩ => ⟨hv ▸ he, hE⟩)
  have h0 := hargs 0 _ rfl
  have h1 := hargs 1 _ rfl
  have hW := Ext.refl noG w0
  have hsz := Nat.le_refl w0.heap.size
  rw [rational_gcd] at hF
  refine WP.seq ?_
  refine WP.rb mixed [[]] [[]] [(4, .int .u64 0)] (by kernel_rfl) ⟨fun ρz wz hE hA _ _ => core_val rfl rfl (o_assign rfl), trivial⟩ ?_
  intro ρ1 w1 hN hf hr
  obtain ⟨h0, h1⟩ := k2 hr h0 h1 rfl
  have hW := hW.trans hN
  have hsz := hW.size
  refine WP.seq ?_
  refine WP.block ?_
  refine WP.loop (fun k_ ρ w => ∃ a_2 : Int, ∃ b_2 : Int, ρ 0 = .int .u64 a_2 ∧ ρ 1 = .int .u64 b_2 ∧ Ext noG w0 w ∧ w0.heap.size ≤ w.heap.size ∧ loopC k_ rational_gcd_l (a_2, b_2) = some r) FU ⟨a_, b_, h0, h1, hW, hsz, hF⟩ (fun _ _ h => by obtain ⟨_, _, _, _, _, _, h⟩ := h; cases h) ?_
  rintro k_ ρ2 w2 ⟨a_2, b_2, h0, h1, hW, hsz, hF⟩
  have hF : rational_gcd_l (loopC k_ rational_gcd_l) (a_2, b_2) = some r := hF
  generalize hrec_ : loopC k_ rational_gcd_l = rec_ at hF
  rw [rational_gcd_l] at hF
  refine WP.seq ?_
  refine WP.seq ?_
  refine WP.rb mixed [[], [0]] [[1], []] [(5, .int .u64 b_2), (6, .bool (b_2 != 0))] (by kernel_rfl) ⟨fun ρz wz hE hA ⟨e1, _⟩ _ => core_val rfl rfl (o_move (e1.trans h1)),
 fun ρz wz hE hA _ ⟨u0, _⟩ => core_val rfl rfl (o_neq u0 rfl rfl), trivial⟩ ?_
  intro ρ3 w3 hN hf hr
  have h6 : ρ3 6 = .bool (b_2 != 0) := hf 1 rfl
  obtain ⟨h0, h1⟩ := k2 hr h0 h1 rfl
  have hW := hW.trans hN
  have hsz := hW.size
  refine WP.cond rfl h6 (fun hb => ?_) (fun hb => ?_)
  · have hF := (if_pos hb).symm.trans hF
    refine WP.skip ?_
    refine WP.block ?_
    obtain ⟨q, hq, hF⟩ := obind hF
    refine WP.rv mixed [[], [], [], [1, 2], [0, 1], [0, 2, 3]] [[], [], [], [1, 2], [0], [3]] [[1], [0], [1], [], [], []] [(7, .int .u64 b_2), (8, .int .u64 a_2), (9, .int .u64 b_2), (10, .int .u64 q), (0, .int .u64 b_2), (1, .int .u64 q)] (by kernel_rfl) ⟨fun ρz wz hE hA ⟨e1, _⟩ _ => core_val rfl rfl (o_move (e1.trans h1)),
 fun ρz wz hE hA ⟨e0, _⟩ _ => core_val rfl rfl (o_move (e0.trans h0)),
 fun ρz wz hE hA ⟨e1, _⟩ _ => core_val rfl rfl (o_move (e1.trans h1)),
 fun ρz wz hE hA _ ⟨u1, u2, _⟩ => core_val rfl rfl (o_rem u1 u2 (remI_some hq).1 (remI_some hq).2),
 fun ρz wz hE hA _ ⟨u0, _⟩ => core_val rfl rfl (o_assign u0),
 fun ρz wz hE hA _ ⟨u3, _⟩ => core_val rfl rfl (o_assign u3), trivial⟩ ?_
    intro ρ4 w4 hN hf hr
    have h0 : ρ4 0 = .int .u64 b_2 := hf 4 rfl
    have h1 : ρ4 1 = .int .u64 q := hf 5 rfl
    have hW := hW.trans hN
    have hsz := hW.size
    exact ⟨b_2, q, h0, h1, hW, hsz, (by first | exact hF | (rw [hrec_]; exact hF))⟩
  have hF := (if_neg (Bool.eq_false_iff.1 hb)).symm.trans hF
  refine WP.exit ?_
  refine thenQ_exit ?_
  refine thenQ_exit ?_
  refine blockQ_hit ?_
  refine WP.seq ?_
  refine WP.rb mixed [[], [0]] [[0], []] [(11, .int .u64 a_2), (4, .int .u64 a_2)] (by kernel_rfl) ⟨fun ρz wz hE hA ⟨e0, _⟩ _ => core_val rfl rfl (o_move (e0.trans h0)),
 fun ρz wz hE hA _ ⟨u0, _⟩ => core_val rfl rfl (o_assign u0), trivial⟩ ?_
  intro ρ5 w5 hN hf hr
  have h4 : ρ5 4 = .int .u64 a_2 := hf 1 rfl
  have hW := hW.trans hN
  have hsz := hW.size
  refine WP.ret ?_
  show retQ Tryd.prog 12 Tryd.f68 (fun v w1 => v = .int .u64 r ∧ Ext noG w0 w1) .ret ρ5 w5
  obtain rfl := Option.some.inj hF
  exact res1 rfl (by decide) h4 ⟨rfl, hW⟩

set_option maxHeartbeats 4000000 in
theorem rational_Valid_ok {w0 : World} (f_ : Fraction) {r : Bool} (hF : rational_Valid f_ = some r) :
    Calls Tryd.prog 45 #[Fraction.val f_] w0 fun e w1 => e = .returned (.bool r) ∧ Ext noG w0 w1 := by
  refine (Calls.start (P := Tryd.prog) (args := [Fraction.val f_]) (R := fun v w1 => v = .bool r ∧ Ext noG w0 w1) (n := 31) (w := w0) Tryd.func45 rfl rfl (Nat.le_of_ble_eq_true rfl) (fun ρ hargs => ?_)).mono (fun e w1 ⟨v, he, hv, hE⟩ => ⟨hv ▸ he, hE⟩)
  have h0 := hargs 0 _ rfl
  have hW := Ext.refl noG w0
  have hsz := Nat.le_refl w0.heap.size
  rw [rational_Valid] at hF
  refine WP.seq ?_
  refine WP.rg mixed [[], []] [[], []] [[0], []] [(1, fun u wz => ∃ b, u = .pointer (some ⟨b, 0, none⟩) ∧ w0.heap.size ≤ b ∧ Mb wz b 54 (Fraction.cells f_)), val 2 (.bool false)] (by kernel_rfl) ⟨fun _ _ _ hE ⟨b, hb, hs, hM⟩ => ⟨b, hb, hs, hM.exn hE⟩, sV, trivial⟩ ⟨fun ρz wz hE hA ⟨e0, _⟩ _ => core_new rfl rfl hE (o_box (e0.trans h0) (bx_54 _ _)),
 fun ρz wz hE hA _ _ => core_val rfl rfl (o_assign rfl), trivial⟩ ?_
  intro ρ1 w1 hN hf hr
  obtain ⟨b1_, h1, hge_b1_, Hb_b1_⟩ := hf 0 rfl
  have hW := hW.trans hN
  have hB_b1_ : w0.heap.size ≤ b1_ := Nat.le_trans hsz hge_b1_
  have hsz := hW.size
  refine WP.seq ?_
  obtain ⟨c, hc, hF⟩ := obind hF
  obtain ⟨z, hz, hc⟩ := andB hc
  obtain ⟨z2, hz2, hc⟩ := andB hc
  obtain ⟨z3, hz3, hc⟩ := andB hc
  have hc := andE hc
  refine WP.rb mixed [[], [0], [1], [2], [3], [3, 4], [3, 5], [3, 6], [7], [8], [8, 9], [8, 10], [8, 11], [12], [13], [13, 14], [13, 15], [13, 16], [17], [18], [18, 19], [18, 20], [18], [18, 22], [18, 23], [18, 21, 24], [18, 25], [18, 26], [27]] [[1], [], [], [], [1], [], [], [], [], [1], [], [], [], [], [1], [], [], [], [], [1], [], [], [1], [], [], [], [], [], []] [(3, .pointer (some ((⟨b1_, 0, none⟩ : Addr).add 1))), (4, .int .i64 f_.Den), (5, .bool (decide (1 ≤ f_.Den))), (6, .bool (decide (1 ≤ f_.Den))), (7, gv (decide (1 ≤ f_.Den)) (.pointer (some ((⟨b1_, 0, none⟩ : Addr).add 1)))), (8, gv (decide (1 ≤ f_.Den)) (.int .i64 f_.Den)), (9, gv (decide (1 ≤ f_.Den)) (.bool (decide (f_.Den ≤ 1000000000)))), (10, .bool (decide (1 ≤ f_.Den) && decide (f_.Den ≤ 1000000000))), (11, .bool (decide (1 ≤ f_.Den) && decide (f_.Den ≤ 1000000000))), (12, gv ((decide (1 ≤ f_.Den) && decide (f_.Den ≤ 1000000000))) (.pointer (some ((⟨b1_, 0, none⟩ : Addr).add 0)))), (13, gv ((decide (1 ≤ f_.Den) && decide (f_.Den ≤ 1000000000))) (.int .i64 f_.Num)), (14, gv ((decide (1 ≤ f_.Den) && decide (f_.Den ≤ 1000000000))) (.bool (decide ((-1000000000000000) ≤ f_.Num)))), (15, .bool ((decide (1 ≤ f_.Den) && decide (f_.Den ≤ 1000000000)) && decide ((-1000000000000000) ≤ f_.Num))), (16, .bool ((decide (1 ≤ f_.Den) && decide (f_.Den ≤ 1000000000)) && decide ((-1000000000000000) ≤ f_.Num))), (17, gv (((decide (1 ≤ f_.Den) && decide (f_.Den ≤ 1000000000)) && decide ((-1000000000000000) ≤ f_.Num))) (.pointer (some ((⟨b1_, 0, none⟩ : Addr).add 0)))), (18, gv (((decide (1 ≤ f_.Den) && decide (f_.Den ≤ 1000000000)) && decide ((-1000000000000000) ≤ f_.Num))) (.int .i64 f_.Num)), (19, gv (((decide (1 ≤ f_.Den) && decide (f_.Den ≤ 1000000000)) && decide ((-1000000000000000) ≤ f_.Num))) (.bool (decide (f_.Num ≤ 1000000000000000)))), (20, .bool (((decide (1 ≤ f_.Den) && decide (f_.Den ≤ 1000000000)) && decide ((-1000000000000000) ≤ f_.Num)) && decide (f_.Num ≤ 1000000000000000))), (21, .bool (((decide (1 ≤ f_.Den) && decide (f_.Den ≤ 1000000000)) && decide ((-1000000000000000) ≤ f_.Num)) && decide (f_.Num ≤ 1000000000000000))), (22, gv ((((decide (1 ≤ f_.Den) && decide (f_.Den ≤ 1000000000)) && decide ((-1000000000000000) ≤ f_.Num)) && decide (f_.Num ≤ 1000000000000000))) (.pointer (some ((⟨b1_, 0, none⟩ : Addr).add 0)))), (23, gv ((((decide (1 ≤ f_.Den) && decide (f_.Den ≤ 1000000000)) && decide ((-1000000000000000) ≤ f_.Num)) && decide (f_.Num ≤ 1000000000000000))) (.int .i64 f_.Num)), (24, gv ((((decide (1 ≤ f_.Den) && decide (f_.Den ≤ 1000000000)) && decide ((-1000000000000000) ≤ f_.Num)) && decide (f_.Num ≤ 1000000000000000))) (.int .u64 z)), (25, gv ((((decide (1 ≤ f_.Den) && decide (f_.Den ≤ 1000000000)) && decide ((-1000000000000000) ≤ f_.Num)) && decide (f_.Num ≤ 1000000000000000))) (.pointer (some ((⟨b1_, 0, none⟩ : Addr).add 1)))), (26, gv ((((decide (1 ≤ f_.Den) && decide (f_.Den ≤ 1000000000)) && decide ((-1000000000000000) ≤ f_.Num)) && decide (f_.Num ≤ 1000000000000000))) (.int .i64 f_.Den)), (27, gv ((((decide (1 ≤ f_.Den) && decide (f_.Den ≤ 1000000000)) && decide ((-1000000000000000) ≤ f_.Num)) && decide (f_.Num ≤ 1000000000000000))) (.int .u64 z2)), (28, gv ((((decide (1 ≤ f_.Den) && decide (f_.Den ≤ 1000000000)) && decide ((-1000000000000000) ≤ f_.Num)) && decide (f_.Num ≤ 1000000000000000))) (.int .u64 z3)), (29, gv ((((decide (1 ≤ f_.Den) && decide (f_.Den ≤ 1000000000)) && decide ((-1000000000000000) ≤ f_.Num)) && decide (f_.Num ≤ 1000000000000000))) (.bool (z3 == 1))), (30, .bool c), (2, .bool c)] (by kernel_rfl) ⟨fun ρz wz hE hA ⟨e1, _⟩ _ => core_val rfl rfl (o_fieldAddr (e1.trans h1) (fa_54_1 _ _)),
 fun ρz wz hE hA _ ⟨u0, _⟩ => core_val rfl rfl (o_load u0 (run_load1 (lr_3 _ _) (CA.sub ((Hb_b1_.exn (hA rfl)).ca) 1 1))),
 fun ρz wz hE hA _ ⟨u1, _⟩ => core_val rfl rfl (o_geq u1 rfl rfl),
 fun ρz wz hE hA _ ⟨u2, _⟩ => core_val rfl rfl (o_move u2),
 fun ρz wz hE hA ⟨e1, _⟩ ⟨u3, _⟩ => gIf rfl rfl (yT rfl u3) fun gc F hF => core_val rfl hF (o_fieldAddr (e1.trans h1) (fa_54_1 _ _)),
 fun ρz wz hE hA _ ⟨u3, u4, _⟩ => gIf rfl rfl (yT rfl u3) fun gc F hF => core_val rfl hF (o_load (gt gc u4) (run_load1 (lr_3 _ _) (CA.sub ((Hb_b1_.exn (hA rfl)).ca) 1 1))),
 fun ρz wz hE hA _ ⟨u3, u5, _⟩ => gIf rfl rfl (yT rfl u3) fun gc F hF => core_val rfl hF (o_leq (gt gc u5) rfl rfl),
 fun ρz wz hE hA _ ⟨u3, u6, _⟩ => core_val rfl rfl (o_pick_and u3 u6 rfl),
 fun ρz wz hE hA _ ⟨u7, _⟩ => core_val rfl rfl (o_move u7),
 fun ρz wz hE hA ⟨e1, _⟩ ⟨u8, _⟩ => gIf rfl rfl (yT rfl u8) fun gc F hF => core_val rfl hF (o_fieldAddr (e1.trans h1) (fa_54_0 _ _)),
 fun ρz wz hE hA _ ⟨u8, u9, _⟩ => gIf rfl rfl (yT rfl u8) fun gc F hF => core_val rfl hF (o_load (gt gc u9) (run_load1 (lr_3 _ _) (CA.sub ((Hb_b1_.exn (hA rfl)).ca) 0 1))),
 fun ρz wz hE hA _ ⟨u8, u10, _⟩ => gIf rfl rfl (yT rfl u8) fun gc F hF => core_val rfl hF (o_geq (gt gc u10) rfl rfl),
 fun ρz wz hE hA _ ⟨u8, u11, _⟩ => core_val rfl rfl (o_pick_and u8 u11 rfl),
 fun ρz wz hE hA _ ⟨u12, _⟩ => core_val rfl rfl (o_move u12),
 fun ρz wz hE hA ⟨e1, _⟩ ⟨u13, _⟩ => gIf rfl rfl (yT rfl u13) fun gc F hF => core_val rfl hF (o_fieldAddr (e1.trans h1) (fa_54_0 _ _)),
 fun ρz wz hE hA _ ⟨u13, u14, _⟩ => gIf rfl rfl (yT rfl u13) fun gc F hF => core_val rfl hF (o_load (gt gc u14) (run_load1 (lr_3 _ _) (CA.sub ((Hb_b1_.exn (hA rfl)).ca) 0 1))),
 fun ρz wz hE hA _ ⟨u13, u15, _⟩ => gIf rfl rfl (yT rfl u13) fun gc F hF => core_val rfl hF (o_leq (gt gc u15) rfl rfl),
 fun ρz wz hE hA _ ⟨u13, u16, _⟩ => core_val rfl rfl (o_pick_and u13 u16 rfl),
 fun ρz wz hE hA _ ⟨u17, _⟩ => core_val rfl rfl (o_move u17),
 fun ρz wz hE hA ⟨e1, _⟩ ⟨u18, _⟩ => gIf rfl rfl (yT rfl u18) fun gc F hF => core_val rfl hF (o_fieldAddr (e1.trans h1) (fa_54_0 _ _)),
 fun ρz wz hE hA _ ⟨u18, u19, _⟩ => gIf rfl rfl (yT rfl u18) fun gc F hF => core_val rfl hF (o_load (gt gc u19) (run_load1 (lr_3 _ _) (CA.sub ((Hb_b1_.exn (hA rfl)).ca) 0 1))),
 fun ρz wz hE hA _ ⟨u18, u20, _⟩ => gIf rfl rfl (yT rfl u18) fun gc F hF => core_call hF (call_args1 (gt gc u20)) cf_69 (rational_size_ok  _  (hz gc)),
 fun ρz wz hE hA ⟨e1, _⟩ ⟨u18, _⟩ => gIf rfl rfl (yT rfl u18) fun gc F hF => core_val rfl hF (o_fieldAddr (e1.trans h1) (fa_54_1 _ _)),
 fun ρz wz hE hA _ ⟨u18, u22, _⟩ => gIf rfl rfl (yT rfl u18) fun gc F hF => core_val rfl hF (o_load (gt gc u22) (run_load1 (lr_3 _ _) (CA.sub ((Hb_b1_.exn (hA rfl)).ca) 1 1))),
 fun ρz wz hE hA _ ⟨u18, u23, _⟩ => gIf rfl rfl (yT rfl u18) fun gc F hF => core_call hF (call_args1 (gt gc u23)) cf_69 (rational_size_ok  _  (hz2 gc)),
 fun ρz wz hE hA _ ⟨u18, u21, u24, _⟩ => gIf rfl rfl (yT rfl u18) fun gc F hF => core_call hF (call_args2 (gt gc u21) (gt gc u24)) cf_68 (rational_gcd_ok  _ _  (hz3 gc)),
 fun ρz wz hE hA _ ⟨u18, u25, _⟩ => gIf rfl rfl (yT rfl u18) fun gc F hF => core_val rfl hF (o_eql (gt gc u25) rfl rfl),
 fun ρz wz hE hA _ ⟨u18, u26, _⟩ => core_valE rfl rfl (congrArg Value.bool hc) (o_pick_and u18 u26 rfl),
 fun ρz wz hE hA _ ⟨u27, _⟩ => core_val rfl rfl (o_assign u27), trivial⟩ ?_
  intro ρ2 w2 hN hf hr
  have h2 : ρ2 2 = .bool c := hf 28 rfl
  have hW := hW.trans hN
  have hsz := hW.size
  refine WP.ret ?_
  show retQ Tryd.prog 31 Tryd.f45 (fun v w1 => v = .bool r ∧ Ext noG w0 w1) .ret ρ2 w2
  obtain rfl := Option.some.inj hF
  exact res1 rfl (by decide) h2 ⟨rfl, hW⟩

set_option maxHeartbeats 4000000 in
theorem money_month_ok {w0 : World} (x_ : Int) {r : Bool} (hF : money_month x_ = some r) :
    Calls Tryd.prog 44 #[.int .i64 x_] w0 fun e w1 => e = .returned (.bool r) ∧ Ext noG w0 w1 := by
  refine (Calls.start (P := Tryd.prog) (args := [.int .i64 x_]) (R := fun v w1 => v = .bool r ∧ Ext noG w0 w1) (n := 6) (w := w0) Tryd.func44 rfl rfl (Nat.le_of_ble_eq_true rfl) (fun ρ hargs => ?_)).mono (fun e w1 ⟨v, he, hv, hE⟩ => ⟨hv ▸ he, hE⟩)
  have h0 := hargs 0 _ rfl
  have hW := Ext.refl noG w0
  have hsz := Nat.le_refl w0.heap.size
  rw [money_month] at hF
  refine WP.seq ?_
  refine WP.rb mixed [[]] [[]] [(2, .bool false)] (by kernel_rfl) ⟨fun ρz wz hE hA _ _ => core_val rfl rfl (o_assign rfl), trivial⟩ ?_
  intro ρ1 w1 hN hf hr
  have h0 := (hr 0 rfl).trans h0
  have hW := hW.trans hN
  have hsz := hW.size
  refine WP.seq ?_
  obtain ⟨z, hz, hF⟩ := obind hF
  refine WP.rb mixed [[], [0], [1], [2]] [[0], [], [], []] [(3, .int .i64 x_), (4, .int .i64 z), (5, .bool (decide (0 < z))), (2, .bool (decide (0 < z)))] (by kernel_rfl) ⟨fun ρz wz hE hA ⟨e0, _⟩ _ => core_val rfl rfl (o_move (e0.trans h0)),
 fun ρz wz hE hA _ ⟨u0, _⟩ => core_call rfl (call_args1 u0) cf_67 (calendar_MonthDays_ok  _  hz),
 fun ρz wz hE hA _ ⟨u1, _⟩ => core_val rfl rfl (o_gtr u1 rfl rfl),
 fun ρz wz hE hA _ ⟨u2, _⟩ => core_val rfl rfl (o_assign u2), trivial⟩ ?_
  intro ρ2 w2 hN hf hr
  have h2 : ρ2 2 = .bool (decide (0 < z)) := hf 3 rfl
  have hW := hW.trans hN
  have hsz := hW.size
  refine WP.ret ?_
  show retQ Tryd.prog 6 Tryd.f44 (fun v w1 => v = .bool r ∧ Ext noG w0 w1) .ret ρ2 w2
  obtain rfl := Option.some.inj hF
  exact res1 rfl (by decide) h2 ⟨rfl, hW⟩

set_option maxHeartbeats 4000000 in
theorem money_CheckRates_ok {w0 : World} (d_ : List Rate) {v_d_ : Value} (H_d_ : RepSl Rate.R noG w0 v_d_ d_) {r : Int} (hF : money_CheckRates d_ = some r) :
    Calls Tryd.prog 27 #[v_d_] w0 fun e w1 => e = .returned (.int .i64 r) ∧ Ext noG w0 w1 := by
  refine (Calls.start (P := Tryd.prog) (args := [v_d_]) (R := fun v w1 => v = .int .i64 r ∧ Ext noG w0 w1) (n := 81) (w := w0) Tryd.func27 rfl rfl (Nat.le_of_ble_eq_true rfl) (fun ρ hargs => ?_)).mono (fun e w1 ⟨v, he, hv, hE⟩ => ⟨hv ▸ he, hE⟩)
  have h0 := hargs 0 _ rfl
  have hW := Ext.refl noG w0
  have hsz := Nat.le_refl w0.heap.size
  obtain ⟨_, _, hs_H_d_, _, _⟩ := RepSl.shape H_d_
  have H_d_ := H_d_.start
  rw [money_CheckRates] at hF
  refine WP.seq ?_
  refine WP.rb mixed [[]] [[]] [(2, .int .i64 0)] (by kernel_rfl) ⟨fun ρz wz hE hA _ _ => core_val rfl rfl (o_assign rfl), trivial⟩ ?_
  intro ρ1 w1 hN hf hr
  have h0 := (hr 0 rfl).trans h0
  have H_d_ := H_d_.exn hN
  have hW := hW.trans hN
  have hsz := hW.size
  refine WP.seq ?_
  refine WP.seq ?_
  refine WP.rb mixed [[], [0], [1]] [[0], [], []] [(5, v_d_), (6, .int .i64 (d_.length : Int)), (7, .bool (decide (40 < (d_.length : Int))))] (by kernel_rfl) ⟨fun ρz wz hE hA ⟨e0, _⟩ _ => core_val rfl rfl (o_move (e0.trans h0)),
 fun ρz wz hE hA _ ⟨u0, _⟩ => core_val rfl rfl (o_len (u0.trans hs_H_d_) len_26),
 fun ρz wz hE hA _ ⟨u1, _⟩ => core_val rfl rfl (o_gtr u1 rfl rfl), trivial⟩ ?_
  intro ρ2 w2 hN hf hr
  have h7 : ρ2 7 = .bool (decide (40 < (d_.length : Int))) := hf 2 rfl
  have h0 := (hr 0 rfl).trans h0
  have H_d_ := H_d_.exn hN
  have hW := hW.trans hN
  have hsz := hW.size
  refine WP.cond rfl h7 (fun hb => ?_) (fun hb => ?_)
  · have hF := (if_pos hb).symm.trans hF
    refine WP.seq ?_
    refine WP.rb mixed [[]] [[]] [(2, .int .i64 7)] (by kernel_rfl) ⟨fun ρz wz hE hA _ _ => core_val rfl rfl (o_assign rfl), trivial⟩ ?_
    intro ρ3 w3 hN hf hr
    have h2 : ρ3 2 = .int .i64 7 := hf 0 rfl
    have hW := hW.trans hN
    have hsz := hW.size
    refine WP.ret ?_
    show retQ Tryd.prog 81 Tryd.f27 (fun v w1 => v = .int .i64 r ∧ Ext noG w0 w1) .ret ρ3 w3
    obtain rfl := Option.some.inj hF
    exact res1 rfl (by decide) h2 ⟨rfl, hW⟩
  have hF := (if_neg (Bool.eq_false_iff.1 hb)).symm.trans hF
  refine WP.skip ?_
  refine WP.seq ?_
  refine WP.seq ?_
  refine WP.rb mixed [[], [0], []] [[0], [], []] [(8, v_d_), (9, .int .i64 (d_.length : Int)), (10, .int .i64 0)] (by kernel_rfl) ⟨fun ρz wz hE hA ⟨e0, _⟩ _ => core_val rfl rfl (o_move (e0.trans h0)),
 fun ρz wz hE hA _ ⟨u0, _⟩ => core_val rfl rfl (o_len (u0.trans hs_H_d_) len_26),
 fun ρz wz hE hA _ _ => core_val rfl rfl (o_move rfl), trivial⟩ ?_
  intro ρ4 w4 hN hf hr
  have h8 : ρ4 8 = v_d_ := hf 0 rfl
  have h9 : ρ4 9 = .int .i64 (d_.length : Int) := hf 1 rfl
  have h10 : ρ4 10 = .int .i64 0 := hf 2 rfl
  have h0 := (hr 0 rfl).trans h0
  have H_d_ := H_d_.exn hN
  have hW := hW.trans hN
  have hsz := hW.size
  refine WP.block ?_
  refine WP.loop (fun k_ ρ w => ∃ x : Int, ρ 0 = v_d_ ∧ ρ 8 = v_d_ ∧ ρ 9 = .int .i64 (d_.length : Int) ∧ ρ 10 = .int .i64 x ∧ RepSl Rate.R (gfr noG w0) w v_d_ d_ ∧ Ext noG w0 w ∧ w0.heap.size ≤ w.heap.size ∧ loopC k_ (money_CheckRates_l d_) x = some r) FU ⟨0, h0, h8, h9, h10, H_d_, hW, hsz, hF⟩ (fun _ _ h => by obtain ⟨_, _, _, _, _, _, _, _, h⟩ := h; cases h) ?_
  rintro k_ ρ5 w5 ⟨x, h0, h8, h9, h10, H_d_, hW, hsz, hF⟩
  have hF : money_CheckRates_l d_ (loopC k_ (money_CheckRates_l d_)) x = some r := hF
  generalize hrec_ : loopC k_ (money_CheckRates_l d_) = rec_ at hF
  rw [money_CheckRates_l] at hF
  refine WP.seq ?_
  refine WP.rb mixed [[]] [[10, 9]] [(11, .bool (decide (x < (d_.length : Int))))] (by kernel_rfl) ⟨fun ρz wz hE hA ⟨e10, e9, _⟩ _ => core_val rfl rfl (o_lss (e10.trans h10) (e9.trans h9) rfl), trivial⟩ ?_
  intro ρ6 w6 hN hf hr
  have h11 : ρ6 11 = .bool (decide (x < (d_.length : Int))) := hf 0 rfl
  obtain ⟨h0, h8, h9, h10⟩ := k4 hr h0 h8 h9 h10 rfl
  have H_d_ := H_d_.exn hN
  have hW := hW.trans hN
  have hsz := hW.size
  refine WP.seq ?_
  refine WP.cond rfl h11 (fun hb => ?_) (fun hb => ?_)
  · have hF := (if_pos hb).symm.trans hF
    refine WP.skip ?_
    refine WP.seq ?_
    refine WP.block ?_
    refine WP.seq ?_
    obtain ⟨y, hy, hF⟩ := obind hF
    obtain ⟨ay, cy, hvy, hiy, hAy⟩ := RepSl.getF H_d_ hy
    refine WP.region mixed [[], [], [1], [], [0], [2, 3]] [[], [], [1], [], [0], [2, 3]] [[10], [8, 10], [], [], [], []] [5] [(3, 5)] [val 12 (.int .i64 x), val 13 (.pointer (some (ay.add (Int.toNat x * 4)))), val 14 (Rate.val y), (4, fun u wz => ∃ b, u = .pointer (some ⟨b, 0, none⟩) ∧ w6.heap.size ≤ b ∧ Mb wz b 57 (Rate.cells (⟨0, 0, (⟨0, 0⟩ : Fraction)⟩ : Rate))), val 3 (.int .i64 x), (4, fun u wz => ∃ b, u = .pointer (some ⟨b, 0, none⟩) ∧ w6.heap.size ≤ b ∧ Mb wz b 57 (Rate.cells y))] (fun b => w6.heap.size ≤ b) (by kernel_rfl) ⟨sV, sV, sV, fun _ _ _ hE ⟨b, hb, hs, hM⟩ => ⟨b, hb, hs, hM.exn hE⟩, sV, fun _ _ _ hE ⟨b, hb, hs, hM⟩ => ⟨b, hb, hs, hM.exn hE⟩, trivial⟩ ⟨fun ρz wz hE hA ⟨e10, _⟩ _ => core_val rfl rfl (o_move (e10.trans h10)),
 fun ρz wz hE hA ⟨e8, e10, _⟩ _ => core_val rfl rfl (o_indexAddr ((e8.trans h8).trans hvy) (e10.trans h10) (ia_26 hiy)),
 fun ρz wz hE hA _ ⟨u1, _⟩ => core_val rfl rfl (o_load u1 (run_loadN (cs := (Rate.cells y)) (lr_57 _ _) rfl ((hAy.exn hE.fresh).ca))),
 fun ρz wz hE hA _ _ => core_new rfl rfl hE (o_alloc (al_57 _)),
 fun ρz wz hE hA _ ⟨u0, _⟩ => core_val rfl rfl (o_assign u0),
 fun ρz wz hE hA _ ⟨u2, u3, _⟩ => core_storeNew rfl rfl rfl rfl u2 u3 (fun a w => st_57 _ a w) rfl (one_57 _), trivial⟩ ?_
    intro ρ7 w7 hE hN hf hr
    have hN := hE.fresh
    obtain ⟨b4_, h4, hge_b4_, Hb_b4_⟩ := hf 5 rfl
    have h3 : ρ7 3 = .int .i64 x := hf 4 rfl
    obtain ⟨h0, h8, h9, h10⟩ := k4 hr h0 h8 h9 h10 rfl
    have H_d_ := H_d_.exn hN
    have hW := hW.trans hN
    have hB_b4_ : w0.heap.size ≤ b4_ := Nat.le_trans hsz hge_b4_
    have hsz := hW.size
    refine WP.seq ?_
    refine WP.seq ?_
    obtain ⟨z, hz, hF⟩ := obind hF
    obtain ⟨c, hc, hF⟩ := obind hF
    obtain ⟨z2, hz2, hc⟩ := orB hc
    have hc := orE hc
    obtain ⟨c2, hc2, hF⟩ := obind hF
    obtain ⟨z3, hz3, hc2⟩ := orB hc2
    have hc2 := orE hc2
    obtain ⟨c3, hc3, hF⟩ := obind hF
    obtain ⟨z4, hz4, hc3⟩ := orB hc3
    have hc3 := orE hc3
    obtain ⟨c4, hc4, hF⟩ := obind hF
    obtain ⟨z5, hz5, hc4⟩ := orB hc4
    have hc4 := orE hc4
    refine WP.rb mixed [[], [0], [1], [2], [3], [4], [4, 5], [4, 6], [4, 7], [4, 8], [9], [10], [10, 11], [10, 12], [10, 13], [10, 14], [15], [16], [16, 17], [16, 18], [16, 19], [16, 20], [16, 21], [22], [23], [23, 24], [23, 25], [23, 26], [23, 27], [23, 28]] [[4], [], [], [], [], [4], [], [], [], [], [], [4], [], [], [], [], [], [4], [], [], [], [], [], [], [4], [], [], [], [], []] [(15, .pointer (some ((⟨b4_, 0, none⟩ : Addr).add 0))), (16, .int .i64 y.Currency), (17, .bool z), (18, .bool (!z)), (19, .bool (!z)), (20, gv (!(!z)) (.pointer (some ((⟨b4_, 0, none⟩ : Addr).add 1)))), (21, gv (!(!z)) (.int .i64 y.Month)), (22, gv (!(!z)) (.bool z2)), (23, gv (!(!z)) (.bool (!z2))), (24, .bool c), (25, .bool c), (26, gv (!c) (.pointer (some ((⟨b4_, 0, none⟩ : Addr).add 2)))), (27, gv (!c) (Fraction.val y.Value)), (28, gv (!c) (.bool z3)), (29, gv (!c) (.bool (!z3))), (30, .bool c2), (31, .bool c2), (32, gv (!c2) (.pointer (some ((⟨b4_, 0, none⟩ : Addr).add 2)))), (33, gv (!c2) (.pointer (some (((⟨b4_, 0, none⟩ : Addr).add 2).add 0)))), (34, gv (!c2) (.int .i64 y.Value.Num)), (35, gv (!c2) (.bool z4)), (36, gv (!c2) (.bool (!z4))), (37, .bool c3), (38, .bool c3), (39, gv (!c3) (.pointer (some ((⟨b4_, 0, none⟩ : Addr).add 2)))), (40, gv (!c3) (.pointer (some (((⟨b4_, 0, none⟩ : Addr).add 2).add 1)))), (41, gv (!c3) (.int .i64 y.Value.Den)), (42, gv (!c3) (.bool z5)), (43, gv (!c3) (.bool (!z5))), (44, .bool c4)] (by kernel_rfl) ⟨fun ρz wz hE hA ⟨e4, _⟩ _ => core_val rfl rfl (o_fieldAddr (e4.trans h4) (fa_57_0 _ _)),
 fun ρz wz hE hA _ ⟨u0, _⟩ => core_val rfl rfl (o_load u0 (run_load1 (lr_3 _ _) (CA.sub ((Hb_b4_.exn (hA rfl)).ca) 0 1))),
 fun ρz wz hE hA _ ⟨u1, _⟩ => core_call rfl (call_args1 u1) cf_43 (money_currency_ok  _  hz),
 fun ρz wz hE hA _ ⟨u2, _⟩ => core_val rfl rfl (o_not u2 rfl),
 fun ρz wz hE hA _ ⟨u3, _⟩ => core_val rfl rfl (o_move u3),
 fun ρz wz hE hA ⟨e4, _⟩ ⟨u4, _⟩ => gIf rfl rfl (yF rfl u4) fun gc F hF => core_val rfl hF (o_fieldAddr (e4.trans h4) (fa_57_1 _ _)),
 fun ρz wz hE hA _ ⟨u4, u5, _⟩ => gIf rfl rfl (yF rfl u4) fun gc F hF => core_val rfl hF (o_load (gt gc u5) (run_load1 (lr_3 _ _) (CA.sub ((Hb_b4_.exn (hA rfl)).ca) 1 1))),
 fun ρz wz hE hA _ ⟨u4, u6, _⟩ => gIf rfl rfl (yF rfl u4) fun gc F hF => core_call hF (call_args1 (gt gc u6)) cf_44 (money_month_ok  _  (hz2 gc)),
 fun ρz wz hE hA _ ⟨u4, u7, _⟩ => gIf rfl rfl (yF rfl u4) fun gc F hF => core_val rfl hF (o_not (gt gc u7) rfl),
 fun ρz wz hE hA _ ⟨u4, u8, _⟩ => core_valE rfl rfl (congrArg Value.bool hc) (o_pick_or u4 rfl u8),
 fun ρz wz hE hA _ ⟨u9, _⟩ => core_val rfl rfl (o_move u9),
 fun ρz wz hE hA ⟨e4, _⟩ ⟨u10, _⟩ => gIf rfl rfl (yF rfl u10) fun gc F hF => core_val rfl hF (o_fieldAddr (e4.trans h4) (fa_57_2 _ _)),
 fun ρz wz hE hA _ ⟨u10, u11, _⟩ => gIf rfl rfl (yF rfl u10) fun gc F hF => core_val rfl hF (o_load (gt gc u11) (run_loadN (cs := (Fraction.cells y.Value)) (lr_54 _ _) rfl (CA.sub ((Hb_b4_.exn (hA rfl)).ca) 2 2))),
 fun ρz wz hE hA _ ⟨u10, u12, _⟩ => gIf rfl rfl (yF rfl u10) fun gc F hF => core_call hF (call_args1 (gt gc u12)) cf_45 (rational_Valid_ok  _  (hz3 gc)),
 fun ρz wz hE hA _ ⟨u10, u13, _⟩ => gIf rfl rfl (yF rfl u10) fun gc F hF => core_val rfl hF (o_not (gt gc u13) rfl),
 fun ρz wz hE hA _ ⟨u10, u14, _⟩ => core_valE rfl rfl (congrArg Value.bool hc2) (o_pick_or u10 rfl u14),
 fun ρz wz hE hA _ ⟨u15, _⟩ => core_val rfl rfl (o_move u15),
 fun ρz wz hE hA ⟨e4, _⟩ ⟨u16, _⟩ => gIf rfl rfl (yF rfl u16) fun gc F hF => core_val rfl hF (o_fieldAddr (e4.trans h4) (fa_57_2 _ _)),
 fun ρz wz hE hA _ ⟨u16, u17, _⟩ => gIf rfl rfl (yF rfl u16) fun gc F hF => core_val rfl hF (o_fieldAddr (gt gc u17) (fa_54_0 _ _)),
 fun ρz wz hE hA _ ⟨u16, u18, _⟩ => gIf rfl rfl (yF rfl u16) fun gc F hF => core_val rfl hF (o_load (gt gc u18) (run_load1 (lr_3 _ _) (CA.sub (CA.sub ((Hb_b4_.exn (hA rfl)).ca) 2 2) 0 1))),
 fun ρz wz hE hA _ ⟨u16, u19, _⟩ => gIf rfl rfl (yF rfl u16) fun gc F hF => core_call hF (call_args1 (gt gc u19)) cf_46 (money_small_ok  _  (hz4 gc)),
 fun ρz wz hE hA _ ⟨u16, u20, _⟩ => gIf rfl rfl (yF rfl u16) fun gc F hF => core_val rfl hF (o_not (gt gc u20) rfl),
 fun ρz wz hE hA _ ⟨u16, u21, _⟩ => core_valE rfl rfl (congrArg Value.bool hc3) (o_pick_or u16 rfl u21),
 fun ρz wz hE hA _ ⟨u22, _⟩ => core_val rfl rfl (o_move u22),
 fun ρz wz hE hA ⟨e4, _⟩ ⟨u23, _⟩ => gIf rfl rfl (yF rfl u23) fun gc F hF => core_val rfl hF (o_fieldAddr (e4.trans h4) (fa_57_2 _ _)),
 fun ρz wz hE hA _ ⟨u23, u24, _⟩ => gIf rfl rfl (yF rfl u23) fun gc F hF => core_val rfl hF (o_fieldAddr (gt gc u24) (fa_54_1 _ _)),
 fun ρz wz hE hA _ ⟨u23, u25, _⟩ => gIf rfl rfl (yF rfl u23) fun gc F hF => core_val rfl hF (o_load (gt gc u25) (run_load1 (lr_3 _ _) (CA.sub (CA.sub ((Hb_b4_.exn (hA rfl)).ca) 2 2) 1 1))),
 fun ρz wz hE hA _ ⟨u23, u26, _⟩ => gIf rfl rfl (yF rfl u23) fun gc F hF => core_call hF (call_args1 (gt gc u26)) cf_46 (money_small_ok  _  (hz5 gc)),
 fun ρz wz hE hA _ ⟨u23, u27, _⟩ => gIf rfl rfl (yF rfl u23) fun gc F hF => core_val rfl hF (o_not (gt gc u27) rfl),
 fun ρz wz hE hA _ ⟨u23, u28, _⟩ => core_valE rfl rfl (congrArg Value.bool hc4) (o_pick_or u23 rfl u28), trivial⟩ ?_
    intro ρ8 w8 hN hf hr
    have h44 : ρ8 44 = .bool c4 := hf 29 rfl
    obtain ⟨h0, h8, h9, h10, h4, h3⟩ := k6 hr h0 h8 h9 h10 h4 h3 rfl
    have Hb_b4_n := Hb_b4_.exn hN
    have H_d_ := H_d_.exn hN
    have hW := hW.trans hN
    have Hb_b4_ := Hb_b4_n
    have hsz := hW.size
    refine WP.cond rfl h44 (fun hb => ?_) (fun hb => ?_)
    · have hF := (if_pos hb).symm.trans hF
      refine WP.seq ?_
      refine WP.rb mixed [[]] [[]] [(2, .int .i64 1)] (by kernel_rfl) ⟨fun ρz wz hE hA _ _ => core_val rfl rfl (o_assign rfl), trivial⟩ ?_
      intro ρ9 w9 hN hf hr
      have h2 : ρ9 2 = .int .i64 1 := hf 0 rfl
      have hW := hW.trans hN
      have hsz := hW.size
      refine WP.ret ?_
      show retQ Tryd.prog 81 Tryd.f27 (fun v w1 => v = .int .i64 r ∧ Ext noG w0 w1) .ret ρ9 w9
      obtain rfl := Option.some.inj hF
      exact res1 rfl (by decide) h2 ⟨rfl, hW⟩
    have hF := (if_neg (Bool.eq_false_iff.1 hb)).symm.trans hF
    refine WP.skip ?_
    refine WP.seq ?_
    obtain ⟨c7, hc7, hF⟩ := obind hF
    obtain ⟨y2, hy2, hc7⟩ := andB hc7
    obtain ⟨ay2, cy2, hvy2, hiy2, hAy2⟩ := RepSl.getFI H_d_ hy2
    obtain ⟨c6, hc6, hc7⟩ := andB hc7
    obtain ⟨y3, hy3, hc6⟩ := orBI hc6
    obtain ⟨ay3, cy3, hvy3, hiy3, hAy3⟩ := RepSl.getFI H_d_ hy3
    obtain ⟨c5, hc5, hc6⟩ := orBI hc6
    obtain ⟨y4, hy4, hc5⟩ := andBI hc5
    obtain ⟨ay4, cy4, hvy4, hiy4, hAy4⟩ := RepSl.getFI H_d_ hy4
    have hc5 := andEI hc5
    have hc6 := orEI hc6
    have hc7 := andE hc7
    refine WP.rb mixed [[], [0], [1], [2], [2], [2, 4], [2, 3, 5], [2, 6], [2, 7], [2], [2, 9], [2, 8, 10], [2, 11], [12], [12], [12, 14], [12, 13, 15], [12, 16], [12, 17], [12], [12, 19], [12, 18, 20], [12, 21], [22], [22], [22, 24], [22, 23, 25], [22, 26], [22, 27], [22], [22, 29], [22, 28, 30], [12, 22, 31], [2, 12, 32], [2, 33]] [[3], [], [], [0], [3], [], [], [], [], [4], [], [], [], [0], [3], [], [], [], [], [4], [], [], [], [0], [3], [], [], [], [], [4], [], [], [], [], []] [(45, .int .i64 x), (46, .bool (decide (0 < x))), (47, .bool (decide (0 < x))), (48, gv (decide (0 < x)) v_d_), (49, gv (decide (0 < x)) (.int .i64 x)), (50, gv (decide (0 < x)) (.int .i64 (i64 (x - 1)))), (51, gv (decide (0 < x)) (.pointer (some (ay2.add (Int.toNat (i64 (x - 1)) * 4))))), (52, gv (decide (0 < x)) (.pointer (some ((ay2.add (Int.toNat (i64 (x - 1)) * 4)).add 0)))), (53, gv (decide (0 < x)) (.int .i64 y2.Currency)), (54, gv (decide (0 < x)) (.pointer (some ((⟨b4_, 0, none⟩ : Addr).add 0)))), (55, gv (decide (0 < x)) (.int .i64 y.Currency)), (56, gv (decide (0 < x)) (.bool (decide (y.Currency < y2.Currency)))), (57, gv (decide (0 < x)) (.bool (decide (y.Currency < y2.Currency)))), (58, gv (decide (0 < x) && !(decide (y.Currency < y2.Currency))) v_d_), (59, gv (decide (0 < x) && !(decide (y.Currency < y2.Currency))) (.int .i64 x)), (60, gv (decide (0 < x) && !(decide (y.Currency < y2.Currency))) (.int .i64 (i64 (x - 1)))), (61, gv (decide (0 < x) && !(decide (y.Currency < y2.Currency))) (.pointer (some (ay3.add (Int.toNat (i64 (x - 1)) * 4))))), (62, gv (decide (0 < x) && !(decide (y.Currency < y2.Currency))) (.pointer (some ((ay3.add (Int.toNat (i64 (x - 1)) * 4)).add 0)))), (63, gv (decide (0 < x) && !(decide (y.Currency < y2.Currency))) (.int .i64 y3.Currency)), (64, gv (decide (0 < x) && !(decide (y.Currency < y2.Currency))) (.pointer (some ((⟨b4_, 0, none⟩ : Addr).add 0)))), (65, gv (decide (0 < x) && !(decide (y.Currency < y2.Currency))) (.int .i64 y.Currency)), (66, gv (decide (0 < x) && !(decide (y.Currency < y2.Currency))) (.bool (y3.Currency == y.Currency))), (67, gv (decide (0 < x) && !(decide (y.Currency < y2.Currency))) (.bool (y3.Currency == y.Currency))), (68, gv ((decide (0 < x) && !(decide (y.Currency < y2.Currency))) && (y3.Currency == y.Currency)) v_d_), (69, gv ((decide (0 < x) && !(decide (y.Currency < y2.Currency))) && (y3.Currency == y.Currency)) (.int .i64 x)), (70, gv ((decide (0 < x) && !(decide (y.Currency < y2.Currency))) && (y3.Currency == y.Currency)) (.int .i64 (i64 (x - 1)))), (71, gv ((decide (0 < x) && !(decide (y.Currency < y2.Currency))) && (y3.Currency == y.Currency)) (.pointer (some (ay4.add (Int.toNat (i64 (x - 1)) * 4))))), (72, gv ((decide (0 < x) && !(decide (y.Currency < y2.Currency))) && (y3.Currency == y.Currency)) (.pointer (some ((ay4.add (Int.toNat (i64 (x - 1)) * 4)).add 1)))), (73, gv ((decide (0 < x) && !(decide (y.Currency < y2.Currency))) && (y3.Currency == y.Currency)) (.int .i64 y4.Month)), (74, gv ((decide (0 < x) && !(decide (y.Currency < y2.Currency))) && (y3.Currency == y.Currency)) (.pointer (some ((⟨b4_, 0, none⟩ : Addr).add 1)))), (75, gv ((decide (0 < x) && !(decide (y.Currency < y2.Currency))) && (y3.Currency == y.Currency)) (.int .i64 y.Month)), (76, gv ((decide (0 < x) && !(decide (y.Currency < y2.Currency))) && (y3.Currency == y.Currency)) (.bool (decide (y.Month ≤ y4.Month)))), (77, gv (decide (0 < x) && !(decide (y.Currency < y2.Currency))) (.bool c5)), (78, gv (decide (0 < x)) (.bool c6)), (79, .bool c7)] (by kernel_rfl) ⟨fun ρz wz hE hA ⟨e3, _⟩ _ => core_val rfl rfl (o_move (e3.trans h3)),
 fun ρz wz hE hA _ ⟨u0, _⟩ => core_val rfl rfl (o_gtr u0 rfl rfl),
 fun ρz wz hE hA _ ⟨u1, _⟩ => core_val rfl rfl (o_move u1),
 fun ρz wz hE hA ⟨e0, _⟩ ⟨u2, _⟩ => gIf rfl rfl (yT rfl u2) fun gc F hF => core_val rfl hF (o_move (e0.trans h0)),
 fun ρz wz hE hA ⟨e3, _⟩ ⟨u2, _⟩ => gIf rfl rfl (yT rfl u2) fun gc F hF => core_val rfl hF (o_move (e3.trans h3)),
 fun ρz wz hE hA _ ⟨u2, u4, _⟩ => gIf rfl rfl (yT rfl u2) fun gc F hF => core_val rfl hF (o_sub (gt gc u4) rfl rfl),
 fun ρz wz hE hA _ ⟨u2, u3, u5, _⟩ => gIf rfl rfl (yT rfl u2) fun gc F hF => core_val rfl hF (o_indexAddr ((gt gc u3).trans (hvy2 gc)) (gt gc u5) (ia_26 (hiy2 gc))),
 fun ρz wz hE hA _ ⟨u2, u6, _⟩ => gIf rfl rfl (yT rfl u2) fun gc F hF => core_val rfl hF (o_fieldAddr (gt gc u6) (fa_57_0 _ _)),
 fun ρz wz hE hA _ ⟨u2, u7, _⟩ => gIf rfl rfl (yT rfl u2) fun gc F hF => core_val rfl hF (o_load (gt gc u7) (run_load1 (lr_3 _ _) (CA.sub (((hAy2 gc).exn (hA rfl)).ca) 0 1))),
 fun ρz wz hE hA ⟨e4, _⟩ ⟨u2, _⟩ => gIf rfl rfl (yT rfl u2) fun gc F hF => core_val rfl hF (o_fieldAddr (e4.trans h4) (fa_57_0 _ _)),
 fun ρz wz hE hA _ ⟨u2, u9, _⟩ => gIf rfl rfl (yT rfl u2) fun gc F hF => core_val rfl hF (o_load (gt gc u9) (run_load1 (lr_3 _ _) (CA.sub ((Hb_b4_.exn (hA rfl)).ca) 0 1))),
 fun ρz wz hE hA _ ⟨u2, u8, u10, _⟩ => gIf rfl rfl (yT rfl u2) fun gc F hF => core_val rfl hF (o_gtr (gt gc u8) (gt gc u10) rfl),
 fun ρz wz hE hA _ ⟨u2, u11, _⟩ => gIf rfl rfl (yT rfl u2) fun gc F hF => core_val rfl hF (o_move (gt gc u11)),
 fun ρz wz hE hA ⟨e0, _⟩ ⟨u12, _⟩ => gIf rfl rfl (yFG rfl u12) fun gc F hF => core_val rfl hF (o_move (e0.trans h0)),
 fun ρz wz hE hA ⟨e3, _⟩ ⟨u12, _⟩ => gIf rfl rfl (yFG rfl u12) fun gc F hF => core_val rfl hF (o_move (e3.trans h3)),
 fun ρz wz hE hA _ ⟨u12, u14, _⟩ => gIf rfl rfl (yFG rfl u12) fun gc F hF => core_val rfl hF (o_sub (gt gc u14) rfl rfl),
 fun ρz wz hE hA _ ⟨u12, u13, u15, _⟩ => gIf rfl rfl (yFG rfl u12) fun gc F hF => core_val rfl hF (o_indexAddr ((gt gc u13).trans (hvy3 gc)) (gt gc u15) (ia_26 (hiy3 gc))),
 fun ρz wz hE hA _ ⟨u12, u16, _⟩ => gIf rfl rfl (yFG rfl u12) fun gc F hF => core_val rfl hF (o_fieldAddr (gt gc u16) (fa_57_0 _ _)),
 fun ρz wz hE hA _ ⟨u12, u17, _⟩ => gIf rfl rfl (yFG rfl u12) fun gc F hF => core_val rfl hF (o_load (gt gc u17) (run_load1 (lr_3 _ _) (CA.sub (((hAy3 gc).exn (hA rfl)).ca) 0 1))),
 fun ρz wz hE hA ⟨e4, _⟩ ⟨u12, _⟩ => gIf rfl rfl (yFG rfl u12) fun gc F hF => core_val rfl hF (o_fieldAddr (e4.trans h4) (fa_57_0 _ _)),
 fun ρz wz hE hA _ ⟨u12, u19, _⟩ => gIf rfl rfl (yFG rfl u12) fun gc F hF => core_val rfl hF (o_load (gt gc u19) (run_load1 (lr_3 _ _) (CA.sub ((Hb_b4_.exn (hA rfl)).ca) 0 1))),
 fun ρz wz hE hA _ ⟨u12, u18, u20, _⟩ => gIf rfl rfl (yFG rfl u12) fun gc F hF => core_val rfl hF (o_eql (gt gc u18) (gt gc u20) rfl),
 fun ρz wz hE hA _ ⟨u12, u21, _⟩ => gIf rfl rfl (yFG rfl u12) fun gc F hF => core_val rfl hF (o_move (gt gc u21)),
 fun ρz wz hE hA ⟨e0, _⟩ ⟨u22, _⟩ => gIf rfl rfl (yTG rfl u22) fun gc F hF => core_val rfl hF (o_move (e0.trans h0)),
 fun ρz wz hE hA ⟨e3, _⟩ ⟨u22, _⟩ => gIf rfl rfl (yTG rfl u22) fun gc F hF => core_val rfl hF (o_move (e3.trans h3)),
 fun ρz wz hE hA _ ⟨u22, u24, _⟩ => gIf rfl rfl (yTG rfl u22) fun gc F hF => core_val rfl hF (o_sub (gt gc u24) rfl rfl),
 fun ρz wz hE hA _ ⟨u22, u23, u25, _⟩ => gIf rfl rfl (yTG rfl u22) fun gc F hF => core_val rfl hF (o_indexAddr ((gt gc u23).trans (hvy4 gc)) (gt gc u25) (ia_26 (hiy4 gc))),
 fun ρz wz hE hA _ ⟨u22, u26, _⟩ => gIf rfl rfl (yTG rfl u22) fun gc F hF => core_val rfl hF (o_fieldAddr (gt gc u26) (fa_57_1 _ _)),
 fun ρz wz hE hA _ ⟨u22, u27, _⟩ => gIf rfl rfl (yTG rfl u22) fun gc F hF => core_val rfl hF (o_load (gt gc u27) (run_load1 (lr_3 _ _) (CA.sub (((hAy4 gc).exn (hA rfl)).ca) 1 1))),
 fun ρz wz hE hA ⟨e4, _⟩ ⟨u22, _⟩ => gIf rfl rfl (yTG rfl u22) fun gc F hF => core_val rfl hF (o_fieldAddr (e4.trans h4) (fa_57_1 _ _)),
 fun ρz wz hE hA _ ⟨u22, u29, _⟩ => gIf rfl rfl (yTG rfl u22) fun gc F hF => core_val rfl hF (o_load (gt gc u29) (run_load1 (lr_3 _ _) (CA.sub ((Hb_b4_.exn (hA rfl)).ca) 1 1))),
 fun ρz wz hE hA _ ⟨u22, u28, u30, _⟩ => gIf rfl rfl (yTG rfl u22) fun gc F hF => core_val rfl hF (o_geq (gt gc u28) (gt gc u30) rfl),
 fun ρz wz hE hA _ ⟨u12, u22, u31, _⟩ => gIf rfl rfl (yFG rfl u12) fun gc F hF => core_valE rfl hF (congrArg Value.bool (hc5 gc)) (o_pick_and (gt gc u22) (gr gc u31) rfl),
 fun ρz wz hE hA _ ⟨u2, u12, u32, _⟩ => gIf rfl rfl (yT rfl u2) fun gc F hF => core_valE rfl hF (congrArg Value.bool (hc6 gc)) (o_pick_or (gt gc u12) rfl (gr gc u32)),
 fun ρz wz hE hA _ ⟨u2, u33, _⟩ => core_valE rfl rfl (congrArg Value.bool hc7) (o_pick_and u2 u33 rfl), trivial⟩ ?_
    intro ρ10 w10 hN hf hr
    have h79 : ρ10 79 = .bool c7 := hf 34 rfl
    obtain ⟨h0, h8, h9, h10⟩ := k4 hr h0 h8 h9 h10 rfl
    have H_d_ := H_d_.exn hN
    have hW := hW.trans hN
    have hsz := hW.size
    refine WP.cond rfl h79 (fun hb => ?_) (fun hb => ?_)
    · have hF := (if_pos hb).symm.trans hF
      refine WP.seq ?_
      refine WP.rb mixed [[]] [[]] [(2, .int .i64 1)] (by kernel_rfl) ⟨fun ρz wz hE hA _ _ => core_val rfl rfl (o_assign rfl), trivial⟩ ?_
      intro ρ11 w11 hN hf hr
      have h2 : ρ11 2 = .int .i64 1 := hf 0 rfl
      have hW := hW.trans hN
      have hsz := hW.size
      refine WP.ret ?_
      show retQ Tryd.prog 81 Tryd.f27 (fun v w1 => v = .int .i64 r ∧ Ext noG w0 w1) .ret ρ11 w11
      obtain rfl := Option.some.inj hF
      exact res1 rfl (by decide) h2 ⟨rfl, hW⟩
    have hF := (if_neg (Bool.eq_false_iff.1 hb)).symm.trans hF
    refine WP.skip ?_
    refine WP.rb mixed [[], [0]] [[10], []] [(80, .int .i64 (i64 (x + 1))), (10, .int .i64 (i64 (x + 1)))] (by kernel_rfl) ⟨fun ρz wz hE hA ⟨e10, _⟩ _ => core_val rfl rfl (o_add (e10.trans h10) rfl rfl),
 fun ρz wz hE hA _ ⟨u0, _⟩ => core_val rfl rfl (o_move u0), trivial⟩ ?_
    intro ρ12 w12 hN hf hr
    have h10 : ρ12 10 = .int .i64 (i64 (x + 1)) := hf 1 rfl
    obtain ⟨h0, h8, h9⟩ := k3 hr h0 h8 h9 rfl
    have H_d_ := H_d_.exn hN
    have hW := hW.trans hN
    have hsz := hW.size
    exact ⟨i64 (x + 1), h0, h8, h9, h10, H_d_, hW, hsz, (by first | exact hF | (rw [hrec_]; exact hF))⟩
  have hF := (if_neg (Bool.eq_false_iff.1 hb)).symm.trans hF
  refine WP.exit ?_
  refine thenQ_exit ?_
  refine thenQ_exit ?_
  refine blockQ_hit ?_
  refine WP.seq ?_
  refine WP.rb mixed [[]] [[]] [(2, .int .i64 0)] (by kernel_rfl) ⟨fun ρz wz hE hA _ _ => core_val rfl rfl (o_assign rfl), trivial⟩ ?_
  intro ρ13 w13 hN hf hr
  have h2 : ρ13 2 = .int .i64 0 := hf 0 rfl
  have hW := hW.trans hN
  have hsz := hW.size
  refine WP.ret ?_
  show retQ Tryd.prog 81 Tryd.f27 (fun v w1 => v = .int .i64 r ∧ Ext noG w0 w1) .ret ρ13 w13
  obtain rfl := Option.some.inj hF
  exact res1 rfl (by decide) h2 ⟨rfl, hW⟩

set_option maxHeartbeats 4000000 in
theorem pensionref1_ValidMonth_ok {w0 : World} (month_ : Int) {r : Bool} (hF : pensionref1_ValidMonth month_ = some r) :
    Calls Tryd.prog 19 #[.int .i64 month_] w0 fun e w1 => e = .returned (.bool r) ∧ Ext noG w0 w1 := by
  refine (Calls.start (P := Tryd.prog) (args := [.int .i64 month_]) (R := fun v w1 => v = .bool r ∧ Ext noG w0 w1) (n := 9) (w := w0) Tryd.func19 rfl rfl (Nat.le_of_ble_eq_true rfl) (fun ρ hargs => ?_)).mono (fun e w1 ⟨v, he, hv, hE⟩ => ⟨hv ▸ he, hE⟩)
  have h0 := hargs 0 _ rfl
  have hW := Ext.refl noG w0
  have hsz := Nat.le_refl w0.heap.size
  rw [pensionref1_ValidMonth] at hF
  refine WP.seq ?_
  refine WP.rb mixed [[]] [[]] [(2, .bool false)] (by kernel_rfl) ⟨fun ρz wz hE hA _ _ => core_val rfl rfl (o_assign rfl), trivial⟩ ?_
  intro ρ1 w1 hN hf hr
  have h0 := (hr 0 rfl).trans h0
  have hW := hW.trans hN
  have hsz := hW.size
  refine WP.seq ?_
  refine WP.rb mixed [[], [0], [1], [2], [2, 3], [2, 4], [5]] [[0], [], [], [0], [], [], []] [(3, .int .i64 month_), (4, .bool (decide (0 ≤ month_))), (5, .bool (decide (0 ≤ month_))), (6, gv (decide (0 ≤ month_)) (.int .i64 month_)), (7, gv (decide (0 ≤ month_)) (.bool (decide (month_ ≤ 2399)))), (8, .bool (decide (0 ≤ month_) && decide (month_ ≤ 2399))), (2, .bool (decide (0 ≤ month_) && decide (month_ ≤ 2399)))] (by kernel_rfl) ⟨fun ρz wz hE hA ⟨e0, _⟩ _ => core_val rfl rfl (o_move (e0.trans h0)),
 fun ρz wz hE hA _ ⟨u0, _⟩ => core_val rfl rfl (o_geq u0 rfl rfl),
 fun ρz wz hE hA _ ⟨u1, _⟩ => core_val rfl rfl (o_move u1),
 fun ρz wz hE hA ⟨e0, _⟩ ⟨u2, _⟩ => gIf rfl rfl (yT rfl u2) fun gc F hF => core_val rfl hF (o_move (e0.trans h0)),
 fun ρz wz hE hA _ ⟨u2, u3, _⟩ => gIf rfl rfl (yT rfl u2) fun gc F hF => core_val rfl hF (o_leq (gt gc u3) rfl rfl),
 fun ρz wz hE hA _ ⟨u2, u4, _⟩ => core_val rfl rfl (o_pick_and u2 u4 rfl),
 fun ρz wz hE hA _ ⟨u5, _⟩ => core_val rfl rfl (o_assign u5), trivial⟩ ?_
  intro ρ2 w2 hN hf hr
  have h2 : ρ2 2 = .bool (decide (0 ≤ month_) && decide (month_ ≤ 2399)) := hf 6 rfl
  have hW := hW.trans hN
  have hsz := hW.size
  refine WP.ret ?_
  show retQ Tryd.prog 9 Tryd.f19 (fun v w1 => v = .bool r ∧ Ext noG w0 w1) .ret ρ2 w2
  obtain rfl := Option.some.inj hF
  exact res1 rfl (by decide) h2 ⟨rfl, hW⟩

set_option maxHeartbeats 4000000 in
theorem pensionref1_gcd_ok {w0 : World} (a_ : Int) (b_ : Int) {r : Int} (hF : pensionref1_gcd a_ b_ = some r) :
    Calls Tryd.prog 54 #[.int .u64 a_, .int .u64 b_] w0 fun e w1 => e = .returned (.int .u64 r) ∧ Ext noG w0 w1 := by
  refine (Calls.start (P := Tryd.prog) (args := [.int .u64 a_, .int .u64 b_]) (R := fun v w1 => v = .int .u64 r ∧ Ext noG w0 w1) (n := 12) (w := w0) Tryd.func54 rfl rfl (Nat.le_of_ble_eq_true rfl) (fun ρ hargs => ?_)).mono (fun e w1 ⟨v, he, hv, hE⟩ => ⟨hv ▸ he, hE⟩)
  have h0 := hargs 0 _ rfl
  have h1 := hargs 1 _ rfl
  have hW := Ext.refl noG w0
  have hsz := Nat.le_refl w0.heap.size
  rw [pensionref1_gcd] at hF
  refine WP.seq ?_
  refine WP.rb mixed [[]] [[]] [(4, .int .u64 0)] (by kernel_rfl) ⟨fun ρz wz hE hA _ _ => core_val rfl rfl (o_assign rfl), trivial⟩ ?_
  intro ρ1 w1 hN hf hr
  obtain ⟨h0, h1⟩ := k2 hr h0 h1 rfl
  have hW := hW.trans hN
  have hsz := hW.size
  refine WP.seq ?_
  refine WP.block ?_
  refine WP.loop (fun k_ ρ w => ∃ a_2 : Int, ∃ b_2 : Int, ρ 0 = .int .u64 a_2 ∧ ρ 1 = .int .u64 b_2 ∧ Ext noG w0 w ∧ w0.heap.size ≤ w.heap.size ∧ loopC k_ pensionref1_gcd_l (a_2, b_2) = some r) FU ⟨a_, b_, h0, h1, hW, hsz, hF⟩ (fun _ _ h => by obtain ⟨_, _, _, _, _, _, h⟩ := h; cases h) ?_
  rintro k_ ρ2 w2 ⟨a_2, b_2, h0, h1, hW, hsz, hF⟩
  have hF : pensionref1_gcd_l (loopC k_ pensionref1_gcd_l) (a_2, b_2) = some r := hF
  generalize hrec_ : loopC k_ pensionref1_gcd_l = rec_ at hF
  rw [pensionref1_gcd_l] at hF
  refine WP.seq ?_
  refine WP.seq ?_
  refine WP.rb mixed [[], [0]] [[1], []] [(5, .int .u64 b_2), (6, .bool (b_2 != 0))] (by kernel_rfl) ⟨fun ρz wz hE hA ⟨e1, _⟩ _ => core_val rfl rfl (o_move (e1.trans h1)),
 fun ρz wz hE hA _ ⟨u0, _⟩ => core_val rfl rfl (o_neq u0 rfl rfl), trivial⟩ ?_
  intro ρ3 w3 hN hf hr
  have h6 : ρ3 6 = .bool (b_2 != 0) := hf 1 rfl
  obtain ⟨h0, h1⟩ := k2 hr h0 h1 rfl
  have hW := hW.trans hN
  have hsz := hW.size
  refine WP.cond rfl h6 (fun hb => ?_) (fun hb => ?_)
  · have hF := (if_pos hb).symm.trans hF
    refine WP.skip ?_
    refine WP.block ?_
    obtain ⟨q, hq, hF⟩ := obind hF
    refine WP.rv mixed [[], [], [], [1, 2], [0, 1], [0, 2, 3]] [[], [], [], [1, 2], [0], [3]] [[1], [0], [1], [], [], []] [(7, .int .u64 b_2), (8, .int .u64 a_2), (9, .int .u64 b_2), (10, .int .u64 q), (0, .int .u64 b_2), (1, .int .u64 q)] (by kernel_rfl) ⟨fun ρz wz hE hA ⟨e1, _⟩ _ => core_val rfl rfl (o_move (e1.trans h1)),
 fun ρz wz hE hA ⟨e0, _⟩ _ => core_val rfl rfl (o_move (e0.trans h0)),
 fun ρz wz hE hA ⟨e1, _⟩ _ => core_val rfl rfl (o_move (e1.trans h1)),
 fun ρz wz hE hA _ ⟨u1, u2, _⟩ => core_val rfl rfl (o_rem u1 u2 (remI_some hq).1 (remI_some hq).2),
 fun ρz wz hE hA _ ⟨u0, _⟩ => core_val rfl rfl (o_assign u0),
 fun ρz wz hE hA _ ⟨u3, _⟩ => core_val rfl rfl (o_assign u3), trivial⟩ ?_
    intro ρ4 w4 hN hf hr
    have h0 : ρ4 0 = .int .u64 b_2 := hf 4 rfl
    have h1 : ρ4 1 = .int .u64 q := hf 5 rfl
    have hW := hW.trans hN
    have hsz := hW.size
    exact ⟨b_2, q, h0, h1, hW, hsz, (by first | exact hF | (rw [hrec_]; exact hF))⟩
  have hF := (if_neg (Bool.eq_false_iff.1 hb)).symm.trans hF
  refine WP.exit ?_
  refine thenQ_exit ?_
  refine thenQ_exit ?_
  refine blockQ_hit ?_
  refine WP.seq ?_
  refine WP.rb mixed [[], [0]] [[0], []] [(11, .int .u64 a_2), (4, .int .u64 a_2)] (by kernel_rfl) ⟨fun ρz wz hE hA ⟨e0, _⟩ _ => core_val rfl rfl (o_move (e0.trans h0)),
 fun ρz wz hE hA _ ⟨u0, _⟩ => core_val rfl rfl (o_assign u0), trivial⟩ ?_
  intro ρ5 w5 hN hf hr
  have h4 : ρ5 4 = .int .u64 a_2 := hf 1 rfl
  have hW := hW.trans hN
  have hsz := hW.size
  refine WP.ret ?_
  show retQ Tryd.prog 12 Tryd.f54 (fun v w1 => v = .int .u64 r ∧ Ext noG w0 w1) .ret ρ5 w5
  obtain rfl := Option.some.inj hF
  exact res1 rfl (by decide) h4 ⟨rfl, hW⟩

set_option maxHeartbeats 4000000 in
theorem pensionref1_size_ok {w0 : World} (n_ : Int) {r : Int} (hF : pensionref1_size n_ = some r) :
    Calls Tryd.prog 55 #[.int .i64 n_] w0 fun e w1 => e = .returned (.int .u64 r) ∧ Ext noG w0 w1 := by
  refine (Calls.start (P := Tryd.prog) (args := [.int .i64 n_]) (R := fun v w1 => v = .int .u64 r ∧ Ext noG w0 w1) (n := 12) (w := w0) Tryd.func55 rfl rfl (Nat.le_of_ble_eq_true rfl) (fun ρ hargs => ?_)).mono (fun e w1 ⟨v, he, hv, hE⟩ => ⟨hv ▸ he, hE⟩)
  have h0 := hargs 0 _ rfl
  have hW := Ext.refl noG w0
  have hsz := Nat.le_refl w0.heap.size
  rw [pensionref1_size] at hF
  refine WP.seq ?_
  refine WP.rb mixed [[]] [[]] [(2, .int .u64 0)] (by kernel_rfl) ⟨fun ρz wz hE hA _ _ => core_val rfl rfl (o_assign rfl), trivial⟩ ?_
  intro ρ1 w1 hN hf hr
  have h0 := (hr 0 rfl).trans h0
  have hW := hW.trans hN
  have hsz := hW.size
  refine WP.seq ?_
  refine WP.seq ?_
  refine WP.rb mixed [[], [0]] [[0], []] [(3, .int .i64 n_), (4, .bool (decide (n_ < 0)))] (by kernel_rfl) ⟨fun ρz wz hE hA ⟨e0, _⟩ _ => core_val rfl rfl (o_move (e0.trans h0)),
 fun ρz wz hE hA _ ⟨u0, _⟩ => core_val rfl rfl (o_lss u0 rfl rfl), trivial⟩ ?_
  intro ρ2 w2 hN hf hr
  have h4 : ρ2 4 = .bool (decide (n_ < 0)) := hf 1 rfl
  have h0 := (hr 0 rfl).trans h0
  have hW := hW.trans hN
  have hsz := hW.size
  refine WP.cond rfl h4 (fun hb => ?_) (fun hb => ?_)
  · have hF := (if_pos hb).symm.trans hF
    refine WP.seq ?_
    refine WP.rb mixed [[], [0], [1], [2], [3], [4]] [[0], [], [], [], [], []] [(5, .int .i64 n_), (6, .int .i64 (i64 (n_ + 1))), (7, .int .i64 (i64 (-(i64 (n_ + 1))))), (8, .int .u64 (u64 (i64 (-(i64 (n_ + 1)))))), (9, .int .u64 (u64 (u64 (i64 (-(i64 (n_ + 1)))) + 1))), (2, .int .u64 (u64 (u64 (i64 (-(i64 (n_ + 1)))) + 1)))] (by kernel_rfl) ⟨fun ρz wz hE hA ⟨e0, _⟩ _ => core_val rfl rfl (o_move (e0.trans h0)),
 fun ρz wz hE hA _ ⟨u0, _⟩ => core_val rfl rfl (o_add u0 rfl rfl),
 fun ρz wz hE hA _ ⟨u1, _⟩ => core_val rfl rfl (o_neg u1 rfl),
 fun ρz wz hE hA _ ⟨u2, _⟩ => core_val rfl rfl (o_conv u2 (cv_3_62 _ _)),
 fun ρz wz hE hA _ ⟨u3, _⟩ => core_val rfl rfl (o_add u3 rfl rfl),
 fun ρz wz hE hA _ ⟨u4, _⟩ => core_val rfl rfl (o_assign u4), trivial⟩ ?_
    intro ρ3 w3 hN hf hr
    have h2 : ρ3 2 = .int .u64 (u64 (u64 (i64 (-(i64 (n_ + 1)))) + 1)) := hf 5 rfl
    have hW := hW.trans hN
    have hsz := hW.size
    refine WP.ret ?_
    show retQ Tryd.prog 12 Tryd.f55 (fun v w1 => v = .int .u64 r ∧ Ext noG w0 w1) .ret ρ3 w3
    obtain rfl := Option.some.inj hF
    exact res1 rfl (by decide) h2 ⟨rfl, hW⟩
  have hF := (if_neg (Bool.eq_false_iff.1 hb)).symm.trans hF
  refine WP.skip ?_
  refine WP.seq ?_
  refine WP.rb mixed [[], [0], [1]] [[0], [], []] [(10, .int .i64 n_), (11, .int .u64 (u64 n_)), (2, .int .u64 (u64 n_))] (by kernel_rfl) ⟨fun ρz wz hE hA ⟨e0, _⟩ _ => core_val rfl rfl (o_move (e0.trans h0)),
 fun ρz wz hE hA _ ⟨u0, _⟩ => core_val rfl rfl (o_conv u0 (cv_3_62 _ _)),
 fun ρz wz hE hA _ ⟨u1, _⟩ => core_val rfl rfl (o_assign u1), trivial⟩ ?_
  intro ρ4 w4 hN hf hr
  have h2 : ρ4 2 = .int .u64 (u64 n_) := hf 2 rfl
  have hW := hW.trans hN
  have hsz := hW.size
  refine WP.ret ?_
  show retQ Tryd.prog 12 Tryd.f55 (fun v w1 => v = .int .u64 r ∧ Ext noG w0 w1) .ret ρ4 w4
  obtain rfl := Option.some.inj hF
  exact res1 rfl (by decide) h2 ⟨rfl, hW⟩

set_option maxHeartbeats 4000000 in
theorem pensionref1_ValidFraction_ok {w0 : World} (f_ : Fraction) {r : Bool} (hF : pensionref1_ValidFraction f_ = some r) :
    Calls Tryd.prog 37 #[Fraction.val f_] w0 fun e w1 => e = .returned (.bool r) ∧ Ext noG w0 w1 := by
  refine (Calls.start (P := Tryd.prog) (args := [Fraction.val f_]) (R := fun v w1 => v = .bool r ∧ Ext noG w0 w1) (n := 31) (w := w0) Tryd.func37 rfl rfl (Nat.le_of_ble_eq_true rfl) (fun ρ hargs => ?_)).mono (fun e w1 ⟨v, he, hv, hE⟩ => ⟨hv ▸ he, hE⟩)
  have h0 := hargs 0 _ rfl
  have hW := Ext.refl noG w0
  have hsz := Nat.le_refl w0.heap.size
  rw [pensionref1_ValidFraction] at hF
  refine WP.seq ?_
  refine WP.rg mixed [[], []] [[], []] [[0], []] [(1, fun u wz => ∃ b, u = .pointer (some ⟨b, 0, none⟩) ∧ w0.heap.size ≤ b ∧ Mb wz b 54 (Fraction.cells f_)), val 2 (.bool false)] (by kernel_rfl) ⟨fun _ _ _ hE ⟨b, hb, hs, hM⟩ => ⟨b, hb, hs, hM.exn hE⟩, sV, trivial⟩ ⟨fun ρz wz hE hA ⟨e0, _⟩ _ => core_new rfl rfl hE (o_box (e0.trans h0) (bx_54 _ _)),
 fun ρz wz hE hA _ _ => core_val rfl rfl (o_assign rfl), trivial⟩ ?_
  intro ρ1 w1 hN hf hr
  obtain ⟨b1_, h1, hge_b1_, Hb_b1_⟩ := hf 0 rfl
  have hW := hW.trans hN
  have hB_b1_ : w0.heap.size ≤ b1_ := Nat.le_trans hsz hge_b1_
  have hsz := hW.size
  refine WP.seq ?_
  obtain ⟨c, hc, hF⟩ := obind hF
  obtain ⟨z, hz, hc⟩ := andB hc
  obtain ⟨z2, hz2, hc⟩ := andB hc
  have hc := andE hc
  refine WP.rb mixed [[], [0], [1], [2], [3], [3, 4], [3, 5], [3, 6], [7], [8], [8, 9], [8, 10], [8, 11], [12], [13], [13, 14], [13, 15], [13, 16], [17], [18], [18, 19], [18, 20], [18], [18, 22], [18, 23], [18, 21, 24], [18, 25], [18, 26], [27]] [[1], [], [], [], [1], [], [], [], [], [1], [], [], [], [], [1], [], [], [], [], [1], [], [], [1], [], [], [], [], [], []] [(3, .pointer (some ((⟨b1_, 0, none⟩ : Addr).add 1))), (4, .int .i64 f_.Den), (5, .bool (decide (1 ≤ f_.Den))), (6, .bool (decide (1 ≤ f_.Den))), (7, gv (decide (1 ≤ f_.Den)) (.pointer (some ((⟨b1_, 0, none⟩ : Addr).add 1)))), (8, gv (decide (1 ≤ f_.Den)) (.int .i64 f_.Den)), (9, gv (decide (1 ≤ f_.Den)) (.bool (decide (f_.Den ≤ 1000000000)))), (10, .bool (decide (1 ≤ f_.Den) && decide (f_.Den ≤ 1000000000))), (11, .bool (decide (1 ≤ f_.Den) && decide (f_.Den ≤ 1000000000))), (12, gv ((decide (1 ≤ f_.Den) && decide (f_.Den ≤ 1000000000))) (.pointer (some ((⟨b1_, 0, none⟩ : Addr).add 0)))), (13, gv ((decide (1 ≤ f_.Den) && decide (f_.Den ≤ 1000000000))) (.int .i64 f_.Num)), (14, gv ((decide (1 ≤ f_.Den) && decide (f_.Den ≤ 1000000000))) (.bool (decide ((-1000000000000000) ≤ f_.Num)))), (15, .bool ((decide (1 ≤ f_.Den) && decide (f_.Den ≤ 1000000000)) && decide ((-1000000000000000) ≤ f_.Num))), (16, .bool ((decide (1 ≤ f_.Den) && decide (f_.Den ≤ 1000000000)) && decide ((-1000000000000000) ≤ f_.Num))), (17, gv (((decide (1 ≤ f_.Den) && decide (f_.Den ≤ 1000000000)) && decide ((-1000000000000000) ≤ f_.Num))) (.pointer (some ((⟨b1_, 0, none⟩ : Addr).add 0)))), (18, gv (((decide (1 ≤ f_.Den) && decide (f_.Den ≤ 1000000000)) && decide ((-1000000000000000) ≤ f_.Num))) (.int .i64 f_.Num)), (19, gv (((decide (1 ≤ f_.Den) && decide (f_.Den ≤ 1000000000)) && decide ((-1000000000000000) ≤ f_.Num))) (.bool (decide (f_.Num ≤ 1000000000000000)))), (20, .bool (((decide (1 ≤ f_.Den) && decide (f_.Den ≤ 1000000000)) && decide ((-1000000000000000) ≤ f_.Num)) && decide (f_.Num ≤ 1000000000000000))), (21, .bool (((decide (1 ≤ f_.Den) && decide (f_.Den ≤ 1000000000)) && decide ((-1000000000000000) ≤ f_.Num)) && decide (f_.Num ≤ 1000000000000000))), (22, gv ((((decide (1 ≤ f_.Den) && decide (f_.Den ≤ 1000000000)) && decide ((-1000000000000000) ≤ f_.Num)) && decide (f_.Num ≤ 1000000000000000))) (.pointer (some ((⟨b1_, 0, none⟩ : Addr).add 0)))), (23, gv ((((decide (1 ≤ f_.Den) && decide (f_.Den ≤ 1000000000)) && decide ((-1000000000000000) ≤ f_.Num)) && decide (f_.Num ≤ 1000000000000000))) (.int .i64 f_.Num)), (24, gv ((((decide (1 ≤ f_.Den) && decide (f_.Den ≤ 1000000000)) && decide ((-1000000000000000) ≤ f_.Num)) && decide (f_.Num ≤ 1000000000000000))) (.int .u64 z)), (25, gv ((((decide (1 ≤ f_.Den) && decide (f_.Den ≤ 1000000000)) && decide ((-1000000000000000) ≤ f_.Num)) && decide (f_.Num ≤ 1000000000000000))) (.pointer (some ((⟨b1_, 0, none⟩ : Addr).add 1)))), (26, gv ((((decide (1 ≤ f_.Den) && decide (f_.Den ≤ 1000000000)) && decide ((-1000000000000000) ≤ f_.Num)) && decide (f_.Num ≤ 1000000000000000))) (.int .i64 f_.Den)), (27, gv ((((decide (1 ≤ f_.Den) && decide (f_.Den ≤ 1000000000)) && decide ((-1000000000000000) ≤ f_.Num)) && decide (f_.Num ≤ 1000000000000000))) (.int .u64 (u64 f_.Den))), (28, gv ((((decide (1 ≤ f_.Den) && decide (f_.Den ≤ 1000000000)) && decide ((-1000000000000000) ≤ f_.Num)) && decide (f_.Num ≤ 1000000000000000))) (.int .u64 z2)), (29, gv ((((decide (1 ≤ f_.Den) && decide (f_.Den ≤ 1000000000)) && decide ((-1000000000000000) ≤ f_.Num)) && decide (f_.Num ≤ 1000000000000000))) (.bool (z2 == 1))), (30, .bool c), (2, .bool c)] (by kernel_rfl) ⟨fun ρz wz hE hA ⟨e1, _⟩ _ => core_val rfl rfl (o_fieldAddr (e1.trans h1) (fa_54_1 _ _)),
 fun ρz wz hE hA _ ⟨u0, _⟩ => core_val rfl rfl (o_load u0 (run_load1 (lr_3 _ _) (CA.sub ((Hb_b1_.exn (hA rfl)).ca) 1 1))),
 fun ρz wz hE hA _ ⟨u1, _⟩ => core_val rfl rfl (o_geq u1 rfl rfl),
 fun ρz wz hE hA _ ⟨u2, _⟩ => core_val rfl rfl (o_move u2),
 fun ρz wz hE hA ⟨e1, _⟩ ⟨u3, _⟩ => gIf rfl rfl (yT rfl u3) fun gc F hF => core_val rfl hF (o_fieldAddr (e1.trans h1) (fa_54_1 _ _)),
 fun ρz wz hE hA _ ⟨u3, u4, _⟩ => gIf rfl rfl (yT rfl u3) fun gc F hF => core_val rfl hF (o_load (gt gc u4) (run_load1 (lr_3 _ _) (CA.sub ((Hb_b1_.exn (hA rfl)).ca) 1 1))),
 fun ρz wz hE hA _ ⟨u3, u5, _⟩ => gIf rfl rfl (yT rfl u3) fun gc F hF => core_val rfl hF (o_leq (gt gc u5) rfl rfl),
 fun ρz wz hE hA _ ⟨u3, u6, _⟩ => core_val rfl rfl (o_pick_and u3 u6 rfl),
 fun ρz wz hE hA _ ⟨u7, _⟩ => core_val rfl rfl (o_move u7),
 fun ρz wz hE hA ⟨e1, _⟩ ⟨u8, _⟩ => gIf rfl rfl (yT rfl u8) fun gc F hF => core_val rfl hF (o_fieldAddr (e1.trans h1) (fa_54_0 _ _)),
 fun ρz wz hE hA _ ⟨u8, u9, _⟩ => gIf rfl rfl (yT rfl u8) fun gc F hF => core_val rfl hF (o_load (gt gc u9) (run_load1 (lr_3 _ _) (CA.sub ((Hb_b1_.exn (hA rfl)).ca) 0 1))),
 fun ρz wz hE hA _ ⟨u8, u10, _⟩ => gIf rfl rfl (yT rfl u8) fun gc F hF => core_val rfl hF (o_geq (gt gc u10) rfl rfl),
 fun ρz wz hE hA _ ⟨u8, u11, _⟩ => core_val rfl rfl (o_pick_and u8 u11 rfl),
 fun ρz wz hE hA _ ⟨u12, _⟩ => core_val rfl rfl (o_move u12),
 fun ρz wz hE hA ⟨e1, _⟩ ⟨u13, _⟩ => gIf rfl rfl (yT rfl u13) fun gc F hF => core_val rfl hF (o_fieldAddr (e1.trans h1) (fa_54_0 _ _)),
 fun ρz wz hE hA _ ⟨u13, u14, _⟩ => gIf rfl rfl (yT rfl u13) fun gc F hF => core_val rfl hF (o_load (gt gc u14) (run_load1 (lr_3 _ _) (CA.sub ((Hb_b1_.exn (hA rfl)).ca) 0 1))),
 fun ρz wz hE hA _ ⟨u13, u15, _⟩ => gIf rfl rfl (yT rfl u13) fun gc F hF => core_val rfl hF (o_leq (gt gc u15) rfl rfl),
 fun ρz wz hE hA _ ⟨u13, u16, _⟩ => core_val rfl rfl (o_pick_and u13 u16 rfl),
 fun ρz wz hE hA _ ⟨u17, _⟩ => core_val rfl rfl (o_move u17),
 fun ρz wz hE hA ⟨e1, _⟩ ⟨u18, _⟩ => gIf rfl rfl (yT rfl u18) fun gc F hF => core_val rfl hF (o_fieldAddr (e1.trans h1) (fa_54_0 _ _)),
 fun ρz wz hE hA _ ⟨u18, u19, _⟩ => gIf rfl rfl (yT rfl u18) fun gc F hF => core_val rfl hF (o_load (gt gc u19) (run_load1 (lr_3 _ _) (CA.sub ((Hb_b1_.exn (hA rfl)).ca) 0 1))),
 fun ρz wz hE hA _ ⟨u18, u20, _⟩ => gIf rfl rfl (yT rfl u18) fun gc F hF => core_call hF (call_args1 (gt gc u20)) cf_55 (pensionref1_size_ok  _  (hz gc)),
 fun ρz wz hE hA ⟨e1, _⟩ ⟨u18, _⟩ => gIf rfl rfl (yT rfl u18) fun gc F hF => core_val rfl hF (o_fieldAddr (e1.trans h1) (fa_54_1 _ _)),
 fun ρz wz hE hA _ ⟨u18, u22, _⟩ => gIf rfl rfl (yT rfl u18) fun gc F hF => core_val rfl hF (o_load (gt gc u22) (run_load1 (lr_3 _ _) (CA.sub ((Hb_b1_.exn (hA rfl)).ca) 1 1))),
 fun ρz wz hE hA _ ⟨u18, u23, _⟩ => gIf rfl rfl (yT rfl u18) fun gc F hF => core_val rfl hF (o_conv (gt gc u23) (cv_3_62 _ _)),
 fun ρz wz hE hA _ ⟨u18, u21, u24, _⟩ => gIf rfl rfl (yT rfl u18) fun gc F hF => core_call hF (call_args2 (gt gc u21) (gt gc u24)) cf_54 (pensionref1_gcd_ok  _ _  (hz2 gc)),
 fun ρz wz hE hA _ ⟨u18, u25, _⟩ => gIf rfl rfl (yT rfl u18) fun gc F hF => core_val rfl hF (o_eql (gt gc u25) rfl rfl),
 fun ρz wz hE hA _ ⟨u18, u26, _⟩ => core_valE rfl rfl (congrArg Value.bool hc) (o_pick_and u18 u26 rfl),
 fun ρz wz hE hA _ ⟨u27, _⟩ => core_val rfl rfl (o_assign u27), trivial⟩ ?_
  intro ρ2 w2 hN hf hr
  have h2 : ρ2 2 = .bool c := hf 28 rfl
  have hW := hW.trans hN
  have hsz := hW.size
  refine WP.ret ?_
  show retQ Tryd.prog 31 Tryd.f37 (fun v w1 => v = .bool r ∧ Ext noG w0 w1) .ret ρ2 w2
  obtain rfl := Option.some.inj hF
  exact res1 rfl (by decide) h2 ⟨rfl, hW⟩

set_option maxHeartbeats 4000000 in
theorem pensionref1_CheckRates_ok {w0 : World} (d_ : List Rate) {v_d_ : Value} (H_d_ : RepSl Rate.R noG w0 v_d_ d_) {r : Int} (hF : pensionref1_CheckRates d_ = some r) :
    Calls Tryd.prog 20 #[v_d_] w0 fun e w1 => e = .returned (.int .i64 r) ∧ Ext noG w0 w1 := by
  refine (Calls.start (P := Tryd.prog) (args := [v_d_]) (R := fun v w1 => v = .int .i64 r ∧ Ext noG w0 w1) (n := 106) (w := w0) Tryd.func20 rfl rfl (Nat.le_of_ble_eq_true rfl) (fun ρ hargs => ?_)).mono (fun e w1 ⟨v, he, hv, hE⟩ => ⟨hv ▸ he, hE⟩)
  have h0 := hargs 0 _ rfl
  have hW := Ext.refl noG w0
  have hsz := Nat.le_refl w0.heap.size
  obtain ⟨_, _, hs_H_d_, _, _⟩ := RepSl.shape H_d_
  have H_d_ := H_d_.start
  rw [pensionref1_CheckRates] at hF
  refine WP.seq ?_
  refine WP.rb mixed [[]] [[]] [(2, .int .i64 0)] (by kernel_rfl) ⟨fun ρz wz hE hA _ _ => core_val rfl rfl (o_assign rfl), trivial⟩ ?_
  intro ρ1 w1 hN hf hr
  have h0 := (hr 0 rfl).trans h0
  have H_d_ := H_d_.exn hN
  have hW := hW.trans hN
  have hsz := hW.size
  refine WP.seq ?_
  refine WP.seq ?_
  refine WP.rb mixed [[], [0], [1]] [[0], [], []] [(5, v_d_), (6, .int .i64 (d_.length : Int)), (7, .bool (decide (40 < (d_.length : Int))))] (by kernel_rfl) ⟨fun ρz wz hE hA ⟨e0, _⟩ _ => core_val rfl rfl (o_move (e0.trans h0)),
 fun ρz wz hE hA _ ⟨u0, _⟩ => core_val rfl rfl (o_len (u0.trans hs_H_d_) len_26),
 fun ρz wz hE hA _ ⟨u1, _⟩ => core_val rfl rfl (o_gtr u1 rfl rfl), trivial⟩ ?_
  intro ρ2 w2 hN hf hr
  have h7 : ρ2 7 = .bool (decide (40 < (d_.length : Int))) := hf 2 rfl
  have h0 := (hr 0 rfl).trans h0
  have H_d_ := H_d_.exn hN
  have hW := hW.trans hN
  have hsz := hW.size
  refine WP.cond rfl h7 (fun hb => ?_) (fun hb => ?_)
  · have hF := (if_pos hb).symm.trans hF
    refine WP.seq ?_
    refine WP.rb mixed [[]] [[]] [(2, .int .i64 7)] (by kernel_rfl) ⟨fun ρz wz hE hA _ _ => core_val rfl rfl (o_assign rfl), trivial⟩ ?_
    intro ρ3 w3 hN hf hr
    have h2 : ρ3 2 = .int .i64 7 := hf 0 rfl
    have hW := hW.trans hN
    have hsz := hW.size
    refine WP.ret ?_
    show retQ Tryd.prog 106 Tryd.f20 (fun v w1 => v = .int .i64 r ∧ Ext noG w0 w1) .ret ρ3 w3
    obtain rfl := Option.some.inj hF
    exact res1 rfl (by decide) h2 ⟨rfl, hW⟩
  have hF := (if_neg (Bool.eq_false_iff.1 hb)).symm.trans hF
  refine WP.skip ?_
  refine WP.seq ?_
  refine WP.seq ?_
  refine WP.rb mixed [[]] [[]] [(3, .int .i64 0)] (by kernel_rfl) ⟨fun ρz wz hE hA _ _ => core_val rfl rfl (o_assign rfl), trivial⟩ ?_
  intro ρ4 w4 hN hf hr
  have h3 : ρ4 3 = .int .i64 0 := hf 0 rfl
  have h0 := (hr 0 rfl).trans h0
  have H_d_ := H_d_.exn hN
  have hW := hW.trans hN
  have hsz := hW.size
  refine WP.block ?_
  refine WP.loop (fun k_ ρ w => ∃ x : Int, ρ 0 = v_d_ ∧ ρ 3 = .int .i64 x ∧ RepSl Rate.R (gfr noG w0) w v_d_ d_ ∧ Ext noG w0 w ∧ w0.heap.size ≤ w.heap.size ∧ loopC k_ (pensionref1_CheckRates_l d_) x = some r) FU ⟨0, h0, h3, H_d_, hW, hsz, hF⟩ (fun _ _ h => by obtain ⟨_, _, _, _, _, _, h⟩ := h; cases h) ?_
  rintro k_ ρ5 w5 ⟨x, h0, h3, H_d_, hW, hsz, hF⟩
  have hF : pensionref1_CheckRates_l d_ (loopC k_ (pensionref1_CheckRates_l d_)) x = some r := hF
  generalize hrec_ : loopC k_ (pensionref1_CheckRates_l d_) = rec_ at hF
  rw [pensionref1_CheckRates_l] at hF
  refine WP.seq ?_
  refine WP.seq ?_
  refine WP.rb mixed [[], [], [1], [0, 2]] [[3], [0], [], []] [(8, .int .i64 x), (9, v_d_), (10, .int .i64 (d_.length : Int)), (11, .bool (decide (x < (d_.length : Int))))] (by kernel_rfl) ⟨fun ρz wz hE hA ⟨e3, _⟩ _ => core_val rfl rfl (o_move (e3.trans h3)),
 fun ρz wz hE hA ⟨e0, _⟩ _ => core_val rfl rfl (o_move (e0.trans h0)),
 fun ρz wz hE hA _ ⟨u1, _⟩ => core_val rfl rfl (o_len (u1.trans hs_H_d_) len_26),
 fun ρz wz hE hA _ ⟨u0, u2, _⟩ => core_val rfl rfl (o_lss u0 u2 rfl), trivial⟩ ?_
  intro ρ6 w6 hN hf hr
  have h11 : ρ6 11 = .bool (decide (x < (d_.length : Int))) := hf 3 rfl
  obtain ⟨h0, h3⟩ := k2 hr h0 h3 rfl
  have H_d_ := H_d_.exn hN
  have hW := hW.trans hN
  have hsz := hW.size
  refine WP.cond rfl h11 (fun hb => ?_) (fun hb => ?_)
  · have hF := (if_pos hb).symm.trans hF
    refine WP.skip ?_
    refine WP.seq ?_
    refine WP.block ?_
    refine WP.seq ?_
    obtain ⟨y, hy, hF⟩ := obind hF
    obtain ⟨ay, cy, hvy, hiy, hAy⟩ := RepSl.getF H_d_ hy
    refine WP.region mixed [[], [], [0, 1], [2], [3], [], [4, 5]] [[], [], [0, 1], [2], [3], [], [4, 5]] [[0], [3], [], [], [], [], []] [6] [(5, 6)] [val 14 (v_d_), val 15 (.int .i64 x), val 16 (.pointer (some (ay.add (Int.toNat x * 4)))), val 17 (.pointer (some ((ay.add (Int.toNat x * 4)).add 2))), val 18 (Fraction.val y.Value), (4, fun u wz => ∃ b, u = .pointer (some ⟨b, 0, none⟩) ∧ w6.heap.size ≤ b ∧ Mb wz b 54 (Fraction.cells (⟨0, 0⟩ : Fraction))), (4, fun u wz => ∃ b, u = .pointer (some ⟨b, 0, none⟩) ∧ w6.heap.size ≤ b ∧ Mb wz b 54 (Fraction.cells y.Value))] (fun b => w6.heap.size ≤ b) (by kernel_rfl) ⟨sV, sV, sV, sV, sV, fun _ _ _ hE ⟨b, hb, hs, hM⟩ => ⟨b, hb, hs, hM.exn hE⟩, fun _ _ _ hE ⟨b, hb, hs, hM⟩ => ⟨b, hb, hs, hM.exn hE⟩, trivial⟩ ⟨fun ρz wz hE hA ⟨e0, _⟩ _ => core_val rfl rfl (o_move (e0.trans h0)),
 fun ρz wz hE hA ⟨e3, _⟩ _ => core_val rfl rfl (o_move (e3.trans h3)),
 fun ρz wz hE hA _ ⟨u0, u1, _⟩ => core_val rfl rfl (o_indexAddr (u0.trans hvy) u1 (ia_26 hiy)),
 fun ρz wz hE hA _ ⟨u2, _⟩ => core_val rfl rfl (o_fieldAddr u2 (fa_57_2 _ _)),
 fun ρz wz hE hA _ ⟨u3, _⟩ => core_val rfl rfl (o_load u3 (run_loadN (cs := (Fraction.cells y.Value)) (lr_54 _ _) rfl (CA.sub ((hAy.exn hE.fresh).ca) 2 2))),
 fun ρz wz hE hA _ _ => core_new rfl rfl hE (o_alloc (al_54 _)),
 fun ρz wz hE hA _ ⟨u4, u5, _⟩ => core_storeNew rfl rfl rfl rfl u4 u5 (fun a w => st_54 _ a w) rfl (one_54 _), trivial⟩ ?_
    intro ρ7 w7 hE hN hf hr
    have hN := hE.fresh
    obtain ⟨b4_, h4, hge_b4_, Hb_b4_⟩ := hf 6 rfl
    obtain ⟨h0, h3⟩ := k2 hr h0 h3 rfl
    have H_d_ := H_d_.exn hN
    have hW := hW.trans hN
    have hB_b4_ : w0.heap.size ≤ b4_ := Nat.le_trans hsz hge_b4_
    have hsz := hW.size
    refine WP.seq ?_
    refine WP.seq ?_
    obtain ⟨y2, hy2, hF⟩ := obind hF
    obtain ⟨ay2, cy2, hvy2, hiy2, hAy2⟩ := RepSl.getF H_d_ hy2
    obtain ⟨c, hc, hF⟩ := obind hF
    obtain ⟨y3, hy3, hc⟩ := orB hc
    obtain ⟨ay3, cy3, hvy3, hiy3, hAy3⟩ := RepSl.getFI H_d_ hy3
    have hc := orE hc
    obtain ⟨c2, hc2, hF⟩ := obind hF
    obtain ⟨y4, hy4, hc2⟩ := orB hc2
    obtain ⟨ay4, cy4, hvy4, hiy4, hAy4⟩ := RepSl.getFI H_d_ hy4
    obtain ⟨z, hz, hc2⟩ := orB hc2
    have hc2 := orE hc2
    obtain ⟨c3, hc3, hF⟩ := obind hF
    obtain ⟨z2, hz2, hc3⟩ := orB hc3
    have hc3 := orE hc3
    refine WP.rb mixed [[], [], [0, 1], [2], [3], [4], [5], [6], [6], [6, 7, 8], [6, 9], [6, 10], [6, 11], [6, 12], [13], [14], [14], [14, 15, 16], [14, 17], [14, 18], [14, 19], [14, 20], [14, 21], [22], [23], [23, 24], [23, 25], [23, 26], [27], [28], [28, 29], [28, 30], [28, 31], [32], [33], [33, 34], [33, 35], [33, 36], [37], [38], [38, 39], [38, 40], [38, 41]] [[0], [3], [], [], [], [], [], [0], [3], [], [], [], [], [], [], [0], [3], [], [], [], [], [], [], [], [4], [], [], [], [], [4], [], [], [], [], [4], [], [], [], [], [4], [], [], []] [(19, v_d_), (20, .int .i64 x), (21, .pointer (some (ay2.add (Int.toNat x * 4)))), (22, .pointer (some ((ay2.add (Int.toNat x * 4)).add 0))), (23, .int .i64 y2.Currency), (24, .bool (decide (y2.Currency < 1))), (25, .bool (decide (y2.Currency < 1))), (26, gv (!(decide (y2.Currency < 1))) v_d_), (27, gv (!(decide (y2.Currency < 1))) (.int .i64 x)), (28, gv (!(decide (y2.Currency < 1))) (.pointer (some (ay3.add (Int.toNat x * 4))))), (29, gv (!(decide (y2.Currency < 1))) (.pointer (some ((ay3.add (Int.toNat x * 4)).add 0)))), (30, gv (!(decide (y2.Currency < 1))) (.int .i64 y3.Currency)), (31, gv (!(decide (y2.Currency < 1))) (.bool (decide (999 < y3.Currency)))), (32, .bool c), (33, .bool c), (34, gv (!c) v_d_), (35, gv (!c) (.int .i64 x)), (36, gv (!c) (.pointer (some (ay4.add (Int.toNat x * 4))))), (37, gv (!c) (.pointer (some ((ay4.add (Int.toNat x * 4)).add 1)))), (38, gv (!c) (.int .i64 y4.Month)), (39, gv (!c) (.bool z)), (40, gv (!c) (.bool (!z))), (41, .bool c2), (42, .bool c2), (43, gv (!c2) (Fraction.val y.Value)), (44, gv (!c2) (.bool z2)), (45, gv (!c2) (.bool (!z2))), (46, .bool c3), (47, .bool c3), (48, gv (!c3) (.pointer (some ((⟨b4_, 0, none⟩ : Addr).add 0)))), (49, gv (!c3) (.int .i64 y.Value.Num)), (50, gv (!c3) (.bool (decide (y.Value.Num < 1)))), (51, .bool (c3 || decide (y.Value.Num < 1))), (52, .bool (c3 || decide (y.Value.Num < 1))), (53, gv (!(c3 || decide (y.Value.Num < 1))) (.pointer (some ((⟨b4_, 0, none⟩ : Addr).add 0)))), (54, gv (!(c3 || decide (y.Value.Num < 1))) (.int .i64 y.Value.Num)), (55, gv (!(c3 || decide (y.Value.Num < 1))) (.bool (decide (1000000 < y.Value.Num)))), (56, .bool ((c3 || decide (y.Value.Num < 1)) || decide (1000000 < y.Value.Num))), (57, .bool ((c3 || decide (y.Value.Num < 1)) || decide (1000000 < y.Value.Num))), (58, gv (!((c3 || decide (y.Value.Num < 1)) || decide (1000000 < y.Value.Num))) (.pointer (some ((⟨b4_, 0, none⟩ : Addr).add 1)))), (59, gv (!((c3 || decide (y.Value.Num < 1)) || decide (1000000 < y.Value.Num))) (.int .i64 y.Value.Den)), (60, gv (!((c3 || decide (y.Value.Num < 1)) || decide (1000000 < y.Value.Num))) (.bool (decide (1000000 < y.Value.Den)))), (61, .bool (((c3 || decide (y.Value.Num < 1)) || decide (1000000 < y.Value.Num)) || decide (1000000 < y.Value.Den)))] (by kernel_rfl) ⟨fun ρz wz hE hA ⟨e0, _⟩ _ => core_val rfl rfl (o_move (e0.trans h0)),
 fun ρz wz hE hA ⟨e3, _⟩ _ => core_val rfl rfl (o_move (e3.trans h3)),
 fun ρz wz hE hA _ ⟨u0, u1, _⟩ => core_val rfl rfl (o_indexAddr (u0.trans hvy2) u1 (ia_26 hiy2)),
 fun ρz wz hE hA _ ⟨u2, _⟩ => core_val rfl rfl (o_fieldAddr u2 (fa_57_0 _ _)),
 fun ρz wz hE hA _ ⟨u3, _⟩ => core_val rfl rfl (o_load u3 (run_load1 (lr_3 _ _) (CA.sub ((hAy2.exn (hA rfl)).ca) 0 1))),
 fun ρz wz hE hA _ ⟨u4, _⟩ => core_val rfl rfl (o_lss u4 rfl rfl),
 fun ρz wz hE hA _ ⟨u5, _⟩ => core_val rfl rfl (o_move u5),
 fun ρz wz hE hA ⟨e0, _⟩ ⟨u6, _⟩ => gIf rfl rfl (yF rfl u6) fun gc F hF => core_val rfl hF (o_move (e0.trans h0)),
 fun ρz wz hE hA ⟨e3, _⟩ ⟨u6, _⟩ => gIf rfl rfl (yF rfl u6) fun gc F hF => core_val rfl hF (o_move (e3.trans h3)),
 fun ρz wz hE hA _ ⟨u6, u7, u8, _⟩ => gIf rfl rfl (yF rfl u6) fun gc F hF => core_val rfl hF (o_indexAddr ((gt gc u7).trans (hvy3 gc)) (gt gc u8) (ia_26 (hiy3 gc))),
 fun ρz wz hE hA _ ⟨u6, u9, _⟩ => gIf rfl rfl (yF rfl u6) fun gc F hF => core_val rfl hF (o_fieldAddr (gt gc u9) (fa_57_0 _ _)),
 fun ρz wz hE hA _ ⟨u6, u10, _⟩ => gIf rfl rfl (yF rfl u6) fun gc F hF => core_val rfl hF (o_load (gt gc u10) (run_load1 (lr_3 _ _) (CA.sub (((hAy3 gc).exn (hA rfl)).ca) 0 1))),
 fun ρz wz hE hA _ ⟨u6, u11, _⟩ => gIf rfl rfl (yF rfl u6) fun gc F hF => core_val rfl hF (o_gtr (gt gc u11) rfl rfl),
 fun ρz wz hE hA _ ⟨u6, u12, _⟩ => core_valE rfl rfl (congrArg Value.bool hc) (o_pick_or u6 rfl u12),
 fun ρz wz hE hA _ ⟨u13, _⟩ => core_val rfl rfl (o_move u13),
 fun ρz wz hE hA ⟨e0, _⟩ ⟨u14, _⟩ => gIf rfl rfl (yF rfl u14) fun gc F hF => core_val rfl hF (o_move (e0.trans h0)),
 fun ρz wz hE hA ⟨e3, _⟩ ⟨u14, _⟩ => gIf rfl rfl (yF rfl u14) fun gc F hF => core_val rfl hF (o_move (e3.trans h3)),
 fun ρz wz hE hA _ ⟨u14, u15, u16, _⟩ => gIf rfl rfl (yF rfl u14) fun gc F hF => core_val rfl hF (o_indexAddr ((gt gc u15).trans (hvy4 gc)) (gt gc u16) (ia_26 (hiy4 gc))),
 fun ρz wz hE hA _ ⟨u14, u17, _⟩ => gIf rfl rfl (yF rfl u14) fun gc F hF => core_val rfl hF (o_fieldAddr (gt gc u17) (fa_57_1 _ _)),
 fun ρz wz hE hA _ ⟨u14, u18, _⟩ => gIf rfl rfl (yF rfl u14) fun gc F hF => core_val rfl hF (o_load (gt gc u18) (run_load1 (lr_3 _ _) (CA.sub (((hAy4 gc).exn (hA rfl)).ca) 1 1))),
 fun ρz wz hE hA _ ⟨u14, u19, _⟩ => gIf rfl rfl (yF rfl u14) fun gc F hF => core_call hF (call_args1 (gt gc u19)) cf_19 (pensionref1_ValidMonth_ok  _  (hz gc)),
 fun ρz wz hE hA _ ⟨u14, u20, _⟩ => gIf rfl rfl (yF rfl u14) fun gc F hF => core_val rfl hF (o_not (gt gc u20) rfl),
 fun ρz wz hE hA _ ⟨u14, u21, _⟩ => core_valE rfl rfl (congrArg Value.bool hc2) (o_pick_or u14 rfl u21),
 fun ρz wz hE hA _ ⟨u22, _⟩ => core_val rfl rfl (o_move u22),
 fun ρz wz hE hA ⟨e4, _⟩ ⟨u23, _⟩ => gIf rfl rfl (yF rfl u23) fun gc F hF => core_val rfl hF (o_load (e4.trans h4) (run_loadN (cs := (Fraction.cells y.Value)) (lr_54 _ _) rfl ((Hb_b4_.exn (hA rfl)).ca))),
 fun ρz wz hE hA _ ⟨u23, u24, _⟩ => gIf rfl rfl (yF rfl u23) fun gc F hF => core_call hF (call_args1 (gt gc u24)) cf_37 (pensionref1_ValidFraction_ok  _  (hz2 gc)),
 fun ρz wz hE hA _ ⟨u23, u25, _⟩ => gIf rfl rfl (yF rfl u23) fun gc F hF => core_val rfl hF (o_not (gt gc u25) rfl),
 fun ρz wz hE hA _ ⟨u23, u26, _⟩ => core_valE rfl rfl (congrArg Value.bool hc3) (o_pick_or u23 rfl u26),
 fun ρz wz hE hA _ ⟨u27, _⟩ => core_val rfl rfl (o_move u27),
 fun ρz wz hE hA ⟨e4, _⟩ ⟨u28, _⟩ => gIf rfl rfl (yF rfl u28) fun gc F hF => core_val rfl hF (o_fieldAddr (e4.trans h4) (fa_54_0 _ _)),
 fun ρz wz hE hA _ ⟨u28, u29, _⟩ => gIf rfl rfl (yF rfl u28) fun gc F hF => core_val rfl hF (o_load (gt gc u29) (run_load1 (lr_3 _ _) (CA.sub ((Hb_b4_.exn (hA rfl)).ca) 0 1))),
 fun ρz wz hE hA _ ⟨u28, u30, _⟩ => gIf rfl rfl (yF rfl u28) fun gc F hF => core_val rfl hF (o_lss (gt gc u30) rfl rfl),
 fun ρz wz hE hA _ ⟨u28, u31, _⟩ => core_val rfl rfl (o_pick_or u28 rfl u31),
 fun ρz wz hE hA _ ⟨u32, _⟩ => core_val rfl rfl (o_move u32),
 fun ρz wz hE hA ⟨e4, _⟩ ⟨u33, _⟩ => gIf rfl rfl (yF rfl u33) fun gc F hF => core_val rfl hF (o_fieldAddr (e4.trans h4) (fa_54_0 _ _)),
 fun ρz wz hE hA _ ⟨u33, u34, _⟩ => gIf rfl rfl (yF rfl u33) fun gc F hF => core_val rfl hF (o_load (gt gc u34) (run_load1 (lr_3 _ _) (CA.sub ((Hb_b4_.exn (hA rfl)).ca) 0 1))),
 fun ρz wz hE hA _ ⟨u33, u35, _⟩ => gIf rfl rfl (yF rfl u33) fun gc F hF => core_val rfl hF (o_gtr (gt gc u35) rfl rfl),
 fun ρz wz hE hA _ ⟨u33, u36, _⟩ => core_val rfl rfl (o_pick_or u33 rfl u36),
 fun ρz wz hE hA _ ⟨u37, _⟩ => core_val rfl rfl (o_move u37),
 fun ρz wz hE hA ⟨e4, _⟩ ⟨u38, _⟩ => gIf rfl rfl (yF rfl u38) fun gc F hF => core_val rfl hF (o_fieldAddr (e4.trans h4) (fa_54_1 _ _)),
 fun ρz wz hE hA _ ⟨u38, u39, _⟩ => gIf rfl rfl (yF rfl u38) fun gc F hF => core_val rfl hF (o_load (gt gc u39) (run_load1 (lr_3 _ _) (CA.sub ((Hb_b4_.exn (hA rfl)).ca) 1 1))),
 fun ρz wz hE hA _ ⟨u38, u40, _⟩ => gIf rfl rfl (yF rfl u38) fun gc F hF => core_val rfl hF (o_gtr (gt gc u40) rfl rfl),
 fun ρz wz hE hA _ ⟨u38, u41, _⟩ => core_val rfl rfl (o_pick_or u38 rfl u41), trivial⟩ ?_
    intro ρ8 w8 hN hf hr
    have h61 : ρ8 61 = .bool (((c3 || decide (y.Value.Num < 1)) || decide (1000000 < y.Value.Num)) || decide (1000000 < y.Value.Den)) := hf 42 rfl
    obtain ⟨h0, h3⟩ := k2 hr h0 h3 rfl
    have H_d_ := H_d_.exn hN
    have hW := hW.trans hN
    have hsz := hW.size
    refine WP.cond rfl h61 (fun hb => ?_) (fun hb => ?_)
    · have hF := (if_pos hb).symm.trans hF
      refine WP.seq ?_
      refine WP.rb mixed [[]] [[]] [(2, .int .i64 1)] (by kernel_rfl) ⟨fun ρz wz hE hA _ _ => core_val rfl rfl (o_assign rfl), trivial⟩ ?_
      intro ρ9 w9 hN hf hr
      have h2 : ρ9 2 = .int .i64 1 := hf 0 rfl
      have hW := hW.trans hN
      have hsz := hW.size
      refine WP.ret ?_
      show retQ Tryd.prog 106 Tryd.f20 (fun v w1 => v = .int .i64 r ∧ Ext noG w0 w1) .ret ρ9 w9
      obtain rfl := Option.some.inj hF
      exact res1 rfl (by decide) h2 ⟨rfl, hW⟩
    have hF := (if_neg (Bool.eq_false_iff.1 hb)).symm.trans hF
    refine WP.skip ?_
    refine WP.seq ?_
    obtain ⟨c6, hc6, hF⟩ := obind hF
    obtain ⟨y5, hy5, hc6⟩ := andB hc6
    obtain ⟨ay5, cy5, hvy5, hiy5, hAy5⟩ := RepSl.getFI H_d_ hy5
    obtain ⟨y6, hy6, hc6⟩ := andB hc6
    obtain ⟨ay6, cy6, hvy6, hiy6, hAy6⟩ := RepSl.getFI H_d_ hy6
    obtain ⟨c5, hc5, hc6⟩ := andB hc6
    obtain ⟨y7, hy7, hc5⟩ := orBI hc5
    obtain ⟨ay7, cy7, hvy7, hiy7, hAy7⟩ := RepSl.getFI H_d_ hy7
    obtain ⟨y8, hy8, hc5⟩ := orBI hc5
    obtain ⟨ay8, cy8, hvy8, hiy8, hAy8⟩ := RepSl.getFI H_d_ hy8
    obtain ⟨c4, hc4, hc5⟩ := orBI hc5
    obtain ⟨y9, hy9, hc4⟩ := andBI hc4
    obtain ⟨ay9, cy9, hvy9, hiy9, hAy9⟩ := RepSl.getFI H_d_ hy9
    obtain ⟨y10, hy10, hc4⟩ := andBI hc4
    obtain ⟨ay10, cy10, hvy10, hiy10, hAy10⟩ := RepSl.getFI H_d_ hy10
    have hc4 := andEI hc4
    have hc5 := orEI hc5
    have hc6 := andE hc6
    refine WP.rb mixed [[], [0], [1], [2], [2], [2, 4], [2, 3, 5], [2, 6], [2, 7], [2], [2], [2, 9, 10], [2, 11], [2, 12], [2, 8, 13], [2, 14], [15], [15], [15, 17], [15, 16, 18], [15, 19], [15, 20], [15], [15], [15, 22, 23], [15, 24], [15, 25], [15, 21, 26], [15, 27], [28], [28], [28, 30], [28, 29, 31], [28, 32], [28, 33], [28], [28], [28, 35, 36], [28, 37], [28, 38], [28, 34, 39], [15, 28, 40], [2, 15, 41], [2, 42]] [[3], [], [], [0], [3], [], [], [], [], [0], [3], [], [], [], [], [], [0], [3], [], [], [], [], [0], [3], [], [], [], [], [], [0], [3], [], [], [], [], [0], [3], [], [], [], [], [], [], []] [(62, .int .i64 x), (63, .bool (decide (0 < x))), (64, .bool (decide (0 < x))), (65, gv (decide (0 < x)) v_d_), (66, gv (decide (0 < x)) (.int .i64 x)), (67, gv (decide (0 < x)) (.int .i64 (i64 (x - 1)))), (68, gv (decide (0 < x)) (.pointer (some (ay5.add (Int.toNat (i64 (x - 1)) * 4))))), (69, gv (decide (0 < x)) (.pointer (some ((ay5.add (Int.toNat (i64 (x - 1)) * 4)).add 0)))), (70, gv (decide (0 < x)) (.int .i64 y5.Currency)), (71, gv (decide (0 < x)) v_d_), (72, gv (decide (0 < x)) (.int .i64 x)), (73, gv (decide (0 < x)) (.pointer (some (ay6.add (Int.toNat x * 4))))), (74, gv (decide (0 < x)) (.pointer (some ((ay6.add (Int.toNat x * 4)).add 0)))), (75, gv (decide (0 < x)) (.int .i64 y6.Currency)), (76, gv (decide (0 < x)) (.bool (decide (y6.Currency < y5.Currency)))), (77, gv (decide (0 < x)) (.bool (decide (y6.Currency < y5.Currency)))), (78, gv (decide (0 < x) && !(decide (y6.Currency < y5.Currency))) v_d_), (79, gv (decide (0 < x) && !(decide (y6.Currency < y5.Currency))) (.int .i64 x)), (80, gv (decide (0 < x) && !(decide (y6.Currency < y5.Currency))) (.int .i64 (i64 (x - 1)))), (81, gv (decide (0 < x) && !(decide (y6.Currency < y5.Currency))) (.pointer (some (ay7.add (Int.toNat (i64 (x - 1)) * 4))))), (82, gv (decide (0 < x) && !(decide (y6.Currency < y5.Currency))) (.pointer (some ((ay7.add (Int.toNat (i64 (x - 1)) * 4)).add 0)))), (83, gv (decide (0 < x) && !(decide (y6.Currency < y5.Currency))) (.int .i64 y7.Currency)), (84, gv (decide (0 < x) && !(decide (y6.Currency < y5.Currency))) v_d_), (85, gv (decide (0 < x) && !(decide (y6.Currency < y5.Currency))) (.int .i64 x)), (86, gv (decide (0 < x) && !(decide (y6.Currency < y5.Currency))) (.pointer (some (ay8.add (Int.toNat x * 4))))), (87, gv (decide (0 < x) && !(decide (y6.Currency < y5.Currency))) (.pointer (some ((ay8.add (Int.toNat x * 4)).add 0)))), (88, gv (decide (0 < x) && !(decide (y6.Currency < y5.Currency))) (.int .i64 y8.Currency)), (89, gv (decide (0 < x) && !(decide (y6.Currency < y5.Currency))) (.bool (y7.Currency == y8.Currency))), (90, gv (decide (0 < x) && !(decide (y6.Currency < y5.Currency))) (.bool (y7.Currency == y8.Currency))), (91, gv ((decide (0 < x) && !(decide (y6.Currency < y5.Currency))) && (y7.Currency == y8.Currency)) v_d_), (92, gv ((decide (0 < x) && !(decide (y6.Currency < y5.Currency))) && (y7.Currency == y8.Currency)) (.int .i64 x)), (93, gv ((decide (0 < x) && !(decide (y6.Currency < y5.Currency))) && (y7.Currency == y8.Currency)) (.int .i64 (i64 (x - 1)))), (94, gv ((decide (0 < x) && !(decide (y6.Currency < y5.Currency))) && (y7.Currency == y8.Currency)) (.pointer (some (ay9.add (Int.toNat (i64 (x - 1)) * 4))))), (95, gv ((decide (0 < x) && !(decide (y6.Currency < y5.Currency))) && (y7.Currency == y8.Currency)) (.pointer (some ((ay9.add (Int.toNat (i64 (x - 1)) * 4)).add 1)))), (96, gv ((decide (0 < x) && !(decide (y6.Currency < y5.Currency))) && (y7.Currency == y8.Currency)) (.int .i64 y9.Month)), (97, gv ((decide (0 < x) && !(decide (y6.Currency < y5.Currency))) && (y7.Currency == y8.Currency)) v_d_), (98, gv ((decide (0 < x) && !(decide (y6.Currency < y5.Currency))) && (y7.Currency == y8.Currency)) (.int .i64 x)), (99, gv ((decide (0 < x) && !(decide (y6.Currency < y5.Currency))) && (y7.Currency == y8.Currency)) (.pointer (some (ay10.add (Int.toNat x * 4))))), (100, gv ((decide (0 < x) && !(decide (y6.Currency < y5.Currency))) && (y7.Currency == y8.Currency)) (.pointer (some ((ay10.add (Int.toNat x * 4)).add 1)))), (101, gv ((decide (0 < x) && !(decide (y6.Currency < y5.Currency))) && (y7.Currency == y8.Currency)) (.int .i64 y10.Month)), (102, gv ((decide (0 < x) && !(decide (y6.Currency < y5.Currency))) && (y7.Currency == y8.Currency)) (.bool (decide (y10.Month ≤ y9.Month)))), (103, gv (decide (0 < x) && !(decide (y6.Currency < y5.Currency))) (.bool c4)), (104, gv (decide (0 < x)) (.bool c5)), (105, .bool c6)] (by kernel_rfl) ⟨fun ρz wz hE hA ⟨e3, _⟩ _ => core_val rfl rfl (o_move (e3.trans h3)),
 fun ρz wz hE hA _ ⟨u0, _⟩ => core_val rfl rfl (o_gtr u0 rfl rfl),
 fun ρz wz hE hA _ ⟨u1, _⟩ => core_val rfl rfl (o_move u1),
 fun ρz wz hE hA ⟨e0, _⟩ ⟨u2, _⟩ => gIf rfl rfl (yT rfl u2) fun gc F hF => core_val rfl hF (o_move (e0.trans h0)),
 fun ρz wz hE hA ⟨e3, _⟩ ⟨u2, _⟩ => gIf rfl rfl (yT rfl u2) fun gc F hF => core_val rfl hF (o_move (e3.trans h3)),
 fun ρz wz hE hA _ ⟨u2, u4, _⟩ => gIf rfl rfl (yT rfl u2) fun gc F hF => core_val rfl hF (o_sub (gt gc u4) rfl rfl),
 fun ρz wz hE hA _ ⟨u2, u3, u5, _⟩ => gIf rfl rfl (yT rfl u2) fun gc F hF => core_val rfl hF (o_indexAddr ((gt gc u3).trans (hvy5 gc)) (gt gc u5) (ia_26 (hiy5 gc))),
 fun ρz wz hE hA _ ⟨u2, u6, _⟩ => gIf rfl rfl (yT rfl u2) fun gc F hF => core_val rfl hF (o_fieldAddr (gt gc u6) (fa_57_0 _ _)),
 fun ρz wz hE hA _ ⟨u2, u7, _⟩ => gIf rfl rfl (yT rfl u2) fun gc F hF => core_val rfl hF (o_load (gt gc u7) (run_load1 (lr_3 _ _) (CA.sub (((hAy5 gc).exn (hA rfl)).ca) 0 1))),
 fun ρz wz hE hA ⟨e0, _⟩ ⟨u2, _⟩ => gIf rfl rfl (yT rfl u2) fun gc F hF => core_val rfl hF (o_move (e0.trans h0)),
 fun ρz wz hE hA ⟨e3, _⟩ ⟨u2, _⟩ => gIf rfl rfl (yT rfl u2) fun gc F hF => core_val rfl hF (o_move (e3.trans h3)),
 fun ρz wz hE hA _ ⟨u2, u9, u10, _⟩ => gIf rfl rfl (yT rfl u2) fun gc F hF => core_val rfl hF (o_indexAddr ((gt gc u9).trans (hvy6 gc)) (gt gc u10) (ia_26 (hiy6 gc))),
 fun ρz wz hE hA _ ⟨u2, u11, _⟩ => gIf rfl rfl (yT rfl u2) fun gc F hF => core_val rfl hF (o_fieldAddr (gt gc u11) (fa_57_0 _ _)),
 fun ρz wz hE hA _ ⟨u2, u12, _⟩ => gIf rfl rfl (yT rfl u2) fun gc F hF => core_val rfl hF (o_load (gt gc u12) (run_load1 (lr_3 _ _) (CA.sub (((hAy6 gc).exn (hA rfl)).ca) 0 1))),
 fun ρz wz hE hA _ ⟨u2, u8, u13, _⟩ => gIf rfl rfl (yT rfl u2) fun gc F hF => core_val rfl hF (o_gtr (gt gc u8) (gt gc u13) rfl),
 fun ρz wz hE hA _ ⟨u2, u14, _⟩ => gIf rfl rfl (yT rfl u2) fun gc F hF => core_val rfl hF (o_move (gt gc u14)),
 fun ρz wz hE hA ⟨e0, _⟩ ⟨u15, _⟩ => gIf rfl rfl (yFG rfl u15) fun gc F hF => core_val rfl hF (o_move (e0.trans h0)),
 fun ρz wz hE hA ⟨e3, _⟩ ⟨u15, _⟩ => gIf rfl rfl (yFG rfl u15) fun gc F hF => core_val rfl hF (o_move (e3.trans h3)),
 fun ρz wz hE hA _ ⟨u15, u17, _⟩ => gIf rfl rfl (yFG rfl u15) fun gc F hF => core_val rfl hF (o_sub (gt gc u17) rfl rfl),
 fun ρz wz hE hA _ ⟨u15, u16, u18, _⟩ => gIf rfl rfl (yFG rfl u15) fun gc F hF => core_val rfl hF (o_indexAddr ((gt gc u16).trans (hvy7 gc)) (gt gc u18) (ia_26 (hiy7 gc))),
 fun ρz wz hE hA _ ⟨u15, u19, _⟩ => gIf rfl rfl (yFG rfl u15) fun gc F hF => core_val rfl hF (o_fieldAddr (gt gc u19) (fa_57_0 _ _)),
 fun ρz wz hE hA _ ⟨u15, u20, _⟩ => gIf rfl rfl (yFG rfl u15) fun gc F hF => core_val rfl hF (o_load (gt gc u20) (run_load1 (lr_3 _ _) (CA.sub (((hAy7 gc).exn (hA rfl)).ca) 0 1))),
 fun ρz wz hE hA ⟨e0, _⟩ ⟨u15, _⟩ => gIf rfl rfl (yFG rfl u15) fun gc F hF => core_val rfl hF (o_move (e0.trans h0)),
 fun ρz wz hE hA ⟨e3, _⟩ ⟨u15, _⟩ => gIf rfl rfl (yFG rfl u15) fun gc F hF => core_val rfl hF (o_move (e3.trans h3)),
 fun ρz wz hE hA _ ⟨u15, u22, u23, _⟩ => gIf rfl rfl (yFG rfl u15) fun gc F hF => core_val rfl hF (o_indexAddr ((gt gc u22).trans (hvy8 gc)) (gt gc u23) (ia_26 (hiy8 gc))),
 fun ρz wz hE hA _ ⟨u15, u24, _⟩ => gIf rfl rfl (yFG rfl u15) fun gc F hF => core_val rfl hF (o_fieldAddr (gt gc u24) (fa_57_0 _ _)),
 fun ρz wz hE hA _ ⟨u15, u25, _⟩ => gIf rfl rfl (yFG rfl u15) fun gc F hF => core_val rfl hF (o_load (gt gc u25) (run_load1 (lr_3 _ _) (CA.sub (((hAy8 gc).exn (hA rfl)).ca) 0 1))),
 fun ρz wz hE hA _ ⟨u15, u21, u26, _⟩ => gIf rfl rfl (yFG rfl u15) fun gc F hF => core_val rfl hF (o_eql (gt gc u21) (gt gc u26) rfl),
 fun ρz wz hE hA _ ⟨u15, u27, _⟩ => gIf rfl rfl (yFG rfl u15) fun gc F hF => core_val rfl hF (o_move (gt gc u27)),
 fun ρz wz hE hA ⟨e0, _⟩ ⟨u28, _⟩ => gIf rfl rfl (yTG rfl u28) fun gc F hF => core_val rfl hF (o_move (e0.trans h0)),
 fun ρz wz hE hA ⟨e3, _⟩ ⟨u28, _⟩ => gIf rfl rfl (yTG rfl u28) fun gc F hF => core_val rfl hF (o_move (e3.trans h3)),
 fun ρz wz hE hA _ ⟨u28, u30, _⟩ => gIf rfl rfl (yTG rfl u28) fun gc F hF => core_val rfl hF (o_sub (gt gc u30) rfl rfl),
 fun ρz wz hE hA _ ⟨u28, u29, u31, _⟩ => gIf rfl rfl (yTG rfl u28) fun gc F hF => core_val rfl hF (o_indexAddr ((gt gc u29).trans (hvy9 gc)) (gt gc u31) (ia_26 (hiy9 gc))),
 fun ρz wz hE hA _ ⟨u28, u32, _⟩ => gIf rfl rfl (yTG rfl u28) fun gc F hF => core_val rfl hF (o_fieldAddr (gt gc u32) (fa_57_1 _ _)),
 fun ρz wz hE hA _ ⟨u28, u33, _⟩ => gIf rfl rfl (yTG rfl u28) fun gc F hF => core_val rfl hF (o_load (gt gc u33) (run_load1 (lr_3 _ _) (CA.sub (((hAy9 gc).exn (hA rfl)).ca) 1 1))),
 fun ρz wz hE hA ⟨e0, _⟩ ⟨u28, _⟩ => gIf rfl rfl (yTG rfl u28) fun gc F hF => core_val rfl hF (o_move (e0.trans h0)),
 fun ρz wz hE hA ⟨e3, _⟩ ⟨u28, _⟩ => gIf rfl rfl (yTG rfl u28) fun gc F hF => core_val rfl hF (o_move (e3.trans h3)),
 fun ρz wz hE hA _ ⟨u28, u35, u36, _⟩ => gIf rfl rfl (yTG rfl u28) fun gc F hF => core_val rfl hF (o_indexAddr ((gt gc u35).trans (hvy10 gc)) (gt gc u36) (ia_26 (hiy10 gc))),
 fun ρz wz hE hA _ ⟨u28, u37, _⟩ => gIf rfl rfl (yTG rfl u28) fun gc F hF => core_val rfl hF (o_fieldAddr (gt gc u37) (fa_57_1 _ _)),
 fun ρz wz hE hA _ ⟨u28, u38, _⟩ => gIf rfl rfl (yTG rfl u28) fun gc F hF => core_val rfl hF (o_load (gt gc u38) (run_load1 (lr_3 _ _) (CA.sub (((hAy10 gc).exn (hA rfl)).ca) 1 1))),
 fun ρz wz hE hA _ ⟨u28, u34, u39, _⟩ => gIf rfl rfl (yTG rfl u28) fun gc F hF => core_val rfl hF (o_geq (gt gc u34) (gt gc u39) rfl),
 fun ρz wz hE hA _ ⟨u15, u28, u40, _⟩ => gIf rfl rfl (yFG rfl u15) fun gc F hF => core_valE rfl hF (congrArg Value.bool (hc4 gc)) (o_pick_and (gt gc u28) (gr gc u40) rfl),
 fun ρz wz hE hA _ ⟨u2, u15, u41, _⟩ => gIf rfl rfl (yT rfl u2) fun gc F hF => core_valE rfl hF (congrArg Value.bool (hc5 gc)) (o_pick_or (gt gc u15) rfl (gr gc u41)),
 fun ρz wz hE hA _ ⟨u2, u42, _⟩ => core_valE rfl rfl (congrArg Value.bool hc6) (o_pick_and u2 u42 rfl), trivial⟩ ?_
    intro ρ10 w10 hN hf hr
    have h105 : ρ10 105 = .bool c6 := hf 43 rfl
    obtain ⟨h0, h3⟩ := k2 hr h0 h3 rfl
    have H_d_ := H_d_.exn hN
    have hW := hW.trans hN
    have hsz := hW.size
    refine WP.cond rfl h105 (fun hb => ?_) (fun hb => ?_)
    · have hF := (if_pos hb).symm.trans hF
      refine WP.seq ?_
      refine WP.rb mixed [[]] [[]] [(2, .int .i64 1)] (by kernel_rfl) ⟨fun ρz wz hE hA _ _ => core_val rfl rfl (o_assign rfl), trivial⟩ ?_
      intro ρ11 w11 hN hf hr
      have h2 : ρ11 2 = .int .i64 1 := hf 0 rfl
      have hW := hW.trans hN
      have hsz := hW.size
      refine WP.ret ?_
      show retQ Tryd.prog 106 Tryd.f20 (fun v w1 => v = .int .i64 r ∧ Ext noG w0 w1) .ret ρ11 w11
      obtain rfl := Option.some.inj hF
      exact res1 rfl (by decide) h2 ⟨rfl, hW⟩
    have hF := (if_neg (Bool.eq_false_iff.1 hb)).symm.trans hF
    refine WP.skip ?_
    refine WP.rv mixed [[], [0], [0, 1]] [[], [0], [1]] [[3], [], []] [(12, .int .i64 x), (13, .int .i64 (i64 (x + 1))), (3, .int .i64 (i64 (x + 1)))] (by kernel_rfl) ⟨fun ρz wz hE hA ⟨e3, _⟩ _ => core_val rfl rfl (o_move (e3.trans h3)),
 fun ρz wz hE hA _ ⟨u0, _⟩ => core_val rfl rfl (o_add u0 rfl rfl),
 fun ρz wz hE hA _ ⟨u1, _⟩ => core_val rfl rfl (o_assign u1), trivial⟩ ?_
    intro ρ12 w12 hN hf hr
    have h3 : ρ12 3 = .int .i64 (i64 (x + 1)) := hf 2 rfl
    have h0 := (hr 0 rfl).trans h0
    have H_d_ := H_d_.exn hN
    have hW := hW.trans hN
    have hsz := hW.size
    exact ⟨i64 (x + 1), h0, h3, H_d_, hW, hsz, (by first | exact hF | (rw [hrec_]; exact hF))⟩
  have hF := (if_neg (Bool.eq_false_iff.1 hb)).symm.trans hF
  refine WP.exit ?_
  refine thenQ_exit ?_
  refine thenQ_exit ?_
  refine blockQ_hit ?_
  refine WP.seq ?_
  refine WP.rb mixed [[]] [[]] [(2, .int .i64 0)] (by kernel_rfl) ⟨fun ρz wz hE hA _ _ => core_val rfl rfl (o_assign rfl), trivial⟩ ?_
  intro ρ13 w13 hN hf hr
  have h2 : ρ13 2 = .int .i64 0 := hf 0 rfl
  have hW := hW.trans hN
  have hsz := hW.size
  refine WP.ret ?_
  show retQ Tryd.prog 106 Tryd.f20 (fun v w1 => v = .int .i64 r ∧ Ext noG w0 w1) .ret ρ13 w13
  obtain rfl := Option.some.inj hF
  exact res1 rfl (by decide) h2 ⟨rfl, hW⟩

set_option maxHeartbeats 4000000 in
theorem pensionref21_okRates_ok {w0 : World} (t_ : List Rate) (month_ : Int) {v_t_ : Value} (H_t_ : RepSl Rate.R noG w0 v_t_ t_) {r : Bool} (hF : pensionref21_okRates t_ month_ = some r) :
    Calls Tryd.prog 35 #[v_t_, .int .i64 month_] w0 fun e w1 => e = .returned (.bool r) ∧ Ext noG w0 w1 := by
  refine (Calls.start (P := Tryd.prog) (args := [v_t_, .int .i64 month_]) (R := fun v w1 => v = .bool r ∧ Ext noG w0 w1) (n := 12) (w := w0) Tryd.func35 rfl rfl (Nat.le_of_ble_eq_true rfl) (fun ρ hargs => ?_)).mono (fun e w1 ⟨v, he, hv, hE⟩ => ⟨hv ▸ he, hE⟩)
  have h0 := hargs 0 _ rfl
  have h1 := hargs 1 _ rfl
  have hW := Ext.refl noG w0
  have hsz := Nat.le_refl w0.heap.size
  obtain ⟨_, _, hs_H_t_, _, _⟩ := RepSl.shape H_t_
  have H_t_ := H_t_.start
  rw [pensionref21_okRates] at hF
  refine WP.seq ?_
  refine WP.rb mixed [[]] [[]] [(4, .bool false)] (by kernel_rfl) ⟨fun ρz wz hE hA _ _ => core_val rfl rfl (o_assign rfl), trivial⟩ ?_
  intro ρ1 w1 hN hf hr
  obtain ⟨h0, h1⟩ := k2 hr h0 h1 rfl
  have H_t_ := H_t_.exn hN
  have hW := hW.trans hN
  have hsz := hW.size
  refine WP.seq ?_
  obtain ⟨z, hz, hF⟩ := obind hF
  obtain ⟨c, hc, hF⟩ := obind hF
  obtain ⟨z2, hz2, hc⟩ := andB hc
  have hc := andE hc
  refine WP.rb mixed [[], [0], [1], [2], [2, 3], [2, 4], [2, 5], [6]] [[1], [], [], [0], [], [], [], []] [(5, .int .i64 month_), (6, .bool z), (7, .bool z), (8, gv (z) v_t_), (9, gv (z) (.int .i64 z2)), (10, gv (z) (.bool (z2 == 0))), (11, .bool c), (4, .bool c)] (by kernel_rfl) ⟨fun ρz wz hE hA ⟨e1, _⟩ _ => core_val rfl rfl (o_move (e1.trans h1)),
 fun ρz wz hE hA _ ⟨u0, _⟩ => core_call rfl (call_args1 u0) cf_19 (pensionref1_ValidMonth_ok  _  hz),
 fun ρz wz hE hA _ ⟨u1, _⟩ => core_val rfl rfl (o_move u1),
 fun ρz wz hE hA ⟨e0, _⟩ ⟨u2, _⟩ => gIf rfl rfl (yT rfl u2) fun gc F hF => core_val rfl hF (o_move (e0.trans h0)),
 fun ρz wz hE hA _ ⟨u2, u3, _⟩ => gIf rfl rfl (yT rfl u2) fun gc F hF => core_call hF (call_args1 (gt gc u3)) cf_20 (pensionref1_CheckRates_ok  _ (H_t_.exn (hA rfl)).no (hz2 gc)),
 fun ρz wz hE hA _ ⟨u2, u4, _⟩ => gIf rfl rfl (yT rfl u2) fun gc F hF => core_val rfl hF (o_eql (gt gc u4) rfl rfl),
 fun ρz wz hE hA _ ⟨u2, u5, _⟩ => core_valE rfl rfl (congrArg Value.bool hc) (o_pick_and u2 u5 rfl),
 fun ρz wz hE hA _ ⟨u6, _⟩ => core_val rfl rfl (o_assign u6), trivial⟩ ?_
  intro ρ2 w2 hN hf hr
  have h4 : ρ2 4 = .bool c := hf 7 rfl
  have hW := hW.trans hN
  have hsz := hW.size
  refine WP.ret ?_
  show retQ Tryd.prog 12 Tryd.f35 (fun v w1 => v = .bool r ∧ Ext noG w0 w1) .ret ρ2 w2
  obtain rfl := Option.some.inj hF
  exact res1 rfl (by decide) h4 ⟨rfl, hW⟩

set_option maxHeartbeats 4000000 in
theorem money_amount_ok {w0 : World} (x_ : Int) {r : Bool} (hF : money_amount x_ = some r) :
    Calls Tryd.prog 56 #[.int .i64 x_] w0 fun e w1 => e = .returned (.bool r) ∧ Ext noG w0 w1 := by
  refine (Calls.start (P := Tryd.prog) (args := [.int .i64 x_]) (R := fun v w1 => v = .bool r ∧ Ext noG w0 w1) (n := 9) (w := w0) Tryd.func56 rfl rfl (Nat.le_of_ble_eq_true rfl) (fun ρ hargs => ?_)).mono (fun e w1 ⟨v, he, hv, hE⟩ => ⟨hv ▸ he, hE⟩)
  have h0 := hargs 0 _ rfl
  have hW := Ext.refl noG w0
  have hsz := Nat.le_refl w0.heap.size
  rw [money_amount] at hF
  refine WP.seq ?_
  refine WP.rb mixed [[]] [[]] [(2, .bool false)] (by kernel_rfl) ⟨fun ρz wz hE hA _ _ => core_val rfl rfl (o_assign rfl), trivial⟩ ?_
  intro ρ1 w1 hN hf hr
  have h0 := (hr 0 rfl).trans h0
  have hW := hW.trans hN
  have hsz := hW.size
  refine WP.seq ?_
  refine WP.rb mixed [[], [0], [1], [2], [2, 3], [2, 4], [5]] [[0], [], [], [0], [], [], []] [(3, .int .i64 x_), (4, .bool (decide ((-1000000000000) ≤ x_))), (5, .bool (decide ((-1000000000000) ≤ x_))), (6, gv (decide ((-1000000000000) ≤ x_)) (.int .i64 x_)), (7, gv (decide ((-1000000000000) ≤ x_)) (.bool (decide (x_ ≤ 1000000000000)))), (8, .bool (decide ((-1000000000000) ≤ x_) && decide (x_ ≤ 1000000000000))), (2, .bool (decide ((-1000000000000) ≤ x_) && decide (x_ ≤ 1000000000000)))] (by kernel_rfl) ⟨fun ρz wz hE hA ⟨e0, _⟩ _ => core_val rfl rfl (o_move (e0.trans h0)),
 fun ρz wz hE hA _ ⟨u0, _⟩ => core_val rfl rfl (o_geq u0 rfl rfl),
 fun ρz wz hE hA _ ⟨u1, _⟩ => core_val rfl rfl (o_move u1),
 fun ρz wz hE hA ⟨e0, _⟩ ⟨u2, _⟩ => gIf rfl rfl (yT rfl u2) fun gc F hF => core_val rfl hF (o_move (e0.trans h0)),
 fun ρz wz hE hA _ ⟨u2, u3, _⟩ => gIf rfl rfl (yT rfl u2) fun gc F hF => core_val rfl hF (o_leq (gt gc u3) rfl rfl),
 fun ρz wz hE hA _ ⟨u2, u4, _⟩ => core_val rfl rfl (o_pick_and u2 u4 rfl),
 fun ρz wz hE hA _ ⟨u5, _⟩ => core_val rfl rfl (o_assign u5), trivial⟩ ?_
  intro ρ2 w2 hN hf hr
  have h2 : ρ2 2 = .bool (decide ((-1000000000000) ≤ x_) && decide (x_ ≤ 1000000000000)) := hf 6 rfl
  have hW := hW.trans hN
  have hsz := hW.size
  refine WP.ret ?_
  show retQ Tryd.prog 9 Tryd.f56 (fun v w1 => v = .bool r ∧ Ext noG w0 w1) .ret ρ2 w2
  obtain rfl := Option.some.inj hF
  exact res1 rfl (by decide) h2 ⟨rfl, hW⟩

set_option maxHeartbeats 4000000 in
theorem money_ValidRounding_ok {w0 : World} (r_ : Rounding) {r : Bool} (hF : money_ValidRounding r_ = some r) :
    Calls Tryd.prog 57 #[Rounding.val r_] w0 fun e w1 => e = .returned (.bool r) ∧ Ext noG w0 w1 := by
  refine (Calls.start (P := Tryd.prog) (args := [Rounding.val r_]) (R := fun v w1 => v = .bool r ∧ Ext noG w0 w1) (n := 18) (w := w0) Tryd.func57 rfl rfl (Nat.le_of_ble_eq_true rfl) (fun ρ hargs => ?_)).mono (fun e w1 ⟨v, he, hv, hE⟩ => ⟨hv ▸ he, hE⟩)
  have h0 := hargs 0 _ rfl
  have hW := Ext.refl noG w0
  have hsz := Nat.le_refl w0.heap.size
  rw [money_ValidRounding] at hF
  refine WP.seq ?_
  refine WP.rg mixed [[], []] [[], []] [[0], []] [(1, fun u wz => ∃ b, u = .pointer (some ⟨b, 0, none⟩) ∧ w0.heap.size ≤ b ∧ Mb wz b 72 (Rounding.cells r_)), val 2 (.bool false)] (by kernel_rfl) ⟨fun _ _ _ hE ⟨b, hb, hs, hM⟩ => ⟨b, hb, hs, hM.exn hE⟩, sV, trivial⟩ ⟨fun ρz wz hE hA ⟨e0, _⟩ _ => core_new rfl rfl hE (o_box (e0.trans h0) (bx_72 _ _)),
 fun ρz wz hE hA _ _ => core_val rfl rfl (o_assign rfl), trivial⟩ ?_
  intro ρ1 w1 hN hf hr
  obtain ⟨b1_, h1, hge_b1_, Hb_b1_⟩ := hf 0 rfl
  have hW := hW.trans hN
  have hB_b1_ : w0.heap.size ≤ b1_ := Nat.le_trans hsz hge_b1_
  have hsz := hW.size
  refine WP.seq ?_
  refine WP.seq ?_
  refine WP.rb mixed [[], [0]] [[1], []] [(3, .pointer (some ((⟨b1_, 0, none⟩ : Addr).add 0))), (4, .int .i64 r_.Mode)] (by kernel_rfl) ⟨fun ρz wz hE hA ⟨e1, _⟩ _ => core_val rfl rfl (o_fieldAddr (e1.trans h1) (fa_72_0 _ _)),
 fun ρz wz hE hA _ ⟨u0, _⟩ => core_val rfl rfl (o_load u0 (run_load1 (lr_3 _ _) (CA.sub ((Hb_b1_.exn (hA rfl)).ca) 0 1))), trivial⟩ ?_
  intro ρ2 w2 hN hf hr
  have h4 : ρ2 4 = .int .i64 r_.Mode := hf 1 rfl
  have h1 := (hr 1 rfl).trans h1
  have Hb_b1_n := Hb_b1_.exn hN
  have hW := hW.trans hN
  have Hb_b1_ := Hb_b1_n
  have hsz := hW.size
  refine WP.block ?_
  refine WP.seqJ (fun ρ w => ∃ x : Bool, ρ 1 = .pointer (some ⟨b1_, 0, none⟩) ∧ ρ 5 = .bool x ∧ Mb w b1_ 72 (Rounding.cells r_) ∧ Ext noG w0 w ∧ w0.heap.size ≤ w.heap.size ∧ money_ValidRounding_j r_ x = some r) ?_ ?_
  · refine WP.seq ?_
    refine WP.rb mixed [[], [0]] [[4], []] [(6, .bool (r_.Mode == 1)), (5, .bool (r_.Mode == 1))] (by kernel_rfl) ⟨fun ρz wz hE hA ⟨e4, _⟩ _ => core_val rfl rfl (o_eql (e4.trans h4) rfl rfl),
 fun ρz wz hE hA _ ⟨u0, _⟩ => core_val rfl rfl (o_assign u0), trivial⟩ ?_
    intro ρ6 w6 hN hf hr
    have h5 : ρ6 5 = .bool (r_.Mode == 1) := hf 1 rfl
    obtain ⟨h1, h4⟩ := k2 hr h1 h4 rfl
    have Hb_b1_n := Hb_b1_.exn hN
    have hW := hW.trans hN
    have Hb_b1_ := Hb_b1_n
    have hsz := hW.size
    refine WP.cond rfl h5 (fun hb => ?_) (fun hb => ?_)
    · have hF := (if_pos hb).symm.trans hF
      refine WP.skip ?_
      exact ⟨(r_.Mode == 1), h1, h5, Hb_b1_, hW, hsz, hF⟩
    have hF := (if_neg (Bool.eq_false_iff.1 hb)).symm.trans hF
    refine WP.seq ?_
    refine WP.rb mixed [[], [0]] [[4], []] [(7, .bool (r_.Mode == 2)), (5, .bool (r_.Mode == 2))] (by kernel_rfl) ⟨fun ρz wz hE hA ⟨e4, _⟩ _ => core_val rfl rfl (o_eql (e4.trans h4) rfl rfl),
 fun ρz wz hE hA _ ⟨u0, _⟩ => core_val rfl rfl (o_assign u0), trivial⟩ ?_
    intro ρ7 w7 hN hf hr
    have h5 : ρ7 5 = .bool (r_.Mode == 2) := hf 1 rfl
    obtain ⟨h1, h4⟩ := k2 hr h1 h4 rfl
    have Hb_b1_n := Hb_b1_.exn hN
    have hW := hW.trans hN
    have Hb_b1_ := Hb_b1_n
    have hsz := hW.size
    refine WP.cond rfl h5 (fun hb => ?_) (fun hb => ?_)
    · have hF := (if_pos hb).symm.trans hF
      refine WP.skip ?_
      exact ⟨(r_.Mode == 2), h1, h5, Hb_b1_, hW, hsz, hF⟩
    have hF := (if_neg (Bool.eq_false_iff.1 hb)).symm.trans hF
    refine WP.seq ?_
    refine WP.rb mixed [[], [0]] [[4], []] [(8, .bool (r_.Mode == 3)), (5, .bool (r_.Mode == 3))] (by kernel_rfl) ⟨fun ρz wz hE hA ⟨e4, _⟩ _ => core_val rfl rfl (o_eql (e4.trans h4) rfl rfl),
 fun ρz wz hE hA _ ⟨u0, _⟩ => core_val rfl rfl (o_assign u0), trivial⟩ ?_
    intro ρ8 w8 hN hf hr
    have h5 : ρ8 5 = .bool (r_.Mode == 3) := hf 1 rfl
    obtain ⟨h1, h4⟩ := k2 hr h1 h4 rfl
    have Hb_b1_n := Hb_b1_.exn hN
    have hW := hW.trans hN
    have Hb_b1_ := Hb_b1_n
    have hsz := hW.size
    refine WP.cond rfl h5 (fun hb => ?_) (fun hb => ?_)
    · have hF := (if_pos hb).symm.trans hF
      refine WP.skip ?_
      exact ⟨(r_.Mode == 3), h1, h5, Hb_b1_, hW, hsz, hF⟩
    have hF := (if_neg (Bool.eq_false_iff.1 hb)).symm.trans hF
    refine WP.rb mixed [[], [0]] [[4], []] [(9, .bool (r_.Mode == 4)), (5, .bool (r_.Mode == 4))] (by kernel_rfl) ⟨fun ρz wz hE hA ⟨e4, _⟩ _ => core_val rfl rfl (o_eql (e4.trans h4) rfl rfl),
 fun ρz wz hE hA _ ⟨u0, _⟩ => core_val rfl rfl (o_assign u0), trivial⟩ ?_
    intro ρ9 w9 hN hf hr
    have h5 : ρ9 5 = .bool (r_.Mode == 4) := hf 1 rfl
    have h1 := (hr 1 rfl).trans h1
    have Hb_b1_n := Hb_b1_.exn hN
    have hW := hW.trans hN
    have Hb_b1_ := Hb_b1_n
    have hsz := hW.size
    exact ⟨(r_.Mode == 4), h1, h5, Hb_b1_, hW, hsz, hF⟩
  rintro ρ3 w3 ⟨x, h1, h5, Hb_b1_, hW, hsz, hF⟩
  rw [money_ValidRounding_j] at hF
  refine WP.cond rfl h5 (fun hb => ?_) (fun hb => ?_)
  · have hF := (if_pos hb).symm.trans hF
    refine WP.seq ?_
    refine WP.rb mixed [[], [0], [1], [2], [3], [3, 4], [3, 5], [3, 6], [7]] [[1], [], [], [], [1], [], [], [], []] [(10, .pointer (some ((⟨b1_, 0, none⟩ : Addr).add 1))), (11, .int .i64 r_.Unit), (12, .bool (decide (1 ≤ r_.Unit))), (13, .bool (decide (1 ≤ r_.Unit))), (14, gv (decide (1 ≤ r_.Unit)) (.pointer (some ((⟨b1_, 0, none⟩ : Addr).add 1)))), (15, gv (decide (1 ≤ r_.Unit)) (.int .i64 r_.Unit)), (16, gv (decide (1 ≤ r_.Unit)) (.bool (decide (r_.Unit ≤ 100000)))), (17, .bool (decide (1 ≤ r_.Unit) && decide (r_.Unit ≤ 100000))), (2, .bool (decide (1 ≤ r_.Unit) && decide (r_.Unit ≤ 100000)))] (by kernel_rfl) ⟨fun ρz wz hE hA ⟨e1, _⟩ _ => core_val rfl rfl (o_fieldAddr (e1.trans h1) (fa_72_1 _ _)),
 fun ρz wz hE hA _ ⟨u0, _⟩ => core_val rfl rfl (o_load u0 (run_load1 (lr_3 _ _) (CA.sub ((Hb_b1_.exn (hA rfl)).ca) 1 1))),
 fun ρz wz hE hA _ ⟨u1, _⟩ => core_val rfl rfl (o_geq u1 rfl rfl),
 fun ρz wz hE hA _ ⟨u2, _⟩ => core_val rfl rfl (o_move u2),
 fun ρz wz hE hA ⟨e1, _⟩ ⟨u3, _⟩ => gIf rfl rfl (yT rfl u3) fun gc F hF => core_val rfl hF (o_fieldAddr (e1.trans h1) (fa_72_1 _ _)),
 fun ρz wz hE hA _ ⟨u3, u4, _⟩ => gIf rfl rfl (yT rfl u3) fun gc F hF => core_val rfl hF (o_load (gt gc u4) (run_load1 (lr_3 _ _) (CA.sub ((Hb_b1_.exn (hA rfl)).ca) 1 1))),
 fun ρz wz hE hA _ ⟨u3, u5, _⟩ => gIf rfl rfl (yT rfl u3) fun gc F hF => core_val rfl hF (o_leq (gt gc u5) rfl rfl),
 fun ρz wz hE hA _ ⟨u3, u6, _⟩ => core_val rfl rfl (o_pick_and u3 u6 rfl),
 fun ρz wz hE hA _ ⟨u7, _⟩ => core_val rfl rfl (o_assign u7), trivial⟩ ?_
    intro ρ4 w4 hN hf hr
    have h2 : ρ4 2 = .bool (decide (1 ≤ r_.Unit) && decide (r_.Unit ≤ 100000)) := hf 8 rfl
    have hW := hW.trans hN
    have hsz := hW.size
    refine WP.ret ?_
    show retQ Tryd.prog 18 Tryd.f57 (fun v w1 => v = .bool r ∧ Ext noG w0 w1) .ret ρ4 w4
    obtain rfl := Option.some.inj hF
    exact res1 rfl (by decide) h2 ⟨rfl, hW⟩
  have hF := (if_neg (Bool.eq_false_iff.1 hb)).symm.trans hF
  refine WP.skip ?_
  refine WP.seq ?_
  refine WP.rb mixed [[]] [[]] [(2, .bool false)] (by kernel_rfl) ⟨fun ρz wz hE hA _ _ => core_val rfl rfl (o_assign rfl), trivial⟩ ?_
  intro ρ5 w5 hN hf hr
  have h2 : ρ5 2 = .bool false := hf 0 rfl
  have hW := hW.trans hN
  have hsz := hW.size
  refine WP.ret ?_
  show retQ Tryd.prog 18 Tryd.f57 (fun v w1 => v = .bool r ∧ Ext noG w0 w1) .ret ρ5 w5
  obtain rfl := Option.some.inj hF
  exact res1 rfl (by decide) h2 ⟨rfl, hW⟩

set_option maxHeartbeats 4000000 in
theorem pensionref1_ValidAmount_ok {w0 : World} (n_ : Int) {r : Bool} (hF : pensionref1_ValidAmount n_ = some r) :
    Calls Tryd.prog 60 #[.int .i64 n_] w0 fun e w1 => e = .returned (.bool r) ∧ Ext noG w0 w1 := by
  refine (Calls.start (P := Tryd.prog) (args := [.int .i64 n_]) (R := fun v w1 => v = .bool r ∧ Ext noG w0 w1) (n := 9) (w := w0) Tryd.func60 rfl rfl (Nat.le_of_ble_eq_true rfl) (fun ρ hargs => ?_)).mono (fun e w1 ⟨v, he, hv, hE⟩ => ⟨hv ▸ he, hE⟩)
  have h0 := hargs 0 _ rfl
  have hW := Ext.refl noG w0
  have hsz := Nat.le_refl w0.heap.size
  rw [pensionref1_ValidAmount] at hF
  refine WP.seq ?_
  refine WP.rb mixed [[]] [[]] [(2, .bool false)] (by kernel_rfl) ⟨fun ρz wz hE hA _ _ => core_val rfl rfl (o_assign rfl), trivial⟩ ?_
  intro ρ1 w1 hN hf hr
  have h0 := (hr 0 rfl).trans h0
  have hW := hW.trans hN
  have hsz := hW.size
  refine WP.seq ?_
  refine WP.rb mixed [[], [0], [1], [2], [2, 3], [2, 4], [5]] [[0], [], [], [0], [], [], []] [(3, .int .i64 n_), (4, .bool (decide ((-1000000000000) ≤ n_))), (5, .bool (decide ((-1000000000000) ≤ n_))), (6, gv (decide ((-1000000000000) ≤ n_)) (.int .i64 n_)), (7, gv (decide ((-1000000000000) ≤ n_)) (.bool (decide (n_ ≤ 1000000000000)))), (8, .bool (decide ((-1000000000000) ≤ n_) && decide (n_ ≤ 1000000000000))), (2, .bool (decide ((-1000000000000) ≤ n_) && decide (n_ ≤ 1000000000000)))] (by kernel_rfl) ⟨fun ρz wz hE hA ⟨e0, _⟩ _ => core_val rfl rfl (o_move (e0.trans h0)),
 fun ρz wz hE hA _ ⟨u0, _⟩ => core_val rfl rfl (o_geq u0 rfl rfl),
 fun ρz wz hE hA _ ⟨u1, _⟩ => core_val rfl rfl (o_move u1),
 fun ρz wz hE hA ⟨e0, _⟩ ⟨u2, _⟩ => gIf rfl rfl (yT rfl u2) fun gc F hF => core_val rfl hF (o_move (e0.trans h0)),
 fun ρz wz hE hA _ ⟨u2, u3, _⟩ => gIf rfl rfl (yT rfl u2) fun gc F hF => core_val rfl hF (o_leq (gt gc u3) rfl rfl),
 fun ρz wz hE hA _ ⟨u2, u4, _⟩ => core_val rfl rfl (o_pick_and u2 u4 rfl),
 fun ρz wz hE hA _ ⟨u5, _⟩ => core_val rfl rfl (o_assign u5), trivial⟩ ?_
  intro ρ2 w2 hN hf hr
  have h2 : ρ2 2 = .bool (decide ((-1000000000000) ≤ n_) && decide (n_ ≤ 1000000000000)) := hf 6 rfl
  have hW := hW.trans hN
  have hsz := hW.size
  refine WP.ret ?_
  show retQ Tryd.prog 9 Tryd.f60 (fun v w1 => v = .bool r ∧ Ext noG w0 w1) .ret ρ2 w2
  obtain rfl := Option.some.inj hF
  exact res1 rfl (by decide) h2 ⟨rfl, hW⟩

set_option maxHeartbeats 4000000 in
theorem pensionref1_validCurrency_ok {w0 : World} (c_ : Int) {r : Bool} (hF : pensionref1_validCurrency c_ = some r) :
    Calls Tryd.prog 61 #[.int .i64 c_] w0 fun e w1 => e = .returned (.bool r) ∧ Ext noG w0 w1 := by
  refine (Calls.start (P := Tryd.prog) (args := [.int .i64 c_]) (R := fun v w1 => v = .bool r ∧ Ext noG w0 w1) (n := 9) (w := w0) Tryd.func61 rfl rfl (Nat.le_of_ble_eq_true rfl) (fun ρ hargs => ?_)).mono (fun e w1 ⟨v, he, hv, hE⟩ => ⟨hv ▸ he, hE⟩)
  have h0 := hargs 0 _ rfl
  have hW := Ext.refl noG w0
  have hsz := Nat.le_refl w0.heap.size
  rw [pensionref1_validCurrency] at hF
  refine WP.seq ?_
  refine WP.rb mixed [[]] [[]] [(2, .bool false)] (by kernel_rfl) ⟨fun ρz wz hE hA _ _ => core_val rfl rfl (o_assign rfl), trivial⟩ ?_
  intro ρ1 w1 hN hf hr
  have h0 := (hr 0 rfl).trans h0
  have hW := hW.trans hN
  have hsz := hW.size
  refine WP.seq ?_
  refine WP.rb mixed [[], [0], [1], [2], [2, 3], [2, 4], [5]] [[0], [], [], [0], [], [], []] [(3, .int .i64 c_), (4, .bool (decide (1 ≤ c_))), (5, .bool (decide (1 ≤ c_))), (6, gv (decide (1 ≤ c_)) (.int .i64 c_)), (7, gv (decide (1 ≤ c_)) (.bool (decide (c_ ≤ 999)))), (8, .bool (decide (1 ≤ c_) && decide (c_ ≤ 999))), (2, .bool (decide (1 ≤ c_) && decide (c_ ≤ 999)))] (by kernel_rfl) ⟨fun ρz wz hE hA ⟨e0, _⟩ _ => core_val rfl rfl (o_move (e0.trans h0)),
 fun ρz wz hE hA _ ⟨u0, _⟩ => core_val rfl rfl (o_geq u0 rfl rfl),
 fun ρz wz hE hA _ ⟨u1, _⟩ => core_val rfl rfl (o_move u1),
 fun ρz wz hE hA ⟨e0, _⟩ ⟨u2, _⟩ => gIf rfl rfl (yT rfl u2) fun gc F hF => core_val rfl hF (o_move (e0.trans h0)),
 fun ρz wz hE hA _ ⟨u2, u3, _⟩ => gIf rfl rfl (yT rfl u2) fun gc F hF => core_val rfl hF (o_leq (gt gc u3) rfl rfl),
 fun ρz wz hE hA _ ⟨u2, u4, _⟩ => core_val rfl rfl (o_pick_and u2 u4 rfl),
 fun ρz wz hE hA _ ⟨u5, _⟩ => core_val rfl rfl (o_assign u5), trivial⟩ ?_
  intro ρ2 w2 hN hf hr
  have h2 : ρ2 2 = .bool (decide (1 ≤ c_) && decide (c_ ≤ 999)) := hf 6 rfl
  have hW := hW.trans hN
  have hsz := hW.size
  refine WP.ret ?_
  show retQ Tryd.prog 9 Tryd.f61 (fun v w1 => v = .bool r ∧ Ext noG w0 w1) .ret ρ2 w2
  obtain rfl := Option.some.inj hF
  exact res1 rfl (by decide) h2 ⟨rfl, hW⟩

set_option maxHeartbeats 4000000 in
theorem pensionref1_ValidRounding_ok {w0 : World} (r_ : Rounding) {r : Bool} (hF : pensionref1_ValidRounding r_ = some r) :
    Calls Tryd.prog 62 #[Rounding.val r_] w0 fun e w1 => e = .returned (.bool r) ∧ Ext noG w0 w1 := by
  refine (Calls.start (P := Tryd.prog) (args := [Rounding.val r_]) (R := fun v w1 => v = .bool r ∧ Ext noG w0 w1) (n := 21) (w := w0) Tryd.func62 rfl rfl (Nat.le_of_ble_eq_true rfl) (fun ρ hargs => ?_)).mono (fun e w1 ⟨v, he, hv, hE⟩ => ⟨hv ▸ he, hE⟩)
  have h0 := hargs 0 _ rfl
  have hW := Ext.refl noG w0
  have hsz := Nat.le_refl w0.heap.size
  rw [pensionref1_ValidRounding] at hF
  refine WP.seq ?_
  refine WP.rg mixed [[], []] [[], []] [[0], []] [(1, fun u wz => ∃ b, u = .pointer (some ⟨b, 0, none⟩) ∧ w0.heap.size ≤ b ∧ Mb wz b 72 (Rounding.cells r_)), val 2 (.bool false)] (by kernel_rfl) ⟨fun _ _ _ hE ⟨b, hb, hs, hM⟩ => ⟨b, hb, hs, hM.exn hE⟩, sV, trivial⟩ ⟨fun ρz wz hE hA ⟨e0, _⟩ _ => core_new rfl rfl hE (o_box (e0.trans h0) (bx_72 _ _)),
 fun ρz wz hE hA _ _ => core_val rfl rfl (o_assign rfl), trivial⟩ ?_
  intro ρ1 w1 hN hf hr
  obtain ⟨b1_, h1, hge_b1_, Hb_b1_⟩ := hf 0 rfl
  have hW := hW.trans hN
  have hB_b1_ : w0.heap.size ≤ b1_ := Nat.le_trans hsz hge_b1_
  have hsz := hW.size
  refine WP.seq ?_
  refine WP.rb mixed [[], [0], [1], [2], [3], [3, 4], [3, 5], [3, 6], [7], [8], [8, 9], [8, 10], [8, 11], [12], [13], [13, 14], [13, 15], [13, 16], [17]] [[1], [], [], [], [1], [], [], [], [], [1], [], [], [], [], [1], [], [], [], []] [(3, .pointer (some ((⟨b1_, 0, none⟩ : Addr).add 0))), (4, .int .i64 r_.Mode), (5, .bool (decide (1 ≤ r_.Mode))), (6, .bool (decide (1 ≤ r_.Mode))), (7, gv (decide (1 ≤ r_.Mode)) (.pointer (some ((⟨b1_, 0, none⟩ : Addr).add 0)))), (8, gv (decide (1 ≤ r_.Mode)) (.int .i64 r_.Mode)), (9, gv (decide (1 ≤ r_.Mode)) (.bool (decide (r_.Mode ≤ 4)))), (10, .bool (decide (1 ≤ r_.Mode) && decide (r_.Mode ≤ 4))), (11, .bool (decide (1 ≤ r_.Mode) && decide (r_.Mode ≤ 4))), (12, gv ((decide (1 ≤ r_.Mode) && decide (r_.Mode ≤ 4))) (.pointer (some ((⟨b1_, 0, none⟩ : Addr).add 1)))), (13, gv ((decide (1 ≤ r_.Mode) && decide (r_.Mode ≤ 4))) (.int .i64 r_.Unit)), (14, gv ((decide (1 ≤ r_.Mode) && decide (r_.Mode ≤ 4))) (.bool (decide (1 ≤ r_.Unit)))), (15, .bool ((decide (1 ≤ r_.Mode) && decide (r_.Mode ≤ 4)) && decide (1 ≤ r_.Unit))), (16, .bool ((decide (1 ≤ r_.Mode) && decide (r_.Mode ≤ 4)) && decide (1 ≤ r_.Unit))), (17, gv (((decide (1 ≤ r_.Mode) && decide (r_.Mode ≤ 4)) && decide (1 ≤ r_.Unit))) (.pointer (some ((⟨b1_, 0, none⟩ : Addr).add 1)))), (18, gv (((decide (1 ≤ r_.Mode) && decide (r_.Mode ≤ 4)) && decide (1 ≤ r_.Unit))) (.int .i64 r_.Unit)), (19, gv (((decide (1 ≤ r_.Mode) && decide (r_.Mode ≤ 4)) && decide (1 ≤ r_.Unit))) (.bool (decide (r_.Unit ≤ 100000)))), (20, .bool (((decide (1 ≤ r_.Mode) && decide (r_.Mode ≤ 4)) && decide (1 ≤ r_.Unit)) && decide (r_.Unit ≤ 100000))), (2, .bool (((decide (1 ≤ r_.Mode) && decide (r_.Mode ≤ 4)) && decide (1 ≤ r_.Unit)) && decide (r_.Unit ≤ 100000)))] (by kernel_rfl) ⟨fun ρz wz hE hA ⟨e1, _⟩ _ => core_val rfl rfl (o_fieldAddr (e1.trans h1) (fa_72_0 _ _)),
 fun ρz wz hE hA _ ⟨u0, _⟩ => core_val rfl rfl (o_load u0 (run_load1 (lr_3 _ _) (CA.sub ((Hb_b1_.exn (hA rfl)).ca) 0 1))),
 fun ρz wz hE hA _ ⟨u1, _⟩ => core_val rfl rfl (o_geq u1 rfl rfl),
 fun ρz wz hE hA _ ⟨u2, _⟩ => core_val rfl rfl (o_move u2),
 fun ρz wz hE hA ⟨e1, _⟩ ⟨u3, _⟩ => gIf rfl rfl (yT rfl u3) fun gc F hF => core_val rfl hF (o_fieldAddr (e1.trans h1) (fa_72_0 _ _)),
 fun ρz wz hE hA _ ⟨u3, u4, _⟩ => gIf rfl rfl (yT rfl u3) fun gc F hF => core_val rfl hF (o_load (gt gc u4) (run_load1 (lr_3 _ _) (CA.sub ((Hb_b1_.exn (hA rfl)).ca) 0 1))),
 fun ρz wz hE hA _ ⟨u3, u5, _⟩ => gIf rfl rfl (yT rfl u3) fun gc F hF => core_val rfl hF (o_leq (gt gc u5) rfl rfl),
 fun ρz wz hE hA _ ⟨u3, u6, _⟩ => core_val rfl rfl (o_pick_and u3 u6 rfl),
 fun ρz wz hE hA _ ⟨u7, _⟩ => core_val rfl rfl (o_move u7),
 fun ρz wz hE hA ⟨e1, _⟩ ⟨u8, _⟩ => gIf rfl rfl (yT rfl u8) fun gc F hF => core_val rfl hF (o_fieldAddr (e1.trans h1) (fa_72_1 _ _)),
 fun ρz wz hE hA _ ⟨u8, u9, _⟩ => gIf rfl rfl (yT rfl u8) fun gc F hF => core_val rfl hF (o_load (gt gc u9) (run_load1 (lr_3 _ _) (CA.sub ((Hb_b1_.exn (hA rfl)).ca) 1 1))),
 fun ρz wz hE hA _ ⟨u8, u10, _⟩ => gIf rfl rfl (yT rfl u8) fun gc F hF => core_val rfl hF (o_geq (gt gc u10) rfl rfl),
 fun ρz wz hE hA _ ⟨u8, u11, _⟩ => core_val rfl rfl (o_pick_and u8 u11 rfl),
 fun ρz wz hE hA _ ⟨u12, _⟩ => core_val rfl rfl (o_move u12),
 fun ρz wz hE hA ⟨e1, _⟩ ⟨u13, _⟩ => gIf rfl rfl (yT rfl u13) fun gc F hF => core_val rfl hF (o_fieldAddr (e1.trans h1) (fa_72_1 _ _)),
 fun ρz wz hE hA _ ⟨u13, u14, _⟩ => gIf rfl rfl (yT rfl u13) fun gc F hF => core_val rfl hF (o_load (gt gc u14) (run_load1 (lr_3 _ _) (CA.sub ((Hb_b1_.exn (hA rfl)).ca) 1 1))),
 fun ρz wz hE hA _ ⟨u13, u15, _⟩ => gIf rfl rfl (yT rfl u13) fun gc F hF => core_val rfl hF (o_leq (gt gc u15) rfl rfl),
 fun ρz wz hE hA _ ⟨u13, u16, _⟩ => core_val rfl rfl (o_pick_and u13 u16 rfl),
 fun ρz wz hE hA _ ⟨u17, _⟩ => core_val rfl rfl (o_assign u17), trivial⟩ ?_
  intro ρ2 w2 hN hf hr
  have h2 : ρ2 2 = .bool (((decide (1 ≤ r_.Mode) && decide (r_.Mode ≤ 4)) && decide (1 ≤ r_.Unit)) && decide (r_.Unit ≤ 100000)) := hf 18 rfl
  have hW := hW.trans hN
  have hsz := hW.size
  refine WP.ret ?_
  show retQ Tryd.prog 21 Tryd.f62 (fun v w1 => v = .bool r ∧ Ext noG w0 w1) .ret ρ2 w2
  obtain rfl := Option.some.inj hF
  exact res1 rfl (by decide) h2 ⟨rfl, hW⟩

set_option maxHeartbeats 4000000 in
theorem pensionref21_ValidRights_ok {w0 : World} (d_ : List Right) {v_d_ : Value} (H_d_ : RepSl Right.R noG w0 v_d_ d_) {r : Bool} (hF : pensionref21_ValidRights d_ = some r) :
    Calls Tryd.prog 18 #[v_d_] w0 fun e w1 => e = .returned (.bool r) ∧ Ext noG w0 w1 := by
  refine (Calls.start (P := Tryd.prog) (args := [v_d_]) (R := fun v w1 => v = .bool r ∧ Ext noG w0 w1) (n := 70) (w := w0) Tryd.func18 rfl rfl (Nat.le_of_ble_eq_true rfl) (fun ρ hargs => ?_)).mono (fun e w1 ⟨v, he, hv, hE⟩ => ⟨hv ▸ he, hE⟩)
  have h0 := hargs 0 _ rfl
  have hW := Ext.refl noG w0
  have hsz := Nat.le_refl w0.heap.size
  obtain ⟨_, _, hs_H_d_, _, _⟩ := RepSl.shape H_d_
  have H_d_ := H_d_.start
  rw [pensionref21_ValidRights] at hF
  refine WP.seq ?_
  refine WP.rb mixed [[]] [[]] [(2, .bool false)] (by kernel_rfl) ⟨fun ρz wz hE hA _ _ => core_val rfl rfl (o_assign rfl), trivial⟩ ?_
  intro ρ1 w1 hN hf hr
  have h0 := (hr 0 rfl).trans h0
  have H_d_ := H_d_.exn hN
  have hW := hW.trans hN
  have hsz := hW.size
  refine WP.seq ?_
  refine WP.seq ?_
  refine WP.rb mixed [[], [0], [1]] [[0], [], []] [(6, v_d_), (7, .int .i64 (d_.length : Int)), (8, .bool (decide (6 < (d_.length : Int))))] (by kernel_rfl) ⟨fun ρz wz hE hA ⟨e0, _⟩ _ => core_val rfl rfl (o_move (e0.trans h0)),
 fun ρz wz hE hA _ ⟨u0, _⟩ => core_val rfl rfl (o_len (u0.trans hs_H_d_) len_24),
 fun ρz wz hE hA _ ⟨u1, _⟩ => core_val rfl rfl (o_gtr u1 rfl rfl), trivial⟩ ?_
  intro ρ2 w2 hN hf hr
  have h8 : ρ2 8 = .bool (decide (6 < (d_.length : Int))) := hf 2 rfl
  have h0 := (hr 0 rfl).trans h0
  have H_d_ := H_d_.exn hN
  have hW := hW.trans hN
  have hsz := hW.size
  refine WP.cond rfl h8 (fun hb => ?_) (fun hb => ?_)
  · have hF := (if_pos hb).symm.trans hF
    refine WP.seq ?_
    refine WP.rb mixed [[]] [[]] [(2, .bool false)] (by kernel_rfl) ⟨fun ρz wz hE hA _ _ => core_val rfl rfl (o_assign rfl), trivial⟩ ?_
    intro ρ3 w3 hN hf hr
    have h2 : ρ3 2 = .bool false := hf 0 rfl
    have hW := hW.trans hN
    have hsz := hW.size
    refine WP.ret ?_
    show retQ Tryd.prog 70 Tryd.f18 (fun v w1 => v = .bool r ∧ Ext noG w0 w1) .ret ρ3 w3
    obtain rfl := Option.some.inj hF
    exact res1 rfl (by decide) h2 ⟨rfl, hW⟩
  have hF := (if_neg (Bool.eq_false_iff.1 hb)).symm.trans hF
  refine WP.skip ?_
  refine WP.seq ?_
  refine WP.seq ?_
  refine WP.rb mixed [[]] [[]] [(3, .int .i64 0)] (by kernel_rfl) ⟨fun ρz wz hE hA _ _ => core_val rfl rfl (o_assign rfl), trivial⟩ ?_
  intro ρ4 w4 hN hf hr
  have h3 : ρ4 3 = .int .i64 0 := hf 0 rfl
  have h0 := (hr 0 rfl).trans h0
  have H_d_ := H_d_.exn hN
  have hW := hW.trans hN
  have hsz := hW.size
  refine WP.block ?_
  refine WP.loop (fun k_ ρ w => ∃ x : Int, ρ 0 = v_d_ ∧ ρ 3 = .int .i64 x ∧ RepSl Right.R (gfr noG w0) w v_d_ d_ ∧ Ext noG w0 w ∧ w0.heap.size ≤ w.heap.size ∧ loopC k_ (pensionref21_ValidRights_l d_) x = some r) FU ⟨0, h0, h3, H_d_, hW, hsz, hF⟩ (fun _ _ h => by obtain ⟨_, _, _, _, _, _, h⟩ := h; cases h) ?_
  rintro k_ ρ5 w5 ⟨x, h0, h3, H_d_, hW, hsz, hF⟩
  have hF : pensionref21_ValidRights_l d_ (loopC k_ (pensionref21_ValidRights_l d_)) x = some r := hF
  generalize hrec_ : loopC k_ (pensionref21_ValidRights_l d_) = rec_ at hF
  rw [pensionref21_ValidRights_l] at hF
  refine WP.seq ?_
  refine WP.seq ?_
  refine WP.rb mixed [[], [], [1], [0, 2]] [[3], [0], [], []] [(9, .int .i64 x), (10, v_d_), (11, .int .i64 (d_.length : Int)), (12, .bool (decide (x < (d_.length : Int))))] (by kernel_rfl) ⟨fun ρz wz hE hA ⟨e3, _⟩ _ => core_val rfl rfl (o_move (e3.trans h3)),
 fun ρz wz hE hA ⟨e0, _⟩ _ => core_val rfl rfl (o_move (e0.trans h0)),
 fun ρz wz hE hA _ ⟨u1, _⟩ => core_val rfl rfl (o_len (u1.trans hs_H_d_) len_24),
 fun ρz wz hE hA _ ⟨u0, u2, _⟩ => core_val rfl rfl (o_lss u0 u2 rfl), trivial⟩ ?_
  intro ρ6 w6 hN hf hr
  have h12 : ρ6 12 = .bool (decide (x < (d_.length : Int))) := hf 3 rfl
  obtain ⟨h0, h3⟩ := k2 hr h0 h3 rfl
  have H_d_ := H_d_.exn hN
  have hW := hW.trans hN
  have hsz := hW.size
  refine WP.cond rfl h12 (fun hb => ?_) (fun hb => ?_)
  · have hF := (if_pos hb).symm.trans hF
    refine WP.skip ?_
    refine WP.seq ?_
    refine WP.block ?_
    refine WP.seq ?_
    obtain ⟨y, hy, hF⟩ := obind hF
    obtain ⟨ay, cy, hvy, hiy, hAy⟩ := RepSl.getF H_d_ hy
    refine WP.region mixed [[], [], [0, 1], [2], [], [3, 4]] [[], [], [0, 1], [2], [], [3, 4]] [[0], [3], [], [], [], []] [5] [(4, 5)] [val 15 (v_d_), val 16 (.int .i64 x), val 17 (.pointer (some (ay.add (Int.toNat x * 4)))), val 18 (Right.val y), (4, fun u wz => ∃ b, u = .pointer (some ⟨b, 0, none⟩) ∧ w6.heap.size ≤ b ∧ Mb wz b 43 (Right.cells (⟨0, 0, 0, 0⟩ : Right))), (4, fun u wz => ∃ b, u = .pointer (some ⟨b, 0, none⟩) ∧ w6.heap.size ≤ b ∧ Mb wz b 43 (Right.cells y))] (fun b => w6.heap.size ≤ b) (by kernel_rfl) ⟨sV, sV, sV, sV, fun _ _ _ hE ⟨b, hb, hs, hM⟩ => ⟨b, hb, hs, hM.exn hE⟩, fun _ _ _ hE ⟨b, hb, hs, hM⟩ => ⟨b, hb, hs, hM.exn hE⟩, trivial⟩ ⟨fun ρz wz hE hA ⟨e0, _⟩ _ => core_val rfl rfl (o_move (e0.trans h0)),
 fun ρz wz hE hA ⟨e3, _⟩ _ => core_val rfl rfl (o_move (e3.trans h3)),
 fun ρz wz hE hA _ ⟨u0, u1, _⟩ => core_val rfl rfl (o_indexAddr (u0.trans hvy) u1 (ia_24 hiy)),
 fun ρz wz hE hA _ ⟨u2, _⟩ => core_val rfl rfl (o_load u2 (run_loadN (cs := (Right.cells y)) (lr_43 _ _) rfl ((hAy.exn hE.fresh).ca))),
 fun ρz wz hE hA _ _ => core_new rfl rfl hE (o_alloc (al_43 _)),
 fun ρz wz hE hA _ ⟨u3, u4, _⟩ => core_storeNew rfl rfl rfl rfl u3 u4 (fun a w => st_43 _ a w) rfl (one_43 _), trivial⟩ ?_
    intro ρ7 w7 hE hN hf hr
    have hN := hE.fresh
    obtain ⟨b4_, h4, hge_b4_, Hb_b4_⟩ := hf 5 rfl
    obtain ⟨h0, h3⟩ := k2 hr h0 h3 rfl
    have H_d_ := H_d_.exn hN
    have hW := hW.trans hN
    have hB_b4_ : w0.heap.size ≤ b4_ := Nat.le_trans hsz hge_b4_
    have hsz := hW.size
    refine WP.seq ?_
    refine WP.seq ?_
    refine WP.rb mixed [[], [0], [1], [2], [3], [3, 4], [3, 5], [3, 6], [7], [8], [8, 9], [8, 10], [8, 11], [12], [13], [13, 14], [13, 15], [13, 16], [17], [18], [18, 19], [18, 20], [18, 21], [22], [23], [23, 24], [23, 25], [23, 26], [27], [28], [28, 29], [28, 30], [28, 31], [32], [33], [33, 34], [33, 35], [33, 36]] [[4], [], [], [], [4], [], [], [], [], [4], [], [], [], [], [4], [], [], [], [], [4], [], [], [], [], [4], [], [], [], [], [4], [], [], [], [], [4], [], [], []] [(19, .pointer (some ((⟨b4_, 0, none⟩ : Addr).add 0))), (20, .int .i64 y.State), (21, .bool (decide (y.State < 0))), (22, .bool (decide (y.State < 0))), (23, gv (!(decide (y.State < 0))) (.pointer (some ((⟨b4_, 0, none⟩ : Addr).add 0)))), (24, gv (!(decide (y.State < 0))) (.int .i64 y.State)), (25, gv (!(decide (y.State < 0))) (.bool (decide (6 ≤ y.State)))), (26, .bool (decide (y.State < 0) || decide (6 ≤ y.State))), (27, .bool (decide (y.State < 0) || decide (6 ≤ y.State))), (28, gv (!(decide (y.State < 0) || decide (6 ≤ y.State))) (.pointer (some ((⟨b4_, 0, none⟩ : Addr).add 1)))), (29, gv (!(decide (y.State < 0) || decide (6 ≤ y.State))) (.int .i64 y.Basis)), (30, gv (!(decide (y.State < 0) || decide (6 ≤ y.State))) (.bool (decide (y.Basis < 1)))), (31, .bool ((decide (y.State < 0) || decide (6 ≤ y.State)) || decide (y.Basis < 1))), (32, .bool ((decide (y.State < 0) || decide (6 ≤ y.State)) || decide (y.Basis < 1))), (33, gv (!((decide (y.State < 0) || decide (6 ≤ y.State)) || decide (y.Basis < 1))) (.pointer (some ((⟨b4_, 0, none⟩ : Addr).add 1)))), (34, gv (!((decide (y.State < 0) || decide (6 ≤ y.State)) || decide (y.Basis < 1))) (.int .i64 y.Basis)), (35, gv (!((decide (y.State < 0) || decide (6 ≤ y.State)) || decide (y.Basis < 1))) (.bool (decide (3 < y.Basis)))), (36, .bool (((decide (y.State < 0) || decide (6 ≤ y.State)) || decide (y.Basis < 1)) || decide (3 < y.Basis))), (37, .bool (((decide (y.State < 0) || decide (6 ≤ y.State)) || decide (y.Basis < 1)) || decide (3 < y.Basis))), (38, gv (!(((decide (y.State < 0) || decide (6 ≤ y.State)) || decide (y.Basis < 1)) || decide (3 < y.Basis))) (.pointer (some ((⟨b4_, 0, none⟩ : Addr).add 2)))), (39, gv (!(((decide (y.State < 0) || decide (6 ≤ y.State)) || decide (y.Basis < 1)) || decide (3 < y.Basis))) (.int .i64 y.Currency)), (40, gv (!(((decide (y.State < 0) || decide (6 ≤ y.State)) || decide (y.Basis < 1)) || decide (3 < y.Basis))) (.bool (decide (y.Currency < 1)))), (41, .bool ((((decide (y.State < 0) || decide (6 ≤ y.State)) || decide (y.Basis < 1)) || decide (3 < y.Basis)) || decide (y.Currency < 1))), (42, .bool ((((decide (y.State < 0) || decide (6 ≤ y.State)) || decide (y.Basis < 1)) || decide (3 < y.Basis)) || decide (y.Currency < 1))), (43, gv (!((((decide (y.State < 0) || decide (6 ≤ y.State)) || decide (y.Basis < 1)) || decide (3 < y.Basis)) || decide (y.Currency < 1))) (.pointer (some ((⟨b4_, 0, none⟩ : Addr).add 2)))), (44, gv (!((((decide (y.State < 0) || decide (6 ≤ y.State)) || decide (y.Basis < 1)) || decide (3 < y.Basis)) || decide (y.Currency < 1))) (.int .i64 y.Currency)), (45, gv (!((((decide (y.State < 0) || decide (6 ≤ y.State)) || decide (y.Basis < 1)) || decide (3 < y.Basis)) || decide (y.Currency < 1))) (.bool (decide (999 < y.Currency)))), (46, .bool (((((decide (y.State < 0) || decide (6 ≤ y.State)) || decide (y.Basis < 1)) || decide (3 < y.Basis)) || decide (y.Currency < 1)) || decide (999 < y.Currency))), (47, .bool (((((decide (y.State < 0) || decide (6 ≤ y.State)) || decide (y.Basis < 1)) || decide (3 < y.Basis)) || decide (y.Currency < 1)) || decide (999 < y.Currency))), (48, gv (!(((((decide (y.State < 0) || decide (6 ≤ y.State)) || decide (y.Basis < 1)) || decide (3 < y.Basis)) || decide (y.Currency < 1)) || decide (999 < y.Currency))) (.pointer (some ((⟨b4_, 0, none⟩ : Addr).add 3)))), (49, gv (!(((((decide (y.State < 0) || decide (6 ≤ y.State)) || decide (y.Basis < 1)) || decide (3 < y.Basis)) || decide (y.Currency < 1)) || decide (999 < y.Currency))) (.int .i64 y.Amount)), (50, gv (!(((((decide (y.State < 0) || decide (6 ≤ y.State)) || decide (y.Basis < 1)) || decide (3 < y.Basis)) || decide (y.Currency < 1)) || decide (999 < y.Currency))) (.bool (decide (y.Amount < 1)))), (51, .bool ((((((decide (y.State < 0) || decide (6 ≤ y.State)) || decide (y.Basis < 1)) || decide (3 < y.Basis)) || decide (y.Currency < 1)) || decide (999 < y.Currency)) || decide (y.Amount < 1))), (52, .bool ((((((decide (y.State < 0) || decide (6 ≤ y.State)) || decide (y.Basis < 1)) || decide (3 < y.Basis)) || decide (y.Currency < 1)) || decide (999 < y.Currency)) || decide (y.Amount < 1))), (53, gv (!((((((decide (y.State < 0) || decide (6 ≤ y.State)) || decide (y.Basis < 1)) || decide (3 < y.Basis)) || decide (y.Currency < 1)) || decide (999 < y.Currency)) || decide (y.Amount < 1))) (.pointer (some ((⟨b4_, 0, none⟩ : Addr).add 3)))), (54, gv (!((((((decide (y.State < 0) || decide (6 ≤ y.State)) || decide (y.Basis < 1)) || decide (3 < y.Basis)) || decide (y.Currency < 1)) || decide (999 < y.Currency)) || decide (y.Amount < 1))) (.int .i64 y.Amount)), (55, gv (!((((((decide (y.State < 0) || decide (6 ≤ y.State)) || decide (y.Basis < 1)) || decide (3 < y.Basis)) || decide (y.Currency < 1)) || decide (999 < y.Currency)) || decide (y.Amount < 1))) (.bool (decide (1000000000000 < y.Amount)))), (56, .bool (((((((decide (y.State < 0) || decide (6 ≤ y.State)) || decide (y.Basis < 1)) || decide (3 < y.Basis)) || decide (y.Currency < 1)) || decide (999 < y.Currency)) || decide (y.Amount < 1)) || decide (1000000000000 < y.Amount)))] (by kernel_rfl) ⟨fun ρz wz hE hA ⟨e4, _⟩ _ => core_val rfl rfl (o_fieldAddr (e4.trans h4) (fa_43_0 _ _)),
 fun ρz wz hE hA _ ⟨u0, _⟩ => core_val rfl rfl (o_load u0 (run_load1 (lr_3 _ _) (CA.sub ((Hb_b4_.exn (hA rfl)).ca) 0 1))),
 fun ρz wz hE hA _ ⟨u1, _⟩ => core_val rfl rfl (o_lss u1 rfl rfl),
 fun ρz wz hE hA _ ⟨u2, _⟩ => core_val rfl rfl (o_move u2),
 fun ρz wz hE hA ⟨e4, _⟩ ⟨u3, _⟩ => gIf rfl rfl (yF rfl u3) fun gc F hF => core_val rfl hF (o_fieldAddr (e4.trans h4) (fa_43_0 _ _)),
 fun ρz wz hE hA _ ⟨u3, u4, _⟩ => gIf rfl rfl (yF rfl u3) fun gc F hF => core_val rfl hF (o_load (gt gc u4) (run_load1 (lr_3 _ _) (CA.sub ((Hb_b4_.exn (hA rfl)).ca) 0 1))),
 fun ρz wz hE hA _ ⟨u3, u5, _⟩ => gIf rfl rfl (yF rfl u3) fun gc F hF => core_val rfl hF (o_geq (gt gc u5) rfl rfl),
 fun ρz wz hE hA _ ⟨u3, u6, _⟩ => core_val rfl rfl (o_pick_or u3 rfl u6),
 fun ρz wz hE hA _ ⟨u7, _⟩ => core_val rfl rfl (o_move u7),
 fun ρz wz hE hA ⟨e4, _⟩ ⟨u8, _⟩ => gIf rfl rfl (yF rfl u8) fun gc F hF => core_val rfl hF (o_fieldAddr (e4.trans h4) (fa_43_1 _ _)),
 fun ρz wz hE hA _ ⟨u8, u9, _⟩ => gIf rfl rfl (yF rfl u8) fun gc F hF => core_val rfl hF (o_load (gt gc u9) (run_load1 (lr_3 _ _) (CA.sub ((Hb_b4_.exn (hA rfl)).ca) 1 1))),
 fun ρz wz hE hA _ ⟨u8, u10, _⟩ => gIf rfl rfl (yF rfl u8) fun gc F hF => core_val rfl hF (o_lss (gt gc u10) rfl rfl),
 fun ρz wz hE hA _ ⟨u8, u11, _⟩ => core_val rfl rfl (o_pick_or u8 rfl u11),
 fun ρz wz hE hA _ ⟨u12, _⟩ => core_val rfl rfl (o_move u12),
 fun ρz wz hE hA ⟨e4, _⟩ ⟨u13, _⟩ => gIf rfl rfl (yF rfl u13) fun gc F hF => core_val rfl hF (o_fieldAddr (e4.trans h4) (fa_43_1 _ _)),
 fun ρz wz hE hA _ ⟨u13, u14, _⟩ => gIf rfl rfl (yF rfl u13) fun gc F hF => core_val rfl hF (o_load (gt gc u14) (run_load1 (lr_3 _ _) (CA.sub ((Hb_b4_.exn (hA rfl)).ca) 1 1))),
 fun ρz wz hE hA _ ⟨u13, u15, _⟩ => gIf rfl rfl (yF rfl u13) fun gc F hF => core_val rfl hF (o_gtr (gt gc u15) rfl rfl),
 fun ρz wz hE hA _ ⟨u13, u16, _⟩ => core_val rfl rfl (o_pick_or u13 rfl u16),
 fun ρz wz hE hA _ ⟨u17, _⟩ => core_val rfl rfl (o_move u17),
 fun ρz wz hE hA ⟨e4, _⟩ ⟨u18, _⟩ => gIf rfl rfl (yF rfl u18) fun gc F hF => core_val rfl hF (o_fieldAddr (e4.trans h4) (fa_43_2 _ _)),
 fun ρz wz hE hA _ ⟨u18, u19, _⟩ => gIf rfl rfl (yF rfl u18) fun gc F hF => core_val rfl hF (o_load (gt gc u19) (run_load1 (lr_3 _ _) (CA.sub ((Hb_b4_.exn (hA rfl)).ca) 2 1))),
 fun ρz wz hE hA _ ⟨u18, u20, _⟩ => gIf rfl rfl (yF rfl u18) fun gc F hF => core_val rfl hF (o_lss (gt gc u20) rfl rfl),
 fun ρz wz hE hA _ ⟨u18, u21, _⟩ => core_val rfl rfl (o_pick_or u18 rfl u21),
 fun ρz wz hE hA _ ⟨u22, _⟩ => core_val rfl rfl (o_move u22),
 fun ρz wz hE hA ⟨e4, _⟩ ⟨u23, _⟩ => gIf rfl rfl (yF rfl u23) fun gc F hF => core_val rfl hF (o_fieldAddr (e4.trans h4) (fa_43_2 _ _)),
 fun ρz wz hE hA _ ⟨u23, u24, _⟩ => gIf rfl rfl (yF rfl u23) fun gc F hF => core_val rfl hF (o_load (gt gc u24) (run_load1 (lr_3 _ _) (CA.sub ((Hb_b4_.exn (hA rfl)).ca) 2 1))),
 fun ρz wz hE hA _ ⟨u23, u25, _⟩ => gIf rfl rfl (yF rfl u23) fun gc F hF => core_val rfl hF (o_gtr (gt gc u25) rfl rfl),
 fun ρz wz hE hA _ ⟨u23, u26, _⟩ => core_val rfl rfl (o_pick_or u23 rfl u26),
 fun ρz wz hE hA _ ⟨u27, _⟩ => core_val rfl rfl (o_move u27),
 fun ρz wz hE hA ⟨e4, _⟩ ⟨u28, _⟩ => gIf rfl rfl (yF rfl u28) fun gc F hF => core_val rfl hF (o_fieldAddr (e4.trans h4) (fa_43_3 _ _)),
 fun ρz wz hE hA _ ⟨u28, u29, _⟩ => gIf rfl rfl (yF rfl u28) fun gc F hF => core_val rfl hF (o_load (gt gc u29) (run_load1 (lr_3 _ _) (CA.sub ((Hb_b4_.exn (hA rfl)).ca) 3 1))),
 fun ρz wz hE hA _ ⟨u28, u30, _⟩ => gIf rfl rfl (yF rfl u28) fun gc F hF => core_val rfl hF (o_lss (gt gc u30) rfl rfl),
 fun ρz wz hE hA _ ⟨u28, u31, _⟩ => core_val rfl rfl (o_pick_or u28 rfl u31),
 fun ρz wz hE hA _ ⟨u32, _⟩ => core_val rfl rfl (o_move u32),
 fun ρz wz hE hA ⟨e4, _⟩ ⟨u33, _⟩ => gIf rfl rfl (yF rfl u33) fun gc F hF => core_val rfl hF (o_fieldAddr (e4.trans h4) (fa_43_3 _ _)),
 fun ρz wz hE hA _ ⟨u33, u34, _⟩ => gIf rfl rfl (yF rfl u33) fun gc F hF => core_val rfl hF (o_load (gt gc u34) (run_load1 (lr_3 _ _) (CA.sub ((Hb_b4_.exn (hA rfl)).ca) 3 1))),
 fun ρz wz hE hA _ ⟨u33, u35, _⟩ => gIf rfl rfl (yF rfl u33) fun gc F hF => core_val rfl hF (o_gtr (gt gc u35) rfl rfl),
 fun ρz wz hE hA _ ⟨u33, u36, _⟩ => core_val rfl rfl (o_pick_or u33 rfl u36), trivial⟩ ?_
    intro ρ8 w8 hN hf hr
    have h56 : ρ8 56 = .bool (((((((decide (y.State < 0) || decide (6 ≤ y.State)) || decide (y.Basis < 1)) || decide (3 < y.Basis)) || decide (y.Currency < 1)) || decide (999 < y.Currency)) || decide (y.Amount < 1)) || decide (1000000000000 < y.Amount)) := hf 37 rfl
    obtain ⟨h0, h3, h4⟩ := k3 hr h0 h3 h4 rfl
    have Hb_b4_n := Hb_b4_.exn hN
    have H_d_ := H_d_.exn hN
    have hW := hW.trans hN
    have Hb_b4_ := Hb_b4_n
    have hsz := hW.size
    refine WP.cond rfl h56 (fun hb => ?_) (fun hb => ?_)
    · have hF := (if_pos hb).symm.trans hF
      refine WP.seq ?_
      refine WP.rb mixed [[]] [[]] [(2, .bool false)] (by kernel_rfl) ⟨fun ρz wz hE hA _ _ => core_val rfl rfl (o_assign rfl), trivial⟩ ?_
      intro ρ9 w9 hN hf hr
      have h2 : ρ9 2 = .bool false := hf 0 rfl
      have hW := hW.trans hN
      have hsz := hW.size
      refine WP.ret ?_
      show retQ Tryd.prog 70 Tryd.f18 (fun v w1 => v = .bool r ∧ Ext noG w0 w1) .ret ρ9 w9
      obtain rfl := Option.some.inj hF
      exact res1 rfl (by decide) h2 ⟨rfl, hW⟩
    have hF := (if_neg (Bool.eq_false_iff.1 hb)).symm.trans hF
    refine WP.skip ?_
    refine WP.seq ?_
    refine WP.rb mixed [[]] [[]] [(5, .int .i64 0)] (by kernel_rfl) ⟨fun ρz wz hE hA _ _ => core_val rfl rfl (o_assign rfl), trivial⟩ ?_
    intro ρ10 w10 hN hf hr
    have h5 : ρ10 5 = .int .i64 0 := hf 0 rfl
    obtain ⟨h0, h3, h4⟩ := k3 hr h0 h3 h4 rfl
    have Hb_b4_n := Hb_b4_.exn hN
    have H_d_ := H_d_.exn hN
    have hW := hW.trans hN
    have Hb_b4_ := Hb_b4_n
    have hsz := hW.size
    refine WP.block ?_
    refine WP.loop (fun k_2 ρ w => ∃ x2 : Int, ρ 0 = v_d_ ∧ ρ 3 = .int .i64 x ∧ ρ 4 = .pointer (some ⟨b4_, 0, none⟩) ∧ ρ 5 = .int .i64 x2 ∧ Mb w b4_ 43 (Right.cells y) ∧ RepSl Right.R (gfr noG w0) w v_d_ d_ ∧ Ext noG w0 w ∧ w0.heap.size ≤ w.heap.size ∧ loopC k_2 (pensionref21_ValidRights_l2 d_ x rec_ y) x2 = some r) FU ⟨0, h0, h3, h4, h5, Hb_b4_, H_d_, hW, hsz, hF⟩ (fun _ _ h => by obtain ⟨_, _, _, _, _, _, _, _, _, h⟩ := h; cases h) ?_
    rintro k_2 ρ11 w11 ⟨x2, h0, h3, h4, h5, Hb_b4_, H_d_, hW, hsz, hF⟩
    have hF : pensionref21_ValidRights_l2 d_ x rec_ y (loopC k_2 (pensionref21_ValidRights_l2 d_ x rec_ y)) x2 = some r := hF
    generalize hrec_2 : loopC k_2 (pensionref21_ValidRights_l2 d_ x rec_ y) = rec_2 at hF
    rw [pensionref21_ValidRights_l2] at hF
    refine WP.seq ?_
    refine WP.seq ?_
    refine WP.rb mixed [[], [], [0, 1]] [[5], [3], []] [(57, .int .i64 x2), (58, .int .i64 x), (59, .bool (decide (x2 < x)))] (by kernel_rfl) ⟨fun ρz wz hE hA ⟨e5, _⟩ _ => core_val rfl rfl (o_move (e5.trans h5)),
 fun ρz wz hE hA ⟨e3, _⟩ _ => core_val rfl rfl (o_move (e3.trans h3)),
 fun ρz wz hE hA _ ⟨u0, u1, _⟩ => core_val rfl rfl (o_lss u0 u1 rfl), trivial⟩ ?_
    intro ρ12 w12 hN hf hr
    have h59 : ρ12 59 = .bool (decide (x2 < x)) := hf 2 rfl
    obtain ⟨h0, h3, h4, h5⟩ := k4 hr h0 h3 h4 h5 rfl
    have Hb_b4_n := Hb_b4_.exn hN
    have H_d_ := H_d_.exn hN
    have hW := hW.trans hN
    have Hb_b4_ := Hb_b4_n
    have hsz := hW.size
    refine WP.cond rfl h59 (fun hb => ?_) (fun hb => ?_)
    · have hF := (if_pos hb).symm.trans hF
      refine WP.skip ?_
      refine WP.seq ?_
      refine WP.block ?_
      refine WP.seq ?_
      obtain ⟨y2, hy2, hF⟩ := obind hF
      obtain ⟨ay2, cy2, hvy2, hiy2, hAy2⟩ := RepSl.getF H_d_ hy2
      refine WP.rb mixed [[], [], [0, 1], [2], [3], [], [5], [4, 6]] [[0], [5], [], [], [], [4], [], []] [(62, v_d_), (63, .int .i64 x2), (64, .pointer (some (ay2.add (Int.toNat x2 * 4)))), (65, .pointer (some ((ay2.add (Int.toNat x2 * 4)).add 0))), (66, .int .i64 y2.State), (67, .pointer (some ((⟨b4_, 0, none⟩ : Addr).add 0))), (68, .int .i64 y.State), (69, .bool (y2.State == y.State))] (by kernel_rfl) ⟨fun ρz wz hE hA ⟨e0, _⟩ _ => core_val rfl rfl (o_move (e0.trans h0)),
 fun ρz wz hE hA ⟨e5, _⟩ _ => core_val rfl rfl (o_move (e5.trans h5)),
 fun ρz wz hE hA _ ⟨u0, u1, _⟩ => core_val rfl rfl (o_indexAddr (u0.trans hvy2) u1 (ia_24 hiy2)),
 fun ρz wz hE hA _ ⟨u2, _⟩ => core_val rfl rfl (o_fieldAddr u2 (fa_43_0 _ _)),
 fun ρz wz hE hA _ ⟨u3, _⟩ => core_val rfl rfl (o_load u3 (run_load1 (lr_3 _ _) (CA.sub ((hAy2.exn (hA rfl)).ca) 0 1))),
 fun ρz wz hE hA ⟨e4, _⟩ _ => core_val rfl rfl (o_fieldAddr (e4.trans h4) (fa_43_0 _ _)),
 fun ρz wz hE hA _ ⟨u5, _⟩ => core_val rfl rfl (o_load u5 (run_load1 (lr_3 _ _) (CA.sub ((Hb_b4_.exn (hA rfl)).ca) 0 1))),
 fun ρz wz hE hA _ ⟨u4, u6, _⟩ => core_val rfl rfl (o_eql u4 u6 rfl), trivial⟩ ?_
      intro ρ13 w13 hN hf hr
      have h69 : ρ13 69 = .bool (y2.State == y.State) := hf 7 rfl
      obtain ⟨h0, h3, h4, h5⟩ := k4 hr h0 h3 h4 h5 rfl
      have Hb_b4_n := Hb_b4_.exn hN
      have H_d_ := H_d_.exn hN
      have hW := hW.trans hN
      have Hb_b4_ := Hb_b4_n
      have hsz := hW.size
      refine WP.cond rfl h69 (fun hb => ?_) (fun hb => ?_)
      · have hF := (if_pos hb).symm.trans hF
        refine WP.seq ?_
        refine WP.rb mixed [[]] [[]] [(2, .bool false)] (by kernel_rfl) ⟨fun ρz wz hE hA _ _ => core_val rfl rfl (o_assign rfl), trivial⟩ ?_
        intro ρ14 w14 hN hf hr
        have h2 : ρ14 2 = .bool false := hf 0 rfl
        have hW := hW.trans hN
        have hsz := hW.size
        refine WP.ret ?_
        show retQ Tryd.prog 70 Tryd.f18 (fun v w1 => v = .bool r ∧ Ext noG w0 w1) .ret ρ14 w14
        obtain rfl := Option.some.inj hF
        exact res1 rfl (by decide) h2 ⟨rfl, hW⟩
      have hF := (if_neg (Bool.eq_false_iff.1 hb)).symm.trans hF
      refine WP.skip ?_
      refine WP.rv mixed [[], [0], [0, 1]] [[], [0], [1]] [[5], [], []] [(60, .int .i64 x2), (61, .int .i64 (i64 (x2 + 1))), (5, .int .i64 (i64 (x2 + 1)))] (by kernel_rfl) ⟨fun ρz wz hE hA ⟨e5, _⟩ _ => core_val rfl rfl (o_move (e5.trans h5)),
 fun ρz wz hE hA _ ⟨u0, _⟩ => core_val rfl rfl (o_add u0 rfl rfl),
 fun ρz wz hE hA _ ⟨u1, _⟩ => core_val rfl rfl (o_assign u1), trivial⟩ ?_
      intro ρ15 w15 hN hf hr
      have h5 : ρ15 5 = .int .i64 (i64 (x2 + 1)) := hf 2 rfl
      obtain ⟨h0, h3, h4⟩ := k3 hr h0 h3 h4 rfl
      have Hb_b4_n := Hb_b4_.exn hN
      have H_d_ := H_d_.exn hN
      have hW := hW.trans hN
      have Hb_b4_ := Hb_b4_n
      have hsz := hW.size
      exact ⟨i64 (x2 + 1), h0, h3, h4, h5, Hb_b4_, H_d_, hW, hsz, (by first | exact hF | (rw [hrec_2]; exact hF))⟩
    have hF := (if_neg (Bool.eq_false_iff.1 hb)).symm.trans hF
    refine WP.exit ?_
    refine thenQ_exit ?_
    refine thenQ_exit ?_
    refine blockQ_hit ?_
    refine WP.rv mixed [[], [0], [0, 1]] [[], [0], [1]] [[3], [], []] [(13, .int .i64 x), (14, .int .i64 (i64 (x + 1))), (3, .int .i64 (i64 (x + 1)))] (by kernel_rfl) ⟨fun ρz wz hE hA ⟨e3, _⟩ _ => core_val rfl rfl (o_move (e3.trans h3)),
 fun ρz wz hE hA _ ⟨u0, _⟩ => core_val rfl rfl (o_add u0 rfl rfl),
 fun ρz wz hE hA _ ⟨u1, _⟩ => core_val rfl rfl (o_assign u1), trivial⟩ ?_
    intro ρ16 w16 hN hf hr
    have h3 : ρ16 3 = .int .i64 (i64 (x + 1)) := hf 2 rfl
    have h0 := (hr 0 rfl).trans h0
    have H_d_ := H_d_.exn hN
    have hW := hW.trans hN
    have hsz := hW.size
    exact ⟨i64 (x + 1), h0, h3, H_d_, hW, hsz, (by first | exact hF | (rw [hrec_]; exact hF))⟩
  have hF := (if_neg (Bool.eq_false_iff.1 hb)).symm.trans hF
  refine WP.exit ?_
  refine thenQ_exit ?_
  refine thenQ_exit ?_
  refine blockQ_hit ?_
  refine WP.seq ?_
  refine WP.rb mixed [[]] [[]] [(2, .bool true)] (by kernel_rfl) ⟨fun ρz wz hE hA _ _ => core_val rfl rfl (o_assign rfl), trivial⟩ ?_
  intro ρ17 w17 hN hf hr
  have h2 : ρ17 2 = .bool true := hf 0 rfl
  have hW := hW.trans hN
  have hsz := hW.size
  refine WP.ret ?_
  show retQ Tryd.prog 70 Tryd.f18 (fun v w1 => v = .bool r ∧ Ext noG w0 w1) .ret ρ17 w17
  obtain rfl := Option.some.inj hF
  exact res1 rfl (by decide) h2 ⟨rfl, hW⟩

set_option maxHeartbeats 4000000 in
theorem pensionplain_Ints_ok {w0 : World} (a_ : List Int) (b_ : List Int) {v_a_ : Value} (H_a_ : RepSl intR noG w0 v_a_ a_) {v_b_ : Value} (H_b_ : RepSl intR noG w0 v_b_ b_) {r : Bool} (hF : pensionplain_Ints a_ b_ = some r) :
    Calls Tryd.prog 17 #[v_a_, v_b_] w0 fun e w1 => e = .returned (.bool r) ∧ Ext noG w0 w1 := by
  refine (Calls.start (P := Tryd.prog) (args := [v_a_, v_b_]) (R := fun v w1 => v = .bool r ∧ Ext noG w0 w1) (n := 26) (w := w0) Tryd.func17 rfl rfl (Nat.le_of_ble_eq_true rfl) (fun ρ hargs => ?_)).mono (fun e w1 ⟨v, he, hv, hE⟩ => ⟨hv ▸ he, hE⟩)
  have h0 := hargs 0 _ rfl
  have h1 := hargs 1 _ rfl
  have hW := Ext.refl noG w0
  have hsz := Nat.le_refl w0.heap.size
  obtain ⟨_, _, hs_H_a_, _, _⟩ := RepSl.shape H_a_
  have H_a_ := H_a_.start
  obtain ⟨_, _, hs_H_b_, _, _⟩ := RepSl.shape H_b_
  have H_b_ := H_b_.start
  rw [pensionplain_Ints] at hF
  refine WP.seq ?_
  refine WP.rb mixed [[]] [[]] [(4, .bool false)] (by kernel_rfl) ⟨fun ρz wz hE hA _ _ => core_val rfl rfl (o_assign rfl), trivial⟩ ?_
  intro ρ1 w1 hN hf hr
  obtain ⟨h0, h1⟩ := k2 hr h0 h1 rfl
  have H_a_ := H_a_.exn hN
  have H_b_ := H_b_.exn hN
  have hW := hW.trans hN
  have hsz := hW.size
  refine WP.seq ?_
  refine WP.seq ?_
  refine WP.rb mixed [[], [0], [], [2], [1, 3]] [[0], [], [1], [], []] [(6, v_a_), (7, .int .i64 (a_.length : Int)), (8, v_b_), (9, .int .i64 (b_.length : Int)), (10, .bool ((a_.length : Int) != (b_.length : Int)))] (by kernel_rfl) ⟨fun ρz wz hE hA ⟨e0, _⟩ _ => core_val rfl rfl (o_move (e0.trans h0)),
 fun ρz wz hE hA _ ⟨u0, _⟩ => core_val rfl rfl (o_len (u0.trans hs_H_a_) len_23),
 fun ρz wz hE hA ⟨e1, _⟩ _ => core_val rfl rfl (o_move (e1.trans h1)),
 fun ρz wz hE hA _ ⟨u2, _⟩ => core_val rfl rfl (o_len (u2.trans hs_H_b_) len_23),
 fun ρz wz hE hA _ ⟨u1, u3, _⟩ => core_val rfl rfl (o_neq u1 u3 rfl), trivial⟩ ?_
  intro ρ2 w2 hN hf hr
  have h10 : ρ2 10 = .bool ((a_.length : Int) != (b_.length : Int)) := hf 4 rfl
  obtain ⟨h0, h1⟩ := k2 hr h0 h1 rfl
  have H_a_ := H_a_.exn hN
  have H_b_ := H_b_.exn hN
  have hW := hW.trans hN
  have hsz := hW.size
  refine WP.cond rfl h10 (fun hb => ?_) (fun hb => ?_)
  · have hF := (if_pos hb).symm.trans hF
    refine WP.seq ?_
    refine WP.rb mixed [[]] [[]] [(4, .bool false)] (by kernel_rfl) ⟨fun ρz wz hE hA _ _ => core_val rfl rfl (o_assign rfl), trivial⟩ ?_
    intro ρ3 w3 hN hf hr
    have h4 : ρ3 4 = .bool false := hf 0 rfl
    have hW := hW.trans hN
    have hsz := hW.size
    refine WP.ret ?_
    show retQ Tryd.prog 26 Tryd.f17 (fun v w1 => v = .bool r ∧ Ext noG w0 w1) .ret ρ3 w3
    obtain rfl := Option.some.inj hF
    exact res1 rfl (by decide) h4 ⟨rfl, hW⟩
  have hF := (if_neg (Bool.eq_false_iff.1 hb)).symm.trans hF
  refine WP.skip ?_
  refine WP.seq ?_
  refine WP.seq ?_
  refine WP.rb mixed [[]] [[]] [(5, .int .i64 0)] (by kernel_rfl) ⟨fun ρz wz hE hA _ _ => core_val rfl rfl (o_assign rfl), trivial⟩ ?_
  intro ρ4 w4 hN hf hr
  have h5 : ρ4 5 = .int .i64 0 := hf 0 rfl
  obtain ⟨h0, h1⟩ := k2 hr h0 h1 rfl
  have H_a_ := H_a_.exn hN
  have H_b_ := H_b_.exn hN
  have hW := hW.trans hN
  have hsz := hW.size
  refine WP.block ?_
  refine WP.loop (fun k_ ρ w => ∃ i_ : Int, ρ 0 = v_a_ ∧ ρ 1 = v_b_ ∧ ρ 5 = .int .i64 i_ ∧ RepSl intR (gfr noG w0) w v_a_ a_ ∧ RepSl intR (gfr noG w0) w v_b_ b_ ∧ Ext noG w0 w ∧ w0.heap.size ≤ w.heap.size ∧ loopC k_ (pensionplain_Ints_l a_ b_) i_ = some r) FU ⟨0, h0, h1, h5, H_a_, H_b_, hW, hsz, hF⟩ (fun _ _ h => by obtain ⟨_, _, _, _, _, _, _, _, h⟩ := h; cases h) ?_
  rintro k_ ρ5 w5 ⟨i_, h0, h1, h5, H_a_, H_b_, hW, hsz, hF⟩
  have hF : pensionplain_Ints_l a_ b_ (loopC k_ (pensionplain_Ints_l a_ b_)) i_ = some r := hF
  generalize hrec_ : loopC k_ (pensionplain_Ints_l a_ b_) = rec_ at hF
  rw [pensionplain_Ints_l] at hF
  refine WP.seq ?_
  refine WP.seq ?_
  refine WP.rb mixed [[], [], [1], [0, 2]] [[5], [0], [], []] [(11, .int .i64 i_), (12, v_a_), (13, .int .i64 (a_.length : Int)), (14, .bool (decide (i_ < (a_.length : Int))))] (by kernel_rfl) ⟨fun ρz wz hE hA ⟨e5, _⟩ _ => core_val rfl rfl (o_move (e5.trans h5)),
 fun ρz wz hE hA ⟨e0, _⟩ _ => core_val rfl rfl (o_move (e0.trans h0)),
 fun ρz wz hE hA _ ⟨u1, _⟩ => core_val rfl rfl (o_len (u1.trans hs_H_a_) len_23),
 fun ρz wz hE hA _ ⟨u0, u2, _⟩ => core_val rfl rfl (o_lss u0 u2 rfl), trivial⟩ ?_
  intro ρ6 w6 hN hf hr
  have h14 : ρ6 14 = .bool (decide (i_ < (a_.length : Int))) := hf 3 rfl
  obtain ⟨h0, h1, h5⟩ := k3 hr h0 h1 h5 rfl
  have H_a_ := H_a_.exn hN
  have H_b_ := H_b_.exn hN
  have hW := hW.trans hN
  have hsz := hW.size
  refine WP.cond rfl h14 (fun hb => ?_) (fun hb => ?_)
  · have hF := (if_pos hb).symm.trans hF
    refine WP.skip ?_
    refine WP.seq ?_
    refine WP.block ?_
    refine WP.seq ?_
    obtain ⟨y, hy, hF⟩ := obind hF
    obtain ⟨ay, cy, hvy, hiy, hAy⟩ := RepSl.getF H_a_ hy
    obtain ⟨y2, hy2, hF⟩ := obind hF
    obtain ⟨ay2, cy2, hvy2, hiy2, hAy2⟩ := RepSl.getF H_b_ hy2
    refine WP.rb mixed [[], [], [0, 1], [2], [], [], [4, 5], [6], [3, 7]] [[0], [5], [], [], [1], [5], [], [], []] [(17, v_a_), (18, .int .i64 i_), (19, .pointer (some (ay.add (Int.toNat i_ * 1)))), (20, .int .i64 y), (21, v_b_), (22, .int .i64 i_), (23, .pointer (some (ay2.add (Int.toNat i_ * 1)))), (24, .int .i64 y2), (25, .bool (y != y2))] (by kernel_rfl) ⟨fun ρz wz hE hA ⟨e0, _⟩ _ => core_val rfl rfl (o_move (e0.trans h0)),
 fun ρz wz hE hA ⟨e5, _⟩ _ => core_val rfl rfl (o_move (e5.trans h5)),
 fun ρz wz hE hA _ ⟨u0, u1, _⟩ => core_val rfl rfl (o_indexAddr (u0.trans hvy) u1 (ia_23 hiy)),
 fun ρz wz hE hA _ ⟨u2, _⟩ => core_val rfl rfl (o_load u2 (run_load1 (lr_3 _ _) ((hAy.exn (hA rfl)).ca))),
 fun ρz wz hE hA ⟨e1, _⟩ _ => core_val rfl rfl (o_move (e1.trans h1)),
 fun ρz wz hE hA ⟨e5, _⟩ _ => core_val rfl rfl (o_move (e5.trans h5)),
 fun ρz wz hE hA _ ⟨u4, u5, _⟩ => core_val rfl rfl (o_indexAddr (u4.trans hvy2) u5 (ia_23 hiy2)),
 fun ρz wz hE hA _ ⟨u6, _⟩ => core_val rfl rfl (o_load u6 (run_load1 (lr_3 _ _) ((hAy2.exn (hA rfl)).ca))),
 fun ρz wz hE hA _ ⟨u3, u7, _⟩ => core_val rfl rfl (o_neq u3 u7 rfl), trivial⟩ ?_
    intro ρ7 w7 hN hf hr
    have h25 : ρ7 25 = .bool (y != y2) := hf 8 rfl
    obtain ⟨h0, h1, h5⟩ := k3 hr h0 h1 h5 rfl
    have H_a_ := H_a_.exn hN
    have H_b_ := H_b_.exn hN
    have hW := hW.trans hN
    have hsz := hW.size
    refine WP.cond rfl h25 (fun hb => ?_) (fun hb => ?_)
    · have hF := (if_pos hb).symm.trans hF
      refine WP.seq ?_
      refine WP.rb mixed [[]] [[]] [(4, .bool false)] (by kernel_rfl) ⟨fun ρz wz hE hA _ _ => core_val rfl rfl (o_assign rfl), trivial⟩ ?_
      intro ρ8 w8 hN hf hr
      have h4 : ρ8 4 = .bool false := hf 0 rfl
      have hW := hW.trans hN
      have hsz := hW.size
      refine WP.ret ?_
      show retQ Tryd.prog 26 Tryd.f17 (fun v w1 => v = .bool r ∧ Ext noG w0 w1) .ret ρ8 w8
      obtain rfl := Option.some.inj hF
      exact res1 rfl (by decide) h4 ⟨rfl, hW⟩
    have hF := (if_neg (Bool.eq_false_iff.1 hb)).symm.trans hF
    refine WP.skip ?_
    refine WP.rv mixed [[], [0], [0, 1]] [[], [0], [1]] [[5], [], []] [(15, .int .i64 i_), (16, .int .i64 (i64 (i_ + 1))), (5, .int .i64 (i64 (i_ + 1)))] (by kernel_rfl) ⟨fun ρz wz hE hA ⟨e5, _⟩ _ => core_val rfl rfl (o_move (e5.trans h5)),
 fun ρz wz hE hA _ ⟨u0, _⟩ => core_val rfl rfl (o_add u0 rfl rfl),
 fun ρz wz hE hA _ ⟨u1, _⟩ => core_val rfl rfl (o_assign u1), trivial⟩ ?_
    intro ρ9 w9 hN hf hr
    have h5 : ρ9 5 = .int .i64 (i64 (i_ + 1)) := hf 2 rfl
    obtain ⟨h0, h1⟩ := k2 hr h0 h1 rfl
    have H_a_ := H_a_.exn hN
    have H_b_ := H_b_.exn hN
    have hW := hW.trans hN
    have hsz := hW.size
    exact ⟨i64 (i_ + 1), h0, h1, h5, H_a_, H_b_, hW, hsz, (by first | exact hF | (rw [hrec_]; exact hF))⟩
  have hF := (if_neg (Bool.eq_false_iff.1 hb)).symm.trans hF
  refine WP.exit ?_
  refine thenQ_exit ?_
  refine thenQ_exit ?_
  refine blockQ_hit ?_
  refine WP.seq ?_
  refine WP.rb mixed [[]] [[]] [(4, .bool true)] (by kernel_rfl) ⟨fun ρz wz hE hA _ _ => core_val rfl rfl (o_assign rfl), trivial⟩ ?_
  intro ρ10 w10 hN hf hr
  have h4 : ρ10 4 = .bool true := hf 0 rfl
  have hW := hW.trans hN
  have hsz := hW.size
  refine WP.ret ?_
  show retQ Tryd.prog 26 Tryd.f17 (fun v w1 => v = .bool r ∧ Ext noG w0 w1) .ret ρ10 w10
  obtain rfl := Option.some.inj hF
  exact res1 rfl (by decide) h4 ⟨rfl, hW⟩

set_option maxHeartbeats 4000000 in
theorem cmp_isNaN_of_int_ok {w0 : World} (x_ : Int) {r : Bool} (hF : cmp_isNaN_of_int x_ = some r) :
    Calls Tryd.prog 49 #[.int .i64 x_] w0 fun e w1 => e = .returned (.bool r) ∧ Ext noG w0 w1 := by
  refine (Calls.start (P := Tryd.prog) (args := [.int .i64 x_]) (R := fun v w1 => v = .bool r ∧ Ext noG w0 w1) (n := 6) (w := w0) Tryd.func49 rfl rfl (Nat.le_of_ble_eq_true rfl) (fun ρ hargs => ?_)).mono (fun e w1 ⟨v, he, hv, hE⟩ => ⟨hv ▸ he, hE⟩)
  have h0 := hargs 0 _ rfl
  have hW := Ext.refl noG w0
  have hsz := Nat.le_refl w0.heap.size
  rw [cmp_isNaN_of_int] at hF
  refine WP.seq ?_
  refine WP.rb mixed [[]] [[]] [(2, .bool false)] (by kernel_rfl) ⟨fun ρz wz hE hA _ _ => core_val rfl rfl (o_assign rfl), trivial⟩ ?_
  intro ρ1 w1 hN hf hr
  have h0 := (hr 0 rfl).trans h0
  have hW := hW.trans hN
  have hsz := hW.size
  refine WP.seq ?_
  refine WP.rb mixed [[], [], [0, 1], [2]] [[0], [0], [], []] [(3, .int .i64 x_), (4, .int .i64 x_), (5, .bool (x_ != x_)), (2, .bool (x_ != x_))] (by kernel_rfl) ⟨fun ρz wz hE hA ⟨e0, _⟩ _ => core_val rfl rfl (o_move (e0.trans h0)),
 fun ρz wz hE hA ⟨e0, _⟩ _ => core_val rfl rfl (o_move (e0.trans h0)),
 fun ρz wz hE hA _ ⟨u0, u1, _⟩ => core_val rfl rfl (o_neq u0 u1 rfl),
 fun ρz wz hE hA _ ⟨u2, _⟩ => core_val rfl rfl (o_assign u2), trivial⟩ ?_
  intro ρ2 w2 hN hf hr
  have h2 : ρ2 2 = .bool (x_ != x_) := hf 3 rfl
  have hW := hW.trans hN
  have hsz := hW.size
  refine WP.ret ?_
  show retQ Tryd.prog 6 Tryd.f49 (fun v w1 => v = .bool r ∧ Ext noG w0 w1) .ret ρ2 w2
  obtain rfl := Option.some.inj hF
  exact res1 rfl (by decide) h2 ⟨rfl, hW⟩

set_option maxHeartbeats 4000000 in
theorem cmp_isNaN_of_uint64_ok {w0 : World} (x_ : Int) {r : Bool} (hF : cmp_isNaN_of_uint64 x_ = some r) :
    Calls Tryd.prog 80 #[.int .u64 x_] w0 fun e w1 => e = .returned (.bool r) ∧ Ext noG w0 w1 := by
  refine (Calls.start (P := Tryd.prog) (args := [.int .u64 x_]) (R := fun v w1 => v = .bool r ∧ Ext noG w0 w1) (n := 6) (w := w0) Tryd.func80 rfl rfl (Nat.le_of_ble_eq_true rfl) (fun ρ hargs => ?_)).mono (fun e w1 ⟨v, he, hv, hE⟩ => ⟨hv ▸ he, hE⟩)
  have h0 := hargs 0 _ rfl
  have hW := Ext.refl noG w0
  have hsz := Nat.le_refl w0.heap.size
  rw [cmp_isNaN_of_uint64] at hF
  refine WP.seq ?_
  refine WP.rb mixed [[]] [[]] [(2, .bool false)] (by kernel_rfl) ⟨fun ρz wz hE hA _ _ => core_val rfl rfl (o_assign rfl), trivial⟩ ?_
  intro ρ1 w1 hN hf hr
  have h0 := (hr 0 rfl).trans h0
  have hW := hW.trans hN
  have hsz := hW.size
  refine WP.seq ?_
  refine WP.rb mixed [[], [], [0, 1], [2]] [[0], [0], [], []] [(3, .int .u64 x_), (4, .int .u64 x_), (5, .bool (x_ != x_)), (2, .bool (x_ != x_))] (by kernel_rfl) ⟨fun ρz wz hE hA ⟨e0, _⟩ _ => core_val rfl rfl (o_move (e0.trans h0)),
 fun ρz wz hE hA ⟨e0, _⟩ _ => core_val rfl rfl (o_move (e0.trans h0)),
 fun ρz wz hE hA _ ⟨u0, u1, _⟩ => core_val rfl rfl (o_neq u0 u1 rfl),
 fun ρz wz hE hA _ ⟨u2, _⟩ => core_val rfl rfl (o_assign u2), trivial⟩ ?_
  intro ρ2 w2 hN hf hr
  have h2 : ρ2 2 = .bool (x_ != x_) := hf 3 rfl
  have hW := hW.trans hN
  have hsz := hW.size
  refine WP.ret ?_
  show retQ Tryd.prog 6 Tryd.f80 (fun v w1 => v = .bool r ∧ Ext noG w0 w1) .ret ρ2 w2
  obtain rfl := Option.some.inj hF
  exact res1 rfl (by decide) h2 ⟨rfl, hW⟩

set_option maxHeartbeats 4000000 in
theorem cmp_Compare_of_int_ok {w0 : World} (x_ : Int) (y_ : Int) {r : Int} (hF : cmp_Compare_of_int x_ y_ = some r) :
    Calls Tryd.prog 32 #[.int .i64 x_, .int .i64 y_] w0 fun e w1 => e = .returned (.int .i64 r) ∧ Ext noG w0 w1 := by
  refine (Calls.start (P := Tryd.prog) (args := [.int .i64 x_, .int .i64 y_]) (R := fun v w1 => v = .int .i64 r ∧ Ext noG w0 w1) (n := 20) (w := w0) Tryd.func32 rfl rfl (Nat.le_of_ble_eq_true rfl) (fun ρ hargs => ?_)).mono (fun e w1 ⟨v, he, hv, hE⟩ => ⟨hv ▸ he, hE⟩)
  have h0 := hargs 0 _ rfl
  have h1 := hargs 1 _ rfl
  have hW := Ext.refl noG w0
  have hsz := Nat.le_refl w0.heap.size
  rw [cmp_Compare_of_int] at hF
  refine WP.seq ?_
  refine WP.rb mixed [[]] [[]] [(4, .int .i64 0)] (by kernel_rfl) ⟨fun ρz wz hE hA _ _ => core_val rfl rfl (o_assign rfl), trivial⟩ ?_
  intro ρ1 w1 hN hf hr
  obtain ⟨h0, h1⟩ := k2 hr h0 h1 rfl
  have hW := hW.trans hN
  have hsz := hW.size
  refine WP.seq ?_
  obtain ⟨z, hz, hF⟩ := obind hF
  refine WP.rb mixed [[], [0], [1]] [[0], [], []] [(7, .int .i64 x_), (8, .bool z), (5, .bool z)] (by kernel_rfl) ⟨fun ρz wz hE hA ⟨e0, _⟩ _ => core_val rfl rfl (o_move (e0.trans h0)),
 fun ρz wz hE hA _ ⟨u0, _⟩ => core_call rfl (call_args1 u0) cf_49 (cmp_isNaN_of_int_ok  _  hz),
 fun ρz wz hE hA _ ⟨u1, _⟩ => core_val rfl rfl (o_assign u1), trivial⟩ ?_
  intro ρ2 w2 hN hf hr
  have h5 : ρ2 5 = .bool z := hf 2 rfl
  obtain ⟨h0, h1⟩ := k2 hr h0 h1 rfl
  have hW := hW.trans hN
  have hsz := hW.size
  refine WP.seq ?_
  obtain ⟨z2, hz2, hF⟩ := obind hF
  refine WP.rb mixed [[], [0], [1]] [[1], [], []] [(9, .int .i64 y_), (10, .bool z2), (6, .bool z2)] (by kernel_rfl) ⟨fun ρz wz hE hA ⟨e1, _⟩ _ => core_val rfl rfl (o_move (e1.trans h1)),
 fun ρz wz hE hA _ ⟨u0, _⟩ => core_call rfl (call_args1 u0) cf_49 (cmp_isNaN_of_int_ok  _  hz2),
 fun ρz wz hE hA _ ⟨u1, _⟩ => core_val rfl rfl (o_assign u1), trivial⟩ ?_
  intro ρ3 w3 hN hf hr
  have h6 : ρ3 6 = .bool z2 := hf 2 rfl
  obtain ⟨h0, h1, h5⟩ := k3 hr h0 h1 h5 rfl
  have hW := hW.trans hN
  have hsz := hW.size
  refine WP.seq ?_
  refine WP.seq ?_
  refine WP.rb mixed [[]] [[5]] [(11, .bool z)] (by kernel_rfl) ⟨fun ρz wz hE hA ⟨e5, _⟩ _ => core_val rfl rfl (o_move (e5.trans h5)), trivial⟩ ?_
  intro ρ4 w4 hN hf hr
  have h11 : ρ4 11 = .bool z := hf 0 rfl
  obtain ⟨h0, h1, h6⟩ := k3 hr h0 h1 h6 rfl
  have hW := hW.trans hN
  have hsz := hW.size
  refine WP.cond rfl h11 (fun hb => ?_) (fun hb => ?_)
  · have hF := (if_pos hb).symm.trans hF
    refine WP.seq ?_
    refine WP.seq ?_
    refine WP.rb mixed [[]] [[6]] [(12, .bool z2)] (by kernel_rfl) ⟨fun ρz wz hE hA ⟨e6, _⟩ _ => core_val rfl rfl (o_move (e6.trans h6)), trivial⟩ ?_
    intro ρ5 w5 hN hf hr
    have h12 : ρ5 12 = .bool z2 := hf 0 rfl
    have hW := hW.trans hN
    have hsz := hW.size
    refine WP.cond rfl h12 (fun hb => ?_) (fun hb => ?_)
    · have hF := (if_pos hb).symm.trans hF
      refine WP.seq ?_
      refine WP.rb mixed [[]] [[]] [(4, .int .i64 0)] (by kernel_rfl) ⟨fun ρz wz hE hA _ _ => core_val rfl rfl (o_assign rfl), trivial⟩ ?_
      intro ρ6 w6 hN hf hr
      have h4 : ρ6 4 = .int .i64 0 := hf 0 rfl
      have hW := hW.trans hN
      have hsz := hW.size
      refine WP.ret ?_
      show retQ Tryd.prog 20 Tryd.f32 (fun v w1 => v = .int .i64 r ∧ Ext noG w0 w1) .ret ρ6 w6
      obtain rfl := Option.some.inj hF
      exact res1 rfl (by decide) h4 ⟨rfl, hW⟩
    have hF := (if_neg (Bool.eq_false_iff.1 hb)).symm.trans hF
    refine WP.skip ?_
    refine WP.seq ?_
    refine WP.rb mixed [[]] [[]] [(4, .int .i64 (-1))] (by kernel_rfl) ⟨fun ρz wz hE hA _ _ => core_val rfl rfl (o_assign rfl), trivial⟩ ?_
    intro ρ7 w7 hN hf hr
    have h4 : ρ7 4 = .int .i64 (-1) := hf 0 rfl
    have hW := hW.trans hN
    have hsz := hW.size
    refine WP.ret ?_
    show retQ Tryd.prog 20 Tryd.f32 (fun v w1 => v = .int .i64 r ∧ Ext noG w0 w1) .ret ρ7 w7
    obtain rfl := Option.some.inj hF
    exact res1 rfl (by decide) h4 ⟨rfl, hW⟩
  have hF := (if_neg (Bool.eq_false_iff.1 hb)).symm.trans hF
  refine WP.skip ?_
  refine WP.seq ?_
  refine WP.seq ?_
  refine WP.rb mixed [[]] [[6]] [(13, .bool z2)] (by kernel_rfl) ⟨fun ρz wz hE hA ⟨e6, _⟩ _ => core_val rfl rfl (o_move (e6.trans h6)), trivial⟩ ?_
  intro ρ8 w8 hN hf hr
  have h13 : ρ8 13 = .bool z2 := hf 0 rfl
  obtain ⟨h0, h1⟩ := k2 hr h0 h1 rfl
  have hW := hW.trans hN
  have hsz := hW.size
  refine WP.cond rfl h13 (fun hb => ?_) (fun hb => ?_)
  · have hF := (if_pos hb).symm.trans hF
    refine WP.seq ?_
    refine WP.rb mixed [[]] [[]] [(4, .int .i64 1)] (by kernel_rfl) ⟨fun ρz wz hE hA _ _ => core_val rfl rfl (o_assign rfl), trivial⟩ ?_
    intro ρ9 w9 hN hf hr
    have h4 : ρ9 4 = .int .i64 1 := hf 0 rfl
    have hW := hW.trans hN
    have hsz := hW.size
    refine WP.ret ?_
    show retQ Tryd.prog 20 Tryd.f32 (fun v w1 => v = .int .i64 r ∧ Ext noG w0 w1) .ret ρ9 w9
    obtain rfl := Option.some.inj hF
    exact res1 rfl (by decide) h4 ⟨rfl, hW⟩
  have hF := (if_neg (Bool.eq_false_iff.1 hb)).symm.trans hF
  refine WP.skip ?_
  refine WP.seq ?_
  refine WP.seq ?_
  refine WP.rb mixed [[], [], [0, 1]] [[0], [1], []] [(14, .int .i64 x_), (15, .int .i64 y_), (16, .bool (decide (x_ < y_)))] (by kernel_rfl) ⟨fun ρz wz hE hA ⟨e0, _⟩ _ => core_val rfl rfl (o_move (e0.trans h0)),
 fun ρz wz hE hA ⟨e1, _⟩ _ => core_val rfl rfl (o_move (e1.trans h1)),
 fun ρz wz hE hA _ ⟨u0, u1, _⟩ => core_val rfl rfl (o_lss u0 u1 rfl), trivial⟩ ?_
  intro ρ10 w10 hN hf hr
  have h16 : ρ10 16 = .bool (decide (x_ < y_)) := hf 2 rfl
  obtain ⟨h0, h1⟩ := k2 hr h0 h1 rfl
  have hW := hW.trans hN
  have hsz := hW.size
  refine WP.cond rfl h16 (fun hb => ?_) (fun hb => ?_)
  · have hF := (if_pos hb).symm.trans hF
    refine WP.seq ?_
    refine WP.rb mixed [[]] [[]] [(4, .int .i64 (-1))] (by kernel_rfl) ⟨fun ρz wz hE hA _ _ => core_val rfl rfl (o_assign rfl), trivial⟩ ?_
    intro ρ11 w11 hN hf hr
    have h4 : ρ11 4 = .int .i64 (-1) := hf 0 rfl
    have hW := hW.trans hN
    have hsz := hW.size
    refine WP.ret ?_
    show retQ Tryd.prog 20 Tryd.f32 (fun v w1 => v = .int .i64 r ∧ Ext noG w0 w1) .ret ρ11 w11
    obtain rfl := Option.some.inj hF
    exact res1 rfl (by decide) h4 ⟨rfl, hW⟩
  have hF := (if_neg (Bool.eq_false_iff.1 hb)).symm.trans hF
  refine WP.skip ?_
  refine WP.seq ?_
  refine WP.seq ?_
  refine WP.rb mixed [[], [], [0, 1]] [[0], [1], []] [(17, .int .i64 x_), (18, .int .i64 y_), (19, .bool (decide (y_ < x_)))] (by kernel_rfl) ⟨fun ρz wz hE hA ⟨e0, _⟩ _ => core_val rfl rfl (o_move (e0.trans h0)),
 fun ρz wz hE hA ⟨e1, _⟩ _ => core_val rfl rfl (o_move (e1.trans h1)),
 fun ρz wz hE hA _ ⟨u0, u1, _⟩ => core_val rfl rfl (o_gtr u0 u1 rfl), trivial⟩ ?_
  intro ρ12 w12 hN hf hr
  have h19 : ρ12 19 = .bool (decide (y_ < x_)) := hf 2 rfl
  have hW := hW.trans hN
  have hsz := hW.size
  refine WP.cond rfl h19 (fun hb => ?_) (fun hb => ?_)
  · have hF := (if_pos hb).symm.trans hF
    refine WP.seq ?_
    refine WP.rb mixed [[]] [[]] [(4, .int .i64 1)] (by kernel_rfl) ⟨fun ρz wz hE hA _ _ => core_val rfl rfl (o_assign rfl), trivial⟩ ?_
    intro ρ13 w13 hN hf hr
    have h4 : ρ13 4 = .int .i64 1 := hf 0 rfl
    have hW := hW.trans hN
    have hsz := hW.size
    refine WP.ret ?_
    show retQ Tryd.prog 20 Tryd.f32 (fun v w1 => v = .int .i64 r ∧ Ext noG w0 w1) .ret ρ13 w13
    obtain rfl := Option.some.inj hF
    exact res1 rfl (by decide) h4 ⟨rfl, hW⟩
  have hF := (if_neg (Bool.eq_false_iff.1 hb)).symm.trans hF
  refine WP.skip ?_
  refine WP.seq ?_
  refine WP.rb mixed [[]] [[]] [(4, .int .i64 0)] (by kernel_rfl) ⟨fun ρz wz hE hA _ _ => core_val rfl rfl (o_assign rfl), trivial⟩ ?_
  intro ρ14 w14 hN hf hr
  have h4 : ρ14 4 = .int .i64 0 := hf 0 rfl
  have hW := hW.trans hN
  have hsz := hW.size
  refine WP.ret ?_
  show retQ Tryd.prog 20 Tryd.f32 (fun v w1 => v = .int .i64 r ∧ Ext noG w0 w1) .ret ρ14 w14
  obtain rfl := Option.some.inj hF
  exact res1 rfl (by decide) h4 ⟨rfl, hW⟩

set_option maxHeartbeats 4000000 in
theorem cmp_Compare_of_uint64_ok {w0 : World} (x_ : Int) (y_ : Int) {r : Int} (hF : cmp_Compare_of_uint64 x_ y_ = some r) :
    Calls Tryd.prog 51 #[.int .u64 x_, .int .u64 y_] w0 fun e w1 => e = .returned (.int .i64 r) ∧ Ext noG w0 w1 := by
  refine (Calls.start (P := Tryd.prog) (args := [.int .u64 x_, .int .u64 y_]) (R := fun v w1 => v = .int .i64 r ∧ Ext noG w0 w1) (n := 20) (w := w0) Tryd.func51 rfl rfl (Nat.le_of_ble_eq_true rfl) (fun ρ hargs => ?_)).mono (fun e w1 ⟨v, he, hv, hE⟩ => ⟨hv ▸ he, hE⟩)
  have h0 := hargs 0 _ rfl
  have h1 := hargs 1 _ rfl
  have hW := Ext.refl noG w0
  have hsz := Nat.le_refl w0.heap.size
  rw [cmp_Compare_of_uint64] at hF
  refine WP.seq ?_
  refine WP.rb mixed [[]] [[]] [(4, .int .i64 0)] (by kernel_rfl) ⟨fun ρz wz hE hA _ _ => core_val rfl rfl (o_assign rfl), trivial⟩ ?_
  intro ρ1 w1 hN hf hr
  obtain ⟨h0, h1⟩ := k2 hr h0 h1 rfl
  have hW := hW.trans hN
  have hsz := hW.size
  refine WP.seq ?_
  obtain ⟨z, hz, hF⟩ := obind hF
  refine WP.rb mixed [[], [0], [1]] [[0], [], []] [(7, .int .u64 x_), (8, .bool z), (5, .bool z)] (by kernel_rfl) ⟨fun ρz wz hE hA ⟨e0, _⟩ _ => core_val rfl rfl (o_move (e0.trans h0)),
 fun ρz wz hE hA _ ⟨u0, _⟩ => core_call rfl (call_args1 u0) cf_80 (cmp_isNaN_of_uint64_ok  _  hz),
 fun ρz wz hE hA _ ⟨u1, _⟩ => core_val rfl rfl (o_assign u1), trivial⟩ ?_
  intro ρ2 w2 hN hf hr
  have h5 : ρ2 5 = .bool z := hf 2 rfl
  obtain ⟨h0, h1⟩ := k2 hr h0 h1 rfl
  have hW := hW.trans hN
  have hsz := hW.size
  refine WP.seq ?_
  obtain ⟨z2, hz2, hF⟩ := obind hF
  refine WP.rb mixed [[], [0], [1]] [[1], [], []] [(9, .int .u64 y_), (10, .bool z2), (6, .bool z2)] (by kernel_rfl) ⟨fun ρz wz hE hA ⟨e1, _⟩ _ => core_val rfl rfl (o_move (e1.trans h1)),
 fun ρz wz hE hA _ ⟨u0, _⟩ => core_call rfl (call_args1 u0) cf_80 (cmp_isNaN_of_uint64_ok  _  hz2),
 fun ρz wz hE hA _ ⟨u1, _⟩ => core_val rfl rfl (o_assign u1), trivial⟩ ?_
  intro ρ3 w3 hN hf hr
  have h6 : ρ3 6 = .bool z2 := hf 2 rfl
  obtain ⟨h0, h1, h5⟩ := k3 hr h0 h1 h5 rfl
  have hW := hW.trans hN
  have hsz := hW.size
  refine WP.seq ?_
  refine WP.seq ?_
  refine WP.rb mixed [[]] [[5]] [(11, .bool z)] (by kernel_rfl) ⟨fun ρz wz hE hA ⟨e5, _⟩ _ => core_val rfl rfl (o_move (e5.trans h5)), trivial⟩ ?_
  intro ρ4 w4 hN hf hr
  have h11 : ρ4 11 = .bool z := hf 0 rfl
  obtain ⟨h0, h1, h6⟩ := k3 hr h0 h1 h6 rfl
  have hW := hW.trans hN
  have hsz := hW.size
  refine WP.cond rfl h11 (fun hb => ?_) (fun hb => ?_)
  · have hF := (if_pos hb).symm.trans hF
    refine WP.seq ?_
    refine WP.seq ?_
    refine WP.rb mixed [[]] [[6]] [(12, .bool z2)] (by kernel_rfl) ⟨fun ρz wz hE hA ⟨e6, _⟩ _ => core_val rfl rfl (o_move (e6.trans h6)), trivial⟩ ?_
    intro ρ5 w5 hN hf hr
    have h12 : ρ5 12 = .bool z2 := hf 0 rfl
    have hW := hW.trans hN
    have hsz := hW.size
    refine WP.cond rfl h12 (fun hb => ?_) (fun hb => ?_)
    · have hF := (if_pos hb).symm.trans hF
      refine WP.seq ?_
      refine WP.rb mixed [[]] [[]] [(4, .int .i64 0)] (by kernel_rfl) ⟨fun ρz wz hE hA _ _ => core_val rfl rfl (o_assign rfl), trivial⟩ ?_
      intro ρ6 w6 hN hf hr
      have h4 : ρ6 4 = .int .i64 0 := hf 0 rfl
      have hW := hW.trans hN
      have hsz := hW.size
      refine WP.ret ?_
      show retQ Tryd.prog 20 Tryd.f51 (fun v w1 => v = .int .i64 r ∧ Ext noG w0 w1) .ret ρ6 w6
      obtain rfl := Option.some.inj hF
      exact res1 rfl (by decide) h4 ⟨rfl, hW⟩
    have hF := (if_neg (Bool.eq_false_iff.1 hb)).symm.trans hF
    refine WP.skip ?_
    refine WP.seq ?_
    refine WP.rb mixed [[]] [[]] [(4, .int .i64 (-1))] (by kernel_rfl) ⟨fun ρz wz hE hA _ _ => core_val rfl rfl (o_assign rfl), trivial⟩ ?_
    intro ρ7 w7 hN hf hr
    have h4 : ρ7 4 = .int .i64 (-1) := hf 0 rfl
    have hW := hW.trans hN
    have hsz := hW.size
    refine WP.ret ?_
    show retQ Tryd.prog 20 Tryd.f51 (fun v w1 => v = .int .i64 r ∧ Ext noG w0 w1) .ret ρ7 w7
    obtain rfl := Option.some.inj hF
    exact res1 rfl (by decide) h4 ⟨rfl, hW⟩
  have hF := (if_neg (Bool.eq_false_iff.1 hb)).symm.trans hF
  refine WP.skip ?_
  refine WP.seq ?_
  refine WP.seq ?_
  refine WP.rb mixed [[]] [[6]] [(13, .bool z2)] (by kernel_rfl) ⟨fun ρz wz hE hA ⟨e6, _⟩ _ => core_val rfl rfl (o_move (e6.trans h6)), trivial⟩ ?_
  intro ρ8 w8 hN hf hr
  have h13 : ρ8 13 = .bool z2 := hf 0 rfl
  obtain ⟨h0, h1⟩ := k2 hr h0 h1 rfl
  have hW := hW.trans hN
  have hsz := hW.size
  refine WP.cond rfl h13 (fun hb => ?_) (fun hb => ?_)
  · have hF := (if_pos hb).symm.trans hF
    refine WP.seq ?_
    refine WP.rb mixed [[]] [[]] [(4, .int .i64 1)] (by kernel_rfl) ⟨fun ρz wz hE hA _ _ => core_val rfl rfl (o_assign rfl), trivial⟩ ?_
    intro ρ9 w9 hN hf hr
    have h4 : ρ9 4 = .int .i64 1 := hf 0 rfl
    have hW := hW.trans hN
    have hsz := hW.size
    refine WP.ret ?_
    show retQ Tryd.prog 20 Tryd.f51 (fun v w1 => v = .int .i64 r ∧ Ext noG w0 w1) .ret ρ9 w9
    obtain rfl := Option.some.inj hF
    exact res1 rfl (by decide) h4 ⟨rfl, hW⟩
  have hF := (if_neg (Bool.eq_false_iff.1 hb)).symm.trans hF
  refine WP.skip ?_
  refine WP.seq ?_
  refine WP.seq ?_
  refine WP.rb mixed [[], [], [0, 1]] [[0], [1], []] [(14, .int .u64 x_), (15, .int .u64 y_), (16, .bool (decide (x_ < y_)))] (by kernel_rfl) ⟨fun ρz wz hE hA ⟨e0, _⟩ _ => core_val rfl rfl (o_move (e0.trans h0)),
 fun ρz wz hE hA ⟨e1, _⟩ _ => core_val rfl rfl (o_move (e1.trans h1)),
 fun ρz wz hE hA _ ⟨u0, u1, _⟩ => core_val rfl rfl (o_lss u0 u1 rfl), trivial⟩ ?_
  intro ρ10 w10 hN hf hr
  have h16 : ρ10 16 = .bool (decide (x_ < y_)) := hf 2 rfl
  obtain ⟨h0, h1⟩ := k2 hr h0 h1 rfl
  have hW := hW.trans hN
  have hsz := hW.size
  refine WP.cond rfl h16 (fun hb => ?_) (fun hb => ?_)
  · have hF := (if_pos hb).symm.trans hF
    refine WP.seq ?_
    refine WP.rb mixed [[]] [[]] [(4, .int .i64 (-1))] (by kernel_rfl) ⟨fun ρz wz hE hA _ _ => core_val rfl rfl (o_assign rfl), trivial⟩ ?_
    intro ρ11 w11 hN hf hr
    have h4 : ρ11 4 = .int .i64 (-1) := hf 0 rfl
    have hW := hW.trans hN
    have hsz := hW.size
    refine WP.ret ?_
    show retQ Tryd.prog 20 Tryd.f51 (fun v w1 => v = .int .i64 r ∧ Ext noG w0 w1) .ret ρ11 w11
    obtain rfl := Option.some.inj hF
    exact res1 rfl (by decide) h4 ⟨rfl, hW⟩
  have hF := (if_neg (Bool.eq_false_iff.1 hb)).symm.trans hF
  refine WP.skip ?_
  refine WP.seq ?_
  refine WP.seq ?_
  refine WP.rb mixed [[], [], [0, 1]] [[0], [1], []] [(17, .int .u64 x_), (18, .int .u64 y_), (19, .bool (decide (y_ < x_)))] (by kernel_rfl) ⟨fun ρz wz hE hA ⟨e0, _⟩ _ => core_val rfl rfl (o_move (e0.trans h0)),
 fun ρz wz hE hA ⟨e1, _⟩ _ => core_val rfl rfl (o_move (e1.trans h1)),
 fun ρz wz hE hA _ ⟨u0, u1, _⟩ => core_val rfl rfl (o_gtr u0 u1 rfl), trivial⟩ ?_
  intro ρ12 w12 hN hf hr
  have h19 : ρ12 19 = .bool (decide (y_ < x_)) := hf 2 rfl
  have hW := hW.trans hN
  have hsz := hW.size
  refine WP.cond rfl h19 (fun hb => ?_) (fun hb => ?_)
  · have hF := (if_pos hb).symm.trans hF
    refine WP.seq ?_
    refine WP.rb mixed [[]] [[]] [(4, .int .i64 1)] (by kernel_rfl) ⟨fun ρz wz hE hA _ _ => core_val rfl rfl (o_assign rfl), trivial⟩ ?_
    intro ρ13 w13 hN hf hr
    have h4 : ρ13 4 = .int .i64 1 := hf 0 rfl
    have hW := hW.trans hN
    have hsz := hW.size
    refine WP.ret ?_
    show retQ Tryd.prog 20 Tryd.f51 (fun v w1 => v = .int .i64 r ∧ Ext noG w0 w1) .ret ρ13 w13
    obtain rfl := Option.some.inj hF
    exact res1 rfl (by decide) h4 ⟨rfl, hW⟩
  have hF := (if_neg (Bool.eq_false_iff.1 hb)).symm.trans hF
  refine WP.skip ?_
  refine WP.seq ?_
  refine WP.rb mixed [[]] [[]] [(4, .int .i64 0)] (by kernel_rfl) ⟨fun ρz wz hE hA _ _ => core_val rfl rfl (o_assign rfl), trivial⟩ ?_
  intro ρ14 w14 hN hf hr
  have h4 : ρ14 4 = .int .i64 0 := hf 0 rfl
  have hW := hW.trans hN
  have hsz := hW.size
  refine WP.ret ?_
  show retQ Tryd.prog 20 Tryd.f51 (fun v w1 => v = .int .i64 r ∧ Ext noG w0 w1) .ret ρ14 w14
  obtain rfl := Option.some.inj hF
  exact res1 rfl (by decide) h4 ⟨rfl, hW⟩

set_option maxHeartbeats 4000000 in
theorem pensionref1_RateAt_ok {w0 : World} (t_ : List Rate) (currency_ : Int) (month_ : Int) {v_t_ : Value} (H_t_ : RepSl Rate.R noG w0 v_t_ t_) {r : Fraction × Bool} (hF : pensionref1_RateAt t_ currency_ month_ = some r) :
    Calls Tryd.prog 64 #[v_t_, .int .i64 currency_, .int .i64 month_] w0 fun e w1 => e = .returned (.tuple #[Fraction.val r.1, .bool r.2]) ∧ Ext noG w0 w1 := by
  refine (Calls.start (P := Tryd.prog) (args := [v_t_, .int .i64 currency_, .int .i64 month_]) (R := fun v w1 => v = .tuple #[Fraction.val r.1, .bool r.2] ∧ Ext noG w0 w1) (n := 58) (w := w0) Tryd.func64 rfl rfl (Nat.le_of_ble_eq_true rfl) (fun ρ hargs => ?_)).mono (fun e w1 ⟨v, he, hv, hE⟩ => ⟨hv ▸ he, hE⟩)
  have h0 := hargs 0 _ rfl
  have h1 := hargs 1 _ rfl
  have h2 := hargs 2 _ rfl
  have hW := Ext.refl noG w0
  have hsz := Nat.le_refl w0.heap.size
  obtain ⟨_, _, hs_H_t_, _, _⟩ := RepSl.shape H_t_
  have H_t_ := H_t_.start
  rw [pensionref1_RateAt] at hF
  refine WP.seq ?_
  refine WP.rg mixed [[], []] [[], []] [[], []] [(6, fun u wz => ∃ b, u = .pointer (some ⟨b, 0, none⟩) ∧ w0.heap.size ≤ b ∧ Mb wz b 54 (Fraction.cells (⟨0, 0⟩ : Fraction))), val 7 (.bool false)] (by kernel_rfl) ⟨fun _ _ _ hE ⟨b, hb, hs, hM⟩ => ⟨b, hb, hs, hM.exn hE⟩, sV, trivial⟩ ⟨fun ρz wz hE hA _ _ => core_new rfl rfl hE (o_alloc (al_54 _)),
 fun ρz wz hE hA _ _ => core_val rfl rfl (o_assign rfl), trivial⟩ ?_
  intro ρ1 w1 hN hf hr
  obtain ⟨b6_, h6, hge_b6_, Hb_b6_⟩ := hf 0 rfl
  obtain ⟨h0, h1, h2⟩ := k3 hr h0 h1 h2 rfl
  have H_t_ := H_t_.exn hN
  have hW := hW.trans hN
  have hB_b6_ : w0.heap.size ≤ b6_ := Nat.le_trans hsz hge_b6_
  have hsz := hW.size
  refine WP.seq ?_
  refine WP.rb mixed [[]] [[]] [(8, .int .i64 (-1))] (by kernel_rfl) ⟨fun ρz wz hE hA _ _ => core_val rfl rfl (o_assign rfl), trivial⟩ ?_
  intro ρ2 w2 hN hf hr
  have h8 : ρ2 8 = .int .i64 (-1) := hf 0 rfl
  obtain ⟨h0, h1, h2, h6⟩ := k4 hr h0 h1 h2 h6 rfl
  have Hb_b6_n := Hb_b6_.exn hN
  have H_t_ := H_t_.exn hN
  have hW := hW.trans hN
  have Hb_b6_ := Hb_b6_n
  have hsz := hW.size
  refine WP.seq ?_
  refine WP.seq ?_
  refine WP.rb mixed [[]] [[]] [(9, .int .i64 0)] (by kernel_rfl) ⟨fun ρz wz hE hA _ _ => core_val rfl rfl (o_assign rfl), trivial⟩ ?_
  intro ρ3 w3 hN hf hr
  have h9 : ρ3 9 = .int .i64 0 := hf 0 rfl
  obtain ⟨h0, h1, h2, h6, h8⟩ := k5 hr h0 h1 h2 h6 h8 rfl
  have Hb_b6_n := Hb_b6_.exn hN
  have H_t_ := H_t_.exn hN
  have hW := hW.trans hN
  have Hb_b6_ := Hb_b6_n
  have hsz := hW.size
  refine WP.block ?_
  refine WP.loop (fun k_ ρ w => ∃ at_ : Int, ∃ i_ : Int, ρ 0 = v_t_ ∧ ρ 1 = .int .i64 currency_ ∧ ρ 2 = .int .i64 month_ ∧ ρ 6 = .pointer (some ⟨b6_, 0, none⟩) ∧ ρ 8 = .int .i64 at_ ∧ ρ 9 = .int .i64 i_ ∧ Mb w b6_ 54 (Fraction.cells (⟨0, 0⟩ : Fraction)) ∧ RepSl Rate.R (gfr noG w0) w v_t_ t_ ∧ Ext noG w0 w ∧ w0.heap.size ≤ w.heap.size ∧ loopC k_ (pensionref1_RateAt_l t_ currency_ month_) (at_, i_) = some r) FU ⟨(-1), 0, h0, h1, h2, h6, h8, h9, Hb_b6_, H_t_, hW, hsz, hF⟩ (fun _ _ h => by obtain ⟨_, _, _, _, _, _, _, _, _, _, _, _, h⟩ := h; cases h) ?_
  rintro k_ ρ4 w4 ⟨at_, i_, h0, h1, h2, h6, h8, h9, Hb_b6_, H_t_, hW, hsz, hF⟩
  have hF : pensionref1_RateAt_l t_ currency_ month_ (loopC k_ (pensionref1_RateAt_l t_ currency_ month_)) (at_, i_) = some r := hF
  generalize hrec_ : loopC k_ (pensionref1_RateAt_l t_ currency_ month_) = rec_ at hF
  rw [pensionref1_RateAt_l] at hF
  refine WP.seq ?_
  refine WP.seq ?_
  refine WP.rb mixed [[], [], [1], [0, 2]] [[9], [0], [], []] [(10, .int .i64 i_), (11, v_t_), (12, .int .i64 (t_.length : Int)), (13, .bool (decide (i_ < (t_.length : Int))))] (by kernel_rfl) ⟨fun ρz wz hE hA ⟨e9, _⟩ _ => core_val rfl rfl (o_move (e9.trans h9)),
 fun ρz wz hE hA ⟨e0, _⟩ _ => core_val rfl rfl (o_move (e0.trans h0)),
 fun ρz wz hE hA _ ⟨u1, _⟩ => core_val rfl rfl (o_len (u1.trans hs_H_t_) len_26),
 fun ρz wz hE hA _ ⟨u0, u2, _⟩ => core_val rfl rfl (o_lss u0 u2 rfl), trivial⟩ ?_
  intro ρ5 w5 hN hf hr
  have h13 : ρ5 13 = .bool (decide (i_ < (t_.length : Int))) := hf 3 rfl
  obtain ⟨h0, h1, h2, h6, h8, h9⟩ := k6 hr h0 h1 h2 h6 h8 h9 rfl
  have Hb_b6_n := Hb_b6_.exn hN
  have H_t_ := H_t_.exn hN
  have hW := hW.trans hN
  have Hb_b6_ := Hb_b6_n
  have hsz := hW.size
  refine WP.cond rfl h13 (fun hb => ?_) (fun hb => ?_)
  · have hF := (if_pos hb).symm.trans hF
    refine WP.skip ?_
    refine WP.seqJ (fun ρ w => ∃ at_2 : Int, ρ 0 = v_t_ ∧ ρ 1 = .int .i64 currency_ ∧ ρ 2 = .int .i64 month_ ∧ ρ 6 = .pointer (some ⟨b6_, 0, none⟩) ∧ ρ 8 = .int .i64 at_2 ∧ ρ 9 = .int .i64 i_ ∧ Mb w b6_ 54 (Fraction.cells (⟨0, 0⟩ : Fraction)) ∧ RepSl Rate.R (gfr noG w0) w v_t_ t_ ∧ Ext noG w0 w ∧ w0.heap.size ≤ w.heap.size ∧ pensionref1_RateAt_j i_ rec_ at_2 = some r) ?_ ?_
    · refine WP.block ?_
      refine WP.seq ?_
      obtain ⟨y, hy, hF⟩ := obind hF
      obtain ⟨ay, cy, hvy, hiy, hAy⟩ := RepSl.getF H_t_ hy
      obtain ⟨c, hc, hF⟩ := obind hF
      obtain ⟨y2, hy2, hc⟩ := andB hc
      obtain ⟨ay2, cy2, hvy2, hiy2, hAy2⟩ := RepSl.getFI H_t_ hy2
      have hc := andE hc
      obtain ⟨c3, hc3, hF⟩ := obind hF
      obtain ⟨c2, hc2, hc3⟩ := andB hc3
      obtain ⟨y3, hy3, hc2⟩ := orBI hc2
      obtain ⟨ay3, cy3, hvy3, hiy3, hAy3⟩ := RepSl.getFI H_t_ hy3
      obtain ⟨y4, hy4, hc2⟩ := orBI hc2
      obtain ⟨ay4, cy4, hvy4, hiy4, hAy4⟩ := RepSl.getFI H_t_ hy4
      have hc2 := orEI hc2
      have hc3 := andE hc3
      refine WP.rb mixed [[], [], [0, 1], [2], [3], [], [4, 5], [6], [7], [7], [7, 8, 9], [7, 10], [7, 11], [7], [7, 12, 13], [7, 14], [15], [16], [16, 17], [16, 18], [19], [19], [19, 20, 21], [19, 22], [19, 23], [19], [19], [19, 25, 26], [19, 27], [19, 28], [19, 24, 29], [16, 19, 30], [16, 31]] [[0], [9], [], [], [], [1], [], [], [0], [9], [], [], [], [2], [], [], [], [8], [], [], [0], [9], [], [], [], [0], [8], [], [], [], [], [], []] [(16, v_t_), (17, .int .i64 i_), (18, .pointer (some (ay.add (Int.toNat i_ * 4)))), (19, .pointer (some ((ay.add (Int.toNat i_ * 4)).add 0))), (20, .int .i64 y.Currency), (21, .int .i64 currency_), (22, .bool (y.Currency == currency_)), (23, .bool (y.Currency == currency_)), (24, gv ((y.Currency == currency_)) v_t_), (25, gv ((y.Currency == currency_)) (.int .i64 i_)), (26, gv ((y.Currency == currency_)) (.pointer (some (ay2.add (Int.toNat i_ * 4))))), (27, gv ((y.Currency == currency_)) (.pointer (some ((ay2.add (Int.toNat i_ * 4)).add 1)))), (28, gv ((y.Currency == currency_)) (.int .i64 y2.Month)), (29, gv ((y.Currency == currency_)) (.int .i64 month_)), (30, gv ((y.Currency == currency_)) (.bool (decide (y2.Month ≤ month_)))), (31, .bool c), (32, .bool c), (33, gv (c) (.int .i64 at_)), (34, gv (c) (.bool (decide (at_ < 0)))), (35, gv (c) (.bool (decide (at_ < 0)))), (36, gv (c && !(decide (at_ < 0))) v_t_), (37, gv (c && !(decide (at_ < 0))) (.int .i64 i_)), (38, gv (c && !(decide (at_ < 0))) (.pointer (some (ay3.add (Int.toNat i_ * 4))))), (39, gv (c && !(decide (at_ < 0))) (.pointer (some ((ay3.add (Int.toNat i_ * 4)).add 1)))), (40, gv (c && !(decide (at_ < 0))) (.int .i64 y3.Month)), (41, gv (c && !(decide (at_ < 0))) v_t_), (42, gv (c && !(decide (at_ < 0))) (.int .i64 at_)), (43, gv (c && !(decide (at_ < 0))) (.pointer (some (ay4.add (Int.toNat at_ * 4))))), (44, gv (c && !(decide (at_ < 0))) (.pointer (some ((ay4.add (Int.toNat at_ * 4)).add 1)))), (45, gv (c && !(decide (at_ < 0))) (.int .i64 y4.Month)), (46, gv (c && !(decide (at_ < 0))) (.bool (decide (y4.Month < y3.Month)))), (47, gv (c) (.bool c2)), (48, .bool c3)] (by kernel_rfl) ⟨fun ρz wz hE hA ⟨e0, _⟩ _ => core_val rfl rfl (o_move (e0.trans h0)),
 fun ρz wz hE hA ⟨e9, _⟩ _ => core_val rfl rfl (o_move (e9.trans h9)),
 fun ρz wz hE hA _ ⟨u0, u1, _⟩ => core_val rfl rfl (o_indexAddr (u0.trans hvy) u1 (ia_26 hiy)),
 fun ρz wz hE hA _ ⟨u2, _⟩ => core_val rfl rfl (o_fieldAddr u2 (fa_57_0 _ _)),
 fun ρz wz hE hA _ ⟨u3, _⟩ => core_val rfl rfl (o_load u3 (run_load1 (lr_3 _ _) (CA.sub ((hAy.exn (hA rfl)).ca) 0 1))),
 fun ρz wz hE hA ⟨e1, _⟩ _ => core_val rfl rfl (o_move (e1.trans h1)),
 fun ρz wz hE hA _ ⟨u4, u5, _⟩ => core_val rfl rfl (o_eql u4 u5 rfl),
 fun ρz wz hE hA _ ⟨u6, _⟩ => core_val rfl rfl (o_move u6),
 fun ρz wz hE hA ⟨e0, _⟩ ⟨u7, _⟩ => gIf rfl rfl (yT rfl u7) fun gc F hF => core_val rfl hF (o_move (e0.trans h0)),
 fun ρz wz hE hA ⟨e9, _⟩ ⟨u7, _⟩ => gIf rfl rfl (yT rfl u7) fun gc F hF => core_val rfl hF (o_move (e9.trans h9)),
 fun ρz wz hE hA _ ⟨u7, u8, u9, _⟩ => gIf rfl rfl (yT rfl u7) fun gc F hF => core_val rfl hF (o_indexAddr ((gt gc u8).trans (hvy2 gc)) (gt gc u9) (ia_26 (hiy2 gc))),
 fun ρz wz hE hA _ ⟨u7, u10, _⟩ => gIf rfl rfl (yT rfl u7) fun gc F hF => core_val rfl hF (o_fieldAddr (gt gc u10) (fa_57_1 _ _)),
 fun ρz wz hE hA _ ⟨u7, u11, _⟩ => gIf rfl rfl (yT rfl u7) fun gc F hF => core_val rfl hF (o_load (gt gc u11) (run_load1 (lr_3 _ _) (CA.sub (((hAy2 gc).exn (hA rfl)).ca) 1 1))),
 fun ρz wz hE hA ⟨e2, _⟩ ⟨u7, _⟩ => gIf rfl rfl (yT rfl u7) fun gc F hF => core_val rfl hF (o_move (e2.trans h2)),
 fun ρz wz hE hA _ ⟨u7, u12, u13, _⟩ => gIf rfl rfl (yT rfl u7) fun gc F hF => core_val rfl hF (o_leq (gt gc u12) (gt gc u13) rfl),
 fun ρz wz hE hA _ ⟨u7, u14, _⟩ => core_valE rfl rfl (congrArg Value.bool hc) (o_pick_and u7 u14 rfl),
 fun ρz wz hE hA _ ⟨u15, _⟩ => core_val rfl rfl (o_move u15),
 fun ρz wz hE hA ⟨e8, _⟩ ⟨u16, _⟩ => gIf rfl rfl (yT rfl u16) fun gc F hF => core_val rfl hF (o_move (e8.trans h8)),
 fun ρz wz hE hA _ ⟨u16, u17, _⟩ => gIf rfl rfl (yT rfl u16) fun gc F hF => core_val rfl hF (o_lss (gt gc u17) rfl rfl),
 fun ρz wz hE hA _ ⟨u16, u18, _⟩ => gIf rfl rfl (yT rfl u16) fun gc F hF => core_val rfl hF (o_move (gt gc u18)),
 fun ρz wz hE hA ⟨e0, _⟩ ⟨u19, _⟩ => gIf rfl rfl (yFG rfl u19) fun gc F hF => core_val rfl hF (o_move (e0.trans h0)),
 fun ρz wz hE hA ⟨e9, _⟩ ⟨u19, _⟩ => gIf rfl rfl (yFG rfl u19) fun gc F hF => core_val rfl hF (o_move (e9.trans h9)),
 fun ρz wz hE hA _ ⟨u19, u20, u21, _⟩ => gIf rfl rfl (yFG rfl u19) fun gc F hF => core_val rfl hF (o_indexAddr ((gt gc u20).trans (hvy3 gc)) (gt gc u21) (ia_26 (hiy3 gc))),
 fun ρz wz hE hA _ ⟨u19, u22, _⟩ => gIf rfl rfl (yFG rfl u19) fun gc F hF => core_val rfl hF (o_fieldAddr (gt gc u22) (fa_57_1 _ _)),
 fun ρz wz hE hA _ ⟨u19, u23, _⟩ => gIf rfl rfl (yFG rfl u19) fun gc F hF => core_val rfl hF (o_load (gt gc u23) (run_load1 (lr_3 _ _) (CA.sub (((hAy3 gc).exn (hA rfl)).ca) 1 1))),
 fun ρz wz hE hA ⟨e0, _⟩ ⟨u19, _⟩ => gIf rfl rfl (yFG rfl u19) fun gc F hF => core_val rfl hF (o_move (e0.trans h0)),
 fun ρz wz hE hA ⟨e8, _⟩ ⟨u19, _⟩ => gIf rfl rfl (yFG rfl u19) fun gc F hF => core_val rfl hF (o_move (e8.trans h8)),
 fun ρz wz hE hA _ ⟨u19, u25, u26, _⟩ => gIf rfl rfl (yFG rfl u19) fun gc F hF => core_val rfl hF (o_indexAddr ((gt gc u25).trans (hvy4 gc)) (gt gc u26) (ia_26 (hiy4 gc))),
 fun ρz wz hE hA _ ⟨u19, u27, _⟩ => gIf rfl rfl (yFG rfl u19) fun gc F hF => core_val rfl hF (o_fieldAddr (gt gc u27) (fa_57_1 _ _)),
 fun ρz wz hE hA _ ⟨u19, u28, _⟩ => gIf rfl rfl (yFG rfl u19) fun gc F hF => core_val rfl hF (o_load (gt gc u28) (run_load1 (lr_3 _ _) (CA.sub (((hAy4 gc).exn (hA rfl)).ca) 1 1))),
 fun ρz wz hE hA _ ⟨u19, u24, u29, _⟩ => gIf rfl rfl (yFG rfl u19) fun gc F hF => core_val rfl hF (o_gtr (gt gc u24) (gt gc u29) rfl),
 fun ρz wz hE hA _ ⟨u16, u19, u30, _⟩ => gIf rfl rfl (yT rfl u16) fun gc F hF => core_valE rfl hF (congrArg Value.bool (hc2 gc)) (o_pick_or (gt gc u19) rfl (gr gc u30)),
 fun ρz wz hE hA _ ⟨u16, u31, _⟩ => core_valE rfl rfl (congrArg Value.bool hc3) (o_pick_and u16 u31 rfl), trivial⟩ ?_
      intro ρ8 w8 hN hf hr
      have h48 : ρ8 48 = .bool c3 := hf 32 rfl
      obtain ⟨h0, h1, h2, h6, h8, h9⟩ := k6 hr h0 h1 h2 h6 h8 h9 rfl
      have Hb_b6_n := Hb_b6_.exn hN
      have H_t_ := H_t_.exn hN
      have hW := hW.trans hN
      have Hb_b6_ := Hb_b6_n
      have hsz := hW.size
      refine WP.cond rfl h48 (fun hb => ?_) (fun hb => ?_)
      · have hF := (if_pos hb).symm.trans hF
        refine WP.rb mixed [[], [0]] [[9], []] [(49, .int .i64 i_), (8, .int .i64 i_)] (by kernel_rfl) ⟨fun ρz wz hE hA ⟨e9, _⟩ _ => core_val rfl rfl (o_move (e9.trans h9)),
 fun ρz wz hE hA _ ⟨u0, _⟩ => core_val rfl rfl (o_assign u0), trivial⟩ ?_
        intro ρ9 w9 hN hf hr
        have h8 : ρ9 8 = .int .i64 i_ := hf 1 rfl
        obtain ⟨h0, h1, h2, h6, h9⟩ := k5 hr h0 h1 h2 h6 h9 rfl
        have Hb_b6_n := Hb_b6_.exn hN
        have H_t_ := H_t_.exn hN
        have hW := hW.trans hN
        have Hb_b6_ := Hb_b6_n
        have hsz := hW.size
        exact ⟨i_, h0, h1, h2, h6, h8, h9, Hb_b6_, H_t_, hW, hsz, hF⟩
      have hF := (if_neg (Bool.eq_false_iff.1 hb)).symm.trans hF
      refine WP.skip ?_
      exact ⟨at_, h0, h1, h2, h6, h8, h9, Hb_b6_, H_t_, hW, hsz, hF⟩
    rintro ρ6 w6 ⟨at_2, h0, h1, h2, h6, h8, h9, Hb_b6_, H_t_, hW, hsz, hF⟩
    rw [pensionref1_RateAt_j] at hF
    refine WP.rv mixed [[], [0], [0, 1]] [[], [0], [1]] [[9], [], []] [(14, .int .i64 i_), (15, .int .i64 (i64 (i_ + 1))), (9, .int .i64 (i64 (i_ + 1)))] (by kernel_rfl) ⟨fun ρz wz hE hA ⟨e9, _⟩ _ => core_val rfl rfl (o_move (e9.trans h9)),
 fun ρz wz hE hA _ ⟨u0, _⟩ => core_val rfl rfl (o_add u0 rfl rfl),
 fun ρz wz hE hA _ ⟨u1, _⟩ => core_val rfl rfl (o_assign u1), trivial⟩ ?_
    intro ρ7 w7 hN hf hr
    have h9 : ρ7 9 = .int .i64 (i64 (i_ + 1)) := hf 2 rfl
    obtain ⟨h0, h1, h2, h6, h8⟩ := k5 hr h0 h1 h2 h6 h8 rfl
    have Hb_b6_n := Hb_b6_.exn hN
    have H_t_ := H_t_.exn hN
    have hW := hW.trans hN
    have Hb_b6_ := Hb_b6_n
    have hsz := hW.size
    exact ⟨at_2, i64 (i_ + 1), h0, h1, h2, h6, h8, h9, Hb_b6_, H_t_, hW, hsz, (by first | exact hF | (rw [hrec_]; exact hF))⟩
  have hF := (if_neg (Bool.eq_false_iff.1 hb)).symm.trans hF
  refine WP.exit ?_
  refine thenQ_exit ?_
  refine thenQ_exit ?_
  refine blockQ_hit ?_
  refine WP.seq ?_
  refine WP.seq ?_
  refine WP.rb mixed [[], [0]] [[8], []] [(50, .int .i64 at_), (51, .bool (decide (at_ < 0)))] (by kernel_rfl) ⟨fun ρz wz hE hA ⟨e8, _⟩ _ => core_val rfl rfl (o_move (e8.trans h8)),
 fun ρz wz hE hA _ ⟨u0, _⟩ => core_val rfl rfl (o_lss u0 rfl rfl), trivial⟩ ?_
  intro ρ10 w10 hN hf hr
  have h51 : ρ10 51 = .bool (decide (at_ < 0)) := hf 1 rfl
  obtain ⟨h0, h6, h8⟩ := k3 hr h0 h6 h8 rfl
  have Hb_b6_n := Hb_b6_.exn hN
  have H_t_ := H_t_.exn hN
  have hW := hW.trans hN
  have Hb_b6_ := Hb_b6_n
  have hsz := hW.size
  refine WP.cond rfl h51 (fun hb => ?_) (fun hb => ?_)
  · have hF := (if_pos hb).symm.trans hF
    refine WP.seq ?_
    refine WP.region mixed [[], [0], [1]] [[], [0], []] [[], [6], []] [1] [] [val 52 (Fraction.val (⟨0, 0⟩ : Fraction)), (6, fun _ wz => Mb wz b6_ 54 (Fraction.cells (⟨0, 0⟩ : Fraction))), val 7 (.bool false)] (fun x => x = b6_) (by kernel_rfl) ⟨sV, fun _ _ _ hE hM => hM.exn hE, sV, trivial⟩ ⟨fun ρz wz hE hA _ _ => core_val rfl rfl (o_build (by simp) (bd_54_  _)),
 fun ρz wz hE hA ⟨e6, _⟩ ⟨u0, _⟩ => core_storeBox rfl rfl (fun _ h => h) (e6.trans h6) u0 (Hb_b6_.exn (hA rfl)) (fun a w => st_54 _ a w) rfl (one_54 _),
 fun ρz wz hE hA _ _ => core_val rfl rfl (o_assign rfl), trivial⟩ ?_
    intro ρ11 w11 hE hN hf hr
    have h7 : ρ11 7 = .bool false := hf 2 rfl
    have h6 := (hr 6 rfl).trans h6
    have Hb_b6_n := hf 1 rfl
    have hW := Ext.own hW hE (fun x h => h.symm ▸ hB_b6_)
    have Hb_b6_ := Hb_b6_n
    have hsz := hW.size
    refine WP.ret ?_
    show retQ Tryd.prog 58 Tryd.f64 (fun v w1 => v = .tuple #[Fraction.val r.1, .bool r.2] ∧ Ext noG w0 w1) .ret ρ11 w11
    obtain rfl := Option.some.inj hF
    exact resC1 rfl (by decide) (by decide) h6 (run_loadN (cs := (Fraction.cells (⟨0, 0⟩ : Fraction))) (lr_54 _ _) rfl Hb_b6_.ca) h7 ⟨rfl, hW⟩
  have hF := (if_neg (Bool.eq_false_iff.1 hb)).symm.trans hF
  refine WP.skip ?_
  refine WP.seq ?_
  obtain ⟨y5, hy5, hF⟩ := obind hF
  obtain ⟨ay5, cy5, hvy5, hiy5, hAy5⟩ := RepSl.getF H_t_ hy5
  refine WP.region mixed [[], [], [0, 1], [2], [3], [4], [5]] [[], [], [0, 1], [2], [3], [4], []] [[0], [8], [], [], [], [6], []] [5] [] [val 53 (v_t_), val 54 (.int .i64 at_), val 55 (.pointer (some (ay5.add (Int.toNat at_ * 4)))), val 56 (.pointer (some ((ay5.add (Int.toNat at_ * 4)).add 2))), val 57 (Fraction.val y5.Value), (6, fun _ wz => Mb wz b6_ 54 (Fraction.cells y5.Value)), val 7 (.bool true)] (fun x => x = b6_) (by kernel_rfl) ⟨sV, sV, sV, sV, sV, fun _ _ _ hE hM => hM.exn hE, sV, trivial⟩ ⟨fun ρz wz hE hA ⟨e0, _⟩ _ => core_val rfl rfl (o_move (e0.trans h0)),
 fun ρz wz hE hA ⟨e8, _⟩ _ => core_val rfl rfl (o_move (e8.trans h8)),
 fun ρz wz hE hA _ ⟨u0, u1, _⟩ => core_val rfl rfl (o_indexAddr (u0.trans hvy5) u1 (ia_26 hiy5)),
 fun ρz wz hE hA _ ⟨u2, _⟩ => core_val rfl rfl (o_fieldAddr u2 (fa_57_2 _ _)),
 fun ρz wz hE hA _ ⟨u3, _⟩ => core_val rfl rfl (o_load u3 (run_loadN (cs := (Fraction.cells y5.Value)) (lr_54 _ _) rfl (CA.sub ((hAy5.exn (hA rfl)).ca) 2 2))),
 fun ρz wz hE hA ⟨e6, _⟩ ⟨u4, _⟩ => core_storeBox rfl rfl (fun _ h => h) (e6.trans h6) u4 (Hb_b6_.exn (hA rfl)) (fun a w => st_54 _ a w) rfl (one_54 _),
 fun ρz wz hE hA _ _ => core_val rfl rfl (o_assign rfl), trivial⟩ ?_
  intro ρ12 w12 hE hN hf hr
  have h7 : ρ12 7 = .bool true := hf 6 rfl
  have h6 := (hr 6 rfl).trans h6
  have Hb_b6_n := hf 5 rfl
  have hW := Ext.own hW hE (fun x h => h.symm ▸ hB_b6_)
  have Hb_b6_ := Hb_b6_n
  have hsz := hW.size
  refine WP.ret ?_
  show retQ Tryd.prog 58 Tryd.f64 (fun v w1 => v = .tuple #[Fraction.val r.1, .bool r.2] ∧ Ext noG w0 w1) .ret ρ12 w12
  obtain rfl := Option.some.inj hF
  exact resC1 rfl (by decide) (by decide) h6 (run_loadN (cs := (Fraction.cells y5.Value)) (lr_54 _ _) rfl Hb_b6_.ca) h7 ⟨rfl, hW⟩

set_option maxHeartbeats 4000000 in
theorem pensionlaw24_List_ok {w0 : World} (d_ : List pensionlaw24_Raw) {v_d_ : Value} (H_d_ : RepSl pensionlaw24_Raw.R noG w0 v_d_ d_) {r : (List Right)} (hF : pensionlaw24_List d_ = some r) :
    Calls Tryd.prog 11 #[v_d_] w0 fun e w1 => ∃ v, e = .returned v ∧ Ext noG w0 w1 ∧ Own w0.heap.size 43 4 Right.cells w1 v r := by
  refine (Calls.start (P := Tryd.prog) (args := [v_d_]) (R := fun v w1 => Own w0.heap.size 43 4 Right.cells w1 v r ∧ Ext noG w0 w1) (n := 66) (w := w0) Tryd.func11 rfl rfl (Nat.le_of_ble_eq_true rfl) (fun ρ hargs => ?_)).mono (fun e w1 ⟨v, he, hv, hE⟩ => ⟨v, he, hE, hv⟩)
  have h0 := hargs 0 _ rfl
  have hW := Ext.refl noG w0
  have hsz := Nat.le_refl w0.heap.size
  obtain ⟨_, _, hs_H_d_, _, _⟩ := RepSl.shape H_d_
  have H_d_ := H_d_.start
  rw [pensionlaw24_List] at hF
  refine WP.seq ?_
  refine WP.rb mixed [[]] [[]] [(2, .slice none 0 0)] (by kernel_rfl) ⟨fun ρz wz hE hA _ _ => core_val rfl rfl (o_assign rfl), trivial⟩ ?_
  intro ρ1 w1 hN hf hr
  have h0 := (hr 0 rfl).trans h0
  have H_d_ := H_d_.exn hN
  have hW := hW.trans hN
  have hsz := hW.size
  refine WP.seq ?_
  refine WP.rb mixed [[]] [[]] [(3, .slice none 0 0)] (by kernel_rfl) ⟨fun ρz wz hE hA _ _ => core_val rfl rfl (o_assign rfl), trivial⟩ ?_
  intro ρ2 w2 hN hf hr
  have h3 : ρ2 3 = .slice none 0 0 := hf 0 rfl
  have O3 : Own w0.heap.size 43 4 Right.cells w2 (.slice none 0 0) [] := Own.nil _ _ _ _ _
  have h0 := (hr 0 rfl).trans h0
  have H_d_ := H_d_.exn hN
  have hW := hW.trans hN
  have hsz := hW.size
  refine WP.seq ?_
  refine WP.seq ?_
  refine WP.rb mixed [[]] [[]] [(4, .int .i64 0)] (by kernel_rfl) ⟨fun ρz wz hE hA _ _ => core_val rfl rfl (o_assign rfl), trivial⟩ ?_
  intro ρ3 w3 hN hf hr
  have h4 : ρ3 4 = .int .i64 0 := hf 0 rfl
  obtain ⟨h0, h3⟩ := k2 hr h0 h3 rfl
  have Oo_O3 := O3
  have H_d_ := H_d_.exn hN
  have hW := hW.trans hN
  have O3 := O3.exn hN
  have hsz := hW.size
  refine WP.block ?_
  refine WP.loop (fun k_ ρ w => ∃ x : List Right, ∃ x2 : Int, ∃ v3_ : Value, ρ 0 = v_d_ ∧ ρ 3 = v3_ ∧ ρ 4 = .int .i64 x2 ∧ RepSl pensionlaw24_Raw.R (gfr noG w0) w v_d_ d_ ∧ Own w0.heap.size 43 4 Right.cells w v3_ x ∧ Ext noG w0 w ∧ w0.heap.size ≤ w.heap.size ∧ loopC k_ (pensionlaw24_List_l d_) (x, x2) = some r) FU ⟨[], 0, .slice none 0 0, h0, h3, h4, H_d_, O3, hW, hsz, hF⟩ (fun _ _ h => by obtain ⟨_, _, _, _, _, _, _, _, _, _, h⟩ := h; cases h) ?_
  rintro k_ ρ4 w4 ⟨x, x2, v3_, h0, h3, h4, H_d_, O3, hW, hsz, hF⟩
  have hF : pensionlaw24_List_l d_ (loopC k_ (pensionlaw24_List_l d_)) (x, x2) = some r := hF
  generalize hrec_ : loopC k_ (pensionlaw24_List_l d_) = rec_ at hF
  rw [pensionlaw24_List_l] at hF
  refine WP.seq ?_
  refine WP.seq ?_
  refine WP.rb mixed [[], [], [1], [0, 2]] [[4], [0], [], []] [(8, .int .i64 x2), (9, v_d_), (10, .int .i64 (d_.length : Int)), (11, .bool (decide (x2 < (d_.length : Int))))] (by kernel_rfl) ⟨fun ρz wz hE hA ⟨e4, _⟩ _ => core_val rfl rfl (o_move (e4.trans h4)),
 fun ρz wz hE hA ⟨e0, _⟩ _ => core_val rfl rfl (o_move (e0.trans h0)),
 fun ρz wz hE hA _ ⟨u1, _⟩ => core_val rfl rfl (o_len (u1.trans hs_H_d_) len_22),
 fun ρz wz hE hA _ ⟨u0, u2, _⟩ => core_val rfl rfl (o_lss u0 u2 rfl), trivial⟩ ?_
  intro ρ5 w5 hN hf hr
  have h11 : ρ5 11 = .bool (decide (x2 < (d_.length : Int))) := hf 3 rfl
  obtain ⟨h0, h3, h4⟩ := k3 hr h0 h3 h4 rfl
  have Oo_O3 := O3
  have H_d_ := H_d_.exn hN
  have hW := hW.trans hN
  have O3 := O3.exn hN
  have hsz := hW.size
  refine WP.cond rfl h11 (fun hb => ?_) (fun hb => ?_)
  · have hF := (if_pos hb).symm.trans hF
    refine WP.skip ?_
    refine WP.seqJ (fun ρ w => ∃ x3 : List Right, ∃ v3_2 : Value, ρ 0 = v_d_ ∧ ρ 3 = v3_2 ∧ ρ 4 = .int .i64 x2 ∧ RepSl pensionlaw24_Raw.R (gfr noG w0) w v_d_ d_ ∧ Own w0.heap.size 43 4 Right.cells w v3_2 x3 ∧ Ext noG w0 w ∧ w0.heap.size ≤ w.heap.size ∧ pensionlaw24_List_j x2 rec_ x3 = some r) ?_ ?_
    · refine WP.block ?_
      refine WP.seq ?_
      obtain ⟨y, hy, hF⟩ := obind hF
      obtain ⟨ay, cy, hvy, hiy, hAy⟩ := RepSl.getF H_d_ hy
      obtain ⟨z, hz, hF⟩ := obind hF
      obtain ⟨y2, hy2, hF⟩ := obind hF
      obtain ⟨ay2, cy2, hvy2, hiy2, hAy2⟩ := RepSl.getF H_d_ hy2
      obtain ⟨z2, hz2, hF⟩ := obind hF
      obtain ⟨y3, hy3, hF⟩ := obind hF
      obtain ⟨ay3, cy3, hvy3, hiy3, hAy3⟩ := RepSl.getF H_d_ hy3
      obtain ⟨z3, hz3, hF⟩ := obind hF
      obtain ⟨y4, hy4, hF⟩ := obind hF
      obtain ⟨ay4, cy4, hvy4, hiy4, hAy4⟩ := RepSl.getF H_d_ hy4
      obtain ⟨z4, hz4, hF⟩ := obind hF
      refine WP.region mixed [[], [], [0, 1], [2], [3], [4], [], [], [6, 7], [8], [9], [10], [11], [], [], [13, 14], [15], [16], [17], [18], [], [], [20, 21], [22], [23], [24], [25], [5, 12, 19, 26], [], [27, 28]] [[], [], [0, 1], [2], [3], [4], [], [], [6, 7], [8], [9], [10], [11], [], [], [13, 14], [15], [16], [17], [18], [], [], [20, 21], [22], [23], [24], [25], [5, 12, 19, 26], [], [27, 28]] [[0], [4], [], [], [], [], [0], [4], [], [], [], [], [], [0], [4], [], [], [], [], [], [0], [4], [], [], [], [], [], [], [], []] [29] [(28, 29)] [val 14 (v_d_), val 15 (.int .i64 x2), val 16 (.pointer (some (ay.add (Int.toNat x2 * 4)))), val 17 (.pointer (some ((ay.add (Int.toNat x2 * 4)).add 0))), val 18 (.int .i64 y.State), val 19 (.int .i64 z), val 20 (v_d_), val 21 (.int .i64 x2), val 22 (.pointer (some (ay2.add (Int.toNat x2 * 4)))), val 23 (.pointer (some ((ay2.add (Int.toNat x2 * 4)).add 1))), val 24 (.int .i64 y2.Basis), val 25 (.int .i64 z2), val 26 (.int .i64 (i64 (1 + z2))), val 27 (v_d_), val 28 (.int .i64 x2), val 29 (.pointer (some (ay3.add (Int.toNat x2 * 4)))), val 30 (.pointer (some ((ay3.add (Int.toNat x2 * 4)).add 2))), val 31 (.int .i64 y3.Currency), val 32 (.int .i64 z3), val 33 (.int .i64 (i64 (1 + z3))), val 34 (v_d_), val 35 (.int .i64 x2), val 36 (.pointer (some (ay4.add (Int.toNat x2 * 4)))), val 37 (.pointer (some ((ay4.add (Int.toNat x2 * 4)).add 3))), val 38 (.int .i64 y4.Amount), val 39 (.int .i64 z4), val 40 (.int .i64 (max 1 z4)), val 41 (Right.val (⟨z, i64 (1 + z2), i64 (1 + z3), max 1 z4⟩ : Right)), (5, fun u wz => ∃ b, u = .pointer (some ⟨b, 0, none⟩) ∧ w5.heap.size ≤ b ∧ Mb wz b 43 (Right.cells (⟨0, 0, 0, 0⟩ : Right))), (5, fun u wz => ∃ b, u = .pointer (some ⟨b, 0, none⟩) ∧ w5.heap.size ≤ b ∧ Mb wz b 43 (Right.cells (⟨z, i64 (1 + z2), i64 (1 + z3), max 1 z4⟩ : Right)))] (fun b => w5.heap.size ≤ b) (by kernel_rfl) ⟨sV, sV, sV, sV, sV, sV, sV, sV, sV, sV, sV, sV, sV, sV, sV, sV, sV, sV, sV, sV, sV, sV, sV, sV, sV, sV, sV, sV, fun _ _ _ hE ⟨b, hb, hs, hM⟩ => ⟨b, hb, hs, hM.exn hE⟩, fun _ _ _ hE ⟨b, hb, hs, hM⟩ => ⟨b, hb, hs, hM.exn hE⟩, trivial⟩ ⟨fun ρz wz hE hA ⟨e0, _⟩ _ => core_val rfl rfl (o_move (e0.trans h0)),
 fun ρz wz hE hA ⟨e4, _⟩ _ => core_val rfl rfl (o_move (e4.trans h4)),
 fun ρz wz hE hA _ ⟨u0, u1, _⟩ => core_val rfl rfl (o_indexAddr (u0.trans hvy) u1 (ia_22 hiy)),
 fun ρz wz hE hA _ ⟨u2, _⟩ => core_val rfl rfl (o_fieldAddr u2 (fa_51_0 _ _)),
 fun ρz wz hE hA _ ⟨u3, _⟩ => core_val rfl rfl (o_load u3 (run_load1 (lr_3 _ _) (CA.sub ((hAy.exn hE.fresh).ca) 0 1))),
 fun ρz wz hE hA _ ⟨u4, _⟩ => core_call rfl (call_args2 u4 rfl) cf_13 (pensionplain_Mod_ok  _ _  hz),
 fun ρz wz hE hA ⟨e0, _⟩ _ => core_val rfl rfl (o_move (e0.trans h0)),
 fun ρz wz hE hA ⟨e4, _⟩ _ => core_val rfl rfl (o_move (e4.trans h4)),
 fun ρz wz hE hA _ ⟨u6, u7, _⟩ => core_val rfl rfl (o_indexAddr (u6.trans hvy2) u7 (ia_22 hiy2)),
 fun ρz wz hE hA _ ⟨u8, _⟩ => core_val rfl rfl (o_fieldAddr u8 (fa_51_1 _ _)),
 fun ρz wz hE hA _ ⟨u9, _⟩ => core_val rfl rfl (o_load u9 (run_load1 (lr_3 _ _) (CA.sub ((hAy2.exn hE.fresh).ca) 1 1))),
 fun ρz wz hE hA _ ⟨u10, _⟩ => core_call rfl (call_args2 u10 rfl) cf_13 (pensionplain_Mod_ok  _ _  hz2),
 fun ρz wz hE hA _ ⟨u11, _⟩ => core_val rfl rfl (o_add rfl u11 rfl),
 fun ρz wz hE hA ⟨e0, _⟩ _ => core_val rfl rfl (o_move (e0.trans h0)),
 fun ρz wz hE hA ⟨e4, _⟩ _ => core_val rfl rfl (o_move (e4.trans h4)),
 fun ρz wz hE hA _ ⟨u13, u14, _⟩ => core_val rfl rfl (o_indexAddr (u13.trans hvy3) u14 (ia_22 hiy3)),
 fun ρz wz hE hA _ ⟨u15, _⟩ => core_val rfl rfl (o_fieldAddr u15 (fa_51_2 _ _)),
 fun ρz wz hE hA _ ⟨u16, _⟩ => core_val rfl rfl (o_load u16 (run_load1 (lr_3 _ _) (CA.sub ((hAy3.exn hE.fresh).ca) 2 1))),
 fun ρz wz hE hA _ ⟨u17, _⟩ => core_call rfl (call_args2 u17 rfl) cf_13 (pensionplain_Mod_ok  _ _  hz3),
 fun ρz wz hE hA _ ⟨u18, _⟩ => core_val rfl rfl (o_add rfl u18 rfl),
 fun ρz wz hE hA ⟨e0, _⟩ _ => core_val rfl rfl (o_move (e0.trans h0)),
 fun ρz wz hE hA ⟨e4, _⟩ _ => core_val rfl rfl (o_move (e4.trans h4)),
 fun ρz wz hE hA _ ⟨u20, u21, _⟩ => core_val rfl rfl (o_indexAddr (u20.trans hvy4) u21 (ia_22 hiy4)),
 fun ρz wz hE hA _ ⟨u22, _⟩ => core_val rfl rfl (o_fieldAddr u22 (fa_51_3 _ _)),
 fun ρz wz hE hA _ ⟨u23, _⟩ => core_val rfl rfl (o_load u23 (run_load1 (lr_3 _ _) (CA.sub ((hAy4.exn hE.fresh).ca) 3 1))),
 fun ρz wz hE hA _ ⟨u24, _⟩ => core_call rfl (call_args1 u24) cf_24 (pensionplain_Amount_ok  _  hz4),
 fun ρz wz hE hA _ ⟨u25, _⟩ => core_val rfl rfl (o_max2 rfl u25),
 fun ρz wz hE hA _ ⟨u5, u12, u19, u26, _⟩ => core_val rfl rfl (o_build (build_parts4 u5 u12 u19 u26) (bd_43_0_1_2_3 _ _ _ _ _)),
 fun ρz wz hE hA _ _ => core_new rfl rfl hE (o_alloc (al_43 _)),
 fun ρz wz hE hA _ ⟨u27, u28, _⟩ => core_storeNew rfl rfl rfl rfl u27 u28 (fun a w => st_43 _ a w) rfl (one_43 _), trivial⟩ ?_
      intro ρ8 w8 hE hN hf hr
      have hN := hE.fresh
      obtain ⟨b5_, h5, hge_b5_, Hb_b5_⟩ := hf 29 rfl
      obtain ⟨h0, h3, h4⟩ := k3 hr h0 h3 h4 rfl
      have Oo_O3 := O3
      have H_d_ := H_d_.exn hN
      have hnb_O3_b5_ : Value.ownBlock v3_ ≠ some b5_ := fun h => absurd (O3.lt h).2 (Nat.not_lt.2 hge_b5_)
      have hW := hW.trans hN
      have O3 := O3.exn hN
      have hB_b5_ : w0.heap.size ≤ b5_ := Nat.le_trans hsz hge_b5_
      have hsz := hW.size
      refine WP.seq ?_
      refine WP.rb mixed [[]] [[]] [(6, .bool false)] (by kernel_rfl) ⟨fun ρz wz hE hA _ _ => core_val rfl rfl (o_assign rfl), trivial⟩ ?_
      intro ρ9 w9 hN hf hr
      have h6 : ρ9 6 = .bool false := hf 0 rfl
      obtain ⟨h0, h3, h4, h5⟩ := k4 hr h0 h3 h4 h5 rfl
      have Oo_O3 := O3
      have Hb_b5_n := Hb_b5_.exn hN
      have H_d_ := H_d_.exn hN
      have hW := hW.trans hN
      have O3 := O3.exn hN
      have Hb_b5_ := Hb_b5_n
      have hsz := hW.size
      refine WP.seq ?_
      refine WP.seq ?_
      refine WP.rb mixed [[]] [[]] [(7, .int .i64 0)] (by kernel_rfl) ⟨fun ρz wz hE hA _ _ => core_val rfl rfl (o_assign rfl), trivial⟩ ?_
      intro ρ10 w10 hN hf hr
      have h7 : ρ10 7 = .int .i64 0 := hf 0 rfl
      obtain ⟨h0, h3, h4, h5, h6⟩ := k5 hr h0 h3 h4 h5 h6 rfl
      have Oo_O3 := O3
      have Hb_b5_n := Hb_b5_.exn hN
      have H_d_ := H_d_.exn hN
      have hW := hW.trans hN
      have O3 := O3.exn hN
      have Hb_b5_ := Hb_b5_n
      have hsz := hW.size
      refine WP.block ?_
      refine WP.loop (fun k_2 ρ w => ∃ x4 : Bool, ∃ x5 : Int, ρ 0 = v_d_ ∧ ρ 3 = v3_ ∧ ρ 4 = .int .i64 x2 ∧ ρ 5 = .pointer (some ⟨b5_, 0, none⟩) ∧ ρ 6 = .bool x4 ∧ ρ 7 = .int .i64 x5 ∧ Mb w b5_ 43 (Right.cells (⟨z, i64 (1 + z2), i64 (1 + z3), max 1 z4⟩ : Right)) ∧ RepSl pensionlaw24_Raw.R (gfr noG w0) w v_d_ d_ ∧ Own w0.heap.size 43 4 Right.cells w v3_ x ∧ Value.ownBlock v3_ ≠ some b5_ ∧ Ext noG w0 w ∧ w0.heap.size ≤ w.heap.size ∧ loopC k_2 (pensionlaw24_List_l2 x x2 rec_ z z2 z3 z4) (x4, x5) = some r) FU ⟨false, 0, h0, h3, h4, h5, h6, h7, Hb_b5_, H_d_, O3, hnb_O3_b5_, hW, hsz, hF⟩ (fun _ _ h => by obtain ⟨_, _, _, _, _, _, _, _, _, _, _, _, _, _, h⟩ := h; cases h) ?_
      rintro k_2 ρ11 w11 ⟨x4, x5, h0, h3, h4, h5, h6, h7, Hb_b5_, H_d_, O3, hnb_O3_b5_, hW, hsz, hF⟩
      have hF : pensionlaw24_List_l2 x x2 rec_ z z2 z3 z4 (loopC k_2 (pensionlaw24_List_l2 x x2 rec_ z z2 z3 z4)) (x4, x5) = some r := hF
      generalize hrec_2 : loopC k_2 (pensionlaw24_List_l2 x x2 rec_ z z2 z3 z4) = rec_2 at hF
      rw [pensionlaw24_List_l2] at hF
      refine WP.seq ?_
      refine WP.seq ?_
      refine WP.rb mixed [[], [], [1], [0, 2]] [[7], [3], [], []] [(42, .int .i64 x5), (43, v3_), (44, .int .i64 (x.length : Int)), (45, .bool (decide (x5 < (x.length : Int))))] (by kernel_rfl) ⟨fun ρz wz hE hA ⟨e7, _⟩ _ => core_val rfl rfl (o_move (e7.trans h7)),
 fun ρz wz hE hA ⟨e3, _⟩ _ => core_val rfl rfl (o_move (e3.trans h3)),
 fun ρz wz hE hA _ ⟨u1, _⟩ => core_val rfl rfl (o_len (u1.trans (Own.shape O3).choose_spec.choose_spec.1) len_24),
 fun ρz wz hE hA _ ⟨u0, u2, _⟩ => core_val rfl rfl (o_lss u0 u2 rfl), trivial⟩ ?_
      intro ρ12 w12 hN hf hr
      have h45 : ρ12 45 = .bool (decide (x5 < (x.length : Int))) := hf 3 rfl
      obtain ⟨h0, h3, h4, h5, h6, h7⟩ := k6 hr h0 h3 h4 h5 h6 h7 rfl
      have Oo_O3 := O3
      have Hb_b5_n := Hb_b5_.exn hN
      have H_d_ := H_d_.exn hN
      have hW := hW.trans hN
      have O3 := O3.exn hN
      have Hb_b5_ := Hb_b5_n
      have hsz := hW.size
      refine WP.cond rfl h45 (fun hb => ?_) (fun hb => ?_)
      · have hF := (if_pos hb).symm.trans hF
        refine WP.skip ?_
        refine WP.seq ?_
        refine WP.block ?_
        obtain ⟨c, hc, hF⟩ := obind hF
        obtain ⟨y5, hy5, hc⟩ := orB hc
        obtain ⟨ay5, cy5, hvy5, hiy5, hAy5⟩ := RepSl.getFI (Own.rep (hn := fun _ => rfl) (G := noG) O3 (fun _ _ h => h)) hy5
        have hc := orE hc
        refine WP.rv mixed [[], [0], [1], [1], [1, 2, 3], [1, 4], [1, 5], [1], [1, 7], [1, 6, 8], [1, 9], [0, 10]] [[], [0], [1], [1], [1, 2, 3], [1, 4], [1, 5], [1], [1, 7], [1, 6, 8], [1, 9], [10]] [[6], [], [3], [7], [], [], [], [5], [], [], [], []] [(48, .bool x4), (49, .bool x4), (50, gv (!x4) v3_), (51, gv (!x4) (.int .i64 x5)), (52, gv (!x4) (.pointer (some (ay5.add (Int.toNat x5 * 4))))), (53, gv (!x4) (.pointer (some ((ay5.add (Int.toNat x5 * 4)).add 0)))), (54, gv (!x4) (.int .i64 y5.State)), (55, gv (!x4) (.pointer (some ((⟨b5_, 0, none⟩ : Addr).add 0)))), (56, gv (!x4) (.int .i64 z)), (57, gv (!x4) (.bool (y5.State == z))), (58, .bool c), (6, .bool c)] (by kernel_rfl) ⟨fun ρz wz hE hA ⟨e6, _⟩ _ => core_val rfl rfl (o_move (e6.trans h6)),
 fun ρz wz hE hA _ ⟨u0, _⟩ => core_val rfl rfl (o_move u0),
 fun ρz wz hE hA ⟨e3, _⟩ ⟨u1, _⟩ => gIf rfl rfl (yF rfl u1) fun gc F hF => core_val rfl hF (o_move (e3.trans h3)),
 fun ρz wz hE hA ⟨e7, _⟩ ⟨u1, _⟩ => gIf rfl rfl (yF rfl u1) fun gc F hF => core_val rfl hF (o_move (e7.trans h7)),
 fun ρz wz hE hA _ ⟨u1, u2, u3, _⟩ => gIf rfl rfl (yF rfl u1) fun gc F hF => core_val rfl hF (o_indexAddr ((gt gc u2).trans (hvy5 gc)) (gt gc u3) (ia_24 (hiy5 gc))),
 fun ρz wz hE hA _ ⟨u1, u4, _⟩ => gIf rfl rfl (yF rfl u1) fun gc F hF => core_val rfl hF (o_fieldAddr (gt gc u4) (fa_43_0 _ _)),
 fun ρz wz hE hA _ ⟨u1, u5, _⟩ => gIf rfl rfl (yF rfl u1) fun gc F hF => core_val rfl hF (o_load (gt gc u5) (run_load1 (lr_3 _ _) (CA.sub (((hAy5 gc).exn (hA rfl)).ca) 0 1))),
 fun ρz wz hE hA ⟨e5, _⟩ ⟨u1, _⟩ => gIf rfl rfl (yF rfl u1) fun gc F hF => core_val rfl hF (o_fieldAddr (e5.trans h5) (fa_43_0 _ _)),
 fun ρz wz hE hA _ ⟨u1, u7, _⟩ => gIf rfl rfl (yF rfl u1) fun gc F hF => core_val rfl hF (o_load (gt gc u7) (run_load1 (lr_3 _ _) (CA.sub ((Hb_b5_.exn (hA rfl)).ca) 0 1))),
 fun ρz wz hE hA _ ⟨u1, u6, u8, _⟩ => gIf rfl rfl (yF rfl u1) fun gc F hF => core_val rfl hF (o_eql (gt gc u6) (gt gc u8) rfl),
 fun ρz wz hE hA _ ⟨u1, u9, _⟩ => core_valE rfl rfl (congrArg Value.bool hc) (o_pick_or u1 rfl u9),
 fun ρz wz hE hA _ ⟨u10, _⟩ => core_val rfl rfl (o_assign u10), trivial⟩ ?_
        intro ρ13 w13 hN hf hr
        have h6 : ρ13 6 = .bool c := hf 11 rfl
        obtain ⟨h0, h3, h4, h5, h7⟩ := k5 hr h0 h3 h4 h5 h7 rfl
        have Oo_O3 := O3
        have Hb_b5_n := Hb_b5_.exn hN
        have H_d_ := H_d_.exn hN
        have hW := hW.trans hN
        have O3 := O3.exn hN
        have Hb_b5_ := Hb_b5_n
        have hsz := hW.size
        refine WP.rv mixed [[], [0], [0, 1]] [[], [0], [1]] [[7], [], []] [(46, .int .i64 x5), (47, .int .i64 (i64 (x5 + 1))), (7, .int .i64 (i64 (x5 + 1)))] (by kernel_rfl) ⟨fun ρz wz hE hA ⟨e7, _⟩ _ => core_val rfl rfl (o_move (e7.trans h7)),
 fun ρz wz hE hA _ ⟨u0, _⟩ => core_val rfl rfl (o_add u0 rfl rfl),
 fun ρz wz hE hA _ ⟨u1, _⟩ => core_val rfl rfl (o_assign u1), trivial⟩ ?_
        intro ρ14 w14 hN hf hr
        have h7 : ρ14 7 = .int .i64 (i64 (x5 + 1)) := hf 2 rfl
        obtain ⟨h0, h3, h4, h5, h6⟩ := k5 hr h0 h3 h4 h5 h6 rfl
        have Oo_O3 := O3
        have Hb_b5_n := Hb_b5_.exn hN
        have H_d_ := H_d_.exn hN
        have hW := hW.trans hN
        have O3 := O3.exn hN
        have Hb_b5_ := Hb_b5_n
        have hsz := hW.size
        exact ⟨c, i64 (x5 + 1), h0, h3, h4, h5, h6, h7, Hb_b5_, H_d_, O3, hnb_O3_b5_, hW, hsz, (by first | exact hF | (rw [hrec_2]; exact hF))⟩
      have hF := (if_neg (Bool.eq_false_iff.1 hb)).symm.trans hF
      refine WP.exit ?_
      refine thenQ_exit ?_
      refine thenQ_exit ?_
      refine blockQ_hit ?_
      refine WP.seq ?_
      refine WP.rb mixed [[], [0]] [[6], []] [(59, .bool x4), (60, .bool (!x4))] (by kernel_rfl) ⟨fun ρz wz hE hA ⟨e6, _⟩ _ => core_val rfl rfl (o_move (e6.trans h6)),
 fun ρz wz hE hA _ ⟨u0, _⟩ => core_val rfl rfl (o_not u0 rfl), trivial⟩ ?_
      intro ρ15 w15 hN hf hr
      have h60 : ρ15 60 = .bool (!x4) := hf 1 rfl
      obtain ⟨h0, h3, h4, h5⟩ := k4 hr h0 h3 h4 h5 rfl
      have Oo_O3 := O3
      have Hb_b5_n := Hb_b5_.exn hN
      have H_d_ := H_d_.exn hN
      have hW := hW.trans hN
      have O3 := O3.exn hN
      have Hb_b5_ := Hb_b5_n
      have hsz := hW.size
      refine WP.cond rfl h60 (fun hb => ?_) (fun hb => ?_)
      · have hF := (if_pos hb).symm.trans hF
        obtain ⟨l, hl, hF⟩ := obind hF
        refine WP.region mixed [[], [], [1], [0, 1, 2], [0, 3]] [[], [], [1], [0, 2], [3]] [[3], [5], [], [], []] [3] [] [val 61 (v3_), val 62 (Right.val (⟨z, i64 (1 + z2), i64 (1 + z3), max 1 z4⟩ : Right)), (63, fun u wz => ∃ b, u = .slice (some ⟨b, 0, none⟩) 1 1 ∧ w15.heap.size ≤ b ∧ Mb wz b 43 (([(⟨z, i64 (1 + z2), i64 (1 + z3), max 1 z4⟩ : Right)]).flatMap Right.cells)), (64, fun u wz => Own w0.heap.size 43 4 Right.cells wz u l ∧ ∀ b, u.ownBlock = some b → (v3_.ownBlock = some b ∨ w15.heap.size ≤ b)), (3, fun u wz => Own w0.heap.size 43 4 Right.cells wz u l ∧ ∀ b, u.ownBlock = some b → (v3_.ownBlock = some b ∨ w15.heap.size ≤ b))] (fun b => Value.ownBlock v3_ = some b) (by kernel_rfl) ⟨sV, sV, fun _ _ _ hE ⟨b, hz, hs, hM⟩ => ⟨b, hz, hs, hM.ext hE (fun hg => absurd (O3.lt hg).2 (Nat.not_lt.2 hs))⟩, fun _ _ _ hE ⟨hO, hf⟩ => ⟨hO.exn hE, hf⟩, fun _ _ _ hE ⟨hO, hf⟩ => ⟨hO.exn hE, hf⟩, trivial⟩ ⟨fun ρz wz hE hA ⟨e3, _⟩ _ => core_val rfl rfl (o_move (e3.trans h3)),
 fun ρz wz hE hA ⟨e5, _⟩ _ => core_val rfl rfl (o_load (e5.trans h5) (run_loadN (cs := (Right.cells (⟨z, i64 (1 + z2), i64 (1 + z3), max 1 z4⟩ : Right))) (lr_43 _ _) rfl ((Hb_b5_.exn (hA rfl)).ca))),
 fun ρz wz hE hA _ ⟨u1, _⟩ => core_slice rfl rfl hE (o_buildSlice (build_parts1 u1) (bs_24_1 _ _)),
 fun ρz wz hE hA _ ⟨u0, ⟨bz2, hz2, hge2, hM2⟩, _⟩ => core_append (n := 4) (cells := Right.cells) (B := w0.heap.size) (w0 := w15) rfl rfl (fun b hb => hb) u0 hz2 (fun _ => rfl) one_43 si_24 se_43 (by decide) (by decide) (O3.exn (hA rfl)) ⟨_, (Mb.rep (n := 4) (cells := Right.cells) (hn := fun _ => rfl) (G := noG) hM2 rfl (Nat.le_of_ble_eq_true rfl) (fun h => h))⟩ hl (Nat.le_trans hsz hE.size) hE.size (fun v1 w1 h1 h2 => ⟨h1, h2⟩),
 fun ρz wz hE hA _ ⟨⟨hO3, hfr3⟩, _⟩ => core_copy rfl rfl (o_assign rfl) ⟨hO3, hfr3⟩, trivial⟩ ?_
        intro ρ16 w16 hE hN hf hr
        obtain ⟨v3_3, h3⟩ : ∃ v, ρ16 3 = v := ⟨_, rfl⟩
        have hq3 : (fun u wz => Own w0.heap.size 43 4 Right.cells wz u l ∧ ∀ b, u.ownBlock = some b → (v3_.ownBlock = some b ∨ w15.heap.size ≤ b)) (ρ16 3) w16 := hf 4 rfl
        rw [h3] at hq3
        obtain ⟨hq3, hfr3⟩ := hq3
        obtain ⟨h0, h4⟩ := k2 hr h0 h4 rfl
        have Oo_O3 := O3
        have H_d_ := H_d_.over hE (fun b hb => (O3.lt hb).1)
        have hW := Ext.own hW hE (fun b hb => (O3.lt hb).1)
        have O3 := hq3
        have hsz := hW.size
        exact ⟨l, v3_3, h0, h3, h4, H_d_, O3, hW, hsz, hF⟩
      have hF := (if_neg (Bool.eq_false_iff.1 hb)).symm.trans hF
      refine WP.skip ?_
      exact ⟨x, v3_, h0, h3, h4, H_d_, O3, hW, hsz, hF⟩
    rintro ρ6 w6 ⟨x3, v3_2, h0, h3, h4, H_d_, O3, hW, hsz, hF⟩
    rw [pensionlaw24_List_j] at hF
    refine WP.rv mixed [[], [0], [0, 1]] [[], [0], [1]] [[4], [], []] [(12, .int .i64 x2), (13, .int .i64 (i64 (x2 + 1))), (4, .int .i64 (i64 (x2 + 1)))] (by kernel_rfl) ⟨fun ρz wz hE hA ⟨e4, _⟩ _ => core_val rfl rfl (o_move (e4.trans h4)),
 fun ρz wz hE hA _ ⟨u0, _⟩ => core_val rfl rfl (o_add u0 rfl rfl),
 fun ρz wz hE hA _ ⟨u1, _⟩ => core_val rfl rfl (o_assign u1), trivial⟩ ?_
    intro ρ7 w7 hN hf hr
    have h4 : ρ7 4 = .int .i64 (i64 (x2 + 1)) := hf 2 rfl
    obtain ⟨h0, h3⟩ := k2 hr h0 h3 rfl
    have Oo_O3 := O3
    have H_d_ := H_d_.exn hN
    have hW := hW.trans hN
    have O3 := O3.exn hN
    have hsz := hW.size
    exact ⟨x3, i64 (x2 + 1), v3_2, h0, h3, h4, H_d_, O3, hW, hsz, (by first | exact hF | (rw [hrec_]; exact hF))⟩
  have hF := (if_neg (Bool.eq_false_iff.1 hb)).symm.trans hF
  refine WP.exit ?_
  refine thenQ_exit ?_
  refine thenQ_exit ?_
  refine blockQ_hit ?_
  refine WP.seq ?_
  refine WP.rb mixed [[], [0]] [[3], []] [(65, v3_), (2, v3_)] (by kernel_rfl) ⟨fun ρz wz hE hA ⟨e3, _⟩ _ => core_val rfl rfl (o_move (e3.trans h3)),
 fun ρz wz hE hA _ ⟨u0, _⟩ => core_val rfl rfl (o_assign u0), trivial⟩ ?_
  intro ρ17 w17 hN hf hr
  have h2 : ρ17 2 = v3_ := hf 1 rfl
  have Oo_O3 := O3
  have hW := hW.trans hN
  have O2 := O3.exn hN
  have hsz := hW.size
  refine WP.ret ?_
  show retQ Tryd.prog 66 Tryd.f11 (fun v w1 => Own w0.heap.size 43 4 Right.cells w1 v r ∧ Ext noG w0 w1) .ret ρ17 w17
  obtain rfl := Option.some.inj hF
  exact res1 rfl (by decide) h2 ⟨O2, hW⟩

set_option maxHeartbeats 4000000 in
theorem pensionplain_Rates_ok {w0 : World} (l_ : List Int) {v_l_ : Value} (H_l_ : RepSl intR noG w0 v_l_ l_) {r : (List Rate)} (hF : pensionplain_Rates l_ = some r) :
    Calls Tryd.prog 12 #[v_l_] w0 fun e w1 => ∃ v, e = .returned v ∧ Ext noG w0 w1 ∧ Own w0.heap.size 57 4 Rate.cells w1 v r := by
  refine (Calls.start (P := Tryd.prog) (args := [v_l_]) (R := fun v w1 => Own w0.heap.size 57 4 Rate.cells w1 v r ∧ Ext noG w0 w1) (n := 59) (w := w0) Tryd.func12 rfl rfl (Nat.le_of_ble_eq_true rfl) (fun ρ hargs => ?_)).mono (fun e w1 ⟨v, he, hv, hE⟩ => ⟨v, he, hE, hv⟩)
  have h0 := hargs 0 _ rfl
  have hW := Ext.refl noG w0
  have hsz := Nat.le_refl w0.heap.size
  obtain ⟨_, _, hs_H_l_, _, _⟩ := RepSl.shape H_l_
  have H_l_ := H_l_.start
  rw [pensionplain_Rates] at hF
  refine WP.seq ?_
  refine WP.rb mixed [[]] [[]] [(2, .slice none 0 0)] (by kernel_rfl) ⟨fun ρz wz hE hA _ _ => core_val rfl rfl (o_assign rfl), trivial⟩ ?_
  intro ρ1 w1 hN hf hr
  have h0 := (hr 0 rfl).trans h0
  have H_l_ := H_l_.exn hN
  have hW := hW.trans hN
  have hsz := hW.size
  refine WP.seq ?_
  refine WP.rb mixed [[]] [[]] [(3, .slice none 0 0)] (by kernel_rfl) ⟨fun ρz wz hE hA _ _ => core_val rfl rfl (o_assign rfl), trivial⟩ ?_
  intro ρ2 w2 hN hf hr
  have h3 : ρ2 3 = .slice none 0 0 := hf 0 rfl
  have O3 : Own w0.heap.size 57 4 Rate.cells w2 (.slice none 0 0) [] := Own.nil _ _ _ _ _
  have h0 := (hr 0 rfl).trans h0
  have H_l_ := H_l_.exn hN
  have hW := hW.trans hN
  have hsz := hW.size
  refine WP.seqJ (fun ρ w => ∃ out_ : List Rate, ∃ v3_ : Value, ρ 3 = v3_ ∧ Own w0.heap.size 57 4 Rate.cells w v3_ out_ ∧ Ext noG w0 w ∧ w0.heap.size ≤ w.heap.size ∧ pensionplain_Rates_j out_ = some r) ?_ ?_
  · refine WP.seq ?_
    refine WP.rb mixed [[]] [[]] [(4, .int .i64 1)] (by kernel_rfl) ⟨fun ρz wz hE hA _ _ => core_val rfl rfl (o_assign rfl), trivial⟩ ?_
    intro ρ5 w5 hN hf hr
    have h4 : ρ5 4 = .int .i64 1 := hf 0 rfl
    obtain ⟨h0, h3⟩ := k2 hr h0 h3 rfl
    have Oo_O3 := O3
    have H_l_ := H_l_.exn hN
    have hW := hW.trans hN
    have O3 := O3.exn hN
    have hsz := hW.size
    refine WP.block ?_
    refine WP.loop (fun k_ ρ w => ∃ out_2 : List Rate, ∃ c_ : Int, ∃ v3_2 : Value, ρ 0 = v_l_ ∧ ρ 3 = v3_2 ∧ ρ 4 = .int .i64 c_ ∧ RepSl intR (gfr noG w0) w v_l_ l_ ∧ Own w0.heap.size 57 4 Rate.cells w v3_2 out_2 ∧ Ext noG w0 w ∧ w0.heap.size ≤ w.heap.size ∧ loopC k_ (pensionplain_Rates_l l_) (out_2, c_) = some r) FU ⟨[], 1, .slice none 0 0, h0, h3, h4, H_l_, O3, hW, hsz, hF⟩ (fun _ _ h => by obtain ⟨_, _, _, _, _, _, _, _, _, _, h⟩ := h; cases h) ?_
    rintro k_ ρ6 w6 ⟨out_2, c_, v3_2, h0, h3, h4, H_l_, O3, hW, hsz, hF⟩
    have hF : pensionplain_Rates_l l_ (loopC k_ (pensionplain_Rates_l l_)) (out_2, c_) = some r := hF
    generalize hrec_ : loopC k_ (pensionplain_Rates_l l_) = rec_ at hF
    rw [pensionplain_Rates_l] at hF
    refine WP.seq ?_
    refine WP.seq ?_
    refine WP.rb mixed [[], [0]] [[4], []] [(6, .int .i64 c_), (7, .bool (decide (c_ ≤ 3)))] (by kernel_rfl) ⟨fun ρz wz hE hA ⟨e4, _⟩ _ => core_val rfl rfl (o_move (e4.trans h4)),
 fun ρz wz hE hA _ ⟨u0, _⟩ => core_val rfl rfl (o_leq u0 rfl rfl), trivial⟩ ?_
    intro ρ7 w7 hN hf hr
    have h7 : ρ7 7 = .bool (decide (c_ ≤ 3)) := hf 1 rfl
    obtain ⟨h0, h3, h4⟩ := k3 hr h0 h3 h4 rfl
    have Oo_O3 := O3
    have H_l_ := H_l_.exn hN
    have hW := hW.trans hN
    have O3 := O3.exn hN
    have hsz := hW.size
    refine WP.cond rfl h7 (fun hb => ?_) (fun hb => ?_)
    · have hF := (if_pos hb).symm.trans hF
      refine WP.skip ?_
      refine WP.seqJ (fun ρ w => ∃ out_3 : List Rate, ∃ v3_3 : Value, ρ 0 = v_l_ ∧ ρ 3 = v3_3 ∧ ρ 4 = .int .i64 c_ ∧ RepSl intR (gfr noG w0) w v_l_ l_ ∧ Own w0.heap.size 57 4 Rate.cells w v3_3 out_3 ∧ Ext noG w0 w ∧ w0.heap.size ≤ w.heap.size ∧ pensionplain_Rates_j2 c_ rec_ out_3 = some r) ?_ ?_
      · refine WP.block ?_
        refine WP.seq ?_
        refine WP.seq ?_
        refine WP.rb mixed [[], [0], [], [2], [1, 3]] [[4], [], [0], [], []] [(10, .int .i64 c_), (11, .int .i64 (i64 (c_ - 1))), (12, v_l_), (13, .int .i64 (l_.length : Int)), (14, .bool (decide ((l_.length : Int) ≤ i64 (c_ - 1))))] (by kernel_rfl) ⟨fun ρz wz hE hA ⟨e4, _⟩ _ => core_val rfl rfl (o_move (e4.trans h4)),
 fun ρz wz hE hA _ ⟨u0, _⟩ => core_val rfl rfl (o_sub u0 rfl rfl),
 fun ρz wz hE hA ⟨e0, _⟩ _ => core_val rfl rfl (o_move (e0.trans h0)),
 fun ρz wz hE hA _ ⟨u2, _⟩ => core_val rfl rfl (o_len (u2.trans hs_H_l_) len_23),
 fun ρz wz hE hA _ ⟨u1, u3, _⟩ => core_val rfl rfl (o_geq u1 u3 rfl), trivial⟩ ?_
        intro ρ10 w10 hN hf hr
        have h14 : ρ10 14 = .bool (decide ((l_.length : Int) ≤ i64 (c_ - 1))) := hf 4 rfl
        obtain ⟨h0, h3, h4⟩ := k3 hr h0 h3 h4 rfl
        have Oo_O3 := O3
        have H_l_ := H_l_.exn hN
        have hW := hW.trans hN
        have O3 := O3.exn hN
        have hsz := hW.size
        refine WP.cond rfl h14 (fun hb => ?_) (fun hb => ?_)
        · have hF := (if_pos hb).symm.trans hF
          refine WP.exit ?_
          refine thenQ_exit ?_
          refine blockQ_pass (by decide) ?_
          refine thenQ_exit ?_
          refine thenQ_exit ?_
          refine blockQ_hit ?_
          exact ⟨out_2, v3_2, h3, O3, hW, hsz, hF⟩
        have hF := (if_neg (Bool.eq_false_iff.1 hb)).symm.trans hF
        refine WP.skip ?_
        refine WP.seq ?_
        obtain ⟨y, hy, hF⟩ := obind hF
        obtain ⟨ay, cy, hvy, hiy, hAy⟩ := RepSl.getF H_l_ hy
        refine WP.rb mixed [[], [], [1], [0, 2], [3], [4]] [[0], [4], [], [], [], []] [(15, v_l_), (16, .int .i64 c_), (17, .int .i64 (i64 (c_ - 1))), (18, .pointer (some (ay.add (Int.toNat (i64 (c_ - 1)) * 1)))), (19, .int .i64 y), (5, .int .i64 y)] (by kernel_rfl) ⟨fun ρz wz hE hA ⟨e0, _⟩ _ => core_val rfl rfl (o_move (e0.trans h0)),
 fun ρz wz hE hA ⟨e4, _⟩ _ => core_val rfl rfl (o_move (e4.trans h4)),
 fun ρz wz hE hA _ ⟨u1, _⟩ => core_val rfl rfl (o_sub u1 rfl rfl),
 fun ρz wz hE hA _ ⟨u0, u2, _⟩ => core_val rfl rfl (o_indexAddr (u0.trans hvy) u2 (ia_23 hiy)),
 fun ρz wz hE hA _ ⟨u3, _⟩ => core_val rfl rfl (o_load u3 (run_load1 (lr_3 _ _) ((hAy.exn (hA rfl)).ca))),
 fun ρz wz hE hA _ ⟨u4, _⟩ => core_val rfl rfl (o_assign u4), trivial⟩ ?_
        intro ρ11 w11 hN hf hr
        have h5 : ρ11 5 = .int .i64 y := hf 5 rfl
        obtain ⟨h0, h3, h4⟩ := k3 hr h0 h3 h4 rfl
        have Oo_O3 := O3
        have H_l_ := H_l_.exn hN
        have hW := hW.trans hN
        have O3 := O3.exn hN
        have hsz := hW.size
        refine WP.seq ?_
        refine WP.seq ?_
        obtain ⟨z, hz, hF⟩ := obind hF
        refine WP.rb mixed [[], [0], [1]] [[5], [], []] [(20, .int .i64 y), (21, .int .i64 z), (22, .bool (z == 6))] (by kernel_rfl) ⟨fun ρz wz hE hA ⟨e5, _⟩ _ => core_val rfl rfl (o_move (e5.trans h5)),
 fun ρz wz hE hA _ ⟨u0, _⟩ => core_call rfl (call_args2 u0 rfl) cf_13 (pensionplain_Mod_ok  _ _  hz),
 fun ρz wz hE hA _ ⟨u1, _⟩ => core_val rfl rfl (o_eql u1 rfl rfl), trivial⟩ ?_
        intro ρ12 w12 hN hf hr
        have h22 : ρ12 22 = .bool (z == 6) := hf 2 rfl
        obtain ⟨h0, h3, h4, h5⟩ := k4 hr h0 h3 h4 h5 rfl
        have Oo_O3 := O3
        have H_l_ := H_l_.exn hN
        have hW := hW.trans hN
        have O3 := O3.exn hN
        have hsz := hW.size
        refine WP.cond rfl h22 (fun hb => ?_) (fun hb => ?_)
        · have hF := (if_pos hb).symm.trans hF
          refine WP.exit ?_
          refine thenQ_exit ?_
          refine blockQ_hit ?_
          exact ⟨out_2, v3_2, h0, h3, h4, H_l_, O3, hW, hsz, hF⟩
        have hF := (if_neg (Bool.eq_false_iff.1 hb)).symm.trans hF
        refine WP.skip ?_
        refine WP.seq ?_
        obtain ⟨z2, hz2, hF⟩ := obind hF
        obtain ⟨z3, hz3, hF⟩ := obind hF
        obtain ⟨z4, hz4, hF⟩ := obind hF
        obtain ⟨l, hl, hF⟩ := obind hF
        refine WP.region mixed [[], [], [], [2], [3], [4], [], [6], [7], [8], [4, 5, 8, 9], [1, 4, 8, 10], [4, 8, 11], [0, 4, 8, 10, 12], [0, 13]] [[], [], [], [2], [3], [4], [], [6], [7], [8], [5, 9], [1, 10], [11], [0, 12], [13]] [[3], [4], [5], [], [], [], [5], [], [], [], [], [], [], [], []] [13] [] [val 23 (v3_2), val 24 (.int .i64 c_), val 25 (.int .i64 y), val 26 (.int .i64 (i64 (Int.tdiv y 7))), val 27 (.int .i64 z2), val 28 (.int .i64 (i64 (1 + z2))), val 29 (.int .i64 y), val 30 (.int .i64 (i64 (Int.tdiv y 300))), val 31 (.int .i64 z3), val 32 (.int .i64 (i64 (1 + z3))), val 33 (Fraction.val z4), val 34 (Rate.val (⟨c_, 0, z4⟩ : Rate)), (35, fun u wz => ∃ b, u = .slice (some ⟨b, 0, none⟩) 1 1 ∧ w12.heap.size ≤ b ∧ Mb wz b 57 (([(⟨c_, 0, z4⟩ : Rate)]).flatMap Rate.cells)), (36, fun u wz => Own w0.heap.size 57 4 Rate.cells wz u l ∧ ∀ b, u.ownBlock = some b → (v3_2.ownBlock = some b ∨ w12.heap.size ≤ b)), (3, fun u wz => Own w0.heap.size 57 4 Rate.cells wz u l ∧ ∀ b, u.ownBlock = some b → (v3_2.ownBlock = some b ∨ w12.heap.size ≤ b))] (fun b => Value.ownBlock v3_2 = some b) (by kernel_rfl) ⟨sV, sV, sV, sV, sV, sV, sV, sV, sV, sV, sV, sV, fun _ _ _ hE ⟨b, hz, hs, hM⟩ => ⟨b, hz, hs, hM.ext hE (fun hg => absurd (O3.lt hg).2 (Nat.not_lt.2 hs))⟩, fun _ _ _ hE ⟨hO, hf⟩ => ⟨hO.exn hE, hf⟩, fun _ _ _ hE ⟨hO, hf⟩ => ⟨hO.exn hE, hf⟩, trivial⟩ ⟨fun ρz wz hE hA ⟨e3, _⟩ _ => core_val rfl rfl (o_move (e3.trans h3)),
 fun ρz wz hE hA ⟨e4, _⟩ _ => core_val rfl rfl (o_move (e4.trans h4)),
 fun ρz wz hE hA ⟨e5, _⟩ _ => core_val rfl rfl (o_move (e5.trans h5)),
 fun ρz wz hE hA _ ⟨u2, _⟩ => core_val rfl rfl (o_quo u2 rfl (by decide) rfl),
 fun ρz wz hE hA _ ⟨u3, _⟩ => core_call rfl (call_args2 u3 rfl) cf_13 (pensionplain_Mod_ok  _ _  hz2),
 fun ρz wz hE hA _ ⟨u4, _⟩ => core_val rfl rfl (o_add rfl u4 rfl),
 fun ρz wz hE hA ⟨e5, _⟩ _ => core_val rfl rfl (o_move (e5.trans h5)),
 fun ρz wz hE hA _ ⟨u6, _⟩ => core_val rfl rfl (o_quo u6 rfl (by decide) rfl),
 fun ρz wz hE hA _ ⟨u7, _⟩ => core_call rfl (call_args2 u7 rfl) cf_13 (pensionplain_Mod_ok  _ _  hz3),
 fun ρz wz hE hA _ ⟨u8, _⟩ => core_val rfl rfl (o_add rfl u8 rfl),
 fun ρz wz hE hA _ ⟨u5, u9, _⟩ => core_call rfl (call_args2 u5 u9) cf_25 (pensionplain_fraction_ok  _ _  hz4),
 fun ρz wz hE hA _ ⟨u1, u10, _⟩ => core_val rfl rfl (o_build (build_parts2 u1 u10) (bd_57_0_2 _ _ _)),
 fun ρz wz hE hA _ ⟨u11, _⟩ => core_slice rfl rfl hE (o_buildSlice (build_parts1 u11) (bs_26_1 _ _)),
 fun ρz wz hE hA _ ⟨u0, ⟨bz12, hz12, hge12, hM12⟩, _⟩ => core_append (n := 4) (cells := Rate.cells) (B := w0.heap.size) (w0 := w12) rfl rfl (fun b hb => hb) u0 hz12 (fun _ => rfl) one_57 si_26 se_57 (by decide) (by decide) (O3.exn (hA rfl)) ⟨_, (Mb.rep (n := 4) (cells := Rate.cells) (hn := fun _ => rfl) (G := noG) hM12 rfl (Nat.le_of_ble_eq_true rfl) (fun h => h))⟩ hl (Nat.le_trans hsz hE.size) hE.size (fun v1 w1 h1 h2 => ⟨h1, h2⟩),
 fun ρz wz hE hA _ ⟨⟨hO13, hfr13⟩, _⟩ => core_copy rfl rfl (o_assign rfl) ⟨hO13, hfr13⟩, trivial⟩ ?_
        intro ρ13 w13 hE hN hf hr
        obtain ⟨v3_4, h3⟩ : ∃ v, ρ13 3 = v := ⟨_, rfl⟩
        have hq3 : (fun u wz => Own w0.heap.size 57 4 Rate.cells wz u l ∧ ∀ b, u.ownBlock = some b → (v3_2.ownBlock = some b ∨ w12.heap.size ≤ b)) (ρ13 3) w13 := hf 14 rfl
        rw [h3] at hq3
        obtain ⟨hq3, hfr3⟩ := hq3
        obtain ⟨h0, h4, h5⟩ := k3 hr h0 h4 h5 rfl
        have Oo_O3 := O3
        have H_l_ := H_l_.over hE (fun b hb => (O3.lt hb).1)
        have hW := Ext.own hW hE (fun b hb => (O3.lt hb).1)
        have O3 := hq3
        have hsz := hW.size
        refine WP.seq ?_
        obtain ⟨z5, hz5, hF⟩ := obind hF
        refine WP.rb mixed [[], [0], [1]] [[5], [], []] [(37, .int .i64 y), (38, .int .i64 z5), (39, .bool (decide (3 < z5)))] (by kernel_rfl) ⟨fun ρz wz hE hA ⟨e5, _⟩ _ => core_val rfl rfl (o_move (e5.trans h5)),
 fun ρz wz hE hA _ ⟨u0, _⟩ => core_call rfl (call_args2 u0 rfl) cf_13 (pensionplain_Mod_ok  _ _  hz5),
 fun ρz wz hE hA _ ⟨u1, _⟩ => core_val rfl rfl (o_gtr u1 rfl rfl), trivial⟩ ?_
        intro ρ14 w14 hN hf hr
        have h39 : ρ14 39 = .bool (decide (3 < z5)) := hf 2 rfl
        obtain ⟨h0, h3, h4, h5⟩ := k4 hr h0 h3 h4 h5 rfl
        have Oo_O3 := O3
        have H_l_ := H_l_.exn hN
        have hW := hW.trans hN
        have O3 := O3.exn hN
        have hsz := hW.size
        refine WP.cond rfl h39 (fun hb => ?_) (fun hb => ?_)
        · have hF := (if_pos hb).symm.trans hF
          obtain ⟨z6, hz6, hF⟩ := obind hF
          obtain ⟨z7, hz7, hF⟩ := obind hF
          obtain ⟨z8, hz8, hF⟩ := obind hF
          obtain ⟨z9, hz9, hF⟩ := obind hF
          obtain ⟨l2, hl2, hF⟩ := obind hF
          refine WP.region mixed [[], [], [], [2], [3], [4], [], [6], [7], [8], [], [10], [11], [12], [8, 9, 12, 13], [1, 4, 5, 8, 12, 14], [4, 8, 12, 15], [0, 4, 8, 12, 14, 16], [0, 17]] [[], [], [], [2], [3], [4], [], [6], [7], [8], [], [10], [11], [12], [9, 13], [1, 5, 14], [15], [0, 16], [17]] [[3], [4], [5], [], [], [], [5], [], [], [], [5], [], [], [], [], [], [], [], []] [17] [] [val 40 (v3_4), val 41 (.int .i64 c_), val 42 (.int .i64 y), val 43 (.int .i64 (i64 (Int.tdiv y 5000))), val 44 (.int .i64 z6), val 45 (.int .i64 (i64 (1 + z6))), val 46 (.int .i64 y), val 47 (.int .i64 (i64 (Int.tdiv y 11))), val 48 (.int .i64 z7), val 49 (.int .i64 (i64 (1 + z7))), val 50 (.int .i64 y), val 51 (.int .i64 (i64 (Int.tdiv y 13))), val 52 (.int .i64 z8), val 53 (.int .i64 (i64 (1 + z8))), val 54 (Fraction.val z9), val 55 (Rate.val (⟨c_, i64 (1 + z6), z9⟩ : Rate)), (56, fun u wz => ∃ b, u = .slice (some ⟨b, 0, none⟩) 1 1 ∧ w14.heap.size ≤ b ∧ Mb wz b 57 (([(⟨c_, i64 (1 + z6), z9⟩ : Rate)]).flatMap Rate.cells)), (57, fun u wz => Own w0.heap.size 57 4 Rate.cells wz u l2 ∧ ∀ b, u.ownBlock = some b → (v3_4.ownBlock = some b ∨ w14.heap.size ≤ b)), (3, fun u wz => Own w0.heap.size 57 4 Rate.cells wz u l2 ∧ ∀ b, u.ownBlock = some b → (v3_4.ownBlock = some b ∨ w14.heap.size ≤ b))] (fun b => Value.ownBlock v3_4 = some b) (by kernel_rfl) ⟨sV, sV, sV, sV, sV, sV, sV, sV, sV, sV, sV, sV, sV, sV, sV, sV, fun _ _ _ hE ⟨b, hz, hs, hM⟩ => ⟨b, hz, hs, hM.ext hE (fun hg => absurd (O3.lt hg).2 (Nat.not_lt.2 hs))⟩, fun _ _ _ hE ⟨hO, hf⟩ => ⟨hO.exn hE, hf⟩, fun _ _ _ hE ⟨hO, hf⟩ => ⟨hO.exn hE, hf⟩, trivial⟩ ⟨fun ρz wz hE hA ⟨e3, _⟩ _ => core_val rfl rfl (o_move (e3.trans h3)),
 fun ρz wz hE hA ⟨e4, _⟩ _ => core_val rfl rfl (o_move (e4.trans h4)),
 fun ρz wz hE hA ⟨e5, _⟩ _ => core_val rfl rfl (o_move (e5.trans h5)),
 fun ρz wz hE hA _ ⟨u2, _⟩ => core_val rfl rfl (o_quo u2 rfl (by decide) rfl),
 fun ρz wz hE hA _ ⟨u3, _⟩ => core_call rfl (call_args2 u3 rfl) cf_13 (pensionplain_Mod_ok  _ _  hz6),
 fun ρz wz hE hA _ ⟨u4, _⟩ => core_val rfl rfl (o_add rfl u4 rfl),
 fun ρz wz hE hA ⟨e5, _⟩ _ => core_val rfl rfl (o_move (e5.trans h5)),
 fun ρz wz hE hA _ ⟨u6, _⟩ => core_val rfl rfl (o_quo u6 rfl (by decide) rfl),
 fun ρz wz hE hA _ ⟨u7, _⟩ => core_call rfl (call_args2 u7 rfl) cf_13 (pensionplain_Mod_ok  _ _  hz7),
 fun ρz wz hE hA _ ⟨u8, _⟩ => core_val rfl rfl (o_add rfl u8 rfl),
 fun ρz wz hE hA ⟨e5, _⟩ _ => core_val rfl rfl (o_move (e5.trans h5)),
 fun ρz wz hE hA _ ⟨u10, _⟩ => core_val rfl rfl (o_quo u10 rfl (by decide) rfl),
 fun ρz wz hE hA _ ⟨u11, _⟩ => core_call rfl (call_args2 u11 rfl) cf_13 (pensionplain_Mod_ok  _ _  hz8),
 fun ρz wz hE hA _ ⟨u12, _⟩ => core_val rfl rfl (o_add rfl u12 rfl),
 fun ρz wz hE hA _ ⟨u9, u13, _⟩ => core_call rfl (call_args2 u9 u13) cf_25 (pensionplain_fraction_ok  _ _  hz9),
 fun ρz wz hE hA _ ⟨u1, u5, u14, _⟩ => core_val rfl rfl (o_build (build_parts3 u1 u5 u14) (bd_57_0_1_2 _ _ _ _)),
 fun ρz wz hE hA _ ⟨u15, _⟩ => core_slice rfl rfl hE (o_buildSlice (build_parts1 u15) (bs_26_1 _ _)),
 fun ρz wz hE hA _ ⟨u0, ⟨bz16, hz16, hge16, hM16⟩, _⟩ => core_append (n := 4) (cells := Rate.cells) (B := w0.heap.size) (w0 := w14) rfl rfl (fun b hb => hb) u0 hz16 (fun _ => rfl) one_57 si_26 se_57 (by decide) (by decide) (O3.exn (hA rfl)) ⟨_, (Mb.rep (n := 4) (cells := Rate.cells) (hn := fun _ => rfl) (G := noG) hM16 rfl (Nat.le_of_ble_eq_true rfl) (fun h => h))⟩ hl2 (Nat.le_trans hsz hE.size) hE.size (fun v1 w1 h1 h2 => ⟨h1, h2⟩),
 fun ρz wz hE hA _ ⟨⟨hO17, hfr17⟩, _⟩ => core_copy rfl rfl (o_assign rfl) ⟨hO17, hfr17⟩, trivial⟩ ?_
          intro ρ15 w15 hE hN hf hr
          obtain ⟨v3_5, h3⟩ : ∃ v, ρ15 3 = v := ⟨_, rfl⟩
          have hq3 : (fun u wz => Own w0.heap.size 57 4 Rate.cells wz u l2 ∧ ∀ b, u.ownBlock = some b → (v3_4.ownBlock = some b ∨ w14.heap.size ≤ b)) (ρ15 3) w15 := hf 18 rfl
          rw [h3] at hq3
          obtain ⟨hq3, hfr3⟩ := hq3
          obtain ⟨h0, h4⟩ := k2 hr h0 h4 rfl
          have Oo_O3 := O3
          have H_l_ := H_l_.over hE (fun b hb => (O3.lt hb).1)
          have hW := Ext.own hW hE (fun b hb => (O3.lt hb).1)
          have O3 := hq3
          have hsz := hW.size
          exact ⟨l2, v3_5, h0, h3, h4, H_l_, O3, hW, hsz, hF⟩
        have hF := (if_neg (Bool.eq_false_iff.1 hb)).symm.trans hF
        refine WP.skip ?_
        exact ⟨l, v3_4, h0, h3, h4, H_l_, O3, hW, hsz, hF⟩
      rintro ρ8 w8 ⟨out_3, v3_3, h0, h3, h4, H_l_, O3, hW, hsz, hF⟩
      rw [pensionplain_Rates_j2] at hF
      refine WP.rv mixed [[], [0], [0, 1]] [[], [0], [1]] [[4], [], []] [(8, .int .i64 c_), (9, .int .i64 (i64 (c_ + 1))), (4, .int .i64 (i64 (c_ + 1)))] (by kernel_rfl) ⟨fun ρz wz hE hA ⟨e4, _⟩ _ => core_val rfl rfl (o_move (e4.trans h4)),
 fun ρz wz hE hA _ ⟨u0, _⟩ => core_val rfl rfl (o_add u0 rfl rfl),
 fun ρz wz hE hA _ ⟨u1, _⟩ => core_val rfl rfl (o_assign u1), trivial⟩ ?_
      intro ρ9 w9 hN hf hr
      have h4 : ρ9 4 = .int .i64 (i64 (c_ + 1)) := hf 2 rfl
      obtain ⟨h0, h3⟩ := k2 hr h0 h3 rfl
      have Oo_O3 := O3
      have H_l_ := H_l_.exn hN
      have hW := hW.trans hN
      have O3 := O3.exn hN
      have hsz := hW.size
      exact ⟨out_3, i64 (c_ + 1), v3_3, h0, h3, h4, H_l_, O3, hW, hsz, (by first | exact hF | (rw [hrec_]; exact hF))⟩
    have hF := (if_neg (Bool.eq_false_iff.1 hb)).symm.trans hF
    refine WP.exit ?_
    refine thenQ_exit ?_
    refine thenQ_exit ?_
    refine blockQ_hit ?_
    exact ⟨out_2, v3_2, h3, O3, hW, hsz, hF⟩
  rintro ρ3 w3 ⟨out_, v3_, h3, O3, hW, hsz, hF⟩
  rw [pensionplain_Rates_j] at hF
  refine WP.seq ?_
  refine WP.rb mixed [[], [0]] [[3], []] [(58, v3_), (2, v3_)] (by kernel_rfl) ⟨fun ρz wz hE hA ⟨e3, _⟩ _ => core_val rfl rfl (o_move (e3.trans h3)),
 fun ρz wz hE hA _ ⟨u0, _⟩ => core_val rfl rfl (o_assign u0), trivial⟩ ?_
  intro ρ4 w4 hN hf hr
  have h2 : ρ4 2 = v3_ := hf 1 rfl
  have Oo_O3 := O3
  have hW := hW.trans hN
  have O2 := O3.exn hN
  have hsz := hW.size
  refine WP.ret ?_
  show retQ Tryd.prog 59 Tryd.f12 (fun v w1 => Own w0.heap.size 57 4 Rate.cells w1 v r ∧ Ext noG w0 w1) .ret ρ4 w4
  obtain rfl := Option.some.inj hF
  exact res1 rfl (by decide) h2 ⟨O2, hW⟩
end Go.PL
