/- The translated code computes the Lean functions (printed by a program). -/
import Derived.Test.YtndkbfbjjnhgoaaGreatDoorW2
set_option linter.unusedVariables false
set_option linter.unusedSimpArgs false
set_option maxRecDepth 10000
namespace Go.PL
open Go Go.Proofs

set_option maxHeartbeats 4000000 in
theorem pensionref12_big_ok {w0 : World} (b_ : List Int) (n_ : Int) (size_ : Int) {v_b_ : Value} {B : Nat} (O0 : Own B 5 1 (fun x : Int => [Value.int .u8 x]) w0 v_b_ b_) (hB0 : B ≤ w0.heap.size) {r : (List Int)} (hF : pensionref12_big b_ n_ size_ = some r) :
    Calls Tryz.prog 118 #[v_b_, .int .i64 n_, .int .i64 size_] w0 fun e w1 => ∃ v, e = .returned v ∧ Ext (fun b => Value.ownBlock v_b_ = some b) w0 w1 ∧ (Own B 5 1 (fun x : Int => [Value.int .u8 x]) w1 v r ∧ ∀ b, v.ownBlock = some b → Value.ownBlock v_b_ = some b ∨ w0.heap.size ≤ b) := by
  refine (Calls.start (P := Tryz.prog) (args := [v_b_, .int .i64 n_, .int .i64 size_]) (R := fun v w1 => (Own B 5 1 (fun x : Int => [Value.int .u8 x]) w1 v r ∧ ∀ b, v.ownBlock = some b → Value.ownBlock v_b_ = some b ∨ w0.heap.size ≤ b) ∧ Ext (fun b => Value.ownBlock v_b_ = some b) w0 w1) (n := 24) (w := w0) Tryz.func118 rfl rfl (Nat.le_of_ble_eq_true rfl) (fun ρ hargs => ?_)).mono (fun e w1 ⟨v, he, hv, hE⟩ => ⟨v, he, hE, hv⟩)
  have h0 := hargs 0 _ rfl
  have h1 := hargs 1 _ rfl
  have h2 := hargs 2 _ rfl
  have hW := Ext.refl (fun b => Value.ownBlock v_b_ = some b) w0
  have hpf_O0 : ∀ k, Value.ownBlock v_b_ = some k → Value.ownBlock v_b_ = some k ∨ w0.heap.size ≤ k := fun _ h => .inl h
  rw [pensionref12_big] at hF
  refine WP.seq (WP.rb mixed [[]] [[]] [(6, .slice none 0 0)] (by kernel_rfl) ⟨aC rfl rfl (fun _ => rfl), trivial⟩ ?_)
  intro ρ1 w1 hN hf hr
  obtain ⟨h0, h1, h2⟩ := k3 hr h0 h1 h2 rfl
  have Oo_O0 := O0
  have hpo_O0 := hpf_O0
  have hW := hW.trans hN.of_no
  have O0 := Oo_O0.exn hN
  refine WP.seq (WP.seq (WP.rb mixed [[], [0], [1]] [[2], [], []] [(8, .int .i64 size_), (9, .int .i64 (i64 (size_ - 1))), (7, .int .i64 (i64 (size_ - 1)))] (by kernel_rfl) ⟨mE rfl rfl h2,
 fun ρz wz hE hA _ ⟨u0, _⟩ => core_val rfl rfl (o_sub u0 rfl rfl),
 aU rfl rfl rfl, trivial⟩ ?_))
  intro ρ2 w2 hN hf hr
  have h7 := hv hf 2 rfl rfl
  obtain ⟨h0, h1⟩ := k2 hr h0 h1 rfl
  have Oo_O0 := O0
  have hpo_O0 := hpf_O0
  have hW := hW.trans hN.of_no
  have O0 := Oo_O0.exn hN
  refine WP.block (WP.loop (fun k_ ρ w => ∃ b_2 : List Int, ∃ i_ : Int, ∃ v0_ : Value, ρ 0 = v0_ ∧ ρ 1 = .int .i64 n_ ∧ ρ 7 = .int .i64 i_ ∧ Own B 5 1 (fun x : Int => [Value.int .u8 x]) w v0_ b_2 ∧ (∀ k, Value.ownBlock v0_ = some k → Value.ownBlock v_b_ = some k ∨ w0.heap.size ≤ k) ∧ Ext (fun b => Value.ownBlock v_b_ = some b) w0 w ∧ loopC k_ (pensionref12_big_l n_) (b_2, i_) = some r) FU ⟨b_, i64 (size_ - 1), v_b_, h0, h1, h7, O0, hpf_O0, hW, hF⟩ (fun _ _ h => by obtain ⟨_, _, _, _, _, _, _, _, _, h⟩ := h; cases h) ?_)
  rintro k_ ρ3 w3 ⟨b_2, i_, v0_, h0, h1, h7, O0, hpf_O0, hW, hF⟩
  have hF : pensionref12_big_l n_ (loopC k_ (pensionref12_big_l n_)) (b_2, i_) = some r := (loopC_succ k_ (pensionref12_big_l n_) (b_2, i_)).symm.trans hF
  generalize hrec_ : loopC k_ (pensionref12_big_l n_) = rec_ at hF
  rw [pensionref12_big_l] at hF
  refine WP.seq (WP.seq (WP.rb mixed [[], [0]] [[7], []] [(10, .int .i64 i_), (11, .bool (decide (0 ≤ i_)))] (by kernel_rfl) ⟨mE rfl rfl h7,
 fun ρz wz hE hA _ ⟨u0, _⟩ => core_val rfl rfl (o_geq u0 rfl rfl), trivial⟩ ?_))
  intro ρ4 w4 hN hf hr
  have h11 := hv hf 1 rfl rfl
  obtain ⟨h0, h1, h7⟩ := k3 hr h0 h1 h7 rfl
  have Oo_O0 := O0
  have hpo_O0 := hpf_O0
  have hW := hW.trans hN.of_no
  have O0 := Oo_O0.exn hN
  refine WP.cond rfl h11 (fun hb => ?_) (fun hb => ?_)
  · have hF := (if_pos hb).symm.trans hF
    refine WP.skip (WP.seq (WP.block ?_))
    obtain ⟨q, hq, hF⟩ := obind hF
    obtain ⟨l, hl, hF⟩ := obind hF
    refine WP.region mixed [[], [], [], [2], [3], [1, 4], [5], [6], [0, 7], [0, 8]] [[], [], [], [2], [3], [1, 4], [5], [6], [0, 7], [8]] [[0], [1], [7], [], [], [], [], [], [], []] [8] [] [val 14 (v0_), val 15 (.int .i64 n_), val 16 (.int .i64 i_), val 17 (.int .i64 (i64 (8 * i_))), val 18 (.int .u64 (u64 (i64 (8 * i_)))), val 19 (.int .i64 q), val 20 (.int .u8 ((IntKind.u8.wrap) q)), (21, fun u wz => ∃ b, u = .slice (some ⟨b, 0, none⟩) 1 1 ∧ w4.heap.size ≤ b ∧ Mb wz b 5 (([(IntKind.u8.wrap) q]).flatMap (fun x : Int => [Value.int .u8 x]))), (22, fun u wz => Own B 5 1 (fun x : Int => [Value.int .u8 x]) wz u l ∧ ∀ b, u.ownBlock = some b → (v0_.ownBlock = some b ∨ w4.heap.size ≤ b)), (0, fun u wz => Own B 5 1 (fun x : Int => [Value.int .u8 x]) wz u l ∧ ∀ b, u.ownBlock = some b → (v0_.ownBlock = some b ∨ w4.heap.size ≤ b))] (fun b => Value.ownBlock v0_ = some b) (by kernel_rfl) ⟨sV, sV, sV, sV, sV, sV, sV, fun _ _ _ hE ⟨b, hz, hs, hM⟩ => ⟨b, hz, hs, hM.ext hE (fun hg => absurd (O0.lt hg).2 (Nat.not_lt.2 hs))⟩, fun _ _ _ hE ⟨hO, hf⟩ => ⟨hO.exn hE, hf⟩, fun _ _ _ hE ⟨hO, hf⟩ => ⟨hO.exn hE, hf⟩, trivial⟩ ⟨mE rfl rfl h0,
 mE rfl rfl h1,
 mE rfl rfl h7,
 fun ρz wz hE hA _ ⟨u2, _⟩ => core_val rfl rfl (o_mul rfl u2 rfl),
 fun ρz wz hE hA _ ⟨u3, _⟩ => core_val rfl rfl (o_conv u3 (cv_3_101 _ _)),
 fun ρz wz hE hA _ ⟨u1, u4, _⟩ => core_val rfl rfl (o_shr u1 u4 (shrO_some hq).1 (shrO_some hq).2),
 fun ρz wz hE hA _ ⟨u5, _⟩ => core_val rfl rfl (o_conv u5 (cv_3_5 _ _)),
 fun ρz wz hE hA _ ⟨u6, _⟩ => core_slice rfl rfl hE (o_buildSlice (build_parts1 u6) (bs_117_1 _ _)),
 fun ρz wz hE hA _ ⟨u0, ⟨bz7, hzn7, hge7, hM7⟩, _⟩ => core_append (n := 1) (cells := fun x : Int => [Value.int .u8 x]) (B := B) (w0 := w4) rfl rfl (fun b hb => hb) u0 hzn7 (fun _ => rfl) one_5 si_117 se_5 (by decide) (by decide) (O0.exn (hA rfl)) ⟨_, (Mb.rep (n := 1) (cells := fun x : Int => [Value.int .u8 x]) (hn := fun _ => rfl) (G := noG) hM7 rfl (Nat.le_of_ble_eq_true rfl) (fun h => h))⟩ hl (Nat.le_trans hB0 (Nat.le_trans hW.size hE.size)) hE.size (fun v1 w1 h1 h2 => ⟨h1, h2⟩),
 fun ρz wz hE hA _ ⟨⟨hO8, hfr8⟩, _⟩ => core_copy rfl rfl (o_assign rfl) ⟨hO8, hfr8⟩, trivial⟩ ?_
    intro ρ5 w5 hE hN hf hr
    obtain ⟨v0_2, h0⟩ : ∃ v, ρ5 0 = v := ⟨_, rfl⟩
    have hq0 : (fun u wz => Own B 5 1 (fun x : Int => [Value.int .u8 x]) wz u l ∧ ∀ b, u.ownBlock = some b → (v0_.ownBlock = some b ∨ w4.heap.size ≤ b)) (ρ5 0) w5 := hf 9 rfl
    rw [h0] at hq0
    obtain ⟨hq0, hfr0⟩ := hq0
    obtain ⟨h1, h7⟩ := k2 hr h1 h7 rfl
    have Oo_O0 := O0
    have hpo_O0 := hpf_O0
    have hpf_O0 : ∀ k, Value.ownBlock v0_2 = some k → Value.ownBlock v_b_ = some k ∨ w0.heap.size ≤ k := fun k h1 => (hfr0 _ h1).elim (fun h => hpo_O0 k h) (fun h => .inr (Nat.le_trans hW.size h))
    have hW := Ext.par hW hE (fun b hb => hpo_O0 b hb)
    have O0 := hq0
    refine WP.rv mixed [[], [0], [0, 1]] [[], [0], [1]] [[7], [], []] [(12, .int .i64 i_), (13, .int .i64 (i64 (i_ - 1))), (7, .int .i64 (i64 (i_ - 1)))] (by kernel_rfl) ⟨mE rfl rfl h7,
 fun ρz wz hE hA _ ⟨u0, _⟩ => core_val rfl rfl (o_sub u0 rfl rfl),
 aU rfl rfl rfl, trivial⟩ ?_
    intro ρ6 w6 hN hf hr
    have h7 := hv hf 2 rfl rfl
    obtain ⟨h0, h1⟩ := k2 hr h0 h1 rfl
    have Oo_O0 := O0
    have hpo_O0 := hpf_O0
    have hW := hW.trans hN.of_no
    have O0 := Oo_O0.exn hN
    exact ⟨l, i64 (i_ - 1), v0_2, h0, h1, h7, O0, hpf_O0, hW, (by first | exact hF | (rw [hrec_]; exact hF))⟩
  have hF := (if_neg (Bool.eq_false_iff.1 hb)).symm.trans hF
  refine WP.exit (thenQ_exit (thenQ_exit (blockQ_hit (WP.seq (WP.rb mixed [[], [0]] [[0], []] [(23, v0_), (6, v0_)] (by kernel_rfl) ⟨mE rfl rfl h0,
 aU rfl rfl rfl, trivial⟩ ?_)))))
  intro ρ7 w7 hN hf hr
  have h6 := hv hf 1 rfl rfl
  have h0 := (hr 0 rfl).trans h0
  have Oo_O0 := O0
  have hpo_O0 := hpf_O0
  have hpf_O6 := hpo_O0
  have hW := hW.trans hN.of_no
  have O0 := Oo_O0.exn hN
  have O6 := Oo_O0.exn hN
  refine WP.ret ?_
  show retQ Tryz.prog 24 Tryz.f118 (fun v w1 => (Own B 5 1 (fun x : Int => [Value.int .u8 x]) w1 v r ∧ ∀ b, v.ownBlock = some b → Value.ownBlock v_b_ = some b ∨ w0.heap.size ≤ b) ∧ Ext (fun b => Value.ownBlock v_b_ = some b) w0 w1) .ret ρ7 w7
  obtain rfl := Option.some.inj hF
  exact res1 rfl (by decide) h6 ⟨⟨O6, hpf_O6⟩, hW⟩

set_option maxHeartbeats 4000000 in
theorem pensionref12_Bytes_ok {w0 : World} (d_ : api_Fact) {r : (List Int)} (hF : pensionref12_Bytes d_ = some r) :
    Calls Tryz.prog 97 #[api_Fact.val d_] w0 fun e w1 => ∃ v, e = .returned v ∧ Ext noG w0 w1 ∧ Own w0.heap.size 5 1 (fun x : Int => [Value.int .u8 x]) w1 v r := by
  refine (Calls.start (P := Tryz.prog) (args := [api_Fact.val d_]) (R := fun v w1 => Own w0.heap.size 5 1 (fun x : Int => [Value.int .u8 x]) w1 v r ∧ Ext noG w0 w1) (n := 89) (w := w0) Tryz.func97 rfl rfl (Nat.le_of_ble_eq_true rfl) (fun ρ hargs => ?_)).mono (fun e w1 ⟨v, he, hv, hE⟩ => ⟨v, he, hE, hv⟩)
  have h0 := hargs 0 _ rfl
  have hW := Ext.refl noG w0
  rw [pensionref12_Bytes] at hF
  refine WP.seq (WP.rg mixed [[], []] [[], []] [[0], []] [(1, fun u wz => ∃ b, u = .pointer (some ⟨b, 0, none⟩) ∧ w0.heap.size ≤ b ∧ Mb wz b 38 (api_Fact.cells d_)), val 2 (.slice none 0 0)] (by kernel_rfl) ⟨fun _ _ _ hE ⟨b, hb, hs, hM⟩ => ⟨b, hb, hs, hM.exn hE⟩, sV, trivial⟩ ⟨fun ρz wz hE hA ⟨e0, _⟩ _ => core_new rfl rfl hE (o_box (e0.trans h0) (bx_38 _ _)),
 aC rfl rfl (fun _ => rfl), trivial⟩ ?_)
  intro ρ1 w1 hN hf hr
  obtain ⟨b1_, h1, hge_b1_, Hb_b1_⟩ := hf 0 rfl
  have hB_b1_ : w0.heap.size ≤ b1_ := Nat.le_trans hW.size hge_b1_
  have hW := hW.trans hN
  refine WP.seq (WP.seq ?_)
  obtain ⟨z, hz, hF⟩ := obind hF
  refine WP.rb mixed [[], [0], [1]] [[1], [], []] [(7, api_Fact.val d_), (8, .bool z), (9, .bool (!z))] (by kernel_rfl) ⟨fun ρz wz hE hA ⟨e1, _⟩ _ => core_val rfl rfl (o_load (e1.trans h1) (run_loadN (cs := (api_Fact.cells d_)) (lr_38 _ _) rfl ((Hb_b1_.exn (hA rfl)).ca))),
 fun ρz wz hE hA _ ⟨u0, _⟩ => core_call rfl (call_args1 u0) cf_65 (pensionref12_Valid_ok  _  hz),
 fun ρz wz hE hA _ ⟨u1, _⟩ => core_val rfl rfl (o_not u1 rfl), trivial⟩ ?_
  intro ρ2 w2 hN hf hr
  have h9 := hv hf 2 rfl rfl
  have h1 := (hr 1 rfl).trans h1
  have Hb_b1_n := Hb_b1_.exn hN
  have hW := hW.trans hN
  have Hb_b1_ := Hb_b1_n
  refine WP.cond rfl h9 (fun hb => ?_) (fun hb => ?_)
  · have hF := (if_pos hb).symm.trans hF
    refine WP.seq (WP.rb mixed [[]] [[]] [(2, .slice none 0 0)] (by kernel_rfl) ⟨aC rfl rfl (fun _ => rfl), trivial⟩ ?_)
    intro ρ3 w3 hN hf hr
    have h2 : ρ3 2 = .slice none 0 0 := hf 0 rfl
    have O2 : Own w0.heap.size 5 1 (fun x : Int => [Value.int .u8 x]) w3 (.slice none 0 0) [] := Own.nil _ _ _ _ _
    have hW := hW.trans hN
    have O2 : Own w0.heap.size 5 1 (fun x : Int => [Value.int .u8 x]) w3 (.slice none 0 0) [] := Own.nil _ _ _ _ _
    refine WP.ret ?_
    show retQ Tryz.prog 89 Tryz.f97 (fun v w1 => Own w0.heap.size 5 1 (fun x : Int => [Value.int .u8 x]) w1 v r ∧ Ext noG w0 w1) .ret ρ3 w3
    obtain rfl := Option.some.inj hF
    exact res1 rfl (by decide) h2 ⟨O2, hW⟩
  have hF := (if_neg (Bool.eq_false_iff.1 hb)).symm.trans hF
  refine WP.skip (WP.seq (WP.rb mixed [[]] [[]] [(3, .int .i64 0)] (by kernel_rfl) ⟨aC rfl rfl (fun _ => rfl), trivial⟩ ?_))
  intro ρ4 w4 hN hf hr
  have h3 := hv hf 0 rfl rfl
  have h1 := (hr 1 rfl).trans h1
  have Hb_b1_n := Hb_b1_.exn hN
  have hW := hW.trans hN
  have Hb_b1_ := Hb_b1_n
  refine WP.seqJ (fun ρ w => ∃ x : Int, ρ 1 = .pointer (some ⟨b1_, 0, none⟩) ∧ ρ 3 = .int .i64 x ∧ Mb w b1_ 38 (api_Fact.cells d_) ∧ Ext noG w0 w ∧ pensionref12_Bytes_j d_ x = some r) ?_ ?_
  · refine WP.seq (WP.rb mixed [[], [0]] [[1], []] [(10, .pointer (some ((⟨b1_, 0, none⟩ : Addr).add 3))), (11, .bool d_.Withdrawn)] (by kernel_rfl) ⟨fun ρz wz hE hA ⟨e1, _⟩ _ => core_val rfl rfl (o_fieldAddr (e1.trans h1) (fa_38_3 _ _)),
 fun ρz wz hE hA _ ⟨u0, _⟩ => core_val rfl rfl (o_load u0 (run_load1 (lr_4 _ _) (CA.sub ((Hb_b1_.exn (hA rfl)).ca) 3 1))), trivial⟩ ?_)
    intro ρ29 w29 hN hf hr
    have h11 := hv hf 1 rfl rfl
    obtain ⟨h1, h3⟩ := k2 hr h1 h3 rfl
    have Hb_b1_n := Hb_b1_.exn hN
    have hW := hW.trans hN
    have Hb_b1_ := Hb_b1_n
    refine WP.cond rfl h11 (fun hb => ?_) (fun hb => ?_)
    · have hF := (if_pos hb).symm.trans hF
      refine WP.rb mixed [[]] [[]] [(3, .int .i64 1)] (by kernel_rfl) ⟨aC rfl rfl (fun _ => rfl), trivial⟩ ?_
      intro ρ30 w30 hN hf hr
      have h3 := hv hf 0 rfl rfl
      have h1 := (hr 1 rfl).trans h1
      have Hb_b1_n := Hb_b1_.exn hN
      have hW := hW.trans hN
      have Hb_b1_ := Hb_b1_n
      exact ⟨1, h1, h3, Hb_b1_, hW, hF⟩
    have hF := (if_neg (Bool.eq_false_iff.1 hb)).symm.trans hF
    refine WP.skip ?_
    exact ⟨0, h1, h3, Hb_b1_, hW, hF⟩
  rintro ρ5 w5 ⟨x, h1, h3, Hb_b1_, hW, hF⟩
  rw [pensionref12_Bytes_j] at hF
  refine WP.seq ?_
  obtain ⟨z2, hz2, hF⟩ := obind hF
  obtain ⟨z3, hz3, hF⟩ := obind hF
  obtain ⟨z4, hz4, hF⟩ := obind hF
  obtain ⟨z5, hz5, hF⟩ := obind hF
  obtain ⟨z6, hz6, hF⟩ := obind hF
  obtain ⟨z7, hz7, hF⟩ := obind hF
  refine WP.region mixed [[], [0], [1], [], [3], [2, 4], [], [6], [5, 7], [], [5, 8, 9], [], [11], [5, 8, 10, 12], [], [14], [5, 8, 10, 13, 15], [5, 8, 10, 13, 16]] [[], [0], [1], [], [3], [2, 4], [], [6], [5, 7], [], [8, 9], [], [11], [10, 12], [], [14], [13, 15], [16]] [[1], [], [], [1], [], [], [1], [], [], [3], [], [1], [], [], [1], [], [], []] [5, 8, 10, 13, 16] [(5, 8), (8, 10), (10, 13), (13, 16), (2, 5)] [val 12 (.pointer (some ((⟨b1_, 0, none⟩ : Addr).add 0))), val 13 (.int .i64 d_.Issuer), (14, fun u wz => Own w0.heap.size 5 1 (fun x : Int => [Value.int .u8 x]) wz u z2 ∧ ∀ b, u.ownBlock = some b → w5.heap.size ≤ b), val 15 (.pointer (some ((⟨b1_, 0, none⟩ : Addr).add 1))), val 16 (.int .i64 d_.Number), (17, fun u wz => Own w0.heap.size 5 1 (fun x : Int => [Value.int .u8 x]) wz u z3 ∧ ∀ b, u.ownBlock = some b → w5.heap.size ≤ b), val 18 (.pointer (some ((⟨b1_, 0, none⟩ : Addr).add 2))), val 19 (.int .i64 d_.Version), (20, fun u wz => Own w0.heap.size 5 1 (fun x : Int => [Value.int .u8 x]) wz u z4 ∧ ∀ b, u.ownBlock = some b → w5.heap.size ≤ b), val 21 (.int .i64 x), (22, fun u wz => Own w0.heap.size 5 1 (fun x : Int => [Value.int .u8 x]) wz u z5 ∧ ∀ b, u.ownBlock = some b → w5.heap.size ≤ b), val 23 (.pointer (some ((⟨b1_, 0, none⟩ : Addr).add 4))), val 24 (.int .i64 d_.Person), (25, fun u wz => Own w0.heap.size 5 1 (fun x : Int => [Value.int .u8 x]) wz u z6 ∧ ∀ b, u.ownBlock = some b → w5.heap.size ≤ b), val 26 (.pointer (some ((⟨b1_, 0, none⟩ : Addr).add 5))), val 27 (.int .i64 d_.Kind), (28, fun u wz => Own w0.heap.size 5 1 (fun x : Int => [Value.int .u8 x]) wz u z7 ∧ ∀ b, u.ownBlock = some b → w5.heap.size ≤ b), (4, fun u wz => Own w0.heap.size 5 1 (fun x : Int => [Value.int .u8 x]) wz u z7 ∧ ∀ b, u.ownBlock = some b → w5.heap.size ≤ b)] (fun b => w5.heap.size ≤ b) (by kernel_rfl) ⟨sV, sV, fun _ _ _ hE ⟨hO, hf⟩ => ⟨hO.exn hE, hf⟩, sV, sV, fun _ _ _ hE ⟨hO, hf⟩ => ⟨hO.exn hE, hf⟩, sV, sV, fun _ _ _ hE ⟨hO, hf⟩ => ⟨hO.exn hE, hf⟩, sV, fun _ _ _ hE ⟨hO, hf⟩ => ⟨hO.exn hE, hf⟩, sV, sV, fun _ _ _ hE ⟨hO, hf⟩ => ⟨hO.exn hE, hf⟩, sV, sV, fun _ _ _ hE ⟨hO, hf⟩ => ⟨hO.exn hE, hf⟩, fun _ _ _ hE ⟨hO, hf⟩ => ⟨hO.exn hE, hf⟩, trivial⟩ ⟨fun ρz wz hE hA ⟨e1, _⟩ _ => core_val rfl rfl (o_fieldAddr (e1.trans h1) (fa_38_0 _ _)),
 fun ρz wz hE hA _ ⟨u0, _⟩ => core_val rfl rfl (o_load u0 (run_load1 (lr_3 _ _) (CA.sub ((Hb_b1_.exn hE.fresh).ca) 0 1))),
 fun ρz wz hE hA _ ⟨u1, _⟩ => core_callR rfl (call_args3 rfl u1 rfl) cf_118 ((pensionref12_big_ok  _ _ _ (Own.nil wz.heap.size 5 1 (fun x : Int => [Value.int .u8 x]) wz) (Nat.le_refl _) hz2).mono (fun e w1 ⟨v, he, hE1, hO, _⟩ => ⟨v, he, hE1.mono (fun _ h => nilblock h), hO.base (Nat.le_trans hW.size hE.size), fun b hb => Nat.le_trans hE.size (hO.lt hb).1⟩)),
 fun ρz wz hE hA ⟨e1, _⟩ _ => core_val rfl rfl (o_fieldAddr (e1.trans h1) (fa_38_1 _ _)),
 fun ρz wz hE hA _ ⟨u3, _⟩ => core_val rfl rfl (o_load u3 (run_load1 (lr_3 _ _) (CA.sub ((Hb_b1_.exn hE.fresh).ca) 1 1))),
 fun ρz wz hE hA _ ⟨⟨hO2, hfr2⟩, u4, _⟩ => core_callC rfl rfl (fun b hb => hfr2 b hb) (call_args3 rfl u4 rfl) cf_118 ((pensionref12_big_ok  _ _ _ hO2 (Nat.le_trans hW.size hE.size) hz3).mono (fun e w1 ⟨v, he, hE1, hO, hb⟩ => ⟨v, he, hE1, hO, fun b h => (hb b h).elim (hfr2 b) (fun h => (Nat.le_trans hE.size h))⟩)),
 fun ρz wz hE hA ⟨e1, _⟩ _ => core_val rfl rfl (o_fieldAddr (e1.trans h1) (fa_38_2 _ _)),
 fun ρz wz hE hA _ ⟨u6, _⟩ => core_val rfl rfl (o_load u6 (run_load1 (lr_3 _ _) (CA.sub ((Hb_b1_.exn hE.fresh).ca) 2 1))),
 fun ρz wz hE hA _ ⟨⟨hO5, hfr5⟩, u7, _⟩ => core_callC rfl rfl (fun b hb => hfr5 b hb) (call_args3 rfl u7 rfl) cf_118 ((pensionref12_big_ok  _ _ _ hO5 (Nat.le_trans hW.size hE.size) hz4).mono (fun e w1 ⟨v, he, hE1, hO, hb⟩ => ⟨v, he, hE1, hO, fun b h => (hb b h).elim (hfr5 b) (fun h => (Nat.le_trans hE.size h))⟩)),
 mE rfl rfl h3,
 fun ρz wz hE hA _ ⟨⟨hO8, hfr8⟩, u9, _⟩ => core_callC rfl rfl (fun b hb => hfr8 b hb) (call_args3 rfl u9 rfl) cf_118 ((pensionref12_big_ok  _ _ _ hO8 (Nat.le_trans hW.size hE.size) hz5).mono (fun e w1 ⟨v, he, hE1, hO, hb⟩ => ⟨v, he, hE1, hO, fun b h => (hb b h).elim (hfr8 b) (fun h => (Nat.le_trans hE.size h))⟩)),
 fun ρz wz hE hA ⟨e1, _⟩ _ => core_val rfl rfl (o_fieldAddr (e1.trans h1) (fa_38_4 _ _)),
 fun ρz wz hE hA _ ⟨u11, _⟩ => core_val rfl rfl (o_load u11 (run_load1 (lr_3 _ _) (CA.sub ((Hb_b1_.exn hE.fresh).ca) 4 1))),
 fun ρz wz hE hA _ ⟨⟨hO10, hfr10⟩, u12, _⟩ => core_callC rfl rfl (fun b hb => hfr10 b hb) (call_args3 rfl u12 rfl) cf_118 ((pensionref12_big_ok  _ _ _ hO10 (Nat.le_trans hW.size hE.size) hz6).mono (fun e w1 ⟨v, he, hE1, hO, hb⟩ => ⟨v, he, hE1, hO, fun b h => (hb b h).elim (hfr10 b) (fun h => (Nat.le_trans hE.size h))⟩)),
 fun ρz wz hE hA ⟨e1, _⟩ _ => core_val rfl rfl (o_fieldAddr (e1.trans h1) (fa_38_5 _ _)),
 fun ρz wz hE hA _ ⟨u14, _⟩ => core_val rfl rfl (o_load u14 (run_load1 (lr_3 _ _) (CA.sub ((Hb_b1_.exn hE.fresh).ca) 5 1))),
 fun ρz wz hE hA _ ⟨⟨hO13, hfr13⟩, u15, _⟩ => core_callC rfl rfl (fun b hb => hfr13 b hb) (call_args3 rfl u15 rfl) cf_118 ((pensionref12_big_ok  _ _ _ hO13 (Nat.le_trans hW.size hE.size) hz7).mono (fun e w1 ⟨v, he, hE1, hO, hb⟩ => ⟨v, he, hE1, hO, fun b h => (hb b h).elim (hfr13 b) (fun h => (Nat.le_trans hE.size h))⟩)),
 fun ρz wz hE hA _ ⟨⟨hO16, hfr16⟩, _⟩ => core_copy rfl rfl (o_assign rfl) ⟨hO16, hfr16⟩, trivial⟩ ?_
  intro ρ6 w6 hE hN hf hr
  have hN := hE.fresh
  obtain ⟨v4_, h4⟩ : ∃ v, ρ6 4 = v := ⟨_, rfl⟩
  have hq4 : (fun u wz => Own w0.heap.size 5 1 (fun x : Int => [Value.int .u8 x]) wz u z7 ∧ ∀ b, u.ownBlock = some b → w5.heap.size ≤ b) (ρ6 4) w6 := hf 17 rfl
  rw [h4] at hq4
  obtain ⟨hq4, hfr4⟩ := hq4
  have h1 := (hr 1 rfl).trans h1
  have Hb_b1_n := Hb_b1_.exn hN
  have hW := hW.trans hN
  have O4 := hq4
  have hnb_O4_b1_ : Value.ownBlock v4_ ≠ some b1_ := fun h1 => absurd Hb_b1_.lt (Nat.not_lt.2 (hfr4 _ h1))
  have Hb_b1_ := Hb_b1_n
  refine WP.seq ?_
  obtain ⟨z8, hz8, hF⟩ := obind hF
  refine WP.rb mixed [[], [0], [1], [2]] [[1], [], [], []] [(29, .pointer (some ((⟨b1_, 0, none⟩ : Addr).add 5))), (30, .int .i64 d_.Kind), (31, .string z8), (5, .string z8)] (by kernel_rfl) ⟨fun ρz wz hE hA ⟨e1, _⟩ _ => core_val rfl rfl (o_fieldAddr (e1.trans h1) (fa_38_5 _ _)),
 fun ρz wz hE hA _ ⟨u0, _⟩ => core_val rfl rfl (o_load u0 (run_load1 (lr_3 _ _) (CA.sub ((Hb_b1_.exn (hA rfl)).ca) 5 1))),
 fun ρz wz hE hA _ ⟨u1, _⟩ => core_call rfl (call_args1 u1) cf_28 (pensionref12_Uses_ok  _  hz8),
 aU rfl rfl rfl, trivial⟩ ?_
  intro ρ7 w7 hN hf hr
  have h5 := hv hf 3 rfl rfl
  obtain ⟨h1, h4⟩ := k2 hr h1 h4 rfl
  have Oo_O4 := O4
  have Hb_b1_n := Hb_b1_.exn hN
  have hW := hW.trans hN
  have O4 := Oo_O4.exn hN
  have Hb_b1_ := Hb_b1_n
  refine WP.seq (WP.seq (WP.rb mixed [[]] [[]] [(6, .int .i64 0)] (by kernel_rfl) ⟨aC rfl rfl (fun _ => rfl), trivial⟩ ?_))
  intro ρ8 w8 hN hf hr
  have h6 := hv hf 0 rfl rfl
  obtain ⟨h1, h4, h5⟩ := k3 hr h1 h4 h5 rfl
  have Oo_O4 := O4
  have Hb_b1_n := Hb_b1_.exn hN
  have hW := hW.trans hN
  have O4 := Oo_O4.exn hN
  have Hb_b1_ := Hb_b1_n
  refine WP.block (WP.loop (fun k_ ρ w => ∃ x2 : List Int, ∃ x3 : Int, ∃ v4_2 : Value, ρ 1 = .pointer (some ⟨b1_, 0, none⟩) ∧ ρ 4 = v4_2 ∧ ρ 5 = .string z8 ∧ ρ 6 = .int .i64 x3 ∧ Mb w b1_ 38 (api_Fact.cells d_) ∧ Own w0.heap.size 5 1 (fun x : Int => [Value.int .u8 x]) w v4_2 x2 ∧ Value.ownBlock v4_2 ≠ some b1_ ∧ Ext noG w0 w ∧ loopC k_ (pensionref12_Bytes_l d_ z8) (x2, x3) = some r) FU ⟨z7, 0, v4_, h1, h4, h5, h6, Hb_b1_, O4, hnb_O4_b1_, hW, hF⟩ (fun _ _ h => by obtain ⟨_, _, _, _, _, _, _, _, _, _, _, h⟩ := h; cases h) ?_)
  rintro k_ ρ9 w9 ⟨x2, x3, v4_2, h1, h4, h5, h6, Hb_b1_, O4, hnb_O4_b1_, hW, hF⟩
  have hF : pensionref12_Bytes_l d_ z8 (loopC k_ (pensionref12_Bytes_l d_ z8)) (x2, x3) = some r := (loopC_succ k_ (pensionref12_Bytes_l d_ z8) (x2, x3)).symm.trans hF
  generalize hrec_ : loopC k_ (pensionref12_Bytes_l d_ z8) = rec_ at hF
  rw [pensionref12_Bytes_l] at hF
  refine WP.seq (WP.seq (WP.rb mixed [[], [], [1], [0, 2]] [[6], [5], [], []] [(32, .int .i64 x3), (33, .string z8), (34, .int .i64 (z8.size : Int)), (35, .bool (decide (x3 < (z8.size : Int))))] (by kernel_rfl) ⟨mE rfl rfl h6,
 mE rfl rfl h5,
 fun ρz wz hE hA _ ⟨u1, _⟩ => core_val rfl rfl (o_len u1 len_9),
 fun ρz wz hE hA _ ⟨u0, u2, _⟩ => core_val rfl rfl (o_lss u0 u2 rfl), trivial⟩ ?_))
  intro ρ10 w10 hN hf hr
  have h35 := hv hf 3 rfl rfl
  obtain ⟨h1, h4, h5, h6⟩ := k4 hr h1 h4 h5 h6 rfl
  have Oo_O4 := O4
  have Hb_b1_n := Hb_b1_.exn hN
  have hW := hW.trans hN
  have O4 := Oo_O4.exn hN
  have Hb_b1_ := Hb_b1_n
  refine WP.cond rfl h35 (fun hb => ?_) (fun hb => ?_)
  · have hF := (if_pos hb).symm.trans hF
    refine WP.skip (WP.seqJ (fun ρ w => ∃ x4 : List Int, ∃ v4_3 : Value, ρ 1 = .pointer (some ⟨b1_, 0, none⟩) ∧ ρ 4 = v4_3 ∧ ρ 5 = .string z8 ∧ ρ 6 = .int .i64 x3 ∧ Mb w b1_ 38 (api_Fact.cells d_) ∧ Own w0.heap.size 5 1 (fun x : Int => [Value.int .u8 x]) w v4_3 x4 ∧ Value.ownBlock v4_3 ≠ some b1_ ∧ Ext noG w0 w ∧ pensionref12_Bytes_j2 x3 rec_ x4 = some r) ?_ ?_)
    · refine WP.block (WP.seq ?_)
      obtain ⟨y, hy, hF⟩ := obind hF
      refine WP.rb mixed [[], [], [0, 1]] [[5], [6], []] [(38, .string z8), (39, .int .i64 x3), (40, .int .u8 y)] (by kernel_rfl) ⟨mE rfl rfl h5,
 mE rfl rfl h6,
 fun ρz wz hE hA _ ⟨u0, u1, _⟩ => core_val rfl rfl (o_index u0 u1 (by kernel_rfl) hy), trivial⟩ ?_
      intro ρ13 w13 hN hf hr
      have h40 := hv hf 2 rfl rfl
      obtain ⟨h1, h4, h5, h6⟩ := k4 hr h1 h4 h5 h6 rfl
      have Oo_O4 := O4
      have Hb_b1_n := Hb_b1_.exn hN
      have hW := hW.trans hN
      have O4 := Oo_O4.exn hN
      have Hb_b1_ := Hb_b1_n
      refine WP.block (WP.seq (WP.rb mixed [[], [0]] [[40], []] [(42, .bool (y == 83)), (41, .bool (y == 83))] (by kernel_rfl) ⟨fun ρz wz hE hA ⟨e40, _⟩ _ => core_val rfl rfl (o_eql (e40.trans h40) rfl rfl),
 aU rfl rfl rfl, trivial⟩ ?_))
      intro ρ14 w14 hN hf hr
      have h41 := hv hf 1 rfl rfl
      obtain ⟨h1, h4, h5, h6, h40⟩ := k5 hr h1 h4 h5 h6 h40 rfl
      have Oo_O4 := O4
      have Hb_b1_n := Hb_b1_.exn hN
      have hW := hW.trans hN
      have O4 := Oo_O4.exn hN
      have Hb_b1_ := Hb_b1_n
      refine WP.cond rfl h41 (fun hb => ?_) (fun hb => ?_)
      · have hF := (if_pos hb).symm.trans hF
        obtain ⟨z9, hz9, hF⟩ := obind hF
        refine WP.region mixed [[], [], [1], [0, 2], [0, 3]] [[], [], [1], [0, 2], [3]] [[4], [1], [], [], []] [3] [] [val 43 (v4_2), val 44 (.pointer (some ((⟨b1_, 0, none⟩ : Addr).add 6))), val 45 (.int .i64 d_.State), (46, fun u wz => Own w0.heap.size 5 1 (fun x : Int => [Value.int .u8 x]) wz u z9 ∧ ∀ b, u.ownBlock = some b → (v4_2.ownBlock = some b ∨ w14.heap.size ≤ b)), (4, fun u wz => Own w0.heap.size 5 1 (fun x : Int => [Value.int .u8 x]) wz u z9 ∧ ∀ b, u.ownBlock = some b → (v4_2.ownBlock = some b ∨ w14.heap.size ≤ b))] (fun b => Value.ownBlock v4_2 = some b) (by kernel_rfl) ⟨sV, sV, sV, fun _ _ _ hE ⟨hO, hf⟩ => ⟨hO.exn hE, hf⟩, fun _ _ _ hE ⟨hO, hf⟩ => ⟨hO.exn hE, hf⟩, trivial⟩ ⟨mE rfl rfl h4,
 fun ρz wz hE hA ⟨e1, _⟩ _ => core_val rfl rfl (o_fieldAddr (e1.trans h1) (fa_38_6 _ _)),
 fun ρz wz hE hA _ ⟨u1, _⟩ => core_val rfl rfl (o_load u1 (run_load1 (lr_3 _ _) (CA.sub ((Hb_b1_.exn (hA rfl)).ca) 6 1))),
 fun ρz wz hE hA _ ⟨u0, u2, _⟩ => core_callC rfl rfl (fun b hb => hb) (call_args3 u0 u2 rfl) cf_118 ((pensionref12_big_ok  _ _ _ (O4.exn (hA rfl)) (Nat.le_trans hW.size hE.size) hz9).mono (fun e w1 ⟨v, he, hE1, hO, hb⟩ => ⟨v, he, hE1, hO, fun b h => (hb b h).imp id (Nat.le_trans hE.size)⟩)),
 fun ρz wz hE hA _ ⟨⟨hO3, hfr3⟩, _⟩ => core_copy rfl rfl (o_assign rfl) ⟨hO3, hfr3⟩, trivial⟩ ?_
        intro ρ15 w15 hE hN hf hr
        obtain ⟨v4_4, h4⟩ : ∃ v, ρ15 4 = v := ⟨_, rfl⟩
        have hq4 : (fun u wz => Own w0.heap.size 5 1 (fun x : Int => [Value.int .u8 x]) wz u z9 ∧ ∀ b, u.ownBlock = some b → (v4_2.ownBlock = some b ∨ w14.heap.size ≤ b)) (ρ15 4) w15 := hf 4 rfl
        rw [h4] at hq4
        obtain ⟨hq4, hfr4⟩ := hq4
        obtain ⟨h1, h5, h6⟩ := k3 hr h1 h5 h6 rfl
        have Oo_O4 := O4
        have Hb_b1_n := Hb_b1_.ext hE (fun h => hnb_O4_b1_ h)
        have hW := Ext.own hW hE (fun b hb => (Oo_O4.lt hb).1)
        have O4 := hq4
        have hnb_O4_b1_ : Value.ownBlock v4_4 ≠ some b1_ := fun h1 => (hfr4 _ h1).elim (fun h => hnb_O4_b1_ h) (fun h => absurd Hb_b1_.lt (Nat.not_lt.2 h))
        have Hb_b1_ := Hb_b1_n
        exact ⟨z9, v4_4, h1, h4, h5, h6, Hb_b1_, O4, hnb_O4_b1_, hW, hF⟩
      have hF := (if_neg (Bool.eq_false_iff.1 hb)).symm.trans hF
      refine WP.seq (WP.rb mixed [[], [0]] [[40], []] [(48, .bool (y == 80)), (47, .bool (y == 80))] (by kernel_rfl) ⟨fun ρz wz hE hA ⟨e40, _⟩ _ => core_val rfl rfl (o_eql (e40.trans h40) rfl rfl),
 aU rfl rfl rfl, trivial⟩ ?_)
      intro ρ16 w16 hN hf hr
      have h47 := hv hf 1 rfl rfl
      obtain ⟨h1, h4, h5, h6, h40⟩ := k5 hr h1 h4 h5 h6 h40 rfl
      have Oo_O4 := O4
      have Hb_b1_n := Hb_b1_.exn hN
      have hW := hW.trans hN
      have O4 := Oo_O4.exn hN
      have Hb_b1_ := Hb_b1_n
      refine WP.cond rfl h47 (fun hb => ?_) (fun hb => ?_)
      · have hF := (if_pos hb).symm.trans hF
        obtain ⟨z10, hz10, hF⟩ := obind hF
        obtain ⟨z11, hz11, hF⟩ := obind hF
        refine WP.region mixed [[], [], [1], [2], [0, 3], [], [5], [6], [3, 4, 7], [0, 4, 8]] [[], [], [1], [2], [0, 3], [], [5], [6], [4, 7], [8]] [[4], [1], [], [], [], [1], [], [], [], []] [4, 8] [(4, 8)] [val 49 (v4_2), val 50 (.pointer (some ((⟨b1_, 0, none⟩ : Addr).add 7))), val 51 (.pointer (some (((⟨b1_, 0, none⟩ : Addr).add 7).add 0))), val 52 (.int .i64 d_.Span.From), (53, fun u wz => Own w0.heap.size 5 1 (fun x : Int => [Value.int .u8 x]) wz u z10 ∧ ∀ b, u.ownBlock = some b → (v4_2.ownBlock = some b ∨ w16.heap.size ≤ b)), val 54 (.pointer (some ((⟨b1_, 0, none⟩ : Addr).add 7))), val 55 (.pointer (some (((⟨b1_, 0, none⟩ : Addr).add 7).add 1))), val 56 (.int .i64 d_.Span.To), (57, fun u wz => Own w0.heap.size 5 1 (fun x : Int => [Value.int .u8 x]) wz u z11 ∧ ∀ b, u.ownBlock = some b → (v4_2.ownBlock = some b ∨ w16.heap.size ≤ b)), (4, fun u wz => Own w0.heap.size 5 1 (fun x : Int => [Value.int .u8 x]) wz u z11 ∧ ∀ b, u.ownBlock = some b → (v4_2.ownBlock = some b ∨ w16.heap.size ≤ b))] (fun b => Value.ownBlock v4_2 = some b ∨ w16.heap.size ≤ b) (by kernel_rfl) ⟨sV, sV, sV, sV, fun _ _ _ hE ⟨hO, hf⟩ => ⟨hO.exn hE, hf⟩, sV, sV, sV, fun _ _ _ hE ⟨hO, hf⟩ => ⟨hO.exn hE, hf⟩, fun _ _ _ hE ⟨hO, hf⟩ => ⟨hO.exn hE, hf⟩, trivial⟩ ⟨mE rfl rfl h4,
 fun ρz wz hE hA ⟨e1, _⟩ _ => core_val rfl rfl (o_fieldAddr (e1.trans h1) (fa_38_7 _ _)),
 fun ρz wz hE hA _ ⟨u1, _⟩ => core_val rfl rfl (o_fieldAddr u1 (fa_36_0 _ _)),
 fun ρz wz hE hA _ ⟨u2, _⟩ => core_val rfl rfl (o_load u2 (run_load1 (lr_3 _ _) (CA.sub (CA.sub ((Hb_b1_.exn (hA rfl)).ca) 7 2) 0 1))),
 fun ρz wz hE hA _ ⟨u0, u3, _⟩ => core_callC rfl rfl (fun b hb => .inl hb) (call_args3 u0 u3 rfl) cf_118 ((pensionref12_big_ok  _ _ _ (O4.exn (hA rfl)) (Nat.le_trans hW.size hE.size) hz10).mono (fun e w1 ⟨v, he, hE1, hO, hb⟩ => ⟨v, he, hE1, hO, fun b h => (hb b h).imp id (Nat.le_trans hE.size)⟩)),
 fun ρz wz hE hA ⟨e1, _⟩ _ => core_val rfl rfl (o_fieldAddr (e1.trans h1) (fa_38_7 _ _)),
 fun ρz wz hE hA _ ⟨u5, _⟩ => core_val rfl rfl (o_fieldAddr u5 (fa_36_1 _ _)),
 fun ρz wz hE hA _ ⟨u6, _⟩ => core_val rfl rfl (o_load u6 (run_load1 (lr_3 _ _) (CA.sub (CA.sub ((Hb_b1_.ext hE (fun h => h.elim (fun h => hnb_O4_b1_ h) (fun h => absurd Hb_b1_.lt (Nat.not_lt.2 h)))).ca) 7 2) 1 1))),
 fun ρz wz hE hA _ ⟨⟨hO4, hfr4⟩, u7, _⟩ => core_callC rfl rfl (fun b hb => hfr4 b hb) (call_args3 rfl u7 rfl) cf_118 ((pensionref12_big_ok  _ _ _ hO4 (Nat.le_trans hW.size hE.size) hz11).mono (fun e w1 ⟨v, he, hE1, hO, hb⟩ => ⟨v, he, hE1, hO, fun b h => (hb b h).elim (hfr4 b) (fun h => .inr (Nat.le_trans hE.size h))⟩)),
 fun ρz wz hE hA _ ⟨⟨hO8, hfr8⟩, _⟩ => core_copy rfl rfl (o_assign rfl) ⟨hO8, hfr8⟩, trivial⟩ ?_
        intro ρ17 w17 hE hN hf hr
        obtain ⟨v4_5, h4⟩ : ∃ v, ρ17 4 = v := ⟨_, rfl⟩
        have hq4 : (fun u wz => Own w0.heap.size 5 1 (fun x : Int => [Value.int .u8 x]) wz u z11 ∧ ∀ b, u.ownBlock = some b → (v4_2.ownBlock = some b ∨ w16.heap.size ≤ b)) (ρ17 4) w17 := hf 9 rfl
        rw [h4] at hq4
        obtain ⟨hq4, hfr4⟩ := hq4
        obtain ⟨h1, h5, h6⟩ := k3 hr h1 h5 h6 rfl
        have Oo_O4 := O4
        have Hb_b1_n := Hb_b1_.ext hE (fun h => h.elim (fun h => hnb_O4_b1_ h) (fun h2 => absurd Hb_b1_.lt (Nat.not_lt.2 h2)))
        have hW := Ext.own hW hE (fun b hb => hb.elim (fun h => (Oo_O4.lt h).1) (fun h => Nat.le_trans hW.size h))
        have O4 := hq4
        have hnb_O4_b1_ : Value.ownBlock v4_5 ≠ some b1_ := fun h1 => (hfr4 _ h1).elim (fun h => hnb_O4_b1_ h) (fun h => absurd Hb_b1_.lt (Nat.not_lt.2 h))
        have Hb_b1_ := Hb_b1_n
        exact ⟨z11, v4_5, h1, h4, h5, h6, Hb_b1_, O4, hnb_O4_b1_, hW, hF⟩
      have hF := (if_neg (Bool.eq_false_iff.1 hb)).symm.trans hF
      refine WP.seq (WP.rb mixed [[], [0]] [[40], []] [(59, .bool (y == 84)), (58, .bool (y == 84))] (by kernel_rfl) ⟨fun ρz wz hE hA ⟨e40, _⟩ _ => core_val rfl rfl (o_eql (e40.trans h40) rfl rfl),
 aU rfl rfl rfl, trivial⟩ ?_)
      intro ρ18 w18 hN hf hr
      have h58 := hv hf 1 rfl rfl
      obtain ⟨h1, h4, h5, h6, h40⟩ := k5 hr h1 h4 h5 h6 h40 rfl
      have Oo_O4 := O4
      have Hb_b1_n := Hb_b1_.exn hN
      have hW := hW.trans hN
      have O4 := Oo_O4.exn hN
      have Hb_b1_ := Hb_b1_n
      refine WP.cond rfl h58 (fun hb => ?_) (fun hb => ?_)
      · have hF := (if_pos hb).symm.trans hF
        obtain ⟨z12, hz12, hF⟩ := obind hF
        refine WP.region mixed [[], [], [1], [0, 2], [0, 3]] [[], [], [1], [0, 2], [3]] [[4], [1], [], [], []] [3] [] [val 60 (v4_2), val 61 (.pointer (some ((⟨b1_, 0, none⟩ : Addr).add 9))), val 62 (.int .i64 d_.Seat), (63, fun u wz => Own w0.heap.size 5 1 (fun x : Int => [Value.int .u8 x]) wz u z12 ∧ ∀ b, u.ownBlock = some b → (v4_2.ownBlock = some b ∨ w18.heap.size ≤ b)), (4, fun u wz => Own w0.heap.size 5 1 (fun x : Int => [Value.int .u8 x]) wz u z12 ∧ ∀ b, u.ownBlock = some b → (v4_2.ownBlock = some b ∨ w18.heap.size ≤ b))] (fun b => Value.ownBlock v4_2 = some b) (by kernel_rfl) ⟨sV, sV, sV, fun _ _ _ hE ⟨hO, hf⟩ => ⟨hO.exn hE, hf⟩, fun _ _ _ hE ⟨hO, hf⟩ => ⟨hO.exn hE, hf⟩, trivial⟩ ⟨mE rfl rfl h4,
 fun ρz wz hE hA ⟨e1, _⟩ _ => core_val rfl rfl (o_fieldAddr (e1.trans h1) (fa_38_8 _ _)),
 fun ρz wz hE hA _ ⟨u1, _⟩ => core_val rfl rfl (o_load u1 (run_load1 (lr_3 _ _) (CA.sub ((Hb_b1_.exn (hA rfl)).ca) 9 1))),
 fun ρz wz hE hA _ ⟨u0, u2, _⟩ => core_callC rfl rfl (fun b hb => hb) (call_args3 u0 u2 rfl) cf_118 ((pensionref12_big_ok  _ _ _ (O4.exn (hA rfl)) (Nat.le_trans hW.size hE.size) hz12).mono (fun e w1 ⟨v, he, hE1, hO, hb⟩ => ⟨v, he, hE1, hO, fun b h => (hb b h).imp id (Nat.le_trans hE.size)⟩)),
 fun ρz wz hE hA _ ⟨⟨hO3, hfr3⟩, _⟩ => core_copy rfl rfl (o_assign rfl) ⟨hO3, hfr3⟩, trivial⟩ ?_
        intro ρ19 w19 hE hN hf hr
        obtain ⟨v4_6, h4⟩ : ∃ v, ρ19 4 = v := ⟨_, rfl⟩
        have hq4 : (fun u wz => Own w0.heap.size 5 1 (fun x : Int => [Value.int .u8 x]) wz u z12 ∧ ∀ b, u.ownBlock = some b → (v4_2.ownBlock = some b ∨ w18.heap.size ≤ b)) (ρ19 4) w19 := hf 4 rfl
        rw [h4] at hq4
        obtain ⟨hq4, hfr4⟩ := hq4
        obtain ⟨h1, h5, h6⟩ := k3 hr h1 h5 h6 rfl
        have Oo_O4 := O4
        have Hb_b1_n := Hb_b1_.ext hE (fun h => hnb_O4_b1_ h)
        have hW := Ext.own hW hE (fun b hb => (Oo_O4.lt hb).1)
        have O4 := hq4
        have hnb_O4_b1_ : Value.ownBlock v4_6 ≠ some b1_ := fun h1 => (hfr4 _ h1).elim (fun h => hnb_O4_b1_ h) (fun h => absurd Hb_b1_.lt (Nat.not_lt.2 h))
        have Hb_b1_ := Hb_b1_n
        exact ⟨z12, v4_6, h1, h4, h5, h6, Hb_b1_, O4, hnb_O4_b1_, hW, hF⟩
      have hF := (if_neg (Bool.eq_false_iff.1 hb)).symm.trans hF
      refine WP.seq (WP.rb mixed [[], [0]] [[40], []] [(65, .bool (y == 72)), (64, .bool (y == 72))] (by kernel_rfl) ⟨fun ρz wz hE hA ⟨e40, _⟩ _ => core_val rfl rfl (o_eql (e40.trans h40) rfl rfl),
 aU rfl rfl rfl, trivial⟩ ?_)
      intro ρ20 w20 hN hf hr
      have h64 := hv hf 1 rfl rfl
      obtain ⟨h1, h4, h5, h6, h40⟩ := k5 hr h1 h4 h5 h6 h40 rfl
      have Oo_O4 := O4
      have Hb_b1_n := Hb_b1_.exn hN
      have hW := hW.trans hN
      have O4 := Oo_O4.exn hN
      have Hb_b1_ := Hb_b1_n
      refine WP.cond rfl h64 (fun hb => ?_) (fun hb => ?_)
      · have hF := (if_pos hb).symm.trans hF
        obtain ⟨z13, hz13, hF⟩ := obind hF
        refine WP.region mixed [[], [], [1], [0, 2], [0, 3]] [[], [], [1], [0, 2], [3]] [[4], [1], [], [], []] [3] [] [val 66 (v4_2), val 67 (.pointer (some ((⟨b1_, 0, none⟩ : Addr).add 10))), val 68 (.int .i64 d_.Share), (69, fun u wz => Own w0.heap.size 5 1 (fun x : Int => [Value.int .u8 x]) wz u z13 ∧ ∀ b, u.ownBlock = some b → (v4_2.ownBlock = some b ∨ w20.heap.size ≤ b)), (4, fun u wz => Own w0.heap.size 5 1 (fun x : Int => [Value.int .u8 x]) wz u z13 ∧ ∀ b, u.ownBlock = some b → (v4_2.ownBlock = some b ∨ w20.heap.size ≤ b))] (fun b => Value.ownBlock v4_2 = some b) (by kernel_rfl) ⟨sV, sV, sV, fun _ _ _ hE ⟨hO, hf⟩ => ⟨hO.exn hE, hf⟩, fun _ _ _ hE ⟨hO, hf⟩ => ⟨hO.exn hE, hf⟩, trivial⟩ ⟨mE rfl rfl h4,
 fun ρz wz hE hA ⟨e1, _⟩ _ => core_val rfl rfl (o_fieldAddr (e1.trans h1) (fa_38_9 _ _)),
 fun ρz wz hE hA _ ⟨u1, _⟩ => core_val rfl rfl (o_load u1 (run_load1 (lr_3 _ _) (CA.sub ((Hb_b1_.exn (hA rfl)).ca) 10 1))),
 fun ρz wz hE hA _ ⟨u0, u2, _⟩ => core_callC rfl rfl (fun b hb => hb) (call_args3 u0 u2 rfl) cf_118 ((pensionref12_big_ok  _ _ _ (O4.exn (hA rfl)) (Nat.le_trans hW.size hE.size) hz13).mono (fun e w1 ⟨v, he, hE1, hO, hb⟩ => ⟨v, he, hE1, hO, fun b h => (hb b h).imp id (Nat.le_trans hE.size)⟩)),
 fun ρz wz hE hA _ ⟨⟨hO3, hfr3⟩, _⟩ => core_copy rfl rfl (o_assign rfl) ⟨hO3, hfr3⟩, trivial⟩ ?_
        intro ρ21 w21 hE hN hf hr
        obtain ⟨v4_7, h4⟩ : ∃ v, ρ21 4 = v := ⟨_, rfl⟩
        have hq4 : (fun u wz => Own w0.heap.size 5 1 (fun x : Int => [Value.int .u8 x]) wz u z13 ∧ ∀ b, u.ownBlock = some b → (v4_2.ownBlock = some b ∨ w20.heap.size ≤ b)) (ρ21 4) w21 := hf 4 rfl
        rw [h4] at hq4
        obtain ⟨hq4, hfr4⟩ := hq4
        obtain ⟨h1, h5, h6⟩ := k3 hr h1 h5 h6 rfl
        have Oo_O4 := O4
        have Hb_b1_n := Hb_b1_.ext hE (fun h => hnb_O4_b1_ h)
        have hW := Ext.own hW hE (fun b hb => (Oo_O4.lt hb).1)
        have O4 := hq4
        have hnb_O4_b1_ : Value.ownBlock v4_7 ≠ some b1_ := fun h1 => (hfr4 _ h1).elim (fun h => hnb_O4_b1_ h) (fun h => absurd Hb_b1_.lt (Nat.not_lt.2 h))
        have Hb_b1_ := Hb_b1_n
        exact ⟨z13, v4_7, h1, h4, h5, h6, Hb_b1_, O4, hnb_O4_b1_, hW, hF⟩
      have hF := (if_neg (Bool.eq_false_iff.1 hb)).symm.trans hF
      refine WP.seq (WP.rb mixed [[], [0]] [[40], []] [(71, .bool (y == 67)), (70, .bool (y == 67))] (by kernel_rfl) ⟨fun ρz wz hE hA ⟨e40, _⟩ _ => core_val rfl rfl (o_eql (e40.trans h40) rfl rfl),
 aU rfl rfl rfl, trivial⟩ ?_)
      intro ρ22 w22 hN hf hr
      have h70 := hv hf 1 rfl rfl
      obtain ⟨h1, h4, h5, h6, h40⟩ := k5 hr h1 h4 h5 h6 h40 rfl
      have Oo_O4 := O4
      have Hb_b1_n := Hb_b1_.exn hN
      have hW := hW.trans hN
      have O4 := Oo_O4.exn hN
      have Hb_b1_ := Hb_b1_n
      refine WP.cond rfl h70 (fun hb => ?_) (fun hb => ?_)
      · have hF := (if_pos hb).symm.trans hF
        obtain ⟨z14, hz14, hF⟩ := obind hF
        refine WP.region mixed [[], [], [1], [0, 2], [0, 3]] [[], [], [1], [0, 2], [3]] [[4], [1], [], [], []] [3] [] [val 72 (v4_2), val 73 (.pointer (some ((⟨b1_, 0, none⟩ : Addr).add 11))), val 74 (.int .i64 d_.Currency), (75, fun u wz => Own w0.heap.size 5 1 (fun x : Int => [Value.int .u8 x]) wz u z14 ∧ ∀ b, u.ownBlock = some b → (v4_2.ownBlock = some b ∨ w22.heap.size ≤ b)), (4, fun u wz => Own w0.heap.size 5 1 (fun x : Int => [Value.int .u8 x]) wz u z14 ∧ ∀ b, u.ownBlock = some b → (v4_2.ownBlock = some b ∨ w22.heap.size ≤ b))] (fun b => Value.ownBlock v4_2 = some b) (by kernel_rfl) ⟨sV, sV, sV, fun _ _ _ hE ⟨hO, hf⟩ => ⟨hO.exn hE, hf⟩, fun _ _ _ hE ⟨hO, hf⟩ => ⟨hO.exn hE, hf⟩, trivial⟩ ⟨mE rfl rfl h4,
 fun ρz wz hE hA ⟨e1, _⟩ _ => core_val rfl rfl (o_fieldAddr (e1.trans h1) (fa_38_10 _ _)),
 fun ρz wz hE hA _ ⟨u1, _⟩ => core_val rfl rfl (o_load u1 (run_load1 (lr_3 _ _) (CA.sub ((Hb_b1_.exn (hA rfl)).ca) 11 1))),
 fun ρz wz hE hA _ ⟨u0, u2, _⟩ => core_callC rfl rfl (fun b hb => hb) (call_args3 u0 u2 rfl) cf_118 ((pensionref12_big_ok  _ _ _ (O4.exn (hA rfl)) (Nat.le_trans hW.size hE.size) hz14).mono (fun e w1 ⟨v, he, hE1, hO, hb⟩ => ⟨v, he, hE1, hO, fun b h => (hb b h).imp id (Nat.le_trans hE.size)⟩)),
 fun ρz wz hE hA _ ⟨⟨hO3, hfr3⟩, _⟩ => core_copy rfl rfl (o_assign rfl) ⟨hO3, hfr3⟩, trivial⟩ ?_
        intro ρ23 w23 hE hN hf hr
        obtain ⟨v4_8, h4⟩ : ∃ v, ρ23 4 = v := ⟨_, rfl⟩
        have hq4 : (fun u wz => Own w0.heap.size 5 1 (fun x : Int => [Value.int .u8 x]) wz u z14 ∧ ∀ b, u.ownBlock = some b → (v4_2.ownBlock = some b ∨ w22.heap.size ≤ b)) (ρ23 4) w23 := hf 4 rfl
        rw [h4] at hq4
        obtain ⟨hq4, hfr4⟩ := hq4
        obtain ⟨h1, h5, h6⟩ := k3 hr h1 h5 h6 rfl
        have Oo_O4 := O4
        have Hb_b1_n := Hb_b1_.ext hE (fun h => hnb_O4_b1_ h)
        have hW := Ext.own hW hE (fun b hb => (Oo_O4.lt hb).1)
        have O4 := hq4
        have hnb_O4_b1_ : Value.ownBlock v4_8 ≠ some b1_ := fun h1 => (hfr4 _ h1).elim (fun h => hnb_O4_b1_ h) (fun h => absurd Hb_b1_.lt (Nat.not_lt.2 h))
        have Hb_b1_ := Hb_b1_n
        exact ⟨z14, v4_8, h1, h4, h5, h6, Hb_b1_, O4, hnb_O4_b1_, hW, hF⟩
      have hF := (if_neg (Bool.eq_false_iff.1 hb)).symm.trans hF
      refine WP.seq (WP.rb mixed [[], [0]] [[40], []] [(77, .bool (y == 65)), (76, .bool (y == 65))] (by kernel_rfl) ⟨fun ρz wz hE hA ⟨e40, _⟩ _ => core_val rfl rfl (o_eql (e40.trans h40) rfl rfl),
 aU rfl rfl rfl, trivial⟩ ?_)
      intro ρ24 w24 hN hf hr
      have h76 := hv hf 1 rfl rfl
      obtain ⟨h1, h4, h5, h6, h40⟩ := k5 hr h1 h4 h5 h6 h40 rfl
      have Oo_O4 := O4
      have Hb_b1_n := Hb_b1_.exn hN
      have hW := hW.trans hN
      have O4 := Oo_O4.exn hN
      have Hb_b1_ := Hb_b1_n
      refine WP.cond rfl h76 (fun hb => ?_) (fun hb => ?_)
      · have hF := (if_pos hb).symm.trans hF
        obtain ⟨z15, hz15, hF⟩ := obind hF
        refine WP.region mixed [[], [], [1], [0, 2], [0, 3]] [[], [], [1], [0, 2], [3]] [[4], [1], [], [], []] [3] [] [val 78 (v4_2), val 79 (.pointer (some ((⟨b1_, 0, none⟩ : Addr).add 12))), val 80 (.int .i64 d_.Amount), (81, fun u wz => Own w0.heap.size 5 1 (fun x : Int => [Value.int .u8 x]) wz u z15 ∧ ∀ b, u.ownBlock = some b → (v4_2.ownBlock = some b ∨ w24.heap.size ≤ b)), (4, fun u wz => Own w0.heap.size 5 1 (fun x : Int => [Value.int .u8 x]) wz u z15 ∧ ∀ b, u.ownBlock = some b → (v4_2.ownBlock = some b ∨ w24.heap.size ≤ b))] (fun b => Value.ownBlock v4_2 = some b) (by kernel_rfl) ⟨sV, sV, sV, fun _ _ _ hE ⟨hO, hf⟩ => ⟨hO.exn hE, hf⟩, fun _ _ _ hE ⟨hO, hf⟩ => ⟨hO.exn hE, hf⟩, trivial⟩ ⟨mE rfl rfl h4,
 fun ρz wz hE hA ⟨e1, _⟩ _ => core_val rfl rfl (o_fieldAddr (e1.trans h1) (fa_38_11 _ _)),
 fun ρz wz hE hA _ ⟨u1, _⟩ => core_val rfl rfl (o_load u1 (run_load1 (lr_3 _ _) (CA.sub ((Hb_b1_.exn (hA rfl)).ca) 12 1))),
 fun ρz wz hE hA _ ⟨u0, u2, _⟩ => core_callC rfl rfl (fun b hb => hb) (call_args3 u0 u2 rfl) cf_118 ((pensionref12_big_ok  _ _ _ (O4.exn (hA rfl)) (Nat.le_trans hW.size hE.size) hz15).mono (fun e w1 ⟨v, he, hE1, hO, hb⟩ => ⟨v, he, hE1, hO, fun b h => (hb b h).imp id (Nat.le_trans hE.size)⟩)),
 fun ρz wz hE hA _ ⟨⟨hO3, hfr3⟩, _⟩ => core_copy rfl rfl (o_assign rfl) ⟨hO3, hfr3⟩, trivial⟩ ?_
        intro ρ25 w25 hE hN hf hr
        obtain ⟨v4_9, h4⟩ : ∃ v, ρ25 4 = v := ⟨_, rfl⟩
        have hq4 : (fun u wz => Own w0.heap.size 5 1 (fun x : Int => [Value.int .u8 x]) wz u z15 ∧ ∀ b, u.ownBlock = some b → (v4_2.ownBlock = some b ∨ w24.heap.size ≤ b)) (ρ25 4) w25 := hf 4 rfl
        rw [h4] at hq4
        obtain ⟨hq4, hfr4⟩ := hq4
        obtain ⟨h1, h5, h6⟩ := k3 hr h1 h5 h6 rfl
        have Oo_O4 := O4
        have Hb_b1_n := Hb_b1_.ext hE (fun h => hnb_O4_b1_ h)
        have hW := Ext.own hW hE (fun b hb => (Oo_O4.lt hb).1)
        have O4 := hq4
        have hnb_O4_b1_ : Value.ownBlock v4_9 ≠ some b1_ := fun h1 => (hfr4 _ h1).elim (fun h => hnb_O4_b1_ h) (fun h => absurd Hb_b1_.lt (Nat.not_lt.2 h))
        have Hb_b1_ := Hb_b1_n
        exact ⟨z15, v4_9, h1, h4, h5, h6, Hb_b1_, O4, hnb_O4_b1_, hW, hF⟩
      have hF := (if_neg (Bool.eq_false_iff.1 hb)).symm.trans hF
      refine WP.seq (WP.rb mixed [[], [0]] [[40], []] [(83, .bool (y == 82)), (82, .bool (y == 82))] (by kernel_rfl) ⟨fun ρz wz hE hA ⟨e40, _⟩ _ => core_val rfl rfl (o_eql (e40.trans h40) rfl rfl),
 aU rfl rfl rfl, trivial⟩ ?_)
      intro ρ26 w26 hN hf hr
      have h82 := hv hf 1 rfl rfl
      obtain ⟨h1, h4, h5, h6⟩ := k4 hr h1 h4 h5 h6 rfl
      have Oo_O4 := O4
      have Hb_b1_n := Hb_b1_.exn hN
      have hW := hW.trans hN
      have O4 := Oo_O4.exn hN
      have Hb_b1_ := Hb_b1_n
      refine WP.cond rfl h82 (fun hb => ?_) (fun hb => ?_)
      · have hF := (if_pos hb).symm.trans hF
        obtain ⟨z16, hz16, hF⟩ := obind hF
        refine WP.region mixed [[], [], [1], [0, 2], [0, 3]] [[], [], [1], [0, 2], [3]] [[4], [1], [], [], []] [3] [] [val 84 (v4_2), val 85 (.pointer (some ((⟨b1_, 0, none⟩ : Addr).add 13))), val 86 (.int .i64 d_.Ref), (87, fun u wz => Own w0.heap.size 5 1 (fun x : Int => [Value.int .u8 x]) wz u z16 ∧ ∀ b, u.ownBlock = some b → (v4_2.ownBlock = some b ∨ w26.heap.size ≤ b)), (4, fun u wz => Own w0.heap.size 5 1 (fun x : Int => [Value.int .u8 x]) wz u z16 ∧ ∀ b, u.ownBlock = some b → (v4_2.ownBlock = some b ∨ w26.heap.size ≤ b))] (fun b => Value.ownBlock v4_2 = some b) (by kernel_rfl) ⟨sV, sV, sV, fun _ _ _ hE ⟨hO, hf⟩ => ⟨hO.exn hE, hf⟩, fun _ _ _ hE ⟨hO, hf⟩ => ⟨hO.exn hE, hf⟩, trivial⟩ ⟨mE rfl rfl h4,
 fun ρz wz hE hA ⟨e1, _⟩ _ => core_val rfl rfl (o_fieldAddr (e1.trans h1) (fa_38_12 _ _)),
 fun ρz wz hE hA _ ⟨u1, _⟩ => core_val rfl rfl (o_load u1 (run_load1 (lr_3 _ _) (CA.sub ((Hb_b1_.exn (hA rfl)).ca) 13 1))),
 fun ρz wz hE hA _ ⟨u0, u2, _⟩ => core_callC rfl rfl (fun b hb => hb) (call_args3 u0 u2 rfl) cf_118 ((pensionref12_big_ok  _ _ _ (O4.exn (hA rfl)) (Nat.le_trans hW.size hE.size) hz16).mono (fun e w1 ⟨v, he, hE1, hO, hb⟩ => ⟨v, he, hE1, hO, fun b h => (hb b h).imp id (Nat.le_trans hE.size)⟩)),
 fun ρz wz hE hA _ ⟨⟨hO3, hfr3⟩, _⟩ => core_copy rfl rfl (o_assign rfl) ⟨hO3, hfr3⟩, trivial⟩ ?_
        intro ρ27 w27 hE hN hf hr
        obtain ⟨v4_10, h4⟩ : ∃ v, ρ27 4 = v := ⟨_, rfl⟩
        have hq4 : (fun u wz => Own w0.heap.size 5 1 (fun x : Int => [Value.int .u8 x]) wz u z16 ∧ ∀ b, u.ownBlock = some b → (v4_2.ownBlock = some b ∨ w26.heap.size ≤ b)) (ρ27 4) w27 := hf 4 rfl
        rw [h4] at hq4
        obtain ⟨hq4, hfr4⟩ := hq4
        obtain ⟨h1, h5, h6⟩ := k3 hr h1 h5 h6 rfl
        have Oo_O4 := O4
        have Hb_b1_n := Hb_b1_.ext hE (fun h => hnb_O4_b1_ h)
        have hW := Ext.own hW hE (fun b hb => (Oo_O4.lt hb).1)
        have O4 := hq4
        have hnb_O4_b1_ : Value.ownBlock v4_10 ≠ some b1_ := fun h1 => (hfr4 _ h1).elim (fun h => hnb_O4_b1_ h) (fun h => absurd Hb_b1_.lt (Nat.not_lt.2 h))
        have Hb_b1_ := Hb_b1_n
        exact ⟨z16, v4_10, h1, h4, h5, h6, Hb_b1_, O4, hnb_O4_b1_, hW, hF⟩
      have hF := (if_neg (Bool.eq_false_iff.1 hb)).symm.trans hF
      refine WP.skip ?_
      exact ⟨x2, v4_2, h1, h4, h5, h6, Hb_b1_, O4, hnb_O4_b1_, hW, hF⟩
    rintro ρ11 w11 ⟨x4, v4_3, h1, h4, h5, h6, Hb_b1_, O4, hnb_O4_b1_, hW, hF⟩
    rw [pensionref12_Bytes_j2] at hF
    refine WP.rv mixed [[], [0], [0, 1]] [[], [0], [1]] [[6], [], []] [(36, .int .i64 x3), (37, .int .i64 (i64 (x3 + 1))), (6, .int .i64 (i64 (x3 + 1)))] (by kernel_rfl) ⟨mE rfl rfl h6,
 fun ρz wz hE hA _ ⟨u0, _⟩ => core_val rfl rfl (o_add u0 rfl rfl),
 aU rfl rfl rfl, trivial⟩ ?_
    intro ρ12 w12 hN hf hr
    have h6 := hv hf 2 rfl rfl
    obtain ⟨h1, h4, h5⟩ := k3 hr h1 h4 h5 rfl
    have Oo_O4 := O4
    have Hb_b1_n := Hb_b1_.exn hN
    have hW := hW.trans hN
    have O4 := Oo_O4.exn hN
    have Hb_b1_ := Hb_b1_n
    exact ⟨x4, i64 (x3 + 1), v4_3, h1, h4, h5, h6, Hb_b1_, O4, hnb_O4_b1_, hW, (by first | exact hF | (rw [hrec_]; exact hF))⟩
  have hF := (if_neg (Bool.eq_false_iff.1 hb)).symm.trans hF
  refine WP.exit (thenQ_exit (thenQ_exit (blockQ_hit (WP.seq (WP.rb mixed [[], [0]] [[4], []] [(88, v4_2), (2, v4_2)] (by kernel_rfl) ⟨mE rfl rfl h4,
 aU rfl rfl rfl, trivial⟩ ?_)))))
  intro ρ28 w28 hN hf hr
  have h2 := hv hf 1 rfl rfl
  have Oo_O4 := O4
  have hW := hW.trans hN
  have O2 := Oo_O4.exn hN
  refine WP.ret ?_
  show retQ Tryz.prog 89 Tryz.f97 (fun v w1 => Own w0.heap.size 5 1 (fun x : Int => [Value.int .u8 x]) w1 v r ∧ Ext noG w0 w1) .ret ρ28 w28
  obtain rfl := Option.some.inj hF
  exact res1 rfl (by decide) h2 ⟨O2, hW⟩

set_option maxHeartbeats 4000000 in
theorem pensionref12_Less_ok {w0 : World} (a_ : api_Fact) (b_ : api_Fact) {r : Bool} (hF : pensionref12_Less a_ b_ = some r) :
    Calls Tryz.prog 68 #[api_Fact.val a_, api_Fact.val b_] w0 fun e w1 => e = .returned (.bool r) ∧ Ext noG w0 w1 := by
  refine (Calls.start (P := Tryz.prog) (args := [api_Fact.val a_, api_Fact.val b_]) (R := fun v w1 => v = .bool r ∧ Ext noG w0 w1) (n := 38) (w := w0) Tryz.func68 rfl rfl (Nat.le_of_ble_eq_true rfl) (fun ρ hargs => ?_)).mono (fun e w1 ⟨v, he, hv, hE⟩ => ⟨hv ▸ he, hE⟩)
  have h0 := hargs 0 _ rfl
  have h1 := hargs 1 _ rfl
  have hW := Ext.refl noG w0
  rw [pensionref12_Less] at hF
  refine WP.seq (WP.regionN mixed ⟨[[], [], []], [[], [], []], [[0], [1], []], [], [], [(0, 2), (1, 3)], []⟩ [(2, fun u wz => ∃ b, u = .pointer (some ⟨b, 0, none⟩) ∧ w0.heap.size ≤ b ∧ Mb wz b 38 (api_Fact.cells a_)), (3, fun u wz => ∃ b, u = .pointer (some ⟨b, 0, none⟩) ∧ w0.heap.size ≤ b ∧ Mb wz b 38 (api_Fact.cells b_)), val 4 (.bool false)] (fun b => w0.heap.size ≤ b) (by kernel_rfl) (.inr (fun _ h => h)) ⟨TStable.box, TStable.box, sV, trivial⟩ ⟨fun ρz wz hE hA ⟨e0, _⟩ _ => core_newN rfl rfl rfl hE (o_box (e0.trans h0) (bx_38 _ _)),
 fun ρz wz hE hA ⟨e1, _⟩ _ => core_newN rfl rfl rfl hE (o_box (e1.trans h1) (bx_38 _ _)),
 fun ρz wz hE hA _ _ => core_val rfl rfl (o_assign rfl), trivial⟩ ?_)
  intro ρ1 w1 hE hN hf hr hdist
  have hN := hE.fresh
  obtain ⟨b2_, h2, hge_b2_, Hb_b2_⟩ := hf 0 rfl
  obtain ⟨b3_, h3, hge_b3_, Hb_b3_⟩ := hf 1 rfl
  have hB_b2_ : w0.heap.size ≤ b2_ := Nat.le_trans hW.size hge_b2_
  have hB_b3_ : w0.heap.size ≤ b3_ := Nat.le_trans hW.size hge_b3_
  have hW := hW.trans hN
  refine WP.seq (WP.seq ?_)
  obtain ⟨z, hz, hF⟩ := obind hF
  obtain ⟨c, hc, hF⟩ := obind hF
  obtain ⟨z2, hz2, hc⟩ := orB hc
  have hc := orE hc
  refine WP.rb mixed [[], [0], [1], [2], [3], [3, 4], [3, 5], [3, 6]] [[2], [], [], [], [3], [], [], []] [(6, api_Fact.val a_), (7, .bool z), (8, .bool (!z)), (9, .bool (!z)), (10, gv (!(!z)) (api_Fact.val b_)), (11, gv (!(!z)) (.bool z2)), (12, gv (!(!z)) (.bool (!z2))), (13, .bool c)] (by kernel_rfl) ⟨fun ρz wz hE hA ⟨e2, _⟩ _ => core_val rfl rfl (o_load (e2.trans h2) (run_loadN (cs := (api_Fact.cells a_)) (lr_38 _ _) rfl ((Hb_b2_.exn (hA rfl)).ca))),
 fun ρz wz hE hA _ ⟨u0, _⟩ => core_call rfl (call_args1 u0) cf_65 (pensionref12_Valid_ok  _  hz),
 fun ρz wz hE hA _ ⟨u1, _⟩ => core_val rfl rfl (o_not u1 rfl),
 mU rfl rfl rfl,
 fun ρz wz hE hA ⟨e3, _⟩ ⟨u3, _⟩ => gIf rfl rfl (yF rfl u3) fun gc F hF => core_val rfl hF (o_load (e3.trans h3) (run_loadN (cs := (api_Fact.cells b_)) (lr_38 _ _) rfl ((Hb_b3_.exn (hA rfl)).ca))),
 fun ρz wz hE hA _ ⟨u3, u4, _⟩ => gIf rfl rfl (yF rfl u3) fun gc F hF => core_call hF (call_args1 (gt gc u4)) cf_65 (pensionref12_Valid_ok  _  (hz2 gc)),
 fun ρz wz hE hA _ ⟨u3, u5, _⟩ => gIf rfl rfl (yF rfl u3) fun gc F hF => core_val rfl hF (o_not (gt gc u5) rfl),
 fun ρz wz hE hA _ ⟨u3, u6, _⟩ => core_valE rfl rfl (congrArg Value.bool hc) (o_pick_or u3 rfl u6), trivial⟩ ?_
  intro ρ2 w2 hN hf hr
  have h13 := hv hf 7 rfl rfl
  obtain ⟨h2, h3⟩ := k2 hr h2 h3 rfl
  have Hb_b2_n := Hb_b2_.exn hN
  have Hb_b3_n := Hb_b3_.exn hN
  have hW := hW.trans hN
  have Hb_b2_ := Hb_b2_n
  have Hb_b3_ := Hb_b3_n
  refine WP.cond rfl h13 (fun hb => ?_) (fun hb => ?_)
  · have hF := (if_pos hb).symm.trans hF
    refine WP.seq (WP.rb mixed [[]] [[]] [(4, .bool false)] (by kernel_rfl) ⟨aC rfl rfl (fun _ => rfl), trivial⟩ ?_)
    intro ρ3 w3 hN hf hr
    have h4 := hv hf 0 rfl rfl
    have hW := hW.trans hN
    refine WP.ret ?_
    show retQ Tryz.prog 38 Tryz.f68 (fun v w1 => v = .bool r ∧ Ext noG w0 w1) .ret ρ3 w3
    obtain rfl := Option.some.inj hF
    exact res1 rfl (by decide) h4 ⟨rfl, hW⟩
  have hF := (if_neg (Bool.eq_false_iff.1 hb)).symm.trans hF
  refine WP.skip (WP.seq (WP.seq ?_))
  obtain ⟨z3, hz3, hF⟩ := obind hF
  refine WP.rb mixed [[], [], [0, 1], [2]] [[2], [3], [], []] [(14, api_Fact.val a_), (15, api_Fact.val b_), (16, .int .i64 z3), (5, .int .i64 z3)] (by kernel_rfl) ⟨fun ρz wz hE hA ⟨e2, _⟩ _ => core_val rfl rfl (o_load (e2.trans h2) (run_loadN (cs := (api_Fact.cells a_)) (lr_38 _ _) rfl ((Hb_b2_.exn (hA rfl)).ca))),
 fun ρz wz hE hA ⟨e3, _⟩ _ => core_val rfl rfl (o_load (e3.trans h3) (run_loadN (cs := (api_Fact.cells b_)) (lr_38 _ _) rfl ((Hb_b3_.exn (hA rfl)).ca))),
 fun ρz wz hE hA _ ⟨u0, u1, _⟩ => core_call rfl (call_args2 u0 u1) cf_67 (pensionref12_ID_ok  _ _  hz3),
 aU rfl rfl rfl, trivial⟩ ?_
  intro ρ4 w4 hN hf hr
  have h5 := hv hf 3 rfl rfl
  obtain ⟨h2, h3⟩ := k2 hr h2 h3 rfl
  have Hb_b2_n := Hb_b2_.exn hN
  have Hb_b3_n := Hb_b3_.exn hN
  have hW := hW.trans hN
  have Hb_b2_ := Hb_b2_n
  have Hb_b3_ := Hb_b3_n
  refine WP.seq (WP.rb mixed [[], [0]] [[5], []] [(17, .int .i64 z3), (18, .bool (z3 != 0))] (by kernel_rfl) ⟨mE rfl rfl h5,
 fun ρz wz hE hA _ ⟨u0, _⟩ => core_val rfl rfl (o_neq u0 rfl rfl), trivial⟩ ?_)
  intro ρ5 w5 hN hf hr
  have h18 := hv hf 1 rfl rfl
  obtain ⟨h2, h3, h5⟩ := k3 hr h2 h3 h5 rfl
  have Hb_b2_n := Hb_b2_.exn hN
  have Hb_b3_n := Hb_b3_.exn hN
  have hW := hW.trans hN
  have Hb_b2_ := Hb_b2_n
  have Hb_b3_ := Hb_b3_n
  refine WP.cond rfl h18 (fun hb => ?_) (fun hb => ?_)
  · have hF := (if_pos hb).symm.trans hF
    refine WP.seq (WP.rb mixed [[], [0], [1]] [[5], [], []] [(19, .int .i64 z3), (20, .bool (decide (z3 < 0))), (4, .bool (decide (z3 < 0)))] (by kernel_rfl) ⟨mE rfl rfl h5,
 fun ρz wz hE hA _ ⟨u0, _⟩ => core_val rfl rfl (o_lss u0 rfl rfl),
 aU rfl rfl rfl, trivial⟩ ?_)
    intro ρ6 w6 hN hf hr
    have h4 := hv hf 2 rfl rfl
    have hW := hW.trans hN
    refine WP.ret ?_
    show retQ Tryz.prog 38 Tryz.f68 (fun v w1 => v = .bool r ∧ Ext noG w0 w1) .ret ρ6 w6
    obtain rfl := Option.some.inj hF
    exact res1 rfl (by decide) h4 ⟨rfl, hW⟩
  have hF := (if_neg (Bool.eq_false_iff.1 hb)).symm.trans hF
  refine WP.skip (WP.seq (WP.seq (WP.rb mixed [[], [0], [], [2], [1, 3]] [[2], [], [3], [], []] [(21, .pointer (some ((⟨b2_, 0, none⟩ : Addr).add 2))), (22, .int .i64 a_.Version), (23, .pointer (some ((⟨b3_, 0, none⟩ : Addr).add 2))), (24, .int .i64 b_.Version), (25, .bool (a_.Version != b_.Version))] (by kernel_rfl) ⟨fun ρz wz hE hA ⟨e2, _⟩ _ => core_val rfl rfl (o_fieldAddr (e2.trans h2) (fa_38_2 _ _)),
 fun ρz wz hE hA _ ⟨u0, _⟩ => core_val rfl rfl (o_load u0 (run_load1 (lr_3 _ _) (CA.sub ((Hb_b2_.exn (hA rfl)).ca) 2 1))),
 fun ρz wz hE hA ⟨e3, _⟩ _ => core_val rfl rfl (o_fieldAddr (e3.trans h3) (fa_38_2 _ _)),
 fun ρz wz hE hA _ ⟨u2, _⟩ => core_val rfl rfl (o_load u2 (run_load1 (lr_3 _ _) (CA.sub ((Hb_b3_.exn (hA rfl)).ca) 2 1))),
 fun ρz wz hE hA _ ⟨u1, u3, _⟩ => core_val rfl rfl (o_neq u1 u3 rfl), trivial⟩ ?_)))
  intro ρ7 w7 hN hf hr
  have h25 := hv hf 4 rfl rfl
  obtain ⟨h2, h3⟩ := k2 hr h2 h3 rfl
  have Hb_b2_n := Hb_b2_.exn hN
  have Hb_b3_n := Hb_b3_.exn hN
  have hW := hW.trans hN
  have Hb_b2_ := Hb_b2_n
  have Hb_b3_ := Hb_b3_n
  refine WP.cond rfl h25 (fun hb => ?_) (fun hb => ?_)
  · have hF := (if_pos hb).symm.trans hF
    refine WP.seq (WP.rb mixed [[], [0], [], [2], [1, 3], [4]] [[2], [], [3], [], [], []] [(26, .pointer (some ((⟨b2_, 0, none⟩ : Addr).add 2))), (27, .int .i64 a_.Version), (28, .pointer (some ((⟨b3_, 0, none⟩ : Addr).add 2))), (29, .int .i64 b_.Version), (30, .bool (decide (a_.Version < b_.Version))), (4, .bool (decide (a_.Version < b_.Version)))] (by kernel_rfl) ⟨fun ρz wz hE hA ⟨e2, _⟩ _ => core_val rfl rfl (o_fieldAddr (e2.trans h2) (fa_38_2 _ _)),
 fun ρz wz hE hA _ ⟨u0, _⟩ => core_val rfl rfl (o_load u0 (run_load1 (lr_3 _ _) (CA.sub ((Hb_b2_.exn (hA rfl)).ca) 2 1))),
 fun ρz wz hE hA ⟨e3, _⟩ _ => core_val rfl rfl (o_fieldAddr (e3.trans h3) (fa_38_2 _ _)),
 fun ρz wz hE hA _ ⟨u2, _⟩ => core_val rfl rfl (o_load u2 (run_load1 (lr_3 _ _) (CA.sub ((Hb_b3_.exn (hA rfl)).ca) 2 1))),
 fun ρz wz hE hA _ ⟨u1, u3, _⟩ => core_val rfl rfl (o_lss u1 u3 rfl),
 aU rfl rfl rfl, trivial⟩ ?_)
    intro ρ8 w8 hN hf hr
    have h4 := hv hf 5 rfl rfl
    have hW := hW.trans hN
    refine WP.ret ?_
    show retQ Tryz.prog 38 Tryz.f68 (fun v w1 => v = .bool r ∧ Ext noG w0 w1) .ret ρ8 w8
    obtain rfl := Option.some.inj hF
    exact res1 rfl (by decide) h4 ⟨rfl, hW⟩
  have hF := (if_neg (Bool.eq_false_iff.1 hb)).symm.trans hF
  refine WP.skip (WP.seq ?_)
  obtain ⟨z4, hz4, hF⟩ := obind hF
  obtain ⟨z5, hz5, hF⟩ := obind hF
  refine WP.rg mixed [[], [0], [1], [], [3], [4], [2, 5], [6]] [[], [0], [1], [], [3], [4], [2, 5], [6]] [[2], [], [], [3], [], [], [], []] [val 31 (api_Fact.val a_), (32, fun u wz => Own w0.heap.size 5 1 (fun x : Int => [Value.int .u8 x]) wz u z4 ∧ ∀ b, u.ownBlock = some b → w7.heap.size ≤ b), val 33 (.string (bytesA z4)), val 34 (api_Fact.val b_), (35, fun u wz => Own w0.heap.size 5 1 (fun x : Int => [Value.int .u8 x]) wz u z5 ∧ ∀ b, u.ownBlock = some b → w7.heap.size ≤ b), val 36 (.string (bytesA z5)), val 37 (.bool (Op.bytesLess (bytesA z4).toList (bytesA z5).toList)), val 4 (.bool (Op.bytesLess (bytesA z4).toList (bytesA z5).toList))] (by kernel_rfl) ⟨sV, fun _ _ _ hE ⟨hO, hf⟩ => ⟨hO.exn hE, hf⟩, sV, sV, fun _ _ _ hE ⟨hO, hf⟩ => ⟨hO.exn hE, hf⟩, sV, sV, sV, trivial⟩ ⟨fun ρz wz hE hA ⟨e2, _⟩ _ => core_val rfl rfl (o_load (e2.trans h2) (run_loadN (cs := (api_Fact.cells a_)) (lr_38 _ _) rfl ((Hb_b2_.exn (hA rfl)).ca))),
 fun ρz wz hE hA _ ⟨u0, _⟩ => core_callR rfl (call_args1 u0) cf_97 ((pensionref12_Bytes_ok  _  hz4).mono (fun e w1 ⟨v, he, hE1, hO⟩ => ⟨v, he, hE1, hO.base (Nat.le_trans hW.size hE.size), fun b hb => Nat.le_trans hE.size (hO.lt hb).1⟩)),
 fun ρz wz hE hA _ ⟨⟨hO1, hfr1⟩, _⟩ => core_val rfl rfl (o_bts rfl cvb_117_9 (hO1.rep (hn := fun _ => rfl) (G := noG) (fun _ _ h => h))),
 fun ρz wz hE hA ⟨e3, _⟩ _ => core_val rfl rfl (o_load (e3.trans h3) (run_loadN (cs := (api_Fact.cells b_)) (lr_38 _ _) rfl ((Hb_b3_.exn (hA rfl)).ca))),
 fun ρz wz hE hA _ ⟨u3, _⟩ => core_callR rfl (call_args1 u3) cf_97 ((pensionref12_Bytes_ok  _  hz5).mono (fun e w1 ⟨v, he, hE1, hO⟩ => ⟨v, he, hE1, hO.base (Nat.le_trans hW.size hE.size), fun b hb => Nat.le_trans hE.size (hO.lt hb).1⟩)),
 fun ρz wz hE hA _ ⟨⟨hO4, hfr4⟩, _⟩ => core_val rfl rfl (o_bts rfl cvb_117_9 (hO4.rep (hn := fun _ => rfl) (G := noG) (fun _ _ h => h))),
 fun ρz wz hE hA _ ⟨u2, u5, _⟩ => core_val rfl rfl (o_lssT u2 u5 rfl),
 aU rfl rfl rfl, trivial⟩ ?_
  intro ρ9 w9 hN hf hr
  have h4 : ρ9 4 = .bool (Op.bytesLess (bytesA z4).toList (bytesA z5).toList) := hf 7 rfl
  have hW := hW.trans hN
  refine WP.ret ?_
  show retQ Tryz.prog 38 Tryz.f68 (fun v w1 => v = .bool r ∧ Ext noG w0 w1) .ret ρ9 w9
  obtain rfl := Option.some.inj hF
  exact res1 rfl (by decide) h4 ⟨rfl, hW⟩

set_option maxHeartbeats 4000000 in
theorem pensionref12_Merge_ok {w0 : World} (d_ : List api_Fact) (i_ : List api_Fact) {v_d_ : Value} (H_d_ : RepSl api_Fact.R noG w0 v_d_ d_) {v_i_ : Value} (H_i_ : RepSl api_Fact.R noG w0 v_i_ i_) {r : (List api_Fact)} (hF : pensionref12_Merge d_ i_ = some r) :
    Calls Tryz.prog 42 #[v_d_, v_i_] w0 fun e w1 => ∃ v, e = .returned v ∧ Ext noG w0 w1 ∧ Own w0.heap.size 38 14 api_Fact.cells w1 v r := by
  refine (Calls.start (P := Tryz.prog) (args := [v_d_, v_i_]) (R := fun v w1 => Own w0.heap.size 38 14 api_Fact.cells w1 v r ∧ Ext noG w0 w1) (n := 88) (w := w0) Tryz.func42 rfl rfl (Nat.le_of_ble_eq_true rfl) (fun ρ hargs => ?_)).mono (fun e w1 ⟨v, he, hv, hE⟩ => ⟨v, he, hE, hv⟩)
  have h0 := hargs 0 _ rfl
  have h1 := hargs 1 _ rfl
  have hW := Ext.refl noG w0
  obtain ⟨_, _, hs_H_d_, _, _⟩ := RepSl.shape H_d_
  have H_d_ := H_d_.start
  obtain ⟨_, _, hs_H_i_, _, _⟩ := RepSl.shape H_i_
  have H_i_ := H_i_.start
  rw [pensionref12_Merge] at hF
  refine WP.seq (WP.rb mixed [[]] [[]] [(4, .slice none 0 0)] (by kernel_rfl) ⟨aC rfl rfl (fun _ => rfl), trivial⟩ ?_)
  intro ρ1 w1 hN hf hr
  obtain ⟨h0, h1⟩ := k2 hr h0 h1 rfl
  have H_d_ := H_d_.exn hN
  have H_i_ := H_i_.exn hN
  have hW := hW.trans hN
  refine WP.seq (WP.rb mixed [[]] [[]] [(5, .slice none 0 0)] (by kernel_rfl) ⟨aC rfl rfl (fun _ => rfl), trivial⟩ ?_)
  intro ρ2 w2 hN hf hr
  have h5 : ρ2 5 = .slice none 0 0 := hf 0 rfl
  have O5 : Own w0.heap.size 38 14 api_Fact.cells w2 (.slice none 0 0) [] := Own.nil _ _ _ _ _
  obtain ⟨h0, h1⟩ := k2 hr h0 h1 rfl
  have H_d_ := H_d_.exn hN
  have H_i_ := H_i_.exn hN
  have hW := hW.trans hN
  have O5 : Own w0.heap.size 38 14 api_Fact.cells w2 (.slice none 0 0) [] := Own.nil _ _ _ _ _
  refine WP.seq (WP.seq (WP.rb mixed [[]] [[]] [(6, .int .i64 0)] (by kernel_rfl) ⟨aC rfl rfl (fun _ => rfl), trivial⟩ ?_))
  intro ρ3 w3 hN hf hr
  have h6 := hv hf 0 rfl rfl
  obtain ⟨h0, h1, h5⟩ := k3 hr h0 h1 h5 rfl
  have Oo_O5 := O5
  have H_d_ := H_d_.exn hN
  have H_i_ := H_i_.exn hN
  have hW := hW.trans hN
  have O5 : Own w0.heap.size 38 14 api_Fact.cells w3 (.slice none 0 0) [] := Own.nil _ _ _ _ _
  refine WP.block (WP.loop (fun k_ ρ w => ∃ x : List api_Fact, ∃ x2 : Int, ∃ v5_ : Value, ρ 0 = v_d_ ∧ ρ 1 = v_i_ ∧ ρ 5 = v5_ ∧ ρ 6 = .int .i64 x2 ∧ RepSl api_Fact.R (gfr noG w0) w v_d_ d_ ∧ RepSl api_Fact.R (gfr noG w0) w v_i_ i_ ∧ Own w0.heap.size 38 14 api_Fact.cells w v5_ x ∧ Ext noG w0 w ∧ loopC k_ (pensionref12_Merge_l d_ i_) (x, x2) = some r) FU ⟨[], 0, .slice none 0 0, h0, h1, h5, h6, H_d_, H_i_, O5, hW, hF⟩ (fun _ _ h => by obtain ⟨_, _, _, _, _, _, _, _, _, _, _, h⟩ := h; cases h) ?_)
  rintro k_ ρ4 w4 ⟨x, x2, v5_, h0, h1, h5, h6, H_d_, H_i_, O5, hW, hF⟩
  have hF : pensionref12_Merge_l d_ i_ (loopC k_ (pensionref12_Merge_l d_ i_)) (x, x2) = some r := (loopC_succ k_ (pensionref12_Merge_l d_ i_) (x, x2)).symm.trans hF
  generalize hrec_ : loopC k_ (pensionref12_Merge_l d_ i_) = rec_ at hF
  rw [pensionref12_Merge_l] at hF
  refine WP.seq (WP.seq (WP.rb mixed [[], [], [1], [], [3], [2, 4], [0, 5]] [[6], [0], [], [1], [], [], []] [(9, .int .i64 x2), (10, v_d_), (11, .int .i64 (d_.length : Int)), (12, v_i_), (13, .int .i64 (i_.length : Int)), (14, .int .i64 (i64 ((d_.length : Int) + (i_.length : Int)))), (15, .bool (decide (x2 < i64 ((d_.length : Int) + (i_.length : Int)))))] (by kernel_rfl) ⟨mE rfl rfl h6,
 mE rfl rfl h0,
 fun ρz wz hE hA _ ⟨u1, _⟩ => core_val rfl rfl (o_len (u1.trans hs_H_d_) len_24),
 mE rfl rfl h1,
 fun ρz wz hE hA _ ⟨u3, _⟩ => core_val rfl rfl (o_len (u3.trans hs_H_i_) len_24),
 fun ρz wz hE hA _ ⟨u2, u4, _⟩ => core_val rfl rfl (o_add u2 u4 rfl),
 fun ρz wz hE hA _ ⟨u0, u5, _⟩ => core_val rfl rfl (o_lss u0 u5 rfl), trivial⟩ ?_))
  intro ρ5 w5 hN hf hr
  have h15 := hv hf 6 rfl rfl
  obtain ⟨h0, h1, h5, h6⟩ := k4 hr h0 h1 h5 h6 rfl
  have Oo_O5 := O5
  have H_d_ := H_d_.exn hN
  have H_i_ := H_i_.exn hN
  have hW := hW.trans hN
  have O5 := Oo_O5.exn hN
  refine WP.cond rfl h15 (fun hb => ?_) (fun hb => ?_)
  · have hF := (if_pos hb).symm.trans hF
    refine WP.skip (WP.seqJ (fun ρ w => ∃ x3 : List api_Fact, ∃ v5_2 : Value, ρ 0 = v_d_ ∧ ρ 1 = v_i_ ∧ ρ 5 = v5_2 ∧ ρ 6 = .int .i64 x2 ∧ RepSl api_Fact.R (gfr noG w0) w v_d_ d_ ∧ RepSl api_Fact.R (gfr noG w0) w v_i_ i_ ∧ Own w0.heap.size 38 14 api_Fact.cells w v5_2 x3 ∧ Ext noG w0 w ∧ pensionref12_Merge_j x2 rec_ x3 = some r) ?_ ?_)
    · refine WP.block (WP.seq (WP.rg mixed [[]] [[]] [[]] [(7, fun u wz => ∃ b, u = .pointer (some ⟨b, 0, none⟩) ∧ w5.heap.size ≤ b ∧ Mb wz b 38 (api_Fact.cells (⟨0, 0, 0, false, 0, 0, 0, (⟨0, 0⟩ : Span), 0, 0, 0, 0, 0⟩ : api_Fact)))] (by kernel_rfl) ⟨fun _ _ _ hE ⟨b, hb, hs, hM⟩ => ⟨b, hb, hs, hM.exn hE⟩, trivial⟩ ⟨fun ρz wz hE hA _ _ => core_new rfl rfl hE (o_alloc (al_38 _)), trivial⟩ ?_))
      intro ρ8 w8 hN hf hr
      obtain ⟨b7_, h7, hge_b7_, Hb_b7_⟩ := hf 0 rfl
      obtain ⟨h0, h1, h5, h6⟩ := k4 hr h0 h1 h5 h6 rfl
      have Oo_O5 := O5
      have H_d_ := H_d_.exn hN
      have H_i_ := H_i_.exn hN
      have hB_b7_ : w0.heap.size ≤ b7_ := Nat.le_trans hW.size hge_b7_
      have hW := hW.trans hN
      have O5 := Oo_O5.exn hN
      have hnb_O5_b7_ : Value.ownBlock v5_ ≠ some b7_ := fun h => absurd (Oo_O5.lt h).2 (Nat.not_lt.2 hge_b7_)
      refine WP.seqJ (fun ρ w => ∃ v : api_Fact, ρ 0 = v_d_ ∧ ρ 1 = v_i_ ∧ ρ 5 = v5_ ∧ ρ 6 = .int .i64 x2 ∧ ρ 7 = .pointer (some ⟨b7_, 0, none⟩) ∧ Mb w b7_ 38 (api_Fact.cells v) ∧ RepSl api_Fact.R (gfr noG w0) w v_d_ d_ ∧ RepSl api_Fact.R (gfr noG w0) w v_i_ i_ ∧ Own w0.heap.size 38 14 api_Fact.cells w v5_ x ∧ Value.ownBlock v5_ ≠ some b7_ ∧ Ext noG w0 w ∧ pensionref12_Merge_j2 x x2 rec_ v = some r) ?_ ?_
      · refine WP.seq (WP.rb mixed [[], [], [1], [0, 2]] [[6], [0], [], []] [(18, .int .i64 x2), (19, v_d_), (20, .int .i64 (d_.length : Int)), (21, .bool (decide (x2 < (d_.length : Int))))] (by kernel_rfl) ⟨mE rfl rfl h6,
 mE rfl rfl h0,
 fun ρz wz hE hA _ ⟨u1, _⟩ => core_val rfl rfl (o_len (u1.trans hs_H_d_) len_24),
 fun ρz wz hE hA _ ⟨u0, u2, _⟩ => core_val rfl rfl (o_lss u0 u2 rfl), trivial⟩ ?_)
        intro ρ19 w19 hN hf hr
        have h21 := hv hf 3 rfl rfl
        obtain ⟨h0, h1, h5, h6, h7⟩ := k5 hr h0 h1 h5 h6 h7 rfl
        have Oo_O5 := O5
        have Hb_b7_n := Hb_b7_.exn hN
        have H_d_ := H_d_.exn hN
        have H_i_ := H_i_.exn hN
        have hW := hW.trans hN
        have O5 := Oo_O5.exn hN
        have Hb_b7_ := Hb_b7_n
        refine WP.cond rfl h21 (fun hb => ?_) (fun hb => ?_)
        · have hF := (if_pos hb).symm.trans hF
          obtain ⟨y5, hy5, hF⟩ := obind hF
          obtain ⟨ay5, cy5, hvy5, hiy5, hAy5⟩ := RepSl.getF H_d_ hy5
          refine WP.region mixed [[], [], [0, 1], [2], [3]] [[], [], [0, 1], [2], [3]] [[0], [6], [], [], [7]] [4] [] [val 22 (v_d_), val 23 (.int .i64 x2), val 24 (.pointer (some (ay5.add (Int.toNat x2 * 14)))), val 25 (api_Fact.val y5), (7, fun _ wz => Mb wz b7_ 38 (api_Fact.cells y5))] (fun x => x = b7_) (by kernel_rfl) ⟨sV, sV, sV, sV, fun _ _ _ hE hM => hM.exn hE, trivial⟩ ⟨mE rfl rfl h0,
 mE rfl rfl h6,
 fun ρz wz hE hA _ ⟨u0, u1, _⟩ => core_val rfl rfl (o_indexAddr (u0.trans hvy5) u1 (ia_24 hiy5)),
 fun ρz wz hE hA _ ⟨u2, _⟩ => core_val rfl rfl (o_load u2 (run_loadN (cs := (api_Fact.cells y5)) (lr_38 _ _) rfl ((hAy5.exn (hA rfl)).ca))),
 fun ρz wz hE hA ⟨e7, _⟩ ⟨u3, _⟩ => core_storeBox rfl rfl (fun _ h => h) (e7.trans h7) u3 (Hb_b7_.exn (hA rfl)) (fun a w => st_38 _ a w) rfl (one_38 _), trivial⟩ ?_
          intro ρ20 w20 hE hN hf hr
          obtain ⟨h0, h1, h5, h6, h7⟩ := k5 hr h0 h1 h5 h6 h7 rfl
          have Oo_O5 := O5
          have Hb_b7_n := hf 4 rfl
          have H_d_ := H_d_.over hE (fun b hb => hb.symm ▸ hB_b7_)
          have H_i_ := H_i_.over hE (fun b hb => hb.symm ▸ hB_b7_)
          have hW := Ext.own hW hE (fun x h => h.symm ▸ hB_b7_)
          have O5 := Oo_O5.ext hE (fun b hb hg => hnb_O5_b7_ (hg ▸ hb))
          have Hb_b7_ := Hb_b7_n
          exact ⟨y5, h0, h1, h5, h6, h7, Hb_b7_, H_d_, H_i_, O5, hnb_O5_b7_, hW, hF⟩
        have hF := (if_neg (Bool.eq_false_iff.1 hb)).symm.trans hF
        obtain ⟨y6, hy6, hF⟩ := obind hF
        obtain ⟨ay6, cy6, hvy6, hiy6, hAy6⟩ := RepSl.getF H_i_ hy6
        refine WP.region mixed [[], [], [], [2], [1, 3], [0, 4], [5], [6]] [[], [], [], [2], [1, 3], [0, 4], [5], [6]] [[1], [6], [0], [], [], [], [], [7]] [7] [] [val 26 (v_i_), val 27 (.int .i64 x2), val 28 (v_d_), val 29 (.int .i64 (d_.length : Int)), val 30 (.int .i64 (i64 (x2 - (d_.length : Int)))), val 31 (.pointer (some (ay6.add (Int.toNat (i64 (x2 - (d_.length : Int))) * 14)))), val 32 (api_Fact.val y6), (7, fun _ wz => Mb wz b7_ 38 (api_Fact.cells y6))] (fun x => x = b7_) (by kernel_rfl) ⟨sV, sV, sV, sV, sV, sV, sV, fun _ _ _ hE hM => hM.exn hE, trivial⟩ ⟨mE rfl rfl h1,
 mE rfl rfl h6,
 mE rfl rfl h0,
 fun ρz wz hE hA _ ⟨u2, _⟩ => core_val rfl rfl (o_len (u2.trans hs_H_d_) len_24),
 fun ρz wz hE hA _ ⟨u1, u3, _⟩ => core_val rfl rfl (o_sub u1 u3 rfl),
 fun ρz wz hE hA _ ⟨u0, u4, _⟩ => core_val rfl rfl (o_indexAddr (u0.trans hvy6) u4 (ia_24 hiy6)),
 fun ρz wz hE hA _ ⟨u5, _⟩ => core_val rfl rfl (o_load u5 (run_loadN (cs := (api_Fact.cells y6)) (lr_38 _ _) rfl ((hAy6.exn (hA rfl)).ca))),
 fun ρz wz hE hA ⟨e7, _⟩ ⟨u6, _⟩ => core_storeBox rfl rfl (fun _ h => h) (e7.trans h7) u6 (Hb_b7_.exn (hA rfl)) (fun a w => st_38 _ a w) rfl (one_38 _), trivial⟩ ?_
        intro ρ21 w21 hE hN hf hr
        obtain ⟨h0, h1, h5, h6, h7⟩ := k5 hr h0 h1 h5 h6 h7 rfl
        have Oo_O5 := O5
        have Hb_b7_n := hf 7 rfl
        have H_d_ := H_d_.over hE (fun b hb => hb.symm ▸ hB_b7_)
        have H_i_ := H_i_.over hE (fun b hb => hb.symm ▸ hB_b7_)
        have hW := Ext.own hW hE (fun x h => h.symm ▸ hB_b7_)
        have O5 := Oo_O5.ext hE (fun b hb hg => hnb_O5_b7_ (hg ▸ hb))
        have Hb_b7_ := Hb_b7_n
        exact ⟨y6, h0, h1, h5, h6, h7, Hb_b7_, H_d_, H_i_, O5, hnb_O5_b7_, hW, hF⟩
      rintro ρ9 w9 ⟨v, h0, h1, h5, h6, h7, Hb_b7_, H_d_, H_i_, O5, hnb_O5_b7_, hW, hF⟩
      rw [pensionref12_Merge_j2] at hF
      refine WP.seq (WP.seq ?_)
      obtain ⟨z, hz, hF⟩ := obind hF
      refine WP.rb mixed [[], [0], [1]] [[7], [], []] [(33, api_Fact.val v), (34, .bool z), (35, .bool (!z))] (by kernel_rfl) ⟨fun ρz wz hE hA ⟨e7, _⟩ _ => core_val rfl rfl (o_load (e7.trans h7) (run_loadN (cs := (api_Fact.cells v)) (lr_38 _ _) rfl ((Hb_b7_.exn (hA rfl)).ca))),
 fun ρz wz hE hA _ ⟨u0, _⟩ => core_call rfl (call_args1 u0) cf_65 (pensionref12_Valid_ok  _  hz),
 fun ρz wz hE hA _ ⟨u1, _⟩ => core_val rfl rfl (o_not u1 rfl), trivial⟩ ?_
      intro ρ10 w10 hN hf hr
      have h35 := hv hf 2 rfl rfl
      obtain ⟨h0, h1, h5, h6, h7⟩ := k5 hr h0 h1 h5 h6 h7 rfl
      have Oo_O5 := O5
      have Hb_b7_n := Hb_b7_.exn hN
      have H_d_ := H_d_.exn hN
      have H_i_ := H_i_.exn hN
      have hW := hW.trans hN
      have O5 := Oo_O5.exn hN
      have Hb_b7_ := Hb_b7_n
      refine WP.cond rfl h35 (fun hb => ?_) (fun hb => ?_)
      · have hF := (if_pos hb).symm.trans hF
        refine WP.exit (thenQ_exit (blockQ_hit ?_))
        exact ⟨x, v5_, h0, h1, h5, h6, H_d_, H_i_, O5, hW, hF⟩
      have hF := (if_neg (Bool.eq_false_iff.1 hb)).symm.trans hF
      refine WP.skip (WP.seq (WP.rb mixed [[], [0], [1]] [[5], [], []] [(36, v5_), (37, .int .i64 (x.length : Int)), (8, .int .i64 (x.length : Int))] (by kernel_rfl) ⟨mE rfl rfl h5,
 fun ρz wz hE hA _ ⟨u0, _⟩ => core_val rfl rfl (o_len (u0.trans (Own.shape O5).choose_spec.choose_spec.1) len_24),
 aU rfl rfl rfl, trivial⟩ ?_))
      intro ρ11 w11 hN hf hr
      have h8 := hv hf 2 rfl rfl
      obtain ⟨h0, h1, h5, h6, h7⟩ := k5 hr h0 h1 h5 h6 h7 rfl
      have Oo_O5 := O5
      have Hb_b7_n := Hb_b7_.exn hN
      have H_d_ := H_d_.exn hN
      have H_i_ := H_i_.exn hN
      have hW := hW.trans hN
      have O5 := Oo_O5.exn hN
      have Hb_b7_ := Hb_b7_n
      refine WP.seq (WP.block (WP.loop (fun k_2 ρ w => ∃ x4 : Int, ρ 0 = v_d_ ∧ ρ 1 = v_i_ ∧ ρ 5 = v5_ ∧ ρ 6 = .int .i64 x2 ∧ ρ 7 = .pointer (some ⟨b7_, 0, none⟩) ∧ ρ 8 = .int .i64 x4 ∧ Mb w b7_ 38 (api_Fact.cells v) ∧ RepSl api_Fact.R (gfr noG w0) w v_d_ d_ ∧ RepSl api_Fact.R (gfr noG w0) w v_i_ i_ ∧ Own w0.heap.size 38 14 api_Fact.cells w v5_ x ∧ Value.ownBlock v5_ ≠ some b7_ ∧ Ext noG w0 w ∧ loopC k_2 (pensionref12_Merge_l2 x x2 rec_ v) x4 = some r) FU ⟨(x.length : Int), h0, h1, h5, h6, h7, h8, Hb_b7_, H_d_, H_i_, O5, hnb_O5_b7_, hW, hF⟩ (fun _ _ h => by obtain ⟨_, _, _, _, _, _, _, _, _, _, _, _, _, h⟩ := h; cases h) ?_))
      rintro k_2 ρ12 w12 ⟨x4, h0, h1, h5, h6, h7, h8, Hb_b7_, H_d_, H_i_, O5, hnb_O5_b7_, hW, hF⟩
      have hF : pensionref12_Merge_l2 x x2 rec_ v (loopC k_2 (pensionref12_Merge_l2 x x2 rec_ v)) x4 = some r := (loopC_succ k_2 (pensionref12_Merge_l2 x x2 rec_ v) x4).symm.trans hF
      generalize hrec_2 : loopC k_2 (pensionref12_Merge_l2 x x2 rec_ v) = rec_2 at hF
      rw [pensionref12_Merge_l2] at hF
      refine WP.seq (WP.seq ?_)
      obtain ⟨c, hc, hF⟩ := obind hF
      obtain ⟨y, hy, hc⟩ := andB hc
      obtain ⟨ay, cy, hvy, hiy, hAy⟩ := RepSl.getFI (Own.rep (hn := fun _ => rfl) (G := noG) O5 (fun _ _ h => h)) hy
      obtain ⟨z2, hz2, hc⟩ := andB hc
      have hc := andE hc
      refine WP.rb mixed [[], [0], [1], [2], [2], [2, 4], [2, 3, 5], [2, 6], [2], [2, 7, 8], [2, 9], [2, 10]] [[8], [], [], [5], [8], [], [], [], [7], [], [], []] [(38, .int .i64 x4), (39, .bool (decide (0 < x4))), (40, .bool (decide (0 < x4))), (41, gv (decide (0 < x4)) v5_), (42, gv (decide (0 < x4)) (.int .i64 x4)), (43, gv (decide (0 < x4)) (.int .i64 (i64 (x4 - 1)))), (44, gv (decide (0 < x4)) (.pointer (some (ay.add (Int.toNat (i64 (x4 - 1)) * 14))))), (45, gv (decide (0 < x4)) (api_Fact.val y)), (46, gv (decide (0 < x4)) (api_Fact.val v)), (47, gv (decide (0 < x4)) (.int .i64 z2)), (48, gv (decide (0 < x4)) (.bool (decide (0 < z2)))), (49, .bool c)] (by kernel_rfl) ⟨mE rfl rfl h8,
 fun ρz wz hE hA _ ⟨u0, _⟩ => core_val rfl rfl (o_gtr u0 rfl rfl),
 mU rfl rfl rfl,
 fun ρz wz hE hA ⟨e5, _⟩ ⟨u2, _⟩ => gIf rfl rfl (yT rfl u2) fun gc F hF => core_val rfl hF (o_move (e5.trans h5)),
 fun ρz wz hE hA ⟨e8, _⟩ ⟨u2, _⟩ => gIf rfl rfl (yT rfl u2) fun gc F hF => core_val rfl hF (o_move (e8.trans h8)),
 fun ρz wz hE hA _ ⟨u2, u4, _⟩ => gIf rfl rfl (yT rfl u2) fun gc F hF => core_val rfl hF (o_sub (gt gc u4) rfl rfl),
 fun ρz wz hE hA _ ⟨u2, u3, u5, _⟩ => gIf rfl rfl (yT rfl u2) fun gc F hF => core_val rfl hF (o_indexAddr ((gt gc u3).trans (hvy gc)) (gt gc u5) (ia_24 (hiy gc))),
 fun ρz wz hE hA _ ⟨u2, u6, _⟩ => gIf rfl rfl (yT rfl u2) fun gc F hF => core_val rfl hF (o_load (gt gc u6) (run_loadN (cs := (api_Fact.cells y)) (lr_38 _ _) rfl (((hAy gc).exn (hA rfl)).ca))),
 fun ρz wz hE hA ⟨e7, _⟩ ⟨u2, _⟩ => gIf rfl rfl (yT rfl u2) fun gc F hF => core_val rfl hF (o_load (e7.trans h7) (run_loadN (cs := (api_Fact.cells v)) (lr_38 _ _) rfl ((Hb_b7_.exn (hA rfl)).ca))),
 fun ρz wz hE hA _ ⟨u2, u7, u8, _⟩ => gIf rfl rfl (yT rfl u2) fun gc F hF => core_call hF (call_args2 (gt gc u7) (gt gc u8)) cf_67 (pensionref12_ID_ok  _ _  (hz2 gc)),
 fun ρz wz hE hA _ ⟨u2, u9, _⟩ => gIf rfl rfl (yT rfl u2) fun gc F hF => core_val rfl hF (o_gtr (gt gc u9) rfl rfl),
 fun ρz wz hE hA _ ⟨u2, u10, _⟩ => core_valE rfl rfl (congrArg Value.bool hc) (o_pick_and u2 u10 rfl), trivial⟩ ?_
      intro ρ13 w13 hN hf hr
      have h49 := hv hf 11 rfl rfl
      obtain ⟨h0, h1, h5, h6, h7, h8⟩ := k6 hr h0 h1 h5 h6 h7 h8 rfl
      have Oo_O5 := O5
      have Hb_b7_n := Hb_b7_.exn hN
      have H_d_ := H_d_.exn hN
      have H_i_ := H_i_.exn hN
      have hW := hW.trans hN
      have O5 := Oo_O5.exn hN
      have Hb_b7_ := Hb_b7_n
      refine WP.cond rfl h49 (fun hb => ?_) (fun hb => ?_)
      · have hF := (if_pos hb).symm.trans hF
        refine WP.skip (WP.block (WP.rv mixed [[], [0], [0, 1]] [[], [0], [1]] [[8], [], []] [(50, .int .i64 x4), (51, .int .i64 (i64 (x4 - 1))), (8, .int .i64 (i64 (x4 - 1)))] (by kernel_rfl) ⟨mE rfl rfl h8,
 fun ρz wz hE hA _ ⟨u0, _⟩ => core_val rfl rfl (o_sub u0 rfl rfl),
 aU rfl rfl rfl, trivial⟩ ?_))
        intro ρ14 w14 hN hf hr
        have h8 := hv hf 2 rfl rfl
        obtain ⟨h0, h1, h5, h6, h7⟩ := k5 hr h0 h1 h5 h6 h7 rfl
        have Oo_O5 := O5
        have Hb_b7_n := Hb_b7_.exn hN
        have H_d_ := H_d_.exn hN
        have H_i_ := H_i_.exn hN
        have hW := hW.trans hN
        have O5 := Oo_O5.exn hN
        have Hb_b7_ := Hb_b7_n
        exact ⟨i64 (x4 - 1), h0, h1, h5, h6, h7, h8, Hb_b7_, H_d_, H_i_, O5, hnb_O5_b7_, hW, (by first | exact hF | (rw [hrec_2]; exact hF))⟩
      have hF := (if_neg (Bool.eq_false_iff.1 hb)).symm.trans hF
      refine WP.exit (thenQ_exit (thenQ_exit (blockQ_hit (WP.seq (WP.seq ?_)))))
      obtain ⟨c2, hc2, hF⟩ := obind hF
      obtain ⟨y2, hy2, hc2⟩ := andB hc2
      obtain ⟨ay2, cy2, hvy2, hiy2, hAy2⟩ := RepSl.getFI (Own.rep (hn := fun _ => rfl) (G := noG) O5 (fun _ _ h => h)) hy2
      obtain ⟨z3, hz3, hc2⟩ := andB hc2
      have hc2 := andE hc2
      refine WP.rb mixed [[], [0], [1], [2], [2], [2, 4], [2, 3, 5], [2, 6], [2], [2, 7, 8], [2, 9], [2, 10]] [[8], [], [], [5], [8], [], [], [], [7], [], [], []] [(52, .int .i64 x4), (53, .bool (decide (0 < x4))), (54, .bool (decide (0 < x4))), (55, gv (decide (0 < x4)) v5_), (56, gv (decide (0 < x4)) (.int .i64 x4)), (57, gv (decide (0 < x4)) (.int .i64 (i64 (x4 - 1)))), (58, gv (decide (0 < x4)) (.pointer (some (ay2.add (Int.toNat (i64 (x4 - 1)) * 14))))), (59, gv (decide (0 < x4)) (api_Fact.val y2)), (60, gv (decide (0 < x4)) (api_Fact.val v)), (61, gv (decide (0 < x4)) (.int .i64 z3)), (62, gv (decide (0 < x4)) (.bool (z3 == 0))), (63, .bool c2)] (by kernel_rfl) ⟨mE rfl rfl h8,
 fun ρz wz hE hA _ ⟨u0, _⟩ => core_val rfl rfl (o_gtr u0 rfl rfl),
 mU rfl rfl rfl,
 fun ρz wz hE hA ⟨e5, _⟩ ⟨u2, _⟩ => gIf rfl rfl (yT rfl u2) fun gc F hF => core_val rfl hF (o_move (e5.trans h5)),
 fun ρz wz hE hA ⟨e8, _⟩ ⟨u2, _⟩ => gIf rfl rfl (yT rfl u2) fun gc F hF => core_val rfl hF (o_move (e8.trans h8)),
 fun ρz wz hE hA _ ⟨u2, u4, _⟩ => gIf rfl rfl (yT rfl u2) fun gc F hF => core_val rfl hF (o_sub (gt gc u4) rfl rfl),
 fun ρz wz hE hA _ ⟨u2, u3, u5, _⟩ => gIf rfl rfl (yT rfl u2) fun gc F hF => core_val rfl hF (o_indexAddr ((gt gc u3).trans (hvy2 gc)) (gt gc u5) (ia_24 (hiy2 gc))),
 fun ρz wz hE hA _ ⟨u2, u6, _⟩ => gIf rfl rfl (yT rfl u2) fun gc F hF => core_val rfl hF (o_load (gt gc u6) (run_loadN (cs := (api_Fact.cells y2)) (lr_38 _ _) rfl (((hAy2 gc).exn (hA rfl)).ca))),
 fun ρz wz hE hA ⟨e7, _⟩ ⟨u2, _⟩ => gIf rfl rfl (yT rfl u2) fun gc F hF => core_val rfl hF (o_load (e7.trans h7) (run_loadN (cs := (api_Fact.cells v)) (lr_38 _ _) rfl ((Hb_b7_.exn (hA rfl)).ca))),
 fun ρz wz hE hA _ ⟨u2, u7, u8, _⟩ => gIf rfl rfl (yT rfl u2) fun gc F hF => core_call hF (call_args2 (gt gc u7) (gt gc u8)) cf_67 (pensionref12_ID_ok  _ _  (hz3 gc)),
 fun ρz wz hE hA _ ⟨u2, u9, _⟩ => gIf rfl rfl (yT rfl u2) fun gc F hF => core_val rfl hF (o_eql (gt gc u9) rfl rfl),
 fun ρz wz hE hA _ ⟨u2, u10, _⟩ => core_valE rfl rfl (congrArg Value.bool hc2) (o_pick_and u2 u10 rfl), trivial⟩ ?_
      intro ρ15 w15 hN hf hr
      have h63 := hv hf 11 rfl rfl
      obtain ⟨h0, h1, h5, h6, h7, h8⟩ := k6 hr h0 h1 h5 h6 h7 h8 rfl
      have Oo_O5 := O5
      have Hb_b7_n := Hb_b7_.exn hN
      have H_d_ := H_d_.exn hN
      have H_i_ := H_i_.exn hN
      have hW := hW.trans hN
      have O5 := Oo_O5.exn hN
      have Hb_b7_ := Hb_b7_n
      refine WP.cond rfl h63 (fun hb => ?_) (fun hb => ?_)
      · have hF := (if_pos hb).symm.trans hF
        refine WP.seq (WP.seq ?_)
        obtain ⟨y3, hy3, hF⟩ := obind hF
        obtain ⟨ay3, cy3, hvy3, hiy3, hAy3⟩ := RepSl.getF (Own.rep (hn := fun _ => rfl) (G := noG) O5 (fun _ _ h => h)) hy3
        obtain ⟨z4, hz4, hF⟩ := obind hF
        refine WP.rb mixed [[], [], [1], [0, 2], [3], [], [4, 5]] [[5], [8], [], [], [], [7], []] [(64, v5_), (65, .int .i64 x4), (66, .int .i64 (i64 (x4 - 1))), (67, .pointer (some (ay3.add (Int.toNat (i64 (x4 - 1)) * 14)))), (68, api_Fact.val y3), (69, api_Fact.val v), (70, .bool z4)] (by kernel_rfl) ⟨mE rfl rfl h5,
 mE rfl rfl h8,
 fun ρz wz hE hA _ ⟨u1, _⟩ => core_val rfl rfl (o_sub u1 rfl rfl),
 fun ρz wz hE hA _ ⟨u0, u2, _⟩ => core_val rfl rfl (o_indexAddr (u0.trans hvy3) u2 (ia_24 hiy3)),
 fun ρz wz hE hA _ ⟨u3, _⟩ => core_val rfl rfl (o_load u3 (run_loadN (cs := (api_Fact.cells y3)) (lr_38 _ _) rfl ((hAy3.exn (hA rfl)).ca))),
 fun ρz wz hE hA ⟨e7, _⟩ _ => core_val rfl rfl (o_load (e7.trans h7) (run_loadN (cs := (api_Fact.cells v)) (lr_38 _ _) rfl ((Hb_b7_.exn (hA rfl)).ca))),
 fun ρz wz hE hA _ ⟨u4, u5, _⟩ => core_call rfl (call_args2 u4 u5) cf_68 (pensionref12_Less_ok  _ _  hz4), trivial⟩ ?_
        intro ρ16 w16 hN hf hr
        have h70 := hv hf 6 rfl rfl
        obtain ⟨h0, h1, h5, h6, h7, h8⟩ := k6 hr h0 h1 h5 h6 h7 h8 rfl
        have Oo_O5 := O5
        have Hb_b7_n := Hb_b7_.exn hN
        have H_d_ := H_d_.exn hN
        have H_i_ := H_i_.exn hN
        have hW := hW.trans hN
        have O5 := Oo_O5.exn hN
        have Hb_b7_ := Hb_b7_n
        refine WP.cond rfl h70 (fun hb => ?_) (fun hb => ?_)
        · have hF := (if_pos hb).symm.trans hF
          obtain ⟨y4, hy4, hF⟩ := obind hF
          obtain ⟨ay4, cy4, hvy4, hiy4, hAy4⟩ := RepSl.getF (Own.rep (hn := fun _ => rfl) (G := noG) O5 (fun _ _ h => h)) hy4
          refine WP.region mixed [[], [], [1], [], [0, 2], [3, 4]] [[], [], [1], [], [0, 2], [3, 4]] [[5], [8], [], [7], [], []] [5] [] [val 71 (v5_), val 72 (.int .i64 x4), val 73 (.int .i64 (i64 (x4 - 1))), val 74 (api_Fact.val v), val 75 (.pointer (some (ay4.add (Int.toNat (i64 (x4 - 1)) * 14)))), (75, fun _ wz => Own w0.heap.size 38 14 api_Fact.cells wz v5_ (setI x (i64 (x4 - 1)) v))] (fun b => Value.ownBlock v5_ = some b) (by kernel_rfl) ⟨sV, sV, sV, sV, sV, fun _ _ _ hE h => h.exn hE, trivial⟩ ⟨mE rfl rfl h5,
 mE rfl rfl h8,
 fun ρz wz hE hA _ ⟨u1, _⟩ => core_val rfl rfl (o_sub u1 rfl rfl),
 fun ρz wz hE hA ⟨e7, _⟩ _ => core_val rfl rfl (o_load (e7.trans h7) (run_loadN (cs := (api_Fact.cells v)) (lr_38 _ _) rfl ((Hb_b7_.exn (hA rfl)).ca))),
 fun ρz wz hE hA _ ⟨u0, u2, _⟩ => core_val rfl rfl (o_indexAddr (u0.trans hvy4) u2 (ia_24 hiy4)),
 fun ρz wz hE hA _ ⟨u3, u4, _⟩ => core_storeOwn (n := 14) (off := 0) (cells := api_Fact.cells) (y1 := v) (vs := (api_Fact.cells v)) rfl rfl (fun _ h => h) (fun _ => rfl) u4 hvy4 rfl u3 (O5.exn (hA rfl)) hy4 (fun a w => st_38 _ a w) (Nat.le_of_ble_eq_true rfl) (full_set (cells := api_Fact.cells) (n := 14) (fun _ => rfl) rfl) (one_38 _), trivial⟩ ?_
          intro ρ17 w17 hE hN hf hr
          obtain ⟨h0, h1, h5, h6⟩ := k4 hr h0 h1 h5 h6 rfl
          have Oo_O5 := O5
          have H_d_ := H_d_.over hE (fun b hb => (Oo_O5.lt hb).1)
          have H_i_ := H_i_.over hE (fun b hb => (Oo_O5.lt hb).1)
          have hW := Ext.own hW hE (fun b hb => (Oo_O5.lt hb).1)
          have O5 := hf 5 rfl
          refine WP.exit (thenQ_exit (blockQ_hit ?_))
          exact ⟨setI x (i64 (x4 - 1)) v, v5_, h0, h1, h5, h6, H_d_, H_i_, O5, hW, hF⟩
        have hF := (if_neg (Bool.eq_false_iff.1 hb)).symm.trans hF
        refine WP.skip (WP.exit (thenQ_exit (blockQ_hit ?_)))
        exact ⟨x, v5_, h0, h1, h5, h6, H_d_, H_i_, O5, hW, hF⟩
      have hF := (if_neg (Bool.eq_false_iff.1 hb)).symm.trans hF
      refine WP.skip ?_
      obtain ⟨s, hs, hF⟩ := obind hF
      obtain ⟨l, hl, hF⟩ := obind hF
      obtain ⟨l2, hl2, hF⟩ := obind hF
      obtain ⟨s2, hs2, hF⟩ := obind hF
      obtain ⟨l3, hl3, hF⟩ := obind hF
      refine WP.region mixed [[], [], [0, 1], [2], [], [4], [3, 5], [], [], [7, 8], [6, 9], [0, 6, 7, 10]] [[], [], [0, 1], [2], [], [4], [3, 5], [], [], [7, 8], [6, 9], [10]] [[5], [8], [], [], [7], [], [], [5], [8], [], [], []] [6, 10] [(6, 10), (3, 6), (5, 6)] [val 76 (v5_), val 77 (.int .i64 x4), (78, fun u wz => RepSl api_Fact.R (fun b => w15.heap.size ≤ b) wz u s), (79, fun u wz => Own w0.heap.size 38 14 api_Fact.cells wz u l ∧ ∀ b, u.ownBlock = some b → w15.heap.size ≤ b), val 80 (api_Fact.val v), (81, fun u wz => ∃ b, u = .slice (some ⟨b, 0, none⟩) 1 1 ∧ w15.heap.size ≤ b ∧ Mb wz b 38 (([v]).flatMap api_Fact.cells)), (82, fun u wz => Own w0.heap.size 38 14 api_Fact.cells wz u l2 ∧ ∀ b, u.ownBlock = some b → w15.heap.size ≤ b), val 83 (v5_), val 84 (.int .i64 x4), (85, fun u wz => RepSl api_Fact.R (fun b => w15.heap.size ≤ b) wz u s2), (86, fun u wz => Own w0.heap.size 38 14 api_Fact.cells wz u l3 ∧ ∀ b, u.ownBlock = some b → w15.heap.size ≤ b), (5, fun u wz => Own w0.heap.size 38 14 api_Fact.cells wz u l3 ∧ ∀ b, u.ownBlock = some b → w15.heap.size ≤ b)] (fun b => w15.heap.size ≤ b) (by kernel_rfl) ⟨sV, sV, fun _ _ _ hE h => h.ext hE, fun _ _ _ hE ⟨hO, hf⟩ => ⟨hO.exn hE, hf⟩, sV, fun _ _ _ hE ⟨b, hz, hs, hM⟩ => ⟨b, hz, hs, hM.exn hE⟩, fun _ _ _ hE ⟨hO, hf⟩ => ⟨hO.exn hE, hf⟩, sV, sV, fun _ _ _ hE h => h.ext hE, fun _ _ _ hE ⟨hO, hf⟩ => ⟨hO.exn hE, hf⟩, fun _ _ _ hE ⟨hO, hf⟩ => ⟨hO.exn hE, hf⟩, trivial⟩ ⟨mE rfl rfl h5,
 mE rfl rfl h8,
 fun ρz wz hE hA _ ⟨u0, u1, _⟩ => core_cut (R := api_Fact.R) rfl u0 si_24 sz_38 ((O5.ext hE (fun _ hb hg => absurd (O5.lt hb).2 (Nat.not_lt.2 hg))).rep (hn := fun _ => rfl) (G := fun b => w15.heap.size ≤ b) (fun _ hb hg => absurd (O5.lt hb).2 (Nat.not_lt.2 hg))) hs (.inl ⟨rfl, rfl⟩) (.inr (congrArg some u1)) (fun _ h => h),
 fun ρz wz hE hA _ ⟨hR2, _⟩ => core_appendN (n := 14) (cells := api_Fact.cells) (B := w0.heap.size) (w0 := w15) rfl  rfl rfl (fun _ => rfl) one_38 si_24 se_38 (by decide) (by decide) (Own.nil w0.heap.size 38 14 api_Fact.cells wz) ⟨_, hR2⟩ hl (Nat.le_trans hW.size hE.size) hE.size (fun v1 w1 h1 h2 => ⟨h1, fun b hb => (h2 b hb).resolve_left (by simp [Value.ownBlock])⟩),
 fun ρz wz hE hA ⟨e7, _⟩ _ => core_val rfl rfl (o_load (e7.trans h7) (run_loadN (cs := (api_Fact.cells v)) (lr_38 _ _) rfl ((Hb_b7_.exn hE.fresh).ca))),
 fun ρz wz hE hA _ ⟨u4, _⟩ => core_slice rfl rfl hE (o_buildSlice (build_parts1 u4) (bs_24_1 _ _)),
 fun ρz wz hE hA _ ⟨⟨hO3, hfr3⟩, ⟨bz5, hzn5, hge5, hM5⟩, _⟩ => core_append (n := 14) (cells := api_Fact.cells) (B := w0.heap.size) (w0 := w15) rfl rfl (fun b hb => hfr3 b hb) rfl hzn5 (fun _ => rfl) one_38 si_24 se_38 (by decide) (by decide) hO3 ⟨_, (Mb.rep (n := 14) (cells := api_Fact.cells) (hn := fun _ => rfl) (G := noG) hM5 rfl (Nat.le_of_ble_eq_true rfl) (fun h => h))⟩ hl2 (Nat.le_trans hW.size hE.size) hE.size (fun v1 w1 h1 h2 => ⟨h1, fun b hb => (h2 b hb).elim (hfr3 b) id⟩),
 mE rfl rfl h5,
 mE rfl rfl h8,
 fun ρz wz hE hA _ ⟨u7, u8, _⟩ => core_cut (R := api_Fact.R) rfl u7 si_24 sz_38 ((O5.ext hE (fun _ hb hg => absurd (O5.lt hb).2 (Nat.not_lt.2 hg))).rep (hn := fun _ => rfl) (G := fun b => w15.heap.size ≤ b) (fun _ hb hg => absurd (O5.lt hb).2 (Nat.not_lt.2 hg))) hs2 (.inr (congrArg some u8)) (.inl ⟨rfl, rfl⟩) (fun _ h => h),
 fun ρz wz hE hA _ ⟨⟨hO6, hfr6⟩, hR9, _⟩ => core_append (n := 14) (cells := api_Fact.cells) (B := w0.heap.size) (w0 := w15) rfl rfl (fun b hb => hfr6 b hb) rfl rfl (fun _ => rfl) one_38 si_24 se_38 (by decide) (by decide) hO6 ⟨_, hR9⟩ hl3 (Nat.le_trans hW.size hE.size) hE.size (fun v1 w1 h1 h2 => ⟨h1, fun b hb => (h2 b hb).elim (hfr6 b) id⟩),
 fun ρz wz hE hA _ ⟨⟨hO10, hfr10⟩, _⟩ => core_copy rfl rfl (o_assign rfl) ⟨hO10, hfr10⟩, trivial⟩ ?_
      intro ρ18 w18 hE hN hf hr
      have hN := hE.fresh
      obtain ⟨v5_3, h5⟩ : ∃ v, ρ18 5 = v := ⟨_, rfl⟩
      have hq5 : (fun u wz => Own w0.heap.size 38 14 api_Fact.cells wz u l3 ∧ ∀ b, u.ownBlock = some b → w15.heap.size ≤ b) (ρ18 5) w18 := hf 11 rfl
      rw [h5] at hq5
      obtain ⟨hq5, hfr5⟩ := hq5
      obtain ⟨h0, h1, h6⟩ := k3 hr h0 h1 h6 rfl
      have Oo_O5 := O5
      have H_d_ := H_d_.exn hN
      have H_i_ := H_i_.exn hN
      have hW := hW.trans hN
      have O5 := hq5
      exact ⟨l3, v5_3, h0, h1, h5, h6, H_d_, H_i_, O5, hW, hF⟩
    rintro ρ6 w6 ⟨x3, v5_2, h0, h1, h5, h6, H_d_, H_i_, O5, hW, hF⟩
    rw [pensionref12_Merge_j] at hF
    refine WP.rv mixed [[], [0], [0, 1]] [[], [0], [1]] [[6], [], []] [(16, .int .i64 x2), (17, .int .i64 (i64 (x2 + 1))), (6, .int .i64 (i64 (x2 + 1)))] (by kernel_rfl) ⟨mE rfl rfl h6,
 fun ρz wz hE hA _ ⟨u0, _⟩ => core_val rfl rfl (o_add u0 rfl rfl),
 aU rfl rfl rfl, trivial⟩ ?_
    intro ρ7 w7 hN hf hr
    have h6 := hv hf 2 rfl rfl
    obtain ⟨h0, h1, h5⟩ := k3 hr h0 h1 h5 rfl
    have Oo_O5 := O5
    have H_d_ := H_d_.exn hN
    have H_i_ := H_i_.exn hN
    have hW := hW.trans hN
    have O5 := Oo_O5.exn hN
    exact ⟨x3, i64 (x2 + 1), v5_2, h0, h1, h5, h6, H_d_, H_i_, O5, hW, (by first | exact hF | (rw [hrec_]; exact hF))⟩
  have hF := (if_neg (Bool.eq_false_iff.1 hb)).symm.trans hF
  refine WP.exit (thenQ_exit (thenQ_exit (blockQ_hit (WP.seq (WP.rb mixed [[], [0]] [[5], []] [(87, v5_), (4, v5_)] (by kernel_rfl) ⟨mE rfl rfl h5,
 aU rfl rfl rfl, trivial⟩ ?_)))))
  intro ρ22 w22 hN hf hr
  have h4 := hv hf 1 rfl rfl
  have Oo_O5 := O5
  have hW := hW.trans hN
  have O4 := Oo_O5.exn hN
  refine WP.ret ?_
  show retQ Tryz.prog 88 Tryz.f42 (fun v w1 => Own w0.heap.size 38 14 api_Fact.cells w1 v r ∧ Ext noG w0 w1) .ret ρ22 w22
  obtain rfl := Option.some.inj hF
  exact res1 rfl (by decide) h4 ⟨O4, hW⟩

set_option maxHeartbeats 4000000 in
theorem pensionref12_Current_ok {w0 : World} (l_ : List api_Fact) {v_l_ : Value} (H_l_ : RepSl api_Fact.R noG w0 v_l_ l_) {r : (List api_Fact)} (hF : pensionref12_Current l_ = some r) :
    Calls Tryz.prog 39 #[v_l_] w0 fun e w1 => ∃ v, e = .returned v ∧ Ext noG w0 w1 ∧ Own w0.heap.size 38 14 api_Fact.cells w1 v r := by
  refine (Calls.start (P := Tryz.prog) (args := [v_l_]) (R := fun v w1 => Own w0.heap.size 38 14 api_Fact.cells w1 v r ∧ Ext noG w0 w1) (n := 32) (w := w0) Tryz.func39 rfl rfl (Nat.le_of_ble_eq_true rfl) (fun ρ hargs => ?_)).mono (fun e w1 ⟨v, he, hv, hE⟩ => ⟨v, he, hE, hv⟩)
  have h0 := hargs 0 _ rfl
  have hW := Ext.refl noG w0
  obtain ⟨_, _, hs_H_l_, _, _⟩ := RepSl.shape H_l_
  have H_l_ := H_l_.start
  rw [pensionref12_Current] at hF
  refine WP.seq (WP.rb mixed [[]] [[]] [(2, .slice none 0 0)] (by kernel_rfl) ⟨aC rfl rfl (fun _ => rfl), trivial⟩ ?_)
  intro ρ1 w1 hN hf hr
  have h0 := (hr 0 rfl).trans h0
  have H_l_ := H_l_.exn hN
  have hW := hW.trans hN
  refine WP.seq (WP.rb mixed [[]] [[]] [(3, .slice none 0 0)] (by kernel_rfl) ⟨aC rfl rfl (fun _ => rfl), trivial⟩ ?_)
  intro ρ2 w2 hN hf hr
  have h3 : ρ2 3 = .slice none 0 0 := hf 0 rfl
  have O3 : Own w0.heap.size 38 14 api_Fact.cells w2 (.slice none 0 0) [] := Own.nil _ _ _ _ _
  have h0 := (hr 0 rfl).trans h0
  have H_l_ := H_l_.exn hN
  have hW := hW.trans hN
  have O3 : Own w0.heap.size 38 14 api_Fact.cells w2 (.slice none 0 0) [] := Own.nil _ _ _ _ _
  refine WP.seq (WP.seq (WP.rb mixed [[]] [[]] [(4, .int .i64 0)] (by kernel_rfl) ⟨aC rfl rfl (fun _ => rfl), trivial⟩ ?_))
  intro ρ3 w3 hN hf hr
  have h4 := hv hf 0 rfl rfl
  obtain ⟨h0, h3⟩ := k2 hr h0 h3 rfl
  have Oo_O3 := O3
  have H_l_ := H_l_.exn hN
  have hW := hW.trans hN
  have O3 : Own w0.heap.size 38 14 api_Fact.cells w3 (.slice none 0 0) [] := Own.nil _ _ _ _ _
  refine WP.block (WP.loop (fun k_ ρ w => ∃ out_ : List api_Fact, ∃ i_ : Int, ∃ v3_ : Value, ρ 0 = v_l_ ∧ ρ 3 = v3_ ∧ ρ 4 = .int .i64 i_ ∧ RepSl api_Fact.R (gfr noG w0) w v_l_ l_ ∧ Own w0.heap.size 38 14 api_Fact.cells w v3_ out_ ∧ Ext noG w0 w ∧ loopC k_ (pensionref12_Current_l l_) (out_, i_) = some r) FU ⟨[], 0, .slice none 0 0, h0, h3, h4, H_l_, O3, hW, hF⟩ (fun _ _ h => by obtain ⟨_, _, _, _, _, _, _, _, _, h⟩ := h; cases h) ?_)
  rintro k_ ρ4 w4 ⟨out_, i_, v3_, h0, h3, h4, H_l_, O3, hW, hF⟩
  have hF : pensionref12_Current_l l_ (loopC k_ (pensionref12_Current_l l_)) (out_, i_) = some r := (loopC_succ k_ (pensionref12_Current_l l_) (out_, i_)).symm.trans hF
  generalize hrec_ : loopC k_ (pensionref12_Current_l l_) = rec_ at hF
  rw [pensionref12_Current_l] at hF
  refine WP.seq (WP.seq (WP.rb mixed [[], [], [1], [0, 2]] [[4], [0], [], []] [(5, .int .i64 i_), (6, v_l_), (7, .int .i64 (l_.length : Int)), (8, .bool (decide (i_ < (l_.length : Int))))] (by kernel_rfl) ⟨mE rfl rfl h4,
 mE rfl rfl h0,
 fun ρz wz hE hA _ ⟨u1, _⟩ => core_val rfl rfl (o_len (u1.trans hs_H_l_) len_24),
 fun ρz wz hE hA _ ⟨u0, u2, _⟩ => core_val rfl rfl (o_lss u0 u2 rfl), trivial⟩ ?_))
  intro ρ5 w5 hN hf hr
  have h8 := hv hf 3 rfl rfl
  obtain ⟨h0, h3, h4⟩ := k3 hr h0 h3 h4 rfl
  have Oo_O3 := O3
  have H_l_ := H_l_.exn hN
  have hW := hW.trans hN
  have O3 := Oo_O3.exn hN
  refine WP.cond rfl h8 (fun hb => ?_) (fun hb => ?_)
  · have hF := (if_pos hb).symm.trans hF
    refine WP.skip (WP.seqJ (fun ρ w => ∃ out_2 : List api_Fact, ∃ v3_2 : Value, ρ 0 = v_l_ ∧ ρ 3 = v3_2 ∧ ρ 4 = .int .i64 i_ ∧ RepSl api_Fact.R (gfr noG w0) w v_l_ l_ ∧ Own w0.heap.size 38 14 api_Fact.cells w v3_2 out_2 ∧ Ext noG w0 w ∧ pensionref12_Current_j i_ rec_ out_2 = some r) ?_ ?_)
    · refine WP.block (WP.seq ?_)
      obtain ⟨y, hy, hF⟩ := obind hF
      obtain ⟨ay, cy, hvy, hiy, hAy⟩ := RepSl.getF H_l_ hy
      obtain ⟨z, hz, hF⟩ := obind hF
      obtain ⟨c, hc, hF⟩ := obind hF
      obtain ⟨y2, hy2, hc⟩ := andB hc
      obtain ⟨ay2, cy2, hvy2, hiy2, hAy2⟩ := RepSl.getFI H_l_ hy2
      have hc := andE hc
      refine WP.rb mixed [[], [], [0, 1], [2], [3], [4], [5], [5], [5, 6, 7], [5, 8], [5, 9], [5, 10], [5, 11]] [[0], [4], [], [], [], [], [0], [4], [], [], [], [], []] [(11, v_l_), (12, .int .i64 i_), (13, .pointer (some (ay.add (Int.toNat i_ * 14)))), (14, api_Fact.val y), (15, .bool z), (16, .bool z), (17, gv (z) v_l_), (18, gv (z) (.int .i64 i_)), (19, gv (z) (.pointer (some (ay2.add (Int.toNat i_ * 14))))), (20, gv (z) (.pointer (some ((ay2.add (Int.toNat i_ * 14)).add 3)))), (21, gv (z) (.bool y2.Withdrawn)), (22, gv (z) (.bool (!y2.Withdrawn))), (23, .bool c)] (by kernel_rfl) ⟨mE rfl rfl h0,
 mE rfl rfl h4,
 fun ρz wz hE hA _ ⟨u0, u1, _⟩ => core_val rfl rfl (o_indexAddr (u0.trans hvy) u1 (ia_24 hiy)),
 fun ρz wz hE hA _ ⟨u2, _⟩ => core_val rfl rfl (o_load u2 (run_loadN (cs := (api_Fact.cells y)) (lr_38 _ _) rfl ((hAy.exn (hA rfl)).ca))),
 fun ρz wz hE hA _ ⟨u3, _⟩ => core_call rfl (call_args1 u3) cf_65 (pensionref12_Valid_ok  _  hz),
 mU rfl rfl rfl,
 fun ρz wz hE hA ⟨e0, _⟩ ⟨u5, _⟩ => gIf rfl rfl (yT rfl u5) fun gc F hF => core_val rfl hF (o_move (e0.trans h0)),
 fun ρz wz hE hA ⟨e4, _⟩ ⟨u5, _⟩ => gIf rfl rfl (yT rfl u5) fun gc F hF => core_val rfl hF (o_move (e4.trans h4)),
 fun ρz wz hE hA _ ⟨u5, u6, u7, _⟩ => gIf rfl rfl (yT rfl u5) fun gc F hF => core_val rfl hF (o_indexAddr ((gt gc u6).trans (hvy2 gc)) (gt gc u7) (ia_24 (hiy2 gc))),
 fun ρz wz hE hA _ ⟨u5, u8, _⟩ => gIf rfl rfl (yT rfl u5) fun gc F hF => core_val rfl hF (o_fieldAddr (gt gc u8) (fa_38_3 _ _)),
 fun ρz wz hE hA _ ⟨u5, u9, _⟩ => gIf rfl rfl (yT rfl u5) fun gc F hF => core_val rfl hF (o_load (gt gc u9) (run_load1 (lr_4 _ _) (CA.sub (((hAy2 gc).exn (hA rfl)).ca) 3 1))),
 fun ρz wz hE hA _ ⟨u5, u10, _⟩ => gIf rfl rfl (yT rfl u5) fun gc F hF => core_val rfl hF (o_not (gt gc u10) rfl),
 fun ρz wz hE hA _ ⟨u5, u11, _⟩ => core_valE rfl rfl (congrArg Value.bool hc) (o_pick_and u5 u11 rfl), trivial⟩ ?_
      intro ρ8 w8 hN hf hr
      have h23 := hv hf 12 rfl rfl
      obtain ⟨h0, h3, h4⟩ := k3 hr h0 h3 h4 rfl
      have Oo_O3 := O3
      have H_l_ := H_l_.exn hN
      have hW := hW.trans hN
      have O3 := Oo_O3.exn hN
      refine WP.cond rfl h23 (fun hb => ?_) (fun hb => ?_)
      · have hF := (if_pos hb).symm.trans hF
        obtain ⟨y3, hy3, hF⟩ := obind hF
        obtain ⟨ay3, cy3, hvy3, hiy3, hAy3⟩ := RepSl.getF H_l_ hy3
        obtain ⟨l, hl, hF⟩ := obind hF
        refine WP.region mixed [[], [], [], [1, 2], [3], [4], [0, 4, 5], [0, 6]] [[], [], [], [1, 2], [3], [4], [0, 5], [6]] [[3], [0], [4], [], [], [], [], []] [6] [] [val 24 (v3_), val 25 (v_l_), val 26 (.int .i64 i_), val 27 (.pointer (some (ay3.add (Int.toNat i_ * 14)))), val 28 (api_Fact.val y3), (29, fun u wz => ∃ b, u = .slice (some ⟨b, 0, none⟩) 1 1 ∧ w8.heap.size ≤ b ∧ Mb wz b 38 (([y3]).flatMap api_Fact.cells)), (30, fun u wz => Own w0.heap.size 38 14 api_Fact.cells wz u l ∧ ∀ b, u.ownBlock = some b → (v3_.ownBlock = some b ∨ w8.heap.size ≤ b)), (3, fun u wz => Own w0.heap.size 38 14 api_Fact.cells wz u l ∧ ∀ b, u.ownBlock = some b → (v3_.ownBlock = some b ∨ w8.heap.size ≤ b))] (fun b => Value.ownBlock v3_ = some b) (by kernel_rfl) ⟨sV, sV, sV, sV, sV, fun _ _ _ hE ⟨b, hz, hs, hM⟩ => ⟨b, hz, hs, hM.ext hE (fun hg => absurd (O3.lt hg).2 (Nat.not_lt.2 hs))⟩, fun _ _ _ hE ⟨hO, hf⟩ => ⟨hO.exn hE, hf⟩, fun _ _ _ hE ⟨hO, hf⟩ => ⟨hO.exn hE, hf⟩, trivial⟩ ⟨mE rfl rfl h3,
 mE rfl rfl h0,
 mE rfl rfl h4,
 fun ρz wz hE hA _ ⟨u1, u2, _⟩ => core_val rfl rfl (o_indexAddr (u1.trans hvy3) u2 (ia_24 hiy3)),
 fun ρz wz hE hA _ ⟨u3, _⟩ => core_val rfl rfl (o_load u3 (run_loadN (cs := (api_Fact.cells y3)) (lr_38 _ _) rfl ((hAy3.exn (hA rfl)).ca))),
 fun ρz wz hE hA _ ⟨u4, _⟩ => core_slice rfl rfl hE (o_buildSlice (build_parts1 u4) (bs_24_1 _ _)),
 fun ρz wz hE hA _ ⟨u0, ⟨bz5, hzn5, hge5, hM5⟩, _⟩ => core_append (n := 14) (cells := api_Fact.cells) (B := w0.heap.size) (w0 := w8) rfl rfl (fun b hb => hb) u0 hzn5 (fun _ => rfl) one_38 si_24 se_38 (by decide) (by decide) (O3.exn (hA rfl)) ⟨_, (Mb.rep (n := 14) (cells := api_Fact.cells) (hn := fun _ => rfl) (G := noG) hM5 rfl (Nat.le_of_ble_eq_true rfl) (fun h => h))⟩ hl (Nat.le_trans hW.size hE.size) hE.size (fun v1 w1 h1 h2 => ⟨h1, h2⟩),
 fun ρz wz hE hA _ ⟨⟨hO6, hfr6⟩, _⟩ => core_copy rfl rfl (o_assign rfl) ⟨hO6, hfr6⟩, trivial⟩ ?_
        intro ρ9 w9 hE hN hf hr
        obtain ⟨v3_3, h3⟩ : ∃ v, ρ9 3 = v := ⟨_, rfl⟩
        have hq3 : (fun u wz => Own w0.heap.size 38 14 api_Fact.cells wz u l ∧ ∀ b, u.ownBlock = some b → (v3_.ownBlock = some b ∨ w8.heap.size ≤ b)) (ρ9 3) w9 := hf 7 rfl
        rw [h3] at hq3
        obtain ⟨hq3, hfr3⟩ := hq3
        obtain ⟨h0, h4⟩ := k2 hr h0 h4 rfl
        have Oo_O3 := O3
        have H_l_ := H_l_.over hE (fun b hb => (Oo_O3.lt hb).1)
        have hW := Ext.own hW hE (fun b hb => (Oo_O3.lt hb).1)
        have O3 := hq3
        exact ⟨l, v3_3, h0, h3, h4, H_l_, O3, hW, hF⟩
      have hF := (if_neg (Bool.eq_false_iff.1 hb)).symm.trans hF
      refine WP.skip ?_
      exact ⟨out_, v3_, h0, h3, h4, H_l_, O3, hW, hF⟩
    rintro ρ6 w6 ⟨out_2, v3_2, h0, h3, h4, H_l_, O3, hW, hF⟩
    rw [pensionref12_Current_j] at hF
    refine WP.rv mixed [[], [0], [0, 1]] [[], [0], [1]] [[4], [], []] [(9, .int .i64 i_), (10, .int .i64 (i64 (i_ + 1))), (4, .int .i64 (i64 (i_ + 1)))] (by kernel_rfl) ⟨mE rfl rfl h4,
 fun ρz wz hE hA _ ⟨u0, _⟩ => core_val rfl rfl (o_add u0 rfl rfl),
 aU rfl rfl rfl, trivial⟩ ?_
    intro ρ7 w7 hN hf hr
    have h4 := hv hf 2 rfl rfl
    obtain ⟨h0, h3⟩ := k2 hr h0 h3 rfl
    have Oo_O3 := O3
    have H_l_ := H_l_.exn hN
    have hW := hW.trans hN
    have O3 := Oo_O3.exn hN
    exact ⟨out_2, i64 (i_ + 1), v3_2, h0, h3, h4, H_l_, O3, hW, (by first | exact hF | (rw [hrec_]; exact hF))⟩
  have hF := (if_neg (Bool.eq_false_iff.1 hb)).symm.trans hF
  refine WP.exit (thenQ_exit (thenQ_exit (blockQ_hit (WP.seq (WP.rb mixed [[], [0]] [[3], []] [(31, v3_), (2, v3_)] (by kernel_rfl) ⟨mE rfl rfl h3,
 aU rfl rfl rfl, trivial⟩ ?_)))))
  intro ρ10 w10 hN hf hr
  have h2 := hv hf 1 rfl rfl
  have Oo_O3 := O3
  have hW := hW.trans hN
  have O2 := Oo_O3.exn hN
  refine WP.ret ?_
  show retQ Tryz.prog 32 Tryz.f39 (fun v w1 => Own w0.heap.size 38 14 api_Fact.cells w1 v r ∧ Ext noG w0 w1) .ret ρ10 w10
  obtain rfl := Option.some.inj hF
  exact res1 rfl (by decide) h2 ⟨O2, hW⟩

set_option maxHeartbeats 4000000 in
theorem pensionref21_facts_ok {w0 : World} (l_ : List api_Fact) {v_l_ : Value} (H_l_ : RepSl api_Fact.R noG w0 v_l_ l_) {r : (List api_Fact)} (hF : pensionref21_facts l_ = some r) :
    Calls Tryz.prog 21 #[v_l_] w0 fun e w1 => ∃ v, e = .returned v ∧ Ext noG w0 w1 ∧ Own w0.heap.size 38 14 api_Fact.cells w1 v r := by
  refine (Calls.start (P := Tryz.prog) (args := [v_l_]) (R := fun v w1 => Own w0.heap.size 38 14 api_Fact.cells w1 v r ∧ Ext noG w0 w1) (n := 6) (w := w0) Tryz.func21 rfl rfl (Nat.le_of_ble_eq_true rfl) (fun ρ hargs => ?_)).mono (fun e w1 ⟨v, he, hv, hE⟩ => ⟨v, he, hE, hv⟩)
  have h0 := hargs 0 _ rfl
  have hW := Ext.refl noG w0
  obtain ⟨_, _, hs_H_l_, _, _⟩ := RepSl.shape H_l_
  have H_l_ := H_l_.start
  rw [pensionref21_facts] at hF
  refine WP.seq (WP.rb mixed [[]] [[]] [(2, .slice none 0 0)] (by kernel_rfl) ⟨aC rfl rfl (fun _ => rfl), trivial⟩ ?_)
  intro ρ1 w1 hN hf hr
  have h0 := (hr 0 rfl).trans h0
  have H_l_ := H_l_.exn hN
  have hW := hW.trans hN
  refine WP.seq ?_
  obtain ⟨z, hz, hF⟩ := obind hF
  obtain ⟨z2, hz2, hF⟩ := obind hF
  refine WP.rg mixed [[], [0], [1], [2]] [[], [0], [1], [2]] [[0], [], [], []] [val 3 (v_l_), (4, fun u wz => Own w0.heap.size 38 14 api_Fact.cells wz u z ∧ ∀ b, u.ownBlock = some b → w1.heap.size ≤ b), (5, fun u wz => Own w0.heap.size 38 14 api_Fact.cells wz u z2 ∧ ∀ b, u.ownBlock = some b → w1.heap.size ≤ b), (2, fun u wz => Own w0.heap.size 38 14 api_Fact.cells wz u z2 ∧ ∀ b, u.ownBlock = some b → w1.heap.size ≤ b)] (by kernel_rfl) ⟨sV, fun _ _ _ hE ⟨hO, hf⟩ => ⟨hO.exn hE, hf⟩, fun _ _ _ hE ⟨hO, hf⟩ => ⟨hO.exn hE, hf⟩, fun _ _ _ hE ⟨hO, hf⟩ => ⟨hO.exn hE, hf⟩, trivial⟩ ⟨mE rfl rfl h0,
 fun ρz wz hE hA _ ⟨u0, _⟩ => core_callR rfl (call_args2 u0 rfl) cf_42 ((pensionref12_Merge_ok  _ _ (H_l_.exn (hA rfl)).no (RepSl.nil _ noG _).no hz).mono (fun e w1 ⟨v, he, hE1, hO⟩ => ⟨v, he, hE1, hO.base (Nat.le_trans hW.size hE.size), fun b hb => Nat.le_trans hE.size (hO.lt hb).1⟩)),
 fun ρz wz hE hA _ ⟨⟨hO1, hfr1⟩, _⟩ => core_callR rfl (call_args1 rfl) cf_39 ((pensionref12_Current_ok  _ (hO1.rep (hn := fun _ => rfl) (G := noG) (fun _ _ h => h)).no hz2).mono (fun e w1 ⟨v, he, hE1, hO⟩ => ⟨v, he, hE1, hO.base (Nat.le_trans hW.size hE.size), fun b hb => Nat.le_trans hE.size (hO.lt hb).1⟩)),
 fun ρz wz hE hA _ ⟨⟨hO2, hfr2⟩, _⟩ => core_copy rfl rfl (o_assign rfl) ⟨hO2, hfr2⟩, trivial⟩ ?_
  intro ρ2 w2 hN hf hr
  obtain ⟨v2_, h2⟩ : ∃ v, ρ2 2 = v := ⟨_, rfl⟩
  have hq2 : (fun u wz => Own w0.heap.size 38 14 api_Fact.cells wz u z2 ∧ ∀ b, u.ownBlock = some b → w1.heap.size ≤ b) (ρ2 2) w2 := hf 3 rfl
  rw [h2] at hq2
  obtain ⟨hq2, hfr2⟩ := hq2
  have hW := hW.trans hN
  have O2 := hq2
  refine WP.ret ?_
  show retQ Tryz.prog 6 Tryz.f21 (fun v w1 => Own w0.heap.size 38 14 api_Fact.cells w1 v r ∧ Ext noG w0 w1) .ret ρ2 w2
  obtain rfl := Option.some.inj hF
  exact res1 rfl (by decide) h2 ⟨O2, hW⟩

set_option maxHeartbeats 4000000 in
theorem pensionref1_ValidDay_ok {w0 : World} (day_ : Int) {r : Bool} (hF : pensionref1_ValidDay day_ = some r) :
    Calls Tryz.prog 24 #[.int .i64 day_] w0 fun e w1 => e = .returned (.bool r) ∧ Ext noG w0 w1 := by
  refine (Calls.start (P := Tryz.prog) (args := [.int .i64 day_]) (R := fun v w1 => v = .bool r ∧ Ext noG w0 w1) (n := 9) (w := w0) Tryz.func24 rfl rfl (Nat.le_of_ble_eq_true rfl) (fun ρ hargs => ?_)).mono (fun e w1 ⟨v, he, hv, hE⟩ => ⟨hv ▸ he, hE⟩)
  have h0 := hargs 0 _ rfl
  have hW := Ext.refl noG w0
  rw [pensionref1_ValidDay] at hF
  refine WP.seq (WP.rb mixed [[]] [[]] [(2, .bool false)] (by kernel_rfl) ⟨aC rfl rfl (fun _ => rfl), trivial⟩ ?_)
  intro ρ1 w1 hN hf hr
  have h0 := (hr 0 rfl).trans h0
  have hW := hW.trans hN
  refine WP.seq (WP.rb mixed [[], [0], [1], [2], [2, 3], [2, 4], [5]] [[0], [], [], [0], [], [], []] [(3, .int .i64 day_), (4, .bool (decide (0 ≤ day_))), (5, .bool (decide (0 ≤ day_))), (6, gv (decide (0 ≤ day_)) (.int .i64 day_)), (7, gv (decide (0 ≤ day_)) (.bool (decide (day_ ≤ 73048)))), (8, .bool (decide (0 ≤ day_) && decide (day_ ≤ 73048))), (2, .bool (decide (0 ≤ day_) && decide (day_ ≤ 73048)))] (by kernel_rfl) ⟨mE rfl rfl h0,
 fun ρz wz hE hA _ ⟨u0, _⟩ => core_val rfl rfl (o_geq u0 rfl rfl),
 mU rfl rfl rfl,
 fun ρz wz hE hA ⟨e0, _⟩ ⟨u2, _⟩ => gIf rfl rfl (yT rfl u2) fun gc F hF => core_val rfl hF (o_move (e0.trans h0)),
 fun ρz wz hE hA _ ⟨u2, u3, _⟩ => gIf rfl rfl (yT rfl u2) fun gc F hF => core_val rfl hF (o_leq (gt gc u3) rfl rfl),
 fun ρz wz hE hA _ ⟨u2, u4, _⟩ => core_val rfl rfl (o_pick_and u2 u4 rfl),
 aU rfl rfl rfl, trivial⟩ ?_)
  intro ρ2 w2 hN hf hr
  have h2 := hv hf 6 rfl rfl
  have hW := hW.trans hN
  refine WP.ret ?_
  show retQ Tryz.prog 9 Tryz.f24 (fun v w1 => v = .bool r ∧ Ext noG w0 w1) .ret ρ2 w2
  obtain rfl := Option.some.inj hF
  exact res1 rfl (by decide) h2 ⟨rfl, hW⟩

set_option maxHeartbeats 4000000 in
theorem pensionref12_Of_ok {w0 : World} (l_ : List api_Fact) (person_ : Int) {v_l_ : Value} (H_l_ : RepSl api_Fact.R noG w0 v_l_ l_) {r : (List api_Fact)} (hF : pensionref12_Of l_ person_ = some r) :
    Calls Tryz.prog 20 #[v_l_, .int .i64 person_] w0 fun e w1 => ∃ v, e = .returned v ∧ Ext noG w0 w1 ∧ Own w0.heap.size 38 14 api_Fact.cells w1 v r := by
  refine (Calls.start (P := Tryz.prog) (args := [v_l_, .int .i64 person_]) (R := fun v w1 => Own w0.heap.size 38 14 api_Fact.cells w1 v r ∧ Ext noG w0 w1) (n := 28) (w := w0) Tryz.func20 rfl rfl (Nat.le_of_ble_eq_true rfl) (fun ρ hargs => ?_)).mono (fun e w1 ⟨v, he, hv, hE⟩ => ⟨v, he, hE, hv⟩)
  have h0 := hargs 0 _ rfl
  have h1 := hargs 1 _ rfl
  have hW := Ext.refl noG w0
  obtain ⟨_, _, hs_H_l_, _, _⟩ := RepSl.shape H_l_
  have H_l_ := H_l_.start
  rw [pensionref12_Of] at hF
  refine WP.seq (WP.rb mixed [[]] [[]] [(4, .slice none 0 0)] (by kernel_rfl) ⟨aC rfl rfl (fun _ => rfl), trivial⟩ ?_)
  intro ρ1 w1 hN hf hr
  obtain ⟨h0, h1⟩ := k2 hr h0 h1 rfl
  have H_l_ := H_l_.exn hN
  have hW := hW.trans hN
  refine WP.seq (WP.rb mixed [[]] [[]] [(5, .slice none 0 0)] (by kernel_rfl) ⟨aC rfl rfl (fun _ => rfl), trivial⟩ ?_)
  intro ρ2 w2 hN hf hr
  have h5 : ρ2 5 = .slice none 0 0 := hf 0 rfl
  have O5 : Own w0.heap.size 38 14 api_Fact.cells w2 (.slice none 0 0) [] := Own.nil _ _ _ _ _
  obtain ⟨h0, h1⟩ := k2 hr h0 h1 rfl
  have H_l_ := H_l_.exn hN
  have hW := hW.trans hN
  have O5 : Own w0.heap.size 38 14 api_Fact.cells w2 (.slice none 0 0) [] := Own.nil _ _ _ _ _
  refine WP.seq (WP.seq (WP.rb mixed [[]] [[]] [(6, .int .i64 0)] (by kernel_rfl) ⟨aC rfl rfl (fun _ => rfl), trivial⟩ ?_))
  intro ρ3 w3 hN hf hr
  have h6 := hv hf 0 rfl rfl
  obtain ⟨h0, h1, h5⟩ := k3 hr h0 h1 h5 rfl
  have Oo_O5 := O5
  have H_l_ := H_l_.exn hN
  have hW := hW.trans hN
  have O5 : Own w0.heap.size 38 14 api_Fact.cells w3 (.slice none 0 0) [] := Own.nil _ _ _ _ _
  refine WP.block (WP.loop (fun k_ ρ w => ∃ out_ : List api_Fact, ∃ i_ : Int, ∃ v5_ : Value, ρ 0 = v_l_ ∧ ρ 1 = .int .i64 person_ ∧ ρ 5 = v5_ ∧ ρ 6 = .int .i64 i_ ∧ RepSl api_Fact.R (gfr noG w0) w v_l_ l_ ∧ Own w0.heap.size 38 14 api_Fact.cells w v5_ out_ ∧ Ext noG w0 w ∧ loopC k_ (pensionref12_Of_l l_ person_) (out_, i_) = some r) FU ⟨[], 0, .slice none 0 0, h0, h1, h5, h6, H_l_, O5, hW, hF⟩ (fun _ _ h => by obtain ⟨_, _, _, _, _, _, _, _, _, _, h⟩ := h; cases h) ?_)
  rintro k_ ρ4 w4 ⟨out_, i_, v5_, h0, h1, h5, h6, H_l_, O5, hW, hF⟩
  have hF : pensionref12_Of_l l_ person_ (loopC k_ (pensionref12_Of_l l_ person_)) (out_, i_) = some r := (loopC_succ k_ (pensionref12_Of_l l_ person_) (out_, i_)).symm.trans hF
  generalize hrec_ : loopC k_ (pensionref12_Of_l l_ person_) = rec_ at hF
  rw [pensionref12_Of_l] at hF
  refine WP.seq (WP.seq (WP.rb mixed [[], [], [1], [0, 2]] [[6], [0], [], []] [(7, .int .i64 i_), (8, v_l_), (9, .int .i64 (l_.length : Int)), (10, .bool (decide (i_ < (l_.length : Int))))] (by kernel_rfl) ⟨mE rfl rfl h6,
 mE rfl rfl h0,
 fun ρz wz hE hA _ ⟨u1, _⟩ => core_val rfl rfl (o_len (u1.trans hs_H_l_) len_24),
 fun ρz wz hE hA _ ⟨u0, u2, _⟩ => core_val rfl rfl (o_lss u0 u2 rfl), trivial⟩ ?_))
  intro ρ5 w5 hN hf hr
  have h10 := hv hf 3 rfl rfl
  obtain ⟨h0, h1, h5, h6⟩ := k4 hr h0 h1 h5 h6 rfl
  have Oo_O5 := O5
  have H_l_ := H_l_.exn hN
  have hW := hW.trans hN
  have O5 := Oo_O5.exn hN
  refine WP.cond rfl h10 (fun hb => ?_) (fun hb => ?_)
  · have hF := (if_pos hb).symm.trans hF
    refine WP.skip (WP.seqJ (fun ρ w => ∃ out_2 : List api_Fact, ∃ v5_2 : Value, ρ 0 = v_l_ ∧ ρ 1 = .int .i64 person_ ∧ ρ 5 = v5_2 ∧ ρ 6 = .int .i64 i_ ∧ RepSl api_Fact.R (gfr noG w0) w v_l_ l_ ∧ Own w0.heap.size 38 14 api_Fact.cells w v5_2 out_2 ∧ Ext noG w0 w ∧ pensionref12_Of_j i_ rec_ out_2 = some r) ?_ ?_)
    · refine WP.block (WP.seq ?_)
      obtain ⟨y, hy, hF⟩ := obind hF
      obtain ⟨ay, cy, hvy, hiy, hAy⟩ := RepSl.getF H_l_ hy
      refine WP.rb mixed [[], [], [0, 1], [2], [3], [], [4, 5]] [[0], [6], [], [], [], [1], []] [(13, v_l_), (14, .int .i64 i_), (15, .pointer (some (ay.add (Int.toNat i_ * 14)))), (16, .pointer (some ((ay.add (Int.toNat i_ * 14)).add 4))), (17, .int .i64 y.Person), (18, .int .i64 person_), (19, .bool (y.Person == person_))] (by kernel_rfl) ⟨mE rfl rfl h0,
 mE rfl rfl h6,
 fun ρz wz hE hA _ ⟨u0, u1, _⟩ => core_val rfl rfl (o_indexAddr (u0.trans hvy) u1 (ia_24 hiy)),
 fun ρz wz hE hA _ ⟨u2, _⟩ => core_val rfl rfl (o_fieldAddr u2 (fa_38_4 _ _)),
 fun ρz wz hE hA _ ⟨u3, _⟩ => core_val rfl rfl (o_load u3 (run_load1 (lr_3 _ _) (CA.sub ((hAy.exn (hA rfl)).ca) 4 1))),
 mE rfl rfl h1,
 fun ρz wz hE hA _ ⟨u4, u5, _⟩ => core_val rfl rfl (o_eql u4 u5 rfl), trivial⟩ ?_
      intro ρ8 w8 hN hf hr
      have h19 := hv hf 6 rfl rfl
      obtain ⟨h0, h1, h5, h6⟩ := k4 hr h0 h1 h5 h6 rfl
      have Oo_O5 := O5
      have H_l_ := H_l_.exn hN
      have hW := hW.trans hN
      have O5 := Oo_O5.exn hN
      refine WP.cond rfl h19 (fun hb => ?_) (fun hb => ?_)
      · have hF := (if_pos hb).symm.trans hF
        obtain ⟨y2, hy2, hF⟩ := obind hF
        obtain ⟨ay2, cy2, hvy2, hiy2, hAy2⟩ := RepSl.getF H_l_ hy2
        obtain ⟨l, hl, hF⟩ := obind hF
        refine WP.region mixed [[], [], [], [1, 2], [3], [4], [0, 4, 5], [0, 6]] [[], [], [], [1, 2], [3], [4], [0, 5], [6]] [[5], [0], [6], [], [], [], [], []] [6] [] [val 20 (v5_), val 21 (v_l_), val 22 (.int .i64 i_), val 23 (.pointer (some (ay2.add (Int.toNat i_ * 14)))), val 24 (api_Fact.val y2), (25, fun u wz => ∃ b, u = .slice (some ⟨b, 0, none⟩) 1 1 ∧ w8.heap.size ≤ b ∧ Mb wz b 38 (([y2]).flatMap api_Fact.cells)), (26, fun u wz => Own w0.heap.size 38 14 api_Fact.cells wz u l ∧ ∀ b, u.ownBlock = some b → (v5_.ownBlock = some b ∨ w8.heap.size ≤ b)), (5, fun u wz => Own w0.heap.size 38 14 api_Fact.cells wz u l ∧ ∀ b, u.ownBlock = some b → (v5_.ownBlock = some b ∨ w8.heap.size ≤ b))] (fun b => Value.ownBlock v5_ = some b) (by kernel_rfl) ⟨sV, sV, sV, sV, sV, fun _ _ _ hE ⟨b, hz, hs, hM⟩ => ⟨b, hz, hs, hM.ext hE (fun hg => absurd (O5.lt hg).2 (Nat.not_lt.2 hs))⟩, fun _ _ _ hE ⟨hO, hf⟩ => ⟨hO.exn hE, hf⟩, fun _ _ _ hE ⟨hO, hf⟩ => ⟨hO.exn hE, hf⟩, trivial⟩ ⟨mE rfl rfl h5,
 mE rfl rfl h0,
 mE rfl rfl h6,
 fun ρz wz hE hA _ ⟨u1, u2, _⟩ => core_val rfl rfl (o_indexAddr (u1.trans hvy2) u2 (ia_24 hiy2)),
 fun ρz wz hE hA _ ⟨u3, _⟩ => core_val rfl rfl (o_load u3 (run_loadN (cs := (api_Fact.cells y2)) (lr_38 _ _) rfl ((hAy2.exn (hA rfl)).ca))),
 fun ρz wz hE hA _ ⟨u4, _⟩ => core_slice rfl rfl hE (o_buildSlice (build_parts1 u4) (bs_24_1 _ _)),
 fun ρz wz hE hA _ ⟨u0, ⟨bz5, hzn5, hge5, hM5⟩, _⟩ => core_append (n := 14) (cells := api_Fact.cells) (B := w0.heap.size) (w0 := w8) rfl rfl (fun b hb => hb) u0 hzn5 (fun _ => rfl) one_38 si_24 se_38 (by decide) (by decide) (O5.exn (hA rfl)) ⟨_, (Mb.rep (n := 14) (cells := api_Fact.cells) (hn := fun _ => rfl) (G := noG) hM5 rfl (Nat.le_of_ble_eq_true rfl) (fun h => h))⟩ hl (Nat.le_trans hW.size hE.size) hE.size (fun v1 w1 h1 h2 => ⟨h1, h2⟩),
 fun ρz wz hE hA _ ⟨⟨hO6, hfr6⟩, _⟩ => core_copy rfl rfl (o_assign rfl) ⟨hO6, hfr6⟩, trivial⟩ ?_
        intro ρ9 w9 hE hN hf hr
        obtain ⟨v5_3, h5⟩ : ∃ v, ρ9 5 = v := ⟨_, rfl⟩
        have hq5 : (fun u wz => Own w0.heap.size 38 14 api_Fact.cells wz u l ∧ ∀ b, u.ownBlock = some b → (v5_.ownBlock = some b ∨ w8.heap.size ≤ b)) (ρ9 5) w9 := hf 7 rfl
        rw [h5] at hq5
        obtain ⟨hq5, hfr5⟩ := hq5
        obtain ⟨h0, h1, h6⟩ := k3 hr h0 h1 h6 rfl
        have Oo_O5 := O5
        have H_l_ := H_l_.over hE (fun b hb => (Oo_O5.lt hb).1)
        have hW := Ext.own hW hE (fun b hb => (Oo_O5.lt hb).1)
        have O5 := hq5
        exact ⟨l, v5_3, h0, h1, h5, h6, H_l_, O5, hW, hF⟩
      have hF := (if_neg (Bool.eq_false_iff.1 hb)).symm.trans hF
      refine WP.skip ?_
      exact ⟨out_, v5_, h0, h1, h5, h6, H_l_, O5, hW, hF⟩
    rintro ρ6 w6 ⟨out_2, v5_2, h0, h1, h5, h6, H_l_, O5, hW, hF⟩
    rw [pensionref12_Of_j] at hF
    refine WP.rv mixed [[], [0], [0, 1]] [[], [0], [1]] [[6], [], []] [(11, .int .i64 i_), (12, .int .i64 (i64 (i_ + 1))), (6, .int .i64 (i64 (i_ + 1)))] (by kernel_rfl) ⟨mE rfl rfl h6,
 fun ρz wz hE hA _ ⟨u0, _⟩ => core_val rfl rfl (o_add u0 rfl rfl),
 aU rfl rfl rfl, trivial⟩ ?_
    intro ρ7 w7 hN hf hr
    have h6 := hv hf 2 rfl rfl
    obtain ⟨h0, h1, h5⟩ := k3 hr h0 h1 h5 rfl
    have Oo_O5 := O5
    have H_l_ := H_l_.exn hN
    have hW := hW.trans hN
    have O5 := Oo_O5.exn hN
    exact ⟨out_2, i64 (i_ + 1), v5_2, h0, h1, h5, h6, H_l_, O5, hW, (by first | exact hF | (rw [hrec_]; exact hF))⟩
  have hF := (if_neg (Bool.eq_false_iff.1 hb)).symm.trans hF
  refine WP.exit (thenQ_exit (thenQ_exit (blockQ_hit (WP.seq (WP.rb mixed [[], [0]] [[5], []] [(27, v5_), (4, v5_)] (by kernel_rfl) ⟨mE rfl rfl h5,
 aU rfl rfl rfl, trivial⟩ ?_)))))
  intro ρ10 w10 hN hf hr
  have h4 := hv hf 1 rfl rfl
  have Oo_O5 := O5
  have hW := hW.trans hN
  have O4 := Oo_O5.exn hN
  refine WP.ret ?_
  show retQ Tryz.prog 28 Tryz.f20 (fun v w1 => Own w0.heap.size 38 14 api_Fact.cells w1 v r ∧ Ext noG w0 w1) .ret ρ10 w10
  obtain rfl := Option.some.inj hF
  exact res1 rfl (by decide) h4 ⟨O4, hW⟩

set_option maxHeartbeats 4000000 in
theorem pensionref12_least_ok {w0 : World} (l_ : List api_Fact) (kind_ : Int) {v_l_ : Value} (H_l_ : RepSl api_Fact.R noG w0 v_l_ l_) {r : Int × Bool} (hF : pensionref12_least l_ kind_ = some r) :
    Calls Tryz.prog 85 #[v_l_, .int .i64 kind_] w0 fun e w1 => e = .returned (.tuple #[.int .i64 r.1, .bool r.2]) ∧ Ext noG w0 w1 := by
  refine (Calls.start (P := Tryz.prog) (args := [v_l_, .int .i64 kind_]) (R := fun v w1 => v = .tuple #[.int .i64 r.1, .bool r.2] ∧ Ext noG w0 w1) (n := 47) (w := w0) Tryz.func85 rfl rfl (Nat.le_of_ble_eq_true rfl) (fun ρ hargs => ?_)).mono (fun e w1 ⟨v, he, hv, hE⟩ => ⟨hv ▸ he, hE⟩)
  have h0 := hargs 0 _ rfl
  have h1 := hargs 1 _ rfl
  have hW := Ext.refl noG w0
  obtain ⟨_, _, hs_H_l_, _, _⟩ := RepSl.shape H_l_
  have H_l_ := H_l_.start
  rw [pensionref12_least] at hF
  refine WP.seq (WP.rb mixed [[], []] [[], []] [(4, .int .i64 0), (5, .bool false)] (by kernel_rfl) ⟨aC rfl rfl (fun _ => rfl),
 aC rfl rfl (fun _ => rfl), trivial⟩ ?_)
  intro ρ1 w1 hN hf hr
  obtain ⟨h0, h1⟩ := k2 hr h0 h1 rfl
  have H_l_ := H_l_.exn hN
  have hW := hW.trans hN
  refine WP.seq ?_
  obtain ⟨z, hz, hF⟩ := obind hF
  refine WP.rg mixed [[], [0], [1]] [[], [0], [1]] [[0], [], []] [val 10 (v_l_), (11, fun u wz => Own w0.heap.size 38 14 api_Fact.cells wz u z ∧ ∀ b, u.ownBlock = some b → w1.heap.size ≤ b), (6, fun u wz => Own w0.heap.size 38 14 api_Fact.cells wz u z ∧ ∀ b, u.ownBlock = some b → w1.heap.size ≤ b)] (by kernel_rfl) ⟨sV, fun _ _ _ hE ⟨hO, hf⟩ => ⟨hO.exn hE, hf⟩, fun _ _ _ hE ⟨hO, hf⟩ => ⟨hO.exn hE, hf⟩, trivial⟩ ⟨mE rfl rfl h0,
 fun ρz wz hE hA _ ⟨u0, _⟩ => core_callR rfl (call_args1 u0) cf_39 ((pensionref12_Current_ok  _ (H_l_.exn (hA rfl)).no hz).mono (fun e w1 ⟨v, he, hE1, hO⟩ => ⟨v, he, hE1, hO.base (Nat.le_trans hW.size hE.size), fun b hb => Nat.le_trans hE.size (hO.lt hb).1⟩)),
 fun ρz wz hE hA _ ⟨⟨hO1, hfr1⟩, _⟩ => core_copy rfl rfl (o_assign rfl) ⟨hO1, hfr1⟩, trivial⟩ ?_
  intro ρ2 w2 hN hf hr
  obtain ⟨v6_, h6⟩ : ∃ v, ρ2 6 = v := ⟨_, rfl⟩
  have hq6 : (fun u wz => Own w0.heap.size 38 14 api_Fact.cells wz u z ∧ ∀ b, u.ownBlock = some b → w1.heap.size ≤ b) (ρ2 6) w2 := hf 2 rfl
  rw [h6] at hq6
  obtain ⟨hq6, hfr6⟩ := hq6
  have h1 := (hr 1 rfl).trans h1
  have hW := hW.trans hN
  have Hf6 : RepSl api_Fact.R noG w2 v6_ z := hq6.rep (fun _ _ h => h)
  obtain ⟨_, _, hs_Hf6, _, _⟩ := RepSl.shape Hf6
  refine WP.seq (WP.rb mixed [[], []] [[], []] [(7, .int .i64 0), (8, .bool false)] (by kernel_rfl) ⟨aC rfl rfl (fun _ => rfl),
 aC rfl rfl (fun _ => rfl), trivial⟩ ?_)
  intro ρ3 w3 hN hf hr
  have h7 := hv hf 0 rfl rfl
  have h8 := hv hf 1 rfl rfl
  obtain ⟨h1, h6⟩ := k2 hr h1 h6 rfl
  have Hf6 := Hf6.exn hN
  have hW := hW.trans hN
  refine WP.seq (WP.seq (WP.rb mixed [[]] [[]] [(9, .int .i64 0)] (by kernel_rfl) ⟨aC rfl rfl (fun _ => rfl), trivial⟩ ?_))
  intro ρ4 w4 hN hf hr
  have h9 := hv hf 0 rfl rfl
  obtain ⟨h1, h6, h7, h8⟩ := k4 hr h1 h6 h7 h8 rfl
  have Hf6 := Hf6.exn hN
  have hW := hW.trans hN
  refine WP.block (WP.loop (fun k_ ρ w => ∃ day_ : Int, ∃ ok_ : Bool, ∃ i_ : Int, ρ 1 = .int .i64 kind_ ∧ ρ 6 = v6_ ∧ ρ 7 = .int .i64 day_ ∧ ρ 8 = .bool ok_ ∧ ρ 9 = .int .i64 i_ ∧ RepSl api_Fact.R noG w v6_ z ∧ Ext noG w0 w ∧ loopC k_ (pensionref12_least_l kind_ z) (day_, ok_, i_) = some r) FU ⟨0, false, 0, h1, h6, h7, h8, h9, Hf6, hW, hF⟩ (fun _ _ h => by obtain ⟨_, _, _, _, _, _, _, _, _, _, h⟩ := h; cases h) ?_)
  rintro k_ ρ5 w5 ⟨day_, ok_, i_, h1, h6, h7, h8, h9, Hf6, hW, hF⟩
  have hF : pensionref12_least_l kind_ z (loopC k_ (pensionref12_least_l kind_ z)) (day_, ok_, i_) = some r := (loopC_succ k_ (pensionref12_least_l kind_ z) (day_, ok_, i_)).symm.trans hF
  generalize hrec_ : loopC k_ (pensionref12_least_l kind_ z) = rec_ at hF
  rw [pensionref12_least_l] at hF
  refine WP.seq (WP.seq (WP.rb mixed [[], [], [1], [0, 2]] [[9], [6], [], []] [(12, .int .i64 i_), (13, v6_), (14, .int .i64 (z.length : Int)), (15, .bool (decide (i_ < (z.length : Int))))] (by kernel_rfl) ⟨mE rfl rfl h9,
 mE rfl rfl h6,
 fun ρz wz hE hA _ ⟨u1, _⟩ => core_val rfl rfl (o_len (u1.trans hs_Hf6) len_24),
 fun ρz wz hE hA _ ⟨u0, u2, _⟩ => core_val rfl rfl (o_lss u0 u2 rfl), trivial⟩ ?_))
  intro ρ6 w6 hN hf hr
  have h15 := hv hf 3 rfl rfl
  obtain ⟨h1, h6, h7, h8, h9⟩ := k5 hr h1 h6 h7 h8 h9 rfl
  have Hf6 := Hf6.exn hN
  have hW := hW.trans hN
  refine WP.cond rfl h15 (fun hb => ?_) (fun hb => ?_)
  · have hF := (if_pos hb).symm.trans hF
    refine WP.skip (WP.seqJ (fun ρ w => ∃ day_2 : Int, ∃ ok_2 : Bool, ρ 1 = .int .i64 kind_ ∧ ρ 6 = v6_ ∧ ρ 7 = .int .i64 day_2 ∧ ρ 8 = .bool ok_2 ∧ ρ 9 = .int .i64 i_ ∧ RepSl api_Fact.R noG w v6_ z ∧ Ext noG w0 w ∧ pensionref12_least_j i_ rec_ day_2 ok_2 = some r) ?_ ?_)
    · refine WP.block (WP.seq ?_)
      obtain ⟨y, hy, hF⟩ := obind hF
      obtain ⟨ay, cy, hvy, hiy, hAy⟩ := RepSl.getF Hf6 hy
      obtain ⟨c2, hc2, hF⟩ := obind hF
      obtain ⟨c, hc, hc2⟩ := andB hc2
      obtain ⟨y2, hy2, hc⟩ := orBI hc
      obtain ⟨ay2, cy2, hvy2, hiy2, hAy2⟩ := RepSl.getFI Hf6 hy2
      have hc := orEI hc
      have hc2 := andE hc2
      refine WP.rb mixed [[], [], [0, 1], [2], [3], [], [4, 5], [6], [7], [7, 8], [7, 9], [10], [10], [10, 11, 12], [10, 13], [10, 14], [10, 15], [10], [10, 16, 17], [7, 10, 18], [7, 19]] [[6], [9], [], [], [], [1], [], [], [8], [], [], [6], [9], [], [], [], [], [7], [], [], []] [(18, v6_), (19, .int .i64 i_), (20, .pointer (some (ay.add (Int.toNat i_ * 14)))), (21, .pointer (some ((ay.add (Int.toNat i_ * 14)).add 5))), (22, .int .i64 y.Kind), (23, .int .i64 kind_), (24, .bool (y.Kind == kind_)), (25, .bool (y.Kind == kind_)), (26, gv ((y.Kind == kind_)) (.bool ok_)), (27, gv ((y.Kind == kind_)) (.bool (!ok_))), (28, gv ((y.Kind == kind_)) (.bool (!ok_))), (29, gv ((y.Kind == kind_) && !(!ok_)) v6_), (30, gv ((y.Kind == kind_) && !(!ok_)) (.int .i64 i_)), (31, gv ((y.Kind == kind_) && !(!ok_)) (.pointer (some (ay2.add (Int.toNat i_ * 14))))), (32, gv ((y.Kind == kind_) && !(!ok_)) (.pointer (some ((ay2.add (Int.toNat i_ * 14)).add 7)))), (33, gv ((y.Kind == kind_) && !(!ok_)) (.pointer (some (((ay2.add (Int.toNat i_ * 14)).add 7).add 0)))), (34, gv ((y.Kind == kind_) && !(!ok_)) (.int .i64 y2.Span.From)), (35, gv ((y.Kind == kind_) && !(!ok_)) (.int .i64 day_)), (36, gv ((y.Kind == kind_) && !(!ok_)) (.bool (decide (y2.Span.From < day_)))), (37, gv ((y.Kind == kind_)) (.bool c)), (38, .bool c2)] (by kernel_rfl) ⟨mE rfl rfl h6,
 mE rfl rfl h9,
 fun ρz wz hE hA _ ⟨u0, u1, _⟩ => core_val rfl rfl (o_indexAddr (u0.trans hvy) u1 (ia_24 hiy)),
 fun ρz wz hE hA _ ⟨u2, _⟩ => core_val rfl rfl (o_fieldAddr u2 (fa_38_5 _ _)),
 fun ρz wz hE hA _ ⟨u3, _⟩ => core_val rfl rfl (o_load u3 (run_load1 (lr_3 _ _) (CA.sub ((hAy.exn (hA rfl)).ca) 5 1))),
 mE rfl rfl h1,
 fun ρz wz hE hA _ ⟨u4, u5, _⟩ => core_val rfl rfl (o_eql u4 u5 rfl),
 mU rfl rfl rfl,
 fun ρz wz hE hA ⟨e8, _⟩ ⟨u7, _⟩ => gIf rfl rfl (yT rfl u7) fun gc F hF => core_val rfl hF (o_move (e8.trans h8)),
 fun ρz wz hE hA _ ⟨u7, u8, _⟩ => gIf rfl rfl (yT rfl u7) fun gc F hF => core_val rfl hF (o_not (gt gc u8) rfl),
 fun ρz wz hE hA _ ⟨u7, u9, _⟩ => gIf rfl rfl (yT rfl u7) fun gc F hF => core_val rfl hF (o_move (gt gc u9)),
 fun ρz wz hE hA ⟨e6, _⟩ ⟨u10, _⟩ => gIf rfl rfl (yFG rfl u10) fun gc F hF => core_val rfl hF (o_move (e6.trans h6)),
 fun ρz wz hE hA ⟨e9, _⟩ ⟨u10, _⟩ => gIf rfl rfl (yFG rfl u10) fun gc F hF => core_val rfl hF (o_move (e9.trans h9)),
 fun ρz wz hE hA _ ⟨u10, u11, u12, _⟩ => gIf rfl rfl (yFG rfl u10) fun gc F hF => core_val rfl hF (o_indexAddr ((gt gc u11).trans (hvy2 gc)) (gt gc u12) (ia_24 (hiy2 gc))),
 fun ρz wz hE hA _ ⟨u10, u13, _⟩ => gIf rfl rfl (yFG rfl u10) fun gc F hF => core_val rfl hF (o_fieldAddr (gt gc u13) (fa_38_7 _ _)),
 fun ρz wz hE hA _ ⟨u10, u14, _⟩ => gIf rfl rfl (yFG rfl u10) fun gc F hF => core_val rfl hF (o_fieldAddr (gt gc u14) (fa_36_0 _ _)),
 fun ρz wz hE hA _ ⟨u10, u15, _⟩ => gIf rfl rfl (yFG rfl u10) fun gc F hF => core_val rfl hF (o_load (gt gc u15) (run_load1 (lr_3 _ _) (CA.sub (CA.sub (((hAy2 gc).exn (hA rfl)).ca) 7 2) 0 1))),
 fun ρz wz hE hA ⟨e7, _⟩ ⟨u10, _⟩ => gIf rfl rfl (yFG rfl u10) fun gc F hF => core_val rfl hF (o_move (e7.trans h7)),
 fun ρz wz hE hA _ ⟨u10, u16, u17, _⟩ => gIf rfl rfl (yFG rfl u10) fun gc F hF => core_val rfl hF (o_lss (gt gc u16) (gt gc u17) rfl),
 fun ρz wz hE hA _ ⟨u7, u10, u18, _⟩ => gIf rfl rfl (yT rfl u7) fun gc F hF => core_valE rfl hF (congrArg Value.bool (hc gc)) (o_pick_or (gt gc u10) rfl (gr gc u18)),
 fun ρz wz hE hA _ ⟨u7, u19, _⟩ => core_valE rfl rfl (congrArg Value.bool hc2) (o_pick_and u7 u19 rfl), trivial⟩ ?_
      intro ρ9 w9 hN hf hr
      have h38 := hv hf 20 rfl rfl
      obtain ⟨h1, h6, h7, h8, h9⟩ := k5 hr h1 h6 h7 h8 h9 rfl
      have Hf6 := Hf6.exn hN
      have hW := hW.trans hN
      refine WP.cond rfl h38 (fun hb => ?_) (fun hb => ?_)
      · have hF := (if_pos hb).symm.trans hF
        obtain ⟨y3, hy3, hF⟩ := obind hF
        obtain ⟨ay3, cy3, hvy3, hiy3, hAy3⟩ := RepSl.getF Hf6 hy3
        refine WP.rb mixed [[], [], [0, 1], [2], [3], [4], [5], []] [[6], [9], [], [], [], [], [], []] [(39, v6_), (40, .int .i64 i_), (41, .pointer (some (ay3.add (Int.toNat i_ * 14)))), (42, .pointer (some ((ay3.add (Int.toNat i_ * 14)).add 7))), (43, .pointer (some (((ay3.add (Int.toNat i_ * 14)).add 7).add 0))), (44, .int .i64 y3.Span.From), (7, .int .i64 y3.Span.From), (8, .bool true)] (by kernel_rfl) ⟨mE rfl rfl h6,
 mE rfl rfl h9,
 fun ρz wz hE hA _ ⟨u0, u1, _⟩ => core_val rfl rfl (o_indexAddr (u0.trans hvy3) u1 (ia_24 hiy3)),
 fun ρz wz hE hA _ ⟨u2, _⟩ => core_val rfl rfl (o_fieldAddr u2 (fa_38_7 _ _)),
 fun ρz wz hE hA _ ⟨u3, _⟩ => core_val rfl rfl (o_fieldAddr u3 (fa_36_0 _ _)),
 fun ρz wz hE hA _ ⟨u4, _⟩ => core_val rfl rfl (o_load u4 (run_load1 (lr_3 _ _) (CA.sub (CA.sub ((hAy3.exn (hA rfl)).ca) 7 2) 0 1))),
 aU rfl rfl rfl,
 aC rfl rfl (fun _ => rfl), trivial⟩ ?_
        intro ρ10 w10 hN hf hr
        have h7 := hv hf 6 rfl rfl
        have h8 := hv hf 7 rfl rfl
        obtain ⟨h1, h6, h9⟩ := k3 hr h1 h6 h9 rfl
        have Hf6 := Hf6.exn hN
        have hW := hW.trans hN
        exact ⟨y3.Span.From, true, h1, h6, h7, h8, h9, Hf6, hW, hF⟩
      have hF := (if_neg (Bool.eq_false_iff.1 hb)).symm.trans hF
      refine WP.skip ?_
      exact ⟨day_, ok_, h1, h6, h7, h8, h9, Hf6, hW, hF⟩
    rintro ρ7 w7 ⟨day_2, ok_2, h1, h6, h7, h8, h9, Hf6, hW, hF⟩
    rw [pensionref12_least_j] at hF
    refine WP.rv mixed [[], [0], [0, 1]] [[], [0], [1]] [[9], [], []] [(16, .int .i64 i_), (17, .int .i64 (i64 (i_ + 1))), (9, .int .i64 (i64 (i_ + 1)))] (by kernel_rfl) ⟨mE rfl rfl h9,
 fun ρz wz hE hA _ ⟨u0, _⟩ => core_val rfl rfl (o_add u0 rfl rfl),
 aU rfl rfl rfl, trivial⟩ ?_
    intro ρ8 w8 hN hf hr
    have h9 := hv hf 2 rfl rfl
    obtain ⟨h1, h6, h7, h8⟩ := k4 hr h1 h6 h7 h8 rfl
    have Hf6 := Hf6.exn hN
    have hW := hW.trans hN
    exact ⟨day_2, ok_2, i64 (i_ + 1), h1, h6, h7, h8, h9, Hf6, hW, (by first | exact hF | (rw [hrec_]; exact hF))⟩
  have hF := (if_neg (Bool.eq_false_iff.1 hb)).symm.trans hF
  refine WP.exit (thenQ_exit (thenQ_exit (blockQ_hit (WP.seq (WP.rb mixed [[], [], [0], [1]] [[7], [8], [], []] [(45, .int .i64 day_), (46, .bool ok_), (4, .int .i64 day_), (5, .bool ok_)] (by kernel_rfl) ⟨mE rfl rfl h7,
 mE rfl rfl h8,
 aU rfl rfl rfl,
 aU rfl rfl rfl, trivial⟩ ?_)))))
  intro ρ11 w11 hN hf hr
  have h4 := hv hf 2 rfl rfl
  have h5 := hv hf 3 rfl rfl
  have hW := hW.trans hN
  refine WP.ret ?_
  show retQ Tryz.prog 47 Tryz.f85 (fun v w1 => v = .tuple #[.int .i64 r.1, .bool r.2] ∧ Ext noG w0 w1) .ret ρ11 w11
  obtain rfl := Option.some.inj hF
  exact res2 rfl (by decide) (by decide) h4 h5 ⟨rfl, hW⟩

set_option maxHeartbeats 4000000 in
theorem pensionref12_Death_ok {w0 : World} (l_ : List api_Fact) {v_l_ : Value} (H_l_ : RepSl api_Fact.R noG w0 v_l_ l_) {r : Int × Bool} (hF : pensionref12_Death l_ = some r) :
    Calls Tryz.prog 53 #[v_l_] w0 fun e w1 => e = .returned (.tuple #[.int .i64 r.1, .bool r.2]) ∧ Ext noG w0 w1 := by
  refine (Calls.start (P := Tryz.prog) (args := [v_l_]) (R := fun v w1 => v = .tuple #[.int .i64 r.1, .bool r.2] ∧ Ext noG w0 w1) (n := 8) (w := w0) Tryz.func53 rfl rfl (Nat.le_of_ble_eq_true rfl) (fun ρ hargs => ?_)).mono (fun e w1 ⟨v, he, hv, hE⟩ => ⟨hv ▸ he, hE⟩)
  have h0 := hargs 0 _ rfl
  have hW := Ext.refl noG w0
  obtain ⟨_, _, hs_H_l_, _, _⟩ := RepSl.shape H_l_
  have H_l_ := H_l_.start
  rw [pensionref12_Death] at hF
  refine WP.seq (WP.rb mixed [[], []] [[], []] [(2, .int .i64 0), (3, .bool false)] (by kernel_rfl) ⟨aC rfl rfl (fun _ => rfl),
 aC rfl rfl (fun _ => rfl), trivial⟩ ?_)
  intro ρ1 w1 hN hf hr
  have h0 := (hr 0 rfl).trans h0
  have H_l_ := H_l_.exn hN
  have hW := hW.trans hN
  refine WP.seq ?_
  obtain ⟨z, hz, hF⟩ := obind hF
  refine WP.rb mixed [[], [0], [1], [1], [2], [3]] [[0], [], [], [], [], []] [(4, v_l_), (5, .tuple #[.int .i64 z.1, .bool z.2]), (6, .int .i64 z.1), (7, .bool z.2), (2, .int .i64 z.1), (3, .bool z.2)] (by kernel_rfl) ⟨mE rfl rfl h0,
 fun ρz wz hE hA _ ⟨u0, _⟩ => core_call rfl (call_args2 u0 rfl) cf_85 (pensionref12_least_ok  _ _ (H_l_.exn (hA rfl)).no hz),
 fun ρz wz hE hA _ ⟨u1, _⟩ => core_val rfl rfl (o_extract u1 (by kernel_rfl)),
 fun ρz wz hE hA _ ⟨u1, _⟩ => core_val rfl rfl (o_extract u1 (by kernel_rfl)),
 aU rfl rfl rfl,
 aU rfl rfl rfl, trivial⟩ ?_
  intro ρ2 w2 hN hf hr
  have h2 := hv hf 4 rfl rfl
  have h3 := hv hf 5 rfl rfl
  have hW := hW.trans hN
  refine WP.ret ?_
  show retQ Tryz.prog 8 Tryz.f53 (fun v w1 => v = .tuple #[.int .i64 r.1, .bool r.2] ∧ Ext noG w0 w1) .ret ρ2 w2
  obtain rfl := Option.some.inj hF
  exact res2 rfl (by decide) (by decide) h2 h3 ⟨rfl, hW⟩

set_option maxHeartbeats 4000000 in
theorem pensionref21_Alive_ok {w0 : World} (l_ : List api_Fact) (person_ : Int) (day_ : Int) {v_l_ : Value} (H_l_ : RepSl api_Fact.R noG w0 v_l_ l_) {r : Bool} (hF : pensionref21_Alive l_ person_ day_ = some r) :
    Calls Tryz.prog 25 #[v_l_, .int .i64 person_, .int .i64 day_] w0 fun e w1 => e = .returned (.bool r) ∧ Ext noG w0 w1 := by
  refine (Calls.start (P := Tryz.prog) (args := [v_l_, .int .i64 person_, .int .i64 day_]) (R := fun v w1 => v = .bool r ∧ Ext noG w0 w1) (n := 23) (w := w0) Tryz.func25 rfl rfl (Nat.le_of_ble_eq_true rfl) (fun ρ hargs => ?_)).mono (fun e w1 ⟨v, he, hv, hE⟩ => ⟨hv ▸ he, hE⟩)
  have h0 := hargs 0 _ rfl
  have h1 := hargs 1 _ rfl
  have h2 := hargs 2 _ rfl
  have hW := Ext.refl noG w0
  obtain ⟨_, _, hs_H_l_, _, _⟩ := RepSl.shape H_l_
  have H_l_ := H_l_.start
  rw [pensionref21_Alive] at hF
  refine WP.seq (WP.rb mixed [[]] [[]] [(6, .bool false)] (by kernel_rfl) ⟨aC rfl rfl (fun _ => rfl), trivial⟩ ?_)
  intro ρ1 w1 hN hf hr
  obtain ⟨h0, h1, h2⟩ := k3 hr h0 h1 h2 rfl
  have H_l_ := H_l_.exn hN
  have hW := hW.trans hN
  refine WP.seq ?_
  obtain ⟨z, hz, hF⟩ := obind hF
  obtain ⟨z2, hz2, hF⟩ := obind hF
  refine WP.rg mixed [[], [], [0, 1], [2], [3], [4], [4], [5], [6]] [[], [], [0, 1], [2], [3], [4], [4], [5], [6]] [[0], [1], [], [], [], [], [], [], []] [val 10 (v_l_), val 11 (.int .i64 person_), (12, fun u wz => Own w0.heap.size 38 14 api_Fact.cells wz u z ∧ ∀ b, u.ownBlock = some b → w1.heap.size ≤ b), val 13 (.tuple #[.int .i64 z2.1, .bool z2.2]), val 9 (.tuple #[.int .i64 z2.1, .bool z2.2]), val 14 (.int .i64 z2.1), val 15 (.bool z2.2), val 7 (.int .i64 z2.1), val 8 (.bool z2.2)] (by kernel_rfl) ⟨sV, sV, fun _ _ _ hE ⟨hO, hf⟩ => ⟨hO.exn hE, hf⟩, sV, sV, sV, sV, sV, sV, trivial⟩ ⟨mE rfl rfl h0,
 mE rfl rfl h1,
 fun ρz wz hE hA _ ⟨u0, u1, _⟩ => core_callR rfl (call_args2 u0 u1) cf_20 ((pensionref12_Of_ok  _ _ (H_l_.exn (hA rfl)).no hz).mono (fun e w1 ⟨v, he, hE1, hO⟩ => ⟨v, he, hE1, hO.base (Nat.le_trans hW.size hE.size), fun b hb => Nat.le_trans hE.size (hO.lt hb).1⟩)),
 fun ρz wz hE hA _ ⟨⟨hO2, hfr2⟩, _⟩ => core_call rfl (call_args1 rfl) cf_53 (pensionref12_Death_ok  _ (hO2.rep (hn := fun _ => rfl) (G := noG) (fun _ _ h => h)).no hz2),
 mU rfl rfl rfl,
 fun ρz wz hE hA _ ⟨u4, _⟩ => core_val rfl rfl (o_extract u4 (by kernel_rfl)),
 fun ρz wz hE hA _ ⟨u4, _⟩ => core_val rfl rfl (o_extract u4 (by kernel_rfl)),
 aU rfl rfl rfl,
 aU rfl rfl rfl, trivial⟩ ?_
  intro ρ2 w2 hN hf hr
  have h7 : ρ2 7 = .int .i64 z2.1 := hf 7 rfl
  have h8 : ρ2 8 = .bool z2.2 := hf 8 rfl
  have h2 := (hr 2 rfl).trans h2
  have hW := hW.trans hN
  refine WP.seq (WP.rb mixed [[], [0], [1], [2], [2], [2, 3, 4], [2, 5], [6]] [[8], [], [], [7], [2], [], [], []] [(16, .bool z2.2), (17, .bool (!z2.2)), (18, .bool (!z2.2)), (19, gv (!(!z2.2)) (.int .i64 z2.1)), (20, gv (!(!z2.2)) (.int .i64 day_)), (21, gv (!(!z2.2)) (.bool (decide (day_ ≤ z2.1)))), (22, .bool ((!z2.2) || decide (day_ ≤ z2.1))), (6, .bool ((!z2.2) || decide (day_ ≤ z2.1)))] (by kernel_rfl) ⟨mE rfl rfl h8,
 fun ρz wz hE hA _ ⟨u0, _⟩ => core_val rfl rfl (o_not u0 rfl),
 mU rfl rfl rfl,
 fun ρz wz hE hA ⟨e7, _⟩ ⟨u2, _⟩ => gIf rfl rfl (yF rfl u2) fun gc F hF => core_val rfl hF (o_move (e7.trans h7)),
 fun ρz wz hE hA ⟨e2, _⟩ ⟨u2, _⟩ => gIf rfl rfl (yF rfl u2) fun gc F hF => core_val rfl hF (o_move (e2.trans h2)),
 fun ρz wz hE hA _ ⟨u2, u3, u4, _⟩ => gIf rfl rfl (yF rfl u2) fun gc F hF => core_val rfl hF (o_geq (gt gc u3) (gt gc u4) rfl),
 fun ρz wz hE hA _ ⟨u2, u5, _⟩ => core_val rfl rfl (o_pick_or u2 rfl u5),
 aU rfl rfl rfl, trivial⟩ ?_)
  intro ρ3 w3 hN hf hr
  have h6 := hv hf 7 rfl rfl
  have hW := hW.trans hN
  refine WP.ret ?_
  show retQ Tryz.prog 23 Tryz.f25 (fun v w1 => v = .bool r ∧ Ext noG w0 w1) .ret ρ3 w3
  obtain rfl := Option.some.inj hF
  exact res1 rfl (by decide) h6 ⟨rfl, hW⟩

set_option maxHeartbeats 4000000 in
theorem pensionref21_raises_ok {w0 : World} (l_ : List api_Fact) (person_ : Int) (child_ : Int) (day_ : Int) {v_l_ : Value} (H_l_ : RepSl api_Fact.R noG w0 v_l_ l_) {r : Bool} (hF : pensionref21_raises l_ person_ child_ day_ = some r) :
    Calls Tryz.prog 26 #[v_l_, .int .i64 person_, .int .i64 child_, .int .i64 day_] w0 fun e w1 => e = .returned (.bool r) ∧ Ext noG w0 w1 := by
  refine (Calls.start (P := Tryz.prog) (args := [v_l_, .int .i64 person_, .int .i64 child_, .int .i64 day_]) (R := fun v w1 => v = .bool r ∧ Ext noG w0 w1) (n := 60) (w := w0) Tryz.func26 rfl rfl (Nat.le_of_ble_eq_true rfl) (fun ρ hargs => ?_)).mono (fun e w1 ⟨v, he, hv, hE⟩ => ⟨hv ▸ he, hE⟩)
  have h0 := hargs 0 _ rfl
  have h1 := hargs 1 _ rfl
  have h2 := hargs 2 _ rfl
  have h3 := hargs 3 _ rfl
  have hW := Ext.refl noG w0
  obtain ⟨_, _, hs_H_l_, _, _⟩ := RepSl.shape H_l_
  have H_l_ := H_l_.start
  rw [pensionref21_raises] at hF
  refine WP.seq (WP.rb mixed [[]] [[]] [(8, .bool false)] (by kernel_rfl) ⟨aC rfl rfl (fun _ => rfl), trivial⟩ ?_)
  intro ρ1 w1 hN hf hr
  obtain ⟨h0, h1, h2, h3⟩ := k4 hr h0 h1 h2 h3 rfl
  have H_l_ := H_l_.exn hN
  have hW := hW.trans hN
  refine WP.seq (WP.seq (WP.rb mixed [[]] [[]] [(9, .int .i64 0)] (by kernel_rfl) ⟨aC rfl rfl (fun _ => rfl), trivial⟩ ?_))
  intro ρ2 w2 hN hf hr
  have h9 := hv hf 0 rfl rfl
  obtain ⟨h0, h1, h2, h3⟩ := k4 hr h0 h1 h2 h3 rfl
  have H_l_ := H_l_.exn hN
  have hW := hW.trans hN
  refine WP.block (WP.loop (fun k_ ρ w => ∃ i_ : Int, ρ 0 = v_l_ ∧ ρ 1 = .int .i64 person_ ∧ ρ 2 = .int .i64 child_ ∧ ρ 3 = .int .i64 day_ ∧ ρ 9 = .int .i64 i_ ∧ RepSl api_Fact.R (gfr noG w0) w v_l_ l_ ∧ Ext noG w0 w ∧ loopC k_ (pensionref21_raises_l l_ person_ child_ day_) i_ = some r) FU ⟨0, h0, h1, h2, h3, h9, H_l_, hW, hF⟩ (fun _ _ h => by obtain ⟨_, _, _, _, _, _, _, _, h⟩ := h; cases h) ?_)
  rintro k_ ρ3 w3 ⟨i_, h0, h1, h2, h3, h9, H_l_, hW, hF⟩
  have hF : pensionref21_raises_l l_ person_ child_ day_ (loopC k_ (pensionref21_raises_l l_ person_ child_ day_)) i_ = some r := (loopC_succ k_ (pensionref21_raises_l l_ person_ child_ day_) i_).symm.trans hF
  generalize hrec_ : loopC k_ (pensionref21_raises_l l_ person_ child_ day_) = rec_ at hF
  rw [pensionref21_raises_l] at hF
  refine WP.seq (WP.seq (WP.rb mixed [[], [], [1], [0, 2]] [[9], [0], [], []] [(10, .int .i64 i_), (11, v_l_), (12, .int .i64 (l_.length : Int)), (13, .bool (decide (i_ < (l_.length : Int))))] (by kernel_rfl) ⟨mE rfl rfl h9,
 mE rfl rfl h0,
 fun ρz wz hE hA _ ⟨u1, _⟩ => core_val rfl rfl (o_len (u1.trans hs_H_l_) len_24),
 fun ρz wz hE hA _ ⟨u0, u2, _⟩ => core_val rfl rfl (o_lss u0 u2 rfl), trivial⟩ ?_))
  intro ρ4 w4 hN hf hr
  have h13 := hv hf 3 rfl rfl
  obtain ⟨h0, h1, h2, h3, h9⟩ := k5 hr h0 h1 h2 h3 h9 rfl
  have H_l_ := H_l_.exn hN
  have hW := hW.trans hN
  refine WP.cond rfl h13 (fun hb => ?_) (fun hb => ?_)
  · have hF := (if_pos hb).symm.trans hF
    refine WP.skip (WP.seq (WP.block (WP.seq ?_)))
    obtain ⟨y, hy, hF⟩ := obind hF
    obtain ⟨ay, cy, hvy, hiy, hAy⟩ := RepSl.getF H_l_ hy
    obtain ⟨c, hc, hF⟩ := obind hF
    obtain ⟨y2, hy2, hc⟩ := andB hc
    obtain ⟨ay2, cy2, hvy2, hiy2, hAy2⟩ := RepSl.getFI H_l_ hy2
    have hc := andE hc
    obtain ⟨c2, hc2, hF⟩ := obind hF
    obtain ⟨y3, hy3, hc2⟩ := andB hc2
    obtain ⟨ay3, cy3, hvy3, hiy3, hAy3⟩ := RepSl.getFI H_l_ hy3
    have hc2 := andE hc2
    obtain ⟨c3, hc3, hF⟩ := obind hF
    obtain ⟨y4, hy4, hc3⟩ := andB hc3
    obtain ⟨ay4, cy4, hvy4, hiy4, hAy4⟩ := RepSl.getFI H_l_ hy4
    have hc3 := andE hc3
    obtain ⟨c4, hc4, hF⟩ := obind hF
    obtain ⟨y5, hy5, hc4⟩ := andB hc4
    obtain ⟨ay5, cy5, hvy5, hiy5, hAy5⟩ := RepSl.getFI H_l_ hy5
    have hc4 := andE hc4
    refine WP.rb mixed [[], [], [0, 1], [2], [3], [], [4, 5], [6], [7], [7], [7, 8, 9], [7, 10], [7, 11], [7, 12], [7, 13], [14], [15], [15], [15, 16, 17], [15, 18], [15, 19], [15], [15, 20, 21], [15, 22], [23], [24], [24], [24, 25, 26], [24, 27], [24, 28], [24, 29], [24], [24, 30, 31], [24, 32], [33], [34], [34], [34], [34, 36, 37], [34, 38], [34, 39], [34, 40], [34, 35, 41], [34, 42]] [[0], [9], [], [], [], [1], [], [], [0], [9], [], [], [], [], [], [], [0], [9], [], [], [], [2], [], [], [], [0], [9], [], [], [], [], [3], [], [], [], [3], [0], [9], [], [], [], [], [], []] [(16, v_l_), (17, .int .i64 i_), (18, .pointer (some (ay.add (Int.toNat i_ * 14)))), (19, .pointer (some ((ay.add (Int.toNat i_ * 14)).add 4))), (20, .int .i64 y.Person), (21, .int .i64 person_), (22, .bool (y.Person == person_)), (23, .bool (y.Person == person_)), (24, gv ((y.Person == person_)) v_l_), (25, gv ((y.Person == person_)) (.int .i64 i_)), (26, gv ((y.Person == person_)) (.pointer (some (ay2.add (Int.toNat i_ * 14))))), (27, gv ((y.Person == person_)) (.pointer (some ((ay2.add (Int.toNat i_ * 14)).add 5)))), (28, gv ((y.Person == person_)) (.int .i64 y2.Kind)), (29, gv ((y.Person == person_)) (.bool (y2.Kind == 10))), (30, .bool c), (31, .bool c), (32, gv (c) v_l_), (33, gv (c) (.int .i64 i_)), (34, gv (c) (.pointer (some (ay3.add (Int.toNat i_ * 14))))), (35, gv (c) (.pointer (some ((ay3.add (Int.toNat i_ * 14)).add 13)))), (36, gv (c) (.int .i64 y3.Ref)), (37, gv (c) (.int .i64 child_)), (38, gv (c) (.bool (y3.Ref == child_))), (39, .bool c2), (40, .bool c2), (41, gv (c2) v_l_), (42, gv (c2) (.int .i64 i_)), (43, gv (c2) (.pointer (some (ay4.add (Int.toNat i_ * 14))))), (44, gv (c2) (.pointer (some ((ay4.add (Int.toNat i_ * 14)).add 7)))), (45, gv (c2) (.pointer (some (((ay4.add (Int.toNat i_ * 14)).add 7).add 0)))), (46, gv (c2) (.int .i64 y4.Span.From)), (47, gv (c2) (.int .i64 day_)), (48, gv (c2) (.bool (decide (y4.Span.From ≤ day_)))), (49, .bool c3), (50, .bool c3), (51, gv (c3) (.int .i64 day_)), (52, gv (c3) v_l_), (53, gv (c3) (.int .i64 i_)), (54, gv (c3) (.pointer (some (ay5.add (Int.toNat i_ * 14))))), (55, gv (c3) (.pointer (some ((ay5.add (Int.toNat i_ * 14)).add 7)))), (56, gv (c3) (.pointer (some (((ay5.add (Int.toNat i_ * 14)).add 7).add 1)))), (57, gv (c3) (.int .i64 y5.Span.To)), (58, gv (c3) (.bool (decide (day_ < y5.Span.To)))), (59, .bool c4)] (by kernel_rfl) ⟨mE rfl rfl h0,
 mE rfl rfl h9,
 fun ρz wz hE hA _ ⟨u0, u1, _⟩ => core_val rfl rfl (o_indexAddr (u0.trans hvy) u1 (ia_24 hiy)),
 fun ρz wz hE hA _ ⟨u2, _⟩ => core_val rfl rfl (o_fieldAddr u2 (fa_38_4 _ _)),
 fun ρz wz hE hA _ ⟨u3, _⟩ => core_val rfl rfl (o_load u3 (run_load1 (lr_3 _ _) (CA.sub ((hAy.exn (hA rfl)).ca) 4 1))),
 mE rfl rfl h1,
 fun ρz wz hE hA _ ⟨u4, u5, _⟩ => core_val rfl rfl (o_eql u4 u5 rfl),
 mU rfl rfl rfl,
 fun ρz wz hE hA ⟨e0, _⟩ ⟨u7, _⟩ => gIf rfl rfl (yT rfl u7) fun gc F hF => core_val rfl hF (o_move (e0.trans h0)),
 fun ρz wz hE hA ⟨e9, _⟩ ⟨u7, _⟩ => gIf rfl rfl (yT rfl u7) fun gc F hF => core_val rfl hF (o_move (e9.trans h9)),
 fun ρz wz hE hA _ ⟨u7, u8, u9, _⟩ => gIf rfl rfl (yT rfl u7) fun gc F hF => core_val rfl hF (o_indexAddr ((gt gc u8).trans (hvy2 gc)) (gt gc u9) (ia_24 (hiy2 gc))),
 fun ρz wz hE hA _ ⟨u7, u10, _⟩ => gIf rfl rfl (yT rfl u7) fun gc F hF => core_val rfl hF (o_fieldAddr (gt gc u10) (fa_38_5 _ _)),
 fun ρz wz hE hA _ ⟨u7, u11, _⟩ => gIf rfl rfl (yT rfl u7) fun gc F hF => core_val rfl hF (o_load (gt gc u11) (run_load1 (lr_3 _ _) (CA.sub (((hAy2 gc).exn (hA rfl)).ca) 5 1))),
 fun ρz wz hE hA _ ⟨u7, u12, _⟩ => gIf rfl rfl (yT rfl u7) fun gc F hF => core_val rfl hF (o_eql (gt gc u12) rfl rfl),
 fun ρz wz hE hA _ ⟨u7, u13, _⟩ => core_valE rfl rfl (congrArg Value.bool hc) (o_pick_and u7 u13 rfl),
 mU rfl rfl rfl,
 fun ρz wz hE hA ⟨e0, _⟩ ⟨u15, _⟩ => gIf rfl rfl (yT rfl u15) fun gc F hF => core_val rfl hF (o_move (e0.trans h0)),
 fun ρz wz hE hA ⟨e9, _⟩ ⟨u15, _⟩ => gIf rfl rfl (yT rfl u15) fun gc F hF => core_val rfl hF (o_move (e9.trans h9)),
 fun ρz wz hE hA _ ⟨u15, u16, u17, _⟩ => gIf rfl rfl (yT rfl u15) fun gc F hF => core_val rfl hF (o_indexAddr ((gt gc u16).trans (hvy3 gc)) (gt gc u17) (ia_24 (hiy3 gc))),
 fun ρz wz hE hA _ ⟨u15, u18, _⟩ => gIf rfl rfl (yT rfl u15) fun gc F hF => core_val rfl hF (o_fieldAddr (gt gc u18) (fa_38_12 _ _)),
 fun ρz wz hE hA _ ⟨u15, u19, _⟩ => gIf rfl rfl (yT rfl u15) fun gc F hF => core_val rfl hF (o_load (gt gc u19) (run_load1 (lr_3 _ _) (CA.sub (((hAy3 gc).exn (hA rfl)).ca) 13 1))),
 fun ρz wz hE hA ⟨e2, _⟩ ⟨u15, _⟩ => gIf rfl rfl (yT rfl u15) fun gc F hF => core_val rfl hF (o_move (e2.trans h2)),
 fun ρz wz hE hA _ ⟨u15, u20, u21, _⟩ => gIf rfl rfl (yT rfl u15) fun gc F hF => core_val rfl hF (o_eql (gt gc u20) (gt gc u21) rfl),
 fun ρz wz hE hA _ ⟨u15, u22, _⟩ => core_valE rfl rfl (congrArg Value.bool hc2) (o_pick_and u15 u22 rfl),
 mU rfl rfl rfl,
 fun ρz wz hE hA ⟨e0, _⟩ ⟨u24, _⟩ => gIf rfl rfl (yT rfl u24) fun gc F hF => core_val rfl hF (o_move (e0.trans h0)),
 fun ρz wz hE hA ⟨e9, _⟩ ⟨u24, _⟩ => gIf rfl rfl (yT rfl u24) fun gc F hF => core_val rfl hF (o_move (e9.trans h9)),
 fun ρz wz hE hA _ ⟨u24, u25, u26, _⟩ => gIf rfl rfl (yT rfl u24) fun gc F hF => core_val rfl hF (o_indexAddr ((gt gc u25).trans (hvy4 gc)) (gt gc u26) (ia_24 (hiy4 gc))),
 fun ρz wz hE hA _ ⟨u24, u27, _⟩ => gIf rfl rfl (yT rfl u24) fun gc F hF => core_val rfl hF (o_fieldAddr (gt gc u27) (fa_38_7 _ _)),
 fun ρz wz hE hA _ ⟨u24, u28, _⟩ => gIf rfl rfl (yT rfl u24) fun gc F hF => core_val rfl hF (o_fieldAddr (gt gc u28) (fa_36_0 _ _)),
 fun ρz wz hE hA _ ⟨u24, u29, _⟩ => gIf rfl rfl (yT rfl u24) fun gc F hF => core_val rfl hF (o_load (gt gc u29) (run_load1 (lr_3 _ _) (CA.sub (CA.sub (((hAy4 gc).exn (hA rfl)).ca) 7 2) 0 1))),
 fun ρz wz hE hA ⟨e3, _⟩ ⟨u24, _⟩ => gIf rfl rfl (yT rfl u24) fun gc F hF => core_val rfl hF (o_move (e3.trans h3)),
 fun ρz wz hE hA _ ⟨u24, u30, u31, _⟩ => gIf rfl rfl (yT rfl u24) fun gc F hF => core_val rfl hF (o_leq (gt gc u30) (gt gc u31) rfl),
 fun ρz wz hE hA _ ⟨u24, u32, _⟩ => core_valE rfl rfl (congrArg Value.bool hc3) (o_pick_and u24 u32 rfl),
 mU rfl rfl rfl,
 fun ρz wz hE hA ⟨e3, _⟩ ⟨u34, _⟩ => gIf rfl rfl (yT rfl u34) fun gc F hF => core_val rfl hF (o_move (e3.trans h3)),
 fun ρz wz hE hA ⟨e0, _⟩ ⟨u34, _⟩ => gIf rfl rfl (yT rfl u34) fun gc F hF => core_val rfl hF (o_move (e0.trans h0)),
 fun ρz wz hE hA ⟨e9, _⟩ ⟨u34, _⟩ => gIf rfl rfl (yT rfl u34) fun gc F hF => core_val rfl hF (o_move (e9.trans h9)),
 fun ρz wz hE hA _ ⟨u34, u36, u37, _⟩ => gIf rfl rfl (yT rfl u34) fun gc F hF => core_val rfl hF (o_indexAddr ((gt gc u36).trans (hvy5 gc)) (gt gc u37) (ia_24 (hiy5 gc))),
 fun ρz wz hE hA _ ⟨u34, u38, _⟩ => gIf rfl rfl (yT rfl u34) fun gc F hF => core_val rfl hF (o_fieldAddr (gt gc u38) (fa_38_7 _ _)),
 fun ρz wz hE hA _ ⟨u34, u39, _⟩ => gIf rfl rfl (yT rfl u34) fun gc F hF => core_val rfl hF (o_fieldAddr (gt gc u39) (fa_36_1 _ _)),
 fun ρz wz hE hA _ ⟨u34, u40, _⟩ => gIf rfl rfl (yT rfl u34) fun gc F hF => core_val rfl hF (o_load (gt gc u40) (run_load1 (lr_3 _ _) (CA.sub (CA.sub (((hAy5 gc).exn (hA rfl)).ca) 7 2) 1 1))),
 fun ρz wz hE hA _ ⟨u34, u35, u41, _⟩ => gIf rfl rfl (yT rfl u34) fun gc F hF => core_val rfl hF (o_lss (gt gc u35) (gt gc u41) rfl),
 fun ρz wz hE hA _ ⟨u34, u42, _⟩ => core_valE rfl rfl (congrArg Value.bool hc4) (o_pick_and u34 u42 rfl), trivial⟩ ?_
    intro ρ5 w5 hN hf hr
    have h59 := hv hf 43 rfl rfl
    obtain ⟨h0, h1, h2, h3, h9⟩ := k5 hr h0 h1 h2 h3 h9 rfl
    have H_l_ := H_l_.exn hN
    have hW := hW.trans hN
    refine WP.cond rfl h59 (fun hb => ?_) (fun hb => ?_)
    · have hF := (if_pos hb).symm.trans hF
      refine WP.seq (WP.rb mixed [[]] [[]] [(8, .bool true)] (by kernel_rfl) ⟨aC rfl rfl (fun _ => rfl), trivial⟩ ?_)
      intro ρ6 w6 hN hf hr
      have h8 := hv hf 0 rfl rfl
      have hW := hW.trans hN
      refine WP.ret ?_
      show retQ Tryz.prog 60 Tryz.f26 (fun v w1 => v = .bool r ∧ Ext noG w0 w1) .ret ρ6 w6
      obtain rfl := Option.some.inj hF
      exact res1 rfl (by decide) h8 ⟨rfl, hW⟩
    have hF := (if_neg (Bool.eq_false_iff.1 hb)).symm.trans hF
    refine WP.skip (WP.rv mixed [[], [0], [0, 1]] [[], [0], [1]] [[9], [], []] [(14, .int .i64 i_), (15, .int .i64 (i64 (i_ + 1))), (9, .int .i64 (i64 (i_ + 1)))] (by kernel_rfl) ⟨mE rfl rfl h9,
 fun ρz wz hE hA _ ⟨u0, _⟩ => core_val rfl rfl (o_add u0 rfl rfl),
 aU rfl rfl rfl, trivial⟩ ?_)
    intro ρ7 w7 hN hf hr
    have h9 := hv hf 2 rfl rfl
    obtain ⟨h0, h1, h2, h3⟩ := k4 hr h0 h1 h2 h3 rfl
    have H_l_ := H_l_.exn hN
    have hW := hW.trans hN
    exact ⟨i64 (i_ + 1), h0, h1, h2, h3, h9, H_l_, hW, (by first | exact hF | (rw [hrec_]; exact hF))⟩
  have hF := (if_neg (Bool.eq_false_iff.1 hb)).symm.trans hF
  refine WP.exit (thenQ_exit (thenQ_exit (blockQ_hit (WP.seq (WP.rb mixed [[]] [[]] [(8, .bool false)] (by kernel_rfl) ⟨aC rfl rfl (fun _ => rfl), trivial⟩ ?_)))))
  intro ρ8 w8 hN hf hr
  have h8 := hv hf 0 rfl rfl
  have hW := hW.trans hN
  refine WP.ret ?_
  show retQ Tryz.prog 60 Tryz.f26 (fun v w1 => v = .bool r ∧ Ext noG w0 w1) .ret ρ8 w8
  obtain rfl := Option.some.inj hF
  exact res1 rfl (by decide) h8 ⟨rfl, hW⟩

set_option maxHeartbeats 4000000 in
theorem pensionref21_Parents_ok {w0 : World} (list_ : List api_Fact) (child_ : Int) (day_ : Int) {v_list_ : Value} (H_list_ : RepSl api_Fact.R noG w0 v_list_ list_) {r : (List Int)} (hF : pensionref21_Parents list_ child_ day_ = some r) :
    Calls Tryz.prog 12 #[v_list_, .int .i64 child_, .int .i64 day_] w0 fun e w1 => ∃ v, e = .returned v ∧ Ext noG w0 w1 ∧ Own w0.heap.size 3 1 (fun x : Int => [Value.int .i64 x]) w1 v r := by
  refine (Calls.start (P := Tryz.prog) (args := [v_list_, .int .i64 child_, .int .i64 day_]) (R := fun v w1 => Own w0.heap.size 3 1 (fun x : Int => [Value.int .i64 x]) w1 v r ∧ Ext noG w0 w1) (n := 55) (w := w0) Tryz.func12 rfl rfl (Nat.le_of_ble_eq_true rfl) (fun ρ hargs => ?_)).mono (fun e w1 ⟨v, he, hv, hE⟩ => ⟨v, he, hE, hv⟩)
  have h0 := hargs 0 _ rfl
  have h1 := hargs 1 _ rfl
  have h2 := hargs 2 _ rfl
  have hW := Ext.refl noG w0
  obtain ⟨_, _, hs_H_list_, _, _⟩ := RepSl.shape H_list_
  have H_list_ := H_list_.start
  rw [pensionref21_Parents] at hF
  refine WP.seq (WP.rb mixed [[]] [[]] [(6, .slice none 0 0)] (by kernel_rfl) ⟨aC rfl rfl (fun _ => rfl), trivial⟩ ?_)
  intro ρ1 w1 hN hf hr
  obtain ⟨h0, h1, h2⟩ := k3 hr h0 h1 h2 rfl
  have H_list_ := H_list_.exn hN
  have hW := hW.trans hN
  refine WP.seq ?_
  obtain ⟨z, hz, hF⟩ := obind hF
  refine WP.rg mixed [[], [0], [1]] [[], [0], [1]] [[0], [], []] [val 10 (v_list_), (11, fun u wz => Own w0.heap.size 38 14 api_Fact.cells wz u z ∧ ∀ b, u.ownBlock = some b → w1.heap.size ≤ b), (7, fun u wz => Own w0.heap.size 38 14 api_Fact.cells wz u z ∧ ∀ b, u.ownBlock = some b → w1.heap.size ≤ b)] (by kernel_rfl) ⟨sV, fun _ _ _ hE ⟨hO, hf⟩ => ⟨hO.exn hE, hf⟩, fun _ _ _ hE ⟨hO, hf⟩ => ⟨hO.exn hE, hf⟩, trivial⟩ ⟨mE rfl rfl h0,
 fun ρz wz hE hA _ ⟨u0, _⟩ => core_callR rfl (call_args1 u0) cf_21 ((pensionref21_facts_ok  _ (H_list_.exn (hA rfl)).no hz).mono (fun e w1 ⟨v, he, hE1, hO⟩ => ⟨v, he, hE1, hO.base (Nat.le_trans hW.size hE.size), fun b hb => Nat.le_trans hE.size (hO.lt hb).1⟩)),
 fun ρz wz hE hA _ ⟨⟨hO1, hfr1⟩, _⟩ => core_copy rfl rfl (o_assign rfl) ⟨hO1, hfr1⟩, trivial⟩ ?_
  intro ρ2 w2 hN hf hr
  obtain ⟨v7_, h7⟩ : ∃ v, ρ2 7 = v := ⟨_, rfl⟩
  have hq7 : (fun u wz => Own w0.heap.size 38 14 api_Fact.cells wz u z ∧ ∀ b, u.ownBlock = some b → w1.heap.size ≤ b) (ρ2 7) w2 := hf 2 rfl
  rw [h7] at hq7
  obtain ⟨hq7, hfr7⟩ := hq7
  obtain ⟨h1, h2⟩ := k2 hr h1 h2 rfl
  have hW := hW.trans hN
  have Hf7 : RepSl api_Fact.R noG w2 v7_ z := hq7.rep (fun _ _ h => h)
  obtain ⟨_, _, hs_Hf7, _, _⟩ := RepSl.shape Hf7
  refine WP.seq (WP.seq ?_)
  obtain ⟨c, hc, hF⟩ := obind hF
  obtain ⟨z2, hz2, hc⟩ := orB hc
  have hc := orE hc
  obtain ⟨c2, hc2, hF⟩ := obind hF
  obtain ⟨z3, hz3, hc2⟩ := orB hc2
  have hc2 := orE hc2
  refine WP.rb mixed [[], [0], [1], [2], [2, 3], [2, 4], [5], [6], [6, 7], [6, 8], [6, 9], [10], [11], [11], [11], [11, 12, 13, 14], [11, 15], [11, 16]] [[1], [], [], [1], [], [], [], [2], [], [], [], [], [7], [1], [2], [], [], []] [(12, .int .i64 child_), (13, .bool (decide (child_ < 1))), (14, .bool (decide (child_ < 1))), (15, gv (!(decide (child_ < 1))) (.int .i64 child_)), (16, gv (!(decide (child_ < 1))) (.bool (decide (99 < child_)))), (17, .bool (decide (child_ < 1) || decide (99 < child_))), (18, .bool (decide (child_ < 1) || decide (99 < child_))), (19, gv (!(decide (child_ < 1) || decide (99 < child_))) (.int .i64 day_)), (20, gv (!(decide (child_ < 1) || decide (99 < child_))) (.bool z2)), (21, gv (!(decide (child_ < 1) || decide (99 < child_))) (.bool (!z2))), (22, .bool c), (23, .bool c), (24, gv (!c) v7_), (25, gv (!c) (.int .i64 child_)), (26, gv (!c) (.int .i64 day_)), (27, gv (!c) (.bool z3)), (28, gv (!c) (.bool (!z3))), (29, .bool c2)] (by kernel_rfl) ⟨mE rfl rfl h1,
 fun ρz wz hE hA _ ⟨u0, _⟩ => core_val rfl rfl (o_lss u0 rfl rfl),
 mU rfl rfl rfl,
 fun ρz wz hE hA ⟨e1, _⟩ ⟨u2, _⟩ => gIf rfl rfl (yF rfl u2) fun gc F hF => core_val rfl hF (o_move (e1.trans h1)),
 fun ρz wz hE hA _ ⟨u2, u3, _⟩ => gIf rfl rfl (yF rfl u2) fun gc F hF => core_val rfl hF (o_gtr (gt gc u3) rfl rfl),
 fun ρz wz hE hA _ ⟨u2, u4, _⟩ => core_val rfl rfl (o_pick_or u2 rfl u4),
 mU rfl rfl rfl,
 fun ρz wz hE hA ⟨e2, _⟩ ⟨u6, _⟩ => gIf rfl rfl (yF rfl u6) fun gc F hF => core_val rfl hF (o_move (e2.trans h2)),
 fun ρz wz hE hA _ ⟨u6, u7, _⟩ => gIf rfl rfl (yF rfl u6) fun gc F hF => core_call hF (call_args1 (gt gc u7)) cf_24 (pensionref1_ValidDay_ok  _  (hz2 gc)),
 fun ρz wz hE hA _ ⟨u6, u8, _⟩ => gIf rfl rfl (yF rfl u6) fun gc F hF => core_val rfl hF (o_not (gt gc u8) rfl),
 fun ρz wz hE hA _ ⟨u6, u9, _⟩ => core_valE rfl rfl (congrArg Value.bool hc) (o_pick_or u6 rfl u9),
 mU rfl rfl rfl,
 fun ρz wz hE hA ⟨e7, _⟩ ⟨u11, _⟩ => gIf rfl rfl (yF rfl u11) fun gc F hF => core_val rfl hF (o_move (e7.trans h7)),
 fun ρz wz hE hA ⟨e1, _⟩ ⟨u11, _⟩ => gIf rfl rfl (yF rfl u11) fun gc F hF => core_val rfl hF (o_move (e1.trans h1)),
 fun ρz wz hE hA ⟨e2, _⟩ ⟨u11, _⟩ => gIf rfl rfl (yF rfl u11) fun gc F hF => core_val rfl hF (o_move (e2.trans h2)),
 fun ρz wz hE hA _ ⟨u11, u12, u13, u14, _⟩ => gIf rfl rfl (yF rfl u11) fun gc F hF => core_call hF (call_args3 (gt gc u12) (gt gc u13) (gt gc u14)) cf_25 (pensionref21_Alive_ok  _ _ _ (Hf7.exn (hA rfl)).no (hz3 gc)),
 fun ρz wz hE hA _ ⟨u11, u15, _⟩ => gIf rfl rfl (yF rfl u11) fun gc F hF => core_val rfl hF (o_not (gt gc u15) rfl),
 fun ρz wz hE hA _ ⟨u11, u16, _⟩ => core_valE rfl rfl (congrArg Value.bool hc2) (o_pick_or u11 rfl u16), trivial⟩ ?_
  intro ρ3 w3 hN hf hr
  have h29 := hv hf 17 rfl rfl
  obtain ⟨h1, h2, h7⟩ := k3 hr h1 h2 h7 rfl
  have Hf7 := Hf7.exn hN
  have hW := hW.trans hN
  refine WP.cond rfl h29 (fun hb => ?_) (fun hb => ?_)
  · have hF := (if_pos hb).symm.trans hF
    refine WP.seq (WP.rb mixed [[]] [[]] [(6, .slice none 0 0)] (by kernel_rfl) ⟨aC rfl rfl (fun _ => rfl), trivial⟩ ?_)
    intro ρ4 w4 hN hf hr
    have h6 : ρ4 6 = .slice none 0 0 := hf 0 rfl
    have O6 : Own w0.heap.size 3 1 (fun x : Int => [Value.int .i64 x]) w4 (.slice none 0 0) [] := Own.nil _ _ _ _ _
    have hW := hW.trans hN
    have O6 : Own w0.heap.size 3 1 (fun x : Int => [Value.int .i64 x]) w4 (.slice none 0 0) [] := Own.nil _ _ _ _ _
    refine WP.ret ?_
    show retQ Tryz.prog 55 Tryz.f12 (fun v w1 => Own w0.heap.size 3 1 (fun x : Int => [Value.int .i64 x]) w1 v r ∧ Ext noG w0 w1) .ret ρ4 w4
    obtain rfl := Option.some.inj hF
    exact res1 rfl (by decide) h6 ⟨O6, hW⟩
  have hF := (if_neg (Bool.eq_false_iff.1 hb)).symm.trans hF
  refine WP.skip (WP.seq (WP.rb mixed [[]] [[]] [(8, .slice none 0 0)] (by kernel_rfl) ⟨aC rfl rfl (fun _ => rfl), trivial⟩ ?_))
  intro ρ5 w5 hN hf hr
  have h8 : ρ5 8 = .slice none 0 0 := hf 0 rfl
  have O8 : Own w0.heap.size 3 1 (fun x : Int => [Value.int .i64 x]) w5 (.slice none 0 0) [] := Own.nil _ _ _ _ _
  obtain ⟨h1, h2, h7⟩ := k3 hr h1 h2 h7 rfl
  have Hf7 : RepSl api_Fact.R (gL [ownG (.slice none 0 0)]) w5 v7_ z := Hf7.mv hN (fun _ h => h.elim) (fun b h => h.elim (fun h => by simp [ownG, Value.ownBlock] at h) (fun h => h.elim))
  have hW := hW.trans hN
  have O8 : Own w0.heap.size 3 1 (fun x : Int => [Value.int .i64 x]) w5 (.slice none 0 0) [] := Own.nil _ _ _ _ _
  refine WP.seq (WP.seq (WP.rb mixed [[]] [[]] [(9, .int .i64 1)] (by kernel_rfl) ⟨aC rfl rfl (fun _ => rfl), trivial⟩ ?_))
  intro ρ6 w6 hN hf hr
  have h9 := hv hf 0 rfl rfl
  obtain ⟨h1, h2, h7, h8⟩ := k4 hr h1 h2 h7 h8 rfl
  have Oo_O8 := O8
  have Hf7 := Hf7.exn hN
  have hW := hW.trans hN
  have O8 : Own w0.heap.size 3 1 (fun x : Int => [Value.int .i64 x]) w6 (.slice none 0 0) [] := Own.nil _ _ _ _ _
  refine WP.block (WP.loop (fun k_ ρ w => ∃ out_ : List Int, ∃ p_ : Int, ∃ v8_ : Value, ρ 1 = .int .i64 child_ ∧ ρ 2 = .int .i64 day_ ∧ ρ 7 = v7_ ∧ ρ 8 = v8_ ∧ ρ 9 = .int .i64 p_ ∧ RepSl api_Fact.R (gL [ownG v8_]) w v7_ z ∧ Own w0.heap.size 3 1 (fun x : Int => [Value.int .i64 x]) w v8_ out_ ∧ Ext noG w0 w ∧ loopC k_ (pensionref21_Parents_l child_ day_ z) (out_, p_) = some r) FU ⟨[], 1, .slice none 0 0, h1, h2, h7, h8, h9, Hf7, O8, hW, hF⟩ (fun _ _ h => by obtain ⟨_, _, _, _, _, _, _, _, _, _, _, h⟩ := h; cases h) ?_)
  rintro k_ ρ7 w7 ⟨out_, p_, v8_, h1, h2, h7, h8, h9, Hf7, O8, hW, hF⟩
  have hF : pensionref21_Parents_l child_ day_ z (loopC k_ (pensionref21_Parents_l child_ day_ z)) (out_, p_) = some r := (loopC_succ k_ (pensionref21_Parents_l child_ day_ z) (out_, p_)).symm.trans hF
  generalize hrec_ : loopC k_ (pensionref21_Parents_l child_ day_ z) = rec_ at hF
  rw [pensionref21_Parents_l] at hF
  refine WP.seq (WP.seq (WP.rb mixed [[], [0]] [[9], []] [(30, .int .i64 p_), (31, .bool (decide (p_ ≤ 99)))] (by kernel_rfl) ⟨mE rfl rfl h9,
 fun ρz wz hE hA _ ⟨u0, _⟩ => core_val rfl rfl (o_leq u0 rfl rfl), trivial⟩ ?_))
  intro ρ8 w8 hN hf hr
  have h31 := hv hf 1 rfl rfl
  obtain ⟨h1, h2, h7, h8, h9⟩ := k5 hr h1 h2 h7 h8 h9 rfl
  have Oo_O8 := O8
  have Hf7 := Hf7.exn hN
  have hW := hW.trans hN
  have O8 := Oo_O8.exn hN
  refine WP.cond rfl h31 (fun hb => ?_) (fun hb => ?_)
  · have hF := (if_pos hb).symm.trans hF
    refine WP.skip (WP.seqJ (fun ρ w => ∃ out_2 : List Int, ∃ v8_2 : Value, ρ 1 = .int .i64 child_ ∧ ρ 2 = .int .i64 day_ ∧ ρ 7 = v7_ ∧ ρ 8 = v8_2 ∧ ρ 9 = .int .i64 p_ ∧ RepSl api_Fact.R (gL [ownG v8_2]) w v7_ z ∧ Own w0.heap.size 3 1 (fun x : Int => [Value.int .i64 x]) w v8_2 out_2 ∧ Ext noG w0 w ∧ pensionref21_Parents_j p_ rec_ out_2 = some r) ?_ ?_)
    · refine WP.block (WP.seq ?_)
      obtain ⟨c3, hc3, hF⟩ := obind hF
      obtain ⟨z4, hz4, hc3⟩ := andB hc3
      have hc3 := andE hc3
      obtain ⟨c4, hc4, hF⟩ := obind hF
      obtain ⟨z5, hz5, hc4⟩ := andB hc4
      have hc4 := andE hc4
      refine WP.rb mixed [[], [], [0, 1], [2], [3], [3], [3], [3, 4, 5, 6], [3, 7], [8], [9], [9], [9], [9], [9, 10, 11, 12, 13], [9, 14]] [[9], [1], [], [], [7], [9], [2], [], [], [], [7], [9], [1], [2], [], []] [(34, .int .i64 p_), (35, .int .i64 child_), (36, .bool (p_ != child_)), (37, .bool (p_ != child_)), (38, gv ((p_ != child_)) v7_), (39, gv ((p_ != child_)) (.int .i64 p_)), (40, gv ((p_ != child_)) (.int .i64 day_)), (41, gv ((p_ != child_)) (.bool z4)), (42, .bool c3), (43, .bool c3), (44, gv (c3) v7_), (45, gv (c3) (.int .i64 p_)), (46, gv (c3) (.int .i64 child_)), (47, gv (c3) (.int .i64 day_)), (48, gv (c3) (.bool z5)), (49, .bool c4)] (by kernel_rfl) ⟨mE rfl rfl h9,
 mE rfl rfl h1,
 fun ρz wz hE hA _ ⟨u0, u1, _⟩ => core_val rfl rfl (o_neq u0 u1 rfl),
 mU rfl rfl rfl,
 fun ρz wz hE hA ⟨e7, _⟩ ⟨u3, _⟩ => gIf rfl rfl (yT rfl u3) fun gc F hF => core_val rfl hF (o_move (e7.trans h7)),
 fun ρz wz hE hA ⟨e9, _⟩ ⟨u3, _⟩ => gIf rfl rfl (yT rfl u3) fun gc F hF => core_val rfl hF (o_move (e9.trans h9)),
 fun ρz wz hE hA ⟨e2, _⟩ ⟨u3, _⟩ => gIf rfl rfl (yT rfl u3) fun gc F hF => core_val rfl hF (o_move (e2.trans h2)),
 fun ρz wz hE hA _ ⟨u3, u4, u5, u6, _⟩ => gIf rfl rfl (yT rfl u3) fun gc F hF => core_call hF (call_args3 (gt gc u4) (gt gc u5) (gt gc u6)) cf_25 (pensionref21_Alive_ok  _ _ _ (Hf7.exn (hA rfl)).no (hz4 gc)),
 fun ρz wz hE hA _ ⟨u3, u7, _⟩ => core_valE rfl rfl (congrArg Value.bool hc3) (o_pick_and u3 u7 rfl),
 mU rfl rfl rfl,
 fun ρz wz hE hA ⟨e7, _⟩ ⟨u9, _⟩ => gIf rfl rfl (yT rfl u9) fun gc F hF => core_val rfl hF (o_move (e7.trans h7)),
 fun ρz wz hE hA ⟨e9, _⟩ ⟨u9, _⟩ => gIf rfl rfl (yT rfl u9) fun gc F hF => core_val rfl hF (o_move (e9.trans h9)),
 fun ρz wz hE hA ⟨e1, _⟩ ⟨u9, _⟩ => gIf rfl rfl (yT rfl u9) fun gc F hF => core_val rfl hF (o_move (e1.trans h1)),
 fun ρz wz hE hA ⟨e2, _⟩ ⟨u9, _⟩ => gIf rfl rfl (yT rfl u9) fun gc F hF => core_val rfl hF (o_move (e2.trans h2)),
 fun ρz wz hE hA _ ⟨u9, u10, u11, u12, u13, _⟩ => gIf rfl rfl (yT rfl u9) fun gc F hF => core_call hF (call_args4 (gt gc u10) (gt gc u11) (gt gc u12) (gt gc u13)) cf_26 (pensionref21_raises_ok  _ _ _ _ (Hf7.exn (hA rfl)).no (hz5 gc)),
 fun ρz wz hE hA _ ⟨u9, u14, _⟩ => core_valE rfl rfl (congrArg Value.bool hc4) (o_pick_and u9 u14 rfl), trivial⟩ ?_
      intro ρ11 w11 hN hf hr
      have h49 := hv hf 15 rfl rfl
      obtain ⟨h1, h2, h7, h8, h9⟩ := k5 hr h1 h2 h7 h8 h9 rfl
      have Oo_O8 := O8
      have Hf7 := Hf7.exn hN
      have hW := hW.trans hN
      have O8 := Oo_O8.exn hN
      refine WP.cond rfl h49 (fun hb => ?_) (fun hb => ?_)
      · have hF := (if_pos hb).symm.trans hF
        obtain ⟨l, hl, hF⟩ := obind hF
        refine WP.region mixed [[], [], [1], [0, 2], [0, 3]] [[], [], [1], [0, 2], [3]] [[8], [9], [], [], []] [3] [] [val 50 (v8_), val 51 (.int .i64 p_), (52, fun u wz => ∃ b, u = .slice (some ⟨b, 0, none⟩) 1 1 ∧ w11.heap.size ≤ b ∧ Mb wz b 3 (([p_]).flatMap (fun x : Int => [Value.int .i64 x]))), (53, fun u wz => Own w0.heap.size 3 1 (fun x : Int => [Value.int .i64 x]) wz u l ∧ ∀ b, u.ownBlock = some b → (v8_.ownBlock = some b ∨ w11.heap.size ≤ b)), (8, fun u wz => Own w0.heap.size 3 1 (fun x : Int => [Value.int .i64 x]) wz u l ∧ ∀ b, u.ownBlock = some b → (v8_.ownBlock = some b ∨ w11.heap.size ≤ b))] (fun b => Value.ownBlock v8_ = some b) (by kernel_rfl) ⟨sV, sV, fun _ _ _ hE ⟨b, hz, hs, hM⟩ => ⟨b, hz, hs, hM.ext hE (fun hg => absurd (O8.lt hg).2 (Nat.not_lt.2 hs))⟩, fun _ _ _ hE ⟨hO, hf⟩ => ⟨hO.exn hE, hf⟩, fun _ _ _ hE ⟨hO, hf⟩ => ⟨hO.exn hE, hf⟩, trivial⟩ ⟨mE rfl rfl h8,
 mE rfl rfl h9,
 fun ρz wz hE hA _ ⟨u1, _⟩ => core_slice rfl rfl hE (o_buildSlice (build_parts1 u1) (bs_22_1 _ _)),
 fun ρz wz hE hA _ ⟨u0, ⟨bz2, hzn2, hge2, hM2⟩, _⟩ => core_append (n := 1) (cells := fun x : Int => [Value.int .i64 x]) (B := w0.heap.size) (w0 := w11) rfl rfl (fun b hb => hb) u0 hzn2 (fun _ => rfl) one_3 si_22 se_3 (by decide) (by decide) (O8.exn (hA rfl)) ⟨_, (Mb.rep (n := 1) (cells := fun x : Int => [Value.int .i64 x]) (hn := fun _ => rfl) (G := noG) hM2 rfl (Nat.le_of_ble_eq_true rfl) (fun h => h))⟩ hl (Nat.le_trans hW.size hE.size) hE.size (fun v1 w1 h1 h2 => ⟨h1, h2⟩),
 fun ρz wz hE hA _ ⟨⟨hO3, hfr3⟩, _⟩ => core_copy rfl rfl (o_assign rfl) ⟨hO3, hfr3⟩, trivial⟩ ?_
        intro ρ12 w12 hE hN hf hr
        obtain ⟨v8_3, h8⟩ : ∃ v, ρ12 8 = v := ⟨_, rfl⟩
        have hq8 : (fun u wz => Own w0.heap.size 3 1 (fun x : Int => [Value.int .i64 x]) wz u l ∧ ∀ b, u.ownBlock = some b → (v8_.ownBlock = some b ∨ w11.heap.size ≤ b)) (ρ12 8) w12 := hf 4 rfl
        rw [h8] at hq8
        obtain ⟨hq8, hfr8⟩ := hq8
        obtain ⟨h1, h2, h7, h9⟩ := k4 hr h1 h2 h7 h9 rfl
        have Oo_O8 := O8
        have Hf7 : RepSl api_Fact.R (gL [ownG v8_3]) w12 v7_ z := Hf7.mv hE (fun _ h => .inl (.inl h)) (fun b h => h.elim (fun h => (hfr8 _ h).elim (fun h => .inl (by have h := h; exact (.inl h))) (fun h => .inr h)) (fun h => h.elim))
        have hW := Ext.own hW hE (fun b hb => (Oo_O8.lt hb).1)
        have O8 := hq8
        exact ⟨l, v8_3, h1, h2, h7, h8, h9, Hf7, O8, hW, hF⟩
      have hF := (if_neg (Bool.eq_false_iff.1 hb)).symm.trans hF
      refine WP.skip ?_
      exact ⟨out_, v8_, h1, h2, h7, h8, h9, Hf7, O8, hW, hF⟩
    rintro ρ9 w9 ⟨out_2, v8_2, h1, h2, h7, h8, h9, Hf7, O8, hW, hF⟩
    rw [pensionref21_Parents_j] at hF
    refine WP.rv mixed [[], [0], [0, 1]] [[], [0], [1]] [[9], [], []] [(32, .int .i64 p_), (33, .int .i64 (i64 (p_ + 1))), (9, .int .i64 (i64 (p_ + 1)))] (by kernel_rfl) ⟨mE rfl rfl h9,
 fun ρz wz hE hA _ ⟨u0, _⟩ => core_val rfl rfl (o_add u0 rfl rfl),
 aU rfl rfl rfl, trivial⟩ ?_
    intro ρ10 w10 hN hf hr
    have h9 := hv hf 2 rfl rfl
    obtain ⟨h1, h2, h7, h8⟩ := k4 hr h1 h2 h7 h8 rfl
    have Oo_O8 := O8
    have Hf7 := Hf7.exn hN
    have hW := hW.trans hN
    have O8 := Oo_O8.exn hN
    exact ⟨out_2, i64 (p_ + 1), v8_2, h1, h2, h7, h8, h9, Hf7, O8, hW, (by first | exact hF | (rw [hrec_]; exact hF))⟩
  have hF := (if_neg (Bool.eq_false_iff.1 hb)).symm.trans hF
  refine WP.exit (thenQ_exit (thenQ_exit (blockQ_hit (WP.seq (WP.rb mixed [[], [0]] [[8], []] [(54, v8_), (6, v8_)] (by kernel_rfl) ⟨mE rfl rfl h8,
 aU rfl rfl rfl, trivial⟩ ?_)))))
  intro ρ13 w13 hN hf hr
  have h6 := hv hf 1 rfl rfl
  have Oo_O8 := O8
  have hW := hW.trans hN
  have O6 := Oo_O8.exn hN
  refine WP.ret ?_
  show retQ Tryz.prog 55 Tryz.f12 (fun v w1 => Own w0.heap.size 3 1 (fun x : Int => [Value.int .i64 x]) w1 v r ∧ Ext noG w0 w1) .ret ρ13 w13
  obtain rfl := Option.some.inj hF
  exact res1 rfl (by decide) h6 ⟨O6, hW⟩

set_option maxHeartbeats 4000000 in
theorem pensionref12_Birth_ok {w0 : World} (l_ : List api_Fact) {v_l_ : Value} (H_l_ : RepSl api_Fact.R noG w0 v_l_ l_) {r : Int × Bool} (hF : pensionref12_Birth l_ = some r) :
    Calls Tryz.prog 66 #[v_l_] w0 fun e w1 => e = .returned (.tuple #[.int .i64 r.1, .bool r.2]) ∧ Ext noG w0 w1 := by
  refine (Calls.start (P := Tryz.prog) (args := [v_l_]) (R := fun v w1 => v = .tuple #[.int .i64 r.1, .bool r.2] ∧ Ext noG w0 w1) (n := 8) (w := w0) Tryz.func66 rfl rfl (Nat.le_of_ble_eq_true rfl) (fun ρ hargs => ?_)).mono (fun e w1 ⟨v, he, hv, hE⟩ => ⟨hv ▸ he, hE⟩)
  have h0 := hargs 0 _ rfl
  have hW := Ext.refl noG w0
  obtain ⟨_, _, hs_H_l_, _, _⟩ := RepSl.shape H_l_
  have H_l_ := H_l_.start
  rw [pensionref12_Birth] at hF
  refine WP.seq (WP.rb mixed [[], []] [[], []] [(2, .int .i64 0), (3, .bool false)] (by kernel_rfl) ⟨aC rfl rfl (fun _ => rfl),
 aC rfl rfl (fun _ => rfl), trivial⟩ ?_)
  intro ρ1 w1 hN hf hr
  have h0 := (hr 0 rfl).trans h0
  have H_l_ := H_l_.exn hN
  have hW := hW.trans hN
  refine WP.seq ?_
  obtain ⟨z, hz, hF⟩ := obind hF
  refine WP.rb mixed [[], [0], [1], [1], [2], [3]] [[0], [], [], [], [], []] [(4, v_l_), (5, .tuple #[.int .i64 z.1, .bool z.2]), (6, .int .i64 z.1), (7, .bool z.2), (2, .int .i64 z.1), (3, .bool z.2)] (by kernel_rfl) ⟨mE rfl rfl h0,
 fun ρz wz hE hA _ ⟨u0, _⟩ => core_call rfl (call_args2 u0 rfl) cf_85 (pensionref12_least_ok  _ _ (H_l_.exn (hA rfl)).no hz),
 fun ρz wz hE hA _ ⟨u1, _⟩ => core_val rfl rfl (o_extract u1 (by kernel_rfl)),
 fun ρz wz hE hA _ ⟨u1, _⟩ => core_val rfl rfl (o_extract u1 (by kernel_rfl)),
 aU rfl rfl rfl,
 aU rfl rfl rfl, trivial⟩ ?_
  intro ρ2 w2 hN hf hr
  have h2 := hv hf 4 rfl rfl
  have h3 := hv hf 5 rfl rfl
  have hW := hW.trans hN
  refine WP.ret ?_
  show retQ Tryz.prog 8 Tryz.f66 (fun v w1 => v = .tuple #[.int .i64 r.1, .bool r.2] ∧ Ext noG w0 w1) .ret ρ2 w2
  obtain rfl := Option.some.inj hF
  exact res2 rfl (by decide) (by decide) h2 h3 ⟨rfl, hW⟩

set_option maxHeartbeats 4000000 in
theorem pensionref12_Life_ok {w0 : World} (l_ : List api_Fact) {v_l_ : Value} (H_l_ : RepSl api_Fact.R noG w0 v_l_ l_) {r : Span} (hF : pensionref12_Life l_ = some r) :
    Calls Tryz.prog 41 #[v_l_] w0 fun e w1 => e = .returned (Span.val r) ∧ Ext noG w0 w1 := by
  refine (Calls.start (P := Tryz.prog) (args := [v_l_]) (R := fun v w1 => v = Span.val r ∧ Ext noG w0 w1) (n := 27) (w := w0) Tryz.func41 rfl rfl (Nat.le_of_ble_eq_true rfl) (fun ρ hargs => ?_)).mono (fun e w1 ⟨v, he, hv, hE⟩ => ⟨hv ▸ he, hE⟩)
  have h0 := hargs 0 _ rfl
  have hW := Ext.refl noG w0
  obtain ⟨_, _, hs_H_l_, _, _⟩ := RepSl.shape H_l_
  have H_l_ := H_l_.start
  rw [pensionref12_Life] at hF
  refine WP.seq (WP.rg mixed [[]] [[]] [[]] [(2, fun u wz => ∃ b, u = .pointer (some ⟨b, 0, none⟩) ∧ w0.heap.size ≤ b ∧ Mb wz b 36 (Span.cells (⟨0, 0⟩ : Span)))] (by kernel_rfl) ⟨fun _ _ _ hE ⟨b, hb, hs, hM⟩ => ⟨b, hb, hs, hM.exn hE⟩, trivial⟩ ⟨fun ρz wz hE hA _ _ => core_new rfl rfl hE (o_alloc (al_36 _)), trivial⟩ ?_)
  intro ρ1 w1 hN hf hr
  obtain ⟨b2_, h2, hge_b2_, Hb_b2_⟩ := hf 0 rfl
  have h0 := (hr 0 rfl).trans h0
  have H_l_ := H_l_.exn hN
  have hB_b2_ : w0.heap.size ≤ b2_ := Nat.le_trans hW.size hge_b2_
  have hW := hW.trans hN
  refine WP.seq ?_
  obtain ⟨z, hz, hF⟩ := obind hF
  refine WP.rb mixed [[], [0], [1], [2], [2], [3], [4]] [[0], [], [], [], [], [], []] [(8, v_l_), (9, .tuple #[.int .i64 z.1, .bool z.2]), (7, .tuple #[.int .i64 z.1, .bool z.2]), (10, .int .i64 z.1), (11, .bool z.2), (3, .int .i64 z.1), (4, .bool z.2)] (by kernel_rfl) ⟨mE rfl rfl h0,
 fun ρz wz hE hA _ ⟨u0, _⟩ => core_call rfl (call_args1 u0) cf_66 (pensionref12_Birth_ok  _ (H_l_.exn (hA rfl)).no hz),
 mU rfl rfl rfl,
 fun ρz wz hE hA _ ⟨u2, _⟩ => core_val rfl rfl (o_extract u2 (by kernel_rfl)),
 fun ρz wz hE hA _ ⟨u2, _⟩ => core_val rfl rfl (o_extract u2 (by kernel_rfl)),
 aU rfl rfl rfl,
 aU rfl rfl rfl, trivial⟩ ?_
  intro ρ2 w2 hN hf hr
  have h3 := hv hf 5 rfl rfl
  obtain ⟨h0, h2⟩ := k2 hr h0 h2 rfl
  have Hb_b2_n := Hb_b2_.exn hN
  have H_l_ := H_l_.exn hN
  have hW := hW.trans hN
  have Hb_b2_ := Hb_b2_n
  refine WP.seq ?_
  obtain ⟨z2, hz2, hF⟩ := obind hF
  refine WP.rb mixed [[], [0], [1], [2], [2], [3], [4]] [[0], [], [], [], [], [], []] [(13, v_l_), (14, .tuple #[.int .i64 z2.1, .bool z2.2]), (12, .tuple #[.int .i64 z2.1, .bool z2.2]), (15, .int .i64 z2.1), (16, .bool z2.2), (5, .int .i64 z2.1), (6, .bool z2.2)] (by kernel_rfl) ⟨mE rfl rfl h0,
 fun ρz wz hE hA _ ⟨u0, _⟩ => core_call rfl (call_args1 u0) cf_53 (pensionref12_Death_ok  _ (H_l_.exn (hA rfl)).no hz2),
 mU rfl rfl rfl,
 fun ρz wz hE hA _ ⟨u2, _⟩ => core_val rfl rfl (o_extract u2 (by kernel_rfl)),
 fun ρz wz hE hA _ ⟨u2, _⟩ => core_val rfl rfl (o_extract u2 (by kernel_rfl)),
 aU rfl rfl rfl,
 aU rfl rfl rfl, trivial⟩ ?_
  intro ρ3 w3 hN hf hr
  have h5 := hv hf 5 rfl rfl
  have h6 := hv hf 6 rfl rfl
  obtain ⟨h2, h3⟩ := k2 hr h2 h3 rfl
  have Hb_b2_n := Hb_b2_.exn hN
  have hW := hW.trans hN
  have Hb_b2_ := Hb_b2_n
  refine WP.seqJ (fun ρ w => ∃ to_ : Int, ρ 2 = .pointer (some ⟨b2_, 0, none⟩) ∧ ρ 3 = .int .i64 z.1 ∧ ρ 5 = .int .i64 to_ ∧ Mb w b2_ 36 (Span.cells (⟨0, 0⟩ : Span)) ∧ Ext noG w0 w ∧ pensionref12_Life_j z to_ = some r) ?_ ?_
  · refine WP.seq (WP.rb mixed [[], [0]] [[6], []] [(17, .bool z2.2), (18, .bool (!z2.2))] (by kernel_rfl) ⟨mE rfl rfl h6,
 fun ρz wz hE hA _ ⟨u0, _⟩ => core_val rfl rfl (o_not u0 rfl), trivial⟩ ?_)
    intro ρ8 w8 hN hf hr
    have h18 := hv hf 1 rfl rfl
    obtain ⟨h2, h3, h5⟩ := k3 hr h2 h3 h5 rfl
    have Hb_b2_n := Hb_b2_.exn hN
    have hW := hW.trans hN
    have Hb_b2_ := Hb_b2_n
    refine WP.cond rfl h18 (fun hb => ?_) (fun hb => ?_)
    · have hF := (if_pos hb).symm.trans hF
      refine WP.rb mixed [[]] [[]] [(5, .int .i64 73048)] (by kernel_rfl) ⟨aC rfl rfl (fun _ => rfl), trivial⟩ ?_
      intro ρ9 w9 hN hf hr
      have h5 := hv hf 0 rfl rfl
      obtain ⟨h2, h3⟩ := k2 hr h2 h3 rfl
      have Hb_b2_n := Hb_b2_.exn hN
      have hW := hW.trans hN
      have Hb_b2_ := Hb_b2_n
      exact ⟨73048, h2, h3, h5, Hb_b2_, hW, hF⟩
    have hF := (if_neg (Bool.eq_false_iff.1 hb)).symm.trans hF
    refine WP.skip ?_
    exact ⟨z2.1, h2, h3, h5, Hb_b2_, hW, hF⟩
  rintro ρ4 w4 ⟨to_, h2, h3, h5, Hb_b2_, hW, hF⟩
  rw [pensionref12_Life_j] at hF
  refine WP.seq (WP.seq (WP.rb mixed [[], [], [0, 1]] [[5], [3], []] [(19, .int .i64 to_), (20, .int .i64 z.1), (21, .bool (decide (to_ < z.1)))] (by kernel_rfl) ⟨mE rfl rfl h5,
 mE rfl rfl h3,
 fun ρz wz hE hA _ ⟨u0, u1, _⟩ => core_val rfl rfl (o_lss u0 u1 rfl), trivial⟩ ?_))
  intro ρ5 w5 hN hf hr
  have h21 := hv hf 2 rfl rfl
  obtain ⟨h2, h3, h5⟩ := k3 hr h2 h3 h5 rfl
  have Hb_b2_n := Hb_b2_.exn hN
  have hW := hW.trans hN
  have Hb_b2_ := Hb_b2_n
  refine WP.cond rfl h21 (fun hb => ?_) (fun hb => ?_)
  · have hF := (if_pos hb).symm.trans hF
    refine WP.seq (WP.region mixed [[], [0]] [[], [0]] [[], [2]] [1] [] [val 22 (Span.val (⟨0, 0⟩ : Span)), (2, fun _ wz => Mb wz b2_ 36 (Span.cells (⟨0, 0⟩ : Span)))] (fun x => x = b2_) (by kernel_rfl) ⟨sV, fun _ _ _ hE hM => hM.exn hE, trivial⟩ ⟨fun ρz wz hE hA _ _ => core_val rfl rfl (o_build (by simp) (bd_36_  _)),
 fun ρz wz hE hA ⟨e2, _⟩ ⟨u0, _⟩ => core_storeBox rfl rfl (fun _ h => h) (e2.trans h2) u0 (Hb_b2_.exn (hA rfl)) (fun a w => st_36 _ a w) rfl (one_36 _), trivial⟩ ?_)
    intro ρ6 w6 hE hN hf hr
    have h2 := (hr 2 rfl).trans h2
    have Hb_b2_n := hf 1 rfl
    have hW := Ext.own hW hE (fun x h => h.symm ▸ hB_b2_)
    have Hb_b2_ := Hb_b2_n
    refine WP.ret ?_
    show retQ Tryz.prog 27 Tryz.f41 (fun v w1 => v = Span.val r ∧ Ext noG w0 w1) .ret ρ6 w6
    obtain rfl := Option.some.inj hF
    exact resC rfl (by decide) h2 (run_loadN (cs := (Span.cells (⟨0, 0⟩ : Span))) (lr_36 _ _) rfl Hb_b2_.ca) ⟨rfl, hW⟩
  have hF := (if_neg (Bool.eq_false_iff.1 hb)).symm.trans hF
  refine WP.skip (WP.seq (WP.region mixed [[], [], [1], [0, 2], [3]] [[], [], [1], [0, 2], [3]] [[3], [5], [], [], [2]] [4] [] [val 23 (.int .i64 z.1), val 24 (.int .i64 to_), val 25 (.int .i64 (i64 (to_ + 1))), val 26 (Span.val (⟨z.1, i64 (to_ + 1)⟩ : Span)), (2, fun _ wz => Mb wz b2_ 36 (Span.cells (⟨z.1, i64 (to_ + 1)⟩ : Span)))] (fun x => x = b2_) (by kernel_rfl) ⟨sV, sV, sV, sV, fun _ _ _ hE hM => hM.exn hE, trivial⟩ ⟨mE rfl rfl h3,
 mE rfl rfl h5,
 fun ρz wz hE hA _ ⟨u1, _⟩ => core_val rfl rfl (o_add u1 rfl rfl),
 fun ρz wz hE hA _ ⟨u0, u2, _⟩ => core_val rfl rfl (o_build (build_parts2 u0 u2) (bd_36_0_1 _ _ _)),
 fun ρz wz hE hA ⟨e2, _⟩ ⟨u3, _⟩ => core_storeBox rfl rfl (fun _ h => h) (e2.trans h2) u3 (Hb_b2_.exn (hA rfl)) (fun a w => st_36 _ a w) rfl (one_36 _), trivial⟩ ?_))
  intro ρ7 w7 hE hN hf hr
  have h2 := (hr 2 rfl).trans h2
  have Hb_b2_n := hf 4 rfl
  have hW := Ext.own hW hE (fun x h => h.symm ▸ hB_b2_)
  have Hb_b2_ := Hb_b2_n
  refine WP.ret ?_
  show retQ Tryz.prog 27 Tryz.f41 (fun v w1 => v = Span.val r ∧ Ext noG w0 w1) .ret ρ7 w7
  obtain rfl := Option.some.inj hF
  exact resC rfl (by decide) h2 (run_loadN (cs := (Span.cells (⟨z.1, i64 (to_ + 1)⟩ : Span))) (lr_36 _ _) rfl Hb_b2_.ca) ⟨rfl, hW⟩

set_option maxHeartbeats 4000000 in
theorem pensionref12_in_ok {w0 : World} (s_ : Span) (day_ : Int) {r : Bool} (hF : pensionref12_in s_ day_ = some r) :
    Calls Tryz.prog 40 #[Span.val s_, .int .i64 day_] w0 fun e w1 => e = .returned (.bool r) ∧ Ext noG w0 w1 := by
  refine (Calls.start (P := Tryz.prog) (args := [Span.val s_, .int .i64 day_]) (R := fun v w1 => v = .bool r ∧ Ext noG w0 w1) (n := 15) (w := w0) Tryz.func40 rfl rfl (Nat.le_of_ble_eq_true rfl) (fun ρ hargs => ?_)).mono (fun e w1 ⟨v, he, hv, hE⟩ => ⟨hv ▸ he, hE⟩)
  have h0 := hargs 0 _ rfl
  have h1 := hargs 1 _ rfl
  have hW := Ext.refl noG w0
  rw [pensionref12_in] at hF
  refine WP.seq (WP.rg mixed [[], []] [[], []] [[0], []] [(2, fun u wz => ∃ b, u = .pointer (some ⟨b, 0, none⟩) ∧ w0.heap.size ≤ b ∧ Mb wz b 36 (Span.cells s_)), val 4 (.bool false)] (by kernel_rfl) ⟨fun _ _ _ hE ⟨b, hb, hs, hM⟩ => ⟨b, hb, hs, hM.exn hE⟩, sV, trivial⟩ ⟨fun ρz wz hE hA ⟨e0, _⟩ _ => core_new rfl rfl hE (o_box (e0.trans h0) (bx_36 _ _)),
 aC rfl rfl (fun _ => rfl), trivial⟩ ?_)
  intro ρ1 w1 hN hf hr
  obtain ⟨b2_, h2, hge_b2_, Hb_b2_⟩ := hf 0 rfl
  have h1 := (hr 1 rfl).trans h1
  have hB_b2_ : w0.heap.size ≤ b2_ := Nat.le_trans hW.size hge_b2_
  have hW := hW.trans hN
  refine WP.seq (WP.rb mixed [[], [], [1], [0, 2], [3], [4], [4], [4, 6], [4, 5, 7], [4, 8], [9]] [[1], [2], [], [], [], [1], [2], [], [], [], []] [(5, .int .i64 day_), (6, .pointer (some ((⟨b2_, 0, none⟩ : Addr).add 0))), (7, .int .i64 s_.From), (8, .bool (decide (s_.From ≤ day_))), (9, .bool (decide (s_.From ≤ day_))), (10, gv (decide (s_.From ≤ day_)) (.int .i64 day_)), (11, gv (decide (s_.From ≤ day_)) (.pointer (some ((⟨b2_, 0, none⟩ : Addr).add 1)))), (12, gv (decide (s_.From ≤ day_)) (.int .i64 s_.To)), (13, gv (decide (s_.From ≤ day_)) (.bool (decide (day_ < s_.To)))), (14, .bool (decide (s_.From ≤ day_) && decide (day_ < s_.To))), (4, .bool (decide (s_.From ≤ day_) && decide (day_ < s_.To)))] (by kernel_rfl) ⟨mE rfl rfl h1,
 fun ρz wz hE hA ⟨e2, _⟩ _ => core_val rfl rfl (o_fieldAddr (e2.trans h2) (fa_36_0 _ _)),
 fun ρz wz hE hA _ ⟨u1, _⟩ => core_val rfl rfl (o_load u1 (run_load1 (lr_3 _ _) (CA.sub ((Hb_b2_.exn (hA rfl)).ca) 0 1))),
 fun ρz wz hE hA _ ⟨u0, u2, _⟩ => core_val rfl rfl (o_geq u0 u2 rfl),
 mU rfl rfl rfl,
 fun ρz wz hE hA ⟨e1, _⟩ ⟨u4, _⟩ => gIf rfl rfl (yT rfl u4) fun gc F hF => core_val rfl hF (o_move (e1.trans h1)),
 fun ρz wz hE hA ⟨e2, _⟩ ⟨u4, _⟩ => gIf rfl rfl (yT rfl u4) fun gc F hF => core_val rfl hF (o_fieldAddr (e2.trans h2) (fa_36_1 _ _)),
 fun ρz wz hE hA _ ⟨u4, u6, _⟩ => gIf rfl rfl (yT rfl u4) fun gc F hF => core_val rfl hF (o_load (gt gc u6) (run_load1 (lr_3 _ _) (CA.sub ((Hb_b2_.exn (hA rfl)).ca) 1 1))),
 fun ρz wz hE hA _ ⟨u4, u5, u7, _⟩ => gIf rfl rfl (yT rfl u4) fun gc F hF => core_val rfl hF (o_lss (gt gc u5) (gt gc u7) rfl),
 fun ρz wz hE hA _ ⟨u4, u8, _⟩ => core_val rfl rfl (o_pick_and u4 u8 rfl),
 aU rfl rfl rfl, trivial⟩ ?_)
  intro ρ2 w2 hN hf hr
  have h4 := hv hf 10 rfl rfl
  have hW := hW.trans hN
  refine WP.ret ?_
  show retQ Tryz.prog 15 Tryz.f40 (fun v w1 => v = .bool r ∧ Ext noG w0 w1) .ret ρ2 w2
  obtain rfl := Option.some.inj hF
  exact res1 rfl (by decide) h4 ⟨rfl, hW⟩

set_option maxHeartbeats 4000000 in
theorem pensionref12_Residence_ok {w0 : World} (d_ : List api_Fact) (i_ : Int) {v_d_ : Value} (H_d_ : RepSl api_Fact.R noG w0 v_d_ d_) {r : Int × Bool} (hF : pensionref12_Residence d_ i_ = some r) :
    Calls Tryz.prog 19 #[v_d_, .int .i64 i_] w0 fun e w1 => e = .returned (.tuple #[.int .i64 r.1, .bool r.2]) ∧ Ext noG w0 w1 := by
  refine (Calls.start (P := Tryz.prog) (args := [v_d_, .int .i64 i_]) (R := fun v w1 => v = .tuple #[.int .i64 r.1, .bool r.2] ∧ Ext noG w0 w1) (n := 92) (w := w0) Tryz.func19 rfl rfl (Nat.le_of_ble_eq_true rfl) (fun ρ hargs => ?_)).mono (fun e w1 ⟨v, he, hv, hE⟩ => ⟨hv ▸ he, hE⟩)
  have h0 := hargs 0 _ rfl
  have h1 := hargs 1 _ rfl
  have hW := Ext.refl noG w0
  obtain ⟨_, _, hs_H_d_, _, _⟩ := RepSl.shape H_d_
  have H_d_ := H_d_.start
  rw [pensionref12_Residence] at hF
  refine WP.seq (WP.rb mixed [[], []] [[], []] [(4, .int .i64 0), (5, .bool false)] (by kernel_rfl) ⟨aC rfl rfl (fun _ => rfl),
 aC rfl rfl (fun _ => rfl), trivial⟩ ?_)
  intro ρ1 w1 hN hf hr
  obtain ⟨h0, h1⟩ := k2 hr h0 h1 rfl
  have H_d_ := H_d_.exn hN
  have hW := hW.trans hN
  refine WP.seq ?_
  obtain ⟨z, hz, hF⟩ := obind hF
  refine WP.rg mixed [[], [0], [1]] [[], [0], [1]] [[0], [], []] [val 9 (v_d_), (10, fun u wz => Own w0.heap.size 38 14 api_Fact.cells wz u z ∧ ∀ b, u.ownBlock = some b → w1.heap.size ≤ b), (6, fun u wz => Own w0.heap.size 38 14 api_Fact.cells wz u z ∧ ∀ b, u.ownBlock = some b → w1.heap.size ≤ b)] (by kernel_rfl) ⟨sV, fun _ _ _ hE ⟨hO, hf⟩ => ⟨hO.exn hE, hf⟩, fun _ _ _ hE ⟨hO, hf⟩ => ⟨hO.exn hE, hf⟩, trivial⟩ ⟨mE rfl rfl h0,
 fun ρz wz hE hA _ ⟨u0, _⟩ => core_callR rfl (call_args1 u0) cf_39 ((pensionref12_Current_ok  _ (H_d_.exn (hA rfl)).no hz).mono (fun e w1 ⟨v, he, hE1, hO⟩ => ⟨v, he, hE1, hO.base (Nat.le_trans hW.size hE.size), fun b hb => Nat.le_trans hE.size (hO.lt hb).1⟩)),
 fun ρz wz hE hA _ ⟨⟨hO1, hfr1⟩, _⟩ => core_copy rfl rfl (o_assign rfl) ⟨hO1, hfr1⟩, trivial⟩ ?_
  intro ρ2 w2 hN hf hr
  obtain ⟨v6_, h6⟩ : ∃ v, ρ2 6 = v := ⟨_, rfl⟩
  have hq6 : (fun u wz => Own w0.heap.size 38 14 api_Fact.cells wz u z ∧ ∀ b, u.ownBlock = some b → w1.heap.size ≤ b) (ρ2 6) w2 := hf 2 rfl
  rw [h6] at hq6
  obtain ⟨hq6, hfr6⟩ := hq6
  obtain ⟨h0, h1⟩ := k2 hr h0 h1 rfl
  have H_d_ := H_d_.exn hN
  have hW := hW.trans hN
  have Hf6 : RepSl api_Fact.R noG w2 v6_ z := hq6.rep (fun _ _ h => h)
  obtain ⟨_, _, hs_Hf6, _, _⟩ := RepSl.shape Hf6
  refine WP.seq (WP.rb mixed [[]] [[]] [(7, .int .i64 (-1))] (by kernel_rfl) ⟨aC rfl rfl (fun _ => rfl), trivial⟩ ?_)
  intro ρ3 w3 hN hf hr
  have h7 := hv hf 0 rfl rfl
  obtain ⟨h0, h1, h6⟩ := k3 hr h0 h1 h6 rfl
  have H_d_ := H_d_.exn hN
  have Hf6 := Hf6.exn hN
  have hW := hW.trans hN
  refine WP.seq (WP.seq (WP.rb mixed [[]] [[]] [(8, .int .i64 0)] (by kernel_rfl) ⟨aC rfl rfl (fun _ => rfl), trivial⟩ ?_))
  intro ρ4 w4 hN hf hr
  have h8 := hv hf 0 rfl rfl
  obtain ⟨h0, h1, h6, h7⟩ := k4 hr h0 h1 h6 h7 rfl
  have H_d_ := H_d_.exn hN
  have Hf6 := Hf6.exn hN
  have hW := hW.trans hN
  refine WP.block (WP.loop (fun k_ ρ w => ∃ x : Int, ∃ x2 : Int, ρ 0 = v_d_ ∧ ρ 1 = .int .i64 i_ ∧ ρ 6 = v6_ ∧ ρ 7 = .int .i64 x ∧ ρ 8 = .int .i64 x2 ∧ RepSl api_Fact.R (gfr noG w0) w v_d_ d_ ∧ RepSl api_Fact.R noG w v6_ z ∧ Ext noG w0 w ∧ loopC k_ (pensionref12_Residence_l d_ i_ z) (x, x2) = some r) FU ⟨(-1), 0, h0, h1, h6, h7, h8, H_d_, Hf6, hW, hF⟩ (fun _ _ h => by obtain ⟨_, _, _, _, _, _, _, _, _, _, h⟩ := h; cases h) ?_)
  rintro k_ ρ5 w5 ⟨x, x2, h0, h1, h6, h7, h8, H_d_, Hf6, hW, hF⟩
  have hF : pensionref12_Residence_l d_ i_ z (loopC k_ (pensionref12_Residence_l d_ i_ z)) (x, x2) = some r := (loopC_succ k_ (pensionref12_Residence_l d_ i_ z) (x, x2)).symm.trans hF
  generalize hrec_ : loopC k_ (pensionref12_Residence_l d_ i_ z) = rec_ at hF
  rw [pensionref12_Residence_l] at hF
  refine WP.seq (WP.seq ?_)
  obtain ⟨c, hc, hF⟩ := obind hF
  obtain ⟨z2, hz2, hc⟩ := andB hc
  obtain ⟨z3, hz3, hc⟩ := andB hc
  have hc := andE hc
  refine WP.rb mixed [[], [], [1], [0, 2], [3], [4], [4, 5], [4], [4, 6, 7], [4, 8]] [[8], [6], [], [], [], [0], [], [1], [], []] [(11, .int .i64 x2), (12, v6_), (13, .int .i64 (z.length : Int)), (14, .bool (decide (x2 < (z.length : Int)))), (15, .bool (decide (x2 < (z.length : Int)))), (16, gv (decide (x2 < (z.length : Int))) v_d_), (17, gv (decide (x2 < (z.length : Int))) (Span.val z2)), (18, gv (decide (x2 < (z.length : Int))) (.int .i64 i_)), (19, gv (decide (x2 < (z.length : Int))) (.bool z3)), (20, .bool c)] (by kernel_rfl) ⟨mE rfl rfl h8,
 mE rfl rfl h6,
 fun ρz wz hE hA _ ⟨u1, _⟩ => core_val rfl rfl (o_len (u1.trans hs_Hf6) len_24),
 fun ρz wz hE hA _ ⟨u0, u2, _⟩ => core_val rfl rfl (o_lss u0 u2 rfl),
 mU rfl rfl rfl,
 fun ρz wz hE hA ⟨e0, _⟩ ⟨u4, _⟩ => gIf rfl rfl (yT rfl u4) fun gc F hF => core_val rfl hF (o_move (e0.trans h0)),
 fun ρz wz hE hA _ ⟨u4, u5, _⟩ => gIf rfl rfl (yT rfl u4) fun gc F hF => core_call hF (call_args1 (gt gc u5)) cf_41 (pensionref12_Life_ok  _ (H_d_.exn (hA rfl)).no (hz2 gc)),
 fun ρz wz hE hA ⟨e1, _⟩ ⟨u4, _⟩ => gIf rfl rfl (yT rfl u4) fun gc F hF => core_val rfl hF (o_move (e1.trans h1)),
 fun ρz wz hE hA _ ⟨u4, u6, u7, _⟩ => gIf rfl rfl (yT rfl u4) fun gc F hF => core_call hF (call_args2 (gt gc u6) (gt gc u7)) cf_40 (pensionref12_in_ok  _ _  (hz3 gc)),
 fun ρz wz hE hA _ ⟨u4, u8, _⟩ => core_valE rfl rfl (congrArg Value.bool hc) (o_pick_and u4 u8 rfl), trivial⟩ ?_
  intro ρ6 w6 hN hf hr
  have h20 := hv hf 9 rfl rfl
  obtain ⟨h0, h1, h6, h7, h8⟩ := k5 hr h0 h1 h6 h7 h8 rfl
  have H_d_ := H_d_.exn hN
  have Hf6 := Hf6.exn hN
  have hW := hW.trans hN
  refine WP.cond rfl h20 (fun hb => ?_) (fun hb => ?_)
  · have hF := (if_pos hb).symm.trans hF
    refine WP.skip (WP.seqJ (fun ρ w => ∃ x3 : Int, ρ 0 = v_d_ ∧ ρ 1 = .int .i64 i_ ∧ ρ 6 = v6_ ∧ ρ 7 = .int .i64 x3 ∧ ρ 8 = .int .i64 x2 ∧ RepSl api_Fact.R (gfr noG w0) w v_d_ d_ ∧ RepSl api_Fact.R noG w v6_ z ∧ Ext noG w0 w ∧ pensionref12_Residence_j x2 rec_ x3 = some r) ?_ ?_)
    · refine WP.block (WP.seq (WP.seq ?_))
      obtain ⟨y, hy, hF⟩ := obind hF
      obtain ⟨ay, cy, hvy, hiy, hAy⟩ := RepSl.getF Hf6 hy
      obtain ⟨c2, hc2, hF⟩ := obind hF
      obtain ⟨y2, hy2, hc2⟩ := orB hc2
      obtain ⟨ay2, cy2, hvy2, hiy2, hAy2⟩ := RepSl.getFI Hf6 hy2
      obtain ⟨z4, hz4, hc2⟩ := orB hc2
      have hc2 := orE hc2
      refine WP.rb mixed [[], [], [0, 1], [2], [3], [4], [5], [6], [6], [6, 7, 8], [6, 9], [6, 10], [6], [6, 11, 12], [6, 13], [6, 14]] [[6], [8], [], [], [], [], [], [6], [8], [], [], [], [1], [], [], []] [(23, v6_), (24, .int .i64 x2), (25, .pointer (some (ay.add (Int.toNat x2 * 14)))), (26, .pointer (some ((ay.add (Int.toNat x2 * 14)).add 5))), (27, .int .i64 y.Kind), (28, .bool (y.Kind != 5)), (29, .bool (y.Kind != 5)), (30, gv (!(y.Kind != 5)) v6_), (31, gv (!(y.Kind != 5)) (.int .i64 x2)), (32, gv (!(y.Kind != 5)) (.pointer (some (ay2.add (Int.toNat x2 * 14))))), (33, gv (!(y.Kind != 5)) (.pointer (some ((ay2.add (Int.toNat x2 * 14)).add 7)))), (34, gv (!(y.Kind != 5)) (Span.val y2.Span)), (35, gv (!(y.Kind != 5)) (.int .i64 i_)), (36, gv (!(y.Kind != 5)) (.bool z4)), (37, gv (!(y.Kind != 5)) (.bool (!z4))), (38, .bool c2)] (by kernel_rfl) ⟨mE rfl rfl h6,
 mE rfl rfl h8,
 fun ρz wz hE hA _ ⟨u0, u1, _⟩ => core_val rfl rfl (o_indexAddr (u0.trans hvy) u1 (ia_24 hiy)),
 fun ρz wz hE hA _ ⟨u2, _⟩ => core_val rfl rfl (o_fieldAddr u2 (fa_38_5 _ _)),
 fun ρz wz hE hA _ ⟨u3, _⟩ => core_val rfl rfl (o_load u3 (run_load1 (lr_3 _ _) (CA.sub ((hAy.exn (hA rfl)).ca) 5 1))),
 fun ρz wz hE hA _ ⟨u4, _⟩ => core_val rfl rfl (o_neq u4 rfl rfl),
 mU rfl rfl rfl,
 fun ρz wz hE hA ⟨e6, _⟩ ⟨u6, _⟩ => gIf rfl rfl (yF rfl u6) fun gc F hF => core_val rfl hF (o_move (e6.trans h6)),
 fun ρz wz hE hA ⟨e8, _⟩ ⟨u6, _⟩ => gIf rfl rfl (yF rfl u6) fun gc F hF => core_val rfl hF (o_move (e8.trans h8)),
 fun ρz wz hE hA _ ⟨u6, u7, u8, _⟩ => gIf rfl rfl (yF rfl u6) fun gc F hF => core_val rfl hF (o_indexAddr ((gt gc u7).trans (hvy2 gc)) (gt gc u8) (ia_24 (hiy2 gc))),
 fun ρz wz hE hA _ ⟨u6, u9, _⟩ => gIf rfl rfl (yF rfl u6) fun gc F hF => core_val rfl hF (o_fieldAddr (gt gc u9) (fa_38_7 _ _)),
 fun ρz wz hE hA _ ⟨u6, u10, _⟩ => gIf rfl rfl (yF rfl u6) fun gc F hF => core_val rfl hF (o_load (gt gc u10) (run_loadN (cs := (Span.cells y2.Span)) (lr_36 _ _) rfl (CA.sub (((hAy2 gc).exn (hA rfl)).ca) 7 2))),
 fun ρz wz hE hA ⟨e1, _⟩ ⟨u6, _⟩ => gIf rfl rfl (yF rfl u6) fun gc F hF => core_val rfl hF (o_move (e1.trans h1)),
 fun ρz wz hE hA _ ⟨u6, u11, u12, _⟩ => gIf rfl rfl (yF rfl u6) fun gc F hF => core_call hF (call_args2 (gt gc u11) (gt gc u12)) cf_40 (pensionref12_in_ok  _ _  (hz4 gc)),
 fun ρz wz hE hA _ ⟨u6, u13, _⟩ => gIf rfl rfl (yF rfl u6) fun gc F hF => core_val rfl hF (o_not (gt gc u13) rfl),
 fun ρz wz hE hA _ ⟨u6, u14, _⟩ => core_valE rfl rfl (congrArg Value.bool hc2) (o_pick_or u6 rfl u14), trivial⟩ ?_
      intro ρ9 w9 hN hf hr
      have h38 := hv hf 15 rfl rfl
      obtain ⟨h0, h1, h6, h7, h8⟩ := k5 hr h0 h1 h6 h7 h8 rfl
      have H_d_ := H_d_.exn hN
      have Hf6 := Hf6.exn hN
      have hW := hW.trans hN
      refine WP.cond rfl h38 (fun hb => ?_) (fun hb => ?_)
      · have hF := (if_pos hb).symm.trans hF
        refine WP.exit (thenQ_exit (blockQ_hit ?_))
        exact ⟨x, h0, h1, h6, h7, h8, H_d_, Hf6, hW, hF⟩
      have hF := (if_neg (Bool.eq_false_iff.1 hb)).symm.trans hF
      refine WP.skip (WP.seq ?_)
      obtain ⟨c3, hc3, hF⟩ := obind hF
      obtain ⟨y3, hy3, hc3⟩ := orB hc3
      obtain ⟨ay3, cy3, hvy3, hiy3, hAy3⟩ := RepSl.getFI Hf6 hy3
      obtain ⟨y4, hy4, hc3⟩ := orB hc3
      obtain ⟨ay4, cy4, hvy4, hiy4, hAy4⟩ := RepSl.getFI Hf6 hy4
      have hc3 := orE hc3
      obtain ⟨c5, hc5, hF⟩ := obind hF
      obtain ⟨y5, hy5, hc5⟩ := orB hc5
      obtain ⟨ay5, cy5, hvy5, hiy5, hAy5⟩ := RepSl.getFI Hf6 hy5
      obtain ⟨y6, hy6, hc5⟩ := orB hc5
      obtain ⟨ay6, cy6, hvy6, hiy6, hAy6⟩ := RepSl.getFI Hf6 hy6
      obtain ⟨c4, hc4, hc5⟩ := orB hc5
      obtain ⟨y7, hy7, hc4⟩ := andBI hc4
      obtain ⟨ay7, cy7, hvy7, hiy7, hAy7⟩ := RepSl.getFI Hf6 hy7
      obtain ⟨y8, hy8, hc4⟩ := andBI hc4
      obtain ⟨ay8, cy8, hvy8, hiy8, hAy8⟩ := RepSl.getFI Hf6 hy8
      have hc4 := andEI hc4
      have hc5 := orE hc5
      refine WP.rb mixed [[], [0], [1], [2], [2], [2, 3, 4], [2, 5], [2, 6], [2, 7], [2], [2], [2, 9, 10], [2, 11], [2, 12], [2, 13], [2, 8, 14], [2, 15], [16], [17], [17], [17, 18, 19], [17, 20], [17, 21], [17, 22], [17], [17], [17, 24, 25], [17, 26], [17, 27], [17, 28], [17, 23, 29], [17, 30], [31], [31], [31, 32, 33], [31, 34], [31, 35], [31], [31], [31, 37, 38], [31, 39], [31, 40], [31, 36, 41], [17, 31, 42], [17, 43]] [[7], [], [], [6], [8], [], [], [], [], [6], [7], [], [], [], [], [], [], [], [6], [8], [], [], [], [], [6], [7], [], [], [], [], [], [], [6], [8], [], [], [], [6], [7], [], [], [], [], [], []] [(39, .int .i64 x), (40, .bool (decide (x < 0))), (41, .bool (decide (x < 0))), (42, gv (!(decide (x < 0))) v6_), (43, gv (!(decide (x < 0))) (.int .i64 x2)), (44, gv (!(decide (x < 0))) (.pointer (some (ay3.add (Int.toNat x2 * 14))))), (45, gv (!(decide (x < 0))) (.pointer (some ((ay3.add (Int.toNat x2 * 14)).add 7)))), (46, gv (!(decide (x < 0))) (.pointer (some (((ay3.add (Int.toNat x2 * 14)).add 7).add 0)))), (47, gv (!(decide (x < 0))) (.int .i64 y3.Span.From)), (48, gv (!(decide (x < 0))) v6_), (49, gv (!(decide (x < 0))) (.int .i64 x)), (50, gv (!(decide (x < 0))) (.pointer (some (ay4.add (Int.toNat x * 14))))), (51, gv (!(decide (x < 0))) (.pointer (some ((ay4.add (Int.toNat x * 14)).add 7)))), (52, gv (!(decide (x < 0))) (.pointer (some (((ay4.add (Int.toNat x * 14)).add 7).add 0)))), (53, gv (!(decide (x < 0))) (.int .i64 y4.Span.From)), (54, gv (!(decide (x < 0))) (.bool (decide (y4.Span.From < y3.Span.From)))), (55, .bool c3), (56, .bool c3), (57, gv (!c3) v6_), (58, gv (!c3) (.int .i64 x2)), (59, gv (!c3) (.pointer (some (ay5.add (Int.toNat x2 * 14))))), (60, gv (!c3) (.pointer (some ((ay5.add (Int.toNat x2 * 14)).add 7)))), (61, gv (!c3) (.pointer (some (((ay5.add (Int.toNat x2 * 14)).add 7).add 0)))), (62, gv (!c3) (.int .i64 y5.Span.From)), (63, gv (!c3) v6_), (64, gv (!c3) (.int .i64 x)), (65, gv (!c3) (.pointer (some (ay6.add (Int.toNat x * 14))))), (66, gv (!c3) (.pointer (some ((ay6.add (Int.toNat x * 14)).add 7)))), (67, gv (!c3) (.pointer (some (((ay6.add (Int.toNat x * 14)).add 7).add 0)))), (68, gv (!c3) (.int .i64 y6.Span.From)), (69, gv (!c3) (.bool (y5.Span.From == y6.Span.From))), (70, gv (!c3) (.bool (y5.Span.From == y6.Span.From))), (71, gv ((!c3) && (y5.Span.From == y6.Span.From)) v6_), (72, gv ((!c3) && (y5.Span.From == y6.Span.From)) (.int .i64 x2)), (73, gv ((!c3) && (y5.Span.From == y6.Span.From)) (.pointer (some (ay7.add (Int.toNat x2 * 14))))), (74, gv ((!c3) && (y5.Span.From == y6.Span.From)) (.pointer (some ((ay7.add (Int.toNat x2 * 14)).add 6)))), (75, gv ((!c3) && (y5.Span.From == y6.Span.From)) (.int .i64 y7.State)), (76, gv ((!c3) && (y5.Span.From == y6.Span.From)) v6_), (77, gv ((!c3) && (y5.Span.From == y6.Span.From)) (.int .i64 x)), (78, gv ((!c3) && (y5.Span.From == y6.Span.From)) (.pointer (some (ay8.add (Int.toNat x * 14))))), (79, gv ((!c3) && (y5.Span.From == y6.Span.From)) (.pointer (some ((ay8.add (Int.toNat x * 14)).add 6)))), (80, gv ((!c3) && (y5.Span.From == y6.Span.From)) (.int .i64 y8.State)), (81, gv ((!c3) && (y5.Span.From == y6.Span.From)) (.bool (decide (y7.State < y8.State)))), (82, gv (!c3) (.bool c4)), (83, .bool c5)] (by kernel_rfl) ⟨mE rfl rfl h7,
 fun ρz wz hE hA _ ⟨u0, _⟩ => core_val rfl rfl (o_lss u0 rfl rfl),
 mU rfl rfl rfl,
 fun ρz wz hE hA ⟨e6, _⟩ ⟨u2, _⟩ => gIf rfl rfl (yF rfl u2) fun gc F hF => core_val rfl hF (o_move (e6.trans h6)),
 fun ρz wz hE hA ⟨e8, _⟩ ⟨u2, _⟩ => gIf rfl rfl (yF rfl u2) fun gc F hF => core_val rfl hF (o_move (e8.trans h8)),
 fun ρz wz hE hA _ ⟨u2, u3, u4, _⟩ => gIf rfl rfl (yF rfl u2) fun gc F hF => core_val rfl hF (o_indexAddr ((gt gc u3).trans (hvy3 gc)) (gt gc u4) (ia_24 (hiy3 gc))),
 fun ρz wz hE hA _ ⟨u2, u5, _⟩ => gIf rfl rfl (yF rfl u2) fun gc F hF => core_val rfl hF (o_fieldAddr (gt gc u5) (fa_38_7 _ _)),
 fun ρz wz hE hA _ ⟨u2, u6, _⟩ => gIf rfl rfl (yF rfl u2) fun gc F hF => core_val rfl hF (o_fieldAddr (gt gc u6) (fa_36_0 _ _)),
 fun ρz wz hE hA _ ⟨u2, u7, _⟩ => gIf rfl rfl (yF rfl u2) fun gc F hF => core_val rfl hF (o_load (gt gc u7) (run_load1 (lr_3 _ _) (CA.sub (CA.sub (((hAy3 gc).exn (hA rfl)).ca) 7 2) 0 1))),
 fun ρz wz hE hA ⟨e6, _⟩ ⟨u2, _⟩ => gIf rfl rfl (yF rfl u2) fun gc F hF => core_val rfl hF (o_move (e6.trans h6)),
 fun ρz wz hE hA ⟨e7, _⟩ ⟨u2, _⟩ => gIf rfl rfl (yF rfl u2) fun gc F hF => core_val rfl hF (o_move (e7.trans h7)),
 fun ρz wz hE hA _ ⟨u2, u9, u10, _⟩ => gIf rfl rfl (yF rfl u2) fun gc F hF => core_val rfl hF (o_indexAddr ((gt gc u9).trans (hvy4 gc)) (gt gc u10) (ia_24 (hiy4 gc))),
 fun ρz wz hE hA _ ⟨u2, u11, _⟩ => gIf rfl rfl (yF rfl u2) fun gc F hF => core_val rfl hF (o_fieldAddr (gt gc u11) (fa_38_7 _ _)),
 fun ρz wz hE hA _ ⟨u2, u12, _⟩ => gIf rfl rfl (yF rfl u2) fun gc F hF => core_val rfl hF (o_fieldAddr (gt gc u12) (fa_36_0 _ _)),
 fun ρz wz hE hA _ ⟨u2, u13, _⟩ => gIf rfl rfl (yF rfl u2) fun gc F hF => core_val rfl hF (o_load (gt gc u13) (run_load1 (lr_3 _ _) (CA.sub (CA.sub (((hAy4 gc).exn (hA rfl)).ca) 7 2) 0 1))),
 fun ρz wz hE hA _ ⟨u2, u8, u14, _⟩ => gIf rfl rfl (yF rfl u2) fun gc F hF => core_val rfl hF (o_gtr (gt gc u8) (gt gc u14) rfl),
 fun ρz wz hE hA _ ⟨u2, u15, _⟩ => core_valE rfl rfl (congrArg Value.bool hc3) (o_pick_or u2 rfl u15),
 mU rfl rfl rfl,
 fun ρz wz hE hA ⟨e6, _⟩ ⟨u17, _⟩ => gIf rfl rfl (yF rfl u17) fun gc F hF => core_val rfl hF (o_move (e6.trans h6)),
 fun ρz wz hE hA ⟨e8, _⟩ ⟨u17, _⟩ => gIf rfl rfl (yF rfl u17) fun gc F hF => core_val rfl hF (o_move (e8.trans h8)),
 fun ρz wz hE hA _ ⟨u17, u18, u19, _⟩ => gIf rfl rfl (yF rfl u17) fun gc F hF => core_val rfl hF (o_indexAddr ((gt gc u18).trans (hvy5 gc)) (gt gc u19) (ia_24 (hiy5 gc))),
 fun ρz wz hE hA _ ⟨u17, u20, _⟩ => gIf rfl rfl (yF rfl u17) fun gc F hF => core_val rfl hF (o_fieldAddr (gt gc u20) (fa_38_7 _ _)),
 fun ρz wz hE hA _ ⟨u17, u21, _⟩ => gIf rfl rfl (yF rfl u17) fun gc F hF => core_val rfl hF (o_fieldAddr (gt gc u21) (fa_36_0 _ _)),
 fun ρz wz hE hA _ ⟨u17, u22, _⟩ => gIf rfl rfl (yF rfl u17) fun gc F hF => core_val rfl hF (o_load (gt gc u22) (run_load1 (lr_3 _ _) (CA.sub (CA.sub (((hAy5 gc).exn (hA rfl)).ca) 7 2) 0 1))),
 fun ρz wz hE hA ⟨e6, _⟩ ⟨u17, _⟩ => gIf rfl rfl (yF rfl u17) fun gc F hF => core_val rfl hF (o_move (e6.trans h6)),
 fun ρz wz hE hA ⟨e7, _⟩ ⟨u17, _⟩ => gIf rfl rfl (yF rfl u17) fun gc F hF => core_val rfl hF (o_move (e7.trans h7)),
 fun ρz wz hE hA _ ⟨u17, u24, u25, _⟩ => gIf rfl rfl (yF rfl u17) fun gc F hF => core_val rfl hF (o_indexAddr ((gt gc u24).trans (hvy6 gc)) (gt gc u25) (ia_24 (hiy6 gc))),
 fun ρz wz hE hA _ ⟨u17, u26, _⟩ => gIf rfl rfl (yF rfl u17) fun gc F hF => core_val rfl hF (o_fieldAddr (gt gc u26) (fa_38_7 _ _)),
 fun ρz wz hE hA _ ⟨u17, u27, _⟩ => gIf rfl rfl (yF rfl u17) fun gc F hF => core_val rfl hF (o_fieldAddr (gt gc u27) (fa_36_0 _ _)),
 fun ρz wz hE hA _ ⟨u17, u28, _⟩ => gIf rfl rfl (yF rfl u17) fun gc F hF => core_val rfl hF (o_load (gt gc u28) (run_load1 (lr_3 _ _) (CA.sub (CA.sub (((hAy6 gc).exn (hA rfl)).ca) 7 2) 0 1))),
 fun ρz wz hE hA _ ⟨u17, u23, u29, _⟩ => gIf rfl rfl (yF rfl u17) fun gc F hF => core_val rfl hF (o_eql (gt gc u23) (gt gc u29) rfl),
 fun ρz wz hE hA _ ⟨u17, u30, _⟩ => gIf rfl rfl (yF rfl u17) fun gc F hF => core_val rfl hF (o_move (gt gc u30)),
 fun ρz wz hE hA ⟨e6, _⟩ ⟨u31, _⟩ => gIf rfl rfl (yTG rfl u31) fun gc F hF => core_val rfl hF (o_move (e6.trans h6)),
 fun ρz wz hE hA ⟨e8, _⟩ ⟨u31, _⟩ => gIf rfl rfl (yTG rfl u31) fun gc F hF => core_val rfl hF (o_move (e8.trans h8)),
 fun ρz wz hE hA _ ⟨u31, u32, u33, _⟩ => gIf rfl rfl (yTG rfl u31) fun gc F hF => core_val rfl hF (o_indexAddr ((gt gc u32).trans (hvy7 gc)) (gt gc u33) (ia_24 (hiy7 gc))),
 fun ρz wz hE hA _ ⟨u31, u34, _⟩ => gIf rfl rfl (yTG rfl u31) fun gc F hF => core_val rfl hF (o_fieldAddr (gt gc u34) (fa_38_6 _ _)),
 fun ρz wz hE hA _ ⟨u31, u35, _⟩ => gIf rfl rfl (yTG rfl u31) fun gc F hF => core_val rfl hF (o_load (gt gc u35) (run_load1 (lr_3 _ _) (CA.sub (((hAy7 gc).exn (hA rfl)).ca) 6 1))),
 fun ρz wz hE hA ⟨e6, _⟩ ⟨u31, _⟩ => gIf rfl rfl (yTG rfl u31) fun gc F hF => core_val rfl hF (o_move (e6.trans h6)),
 fun ρz wz hE hA ⟨e7, _⟩ ⟨u31, _⟩ => gIf rfl rfl (yTG rfl u31) fun gc F hF => core_val rfl hF (o_move (e7.trans h7)),
 fun ρz wz hE hA _ ⟨u31, u37, u38, _⟩ => gIf rfl rfl (yTG rfl u31) fun gc F hF => core_val rfl hF (o_indexAddr ((gt gc u37).trans (hvy8 gc)) (gt gc u38) (ia_24 (hiy8 gc))),
 fun ρz wz hE hA _ ⟨u31, u39, _⟩ => gIf rfl rfl (yTG rfl u31) fun gc F hF => core_val rfl hF (o_fieldAddr (gt gc u39) (fa_38_6 _ _)),
 fun ρz wz hE hA _ ⟨u31, u40, _⟩ => gIf rfl rfl (yTG rfl u31) fun gc F hF => core_val rfl hF (o_load (gt gc u40) (run_load1 (lr_3 _ _) (CA.sub (((hAy8 gc).exn (hA rfl)).ca) 6 1))),
 fun ρz wz hE hA _ ⟨u31, u36, u41, _⟩ => gIf rfl rfl (yTG rfl u31) fun gc F hF => core_val rfl hF (o_lss (gt gc u36) (gt gc u41) rfl),
 fun ρz wz hE hA _ ⟨u17, u31, u42, _⟩ => gIf rfl rfl (yF rfl u17) fun gc F hF => core_valE rfl hF (congrArg Value.bool (hc4 gc)) (o_pick_and (gt gc u31) (gr gc u42) rfl),
 fun ρz wz hE hA _ ⟨u17, u43, _⟩ => core_valE rfl rfl (congrArg Value.bool hc5) (o_pick_or u17 rfl u43), trivial⟩ ?_
      intro ρ10 w10 hN hf hr
      have h83 := hv hf 44 rfl rfl
      obtain ⟨h0, h1, h6, h7, h8⟩ := k5 hr h0 h1 h6 h7 h8 rfl
      have H_d_ := H_d_.exn hN
      have Hf6 := Hf6.exn hN
      have hW := hW.trans hN
      refine WP.cond rfl h83 (fun hb => ?_) (fun hb => ?_)
      · have hF := (if_pos hb).symm.trans hF
        refine WP.rb mixed [[], [0]] [[8], []] [(84, .int .i64 x2), (7, .int .i64 x2)] (by kernel_rfl) ⟨mE rfl rfl h8,
 aU rfl rfl rfl, trivial⟩ ?_
        intro ρ11 w11 hN hf hr
        have h7 := hv hf 1 rfl rfl
        obtain ⟨h0, h1, h6, h8⟩ := k4 hr h0 h1 h6 h8 rfl
        have H_d_ := H_d_.exn hN
        have Hf6 := Hf6.exn hN
        have hW := hW.trans hN
        exact ⟨x2, h0, h1, h6, h7, h8, H_d_, Hf6, hW, hF⟩
      have hF := (if_neg (Bool.eq_false_iff.1 hb)).symm.trans hF
      refine WP.skip ?_
      exact ⟨x, h0, h1, h6, h7, h8, H_d_, Hf6, hW, hF⟩
    rintro ρ7 w7 ⟨x3, h0, h1, h6, h7, h8, H_d_, Hf6, hW, hF⟩
    rw [pensionref12_Residence_j] at hF
    refine WP.rv mixed [[], [0], [0, 1]] [[], [0], [1]] [[8], [], []] [(21, .int .i64 x2), (22, .int .i64 (i64 (x2 + 1))), (8, .int .i64 (i64 (x2 + 1)))] (by kernel_rfl) ⟨mE rfl rfl h8,
 fun ρz wz hE hA _ ⟨u0, _⟩ => core_val rfl rfl (o_add u0 rfl rfl),
 aU rfl rfl rfl, trivial⟩ ?_
    intro ρ8 w8 hN hf hr
    have h8 := hv hf 2 rfl rfl
    obtain ⟨h0, h1, h6, h7⟩ := k4 hr h0 h1 h6 h7 rfl
    have H_d_ := H_d_.exn hN
    have Hf6 := Hf6.exn hN
    have hW := hW.trans hN
    exact ⟨x3, i64 (x2 + 1), h0, h1, h6, h7, h8, H_d_, Hf6, hW, (by first | exact hF | (rw [hrec_]; exact hF))⟩
  have hF := (if_neg (Bool.eq_false_iff.1 hb)).symm.trans hF
  refine WP.exit (thenQ_exit (thenQ_exit (blockQ_hit (WP.seq (WP.seq (WP.rb mixed [[], [0]] [[7], []] [(85, .int .i64 x), (86, .bool (decide (x < 0)))] (by kernel_rfl) ⟨mE rfl rfl h7,
 fun ρz wz hE hA _ ⟨u0, _⟩ => core_val rfl rfl (o_lss u0 rfl rfl), trivial⟩ ?_))))))
  intro ρ12 w12 hN hf hr
  have h86 := hv hf 1 rfl rfl
  obtain ⟨h6, h7⟩ := k2 hr h6 h7 rfl
  have Hf6 := Hf6.exn hN
  have hW := hW.trans hN
  refine WP.cond rfl h86 (fun hb => ?_) (fun hb => ?_)
  · have hF := (if_pos hb).symm.trans hF
    refine WP.seq (WP.rb mixed [[], []] [[], []] [(4, .int .i64 0), (5, .bool false)] (by kernel_rfl) ⟨aC rfl rfl (fun _ => rfl),
 aC rfl rfl (fun _ => rfl), trivial⟩ ?_)
    intro ρ13 w13 hN hf hr
    have h4 := hv hf 0 rfl rfl
    have h5 := hv hf 1 rfl rfl
    have hW := hW.trans hN
    refine WP.ret ?_
    show retQ Tryz.prog 92 Tryz.f19 (fun v w1 => v = .tuple #[.int .i64 r.1, .bool r.2] ∧ Ext noG w0 w1) .ret ρ13 w13
    obtain rfl := Option.some.inj hF
    exact res2 rfl (by decide) (by decide) h4 h5 ⟨rfl, hW⟩
  have hF := (if_neg (Bool.eq_false_iff.1 hb)).symm.trans hF
  refine WP.skip (WP.seq ?_)
  obtain ⟨y9, hy9, hF⟩ := obind hF
  obtain ⟨ay9, cy9, hvy9, hiy9, hAy9⟩ := RepSl.getF Hf6 hy9
  refine WP.rb mixed [[], [], [0, 1], [2], [3], [4], []] [[6], [7], [], [], [], [], []] [(87, v6_), (88, .int .i64 x), (89, .pointer (some (ay9.add (Int.toNat x * 14)))), (90, .pointer (some ((ay9.add (Int.toNat x * 14)).add 6))), (91, .int .i64 y9.State), (4, .int .i64 y9.State), (5, .bool true)] (by kernel_rfl) ⟨mE rfl rfl h6,
 mE rfl rfl h7,
 fun ρz wz hE hA _ ⟨u0, u1, _⟩ => core_val rfl rfl (o_indexAddr (u0.trans hvy9) u1 (ia_24 hiy9)),
 fun ρz wz hE hA _ ⟨u2, _⟩ => core_val rfl rfl (o_fieldAddr u2 (fa_38_6 _ _)),
 fun ρz wz hE hA _ ⟨u3, _⟩ => core_val rfl rfl (o_load u3 (run_load1 (lr_3 _ _) (CA.sub ((hAy9.exn (hA rfl)).ca) 6 1))),
 aU rfl rfl rfl,
 aC rfl rfl (fun _ => rfl), trivial⟩ ?_
  intro ρ14 w14 hN hf hr
  have h4 := hv hf 5 rfl rfl
  have h5 := hv hf 6 rfl rfl
  have hW := hW.trans hN
  refine WP.ret ?_
  show retQ Tryz.prog 92 Tryz.f19 (fun v w1 => v = .tuple #[.int .i64 r.1, .bool r.2] ∧ Ext noG w0 w1) .ret ρ14 w14
  obtain rfl := Option.some.inj hF
  exact res2 rfl (by decide) (by decide) h4 h5 ⟨rfl, hW⟩

set_option maxHeartbeats 4000000 in
theorem pensionref21_Home_ok {w0 : World} (list_ : List api_Fact) (child_ : Int) (day_ : Int) {v_list_ : Value} (H_list_ : RepSl api_Fact.R noG w0 v_list_ list_) {r : Int × Bool} (hF : pensionref21_Home list_ child_ day_ = some r) :
    Calls Tryz.prog 8 #[v_list_, .int .i64 child_, .int .i64 day_] w0 fun e w1 => e = .returned (.tuple #[.int .i64 r.1, .bool r.2]) ∧ Ext noG w0 w1 := by
  refine (Calls.start (P := Tryz.prog) (args := [v_list_, .int .i64 child_, .int .i64 day_]) (R := fun v w1 => v = .tuple #[.int .i64 r.1, .bool r.2] ∧ Ext noG w0 w1) (n := 26) (w := w0) Tryz.func8 rfl rfl (Nat.le_of_ble_eq_true rfl) (fun ρ hargs => ?_)).mono (fun e w1 ⟨v, he, hv, hE⟩ => ⟨hv ▸ he, hE⟩)
  have h0 := hargs 0 _ rfl
  have h1 := hargs 1 _ rfl
  have h2 := hargs 2 _ rfl
  have hW := Ext.refl noG w0
  obtain ⟨_, _, hs_H_list_, _, _⟩ := RepSl.shape H_list_
  have H_list_ := H_list_.start
  rw [pensionref21_Home] at hF
  refine WP.seq (WP.rb mixed [[], []] [[], []] [(6, .int .i64 0), (7, .bool false)] (by kernel_rfl) ⟨aC rfl rfl (fun _ => rfl),
 aC rfl rfl (fun _ => rfl), trivial⟩ ?_)
  intro ρ1 w1 hN hf hr
  obtain ⟨h0, h1, h2⟩ := k3 hr h0 h1 h2 rfl
  have H_list_ := H_list_.exn hN
  have hW := hW.trans hN
  refine WP.seq ?_
  obtain ⟨z, hz, hF⟩ := obind hF
  refine WP.rg mixed [[], [], [], [0, 1, 2], [3]] [[], [], [], [0, 1, 2], [3]] [[0], [1], [2], [], []] [val 9 (v_list_), val 10 (.int .i64 child_), val 11 (.int .i64 day_), (12, fun u wz => Own w0.heap.size 3 1 (fun x : Int => [Value.int .i64 x]) wz u z ∧ ∀ b, u.ownBlock = some b → w1.heap.size ≤ b), (8, fun u wz => Own w0.heap.size 3 1 (fun x : Int => [Value.int .i64 x]) wz u z ∧ ∀ b, u.ownBlock = some b → w1.heap.size ≤ b)] (by kernel_rfl) ⟨sV, sV, sV, fun _ _ _ hE ⟨hO, hf⟩ => ⟨hO.exn hE, hf⟩, fun _ _ _ hE ⟨hO, hf⟩ => ⟨hO.exn hE, hf⟩, trivial⟩ ⟨mE rfl rfl h0,
 mE rfl rfl h1,
 mE rfl rfl h2,
 fun ρz wz hE hA _ ⟨u0, u1, u2, _⟩ => core_callR rfl (call_args3 u0 u1 u2) cf_12 ((pensionref21_Parents_ok  _ _ _ (H_list_.exn (hA rfl)).no hz).mono (fun e w1 ⟨v, he, hE1, hO⟩ => ⟨v, he, hE1, hO.base (Nat.le_trans hW.size hE.size), fun b hb => Nat.le_trans hE.size (hO.lt hb).1⟩)),
 fun ρz wz hE hA _ ⟨⟨hO3, hfr3⟩, _⟩ => core_copy rfl rfl (o_assign rfl) ⟨hO3, hfr3⟩, trivial⟩ ?_
  intro ρ2 w2 hN hf hr
  obtain ⟨v8_, h8⟩ : ∃ v, ρ2 8 = v := ⟨_, rfl⟩
  have hq8 : (fun u wz => Own w0.heap.size 3 1 (fun x : Int => [Value.int .i64 x]) wz u z ∧ ∀ b, u.ownBlock = some b → w1.heap.size ≤ b) (ρ2 8) w2 := hf 4 rfl
  rw [h8] at hq8
  obtain ⟨hq8, hfr8⟩ := hq8
  obtain ⟨h0, h2⟩ := k2 hr h0 h2 rfl
  have H_list_ := H_list_.exn hN
  have hW := hW.trans hN
  have Hf8 : RepSl intR noG w2 v8_ z := hq8.rep (fun _ _ h => h)
  obtain ⟨_, _, hs_Hf8, _, _⟩ := RepSl.shape Hf8
  refine WP.seq (WP.seq (WP.rb mixed [[], [0], [1]] [[8], [], []] [(13, v8_), (14, .int .i64 (z.length : Int)), (15, .bool ((z.length : Int) == 0))] (by kernel_rfl) ⟨mE rfl rfl h8,
 fun ρz wz hE hA _ ⟨u0, _⟩ => core_val rfl rfl (o_len (u0.trans hs_Hf8) len_22),
 fun ρz wz hE hA _ ⟨u1, _⟩ => core_val rfl rfl (o_eql u1 rfl rfl), trivial⟩ ?_))
  intro ρ3 w3 hN hf hr
  have h15 := hv hf 2 rfl rfl
  obtain ⟨h0, h2, h8⟩ := k3 hr h0 h2 h8 rfl
  have H_list_ := H_list_.exn hN
  have Hf8 := Hf8.exn hN
  have hW := hW.trans hN
  refine WP.cond rfl h15 (fun hb => ?_) (fun hb => ?_)
  · have hF := (if_pos hb).symm.trans hF
    refine WP.seq (WP.rb mixed [[], []] [[], []] [(6, .int .i64 0), (7, .bool false)] (by kernel_rfl) ⟨aC rfl rfl (fun _ => rfl),
 aC rfl rfl (fun _ => rfl), trivial⟩ ?_)
    intro ρ4 w4 hN hf hr
    have h6 := hv hf 0 rfl rfl
    have h7 := hv hf 1 rfl rfl
    have hW := hW.trans hN
    refine WP.ret ?_
    show retQ Tryz.prog 26 Tryz.f8 (fun v w1 => v = .tuple #[.int .i64 r.1, .bool r.2] ∧ Ext noG w0 w1) .ret ρ4 w4
    obtain rfl := Option.some.inj hF
    exact res2 rfl (by decide) (by decide) h6 h7 ⟨rfl, hW⟩
  have hF := (if_neg (Bool.eq_false_iff.1 hb)).symm.trans hF
  refine WP.skip (WP.seq ?_)
  obtain ⟨z2, hz2, hF⟩ := obind hF
  obtain ⟨y, hy, hF⟩ := obind hF
  obtain ⟨ay, cy, hvy, hiy, hAy⟩ := RepSl.getF Hf8 hy
  obtain ⟨z3, hz3, hF⟩ := obind hF
  obtain ⟨z4, hz4, hF⟩ := obind hF
  refine WP.rg mixed [[], [0], [], [2], [3], [1, 4], [], [5, 6], [7], [7], [8], [9]] [[], [0], [], [2], [3], [1, 4], [], [5, 6], [7], [7], [8], [9]] [[0], [], [8], [], [], [], [2], [], [], [], [], []] [val 16 (v_list_), (17, fun u wz => Own w0.heap.size 38 14 api_Fact.cells wz u z2 ∧ ∀ b, u.ownBlock = some b → w3.heap.size ≤ b), val 18 (v8_), val 19 (.pointer (some (ay.add (Int.toNat 0 * 1)))), val 20 (.int .i64 y), (21, fun u wz => Own w0.heap.size 38 14 api_Fact.cells wz u z3 ∧ ∀ b, u.ownBlock = some b → w3.heap.size ≤ b), val 22 (.int .i64 day_), val 23 (.tuple #[.int .i64 z4.1, .bool z4.2]), val 24 (.int .i64 z4.1), val 25 (.bool z4.2), val 6 (.int .i64 z4.1), val 7 (.bool z4.2)] (by kernel_rfl) ⟨sV, fun _ _ _ hE ⟨hO, hf⟩ => ⟨hO.exn hE, hf⟩, sV, sV, sV, fun _ _ _ hE ⟨hO, hf⟩ => ⟨hO.exn hE, hf⟩, sV, sV, sV, sV, sV, sV, trivial⟩ ⟨mE rfl rfl h0,
 fun ρz wz hE hA _ ⟨u0, _⟩ => core_callR rfl (call_args1 u0) cf_21 ((pensionref21_facts_ok  _ (H_list_.exn (hA rfl)).no hz2).mono (fun e w1 ⟨v, he, hE1, hO⟩ => ⟨v, he, hE1, hO.base (Nat.le_trans hW.size hE.size), fun b hb => Nat.le_trans hE.size (hO.lt hb).1⟩)),
 mE rfl rfl h8,
 fun ρz wz hE hA _ ⟨u2, _⟩ => core_val rfl rfl (o_indexAddr (u2.trans hvy) rfl (ia_22 hiy)),
 fun ρz wz hE hA _ ⟨u3, _⟩ => core_val rfl rfl (o_load u3 (run_load1 (lr_3 _ _) ((hAy.exn (hA rfl)).ca))),
 fun ρz wz hE hA _ ⟨⟨hO1, hfr1⟩, u4, _⟩ => core_callR rfl (call_args2 rfl u4) cf_20 ((pensionref12_Of_ok  _ _ (hO1.rep (hn := fun _ => rfl) (G := noG) (fun _ _ h => h)).no hz3).mono (fun e w1 ⟨v, he, hE1, hO⟩ => ⟨v, he, hE1, hO.base (Nat.le_trans hW.size hE.size), fun b hb => Nat.le_trans hE.size (hO.lt hb).1⟩)),
 mE rfl rfl h2,
 fun ρz wz hE hA _ ⟨⟨hO5, hfr5⟩, u6, _⟩ => core_call rfl (call_args2 rfl u6) cf_19 (pensionref12_Residence_ok  _ _ (hO5.rep (hn := fun _ => rfl) (G := noG) (fun _ _ h => h)).no hz4),
 fun ρz wz hE hA _ ⟨u7, _⟩ => core_val rfl rfl (o_extract u7 (by kernel_rfl)),
 fun ρz wz hE hA _ ⟨u7, _⟩ => core_val rfl rfl (o_extract u7 (by kernel_rfl)),
 aU rfl rfl rfl,
 aU rfl rfl rfl, trivial⟩ ?_
  intro ρ5 w5 hN hf hr
  have h6 : ρ5 6 = .int .i64 z4.1 := hf 10 rfl
  have h7 : ρ5 7 = .bool z4.2 := hf 11 rfl
  have hW := hW.trans hN
  refine WP.ret ?_
  show retQ Tryz.prog 26 Tryz.f8 (fun v w1 => v = .tuple #[.int .i64 r.1, .bool r.2] ∧ Ext noG w0 w1) .ret ρ5 w5
  obtain rfl := Option.some.inj hF
  exact res2 rfl (by decide) (by decide) h6 h7 ⟨rfl, hW⟩

set_option maxHeartbeats 4000000 in
theorem family_valid_1_ok {w0 : World} (o_ : Right) (c_ : Right) {bc1_ : Nat} (Hb_bc1_ : Mb w0 bc1_ 46 (Right.cells c_)) {r : Bool} (hF : family_valid_1 o_ c_ = some r) :
    Calls Tryz.prog 70 #[Right.val o_, .pointer (some ⟨bc1_, 0, none⟩)] w0 fun e w1 => e = .returned (.bool r) ∧ Ext noG w0 w1 := by
  refine (Calls.start (P := Tryz.prog) (args := [Right.val o_, .pointer (some ⟨bc1_, 0, none⟩)]) (R := fun v w1 => v = .bool r ∧ Ext noG w0 w1) (n := 9) (w := w0) Tryz.func70 rfl rfl (Nat.le_of_ble_eq_true rfl) (fun ρ hargs => ?_)).mono (fun e w1 ⟨v, he, hv, hE⟩ => ⟨hv ▸ he, hE⟩)
  have h0 := hargs 0 _ rfl
  have h1 := hargs 1 _ rfl
  have hW := Ext.refl noG w0
  rw [family_valid_1] at hF
  refine WP.seq (WP.rg mixed [[], []] [[], []] [[0], []] [(2, fun u wz => ∃ b, u = .pointer (some ⟨b, 0, none⟩) ∧ w0.heap.size ≤ b ∧ Mb wz b 46 (Right.cells o_)), val 3 (.bool false)] (by kernel_rfl) ⟨fun _ _ _ hE ⟨b, hb, hs, hM⟩ => ⟨b, hb, hs, hM.exn hE⟩, sV, trivial⟩ ⟨fun ρz wz hE hA ⟨e0, _⟩ _ => core_new rfl rfl hE (o_box (e0.trans h0) (bx_46 _ _)),
 aC rfl rfl (fun _ => rfl), trivial⟩ ?_)
  intro ρ1 w1 hN hf hr
  obtain ⟨b2_, h2, hge_b2_, Hb_b2_⟩ := hf 0 rfl
  have h1 := (hr 1 rfl).trans h1
  have Hb_bc1_n := Hb_bc1_.exn hN
  have hB_b2_ : w0.heap.size ≤ b2_ := Nat.le_trans hW.size hge_b2_
  have hW := hW.trans hN
  have Hb_bc1_ := Hb_bc1_n
  refine WP.seq (WP.rb mixed [[], [0], [], [2], [1, 3], [4]] [[2], [], [1], [], [], []] [(4, .pointer (some ((⟨b2_, 0, none⟩ : Addr).add 0))), (5, .int .i64 o_.State), (6, .pointer (some ((⟨bc1_, 0, none⟩ : Addr).add 0))), (7, .int .i64 c_.State), (8, .bool (o_.State == c_.State)), (3, .bool (o_.State == c_.State))] (by kernel_rfl) ⟨fun ρz wz hE hA ⟨e2, _⟩ _ => core_val rfl rfl (o_fieldAddr (e2.trans h2) (fa_46_0 _ _)),
 fun ρz wz hE hA _ ⟨u0, _⟩ => core_val rfl rfl (o_load u0 (run_load1 (lr_3 _ _) (CA.sub ((Hb_b2_.exn (hA rfl)).ca) 0 1))),
 fun ρz wz hE hA ⟨e1, _⟩ _ => core_val rfl rfl (o_fieldAddr (e1.trans h1) (fa_46_0 _ _)),
 fun ρz wz hE hA _ ⟨u2, _⟩ => core_val rfl rfl (o_load u2 (run_load1 (lr_3 _ _) (CA.sub ((Hb_bc1_.exn (hA rfl)).ca) 0 1))),
 fun ρz wz hE hA _ ⟨u1, u3, _⟩ => core_val rfl rfl (o_eql u1 u3 rfl),
 aU rfl rfl rfl, trivial⟩ ?_)
  intro ρ2 w2 hN hf hr
  have h3 := hv hf 5 rfl rfl
  have hW := hW.trans hN
  refine WP.ret ?_
  show retQ Tryz.prog 9 Tryz.f70 (fun v w1 => v = .bool r ∧ Ext noG w0 w1) .ret ρ2 w2
  obtain rfl := Option.some.inj hF
  exact res1 rfl (by decide) h3 ⟨rfl, hW⟩

set_option maxHeartbeats 4000000 in
theorem slices_IndexFunc_of_api_Right_ok {w0 : World} (s_ : List Right) (f_ : Right → Option Bool) {v_s_ : Value} (H_s_ : RepSl Right.R noG w0 v_s_ s_) {v_f_ : Value} (H_f_ : FnR Tryz.prog fnV_93 fnW_93 f_ noG w0 v_f_) {r : Int} (hF : slices_IndexFunc_of_api_Right s_ f_ = some r) :
    Calls Tryz.prog 98 #[v_s_, v_f_] w0 fun e w1 => e = .returned (.int .i64 r) ∧ Ext noG w0 w1 := by
  refine (Calls.start (P := Tryz.prog) (args := [v_s_, v_f_]) (R := fun v w1 => v = .int .i64 r ∧ Ext noG w0 w1) (n := 19) (w := w0) Tryz.func98 rfl rfl (Nat.le_of_ble_eq_true rfl) (fun ρ hargs => ?_)).mono (fun e w1 ⟨v, he, hv, hE⟩ => ⟨hv ▸ he, hE⟩)
  have h0 := hargs 0 _ rfl
  have h1 := hargs 1 _ rfl
  have hW := Ext.refl noG w0
  obtain ⟨_, _, hs_H_s_, _, _⟩ := RepSl.shape H_s_
  have H_s_ := H_s_.start
  have H_f_ := H_f_.start
  rw [slices_IndexFunc_of_api_Right] at hF
  refine WP.seq (WP.rb mixed [[]] [[]] [(4, .int .i64 0)] (by kernel_rfl) ⟨aC rfl rfl (fun _ => rfl), trivial⟩ ?_)
  intro ρ1 w1 hN hf hr
  obtain ⟨h0, h1⟩ := k2 hr h0 h1 rfl
  have H_s_ := H_s_.exn hN
  have H_f_ := H_f_.exn hN
  have hW := hW.trans hN
  refine WP.seq (WP.seq (WP.rb mixed [[], [0], []] [[0], [], []] [(6, v_s_), (7, .int .i64 (s_.length : Int)), (8, .int .i64 0)] (by kernel_rfl) ⟨mE rfl rfl h0,
 fun ρz wz hE hA _ ⟨u0, _⟩ => core_val rfl rfl (o_len (u0.trans hs_H_s_) len_47),
 mC rfl rfl (fun _ => rfl), trivial⟩ ?_))
  intro ρ2 w2 hN hf hr
  have h7 := hv hf 1 rfl rfl
  have h8 := hv hf 2 rfl rfl
  obtain ⟨h0, h1⟩ := k2 hr h0 h1 rfl
  have H_s_ := H_s_.exn hN
  have H_f_ := H_f_.exn hN
  have hW := hW.trans hN
  refine WP.block (WP.loop (fun k_ ρ w => ∃ x : Int, ρ 0 = v_s_ ∧ ρ 1 = v_f_ ∧ ρ 7 = .int .i64 (s_.length : Int) ∧ ρ 8 = .int .i64 x ∧ RepSl Right.R (gfr noG w0) w v_s_ s_ ∧ FnR Tryz.prog fnV_93 fnW_93 f_ (gfr noG w0) w v_f_ ∧ Ext noG w0 w ∧ loopC k_ (slices_IndexFunc_of_api_Right_l s_ f_) x = some r) FU ⟨0, h0, h1, h7, h8, H_s_, H_f_, hW, hF⟩ (fun _ _ h => by obtain ⟨_, _, _, _, _, _, _, _, h⟩ := h; cases h) ?_)
  rintro k_ ρ3 w3 ⟨x, h0, h1, h7, h8, H_s_, H_f_, hW, hF⟩
  have hF : slices_IndexFunc_of_api_Right_l s_ f_ (loopC k_ (slices_IndexFunc_of_api_Right_l s_ f_)) x = some r := (loopC_succ k_ (slices_IndexFunc_of_api_Right_l s_ f_) x).symm.trans hF
  generalize hrec_ : loopC k_ (slices_IndexFunc_of_api_Right_l s_ f_) = rec_ at hF
  rw [slices_IndexFunc_of_api_Right_l] at hF
  refine WP.seq (WP.rb mixed [[]] [[8, 7]] [(9, .bool (decide (x < (s_.length : Int))))] (by kernel_rfl) ⟨fun ρz wz hE hA ⟨e8, e7, _⟩ _ => core_val rfl rfl (o_lss (e8.trans h8) (e7.trans h7) rfl), trivial⟩ ?_)
  intro ρ4 w4 hN hf hr
  have h9 := hv hf 0 rfl rfl
  obtain ⟨h0, h1, h7, h8⟩ := k4 hr h0 h1 h7 h8 rfl
  have H_s_ := H_s_.exn hN
  have H_f_ := H_f_.exn hN
  have hW := hW.trans hN
  refine WP.seq (WP.cond rfl h9 (fun hb => ?_) (fun hb => ?_))
  · have hF := (if_pos hb).symm.trans hF
    refine WP.skip (WP.seq (WP.block (WP.seq (WP.rb mixed [[], [0]] [[8], []] [(10, .int .i64 x), (5, .int .i64 x)] (by kernel_rfl) ⟨mE rfl rfl h8,
 aU rfl rfl rfl, trivial⟩ ?_))))
    intro ρ5 w5 hN hf hr
    have h5 := hv hf 1 rfl rfl
    obtain ⟨h0, h1, h7, h8⟩ := k4 hr h0 h1 h7 h8 rfl
    have H_s_ := H_s_.exn hN
    have H_f_ := H_f_.exn hN
    have hW := hW.trans hN
    refine WP.seq ?_
    obtain ⟨y, hy, hF⟩ := obind hF
    obtain ⟨ay, cy, hvy, hiy, hAy⟩ := RepSl.getF H_s_ hy
    obtain ⟨z, hz, hF⟩ := obind hF
    refine WP.rb mixed [[], [], [], [1, 2], [3], [0, 4]] [[1], [0], [5], [], [], []] [(11, v_f_), (12, v_s_), (13, .int .i64 x), (14, .pointer (some (ay.add (Int.toNat x * 4)))), (15, Right.val y), (16, .bool z)] (by kernel_rfl) ⟨mE rfl rfl h1,
 mE rfl rfl h0,
 mE rfl rfl h5,
 fun ρz wz hE hA _ ⟨u1, u2, _⟩ => core_val rfl rfl (o_indexAddr (u1.trans hvy) u2 (ia_47 hiy)),
 fun ρz wz hE hA _ ⟨u3, _⟩ => core_val rfl rfl (o_load u3 (run_loadN (cs := (Right.cells y)) (lr_46 _ _) rfl ((hAy.exn (hA rfl)).ca))),
 fun ρz wz hE hA _ ⟨u0, u4, _⟩ => core_callF (V := fnV_93) (W := fnW_93) (a := y) (r := z) rfl u0 (call_args1 u4) (H_f_.exn (hA rfl)).no hz, trivial⟩ ?_
    intro ρ6 w6 hN hf hr
    have h16 := hv hf 5 rfl rfl
    obtain ⟨h0, h1, h7, h8, h5⟩ := k5 hr h0 h1 h7 h8 h5 rfl
    have H_s_ := H_s_.exn hN
    have H_f_ := H_f_.exn hN
    have hW := hW.trans hN
    refine WP.cond rfl h16 (fun hb => ?_) (fun hb => ?_)
    · exact nomatch (if_pos hb).symm.trans hF
    have hF := (if_neg (Bool.eq_false_iff.1 hb)).symm.trans hF
    refine WP.skip (WP.rb mixed [[], [0]] [[8], []] [(18, .int .i64 (i64 (x + 1))), (8, .int .i64 (i64 (x + 1)))] (by kernel_rfl) ⟨fun ρz wz hE hA ⟨e8, _⟩ _ => core_val rfl rfl (o_add (e8.trans h8) rfl rfl),
 mU rfl rfl rfl, trivial⟩ ?_)
    intro ρ8 w8 hN hf hr
    have h8 := hv hf 1 rfl rfl
    obtain ⟨h0, h1, h7⟩ := k3 hr h0 h1 h7 rfl
    have H_s_ := H_s_.exn hN
    have H_f_ := H_f_.exn hN
    have hW := hW.trans hN
    exact ⟨i64 (x + 1), h0, h1, h7, h8, H_s_, H_f_, hW, (by first | exact hF | (rw [hrec_]; exact hF))⟩
  have hF := (if_neg (Bool.eq_false_iff.1 hb)).symm.trans hF
  refine WP.exit (thenQ_exit (thenQ_exit (blockQ_hit (WP.seq (WP.rb mixed [[]] [[]] [(4, .int .i64 (-1))] (by kernel_rfl) ⟨aC rfl rfl (fun _ => rfl), trivial⟩ ?_)))))
  intro ρ9 w9 hN hf hr
  have h4 := hv hf 0 rfl rfl
  have hW := hW.trans hN
  refine WP.ret ?_
  show retQ Tryz.prog 19 Tryz.f98 (fun v w1 => v = .int .i64 r ∧ Ext noG w0 w1) .ret ρ9 w9
  obtain rfl := Option.some.inj hF
  exact res1 rfl (by decide) h4 ⟨rfl, hW⟩

set_option maxHeartbeats 4000000 in
theorem slices_ContainsFunc_of_api_Right_ok {w0 : World} (s_ : List Right) (f_ : Right → Option Bool) {v_s_ : Value} (H_s_ : RepSl Right.R noG w0 v_s_ s_) {v_f_ : Value} (H_f_ : FnR Tryz.prog fnV_93 fnW_93 f_ noG w0 v_f_) {r : Bool} (hF : slices_ContainsFunc_of_api_Right s_ f_ = some r) :
    Calls Tryz.prog 69 #[v_s_, v_f_] w0 fun e w1 => e = .returned (.bool r) ∧ Ext noG w0 w1 := by
  refine (Calls.start (P := Tryz.prog) (args := [v_s_, v_f_]) (R := fun v w1 => v = .bool r ∧ Ext noG w0 w1) (n := 9) (w := w0) Tryz.func69 rfl rfl (Nat.le_of_ble_eq_true rfl) (fun ρ hargs => ?_)).mono (fun e w1 ⟨v, he, hv, hE⟩ => ⟨hv ▸ he, hE⟩)
  have h0 := hargs 0 _ rfl
  have h1 := hargs 1 _ rfl
  have hW := Ext.refl noG w0
  obtain ⟨_, _, hs_H_s_, _, _⟩ := RepSl.shape H_s_
  have H_s_ := H_s_.start
  have H_f_ := H_f_.start
  rw [slices_ContainsFunc_of_api_Right] at hF
  refine WP.seq (WP.rb mixed [[]] [[]] [(4, .bool false)] (by kernel_rfl) ⟨aC rfl rfl (fun _ => rfl), trivial⟩ ?_)
  intro ρ1 w1 hN hf hr
  obtain ⟨h0, h1⟩ := k2 hr h0 h1 rfl
  have H_s_ := H_s_.exn hN
  have H_f_ := H_f_.exn hN
  have hW := hW.trans hN
  refine WP.seq ?_
  obtain ⟨z, hz, hF⟩ := obind hF
  refine WP.rb mixed [[], [], [0, 1], [2], [3]] [[0], [1], [], [], []] [(5, v_s_), (6, v_f_), (7, .int .i64 z), (8, .bool (decide (0 ≤ z))), (4, .bool (decide (0 ≤ z)))] (by kernel_rfl) ⟨mE rfl rfl h0,
 mE rfl rfl h1,
 fun ρz wz hE hA _ ⟨u0, u1, _⟩ => core_call rfl (call_args2 u0 u1) cf_98 (slices_IndexFunc_of_api_Right_ok  _ _ (H_s_.exn (hA rfl)).no (H_f_.exn (hA rfl)).no hz),
 fun ρz wz hE hA _ ⟨u2, _⟩ => core_val rfl rfl (o_geq u2 rfl rfl),
 aU rfl rfl rfl, trivial⟩ ?_
  intro ρ2 w2 hN hf hr
  have h4 := hv hf 4 rfl rfl
  have hW := hW.trans hN
  refine WP.ret ?_
  show retQ Tryz.prog 9 Tryz.f69 (fun v w1 => v = .bool r ∧ Ext noG w0 w1) .ret ρ2 w2
  obtain rfl := Option.some.inj hF
  exact res1 rfl (by decide) h4 ⟨rfl, hW⟩

set_option maxHeartbeats 4000000 in
theorem family_valid_ok {w0 : World} (l_ : List Right) {v_l_ : Value} (H_l_ : RepSl Right.R noG w0 v_l_ l_) {r : Bool} (hF : family_valid l_ = some r) :
    Calls Tryz.prog 43 #[v_l_] w0 fun e w1 => e = .returned (.bool r) ∧ Ext noG w0 w1 := by
  refine (Calls.start (P := Tryz.prog) (args := [v_l_]) (R := fun v w1 => v = .bool r ∧ Ext noG w0 w1) (n := 59) (w := w0) Tryz.func43 rfl rfl (Nat.le_of_ble_eq_true rfl) (fun ρ hargs => ?_)).mono (fun e w1 ⟨v, he, hv, hE⟩ => ⟨hv ▸ he, hE⟩)
  have h0 := hargs 0 _ rfl
  have hW := Ext.refl noG w0
  obtain ⟨_, _, hs_H_l_, _, _⟩ := RepSl.shape H_l_
  have H_l_ := H_l_.start
  rw [family_valid] at hF
  refine WP.seq (WP.rb mixed [[]] [[]] [(2, .bool false)] (by kernel_rfl) ⟨aC rfl rfl (fun _ => rfl), trivial⟩ ?_)
  intro ρ1 w1 hN hf hr
  have h0 := (hr 0 rfl).trans h0
  have H_l_ := H_l_.exn hN
  have hW := hW.trans hN
  refine WP.seq (WP.seq (WP.rb mixed [[], [0], [1]] [[0], [], []] [(5, v_l_), (6, .int .i64 (l_.length : Int)), (7, .bool (decide (6 < (l_.length : Int))))] (by kernel_rfl) ⟨mE rfl rfl h0,
 fun ρz wz hE hA _ ⟨u0, _⟩ => core_val rfl rfl (o_len (u0.trans hs_H_l_) len_47),
 fun ρz wz hE hA _ ⟨u1, _⟩ => core_val rfl rfl (o_gtr u1 rfl rfl), trivial⟩ ?_))
  intro ρ2 w2 hN hf hr
  have h7 := hv hf 2 rfl rfl
  have h0 := (hr 0 rfl).trans h0
  have H_l_ := H_l_.exn hN
  have hW := hW.trans hN
  refine WP.cond rfl h7 (fun hb => ?_) (fun hb => ?_)
  · exact nomatch (if_pos hb).symm.trans hF
  have hF := (if_neg (Bool.eq_false_iff.1 hb)).symm.trans hF
  refine WP.skip (WP.seq (WP.seq (WP.rb mixed [[], [0], []] [[0], [], []] [(8, v_l_), (9, .int .i64 (l_.length : Int)), (10, .int .i64 0)] (by kernel_rfl) ⟨mE rfl rfl h0,
 fun ρz wz hE hA _ ⟨u0, _⟩ => core_val rfl rfl (o_len (u0.trans hs_H_l_) len_47),
 mC rfl rfl (fun _ => rfl), trivial⟩ ?_)))
  intro ρ4 w4 hN hf hr
  have h8 := hv hf 0 rfl rfl
  have h9 := hv hf 1 rfl rfl
  have h10 := hv hf 2 rfl rfl
  have h0 := (hr 0 rfl).trans h0
  have H_l_ := H_l_.exn hN
  have hW := hW.trans hN
  refine WP.block (WP.loop (fun k_ ρ w => ∃ x : Int, ρ 0 = v_l_ ∧ ρ 8 = v_l_ ∧ ρ 9 = .int .i64 (l_.length : Int) ∧ ρ 10 = .int .i64 x ∧ RepSl Right.R (gfr noG w0) w v_l_ l_ ∧ Ext noG w0 w ∧ loopC k_ (family_valid_l l_) x = some r) FU ⟨0, h0, h8, h9, h10, H_l_, hW, hF⟩ (fun _ _ h => by obtain ⟨_, _, _, _, _, _, _, h⟩ := h; cases h) ?_)
  rintro k_ ρ5 w5 ⟨x, h0, h8, h9, h10, H_l_, hW, hF⟩
  have hF : family_valid_l l_ (loopC k_ (family_valid_l l_)) x = some r := (loopC_succ k_ (family_valid_l l_) x).symm.trans hF
  generalize hrec_ : loopC k_ (family_valid_l l_) = rec_ at hF
  rw [family_valid_l] at hF
  refine WP.seq (WP.rb mixed [[]] [[10, 9]] [(11, .bool (decide (x < (l_.length : Int))))] (by kernel_rfl) ⟨fun ρz wz hE hA ⟨e10, e9, _⟩ _ => core_val rfl rfl (o_lss (e10.trans h10) (e9.trans h9) rfl), trivial⟩ ?_)
  intro ρ6 w6 hN hf hr
  have h11 := hv hf 0 rfl rfl
  obtain ⟨h0, h8, h9, h10⟩ := k4 hr h0 h8 h9 h10 rfl
  have H_l_ := H_l_.exn hN
  have hW := hW.trans hN
  refine WP.seq (WP.cond rfl h11 (fun hb => ?_) (fun hb => ?_))
  · have hF := (if_pos hb).symm.trans hF
    refine WP.skip (WP.seq (WP.block (WP.seq ?_)))
    obtain ⟨y, hy, hF⟩ := obind hF
    obtain ⟨ay, cy, hvy, hiy, hAy⟩ := RepSl.getF H_l_ hy
    refine WP.region mixed [[], [], [1], [], [0], [2, 3]] [[], [], [1], [], [0], [2, 3]] [[10], [8, 10], [], [], [], []] [5] [(3, 5)] [val 12 (.int .i64 x), val 13 (.pointer (some (ay.add (Int.toNat x * 4)))), val 14 (Right.val y), (4, fun u wz => ∃ b, u = .pointer (some ⟨b, 0, none⟩) ∧ w6.heap.size ≤ b ∧ Mb wz b 46 (Right.cells (⟨0, 0, 0, 0⟩ : Right))), val 3 (.int .i64 x), (4, fun u wz => ∃ b, u = .pointer (some ⟨b, 0, none⟩) ∧ w6.heap.size ≤ b ∧ Mb wz b 46 (Right.cells y))] (fun b => w6.heap.size ≤ b) (by kernel_rfl) ⟨sV, sV, sV, fun _ _ _ hE ⟨b, hb, hs, hM⟩ => ⟨b, hb, hs, hM.exn hE⟩, sV, fun _ _ _ hE ⟨b, hb, hs, hM⟩ => ⟨b, hb, hs, hM.exn hE⟩, trivial⟩ ⟨mE rfl rfl h10,
 fun ρz wz hE hA ⟨e8, e10, _⟩ _ => core_val rfl rfl (o_indexAddr ((e8.trans h8).trans hvy) (e10.trans h10) (ia_47 hiy)),
 fun ρz wz hE hA _ ⟨u1, _⟩ => core_val rfl rfl (o_load u1 (run_loadN (cs := (Right.cells y)) (lr_46 _ _) rfl ((hAy.exn hE.fresh).ca))),
 fun ρz wz hE hA _ _ => core_new rfl rfl hE (o_alloc (al_46 _)),
 aU rfl rfl rfl,
 fun ρz wz hE hA _ ⟨u2, u3, _⟩ => core_storeNew rfl rfl rfl rfl u2 u3 (fun a w => st_46 _ a w) rfl (one_46 _), trivial⟩ ?_
    intro ρ7 w7 hE hN hf hr
    have hN := hE.fresh
    obtain ⟨b4_, h4, hge_b4_, Hb_b4_⟩ := hf 5 rfl
    have h3 : ρ7 3 = .int .i64 x := hf 4 rfl
    obtain ⟨h0, h8, h9, h10⟩ := k4 hr h0 h8 h9 h10 rfl
    have H_l_ := H_l_.exn hN
    have hB_b4_ : w0.heap.size ≤ b4_ := Nat.le_trans hW.size hge_b4_
    have hW := hW.trans hN
    refine WP.seq (WP.seq (WP.rb mixed [[], [0], [1], [2], [3], [3, 4], [3, 5], [3, 6], [7], [8], [8, 9], [8, 10], [8, 11], [12], [13], [13, 14], [13, 15], [13, 16], [17], [18], [18, 19], [18, 20], [18, 21], [22], [23], [23, 24], [23, 25], [23, 26], [27], [28], [28, 29], [28, 30], [28, 31], [32], [33], [33, 34], [33, 35], [33, 36]] [[4], [], [], [], [4], [], [], [], [], [4], [], [], [], [], [4], [], [], [], [], [4], [], [], [], [], [4], [], [], [], [], [4], [], [], [], [], [4], [], [], []] [(15, .pointer (some ((⟨b4_, 0, none⟩ : Addr).add 0))), (16, .int .i64 y.State), (17, .bool (decide (y.State < 0))), (18, .bool (decide (y.State < 0))), (19, gv (!(decide (y.State < 0))) (.pointer (some ((⟨b4_, 0, none⟩ : Addr).add 0)))), (20, gv (!(decide (y.State < 0))) (.int .i64 y.State)), (21, gv (!(decide (y.State < 0))) (.bool (decide (6 ≤ y.State)))), (22, .bool (decide (y.State < 0) || decide (6 ≤ y.State))), (23, .bool (decide (y.State < 0) || decide (6 ≤ y.State))), (24, gv (!(decide (y.State < 0) || decide (6 ≤ y.State))) (.pointer (some ((⟨b4_, 0, none⟩ : Addr).add 1)))), (25, gv (!(decide (y.State < 0) || decide (6 ≤ y.State))) (.int .i64 y.Basis)), (26, gv (!(decide (y.State < 0) || decide (6 ≤ y.State))) (.bool (decide (y.Basis < 1)))), (27, .bool ((decide (y.State < 0) || decide (6 ≤ y.State)) || decide (y.Basis < 1))), (28, .bool ((decide (y.State < 0) || decide (6 ≤ y.State)) || decide (y.Basis < 1))), (29, gv (!((decide (y.State < 0) || decide (6 ≤ y.State)) || decide (y.Basis < 1))) (.pointer (some ((⟨b4_, 0, none⟩ : Addr).add 1)))), (30, gv (!((decide (y.State < 0) || decide (6 ≤ y.State)) || decide (y.Basis < 1))) (.int .i64 y.Basis)), (31, gv (!((decide (y.State < 0) || decide (6 ≤ y.State)) || decide (y.Basis < 1))) (.bool (decide (3 < y.Basis)))), (32, .bool (((decide (y.State < 0) || decide (6 ≤ y.State)) || decide (y.Basis < 1)) || decide (3 < y.Basis))), (33, .bool (((decide (y.State < 0) || decide (6 ≤ y.State)) || decide (y.Basis < 1)) || decide (3 < y.Basis))), (34, gv (!(((decide (y.State < 0) || decide (6 ≤ y.State)) || decide (y.Basis < 1)) || decide (3 < y.Basis))) (.pointer (some ((⟨b4_, 0, none⟩ : Addr).add 2)))), (35, gv (!(((decide (y.State < 0) || decide (6 ≤ y.State)) || decide (y.Basis < 1)) || decide (3 < y.Basis))) (.int .i64 y.Currency)), (36, gv (!(((decide (y.State < 0) || decide (6 ≤ y.State)) || decide (y.Basis < 1)) || decide (3 < y.Basis))) (.bool (decide (y.Currency < 1)))), (37, .bool ((((decide (y.State < 0) || decide (6 ≤ y.State)) || decide (y.Basis < 1)) || decide (3 < y.Basis)) || decide (y.Currency < 1))), (38, .bool ((((decide (y.State < 0) || decide (6 ≤ y.State)) || decide (y.Basis < 1)) || decide (3 < y.Basis)) || decide (y.Currency < 1))), (39, gv (!((((decide (y.State < 0) || decide (6 ≤ y.State)) || decide (y.Basis < 1)) || decide (3 < y.Basis)) || decide (y.Currency < 1))) (.pointer (some ((⟨b4_, 0, none⟩ : Addr).add 2)))), (40, gv (!((((decide (y.State < 0) || decide (6 ≤ y.State)) || decide (y.Basis < 1)) || decide (3 < y.Basis)) || decide (y.Currency < 1))) (.int .i64 y.Currency)), (41, gv (!((((decide (y.State < 0) || decide (6 ≤ y.State)) || decide (y.Basis < 1)) || decide (3 < y.Basis)) || decide (y.Currency < 1))) (.bool (decide (999 < y.Currency)))), (42, .bool (((((decide (y.State < 0) || decide (6 ≤ y.State)) || decide (y.Basis < 1)) || decide (3 < y.Basis)) || decide (y.Currency < 1)) || decide (999 < y.Currency))), (43, .bool (((((decide (y.State < 0) || decide (6 ≤ y.State)) || decide (y.Basis < 1)) || decide (3 < y.Basis)) || decide (y.Currency < 1)) || decide (999 < y.Currency))), (44, gv (!(((((decide (y.State < 0) || decide (6 ≤ y.State)) || decide (y.Basis < 1)) || decide (3 < y.Basis)) || decide (y.Currency < 1)) || decide (999 < y.Currency))) (.pointer (some ((⟨b4_, 0, none⟩ : Addr).add 3)))), (45, gv (!(((((decide (y.State < 0) || decide (6 ≤ y.State)) || decide (y.Basis < 1)) || decide (3 < y.Basis)) || decide (y.Currency < 1)) || decide (999 < y.Currency))) (.int .i64 y.Amount)), (46, gv (!(((((decide (y.State < 0) || decide (6 ≤ y.State)) || decide (y.Basis < 1)) || decide (3 < y.Basis)) || decide (y.Currency < 1)) || decide (999 < y.Currency))) (.bool (decide (y.Amount < 1)))), (47, .bool ((((((decide (y.State < 0) || decide (6 ≤ y.State)) || decide (y.Basis < 1)) || decide (3 < y.Basis)) || decide (y.Currency < 1)) || decide (999 < y.Currency)) || decide (y.Amount < 1))), (48, .bool ((((((decide (y.State < 0) || decide (6 ≤ y.State)) || decide (y.Basis < 1)) || decide (3 < y.Basis)) || decide (y.Currency < 1)) || decide (999 < y.Currency)) || decide (y.Amount < 1))), (49, gv (!((((((decide (y.State < 0) || decide (6 ≤ y.State)) || decide (y.Basis < 1)) || decide (3 < y.Basis)) || decide (y.Currency < 1)) || decide (999 < y.Currency)) || decide (y.Amount < 1))) (.pointer (some ((⟨b4_, 0, none⟩ : Addr).add 3)))), (50, gv (!((((((decide (y.State < 0) || decide (6 ≤ y.State)) || decide (y.Basis < 1)) || decide (3 < y.Basis)) || decide (y.Currency < 1)) || decide (999 < y.Currency)) || decide (y.Amount < 1))) (.int .i64 y.Amount)), (51, gv (!((((((decide (y.State < 0) || decide (6 ≤ y.State)) || decide (y.Basis < 1)) || decide (3 < y.Basis)) || decide (y.Currency < 1)) || decide (999 < y.Currency)) || decide (y.Amount < 1))) (.bool (decide (1000000000000 < y.Amount)))), (52, .bool (((((((decide (y.State < 0) || decide (6 ≤ y.State)) || decide (y.Basis < 1)) || decide (3 < y.Basis)) || decide (y.Currency < 1)) || decide (999 < y.Currency)) || decide (y.Amount < 1)) || decide (1000000000000 < y.Amount)))] (by kernel_rfl) ⟨fun ρz wz hE hA ⟨e4, _⟩ _ => core_val rfl rfl (o_fieldAddr (e4.trans h4) (fa_46_0 _ _)),
 fun ρz wz hE hA _ ⟨u0, _⟩ => core_val rfl rfl (o_load u0 (run_load1 (lr_3 _ _) (CA.sub ((Hb_b4_.exn (hA rfl)).ca) 0 1))),
 fun ρz wz hE hA _ ⟨u1, _⟩ => core_val rfl rfl (o_lss u1 rfl rfl),
 mU rfl rfl rfl,
 fun ρz wz hE hA ⟨e4, _⟩ ⟨u3, _⟩ => gIf rfl rfl (yF rfl u3) fun gc F hF => core_val rfl hF (o_fieldAddr (e4.trans h4) (fa_46_0 _ _)),
 fun ρz wz hE hA _ ⟨u3, u4, _⟩ => gIf rfl rfl (yF rfl u3) fun gc F hF => core_val rfl hF (o_load (gt gc u4) (run_load1 (lr_3 _ _) (CA.sub ((Hb_b4_.exn (hA rfl)).ca) 0 1))),
 fun ρz wz hE hA _ ⟨u3, u5, _⟩ => gIf rfl rfl (yF rfl u3) fun gc F hF => core_val rfl hF (o_geq (gt gc u5) rfl rfl),
 fun ρz wz hE hA _ ⟨u3, u6, _⟩ => core_val rfl rfl (o_pick_or u3 rfl u6),
 mU rfl rfl rfl,
 fun ρz wz hE hA ⟨e4, _⟩ ⟨u8, _⟩ => gIf rfl rfl (yF rfl u8) fun gc F hF => core_val rfl hF (o_fieldAddr (e4.trans h4) (fa_46_1 _ _)),
 fun ρz wz hE hA _ ⟨u8, u9, _⟩ => gIf rfl rfl (yF rfl u8) fun gc F hF => core_val rfl hF (o_load (gt gc u9) (run_load1 (lr_3 _ _) (CA.sub ((Hb_b4_.exn (hA rfl)).ca) 1 1))),
 fun ρz wz hE hA _ ⟨u8, u10, _⟩ => gIf rfl rfl (yF rfl u8) fun gc F hF => core_val rfl hF (o_lss (gt gc u10) rfl rfl),
 fun ρz wz hE hA _ ⟨u8, u11, _⟩ => core_val rfl rfl (o_pick_or u8 rfl u11),
 mU rfl rfl rfl,
 fun ρz wz hE hA ⟨e4, _⟩ ⟨u13, _⟩ => gIf rfl rfl (yF rfl u13) fun gc F hF => core_val rfl hF (o_fieldAddr (e4.trans h4) (fa_46_1 _ _)),
 fun ρz wz hE hA _ ⟨u13, u14, _⟩ => gIf rfl rfl (yF rfl u13) fun gc F hF => core_val rfl hF (o_load (gt gc u14) (run_load1 (lr_3 _ _) (CA.sub ((Hb_b4_.exn (hA rfl)).ca) 1 1))),
 fun ρz wz hE hA _ ⟨u13, u15, _⟩ => gIf rfl rfl (yF rfl u13) fun gc F hF => core_val rfl hF (o_gtr (gt gc u15) rfl rfl),
 fun ρz wz hE hA _ ⟨u13, u16, _⟩ => core_val rfl rfl (o_pick_or u13 rfl u16),
 mU rfl rfl rfl,
 fun ρz wz hE hA ⟨e4, _⟩ ⟨u18, _⟩ => gIf rfl rfl (yF rfl u18) fun gc F hF => core_val rfl hF (o_fieldAddr (e4.trans h4) (fa_46_2 _ _)),
 fun ρz wz hE hA _ ⟨u18, u19, _⟩ => gIf rfl rfl (yF rfl u18) fun gc F hF => core_val rfl hF (o_load (gt gc u19) (run_load1 (lr_3 _ _) (CA.sub ((Hb_b4_.exn (hA rfl)).ca) 2 1))),
 fun ρz wz hE hA _ ⟨u18, u20, _⟩ => gIf rfl rfl (yF rfl u18) fun gc F hF => core_val rfl hF (o_lss (gt gc u20) rfl rfl),
 fun ρz wz hE hA _ ⟨u18, u21, _⟩ => core_val rfl rfl (o_pick_or u18 rfl u21),
 mU rfl rfl rfl,
 fun ρz wz hE hA ⟨e4, _⟩ ⟨u23, _⟩ => gIf rfl rfl (yF rfl u23) fun gc F hF => core_val rfl hF (o_fieldAddr (e4.trans h4) (fa_46_2 _ _)),
 fun ρz wz hE hA _ ⟨u23, u24, _⟩ => gIf rfl rfl (yF rfl u23) fun gc F hF => core_val rfl hF (o_load (gt gc u24) (run_load1 (lr_3 _ _) (CA.sub ((Hb_b4_.exn (hA rfl)).ca) 2 1))),
 fun ρz wz hE hA _ ⟨u23, u25, _⟩ => gIf rfl rfl (yF rfl u23) fun gc F hF => core_val rfl hF (o_gtr (gt gc u25) rfl rfl),
 fun ρz wz hE hA _ ⟨u23, u26, _⟩ => core_val rfl rfl (o_pick_or u23 rfl u26),
 mU rfl rfl rfl,
 fun ρz wz hE hA ⟨e4, _⟩ ⟨u28, _⟩ => gIf rfl rfl (yF rfl u28) fun gc F hF => core_val rfl hF (o_fieldAddr (e4.trans h4) (fa_46_3 _ _)),
 fun ρz wz hE hA _ ⟨u28, u29, _⟩ => gIf rfl rfl (yF rfl u28) fun gc F hF => core_val rfl hF (o_load (gt gc u29) (run_load1 (lr_3 _ _) (CA.sub ((Hb_b4_.exn (hA rfl)).ca) 3 1))),
 fun ρz wz hE hA _ ⟨u28, u30, _⟩ => gIf rfl rfl (yF rfl u28) fun gc F hF => core_val rfl hF (o_lss (gt gc u30) rfl rfl),
 fun ρz wz hE hA _ ⟨u28, u31, _⟩ => core_val rfl rfl (o_pick_or u28 rfl u31),
 mU rfl rfl rfl,
 fun ρz wz hE hA ⟨e4, _⟩ ⟨u33, _⟩ => gIf rfl rfl (yF rfl u33) fun gc F hF => core_val rfl hF (o_fieldAddr (e4.trans h4) (fa_46_3 _ _)),
 fun ρz wz hE hA _ ⟨u33, u34, _⟩ => gIf rfl rfl (yF rfl u33) fun gc F hF => core_val rfl hF (o_load (gt gc u34) (run_load1 (lr_3 _ _) (CA.sub ((Hb_b4_.exn (hA rfl)).ca) 3 1))),
 fun ρz wz hE hA _ ⟨u33, u35, _⟩ => gIf rfl rfl (yF rfl u33) fun gc F hF => core_val rfl hF (o_gtr (gt gc u35) rfl rfl),
 fun ρz wz hE hA _ ⟨u33, u36, _⟩ => core_val rfl rfl (o_pick_or u33 rfl u36), trivial⟩ ?_))
    intro ρ8 w8 hN hf hr
    have h52 := hv hf 37 rfl rfl
    obtain ⟨h0, h8, h9, h10, h4, h3⟩ := k6 hr h0 h8 h9 h10 h4 h3 rfl
    have Hb_b4_n := Hb_b4_.exn hN
    have H_l_ := H_l_.exn hN
    have hW := hW.trans hN
    have Hb_b4_ := Hb_b4_n
    refine WP.cond rfl h52 (fun hb => ?_) (fun hb => ?_)
    · exact nomatch (if_pos hb).symm.trans hF
    have hF := (if_neg (Bool.eq_false_iff.1 hb)).symm.trans hF
    refine WP.skip (WP.seq ?_)
    obtain ⟨s, hs, hF⟩ := obind hF
    obtain ⟨z, hz, hF⟩ := obind hF
    refine WP.rg mixed [[], [], [0, 1], [], [2, 3]] [[], [], [0, 1], [], [2, 3]] [[0], [3], [], [4], []] [val 53 (v_l_), val 54 (.int .i64 x), (55, fun u wz => RepSl Right.R (gfr noG w0) wz u s), val 56 (.func (.func 70) #[] #[.pointer (some ⟨b4_, 0, none⟩)]), val 57 (.bool z)] (by kernel_rfl) ⟨sV, sV, fun _ _ _ hE h => h.exn hE, sV, sV, trivial⟩ ⟨mE rfl rfl h0,
 mE rfl rfl h3,
 fun ρz wz hE hA _ ⟨u0, u1, _⟩ => core_cut (R := Right.R) rfl u0 si_47 sz_46 (H_l_.exn (hA rfl)) hs (.inl ⟨rfl, rfl⟩) (.inr (congrArg some u1)) (fun _ h => h),
 fun ρz wz hE hA ⟨e4, _⟩ _ => core_val rfl rfl (o_makeFunc (call_args1 (e4.trans h4))),
 fun ρz wz hE hA _ ⟨hR2, u3, _⟩ => core_call rfl (call_args2 rfl u3) cf_69 (slices_ContainsFunc_of_api_Right_ok  _ _ hR2.no (FnR.mk (V := fnV_93) (W := fnW_93) (G := noG) (cap := [.pointer (some ⟨b4_, 0, none⟩)]) cf_70 (fun w' hE' x r hr => family_valid_1_ok _ _ ((Hb_b4_.exn (hA rfl)).exn hE') hr)) hz), trivial⟩ ?_
    intro ρ10 w10 hN hf hr
    have h57 : ρ10 57 = .bool z := hf 4 rfl
    obtain ⟨h0, h8, h9, h10⟩ := k4 hr h0 h8 h9 h10 rfl
    have H_l_ := H_l_.exn hN
    have hW := hW.trans hN
    refine WP.cond rfl h57 (fun hb => ?_) (fun hb => ?_)
    · exact nomatch (if_pos hb).symm.trans hF
    have hF := (if_neg (Bool.eq_false_iff.1 hb)).symm.trans hF
    refine WP.skip (WP.rb mixed [[], [0]] [[10], []] [(58, .int .i64 (i64 (x + 1))), (10, .int .i64 (i64 (x + 1)))] (by kernel_rfl) ⟨fun ρz wz hE hA ⟨e10, _⟩ _ => core_val rfl rfl (o_add (e10.trans h10) rfl rfl),
 mU rfl rfl rfl, trivial⟩ ?_)
    intro ρ12 w12 hN hf hr
    have h10 := hv hf 1 rfl rfl
    obtain ⟨h0, h8, h9⟩ := k3 hr h0 h8 h9 rfl
    have H_l_ := H_l_.exn hN
    have hW := hW.trans hN
    exact ⟨i64 (x + 1), h0, h8, h9, h10, H_l_, hW, (by first | exact hF | (rw [hrec_]; exact hF))⟩
  have hF := (if_neg (Bool.eq_false_iff.1 hb)).symm.trans hF
  refine WP.exit (thenQ_exit (thenQ_exit (blockQ_hit (WP.seq (WP.rb mixed [[]] [[]] [(2, .bool true)] (by kernel_rfl) ⟨aC rfl rfl (fun _ => rfl), trivial⟩ ?_)))))
  intro ρ13 w13 hN hf hr
  have h2 := hv hf 0 rfl rfl
  have hW := hW.trans hN
  refine WP.ret ?_
  show retQ Tryz.prog 59 Tryz.f43 (fun v w1 => v = .bool r ∧ Ext noG w0 w1) .ret ρ13 w13
  obtain rfl := Option.some.inj hF
  exact res1 rfl (by decide) h2 ⟨rfl, hW⟩

set_option maxHeartbeats 4000000 in
theorem money_currency_ok {w0 : World} (x_ : Int) {r : Bool} (hF : money_currency x_ = some r) :
    Calls Tryz.prog 71 #[.int .i64 x_] w0 fun e w1 => e = .returned (.bool r) ∧ Ext noG w0 w1 := by
  refine (Calls.start (P := Tryz.prog) (args := [.int .i64 x_]) (R := fun v w1 => v = .bool r ∧ Ext noG w0 w1) (n := 9) (w := w0) Tryz.func71 rfl rfl (Nat.le_of_ble_eq_true rfl) (fun ρ hargs => ?_)).mono (fun e w1 ⟨v, he, hv, hE⟩ => ⟨hv ▸ he, hE⟩)
  have h0 := hargs 0 _ rfl
  have hW := Ext.refl noG w0
  rw [money_currency] at hF
  refine WP.seq (WP.rb mixed [[]] [[]] [(2, .bool false)] (by kernel_rfl) ⟨aC rfl rfl (fun _ => rfl), trivial⟩ ?_)
  intro ρ1 w1 hN hf hr
  have h0 := (hr 0 rfl).trans h0
  have hW := hW.trans hN
  refine WP.seq (WP.rb mixed [[], [0], [1], [2], [2, 3], [2, 4], [5]] [[0], [], [], [0], [], [], []] [(3, .int .i64 x_), (4, .bool (decide (1 ≤ x_))), (5, .bool (decide (1 ≤ x_))), (6, gv (decide (1 ≤ x_)) (.int .i64 x_)), (7, gv (decide (1 ≤ x_)) (.bool (decide (x_ ≤ 999)))), (8, .bool (decide (1 ≤ x_) && decide (x_ ≤ 999))), (2, .bool (decide (1 ≤ x_) && decide (x_ ≤ 999)))] (by kernel_rfl) ⟨mE rfl rfl h0,
 fun ρz wz hE hA _ ⟨u0, _⟩ => core_val rfl rfl (o_geq u0 rfl rfl),
 mU rfl rfl rfl,
 fun ρz wz hE hA ⟨e0, _⟩ ⟨u2, _⟩ => gIf rfl rfl (yT rfl u2) fun gc F hF => core_val rfl hF (o_move (e0.trans h0)),
 fun ρz wz hE hA _ ⟨u2, u3, _⟩ => gIf rfl rfl (yT rfl u2) fun gc F hF => core_val rfl hF (o_leq (gt gc u3) rfl rfl),
 fun ρz wz hE hA _ ⟨u2, u4, _⟩ => core_val rfl rfl (o_pick_and u2 u4 rfl),
 aU rfl rfl rfl, trivial⟩ ?_)
  intro ρ2 w2 hN hf hr
  have h2 := hv hf 6 rfl rfl
  have hW := hW.trans hN
  refine WP.ret ?_
  show retQ Tryz.prog 9 Tryz.f71 (fun v w1 => v = .bool r ∧ Ext noG w0 w1) .ret ρ2 w2
  obtain rfl := Option.some.inj hF
  exact res1 rfl (by decide) h2 ⟨rfl, hW⟩

set_option maxHeartbeats 4000000 in
theorem calendar_validMonth_ok {w0 : World} (month_ : Int) {r : Bool} (hF : calendar_validMonth month_ = some r) :
    Calls Tryz.prog 119 #[.int .i64 month_] w0 fun e w1 => e = .returned (.bool r) ∧ Ext noG w0 w1 := by
  refine (Calls.start (P := Tryz.prog) (args := [.int .i64 month_]) (R := fun v w1 => v = .bool r ∧ Ext noG w0 w1) (n := 9) (w := w0) Tryz.func119 rfl rfl (Nat.le_of_ble_eq_true rfl) (fun ρ hargs => ?_)).mono (fun e w1 ⟨v, he, hv, hE⟩ => ⟨hv ▸ he, hE⟩)
  have h0 := hargs 0 _ rfl
  have hW := Ext.refl noG w0
  rw [calendar_validMonth] at hF
  refine WP.seq (WP.rb mixed [[]] [[]] [(2, .bool false)] (by kernel_rfl) ⟨aC rfl rfl (fun _ => rfl), trivial⟩ ?_)
  intro ρ1 w1 hN hf hr
  have h0 := (hr 0 rfl).trans h0
  have hW := hW.trans hN
  refine WP.seq (WP.rb mixed [[], [0], [1], [2], [2, 3], [2, 4], [5]] [[0], [], [], [0], [], [], []] [(3, .int .i64 month_), (4, .bool (decide (0 ≤ month_))), (5, .bool (decide (0 ≤ month_))), (6, gv (decide (0 ≤ month_)) (.int .i64 month_)), (7, gv (decide (0 ≤ month_)) (.bool (decide (month_ ≤ 2399)))), (8, .bool (decide (0 ≤ month_) && decide (month_ ≤ 2399))), (2, .bool (decide (0 ≤ month_) && decide (month_ ≤ 2399)))] (by kernel_rfl) ⟨mE rfl rfl h0,
 fun ρz wz hE hA _ ⟨u0, _⟩ => core_val rfl rfl (o_geq u0 rfl rfl),
 mU rfl rfl rfl,
 fun ρz wz hE hA ⟨e0, _⟩ ⟨u2, _⟩ => gIf rfl rfl (yT rfl u2) fun gc F hF => core_val rfl hF (o_move (e0.trans h0)),
 fun ρz wz hE hA _ ⟨u2, u3, _⟩ => gIf rfl rfl (yT rfl u2) fun gc F hF => core_val rfl hF (o_leq (gt gc u3) rfl rfl),
 fun ρz wz hE hA _ ⟨u2, u4, _⟩ => core_val rfl rfl (o_pick_and u2 u4 rfl),
 aU rfl rfl rfl, trivial⟩ ?_)
  intro ρ2 w2 hN hf hr
  have h2 := hv hf 6 rfl rfl
  have hW := hW.trans hN
  refine WP.ret ?_
  show retQ Tryz.prog 9 Tryz.f119 (fun v w1 => v = .bool r ∧ Ext noG w0 w1) .ret ρ2 w2
  obtain rfl := Option.some.inj hF
  exact res1 rfl (by decide) h2 ⟨rfl, hW⟩

set_option maxHeartbeats 4000000 in
theorem calendar_leap_ok {w0 : World} (year_ : Int) {r : Bool} (hF : calendar_leap year_ = some r) :
    Calls Tryz.prog 130 #[.int .i64 year_] w0 fun e w1 => e = .returned (.bool r) ∧ Ext noG w0 w1 := by
  refine (Calls.start (P := Tryz.prog) (args := [.int .i64 year_]) (R := fun v w1 => v = .bool r ∧ Ext noG w0 w1) (n := 16) (w := w0) Tryz.func130 rfl rfl (Nat.le_of_ble_eq_true rfl) (fun ρ hargs => ?_)).mono (fun e w1 ⟨v, he, hv, hE⟩ => ⟨hv ▸ he, hE⟩)
  have h0 := hargs 0 _ rfl
  have hW := Ext.refl noG w0
  rw [calendar_leap] at hF
  refine WP.seq (WP.rb mixed [[]] [[]] [(2, .bool false)] (by kernel_rfl) ⟨aC rfl rfl (fun _ => rfl), trivial⟩ ?_)
  intro ρ1 w1 hN hf hr
  have h0 := (hr 0 rfl).trans h0
  have hW := hW.trans hN
  refine WP.seq (WP.rb mixed [[], [0], [1], [2], [3], [3, 4], [3, 5], [3, 6], [7], [8], [8, 9], [8, 10], [8, 11], [12]] [[0], [], [], [], [0], [], [], [], [], [0], [], [], [], []] [(3, .int .i64 year_), (4, .int .i64 (Int.tmod year_ 4)), (5, .bool (Int.tmod year_ 4 == 0)), (6, .bool (Int.tmod year_ 4 == 0)), (7, gv ((Int.tmod year_ 4 == 0)) (.int .i64 year_)), (8, gv ((Int.tmod year_ 4 == 0)) (.int .i64 (Int.tmod year_ 100))), (9, gv ((Int.tmod year_ 4 == 0)) (.bool (Int.tmod year_ 100 != 0))), (10, .bool ((Int.tmod year_ 4 == 0) && (Int.tmod year_ 100 != 0))), (11, .bool ((Int.tmod year_ 4 == 0) && (Int.tmod year_ 100 != 0))), (12, gv (!((Int.tmod year_ 4 == 0) && (Int.tmod year_ 100 != 0))) (.int .i64 year_)), (13, gv (!((Int.tmod year_ 4 == 0) && (Int.tmod year_ 100 != 0))) (.int .i64 (Int.tmod year_ 400))), (14, gv (!((Int.tmod year_ 4 == 0) && (Int.tmod year_ 100 != 0))) (.bool (Int.tmod year_ 400 == 0))), (15, .bool (((Int.tmod year_ 4 == 0) && (Int.tmod year_ 100 != 0)) || (Int.tmod year_ 400 == 0))), (2, .bool (((Int.tmod year_ 4 == 0) && (Int.tmod year_ 100 != 0)) || (Int.tmod year_ 400 == 0)))] (by kernel_rfl) ⟨mE rfl rfl h0,
 fun ρz wz hE hA _ ⟨u0, _⟩ => core_val rfl rfl (o_rem u0 rfl (by decide) rfl),
 fun ρz wz hE hA _ ⟨u1, _⟩ => core_val rfl rfl (o_eql u1 rfl rfl),
 mU rfl rfl rfl,
 fun ρz wz hE hA ⟨e0, _⟩ ⟨u3, _⟩ => gIf rfl rfl (yT rfl u3) fun gc F hF => core_val rfl hF (o_move (e0.trans h0)),
 fun ρz wz hE hA _ ⟨u3, u4, _⟩ => gIf rfl rfl (yT rfl u3) fun gc F hF => core_val rfl hF (o_rem (gt gc u4) rfl (by decide) rfl),
 fun ρz wz hE hA _ ⟨u3, u5, _⟩ => gIf rfl rfl (yT rfl u3) fun gc F hF => core_val rfl hF (o_neq (gt gc u5) rfl rfl),
 fun ρz wz hE hA _ ⟨u3, u6, _⟩ => core_val rfl rfl (o_pick_and u3 u6 rfl),
 mU rfl rfl rfl,
 fun ρz wz hE hA ⟨e0, _⟩ ⟨u8, _⟩ => gIf rfl rfl (yF rfl u8) fun gc F hF => core_val rfl hF (o_move (e0.trans h0)),
 fun ρz wz hE hA _ ⟨u8, u9, _⟩ => gIf rfl rfl (yF rfl u8) fun gc F hF => core_val rfl hF (o_rem (gt gc u9) rfl (by decide) rfl),
 fun ρz wz hE hA _ ⟨u8, u10, _⟩ => gIf rfl rfl (yF rfl u8) fun gc F hF => core_val rfl hF (o_eql (gt gc u10) rfl rfl),
 fun ρz wz hE hA _ ⟨u8, u11, _⟩ => core_val rfl rfl (o_pick_or u8 rfl u11),
 aU rfl rfl rfl, trivial⟩ ?_)
  intro ρ2 w2 hN hf hr
  have h2 := hv hf 13 rfl rfl
  have hW := hW.trans hN
  refine WP.ret ?_
  show retQ Tryz.prog 16 Tryz.f130 (fun v w1 => v = .bool r ∧ Ext noG w0 w1) .ret ρ2 w2
  obtain rfl := Option.some.inj hF
  exact res1 rfl (by decide) h2 ⟨rfl, hW⟩

set_option maxHeartbeats 4000000 in
theorem calendar_monthLength_ok {w0 : World} (year_ : Int) (month_ : Int) {r : Int} (hF : calendar_monthLength year_ month_ = some r) :
    Calls Tryz.prog 120 #[.int .i64 year_, .int .i64 month_] w0 fun e w1 => e = .returned (.int .i64 r) ∧ Ext noG w0 w1 := by
  refine (Calls.start (P := Tryz.prog) (args := [.int .i64 year_, .int .i64 month_]) (R := fun v w1 => v = .int .i64 r ∧ Ext noG w0 w1) (n := 17) (w := w0) Tryz.func120 rfl rfl (Nat.le_of_ble_eq_true rfl) (fun ρ hargs => ?_)).mono (fun e w1 ⟨v, he, hv, hE⟩ => ⟨hv ▸ he, hE⟩)
  have h0 := hargs 0 _ rfl
  have h1 := hargs 1 _ rfl
  have hW := Ext.refl noG w0
  rw [calendar_monthLength] at hF
  refine WP.seq (WP.rb mixed [[]] [[]] [(4, .int .i64 0)] (by kernel_rfl) ⟨aC rfl rfl (fun _ => rfl), trivial⟩ ?_)
  intro ρ1 w1 hN hf hr
  obtain ⟨h0, h1⟩ := k2 hr h0 h1 rfl
  have hW := hW.trans hN
  refine WP.seq (WP.region mixed [[], [], [0, 1]] [[], [], [0, 1]] [[], [], []] [2] [(1, 2)] [val 6 (arrV (fun x : Int => [Value.int .i64 x]) [31, 28, 31, 30, 31, 30, 31, 31, 30, 31, 30, 31]), (5, fun u wz => ∃ b, u = .pointer (some ⟨b, 0, none⟩) ∧ w1.heap.size ≤ b ∧ Mb wz b 146 ((List.replicate 12 0).flatMap (fun x : Int => [Value.int .i64 x]))), (5, fun u wz => ∃ b, u = .pointer (some ⟨b, 0, none⟩) ∧ w1.heap.size ≤ b ∧ Mb wz b 146 ([31, 28, 31, 30, 31, 30, 31, 31, 30, 31, 30, 31].flatMap (fun x : Int => [Value.int .i64 x])))] (fun b => w1.heap.size ≤ b) (by kernel_rfl) ⟨sV, fun _ _ _ hE ⟨b, hb, hs, hM⟩ => ⟨b, hb, hs, hM.exn hE⟩, fun _ _ _ hE ⟨b, hb, hs, hM⟩ => ⟨b, hb, hs, hM.exn hE⟩, trivial⟩ ⟨fun ρz wz hE hA _ _ => core_val rfl rfl (o_build rfl (by kernel_rfl)),
 fun ρz wz hE hA _ _ => core_new rfl rfl hE (o_alloc (al_146 _)),
 fun ρz wz hE hA _ ⟨u0, u1, _⟩ => core_storeNew rfl rfl rfl rfl u0 u1 (fun a w => (st_146 _ (by simp)) a w) rfl (one_146 _), trivial⟩ ?_)
  intro ρ2 w2 hE hN hf hr
  have hN := hE.fresh
  obtain ⟨b5_, h5, hge_b5_, Hb_b5_⟩ := hf 2 rfl
  obtain ⟨h0, h1⟩ := k2 hr h0 h1 rfl
  have hB_b5_ : w0.heap.size ≤ b5_ := Nat.le_trans hW.size hge_b5_
  have hW := hW.trans hN
  have hlen_b5_ : [31, 28, 31, 30, 31, 30, 31, 31, 30, 31, 30, 31].length = 12 := by simp
  refine WP.seq (WP.seq ?_)
  obtain ⟨c, hc, hF⟩ := obind hF
  obtain ⟨z, hz, hc⟩ := andB hc
  have hc := andE hc
  refine WP.rb mixed [[], [0], [1], [2], [2, 3], [2, 4]] [[1], [], [], [0], [], []] [(7, .int .i64 month_), (8, .bool (month_ == 2)), (9, .bool (month_ == 2)), (10, gv ((month_ == 2)) (.int .i64 year_)), (11, gv ((month_ == 2)) (.bool z)), (12, .bool c)] (by kernel_rfl) ⟨mE rfl rfl h1,
 fun ρz wz hE hA _ ⟨u0, _⟩ => core_val rfl rfl (o_eql u0 rfl rfl),
 mU rfl rfl rfl,
 fun ρz wz hE hA ⟨e0, _⟩ ⟨u2, _⟩ => gIf rfl rfl (yT rfl u2) fun gc F hF => core_val rfl hF (o_move (e0.trans h0)),
 fun ρz wz hE hA _ ⟨u2, u3, _⟩ => gIf rfl rfl (yT rfl u2) fun gc F hF => core_call hF (call_args1 (gt gc u3)) cf_130 (calendar_leap_ok  _  (hz gc)),
 fun ρz wz hE hA _ ⟨u2, u4, _⟩ => core_valE rfl rfl (congrArg Value.bool hc) (o_pick_and u2 u4 rfl), trivial⟩ ?_
  intro ρ3 w3 hN hf hr
  have h12 := hv hf 5 rfl rfl
  obtain ⟨h1, h5⟩ := k2 hr h1 h5 rfl
  have Hb_b5_n := Hb_b5_.exn hN
  have hW := hW.trans hN
  have Hb_b5_ := Hb_b5_n
  refine WP.cond rfl h12 (fun hb => ?_) (fun hb => ?_)
  · exact nomatch (if_pos hb).symm.trans hF
  have hF := (if_neg (Bool.eq_false_iff.1 hb)).symm.trans hF
  refine WP.skip (WP.seq ?_)
  obtain ⟨y, hy, hF⟩ := obind hF
  refine WP.rb mixed [[], [0], [1], [2], [3]] [[1], [], [5], [], []] [(13, .int .i64 month_), (14, .int .i64 (i64 (month_ - 1))), (15, .pointer (some ((⟨b5_, 0, none⟩ : Addr).add (Int.toNat (i64 (month_ - 1)) * 1)))), (16, .int .i64 y), (4, .int .i64 y)] (by kernel_rfl) ⟨mE rfl rfl h1,
 fun ρz wz hE hA _ ⟨u0, _⟩ => core_val rfl rfl (o_sub u0 rfl rfl),
 fun ρz wz hE hA ⟨e5, _⟩ ⟨u1, _⟩ => core_val rfl rfl (o_indexAddr (e5.trans h5) u1 (ia_146 (arr_lt hy (by first | exact hlen_b5_ | simp)))),
 fun ρz wz hE hA _ ⟨u2, _⟩ => core_val rfl rfl (o_load u2 (run_load1 (lr_3 _ _) (CA.elem (cells := fun x : Int => [Value.int .i64 x]) 1 (fun _ => rfl) ((Hb_b5_.exn (hA rfl)).ca) hy))),
 aU rfl rfl rfl, trivial⟩ ?_
  intro ρ5 w5 hN hf hr
  have h4 := hv hf 4 rfl rfl
  have hW := hW.trans hN
  refine WP.ret ?_
  show retQ Tryz.prog 17 Tryz.f120 (fun v w1 => v = .int .i64 r ∧ Ext noG w0 w1) .ret ρ5 w5
  obtain rfl := Option.some.inj hF
  exact res1 rfl (by decide) h4 ⟨rfl, hW⟩

set_option maxHeartbeats 4000000 in
theorem calendar_MonthDays_ok {w0 : World} (month_ : Int) {r : Int} (hF : calendar_MonthDays month_ = some r) :
    Calls Tryz.prog 99 #[.int .i64 month_] w0 fun e w1 => e = .returned (.int .i64 r) ∧ Ext noG w0 w1 := by
  refine (Calls.start (P := Tryz.prog) (args := [.int .i64 month_]) (R := fun v w1 => v = .int .i64 r ∧ Ext noG w0 w1) (n := 13) (w := w0) Tryz.func99 rfl rfl (Nat.le_of_ble_eq_true rfl) (fun ρ hargs => ?_)).mono (fun e w1 ⟨v, he, hv, hE⟩ => ⟨hv ▸ he, hE⟩)
  have h0 := hargs 0 _ rfl
  have hW := Ext.refl noG w0
  rw [calendar_MonthDays] at hF
  refine WP.seq (WP.rb mixed [[]] [[]] [(2, .int .i64 0)] (by kernel_rfl) ⟨aC rfl rfl (fun _ => rfl), trivial⟩ ?_)
  intro ρ1 w1 hN hf hr
  have h0 := (hr 0 rfl).trans h0
  have hW := hW.trans hN
  refine WP.seq (WP.seq ?_)
  obtain ⟨z, hz, hF⟩ := obind hF
  refine WP.rb mixed [[], [0], [1]] [[0], [], []] [(3, .int .i64 month_), (4, .bool z), (5, .bool (!z))] (by kernel_rfl) ⟨mE rfl rfl h0,
 fun ρz wz hE hA _ ⟨u0, _⟩ => core_call rfl (call_args1 u0) cf_119 (calendar_validMonth_ok  _  hz),
 fun ρz wz hE hA _ ⟨u1, _⟩ => core_val rfl rfl (o_not u1 rfl), trivial⟩ ?_
  intro ρ2 w2 hN hf hr
  have h5 := hv hf 2 rfl rfl
  have h0 := (hr 0 rfl).trans h0
  have hW := hW.trans hN
  refine WP.cond rfl h5 (fun hb => ?_) (fun hb => ?_)
  · exact nomatch (if_pos hb).symm.trans hF
  have hF := (if_neg (Bool.eq_false_iff.1 hb)).symm.trans hF
  refine WP.skip (WP.seq ?_)
  obtain ⟨z2, hz2, hF⟩ := obind hF
  refine WP.rb mixed [[], [0], [1], [], [3], [4], [2, 5], [6]] [[0], [], [], [0], [], [], [], []] [(6, .int .i64 month_), (7, .int .i64 (i64 (Int.tdiv month_ 12))), (8, .int .i64 (i64 (1900 + i64 (Int.tdiv month_ 12)))), (9, .int .i64 month_), (10, .int .i64 (Int.tmod month_ 12)), (11, .int .i64 (i64 (Int.tmod month_ 12 + 1))), (12, .int .i64 z2), (2, .int .i64 z2)] (by kernel_rfl) ⟨mE rfl rfl h0,
 fun ρz wz hE hA _ ⟨u0, _⟩ => core_val rfl rfl (o_quo u0 rfl (by decide) rfl),
 fun ρz wz hE hA _ ⟨u1, _⟩ => core_val rfl rfl (o_add rfl u1 rfl),
 mE rfl rfl h0,
 fun ρz wz hE hA _ ⟨u3, _⟩ => core_val rfl rfl (o_rem u3 rfl (by decide) rfl),
 fun ρz wz hE hA _ ⟨u4, _⟩ => core_val rfl rfl (o_add u4 rfl rfl),
 fun ρz wz hE hA _ ⟨u2, u5, _⟩ => core_call rfl (call_args2 u2 u5) cf_120 (calendar_monthLength_ok  _ _  hz2),
 aU rfl rfl rfl, trivial⟩ ?_
  intro ρ4 w4 hN hf hr
  have h2 := hv hf 7 rfl rfl
  have hW := hW.trans hN
  refine WP.ret ?_
  show retQ Tryz.prog 13 Tryz.f99 (fun v w1 => v = .int .i64 r ∧ Ext noG w0 w1) .ret ρ4 w4
  obtain rfl := Option.some.inj hF
  exact res1 rfl (by decide) h2 ⟨rfl, hW⟩

set_option maxHeartbeats 4000000 in
theorem money_month_ok {w0 : World} (x_ : Int) {r : Bool} (hF : money_month x_ = some r) :
    Calls Tryz.prog 72 #[.int .i64 x_] w0 fun e w1 => e = .returned (.bool r) ∧ Ext noG w0 w1 := by
  refine (Calls.start (P := Tryz.prog) (args := [.int .i64 x_]) (R := fun v w1 => v = .bool r ∧ Ext noG w0 w1) (n := 6) (w := w0) Tryz.func72 rfl rfl (Nat.le_of_ble_eq_true rfl) (fun ρ hargs => ?_)).mono (fun e w1 ⟨v, he, hv, hE⟩ => ⟨hv ▸ he, hE⟩)
  have h0 := hargs 0 _ rfl
  have hW := Ext.refl noG w0
  rw [money_month] at hF
  refine WP.seq (WP.rb mixed [[]] [[]] [(2, .bool false)] (by kernel_rfl) ⟨aC rfl rfl (fun _ => rfl), trivial⟩ ?_)
  intro ρ1 w1 hN hf hr
  have h0 := (hr 0 rfl).trans h0
  have hW := hW.trans hN
  refine WP.seq ?_
  obtain ⟨z, hz, hF⟩ := obind hF
  refine WP.rb mixed [[], [0], [1], [2]] [[0], [], [], []] [(3, .int .i64 x_), (4, .int .i64 z), (5, .bool (decide (0 < z))), (2, .bool (decide (0 < z)))] (by kernel_rfl) ⟨mE rfl rfl h0,
 fun ρz wz hE hA _ ⟨u0, _⟩ => core_call rfl (call_args1 u0) cf_99 (calendar_MonthDays_ok  _  hz),
 fun ρz wz hE hA _ ⟨u1, _⟩ => core_val rfl rfl (o_gtr u1 rfl rfl),
 aU rfl rfl rfl, trivial⟩ ?_
  intro ρ2 w2 hN hf hr
  have h2 := hv hf 3 rfl rfl
  have hW := hW.trans hN
  refine WP.ret ?_
  show retQ Tryz.prog 6 Tryz.f72 (fun v w1 => v = .bool r ∧ Ext noG w0 w1) .ret ρ2 w2
  obtain rfl := Option.some.inj hF
  exact res1 rfl (by decide) h2 ⟨rfl, hW⟩

set_option maxHeartbeats 4000000 in
theorem rational_size_ok {w0 : World} (x_ : Int) {r : Int} (hF : rational_size x_ = some r) :
    Calls Tryz.prog 101 #[.int .i64 x_] w0 fun e w1 => e = .returned (.int .u64 r) ∧ Ext noG w0 w1 := by
  refine (Calls.start (P := Tryz.prog) (args := [.int .i64 x_]) (R := fun v w1 => v = .int .u64 r ∧ Ext noG w0 w1) (n := 10) (w := w0) Tryz.func101 rfl rfl (Nat.le_of_ble_eq_true rfl) (fun ρ hargs => ?_)).mono (fun e w1 ⟨v, he, hv, hE⟩ => ⟨hv ▸ he, hE⟩)
  have h0 := hargs 0 _ rfl
  have hW := Ext.refl noG w0
  rw [rational_size] at hF
  refine WP.seq (WP.rb mixed [[]] [[]] [(2, .int .u64 0)] (by kernel_rfl) ⟨aC rfl rfl (fun _ => rfl), trivial⟩ ?_)
  intro ρ1 w1 hN hf hr
  have h0 := (hr 0 rfl).trans h0
  have hW := hW.trans hN
  refine WP.seq (WP.seq (WP.rb mixed [[], [0]] [[0], []] [(3, .int .i64 x_), (4, .bool (decide (x_ < 0)))] (by kernel_rfl) ⟨mE rfl rfl h0,
 fun ρz wz hE hA _ ⟨u0, _⟩ => core_val rfl rfl (o_lss u0 rfl rfl), trivial⟩ ?_))
  intro ρ2 w2 hN hf hr
  have h4 := hv hf 1 rfl rfl
  have h0 := (hr 0 rfl).trans h0
  have hW := hW.trans hN
  refine WP.cond rfl h4 (fun hb => ?_) (fun hb => ?_)
  · exact nomatch (if_pos hb).symm.trans hF
  exact nomatch (if_neg (Bool.eq_false_iff.1 hb)).symm.trans hF

set_option maxHeartbeats 4000000 in
theorem rational_gcd_ok {w0 : World} (a_ : Int) (b_ : Int) {r : Int} (hF : rational_gcd a_ b_ = some r) :
    Calls Tryz.prog 100 #[.int .u64 a_, .int .u64 b_] w0 fun e w1 => e = .returned (.int .u64 r) ∧ Ext noG w0 w1 := by
  refine (Calls.start (P := Tryz.prog) (args := [.int .u64 a_, .int .u64 b_]) (R := fun v w1 => v = .int .u64 r ∧ Ext noG w0 w1) (n := 12) (w := w0) Tryz.func100 rfl rfl (Nat.le_of_ble_eq_true rfl) (fun ρ hargs => ?_)).mono (fun e w1 ⟨v, he, hv, hE⟩ => ⟨hv ▸ he, hE⟩)
  have h0 := hargs 0 _ rfl
  have h1 := hargs 1 _ rfl
  have hW := Ext.refl noG w0
  rw [rational_gcd] at hF
  refine WP.seq (WP.rb mixed [[]] [[]] [(4, .int .u64 0)] (by kernel_rfl) ⟨aC rfl rfl (fun _ => rfl), trivial⟩ ?_)
  intro ρ1 w1 hN hf hr
  obtain ⟨h0, h1⟩ := k2 hr h0 h1 rfl
  have hW := hW.trans hN
  refine WP.seq (WP.block (WP.loop (fun k_ ρ w => ∃ a_2 : Int, ∃ b_2 : Int, ρ 0 = .int .u64 a_2 ∧ ρ 1 = .int .u64 b_2 ∧ Ext noG w0 w ∧ loopC k_ rational_gcd_l (a_2, b_2) = some r) FU ⟨a_, b_, h0, h1, hW, hF⟩ (fun _ _ h => by obtain ⟨_, _, _, _, _, h⟩ := h; cases h) ?_))
  rintro k_ ρ2 w2 ⟨a_2, b_2, h0, h1, hW, hF⟩
  have hF : rational_gcd_l (loopC k_ rational_gcd_l) (a_2, b_2) = some r := (loopC_succ k_ rational_gcd_l (a_2, b_2)).symm.trans hF
  generalize hrec_ : loopC k_ rational_gcd_l = rec_ at hF
  rw [rational_gcd_l] at hF
  refine WP.seq (WP.seq (WP.rb mixed [[], [0]] [[1], []] [(5, .int .u64 b_2), (6, .bool (b_2 != 0))] (by kernel_rfl) ⟨mE rfl rfl h1,
 fun ρz wz hE hA _ ⟨u0, _⟩ => core_val rfl rfl (o_neq u0 rfl rfl), trivial⟩ ?_))
  intro ρ3 w3 hN hf hr
  have h6 := hv hf 1 rfl rfl
  obtain ⟨h0, h1⟩ := k2 hr h0 h1 rfl
  have hW := hW.trans hN
  refine WP.cond rfl h6 (fun hb => ?_) (fun hb => ?_)
  · exact nomatch (if_pos hb).symm.trans hF
  exact nomatch (if_neg (Bool.eq_false_iff.1 hb)).symm.trans hF

set_option maxHeartbeats 4000000 in
theorem rational_Valid_ok {w0 : World} (f_ : Fraction) {r : Bool} (hF : rational_Valid f_ = some r) :
    Calls Tryz.prog 73 #[Fraction.val f_] w0 fun e w1 => e = .returned (.bool r) ∧ Ext noG w0 w1 := by
  refine (Calls.start (P := Tryz.prog) (args := [Fraction.val f_]) (R := fun v w1 => v = .bool r ∧ Ext noG w0 w1) (n := 31) (w := w0) Tryz.func73 rfl rfl (Nat.le_of_ble_eq_true rfl) (fun ρ hargs => ?_)).mono (fun e w1 ⟨v, he, hv, hE⟩ => ⟨hv ▸ he, hE⟩)
  have h0 := hargs 0 _ rfl
  have hW := Ext.refl noG w0
  rw [rational_Valid] at hF
  refine WP.seq (WP.rg mixed [[], []] [[], []] [[0], []] [(1, fun u wz => ∃ b, u = .pointer (some ⟨b, 0, none⟩) ∧ w0.heap.size ≤ b ∧ Mb wz b 95 (Fraction.cells f_)), val 2 (.bool false)] (by kernel_rfl) ⟨fun _ _ _ hE ⟨b, hb, hs, hM⟩ => ⟨b, hb, hs, hM.exn hE⟩, sV, trivial⟩ ⟨fun ρz wz hE hA ⟨e0, _⟩ _ => core_new rfl rfl hE (o_box (e0.trans h0) (bx_95 _ _)),
 aC rfl rfl (fun _ => rfl), trivial⟩ ?_)
  intro ρ1 w1 hN hf hr
  obtain ⟨b1_, h1, hge_b1_, Hb_b1_⟩ := hf 0 rfl
  have hB_b1_ : w0.heap.size ≤ b1_ := Nat.le_trans hW.size hge_b1_
  have hW := hW.trans hN
  refine WP.seq ?_
  obtain ⟨c, hc, hF⟩ := obind hF
  obtain ⟨z, hz, hc⟩ := andB hc
  obtain ⟨z2, hz2, hc⟩ := andB hc
  obtain ⟨z3, hz3, hc⟩ := andB hc
  have hc := andE hc
  refine WP.rb mixed [[], [0], [1], [2], [3], [3, 4], [3, 5], [3, 6], [7], [8], [8, 9], [8, 10], [8, 11], [12], [13], [13, 14], [13, 15], [13, 16], [17], [18], [18, 19], [18, 20], [18], [18, 22], [18, 23], [18, 21, 24], [18, 25], [18, 26], [27]] [[1], [], [], [], [1], [], [], [], [], [1], [], [], [], [], [1], [], [], [], [], [1], [], [], [1], [], [], [], [], [], []] [(3, .pointer (some ((⟨b1_, 0, none⟩ : Addr).add 1))), (4, .int .i64 f_.Den), (5, .bool (decide (1 ≤ f_.Den))), (6, .bool (decide (1 ≤ f_.Den))), (7, gv (decide (1 ≤ f_.Den)) (.pointer (some ((⟨b1_, 0, none⟩ : Addr).add 1)))), (8, gv (decide (1 ≤ f_.Den)) (.int .i64 f_.Den)), (9, gv (decide (1 ≤ f_.Den)) (.bool (decide (f_.Den ≤ 1000000000)))), (10, .bool (decide (1 ≤ f_.Den) && decide (f_.Den ≤ 1000000000))), (11, .bool (decide (1 ≤ f_.Den) && decide (f_.Den ≤ 1000000000))), (12, gv ((decide (1 ≤ f_.Den) && decide (f_.Den ≤ 1000000000))) (.pointer (some ((⟨b1_, 0, none⟩ : Addr).add 0)))), (13, gv ((decide (1 ≤ f_.Den) && decide (f_.Den ≤ 1000000000))) (.int .i64 f_.Num)), (14, gv ((decide (1 ≤ f_.Den) && decide (f_.Den ≤ 1000000000))) (.bool (decide ((-1000000000000000) ≤ f_.Num)))), (15, .bool ((decide (1 ≤ f_.Den) && decide (f_.Den ≤ 1000000000)) && decide ((-1000000000000000) ≤ f_.Num))), (16, .bool ((decide (1 ≤ f_.Den) && decide (f_.Den ≤ 1000000000)) && decide ((-1000000000000000) ≤ f_.Num))), (17, gv (((decide (1 ≤ f_.Den) && decide (f_.Den ≤ 1000000000)) && decide ((-1000000000000000) ≤ f_.Num))) (.pointer (some ((⟨b1_, 0, none⟩ : Addr).add 0)))), (18, gv (((decide (1 ≤ f_.Den) && decide (f_.Den ≤ 1000000000)) && decide ((-1000000000000000) ≤ f_.Num))) (.int .i64 f_.Num)), (19, gv (((decide (1 ≤ f_.Den) && decide (f_.Den ≤ 1000000000)) && decide ((-1000000000000000) ≤ f_.Num))) (.bool (decide (f_.Num ≤ 1000000000000000)))), (20, .bool (((decide (1 ≤ f_.Den) && decide (f_.Den ≤ 1000000000)) && decide ((-1000000000000000) ≤ f_.Num)) && decide (f_.Num ≤ 1000000000000000))), (21, .bool (((decide (1 ≤ f_.Den) && decide (f_.Den ≤ 1000000000)) && decide ((-1000000000000000) ≤ f_.Num)) && decide (f_.Num ≤ 1000000000000000))), (22, gv ((((decide (1 ≤ f_.Den) && decide (f_.Den ≤ 1000000000)) && decide ((-1000000000000000) ≤ f_.Num)) && decide (f_.Num ≤ 1000000000000000))) (.pointer (some ((⟨b1_, 0, none⟩ : Addr).add 0)))), (23, gv ((((decide (1 ≤ f_.Den) && decide (f_.Den ≤ 1000000000)) && decide ((-1000000000000000) ≤ f_.Num)) && decide (f_.Num ≤ 1000000000000000))) (.int .i64 f_.Num)), (24, gv ((((decide (1 ≤ f_.Den) && decide (f_.Den ≤ 1000000000)) && decide ((-1000000000000000) ≤ f_.Num)) && decide (f_.Num ≤ 1000000000000000))) (.int .u64 z)), (25, gv ((((decide (1 ≤ f_.Den) && decide (f_.Den ≤ 1000000000)) && decide ((-1000000000000000) ≤ f_.Num)) && decide (f_.Num ≤ 1000000000000000))) (.pointer (some ((⟨b1_, 0, none⟩ : Addr).add 1)))), (26, gv ((((decide (1 ≤ f_.Den) && decide (f_.Den ≤ 1000000000)) && decide ((-1000000000000000) ≤ f_.Num)) && decide (f_.Num ≤ 1000000000000000))) (.int .i64 f_.Den)), (27, gv ((((decide (1 ≤ f_.Den) && decide (f_.Den ≤ 1000000000)) && decide ((-1000000000000000) ≤ f_.Num)) && decide (f_.Num ≤ 1000000000000000))) (.int .u64 z2)), (28, gv ((((decide (1 ≤ f_.Den) && decide (f_.Den ≤ 1000000000)) && decide ((-1000000000000000) ≤ f_.Num)) && decide (f_.Num ≤ 1000000000000000))) (.int .u64 z3)), (29, gv ((((decide (1 ≤ f_.Den) && decide (f_.Den ≤ 1000000000)) && decide ((-1000000000000000) ≤ f_.Num)) && decide (f_.Num ≤ 1000000000000000))) (.bool (z3 == 1))), (30, .bool c), (2, .bool c)] (by kernel_rfl) ⟨fun ρz wz hE hA ⟨e1, _⟩ _ => core_val rfl rfl (o_fieldAddr (e1.trans h1) (fa_95_1 _ _)),
 fun ρz wz hE hA _ ⟨u0, _⟩ => core_val rfl rfl (o_load u0 (run_load1 (lr_3 _ _) (CA.sub ((Hb_b1_.exn (hA rfl)).ca) 1 1))),
 fun ρz wz hE hA _ ⟨u1, _⟩ => core_val rfl rfl (o_geq u1 rfl rfl),
 mU rfl rfl rfl,
 fun ρz wz hE hA ⟨e1, _⟩ ⟨u3, _⟩ => gIf rfl rfl (yT rfl u3) fun gc F hF => core_val rfl hF (o_fieldAddr (e1.trans h1) (fa_95_1 _ _)),
 fun ρz wz hE hA _ ⟨u3, u4, _⟩ => gIf rfl rfl (yT rfl u3) fun gc F hF => core_val rfl hF (o_load (gt gc u4) (run_load1 (lr_3 _ _) (CA.sub ((Hb_b1_.exn (hA rfl)).ca) 1 1))),
 fun ρz wz hE hA _ ⟨u3, u5, _⟩ => gIf rfl rfl (yT rfl u3) fun gc F hF => core_val rfl hF (o_leq (gt gc u5) rfl rfl),
 fun ρz wz hE hA _ ⟨u3, u6, _⟩ => core_val rfl rfl (o_pick_and u3 u6 rfl),
 mU rfl rfl rfl,
 fun ρz wz hE hA ⟨e1, _⟩ ⟨u8, _⟩ => gIf rfl rfl (yT rfl u8) fun gc F hF => core_val rfl hF (o_fieldAddr (e1.trans h1) (fa_95_0 _ _)),
 fun ρz wz hE hA _ ⟨u8, u9, _⟩ => gIf rfl rfl (yT rfl u8) fun gc F hF => core_val rfl hF (o_load (gt gc u9) (run_load1 (lr_3 _ _) (CA.sub ((Hb_b1_.exn (hA rfl)).ca) 0 1))),
 fun ρz wz hE hA _ ⟨u8, u10, _⟩ => gIf rfl rfl (yT rfl u8) fun gc F hF => core_val rfl hF (o_geq (gt gc u10) rfl rfl),
 fun ρz wz hE hA _ ⟨u8, u11, _⟩ => core_val rfl rfl (o_pick_and u8 u11 rfl),
 mU rfl rfl rfl,
 fun ρz wz hE hA ⟨e1, _⟩ ⟨u13, _⟩ => gIf rfl rfl (yT rfl u13) fun gc F hF => core_val rfl hF (o_fieldAddr (e1.trans h1) (fa_95_0 _ _)),
 fun ρz wz hE hA _ ⟨u13, u14, _⟩ => gIf rfl rfl (yT rfl u13) fun gc F hF => core_val rfl hF (o_load (gt gc u14) (run_load1 (lr_3 _ _) (CA.sub ((Hb_b1_.exn (hA rfl)).ca) 0 1))),
 fun ρz wz hE hA _ ⟨u13, u15, _⟩ => gIf rfl rfl (yT rfl u13) fun gc F hF => core_val rfl hF (o_leq (gt gc u15) rfl rfl),
 fun ρz wz hE hA _ ⟨u13, u16, _⟩ => core_val rfl rfl (o_pick_and u13 u16 rfl),
 mU rfl rfl rfl,
 fun ρz wz hE hA ⟨e1, _⟩ ⟨u18, _⟩ => gIf rfl rfl (yT rfl u18) fun gc F hF => core_val rfl hF (o_fieldAddr (e1.trans h1) (fa_95_0 _ _)),
 fun ρz wz hE hA _ ⟨u18, u19, _⟩ => gIf rfl rfl (yT rfl u18) fun gc F hF => core_val rfl hF (o_load (gt gc u19) (run_load1 (lr_3 _ _) (CA.sub ((Hb_b1_.exn (hA rfl)).ca) 0 1))),
 fun ρz wz hE hA _ ⟨u18, u20, _⟩ => gIf rfl rfl (yT rfl u18) fun gc F hF => core_call hF (call_args1 (gt gc u20)) cf_101 (rational_size_ok  _  (hz gc)),
 fun ρz wz hE hA ⟨e1, _⟩ ⟨u18, _⟩ => gIf rfl rfl (yT rfl u18) fun gc F hF => core_val rfl hF (o_fieldAddr (e1.trans h1) (fa_95_1 _ _)),
 fun ρz wz hE hA _ ⟨u18, u22, _⟩ => gIf rfl rfl (yT rfl u18) fun gc F hF => core_val rfl hF (o_load (gt gc u22) (run_load1 (lr_3 _ _) (CA.sub ((Hb_b1_.exn (hA rfl)).ca) 1 1))),
 fun ρz wz hE hA _ ⟨u18, u23, _⟩ => gIf rfl rfl (yT rfl u18) fun gc F hF => core_call hF (call_args1 (gt gc u23)) cf_101 (rational_size_ok  _  (hz2 gc)),
 fun ρz wz hE hA _ ⟨u18, u21, u24, _⟩ => gIf rfl rfl (yT rfl u18) fun gc F hF => core_call hF (call_args2 (gt gc u21) (gt gc u24)) cf_100 (rational_gcd_ok  _ _  (hz3 gc)),
 fun ρz wz hE hA _ ⟨u18, u25, _⟩ => gIf rfl rfl (yT rfl u18) fun gc F hF => core_val rfl hF (o_eql (gt gc u25) rfl rfl),
 fun ρz wz hE hA _ ⟨u18, u26, _⟩ => core_valE rfl rfl (congrArg Value.bool hc) (o_pick_and u18 u26 rfl),
 aU rfl rfl rfl, trivial⟩ ?_
  intro ρ2 w2 hN hf hr
  have h2 := hv hf 28 rfl rfl
  have hW := hW.trans hN
  refine WP.ret ?_
  show retQ Tryz.prog 31 Tryz.f73 (fun v w1 => v = .bool r ∧ Ext noG w0 w1) .ret ρ2 w2
  obtain rfl := Option.some.inj hF
  exact res1 rfl (by decide) h2 ⟨rfl, hW⟩

set_option maxHeartbeats 4000000 in
theorem money_small_ok {w0 : World} (x_ : Int) {r : Bool} (hF : money_small x_ = some r) :
    Calls Tryz.prog 74 #[.int .i64 x_] w0 fun e w1 => e = .returned (.bool r) ∧ Ext noG w0 w1 := by
  refine (Calls.start (P := Tryz.prog) (args := [.int .i64 x_]) (R := fun v w1 => v = .bool r ∧ Ext noG w0 w1) (n := 9) (w := w0) Tryz.func74 rfl rfl (Nat.le_of_ble_eq_true rfl) (fun ρ hargs => ?_)).mono (fun e w1 ⟨v, he, hv, hE⟩ => ⟨hv ▸ he, hE⟩)
  have h0 := hargs 0 _ rfl
  have hW := Ext.refl noG w0
  rw [money_small] at hF
  refine WP.seq (WP.rb mixed [[]] [[]] [(2, .bool false)] (by kernel_rfl) ⟨aC rfl rfl (fun _ => rfl), trivial⟩ ?_)
  intro ρ1 w1 hN hf hr
  have h0 := (hr 0 rfl).trans h0
  have hW := hW.trans hN
  refine WP.seq (WP.rb mixed [[], [0], [1], [2], [2, 3], [2, 4], [5]] [[0], [], [], [0], [], [], []] [(3, .int .i64 x_), (4, .bool (decide (1 ≤ x_))), (5, .bool (decide (1 ≤ x_))), (6, gv (decide (1 ≤ x_)) (.int .i64 x_)), (7, gv (decide (1 ≤ x_)) (.bool (decide (x_ ≤ 1000000)))), (8, .bool (decide (1 ≤ x_) && decide (x_ ≤ 1000000))), (2, .bool (decide (1 ≤ x_) && decide (x_ ≤ 1000000)))] (by kernel_rfl) ⟨mE rfl rfl h0,
 fun ρz wz hE hA _ ⟨u0, _⟩ => core_val rfl rfl (o_geq u0 rfl rfl),
 mU rfl rfl rfl,
 fun ρz wz hE hA ⟨e0, _⟩ ⟨u2, _⟩ => gIf rfl rfl (yT rfl u2) fun gc F hF => core_val rfl hF (o_move (e0.trans h0)),
 fun ρz wz hE hA _ ⟨u2, u3, _⟩ => gIf rfl rfl (yT rfl u2) fun gc F hF => core_val rfl hF (o_leq (gt gc u3) rfl rfl),
 fun ρz wz hE hA _ ⟨u2, u4, _⟩ => core_val rfl rfl (o_pick_and u2 u4 rfl),
 aU rfl rfl rfl, trivial⟩ ?_)
  intro ρ2 w2 hN hf hr
  have h2 := hv hf 6 rfl rfl
  have hW := hW.trans hN
  refine WP.ret ?_
  show retQ Tryz.prog 9 Tryz.f74 (fun v w1 => v = .bool r ∧ Ext noG w0 w1) .ret ρ2 w2
  obtain rfl := Option.some.inj hF
  exact res1 rfl (by decide) h2 ⟨rfl, hW⟩

set_option maxHeartbeats 4000000 in
theorem money_CheckRates_ok {w0 : World} (d_ : List Rate) {v_d_ : Value} (H_d_ : RepSl Rate.R noG w0 v_d_ d_) {r : Int} (hF : money_CheckRates d_ = some r) :
    Calls Tryz.prog 44 #[v_d_] w0 fun e w1 => e = .returned (.int .i64 r) ∧ Ext noG w0 w1 := by
  refine (Calls.start (P := Tryz.prog) (args := [v_d_]) (R := fun v w1 => v = .int .i64 r ∧ Ext noG w0 w1) (n := 81) (w := w0) Tryz.func44 rfl rfl (Nat.le_of_ble_eq_true rfl) (fun ρ hargs => ?_)).mono (fun e w1 ⟨v, he, hv, hE⟩ => ⟨hv ▸ he, hE⟩)
  have h0 := hargs 0 _ rfl
  have hW := Ext.refl noG w0
  obtain ⟨_, _, hs_H_d_, _, _⟩ := RepSl.shape H_d_
  have H_d_ := H_d_.start
  rw [money_CheckRates] at hF
  refine WP.seq (WP.rb mixed [[]] [[]] [(2, .int .i64 0)] (by kernel_rfl) ⟨aC rfl rfl (fun _ => rfl), trivial⟩ ?_)
  intro ρ1 w1 hN hf hr
  have h0 := (hr 0 rfl).trans h0
  have H_d_ := H_d_.exn hN
  have hW := hW.trans hN
  refine WP.seq (WP.seq (WP.rb mixed [[], [0], [1]] [[0], [], []] [(5, v_d_), (6, .int .i64 (d_.length : Int)), (7, .bool (decide (40 < (d_.length : Int))))] (by kernel_rfl) ⟨mE rfl rfl h0,
 fun ρz wz hE hA _ ⟨u0, _⟩ => core_val rfl rfl (o_len (u0.trans hs_H_d_) len_68),
 fun ρz wz hE hA _ ⟨u1, _⟩ => core_val rfl rfl (o_gtr u1 rfl rfl), trivial⟩ ?_))
  intro ρ2 w2 hN hf hr
  have h7 := hv hf 2 rfl rfl
  have h0 := (hr 0 rfl).trans h0
  have H_d_ := H_d_.exn hN
  have hW := hW.trans hN
  refine WP.cond rfl h7 (fun hb => ?_) (fun hb => ?_)
  · exact nomatch (if_pos hb).symm.trans hF
  have hF := (if_neg (Bool.eq_false_iff.1 hb)).symm.trans hF
  refine WP.skip (WP.seq (WP.seq (WP.rb mixed [[], [0], []] [[0], [], []] [(8, v_d_), (9, .int .i64 (d_.length : Int)), (10, .int .i64 0)] (by kernel_rfl) ⟨mE rfl rfl h0,
 fun ρz wz hE hA _ ⟨u0, _⟩ => core_val rfl rfl (o_len (u0.trans hs_H_d_) len_68),
 mC rfl rfl (fun _ => rfl), trivial⟩ ?_)))
  intro ρ4 w4 hN hf hr
  have h8 := hv hf 0 rfl rfl
  have h9 := hv hf 1 rfl rfl
  have h10 := hv hf 2 rfl rfl
  have h0 := (hr 0 rfl).trans h0
  have H_d_ := H_d_.exn hN
  have hW := hW.trans hN
  refine WP.block (WP.loop (fun k_ ρ w => ∃ x : Int, ρ 0 = v_d_ ∧ ρ 8 = v_d_ ∧ ρ 9 = .int .i64 (d_.length : Int) ∧ ρ 10 = .int .i64 x ∧ RepSl Rate.R (gfr noG w0) w v_d_ d_ ∧ Ext noG w0 w ∧ loopC k_ (money_CheckRates_l d_) x = some r) FU ⟨0, h0, h8, h9, h10, H_d_, hW, hF⟩ (fun _ _ h => by obtain ⟨_, _, _, _, _, _, _, h⟩ := h; cases h) ?_)
  rintro k_ ρ5 w5 ⟨x, h0, h8, h9, h10, H_d_, hW, hF⟩
  have hF : money_CheckRates_l d_ (loopC k_ (money_CheckRates_l d_)) x = some r := (loopC_succ k_ (money_CheckRates_l d_) x).symm.trans hF
  generalize hrec_ : loopC k_ (money_CheckRates_l d_) = rec_ at hF
  rw [money_CheckRates_l] at hF
  refine WP.seq (WP.rb mixed [[]] [[10, 9]] [(11, .bool (decide (x < (d_.length : Int))))] (by kernel_rfl) ⟨fun ρz wz hE hA ⟨e10, e9, _⟩ _ => core_val rfl rfl (o_lss (e10.trans h10) (e9.trans h9) rfl), trivial⟩ ?_)
  intro ρ6 w6 hN hf hr
  have h11 := hv hf 0 rfl rfl
  obtain ⟨h0, h8, h9, h10⟩ := k4 hr h0 h8 h9 h10 rfl
  have H_d_ := H_d_.exn hN
  have hW := hW.trans hN
  refine WP.seq (WP.cond rfl h11 (fun hb => ?_) (fun hb => ?_))
  · exact nomatch (if_pos hb).symm.trans hF
  have hF := (if_neg (Bool.eq_false_iff.1 hb)).symm.trans hF
  refine WP.exit (thenQ_exit (thenQ_exit (blockQ_hit (WP.seq (WP.rb mixed [[]] [[]] [(2, .int .i64 0)] (by kernel_rfl) ⟨aC rfl rfl (fun _ => rfl), trivial⟩ ?_)))))
  intro ρ13 w13 hN hf hr
  have h2 := hv hf 0 rfl rfl
  have hW := hW.trans hN
  refine WP.ret ?_
  show retQ Tryz.prog 81 Tryz.f44 (fun v w1 => v = .int .i64 r ∧ Ext noG w0 w1) .ret ρ13 w13
  obtain rfl := Option.some.inj hF
  exact res1 rfl (by decide) h2 ⟨rfl, hW⟩
end Go.PL
