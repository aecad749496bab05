/- The translated code computes the Lean functions (printed by a program). -/
import Derived.Test.YtndkbfbjjnhgoaaGreatDoorW1
set_option linter.unusedVariables false
set_option linter.unusedSimpArgs false
set_option maxRecDepth 10000
namespace Go.PL
open Go Go.Proofs

set_option maxHeartbeats 4000000 in
theorem fact_Bytes_ok {w0 : World} (d_ : api_Fact) {r : (List Int)} (hF : fact_Bytes d_ = some r) :
    Calls Tryz.prog 115 #[api_Fact.val d_] w0 fun e w1 => ∃ v, e = .returned v ∧ Ext noG w0 w1 ∧ Own w0.heap.size 5 1 (fun x : Int => [Value.int .u8 x]) w1 v r := by
  refine (Calls.start (P := Tryz.prog) (args := [api_Fact.val d_]) (R := fun v w1 => Own w0.heap.size 5 1 (fun x : Int => [Value.int .u8 x]) w1 v r ∧ Ext noG w0 w1) (n := 93) (w := w0) Tryz.func115 rfl rfl (Nat.le_of_ble_eq_true rfl) (fun ρ hargs => ?_)).mono (fun e w1 ⟨v, he, hv, hE⟩ => ⟨v, he, hE, hv⟩)
  have h0 := hargs 0 _ rfl
  have hW := Ext.refl noG w0
  rw [fact_Bytes] at hF
  refine WP.seq (WP.rg mixed [[], []] [[], []] [[0], []] [(1, fun u wz => ∃ b, u = .pointer (some ⟨b, 0, none⟩) ∧ w0.heap.size ≤ b ∧ Mb wz b 38 (api_Fact.cells d_)), val 2 (.slice none 0 0)] (by kernel_rfl) ⟨fun _ _ _ hE ⟨b, hb, hs, hM⟩ => ⟨b, hb, hs, hM.exn hE⟩, sV, trivial⟩ ⟨fun ρz wz hE hA ⟨e0, _⟩ _ => core_new rfl rfl hE (o_box (e0.trans h0) (bx_38 _ _)),
 aC rfl rfl (fun _ => rfl), trivial⟩ ?_)
  intro ρ1 w1 hN hf hr
  obtain ⟨b1_, h1, hge_b1_, Hb_b1_⟩ := hf 0 rfl
  have hB_b1_ : w0.heap.size ≤ b1_ := Nat.le_trans hW.size hge_b1_
  have hW := hW.trans hN
  refine WP.seq (WP.seq ?_)
  obtain ⟨z, hz, hF⟩ := obind hF
  refine WP.rb mixed [[], [0], [1]] [[1], [], []] [(7, api_Fact.val d_), (8, .bool z), (9, .bool (!z))] (by kernel_rfl) ⟨fun ρz wz hE hA ⟨e1, _⟩ _ => core_val rfl rfl (o_load (e1.trans h1) (run_loadN (cs := (api_Fact.cells d_)) (lr_38 _ _) rfl ((Hb_b1_.exn (hA rfl)).ca))),
 fun ρz wz hE hA _ ⟨u0, _⟩ => core_call rfl (call_args1 u0) cf_64 (fact_Valid_ok  _  hz),
 fun ρz wz hE hA _ ⟨u1, _⟩ => core_val rfl rfl (o_not u1 rfl), trivial⟩ ?_
  intro ρ2 w2 hN hf hr
  have h9 := hv hf 2 rfl rfl
  have h1 := (hr 1 rfl).trans h1
  have Hb_b1_n := Hb_b1_.exn hN
  have hW := hW.trans hN
  have Hb_b1_ := Hb_b1_n
  refine WP.cond rfl h9 (fun hb => ?_) (fun hb => ?_)
  · have hF := (if_pos hb).symm.trans hF
    refine WP.seq (WP.rb mixed [[]] [[]] [(2, .slice none 0 0)] (by kernel_rfl) ⟨aC rfl rfl (fun _ => rfl), trivial⟩ ?_)
    intro ρ3 w3 hN hf hr
    have h2 : ρ3 2 = .slice none 0 0 := hf 0 rfl
    have O2 : Own w0.heap.size 5 1 (fun x : Int => [Value.int .u8 x]) w3 (.slice none 0 0) [] := Own.nil _ _ _ _ _
    have hW := hW.trans hN
    have O2 : Own w0.heap.size 5 1 (fun x : Int => [Value.int .u8 x]) w3 (.slice none 0 0) [] := Own.nil _ _ _ _ _
    refine WP.ret ?_
    show retQ Tryz.prog 93 Tryz.f115 (fun v w1 => Own w0.heap.size 5 1 (fun x : Int => [Value.int .u8 x]) w1 v r ∧ Ext noG w0 w1) .ret ρ3 w3
    obtain rfl := Option.some.inj hF
    exact res1 rfl (by decide) h2 ⟨O2, hW⟩
  have hF := (if_neg (Bool.eq_false_iff.1 hb)).symm.trans hF
  refine WP.skip (WP.seq (WP.rb mixed [[]] [[]] [(3, .int .i64 0)] (by kernel_rfl) ⟨aC rfl rfl (fun _ => rfl), trivial⟩ ?_))
  intro ρ4 w4 hN hf hr
  have h3 := hv hf 0 rfl rfl
  have h1 := (hr 1 rfl).trans h1
  have Hb_b1_n := Hb_b1_.exn hN
  have hW := hW.trans hN
  have Hb_b1_ := Hb_b1_n
  refine WP.seqJ (fun ρ w => ∃ x : Int, ρ 1 = .pointer (some ⟨b1_, 0, none⟩) ∧ ρ 3 = .int .i64 x ∧ Mb w b1_ 38 (api_Fact.cells d_) ∧ Ext noG w0 w ∧ fact_Bytes_j d_ x = some r) ?_ ?_
  · refine WP.seq (WP.rb mixed [[], [0]] [[1], []] [(10, .pointer (some ((⟨b1_, 0, none⟩ : Addr).add 3))), (11, .bool d_.Withdrawn)] (by kernel_rfl) ⟨fun ρz wz hE hA ⟨e1, _⟩ _ => core_val rfl rfl (o_fieldAddr (e1.trans h1) (fa_38_3 _ _)),
 fun ρz wz hE hA _ ⟨u0, _⟩ => core_val rfl rfl (o_load u0 (run_load1 (lr_4 _ _) (CA.sub ((Hb_b1_.exn (hA rfl)).ca) 3 1))), trivial⟩ ?_)
    intro ρ29 w29 hN hf hr
    have h11 := hv hf 1 rfl rfl
    obtain ⟨h1, h3⟩ := k2 hr h1 h3 rfl
    have Hb_b1_n := Hb_b1_.exn hN
    have hW := hW.trans hN
    have Hb_b1_ := Hb_b1_n
    refine WP.cond rfl h11 (fun hb => ?_) (fun hb => ?_)
    · have hF := (if_pos hb).symm.trans hF
      refine WP.rb mixed [[]] [[]] [(3, .int .i64 1)] (by kernel_rfl) ⟨aC rfl rfl (fun _ => rfl), trivial⟩ ?_
      intro ρ30 w30 hN hf hr
      have h3 := hv hf 0 rfl rfl
      have h1 := (hr 1 rfl).trans h1
      have Hb_b1_n := Hb_b1_.exn hN
      have hW := hW.trans hN
      have Hb_b1_ := Hb_b1_n
      exact ⟨1, h1, h3, Hb_b1_, hW, hF⟩
    have hF := (if_neg (Bool.eq_false_iff.1 hb)).symm.trans hF
    refine WP.skip ?_
    exact ⟨0, h1, h3, Hb_b1_, hW, hF⟩
  rintro ρ5 w5 ⟨x, h1, h3, Hb_b1_, hW, hF⟩
  rw [fact_Bytes_j] at hF
  refine WP.seq ?_
  obtain ⟨z2, hz2, hF⟩ := obind hF
  refine WP.rg mixed [[], [0], [1], [2], [3]] [[], [0], [1], [2], [3]] [[1], [], [], [], []] [val 12 (.pointer (some ((⟨b1_, 0, none⟩ : Addr).add 0))), val 13 (.int .i64 d_.Issuer), (14, fun u wz => ∃ b, u = .slice (some ⟨b, 0, none⟩) 1 1 ∧ w5.heap.size ≤ b ∧ Mb wz b 3 (([d_.Issuer]).flatMap (fun x : Int => [Value.int .i64 x]))), (15, fun u wz => Own w0.heap.size 5 1 (fun x : Int => [Value.int .u8 x]) wz u z2 ∧ ∀ b, u.ownBlock = some b → w5.heap.size ≤ b), (4, fun u wz => Own w0.heap.size 5 1 (fun x : Int => [Value.int .u8 x]) wz u z2 ∧ ∀ b, u.ownBlock = some b → w5.heap.size ≤ b)] (by kernel_rfl) ⟨sV, sV, fun _ _ _ hE ⟨b, hz, hs, hM⟩ => ⟨b, hz, hs, hM.exn hE⟩, fun _ _ _ hE ⟨hO, hf⟩ => ⟨hO.exn hE, hf⟩, fun _ _ _ hE ⟨hO, hf⟩ => ⟨hO.exn hE, hf⟩, trivial⟩ ⟨fun ρz wz hE hA ⟨e1, _⟩ _ => core_val rfl rfl (o_fieldAddr (e1.trans h1) (fa_38_0 _ _)),
 fun ρz wz hE hA _ ⟨u0, _⟩ => core_val rfl rfl (o_load u0 (run_load1 (lr_3 _ _) (CA.sub ((Hb_b1_.exn (hA rfl)).ca) 0 1))),
 fun ρz wz hE hA _ ⟨u1, _⟩ => core_slice rfl rfl hE (o_buildSlice (build_parts1 u1) (bs_22_1 _ _)),
 fun ρz wz hE hA _ ⟨⟨bz2, hzn2, hge2, hM2⟩, _⟩ => core_callR rfl (call_args3 rfl rfl hzn2) cf_128 ((fact_appendNumbers_ok  _ _ _ (Own.nil wz.heap.size 5 1 (fun x : Int => [Value.int .u8 x]) wz) (Mb.rep (n := 1) (cells := fun x : Int => [Value.int .i64 x]) (hn := fun _ => rfl) hM2 rfl (Nat.le_of_ble_eq_true rfl) (fun h => nilblock h)) (Nat.le_refl _) hz2).mono (fun e w1 ⟨v, he, hE1, hO, _⟩ => ⟨v, he, hE1.mono (fun _ h => nilblock h), hO.base (Nat.le_trans hW.size hE.size), fun b hb => Nat.le_trans hE.size (hO.lt hb).1⟩)),
 fun ρz wz hE hA _ ⟨⟨hO3, hfr3⟩, _⟩ => core_copy rfl rfl (o_assign rfl) ⟨hO3, hfr3⟩, trivial⟩ ?_
  intro ρ6 w6 hN hf hr
  obtain ⟨v4_, h4⟩ : ∃ v, ρ6 4 = v := ⟨_, rfl⟩
  have hq4 : (fun u wz => Own w0.heap.size 5 1 (fun x : Int => [Value.int .u8 x]) wz u z2 ∧ ∀ b, u.ownBlock = some b → w5.heap.size ≤ b) (ρ6 4) w6 := hf 4 rfl
  rw [h4] at hq4
  obtain ⟨hq4, hfr4⟩ := hq4
  obtain ⟨h1, h3⟩ := k2 hr h1 h3 rfl
  have Hb_b1_n := Hb_b1_.exn hN
  have hW := hW.trans hN
  have O4 := hq4
  have hnb_O4_b1_ : Value.ownBlock v4_ ≠ some b1_ := fun h1 => absurd Hb_b1_.lt (Nat.not_lt.2 (hfr4 _ h1))
  have Hb_b1_ := Hb_b1_n
  refine WP.seq ?_
  obtain ⟨z3, hz3, hF⟩ := obind hF
  refine WP.region mixed [[], [], [1], [2], [0, 2, 3], [0, 4]] [[], [], [1], [2], [0, 3], [4]] [[4], [1], [], [], [], []] [4] [] [val 16 (v4_), val 17 (.pointer (some ((⟨b1_, 0, none⟩ : Addr).add 1))), val 18 (.int .i64 d_.Number), (19, fun u wz => ∃ b, u = .slice (some ⟨b, 0, none⟩) 1 1 ∧ w6.heap.size ≤ b ∧ Mb wz b 3 (([d_.Number]).flatMap (fun x : Int => [Value.int .i64 x]))), (20, fun u wz => Own w0.heap.size 5 1 (fun x : Int => [Value.int .u8 x]) wz u z3 ∧ ∀ b, u.ownBlock = some b → (v4_.ownBlock = some b ∨ w6.heap.size ≤ b)), (4, fun u wz => Own w0.heap.size 5 1 (fun x : Int => [Value.int .u8 x]) wz u z3 ∧ ∀ b, u.ownBlock = some b → (v4_.ownBlock = some b ∨ w6.heap.size ≤ b))] (fun b => Value.ownBlock v4_ = some b) (by kernel_rfl) ⟨sV, sV, sV, fun _ _ _ hE ⟨b, hz, hs, hM⟩ => ⟨b, hz, hs, hM.ext hE (fun hg => absurd (O4.lt hg).2 (Nat.not_lt.2 hs))⟩, fun _ _ _ hE ⟨hO, hf⟩ => ⟨hO.exn hE, hf⟩, fun _ _ _ hE ⟨hO, hf⟩ => ⟨hO.exn hE, hf⟩, trivial⟩ ⟨mE rfl rfl h4,
 fun ρz wz hE hA ⟨e1, _⟩ _ => core_val rfl rfl (o_fieldAddr (e1.trans h1) (fa_38_1 _ _)),
 fun ρz wz hE hA _ ⟨u1, _⟩ => core_val rfl rfl (o_load u1 (run_load1 (lr_3 _ _) (CA.sub ((Hb_b1_.exn (hA rfl)).ca) 1 1))),
 fun ρz wz hE hA _ ⟨u2, _⟩ => core_slice rfl rfl hE (o_buildSlice (build_parts1 u2) (bs_22_1 _ _)),
 fun ρz wz hE hA _ ⟨u0, ⟨bz3, hzn3, hge3, hM3⟩, _⟩ => core_callC rfl rfl (fun b hb => hb) (call_args3 u0 rfl hzn3) cf_128 ((fact_appendNumbers_ok  _ _ _ (O4.exn (hA rfl)) (Mb.rep (n := 1) (cells := fun x : Int => [Value.int .i64 x]) (hn := fun _ => rfl) hM3 rfl (Nat.le_of_ble_eq_true rfl) (fun h => absurd (O4.lt h).2 (Nat.not_lt.2 hge3))) (Nat.le_trans hW.size hE.size) hz3).mono (fun e w1 ⟨v, he, hE1, hO, hb⟩ => ⟨v, he, hE1, hO, fun b h => (hb b h).imp id (Nat.le_trans hE.size)⟩)),
 fun ρz wz hE hA _ ⟨⟨hO4, hfr4⟩, _⟩ => core_copy rfl rfl (o_assign rfl) ⟨hO4, hfr4⟩, trivial⟩ ?_
  intro ρ7 w7 hE hN hf hr
  obtain ⟨v4_2, h4⟩ : ∃ v, ρ7 4 = v := ⟨_, rfl⟩
  have hq4 : (fun u wz => Own w0.heap.size 5 1 (fun x : Int => [Value.int .u8 x]) wz u z3 ∧ ∀ b, u.ownBlock = some b → (v4_.ownBlock = some b ∨ w6.heap.size ≤ b)) (ρ7 4) w7 := hf 5 rfl
  rw [h4] at hq4
  obtain ⟨hq4, hfr4⟩ := hq4
  obtain ⟨h1, h3⟩ := k2 hr h1 h3 rfl
  have Oo_O4 := O4
  have Hb_b1_n := Hb_b1_.ext hE (fun h => hnb_O4_b1_ h)
  have hW := Ext.own hW hE (fun b hb => (Oo_O4.lt hb).1)
  have O4 := hq4
  have hnb_O4_b1_ : Value.ownBlock v4_2 ≠ some b1_ := fun h1 => (hfr4 _ h1).elim (fun h => hnb_O4_b1_ h) (fun h => absurd Hb_b1_.lt (Nat.not_lt.2 h))
  have Hb_b1_ := Hb_b1_n
  refine WP.seq ?_
  obtain ⟨z4, hz4, hF⟩ := obind hF
  refine WP.region mixed [[], [], [1], [], [], [4], [], [6], [2, 3, 5, 7], [0, 2, 5, 7, 8], [0, 9]] [[], [], [1], [], [], [4], [], [6], [2, 3, 5, 7], [0, 8], [9]] [[4], [1], [], [3], [1], [], [1], [], [], [], []] [9] [] [val 21 (v4_2), val 22 (.pointer (some ((⟨b1_, 0, none⟩ : Addr).add 2))), val 23 (.int .i64 d_.Version), val 24 (.int .i64 x), val 25 (.pointer (some ((⟨b1_, 0, none⟩ : Addr).add 4))), val 26 (.int .i64 d_.Person), val 27 (.pointer (some ((⟨b1_, 0, none⟩ : Addr).add 5))), val 28 (.int .i64 d_.Kind), (29, fun u wz => ∃ b, u = .slice (some ⟨b, 0, none⟩) 4 4 ∧ w7.heap.size ≤ b ∧ Mb wz b 3 (([d_.Version, x, d_.Person, d_.Kind]).flatMap (fun x : Int => [Value.int .i64 x]))), (30, fun u wz => Own w0.heap.size 5 1 (fun x : Int => [Value.int .u8 x]) wz u z4 ∧ ∀ b, u.ownBlock = some b → (v4_2.ownBlock = some b ∨ w7.heap.size ≤ b)), (4, fun u wz => Own w0.heap.size 5 1 (fun x : Int => [Value.int .u8 x]) wz u z4 ∧ ∀ b, u.ownBlock = some b → (v4_2.ownBlock = some b ∨ w7.heap.size ≤ b))] (fun b => Value.ownBlock v4_2 = some b) (by kernel_rfl) ⟨sV, sV, sV, sV, sV, sV, sV, sV, fun _ _ _ hE ⟨b, hz, hs, hM⟩ => ⟨b, hz, hs, hM.ext hE (fun hg => absurd (O4.lt hg).2 (Nat.not_lt.2 hs))⟩, fun _ _ _ hE ⟨hO, hf⟩ => ⟨hO.exn hE, hf⟩, fun _ _ _ hE ⟨hO, hf⟩ => ⟨hO.exn hE, hf⟩, trivial⟩ ⟨mE rfl rfl h4,
 fun ρz wz hE hA ⟨e1, _⟩ _ => core_val rfl rfl (o_fieldAddr (e1.trans h1) (fa_38_2 _ _)),
 fun ρz wz hE hA _ ⟨u1, _⟩ => core_val rfl rfl (o_load u1 (run_load1 (lr_3 _ _) (CA.sub ((Hb_b1_.exn (hA rfl)).ca) 2 1))),
 mE rfl rfl h3,
 fun ρz wz hE hA ⟨e1, _⟩ _ => core_val rfl rfl (o_fieldAddr (e1.trans h1) (fa_38_4 _ _)),
 fun ρz wz hE hA _ ⟨u4, _⟩ => core_val rfl rfl (o_load u4 (run_load1 (lr_3 _ _) (CA.sub ((Hb_b1_.exn (hA rfl)).ca) 4 1))),
 fun ρz wz hE hA ⟨e1, _⟩ _ => core_val rfl rfl (o_fieldAddr (e1.trans h1) (fa_38_5 _ _)),
 fun ρz wz hE hA _ ⟨u6, _⟩ => core_val rfl rfl (o_load u6 (run_load1 (lr_3 _ _) (CA.sub ((Hb_b1_.exn (hA rfl)).ca) 5 1))),
 fun ρz wz hE hA _ ⟨u2, u3, u5, u7, _⟩ => core_slice rfl rfl hE (o_buildSlice (build_parts4 u2 u3 u5 u7) (bs_22_4 _ _ _ _ _)),
 fun ρz wz hE hA _ ⟨u0, ⟨bz8, hzn8, hge8, hM8⟩, _⟩ => core_callC rfl rfl (fun b hb => hb) (call_args3 u0 rfl hzn8) cf_128 ((fact_appendNumbers_ok  _ _ _ (O4.exn (hA rfl)) (Mb.rep (n := 1) (cells := fun x : Int => [Value.int .i64 x]) (hn := fun _ => rfl) hM8 rfl (Nat.le_of_ble_eq_true rfl) (fun h => absurd (O4.lt h).2 (Nat.not_lt.2 hge8))) (Nat.le_trans hW.size hE.size) hz4).mono (fun e w1 ⟨v, he, hE1, hO, hb⟩ => ⟨v, he, hE1, hO, fun b h => (hb b h).imp id (Nat.le_trans hE.size)⟩)),
 fun ρz wz hE hA _ ⟨⟨hO9, hfr9⟩, _⟩ => core_copy rfl rfl (o_assign rfl) ⟨hO9, hfr9⟩, trivial⟩ ?_
  intro ρ8 w8 hE hN hf hr
  obtain ⟨v4_3, h4⟩ : ∃ v, ρ8 4 = v := ⟨_, rfl⟩
  have hq4 : (fun u wz => Own w0.heap.size 5 1 (fun x : Int => [Value.int .u8 x]) wz u z4 ∧ ∀ b, u.ownBlock = some b → (v4_2.ownBlock = some b ∨ w7.heap.size ≤ b)) (ρ8 4) w8 := hf 10 rfl
  rw [h4] at hq4
  obtain ⟨hq4, hfr4⟩ := hq4
  have h1 := (hr 1 rfl).trans h1
  have Oo_O4 := O4
  have Hb_b1_n := Hb_b1_.ext hE (fun h => hnb_O4_b1_ h)
  have hW := Ext.own hW hE (fun b hb => (Oo_O4.lt hb).1)
  have O4 := hq4
  have hnb_O4_b1_ : Value.ownBlock v4_3 ≠ some b1_ := fun h1 => (hfr4 _ h1).elim (fun h => hnb_O4_b1_ h) (fun h => absurd Hb_b1_.lt (Nat.not_lt.2 h))
  have Hb_b1_ := Hb_b1_n
  refine WP.seq (WP.seq ?_)
  obtain ⟨z5, hz5, hF⟩ := obind hF
  refine WP.rg mixed [[], [0], [1], [2]] [[], [0], [1], [2]] [[1], [], [], []] [val 31 (.pointer (some ((⟨b1_, 0, none⟩ : Addr).add 5))), val 32 (.int .i64 d_.Kind), val 33 (.string z5), (34, fun u wz => ∃ b, u = .pointer (some ⟨b, 0, none⟩) ∧ w8.heap.size ≤ b ∧ It wz b z5 0)] (by kernel_rfl) ⟨sV, sV, sV, fun _ _ _ hE ⟨b, hb, hs, hM⟩ => ⟨b, hb, hs, hM.exn hE⟩, trivial⟩ ⟨fun ρz wz hE hA ⟨e1, _⟩ _ => core_val rfl rfl (o_fieldAddr (e1.trans h1) (fa_38_5 _ _)),
 fun ρz wz hE hA _ ⟨u0, _⟩ => core_val rfl rfl (o_load u0 (run_load1 (lr_3 _ _) (CA.sub ((Hb_b1_.exn (hA rfl)).ca) 5 1))),
 fun ρz wz hE hA _ ⟨u1, _⟩ => core_call rfl (call_args1 u1) cf_90 (fact_Uses_ok  _  hz5),
 fun ρz wz hE hA _ ⟨u2, _⟩ => core_newIt rfl rfl hE u2 (by kernel_rfl), trivial⟩ ?_
  intro ρ9 w9 hN hf hr
  obtain ⟨b34_, h34, hge_b34_, Hb_b34_⟩ := hf 3 rfl
  obtain ⟨h1, h4⟩ := k2 hr h1 h4 rfl
  have Oo_O4 := O4
  have Hb_b1_n := Hb_b1_.exn hN
  have hB_b34_ : w0.heap.size ≤ b34_ := Nat.le_trans hW.size hge_b34_
  have hne_b1__b34_ : b1_ ≠ b34_ := Nat.ne_of_lt (Nat.lt_of_lt_of_le Hb_b1_.lt hge_b34_)
  have hW := hW.trans hN
  have O4 := Oo_O4.exn hN
  have hnb_O4_b34_ : Value.ownBlock v4_3 ≠ some b34_ := fun h => absurd (Oo_O4.lt h).2 (Nat.not_lt.2 hge_b34_)
  have Hb_b1_ := Hb_b1_n
  refine WP.block (WP.loop (fun k_ ρ w => ∃ x2 : List Int, ∃ v : Int, ∃ v4_4 : Value, ρ 1 = .pointer (some ⟨b1_, 0, none⟩) ∧ ρ 4 = v4_4 ∧ ρ 34 = .pointer (some ⟨b34_, 0, none⟩) ∧ Mb w b1_ 38 (api_Fact.cells d_) ∧ It w b34_ z5 v ∧ b1_ ≠ b34_ ∧ Own w0.heap.size 5 1 (fun x : Int => [Value.int .u8 x]) w v4_4 x2 ∧ Value.ownBlock v4_4 ≠ some b1_ ∧ Value.ownBlock v4_4 ≠ some b34_ ∧ Ext noG w0 w ∧ loopC k_ (fact_Bytes_l d_ z5) (x2, v) = some r) FU ⟨z4, 0, v4_3, h1, h4, h34, Hb_b1_, Hb_b34_, hne_b1__b34_, O4, hnb_O4_b1_, hnb_O4_b34_, hW, hF⟩ (fun _ _ h => by obtain ⟨_, _, _, _, _, _, _, _, _, _, _, _, _, h⟩ := h; cases h) ?_)
  rintro k_ ρ10 w10 ⟨x2, v, v4_4, h1, h4, h34, Hb_b1_, Hb_b34_, hne_b1__b34_, O4, hnb_O4_b1_, hnb_O4_b34_, hW, hF⟩
  have hF : fact_Bytes_l d_ z5 (loopC k_ (fact_Bytes_l d_ z5)) (x2, v) = some r := (loopC_succ k_ (fact_Bytes_l d_ z5) (x2, v)).symm.trans hF
  generalize hrec_ : loopC k_ (fact_Bytes_l d_ z5) = rec_ at hF
  rw [fact_Bytes_l] at hF
  refine WP.seq ?_
  obtain ⟨c, hc, hF⟩ := obind hF
  refine WP.region mixed [[], [0]] [[], [0]] [[34], []] [0] [] [(35, fun u wz => u = nxV (decide (v < (z5.size : Int))) v c ∧ It wz b34_ z5 (nextP z5 v)), val 36 (.bool (decide (v < (z5.size : Int))))] (fun x => x = b34_) (by kernel_rfl) ⟨fun _ _ _ hE ⟨h1, h2⟩ => ⟨h1, h2.exn hE⟩, sV, trivial⟩ ⟨fun ρz wz hE hA ⟨e34, _⟩ _ => core_next rfl rfl (fun _ h => h) (e34.trans h34) (Hb_b34_.exn (hA rfl)) hc,
 fun ρz wz hE hA _ ⟨⟨u0, _⟩, _⟩ => core_val rfl rfl (o_nx0 u0), trivial⟩ ?_
  intro ρ11 w11 hE hN hf hr
  have h35 : ρ11 35 = nxV (decide (v < (z5.size : Int))) v c := (hf 0 rfl).1
  have h36 : ρ11 36 = .bool (decide (v < (z5.size : Int))) := hf 1 rfl
  obtain ⟨h1, h4, h34⟩ := k3 hr h1 h4 h34 rfl
  have Oo_O4 := O4
  have Hb_b1_n := Hb_b1_.ext hE (fun h => hne_b1__b34_ h)
  have Hb_b34_n := (hf 0 rfl).2
  have hW := Ext.own hW hE (fun x h => h.symm ▸ hB_b34_)
  have O4 := Oo_O4.ext hE (fun b hb hg => hnb_O4_b34_ (hg ▸ hb))
  have Hb_b1_ := Hb_b1_n
  have Hb_b34_ := Hb_b34_n
  refine WP.seq (WP.cond rfl h36 (fun hb => ?_) (fun hb => ?_))
  · have hF := (if_pos hb).symm.trans hF
    refine WP.skip (WP.block (WP.seq (WP.rb mixed [[], [0]] [[35], []] [(37, .int .i32 c), (6, .int .i32 c)] (by kernel_rfl) ⟨fun ρz wz hE hA ⟨e35, _⟩ _ => core_val rfl rfl (o_nx2 (e35.trans h35) hb),
 aU rfl rfl rfl, trivial⟩ ?_)))
    intro ρ12 w12 hN hf hr
    have h6 := hv hf 1 rfl rfl
    obtain ⟨h1, h4, h34⟩ := k3 hr h1 h4 h34 rfl
    have Oo_O4 := O4
    have Hb_b1_n := Hb_b1_.exn hN
    have Hb_b34_n := Hb_b34_.exn hN
    have hW := hW.trans hN
    have O4 := Oo_O4.exn hN
    have Hb_b1_ := Hb_b1_n
    have Hb_b34_ := Hb_b34_n
    refine WP.seq (WP.rb mixed [[]] [[6]] [(38, .int .i32 c)] (by kernel_rfl) ⟨mE rfl rfl h6, trivial⟩ ?_)
    intro ρ13 w13 hN hf hr
    have h38 := hv hf 0 rfl rfl
    obtain ⟨h1, h4, h34⟩ := k3 hr h1 h4 h34 rfl
    have Oo_O4 := O4
    have Hb_b1_n := Hb_b1_.exn hN
    have Hb_b34_n := Hb_b34_.exn hN
    have hW := hW.trans hN
    have O4 := Oo_O4.exn hN
    have Hb_b1_ := Hb_b1_n
    have Hb_b34_ := Hb_b34_n
    refine WP.block (WP.seq (WP.rb mixed [[], [0]] [[38], []] [(40, .bool (c == 83)), (39, .bool (c == 83))] (by kernel_rfl) ⟨fun ρz wz hE hA ⟨e38, _⟩ _ => core_val rfl rfl (o_eql (e38.trans h38) rfl rfl),
 aU rfl rfl rfl, trivial⟩ ?_))
    intro ρ14 w14 hN hf hr
    have h39 := hv hf 1 rfl rfl
    obtain ⟨h1, h4, h34, h38⟩ := k4 hr h1 h4 h34 h38 rfl
    have Oo_O4 := O4
    have Hb_b1_n := Hb_b1_.exn hN
    have Hb_b34_n := Hb_b34_.exn hN
    have hW := hW.trans hN
    have O4 := Oo_O4.exn hN
    have Hb_b1_ := Hb_b1_n
    have Hb_b34_ := Hb_b34_n
    refine WP.cond rfl h39 (fun hb => ?_) (fun hb => ?_)
    · have hF := (if_pos hb).symm.trans hF
      obtain ⟨z6, hz6, hF⟩ := obind hF
      refine WP.region mixed [[], [], [1], [2], [0, 2, 3], [0, 4]] [[], [], [1], [2], [0, 3], [4]] [[4], [1], [], [], [], []] [4] [] [val 41 (v4_4), val 42 (.pointer (some ((⟨b1_, 0, none⟩ : Addr).add 6))), val 43 (.int .i64 d_.State), (44, fun u wz => ∃ b, u = .slice (some ⟨b, 0, none⟩) 1 1 ∧ w14.heap.size ≤ b ∧ Mb wz b 3 (([d_.State]).flatMap (fun x : Int => [Value.int .i64 x]))), (45, fun u wz => Own w0.heap.size 5 1 (fun x : Int => [Value.int .u8 x]) wz u z6 ∧ ∀ b, u.ownBlock = some b → (v4_4.ownBlock = some b ∨ w14.heap.size ≤ b)), (4, fun u wz => Own w0.heap.size 5 1 (fun x : Int => [Value.int .u8 x]) wz u z6 ∧ ∀ b, u.ownBlock = some b → (v4_4.ownBlock = some b ∨ w14.heap.size ≤ b))] (fun b => Value.ownBlock v4_4 = some b) (by kernel_rfl) ⟨sV, sV, sV, fun _ _ _ hE ⟨b, hz, hs, hM⟩ => ⟨b, hz, hs, hM.ext hE (fun hg => absurd (O4.lt hg).2 (Nat.not_lt.2 hs))⟩, fun _ _ _ hE ⟨hO, hf⟩ => ⟨hO.exn hE, hf⟩, fun _ _ _ hE ⟨hO, hf⟩ => ⟨hO.exn hE, hf⟩, trivial⟩ ⟨mE rfl rfl h4,
 fun ρz wz hE hA ⟨e1, _⟩ _ => core_val rfl rfl (o_fieldAddr (e1.trans h1) (fa_38_6 _ _)),
 fun ρz wz hE hA _ ⟨u1, _⟩ => core_val rfl rfl (o_load u1 (run_load1 (lr_3 _ _) (CA.sub ((Hb_b1_.exn (hA rfl)).ca) 6 1))),
 fun ρz wz hE hA _ ⟨u2, _⟩ => core_slice rfl rfl hE (o_buildSlice (build_parts1 u2) (bs_22_1 _ _)),
 fun ρz wz hE hA _ ⟨u0, ⟨bz3, hzn3, hge3, hM3⟩, _⟩ => core_callC rfl rfl (fun b hb => hb) (call_args3 u0 rfl hzn3) cf_128 ((fact_appendNumbers_ok  _ _ _ (O4.exn (hA rfl)) (Mb.rep (n := 1) (cells := fun x : Int => [Value.int .i64 x]) (hn := fun _ => rfl) hM3 rfl (Nat.le_of_ble_eq_true rfl) (fun h => absurd (O4.lt h).2 (Nat.not_lt.2 hge3))) (Nat.le_trans hW.size hE.size) hz6).mono (fun e w1 ⟨v, he, hE1, hO, hb⟩ => ⟨v, he, hE1, hO, fun b h => (hb b h).imp id (Nat.le_trans hE.size)⟩)),
 fun ρz wz hE hA _ ⟨⟨hO4, hfr4⟩, _⟩ => core_copy rfl rfl (o_assign rfl) ⟨hO4, hfr4⟩, trivial⟩ ?_
      intro ρ15 w15 hE hN hf hr
      obtain ⟨v4_5, h4⟩ : ∃ v, ρ15 4 = v := ⟨_, rfl⟩
      have hq4 : (fun u wz => Own w0.heap.size 5 1 (fun x : Int => [Value.int .u8 x]) wz u z6 ∧ ∀ b, u.ownBlock = some b → (v4_4.ownBlock = some b ∨ w14.heap.size ≤ b)) (ρ15 4) w15 := hf 5 rfl
      rw [h4] at hq4
      obtain ⟨hq4, hfr4⟩ := hq4
      obtain ⟨h1, h34⟩ := k2 hr h1 h34 rfl
      have Oo_O4 := O4
      have Hb_b1_n := Hb_b1_.ext hE (fun h => hnb_O4_b1_ h)
      have Hb_b34_n := Hb_b34_.ext hE (fun h => hnb_O4_b34_ h)
      have hW := Ext.own hW hE (fun b hb => (Oo_O4.lt hb).1)
      have O4 := hq4
      have hnb_O4_b1_ : Value.ownBlock v4_5 ≠ some b1_ := fun h1 => (hfr4 _ h1).elim (fun h => hnb_O4_b1_ h) (fun h => absurd Hb_b1_.lt (Nat.not_lt.2 h))
      have hnb_O4_b34_ : Value.ownBlock v4_5 ≠ some b34_ := fun h1 => (hfr4 _ h1).elim (fun h => hnb_O4_b34_ h) (fun h => absurd Hb_b34_.lt (Nat.not_lt.2 h))
      have Hb_b1_ := Hb_b1_n
      have Hb_b34_ := Hb_b34_n
      exact ⟨z6, (nextP z5 v), v4_5, h1, h4, h34, Hb_b1_, Hb_b34_, hne_b1__b34_, O4, hnb_O4_b1_, hnb_O4_b34_, hW, (by first | exact hF | (rw [hrec_]; exact hF))⟩
    have hF := (if_neg (Bool.eq_false_iff.1 hb)).symm.trans hF
    refine WP.seq (WP.rb mixed [[], [0]] [[38], []] [(47, .bool (c == 80)), (46, .bool (c == 80))] (by kernel_rfl) ⟨fun ρz wz hE hA ⟨e38, _⟩ _ => core_val rfl rfl (o_eql (e38.trans h38) rfl rfl),
 aU rfl rfl rfl, trivial⟩ ?_)
    intro ρ16 w16 hN hf hr
    have h46 := hv hf 1 rfl rfl
    obtain ⟨h1, h4, h34, h38⟩ := k4 hr h1 h4 h34 h38 rfl
    have Oo_O4 := O4
    have Hb_b1_n := Hb_b1_.exn hN
    have Hb_b34_n := Hb_b34_.exn hN
    have hW := hW.trans hN
    have O4 := Oo_O4.exn hN
    have Hb_b1_ := Hb_b1_n
    have Hb_b34_ := Hb_b34_n
    refine WP.cond rfl h46 (fun hb => ?_) (fun hb => ?_)
    · have hF := (if_pos hb).symm.trans hF
      obtain ⟨z7, hz7, hF⟩ := obind hF
      refine WP.region mixed [[], [], [1], [2], [], [4], [5], [3, 6], [0, 3, 6, 7], [0, 8]] [[], [], [1], [2], [], [4], [5], [3, 6], [0, 7], [8]] [[4], [1], [], [], [1], [], [], [], [], []] [8] [] [val 48 (v4_4), val 49 (.pointer (some ((⟨b1_, 0, none⟩ : Addr).add 7))), val 50 (.pointer (some (((⟨b1_, 0, none⟩ : Addr).add 7).add 0))), val 51 (.int .i64 d_.Span.From), val 52 (.pointer (some ((⟨b1_, 0, none⟩ : Addr).add 7))), val 53 (.pointer (some (((⟨b1_, 0, none⟩ : Addr).add 7).add 1))), val 54 (.int .i64 d_.Span.To), (55, fun u wz => ∃ b, u = .slice (some ⟨b, 0, none⟩) 2 2 ∧ w16.heap.size ≤ b ∧ Mb wz b 3 (([d_.Span.From, d_.Span.To]).flatMap (fun x : Int => [Value.int .i64 x]))), (56, fun u wz => Own w0.heap.size 5 1 (fun x : Int => [Value.int .u8 x]) wz u z7 ∧ ∀ b, u.ownBlock = some b → (v4_4.ownBlock = some b ∨ w16.heap.size ≤ b)), (4, fun u wz => Own w0.heap.size 5 1 (fun x : Int => [Value.int .u8 x]) wz u z7 ∧ ∀ b, u.ownBlock = some b → (v4_4.ownBlock = some b ∨ w16.heap.size ≤ b))] (fun b => Value.ownBlock v4_4 = some b) (by kernel_rfl) ⟨sV, sV, sV, sV, sV, sV, sV, fun _ _ _ hE ⟨b, hz, hs, hM⟩ => ⟨b, hz, hs, hM.ext hE (fun hg => absurd (O4.lt hg).2 (Nat.not_lt.2 hs))⟩, fun _ _ _ hE ⟨hO, hf⟩ => ⟨hO.exn hE, hf⟩, fun _ _ _ hE ⟨hO, hf⟩ => ⟨hO.exn hE, hf⟩, trivial⟩ ⟨mE rfl rfl h4,
 fun ρz wz hE hA ⟨e1, _⟩ _ => core_val rfl rfl (o_fieldAddr (e1.trans h1) (fa_38_7 _ _)),
 fun ρz wz hE hA _ ⟨u1, _⟩ => core_val rfl rfl (o_fieldAddr u1 (fa_36_0 _ _)),
 fun ρz wz hE hA _ ⟨u2, _⟩ => core_val rfl rfl (o_load u2 (run_load1 (lr_3 _ _) (CA.sub (CA.sub ((Hb_b1_.exn (hA rfl)).ca) 7 2) 0 1))),
 fun ρz wz hE hA ⟨e1, _⟩ _ => core_val rfl rfl (o_fieldAddr (e1.trans h1) (fa_38_7 _ _)),
 fun ρz wz hE hA _ ⟨u4, _⟩ => core_val rfl rfl (o_fieldAddr u4 (fa_36_1 _ _)),
 fun ρz wz hE hA _ ⟨u5, _⟩ => core_val rfl rfl (o_load u5 (run_load1 (lr_3 _ _) (CA.sub (CA.sub ((Hb_b1_.exn (hA rfl)).ca) 7 2) 1 1))),
 fun ρz wz hE hA _ ⟨u3, u6, _⟩ => core_slice rfl rfl hE (o_buildSlice (build_parts2 u3 u6) (bs_22_2 _ _ _)),
 fun ρz wz hE hA _ ⟨u0, ⟨bz7, hzn7, hge7, hM7⟩, _⟩ => core_callC rfl rfl (fun b hb => hb) (call_args3 u0 rfl hzn7) cf_128 ((fact_appendNumbers_ok  _ _ _ (O4.exn (hA rfl)) (Mb.rep (n := 1) (cells := fun x : Int => [Value.int .i64 x]) (hn := fun _ => rfl) hM7 rfl (Nat.le_of_ble_eq_true rfl) (fun h => absurd (O4.lt h).2 (Nat.not_lt.2 hge7))) (Nat.le_trans hW.size hE.size) hz7).mono (fun e w1 ⟨v, he, hE1, hO, hb⟩ => ⟨v, he, hE1, hO, fun b h => (hb b h).imp id (Nat.le_trans hE.size)⟩)),
 fun ρz wz hE hA _ ⟨⟨hO8, hfr8⟩, _⟩ => core_copy rfl rfl (o_assign rfl) ⟨hO8, hfr8⟩, trivial⟩ ?_
      intro ρ17 w17 hE hN hf hr
      obtain ⟨v4_6, h4⟩ : ∃ v, ρ17 4 = v := ⟨_, rfl⟩
      have hq4 : (fun u wz => Own w0.heap.size 5 1 (fun x : Int => [Value.int .u8 x]) wz u z7 ∧ ∀ b, u.ownBlock = some b → (v4_4.ownBlock = some b ∨ w16.heap.size ≤ b)) (ρ17 4) w17 := hf 9 rfl
      rw [h4] at hq4
      obtain ⟨hq4, hfr4⟩ := hq4
      obtain ⟨h1, h34⟩ := k2 hr h1 h34 rfl
      have Oo_O4 := O4
      have Hb_b1_n := Hb_b1_.ext hE (fun h => hnb_O4_b1_ h)
      have Hb_b34_n := Hb_b34_.ext hE (fun h => hnb_O4_b34_ h)
      have hW := Ext.own hW hE (fun b hb => (Oo_O4.lt hb).1)
      have O4 := hq4
      have hnb_O4_b1_ : Value.ownBlock v4_6 ≠ some b1_ := fun h1 => (hfr4 _ h1).elim (fun h => hnb_O4_b1_ h) (fun h => absurd Hb_b1_.lt (Nat.not_lt.2 h))
      have hnb_O4_b34_ : Value.ownBlock v4_6 ≠ some b34_ := fun h1 => (hfr4 _ h1).elim (fun h => hnb_O4_b34_ h) (fun h => absurd Hb_b34_.lt (Nat.not_lt.2 h))
      have Hb_b1_ := Hb_b1_n
      have Hb_b34_ := Hb_b34_n
      exact ⟨z7, (nextP z5 v), v4_6, h1, h4, h34, Hb_b1_, Hb_b34_, hne_b1__b34_, O4, hnb_O4_b1_, hnb_O4_b34_, hW, (by first | exact hF | (rw [hrec_]; exact hF))⟩
    have hF := (if_neg (Bool.eq_false_iff.1 hb)).symm.trans hF
    refine WP.seq (WP.rb mixed [[], [0]] [[38], []] [(58, .bool (c == 84)), (57, .bool (c == 84))] (by kernel_rfl) ⟨fun ρz wz hE hA ⟨e38, _⟩ _ => core_val rfl rfl (o_eql (e38.trans h38) rfl rfl),
 aU rfl rfl rfl, trivial⟩ ?_)
    intro ρ18 w18 hN hf hr
    have h57 := hv hf 1 rfl rfl
    obtain ⟨h1, h4, h34, h38⟩ := k4 hr h1 h4 h34 h38 rfl
    have Oo_O4 := O4
    have Hb_b1_n := Hb_b1_.exn hN
    have Hb_b34_n := Hb_b34_.exn hN
    have hW := hW.trans hN
    have O4 := Oo_O4.exn hN
    have Hb_b1_ := Hb_b1_n
    have Hb_b34_ := Hb_b34_n
    refine WP.cond rfl h57 (fun hb => ?_) (fun hb => ?_)
    · have hF := (if_pos hb).symm.trans hF
      obtain ⟨z8, hz8, hF⟩ := obind hF
      refine WP.region mixed [[], [], [1], [2], [0, 2, 3], [0, 4]] [[], [], [1], [2], [0, 3], [4]] [[4], [1], [], [], [], []] [4] [] [val 59 (v4_4), val 60 (.pointer (some ((⟨b1_, 0, none⟩ : Addr).add 9))), val 61 (.int .i64 d_.Seat), (62, fun u wz => ∃ b, u = .slice (some ⟨b, 0, none⟩) 1 1 ∧ w18.heap.size ≤ b ∧ Mb wz b 3 (([d_.Seat]).flatMap (fun x : Int => [Value.int .i64 x]))), (63, fun u wz => Own w0.heap.size 5 1 (fun x : Int => [Value.int .u8 x]) wz u z8 ∧ ∀ b, u.ownBlock = some b → (v4_4.ownBlock = some b ∨ w18.heap.size ≤ b)), (4, fun u wz => Own w0.heap.size 5 1 (fun x : Int => [Value.int .u8 x]) wz u z8 ∧ ∀ b, u.ownBlock = some b → (v4_4.ownBlock = some b ∨ w18.heap.size ≤ b))] (fun b => Value.ownBlock v4_4 = some b) (by kernel_rfl) ⟨sV, sV, sV, fun _ _ _ hE ⟨b, hz, hs, hM⟩ => ⟨b, hz, hs, hM.ext hE (fun hg => absurd (O4.lt hg).2 (Nat.not_lt.2 hs))⟩, fun _ _ _ hE ⟨hO, hf⟩ => ⟨hO.exn hE, hf⟩, fun _ _ _ hE ⟨hO, hf⟩ => ⟨hO.exn hE, hf⟩, trivial⟩ ⟨mE rfl rfl h4,
 fun ρz wz hE hA ⟨e1, _⟩ _ => core_val rfl rfl (o_fieldAddr (e1.trans h1) (fa_38_8 _ _)),
 fun ρz wz hE hA _ ⟨u1, _⟩ => core_val rfl rfl (o_load u1 (run_load1 (lr_3 _ _) (CA.sub ((Hb_b1_.exn (hA rfl)).ca) 9 1))),
 fun ρz wz hE hA _ ⟨u2, _⟩ => core_slice rfl rfl hE (o_buildSlice (build_parts1 u2) (bs_22_1 _ _)),
 fun ρz wz hE hA _ ⟨u0, ⟨bz3, hzn3, hge3, hM3⟩, _⟩ => core_callC rfl rfl (fun b hb => hb) (call_args3 u0 rfl hzn3) cf_128 ((fact_appendNumbers_ok  _ _ _ (O4.exn (hA rfl)) (Mb.rep (n := 1) (cells := fun x : Int => [Value.int .i64 x]) (hn := fun _ => rfl) hM3 rfl (Nat.le_of_ble_eq_true rfl) (fun h => absurd (O4.lt h).2 (Nat.not_lt.2 hge3))) (Nat.le_trans hW.size hE.size) hz8).mono (fun e w1 ⟨v, he, hE1, hO, hb⟩ => ⟨v, he, hE1, hO, fun b h => (hb b h).imp id (Nat.le_trans hE.size)⟩)),
 fun ρz wz hE hA _ ⟨⟨hO4, hfr4⟩, _⟩ => core_copy rfl rfl (o_assign rfl) ⟨hO4, hfr4⟩, trivial⟩ ?_
      intro ρ19 w19 hE hN hf hr
      obtain ⟨v4_7, h4⟩ : ∃ v, ρ19 4 = v := ⟨_, rfl⟩
      have hq4 : (fun u wz => Own w0.heap.size 5 1 (fun x : Int => [Value.int .u8 x]) wz u z8 ∧ ∀ b, u.ownBlock = some b → (v4_4.ownBlock = some b ∨ w18.heap.size ≤ b)) (ρ19 4) w19 := hf 5 rfl
      rw [h4] at hq4
      obtain ⟨hq4, hfr4⟩ := hq4
      obtain ⟨h1, h34⟩ := k2 hr h1 h34 rfl
      have Oo_O4 := O4
      have Hb_b1_n := Hb_b1_.ext hE (fun h => hnb_O4_b1_ h)
      have Hb_b34_n := Hb_b34_.ext hE (fun h => hnb_O4_b34_ h)
      have hW := Ext.own hW hE (fun b hb => (Oo_O4.lt hb).1)
      have O4 := hq4
      have hnb_O4_b1_ : Value.ownBlock v4_7 ≠ some b1_ := fun h1 => (hfr4 _ h1).elim (fun h => hnb_O4_b1_ h) (fun h => absurd Hb_b1_.lt (Nat.not_lt.2 h))
      have hnb_O4_b34_ : Value.ownBlock v4_7 ≠ some b34_ := fun h1 => (hfr4 _ h1).elim (fun h => hnb_O4_b34_ h) (fun h => absurd Hb_b34_.lt (Nat.not_lt.2 h))
      have Hb_b1_ := Hb_b1_n
      have Hb_b34_ := Hb_b34_n
      exact ⟨z8, (nextP z5 v), v4_7, h1, h4, h34, Hb_b1_, Hb_b34_, hne_b1__b34_, O4, hnb_O4_b1_, hnb_O4_b34_, hW, (by first | exact hF | (rw [hrec_]; exact hF))⟩
    have hF := (if_neg (Bool.eq_false_iff.1 hb)).symm.trans hF
    refine WP.seq (WP.rb mixed [[], [0]] [[38], []] [(65, .bool (c == 72)), (64, .bool (c == 72))] (by kernel_rfl) ⟨fun ρz wz hE hA ⟨e38, _⟩ _ => core_val rfl rfl (o_eql (e38.trans h38) rfl rfl),
 aU rfl rfl rfl, trivial⟩ ?_)
    intro ρ20 w20 hN hf hr
    have h64 := hv hf 1 rfl rfl
    obtain ⟨h1, h4, h34, h38⟩ := k4 hr h1 h4 h34 h38 rfl
    have Oo_O4 := O4
    have Hb_b1_n := Hb_b1_.exn hN
    have Hb_b34_n := Hb_b34_.exn hN
    have hW := hW.trans hN
    have O4 := Oo_O4.exn hN
    have Hb_b1_ := Hb_b1_n
    have Hb_b34_ := Hb_b34_n
    refine WP.cond rfl h64 (fun hb => ?_) (fun hb => ?_)
    · have hF := (if_pos hb).symm.trans hF
      obtain ⟨z9, hz9, hF⟩ := obind hF
      refine WP.region mixed [[], [], [1], [2], [0, 2, 3], [0, 4]] [[], [], [1], [2], [0, 3], [4]] [[4], [1], [], [], [], []] [4] [] [val 66 (v4_4), val 67 (.pointer (some ((⟨b1_, 0, none⟩ : Addr).add 10))), val 68 (.int .i64 d_.Share), (69, fun u wz => ∃ b, u = .slice (some ⟨b, 0, none⟩) 1 1 ∧ w20.heap.size ≤ b ∧ Mb wz b 3 (([d_.Share]).flatMap (fun x : Int => [Value.int .i64 x]))), (70, fun u wz => Own w0.heap.size 5 1 (fun x : Int => [Value.int .u8 x]) wz u z9 ∧ ∀ b, u.ownBlock = some b → (v4_4.ownBlock = some b ∨ w20.heap.size ≤ b)), (4, fun u wz => Own w0.heap.size 5 1 (fun x : Int => [Value.int .u8 x]) wz u z9 ∧ ∀ b, u.ownBlock = some b → (v4_4.ownBlock = some b ∨ w20.heap.size ≤ b))] (fun b => Value.ownBlock v4_4 = some b) (by kernel_rfl) ⟨sV, sV, sV, fun _ _ _ hE ⟨b, hz, hs, hM⟩ => ⟨b, hz, hs, hM.ext hE (fun hg => absurd (O4.lt hg).2 (Nat.not_lt.2 hs))⟩, fun _ _ _ hE ⟨hO, hf⟩ => ⟨hO.exn hE, hf⟩, fun _ _ _ hE ⟨hO, hf⟩ => ⟨hO.exn hE, hf⟩, trivial⟩ ⟨mE rfl rfl h4,
 fun ρz wz hE hA ⟨e1, _⟩ _ => core_val rfl rfl (o_fieldAddr (e1.trans h1) (fa_38_9 _ _)),
 fun ρz wz hE hA _ ⟨u1, _⟩ => core_val rfl rfl (o_load u1 (run_load1 (lr_3 _ _) (CA.sub ((Hb_b1_.exn (hA rfl)).ca) 10 1))),
 fun ρz wz hE hA _ ⟨u2, _⟩ => core_slice rfl rfl hE (o_buildSlice (build_parts1 u2) (bs_22_1 _ _)),
 fun ρz wz hE hA _ ⟨u0, ⟨bz3, hzn3, hge3, hM3⟩, _⟩ => core_callC rfl rfl (fun b hb => hb) (call_args3 u0 rfl hzn3) cf_128 ((fact_appendNumbers_ok  _ _ _ (O4.exn (hA rfl)) (Mb.rep (n := 1) (cells := fun x : Int => [Value.int .i64 x]) (hn := fun _ => rfl) hM3 rfl (Nat.le_of_ble_eq_true rfl) (fun h => absurd (O4.lt h).2 (Nat.not_lt.2 hge3))) (Nat.le_trans hW.size hE.size) hz9).mono (fun e w1 ⟨v, he, hE1, hO, hb⟩ => ⟨v, he, hE1, hO, fun b h => (hb b h).imp id (Nat.le_trans hE.size)⟩)),
 fun ρz wz hE hA _ ⟨⟨hO4, hfr4⟩, _⟩ => core_copy rfl rfl (o_assign rfl) ⟨hO4, hfr4⟩, trivial⟩ ?_
      intro ρ21 w21 hE hN hf hr
      obtain ⟨v4_8, h4⟩ : ∃ v, ρ21 4 = v := ⟨_, rfl⟩
      have hq4 : (fun u wz => Own w0.heap.size 5 1 (fun x : Int => [Value.int .u8 x]) wz u z9 ∧ ∀ b, u.ownBlock = some b → (v4_4.ownBlock = some b ∨ w20.heap.size ≤ b)) (ρ21 4) w21 := hf 5 rfl
      rw [h4] at hq4
      obtain ⟨hq4, hfr4⟩ := hq4
      obtain ⟨h1, h34⟩ := k2 hr h1 h34 rfl
      have Oo_O4 := O4
      have Hb_b1_n := Hb_b1_.ext hE (fun h => hnb_O4_b1_ h)
      have Hb_b34_n := Hb_b34_.ext hE (fun h => hnb_O4_b34_ h)
      have hW := Ext.own hW hE (fun b hb => (Oo_O4.lt hb).1)
      have O4 := hq4
      have hnb_O4_b1_ : Value.ownBlock v4_8 ≠ some b1_ := fun h1 => (hfr4 _ h1).elim (fun h => hnb_O4_b1_ h) (fun h => absurd Hb_b1_.lt (Nat.not_lt.2 h))
      have hnb_O4_b34_ : Value.ownBlock v4_8 ≠ some b34_ := fun h1 => (hfr4 _ h1).elim (fun h => hnb_O4_b34_ h) (fun h => absurd Hb_b34_.lt (Nat.not_lt.2 h))
      have Hb_b1_ := Hb_b1_n
      have Hb_b34_ := Hb_b34_n
      exact ⟨z9, (nextP z5 v), v4_8, h1, h4, h34, Hb_b1_, Hb_b34_, hne_b1__b34_, O4, hnb_O4_b1_, hnb_O4_b34_, hW, (by first | exact hF | (rw [hrec_]; exact hF))⟩
    have hF := (if_neg (Bool.eq_false_iff.1 hb)).symm.trans hF
    refine WP.seq (WP.rb mixed [[], [0]] [[38], []] [(72, .bool (c == 67)), (71, .bool (c == 67))] (by kernel_rfl) ⟨fun ρz wz hE hA ⟨e38, _⟩ _ => core_val rfl rfl (o_eql (e38.trans h38) rfl rfl),
 aU rfl rfl rfl, trivial⟩ ?_)
    intro ρ22 w22 hN hf hr
    have h71 := hv hf 1 rfl rfl
    obtain ⟨h1, h4, h34, h38⟩ := k4 hr h1 h4 h34 h38 rfl
    have Oo_O4 := O4
    have Hb_b1_n := Hb_b1_.exn hN
    have Hb_b34_n := Hb_b34_.exn hN
    have hW := hW.trans hN
    have O4 := Oo_O4.exn hN
    have Hb_b1_ := Hb_b1_n
    have Hb_b34_ := Hb_b34_n
    refine WP.cond rfl h71 (fun hb => ?_) (fun hb => ?_)
    · have hF := (if_pos hb).symm.trans hF
      obtain ⟨z10, hz10, hF⟩ := obind hF
      refine WP.region mixed [[], [], [1], [2], [0, 2, 3], [0, 4]] [[], [], [1], [2], [0, 3], [4]] [[4], [1], [], [], [], []] [4] [] [val 73 (v4_4), val 74 (.pointer (some ((⟨b1_, 0, none⟩ : Addr).add 11))), val 75 (.int .i64 d_.Currency), (76, fun u wz => ∃ b, u = .slice (some ⟨b, 0, none⟩) 1 1 ∧ w22.heap.size ≤ b ∧ Mb wz b 3 (([d_.Currency]).flatMap (fun x : Int => [Value.int .i64 x]))), (77, fun u wz => Own w0.heap.size 5 1 (fun x : Int => [Value.int .u8 x]) wz u z10 ∧ ∀ b, u.ownBlock = some b → (v4_4.ownBlock = some b ∨ w22.heap.size ≤ b)), (4, fun u wz => Own w0.heap.size 5 1 (fun x : Int => [Value.int .u8 x]) wz u z10 ∧ ∀ b, u.ownBlock = some b → (v4_4.ownBlock = some b ∨ w22.heap.size ≤ b))] (fun b => Value.ownBlock v4_4 = some b) (by kernel_rfl) ⟨sV, sV, sV, fun _ _ _ hE ⟨b, hz, hs, hM⟩ => ⟨b, hz, hs, hM.ext hE (fun hg => absurd (O4.lt hg).2 (Nat.not_lt.2 hs))⟩, fun _ _ _ hE ⟨hO, hf⟩ => ⟨hO.exn hE, hf⟩, fun _ _ _ hE ⟨hO, hf⟩ => ⟨hO.exn hE, hf⟩, trivial⟩ ⟨mE rfl rfl h4,
 fun ρz wz hE hA ⟨e1, _⟩ _ => core_val rfl rfl (o_fieldAddr (e1.trans h1) (fa_38_10 _ _)),
 fun ρz wz hE hA _ ⟨u1, _⟩ => core_val rfl rfl (o_load u1 (run_load1 (lr_3 _ _) (CA.sub ((Hb_b1_.exn (hA rfl)).ca) 11 1))),
 fun ρz wz hE hA _ ⟨u2, _⟩ => core_slice rfl rfl hE (o_buildSlice (build_parts1 u2) (bs_22_1 _ _)),
 fun ρz wz hE hA _ ⟨u0, ⟨bz3, hzn3, hge3, hM3⟩, _⟩ => core_callC rfl rfl (fun b hb => hb) (call_args3 u0 rfl hzn3) cf_128 ((fact_appendNumbers_ok  _ _ _ (O4.exn (hA rfl)) (Mb.rep (n := 1) (cells := fun x : Int => [Value.int .i64 x]) (hn := fun _ => rfl) hM3 rfl (Nat.le_of_ble_eq_true rfl) (fun h => absurd (O4.lt h).2 (Nat.not_lt.2 hge3))) (Nat.le_trans hW.size hE.size) hz10).mono (fun e w1 ⟨v, he, hE1, hO, hb⟩ => ⟨v, he, hE1, hO, fun b h => (hb b h).imp id (Nat.le_trans hE.size)⟩)),
 fun ρz wz hE hA _ ⟨⟨hO4, hfr4⟩, _⟩ => core_copy rfl rfl (o_assign rfl) ⟨hO4, hfr4⟩, trivial⟩ ?_
      intro ρ23 w23 hE hN hf hr
      obtain ⟨v4_9, h4⟩ : ∃ v, ρ23 4 = v := ⟨_, rfl⟩
      have hq4 : (fun u wz => Own w0.heap.size 5 1 (fun x : Int => [Value.int .u8 x]) wz u z10 ∧ ∀ b, u.ownBlock = some b → (v4_4.ownBlock = some b ∨ w22.heap.size ≤ b)) (ρ23 4) w23 := hf 5 rfl
      rw [h4] at hq4
      obtain ⟨hq4, hfr4⟩ := hq4
      obtain ⟨h1, h34⟩ := k2 hr h1 h34 rfl
      have Oo_O4 := O4
      have Hb_b1_n := Hb_b1_.ext hE (fun h => hnb_O4_b1_ h)
      have Hb_b34_n := Hb_b34_.ext hE (fun h => hnb_O4_b34_ h)
      have hW := Ext.own hW hE (fun b hb => (Oo_O4.lt hb).1)
      have O4 := hq4
      have hnb_O4_b1_ : Value.ownBlock v4_9 ≠ some b1_ := fun h1 => (hfr4 _ h1).elim (fun h => hnb_O4_b1_ h) (fun h => absurd Hb_b1_.lt (Nat.not_lt.2 h))
      have hnb_O4_b34_ : Value.ownBlock v4_9 ≠ some b34_ := fun h1 => (hfr4 _ h1).elim (fun h => hnb_O4_b34_ h) (fun h => absurd Hb_b34_.lt (Nat.not_lt.2 h))
      have Hb_b1_ := Hb_b1_n
      have Hb_b34_ := Hb_b34_n
      exact ⟨z10, (nextP z5 v), v4_9, h1, h4, h34, Hb_b1_, Hb_b34_, hne_b1__b34_, O4, hnb_O4_b1_, hnb_O4_b34_, hW, (by first | exact hF | (rw [hrec_]; exact hF))⟩
    have hF := (if_neg (Bool.eq_false_iff.1 hb)).symm.trans hF
    refine WP.seq (WP.rb mixed [[], [0]] [[38], []] [(79, .bool (c == 65)), (78, .bool (c == 65))] (by kernel_rfl) ⟨fun ρz wz hE hA ⟨e38, _⟩ _ => core_val rfl rfl (o_eql (e38.trans h38) rfl rfl),
 aU rfl rfl rfl, trivial⟩ ?_)
    intro ρ24 w24 hN hf hr
    have h78 := hv hf 1 rfl rfl
    obtain ⟨h1, h4, h34, h38⟩ := k4 hr h1 h4 h34 h38 rfl
    have Oo_O4 := O4
    have Hb_b1_n := Hb_b1_.exn hN
    have Hb_b34_n := Hb_b34_.exn hN
    have hW := hW.trans hN
    have O4 := Oo_O4.exn hN
    have Hb_b1_ := Hb_b1_n
    have Hb_b34_ := Hb_b34_n
    refine WP.cond rfl h78 (fun hb => ?_) (fun hb => ?_)
    · have hF := (if_pos hb).symm.trans hF
      obtain ⟨z11, hz11, hF⟩ := obind hF
      refine WP.region mixed [[], [], [1], [2], [0, 2, 3], [0, 4]] [[], [], [1], [2], [0, 3], [4]] [[4], [1], [], [], [], []] [4] [] [val 80 (v4_4), val 81 (.pointer (some ((⟨b1_, 0, none⟩ : Addr).add 12))), val 82 (.int .i64 d_.Amount), (83, fun u wz => ∃ b, u = .slice (some ⟨b, 0, none⟩) 1 1 ∧ w24.heap.size ≤ b ∧ Mb wz b 3 (([d_.Amount]).flatMap (fun x : Int => [Value.int .i64 x]))), (84, fun u wz => Own w0.heap.size 5 1 (fun x : Int => [Value.int .u8 x]) wz u z11 ∧ ∀ b, u.ownBlock = some b → (v4_4.ownBlock = some b ∨ w24.heap.size ≤ b)), (4, fun u wz => Own w0.heap.size 5 1 (fun x : Int => [Value.int .u8 x]) wz u z11 ∧ ∀ b, u.ownBlock = some b → (v4_4.ownBlock = some b ∨ w24.heap.size ≤ b))] (fun b => Value.ownBlock v4_4 = some b) (by kernel_rfl) ⟨sV, sV, sV, fun _ _ _ hE ⟨b, hz, hs, hM⟩ => ⟨b, hz, hs, hM.ext hE (fun hg => absurd (O4.lt hg).2 (Nat.not_lt.2 hs))⟩, fun _ _ _ hE ⟨hO, hf⟩ => ⟨hO.exn hE, hf⟩, fun _ _ _ hE ⟨hO, hf⟩ => ⟨hO.exn hE, hf⟩, trivial⟩ ⟨mE rfl rfl h4,
 fun ρz wz hE hA ⟨e1, _⟩ _ => core_val rfl rfl (o_fieldAddr (e1.trans h1) (fa_38_11 _ _)),
 fun ρz wz hE hA _ ⟨u1, _⟩ => core_val rfl rfl (o_load u1 (run_load1 (lr_3 _ _) (CA.sub ((Hb_b1_.exn (hA rfl)).ca) 12 1))),
 fun ρz wz hE hA _ ⟨u2, _⟩ => core_slice rfl rfl hE (o_buildSlice (build_parts1 u2) (bs_22_1 _ _)),
 fun ρz wz hE hA _ ⟨u0, ⟨bz3, hzn3, hge3, hM3⟩, _⟩ => core_callC rfl rfl (fun b hb => hb) (call_args3 u0 rfl hzn3) cf_128 ((fact_appendNumbers_ok  _ _ _ (O4.exn (hA rfl)) (Mb.rep (n := 1) (cells := fun x : Int => [Value.int .i64 x]) (hn := fun _ => rfl) hM3 rfl (Nat.le_of_ble_eq_true rfl) (fun h => absurd (O4.lt h).2 (Nat.not_lt.2 hge3))) (Nat.le_trans hW.size hE.size) hz11).mono (fun e w1 ⟨v, he, hE1, hO, hb⟩ => ⟨v, he, hE1, hO, fun b h => (hb b h).imp id (Nat.le_trans hE.size)⟩)),
 fun ρz wz hE hA _ ⟨⟨hO4, hfr4⟩, _⟩ => core_copy rfl rfl (o_assign rfl) ⟨hO4, hfr4⟩, trivial⟩ ?_
      intro ρ25 w25 hE hN hf hr
      obtain ⟨v4_10, h4⟩ : ∃ v, ρ25 4 = v := ⟨_, rfl⟩
      have hq4 : (fun u wz => Own w0.heap.size 5 1 (fun x : Int => [Value.int .u8 x]) wz u z11 ∧ ∀ b, u.ownBlock = some b → (v4_4.ownBlock = some b ∨ w24.heap.size ≤ b)) (ρ25 4) w25 := hf 5 rfl
      rw [h4] at hq4
      obtain ⟨hq4, hfr4⟩ := hq4
      obtain ⟨h1, h34⟩ := k2 hr h1 h34 rfl
      have Oo_O4 := O4
      have Hb_b1_n := Hb_b1_.ext hE (fun h => hnb_O4_b1_ h)
      have Hb_b34_n := Hb_b34_.ext hE (fun h => hnb_O4_b34_ h)
      have hW := Ext.own hW hE (fun b hb => (Oo_O4.lt hb).1)
      have O4 := hq4
      have hnb_O4_b1_ : Value.ownBlock v4_10 ≠ some b1_ := fun h1 => (hfr4 _ h1).elim (fun h => hnb_O4_b1_ h) (fun h => absurd Hb_b1_.lt (Nat.not_lt.2 h))
      have hnb_O4_b34_ : Value.ownBlock v4_10 ≠ some b34_ := fun h1 => (hfr4 _ h1).elim (fun h => hnb_O4_b34_ h) (fun h => absurd Hb_b34_.lt (Nat.not_lt.2 h))
      have Hb_b1_ := Hb_b1_n
      have Hb_b34_ := Hb_b34_n
      exact ⟨z11, (nextP z5 v), v4_10, h1, h4, h34, Hb_b1_, Hb_b34_, hne_b1__b34_, O4, hnb_O4_b1_, hnb_O4_b34_, hW, (by first | exact hF | (rw [hrec_]; exact hF))⟩
    have hF := (if_neg (Bool.eq_false_iff.1 hb)).symm.trans hF
    refine WP.seq (WP.rb mixed [[], [0]] [[38], []] [(86, .bool (c == 82)), (85, .bool (c == 82))] (by kernel_rfl) ⟨fun ρz wz hE hA ⟨e38, _⟩ _ => core_val rfl rfl (o_eql (e38.trans h38) rfl rfl),
 aU rfl rfl rfl, trivial⟩ ?_)
    intro ρ26 w26 hN hf hr
    have h85 := hv hf 1 rfl rfl
    obtain ⟨h1, h4, h34⟩ := k3 hr h1 h4 h34 rfl
    have Oo_O4 := O4
    have Hb_b1_n := Hb_b1_.exn hN
    have Hb_b34_n := Hb_b34_.exn hN
    have hW := hW.trans hN
    have O4 := Oo_O4.exn hN
    have Hb_b1_ := Hb_b1_n
    have Hb_b34_ := Hb_b34_n
    refine WP.cond rfl h85 (fun hb => ?_) (fun hb => ?_)
    · have hF := (if_pos hb).symm.trans hF
      obtain ⟨z12, hz12, hF⟩ := obind hF
      refine WP.region mixed [[], [], [1], [2], [0, 2, 3], [0, 4]] [[], [], [1], [2], [0, 3], [4]] [[4], [1], [], [], [], []] [4] [] [val 87 (v4_4), val 88 (.pointer (some ((⟨b1_, 0, none⟩ : Addr).add 13))), val 89 (.int .i64 d_.Ref), (90, fun u wz => ∃ b, u = .slice (some ⟨b, 0, none⟩) 1 1 ∧ w26.heap.size ≤ b ∧ Mb wz b 3 (([d_.Ref]).flatMap (fun x : Int => [Value.int .i64 x]))), (91, fun u wz => Own w0.heap.size 5 1 (fun x : Int => [Value.int .u8 x]) wz u z12 ∧ ∀ b, u.ownBlock = some b → (v4_4.ownBlock = some b ∨ w26.heap.size ≤ b)), (4, fun u wz => Own w0.heap.size 5 1 (fun x : Int => [Value.int .u8 x]) wz u z12 ∧ ∀ b, u.ownBlock = some b → (v4_4.ownBlock = some b ∨ w26.heap.size ≤ b))] (fun b => Value.ownBlock v4_4 = some b) (by kernel_rfl) ⟨sV, sV, sV, fun _ _ _ hE ⟨b, hz, hs, hM⟩ => ⟨b, hz, hs, hM.ext hE (fun hg => absurd (O4.lt hg).2 (Nat.not_lt.2 hs))⟩, fun _ _ _ hE ⟨hO, hf⟩ => ⟨hO.exn hE, hf⟩, fun _ _ _ hE ⟨hO, hf⟩ => ⟨hO.exn hE, hf⟩, trivial⟩ ⟨mE rfl rfl h4,
 fun ρz wz hE hA ⟨e1, _⟩ _ => core_val rfl rfl (o_fieldAddr (e1.trans h1) (fa_38_12 _ _)),
 fun ρz wz hE hA _ ⟨u1, _⟩ => core_val rfl rfl (o_load u1 (run_load1 (lr_3 _ _) (CA.sub ((Hb_b1_.exn (hA rfl)).ca) 13 1))),
 fun ρz wz hE hA _ ⟨u2, _⟩ => core_slice rfl rfl hE (o_buildSlice (build_parts1 u2) (bs_22_1 _ _)),
 fun ρz wz hE hA _ ⟨u0, ⟨bz3, hzn3, hge3, hM3⟩, _⟩ => core_callC rfl rfl (fun b hb => hb) (call_args3 u0 rfl hzn3) cf_128 ((fact_appendNumbers_ok  _ _ _ (O4.exn (hA rfl)) (Mb.rep (n := 1) (cells := fun x : Int => [Value.int .i64 x]) (hn := fun _ => rfl) hM3 rfl (Nat.le_of_ble_eq_true rfl) (fun h => absurd (O4.lt h).2 (Nat.not_lt.2 hge3))) (Nat.le_trans hW.size hE.size) hz12).mono (fun e w1 ⟨v, he, hE1, hO, hb⟩ => ⟨v, he, hE1, hO, fun b h => (hb b h).imp id (Nat.le_trans hE.size)⟩)),
 fun ρz wz hE hA _ ⟨⟨hO4, hfr4⟩, _⟩ => core_copy rfl rfl (o_assign rfl) ⟨hO4, hfr4⟩, trivial⟩ ?_
      intro ρ27 w27 hE hN hf hr
      obtain ⟨v4_11, h4⟩ : ∃ v, ρ27 4 = v := ⟨_, rfl⟩
      have hq4 : (fun u wz => Own w0.heap.size 5 1 (fun x : Int => [Value.int .u8 x]) wz u z12 ∧ ∀ b, u.ownBlock = some b → (v4_4.ownBlock = some b ∨ w26.heap.size ≤ b)) (ρ27 4) w27 := hf 5 rfl
      rw [h4] at hq4
      obtain ⟨hq4, hfr4⟩ := hq4
      obtain ⟨h1, h34⟩ := k2 hr h1 h34 rfl
      have Oo_O4 := O4
      have Hb_b1_n := Hb_b1_.ext hE (fun h => hnb_O4_b1_ h)
      have Hb_b34_n := Hb_b34_.ext hE (fun h => hnb_O4_b34_ h)
      have hW := Ext.own hW hE (fun b hb => (Oo_O4.lt hb).1)
      have O4 := hq4
      have hnb_O4_b1_ : Value.ownBlock v4_11 ≠ some b1_ := fun h1 => (hfr4 _ h1).elim (fun h => hnb_O4_b1_ h) (fun h => absurd Hb_b1_.lt (Nat.not_lt.2 h))
      have hnb_O4_b34_ : Value.ownBlock v4_11 ≠ some b34_ := fun h1 => (hfr4 _ h1).elim (fun h => hnb_O4_b34_ h) (fun h => absurd Hb_b34_.lt (Nat.not_lt.2 h))
      have Hb_b1_ := Hb_b1_n
      have Hb_b34_ := Hb_b34_n
      exact ⟨z12, (nextP z5 v), v4_11, h1, h4, h34, Hb_b1_, Hb_b34_, hne_b1__b34_, O4, hnb_O4_b1_, hnb_O4_b34_, hW, (by first | exact hF | (rw [hrec_]; exact hF))⟩
    have hF := (if_neg (Bool.eq_false_iff.1 hb)).symm.trans hF
    refine WP.skip ?_
    exact ⟨x2, (nextP z5 v), v4_4, h1, h4, h34, Hb_b1_, Hb_b34_, hne_b1__b34_, O4, hnb_O4_b1_, hnb_O4_b34_, hW, (by first | exact hF | (rw [hrec_]; exact hF))⟩
  have hF := (if_neg (Bool.eq_false_iff.1 hb)).symm.trans hF
  refine WP.exit (thenQ_exit (thenQ_exit (blockQ_hit (WP.seq (WP.rb mixed [[], [0]] [[4], []] [(92, v4_4), (2, v4_4)] (by kernel_rfl) ⟨mE rfl rfl h4,
 aU rfl rfl rfl, trivial⟩ ?_)))))
  intro ρ28 w28 hN hf hr
  have h2 := hv hf 1 rfl rfl
  have Oo_O4 := O4
  have hW := hW.trans hN
  have O2 := Oo_O4.exn hN
  refine WP.ret ?_
  show retQ Tryz.prog 93 Tryz.f115 (fun v w1 => Own w0.heap.size 5 1 (fun x : Int => [Value.int .u8 x]) w1 v r ∧ Ext noG w0 w1) .ret ρ28 w28
  obtain rfl := Option.some.inj hF
  exact res1 rfl (by decide) h2 ⟨O2, hW⟩

set_option maxHeartbeats 4000000 in
theorem bytes_Compare_ok {w0 : World} (a_ : List Int) (b_ : List Int) {v_a_ : Value} (H_a_ : RepSl u8R noG w0 v_a_ a_) {v_b_ : Value} (H_b_ : RepSl u8R noG w0 v_b_ b_) {r : Int} (hF : bytes_Compare a_ b_ = some r) :
    Calls Tryz.prog 114 #[v_a_, v_b_] w0 fun e w1 => e = .returned (.int .i64 r) ∧ Ext noG w0 w1 := by
  refine (Calls.start (P := Tryz.prog) (args := [v_a_, v_b_]) (R := fun v w1 => v = .int .i64 r ∧ Ext noG w0 w1) (n := 8) (w := w0) Tryz.func114 rfl rfl (Nat.le_of_ble_eq_true rfl) (fun ρ hargs => ?_)).mono (fun e w1 ⟨v, he, hv, hE⟩ => ⟨hv ▸ he, hE⟩)
  have h0 := hargs 0 _ rfl
  have h1 := hargs 1 _ rfl
  have hW := Ext.refl noG w0
  obtain ⟨_, _, hs_H_a_, _, _⟩ := RepSl.shape H_a_
  have H_a_ := H_a_.start
  obtain ⟨_, _, hs_H_b_, _, _⟩ := RepSl.shape H_b_
  have H_b_ := H_b_.start
  rw [bytes_Compare] at hF
  refine WP.seq (WP.rb mixed [[]] [[]] [(4, .int .i64 0)] (by kernel_rfl) ⟨aC rfl rfl (fun _ => rfl), trivial⟩ ?_)
  intro ρ1 w1 hN hf hr
  obtain ⟨h0, h1⟩ := k2 hr h0 h1 rfl
  have H_a_ := H_a_.exn hN
  have H_b_ := H_b_.exn hN
  have hW := hW.trans hN
  refine WP.seq (WP.rb mixed [[], [], [0, 1], [2]] [[0], [1], [], []] [(5, v_a_), (6, v_b_), (7, .int .i64 (cmpB a_ b_)), (4, .int .i64 (cmpB a_ b_))] (by kernel_rfl) ⟨mE rfl rfl h0,
 mE rfl rfl h1,
 fun ρz wz hE hA _ ⟨u0, u1, _⟩ => core_val rfl rfl (o_compareB Tryz.func127 (by kernel_rfl) (by kernel_rfl) (by kernel_rfl) (by kernel_rfl) (call_args2 u0 u1) (H_a_.exn (hA rfl)) (H_b_.exn (hA rfl))),
 aU rfl rfl rfl, trivial⟩ ?_)
  intro ρ2 w2 hN hf hr
  have h4 := hv hf 3 rfl rfl
  have hW := hW.trans hN
  refine WP.ret ?_
  show retQ Tryz.prog 8 Tryz.f114 (fun v w1 => v = .int .i64 r ∧ Ext noG w0 w1) .ret ρ2 w2
  obtain rfl := Option.some.inj hF
  exact res1 rfl (by decide) h4 ⟨rfl, hW⟩

set_option maxHeartbeats 4000000 in
theorem fact_Less_ok {w0 : World} (a_ : api_Fact) (b_ : api_Fact) {r : Bool} (hF : fact_Less a_ b_ = some r) :
    Calls Tryz.prog 86 #[api_Fact.val a_, api_Fact.val b_] w0 fun e w1 => e = .returned (.bool r) ∧ Ext noG w0 w1 := by
  refine (Calls.start (P := Tryz.prog) (args := [api_Fact.val a_, api_Fact.val b_]) (R := fun v w1 => v = .bool r ∧ Ext noG w0 w1) (n := 19) (w := w0) Tryz.func86 rfl rfl (Nat.le_of_ble_eq_true rfl) (fun ρ hargs => ?_)).mono (fun e w1 ⟨v, he, hv, hE⟩ => ⟨hv ▸ he, hE⟩)
  have h0 := hargs 0 _ rfl
  have h1 := hargs 1 _ rfl
  have hW := Ext.refl noG w0
  rw [fact_Less] at hF
  refine WP.seq (WP.regionN mixed ⟨[[], [], []], [[], [], []], [[0], [1], []], [], [], [(0, 2), (1, 3)], []⟩ [(2, fun u wz => ∃ b, u = .pointer (some ⟨b, 0, none⟩) ∧ w0.heap.size ≤ b ∧ Mb wz b 38 (api_Fact.cells a_)), (3, fun u wz => ∃ b, u = .pointer (some ⟨b, 0, none⟩) ∧ w0.heap.size ≤ b ∧ Mb wz b 38 (api_Fact.cells b_)), val 4 (.bool false)] (fun b => w0.heap.size ≤ b) (by kernel_rfl) (.inr (fun _ h => h)) ⟨TStable.box, TStable.box, sV, trivial⟩ ⟨fun ρz wz hE hA ⟨e0, _⟩ _ => core_newN rfl rfl rfl hE (o_box (e0.trans h0) (bx_38 _ _)),
 fun ρz wz hE hA ⟨e1, _⟩ _ => core_newN rfl rfl rfl hE (o_box (e1.trans h1) (bx_38 _ _)),
 fun ρz wz hE hA _ _ => core_val rfl rfl (o_assign rfl), trivial⟩ ?_)
  intro ρ1 w1 hE hN hf hr hdist
  have hN := hE.fresh
  obtain ⟨b2_, h2, hge_b2_, Hb_b2_⟩ := hf 0 rfl
  obtain ⟨b3_, h3, hge_b3_, Hb_b3_⟩ := hf 1 rfl
  have hB_b2_ : w0.heap.size ≤ b2_ := Nat.le_trans hW.size hge_b2_
  have hB_b3_ : w0.heap.size ≤ b3_ := Nat.le_trans hW.size hge_b3_
  have hW := hW.trans hN
  refine WP.seq (WP.seq ?_)
  obtain ⟨z, hz, hF⟩ := obind hF
  obtain ⟨c, hc, hF⟩ := obind hF
  obtain ⟨z2, hz2, hc⟩ := orB hc
  have hc := orE hc
  refine WP.rb mixed [[], [0], [1], [2], [3], [3, 4], [3, 5], [3, 6]] [[2], [], [], [], [3], [], [], []] [(5, api_Fact.val a_), (6, .bool z), (7, .bool (!z)), (8, .bool (!z)), (9, gv (!(!z)) (api_Fact.val b_)), (10, gv (!(!z)) (.bool z2)), (11, gv (!(!z)) (.bool (!z2))), (12, .bool c)] (by kernel_rfl) ⟨fun ρz wz hE hA ⟨e2, _⟩ _ => core_val rfl rfl (o_load (e2.trans h2) (run_loadN (cs := (api_Fact.cells a_)) (lr_38 _ _) rfl ((Hb_b2_.exn (hA rfl)).ca))),
 fun ρz wz hE hA _ ⟨u0, _⟩ => core_call rfl (call_args1 u0) cf_64 (fact_Valid_ok  _  hz),
 fun ρz wz hE hA _ ⟨u1, _⟩ => core_val rfl rfl (o_not u1 rfl),
 mU rfl rfl rfl,
 fun ρz wz hE hA ⟨e3, _⟩ ⟨u3, _⟩ => gIf rfl rfl (yF rfl u3) fun gc F hF => core_val rfl hF (o_load (e3.trans h3) (run_loadN (cs := (api_Fact.cells b_)) (lr_38 _ _) rfl ((Hb_b3_.exn (hA rfl)).ca))),
 fun ρz wz hE hA _ ⟨u3, u4, _⟩ => gIf rfl rfl (yF rfl u3) fun gc F hF => core_call hF (call_args1 (gt gc u4)) cf_64 (fact_Valid_ok  _  (hz2 gc)),
 fun ρz wz hE hA _ ⟨u3, u5, _⟩ => gIf rfl rfl (yF rfl u3) fun gc F hF => core_val rfl hF (o_not (gt gc u5) rfl),
 fun ρz wz hE hA _ ⟨u3, u6, _⟩ => core_valE rfl rfl (congrArg Value.bool hc) (o_pick_or u3 rfl u6), trivial⟩ ?_
  intro ρ2 w2 hN hf hr
  have h12 := hv hf 7 rfl rfl
  obtain ⟨h2, h3⟩ := k2 hr h2 h3 rfl
  have Hb_b2_n := Hb_b2_.exn hN
  have Hb_b3_n := Hb_b3_.exn hN
  have hW := hW.trans hN
  have Hb_b2_ := Hb_b2_n
  have Hb_b3_ := Hb_b3_n
  refine WP.cond rfl h12 (fun hb => ?_) (fun hb => ?_)
  · have hF := (if_pos hb).symm.trans hF
    refine WP.seq (WP.rb mixed [[]] [[]] [(4, .bool false)] (by kernel_rfl) ⟨aC rfl rfl (fun _ => rfl), trivial⟩ ?_)
    intro ρ3 w3 hN hf hr
    have h4 := hv hf 0 rfl rfl
    have hW := hW.trans hN
    refine WP.ret ?_
    show retQ Tryz.prog 19 Tryz.f86 (fun v w1 => v = .bool r ∧ Ext noG w0 w1) .ret ρ3 w3
    obtain rfl := Option.some.inj hF
    exact res1 rfl (by decide) h4 ⟨rfl, hW⟩
  have hF := (if_neg (Bool.eq_false_iff.1 hb)).symm.trans hF
  refine WP.skip (WP.seq ?_)
  obtain ⟨z3, hz3, hF⟩ := obind hF
  obtain ⟨z4, hz4, hF⟩ := obind hF
  obtain ⟨z5, hz5, hF⟩ := obind hF
  refine WP.rg mixed [[], [0], [], [2], [1, 3], [4], [5]] [[], [0], [], [2], [1, 3], [4], [5]] [[2], [], [3], [], [], [], []] [val 13 (api_Fact.val a_), (14, fun u wz => Own w0.heap.size 5 1 (fun x : Int => [Value.int .u8 x]) wz u z3 ∧ ∀ b, u.ownBlock = some b → w2.heap.size ≤ b), val 15 (api_Fact.val b_), (16, fun u wz => Own w0.heap.size 5 1 (fun x : Int => [Value.int .u8 x]) wz u z4 ∧ ∀ b, u.ownBlock = some b → w2.heap.size ≤ b), val 17 (.int .i64 z5), val 18 (.bool (decide (z5 < 0))), val 4 (.bool (decide (z5 < 0)))] (by kernel_rfl) ⟨sV, fun _ _ _ hE ⟨hO, hf⟩ => ⟨hO.exn hE, hf⟩, sV, fun _ _ _ hE ⟨hO, hf⟩ => ⟨hO.exn hE, hf⟩, sV, sV, sV, trivial⟩ ⟨fun ρz wz hE hA ⟨e2, _⟩ _ => core_val rfl rfl (o_load (e2.trans h2) (run_loadN (cs := (api_Fact.cells a_)) (lr_38 _ _) rfl ((Hb_b2_.exn (hA rfl)).ca))),
 fun ρz wz hE hA _ ⟨u0, _⟩ => core_callR rfl (call_args1 u0) cf_115 ((fact_Bytes_ok  _  hz3).mono (fun e w1 ⟨v, he, hE1, hO⟩ => ⟨v, he, hE1, hO.base (Nat.le_trans hW.size hE.size), fun b hb => Nat.le_trans hE.size (hO.lt hb).1⟩)),
 fun ρz wz hE hA ⟨e3, _⟩ _ => core_val rfl rfl (o_load (e3.trans h3) (run_loadN (cs := (api_Fact.cells b_)) (lr_38 _ _) rfl ((Hb_b3_.exn (hA rfl)).ca))),
 fun ρz wz hE hA _ ⟨u2, _⟩ => core_callR rfl (call_args1 u2) cf_115 ((fact_Bytes_ok  _  hz4).mono (fun e w1 ⟨v, he, hE1, hO⟩ => ⟨v, he, hE1, hO.base (Nat.le_trans hW.size hE.size), fun b hb => Nat.le_trans hE.size (hO.lt hb).1⟩)),
 fun ρz wz hE hA _ ⟨⟨hO1, hfr1⟩, ⟨hO3, hfr3⟩, _⟩ => core_call rfl (call_args2 rfl rfl) cf_114 (bytes_Compare_ok  _ _ (hO1.rep (hn := fun _ => rfl) (G := noG) (fun _ _ h => h)).no (hO3.rep (hn := fun _ => rfl) (G := noG) (fun _ _ h => h)).no hz5),
 fun ρz wz hE hA _ ⟨u4, _⟩ => core_val rfl rfl (o_lss u4 rfl rfl),
 aU rfl rfl rfl, trivial⟩ ?_
  intro ρ4 w4 hN hf hr
  have h4 : ρ4 4 = .bool (decide (z5 < 0)) := hf 6 rfl
  have hW := hW.trans hN
  refine WP.ret ?_
  show retQ Tryz.prog 19 Tryz.f86 (fun v w1 => v = .bool r ∧ Ext noG w0 w1) .ret ρ4 w4
  obtain rfl := Option.some.inj hF
  exact res1 rfl (by decide) h4 ⟨rfl, hW⟩

set_option maxHeartbeats 4000000 in
theorem career_greater_ok {w0 : World} (a_ : api_Fact) (b_ : api_Fact) {r : api_Fact} (hF : career_greater a_ b_ = some r) :
    Calls Tryz.prog 57 #[api_Fact.val a_, api_Fact.val b_] w0 fun e w1 => e = .returned (api_Fact.val r) ∧ Ext noG w0 w1 := by
  refine (Calls.start (P := Tryz.prog) (args := [api_Fact.val a_, api_Fact.val b_]) (R := fun v w1 => v = api_Fact.val r ∧ Ext noG w0 w1) (n := 10) (w := w0) Tryz.func57 rfl rfl (Nat.le_of_ble_eq_true rfl) (fun ρ hargs => ?_)).mono (fun e w1 ⟨v, he, hv, hE⟩ => ⟨hv ▸ he, hE⟩)
  have h0 := hargs 0 _ rfl
  have h1 := hargs 1 _ rfl
  have hW := Ext.refl noG w0
  rw [career_greater] at hF
  refine WP.seq (WP.regionN mixed ⟨[[], [], []], [[], [], []], [[0], [1], []], [], [], [(0, 2), (1, 3), (2, 4)], []⟩ [(2, fun u wz => ∃ b, u = .pointer (some ⟨b, 0, none⟩) ∧ w0.heap.size ≤ b ∧ Mb wz b 38 (api_Fact.cells a_)), (3, fun u wz => ∃ b, u = .pointer (some ⟨b, 0, none⟩) ∧ w0.heap.size ≤ b ∧ Mb wz b 38 (api_Fact.cells b_)), (4, fun u wz => ∃ b, u = .pointer (some ⟨b, 0, none⟩) ∧ w0.heap.size ≤ b ∧ Mb wz b 38 (api_Fact.cells (⟨0, 0, 0, false, 0, 0, 0, (⟨0, 0⟩ : Span), 0, 0, 0, 0, 0⟩ : api_Fact)))] (fun b => w0.heap.size ≤ b) (by kernel_rfl) (.inr (fun _ h => h)) ⟨TStable.box, TStable.box, TStable.box, trivial⟩ ⟨fun ρz wz hE hA ⟨e0, _⟩ _ => core_newN rfl rfl rfl hE (o_box (e0.trans h0) (bx_38 _ _)),
 fun ρz wz hE hA ⟨e1, _⟩ _ => core_newN rfl rfl rfl hE (o_box (e1.trans h1) (bx_38 _ _)),
 fun ρz wz hE hA _ _ => core_newN rfl rfl rfl hE (o_alloc (al_38 _)), trivial⟩ ?_)
  intro ρ1 w1 hE hN hf hr hdist
  have hN := hE.fresh
  obtain ⟨b2_, h2, hge_b2_, Hb_b2_⟩ := hf 0 rfl
  obtain ⟨b3_, h3, hge_b3_, Hb_b3_⟩ := hf 1 rfl
  obtain ⟨b4_, h4, hge_b4_, Hb_b4_⟩ := hf 2 rfl
  have hB_b2_ : w0.heap.size ≤ b2_ := Nat.le_trans hW.size hge_b2_
  have hB_b3_ : w0.heap.size ≤ b3_ := Nat.le_trans hW.size hge_b3_
  have hB_b4_ : w0.heap.size ≤ b4_ := Nat.le_trans hW.size hge_b4_
  have hne_b2__b3_ : b2_ ≠ b3_ := fun h => hdist (0, 2) (by simp) (1, 3) (by simp) (by decide) b2_ (by rw [h2]; rfl) (by rw [h3, h]; rfl)
  have hne_b2__b4_ : b2_ ≠ b4_ := fun h => hdist (0, 2) (by simp) (2, 4) (by simp) (by decide) b2_ (by rw [h2]; rfl) (by rw [h4, h]; rfl)
  have hne_b3__b4_ : b3_ ≠ b4_ := fun h => hdist (1, 3) (by simp) (2, 4) (by simp) (by decide) b3_ (by rw [h3]; rfl) (by rw [h4, h]; rfl)
  have hW := hW.trans hN
  refine WP.seq (WP.seq ?_)
  obtain ⟨z, hz, hF⟩ := obind hF
  refine WP.rb mixed [[], [], [0, 1]] [[2], [3], []] [(5, api_Fact.val a_), (6, api_Fact.val b_), (7, .bool z)] (by kernel_rfl) ⟨fun ρz wz hE hA ⟨e2, _⟩ _ => core_val rfl rfl (o_load (e2.trans h2) (run_loadN (cs := (api_Fact.cells a_)) (lr_38 _ _) rfl ((Hb_b2_.exn (hA rfl)).ca))),
 fun ρz wz hE hA ⟨e3, _⟩ _ => core_val rfl rfl (o_load (e3.trans h3) (run_loadN (cs := (api_Fact.cells b_)) (lr_38 _ _) rfl ((Hb_b3_.exn (hA rfl)).ca))),
 fun ρz wz hE hA _ ⟨u0, u1, _⟩ => core_call rfl (call_args2 u0 u1) cf_86 (fact_Less_ok  _ _  hz), trivial⟩ ?_
  intro ρ2 w2 hN hf hr
  have h7 := hv hf 2 rfl rfl
  obtain ⟨h2, h3, h4⟩ := k3 hr h2 h3 h4 rfl
  have Hb_b2_n := Hb_b2_.exn hN
  have Hb_b3_n := Hb_b3_.exn hN
  have Hb_b4_n := Hb_b4_.exn hN
  have hW := hW.trans hN
  have Hb_b2_ := Hb_b2_n
  have Hb_b3_ := Hb_b3_n
  have Hb_b4_ := Hb_b4_n
  refine WP.cond rfl h7 (fun hb => ?_) (fun hb => ?_)
  · have hF := (if_pos hb).symm.trans hF
    refine WP.seq (WP.region mixed [[], [0]] [[], [0]] [[3], [4]] [1] [] [val 8 (api_Fact.val b_), (4, fun _ wz => Mb wz b4_ 38 (api_Fact.cells b_))] (fun x => x = b4_) (by kernel_rfl) ⟨sV, fun _ _ _ hE hM => hM.exn hE, trivial⟩ ⟨fun ρz wz hE hA ⟨e3, _⟩ _ => core_val rfl rfl (o_load (e3.trans h3) (run_loadN (cs := (api_Fact.cells b_)) (lr_38 _ _) rfl ((Hb_b3_.exn (hA rfl)).ca))),
 fun ρz wz hE hA ⟨e4, _⟩ ⟨u0, _⟩ => core_storeBox rfl rfl (fun _ h => h) (e4.trans h4) u0 (Hb_b4_.exn (hA rfl)) (fun a w => st_38 _ a w) rfl (one_38 _), trivial⟩ ?_)
    intro ρ3 w3 hE hN hf hr
    have h4 := (hr 4 rfl).trans h4
    have Hb_b4_n := hf 1 rfl
    have hW := Ext.own hW hE (fun x h => h.symm ▸ hB_b4_)
    have Hb_b4_ := Hb_b4_n
    refine WP.ret ?_
    show retQ Tryz.prog 10 Tryz.f57 (fun v w1 => v = api_Fact.val r ∧ Ext noG w0 w1) .ret ρ3 w3
    obtain rfl := Option.some.inj hF
    exact resC rfl (by decide) h4 (run_loadN (cs := (api_Fact.cells b_)) (lr_38 _ _) rfl Hb_b4_.ca) ⟨rfl, hW⟩
  have hF := (if_neg (Bool.eq_false_iff.1 hb)).symm.trans hF
  refine WP.skip (WP.seq (WP.region mixed [[], [0]] [[], [0]] [[2], [4]] [1] [] [val 9 (api_Fact.val a_), (4, fun _ wz => Mb wz b4_ 38 (api_Fact.cells a_))] (fun x => x = b4_) (by kernel_rfl) ⟨sV, fun _ _ _ hE hM => hM.exn hE, trivial⟩ ⟨fun ρz wz hE hA ⟨e2, _⟩ _ => core_val rfl rfl (o_load (e2.trans h2) (run_loadN (cs := (api_Fact.cells a_)) (lr_38 _ _) rfl ((Hb_b2_.exn (hA rfl)).ca))),
 fun ρz wz hE hA ⟨e4, _⟩ ⟨u0, _⟩ => core_storeBox rfl rfl (fun _ h => h) (e4.trans h4) u0 (Hb_b4_.exn (hA rfl)) (fun a w => st_38 _ a w) rfl (one_38 _), trivial⟩ ?_))
  intro ρ4 w4 hE hN hf hr
  have h4 := (hr 4 rfl).trans h4
  have Hb_b4_n := hf 1 rfl
  have hW := Ext.own hW hE (fun x h => h.symm ▸ hB_b4_)
  have Hb_b4_ := Hb_b4_n
  refine WP.ret ?_
  show retQ Tryz.prog 10 Tryz.f57 (fun v w1 => v = api_Fact.val r ∧ Ext noG w0 w1) .ret ρ4 w4
  obtain rfl := Option.some.inj hF
  exact resC rfl (by decide) h4 (run_loadN (cs := (api_Fact.cells a_)) (lr_38 _ _) rfl Hb_b4_.ca) ⟨rfl, hW⟩

set_option maxHeartbeats 4000000 in
theorem career_ascending_ok {w0 : World} (l_ : List api_Fact) {v_l_ : Value} (H_l_ : RepSl api_Fact.R noG w0 v_l_ l_) {r : (List api_Fact)} (hF : career_ascending l_ = some r) :
    Calls Tryz.prog 55 #[v_l_] w0 fun e w1 => ∃ v, e = .returned v ∧ Ext noG w0 w1 ∧ Own w0.heap.size 38 14 api_Fact.cells w1 v r := by
  refine (Calls.start (P := Tryz.prog) (args := [v_l_]) (R := fun v w1 => Own w0.heap.size 38 14 api_Fact.cells w1 v r ∧ Ext noG w0 w1) (n := 20) (w := w0) Tryz.func55 rfl rfl (Nat.le_of_ble_eq_true rfl) (fun ρ hargs => ?_)).mono (fun e w1 ⟨v, he, hv, hE⟩ => ⟨v, he, hE, hv⟩)
  have h0 := hargs 0 _ rfl
  have hW := Ext.refl noG w0
  obtain ⟨_, _, hs_H_l_, _, _⟩ := RepSl.shape H_l_
  have H_l_ := H_l_.start
  rw [career_ascending] at hF
  refine WP.seq (WP.rb mixed [[]] [[]] [(2, .slice none 0 0)] (by kernel_rfl) ⟨aC rfl rfl (fun _ => rfl), trivial⟩ ?_)
  intro ρ1 w1 hN hf hr
  have h0 := (hr 0 rfl).trans h0
  have H_l_ := H_l_.exn hN
  have hW := hW.trans hN
  refine WP.seq (WP.rb mixed [[]] [[]] [(3, .slice none 0 0)] (by kernel_rfl) ⟨aC rfl rfl (fun _ => rfl), trivial⟩ ?_)
  intro ρ2 w2 hN hf hr
  have h3 : ρ2 3 = .slice none 0 0 := hf 0 rfl
  have O3 : Own w0.heap.size 38 14 api_Fact.cells w2 (.slice none 0 0) [] := Own.nil _ _ _ _ _
  have h0 := (hr 0 rfl).trans h0
  have H_l_ := H_l_.exn hN
  have hW := hW.trans hN
  have O3 : Own w0.heap.size 38 14 api_Fact.cells w2 (.slice none 0 0) [] := Own.nil _ _ _ _ _
  refine WP.seq (WP.seq (WP.rb mixed [[], [0], []] [[0], [], []] [(6, v_l_), (7, .int .i64 (l_.length : Int)), (8, .int .i64 0)] (by kernel_rfl) ⟨mE rfl rfl h0,
 fun ρz wz hE hA _ ⟨u0, _⟩ => core_val rfl rfl (o_len (u0.trans hs_H_l_) len_24),
 mC rfl rfl (fun _ => rfl), trivial⟩ ?_))
  intro ρ3 w3 hN hf hr
  have h6 := hv hf 0 rfl rfl
  have h7 := hv hf 1 rfl rfl
  have h8 := hv hf 2 rfl rfl
  have h3 := (hr 3 rfl).trans h3
  have Oo_O3 := O3
  have H_l_ := H_l_.exn hN
  have hW := hW.trans hN
  have O3 : Own w0.heap.size 38 14 api_Fact.cells w3 (.slice none 0 0) [] := Own.nil _ _ _ _ _
  refine WP.block (WP.loop (fun k_ ρ w => ∃ out_ : List api_Fact, ∃ x : Int, ∃ v3_ : Value, ρ 3 = v3_ ∧ ρ 6 = v_l_ ∧ ρ 7 = .int .i64 (l_.length : Int) ∧ ρ 8 = .int .i64 x ∧ RepSl api_Fact.R (gfr noG w0) w v_l_ l_ ∧ Own w0.heap.size 38 14 api_Fact.cells w v3_ out_ ∧ Ext noG w0 w ∧ loopC k_ (career_ascending_l l_) (out_, x) = some r) FU ⟨[], 0, .slice none 0 0, h3, h6, h7, h8, H_l_, O3, hW, hF⟩ (fun _ _ h => by obtain ⟨_, _, _, _, _, _, _, _, _, _, h⟩ := h; cases h) ?_)
  rintro k_ ρ4 w4 ⟨out_, x, v3_, h3, h6, h7, h8, H_l_, O3, hW, hF⟩
  have hF : career_ascending_l l_ (loopC k_ (career_ascending_l l_)) (out_, x) = some r := (loopC_succ k_ (career_ascending_l l_) (out_, x)).symm.trans hF
  generalize hrec_ : loopC k_ (career_ascending_l l_) = rec_ at hF
  rw [career_ascending_l] at hF
  refine WP.seq (WP.rb mixed [[]] [[8, 7]] [(9, .bool (decide (x < (l_.length : Int))))] (by kernel_rfl) ⟨fun ρz wz hE hA ⟨e8, e7, _⟩ _ => core_val rfl rfl (o_lss (e8.trans h8) (e7.trans h7) rfl), trivial⟩ ?_)
  intro ρ5 w5 hN hf hr
  have h9 := hv hf 0 rfl rfl
  obtain ⟨h3, h6, h7, h8⟩ := k4 hr h3 h6 h7 h8 rfl
  have Oo_O3 := O3
  have H_l_ := H_l_.exn hN
  have hW := hW.trans hN
  have O3 := Oo_O3.exn hN
  refine WP.seq (WP.cond rfl h9 (fun hb => ?_) (fun hb => ?_))
  · have hF := (if_pos hb).symm.trans hF
    refine WP.skip (WP.seqJ (fun ρ w => ∃ out_2 : List api_Fact, ∃ v3_2 : Value, ρ 3 = v3_2 ∧ ρ 6 = v_l_ ∧ ρ 7 = .int .i64 (l_.length : Int) ∧ ρ 8 = .int .i64 x ∧ RepSl api_Fact.R (gfr noG w0) w v_l_ l_ ∧ Own w0.heap.size 38 14 api_Fact.cells w v3_2 out_2 ∧ Ext noG w0 w ∧ career_ascending_j x rec_ out_2 = some r) ?_ ?_)
    · refine WP.block (WP.seq ?_)
      obtain ⟨y, hy, hF⟩ := obind hF
      obtain ⟨ay, cy, hvy, hiy, hAy⟩ := RepSl.getF H_l_ hy
      refine WP.region mixed [[], [0], [], [1, 2]] [[], [0], [], [1, 2]] [[6, 8], [], [], []] [3] [(2, 3)] [val 10 (.pointer (some (ay.add (Int.toNat x * 14)))), val 11 (api_Fact.val y), (5, fun u wz => ∃ b, u = .pointer (some ⟨b, 0, none⟩) ∧ w5.heap.size ≤ b ∧ Mb wz b 38 (api_Fact.cells (⟨0, 0, 0, false, 0, 0, 0, (⟨0, 0⟩ : Span), 0, 0, 0, 0, 0⟩ : api_Fact))), (5, fun u wz => ∃ b, u = .pointer (some ⟨b, 0, none⟩) ∧ w5.heap.size ≤ b ∧ Mb wz b 38 (api_Fact.cells y))] (fun b => w5.heap.size ≤ b) (by kernel_rfl) ⟨sV, sV, fun _ _ _ hE ⟨b, hb, hs, hM⟩ => ⟨b, hb, hs, hM.exn hE⟩, fun _ _ _ hE ⟨b, hb, hs, hM⟩ => ⟨b, hb, hs, hM.exn hE⟩, trivial⟩ ⟨fun ρz wz hE hA ⟨e6, e8, _⟩ _ => core_val rfl rfl (o_indexAddr ((e6.trans h6).trans hvy) (e8.trans h8) (ia_24 hiy)),
 fun ρz wz hE hA _ ⟨u0, _⟩ => core_val rfl rfl (o_load u0 (run_loadN (cs := (api_Fact.cells y)) (lr_38 _ _) rfl ((hAy.exn hE.fresh).ca))),
 fun ρz wz hE hA _ _ => core_new rfl rfl hE (o_alloc (al_38 _)),
 fun ρz wz hE hA _ ⟨u1, u2, _⟩ => core_storeNew rfl rfl rfl rfl u1 u2 (fun a w => st_38 _ a w) rfl (one_38 _), trivial⟩ ?_
      intro ρ8 w8 hE hN hf hr
      have hN := hE.fresh
      obtain ⟨b5_, h5, hge_b5_, Hb_b5_⟩ := hf 3 rfl
      obtain ⟨h3, h6, h7, h8⟩ := k4 hr h3 h6 h7 h8 rfl
      have Oo_O3 := O3
      have H_l_ := H_l_.exn hN
      have hB_b5_ : w0.heap.size ≤ b5_ := Nat.le_trans hW.size hge_b5_
      have hW := hW.trans hN
      have O3 := Oo_O3.exn hN
      have hnb_O3_b5_ : Value.ownBlock v3_ ≠ some b5_ := fun h => absurd (Oo_O3.lt h).2 (Nat.not_lt.2 hge_b5_)
      refine WP.seq ?_
      obtain ⟨z, hz, hF⟩ := obind hF
      refine WP.rb mixed [[], [0]] [[5], []] [(12, api_Fact.val y), (13, .bool z)] (by kernel_rfl) ⟨fun ρz wz hE hA ⟨e5, _⟩ _ => core_val rfl rfl (o_load (e5.trans h5) (run_loadN (cs := (api_Fact.cells y)) (lr_38 _ _) rfl ((Hb_b5_.exn (hA rfl)).ca))),
 fun ρz wz hE hA _ ⟨u0, _⟩ => core_call rfl (call_args1 u0) cf_64 (fact_Valid_ok  _  hz), trivial⟩ ?_
      intro ρ9 w9 hN hf hr
      have h13 := hv hf 1 rfl rfl
      obtain ⟨h3, h6, h7, h8, h5⟩ := k5 hr h3 h6 h7 h8 h5 rfl
      have Oo_O3 := O3
      have Hb_b5_n := Hb_b5_.exn hN
      have H_l_ := H_l_.exn hN
      have hW := hW.trans hN
      have O3 := Oo_O3.exn hN
      have Hb_b5_ := Hb_b5_n
      refine WP.cond rfl h13 (fun hb => ?_) (fun hb => ?_)
      · have hF := (if_pos hb).symm.trans hF
        obtain ⟨z2, hz2, hF⟩ := obind hF
        refine WP.rg mixed [[], [], [1], [0, 2], [0, 3]] [[], [], [1], [0, 2], [3]] [[3], [5], [], [], []] [val 14 (v3_), val 15 (api_Fact.val y), (16, fun u wz => ∃ b, u = .slice (some ⟨b, 0, none⟩) 1 1 ∧ w9.heap.size ≤ b ∧ Mb wz b 38 (([y]).flatMap api_Fact.cells)), (17, fun u wz => Own w0.heap.size 38 14 api_Fact.cells wz u z2 ∧ ∀ b, u.ownBlock = some b → w9.heap.size ≤ b), (3, fun u wz => Own w0.heap.size 38 14 api_Fact.cells wz u z2 ∧ ∀ b, u.ownBlock = some b → w9.heap.size ≤ b)] (by kernel_rfl) ⟨sV, sV, fun _ _ _ hE ⟨b, hz, hs, hM⟩ => ⟨b, hz, hs, hM.exn hE⟩, fun _ _ _ hE ⟨hO, hf⟩ => ⟨hO.exn hE, hf⟩, fun _ _ _ hE ⟨hO, hf⟩ => ⟨hO.exn hE, hf⟩, trivial⟩ ⟨mE rfl rfl h3,
 fun ρz wz hE hA ⟨e5, _⟩ _ => core_val rfl rfl (o_load (e5.trans h5) (run_loadN (cs := (api_Fact.cells y)) (lr_38 _ _) rfl ((Hb_b5_.exn (hA rfl)).ca))),
 fun ρz wz hE hA _ ⟨u1, _⟩ => core_slice rfl rfl hE (o_buildSlice (build_parts1 u1) (bs_24_1 _ _)),
 fun ρz wz hE hA _ ⟨u0, ⟨bz2, hzn2, hge2, hM2⟩, _⟩ => core_callR rfl (call_args4 u0 hzn2 rfl rfl) cf_54 ((career_merge_of_api_Fact_ok  _ _ _ _ ((O3.exn (hA rfl)).rep (hn := fun _ => rfl) (G := noG) (fun _ _ h => h)).no (Mb.rep (n := 14) (cells := api_Fact.cells) (hn := fun _ => rfl) (G := noG) hM2 rfl (Nat.le_of_ble_eq_true rfl) (fun h => h)).no (FnR.mk (V := fnV_86) (W := fnW_86) (G := noG) (cap := []) cf_56 (fun w' hE' x r hr => career_byIdentity_ok _ _   hr)) (FnR.mk (V := fnV_87) (W := fnW_87) (G := noG) (cap := []) cf_57 (fun w' hE' x r hr => career_greater_ok _ _   hr)) hz2).mono (fun e w1 ⟨v, he, hE1, hO⟩ => ⟨v, he, hE1, hO.base (Nat.le_trans hW.size hE.size), fun b hb => Nat.le_trans hE.size (hO.lt hb).1⟩)),
 fun ρz wz hE hA _ ⟨⟨hO3, hfr3⟩, _⟩ => core_copy rfl rfl (o_assign rfl) ⟨hO3, hfr3⟩, trivial⟩ ?_
        intro ρ10 w10 hN hf hr
        obtain ⟨v3_3, h3⟩ : ∃ v, ρ10 3 = v := ⟨_, rfl⟩
        have hq3 : (fun u wz => Own w0.heap.size 38 14 api_Fact.cells wz u z2 ∧ ∀ b, u.ownBlock = some b → w9.heap.size ≤ b) (ρ10 3) w10 := hf 4 rfl
        rw [h3] at hq3
        obtain ⟨hq3, hfr3⟩ := hq3
        obtain ⟨h6, h7, h8⟩ := k3 hr h6 h7 h8 rfl
        have Oo_O3 := O3
        have H_l_ := H_l_.exn hN
        have hW := hW.trans hN
        have O3 := hq3
        exact ⟨z2, v3_3, h3, h6, h7, h8, H_l_, O3, hW, hF⟩
      have hF := (if_neg (Bool.eq_false_iff.1 hb)).symm.trans hF
      refine WP.skip ?_
      exact ⟨out_, v3_, h3, h6, h7, h8, H_l_, O3, hW, hF⟩
    rintro ρ6 w6 ⟨out_2, v3_2, h3, h6, h7, h8, H_l_, O3, hW, hF⟩
    rw [career_ascending_j] at hF
    refine WP.rb mixed [[], [0]] [[8], []] [(18, .int .i64 (i64 (x + 1))), (8, .int .i64 (i64 (x + 1)))] (by kernel_rfl) ⟨fun ρz wz hE hA ⟨e8, _⟩ _ => core_val rfl rfl (o_add (e8.trans h8) rfl rfl),
 mU rfl rfl rfl, trivial⟩ ?_
    intro ρ7 w7 hN hf hr
    have h8 := hv hf 1 rfl rfl
    obtain ⟨h3, h6, h7⟩ := k3 hr h3 h6 h7 rfl
    have Oo_O3 := O3
    have H_l_ := H_l_.exn hN
    have hW := hW.trans hN
    have O3 := Oo_O3.exn hN
    exact ⟨out_2, i64 (x + 1), v3_2, h3, h6, h7, h8, H_l_, O3, hW, (by first | exact hF | (rw [hrec_]; exact hF))⟩
  have hF := (if_neg (Bool.eq_false_iff.1 hb)).symm.trans hF
  refine WP.exit (thenQ_exit (thenQ_exit (blockQ_hit (WP.seq (WP.rb mixed [[], [0]] [[3], []] [(19, v3_), (2, v3_)] (by kernel_rfl) ⟨mE rfl rfl h3,
 aU rfl rfl rfl, trivial⟩ ?_)))))
  intro ρ11 w11 hN hf hr
  have h2 := hv hf 1 rfl rfl
  have Oo_O3 := O3
  have hW := hW.trans hN
  have O2 := Oo_O3.exn hN
  refine WP.ret ?_
  show retQ Tryz.prog 20 Tryz.f55 (fun v w1 => Own w0.heap.size 38 14 api_Fact.cells w1 v r ∧ Ext noG w0 w1) .ret ρ11 w11
  obtain rfl := Option.some.inj hF
  exact res1 rfl (by decide) h2 ⟨O2, hW⟩

set_option maxHeartbeats 4000000 in
theorem career_Merge_ok {w0 : World} (a_ : List api_Fact) (b_ : List api_Fact) {v_a_ : Value} (H_a_ : RepSl api_Fact.R noG w0 v_a_ a_) {v_b_ : Value} (H_b_ : RepSl api_Fact.R noG w0 v_b_ b_) {r : (List api_Fact)} (hF : career_Merge a_ b_ = some r) :
    Calls Tryz.prog 30 #[v_a_, v_b_] w0 fun e w1 => ∃ v, e = .returned v ∧ Ext noG w0 w1 ∧ Own w0.heap.size 38 14 api_Fact.cells w1 v r := by
  refine (Calls.start (P := Tryz.prog) (args := [v_a_, v_b_]) (R := fun v w1 => Own w0.heap.size 38 14 api_Fact.cells w1 v r ∧ Ext noG w0 w1) (n := 10) (w := w0) Tryz.func30 rfl rfl (Nat.le_of_ble_eq_true rfl) (fun ρ hargs => ?_)).mono (fun e w1 ⟨v, he, hv, hE⟩ => ⟨v, he, hE, hv⟩)
  have h0 := hargs 0 _ rfl
  have h1 := hargs 1 _ rfl
  have hW := Ext.refl noG w0
  obtain ⟨_, _, hs_H_a_, _, _⟩ := RepSl.shape H_a_
  have H_a_ := H_a_.start
  obtain ⟨_, _, hs_H_b_, _, _⟩ := RepSl.shape H_b_
  have H_b_ := H_b_.start
  rw [career_Merge] at hF
  refine WP.seq (WP.rb mixed [[]] [[]] [(4, .slice none 0 0)] (by kernel_rfl) ⟨aC rfl rfl (fun _ => rfl), trivial⟩ ?_)
  intro ρ1 w1 hN hf hr
  obtain ⟨h0, h1⟩ := k2 hr h0 h1 rfl
  have H_a_ := H_a_.exn hN
  have H_b_ := H_b_.exn hN
  have hW := hW.trans hN
  refine WP.seq ?_
  obtain ⟨z, hz, hF⟩ := obind hF
  obtain ⟨z2, hz2, hF⟩ := obind hF
  obtain ⟨z3, hz3, hF⟩ := obind hF
  refine WP.rg mixed [[], [0], [], [2], [1, 3], [4]] [[], [0], [], [2], [1, 3], [4]] [[0], [], [1], [], [], []] [val 5 (v_a_), (6, fun u wz => Own w0.heap.size 38 14 api_Fact.cells wz u z ∧ ∀ b, u.ownBlock = some b → w1.heap.size ≤ b), val 7 (v_b_), (8, fun u wz => Own w0.heap.size 38 14 api_Fact.cells wz u z2 ∧ ∀ b, u.ownBlock = some b → w1.heap.size ≤ b), (9, fun u wz => Own w0.heap.size 38 14 api_Fact.cells wz u z3 ∧ ∀ b, u.ownBlock = some b → w1.heap.size ≤ b), (4, fun u wz => Own w0.heap.size 38 14 api_Fact.cells wz u z3 ∧ ∀ b, u.ownBlock = some b → w1.heap.size ≤ b)] (by kernel_rfl) ⟨sV, fun _ _ _ hE ⟨hO, hf⟩ => ⟨hO.exn hE, hf⟩, sV, fun _ _ _ hE ⟨hO, hf⟩ => ⟨hO.exn hE, hf⟩, fun _ _ _ hE ⟨hO, hf⟩ => ⟨hO.exn hE, hf⟩, fun _ _ _ hE ⟨hO, hf⟩ => ⟨hO.exn hE, hf⟩, trivial⟩ ⟨mE rfl rfl h0,
 fun ρz wz hE hA _ ⟨u0, _⟩ => core_callR rfl (call_args1 u0) cf_55 ((career_ascending_ok  _ (H_a_.exn (hA rfl)).no hz).mono (fun e w1 ⟨v, he, hE1, hO⟩ => ⟨v, he, hE1, hO.base (Nat.le_trans hW.size hE.size), fun b hb => Nat.le_trans hE.size (hO.lt hb).1⟩)),
 mE rfl rfl h1,
 fun ρz wz hE hA _ ⟨u2, _⟩ => core_callR rfl (call_args1 u2) cf_55 ((career_ascending_ok  _ (H_b_.exn (hA rfl)).no hz2).mono (fun e w1 ⟨v, he, hE1, hO⟩ => ⟨v, he, hE1, hO.base (Nat.le_trans hW.size hE.size), fun b hb => Nat.le_trans hE.size (hO.lt hb).1⟩)),
 fun ρz wz hE hA _ ⟨⟨hO1, hfr1⟩, ⟨hO3, hfr3⟩, _⟩ => core_callR rfl (call_args4 rfl rfl rfl rfl) cf_54 ((career_merge_of_api_Fact_ok  _ _ _ _ (hO1.rep (hn := fun _ => rfl) (G := noG) (fun _ _ h => h)).no (hO3.rep (hn := fun _ => rfl) (G := noG) (fun _ _ h => h)).no (FnR.mk (V := fnV_86) (W := fnW_86) (G := noG) (cap := []) cf_56 (fun w' hE' x r hr => career_byIdentity_ok _ _   hr)) (FnR.mk (V := fnV_87) (W := fnW_87) (G := noG) (cap := []) cf_57 (fun w' hE' x r hr => career_greater_ok _ _   hr)) hz3).mono (fun e w1 ⟨v, he, hE1, hO⟩ => ⟨v, he, hE1, hO.base (Nat.le_trans hW.size hE.size), fun b hb => Nat.le_trans hE.size (hO.lt hb).1⟩)),
 fun ρz wz hE hA _ ⟨⟨hO4, hfr4⟩, _⟩ => core_copy rfl rfl (o_assign rfl) ⟨hO4, hfr4⟩, trivial⟩ ?_
  intro ρ2 w2 hN hf hr
  obtain ⟨v4_, h4⟩ : ∃ v, ρ2 4 = v := ⟨_, rfl⟩
  have hq4 : (fun u wz => Own w0.heap.size 38 14 api_Fact.cells wz u z3 ∧ ∀ b, u.ownBlock = some b → w1.heap.size ≤ b) (ρ2 4) w2 := hf 5 rfl
  rw [h4] at hq4
  obtain ⟨hq4, hfr4⟩ := hq4
  have hW := hW.trans hN
  have O4 := hq4
  refine WP.ret ?_
  show retQ Tryz.prog 10 Tryz.f30 (fun v w1 => Own w0.heap.size 38 14 api_Fact.cells w1 v r ∧ Ext noG w0 w1) .ret ρ2 w2
  obtain rfl := Option.some.inj hF
  exact res1 rfl (by decide) h4 ⟨O4, hW⟩

set_option maxHeartbeats 4000000 in
theorem career_filter_ok {w0 : World} (l_ : List api_Fact) (want_ : api_Fact → Option Bool) {v_l_ : Value} (H_l_ : RepSl api_Fact.R noG w0 v_l_ l_) {v_want_ : Value} (H_want_ : FnR Tryz.prog fnV_65 fnW_65 want_ noG w0 v_want_) {r : (List api_Fact)} (hF : career_filter l_ want_ = some r) :
    Calls Tryz.prog 37 #[v_l_, v_want_] w0 fun e w1 => ∃ v, e = .returned v ∧ Ext noG w0 w1 ∧ Own w0.heap.size 38 14 api_Fact.cells w1 v r := by
  refine (Calls.start (P := Tryz.prog) (args := [v_l_, v_want_]) (R := fun v w1 => Own w0.heap.size 38 14 api_Fact.cells w1 v r ∧ Ext noG w0 w1) (n := 23) (w := w0) Tryz.func37 rfl rfl (Nat.le_of_ble_eq_true rfl) (fun ρ hargs => ?_)).mono (fun e w1 ⟨v, he, hv, hE⟩ => ⟨v, he, hE, hv⟩)
  have h0 := hargs 0 _ rfl
  have h1 := hargs 1 _ rfl
  have hW := Ext.refl noG w0
  obtain ⟨_, _, hs_H_l_, _, _⟩ := RepSl.shape H_l_
  have H_l_ := H_l_.start
  have H_want_ := H_want_.start
  rw [career_filter] at hF
  refine WP.seq (WP.rb mixed [[]] [[]] [(4, .slice none 0 0)] (by kernel_rfl) ⟨aC rfl rfl (fun _ => rfl), trivial⟩ ?_)
  intro ρ1 w1 hN hf hr
  obtain ⟨h0, h1⟩ := k2 hr h0 h1 rfl
  have H_l_ := H_l_.exn hN
  have H_want_ := H_want_.exn hN
  have hW := hW.trans hN
  refine WP.seq (WP.rb mixed [[]] [[]] [(5, .slice none 0 0)] (by kernel_rfl) ⟨aC rfl rfl (fun _ => rfl), trivial⟩ ?_)
  intro ρ2 w2 hN hf hr
  have h5 : ρ2 5 = .slice none 0 0 := hf 0 rfl
  have O5 : Own w0.heap.size 38 14 api_Fact.cells w2 (.slice none 0 0) [] := Own.nil _ _ _ _ _
  obtain ⟨h0, h1⟩ := k2 hr h0 h1 rfl
  have H_l_ := H_l_.exn hN
  have H_want_ := H_want_.exn hN
  have hW := hW.trans hN
  have O5 : Own w0.heap.size 38 14 api_Fact.cells w2 (.slice none 0 0) [] := Own.nil _ _ _ _ _
  refine WP.seq (WP.seq (WP.rb mixed [[], [0], []] [[0], [], []] [(8, v_l_), (9, .int .i64 (l_.length : Int)), (10, .int .i64 0)] (by kernel_rfl) ⟨mE rfl rfl h0,
 fun ρz wz hE hA _ ⟨u0, _⟩ => core_val rfl rfl (o_len (u0.trans hs_H_l_) len_24),
 mC rfl rfl (fun _ => rfl), trivial⟩ ?_))
  intro ρ3 w3 hN hf hr
  have h8 := hv hf 0 rfl rfl
  have h9 := hv hf 1 rfl rfl
  have h10 := hv hf 2 rfl rfl
  obtain ⟨h1, h5⟩ := k2 hr h1 h5 rfl
  have Oo_O5 := O5
  have H_l_ := H_l_.exn hN
  have H_want_ := H_want_.exn hN
  have hW := hW.trans hN
  have O5 : Own w0.heap.size 38 14 api_Fact.cells w3 (.slice none 0 0) [] := Own.nil _ _ _ _ _
  refine WP.block (WP.loop (fun k_ ρ w => ∃ out_ : List api_Fact, ∃ x : Int, ∃ v5_ : Value, ρ 1 = v_want_ ∧ ρ 5 = v5_ ∧ ρ 8 = v_l_ ∧ ρ 9 = .int .i64 (l_.length : Int) ∧ ρ 10 = .int .i64 x ∧ RepSl api_Fact.R (gfr noG w0) w v_l_ l_ ∧ FnR Tryz.prog fnV_65 fnW_65 want_ (gfr noG w0) w v_want_ ∧ Own w0.heap.size 38 14 api_Fact.cells w v5_ out_ ∧ Ext noG w0 w ∧ loopC k_ (career_filter_l l_ want_) (out_, x) = some r) FU ⟨[], 0, .slice none 0 0, h1, h5, h8, h9, h10, H_l_, H_want_, O5, hW, hF⟩ (fun _ _ h => by obtain ⟨_, _, _, _, _, _, _, _, _, _, _, _, h⟩ := h; cases h) ?_)
  rintro k_ ρ4 w4 ⟨out_, x, v5_, h1, h5, h8, h9, h10, H_l_, H_want_, O5, hW, hF⟩
  have hF : career_filter_l l_ want_ (loopC k_ (career_filter_l l_ want_)) (out_, x) = some r := (loopC_succ k_ (career_filter_l l_ want_) (out_, x)).symm.trans hF
  generalize hrec_ : loopC k_ (career_filter_l l_ want_) = rec_ at hF
  rw [career_filter_l] at hF
  refine WP.seq (WP.rb mixed [[]] [[10, 9]] [(11, .bool (decide (x < (l_.length : Int))))] (by kernel_rfl) ⟨fun ρz wz hE hA ⟨e10, e9, _⟩ _ => core_val rfl rfl (o_lss (e10.trans h10) (e9.trans h9) rfl), trivial⟩ ?_)
  intro ρ5 w5 hN hf hr
  have h11 := hv hf 0 rfl rfl
  obtain ⟨h1, h5, h8, h9, h10⟩ := k5 hr h1 h5 h8 h9 h10 rfl
  have Oo_O5 := O5
  have H_l_ := H_l_.exn hN
  have H_want_ := H_want_.exn hN
  have hW := hW.trans hN
  have O5 := Oo_O5.exn hN
  refine WP.seq (WP.cond rfl h11 (fun hb => ?_) (fun hb => ?_))
  · have hF := (if_pos hb).symm.trans hF
    refine WP.skip (WP.seqJ (fun ρ w => ∃ out_2 : List api_Fact, ∃ v5_2 : Value, ρ 1 = v_want_ ∧ ρ 5 = v5_2 ∧ ρ 8 = v_l_ ∧ ρ 9 = .int .i64 (l_.length : Int) ∧ ρ 10 = .int .i64 x ∧ RepSl api_Fact.R (gfr noG w0) w v_l_ l_ ∧ FnR Tryz.prog fnV_65 fnW_65 want_ (gfr noG w0) w v_want_ ∧ Own w0.heap.size 38 14 api_Fact.cells w v5_2 out_2 ∧ Ext noG w0 w ∧ career_filter_j x rec_ out_2 = some r) ?_ ?_)
    · refine WP.block (WP.seq ?_)
      obtain ⟨y, hy, hF⟩ := obind hF
      obtain ⟨ay, cy, hvy, hiy, hAy⟩ := RepSl.getF H_l_ hy
      refine WP.region mixed [[], [0], [], [1, 2]] [[], [0], [], [1, 2]] [[8, 10], [], [], []] [3] [(2, 3)] [val 12 (.pointer (some (ay.add (Int.toNat x * 14)))), val 13 (api_Fact.val y), (7, fun u wz => ∃ b, u = .pointer (some ⟨b, 0, none⟩) ∧ w5.heap.size ≤ b ∧ Mb wz b 38 (api_Fact.cells (⟨0, 0, 0, false, 0, 0, 0, (⟨0, 0⟩ : Span), 0, 0, 0, 0, 0⟩ : api_Fact))), (7, fun u wz => ∃ b, u = .pointer (some ⟨b, 0, none⟩) ∧ w5.heap.size ≤ b ∧ Mb wz b 38 (api_Fact.cells y))] (fun b => w5.heap.size ≤ b) (by kernel_rfl) ⟨sV, sV, fun _ _ _ hE ⟨b, hb, hs, hM⟩ => ⟨b, hb, hs, hM.exn hE⟩, fun _ _ _ hE ⟨b, hb, hs, hM⟩ => ⟨b, hb, hs, hM.exn hE⟩, trivial⟩ ⟨fun ρz wz hE hA ⟨e8, e10, _⟩ _ => core_val rfl rfl (o_indexAddr ((e8.trans h8).trans hvy) (e10.trans h10) (ia_24 hiy)),
 fun ρz wz hE hA _ ⟨u0, _⟩ => core_val rfl rfl (o_load u0 (run_loadN (cs := (api_Fact.cells y)) (lr_38 _ _) rfl ((hAy.exn hE.fresh).ca))),
 fun ρz wz hE hA _ _ => core_new rfl rfl hE (o_alloc (al_38 _)),
 fun ρz wz hE hA _ ⟨u1, u2, _⟩ => core_storeNew rfl rfl rfl rfl u1 u2 (fun a w => st_38 _ a w) rfl (one_38 _), trivial⟩ ?_
      intro ρ8 w8 hE hN hf hr
      have hN := hE.fresh
      obtain ⟨b7_, h7, hge_b7_, Hb_b7_⟩ := hf 3 rfl
      obtain ⟨h1, h5, h8, h9, h10⟩ := k5 hr h1 h5 h8 h9 h10 rfl
      have Oo_O5 := O5
      have H_l_ := H_l_.exn hN
      have H_want_ := H_want_.exn hN
      have hB_b7_ : w0.heap.size ≤ b7_ := Nat.le_trans hW.size hge_b7_
      have hW := hW.trans hN
      have O5 := Oo_O5.exn hN
      have hnb_O5_b7_ : Value.ownBlock v5_ ≠ some b7_ := fun h => absurd (Oo_O5.lt h).2 (Nat.not_lt.2 hge_b7_)
      refine WP.seq ?_
      obtain ⟨z, hz, hF⟩ := obind hF
      refine WP.rb mixed [[], [], [0, 1]] [[1], [7], []] [(14, v_want_), (15, api_Fact.val y), (16, .bool z)] (by kernel_rfl) ⟨mE rfl rfl h1,
 fun ρz wz hE hA ⟨e7, _⟩ _ => core_val rfl rfl (o_load (e7.trans h7) (run_loadN (cs := (api_Fact.cells y)) (lr_38 _ _) rfl ((Hb_b7_.exn (hA rfl)).ca))),
 fun ρz wz hE hA _ ⟨u0, u1, _⟩ => core_callF (V := fnV_65) (W := fnW_65) (a := y) (r := z) rfl u0 (call_args1 u1) (H_want_.exn (hA rfl)).no hz, trivial⟩ ?_
      intro ρ9 w9 hN hf hr
      have h16 := hv hf 2 rfl rfl
      obtain ⟨h1, h5, h8, h9, h10, h7⟩ := k6 hr h1 h5 h8 h9 h10 h7 rfl
      have Oo_O5 := O5
      have Hb_b7_n := Hb_b7_.exn hN
      have H_l_ := H_l_.exn hN
      have H_want_ := H_want_.exn hN
      have hW := hW.trans hN
      have O5 := Oo_O5.exn hN
      have Hb_b7_ := Hb_b7_n
      refine WP.cond rfl h16 (fun hb => ?_) (fun hb => ?_)
      · have hF := (if_pos hb).symm.trans hF
        obtain ⟨l, hl, hF⟩ := obind hF
        refine WP.region mixed [[], [], [1], [0, 1, 2], [0, 3]] [[], [], [1], [0, 2], [3]] [[5], [7], [], [], []] [3] [] [val 17 (v5_), val 18 (api_Fact.val y), (19, fun u wz => ∃ b, u = .slice (some ⟨b, 0, none⟩) 1 1 ∧ w9.heap.size ≤ b ∧ Mb wz b 38 (([y]).flatMap api_Fact.cells)), (20, fun u wz => Own w0.heap.size 38 14 api_Fact.cells wz u l ∧ ∀ b, u.ownBlock = some b → (v5_.ownBlock = some b ∨ w9.heap.size ≤ b)), (5, fun u wz => Own w0.heap.size 38 14 api_Fact.cells wz u l ∧ ∀ b, u.ownBlock = some b → (v5_.ownBlock = some b ∨ w9.heap.size ≤ b))] (fun b => Value.ownBlock v5_ = some b) (by kernel_rfl) ⟨sV, sV, fun _ _ _ hE ⟨b, hz, hs, hM⟩ => ⟨b, hz, hs, hM.ext hE (fun hg => absurd (O5.lt hg).2 (Nat.not_lt.2 hs))⟩, fun _ _ _ hE ⟨hO, hf⟩ => ⟨hO.exn hE, hf⟩, fun _ _ _ hE ⟨hO, hf⟩ => ⟨hO.exn hE, hf⟩, trivial⟩ ⟨mE rfl rfl h5,
 fun ρz wz hE hA ⟨e7, _⟩ _ => core_val rfl rfl (o_load (e7.trans h7) (run_loadN (cs := (api_Fact.cells y)) (lr_38 _ _) rfl ((Hb_b7_.exn (hA rfl)).ca))),
 fun ρz wz hE hA _ ⟨u1, _⟩ => core_slice rfl rfl hE (o_buildSlice (build_parts1 u1) (bs_24_1 _ _)),
 fun ρz wz hE hA _ ⟨u0, ⟨bz2, hzn2, hge2, hM2⟩, _⟩ => core_append (n := 14) (cells := api_Fact.cells) (B := w0.heap.size) (w0 := w9) rfl rfl (fun b hb => hb) u0 hzn2 (fun _ => rfl) one_38 si_24 se_38 (by decide) (by decide) (O5.exn (hA rfl)) ⟨_, (Mb.rep (n := 14) (cells := api_Fact.cells) (hn := fun _ => rfl) (G := noG) hM2 rfl (Nat.le_of_ble_eq_true rfl) (fun h => h))⟩ hl (Nat.le_trans hW.size hE.size) hE.size (fun v1 w1 h1 h2 => ⟨h1, h2⟩),
 fun ρz wz hE hA _ ⟨⟨hO3, hfr3⟩, _⟩ => core_copy rfl rfl (o_assign rfl) ⟨hO3, hfr3⟩, trivial⟩ ?_
        intro ρ10 w10 hE hN hf hr
        obtain ⟨v5_3, h5⟩ : ∃ v, ρ10 5 = v := ⟨_, rfl⟩
        have hq5 : (fun u wz => Own w0.heap.size 38 14 api_Fact.cells wz u l ∧ ∀ b, u.ownBlock = some b → (v5_.ownBlock = some b ∨ w9.heap.size ≤ b)) (ρ10 5) w10 := hf 4 rfl
        rw [h5] at hq5
        obtain ⟨hq5, hfr5⟩ := hq5
        obtain ⟨h1, h8, h9, h10⟩ := k4 hr h1 h8 h9 h10 rfl
        have Oo_O5 := O5
        have H_l_ := H_l_.over hE (fun b hb => (Oo_O5.lt hb).1)
        have H_want_ := H_want_.over hE (fun b hb => (Oo_O5.lt hb).1)
        have hW := Ext.own hW hE (fun b hb => (Oo_O5.lt hb).1)
        have O5 := hq5
        exact ⟨l, v5_3, h1, h5, h8, h9, h10, H_l_, H_want_, O5, hW, hF⟩
      have hF := (if_neg (Bool.eq_false_iff.1 hb)).symm.trans hF
      refine WP.skip ?_
      exact ⟨out_, v5_, h1, h5, h8, h9, h10, H_l_, H_want_, O5, hW, hF⟩
    rintro ρ6 w6 ⟨out_2, v5_2, h1, h5, h8, h9, h10, H_l_, H_want_, O5, hW, hF⟩
    rw [career_filter_j] at hF
    refine WP.rb mixed [[], [0]] [[10], []] [(21, .int .i64 (i64 (x + 1))), (10, .int .i64 (i64 (x + 1)))] (by kernel_rfl) ⟨fun ρz wz hE hA ⟨e10, _⟩ _ => core_val rfl rfl (o_add (e10.trans h10) rfl rfl),
 mU rfl rfl rfl, trivial⟩ ?_
    intro ρ7 w7 hN hf hr
    have h10 := hv hf 1 rfl rfl
    obtain ⟨h1, h5, h8, h9⟩ := k4 hr h1 h5 h8 h9 rfl
    have Oo_O5 := O5
    have H_l_ := H_l_.exn hN
    have H_want_ := H_want_.exn hN
    have hW := hW.trans hN
    have O5 := Oo_O5.exn hN
    exact ⟨out_2, i64 (x + 1), v5_2, h1, h5, h8, h9, h10, H_l_, H_want_, O5, hW, (by first | exact hF | (rw [hrec_]; exact hF))⟩
  have hF := (if_neg (Bool.eq_false_iff.1 hb)).symm.trans hF
  refine WP.exit (thenQ_exit (thenQ_exit (blockQ_hit (WP.seq (WP.rb mixed [[], [0]] [[5], []] [(22, v5_), (4, v5_)] (by kernel_rfl) ⟨mE rfl rfl h5,
 aU rfl rfl rfl, trivial⟩ ?_)))))
  intro ρ11 w11 hN hf hr
  have h4 := hv hf 1 rfl rfl
  have Oo_O5 := O5
  have hW := hW.trans hN
  have O4 := Oo_O5.exn hN
  refine WP.ret ?_
  show retQ Tryz.prog 23 Tryz.f37 (fun v w1 => Own w0.heap.size 38 14 api_Fact.cells w1 v r ∧ Ext noG w0 w1) .ret ρ11 w11
  obtain rfl := Option.some.inj hF
  exact res1 rfl (by decide) h4 ⟨O4, hW⟩

set_option maxHeartbeats 4000000 in
theorem career_current_ok {w0 : World} (f_ : api_Fact) {r : Bool} (hF : career_current f_ = some r) :
    Calls Tryz.prog 36 #[api_Fact.val f_] w0 fun e w1 => e = .returned (.bool r) ∧ Ext noG w0 w1 := by
  refine (Calls.start (P := Tryz.prog) (args := [api_Fact.val f_]) (R := fun v w1 => v = .bool r ∧ Ext noG w0 w1) (n := 10) (w := w0) Tryz.func36 rfl rfl (Nat.le_of_ble_eq_true rfl) (fun ρ hargs => ?_)).mono (fun e w1 ⟨v, he, hv, hE⟩ => ⟨hv ▸ he, hE⟩)
  have h0 := hargs 0 _ rfl
  have hW := Ext.refl noG w0
  rw [career_current] at hF
  refine WP.seq (WP.rg mixed [[], []] [[], []] [[0], []] [(1, fun u wz => ∃ b, u = .pointer (some ⟨b, 0, none⟩) ∧ w0.heap.size ≤ b ∧ Mb wz b 38 (api_Fact.cells f_)), val 2 (.bool false)] (by kernel_rfl) ⟨fun _ _ _ hE ⟨b, hb, hs, hM⟩ => ⟨b, hb, hs, hM.exn hE⟩, sV, trivial⟩ ⟨fun ρz wz hE hA ⟨e0, _⟩ _ => core_new rfl rfl hE (o_box (e0.trans h0) (bx_38 _ _)),
 aC rfl rfl (fun _ => rfl), trivial⟩ ?_)
  intro ρ1 w1 hN hf hr
  obtain ⟨b1_, h1, hge_b1_, Hb_b1_⟩ := hf 0 rfl
  have hB_b1_ : w0.heap.size ≤ b1_ := Nat.le_trans hW.size hge_b1_
  have hW := hW.trans hN
  refine WP.seq ?_
  obtain ⟨z, hz, hF⟩ := obind hF
  refine WP.rb mixed [[], [0], [1], [2], [2, 3], [2, 4], [2, 5], [6]] [[1], [], [], [1], [], [], [], []] [(3, api_Fact.val f_), (4, .bool z), (5, .bool z), (6, gv (z) (.pointer (some ((⟨b1_, 0, none⟩ : Addr).add 3)))), (7, gv (z) (.bool f_.Withdrawn)), (8, gv (z) (.bool (!f_.Withdrawn))), (9, .bool (z && (!f_.Withdrawn))), (2, .bool (z && (!f_.Withdrawn)))] (by kernel_rfl) ⟨fun ρz wz hE hA ⟨e1, _⟩ _ => core_val rfl rfl (o_load (e1.trans h1) (run_loadN (cs := (api_Fact.cells f_)) (lr_38 _ _) rfl ((Hb_b1_.exn (hA rfl)).ca))),
 fun ρz wz hE hA _ ⟨u0, _⟩ => core_call rfl (call_args1 u0) cf_64 (fact_Valid_ok  _  hz),
 mU rfl rfl rfl,
 fun ρz wz hE hA ⟨e1, _⟩ ⟨u2, _⟩ => gIf rfl rfl (yT rfl u2) fun gc F hF => core_val rfl hF (o_fieldAddr (e1.trans h1) (fa_38_3 _ _)),
 fun ρz wz hE hA _ ⟨u2, u3, _⟩ => gIf rfl rfl (yT rfl u2) fun gc F hF => core_val rfl hF (o_load (gt gc u3) (run_load1 (lr_4 _ _) (CA.sub ((Hb_b1_.exn (hA rfl)).ca) 3 1))),
 fun ρz wz hE hA _ ⟨u2, u4, _⟩ => gIf rfl rfl (yT rfl u2) fun gc F hF => core_val rfl hF (o_not (gt gc u4) rfl),
 fun ρz wz hE hA _ ⟨u2, u5, _⟩ => core_val rfl rfl (o_pick_and u2 u5 rfl),
 aU rfl rfl rfl, trivial⟩ ?_
  intro ρ2 w2 hN hf hr
  have h2 := hv hf 7 rfl rfl
  have hW := hW.trans hN
  refine WP.ret ?_
  show retQ Tryz.prog 10 Tryz.f36 (fun v w1 => v = .bool r ∧ Ext noG w0 w1) .ret ρ2 w2
  obtain rfl := Option.some.inj hF
  exact res1 rfl (by decide) h2 ⟨rfl, hW⟩

set_option maxHeartbeats 4000000 in
theorem career_Current_ok {w0 : World} (l_ : List api_Fact) {v_l_ : Value} (H_l_ : RepSl api_Fact.R noG w0 v_l_ l_) {r : (List api_Fact)} (hF : career_Current l_ = some r) :
    Calls Tryz.prog 29 #[v_l_] w0 fun e w1 => ∃ v, e = .returned v ∧ Ext noG w0 w1 ∧ Own w0.heap.size 38 14 api_Fact.cells w1 v r := by
  refine (Calls.start (P := Tryz.prog) (args := [v_l_]) (R := fun v w1 => Own w0.heap.size 38 14 api_Fact.cells w1 v r ∧ Ext noG w0 w1) (n := 5) (w := w0) Tryz.func29 rfl rfl (Nat.le_of_ble_eq_true rfl) (fun ρ hargs => ?_)).mono (fun e w1 ⟨v, he, hv, hE⟩ => ⟨v, he, hE, hv⟩)
  have h0 := hargs 0 _ rfl
  have hW := Ext.refl noG w0
  obtain ⟨_, _, hs_H_l_, _, _⟩ := RepSl.shape H_l_
  have H_l_ := H_l_.start
  rw [career_Current] at hF
  refine WP.seq (WP.rb mixed [[]] [[]] [(2, .slice none 0 0)] (by kernel_rfl) ⟨aC rfl rfl (fun _ => rfl), trivial⟩ ?_)
  intro ρ1 w1 hN hf hr
  have h0 := (hr 0 rfl).trans h0
  have H_l_ := H_l_.exn hN
  have hW := hW.trans hN
  refine WP.seq ?_
  obtain ⟨z, hz, hF⟩ := obind hF
  refine WP.rg mixed [[], [0], [1]] [[], [0], [1]] [[0], [], []] [val 3 (v_l_), (4, fun u wz => Own w0.heap.size 38 14 api_Fact.cells wz u z ∧ ∀ b, u.ownBlock = some b → w1.heap.size ≤ b), (2, fun u wz => Own w0.heap.size 38 14 api_Fact.cells wz u z ∧ ∀ b, u.ownBlock = some b → w1.heap.size ≤ b)] (by kernel_rfl) ⟨sV, fun _ _ _ hE ⟨hO, hf⟩ => ⟨hO.exn hE, hf⟩, fun _ _ _ hE ⟨hO, hf⟩ => ⟨hO.exn hE, hf⟩, trivial⟩ ⟨mE rfl rfl h0,
 fun ρz wz hE hA _ ⟨u0, _⟩ => core_callR rfl (call_args2 u0 rfl) cf_37 ((career_filter_ok  _ _ (H_l_.exn (hA rfl)).no (FnR.mk (V := fnV_65) (W := fnW_65) (G := noG) (cap := []) cf_36 (fun w' hE' x r hr => career_current_ok _   hr)) hz).mono (fun e w1 ⟨v, he, hE1, hO⟩ => ⟨v, he, hE1, hO.base (Nat.le_trans hW.size hE.size), fun b hb => Nat.le_trans hE.size (hO.lt hb).1⟩)),
 fun ρz wz hE hA _ ⟨⟨hO1, hfr1⟩, _⟩ => core_copy rfl rfl (o_assign rfl) ⟨hO1, hfr1⟩, trivial⟩ ?_
  intro ρ2 w2 hN hf hr
  obtain ⟨v2_, h2⟩ : ∃ v, ρ2 2 = v := ⟨_, rfl⟩
  have hq2 : (fun u wz => Own w0.heap.size 38 14 api_Fact.cells wz u z ∧ ∀ b, u.ownBlock = some b → w1.heap.size ≤ b) (ρ2 2) w2 := hf 2 rfl
  rw [h2] at hq2
  obtain ⟨hq2, hfr2⟩ := hq2
  have hW := hW.trans hN
  have O2 := hq2
  refine WP.ret ?_
  show retQ Tryz.prog 5 Tryz.f29 (fun v w1 => Own w0.heap.size 38 14 api_Fact.cells w1 v r ∧ Ext noG w0 w1) .ret ρ2 w2
  obtain rfl := Option.some.inj hF
  exact res1 rfl (by decide) h2 ⟨O2, hW⟩

set_option maxHeartbeats 4000000 in
theorem family_facts_ok {w0 : World} (l_ : List api_Fact) {v_l_ : Value} (H_l_ : RepSl api_Fact.R noG w0 v_l_ l_) {r : (List api_Fact)} (hF : family_facts l_ = some r) :
    Calls Tryz.prog 15 #[v_l_] w0 fun e w1 => ∃ v, e = .returned v ∧ Ext noG w0 w1 ∧ Own w0.heap.size 38 14 api_Fact.cells w1 v r := by
  refine (Calls.start (P := Tryz.prog) (args := [v_l_]) (R := fun v w1 => Own w0.heap.size 38 14 api_Fact.cells w1 v r ∧ Ext noG w0 w1) (n := 6) (w := w0) Tryz.func15 rfl rfl (Nat.le_of_ble_eq_true rfl) (fun ρ hargs => ?_)).mono (fun e w1 ⟨v, he, hv, hE⟩ => ⟨v, he, hE, hv⟩)
  have h0 := hargs 0 _ rfl
  have hW := Ext.refl noG w0
  obtain ⟨_, _, hs_H_l_, _, _⟩ := RepSl.shape H_l_
  have H_l_ := H_l_.start
  rw [family_facts] at hF
  refine WP.seq (WP.rb mixed [[]] [[]] [(2, .slice none 0 0)] (by kernel_rfl) ⟨aC rfl rfl (fun _ => rfl), trivial⟩ ?_)
  intro ρ1 w1 hN hf hr
  have h0 := (hr 0 rfl).trans h0
  have H_l_ := H_l_.exn hN
  have hW := hW.trans hN
  refine WP.seq ?_
  obtain ⟨z, hz, hF⟩ := obind hF
  obtain ⟨z2, hz2, hF⟩ := obind hF
  refine WP.rg mixed [[], [0], [1], [2]] [[], [0], [1], [2]] [[0], [], [], []] [val 3 (v_l_), (4, fun u wz => Own w0.heap.size 38 14 api_Fact.cells wz u z ∧ ∀ b, u.ownBlock = some b → w1.heap.size ≤ b), (5, fun u wz => Own w0.heap.size 38 14 api_Fact.cells wz u z2 ∧ ∀ b, u.ownBlock = some b → w1.heap.size ≤ b), (2, fun u wz => Own w0.heap.size 38 14 api_Fact.cells wz u z2 ∧ ∀ b, u.ownBlock = some b → w1.heap.size ≤ b)] (by kernel_rfl) ⟨sV, fun _ _ _ hE ⟨hO, hf⟩ => ⟨hO.exn hE, hf⟩, fun _ _ _ hE ⟨hO, hf⟩ => ⟨hO.exn hE, hf⟩, fun _ _ _ hE ⟨hO, hf⟩ => ⟨hO.exn hE, hf⟩, trivial⟩ ⟨mE rfl rfl h0,
 fun ρz wz hE hA _ ⟨u0, _⟩ => core_callR rfl (call_args2 u0 rfl) cf_30 ((career_Merge_ok  _ _ (H_l_.exn (hA rfl)).no (RepSl.nil _ noG _).no hz).mono (fun e w1 ⟨v, he, hE1, hO⟩ => ⟨v, he, hE1, hO.base (Nat.le_trans hW.size hE.size), fun b hb => Nat.le_trans hE.size (hO.lt hb).1⟩)),
 fun ρz wz hE hA _ ⟨⟨hO1, hfr1⟩, _⟩ => core_callR rfl (call_args1 rfl) cf_29 ((career_Current_ok  _ (hO1.rep (hn := fun _ => rfl) (G := noG) (fun _ _ h => h)).no hz2).mono (fun e w1 ⟨v, he, hE1, hO⟩ => ⟨v, he, hE1, hO.base (Nat.le_trans hW.size hE.size), fun b hb => Nat.le_trans hE.size (hO.lt hb).1⟩)),
 fun ρz wz hE hA _ ⟨⟨hO2, hfr2⟩, _⟩ => core_copy rfl rfl (o_assign rfl) ⟨hO2, hfr2⟩, trivial⟩ ?_
  intro ρ2 w2 hN hf hr
  obtain ⟨v2_, h2⟩ : ∃ v, ρ2 2 = v := ⟨_, rfl⟩
  have hq2 : (fun u wz => Own w0.heap.size 38 14 api_Fact.cells wz u z2 ∧ ∀ b, u.ownBlock = some b → w1.heap.size ≤ b) (ρ2 2) w2 := hf 3 rfl
  rw [h2] at hq2
  obtain ⟨hq2, hfr2⟩ := hq2
  have hW := hW.trans hN
  have O2 := hq2
  refine WP.ret ?_
  show retQ Tryz.prog 6 Tryz.f15 (fun v w1 => Own w0.heap.size 38 14 api_Fact.cells w1 v r ∧ Ext noG w0 w1) .ret ρ2 w2
  obtain rfl := Option.some.inj hF
  exact res1 rfl (by decide) h2 ⟨O2, hW⟩

set_option maxHeartbeats 4000000 in
theorem career_Of_1_ok {w0 : World} (f_ : api_Fact) (c_ : Int) {bc1_ : Nat} (Hb_bc1_ : Mb w0 bc1_ 3 [Value.int .i64 c_]) {r : Bool} (hF : career_Of_1 f_ c_ = some r) :
    Calls Tryz.prog 38 #[api_Fact.val f_, .pointer (some ⟨bc1_, 0, none⟩)] w0 fun e w1 => e = .returned (.bool r) ∧ Ext noG w0 w1 := by
  refine (Calls.start (P := Tryz.prog) (args := [api_Fact.val f_, .pointer (some ⟨bc1_, 0, none⟩)]) (R := fun v w1 => v = .bool r ∧ Ext noG w0 w1) (n := 8) (w := w0) Tryz.func38 rfl rfl (Nat.le_of_ble_eq_true rfl) (fun ρ hargs => ?_)).mono (fun e w1 ⟨v, he, hv, hE⟩ => ⟨hv ▸ he, hE⟩)
  have h0 := hargs 0 _ rfl
  have h1 := hargs 1 _ rfl
  have hW := Ext.refl noG w0
  rw [career_Of_1] at hF
  refine WP.seq (WP.rg mixed [[], []] [[], []] [[0], []] [(2, fun u wz => ∃ b, u = .pointer (some ⟨b, 0, none⟩) ∧ w0.heap.size ≤ b ∧ Mb wz b 38 (api_Fact.cells f_)), val 3 (.bool false)] (by kernel_rfl) ⟨fun _ _ _ hE ⟨b, hb, hs, hM⟩ => ⟨b, hb, hs, hM.exn hE⟩, sV, trivial⟩ ⟨fun ρz wz hE hA ⟨e0, _⟩ _ => core_new rfl rfl hE (o_box (e0.trans h0) (bx_38 _ _)),
 aC rfl rfl (fun _ => rfl), trivial⟩ ?_)
  intro ρ1 w1 hN hf hr
  obtain ⟨b2_, h2, hge_b2_, Hb_b2_⟩ := hf 0 rfl
  have h1 := (hr 1 rfl).trans h1
  have Hb_bc1_n := Hb_bc1_.exn hN
  have hB_b2_ : w0.heap.size ≤ b2_ := Nat.le_trans hW.size hge_b2_
  have hW := hW.trans hN
  have Hb_bc1_ := Hb_bc1_n
  refine WP.seq (WP.rb mixed [[], [0], [], [1, 2], [3]] [[2], [], [1], [], []] [(4, .pointer (some ((⟨b2_, 0, none⟩ : Addr).add 4))), (5, .int .i64 f_.Person), (6, .int .i64 c_), (7, .bool (f_.Person == c_)), (3, .bool (f_.Person == c_))] (by kernel_rfl) ⟨fun ρz wz hE hA ⟨e2, _⟩ _ => core_val rfl rfl (o_fieldAddr (e2.trans h2) (fa_38_4 _ _)),
 fun ρz wz hE hA _ ⟨u0, _⟩ => core_val rfl rfl (o_load u0 (run_load1 (lr_3 _ _) (CA.sub ((Hb_b2_.exn (hA rfl)).ca) 4 1))),
 fun ρz wz hE hA ⟨e1, _⟩ _ => core_val rfl rfl (o_load (e1.trans h1) (run_load1 (lr_3 _ _) ((Hb_bc1_.exn (hA rfl)).ca))),
 fun ρz wz hE hA _ ⟨u1, u2, _⟩ => core_val rfl rfl (o_eql u1 u2 rfl),
 aU rfl rfl rfl, trivial⟩ ?_)
  intro ρ2 w2 hN hf hr
  have h3 := hv hf 4 rfl rfl
  have hW := hW.trans hN
  refine WP.ret ?_
  show retQ Tryz.prog 8 Tryz.f38 (fun v w1 => v = .bool r ∧ Ext noG w0 w1) .ret ρ2 w2
  obtain rfl := Option.some.inj hF
  exact res1 rfl (by decide) h3 ⟨rfl, hW⟩

set_option maxHeartbeats 4000000 in
theorem career_Of_ok {w0 : World} (l_ : List api_Fact) (person_ : Int) {v_l_ : Value} (H_l_ : RepSl api_Fact.R noG w0 v_l_ l_) {r : (List api_Fact)} (hF : career_Of l_ person_ = some r) :
    Calls Tryz.prog 18 #[v_l_, .int .i64 person_] w0 fun e w1 => ∃ v, e = .returned v ∧ Ext noG w0 w1 ∧ Own w0.heap.size 38 14 api_Fact.cells w1 v r := by
  refine (Calls.start (P := Tryz.prog) (args := [v_l_, .int .i64 person_]) (R := fun v w1 => Own w0.heap.size 38 14 api_Fact.cells w1 v r ∧ Ext noG w0 w1) (n := 8) (w := w0) Tryz.func18 rfl rfl (Nat.le_of_ble_eq_true rfl) (fun ρ hargs => ?_)).mono (fun e w1 ⟨v, he, hv, hE⟩ => ⟨v, he, hE, hv⟩)
  have h0 := hargs 0 _ rfl
  have h1 := hargs 1 _ rfl
  have hW := Ext.refl noG w0
  obtain ⟨_, _, hs_H_l_, _, _⟩ := RepSl.shape H_l_
  have H_l_ := H_l_.start
  rw [career_Of] at hF
  refine WP.seq (WP.rg mixed [[], []] [[], []] [[1], []] [(3, fun u wz => ∃ b, u = .pointer (some ⟨b, 0, none⟩) ∧ w0.heap.size ≤ b ∧ Mb wz b 3 [Value.int .i64 person_]), val 4 (.slice none 0 0)] (by kernel_rfl) ⟨fun _ _ _ hE ⟨b, hb, hs, hM⟩ => ⟨b, hb, hs, hM.exn hE⟩, sV, trivial⟩ ⟨fun ρz wz hE hA ⟨e1, _⟩ _ => core_new rfl rfl hE (o_box (e1.trans h1) (bx_3 _ _)),
 aC rfl rfl (fun _ => rfl), trivial⟩ ?_)
  intro ρ1 w1 hN hf hr
  obtain ⟨b3_, h3, hge_b3_, Hb_b3_⟩ := hf 0 rfl
  have h0 := (hr 0 rfl).trans h0
  have H_l_ := H_l_.exn hN
  have hB_b3_ : w0.heap.size ≤ b3_ := Nat.le_trans hW.size hge_b3_
  have hW := hW.trans hN
  refine WP.seq ?_
  obtain ⟨z, hz, hF⟩ := obind hF
  refine WP.rg mixed [[], [], [0, 1], [2]] [[], [], [0, 1], [2]] [[0], [3], [], []] [val 5 (v_l_), val 6 (.func (.func 38) #[] #[.pointer (some ⟨b3_, 0, none⟩)]), (7, fun u wz => Own w0.heap.size 38 14 api_Fact.cells wz u z ∧ ∀ b, u.ownBlock = some b → w1.heap.size ≤ b), (4, fun u wz => Own w0.heap.size 38 14 api_Fact.cells wz u z ∧ ∀ b, u.ownBlock = some b → w1.heap.size ≤ b)] (by kernel_rfl) ⟨sV, sV, fun _ _ _ hE ⟨hO, hf⟩ => ⟨hO.exn hE, hf⟩, fun _ _ _ hE ⟨hO, hf⟩ => ⟨hO.exn hE, hf⟩, trivial⟩ ⟨mE rfl rfl h0,
 fun ρz wz hE hA ⟨e3, _⟩ _ => core_val rfl rfl (o_makeFunc (call_args1 (e3.trans h3))),
 fun ρz wz hE hA _ ⟨u0, u1, _⟩ => core_callR rfl (call_args2 u0 u1) cf_37 ((career_filter_ok  _ _ (H_l_.exn (hA rfl)).no (FnR.mk (V := fnV_65) (W := fnW_65) (G := noG) (cap := [.pointer (some ⟨b3_, 0, none⟩)]) cf_38 (fun w' hE' x r hr => career_Of_1_ok _ _ ((Hb_b3_.exn (hA rfl)).exn hE') hr)) hz).mono (fun e w1 ⟨v, he, hE1, hO⟩ => ⟨v, he, hE1, hO.base (Nat.le_trans hW.size hE.size), fun b hb => Nat.le_trans hE.size (hO.lt hb).1⟩)),
 fun ρz wz hE hA _ ⟨⟨hO2, hfr2⟩, _⟩ => core_copy rfl rfl (o_assign rfl) ⟨hO2, hfr2⟩, trivial⟩ ?_
  intro ρ2 w2 hN hf hr
  obtain ⟨v4_, h4⟩ : ∃ v, ρ2 4 = v := ⟨_, rfl⟩
  have hq4 : (fun u wz => Own w0.heap.size 38 14 api_Fact.cells wz u z ∧ ∀ b, u.ownBlock = some b → w1.heap.size ≤ b) (ρ2 4) w2 := hf 3 rfl
  rw [h4] at hq4
  obtain ⟨hq4, hfr4⟩ := hq4
  have hW := hW.trans hN
  have O4 := hq4
  refine WP.ret ?_
  show retQ Tryz.prog 8 Tryz.f18 (fun v w1 => Own w0.heap.size 38 14 api_Fact.cells w1 v r ∧ Ext noG w0 w1) .ret ρ2 w2
  obtain rfl := Option.some.inj hF
  exact res1 rfl (by decide) h4 ⟨O4, hW⟩

set_option maxHeartbeats 4000000 in
theorem career_first_ok {w0 : World} (l_ : List api_Fact) (kind_ : Int) {v_l_ : Value} (H_l_ : RepSl api_Fact.R noG w0 v_l_ l_) {r : Int × Bool} (hF : career_first l_ kind_ = some r) :
    Calls Tryz.prog 87 #[v_l_, .int .i64 kind_] w0 fun e w1 => e = .returned (.tuple #[.int .i64 r.1, .bool r.2]) ∧ Ext noG w0 w1 := by
  refine (Calls.start (P := Tryz.prog) (args := [v_l_, .int .i64 kind_]) (R := fun v w1 => v = .tuple #[.int .i64 r.1, .bool r.2] ∧ Ext noG w0 w1) (n := 41) (w := w0) Tryz.func87 rfl rfl (Nat.le_of_ble_eq_true rfl) (fun ρ hargs => ?_)).mono (fun e w1 ⟨v, he, hv, hE⟩ => ⟨hv ▸ he, hE⟩)
  have h0 := hargs 0 _ rfl
  have h1 := hargs 1 _ rfl
  have hW := Ext.refl noG w0
  obtain ⟨_, _, hs_H_l_, _, _⟩ := RepSl.shape H_l_
  have H_l_ := H_l_.start
  rw [career_first] at hF
  refine WP.seq (WP.rb mixed [[], []] [[], []] [(4, .int .i64 0), (5, .bool false)] (by kernel_rfl) ⟨aC rfl rfl (fun _ => rfl),
 aC rfl rfl (fun _ => rfl), trivial⟩ ?_)
  intro ρ1 w1 hN hf hr
  obtain ⟨h0, h1⟩ := k2 hr h0 h1 rfl
  have H_l_ := H_l_.exn hN
  have hW := hW.trans hN
  refine WP.seq (WP.rb mixed [[], []] [[], []] [(6, .int .i64 0), (7, .bool false)] (by kernel_rfl) ⟨aC rfl rfl (fun _ => rfl),
 aC rfl rfl (fun _ => rfl), trivial⟩ ?_)
  intro ρ2 w2 hN hf hr
  have h6 := hv hf 0 rfl rfl
  have h7 := hv hf 1 rfl rfl
  obtain ⟨h0, h1⟩ := k2 hr h0 h1 rfl
  have H_l_ := H_l_.exn hN
  have hW := hW.trans hN
  refine WP.seq (WP.seq (WP.rb mixed [[], [0], []] [[0], [], []] [(10, v_l_), (11, .int .i64 (l_.length : Int)), (12, .int .i64 0)] (by kernel_rfl) ⟨mE rfl rfl h0,
 fun ρz wz hE hA _ ⟨u0, _⟩ => core_val rfl rfl (o_len (u0.trans hs_H_l_) len_24),
 mC rfl rfl (fun _ => rfl), trivial⟩ ?_))
  intro ρ3 w3 hN hf hr
  have h10 := hv hf 0 rfl rfl
  have h11 := hv hf 1 rfl rfl
  have h12 := hv hf 2 rfl rfl
  obtain ⟨h1, h6, h7⟩ := k3 hr h1 h6 h7 rfl
  have H_l_ := H_l_.exn hN
  have hW := hW.trans hN
  refine WP.block (WP.loop (fun k_ ρ w => ∃ day_ : Int, ∃ ok_ : Bool, ∃ x : Int, ρ 1 = .int .i64 kind_ ∧ ρ 6 = .int .i64 day_ ∧ ρ 7 = .bool ok_ ∧ ρ 10 = v_l_ ∧ ρ 11 = .int .i64 (l_.length : Int) ∧ ρ 12 = .int .i64 x ∧ RepSl api_Fact.R (gfr noG w0) w v_l_ l_ ∧ Ext noG w0 w ∧ loopC k_ (career_first_l l_ kind_) (day_, ok_, x) = some r) FU ⟨0, false, 0, h1, h6, h7, h10, h11, h12, H_l_, hW, hF⟩ (fun _ _ h => by obtain ⟨_, _, _, _, _, _, _, _, _, _, _, h⟩ := h; cases h) ?_)
  rintro k_ ρ4 w4 ⟨day_, ok_, x, h1, h6, h7, h10, h11, h12, H_l_, hW, hF⟩
  have hF : career_first_l l_ kind_ (loopC k_ (career_first_l l_ kind_)) (day_, ok_, x) = some r := (loopC_succ k_ (career_first_l l_ kind_) (day_, ok_, x)).symm.trans hF
  generalize hrec_ : loopC k_ (career_first_l l_ kind_) = rec_ at hF
  rw [career_first_l] at hF
  refine WP.seq (WP.rb mixed [[]] [[12, 11]] [(13, .bool (decide (x < (l_.length : Int))))] (by kernel_rfl) ⟨fun ρz wz hE hA ⟨e12, e11, _⟩ _ => core_val rfl rfl (o_lss (e12.trans h12) (e11.trans h11) rfl), trivial⟩ ?_)
  intro ρ5 w5 hN hf hr
  have h13 := hv hf 0 rfl rfl
  obtain ⟨h1, h6, h7, h10, h11, h12⟩ := k6 hr h1 h6 h7 h10 h11 h12 rfl
  have H_l_ := H_l_.exn hN
  have hW := hW.trans hN
  refine WP.seq (WP.cond rfl h13 (fun hb => ?_) (fun hb => ?_))
  · have hF := (if_pos hb).symm.trans hF
    refine WP.skip (WP.seqJ (fun ρ w => ∃ day_2 : Int, ∃ ok_2 : Bool, ρ 1 = .int .i64 kind_ ∧ ρ 6 = .int .i64 day_2 ∧ ρ 7 = .bool ok_2 ∧ ρ 10 = v_l_ ∧ ρ 11 = .int .i64 (l_.length : Int) ∧ ρ 12 = .int .i64 x ∧ RepSl api_Fact.R (gfr noG w0) w v_l_ l_ ∧ Ext noG w0 w ∧ career_first_j x rec_ day_2 ok_2 = some r) ?_ ?_)
    · refine WP.block (WP.seq ?_)
      obtain ⟨y, hy, hF⟩ := obind hF
      obtain ⟨ay, cy, hvy, hiy, hAy⟩ := RepSl.getF H_l_ hy
      refine WP.region mixed [[], [0], [], [1, 2]] [[], [0], [], [1, 2]] [[10, 12], [], [], []] [3] [(2, 3)] [val 14 (.pointer (some (ay.add (Int.toNat x * 14)))), val 15 (api_Fact.val y), (9, fun u wz => ∃ b, u = .pointer (some ⟨b, 0, none⟩) ∧ w5.heap.size ≤ b ∧ Mb wz b 38 (api_Fact.cells (⟨0, 0, 0, false, 0, 0, 0, (⟨0, 0⟩ : Span), 0, 0, 0, 0, 0⟩ : api_Fact))), (9, fun u wz => ∃ b, u = .pointer (some ⟨b, 0, none⟩) ∧ w5.heap.size ≤ b ∧ Mb wz b 38 (api_Fact.cells y))] (fun b => w5.heap.size ≤ b) (by kernel_rfl) ⟨sV, sV, fun _ _ _ hE ⟨b, hb, hs, hM⟩ => ⟨b, hb, hs, hM.exn hE⟩, fun _ _ _ hE ⟨b, hb, hs, hM⟩ => ⟨b, hb, hs, hM.exn hE⟩, trivial⟩ ⟨fun ρz wz hE hA ⟨e10, e12, _⟩ _ => core_val rfl rfl (o_indexAddr ((e10.trans h10).trans hvy) (e12.trans h12) (ia_24 hiy)),
 fun ρz wz hE hA _ ⟨u0, _⟩ => core_val rfl rfl (o_load u0 (run_loadN (cs := (api_Fact.cells y)) (lr_38 _ _) rfl ((hAy.exn hE.fresh).ca))),
 fun ρz wz hE hA _ _ => core_new rfl rfl hE (o_alloc (al_38 _)),
 fun ρz wz hE hA _ ⟨u1, u2, _⟩ => core_storeNew rfl rfl rfl rfl u1 u2 (fun a w => st_38 _ a w) rfl (one_38 _), trivial⟩ ?_
      intro ρ8 w8 hE hN hf hr
      have hN := hE.fresh
      obtain ⟨b9_, h9, hge_b9_, Hb_b9_⟩ := hf 3 rfl
      obtain ⟨h1, h6, h7, h10, h11, h12⟩ := k6 hr h1 h6 h7 h10 h11 h12 rfl
      have H_l_ := H_l_.exn hN
      have hB_b9_ : w0.heap.size ≤ b9_ := Nat.le_trans hW.size hge_b9_
      have hW := hW.trans hN
      refine WP.seq ?_
      obtain ⟨z, hz, hF⟩ := obind hF
      refine WP.rb mixed [[], [0], [1], [2], [2, 3], [2], [2, 4, 5], [2, 6], [7], [8], [8, 9], [8, 10], [11], [11, 12], [11, 13], [11], [11, 14, 15], [8, 11, 16], [8, 17]] [[9], [], [], [9], [], [1], [], [], [], [7], [], [], [9], [], [], [6], [], [], []] [(16, api_Fact.val y), (17, .bool z), (18, .bool z), (19, gv (z) (.pointer (some ((⟨b9_, 0, none⟩ : Addr).add 5)))), (20, gv (z) (.int .i64 y.Kind)), (21, gv (z) (.int .i64 kind_)), (22, gv (z) (.bool (y.Kind == kind_))), (23, .bool (z && (y.Kind == kind_))), (24, .bool (z && (y.Kind == kind_))), (25, gv ((z && (y.Kind == kind_))) (.bool ok_)), (26, gv ((z && (y.Kind == kind_))) (.bool (!ok_))), (27, gv ((z && (y.Kind == kind_))) (.bool (!ok_))), (28, gv (((z && (y.Kind == kind_))) && !(!ok_)) (.pointer (some ((⟨b9_, 0, none⟩ : Addr).add 7)))), (29, gv (((z && (y.Kind == kind_))) && !(!ok_)) (.pointer (some (((⟨b9_, 0, none⟩ : Addr).add 7).add 0)))), (30, gv (((z && (y.Kind == kind_))) && !(!ok_)) (.int .i64 y.Span.From)), (31, gv (((z && (y.Kind == kind_))) && !(!ok_)) (.int .i64 day_)), (32, gv (((z && (y.Kind == kind_))) && !(!ok_)) (.bool (decide (y.Span.From < day_)))), (33, gv ((z && (y.Kind == kind_))) (.bool ((!ok_) || decide (y.Span.From < day_)))), (34, .bool ((z && (y.Kind == kind_)) && ((!ok_) || decide (y.Span.From < day_))))] (by kernel_rfl) ⟨fun ρz wz hE hA ⟨e9, _⟩ _ => core_val rfl rfl (o_load (e9.trans h9) (run_loadN (cs := (api_Fact.cells y)) (lr_38 _ _) rfl ((Hb_b9_.exn (hA rfl)).ca))),
 fun ρz wz hE hA _ ⟨u0, _⟩ => core_call rfl (call_args1 u0) cf_36 (career_current_ok  _  hz),
 mU rfl rfl rfl,
 fun ρz wz hE hA ⟨e9, _⟩ ⟨u2, _⟩ => gIf rfl rfl (yT rfl u2) fun gc F hF => core_val rfl hF (o_fieldAddr (e9.trans h9) (fa_38_5 _ _)),
 fun ρz wz hE hA _ ⟨u2, u3, _⟩ => gIf rfl rfl (yT rfl u2) fun gc F hF => core_val rfl hF (o_load (gt gc u3) (run_load1 (lr_3 _ _) (CA.sub ((Hb_b9_.exn (hA rfl)).ca) 5 1))),
 fun ρz wz hE hA ⟨e1, _⟩ ⟨u2, _⟩ => gIf rfl rfl (yT rfl u2) fun gc F hF => core_val rfl hF (o_move (e1.trans h1)),
 fun ρz wz hE hA _ ⟨u2, u4, u5, _⟩ => gIf rfl rfl (yT rfl u2) fun gc F hF => core_val rfl hF (o_eql (gt gc u4) (gt gc u5) rfl),
 fun ρz wz hE hA _ ⟨u2, u6, _⟩ => core_val rfl rfl (o_pick_and u2 u6 rfl),
 mU rfl rfl rfl,
 fun ρz wz hE hA ⟨e7, _⟩ ⟨u8, _⟩ => gIf rfl rfl (yT rfl u8) fun gc F hF => core_val rfl hF (o_move (e7.trans h7)),
 fun ρz wz hE hA _ ⟨u8, u9, _⟩ => gIf rfl rfl (yT rfl u8) fun gc F hF => core_val rfl hF (o_not (gt gc u9) rfl),
 fun ρz wz hE hA _ ⟨u8, u10, _⟩ => gIf rfl rfl (yT rfl u8) fun gc F hF => core_val rfl hF (o_move (gt gc u10)),
 fun ρz wz hE hA ⟨e9, _⟩ ⟨u11, _⟩ => gIf rfl rfl (yFG rfl u11) fun gc F hF => core_val rfl hF (o_fieldAddr (e9.trans h9) (fa_38_7 _ _)),
 fun ρz wz hE hA _ ⟨u11, u12, _⟩ => gIf rfl rfl (yFG rfl u11) fun gc F hF => core_val rfl hF (o_fieldAddr (gt gc u12) (fa_36_0 _ _)),
 fun ρz wz hE hA _ ⟨u11, u13, _⟩ => gIf rfl rfl (yFG rfl u11) fun gc F hF => core_val rfl hF (o_load (gt gc u13) (run_load1 (lr_3 _ _) (CA.sub (CA.sub ((Hb_b9_.exn (hA rfl)).ca) 7 2) 0 1))),
 fun ρz wz hE hA ⟨e6, _⟩ ⟨u11, _⟩ => gIf rfl rfl (yFG rfl u11) fun gc F hF => core_val rfl hF (o_move (e6.trans h6)),
 fun ρz wz hE hA _ ⟨u11, u14, u15, _⟩ => gIf rfl rfl (yFG rfl u11) fun gc F hF => core_val rfl hF (o_lss (gt gc u14) (gt gc u15) rfl),
 fun ρz wz hE hA _ ⟨u8, u11, u16, _⟩ => gIf rfl rfl (yT rfl u8) fun gc F hF => core_val rfl hF (o_pick_or (gt gc u11) rfl (gr gc u16)),
 fun ρz wz hE hA _ ⟨u8, u17, _⟩ => core_val rfl rfl (o_pick_and u8 u17 rfl), trivial⟩ ?_
      intro ρ9 w9 hN hf hr
      have h34 := hv hf 18 rfl rfl
      obtain ⟨h1, h6, h7, h10, h11, h12⟩ := k6 hr h1 h6 h7 h10 h11 h12 rfl
      have h9 := (hr 9 rfl).trans h9
      have Hb_b9_n := Hb_b9_.exn hN
      have H_l_ := H_l_.exn hN
      have hW := hW.trans hN
      have Hb_b9_ := Hb_b9_n
      refine WP.cond rfl h34 (fun hb => ?_) (fun hb => ?_)
      · have hF := (if_pos hb).symm.trans hF
        refine WP.rb mixed [[], [0], [1], [2], []] [[9], [], [], [], []] [(35, .pointer (some ((⟨b9_, 0, none⟩ : Addr).add 7))), (36, .pointer (some (((⟨b9_, 0, none⟩ : Addr).add 7).add 0))), (37, .int .i64 y.Span.From), (6, .int .i64 y.Span.From), (7, .bool true)] (by kernel_rfl) ⟨fun ρz wz hE hA ⟨e9, _⟩ _ => core_val rfl rfl (o_fieldAddr (e9.trans h9) (fa_38_7 _ _)),
 fun ρz wz hE hA _ ⟨u0, _⟩ => core_val rfl rfl (o_fieldAddr u0 (fa_36_0 _ _)),
 fun ρz wz hE hA _ ⟨u1, _⟩ => core_val rfl rfl (o_load u1 (run_load1 (lr_3 _ _) (CA.sub (CA.sub ((Hb_b9_.exn (hA rfl)).ca) 7 2) 0 1))),
 aU rfl rfl rfl,
 aC rfl rfl (fun _ => rfl), trivial⟩ ?_
        intro ρ10 w10 hN hf hr
        have h6 := hv hf 3 rfl rfl
        have h7 := hv hf 4 rfl rfl
        obtain ⟨h1, h10, h11, h12⟩ := k4 hr h1 h10 h11 h12 rfl
        have H_l_ := H_l_.exn hN
        have hW := hW.trans hN
        exact ⟨y.Span.From, true, h1, h6, h7, h10, h11, h12, H_l_, hW, hF⟩
      have hF := (if_neg (Bool.eq_false_iff.1 hb)).symm.trans hF
      refine WP.skip ?_
      exact ⟨day_, ok_, h1, h6, h7, h10, h11, h12, H_l_, hW, hF⟩
    rintro ρ6 w6 ⟨day_2, ok_2, h1, h6, h7, h10, h11, h12, H_l_, hW, hF⟩
    rw [career_first_j] at hF
    refine WP.rb mixed [[], [0]] [[12], []] [(38, .int .i64 (i64 (x + 1))), (12, .int .i64 (i64 (x + 1)))] (by kernel_rfl) ⟨fun ρz wz hE hA ⟨e12, _⟩ _ => core_val rfl rfl (o_add (e12.trans h12) rfl rfl),
 mU rfl rfl rfl, trivial⟩ ?_
    intro ρ7 w7 hN hf hr
    have h12 := hv hf 1 rfl rfl
    obtain ⟨h1, h6, h7, h10, h11⟩ := k5 hr h1 h6 h7 h10 h11 rfl
    have H_l_ := H_l_.exn hN
    have hW := hW.trans hN
    exact ⟨day_2, ok_2, i64 (x + 1), h1, h6, h7, h10, h11, h12, H_l_, hW, (by first | exact hF | (rw [hrec_]; exact hF))⟩
  have hF := (if_neg (Bool.eq_false_iff.1 hb)).symm.trans hF
  refine WP.exit (thenQ_exit (thenQ_exit (blockQ_hit (WP.seq (WP.rb mixed [[], [], [0], [1]] [[6], [7], [], []] [(39, .int .i64 day_), (40, .bool ok_), (4, .int .i64 day_), (5, .bool ok_)] (by kernel_rfl) ⟨mE rfl rfl h6,
 mE rfl rfl h7,
 aU rfl rfl rfl,
 aU rfl rfl rfl, trivial⟩ ?_)))))
  intro ρ11 w11 hN hf hr
  have h4 := hv hf 2 rfl rfl
  have h5 := hv hf 3 rfl rfl
  have hW := hW.trans hN
  refine WP.ret ?_
  show retQ Tryz.prog 41 Tryz.f87 (fun v w1 => v = .tuple #[.int .i64 r.1, .bool r.2] ∧ Ext noG w0 w1) .ret ρ11 w11
  obtain rfl := Option.some.inj hF
  exact res2 rfl (by decide) (by decide) h4 h5 ⟨rfl, hW⟩

set_option maxHeartbeats 4000000 in
theorem career_Death_ok {w0 : World} (l_ : List api_Fact) {v_l_ : Value} (H_l_ : RepSl api_Fact.R noG w0 v_l_ l_) {r : Int × Bool} (hF : career_Death l_ = some r) :
    Calls Tryz.prog 58 #[v_l_] w0 fun e w1 => e = .returned (.tuple #[.int .i64 r.1, .bool r.2]) ∧ Ext noG w0 w1 := by
  refine (Calls.start (P := Tryz.prog) (args := [v_l_]) (R := fun v w1 => v = .tuple #[.int .i64 r.1, .bool r.2] ∧ Ext noG w0 w1) (n := 8) (w := w0) Tryz.func58 rfl rfl (Nat.le_of_ble_eq_true rfl) (fun ρ hargs => ?_)).mono (fun e w1 ⟨v, he, hv, hE⟩ => ⟨hv ▸ he, hE⟩)
  have h0 := hargs 0 _ rfl
  have hW := Ext.refl noG w0
  obtain ⟨_, _, hs_H_l_, _, _⟩ := RepSl.shape H_l_
  have H_l_ := H_l_.start
  rw [career_Death] at hF
  refine WP.seq (WP.rb mixed [[], []] [[], []] [(2, .int .i64 0), (3, .bool false)] (by kernel_rfl) ⟨aC rfl rfl (fun _ => rfl),
 aC rfl rfl (fun _ => rfl), trivial⟩ ?_)
  intro ρ1 w1 hN hf hr
  have h0 := (hr 0 rfl).trans h0
  have H_l_ := H_l_.exn hN
  have hW := hW.trans hN
  refine WP.seq ?_
  obtain ⟨z, hz, hF⟩ := obind hF
  refine WP.rb mixed [[], [0], [1], [1], [2], [3]] [[0], [], [], [], [], []] [(4, v_l_), (5, .tuple #[.int .i64 z.1, .bool z.2]), (6, .int .i64 z.1), (7, .bool z.2), (2, .int .i64 z.1), (3, .bool z.2)] (by kernel_rfl) ⟨mE rfl rfl h0,
 fun ρz wz hE hA _ ⟨u0, _⟩ => core_call rfl (call_args2 u0 rfl) cf_87 (career_first_ok  _ _ (H_l_.exn (hA rfl)).no hz),
 fun ρz wz hE hA _ ⟨u1, _⟩ => core_val rfl rfl (o_extract u1 (by kernel_rfl)),
 fun ρz wz hE hA _ ⟨u1, _⟩ => core_val rfl rfl (o_extract u1 (by kernel_rfl)),
 aU rfl rfl rfl,
 aU rfl rfl rfl, trivial⟩ ?_
  intro ρ2 w2 hN hf hr
  have h2 := hv hf 4 rfl rfl
  have h3 := hv hf 5 rfl rfl
  have hW := hW.trans hN
  refine WP.ret ?_
  show retQ Tryz.prog 8 Tryz.f58 (fun v w1 => v = .tuple #[.int .i64 r.1, .bool r.2] ∧ Ext noG w0 w1) .ret ρ2 w2
  obtain rfl := Option.some.inj hF
  exact res2 rfl (by decide) (by decide) h2 h3 ⟨rfl, hW⟩

set_option maxHeartbeats 4000000 in
theorem family_alive_ok {w0 : World} (l_ : List api_Fact) (person_ : Int) (day_ : Int) {v_l_ : Value} (H_l_ : RepSl api_Fact.R noG w0 v_l_ l_) {r : Bool} (hF : family_alive l_ person_ day_ = some r) :
    Calls Tryz.prog 31 #[v_l_, .int .i64 person_, .int .i64 day_] w0 fun e w1 => e = .returned (.bool r) ∧ Ext noG w0 w1 := by
  refine (Calls.start (P := Tryz.prog) (args := [v_l_, .int .i64 person_, .int .i64 day_]) (R := fun v w1 => v = .bool r ∧ Ext noG w0 w1) (n := 23) (w := w0) Tryz.func31 rfl rfl (Nat.le_of_ble_eq_true rfl) (fun ρ hargs => ?_)).mono (fun e w1 ⟨v, he, hv, hE⟩ => ⟨hv ▸ he, hE⟩)
  have h0 := hargs 0 _ rfl
  have h1 := hargs 1 _ rfl
  have h2 := hargs 2 _ rfl
  have hW := Ext.refl noG w0
  obtain ⟨_, _, hs_H_l_, _, _⟩ := RepSl.shape H_l_
  have H_l_ := H_l_.start
  rw [family_alive] at hF
  refine WP.seq (WP.rb mixed [[]] [[]] [(6, .bool false)] (by kernel_rfl) ⟨aC rfl rfl (fun _ => rfl), trivial⟩ ?_)
  intro ρ1 w1 hN hf hr
  obtain ⟨h0, h1, h2⟩ := k3 hr h0 h1 h2 rfl
  have H_l_ := H_l_.exn hN
  have hW := hW.trans hN
  refine WP.seq ?_
  obtain ⟨z, hz, hF⟩ := obind hF
  obtain ⟨z2, hz2, hF⟩ := obind hF
  refine WP.rg mixed [[], [], [0, 1], [2], [3], [4], [4], [5], [6]] [[], [], [0, 1], [2], [3], [4], [4], [5], [6]] [[0], [1], [], [], [], [], [], [], []] [val 10 (v_l_), val 11 (.int .i64 person_), (12, fun u wz => Own w0.heap.size 38 14 api_Fact.cells wz u z ∧ ∀ b, u.ownBlock = some b → w1.heap.size ≤ b), val 13 (.tuple #[.int .i64 z2.1, .bool z2.2]), val 9 (.tuple #[.int .i64 z2.1, .bool z2.2]), val 14 (.int .i64 z2.1), val 15 (.bool z2.2), val 7 (.int .i64 z2.1), val 8 (.bool z2.2)] (by kernel_rfl) ⟨sV, sV, fun _ _ _ hE ⟨hO, hf⟩ => ⟨hO.exn hE, hf⟩, sV, sV, sV, sV, sV, sV, trivial⟩ ⟨mE rfl rfl h0,
 mE rfl rfl h1,
 fun ρz wz hE hA _ ⟨u0, u1, _⟩ => core_callR rfl (call_args2 u0 u1) cf_18 ((career_Of_ok  _ _ (H_l_.exn (hA rfl)).no hz).mono (fun e w1 ⟨v, he, hE1, hO⟩ => ⟨v, he, hE1, hO.base (Nat.le_trans hW.size hE.size), fun b hb => Nat.le_trans hE.size (hO.lt hb).1⟩)),
 fun ρz wz hE hA _ ⟨⟨hO2, hfr2⟩, _⟩ => core_call rfl (call_args1 rfl) cf_58 (career_Death_ok  _ (hO2.rep (hn := fun _ => rfl) (G := noG) (fun _ _ h => h)).no hz2),
 mU rfl rfl rfl,
 fun ρz wz hE hA _ ⟨u4, _⟩ => core_val rfl rfl (o_extract u4 (by kernel_rfl)),
 fun ρz wz hE hA _ ⟨u4, _⟩ => core_val rfl rfl (o_extract u4 (by kernel_rfl)),
 aU rfl rfl rfl,
 aU rfl rfl rfl, trivial⟩ ?_
  intro ρ2 w2 hN hf hr
  have h7 : ρ2 7 = .int .i64 z2.1 := hf 7 rfl
  have h8 : ρ2 8 = .bool z2.2 := hf 8 rfl
  have h2 := (hr 2 rfl).trans h2
  have hW := hW.trans hN
  refine WP.seq (WP.rb mixed [[], [0], [1], [2], [2], [2, 3, 4], [2, 5], [6]] [[8], [], [], [7], [2], [], [], []] [(16, .bool z2.2), (17, .bool (!z2.2)), (18, .bool (!z2.2)), (19, gv (!(!z2.2)) (.int .i64 z2.1)), (20, gv (!(!z2.2)) (.int .i64 day_)), (21, gv (!(!z2.2)) (.bool (decide (day_ ≤ z2.1)))), (22, .bool ((!z2.2) || decide (day_ ≤ z2.1))), (6, .bool ((!z2.2) || decide (day_ ≤ z2.1)))] (by kernel_rfl) ⟨mE rfl rfl h8,
 fun ρz wz hE hA _ ⟨u0, _⟩ => core_val rfl rfl (o_not u0 rfl),
 mU rfl rfl rfl,
 fun ρz wz hE hA ⟨e7, _⟩ ⟨u2, _⟩ => gIf rfl rfl (yF rfl u2) fun gc F hF => core_val rfl hF (o_move (e7.trans h7)),
 fun ρz wz hE hA ⟨e2, _⟩ ⟨u2, _⟩ => gIf rfl rfl (yF rfl u2) fun gc F hF => core_val rfl hF (o_move (e2.trans h2)),
 fun ρz wz hE hA _ ⟨u2, u3, u4, _⟩ => gIf rfl rfl (yF rfl u2) fun gc F hF => core_val rfl hF (o_geq (gt gc u3) (gt gc u4) rfl),
 fun ρz wz hE hA _ ⟨u2, u5, _⟩ => core_val rfl rfl (o_pick_or u2 rfl u5),
 aU rfl rfl rfl, trivial⟩ ?_)
  intro ρ3 w3 hN hf hr
  have h6 := hv hf 7 rfl rfl
  have hW := hW.trans hN
  refine WP.ret ?_
  show retQ Tryz.prog 23 Tryz.f31 (fun v w1 => v = .bool r ∧ Ext noG w0 w1) .ret ρ3 w3
  obtain rfl := Option.some.inj hF
  exact res1 rfl (by decide) h6 ⟨rfl, hW⟩

set_option maxHeartbeats 4000000 in
theorem family_raises_1_ok {w0 : World} (f_ : api_Fact) (c_ : Int) (c_2 : Int) {bc1_ : Nat} (Hb_bc1_ : Mb w0 bc1_ 3 [Value.int .i64 c_]) {bc2_ : Nat} (Hb_bc2_ : Mb w0 bc2_ 3 [Value.int .i64 c_2]) {r : Bool} (hF : family_raises_1 f_ c_ c_2 = some r) :
    Calls Tryz.prog 60 #[api_Fact.val f_, .pointer (some ⟨bc1_, 0, none⟩), .pointer (some ⟨bc2_, 0, none⟩)] w0 fun e w1 => e = .returned (.bool r) ∧ Ext noG w0 w1 := by
  refine (Calls.start (P := Tryz.prog) (args := [api_Fact.val f_, .pointer (some ⟨bc1_, 0, none⟩), .pointer (some ⟨bc2_, 0, none⟩)]) (R := fun v w1 => v = .bool r ∧ Ext noG w0 w1) (n := 28) (w := w0) Tryz.func60 rfl rfl (Nat.le_of_ble_eq_true rfl) (fun ρ hargs => ?_)).mono (fun e w1 ⟨v, he, hv, hE⟩ => ⟨hv ▸ he, hE⟩)
  have h0 := hargs 0 _ rfl
  have h1 := hargs 1 _ rfl
  have h2 := hargs 2 _ rfl
  have hW := Ext.refl noG w0
  rw [family_raises_1] at hF
  refine WP.seq (WP.rg mixed [[], []] [[], []] [[0], []] [(3, fun u wz => ∃ b, u = .pointer (some ⟨b, 0, none⟩) ∧ w0.heap.size ≤ b ∧ Mb wz b 38 (api_Fact.cells f_)), val 4 (.bool false)] (by kernel_rfl) ⟨fun _ _ _ hE ⟨b, hb, hs, hM⟩ => ⟨b, hb, hs, hM.exn hE⟩, sV, trivial⟩ ⟨fun ρz wz hE hA ⟨e0, _⟩ _ => core_new rfl rfl hE (o_box (e0.trans h0) (bx_38 _ _)),
 aC rfl rfl (fun _ => rfl), trivial⟩ ?_)
  intro ρ1 w1 hN hf hr
  obtain ⟨b3_, h3, hge_b3_, Hb_b3_⟩ := hf 0 rfl
  obtain ⟨h1, h2⟩ := k2 hr h1 h2 rfl
  have Hb_bc1_n := Hb_bc1_.exn hN
  have Hb_bc2_n := Hb_bc2_.exn hN
  have hB_b3_ : w0.heap.size ≤ b3_ := Nat.le_trans hW.size hge_b3_
  have hW := hW.trans hN
  have Hb_bc1_ := Hb_bc1_n
  have Hb_bc2_ := Hb_bc2_n
  refine WP.seq (WP.rb mixed [[], [0], [1], [2], [3], [3, 4], [3], [3, 5, 6], [3, 7], [8], [9], [9, 10], [9, 11], [9], [9, 12, 13], [9, 14], [15], [16], [16], [16, 18], [16, 19], [16, 17, 20], [16, 21], [22]] [[3], [], [], [], [3], [], [1], [], [], [], [3], [], [], [2], [], [], [], [2], [3], [], [], [], [], []] [(5, .pointer (some ((⟨b3_, 0, none⟩ : Addr).add 5))), (6, .int .i64 f_.Kind), (7, .bool (f_.Kind == 10)), (8, .bool (f_.Kind == 10)), (9, gv ((f_.Kind == 10)) (.pointer (some ((⟨b3_, 0, none⟩ : Addr).add 13)))), (10, gv ((f_.Kind == 10)) (.int .i64 f_.Ref)), (11, gv ((f_.Kind == 10)) (.int .i64 c_)), (12, gv ((f_.Kind == 10)) (.bool (f_.Ref == c_))), (13, .bool ((f_.Kind == 10) && (f_.Ref == c_))), (14, .bool ((f_.Kind == 10) && (f_.Ref == c_))), (15, gv (((f_.Kind == 10) && (f_.Ref == c_))) (.pointer (some ((⟨b3_, 0, none⟩ : Addr).add 7)))), (16, gv (((f_.Kind == 10) && (f_.Ref == c_))) (.pointer (some (((⟨b3_, 0, none⟩ : Addr).add 7).add 0)))), (17, gv (((f_.Kind == 10) && (f_.Ref == c_))) (.int .i64 f_.Span.From)), (18, gv (((f_.Kind == 10) && (f_.Ref == c_))) (.int .i64 c_2)), (19, gv (((f_.Kind == 10) && (f_.Ref == c_))) (.bool (decide (f_.Span.From ≤ c_2)))), (20, .bool (((f_.Kind == 10) && (f_.Ref == c_)) && decide (f_.Span.From ≤ c_2))), (21, .bool (((f_.Kind == 10) && (f_.Ref == c_)) && decide (f_.Span.From ≤ c_2))), (22, gv ((((f_.Kind == 10) && (f_.Ref == c_)) && decide (f_.Span.From ≤ c_2))) (.int .i64 c_2)), (23, gv ((((f_.Kind == 10) && (f_.Ref == c_)) && decide (f_.Span.From ≤ c_2))) (.pointer (some ((⟨b3_, 0, none⟩ : Addr).add 7)))), (24, gv ((((f_.Kind == 10) && (f_.Ref == c_)) && decide (f_.Span.From ≤ c_2))) (.pointer (some (((⟨b3_, 0, none⟩ : Addr).add 7).add 1)))), (25, gv ((((f_.Kind == 10) && (f_.Ref == c_)) && decide (f_.Span.From ≤ c_2))) (.int .i64 f_.Span.To)), (26, gv ((((f_.Kind == 10) && (f_.Ref == c_)) && decide (f_.Span.From ≤ c_2))) (.bool (decide (c_2 < f_.Span.To)))), (27, .bool ((((f_.Kind == 10) && (f_.Ref == c_)) && decide (f_.Span.From ≤ c_2)) && decide (c_2 < f_.Span.To))), (4, .bool ((((f_.Kind == 10) && (f_.Ref == c_)) && decide (f_.Span.From ≤ c_2)) && decide (c_2 < f_.Span.To)))] (by kernel_rfl) ⟨fun ρz wz hE hA ⟨e3, _⟩ _ => core_val rfl rfl (o_fieldAddr (e3.trans h3) (fa_38_5 _ _)),
 fun ρz wz hE hA _ ⟨u0, _⟩ => core_val rfl rfl (o_load u0 (run_load1 (lr_3 _ _) (CA.sub ((Hb_b3_.exn (hA rfl)).ca) 5 1))),
 fun ρz wz hE hA _ ⟨u1, _⟩ => core_val rfl rfl (o_eql u1 rfl rfl),
 mU rfl rfl rfl,
 fun ρz wz hE hA ⟨e3, _⟩ ⟨u3, _⟩ => gIf rfl rfl (yT rfl u3) fun gc F hF => core_val rfl hF (o_fieldAddr (e3.trans h3) (fa_38_12 _ _)),
 fun ρz wz hE hA _ ⟨u3, u4, _⟩ => gIf rfl rfl (yT rfl u3) fun gc F hF => core_val rfl hF (o_load (gt gc u4) (run_load1 (lr_3 _ _) (CA.sub ((Hb_b3_.exn (hA rfl)).ca) 13 1))),
 fun ρz wz hE hA ⟨e1, _⟩ ⟨u3, _⟩ => gIf rfl rfl (yT rfl u3) fun gc F hF => core_val rfl hF (o_load (e1.trans h1) (run_load1 (lr_3 _ _) ((Hb_bc1_.exn (hA rfl)).ca))),
 fun ρz wz hE hA _ ⟨u3, u5, u6, _⟩ => gIf rfl rfl (yT rfl u3) fun gc F hF => core_val rfl hF (o_eql (gt gc u5) (gt gc u6) rfl),
 fun ρz wz hE hA _ ⟨u3, u7, _⟩ => core_val rfl rfl (o_pick_and u3 u7 rfl),
 mU rfl rfl rfl,
 fun ρz wz hE hA ⟨e3, _⟩ ⟨u9, _⟩ => gIf rfl rfl (yT rfl u9) fun gc F hF => core_val rfl hF (o_fieldAddr (e3.trans h3) (fa_38_7 _ _)),
 fun ρz wz hE hA _ ⟨u9, u10, _⟩ => gIf rfl rfl (yT rfl u9) fun gc F hF => core_val rfl hF (o_fieldAddr (gt gc u10) (fa_36_0 _ _)),
 fun ρz wz hE hA _ ⟨u9, u11, _⟩ => gIf rfl rfl (yT rfl u9) fun gc F hF => core_val rfl hF (o_load (gt gc u11) (run_load1 (lr_3 _ _) (CA.sub (CA.sub ((Hb_b3_.exn (hA rfl)).ca) 7 2) 0 1))),
 fun ρz wz hE hA ⟨e2, _⟩ ⟨u9, _⟩ => gIf rfl rfl (yT rfl u9) fun gc F hF => core_val rfl hF (o_load (e2.trans h2) (run_load1 (lr_3 _ _) ((Hb_bc2_.exn (hA rfl)).ca))),
 fun ρz wz hE hA _ ⟨u9, u12, u13, _⟩ => gIf rfl rfl (yT rfl u9) fun gc F hF => core_val rfl hF (o_leq (gt gc u12) (gt gc u13) rfl),
 fun ρz wz hE hA _ ⟨u9, u14, _⟩ => core_val rfl rfl (o_pick_and u9 u14 rfl),
 mU rfl rfl rfl,
 fun ρz wz hE hA ⟨e2, _⟩ ⟨u16, _⟩ => gIf rfl rfl (yT rfl u16) fun gc F hF => core_val rfl hF (o_load (e2.trans h2) (run_load1 (lr_3 _ _) ((Hb_bc2_.exn (hA rfl)).ca))),
 fun ρz wz hE hA ⟨e3, _⟩ ⟨u16, _⟩ => gIf rfl rfl (yT rfl u16) fun gc F hF => core_val rfl hF (o_fieldAddr (e3.trans h3) (fa_38_7 _ _)),
 fun ρz wz hE hA _ ⟨u16, u18, _⟩ => gIf rfl rfl (yT rfl u16) fun gc F hF => core_val rfl hF (o_fieldAddr (gt gc u18) (fa_36_1 _ _)),
 fun ρz wz hE hA _ ⟨u16, u19, _⟩ => gIf rfl rfl (yT rfl u16) fun gc F hF => core_val rfl hF (o_load (gt gc u19) (run_load1 (lr_3 _ _) (CA.sub (CA.sub ((Hb_b3_.exn (hA rfl)).ca) 7 2) 1 1))),
 fun ρz wz hE hA _ ⟨u16, u17, u20, _⟩ => gIf rfl rfl (yT rfl u16) fun gc F hF => core_val rfl hF (o_lss (gt gc u17) (gt gc u20) rfl),
 fun ρz wz hE hA _ ⟨u16, u21, _⟩ => core_val rfl rfl (o_pick_and u16 u21 rfl),
 aU rfl rfl rfl, trivial⟩ ?_)
  intro ρ2 w2 hN hf hr
  have h4 := hv hf 23 rfl rfl
  have hW := hW.trans hN
  refine WP.ret ?_
  show retQ Tryz.prog 28 Tryz.f60 (fun v w1 => v = .bool r ∧ Ext noG w0 w1) .ret ρ2 w2
  obtain rfl := Option.some.inj hF
  exact res1 rfl (by decide) h4 ⟨rfl, hW⟩

set_option maxHeartbeats 4000000 in
theorem slices_IndexFunc_of_api_Fact_ok {w0 : World} (s_ : List api_Fact) (f_ : api_Fact → Option Bool) {v_s_ : Value} (H_s_ : RepSl api_Fact.R noG w0 v_s_ s_) {v_f_ : Value} (H_f_ : FnR Tryz.prog fnV_65 fnW_65 f_ noG w0 v_f_) {r : Int} (hF : slices_IndexFunc_of_api_Fact s_ f_ = some r) :
    Calls Tryz.prog 88 #[v_s_, v_f_] w0 fun e w1 => e = .returned (.int .i64 r) ∧ Ext noG w0 w1 := by
  refine (Calls.start (P := Tryz.prog) (args := [v_s_, v_f_]) (R := fun v w1 => v = .int .i64 r ∧ Ext noG w0 w1) (n := 19) (w := w0) Tryz.func88 rfl rfl (Nat.le_of_ble_eq_true rfl) (fun ρ hargs => ?_)).mono (fun e w1 ⟨v, he, hv, hE⟩ => ⟨hv ▸ he, hE⟩)
  have h0 := hargs 0 _ rfl
  have h1 := hargs 1 _ rfl
  have hW := Ext.refl noG w0
  obtain ⟨_, _, hs_H_s_, _, _⟩ := RepSl.shape H_s_
  have H_s_ := H_s_.start
  have H_f_ := H_f_.start
  rw [slices_IndexFunc_of_api_Fact] at hF
  refine WP.seq (WP.rb mixed [[]] [[]] [(4, .int .i64 0)] (by kernel_rfl) ⟨aC rfl rfl (fun _ => rfl), trivial⟩ ?_)
  intro ρ1 w1 hN hf hr
  obtain ⟨h0, h1⟩ := k2 hr h0 h1 rfl
  have H_s_ := H_s_.exn hN
  have H_f_ := H_f_.exn hN
  have hW := hW.trans hN
  refine WP.seq (WP.seq (WP.rb mixed [[], [0], []] [[0], [], []] [(6, v_s_), (7, .int .i64 (s_.length : Int)), (8, .int .i64 0)] (by kernel_rfl) ⟨mE rfl rfl h0,
 fun ρz wz hE hA _ ⟨u0, _⟩ => core_val rfl rfl (o_len (u0.trans hs_H_s_) len_24),
 mC rfl rfl (fun _ => rfl), trivial⟩ ?_))
  intro ρ2 w2 hN hf hr
  have h7 := hv hf 1 rfl rfl
  have h8 := hv hf 2 rfl rfl
  obtain ⟨h0, h1⟩ := k2 hr h0 h1 rfl
  have H_s_ := H_s_.exn hN
  have H_f_ := H_f_.exn hN
  have hW := hW.trans hN
  refine WP.block (WP.loop (fun k_ ρ w => ∃ x : Int, ρ 0 = v_s_ ∧ ρ 1 = v_f_ ∧ ρ 7 = .int .i64 (s_.length : Int) ∧ ρ 8 = .int .i64 x ∧ RepSl api_Fact.R (gfr noG w0) w v_s_ s_ ∧ FnR Tryz.prog fnV_65 fnW_65 f_ (gfr noG w0) w v_f_ ∧ Ext noG w0 w ∧ loopC k_ (slices_IndexFunc_of_api_Fact_l s_ f_) x = some r) FU ⟨0, h0, h1, h7, h8, H_s_, H_f_, hW, hF⟩ (fun _ _ h => by obtain ⟨_, _, _, _, _, _, _, _, h⟩ := h; cases h) ?_)
  rintro k_ ρ3 w3 ⟨x, h0, h1, h7, h8, H_s_, H_f_, hW, hF⟩
  have hF : slices_IndexFunc_of_api_Fact_l s_ f_ (loopC k_ (slices_IndexFunc_of_api_Fact_l s_ f_)) x = some r := (loopC_succ k_ (slices_IndexFunc_of_api_Fact_l s_ f_) x).symm.trans hF
  generalize hrec_ : loopC k_ (slices_IndexFunc_of_api_Fact_l s_ f_) = rec_ at hF
  rw [slices_IndexFunc_of_api_Fact_l] at hF
  refine WP.seq (WP.rb mixed [[]] [[8, 7]] [(9, .bool (decide (x < (s_.length : Int))))] (by kernel_rfl) ⟨fun ρz wz hE hA ⟨e8, e7, _⟩ _ => core_val rfl rfl (o_lss (e8.trans h8) (e7.trans h7) rfl), trivial⟩ ?_)
  intro ρ4 w4 hN hf hr
  have h9 := hv hf 0 rfl rfl
  obtain ⟨h0, h1, h7, h8⟩ := k4 hr h0 h1 h7 h8 rfl
  have H_s_ := H_s_.exn hN
  have H_f_ := H_f_.exn hN
  have hW := hW.trans hN
  refine WP.seq (WP.cond rfl h9 (fun hb => ?_) (fun hb => ?_))
  · have hF := (if_pos hb).symm.trans hF
    refine WP.skip (WP.seq (WP.block (WP.seq (WP.rb mixed [[], [0]] [[8], []] [(10, .int .i64 x), (5, .int .i64 x)] (by kernel_rfl) ⟨mE rfl rfl h8,
 aU rfl rfl rfl, trivial⟩ ?_))))
    intro ρ5 w5 hN hf hr
    have h5 := hv hf 1 rfl rfl
    obtain ⟨h0, h1, h7, h8⟩ := k4 hr h0 h1 h7 h8 rfl
    have H_s_ := H_s_.exn hN
    have H_f_ := H_f_.exn hN
    have hW := hW.trans hN
    refine WP.seq ?_
    obtain ⟨y, hy, hF⟩ := obind hF
    obtain ⟨ay, cy, hvy, hiy, hAy⟩ := RepSl.getF H_s_ hy
    obtain ⟨z, hz, hF⟩ := obind hF
    refine WP.rb mixed [[], [], [], [1, 2], [3], [0, 4]] [[1], [0], [5], [], [], []] [(11, v_f_), (12, v_s_), (13, .int .i64 x), (14, .pointer (some (ay.add (Int.toNat x * 14)))), (15, api_Fact.val y), (16, .bool z)] (by kernel_rfl) ⟨mE rfl rfl h1,
 mE rfl rfl h0,
 mE rfl rfl h5,
 fun ρz wz hE hA _ ⟨u1, u2, _⟩ => core_val rfl rfl (o_indexAddr (u1.trans hvy) u2 (ia_24 hiy)),
 fun ρz wz hE hA _ ⟨u3, _⟩ => core_val rfl rfl (o_load u3 (run_loadN (cs := (api_Fact.cells y)) (lr_38 _ _) rfl ((hAy.exn (hA rfl)).ca))),
 fun ρz wz hE hA _ ⟨u0, u4, _⟩ => core_callF (V := fnV_65) (W := fnW_65) (a := y) (r := z) rfl u0 (call_args1 u4) (H_f_.exn (hA rfl)).no hz, trivial⟩ ?_
    intro ρ6 w6 hN hf hr
    have h16 := hv hf 5 rfl rfl
    obtain ⟨h0, h1, h7, h8, h5⟩ := k5 hr h0 h1 h7 h8 h5 rfl
    have H_s_ := H_s_.exn hN
    have H_f_ := H_f_.exn hN
    have hW := hW.trans hN
    refine WP.cond rfl h16 (fun hb => ?_) (fun hb => ?_)
    · have hF := (if_pos hb).symm.trans hF
      refine WP.seq (WP.rb mixed [[], [0]] [[5], []] [(17, .int .i64 x), (4, .int .i64 x)] (by kernel_rfl) ⟨mE rfl rfl h5,
 aU rfl rfl rfl, trivial⟩ ?_)
      intro ρ7 w7 hN hf hr
      have h4 := hv hf 1 rfl rfl
      have hW := hW.trans hN
      refine WP.ret ?_
      show retQ Tryz.prog 19 Tryz.f88 (fun v w1 => v = .int .i64 r ∧ Ext noG w0 w1) .ret ρ7 w7
      obtain rfl := Option.some.inj hF
      exact res1 rfl (by decide) h4 ⟨rfl, hW⟩
    have hF := (if_neg (Bool.eq_false_iff.1 hb)).symm.trans hF
    refine WP.skip (WP.rb mixed [[], [0]] [[8], []] [(18, .int .i64 (i64 (x + 1))), (8, .int .i64 (i64 (x + 1)))] (by kernel_rfl) ⟨fun ρz wz hE hA ⟨e8, _⟩ _ => core_val rfl rfl (o_add (e8.trans h8) rfl rfl),
 mU rfl rfl rfl, trivial⟩ ?_)
    intro ρ8 w8 hN hf hr
    have h8 := hv hf 1 rfl rfl
    obtain ⟨h0, h1, h7⟩ := k3 hr h0 h1 h7 rfl
    have H_s_ := H_s_.exn hN
    have H_f_ := H_f_.exn hN
    have hW := hW.trans hN
    exact ⟨i64 (x + 1), h0, h1, h7, h8, H_s_, H_f_, hW, (by first | exact hF | (rw [hrec_]; exact hF))⟩
  have hF := (if_neg (Bool.eq_false_iff.1 hb)).symm.trans hF
  refine WP.exit (thenQ_exit (thenQ_exit (blockQ_hit (WP.seq (WP.rb mixed [[]] [[]] [(4, .int .i64 (-1))] (by kernel_rfl) ⟨aC rfl rfl (fun _ => rfl), trivial⟩ ?_)))))
  intro ρ9 w9 hN hf hr
  have h4 := hv hf 0 rfl rfl
  have hW := hW.trans hN
  refine WP.ret ?_
  show retQ Tryz.prog 19 Tryz.f88 (fun v w1 => v = .int .i64 r ∧ Ext noG w0 w1) .ret ρ9 w9
  obtain rfl := Option.some.inj hF
  exact res1 rfl (by decide) h4 ⟨rfl, hW⟩

set_option maxHeartbeats 4000000 in
theorem slices_ContainsFunc_of_api_Fact_ok {w0 : World} (s_ : List api_Fact) (f_ : api_Fact → Option Bool) {v_s_ : Value} (H_s_ : RepSl api_Fact.R noG w0 v_s_ s_) {v_f_ : Value} (H_f_ : FnR Tryz.prog fnV_65 fnW_65 f_ noG w0 v_f_) {r : Bool} (hF : slices_ContainsFunc_of_api_Fact s_ f_ = some r) :
    Calls Tryz.prog 59 #[v_s_, v_f_] w0 fun e w1 => e = .returned (.bool r) ∧ Ext noG w0 w1 := by
  refine (Calls.start (P := Tryz.prog) (args := [v_s_, v_f_]) (R := fun v w1 => v = .bool r ∧ Ext noG w0 w1) (n := 9) (w := w0) Tryz.func59 rfl rfl (Nat.le_of_ble_eq_true rfl) (fun ρ hargs => ?_)).mono (fun e w1 ⟨v, he, hv, hE⟩ => ⟨hv ▸ he, hE⟩)
  have h0 := hargs 0 _ rfl
  have h1 := hargs 1 _ rfl
  have hW := Ext.refl noG w0
  obtain ⟨_, _, hs_H_s_, _, _⟩ := RepSl.shape H_s_
  have H_s_ := H_s_.start
  have H_f_ := H_f_.start
  rw [slices_ContainsFunc_of_api_Fact] at hF
  refine WP.seq (WP.rb mixed [[]] [[]] [(4, .bool false)] (by kernel_rfl) ⟨aC rfl rfl (fun _ => rfl), trivial⟩ ?_)
  intro ρ1 w1 hN hf hr
  obtain ⟨h0, h1⟩ := k2 hr h0 h1 rfl
  have H_s_ := H_s_.exn hN
  have H_f_ := H_f_.exn hN
  have hW := hW.trans hN
  refine WP.seq ?_
  obtain ⟨z, hz, hF⟩ := obind hF
  refine WP.rb mixed [[], [], [0, 1], [2], [3]] [[0], [1], [], [], []] [(5, v_s_), (6, v_f_), (7, .int .i64 z), (8, .bool (decide (0 ≤ z))), (4, .bool (decide (0 ≤ z)))] (by kernel_rfl) ⟨mE rfl rfl h0,
 mE rfl rfl h1,
 fun ρz wz hE hA _ ⟨u0, u1, _⟩ => core_call rfl (call_args2 u0 u1) cf_88 (slices_IndexFunc_of_api_Fact_ok  _ _ (H_s_.exn (hA rfl)).no (H_f_.exn (hA rfl)).no hz),
 fun ρz wz hE hA _ ⟨u2, _⟩ => core_val rfl rfl (o_geq u2 rfl rfl),
 aU rfl rfl rfl, trivial⟩ ?_
  intro ρ2 w2 hN hf hr
  have h4 := hv hf 4 rfl rfl
  have hW := hW.trans hN
  refine WP.ret ?_
  show retQ Tryz.prog 9 Tryz.f59 (fun v w1 => v = .bool r ∧ Ext noG w0 w1) .ret ρ2 w2
  obtain rfl := Option.some.inj hF
  exact res1 rfl (by decide) h4 ⟨rfl, hW⟩

set_option maxHeartbeats 4000000 in
theorem family_raises_ok {w0 : World} (l_ : List api_Fact) (child_ : Int) (day_ : Int) {v_l_ : Value} (H_l_ : RepSl api_Fact.R noG w0 v_l_ l_) {r : Bool} (hF : family_raises l_ child_ day_ = some r) :
    Calls Tryz.prog 32 #[v_l_, .int .i64 child_, .int .i64 day_] w0 fun e w1 => e = .returned (.bool r) ∧ Ext noG w0 w1 := by
  refine (Calls.start (P := Tryz.prog) (args := [v_l_, .int .i64 child_, .int .i64 day_]) (R := fun v w1 => v = .bool r ∧ Ext noG w0 w1) (n := 10) (w := w0) Tryz.func32 rfl rfl (Nat.le_of_ble_eq_true rfl) (fun ρ hargs => ?_)).mono (fun e w1 ⟨v, he, hv, hE⟩ => ⟨hv ▸ he, hE⟩)
  have h0 := hargs 0 _ rfl
  have h1 := hargs 1 _ rfl
  have h2 := hargs 2 _ rfl
  have hW := Ext.refl noG w0
  obtain ⟨_, _, hs_H_l_, _, _⟩ := RepSl.shape H_l_
  have H_l_ := H_l_.start
  rw [family_raises] at hF
  refine WP.seq (WP.regionN mixed ⟨[[], [], []], [[], [], []], [[1], [2], []], [], [], [(0, 4), (1, 5)], []⟩ [(4, fun u wz => ∃ b, u = .pointer (some ⟨b, 0, none⟩) ∧ w0.heap.size ≤ b ∧ Mb wz b 3 [Value.int .i64 child_]), (5, fun u wz => ∃ b, u = .pointer (some ⟨b, 0, none⟩) ∧ w0.heap.size ≤ b ∧ Mb wz b 3 [Value.int .i64 day_]), val 6 (.bool false)] (fun b => w0.heap.size ≤ b) (by kernel_rfl) (.inr (fun _ h => h)) ⟨TStable.box, TStable.box, sV, trivial⟩ ⟨fun ρz wz hE hA ⟨e1, _⟩ _ => core_newN rfl rfl rfl hE (o_box (e1.trans h1) (bx_3 _ _)),
 fun ρz wz hE hA ⟨e2, _⟩ _ => core_newN rfl rfl rfl hE (o_box (e2.trans h2) (bx_3 _ _)),
 fun ρz wz hE hA _ _ => core_val rfl rfl (o_assign rfl), trivial⟩ ?_)
  intro ρ1 w1 hE hN hf hr hdist
  have hN := hE.fresh
  obtain ⟨b4_, h4, hge_b4_, Hb_b4_⟩ := hf 0 rfl
  obtain ⟨b5_, h5, hge_b5_, Hb_b5_⟩ := hf 1 rfl
  have h0 := (hr 0 rfl).trans h0
  have H_l_ := H_l_.exn hN
  have hB_b4_ : w0.heap.size ≤ b4_ := Nat.le_trans hW.size hge_b4_
  have hB_b5_ : w0.heap.size ≤ b5_ := Nat.le_trans hW.size hge_b5_
  have hW := hW.trans hN
  refine WP.seq ?_
  obtain ⟨z, hz, hF⟩ := obind hF
  refine WP.rb mixed [[], [], [0, 1], [2]] [[0], [4, 5], [], []] [(7, v_l_), (8, .func (.func 60) #[] #[.pointer (some ⟨b4_, 0, none⟩), .pointer (some ⟨b5_, 0, none⟩)]), (9, .bool z), (6, .bool z)] (by kernel_rfl) ⟨mE rfl rfl h0,
 fun ρz wz hE hA ⟨e4, e5, _⟩ _ => core_val rfl rfl (o_makeFunc (call_args2 (e4.trans h4) (e5.trans h5))),
 fun ρz wz hE hA _ ⟨u0, u1, _⟩ => core_call rfl (call_args2 u0 u1) cf_59 (slices_ContainsFunc_of_api_Fact_ok  _ _ (H_l_.exn (hA rfl)).no (FnR.mk (V := fnV_65) (W := fnW_65) (G := noG) (cap := [.pointer (some ⟨b4_, 0, none⟩), .pointer (some ⟨b5_, 0, none⟩)]) cf_60 (fun w' hE' x r hr => family_raises_1_ok _ _ _ ((Hb_b4_.exn (hA rfl)).exn hE') ((Hb_b5_.exn (hA rfl)).exn hE') hr)) hz),
 aU rfl rfl rfl, trivial⟩ ?_
  intro ρ2 w2 hN hf hr
  have h6 := hv hf 3 rfl rfl
  have hW := hW.trans hN
  refine WP.ret ?_
  show retQ Tryz.prog 10 Tryz.f32 (fun v w1 => v = .bool r ∧ Ext noG w0 w1) .ret ρ2 w2
  obtain rfl := Option.some.inj hF
  exact res1 rfl (by decide) h6 ⟨rfl, hW⟩

set_option maxHeartbeats 4000000 in
theorem family_parents_ok {w0 : World} (l_ : List api_Fact) (child_ : Int) (day_ : Int) {v_l_ : Value} (H_l_ : RepSl api_Fact.R noG w0 v_l_ l_) {r : (List Int)} (hF : family_parents l_ child_ day_ = some r) :
    Calls Tryz.prog 16 #[v_l_, .int .i64 child_, .int .i64 day_] w0 fun e w1 => ∃ v, e = .returned v ∧ Ext noG w0 w1 ∧ Own w0.heap.size 3 1 (fun x : Int => [Value.int .i64 x]) w1 v r := by
  refine (Calls.start (P := Tryz.prog) (args := [v_l_, .int .i64 child_, .int .i64 day_]) (R := fun v w1 => Own w0.heap.size 3 1 (fun x : Int => [Value.int .i64 x]) w1 v r ∧ Ext noG w0 w1) (n := 56) (w := w0) Tryz.func16 rfl rfl (Nat.le_of_ble_eq_true rfl) (fun ρ hargs => ?_)).mono (fun e w1 ⟨v, he, hv, hE⟩ => ⟨v, he, hE, hv⟩)
  have h0 := hargs 0 _ rfl
  have h1 := hargs 1 _ rfl
  have h2 := hargs 2 _ rfl
  have hW := Ext.refl noG w0
  obtain ⟨_, _, hs_H_l_, _, _⟩ := RepSl.shape H_l_
  have H_l_ := H_l_.start
  rw [family_parents] at hF
  refine WP.seq (WP.rb mixed [[]] [[]] [(6, .slice none 0 0)] (by kernel_rfl) ⟨aC rfl rfl (fun _ => rfl), trivial⟩ ?_)
  intro ρ1 w1 hN hf hr
  obtain ⟨h0, h1, h2⟩ := k3 hr h0 h1 h2 rfl
  have H_l_ := H_l_.exn hN
  have hW := hW.trans hN
  refine WP.seq (WP.seq ?_)
  obtain ⟨c, hc, hF⟩ := obind hF
  obtain ⟨z, hz, hc⟩ := orB hc
  have hc := orE hc
  refine WP.rb mixed [[], [0], [1], [2], [2, 3], [2, 4], [5], [6], [6, 7], [6, 8], [9], [10], [10, 11], [10, 12], [13], [14], [14], [14], [14, 15, 16, 17], [14, 18], [14, 19]] [[1], [], [], [1], [], [], [], [2], [], [], [], [2], [], [], [], [0], [1], [2], [], [], []] [(9, .int .i64 child_), (10, .bool (decide (child_ < 1))), (11, .bool (decide (child_ < 1))), (12, gv (!(decide (child_ < 1))) (.int .i64 child_)), (13, gv (!(decide (child_ < 1))) (.bool (decide (99 < child_)))), (14, .bool (decide (child_ < 1) || decide (99 < child_))), (15, .bool (decide (child_ < 1) || decide (99 < child_))), (16, gv (!(decide (child_ < 1) || decide (99 < child_))) (.int .i64 day_)), (17, gv (!(decide (child_ < 1) || decide (99 < child_))) (.bool (decide (day_ < 0)))), (18, .bool ((decide (child_ < 1) || decide (99 < child_)) || decide (day_ < 0))), (19, .bool ((decide (child_ < 1) || decide (99 < child_)) || decide (day_ < 0))), (20, gv (!((decide (child_ < 1) || decide (99 < child_)) || decide (day_ < 0))) (.int .i64 day_)), (21, gv (!((decide (child_ < 1) || decide (99 < child_)) || decide (day_ < 0))) (.bool (decide (73048 < day_)))), (22, .bool (((decide (child_ < 1) || decide (99 < child_)) || decide (day_ < 0)) || decide (73048 < day_))), (23, .bool (((decide (child_ < 1) || decide (99 < child_)) || decide (day_ < 0)) || decide (73048 < day_))), (24, gv (!(((decide (child_ < 1) || decide (99 < child_)) || decide (day_ < 0)) || decide (73048 < day_))) v_l_), (25, gv (!(((decide (child_ < 1) || decide (99 < child_)) || decide (day_ < 0)) || decide (73048 < day_))) (.int .i64 child_)), (26, gv (!(((decide (child_ < 1) || decide (99 < child_)) || decide (day_ < 0)) || decide (73048 < day_))) (.int .i64 day_)), (27, gv (!(((decide (child_ < 1) || decide (99 < child_)) || decide (day_ < 0)) || decide (73048 < day_))) (.bool z)), (28, gv (!(((decide (child_ < 1) || decide (99 < child_)) || decide (day_ < 0)) || decide (73048 < day_))) (.bool (!z))), (29, .bool c)] (by kernel_rfl) ⟨mE rfl rfl h1,
 fun ρz wz hE hA _ ⟨u0, _⟩ => core_val rfl rfl (o_lss u0 rfl rfl),
 mU rfl rfl rfl,
 fun ρz wz hE hA ⟨e1, _⟩ ⟨u2, _⟩ => gIf rfl rfl (yF rfl u2) fun gc F hF => core_val rfl hF (o_move (e1.trans h1)),
 fun ρz wz hE hA _ ⟨u2, u3, _⟩ => gIf rfl rfl (yF rfl u2) fun gc F hF => core_val rfl hF (o_gtr (gt gc u3) rfl rfl),
 fun ρz wz hE hA _ ⟨u2, u4, _⟩ => core_val rfl rfl (o_pick_or u2 rfl u4),
 mU rfl rfl rfl,
 fun ρz wz hE hA ⟨e2, _⟩ ⟨u6, _⟩ => gIf rfl rfl (yF rfl u6) fun gc F hF => core_val rfl hF (o_move (e2.trans h2)),
 fun ρz wz hE hA _ ⟨u6, u7, _⟩ => gIf rfl rfl (yF rfl u6) fun gc F hF => core_val rfl hF (o_lss (gt gc u7) rfl rfl),
 fun ρz wz hE hA _ ⟨u6, u8, _⟩ => core_val rfl rfl (o_pick_or u6 rfl u8),
 mU rfl rfl rfl,
 fun ρz wz hE hA ⟨e2, _⟩ ⟨u10, _⟩ => gIf rfl rfl (yF rfl u10) fun gc F hF => core_val rfl hF (o_move (e2.trans h2)),
 fun ρz wz hE hA _ ⟨u10, u11, _⟩ => gIf rfl rfl (yF rfl u10) fun gc F hF => core_val rfl hF (o_gtr (gt gc u11) rfl rfl),
 fun ρz wz hE hA _ ⟨u10, u12, _⟩ => core_val rfl rfl (o_pick_or u10 rfl u12),
 mU rfl rfl rfl,
 fun ρz wz hE hA ⟨e0, _⟩ ⟨u14, _⟩ => gIf rfl rfl (yF rfl u14) fun gc F hF => core_val rfl hF (o_move (e0.trans h0)),
 fun ρz wz hE hA ⟨e1, _⟩ ⟨u14, _⟩ => gIf rfl rfl (yF rfl u14) fun gc F hF => core_val rfl hF (o_move (e1.trans h1)),
 fun ρz wz hE hA ⟨e2, _⟩ ⟨u14, _⟩ => gIf rfl rfl (yF rfl u14) fun gc F hF => core_val rfl hF (o_move (e2.trans h2)),
 fun ρz wz hE hA _ ⟨u14, u15, u16, u17, _⟩ => gIf rfl rfl (yF rfl u14) fun gc F hF => core_call hF (call_args3 (gt gc u15) (gt gc u16) (gt gc u17)) cf_31 (family_alive_ok  _ _ _ (H_l_.exn (hA rfl)).no (hz gc)),
 fun ρz wz hE hA _ ⟨u14, u18, _⟩ => gIf rfl rfl (yF rfl u14) fun gc F hF => core_val rfl hF (o_not (gt gc u18) rfl),
 fun ρz wz hE hA _ ⟨u14, u19, _⟩ => core_valE rfl rfl (congrArg Value.bool hc) (o_pick_or u14 rfl u19), trivial⟩ ?_
  intro ρ2 w2 hN hf hr
  have h29 := hv hf 20 rfl rfl
  obtain ⟨h0, h1, h2⟩ := k3 hr h0 h1 h2 rfl
  have H_l_ := H_l_.exn hN
  have hW := hW.trans hN
  refine WP.cond rfl h29 (fun hb => ?_) (fun hb => ?_)
  · have hF := (if_pos hb).symm.trans hF
    refine WP.seq (WP.rb mixed [[]] [[]] [(6, .slice none 0 0)] (by kernel_rfl) ⟨aC rfl rfl (fun _ => rfl), trivial⟩ ?_)
    intro ρ3 w3 hN hf hr
    have h6 : ρ3 6 = .slice none 0 0 := hf 0 rfl
    have O6 : Own w0.heap.size 3 1 (fun x : Int => [Value.int .i64 x]) w3 (.slice none 0 0) [] := Own.nil _ _ _ _ _
    have hW := hW.trans hN
    have O6 : Own w0.heap.size 3 1 (fun x : Int => [Value.int .i64 x]) w3 (.slice none 0 0) [] := Own.nil _ _ _ _ _
    refine WP.ret ?_
    show retQ Tryz.prog 56 Tryz.f16 (fun v w1 => Own w0.heap.size 3 1 (fun x : Int => [Value.int .i64 x]) w1 v r ∧ Ext noG w0 w1) .ret ρ3 w3
    obtain rfl := Option.some.inj hF
    exact res1 rfl (by decide) h6 ⟨O6, hW⟩
  have hF := (if_neg (Bool.eq_false_iff.1 hb)).symm.trans hF
  refine WP.skip (WP.seq (WP.rb mixed [[]] [[]] [(7, .slice none 0 0)] (by kernel_rfl) ⟨aC rfl rfl (fun _ => rfl), trivial⟩ ?_))
  intro ρ4 w4 hN hf hr
  have h7 : ρ4 7 = .slice none 0 0 := hf 0 rfl
  have O7 : Own w0.heap.size 3 1 (fun x : Int => [Value.int .i64 x]) w4 (.slice none 0 0) [] := Own.nil _ _ _ _ _
  obtain ⟨h0, h1, h2⟩ := k3 hr h0 h1 h2 rfl
  have H_l_ := H_l_.exn hN
  have hW := hW.trans hN
  have O7 : Own w0.heap.size 3 1 (fun x : Int => [Value.int .i64 x]) w4 (.slice none 0 0) [] := Own.nil _ _ _ _ _
  refine WP.seq (WP.seq (WP.rb mixed [[]] [[]] [(8, .int .i64 1)] (by kernel_rfl) ⟨aC rfl rfl (fun _ => rfl), trivial⟩ ?_))
  intro ρ5 w5 hN hf hr
  have h8 := hv hf 0 rfl rfl
  obtain ⟨h0, h1, h2, h7⟩ := k4 hr h0 h1 h2 h7 rfl
  have Oo_O7 := O7
  have H_l_ := H_l_.exn hN
  have hW := hW.trans hN
  have O7 : Own w0.heap.size 3 1 (fun x : Int => [Value.int .i64 x]) w5 (.slice none 0 0) [] := Own.nil _ _ _ _ _
  refine WP.block (WP.loop (fun k_ ρ w => ∃ out_ : List Int, ∃ p_ : Int, ∃ v7_ : Value, ρ 0 = v_l_ ∧ ρ 1 = .int .i64 child_ ∧ ρ 2 = .int .i64 day_ ∧ ρ 7 = v7_ ∧ ρ 8 = .int .i64 p_ ∧ RepSl api_Fact.R (gfr noG w0) w v_l_ l_ ∧ Own w0.heap.size 3 1 (fun x : Int => [Value.int .i64 x]) w v7_ out_ ∧ Ext noG w0 w ∧ loopC k_ (family_parents_l l_ child_ day_) (out_, p_) = some r) FU ⟨[], 1, .slice none 0 0, h0, h1, h2, h7, h8, H_l_, O7, hW, hF⟩ (fun _ _ h => by obtain ⟨_, _, _, _, _, _, _, _, _, _, _, h⟩ := h; cases h) ?_)
  rintro k_ ρ6 w6 ⟨out_, p_, v7_, h0, h1, h2, h7, h8, H_l_, O7, hW, hF⟩
  have hF : family_parents_l l_ child_ day_ (loopC k_ (family_parents_l l_ child_ day_)) (out_, p_) = some r := (loopC_succ k_ (family_parents_l l_ child_ day_) (out_, p_)).symm.trans hF
  generalize hrec_ : loopC k_ (family_parents_l l_ child_ day_) = rec_ at hF
  rw [family_parents_l] at hF
  refine WP.seq (WP.seq (WP.rb mixed [[], [0]] [[8], []] [(30, .int .i64 p_), (31, .bool (decide (p_ ≤ 99)))] (by kernel_rfl) ⟨mE rfl rfl h8,
 fun ρz wz hE hA _ ⟨u0, _⟩ => core_val rfl rfl (o_leq u0 rfl rfl), trivial⟩ ?_))
  intro ρ7 w7 hN hf hr
  have h31 := hv hf 1 rfl rfl
  obtain ⟨h0, h1, h2, h7, h8⟩ := k5 hr h0 h1 h2 h7 h8 rfl
  have Oo_O7 := O7
  have H_l_ := H_l_.exn hN
  have hW := hW.trans hN
  have O7 := Oo_O7.exn hN
  refine WP.cond rfl h31 (fun hb => ?_) (fun hb => ?_)
  · have hF := (if_pos hb).symm.trans hF
    refine WP.skip (WP.seqJ (fun ρ w => ∃ out_2 : List Int, ∃ v7_2 : Value, ρ 0 = v_l_ ∧ ρ 1 = .int .i64 child_ ∧ ρ 2 = .int .i64 day_ ∧ ρ 7 = v7_2 ∧ ρ 8 = .int .i64 p_ ∧ RepSl api_Fact.R (gfr noG w0) w v_l_ l_ ∧ Own w0.heap.size 3 1 (fun x : Int => [Value.int .i64 x]) w v7_2 out_2 ∧ Ext noG w0 w ∧ family_parents_j p_ rec_ out_2 = some r) ?_ ?_)
    · refine WP.block (WP.seq ?_)
      obtain ⟨c2, hc2, hF⟩ := obind hF
      obtain ⟨z2, hz2, hc2⟩ := andB hc2
      obtain ⟨z3, hz3, hc2⟩ := andB hc2
      have hc2 := andE hc2
      obtain ⟨c3, hc3, hF⟩ := obind hF
      obtain ⟨z4, hz4, hc3⟩ := andB hc3
      have hc3 := andE hc3
      refine WP.rg mixed [[], [], [0, 1], [2], [3], [3], [3, 4, 5], [3], [3], [3, 6, 7, 8], [3, 9], [10], [11], [11], [11], [11, 12, 13, 14], [11, 15]] [[], [], [0, 1], [2], [3], [3], [3, 4, 5], [3], [3], [3, 6, 7, 8], [3, 9], [10], [11], [11], [11], [11, 12, 13, 14], [11, 15]] [[8], [1], [], [], [0], [8], [], [1], [2], [], [], [], [0], [8], [2], [], []] [val 34 (.int .i64 p_), val 35 (.int .i64 child_), val 36 (.bool (p_ != child_)), val 37 (.bool (p_ != child_)), val 38 (gv ((p_ != child_)) v_l_), val 39 (gv ((p_ != child_)) (.int .i64 p_)), (40, fun u wz => ((p_ != child_)) = true → (fun u wz => Own w0.heap.size 38 14 api_Fact.cells wz u z2 ∧ ∀ b, u.ownBlock = some b → w7.heap.size ≤ b) u wz), val 41 (gv ((p_ != child_)) (.int .i64 child_)), val 42 (gv ((p_ != child_)) (.int .i64 day_)), val 43 (gv ((p_ != child_)) (.bool z3)), val 44 (.bool c2), val 45 (.bool c2), val 46 (gv (c2) v_l_), val 47 (gv (c2) (.int .i64 p_)), val 48 (gv (c2) (.int .i64 day_)), val 49 (gv (c2) (.bool z4)), val 50 (.bool c3)] (by kernel_rfl) ⟨sV, sV, sV, sV, sV, sV, stabI (Φ := fun u wz => Own w0.heap.size 38 14 api_Fact.cells wz u z2 ∧ ∀ b, u.ownBlock = some b → w7.heap.size ≤ b) (fun _ _ _ hE ⟨hO, hf⟩ => ⟨hO.exn hE, hf⟩), sV, sV, sV, sV, sV, sV, sV, sV, sV, sV, trivial⟩ ⟨mE rfl rfl h8,
 mE rfl rfl h1,
 fun ρz wz hE hA _ ⟨u0, u1, _⟩ => core_val rfl rfl (o_neq u0 u1 rfl),
 mU rfl rfl rfl,
 fun ρz wz hE hA ⟨e0, _⟩ ⟨u3, _⟩ => gIf rfl rfl (yT rfl u3) fun gc F hF => core_val rfl hF (o_move (e0.trans h0)),
 fun ρz wz hE hA ⟨e8, _⟩ ⟨u3, _⟩ => gIf rfl rfl (yT rfl u3) fun gc F hF => core_val rfl hF (o_move (e8.trans h8)),
 fun ρz wz hE hA _ ⟨u3, u4, u5, _⟩ => gIfR rfl (yT rfl u3) fun gc F hF => core_callR hF (call_args2 (gt gc u4) (gt gc u5)) cf_18 ((career_Of_ok  _ _ (H_l_.exn (hA rfl)).no (hz2 gc)).mono (fun e w1 ⟨v, he, hE1, hO⟩ => ⟨v, he, hE1, hO.base (Nat.le_trans hW.size hE.size), fun b hb => Nat.le_trans hE.size (hO.lt hb).1⟩)),
 fun ρz wz hE hA ⟨e1, _⟩ ⟨u3, _⟩ => gIf rfl rfl (yT rfl u3) fun gc F hF => core_val rfl hF (o_move (e1.trans h1)),
 fun ρz wz hE hA ⟨e2, _⟩ ⟨u3, _⟩ => gIf rfl rfl (yT rfl u3) fun gc F hF => core_val rfl hF (o_move (e2.trans h2)),
 fun ρz wz hE hA _ ⟨u3, u6, u7, u8, _⟩ => gIf rfl rfl (yT rfl u3) fun gc F hF => let ⟨hO6, hfr6⟩ := u6 gc; core_call hF (call_args3 rfl (gt gc u7) (gt gc u8)) cf_32 (family_raises_ok  _ _ _ (hO6.rep (hn := fun _ => rfl) (G := noG) (fun _ _ h => h)).no (hz3 gc)),
 fun ρz wz hE hA _ ⟨u3, u9, _⟩ => core_valE rfl rfl (congrArg Value.bool hc2) (o_pick_and u3 u9 rfl),
 mU rfl rfl rfl,
 fun ρz wz hE hA ⟨e0, _⟩ ⟨u11, _⟩ => gIf rfl rfl (yT rfl u11) fun gc F hF => core_val rfl hF (o_move (e0.trans h0)),
 fun ρz wz hE hA ⟨e8, _⟩ ⟨u11, _⟩ => gIf rfl rfl (yT rfl u11) fun gc F hF => core_val rfl hF (o_move (e8.trans h8)),
 fun ρz wz hE hA ⟨e2, _⟩ ⟨u11, _⟩ => gIf rfl rfl (yT rfl u11) fun gc F hF => core_val rfl hF (o_move (e2.trans h2)),
 fun ρz wz hE hA _ ⟨u11, u12, u13, u14, _⟩ => gIf rfl rfl (yT rfl u11) fun gc F hF => core_call hF (call_args3 (gt gc u12) (gt gc u13) (gt gc u14)) cf_31 (family_alive_ok  _ _ _ (H_l_.exn (hA rfl)).no (hz4 gc)),
 fun ρz wz hE hA _ ⟨u11, u15, _⟩ => core_valE rfl rfl (congrArg Value.bool hc3) (o_pick_and u11 u15 rfl), trivial⟩ ?_
      intro ρ10 w10 hN hf hr
      have h50 : ρ10 50 = .bool c3 := hf 16 rfl
      obtain ⟨h0, h1, h2, h7, h8⟩ := k5 hr h0 h1 h2 h7 h8 rfl
      have Oo_O7 := O7
      have H_l_ := H_l_.exn hN
      have hW := hW.trans hN
      have O7 := Oo_O7.exn hN
      refine WP.cond rfl h50 (fun hb => ?_) (fun hb => ?_)
      · have hF := (if_pos hb).symm.trans hF
        obtain ⟨l, hl, hF⟩ := obind hF
        refine WP.region mixed [[], [], [1], [0, 2], [0, 3]] [[], [], [1], [0, 2], [3]] [[7], [8], [], [], []] [3] [] [val 51 (v7_), val 52 (.int .i64 p_), (53, fun u wz => ∃ b, u = .slice (some ⟨b, 0, none⟩) 1 1 ∧ w10.heap.size ≤ b ∧ Mb wz b 3 (([p_]).flatMap (fun x : Int => [Value.int .i64 x]))), (54, fun u wz => Own w0.heap.size 3 1 (fun x : Int => [Value.int .i64 x]) wz u l ∧ ∀ b, u.ownBlock = some b → (v7_.ownBlock = some b ∨ w10.heap.size ≤ b)), (7, fun u wz => Own w0.heap.size 3 1 (fun x : Int => [Value.int .i64 x]) wz u l ∧ ∀ b, u.ownBlock = some b → (v7_.ownBlock = some b ∨ w10.heap.size ≤ b))] (fun b => Value.ownBlock v7_ = some b) (by kernel_rfl) ⟨sV, sV, fun _ _ _ hE ⟨b, hz, hs, hM⟩ => ⟨b, hz, hs, hM.ext hE (fun hg => absurd (O7.lt hg).2 (Nat.not_lt.2 hs))⟩, fun _ _ _ hE ⟨hO, hf⟩ => ⟨hO.exn hE, hf⟩, fun _ _ _ hE ⟨hO, hf⟩ => ⟨hO.exn hE, hf⟩, trivial⟩ ⟨mE rfl rfl h7,
 mE rfl rfl h8,
 fun ρz wz hE hA _ ⟨u1, _⟩ => core_slice rfl rfl hE (o_buildSlice (build_parts1 u1) (bs_22_1 _ _)),
 fun ρz wz hE hA _ ⟨u0, ⟨bz2, hzn2, hge2, hM2⟩, _⟩ => core_append (n := 1) (cells := fun x : Int => [Value.int .i64 x]) (B := w0.heap.size) (w0 := w10) rfl rfl (fun b hb => hb) u0 hzn2 (fun _ => rfl) one_3 si_22 se_3 (by decide) (by decide) (O7.exn (hA rfl)) ⟨_, (Mb.rep (n := 1) (cells := fun x : Int => [Value.int .i64 x]) (hn := fun _ => rfl) (G := noG) hM2 rfl (Nat.le_of_ble_eq_true rfl) (fun h => h))⟩ hl (Nat.le_trans hW.size hE.size) hE.size (fun v1 w1 h1 h2 => ⟨h1, h2⟩),
 fun ρz wz hE hA _ ⟨⟨hO3, hfr3⟩, _⟩ => core_copy rfl rfl (o_assign rfl) ⟨hO3, hfr3⟩, trivial⟩ ?_
        intro ρ11 w11 hE hN hf hr
        obtain ⟨v7_3, h7⟩ : ∃ v, ρ11 7 = v := ⟨_, rfl⟩
        have hq7 : (fun u wz => Own w0.heap.size 3 1 (fun x : Int => [Value.int .i64 x]) wz u l ∧ ∀ b, u.ownBlock = some b → (v7_.ownBlock = some b ∨ w10.heap.size ≤ b)) (ρ11 7) w11 := hf 4 rfl
        rw [h7] at hq7
        obtain ⟨hq7, hfr7⟩ := hq7
        obtain ⟨h0, h1, h2, h8⟩ := k4 hr h0 h1 h2 h8 rfl
        have Oo_O7 := O7
        have H_l_ := H_l_.over hE (fun b hb => (Oo_O7.lt hb).1)
        have hW := Ext.own hW hE (fun b hb => (Oo_O7.lt hb).1)
        have O7 := hq7
        exact ⟨l, v7_3, h0, h1, h2, h7, h8, H_l_, O7, hW, hF⟩
      have hF := (if_neg (Bool.eq_false_iff.1 hb)).symm.trans hF
      refine WP.skip ?_
      exact ⟨out_, v7_, h0, h1, h2, h7, h8, H_l_, O7, hW, hF⟩
    rintro ρ8 w8 ⟨out_2, v7_2, h0, h1, h2, h7, h8, H_l_, O7, hW, hF⟩
    rw [family_parents_j] at hF
    refine WP.rv mixed [[], [0], [0, 1]] [[], [0], [1]] [[8], [], []] [(32, .int .i64 p_), (33, .int .i64 (i64 (p_ + 1))), (8, .int .i64 (i64 (p_ + 1)))] (by kernel_rfl) ⟨mE rfl rfl h8,
 fun ρz wz hE hA _ ⟨u0, _⟩ => core_val rfl rfl (o_add u0 rfl rfl),
 aU rfl rfl rfl, trivial⟩ ?_
    intro ρ9 w9 hN hf hr
    have h8 := hv hf 2 rfl rfl
    obtain ⟨h0, h1, h2, h7⟩ := k4 hr h0 h1 h2 h7 rfl
    have Oo_O7 := O7
    have H_l_ := H_l_.exn hN
    have hW := hW.trans hN
    have O7 := Oo_O7.exn hN
    exact ⟨out_2, i64 (p_ + 1), v7_2, h0, h1, h2, h7, h8, H_l_, O7, hW, (by first | exact hF | (rw [hrec_]; exact hF))⟩
  have hF := (if_neg (Bool.eq_false_iff.1 hb)).symm.trans hF
  refine WP.exit (thenQ_exit (thenQ_exit (blockQ_hit (WP.seq (WP.rb mixed [[], [0]] [[7], []] [(55, v7_), (6, v7_)] (by kernel_rfl) ⟨mE rfl rfl h7,
 aU rfl rfl rfl, trivial⟩ ?_)))))
  intro ρ12 w12 hN hf hr
  have h6 := hv hf 1 rfl rfl
  have Oo_O7 := O7
  have hW := hW.trans hN
  have O6 := Oo_O7.exn hN
  refine WP.ret ?_
  show retQ Tryz.prog 56 Tryz.f16 (fun v w1 => Own w0.heap.size 3 1 (fun x : Int => [Value.int .i64 x]) w1 v r ∧ Ext noG w0 w1) .ret ρ12 w12
  obtain rfl := Option.some.inj hF
  exact res1 rfl (by decide) h6 ⟨O6, hW⟩

set_option maxHeartbeats 4000000 in
theorem calendar_Valid_ok {w0 : World} (day_ : Int) {r : Bool} (hF : calendar_Valid day_ = some r) :
    Calls Tryz.prog 33 #[.int .i64 day_] w0 fun e w1 => e = .returned (.bool r) ∧ Ext noG w0 w1 := by
  refine (Calls.start (P := Tryz.prog) (args := [.int .i64 day_]) (R := fun v w1 => v = .bool r ∧ Ext noG w0 w1) (n := 9) (w := w0) Tryz.func33 rfl rfl (Nat.le_of_ble_eq_true rfl) (fun ρ hargs => ?_)).mono (fun e w1 ⟨v, he, hv, hE⟩ => ⟨hv ▸ he, hE⟩)
  have h0 := hargs 0 _ rfl
  have hW := Ext.refl noG w0
  rw [calendar_Valid] at hF
  refine WP.seq (WP.rb mixed [[]] [[]] [(2, .bool false)] (by kernel_rfl) ⟨aC rfl rfl (fun _ => rfl), trivial⟩ ?_)
  intro ρ1 w1 hN hf hr
  have h0 := (hr 0 rfl).trans h0
  have hW := hW.trans hN
  refine WP.seq (WP.rb mixed [[], [0], [1], [2], [2, 3], [2, 4], [5]] [[0], [], [], [0], [], [], []] [(3, .int .i64 day_), (4, .bool (decide (0 ≤ day_))), (5, .bool (decide (0 ≤ day_))), (6, gv (decide (0 ≤ day_)) (.int .i64 day_)), (7, gv (decide (0 ≤ day_)) (.bool (decide (day_ ≤ 73048)))), (8, .bool (decide (0 ≤ day_) && decide (day_ ≤ 73048))), (2, .bool (decide (0 ≤ day_) && decide (day_ ≤ 73048)))] (by kernel_rfl) ⟨mE rfl rfl h0,
 fun ρz wz hE hA _ ⟨u0, _⟩ => core_val rfl rfl (o_geq u0 rfl rfl),
 mU rfl rfl rfl,
 fun ρz wz hE hA ⟨e0, _⟩ ⟨u2, _⟩ => gIf rfl rfl (yT rfl u2) fun gc F hF => core_val rfl hF (o_move (e0.trans h0)),
 fun ρz wz hE hA _ ⟨u2, u3, _⟩ => gIf rfl rfl (yT rfl u2) fun gc F hF => core_val rfl hF (o_leq (gt gc u3) rfl rfl),
 fun ρz wz hE hA _ ⟨u2, u4, _⟩ => core_val rfl rfl (o_pick_and u2 u4 rfl),
 aU rfl rfl rfl, trivial⟩ ?_)
  intro ρ2 w2 hN hf hr
  have h2 := hv hf 6 rfl rfl
  have hW := hW.trans hN
  refine WP.ret ?_
  show retQ Tryz.prog 9 Tryz.f33 (fun v w1 => v = .bool r ∧ Ext noG w0 w1) .ret ρ2 w2
  obtain rfl := Option.some.inj hF
  exact res1 rfl (by decide) h2 ⟨rfl, hW⟩

set_option maxHeartbeats 4000000 in
theorem career_Birth_ok {w0 : World} (l_ : List api_Fact) {v_l_ : Value} (H_l_ : RepSl api_Fact.R noG w0 v_l_ l_) {r : Int × Bool} (hF : career_Birth l_ = some r) :
    Calls Tryz.prog 63 #[v_l_] w0 fun e w1 => e = .returned (.tuple #[.int .i64 r.1, .bool r.2]) ∧ Ext noG w0 w1 := by
  refine (Calls.start (P := Tryz.prog) (args := [v_l_]) (R := fun v w1 => v = .tuple #[.int .i64 r.1, .bool r.2] ∧ Ext noG w0 w1) (n := 8) (w := w0) Tryz.func63 rfl rfl (Nat.le_of_ble_eq_true rfl) (fun ρ hargs => ?_)).mono (fun e w1 ⟨v, he, hv, hE⟩ => ⟨hv ▸ he, hE⟩)
  have h0 := hargs 0 _ rfl
  have hW := Ext.refl noG w0
  obtain ⟨_, _, hs_H_l_, _, _⟩ := RepSl.shape H_l_
  have H_l_ := H_l_.start
  rw [career_Birth] at hF
  refine WP.seq (WP.rb mixed [[], []] [[], []] [(2, .int .i64 0), (3, .bool false)] (by kernel_rfl) ⟨aC rfl rfl (fun _ => rfl),
 aC rfl rfl (fun _ => rfl), trivial⟩ ?_)
  intro ρ1 w1 hN hf hr
  have h0 := (hr 0 rfl).trans h0
  have H_l_ := H_l_.exn hN
  have hW := hW.trans hN
  refine WP.seq ?_
  obtain ⟨z, hz, hF⟩ := obind hF
  refine WP.rb mixed [[], [0], [1], [1], [2], [3]] [[0], [], [], [], [], []] [(4, v_l_), (5, .tuple #[.int .i64 z.1, .bool z.2]), (6, .int .i64 z.1), (7, .bool z.2), (2, .int .i64 z.1), (3, .bool z.2)] (by kernel_rfl) ⟨mE rfl rfl h0,
 fun ρz wz hE hA _ ⟨u0, _⟩ => core_call rfl (call_args2 u0 rfl) cf_87 (career_first_ok  _ _ (H_l_.exn (hA rfl)).no hz),
 fun ρz wz hE hA _ ⟨u1, _⟩ => core_val rfl rfl (o_extract u1 (by kernel_rfl)),
 fun ρz wz hE hA _ ⟨u1, _⟩ => core_val rfl rfl (o_extract u1 (by kernel_rfl)),
 aU rfl rfl rfl,
 aU rfl rfl rfl, trivial⟩ ?_
  intro ρ2 w2 hN hf hr
  have h2 := hv hf 4 rfl rfl
  have h3 := hv hf 5 rfl rfl
  have hW := hW.trans hN
  refine WP.ret ?_
  show retQ Tryz.prog 8 Tryz.f63 (fun v w1 => v = .tuple #[.int .i64 r.1, .bool r.2] ∧ Ext noG w0 w1) .ret ρ2 w2
  obtain rfl := Option.some.inj hF
  exact res2 rfl (by decide) (by decide) h2 h3 ⟨rfl, hW⟩

set_option maxHeartbeats 4000000 in
theorem career_Life_ok {w0 : World} (l_ : List api_Fact) {v_l_ : Value} (H_l_ : RepSl api_Fact.R noG w0 v_l_ l_) {r : Span} (hF : career_Life l_ = some r) :
    Calls Tryz.prog 35 #[v_l_] w0 fun e w1 => e = .returned (Span.val r) ∧ Ext noG w0 w1 := by
  refine (Calls.start (P := Tryz.prog) (args := [v_l_]) (R := fun v w1 => v = Span.val r ∧ Ext noG w0 w1) (n := 27) (w := w0) Tryz.func35 rfl rfl (Nat.le_of_ble_eq_true rfl) (fun ρ hargs => ?_)).mono (fun e w1 ⟨v, he, hv, hE⟩ => ⟨hv ▸ he, hE⟩)
  have h0 := hargs 0 _ rfl
  have hW := Ext.refl noG w0
  obtain ⟨_, _, hs_H_l_, _, _⟩ := RepSl.shape H_l_
  have H_l_ := H_l_.start
  rw [career_Life] at hF
  refine WP.seq (WP.rg mixed [[]] [[]] [[]] [(2, fun u wz => ∃ b, u = .pointer (some ⟨b, 0, none⟩) ∧ w0.heap.size ≤ b ∧ Mb wz b 36 (Span.cells (⟨0, 0⟩ : Span)))] (by kernel_rfl) ⟨fun _ _ _ hE ⟨b, hb, hs, hM⟩ => ⟨b, hb, hs, hM.exn hE⟩, trivial⟩ ⟨fun ρz wz hE hA _ _ => core_new rfl rfl hE (o_alloc (al_36 _)), trivial⟩ ?_)
  intro ρ1 w1 hN hf hr
  obtain ⟨b2_, h2, hge_b2_, Hb_b2_⟩ := hf 0 rfl
  have h0 := (hr 0 rfl).trans h0
  have H_l_ := H_l_.exn hN
  have hB_b2_ : w0.heap.size ≤ b2_ := Nat.le_trans hW.size hge_b2_
  have hW := hW.trans hN
  refine WP.seq ?_
  obtain ⟨z, hz, hF⟩ := obind hF
  refine WP.rb mixed [[], [0], [1], [2], [2], [3], [4]] [[0], [], [], [], [], [], []] [(8, v_l_), (9, .tuple #[.int .i64 z.1, .bool z.2]), (7, .tuple #[.int .i64 z.1, .bool z.2]), (10, .int .i64 z.1), (11, .bool z.2), (3, .int .i64 z.1), (4, .bool z.2)] (by kernel_rfl) ⟨mE rfl rfl h0,
 fun ρz wz hE hA _ ⟨u0, _⟩ => core_call rfl (call_args1 u0) cf_63 (career_Birth_ok  _ (H_l_.exn (hA rfl)).no hz),
 mU rfl rfl rfl,
 fun ρz wz hE hA _ ⟨u2, _⟩ => core_val rfl rfl (o_extract u2 (by kernel_rfl)),
 fun ρz wz hE hA _ ⟨u2, _⟩ => core_val rfl rfl (o_extract u2 (by kernel_rfl)),
 aU rfl rfl rfl,
 aU rfl rfl rfl, trivial⟩ ?_
  intro ρ2 w2 hN hf hr
  have h3 := hv hf 5 rfl rfl
  obtain ⟨h0, h2⟩ := k2 hr h0 h2 rfl
  have Hb_b2_n := Hb_b2_.exn hN
  have H_l_ := H_l_.exn hN
  have hW := hW.trans hN
  have Hb_b2_ := Hb_b2_n
  refine WP.seq ?_
  obtain ⟨z2, hz2, hF⟩ := obind hF
  refine WP.rb mixed [[], [0], [1], [2], [2], [3], [4]] [[0], [], [], [], [], [], []] [(13, v_l_), (14, .tuple #[.int .i64 z2.1, .bool z2.2]), (12, .tuple #[.int .i64 z2.1, .bool z2.2]), (15, .int .i64 z2.1), (16, .bool z2.2), (5, .int .i64 z2.1), (6, .bool z2.2)] (by kernel_rfl) ⟨mE rfl rfl h0,
 fun ρz wz hE hA _ ⟨u0, _⟩ => core_call rfl (call_args1 u0) cf_58 (career_Death_ok  _ (H_l_.exn (hA rfl)).no hz2),
 mU rfl rfl rfl,
 fun ρz wz hE hA _ ⟨u2, _⟩ => core_val rfl rfl (o_extract u2 (by kernel_rfl)),
 fun ρz wz hE hA _ ⟨u2, _⟩ => core_val rfl rfl (o_extract u2 (by kernel_rfl)),
 aU rfl rfl rfl,
 aU rfl rfl rfl, trivial⟩ ?_
  intro ρ3 w3 hN hf hr
  have h5 := hv hf 5 rfl rfl
  have h6 := hv hf 6 rfl rfl
  obtain ⟨h2, h3⟩ := k2 hr h2 h3 rfl
  have Hb_b2_n := Hb_b2_.exn hN
  have hW := hW.trans hN
  have Hb_b2_ := Hb_b2_n
  refine WP.seqJ (fun ρ w => ∃ death_ : Int, ρ 2 = .pointer (some ⟨b2_, 0, none⟩) ∧ ρ 3 = .int .i64 z.1 ∧ ρ 5 = .int .i64 death_ ∧ Mb w b2_ 36 (Span.cells (⟨0, 0⟩ : Span)) ∧ Ext noG w0 w ∧ career_Life_j z death_ = some r) ?_ ?_
  · refine WP.seq (WP.rb mixed [[], [0]] [[6], []] [(17, .bool z2.2), (18, .bool (!z2.2))] (by kernel_rfl) ⟨mE rfl rfl h6,
 fun ρz wz hE hA _ ⟨u0, _⟩ => core_val rfl rfl (o_not u0 rfl), trivial⟩ ?_)
    intro ρ8 w8 hN hf hr
    have h18 := hv hf 1 rfl rfl
    obtain ⟨h2, h3, h5⟩ := k3 hr h2 h3 h5 rfl
    have Hb_b2_n := Hb_b2_.exn hN
    have hW := hW.trans hN
    have Hb_b2_ := Hb_b2_n
    refine WP.cond rfl h18 (fun hb => ?_) (fun hb => ?_)
    · have hF := (if_pos hb).symm.trans hF
      refine WP.rb mixed [[]] [[]] [(5, .int .i64 73048)] (by kernel_rfl) ⟨aC rfl rfl (fun _ => rfl), trivial⟩ ?_
      intro ρ9 w9 hN hf hr
      have h5 := hv hf 0 rfl rfl
      obtain ⟨h2, h3⟩ := k2 hr h2 h3 rfl
      have Hb_b2_n := Hb_b2_.exn hN
      have hW := hW.trans hN
      have Hb_b2_ := Hb_b2_n
      exact ⟨73048, h2, h3, h5, Hb_b2_, hW, hF⟩
    have hF := (if_neg (Bool.eq_false_iff.1 hb)).symm.trans hF
    refine WP.skip ?_
    exact ⟨z2.1, h2, h3, h5, Hb_b2_, hW, hF⟩
  rintro ρ4 w4 ⟨death_, h2, h3, h5, Hb_b2_, hW, hF⟩
  rw [career_Life_j] at hF
  refine WP.seq (WP.seq (WP.rb mixed [[], [], [0, 1]] [[5], [3], []] [(19, .int .i64 death_), (20, .int .i64 z.1), (21, .bool (decide (death_ < z.1)))] (by kernel_rfl) ⟨mE rfl rfl h5,
 mE rfl rfl h3,
 fun ρz wz hE hA _ ⟨u0, u1, _⟩ => core_val rfl rfl (o_lss u0 u1 rfl), trivial⟩ ?_))
  intro ρ5 w5 hN hf hr
  have h21 := hv hf 2 rfl rfl
  obtain ⟨h2, h3, h5⟩ := k3 hr h2 h3 h5 rfl
  have Hb_b2_n := Hb_b2_.exn hN
  have hW := hW.trans hN
  have Hb_b2_ := Hb_b2_n
  refine WP.cond rfl h21 (fun hb => ?_) (fun hb => ?_)
  · have hF := (if_pos hb).symm.trans hF
    refine WP.seq (WP.region mixed [[], [0]] [[], [0]] [[], [2]] [1] [] [val 22 (Span.val (⟨0, 0⟩ : Span)), (2, fun _ wz => Mb wz b2_ 36 (Span.cells (⟨0, 0⟩ : Span)))] (fun x => x = b2_) (by kernel_rfl) ⟨sV, fun _ _ _ hE hM => hM.exn hE, trivial⟩ ⟨fun ρz wz hE hA _ _ => core_val rfl rfl (o_build (by simp) (bd_36_  _)),
 fun ρz wz hE hA ⟨e2, _⟩ ⟨u0, _⟩ => core_storeBox rfl rfl (fun _ h => h) (e2.trans h2) u0 (Hb_b2_.exn (hA rfl)) (fun a w => st_36 _ a w) rfl (one_36 _), trivial⟩ ?_)
    intro ρ6 w6 hE hN hf hr
    have h2 := (hr 2 rfl).trans h2
    have Hb_b2_n := hf 1 rfl
    have hW := Ext.own hW hE (fun x h => h.symm ▸ hB_b2_)
    have Hb_b2_ := Hb_b2_n
    refine WP.ret ?_
    show retQ Tryz.prog 27 Tryz.f35 (fun v w1 => v = Span.val r ∧ Ext noG w0 w1) .ret ρ6 w6
    obtain rfl := Option.some.inj hF
    exact resC rfl (by decide) h2 (run_loadN (cs := (Span.cells (⟨0, 0⟩ : Span))) (lr_36 _ _) rfl Hb_b2_.ca) ⟨rfl, hW⟩
  have hF := (if_neg (Bool.eq_false_iff.1 hb)).symm.trans hF
  refine WP.skip (WP.seq (WP.region mixed [[], [], [1], [0, 2], [3]] [[], [], [1], [0, 2], [3]] [[3], [5], [], [], [2]] [4] [] [val 23 (.int .i64 z.1), val 24 (.int .i64 death_), val 25 (.int .i64 (i64 (death_ + 1))), val 26 (Span.val (⟨z.1, i64 (death_ + 1)⟩ : Span)), (2, fun _ wz => Mb wz b2_ 36 (Span.cells (⟨z.1, i64 (death_ + 1)⟩ : Span)))] (fun x => x = b2_) (by kernel_rfl) ⟨sV, sV, sV, sV, fun _ _ _ hE hM => hM.exn hE, trivial⟩ ⟨mE rfl rfl h3,
 mE rfl rfl h5,
 fun ρz wz hE hA _ ⟨u1, _⟩ => core_val rfl rfl (o_add u1 rfl rfl),
 fun ρz wz hE hA _ ⟨u0, u2, _⟩ => core_val rfl rfl (o_build (build_parts2 u0 u2) (bd_36_0_1 _ _ _)),
 fun ρz wz hE hA ⟨e2, _⟩ ⟨u3, _⟩ => core_storeBox rfl rfl (fun _ h => h) (e2.trans h2) u3 (Hb_b2_.exn (hA rfl)) (fun a w => st_36 _ a w) rfl (one_36 _), trivial⟩ ?_))
  intro ρ7 w7 hE hN hf hr
  have h2 := (hr 2 rfl).trans h2
  have Hb_b2_n := hf 4 rfl
  have hW := Ext.own hW hE (fun x h => h.symm ▸ hB_b2_)
  have Hb_b2_ := Hb_b2_n
  refine WP.ret ?_
  show retQ Tryz.prog 27 Tryz.f35 (fun v w1 => v = Span.val r ∧ Ext noG w0 w1) .ret ρ7 w7
  obtain rfl := Option.some.inj hF
  exact resC rfl (by decide) h2 (run_loadN (cs := (Span.cells (⟨z.1, i64 (death_ + 1)⟩ : Span))) (lr_36 _ _) rfl Hb_b2_.ca) ⟨rfl, hW⟩

set_option maxHeartbeats 4000000 in
theorem spans_Contains_1_ok {w0 : World} (s_ : Span) (c_ : Int) {bc1_ : Nat} (Hb_bc1_ : Mb w0 bc1_ 3 [Value.int .i64 c_]) {r : Bool} (hF : spans_Contains_1 s_ c_ = some r) :
    Calls Tryz.prog 62 #[Span.val s_, .pointer (some ⟨bc1_, 0, none⟩)] w0 fun e w1 => e = .returned (.bool r) ∧ Ext noG w0 w1 := by
  refine (Calls.start (P := Tryz.prog) (args := [Span.val s_, .pointer (some ⟨bc1_, 0, none⟩)]) (R := fun v w1 => v = .bool r ∧ Ext noG w0 w1) (n := 14) (w := w0) Tryz.func62 rfl rfl (Nat.le_of_ble_eq_true rfl) (fun ρ hargs => ?_)).mono (fun e w1 ⟨v, he, hv, hE⟩ => ⟨hv ▸ he, hE⟩)
  have h0 := hargs 0 _ rfl
  have h1 := hargs 1 _ rfl
  have hW := Ext.refl noG w0
  rw [spans_Contains_1] at hF
  refine WP.seq (WP.rg mixed [[], []] [[], []] [[0], []] [(2, fun u wz => ∃ b, u = .pointer (some ⟨b, 0, none⟩) ∧ w0.heap.size ≤ b ∧ Mb wz b 36 (Span.cells s_)), val 3 (.bool false)] (by kernel_rfl) ⟨fun _ _ _ hE ⟨b, hb, hs, hM⟩ => ⟨b, hb, hs, hM.exn hE⟩, sV, trivial⟩ ⟨fun ρz wz hE hA ⟨e0, _⟩ _ => core_new rfl rfl hE (o_box (e0.trans h0) (bx_36 _ _)),
 aC rfl rfl (fun _ => rfl), trivial⟩ ?_)
  intro ρ1 w1 hN hf hr
  obtain ⟨b2_, h2, hge_b2_, Hb_b2_⟩ := hf 0 rfl
  have h1 := (hr 1 rfl).trans h1
  have Hb_bc1_n := Hb_bc1_.exn hN
  have hB_b2_ : w0.heap.size ≤ b2_ := Nat.le_trans hW.size hge_b2_
  have hW := hW.trans hN
  have Hb_bc1_ := Hb_bc1_n
  refine WP.seq (WP.rb mixed [[], [0], [], [1, 2], [3], [4], [4], [4, 6], [4, 5, 7], [4, 8], [9]] [[2], [], [1], [], [], [1], [2], [], [], [], []] [(4, .pointer (some ((⟨b2_, 0, none⟩ : Addr).add 0))), (5, .int .i64 s_.From), (6, .int .i64 c_), (7, .bool (decide (s_.From ≤ c_))), (8, .bool (decide (s_.From ≤ c_))), (9, gv (decide (s_.From ≤ c_)) (.int .i64 c_)), (10, gv (decide (s_.From ≤ c_)) (.pointer (some ((⟨b2_, 0, none⟩ : Addr).add 1)))), (11, gv (decide (s_.From ≤ c_)) (.int .i64 s_.To)), (12, gv (decide (s_.From ≤ c_)) (.bool (decide (c_ < s_.To)))), (13, .bool (decide (s_.From ≤ c_) && decide (c_ < s_.To))), (3, .bool (decide (s_.From ≤ c_) && decide (c_ < s_.To)))] (by kernel_rfl) ⟨fun ρz wz hE hA ⟨e2, _⟩ _ => core_val rfl rfl (o_fieldAddr (e2.trans h2) (fa_36_0 _ _)),
 fun ρz wz hE hA _ ⟨u0, _⟩ => core_val rfl rfl (o_load u0 (run_load1 (lr_3 _ _) (CA.sub ((Hb_b2_.exn (hA rfl)).ca) 0 1))),
 fun ρz wz hE hA ⟨e1, _⟩ _ => core_val rfl rfl (o_load (e1.trans h1) (run_load1 (lr_3 _ _) ((Hb_bc1_.exn (hA rfl)).ca))),
 fun ρz wz hE hA _ ⟨u1, u2, _⟩ => core_val rfl rfl (o_leq u1 u2 rfl),
 mU rfl rfl rfl,
 fun ρz wz hE hA ⟨e1, _⟩ ⟨u4, _⟩ => gIf rfl rfl (yT rfl u4) fun gc F hF => core_val rfl hF (o_load (e1.trans h1) (run_load1 (lr_3 _ _) ((Hb_bc1_.exn (hA rfl)).ca))),
 fun ρz wz hE hA ⟨e2, _⟩ ⟨u4, _⟩ => gIf rfl rfl (yT rfl u4) fun gc F hF => core_val rfl hF (o_fieldAddr (e2.trans h2) (fa_36_1 _ _)),
 fun ρz wz hE hA _ ⟨u4, u6, _⟩ => gIf rfl rfl (yT rfl u4) fun gc F hF => core_val rfl hF (o_load (gt gc u6) (run_load1 (lr_3 _ _) (CA.sub ((Hb_b2_.exn (hA rfl)).ca) 1 1))),
 fun ρz wz hE hA _ ⟨u4, u5, u7, _⟩ => gIf rfl rfl (yT rfl u4) fun gc F hF => core_val rfl hF (o_lss (gt gc u5) (gt gc u7) rfl),
 fun ρz wz hE hA _ ⟨u4, u8, _⟩ => core_val rfl rfl (o_pick_and u4 u8 rfl),
 aU rfl rfl rfl, trivial⟩ ?_)
  intro ρ2 w2 hN hf hr
  have h3 := hv hf 10 rfl rfl
  have hW := hW.trans hN
  refine WP.ret ?_
  show retQ Tryz.prog 14 Tryz.f62 (fun v w1 => v = .bool r ∧ Ext noG w0 w1) .ret ρ2 w2
  obtain rfl := Option.some.inj hF
  exact res1 rfl (by decide) h3 ⟨rfl, hW⟩

set_option maxHeartbeats 4000000 in
theorem slices_IndexFunc_of_api_Span_ok {w0 : World} (s_ : List Span) (f_ : Span → Option Bool) {v_s_ : Value} (H_s_ : RepSl Span.R noG w0 v_s_ s_) {v_f_ : Value} (H_f_ : FnR Tryz.prog fnV_90 fnW_90 f_ noG w0 v_f_) {r : Int} (hF : slices_IndexFunc_of_api_Span s_ f_ = some r) :
    Calls Tryz.prog 89 #[v_s_, v_f_] w0 fun e w1 => e = .returned (.int .i64 r) ∧ Ext noG w0 w1 := by
  refine (Calls.start (P := Tryz.prog) (args := [v_s_, v_f_]) (R := fun v w1 => v = .int .i64 r ∧ Ext noG w0 w1) (n := 19) (w := w0) Tryz.func89 rfl rfl (Nat.le_of_ble_eq_true rfl) (fun ρ hargs => ?_)).mono (fun e w1 ⟨v, he, hv, hE⟩ => ⟨hv ▸ he, hE⟩)
  have h0 := hargs 0 _ rfl
  have h1 := hargs 1 _ rfl
  have hW := Ext.refl noG w0
  obtain ⟨_, _, hs_H_s_, _, _⟩ := RepSl.shape H_s_
  have H_s_ := H_s_.start
  have H_f_ := H_f_.start
  rw [slices_IndexFunc_of_api_Span] at hF
  refine WP.seq (WP.rb mixed [[]] [[]] [(4, .int .i64 0)] (by kernel_rfl) ⟨aC rfl rfl (fun _ => rfl), trivial⟩ ?_)
  intro ρ1 w1 hN hf hr
  obtain ⟨h0, h1⟩ := k2 hr h0 h1 rfl
  have H_s_ := H_s_.exn hN
  have H_f_ := H_f_.exn hN
  have hW := hW.trans hN
  refine WP.seq (WP.seq (WP.rb mixed [[], [0], []] [[0], [], []] [(6, v_s_), (7, .int .i64 (s_.length : Int)), (8, .int .i64 0)] (by kernel_rfl) ⟨mE rfl rfl h0,
 fun ρz wz hE hA _ ⟨u0, _⟩ => core_val rfl rfl (o_len (u0.trans hs_H_s_) len_64),
 mC rfl rfl (fun _ => rfl), trivial⟩ ?_))
  intro ρ2 w2 hN hf hr
  have h7 := hv hf 1 rfl rfl
  have h8 := hv hf 2 rfl rfl
  obtain ⟨h0, h1⟩ := k2 hr h0 h1 rfl
  have H_s_ := H_s_.exn hN
  have H_f_ := H_f_.exn hN
  have hW := hW.trans hN
  refine WP.block (WP.loop (fun k_ ρ w => ∃ x : Int, ρ 0 = v_s_ ∧ ρ 1 = v_f_ ∧ ρ 7 = .int .i64 (s_.length : Int) ∧ ρ 8 = .int .i64 x ∧ RepSl Span.R (gfr noG w0) w v_s_ s_ ∧ FnR Tryz.prog fnV_90 fnW_90 f_ (gfr noG w0) w v_f_ ∧ Ext noG w0 w ∧ loopC k_ (slices_IndexFunc_of_api_Span_l s_ f_) x = some r) FU ⟨0, h0, h1, h7, h8, H_s_, H_f_, hW, hF⟩ (fun _ _ h => by obtain ⟨_, _, _, _, _, _, _, _, h⟩ := h; cases h) ?_)
  rintro k_ ρ3 w3 ⟨x, h0, h1, h7, h8, H_s_, H_f_, hW, hF⟩
  have hF : slices_IndexFunc_of_api_Span_l s_ f_ (loopC k_ (slices_IndexFunc_of_api_Span_l s_ f_)) x = some r := (loopC_succ k_ (slices_IndexFunc_of_api_Span_l s_ f_) x).symm.trans hF
  generalize hrec_ : loopC k_ (slices_IndexFunc_of_api_Span_l s_ f_) = rec_ at hF
  rw [slices_IndexFunc_of_api_Span_l] at hF
  refine WP.seq (WP.rb mixed [[]] [[8, 7]] [(9, .bool (decide (x < (s_.length : Int))))] (by kernel_rfl) ⟨fun ρz wz hE hA ⟨e8, e7, _⟩ _ => core_val rfl rfl (o_lss (e8.trans h8) (e7.trans h7) rfl), trivial⟩ ?_)
  intro ρ4 w4 hN hf hr
  have h9 := hv hf 0 rfl rfl
  obtain ⟨h0, h1, h7, h8⟩ := k4 hr h0 h1 h7 h8 rfl
  have H_s_ := H_s_.exn hN
  have H_f_ := H_f_.exn hN
  have hW := hW.trans hN
  refine WP.seq (WP.cond rfl h9 (fun hb => ?_) (fun hb => ?_))
  · have hF := (if_pos hb).symm.trans hF
    refine WP.skip (WP.seq (WP.block (WP.seq (WP.rb mixed [[], [0]] [[8], []] [(10, .int .i64 x), (5, .int .i64 x)] (by kernel_rfl) ⟨mE rfl rfl h8,
 aU rfl rfl rfl, trivial⟩ ?_))))
    intro ρ5 w5 hN hf hr
    have h5 := hv hf 1 rfl rfl
    obtain ⟨h0, h1, h7, h8⟩ := k4 hr h0 h1 h7 h8 rfl
    have H_s_ := H_s_.exn hN
    have H_f_ := H_f_.exn hN
    have hW := hW.trans hN
    refine WP.seq ?_
    obtain ⟨y, hy, hF⟩ := obind hF
    obtain ⟨ay, cy, hvy, hiy, hAy⟩ := RepSl.getF H_s_ hy
    obtain ⟨z, hz, hF⟩ := obind hF
    refine WP.rb mixed [[], [], [], [1, 2], [3], [0, 4]] [[1], [0], [5], [], [], []] [(11, v_f_), (12, v_s_), (13, .int .i64 x), (14, .pointer (some (ay.add (Int.toNat x * 2)))), (15, Span.val y), (16, .bool z)] (by kernel_rfl) ⟨mE rfl rfl h1,
 mE rfl rfl h0,
 mE rfl rfl h5,
 fun ρz wz hE hA _ ⟨u1, u2, _⟩ => core_val rfl rfl (o_indexAddr (u1.trans hvy) u2 (ia_64 hiy)),
 fun ρz wz hE hA _ ⟨u3, _⟩ => core_val rfl rfl (o_load u3 (run_loadN (cs := (Span.cells y)) (lr_36 _ _) rfl ((hAy.exn (hA rfl)).ca))),
 fun ρz wz hE hA _ ⟨u0, u4, _⟩ => core_callF (V := fnV_90) (W := fnW_90) (a := y) (r := z) rfl u0 (call_args1 u4) (H_f_.exn (hA rfl)).no hz, trivial⟩ ?_
    intro ρ6 w6 hN hf hr
    have h16 := hv hf 5 rfl rfl
    obtain ⟨h0, h1, h7, h8, h5⟩ := k5 hr h0 h1 h7 h8 h5 rfl
    have H_s_ := H_s_.exn hN
    have H_f_ := H_f_.exn hN
    have hW := hW.trans hN
    refine WP.cond rfl h16 (fun hb => ?_) (fun hb => ?_)
    · have hF := (if_pos hb).symm.trans hF
      refine WP.seq (WP.rb mixed [[], [0]] [[5], []] [(17, .int .i64 x), (4, .int .i64 x)] (by kernel_rfl) ⟨mE rfl rfl h5,
 aU rfl rfl rfl, trivial⟩ ?_)
      intro ρ7 w7 hN hf hr
      have h4 := hv hf 1 rfl rfl
      have hW := hW.trans hN
      refine WP.ret ?_
      show retQ Tryz.prog 19 Tryz.f89 (fun v w1 => v = .int .i64 r ∧ Ext noG w0 w1) .ret ρ7 w7
      obtain rfl := Option.some.inj hF
      exact res1 rfl (by decide) h4 ⟨rfl, hW⟩
    have hF := (if_neg (Bool.eq_false_iff.1 hb)).symm.trans hF
    refine WP.skip (WP.rb mixed [[], [0]] [[8], []] [(18, .int .i64 (i64 (x + 1))), (8, .int .i64 (i64 (x + 1)))] (by kernel_rfl) ⟨fun ρz wz hE hA ⟨e8, _⟩ _ => core_val rfl rfl (o_add (e8.trans h8) rfl rfl),
 mU rfl rfl rfl, trivial⟩ ?_)
    intro ρ8 w8 hN hf hr
    have h8 := hv hf 1 rfl rfl
    obtain ⟨h0, h1, h7⟩ := k3 hr h0 h1 h7 rfl
    have H_s_ := H_s_.exn hN
    have H_f_ := H_f_.exn hN
    have hW := hW.trans hN
    exact ⟨i64 (x + 1), h0, h1, h7, h8, H_s_, H_f_, hW, (by first | exact hF | (rw [hrec_]; exact hF))⟩
  have hF := (if_neg (Bool.eq_false_iff.1 hb)).symm.trans hF
  refine WP.exit (thenQ_exit (thenQ_exit (blockQ_hit (WP.seq (WP.rb mixed [[]] [[]] [(4, .int .i64 (-1))] (by kernel_rfl) ⟨aC rfl rfl (fun _ => rfl), trivial⟩ ?_)))))
  intro ρ9 w9 hN hf hr
  have h4 := hv hf 0 rfl rfl
  have hW := hW.trans hN
  refine WP.ret ?_
  show retQ Tryz.prog 19 Tryz.f89 (fun v w1 => v = .int .i64 r ∧ Ext noG w0 w1) .ret ρ9 w9
  obtain rfl := Option.some.inj hF
  exact res1 rfl (by decide) h4 ⟨rfl, hW⟩

set_option maxHeartbeats 4000000 in
theorem slices_ContainsFunc_of_api_Span_ok {w0 : World} (s_ : List Span) (f_ : Span → Option Bool) {v_s_ : Value} (H_s_ : RepSl Span.R noG w0 v_s_ s_) {v_f_ : Value} (H_f_ : FnR Tryz.prog fnV_90 fnW_90 f_ noG w0 v_f_) {r : Bool} (hF : slices_ContainsFunc_of_api_Span s_ f_ = some r) :
    Calls Tryz.prog 61 #[v_s_, v_f_] w0 fun e w1 => e = .returned (.bool r) ∧ Ext noG w0 w1 := by
  refine (Calls.start (P := Tryz.prog) (args := [v_s_, v_f_]) (R := fun v w1 => v = .bool r ∧ Ext noG w0 w1) (n := 9) (w := w0) Tryz.func61 rfl rfl (Nat.le_of_ble_eq_true rfl) (fun ρ hargs => ?_)).mono (fun e w1 ⟨v, he, hv, hE⟩ => ⟨hv ▸ he, hE⟩)
  have h0 := hargs 0 _ rfl
  have h1 := hargs 1 _ rfl
  have hW := Ext.refl noG w0
  obtain ⟨_, _, hs_H_s_, _, _⟩ := RepSl.shape H_s_
  have H_s_ := H_s_.start
  have H_f_ := H_f_.start
  rw [slices_ContainsFunc_of_api_Span] at hF
  refine WP.seq (WP.rb mixed [[]] [[]] [(4, .bool false)] (by kernel_rfl) ⟨aC rfl rfl (fun _ => rfl), trivial⟩ ?_)
  intro ρ1 w1 hN hf hr
  obtain ⟨h0, h1⟩ := k2 hr h0 h1 rfl
  have H_s_ := H_s_.exn hN
  have H_f_ := H_f_.exn hN
  have hW := hW.trans hN
  refine WP.seq ?_
  obtain ⟨z, hz, hF⟩ := obind hF
  refine WP.rb mixed [[], [], [0, 1], [2], [3]] [[0], [1], [], [], []] [(5, v_s_), (6, v_f_), (7, .int .i64 z), (8, .bool (decide (0 ≤ z))), (4, .bool (decide (0 ≤ z)))] (by kernel_rfl) ⟨mE rfl rfl h0,
 mE rfl rfl h1,
 fun ρz wz hE hA _ ⟨u0, u1, _⟩ => core_call rfl (call_args2 u0 u1) cf_89 (slices_IndexFunc_of_api_Span_ok  _ _ (H_s_.exn (hA rfl)).no (H_f_.exn (hA rfl)).no hz),
 fun ρz wz hE hA _ ⟨u2, _⟩ => core_val rfl rfl (o_geq u2 rfl rfl),
 aU rfl rfl rfl, trivial⟩ ?_
  intro ρ2 w2 hN hf hr
  have h4 := hv hf 4 rfl rfl
  have hW := hW.trans hN
  refine WP.ret ?_
  show retQ Tryz.prog 9 Tryz.f61 (fun v w1 => v = .bool r ∧ Ext noG w0 w1) .ret ρ2 w2
  obtain rfl := Option.some.inj hF
  exact res1 rfl (by decide) h4 ⟨rfl, hW⟩

set_option maxHeartbeats 4000000 in
theorem spans_Contains_ok {w0 : World} (l_ : List Span) (day_ : Int) {v_l_ : Value} (H_l_ : RepSl Span.R noG w0 v_l_ l_) {r : Bool} (hF : spans_Contains l_ day_ = some r) :
    Calls Tryz.prog 34 #[v_l_, .int .i64 day_] w0 fun e w1 => e = .returned (.bool r) ∧ Ext noG w0 w1 := by
  refine (Calls.start (P := Tryz.prog) (args := [v_l_, .int .i64 day_]) (R := fun v w1 => v = .bool r ∧ Ext noG w0 w1) (n := 14) (w := w0) Tryz.func34 rfl rfl (Nat.le_of_ble_eq_true rfl) (fun ρ hargs => ?_)).mono (fun e w1 ⟨v, he, hv, hE⟩ => ⟨hv ▸ he, hE⟩)
  have h0 := hargs 0 _ rfl
  have h1 := hargs 1 _ rfl
  have hW := Ext.refl noG w0
  obtain ⟨_, _, hs_H_l_, _, _⟩ := RepSl.shape H_l_
  have H_l_ := H_l_.start
  rw [spans_Contains] at hF
  refine WP.seq (WP.rg mixed [[], []] [[], []] [[1], []] [(3, fun u wz => ∃ b, u = .pointer (some ⟨b, 0, none⟩) ∧ w0.heap.size ≤ b ∧ Mb wz b 3 [Value.int .i64 day_]), val 4 (.bool false)] (by kernel_rfl) ⟨fun _ _ _ hE ⟨b, hb, hs, hM⟩ => ⟨b, hb, hs, hM.exn hE⟩, sV, trivial⟩ ⟨fun ρz wz hE hA ⟨e1, _⟩ _ => core_new rfl rfl hE (o_box (e1.trans h1) (bx_3 _ _)),
 aC rfl rfl (fun _ => rfl), trivial⟩ ?_)
  intro ρ1 w1 hN hf hr
  obtain ⟨b3_, h3, hge_b3_, Hb_b3_⟩ := hf 0 rfl
  have h0 := (hr 0 rfl).trans h0
  have H_l_ := H_l_.exn hN
  have hB_b3_ : w0.heap.size ≤ b3_ := Nat.le_trans hW.size hge_b3_
  have hW := hW.trans hN
  refine WP.seq (WP.seq (WP.rb mixed [[], [0], [1], [2], [2, 3], [2, 4]] [[3], [], [], [3], [], []] [(5, .int .i64 day_), (6, .bool (decide (day_ < 0))), (7, .bool (decide (day_ < 0))), (8, gv (!(decide (day_ < 0))) (.int .i64 day_)), (9, gv (!(decide (day_ < 0))) (.bool (decide (73049 ≤ day_)))), (10, .bool (decide (day_ < 0) || decide (73049 ≤ day_)))] (by kernel_rfl) ⟨fun ρz wz hE hA ⟨e3, _⟩ _ => core_val rfl rfl (o_load (e3.trans h3) (run_load1 (lr_3 _ _) ((Hb_b3_.exn (hA rfl)).ca))),
 fun ρz wz hE hA _ ⟨u0, _⟩ => core_val rfl rfl (o_lss u0 rfl rfl),
 mU rfl rfl rfl,
 fun ρz wz hE hA ⟨e3, _⟩ ⟨u2, _⟩ => gIf rfl rfl (yF rfl u2) fun gc F hF => core_val rfl hF (o_load (e3.trans h3) (run_load1 (lr_3 _ _) ((Hb_b3_.exn (hA rfl)).ca))),
 fun ρz wz hE hA _ ⟨u2, u3, _⟩ => gIf rfl rfl (yF rfl u2) fun gc F hF => core_val rfl hF (o_geq (gt gc u3) rfl rfl),
 fun ρz wz hE hA _ ⟨u2, u4, _⟩ => core_val rfl rfl (o_pick_or u2 rfl u4), trivial⟩ ?_))
  intro ρ2 w2 hN hf hr
  have h10 := hv hf 5 rfl rfl
  obtain ⟨h0, h3⟩ := k2 hr h0 h3 rfl
  have Hb_b3_n := Hb_b3_.exn hN
  have H_l_ := H_l_.exn hN
  have hW := hW.trans hN
  have Hb_b3_ := Hb_b3_n
  refine WP.cond rfl h10 (fun hb => ?_) (fun hb => ?_)
  · have hF := (if_pos hb).symm.trans hF
    refine WP.seq (WP.rb mixed [[]] [[]] [(4, .bool false)] (by kernel_rfl) ⟨aC rfl rfl (fun _ => rfl), trivial⟩ ?_)
    intro ρ3 w3 hN hf hr
    have h4 := hv hf 0 rfl rfl
    have hW := hW.trans hN
    refine WP.ret ?_
    show retQ Tryz.prog 14 Tryz.f34 (fun v w1 => v = .bool r ∧ Ext noG w0 w1) .ret ρ3 w3
    obtain rfl := Option.some.inj hF
    exact res1 rfl (by decide) h4 ⟨rfl, hW⟩
  have hF := (if_neg (Bool.eq_false_iff.1 hb)).symm.trans hF
  refine WP.skip (WP.seq ?_)
  obtain ⟨z, hz, hF⟩ := obind hF
  refine WP.rb mixed [[], [], [0, 1], [2]] [[0], [3], [], []] [(11, v_l_), (12, .func (.func 62) #[] #[.pointer (some ⟨b3_, 0, none⟩)]), (13, .bool z), (4, .bool z)] (by kernel_rfl) ⟨mE rfl rfl h0,
 fun ρz wz hE hA ⟨e3, _⟩ _ => core_val rfl rfl (o_makeFunc (call_args1 (e3.trans h3))),
 fun ρz wz hE hA _ ⟨u0, u1, _⟩ => core_call rfl (call_args2 u0 u1) cf_61 (slices_ContainsFunc_of_api_Span_ok  _ _ (H_l_.exn (hA rfl)).no (FnR.mk (V := fnV_90) (W := fnW_90) (G := noG) (cap := [.pointer (some ⟨b3_, 0, none⟩)]) cf_62 (fun w' hE' x r hr => spans_Contains_1_ok _ _ ((Hb_b3_.exn (hA rfl)).exn hE') hr)) hz),
 aU rfl rfl rfl, trivial⟩ ?_
  intro ρ4 w4 hN hf hr
  have h4 := hv hf 3 rfl rfl
  have hW := hW.trans hN
  refine WP.ret ?_
  show retQ Tryz.prog 14 Tryz.f34 (fun v w1 => v = .bool r ∧ Ext noG w0 w1) .ret ρ4 w4
  obtain rfl := Option.some.inj hF
  exact res1 rfl (by decide) h4 ⟨rfl, hW⟩

set_option maxHeartbeats 4000000 in
theorem career_Residence_ok {w0 : World} (d_ : List api_Fact) (i_ : Int) {v_d_ : Value} (H_d_ : RepSl api_Fact.R noG w0 v_d_ d_) {r : Int × Bool} (hF : career_Residence d_ i_ = some r) :
    Calls Tryz.prog 17 #[v_d_, .int .i64 i_] w0 fun e w1 => e = .returned (.tuple #[.int .i64 r.1, .bool r.2]) ∧ Ext noG w0 w1 := by
  refine (Calls.start (P := Tryz.prog) (args := [v_d_, .int .i64 i_]) (R := fun v w1 => v = .tuple #[.int .i64 r.1, .bool r.2] ∧ Ext noG w0 w1) (n := 82) (w := w0) Tryz.func17 rfl rfl (Nat.le_of_ble_eq_true rfl) (fun ρ hargs => ?_)).mono (fun e w1 ⟨v, he, hv, hE⟩ => ⟨hv ▸ he, hE⟩)
  have h0 := hargs 0 _ rfl
  have h1 := hargs 1 _ rfl
  have hW := Ext.refl noG w0
  obtain ⟨_, _, hs_H_d_, _, _⟩ := RepSl.shape H_d_
  have H_d_ := H_d_.start
  rw [career_Residence] at hF
  refine WP.seq (WP.rb mixed [[], []] [[], []] [(4, .int .i64 0), (5, .bool false)] (by kernel_rfl) ⟨aC rfl rfl (fun _ => rfl),
 aC rfl rfl (fun _ => rfl), trivial⟩ ?_)
  intro ρ1 w1 hN hf hr
  obtain ⟨h0, h1⟩ := k2 hr h0 h1 rfl
  have H_d_ := H_d_.exn hN
  have hW := hW.trans hN
  refine WP.seq (WP.seq ?_)
  obtain ⟨z, hz, hF⟩ := obind hF
  obtain ⟨c, hc, hF⟩ := obind hF
  obtain ⟨z2, hz2, hc⟩ := orB hc
  obtain ⟨z3, hz3, hc⟩ := orB hc
  have hc := orE hc
  refine WP.rg mixed [[], [0], [1], [2], [3], [3, 4], [3, 5], [3], [3, 6, 7], [3, 8], [3, 9]] [[], [0], [1], [2], [3], [3, 4], [3, 5], [3], [3, 6, 7], [3, 8], [3, 9]] [[1], [], [], [], [0], [], [], [1], [], [], []] [val 10 (.int .i64 i_), val 11 (.bool z), val 12 (.bool (!z)), val 13 (.bool (!z)), val 14 (gv (!(!z)) v_d_), val 15 (gv (!(!z)) (Span.val z2)), (16, fun u wz => (!(!z)) = true → (fun u wz => ∃ b, u = .slice (some ⟨b, 0, none⟩) 1 1 ∧ w1.heap.size ≤ b ∧ Mb wz b 36 (([z2]).flatMap Span.cells)) u wz), val 17 (gv (!(!z)) (.int .i64 i_)), val 18 (gv (!(!z)) (.bool z3)), val 19 (gv (!(!z)) (.bool (!z3))), val 20 (.bool c)] (by kernel_rfl) ⟨sV, sV, sV, sV, sV, sV, stabI (Φ := fun u wz => ∃ b, u = .slice (some ⟨b, 0, none⟩) 1 1 ∧ w1.heap.size ≤ b ∧ Mb wz b 36 (([z2]).flatMap Span.cells)) (fun _ _ _ hE ⟨b, hz, hs, hM⟩ => ⟨b, hz, hs, hM.exn hE⟩), sV, sV, sV, sV, trivial⟩ ⟨mE rfl rfl h1,
 fun ρz wz hE hA _ ⟨u0, _⟩ => core_call rfl (call_args1 u0) cf_33 (calendar_Valid_ok  _  hz),
 fun ρz wz hE hA _ ⟨u1, _⟩ => core_val rfl rfl (o_not u1 rfl),
 mU rfl rfl rfl,
 fun ρz wz hE hA ⟨e0, _⟩ ⟨u3, _⟩ => gIf rfl rfl (yF rfl u3) fun gc F hF => core_val rfl hF (o_move (e0.trans h0)),
 fun ρz wz hE hA _ ⟨u3, u4, _⟩ => gIf rfl rfl (yF rfl u3) fun gc F hF => core_call hF (call_args1 (gt gc u4)) cf_35 (career_Life_ok  _ (H_d_.exn (hA rfl)).no (hz2 gc)),
 fun ρz wz hE hA _ ⟨u3, u5, _⟩ => gIfR rfl (yF rfl u3) fun gc F hF => core_slice rfl hF hE (o_buildSlice (build_parts1 (gt gc u5)) (bs_64_1 _ _)),
 fun ρz wz hE hA ⟨e1, _⟩ ⟨u3, _⟩ => gIf rfl rfl (yF rfl u3) fun gc F hF => core_val rfl hF (o_move (e1.trans h1)),
 fun ρz wz hE hA _ ⟨u3, u6, u7, _⟩ => gIf rfl rfl (yF rfl u3) fun gc F hF => let ⟨bz6, hzn6, hge6, hM6⟩ := u6 gc; core_call hF (call_args2 hzn6 (gt gc u7)) cf_34 (spans_Contains_ok  _ _ (Mb.rep (n := 2) (cells := Span.cells) (hn := fun _ => rfl) (G := noG) hM6 rfl (Nat.le_of_ble_eq_true rfl) (fun h => h)).no (hz3 gc)),
 fun ρz wz hE hA _ ⟨u3, u8, _⟩ => gIf rfl rfl (yF rfl u3) fun gc F hF => core_val rfl hF (o_not (gt gc u8) rfl),
 fun ρz wz hE hA _ ⟨u3, u9, _⟩ => core_valE rfl rfl (congrArg Value.bool hc) (o_pick_or u3 rfl u9), trivial⟩ ?_
  intro ρ2 w2 hN hf hr
  have h20 : ρ2 20 = .bool c := hf 10 rfl
  obtain ⟨h0, h1⟩ := k2 hr h0 h1 rfl
  have H_d_ := H_d_.exn hN
  have hW := hW.trans hN
  refine WP.cond rfl h20 (fun hb => ?_) (fun hb => ?_)
  · have hF := (if_pos hb).symm.trans hF
    refine WP.seq (WP.rb mixed [[], []] [[], []] [(4, .int .i64 0), (5, .bool false)] (by kernel_rfl) ⟨aC rfl rfl (fun _ => rfl),
 aC rfl rfl (fun _ => rfl), trivial⟩ ?_)
    intro ρ3 w3 hN hf hr
    have h4 := hv hf 0 rfl rfl
    have h5 := hv hf 1 rfl rfl
    have hW := hW.trans hN
    refine WP.ret ?_
    show retQ Tryz.prog 82 Tryz.f17 (fun v w1 => v = .tuple #[.int .i64 r.1, .bool r.2] ∧ Ext noG w0 w1) .ret ρ3 w3
    obtain rfl := Option.some.inj hF
    exact res2 rfl (by decide) (by decide) h4 h5 ⟨rfl, hW⟩
  have hF := (if_neg (Bool.eq_false_iff.1 hb)).symm.trans hF
  refine WP.skip (WP.seq (WP.region mixed [[], [], [0, 1], [2]] [[], [], [0, 1], []] [[], [], [], []] [2] [(1, 2)] [val 21 (api_Fact.val (⟨0, 0, 0, false, 0, 0, 0, (⟨0, 0⟩ : Span), 0, 0, 0, 0, 0⟩ : api_Fact)), (6, fun u wz => ∃ b, u = .pointer (some ⟨b, 0, none⟩) ∧ w2.heap.size ≤ b ∧ Mb wz b 38 (api_Fact.cells (⟨0, 0, 0, false, 0, 0, 0, (⟨0, 0⟩ : Span), 0, 0, 0, 0, 0⟩ : api_Fact))), (6, fun u wz => ∃ b, u = .pointer (some ⟨b, 0, none⟩) ∧ w2.heap.size ≤ b ∧ Mb wz b 38 (api_Fact.cells (⟨0, 0, 0, false, 0, 0, 0, (⟨0, 0⟩ : Span), 0, 0, 0, 0, 0⟩ : api_Fact))), val 7 (.bool false)] (fun b => w2.heap.size ≤ b) (by kernel_rfl) ⟨sV, fun _ _ _ hE ⟨b, hb, hs, hM⟩ => ⟨b, hb, hs, hM.exn hE⟩, fun _ _ _ hE ⟨b, hb, hs, hM⟩ => ⟨b, hb, hs, hM.exn hE⟩, sV, trivial⟩ ⟨fun ρz wz hE hA _ _ => core_val rfl rfl (o_build (by simp) (bd_38_  _)),
 fun ρz wz hE hA _ _ => core_new rfl rfl hE (o_alloc (al_38 _)),
 fun ρz wz hE hA _ ⟨u0, u1, _⟩ => core_storeNew rfl rfl rfl rfl u0 u1 (fun a w => st_38 _ a w) rfl (one_38 _),
 aC rfl rfl (fun _ => rfl), trivial⟩ ?_))
  intro ρ4 w4 hE hN hf hr
  have hN := hE.fresh
  obtain ⟨b6_, h6, hge_b6_, Hb_b6_⟩ := hf 2 rfl
  have h7 : ρ4 7 = .bool false := hf 3 rfl
  obtain ⟨h0, h1⟩ := k2 hr h0 h1 rfl
  have H_d_ := H_d_.exn hN
  have hB_b6_ : w0.heap.size ≤ b6_ := Nat.le_trans hW.size hge_b6_
  have hW := hW.trans hN
  refine WP.seq (WP.seq (WP.rb mixed [[], [0], []] [[0], [], []] [(22, v_d_), (23, .int .i64 (d_.length : Int)), (24, .int .i64 0)] (by kernel_rfl) ⟨mE rfl rfl h0,
 fun ρz wz hE hA _ ⟨u0, _⟩ => core_val rfl rfl (o_len (u0.trans hs_H_d_) len_24),
 mC rfl rfl (fun _ => rfl), trivial⟩ ?_))
  intro ρ5 w5 hN hf hr
  have h22 := hv hf 0 rfl rfl
  have h23 := hv hf 1 rfl rfl
  have h24 := hv hf 2 rfl rfl
  obtain ⟨h1, h6, h7⟩ := k3 hr h1 h6 h7 rfl
  have Hb_b6_n := Hb_b6_.exn hN
  have H_d_ := H_d_.exn hN
  have hW := hW.trans hN
  have Hb_b6_ := Hb_b6_n
  refine WP.block (WP.loop (fun k_ ρ w => ∃ x : Bool, ∃ x2 : Int, ∃ v : api_Fact, ρ 1 = .int .i64 i_ ∧ ρ 6 = .pointer (some ⟨b6_, 0, none⟩) ∧ ρ 7 = .bool x ∧ ρ 22 = v_d_ ∧ ρ 23 = .int .i64 (d_.length : Int) ∧ ρ 24 = .int .i64 x2 ∧ Mb w b6_ 38 (api_Fact.cells v) ∧ RepSl api_Fact.R (gfr noG w0) w v_d_ d_ ∧ Ext noG w0 w ∧ loopC k_ (career_Residence_l d_ i_) (x, x2, v) = some r) FU ⟨false, 0, (⟨0, 0, 0, false, 0, 0, 0, (⟨0, 0⟩ : Span), 0, 0, 0, 0, 0⟩ : api_Fact), h1, h6, h7, h22, h23, h24, Hb_b6_, H_d_, hW, hF⟩ (fun _ _ h => by obtain ⟨_, _, _, _, _, _, _, _, _, _, _, _, h⟩ := h; cases h) ?_)
  rintro k_ ρ6 w6 ⟨x, x2, v, h1, h6, h7, h22, h23, h24, Hb_b6_, H_d_, hW, hF⟩
  have hF : career_Residence_l d_ i_ (loopC k_ (career_Residence_l d_ i_)) (x, x2, v) = some r := (loopC_succ k_ (career_Residence_l d_ i_) (x, x2, v)).symm.trans hF
  generalize hrec_ : loopC k_ (career_Residence_l d_ i_) = rec_ at hF
  rw [career_Residence_l] at hF
  refine WP.seq (WP.rb mixed [[]] [[24, 23]] [(25, .bool (decide (x2 < (d_.length : Int))))] (by kernel_rfl) ⟨fun ρz wz hE hA ⟨e24, e23, _⟩ _ => core_val rfl rfl (o_lss (e24.trans h24) (e23.trans h23) rfl), trivial⟩ ?_)
  intro ρ7 w7 hN hf hr
  have h25 := hv hf 0 rfl rfl
  obtain ⟨h1, h6, h7, h22, h23, h24⟩ := k6 hr h1 h6 h7 h22 h23 h24 rfl
  have Hb_b6_n := Hb_b6_.exn hN
  have H_d_ := H_d_.exn hN
  have hW := hW.trans hN
  have Hb_b6_ := Hb_b6_n
  refine WP.seq (WP.cond rfl h25 (fun hb => ?_) (fun hb => ?_))
  · have hF := (if_pos hb).symm.trans hF
    refine WP.skip (WP.seqJ (fun ρ w => ∃ x3 : Bool, ∃ v2 : api_Fact, ρ 1 = .int .i64 i_ ∧ ρ 6 = .pointer (some ⟨b6_, 0, none⟩) ∧ ρ 7 = .bool x3 ∧ ρ 22 = v_d_ ∧ ρ 23 = .int .i64 (d_.length : Int) ∧ ρ 24 = .int .i64 x2 ∧ Mb w b6_ 38 (api_Fact.cells v2) ∧ RepSl api_Fact.R (gfr noG w0) w v_d_ d_ ∧ Ext noG w0 w ∧ career_Residence_j x2 rec_ x3 v2 = some r) ?_ ?_)
    · refine WP.block (WP.seq ?_)
      obtain ⟨y, hy, hF⟩ := obind hF
      obtain ⟨ay, cy, hvy, hiy, hAy⟩ := RepSl.getF H_d_ hy
      refine WP.region mixed [[], [0], [], [1, 2]] [[], [0], [], [1, 2]] [[22, 24], [], [], []] [3] [(2, 3)] [val 26 (.pointer (some (ay.add (Int.toNat x2 * 14)))), val 27 (api_Fact.val y), (9, fun u wz => ∃ b, u = .pointer (some ⟨b, 0, none⟩) ∧ w7.heap.size ≤ b ∧ Mb wz b 38 (api_Fact.cells (⟨0, 0, 0, false, 0, 0, 0, (⟨0, 0⟩ : Span), 0, 0, 0, 0, 0⟩ : api_Fact))), (9, fun u wz => ∃ b, u = .pointer (some ⟨b, 0, none⟩) ∧ w7.heap.size ≤ b ∧ Mb wz b 38 (api_Fact.cells y))] (fun b => w7.heap.size ≤ b) (by kernel_rfl) ⟨sV, sV, fun _ _ _ hE ⟨b, hb, hs, hM⟩ => ⟨b, hb, hs, hM.exn hE⟩, fun _ _ _ hE ⟨b, hb, hs, hM⟩ => ⟨b, hb, hs, hM.exn hE⟩, trivial⟩ ⟨fun ρz wz hE hA ⟨e22, e24, _⟩ _ => core_val rfl rfl (o_indexAddr ((e22.trans h22).trans hvy) (e24.trans h24) (ia_24 hiy)),
 fun ρz wz hE hA _ ⟨u0, _⟩ => core_val rfl rfl (o_load u0 (run_loadN (cs := (api_Fact.cells y)) (lr_38 _ _) rfl ((hAy.exn hE.fresh).ca))),
 fun ρz wz hE hA _ _ => core_new rfl rfl hE (o_alloc (al_38 _)),
 fun ρz wz hE hA _ ⟨u1, u2, _⟩ => core_storeNew rfl rfl rfl rfl u1 u2 (fun a w => st_38 _ a w) rfl (one_38 _), trivial⟩ ?_
      intro ρ10 w10 hE hN hf hr
      have hN := hE.fresh
      obtain ⟨b9_, h9, hge_b9_, Hb_b9_⟩ := hf 3 rfl
      obtain ⟨h1, h6, h7, h22, h23, h24⟩ := k6 hr h1 h6 h7 h22 h23 h24 rfl
      have Hb_b6_n := Hb_b6_.exn hN
      have H_d_ := H_d_.exn hN
      have hB_b9_ : w0.heap.size ≤ b9_ := Nat.le_trans hW.size hge_b9_
      have hne_b6__b9_ : b6_ ≠ b9_ := Nat.ne_of_lt (Nat.lt_of_lt_of_le Hb_b6_.lt hge_b9_)
      have hW := hW.trans hN
      have Hb_b6_ := Hb_b6_n
      refine WP.seq (WP.seq ?_)
      obtain ⟨z4, hz4, hF⟩ := obind hF
      refine WP.rb mixed [[], [0], [1], [2], [3], [3, 4], [3, 5], [3, 6], [7], [8], [8], [8, 10], [8, 11], [8, 9, 12], [8, 13], [14], [15], [15], [15, 17], [15, 18], [15, 16, 19], [15, 20]] [[9], [], [], [], [9], [], [], [], [], [1], [9], [], [], [], [], [], [1], [9], [], [], [], []] [(28, api_Fact.val y), (29, .bool z4), (30, .bool (!z4)), (31, .bool (!z4)), (32, gv (!(!z4)) (.pointer (some ((⟨b9_, 0, none⟩ : Addr).add 5)))), (33, gv (!(!z4)) (.int .i64 y.Kind)), (34, gv (!(!z4)) (.bool (y.Kind != 5))), (35, .bool ((!z4) || (y.Kind != 5))), (36, .bool ((!z4) || (y.Kind != 5))), (37, gv (!((!z4) || (y.Kind != 5))) (.int .i64 i_)), (38, gv (!((!z4) || (y.Kind != 5))) (.pointer (some ((⟨b9_, 0, none⟩ : Addr).add 7)))), (39, gv (!((!z4) || (y.Kind != 5))) (.pointer (some (((⟨b9_, 0, none⟩ : Addr).add 7).add 0)))), (40, gv (!((!z4) || (y.Kind != 5))) (.int .i64 y.Span.From)), (41, gv (!((!z4) || (y.Kind != 5))) (.bool (decide (i_ < y.Span.From)))), (42, .bool (((!z4) || (y.Kind != 5)) || decide (i_ < y.Span.From))), (43, .bool (((!z4) || (y.Kind != 5)) || decide (i_ < y.Span.From))), (44, gv (!(((!z4) || (y.Kind != 5)) || decide (i_ < y.Span.From))) (.int .i64 i_)), (45, gv (!(((!z4) || (y.Kind != 5)) || decide (i_ < y.Span.From))) (.pointer (some ((⟨b9_, 0, none⟩ : Addr).add 7)))), (46, gv (!(((!z4) || (y.Kind != 5)) || decide (i_ < y.Span.From))) (.pointer (some (((⟨b9_, 0, none⟩ : Addr).add 7).add 1)))), (47, gv (!(((!z4) || (y.Kind != 5)) || decide (i_ < y.Span.From))) (.int .i64 y.Span.To)), (48, gv (!(((!z4) || (y.Kind != 5)) || decide (i_ < y.Span.From))) (.bool (decide (y.Span.To ≤ i_)))), (49, .bool ((((!z4) || (y.Kind != 5)) || decide (i_ < y.Span.From)) || decide (y.Span.To ≤ i_)))] (by kernel_rfl) ⟨fun ρz wz hE hA ⟨e9, _⟩ _ => core_val rfl rfl (o_load (e9.trans h9) (run_loadN (cs := (api_Fact.cells y)) (lr_38 _ _) rfl ((Hb_b9_.exn (hA rfl)).ca))),
 fun ρz wz hE hA _ ⟨u0, _⟩ => core_call rfl (call_args1 u0) cf_36 (career_current_ok  _  hz4),
 fun ρz wz hE hA _ ⟨u1, _⟩ => core_val rfl rfl (o_not u1 rfl),
 mU rfl rfl rfl,
 fun ρz wz hE hA ⟨e9, _⟩ ⟨u3, _⟩ => gIf rfl rfl (yF rfl u3) fun gc F hF => core_val rfl hF (o_fieldAddr (e9.trans h9) (fa_38_5 _ _)),
 fun ρz wz hE hA _ ⟨u3, u4, _⟩ => gIf rfl rfl (yF rfl u3) fun gc F hF => core_val rfl hF (o_load (gt gc u4) (run_load1 (lr_3 _ _) (CA.sub ((Hb_b9_.exn (hA rfl)).ca) 5 1))),
 fun ρz wz hE hA _ ⟨u3, u5, _⟩ => gIf rfl rfl (yF rfl u3) fun gc F hF => core_val rfl hF (o_neq (gt gc u5) rfl rfl),
 fun ρz wz hE hA _ ⟨u3, u6, _⟩ => core_val rfl rfl (o_pick_or u3 rfl u6),
 mU rfl rfl rfl,
 fun ρz wz hE hA ⟨e1, _⟩ ⟨u8, _⟩ => gIf rfl rfl (yF rfl u8) fun gc F hF => core_val rfl hF (o_move (e1.trans h1)),
 fun ρz wz hE hA ⟨e9, _⟩ ⟨u8, _⟩ => gIf rfl rfl (yF rfl u8) fun gc F hF => core_val rfl hF (o_fieldAddr (e9.trans h9) (fa_38_7 _ _)),
 fun ρz wz hE hA _ ⟨u8, u10, _⟩ => gIf rfl rfl (yF rfl u8) fun gc F hF => core_val rfl hF (o_fieldAddr (gt gc u10) (fa_36_0 _ _)),
 fun ρz wz hE hA _ ⟨u8, u11, _⟩ => gIf rfl rfl (yF rfl u8) fun gc F hF => core_val rfl hF (o_load (gt gc u11) (run_load1 (lr_3 _ _) (CA.sub (CA.sub ((Hb_b9_.exn (hA rfl)).ca) 7 2) 0 1))),
 fun ρz wz hE hA _ ⟨u8, u9, u12, _⟩ => gIf rfl rfl (yF rfl u8) fun gc F hF => core_val rfl hF (o_lss (gt gc u9) (gt gc u12) rfl),
 fun ρz wz hE hA _ ⟨u8, u13, _⟩ => core_val rfl rfl (o_pick_or u8 rfl u13),
 mU rfl rfl rfl,
 fun ρz wz hE hA ⟨e1, _⟩ ⟨u15, _⟩ => gIf rfl rfl (yF rfl u15) fun gc F hF => core_val rfl hF (o_move (e1.trans h1)),
 fun ρz wz hE hA ⟨e9, _⟩ ⟨u15, _⟩ => gIf rfl rfl (yF rfl u15) fun gc F hF => core_val rfl hF (o_fieldAddr (e9.trans h9) (fa_38_7 _ _)),
 fun ρz wz hE hA _ ⟨u15, u17, _⟩ => gIf rfl rfl (yF rfl u15) fun gc F hF => core_val rfl hF (o_fieldAddr (gt gc u17) (fa_36_1 _ _)),
 fun ρz wz hE hA _ ⟨u15, u18, _⟩ => gIf rfl rfl (yF rfl u15) fun gc F hF => core_val rfl hF (o_load (gt gc u18) (run_load1 (lr_3 _ _) (CA.sub (CA.sub ((Hb_b9_.exn (hA rfl)).ca) 7 2) 1 1))),
 fun ρz wz hE hA _ ⟨u15, u16, u19, _⟩ => gIf rfl rfl (yF rfl u15) fun gc F hF => core_val rfl hF (o_geq (gt gc u16) (gt gc u19) rfl),
 fun ρz wz hE hA _ ⟨u15, u20, _⟩ => core_val rfl rfl (o_pick_or u15 rfl u20), trivial⟩ ?_
      intro ρ11 w11 hN hf hr
      have h49 := hv hf 21 rfl rfl
      obtain ⟨h1, h6, h7, h22, h23, h24⟩ := k6 hr h1 h6 h7 h22 h23 h24 rfl
      have h9 := (hr 9 rfl).trans h9
      have Hb_b6_n := Hb_b6_.exn hN
      have Hb_b9_n := Hb_b9_.exn hN
      have H_d_ := H_d_.exn hN
      have hW := hW.trans hN
      have Hb_b6_ := Hb_b6_n
      have Hb_b9_ := Hb_b9_n
      refine WP.cond rfl h49 (fun hb => ?_) (fun hb => ?_)
      · have hF := (if_pos hb).symm.trans hF
        refine WP.exit (thenQ_exit (blockQ_hit ?_))
        exact ⟨x, v, h1, h6, h7, h22, h23, h24, Hb_b6_, H_d_, hW, hF⟩
      have hF := (if_neg (Bool.eq_false_iff.1 hb)).symm.trans hF
      refine WP.skip (WP.seq (WP.rb mixed [[], [0], [1], [2], [2, 3], [2, 4], [2], [2, 6], [2, 7], [2, 5, 8], [2, 9], [10], [11], [11, 12], [11, 13], [11], [11, 15], [11, 16], [11, 14, 17], [11, 18], [19], [19, 20], [19], [19, 22], [19, 21, 23], [11, 19, 24], [11, 25]] [[7], [], [], [9], [], [], [6], [], [], [], [], [], [9], [], [], [6], [], [], [], [], [9], [], [6], [], [], [], []] [(50, .bool x), (51, .bool (!x)), (52, .bool (!x)), (53, gv (!(!x)) (.pointer (some ((⟨b9_, 0, none⟩ : Addr).add 7)))), (54, gv (!(!x)) (.pointer (some (((⟨b9_, 0, none⟩ : Addr).add 7).add 0)))), (55, gv (!(!x)) (.int .i64 y.Span.From)), (56, gv (!(!x)) (.pointer (some ((⟨b6_, 0, none⟩ : Addr).add 7)))), (57, gv (!(!x)) (.pointer (some (((⟨b6_, 0, none⟩ : Addr).add 7).add 0)))), (58, gv (!(!x)) (.int .i64 v.Span.From)), (59, gv (!(!x)) (.bool (decide (v.Span.From < y.Span.From)))), (60, .bool ((!x) || decide (v.Span.From < y.Span.From))), (61, .bool ((!x) || decide (v.Span.From < y.Span.From))), (62, gv (!((!x) || decide (v.Span.From < y.Span.From))) (.pointer (some ((⟨b9_, 0, none⟩ : Addr).add 7)))), (63, gv (!((!x) || decide (v.Span.From < y.Span.From))) (.pointer (some (((⟨b9_, 0, none⟩ : Addr).add 7).add 0)))), (64, gv (!((!x) || decide (v.Span.From < y.Span.From))) (.int .i64 y.Span.From)), (65, gv (!((!x) || decide (v.Span.From < y.Span.From))) (.pointer (some ((⟨b6_, 0, none⟩ : Addr).add 7)))), (66, gv (!((!x) || decide (v.Span.From < y.Span.From))) (.pointer (some (((⟨b6_, 0, none⟩ : Addr).add 7).add 0)))), (67, gv (!((!x) || decide (v.Span.From < y.Span.From))) (.int .i64 v.Span.From)), (68, gv (!((!x) || decide (v.Span.From < y.Span.From))) (.bool (y.Span.From == v.Span.From))), (69, gv (!((!x) || decide (v.Span.From < y.Span.From))) (.bool (y.Span.From == v.Span.From))), (70, gv ((!((!x) || decide (v.Span.From < y.Span.From))) && (y.Span.From == v.Span.From)) (.pointer (some ((⟨b9_, 0, none⟩ : Addr).add 6)))), (71, gv ((!((!x) || decide (v.Span.From < y.Span.From))) && (y.Span.From == v.Span.From)) (.int .i64 y.State)), (72, gv ((!((!x) || decide (v.Span.From < y.Span.From))) && (y.Span.From == v.Span.From)) (.pointer (some ((⟨b6_, 0, none⟩ : Addr).add 6)))), (73, gv ((!((!x) || decide (v.Span.From < y.Span.From))) && (y.Span.From == v.Span.From)) (.int .i64 v.State)), (74, gv ((!((!x) || decide (v.Span.From < y.Span.From))) && (y.Span.From == v.Span.From)) (.bool (decide (y.State < v.State)))), (75, gv (!((!x) || decide (v.Span.From < y.Span.From))) (.bool ((y.Span.From == v.Span.From) && decide (y.State < v.State)))), (76, .bool (((!x) || decide (v.Span.From < y.Span.From)) || ((y.Span.From == v.Span.From) && decide (y.State < v.State))))] (by kernel_rfl) ⟨mE rfl rfl h7,
 fun ρz wz hE hA _ ⟨u0, _⟩ => core_val rfl rfl (o_not u0 rfl),
 mU rfl rfl rfl,
 fun ρz wz hE hA ⟨e9, _⟩ ⟨u2, _⟩ => gIf rfl rfl (yF rfl u2) fun gc F hF => core_val rfl hF (o_fieldAddr (e9.trans h9) (fa_38_7 _ _)),
 fun ρz wz hE hA _ ⟨u2, u3, _⟩ => gIf rfl rfl (yF rfl u2) fun gc F hF => core_val rfl hF (o_fieldAddr (gt gc u3) (fa_36_0 _ _)),
 fun ρz wz hE hA _ ⟨u2, u4, _⟩ => gIf rfl rfl (yF rfl u2) fun gc F hF => core_val rfl hF (o_load (gt gc u4) (run_load1 (lr_3 _ _) (CA.sub (CA.sub ((Hb_b9_.exn (hA rfl)).ca) 7 2) 0 1))),
 fun ρz wz hE hA ⟨e6, _⟩ ⟨u2, _⟩ => gIf rfl rfl (yF rfl u2) fun gc F hF => core_val rfl hF (o_fieldAddr (e6.trans h6) (fa_38_7 _ _)),
 fun ρz wz hE hA _ ⟨u2, u6, _⟩ => gIf rfl rfl (yF rfl u2) fun gc F hF => core_val rfl hF (o_fieldAddr (gt gc u6) (fa_36_0 _ _)),
 fun ρz wz hE hA _ ⟨u2, u7, _⟩ => gIf rfl rfl (yF rfl u2) fun gc F hF => core_val rfl hF (o_load (gt gc u7) (run_load1 (lr_3 _ _) (CA.sub (CA.sub ((Hb_b6_.exn (hA rfl)).ca) 7 2) 0 1))),
 fun ρz wz hE hA _ ⟨u2, u5, u8, _⟩ => gIf rfl rfl (yF rfl u2) fun gc F hF => core_val rfl hF (o_gtr (gt gc u5) (gt gc u8) rfl),
 fun ρz wz hE hA _ ⟨u2, u9, _⟩ => core_val rfl rfl (o_pick_or u2 rfl u9),
 mU rfl rfl rfl,
 fun ρz wz hE hA ⟨e9, _⟩ ⟨u11, _⟩ => gIf rfl rfl (yF rfl u11) fun gc F hF => core_val rfl hF (o_fieldAddr (e9.trans h9) (fa_38_7 _ _)),
 fun ρz wz hE hA _ ⟨u11, u12, _⟩ => gIf rfl rfl (yF rfl u11) fun gc F hF => core_val rfl hF (o_fieldAddr (gt gc u12) (fa_36_0 _ _)),
 fun ρz wz hE hA _ ⟨u11, u13, _⟩ => gIf rfl rfl (yF rfl u11) fun gc F hF => core_val rfl hF (o_load (gt gc u13) (run_load1 (lr_3 _ _) (CA.sub (CA.sub ((Hb_b9_.exn (hA rfl)).ca) 7 2) 0 1))),
 fun ρz wz hE hA ⟨e6, _⟩ ⟨u11, _⟩ => gIf rfl rfl (yF rfl u11) fun gc F hF => core_val rfl hF (o_fieldAddr (e6.trans h6) (fa_38_7 _ _)),
 fun ρz wz hE hA _ ⟨u11, u15, _⟩ => gIf rfl rfl (yF rfl u11) fun gc F hF => core_val rfl hF (o_fieldAddr (gt gc u15) (fa_36_0 _ _)),
 fun ρz wz hE hA _ ⟨u11, u16, _⟩ => gIf rfl rfl (yF rfl u11) fun gc F hF => core_val rfl hF (o_load (gt gc u16) (run_load1 (lr_3 _ _) (CA.sub (CA.sub ((Hb_b6_.exn (hA rfl)).ca) 7 2) 0 1))),
 fun ρz wz hE hA _ ⟨u11, u14, u17, _⟩ => gIf rfl rfl (yF rfl u11) fun gc F hF => core_val rfl hF (o_eql (gt gc u14) (gt gc u17) rfl),
 fun ρz wz hE hA _ ⟨u11, u18, _⟩ => gIf rfl rfl (yF rfl u11) fun gc F hF => core_val rfl hF (o_move (gt gc u18)),
 fun ρz wz hE hA ⟨e9, _⟩ ⟨u19, _⟩ => gIf rfl rfl (yTG rfl u19) fun gc F hF => core_val rfl hF (o_fieldAddr (e9.trans h9) (fa_38_6 _ _)),
 fun ρz wz hE hA _ ⟨u19, u20, _⟩ => gIf rfl rfl (yTG rfl u19) fun gc F hF => core_val rfl hF (o_load (gt gc u20) (run_load1 (lr_3 _ _) (CA.sub ((Hb_b9_.exn (hA rfl)).ca) 6 1))),
 fun ρz wz hE hA ⟨e6, _⟩ ⟨u19, _⟩ => gIf rfl rfl (yTG rfl u19) fun gc F hF => core_val rfl hF (o_fieldAddr (e6.trans h6) (fa_38_6 _ _)),
 fun ρz wz hE hA _ ⟨u19, u22, _⟩ => gIf rfl rfl (yTG rfl u19) fun gc F hF => core_val rfl hF (o_load (gt gc u22) (run_load1 (lr_3 _ _) (CA.sub ((Hb_b6_.exn (hA rfl)).ca) 6 1))),
 fun ρz wz hE hA _ ⟨u19, u21, u23, _⟩ => gIf rfl rfl (yTG rfl u19) fun gc F hF => core_val rfl hF (o_lss (gt gc u21) (gt gc u23) rfl),
 fun ρz wz hE hA _ ⟨u11, u19, u24, _⟩ => gIf rfl rfl (yF rfl u11) fun gc F hF => core_val rfl hF (o_pick_and (gt gc u19) (gr gc u24) rfl),
 fun ρz wz hE hA _ ⟨u11, u25, _⟩ => core_val rfl rfl (o_pick_or u11 rfl u25), trivial⟩ ?_))
      intro ρ12 w12 hN hf hr
      have h76 := hv hf 26 rfl rfl
      obtain ⟨h1, h6, h7, h22, h23, h24⟩ := k6 hr h1 h6 h7 h22 h23 h24 rfl
      have h9 := (hr 9 rfl).trans h9
      have Hb_b6_n := Hb_b6_.exn hN
      have Hb_b9_n := Hb_b9_.exn hN
      have H_d_ := H_d_.exn hN
      have hW := hW.trans hN
      have Hb_b6_ := Hb_b6_n
      have Hb_b9_ := Hb_b9_n
      refine WP.cond rfl h76 (fun hb => ?_) (fun hb => ?_)
      · have hF := (if_pos hb).symm.trans hF
        refine WP.region mixed [[], [0], [1]] [[], [0], []] [[9], [6], []] [1] [] [val 77 (api_Fact.val y), (6, fun _ wz => Mb wz b6_ 38 (api_Fact.cells y)), val 7 (.bool true)] (fun x => x = b6_) (by kernel_rfl) ⟨sV, fun _ _ _ hE hM => hM.exn hE, sV, trivial⟩ ⟨fun ρz wz hE hA ⟨e9, _⟩ _ => core_val rfl rfl (o_load (e9.trans h9) (run_loadN (cs := (api_Fact.cells y)) (lr_38 _ _) rfl ((Hb_b9_.exn (hA rfl)).ca))),
 fun ρz wz hE hA ⟨e6, _⟩ ⟨u0, _⟩ => core_storeBox rfl rfl (fun _ h => h) (e6.trans h6) u0 (Hb_b6_.exn (hA rfl)) (fun a w => st_38 _ a w) rfl (one_38 _),
 aC rfl rfl (fun _ => rfl), trivial⟩ ?_
        intro ρ13 w13 hE hN hf hr
        have h7 : ρ13 7 = .bool true := hf 2 rfl
        obtain ⟨h1, h6, h22, h23, h24⟩ := k5 hr h1 h6 h22 h23 h24 rfl
        have Hb_b6_n := hf 1 rfl
        have H_d_ := H_d_.over hE (fun b hb => hb.symm ▸ hB_b6_)
        have hW := Ext.own hW hE (fun x h => h.symm ▸ hB_b6_)
        have Hb_b6_ := Hb_b6_n
        exact ⟨true, y, h1, h6, h7, h22, h23, h24, Hb_b6_, H_d_, hW, hF⟩
      have hF := (if_neg (Bool.eq_false_iff.1 hb)).symm.trans hF
      refine WP.skip ?_
      exact ⟨x, v, h1, h6, h7, h22, h23, h24, Hb_b6_, H_d_, hW, hF⟩
    rintro ρ8 w8 ⟨x3, v2, h1, h6, h7, h22, h23, h24, Hb_b6_, H_d_, hW, hF⟩
    rw [career_Residence_j] at hF
    refine WP.rb mixed [[], [0]] [[24], []] [(78, .int .i64 (i64 (x2 + 1))), (24, .int .i64 (i64 (x2 + 1)))] (by kernel_rfl) ⟨fun ρz wz hE hA ⟨e24, _⟩ _ => core_val rfl rfl (o_add (e24.trans h24) rfl rfl),
 mU rfl rfl rfl, trivial⟩ ?_
    intro ρ9 w9 hN hf hr
    have h24 := hv hf 1 rfl rfl
    obtain ⟨h1, h6, h7, h22, h23⟩ := k5 hr h1 h6 h7 h22 h23 rfl
    have Hb_b6_n := Hb_b6_.exn hN
    have H_d_ := H_d_.exn hN
    have hW := hW.trans hN
    have Hb_b6_ := Hb_b6_n
    exact ⟨x3, i64 (x2 + 1), v2, h1, h6, h7, h22, h23, h24, Hb_b6_, H_d_, hW, (by first | exact hF | (rw [hrec_]; exact hF))⟩
  have hF := (if_neg (Bool.eq_false_iff.1 hb)).symm.trans hF
  refine WP.exit (thenQ_exit (thenQ_exit (blockQ_hit (WP.seq (WP.rb mixed [[], [0], [], [1], [2]] [[6], [], [7], [], []] [(79, .pointer (some ((⟨b6_, 0, none⟩ : Addr).add 6))), (80, .int .i64 v.State), (81, .bool x), (4, .int .i64 v.State), (5, .bool x)] (by kernel_rfl) ⟨fun ρz wz hE hA ⟨e6, _⟩ _ => core_val rfl rfl (o_fieldAddr (e6.trans h6) (fa_38_6 _ _)),
 fun ρz wz hE hA _ ⟨u0, _⟩ => core_val rfl rfl (o_load u0 (run_load1 (lr_3 _ _) (CA.sub ((Hb_b6_.exn (hA rfl)).ca) 6 1))),
 mE rfl rfl h7,
 aU rfl rfl rfl,
 aU rfl rfl rfl, trivial⟩ ?_)))))
  intro ρ14 w14 hN hf hr
  have h4 := hv hf 3 rfl rfl
  have h5 := hv hf 4 rfl rfl
  have hW := hW.trans hN
  refine WP.ret ?_
  show retQ Tryz.prog 82 Tryz.f17 (fun v w1 => v = .tuple #[.int .i64 r.1, .bool r.2] ∧ Ext noG w0 w1) .ret ρ14 w14
  obtain rfl := Option.some.inj hF
  exact res2 rfl (by decide) (by decide) h4 h5 ⟨rfl, hW⟩

set_option maxHeartbeats 4000000 in
theorem family_Home_ok {w0 : World} (l_ : List api_Fact) (child_ : Int) (day_ : Int) {v_l_ : Value} (H_l_ : RepSl api_Fact.R noG w0 v_l_ l_) {r : Int × Bool} (hF : family_Home l_ child_ day_ = some r) :
    Calls Tryz.prog 7 #[v_l_, .int .i64 child_, .int .i64 day_] w0 fun e w1 => e = .returned (.tuple #[.int .i64 r.1, .bool r.2]) ∧ Ext noG w0 w1 := by
  refine (Calls.start (P := Tryz.prog) (args := [v_l_, .int .i64 child_, .int .i64 day_]) (R := fun v w1 => v = .tuple #[.int .i64 r.1, .bool r.2] ∧ Ext noG w0 w1) (n := 27) (w := w0) Tryz.func7 rfl rfl (Nat.le_of_ble_eq_true rfl) (fun ρ hargs => ?_)).mono (fun e w1 ⟨v, he, hv, hE⟩ => ⟨hv ▸ he, hE⟩)
  have h0 := hargs 0 _ rfl
  have h1 := hargs 1 _ rfl
  have h2 := hargs 2 _ rfl
  have hW := Ext.refl noG w0
  obtain ⟨_, _, hs_H_l_, _, _⟩ := RepSl.shape H_l_
  have H_l_ := H_l_.start
  rw [family_Home] at hF
  refine WP.seq (WP.rb mixed [[], []] [[], []] [(6, .int .i64 0), (7, .bool false)] (by kernel_rfl) ⟨aC rfl rfl (fun _ => rfl),
 aC rfl rfl (fun _ => rfl), trivial⟩ ?_)
  intro ρ1 w1 hN hf hr
  obtain ⟨h0, h1, h2⟩ := k3 hr h0 h1 h2 rfl
  have H_l_ := H_l_.exn hN
  have hW := hW.trans hN
  refine WP.seq ?_
  obtain ⟨z, hz, hF⟩ := obind hF
  refine WP.rg mixed [[], [0], [0, 1]] [[], [0], [1]] [[0], [], []] [val 9 (v_l_), (10, fun u wz => Own w0.heap.size 38 14 api_Fact.cells wz u z ∧ ∀ b, u.ownBlock = some b → w1.heap.size ≤ b), (0, fun u wz => Own w0.heap.size 38 14 api_Fact.cells wz u z ∧ ∀ b, u.ownBlock = some b → w1.heap.size ≤ b)] (by kernel_rfl) ⟨sV, fun _ _ _ hE ⟨hO, hf⟩ => ⟨hO.exn hE, hf⟩, fun _ _ _ hE ⟨hO, hf⟩ => ⟨hO.exn hE, hf⟩, trivial⟩ ⟨mE rfl rfl h0,
 fun ρz wz hE hA _ ⟨u0, _⟩ => core_callR rfl (call_args1 u0) cf_15 ((family_facts_ok  _ (H_l_.exn (hA rfl)).no hz).mono (fun e w1 ⟨v, he, hE1, hO⟩ => ⟨v, he, hE1, hO.base (Nat.le_trans hW.size hE.size), fun b hb => Nat.le_trans hE.size (hO.lt hb).1⟩)),
 fun ρz wz hE hA _ ⟨⟨hO1, hfr1⟩, _⟩ => core_copy rfl rfl (o_assign rfl) ⟨hO1, hfr1⟩, trivial⟩ ?_
  intro ρ2 w2 hN hf hr
  obtain ⟨v0_, h0⟩ : ∃ v, ρ2 0 = v := ⟨_, rfl⟩
  have hq0 : (fun u wz => Own w0.heap.size 38 14 api_Fact.cells wz u z ∧ ∀ b, u.ownBlock = some b → w1.heap.size ≤ b) (ρ2 0) w2 := hf 2 rfl
  rw [h0] at hq0
  obtain ⟨hq0, hfr0⟩ := hq0
  obtain ⟨h1, h2⟩ := k2 hr h1 h2 rfl
  have hW := hW.trans hN
  have Hf0 : RepSl api_Fact.R noG w2 v0_ z := hq0.rep (fun _ _ h => h)
  obtain ⟨_, _, hs_Hf0, _, _⟩ := RepSl.shape Hf0
  refine WP.seq ?_
  obtain ⟨z2, hz2, hF⟩ := obind hF
  refine WP.rg mixed [[], [], [], [0, 1, 2], [3]] [[], [], [], [0, 1, 2], [3]] [[0], [1], [2], [], []] [val 11 (v0_), val 12 (.int .i64 child_), val 13 (.int .i64 day_), (14, fun u wz => Own w0.heap.size 3 1 (fun x : Int => [Value.int .i64 x]) wz u z2 ∧ ∀ b, u.ownBlock = some b → w2.heap.size ≤ b), (8, fun u wz => Own w0.heap.size 3 1 (fun x : Int => [Value.int .i64 x]) wz u z2 ∧ ∀ b, u.ownBlock = some b → w2.heap.size ≤ b)] (by kernel_rfl) ⟨sV, sV, sV, fun _ _ _ hE ⟨hO, hf⟩ => ⟨hO.exn hE, hf⟩, fun _ _ _ hE ⟨hO, hf⟩ => ⟨hO.exn hE, hf⟩, trivial⟩ ⟨mE rfl rfl h0,
 mE rfl rfl h1,
 mE rfl rfl h2,
 fun ρz wz hE hA _ ⟨u0, u1, u2, _⟩ => core_callR rfl (call_args3 u0 u1 u2) cf_16 ((family_parents_ok  _ _ _ (Hf0.exn (hA rfl)).no hz2).mono (fun e w1 ⟨v, he, hE1, hO⟩ => ⟨v, he, hE1, hO.base (Nat.le_trans hW.size hE.size), fun b hb => Nat.le_trans hE.size (hO.lt hb).1⟩)),
 fun ρz wz hE hA _ ⟨⟨hO3, hfr3⟩, _⟩ => core_copy rfl rfl (o_assign rfl) ⟨hO3, hfr3⟩, trivial⟩ ?_
  intro ρ3 w3 hN hf hr
  obtain ⟨v8_, h8⟩ : ∃ v, ρ3 8 = v := ⟨_, rfl⟩
  have hq8 : (fun u wz => Own w0.heap.size 3 1 (fun x : Int => [Value.int .i64 x]) wz u z2 ∧ ∀ b, u.ownBlock = some b → w2.heap.size ≤ b) (ρ3 8) w3 := hf 4 rfl
  rw [h8] at hq8
  obtain ⟨hq8, hfr8⟩ := hq8
  obtain ⟨h0, h2⟩ := k2 hr h0 h2 rfl
  have Hf0 := Hf0.exn hN
  have hW := hW.trans hN
  have Hf8 : RepSl intR noG w3 v8_ z2 := hq8.rep (fun _ _ h => h)
  obtain ⟨_, _, hs_Hf8, _, _⟩ := RepSl.shape Hf8
  refine WP.seq (WP.seq (WP.rb mixed [[], [0], [1]] [[8], [], []] [(15, v8_), (16, .int .i64 (z2.length : Int)), (17, .bool ((z2.length : Int) == 0))] (by kernel_rfl) ⟨mE rfl rfl h8,
 fun ρz wz hE hA _ ⟨u0, _⟩ => core_val rfl rfl (o_len (u0.trans hs_Hf8) len_22),
 fun ρz wz hE hA _ ⟨u1, _⟩ => core_val rfl rfl (o_eql u1 rfl rfl), trivial⟩ ?_))
  intro ρ4 w4 hN hf hr
  have h17 := hv hf 2 rfl rfl
  obtain ⟨h0, h2, h8⟩ := k3 hr h0 h2 h8 rfl
  have Hf0 := Hf0.exn hN
  have Hf8 := Hf8.exn hN
  have hW := hW.trans hN
  refine WP.cond rfl h17 (fun hb => ?_) (fun hb => ?_)
  · have hF := (if_pos hb).symm.trans hF
    refine WP.seq (WP.rb mixed [[], []] [[], []] [(6, .int .i64 0), (7, .bool false)] (by kernel_rfl) ⟨aC rfl rfl (fun _ => rfl),
 aC rfl rfl (fun _ => rfl), trivial⟩ ?_)
    intro ρ5 w5 hN hf hr
    have h6 := hv hf 0 rfl rfl
    have h7 := hv hf 1 rfl rfl
    have hW := hW.trans hN
    refine WP.ret ?_
    show retQ Tryz.prog 27 Tryz.f7 (fun v w1 => v = .tuple #[.int .i64 r.1, .bool r.2] ∧ Ext noG w0 w1) .ret ρ5 w5
    obtain rfl := Option.some.inj hF
    exact res2 rfl (by decide) (by decide) h6 h7 ⟨rfl, hW⟩
  have hF := (if_neg (Bool.eq_false_iff.1 hb)).symm.trans hF
  refine WP.skip (WP.seq ?_)
  obtain ⟨y, hy, hF⟩ := obind hF
  obtain ⟨ay, cy, hvy, hiy, hAy⟩ := RepSl.getF Hf8 hy
  obtain ⟨z3, hz3, hF⟩ := obind hF
  obtain ⟨z4, hz4, hF⟩ := obind hF
  refine WP.rg mixed [[], [], [1], [2], [0, 3], [], [4, 5], [6], [6], [7], [8]] [[], [], [1], [2], [0, 3], [], [4, 5], [6], [6], [7], [8]] [[0], [8], [], [], [], [2], [], [], [], [], []] [val 18 (v0_), val 19 (v8_), val 20 (.pointer (some (ay.add (Int.toNat 0 * 1)))), val 21 (.int .i64 y), (22, fun u wz => Own w0.heap.size 38 14 api_Fact.cells wz u z3 ∧ ∀ b, u.ownBlock = some b → w4.heap.size ≤ b), val 23 (.int .i64 day_), val 24 (.tuple #[.int .i64 z4.1, .bool z4.2]), val 25 (.int .i64 z4.1), val 26 (.bool z4.2), val 6 (.int .i64 z4.1), val 7 (.bool z4.2)] (by kernel_rfl) ⟨sV, sV, sV, sV, fun _ _ _ hE ⟨hO, hf⟩ => ⟨hO.exn hE, hf⟩, sV, sV, sV, sV, sV, sV, trivial⟩ ⟨mE rfl rfl h0,
 mE rfl rfl h8,
 fun ρz wz hE hA _ ⟨u1, _⟩ => core_val rfl rfl (o_indexAddr (u1.trans hvy) rfl (ia_22 hiy)),
 fun ρz wz hE hA _ ⟨u2, _⟩ => core_val rfl rfl (o_load u2 (run_load1 (lr_3 _ _) ((hAy.exn (hA rfl)).ca))),
 fun ρz wz hE hA _ ⟨u0, u3, _⟩ => core_callR rfl (call_args2 u0 u3) cf_18 ((career_Of_ok  _ _ (Hf0.exn (hA rfl)).no hz3).mono (fun e w1 ⟨v, he, hE1, hO⟩ => ⟨v, he, hE1, hO.base (Nat.le_trans hW.size hE.size), fun b hb => Nat.le_trans hE.size (hO.lt hb).1⟩)),
 mE rfl rfl h2,
 fun ρz wz hE hA _ ⟨⟨hO4, hfr4⟩, u5, _⟩ => core_call rfl (call_args2 rfl u5) cf_17 (career_Residence_ok  _ _ (hO4.rep (hn := fun _ => rfl) (G := noG) (fun _ _ h => h)).no hz4),
 fun ρz wz hE hA _ ⟨u6, _⟩ => core_val rfl rfl (o_extract u6 (by kernel_rfl)),
 fun ρz wz hE hA _ ⟨u6, _⟩ => core_val rfl rfl (o_extract u6 (by kernel_rfl)),
 aU rfl rfl rfl,
 aU rfl rfl rfl, trivial⟩ ?_
  intro ρ6 w6 hN hf hr
  have h6 : ρ6 6 = .int .i64 z4.1 := hf 9 rfl
  have h7 : ρ6 7 = .bool z4.2 := hf 10 rfl
  have hW := hW.trans hN
  refine WP.ret ?_
  show retQ Tryz.prog 27 Tryz.f7 (fun v w1 => v = .tuple #[.int .i64 r.1, .bool r.2] ∧ Ext noG w0 w1) .ret ρ6 w6
  obtain rfl := Option.some.inj hF
  exact res2 rfl (by decide) (by decide) h6 h7 ⟨rfl, hW⟩

set_option maxHeartbeats 4000000 in
theorem pensionref12_uses_ok {w0 : World} (kind_ : Int) (c_ : Int) {r : Bool} (hF : pensionref12_uses kind_ c_ = some r) :
    Calls Tryz.prog 117 #[.int .i64 kind_, .int .u8 c_] w0 fun e w1 => e = .returned (.bool r) ∧ Ext noG w0 w1 := by
  refine (Calls.start (P := Tryz.prog) (args := [.int .i64 kind_, .int .u8 c_]) (R := fun v w1 => v = .bool r ∧ Ext noG w0 w1) (n := 20) (w := w0) Tryz.func117 rfl rfl (Nat.le_of_ble_eq_true rfl) (fun ρ hargs => ?_)).mono (fun e w1 ⟨v, he, hv, hE⟩ => ⟨hv ▸ he, hE⟩)
  have h0 := hargs 0 _ rfl
  have h1 := hargs 1 _ rfl
  have hW := Ext.refl noG w0
  rw [pensionref12_uses] at hF
  refine WP.seq (WP.rb mixed [[]] [[]] [(4, .bool false)] (by kernel_rfl) ⟨aC rfl rfl (fun _ => rfl), trivial⟩ ?_)
  intro ρ1 w1 hN hf hr
  obtain ⟨h0, h1⟩ := k2 hr h0 h1 rfl
  have hW := hW.trans hN
  refine WP.seq ?_
  obtain ⟨z, hz, hF⟩ := obind hF
  refine WP.rb mixed [[], [0], [1]] [[0], [], []] [(7, .int .i64 kind_), (8, .string z), (5, .string z)] (by kernel_rfl) ⟨mE rfl rfl h0,
 fun ρz wz hE hA _ ⟨u0, _⟩ => core_call rfl (call_args1 u0) cf_28 (pensionref12_Uses_ok  _  hz),
 aU rfl rfl rfl, trivial⟩ ?_
  intro ρ2 w2 hN hf hr
  have h5 := hv hf 2 rfl rfl
  have h1 := (hr 1 rfl).trans h1
  have hW := hW.trans hN
  refine WP.seq (WP.seq (WP.rb mixed [[]] [[]] [(6, .int .i64 0)] (by kernel_rfl) ⟨aC rfl rfl (fun _ => rfl), trivial⟩ ?_))
  intro ρ3 w3 hN hf hr
  have h6 := hv hf 0 rfl rfl
  obtain ⟨h1, h5⟩ := k2 hr h1 h5 rfl
  have hW := hW.trans hN
  refine WP.block (WP.loop (fun k_ ρ w => ∃ i_ : Int, ρ 1 = .int .u8 c_ ∧ ρ 5 = .string z ∧ ρ 6 = .int .i64 i_ ∧ Ext noG w0 w ∧ loopC k_ (pensionref12_uses_l c_ z) i_ = some r) FU ⟨0, h1, h5, h6, hW, hF⟩ (fun _ _ h => by obtain ⟨_, _, _, _, _, h⟩ := h; cases h) ?_)
  rintro k_ ρ4 w4 ⟨i_, h1, h5, h6, hW, hF⟩
  have hF : pensionref12_uses_l c_ z (loopC k_ (pensionref12_uses_l c_ z)) i_ = some r := (loopC_succ k_ (pensionref12_uses_l c_ z) i_).symm.trans hF
  generalize hrec_ : loopC k_ (pensionref12_uses_l c_ z) = rec_ at hF
  rw [pensionref12_uses_l] at hF
  refine WP.seq (WP.seq (WP.rb mixed [[], [], [1], [0, 2]] [[6], [5], [], []] [(9, .int .i64 i_), (10, .string z), (11, .int .i64 (z.size : Int)), (12, .bool (decide (i_ < (z.size : Int))))] (by kernel_rfl) ⟨mE rfl rfl h6,
 mE rfl rfl h5,
 fun ρz wz hE hA _ ⟨u1, _⟩ => core_val rfl rfl (o_len u1 len_9),
 fun ρz wz hE hA _ ⟨u0, u2, _⟩ => core_val rfl rfl (o_lss u0 u2 rfl), trivial⟩ ?_))
  intro ρ5 w5 hN hf hr
  have h12 := hv hf 3 rfl rfl
  obtain ⟨h1, h5, h6⟩ := k3 hr h1 h5 h6 rfl
  have hW := hW.trans hN
  refine WP.cond rfl h12 (fun hb => ?_) (fun hb => ?_)
  · have hF := (if_pos hb).symm.trans hF
    refine WP.skip (WP.seq (WP.block (WP.seq ?_)))
    obtain ⟨y, hy, hF⟩ := obind hF
    refine WP.rb mixed [[], [], [0, 1], [], [2, 3]] [[5], [6], [], [1], []] [(15, .string z), (16, .int .i64 i_), (17, .int .u8 y), (18, .int .u8 c_), (19, .bool (y == c_))] (by kernel_rfl) ⟨mE rfl rfl h5,
 mE rfl rfl h6,
 fun ρz wz hE hA _ ⟨u0, u1, _⟩ => core_val rfl rfl (o_index u0 u1 (by kernel_rfl) hy),
 mE rfl rfl h1,
 fun ρz wz hE hA _ ⟨u2, u3, _⟩ => core_val rfl rfl (o_eql u2 u3 rfl), trivial⟩ ?_
    intro ρ6 w6 hN hf hr
    have h19 := hv hf 4 rfl rfl
    obtain ⟨h1, h5, h6⟩ := k3 hr h1 h5 h6 rfl
    have hW := hW.trans hN
    refine WP.cond rfl h19 (fun hb => ?_) (fun hb => ?_)
    · have hF := (if_pos hb).symm.trans hF
      refine WP.seq (WP.rb mixed [[]] [[]] [(4, .bool true)] (by kernel_rfl) ⟨aC rfl rfl (fun _ => rfl), trivial⟩ ?_)
      intro ρ7 w7 hN hf hr
      have h4 := hv hf 0 rfl rfl
      have hW := hW.trans hN
      refine WP.ret ?_
      show retQ Tryz.prog 20 Tryz.f117 (fun v w1 => v = .bool r ∧ Ext noG w0 w1) .ret ρ7 w7
      obtain rfl := Option.some.inj hF
      exact res1 rfl (by decide) h4 ⟨rfl, hW⟩
    have hF := (if_neg (Bool.eq_false_iff.1 hb)).symm.trans hF
    refine WP.skip (WP.rv mixed [[], [0], [0, 1]] [[], [0], [1]] [[6], [], []] [(13, .int .i64 i_), (14, .int .i64 (i64 (i_ + 1))), (6, .int .i64 (i64 (i_ + 1)))] (by kernel_rfl) ⟨mE rfl rfl h6,
 fun ρz wz hE hA _ ⟨u0, _⟩ => core_val rfl rfl (o_add u0 rfl rfl),
 aU rfl rfl rfl, trivial⟩ ?_)
    intro ρ8 w8 hN hf hr
    have h6 := hv hf 2 rfl rfl
    obtain ⟨h1, h5⟩ := k2 hr h1 h5 rfl
    have hW := hW.trans hN
    exact ⟨i64 (i_ + 1), h1, h5, h6, hW, (by first | exact hF | (rw [hrec_]; exact hF))⟩
  have hF := (if_neg (Bool.eq_false_iff.1 hb)).symm.trans hF
  refine WP.exit (thenQ_exit (thenQ_exit (blockQ_hit (WP.seq (WP.rb mixed [[]] [[]] [(4, .bool false)] (by kernel_rfl) ⟨aC rfl rfl (fun _ => rfl), trivial⟩ ?_)))))
  intro ρ9 w9 hN hf hr
  have h4 := hv hf 0 rfl rfl
  have hW := hW.trans hN
  refine WP.ret ?_
  show retQ Tryz.prog 20 Tryz.f117 (fun v w1 => v = .bool r ∧ Ext noG w0 w1) .ret ρ9 w9
  obtain rfl := Option.some.inj hF
  exact res1 rfl (by decide) h4 ⟨rfl, hW⟩

set_option maxHeartbeats 4000000 in
theorem pensionref12_field_ok {w0 : World} (kind_ : Int) (c_ : Int) (n_ : Int) (least_ : Int) (most_ : Int) {r : Bool} (hF : pensionref12_field kind_ c_ n_ least_ most_ = some r) :
    Calls Tryz.prog 96 #[.int .i64 kind_, .int .u8 c_, .int .i64 n_, .int .i64 least_, .int .i64 most_] w0 fun e w1 => e = .returned (.bool r) ∧ Ext noG w0 w1 := by
  refine (Calls.start (P := Tryz.prog) (args := [.int .i64 kind_, .int .u8 c_, .int .i64 n_, .int .i64 least_, .int .i64 most_]) (R := fun v w1 => v = .bool r ∧ Ext noG w0 w1) (n := 24) (w := w0) Tryz.func96 rfl rfl (Nat.le_of_ble_eq_true rfl) (fun ρ hargs => ?_)).mono (fun e w1 ⟨v, he, hv, hE⟩ => ⟨hv ▸ he, hE⟩)
  have h0 := hargs 0 _ rfl
  have h1 := hargs 1 _ rfl
  have h2 := hargs 2 _ rfl
  have h3 := hargs 3 _ rfl
  have h4 := hargs 4 _ rfl
  have hW := Ext.refl noG w0
  rw [pensionref12_field] at hF
  refine WP.seq (WP.rb mixed [[]] [[]] [(10, .bool false)] (by kernel_rfl) ⟨aC rfl rfl (fun _ => rfl), trivial⟩ ?_)
  intro ρ1 w1 hN hf hr
  obtain ⟨h0, h1, h2, h3, h4⟩ := k5 hr h0 h1 h2 h3 h4 rfl
  have hW := hW.trans hN
  refine WP.seq (WP.seq ?_)
  obtain ⟨z, hz, hF⟩ := obind hF
  refine WP.rb mixed [[], [], [0, 1]] [[0], [1], []] [(11, .int .i64 kind_), (12, .int .u8 c_), (13, .bool z)] (by kernel_rfl) ⟨mE rfl rfl h0,
 mE rfl rfl h1,
 fun ρz wz hE hA _ ⟨u0, u1, _⟩ => core_call rfl (call_args2 u0 u1) cf_117 (pensionref12_uses_ok  _ _  hz), trivial⟩ ?_
  intro ρ2 w2 hN hf hr
  have h13 := hv hf 2 rfl rfl
  obtain ⟨h2, h3, h4⟩ := k3 hr h2 h3 h4 rfl
  have hW := hW.trans hN
  refine WP.cond rfl h13 (fun hb => ?_) (fun hb => ?_)
  · have hF := (if_pos hb).symm.trans hF
    refine WP.seq (WP.rb mixed [[], [], [0, 1], [2], [3], [3], [3, 4, 5], [3, 6], [7]] [[2], [3], [], [], [2], [4], [], [], []] [(14, .int .i64 n_), (15, .int .i64 least_), (16, .bool (decide (least_ ≤ n_))), (17, .bool (decide (least_ ≤ n_))), (18, gv (decide (least_ ≤ n_)) (.int .i64 n_)), (19, gv (decide (least_ ≤ n_)) (.int .i64 most_)), (20, gv (decide (least_ ≤ n_)) (.bool (decide (n_ ≤ most_)))), (21, .bool (decide (least_ ≤ n_) && decide (n_ ≤ most_))), (10, .bool (decide (least_ ≤ n_) && decide (n_ ≤ most_)))] (by kernel_rfl) ⟨mE rfl rfl h2,
 mE rfl rfl h3,
 fun ρz wz hE hA _ ⟨u0, u1, _⟩ => core_val rfl rfl (o_geq u0 u1 rfl),
 mU rfl rfl rfl,
 fun ρz wz hE hA ⟨e2, _⟩ ⟨u3, _⟩ => gIf rfl rfl (yT rfl u3) fun gc F hF => core_val rfl hF (o_move (e2.trans h2)),
 fun ρz wz hE hA ⟨e4, _⟩ ⟨u3, _⟩ => gIf rfl rfl (yT rfl u3) fun gc F hF => core_val rfl hF (o_move (e4.trans h4)),
 fun ρz wz hE hA _ ⟨u3, u4, u5, _⟩ => gIf rfl rfl (yT rfl u3) fun gc F hF => core_val rfl hF (o_leq (gt gc u4) (gt gc u5) rfl),
 fun ρz wz hE hA _ ⟨u3, u6, _⟩ => core_val rfl rfl (o_pick_and u3 u6 rfl),
 aU rfl rfl rfl, trivial⟩ ?_)
    intro ρ3 w3 hN hf hr
    have h10 := hv hf 8 rfl rfl
    have hW := hW.trans hN
    refine WP.ret ?_
    show retQ Tryz.prog 24 Tryz.f96 (fun v w1 => v = .bool r ∧ Ext noG w0 w1) .ret ρ3 w3
    obtain rfl := Option.some.inj hF
    exact res1 rfl (by decide) h10 ⟨rfl, hW⟩
  have hF := (if_neg (Bool.eq_false_iff.1 hb)).symm.trans hF
  refine WP.skip (WP.seq (WP.rb mixed [[], [0], [1]] [[2], [], []] [(22, .int .i64 n_), (23, .bool (n_ == 0)), (10, .bool (n_ == 0))] (by kernel_rfl) ⟨mE rfl rfl h2,
 fun ρz wz hE hA _ ⟨u0, _⟩ => core_val rfl rfl (o_eql u0 rfl rfl),
 aU rfl rfl rfl, trivial⟩ ?_))
  intro ρ4 w4 hN hf hr
  have h10 := hv hf 2 rfl rfl
  have hW := hW.trans hN
  refine WP.ret ?_
  show retQ Tryz.prog 24 Tryz.f96 (fun v w1 => v = .bool r ∧ Ext noG w0 w1) .ret ρ4 w4
  obtain rfl := Option.some.inj hF
  exact res1 rfl (by decide) h10 ⟨rfl, hW⟩

set_option maxHeartbeats 4000000 in
theorem pensionref12_Valid_ok {w0 : World} (d_ : api_Fact) {r : Bool} (hF : pensionref12_Valid d_ = some r) :
    Calls Tryz.prog 65 #[api_Fact.val d_] w0 fun e w1 => e = .returned (.bool r) ∧ Ext noG w0 w1 := by
  refine (Calls.start (P := Tryz.prog) (args := [api_Fact.val d_]) (R := fun v w1 => v = .bool r ∧ Ext noG w0 w1) (n := 144) (w := w0) Tryz.func65 rfl rfl (Nat.le_of_ble_eq_true rfl) (fun ρ hargs => ?_)).mono (fun e w1 ⟨v, he, hv, hE⟩ => ⟨hv ▸ he, hE⟩)
  have h0 := hargs 0 _ rfl
  have hW := Ext.refl noG w0
  rw [pensionref12_Valid] at hF
  refine WP.seq (WP.rg mixed [[], []] [[], []] [[0], []] [(1, fun u wz => ∃ b, u = .pointer (some ⟨b, 0, none⟩) ∧ w0.heap.size ≤ b ∧ Mb wz b 38 (api_Fact.cells d_)), val 2 (.bool false)] (by kernel_rfl) ⟨fun _ _ _ hE ⟨b, hb, hs, hM⟩ => ⟨b, hb, hs, hM.exn hE⟩, sV, trivial⟩ ⟨fun ρz wz hE hA ⟨e0, _⟩ _ => core_new rfl rfl hE (o_box (e0.trans h0) (bx_38 _ _)),
 aC rfl rfl (fun _ => rfl), trivial⟩ ?_)
  intro ρ1 w1 hN hf hr
  obtain ⟨b1_, h1, hge_b1_, Hb_b1_⟩ := hf 0 rfl
  have hB_b1_ : w0.heap.size ≤ b1_ := Nat.le_trans hW.size hge_b1_
  have hW := hW.trans hN
  refine WP.seq (WP.rb mixed [[], [0], [1]] [[1], [], []] [(4, .pointer (some ((⟨b1_, 0, none⟩ : Addr).add 5))), (5, .int .i64 d_.Kind), (3, .int .i64 d_.Kind)] (by kernel_rfl) ⟨fun ρz wz hE hA ⟨e1, _⟩ _ => core_val rfl rfl (o_fieldAddr (e1.trans h1) (fa_38_5 _ _)),
 fun ρz wz hE hA _ ⟨u0, _⟩ => core_val rfl rfl (o_load u0 (run_load1 (lr_3 _ _) (CA.sub ((Hb_b1_.exn (hA rfl)).ca) 5 1))),
 aU rfl rfl rfl, trivial⟩ ?_)
  intro ρ2 w2 hN hf hr
  have h3 := hv hf 2 rfl rfl
  have h1 := (hr 1 rfl).trans h1
  have Hb_b1_n := Hb_b1_.exn hN
  have hW := hW.trans hN
  have Hb_b1_ := Hb_b1_n
  refine WP.seq (WP.seq ?_)
  obtain ⟨c, hc, hF⟩ := obind hF
  obtain ⟨z, hz, hc⟩ := orB hc
  have hc := orE hc
  refine WP.rb mixed [[], [0], [1], [2], [3], [3, 4], [3, 5], [3, 6], [7], [8], [8, 9], [8, 10], [8, 11], [12], [13], [13, 14], [13, 15], [13, 16], [17], [18], [18, 19], [18, 20], [18, 21], [22], [23], [23, 24], [23, 25], [23, 26], [27], [28], [28, 29], [28, 30], [28, 31], [32], [33], [33, 34], [33, 35], [33, 36], [37], [38], [38, 39], [38, 40], [38, 41]] [[1], [], [], [], [1], [], [], [], [], [1], [], [], [], [], [1], [], [], [], [], [1], [], [], [], [], [1], [], [], [], [], [1], [], [], [], [], [1], [], [], [], [], [3], [], [], []] [(6, .pointer (some ((⟨b1_, 0, none⟩ : Addr).add 0))), (7, .int .i64 d_.Issuer), (8, .bool (decide (d_.Issuer < 0))), (9, .bool (decide (d_.Issuer < 0))), (10, gv (!(decide (d_.Issuer < 0))) (.pointer (some ((⟨b1_, 0, none⟩ : Addr).add 0)))), (11, gv (!(decide (d_.Issuer < 0))) (.int .i64 d_.Issuer)), (12, gv (!(decide (d_.Issuer < 0))) (.bool (decide (6 ≤ d_.Issuer)))), (13, .bool (decide (d_.Issuer < 0) || decide (6 ≤ d_.Issuer))), (14, .bool (decide (d_.Issuer < 0) || decide (6 ≤ d_.Issuer))), (15, gv (!(decide (d_.Issuer < 0) || decide (6 ≤ d_.Issuer))) (.pointer (some ((⟨b1_, 0, none⟩ : Addr).add 1)))), (16, gv (!(decide (d_.Issuer < 0) || decide (6 ≤ d_.Issuer))) (.int .i64 d_.Number)), (17, gv (!(decide (d_.Issuer < 0) || decide (6 ≤ d_.Issuer))) (.bool (decide (d_.Number < 1)))), (18, .bool ((decide (d_.Issuer < 0) || decide (6 ≤ d_.Issuer)) || decide (d_.Number < 1))), (19, .bool ((decide (d_.Issuer < 0) || decide (6 ≤ d_.Issuer)) || decide (d_.Number < 1))), (20, gv (!((decide (d_.Issuer < 0) || decide (6 ≤ d_.Issuer)) || decide (d_.Number < 1))) (.pointer (some ((⟨b1_, 0, none⟩ : Addr).add 1)))), (21, gv (!((decide (d_.Issuer < 0) || decide (6 ≤ d_.Issuer)) || decide (d_.Number < 1))) (.int .i64 d_.Number)), (22, gv (!((decide (d_.Issuer < 0) || decide (6 ≤ d_.Issuer)) || decide (d_.Number < 1))) (.bool (decide (999 < d_.Number)))), (23, .bool (((decide (d_.Issuer < 0) || decide (6 ≤ d_.Issuer)) || decide (d_.Number < 1)) || decide (999 < d_.Number))), (24, .bool (((decide (d_.Issuer < 0) || decide (6 ≤ d_.Issuer)) || decide (d_.Number < 1)) || decide (999 < d_.Number))), (25, gv (!(((decide (d_.Issuer < 0) || decide (6 ≤ d_.Issuer)) || decide (d_.Number < 1)) || decide (999 < d_.Number))) (.pointer (some ((⟨b1_, 0, none⟩ : Addr).add 2)))), (26, gv (!(((decide (d_.Issuer < 0) || decide (6 ≤ d_.Issuer)) || decide (d_.Number < 1)) || decide (999 < d_.Number))) (.int .i64 d_.Version)), (27, gv (!(((decide (d_.Issuer < 0) || decide (6 ≤ d_.Issuer)) || decide (d_.Number < 1)) || decide (999 < d_.Number))) (.bool (decide (d_.Version < 1)))), (28, .bool ((((decide (d_.Issuer < 0) || decide (6 ≤ d_.Issuer)) || decide (d_.Number < 1)) || decide (999 < d_.Number)) || decide (d_.Version < 1))), (29, .bool ((((decide (d_.Issuer < 0) || decide (6 ≤ d_.Issuer)) || decide (d_.Number < 1)) || decide (999 < d_.Number)) || decide (d_.Version < 1))), (30, gv (!((((decide (d_.Issuer < 0) || decide (6 ≤ d_.Issuer)) || decide (d_.Number < 1)) || decide (999 < d_.Number)) || decide (d_.Version < 1))) (.pointer (some ((⟨b1_, 0, none⟩ : Addr).add 2)))), (31, gv (!((((decide (d_.Issuer < 0) || decide (6 ≤ d_.Issuer)) || decide (d_.Number < 1)) || decide (999 < d_.Number)) || decide (d_.Version < 1))) (.int .i64 d_.Version)), (32, gv (!((((decide (d_.Issuer < 0) || decide (6 ≤ d_.Issuer)) || decide (d_.Number < 1)) || decide (999 < d_.Number)) || decide (d_.Version < 1))) (.bool (decide (99 < d_.Version)))), (33, .bool (((((decide (d_.Issuer < 0) || decide (6 ≤ d_.Issuer)) || decide (d_.Number < 1)) || decide (999 < d_.Number)) || decide (d_.Version < 1)) || decide (99 < d_.Version))), (34, .bool (((((decide (d_.Issuer < 0) || decide (6 ≤ d_.Issuer)) || decide (d_.Number < 1)) || decide (999 < d_.Number)) || decide (d_.Version < 1)) || decide (99 < d_.Version))), (35, gv (!(((((decide (d_.Issuer < 0) || decide (6 ≤ d_.Issuer)) || decide (d_.Number < 1)) || decide (999 < d_.Number)) || decide (d_.Version < 1)) || decide (99 < d_.Version))) (.pointer (some ((⟨b1_, 0, none⟩ : Addr).add 4)))), (36, gv (!(((((decide (d_.Issuer < 0) || decide (6 ≤ d_.Issuer)) || decide (d_.Number < 1)) || decide (999 < d_.Number)) || decide (d_.Version < 1)) || decide (99 < d_.Version))) (.int .i64 d_.Person)), (37, gv (!(((((decide (d_.Issuer < 0) || decide (6 ≤ d_.Issuer)) || decide (d_.Number < 1)) || decide (999 < d_.Number)) || decide (d_.Version < 1)) || decide (99 < d_.Version))) (.bool (decide (d_.Person < 1)))), (38, .bool ((((((decide (d_.Issuer < 0) || decide (6 ≤ d_.Issuer)) || decide (d_.Number < 1)) || decide (999 < d_.Number)) || decide (d_.Version < 1)) || decide (99 < d_.Version)) || decide (d_.Person < 1))), (39, .bool ((((((decide (d_.Issuer < 0) || decide (6 ≤ d_.Issuer)) || decide (d_.Number < 1)) || decide (999 < d_.Number)) || decide (d_.Version < 1)) || decide (99 < d_.Version)) || decide (d_.Person < 1))), (40, gv (!((((((decide (d_.Issuer < 0) || decide (6 ≤ d_.Issuer)) || decide (d_.Number < 1)) || decide (999 < d_.Number)) || decide (d_.Version < 1)) || decide (99 < d_.Version)) || decide (d_.Person < 1))) (.pointer (some ((⟨b1_, 0, none⟩ : Addr).add 4)))), (41, gv (!((((((decide (d_.Issuer < 0) || decide (6 ≤ d_.Issuer)) || decide (d_.Number < 1)) || decide (999 < d_.Number)) || decide (d_.Version < 1)) || decide (99 < d_.Version)) || decide (d_.Person < 1))) (.int .i64 d_.Person)), (42, gv (!((((((decide (d_.Issuer < 0) || decide (6 ≤ d_.Issuer)) || decide (d_.Number < 1)) || decide (999 < d_.Number)) || decide (d_.Version < 1)) || decide (99 < d_.Version)) || decide (d_.Person < 1))) (.bool (decide (99 < d_.Person)))), (43, .bool (((((((decide (d_.Issuer < 0) || decide (6 ≤ d_.Issuer)) || decide (d_.Number < 1)) || decide (999 < d_.Number)) || decide (d_.Version < 1)) || decide (99 < d_.Version)) || decide (d_.Person < 1)) || decide (99 < d_.Person))), (44, .bool (((((((decide (d_.Issuer < 0) || decide (6 ≤ d_.Issuer)) || decide (d_.Number < 1)) || decide (999 < d_.Number)) || decide (d_.Version < 1)) || decide (99 < d_.Version)) || decide (d_.Person < 1)) || decide (99 < d_.Person))), (45, gv (!(((((((decide (d_.Issuer < 0) || decide (6 ≤ d_.Issuer)) || decide (d_.Number < 1)) || decide (999 < d_.Number)) || decide (d_.Version < 1)) || decide (99 < d_.Version)) || decide (d_.Person < 1)) || decide (99 < d_.Person))) (.int .i64 d_.Kind)), (46, gv (!(((((((decide (d_.Issuer < 0) || decide (6 ≤ d_.Issuer)) || decide (d_.Number < 1)) || decide (999 < d_.Number)) || decide (d_.Version < 1)) || decide (99 < d_.Version)) || decide (d_.Person < 1)) || decide (99 < d_.Person))) (.string z)), (47, gv (!(((((((decide (d_.Issuer < 0) || decide (6 ≤ d_.Issuer)) || decide (d_.Number < 1)) || decide (999 < d_.Number)) || decide (d_.Version < 1)) || decide (99 < d_.Version)) || decide (d_.Person < 1)) || decide (99 < d_.Person))) (.bool (z.toList == str1.toList))), (48, .bool c)] (by kernel_rfl) ⟨fun ρz wz hE hA ⟨e1, _⟩ _ => core_val rfl rfl (o_fieldAddr (e1.trans h1) (fa_38_0 _ _)),
 fun ρz wz hE hA _ ⟨u0, _⟩ => core_val rfl rfl (o_load u0 (run_load1 (lr_3 _ _) (CA.sub ((Hb_b1_.exn (hA rfl)).ca) 0 1))),
 fun ρz wz hE hA _ ⟨u1, _⟩ => core_val rfl rfl (o_lss u1 rfl rfl),
 mU rfl rfl rfl,
 fun ρz wz hE hA ⟨e1, _⟩ ⟨u3, _⟩ => gIf rfl rfl (yF rfl u3) fun gc F hF => core_val rfl hF (o_fieldAddr (e1.trans h1) (fa_38_0 _ _)),
 fun ρz wz hE hA _ ⟨u3, u4, _⟩ => gIf rfl rfl (yF rfl u3) fun gc F hF => core_val rfl hF (o_load (gt gc u4) (run_load1 (lr_3 _ _) (CA.sub ((Hb_b1_.exn (hA rfl)).ca) 0 1))),
 fun ρz wz hE hA _ ⟨u3, u5, _⟩ => gIf rfl rfl (yF rfl u3) fun gc F hF => core_val rfl hF (o_geq (gt gc u5) rfl rfl),
 fun ρz wz hE hA _ ⟨u3, u6, _⟩ => core_val rfl rfl (o_pick_or u3 rfl u6),
 mU rfl rfl rfl,
 fun ρz wz hE hA ⟨e1, _⟩ ⟨u8, _⟩ => gIf rfl rfl (yF rfl u8) fun gc F hF => core_val rfl hF (o_fieldAddr (e1.trans h1) (fa_38_1 _ _)),
 fun ρz wz hE hA _ ⟨u8, u9, _⟩ => gIf rfl rfl (yF rfl u8) fun gc F hF => core_val rfl hF (o_load (gt gc u9) (run_load1 (lr_3 _ _) (CA.sub ((Hb_b1_.exn (hA rfl)).ca) 1 1))),
 fun ρz wz hE hA _ ⟨u8, u10, _⟩ => gIf rfl rfl (yF rfl u8) fun gc F hF => core_val rfl hF (o_lss (gt gc u10) rfl rfl),
 fun ρz wz hE hA _ ⟨u8, u11, _⟩ => core_val rfl rfl (o_pick_or u8 rfl u11),
 mU rfl rfl rfl,
 fun ρz wz hE hA ⟨e1, _⟩ ⟨u13, _⟩ => gIf rfl rfl (yF rfl u13) fun gc F hF => core_val rfl hF (o_fieldAddr (e1.trans h1) (fa_38_1 _ _)),
 fun ρz wz hE hA _ ⟨u13, u14, _⟩ => gIf rfl rfl (yF rfl u13) fun gc F hF => core_val rfl hF (o_load (gt gc u14) (run_load1 (lr_3 _ _) (CA.sub ((Hb_b1_.exn (hA rfl)).ca) 1 1))),
 fun ρz wz hE hA _ ⟨u13, u15, _⟩ => gIf rfl rfl (yF rfl u13) fun gc F hF => core_val rfl hF (o_gtr (gt gc u15) rfl rfl),
 fun ρz wz hE hA _ ⟨u13, u16, _⟩ => core_val rfl rfl (o_pick_or u13 rfl u16),
 mU rfl rfl rfl,
 fun ρz wz hE hA ⟨e1, _⟩ ⟨u18, _⟩ => gIf rfl rfl (yF rfl u18) fun gc F hF => core_val rfl hF (o_fieldAddr (e1.trans h1) (fa_38_2 _ _)),
 fun ρz wz hE hA _ ⟨u18, u19, _⟩ => gIf rfl rfl (yF rfl u18) fun gc F hF => core_val rfl hF (o_load (gt gc u19) (run_load1 (lr_3 _ _) (CA.sub ((Hb_b1_.exn (hA rfl)).ca) 2 1))),
 fun ρz wz hE hA _ ⟨u18, u20, _⟩ => gIf rfl rfl (yF rfl u18) fun gc F hF => core_val rfl hF (o_lss (gt gc u20) rfl rfl),
 fun ρz wz hE hA _ ⟨u18, u21, _⟩ => core_val rfl rfl (o_pick_or u18 rfl u21),
 mU rfl rfl rfl,
 fun ρz wz hE hA ⟨e1, _⟩ ⟨u23, _⟩ => gIf rfl rfl (yF rfl u23) fun gc F hF => core_val rfl hF (o_fieldAddr (e1.trans h1) (fa_38_2 _ _)),
 fun ρz wz hE hA _ ⟨u23, u24, _⟩ => gIf rfl rfl (yF rfl u23) fun gc F hF => core_val rfl hF (o_load (gt gc u24) (run_load1 (lr_3 _ _) (CA.sub ((Hb_b1_.exn (hA rfl)).ca) 2 1))),
 fun ρz wz hE hA _ ⟨u23, u25, _⟩ => gIf rfl rfl (yF rfl u23) fun gc F hF => core_val rfl hF (o_gtr (gt gc u25) rfl rfl),
 fun ρz wz hE hA _ ⟨u23, u26, _⟩ => core_val rfl rfl (o_pick_or u23 rfl u26),
 mU rfl rfl rfl,
 fun ρz wz hE hA ⟨e1, _⟩ ⟨u28, _⟩ => gIf rfl rfl (yF rfl u28) fun gc F hF => core_val rfl hF (o_fieldAddr (e1.trans h1) (fa_38_4 _ _)),
 fun ρz wz hE hA _ ⟨u28, u29, _⟩ => gIf rfl rfl (yF rfl u28) fun gc F hF => core_val rfl hF (o_load (gt gc u29) (run_load1 (lr_3 _ _) (CA.sub ((Hb_b1_.exn (hA rfl)).ca) 4 1))),
 fun ρz wz hE hA _ ⟨u28, u30, _⟩ => gIf rfl rfl (yF rfl u28) fun gc F hF => core_val rfl hF (o_lss (gt gc u30) rfl rfl),
 fun ρz wz hE hA _ ⟨u28, u31, _⟩ => core_val rfl rfl (o_pick_or u28 rfl u31),
 mU rfl rfl rfl,
 fun ρz wz hE hA ⟨e1, _⟩ ⟨u33, _⟩ => gIf rfl rfl (yF rfl u33) fun gc F hF => core_val rfl hF (o_fieldAddr (e1.trans h1) (fa_38_4 _ _)),
 fun ρz wz hE hA _ ⟨u33, u34, _⟩ => gIf rfl rfl (yF rfl u33) fun gc F hF => core_val rfl hF (o_load (gt gc u34) (run_load1 (lr_3 _ _) (CA.sub ((Hb_b1_.exn (hA rfl)).ca) 4 1))),
 fun ρz wz hE hA _ ⟨u33, u35, _⟩ => gIf rfl rfl (yF rfl u33) fun gc F hF => core_val rfl hF (o_gtr (gt gc u35) rfl rfl),
 fun ρz wz hE hA _ ⟨u33, u36, _⟩ => core_val rfl rfl (o_pick_or u33 rfl u36),
 mU rfl rfl rfl,
 fun ρz wz hE hA ⟨e3, _⟩ ⟨u38, _⟩ => gIf rfl rfl (yF rfl u38) fun gc F hF => core_val rfl hF (o_move (e3.trans h3)),
 fun ρz wz hE hA _ ⟨u38, u39, _⟩ => gIf rfl rfl (yF rfl u38) fun gc F hF => core_call hF (call_args1 (gt gc u39)) cf_28 (pensionref12_Uses_ok  _  (hz gc)),
 fun ρz wz hE hA _ ⟨u38, u40, _⟩ => gIf rfl rfl (yF rfl u38) fun gc F hF => core_val rfl hF (o_eqlT (gt gc u40) rfl rfl),
 fun ρz wz hE hA _ ⟨u38, u41, _⟩ => core_valE rfl rfl (congrArg Value.bool hc) (o_pick_or u38 rfl u41), trivial⟩ ?_
  intro ρ3 w3 hN hf hr
  have h48 := hv hf 42 rfl rfl
  obtain ⟨h1, h3⟩ := k2 hr h1 h3 rfl
  have Hb_b1_n := Hb_b1_.exn hN
  have hW := hW.trans hN
  have Hb_b1_ := Hb_b1_n
  refine WP.cond rfl h48 (fun hb => ?_) (fun hb => ?_)
  · have hF := (if_pos hb).symm.trans hF
    refine WP.seq (WP.rb mixed [[]] [[]] [(2, .bool false)] (by kernel_rfl) ⟨aC rfl rfl (fun _ => rfl), trivial⟩ ?_)
    intro ρ4 w4 hN hf hr
    have h2 := hv hf 0 rfl rfl
    have hW := hW.trans hN
    refine WP.ret ?_
    show retQ Tryz.prog 144 Tryz.f65 (fun v w1 => v = .bool r ∧ Ext noG w0 w1) .ret ρ4 w4
    obtain rfl := Option.some.inj hF
    exact res1 rfl (by decide) h2 ⟨rfl, hW⟩
  have hF := (if_neg (Bool.eq_false_iff.1 hb)).symm.trans hF
  refine WP.skip (WP.seq (WP.seq (WP.rb mixed [[], [0], [1], [2], [3], [4], [4, 5], [4, 6], [4], [4, 8], [4, 9], [4, 7, 10], [4, 11], [12], [13], [13, 14], [13, 15], [13, 16], [13, 17]] [[1], [], [], [], [], [1], [], [], [1], [], [], [], [], [], [1], [], [], [], []] [(49, .pointer (some ((⟨b1_, 0, none⟩ : Addr).add 7))), (50, .pointer (some (((⟨b1_, 0, none⟩ : Addr).add 7).add 0))), (51, .int .i64 d_.Span.From), (52, .bool (decide (d_.Span.From < 0))), (53, .bool (decide (d_.Span.From < 0))), (54, gv (!(decide (d_.Span.From < 0))) (.pointer (some ((⟨b1_, 0, none⟩ : Addr).add 7)))), (55, gv (!(decide (d_.Span.From < 0))) (.pointer (some (((⟨b1_, 0, none⟩ : Addr).add 7).add 0)))), (56, gv (!(decide (d_.Span.From < 0))) (.int .i64 d_.Span.From)), (57, gv (!(decide (d_.Span.From < 0))) (.pointer (some ((⟨b1_, 0, none⟩ : Addr).add 7)))), (58, gv (!(decide (d_.Span.From < 0))) (.pointer (some (((⟨b1_, 0, none⟩ : Addr).add 7).add 1)))), (59, gv (!(decide (d_.Span.From < 0))) (.int .i64 d_.Span.To)), (60, gv (!(decide (d_.Span.From < 0))) (.bool (decide (d_.Span.To ≤ d_.Span.From)))), (61, .bool (decide (d_.Span.From < 0) || decide (d_.Span.To ≤ d_.Span.From))), (62, .bool (decide (d_.Span.From < 0) || decide (d_.Span.To ≤ d_.Span.From))), (63, gv (!(decide (d_.Span.From < 0) || decide (d_.Span.To ≤ d_.Span.From))) (.pointer (some ((⟨b1_, 0, none⟩ : Addr).add 7)))), (64, gv (!(decide (d_.Span.From < 0) || decide (d_.Span.To ≤ d_.Span.From))) (.pointer (some (((⟨b1_, 0, none⟩ : Addr).add 7).add 1)))), (65, gv (!(decide (d_.Span.From < 0) || decide (d_.Span.To ≤ d_.Span.From))) (.int .i64 d_.Span.To)), (66, gv (!(decide (d_.Span.From < 0) || decide (d_.Span.To ≤ d_.Span.From))) (.bool (decide (73049 < d_.Span.To)))), (67, .bool ((decide (d_.Span.From < 0) || decide (d_.Span.To ≤ d_.Span.From)) || decide (73049 < d_.Span.To)))] (by kernel_rfl) ⟨fun ρz wz hE hA ⟨e1, _⟩ _ => core_val rfl rfl (o_fieldAddr (e1.trans h1) (fa_38_7 _ _)),
 fun ρz wz hE hA _ ⟨u0, _⟩ => core_val rfl rfl (o_fieldAddr u0 (fa_36_0 _ _)),
 fun ρz wz hE hA _ ⟨u1, _⟩ => core_val rfl rfl (o_load u1 (run_load1 (lr_3 _ _) (CA.sub (CA.sub ((Hb_b1_.exn (hA rfl)).ca) 7 2) 0 1))),
 fun ρz wz hE hA _ ⟨u2, _⟩ => core_val rfl rfl (o_lss u2 rfl rfl),
 mU rfl rfl rfl,
 fun ρz wz hE hA ⟨e1, _⟩ ⟨u4, _⟩ => gIf rfl rfl (yF rfl u4) fun gc F hF => core_val rfl hF (o_fieldAddr (e1.trans h1) (fa_38_7 _ _)),
 fun ρz wz hE hA _ ⟨u4, u5, _⟩ => gIf rfl rfl (yF rfl u4) fun gc F hF => core_val rfl hF (o_fieldAddr (gt gc u5) (fa_36_0 _ _)),
 fun ρz wz hE hA _ ⟨u4, u6, _⟩ => gIf rfl rfl (yF rfl u4) fun gc F hF => core_val rfl hF (o_load (gt gc u6) (run_load1 (lr_3 _ _) (CA.sub (CA.sub ((Hb_b1_.exn (hA rfl)).ca) 7 2) 0 1))),
 fun ρz wz hE hA ⟨e1, _⟩ ⟨u4, _⟩ => gIf rfl rfl (yF rfl u4) fun gc F hF => core_val rfl hF (o_fieldAddr (e1.trans h1) (fa_38_7 _ _)),
 fun ρz wz hE hA _ ⟨u4, u8, _⟩ => gIf rfl rfl (yF rfl u4) fun gc F hF => core_val rfl hF (o_fieldAddr (gt gc u8) (fa_36_1 _ _)),
 fun ρz wz hE hA _ ⟨u4, u9, _⟩ => gIf rfl rfl (yF rfl u4) fun gc F hF => core_val rfl hF (o_load (gt gc u9) (run_load1 (lr_3 _ _) (CA.sub (CA.sub ((Hb_b1_.exn (hA rfl)).ca) 7 2) 1 1))),
 fun ρz wz hE hA _ ⟨u4, u7, u10, _⟩ => gIf rfl rfl (yF rfl u4) fun gc F hF => core_val rfl hF (o_geq (gt gc u7) (gt gc u10) rfl),
 fun ρz wz hE hA _ ⟨u4, u11, _⟩ => core_val rfl rfl (o_pick_or u4 rfl u11),
 mU rfl rfl rfl,
 fun ρz wz hE hA ⟨e1, _⟩ ⟨u13, _⟩ => gIf rfl rfl (yF rfl u13) fun gc F hF => core_val rfl hF (o_fieldAddr (e1.trans h1) (fa_38_7 _ _)),
 fun ρz wz hE hA _ ⟨u13, u14, _⟩ => gIf rfl rfl (yF rfl u13) fun gc F hF => core_val rfl hF (o_fieldAddr (gt gc u14) (fa_36_1 _ _)),
 fun ρz wz hE hA _ ⟨u13, u15, _⟩ => gIf rfl rfl (yF rfl u13) fun gc F hF => core_val rfl hF (o_load (gt gc u15) (run_load1 (lr_3 _ _) (CA.sub (CA.sub ((Hb_b1_.exn (hA rfl)).ca) 7 2) 1 1))),
 fun ρz wz hE hA _ ⟨u13, u16, _⟩ => gIf rfl rfl (yF rfl u13) fun gc F hF => core_val rfl hF (o_gtr (gt gc u16) rfl rfl),
 fun ρz wz hE hA _ ⟨u13, u17, _⟩ => core_val rfl rfl (o_pick_or u13 rfl u17), trivial⟩ ?_)))
  intro ρ5 w5 hN hf hr
  have h67 := hv hf 18 rfl rfl
  obtain ⟨h1, h3⟩ := k2 hr h1 h3 rfl
  have Hb_b1_n := Hb_b1_.exn hN
  have hW := hW.trans hN
  have Hb_b1_ := Hb_b1_n
  refine WP.cond rfl h67 (fun hb => ?_) (fun hb => ?_)
  · have hF := (if_pos hb).symm.trans hF
    refine WP.seq (WP.rb mixed [[]] [[]] [(2, .bool false)] (by kernel_rfl) ⟨aC rfl rfl (fun _ => rfl), trivial⟩ ?_)
    intro ρ6 w6 hN hf hr
    have h2 := hv hf 0 rfl rfl
    have hW := hW.trans hN
    refine WP.ret ?_
    show retQ Tryz.prog 144 Tryz.f65 (fun v w1 => v = .bool r ∧ Ext noG w0 w1) .ret ρ6 w6
    obtain rfl := Option.some.inj hF
    exact res1 rfl (by decide) h2 ⟨rfl, hW⟩
  have hF := (if_neg (Bool.eq_false_iff.1 hb)).symm.trans hF
  refine WP.skip (WP.seq (WP.seq (WP.rb mixed [[], [0], [1], [2], [2, 3], [2, 4], [5], [6], [6, 7], [6, 8], [6], [6, 10], [6, 11], [6, 9, 12], [6, 13], [6, 14], [15], [16], [16, 17], [16, 18], [19], [19, 20], [19], [19, 22], [19, 21, 23], [16, 19, 24], [16, 25], [26], [27], [27, 28], [27, 29], [30], [30, 31], [27, 30, 32], [27, 33], [34], [34, 35], [34], [34, 37], [34, 36, 38], [27, 34, 39], [27, 40]] [[3], [], [], [3], [], [], [], [1], [], [], [1], [], [], [], [], [], [], [3], [], [], [1], [], [1], [], [], [], [], [], [3], [], [], [3], [], [], [], [1], [], [1], [], [], [], []] [(68, .int .i64 d_.Kind), (69, .bool (d_.Kind == 11)), (70, .bool (d_.Kind == 11)), (71, gv (!(d_.Kind == 11)) (.int .i64 d_.Kind)), (72, gv (!(d_.Kind == 11)) (.bool (d_.Kind == 12))), (73, .bool ((d_.Kind == 11) || (d_.Kind == 12))), (74, .bool ((d_.Kind == 11) || (d_.Kind == 12))), (75, gv (((d_.Kind == 11) || (d_.Kind == 12))) (.pointer (some ((⟨b1_, 0, none⟩ : Addr).add 7)))), (76, gv (((d_.Kind == 11) || (d_.Kind == 12))) (.pointer (some (((⟨b1_, 0, none⟩ : Addr).add 7).add 1)))), (77, gv (((d_.Kind == 11) || (d_.Kind == 12))) (.int .i64 d_.Span.To)), (78, gv (((d_.Kind == 11) || (d_.Kind == 12))) (.pointer (some ((⟨b1_, 0, none⟩ : Addr).add 7)))), (79, gv (((d_.Kind == 11) || (d_.Kind == 12))) (.pointer (some (((⟨b1_, 0, none⟩ : Addr).add 7).add 0)))), (80, gv (((d_.Kind == 11) || (d_.Kind == 12))) (.int .i64 d_.Span.From)), (81, gv (((d_.Kind == 11) || (d_.Kind == 12))) (.int .i64 (i64 (d_.Span.To - d_.Span.From)))), (82, gv (((d_.Kind == 11) || (d_.Kind == 12))) (.bool (i64 (d_.Span.To - d_.Span.From) != 1))), (83, .bool (((d_.Kind == 11) || (d_.Kind == 12)) && (i64 (d_.Span.To - d_.Span.From) != 1))), (84, .bool (((d_.Kind == 11) || (d_.Kind == 12)) && (i64 (d_.Span.To - d_.Span.From) != 1))), (85, gv (!(((d_.Kind == 11) || (d_.Kind == 12)) && (i64 (d_.Span.To - d_.Span.From) != 1))) (.int .i64 d_.Kind)), (86, gv (!(((d_.Kind == 11) || (d_.Kind == 12)) && (i64 (d_.Span.To - d_.Span.From) != 1))) (.bool (d_.Kind == 4))), (87, gv (!(((d_.Kind == 11) || (d_.Kind == 12)) && (i64 (d_.Span.To - d_.Span.From) != 1))) (.bool (d_.Kind == 4))), (88, gv ((!(((d_.Kind == 11) || (d_.Kind == 12)) && (i64 (d_.Span.To - d_.Span.From) != 1))) && (d_.Kind == 4)) (.pointer (some ((⟨b1_, 0, none⟩ : Addr).add 9)))), (89, gv ((!(((d_.Kind == 11) || (d_.Kind == 12)) && (i64 (d_.Span.To - d_.Span.From) != 1))) && (d_.Kind == 4)) (.int .i64 d_.Seat)), (90, gv ((!(((d_.Kind == 11) || (d_.Kind == 12)) && (i64 (d_.Span.To - d_.Span.From) != 1))) && (d_.Kind == 4)) (.pointer (some ((⟨b1_, 0, none⟩ : Addr).add 6)))), (91, gv ((!(((d_.Kind == 11) || (d_.Kind == 12)) && (i64 (d_.Span.To - d_.Span.From) != 1))) && (d_.Kind == 4)) (.int .i64 d_.State)), (92, gv ((!(((d_.Kind == 11) || (d_.Kind == 12)) && (i64 (d_.Span.To - d_.Span.From) != 1))) && (d_.Kind == 4)) (.bool (d_.Seat == d_.State))), (93, gv (!(((d_.Kind == 11) || (d_.Kind == 12)) && (i64 (d_.Span.To - d_.Span.From) != 1))) (.bool ((d_.Kind == 4) && (d_.Seat == d_.State)))), (94, .bool ((((d_.Kind == 11) || (d_.Kind == 12)) && (i64 (d_.Span.To - d_.Span.From) != 1)) || ((d_.Kind == 4) && (d_.Seat == d_.State)))), (95, .bool ((((d_.Kind == 11) || (d_.Kind == 12)) && (i64 (d_.Span.To - d_.Span.From) != 1)) || ((d_.Kind == 4) && (d_.Seat == d_.State)))), (96, gv (!((((d_.Kind == 11) || (d_.Kind == 12)) && (i64 (d_.Span.To - d_.Span.From) != 1)) || ((d_.Kind == 4) && (d_.Seat == d_.State)))) (.int .i64 d_.Kind)), (97, gv (!((((d_.Kind == 11) || (d_.Kind == 12)) && (i64 (d_.Span.To - d_.Span.From) != 1)) || ((d_.Kind == 4) && (d_.Seat == d_.State)))) (.bool (d_.Kind == 10))), (98, gv (!((((d_.Kind == 11) || (d_.Kind == 12)) && (i64 (d_.Span.To - d_.Span.From) != 1)) || ((d_.Kind == 4) && (d_.Seat == d_.State)))) (.bool (d_.Kind == 10))), (99, gv ((!((((d_.Kind == 11) || (d_.Kind == 12)) && (i64 (d_.Span.To - d_.Span.From) != 1)) || ((d_.Kind == 4) && (d_.Seat == d_.State)))) && !(d_.Kind == 10)) (.int .i64 d_.Kind)), (100, gv ((!((((d_.Kind == 11) || (d_.Kind == 12)) && (i64 (d_.Span.To - d_.Span.From) != 1)) || ((d_.Kind == 4) && (d_.Seat == d_.State)))) && !(d_.Kind == 10)) (.bool (d_.Kind == 14))), (101, gv (!((((d_.Kind == 11) || (d_.Kind == 12)) && (i64 (d_.Span.To - d_.Span.From) != 1)) || ((d_.Kind == 4) && (d_.Seat == d_.State)))) (.bool ((d_.Kind == 10) || (d_.Kind == 14)))), (102, gv (!((((d_.Kind == 11) || (d_.Kind == 12)) && (i64 (d_.Span.To - d_.Span.From) != 1)) || ((d_.Kind == 4) && (d_.Seat == d_.State)))) (.bool ((d_.Kind == 10) || (d_.Kind == 14)))), (103, gv ((!((((d_.Kind == 11) || (d_.Kind == 12)) && (i64 (d_.Span.To - d_.Span.From) != 1)) || ((d_.Kind == 4) && (d_.Seat == d_.State)))) && ((d_.Kind == 10) || (d_.Kind == 14))) (.pointer (some ((⟨b1_, 0, none⟩ : Addr).add 13)))), (104, gv ((!((((d_.Kind == 11) || (d_.Kind == 12)) && (i64 (d_.Span.To - d_.Span.From) != 1)) || ((d_.Kind == 4) && (d_.Seat == d_.State)))) && ((d_.Kind == 10) || (d_.Kind == 14))) (.int .i64 d_.Ref)), (105, gv ((!((((d_.Kind == 11) || (d_.Kind == 12)) && (i64 (d_.Span.To - d_.Span.From) != 1)) || ((d_.Kind == 4) && (d_.Seat == d_.State)))) && ((d_.Kind == 10) || (d_.Kind == 14))) (.pointer (some ((⟨b1_, 0, none⟩ : Addr).add 4)))), (106, gv ((!((((d_.Kind == 11) || (d_.Kind == 12)) && (i64 (d_.Span.To - d_.Span.From) != 1)) || ((d_.Kind == 4) && (d_.Seat == d_.State)))) && ((d_.Kind == 10) || (d_.Kind == 14))) (.int .i64 d_.Person)), (107, gv ((!((((d_.Kind == 11) || (d_.Kind == 12)) && (i64 (d_.Span.To - d_.Span.From) != 1)) || ((d_.Kind == 4) && (d_.Seat == d_.State)))) && ((d_.Kind == 10) || (d_.Kind == 14))) (.bool (d_.Ref == d_.Person))), (108, gv (!((((d_.Kind == 11) || (d_.Kind == 12)) && (i64 (d_.Span.To - d_.Span.From) != 1)) || ((d_.Kind == 4) && (d_.Seat == d_.State)))) (.bool (((d_.Kind == 10) || (d_.Kind == 14)) && (d_.Ref == d_.Person)))), (109, .bool (((((d_.Kind == 11) || (d_.Kind == 12)) && (i64 (d_.Span.To - d_.Span.From) != 1)) || ((d_.Kind == 4) && (d_.Seat == d_.State))) || (((d_.Kind == 10) || (d_.Kind == 14)) && (d_.Ref == d_.Person))))] (by kernel_rfl) ⟨mE rfl rfl h3,
 fun ρz wz hE hA _ ⟨u0, _⟩ => core_val rfl rfl (o_eql u0 rfl rfl),
 mU rfl rfl rfl,
 fun ρz wz hE hA ⟨e3, _⟩ ⟨u2, _⟩ => gIf rfl rfl (yF rfl u2) fun gc F hF => core_val rfl hF (o_move (e3.trans h3)),
 fun ρz wz hE hA _ ⟨u2, u3, _⟩ => gIf rfl rfl (yF rfl u2) fun gc F hF => core_val rfl hF (o_eql (gt gc u3) rfl rfl),
 fun ρz wz hE hA _ ⟨u2, u4, _⟩ => core_val rfl rfl (o_pick_or u2 rfl u4),
 mU rfl rfl rfl,
 fun ρz wz hE hA ⟨e1, _⟩ ⟨u6, _⟩ => gIf rfl rfl (yT rfl u6) fun gc F hF => core_val rfl hF (o_fieldAddr (e1.trans h1) (fa_38_7 _ _)),
 fun ρz wz hE hA _ ⟨u6, u7, _⟩ => gIf rfl rfl (yT rfl u6) fun gc F hF => core_val rfl hF (o_fieldAddr (gt gc u7) (fa_36_1 _ _)),
 fun ρz wz hE hA _ ⟨u6, u8, _⟩ => gIf rfl rfl (yT rfl u6) fun gc F hF => core_val rfl hF (o_load (gt gc u8) (run_load1 (lr_3 _ _) (CA.sub (CA.sub ((Hb_b1_.exn (hA rfl)).ca) 7 2) 1 1))),
 fun ρz wz hE hA ⟨e1, _⟩ ⟨u6, _⟩ => gIf rfl rfl (yT rfl u6) fun gc F hF => core_val rfl hF (o_fieldAddr (e1.trans h1) (fa_38_7 _ _)),
 fun ρz wz hE hA _ ⟨u6, u10, _⟩ => gIf rfl rfl (yT rfl u6) fun gc F hF => core_val rfl hF (o_fieldAddr (gt gc u10) (fa_36_0 _ _)),
 fun ρz wz hE hA _ ⟨u6, u11, _⟩ => gIf rfl rfl (yT rfl u6) fun gc F hF => core_val rfl hF (o_load (gt gc u11) (run_load1 (lr_3 _ _) (CA.sub (CA.sub ((Hb_b1_.exn (hA rfl)).ca) 7 2) 0 1))),
 fun ρz wz hE hA _ ⟨u6, u9, u12, _⟩ => gIf rfl rfl (yT rfl u6) fun gc F hF => core_val rfl hF (o_sub (gt gc u9) (gt gc u12) rfl),
 fun ρz wz hE hA _ ⟨u6, u13, _⟩ => gIf rfl rfl (yT rfl u6) fun gc F hF => core_val rfl hF (o_neq (gt gc u13) rfl rfl),
 fun ρz wz hE hA _ ⟨u6, u14, _⟩ => core_val rfl rfl (o_pick_and u6 u14 rfl),
 mU rfl rfl rfl,
 fun ρz wz hE hA ⟨e3, _⟩ ⟨u16, _⟩ => gIf rfl rfl (yF rfl u16) fun gc F hF => core_val rfl hF (o_move (e3.trans h3)),
 fun ρz wz hE hA _ ⟨u16, u17, _⟩ => gIf rfl rfl (yF rfl u16) fun gc F hF => core_val rfl hF (o_eql (gt gc u17) rfl rfl),
 fun ρz wz hE hA _ ⟨u16, u18, _⟩ => gIf rfl rfl (yF rfl u16) fun gc F hF => core_val rfl hF (o_move (gt gc u18)),
 fun ρz wz hE hA ⟨e1, _⟩ ⟨u19, _⟩ => gIf rfl rfl (yTG rfl u19) fun gc F hF => core_val rfl hF (o_fieldAddr (e1.trans h1) (fa_38_8 _ _)),
 fun ρz wz hE hA _ ⟨u19, u20, _⟩ => gIf rfl rfl (yTG rfl u19) fun gc F hF => core_val rfl hF (o_load (gt gc u20) (run_load1 (lr_3 _ _) (CA.sub ((Hb_b1_.exn (hA rfl)).ca) 9 1))),
 fun ρz wz hE hA ⟨e1, _⟩ ⟨u19, _⟩ => gIf rfl rfl (yTG rfl u19) fun gc F hF => core_val rfl hF (o_fieldAddr (e1.trans h1) (fa_38_6 _ _)),
 fun ρz wz hE hA _ ⟨u19, u22, _⟩ => gIf rfl rfl (yTG rfl u19) fun gc F hF => core_val rfl hF (o_load (gt gc u22) (run_load1 (lr_3 _ _) (CA.sub ((Hb_b1_.exn (hA rfl)).ca) 6 1))),
 fun ρz wz hE hA _ ⟨u19, u21, u23, _⟩ => gIf rfl rfl (yTG rfl u19) fun gc F hF => core_val rfl hF (o_eql (gt gc u21) (gt gc u23) rfl),
 fun ρz wz hE hA _ ⟨u16, u19, u24, _⟩ => gIf rfl rfl (yF rfl u16) fun gc F hF => core_val rfl hF (o_pick_and (gt gc u19) (gr gc u24) rfl),
 fun ρz wz hE hA _ ⟨u16, u25, _⟩ => core_val rfl rfl (o_pick_or u16 rfl u25),
 mU rfl rfl rfl,
 fun ρz wz hE hA ⟨e3, _⟩ ⟨u27, _⟩ => gIf rfl rfl (yF rfl u27) fun gc F hF => core_val rfl hF (o_move (e3.trans h3)),
 fun ρz wz hE hA _ ⟨u27, u28, _⟩ => gIf rfl rfl (yF rfl u27) fun gc F hF => core_val rfl hF (o_eql (gt gc u28) rfl rfl),
 fun ρz wz hE hA _ ⟨u27, u29, _⟩ => gIf rfl rfl (yF rfl u27) fun gc F hF => core_val rfl hF (o_move (gt gc u29)),
 fun ρz wz hE hA ⟨e3, _⟩ ⟨u30, _⟩ => gIf rfl rfl (yFG rfl u30) fun gc F hF => core_val rfl hF (o_move (e3.trans h3)),
 fun ρz wz hE hA _ ⟨u30, u31, _⟩ => gIf rfl rfl (yFG rfl u30) fun gc F hF => core_val rfl hF (o_eql (gt gc u31) rfl rfl),
 fun ρz wz hE hA _ ⟨u27, u30, u32, _⟩ => gIf rfl rfl (yF rfl u27) fun gc F hF => core_val rfl hF (o_pick_or (gt gc u30) rfl (gr gc u32)),
 fun ρz wz hE hA _ ⟨u27, u33, _⟩ => gIf rfl rfl (yF rfl u27) fun gc F hF => core_val rfl hF (o_move (gt gc u33)),
 fun ρz wz hE hA ⟨e1, _⟩ ⟨u34, _⟩ => gIf rfl rfl (yTG rfl u34) fun gc F hF => core_val rfl hF (o_fieldAddr (e1.trans h1) (fa_38_12 _ _)),
 fun ρz wz hE hA _ ⟨u34, u35, _⟩ => gIf rfl rfl (yTG rfl u34) fun gc F hF => core_val rfl hF (o_load (gt gc u35) (run_load1 (lr_3 _ _) (CA.sub ((Hb_b1_.exn (hA rfl)).ca) 13 1))),
 fun ρz wz hE hA ⟨e1, _⟩ ⟨u34, _⟩ => gIf rfl rfl (yTG rfl u34) fun gc F hF => core_val rfl hF (o_fieldAddr (e1.trans h1) (fa_38_4 _ _)),
 fun ρz wz hE hA _ ⟨u34, u37, _⟩ => gIf rfl rfl (yTG rfl u34) fun gc F hF => core_val rfl hF (o_load (gt gc u37) (run_load1 (lr_3 _ _) (CA.sub ((Hb_b1_.exn (hA rfl)).ca) 4 1))),
 fun ρz wz hE hA _ ⟨u34, u36, u38, _⟩ => gIf rfl rfl (yTG rfl u34) fun gc F hF => core_val rfl hF (o_eql (gt gc u36) (gt gc u38) rfl),
 fun ρz wz hE hA _ ⟨u27, u34, u39, _⟩ => gIf rfl rfl (yF rfl u27) fun gc F hF => core_val rfl hF (o_pick_and (gt gc u34) (gr gc u39) rfl),
 fun ρz wz hE hA _ ⟨u27, u40, _⟩ => core_val rfl rfl (o_pick_or u27 rfl u40), trivial⟩ ?_)))
  intro ρ7 w7 hN hf hr
  have h109 := hv hf 41 rfl rfl
  obtain ⟨h1, h3⟩ := k2 hr h1 h3 rfl
  have Hb_b1_n := Hb_b1_.exn hN
  have hW := hW.trans hN
  have Hb_b1_ := Hb_b1_n
  refine WP.cond rfl h109 (fun hb => ?_) (fun hb => ?_)
  · have hF := (if_pos hb).symm.trans hF
    refine WP.seq (WP.rb mixed [[]] [[]] [(2, .bool false)] (by kernel_rfl) ⟨aC rfl rfl (fun _ => rfl), trivial⟩ ?_)
    intro ρ8 w8 hN hf hr
    have h2 := hv hf 0 rfl rfl
    have hW := hW.trans hN
    refine WP.ret ?_
    show retQ Tryz.prog 144 Tryz.f65 (fun v w1 => v = .bool r ∧ Ext noG w0 w1) .ret ρ8 w8
    obtain rfl := Option.some.inj hF
    exact res1 rfl (by decide) h2 ⟨rfl, hW⟩
  have hF := (if_neg (Bool.eq_false_iff.1 hb)).symm.trans hF
  refine WP.skip (WP.seq ?_)
  obtain ⟨z2, hz2, hF⟩ := obind hF
  obtain ⟨c2, hc2, hF⟩ := obind hF
  obtain ⟨z3, hz3, hc2⟩ := andB hc2
  have hc2 := andE hc2
  obtain ⟨c3, hc3, hF⟩ := obind hF
  obtain ⟨z4, hz4, hc3⟩ := andB hc3
  have hc3 := andE hc3
  obtain ⟨c4, hc4, hF⟩ := obind hF
  obtain ⟨z5, hz5, hc4⟩ := andB hc4
  have hc4 := andE hc4
  obtain ⟨c5, hc5, hF⟩ := obind hF
  obtain ⟨z6, hz6, hc5⟩ := andB hc5
  have hc5 := andE hc5
  obtain ⟨c6, hc6, hF⟩ := obind hF
  obtain ⟨z7, hz7, hc6⟩ := andB hc6
  have hc6 := andE hc6
  refine WP.rb mixed [[], [], [1], [0, 2], [3], [4], [4], [4, 6], [4, 5, 7], [4, 8], [9], [10], [10], [10, 12], [10, 11, 13], [10, 14], [15], [16], [16], [16, 18], [16, 17, 19], [16, 20], [21], [22], [22], [22, 24], [22, 23, 25], [22, 26], [27], [28], [28], [28, 30], [28, 29, 31], [28, 32], [33]] [[3], [1], [], [], [], [3], [1], [], [], [], [], [3], [1], [], [], [], [], [3], [1], [], [], [], [], [3], [1], [], [], [], [], [3], [1], [], [], [], []] [(110, .int .i64 d_.Kind), (111, .pointer (some ((⟨b1_, 0, none⟩ : Addr).add 6))), (112, .int .i64 d_.State), (113, .bool z2), (114, .bool z2), (115, gv (z2) (.int .i64 d_.Kind)), (116, gv (z2) (.pointer (some ((⟨b1_, 0, none⟩ : Addr).add 9)))), (117, gv (z2) (.int .i64 d_.Seat)), (118, gv (z2) (.bool z3)), (119, .bool c2), (120, .bool c2), (121, gv (c2) (.int .i64 d_.Kind)), (122, gv (c2) (.pointer (some ((⟨b1_, 0, none⟩ : Addr).add 10)))), (123, gv (c2) (.int .i64 d_.Share)), (124, gv (c2) (.bool z4)), (125, .bool c3), (126, .bool c3), (127, gv (c3) (.int .i64 d_.Kind)), (128, gv (c3) (.pointer (some ((⟨b1_, 0, none⟩ : Addr).add 11)))), (129, gv (c3) (.int .i64 d_.Currency)), (130, gv (c3) (.bool z5)), (131, .bool c4), (132, .bool c4), (133, gv (c4) (.int .i64 d_.Kind)), (134, gv (c4) (.pointer (some ((⟨b1_, 0, none⟩ : Addr).add 12)))), (135, gv (c4) (.int .i64 d_.Amount)), (136, gv (c4) (.bool z6)), (137, .bool c5), (138, .bool c5), (139, gv (c5) (.int .i64 d_.Kind)), (140, gv (c5) (.pointer (some ((⟨b1_, 0, none⟩ : Addr).add 13)))), (141, gv (c5) (.int .i64 d_.Ref)), (142, gv (c5) (.bool z7)), (143, .bool c6), (2, .bool c6)] (by kernel_rfl) ⟨mE rfl rfl h3,
 fun ρz wz hE hA ⟨e1, _⟩ _ => core_val rfl rfl (o_fieldAddr (e1.trans h1) (fa_38_6 _ _)),
 fun ρz wz hE hA _ ⟨u1, _⟩ => core_val rfl rfl (o_load u1 (run_load1 (lr_3 _ _) (CA.sub ((Hb_b1_.exn (hA rfl)).ca) 6 1))),
 fun ρz wz hE hA _ ⟨u0, u2, _⟩ => core_call rfl (call_args5 u0 rfl u2 rfl rfl) cf_96 (pensionref12_field_ok  _ _ _ _ _  hz2),
 mU rfl rfl rfl,
 fun ρz wz hE hA ⟨e3, _⟩ ⟨u4, _⟩ => gIf rfl rfl (yT rfl u4) fun gc F hF => core_val rfl hF (o_move (e3.trans h3)),
 fun ρz wz hE hA ⟨e1, _⟩ ⟨u4, _⟩ => gIf rfl rfl (yT rfl u4) fun gc F hF => core_val rfl hF (o_fieldAddr (e1.trans h1) (fa_38_8 _ _)),
 fun ρz wz hE hA _ ⟨u4, u6, _⟩ => gIf rfl rfl (yT rfl u4) fun gc F hF => core_val rfl hF (o_load (gt gc u6) (run_load1 (lr_3 _ _) (CA.sub ((Hb_b1_.exn (hA rfl)).ca) 9 1))),
 fun ρz wz hE hA _ ⟨u4, u5, u7, _⟩ => gIf rfl rfl (yT rfl u4) fun gc F hF => core_call hF (call_args5 (gt gc u5) rfl (gt gc u7) rfl rfl) cf_96 (pensionref12_field_ok  _ _ _ _ _  (hz3 gc)),
 fun ρz wz hE hA _ ⟨u4, u8, _⟩ => core_valE rfl rfl (congrArg Value.bool hc2) (o_pick_and u4 u8 rfl),
 mU rfl rfl rfl,
 fun ρz wz hE hA ⟨e3, _⟩ ⟨u10, _⟩ => gIf rfl rfl (yT rfl u10) fun gc F hF => core_val rfl hF (o_move (e3.trans h3)),
 fun ρz wz hE hA ⟨e1, _⟩ ⟨u10, _⟩ => gIf rfl rfl (yT rfl u10) fun gc F hF => core_val rfl hF (o_fieldAddr (e1.trans h1) (fa_38_9 _ _)),
 fun ρz wz hE hA _ ⟨u10, u12, _⟩ => gIf rfl rfl (yT rfl u10) fun gc F hF => core_val rfl hF (o_load (gt gc u12) (run_load1 (lr_3 _ _) (CA.sub ((Hb_b1_.exn (hA rfl)).ca) 10 1))),
 fun ρz wz hE hA _ ⟨u10, u11, u13, _⟩ => gIf rfl rfl (yT rfl u10) fun gc F hF => core_call hF (call_args5 (gt gc u11) rfl (gt gc u13) rfl rfl) cf_96 (pensionref12_field_ok  _ _ _ _ _  (hz4 gc)),
 fun ρz wz hE hA _ ⟨u10, u14, _⟩ => core_valE rfl rfl (congrArg Value.bool hc3) (o_pick_and u10 u14 rfl),
 mU rfl rfl rfl,
 fun ρz wz hE hA ⟨e3, _⟩ ⟨u16, _⟩ => gIf rfl rfl (yT rfl u16) fun gc F hF => core_val rfl hF (o_move (e3.trans h3)),
 fun ρz wz hE hA ⟨e1, _⟩ ⟨u16, _⟩ => gIf rfl rfl (yT rfl u16) fun gc F hF => core_val rfl hF (o_fieldAddr (e1.trans h1) (fa_38_10 _ _)),
 fun ρz wz hE hA _ ⟨u16, u18, _⟩ => gIf rfl rfl (yT rfl u16) fun gc F hF => core_val rfl hF (o_load (gt gc u18) (run_load1 (lr_3 _ _) (CA.sub ((Hb_b1_.exn (hA rfl)).ca) 11 1))),
 fun ρz wz hE hA _ ⟨u16, u17, u19, _⟩ => gIf rfl rfl (yT rfl u16) fun gc F hF => core_call hF (call_args5 (gt gc u17) rfl (gt gc u19) rfl rfl) cf_96 (pensionref12_field_ok  _ _ _ _ _  (hz5 gc)),
 fun ρz wz hE hA _ ⟨u16, u20, _⟩ => core_valE rfl rfl (congrArg Value.bool hc4) (o_pick_and u16 u20 rfl),
 mU rfl rfl rfl,
 fun ρz wz hE hA ⟨e3, _⟩ ⟨u22, _⟩ => gIf rfl rfl (yT rfl u22) fun gc F hF => core_val rfl hF (o_move (e3.trans h3)),
 fun ρz wz hE hA ⟨e1, _⟩ ⟨u22, _⟩ => gIf rfl rfl (yT rfl u22) fun gc F hF => core_val rfl hF (o_fieldAddr (e1.trans h1) (fa_38_11 _ _)),
 fun ρz wz hE hA _ ⟨u22, u24, _⟩ => gIf rfl rfl (yT rfl u22) fun gc F hF => core_val rfl hF (o_load (gt gc u24) (run_load1 (lr_3 _ _) (CA.sub ((Hb_b1_.exn (hA rfl)).ca) 12 1))),
 fun ρz wz hE hA _ ⟨u22, u23, u25, _⟩ => gIf rfl rfl (yT rfl u22) fun gc F hF => core_call hF (call_args5 (gt gc u23) rfl (gt gc u25) rfl rfl) cf_96 (pensionref12_field_ok  _ _ _ _ _  (hz6 gc)),
 fun ρz wz hE hA _ ⟨u22, u26, _⟩ => core_valE rfl rfl (congrArg Value.bool hc5) (o_pick_and u22 u26 rfl),
 mU rfl rfl rfl,
 fun ρz wz hE hA ⟨e3, _⟩ ⟨u28, _⟩ => gIf rfl rfl (yT rfl u28) fun gc F hF => core_val rfl hF (o_move (e3.trans h3)),
 fun ρz wz hE hA ⟨e1, _⟩ ⟨u28, _⟩ => gIf rfl rfl (yT rfl u28) fun gc F hF => core_val rfl hF (o_fieldAddr (e1.trans h1) (fa_38_12 _ _)),
 fun ρz wz hE hA _ ⟨u28, u30, _⟩ => gIf rfl rfl (yT rfl u28) fun gc F hF => core_val rfl hF (o_load (gt gc u30) (run_load1 (lr_3 _ _) (CA.sub ((Hb_b1_.exn (hA rfl)).ca) 13 1))),
 fun ρz wz hE hA _ ⟨u28, u29, u31, _⟩ => gIf rfl rfl (yT rfl u28) fun gc F hF => core_call hF (call_args5 (gt gc u29) rfl (gt gc u31) rfl rfl) cf_96 (pensionref12_field_ok  _ _ _ _ _  (hz7 gc)),
 fun ρz wz hE hA _ ⟨u28, u32, _⟩ => core_valE rfl rfl (congrArg Value.bool hc6) (o_pick_and u28 u32 rfl),
 aU rfl rfl rfl, trivial⟩ ?_
  intro ρ9 w9 hN hf hr
  have h2 := hv hf 34 rfl rfl
  have hW := hW.trans hN
  refine WP.ret ?_
  show retQ Tryz.prog 144 Tryz.f65 (fun v w1 => v = .bool r ∧ Ext noG w0 w1) .ret ρ9 w9
  obtain rfl := Option.some.inj hF
  exact res1 rfl (by decide) h2 ⟨rfl, hW⟩

set_option maxHeartbeats 4000000 in
theorem pensionref12_ID_ok {w0 : World} (a_ : api_Fact) (b_ : api_Fact) {r : Int} (hF : pensionref12_ID a_ b_ = some r) :
    Calls Tryz.prog 67 #[api_Fact.val a_, api_Fact.val b_] w0 fun e w1 => e = .returned (.int .i64 r) ∧ Ext noG w0 w1 := by
  refine (Calls.start (P := Tryz.prog) (args := [api_Fact.val a_, api_Fact.val b_]) (R := fun v w1 => v = .int .i64 r ∧ Ext noG w0 w1) (n := 20) (w := w0) Tryz.func67 rfl rfl (Nat.le_of_ble_eq_true rfl) (fun ρ hargs => ?_)).mono (fun e w1 ⟨v, he, hv, hE⟩ => ⟨hv ▸ he, hE⟩)
  have h0 := hargs 0 _ rfl
  have h1 := hargs 1 _ rfl
  have hW := Ext.refl noG w0
  rw [pensionref12_ID] at hF
  refine WP.seq (WP.regionN mixed ⟨[[], [], []], [[], [], []], [[0], [1], []], [], [], [(0, 2), (1, 3)], []⟩ [(2, fun u wz => ∃ b, u = .pointer (some ⟨b, 0, none⟩) ∧ w0.heap.size ≤ b ∧ Mb wz b 38 (api_Fact.cells a_)), (3, fun u wz => ∃ b, u = .pointer (some ⟨b, 0, none⟩) ∧ w0.heap.size ≤ b ∧ Mb wz b 38 (api_Fact.cells b_)), val 4 (.int .i64 0)] (fun b => w0.heap.size ≤ b) (by kernel_rfl) (.inr (fun _ h => h)) ⟨TStable.box, TStable.box, sV, trivial⟩ ⟨fun ρz wz hE hA ⟨e0, _⟩ _ => core_newN rfl rfl rfl hE (o_box (e0.trans h0) (bx_38 _ _)),
 fun ρz wz hE hA ⟨e1, _⟩ _ => core_newN rfl rfl rfl hE (o_box (e1.trans h1) (bx_38 _ _)),
 fun ρz wz hE hA _ _ => core_val rfl rfl (o_assign rfl), trivial⟩ ?_)
  intro ρ1 w1 hE hN hf hr hdist
  have hN := hE.fresh
  obtain ⟨b2_, h2, hge_b2_, Hb_b2_⟩ := hf 0 rfl
  obtain ⟨b3_, h3, hge_b3_, Hb_b3_⟩ := hf 1 rfl
  have hB_b2_ : w0.heap.size ≤ b2_ := Nat.le_trans hW.size hge_b2_
  have hB_b3_ : w0.heap.size ≤ b3_ := Nat.le_trans hW.size hge_b3_
  have hW := hW.trans hN
  refine WP.seq (WP.seq (WP.rb mixed [[], [0], [], [2], [1, 3]] [[2], [], [3], [], []] [(5, .pointer (some ((⟨b2_, 0, none⟩ : Addr).add 0))), (6, .int .i64 a_.Issuer), (7, .pointer (some ((⟨b3_, 0, none⟩ : Addr).add 0))), (8, .int .i64 b_.Issuer), (9, .bool (a_.Issuer != b_.Issuer))] (by kernel_rfl) ⟨fun ρz wz hE hA ⟨e2, _⟩ _ => core_val rfl rfl (o_fieldAddr (e2.trans h2) (fa_38_0 _ _)),
 fun ρz wz hE hA _ ⟨u0, _⟩ => core_val rfl rfl (o_load u0 (run_load1 (lr_3 _ _) (CA.sub ((Hb_b2_.exn (hA rfl)).ca) 0 1))),
 fun ρz wz hE hA ⟨e3, _⟩ _ => core_val rfl rfl (o_fieldAddr (e3.trans h3) (fa_38_0 _ _)),
 fun ρz wz hE hA _ ⟨u2, _⟩ => core_val rfl rfl (o_load u2 (run_load1 (lr_3 _ _) (CA.sub ((Hb_b3_.exn (hA rfl)).ca) 0 1))),
 fun ρz wz hE hA _ ⟨u1, u3, _⟩ => core_val rfl rfl (o_neq u1 u3 rfl), trivial⟩ ?_))
  intro ρ2 w2 hN hf hr
  have h9 := hv hf 4 rfl rfl
  obtain ⟨h2, h3⟩ := k2 hr h2 h3 rfl
  have Hb_b2_n := Hb_b2_.exn hN
  have Hb_b3_n := Hb_b3_.exn hN
  have hW := hW.trans hN
  have Hb_b2_ := Hb_b2_n
  have Hb_b3_ := Hb_b3_n
  refine WP.cond rfl h9 (fun hb => ?_) (fun hb => ?_)
  · have hF := (if_pos hb).symm.trans hF
    refine WP.seq (WP.rb mixed [[], [0], [], [2], [1, 3], [4]] [[2], [], [3], [], [], []] [(10, .pointer (some ((⟨b2_, 0, none⟩ : Addr).add 0))), (11, .int .i64 a_.Issuer), (12, .pointer (some ((⟨b3_, 0, none⟩ : Addr).add 0))), (13, .int .i64 b_.Issuer), (14, .int .i64 (i64 (a_.Issuer - b_.Issuer))), (4, .int .i64 (i64 (a_.Issuer - b_.Issuer)))] (by kernel_rfl) ⟨fun ρz wz hE hA ⟨e2, _⟩ _ => core_val rfl rfl (o_fieldAddr (e2.trans h2) (fa_38_0 _ _)),
 fun ρz wz hE hA _ ⟨u0, _⟩ => core_val rfl rfl (o_load u0 (run_load1 (lr_3 _ _) (CA.sub ((Hb_b2_.exn (hA rfl)).ca) 0 1))),
 fun ρz wz hE hA ⟨e3, _⟩ _ => core_val rfl rfl (o_fieldAddr (e3.trans h3) (fa_38_0 _ _)),
 fun ρz wz hE hA _ ⟨u2, _⟩ => core_val rfl rfl (o_load u2 (run_load1 (lr_3 _ _) (CA.sub ((Hb_b3_.exn (hA rfl)).ca) 0 1))),
 fun ρz wz hE hA _ ⟨u1, u3, _⟩ => core_val rfl rfl (o_sub u1 u3 rfl),
 aU rfl rfl rfl, trivial⟩ ?_)
    intro ρ3 w3 hN hf hr
    have h4 := hv hf 5 rfl rfl
    have hW := hW.trans hN
    refine WP.ret ?_
    show retQ Tryz.prog 20 Tryz.f67 (fun v w1 => v = .int .i64 r ∧ Ext noG w0 w1) .ret ρ3 w3
    obtain rfl := Option.some.inj hF
    exact res1 rfl (by decide) h4 ⟨rfl, hW⟩
  have hF := (if_neg (Bool.eq_false_iff.1 hb)).symm.trans hF
  refine WP.skip (WP.seq (WP.rb mixed [[], [0], [], [2], [1, 3], [4]] [[2], [], [3], [], [], []] [(15, .pointer (some ((⟨b2_, 0, none⟩ : Addr).add 1))), (16, .int .i64 a_.Number), (17, .pointer (some ((⟨b3_, 0, none⟩ : Addr).add 1))), (18, .int .i64 b_.Number), (19, .int .i64 (i64 (a_.Number - b_.Number))), (4, .int .i64 (i64 (a_.Number - b_.Number)))] (by kernel_rfl) ⟨fun ρz wz hE hA ⟨e2, _⟩ _ => core_val rfl rfl (o_fieldAddr (e2.trans h2) (fa_38_1 _ _)),
 fun ρz wz hE hA _ ⟨u0, _⟩ => core_val rfl rfl (o_load u0 (run_load1 (lr_3 _ _) (CA.sub ((Hb_b2_.exn (hA rfl)).ca) 1 1))),
 fun ρz wz hE hA ⟨e3, _⟩ _ => core_val rfl rfl (o_fieldAddr (e3.trans h3) (fa_38_1 _ _)),
 fun ρz wz hE hA _ ⟨u2, _⟩ => core_val rfl rfl (o_load u2 (run_load1 (lr_3 _ _) (CA.sub ((Hb_b3_.exn (hA rfl)).ca) 1 1))),
 fun ρz wz hE hA _ ⟨u1, u3, _⟩ => core_val rfl rfl (o_sub u1 u3 rfl),
 aU rfl rfl rfl, trivial⟩ ?_))
  intro ρ4 w4 hN hf hr
  have h4 := hv hf 5 rfl rfl
  have hW := hW.trans hN
  refine WP.ret ?_
  show retQ Tryz.prog 20 Tryz.f67 (fun v w1 => v = .int .i64 r ∧ Ext noG w0 w1) .ret ρ4 w4
  obtain rfl := Option.some.inj hF
  exact res1 rfl (by decide) h4 ⟨rfl, hW⟩
end Go.PL
