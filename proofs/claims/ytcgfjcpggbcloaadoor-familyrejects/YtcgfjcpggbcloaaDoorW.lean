/- The translated code computes the Lean functions (printed by a program). -/
import Derived.Test.YtcgfjcpggbcloaaDoorW4
set_option linter.unusedVariables false
set_option linter.unusedSimpArgs false
set_option maxRecDepth 10000
namespace Go.PL
open Go Go.Proofs

set_option maxHeartbeats 4000000 in
theorem pensionlaw24_awake_ok {w0 : World} (Hg_0 : GR [Value.int .i64 1, Value.int .i64 1] noG w0 0) {r : Bool} (hF : pensionlaw24_awake = some r) :
    Calls Tryd.prog 16 #[] w0 fun e w1 => e = .returned (.bool r) ∧ Ext noG w0 w1 := by
  refine (Calls.start (P := Tryd.prog) (args := []) (R := fun v w1 => v = .bool r ∧ Ext noG w0 w1) (n := 56) (w := w0) Tryd.func16 rfl rfl (Nat.le_of_ble_eq_true rfl) (fun ρ hargs => ?_)).mono (fun e w1 ⟨v, he, hv, hE⟩ => ⟨hv ▸ he, hE⟩)
  have hW := Ext.refl noG w0
  have hsz := Nat.le_refl w0.heap.size
  have Hg_0 := Hg_0.start
  rw [pensionlaw24_awake] at hF
  refine WP.seq ?_
  refine WP.region mixed [[]] [[]] [[]] [] []
    [val 0 (.bool false)] noG (by kernel_rfl)
    ⟨Stable.val _ _ _, trivial⟩
    ⟨fun ρz wz hE hA _ _ => core_val rfl rfl (o_assign rfl), trivial⟩ ?_
  intro ρ1 w1 hE hN hf hr
  have hN := hN rfl
  have Hg_0_at0 := Hg_0
  have Hg_0 := Hg_0.exn hN
  have hW := hW.trans hN
  have hsz := Nat.le_trans hsz hN.size
  refine WP.seq ?_
  refine WP.region mixed [[], [], [0, 1], [2]] [[], [], [0, 1], [2]] [[], [], [], []] [] []
    [val 6 (Right.val (⟨1, 3, 1, 130⟩ : Right)), val 7 (Right.val (⟨2, 1, 1, 100⟩ : Right)), (8, fun u wz => ∃ b, u = .slice (some ⟨b, 0, none⟩) 2 2 ∧ w1.heap.size ≤ b ∧ Mb wz b 43 (([(⟨1, 3, 1, 130⟩ : Right), (⟨2, 1, 1, 100⟩ : Right)]).flatMap Right.cells)), (1, fun u wz => ∃ b, u = .slice (some ⟨b, 0, none⟩) 2 2 ∧ w1.heap.size ≤ b ∧ Mb wz b 43 (([(⟨1, 3, 1, 130⟩ : Right), (⟨2, 1, 1, 100⟩ : Right)]).flatMap Right.cells))] noG (by kernel_rfl)
    ⟨Stable.val _ _ _, Stable.val _ _ _, fun _ _ _ hE ⟨b, hz, hs, hM⟩ => ⟨b, hz, hs, hM.exn hE⟩, fun _ _ _ hE ⟨b, hz, hs, hM⟩ => ⟨b, hz, hs, hM.exn hE⟩, trivial⟩
    ⟨fun ρz wz hE hA _ _ => core_val rfl rfl (o_build (build_parts4 rfl rfl rfl rfl) (bd_43_0_1_2_3 _ _ _ _ _)),
     fun ρz wz hE hA _ _ => core_val rfl rfl (o_build (build_parts4 rfl rfl rfl rfl) (bd_43_0_1_2_3 _ _ _ _ _)),
     fun ρz wz hE hA _ ⟨u0, u1, _⟩ => core_slice rfl rfl hE (o_buildSlice (build_parts2 u0 u1) (bs_24_2 _ _ _)),
     fun ρz wz hE hA _ ⟨⟨bz2, hz2, hge2, hM2⟩, _⟩ => core_copy rfl rfl (o_assign rfl) ⟨bz2, hz2, hge2, hM2⟩, trivial⟩ ?_
  intro ρ2 w2 hE hN hf hr
  have hN := hN rfl
  obtain ⟨bn1, h1, hgn1, hMn1⟩ : ∃ b, ρ2 1 = .slice (some ⟨b, 0, none⟩) 2 2 ∧ w1.heap.size ≤ b ∧ Mb w2 b 43 (([(⟨1, 3, 1, 130⟩ : Right), (⟨2, 1, 1, 100⟩ : Right)]).flatMap Right.cells) := hf 3 rfl
  obtain ⟨v1_, hv1⟩ : ∃ v : Value, v = .slice (some ⟨bn1, 0, none⟩) 2 2 := ⟨_, rfl⟩
  rw [← hv1] at h1
  have hq1 : Own w0.heap.size 43 4 Right.cells w2 v1_ [(⟨1, 3, 1, 130⟩ : Right), (⟨2, 1, 1, 100⟩ : Right)] := hv1 ▸ hMn1.own (Nat.le_trans hsz hgn1) rfl (Nat.le_of_ble_eq_true rfl) (fun _ => rfl)
  have hfr1 : ∀ b, v1_.ownBlock = some b → w1.heap.size ≤ b := fun b hb => by rw [hv1] at hb; simp only [Value.ownBlock, Option.some.injEq] at hb; omega
  have Hg_0_at0 := Hg_0
  have Hg_0 := Hg_0.exn hN
  have hW := hW.trans hN
  have Hf1 : RepSl Right.R noG w2 v1_ [(⟨1, 3, 1, 130⟩ : Right), (⟨2, 1, 1, 100⟩ : Right)] := hq1.rep (fun _ _ h => h)
  obtain ⟨_, _, hs_Hf1, _, _⟩ := RepSl.shape Hf1
  have hsz := Nat.le_trans hsz hN.size
  refine WP.seq ?_
  obtain ⟨z, hz, hF⟩ := obind hF
  refine WP.region mixed [[], [0], [1], [2], [2], [3], [4]] [[], [0], [1], [2], [2], [3], [4]] [[1], [], [], [], [], [], []] [] []
    [val 10 (v1_), (11, fun u wz => ∃ q : Value, u = .tuple #[q, .int .i64 z.2] ∧ Own w0.heap.size 3 1 (fun x : Int => [Value.int .i64 x]) wz q z.1 ∧ ∀ b, q.ownBlock = some b → w2.heap.size ≤ b), (9, fun u wz => ∃ q : Value, u = .tuple #[q, .int .i64 z.2] ∧ Own w0.heap.size 3 1 (fun x : Int => [Value.int .i64 x]) wz q z.1 ∧ ∀ b, q.ownBlock = some b → w2.heap.size ≤ b), (12, fun u wz => Own w0.heap.size 3 1 (fun x : Int => [Value.int .i64 x]) wz u z.1 ∧ ∀ b, u.ownBlock = some b → w2.heap.size ≤ b), val 13 (.int .i64 z.2), (2, fun u wz => Own w0.heap.size 3 1 (fun x : Int => [Value.int .i64 x]) wz u z.1 ∧ ∀ b, u.ownBlock = some b → w2.heap.size ≤ b), val 3 (.int .i64 z.2)] noG (by kernel_rfl)
    ⟨Stable.val _ _ _, fun _ _ _ hE ⟨q, ht, hO, hf⟩ => ⟨q, ht, hO.exn hE, hf⟩, fun _ _ _ hE ⟨q, ht, hO, hf⟩ => ⟨q, ht, hO.exn hE, hf⟩, fun _ _ _ hE ⟨hO, hf⟩ => ⟨hO.exn hE, hf⟩, Stable.val _ _ _, fun _ _ _ hE ⟨hO, hf⟩ => ⟨hO.exn hE, hf⟩, Stable.val _ _ _, trivial⟩
    ⟨fun ρz wz hE hA ⟨e1, _⟩ _ => core_val rfl rfl (o_move (e1.trans h1)),
     fun ρz wz hE hA _ ⟨u0, _⟩ => core_callR rfl (call_args4 u0 rfl rfl rfl) cf_14 ((family_Order_ok  _ _ _ _ (Hf1.exn (hA rfl)).no (RepSl.nil _ noG _).no hz).mono (fun e w1 ⟨v, he, hE1, q, hv, hO⟩ => ⟨v, he, hE1, q, hv, hO.base (Nat.le_trans hsz hE.size), fun b hb => Nat.le_trans hE.size (hO.lt hb).1⟩)),
     fun ρz wz hE hA _ ⟨⟨q1, ht1, hO1, hfr1⟩, _⟩ => core_copy rfl rfl (o_move rfl) ⟨q1, ht1, hO1, hfr1⟩,
     fun ρz wz hE hA _ ⟨⟨q2, ht2, hO2, hfr2⟩, _⟩ => core_copy rfl rfl (o_extract ht2 (by kernel_rfl)) ⟨hO2, hfr2⟩,
     fun ρz wz hE hA _ ⟨⟨q2, ht2, hO2, hfr2⟩, _⟩ => core_val rfl rfl (o_extract ht2 (by kernel_rfl)),
     fun ρz wz hE hA _ ⟨⟨hO3, hfr3⟩, _⟩ => core_copy rfl rfl (o_assign rfl) ⟨hO3, hfr3⟩,
     fun ρz wz hE hA _ ⟨u4, _⟩ => core_val rfl rfl (o_assign u4), trivial⟩ ?_
  intro ρ3 w3 hE hN hf hr
  have hN := hN rfl
  have h1 := (hr 1 rfl).trans h1
  obtain ⟨v2_, h2⟩ : ∃ v, ρ3 2 = v := ⟨_, rfl⟩
  have hq2 : (fun u wz => Own w0.heap.size 3 1 (fun x : Int => [Value.int .i64 x]) wz u z.1 ∧ ∀ b, u.ownBlock = some b → w2.heap.size ≤ b) (ρ3 2) w3 := hf 5 rfl
  rw [h2] at hq2
  obtain ⟨hq2, hfr2⟩ := hq2
  have h3 : ρ3 3 = .int .i64 z.2 := hf 6 rfl
  have Hg_0_at0 := Hg_0
  have Hg_0 := Hg_0.exn hN
  have Hf1_at0 := Hf1
  have Hf1 := Hf1.exn hN
  have hW := hW.trans hN
  have Hf2 : RepSl intR noG w3 v2_ z.1 := hq2.rep (fun _ _ h => h)
  obtain ⟨_, _, hs_Hf2, _, _⟩ := RepSl.shape Hf2
  have hsz := Nat.le_trans hsz hN.size
  refine WP.seq ?_
  obtain ⟨z2, hz2, hF⟩ := obind hF
  refine WP.region mixed [[], [0], [1], [2], [2], [3], [4]] [[], [0], [1], [2], [2], [3], [4]] [[1], [], [], [], [], [], []] [] []
    [val 15 (v1_), (16, fun u wz => ∃ q : Value, u = .tuple #[q, .int .i64 z2.2] ∧ Own w0.heap.size 48 4 FamilyPay.cells wz q z2.1 ∧ ∀ b, q.ownBlock = some b → w3.heap.size ≤ b), (14, fun u wz => ∃ q : Value, u = .tuple #[q, .int .i64 z2.2] ∧ Own w0.heap.size 48 4 FamilyPay.cells wz q z2.1 ∧ ∀ b, q.ownBlock = some b → w3.heap.size ≤ b), (17, fun u wz => Own w0.heap.size 48 4 FamilyPay.cells wz u z2.1 ∧ ∀ b, u.ownBlock = some b → w3.heap.size ≤ b), val 18 (.int .i64 z2.2), (4, fun u wz => Own w0.heap.size 48 4 FamilyPay.cells wz u z2.1 ∧ ∀ b, u.ownBlock = some b → w3.heap.size ≤ b), val 5 (.int .i64 z2.2)] noG (by kernel_rfl)
    ⟨Stable.val _ _ _, fun _ _ _ hE ⟨q, ht, hO, hf⟩ => ⟨q, ht, hO.exn hE, hf⟩, fun _ _ _ hE ⟨q, ht, hO, hf⟩ => ⟨q, ht, hO.exn hE, hf⟩, fun _ _ _ hE ⟨hO, hf⟩ => ⟨hO.exn hE, hf⟩, Stable.val _ _ _, fun _ _ _ hE ⟨hO, hf⟩ => ⟨hO.exn hE, hf⟩, Stable.val _ _ _, trivial⟩
    ⟨fun ρz wz hE hA ⟨e1, _⟩ _ => core_val rfl rfl (o_move (e1.trans h1)),
     fun ρz wz hE hA _ ⟨u0, _⟩ => core_callR rfl (call_args4 u0 rfl rfl rfl) cf_21 ((family_Payments_ok (Hg_0.exn (hA rfl)).no _ _ _ _ (Hf1.exn (hA rfl)).no (RepSl.nil _ noG _).no hz2).mono (fun e w1 ⟨v, he, hE1, q, hv, hO⟩ => ⟨v, he, hE1, q, hv, hO.base (Nat.le_trans hsz hE.size), fun b hb => Nat.le_trans hE.size (hO.lt hb).1⟩)),
     fun ρz wz hE hA _ ⟨⟨q1, ht1, hO1, hfr1⟩, _⟩ => core_copy rfl rfl (o_move rfl) ⟨q1, ht1, hO1, hfr1⟩,
     fun ρz wz hE hA _ ⟨⟨q2, ht2, hO2, hfr2⟩, _⟩ => core_copy rfl rfl (o_extract ht2 (by kernel_rfl)) ⟨hO2, hfr2⟩,
     fun ρz wz hE hA _ ⟨⟨q2, ht2, hO2, hfr2⟩, _⟩ => core_val rfl rfl (o_extract ht2 (by kernel_rfl)),
     fun ρz wz hE hA _ ⟨⟨hO3, hfr3⟩, _⟩ => core_copy rfl rfl (o_assign rfl) ⟨hO3, hfr3⟩,
     fun ρz wz hE hA _ ⟨u4, _⟩ => core_val rfl rfl (o_assign u4), trivial⟩ ?_
  intro ρ4 w4 hE hN hf hr
  have hN := hN rfl
  have h2 := (hr 2 rfl).trans h2
  have h3 := (hr 3 rfl).trans h3
  obtain ⟨v4_, h4⟩ : ∃ v, ρ4 4 = v := ⟨_, rfl⟩
  have hq4 : (fun u wz => Own w0.heap.size 48 4 FamilyPay.cells wz u z2.1 ∧ ∀ b, u.ownBlock = some b → w3.heap.size ≤ b) (ρ4 4) w4 := hf 5 rfl
  rw [h4] at hq4
  obtain ⟨hq4, hfr4⟩ := hq4
  have h5 : ρ4 5 = .int .i64 z2.2 := hf 6 rfl
  have Hg_0_at0 := Hg_0
  have Hg_0 := Hg_0.exn hN
  have Hf2_at0 := Hf2
  have Hf2 := Hf2.exn hN
  have hW := hW.trans hN
  have Hf4 : RepSl FamilyPay.R noG w4 v4_ z2.1 := hq4.rep (fun _ _ h => h)
  obtain ⟨_, _, hs_Hf4, _, _⟩ := RepSl.shape Hf4
  have hsz := Nat.le_trans hsz hN.size
  refine WP.seq ?_
  obtain ⟨c, hc, hF⟩ := obind hF
  obtain ⟨c2, hc2, hF⟩ := obind hF
  obtain ⟨c3, hc3, hF⟩ := obind hF
  obtain ⟨c4, hc4, hF⟩ := obind hF
  refine WP.via (fun ρ w => ρ 0 = .bool c4 ∧ GR [Value.int .i64 1, Value.int .i64 1] (gfr noG w0) w 0 ∧ Ext noG w0 w ∧ w0.heap.size ≤ w.heap.size) ?_ ?_
  · rcases Bool.eq_false_or_eq_true (z.2 == 0) with hd2 | hd2
    · rcases Bool.eq_false_or_eq_true (z2.2 == 0) with hd6 | hd6
      · have hc := (if_pos (by simp [hd2, hd6])).symm.trans hc
        obtain ⟨z3, hz3, hc⟩ := obind hc
        have hc := Option.some.inj hc
        rcases Bool.eq_false_or_eq_true z3 with hd11 | hd11
        · rcases Bool.eq_false_or_eq_true ((z2.1.length : Int) == 2) with hd16 | hd16
          · have hc2 := (if_pos (by simp [hd2, hd6, hd11, hd16, ← hc])).symm.trans hc2
            obtain ⟨y, hy, hc2⟩ := obind hc2
            obtain ⟨ay, cy, hvy, hiy, hAy⟩ := RepSl.getF Hf4 hy
            have hc2 := Option.some.inj hc2
            rcases Bool.eq_false_or_eq_true (FamilyPay.eqb y (⟨2, 1, 100, true⟩ : FamilyPay)) with hd23 | hd23
            · have hc3 := (if_pos (by simp [hd2, hd6, hd11, hd16, hd23, ← hc, ← hc2])).symm.trans hc3
              obtain ⟨y2, hy2, hc3⟩ := obind hc3
              obtain ⟨ay2, cy2, hvy2, hiy2, hAy2⟩ := RepSl.getF Hf4 hy2
              have hc3 := Option.some.inj hc3
              rcases Bool.eq_false_or_eq_true (y2.Amount == 30) with hd30 | hd30
              · have hc4 := (if_pos (by simp [hd2, hd6, hd11, hd16, hd23, hd30, ← hc, ← hc2, ← hc3])).symm.trans hc4
                obtain ⟨y3, hy3, hc4⟩ := obind hc4
                obtain ⟨ay3, cy3, hvy3, hiy3, hAy3⟩ := RepSl.getF Hf4 hy3
                have hc4 := Option.some.inj hc4
                refine WP.region mixed [[], [0], [1], [2], [2, 3], [2, 4], [5], [6], [6], [6, 7, 8], [6, 9], [10], [11], [11, 12], [11, 13], [11, 14], [15], [16], [16, 17], [16, 18], [16], [16, 19, 20], [16, 21], [22], [23], [23, 24], [23, 25], [23, 26], [23, 27], [23, 28], [29], [30], [30, 31], [30, 32], [30, 33], [30, 34], [30, 35], [36]] [[], [0], [1], [2], [2, 3], [2, 4], [5], [6], [6], [6, 7, 8], [6, 9], [10], [11], [11, 12], [11, 13], [11, 14], [15], [16], [16, 17], [16, 18], [16], [16, 19, 20], [16, 21], [22], [23], [23, 24], [23, 25], [23, 26], [23, 27], [23, 28], [29], [30], [30, 31], [30, 32], [30, 33], [30, 34], [30, 35], [36]] [[3], [], [], [5], [], [], [], [2], [], [], [], [], [4], [], [], [], [], [4], [], [], [], [], [], [], [4], [], [], [], [], [], [], [4], [], [], [], [], [], []] [] []
                  [val 19 (.int .i64 z.2), val 20 (.bool (z.2 == 0)), val 21 (.bool true), val 22 (.int .i64 z2.2), val 23 (.bool (z2.2 == 0)), val 24 (.bool (z2.2 == 0)), val 25 (.bool true), val 26 (v2_), (27, fun u wz => ∃ b, u = .slice (some ⟨b, 0, none⟩) 2 2 ∧ w4.heap.size ≤ b ∧ Mb wz b 3 (([1, 0]).flatMap (fun x : Int => [Value.int .i64 x]))), val 28 (.bool z3), val 29 (.bool z3), val 30 (.bool true), val 31 (v4_), val 32 (.int .i64 (z2.1.length : Int)), val 33 (.bool ((z2.1.length : Int) == 2)), val 34 (.bool ((z2.1.length : Int) == 2)), val 35 (.bool true), val 36 (v4_), val 37 (.pointer (some (ay.add (Int.toNat 0 * 4)))), val 38 (FamilyPay.val y), val 39 (FamilyPay.val (⟨2, 1, 100, true⟩ : FamilyPay)), val 40 (.bool (FamilyPay.eqb y (⟨2, 1, 100, true⟩ : FamilyPay))), val 41 (.bool (FamilyPay.eqb y (⟨2, 1, 100, true⟩ : FamilyPay))), val 42 (.bool true), val 43 (v4_), val 44 (.pointer (some (ay2.add (Int.toNat 1 * 4)))), val 45 (.pointer (some ((ay2.add (Int.toNat 1 * 4)).add 2))), val 46 (.int .i64 y2.Amount), val 47 (.bool (y2.Amount == 30)), val 48 (.bool (y2.Amount == 30)), val 49 (.bool true), val 50 (v4_), val 51 (.pointer (some (ay3.add (Int.toNat 1 * 4)))), val 52 (.pointer (some ((ay3.add (Int.toNat 1 * 4)).add 3))), val 53 (.bool y3.Primary), val 54 (.bool (!y3.Primary)), val 55 (.bool (!y3.Primary)), val 0 (.bool (!y3.Primary))] noG (by kernel_rfl)
                  ⟨Stable.val _ _ _, Stable.val _ _ _, Stable.val _ _ _, Stable.val _ _ _, Stable.val _ _ _, Stable.val _ _ _, Stable.val _ _ _, Stable.val _ _ _, fun _ _ _ hE ⟨b, hz, hs, hM⟩ => ⟨b, hz, hs, hM.exn hE⟩, Stable.val _ _ _, Stable.val _ _ _, Stable.val _ _ _, Stable.val _ _ _, Stable.val _ _ _, Stable.val _ _ _, Stable.val _ _ _, Stable.val _ _ _, Stable.val _ _ _, Stable.val _ _ _, Stable.val _ _ _, Stable.val _ _ _, Stable.val _ _ _, Stable.val _ _ _, Stable.val _ _ _, Stable.val _ _ _, Stable.val _ _ _, Stable.val _ _ _, Stable.val _ _ _, Stable.val _ _ _, Stable.val _ _ _, Stable.val _ _ _, Stable.val _ _ _, Stable.val _ _ _, Stable.val _ _ _, Stable.val _ _ _, Stable.val _ _ _, Stable.val _ _ _, Stable.val _ _ _, trivial⟩
                  ⟨fun ρz wz hE hA ⟨e3, _⟩ _ => core_val rfl rfl (o_move (e3.trans h3)),
     fun ρz wz hE hA _ ⟨u0, _⟩ => core_val rfl rfl (o_eql u0 rfl rfl),
     fun ρz wz hE hA _ ⟨u1, _⟩ => core_valE rfl rfl (congrArg Value.bool hd2) (o_move u1),
     fun ρz wz hE hA ⟨e5, _⟩ ⟨u2, _⟩ => gYes rfl u2 (core_val rfl rfl (o_move (e5.trans h5))),
     fun ρz wz hE hA _ ⟨u2, u3, _⟩ => gYes rfl u2 (core_val rfl rfl (o_eql u3 rfl rfl)),
     fun ρz wz hE hA _ ⟨u2, u4, _⟩ => core_val rfl rfl (o_pick_t u2 u4),
     fun ρz wz hE hA _ ⟨u5, _⟩ => core_valE rfl rfl (congrArg Value.bool hd6) (o_move u5),
     fun ρz wz hE hA ⟨e2, _⟩ ⟨u6, _⟩ => gYes rfl u6 (core_val rfl rfl (o_move (e2.trans h2))),
     fun ρz wz hE hA _ ⟨u6, _⟩ => gYes rfl u6 (core_slice rfl rfl hE (o_buildSlice (build_parts2 rfl rfl) (bs_23_2 _ _ _))),
     fun ρz wz hE hA _ ⟨u6, u7, ⟨bz8, hz8, hge8, hM8⟩, _⟩ => gYes rfl u6 (core_call rfl (call_args2 u7 hz8) cf_17 (pensionplain_Ints_ok  _ _ (Hf2.exn (hA rfl)).no (Mb.rep (n := 1) (cells := fun x : Int => [Value.int .i64 x]) (hn := fun _ => rfl) (G := noG) hM8 rfl (Nat.le_of_ble_eq_true rfl) (fun h => h)).no hz3)),
     fun ρz wz hE hA _ ⟨u6, u9, _⟩ => core_val rfl rfl (o_pick_t u6 u9),
     fun ρz wz hE hA _ ⟨u10, _⟩ => core_valE rfl rfl (congrArg Value.bool hd11) (o_move u10),
     fun ρz wz hE hA ⟨e4, _⟩ ⟨u11, _⟩ => gYes rfl u11 (core_val rfl rfl (o_move (e4.trans h4))),
     fun ρz wz hE hA _ ⟨u11, u12, _⟩ => gYes rfl u11 (core_val rfl rfl (o_len (u12.trans hs_Hf4) len_38)),
     fun ρz wz hE hA _ ⟨u11, u13, _⟩ => gYes rfl u11 (core_val rfl rfl (o_eql u13 rfl rfl)),
     fun ρz wz hE hA _ ⟨u11, u14, _⟩ => core_val rfl rfl (o_pick_t u11 u14),
     fun ρz wz hE hA _ ⟨u15, _⟩ => core_valE rfl rfl (congrArg Value.bool hd16) (o_move u15),
     fun ρz wz hE hA ⟨e4, _⟩ ⟨u16, _⟩ => gYes rfl u16 (core_val rfl rfl (o_move (e4.trans h4))),
     fun ρz wz hE hA _ ⟨u16, u17, _⟩ => gYes rfl u16 (core_val rfl rfl (o_indexAddr (u17.trans hvy) rfl (ia_38 hiy))),
     fun ρz wz hE hA _ ⟨u16, u18, _⟩ => gYes rfl u16 (core_val rfl rfl (o_load u18 (run_loadN (cs := (FamilyPay.cells y)) (lr_48 _ _) rfl ((hAy.exn (hA rfl)).ca)))),
     fun ρz wz hE hA _ ⟨u16, _⟩ => gYes rfl u16 (core_val rfl rfl (o_build (build_parts4 rfl rfl rfl rfl) (bd_48_0_1_2_3 _ _ _ _ _))),
     fun ρz wz hE hA _ ⟨u16, u19, u20, _⟩ => gYes rfl u16 (core_val rfl rfl (o_eqS u19 u20 (by kernel_rfl) (eqs_48 9998 _ _ _) rfl)),
     fun ρz wz hE hA _ ⟨u16, u21, _⟩ => core_val rfl rfl (o_pick_t u16 u21),
     fun ρz wz hE hA _ ⟨u22, _⟩ => core_valE rfl rfl (congrArg Value.bool hd23) (o_move u22),
     fun ρz wz hE hA ⟨e4, _⟩ ⟨u23, _⟩ => gYes rfl u23 (core_val rfl rfl (o_move (e4.trans h4))),
     fun ρz wz hE hA _ ⟨u23, u24, _⟩ => gYes rfl u23 (core_val rfl rfl (o_indexAddr (u24.trans hvy2) rfl (ia_38 hiy2))),
     fun ρz wz hE hA _ ⟨u23, u25, _⟩ => gYes rfl u23 (core_val rfl rfl (o_fieldAddr u25 (fa_48_2 _ _))),
     fun ρz wz hE hA _ ⟨u23, u26, _⟩ => gYes rfl u23 (core_val rfl rfl (o_load u26 (run_load1 (lr_3 _ _) (CA.sub ((hAy2.exn (hA rfl)).ca) 2 1)))),
     fun ρz wz hE hA _ ⟨u23, u27, _⟩ => gYes rfl u23 (core_val rfl rfl (o_eql u27 rfl rfl)),
     fun ρz wz hE hA _ ⟨u23, u28, _⟩ => core_val rfl rfl (o_pick_t u23 u28),
     fun ρz wz hE hA _ ⟨u29, _⟩ => core_valE rfl rfl (congrArg Value.bool hd30) (o_move u29),
     fun ρz wz hE hA ⟨e4, _⟩ ⟨u30, _⟩ => gYes rfl u30 (core_val rfl rfl (o_move (e4.trans h4))),
     fun ρz wz hE hA _ ⟨u30, u31, _⟩ => gYes rfl u30 (core_val rfl rfl (o_indexAddr (u31.trans hvy3) rfl (ia_38 hiy3))),
     fun ρz wz hE hA _ ⟨u30, u32, _⟩ => gYes rfl u30 (core_val rfl rfl (o_fieldAddr u32 (fa_48_3 _ _))),
     fun ρz wz hE hA _ ⟨u30, u33, _⟩ => gYes rfl u30 (core_val rfl rfl (o_load u33 (run_load1 (lr_4 _ _) (CA.sub ((hAy3.exn (hA rfl)).ca) 3 1)))),
     fun ρz wz hE hA _ ⟨u30, u34, _⟩ => gYes rfl u30 (core_val rfl rfl (o_not u34 rfl)),
     fun ρz wz hE hA _ ⟨u30, u35, _⟩ => core_val rfl rfl (o_pick_t u30 u35),
     fun ρz wz hE hA _ ⟨u36, _⟩ => core_val rfl rfl (o_assign u36), trivial⟩ ?_
                intro ρ6 w6 hE hN hf hr
                have hN := hN rfl
                have h0 : ρ6 0 = .bool (!y3.Primary) := hf 37 rfl
                have Hg_0_at0 := Hg_0
                have Hg_0 := Hg_0.exn hN
                have hW := hW.trans hN
                have hsz := Nat.le_trans hsz hN.size
                exact ⟨(h0.trans (congrArg Value.bool (by simp [hd2, hd6, hd11, hd16, hd23, hd30, ← hc, ← hc2, ← hc3, ← hc4]))), Hg_0, hW, hsz⟩
              · have hc4 := (if_neg (Bool.eq_false_iff.1 (by simp [hd2, hd6, hd11, hd16, hd23, hd30, ← hc, ← hc2, ← hc3]))).symm.trans hc4
                have hc4 := Option.some.inj hc4
                refine WP.region mixed [[], [0], [1], [2], [2, 3], [2, 4], [5], [6], [6], [6, 7, 8], [6, 9], [10], [11], [11, 12], [11, 13], [11, 14], [15], [16], [16, 17], [16, 18], [16], [16, 19, 20], [16, 21], [22], [23], [23, 24], [23, 25], [23, 26], [23, 27], [23, 28], [29], [30], [30], [30], [30], [30], [30], [36]] [[], [0], [1], [2], [2, 3], [2, 4], [5], [6], [6], [6, 7, 8], [6, 9], [10], [11], [11, 12], [11, 13], [11, 14], [15], [16], [16, 17], [16, 18], [16], [16, 19, 20], [16, 21], [22], [23], [23, 24], [23, 25], [23, 26], [23, 27], [23, 28], [29], [30], [30], [30], [30], [30], [30], [36]] [[3], [], [], [5], [], [], [], [2], [], [], [], [], [4], [], [], [], [], [4], [], [], [], [], [], [], [4], [], [], [], [], [], [], [], [], [], [], [], [], []] [] []
                  [val 19 (.int .i64 z.2), val 20 (.bool (z.2 == 0)), val 21 (.bool true), val 22 (.int .i64 z2.2), val 23 (.bool (z2.2 == 0)), val 24 (.bool (z2.2 == 0)), val 25 (.bool true), val 26 (v2_), (27, fun u wz => ∃ b, u = .slice (some ⟨b, 0, none⟩) 2 2 ∧ w4.heap.size ≤ b ∧ Mb wz b 3 (([1, 0]).flatMap (fun x : Int => [Value.int .i64 x]))), val 28 (.bool z3), val 29 (.bool z3), val 30 (.bool true), val 31 (v4_), val 32 (.int .i64 (z2.1.length : Int)), val 33 (.bool ((z2.1.length : Int) == 2)), val 34 (.bool ((z2.1.length : Int) == 2)), val 35 (.bool true), val 36 (v4_), val 37 (.pointer (some (ay.add (Int.toNat 0 * 4)))), val 38 (FamilyPay.val y), val 39 (FamilyPay.val (⟨2, 1, 100, true⟩ : FamilyPay)), val 40 (.bool (FamilyPay.eqb y (⟨2, 1, 100, true⟩ : FamilyPay))), val 41 (.bool (FamilyPay.eqb y (⟨2, 1, 100, true⟩ : FamilyPay))), val 42 (.bool true), val 43 (v4_), val 44 (.pointer (some (ay2.add (Int.toNat 1 * 4)))), val 45 (.pointer (some ((ay2.add (Int.toNat 1 * 4)).add 2))), val 46 (.int .i64 y2.Amount), val 47 (.bool (y2.Amount == 30)), val 48 (.bool (y2.Amount == 30)), val 49 (.bool false), anyF 50, anyF 51, anyF 52, anyF 53, anyF 54, val 55 (.bool false), val 0 (.bool false)] noG (by kernel_rfl)
                  ⟨Stable.val _ _ _, Stable.val _ _ _, Stable.val _ _ _, Stable.val _ _ _, Stable.val _ _ _, Stable.val _ _ _, Stable.val _ _ _, Stable.val _ _ _, fun _ _ _ hE ⟨b, hz, hs, hM⟩ => ⟨b, hz, hs, hM.exn hE⟩, Stable.val _ _ _, Stable.val _ _ _, Stable.val _ _ _, Stable.val _ _ _, Stable.val _ _ _, Stable.val _ _ _, Stable.val _ _ _, Stable.val _ _ _, Stable.val _ _ _, Stable.val _ _ _, Stable.val _ _ _, Stable.val _ _ _, Stable.val _ _ _, Stable.val _ _ _, Stable.val _ _ _, Stable.val _ _ _, Stable.val _ _ _, Stable.val _ _ _, Stable.val _ _ _, Stable.val _ _ _, Stable.val _ _ _, Stable.val _ _ _, Stable.any _ _, Stable.any _ _, Stable.any _ _, Stable.any _ _, Stable.any _ _, Stable.val _ _ _, Stable.val _ _ _, trivial⟩
                  ⟨fun ρz wz hE hA ⟨e3, _⟩ _ => core_val rfl rfl (o_move (e3.trans h3)),
     fun ρz wz hE hA _ ⟨u0, _⟩ => core_val rfl rfl (o_eql u0 rfl rfl),
     fun ρz wz hE hA _ ⟨u1, _⟩ => core_valE rfl rfl (congrArg Value.bool hd2) (o_move u1),
     fun ρz wz hE hA ⟨e5, _⟩ ⟨u2, _⟩ => gYes rfl u2 (core_val rfl rfl (o_move (e5.trans h5))),
     fun ρz wz hE hA _ ⟨u2, u3, _⟩ => gYes rfl u2 (core_val rfl rfl (o_eql u3 rfl rfl)),
     fun ρz wz hE hA _ ⟨u2, u4, _⟩ => core_val rfl rfl (o_pick_t u2 u4),
     fun ρz wz hE hA _ ⟨u5, _⟩ => core_valE rfl rfl (congrArg Value.bool hd6) (o_move u5),
     fun ρz wz hE hA ⟨e2, _⟩ ⟨u6, _⟩ => gYes rfl u6 (core_val rfl rfl (o_move (e2.trans h2))),
     fun ρz wz hE hA _ ⟨u6, _⟩ => gYes rfl u6 (core_slice rfl rfl hE (o_buildSlice (build_parts2 rfl rfl) (bs_23_2 _ _ _))),
     fun ρz wz hE hA _ ⟨u6, u7, ⟨bz8, hz8, hge8, hM8⟩, _⟩ => gYes rfl u6 (core_call rfl (call_args2 u7 hz8) cf_17 (pensionplain_Ints_ok  _ _ (Hf2.exn (hA rfl)).no (Mb.rep (n := 1) (cells := fun x : Int => [Value.int .i64 x]) (hn := fun _ => rfl) (G := noG) hM8 rfl (Nat.le_of_ble_eq_true rfl) (fun h => h)).no hz3)),
     fun ρz wz hE hA _ ⟨u6, u9, _⟩ => core_val rfl rfl (o_pick_t u6 u9),
     fun ρz wz hE hA _ ⟨u10, _⟩ => core_valE rfl rfl (congrArg Value.bool hd11) (o_move u10),
     fun ρz wz hE hA ⟨e4, _⟩ ⟨u11, _⟩ => gYes rfl u11 (core_val rfl rfl (o_move (e4.trans h4))),
     fun ρz wz hE hA _ ⟨u11, u12, _⟩ => gYes rfl u11 (core_val rfl rfl (o_len (u12.trans hs_Hf4) len_38)),
     fun ρz wz hE hA _ ⟨u11, u13, _⟩ => gYes rfl u11 (core_val rfl rfl (o_eql u13 rfl rfl)),
     fun ρz wz hE hA _ ⟨u11, u14, _⟩ => core_val rfl rfl (o_pick_t u11 u14),
     fun ρz wz hE hA _ ⟨u15, _⟩ => core_valE rfl rfl (congrArg Value.bool hd16) (o_move u15),
     fun ρz wz hE hA ⟨e4, _⟩ ⟨u16, _⟩ => gYes rfl u16 (core_val rfl rfl (o_move (e4.trans h4))),
     fun ρz wz hE hA _ ⟨u16, u17, _⟩ => gYes rfl u16 (core_val rfl rfl (o_indexAddr (u17.trans hvy) rfl (ia_38 hiy))),
     fun ρz wz hE hA _ ⟨u16, u18, _⟩ => gYes rfl u16 (core_val rfl rfl (o_load u18 (run_loadN (cs := (FamilyPay.cells y)) (lr_48 _ _) rfl ((hAy.exn (hA rfl)).ca)))),
     fun ρz wz hE hA _ ⟨u16, _⟩ => gYes rfl u16 (core_val rfl rfl (o_build (build_parts4 rfl rfl rfl rfl) (bd_48_0_1_2_3 _ _ _ _ _))),
     fun ρz wz hE hA _ ⟨u16, u19, u20, _⟩ => gYes rfl u16 (core_val rfl rfl (o_eqS u19 u20 (by kernel_rfl) (eqs_48 9998 _ _ _) rfl)),
     fun ρz wz hE hA _ ⟨u16, u21, _⟩ => core_val rfl rfl (o_pick_t u16 u21),
     fun ρz wz hE hA _ ⟨u22, _⟩ => core_valE rfl rfl (congrArg Value.bool hd23) (o_move u22),
     fun ρz wz hE hA ⟨e4, _⟩ ⟨u23, _⟩ => gYes rfl u23 (core_val rfl rfl (o_move (e4.trans h4))),
     fun ρz wz hE hA _ ⟨u23, u24, _⟩ => gYes rfl u23 (core_val rfl rfl (o_indexAddr (u24.trans hvy2) rfl (ia_38 hiy2))),
     fun ρz wz hE hA _ ⟨u23, u25, _⟩ => gYes rfl u23 (core_val rfl rfl (o_fieldAddr u25 (fa_48_2 _ _))),
     fun ρz wz hE hA _ ⟨u23, u26, _⟩ => gYes rfl u23 (core_val rfl rfl (o_load u26 (run_load1 (lr_3 _ _) (CA.sub ((hAy2.exn (hA rfl)).ca) 2 1)))),
     fun ρz wz hE hA _ ⟨u23, u27, _⟩ => gYes rfl u23 (core_val rfl rfl (o_eql u27 rfl rfl)),
     fun ρz wz hE hA _ ⟨u23, u28, _⟩ => core_val rfl rfl (o_pick_t u23 u28),
     fun ρz wz hE hA _ ⟨u29, _⟩ => core_valE rfl rfl (congrArg Value.bool hd30) (o_move u29),
     fun _ _ _ _ _ ⟨u30, _⟩ => gNo rfl u30 rfl trivial,
     fun _ _ _ _ _ ⟨u30, _⟩ => gNo rfl u30 rfl trivial,
     fun _ _ _ _ _ ⟨u30, _⟩ => gNo rfl u30 rfl trivial,
     fun _ _ _ _ _ ⟨u30, _⟩ => gNo rfl u30 rfl trivial,
     fun _ _ _ _ _ ⟨u30, _⟩ => gNo rfl u30 rfl trivial,
     fun ρz wz hE hA _ ⟨u30, _⟩ => core_val rfl rfl (o_pick_f u30 rfl),
     fun ρz wz hE hA _ ⟨u36, _⟩ => core_val rfl rfl (o_assign u36), trivial⟩ ?_
                intro ρ7 w7 hE hN hf hr
                have hN := hN rfl
                have h0 : ρ7 0 = .bool false := hf 37 rfl
                have Hg_0_at0 := Hg_0
                have Hg_0 := Hg_0.exn hN
                have hW := hW.trans hN
                have hsz := Nat.le_trans hsz hN.size
                exact ⟨(h0.trans (congrArg Value.bool (by simp [hd2, hd6, hd11, hd16, hd23, hd30, ← hc, ← hc2, ← hc3, ← hc4]))), Hg_0, hW, hsz⟩
            · have hc3 := (if_neg (Bool.eq_false_iff.1 (by simp [hd2, hd6, hd11, hd16, hd23, ← hc, ← hc2]))).symm.trans hc3
              have hc3 := Option.some.inj hc3
              have hc4 := (if_neg (Bool.eq_false_iff.1 (by simp [hd2, hd6, hd11, hd16, hd23, ← hc, ← hc2, ← hc3]))).symm.trans hc4
              have hc4 := Option.some.inj hc4
              refine WP.region mixed [[], [0], [1], [2], [2, 3], [2, 4], [5], [6], [6], [6, 7, 8], [6, 9], [10], [11], [11, 12], [11, 13], [11, 14], [15], [16], [16, 17], [16, 18], [16], [16, 19, 20], [16, 21], [22], [23], [23], [23], [23], [23], [23], [29], [30], [30], [30], [30], [30], [30], [36]] [[], [0], [1], [2], [2, 3], [2, 4], [5], [6], [6], [6, 7, 8], [6, 9], [10], [11], [11, 12], [11, 13], [11, 14], [15], [16], [16, 17], [16, 18], [16], [16, 19, 20], [16, 21], [22], [23], [23], [23], [23], [23], [23], [29], [30], [30], [30], [30], [30], [30], [36]] [[3], [], [], [5], [], [], [], [2], [], [], [], [], [4], [], [], [], [], [4], [], [], [], [], [], [], [], [], [], [], [], [], [], [], [], [], [], [], [], []] [] []
                [val 19 (.int .i64 z.2), val 20 (.bool (z.2 == 0)), val 21 (.bool true), val 22 (.int .i64 z2.2), val 23 (.bool (z2.2 == 0)), val 24 (.bool (z2.2 == 0)), val 25 (.bool true), val 26 (v2_), (27, fun u wz => ∃ b, u = .slice (some ⟨b, 0, none⟩) 2 2 ∧ w4.heap.size ≤ b ∧ Mb wz b 3 (([1, 0]).flatMap (fun x : Int => [Value.int .i64 x]))), val 28 (.bool z3), val 29 (.bool z3), val 30 (.bool true), val 31 (v4_), val 32 (.int .i64 (z2.1.length : Int)), val 33 (.bool ((z2.1.length : Int) == 2)), val 34 (.bool ((z2.1.length : Int) == 2)), val 35 (.bool true), val 36 (v4_), val 37 (.pointer (some (ay.add (Int.toNat 0 * 4)))), val 38 (FamilyPay.val y), val 39 (FamilyPay.val (⟨2, 1, 100, true⟩ : FamilyPay)), val 40 (.bool (FamilyPay.eqb y (⟨2, 1, 100, true⟩ : FamilyPay))), val 41 (.bool (FamilyPay.eqb y (⟨2, 1, 100, true⟩ : FamilyPay))), val 42 (.bool false), anyF 43, anyF 44, anyF 45, anyF 46, anyF 47, val 48 (.bool false), val 49 (.bool false), anyF 50, anyF 51, anyF 52, anyF 53, anyF 54, val 55 (.bool false), val 0 (.bool false)] noG (by kernel_rfl)
                ⟨Stable.val _ _ _, Stable.val _ _ _, Stable.val _ _ _, Stable.val _ _ _, Stable.val _ _ _, Stable.val _ _ _, Stable.val _ _ _, Stable.val _ _ _, fun _ _ _ hE ⟨b, hz, hs, hM⟩ => ⟨b, hz, hs, hM.exn hE⟩, Stable.val _ _ _, Stable.val _ _ _, Stable.val _ _ _, Stable.val _ _ _, Stable.val _ _ _, Stable.val _ _ _, Stable.val _ _ _, Stable.val _ _ _, Stable.val _ _ _, Stable.val _ _ _, Stable.val _ _ _, Stable.val _ _ _, Stable.val _ _ _, Stable.val _ _ _, Stable.val _ _ _, Stable.any _ _, Stable.any _ _, Stable.any _ _, Stable.any _ _, Stable.any _ _, Stable.val _ _ _, Stable.val _ _ _, Stable.any _ _, Stable.any _ _, Stable.any _ _, Stable.any _ _, Stable.any _ _, Stable.val _ _ _, Stable.val _ _ _, trivial⟩
                ⟨fun ρz wz hE hA ⟨e3, _⟩ _ => core_val rfl rfl (o_move (e3.trans h3)),
     fun ρz wz hE hA _ ⟨u0, _⟩ => core_val rfl rfl (o_eql u0 rfl rfl),
     fun ρz wz hE hA _ ⟨u1, _⟩ => core_valE rfl rfl (congrArg Value.bool hd2) (o_move u1),
     fun ρz wz hE hA ⟨e5, _⟩ ⟨u2, _⟩ => gYes rfl u2 (core_val rfl rfl (o_move (e5.trans h5))),
     fun ρz wz hE hA _ ⟨u2, u3, _⟩ => gYes rfl u2 (core_val rfl rfl (o_eql u3 rfl rfl)),
     fun ρz wz hE hA _ ⟨u2, u4, _⟩ => core_val rfl rfl (o_pick_t u2 u4),
     fun ρz wz hE hA _ ⟨u5, _⟩ => core_valE rfl rfl (congrArg Value.bool hd6) (o_move u5),
     fun ρz wz hE hA ⟨e2, _⟩ ⟨u6, _⟩ => gYes rfl u6 (core_val rfl rfl (o_move (e2.trans h2))),
     fun ρz wz hE hA _ ⟨u6, _⟩ => gYes rfl u6 (core_slice rfl rfl hE (o_buildSlice (build_parts2 rfl rfl) (bs_23_2 _ _ _))),
     fun ρz wz hE hA _ ⟨u6, u7, ⟨bz8, hz8, hge8, hM8⟩, _⟩ => gYes rfl u6 (core_call rfl (call_args2 u7 hz8) cf_17 (pensionplain_Ints_ok  _ _ (Hf2.exn (hA rfl)).no (Mb.rep (n := 1) (cells := fun x : Int => [Value.int .i64 x]) (hn := fun _ => rfl) (G := noG) hM8 rfl (Nat.le_of_ble_eq_true rfl) (fun h => h)).no hz3)),
     fun ρz wz hE hA _ ⟨u6, u9, _⟩ => core_val rfl rfl (o_pick_t u6 u9),
     fun ρz wz hE hA _ ⟨u10, _⟩ => core_valE rfl rfl (congrArg Value.bool hd11) (o_move u10),
     fun ρz wz hE hA ⟨e4, _⟩ ⟨u11, _⟩ => gYes rfl u11 (core_val rfl rfl (o_move (e4.trans h4))),
     fun ρz wz hE hA _ ⟨u11, u12, _⟩ => gYes rfl u11 (core_val rfl rfl (o_len (u12.trans hs_Hf4) len_38)),
     fun ρz wz hE hA _ ⟨u11, u13, _⟩ => gYes rfl u11 (core_val rfl rfl (o_eql u13 rfl rfl)),
     fun ρz wz hE hA _ ⟨u11, u14, _⟩ => core_val rfl rfl (o_pick_t u11 u14),
     fun ρz wz hE hA _ ⟨u15, _⟩ => core_valE rfl rfl (congrArg Value.bool hd16) (o_move u15),
     fun ρz wz hE hA ⟨e4, _⟩ ⟨u16, _⟩ => gYes rfl u16 (core_val rfl rfl (o_move (e4.trans h4))),
     fun ρz wz hE hA _ ⟨u16, u17, _⟩ => gYes rfl u16 (core_val rfl rfl (o_indexAddr (u17.trans hvy) rfl (ia_38 hiy))),
     fun ρz wz hE hA _ ⟨u16, u18, _⟩ => gYes rfl u16 (core_val rfl rfl (o_load u18 (run_loadN (cs := (FamilyPay.cells y)) (lr_48 _ _) rfl ((hAy.exn (hA rfl)).ca)))),
     fun ρz wz hE hA _ ⟨u16, _⟩ => gYes rfl u16 (core_val rfl rfl (o_build (build_parts4 rfl rfl rfl rfl) (bd_48_0_1_2_3 _ _ _ _ _))),
     fun ρz wz hE hA _ ⟨u16, u19, u20, _⟩ => gYes rfl u16 (core_val rfl rfl (o_eqS u19 u20 (by kernel_rfl) (eqs_48 9998 _ _ _) rfl)),
     fun ρz wz hE hA _ ⟨u16, u21, _⟩ => core_val rfl rfl (o_pick_t u16 u21),
     fun ρz wz hE hA _ ⟨u22, _⟩ => core_valE rfl rfl (congrArg Value.bool hd23) (o_move u22),
     fun _ _ _ _ _ ⟨u23, _⟩ => gNo rfl u23 rfl trivial,
     fun _ _ _ _ _ ⟨u23, _⟩ => gNo rfl u23 rfl trivial,
     fun _ _ _ _ _ ⟨u23, _⟩ => gNo rfl u23 rfl trivial,
     fun _ _ _ _ _ ⟨u23, _⟩ => gNo rfl u23 rfl trivial,
     fun _ _ _ _ _ ⟨u23, _⟩ => gNo rfl u23 rfl trivial,
     fun ρz wz hE hA _ ⟨u23, _⟩ => core_val rfl rfl (o_pick_f u23 rfl),
     fun ρz wz hE hA _ ⟨u29, _⟩ => core_val rfl rfl (o_move u29),
     fun _ _ _ _ _ ⟨u30, _⟩ => gNo rfl u30 rfl trivial,
     fun _ _ _ _ _ ⟨u30, _⟩ => gNo rfl u30 rfl trivial,
     fun _ _ _ _ _ ⟨u30, _⟩ => gNo rfl u30 rfl trivial,
     fun _ _ _ _ _ ⟨u30, _⟩ => gNo rfl u30 rfl trivial,
     fun _ _ _ _ _ ⟨u30, _⟩ => gNo rfl u30 rfl trivial,
     fun ρz wz hE hA _ ⟨u30, _⟩ => core_val rfl rfl (o_pick_f u30 rfl),
     fun ρz wz hE hA _ ⟨u36, _⟩ => core_val rfl rfl (o_assign u36), trivial⟩ ?_
              intro ρ8 w8 hE hN hf hr
              have hN := hN rfl
              have h0 : ρ8 0 = .bool false := hf 37 rfl
              have Hg_0_at0 := Hg_0
              have Hg_0 := Hg_0.exn hN
              have hW := hW.trans hN
              have hsz := Nat.le_trans hsz hN.size
              exact ⟨(h0.trans (congrArg Value.bool (by simp [hd2, hd6, hd11, hd16, hd23, ← hc, ← hc2, ← hc3, ← hc4]))), Hg_0, hW, hsz⟩
          · have hc2 := (if_neg (Bool.eq_false_iff.1 (by simp [hd2, hd6, hd11, hd16, ← hc]))).symm.trans hc2
            have hc2 := Option.some.inj hc2
            have hc3 := (if_neg (Bool.eq_false_iff.1 (by simp [hd2, hd6, hd11, hd16, ← hc, ← hc2]))).symm.trans hc3
            have hc3 := Option.some.inj hc3
            have hc4 := (if_neg (Bool.eq_false_iff.1 (by simp [hd2, hd6, hd11, hd16, ← hc, ← hc2, ← hc3]))).symm.trans hc4
            have hc4 := Option.some.inj hc4
            refine WP.region mixed [[], [0], [1], [2], [2, 3], [2, 4], [5], [6], [6], [6, 7, 8], [6, 9], [10], [11], [11, 12], [11, 13], [11, 14], [15], [16], [16], [16], [16], [16], [16], [22], [23], [23], [23], [23], [23], [23], [29], [30], [30], [30], [30], [30], [30], [36]] [[], [0], [1], [2], [2, 3], [2, 4], [5], [6], [6], [6, 7, 8], [6, 9], [10], [11], [11, 12], [11, 13], [11, 14], [15], [16], [16], [16], [16], [16], [16], [22], [23], [23], [23], [23], [23], [23], [29], [30], [30], [30], [30], [30], [30], [36]] [[3], [], [], [5], [], [], [], [2], [], [], [], [], [4], [], [], [], [], [], [], [], [], [], [], [], [], [], [], [], [], [], [], [], [], [], [], [], [], []] [] []
              [val 19 (.int .i64 z.2), val 20 (.bool (z.2 == 0)), val 21 (.bool true), val 22 (.int .i64 z2.2), val 23 (.bool (z2.2 == 0)), val 24 (.bool (z2.2 == 0)), val 25 (.bool true), val 26 (v2_), (27, fun u wz => ∃ b, u = .slice (some ⟨b, 0, none⟩) 2 2 ∧ w4.heap.size ≤ b ∧ Mb wz b 3 (([1, 0]).flatMap (fun x : Int => [Value.int .i64 x]))), val 28 (.bool z3), val 29 (.bool z3), val 30 (.bool true), val 31 (v4_), val 32 (.int .i64 (z2.1.length : Int)), val 33 (.bool ((z2.1.length : Int) == 2)), val 34 (.bool ((z2.1.length : Int) == 2)), val 35 (.bool false), anyF 36, anyF 37, anyF 38, anyF 39, anyF 40, val 41 (.bool false), val 42 (.bool false), anyF 43, anyF 44, anyF 45, anyF 46, anyF 47, val 48 (.bool false), val 49 (.bool false), anyF 50, anyF 51, anyF 52, anyF 53, anyF 54, val 55 (.bool false), val 0 (.bool false)] noG (by kernel_rfl)
              ⟨Stable.val _ _ _, Stable.val _ _ _, Stable.val _ _ _, Stable.val _ _ _, Stable.val _ _ _, Stable.val _ _ _, Stable.val _ _ _, Stable.val _ _ _, fun _ _ _ hE ⟨b, hz, hs, hM⟩ => ⟨b, hz, hs, hM.exn hE⟩, Stable.val _ _ _, Stable.val _ _ _, Stable.val _ _ _, Stable.val _ _ _, Stable.val _ _ _, Stable.val _ _ _, Stable.val _ _ _, Stable.val _ _ _, Stable.any _ _, Stable.any _ _, Stable.any _ _, Stable.any _ _, Stable.any _ _, Stable.val _ _ _, Stable.val _ _ _, Stable.any _ _, Stable.any _ _, Stable.any _ _, Stable.any _ _, Stable.any _ _, Stable.val _ _ _, Stable.val _ _ _, Stable.any _ _, Stable.any _ _, Stable.any _ _, Stable.any _ _, Stable.any _ _, Stable.val _ _ _, Stable.val _ _ _, trivial⟩
              ⟨fun ρz wz hE hA ⟨e3, _⟩ _ => core_val rfl rfl (o_move (e3.trans h3)),
     fun ρz wz hE hA _ ⟨u0, _⟩ => core_val rfl rfl (o_eql u0 rfl rfl),
     fun ρz wz hE hA _ ⟨u1, _⟩ => core_valE rfl rfl (congrArg Value.bool hd2) (o_move u1),
     fun ρz wz hE hA ⟨e5, _⟩ ⟨u2, _⟩ => gYes rfl u2 (core_val rfl rfl (o_move (e5.trans h5))),
     fun ρz wz hE hA _ ⟨u2, u3, _⟩ => gYes rfl u2 (core_val rfl rfl (o_eql u3 rfl rfl)),
     fun ρz wz hE hA _ ⟨u2, u4, _⟩ => core_val rfl rfl (o_pick_t u2 u4),
     fun ρz wz hE hA _ ⟨u5, _⟩ => core_valE rfl rfl (congrArg Value.bool hd6) (o_move u5),
     fun ρz wz hE hA ⟨e2, _⟩ ⟨u6, _⟩ => gYes rfl u6 (core_val rfl rfl (o_move (e2.trans h2))),
     fun ρz wz hE hA _ ⟨u6, _⟩ => gYes rfl u6 (core_slice rfl rfl hE (o_buildSlice (build_parts2 rfl rfl) (bs_23_2 _ _ _))),
     fun ρz wz hE hA _ ⟨u6, u7, ⟨bz8, hz8, hge8, hM8⟩, _⟩ => gYes rfl u6 (core_call rfl (call_args2 u7 hz8) cf_17 (pensionplain_Ints_ok  _ _ (Hf2.exn (hA rfl)).no (Mb.rep (n := 1) (cells := fun x : Int => [Value.int .i64 x]) (hn := fun _ => rfl) (G := noG) hM8 rfl (Nat.le_of_ble_eq_true rfl) (fun h => h)).no hz3)),
     fun ρz wz hE hA _ ⟨u6, u9, _⟩ => core_val rfl rfl (o_pick_t u6 u9),
     fun ρz wz hE hA _ ⟨u10, _⟩ => core_valE rfl rfl (congrArg Value.bool hd11) (o_move u10),
     fun ρz wz hE hA ⟨e4, _⟩ ⟨u11, _⟩ => gYes rfl u11 (core_val rfl rfl (o_move (e4.trans h4))),
     fun ρz wz hE hA _ ⟨u11, u12, _⟩ => gYes rfl u11 (core_val rfl rfl (o_len (u12.trans hs_Hf4) len_38)),
     fun ρz wz hE hA _ ⟨u11, u13, _⟩ => gYes rfl u11 (core_val rfl rfl (o_eql u13 rfl rfl)),
     fun ρz wz hE hA _ ⟨u11, u14, _⟩ => core_val rfl rfl (o_pick_t u11 u14),
     fun ρz wz hE hA _ ⟨u15, _⟩ => core_valE rfl rfl (congrArg Value.bool hd16) (o_move u15),
     fun _ _ _ _ _ ⟨u16, _⟩ => gNo rfl u16 rfl trivial,
     fun _ _ _ _ _ ⟨u16, _⟩ => gNo rfl u16 rfl trivial,
     fun _ _ _ _ _ ⟨u16, _⟩ => gNo rfl u16 rfl trivial,
     fun _ _ _ _ _ ⟨u16, _⟩ => gNo rfl u16 rfl trivial,
     fun _ _ _ _ _ ⟨u16, _⟩ => gNo rfl u16 rfl trivial,
     fun ρz wz hE hA _ ⟨u16, _⟩ => core_val rfl rfl (o_pick_f u16 rfl),
     fun ρz wz hE hA _ ⟨u22, _⟩ => core_val rfl rfl (o_move u22),
     fun _ _ _ _ _ ⟨u23, _⟩ => gNo rfl u23 rfl trivial,
     fun _ _ _ _ _ ⟨u23, _⟩ => gNo rfl u23 rfl trivial,
     fun _ _ _ _ _ ⟨u23, _⟩ => gNo rfl u23 rfl trivial,
     fun _ _ _ _ _ ⟨u23, _⟩ => gNo rfl u23 rfl trivial,
     fun _ _ _ _ _ ⟨u23, _⟩ => gNo rfl u23 rfl trivial,
     fun ρz wz hE hA _ ⟨u23, _⟩ => core_val rfl rfl (o_pick_f u23 rfl),
     fun ρz wz hE hA _ ⟨u29, _⟩ => core_val rfl rfl (o_move u29),
     fun _ _ _ _ _ ⟨u30, _⟩ => gNo rfl u30 rfl trivial,
     fun _ _ _ _ _ ⟨u30, _⟩ => gNo rfl u30 rfl trivial,
     fun _ _ _ _ _ ⟨u30, _⟩ => gNo rfl u30 rfl trivial,
     fun _ _ _ _ _ ⟨u30, _⟩ => gNo rfl u30 rfl trivial,
     fun _ _ _ _ _ ⟨u30, _⟩ => gNo rfl u30 rfl trivial,
     fun ρz wz hE hA _ ⟨u30, _⟩ => core_val rfl rfl (o_pick_f u30 rfl),
     fun ρz wz hE hA _ ⟨u36, _⟩ => core_val rfl rfl (o_assign u36), trivial⟩ ?_
            intro ρ9 w9 hE hN hf hr
            have hN := hN rfl
            have h0 : ρ9 0 = .bool false := hf 37 rfl
            have Hg_0_at0 := Hg_0
            have Hg_0 := Hg_0.exn hN
            have hW := hW.trans hN
            have hsz := Nat.le_trans hsz hN.size
            exact ⟨(h0.trans (congrArg Value.bool (by simp [hd2, hd6, hd11, hd16, ← hc, ← hc2, ← hc3, ← hc4]))), Hg_0, hW, hsz⟩
        · have hc2 := (if_neg (Bool.eq_false_iff.1 (by simp [hd2, hd6, hd11, ← hc]))).symm.trans hc2
          have hc2 := Option.some.inj hc2
          have hc3 := (if_neg (Bool.eq_false_iff.1 (by simp [hd2, hd6, hd11, ← hc, ← hc2]))).symm.trans hc3
          have hc3 := Option.some.inj hc3
          have hc4 := (if_neg (Bool.eq_false_iff.1 (by simp [hd2, hd6, hd11, ← hc, ← hc2, ← hc3]))).symm.trans hc4
          have hc4 := Option.some.inj hc4
          refine WP.region mixed [[], [0], [1], [2], [2, 3], [2, 4], [5], [6], [6], [6, 7, 8], [6, 9], [10], [11], [11], [11], [11], [15], [16], [16], [16], [16], [16], [16], [22], [23], [23], [23], [23], [23], [23], [29], [30], [30], [30], [30], [30], [30], [36]] [[], [0], [1], [2], [2, 3], [2, 4], [5], [6], [6], [6, 7, 8], [6, 9], [10], [11], [11], [11], [11], [15], [16], [16], [16], [16], [16], [16], [22], [23], [23], [23], [23], [23], [23], [29], [30], [30], [30], [30], [30], [30], [36]] [[3], [], [], [5], [], [], [], [2], [], [], [], [], [], [], [], [], [], [], [], [], [], [], [], [], [], [], [], [], [], [], [], [], [], [], [], [], [], []] [] []
            [val 19 (.int .i64 z.2), val 20 (.bool (z.2 == 0)), val 21 (.bool true), val 22 (.int .i64 z2.2), val 23 (.bool (z2.2 == 0)), val 24 (.bool (z2.2 == 0)), val 25 (.bool true), val 26 (v2_), (27, fun u wz => ∃ b, u = .slice (some ⟨b, 0, none⟩) 2 2 ∧ w4.heap.size ≤ b ∧ Mb wz b 3 (([1, 0]).flatMap (fun x : Int => [Value.int .i64 x]))), val 28 (.bool z3), val 29 (.bool z3), val 30 (.bool false), anyF 31, anyF 32, anyF 33, val 34 (.bool false), val 35 (.bool false), anyF 36, anyF 37, anyF 38, anyF 39, anyF 40, val 41 (.bool false), val 42 (.bool false), anyF 43, anyF 44, anyF 45, anyF 46, anyF 47, val 48 (.bool false), val 49 (.bool false), anyF 50, anyF 51, anyF 52, anyF 53, anyF 54, val 55 (.bool false), val 0 (.bool false)] noG (by kernel_rfl)
            ⟨Stable.val _ _ _, Stable.val _ _ _, Stable.val _ _ _, Stable.val _ _ _, Stable.val _ _ _, Stable.val _ _ _, Stable.val _ _ _, Stable.val _ _ _, fun _ _ _ hE ⟨b, hz, hs, hM⟩ => ⟨b, hz, hs, hM.exn hE⟩, Stable.val _ _ _, Stable.val _ _ _, Stable.val _ _ _, Stable.any _ _, Stable.any _ _, Stable.any _ _, Stable.val _ _ _, Stable.val _ _ _, Stable.any _ _, Stable.any _ _, Stable.any _ _, Stable.any _ _, Stable.any _ _, Stable.val _ _ _, Stable.val _ _ _, Stable.any _ _, Stable.any _ _, Stable.any _ _, Stable.any _ _, Stable.any _ _, Stable.val _ _ _, Stable.val _ _ _, Stable.any _ _, Stable.any _ _, Stable.any _ _, Stable.any _ _, Stable.any _ _, Stable.val _ _ _, Stable.val _ _ _, trivial⟩
            ⟨fun ρz wz hE hA ⟨e3, _⟩ _ => core_val rfl rfl (o_move (e3.trans h3)),
     fun ρz wz hE hA _ ⟨u0, _⟩ => core_val rfl rfl (o_eql u0 rfl rfl),
     fun ρz wz hE hA _ ⟨u1, _⟩ => core_valE rfl rfl (congrArg Value.bool hd2) (o_move u1),
     fun ρz wz hE hA ⟨e5, _⟩ ⟨u2, _⟩ => gYes rfl u2 (core_val rfl rfl (o_move (e5.trans h5))),
     fun ρz wz hE hA _ ⟨u2, u3, _⟩ => gYes rfl u2 (core_val rfl rfl (o_eql u3 rfl rfl)),
     fun ρz wz hE hA _ ⟨u2, u4, _⟩ => core_val rfl rfl (o_pick_t u2 u4),
     fun ρz wz hE hA _ ⟨u5, _⟩ => core_valE rfl rfl (congrArg Value.bool hd6) (o_move u5),
     fun ρz wz hE hA ⟨e2, _⟩ ⟨u6, _⟩ => gYes rfl u6 (core_val rfl rfl (o_move (e2.trans h2))),
     fun ρz wz hE hA _ ⟨u6, _⟩ => gYes rfl u6 (core_slice rfl rfl hE (o_buildSlice (build_parts2 rfl rfl) (bs_23_2 _ _ _))),
     fun ρz wz hE hA _ ⟨u6, u7, ⟨bz8, hz8, hge8, hM8⟩, _⟩ => gYes rfl u6 (core_call rfl (call_args2 u7 hz8) cf_17 (pensionplain_Ints_ok  _ _ (Hf2.exn (hA rfl)).no (Mb.rep (n := 1) (cells := fun x : Int => [Value.int .i64 x]) (hn := fun _ => rfl) (G := noG) hM8 rfl (Nat.le_of_ble_eq_true rfl) (fun h => h)).no hz3)),
     fun ρz wz hE hA _ ⟨u6, u9, _⟩ => core_val rfl rfl (o_pick_t u6 u9),
     fun ρz wz hE hA _ ⟨u10, _⟩ => core_valE rfl rfl (congrArg Value.bool hd11) (o_move u10),
     fun _ _ _ _ _ ⟨u11, _⟩ => gNo rfl u11 rfl trivial,
     fun _ _ _ _ _ ⟨u11, _⟩ => gNo rfl u11 rfl trivial,
     fun _ _ _ _ _ ⟨u11, _⟩ => gNo rfl u11 rfl trivial,
     fun ρz wz hE hA _ ⟨u11, _⟩ => core_val rfl rfl (o_pick_f u11 rfl),
     fun ρz wz hE hA _ ⟨u15, _⟩ => core_val rfl rfl (o_move u15),
     fun _ _ _ _ _ ⟨u16, _⟩ => gNo rfl u16 rfl trivial,
     fun _ _ _ _ _ ⟨u16, _⟩ => gNo rfl u16 rfl trivial,
     fun _ _ _ _ _ ⟨u16, _⟩ => gNo rfl u16 rfl trivial,
     fun _ _ _ _ _ ⟨u16, _⟩ => gNo rfl u16 rfl trivial,
     fun _ _ _ _ _ ⟨u16, _⟩ => gNo rfl u16 rfl trivial,
     fun ρz wz hE hA _ ⟨u16, _⟩ => core_val rfl rfl (o_pick_f u16 rfl),
     fun ρz wz hE hA _ ⟨u22, _⟩ => core_val rfl rfl (o_move u22),
     fun _ _ _ _ _ ⟨u23, _⟩ => gNo rfl u23 rfl trivial,
     fun _ _ _ _ _ ⟨u23, _⟩ => gNo rfl u23 rfl trivial,
     fun _ _ _ _ _ ⟨u23, _⟩ => gNo rfl u23 rfl trivial,
     fun _ _ _ _ _ ⟨u23, _⟩ => gNo rfl u23 rfl trivial,
     fun _ _ _ _ _ ⟨u23, _⟩ => gNo rfl u23 rfl trivial,
     fun ρz wz hE hA _ ⟨u23, _⟩ => core_val rfl rfl (o_pick_f u23 rfl),
     fun ρz wz hE hA _ ⟨u29, _⟩ => core_val rfl rfl (o_move u29),
     fun _ _ _ _ _ ⟨u30, _⟩ => gNo rfl u30 rfl trivial,
     fun _ _ _ _ _ ⟨u30, _⟩ => gNo rfl u30 rfl trivial,
     fun _ _ _ _ _ ⟨u30, _⟩ => gNo rfl u30 rfl trivial,
     fun _ _ _ _ _ ⟨u30, _⟩ => gNo rfl u30 rfl trivial,
     fun _ _ _ _ _ ⟨u30, _⟩ => gNo rfl u30 rfl trivial,
     fun ρz wz hE hA _ ⟨u30, _⟩ => core_val rfl rfl (o_pick_f u30 rfl),
     fun ρz wz hE hA _ ⟨u36, _⟩ => core_val rfl rfl (o_assign u36), trivial⟩ ?_
          intro ρ10 w10 hE hN hf hr
          have hN := hN rfl
          have h0 : ρ10 0 = .bool false := hf 37 rfl
          have Hg_0_at0 := Hg_0
          have Hg_0 := Hg_0.exn hN
          have hW := hW.trans hN
          have hsz := Nat.le_trans hsz hN.size
          exact ⟨(h0.trans (congrArg Value.bool (by simp [hd2, hd6, hd11, ← hc, ← hc2, ← hc3, ← hc4]))), Hg_0, hW, hsz⟩
      · have hc := (if_neg (Bool.eq_false_iff.1 (by simp [hd2, hd6]))).symm.trans hc
        have hc := Option.some.inj hc
        have hc2 := (if_neg (Bool.eq_false_iff.1 (by simp [hd2, hd6, ← hc]))).symm.trans hc2
        have hc2 := Option.some.inj hc2
        have hc3 := (if_neg (Bool.eq_false_iff.1 (by simp [hd2, hd6, ← hc, ← hc2]))).symm.trans hc3
        have hc3 := Option.some.inj hc3
        have hc4 := (if_neg (Bool.eq_false_iff.1 (by simp [hd2, hd6, ← hc, ← hc2, ← hc3]))).symm.trans hc4
        have hc4 := Option.some.inj hc4
        refine WP.region mixed [[], [0], [1], [2], [2, 3], [2, 4], [5], [6], [6], [6], [6], [10], [11], [11], [11], [11], [15], [16], [16], [16], [16], [16], [16], [22], [23], [23], [23], [23], [23], [23], [29], [30], [30], [30], [30], [30], [30], [36]] [[], [0], [1], [2], [2, 3], [2, 4], [5], [6], [6], [6], [6], [10], [11], [11], [11], [11], [15], [16], [16], [16], [16], [16], [16], [22], [23], [23], [23], [23], [23], [23], [29], [30], [30], [30], [30], [30], [30], [36]] [[3], [], [], [5], [], [], [], [], [], [], [], [], [], [], [], [], [], [], [], [], [], [], [], [], [], [], [], [], [], [], [], [], [], [], [], [], [], []] [] []
          [val 19 (.int .i64 z.2), val 20 (.bool (z.2 == 0)), val 21 (.bool true), val 22 (.int .i64 z2.2), val 23 (.bool (z2.2 == 0)), val 24 (.bool (z2.2 == 0)), val 25 (.bool false), anyF 26, anyF 27, anyF 28, val 29 (.bool false), val 30 (.bool false), anyF 31, anyF 32, anyF 33, val 34 (.bool false), val 35 (.bool false), anyF 36, anyF 37, anyF 38, anyF 39, anyF 40, val 41 (.bool false), val 42 (.bool false), anyF 43, anyF 44, anyF 45, anyF 46, anyF 47, val 48 (.bool false), val 49 (.bool false), anyF 50, anyF 51, anyF 52, anyF 53, anyF 54, val 55 (.bool false), val 0 (.bool false)] noG (by kernel_rfl)
          ⟨Stable.val _ _ _, Stable.val _ _ _, Stable.val _ _ _, Stable.val _ _ _, Stable.val _ _ _, Stable.val _ _ _, Stable.val _ _ _, Stable.any _ _, Stable.any _ _, Stable.any _ _, Stable.val _ _ _, Stable.val _ _ _, Stable.any _ _, Stable.any _ _, Stable.any _ _, Stable.val _ _ _, Stable.val _ _ _, Stable.any _ _, Stable.any _ _, Stable.any _ _, Stable.any _ _, Stable.any _ _, Stable.val _ _ _, Stable.val _ _ _, Stable.any _ _, Stable.any _ _, Stable.any _ _, Stable.any _ _, Stable.any _ _, Stable.val _ _ _, Stable.val _ _ _, Stable.any _ _, Stable.any _ _, Stable.any _ _, Stable.any _ _, Stable.any _ _, Stable.val _ _ _, Stable.val _ _ _, trivial⟩
          ⟨fun ρz wz hE hA ⟨e3, _⟩ _ => core_val rfl rfl (o_move (e3.trans h3)),
     fun ρz wz hE hA _ ⟨u0, _⟩ => core_val rfl rfl (o_eql u0 rfl rfl),
     fun ρz wz hE hA _ ⟨u1, _⟩ => core_valE rfl rfl (congrArg Value.bool hd2) (o_move u1),
     fun ρz wz hE hA ⟨e5, _⟩ ⟨u2, _⟩ => gYes rfl u2 (core_val rfl rfl (o_move (e5.trans h5))),
     fun ρz wz hE hA _ ⟨u2, u3, _⟩ => gYes rfl u2 (core_val rfl rfl (o_eql u3 rfl rfl)),
     fun ρz wz hE hA _ ⟨u2, u4, _⟩ => core_val rfl rfl (o_pick_t u2 u4),
     fun ρz wz hE hA _ ⟨u5, _⟩ => core_valE rfl rfl (congrArg Value.bool hd6) (o_move u5),
     fun _ _ _ _ _ ⟨u6, _⟩ => gNo rfl u6 rfl trivial,
     fun _ _ _ _ _ ⟨u6, _⟩ => gNo rfl u6 rfl trivial,
     fun _ _ _ _ _ ⟨u6, _⟩ => gNo rfl u6 rfl trivial,
     fun ρz wz hE hA _ ⟨u6, _⟩ => core_val rfl rfl (o_pick_f u6 rfl),
     fun ρz wz hE hA _ ⟨u10, _⟩ => core_val rfl rfl (o_move u10),
     fun _ _ _ _ _ ⟨u11, _⟩ => gNo rfl u11 rfl trivial,
     fun _ _ _ _ _ ⟨u11, _⟩ => gNo rfl u11 rfl trivial,
     fun _ _ _ _ _ ⟨u11, _⟩ => gNo rfl u11 rfl trivial,
     fun ρz wz hE hA _ ⟨u11, _⟩ => core_val rfl rfl (o_pick_f u11 rfl),
     fun ρz wz hE hA _ ⟨u15, _⟩ => core_val rfl rfl (o_move u15),
     fun _ _ _ _ _ ⟨u16, _⟩ => gNo rfl u16 rfl trivial,
     fun _ _ _ _ _ ⟨u16, _⟩ => gNo rfl u16 rfl trivial,
     fun _ _ _ _ _ ⟨u16, _⟩ => gNo rfl u16 rfl trivial,
     fun _ _ _ _ _ ⟨u16, _⟩ => gNo rfl u16 rfl trivial,
     fun _ _ _ _ _ ⟨u16, _⟩ => gNo rfl u16 rfl trivial,
     fun ρz wz hE hA _ ⟨u16, _⟩ => core_val rfl rfl (o_pick_f u16 rfl),
     fun ρz wz hE hA _ ⟨u22, _⟩ => core_val rfl rfl (o_move u22),
     fun _ _ _ _ _ ⟨u23, _⟩ => gNo rfl u23 rfl trivial,
     fun _ _ _ _ _ ⟨u23, _⟩ => gNo rfl u23 rfl trivial,
     fun _ _ _ _ _ ⟨u23, _⟩ => gNo rfl u23 rfl trivial,
     fun _ _ _ _ _ ⟨u23, _⟩ => gNo rfl u23 rfl trivial,
     fun _ _ _ _ _ ⟨u23, _⟩ => gNo rfl u23 rfl trivial,
     fun ρz wz hE hA _ ⟨u23, _⟩ => core_val rfl rfl (o_pick_f u23 rfl),
     fun ρz wz hE hA _ ⟨u29, _⟩ => core_val rfl rfl (o_move u29),
     fun _ _ _ _ _ ⟨u30, _⟩ => gNo rfl u30 rfl trivial,
     fun _ _ _ _ _ ⟨u30, _⟩ => gNo rfl u30 rfl trivial,
     fun _ _ _ _ _ ⟨u30, _⟩ => gNo rfl u30 rfl trivial,
     fun _ _ _ _ _ ⟨u30, _⟩ => gNo rfl u30 rfl trivial,
     fun _ _ _ _ _ ⟨u30, _⟩ => gNo rfl u30 rfl trivial,
     fun ρz wz hE hA _ ⟨u30, _⟩ => core_val rfl rfl (o_pick_f u30 rfl),
     fun ρz wz hE hA _ ⟨u36, _⟩ => core_val rfl rfl (o_assign u36), trivial⟩ ?_
        intro ρ11 w11 hE hN hf hr
        have hN := hN rfl
        have h0 : ρ11 0 = .bool false := hf 37 rfl
        have Hg_0_at0 := Hg_0
        have Hg_0 := Hg_0.exn hN
        have hW := hW.trans hN
        have hsz := Nat.le_trans hsz hN.size
        exact ⟨(h0.trans (congrArg Value.bool (by simp [hd2, hd6, ← hc, ← hc2, ← hc3, ← hc4]))), Hg_0, hW, hsz⟩
    · have hc := (if_neg (Bool.eq_false_iff.1 (by simp [hd2]))).symm.trans hc
      have hc := Option.some.inj hc
      have hc2 := (if_neg (Bool.eq_false_iff.1 (by simp [hd2, ← hc]))).symm.trans hc2
      have hc2 := Option.some.inj hc2
      have hc3 := (if_neg (Bool.eq_false_iff.1 (by simp [hd2, ← hc, ← hc2]))).symm.trans hc3
      have hc3 := Option.some.inj hc3
      have hc4 := (if_neg (Bool.eq_false_iff.1 (by simp [hd2, ← hc, ← hc2, ← hc3]))).symm.trans hc4
      have hc4 := Option.some.inj hc4
      refine WP.region mixed [[], [0], [1], [2], [2], [2], [5], [6], [6], [6], [6], [10], [11], [11], [11], [11], [15], [16], [16], [16], [16], [16], [16], [22], [23], [23], [23], [23], [23], [23], [29], [30], [30], [30], [30], [30], [30], [36]] [[], [0], [1], [2], [2], [2], [5], [6], [6], [6], [6], [10], [11], [11], [11], [11], [15], [16], [16], [16], [16], [16], [16], [22], [23], [23], [23], [23], [23], [23], [29], [30], [30], [30], [30], [30], [30], [36]] [[3], [], [], [], [], [], [], [], [], [], [], [], [], [], [], [], [], [], [], [], [], [], [], [], [], [], [], [], [], [], [], [], [], [], [], [], [], []] [] []
        [val 19 (.int .i64 z.2), val 20 (.bool (z.2 == 0)), val 21 (.bool false), anyF 22, anyF 23, val 24 (.bool false), val 25 (.bool false), anyF 26, anyF 27, anyF 28, val 29 (.bool false), val 30 (.bool false), anyF 31, anyF 32, anyF 33, val 34 (.bool false), val 35 (.bool false), anyF 36, anyF 37, anyF 38, anyF 39, anyF 40, val 41 (.bool false), val 42 (.bool false), anyF 43, anyF 44, anyF 45, anyF 46, anyF 47, val 48 (.bool false), val 49 (.bool false), anyF 50, anyF 51, anyF 52, anyF 53, anyF 54, val 55 (.bool false), val 0 (.bool false)] noG (by kernel_rfl)
        ⟨Stable.val _ _ _, Stable.val _ _ _, Stable.val _ _ _, Stable.any _ _, Stable.any _ _, Stable.val _ _ _, Stable.val _ _ _, Stable.any _ _, Stable.any _ _, Stable.any _ _, Stable.val _ _ _, Stable.val _ _ _, Stable.any _ _, Stable.any _ _, Stable.any _ _, Stable.val _ _ _, Stable.val _ _ _, Stable.any _ _, Stable.any _ _, Stable.any _ _, Stable.any _ _, Stable.any _ _, Stable.val _ _ _, Stable.val _ _ _, Stable.any _ _, Stable.any _ _, Stable.any _ _, Stable.any _ _, Stable.any _ _, Stable.val _ _ _, Stable.val _ _ _, Stable.any _ _, Stable.any _ _, Stable.any _ _, Stable.any _ _, Stable.any _ _, Stable.val _ _ _, Stable.val _ _ _, trivial⟩
        ⟨fun ρz wz hE hA ⟨e3, _⟩ _ => core_val rfl rfl (o_move (e3.trans h3)),
     fun ρz wz hE hA _ ⟨u0, _⟩ => core_val rfl rfl (o_eql u0 rfl rfl),
     fun ρz wz hE hA _ ⟨u1, _⟩ => core_valE rfl rfl (congrArg Value.bool hd2) (o_move u1),
     fun _ _ _ _ _ ⟨u2, _⟩ => gNo rfl u2 rfl trivial,
     fun _ _ _ _ _ ⟨u2, _⟩ => gNo rfl u2 rfl trivial,
     fun ρz wz hE hA _ ⟨u2, _⟩ => core_val rfl rfl (o_pick_f u2 rfl),
     fun ρz wz hE hA _ ⟨u5, _⟩ => core_val rfl rfl (o_move u5),
     fun _ _ _ _ _ ⟨u6, _⟩ => gNo rfl u6 rfl trivial,
     fun _ _ _ _ _ ⟨u6, _⟩ => gNo rfl u6 rfl trivial,
     fun _ _ _ _ _ ⟨u6, _⟩ => gNo rfl u6 rfl trivial,
     fun ρz wz hE hA _ ⟨u6, _⟩ => core_val rfl rfl (o_pick_f u6 rfl),
     fun ρz wz hE hA _ ⟨u10, _⟩ => core_val rfl rfl (o_move u10),
     fun _ _ _ _ _ ⟨u11, _⟩ => gNo rfl u11 rfl trivial,
     fun _ _ _ _ _ ⟨u11, _⟩ => gNo rfl u11 rfl trivial,
     fun _ _ _ _ _ ⟨u11, _⟩ => gNo rfl u11 rfl trivial,
     fun ρz wz hE hA _ ⟨u11, _⟩ => core_val rfl rfl (o_pick_f u11 rfl),
     fun ρz wz hE hA _ ⟨u15, _⟩ => core_val rfl rfl (o_move u15),
     fun _ _ _ _ _ ⟨u16, _⟩ => gNo rfl u16 rfl trivial,
     fun _ _ _ _ _ ⟨u16, _⟩ => gNo rfl u16 rfl trivial,
     fun _ _ _ _ _ ⟨u16, _⟩ => gNo rfl u16 rfl trivial,
     fun _ _ _ _ _ ⟨u16, _⟩ => gNo rfl u16 rfl trivial,
     fun _ _ _ _ _ ⟨u16, _⟩ => gNo rfl u16 rfl trivial,
     fun ρz wz hE hA _ ⟨u16, _⟩ => core_val rfl rfl (o_pick_f u16 rfl),
     fun ρz wz hE hA _ ⟨u22, _⟩ => core_val rfl rfl (o_move u22),
     fun _ _ _ _ _ ⟨u23, _⟩ => gNo rfl u23 rfl trivial,
     fun _ _ _ _ _ ⟨u23, _⟩ => gNo rfl u23 rfl trivial,
     fun _ _ _ _ _ ⟨u23, _⟩ => gNo rfl u23 rfl trivial,
     fun _ _ _ _ _ ⟨u23, _⟩ => gNo rfl u23 rfl trivial,
     fun _ _ _ _ _ ⟨u23, _⟩ => gNo rfl u23 rfl trivial,
     fun ρz wz hE hA _ ⟨u23, _⟩ => core_val rfl rfl (o_pick_f u23 rfl),
     fun ρz wz hE hA _ ⟨u29, _⟩ => core_val rfl rfl (o_move u29),
     fun _ _ _ _ _ ⟨u30, _⟩ => gNo rfl u30 rfl trivial,
     fun _ _ _ _ _ ⟨u30, _⟩ => gNo rfl u30 rfl trivial,
     fun _ _ _ _ _ ⟨u30, _⟩ => gNo rfl u30 rfl trivial,
     fun _ _ _ _ _ ⟨u30, _⟩ => gNo rfl u30 rfl trivial,
     fun _ _ _ _ _ ⟨u30, _⟩ => gNo rfl u30 rfl trivial,
     fun ρz wz hE hA _ ⟨u30, _⟩ => core_val rfl rfl (o_pick_f u30 rfl),
     fun ρz wz hE hA _ ⟨u36, _⟩ => core_val rfl rfl (o_assign u36), trivial⟩ ?_
      intro ρ12 w12 hE hN hf hr
      have hN := hN rfl
      have h0 : ρ12 0 = .bool false := hf 37 rfl
      have Hg_0_at0 := Hg_0
      have Hg_0 := Hg_0.exn hN
      have hW := hW.trans hN
      have hsz := Nat.le_trans hsz hN.size
      exact ⟨(h0.trans (congrArg Value.bool (by simp [hd2, ← hc, ← hc2, ← hc3, ← hc4]))), Hg_0, hW, hsz⟩
  rintro ρ5 w5 ⟨h0, Hg_0, hW, hsz⟩
  refine WP.ret ?_
  show retQ Tryd.prog 56 Tryd.f16 (fun v w1 => v = .bool r ∧ Ext noG w0 w1) .ret ρ5 w5
  obtain rfl := Option.some.inj hF
  exact res1 rfl (by decide) h0 ⟨rfl, hW⟩

set_option maxHeartbeats 4000000 in
theorem pensionlaw24_FamilyRejects_ok {w0 : World} (Hg_0 : GR [Value.int .i64 1, Value.int .i64 1] noG w0 0) (d_ : List Right) (i_ : Int) (p_ : List Rate) (p_2 : Int) {v_d_ : Value} (H_d_ : RepSl Right.R noG w0 v_d_ d_) {v_p_ : Value} (H_p_ : RepSl Rate.R noG w0 v_p_ p_) {r : Bool} (hF : pensionlaw24_FamilyRejects d_ i_ p_ p_2 = some r) :
    Calls Tryd.prog 4 #[v_d_, .int .i64 i_, v_p_, .int .i64 p_2] w0 fun e w1 => e = .returned (.bool r) ∧ Ext noG w0 w1 := by
  refine (Calls.start (P := Tryd.prog) (args := [v_d_, .int .i64 i_, v_p_, .int .i64 p_2]) (R := fun v w1 => v = .bool r ∧ Ext noG w0 w1) (n := 72) (w := w0) Tryd.func4 rfl rfl (Nat.le_of_ble_eq_true rfl) (fun ρ hargs => ?_)).mono (fun e w1 ⟨v, he, hv, hE⟩ => ⟨hv ▸ he, hE⟩)
  have h0 := hargs 0 _ rfl
  have h1 := hargs 1 _ rfl
  have h2 := hargs 2 _ rfl
  have h3 := hargs 3 _ rfl
  have hW := Ext.refl noG w0
  have hsz := Nat.le_refl w0.heap.size
  obtain ⟨_, _, hs_H_d_, _, _⟩ := RepSl.shape H_d_
  have H_d_ := H_d_.start
  obtain ⟨_, _, hs_H_p_, _, _⟩ := RepSl.shape H_p_
  have H_p_ := H_p_.start
  have Hg_0 := Hg_0.start
  rw [pensionlaw24_FamilyRejects] at hF
  refine WP.seq ?_
  refine WP.region mixed [[]] [[]] [[]] [] []
    [val 8 (.bool false)] noG (by kernel_rfl)
    ⟨Stable.val _ _ _, trivial⟩
    ⟨fun ρz wz hE hA _ _ => core_val rfl rfl (o_assign rfl), trivial⟩ ?_
  intro ρ1 w1 hE hN hf hr
  have hN := hN rfl
  have h0 := (hr 0 rfl).trans h0
  have h1 := (hr 1 rfl).trans h1
  have h2 := (hr 2 rfl).trans h2
  have h3 := (hr 3 rfl).trans h3
  have H_d__at0 := H_d_
  have H_d_ := H_d_.exn hN
  have H_p__at0 := H_p_
  have H_p_ := H_p_.exn hN
  have Hg_0_at0 := Hg_0
  have Hg_0 := Hg_0.exn hN
  have hW := hW.trans hN
  have hsz := Nat.le_trans hsz hN.size
  refine WP.seq ?_
  obtain ⟨z, hz, hF⟩ := obind hF
  obtain ⟨c, hc, hF⟩ := obind hF
  obtain ⟨c2, hc2, hF⟩ := obind hF
  refine WP.via (fun ρ w => ρ 0 = v_d_ ∧ ρ 1 = .int .i64 i_ ∧ ρ 2 = v_p_ ∧ ρ 3 = .int .i64 p_2 ∧ ρ 9 = .bool c2 ∧ RepSl Right.R (gfr noG w0) w v_d_ d_ ∧ RepSl Rate.R (gfr noG w0) w v_p_ p_ ∧ GR [Value.int .i64 1, Value.int .i64 1] (gfr noG w0) w 0 ∧ Ext noG w0 w ∧ w0.heap.size ≤ w.heap.size) ?_ ?_
  · rcases Bool.eq_false_or_eq_true (!z) with hd3 | hd3
    · have hc := (if_pos (by simp [hd3])).symm.trans hc
      have hc := Option.some.inj hc
      have hc2 := (if_pos (by simp [hd3, ← hc])).symm.trans hc2
      have hc2 := Option.some.inj hc2
      refine WP.region mixed [[], [0], [1], [2], [3], [3], [3], [3], [7], [8], [8], [8], [8], [12]] [[], [0], [1], [2], [3], [3], [3], [3], [7], [8], [8], [8], [8], [12]] [[0], [], [], [], [], [], [], [], [], [], [], [], [], []] [] []
        [val 14 (v_d_), val 15 (.bool z), val 16 (.bool (!z)), val 17 (.bool true), anyF 18, anyF 19, anyF 20, val 21 (.bool true), val 22 (.bool true), anyF 23, anyF 24, anyF 25, val 26 (.bool true), val 9 (.bool true)] noG (by kernel_rfl)
        ⟨Stable.val _ _ _, Stable.val _ _ _, Stable.val _ _ _, Stable.val _ _ _, Stable.any _ _, Stable.any _ _, Stable.any _ _, Stable.val _ _ _, Stable.val _ _ _, Stable.any _ _, Stable.any _ _, Stable.any _ _, Stable.val _ _ _, Stable.val _ _ _, trivial⟩
        ⟨fun ρz wz hE hA ⟨e0, _⟩ _ => core_val rfl rfl (o_move (e0.trans h0)),
     fun ρz wz hE hA _ ⟨u0, _⟩ => core_call rfl (call_args1 u0) cf_18 (pensionref21_ValidRights_ok  _ (H_d_.exn (hA rfl)).no hz),
     fun ρz wz hE hA _ ⟨u1, _⟩ => core_val rfl rfl (o_not u1 rfl),
     fun ρz wz hE hA _ ⟨u2, _⟩ => core_valE rfl rfl (congrArg Value.bool hd3) (o_move u2),
     fun _ _ _ _ _ ⟨u3, _⟩ => gNo rfl u3 rfl trivial,
     fun _ _ _ _ _ ⟨u3, _⟩ => gNo rfl u3 rfl trivial,
     fun _ _ _ _ _ ⟨u3, _⟩ => gNo rfl u3 rfl trivial,
     fun ρz wz hE hA _ ⟨u3, _⟩ => core_val rfl rfl (o_pick_t u3 rfl),
     fun ρz wz hE hA _ ⟨u7, _⟩ => core_val rfl rfl (o_move u7),
     fun _ _ _ _ _ ⟨u8, _⟩ => gNo rfl u8 rfl trivial,
     fun _ _ _ _ _ ⟨u8, _⟩ => gNo rfl u8 rfl trivial,
     fun _ _ _ _ _ ⟨u8, _⟩ => gNo rfl u8 rfl trivial,
     fun ρz wz hE hA _ ⟨u8, _⟩ => core_val rfl rfl (o_pick_t u8 rfl),
     fun ρz wz hE hA _ ⟨u12, _⟩ => core_val rfl rfl (o_assign u12), trivial⟩ ?_
      intro ρ3 w3 hE hN hf hr
      have hN := hN rfl
      have h0 := (hr 0 rfl).trans h0
      have h1 := (hr 1 rfl).trans h1
      have h2 := (hr 2 rfl).trans h2
      have h3 := (hr 3 rfl).trans h3
      have h9 : ρ3 9 = .bool true := hf 13 rfl
      have H_d__at0 := H_d_
      have H_d_ := H_d_.exn hN
      have H_p__at0 := H_p_
      have H_p_ := H_p_.exn hN
      have Hg_0_at0 := Hg_0
      have Hg_0 := Hg_0.exn hN
      have hW := hW.trans hN
      have hsz := Nat.le_trans hsz hN.size
      exact ⟨h0, h1, h2, h3, (h9.trans (congrArg Value.bool (by simp [hd3, ← hc, ← hc2]))), H_d_, H_p_, Hg_0, hW, hsz⟩
    · have hc := (if_neg (Bool.eq_false_iff.1 (by simp [hd3]))).symm.trans hc
      obtain ⟨z2, hz2, hc⟩ := obind hc
      have hc := Option.some.inj hc
      rcases Bool.eq_false_or_eq_true (!z2) with hd8 | hd8
      · have hc2 := (if_pos (by simp [hd3, hd8, ← hc])).symm.trans hc2
        have hc2 := Option.some.inj hc2
        refine WP.region mixed [[], [0], [1], [2], [3], [3, 4], [3, 5], [3, 6], [7], [8], [8], [8], [8], [12]] [[], [0], [1], [2], [3], [3, 4], [3, 5], [3, 6], [7], [8], [8], [8], [8], [12]] [[0], [], [], [], [3], [], [], [], [], [], [], [], [], []] [] []
          [val 14 (v_d_), val 15 (.bool z), val 16 (.bool (!z)), val 17 (.bool false), val 18 (.int .i64 p_2), val 19 (.bool z2), val 20 (.bool (!z2)), val 21 (.bool (!z2)), val 22 (.bool true), anyF 23, anyF 24, anyF 25, val 26 (.bool true), val 9 (.bool true)] noG (by kernel_rfl)
          ⟨Stable.val _ _ _, Stable.val _ _ _, Stable.val _ _ _, Stable.val _ _ _, Stable.val _ _ _, Stable.val _ _ _, Stable.val _ _ _, Stable.val _ _ _, Stable.val _ _ _, Stable.any _ _, Stable.any _ _, Stable.any _ _, Stable.val _ _ _, Stable.val _ _ _, trivial⟩
          ⟨fun ρz wz hE hA ⟨e0, _⟩ _ => core_val rfl rfl (o_move (e0.trans h0)),
     fun ρz wz hE hA _ ⟨u0, _⟩ => core_call rfl (call_args1 u0) cf_18 (pensionref21_ValidRights_ok  _ (H_d_.exn (hA rfl)).no hz),
     fun ρz wz hE hA _ ⟨u1, _⟩ => core_val rfl rfl (o_not u1 rfl),
     fun ρz wz hE hA _ ⟨u2, _⟩ => core_valE rfl rfl (congrArg Value.bool hd3) (o_move u2),
     fun ρz wz hE hA ⟨e3, _⟩ ⟨u3, _⟩ => gYes rfl u3 (core_val rfl rfl (o_move (e3.trans h3))),
     fun ρz wz hE hA _ ⟨u3, u4, _⟩ => gYes rfl u3 (core_call rfl (call_args1 u4) cf_19 (pensionref1_ValidMonth_ok  _  hz2)),
     fun ρz wz hE hA _ ⟨u3, u5, _⟩ => gYes rfl u3 (core_val rfl rfl (o_not u5 rfl)),
     fun ρz wz hE hA _ ⟨u3, u6, _⟩ => core_val rfl rfl (o_pick_f u3 u6),
     fun ρz wz hE hA _ ⟨u7, _⟩ => core_valE rfl rfl (congrArg Value.bool hd8) (o_move u7),
     fun _ _ _ _ _ ⟨u8, _⟩ => gNo rfl u8 rfl trivial,
     fun _ _ _ _ _ ⟨u8, _⟩ => gNo rfl u8 rfl trivial,
     fun _ _ _ _ _ ⟨u8, _⟩ => gNo rfl u8 rfl trivial,
     fun ρz wz hE hA _ ⟨u8, _⟩ => core_val rfl rfl (o_pick_t u8 rfl),
     fun ρz wz hE hA _ ⟨u12, _⟩ => core_val rfl rfl (o_assign u12), trivial⟩ ?_
        intro ρ4 w4 hE hN hf hr
        have hN := hN rfl
        have h0 := (hr 0 rfl).trans h0
        have h1 := (hr 1 rfl).trans h1
        have h2 := (hr 2 rfl).trans h2
        have h3 := (hr 3 rfl).trans h3
        have h9 : ρ4 9 = .bool true := hf 13 rfl
        have H_d__at0 := H_d_
        have H_d_ := H_d_.exn hN
        have H_p__at0 := H_p_
        have H_p_ := H_p_.exn hN
        have Hg_0_at0 := Hg_0
        have Hg_0 := Hg_0.exn hN
        have hW := hW.trans hN
        have hsz := Nat.le_trans hsz hN.size
        exact ⟨h0, h1, h2, h3, (h9.trans (congrArg Value.bool (by simp [hd3, hd8, ← hc, ← hc2]))), H_d_, H_p_, Hg_0, hW, hsz⟩
      · have hc2 := (if_neg (Bool.eq_false_iff.1 (by simp [hd3, hd8, ← hc]))).symm.trans hc2
        obtain ⟨z3, hz3, hc2⟩ := obind hc2
        have hc2 := Option.some.inj hc2
        refine WP.region mixed [[], [0], [1], [2], [3], [3, 4], [3, 5], [3, 6], [7], [8], [8, 9], [8, 10], [8, 11], [12]] [[], [0], [1], [2], [3], [3, 4], [3, 5], [3, 6], [7], [8], [8, 9], [8, 10], [8, 11], [12]] [[0], [], [], [], [3], [], [], [], [], [2], [], [], [], []] [] []
          [val 14 (v_d_), val 15 (.bool z), val 16 (.bool (!z)), val 17 (.bool false), val 18 (.int .i64 p_2), val 19 (.bool z2), val 20 (.bool (!z2)), val 21 (.bool (!z2)), val 22 (.bool false), val 23 (v_p_), val 24 (.int .i64 z3), val 25 (.bool (z3 != 0)), val 26 (.bool (z3 != 0)), val 9 (.bool (z3 != 0))] noG (by kernel_rfl)
          ⟨Stable.val _ _ _, Stable.val _ _ _, Stable.val _ _ _, Stable.val _ _ _, Stable.val _ _ _, Stable.val _ _ _, Stable.val _ _ _, Stable.val _ _ _, Stable.val _ _ _, Stable.val _ _ _, Stable.val _ _ _, Stable.val _ _ _, Stable.val _ _ _, Stable.val _ _ _, trivial⟩
          ⟨fun ρz wz hE hA ⟨e0, _⟩ _ => core_val rfl rfl (o_move (e0.trans h0)),
     fun ρz wz hE hA _ ⟨u0, _⟩ => core_call rfl (call_args1 u0) cf_18 (pensionref21_ValidRights_ok  _ (H_d_.exn (hA rfl)).no hz),
     fun ρz wz hE hA _ ⟨u1, _⟩ => core_val rfl rfl (o_not u1 rfl),
     fun ρz wz hE hA _ ⟨u2, _⟩ => core_valE rfl rfl (congrArg Value.bool hd3) (o_move u2),
     fun ρz wz hE hA ⟨e3, _⟩ ⟨u3, _⟩ => gYes rfl u3 (core_val rfl rfl (o_move (e3.trans h3))),
     fun ρz wz hE hA _ ⟨u3, u4, _⟩ => gYes rfl u3 (core_call rfl (call_args1 u4) cf_19 (pensionref1_ValidMonth_ok  _  hz2)),
     fun ρz wz hE hA _ ⟨u3, u5, _⟩ => gYes rfl u3 (core_val rfl rfl (o_not u5 rfl)),
     fun ρz wz hE hA _ ⟨u3, u6, _⟩ => core_val rfl rfl (o_pick_f u3 u6),
     fun ρz wz hE hA _ ⟨u7, _⟩ => core_valE rfl rfl (congrArg Value.bool hd8) (o_move u7),
     fun ρz wz hE hA ⟨e2, _⟩ ⟨u8, _⟩ => gYes rfl u8 (core_val rfl rfl (o_move (e2.trans h2))),
     fun ρz wz hE hA _ ⟨u8, u9, _⟩ => gYes rfl u8 (core_call rfl (call_args1 u9) cf_20 (pensionref1_CheckRates_ok  _ (H_p_.exn (hA rfl)).no hz3)),
     fun ρz wz hE hA _ ⟨u8, u10, _⟩ => gYes rfl u8 (core_val rfl rfl (o_neq u10 rfl rfl)),
     fun ρz wz hE hA _ ⟨u8, u11, _⟩ => core_val rfl rfl (o_pick_f u8 u11),
     fun ρz wz hE hA _ ⟨u12, _⟩ => core_val rfl rfl (o_assign u12), trivial⟩ ?_
        intro ρ5 w5 hE hN hf hr
        have hN := hN rfl
        have h0 := (hr 0 rfl).trans h0
        have h1 := (hr 1 rfl).trans h1
        have h2 := (hr 2 rfl).trans h2
        have h3 := (hr 3 rfl).trans h3
        have h9 : ρ5 9 = .bool (z3 != 0) := hf 13 rfl
        have H_d__at0 := H_d_
        have H_d_ := H_d_.exn hN
        have H_p__at0 := H_p_
        have H_p_ := H_p_.exn hN
        have Hg_0_at0 := Hg_0
        have Hg_0 := Hg_0.exn hN
        have hW := hW.trans hN
        have hsz := Nat.le_trans hsz hN.size
        exact ⟨h0, h1, h2, h3, (h9.trans (congrArg Value.bool (by simp [hd3, hd8, ← hc, ← hc2]))), H_d_, H_p_, Hg_0, hW, hsz⟩
  rintro ρ2 w2 ⟨h0, h1, h2, h3, h9, H_d_, H_p_, Hg_0, hW, hsz⟩
  refine WP.seq ?_
  obtain ⟨z4, hz4, hF⟩ := obind hF
  refine WP.region mixed [[], [], [], [], [0, 1, 2, 3], [4], [5], [5], [6], [7]] [[], [], [], [], [0, 1, 2, 3], [4], [5], [5], [6], [7]] [[0], [1], [2], [3], [], [], [], [], [], []] [] []
    [val 28 (v_d_), val 29 (.int .i64 i_), val 30 (v_p_), val 31 (.int .i64 p_2), (32, fun u wz => ∃ q : Value, u = .tuple #[q, .int .i64 z4.2] ∧ Own w0.heap.size 3 1 (fun x : Int => [Value.int .i64 x]) wz q z4.1 ∧ ∀ b, q.ownBlock = some b → w2.heap.size ≤ b), (27, fun u wz => ∃ q : Value, u = .tuple #[q, .int .i64 z4.2] ∧ Own w0.heap.size 3 1 (fun x : Int => [Value.int .i64 x]) wz q z4.1 ∧ ∀ b, q.ownBlock = some b → w2.heap.size ≤ b), (33, fun u wz => Own w0.heap.size 3 1 (fun x : Int => [Value.int .i64 x]) wz u z4.1 ∧ ∀ b, u.ownBlock = some b → w2.heap.size ≤ b), val 34 (.int .i64 z4.2), (10, fun u wz => Own w0.heap.size 3 1 (fun x : Int => [Value.int .i64 x]) wz u z4.1 ∧ ∀ b, u.ownBlock = some b → w2.heap.size ≤ b), val 11 (.int .i64 z4.2)] noG (by kernel_rfl)
    ⟨Stable.val _ _ _, Stable.val _ _ _, Stable.val _ _ _, Stable.val _ _ _, fun _ _ _ hE ⟨q, ht, hO, hf⟩ => ⟨q, ht, hO.exn hE, hf⟩, fun _ _ _ hE ⟨q, ht, hO, hf⟩ => ⟨q, ht, hO.exn hE, hf⟩, fun _ _ _ hE ⟨hO, hf⟩ => ⟨hO.exn hE, hf⟩, Stable.val _ _ _, fun _ _ _ hE ⟨hO, hf⟩ => ⟨hO.exn hE, hf⟩, Stable.val _ _ _, trivial⟩
    ⟨fun ρz wz hE hA ⟨e0, _⟩ _ => core_val rfl rfl (o_move (e0.trans h0)),
     fun ρz wz hE hA ⟨e1, _⟩ _ => core_val rfl rfl (o_move (e1.trans h1)),
     fun ρz wz hE hA ⟨e2, _⟩ _ => core_val rfl rfl (o_move (e2.trans h2)),
     fun ρz wz hE hA ⟨e3, _⟩ _ => core_val rfl rfl (o_move (e3.trans h3)),
     fun ρz wz hE hA _ ⟨u0, u1, u2, u3, _⟩ => core_callR rfl (call_args4 u0 u1 u2 u3) cf_14 ((family_Order_ok  _ _ _ _ (H_d_.exn (hA rfl)).no (H_p_.exn (hA rfl)).no hz4).mono (fun e w1 ⟨v, he, hE1, q, hv, hO⟩ => ⟨v, he, hE1, q, hv, hO.base (Nat.le_trans hsz hE.size), fun b hb => Nat.le_trans hE.size (hO.lt hb).1⟩)),
     fun ρz wz hE hA _ ⟨⟨q4, ht4, hO4, hfr4⟩, _⟩ => core_copy rfl rfl (o_move rfl) ⟨q4, ht4, hO4, hfr4⟩,
     fun ρz wz hE hA _ ⟨⟨q5, ht5, hO5, hfr5⟩, _⟩ => core_copy rfl rfl (o_extract ht5 (by kernel_rfl)) ⟨hO5, hfr5⟩,
     fun ρz wz hE hA _ ⟨⟨q5, ht5, hO5, hfr5⟩, _⟩ => core_val rfl rfl (o_extract ht5 (by kernel_rfl)),
     fun ρz wz hE hA _ ⟨⟨hO6, hfr6⟩, _⟩ => core_copy rfl rfl (o_assign rfl) ⟨hO6, hfr6⟩,
     fun ρz wz hE hA _ ⟨u7, _⟩ => core_val rfl rfl (o_assign u7), trivial⟩ ?_
  intro ρ6 w6 hE hN hf hr
  have hN := hN rfl
  have h0 := (hr 0 rfl).trans h0
  have h1 := (hr 1 rfl).trans h1
  have h2 := (hr 2 rfl).trans h2
  have h3 := (hr 3 rfl).trans h3
  have h9 := (hr 9 rfl).trans h9
  obtain ⟨v10_, h10⟩ : ∃ v, ρ6 10 = v := ⟨_, rfl⟩
  have hq10 : (fun u wz => Own w0.heap.size 3 1 (fun x : Int => [Value.int .i64 x]) wz u z4.1 ∧ ∀ b, u.ownBlock = some b → w2.heap.size ≤ b) (ρ6 10) w6 := hf 8 rfl
  rw [h10] at hq10
  obtain ⟨hq10, hfr10⟩ := hq10
  have h11 : ρ6 11 = .int .i64 z4.2 := hf 9 rfl
  have H_d__at0 := H_d_
  have H_d_ := H_d_.exn hN
  have H_p__at0 := H_p_
  have H_p_ := H_p_.exn hN
  have Hg_0_at0 := Hg_0
  have Hg_0 := Hg_0.exn hN
  have hW := hW.trans hN
  have Hf10 : RepSl intR noG w6 v10_ z4.1 := hq10.rep (fun _ _ h => h)
  obtain ⟨_, _, hs_Hf10, _, _⟩ := RepSl.shape Hf10
  have hsz := Nat.le_trans hsz hN.size
  refine WP.seq ?_
  obtain ⟨z5, hz5, hF⟩ := obind hF
  refine WP.region mixed [[], [], [], [], [0, 1, 2, 3], [4], [5], [5], [6], [7]] [[], [], [], [], [0, 1, 2, 3], [4], [5], [5], [6], [7]] [[0], [1], [2], [3], [], [], [], [], [], []] [] []
    [val 36 (v_d_), val 37 (.int .i64 i_), val 38 (v_p_), val 39 (.int .i64 p_2), (40, fun u wz => ∃ q : Value, u = .tuple #[q, .int .i64 z5.2] ∧ Own w0.heap.size 48 4 FamilyPay.cells wz q z5.1 ∧ ∀ b, q.ownBlock = some b → w6.heap.size ≤ b), (35, fun u wz => ∃ q : Value, u = .tuple #[q, .int .i64 z5.2] ∧ Own w0.heap.size 48 4 FamilyPay.cells wz q z5.1 ∧ ∀ b, q.ownBlock = some b → w6.heap.size ≤ b), (41, fun u wz => Own w0.heap.size 48 4 FamilyPay.cells wz u z5.1 ∧ ∀ b, u.ownBlock = some b → w6.heap.size ≤ b), val 42 (.int .i64 z5.2), (12, fun u wz => Own w0.heap.size 48 4 FamilyPay.cells wz u z5.1 ∧ ∀ b, u.ownBlock = some b → w6.heap.size ≤ b), val 13 (.int .i64 z5.2)] noG (by kernel_rfl)
    ⟨Stable.val _ _ _, Stable.val _ _ _, Stable.val _ _ _, Stable.val _ _ _, fun _ _ _ hE ⟨q, ht, hO, hf⟩ => ⟨q, ht, hO.exn hE, hf⟩, fun _ _ _ hE ⟨q, ht, hO, hf⟩ => ⟨q, ht, hO.exn hE, hf⟩, fun _ _ _ hE ⟨hO, hf⟩ => ⟨hO.exn hE, hf⟩, Stable.val _ _ _, fun _ _ _ hE ⟨hO, hf⟩ => ⟨hO.exn hE, hf⟩, Stable.val _ _ _, trivial⟩
    ⟨fun ρz wz hE hA ⟨e0, _⟩ _ => core_val rfl rfl (o_move (e0.trans h0)),
     fun ρz wz hE hA ⟨e1, _⟩ _ => core_val rfl rfl (o_move (e1.trans h1)),
     fun ρz wz hE hA ⟨e2, _⟩ _ => core_val rfl rfl (o_move (e2.trans h2)),
     fun ρz wz hE hA ⟨e3, _⟩ _ => core_val rfl rfl (o_move (e3.trans h3)),
     fun ρz wz hE hA _ ⟨u0, u1, u2, u3, _⟩ => core_callR rfl (call_args4 u0 u1 u2 u3) cf_21 ((family_Payments_ok (Hg_0.exn (hA rfl)).no _ _ _ _ (H_d_.exn (hA rfl)).no (H_p_.exn (hA rfl)).no hz5).mono (fun e w1 ⟨v, he, hE1, q, hv, hO⟩ => ⟨v, he, hE1, q, hv, hO.base (Nat.le_trans hsz hE.size), fun b hb => Nat.le_trans hE.size (hO.lt hb).1⟩)),
     fun ρz wz hE hA _ ⟨⟨q4, ht4, hO4, hfr4⟩, _⟩ => core_copy rfl rfl (o_move rfl) ⟨q4, ht4, hO4, hfr4⟩,
     fun ρz wz hE hA _ ⟨⟨q5, ht5, hO5, hfr5⟩, _⟩ => core_copy rfl rfl (o_extract ht5 (by kernel_rfl)) ⟨hO5, hfr5⟩,
     fun ρz wz hE hA _ ⟨⟨q5, ht5, hO5, hfr5⟩, _⟩ => core_val rfl rfl (o_extract ht5 (by kernel_rfl)),
     fun ρz wz hE hA _ ⟨⟨hO6, hfr6⟩, _⟩ => core_copy rfl rfl (o_assign rfl) ⟨hO6, hfr6⟩,
     fun ρz wz hE hA _ ⟨u7, _⟩ => core_val rfl rfl (o_assign u7), trivial⟩ ?_
  intro ρ7 w7 hE hN hf hr
  have hN := hN rfl
  have h9 := (hr 9 rfl).trans h9
  have h10 := (hr 10 rfl).trans h10
  have h11 := (hr 11 rfl).trans h11
  obtain ⟨v12_, h12⟩ : ∃ v, ρ7 12 = v := ⟨_, rfl⟩
  have hq12 : (fun u wz => Own w0.heap.size 48 4 FamilyPay.cells wz u z5.1 ∧ ∀ b, u.ownBlock = some b → w6.heap.size ≤ b) (ρ7 12) w7 := hf 8 rfl
  rw [h12] at hq12
  obtain ⟨hq12, hfr12⟩ := hq12
  have h13 : ρ7 13 = .int .i64 z5.2 := hf 9 rfl
  have Hg_0_at0 := Hg_0
  have Hg_0 := Hg_0.exn hN
  have Hf10_at0 := Hf10
  have Hf10 := Hf10.exn hN
  have hW := hW.trans hN
  have Hf12 : RepSl FamilyPay.R noG w7 v12_ z5.1 := hq12.rep (fun _ _ h => h)
  obtain ⟨_, _, hs_Hf12, _, _⟩ := RepSl.shape Hf12
  have hsz := Nat.le_trans hsz hN.size
  refine WP.seq ?_
  refine WP.seq ?_
  refine WP.region mixed [[]] [[]] [[9]] [] []
    [val 43 (.bool c2)] noG (by kernel_rfl)
    ⟨Stable.val _ _ _, trivial⟩
    ⟨fun ρz wz hE hA ⟨e9, _⟩ _ => core_val rfl rfl (o_move (e9.trans h9)), trivial⟩ ?_
  intro ρ8 w8 hE hN hf hr
  have hN := hN rfl
  have h10 := (hr 10 rfl).trans h10
  have h11 := (hr 11 rfl).trans h11
  have h12 := (hr 12 rfl).trans h12
  have h13 := (hr 13 rfl).trans h13
  have h43 : ρ8 43 = .bool c2 := hf 0 rfl
  have Hg_0_at0 := Hg_0
  have Hg_0 := Hg_0.exn hN
  have Hf10_at0 := Hf10
  have Hf10 := Hf10.exn hN
  have Hf12_at0 := Hf12
  have Hf12 := Hf12.exn hN
  have hW := hW.trans hN
  have hsz := Nat.le_trans hsz hN.size
  refine WP.cond rfl h43 (fun hb => ?_) (fun hb => ?_)
  · have hF := (if_pos hb).symm.trans hF
    refine WP.seq ?_
    obtain ⟨z6, hz6, hF⟩ := obind hF
    refine WP.via (fun ρ w => ρ 8 = .bool ((((z6 && (z4.2 == 1)) && (z5.2 == 1)) && ((z4.1.length : Int) == 0)) && ((z5.1.length : Int) == 0)) ∧ GR [Value.int .i64 1, Value.int .i64 1] (gfr noG w0) w 0 ∧ Ext noG w0 w ∧ w0.heap.size ≤ w.heap.size) ?_ ?_
    · rcases Bool.eq_false_or_eq_true z6 with hd1 | hd1
      · rcases Bool.eq_false_or_eq_true (z4.2 == 1) with hd5 | hd5
        · rcases Bool.eq_false_or_eq_true (z5.2 == 1) with hd9 | hd9
          · rcases Bool.eq_false_or_eq_true ((z4.1.length : Int) == 0) with hd14 | hd14
            · refine WP.region mixed [[], [0], [1], [1, 2], [1, 3], [4], [5], [5, 6], [5, 7], [8], [9], [9, 10], [9, 11], [9, 12], [13], [14], [14, 15], [14, 16], [14, 17], [18]] [[], [0], [1], [1, 2], [1, 3], [4], [5], [5, 6], [5, 7], [8], [9], [9, 10], [9, 11], [9, 12], [13], [14], [14, 15], [14, 16], [14, 17], [18]] [[], [], [11], [], [], [], [13], [], [], [], [10], [], [], [], [], [12], [], [], [], []] [] []
                [val 44 (.bool z6), val 45 (.bool true), val 46 (.int .i64 z4.2), val 47 (.bool (z4.2 == 1)), val 48 (.bool (z4.2 == 1)), val 49 (.bool true), val 50 (.int .i64 z5.2), val 51 (.bool (z5.2 == 1)), val 52 (.bool (z5.2 == 1)), val 53 (.bool true), val 54 (v10_), val 55 (.int .i64 (z4.1.length : Int)), val 56 (.bool ((z4.1.length : Int) == 0)), val 57 (.bool ((z4.1.length : Int) == 0)), val 58 (.bool true), val 59 (v12_), val 60 (.int .i64 (z5.1.length : Int)), val 61 (.bool ((z5.1.length : Int) == 0)), val 62 (.bool ((z5.1.length : Int) == 0)), val 8 (.bool ((z5.1.length : Int) == 0))] noG (by kernel_rfl)
                ⟨Stable.val _ _ _, Stable.val _ _ _, Stable.val _ _ _, Stable.val _ _ _, Stable.val _ _ _, Stable.val _ _ _, Stable.val _ _ _, Stable.val _ _ _, Stable.val _ _ _, Stable.val _ _ _, Stable.val _ _ _, Stable.val _ _ _, Stable.val _ _ _, Stable.val _ _ _, Stable.val _ _ _, Stable.val _ _ _, Stable.val _ _ _, Stable.val _ _ _, Stable.val _ _ _, Stable.val _ _ _, trivial⟩
                ⟨fun ρz wz hE hA _ _ => core_call rfl call_args0 cf_16 (pensionlaw24_awake_ok (Hg_0.exn (hA rfl)).no   hz6),
     fun ρz wz hE hA _ ⟨u0, _⟩ => core_valE rfl rfl (congrArg Value.bool hd1) (o_move u0),
     fun ρz wz hE hA ⟨e11, _⟩ ⟨u1, _⟩ => gYes rfl u1 (core_val rfl rfl (o_move (e11.trans h11))),
     fun ρz wz hE hA _ ⟨u1, u2, _⟩ => gYes rfl u1 (core_val rfl rfl (o_eql u2 rfl rfl)),
     fun ρz wz hE hA _ ⟨u1, u3, _⟩ => core_val rfl rfl (o_pick_t u1 u3),
     fun ρz wz hE hA _ ⟨u4, _⟩ => core_valE rfl rfl (congrArg Value.bool hd5) (o_move u4),
     fun ρz wz hE hA ⟨e13, _⟩ ⟨u5, _⟩ => gYes rfl u5 (core_val rfl rfl (o_move (e13.trans h13))),
     fun ρz wz hE hA _ ⟨u5, u6, _⟩ => gYes rfl u5 (core_val rfl rfl (o_eql u6 rfl rfl)),
     fun ρz wz hE hA _ ⟨u5, u7, _⟩ => core_val rfl rfl (o_pick_t u5 u7),
     fun ρz wz hE hA _ ⟨u8, _⟩ => core_valE rfl rfl (congrArg Value.bool hd9) (o_move u8),
     fun ρz wz hE hA ⟨e10, _⟩ ⟨u9, _⟩ => gYes rfl u9 (core_val rfl rfl (o_move (e10.trans h10))),
     fun ρz wz hE hA _ ⟨u9, u10, _⟩ => gYes rfl u9 (core_val rfl rfl (o_len (u10.trans hs_Hf10) len_23)),
     fun ρz wz hE hA _ ⟨u9, u11, _⟩ => gYes rfl u9 (core_val rfl rfl (o_eql u11 rfl rfl)),
     fun ρz wz hE hA _ ⟨u9, u12, _⟩ => core_val rfl rfl (o_pick_t u9 u12),
     fun ρz wz hE hA _ ⟨u13, _⟩ => core_valE rfl rfl (congrArg Value.bool hd14) (o_move u13),
     fun ρz wz hE hA ⟨e12, _⟩ ⟨u14, _⟩ => gYes rfl u14 (core_val rfl rfl (o_move (e12.trans h12))),
     fun ρz wz hE hA _ ⟨u14, u15, _⟩ => gYes rfl u14 (core_val rfl rfl (o_len (u15.trans hs_Hf12) len_38)),
     fun ρz wz hE hA _ ⟨u14, u16, _⟩ => gYes rfl u14 (core_val rfl rfl (o_eql u16 rfl rfl)),
     fun ρz wz hE hA _ ⟨u14, u17, _⟩ => core_val rfl rfl (o_pick_t u14 u17),
     fun ρz wz hE hA _ ⟨u18, _⟩ => core_val rfl rfl (o_assign u18), trivial⟩ ?_
              intro ρ10 w10 hE hN hf hr
              have hN := hN rfl
              have h8 : ρ10 8 = .bool ((z5.1.length : Int) == 0) := hf 19 rfl
              have Hg_0_at0 := Hg_0
              have Hg_0 := Hg_0.exn hN
              have hW := hW.trans hN
              have hsz := Nat.le_trans hsz hN.size
              exact ⟨(h8.trans (congrArg Value.bool (by simp [hd1, hd5, hd9, hd14]))), Hg_0, hW, hsz⟩
            · refine WP.region mixed [[], [0], [1], [1, 2], [1, 3], [4], [5], [5, 6], [5, 7], [8], [9], [9, 10], [9, 11], [9, 12], [13], [14], [14], [14], [14], [18]] [[], [0], [1], [1, 2], [1, 3], [4], [5], [5, 6], [5, 7], [8], [9], [9, 10], [9, 11], [9, 12], [13], [14], [14], [14], [14], [18]] [[], [], [11], [], [], [], [13], [], [], [], [10], [], [], [], [], [], [], [], [], []] [] []
                [val 44 (.bool z6), val 45 (.bool true), val 46 (.int .i64 z4.2), val 47 (.bool (z4.2 == 1)), val 48 (.bool (z4.2 == 1)), val 49 (.bool true), val 50 (.int .i64 z5.2), val 51 (.bool (z5.2 == 1)), val 52 (.bool (z5.2 == 1)), val 53 (.bool true), val 54 (v10_), val 55 (.int .i64 (z4.1.length : Int)), val 56 (.bool ((z4.1.length : Int) == 0)), val 57 (.bool ((z4.1.length : Int) == 0)), val 58 (.bool false), anyF 59, anyF 60, anyF 61, val 62 (.bool false), val 8 (.bool false)] noG (by kernel_rfl)
                ⟨Stable.val _ _ _, Stable.val _ _ _, Stable.val _ _ _, Stable.val _ _ _, Stable.val _ _ _, Stable.val _ _ _, Stable.val _ _ _, Stable.val _ _ _, Stable.val _ _ _, Stable.val _ _ _, Stable.val _ _ _, Stable.val _ _ _, Stable.val _ _ _, Stable.val _ _ _, Stable.val _ _ _, Stable.any _ _, Stable.any _ _, Stable.any _ _, Stable.val _ _ _, Stable.val _ _ _, trivial⟩
                ⟨fun ρz wz hE hA _ _ => core_call rfl call_args0 cf_16 (pensionlaw24_awake_ok (Hg_0.exn (hA rfl)).no   hz6),
     fun ρz wz hE hA _ ⟨u0, _⟩ => core_valE rfl rfl (congrArg Value.bool hd1) (o_move u0),
     fun ρz wz hE hA ⟨e11, _⟩ ⟨u1, _⟩ => gYes rfl u1 (core_val rfl rfl (o_move (e11.trans h11))),
     fun ρz wz hE hA _ ⟨u1, u2, _⟩ => gYes rfl u1 (core_val rfl rfl (o_eql u2 rfl rfl)),
     fun ρz wz hE hA _ ⟨u1, u3, _⟩ => core_val rfl rfl (o_pick_t u1 u3),
     fun ρz wz hE hA _ ⟨u4, _⟩ => core_valE rfl rfl (congrArg Value.bool hd5) (o_move u4),
     fun ρz wz hE hA ⟨e13, _⟩ ⟨u5, _⟩ => gYes rfl u5 (core_val rfl rfl (o_move (e13.trans h13))),
     fun ρz wz hE hA _ ⟨u5, u6, _⟩ => gYes rfl u5 (core_val rfl rfl (o_eql u6 rfl rfl)),
     fun ρz wz hE hA _ ⟨u5, u7, _⟩ => core_val rfl rfl (o_pick_t u5 u7),
     fun ρz wz hE hA _ ⟨u8, _⟩ => core_valE rfl rfl (congrArg Value.bool hd9) (o_move u8),
     fun ρz wz hE hA ⟨e10, _⟩ ⟨u9, _⟩ => gYes rfl u9 (core_val rfl rfl (o_move (e10.trans h10))),
     fun ρz wz hE hA _ ⟨u9, u10, _⟩ => gYes rfl u9 (core_val rfl rfl (o_len (u10.trans hs_Hf10) len_23)),
     fun ρz wz hE hA _ ⟨u9, u11, _⟩ => gYes rfl u9 (core_val rfl rfl (o_eql u11 rfl rfl)),
     fun ρz wz hE hA _ ⟨u9, u12, _⟩ => core_val rfl rfl (o_pick_t u9 u12),
     fun ρz wz hE hA _ ⟨u13, _⟩ => core_valE rfl rfl (congrArg Value.bool hd14) (o_move u13),
     fun _ _ _ _ _ ⟨u14, _⟩ => gNo rfl u14 rfl trivial,
     fun _ _ _ _ _ ⟨u14, _⟩ => gNo rfl u14 rfl trivial,
     fun _ _ _ _ _ ⟨u14, _⟩ => gNo rfl u14 rfl trivial,
     fun ρz wz hE hA _ ⟨u14, _⟩ => core_val rfl rfl (o_pick_f u14 rfl),
     fun ρz wz hE hA _ ⟨u18, _⟩ => core_val rfl rfl (o_assign u18), trivial⟩ ?_
              intro ρ11 w11 hE hN hf hr
              have hN := hN rfl
              have h8 : ρ11 8 = .bool false := hf 19 rfl
              have Hg_0_at0 := Hg_0
              have Hg_0 := Hg_0.exn hN
              have hW := hW.trans hN
              have hsz := Nat.le_trans hsz hN.size
              exact ⟨(h8.trans (congrArg Value.bool (by simp [hd1, hd5, hd9, hd14]))), Hg_0, hW, hsz⟩
          · refine WP.region mixed [[], [0], [1], [1, 2], [1, 3], [4], [5], [5, 6], [5, 7], [8], [9], [9], [9], [9], [13], [14], [14], [14], [14], [18]] [[], [0], [1], [1, 2], [1, 3], [4], [5], [5, 6], [5, 7], [8], [9], [9], [9], [9], [13], [14], [14], [14], [14], [18]] [[], [], [11], [], [], [], [13], [], [], [], [], [], [], [], [], [], [], [], [], []] [] []
              [val 44 (.bool z6), val 45 (.bool true), val 46 (.int .i64 z4.2), val 47 (.bool (z4.2 == 1)), val 48 (.bool (z4.2 == 1)), val 49 (.bool true), val 50 (.int .i64 z5.2), val 51 (.bool (z5.2 == 1)), val 52 (.bool (z5.2 == 1)), val 53 (.bool false), anyF 54, anyF 55, anyF 56, val 57 (.bool false), val 58 (.bool false), anyF 59, anyF 60, anyF 61, val 62 (.bool false), val 8 (.bool false)] noG (by kernel_rfl)
              ⟨Stable.val _ _ _, Stable.val _ _ _, Stable.val _ _ _, Stable.val _ _ _, Stable.val _ _ _, Stable.val _ _ _, Stable.val _ _ _, Stable.val _ _ _, Stable.val _ _ _, Stable.val _ _ _, Stable.any _ _, Stable.any _ _, Stable.any _ _, Stable.val _ _ _, Stable.val _ _ _, Stable.any _ _, Stable.any _ _, Stable.any _ _, Stable.val _ _ _, Stable.val _ _ _, trivial⟩
              ⟨fun ρz wz hE hA _ _ => core_call rfl call_args0 cf_16 (pensionlaw24_awake_ok (Hg_0.exn (hA rfl)).no   hz6),
     fun ρz wz hE hA _ ⟨u0, _⟩ => core_valE rfl rfl (congrArg Value.bool hd1) (o_move u0),
     fun ρz wz hE hA ⟨e11, _⟩ ⟨u1, _⟩ => gYes rfl u1 (core_val rfl rfl (o_move (e11.trans h11))),
     fun ρz wz hE hA _ ⟨u1, u2, _⟩ => gYes rfl u1 (core_val rfl rfl (o_eql u2 rfl rfl)),
     fun ρz wz hE hA _ ⟨u1, u3, _⟩ => core_val rfl rfl (o_pick_t u1 u3),
     fun ρz wz hE hA _ ⟨u4, _⟩ => core_valE rfl rfl (congrArg Value.bool hd5) (o_move u4),
     fun ρz wz hE hA ⟨e13, _⟩ ⟨u5, _⟩ => gYes rfl u5 (core_val rfl rfl (o_move (e13.trans h13))),
     fun ρz wz hE hA _ ⟨u5, u6, _⟩ => gYes rfl u5 (core_val rfl rfl (o_eql u6 rfl rfl)),
     fun ρz wz hE hA _ ⟨u5, u7, _⟩ => core_val rfl rfl (o_pick_t u5 u7),
     fun ρz wz hE hA _ ⟨u8, _⟩ => core_valE rfl rfl (congrArg Value.bool hd9) (o_move u8),
     fun _ _ _ _ _ ⟨u9, _⟩ => gNo rfl u9 rfl trivial,
     fun _ _ _ _ _ ⟨u9, _⟩ => gNo rfl u9 rfl trivial,
     fun _ _ _ _ _ ⟨u9, _⟩ => gNo rfl u9 rfl trivial,
     fun ρz wz hE hA _ ⟨u9, _⟩ => core_val rfl rfl (o_pick_f u9 rfl),
     fun ρz wz hE hA _ ⟨u13, _⟩ => core_val rfl rfl (o_move u13),
     fun _ _ _ _ _ ⟨u14, _⟩ => gNo rfl u14 rfl trivial,
     fun _ _ _ _ _ ⟨u14, _⟩ => gNo rfl u14 rfl trivial,
     fun _ _ _ _ _ ⟨u14, _⟩ => gNo rfl u14 rfl trivial,
     fun ρz wz hE hA _ ⟨u14, _⟩ => core_val rfl rfl (o_pick_f u14 rfl),
     fun ρz wz hE hA _ ⟨u18, _⟩ => core_val rfl rfl (o_assign u18), trivial⟩ ?_
            intro ρ12 w12 hE hN hf hr
            have hN := hN rfl
            have h8 : ρ12 8 = .bool false := hf 19 rfl
            have Hg_0_at0 := Hg_0
            have Hg_0 := Hg_0.exn hN
            have hW := hW.trans hN
            have hsz := Nat.le_trans hsz hN.size
            exact ⟨(h8.trans (congrArg Value.bool (by simp [hd1, hd5, hd9]))), Hg_0, hW, hsz⟩
        · refine WP.region mixed [[], [0], [1], [1, 2], [1, 3], [4], [5], [5], [5], [8], [9], [9], [9], [9], [13], [14], [14], [14], [14], [18]] [[], [0], [1], [1, 2], [1, 3], [4], [5], [5], [5], [8], [9], [9], [9], [9], [13], [14], [14], [14], [14], [18]] [[], [], [11], [], [], [], [], [], [], [], [], [], [], [], [], [], [], [], [], []] [] []
            [val 44 (.bool z6), val 45 (.bool true), val 46 (.int .i64 z4.2), val 47 (.bool (z4.2 == 1)), val 48 (.bool (z4.2 == 1)), val 49 (.bool false), anyF 50, anyF 51, val 52 (.bool false), val 53 (.bool false), anyF 54, anyF 55, anyF 56, val 57 (.bool false), val 58 (.bool false), anyF 59, anyF 60, anyF 61, val 62 (.bool false), val 8 (.bool false)] noG (by kernel_rfl)
            ⟨Stable.val _ _ _, Stable.val _ _ _, Stable.val _ _ _, Stable.val _ _ _, Stable.val _ _ _, Stable.val _ _ _, Stable.any _ _, Stable.any _ _, Stable.val _ _ _, Stable.val _ _ _, Stable.any _ _, Stable.any _ _, Stable.any _ _, Stable.val _ _ _, Stable.val _ _ _, Stable.any _ _, Stable.any _ _, Stable.any _ _, Stable.val _ _ _, Stable.val _ _ _, trivial⟩
            ⟨fun ρz wz hE hA _ _ => core_call rfl call_args0 cf_16 (pensionlaw24_awake_ok (Hg_0.exn (hA rfl)).no   hz6),
     fun ρz wz hE hA _ ⟨u0, _⟩ => core_valE rfl rfl (congrArg Value.bool hd1) (o_move u0),
     fun ρz wz hE hA ⟨e11, _⟩ ⟨u1, _⟩ => gYes rfl u1 (core_val rfl rfl (o_move (e11.trans h11))),
     fun ρz wz hE hA _ ⟨u1, u2, _⟩ => gYes rfl u1 (core_val rfl rfl (o_eql u2 rfl rfl)),
     fun ρz wz hE hA _ ⟨u1, u3, _⟩ => core_val rfl rfl (o_pick_t u1 u3),
     fun ρz wz hE hA _ ⟨u4, _⟩ => core_valE rfl rfl (congrArg Value.bool hd5) (o_move u4),
     fun _ _ _ _ _ ⟨u5, _⟩ => gNo rfl u5 rfl trivial,
     fun _ _ _ _ _ ⟨u5, _⟩ => gNo rfl u5 rfl trivial,
     fun ρz wz hE hA _ ⟨u5, _⟩ => core_val rfl rfl (o_pick_f u5 rfl),
     fun ρz wz hE hA _ ⟨u8, _⟩ => core_val rfl rfl (o_move u8),
     fun _ _ _ _ _ ⟨u9, _⟩ => gNo rfl u9 rfl trivial,
     fun _ _ _ _ _ ⟨u9, _⟩ => gNo rfl u9 rfl trivial,
     fun _ _ _ _ _ ⟨u9, _⟩ => gNo rfl u9 rfl trivial,
     fun ρz wz hE hA _ ⟨u9, _⟩ => core_val rfl rfl (o_pick_f u9 rfl),
     fun ρz wz hE hA _ ⟨u13, _⟩ => core_val rfl rfl (o_move u13),
     fun _ _ _ _ _ ⟨u14, _⟩ => gNo rfl u14 rfl trivial,
     fun _ _ _ _ _ ⟨u14, _⟩ => gNo rfl u14 rfl trivial,
     fun _ _ _ _ _ ⟨u14, _⟩ => gNo rfl u14 rfl trivial,
     fun ρz wz hE hA _ ⟨u14, _⟩ => core_val rfl rfl (o_pick_f u14 rfl),
     fun ρz wz hE hA _ ⟨u18, _⟩ => core_val rfl rfl (o_assign u18), trivial⟩ ?_
          intro ρ13 w13 hE hN hf hr
          have hN := hN rfl
          have h8 : ρ13 8 = .bool false := hf 19 rfl
          have Hg_0_at0 := Hg_0
          have Hg_0 := Hg_0.exn hN
          have hW := hW.trans hN
          have hsz := Nat.le_trans hsz hN.size
          exact ⟨(h8.trans (congrArg Value.bool (by simp [hd1, hd5]))), Hg_0, hW, hsz⟩
      · refine WP.region mixed [[], [0], [1], [1], [1], [4], [5], [5], [5], [8], [9], [9], [9], [9], [13], [14], [14], [14], [14], [18]] [[], [0], [1], [1], [1], [4], [5], [5], [5], [8], [9], [9], [9], [9], [13], [14], [14], [14], [14], [18]] [[], [], [], [], [], [], [], [], [], [], [], [], [], [], [], [], [], [], [], []] [] []
          [val 44 (.bool z6), val 45 (.bool false), anyF 46, anyF 47, val 48 (.bool false), val 49 (.bool false), anyF 50, anyF 51, val 52 (.bool false), val 53 (.bool false), anyF 54, anyF 55, anyF 56, val 57 (.bool false), val 58 (.bool false), anyF 59, anyF 60, anyF 61, val 62 (.bool false), val 8 (.bool false)] noG (by kernel_rfl)
          ⟨Stable.val _ _ _, Stable.val _ _ _, Stable.any _ _, Stable.any _ _, Stable.val _ _ _, Stable.val _ _ _, Stable.any _ _, Stable.any _ _, Stable.val _ _ _, Stable.val _ _ _, Stable.any _ _, Stable.any _ _, Stable.any _ _, Stable.val _ _ _, Stable.val _ _ _, Stable.any _ _, Stable.any _ _, Stable.any _ _, Stable.val _ _ _, Stable.val _ _ _, trivial⟩
          ⟨fun ρz wz hE hA _ _ => core_call rfl call_args0 cf_16 (pensionlaw24_awake_ok (Hg_0.exn (hA rfl)).no   hz6),
     fun ρz wz hE hA _ ⟨u0, _⟩ => core_valE rfl rfl (congrArg Value.bool hd1) (o_move u0),
     fun _ _ _ _ _ ⟨u1, _⟩ => gNo rfl u1 rfl trivial,
     fun _ _ _ _ _ ⟨u1, _⟩ => gNo rfl u1 rfl trivial,
     fun ρz wz hE hA _ ⟨u1, _⟩ => core_val rfl rfl (o_pick_f u1 rfl),
     fun ρz wz hE hA _ ⟨u4, _⟩ => core_val rfl rfl (o_move u4),
     fun _ _ _ _ _ ⟨u5, _⟩ => gNo rfl u5 rfl trivial,
     fun _ _ _ _ _ ⟨u5, _⟩ => gNo rfl u5 rfl trivial,
     fun ρz wz hE hA _ ⟨u5, _⟩ => core_val rfl rfl (o_pick_f u5 rfl),
     fun ρz wz hE hA _ ⟨u8, _⟩ => core_val rfl rfl (o_move u8),
     fun _ _ _ _ _ ⟨u9, _⟩ => gNo rfl u9 rfl trivial,
     fun _ _ _ _ _ ⟨u9, _⟩ => gNo rfl u9 rfl trivial,
     fun _ _ _ _ _ ⟨u9, _⟩ => gNo rfl u9 rfl trivial,
     fun ρz wz hE hA _ ⟨u9, _⟩ => core_val rfl rfl (o_pick_f u9 rfl),
     fun ρz wz hE hA _ ⟨u13, _⟩ => core_val rfl rfl (o_move u13),
     fun _ _ _ _ _ ⟨u14, _⟩ => gNo rfl u14 rfl trivial,
     fun _ _ _ _ _ ⟨u14, _⟩ => gNo rfl u14 rfl trivial,
     fun _ _ _ _ _ ⟨u14, _⟩ => gNo rfl u14 rfl trivial,
     fun ρz wz hE hA _ ⟨u14, _⟩ => core_val rfl rfl (o_pick_f u14 rfl),
     fun ρz wz hE hA _ ⟨u18, _⟩ => core_val rfl rfl (o_assign u18), trivial⟩ ?_
        intro ρ14 w14 hE hN hf hr
        have hN := hN rfl
        have h8 : ρ14 8 = .bool false := hf 19 rfl
        have Hg_0_at0 := Hg_0
        have Hg_0 := Hg_0.exn hN
        have hW := hW.trans hN
        have hsz := Nat.le_trans hsz hN.size
        exact ⟨(h8.trans (congrArg Value.bool (by simp [hd1]))), Hg_0, hW, hsz⟩
    rintro ρ9 w9 ⟨h8, Hg_0, hW, hsz⟩
    refine WP.ret ?_
    show retQ Tryd.prog 72 Tryd.f4 (fun v w1 => v = .bool r ∧ Ext noG w0 w1) .ret ρ9 w9
    obtain rfl := Option.some.inj hF
    exact res1 rfl (by decide) h8 ⟨rfl, hW⟩
  · have hF := (if_neg (Bool.eq_false_iff.1 hb)).symm.trans hF
    refine WP.skip ?_
    refine WP.seq ?_
    obtain ⟨z7, hz7, hF⟩ := obind hF
    refine WP.via (fun ρ w => ρ 8 = .bool ((z7 && (z4.2 == 0)) && (z5.2 == 0)) ∧ GR [Value.int .i64 1, Value.int .i64 1] (gfr noG w0) w 0 ∧ Ext noG w0 w ∧ w0.heap.size ≤ w.heap.size) ?_ ?_
    · rcases Bool.eq_false_or_eq_true z7 with hd1 | hd1
      · rcases Bool.eq_false_or_eq_true (z4.2 == 0) with hd5 | hd5
        · refine WP.region mixed [[], [0], [1], [1, 2], [1, 3], [4], [5], [5, 6], [5, 7], [8]] [[], [0], [1], [1, 2], [1, 3], [4], [5], [5, 6], [5, 7], [8]] [[], [], [11], [], [], [], [13], [], [], []] [] []
            [val 63 (.bool z7), val 64 (.bool true), val 65 (.int .i64 z4.2), val 66 (.bool (z4.2 == 0)), val 67 (.bool (z4.2 == 0)), val 68 (.bool true), val 69 (.int .i64 z5.2), val 70 (.bool (z5.2 == 0)), val 71 (.bool (z5.2 == 0)), val 8 (.bool (z5.2 == 0))] noG (by kernel_rfl)
            ⟨Stable.val _ _ _, Stable.val _ _ _, Stable.val _ _ _, Stable.val _ _ _, Stable.val _ _ _, Stable.val _ _ _, Stable.val _ _ _, Stable.val _ _ _, Stable.val _ _ _, Stable.val _ _ _, trivial⟩
            ⟨fun ρz wz hE hA _ _ => core_call rfl call_args0 cf_16 (pensionlaw24_awake_ok (Hg_0.exn (hA rfl)).no   hz7),
     fun ρz wz hE hA _ ⟨u0, _⟩ => core_valE rfl rfl (congrArg Value.bool hd1) (o_move u0),
     fun ρz wz hE hA ⟨e11, _⟩ ⟨u1, _⟩ => gYes rfl u1 (core_val rfl rfl (o_move (e11.trans h11))),
     fun ρz wz hE hA _ ⟨u1, u2, _⟩ => gYes rfl u1 (core_val rfl rfl (o_eql u2 rfl rfl)),
     fun ρz wz hE hA _ ⟨u1, u3, _⟩ => core_val rfl rfl (o_pick_t u1 u3),
     fun ρz wz hE hA _ ⟨u4, _⟩ => core_valE rfl rfl (congrArg Value.bool hd5) (o_move u4),
     fun ρz wz hE hA ⟨e13, _⟩ ⟨u5, _⟩ => gYes rfl u5 (core_val rfl rfl (o_move (e13.trans h13))),
     fun ρz wz hE hA _ ⟨u5, u6, _⟩ => gYes rfl u5 (core_val rfl rfl (o_eql u6 rfl rfl)),
     fun ρz wz hE hA _ ⟨u5, u7, _⟩ => core_val rfl rfl (o_pick_t u5 u7),
     fun ρz wz hE hA _ ⟨u8, _⟩ => core_val rfl rfl (o_assign u8), trivial⟩ ?_
          intro ρ16 w16 hE hN hf hr
          have hN := hN rfl
          have h8 : ρ16 8 = .bool (z5.2 == 0) := hf 9 rfl
          have Hg_0_at0 := Hg_0
          have Hg_0 := Hg_0.exn hN
          have hW := hW.trans hN
          have hsz := Nat.le_trans hsz hN.size
          exact ⟨(h8.trans (congrArg Value.bool (by simp [hd1, hd5]))), Hg_0, hW, hsz⟩
        · refine WP.region mixed [[], [0], [1], [1, 2], [1, 3], [4], [5], [5], [5], [8]] [[], [0], [1], [1, 2], [1, 3], [4], [5], [5], [5], [8]] [[], [], [11], [], [], [], [], [], [], []] [] []
            [val 63 (.bool z7), val 64 (.bool true), val 65 (.int .i64 z4.2), val 66 (.bool (z4.2 == 0)), val 67 (.bool (z4.2 == 0)), val 68 (.bool false), anyF 69, anyF 70, val 71 (.bool false), val 8 (.bool false)] noG (by kernel_rfl)
            ⟨Stable.val _ _ _, Stable.val _ _ _, Stable.val _ _ _, Stable.val _ _ _, Stable.val _ _ _, Stable.val _ _ _, Stable.any _ _, Stable.any _ _, Stable.val _ _ _, Stable.val _ _ _, trivial⟩
            ⟨fun ρz wz hE hA _ _ => core_call rfl call_args0 cf_16 (pensionlaw24_awake_ok (Hg_0.exn (hA rfl)).no   hz7),
     fun ρz wz hE hA _ ⟨u0, _⟩ => core_valE rfl rfl (congrArg Value.bool hd1) (o_move u0),
     fun ρz wz hE hA ⟨e11, _⟩ ⟨u1, _⟩ => gYes rfl u1 (core_val rfl rfl (o_move (e11.trans h11))),
     fun ρz wz hE hA _ ⟨u1, u2, _⟩ => gYes rfl u1 (core_val rfl rfl (o_eql u2 rfl rfl)),
     fun ρz wz hE hA _ ⟨u1, u3, _⟩ => core_val rfl rfl (o_pick_t u1 u3),
     fun ρz wz hE hA _ ⟨u4, _⟩ => core_valE rfl rfl (congrArg Value.bool hd5) (o_move u4),
     fun _ _ _ _ _ ⟨u5, _⟩ => gNo rfl u5 rfl trivial,
     fun _ _ _ _ _ ⟨u5, _⟩ => gNo rfl u5 rfl trivial,
     fun ρz wz hE hA _ ⟨u5, _⟩ => core_val rfl rfl (o_pick_f u5 rfl),
     fun ρz wz hE hA _ ⟨u8, _⟩ => core_val rfl rfl (o_assign u8), trivial⟩ ?_
          intro ρ17 w17 hE hN hf hr
          have hN := hN rfl
          have h8 : ρ17 8 = .bool false := hf 9 rfl
          have Hg_0_at0 := Hg_0
          have Hg_0 := Hg_0.exn hN
          have hW := hW.trans hN
          have hsz := Nat.le_trans hsz hN.size
          exact ⟨(h8.trans (congrArg Value.bool (by simp [hd1, hd5]))), Hg_0, hW, hsz⟩
      · refine WP.region mixed [[], [0], [1], [1], [1], [4], [5], [5], [5], [8]] [[], [0], [1], [1], [1], [4], [5], [5], [5], [8]] [[], [], [], [], [], [], [], [], [], []] [] []
          [val 63 (.bool z7), val 64 (.bool false), anyF 65, anyF 66, val 67 (.bool false), val 68 (.bool false), anyF 69, anyF 70, val 71 (.bool false), val 8 (.bool false)] noG (by kernel_rfl)
          ⟨Stable.val _ _ _, Stable.val _ _ _, Stable.any _ _, Stable.any _ _, Stable.val _ _ _, Stable.val _ _ _, Stable.any _ _, Stable.any _ _, Stable.val _ _ _, Stable.val _ _ _, trivial⟩
          ⟨fun ρz wz hE hA _ _ => core_call rfl call_args0 cf_16 (pensionlaw24_awake_ok (Hg_0.exn (hA rfl)).no   hz7),
     fun ρz wz hE hA _ ⟨u0, _⟩ => core_valE rfl rfl (congrArg Value.bool hd1) (o_move u0),
     fun _ _ _ _ _ ⟨u1, _⟩ => gNo rfl u1 rfl trivial,
     fun _ _ _ _ _ ⟨u1, _⟩ => gNo rfl u1 rfl trivial,
     fun ρz wz hE hA _ ⟨u1, _⟩ => core_val rfl rfl (o_pick_f u1 rfl),
     fun ρz wz hE hA _ ⟨u4, _⟩ => core_val rfl rfl (o_move u4),
     fun _ _ _ _ _ ⟨u5, _⟩ => gNo rfl u5 rfl trivial,
     fun _ _ _ _ _ ⟨u5, _⟩ => gNo rfl u5 rfl trivial,
     fun ρz wz hE hA _ ⟨u5, _⟩ => core_val rfl rfl (o_pick_f u5 rfl),
     fun ρz wz hE hA _ ⟨u8, _⟩ => core_val rfl rfl (o_assign u8), trivial⟩ ?_
        intro ρ18 w18 hE hN hf hr
        have hN := hN rfl
        have h8 : ρ18 8 = .bool false := hf 9 rfl
        have Hg_0_at0 := Hg_0
        have Hg_0 := Hg_0.exn hN
        have hW := hW.trans hN
        have hsz := Nat.le_trans hsz hN.size
        exact ⟨(h8.trans (congrArg Value.bool (by simp [hd1]))), Hg_0, hW, hsz⟩
    rintro ρ15 w15 ⟨h8, Hg_0, hW, hsz⟩
    refine WP.ret ?_
    show retQ Tryd.prog 72 Tryd.f4 (fun v w1 => v = .bool r ∧ Ext noG w0 w1) .ret ρ15 w15
    obtain rfl := Option.some.inj hF
    exact res1 rfl (by decide) h8 ⟨rfl, hW⟩
end Go.PL
