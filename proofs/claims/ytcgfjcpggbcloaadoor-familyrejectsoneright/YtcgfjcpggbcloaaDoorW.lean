/- The translated code computes the Lean functions (printed by a program). -/
import Derived.Test.YtcgfjcpggbcloaaDoorW3
set_option linter.unusedVariables false
set_option linter.unusedSimpArgs false
set_option maxRecDepth 10000
namespace Go.PL
open Go Go.Proofs

set_option maxHeartbeats 4000000 in
theorem pensionlaw24_awake_ok {w0 : World} (Hg_0 : GR [Value.int .i64 1, Value.int .i64 1] noG w0 0) {r : Bool} (hF : pensionlaw24_awake = some r) :
    Calls Tryd.prog 16 #[] w0 fun e w1 => e = .returned (.bool r) ∧ Ext noG w0 w1 := by
  refine (Calls.start (P := Tryd.prog) (args := []) (R := fun v w1 => v = .bool r ∧ Ext noG w0 w1) (n := 56) (w := w0) Tryd.func16 rfl rfl (Nat.le_of_ble_eq_true rfl) (fun ρ hargs => ?_)).mono (fun e w1 ⟨v, he, hv, hE⟩ => ⟨hv ▸ he, hE⟩)
  have hW := Ext.refl noG w0
  have hsz := Nat.le_refl w0.heap.size
  have Hg_0 := Hg_0.start
  rw [pensionlaw24_awake] at hF
  refine WP.seq ?_
  refine WP.region mixed [[]] [[]] [[]] [] []
    [val 0 (.bool false)] noG (by kernel_rfl)
    ⟨Stable.val _ _ _, trivial⟩
    ⟨fun ρz wz hE hA _ _ => core_val rfl rfl (o_assign rfl), trivial⟩ ?_
  intro ρ1 w1 hE hN hf hr
  have hN := hN rfl
  have Hg_0_at0 := Hg_0
  have Hg_0 := Hg_0.exn hN
  have hW := hW.trans hN
  have hsz := Nat.le_trans hsz hN.size
  refine WP.seq ?_
  refine WP.region mixed [[], [], [0, 1], [2]] [[], [], [0, 1], [2]] [[], [], [], []] [] []
    [val 6 (Right.val (⟨1, 3, 1, 130⟩ : Right)), val 7 (Right.val (⟨2, 1, 1, 100⟩ : Right)), (8, fun u wz => ∃ b, u = .slice (some ⟨b, 0, none⟩) 2 2 ∧ w1.heap.size ≤ b ∧ Mb wz b 43 (([(⟨1, 3, 1, 130⟩ : Right), (⟨2, 1, 1, 100⟩ : Right)]).flatMap Right.cells)), (1, fun u wz => ∃ b, u = .slice (some ⟨b, 0, none⟩) 2 2 ∧ w1.heap.size ≤ b ∧ Mb wz b 43 (([(⟨1, 3, 1, 130⟩ : Right), (⟨2, 1, 1, 100⟩ : Right)]).flatMap Right.cells))] noG (by kernel_rfl)
    ⟨Stable.val _ _ _, Stable.val _ _ _, fun _ _ _ hE ⟨b, hz, hs, hM⟩ => ⟨b, hz, hs, hM.exn hE⟩, fun _ _ _ hE ⟨b, hz, hs, hM⟩ => ⟨b, hz, hs, hM.exn hE⟩, trivial⟩
    ⟨fun ρz wz hE hA _ _ => core_val rfl rfl (o_build (build_parts4 rfl rfl rfl rfl) (bd_43_0_1_2_3 _ _ _ _ _)),
     fun ρz wz hE hA _ _ => core_val rfl rfl (o_build (build_parts4 rfl rfl rfl rfl) (bd_43_0_1_2_3 _ _ _ _ _)),
     fun ρz wz hE hA _ ⟨u0, u1, _⟩ => core_slice rfl rfl hE (o_buildSlice (build_parts2 u0 u1) (bs_24_2 _ _ _)),
     fun ρz wz hE hA _ ⟨⟨bz2, hz2, hge2, hM2⟩, _⟩ => core_copy rfl rfl (o_assign rfl) ⟨bz2, hz2, hge2, hM2⟩, trivial⟩ ?_
  intro ρ2 w2 hE hN hf hr
  have hN := hN rfl
  obtain ⟨bn1, h1, hgn1, hMn1⟩ : ∃ b, ρ2 1 = .slice (some ⟨b, 0, none⟩) 2 2 ∧ w1.heap.size ≤ b ∧ Mb w2 b 43 (([(⟨1, 3, 1, 130⟩ : Right), (⟨2, 1, 1, 100⟩ : Right)]).flatMap Right.cells) := hf 3 rfl
  obtain ⟨v1_, hv1⟩ : ∃ v : Value, v = .slice (some ⟨bn1, 0, none⟩) 2 2 := ⟨_, rfl⟩
  rw [← hv1] at h1
  have hq1 : Own w0.heap.size 43 4 Right.cells w2 v1_ [(⟨1, 3, 1, 130⟩ : Right), (⟨2, 1, 1, 100⟩ : Right)] := hv1 ▸ hMn1.own (Nat.le_trans hsz hgn1) rfl (Nat.le_of_ble_eq_true rfl) (fun _ => rfl)
  have hfr1 : ∀ b, v1_.ownBlock = some b → w1.heap.size ≤ b := fun b hb => by rw [hv1] at hb; simp only [Value.ownBlock, Option.some.injEq] at hb; omega
  have Hg_0_at0 := Hg_0
  have Hg_0 := Hg_0.exn hN
  have hW := hW.trans hN
  have Hf1 : RepSl Right.R noG w2 v1_ [(⟨1, 3, 1, 130⟩ : Right), (⟨2, 1, 1, 100⟩ : Right)] := hq1.rep (fun _ _ h => h)
  obtain ⟨_, _, hs_Hf1, _, _⟩ := RepSl.shape Hf1
  have hsz := Nat.le_trans hsz hN.size
  refine WP.seq ?_
  obtain ⟨z, hz, hF⟩ := obind hF
  refine WP.region mixed [[], [0], [1], [2], [2], [3], [4]] [[], [0], [1], [2], [2], [3], [4]] [[1], [], [], [], [], [], []] [] []
    [val 10 (v1_), (11, fun u wz => ∃ q : Value, u = .tuple #[q, .int .i64 z.2] ∧ Own w0.heap.size 3 1 (fun x : Int => [Value.int .i64 x]) wz q z.1 ∧ ∀ b, q.ownBlock = some b → w2.heap.size ≤ b), (9, fun u wz => ∃ q : Value, u = .tuple #[q, .int .i64 z.2] ∧ Own w0.heap.size 3 1 (fun x : Int => [Value.int .i64 x]) wz q z.1 ∧ ∀ b, q.ownBlock = some b → w2.heap.size ≤ b), (12, fun u wz => Own w0.heap.size 3 1 (fun x : Int => [Value.int .i64 x]) wz u z.1 ∧ ∀ b, u.ownBlock = some b → w2.heap.size ≤ b), val 13 (.int .i64 z.2), (2, fun u wz => Own w0.heap.size 3 1 (fun x : Int => [Value.int .i64 x]) wz u z.1 ∧ ∀ b, u.ownBlock = some b → w2.heap.size ≤ b), val 3 (.int .i64 z.2)] noG (by kernel_rfl)
    ⟨Stable.val _ _ _, fun _ _ _ hE ⟨q, ht, hO, hf⟩ => ⟨q, ht, hO.exn hE, hf⟩, fun _ _ _ hE ⟨q, ht, hO, hf⟩ => ⟨q, ht, hO.exn hE, hf⟩, fun _ _ _ hE ⟨hO, hf⟩ => ⟨hO.exn hE, hf⟩, Stable.val _ _ _, fun _ _ _ hE ⟨hO, hf⟩ => ⟨hO.exn hE, hf⟩, Stable.val _ _ _, trivial⟩
    ⟨fun ρz wz hE hA ⟨e1, _⟩ _ => core_val rfl rfl (o_move (e1.trans h1)),
     fun ρz wz hE hA _ ⟨u0, _⟩ => core_callR rfl (call_args4 u0 rfl rfl rfl) cf_14 ((family_Order_ok  _ _ _ _ (Hf1.exn (hA rfl)).no (RepSl.nil _ noG _).no hz).mono (fun e w1 ⟨v, he, hE1, q, hv, hO⟩ => ⟨v, he, hE1, q, hv, hO.base (Nat.le_trans hsz hE.size), fun b hb => Nat.le_trans hE.size (hO.lt hb).1⟩)),
     fun ρz wz hE hA _ ⟨⟨q1, ht1, hO1, hfr1⟩, _⟩ => core_copy rfl rfl (o_move rfl) ⟨q1, ht1, hO1, hfr1⟩,
     fun ρz wz hE hA _ ⟨⟨q2, ht2, hO2, hfr2⟩, _⟩ => core_copy rfl rfl (o_extract ht2 (by kernel_rfl)) ⟨hO2, hfr2⟩,
     fun ρz wz hE hA _ ⟨⟨q2, ht2, hO2, hfr2⟩, _⟩ => core_val rfl rfl (o_extract ht2 (by kernel_rfl)),
     fun ρz wz hE hA _ ⟨⟨hO3, hfr3⟩, _⟩ => core_copy rfl rfl (o_assign rfl) ⟨hO3, hfr3⟩,
     fun ρz wz hE hA _ ⟨u4, _⟩ => core_val rfl rfl (o_assign u4), trivial⟩ ?_
  intro ρ3 w3 hE hN hf hr
  have hN := hN rfl
  have h1 := (hr 1 rfl).trans h1
  obtain ⟨v2_, h2⟩ : ∃ v, ρ3 2 = v := ⟨_, rfl⟩
  have hq2 : (fun u wz => Own w0.heap.size 3 1 (fun x : Int => [Value.int .i64 x]) wz u z.1 ∧ ∀ b, u.ownBlock = some b → w2.heap.size ≤ b) (ρ3 2) w3 := hf 5 rfl
  rw [h2] at hq2
  obtain ⟨hq2, hfr2⟩ := hq2
  have h3 : ρ3 3 = .int .i64 z.2 := hf 6 rfl
  have Hg_0_at0 := Hg_0
  have Hg_0 := Hg_0.exn hN
  have Hf1_at0 := Hf1
  have Hf1 := Hf1.exn hN
  have hW := hW.trans hN
  have Hf2 : RepSl intR noG w3 v2_ z.1 := hq2.rep (fun _ _ h => h)
  obtain ⟨_, _, hs_Hf2, _, _⟩ := RepSl.shape Hf2
  have hsz := Nat.le_trans hsz hN.size
  refine WP.seq ?_
  obtain ⟨z2, hz2, hF⟩ := obind hF
  refine WP.region mixed [[], [0], [1], [2], [2], [3], [4]] [[], [0], [1], [2], [2], [3], [4]] [[1], [], [], [], [], [], []] [] []
    [val 15 (v1_), (16, fun u wz => ∃ q : Value, u = .tuple #[q, .int .i64 z2.2] ∧ Own w0.heap.size 48 4 FamilyPay.cells wz q z2.1 ∧ ∀ b, q.ownBlock = some b → w3.heap.size ≤ b), (14, fun u wz => ∃ q : Value, u = .tuple #[q, .int .i64 z2.2] ∧ Own w0.heap.size 48 4 FamilyPay.cells wz q z2.1 ∧ ∀ b, q.ownBlock = some b → w3.heap.size ≤ b), (17, fun u wz => Own w0.heap.size 48 4 FamilyPay.cells wz u z2.1 ∧ ∀ b, u.ownBlock = some b → w3.heap.size ≤ b), val 18 (.int .i64 z2.2), (4, fun u wz => Own w0.heap.size 48 4 FamilyPay.cells wz u z2.1 ∧ ∀ b, u.ownBlock = some b → w3.heap.size ≤ b), val 5 (.int .i64 z2.2)] noG (by kernel_rfl)
    ⟨Stable.val _ _ _, fun _ _ _ hE ⟨q, ht, hO, hf⟩ => ⟨q, ht, hO.exn hE, hf⟩, fun _ _ _ hE ⟨q, ht, hO, hf⟩ => ⟨q, ht, hO.exn hE, hf⟩, fun _ _ _ hE ⟨hO, hf⟩ => ⟨hO.exn hE, hf⟩, Stable.val _ _ _, fun _ _ _ hE ⟨hO, hf⟩ => ⟨hO.exn hE, hf⟩, Stable.val _ _ _, trivial⟩
    ⟨fun ρz wz hE hA ⟨e1, _⟩ _ => core_val rfl rfl (o_move (e1.trans h1)),
     fun ρz wz hE hA _ ⟨u0, _⟩ => core_callR rfl (call_args4 u0 rfl rfl rfl) cf_21 ((family_Payments_ok (Hg_0.exn (hA rfl)).no _ _ _ _ (Hf1.exn (hA rfl)).no (RepSl.nil _ noG _).no hz2).mono (fun e w1 ⟨v, he, hE1, q, hv, hO⟩ => ⟨v, he, hE1, q, hv, hO.base (Nat.le_trans hsz hE.size), fun b hb => Nat.le_trans hE.size (hO.lt hb).1⟩)),
     fun ρz wz hE hA _ ⟨⟨q1, ht1, hO1, hfr1⟩, _⟩ => core_copy rfl rfl (o_move rfl) ⟨q1, ht1, hO1, hfr1⟩,
     fun ρz wz hE hA _ ⟨⟨q2, ht2, hO2, hfr2⟩, _⟩ => core_copy rfl rfl (o_extract ht2 (by kernel_rfl)) ⟨hO2, hfr2⟩,
     fun ρz wz hE hA _ ⟨⟨q2, ht2, hO2, hfr2⟩, _⟩ => core_val rfl rfl (o_extract ht2 (by kernel_rfl)),
     fun ρz wz hE hA _ ⟨⟨hO3, hfr3⟩, _⟩ => core_copy rfl rfl (o_assign rfl) ⟨hO3, hfr3⟩,
     fun ρz wz hE hA _ ⟨u4, _⟩ => core_val rfl rfl (o_assign u4), trivial⟩ ?_
  intro ρ4 w4 hE hN hf hr
  have hN := hN rfl
  have h2 := (hr 2 rfl).trans h2
  have h3 := (hr 3 rfl).trans h3
  obtain ⟨v4_, h4⟩ : ∃ v, ρ4 4 = v := ⟨_, rfl⟩
  have hq4 : (fun u wz => Own w0.heap.size 48 4 FamilyPay.cells wz u z2.1 ∧ ∀ b, u.ownBlock = some b → w3.heap.size ≤ b) (ρ4 4) w4 := hf 5 rfl
  rw [h4] at hq4
  obtain ⟨hq4, hfr4⟩ := hq4
  have h5 : ρ4 5 = .int .i64 z2.2 := hf 6 rfl
  have Hg_0_at0 := Hg_0
  have Hg_0 := Hg_0.exn hN
  have Hf2_at0 := Hf2
  have Hf2 := Hf2.exn hN
  have hW := hW.trans hN
  have Hf4 : RepSl FamilyPay.R noG w4 v4_ z2.1 := hq4.rep (fun _ _ h => h)
  obtain ⟨_, _, hs_Hf4, _, _⟩ := RepSl.shape Hf4
  have hsz := Nat.le_trans hsz hN.size
  refine WP.seq ?_
  obtain ⟨c, hc, hF⟩ := obind hF
  obtain ⟨c2, hc2, hF⟩ := obind hF
  obtain ⟨c3, hc3, hF⟩ := obind hF
  obtain ⟨c4, hc4, hF⟩ := obind hF
  refine WP.via (fun ρ w => ρ 0 = .bool c4 ∧ GR [Value.int .i64 1, Value.int .i64 1] (gfr noG w0) w 0 ∧ Ext noG w0 w ∧ w0.heap.size ≤ w.heap.size) ?_ ?_
  · rcases Bool.eq_false_or_eq_true (z.2 == 0) with hd2 | hd2
    · rcases Bool.eq_false_or_eq_true (z2.2 == 0) with hd6 | hd6
      · have hc := (if_pos (by simp [hd2, hd6])).symm.trans hc
        obtain ⟨z3, hz3, hc⟩ := obind hc
        have hc := Option.some.inj hc
        rcases Bool.eq_false_or_eq_true z3 with hd11 | hd11
        · rcases Bool.eq_false_or_eq_true ((z2.1.length : Int) == 2) with hd16 | hd16
          · have hc2 := (if_pos (by simp [hd2, hd6, hd11, hd16, ← hc])).symm.trans hc2
            obtain ⟨y, hy, hc2⟩ := obind hc2
            obtain ⟨ay, cy, hvy, hiy, hAy⟩ := RepSl.getF Hf4 hy
            have hc2 := Option.some.inj hc2
            rcases Bool.eq_false_or_eq_true (FamilyPay.eqb y (⟨2, 1, 100, true⟩ : FamilyPay)) with hd23 | hd23
            · have hc3 := (if_pos (by simp [hd2, hd6, hd11, hd16, hd23, ← hc, ← hc2])).symm.trans hc3
              obtain ⟨y2, hy2, hc3⟩ := obind hc3
              obtain ⟨ay2, cy2, hvy2, hiy2, hAy2⟩ := RepSl.getF Hf4 hy2
              have hc3 := Option.some.inj hc3
              rcases Bool.eq_false_or_eq_true (y2.Amount == 30) with hd30 | hd30
              · have hc4 := (if_pos (by simp [hd2, hd6, hd11, hd16, hd23, hd30, ← hc, ← hc2, ← hc3])).symm.trans hc4
                obtain ⟨y3, hy3, hc4⟩ := obind hc4
                obtain ⟨ay3, cy3, hvy3, hiy3, hAy3⟩ := RepSl.getF Hf4 hy3
                have hc4 := Option.some.inj hc4
                refine WP.region mixed [[], [0], [1], [2], [2, 3], [2, 4], [5], [6], [6], [6, 7, 8], [6, 9], [10], [11], [11, 12], [11, 13], [11, 14], [15], [16], [16, 17], [16, 18], [16], [16, 19, 20], [16, 21], [22], [23], [23, 24], [23, 25], [23, 26], [23, 27], [23, 28], [29], [30], [30, 31], [30, 32], [30, 33], [30, 34], [30, 35], [36]] [[], [0], [1], [2], [2, 3], [2, 4], [5], [6], [6], [6, 7, 8], [6, 9], [10], [11], [11, 12], [11, 13], [11, 14], [15], [16], [16, 17], [16, 18], [16], [16, 19, 20], [16, 21], [22], [23], [23, 24], [23, 25], [23, 26], [23, 27], [23, 28], [29], [30], [30, 31], [30, 32], [30, 33], [30, 34], [30, 35], [36]] [[3], [], [], [5], [], [], [], [2], [], [], [], [], [4], [], [], [], [], [4], [], [], [], [], [], [], [4], [], [], [], [], [], [], [4], [], [], [], [], [], []] [] []
                  [val 19 (.int .i64 z.2), val 20 (.bool (z.2 == 0)), val 21 (.bool true), val 22 (.int .i64 z2.2), val 23 (.bool (z2.2 == 0)), val 24 (.bool (z2.2 == 0)), val 25 (.bool true), val 26 (v2_), (27, fun u wz => ∃ b, u = .slice (some ⟨b, 0, none⟩) 2 2 ∧ w4.heap.size ≤ b ∧ Mb wz b 3 (([1, 0]).flatMap (fun x : Int => [Value.int .i64 x]))), val 28 (.bool z3), val 29 (.bool z3), val 30 (.bool true), val 31 (v4_), val 32 (.int .i64 (z2.1.length : Int)), val 33 (.bool ((z2.1.length : Int) == 2)), val 34 (.bool ((z2.1.length : Int) == 2)), val 35 (.bool true), val 36 (v4_), val 37 (.pointer (some (ay.add (Int.toNat 0 * 4)))), val 38 (FamilyPay.val y), val 39 (FamilyPay.val (⟨2, 1, 100, true⟩ : FamilyPay)), val 40 (.bool (FamilyPay.eqb y (⟨2, 1, 100, true⟩ : FamilyPay))), val 41 (.bool (FamilyPay.eqb y (⟨2, 1, 100, true⟩ : FamilyPay))), val 42 (.bool true), val 43 (v4_), val 44 (.pointer (some (ay2.add (Int.toNat 1 * 4)))), val 45 (.pointer (some ((ay2.add (Int.toNat 1 * 4)).add 2))), val 46 (.int .i64 y2.Amount), val 47 (.bool (y2.Amount == 30)), val 48 (.bool (y2.Amount == 30)), val 49 (.bool true), val 50 (v4_), val 51 (.pointer (some (ay3.add (Int.toNat 1 * 4)))), val 52 (.pointer (some ((ay3.add (Int.toNat 1 * 4)).add 3))), val 53 (.bool y3.Primary), val 54 (.bool (!y3.Primary)), val 55 (.bool (!y3.Primary)), val 0 (.bool (!y3.Primary))] noG (by kernel_rfl)
                  ⟨Stable.val _ _ _, Stable.val _ _ _, Stable.val _ _ _, Stable.val _ _ _, Stable.val _ _ _, Stable.val _ _ _, Stable.val _ _ _, Stable.val _ _ _, fun _ _ _ hE ⟨b, hz, hs, hM⟩ => ⟨b, hz, hs, hM.exn hE⟩, Stable.val _ _ _, Stable.val _ _ _, Stable.val _ _ _, Stable.val _ _ _, Stable.val _ _ _, Stable.val _ _ _, Stable.val _ _ _, Stable.val _ _ _, Stable.val _ _ _, Stable.val _ _ _, Stable.val _ _ _, Stable.val _ _ _, Stable.val _ _ _, Stable.val _ _ _, Stable.val _ _ _, Stable.val _ _ _, Stable.val _ _ _, Stable.val _ _ _, Stable.val _ _ _, Stable.val _ _ _, Stable.val _ _ _, Stable.val _ _ _, Stable.val _ _ _, Stable.val _ _ _, Stable.val _ _ _, Stable.val _ _ _, Stable.val _ _ _, Stable.val _ _ _, Stable.val _ _ _, trivial⟩
                  ⟨fun ρz wz hE hA ⟨e3, _⟩ _ => core_val rfl rfl (o_move (e3.trans h3)),
     fun ρz wz hE hA _ ⟨u0, _⟩ => core_val rfl rfl (o_eql u0 rfl rfl),
     fun ρz wz hE hA _ ⟨u1, _⟩ => core_valE rfl rfl (congrArg Value.bool hd2) (o_move u1),
     fun ρz wz hE hA ⟨e5, _⟩ ⟨u2, _⟩ => gYes rfl u2 (core_val rfl rfl (o_move (e5.trans h5))),
     fun ρz wz hE hA _ ⟨u2, u3, _⟩ => gYes rfl u2 (core_val rfl rfl (o_eql u3 rfl rfl)),
     fun ρz wz hE hA _ ⟨u2, u4, _⟩ => core_val rfl rfl (o_pick_t u2 u4),
     fun ρz wz hE hA _ ⟨u5, _⟩ => core_valE rfl rfl (congrArg Value.bool hd6) (o_move u5),
     fun ρz wz hE hA ⟨e2, _⟩ ⟨u6, _⟩ => gYes rfl u6 (core_val rfl rfl (o_move (e2.trans h2))),
     fun ρz wz hE hA _ ⟨u6, _⟩ => gYes rfl u6 (core_slice rfl rfl hE (o_buildSlice (build_parts2 rfl rfl) (bs_23_2 _ _ _))),
     fun ρz wz hE hA _ ⟨u6, u7, ⟨bz8, hz8, hge8, hM8⟩, _⟩ => gYes rfl u6 (core_call rfl (call_args2 u7 hz8) cf_17 (pensionplain_Ints_ok  _ _ (Hf2.exn (hA rfl)).no (Mb.rep (n := 1) (cells := fun x : Int => [Value.int .i64 x]) (hn := fun _ => rfl) (G := noG) hM8 rfl (Nat.le_of_ble_eq_true rfl) (fun h => h)).no hz3)),
     fun ρz wz hE hA _ ⟨u6, u9, _⟩ => core_val rfl rfl (o_pick_t u6 u9),
     fun ρz wz hE hA _ ⟨u10, _⟩ => core_valE rfl rfl (congrArg Value.bool hd11) (o_move u10),
     fun ρz wz hE hA ⟨e4, _⟩ ⟨u11, _⟩ => gYes rfl u11 (core_val rfl rfl (o_move (e4.trans h4))),
     fun ρz wz hE hA _ ⟨u11, u12, _⟩ => gYes rfl u11 (core_val rfl rfl (o_len (u12.trans hs_Hf4) len_38)),
     fun ρz wz hE hA _ ⟨u11, u13, _⟩ => gYes rfl u11 (core_val rfl rfl (o_eql u13 rfl rfl)),
     fun ρz wz hE hA _ ⟨u11, u14, _⟩ => core_val rfl rfl (o_pick_t u11 u14),
     fun ρz wz hE hA _ ⟨u15, _⟩ => core_valE rfl rfl (congrArg Value.bool hd16) (o_move u15),
     fun ρz wz hE hA ⟨e4, _⟩ ⟨u16, _⟩ => gYes rfl u16 (core_val rfl rfl (o_move (e4.trans h4))),
     fun ρz wz hE hA _ ⟨u16, u17, _⟩ => gYes rfl u16 (core_val rfl rfl (o_indexAddr (u17.trans hvy) rfl (ia_38 hiy))),
     fun ρz wz hE hA _ ⟨u16, u18, _⟩ => gYes rfl u16 (core_val rfl rfl (o_load u18 (run_loadN (cs := (FamilyPay.cells y)) (lr_48 _ _) rfl ((hAy.exn (hA rfl)).ca)))),
     fun ρz wz hE hA _ ⟨u16, _⟩ => gYes rfl u16 (core_val rfl rfl (o_build (build_parts4 rfl rfl rfl rfl) (bd_48_0_1_2_3 _ _ _ _ _))),
     fun ρz wz hE hA _ ⟨u16, u19, u20, _⟩ => gYes rfl u16 (core_val rfl rfl (o_eqS u19 u20 (by kernel_rfl) (eqs_48 9998 _ _ _) rfl)),
     fun ρz wz hE hA _ ⟨u16, u21, _⟩ => core_val rfl rfl (o_pick_t u16 u21),
     fun ρz wz hE hA _ ⟨u22, _⟩ => core_valE rfl rfl (congrArg Value.bool hd23) (o_move u22),
     fun ρz wz hE hA ⟨e4, _⟩ ⟨u23, _⟩ => gYes rfl u23 (core_val rfl rfl (o_move (e4.trans h4))),
     fun ρz wz hE hA _ ⟨u23, u24, _⟩ => gYes rfl u23 (core_val rfl rfl (o_indexAddr (u24.trans hvy2) rfl (ia_38 hiy2))),
     fun ρz wz hE hA _ ⟨u23, u25, _⟩ => gYes rfl u23 (core_val rfl rfl (o_fieldAddr u25 (fa_48_2 _ _))),
     fun ρz wz hE hA _ ⟨u23, u26, _⟩ => gYes rfl u23 (core_val rfl rfl (o_load u26 (run_load1 (lr_3 _ _) (CA.sub ((hAy2.exn (hA rfl)).ca) 2 1)))),
     fun ρz wz hE hA _ ⟨u23, u27, _⟩ => gYes rfl u23 (core_val rfl rfl (o_eql u27 rfl rfl)),
     fun ρz wz hE hA _ ⟨u23, u28, _⟩ => core_val rfl rfl (o_pick_t u23 u28),
     fun ρz wz hE hA _ ⟨u29, _⟩ => core_valE rfl rfl (congrArg Value.bool hd30) (o_move u29),
     fun ρz wz hE hA ⟨e4, _⟩ ⟨u30, _⟩ => gYes rfl u30 (core_val rfl rfl (o_move (e4.trans h4))),
     fun ρz wz hE hA _ ⟨u30, u31, _⟩ => gYes rfl u30 (core_val rfl rfl (o_indexAddr (u31.trans hvy3) rfl (ia_38 hiy3))),
     fun ρz wz hE hA _ ⟨u30, u32, _⟩ => gYes rfl u30 (core_val rfl rfl (o_fieldAddr u32 (fa_48_3 _ _))),
     fun ρz wz hE hA _ ⟨u30, u33, _⟩ => gYes rfl u30 (core_val rfl rfl (o_load u33 (run_load1 (lr_4 _ _) (CA.sub ((hAy3.exn (hA rfl)).ca) 3 1)))),
     fun ρz wz hE hA _ ⟨u30, u34, _⟩ => gYes rfl u30 (core_val rfl rfl (o_not u34 rfl)),
     fun ρz wz hE hA _ ⟨u30, u35, _⟩ => core_val rfl rfl (o_pick_t u30 u35),
     fun ρz wz hE hA _ ⟨u36, _⟩ => core_val rfl rfl (o_assign u36), trivial⟩ ?_
                intro ρ6 w6 hE hN hf hr
                have hN := hN rfl
                have h0 : ρ6 0 = .bool (!y3.Primary) := hf 37 rfl
                have Hg_0_at0 := Hg_0
                have Hg_0 := Hg_0.exn hN
                have hW := hW.trans hN
                have hsz := Nat.le_trans hsz hN.size
                exact ⟨(h0.trans (congrArg Value.bool (by simp [hd2, hd6, hd11, hd16, hd23, hd30, ← hc, ← hc2, ← hc3, ← hc4]))), Hg_0, hW, hsz⟩
              · have hc4 := (if_neg (Bool.eq_false_iff.1 (by simp [hd2, hd6, hd11, hd16, hd23, hd30, ← hc, ← hc2, ← hc3]))).symm.trans hc4
                have hc4 := Option.some.inj hc4
                refine WP.region mixed [[], [0], [1], [2], [2, 3], [2, 4], [5], [6], [6], [6, 7, 8], [6, 9], [10], [11], [11, 12], [11, 13], [11, 14], [15], [16], [16, 17], [16, 18], [16], [16, 19, 20], [16, 21], [22], [23], [23, 24], [23, 25], [23, 26], [23, 27], [23, 28], [29], [30], [30], [30], [30], [30], [30], [36]] [[], [0], [1], [2], [2, 3], [2, 4], [5], [6], [6], [6, 7, 8], [6, 9], [10], [11], [11, 12], [11, 13], [11, 14], [15], [16], [16, 17], [16, 18], [16], [16, 19, 20], [16, 21], [22], [23], [23, 24], [23, 25], [23, 26], [23, 27], [23, 28], [29], [30], [30], [30], [30], [30], [30], [36]] [[3], [], [], [5], [], [], [], [2], [], [], [], [], [4], [], [], [], [], [4], [], [], [], [], [], [], [4], [], [], [], [], [], [], [], [], [], [], [], [], []] [] []
                  [val 19 (.int .i64 z.2), val 20 (.bool (z.2 == 0)), val 21 (.bool true), val 22 (.int .i64 z2.2), val 23 (.bool (z2.2 == 0)), val 24 (.bool (z2.2 == 0)), val 25 (.bool true), val 26 (v2_), (27, fun u wz => ∃ b, u = .slice (some ⟨b, 0, none⟩) 2 2 ∧ w4.heap.size ≤ b ∧ Mb wz b 3 (([1, 0]).flatMap (fun x : Int => [Value.int .i64 x]))), val 28 (.bool z3), val 29 (.bool z3), val 30 (.bool true), val 31 (v4_), val 32 (.int .i64 (z2.1.length : Int)), val 33 (.bool ((z2.1.length : Int) == 2)), val 34 (.bool ((z2.1.length : Int) == 2)), val 35 (.bool true), val 36 (v4_), val 37 (.pointer (some (ay.add (Int.toNat 0 * 4)))), val 38 (FamilyPay.val y), val 39 (FamilyPay.val (⟨2, 1, 100, true⟩ : FamilyPay)), val 40 (.bool (FamilyPay.eqb y (⟨2, 1, 100, true⟩ : FamilyPay))), val 41 (.bool (FamilyPay.eqb y (⟨2, 1, 100, true⟩ : FamilyPay))), val 42 (.bool true), val 43 (v4_), val 44 (.pointer (some (ay2.add (Int.toNat 1 * 4)))), val 45 (.pointer (some ((ay2.add (Int.toNat 1 * 4)).add 2))), val 46 (.int .i64 y2.Amount), val 47 (.bool (y2.Amount == 30)), val 48 (.bool (y2.Amount == 30)), val 49 (.bool false), anyF 50, anyF 51, anyF 52, anyF 53, anyF 54, val 55 (.bool false), val 0 (.bool false)] noG (by kernel_rfl)
                  ⟨Stable.val _ _ _, Stable.val _ _ _, Stable.val _ _ _, Stable.val _ _ _, Stable.val _ _ _, Stable.val _ _ _, Stable.val _ _ _, Stable.val _ _ _, fun _ _ _ hE ⟨b, hz, hs, hM⟩ => ⟨b, hz, hs, hM.exn hE⟩, Stable.val _ _ _, Stable.val _ _ _, Stable.val _ _ _, Stable.val _ _ _, Stable.val _ _ _, Stable.val _ _ _, Stable.val _ _ _, Stable.val _ _ _, Stable.val _ _ _, Stable.val _ _ _, Stable.val _ _ _, Stable.val _ _ _, Stable.val _ _ _, Stable.val _ _ _, Stable.val _ _ _, Stable.val _ _ _, Stable.val _ _ _, Stable.val _ _ _, Stable.val _ _ _, Stable.val _ _ _, Stable.val _ _ _, Stable.val _ _ _, Stable.any _ _, Stable.any _ _, Stable.any _ _, Stable.any _ _, Stable.any _ _, Stable.val _ _ _, Stable.val _ _ _, trivial⟩
                  ⟨fun ρz wz hE hA ⟨e3, _⟩ _ => core_val rfl rfl (o_move (e3.trans h3)),
     fun ρz wz hE hA _ ⟨u0, _⟩ => core_val rfl rfl (o_eql u0 rfl rfl),
     fun ρz wz hE hA _ ⟨u1, _⟩ => core_valE rfl rfl (congrArg Value.bool hd2) (o_move u1),
     fun ρz wz hE hA ⟨e5, _⟩ ⟨u2, _⟩ => gYes rfl u2 (core_val rfl rfl (o_move (e5.trans h5))),
     fun ρz wz hE hA _ ⟨u2, u3, _⟩ => gYes rfl u2 (core_val rfl rfl (o_eql u3 rfl rfl)),
     fun ρz wz hE hA _ ⟨u2, u4, _⟩ => core_val rfl rfl (o_pick_t u2 u4),
     fun ρz wz hE hA _ ⟨u5, _⟩ => core_valE rfl rfl (congrArg Value.bool hd6) (o_move u5),
     fun ρz wz hE hA ⟨e2, _⟩ ⟨u6, _⟩ => gYes rfl u6 (core_val rfl rfl (o_move (e2.trans h2))),
     fun ρz wz hE hA _ ⟨u6, _⟩ => gYes rfl u6 (core_slice rfl rfl hE (o_buildSlice (build_parts2 rfl rfl) (bs_23_2 _ _ _))),
     fun ρz wz hE hA _ ⟨u6, u7, ⟨bz8, hz8, hge8, hM8⟩, _⟩ => gYes rfl u6 (core_call rfl (call_args2 u7 hz8) cf_17 (pensionplain_Ints_ok  _ _ (Hf2.exn (hA rfl)).no (Mb.rep (n := 1) (cells := fun x : Int => [Value.int .i64 x]) (hn := fun _ => rfl) (G := noG) hM8 rfl (Nat.le_of_ble_eq_true rfl) (fun h => h)).no hz3)),
     fun ρz wz hE hA _ ⟨u6, u9, _⟩ => core_val rfl rfl (o_pick_t u6 u9),
     fun ρz wz hE hA _ ⟨u10, _⟩ => core_valE rfl rfl (congrArg Value.bool hd11) (o_move u10),
     fun ρz wz hE hA ⟨e4, _⟩ ⟨u11, _⟩ => gYes rfl u11 (core_val rfl rfl (o_move (e4.trans h4))),
     fun ρz wz hE hA _ ⟨u11, u12, _⟩ => gYes rfl u11 (core_val rfl rfl (o_len (u12.trans hs_Hf4) len_38)),
     fun ρz wz hE hA _ ⟨u11, u13, _⟩ => gYes rfl u11 (core_val rfl rfl (o_eql u13 rfl rfl)),
     fun ρz wz hE hA _ ⟨u11, u14, _⟩ => core_val rfl rfl (o_pick_t u11 u14),
     fun ρz wz hE hA _ ⟨u15, _⟩ => core_valE rfl rfl (congrArg Value.bool hd16) (o_move u15),
     fun ρz wz hE hA ⟨e4, _⟩ ⟨u16, _⟩ => gYes rfl u16 (core_val rfl rfl (o_move (e4.trans h4))),
     fun ρz wz hE hA _ ⟨u16, u17, _⟩ => gYes rfl u16 (core_val rfl rfl (o_indexAddr (u17.trans hvy) rfl (ia_38 hiy))),
     fun ρz wz hE hA _ ⟨u16, u18, _⟩ => gYes rfl u16 (core_val rfl rfl (o_load u18 (run_loadN (cs := (FamilyPay.cells y)) (lr_48 _ _) rfl ((hAy.exn (hA rfl)).ca)))),
     fun ρz wz hE hA _ ⟨u16, _⟩ => gYes rfl u16 (core_val rfl rfl (o_build (build_parts4 rfl rfl rfl rfl) (bd_48_0_1_2_3 _ _ _ _ _))),
     fun ρz wz hE hA _ ⟨u16, u19, u20, _⟩ => gYes rfl u16 (core_val rfl rfl (o_eqS u19 u20 (by kernel_rfl) (eqs_48 9998 _ _ _) rfl)),
     fun ρz wz hE hA _ ⟨u16, u21, _⟩ => core_val rfl rfl (o_pick_t u16 u21),
     fun ρz wz hE hA _ ⟨u22, _⟩ => core_valE rfl rfl (congrArg Value.bool hd23) (o_move u22),
     fun ρz wz hE hA ⟨e4, _⟩ ⟨u23, _⟩ => gYes rfl u23 (core_val rfl rfl (o_move (e4.trans h4))),
     fun ρz wz hE hA _ ⟨u23, u24, _⟩ => gYes rfl u23 (core_val rfl rfl (o_indexAddr (u24.trans hvy2) rfl (ia_38 hiy2))),
     fun ρz wz hE hA _ ⟨u23, u25, _⟩ => gYes rfl u23 (core_val rfl rfl (o_fieldAddr u25 (fa_48_2 _ _))),
     fun ρz wz hE hA _ ⟨u23, u26, _⟩ => gYes rfl u23 (core_val rfl rfl (o_load u26 (run_load1 (lr_3 _ _) (CA.sub ((hAy2.exn (hA rfl)).ca) 2 1)))),
     fun ρz wz hE hA _ ⟨u23, u27, _⟩ => gYes rfl u23 (core_val rfl rfl (o_eql u27 rfl rfl)),
     fun ρz wz hE hA _ ⟨u23, u28, _⟩ => core_val rfl rfl (o_pick_t u23 u28),
     fun ρz wz hE hA _ ⟨u29, _⟩ => core_valE rfl rfl (congrArg Value.bool hd30) (o_move u29),
     fun _ _ _ _ _ ⟨u30, _⟩ => gNo rfl u30 rfl trivial,
     fun _ _ _ _ _ ⟨u30, _⟩ => gNo rfl u30 rfl trivial,
     fun _ _ _ _ _ ⟨u30, _⟩ => gNo rfl u30 rfl trivial,
     fun _ _ _ _ _ ⟨u30, _⟩ => gNo rfl u30 rfl trivial,
     fun _ _ _ _ _ ⟨u30, _⟩ => gNo rfl u30 rfl trivial,
     fun ρz wz hE hA _ ⟨u30, _⟩ => core_val rfl rfl (o_pick_f u30 rfl),
     fun ρz wz hE hA _ ⟨u36, _⟩ => core_val rfl rfl (o_assign u36), trivial⟩ ?_
                intro ρ7 w7 hE hN hf hr
                have hN := hN rfl
                have h0 : ρ7 0 = .bool false := hf 37 rfl
                have Hg_0_at0 := Hg_0
                have Hg_0 := Hg_0.exn hN
                have hW := hW.trans hN
                have hsz := Nat.le_trans hsz hN.size
                exact ⟨(h0.trans (congrArg Value.bool (by simp [hd2, hd6, hd11, hd16, hd23, hd30, ← hc, ← hc2, ← hc3, ← hc4]))), Hg_0, hW, hsz⟩
            · have hc3 := (if_neg (Bool.eq_false_iff.1 (by simp [hd2, hd6, hd11, hd16, hd23, ← hc, ← hc2]))).symm.trans hc3
              have hc3 := Option.some.inj hc3
              have hc4 := (if_neg (Bool.eq_false_iff.1 (by simp [hd2, hd6, hd11, hd16, hd23, ← hc, ← hc2, ← hc3]))).symm.trans hc4
              have hc4 := Option.some.inj hc4
              refine WP.region mixed [[], [0], [1], [2], [2, 3], [2, 4], [5], [6], [6], [6, 7, 8], [6, 9], [10], [11], [11, 12], [11, 13], [11, 14], [15], [16], [16, 17], [16, 18], [16], [16, 19, 20], [16, 21], [22], [23], [23], [23], [23], [23], [23], [29], [30], [30], [30], [30], [30], [30], [36]] [[], [0], [1], [2], [2, 3], [2, 4], [5], [6], [6], [6, 7, 8], [6, 9], [10], [11], [11, 12], [11, 13], [11, 14], [15], [16], [16, 17], [16, 18], [16], [16, 19, 20], [16, 21], [22], [23], [23], [23], [23], [23], [23], [29], [30], [30], [30], [30], [30], [30], [36]] [[3], [], [], [5], [], [], [], [2], [], [], [], [], [4], [], [], [], [], [4], [], [], [], [], [], [], [], [], [], [], [], [], [], [], [], [], [], [], [], []] [] []
                [val 19 (.int .i64 z.2), val 20 (.bool (z.2 == 0)), val 21 (.bool true), val 22 (.int .i64 z2.2), val 23 (.bool (z2.2 == 0)), val 24 (.bool (z2.2 == 0)), val 25 (.bool true), val 26 (v2_), (27, fun u wz => ∃ b, u = .slice (some ⟨b, 0, none⟩) 2 2 ∧ w4.heap.size ≤ b ∧ Mb wz b 3 (([1, 0]).flatMap (fun x : Int => [Value.int .i64 x]))), val 28 (.bool z3), val 29 (.bool z3), val 30 (.bool true), val 31 (v4_), val 32 (.int .i64 (z2.1.length : Int)), val 33 (.bool ((z2.1.length : Int) == 2)), val 34 (.bool ((z2.1.length : Int) == 2)), val 35 (.bool true), val 36 (v4_), val 37 (.pointer (some (ay.add (Int.toNat 0 * 4)))), val 38 (FamilyPay.val y), val 39 (FamilyPay.val (⟨2, 1, 100, true⟩ : FamilyPay)), val 40 (.bool (FamilyPay.eqb y (⟨2, 1, 100, true⟩ : FamilyPay))), val 41 (.bool (FamilyPay.eqb y (⟨2, 1, 100, true⟩ : FamilyPay))), val 42 (.bool false), anyF 43, anyF 44, anyF 45, anyF 46, anyF 47, val 48 (.bool false), val 49 (.bool false), anyF 50, anyF 51, anyF 52, anyF 53, anyF 54, val 55 (.bool false), val 0 (.bool false)] noG (by kernel_rfl)
                ⟨Stable.val _ _ _, Stable.val _ _ _, Stable.val _ _ _, Stable.val _ _ _, Stable.val _ _ _, Stable.val _ _ _, Stable.val _ _ _, Stable.val _ _ _, fun _ _ _ hE ⟨b, hz, hs, hM⟩ => ⟨b, hz, hs, hM.exn hE⟩, Stable.val _ _ _, Stable.val _ _ _, Stable.val _ _ _, Stable.val _ _ _, Stable.val _ _ _, Stable.val _ _ _, Stable.val _ _ _, Stable.val _ _ _, Stable.val _ _ _, Stable.val _ _ _, Stable.val _ _ _, Stable.val _ _ _, Stable.val _ _ _, Stable.val _ _ _, Stable.val _ _ _, Stable.any _ _, Stable.any _ _, Stable.any _ _, Stable.any _ _, Stable.any _ _, Stable.val _ _ _, Stable.val _ _ _, Stable.any _ _, Stable.any _ _, Stable.any _ _, Stable.any _ _, Stable.any _ _, Stable.val _ _ _, Stable.val _ _ _, trivial⟩
                ⟨fun ρz wz hE hA ⟨e3, _⟩ _ => core_val rfl rfl (o_move (e3.trans h3)),
     fun ρz wz hE hA _ ⟨u0, _⟩ => core_val rfl rfl (o_eql u0 rfl rfl),
     fun ρz wz hE hA _ ⟨u1, _⟩ => core_valE rfl rfl (congrArg Value.bool hd2) (o_move u1),
     fun ρz wz hE hA ⟨e5, _⟩ ⟨u2, _⟩ => gYes rfl u2 (core_val rfl rfl (o_move (e5.trans h5))),
     fun ρz wz hE hA _ ⟨u2, u3, _⟩ => gYes rfl u2 (core_val rfl rfl (o_eql u3 rfl rfl)),
     fun ρz wz hE hA _ ⟨u2, u4, _⟩ => core_val rfl rfl (o_pick_t u2 u4),
     fun ρz wz hE hA _ ⟨u5, _⟩ => core_valE rfl rfl (congrArg Value.bool hd6) (o_move u5),
     fun ρz wz hE hA ⟨e2, _⟩ ⟨u6, _⟩ => gYes rfl u6 (core_val rfl rfl (o_move (e2.trans h2))),
     fun ρz wz hE hA _ ⟨u6, _⟩ => gYes rfl u6 (core_slice rfl rfl hE (o_buildSlice (build_parts2 rfl rfl) (bs_23_2 _ _ _))),
     fun ρz wz hE hA _ ⟨u6, u7, ⟨bz8, hz8, hge8, hM8⟩, _⟩ => gYes rfl u6 (core_call rfl (call_args2 u7 hz8) cf_17 (pensionplain_Ints_ok  _ _ (Hf2.exn (hA rfl)).no (Mb.rep (n := 1) (cells := fun x : Int => [Value.int .i64 x]) (hn := fun _ => rfl) (G := noG) hM8 rfl (Nat.le_of_ble_eq_true rfl) (fun h => h)).no hz3)),
     fun ρz wz hE hA _ ⟨u6, u9, _⟩ => core_val rfl rfl (o_pick_t u6 u9),
     fun ρz wz hE hA _ ⟨u10, _⟩ => core_valE rfl rfl (congrArg Value.bool hd11) (o_move u10),
     fun ρz wz hE hA ⟨e4, _⟩ ⟨u11, _⟩ => gYes rfl u11 (core_val rfl rfl (o_move (e4.trans h4))),
     fun ρz wz hE hA _ ⟨u11, u12, _⟩ => gYes rfl u11 (core_val rfl rfl (o_len (u12.trans hs_Hf4) len_38)),
     fun ρz wz hE hA _ ⟨u11, u13, _⟩ => gYes rfl u11 (core_val rfl rfl (o_eql u13 rfl rfl)),
     fun ρz wz hE hA _ ⟨u11, u14, _⟩ => core_val rfl rfl (o_pick_t u11 u14),
     fun ρz wz hE hA _ ⟨u15, _⟩ => core_valE rfl rfl (congrArg Value.bool hd16) (o_move u15),
     fun ρz wz hE hA ⟨e4, _⟩ ⟨u16, _⟩ => gYes rfl u16 (core_val rfl rfl (o_move (e4.trans h4))),
     fun ρz wz hE hA _ ⟨u16, u17, _⟩ => gYes rfl u16 (core_val rfl rfl (o_indexAddr (u17.trans hvy) rfl (ia_38 hiy))),
     fun ρz wz hE hA _ ⟨u16, u18, _⟩ => gYes rfl u16 (core_val rfl rfl (o_load u18 (run_loadN (cs := (FamilyPay.cells y)) (lr_48 _ _) rfl ((hAy.exn (hA rfl)).ca)))),
     fun ρz wz hE hA _ ⟨u16, _⟩ => gYes rfl u16 (core_val rfl rfl (o_build (build_parts4 rfl rfl rfl rfl) (bd_48_0_1_2_3 _ _ _ _ _))),
     fun ρz wz hE hA _ ⟨u16, u19, u20, _⟩ => gYes rfl u16 (core_val rfl rfl (o_eqS u19 u20 (by kernel_rfl) (eqs_48 9998 _ _ _) rfl)),
     fun ρz wz hE hA _ ⟨u16, u21, _⟩ => core_val rfl rfl (o_pick_t u16 u21),
     fun ρz wz hE hA _ ⟨u22, _⟩ => core_valE rfl rfl (congrArg Value.bool hd23) (o_move u22),
     fun _ _ _ _ _ ⟨u23, _⟩ => gNo rfl u23 rfl trivial,
     fun _ _ _ _ _ ⟨u23, _⟩ => gNo rfl u23 rfl trivial,
     fun _ _ _ _ _ ⟨u23, _⟩ => gNo rfl u23 rfl trivial,
     fun _ _ _ _ _ ⟨u23, _⟩ => gNo rfl u23 rfl trivial,
     fun _ _ _ _ _ ⟨u23, _⟩ => gNo rfl u23 rfl trivial,
     fun ρz wz hE hA _ ⟨u23, _⟩ => core_val rfl rfl (o_pick_f u23 rfl),
     fun ρz wz hE hA _ ⟨u29, _⟩ => core_val rfl rfl (o_move u29),
     fun _ _ _ _ _ ⟨u30, _⟩ => gNo rfl u30 rfl trivial,
     fun _ _ _ _ _ ⟨u30, _⟩ => gNo rfl u30 rfl trivial,
     fun _ _ _ _ _ ⟨u30, _⟩ => gNo rfl u30 rfl trivial,
     fun _ _ _ _ _ ⟨u30, _⟩ => gNo rfl u30 rfl trivial,
     fun _ _ _ _ _ ⟨u30, _⟩ => gNo rfl u30 rfl trivial,
     fun ρz wz hE hA _ ⟨u30, _⟩ => core_val rfl rfl (o_pick_f u30 rfl),
     fun ρz wz hE hA _ ⟨u36, _⟩ => core_val rfl rfl (o_assign u36), trivial⟩ ?_
              intro ρ8 w8 hE hN hf hr
              have hN := hN rfl
              have h0 : ρ8 0 = .bool false := hf 37 rfl
              have Hg_0_at0 := Hg_0
              have Hg_0 := Hg_0.exn hN
              have hW := hW.trans hN
              have hsz := Nat.le_trans hsz hN.size
              exact ⟨(h0.trans (congrArg Value.bool (by simp [hd2, hd6, hd11, hd16, hd23, ← hc, ← hc2, ← hc3, ← hc4]))), Hg_0, hW, hsz⟩
          · have hc2 := (if_neg (Bool.eq_false_iff.1 (by simp [hd2, hd6, hd11, hd16, ← hc]))).symm.trans hc2
            have hc2 := Option.some.inj hc2
            have hc3 := (if_neg (Bool.eq_false_iff.1 (by simp [hd2, hd6, hd11, hd16, ← hc, ← hc2]))).symm.trans hc3
            have hc3 := Option.some.inj hc3
            have hc4 := (if_neg (Bool.eq_false_iff.1 (by simp [hd2, hd6, hd11, hd16, ← hc, ← hc2, ← hc3]))).symm.trans hc4
            have hc4 := Option.some.inj hc4
            refine WP.region mixed [[], [0], [1], [2], [2, 3], [2, 4], [5], [6], [6], [6, 7, 8], [6, 9], [10], [11], [11, 12], [11, 13], [11, 14], [15], [16], [16], [16], [16], [16], [16], [22], [23], [23], [23], [23], [23], [23], [29], [30], [30], [30], [30], [30], [30], [36]] [[], [0], [1], [2], [2, 3], [2, 4], [5], [6], [6], [6, 7, 8], [6, 9], [10], [11], [11, 12], [11, 13], [11, 14], [15], [16], [16], [16], [16], [16], [16], [22], [23], [23], [23], [23], [23], [23], [29], [30], [30], [30], [30], [30], [30], [36]] [[3], [], [], [5], [], [], [], [2], [], [], [], [], [4], [], [], [], [], [], [], [], [], [], [], [], [], [], [], [], [], [], [], [], [], [], [], [], [], []] [] []
              [val 19 (.int .i64 z.2), val 20 (.bool (z.2 == 0)), val 21 (.bool true), val 22 (.int .i64 z2.2), val 23 (.bool (z2.2 == 0)), val 24 (.bool (z2.2 == 0)), val 25 (.bool true), val 26 (v2_), (27, fun u wz => ∃ b, u = .slice (some ⟨b, 0, none⟩) 2 2 ∧ w4.heap.size ≤ b ∧ Mb wz b 3 (([1, 0]).flatMap (fun x : Int => [Value.int .i64 x]))), val 28 (.bool z3), val 29 (.bool z3), val 30 (.bool true), val 31 (v4_), val 32 (.int .i64 (z2.1.length : Int)), val 33 (.bool ((z2.1.length : Int) == 2)), val 34 (.bool ((z2.1.length : Int) == 2)), val 35 (.bool false), anyF 36, anyF 37, anyF 38, anyF 39, anyF 40, val 41 (.bool false), val 42 (.bool false), anyF 43, anyF 44, anyF 45, anyF 46, anyF 47, val 48 (.bool false), val 49 (.bool false), anyF 50, anyF 51, anyF 52, anyF 53, anyF 54, val 55 (.bool false), val 0 (.bool false)] noG (by kernel_rfl)
              ⟨Stable.val _ _ _, Stable.val _ _ _, Stable.val _ _ _, Stable.val _ _ _, Stable.val _ _ _, Stable.val _ _ _, Stable.val _ _ _, Stable.val _ _ _, fun _ _ _ hE ⟨b, hz, hs, hM⟩ => ⟨b, hz, hs, hM.exn hE⟩, Stable.val _ _ _, Stable.val _ _ _, Stable.val _ _ _, Stable.val _ _ _, Stable.val _ _ _, Stable.val _ _ _, Stable.val _ _ _, Stable.val _ _ _, Stable.any _ _, Stable.any _ _, Stable.any _ _, Stable.any _ _, Stable.any _ _, Stable.val _ _ _, Stable.val _ _ _, Stable.any _ _, Stable.any _ _, Stable.any _ _, Stable.any _ _, Stable.any _ _, Stable.val _ _ _, Stable.val _ _ _, Stable.any _ _, Stable.any _ _, Stable.any _ _, Stable.any _ _, Stable.any _ _, Stable.val _ _ _, Stable.val _ _ _, trivial⟩
              ⟨fun ρz wz hE hA ⟨e3, _⟩ _ => core_val rfl rfl (o_move (e3.trans h3)),
     fun ρz wz hE hA _ ⟨u0, _⟩ => core_val rfl rfl (o_eql u0 rfl rfl),
     fun ρz wz hE hA _ ⟨u1, _⟩ => core_valE rfl rfl (congrArg Value.bool hd2) (o_move u1),
     fun ρz wz hE hA ⟨e5, _⟩ ⟨u2, _⟩ => gYes rfl u2 (core_val rfl rfl (o_move (e5.trans h5))),
     fun ρz wz hE hA _ ⟨u2, u3, _⟩ => gYes rfl u2 (core_val rfl rfl (o_eql u3 rfl rfl)),
     fun ρz wz hE hA _ ⟨u2, u4, _⟩ => core_val rfl rfl (o_pick_t u2 u4),
     fun ρz wz hE hA _ ⟨u5, _⟩ => core_valE rfl rfl (congrArg Value.bool hd6) (o_move u5),
     fun ρz wz hE hA ⟨e2, _⟩ ⟨u6, _⟩ => gYes rfl u6 (core_val rfl rfl (o_move (e2.trans h2))),
     fun ρz wz hE hA _ ⟨u6, _⟩ => gYes rfl u6 (core_slice rfl rfl hE (o_buildSlice (build_parts2 rfl rfl) (bs_23_2 _ _ _))),
     fun ρz wz hE hA _ ⟨u6, u7, ⟨bz8, hz8, hge8, hM8⟩, _⟩ => gYes rfl u6 (core_call rfl (call_args2 u7 hz8) cf_17 (pensionplain_Ints_ok  _ _ (Hf2.exn (hA rfl)).no (Mb.rep (n := 1) (cells := fun x : Int => [Value.int .i64 x]) (hn := fun _ => rfl) (G := noG) hM8 rfl (Nat.le_of_ble_eq_true rfl) (fun h => h)).no hz3)),
     fun ρz wz hE hA _ ⟨u6, u9, _⟩ => core_val rfl rfl (o_pick_t u6 u9),
     fun ρz wz hE hA _ ⟨u10, _⟩ => core_valE rfl rfl (congrArg Value.bool hd11) (o_move u10),
     fun ρz wz hE hA ⟨e4, _⟩ ⟨u11, _⟩ => gYes rfl u11 (core_val rfl rfl (o_move (e4.trans h4))),
     fun ρz wz hE hA _ ⟨u11, u12, _⟩ => gYes rfl u11 (core_val rfl rfl (o_len (u12.trans hs_Hf4) len_38)),
     fun ρz wz hE hA _ ⟨u11, u13, _⟩ => gYes rfl u11 (core_val rfl rfl (o_eql u13 rfl rfl)),
     fun ρz wz hE hA _ ⟨u11, u14, _⟩ => core_val rfl rfl (o_pick_t u11 u14),
     fun ρz wz hE hA _ ⟨u15, _⟩ => core_valE rfl rfl (congrArg Value.bool hd16) (o_move u15),
     fun _ _ _ _ _ ⟨u16, _⟩ => gNo rfl u16 rfl trivial,
     fun _ _ _ _ _ ⟨u16, _⟩ => gNo rfl u16 rfl trivial,
     fun _ _ _ _ _ ⟨u16, _⟩ => gNo rfl u16 rfl trivial,
     fun _ _ _ _ _ ⟨u16, _⟩ => gNo rfl u16 rfl trivial,
     fun _ _ _ _ _ ⟨u16, _⟩ => gNo rfl u16 rfl trivial,
     fun ρz wz hE hA _ ⟨u16, _⟩ => core_val rfl rfl (o_pick_f u16 rfl),
     fun ρz wz hE hA _ ⟨u22, _⟩ => core_val rfl rfl (o_move u22),
     fun _ _ _ _ _ ⟨u23, _⟩ => gNo rfl u23 rfl trivial,
     fun _ _ _ _ _ ⟨u23, _⟩ => gNo rfl u23 rfl trivial,
     fun _ _ _ _ _ ⟨u23, _⟩ => gNo rfl u23 rfl trivial,
     fun _ _ _ _ _ ⟨u23, _⟩ => gNo rfl u23 rfl trivial,
     fun _ _ _ _ _ ⟨u23, _⟩ => gNo rfl u23 rfl trivial,
     fun ρz wz hE hA _ ⟨u23, _⟩ => core_val rfl rfl (o_pick_f u23 rfl),
     fun ρz wz hE hA _ ⟨u29, _⟩ => core_val rfl rfl (o_move u29),
     fun _ _ _ _ _ ⟨u30, _⟩ => gNo rfl u30 rfl trivial,
     fun _ _ _ _ _ ⟨u30, _⟩ => gNo rfl u30 rfl trivial,
     fun _ _ _ _ _ ⟨u30, _⟩ => gNo rfl u30 rfl trivial,
     fun _ _ _ _ _ ⟨u30, _⟩ => gNo rfl u30 rfl trivial,
     fun _ _ _ _ _ ⟨u30, _⟩ => gNo rfl u30 rfl trivial,
     fun ρz wz hE hA _ ⟨u30, _⟩ => core_val rfl rfl (o_pick_f u30 rfl),
     fun ρz wz hE hA _ ⟨u36, _⟩ => core_val rfl rfl (o_assign u36), trivial⟩ ?_
            intro ρ9 w9 hE hN hf hr
            have hN := hN rfl
            have h0 : ρ9 0 = .bool false := hf 37 rfl
            have Hg_0_at0 := Hg_0
            have Hg_0 := Hg_0.exn hN
            have hW := hW.trans hN
            have hsz := Nat.le_trans hsz hN.size
            exact ⟨(h0.trans (congrArg Value.bool (by simp [hd2, hd6, hd11, hd16, ← hc, ← hc2, ← hc3, ← hc4]))), Hg_0, hW, hsz⟩
        · have hc2 := (if_neg (Bool.eq_false_iff.1 (by simp [hd2, hd6, hd11, ← hc]))).symm.trans hc2
          have hc2 := Option.some.inj hc2
          have hc3 := (if_neg (Bool.eq_false_iff.1 (by simp [hd2, hd6, hd11, ← hc, ← hc2]))).symm.trans hc3
          have hc3 := Option.some.inj hc3
          have hc4 := (if_neg (Bool.eq_false_iff.1 (by simp [hd2, hd6, hd11, ← hc, ← hc2, ← hc3]))).symm.trans hc4
          have hc4 := Option.some.inj hc4
          refine WP.region mixed [[], [0], [1], [2], [2, 3], [2, 4], [5], [6], [6], [6, 7, 8], [6, 9], [10], [11], [11], [11], [11], [15], [16], [16], [16], [16], [16], [16], [22], [23], [23], [23], [23], [23], [23], [29], [30], [30], [30], [30], [30], [30], [36]] [[], [0], [1], [2], [2, 3], [2, 4], [5], [6], [6], [6, 7, 8], [6, 9], [10], [11], [11], [11], [11], [15], [16], [16], [16], [16], [16], [16], [22], [23], [23], [23], [23], [23], [23], [29], [30], [30], [30], [30], [30], [30], [36]] [[3], [], [], [5], [], [], [], [2], [], [], [], [], [], [], [], [], [], [], [], [], [], [], [], [], [], [], [], [], [], [], [], [], [], [], [], [], [], []] [] []
            [val 19 (.int .i64 z.2), val 20 (.bool (z.2 == 0)), val 21 (.bool true), val 22 (.int .i64 z2.2), val 23 (.bool (z2.2 == 0)), val 24 (.bool (z2.2 == 0)), val 25 (.bool true), val 26 (v2_), (27, fun u wz => ∃ b, u = .slice (some ⟨b, 0, none⟩) 2 2 ∧ w4.heap.size ≤ b ∧ Mb wz b 3 (([1, 0]).flatMap (fun x : Int => [Value.int .i64 x]))), val 28 (.bool z3), val 29 (.bool z3), val 30 (.bool false), anyF 31, anyF 32, anyF 33, val 34 (.bool false), val 35 (.bool false), anyF 36, anyF 37, anyF 38, anyF 39, anyF 40, val 41 (.bool false), val 42 (.bool false), anyF 43, anyF 44, anyF 45, anyF 46, anyF 47, val 48 (.bool false), val 49 (.bool false), anyF 50, anyF 51, anyF 52, anyF 53, anyF 54, val 55 (.bool false), val 0 (.bool false)] noG (by kernel_rfl)
            ⟨Stable.val _ _ _, Stable.val _ _ _, Stable.val _ _ _, Stable.val _ _ _, Stable.val _ _ _, Stable.val _ _ _, Stable.val _ _ _, Stable.val _ _ _, fun _ _ _ hE ⟨b, hz, hs, hM⟩ => ⟨b, hz, hs, hM.exn hE⟩, Stable.val _ _ _, Stable.val _ _ _, Stable.val _ _ _, Stable.any _ _, Stable.any _ _, Stable.any _ _, Stable.val _ _ _, Stable.val _ _ _, Stable.any _ _, Stable.any _ _, Stable.any _ _, Stable.any _ _, Stable.any _ _, Stable.val _ _ _, Stable.val _ _ _, Stable.any _ _, Stable.any _ _, Stable.any _ _, Stable.any _ _, Stable.any _ _, Stable.val _ _ _, Stable.val _ _ _, Stable.any _ _, Stable.any _ _, Stable.any _ _, Stable.any _ _, Stable.any _ _, Stable.val _ _ _, Stable.val _ _ _, trivial⟩
            ⟨fun ρz wz hE hA ⟨e3, _⟩ _ => core_val rfl rfl (o_move (e3.trans h3)),
     fun ρz wz hE hA _ ⟨u0, _⟩ => core_val rfl rfl (o_eql u0 rfl rfl),
     fun ρz wz hE hA _ ⟨u1, _⟩ => core_valE rfl rfl (congrArg Value.bool hd2) (o_move u1),
     fun ρz wz hE hA ⟨e5, _⟩ ⟨u2, _⟩ => gYes rfl u2 (core_val rfl rfl (o_move (e5.trans h5))),
     fun ρz wz hE hA _ ⟨u2, u3, _⟩ => gYes rfl u2 (core_val rfl rfl (o_eql u3 rfl rfl)),
     fun ρz wz hE hA _ ⟨u2, u4, _⟩ => core_val rfl rfl (o_pick_t u2 u4),
     fun ρz wz hE hA _ ⟨u5, _⟩ => core_valE rfl rfl (congrArg Value.bool hd6) (o_move u5),
     fun ρz wz hE hA ⟨e2, _⟩ ⟨u6, _⟩ => gYes rfl u6 (core_val rfl rfl (o_move (e2.trans h2))),
     fun ρz wz hE hA _ ⟨u6, _⟩ => gYes rfl u6 (core_slice rfl rfl hE (o_buildSlice (build_parts2 rfl rfl) (bs_23_2 _ _ _))),
     fun ρz wz hE hA _ ⟨u6, u7, ⟨bz8, hz8, hge8, hM8⟩, _⟩ => gYes rfl u6 (core_call rfl (call_args2 u7 hz8) cf_17 (pensionplain_Ints_ok  _ _ (Hf2.exn (hA rfl)).no (Mb.rep (n := 1) (cells := fun x : Int => [Value.int .i64 x]) (hn := fun _ => rfl) (G := noG) hM8 rfl (Nat.le_of_ble_eq_true rfl) (fun h => h)).no hz3)),
     fun ρz wz hE hA _ ⟨u6, u9, _⟩ => core_val rfl rfl (o_pick_t u6 u9),
     fun ρz wz hE hA _ ⟨u10, _⟩ => core_valE rfl rfl (congrArg Value.bool hd11) (o_move u10),
     fun _ _ _ _ _ ⟨u11, _⟩ => gNo rfl u11 rfl trivial,
     fun _ _ _ _ _ ⟨u11, _⟩ => gNo rfl u11 rfl trivial,
     fun _ _ _ _ _ ⟨u11, _⟩ => gNo rfl u11 rfl trivial,
     fun ρz wz hE hA _ ⟨u11, _⟩ => core_val rfl rfl (o_pick_f u11 rfl),
     fun ρz wz hE hA _ ⟨u15, _⟩ => core_val rfl rfl (o_move u15),
     fun _ _ _ _ _ ⟨u16, _⟩ => gNo rfl u16 rfl trivial,
     fun _ _ _ _ _ ⟨u16, _⟩ => gNo rfl u16 rfl trivial,
     fun _ _ _ _ _ ⟨u16, _⟩ => gNo rfl u16 rfl trivial,
     fun _ _ _ _ _ ⟨u16, _⟩ => gNo rfl u16 rfl trivial,
     fun _ _ _ _ _ ⟨u16, _⟩ => gNo rfl u16 rfl trivial,
     fun ρz wz hE hA _ ⟨u16, _⟩ => core_val rfl rfl (o_pick_f u16 rfl),
     fun ρz wz hE hA _ ⟨u22, _⟩ => core_val rfl rfl (o_move u22),
     fun _ _ _ _ _ ⟨u23, _⟩ => gNo rfl u23 rfl trivial,
     fun _ _ _ _ _ ⟨u23, _⟩ => gNo rfl u23 rfl trivial,
     fun _ _ _ _ _ ⟨u23, _⟩ => gNo rfl u23 rfl trivial,
     fun _ _ _ _ _ ⟨u23, _⟩ => gNo rfl u23 rfl trivial,
     fun _ _ _ _ _ ⟨u23, _⟩ => gNo rfl u23 rfl trivial,
     fun ρz wz hE hA _ ⟨u23, _⟩ => core_val rfl rfl (o_pick_f u23 rfl),
     fun ρz wz hE hA _ ⟨u29, _⟩ => core_val rfl rfl (o_move u29),
     fun _ _ _ _ _ ⟨u30, _⟩ => gNo rfl u30 rfl trivial,
     fun _ _ _ _ _ ⟨u30, _⟩ => gNo rfl u30 rfl trivial,
     fun _ _ _ _ _ ⟨u30, _⟩ => gNo rfl u30 rfl trivial,
     fun _ _ _ _ _ ⟨u30, _⟩ => gNo rfl u30 rfl trivial,
     fun _ _ _ _ _ ⟨u30, _⟩ => gNo rfl u30 rfl trivial,
     fun ρz wz hE hA _ ⟨u30, _⟩ => core_val rfl rfl (o_pick_f u30 rfl),
     fun ρz wz hE hA _ ⟨u36, _⟩ => core_val rfl rfl (o_assign u36), trivial⟩ ?_
          intro ρ10 w10 hE hN hf hr
          have hN := hN rfl
          have h0 : ρ10 0 = .bool false := hf 37 rfl
          have Hg_0_at0 := Hg_0
          have Hg_0 := Hg_0.exn hN
          have hW := hW.trans hN
          have hsz := Nat.le_trans hsz hN.size
          exact ⟨(h0.trans (congrArg Value.bool (by simp [hd2, hd6, hd11, ← hc, ← hc2, ← hc3, ← hc4]))), Hg_0, hW, hsz⟩
      · have hc := (if_neg (Bool.eq_false_iff.1 (by simp [hd2, hd6]))).symm.trans hc
        have hc := Option.some.inj hc
        have hc2 := (if_neg (Bool.eq_false_iff.1 (by simp [hd2, hd6, ← hc]))).symm.trans hc2
        have hc2 := Option.some.inj hc2
        have hc3 := (if_neg (Bool.eq_false_iff.1 (by simp [hd2, hd6, ← hc, ← hc2]))).symm.trans hc3
        have hc3 := Option.some.inj hc3
        have hc4 := (if_neg (Bool.eq_false_iff.1 (by simp [hd2, hd6, ← hc, ← hc2, ← hc3]))).symm.trans hc4
        have hc4 := Option.some.inj hc4
        refine WP.region mixed [[], [0], [1], [2], [2, 3], [2, 4], [5], [6], [6], [6], [6], [10], [11], [11], [11], [11], [15], [16], [16], [16], [16], [16], [16], [22], [23], [23], [23], [23], [23], [23], [29], [30], [30], [30], [30], [30], [30], [36]] [[], [0], [1], [2], [2, 3], [2, 4], [5], [6], [6], [6], [6], [10], [11], [11], [11], [11], [15], [16], [16], [16], [16], [16], [16], [22], [23], [23], [23], [23], [23], [23], [29], [30], [30], [30], [30], [30], [30], [36]] [[3], [], [], [5], [], [], [], [], [], [], [], [], [], [], [], [], [], [], [], [], [], [], [], [], [], [], [], [], [], [], [], [], [], [], [], [], [], []] [] []
          [val 19 (.int .i64 z.2), val 20 (.bool (z.2 == 0)), val 21 (.bool true), val 22 (.int .i64 z2.2), val 23 (.bool (z2.2 == 0)), val 24 (.bool (z2.2 == 0)), val 25 (.bool false), anyF 26, anyF 27, anyF 28, val 29 (.bool false), val 30 (.bool false), anyF 31, anyF 32, anyF 33, val 34 (.bool false), val 35 (.bool false), anyF 36, anyF 37, anyF 38, anyF 39, anyF 40, val 41 (.bool false), val 42 (.bool false), anyF 43, anyF 44, anyF 45, anyF 46, anyF 47, val 48 (.bool false), val 49 (.bool false), anyF 50, anyF 51, anyF 52, anyF 53, anyF 54, val 55 (.bool false), val 0 (.bool false)] noG (by kernel_rfl)
          ⟨Stable.val _ _ _, Stable.val _ _ _, Stable.val _ _ _, Stable.val _ _ _, Stable.val _ _ _, Stable.val _ _ _, Stable.val _ _ _, Stable.any _ _, Stable.any _ _, Stable.any _ _, Stable.val _ _ _, Stable.val _ _ _, Stable.any _ _, Stable.any _ _, Stable.any _ _, Stable.val _ _ _, Stable.val _ _ _, Stable.any _ _, Stable.any _ _, Stable.any _ _, Stable.any _ _, Stable.any _ _, Stable.val _ _ _, Stable.val _ _ _, Stable.any _ _, Stable.any _ _, Stable.any _ _, Stable.any _ _, Stable.any _ _, Stable.val _ _ _, Stable.val _ _ _, Stable.any _ _, Stable.any _ _, Stable.any _ _, Stable.any _ _, Stable.any _ _, Stable.val _ _ _, Stable.val _ _ _, trivial⟩
          ⟨fun ρz wz hE hA ⟨e3, _⟩ _ => core_val rfl rfl (o_move (e3.trans h3)),
     fun ρz wz hE hA _ ⟨u0, _⟩ => core_val rfl rfl (o_eql u0 rfl rfl),
     fun ρz wz hE hA _ ⟨u1, _⟩ => core_valE rfl rfl (congrArg Value.bool hd2) (o_move u1),
     fun ρz wz hE hA ⟨e5, _⟩ ⟨u2, _⟩ => gYes rfl u2 (core_val rfl rfl (o_move (e5.trans h5))),
     fun ρz wz hE hA _ ⟨u2, u3, _⟩ => gYes rfl u2 (core_val rfl rfl (o_eql u3 rfl rfl)),
     fun ρz wz hE hA _ ⟨u2, u4, _⟩ => core_val rfl rfl (o_pick_t u2 u4),
     fun ρz wz hE hA _ ⟨u5, _⟩ => core_valE rfl rfl (congrArg Value.bool hd6) (o_move u5),
     fun _ _ _ _ _ ⟨u6, _⟩ => gNo rfl u6 rfl trivial,
     fun _ _ _ _ _ ⟨u6, _⟩ => gNo rfl u6 rfl trivial,
     fun _ _ _ _ _ ⟨u6, _⟩ => gNo rfl u6 rfl trivial,
     fun ρz wz hE hA _ ⟨u6, _⟩ => core_val rfl rfl (o_pick_f u6 rfl),
     fun ρz wz hE hA _ ⟨u10, _⟩ => core_val rfl rfl (o_move u10),
     fun _ _ _ _ _ ⟨u11, _⟩ => gNo rfl u11 rfl trivial,
     fun _ _ _ _ _ ⟨u11, _⟩ => gNo rfl u11 rfl trivial,
     fun _ _ _ _ _ ⟨u11, _⟩ => gNo rfl u11 rfl trivial,
     fun ρz wz hE hA _ ⟨u11, _⟩ => core_val rfl rfl (o_pick_f u11 rfl),
     fun ρz wz hE hA _ ⟨u15, _⟩ => core_val rfl rfl (o_move u15),
     fun _ _ _ _ _ ⟨u16, _⟩ => gNo rfl u16 rfl trivial,
     fun _ _ _ _ _ ⟨u16, _⟩ => gNo rfl u16 rfl trivial,
     fun _ _ _ _ _ ⟨u16, _⟩ => gNo rfl u16 rfl trivial,
     fun _ _ _ _ _ ⟨u16, _⟩ => gNo rfl u16 rfl trivial,
     fun _ _ _ _ _ ⟨u16, _⟩ => gNo rfl u16 rfl trivial,
     fun ρz wz hE hA _ ⟨u16, _⟩ => core_val rfl rfl (o_pick_f u16 rfl),
     fun ρz wz hE hA _ ⟨u22, _⟩ => core_val rfl rfl (o_move u22),
     fun _ _ _ _ _ ⟨u23, _⟩ => gNo rfl u23 rfl trivial,
     fun _ _ _ _ _ ⟨u23, _⟩ => gNo rfl u23 rfl trivial,
     fun _ _ _ _ _ ⟨u23, _⟩ => gNo rfl u23 rfl trivial,
     fun _ _ _ _ _ ⟨u23, _⟩ => gNo rfl u23 rfl trivial,
     fun _ _ _ _ _ ⟨u23, _⟩ => gNo rfl u23 rfl trivial,
     fun ρz wz hE hA _ ⟨u23, _⟩ => core_val rfl rfl (o_pick_f u23 rfl),
     fun ρz wz hE hA _ ⟨u29, _⟩ => core_val rfl rfl (o_move u29),
     fun _ _ _ _ _ ⟨u30, _⟩ => gNo rfl u30 rfl trivial,
     fun _ _ _ _ _ ⟨u30, _⟩ => gNo rfl u30 rfl trivial,
     fun _ _ _ _ _ ⟨u30, _⟩ => gNo rfl u30 rfl trivial,
     fun _ _ _ _ _ ⟨u30, _⟩ => gNo rfl u30 rfl trivial,
     fun _ _ _ _ _ ⟨u30, _⟩ => gNo rfl u30 rfl trivial,
     fun ρz wz hE hA _ ⟨u30, _⟩ => core_val rfl rfl (o_pick_f u30 rfl),
     fun ρz wz hE hA _ ⟨u36, _⟩ => core_val rfl rfl (o_assign u36), trivial⟩ ?_
        intro ρ11 w11 hE hN hf hr
        have hN := hN rfl
        have h0 : ρ11 0 = .bool false := hf 37 rfl
        have Hg_0_at0 := Hg_0
        have Hg_0 := Hg_0.exn hN
        have hW := hW.trans hN
        have hsz := Nat.le_trans hsz hN.size
        exact ⟨(h0.trans (congrArg Value.bool (by simp [hd2, hd6, ← hc, ← hc2, ← hc3, ← hc4]))), Hg_0, hW, hsz⟩
    · have hc := (if_neg (Bool.eq_false_iff.1 (by simp [hd2]))).symm.trans hc
      have hc := Option.some.inj hc
      have hc2 := (if_neg (Bool.eq_false_iff.1 (by simp [hd2, ← hc]))).symm.trans hc2
      have hc2 := Option.some.inj hc2
      have hc3 := (if_neg (Bool.eq_false_iff.1 (by simp [hd2, ← hc, ← hc2]))).symm.trans hc3
      have hc3 := Option.some.inj hc3
      have hc4 := (if_neg (Bool.eq_false_iff.1 (by simp [hd2, ← hc, ← hc2, ← hc3]))).symm.trans hc4
      have hc4 := Option.some.inj hc4
      refine WP.region mixed [[], [0], [1], [2], [2], [2], [5], [6], [6], [6], [6], [10], [11], [11], [11], [11], [15], [16], [16], [16], [16], [16], [16], [22], [23], [23], [23], [23], [23], [23], [29], [30], [30], [30], [30], [30], [30], [36]] [[], [0], [1], [2], [2], [2], [5], [6], [6], [6], [6], [10], [11], [11], [11], [11], [15], [16], [16], [16], [16], [16], [16], [22], [23], [23], [23], [23], [23], [23], [29], [30], [30], [30], [30], [30], [30], [36]] [[3], [], [], [], [], [], [], [], [], [], [], [], [], [], [], [], [], [], [], [], [], [], [], [], [], [], [], [], [], [], [], [], [], [], [], [], [], []] [] []
        [val 19 (.int .i64 z.2), val 20 (.bool (z.2 == 0)), val 21 (.bool false), anyF 22, anyF 23, val 24 (.bool false), val 25 (.bool false), anyF 26, anyF 27, anyF 28, val 29 (.bool false), val 30 (.bool false), anyF 31, anyF 32, anyF 33, val 34 (.bool false), val 35 (.bool false), anyF 36, anyF 37, anyF 38, anyF 39, anyF 40, val 41 (.bool false), val 42 (.bool false), anyF 43, anyF 44, anyF 45, anyF 46, anyF 47, val 48 (.bool false), val 49 (.bool false), anyF 50, anyF 51, anyF 52, anyF 53, anyF 54, val 55 (.bool false), val 0 (.bool false)] noG (by kernel_rfl)
        ⟨Stable.val _ _ _, Stable.val _ _ _, Stable.val _ _ _, Stable.any _ _, Stable.any _ _, Stable.val _ _ _, Stable.val _ _ _, Stable.any _ _, Stable.any _ _, Stable.any _ _, Stable.val _ _ _, Stable.val _ _ _, Stable.any _ _, Stable.any _ _, Stable.any _ _, Stable.val _ _ _, Stable.val _ _ _, Stable.any _ _, Stable.any _ _, Stable.any _ _, Stable.any _ _, Stable.any _ _, Stable.val _ _ _, Stable.val _ _ _, Stable.any _ _, Stable.any _ _, Stable.any _ _, Stable.any _ _, Stable.any _ _, Stable.val _ _ _, Stable.val _ _ _, Stable.any _ _, Stable.any _ _, Stable.any _ _, Stable.any _ _, Stable.any _ _, Stable.val _ _ _, Stable.val _ _ _, trivial⟩
        ⟨fun ρz wz hE hA ⟨e3, _⟩ _ => core_val rfl rfl (o_move (e3.trans h3)),
     fun ρz wz hE hA _ ⟨u0, _⟩ => core_val rfl rfl (o_eql u0 rfl rfl),
     fun ρz wz hE hA _ ⟨u1, _⟩ => core_valE rfl rfl (congrArg Value.bool hd2) (o_move u1),
     fun _ _ _ _ _ ⟨u2, _⟩ => gNo rfl u2 rfl trivial,
     fun _ _ _ _ _ ⟨u2, _⟩ => gNo rfl u2 rfl trivial,
     fun ρz wz hE hA _ ⟨u2, _⟩ => core_val rfl rfl (o_pick_f u2 rfl),
     fun ρz wz hE hA _ ⟨u5, _⟩ => core_val rfl rfl (o_move u5),
     fun _ _ _ _ _ ⟨u6, _⟩ => gNo rfl u6 rfl trivial,
     fun _ _ _ _ _ ⟨u6, _⟩ => gNo rfl u6 rfl trivial,
     fun _ _ _ _ _ ⟨u6, _⟩ => gNo rfl u6 rfl trivial,
     fun ρz wz hE hA _ ⟨u6, _⟩ => core_val rfl rfl (o_pick_f u6 rfl),
     fun ρz wz hE hA _ ⟨u10, _⟩ => core_val rfl rfl (o_move u10),
     fun _ _ _ _ _ ⟨u11, _⟩ => gNo rfl u11 rfl trivial,
     fun _ _ _ _ _ ⟨u11, _⟩ => gNo rfl u11 rfl trivial,
     fun _ _ _ _ _ ⟨u11, _⟩ => gNo rfl u11 rfl trivial,
     fun ρz wz hE hA _ ⟨u11, _⟩ => core_val rfl rfl (o_pick_f u11 rfl),
     fun ρz wz hE hA _ ⟨u15, _⟩ => core_val rfl rfl (o_move u15),
     fun _ _ _ _ _ ⟨u16, _⟩ => gNo rfl u16 rfl trivial,
     fun _ _ _ _ _ ⟨u16, _⟩ => gNo rfl u16 rfl trivial,
     fun _ _ _ _ _ ⟨u16, _⟩ => gNo rfl u16 rfl trivial,
     fun _ _ _ _ _ ⟨u16, _⟩ => gNo rfl u16 rfl trivial,
     fun _ _ _ _ _ ⟨u16, _⟩ => gNo rfl u16 rfl trivial,
     fun ρz wz hE hA _ ⟨u16, _⟩ => core_val rfl rfl (o_pick_f u16 rfl),
     fun ρz wz hE hA _ ⟨u22, _⟩ => core_val rfl rfl (o_move u22),
     fun _ _ _ _ _ ⟨u23, _⟩ => gNo rfl u23 rfl trivial,
     fun _ _ _ _ _ ⟨u23, _⟩ => gNo rfl u23 rfl trivial,
     fun _ _ _ _ _ ⟨u23, _⟩ => gNo rfl u23 rfl trivial,
     fun _ _ _ _ _ ⟨u23, _⟩ => gNo rfl u23 rfl trivial,
     fun _ _ _ _ _ ⟨u23, _⟩ => gNo rfl u23 rfl trivial,
     fun ρz wz hE hA _ ⟨u23, _⟩ => core_val rfl rfl (o_pick_f u23 rfl),
     fun ρz wz hE hA _ ⟨u29, _⟩ => core_val rfl rfl (o_move u29),
     fun _ _ _ _ _ ⟨u30, _⟩ => gNo rfl u30 rfl trivial,
     fun _ _ _ _ _ ⟨u30, _⟩ => gNo rfl u30 rfl trivial,
     fun _ _ _ _ _ ⟨u30, _⟩ => gNo rfl u30 rfl trivial,
     fun _ _ _ _ _ ⟨u30, _⟩ => gNo rfl u30 rfl trivial,
     fun _ _ _ _ _ ⟨u30, _⟩ => gNo rfl u30 rfl trivial,
     fun ρz wz hE hA _ ⟨u30, _⟩ => core_val rfl rfl (o_pick_f u30 rfl),
     fun ρz wz hE hA _ ⟨u36, _⟩ => core_val rfl rfl (o_assign u36), trivial⟩ ?_
      intro ρ12 w12 hE hN hf hr
      have hN := hN rfl
      have h0 : ρ12 0 = .bool false := hf 37 rfl
      have Hg_0_at0 := Hg_0
      have Hg_0 := Hg_0.exn hN
      have hW := hW.trans hN
      have hsz := Nat.le_trans hsz hN.size
      exact ⟨(h0.trans (congrArg Value.bool (by simp [hd2, ← hc, ← hc2, ← hc3, ← hc4]))), Hg_0, hW, hsz⟩
  rintro ρ5 w5 ⟨h0, Hg_0, hW, hsz⟩
  refine WP.ret ?_
  show retQ Tryd.prog 56 Tryd.f16 (fun v w1 => v = .bool r ∧ Ext noG w0 w1) .ret ρ5 w5
  obtain rfl := Option.some.inj hF
  exact res1 rfl (by decide) h0 ⟨rfl, hW⟩

set_option maxHeartbeats 4000000 in
theorem pensionlaw24_FamilyRejectsOneRight_ok {w0 : World} (Hg_0 : GR [Value.int .i64 1, Value.int .i64 1] noG w0 0) (d_ : List pensionlaw24_Raw) (i_ : Int) (p_ : Int) (p_2 : Int) {v_d_ : Value} (H_d_ : RepSl pensionlaw24_Raw.R noG w0 v_d_ d_) {r : Bool} (hF : pensionlaw24_FamilyRejectsOneRight d_ i_ p_ p_2 = some r) :
    Calls Tryd.prog 5 #[v_d_, .int .i64 i_, .int .i64 p_, .int .i64 p_2] w0 fun e w1 => e = .returned (.bool r) ∧ Ext noG w0 w1 := by
  refine (Calls.start (P := Tryd.prog) (args := [v_d_, .int .i64 i_, .int .i64 p_, .int .i64 p_2]) (R := fun v w1 => v = .bool r ∧ Ext noG w0 w1) (n := 111) (w := w0) Tryd.func5 rfl rfl (Nat.le_of_ble_eq_true rfl) (fun ρ hargs => ?_)).mono (fun e w1 ⟨v, he, hv, hE⟩ => ⟨hv ▸ he, hE⟩)
  have h0 := hargs 0 _ rfl
  have h1 := hargs 1 _ rfl
  have h2 := hargs 2 _ rfl
  have h3 := hargs 3 _ rfl
  have hW := Ext.refl noG w0
  have hsz := Nat.le_refl w0.heap.size
  obtain ⟨_, _, hs_H_d_, _, _⟩ := RepSl.shape H_d_
  have H_d_ := H_d_.start
  have Hg_0 := Hg_0.start
  rw [pensionlaw24_FamilyRejectsOneRight] at hF
  refine WP.seq ?_
  refine WP.region mixed [[]] [[]] [[]] [] []
    [val 8 (.bool false)] noG (by kernel_rfl)
    ⟨Stable.val _ _ _, trivial⟩
    ⟨fun ρz wz hE hA _ _ => core_val rfl rfl (o_assign rfl), trivial⟩ ?_
  intro ρ1 w1 hE hN hf hr
  have hN := hN rfl
  have h0 := (hr 0 rfl).trans h0
  have h1 := (hr 1 rfl).trans h1
  have h2 := (hr 2 rfl).trans h2
  have h3 := (hr 3 rfl).trans h3
  have H_d__at0 := H_d_
  have H_d_ := H_d_.exn hN
  have Hg_0_at0 := Hg_0
  have Hg_0 := Hg_0.exn hN
  have hW := hW.trans hN
  have hsz := Nat.le_trans hsz hN.size
  refine WP.seq ?_
  obtain ⟨z, hz, hF⟩ := obind hF
  refine WP.region mixed [[], [0], [1]] [[], [0], [1]] [[0], [], []] [] []
    [val 18 (v_d_), (19, fun u wz => Own w0.heap.size 43 4 Right.cells wz u z ∧ ∀ b, u.ownBlock = some b → w1.heap.size ≤ b), (9, fun u wz => Own w0.heap.size 43 4 Right.cells wz u z ∧ ∀ b, u.ownBlock = some b → w1.heap.size ≤ b)] noG (by kernel_rfl)
    ⟨Stable.val _ _ _, fun _ _ _ hE ⟨hO, hf⟩ => ⟨hO.exn hE, hf⟩, fun _ _ _ hE ⟨hO, hf⟩ => ⟨hO.exn hE, hf⟩, trivial⟩
    ⟨fun ρz wz hE hA ⟨e0, _⟩ _ => core_val rfl rfl (o_move (e0.trans h0)),
     fun ρz wz hE hA _ ⟨u0, _⟩ => core_callR rfl (call_args1 u0) cf_11 ((pensionlaw24_List_ok  _ (H_d_.exn (hA rfl)).no hz).mono (fun e w1 ⟨v, he, hE1, hO⟩ => ⟨v, he, hE1, hO.base (Nat.le_trans hsz hE.size), fun b hb => Nat.le_trans hE.size (hO.lt hb).1⟩)),
     fun ρz wz hE hA _ ⟨⟨hO1, hfr1⟩, _⟩ => core_copy rfl rfl (o_assign rfl) ⟨hO1, hfr1⟩, trivial⟩ ?_
  intro ρ2 w2 hE hN hf hr
  have hN := hN rfl
  have h1 := (hr 1 rfl).trans h1
  have h2 := (hr 2 rfl).trans h2
  have h3 := (hr 3 rfl).trans h3
  obtain ⟨v9_, h9⟩ : ∃ v, ρ2 9 = v := ⟨_, rfl⟩
  have hq9 : (fun u wz => Own w0.heap.size 43 4 Right.cells wz u z ∧ ∀ b, u.ownBlock = some b → w1.heap.size ≤ b) (ρ2 9) w2 := hf 2 rfl
  rw [h9] at hq9
  obtain ⟨hq9, hfr9⟩ := hq9
  have Hg_0_at0 := Hg_0
  have Hg_0 := Hg_0.exn hN
  have hW := hW.trans hN
  have O9 := hq9
  have hsz := Nat.le_trans hsz hN.size
  refine WP.seq ?_
  refine WP.seq ?_
  obtain ⟨z2, hz2, hF⟩ := obind hF
  refine WP.region mixed [[], [0], [1], [2], [2], [3], [4]] [[], [0], [1], [2], [2], [3], [4]] [[9], [], [], [], [], [], []] [] []
    [val 21 (v9_), (22, fun u wz => ∃ q : Value, u = .tuple #[q, .int .i64 z2.2] ∧ Own w0.heap.size 3 1 (fun x : Int => [Value.int .i64 x]) wz q z2.1 ∧ ∀ b, q.ownBlock = some b → w2.heap.size ≤ b), (20, fun u wz => ∃ q : Value, u = .tuple #[q, .int .i64 z2.2] ∧ Own w0.heap.size 3 1 (fun x : Int => [Value.int .i64 x]) wz q z2.1 ∧ ∀ b, q.ownBlock = some b → w2.heap.size ≤ b), (23, fun u wz => Own w0.heap.size 3 1 (fun x : Int => [Value.int .i64 x]) wz u z2.1 ∧ ∀ b, u.ownBlock = some b → w2.heap.size ≤ b), val 24 (.int .i64 z2.2), (10, fun u wz => Own w0.heap.size 3 1 (fun x : Int => [Value.int .i64 x]) wz u z2.1 ∧ ∀ b, u.ownBlock = some b → w2.heap.size ≤ b), val 11 (.int .i64 z2.2)] noG (by kernel_rfl)
    ⟨Stable.val _ _ _, fun _ _ _ hE ⟨q, ht, hO, hf⟩ => ⟨q, ht, hO.exn hE, hf⟩, fun _ _ _ hE ⟨q, ht, hO, hf⟩ => ⟨q, ht, hO.exn hE, hf⟩, fun _ _ _ hE ⟨hO, hf⟩ => ⟨hO.exn hE, hf⟩, Stable.val _ _ _, fun _ _ _ hE ⟨hO, hf⟩ => ⟨hO.exn hE, hf⟩, Stable.val _ _ _, trivial⟩
    ⟨fun ρz wz hE hA ⟨e9, _⟩ _ => core_val rfl rfl (o_move (e9.trans h9)),
     fun ρz wz hE hA _ ⟨u0, _⟩ => core_callR rfl (call_args4 u0 rfl rfl rfl) cf_14 ((family_Order_ok  _ _ _ _ ((O9.exn (hA rfl)).rep (hn := fun _ => rfl) (G := noG) (fun _ _ h => h)).no (RepSl.nil _ noG _).no hz2).mono (fun e w1 ⟨v, he, hE1, q, hv, hO⟩ => ⟨v, he, hE1, q, hv, hO.base (Nat.le_trans hsz hE.size), fun b hb => Nat.le_trans hE.size (hO.lt hb).1⟩)),
     fun ρz wz hE hA _ ⟨⟨q1, ht1, hO1, hfr1⟩, _⟩ => core_copy rfl rfl (o_move rfl) ⟨q1, ht1, hO1, hfr1⟩,
     fun ρz wz hE hA _ ⟨⟨q2, ht2, hO2, hfr2⟩, _⟩ => core_copy rfl rfl (o_extract ht2 (by kernel_rfl)) ⟨hO2, hfr2⟩,
     fun ρz wz hE hA _ ⟨⟨q2, ht2, hO2, hfr2⟩, _⟩ => core_val rfl rfl (o_extract ht2 (by kernel_rfl)),
     fun ρz wz hE hA _ ⟨⟨hO3, hfr3⟩, _⟩ => core_copy rfl rfl (o_assign rfl) ⟨hO3, hfr3⟩,
     fun ρz wz hE hA _ ⟨u4, _⟩ => core_val rfl rfl (o_assign u4), trivial⟩ ?_
  intro ρ3 w3 hE hN hf hr
  have hN := hN rfl
  have h1 := (hr 1 rfl).trans h1
  have h2 := (hr 2 rfl).trans h2
  have h3 := (hr 3 rfl).trans h3
  have h9 := (hr 9 rfl).trans h9
  have h11 : ρ3 11 = .int .i64 z2.2 := hf 6 rfl
  have Oo_O9 := O9
  have Hg_0_at0 := Hg_0
  have Hg_0 := Hg_0.exn hN
  have hW := hW.trans hN
  have O9 := O9.exn hN
  have hsz := Nat.le_trans hsz hN.size
  refine WP.seq ?_
  obtain ⟨c, hc, hF⟩ := obind hF
  refine WP.via (fun ρ w => ρ 1 = .int .i64 i_ ∧ ρ 2 = .int .i64 p_ ∧ ρ 3 = .int .i64 p_2 ∧ ρ 9 = v9_ ∧ ρ 30 = .bool c ∧ GR [Value.int .i64 1, Value.int .i64 1] (gfr noG w0) w 0 ∧ Own w0.heap.size 43 4 Right.cells w v9_ z ∧ Ext noG w0 w ∧ w0.heap.size ≤ w.heap.size) ?_ ?_
  · rcases Bool.eq_false_or_eq_true (z2.2 != 0) with hd2 | hd2
    · have hc := (if_pos (by simp [hd2])).symm.trans hc
      have hc := Option.some.inj hc
      refine WP.region mixed [[], [0], [1], [2], [2], [2]] [[], [0], [1], [2], [2], [2]] [[11], [], [], [], [], []] [] []
        [val 25 (.int .i64 z2.2), val 26 (.bool (z2.2 != 0)), val 27 (.bool true), anyF 28, anyF 29, val 30 (.bool true)] noG (by kernel_rfl)
        ⟨Stable.val _ _ _, Stable.val _ _ _, Stable.val _ _ _, Stable.any _ _, Stable.any _ _, Stable.val _ _ _, trivial⟩
        ⟨fun ρz wz hE hA ⟨e11, _⟩ _ => core_val rfl rfl (o_move (e11.trans h11)),
     fun ρz wz hE hA _ ⟨u0, _⟩ => core_val rfl rfl (o_neq u0 rfl rfl),
     fun ρz wz hE hA _ ⟨u1, _⟩ => core_valE rfl rfl (congrArg Value.bool hd2) (o_move u1),
     fun _ _ _ _ _ ⟨u2, _⟩ => gNo rfl u2 rfl trivial,
     fun _ _ _ _ _ ⟨u2, _⟩ => gNo rfl u2 rfl trivial,
     fun ρz wz hE hA _ ⟨u2, _⟩ => core_val rfl rfl (o_pick_t u2 rfl), trivial⟩ ?_
      intro ρ5 w5 hE hN hf hr
      have hN := hN rfl
      have h1 := (hr 1 rfl).trans h1
      have h2 := (hr 2 rfl).trans h2
      have h3 := (hr 3 rfl).trans h3
      have h9 := (hr 9 rfl).trans h9
      have h30 : ρ5 30 = .bool true := hf 5 rfl
      have Oo_O9 := O9
      have Hg_0_at0 := Hg_0
      have Hg_0 := Hg_0.exn hN
      have hW := hW.trans hN
      have O9 := O9.exn hN
      have hsz := Nat.le_trans hsz hN.size
      exact ⟨h1, h2, h3, h9, (h30.trans (congrArg Value.bool (by simp [hd2, ← hc]))), Hg_0, O9, hW, hsz⟩
    · have hc := (if_neg (Bool.eq_false_iff.1 (by simp [hd2]))).symm.trans hc
      obtain ⟨z3, hz3, hc⟩ := obind hc
      have hc := Option.some.inj hc
      refine WP.region mixed [[], [0], [1], [2], [2, 3], [2, 4]] [[], [0], [1], [2], [2, 3], [2, 4]] [[11], [], [], [], [], []] [] []
        [val 25 (.int .i64 z2.2), val 26 (.bool (z2.2 != 0)), val 27 (.bool false), val 28 (.bool z3), val 29 (.bool (!z3)), val 30 (.bool (!z3))] noG (by kernel_rfl)
        ⟨Stable.val _ _ _, Stable.val _ _ _, Stable.val _ _ _, Stable.val _ _ _, Stable.val _ _ _, Stable.val _ _ _, trivial⟩
        ⟨fun ρz wz hE hA ⟨e11, _⟩ _ => core_val rfl rfl (o_move (e11.trans h11)),
     fun ρz wz hE hA _ ⟨u0, _⟩ => core_val rfl rfl (o_neq u0 rfl rfl),
     fun ρz wz hE hA _ ⟨u1, _⟩ => core_valE rfl rfl (congrArg Value.bool hd2) (o_move u1),
     fun ρz wz hE hA _ ⟨u2, _⟩ => gYes rfl u2 (core_call rfl call_args0 cf_16 (pensionlaw24_awake_ok (Hg_0.exn (hA rfl)).no   hz3)),
     fun ρz wz hE hA _ ⟨u2, u3, _⟩ => gYes rfl u2 (core_val rfl rfl (o_not u3 rfl)),
     fun ρz wz hE hA _ ⟨u2, u4, _⟩ => core_val rfl rfl (o_pick_f u2 u4), trivial⟩ ?_
      intro ρ6 w6 hE hN hf hr
      have hN := hN rfl
      have h1 := (hr 1 rfl).trans h1
      have h2 := (hr 2 rfl).trans h2
      have h3 := (hr 3 rfl).trans h3
      have h9 := (hr 9 rfl).trans h9
      have h30 : ρ6 30 = .bool (!z3) := hf 5 rfl
      have Oo_O9 := O9
      have Hg_0_at0 := Hg_0
      have Hg_0 := Hg_0.exn hN
      have hW := hW.trans hN
      have O9 := O9.exn hN
      have hsz := Nat.le_trans hsz hN.size
      exact ⟨h1, h2, h3, h9, (h30.trans (congrArg Value.bool (by simp [hd2, ← hc]))), Hg_0, O9, hW, hsz⟩
  rintro ρ4 w4 ⟨h1, h2, h3, h9, h30, Hg_0, O9, hW, hsz⟩
  refine WP.cond rfl h30 (fun hb => ?_) (fun hb => ?_)
  · have hF := (if_pos hb).symm.trans hF
    refine WP.seq ?_
    refine WP.region mixed [[]] [[]] [[]] [] []
      [val 8 (.bool false)] noG (by kernel_rfl)
      ⟨Stable.val _ _ _, trivial⟩
      ⟨fun ρz wz hE hA _ _ => core_val rfl rfl (o_assign rfl), trivial⟩ ?_
    intro ρ7 w7 hE hN hf hr
    have hN := hN rfl
    have h8 : ρ7 8 = .bool false := hf 0 rfl
    have Oo_O9 := O9
    have Hg_0_at0 := Hg_0
    have Hg_0 := Hg_0.exn hN
    have hW := hW.trans hN
    have hsz := Nat.le_trans hsz hN.size
    refine WP.ret ?_
    show retQ Tryd.prog 111 Tryd.f5 (fun v w1 => v = .bool r ∧ Ext noG w0 w1) .ret ρ7 w7
    obtain rfl := Option.some.inj hF
    exact res1 rfl (by decide) h8 ⟨rfl, hW⟩
  · have hF := (if_neg (Bool.eq_false_iff.1 hb)).symm.trans hF
    refine WP.skip ?_
    refine WP.seq ?_
    refine WP.seq ?_
    refine WP.region mixed [[], [0], [1]] [[], [0], [1]] [[9], [], []] [] []
      [val 31 (v9_), val 32 (.int .i64 (z.length : Int)), val 33 (.bool ((z.length : Int) == 0))] noG (by kernel_rfl)
      ⟨Stable.val _ _ _, Stable.val _ _ _, Stable.val _ _ _, trivial⟩
      ⟨fun ρz wz hE hA ⟨e9, _⟩ _ => core_val rfl rfl (o_move (e9.trans h9)),
     fun ρz wz hE hA _ ⟨u0, _⟩ => core_val rfl rfl (o_len (u0.trans (Own.shape O9).choose_spec.choose_spec.1) len_24),
     fun ρz wz hE hA _ ⟨u1, _⟩ => core_val rfl rfl (o_eql u1 rfl rfl), trivial⟩ ?_
    intro ρ8 w8 hE hN hf hr
    have hN := hN rfl
    have h1 := (hr 1 rfl).trans h1
    have h2 := (hr 2 rfl).trans h2
    have h3 := (hr 3 rfl).trans h3
    have h9 := (hr 9 rfl).trans h9
    have h33 : ρ8 33 = .bool ((z.length : Int) == 0) := hf 2 rfl
    have Oo_O9 := O9
    have Hg_0_at0 := Hg_0
    have Hg_0 := Hg_0.exn hN
    have hW := hW.trans hN
    have O9 := O9.exn hN
    have hsz := Nat.le_trans hsz hN.size
    refine WP.cond rfl h33 (fun hb => ?_) (fun hb => ?_)
    · have hF := (if_pos hb).symm.trans hF
      refine WP.seq ?_
      refine WP.region mixed [[]] [[]] [[]] [] []
        [val 8 (.bool true)] noG (by kernel_rfl)
        ⟨Stable.val _ _ _, trivial⟩
        ⟨fun ρz wz hE hA _ _ => core_val rfl rfl (o_assign rfl), trivial⟩ ?_
      intro ρ9 w9 hE hN hf hr
      have hN := hN rfl
      have h8 : ρ9 8 = .bool true := hf 0 rfl
      have Oo_O9 := O9
      have Hg_0_at0 := Hg_0
      have Hg_0 := Hg_0.exn hN
      have hW := hW.trans hN
      have hsz := Nat.le_trans hsz hN.size
      refine WP.ret ?_
      show retQ Tryd.prog 111 Tryd.f5 (fun v w1 => v = .bool r ∧ Ext noG w0 w1) .ret ρ9 w9
      obtain rfl := Option.some.inj hF
      exact res1 rfl (by decide) h8 ⟨rfl, hW⟩
    · have hF := (if_neg (Bool.eq_false_iff.1 hb)).symm.trans hF
      refine WP.skip ?_
      refine WP.seq ?_
      obtain ⟨z4, hz4, hF⟩ := obind hF
      obtain ⟨z5, hz5, hF⟩ := obind hF
      refine WP.region mixed [[], [], [1], [0, 2], [], [4], [5], [3], [6]] [[], [], [1], [0, 2], [], [4], [5], [3], [6]] [[1], [9], [], [], [3], [], [], [], []] [] []
        [val 34 (.int .i64 i_), val 35 (v9_), val 36 (.int .i64 (z.length : Int)), val 37 (.int .i64 z4), val 38 (.int .i64 p_2), val 39 (.int .i64 z5), val 40 (.int .i64 (i64 (1 + z5))), val 12 (.int .i64 z4), val 13 (.int .i64 (i64 (1 + z5)))] noG (by kernel_rfl)
        ⟨Stable.val _ _ _, Stable.val _ _ _, Stable.val _ _ _, Stable.val _ _ _, Stable.val _ _ _, Stable.val _ _ _, Stable.val _ _ _, Stable.val _ _ _, Stable.val _ _ _, trivial⟩
        ⟨fun ρz wz hE hA ⟨e1, _⟩ _ => core_val rfl rfl (o_move (e1.trans h1)),
     fun ρz wz hE hA ⟨e9, _⟩ _ => core_val rfl rfl (o_move (e9.trans h9)),
     fun ρz wz hE hA _ ⟨u1, _⟩ => core_val rfl rfl (o_len (u1.trans (Own.shape O9).choose_spec.choose_spec.1) len_24),
     fun ρz wz hE hA _ ⟨u0, u2, _⟩ => core_call rfl (call_args2 u0 u2) cf_13 (pensionplain_Mod_ok  _ _  hz4),
     fun ρz wz hE hA ⟨e3, _⟩ _ => core_val rfl rfl (o_move (e3.trans h3)),
     fun ρz wz hE hA _ ⟨u4, _⟩ => core_call rfl (call_args2 u4 rfl) cf_13 (pensionplain_Mod_ok  _ _  hz5),
     fun ρz wz hE hA _ ⟨u5, _⟩ => core_val rfl rfl (o_add rfl u5 rfl),
     fun ρz wz hE hA _ ⟨u3, _⟩ => core_val rfl rfl (o_assign u3),
     fun ρz wz hE hA _ ⟨u6, _⟩ => core_val rfl rfl (o_assign u6), trivial⟩ ?_
      intro ρ10 w10 hE hN hf hr
      have hN := hN rfl
      have h2 := (hr 2 rfl).trans h2
      have h9 := (hr 9 rfl).trans h9
      have h12 : ρ10 12 = .int .i64 z4 := hf 7 rfl
      have h13 : ρ10 13 = .int .i64 (i64 (1 + z5)) := hf 8 rfl
      have Oo_O9 := O9
      have Hg_0_at0 := Hg_0
      have Hg_0 := Hg_0.exn hN
      have hW := hW.trans hN
      have O9 := O9.exn hN
      have hsz := Nat.le_trans hsz hN.size
      refine WP.seqJ (fun ρ w => ∃ x : List Right, ∃ v9_2 : Value, ρ 9 = v9_2 ∧ GR [Value.int .i64 1, Value.int .i64 1] (gfr noG w0) w 0 ∧ Own w0.heap.size 43 4 Right.cells w v9_2 x ∧ Ext noG w0 w ∧ w0.heap.size ≤ w.heap.size ∧ pensionlaw24_FamilyRejectsOneRight_j x = some r) ?_ ?_
      · refine WP.seq ?_
        obtain ⟨z8, hz8, hF⟩ := obind hF
        refine WP.region mixed [[], [0]] [[], [0]] [[2], []] [] []
          [val 41 (.int .i64 p_), val 42 (.int .i64 z8)] noG (by kernel_rfl)
          ⟨Stable.val _ _ _, Stable.val _ _ _, trivial⟩
          ⟨fun ρz wz hE hA ⟨e2, _⟩ _ => core_val rfl rfl (o_move (e2.trans h2)),
     fun ρz wz hE hA _ ⟨u0, _⟩ => core_call rfl (call_args2 u0 rfl) cf_13 (pensionplain_Mod_ok  _ _  hz8), trivial⟩ ?_
        intro ρ18 w18 hE hN hf hr
        have hN := hN rfl
        have h9 := (hr 9 rfl).trans h9
        have h12 := (hr 12 rfl).trans h12
        have h13 := (hr 13 rfl).trans h13
        have h42 : ρ18 42 = .int .i64 z8 := hf 1 rfl
        have Oo_O9 := O9
        have Hg_0_at0 := Hg_0
        have Hg_0 := Hg_0.exn hN
        have hW := hW.trans hN
        have O9 := O9.exn hN
        have hsz := Nat.le_trans hsz hN.size
        refine WP.block ?_
        refine WP.seq ?_
        refine WP.region mixed [[], [0]] [[], [0]] [[42], []] [] []
          [val 51 (.bool (z8 == 0)), val 50 (.bool (z8 == 0))] noG (by kernel_rfl)
          ⟨Stable.val _ _ _, Stable.val _ _ _, trivial⟩
          ⟨fun ρz wz hE hA ⟨e42, _⟩ _ => core_val rfl rfl (o_eql (e42.trans h42) rfl rfl),
     fun ρz wz hE hA _ ⟨u0, _⟩ => core_val rfl rfl (o_assign u0), trivial⟩ ?_
        intro ρ19 w19 hE hN hf hr
        have hN := hN rfl
        have h9 := (hr 9 rfl).trans h9
        have h12 := (hr 12 rfl).trans h12
        have h13 := (hr 13 rfl).trans h13
        have h42 := (hr 42 rfl).trans h42
        have h50 : ρ19 50 = .bool (z8 == 0) := hf 1 rfl
        have Oo_O9 := O9
        have Hg_0_at0 := Hg_0
        have Hg_0 := Hg_0.exn hN
        have hW := hW.trans hN
        have O9 := O9.exn hN
        have hsz := Nat.le_trans hsz hN.size
        refine WP.cond rfl h50 (fun hb => ?_) (fun hb => ?_)
        · have hF := (if_pos hb).symm.trans hF
          obtain ⟨y, hy, hF⟩ := obind hF
          obtain ⟨ay, cy, hvy, hiy, hAy⟩ := RepSl.getF (Own.rep (hn := fun _ => rfl) (G := noG) O9 (fun _ _ h => h)) hy
          refine WP.region mixed [[], [], [], [2], [0, 1], [4], [3, 5]] [[], [], [], [2], [0, 1], [4], [5, 3]] [[9], [12], [13], [], [], [], []] [6] []
            [val 52 (v9_), val 53 (.int .i64 z4), val 54 (.int .i64 (i64 (1 + z5))), val 55 (.int .i64 (i64 (-(i64 (1 + z5))))), val 56 (.pointer (some (ay.add (Int.toNat z4 * 4)))), val 57 (.pointer (some ((ay.add (Int.toNat z4 * 4)).add 0))), (57, fun _ wz => Own w0.heap.size 43 4 Right.cells wz v9_ (setI z z4 ({ y with State := i64 (-(i64 (1 + z5))) } : Right)))] (fun b => Value.ownBlock v9_ = some b) (by kernel_rfl)
            ⟨Stable.val _ _ _, Stable.val _ _ _, Stable.val _ _ _, Stable.val _ _ _, Stable.val _ _ _, Stable.val _ _ _, fun _ _ _ hE h => h.exn hE, trivial⟩
            ⟨fun ρz wz hE hA ⟨e9, _⟩ _ => core_val rfl rfl (o_move (e9.trans h9)),
     fun ρz wz hE hA ⟨e12, _⟩ _ => core_val rfl rfl (o_move (e12.trans h12)),
     fun ρz wz hE hA ⟨e13, _⟩ _ => core_val rfl rfl (o_move (e13.trans h13)),
     fun ρz wz hE hA _ ⟨u2, _⟩ => core_val rfl rfl (o_neg u2 rfl),
     fun ρz wz hE hA _ ⟨u0, u1, _⟩ => core_val rfl rfl (o_indexAddr (u0.trans hvy) u1 (ia_24 hiy)),
     fun ρz wz hE hA _ ⟨u4, _⟩ => core_val rfl rfl (o_fieldAddr u4 (fa_43_0 _ _)),
     fun ρz wz hE hA _ ⟨u5, u3, _⟩ => core_storeOwn (n := 4) (off := 0) (cells := Right.cells) (y1 := ({ y with State := i64 (-(i64 (1 + z5))) } : Right)) (vs := [Value.int .i64 (i64 (-(i64 (1 + z5))))]) rfl rfl (fun _ h => h) (fun _ => rfl) u5 hvy (Deep.add_add _ _ _) u3 (O9.exn (hA rfl)) hy (fun a w => st_3 _ a w) (Nat.le_of_ble_eq_true rfl) rfl (one_3 _), trivial⟩ ?_
          intro ρ20 w20 hE hN hf hr
          have h9 := (hr 9 rfl).trans h9
          have Oo_O9 := O9
          have Hg_0 := Hg_0.over hE (fun b hb => (O9.lt hb).1)
          have hW := Ext.own hW hE (fun b hb => (O9.lt hb).1)
          have O9 := hf 6 rfl
          have hsz := Nat.le_trans hsz hE.size
          exact ⟨setI z z4 ({ y with State := i64 (-(i64 (1 + z5))) } : Right), v9_, h9, Hg_0, O9, hW, hsz, hF⟩
        · have hF := (if_neg (Bool.eq_false_iff.1 hb)).symm.trans hF
          refine WP.seq ?_
          refine WP.region mixed [[], [0]] [[], [0]] [[42], []] [] []
            [val 59 (.bool (z8 == 1)), val 58 (.bool (z8 == 1))] noG (by kernel_rfl)
            ⟨Stable.val _ _ _, Stable.val _ _ _, trivial⟩
            ⟨fun ρz wz hE hA ⟨e42, _⟩ _ => core_val rfl rfl (o_eql (e42.trans h42) rfl rfl),
     fun ρz wz hE hA _ ⟨u0, _⟩ => core_val rfl rfl (o_assign u0), trivial⟩ ?_
          intro ρ21 w21 hE hN hf hr
          have hN := hN rfl
          have h9 := (hr 9 rfl).trans h9
          have h12 := (hr 12 rfl).trans h12
          have h13 := (hr 13 rfl).trans h13
          have h42 := (hr 42 rfl).trans h42
          have h58 : ρ21 58 = .bool (z8 == 1) := hf 1 rfl
          have Oo_O9 := O9
          have Hg_0_at0 := Hg_0
          have Hg_0 := Hg_0.exn hN
          have hW := hW.trans hN
          have O9 := O9.exn hN
          have hsz := Nat.le_trans hsz hN.size
          refine WP.cond rfl h58 (fun hb => ?_) (fun hb => ?_)
          · have hF := (if_pos hb).symm.trans hF
            obtain ⟨y2, hy2, hF⟩ := obind hF
            obtain ⟨ay2, cy2, hvy2, hiy2, hAy2⟩ := RepSl.getF (Own.rep (hn := fun _ => rfl) (G := noG) O9 (fun _ _ h => h)) hy2
            refine WP.region mixed [[], [], [], [2], [0, 1], [4], [3, 5]] [[], [], [], [2], [0, 1], [4], [5, 3]] [[9], [12], [13], [], [], [], []] [6] []
              [val 60 (v9_), val 61 (.int .i64 z4), val 62 (.int .i64 (i64 (1 + z5))), val 63 (.int .i64 (i64 (5 + i64 (1 + z5)))), val 64 (.pointer (some (ay2.add (Int.toNat z4 * 4)))), val 65 (.pointer (some ((ay2.add (Int.toNat z4 * 4)).add 0))), (65, fun _ wz => Own w0.heap.size 43 4 Right.cells wz v9_ (setI z z4 ({ y2 with State := i64 (5 + i64 (1 + z5)) } : Right)))] (fun b => Value.ownBlock v9_ = some b) (by kernel_rfl)
              ⟨Stable.val _ _ _, Stable.val _ _ _, Stable.val _ _ _, Stable.val _ _ _, Stable.val _ _ _, Stable.val _ _ _, fun _ _ _ hE h => h.exn hE, trivial⟩
              ⟨fun ρz wz hE hA ⟨e9, _⟩ _ => core_val rfl rfl (o_move (e9.trans h9)),
     fun ρz wz hE hA ⟨e12, _⟩ _ => core_val rfl rfl (o_move (e12.trans h12)),
     fun ρz wz hE hA ⟨e13, _⟩ _ => core_val rfl rfl (o_move (e13.trans h13)),
     fun ρz wz hE hA _ ⟨u2, _⟩ => core_val rfl rfl (o_add rfl u2 rfl),
     fun ρz wz hE hA _ ⟨u0, u1, _⟩ => core_val rfl rfl (o_indexAddr (u0.trans hvy2) u1 (ia_24 hiy2)),
     fun ρz wz hE hA _ ⟨u4, _⟩ => core_val rfl rfl (o_fieldAddr u4 (fa_43_0 _ _)),
     fun ρz wz hE hA _ ⟨u5, u3, _⟩ => core_storeOwn (n := 4) (off := 0) (cells := Right.cells) (y1 := ({ y2 with State := i64 (5 + i64 (1 + z5)) } : Right)) (vs := [Value.int .i64 (i64 (5 + i64 (1 + z5)))]) rfl rfl (fun _ h => h) (fun _ => rfl) u5 hvy2 (Deep.add_add _ _ _) u3 (O9.exn (hA rfl)) hy2 (fun a w => st_3 _ a w) (Nat.le_of_ble_eq_true rfl) rfl (one_3 _), trivial⟩ ?_
            intro ρ22 w22 hE hN hf hr
            have h9 := (hr 9 rfl).trans h9
            have Oo_O9 := O9
            have Hg_0 := Hg_0.over hE (fun b hb => (O9.lt hb).1)
            have hW := Ext.own hW hE (fun b hb => (O9.lt hb).1)
            have O9 := hf 6 rfl
            have hsz := Nat.le_trans hsz hE.size
            exact ⟨setI z z4 ({ y2 with State := i64 (5 + i64 (1 + z5)) } : Right), v9_, h9, Hg_0, O9, hW, hsz, hF⟩
          · have hF := (if_neg (Bool.eq_false_iff.1 hb)).symm.trans hF
            refine WP.seq ?_
            refine WP.region mixed [[], [0]] [[], [0]] [[42], []] [] []
              [val 67 (.bool (z8 == 2)), val 66 (.bool (z8 == 2))] noG (by kernel_rfl)
              ⟨Stable.val _ _ _, Stable.val _ _ _, trivial⟩
              ⟨fun ρz wz hE hA ⟨e42, _⟩ _ => core_val rfl rfl (o_eql (e42.trans h42) rfl rfl),
     fun ρz wz hE hA _ ⟨u0, _⟩ => core_val rfl rfl (o_assign u0), trivial⟩ ?_
            intro ρ23 w23 hE hN hf hr
            have hN := hN rfl
            have h9 := (hr 9 rfl).trans h9
            have h12 := (hr 12 rfl).trans h12
            have h13 := (hr 13 rfl).trans h13
            have h42 := (hr 42 rfl).trans h42
            have h66 : ρ23 66 = .bool (z8 == 2) := hf 1 rfl
            have Oo_O9 := O9
            have Hg_0_at0 := Hg_0
            have Hg_0 := Hg_0.exn hN
            have hW := hW.trans hN
            have O9 := O9.exn hN
            have hsz := Nat.le_trans hsz hN.size
            refine WP.cond rfl h66 (fun hb => ?_) (fun hb => ?_)
            · have hF := (if_pos hb).symm.trans hF
              obtain ⟨y3, hy3, hF⟩ := obind hF
              obtain ⟨ay3, cy3, hvy3, hiy3, hAy3⟩ := RepSl.getF (Own.rep (hn := fun _ => rfl) (G := noG) O9 (fun _ _ h => h)) hy3
              refine WP.region mixed [[], [], [], [2], [0, 1], [4], [3, 5]] [[], [], [], [2], [0, 1], [4], [5, 3]] [[9], [12], [13], [], [], [], []] [6] []
                [val 68 (v9_), val 69 (.int .i64 z4), val 70 (.int .i64 (i64 (1 + z5))), val 71 (.int .i64 (i64 (3 + i64 (1 + z5)))), val 72 (.pointer (some (ay3.add (Int.toNat z4 * 4)))), val 73 (.pointer (some ((ay3.add (Int.toNat z4 * 4)).add 1))), (73, fun _ wz => Own w0.heap.size 43 4 Right.cells wz v9_ (setI z z4 ({ y3 with Basis := i64 (3 + i64 (1 + z5)) } : Right)))] (fun b => Value.ownBlock v9_ = some b) (by kernel_rfl)
                ⟨Stable.val _ _ _, Stable.val _ _ _, Stable.val _ _ _, Stable.val _ _ _, Stable.val _ _ _, Stable.val _ _ _, fun _ _ _ hE h => h.exn hE, trivial⟩
                ⟨fun ρz wz hE hA ⟨e9, _⟩ _ => core_val rfl rfl (o_move (e9.trans h9)),
     fun ρz wz hE hA ⟨e12, _⟩ _ => core_val rfl rfl (o_move (e12.trans h12)),
     fun ρz wz hE hA ⟨e13, _⟩ _ => core_val rfl rfl (o_move (e13.trans h13)),
     fun ρz wz hE hA _ ⟨u2, _⟩ => core_val rfl rfl (o_add rfl u2 rfl),
     fun ρz wz hE hA _ ⟨u0, u1, _⟩ => core_val rfl rfl (o_indexAddr (u0.trans hvy3) u1 (ia_24 hiy3)),
     fun ρz wz hE hA _ ⟨u4, _⟩ => core_val rfl rfl (o_fieldAddr u4 (fa_43_1 _ _)),
     fun ρz wz hE hA _ ⟨u5, u3, _⟩ => core_storeOwn (n := 4) (off := 1) (cells := Right.cells) (y1 := ({ y3 with Basis := i64 (3 + i64 (1 + z5)) } : Right)) (vs := [Value.int .i64 (i64 (3 + i64 (1 + z5)))]) rfl rfl (fun _ h => h) (fun _ => rfl) u5 hvy3 (Deep.add_add _ _ _) u3 (O9.exn (hA rfl)) hy3 (fun a w => st_3 _ a w) (Nat.le_of_ble_eq_true rfl) rfl (one_3 _), trivial⟩ ?_
              intro ρ24 w24 hE hN hf hr
              have h9 := (hr 9 rfl).trans h9
              have Oo_O9 := O9
              have Hg_0 := Hg_0.over hE (fun b hb => (O9.lt hb).1)
              have hW := Ext.own hW hE (fun b hb => (O9.lt hb).1)
              have O9 := hf 6 rfl
              have hsz := Nat.le_trans hsz hE.size
              exact ⟨setI z z4 ({ y3 with Basis := i64 (3 + i64 (1 + z5)) } : Right), v9_, h9, Hg_0, O9, hW, hsz, hF⟩
            · have hF := (if_neg (Bool.eq_false_iff.1 hb)).symm.trans hF
              refine WP.seq ?_
              refine WP.region mixed [[], [0]] [[], [0]] [[42], []] [] []
                [val 75 (.bool (z8 == 3)), val 74 (.bool (z8 == 3))] noG (by kernel_rfl)
                ⟨Stable.val _ _ _, Stable.val _ _ _, trivial⟩
                ⟨fun ρz wz hE hA ⟨e42, _⟩ _ => core_val rfl rfl (o_eql (e42.trans h42) rfl rfl),
     fun ρz wz hE hA _ ⟨u0, _⟩ => core_val rfl rfl (o_assign u0), trivial⟩ ?_
              intro ρ25 w25 hE hN hf hr
              have hN := hN rfl
              have h9 := (hr 9 rfl).trans h9
              have h12 := (hr 12 rfl).trans h12
              have h13 := (hr 13 rfl).trans h13
              have h42 := (hr 42 rfl).trans h42
              have h74 : ρ25 74 = .bool (z8 == 3) := hf 1 rfl
              have Oo_O9 := O9
              have Hg_0_at0 := Hg_0
              have Hg_0 := Hg_0.exn hN
              have hW := hW.trans hN
              have O9 := O9.exn hN
              have hsz := Nat.le_trans hsz hN.size
              refine WP.cond rfl h74 (fun hb => ?_) (fun hb => ?_)
              · have hF := (if_pos hb).symm.trans hF
                obtain ⟨y4, hy4, hF⟩ := obind hF
                obtain ⟨ay4, cy4, hvy4, hiy4, hAy4⟩ := RepSl.getF (Own.rep (hn := fun _ => rfl) (G := noG) O9 (fun _ _ h => h)) hy4
                refine WP.region mixed [[], [], [], [2], [0, 1], [4], [3, 5]] [[], [], [], [2], [0, 1], [4], [5, 3]] [[9], [12], [13], [], [], [], []] [6] []
                  [val 76 (v9_), val 77 (.int .i64 z4), val 78 (.int .i64 (i64 (1 + z5))), val 79 (.int .i64 (i64 (999 + i64 (1 + z5)))), val 80 (.pointer (some (ay4.add (Int.toNat z4 * 4)))), val 81 (.pointer (some ((ay4.add (Int.toNat z4 * 4)).add 2))), (81, fun _ wz => Own w0.heap.size 43 4 Right.cells wz v9_ (setI z z4 ({ y4 with Currency := i64 (999 + i64 (1 + z5)) } : Right)))] (fun b => Value.ownBlock v9_ = some b) (by kernel_rfl)
                  ⟨Stable.val _ _ _, Stable.val _ _ _, Stable.val _ _ _, Stable.val _ _ _, Stable.val _ _ _, Stable.val _ _ _, fun _ _ _ hE h => h.exn hE, trivial⟩
                  ⟨fun ρz wz hE hA ⟨e9, _⟩ _ => core_val rfl rfl (o_move (e9.trans h9)),
     fun ρz wz hE hA ⟨e12, _⟩ _ => core_val rfl rfl (o_move (e12.trans h12)),
     fun ρz wz hE hA ⟨e13, _⟩ _ => core_val rfl rfl (o_move (e13.trans h13)),
     fun ρz wz hE hA _ ⟨u2, _⟩ => core_val rfl rfl (o_add rfl u2 rfl),
     fun ρz wz hE hA _ ⟨u0, u1, _⟩ => core_val rfl rfl (o_indexAddr (u0.trans hvy4) u1 (ia_24 hiy4)),
     fun ρz wz hE hA _ ⟨u4, _⟩ => core_val rfl rfl (o_fieldAddr u4 (fa_43_2 _ _)),
     fun ρz wz hE hA _ ⟨u5, u3, _⟩ => core_storeOwn (n := 4) (off := 2) (cells := Right.cells) (y1 := ({ y4 with Currency := i64 (999 + i64 (1 + z5)) } : Right)) (vs := [Value.int .i64 (i64 (999 + i64 (1 + z5)))]) rfl rfl (fun _ h => h) (fun _ => rfl) u5 hvy4 (Deep.add_add _ _ _) u3 (O9.exn (hA rfl)) hy4 (fun a w => st_3 _ a w) (Nat.le_of_ble_eq_true rfl) rfl (one_3 _), trivial⟩ ?_
                intro ρ26 w26 hE hN hf hr
                have h9 := (hr 9 rfl).trans h9
                have Oo_O9 := O9
                have Hg_0 := Hg_0.over hE (fun b hb => (O9.lt hb).1)
                have hW := Ext.own hW hE (fun b hb => (O9.lt hb).1)
                have O9 := hf 6 rfl
                have hsz := Nat.le_trans hsz hE.size
                exact ⟨setI z z4 ({ y4 with Currency := i64 (999 + i64 (1 + z5)) } : Right), v9_, h9, Hg_0, O9, hW, hsz, hF⟩
              · have hF := (if_neg (Bool.eq_false_iff.1 hb)).symm.trans hF
                refine WP.seq ?_
                refine WP.region mixed [[], [0]] [[], [0]] [[42], []] [] []
                  [val 83 (.bool (z8 == 4)), val 82 (.bool (z8 == 4))] noG (by kernel_rfl)
                  ⟨Stable.val _ _ _, Stable.val _ _ _, trivial⟩
                  ⟨fun ρz wz hE hA ⟨e42, _⟩ _ => core_val rfl rfl (o_eql (e42.trans h42) rfl rfl),
     fun ρz wz hE hA _ ⟨u0, _⟩ => core_val rfl rfl (o_assign u0), trivial⟩ ?_
                intro ρ27 w27 hE hN hf hr
                have hN := hN rfl
                have h9 := (hr 9 rfl).trans h9
                have h12 := (hr 12 rfl).trans h12
                have h13 := (hr 13 rfl).trans h13
                have h82 : ρ27 82 = .bool (z8 == 4) := hf 1 rfl
                have Oo_O9 := O9
                have Hg_0_at0 := Hg_0
                have Hg_0 := Hg_0.exn hN
                have hW := hW.trans hN
                have O9 := O9.exn hN
                have hsz := Nat.le_trans hsz hN.size
                refine WP.cond rfl h82 (fun hb => ?_) (fun hb => ?_)
                · have hF := (if_pos hb).symm.trans hF
                  obtain ⟨y5, hy5, hF⟩ := obind hF
                  obtain ⟨ay5, cy5, hvy5, hiy5, hAy5⟩ := RepSl.getF (Own.rep (hn := fun _ => rfl) (G := noG) O9 (fun _ _ h => h)) hy5
                  refine WP.region mixed [[], [], [], [2], [0, 1], [4], [3, 5]] [[], [], [], [2], [0, 1], [4], [5, 3]] [[9], [12], [13], [], [], [], []] [6] []
                    [val 84 (v9_), val 85 (.int .i64 z4), val 86 (.int .i64 (i64 (1 + z5))), val 87 (.int .i64 (i64 (1 - (i64 (1 + z5))))), val 88 (.pointer (some (ay5.add (Int.toNat z4 * 4)))), val 89 (.pointer (some ((ay5.add (Int.toNat z4 * 4)).add 3))), (89, fun _ wz => Own w0.heap.size 43 4 Right.cells wz v9_ (setI z z4 ({ y5 with Amount := i64 (1 - (i64 (1 + z5))) } : Right)))] (fun b => Value.ownBlock v9_ = some b) (by kernel_rfl)
                    ⟨Stable.val _ _ _, Stable.val _ _ _, Stable.val _ _ _, Stable.val _ _ _, Stable.val _ _ _, Stable.val _ _ _, fun _ _ _ hE h => h.exn hE, trivial⟩
                    ⟨fun ρz wz hE hA ⟨e9, _⟩ _ => core_val rfl rfl (o_move (e9.trans h9)),
     fun ρz wz hE hA ⟨e12, _⟩ _ => core_val rfl rfl (o_move (e12.trans h12)),
     fun ρz wz hE hA ⟨e13, _⟩ _ => core_val rfl rfl (o_move (e13.trans h13)),
     fun ρz wz hE hA _ ⟨u2, _⟩ => core_val rfl rfl (o_sub rfl u2 rfl),
     fun ρz wz hE hA _ ⟨u0, u1, _⟩ => core_val rfl rfl (o_indexAddr (u0.trans hvy5) u1 (ia_24 hiy5)),
     fun ρz wz hE hA _ ⟨u4, _⟩ => core_val rfl rfl (o_fieldAddr u4 (fa_43_3 _ _)),
     fun ρz wz hE hA _ ⟨u5, u3, _⟩ => core_storeOwn (n := 4) (off := 3) (cells := Right.cells) (y1 := ({ y5 with Amount := i64 (1 - (i64 (1 + z5))) } : Right)) (vs := [Value.int .i64 (i64 (1 - (i64 (1 + z5))))]) rfl rfl (fun _ h => h) (fun _ => rfl) u5 hvy5 (Deep.add_add _ _ _) u3 (O9.exn (hA rfl)) hy5 (fun a w => st_3 _ a w) (Nat.le_of_ble_eq_true rfl) rfl (one_3 _), trivial⟩ ?_
                  intro ρ28 w28 hE hN hf hr
                  have h9 := (hr 9 rfl).trans h9
                  have Oo_O9 := O9
                  have Hg_0 := Hg_0.over hE (fun b hb => (O9.lt hb).1)
                  have hW := Ext.own hW hE (fun b hb => (O9.lt hb).1)
                  have O9 := hf 6 rfl
                  have hsz := Nat.le_trans hsz hE.size
                  exact ⟨setI z z4 ({ y5 with Amount := i64 (1 - (i64 (1 + z5))) } : Right), v9_, h9, Hg_0, O9, hW, hsz, hF⟩
                · have hF := (if_neg (Bool.eq_false_iff.1 hb)).symm.trans hF
                  obtain ⟨y6, hy6, hF⟩ := obind hF
                  obtain ⟨ay6, cy6, hvy6, hiy6, hAy6⟩ := RepSl.getF (Own.rep (hn := fun _ => rfl) (G := noG) O9 (fun _ _ h => h)) hy6
                  obtain ⟨l, hl, hF⟩ := obind hF
                  refine WP.region mixed [[], [], [], [1, 2], [3], [4], [0, 4, 5], [0, 1, 6]] [[], [], [], [1, 2], [3], [4], [0, 5], [6]] [[9], [9], [12], [], [], [], [], []] [6] []
                    [val 43 (v9_), val 44 (v9_), val 45 (.int .i64 z4), val 46 (.pointer (some (ay6.add (Int.toNat z4 * 4)))), val 47 (Right.val y6), (48, fun u wz => ∃ b, u = .slice (some ⟨b, 0, none⟩) 1 1 ∧ w27.heap.size ≤ b ∧ Mb wz b 43 (([y6]).flatMap Right.cells)), (49, fun u wz => Own w0.heap.size 43 4 Right.cells wz u l ∧ ∀ b, u.ownBlock = some b → (v9_.ownBlock = some b ∨ w27.heap.size ≤ b)), (9, fun u wz => Own w0.heap.size 43 4 Right.cells wz u l ∧ ∀ b, u.ownBlock = some b → (v9_.ownBlock = some b ∨ w27.heap.size ≤ b))] (fun b => Value.ownBlock v9_ = some b) (by kernel_rfl)
                    ⟨Stable.val _ _ _, Stable.val _ _ _, Stable.val _ _ _, Stable.val _ _ _, Stable.val _ _ _, fun _ _ _ hE ⟨b, hz, hs, hM⟩ => ⟨b, hz, hs, hM.ext hE (fun hg => absurd (O9.lt hg).2 (Nat.not_lt.2 hs))⟩, fun _ _ _ hE ⟨hO, hf⟩ => ⟨hO.exn hE, hf⟩, fun _ _ _ hE ⟨hO, hf⟩ => ⟨hO.exn hE, hf⟩, trivial⟩
                    ⟨fun ρz wz hE hA ⟨e9, _⟩ _ => core_val rfl rfl (o_move (e9.trans h9)),
     fun ρz wz hE hA ⟨e9, _⟩ _ => core_val rfl rfl (o_move (e9.trans h9)),
     fun ρz wz hE hA ⟨e12, _⟩ _ => core_val rfl rfl (o_move (e12.trans h12)),
     fun ρz wz hE hA _ ⟨u1, u2, _⟩ => core_val rfl rfl (o_indexAddr (u1.trans hvy6) u2 (ia_24 hiy6)),
     fun ρz wz hE hA _ ⟨u3, _⟩ => core_val rfl rfl (o_load u3 (run_loadN (cs := (Right.cells y6)) (lr_43 _ _) rfl ((hAy6.exn (hA rfl)).ca))),
     fun ρz wz hE hA _ ⟨u4, _⟩ => core_slice rfl rfl hE (o_buildSlice (build_parts1 u4) (bs_24_1 _ _)),
     fun ρz wz hE hA _ ⟨u0, ⟨bz5, hz5, hge5, hM5⟩, _⟩ => core_append (n := 4) (cells := Right.cells) (B := w0.heap.size) (w0 := w27) rfl rfl (fun b hb => hb) u0 hz5 (fun _ => rfl) one_43 si_24 se_43 (by decide) (by decide) (O9.exn (hA rfl)) ⟨_, (Mb.rep (n := 4) (cells := Right.cells) (hn := fun _ => rfl) (G := noG) hM5 rfl (Nat.le_of_ble_eq_true rfl) (fun h => h))⟩ hl (Nat.le_trans hsz hE.size) hE.size (fun v1 w1 h1 h2 => ⟨h1, h2⟩),
     fun ρz wz hE hA _ ⟨⟨hO6, hfr6⟩, _⟩ => core_copy rfl rfl (o_assign rfl) ⟨hO6, hfr6⟩, trivial⟩ ?_
                  intro ρ29 w29 hE hN hf hr
                  obtain ⟨v9_3, h9⟩ : ∃ v, ρ29 9 = v := ⟨_, rfl⟩
                  have hq9 : (fun u wz => Own w0.heap.size 43 4 Right.cells wz u l ∧ ∀ b, u.ownBlock = some b → (v9_.ownBlock = some b ∨ w27.heap.size ≤ b)) (ρ29 9) w29 := hf 7 rfl
                  rw [h9] at hq9
                  obtain ⟨hq9, hfr9⟩ := hq9
                  have Oo_O9 := O9
                  have Hg_0 := Hg_0.over hE (fun b hb => (O9.lt hb).1)
                  have hW := Ext.own hW hE (fun b hb => (O9.lt hb).1)
                  have O9 := hq9
                  have hsz := Nat.le_trans hsz hE.size
                  exact ⟨l, v9_3, h9, Hg_0, O9, hW, hsz, hF⟩
      · rintro ρ11 w11 ⟨x, v9_2, h9, Hg_0, O9, hW, hsz, hF⟩
        rw [pensionlaw24_FamilyRejectsOneRight_j] at hF
        refine WP.seq ?_
        obtain ⟨z6, hz6, hF⟩ := obind hF
        refine WP.region mixed [[], [0], [1], [2], [2], [3], [4]] [[], [0], [1], [2], [2], [3], [4]] [[9], [], [], [], [], [], []] [] []
          [val 91 (v9_2), (92, fun u wz => ∃ q : Value, u = .tuple #[q, .int .i64 z6.2] ∧ Own w0.heap.size 3 1 (fun x : Int => [Value.int .i64 x]) wz q z6.1 ∧ ∀ b, q.ownBlock = some b → w11.heap.size ≤ b), (90, fun u wz => ∃ q : Value, u = .tuple #[q, .int .i64 z6.2] ∧ Own w0.heap.size 3 1 (fun x : Int => [Value.int .i64 x]) wz q z6.1 ∧ ∀ b, q.ownBlock = some b → w11.heap.size ≤ b), (93, fun u wz => Own w0.heap.size 3 1 (fun x : Int => [Value.int .i64 x]) wz u z6.1 ∧ ∀ b, u.ownBlock = some b → w11.heap.size ≤ b), val 94 (.int .i64 z6.2), (14, fun u wz => Own w0.heap.size 3 1 (fun x : Int => [Value.int .i64 x]) wz u z6.1 ∧ ∀ b, u.ownBlock = some b → w11.heap.size ≤ b), val 15 (.int .i64 z6.2)] noG (by kernel_rfl)
          ⟨Stable.val _ _ _, fun _ _ _ hE ⟨q, ht, hO, hf⟩ => ⟨q, ht, hO.exn hE, hf⟩, fun _ _ _ hE ⟨q, ht, hO, hf⟩ => ⟨q, ht, hO.exn hE, hf⟩, fun _ _ _ hE ⟨hO, hf⟩ => ⟨hO.exn hE, hf⟩, Stable.val _ _ _, fun _ _ _ hE ⟨hO, hf⟩ => ⟨hO.exn hE, hf⟩, Stable.val _ _ _, trivial⟩
          ⟨fun ρz wz hE hA ⟨e9, _⟩ _ => core_val rfl rfl (o_move (e9.trans h9)),
     fun ρz wz hE hA _ ⟨u0, _⟩ => core_callR rfl (call_args4 u0 rfl rfl rfl) cf_14 ((family_Order_ok  _ _ _ _ ((O9.exn (hA rfl)).rep (hn := fun _ => rfl) (G := noG) (fun _ _ h => h)).no (RepSl.nil _ noG _).no hz6).mono (fun e w1 ⟨v, he, hE1, q, hv, hO⟩ => ⟨v, he, hE1, q, hv, hO.base (Nat.le_trans hsz hE.size), fun b hb => Nat.le_trans hE.size (hO.lt hb).1⟩)),
     fun ρz wz hE hA _ ⟨⟨q1, ht1, hO1, hfr1⟩, _⟩ => core_copy rfl rfl (o_move rfl) ⟨q1, ht1, hO1, hfr1⟩,
     fun ρz wz hE hA _ ⟨⟨q2, ht2, hO2, hfr2⟩, _⟩ => core_copy rfl rfl (o_extract ht2 (by kernel_rfl)) ⟨hO2, hfr2⟩,
     fun ρz wz hE hA _ ⟨⟨q2, ht2, hO2, hfr2⟩, _⟩ => core_val rfl rfl (o_extract ht2 (by kernel_rfl)),
     fun ρz wz hE hA _ ⟨⟨hO3, hfr3⟩, _⟩ => core_copy rfl rfl (o_assign rfl) ⟨hO3, hfr3⟩,
     fun ρz wz hE hA _ ⟨u4, _⟩ => core_val rfl rfl (o_assign u4), trivial⟩ ?_
        intro ρ12 w12 hE hN hf hr
        have hN := hN rfl
        have h9 := (hr 9 rfl).trans h9
        have h15 : ρ12 15 = .int .i64 z6.2 := hf 6 rfl
        have Oo_O9 := O9
        have Hg_0_at0 := Hg_0
        have Hg_0 := Hg_0.exn hN
        have hW := hW.trans hN
        have O9 := O9.exn hN
        have hsz := Nat.le_trans hsz hN.size
        refine WP.seq ?_
        obtain ⟨z7, hz7, hF⟩ := obind hF
        refine WP.region mixed [[], [0], [1], [2], [2], [3], [4]] [[], [0], [1], [2], [2], [3], [4]] [[9], [], [], [], [], [], []] [] []
          [val 96 (v9_2), (97, fun u wz => ∃ q : Value, u = .tuple #[q, .int .i64 z7.2] ∧ Own w0.heap.size 48 4 FamilyPay.cells wz q z7.1 ∧ ∀ b, q.ownBlock = some b → w12.heap.size ≤ b), (95, fun u wz => ∃ q : Value, u = .tuple #[q, .int .i64 z7.2] ∧ Own w0.heap.size 48 4 FamilyPay.cells wz q z7.1 ∧ ∀ b, q.ownBlock = some b → w12.heap.size ≤ b), (98, fun u wz => Own w0.heap.size 48 4 FamilyPay.cells wz u z7.1 ∧ ∀ b, u.ownBlock = some b → w12.heap.size ≤ b), val 99 (.int .i64 z7.2), (16, fun u wz => Own w0.heap.size 48 4 FamilyPay.cells wz u z7.1 ∧ ∀ b, u.ownBlock = some b → w12.heap.size ≤ b), val 17 (.int .i64 z7.2)] noG (by kernel_rfl)
          ⟨Stable.val _ _ _, fun _ _ _ hE ⟨q, ht, hO, hf⟩ => ⟨q, ht, hO.exn hE, hf⟩, fun _ _ _ hE ⟨q, ht, hO, hf⟩ => ⟨q, ht, hO.exn hE, hf⟩, fun _ _ _ hE ⟨hO, hf⟩ => ⟨hO.exn hE, hf⟩, Stable.val _ _ _, fun _ _ _ hE ⟨hO, hf⟩ => ⟨hO.exn hE, hf⟩, Stable.val _ _ _, trivial⟩
          ⟨fun ρz wz hE hA ⟨e9, _⟩ _ => core_val rfl rfl (o_move (e9.trans h9)),
     fun ρz wz hE hA _ ⟨u0, _⟩ => core_callR rfl (call_args4 u0 rfl rfl rfl) cf_21 ((family_Payments_ok (Hg_0.exn (hA rfl)).no _ _ _ _ ((O9.exn (hA rfl)).rep (hn := fun _ => rfl) (G := noG) (fun _ _ h => h)).no (RepSl.nil _ noG _).no hz7).mono (fun e w1 ⟨v, he, hE1, q, hv, hO⟩ => ⟨v, he, hE1, q, hv, hO.base (Nat.le_trans hsz hE.size), fun b hb => Nat.le_trans hE.size (hO.lt hb).1⟩)),
     fun ρz wz hE hA _ ⟨⟨q1, ht1, hO1, hfr1⟩, _⟩ => core_copy rfl rfl (o_move rfl) ⟨q1, ht1, hO1, hfr1⟩,
     fun ρz wz hE hA _ ⟨⟨q2, ht2, hO2, hfr2⟩, _⟩ => core_copy rfl rfl (o_extract ht2 (by kernel_rfl)) ⟨hO2, hfr2⟩,
     fun ρz wz hE hA _ ⟨⟨q2, ht2, hO2, hfr2⟩, _⟩ => core_val rfl rfl (o_extract ht2 (by kernel_rfl)),
     fun ρz wz hE hA _ ⟨⟨hO3, hfr3⟩, _⟩ => core_copy rfl rfl (o_assign rfl) ⟨hO3, hfr3⟩,
     fun ρz wz hE hA _ ⟨u4, _⟩ => core_val rfl rfl (o_assign u4), trivial⟩ ?_
        intro ρ13 w13 hE hN hf hr
        have hN := hN rfl
        have h15 := (hr 15 rfl).trans h15
        obtain ⟨v16_, h16⟩ : ∃ v, ρ13 16 = v := ⟨_, rfl⟩
        have hq16 : (fun u wz => Own w0.heap.size 48 4 FamilyPay.cells wz u z7.1 ∧ ∀ b, u.ownBlock = some b → w12.heap.size ≤ b) (ρ13 16) w13 := hf 5 rfl
        rw [h16] at hq16
        obtain ⟨hq16, hfr16⟩ := hq16
        have h17 : ρ13 17 = .int .i64 z7.2 := hf 6 rfl
        have Oo_O9 := O9
        have Hg_0_at0 := Hg_0
        have Hg_0 := Hg_0.exn hN
        have hW := hW.trans hN
        have Hf16 : RepSl FamilyPay.R (gov noG (.slice none 0 0)) w13 v16_ z7.1 := hq16.rep (fun b hb hg => hg.elim id (fun h2 => by simp [Value.ownBlock] at h2))
        obtain ⟨_, _, hs_Hf16, _, _⟩ := RepSl.shape Hf16
        have hsz := Nat.le_trans hsz hN.size
        refine WP.seq ?_
        refine WP.via (fun ρ w => ρ 8 = .bool (((z6.2 == 1) && (z7.2 == 1)) && ((z7.1.length : Int) == 0)) ∧ GR [Value.int .i64 1, Value.int .i64 1] (gfr noG w0) w 0 ∧ Ext noG w0 w ∧ w0.heap.size ≤ w.heap.size) ?_ ?_
        · rcases Bool.eq_false_or_eq_true (z6.2 == 1) with hd2 | hd2
          · rcases Bool.eq_false_or_eq_true (z7.2 == 1) with hd6 | hd6
            · refine WP.region mixed [[], [0], [1], [2], [2, 3], [2, 4], [5], [6], [6, 7], [6, 8], [6, 9], [10]] [[], [0], [1], [2], [2, 3], [2, 4], [5], [6], [6, 7], [6, 8], [6, 9], [10]] [[15], [], [], [17], [], [], [], [16], [], [], [], []] [] []
                [val 100 (.int .i64 z6.2), val 101 (.bool (z6.2 == 1)), val 102 (.bool true), val 103 (.int .i64 z7.2), val 104 (.bool (z7.2 == 1)), val 105 (.bool (z7.2 == 1)), val 106 (.bool true), val 107 (v16_), val 108 (.int .i64 (z7.1.length : Int)), val 109 (.bool ((z7.1.length : Int) == 0)), val 110 (.bool ((z7.1.length : Int) == 0)), val 8 (.bool ((z7.1.length : Int) == 0))] noG (by kernel_rfl)
                ⟨Stable.val _ _ _, Stable.val _ _ _, Stable.val _ _ _, Stable.val _ _ _, Stable.val _ _ _, Stable.val _ _ _, Stable.val _ _ _, Stable.val _ _ _, Stable.val _ _ _, Stable.val _ _ _, Stable.val _ _ _, Stable.val _ _ _, trivial⟩
                ⟨fun ρz wz hE hA ⟨e15, _⟩ _ => core_val rfl rfl (o_move (e15.trans h15)),
     fun ρz wz hE hA _ ⟨u0, _⟩ => core_val rfl rfl (o_eql u0 rfl rfl),
     fun ρz wz hE hA _ ⟨u1, _⟩ => core_valE rfl rfl (congrArg Value.bool hd2) (o_move u1),
     fun ρz wz hE hA ⟨e17, _⟩ ⟨u2, _⟩ => gYes rfl u2 (core_val rfl rfl (o_move (e17.trans h17))),
     fun ρz wz hE hA _ ⟨u2, u3, _⟩ => gYes rfl u2 (core_val rfl rfl (o_eql u3 rfl rfl)),
     fun ρz wz hE hA _ ⟨u2, u4, _⟩ => core_val rfl rfl (o_pick_t u2 u4),
     fun ρz wz hE hA _ ⟨u5, _⟩ => core_valE rfl rfl (congrArg Value.bool hd6) (o_move u5),
     fun ρz wz hE hA ⟨e16, _⟩ ⟨u6, _⟩ => gYes rfl u6 (core_val rfl rfl (o_move (e16.trans h16))),
     fun ρz wz hE hA _ ⟨u6, u7, _⟩ => gYes rfl u6 (core_val rfl rfl (o_len (u7.trans hs_Hf16) len_38)),
     fun ρz wz hE hA _ ⟨u6, u8, _⟩ => gYes rfl u6 (core_val rfl rfl (o_eql u8 rfl rfl)),
     fun ρz wz hE hA _ ⟨u6, u9, _⟩ => core_val rfl rfl (o_pick_t u6 u9),
     fun ρz wz hE hA _ ⟨u10, _⟩ => core_val rfl rfl (o_assign u10), trivial⟩ ?_
              intro ρ15 w15 hE hN hf hr
              have hN := hN rfl
              have h8 : ρ15 8 = .bool ((z7.1.length : Int) == 0) := hf 11 rfl
              have Hg_0_at0 := Hg_0
              have Hg_0 := Hg_0.exn hN
              have hW := hW.trans hN
              have hsz := Nat.le_trans hsz hN.size
              exact ⟨(h8.trans (congrArg Value.bool (by simp [hd2, hd6]))), Hg_0, hW, hsz⟩
            · refine WP.region mixed [[], [0], [1], [2], [2, 3], [2, 4], [5], [6], [6], [6], [6], [10]] [[], [0], [1], [2], [2, 3], [2, 4], [5], [6], [6], [6], [6], [10]] [[15], [], [], [17], [], [], [], [], [], [], [], []] [] []
                [val 100 (.int .i64 z6.2), val 101 (.bool (z6.2 == 1)), val 102 (.bool true), val 103 (.int .i64 z7.2), val 104 (.bool (z7.2 == 1)), val 105 (.bool (z7.2 == 1)), val 106 (.bool false), anyF 107, anyF 108, anyF 109, val 110 (.bool false), val 8 (.bool false)] noG (by kernel_rfl)
                ⟨Stable.val _ _ _, Stable.val _ _ _, Stable.val _ _ _, Stable.val _ _ _, Stable.val _ _ _, Stable.val _ _ _, Stable.val _ _ _, Stable.any _ _, Stable.any _ _, Stable.any _ _, Stable.val _ _ _, Stable.val _ _ _, trivial⟩
                ⟨fun ρz wz hE hA ⟨e15, _⟩ _ => core_val rfl rfl (o_move (e15.trans h15)),
     fun ρz wz hE hA _ ⟨u0, _⟩ => core_val rfl rfl (o_eql u0 rfl rfl),
     fun ρz wz hE hA _ ⟨u1, _⟩ => core_valE rfl rfl (congrArg Value.bool hd2) (o_move u1),
     fun ρz wz hE hA ⟨e17, _⟩ ⟨u2, _⟩ => gYes rfl u2 (core_val rfl rfl (o_move (e17.trans h17))),
     fun ρz wz hE hA _ ⟨u2, u3, _⟩ => gYes rfl u2 (core_val rfl rfl (o_eql u3 rfl rfl)),
     fun ρz wz hE hA _ ⟨u2, u4, _⟩ => core_val rfl rfl (o_pick_t u2 u4),
     fun ρz wz hE hA _ ⟨u5, _⟩ => core_valE rfl rfl (congrArg Value.bool hd6) (o_move u5),
     fun _ _ _ _ _ ⟨u6, _⟩ => gNo rfl u6 rfl trivial,
     fun _ _ _ _ _ ⟨u6, _⟩ => gNo rfl u6 rfl trivial,
     fun _ _ _ _ _ ⟨u6, _⟩ => gNo rfl u6 rfl trivial,
     fun ρz wz hE hA _ ⟨u6, _⟩ => core_val rfl rfl (o_pick_f u6 rfl),
     fun ρz wz hE hA _ ⟨u10, _⟩ => core_val rfl rfl (o_assign u10), trivial⟩ ?_
              intro ρ16 w16 hE hN hf hr
              have hN := hN rfl
              have h8 : ρ16 8 = .bool false := hf 11 rfl
              have Hg_0_at0 := Hg_0
              have Hg_0 := Hg_0.exn hN
              have hW := hW.trans hN
              have hsz := Nat.le_trans hsz hN.size
              exact ⟨(h8.trans (congrArg Value.bool (by simp [hd2, hd6]))), Hg_0, hW, hsz⟩
          · refine WP.region mixed [[], [0], [1], [2], [2], [2], [5], [6], [6], [6], [6], [10]] [[], [0], [1], [2], [2], [2], [5], [6], [6], [6], [6], [10]] [[15], [], [], [], [], [], [], [], [], [], [], []] [] []
              [val 100 (.int .i64 z6.2), val 101 (.bool (z6.2 == 1)), val 102 (.bool false), anyF 103, anyF 104, val 105 (.bool false), val 106 (.bool false), anyF 107, anyF 108, anyF 109, val 110 (.bool false), val 8 (.bool false)] noG (by kernel_rfl)
              ⟨Stable.val _ _ _, Stable.val _ _ _, Stable.val _ _ _, Stable.any _ _, Stable.any _ _, Stable.val _ _ _, Stable.val _ _ _, Stable.any _ _, Stable.any _ _, Stable.any _ _, Stable.val _ _ _, Stable.val _ _ _, trivial⟩
              ⟨fun ρz wz hE hA ⟨e15, _⟩ _ => core_val rfl rfl (o_move (e15.trans h15)),
     fun ρz wz hE hA _ ⟨u0, _⟩ => core_val rfl rfl (o_eql u0 rfl rfl),
     fun ρz wz hE hA _ ⟨u1, _⟩ => core_valE rfl rfl (congrArg Value.bool hd2) (o_move u1),
     fun _ _ _ _ _ ⟨u2, _⟩ => gNo rfl u2 rfl trivial,
     fun _ _ _ _ _ ⟨u2, _⟩ => gNo rfl u2 rfl trivial,
     fun ρz wz hE hA _ ⟨u2, _⟩ => core_val rfl rfl (o_pick_f u2 rfl),
     fun ρz wz hE hA _ ⟨u5, _⟩ => core_val rfl rfl (o_move u5),
     fun _ _ _ _ _ ⟨u6, _⟩ => gNo rfl u6 rfl trivial,
     fun _ _ _ _ _ ⟨u6, _⟩ => gNo rfl u6 rfl trivial,
     fun _ _ _ _ _ ⟨u6, _⟩ => gNo rfl u6 rfl trivial,
     fun ρz wz hE hA _ ⟨u6, _⟩ => core_val rfl rfl (o_pick_f u6 rfl),
     fun ρz wz hE hA _ ⟨u10, _⟩ => core_val rfl rfl (o_assign u10), trivial⟩ ?_
            intro ρ17 w17 hE hN hf hr
            have hN := hN rfl
            have h8 : ρ17 8 = .bool false := hf 11 rfl
            have Hg_0_at0 := Hg_0
            have Hg_0 := Hg_0.exn hN
            have hW := hW.trans hN
            have hsz := Nat.le_trans hsz hN.size
            exact ⟨(h8.trans (congrArg Value.bool (by simp [hd2]))), Hg_0, hW, hsz⟩
        rintro ρ14 w14 ⟨h8, Hg_0, hW, hsz⟩
        refine WP.ret ?_
        show retQ Tryd.prog 111 Tryd.f5 (fun v w1 => v = .bool r ∧ Ext noG w0 w1) .ret ρ14 w14
        obtain rfl := Option.some.inj hF
        exact res1 rfl (by decide) h8 ⟨rfl, hW⟩
end Go.PL
