/- The translated code computes the Lean functions (printed by a program). -/
import Derived.Test.YtcgfjcpggbcloaaDoorTy
set_option linter.unusedVariables false
set_option linter.unusedSimpArgs false
set_option maxRecDepth 10000
namespace Go.PL
open Go Go.Proofs

set_option maxHeartbeats 4000000 in
theorem calendar_leap_ok {w0 : World} (year_ : Int) {r : Bool} (hF : calendar_leap year_ = some r) :
    Calls Tryd.prog 91 #[.int .i64 year_] w0 fun e w1 => e = .returned (.bool r) ∧ Ext noG w0 w1 := by
  refine (Calls.start (P := Tryd.prog) (args := [.int .i64 year_]) (R := fun v w1 => v = .bool r ∧ Ext noG w0 w1) (n := 16) (w := w0) Tryd.func91 rfl rfl (Nat.le_of_ble_eq_true rfl) (fun ρ hargs => ?_)).mono (fun e w1 ⟨v, he, hv, hE⟩ => ⟨hv ▸ he, hE⟩)
  have h0 := hargs 0 _ rfl
  have hW := Ext.refl noG w0
  have hsz := Nat.le_refl w0.heap.size
  rw [calendar_leap] at hF
  refine WP.seq ?_
  refine WP.region mixed [[]] [[]] [[]] [] []
    [val 2 (.bool false)] noG (by kernel_rfl)
    ⟨Stable.val _ _ _, trivial⟩
    ⟨fun ρz wz hE hA _ _ => core_val rfl rfl (o_assign rfl), trivial⟩ ?_
  intro ρ1 w1 hE hN hf hr
  have hN := hN rfl
  have h0 := (hr 0 rfl).trans h0
  have hW := hW.trans hN
  have hsz := Nat.le_trans hsz hN.size
  refine WP.seq ?_
  refine WP.via (fun ρ w => ρ 2 = .bool (((Int.tmod year_ 4 == 0) && (Int.tmod year_ 100 != 0)) || (Int.tmod year_ 400 == 0)) ∧ Ext noG w0 w ∧ w0.heap.size ≤ w.heap.size) ?_ ?_
  · rcases Bool.eq_false_or_eq_true (Int.tmod year_ 4 == 0) with hd3 | hd3
    · rcases Bool.eq_false_or_eq_true (Int.tmod year_ 100 != 0) with hd8 | hd8
      · refine WP.region mixed [[], [0], [1], [2], [3], [3, 4], [3, 5], [3, 6], [7], [8], [8], [8], [8], [12]] [[], [0], [1], [2], [3], [3, 4], [3, 5], [3, 6], [7], [8], [8], [8], [8], [12]] [[0], [], [], [], [0], [], [], [], [], [], [], [], [], []] [] []
          [val 3 (.int .i64 year_), val 4 (.int .i64 (Int.tmod year_ 4)), val 5 (.bool (Int.tmod year_ 4 == 0)), val 6 (.bool true), val 7 (.int .i64 year_), val 8 (.int .i64 (Int.tmod year_ 100)), val 9 (.bool (Int.tmod year_ 100 != 0)), val 10 (.bool (Int.tmod year_ 100 != 0)), val 11 (.bool true), anyF 12, anyF 13, anyF 14, val 15 (.bool true), val 2 (.bool true)] noG (by kernel_rfl)
          ⟨Stable.val _ _ _, Stable.val _ _ _, Stable.val _ _ _, Stable.val _ _ _, Stable.val _ _ _, Stable.val _ _ _, Stable.val _ _ _, Stable.val _ _ _, Stable.val _ _ _, Stable.any _ _, Stable.any _ _, Stable.any _ _, Stable.val _ _ _, Stable.val _ _ _, trivial⟩
          ⟨fun ρz wz hE hA ⟨e0, _⟩ _ => core_val rfl rfl (o_move (e0.trans h0)),
     fun ρz wz hE hA _ ⟨u0, _⟩ => core_val rfl rfl (o_rem u0 rfl (by decide) rfl),
     fun ρz wz hE hA _ ⟨u1, _⟩ => core_val rfl rfl (o_eql u1 rfl rfl),
     fun ρz wz hE hA _ ⟨u2, _⟩ => core_valE rfl rfl (congrArg Value.bool hd3) (o_move u2),
     fun ρz wz hE hA ⟨e0, _⟩ ⟨u3, _⟩ => gYes rfl u3 (core_val rfl rfl (o_move (e0.trans h0))),
     fun ρz wz hE hA _ ⟨u3, u4, _⟩ => gYes rfl u3 (core_val rfl rfl (o_rem u4 rfl (by decide) rfl)),
     fun ρz wz hE hA _ ⟨u3, u5, _⟩ => gYes rfl u3 (core_val rfl rfl (o_neq u5 rfl rfl)),
     fun ρz wz hE hA _ ⟨u3, u6, _⟩ => core_val rfl rfl (o_pick_t u3 u6),
     fun ρz wz hE hA _ ⟨u7, _⟩ => core_valE rfl rfl (congrArg Value.bool hd8) (o_move u7),
     fun _ _ _ _ _ ⟨u8, _⟩ => gNo rfl u8 rfl trivial,
     fun _ _ _ _ _ ⟨u8, _⟩ => gNo rfl u8 rfl trivial,
     fun _ _ _ _ _ ⟨u8, _⟩ => gNo rfl u8 rfl trivial,
     fun ρz wz hE hA _ ⟨u8, _⟩ => core_val rfl rfl (o_pick_t u8 rfl),
     fun ρz wz hE hA _ ⟨u12, _⟩ => core_val rfl rfl (o_assign u12), trivial⟩ ?_
        intro ρ3 w3 hE hN hf hr
        have hN := hN rfl
        have h2 : ρ3 2 = .bool true := hf 13 rfl
        have hW := hW.trans hN
        have hsz := Nat.le_trans hsz hN.size
        exact ⟨(h2.trans (congrArg Value.bool (by simp [hd3, hd8]))), hW, hsz⟩
      · refine WP.region mixed [[], [0], [1], [2], [3], [3, 4], [3, 5], [3, 6], [7], [8], [8, 9], [8, 10], [8, 11], [12]] [[], [0], [1], [2], [3], [3, 4], [3, 5], [3, 6], [7], [8], [8, 9], [8, 10], [8, 11], [12]] [[0], [], [], [], [0], [], [], [], [], [0], [], [], [], []] [] []
          [val 3 (.int .i64 year_), val 4 (.int .i64 (Int.tmod year_ 4)), val 5 (.bool (Int.tmod year_ 4 == 0)), val 6 (.bool true), val 7 (.int .i64 year_), val 8 (.int .i64 (Int.tmod year_ 100)), val 9 (.bool (Int.tmod year_ 100 != 0)), val 10 (.bool (Int.tmod year_ 100 != 0)), val 11 (.bool false), val 12 (.int .i64 year_), val 13 (.int .i64 (Int.tmod year_ 400)), val 14 (.bool (Int.tmod year_ 400 == 0)), val 15 (.bool (Int.tmod year_ 400 == 0)), val 2 (.bool (Int.tmod year_ 400 == 0))] noG (by kernel_rfl)
          ⟨Stable.val _ _ _, Stable.val _ _ _, Stable.val _ _ _, Stable.val _ _ _, Stable.val _ _ _, Stable.val _ _ _, Stable.val _ _ _, Stable.val _ _ _, Stable.val _ _ _, Stable.val _ _ _, Stable.val _ _ _, Stable.val _ _ _, Stable.val _ _ _, Stable.val _ _ _, trivial⟩
          ⟨fun ρz wz hE hA ⟨e0, _⟩ _ => core_val rfl rfl (o_move (e0.trans h0)),
     fun ρz wz hE hA _ ⟨u0, _⟩ => core_val rfl rfl (o_rem u0 rfl (by decide) rfl),
     fun ρz wz hE hA _ ⟨u1, _⟩ => core_val rfl rfl (o_eql u1 rfl rfl),
     fun ρz wz hE hA _ ⟨u2, _⟩ => core_valE rfl rfl (congrArg Value.bool hd3) (o_move u2),
     fun ρz wz hE hA ⟨e0, _⟩ ⟨u3, _⟩ => gYes rfl u3 (core_val rfl rfl (o_move (e0.trans h0))),
     fun ρz wz hE hA _ ⟨u3, u4, _⟩ => gYes rfl u3 (core_val rfl rfl (o_rem u4 rfl (by decide) rfl)),
     fun ρz wz hE hA _ ⟨u3, u5, _⟩ => gYes rfl u3 (core_val rfl rfl (o_neq u5 rfl rfl)),
     fun ρz wz hE hA _ ⟨u3, u6, _⟩ => core_val rfl rfl (o_pick_t u3 u6),
     fun ρz wz hE hA _ ⟨u7, _⟩ => core_valE rfl rfl (congrArg Value.bool hd8) (o_move u7),
     fun ρz wz hE hA ⟨e0, _⟩ ⟨u8, _⟩ => gYes rfl u8 (core_val rfl rfl (o_move (e0.trans h0))),
     fun ρz wz hE hA _ ⟨u8, u9, _⟩ => gYes rfl u8 (core_val rfl rfl (o_rem u9 rfl (by decide) rfl)),
     fun ρz wz hE hA _ ⟨u8, u10, _⟩ => gYes rfl u8 (core_val rfl rfl (o_eql u10 rfl rfl)),
     fun ρz wz hE hA _ ⟨u8, u11, _⟩ => core_val rfl rfl (o_pick_f u8 u11),
     fun ρz wz hE hA _ ⟨u12, _⟩ => core_val rfl rfl (o_assign u12), trivial⟩ ?_
        intro ρ4 w4 hE hN hf hr
        have hN := hN rfl
        have h2 : ρ4 2 = .bool (Int.tmod year_ 400 == 0) := hf 13 rfl
        have hW := hW.trans hN
        have hsz := Nat.le_trans hsz hN.size
        exact ⟨(h2.trans (congrArg Value.bool (by simp [hd3, hd8]))), hW, hsz⟩
    · refine WP.region mixed [[], [0], [1], [2], [3], [3], [3], [3], [7], [8], [8, 9], [8, 10], [8, 11], [12]] [[], [0], [1], [2], [3], [3], [3], [3], [7], [8], [8, 9], [8, 10], [8, 11], [12]] [[0], [], [], [], [], [], [], [], [], [0], [], [], [], []] [] []
        [val 3 (.int .i64 year_), val 4 (.int .i64 (Int.tmod year_ 4)), val 5 (.bool (Int.tmod year_ 4 == 0)), val 6 (.bool false), anyF 7, anyF 8, anyF 9, val 10 (.bool false), val 11 (.bool false), val 12 (.int .i64 year_), val 13 (.int .i64 (Int.tmod year_ 400)), val 14 (.bool (Int.tmod year_ 400 == 0)), val 15 (.bool (Int.tmod year_ 400 == 0)), val 2 (.bool (Int.tmod year_ 400 == 0))] noG (by kernel_rfl)
        ⟨Stable.val _ _ _, Stable.val _ _ _, Stable.val _ _ _, Stable.val _ _ _, Stable.any _ _, Stable.any _ _, Stable.any _ _, Stable.val _ _ _, Stable.val _ _ _, Stable.val _ _ _, Stable.val _ _ _, Stable.val _ _ _, Stable.val _ _ _, Stable.val _ _ _, trivial⟩
        ⟨fun ρz wz hE hA ⟨e0, _⟩ _ => core_val rfl rfl (o_move (e0.trans h0)),
     fun ρz wz hE hA _ ⟨u0, _⟩ => core_val rfl rfl (o_rem u0 rfl (by decide) rfl),
     fun ρz wz hE hA _ ⟨u1, _⟩ => core_val rfl rfl (o_eql u1 rfl rfl),
     fun ρz wz hE hA _ ⟨u2, _⟩ => core_valE rfl rfl (congrArg Value.bool hd3) (o_move u2),
     fun _ _ _ _ _ ⟨u3, _⟩ => gNo rfl u3 rfl trivial,
     fun _ _ _ _ _ ⟨u3, _⟩ => gNo rfl u3 rfl trivial,
     fun _ _ _ _ _ ⟨u3, _⟩ => gNo rfl u3 rfl trivial,
     fun ρz wz hE hA _ ⟨u3, _⟩ => core_val rfl rfl (o_pick_f u3 rfl),
     fun ρz wz hE hA _ ⟨u7, _⟩ => core_val rfl rfl (o_move u7),
     fun ρz wz hE hA ⟨e0, _⟩ ⟨u8, _⟩ => gYes rfl u8 (core_val rfl rfl (o_move (e0.trans h0))),
     fun ρz wz hE hA _ ⟨u8, u9, _⟩ => gYes rfl u8 (core_val rfl rfl (o_rem u9 rfl (by decide) rfl)),
     fun ρz wz hE hA _ ⟨u8, u10, _⟩ => gYes rfl u8 (core_val rfl rfl (o_eql u10 rfl rfl)),
     fun ρz wz hE hA _ ⟨u8, u11, _⟩ => core_val rfl rfl (o_pick_f u8 u11),
     fun ρz wz hE hA _ ⟨u12, _⟩ => core_val rfl rfl (o_assign u12), trivial⟩ ?_
      intro ρ5 w5 hE hN hf hr
      have hN := hN rfl
      have h2 : ρ5 2 = .bool (Int.tmod year_ 400 == 0) := hf 13 rfl
      have hW := hW.trans hN
      have hsz := Nat.le_trans hsz hN.size
      exact ⟨(h2.trans (congrArg Value.bool (by simp [hd3]))), hW, hsz⟩
  rintro ρ2 w2 ⟨h2, hW, hsz⟩
  refine WP.ret ?_
  show retQ Tryd.prog 16 Tryd.f91 (fun v w1 => v = .bool r ∧ Ext noG w0 w1) .ret ρ2 w2
  obtain rfl := Option.some.inj hF
  exact res1 rfl (by decide) h2 ⟨rfl, hW⟩

set_option maxHeartbeats 4000000 in
theorem calendar_monthLength_ok {w0 : World} (year_ : Int) (month_ : Int) {r : Int} (hF : calendar_monthLength year_ month_ = some r) :
    Calls Tryd.prog 84 #[.int .i64 year_, .int .i64 month_] w0 fun e w1 => e = .returned (.int .i64 r) ∧ Ext noG w0 w1 := by
  refine (Calls.start (P := Tryd.prog) (args := [.int .i64 year_, .int .i64 month_]) (R := fun v w1 => v = .int .i64 r ∧ Ext noG w0 w1) (n := 17) (w := w0) Tryd.func84 rfl rfl (Nat.le_of_ble_eq_true rfl) (fun ρ hargs => ?_)).mono (fun e w1 ⟨v, he, hv, hE⟩ => ⟨hv ▸ he, hE⟩)
  have h0 := hargs 0 _ rfl
  have h1 := hargs 1 _ rfl
  have hW := Ext.refl noG w0
  have hsz := Nat.le_refl w0.heap.size
  rw [calendar_monthLength] at hF
  refine WP.seq ?_
  refine WP.region mixed [[]] [[]] [[]] [] []
    [val 4 (.int .i64 0)] noG (by kernel_rfl)
    ⟨Stable.val _ _ _, trivial⟩
    ⟨fun ρz wz hE hA _ _ => core_val rfl rfl (o_assign rfl), trivial⟩ ?_
  intro ρ1 w1 hE hN hf hr
  have hN := hN rfl
  have h0 := (hr 0 rfl).trans h0
  have h1 := (hr 1 rfl).trans h1
  have hW := hW.trans hN
  have hsz := Nat.le_trans hsz hN.size
  refine WP.seq ?_
  refine WP.region mixed [[], [], [0, 1]] [[], [], [1, 0]] [[], [], []] [2] [(1, 2)]
    [val 6 (arrV (fun x : Int => [Value.int .i64 x]) [31, 28, 31, 30, 31, 30, 31, 31, 30, 31, 30, 31]), (5, fun u wz => ∃ b, u = .pointer (some ⟨b, 0, none⟩) ∧ w1.heap.size ≤ b ∧ Mb wz b 117 ((List.replicate 12 0).flatMap (fun x : Int => [Value.int .i64 x]))), (5, fun u wz => ∃ b, u = .pointer (some ⟨b, 0, none⟩) ∧ w1.heap.size ≤ b ∧ Mb wz b 117 ([31, 28, 31, 30, 31, 30, 31, 31, 30, 31, 30, 31].flatMap (fun x : Int => [Value.int .i64 x])))] (fun b => w1.heap.size ≤ b) (by kernel_rfl)
    ⟨Stable.val _ _ _, fun _ _ _ hE ⟨b, hb, hs, hM⟩ => ⟨b, hb, hs, hM.exn hE⟩, fun _ _ _ hE ⟨b, hb, hs, hM⟩ => ⟨b, hb, hs, hM.exn hE⟩, trivial⟩
    ⟨fun ρz wz hE hA _ _ => core_val rfl rfl (o_build rfl (by kernel_rfl)),
     fun ρz wz hE hA _ _ => core_new rfl rfl hE (o_alloc (al_117 _)),
     fun ρz wz hE hA _ ⟨u1, u0, _⟩ => core_storeNew rfl rfl rfl rfl u0 u1 (fun a w => (st_117 _ (by simp)) a w) rfl (one_117 _), trivial⟩ ?_
  intro ρ2 w2 hE hN hf hr
  have hN := hE.fresh
  have h0 := (hr 0 rfl).trans h0
  have h1 := (hr 1 rfl).trans h1
  obtain ⟨b5_, h5, hge_b5_, Hb_b5_⟩ := hf 2 rfl
  have hW := hW.trans hN
  have hlen_b5_ : [31, 28, 31, 30, 31, 30, 31, 31, 30, 31, 30, 31].length = 12 := by simp
  have hB_b5_ : w0.heap.size ≤ b5_ := Nat.le_trans hsz hge_b5_
  have hsz := Nat.le_trans hsz hN.size
  refine WP.seq ?_
  refine WP.seq ?_
  obtain ⟨c, hc, hF⟩ := obind hF
  refine WP.via (fun ρ w => ρ 1 = .int .i64 month_ ∧ ρ 5 = .pointer (some ⟨b5_, 0, none⟩) ∧ ρ 12 = .bool c ∧ Mb w b5_ 117 ([31, 28, 31, 30, 31, 30, 31, 31, 30, 31, 30, 31].flatMap (fun x : Int => [Value.int .i64 x])) ∧ [31, 28, 31, 30, 31, 30, 31, 31, 30, 31, 30, 31].length = 12 ∧ Ext noG w0 w ∧ w0.heap.size ≤ w.heap.size) ?_ ?_
  · rcases Bool.eq_false_or_eq_true (month_ == 2) with hd2 | hd2
    · have hc := (if_pos (by simp [hd2])).symm.trans hc
      obtain ⟨z, hz, hc⟩ := obind hc
      have hc := Option.some.inj hc
      refine WP.region mixed [[], [0], [1], [2], [2, 3], [2, 4]] [[], [0], [1], [2], [2, 3], [2, 4]] [[1], [], [], [0], [], []] [] []
        [val 7 (.int .i64 month_), val 8 (.bool (month_ == 2)), val 9 (.bool true), val 10 (.int .i64 year_), val 11 (.bool z), val 12 (.bool z)] noG (by kernel_rfl)
        ⟨Stable.val _ _ _, Stable.val _ _ _, Stable.val _ _ _, Stable.val _ _ _, Stable.val _ _ _, Stable.val _ _ _, trivial⟩
        ⟨fun ρz wz hE hA ⟨e1, _⟩ _ => core_val rfl rfl (o_move (e1.trans h1)),
     fun ρz wz hE hA _ ⟨u0, _⟩ => core_val rfl rfl (o_eql u0 rfl rfl),
     fun ρz wz hE hA _ ⟨u1, _⟩ => core_valE rfl rfl (congrArg Value.bool hd2) (o_move u1),
     fun ρz wz hE hA ⟨e0, _⟩ ⟨u2, _⟩ => gYes rfl u2 (core_val rfl rfl (o_move (e0.trans h0))),
     fun ρz wz hE hA _ ⟨u2, u3, _⟩ => gYes rfl u2 (core_call rfl (call_args1 u3) cf_91 (calendar_leap_ok  _  hz)),
     fun ρz wz hE hA _ ⟨u2, u4, _⟩ => core_val rfl rfl (o_pick_t u2 u4), trivial⟩ ?_
      intro ρ4 w4 hE hN hf hr
      have hN := hN rfl
      have h1 := (hr 1 rfl).trans h1
      have h5 := (hr 5 rfl).trans h5
      have h12 : ρ4 12 = .bool z := hf 5 rfl
      have Hb_b5_n := Hb_b5_.exn hN
      have hW := hW.trans hN
      have Hb_b5_ := Hb_b5_n
      have hsz := Nat.le_trans hsz hN.size
      exact ⟨h1, h5, (h12.trans (congrArg Value.bool (by simp [hd2, ← hc]))), Hb_b5_, hlen_b5_, hW, hsz⟩
    · have hc := (if_neg (Bool.eq_false_iff.1 (by simp [hd2]))).symm.trans hc
      have hc := Option.some.inj hc
      refine WP.region mixed [[], [0], [1], [2], [2], [2]] [[], [0], [1], [2], [2], [2]] [[1], [], [], [], [], []] [] []
        [val 7 (.int .i64 month_), val 8 (.bool (month_ == 2)), val 9 (.bool false), anyF 10, anyF 11, val 12 (.bool false)] noG (by kernel_rfl)
        ⟨Stable.val _ _ _, Stable.val _ _ _, Stable.val _ _ _, Stable.any _ _, Stable.any _ _, Stable.val _ _ _, trivial⟩
        ⟨fun ρz wz hE hA ⟨e1, _⟩ _ => core_val rfl rfl (o_move (e1.trans h1)),
     fun ρz wz hE hA _ ⟨u0, _⟩ => core_val rfl rfl (o_eql u0 rfl rfl),
     fun ρz wz hE hA _ ⟨u1, _⟩ => core_valE rfl rfl (congrArg Value.bool hd2) (o_move u1),
     fun _ _ _ _ _ ⟨u2, _⟩ => gNo rfl u2 rfl trivial,
     fun _ _ _ _ _ ⟨u2, _⟩ => gNo rfl u2 rfl trivial,
     fun ρz wz hE hA _ ⟨u2, _⟩ => core_val rfl rfl (o_pick_f u2 rfl), trivial⟩ ?_
      intro ρ5 w5 hE hN hf hr
      have hN := hN rfl
      have h1 := (hr 1 rfl).trans h1
      have h5 := (hr 5 rfl).trans h5
      have h12 : ρ5 12 = .bool false := hf 5 rfl
      have Hb_b5_n := Hb_b5_.exn hN
      have hW := hW.trans hN
      have Hb_b5_ := Hb_b5_n
      have hsz := Nat.le_trans hsz hN.size
      exact ⟨h1, h5, (h12.trans (congrArg Value.bool (by simp [hd2, ← hc]))), Hb_b5_, hlen_b5_, hW, hsz⟩
  rintro ρ3 w3 ⟨h1, h5, h12, Hb_b5_, hlen_b5_, hW, hsz⟩
  refine WP.cond rfl h12 (fun hb => ?_) (fun hb => ?_)
  · have hF := (if_pos hb).symm.trans hF
    refine WP.seq ?_
    refine WP.region mixed [[]] [[]] [[]] [] []
      [val 4 (.int .i64 29)] noG (by kernel_rfl)
      ⟨Stable.val _ _ _, trivial⟩
      ⟨fun ρz wz hE hA _ _ => core_val rfl rfl (o_assign rfl), trivial⟩ ?_
    intro ρ6 w6 hE hN hf hr
    have hN := hN rfl
    have h4 : ρ6 4 = .int .i64 29 := hf 0 rfl
    have hW := hW.trans hN
    have hsz := Nat.le_trans hsz hN.size
    refine WP.ret ?_
    show retQ Tryd.prog 17 Tryd.f84 (fun v w1 => v = .int .i64 r ∧ Ext noG w0 w1) .ret ρ6 w6
    obtain rfl := Option.some.inj hF
    exact res1 rfl (by decide) h4 ⟨rfl, hW⟩
  · have hF := (if_neg (Bool.eq_false_iff.1 hb)).symm.trans hF
    refine WP.skip ?_
    refine WP.seq ?_
    obtain ⟨y, hy, hF⟩ := obind hF
    refine WP.region mixed [[], [0], [1], [2], [3]] [[], [0], [1], [2], [3]] [[1], [], [5], [], []] [] []
      [val 13 (.int .i64 month_), val 14 (.int .i64 (i64 (month_ - 1))), val 15 (.pointer (some ((⟨b5_, 0, none⟩ : Addr).add (Int.toNat (i64 (month_ - 1)) * 1)))), val 16 (.int .i64 y), val 4 (.int .i64 y)] noG (by kernel_rfl)
      ⟨Stable.val _ _ _, Stable.val _ _ _, Stable.val _ _ _, Stable.val _ _ _, Stable.val _ _ _, trivial⟩
      ⟨fun ρz wz hE hA ⟨e1, _⟩ _ => core_val rfl rfl (o_move (e1.trans h1)),
     fun ρz wz hE hA _ ⟨u0, _⟩ => core_val rfl rfl (o_sub u0 rfl rfl),
     fun ρz wz hE hA ⟨e5, _⟩ ⟨u1, _⟩ => core_val rfl rfl (o_indexAddr (e5.trans h5) u1 (ia_117 (arr_lt hy (by first | exact hlen_b5_ | simp)))),
     fun ρz wz hE hA _ ⟨u2, _⟩ => core_val rfl rfl (o_load u2 (run_load1 (lr_3 _ _) (CA.elem (cells := fun x : Int => [Value.int .i64 x]) 1 (fun _ => rfl) ((Hb_b5_.exn (hA rfl)).ca) hy))),
     fun ρz wz hE hA _ ⟨u3, _⟩ => core_val rfl rfl (o_assign u3), trivial⟩ ?_
    intro ρ7 w7 hE hN hf hr
    have hN := hN rfl
    have h4 : ρ7 4 = .int .i64 y := hf 4 rfl
    have hW := hW.trans hN
    have hsz := Nat.le_trans hsz hN.size
    refine WP.ret ?_
    show retQ Tryd.prog 17 Tryd.f84 (fun v w1 => v = .int .i64 r ∧ Ext noG w0 w1) .ret ρ7 w7
    obtain rfl := Option.some.inj hF
    exact res1 rfl (by decide) h4 ⟨rfl, hW⟩

set_option maxHeartbeats 4000000 in
theorem calendar_validMonth_ok {w0 : World} (month_ : Int) {r : Bool} (hF : calendar_validMonth month_ = some r) :
    Calls Tryd.prog 83 #[.int .i64 month_] w0 fun e w1 => e = .returned (.bool r) ∧ Ext noG w0 w1 := by
  refine (Calls.start (P := Tryd.prog) (args := [.int .i64 month_]) (R := fun v w1 => v = .bool r ∧ Ext noG w0 w1) (n := 9) (w := w0) Tryd.func83 rfl rfl (Nat.le_of_ble_eq_true rfl) (fun ρ hargs => ?_)).mono (fun e w1 ⟨v, he, hv, hE⟩ => ⟨hv ▸ he, hE⟩)
  have h0 := hargs 0 _ rfl
  have hW := Ext.refl noG w0
  have hsz := Nat.le_refl w0.heap.size
  rw [calendar_validMonth] at hF
  refine WP.seq ?_
  refine WP.region mixed [[]] [[]] [[]] [] []
    [val 2 (.bool false)] noG (by kernel_rfl)
    ⟨Stable.val _ _ _, trivial⟩
    ⟨fun ρz wz hE hA _ _ => core_val rfl rfl (o_assign rfl), trivial⟩ ?_
  intro ρ1 w1 hE hN hf hr
  have hN := hN rfl
  have h0 := (hr 0 rfl).trans h0
  have hW := hW.trans hN
  have hsz := Nat.le_trans hsz hN.size
  refine WP.seq ?_
  refine WP.via (fun ρ w => ρ 2 = .bool (decide (0 ≤ month_) && decide (month_ ≤ 2399)) ∧ Ext noG w0 w ∧ w0.heap.size ≤ w.heap.size) ?_ ?_
  · rcases Bool.eq_false_or_eq_true (decide (0 ≤ month_)) with hd2 | hd2
    · refine WP.region mixed [[], [0], [1], [2], [2, 3], [2, 4], [5]] [[], [0], [1], [2], [2, 3], [2, 4], [5]] [[0], [], [], [0], [], [], []] [] []
        [val 3 (.int .i64 month_), val 4 (.bool (decide (0 ≤ month_))), val 5 (.bool true), val 6 (.int .i64 month_), val 7 (.bool (decide (month_ ≤ 2399))), val 8 (.bool (decide (month_ ≤ 2399))), val 2 (.bool (decide (month_ ≤ 2399)))] noG (by kernel_rfl)
        ⟨Stable.val _ _ _, Stable.val _ _ _, Stable.val _ _ _, Stable.val _ _ _, Stable.val _ _ _, Stable.val _ _ _, Stable.val _ _ _, trivial⟩
        ⟨fun ρz wz hE hA ⟨e0, _⟩ _ => core_val rfl rfl (o_move (e0.trans h0)),
     fun ρz wz hE hA _ ⟨u0, _⟩ => core_val rfl rfl (o_geq u0 rfl rfl),
     fun ρz wz hE hA _ ⟨u1, _⟩ => core_valE rfl rfl (congrArg Value.bool hd2) (o_move u1),
     fun ρz wz hE hA ⟨e0, _⟩ ⟨u2, _⟩ => gYes rfl u2 (core_val rfl rfl (o_move (e0.trans h0))),
     fun ρz wz hE hA _ ⟨u2, u3, _⟩ => gYes rfl u2 (core_val rfl rfl (o_leq u3 rfl rfl)),
     fun ρz wz hE hA _ ⟨u2, u4, _⟩ => core_val rfl rfl (o_pick_t u2 u4),
     fun ρz wz hE hA _ ⟨u5, _⟩ => core_val rfl rfl (o_assign u5), trivial⟩ ?_
      intro ρ3 w3 hE hN hf hr
      have hN := hN rfl
      have h2 : ρ3 2 = .bool (decide (month_ ≤ 2399)) := hf 6 rfl
      have hW := hW.trans hN
      have hsz := Nat.le_trans hsz hN.size
      exact ⟨(h2.trans (congrArg Value.bool (by simp [hd2]))), hW, hsz⟩
    · refine WP.region mixed [[], [0], [1], [2], [2], [2], [5]] [[], [0], [1], [2], [2], [2], [5]] [[0], [], [], [], [], [], []] [] []
        [val 3 (.int .i64 month_), val 4 (.bool (decide (0 ≤ month_))), val 5 (.bool false), anyF 6, anyF 7, val 8 (.bool false), val 2 (.bool false)] noG (by kernel_rfl)
        ⟨Stable.val _ _ _, Stable.val _ _ _, Stable.val _ _ _, Stable.any _ _, Stable.any _ _, Stable.val _ _ _, Stable.val _ _ _, trivial⟩
        ⟨fun ρz wz hE hA ⟨e0, _⟩ _ => core_val rfl rfl (o_move (e0.trans h0)),
     fun ρz wz hE hA _ ⟨u0, _⟩ => core_val rfl rfl (o_geq u0 rfl rfl),
     fun ρz wz hE hA _ ⟨u1, _⟩ => core_valE rfl rfl (congrArg Value.bool hd2) (o_move u1),
     fun _ _ _ _ _ ⟨u2, _⟩ => gNo rfl u2 rfl trivial,
     fun _ _ _ _ _ ⟨u2, _⟩ => gNo rfl u2 rfl trivial,
     fun ρz wz hE hA _ ⟨u2, _⟩ => core_val rfl rfl (o_pick_f u2 rfl),
     fun ρz wz hE hA _ ⟨u5, _⟩ => core_val rfl rfl (o_assign u5), trivial⟩ ?_
      intro ρ4 w4 hE hN hf hr
      have hN := hN rfl
      have h2 : ρ4 2 = .bool false := hf 6 rfl
      have hW := hW.trans hN
      have hsz := Nat.le_trans hsz hN.size
      exact ⟨(h2.trans (congrArg Value.bool (by simp [hd2]))), hW, hsz⟩
  rintro ρ2 w2 ⟨h2, hW, hsz⟩
  refine WP.ret ?_
  show retQ Tryd.prog 9 Tryd.f83 (fun v w1 => v = .bool r ∧ Ext noG w0 w1) .ret ρ2 w2
  obtain rfl := Option.some.inj hF
  exact res1 rfl (by decide) h2 ⟨rfl, hW⟩

set_option maxHeartbeats 4000000 in
theorem calendar_MonthDays_ok {w0 : World} (month_ : Int) {r : Int} (hF : calendar_MonthDays month_ = some r) :
    Calls Tryd.prog 67 #[.int .i64 month_] w0 fun e w1 => e = .returned (.int .i64 r) ∧ Ext noG w0 w1 := by
  refine (Calls.start (P := Tryd.prog) (args := [.int .i64 month_]) (R := fun v w1 => v = .int .i64 r ∧ Ext noG w0 w1) (n := 13) (w := w0) Tryd.func67 rfl rfl (Nat.le_of_ble_eq_true rfl) (fun ρ hargs => ?_)).mono (fun e w1 ⟨v, he, hv, hE⟩ => ⟨hv ▸ he, hE⟩)
  have h0 := hargs 0 _ rfl
  have hW := Ext.refl noG w0
  have hsz := Nat.le_refl w0.heap.size
  rw [calendar_MonthDays] at hF
  refine WP.seq ?_
  refine WP.region mixed [[]] [[]] [[]] [] []
    [val 2 (.int .i64 0)] noG (by kernel_rfl)
    ⟨Stable.val _ _ _, trivial⟩
    ⟨fun ρz wz hE hA _ _ => core_val rfl rfl (o_assign rfl), trivial⟩ ?_
  intro ρ1 w1 hE hN hf hr
  have hN := hN rfl
  have h0 := (hr 0 rfl).trans h0
  have hW := hW.trans hN
  have hsz := Nat.le_trans hsz hN.size
  refine WP.seq ?_
  refine WP.seq ?_
  obtain ⟨z, hz, hF⟩ := obind hF
  refine WP.region mixed [[], [0], [1]] [[], [0], [1]] [[0], [], []] [] []
    [val 3 (.int .i64 month_), val 4 (.bool z), val 5 (.bool (!z))] noG (by kernel_rfl)
    ⟨Stable.val _ _ _, Stable.val _ _ _, Stable.val _ _ _, trivial⟩
    ⟨fun ρz wz hE hA ⟨e0, _⟩ _ => core_val rfl rfl (o_move (e0.trans h0)),
     fun ρz wz hE hA _ ⟨u0, _⟩ => core_call rfl (call_args1 u0) cf_83 (calendar_validMonth_ok  _  hz),
     fun ρz wz hE hA _ ⟨u1, _⟩ => core_val rfl rfl (o_not u1 rfl), trivial⟩ ?_
  intro ρ2 w2 hE hN hf hr
  have hN := hN rfl
  have h0 := (hr 0 rfl).trans h0
  have h5 : ρ2 5 = .bool (!z) := hf 2 rfl
  have hW := hW.trans hN
  have hsz := Nat.le_trans hsz hN.size
  refine WP.cond rfl h5 (fun hb => ?_) (fun hb => ?_)
  · have hF := (if_pos hb).symm.trans hF
    refine WP.seq ?_
    refine WP.region mixed [[]] [[]] [[]] [] []
      [val 2 (.int .i64 0)] noG (by kernel_rfl)
      ⟨Stable.val _ _ _, trivial⟩
      ⟨fun ρz wz hE hA _ _ => core_val rfl rfl (o_assign rfl), trivial⟩ ?_
    intro ρ3 w3 hE hN hf hr
    have hN := hN rfl
    have h2 : ρ3 2 = .int .i64 0 := hf 0 rfl
    have hW := hW.trans hN
    have hsz := Nat.le_trans hsz hN.size
    refine WP.ret ?_
    show retQ Tryd.prog 13 Tryd.f67 (fun v w1 => v = .int .i64 r ∧ Ext noG w0 w1) .ret ρ3 w3
    obtain rfl := Option.some.inj hF
    exact res1 rfl (by decide) h2 ⟨rfl, hW⟩
  · have hF := (if_neg (Bool.eq_false_iff.1 hb)).symm.trans hF
    refine WP.skip ?_
    refine WP.seq ?_
    obtain ⟨z2, hz2, hF⟩ := obind hF
    refine WP.region mixed [[], [0], [1], [], [3], [4], [2, 5], [6]] [[], [0], [1], [], [3], [4], [2, 5], [6]] [[0], [], [], [0], [], [], [], []] [] []
      [val 6 (.int .i64 month_), val 7 (.int .i64 (i64 (Int.tdiv month_ 12))), val 8 (.int .i64 (i64 (1900 + i64 (Int.tdiv month_ 12)))), val 9 (.int .i64 month_), val 10 (.int .i64 (Int.tmod month_ 12)), val 11 (.int .i64 (i64 (Int.tmod month_ 12 + 1))), val 12 (.int .i64 z2), val 2 (.int .i64 z2)] noG (by kernel_rfl)
      ⟨Stable.val _ _ _, Stable.val _ _ _, Stable.val _ _ _, Stable.val _ _ _, Stable.val _ _ _, Stable.val _ _ _, Stable.val _ _ _, Stable.val _ _ _, trivial⟩
      ⟨fun ρz wz hE hA ⟨e0, _⟩ _ => core_val rfl rfl (o_move (e0.trans h0)),
     fun ρz wz hE hA _ ⟨u0, _⟩ => core_val rfl rfl (o_quo u0 rfl (by decide) rfl),
     fun ρz wz hE hA _ ⟨u1, _⟩ => core_val rfl rfl (o_add rfl u1 rfl),
     fun ρz wz hE hA ⟨e0, _⟩ _ => core_val rfl rfl (o_move (e0.trans h0)),
     fun ρz wz hE hA _ ⟨u3, _⟩ => core_val rfl rfl (o_rem u3 rfl (by decide) rfl),
     fun ρz wz hE hA _ ⟨u4, _⟩ => core_val rfl rfl (o_add u4 rfl rfl),
     fun ρz wz hE hA _ ⟨u2, u5, _⟩ => core_call rfl (call_args2 u2 u5) cf_84 (calendar_monthLength_ok  _ _  hz2),
     fun ρz wz hE hA _ ⟨u6, _⟩ => core_val rfl rfl (o_assign u6), trivial⟩ ?_
    intro ρ4 w4 hE hN hf hr
    have hN := hN rfl
    have h2 : ρ4 2 = .int .i64 z2 := hf 7 rfl
    have hW := hW.trans hN
    have hsz := Nat.le_trans hsz hN.size
    refine WP.ret ?_
    show retQ Tryd.prog 13 Tryd.f67 (fun v w1 => v = .int .i64 r ∧ Ext noG w0 w1) .ret ρ4 w4
    obtain rfl := Option.some.inj hF
    exact res1 rfl (by decide) h2 ⟨rfl, hW⟩

set_option maxHeartbeats 4000000 in
theorem money_currency_ok {w0 : World} (x_ : Int) {r : Bool} (hF : money_currency x_ = some r) :
    Calls Tryd.prog 43 #[.int .i64 x_] w0 fun e w1 => e = .returned (.bool r) ∧ Ext noG w0 w1 := by
  refine (Calls.start (P := Tryd.prog) (args := [.int .i64 x_]) (R := fun v w1 => v = .bool r ∧ Ext noG w0 w1) (n := 9) (w := w0) Tryd.func43 rfl rfl (Nat.le_of_ble_eq_true rfl) (fun ρ hargs => ?_)).mono (fun e w1 ⟨v, he, hv, hE⟩ => ⟨hv ▸ he, hE⟩)
  have h0 := hargs 0 _ rfl
  have hW := Ext.refl noG w0
  have hsz := Nat.le_refl w0.heap.size
  rw [money_currency] at hF
  refine WP.seq ?_
  refine WP.region mixed [[]] [[]] [[]] [] []
    [val 2 (.bool false)] noG (by kernel_rfl)
    ⟨Stable.val _ _ _, trivial⟩
    ⟨fun ρz wz hE hA _ _ => core_val rfl rfl (o_assign rfl), trivial⟩ ?_
  intro ρ1 w1 hE hN hf hr
  have hN := hN rfl
  have h0 := (hr 0 rfl).trans h0
  have hW := hW.trans hN
  have hsz := Nat.le_trans hsz hN.size
  refine WP.seq ?_
  refine WP.via (fun ρ w => ρ 2 = .bool (decide (1 ≤ x_) && decide (x_ ≤ 999)) ∧ Ext noG w0 w ∧ w0.heap.size ≤ w.heap.size) ?_ ?_
  · rcases Bool.eq_false_or_eq_true (decide (1 ≤ x_)) with hd2 | hd2
    · refine WP.region mixed [[], [0], [1], [2], [2, 3], [2, 4], [5]] [[], [0], [1], [2], [2, 3], [2, 4], [5]] [[0], [], [], [0], [], [], []] [] []
        [val 3 (.int .i64 x_), val 4 (.bool (decide (1 ≤ x_))), val 5 (.bool true), val 6 (.int .i64 x_), val 7 (.bool (decide (x_ ≤ 999))), val 8 (.bool (decide (x_ ≤ 999))), val 2 (.bool (decide (x_ ≤ 999)))] noG (by kernel_rfl)
        ⟨Stable.val _ _ _, Stable.val _ _ _, Stable.val _ _ _, Stable.val _ _ _, Stable.val _ _ _, Stable.val _ _ _, Stable.val _ _ _, trivial⟩
        ⟨fun ρz wz hE hA ⟨e0, _⟩ _ => core_val rfl rfl (o_move (e0.trans h0)),
     fun ρz wz hE hA _ ⟨u0, _⟩ => core_val rfl rfl (o_geq u0 rfl rfl),
     fun ρz wz hE hA _ ⟨u1, _⟩ => core_valE rfl rfl (congrArg Value.bool hd2) (o_move u1),
     fun ρz wz hE hA ⟨e0, _⟩ ⟨u2, _⟩ => gYes rfl u2 (core_val rfl rfl (o_move (e0.trans h0))),
     fun ρz wz hE hA _ ⟨u2, u3, _⟩ => gYes rfl u2 (core_val rfl rfl (o_leq u3 rfl rfl)),
     fun ρz wz hE hA _ ⟨u2, u4, _⟩ => core_val rfl rfl (o_pick_t u2 u4),
     fun ρz wz hE hA _ ⟨u5, _⟩ => core_val rfl rfl (o_assign u5), trivial⟩ ?_
      intro ρ3 w3 hE hN hf hr
      have hN := hN rfl
      have h2 : ρ3 2 = .bool (decide (x_ ≤ 999)) := hf 6 rfl
      have hW := hW.trans hN
      have hsz := Nat.le_trans hsz hN.size
      exact ⟨(h2.trans (congrArg Value.bool (by simp [hd2]))), hW, hsz⟩
    · refine WP.region mixed [[], [0], [1], [2], [2], [2], [5]] [[], [0], [1], [2], [2], [2], [5]] [[0], [], [], [], [], [], []] [] []
        [val 3 (.int .i64 x_), val 4 (.bool (decide (1 ≤ x_))), val 5 (.bool false), anyF 6, anyF 7, val 8 (.bool false), val 2 (.bool false)] noG (by kernel_rfl)
        ⟨Stable.val _ _ _, Stable.val _ _ _, Stable.val _ _ _, Stable.any _ _, Stable.any _ _, Stable.val _ _ _, Stable.val _ _ _, trivial⟩
        ⟨fun ρz wz hE hA ⟨e0, _⟩ _ => core_val rfl rfl (o_move (e0.trans h0)),
     fun ρz wz hE hA _ ⟨u0, _⟩ => core_val rfl rfl (o_geq u0 rfl rfl),
     fun ρz wz hE hA _ ⟨u1, _⟩ => core_valE rfl rfl (congrArg Value.bool hd2) (o_move u1),
     fun _ _ _ _ _ ⟨u2, _⟩ => gNo rfl u2 rfl trivial,
     fun _ _ _ _ _ ⟨u2, _⟩ => gNo rfl u2 rfl trivial,
     fun ρz wz hE hA _ ⟨u2, _⟩ => core_val rfl rfl (o_pick_f u2 rfl),
     fun ρz wz hE hA _ ⟨u5, _⟩ => core_val rfl rfl (o_assign u5), trivial⟩ ?_
      intro ρ4 w4 hE hN hf hr
      have hN := hN rfl
      have h2 : ρ4 2 = .bool false := hf 6 rfl
      have hW := hW.trans hN
      have hsz := Nat.le_trans hsz hN.size
      exact ⟨(h2.trans (congrArg Value.bool (by simp [hd2]))), hW, hsz⟩
  rintro ρ2 w2 ⟨h2, hW, hsz⟩
  refine WP.ret ?_
  show retQ Tryd.prog 9 Tryd.f43 (fun v w1 => v = .bool r ∧ Ext noG w0 w1) .ret ρ2 w2
  obtain rfl := Option.some.inj hF
  exact res1 rfl (by decide) h2 ⟨rfl, hW⟩

set_option maxHeartbeats 4000000 in
theorem money_small_ok {w0 : World} (x_ : Int) {r : Bool} (hF : money_small x_ = some r) :
    Calls Tryd.prog 46 #[.int .i64 x_] w0 fun e w1 => e = .returned (.bool r) ∧ Ext noG w0 w1 := by
  refine (Calls.start (P := Tryd.prog) (args := [.int .i64 x_]) (R := fun v w1 => v = .bool r ∧ Ext noG w0 w1) (n := 9) (w := w0) Tryd.func46 rfl rfl (Nat.le_of_ble_eq_true rfl) (fun ρ hargs => ?_)).mono (fun e w1 ⟨v, he, hv, hE⟩ => ⟨hv ▸ he, hE⟩)
  have h0 := hargs 0 _ rfl
  have hW := Ext.refl noG w0
  have hsz := Nat.le_refl w0.heap.size
  rw [money_small] at hF
  refine WP.seq ?_
  refine WP.region mixed [[]] [[]] [[]] [] []
    [val 2 (.bool false)] noG (by kernel_rfl)
    ⟨Stable.val _ _ _, trivial⟩
    ⟨fun ρz wz hE hA _ _ => core_val rfl rfl (o_assign rfl), trivial⟩ ?_
  intro ρ1 w1 hE hN hf hr
  have hN := hN rfl
  have h0 := (hr 0 rfl).trans h0
  have hW := hW.trans hN
  have hsz := Nat.le_trans hsz hN.size
  refine WP.seq ?_
  refine WP.via (fun ρ w => ρ 2 = .bool (decide (1 ≤ x_) && decide (x_ ≤ 1000000)) ∧ Ext noG w0 w ∧ w0.heap.size ≤ w.heap.size) ?_ ?_
  · rcases Bool.eq_false_or_eq_true (decide (1 ≤ x_)) with hd2 | hd2
    · refine WP.region mixed [[], [0], [1], [2], [2, 3], [2, 4], [5]] [[], [0], [1], [2], [2, 3], [2, 4], [5]] [[0], [], [], [0], [], [], []] [] []
        [val 3 (.int .i64 x_), val 4 (.bool (decide (1 ≤ x_))), val 5 (.bool true), val 6 (.int .i64 x_), val 7 (.bool (decide (x_ ≤ 1000000))), val 8 (.bool (decide (x_ ≤ 1000000))), val 2 (.bool (decide (x_ ≤ 1000000)))] noG (by kernel_rfl)
        ⟨Stable.val _ _ _, Stable.val _ _ _, Stable.val _ _ _, Stable.val _ _ _, Stable.val _ _ _, Stable.val _ _ _, Stable.val _ _ _, trivial⟩
        ⟨fun ρz wz hE hA ⟨e0, _⟩ _ => core_val rfl rfl (o_move (e0.trans h0)),
     fun ρz wz hE hA _ ⟨u0, _⟩ => core_val rfl rfl (o_geq u0 rfl rfl),
     fun ρz wz hE hA _ ⟨u1, _⟩ => core_valE rfl rfl (congrArg Value.bool hd2) (o_move u1),
     fun ρz wz hE hA ⟨e0, _⟩ ⟨u2, _⟩ => gYes rfl u2 (core_val rfl rfl (o_move (e0.trans h0))),
     fun ρz wz hE hA _ ⟨u2, u3, _⟩ => gYes rfl u2 (core_val rfl rfl (o_leq u3 rfl rfl)),
     fun ρz wz hE hA _ ⟨u2, u4, _⟩ => core_val rfl rfl (o_pick_t u2 u4),
     fun ρz wz hE hA _ ⟨u5, _⟩ => core_val rfl rfl (o_assign u5), trivial⟩ ?_
      intro ρ3 w3 hE hN hf hr
      have hN := hN rfl
      have h2 : ρ3 2 = .bool (decide (x_ ≤ 1000000)) := hf 6 rfl
      have hW := hW.trans hN
      have hsz := Nat.le_trans hsz hN.size
      exact ⟨(h2.trans (congrArg Value.bool (by simp [hd2]))), hW, hsz⟩
    · refine WP.region mixed [[], [0], [1], [2], [2], [2], [5]] [[], [0], [1], [2], [2], [2], [5]] [[0], [], [], [], [], [], []] [] []
        [val 3 (.int .i64 x_), val 4 (.bool (decide (1 ≤ x_))), val 5 (.bool false), anyF 6, anyF 7, val 8 (.bool false), val 2 (.bool false)] noG (by kernel_rfl)
        ⟨Stable.val _ _ _, Stable.val _ _ _, Stable.val _ _ _, Stable.any _ _, Stable.any _ _, Stable.val _ _ _, Stable.val _ _ _, trivial⟩
        ⟨fun ρz wz hE hA ⟨e0, _⟩ _ => core_val rfl rfl (o_move (e0.trans h0)),
     fun ρz wz hE hA _ ⟨u0, _⟩ => core_val rfl rfl (o_geq u0 rfl rfl),
     fun ρz wz hE hA _ ⟨u1, _⟩ => core_valE rfl rfl (congrArg Value.bool hd2) (o_move u1),
     fun _ _ _ _ _ ⟨u2, _⟩ => gNo rfl u2 rfl trivial,
     fun _ _ _ _ _ ⟨u2, _⟩ => gNo rfl u2 rfl trivial,
     fun ρz wz hE hA _ ⟨u2, _⟩ => core_val rfl rfl (o_pick_f u2 rfl),
     fun ρz wz hE hA _ ⟨u5, _⟩ => core_val rfl rfl (o_assign u5), trivial⟩ ?_
      intro ρ4 w4 hE hN hf hr
      have hN := hN rfl
      have h2 : ρ4 2 = .bool false := hf 6 rfl
      have hW := hW.trans hN
      have hsz := Nat.le_trans hsz hN.size
      exact ⟨(h2.trans (congrArg Value.bool (by simp [hd2]))), hW, hsz⟩
  rintro ρ2 w2 ⟨h2, hW, hsz⟩
  refine WP.ret ?_
  show retQ Tryd.prog 9 Tryd.f46 (fun v w1 => v = .bool r ∧ Ext noG w0 w1) .ret ρ2 w2
  obtain rfl := Option.some.inj hF
  exact res1 rfl (by decide) h2 ⟨rfl, hW⟩

set_option maxHeartbeats 4000000 in
theorem money_size_ok {w0 : World} (x_ : Int) {r : Int} (hF : money_size x_ = some r) :
    Calls Tryd.prog 59 #[.int .i64 x_] w0 fun e w1 => e = .returned (.int .u64 r) ∧ Ext noG w0 w1 := by
  refine (Calls.start (P := Tryd.prog) (args := [.int .i64 x_]) (R := fun v w1 => v = .int .u64 r ∧ Ext noG w0 w1) (n := 10) (w := w0) Tryd.func59 rfl rfl (Nat.le_of_ble_eq_true rfl) (fun ρ hargs => ?_)).mono (fun e w1 ⟨v, he, hv, hE⟩ => ⟨hv ▸ he, hE⟩)
  have h0 := hargs 0 _ rfl
  have hW := Ext.refl noG w0
  have hsz := Nat.le_refl w0.heap.size
  rw [money_size] at hF
  refine WP.seq ?_
  refine WP.region mixed [[]] [[]] [[]] [] []
    [val 2 (.int .u64 0)] noG (by kernel_rfl)
    ⟨Stable.val _ _ _, trivial⟩
    ⟨fun ρz wz hE hA _ _ => core_val rfl rfl (o_assign rfl), trivial⟩ ?_
  intro ρ1 w1 hE hN hf hr
  have hN := hN rfl
  have h0 := (hr 0 rfl).trans h0
  have hW := hW.trans hN
  have hsz := Nat.le_trans hsz hN.size
  refine WP.seq ?_
  refine WP.seq ?_
  refine WP.region mixed [[], [0]] [[], [0]] [[0], []] [] []
    [val 3 (.int .i64 x_), val 4 (.bool (decide (x_ < 0)))] noG (by kernel_rfl)
    ⟨Stable.val _ _ _, Stable.val _ _ _, trivial⟩
    ⟨fun ρz wz hE hA ⟨e0, _⟩ _ => core_val rfl rfl (o_move (e0.trans h0)),
     fun ρz wz hE hA _ ⟨u0, _⟩ => core_val rfl rfl (o_lss u0 rfl rfl), trivial⟩ ?_
  intro ρ2 w2 hE hN hf hr
  have hN := hN rfl
  have h0 := (hr 0 rfl).trans h0
  have h4 : ρ2 4 = .bool (decide (x_ < 0)) := hf 1 rfl
  have hW := hW.trans hN
  have hsz := Nat.le_trans hsz hN.size
  refine WP.cond rfl h4 (fun hb => ?_) (fun hb => ?_)
  · have hF := (if_pos hb).symm.trans hF
    refine WP.seq ?_
    refine WP.region mixed [[], [0], [1], [2]] [[], [0], [1], [2]] [[0], [], [], []] [] []
      [val 5 (.int .i64 x_), val 6 (.int .i64 (i64 (-x_))), val 7 (.int .u64 (u64 (i64 (-x_)))), val 2 (.int .u64 (u64 (i64 (-x_))))] noG (by kernel_rfl)
      ⟨Stable.val _ _ _, Stable.val _ _ _, Stable.val _ _ _, Stable.val _ _ _, trivial⟩
      ⟨fun ρz wz hE hA ⟨e0, _⟩ _ => core_val rfl rfl (o_move (e0.trans h0)),
     fun ρz wz hE hA _ ⟨u0, _⟩ => core_val rfl rfl (o_neg u0 rfl),
     fun ρz wz hE hA _ ⟨u1, _⟩ => core_val rfl rfl (o_conv u1 (cv_3_62 _ _)),
     fun ρz wz hE hA _ ⟨u2, _⟩ => core_val rfl rfl (o_assign u2), trivial⟩ ?_
    intro ρ3 w3 hE hN hf hr
    have hN := hN rfl
    have h2 : ρ3 2 = .int .u64 (u64 (i64 (-x_))) := hf 3 rfl
    have hW := hW.trans hN
    have hsz := Nat.le_trans hsz hN.size
    refine WP.ret ?_
    show retQ Tryd.prog 10 Tryd.f59 (fun v w1 => v = .int .u64 r ∧ Ext noG w0 w1) .ret ρ3 w3
    obtain rfl := Option.some.inj hF
    exact res1 rfl (by decide) h2 ⟨rfl, hW⟩
  · have hF := (if_neg (Bool.eq_false_iff.1 hb)).symm.trans hF
    refine WP.skip ?_
    refine WP.seq ?_
    refine WP.region mixed [[], [0], [1]] [[], [0], [1]] [[0], [], []] [] []
      [val 8 (.int .i64 x_), val 9 (.int .u64 (u64 x_)), val 2 (.int .u64 (u64 x_))] noG (by kernel_rfl)
      ⟨Stable.val _ _ _, Stable.val _ _ _, Stable.val _ _ _, trivial⟩
      ⟨fun ρz wz hE hA ⟨e0, _⟩ _ => core_val rfl rfl (o_move (e0.trans h0)),
     fun ρz wz hE hA _ ⟨u0, _⟩ => core_val rfl rfl (o_conv u0 (cv_3_62 _ _)),
     fun ρz wz hE hA _ ⟨u1, _⟩ => core_val rfl rfl (o_assign u1), trivial⟩ ?_
    intro ρ4 w4 hE hN hf hr
    have hN := hN rfl
    have h2 : ρ4 2 = .int .u64 (u64 x_) := hf 2 rfl
    have hW := hW.trans hN
    have hsz := Nat.le_trans hsz hN.size
    refine WP.ret ?_
    show retQ Tryd.prog 10 Tryd.f59 (fun v w1 => v = .int .u64 r ∧ Ext noG w0 w1) .ret ρ4 w4
    obtain rfl := Option.some.inj hF
    exact res1 rfl (by decide) h2 ⟨rfl, hW⟩

set_option maxHeartbeats 4000000 in
theorem rational_size_ok {w0 : World} (x_ : Int) {r : Int} (hF : rational_size x_ = some r) :
    Calls Tryd.prog 69 #[.int .i64 x_] w0 fun e w1 => e = .returned (.int .u64 r) ∧ Ext noG w0 w1 := by
  refine (Calls.start (P := Tryd.prog) (args := [.int .i64 x_]) (R := fun v w1 => v = .int .u64 r ∧ Ext noG w0 w1) (n := 10) (w := w0) Tryd.func69 rfl rfl (Nat.le_of_ble_eq_true rfl) (fun ρ hargs => ?_)).mono (fun e w1 ⟨v, he, hv, hE⟩ => ⟨hv ▸ he, hE⟩)
  have h0 := hargs 0 _ rfl
  have hW := Ext.refl noG w0
  have hsz := Nat.le_refl w0.heap.size
  rw [rational_size] at hF
  refine WP.seq ?_
  refine WP.region mixed [[]] [[]] [[]] [] []
    [val 2 (.int .u64 0)] noG (by kernel_rfl)
    ⟨Stable.val _ _ _, trivial⟩
    ⟨fun ρz wz hE hA _ _ => core_val rfl rfl (o_assign rfl), trivial⟩ ?_
  intro ρ1 w1 hE hN hf hr
  have hN := hN rfl
  have h0 := (hr 0 rfl).trans h0
  have hW := hW.trans hN
  have hsz := Nat.le_trans hsz hN.size
  refine WP.seq ?_
  refine WP.seq ?_
  refine WP.region mixed [[], [0]] [[], [0]] [[0], []] [] []
    [val 3 (.int .i64 x_), val 4 (.bool (decide (x_ < 0)))] noG (by kernel_rfl)
    ⟨Stable.val _ _ _, Stable.val _ _ _, trivial⟩
    ⟨fun ρz wz hE hA ⟨e0, _⟩ _ => core_val rfl rfl (o_move (e0.trans h0)),
     fun ρz wz hE hA _ ⟨u0, _⟩ => core_val rfl rfl (o_lss u0 rfl rfl), trivial⟩ ?_
  intro ρ2 w2 hE hN hf hr
  have hN := hN rfl
  have h0 := (hr 0 rfl).trans h0
  have h4 : ρ2 4 = .bool (decide (x_ < 0)) := hf 1 rfl
  have hW := hW.trans hN
  have hsz := Nat.le_trans hsz hN.size
  refine WP.cond rfl h4 (fun hb => ?_) (fun hb => ?_)
  · have hF := (if_pos hb).symm.trans hF
    refine WP.seq ?_
    refine WP.region mixed [[], [0], [1], [2]] [[], [0], [1], [2]] [[0], [], [], []] [] []
      [val 5 (.int .i64 x_), val 6 (.int .u64 (u64 x_)), val 7 (.int .u64 (u64 (-(u64 x_)))), val 2 (.int .u64 (u64 (-(u64 x_))))] noG (by kernel_rfl)
      ⟨Stable.val _ _ _, Stable.val _ _ _, Stable.val _ _ _, Stable.val _ _ _, trivial⟩
      ⟨fun ρz wz hE hA ⟨e0, _⟩ _ => core_val rfl rfl (o_move (e0.trans h0)),
     fun ρz wz hE hA _ ⟨u0, _⟩ => core_val rfl rfl (o_conv u0 (cv_3_62 _ _)),
     fun ρz wz hE hA _ ⟨u1, _⟩ => core_val rfl rfl (o_neg u1 rfl),
     fun ρz wz hE hA _ ⟨u2, _⟩ => core_val rfl rfl (o_assign u2), trivial⟩ ?_
    intro ρ3 w3 hE hN hf hr
    have hN := hN rfl
    have h2 : ρ3 2 = .int .u64 (u64 (-(u64 x_))) := hf 3 rfl
    have hW := hW.trans hN
    have hsz := Nat.le_trans hsz hN.size
    refine WP.ret ?_
    show retQ Tryd.prog 10 Tryd.f69 (fun v w1 => v = .int .u64 r ∧ Ext noG w0 w1) .ret ρ3 w3
    obtain rfl := Option.some.inj hF
    exact res1 rfl (by decide) h2 ⟨rfl, hW⟩
  · have hF := (if_neg (Bool.eq_false_iff.1 hb)).symm.trans hF
    refine WP.skip ?_
    refine WP.seq ?_
    refine WP.region mixed [[], [0], [1]] [[], [0], [1]] [[0], [], []] [] []
      [val 8 (.int .i64 x_), val 9 (.int .u64 (u64 x_)), val 2 (.int .u64 (u64 x_))] noG (by kernel_rfl)
      ⟨Stable.val _ _ _, Stable.val _ _ _, Stable.val _ _ _, trivial⟩
      ⟨fun ρz wz hE hA ⟨e0, _⟩ _ => core_val rfl rfl (o_move (e0.trans h0)),
     fun ρz wz hE hA _ ⟨u0, _⟩ => core_val rfl rfl (o_conv u0 (cv_3_62 _ _)),
     fun ρz wz hE hA _ ⟨u1, _⟩ => core_val rfl rfl (o_assign u1), trivial⟩ ?_
    intro ρ4 w4 hE hN hf hr
    have hN := hN rfl
    have h2 : ρ4 2 = .int .u64 (u64 x_) := hf 2 rfl
    have hW := hW.trans hN
    have hsz := Nat.le_trans hsz hN.size
    refine WP.ret ?_
    show retQ Tryd.prog 10 Tryd.f69 (fun v w1 => v = .int .u64 r ∧ Ext noG w0 w1) .ret ρ4 w4
    obtain rfl := Option.some.inj hF
    exact res1 rfl (by decide) h2 ⟨rfl, hW⟩

set_option maxHeartbeats 4000000 in
theorem rational_gcd_ok {w0 : World} (a_ : Int) (b_ : Int) {r : Int} (hF : rational_gcd a_ b_ = some r) :
    Calls Tryd.prog 68 #[.int .u64 a_, .int .u64 b_] w0 fun e w1 => e = .returned (.int .u64 r) ∧ Ext noG w0 w1 := by
  refine (Calls.start (P := Tryd.prog) (args := [.int .u64 a_, .int .u64 b_]) (R := fun v w1 => v = .int .u64 r ∧ Ext noG w0 w1) (n := 12) (w := w0) Tryd.func68 rfl rfl (Nat.le_of_ble_eq_true rfl) (fun ρ hargs => ?_)).mono (fun e w1 ⟨v, he, hv, hE⟩ => ⟨hv ▸ he, hE⟩)
  have h0 := hargs 0 _ rfl
  have h1 := hargs 1 _ rfl
  have hW := Ext.refl noG w0
  have hsz := Nat.le_refl w0.heap.size
  rw [rational_gcd] at hF
  refine WP.seq ?_
  refine WP.region mixed [[]] [[]] [[]] [] []
    [val 4 (.int .u64 0)] noG (by kernel_rfl)
    ⟨Stable.val _ _ _, trivial⟩
    ⟨fun ρz wz hE hA _ _ => core_val rfl rfl (o_assign rfl), trivial⟩ ?_
  intro ρ1 w1 hE hN hf hr
  have hN := hN rfl
  have h0 := (hr 0 rfl).trans h0
  have h1 := (hr 1 rfl).trans h1
  have hW := hW.trans hN
  have hsz := Nat.le_trans hsz hN.size
  refine WP.seq ?_
  refine WP.block ?_
  refine WP.loop (fun k_ ρ w => ∃ a_2 : Int, ∃ b_2 : Int, ρ 0 = .int .u64 a_2 ∧ ρ 1 = .int .u64 b_2 ∧ Ext noG w0 w ∧ w0.heap.size ≤ w.heap.size ∧ loopC k_ rational_gcd_l (a_2, b_2) = some r) FU ⟨a_, b_, h0, h1, hW, hsz, hF⟩ (fun _ _ h => by obtain ⟨_, _, _, _, _, _, h⟩ := h; cases h) ?_
  rintro k_ ρ2 w2 ⟨a_2, b_2, h0, h1, hW, hsz, hF⟩
  have hF : rational_gcd_l (loopC k_ rational_gcd_l) (a_2, b_2) = some r := hF
  generalize hrec_ : loopC k_ rational_gcd_l = rec_ at hF
  rw [rational_gcd_l] at hF
  refine WP.seq ?_
  refine WP.seq ?_
  refine WP.region mixed [[], [0]] [[], [0]] [[1], []] [] []
    [val 5 (.int .u64 b_2), val 6 (.bool (b_2 != 0))] noG (by kernel_rfl)
    ⟨Stable.val _ _ _, Stable.val _ _ _, trivial⟩
    ⟨fun ρz wz hE hA ⟨e1, _⟩ _ => core_val rfl rfl (o_move (e1.trans h1)),
     fun ρz wz hE hA _ ⟨u0, _⟩ => core_val rfl rfl (o_neq u0 rfl rfl), trivial⟩ ?_
  intro ρ3 w3 hE hN hf hr
  have hN := hN rfl
  have h0 := (hr 0 rfl).trans h0
  have h1 := (hr 1 rfl).trans h1
  have h6 : ρ3 6 = .bool (b_2 != 0) := hf 1 rfl
  have hW := hW.trans hN
  have hsz := Nat.le_trans hsz hN.size
  refine WP.cond rfl h6 (fun hb => ?_) (fun hb => ?_)
  · have hF := (if_pos hb).symm.trans hF
    refine WP.skip ?_
    refine WP.block ?_
    obtain ⟨q, hq, hF⟩ := obind hF
    refine WP.region mixed [[], [], [], [1, 2], [0, 1], [0, 2, 3]] [[], [], [], [1, 2], [0], [3]] [[1], [0], [1], [], [], []] [] []
      [val 7 (.int .u64 b_2), val 8 (.int .u64 a_2), val 9 (.int .u64 b_2), val 10 (.int .u64 q), val 0 (.int .u64 b_2), val 1 (.int .u64 q)] noG (by kernel_rfl)
      ⟨Stable.val _ _ _, Stable.val _ _ _, Stable.val _ _ _, Stable.val _ _ _, Stable.val _ _ _, Stable.val _ _ _, trivial⟩
      ⟨fun ρz wz hE hA ⟨e1, _⟩ _ => core_val rfl rfl (o_move (e1.trans h1)),
     fun ρz wz hE hA ⟨e0, _⟩ _ => core_val rfl rfl (o_move (e0.trans h0)),
     fun ρz wz hE hA ⟨e1, _⟩ _ => core_val rfl rfl (o_move (e1.trans h1)),
     fun ρz wz hE hA _ ⟨u1, u2, _⟩ => core_val rfl rfl (o_rem u1 u2 (remI_some hq).1 (remI_some hq).2),
     fun ρz wz hE hA _ ⟨u0, _⟩ => core_val rfl rfl (o_assign u0),
     fun ρz wz hE hA _ ⟨u3, _⟩ => core_val rfl rfl (o_assign u3), trivial⟩ ?_
    intro ρ4 w4 hE hN hf hr
    have hN := hN rfl
    have h0 : ρ4 0 = .int .u64 b_2 := hf 4 rfl
    have h1 : ρ4 1 = .int .u64 q := hf 5 rfl
    have hW := hW.trans hN
    have hsz := Nat.le_trans hsz hN.size
    exact ⟨b_2, q, h0, h1, hW, hsz, (by first | exact hF | (rw [hrec_]; exact hF))⟩
  · have hF := (if_neg (Bool.eq_false_iff.1 hb)).symm.trans hF
    refine WP.exit ?_
    refine thenQ_exit ?_
    refine thenQ_exit ?_
    refine blockQ_hit ?_
    refine WP.seq ?_
    refine WP.region mixed [[], [0]] [[], [0]] [[0], []] [] []
      [val 11 (.int .u64 a_2), val 4 (.int .u64 a_2)] noG (by kernel_rfl)
      ⟨Stable.val _ _ _, Stable.val _ _ _, trivial⟩
      ⟨fun ρz wz hE hA ⟨e0, _⟩ _ => core_val rfl rfl (o_move (e0.trans h0)),
     fun ρz wz hE hA _ ⟨u0, _⟩ => core_val rfl rfl (o_assign u0), trivial⟩ ?_
    intro ρ5 w5 hE hN hf hr
    have hN := hN rfl
    have h4 : ρ5 4 = .int .u64 a_2 := hf 1 rfl
    have hW := hW.trans hN
    have hsz := Nat.le_trans hsz hN.size
    refine WP.ret ?_
    show retQ Tryd.prog 12 Tryd.f68 (fun v w1 => v = .int .u64 r ∧ Ext noG w0 w1) .ret ρ5 w5
    obtain rfl := Option.some.inj hF
    exact res1 rfl (by decide) h4 ⟨rfl, hW⟩

set_option maxHeartbeats 4000000 in
theorem rational_Valid_ok {w0 : World} (f_ : Fraction) {r : Bool} (hF : rational_Valid f_ = some r) :
    Calls Tryd.prog 45 #[Fraction.val f_] w0 fun e w1 => e = .returned (.bool r) ∧ Ext noG w0 w1 := by
  refine (Calls.start (P := Tryd.prog) (args := [Fraction.val f_]) (R := fun v w1 => v = .bool r ∧ Ext noG w0 w1) (n := 31) (w := w0) Tryd.func45 rfl rfl (Nat.le_of_ble_eq_true rfl) (fun ρ hargs => ?_)).mono (fun e w1 ⟨v, he, hv, hE⟩ => ⟨hv ▸ he, hE⟩)
  have h0 := hargs 0 _ rfl
  have hW := Ext.refl noG w0
  have hsz := Nat.le_refl w0.heap.size
  rw [rational_Valid] at hF
  refine WP.seq ?_
  refine WP.region mixed [[], []] [[], []] [[0], []] [] []
    [(1, fun u wz => ∃ b, u = .pointer (some ⟨b, 0, none⟩) ∧ w0.heap.size ≤ b ∧ Mb wz b 54 (Fraction.cells f_)), val 2 (.bool false)] noG (by kernel_rfl)
    ⟨fun _ _ _ hE ⟨b, hb, hs, hM⟩ => ⟨b, hb, hs, hM.exn hE⟩, Stable.val _ _ _, trivial⟩
    ⟨fun ρz wz hE hA ⟨e0, _⟩ _ => core_new rfl rfl hE (o_box (e0.trans h0) (bx_54 _ _)),
     fun ρz wz hE hA _ _ => core_val rfl rfl (o_assign rfl), trivial⟩ ?_
  intro ρ1 w1 hE hN hf hr
  have hN := hN rfl
  obtain ⟨b1_, h1, hge_b1_, Hb_b1_⟩ := hf 0 rfl
  have hW := hW.trans hN
  have hB_b1_ : w0.heap.size ≤ b1_ := Nat.le_trans hsz hge_b1_
  have hsz := Nat.le_trans hsz hN.size
  refine WP.seq ?_
  obtain ⟨c, hc, hF⟩ := obind hF
  refine WP.via (fun ρ w => ρ 2 = .bool c ∧ Ext noG w0 w ∧ w0.heap.size ≤ w.heap.size) ?_ ?_
  · rcases Bool.eq_false_or_eq_true (decide (1 ≤ f_.Den)) with hd3 | hd3
    · rcases Bool.eq_false_or_eq_true (decide (f_.Den ≤ 1000000000)) with hd8 | hd8
      · rcases Bool.eq_false_or_eq_true (decide ((-1000000000000000) ≤ f_.Num)) with hd13 | hd13
        · rcases Bool.eq_false_or_eq_true (decide (f_.Num ≤ 1000000000000000)) with hd18 | hd18
          · have hc := (if_pos (by simp [hd3, hd8, hd13, hd18])).symm.trans hc
            obtain ⟨z, hz, hc⟩ := obind hc
            obtain ⟨z2, hz2, hc⟩ := obind hc
            obtain ⟨z3, hz3, hc⟩ := obind hc
            have hc := Option.some.inj hc
            refine WP.region mixed [[], [0], [1], [2], [3], [3, 4], [3, 5], [3, 6], [7], [8], [8, 9], [8, 10], [8, 11], [12], [13], [13, 14], [13, 15], [13, 16], [17], [18], [18, 19], [18, 20], [18], [18, 22], [18, 23], [18, 21, 24], [18, 25], [18, 26], [27]] [[], [0], [1], [2], [3], [3, 4], [3, 5], [3, 6], [7], [8], [8, 9], [8, 10], [8, 11], [12], [13], [13, 14], [13, 15], [13, 16], [17], [18], [18, 19], [18, 20], [18], [18, 22], [18, 23], [18, 21, 24], [18, 25], [18, 26], [27]] [[1], [], [], [], [1], [], [], [], [], [1], [], [], [], [], [1], [], [], [], [], [1], [], [], [1], [], [], [], [], [], []] [] []
              [val 3 (.pointer (some ((⟨b1_, 0, none⟩ : Addr).add 1))), val 4 (.int .i64 f_.Den), val 5 (.bool (decide (1 ≤ f_.Den))), val 6 (.bool true), val 7 (.pointer (some ((⟨b1_, 0, none⟩ : Addr).add 1))), val 8 (.int .i64 f_.Den), val 9 (.bool (decide (f_.Den ≤ 1000000000))), val 10 (.bool (decide (f_.Den ≤ 1000000000))), val 11 (.bool true), val 12 (.pointer (some ((⟨b1_, 0, none⟩ : Addr).add 0))), val 13 (.int .i64 f_.Num), val 14 (.bool (decide ((-1000000000000000) ≤ f_.Num))), val 15 (.bool (decide ((-1000000000000000) ≤ f_.Num))), val 16 (.bool true), val 17 (.pointer (some ((⟨b1_, 0, none⟩ : Addr).add 0))), val 18 (.int .i64 f_.Num), val 19 (.bool (decide (f_.Num ≤ 1000000000000000))), val 20 (.bool (decide (f_.Num ≤ 1000000000000000))), val 21 (.bool true), val 22 (.pointer (some ((⟨b1_, 0, none⟩ : Addr).add 0))), val 23 (.int .i64 f_.Num), val 24 (.int .u64 z), val 25 (.pointer (some ((⟨b1_, 0, none⟩ : Addr).add 1))), val 26 (.int .i64 f_.Den), val 27 (.int .u64 z2), val 28 (.int .u64 z3), val 29 (.bool (z3 == 1)), val 30 (.bool (z3 == 1)), val 2 (.bool (z3 == 1))] noG (by kernel_rfl)
              ⟨Stable.val _ _ _, Stable.val _ _ _, Stable.val _ _ _, Stable.val _ _ _, Stable.val _ _ _, Stable.val _ _ _, Stable.val _ _ _, Stable.val _ _ _, Stable.val _ _ _, Stable.val _ _ _, Stable.val _ _ _, Stable.val _ _ _, Stable.val _ _ _, Stable.val _ _ _, Stable.val _ _ _, Stable.val _ _ _, Stable.val _ _ _, Stable.val _ _ _, Stable.val _ _ _, Stable.val _ _ _, Stable.val _ _ _, Stable.val _ _ _, Stable.val _ _ _, Stable.val _ _ _, Stable.val _ _ _, Stable.val _ _ _, Stable.val _ _ _, Stable.val _ _ _, Stable.val _ _ _, trivial⟩
              ⟨fun ρz wz hE hA ⟨e1, _⟩ _ => core_val rfl rfl (o_fieldAddr (e1.trans h1) (fa_54_1 _ _)),
     fun ρz wz hE hA _ ⟨u0, _⟩ => core_val rfl rfl (o_load u0 (run_load1 (lr_3 _ _) (CA.sub ((Hb_b1_.exn (hA rfl)).ca) 1 1))),
     fun ρz wz hE hA _ ⟨u1, _⟩ => core_val rfl rfl (o_geq u1 rfl rfl),
     fun ρz wz hE hA _ ⟨u2, _⟩ => core_valE rfl rfl (congrArg Value.bool hd3) (o_move u2),
     fun ρz wz hE hA ⟨e1, _⟩ ⟨u3, _⟩ => gYes rfl u3 (core_val rfl rfl (o_fieldAddr (e1.trans h1) (fa_54_1 _ _))),
     fun ρz wz hE hA _ ⟨u3, u4, _⟩ => gYes rfl u3 (core_val rfl rfl (o_load u4 (run_load1 (lr_3 _ _) (CA.sub ((Hb_b1_.exn (hA rfl)).ca) 1 1)))),
     fun ρz wz hE hA _ ⟨u3, u5, _⟩ => gYes rfl u3 (core_val rfl rfl (o_leq u5 rfl rfl)),
     fun ρz wz hE hA _ ⟨u3, u6, _⟩ => core_val rfl rfl (o_pick_t u3 u6),
     fun ρz wz hE hA _ ⟨u7, _⟩ => core_valE rfl rfl (congrArg Value.bool hd8) (o_move u7),
     fun ρz wz hE hA ⟨e1, _⟩ ⟨u8, _⟩ => gYes rfl u8 (core_val rfl rfl (o_fieldAddr (e1.trans h1) (fa_54_0 _ _))),
     fun ρz wz hE hA _ ⟨u8, u9, _⟩ => gYes rfl u8 (core_val rfl rfl (o_load u9 (run_load1 (lr_3 _ _) (CA.sub ((Hb_b1_.exn (hA rfl)).ca) 0 1)))),
     fun ρz wz hE hA _ ⟨u8, u10, _⟩ => gYes rfl u8 (core_val rfl rfl (o_geq u10 rfl rfl)),
     fun ρz wz hE hA _ ⟨u8, u11, _⟩ => core_val rfl rfl (o_pick_t u8 u11),
     fun ρz wz hE hA _ ⟨u12, _⟩ => core_valE rfl rfl (congrArg Value.bool hd13) (o_move u12),
     fun ρz wz hE hA ⟨e1, _⟩ ⟨u13, _⟩ => gYes rfl u13 (core_val rfl rfl (o_fieldAddr (e1.trans h1) (fa_54_0 _ _))),
     fun ρz wz hE hA _ ⟨u13, u14, _⟩ => gYes rfl u13 (core_val rfl rfl (o_load u14 (run_load1 (lr_3 _ _) (CA.sub ((Hb_b1_.exn (hA rfl)).ca) 0 1)))),
     fun ρz wz hE hA _ ⟨u13, u15, _⟩ => gYes rfl u13 (core_val rfl rfl (o_leq u15 rfl rfl)),
     fun ρz wz hE hA _ ⟨u13, u16, _⟩ => core_val rfl rfl (o_pick_t u13 u16),
     fun ρz wz hE hA _ ⟨u17, _⟩ => core_valE rfl rfl (congrArg Value.bool hd18) (o_move u17),
     fun ρz wz hE hA ⟨e1, _⟩ ⟨u18, _⟩ => gYes rfl u18 (core_val rfl rfl (o_fieldAddr (e1.trans h1) (fa_54_0 _ _))),
     fun ρz wz hE hA _ ⟨u18, u19, _⟩ => gYes rfl u18 (core_val rfl rfl (o_load u19 (run_load1 (lr_3 _ _) (CA.sub ((Hb_b1_.exn (hA rfl)).ca) 0 1)))),
     fun ρz wz hE hA _ ⟨u18, u20, _⟩ => gYes rfl u18 (core_call rfl (call_args1 u20) cf_69 (rational_size_ok  _  hz)),
     fun ρz wz hE hA ⟨e1, _⟩ ⟨u18, _⟩ => gYes rfl u18 (core_val rfl rfl (o_fieldAddr (e1.trans h1) (fa_54_1 _ _))),
     fun ρz wz hE hA _ ⟨u18, u22, _⟩ => gYes rfl u18 (core_val rfl rfl (o_load u22 (run_load1 (lr_3 _ _) (CA.sub ((Hb_b1_.exn (hA rfl)).ca) 1 1)))),
     fun ρz wz hE hA _ ⟨u18, u23, _⟩ => gYes rfl u18 (core_call rfl (call_args1 u23) cf_69 (rational_size_ok  _  hz2)),
     fun ρz wz hE hA _ ⟨u18, u21, u24, _⟩ => gYes rfl u18 (core_call rfl (call_args2 u21 u24) cf_68 (rational_gcd_ok  _ _  hz3)),
     fun ρz wz hE hA _ ⟨u18, u25, _⟩ => gYes rfl u18 (core_val rfl rfl (o_eql u25 rfl rfl)),
     fun ρz wz hE hA _ ⟨u18, u26, _⟩ => core_val rfl rfl (o_pick_t u18 u26),
     fun ρz wz hE hA _ ⟨u27, _⟩ => core_val rfl rfl (o_assign u27), trivial⟩ ?_
            intro ρ3 w3 hE hN hf hr
            have hN := hN rfl
            have h2 : ρ3 2 = .bool (z3 == 1) := hf 28 rfl
            have hW := hW.trans hN
            have hsz := Nat.le_trans hsz hN.size
            exact ⟨(h2.trans (congrArg Value.bool (by simp [hd3, hd8, hd13, hd18, ← hc]))), hW, hsz⟩
          · have hc := (if_neg (Bool.eq_false_iff.1 (by simp [hd3, hd8, hd13, hd18]))).symm.trans hc
            have hc := Option.some.inj hc
            refine WP.region mixed [[], [0], [1], [2], [3], [3, 4], [3, 5], [3, 6], [7], [8], [8, 9], [8, 10], [8, 11], [12], [13], [13, 14], [13, 15], [13, 16], [17], [18], [18], [18], [18], [18], [18], [18], [18], [18], [27]] [[], [0], [1], [2], [3], [3, 4], [3, 5], [3, 6], [7], [8], [8, 9], [8, 10], [8, 11], [12], [13], [13, 14], [13, 15], [13, 16], [17], [18], [18], [18], [18], [18], [18], [18], [18], [18], [27]] [[1], [], [], [], [1], [], [], [], [], [1], [], [], [], [], [1], [], [], [], [], [], [], [], [], [], [], [], [], [], []] [] []
              [val 3 (.pointer (some ((⟨b1_, 0, none⟩ : Addr).add 1))), val 4 (.int .i64 f_.Den), val 5 (.bool (decide (1 ≤ f_.Den))), val 6 (.bool true), val 7 (.pointer (some ((⟨b1_, 0, none⟩ : Addr).add 1))), val 8 (.int .i64 f_.Den), val 9 (.bool (decide (f_.Den ≤ 1000000000))), val 10 (.bool (decide (f_.Den ≤ 1000000000))), val 11 (.bool true), val 12 (.pointer (some ((⟨b1_, 0, none⟩ : Addr).add 0))), val 13 (.int .i64 f_.Num), val 14 (.bool (decide ((-1000000000000000) ≤ f_.Num))), val 15 (.bool (decide ((-1000000000000000) ≤ f_.Num))), val 16 (.bool true), val 17 (.pointer (some ((⟨b1_, 0, none⟩ : Addr).add 0))), val 18 (.int .i64 f_.Num), val 19 (.bool (decide (f_.Num ≤ 1000000000000000))), val 20 (.bool (decide (f_.Num ≤ 1000000000000000))), val 21 (.bool false), anyF 22, anyF 23, anyF 24, anyF 25, anyF 26, anyF 27, anyF 28, anyF 29, val 30 (.bool false), val 2 (.bool false)] noG (by kernel_rfl)
              ⟨Stable.val _ _ _, Stable.val _ _ _, Stable.val _ _ _, Stable.val _ _ _, Stable.val _ _ _, Stable.val _ _ _, Stable.val _ _ _, Stable.val _ _ _, Stable.val _ _ _, Stable.val _ _ _, Stable.val _ _ _, Stable.val _ _ _, Stable.val _ _ _, Stable.val _ _ _, Stable.val _ _ _, Stable.val _ _ _, Stable.val _ _ _, Stable.val _ _ _, Stable.val _ _ _, Stable.any _ _, Stable.any _ _, Stable.any _ _, Stable.any _ _, Stable.any _ _, Stable.any _ _, Stable.any _ _, Stable.any _ _, Stable.val _ _ _, Stable.val _ _ _, trivial⟩
              ⟨fun ρz wz hE hA ⟨e1, _⟩ _ => core_val rfl rfl (o_fieldAddr (e1.trans h1) (fa_54_1 _ _)),
     fun ρz wz hE hA _ ⟨u0, _⟩ => core_val rfl rfl (o_load u0 (run_load1 (lr_3 _ _) (CA.sub ((Hb_b1_.exn (hA rfl)).ca) 1 1))),
     fun ρz wz hE hA _ ⟨u1, _⟩ => core_val rfl rfl (o_geq u1 rfl rfl),
     fun ρz wz hE hA _ ⟨u2, _⟩ => core_valE rfl rfl (congrArg Value.bool hd3) (o_move u2),
     fun ρz wz hE hA ⟨e1, _⟩ ⟨u3, _⟩ => gYes rfl u3 (core_val rfl rfl (o_fieldAddr (e1.trans h1) (fa_54_1 _ _))),
     fun ρz wz hE hA _ ⟨u3, u4, _⟩ => gYes rfl u3 (core_val rfl rfl (o_load u4 (run_load1 (lr_3 _ _) (CA.sub ((Hb_b1_.exn (hA rfl)).ca) 1 1)))),
     fun ρz wz hE hA _ ⟨u3, u5, _⟩ => gYes rfl u3 (core_val rfl rfl (o_leq u5 rfl rfl)),
     fun ρz wz hE hA _ ⟨u3, u6, _⟩ => core_val rfl rfl (o_pick_t u3 u6),
     fun ρz wz hE hA _ ⟨u7, _⟩ => core_valE rfl rfl (congrArg Value.bool hd8) (o_move u7),
     fun ρz wz hE hA ⟨e1, _⟩ ⟨u8, _⟩ => gYes rfl u8 (core_val rfl rfl (o_fieldAddr (e1.trans h1) (fa_54_0 _ _))),
     fun ρz wz hE hA _ ⟨u8, u9, _⟩ => gYes rfl u8 (core_val rfl rfl (o_load u9 (run_load1 (lr_3 _ _) (CA.sub ((Hb_b1_.exn (hA rfl)).ca) 0 1)))),
     fun ρz wz hE hA _ ⟨u8, u10, _⟩ => gYes rfl u8 (core_val rfl rfl (o_geq u10 rfl rfl)),
     fun ρz wz hE hA _ ⟨u8, u11, _⟩ => core_val rfl rfl (o_pick_t u8 u11),
     fun ρz wz hE hA _ ⟨u12, _⟩ => core_valE rfl rfl (congrArg Value.bool hd13) (o_move u12),
     fun ρz wz hE hA ⟨e1, _⟩ ⟨u13, _⟩ => gYes rfl u13 (core_val rfl rfl (o_fieldAddr (e1.trans h1) (fa_54_0 _ _))),
     fun ρz wz hE hA _ ⟨u13, u14, _⟩ => gYes rfl u13 (core_val rfl rfl (o_load u14 (run_load1 (lr_3 _ _) (CA.sub ((Hb_b1_.exn (hA rfl)).ca) 0 1)))),
     fun ρz wz hE hA _ ⟨u13, u15, _⟩ => gYes rfl u13 (core_val rfl rfl (o_leq u15 rfl rfl)),
     fun ρz wz hE hA _ ⟨u13, u16, _⟩ => core_val rfl rfl (o_pick_t u13 u16),
     fun ρz wz hE hA _ ⟨u17, _⟩ => core_valE rfl rfl (congrArg Value.bool hd18) (o_move u17),
     fun _ _ _ _ _ ⟨u18, _⟩ => gNo rfl u18 rfl trivial,
     fun _ _ _ _ _ ⟨u18, _⟩ => gNo rfl u18 rfl trivial,
     fun _ _ _ _ _ ⟨u18, _⟩ => gNo rfl u18 rfl trivial,
     fun _ _ _ _ _ ⟨u18, _⟩ => gNo rfl u18 rfl trivial,
     fun _ _ _ _ _ ⟨u18, _⟩ => gNo rfl u18 rfl trivial,
     fun _ _ _ _ _ ⟨u18, _⟩ => gNo rfl u18 rfl trivial,
     fun _ _ _ _ _ ⟨u18, _⟩ => gNo rfl u18 rfl trivial,
     fun _ _ _ _ _ ⟨u18, _⟩ => gNo rfl u18 rfl trivial,
     fun ρz wz hE hA _ ⟨u18, _⟩ => core_val rfl rfl (o_pick_f u18 rfl),
     fun ρz wz hE hA _ ⟨u27, _⟩ => core_val rfl rfl (o_assign u27), trivial⟩ ?_
            intro ρ4 w4 hE hN hf hr
            have hN := hN rfl
            have h2 : ρ4 2 = .bool false := hf 28 rfl
            have hW := hW.trans hN
            have hsz := Nat.le_trans hsz hN.size
            exact ⟨(h2.trans (congrArg Value.bool (by simp [hd3, hd8, hd13, hd18, ← hc]))), hW, hsz⟩
        · have hc := (if_neg (Bool.eq_false_iff.1 (by simp [hd3, hd8, hd13]))).symm.trans hc
          have hc := Option.some.inj hc
          refine WP.region mixed [[], [0], [1], [2], [3], [3, 4], [3, 5], [3, 6], [7], [8], [8, 9], [8, 10], [8, 11], [12], [13], [13], [13], [13], [17], [18], [18], [18], [18], [18], [18], [18], [18], [18], [27]] [[], [0], [1], [2], [3], [3, 4], [3, 5], [3, 6], [7], [8], [8, 9], [8, 10], [8, 11], [12], [13], [13], [13], [13], [17], [18], [18], [18], [18], [18], [18], [18], [18], [18], [27]] [[1], [], [], [], [1], [], [], [], [], [1], [], [], [], [], [], [], [], [], [], [], [], [], [], [], [], [], [], [], []] [] []
            [val 3 (.pointer (some ((⟨b1_, 0, none⟩ : Addr).add 1))), val 4 (.int .i64 f_.Den), val 5 (.bool (decide (1 ≤ f_.Den))), val 6 (.bool true), val 7 (.pointer (some ((⟨b1_, 0, none⟩ : Addr).add 1))), val 8 (.int .i64 f_.Den), val 9 (.bool (decide (f_.Den ≤ 1000000000))), val 10 (.bool (decide (f_.Den ≤ 1000000000))), val 11 (.bool true), val 12 (.pointer (some ((⟨b1_, 0, none⟩ : Addr).add 0))), val 13 (.int .i64 f_.Num), val 14 (.bool (decide ((-1000000000000000) ≤ f_.Num))), val 15 (.bool (decide ((-1000000000000000) ≤ f_.Num))), val 16 (.bool false), anyF 17, anyF 18, anyF 19, val 20 (.bool false), val 21 (.bool false), anyF 22, anyF 23, anyF 24, anyF 25, anyF 26, anyF 27, anyF 28, anyF 29, val 30 (.bool false), val 2 (.bool false)] noG (by kernel_rfl)
            ⟨Stable.val _ _ _, Stable.val _ _ _, Stable.val _ _ _, Stable.val _ _ _, Stable.val _ _ _, Stable.val _ _ _, Stable.val _ _ _, Stable.val _ _ _, Stable.val _ _ _, Stable.val _ _ _, Stable.val _ _ _, Stable.val _ _ _, Stable.val _ _ _, Stable.val _ _ _, Stable.any _ _, Stable.any _ _, Stable.any _ _, Stable.val _ _ _, Stable.val _ _ _, Stable.any _ _, Stable.any _ _, Stable.any _ _, Stable.any _ _, Stable.any _ _, Stable.any _ _, Stable.any _ _, Stable.any _ _, Stable.val _ _ _, Stable.val _ _ _, trivial⟩
            ⟨fun ρz wz hE hA ⟨e1, _⟩ _ => core_val rfl rfl (o_fieldAddr (e1.trans h1) (fa_54_1 _ _)),
     fun ρz wz hE hA _ ⟨u0, _⟩ => core_val rfl rfl (o_load u0 (run_load1 (lr_3 _ _) (CA.sub ((Hb_b1_.exn (hA rfl)).ca) 1 1))),
     fun ρz wz hE hA _ ⟨u1, _⟩ => core_val rfl rfl (o_geq u1 rfl rfl),
     fun ρz wz hE hA _ ⟨u2, _⟩ => core_valE rfl rfl (congrArg Value.bool hd3) (o_move u2),
     fun ρz wz hE hA ⟨e1, _⟩ ⟨u3, _⟩ => gYes rfl u3 (core_val rfl rfl (o_fieldAddr (e1.trans h1) (fa_54_1 _ _))),
     fun ρz wz hE hA _ ⟨u3, u4, _⟩ => gYes rfl u3 (core_val rfl rfl (o_load u4 (run_load1 (lr_3 _ _) (CA.sub ((Hb_b1_.exn (hA rfl)).ca) 1 1)))),
     fun ρz wz hE hA _ ⟨u3, u5, _⟩ => gYes rfl u3 (core_val rfl rfl (o_leq u5 rfl rfl)),
     fun ρz wz hE hA _ ⟨u3, u6, _⟩ => core_val rfl rfl (o_pick_t u3 u6),
     fun ρz wz hE hA _ ⟨u7, _⟩ => core_valE rfl rfl (congrArg Value.bool hd8) (o_move u7),
     fun ρz wz hE hA ⟨e1, _⟩ ⟨u8, _⟩ => gYes rfl u8 (core_val rfl rfl (o_fieldAddr (e1.trans h1) (fa_54_0 _ _))),
     fun ρz wz hE hA _ ⟨u8, u9, _⟩ => gYes rfl u8 (core_val rfl rfl (o_load u9 (run_load1 (lr_3 _ _) (CA.sub ((Hb_b1_.exn (hA rfl)).ca) 0 1)))),
     fun ρz wz hE hA _ ⟨u8, u10, _⟩ => gYes rfl u8 (core_val rfl rfl (o_geq u10 rfl rfl)),
     fun ρz wz hE hA _ ⟨u8, u11, _⟩ => core_val rfl rfl (o_pick_t u8 u11),
     fun ρz wz hE hA _ ⟨u12, _⟩ => core_valE rfl rfl (congrArg Value.bool hd13) (o_move u12),
     fun _ _ _ _ _ ⟨u13, _⟩ => gNo rfl u13 rfl trivial,
     fun _ _ _ _ _ ⟨u13, _⟩ => gNo rfl u13 rfl trivial,
     fun _ _ _ _ _ ⟨u13, _⟩ => gNo rfl u13 rfl trivial,
     fun ρz wz hE hA _ ⟨u13, _⟩ => core_val rfl rfl (o_pick_f u13 rfl),
     fun ρz wz hE hA _ ⟨u17, _⟩ => core_val rfl rfl (o_move u17),
     fun _ _ _ _ _ ⟨u18, _⟩ => gNo rfl u18 rfl trivial,
     fun _ _ _ _ _ ⟨u18, _⟩ => gNo rfl u18 rfl trivial,
     fun _ _ _ _ _ ⟨u18, _⟩ => gNo rfl u18 rfl trivial,
     fun _ _ _ _ _ ⟨u18, _⟩ => gNo rfl u18 rfl trivial,
     fun _ _ _ _ _ ⟨u18, _⟩ => gNo rfl u18 rfl trivial,
     fun _ _ _ _ _ ⟨u18, _⟩ => gNo rfl u18 rfl trivial,
     fun _ _ _ _ _ ⟨u18, _⟩ => gNo rfl u18 rfl trivial,
     fun _ _ _ _ _ ⟨u18, _⟩ => gNo rfl u18 rfl trivial,
     fun ρz wz hE hA _ ⟨u18, _⟩ => core_val rfl rfl (o_pick_f u18 rfl),
     fun ρz wz hE hA _ ⟨u27, _⟩ => core_val rfl rfl (o_assign u27), trivial⟩ ?_
          intro ρ5 w5 hE hN hf hr
          have hN := hN rfl
          have h2 : ρ5 2 = .bool false := hf 28 rfl
          have hW := hW.trans hN
          have hsz := Nat.le_trans hsz hN.size
          exact ⟨(h2.trans (congrArg Value.bool (by simp [hd3, hd8, hd13, ← hc]))), hW, hsz⟩
      · have hc := (if_neg (Bool.eq_false_iff.1 (by simp [hd3, hd8]))).symm.trans hc
        have hc := Option.some.inj hc
        refine WP.region mixed [[], [0], [1], [2], [3], [3, 4], [3, 5], [3, 6], [7], [8], [8], [8], [8], [12], [13], [13], [13], [13], [17], [18], [18], [18], [18], [18], [18], [18], [18], [18], [27]] [[], [0], [1], [2], [3], [3, 4], [3, 5], [3, 6], [7], [8], [8], [8], [8], [12], [13], [13], [13], [13], [17], [18], [18], [18], [18], [18], [18], [18], [18], [18], [27]] [[1], [], [], [], [1], [], [], [], [], [], [], [], [], [], [], [], [], [], [], [], [], [], [], [], [], [], [], [], []] [] []
          [val 3 (.pointer (some ((⟨b1_, 0, none⟩ : Addr).add 1))), val 4 (.int .i64 f_.Den), val 5 (.bool (decide (1 ≤ f_.Den))), val 6 (.bool true), val 7 (.pointer (some ((⟨b1_, 0, none⟩ : Addr).add 1))), val 8 (.int .i64 f_.Den), val 9 (.bool (decide (f_.Den ≤ 1000000000))), val 10 (.bool (decide (f_.Den ≤ 1000000000))), val 11 (.bool false), anyF 12, anyF 13, anyF 14, val 15 (.bool false), val 16 (.bool false), anyF 17, anyF 18, anyF 19, val 20 (.bool false), val 21 (.bool false), anyF 22, anyF 23, anyF 24, anyF 25, anyF 26, anyF 27, anyF 28, anyF 29, val 30 (.bool false), val 2 (.bool false)] noG (by kernel_rfl)
          ⟨Stable.val _ _ _, Stable.val _ _ _, Stable.val _ _ _, Stable.val _ _ _, Stable.val _ _ _, Stable.val _ _ _, Stable.val _ _ _, Stable.val _ _ _, Stable.val _ _ _, Stable.any _ _, Stable.any _ _, Stable.any _ _, Stable.val _ _ _, Stable.val _ _ _, Stable.any _ _, Stable.any _ _, Stable.any _ _, Stable.val _ _ _, Stable.val _ _ _, Stable.any _ _, Stable.any _ _, Stable.any _ _, Stable.any _ _, Stable.any _ _, Stable.any _ _, Stable.any _ _, Stable.any _ _, Stable.val _ _ _, Stable.val _ _ _, trivial⟩
          ⟨fun ρz wz hE hA ⟨e1, _⟩ _ => core_val rfl rfl (o_fieldAddr (e1.trans h1) (fa_54_1 _ _)),
     fun ρz wz hE hA _ ⟨u0, _⟩ => core_val rfl rfl (o_load u0 (run_load1 (lr_3 _ _) (CA.sub ((Hb_b1_.exn (hA rfl)).ca) 1 1))),
     fun ρz wz hE hA _ ⟨u1, _⟩ => core_val rfl rfl (o_geq u1 rfl rfl),
     fun ρz wz hE hA _ ⟨u2, _⟩ => core_valE rfl rfl (congrArg Value.bool hd3) (o_move u2),
     fun ρz wz hE hA ⟨e1, _⟩ ⟨u3, _⟩ => gYes rfl u3 (core_val rfl rfl (o_fieldAddr (e1.trans h1) (fa_54_1 _ _))),
     fun ρz wz hE hA _ ⟨u3, u4, _⟩ => gYes rfl u3 (core_val rfl rfl (o_load u4 (run_load1 (lr_3 _ _) (CA.sub ((Hb_b1_.exn (hA rfl)).ca) 1 1)))),
     fun ρz wz hE hA _ ⟨u3, u5, _⟩ => gYes rfl u3 (core_val rfl rfl (o_leq u5 rfl rfl)),
     fun ρz wz hE hA _ ⟨u3, u6, _⟩ => core_val rfl rfl (o_pick_t u3 u6),
     fun ρz wz hE hA _ ⟨u7, _⟩ => core_valE rfl rfl (congrArg Value.bool hd8) (o_move u7),
     fun _ _ _ _ _ ⟨u8, _⟩ => gNo rfl u8 rfl trivial,
     fun _ _ _ _ _ ⟨u8, _⟩ => gNo rfl u8 rfl trivial,
     fun _ _ _ _ _ ⟨u8, _⟩ => gNo rfl u8 rfl trivial,
     fun ρz wz hE hA _ ⟨u8, _⟩ => core_val rfl rfl (o_pick_f u8 rfl),
     fun ρz wz hE hA _ ⟨u12, _⟩ => core_val rfl rfl (o_move u12),
     fun _ _ _ _ _ ⟨u13, _⟩ => gNo rfl u13 rfl trivial,
     fun _ _ _ _ _ ⟨u13, _⟩ => gNo rfl u13 rfl trivial,
     fun _ _ _ _ _ ⟨u13, _⟩ => gNo rfl u13 rfl trivial,
     fun ρz wz hE hA _ ⟨u13, _⟩ => core_val rfl rfl (o_pick_f u13 rfl),
     fun ρz wz hE hA _ ⟨u17, _⟩ => core_val rfl rfl (o_move u17),
     fun _ _ _ _ _ ⟨u18, _⟩ => gNo rfl u18 rfl trivial,
     fun _ _ _ _ _ ⟨u18, _⟩ => gNo rfl u18 rfl trivial,
     fun _ _ _ _ _ ⟨u18, _⟩ => gNo rfl u18 rfl trivial,
     fun _ _ _ _ _ ⟨u18, _⟩ => gNo rfl u18 rfl trivial,
     fun _ _ _ _ _ ⟨u18, _⟩ => gNo rfl u18 rfl trivial,
     fun _ _ _ _ _ ⟨u18, _⟩ => gNo rfl u18 rfl trivial,
     fun _ _ _ _ _ ⟨u18, _⟩ => gNo rfl u18 rfl trivial,
     fun _ _ _ _ _ ⟨u18, _⟩ => gNo rfl u18 rfl trivial,
     fun ρz wz hE hA _ ⟨u18, _⟩ => core_val rfl rfl (o_pick_f u18 rfl),
     fun ρz wz hE hA _ ⟨u27, _⟩ => core_val rfl rfl (o_assign u27), trivial⟩ ?_
        intro ρ6 w6 hE hN hf hr
        have hN := hN rfl
        have h2 : ρ6 2 = .bool false := hf 28 rfl
        have hW := hW.trans hN
        have hsz := Nat.le_trans hsz hN.size
        exact ⟨(h2.trans (congrArg Value.bool (by simp [hd3, hd8, ← hc]))), hW, hsz⟩
    · have hc := (if_neg (Bool.eq_false_iff.1 (by simp [hd3]))).symm.trans hc
      have hc := Option.some.inj hc
      refine WP.region mixed [[], [0], [1], [2], [3], [3], [3], [3], [7], [8], [8], [8], [8], [12], [13], [13], [13], [13], [17], [18], [18], [18], [18], [18], [18], [18], [18], [18], [27]] [[], [0], [1], [2], [3], [3], [3], [3], [7], [8], [8], [8], [8], [12], [13], [13], [13], [13], [17], [18], [18], [18], [18], [18], [18], [18], [18], [18], [27]] [[1], [], [], [], [], [], [], [], [], [], [], [], [], [], [], [], [], [], [], [], [], [], [], [], [], [], [], [], []] [] []
        [val 3 (.pointer (some ((⟨b1_, 0, none⟩ : Addr).add 1))), val 4 (.int .i64 f_.Den), val 5 (.bool (decide (1 ≤ f_.Den))), val 6 (.bool false), anyF 7, anyF 8, anyF 9, val 10 (.bool false), val 11 (.bool false), anyF 12, anyF 13, anyF 14, val 15 (.bool false), val 16 (.bool false), anyF 17, anyF 18, anyF 19, val 20 (.bool false), val 21 (.bool false), anyF 22, anyF 23, anyF 24, anyF 25, anyF 26, anyF 27, anyF 28, anyF 29, val 30 (.bool false), val 2 (.bool false)] noG (by kernel_rfl)
        ⟨Stable.val _ _ _, Stable.val _ _ _, Stable.val _ _ _, Stable.val _ _ _, Stable.any _ _, Stable.any _ _, Stable.any _ _, Stable.val _ _ _, Stable.val _ _ _, Stable.any _ _, Stable.any _ _, Stable.any _ _, Stable.val _ _ _, Stable.val _ _ _, Stable.any _ _, Stable.any _ _, Stable.any _ _, Stable.val _ _ _, Stable.val _ _ _, Stable.any _ _, Stable.any _ _, Stable.any _ _, Stable.any _ _, Stable.any _ _, Stable.any _ _, Stable.any _ _, Stable.any _ _, Stable.val _ _ _, Stable.val _ _ _, trivial⟩
        ⟨fun ρz wz hE hA ⟨e1, _⟩ _ => core_val rfl rfl (o_fieldAddr (e1.trans h1) (fa_54_1 _ _)),
     fun ρz wz hE hA _ ⟨u0, _⟩ => core_val rfl rfl (o_load u0 (run_load1 (lr_3 _ _) (CA.sub ((Hb_b1_.exn (hA rfl)).ca) 1 1))),
     fun ρz wz hE hA _ ⟨u1, _⟩ => core_val rfl rfl (o_geq u1 rfl rfl),
     fun ρz wz hE hA _ ⟨u2, _⟩ => core_valE rfl rfl (congrArg Value.bool hd3) (o_move u2),
     fun _ _ _ _ _ ⟨u3, _⟩ => gNo rfl u3 rfl trivial,
     fun _ _ _ _ _ ⟨u3, _⟩ => gNo rfl u3 rfl trivial,
     fun _ _ _ _ _ ⟨u3, _⟩ => gNo rfl u3 rfl trivial,
     fun ρz wz hE hA _ ⟨u3, _⟩ => core_val rfl rfl (o_pick_f u3 rfl),
     fun ρz wz hE hA _ ⟨u7, _⟩ => core_val rfl rfl (o_move u7),
     fun _ _ _ _ _ ⟨u8, _⟩ => gNo rfl u8 rfl trivial,
     fun _ _ _ _ _ ⟨u8, _⟩ => gNo rfl u8 rfl trivial,
     fun _ _ _ _ _ ⟨u8, _⟩ => gNo rfl u8 rfl trivial,
     fun ρz wz hE hA _ ⟨u8, _⟩ => core_val rfl rfl (o_pick_f u8 rfl),
     fun ρz wz hE hA _ ⟨u12, _⟩ => core_val rfl rfl (o_move u12),
     fun _ _ _ _ _ ⟨u13, _⟩ => gNo rfl u13 rfl trivial,
     fun _ _ _ _ _ ⟨u13, _⟩ => gNo rfl u13 rfl trivial,
     fun _ _ _ _ _ ⟨u13, _⟩ => gNo rfl u13 rfl trivial,
     fun ρz wz hE hA _ ⟨u13, _⟩ => core_val rfl rfl (o_pick_f u13 rfl),
     fun ρz wz hE hA _ ⟨u17, _⟩ => core_val rfl rfl (o_move u17),
     fun _ _ _ _ _ ⟨u18, _⟩ => gNo rfl u18 rfl trivial,
     fun _ _ _ _ _ ⟨u18, _⟩ => gNo rfl u18 rfl trivial,
     fun _ _ _ _ _ ⟨u18, _⟩ => gNo rfl u18 rfl trivial,
     fun _ _ _ _ _ ⟨u18, _⟩ => gNo rfl u18 rfl trivial,
     fun _ _ _ _ _ ⟨u18, _⟩ => gNo rfl u18 rfl trivial,
     fun _ _ _ _ _ ⟨u18, _⟩ => gNo rfl u18 rfl trivial,
     fun _ _ _ _ _ ⟨u18, _⟩ => gNo rfl u18 rfl trivial,
     fun _ _ _ _ _ ⟨u18, _⟩ => gNo rfl u18 rfl trivial,
     fun ρz wz hE hA _ ⟨u18, _⟩ => core_val rfl rfl (o_pick_f u18 rfl),
     fun ρz wz hE hA _ ⟨u27, _⟩ => core_val rfl rfl (o_assign u27), trivial⟩ ?_
      intro ρ7 w7 hE hN hf hr
      have hN := hN rfl
      have h2 : ρ7 2 = .bool false := hf 28 rfl
      have hW := hW.trans hN
      have hsz := Nat.le_trans hsz hN.size
      exact ⟨(h2.trans (congrArg Value.bool (by simp [hd3, ← hc]))), hW, hsz⟩
  rintro ρ2 w2 ⟨h2, hW, hsz⟩
  refine WP.ret ?_
  show retQ Tryd.prog 31 Tryd.f45 (fun v w1 => v = .bool r ∧ Ext noG w0 w1) .ret ρ2 w2
  obtain rfl := Option.some.inj hF
  exact res1 rfl (by decide) h2 ⟨rfl, hW⟩

set_option maxHeartbeats 4000000 in
theorem money_month_ok {w0 : World} (x_ : Int) {r : Bool} (hF : money_month x_ = some r) :
    Calls Tryd.prog 44 #[.int .i64 x_] w0 fun e w1 => e = .returned (.bool r) ∧ Ext noG w0 w1 := by
  refine (Calls.start (P := Tryd.prog) (args := [.int .i64 x_]) (R := fun v w1 => v = .bool r ∧ Ext noG w0 w1) (n := 6) (w := w0) Tryd.func44 rfl rfl (Nat.le_of_ble_eq_true rfl) (fun ρ hargs => ?_)).mono (fun e w1 ⟨v, he, hv, hE⟩ => ⟨hv ▸ he, hE⟩)
  have h0 := hargs 0 _ rfl
  have hW := Ext.refl noG w0
  have hsz := Nat.le_refl w0.heap.size
  rw [money_month] at hF
  refine WP.seq ?_
  refine WP.region mixed [[]] [[]] [[]] [] []
    [val 2 (.bool false)] noG (by kernel_rfl)
    ⟨Stable.val _ _ _, trivial⟩
    ⟨fun ρz wz hE hA _ _ => core_val rfl rfl (o_assign rfl), trivial⟩ ?_
  intro ρ1 w1 hE hN hf hr
  have hN := hN rfl
  have h0 := (hr 0 rfl).trans h0
  have hW := hW.trans hN
  have hsz := Nat.le_trans hsz hN.size
  refine WP.seq ?_
  obtain ⟨z, hz, hF⟩ := obind hF
  refine WP.region mixed [[], [0], [1], [2]] [[], [0], [1], [2]] [[0], [], [], []] [] []
    [val 3 (.int .i64 x_), val 4 (.int .i64 z), val 5 (.bool (decide (0 < z))), val 2 (.bool (decide (0 < z)))] noG (by kernel_rfl)
    ⟨Stable.val _ _ _, Stable.val _ _ _, Stable.val _ _ _, Stable.val _ _ _, trivial⟩
    ⟨fun ρz wz hE hA ⟨e0, _⟩ _ => core_val rfl rfl (o_move (e0.trans h0)),
     fun ρz wz hE hA _ ⟨u0, _⟩ => core_call rfl (call_args1 u0) cf_67 (calendar_MonthDays_ok  _  hz),
     fun ρz wz hE hA _ ⟨u1, _⟩ => core_val rfl rfl (o_gtr u1 rfl rfl),
     fun ρz wz hE hA _ ⟨u2, _⟩ => core_val rfl rfl (o_assign u2), trivial⟩ ?_
  intro ρ2 w2 hE hN hf hr
  have hN := hN rfl
  have h2 : ρ2 2 = .bool (decide (0 < z)) := hf 3 rfl
  have hW := hW.trans hN
  have hsz := Nat.le_trans hsz hN.size
  refine WP.ret ?_
  show retQ Tryd.prog 6 Tryd.f44 (fun v w1 => v = .bool r ∧ Ext noG w0 w1) .ret ρ2 w2
  obtain rfl := Option.some.inj hF
  exact res1 rfl (by decide) h2 ⟨rfl, hW⟩

set_option maxHeartbeats 4000000 in
theorem money_CheckRates_ok {w0 : World} (d_ : List Rate) {v_d_ : Value} (H_d_ : RepSl Rate.R noG w0 v_d_ d_) {r : Int} (hF : money_CheckRates d_ = some r) :
    Calls Tryd.prog 27 #[v_d_] w0 fun e w1 => e = .returned (.int .i64 r) ∧ Ext noG w0 w1 := by
  refine (Calls.start (P := Tryd.prog) (args := [v_d_]) (R := fun v w1 => v = .int .i64 r ∧ Ext noG w0 w1) (n := 81) (w := w0) Tryd.func27 rfl rfl (Nat.le_of_ble_eq_true rfl) (fun ρ hargs => ?_)).mono (fun e w1 ⟨v, he, hv, hE⟩ => ⟨hv ▸ he, hE⟩)
  have h0 := hargs 0 _ rfl
  have hW := Ext.refl noG w0
  have hsz := Nat.le_refl w0.heap.size
  obtain ⟨_, _, hs_H_d_, _, _⟩ := RepSl.shape H_d_
  have H_d_ := H_d_.start
  rw [money_CheckRates] at hF
  refine WP.seq ?_
  refine WP.region mixed [[]] [[]] [[]] [] []
    [val 2 (.int .i64 0)] noG (by kernel_rfl)
    ⟨Stable.val _ _ _, trivial⟩
    ⟨fun ρz wz hE hA _ _ => core_val rfl rfl (o_assign rfl), trivial⟩ ?_
  intro ρ1 w1 hE hN hf hr
  have hN := hN rfl
  have h0 := (hr 0 rfl).trans h0
  have H_d__at0 := H_d_
  have H_d_ := H_d_.exn hN
  have hW := hW.trans hN
  have hsz := Nat.le_trans hsz hN.size
  refine WP.seq ?_
  refine WP.seq ?_
  refine WP.region mixed [[], [0], [1]] [[], [0], [1]] [[0], [], []] [] []
    [val 5 (v_d_), val 6 (.int .i64 (d_.length : Int)), val 7 (.bool (decide (40 < (d_.length : Int))))] noG (by kernel_rfl)
    ⟨Stable.val _ _ _, Stable.val _ _ _, Stable.val _ _ _, trivial⟩
    ⟨fun ρz wz hE hA ⟨e0, _⟩ _ => core_val rfl rfl (o_move (e0.trans h0)),
     fun ρz wz hE hA _ ⟨u0, _⟩ => core_val rfl rfl (o_len (u0.trans hs_H_d_) len_26),
     fun ρz wz hE hA _ ⟨u1, _⟩ => core_val rfl rfl (o_gtr u1 rfl rfl), trivial⟩ ?_
  intro ρ2 w2 hE hN hf hr
  have hN := hN rfl
  have h0 := (hr 0 rfl).trans h0
  have h7 : ρ2 7 = .bool (decide (40 < (d_.length : Int))) := hf 2 rfl
  have H_d__at0 := H_d_
  have H_d_ := H_d_.exn hN
  have hW := hW.trans hN
  have hsz := Nat.le_trans hsz hN.size
  refine WP.cond rfl h7 (fun hb => ?_) (fun hb => ?_)
  · have hF := (if_pos hb).symm.trans hF
    refine WP.seq ?_
    refine WP.region mixed [[]] [[]] [[]] [] []
      [val 2 (.int .i64 7)] noG (by kernel_rfl)
      ⟨Stable.val _ _ _, trivial⟩
      ⟨fun ρz wz hE hA _ _ => core_val rfl rfl (o_assign rfl), trivial⟩ ?_
    intro ρ3 w3 hE hN hf hr
    have hN := hN rfl
    have h2 : ρ3 2 = .int .i64 7 := hf 0 rfl
    have hW := hW.trans hN
    have hsz := Nat.le_trans hsz hN.size
    refine WP.ret ?_
    show retQ Tryd.prog 81 Tryd.f27 (fun v w1 => v = .int .i64 r ∧ Ext noG w0 w1) .ret ρ3 w3
    obtain rfl := Option.some.inj hF
    exact res1 rfl (by decide) h2 ⟨rfl, hW⟩
  · have hF := (if_neg (Bool.eq_false_iff.1 hb)).symm.trans hF
    refine WP.skip ?_
    refine WP.seq ?_
    refine WP.seq ?_
    refine WP.region mixed [[], [0], []] [[], [0], []] [[0], [], []] [] []
      [val 8 (v_d_), val 9 (.int .i64 (d_.length : Int)), val 10 (.int .i64 0)] noG (by kernel_rfl)
      ⟨Stable.val _ _ _, Stable.val _ _ _, Stable.val _ _ _, trivial⟩
      ⟨fun ρz wz hE hA ⟨e0, _⟩ _ => core_val rfl rfl (o_move (e0.trans h0)),
     fun ρz wz hE hA _ ⟨u0, _⟩ => core_val rfl rfl (o_len (u0.trans hs_H_d_) len_26),
     fun ρz wz hE hA _ _ => core_val rfl rfl (o_move rfl), trivial⟩ ?_
    intro ρ4 w4 hE hN hf hr
    have hN := hN rfl
    have h0 := (hr 0 rfl).trans h0
    have h8 : ρ4 8 = v_d_ := hf 0 rfl
    have h9 : ρ4 9 = .int .i64 (d_.length : Int) := hf 1 rfl
    have h10 : ρ4 10 = .int .i64 0 := hf 2 rfl
    have H_d__at0 := H_d_
    have H_d_ := H_d_.exn hN
    have hW := hW.trans hN
    have hsz := Nat.le_trans hsz hN.size
    refine WP.block ?_
    refine WP.loop (fun k_ ρ w => ∃ x : Int, ρ 0 = v_d_ ∧ ρ 8 = v_d_ ∧ ρ 9 = .int .i64 (d_.length : Int) ∧ ρ 10 = .int .i64 x ∧ RepSl Rate.R (gfr noG w0) w v_d_ d_ ∧ Ext noG w0 w ∧ w0.heap.size ≤ w.heap.size ∧ loopC k_ (money_CheckRates_l d_) x = some r) FU ⟨0, h0, h8, h9, h10, H_d_, hW, hsz, hF⟩ (fun _ _ h => by obtain ⟨_, _, _, _, _, _, _, _, h⟩ := h; cases h) ?_
    rintro k_ ρ5 w5 ⟨x, h0, h8, h9, h10, H_d_, hW, hsz, hF⟩
    have hF : money_CheckRates_l d_ (loopC k_ (money_CheckRates_l d_)) x = some r := hF
    generalize hrec_ : loopC k_ (money_CheckRates_l d_) = rec_ at hF
    rw [money_CheckRates_l] at hF
    refine WP.seq ?_
    refine WP.region mixed [[]] [[]] [[10, 9]] [] []
      [val 11 (.bool (decide (x < (d_.length : Int))))] noG (by kernel_rfl)
      ⟨Stable.val _ _ _, trivial⟩
      ⟨fun ρz wz hE hA ⟨e10, e9, _⟩ _ => core_val rfl rfl (o_lss (e10.trans h10) (e9.trans h9) rfl), trivial⟩ ?_
    intro ρ6 w6 hE hN hf hr
    have hN := hN rfl
    have h0 := (hr 0 rfl).trans h0
    have h8 := (hr 8 rfl).trans h8
    have h9 := (hr 9 rfl).trans h9
    have h10 := (hr 10 rfl).trans h10
    have h11 : ρ6 11 = .bool (decide (x < (d_.length : Int))) := hf 0 rfl
    have H_d__at0 := H_d_
    have H_d_ := H_d_.exn hN
    have hW := hW.trans hN
    have hsz := Nat.le_trans hsz hN.size
    refine WP.seq ?_
    refine WP.cond rfl h11 (fun hb => ?_) (fun hb => ?_)
    · have hF := (if_pos hb).symm.trans hF
      refine WP.skip ?_
      refine WP.seq ?_
      refine WP.block ?_
      refine WP.seq ?_
      obtain ⟨y, hy, hF⟩ := obind hF
      obtain ⟨ay, cy, hvy, hiy, hAy⟩ := RepSl.getF H_d_ hy
      refine WP.region mixed [[], [], [1], [], [0], [2, 3]] [[], [], [1], [], [0], [3, 2]] [[10], [8, 10], [], [], [], []] [5] [(3, 5)]
        [val 12 (.int .i64 x), val 13 (.pointer (some (ay.add (Int.toNat x * 4)))), val 14 (Rate.val y), (4, fun u wz => ∃ b, u = .pointer (some ⟨b, 0, none⟩) ∧ w6.heap.size ≤ b ∧ Mb wz b 57 (Rate.cells (⟨0, 0, (⟨0, 0⟩ : Fraction)⟩ : Rate))), val 3 (.int .i64 x), (4, fun u wz => ∃ b, u = .pointer (some ⟨b, 0, none⟩) ∧ w6.heap.size ≤ b ∧ Mb wz b 57 (Rate.cells y))] (fun b => w6.heap.size ≤ b) (by kernel_rfl)
        ⟨Stable.val _ _ _, Stable.val _ _ _, Stable.val _ _ _, fun _ _ _ hE ⟨b, hb, hs, hM⟩ => ⟨b, hb, hs, hM.exn hE⟩, Stable.val _ _ _, fun _ _ _ hE ⟨b, hb, hs, hM⟩ => ⟨b, hb, hs, hM.exn hE⟩, trivial⟩
        ⟨fun ρz wz hE hA ⟨e10, _⟩ _ => core_val rfl rfl (o_move (e10.trans h10)),
     fun ρz wz hE hA ⟨e8, e10, _⟩ _ => core_val rfl rfl (o_indexAddr ((e8.trans h8).trans hvy) (e10.trans h10) (ia_26 hiy)),
     fun ρz wz hE hA _ ⟨u1, _⟩ => core_val rfl rfl (o_load u1 (run_loadN (cs := (Rate.cells y)) (lr_57 _ _) rfl ((hAy.exn hE.fresh).ca))),
     fun ρz wz hE hA _ _ => core_new rfl rfl hE (o_alloc (al_57 _)),
     fun ρz wz hE hA _ ⟨u0, _⟩ => core_val rfl rfl (o_assign u0),
     fun ρz wz hE hA _ ⟨u3, u2, _⟩ => core_storeNew rfl rfl rfl rfl u2 u3 (fun a w => st_57 _ a w) rfl (one_57 _), trivial⟩ ?_
      intro ρ7 w7 hE hN hf hr
      have hN := hE.fresh
      have h0 := (hr 0 rfl).trans h0
      have h8 := (hr 8 rfl).trans h8
      have h9 := (hr 9 rfl).trans h9
      have h10 := (hr 10 rfl).trans h10
      obtain ⟨b4_, h4, hge_b4_, Hb_b4_⟩ := hf 5 rfl
      have h3 : ρ7 3 = .int .i64 x := hf 4 rfl
      have H_d__at0 := H_d_
      have H_d_ := H_d_.exn hN
      have hW := hW.trans hN
      have hB_b4_ : w0.heap.size ≤ b4_ := Nat.le_trans hsz hge_b4_
      have hsz := Nat.le_trans hsz hN.size
      refine WP.seq ?_
      refine WP.seq ?_
      obtain ⟨z, hz, hF⟩ := obind hF
      obtain ⟨c, hc, hF⟩ := obind hF
      obtain ⟨c2, hc2, hF⟩ := obind hF
      obtain ⟨c3, hc3, hF⟩ := obind hF
      obtain ⟨c4, hc4, hF⟩ := obind hF
      refine WP.via (fun ρ w => ρ 0 = v_d_ ∧ ρ 8 = v_d_ ∧ ρ 9 = .int .i64 (d_.length : Int) ∧ ρ 10 = .int .i64 x ∧ ρ 4 = .pointer (some ⟨b4_, 0, none⟩) ∧ ρ 3 = .int .i64 x ∧ ρ 44 = .bool c4 ∧ Mb w b4_ 57 (Rate.cells y) ∧ RepSl Rate.R (gfr noG w0) w v_d_ d_ ∧ Ext noG w0 w ∧ w0.heap.size ≤ w.heap.size) ?_ ?_
      · rcases Bool.eq_false_or_eq_true (!z) with hd4 | hd4
        · have hc := (if_pos (by simp [hd4])).symm.trans hc
          have hc := Option.some.inj hc
          have hc2 := (if_pos (by simp [hd4, ← hc])).symm.trans hc2
          have hc2 := Option.some.inj hc2
          have hc3 := (if_pos (by simp [hd4, ← hc, ← hc2])).symm.trans hc3
          have hc3 := Option.some.inj hc3
          have hc4 := (if_pos (by simp [hd4, ← hc, ← hc2, ← hc3])).symm.trans hc4
          have hc4 := Option.some.inj hc4
          refine WP.region mixed [[], [0], [1], [2], [3], [4], [4], [4], [4], [4], [9], [10], [10], [10], [10], [10], [15], [16], [16], [16], [16], [16], [16], [22], [23], [23], [23], [23], [23], [23]] [[], [0], [1], [2], [3], [4], [4], [4], [4], [4], [9], [10], [10], [10], [10], [10], [15], [16], [16], [16], [16], [16], [16], [22], [23], [23], [23], [23], [23], [23]] [[4], [], [], [], [], [], [], [], [], [], [], [], [], [], [], [], [], [], [], [], [], [], [], [], [], [], [], [], [], []] [] []
            [val 15 (.pointer (some ((⟨b4_, 0, none⟩ : Addr).add 0))), val 16 (.int .i64 y.Currency), val 17 (.bool z), val 18 (.bool (!z)), val 19 (.bool true), anyF 20, anyF 21, anyF 22, anyF 23, val 24 (.bool true), val 25 (.bool true), anyF 26, anyF 27, anyF 28, anyF 29, val 30 (.bool true), val 31 (.bool true), anyF 32, anyF 33, anyF 34, anyF 35, anyF 36, val 37 (.bool true), val 38 (.bool true), anyF 39, anyF 40, anyF 41, anyF 42, anyF 43, val 44 (.bool true)] noG (by kernel_rfl)
            ⟨Stable.val _ _ _, Stable.val _ _ _, Stable.val _ _ _, Stable.val _ _ _, Stable.val _ _ _, Stable.any _ _, Stable.any _ _, Stable.any _ _, Stable.any _ _, Stable.val _ _ _, Stable.val _ _ _, Stable.any _ _, Stable.any _ _, Stable.any _ _, Stable.any _ _, Stable.val _ _ _, Stable.val _ _ _, Stable.any _ _, Stable.any _ _, Stable.any _ _, Stable.any _ _, Stable.any _ _, Stable.val _ _ _, Stable.val _ _ _, Stable.any _ _, Stable.any _ _, Stable.any _ _, Stable.any _ _, Stable.any _ _, Stable.val _ _ _, trivial⟩
            ⟨fun ρz wz hE hA ⟨e4, _⟩ _ => core_val rfl rfl (o_fieldAddr (e4.trans h4) (fa_57_0 _ _)),
     fun ρz wz hE hA _ ⟨u0, _⟩ => core_val rfl rfl (o_load u0 (run_load1 (lr_3 _ _) (CA.sub ((Hb_b4_.exn (hA rfl)).ca) 0 1))),
     fun ρz wz hE hA _ ⟨u1, _⟩ => core_call rfl (call_args1 u1) cf_43 (money_currency_ok  _  hz),
     fun ρz wz hE hA _ ⟨u2, _⟩ => core_val rfl rfl (o_not u2 rfl),
     fun ρz wz hE hA _ ⟨u3, _⟩ => core_valE rfl rfl (congrArg Value.bool hd4) (o_move u3),
     fun _ _ _ _ _ ⟨u4, _⟩ => gNo rfl u4 rfl trivial,
     fun _ _ _ _ _ ⟨u4, _⟩ => gNo rfl u4 rfl trivial,
     fun _ _ _ _ _ ⟨u4, _⟩ => gNo rfl u4 rfl trivial,
     fun _ _ _ _ _ ⟨u4, _⟩ => gNo rfl u4 rfl trivial,
     fun ρz wz hE hA _ ⟨u4, _⟩ => core_val rfl rfl (o_pick_t u4 rfl),
     fun ρz wz hE hA _ ⟨u9, _⟩ => core_val rfl rfl (o_move u9),
     fun _ _ _ _ _ ⟨u10, _⟩ => gNo rfl u10 rfl trivial,
     fun _ _ _ _ _ ⟨u10, _⟩ => gNo rfl u10 rfl trivial,
     fun _ _ _ _ _ ⟨u10, _⟩ => gNo rfl u10 rfl trivial,
     fun _ _ _ _ _ ⟨u10, _⟩ => gNo rfl u10 rfl trivial,
     fun ρz wz hE hA _ ⟨u10, _⟩ => core_val rfl rfl (o_pick_t u10 rfl),
     fun ρz wz hE hA _ ⟨u15, _⟩ => core_val rfl rfl (o_move u15),
     fun _ _ _ _ _ ⟨u16, _⟩ => gNo rfl u16 rfl trivial,
     fun _ _ _ _ _ ⟨u16, _⟩ => gNo rfl u16 rfl trivial,
     fun _ _ _ _ _ ⟨u16, _⟩ => gNo rfl u16 rfl trivial,
     fun _ _ _ _ _ ⟨u16, _⟩ => gNo rfl u16 rfl trivial,
     fun _ _ _ _ _ ⟨u16, _⟩ => gNo rfl u16 rfl trivial,
     fun ρz wz hE hA _ ⟨u16, _⟩ => core_val rfl rfl (o_pick_t u16 rfl),
     fun ρz wz hE hA _ ⟨u22, _⟩ => core_val rfl rfl (o_move u22),
     fun _ _ _ _ _ ⟨u23, _⟩ => gNo rfl u23 rfl trivial,
     fun _ _ _ _ _ ⟨u23, _⟩ => gNo rfl u23 rfl trivial,
     fun _ _ _ _ _ ⟨u23, _⟩ => gNo rfl u23 rfl trivial,
     fun _ _ _ _ _ ⟨u23, _⟩ => gNo rfl u23 rfl trivial,
     fun _ _ _ _ _ ⟨u23, _⟩ => gNo rfl u23 rfl trivial,
     fun ρz wz hE hA _ ⟨u23, _⟩ => core_val rfl rfl (o_pick_t u23 rfl), trivial⟩ ?_
          intro ρ9 w9 hE hN hf hr
          have hN := hN rfl
          have h0 := (hr 0 rfl).trans h0
          have h8 := (hr 8 rfl).trans h8
          have h9 := (hr 9 rfl).trans h9
          have h10 := (hr 10 rfl).trans h10
          have h4 := (hr 4 rfl).trans h4
          have h3 := (hr 3 rfl).trans h3
          have h44 : ρ9 44 = .bool true := hf 29 rfl
          have Hb_b4_n := Hb_b4_.exn hN
          have H_d__at0 := H_d_
          have H_d_ := H_d_.exn hN
          have hW := hW.trans hN
          have Hb_b4_ := Hb_b4_n
          have hsz := Nat.le_trans hsz hN.size
          exact ⟨h0, h8, h9, h10, h4, h3, (h44.trans (congrArg Value.bool (by simp [hd4, ← hc, ← hc2, ← hc3, ← hc4]))), Hb_b4_, H_d_, hW, hsz⟩
        · have hc := (if_neg (Bool.eq_false_iff.1 (by simp [hd4]))).symm.trans hc
          obtain ⟨z2, hz2, hc⟩ := obind hc
          have hc := Option.some.inj hc
          rcases Bool.eq_false_or_eq_true (!z2) with hd10 | hd10
          · have hc2 := (if_pos (by simp [hd4, hd10, ← hc])).symm.trans hc2
            have hc2 := Option.some.inj hc2
            have hc3 := (if_pos (by simp [hd4, hd10, ← hc, ← hc2])).symm.trans hc3
            have hc3 := Option.some.inj hc3
            have hc4 := (if_pos (by simp [hd4, hd10, ← hc, ← hc2, ← hc3])).symm.trans hc4
            have hc4 := Option.some.inj hc4
            refine WP.region mixed [[], [0], [1], [2], [3], [4], [4, 5], [4, 6], [4, 7], [4, 8], [9], [10], [10], [10], [10], [10], [15], [16], [16], [16], [16], [16], [16], [22], [23], [23], [23], [23], [23], [23]] [[], [0], [1], [2], [3], [4], [4, 5], [4, 6], [4, 7], [4, 8], [9], [10], [10], [10], [10], [10], [15], [16], [16], [16], [16], [16], [16], [22], [23], [23], [23], [23], [23], [23]] [[4], [], [], [], [], [4], [], [], [], [], [], [], [], [], [], [], [], [], [], [], [], [], [], [], [], [], [], [], [], []] [] []
              [val 15 (.pointer (some ((⟨b4_, 0, none⟩ : Addr).add 0))), val 16 (.int .i64 y.Currency), val 17 (.bool z), val 18 (.bool (!z)), val 19 (.bool false), val 20 (.pointer (some ((⟨b4_, 0, none⟩ : Addr).add 1))), val 21 (.int .i64 y.Month), val 22 (.bool z2), val 23 (.bool (!z2)), val 24 (.bool (!z2)), val 25 (.bool true), anyF 26, anyF 27, anyF 28, anyF 29, val 30 (.bool true), val 31 (.bool true), anyF 32, anyF 33, anyF 34, anyF 35, anyF 36, val 37 (.bool true), val 38 (.bool true), anyF 39, anyF 40, anyF 41, anyF 42, anyF 43, val 44 (.bool true)] noG (by kernel_rfl)
              ⟨Stable.val _ _ _, Stable.val _ _ _, Stable.val _ _ _, Stable.val _ _ _, Stable.val _ _ _, Stable.val _ _ _, Stable.val _ _ _, Stable.val _ _ _, Stable.val _ _ _, Stable.val _ _ _, Stable.val _ _ _, Stable.any _ _, Stable.any _ _, Stable.any _ _, Stable.any _ _, Stable.val _ _ _, Stable.val _ _ _, Stable.any _ _, Stable.any _ _, Stable.any _ _, Stable.any _ _, Stable.any _ _, Stable.val _ _ _, Stable.val _ _ _, Stable.any _ _, Stable.any _ _, Stable.any _ _, Stable.any _ _, Stable.any _ _, Stable.val _ _ _, trivial⟩
              ⟨fun ρz wz hE hA ⟨e4, _⟩ _ => core_val rfl rfl (o_fieldAddr (e4.trans h4) (fa_57_0 _ _)),
     fun ρz wz hE hA _ ⟨u0, _⟩ => core_val rfl rfl (o_load u0 (run_load1 (lr_3 _ _) (CA.sub ((Hb_b4_.exn (hA rfl)).ca) 0 1))),
     fun ρz wz hE hA _ ⟨u1, _⟩ => core_call rfl (call_args1 u1) cf_43 (money_currency_ok  _  hz),
     fun ρz wz hE hA _ ⟨u2, _⟩ => core_val rfl rfl (o_not u2 rfl),
     fun ρz wz hE hA _ ⟨u3, _⟩ => core_valE rfl rfl (congrArg Value.bool hd4) (o_move u3),
     fun ρz wz hE hA ⟨e4, _⟩ ⟨u4, _⟩ => gYes rfl u4 (core_val rfl rfl (o_fieldAddr (e4.trans h4) (fa_57_1 _ _))),
     fun ρz wz hE hA _ ⟨u4, u5, _⟩ => gYes rfl u4 (core_val rfl rfl (o_load u5 (run_load1 (lr_3 _ _) (CA.sub ((Hb_b4_.exn (hA rfl)).ca) 1 1)))),
     fun ρz wz hE hA _ ⟨u4, u6, _⟩ => gYes rfl u4 (core_call rfl (call_args1 u6) cf_44 (money_month_ok  _  hz2)),
     fun ρz wz hE hA _ ⟨u4, u7, _⟩ => gYes rfl u4 (core_val rfl rfl (o_not u7 rfl)),
     fun ρz wz hE hA _ ⟨u4, u8, _⟩ => core_val rfl rfl (o_pick_f u4 u8),
     fun ρz wz hE hA _ ⟨u9, _⟩ => core_valE rfl rfl (congrArg Value.bool hd10) (o_move u9),
     fun _ _ _ _ _ ⟨u10, _⟩ => gNo rfl u10 rfl trivial,
     fun _ _ _ _ _ ⟨u10, _⟩ => gNo rfl u10 rfl trivial,
     fun _ _ _ _ _ ⟨u10, _⟩ => gNo rfl u10 rfl trivial,
     fun _ _ _ _ _ ⟨u10, _⟩ => gNo rfl u10 rfl trivial,
     fun ρz wz hE hA _ ⟨u10, _⟩ => core_val rfl rfl (o_pick_t u10 rfl),
     fun ρz wz hE hA _ ⟨u15, _⟩ => core_val rfl rfl (o_move u15),
     fun _ _ _ _ _ ⟨u16, _⟩ => gNo rfl u16 rfl trivial,
     fun _ _ _ _ _ ⟨u16, _⟩ => gNo rfl u16 rfl trivial,
     fun _ _ _ _ _ ⟨u16, _⟩ => gNo rfl u16 rfl trivial,
     fun _ _ _ _ _ ⟨u16, _⟩ => gNo rfl u16 rfl trivial,
     fun _ _ _ _ _ ⟨u16, _⟩ => gNo rfl u16 rfl trivial,
     fun ρz wz hE hA _ ⟨u16, _⟩ => core_val rfl rfl (o_pick_t u16 rfl),
     fun ρz wz hE hA _ ⟨u22, _⟩ => core_val rfl rfl (o_move u22),
     fun _ _ _ _ _ ⟨u23, _⟩ => gNo rfl u23 rfl trivial,
     fun _ _ _ _ _ ⟨u23, _⟩ => gNo rfl u23 rfl trivial,
     fun _ _ _ _ _ ⟨u23, _⟩ => gNo rfl u23 rfl trivial,
     fun _ _ _ _ _ ⟨u23, _⟩ => gNo rfl u23 rfl trivial,
     fun _ _ _ _ _ ⟨u23, _⟩ => gNo rfl u23 rfl trivial,
     fun ρz wz hE hA _ ⟨u23, _⟩ => core_val rfl rfl (o_pick_t u23 rfl), trivial⟩ ?_
            intro ρ10 w10 hE hN hf hr
            have hN := hN rfl
            have h0 := (hr 0 rfl).trans h0
            have h8 := (hr 8 rfl).trans h8
            have h9 := (hr 9 rfl).trans h9
            have h10 := (hr 10 rfl).trans h10
            have h4 := (hr 4 rfl).trans h4
            have h3 := (hr 3 rfl).trans h3
            have h44 : ρ10 44 = .bool true := hf 29 rfl
            have Hb_b4_n := Hb_b4_.exn hN
            have H_d__at0 := H_d_
            have H_d_ := H_d_.exn hN
            have hW := hW.trans hN
            have Hb_b4_ := Hb_b4_n
            have hsz := Nat.le_trans hsz hN.size
            exact ⟨h0, h8, h9, h10, h4, h3, (h44.trans (congrArg Value.bool (by simp [hd4, hd10, ← hc, ← hc2, ← hc3, ← hc4]))), Hb_b4_, H_d_, hW, hsz⟩
          · have hc2 := (if_neg (Bool.eq_false_iff.1 (by simp [hd4, hd10, ← hc]))).symm.trans hc2
            obtain ⟨z3, hz3, hc2⟩ := obind hc2
            have hc2 := Option.some.inj hc2
            rcases Bool.eq_false_or_eq_true (!z3) with hd16 | hd16
            · have hc3 := (if_pos (by simp [hd4, hd10, hd16, ← hc, ← hc2])).symm.trans hc3
              have hc3 := Option.some.inj hc3
              have hc4 := (if_pos (by simp [hd4, hd10, hd16, ← hc, ← hc2, ← hc3])).symm.trans hc4
              have hc4 := Option.some.inj hc4
              refine WP.region mixed [[], [0], [1], [2], [3], [4], [4, 5], [4, 6], [4, 7], [4, 8], [9], [10], [10, 11], [10, 12], [10, 13], [10, 14], [15], [16], [16], [16], [16], [16], [16], [22], [23], [23], [23], [23], [23], [23]] [[], [0], [1], [2], [3], [4], [4, 5], [4, 6], [4, 7], [4, 8], [9], [10], [10, 11], [10, 12], [10, 13], [10, 14], [15], [16], [16], [16], [16], [16], [16], [22], [23], [23], [23], [23], [23], [23]] [[4], [], [], [], [], [4], [], [], [], [], [], [4], [], [], [], [], [], [], [], [], [], [], [], [], [], [], [], [], [], []] [] []
                [val 15 (.pointer (some ((⟨b4_, 0, none⟩ : Addr).add 0))), val 16 (.int .i64 y.Currency), val 17 (.bool z), val 18 (.bool (!z)), val 19 (.bool false), val 20 (.pointer (some ((⟨b4_, 0, none⟩ : Addr).add 1))), val 21 (.int .i64 y.Month), val 22 (.bool z2), val 23 (.bool (!z2)), val 24 (.bool (!z2)), val 25 (.bool false), val 26 (.pointer (some ((⟨b4_, 0, none⟩ : Addr).add 2))), val 27 (Fraction.val y.Value), val 28 (.bool z3), val 29 (.bool (!z3)), val 30 (.bool (!z3)), val 31 (.bool true), anyF 32, anyF 33, anyF 34, anyF 35, anyF 36, val 37 (.bool true), val 38 (.bool true), anyF 39, anyF 40, anyF 41, anyF 42, anyF 43, val 44 (.bool true)] noG (by kernel_rfl)
                ⟨Stable.val _ _ _, Stable.val _ _ _, Stable.val _ _ _, Stable.val _ _ _, Stable.val _ _ _, Stable.val _ _ _, Stable.val _ _ _, Stable.val _ _ _, Stable.val _ _ _, Stable.val _ _ _, Stable.val _ _ _, Stable.val _ _ _, Stable.val _ _ _, Stable.val _ _ _, Stable.val _ _ _, Stable.val _ _ _, Stable.val _ _ _, Stable.any _ _, Stable.any _ _, Stable.any _ _, Stable.any _ _, Stable.any _ _, Stable.val _ _ _, Stable.val _ _ _, Stable.any _ _, Stable.any _ _, Stable.any _ _, Stable.any _ _, Stable.any _ _, Stable.val _ _ _, trivial⟩
                ⟨fun ρz wz hE hA ⟨e4, _⟩ _ => core_val rfl rfl (o_fieldAddr (e4.trans h4) (fa_57_0 _ _)),
     fun ρz wz hE hA _ ⟨u0, _⟩ => core_val rfl rfl (o_load u0 (run_load1 (lr_3 _ _) (CA.sub ((Hb_b4_.exn (hA rfl)).ca) 0 1))),
     fun ρz wz hE hA _ ⟨u1, _⟩ => core_call rfl (call_args1 u1) cf_43 (money_currency_ok  _  hz),
     fun ρz wz hE hA _ ⟨u2, _⟩ => core_val rfl rfl (o_not u2 rfl),
     fun ρz wz hE hA _ ⟨u3, _⟩ => core_valE rfl rfl (congrArg Value.bool hd4) (o_move u3),
     fun ρz wz hE hA ⟨e4, _⟩ ⟨u4, _⟩ => gYes rfl u4 (core_val rfl rfl (o_fieldAddr (e4.trans h4) (fa_57_1 _ _))),
     fun ρz wz hE hA _ ⟨u4, u5, _⟩ => gYes rfl u4 (core_val rfl rfl (o_load u5 (run_load1 (lr_3 _ _) (CA.sub ((Hb_b4_.exn (hA rfl)).ca) 1 1)))),
     fun ρz wz hE hA _ ⟨u4, u6, _⟩ => gYes rfl u4 (core_call rfl (call_args1 u6) cf_44 (money_month_ok  _  hz2)),
     fun ρz wz hE hA _ ⟨u4, u7, _⟩ => gYes rfl u4 (core_val rfl rfl (o_not u7 rfl)),
     fun ρz wz hE hA _ ⟨u4, u8, _⟩ => core_val rfl rfl (o_pick_f u4 u8),
     fun ρz wz hE hA _ ⟨u9, _⟩ => core_valE rfl rfl (congrArg Value.bool hd10) (o_move u9),
     fun ρz wz hE hA ⟨e4, _⟩ ⟨u10, _⟩ => gYes rfl u10 (core_val rfl rfl (o_fieldAddr (e4.trans h4) (fa_57_2 _ _))),
     fun ρz wz hE hA _ ⟨u10, u11, _⟩ => gYes rfl u10 (core_val rfl rfl (o_load u11 (run_loadN (cs := (Fraction.cells y.Value)) (lr_54 _ _) rfl (CA.sub ((Hb_b4_.exn (hA rfl)).ca) 2 2)))),
     fun ρz wz hE hA _ ⟨u10, u12, _⟩ => gYes rfl u10 (core_call rfl (call_args1 u12) cf_45 (rational_Valid_ok  _  hz3)),
     fun ρz wz hE hA _ ⟨u10, u13, _⟩ => gYes rfl u10 (core_val rfl rfl (o_not u13 rfl)),
     fun ρz wz hE hA _ ⟨u10, u14, _⟩ => core_val rfl rfl (o_pick_f u10 u14),
     fun ρz wz hE hA _ ⟨u15, _⟩ => core_valE rfl rfl (congrArg Value.bool hd16) (o_move u15),
     fun _ _ _ _ _ ⟨u16, _⟩ => gNo rfl u16 rfl trivial,
     fun _ _ _ _ _ ⟨u16, _⟩ => gNo rfl u16 rfl trivial,
     fun _ _ _ _ _ ⟨u16, _⟩ => gNo rfl u16 rfl trivial,
     fun _ _ _ _ _ ⟨u16, _⟩ => gNo rfl u16 rfl trivial,
     fun _ _ _ _ _ ⟨u16, _⟩ => gNo rfl u16 rfl trivial,
     fun ρz wz hE hA _ ⟨u16, _⟩ => core_val rfl rfl (o_pick_t u16 rfl),
     fun ρz wz hE hA _ ⟨u22, _⟩ => core_val rfl rfl (o_move u22),
     fun _ _ _ _ _ ⟨u23, _⟩ => gNo rfl u23 rfl trivial,
     fun _ _ _ _ _ ⟨u23, _⟩ => gNo rfl u23 rfl trivial,
     fun _ _ _ _ _ ⟨u23, _⟩ => gNo rfl u23 rfl trivial,
     fun _ _ _ _ _ ⟨u23, _⟩ => gNo rfl u23 rfl trivial,
     fun _ _ _ _ _ ⟨u23, _⟩ => gNo rfl u23 rfl trivial,
     fun ρz wz hE hA _ ⟨u23, _⟩ => core_val rfl rfl (o_pick_t u23 rfl), trivial⟩ ?_
              intro ρ11 w11 hE hN hf hr
              have hN := hN rfl
              have h0 := (hr 0 rfl).trans h0
              have h8 := (hr 8 rfl).trans h8
              have h9 := (hr 9 rfl).trans h9
              have h10 := (hr 10 rfl).trans h10
              have h4 := (hr 4 rfl).trans h4
              have h3 := (hr 3 rfl).trans h3
              have h44 : ρ11 44 = .bool true := hf 29 rfl
              have Hb_b4_n := Hb_b4_.exn hN
              have H_d__at0 := H_d_
              have H_d_ := H_d_.exn hN
              have hW := hW.trans hN
              have Hb_b4_ := Hb_b4_n
              have hsz := Nat.le_trans hsz hN.size
              exact ⟨h0, h8, h9, h10, h4, h3, (h44.trans (congrArg Value.bool (by simp [hd4, hd10, hd16, ← hc, ← hc2, ← hc3, ← hc4]))), Hb_b4_, H_d_, hW, hsz⟩
            · have hc3 := (if_neg (Bool.eq_false_iff.1 (by simp [hd4, hd10, hd16, ← hc, ← hc2]))).symm.trans hc3
              obtain ⟨z4, hz4, hc3⟩ := obind hc3
              have hc3 := Option.some.inj hc3
              rcases Bool.eq_false_or_eq_true (!z4) with hd23 | hd23
              · have hc4 := (if_pos (by simp [hd4, hd10, hd16, hd23, ← hc, ← hc2, ← hc3])).symm.trans hc4
                have hc4 := Option.some.inj hc4
                refine WP.region mixed [[], [0], [1], [2], [3], [4], [4, 5], [4, 6], [4, 7], [4, 8], [9], [10], [10, 11], [10, 12], [10, 13], [10, 14], [15], [16], [16, 17], [16, 18], [16, 19], [16, 20], [16, 21], [22], [23], [23], [23], [23], [23], [23]] [[], [0], [1], [2], [3], [4], [4, 5], [4, 6], [4, 7], [4, 8], [9], [10], [10, 11], [10, 12], [10, 13], [10, 14], [15], [16], [16, 17], [16, 18], [16, 19], [16, 20], [16, 21], [22], [23], [23], [23], [23], [23], [23]] [[4], [], [], [], [], [4], [], [], [], [], [], [4], [], [], [], [], [], [4], [], [], [], [], [], [], [], [], [], [], [], []] [] []
                  [val 15 (.pointer (some ((⟨b4_, 0, none⟩ : Addr).add 0))), val 16 (.int .i64 y.Currency), val 17 (.bool z), val 18 (.bool (!z)), val 19 (.bool false), val 20 (.pointer (some ((⟨b4_, 0, none⟩ : Addr).add 1))), val 21 (.int .i64 y.Month), val 22 (.bool z2), val 23 (.bool (!z2)), val 24 (.bool (!z2)), val 25 (.bool false), val 26 (.pointer (some ((⟨b4_, 0, none⟩ : Addr).add 2))), val 27 (Fraction.val y.Value), val 28 (.bool z3), val 29 (.bool (!z3)), val 30 (.bool (!z3)), val 31 (.bool false), val 32 (.pointer (some ((⟨b4_, 0, none⟩ : Addr).add 2))), val 33 (.pointer (some (((⟨b4_, 0, none⟩ : Addr).add 2).add 0))), val 34 (.int .i64 y.Value.Num), val 35 (.bool z4), val 36 (.bool (!z4)), val 37 (.bool (!z4)), val 38 (.bool true), anyF 39, anyF 40, anyF 41, anyF 42, anyF 43, val 44 (.bool true)] noG (by kernel_rfl)
                  ⟨Stable.val _ _ _, Stable.val _ _ _, Stable.val _ _ _, Stable.val _ _ _, Stable.val _ _ _, Stable.val _ _ _, Stable.val _ _ _, Stable.val _ _ _, Stable.val _ _ _, Stable.val _ _ _, Stable.val _ _ _, Stable.val _ _ _, Stable.val _ _ _, Stable.val _ _ _, Stable.val _ _ _, Stable.val _ _ _, Stable.val _ _ _, Stable.val _ _ _, Stable.val _ _ _, Stable.val _ _ _, Stable.val _ _ _, Stable.val _ _ _, Stable.val _ _ _, Stable.val _ _ _, Stable.any _ _, Stable.any _ _, Stable.any _ _, Stable.any _ _, Stable.any _ _, Stable.val _ _ _, trivial⟩
                  ⟨fun ρz wz hE hA ⟨e4, _⟩ _ => core_val rfl rfl (o_fieldAddr (e4.trans h4) (fa_57_0 _ _)),
     fun ρz wz hE hA _ ⟨u0, _⟩ => core_val rfl rfl (o_load u0 (run_load1 (lr_3 _ _) (CA.sub ((Hb_b4_.exn (hA rfl)).ca) 0 1))),
     fun ρz wz hE hA _ ⟨u1, _⟩ => core_call rfl (call_args1 u1) cf_43 (money_currency_ok  _  hz),
     fun ρz wz hE hA _ ⟨u2, _⟩ => core_val rfl rfl (o_not u2 rfl),
     fun ρz wz hE hA _ ⟨u3, _⟩ => core_valE rfl rfl (congrArg Value.bool hd4) (o_move u3),
     fun ρz wz hE hA ⟨e4, _⟩ ⟨u4, _⟩ => gYes rfl u4 (core_val rfl rfl (o_fieldAddr (e4.trans h4) (fa_57_1 _ _))),
     fun ρz wz hE hA _ ⟨u4, u5, _⟩ => gYes rfl u4 (core_val rfl rfl (o_load u5 (run_load1 (lr_3 _ _) (CA.sub ((Hb_b4_.exn (hA rfl)).ca) 1 1)))),
     fun ρz wz hE hA _ ⟨u4, u6, _⟩ => gYes rfl u4 (core_call rfl (call_args1 u6) cf_44 (money_month_ok  _  hz2)),
     fun ρz wz hE hA _ ⟨u4, u7, _⟩ => gYes rfl u4 (core_val rfl rfl (o_not u7 rfl)),
     fun ρz wz hE hA _ ⟨u4, u8, _⟩ => core_val rfl rfl (o_pick_f u4 u8),
     fun ρz wz hE hA _ ⟨u9, _⟩ => core_valE rfl rfl (congrArg Value.bool hd10) (o_move u9),
     fun ρz wz hE hA ⟨e4, _⟩ ⟨u10, _⟩ => gYes rfl u10 (core_val rfl rfl (o_fieldAddr (e4.trans h4) (fa_57_2 _ _))),
     fun ρz wz hE hA _ ⟨u10, u11, _⟩ => gYes rfl u10 (core_val rfl rfl (o_load u11 (run_loadN (cs := (Fraction.cells y.Value)) (lr_54 _ _) rfl (CA.sub ((Hb_b4_.exn (hA rfl)).ca) 2 2)))),
     fun ρz wz hE hA _ ⟨u10, u12, _⟩ => gYes rfl u10 (core_call rfl (call_args1 u12) cf_45 (rational_Valid_ok  _  hz3)),
     fun ρz wz hE hA _ ⟨u10, u13, _⟩ => gYes rfl u10 (core_val rfl rfl (o_not u13 rfl)),
     fun ρz wz hE hA _ ⟨u10, u14, _⟩ => core_val rfl rfl (o_pick_f u10 u14),
     fun ρz wz hE hA _ ⟨u15, _⟩ => core_valE rfl rfl (congrArg Value.bool hd16) (o_move u15),
     fun ρz wz hE hA ⟨e4, _⟩ ⟨u16, _⟩ => gYes rfl u16 (core_val rfl rfl (o_fieldAddr (e4.trans h4) (fa_57_2 _ _))),
     fun ρz wz hE hA _ ⟨u16, u17, _⟩ => gYes rfl u16 (core_val rfl rfl (o_fieldAddr u17 (fa_54_0 _ _))),
     fun ρz wz hE hA _ ⟨u16, u18, _⟩ => gYes rfl u16 (core_val rfl rfl (o_load u18 (run_load1 (lr_3 _ _) (CA.sub (CA.sub ((Hb_b4_.exn (hA rfl)).ca) 2 2) 0 1)))),
     fun ρz wz hE hA _ ⟨u16, u19, _⟩ => gYes rfl u16 (core_call rfl (call_args1 u19) cf_46 (money_small_ok  _  hz4)),
     fun ρz wz hE hA _ ⟨u16, u20, _⟩ => gYes rfl u16 (core_val rfl rfl (o_not u20 rfl)),
     fun ρz wz hE hA _ ⟨u16, u21, _⟩ => core_val rfl rfl (o_pick_f u16 u21),
     fun ρz wz hE hA _ ⟨u22, _⟩ => core_valE rfl rfl (congrArg Value.bool hd23) (o_move u22),
     fun _ _ _ _ _ ⟨u23, _⟩ => gNo rfl u23 rfl trivial,
     fun _ _ _ _ _ ⟨u23, _⟩ => gNo rfl u23 rfl trivial,
     fun _ _ _ _ _ ⟨u23, _⟩ => gNo rfl u23 rfl trivial,
     fun _ _ _ _ _ ⟨u23, _⟩ => gNo rfl u23 rfl trivial,
     fun _ _ _ _ _ ⟨u23, _⟩ => gNo rfl u23 rfl trivial,
     fun ρz wz hE hA _ ⟨u23, _⟩ => core_val rfl rfl (o_pick_t u23 rfl), trivial⟩ ?_
                intro ρ12 w12 hE hN hf hr
                have hN := hN rfl
                have h0 := (hr 0 rfl).trans h0
                have h8 := (hr 8 rfl).trans h8
                have h9 := (hr 9 rfl).trans h9
                have h10 := (hr 10 rfl).trans h10
                have h4 := (hr 4 rfl).trans h4
                have h3 := (hr 3 rfl).trans h3
                have h44 : ρ12 44 = .bool true := hf 29 rfl
                have Hb_b4_n := Hb_b4_.exn hN
                have H_d__at0 := H_d_
                have H_d_ := H_d_.exn hN
                have hW := hW.trans hN
                have Hb_b4_ := Hb_b4_n
                have hsz := Nat.le_trans hsz hN.size
                exact ⟨h0, h8, h9, h10, h4, h3, (h44.trans (congrArg Value.bool (by simp [hd4, hd10, hd16, hd23, ← hc, ← hc2, ← hc3, ← hc4]))), Hb_b4_, H_d_, hW, hsz⟩
              · have hc4 := (if_neg (Bool.eq_false_iff.1 (by simp [hd4, hd10, hd16, hd23, ← hc, ← hc2, ← hc3]))).symm.trans hc4
                obtain ⟨z5, hz5, hc4⟩ := obind hc4
                have hc4 := Option.some.inj hc4
                refine WP.region mixed [[], [0], [1], [2], [3], [4], [4, 5], [4, 6], [4, 7], [4, 8], [9], [10], [10, 11], [10, 12], [10, 13], [10, 14], [15], [16], [16, 17], [16, 18], [16, 19], [16, 20], [16, 21], [22], [23], [23, 24], [23, 25], [23, 26], [23, 27], [23, 28]] [[], [0], [1], [2], [3], [4], [4, 5], [4, 6], [4, 7], [4, 8], [9], [10], [10, 11], [10, 12], [10, 13], [10, 14], [15], [16], [16, 17], [16, 18], [16, 19], [16, 20], [16, 21], [22], [23], [23, 24], [23, 25], [23, 26], [23, 27], [23, 28]] [[4], [], [], [], [], [4], [], [], [], [], [], [4], [], [], [], [], [], [4], [], [], [], [], [], [], [4], [], [], [], [], []] [] []
                  [val 15 (.pointer (some ((⟨b4_, 0, none⟩ : Addr).add 0))), val 16 (.int .i64 y.Currency), val 17 (.bool z), val 18 (.bool (!z)), val 19 (.bool false), val 20 (.pointer (some ((⟨b4_, 0, none⟩ : Addr).add 1))), val 21 (.int .i64 y.Month), val 22 (.bool z2), val 23 (.bool (!z2)), val 24 (.bool (!z2)), val 25 (.bool false), val 26 (.pointer (some ((⟨b4_, 0, none⟩ : Addr).add 2))), val 27 (Fraction.val y.Value), val 28 (.bool z3), val 29 (.bool (!z3)), val 30 (.bool (!z3)), val 31 (.bool false), val 32 (.pointer (some ((⟨b4_, 0, none⟩ : Addr).add 2))), val 33 (.pointer (some (((⟨b4_, 0, none⟩ : Addr).add 2).add 0))), val 34 (.int .i64 y.Value.Num), val 35 (.bool z4), val 36 (.bool (!z4)), val 37 (.bool (!z4)), val 38 (.bool false), val 39 (.pointer (some ((⟨b4_, 0, none⟩ : Addr).add 2))), val 40 (.pointer (some (((⟨b4_, 0, none⟩ : Addr).add 2).add 1))), val 41 (.int .i64 y.Value.Den), val 42 (.bool z5), val 43 (.bool (!z5)), val 44 (.bool (!z5))] noG (by kernel_rfl)
                  ⟨Stable.val _ _ _, Stable.val _ _ _, Stable.val _ _ _, Stable.val _ _ _, Stable.val _ _ _, Stable.val _ _ _, Stable.val _ _ _, Stable.val _ _ _, Stable.val _ _ _, Stable.val _ _ _, Stable.val _ _ _, Stable.val _ _ _, Stable.val _ _ _, Stable.val _ _ _, Stable.val _ _ _, Stable.val _ _ _, Stable.val _ _ _, Stable.val _ _ _, Stable.val _ _ _, Stable.val _ _ _, Stable.val _ _ _, Stable.val _ _ _, Stable.val _ _ _, Stable.val _ _ _, Stable.val _ _ _, Stable.val _ _ _, Stable.val _ _ _, Stable.val _ _ _, Stable.val _ _ _, Stable.val _ _ _, trivial⟩
                  ⟨fun ρz wz hE hA ⟨e4, _⟩ _ => core_val rfl rfl (o_fieldAddr (e4.trans h4) (fa_57_0 _ _)),
     fun ρz wz hE hA _ ⟨u0, _⟩ => core_val rfl rfl (o_load u0 (run_load1 (lr_3 _ _) (CA.sub ((Hb_b4_.exn (hA rfl)).ca) 0 1))),
     fun ρz wz hE hA _ ⟨u1, _⟩ => core_call rfl (call_args1 u1) cf_43 (money_currency_ok  _  hz),
     fun ρz wz hE hA _ ⟨u2, _⟩ => core_val rfl rfl (o_not u2 rfl),
     fun ρz wz hE hA _ ⟨u3, _⟩ => core_valE rfl rfl (congrArg Value.bool hd4) (o_move u3),
     fun ρz wz hE hA ⟨e4, _⟩ ⟨u4, _⟩ => gYes rfl u4 (core_val rfl rfl (o_fieldAddr (e4.trans h4) (fa_57_1 _ _))),
     fun ρz wz hE hA _ ⟨u4, u5, _⟩ => gYes rfl u4 (core_val rfl rfl (o_load u5 (run_load1 (lr_3 _ _) (CA.sub ((Hb_b4_.exn (hA rfl)).ca) 1 1)))),
     fun ρz wz hE hA _ ⟨u4, u6, _⟩ => gYes rfl u4 (core_call rfl (call_args1 u6) cf_44 (money_month_ok  _  hz2)),
     fun ρz wz hE hA _ ⟨u4, u7, _⟩ => gYes rfl u4 (core_val rfl rfl (o_not u7 rfl)),
     fun ρz wz hE hA _ ⟨u4, u8, _⟩ => core_val rfl rfl (o_pick_f u4 u8),
     fun ρz wz hE hA _ ⟨u9, _⟩ => core_valE rfl rfl (congrArg Value.bool hd10) (o_move u9),
     fun ρz wz hE hA ⟨e4, _⟩ ⟨u10, _⟩ => gYes rfl u10 (core_val rfl rfl (o_fieldAddr (e4.trans h4) (fa_57_2 _ _))),
     fun ρz wz hE hA _ ⟨u10, u11, _⟩ => gYes rfl u10 (core_val rfl rfl (o_load u11 (run_loadN (cs := (Fraction.cells y.Value)) (lr_54 _ _) rfl (CA.sub ((Hb_b4_.exn (hA rfl)).ca) 2 2)))),
     fun ρz wz hE hA _ ⟨u10, u12, _⟩ => gYes rfl u10 (core_call rfl (call_args1 u12) cf_45 (rational_Valid_ok  _  hz3)),
     fun ρz wz hE hA _ ⟨u10, u13, _⟩ => gYes rfl u10 (core_val rfl rfl (o_not u13 rfl)),
     fun ρz wz hE hA _ ⟨u10, u14, _⟩ => core_val rfl rfl (o_pick_f u10 u14),
     fun ρz wz hE hA _ ⟨u15, _⟩ => core_valE rfl rfl (congrArg Value.bool hd16) (o_move u15),
     fun ρz wz hE hA ⟨e4, _⟩ ⟨u16, _⟩ => gYes rfl u16 (core_val rfl rfl (o_fieldAddr (e4.trans h4) (fa_57_2 _ _))),
     fun ρz wz hE hA _ ⟨u16, u17, _⟩ => gYes rfl u16 (core_val rfl rfl (o_fieldAddr u17 (fa_54_0 _ _))),
     fun ρz wz hE hA _ ⟨u16, u18, _⟩ => gYes rfl u16 (core_val rfl rfl (o_load u18 (run_load1 (lr_3 _ _) (CA.sub (CA.sub ((Hb_b4_.exn (hA rfl)).ca) 2 2) 0 1)))),
     fun ρz wz hE hA _ ⟨u16, u19, _⟩ => gYes rfl u16 (core_call rfl (call_args1 u19) cf_46 (money_small_ok  _  hz4)),
     fun ρz wz hE hA _ ⟨u16, u20, _⟩ => gYes rfl u16 (core_val rfl rfl (o_not u20 rfl)),
     fun ρz wz hE hA _ ⟨u16, u21, _⟩ => core_val rfl rfl (o_pick_f u16 u21),
     fun ρz wz hE hA _ ⟨u22, _⟩ => core_valE rfl rfl (congrArg Value.bool hd23) (o_move u22),
     fun ρz wz hE hA ⟨e4, _⟩ ⟨u23, _⟩ => gYes rfl u23 (core_val rfl rfl (o_fieldAddr (e4.trans h4) (fa_57_2 _ _))),
     fun ρz wz hE hA _ ⟨u23, u24, _⟩ => gYes rfl u23 (core_val rfl rfl (o_fieldAddr u24 (fa_54_1 _ _))),
     fun ρz wz hE hA _ ⟨u23, u25, _⟩ => gYes rfl u23 (core_val rfl rfl (o_load u25 (run_load1 (lr_3 _ _) (CA.sub (CA.sub ((Hb_b4_.exn (hA rfl)).ca) 2 2) 1 1)))),
     fun ρz wz hE hA _ ⟨u23, u26, _⟩ => gYes rfl u23 (core_call rfl (call_args1 u26) cf_46 (money_small_ok  _  hz5)),
     fun ρz wz hE hA _ ⟨u23, u27, _⟩ => gYes rfl u23 (core_val rfl rfl (o_not u27 rfl)),
     fun ρz wz hE hA _ ⟨u23, u28, _⟩ => core_val rfl rfl (o_pick_f u23 u28), trivial⟩ ?_
                intro ρ13 w13 hE hN hf hr
                have hN := hN rfl
                have h0 := (hr 0 rfl).trans h0
                have h8 := (hr 8 rfl).trans h8
                have h9 := (hr 9 rfl).trans h9
                have h10 := (hr 10 rfl).trans h10
                have h4 := (hr 4 rfl).trans h4
                have h3 := (hr 3 rfl).trans h3
                have h44 : ρ13 44 = .bool (!z5) := hf 29 rfl
                have Hb_b4_n := Hb_b4_.exn hN
                have H_d__at0 := H_d_
                have H_d_ := H_d_.exn hN
                have hW := hW.trans hN
                have Hb_b4_ := Hb_b4_n
                have hsz := Nat.le_trans hsz hN.size
                exact ⟨h0, h8, h9, h10, h4, h3, (h44.trans (congrArg Value.bool (by simp [hd4, hd10, hd16, hd23, ← hc, ← hc2, ← hc3, ← hc4]))), Hb_b4_, H_d_, hW, hsz⟩
      rintro ρ8 w8 ⟨h0, h8, h9, h10, h4, h3, h44, Hb_b4_, H_d_, hW, hsz⟩
      refine WP.cond rfl h44 (fun hb => ?_) (fun hb => ?_)
      · have hF := (if_pos hb).symm.trans hF
        refine WP.seq ?_
        refine WP.region mixed [[]] [[]] [[]] [] []
          [val 2 (.int .i64 1)] noG (by kernel_rfl)
          ⟨Stable.val _ _ _, trivial⟩
          ⟨fun ρz wz hE hA _ _ => core_val rfl rfl (o_assign rfl), trivial⟩ ?_
        intro ρ14 w14 hE hN hf hr
        have hN := hN rfl
        have h2 : ρ14 2 = .int .i64 1 := hf 0 rfl
        have hW := hW.trans hN
        have hsz := Nat.le_trans hsz hN.size
        refine WP.ret ?_
        show retQ Tryd.prog 81 Tryd.f27 (fun v w1 => v = .int .i64 r ∧ Ext noG w0 w1) .ret ρ14 w14
        obtain rfl := Option.some.inj hF
        exact res1 rfl (by decide) h2 ⟨rfl, hW⟩
      · have hF := (if_neg (Bool.eq_false_iff.1 hb)).symm.trans hF
        refine WP.skip ?_
        refine WP.seq ?_
        obtain ⟨c7, hc7, hF⟩ := obind hF
        refine WP.via (fun ρ w => ρ 0 = v_d_ ∧ ρ 8 = v_d_ ∧ ρ 9 = .int .i64 (d_.length : Int) ∧ ρ 10 = .int .i64 x ∧ ρ 79 = .bool c7 ∧ RepSl Rate.R (gfr noG w0) w v_d_ d_ ∧ Ext noG w0 w ∧ w0.heap.size ≤ w.heap.size) ?_ ?_
        · rcases Bool.eq_false_or_eq_true (decide (0 < x)) with hd2 | hd2
          · have hc7 := (if_pos (by simp [hd2])).symm.trans hc7
            obtain ⟨y2, hy2, hc7⟩ := obind hc7
            obtain ⟨ay2, cy2, hvy2, hiy2, hAy2⟩ := RepSl.getF H_d_ hy2
            obtain ⟨c6, hc6, hc7⟩ := obind hc7
            have hc7 := Option.some.inj hc7
            rcases Bool.eq_false_or_eq_true (decide (y.Currency < y2.Currency)) with hd12 | hd12
            · have hc6 := (if_pos (by simp [hd2, hd12, ← hc7])).symm.trans hc6
              have hc6 := Option.some.inj hc6
              refine WP.region mixed [[], [0], [1], [2], [2], [2, 4], [2, 3, 5], [2, 6], [2, 7], [2], [2, 9], [2, 8, 10], [2, 11], [12], [12], [12], [12], [12], [12], [12], [12], [12], [12], [22], [22], [22], [22], [22], [22], [22], [22], [22], [12], [2, 12], [2, 33]] [[], [0], [1], [2], [2], [2, 4], [2, 3, 5], [2, 6], [2, 7], [2], [2, 9], [2, 8, 10], [2, 11], [12], [12], [12], [12], [12], [12], [12], [12], [12], [12], [22], [22], [22], [22], [22], [22], [22], [22], [22], [12], [2, 12], [2, 33]] [[3], [], [], [0], [3], [], [], [], [], [4], [], [], [], [], [], [], [], [], [], [], [], [], [], [], [], [], [], [], [], [], [], [], [], [], []] [] []
                [val 45 (.int .i64 x), val 46 (.bool (decide (0 < x))), val 47 (.bool true), val 48 (v_d_), val 49 (.int .i64 x), val 50 (.int .i64 (i64 (x - 1))), val 51 (.pointer (some (ay2.add (Int.toNat (i64 (x - 1)) * 4)))), val 52 (.pointer (some ((ay2.add (Int.toNat (i64 (x - 1)) * 4)).add 0))), val 53 (.int .i64 y2.Currency), val 54 (.pointer (some ((⟨b4_, 0, none⟩ : Addr).add 0))), val 55 (.int .i64 y.Currency), val 56 (.bool (decide (y.Currency < y2.Currency))), val 57 (.bool true), anyF 58, anyF 59, anyF 60, anyF 61, anyF 62, anyF 63, anyF 64, anyF 65, anyF 66, val 67 undef, anyF 68, anyF 69, anyF 70, anyF 71, anyF 72, anyF 73, anyF 74, anyF 75, anyF 76, anyF 77, val 78 (.bool true), val 79 (.bool true)] noG (by kernel_rfl)
                ⟨Stable.val _ _ _, Stable.val _ _ _, Stable.val _ _ _, Stable.val _ _ _, Stable.val _ _ _, Stable.val _ _ _, Stable.val _ _ _, Stable.val _ _ _, Stable.val _ _ _, Stable.val _ _ _, Stable.val _ _ _, Stable.val _ _ _, Stable.val _ _ _, Stable.any _ _, Stable.any _ _, Stable.any _ _, Stable.any _ _, Stable.any _ _, Stable.any _ _, Stable.any _ _, Stable.any _ _, Stable.any _ _, Stable.val _ _ _, Stable.any _ _, Stable.any _ _, Stable.any _ _, Stable.any _ _, Stable.any _ _, Stable.any _ _, Stable.any _ _, Stable.any _ _, Stable.any _ _, Stable.any _ _, Stable.val _ _ _, Stable.val _ _ _, trivial⟩
                ⟨fun ρz wz hE hA ⟨e3, _⟩ _ => core_val rfl rfl (o_move (e3.trans h3)),
     fun ρz wz hE hA _ ⟨u0, _⟩ => core_val rfl rfl (o_gtr u0 rfl rfl),
     fun ρz wz hE hA _ ⟨u1, _⟩ => core_valE rfl rfl (congrArg Value.bool hd2) (o_move u1),
     fun ρz wz hE hA ⟨e0, _⟩ ⟨u2, _⟩ => gYes rfl u2 (core_val rfl rfl (o_move (e0.trans h0))),
     fun ρz wz hE hA ⟨e3, _⟩ ⟨u2, _⟩ => gYes rfl u2 (core_val rfl rfl (o_move (e3.trans h3))),
     fun ρz wz hE hA _ ⟨u2, u4, _⟩ => gYes rfl u2 (core_val rfl rfl (o_sub u4 rfl rfl)),
     fun ρz wz hE hA _ ⟨u2, u3, u5, _⟩ => gYes rfl u2 (core_val rfl rfl (o_indexAddr (u3.trans hvy2) u5 (ia_26 hiy2))),
     fun ρz wz hE hA _ ⟨u2, u6, _⟩ => gYes rfl u2 (core_val rfl rfl (o_fieldAddr u6 (fa_57_0 _ _))),
     fun ρz wz hE hA _ ⟨u2, u7, _⟩ => gYes rfl u2 (core_val rfl rfl (o_load u7 (run_load1 (lr_3 _ _) (CA.sub ((hAy2.exn (hA rfl)).ca) 0 1)))),
     fun ρz wz hE hA ⟨e4, _⟩ ⟨u2, _⟩ => gYes rfl u2 (core_val rfl rfl (o_fieldAddr (e4.trans h4) (fa_57_0 _ _))),
     fun ρz wz hE hA _ ⟨u2, u9, _⟩ => gYes rfl u2 (core_val rfl rfl (o_load u9 (run_load1 (lr_3 _ _) (CA.sub ((Hb_b4_.exn (hA rfl)).ca) 0 1)))),
     fun ρz wz hE hA _ ⟨u2, u8, u10, _⟩ => gYes rfl u2 (core_val rfl rfl (o_gtr u8 u10 rfl)),
     fun ρz wz hE hA _ ⟨u2, u11, _⟩ => gYes rfl u2 (core_valE rfl rfl (congrArg Value.bool hd12) (o_move u11)),
     fun _ _ _ _ _ ⟨u12, _⟩ => gNo rfl u12 rfl trivial,
     fun _ _ _ _ _ ⟨u12, _⟩ => gNo rfl u12 rfl trivial,
     fun _ _ _ _ _ ⟨u12, _⟩ => gNo rfl u12 rfl trivial,
     fun _ _ _ _ _ ⟨u12, _⟩ => gNo rfl u12 rfl trivial,
     fun _ _ _ _ _ ⟨u12, _⟩ => gNo rfl u12 rfl trivial,
     fun _ _ _ _ _ ⟨u12, _⟩ => gNo rfl u12 rfl trivial,
     fun _ _ _ _ _ ⟨u12, _⟩ => gNo rfl u12 rfl trivial,
     fun _ _ _ _ _ ⟨u12, _⟩ => gNo rfl u12 rfl trivial,
     fun _ _ _ _ _ ⟨u12, _⟩ => gNo rfl u12 rfl trivial,
     fun _ _ _ _ _ ⟨u12, _⟩ => gNo rfl u12 rfl (upd_same _ _ _),
     fun _ _ _ _ _ ⟨u22, _⟩ => gOff rfl u22 trivial,
     fun _ _ _ _ _ ⟨u22, _⟩ => gOff rfl u22 trivial,
     fun _ _ _ _ _ ⟨u22, _⟩ => gOff rfl u22 trivial,
     fun _ _ _ _ _ ⟨u22, _⟩ => gOff rfl u22 trivial,
     fun _ _ _ _ _ ⟨u22, _⟩ => gOff rfl u22 trivial,
     fun _ _ _ _ _ ⟨u22, _⟩ => gOff rfl u22 trivial,
     fun _ _ _ _ _ ⟨u22, _⟩ => gOff rfl u22 trivial,
     fun _ _ _ _ _ ⟨u22, _⟩ => gOff rfl u22 trivial,
     fun _ _ _ _ _ ⟨u22, _⟩ => gOff rfl u22 trivial,
     fun _ _ _ _ _ ⟨u12, _⟩ => gNo rfl u12 rfl trivial,
     fun ρz wz hE hA _ ⟨u2, u12, _⟩ => gYes rfl u2 (core_val rfl rfl (o_pick_t u12 rfl)),
     fun ρz wz hE hA _ ⟨u2, u33, _⟩ => core_val rfl rfl (o_pick_t u2 u33), trivial⟩ ?_
              intro ρ16 w16 hE hN hf hr
              have hN := hN rfl
              have h0 := (hr 0 rfl).trans h0
              have h8 := (hr 8 rfl).trans h8
              have h9 := (hr 9 rfl).trans h9
              have h10 := (hr 10 rfl).trans h10
              have h79 : ρ16 79 = .bool true := hf 34 rfl
              have H_d__at0 := H_d_
              have H_d_ := H_d_.exn hN
              have hW := hW.trans hN
              have hsz := Nat.le_trans hsz hN.size
              exact ⟨h0, h8, h9, h10, (h79.trans (congrArg Value.bool (by simp [hd2, hd12, ← hc7, ← hc6]))), H_d_, hW, hsz⟩
            · have hc6 := (if_neg (Bool.eq_false_iff.1 (by simp [hd2, hd12, ← hc7]))).symm.trans hc6
              obtain ⟨y3, hy3, hc6⟩ := obind hc6
              obtain ⟨ay3, cy3, hvy3, hiy3, hAy3⟩ := RepSl.getF H_d_ hy3
              obtain ⟨c5, hc5, hc6⟩ := obind hc6
              have hc6 := Option.some.inj hc6
              rcases Bool.eq_false_or_eq_true (y3.Currency == y.Currency) with hd22 | hd22
              · have hc5 := (if_pos (by simp [hd2, hd12, hd22, ← hc7, ← hc6])).symm.trans hc5
                obtain ⟨y4, hy4, hc5⟩ := obind hc5
                obtain ⟨ay4, cy4, hvy4, hiy4, hAy4⟩ := RepSl.getF H_d_ hy4
                have hc5 := Option.some.inj hc5
                refine WP.region mixed [[], [0], [1], [2], [2], [2, 4], [2, 3, 5], [2, 6], [2, 7], [2], [2, 9], [2, 8, 10], [2, 11], [12], [12], [12, 14], [12, 13, 15], [12, 16], [12, 17], [12], [12, 19], [12, 18, 20], [12, 21], [22], [22], [22, 24], [22, 23, 25], [22, 26], [22, 27], [22], [22, 29], [22, 28, 30], [12, 22, 31], [2, 12, 32], [2, 33]] [[], [0], [1], [2], [2], [2, 4], [2, 3, 5], [2, 6], [2, 7], [2], [2, 9], [2, 8, 10], [2, 11], [12], [12], [12, 14], [12, 13, 15], [12, 16], [12, 17], [12], [12, 19], [12, 18, 20], [12, 21], [22], [22], [22, 24], [22, 23, 25], [22, 26], [22, 27], [22], [22, 29], [22, 28, 30], [12, 22, 31], [2, 12, 32], [2, 33]] [[3], [], [], [0], [3], [], [], [], [], [4], [], [], [], [0], [3], [], [], [], [], [4], [], [], [], [0], [3], [], [], [], [], [4], [], [], [], [], []] [] []
                  [val 45 (.int .i64 x), val 46 (.bool (decide (0 < x))), val 47 (.bool true), val 48 (v_d_), val 49 (.int .i64 x), val 50 (.int .i64 (i64 (x - 1))), val 51 (.pointer (some (ay2.add (Int.toNat (i64 (x - 1)) * 4)))), val 52 (.pointer (some ((ay2.add (Int.toNat (i64 (x - 1)) * 4)).add 0))), val 53 (.int .i64 y2.Currency), val 54 (.pointer (some ((⟨b4_, 0, none⟩ : Addr).add 0))), val 55 (.int .i64 y.Currency), val 56 (.bool (decide (y.Currency < y2.Currency))), val 57 (.bool false), val 58 (v_d_), val 59 (.int .i64 x), val 60 (.int .i64 (i64 (x - 1))), val 61 (.pointer (some (ay3.add (Int.toNat (i64 (x - 1)) * 4)))), val 62 (.pointer (some ((ay3.add (Int.toNat (i64 (x - 1)) * 4)).add 0))), val 63 (.int .i64 y3.Currency), val 64 (.pointer (some ((⟨b4_, 0, none⟩ : Addr).add 0))), val 65 (.int .i64 y.Currency), val 66 (.bool (y3.Currency == y.Currency)), val 67 (.bool true), val 68 (v_d_), val 69 (.int .i64 x), val 70 (.int .i64 (i64 (x - 1))), val 71 (.pointer (some (ay4.add (Int.toNat (i64 (x - 1)) * 4)))), val 72 (.pointer (some ((ay4.add (Int.toNat (i64 (x - 1)) * 4)).add 1))), val 73 (.int .i64 y4.Month), val 74 (.pointer (some ((⟨b4_, 0, none⟩ : Addr).add 1))), val 75 (.int .i64 y.Month), val 76 (.bool (decide (y.Month ≤ y4.Month))), val 77 (.bool (decide (y.Month ≤ y4.Month))), val 78 (.bool (decide (y.Month ≤ y4.Month))), val 79 (.bool (decide (y.Month ≤ y4.Month)))] noG (by kernel_rfl)
                  ⟨Stable.val _ _ _, Stable.val _ _ _, Stable.val _ _ _, Stable.val _ _ _, Stable.val _ _ _, Stable.val _ _ _, Stable.val _ _ _, Stable.val _ _ _, Stable.val _ _ _, Stable.val _ _ _, Stable.val _ _ _, Stable.val _ _ _, Stable.val _ _ _, Stable.val _ _ _, Stable.val _ _ _, Stable.val _ _ _, Stable.val _ _ _, Stable.val _ _ _, Stable.val _ _ _, Stable.val _ _ _, Stable.val _ _ _, Stable.val _ _ _, Stable.val _ _ _, Stable.val _ _ _, Stable.val _ _ _, Stable.val _ _ _, Stable.val _ _ _, Stable.val _ _ _, Stable.val _ _ _, Stable.val _ _ _, Stable.val _ _ _, Stable.val _ _ _, Stable.val _ _ _, Stable.val _ _ _, Stable.val _ _ _, trivial⟩
                  ⟨fun ρz wz hE hA ⟨e3, _⟩ _ => core_val rfl rfl (o_move (e3.trans h3)),
     fun ρz wz hE hA _ ⟨u0, _⟩ => core_val rfl rfl (o_gtr u0 rfl rfl),
     fun ρz wz hE hA _ ⟨u1, _⟩ => core_valE rfl rfl (congrArg Value.bool hd2) (o_move u1),
     fun ρz wz hE hA ⟨e0, _⟩ ⟨u2, _⟩ => gYes rfl u2 (core_val rfl rfl (o_move (e0.trans h0))),
     fun ρz wz hE hA ⟨e3, _⟩ ⟨u2, _⟩ => gYes rfl u2 (core_val rfl rfl (o_move (e3.trans h3))),
     fun ρz wz hE hA _ ⟨u2, u4, _⟩ => gYes rfl u2 (core_val rfl rfl (o_sub u4 rfl rfl)),
     fun ρz wz hE hA _ ⟨u2, u3, u5, _⟩ => gYes rfl u2 (core_val rfl rfl (o_indexAddr (u3.trans hvy2) u5 (ia_26 hiy2))),
     fun ρz wz hE hA _ ⟨u2, u6, _⟩ => gYes rfl u2 (core_val rfl rfl (o_fieldAddr u6 (fa_57_0 _ _))),
     fun ρz wz hE hA _ ⟨u2, u7, _⟩ => gYes rfl u2 (core_val rfl rfl (o_load u7 (run_load1 (lr_3 _ _) (CA.sub ((hAy2.exn (hA rfl)).ca) 0 1)))),
     fun ρz wz hE hA ⟨e4, _⟩ ⟨u2, _⟩ => gYes rfl u2 (core_val rfl rfl (o_fieldAddr (e4.trans h4) (fa_57_0 _ _))),
     fun ρz wz hE hA _ ⟨u2, u9, _⟩ => gYes rfl u2 (core_val rfl rfl (o_load u9 (run_load1 (lr_3 _ _) (CA.sub ((Hb_b4_.exn (hA rfl)).ca) 0 1)))),
     fun ρz wz hE hA _ ⟨u2, u8, u10, _⟩ => gYes rfl u2 (core_val rfl rfl (o_gtr u8 u10 rfl)),
     fun ρz wz hE hA _ ⟨u2, u11, _⟩ => gYes rfl u2 (core_valE rfl rfl (congrArg Value.bool hd12) (o_move u11)),
     fun ρz wz hE hA ⟨e0, _⟩ ⟨u12, _⟩ => gYes rfl u12 (core_val rfl rfl (o_move (e0.trans h0))),
     fun ρz wz hE hA ⟨e3, _⟩ ⟨u12, _⟩ => gYes rfl u12 (core_val rfl rfl (o_move (e3.trans h3))),
     fun ρz wz hE hA _ ⟨u12, u14, _⟩ => gYes rfl u12 (core_val rfl rfl (o_sub u14 rfl rfl)),
     fun ρz wz hE hA _ ⟨u12, u13, u15, _⟩ => gYes rfl u12 (core_val rfl rfl (o_indexAddr (u13.trans hvy3) u15 (ia_26 hiy3))),
     fun ρz wz hE hA _ ⟨u12, u16, _⟩ => gYes rfl u12 (core_val rfl rfl (o_fieldAddr u16 (fa_57_0 _ _))),
     fun ρz wz hE hA _ ⟨u12, u17, _⟩ => gYes rfl u12 (core_val rfl rfl (o_load u17 (run_load1 (lr_3 _ _) (CA.sub ((hAy3.exn (hA rfl)).ca) 0 1)))),
     fun ρz wz hE hA ⟨e4, _⟩ ⟨u12, _⟩ => gYes rfl u12 (core_val rfl rfl (o_fieldAddr (e4.trans h4) (fa_57_0 _ _))),
     fun ρz wz hE hA _ ⟨u12, u19, _⟩ => gYes rfl u12 (core_val rfl rfl (o_load u19 (run_load1 (lr_3 _ _) (CA.sub ((Hb_b4_.exn (hA rfl)).ca) 0 1)))),
     fun ρz wz hE hA _ ⟨u12, u18, u20, _⟩ => gYes rfl u12 (core_val rfl rfl (o_eql u18 u20 rfl)),
     fun ρz wz hE hA _ ⟨u12, u21, _⟩ => gYes rfl u12 (core_valE rfl rfl (congrArg Value.bool hd22) (o_move u21)),
     fun ρz wz hE hA ⟨e0, _⟩ ⟨u22, _⟩ => gYes rfl u22 (core_val rfl rfl (o_move (e0.trans h0))),
     fun ρz wz hE hA ⟨e3, _⟩ ⟨u22, _⟩ => gYes rfl u22 (core_val rfl rfl (o_move (e3.trans h3))),
     fun ρz wz hE hA _ ⟨u22, u24, _⟩ => gYes rfl u22 (core_val rfl rfl (o_sub u24 rfl rfl)),
     fun ρz wz hE hA _ ⟨u22, u23, u25, _⟩ => gYes rfl u22 (core_val rfl rfl (o_indexAddr (u23.trans hvy4) u25 (ia_26 hiy4))),
     fun ρz wz hE hA _ ⟨u22, u26, _⟩ => gYes rfl u22 (core_val rfl rfl (o_fieldAddr u26 (fa_57_1 _ _))),
     fun ρz wz hE hA _ ⟨u22, u27, _⟩ => gYes rfl u22 (core_val rfl rfl (o_load u27 (run_load1 (lr_3 _ _) (CA.sub ((hAy4.exn (hA rfl)).ca) 1 1)))),
     fun ρz wz hE hA ⟨e4, _⟩ ⟨u22, _⟩ => gYes rfl u22 (core_val rfl rfl (o_fieldAddr (e4.trans h4) (fa_57_1 _ _))),
     fun ρz wz hE hA _ ⟨u22, u29, _⟩ => gYes rfl u22 (core_val rfl rfl (o_load u29 (run_load1 (lr_3 _ _) (CA.sub ((Hb_b4_.exn (hA rfl)).ca) 1 1)))),
     fun ρz wz hE hA _ ⟨u22, u28, u30, _⟩ => gYes rfl u22 (core_val rfl rfl (o_geq u28 u30 rfl)),
     fun ρz wz hE hA _ ⟨u12, u22, u31, _⟩ => gYes rfl u12 (core_val rfl rfl (o_pick_t u22 u31)),
     fun ρz wz hE hA _ ⟨u2, u12, u32, _⟩ => gYes rfl u2 (core_val rfl rfl (o_pick_f u12 u32)),
     fun ρz wz hE hA _ ⟨u2, u33, _⟩ => core_val rfl rfl (o_pick_t u2 u33), trivial⟩ ?_
                intro ρ17 w17 hE hN hf hr
                have hN := hN rfl
                have h0 := (hr 0 rfl).trans h0
                have h8 := (hr 8 rfl).trans h8
                have h9 := (hr 9 rfl).trans h9
                have h10 := (hr 10 rfl).trans h10
                have h79 : ρ17 79 = .bool (decide (y.Month ≤ y4.Month)) := hf 34 rfl
                have H_d__at0 := H_d_
                have H_d_ := H_d_.exn hN
                have hW := hW.trans hN
                have hsz := Nat.le_trans hsz hN.size
                exact ⟨h0, h8, h9, h10, (h79.trans (congrArg Value.bool (by simp [hd2, hd12, hd22, ← hc7, ← hc6, ← hc5]))), H_d_, hW, hsz⟩
              · have hc5 := (if_neg (Bool.eq_false_iff.1 (by simp [hd2, hd12, hd22, ← hc7, ← hc6]))).symm.trans hc5
                have hc5 := Option.some.inj hc5
                refine WP.region mixed [[], [0], [1], [2], [2], [2, 4], [2, 3, 5], [2, 6], [2, 7], [2], [2, 9], [2, 8, 10], [2, 11], [12], [12], [12, 14], [12, 13, 15], [12, 16], [12, 17], [12], [12, 19], [12, 18, 20], [12, 21], [22], [22], [22], [22], [22], [22], [22], [22], [22], [12, 22], [2, 12, 32], [2, 33]] [[], [0], [1], [2], [2], [2, 4], [2, 3, 5], [2, 6], [2, 7], [2], [2, 9], [2, 8, 10], [2, 11], [12], [12], [12, 14], [12, 13, 15], [12, 16], [12, 17], [12], [12, 19], [12, 18, 20], [12, 21], [22], [22], [22], [22], [22], [22], [22], [22], [22], [12, 22], [2, 12, 32], [2, 33]] [[3], [], [], [0], [3], [], [], [], [], [4], [], [], [], [0], [3], [], [], [], [], [4], [], [], [], [], [], [], [], [], [], [], [], [], [], [], []] [] []
                  [val 45 (.int .i64 x), val 46 (.bool (decide (0 < x))), val 47 (.bool true), val 48 (v_d_), val 49 (.int .i64 x), val 50 (.int .i64 (i64 (x - 1))), val 51 (.pointer (some (ay2.add (Int.toNat (i64 (x - 1)) * 4)))), val 52 (.pointer (some ((ay2.add (Int.toNat (i64 (x - 1)) * 4)).add 0))), val 53 (.int .i64 y2.Currency), val 54 (.pointer (some ((⟨b4_, 0, none⟩ : Addr).add 0))), val 55 (.int .i64 y.Currency), val 56 (.bool (decide (y.Currency < y2.Currency))), val 57 (.bool false), val 58 (v_d_), val 59 (.int .i64 x), val 60 (.int .i64 (i64 (x - 1))), val 61 (.pointer (some (ay3.add (Int.toNat (i64 (x - 1)) * 4)))), val 62 (.pointer (some ((ay3.add (Int.toNat (i64 (x - 1)) * 4)).add 0))), val 63 (.int .i64 y3.Currency), val 64 (.pointer (some ((⟨b4_, 0, none⟩ : Addr).add 0))), val 65 (.int .i64 y.Currency), val 66 (.bool (y3.Currency == y.Currency)), val 67 (.bool false), anyF 68, anyF 69, anyF 70, anyF 71, anyF 72, anyF 73, anyF 74, anyF 75, anyF 76, val 77 (.bool false), val 78 (.bool false), val 79 (.bool false)] noG (by kernel_rfl)
                  ⟨Stable.val _ _ _, Stable.val _ _ _, Stable.val _ _ _, Stable.val _ _ _, Stable.val _ _ _, Stable.val _ _ _, Stable.val _ _ _, Stable.val _ _ _, Stable.val _ _ _, Stable.val _ _ _, Stable.val _ _ _, Stable.val _ _ _, Stable.val _ _ _, Stable.val _ _ _, Stable.val _ _ _, Stable.val _ _ _, Stable.val _ _ _, Stable.val _ _ _, Stable.val _ _ _, Stable.val _ _ _, Stable.val _ _ _, Stable.val _ _ _, Stable.val _ _ _, Stable.any _ _, Stable.any _ _, Stable.any _ _, Stable.any _ _, Stable.any _ _, Stable.any _ _, Stable.any _ _, Stable.any _ _, Stable.any _ _, Stable.val _ _ _, Stable.val _ _ _, Stable.val _ _ _, trivial⟩
                  ⟨fun ρz wz hE hA ⟨e3, _⟩ _ => core_val rfl rfl (o_move (e3.trans h3)),
     fun ρz wz hE hA _ ⟨u0, _⟩ => core_val rfl rfl (o_gtr u0 rfl rfl),
     fun ρz wz hE hA _ ⟨u1, _⟩ => core_valE rfl rfl (congrArg Value.bool hd2) (o_move u1),
     fun ρz wz hE hA ⟨e0, _⟩ ⟨u2, _⟩ => gYes rfl u2 (core_val rfl rfl (o_move (e0.trans h0))),
     fun ρz wz hE hA ⟨e3, _⟩ ⟨u2, _⟩ => gYes rfl u2 (core_val rfl rfl (o_move (e3.trans h3))),
     fun ρz wz hE hA _ ⟨u2, u4, _⟩ => gYes rfl u2 (core_val rfl rfl (o_sub u4 rfl rfl)),
     fun ρz wz hE hA _ ⟨u2, u3, u5, _⟩ => gYes rfl u2 (core_val rfl rfl (o_indexAddr (u3.trans hvy2) u5 (ia_26 hiy2))),
     fun ρz wz hE hA _ ⟨u2, u6, _⟩ => gYes rfl u2 (core_val rfl rfl (o_fieldAddr u6 (fa_57_0 _ _))),
     fun ρz wz hE hA _ ⟨u2, u7, _⟩ => gYes rfl u2 (core_val rfl rfl (o_load u7 (run_load1 (lr_3 _ _) (CA.sub ((hAy2.exn (hA rfl)).ca) 0 1)))),
     fun ρz wz hE hA ⟨e4, _⟩ ⟨u2, _⟩ => gYes rfl u2 (core_val rfl rfl (o_fieldAddr (e4.trans h4) (fa_57_0 _ _))),
     fun ρz wz hE hA _ ⟨u2, u9, _⟩ => gYes rfl u2 (core_val rfl rfl (o_load u9 (run_load1 (lr_3 _ _) (CA.sub ((Hb_b4_.exn (hA rfl)).ca) 0 1)))),
     fun ρz wz hE hA _ ⟨u2, u8, u10, _⟩ => gYes rfl u2 (core_val rfl rfl (o_gtr u8 u10 rfl)),
     fun ρz wz hE hA _ ⟨u2, u11, _⟩ => gYes rfl u2 (core_valE rfl rfl (congrArg Value.bool hd12) (o_move u11)),
     fun ρz wz hE hA ⟨e0, _⟩ ⟨u12, _⟩ => gYes rfl u12 (core_val rfl rfl (o_move (e0.trans h0))),
     fun ρz wz hE hA ⟨e3, _⟩ ⟨u12, _⟩ => gYes rfl u12 (core_val rfl rfl (o_move (e3.trans h3))),
     fun ρz wz hE hA _ ⟨u12, u14, _⟩ => gYes rfl u12 (core_val rfl rfl (o_sub u14 rfl rfl)),
     fun ρz wz hE hA _ ⟨u12, u13, u15, _⟩ => gYes rfl u12 (core_val rfl rfl (o_indexAddr (u13.trans hvy3) u15 (ia_26 hiy3))),
     fun ρz wz hE hA _ ⟨u12, u16, _⟩ => gYes rfl u12 (core_val rfl rfl (o_fieldAddr u16 (fa_57_0 _ _))),
     fun ρz wz hE hA _ ⟨u12, u17, _⟩ => gYes rfl u12 (core_val rfl rfl (o_load u17 (run_load1 (lr_3 _ _) (CA.sub ((hAy3.exn (hA rfl)).ca) 0 1)))),
     fun ρz wz hE hA ⟨e4, _⟩ ⟨u12, _⟩ => gYes rfl u12 (core_val rfl rfl (o_fieldAddr (e4.trans h4) (fa_57_0 _ _))),
     fun ρz wz hE hA _ ⟨u12, u19, _⟩ => gYes rfl u12 (core_val rfl rfl (o_load u19 (run_load1 (lr_3 _ _) (CA.sub ((Hb_b4_.exn (hA rfl)).ca) 0 1)))),
     fun ρz wz hE hA _ ⟨u12, u18, u20, _⟩ => gYes rfl u12 (core_val rfl rfl (o_eql u18 u20 rfl)),
     fun ρz wz hE hA _ ⟨u12, u21, _⟩ => gYes rfl u12 (core_valE rfl rfl (congrArg Value.bool hd22) (o_move u21)),
     fun _ _ _ _ _ ⟨u22, _⟩ => gNo rfl u22 rfl trivial,
     fun _ _ _ _ _ ⟨u22, _⟩ => gNo rfl u22 rfl trivial,
     fun _ _ _ _ _ ⟨u22, _⟩ => gNo rfl u22 rfl trivial,
     fun _ _ _ _ _ ⟨u22, _⟩ => gNo rfl u22 rfl trivial,
     fun _ _ _ _ _ ⟨u22, _⟩ => gNo rfl u22 rfl trivial,
     fun _ _ _ _ _ ⟨u22, _⟩ => gNo rfl u22 rfl trivial,
     fun _ _ _ _ _ ⟨u22, _⟩ => gNo rfl u22 rfl trivial,
     fun _ _ _ _ _ ⟨u22, _⟩ => gNo rfl u22 rfl trivial,
     fun _ _ _ _ _ ⟨u22, _⟩ => gNo rfl u22 rfl trivial,
     fun ρz wz hE hA _ ⟨u12, u22, _⟩ => gYes rfl u12 (core_val rfl rfl (o_pick_f u22 rfl)),
     fun ρz wz hE hA _ ⟨u2, u12, u32, _⟩ => gYes rfl u2 (core_val rfl rfl (o_pick_f u12 u32)),
     fun ρz wz hE hA _ ⟨u2, u33, _⟩ => core_val rfl rfl (o_pick_t u2 u33), trivial⟩ ?_
                intro ρ18 w18 hE hN hf hr
                have hN := hN rfl
                have h0 := (hr 0 rfl).trans h0
                have h8 := (hr 8 rfl).trans h8
                have h9 := (hr 9 rfl).trans h9
                have h10 := (hr 10 rfl).trans h10
                have h79 : ρ18 79 = .bool false := hf 34 rfl
                have H_d__at0 := H_d_
                have H_d_ := H_d_.exn hN
                have hW := hW.trans hN
                have hsz := Nat.le_trans hsz hN.size
                exact ⟨h0, h8, h9, h10, (h79.trans (congrArg Value.bool (by simp [hd2, hd12, hd22, ← hc7, ← hc6, ← hc5]))), H_d_, hW, hsz⟩
          · have hc7 := (if_neg (Bool.eq_false_iff.1 (by simp [hd2]))).symm.trans hc7
            have hc7 := Option.some.inj hc7
            refine WP.region mixed [[], [0], [1], [2], [2], [2], [2], [2], [2], [2], [2], [2], [2], [12], [12], [12], [12], [12], [12], [12], [12], [12], [12], [22], [22], [22], [22], [22], [22], [22], [22], [22], [12], [2], [2]] [[], [0], [1], [2], [2], [2], [2], [2], [2], [2], [2], [2], [2], [12], [12], [12], [12], [12], [12], [12], [12], [12], [12], [22], [22], [22], [22], [22], [22], [22], [22], [22], [12], [2], [2]] [[3], [], [], [], [], [], [], [], [], [], [], [], [], [], [], [], [], [], [], [], [], [], [], [], [], [], [], [], [], [], [], [], [], [], []] [] []
              [val 45 (.int .i64 x), val 46 (.bool (decide (0 < x))), val 47 (.bool false), anyF 48, anyF 49, anyF 50, anyF 51, anyF 52, anyF 53, anyF 54, anyF 55, anyF 56, val 57 undef, anyF 58, anyF 59, anyF 60, anyF 61, anyF 62, anyF 63, anyF 64, anyF 65, anyF 66, val 67 undef, anyF 68, anyF 69, anyF 70, anyF 71, anyF 72, anyF 73, anyF 74, anyF 75, anyF 76, anyF 77, anyF 78, val 79 (.bool false)] noG (by kernel_rfl)
              ⟨Stable.val _ _ _, Stable.val _ _ _, Stable.val _ _ _, Stable.any _ _, Stable.any _ _, Stable.any _ _, Stable.any _ _, Stable.any _ _, Stable.any _ _, Stable.any _ _, Stable.any _ _, Stable.any _ _, Stable.val _ _ _, Stable.any _ _, Stable.any _ _, Stable.any _ _, Stable.any _ _, Stable.any _ _, Stable.any _ _, Stable.any _ _, Stable.any _ _, Stable.any _ _, Stable.val _ _ _, Stable.any _ _, Stable.any _ _, Stable.any _ _, Stable.any _ _, Stable.any _ _, Stable.any _ _, Stable.any _ _, Stable.any _ _, Stable.any _ _, Stable.any _ _, Stable.any _ _, Stable.val _ _ _, trivial⟩
              ⟨fun ρz wz hE hA ⟨e3, _⟩ _ => core_val rfl rfl (o_move (e3.trans h3)),
     fun ρz wz hE hA _ ⟨u0, _⟩ => core_val rfl rfl (o_gtr u0 rfl rfl),
     fun ρz wz hE hA _ ⟨u1, _⟩ => core_valE rfl rfl (congrArg Value.bool hd2) (o_move u1),
     fun _ _ _ _ _ ⟨u2, _⟩ => gNo rfl u2 rfl trivial,
     fun _ _ _ _ _ ⟨u2, _⟩ => gNo rfl u2 rfl trivial,
     fun _ _ _ _ _ ⟨u2, _⟩ => gNo rfl u2 rfl trivial,
     fun _ _ _ _ _ ⟨u2, _⟩ => gNo rfl u2 rfl trivial,
     fun _ _ _ _ _ ⟨u2, _⟩ => gNo rfl u2 rfl trivial,
     fun _ _ _ _ _ ⟨u2, _⟩ => gNo rfl u2 rfl trivial,
     fun _ _ _ _ _ ⟨u2, _⟩ => gNo rfl u2 rfl trivial,
     fun _ _ _ _ _ ⟨u2, _⟩ => gNo rfl u2 rfl trivial,
     fun _ _ _ _ _ ⟨u2, _⟩ => gNo rfl u2 rfl trivial,
     fun _ _ _ _ _ ⟨u2, _⟩ => gNo rfl u2 rfl (upd_same _ _ _),
     fun _ _ _ _ _ ⟨u12, _⟩ => gOff rfl u12 trivial,
     fun _ _ _ _ _ ⟨u12, _⟩ => gOff rfl u12 trivial,
     fun _ _ _ _ _ ⟨u12, _⟩ => gOff rfl u12 trivial,
     fun _ _ _ _ _ ⟨u12, _⟩ => gOff rfl u12 trivial,
     fun _ _ _ _ _ ⟨u12, _⟩ => gOff rfl u12 trivial,
     fun _ _ _ _ _ ⟨u12, _⟩ => gOff rfl u12 trivial,
     fun _ _ _ _ _ ⟨u12, _⟩ => gOff rfl u12 trivial,
     fun _ _ _ _ _ ⟨u12, _⟩ => gOff rfl u12 trivial,
     fun _ _ _ _ _ ⟨u12, _⟩ => gOff rfl u12 trivial,
     fun _ _ _ _ _ ⟨u12, _⟩ => gOff rfl u12 (upd_same _ _ _),
     fun _ _ _ _ _ ⟨u22, _⟩ => gOff rfl u22 trivial,
     fun _ _ _ _ _ ⟨u22, _⟩ => gOff rfl u22 trivial,
     fun _ _ _ _ _ ⟨u22, _⟩ => gOff rfl u22 trivial,
     fun _ _ _ _ _ ⟨u22, _⟩ => gOff rfl u22 trivial,
     fun _ _ _ _ _ ⟨u22, _⟩ => gOff rfl u22 trivial,
     fun _ _ _ _ _ ⟨u22, _⟩ => gOff rfl u22 trivial,
     fun _ _ _ _ _ ⟨u22, _⟩ => gOff rfl u22 trivial,
     fun _ _ _ _ _ ⟨u22, _⟩ => gOff rfl u22 trivial,
     fun _ _ _ _ _ ⟨u22, _⟩ => gOff rfl u22 trivial,
     fun _ _ _ _ _ ⟨u12, _⟩ => gOff rfl u12 trivial,
     fun _ _ _ _ _ ⟨u2, _⟩ => gNo rfl u2 rfl trivial,
     fun ρz wz hE hA _ ⟨u2, _⟩ => core_val rfl rfl (o_pick_f u2 rfl), trivial⟩ ?_
            intro ρ19 w19 hE hN hf hr
            have hN := hN rfl
            have h0 := (hr 0 rfl).trans h0
            have h8 := (hr 8 rfl).trans h8
            have h9 := (hr 9 rfl).trans h9
            have h10 := (hr 10 rfl).trans h10
            have h79 : ρ19 79 = .bool false := hf 34 rfl
            have H_d__at0 := H_d_
            have H_d_ := H_d_.exn hN
            have hW := hW.trans hN
            have hsz := Nat.le_trans hsz hN.size
            exact ⟨h0, h8, h9, h10, (h79.trans (congrArg Value.bool (by simp [hd2, ← hc7]))), H_d_, hW, hsz⟩
        rintro ρ15 w15 ⟨h0, h8, h9, h10, h79, H_d_, hW, hsz⟩
        refine WP.cond rfl h79 (fun hb => ?_) (fun hb => ?_)
        · have hF := (if_pos hb).symm.trans hF
          refine WP.seq ?_
          refine WP.region mixed [[]] [[]] [[]] [] []
            [val 2 (.int .i64 1)] noG (by kernel_rfl)
            ⟨Stable.val _ _ _, trivial⟩
            ⟨fun ρz wz hE hA _ _ => core_val rfl rfl (o_assign rfl), trivial⟩ ?_
          intro ρ20 w20 hE hN hf hr
          have hN := hN rfl
          have h2 : ρ20 2 = .int .i64 1 := hf 0 rfl
          have hW := hW.trans hN
          have hsz := Nat.le_trans hsz hN.size
          refine WP.ret ?_
          show retQ Tryd.prog 81 Tryd.f27 (fun v w1 => v = .int .i64 r ∧ Ext noG w0 w1) .ret ρ20 w20
          obtain rfl := Option.some.inj hF
          exact res1 rfl (by decide) h2 ⟨rfl, hW⟩
        · have hF := (if_neg (Bool.eq_false_iff.1 hb)).symm.trans hF
          refine WP.skip ?_
          refine WP.region mixed [[], [0]] [[], [0]] [[10], []] [] []
            [val 80 (.int .i64 (i64 (x + 1))), val 10 (.int .i64 (i64 (x + 1)))] noG (by kernel_rfl)
            ⟨Stable.val _ _ _, Stable.val _ _ _, trivial⟩
            ⟨fun ρz wz hE hA ⟨e10, _⟩ _ => core_val rfl rfl (o_add (e10.trans h10) rfl rfl),
     fun ρz wz hE hA _ ⟨u0, _⟩ => core_val rfl rfl (o_move u0), trivial⟩ ?_
          intro ρ21 w21 hE hN hf hr
          have hN := hN rfl
          have h0 := (hr 0 rfl).trans h0
          have h8 := (hr 8 rfl).trans h8
          have h9 := (hr 9 rfl).trans h9
          have h10 : ρ21 10 = .int .i64 (i64 (x + 1)) := hf 1 rfl
          have H_d__at0 := H_d_
          have H_d_ := H_d_.exn hN
          have hW := hW.trans hN
          have hsz := Nat.le_trans hsz hN.size
          exact ⟨i64 (x + 1), h0, h8, h9, h10, H_d_, hW, hsz, (by first | exact hF | (rw [hrec_]; exact hF))⟩
    · have hF := (if_neg (Bool.eq_false_iff.1 hb)).symm.trans hF
      refine WP.exit ?_
      refine thenQ_exit ?_
      refine thenQ_exit ?_
      refine blockQ_hit ?_
      refine WP.seq ?_
      refine WP.region mixed [[]] [[]] [[]] [] []
        [val 2 (.int .i64 0)] noG (by kernel_rfl)
        ⟨Stable.val _ _ _, trivial⟩
        ⟨fun ρz wz hE hA _ _ => core_val rfl rfl (o_assign rfl), trivial⟩ ?_
      intro ρ22 w22 hE hN hf hr
      have hN := hN rfl
      have h2 : ρ22 2 = .int .i64 0 := hf 0 rfl
      have hW := hW.trans hN
      have hsz := Nat.le_trans hsz hN.size
      refine WP.ret ?_
      show retQ Tryd.prog 81 Tryd.f27 (fun v w1 => v = .int .i64 r ∧ Ext noG w0 w1) .ret ρ22 w22
      obtain rfl := Option.some.inj hF
      exact res1 rfl (by decide) h2 ⟨rfl, hW⟩

set_option maxHeartbeats 4000000 in
theorem pensionref1_ValidMonth_ok {w0 : World} (month_ : Int) {r : Bool} (hF : pensionref1_ValidMonth month_ = some r) :
    Calls Tryd.prog 19 #[.int .i64 month_] w0 fun e w1 => e = .returned (.bool r) ∧ Ext noG w0 w1 := by
  refine (Calls.start (P := Tryd.prog) (args := [.int .i64 month_]) (R := fun v w1 => v = .bool r ∧ Ext noG w0 w1) (n := 9) (w := w0) Tryd.func19 rfl rfl (Nat.le_of_ble_eq_true rfl) (fun ρ hargs => ?_)).mono (fun e w1 ⟨v, he, hv, hE⟩ => ⟨hv ▸ he, hE⟩)
  have h0 := hargs 0 _ rfl
  have hW := Ext.refl noG w0
  have hsz := Nat.le_refl w0.heap.size
  rw [pensionref1_ValidMonth] at hF
  refine WP.seq ?_
  refine WP.region mixed [[]] [[]] [[]] [] []
    [val 2 (.bool false)] noG (by kernel_rfl)
    ⟨Stable.val _ _ _, trivial⟩
    ⟨fun ρz wz hE hA _ _ => core_val rfl rfl (o_assign rfl), trivial⟩ ?_
  intro ρ1 w1 hE hN hf hr
  have hN := hN rfl
  have h0 := (hr 0 rfl).trans h0
  have hW := hW.trans hN
  have hsz := Nat.le_trans hsz hN.size
  refine WP.seq ?_
  refine WP.via (fun ρ w => ρ 2 = .bool (decide (0 ≤ month_) && decide (month_ ≤ 2399)) ∧ Ext noG w0 w ∧ w0.heap.size ≤ w.heap.size) ?_ ?_
  · rcases Bool.eq_false_or_eq_true (decide (0 ≤ month_)) with hd2 | hd2
    · refine WP.region mixed [[], [0], [1], [2], [2, 3], [2, 4], [5]] [[], [0], [1], [2], [2, 3], [2, 4], [5]] [[0], [], [], [0], [], [], []] [] []
        [val 3 (.int .i64 month_), val 4 (.bool (decide (0 ≤ month_))), val 5 (.bool true), val 6 (.int .i64 month_), val 7 (.bool (decide (month_ ≤ 2399))), val 8 (.bool (decide (month_ ≤ 2399))), val 2 (.bool (decide (month_ ≤ 2399)))] noG (by kernel_rfl)
        ⟨Stable.val _ _ _, Stable.val _ _ _, Stable.val _ _ _, Stable.val _ _ _, Stable.val _ _ _, Stable.val _ _ _, Stable.val _ _ _, trivial⟩
        ⟨fun ρz wz hE hA ⟨e0, _⟩ _ => core_val rfl rfl (o_move (e0.trans h0)),
     fun ρz wz hE hA _ ⟨u0, _⟩ => core_val rfl rfl (o_geq u0 rfl rfl),
     fun ρz wz hE hA _ ⟨u1, _⟩ => core_valE rfl rfl (congrArg Value.bool hd2) (o_move u1),
     fun ρz wz hE hA ⟨e0, _⟩ ⟨u2, _⟩ => gYes rfl u2 (core_val rfl rfl (o_move (e0.trans h0))),
     fun ρz wz hE hA _ ⟨u2, u3, _⟩ => gYes rfl u2 (core_val rfl rfl (o_leq u3 rfl rfl)),
     fun ρz wz hE hA _ ⟨u2, u4, _⟩ => core_val rfl rfl (o_pick_t u2 u4),
     fun ρz wz hE hA _ ⟨u5, _⟩ => core_val rfl rfl (o_assign u5), trivial⟩ ?_
      intro ρ3 w3 hE hN hf hr
      have hN := hN rfl
      have h2 : ρ3 2 = .bool (decide (month_ ≤ 2399)) := hf 6 rfl
      have hW := hW.trans hN
      have hsz := Nat.le_trans hsz hN.size
      exact ⟨(h2.trans (congrArg Value.bool (by simp [hd2]))), hW, hsz⟩
    · refine WP.region mixed [[], [0], [1], [2], [2], [2], [5]] [[], [0], [1], [2], [2], [2], [5]] [[0], [], [], [], [], [], []] [] []
        [val 3 (.int .i64 month_), val 4 (.bool (decide (0 ≤ month_))), val 5 (.bool false), anyF 6, anyF 7, val 8 (.bool false), val 2 (.bool false)] noG (by kernel_rfl)
        ⟨Stable.val _ _ _, Stable.val _ _ _, Stable.val _ _ _, Stable.any _ _, Stable.any _ _, Stable.val _ _ _, Stable.val _ _ _, trivial⟩
        ⟨fun ρz wz hE hA ⟨e0, _⟩ _ => core_val rfl rfl (o_move (e0.trans h0)),
     fun ρz wz hE hA _ ⟨u0, _⟩ => core_val rfl rfl (o_geq u0 rfl rfl),
     fun ρz wz hE hA _ ⟨u1, _⟩ => core_valE rfl rfl (congrArg Value.bool hd2) (o_move u1),
     fun _ _ _ _ _ ⟨u2, _⟩ => gNo rfl u2 rfl trivial,
     fun _ _ _ _ _ ⟨u2, _⟩ => gNo rfl u2 rfl trivial,
     fun ρz wz hE hA _ ⟨u2, _⟩ => core_val rfl rfl (o_pick_f u2 rfl),
     fun ρz wz hE hA _ ⟨u5, _⟩ => core_val rfl rfl (o_assign u5), trivial⟩ ?_
      intro ρ4 w4 hE hN hf hr
      have hN := hN rfl
      have h2 : ρ4 2 = .bool false := hf 6 rfl
      have hW := hW.trans hN
      have hsz := Nat.le_trans hsz hN.size
      exact ⟨(h2.trans (congrArg Value.bool (by simp [hd2]))), hW, hsz⟩
  rintro ρ2 w2 ⟨h2, hW, hsz⟩
  refine WP.ret ?_
  show retQ Tryd.prog 9 Tryd.f19 (fun v w1 => v = .bool r ∧ Ext noG w0 w1) .ret ρ2 w2
  obtain rfl := Option.some.inj hF
  exact res1 rfl (by decide) h2 ⟨rfl, hW⟩

set_option maxHeartbeats 4000000 in
theorem pensionref1_gcd_ok {w0 : World} (a_ : Int) (b_ : Int) {r : Int} (hF : pensionref1_gcd a_ b_ = some r) :
    Calls Tryd.prog 54 #[.int .u64 a_, .int .u64 b_] w0 fun e w1 => e = .returned (.int .u64 r) ∧ Ext noG w0 w1 := by
  refine (Calls.start (P := Tryd.prog) (args := [.int .u64 a_, .int .u64 b_]) (R := fun v w1 => v = .int .u64 r ∧ Ext noG w0 w1) (n := 12) (w := w0) Tryd.func54 rfl rfl (Nat.le_of_ble_eq_true rfl) (fun ρ hargs => ?_)).mono (fun e w1 ⟨v, he, hv, hE⟩ => ⟨hv ▸ he, hE⟩)
  have h0 := hargs 0 _ rfl
  have h1 := hargs 1 _ rfl
  have hW := Ext.refl noG w0
  have hsz := Nat.le_refl w0.heap.size
  rw [pensionref1_gcd] at hF
  refine WP.seq ?_
  refine WP.region mixed [[]] [[]] [[]] [] []
    [val 4 (.int .u64 0)] noG (by kernel_rfl)
    ⟨Stable.val _ _ _, trivial⟩
    ⟨fun ρz wz hE hA _ _ => core_val rfl rfl (o_assign rfl), trivial⟩ ?_
  intro ρ1 w1 hE hN hf hr
  have hN := hN rfl
  have h0 := (hr 0 rfl).trans h0
  have h1 := (hr 1 rfl).trans h1
  have hW := hW.trans hN
  have hsz := Nat.le_trans hsz hN.size
  refine WP.seq ?_
  refine WP.block ?_
  refine WP.loop (fun k_ ρ w => ∃ a_2 : Int, ∃ b_2 : Int, ρ 0 = .int .u64 a_2 ∧ ρ 1 = .int .u64 b_2 ∧ Ext noG w0 w ∧ w0.heap.size ≤ w.heap.size ∧ loopC k_ pensionref1_gcd_l (a_2, b_2) = some r) FU ⟨a_, b_, h0, h1, hW, hsz, hF⟩ (fun _ _ h => by obtain ⟨_, _, _, _, _, _, h⟩ := h; cases h) ?_
  rintro k_ ρ2 w2 ⟨a_2, b_2, h0, h1, hW, hsz, hF⟩
  have hF : pensionref1_gcd_l (loopC k_ pensionref1_gcd_l) (a_2, b_2) = some r := hF
  generalize hrec_ : loopC k_ pensionref1_gcd_l = rec_ at hF
  rw [pensionref1_gcd_l] at hF
  refine WP.seq ?_
  refine WP.seq ?_
  refine WP.region mixed [[], [0]] [[], [0]] [[1], []] [] []
    [val 5 (.int .u64 b_2), val 6 (.bool (b_2 != 0))] noG (by kernel_rfl)
    ⟨Stable.val _ _ _, Stable.val _ _ _, trivial⟩
    ⟨fun ρz wz hE hA ⟨e1, _⟩ _ => core_val rfl rfl (o_move (e1.trans h1)),
     fun ρz wz hE hA _ ⟨u0, _⟩ => core_val rfl rfl (o_neq u0 rfl rfl), trivial⟩ ?_
  intro ρ3 w3 hE hN hf hr
  have hN := hN rfl
  have h0 := (hr 0 rfl).trans h0
  have h1 := (hr 1 rfl).trans h1
  have h6 : ρ3 6 = .bool (b_2 != 0) := hf 1 rfl
  have hW := hW.trans hN
  have hsz := Nat.le_trans hsz hN.size
  refine WP.cond rfl h6 (fun hb => ?_) (fun hb => ?_)
  · have hF := (if_pos hb).symm.trans hF
    refine WP.skip ?_
    refine WP.block ?_
    obtain ⟨q, hq, hF⟩ := obind hF
    refine WP.region mixed [[], [], [], [1, 2], [0, 1], [0, 2, 3]] [[], [], [], [1, 2], [0], [3]] [[1], [0], [1], [], [], []] [] []
      [val 7 (.int .u64 b_2), val 8 (.int .u64 a_2), val 9 (.int .u64 b_2), val 10 (.int .u64 q), val 0 (.int .u64 b_2), val 1 (.int .u64 q)] noG (by kernel_rfl)
      ⟨Stable.val _ _ _, Stable.val _ _ _, Stable.val _ _ _, Stable.val _ _ _, Stable.val _ _ _, Stable.val _ _ _, trivial⟩
      ⟨fun ρz wz hE hA ⟨e1, _⟩ _ => core_val rfl rfl (o_move (e1.trans h1)),
     fun ρz wz hE hA ⟨e0, _⟩ _ => core_val rfl rfl (o_move (e0.trans h0)),
     fun ρz wz hE hA ⟨e1, _⟩ _ => core_val rfl rfl (o_move (e1.trans h1)),
     fun ρz wz hE hA _ ⟨u1, u2, _⟩ => core_val rfl rfl (o_rem u1 u2 (remI_some hq).1 (remI_some hq).2),
     fun ρz wz hE hA _ ⟨u0, _⟩ => core_val rfl rfl (o_assign u0),
     fun ρz wz hE hA _ ⟨u3, _⟩ => core_val rfl rfl (o_assign u3), trivial⟩ ?_
    intro ρ4 w4 hE hN hf hr
    have hN := hN rfl
    have h0 : ρ4 0 = .int .u64 b_2 := hf 4 rfl
    have h1 : ρ4 1 = .int .u64 q := hf 5 rfl
    have hW := hW.trans hN
    have hsz := Nat.le_trans hsz hN.size
    exact ⟨b_2, q, h0, h1, hW, hsz, (by first | exact hF | (rw [hrec_]; exact hF))⟩
  · have hF := (if_neg (Bool.eq_false_iff.1 hb)).symm.trans hF
    refine WP.exit ?_
    refine thenQ_exit ?_
    refine thenQ_exit ?_
    refine blockQ_hit ?_
    refine WP.seq ?_
    refine WP.region mixed [[], [0]] [[], [0]] [[0], []] [] []
      [val 11 (.int .u64 a_2), val 4 (.int .u64 a_2)] noG (by kernel_rfl)
      ⟨Stable.val _ _ _, Stable.val _ _ _, trivial⟩
      ⟨fun ρz wz hE hA ⟨e0, _⟩ _ => core_val rfl rfl (o_move (e0.trans h0)),
     fun ρz wz hE hA _ ⟨u0, _⟩ => core_val rfl rfl (o_assign u0), trivial⟩ ?_
    intro ρ5 w5 hE hN hf hr
    have hN := hN rfl
    have h4 : ρ5 4 = .int .u64 a_2 := hf 1 rfl
    have hW := hW.trans hN
    have hsz := Nat.le_trans hsz hN.size
    refine WP.ret ?_
    show retQ Tryd.prog 12 Tryd.f54 (fun v w1 => v = .int .u64 r ∧ Ext noG w0 w1) .ret ρ5 w5
    obtain rfl := Option.some.inj hF
    exact res1 rfl (by decide) h4 ⟨rfl, hW⟩

set_option maxHeartbeats 4000000 in
theorem pensionref1_size_ok {w0 : World} (n_ : Int) {r : Int} (hF : pensionref1_size n_ = some r) :
    Calls Tryd.prog 55 #[.int .i64 n_] w0 fun e w1 => e = .returned (.int .u64 r) ∧ Ext noG w0 w1 := by
  refine (Calls.start (P := Tryd.prog) (args := [.int .i64 n_]) (R := fun v w1 => v = .int .u64 r ∧ Ext noG w0 w1) (n := 12) (w := w0) Tryd.func55 rfl rfl (Nat.le_of_ble_eq_true rfl) (fun ρ hargs => ?_)).mono (fun e w1 ⟨v, he, hv, hE⟩ => ⟨hv ▸ he, hE⟩)
  have h0 := hargs 0 _ rfl
  have hW := Ext.refl noG w0
  have hsz := Nat.le_refl w0.heap.size
  rw [pensionref1_size] at hF
  refine WP.seq ?_
  refine WP.region mixed [[]] [[]] [[]] [] []
    [val 2 (.int .u64 0)] noG (by kernel_rfl)
    ⟨Stable.val _ _ _, trivial⟩
    ⟨fun ρz wz hE hA _ _ => core_val rfl rfl (o_assign rfl), trivial⟩ ?_
  intro ρ1 w1 hE hN hf hr
  have hN := hN rfl
  have h0 := (hr 0 rfl).trans h0
  have hW := hW.trans hN
  have hsz := Nat.le_trans hsz hN.size
  refine WP.seq ?_
  refine WP.seq ?_
  refine WP.region mixed [[], [0]] [[], [0]] [[0], []] [] []
    [val 3 (.int .i64 n_), val 4 (.bool (decide (n_ < 0)))] noG (by kernel_rfl)
    ⟨Stable.val _ _ _, Stable.val _ _ _, trivial⟩
    ⟨fun ρz wz hE hA ⟨e0, _⟩ _ => core_val rfl rfl (o_move (e0.trans h0)),
     fun ρz wz hE hA _ ⟨u0, _⟩ => core_val rfl rfl (o_lss u0 rfl rfl), trivial⟩ ?_
  intro ρ2 w2 hE hN hf hr
  have hN := hN rfl
  have h0 := (hr 0 rfl).trans h0
  have h4 : ρ2 4 = .bool (decide (n_ < 0)) := hf 1 rfl
  have hW := hW.trans hN
  have hsz := Nat.le_trans hsz hN.size
  refine WP.cond rfl h4 (fun hb => ?_) (fun hb => ?_)
  · have hF := (if_pos hb).symm.trans hF
    refine WP.seq ?_
    refine WP.region mixed [[], [0], [1], [2], [3], [4]] [[], [0], [1], [2], [3], [4]] [[0], [], [], [], [], []] [] []
      [val 5 (.int .i64 n_), val 6 (.int .i64 (i64 (n_ + 1))), val 7 (.int .i64 (i64 (-(i64 (n_ + 1))))), val 8 (.int .u64 (u64 (i64 (-(i64 (n_ + 1)))))), val 9 (.int .u64 (u64 (u64 (i64 (-(i64 (n_ + 1)))) + 1))), val 2 (.int .u64 (u64 (u64 (i64 (-(i64 (n_ + 1)))) + 1)))] noG (by kernel_rfl)
      ⟨Stable.val _ _ _, Stable.val _ _ _, Stable.val _ _ _, Stable.val _ _ _, Stable.val _ _ _, Stable.val _ _ _, trivial⟩
      ⟨fun ρz wz hE hA ⟨e0, _⟩ _ => core_val rfl rfl (o_move (e0.trans h0)),
     fun ρz wz hE hA _ ⟨u0, _⟩ => core_val rfl rfl (o_add u0 rfl rfl),
     fun ρz wz hE hA _ ⟨u1, _⟩ => core_val rfl rfl (o_neg u1 rfl),
     fun ρz wz hE hA _ ⟨u2, _⟩ => core_val rfl rfl (o_conv u2 (cv_3_62 _ _)),
     fun ρz wz hE hA _ ⟨u3, _⟩ => core_val rfl rfl (o_add u3 rfl rfl),
     fun ρz wz hE hA _ ⟨u4, _⟩ => core_val rfl rfl (o_assign u4), trivial⟩ ?_
    intro ρ3 w3 hE hN hf hr
    have hN := hN rfl
    have h2 : ρ3 2 = .int .u64 (u64 (u64 (i64 (-(i64 (n_ + 1)))) + 1)) := hf 5 rfl
    have hW := hW.trans hN
    have hsz := Nat.le_trans hsz hN.size
    refine WP.ret ?_
    show retQ Tryd.prog 12 Tryd.f55 (fun v w1 => v = .int .u64 r ∧ Ext noG w0 w1) .ret ρ3 w3
    obtain rfl := Option.some.inj hF
    exact res1 rfl (by decide) h2 ⟨rfl, hW⟩
  · have hF := (if_neg (Bool.eq_false_iff.1 hb)).symm.trans hF
    refine WP.skip ?_
    refine WP.seq ?_
    refine WP.region mixed [[], [0], [1]] [[], [0], [1]] [[0], [], []] [] []
      [val 10 (.int .i64 n_), val 11 (.int .u64 (u64 n_)), val 2 (.int .u64 (u64 n_))] noG (by kernel_rfl)
      ⟨Stable.val _ _ _, Stable.val _ _ _, Stable.val _ _ _, trivial⟩
      ⟨fun ρz wz hE hA ⟨e0, _⟩ _ => core_val rfl rfl (o_move (e0.trans h0)),
     fun ρz wz hE hA _ ⟨u0, _⟩ => core_val rfl rfl (o_conv u0 (cv_3_62 _ _)),
     fun ρz wz hE hA _ ⟨u1, _⟩ => core_val rfl rfl (o_assign u1), trivial⟩ ?_
    intro ρ4 w4 hE hN hf hr
    have hN := hN rfl
    have h2 : ρ4 2 = .int .u64 (u64 n_) := hf 2 rfl
    have hW := hW.trans hN
    have hsz := Nat.le_trans hsz hN.size
    refine WP.ret ?_
    show retQ Tryd.prog 12 Tryd.f55 (fun v w1 => v = .int .u64 r ∧ Ext noG w0 w1) .ret ρ4 w4
    obtain rfl := Option.some.inj hF
    exact res1 rfl (by decide) h2 ⟨rfl, hW⟩

set_option maxHeartbeats 4000000 in
theorem pensionref1_ValidFraction_ok {w0 : World} (f_ : Fraction) {r : Bool} (hF : pensionref1_ValidFraction f_ = some r) :
    Calls Tryd.prog 37 #[Fraction.val f_] w0 fun e w1 => e = .returned (.bool r) ∧ Ext noG w0 w1 := by
  refine (Calls.start (P := Tryd.prog) (args := [Fraction.val f_]) (R := fun v w1 => v = .bool r ∧ Ext noG w0 w1) (n := 31) (w := w0) Tryd.func37 rfl rfl (Nat.le_of_ble_eq_true rfl) (fun ρ hargs => ?_)).mono (fun e w1 ⟨v, he, hv, hE⟩ => ⟨hv ▸ he, hE⟩)
  have h0 := hargs 0 _ rfl
  have hW := Ext.refl noG w0
  have hsz := Nat.le_refl w0.heap.size
  rw [pensionref1_ValidFraction] at hF
  refine WP.seq ?_
  refine WP.region mixed [[], []] [[], []] [[0], []] [] []
    [(1, fun u wz => ∃ b, u = .pointer (some ⟨b, 0, none⟩) ∧ w0.heap.size ≤ b ∧ Mb wz b 54 (Fraction.cells f_)), val 2 (.bool false)] noG (by kernel_rfl)
    ⟨fun _ _ _ hE ⟨b, hb, hs, hM⟩ => ⟨b, hb, hs, hM.exn hE⟩, Stable.val _ _ _, trivial⟩
    ⟨fun ρz wz hE hA ⟨e0, _⟩ _ => core_new rfl rfl hE (o_box (e0.trans h0) (bx_54 _ _)),
     fun ρz wz hE hA _ _ => core_val rfl rfl (o_assign rfl), trivial⟩ ?_
  intro ρ1 w1 hE hN hf hr
  have hN := hN rfl
  obtain ⟨b1_, h1, hge_b1_, Hb_b1_⟩ := hf 0 rfl
  have hW := hW.trans hN
  have hB_b1_ : w0.heap.size ≤ b1_ := Nat.le_trans hsz hge_b1_
  have hsz := Nat.le_trans hsz hN.size
  refine WP.seq ?_
  obtain ⟨c, hc, hF⟩ := obind hF
  refine WP.via (fun ρ w => ρ 2 = .bool c ∧ Ext noG w0 w ∧ w0.heap.size ≤ w.heap.size) ?_ ?_
  · rcases Bool.eq_false_or_eq_true (decide (1 ≤ f_.Den)) with hd3 | hd3
    · rcases Bool.eq_false_or_eq_true (decide (f_.Den ≤ 1000000000)) with hd8 | hd8
      · rcases Bool.eq_false_or_eq_true (decide ((-1000000000000000) ≤ f_.Num)) with hd13 | hd13
        · rcases Bool.eq_false_or_eq_true (decide (f_.Num ≤ 1000000000000000)) with hd18 | hd18
          · have hc := (if_pos (by simp [hd3, hd8, hd13, hd18])).symm.trans hc
            obtain ⟨z, hz, hc⟩ := obind hc
            obtain ⟨z2, hz2, hc⟩ := obind hc
            have hc := Option.some.inj hc
            refine WP.region mixed [[], [0], [1], [2], [3], [3, 4], [3, 5], [3, 6], [7], [8], [8, 9], [8, 10], [8, 11], [12], [13], [13, 14], [13, 15], [13, 16], [17], [18], [18, 19], [18, 20], [18], [18, 22], [18, 23], [18, 21, 24], [18, 25], [18, 26], [27]] [[], [0], [1], [2], [3], [3, 4], [3, 5], [3, 6], [7], [8], [8, 9], [8, 10], [8, 11], [12], [13], [13, 14], [13, 15], [13, 16], [17], [18], [18, 19], [18, 20], [18], [18, 22], [18, 23], [18, 21, 24], [18, 25], [18, 26], [27]] [[1], [], [], [], [1], [], [], [], [], [1], [], [], [], [], [1], [], [], [], [], [1], [], [], [1], [], [], [], [], [], []] [] []
              [val 3 (.pointer (some ((⟨b1_, 0, none⟩ : Addr).add 1))), val 4 (.int .i64 f_.Den), val 5 (.bool (decide (1 ≤ f_.Den))), val 6 (.bool true), val 7 (.pointer (some ((⟨b1_, 0, none⟩ : Addr).add 1))), val 8 (.int .i64 f_.Den), val 9 (.bool (decide (f_.Den ≤ 1000000000))), val 10 (.bool (decide (f_.Den ≤ 1000000000))), val 11 (.bool true), val 12 (.pointer (some ((⟨b1_, 0, none⟩ : Addr).add 0))), val 13 (.int .i64 f_.Num), val 14 (.bool (decide ((-1000000000000000) ≤ f_.Num))), val 15 (.bool (decide ((-1000000000000000) ≤ f_.Num))), val 16 (.bool true), val 17 (.pointer (some ((⟨b1_, 0, none⟩ : Addr).add 0))), val 18 (.int .i64 f_.Num), val 19 (.bool (decide (f_.Num ≤ 1000000000000000))), val 20 (.bool (decide (f_.Num ≤ 1000000000000000))), val 21 (.bool true), val 22 (.pointer (some ((⟨b1_, 0, none⟩ : Addr).add 0))), val 23 (.int .i64 f_.Num), val 24 (.int .u64 z), val 25 (.pointer (some ((⟨b1_, 0, none⟩ : Addr).add 1))), val 26 (.int .i64 f_.Den), val 27 (.int .u64 (u64 f_.Den)), val 28 (.int .u64 z2), val 29 (.bool (z2 == 1)), val 30 (.bool (z2 == 1)), val 2 (.bool (z2 == 1))] noG (by kernel_rfl)
              ⟨Stable.val _ _ _, Stable.val _ _ _, Stable.val _ _ _, Stable.val _ _ _, Stable.val _ _ _, Stable.val _ _ _, Stable.val _ _ _, Stable.val _ _ _, Stable.val _ _ _, Stable.val _ _ _, Stable.val _ _ _, Stable.val _ _ _, Stable.val _ _ _, Stable.val _ _ _, Stable.val _ _ _, Stable.val _ _ _, Stable.val _ _ _, Stable.val _ _ _, Stable.val _ _ _, Stable.val _ _ _, Stable.val _ _ _, Stable.val _ _ _, Stable.val _ _ _, Stable.val _ _ _, Stable.val _ _ _, Stable.val _ _ _, Stable.val _ _ _, Stable.val _ _ _, Stable.val _ _ _, trivial⟩
              ⟨fun ρz wz hE hA ⟨e1, _⟩ _ => core_val rfl rfl (o_fieldAddr (e1.trans h1) (fa_54_1 _ _)),
     fun ρz wz hE hA _ ⟨u0, _⟩ => core_val rfl rfl (o_load u0 (run_load1 (lr_3 _ _) (CA.sub ((Hb_b1_.exn (hA rfl)).ca) 1 1))),
     fun ρz wz hE hA _ ⟨u1, _⟩ => core_val rfl rfl (o_geq u1 rfl rfl),
     fun ρz wz hE hA _ ⟨u2, _⟩ => core_valE rfl rfl (congrArg Value.bool hd3) (o_move u2),
     fun ρz wz hE hA ⟨e1, _⟩ ⟨u3, _⟩ => gYes rfl u3 (core_val rfl rfl (o_fieldAddr (e1.trans h1) (fa_54_1 _ _))),
     fun ρz wz hE hA _ ⟨u3, u4, _⟩ => gYes rfl u3 (core_val rfl rfl (o_load u4 (run_load1 (lr_3 _ _) (CA.sub ((Hb_b1_.exn (hA rfl)).ca) 1 1)))),
     fun ρz wz hE hA _ ⟨u3, u5, _⟩ => gYes rfl u3 (core_val rfl rfl (o_leq u5 rfl rfl)),
     fun ρz wz hE hA _ ⟨u3, u6, _⟩ => core_val rfl rfl (o_pick_t u3 u6),
     fun ρz wz hE hA _ ⟨u7, _⟩ => core_valE rfl rfl (congrArg Value.bool hd8) (o_move u7),
     fun ρz wz hE hA ⟨e1, _⟩ ⟨u8, _⟩ => gYes rfl u8 (core_val rfl rfl (o_fieldAddr (e1.trans h1) (fa_54_0 _ _))),
     fun ρz wz hE hA _ ⟨u8, u9, _⟩ => gYes rfl u8 (core_val rfl rfl (o_load u9 (run_load1 (lr_3 _ _) (CA.sub ((Hb_b1_.exn (hA rfl)).ca) 0 1)))),
     fun ρz wz hE hA _ ⟨u8, u10, _⟩ => gYes rfl u8 (core_val rfl rfl (o_geq u10 rfl rfl)),
     fun ρz wz hE hA _ ⟨u8, u11, _⟩ => core_val rfl rfl (o_pick_t u8 u11),
     fun ρz wz hE hA _ ⟨u12, _⟩ => core_valE rfl rfl (congrArg Value.bool hd13) (o_move u12),
     fun ρz wz hE hA ⟨e1, _⟩ ⟨u13, _⟩ => gYes rfl u13 (core_val rfl rfl (o_fieldAddr (e1.trans h1) (fa_54_0 _ _))),
     fun ρz wz hE hA _ ⟨u13, u14, _⟩ => gYes rfl u13 (core_val rfl rfl (o_load u14 (run_load1 (lr_3 _ _) (CA.sub ((Hb_b1_.exn (hA rfl)).ca) 0 1)))),
     fun ρz wz hE hA _ ⟨u13, u15, _⟩ => gYes rfl u13 (core_val rfl rfl (o_leq u15 rfl rfl)),
     fun ρz wz hE hA _ ⟨u13, u16, _⟩ => core_val rfl rfl (o_pick_t u13 u16),
     fun ρz wz hE hA _ ⟨u17, _⟩ => core_valE rfl rfl (congrArg Value.bool hd18) (o_move u17),
     fun ρz wz hE hA ⟨e1, _⟩ ⟨u18, _⟩ => gYes rfl u18 (core_val rfl rfl (o_fieldAddr (e1.trans h1) (fa_54_0 _ _))),
     fun ρz wz hE hA _ ⟨u18, u19, _⟩ => gYes rfl u18 (core_val rfl rfl (o_load u19 (run_load1 (lr_3 _ _) (CA.sub ((Hb_b1_.exn (hA rfl)).ca) 0 1)))),
     fun ρz wz hE hA _ ⟨u18, u20, _⟩ => gYes rfl u18 (core_call rfl (call_args1 u20) cf_55 (pensionref1_size_ok  _  hz)),
     fun ρz wz hE hA ⟨e1, _⟩ ⟨u18, _⟩ => gYes rfl u18 (core_val rfl rfl (o_fieldAddr (e1.trans h1) (fa_54_1 _ _))),
     fun ρz wz hE hA _ ⟨u18, u22, _⟩ => gYes rfl u18 (core_val rfl rfl (o_load u22 (run_load1 (lr_3 _ _) (CA.sub ((Hb_b1_.exn (hA rfl)).ca) 1 1)))),
     fun ρz wz hE hA _ ⟨u18, u23, _⟩ => gYes rfl u18 (core_val rfl rfl (o_conv u23 (cv_3_62 _ _))),
     fun ρz wz hE hA _ ⟨u18, u21, u24, _⟩ => gYes rfl u18 (core_call rfl (call_args2 u21 u24) cf_54 (pensionref1_gcd_ok  _ _  hz2)),
     fun ρz wz hE hA _ ⟨u18, u25, _⟩ => gYes rfl u18 (core_val rfl rfl (o_eql u25 rfl rfl)),
     fun ρz wz hE hA _ ⟨u18, u26, _⟩ => core_val rfl rfl (o_pick_t u18 u26),
     fun ρz wz hE hA _ ⟨u27, _⟩ => core_val rfl rfl (o_assign u27), trivial⟩ ?_
            intro ρ3 w3 hE hN hf hr
            have hN := hN rfl
            have h2 : ρ3 2 = .bool (z2 == 1) := hf 28 rfl
            have hW := hW.trans hN
            have hsz := Nat.le_trans hsz hN.size
            exact ⟨(h2.trans (congrArg Value.bool (by simp [hd3, hd8, hd13, hd18, ← hc]))), hW, hsz⟩
          · have hc := (if_neg (Bool.eq_false_iff.1 (by simp [hd3, hd8, hd13, hd18]))).symm.trans hc
            have hc := Option.some.inj hc
            refine WP.region mixed [[], [0], [1], [2], [3], [3, 4], [3, 5], [3, 6], [7], [8], [8, 9], [8, 10], [8, 11], [12], [13], [13, 14], [13, 15], [13, 16], [17], [18], [18], [18], [18], [18], [18], [18], [18], [18], [27]] [[], [0], [1], [2], [3], [3, 4], [3, 5], [3, 6], [7], [8], [8, 9], [8, 10], [8, 11], [12], [13], [13, 14], [13, 15], [13, 16], [17], [18], [18], [18], [18], [18], [18], [18], [18], [18], [27]] [[1], [], [], [], [1], [], [], [], [], [1], [], [], [], [], [1], [], [], [], [], [], [], [], [], [], [], [], [], [], []] [] []
              [val 3 (.pointer (some ((⟨b1_, 0, none⟩ : Addr).add 1))), val 4 (.int .i64 f_.Den), val 5 (.bool (decide (1 ≤ f_.Den))), val 6 (.bool true), val 7 (.pointer (some ((⟨b1_, 0, none⟩ : Addr).add 1))), val 8 (.int .i64 f_.Den), val 9 (.bool (decide (f_.Den ≤ 1000000000))), val 10 (.bool (decide (f_.Den ≤ 1000000000))), val 11 (.bool true), val 12 (.pointer (some ((⟨b1_, 0, none⟩ : Addr).add 0))), val 13 (.int .i64 f_.Num), val 14 (.bool (decide ((-1000000000000000) ≤ f_.Num))), val 15 (.bool (decide ((-1000000000000000) ≤ f_.Num))), val 16 (.bool true), val 17 (.pointer (some ((⟨b1_, 0, none⟩ : Addr).add 0))), val 18 (.int .i64 f_.Num), val 19 (.bool (decide (f_.Num ≤ 1000000000000000))), val 20 (.bool (decide (f_.Num ≤ 1000000000000000))), val 21 (.bool false), anyF 22, anyF 23, anyF 24, anyF 25, anyF 26, anyF 27, anyF 28, anyF 29, val 30 (.bool false), val 2 (.bool false)] noG (by kernel_rfl)
              ⟨Stable.val _ _ _, Stable.val _ _ _, Stable.val _ _ _, Stable.val _ _ _, Stable.val _ _ _, Stable.val _ _ _, Stable.val _ _ _, Stable.val _ _ _, Stable.val _ _ _, Stable.val _ _ _, Stable.val _ _ _, Stable.val _ _ _, Stable.val _ _ _, Stable.val _ _ _, Stable.val _ _ _, Stable.val _ _ _, Stable.val _ _ _, Stable.val _ _ _, Stable.val _ _ _, Stable.any _ _, Stable.any _ _, Stable.any _ _, Stable.any _ _, Stable.any _ _, Stable.any _ _, Stable.any _ _, Stable.any _ _, Stable.val _ _ _, Stable.val _ _ _, trivial⟩
              ⟨fun ρz wz hE hA ⟨e1, _⟩ _ => core_val rfl rfl (o_fieldAddr (e1.trans h1) (fa_54_1 _ _)),
     fun ρz wz hE hA _ ⟨u0, _⟩ => core_val rfl rfl (o_load u0 (run_load1 (lr_3 _ _) (CA.sub ((Hb_b1_.exn (hA rfl)).ca) 1 1))),
     fun ρz wz hE hA _ ⟨u1, _⟩ => core_val rfl rfl (o_geq u1 rfl rfl),
     fun ρz wz hE hA _ ⟨u2, _⟩ => core_valE rfl rfl (congrArg Value.bool hd3) (o_move u2),
     fun ρz wz hE hA ⟨e1, _⟩ ⟨u3, _⟩ => gYes rfl u3 (core_val rfl rfl (o_fieldAddr (e1.trans h1) (fa_54_1 _ _))),
     fun ρz wz hE hA _ ⟨u3, u4, _⟩ => gYes rfl u3 (core_val rfl rfl (o_load u4 (run_load1 (lr_3 _ _) (CA.sub ((Hb_b1_.exn (hA rfl)).ca) 1 1)))),
     fun ρz wz hE hA _ ⟨u3, u5, _⟩ => gYes rfl u3 (core_val rfl rfl (o_leq u5 rfl rfl)),
     fun ρz wz hE hA _ ⟨u3, u6, _⟩ => core_val rfl rfl (o_pick_t u3 u6),
     fun ρz wz hE hA _ ⟨u7, _⟩ => core_valE rfl rfl (congrArg Value.bool hd8) (o_move u7),
     fun ρz wz hE hA ⟨e1, _⟩ ⟨u8, _⟩ => gYes rfl u8 (core_val rfl rfl (o_fieldAddr (e1.trans h1) (fa_54_0 _ _))),
     fun ρz wz hE hA _ ⟨u8, u9, _⟩ => gYes rfl u8 (core_val rfl rfl (o_load u9 (run_load1 (lr_3 _ _) (CA.sub ((Hb_b1_.exn (hA rfl)).ca) 0 1)))),
     fun ρz wz hE hA _ ⟨u8, u10, _⟩ => gYes rfl u8 (core_val rfl rfl (o_geq u10 rfl rfl)),
     fun ρz wz hE hA _ ⟨u8, u11, _⟩ => core_val rfl rfl (o_pick_t u8 u11),
     fun ρz wz hE hA _ ⟨u12, _⟩ => core_valE rfl rfl (congrArg Value.bool hd13) (o_move u12),
     fun ρz wz hE hA ⟨e1, _⟩ ⟨u13, _⟩ => gYes rfl u13 (core_val rfl rfl (o_fieldAddr (e1.trans h1) (fa_54_0 _ _))),
     fun ρz wz hE hA _ ⟨u13, u14, _⟩ => gYes rfl u13 (core_val rfl rfl (o_load u14 (run_load1 (lr_3 _ _) (CA.sub ((Hb_b1_.exn (hA rfl)).ca) 0 1)))),
     fun ρz wz hE hA _ ⟨u13, u15, _⟩ => gYes rfl u13 (core_val rfl rfl (o_leq u15 rfl rfl)),
     fun ρz wz hE hA _ ⟨u13, u16, _⟩ => core_val rfl rfl (o_pick_t u13 u16),
     fun ρz wz hE hA _ ⟨u17, _⟩ => core_valE rfl rfl (congrArg Value.bool hd18) (o_move u17),
     fun _ _ _ _ _ ⟨u18, _⟩ => gNo rfl u18 rfl trivial,
     fun _ _ _ _ _ ⟨u18, _⟩ => gNo rfl u18 rfl trivial,
     fun _ _ _ _ _ ⟨u18, _⟩ => gNo rfl u18 rfl trivial,
     fun _ _ _ _ _ ⟨u18, _⟩ => gNo rfl u18 rfl trivial,
     fun _ _ _ _ _ ⟨u18, _⟩ => gNo rfl u18 rfl trivial,
     fun _ _ _ _ _ ⟨u18, _⟩ => gNo rfl u18 rfl trivial,
     fun _ _ _ _ _ ⟨u18, _⟩ => gNo rfl u18 rfl trivial,
     fun _ _ _ _ _ ⟨u18, _⟩ => gNo rfl u18 rfl trivial,
     fun ρz wz hE hA _ ⟨u18, _⟩ => core_val rfl rfl (o_pick_f u18 rfl),
     fun ρz wz hE hA _ ⟨u27, _⟩ => core_val rfl rfl (o_assign u27), trivial⟩ ?_
            intro ρ4 w4 hE hN hf hr
            have hN := hN rfl
            have h2 : ρ4 2 = .bool false := hf 28 rfl
            have hW := hW.trans hN
            have hsz := Nat.le_trans hsz hN.size
            exact ⟨(h2.trans (congrArg Value.bool (by simp [hd3, hd8, hd13, hd18, ← hc]))), hW, hsz⟩
        · have hc := (if_neg (Bool.eq_false_iff.1 (by simp [hd3, hd8, hd13]))).symm.trans hc
          have hc := Option.some.inj hc
          refine WP.region mixed [[], [0], [1], [2], [3], [3, 4], [3, 5], [3, 6], [7], [8], [8, 9], [8, 10], [8, 11], [12], [13], [13], [13], [13], [17], [18], [18], [18], [18], [18], [18], [18], [18], [18], [27]] [[], [0], [1], [2], [3], [3, 4], [3, 5], [3, 6], [7], [8], [8, 9], [8, 10], [8, 11], [12], [13], [13], [13], [13], [17], [18], [18], [18], [18], [18], [18], [18], [18], [18], [27]] [[1], [], [], [], [1], [], [], [], [], [1], [], [], [], [], [], [], [], [], [], [], [], [], [], [], [], [], [], [], []] [] []
            [val 3 (.pointer (some ((⟨b1_, 0, none⟩ : Addr).add 1))), val 4 (.int .i64 f_.Den), val 5 (.bool (decide (1 ≤ f_.Den))), val 6 (.bool true), val 7 (.pointer (some ((⟨b1_, 0, none⟩ : Addr).add 1))), val 8 (.int .i64 f_.Den), val 9 (.bool (decide (f_.Den ≤ 1000000000))), val 10 (.bool (decide (f_.Den ≤ 1000000000))), val 11 (.bool true), val 12 (.pointer (some ((⟨b1_, 0, none⟩ : Addr).add 0))), val 13 (.int .i64 f_.Num), val 14 (.bool (decide ((-1000000000000000) ≤ f_.Num))), val 15 (.bool (decide ((-1000000000000000) ≤ f_.Num))), val 16 (.bool false), anyF 17, anyF 18, anyF 19, val 20 (.bool false), val 21 (.bool false), anyF 22, anyF 23, anyF 24, anyF 25, anyF 26, anyF 27, anyF 28, anyF 29, val 30 (.bool false), val 2 (.bool false)] noG (by kernel_rfl)
            ⟨Stable.val _ _ _, Stable.val _ _ _, Stable.val _ _ _, Stable.val _ _ _, Stable.val _ _ _, Stable.val _ _ _, Stable.val _ _ _, Stable.val _ _ _, Stable.val _ _ _, Stable.val _ _ _, Stable.val _ _ _, Stable.val _ _ _, Stable.val _ _ _, Stable.val _ _ _, Stable.any _ _, Stable.any _ _, Stable.any _ _, Stable.val _ _ _, Stable.val _ _ _, Stable.any _ _, Stable.any _ _, Stable.any _ _, Stable.any _ _, Stable.any _ _, Stable.any _ _, Stable.any _ _, Stable.any _ _, Stable.val _ _ _, Stable.val _ _ _, trivial⟩
            ⟨fun ρz wz hE hA ⟨e1, _⟩ _ => core_val rfl rfl (o_fieldAddr (e1.trans h1) (fa_54_1 _ _)),
     fun ρz wz hE hA _ ⟨u0, _⟩ => core_val rfl rfl (o_load u0 (run_load1 (lr_3 _ _) (CA.sub ((Hb_b1_.exn (hA rfl)).ca) 1 1))),
     fun ρz wz hE hA _ ⟨u1, _⟩ => core_val rfl rfl (o_geq u1 rfl rfl),
     fun ρz wz hE hA _ ⟨u2, _⟩ => core_valE rfl rfl (congrArg Value.bool hd3) (o_move u2),
     fun ρz wz hE hA ⟨e1, _⟩ ⟨u3, _⟩ => gYes rfl u3 (core_val rfl rfl (o_fieldAddr (e1.trans h1) (fa_54_1 _ _))),
     fun ρz wz hE hA _ ⟨u3, u4, _⟩ => gYes rfl u3 (core_val rfl rfl (o_load u4 (run_load1 (lr_3 _ _) (CA.sub ((Hb_b1_.exn (hA rfl)).ca) 1 1)))),
     fun ρz wz hE hA _ ⟨u3, u5, _⟩ => gYes rfl u3 (core_val rfl rfl (o_leq u5 rfl rfl)),
     fun ρz wz hE hA _ ⟨u3, u6, _⟩ => core_val rfl rfl (o_pick_t u3 u6),
     fun ρz wz hE hA _ ⟨u7, _⟩ => core_valE rfl rfl (congrArg Value.bool hd8) (o_move u7),
     fun ρz wz hE hA ⟨e1, _⟩ ⟨u8, _⟩ => gYes rfl u8 (core_val rfl rfl (o_fieldAddr (e1.trans h1) (fa_54_0 _ _))),
     fun ρz wz hE hA _ ⟨u8, u9, _⟩ => gYes rfl u8 (core_val rfl rfl (o_load u9 (run_load1 (lr_3 _ _) (CA.sub ((Hb_b1_.exn (hA rfl)).ca) 0 1)))),
     fun ρz wz hE hA _ ⟨u8, u10, _⟩ => gYes rfl u8 (core_val rfl rfl (o_geq u10 rfl rfl)),
     fun ρz wz hE hA _ ⟨u8, u11, _⟩ => core_val rfl rfl (o_pick_t u8 u11),
     fun ρz wz hE hA _ ⟨u12, _⟩ => core_valE rfl rfl (congrArg Value.bool hd13) (o_move u12),
     fun _ _ _ _ _ ⟨u13, _⟩ => gNo rfl u13 rfl trivial,
     fun _ _ _ _ _ ⟨u13, _⟩ => gNo rfl u13 rfl trivial,
     fun _ _ _ _ _ ⟨u13, _⟩ => gNo rfl u13 rfl trivial,
     fun ρz wz hE hA _ ⟨u13, _⟩ => core_val rfl rfl (o_pick_f u13 rfl),
     fun ρz wz hE hA _ ⟨u17, _⟩ => core_val rfl rfl (o_move u17),
     fun _ _ _ _ _ ⟨u18, _⟩ => gNo rfl u18 rfl trivial,
     fun _ _ _ _ _ ⟨u18, _⟩ => gNo rfl u18 rfl trivial,
     fun _ _ _ _ _ ⟨u18, _⟩ => gNo rfl u18 rfl trivial,
     fun _ _ _ _ _ ⟨u18, _⟩ => gNo rfl u18 rfl trivial,
     fun _ _ _ _ _ ⟨u18, _⟩ => gNo rfl u18 rfl trivial,
     fun _ _ _ _ _ ⟨u18, _⟩ => gNo rfl u18 rfl trivial,
     fun _ _ _ _ _ ⟨u18, _⟩ => gNo rfl u18 rfl trivial,
     fun _ _ _ _ _ ⟨u18, _⟩ => gNo rfl u18 rfl trivial,
     fun ρz wz hE hA _ ⟨u18, _⟩ => core_val rfl rfl (o_pick_f u18 rfl),
     fun ρz wz hE hA _ ⟨u27, _⟩ => core_val rfl rfl (o_assign u27), trivial⟩ ?_
          intro ρ5 w5 hE hN hf hr
          have hN := hN rfl
          have h2 : ρ5 2 = .bool false := hf 28 rfl
          have hW := hW.trans hN
          have hsz := Nat.le_trans hsz hN.size
          exact ⟨(h2.trans (congrArg Value.bool (by simp [hd3, hd8, hd13, ← hc]))), hW, hsz⟩
      · have hc := (if_neg (Bool.eq_false_iff.1 (by simp [hd3, hd8]))).symm.trans hc
        have hc := Option.some.inj hc
        refine WP.region mixed [[], [0], [1], [2], [3], [3, 4], [3, 5], [3, 6], [7], [8], [8], [8], [8], [12], [13], [13], [13], [13], [17], [18], [18], [18], [18], [18], [18], [18], [18], [18], [27]] [[], [0], [1], [2], [3], [3, 4], [3, 5], [3, 6], [7], [8], [8], [8], [8], [12], [13], [13], [13], [13], [17], [18], [18], [18], [18], [18], [18], [18], [18], [18], [27]] [[1], [], [], [], [1], [], [], [], [], [], [], [], [], [], [], [], [], [], [], [], [], [], [], [], [], [], [], [], []] [] []
          [val 3 (.pointer (some ((⟨b1_, 0, none⟩ : Addr).add 1))), val 4 (.int .i64 f_.Den), val 5 (.bool (decide (1 ≤ f_.Den))), val 6 (.bool true), val 7 (.pointer (some ((⟨b1_, 0, none⟩ : Addr).add 1))), val 8 (.int .i64 f_.Den), val 9 (.bool (decide (f_.Den ≤ 1000000000))), val 10 (.bool (decide (f_.Den ≤ 1000000000))), val 11 (.bool false), anyF 12, anyF 13, anyF 14, val 15 (.bool false), val 16 (.bool false), anyF 17, anyF 18, anyF 19, val 20 (.bool false), val 21 (.bool false), anyF 22, anyF 23, anyF 24, anyF 25, anyF 26, anyF 27, anyF 28, anyF 29, val 30 (.bool false), val 2 (.bool false)] noG (by kernel_rfl)
          ⟨Stable.val _ _ _, Stable.val _ _ _, Stable.val _ _ _, Stable.val _ _ _, Stable.val _ _ _, Stable.val _ _ _, Stable.val _ _ _, Stable.val _ _ _, Stable.val _ _ _, Stable.any _ _, Stable.any _ _, Stable.any _ _, Stable.val _ _ _, Stable.val _ _ _, Stable.any _ _, Stable.any _ _, Stable.any _ _, Stable.val _ _ _, Stable.val _ _ _, Stable.any _ _, Stable.any _ _, Stable.any _ _, Stable.any _ _, Stable.any _ _, Stable.any _ _, Stable.any _ _, Stable.any _ _, Stable.val _ _ _, Stable.val _ _ _, trivial⟩
          ⟨fun ρz wz hE hA ⟨e1, _⟩ _ => core_val rfl rfl (o_fieldAddr (e1.trans h1) (fa_54_1 _ _)),
     fun ρz wz hE hA _ ⟨u0, _⟩ => core_val rfl rfl (o_load u0 (run_load1 (lr_3 _ _) (CA.sub ((Hb_b1_.exn (hA rfl)).ca) 1 1))),
     fun ρz wz hE hA _ ⟨u1, _⟩ => core_val rfl rfl (o_geq u1 rfl rfl),
     fun ρz wz hE hA _ ⟨u2, _⟩ => core_valE rfl rfl (congrArg Value.bool hd3) (o_move u2),
     fun ρz wz hE hA ⟨e1, _⟩ ⟨u3, _⟩ => gYes rfl u3 (core_val rfl rfl (o_fieldAddr (e1.trans h1) (fa_54_1 _ _))),
     fun ρz wz hE hA _ ⟨u3, u4, _⟩ => gYes rfl u3 (core_val rfl rfl (o_load u4 (run_load1 (lr_3 _ _) (CA.sub ((Hb_b1_.exn (hA rfl)).ca) 1 1)))),
     fun ρz wz hE hA _ ⟨u3, u5, _⟩ => gYes rfl u3 (core_val rfl rfl (o_leq u5 rfl rfl)),
     fun ρz wz hE hA _ ⟨u3, u6, _⟩ => core_val rfl rfl (o_pick_t u3 u6),
     fun ρz wz hE hA _ ⟨u7, _⟩ => core_valE rfl rfl (congrArg Value.bool hd8) (o_move u7),
     fun _ _ _ _ _ ⟨u8, _⟩ => gNo rfl u8 rfl trivial,
     fun _ _ _ _ _ ⟨u8, _⟩ => gNo rfl u8 rfl trivial,
     fun _ _ _ _ _ ⟨u8, _⟩ => gNo rfl u8 rfl trivial,
     fun ρz wz hE hA _ ⟨u8, _⟩ => core_val rfl rfl (o_pick_f u8 rfl),
     fun ρz wz hE hA _ ⟨u12, _⟩ => core_val rfl rfl (o_move u12),
     fun _ _ _ _ _ ⟨u13, _⟩ => gNo rfl u13 rfl trivial,
     fun _ _ _ _ _ ⟨u13, _⟩ => gNo rfl u13 rfl trivial,
     fun _ _ _ _ _ ⟨u13, _⟩ => gNo rfl u13 rfl trivial,
     fun ρz wz hE hA _ ⟨u13, _⟩ => core_val rfl rfl (o_pick_f u13 rfl),
     fun ρz wz hE hA _ ⟨u17, _⟩ => core_val rfl rfl (o_move u17),
     fun _ _ _ _ _ ⟨u18, _⟩ => gNo rfl u18 rfl trivial,
     fun _ _ _ _ _ ⟨u18, _⟩ => gNo rfl u18 rfl trivial,
     fun _ _ _ _ _ ⟨u18, _⟩ => gNo rfl u18 rfl trivial,
     fun _ _ _ _ _ ⟨u18, _⟩ => gNo rfl u18 rfl trivial,
     fun _ _ _ _ _ ⟨u18, _⟩ => gNo rfl u18 rfl trivial,
     fun _ _ _ _ _ ⟨u18, _⟩ => gNo rfl u18 rfl trivial,
     fun _ _ _ _ _ ⟨u18, _⟩ => gNo rfl u18 rfl trivial,
     fun _ _ _ _ _ ⟨u18, _⟩ => gNo rfl u18 rfl trivial,
     fun ρz wz hE hA _ ⟨u18, _⟩ => core_val rfl rfl (o_pick_f u18 rfl),
     fun ρz wz hE hA _ ⟨u27, _⟩ => core_val rfl rfl (o_assign u27), trivial⟩ ?_
        intro ρ6 w6 hE hN hf hr
        have hN := hN rfl
        have h2 : ρ6 2 = .bool false := hf 28 rfl
        have hW := hW.trans hN
        have hsz := Nat.le_trans hsz hN.size
        exact ⟨(h2.trans (congrArg Value.bool (by simp [hd3, hd8, ← hc]))), hW, hsz⟩
    · have hc := (if_neg (Bool.eq_false_iff.1 (by simp [hd3]))).symm.trans hc
      have hc := Option.some.inj hc
      refine WP.region mixed [[], [0], [1], [2], [3], [3], [3], [3], [7], [8], [8], [8], [8], [12], [13], [13], [13], [13], [17], [18], [18], [18], [18], [18], [18], [18], [18], [18], [27]] [[], [0], [1], [2], [3], [3], [3], [3], [7], [8], [8], [8], [8], [12], [13], [13], [13], [13], [17], [18], [18], [18], [18], [18], [18], [18], [18], [18], [27]] [[1], [], [], [], [], [], [], [], [], [], [], [], [], [], [], [], [], [], [], [], [], [], [], [], [], [], [], [], []] [] []
        [val 3 (.pointer (some ((⟨b1_, 0, none⟩ : Addr).add 1))), val 4 (.int .i64 f_.Den), val 5 (.bool (decide (1 ≤ f_.Den))), val 6 (.bool false), anyF 7, anyF 8, anyF 9, val 10 (.bool false), val 11 (.bool false), anyF 12, anyF 13, anyF 14, val 15 (.bool false), val 16 (.bool false), anyF 17, anyF 18, anyF 19, val 20 (.bool false), val 21 (.bool false), anyF 22, anyF 23, anyF 24, anyF 25, anyF 26, anyF 27, anyF 28, anyF 29, val 30 (.bool false), val 2 (.bool false)] noG (by kernel_rfl)
        ⟨Stable.val _ _ _, Stable.val _ _ _, Stable.val _ _ _, Stable.val _ _ _, Stable.any _ _, Stable.any _ _, Stable.any _ _, Stable.val _ _ _, Stable.val _ _ _, Stable.any _ _, Stable.any _ _, Stable.any _ _, Stable.val _ _ _, Stable.val _ _ _, Stable.any _ _, Stable.any _ _, Stable.any _ _, Stable.val _ _ _, Stable.val _ _ _, Stable.any _ _, Stable.any _ _, Stable.any _ _, Stable.any _ _, Stable.any _ _, Stable.any _ _, Stable.any _ _, Stable.any _ _, Stable.val _ _ _, Stable.val _ _ _, trivial⟩
        ⟨fun ρz wz hE hA ⟨e1, _⟩ _ => core_val rfl rfl (o_fieldAddr (e1.trans h1) (fa_54_1 _ _)),
     fun ρz wz hE hA _ ⟨u0, _⟩ => core_val rfl rfl (o_load u0 (run_load1 (lr_3 _ _) (CA.sub ((Hb_b1_.exn (hA rfl)).ca) 1 1))),
     fun ρz wz hE hA _ ⟨u1, _⟩ => core_val rfl rfl (o_geq u1 rfl rfl),
     fun ρz wz hE hA _ ⟨u2, _⟩ => core_valE rfl rfl (congrArg Value.bool hd3) (o_move u2),
     fun _ _ _ _ _ ⟨u3, _⟩ => gNo rfl u3 rfl trivial,
     fun _ _ _ _ _ ⟨u3, _⟩ => gNo rfl u3 rfl trivial,
     fun _ _ _ _ _ ⟨u3, _⟩ => gNo rfl u3 rfl trivial,
     fun ρz wz hE hA _ ⟨u3, _⟩ => core_val rfl rfl (o_pick_f u3 rfl),
     fun ρz wz hE hA _ ⟨u7, _⟩ => core_val rfl rfl (o_move u7),
     fun _ _ _ _ _ ⟨u8, _⟩ => gNo rfl u8 rfl trivial,
     fun _ _ _ _ _ ⟨u8, _⟩ => gNo rfl u8 rfl trivial,
     fun _ _ _ _ _ ⟨u8, _⟩ => gNo rfl u8 rfl trivial,
     fun ρz wz hE hA _ ⟨u8, _⟩ => core_val rfl rfl (o_pick_f u8 rfl),
     fun ρz wz hE hA _ ⟨u12, _⟩ => core_val rfl rfl (o_move u12),
     fun _ _ _ _ _ ⟨u13, _⟩ => gNo rfl u13 rfl trivial,
     fun _ _ _ _ _ ⟨u13, _⟩ => gNo rfl u13 rfl trivial,
     fun _ _ _ _ _ ⟨u13, _⟩ => gNo rfl u13 rfl trivial,
     fun ρz wz hE hA _ ⟨u13, _⟩ => core_val rfl rfl (o_pick_f u13 rfl),
     fun ρz wz hE hA _ ⟨u17, _⟩ => core_val rfl rfl (o_move u17),
     fun _ _ _ _ _ ⟨u18, _⟩ => gNo rfl u18 rfl trivial,
     fun _ _ _ _ _ ⟨u18, _⟩ => gNo rfl u18 rfl trivial,
     fun _ _ _ _ _ ⟨u18, _⟩ => gNo rfl u18 rfl trivial,
     fun _ _ _ _ _ ⟨u18, _⟩ => gNo rfl u18 rfl trivial,
     fun _ _ _ _ _ ⟨u18, _⟩ => gNo rfl u18 rfl trivial,
     fun _ _ _ _ _ ⟨u18, _⟩ => gNo rfl u18 rfl trivial,
     fun _ _ _ _ _ ⟨u18, _⟩ => gNo rfl u18 rfl trivial,
     fun _ _ _ _ _ ⟨u18, _⟩ => gNo rfl u18 rfl trivial,
     fun ρz wz hE hA _ ⟨u18, _⟩ => core_val rfl rfl (o_pick_f u18 rfl),
     fun ρz wz hE hA _ ⟨u27, _⟩ => core_val rfl rfl (o_assign u27), trivial⟩ ?_
      intro ρ7 w7 hE hN hf hr
      have hN := hN rfl
      have h2 : ρ7 2 = .bool false := hf 28 rfl
      have hW := hW.trans hN
      have hsz := Nat.le_trans hsz hN.size
      exact ⟨(h2.trans (congrArg Value.bool (by simp [hd3, ← hc]))), hW, hsz⟩
  rintro ρ2 w2 ⟨h2, hW, hsz⟩
  refine WP.ret ?_
  show retQ Tryd.prog 31 Tryd.f37 (fun v w1 => v = .bool r ∧ Ext noG w0 w1) .ret ρ2 w2
  obtain rfl := Option.some.inj hF
  exact res1 rfl (by decide) h2 ⟨rfl, hW⟩
end Go.PL
