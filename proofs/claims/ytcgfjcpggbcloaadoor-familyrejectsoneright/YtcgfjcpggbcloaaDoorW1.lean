/- The translated code computes the Lean functions (printed by a program). -/
import Derived.Test.YtcgfjcpggbcloaaDoorTy
set_option linter.unusedVariables false
set_option linter.unusedSimpArgs false
set_option maxRecDepth 10000
namespace Go.PL
open Go Go.Proofs

set_option maxHeartbeats 4000000 in
theorem pensionplain_Mod_ok {w0 : World} (n_ : Int) (m_ : Int) {r : Int} (hF : pensionplain_Mod n_ m_ = some r) :
    Calls Tryd.prog 13 #[.int .i64 n_, .int .i64 m_] w0 fun e w1 => e = .returned (.int .i64 r) ∧ Ext noG w0 w1 := by
  refine (Calls.start (P := Tryd.prog) (args := [.int .i64 n_, .int .i64 m_]) (R := fun v w1 => v = .int .i64 r ∧ Ext noG w0 w1) (n := 15) (w := w0) Tryd.func13 rfl rfl (Nat.le_of_ble_eq_true rfl) (fun ρ hargs => ?_)).mono (fun e w1 ⟨v, he, hv, hE⟩ => ⟨hv ▸ he, hE⟩)
  have h0 := hargs 0 _ rfl
  have h1 := hargs 1 _ rfl
  have hW := Ext.refl noG w0
  have hsz := Nat.le_refl w0.heap.size
  rw [pensionplain_Mod] at hF
  refine WP.seq ?_
  refine WP.region mixed [[]] [[]] [[]] [] []
    [val 4 (.int .i64 0)] noG (by kernel_rfl)
    ⟨Stable.val _ _ _, trivial⟩
    ⟨fun ρz wz hE hA _ _ => core_val rfl rfl (o_assign rfl), trivial⟩ ?_
  intro ρ1 w1 hE hN hf hr
  have hN := hN rfl
  have h0 := (hr 0 rfl).trans h0
  have h1 := (hr 1 rfl).trans h1
  have hW := hW.trans hN
  have hsz := Nat.le_trans hsz hN.size
  refine WP.seq ?_
  obtain ⟨q, hq, hF⟩ := obind hF
  refine WP.region mixed [[], [], [0, 1], [2]] [[], [], [0, 1], [2]] [[0], [1], [], []] [] []
    [val 6 (.int .i64 n_), val 7 (.int .i64 m_), val 8 (.int .i64 q), val 5 (.int .i64 q)] noG (by kernel_rfl)
    ⟨Stable.val _ _ _, Stable.val _ _ _, Stable.val _ _ _, Stable.val _ _ _, trivial⟩
    ⟨fun ρz wz hE hA ⟨e0, _⟩ _ => core_val rfl rfl (o_move (e0.trans h0)),
     fun ρz wz hE hA ⟨e1, _⟩ _ => core_val rfl rfl (o_move (e1.trans h1)),
     fun ρz wz hE hA _ ⟨u0, u1, _⟩ => core_val rfl rfl (o_rem u0 u1 (remI_some hq).1 (remI_some hq).2),
     fun ρz wz hE hA _ ⟨u2, _⟩ => core_val rfl rfl (o_assign u2), trivial⟩ ?_
  intro ρ2 w2 hE hN hf hr
  have hN := hN rfl
  have h1 := (hr 1 rfl).trans h1
  have h5 : ρ2 5 = .int .i64 q := hf 3 rfl
  have hW := hW.trans hN
  have hsz := Nat.le_trans hsz hN.size
  refine WP.seqJ (fun ρ w => ∃ r_ : Int, ρ 5 = .int .i64 r_ ∧ Ext noG w0 w ∧ w0.heap.size ≤ w.heap.size ∧ pensionplain_Mod_j r_ = some r) ?_ ?_
  · refine WP.seq ?_
    refine WP.region mixed [[], [0]] [[], [0]] [[5], []] [] []
      [val 9 (.int .i64 q), val 10 (.bool (decide (q < 0)))] noG (by kernel_rfl)
      ⟨Stable.val _ _ _, Stable.val _ _ _, trivial⟩
      ⟨fun ρz wz hE hA ⟨e5, _⟩ _ => core_val rfl rfl (o_move (e5.trans h5)),
     fun ρz wz hE hA _ ⟨u0, _⟩ => core_val rfl rfl (o_lss u0 rfl rfl), trivial⟩ ?_
    intro ρ5 w5 hE hN hf hr
    have hN := hN rfl
    have h1 := (hr 1 rfl).trans h1
    have h5 := (hr 5 rfl).trans h5
    have h10 : ρ5 10 = .bool (decide (q < 0)) := hf 1 rfl
    have hW := hW.trans hN
    have hsz := Nat.le_trans hsz hN.size
    refine WP.cond rfl h10 (fun hb => ?_) (fun hb => ?_)
    · have hF := (if_pos hb).symm.trans hF
      refine WP.region mixed [[], [], [0, 1], [0, 2]] [[], [], [0, 1], [2]] [[5], [1], [], []] [] []
        [val 11 (.int .i64 q), val 12 (.int .i64 m_), val 13 (.int .i64 (i64 (q + m_))), val 5 (.int .i64 (i64 (q + m_)))] noG (by kernel_rfl)
        ⟨Stable.val _ _ _, Stable.val _ _ _, Stable.val _ _ _, Stable.val _ _ _, trivial⟩
        ⟨fun ρz wz hE hA ⟨e5, _⟩ _ => core_val rfl rfl (o_move (e5.trans h5)),
     fun ρz wz hE hA ⟨e1, _⟩ _ => core_val rfl rfl (o_move (e1.trans h1)),
     fun ρz wz hE hA _ ⟨u0, u1, _⟩ => core_val rfl rfl (o_add u0 u1 rfl),
     fun ρz wz hE hA _ ⟨u2, _⟩ => core_val rfl rfl (o_assign u2), trivial⟩ ?_
      intro ρ6 w6 hE hN hf hr
      have hN := hN rfl
      have h5 : ρ6 5 = .int .i64 (i64 (q + m_)) := hf 3 rfl
      have hW := hW.trans hN
      have hsz := Nat.le_trans hsz hN.size
      exact ⟨i64 (q + m_), h5, hW, hsz, hF⟩
    · have hF := (if_neg (Bool.eq_false_iff.1 hb)).symm.trans hF
      refine WP.skip ?_
      exact ⟨q, h5, hW, hsz, hF⟩
  · rintro ρ3 w3 ⟨r_, h5, hW, hsz, hF⟩
    rw [pensionplain_Mod_j] at hF
    refine WP.seq ?_
    refine WP.region mixed [[], [0]] [[], [0]] [[5], []] [] []
      [val 14 (.int .i64 r_), val 4 (.int .i64 r_)] noG (by kernel_rfl)
      ⟨Stable.val _ _ _, Stable.val _ _ _, trivial⟩
      ⟨fun ρz wz hE hA ⟨e5, _⟩ _ => core_val rfl rfl (o_move (e5.trans h5)),
     fun ρz wz hE hA _ ⟨u0, _⟩ => core_val rfl rfl (o_assign u0), trivial⟩ ?_
    intro ρ4 w4 hE hN hf hr
    have hN := hN rfl
    have h4 : ρ4 4 = .int .i64 r_ := hf 1 rfl
    have hW := hW.trans hN
    have hsz := Nat.le_trans hsz hN.size
    refine WP.ret ?_
    show retQ Tryd.prog 15 Tryd.f13 (fun v w1 => v = .int .i64 r ∧ Ext noG w0 w1) .ret ρ4 w4
    obtain rfl := Option.some.inj hF
    exact res1 rfl (by decide) h4 ⟨rfl, hW⟩

set_option maxHeartbeats 4000000 in
theorem pensionplain_Amount_ok {w0 : World} (n_ : Int) {r : Int} (hF : pensionplain_Amount n_ = some r) :
    Calls Tryd.prog 24 #[.int .i64 n_] w0 fun e w1 => e = .returned (.int .i64 r) ∧ Ext noG w0 w1 := by
  refine (Calls.start (P := Tryd.prog) (args := [.int .i64 n_]) (R := fun v w1 => v = .int .i64 r ∧ Ext noG w0 w1) (n := 21) (w := w0) Tryd.func24 rfl rfl (Nat.le_of_ble_eq_true rfl) (fun ρ hargs => ?_)).mono (fun e w1 ⟨v, he, hv, hE⟩ => ⟨hv ▸ he, hE⟩)
  have h0 := hargs 0 _ rfl
  have hW := Ext.refl noG w0
  have hsz := Nat.le_refl w0.heap.size
  rw [pensionplain_Amount] at hF
  refine WP.seq ?_
  refine WP.region mixed [[]] [[]] [[]] [] []
    [val 2 (.int .i64 0)] noG (by kernel_rfl)
    ⟨Stable.val _ _ _, trivial⟩
    ⟨fun ρz wz hE hA _ _ => core_val rfl rfl (o_assign rfl), trivial⟩ ?_
  intro ρ1 w1 hE hN hf hr
  have hN := hN rfl
  have h0 := (hr 0 rfl).trans h0
  have hW := hW.trans hN
  have hsz := Nat.le_trans hsz hN.size
  refine WP.seq ?_
  refine WP.seq ?_
  obtain ⟨z, hz, hF⟩ := obind hF
  refine WP.region mixed [[], [0]] [[], [0]] [[0], []] [] []
    [val 3 (.int .i64 n_), val 4 (.int .i64 z)] noG (by kernel_rfl)
    ⟨Stable.val _ _ _, Stable.val _ _ _, trivial⟩
    ⟨fun ρz wz hE hA ⟨e0, _⟩ _ => core_val rfl rfl (o_move (e0.trans h0)),
     fun ρz wz hE hA _ ⟨u0, _⟩ => core_call rfl (call_args2 u0 rfl) cf_13 (pensionplain_Mod_ok  _ _  hz), trivial⟩ ?_
  intro ρ2 w2 hE hN hf hr
  have hN := hN rfl
  have h0 := (hr 0 rfl).trans h0
  have h4 : ρ2 4 = .int .i64 z := hf 1 rfl
  have hW := hW.trans hN
  have hsz := Nat.le_trans hsz hN.size
  refine WP.block ?_
  refine WP.seq ?_
  refine WP.region mixed [[], [0]] [[], [0]] [[4], []] [] []
    [val 6 (.bool (z == 0)), val 5 (.bool (z == 0))] noG (by kernel_rfl)
    ⟨Stable.val _ _ _, Stable.val _ _ _, trivial⟩
    ⟨fun ρz wz hE hA ⟨e4, _⟩ _ => core_val rfl rfl (o_eql (e4.trans h4) rfl rfl),
     fun ρz wz hE hA _ ⟨u0, _⟩ => core_val rfl rfl (o_assign u0), trivial⟩ ?_
  intro ρ3 w3 hE hN hf hr
  have hN := hN rfl
  have h0 := (hr 0 rfl).trans h0
  have h4 := (hr 4 rfl).trans h4
  have h5 : ρ3 5 = .bool (z == 0) := hf 1 rfl
  have hW := hW.trans hN
  have hsz := Nat.le_trans hsz hN.size
  refine WP.cond rfl h5 (fun hb => ?_) (fun hb => ?_)
  · have hF := (if_pos hb).symm.trans hF
    refine WP.seq ?_
    refine WP.region mixed [[]] [[]] [[]] [] []
      [val 2 (.int .i64 0)] noG (by kernel_rfl)
      ⟨Stable.val _ _ _, trivial⟩
      ⟨fun ρz wz hE hA _ _ => core_val rfl rfl (o_assign rfl), trivial⟩ ?_
    intro ρ4 w4 hE hN hf hr
    have hN := hN rfl
    have h2 : ρ4 2 = .int .i64 0 := hf 0 rfl
    have hW := hW.trans hN
    have hsz := Nat.le_trans hsz hN.size
    refine WP.ret ?_
    show retQ Tryd.prog 21 Tryd.f24 (fun v w1 => v = .int .i64 r ∧ Ext noG w0 w1) .ret ρ4 w4
    obtain rfl := Option.some.inj hF
    exact res1 rfl (by decide) h2 ⟨rfl, hW⟩
  · have hF := (if_neg (Bool.eq_false_iff.1 hb)).symm.trans hF
    refine WP.seq ?_
    refine WP.region mixed [[], [0]] [[], [0]] [[4], []] [] []
      [val 8 (.bool (z == 1)), val 7 (.bool (z == 1))] noG (by kernel_rfl)
      ⟨Stable.val _ _ _, Stable.val _ _ _, trivial⟩
      ⟨fun ρz wz hE hA ⟨e4, _⟩ _ => core_val rfl rfl (o_eql (e4.trans h4) rfl rfl),
     fun ρz wz hE hA _ ⟨u0, _⟩ => core_val rfl rfl (o_assign u0), trivial⟩ ?_
    intro ρ5 w5 hE hN hf hr
    have hN := hN rfl
    have h0 := (hr 0 rfl).trans h0
    have h4 := (hr 4 rfl).trans h4
    have h7 : ρ5 7 = .bool (z == 1) := hf 1 rfl
    have hW := hW.trans hN
    have hsz := Nat.le_trans hsz hN.size
    refine WP.cond rfl h7 (fun hb => ?_) (fun hb => ?_)
    · have hF := (if_pos hb).symm.trans hF
      refine WP.seq ?_
      obtain ⟨z2, hz2, hF⟩ := obind hF
      refine WP.region mixed [[], [0], [1], [2], [3]] [[], [0], [1], [2], [3]] [[0], [], [], [], []] [] []
        [val 9 (.int .i64 n_), val 10 (.int .i64 (i64 (Int.tdiv n_ 8))), val 11 (.int .i64 z2), val 12 (.int .i64 (i64 (1000000000000 - z2))), val 2 (.int .i64 (i64 (1000000000000 - z2)))] noG (by kernel_rfl)
        ⟨Stable.val _ _ _, Stable.val _ _ _, Stable.val _ _ _, Stable.val _ _ _, Stable.val _ _ _, trivial⟩
        ⟨fun ρz wz hE hA ⟨e0, _⟩ _ => core_val rfl rfl (o_move (e0.trans h0)),
     fun ρz wz hE hA _ ⟨u0, _⟩ => core_val rfl rfl (o_quo u0 rfl (by decide) rfl),
     fun ρz wz hE hA _ ⟨u1, _⟩ => core_call rfl (call_args2 u1 rfl) cf_13 (pensionplain_Mod_ok  _ _  hz2),
     fun ρz wz hE hA _ ⟨u2, _⟩ => core_val rfl rfl (o_sub rfl u2 rfl),
     fun ρz wz hE hA _ ⟨u3, _⟩ => core_val rfl rfl (o_assign u3), trivial⟩ ?_
      intro ρ6 w6 hE hN hf hr
      have hN := hN rfl
      have h2 : ρ6 2 = .int .i64 (i64 (1000000000000 - z2)) := hf 4 rfl
      have hW := hW.trans hN
      have hsz := Nat.le_trans hsz hN.size
      refine WP.ret ?_
      show retQ Tryd.prog 21 Tryd.f24 (fun v w1 => v = .int .i64 r ∧ Ext noG w0 w1) .ret ρ6 w6
      obtain rfl := Option.some.inj hF
      exact res1 rfl (by decide) h2 ⟨rfl, hW⟩
    · have hF := (if_neg (Bool.eq_false_iff.1 hb)).symm.trans hF
      refine WP.seq ?_
      refine WP.region mixed [[], [0]] [[], [0]] [[4], []] [] []
        [val 14 (.bool (z == 2)), val 13 (.bool (z == 2))] noG (by kernel_rfl)
        ⟨Stable.val _ _ _, Stable.val _ _ _, trivial⟩
        ⟨fun ρz wz hE hA ⟨e4, _⟩ _ => core_val rfl rfl (o_eql (e4.trans h4) rfl rfl),
     fun ρz wz hE hA _ ⟨u0, _⟩ => core_val rfl rfl (o_assign u0), trivial⟩ ?_
      intro ρ7 w7 hE hN hf hr
      have hN := hN rfl
      have h0 := (hr 0 rfl).trans h0
      have h13 : ρ7 13 = .bool (z == 2) := hf 1 rfl
      have hW := hW.trans hN
      have hsz := Nat.le_trans hsz hN.size
      refine WP.cond rfl h13 (fun hb => ?_) (fun hb => ?_)
      · have hF := (if_pos hb).symm.trans hF
        refine WP.seq ?_
        obtain ⟨z3, hz3, hF⟩ := obind hF
        refine WP.region mixed [[], [0], [1], [2]] [[], [0], [1], [2]] [[0], [], [], []] [] []
          [val 15 (.int .i64 n_), val 16 (.int .i64 (i64 (Int.tdiv n_ 8))), val 17 (.int .i64 z3), val 2 (.int .i64 z3)] noG (by kernel_rfl)
          ⟨Stable.val _ _ _, Stable.val _ _ _, Stable.val _ _ _, Stable.val _ _ _, trivial⟩
          ⟨fun ρz wz hE hA ⟨e0, _⟩ _ => core_val rfl rfl (o_move (e0.trans h0)),
     fun ρz wz hE hA _ ⟨u0, _⟩ => core_val rfl rfl (o_quo u0 rfl (by decide) rfl),
     fun ρz wz hE hA _ ⟨u1, _⟩ => core_call rfl (call_args2 u1 rfl) cf_13 (pensionplain_Mod_ok  _ _  hz3),
     fun ρz wz hE hA _ ⟨u2, _⟩ => core_val rfl rfl (o_assign u2), trivial⟩ ?_
        intro ρ8 w8 hE hN hf hr
        have hN := hN rfl
        have h2 : ρ8 2 = .int .i64 z3 := hf 3 rfl
        have hW := hW.trans hN
        have hsz := Nat.le_trans hsz hN.size
        refine WP.ret ?_
        show retQ Tryd.prog 21 Tryd.f24 (fun v w1 => v = .int .i64 r ∧ Ext noG w0 w1) .ret ρ8 w8
        obtain rfl := Option.some.inj hF
        exact res1 rfl (by decide) h2 ⟨rfl, hW⟩
      · have hF := (if_neg (Bool.eq_false_iff.1 hb)).symm.trans hF
        refine WP.skip ?_
        refine WP.seq ?_
        obtain ⟨z4, hz4, hF⟩ := obind hF
        refine WP.region mixed [[], [0], [1], [2]] [[], [0], [1], [2]] [[0], [], [], []] [] []
          [val 18 (.int .i64 n_), val 19 (.int .i64 (i64 (Int.tdiv n_ 8))), val 20 (.int .i64 z4), val 2 (.int .i64 z4)] noG (by kernel_rfl)
          ⟨Stable.val _ _ _, Stable.val _ _ _, Stable.val _ _ _, Stable.val _ _ _, trivial⟩
          ⟨fun ρz wz hE hA ⟨e0, _⟩ _ => core_val rfl rfl (o_move (e0.trans h0)),
     fun ρz wz hE hA _ ⟨u0, _⟩ => core_val rfl rfl (o_quo u0 rfl (by decide) rfl),
     fun ρz wz hE hA _ ⟨u1, _⟩ => core_call rfl (call_args2 u1 rfl) cf_13 (pensionplain_Mod_ok  _ _  hz4),
     fun ρz wz hE hA _ ⟨u2, _⟩ => core_val rfl rfl (o_assign u2), trivial⟩ ?_
        intro ρ9 w9 hE hN hf hr
        have hN := hN rfl
        have h2 : ρ9 2 = .int .i64 z4 := hf 3 rfl
        have hW := hW.trans hN
        have hsz := Nat.le_trans hsz hN.size
        refine WP.ret ?_
        show retQ Tryd.prog 21 Tryd.f24 (fun v w1 => v = .int .i64 r ∧ Ext noG w0 w1) .ret ρ9 w9
        obtain rfl := Option.some.inj hF
        exact res1 rfl (by decide) h2 ⟨rfl, hW⟩

set_option maxHeartbeats 4000000 in
theorem calendar_leap_ok {w0 : World} (year_ : Int) {r : Bool} (hF : calendar_leap year_ = some r) :
    Calls Tryd.prog 91 #[.int .i64 year_] w0 fun e w1 => e = .returned (.bool r) ∧ Ext noG w0 w1 := by
  refine (Calls.start (P := Tryd.prog) (args := [.int .i64 year_]) (R := fun v w1 => v = .bool r ∧ Ext noG w0 w1) (n := 16) (w := w0) Tryd.func91 rfl rfl (Nat.le_of_ble_eq_true rfl) (fun ρ hargs => ?_)).mono (fun e w1 ⟨v, he, hv, hE⟩ => ⟨hv ▸ he, hE⟩)
  have h0 := hargs 0 _ rfl
  have hW := Ext.refl noG w0
  have hsz := Nat.le_refl w0.heap.size
  rw [calendar_leap] at hF
  refine WP.seq ?_
  refine WP.region mixed [[]] [[]] [[]] [] []
    [val 2 (.bool false)] noG (by kernel_rfl)
    ⟨Stable.val _ _ _, trivial⟩
    ⟨fun ρz wz hE hA _ _ => core_val rfl rfl (o_assign rfl), trivial⟩ ?_
  intro ρ1 w1 hE hN hf hr
  have hN := hN rfl
  have h0 := (hr 0 rfl).trans h0
  have hW := hW.trans hN
  have hsz := Nat.le_trans hsz hN.size
  refine WP.seq ?_
  refine WP.via (fun ρ w => ρ 2 = .bool (((Int.tmod year_ 4 == 0) && (Int.tmod year_ 100 != 0)) || (Int.tmod year_ 400 == 0)) ∧ Ext noG w0 w ∧ w0.heap.size ≤ w.heap.size) ?_ ?_
  · rcases Bool.eq_false_or_eq_true (Int.tmod year_ 4 == 0) with hd3 | hd3
    · rcases Bool.eq_false_or_eq_true (Int.tmod year_ 100 != 0) with hd8 | hd8
      · refine WP.region mixed [[], [0], [1], [2], [3], [3, 4], [3, 5], [3, 6], [7], [8], [8], [8], [8], [12]] [[], [0], [1], [2], [3], [3, 4], [3, 5], [3, 6], [7], [8], [8], [8], [8], [12]] [[0], [], [], [], [0], [], [], [], [], [], [], [], [], []] [] []
          [val 3 (.int .i64 year_), val 4 (.int .i64 (Int.tmod year_ 4)), val 5 (.bool (Int.tmod year_ 4 == 0)), val 6 (.bool true), val 7 (.int .i64 year_), val 8 (.int .i64 (Int.tmod year_ 100)), val 9 (.bool (Int.tmod year_ 100 != 0)), val 10 (.bool (Int.tmod year_ 100 != 0)), val 11 (.bool true), anyF 12, anyF 13, anyF 14, val 15 (.bool true), val 2 (.bool true)] noG (by kernel_rfl)
          ⟨Stable.val _ _ _, Stable.val _ _ _, Stable.val _ _ _, Stable.val _ _ _, Stable.val _ _ _, Stable.val _ _ _, Stable.val _ _ _, Stable.val _ _ _, Stable.val _ _ _, Stable.any _ _, Stable.any _ _, Stable.any _ _, Stable.val _ _ _, Stable.val _ _ _, trivial⟩
          ⟨fun ρz wz hE hA ⟨e0, _⟩ _ => core_val rfl rfl (o_move (e0.trans h0)),
     fun ρz wz hE hA _ ⟨u0, _⟩ => core_val rfl rfl (o_rem u0 rfl (by decide) rfl),
     fun ρz wz hE hA _ ⟨u1, _⟩ => core_val rfl rfl (o_eql u1 rfl rfl),
     fun ρz wz hE hA _ ⟨u2, _⟩ => core_valE rfl rfl (congrArg Value.bool hd3) (o_move u2),
     fun ρz wz hE hA ⟨e0, _⟩ ⟨u3, _⟩ => gYes rfl u3 (core_val rfl rfl (o_move (e0.trans h0))),
     fun ρz wz hE hA _ ⟨u3, u4, _⟩ => gYes rfl u3 (core_val rfl rfl (o_rem u4 rfl (by decide) rfl)),
     fun ρz wz hE hA _ ⟨u3, u5, _⟩ => gYes rfl u3 (core_val rfl rfl (o_neq u5 rfl rfl)),
     fun ρz wz hE hA _ ⟨u3, u6, _⟩ => core_val rfl rfl (o_pick_t u3 u6),
     fun ρz wz hE hA _ ⟨u7, _⟩ => core_valE rfl rfl (congrArg Value.bool hd8) (o_move u7),
     fun _ _ _ _ _ ⟨u8, _⟩ => gNo rfl u8 rfl trivial,
     fun _ _ _ _ _ ⟨u8, _⟩ => gNo rfl u8 rfl trivial,
     fun _ _ _ _ _ ⟨u8, _⟩ => gNo rfl u8 rfl trivial,
     fun ρz wz hE hA _ ⟨u8, _⟩ => core_val rfl rfl (o_pick_t u8 rfl),
     fun ρz wz hE hA _ ⟨u12, _⟩ => core_val rfl rfl (o_assign u12), trivial⟩ ?_
        intro ρ3 w3 hE hN hf hr
        have hN := hN rfl
        have h2 : ρ3 2 = .bool true := hf 13 rfl
        have hW := hW.trans hN
        have hsz := Nat.le_trans hsz hN.size
        exact ⟨(h2.trans (congrArg Value.bool (by simp [hd3, hd8]))), hW, hsz⟩
      · refine WP.region mixed [[], [0], [1], [2], [3], [3, 4], [3, 5], [3, 6], [7], [8], [8, 9], [8, 10], [8, 11], [12]] [[], [0], [1], [2], [3], [3, 4], [3, 5], [3, 6], [7], [8], [8, 9], [8, 10], [8, 11], [12]] [[0], [], [], [], [0], [], [], [], [], [0], [], [], [], []] [] []
          [val 3 (.int .i64 year_), val 4 (.int .i64 (Int.tmod year_ 4)), val 5 (.bool (Int.tmod year_ 4 == 0)), val 6 (.bool true), val 7 (.int .i64 year_), val 8 (.int .i64 (Int.tmod year_ 100)), val 9 (.bool (Int.tmod year_ 100 != 0)), val 10 (.bool (Int.tmod year_ 100 != 0)), val 11 (.bool false), val 12 (.int .i64 year_), val 13 (.int .i64 (Int.tmod year_ 400)), val 14 (.bool (Int.tmod year_ 400 == 0)), val 15 (.bool (Int.tmod year_ 400 == 0)), val 2 (.bool (Int.tmod year_ 400 == 0))] noG (by kernel_rfl)
          ⟨Stable.val _ _ _, Stable.val _ _ _, Stable.val _ _ _, Stable.val _ _ _, Stable.val _ _ _, Stable.val _ _ _, Stable.val _ _ _, Stable.val _ _ _, Stable.val _ _ _, Stable.val _ _ _, Stable.val _ _ _, Stable.val _ _ _, Stable.val _ _ _, Stable.val _ _ _, trivial⟩
          ⟨fun ρz wz hE hA ⟨e0, _⟩ _ => core_val rfl rfl (o_move (e0.trans h0)),
     fun ρz wz hE hA _ ⟨u0, _⟩ => core_val rfl rfl (o_rem u0 rfl (by decide) rfl),
     fun ρz wz hE hA _ ⟨u1, _⟩ => core_val rfl rfl (o_eql u1 rfl rfl),
     fun ρz wz hE hA _ ⟨u2, _⟩ => core_valE rfl rfl (congrArg Value.bool hd3) (o_move u2),
     fun ρz wz hE hA ⟨e0, _⟩ ⟨u3, _⟩ => gYes rfl u3 (core_val rfl rfl (o_move (e0.trans h0))),
     fun ρz wz hE hA _ ⟨u3, u4, _⟩ => gYes rfl u3 (core_val rfl rfl (o_rem u4 rfl (by decide) rfl)),
     fun ρz wz hE hA _ ⟨u3, u5, _⟩ => gYes rfl u3 (core_val rfl rfl (o_neq u5 rfl rfl)),
     fun ρz wz hE hA _ ⟨u3, u6, _⟩ => core_val rfl rfl (o_pick_t u3 u6),
     fun ρz wz hE hA _ ⟨u7, _⟩ => core_valE rfl rfl (congrArg Value.bool hd8) (o_move u7),
     fun ρz wz hE hA ⟨e0, _⟩ ⟨u8, _⟩ => gYes rfl u8 (core_val rfl rfl (o_move (e0.trans h0))),
     fun ρz wz hE hA _ ⟨u8, u9, _⟩ => gYes rfl u8 (core_val rfl rfl (o_rem u9 rfl (by decide) rfl)),
     fun ρz wz hE hA _ ⟨u8, u10, _⟩ => gYes rfl u8 (core_val rfl rfl (o_eql u10 rfl rfl)),
     fun ρz wz hE hA _ ⟨u8, u11, _⟩ => core_val rfl rfl (o_pick_f u8 u11),
     fun ρz wz hE hA _ ⟨u12, _⟩ => core_val rfl rfl (o_assign u12), trivial⟩ ?_
        intro ρ4 w4 hE hN hf hr
        have hN := hN rfl
        have h2 : ρ4 2 = .bool (Int.tmod year_ 400 == 0) := hf 13 rfl
        have hW := hW.trans hN
        have hsz := Nat.le_trans hsz hN.size
        exact ⟨(h2.trans (congrArg Value.bool (by simp [hd3, hd8]))), hW, hsz⟩
    · refine WP.region mixed [[], [0], [1], [2], [3], [3], [3], [3], [7], [8], [8, 9], [8, 10], [8, 11], [12]] [[], [0], [1], [2], [3], [3], [3], [3], [7], [8], [8, 9], [8, 10], [8, 11], [12]] [[0], [], [], [], [], [], [], [], [], [0], [], [], [], []] [] []
        [val 3 (.int .i64 year_), val 4 (.int .i64 (Int.tmod year_ 4)), val 5 (.bool (Int.tmod year_ 4 == 0)), val 6 (.bool false), anyF 7, anyF 8, anyF 9, val 10 (.bool false), val 11 (.bool false), val 12 (.int .i64 year_), val 13 (.int .i64 (Int.tmod year_ 400)), val 14 (.bool (Int.tmod year_ 400 == 0)), val 15 (.bool (Int.tmod year_ 400 == 0)), val 2 (.bool (Int.tmod year_ 400 == 0))] noG (by kernel_rfl)
        ⟨Stable.val _ _ _, Stable.val _ _ _, Stable.val _ _ _, Stable.val _ _ _, Stable.any _ _, Stable.any _ _, Stable.any _ _, Stable.val _ _ _, Stable.val _ _ _, Stable.val _ _ _, Stable.val _ _ _, Stable.val _ _ _, Stable.val _ _ _, Stable.val _ _ _, trivial⟩
        ⟨fun ρz wz hE hA ⟨e0, _⟩ _ => core_val rfl rfl (o_move (e0.trans h0)),
     fun ρz wz hE hA _ ⟨u0, _⟩ => core_val rfl rfl (o_rem u0 rfl (by decide) rfl),
     fun ρz wz hE hA _ ⟨u1, _⟩ => core_val rfl rfl (o_eql u1 rfl rfl),
     fun ρz wz hE hA _ ⟨u2, _⟩ => core_valE rfl rfl (congrArg Value.bool hd3) (o_move u2),
     fun _ _ _ _ _ ⟨u3, _⟩ => gNo rfl u3 rfl trivial,
     fun _ _ _ _ _ ⟨u3, _⟩ => gNo rfl u3 rfl trivial,
     fun _ _ _ _ _ ⟨u3, _⟩ => gNo rfl u3 rfl trivial,
     fun ρz wz hE hA _ ⟨u3, _⟩ => core_val rfl rfl (o_pick_f u3 rfl),
     fun ρz wz hE hA _ ⟨u7, _⟩ => core_val rfl rfl (o_move u7),
     fun ρz wz hE hA ⟨e0, _⟩ ⟨u8, _⟩ => gYes rfl u8 (core_val rfl rfl (o_move (e0.trans h0))),
     fun ρz wz hE hA _ ⟨u8, u9, _⟩ => gYes rfl u8 (core_val rfl rfl (o_rem u9 rfl (by decide) rfl)),
     fun ρz wz hE hA _ ⟨u8, u10, _⟩ => gYes rfl u8 (core_val rfl rfl (o_eql u10 rfl rfl)),
     fun ρz wz hE hA _ ⟨u8, u11, _⟩ => core_val rfl rfl (o_pick_f u8 u11),
     fun ρz wz hE hA _ ⟨u12, _⟩ => core_val rfl rfl (o_assign u12), trivial⟩ ?_
      intro ρ5 w5 hE hN hf hr
      have hN := hN rfl
      have h2 : ρ5 2 = .bool (Int.tmod year_ 400 == 0) := hf 13 rfl
      have hW := hW.trans hN
      have hsz := Nat.le_trans hsz hN.size
      exact ⟨(h2.trans (congrArg Value.bool (by simp [hd3]))), hW, hsz⟩
  rintro ρ2 w2 ⟨h2, hW, hsz⟩
  refine WP.ret ?_
  show retQ Tryd.prog 16 Tryd.f91 (fun v w1 => v = .bool r ∧ Ext noG w0 w1) .ret ρ2 w2
  obtain rfl := Option.some.inj hF
  exact res1 rfl (by decide) h2 ⟨rfl, hW⟩

set_option maxHeartbeats 4000000 in
theorem calendar_monthLength_ok {w0 : World} (year_ : Int) (month_ : Int) {r : Int} (hF : calendar_monthLength year_ month_ = some r) :
    Calls Tryd.prog 84 #[.int .i64 year_, .int .i64 month_] w0 fun e w1 => e = .returned (.int .i64 r) ∧ Ext noG w0 w1 := by
  refine (Calls.start (P := Tryd.prog) (args := [.int .i64 year_, .int .i64 month_]) (R := fun v w1 => v = .int .i64 r ∧ Ext noG w0 w1) (n := 17) (w := w0) Tryd.func84 rfl rfl (Nat.le_of_ble_eq_true rfl) (fun ρ hargs => ?_)).mono (fun e w1 ⟨v, he, hv, hE⟩ => ⟨hv ▸ he, hE⟩)
  have h0 := hargs 0 _ rfl
  have h1 := hargs 1 _ rfl
  have hW := Ext.refl noG w0
  have hsz := Nat.le_refl w0.heap.size
  rw [calendar_monthLength] at hF
  refine WP.seq ?_
  refine WP.region mixed [[]] [[]] [[]] [] []
    [val 4 (.int .i64 0)] noG (by kernel_rfl)
    ⟨Stable.val _ _ _, trivial⟩
    ⟨fun ρz wz hE hA _ _ => core_val rfl rfl (o_assign rfl), trivial⟩ ?_
  intro ρ1 w1 hE hN hf hr
  have hN := hN rfl
  have h0 := (hr 0 rfl).trans h0
  have h1 := (hr 1 rfl).trans h1
  have hW := hW.trans hN
  have hsz := Nat.le_trans hsz hN.size
  refine WP.seq ?_
  refine WP.region mixed [[], [], [0, 1]] [[], [], [1, 0]] [[], [], []] [2] [(1, 2)]
    [val 6 (arrV (fun x : Int => [Value.int .i64 x]) [31, 28, 31, 30, 31, 30, 31, 31, 30, 31, 30, 31]), (5, fun u wz => ∃ b, u = .pointer (some ⟨b, 0, none⟩) ∧ w1.heap.size ≤ b ∧ Mb wz b 117 ((List.replicate 12 0).flatMap (fun x : Int => [Value.int .i64 x]))), (5, fun u wz => ∃ b, u = .pointer (some ⟨b, 0, none⟩) ∧ w1.heap.size ≤ b ∧ Mb wz b 117 ([31, 28, 31, 30, 31, 30, 31, 31, 30, 31, 30, 31].flatMap (fun x : Int => [Value.int .i64 x])))] (fun b => w1.heap.size ≤ b) (by kernel_rfl)
    ⟨Stable.val _ _ _, fun _ _ _ hE ⟨b, hb, hs, hM⟩ => ⟨b, hb, hs, hM.exn hE⟩, fun _ _ _ hE ⟨b, hb, hs, hM⟩ => ⟨b, hb, hs, hM.exn hE⟩, trivial⟩
    ⟨fun ρz wz hE hA _ _ => core_val rfl rfl (o_build rfl (by kernel_rfl)),
     fun ρz wz hE hA _ _ => core_new rfl rfl hE (o_alloc (al_117 _)),
     fun ρz wz hE hA _ ⟨u1, u0, _⟩ => core_storeNew rfl rfl rfl rfl u0 u1 (fun a w => (st_117 _ (by simp)) a w) rfl (one_117 _), trivial⟩ ?_
  intro ρ2 w2 hE hN hf hr
  have hN := hE.fresh
  have h0 := (hr 0 rfl).trans h0
  have h1 := (hr 1 rfl).trans h1
  obtain ⟨b5_, h5, hge_b5_, Hb_b5_⟩ := hf 2 rfl
  have hW := hW.trans hN
  have hlen_b5_ : [31, 28, 31, 30, 31, 30, 31, 31, 30, 31, 30, 31].length = 12 := by simp
  have hB_b5_ : w0.heap.size ≤ b5_ := Nat.le_trans hsz hge_b5_
  have hsz := Nat.le_trans hsz hN.size
  refine WP.seq ?_
  refine WP.seq ?_
  obtain ⟨c, hc, hF⟩ := obind hF
  refine WP.via (fun ρ w => ρ 1 = .int .i64 month_ ∧ ρ 5 = .pointer (some ⟨b5_, 0, none⟩) ∧ ρ 12 = .bool c ∧ Mb w b5_ 117 ([31, 28, 31, 30, 31, 30, 31, 31, 30, 31, 30, 31].flatMap (fun x : Int => [Value.int .i64 x])) ∧ [31, 28, 31, 30, 31, 30, 31, 31, 30, 31, 30, 31].length = 12 ∧ Ext noG w0 w ∧ w0.heap.size ≤ w.heap.size) ?_ ?_
  · rcases Bool.eq_false_or_eq_true (month_ == 2) with hd2 | hd2
    · have hc := (if_pos (by simp [hd2])).symm.trans hc
      obtain ⟨z, hz, hc⟩ := obind hc
      have hc := Option.some.inj hc
      refine WP.region mixed [[], [0], [1], [2], [2, 3], [2, 4]] [[], [0], [1], [2], [2, 3], [2, 4]] [[1], [], [], [0], [], []] [] []
        [val 7 (.int .i64 month_), val 8 (.bool (month_ == 2)), val 9 (.bool true), val 10 (.int .i64 year_), val 11 (.bool z), val 12 (.bool z)] noG (by kernel_rfl)
        ⟨Stable.val _ _ _, Stable.val _ _ _, Stable.val _ _ _, Stable.val _ _ _, Stable.val _ _ _, Stable.val _ _ _, trivial⟩
        ⟨fun ρz wz hE hA ⟨e1, _⟩ _ => core_val rfl rfl (o_move (e1.trans h1)),
     fun ρz wz hE hA _ ⟨u0, _⟩ => core_val rfl rfl (o_eql u0 rfl rfl),
     fun ρz wz hE hA _ ⟨u1, _⟩ => core_valE rfl rfl (congrArg Value.bool hd2) (o_move u1),
     fun ρz wz hE hA ⟨e0, _⟩ ⟨u2, _⟩ => gYes rfl u2 (core_val rfl rfl (o_move (e0.trans h0))),
     fun ρz wz hE hA _ ⟨u2, u3, _⟩ => gYes rfl u2 (core_call rfl (call_args1 u3) cf_91 (calendar_leap_ok  _  hz)),
     fun ρz wz hE hA _ ⟨u2, u4, _⟩ => core_val rfl rfl (o_pick_t u2 u4), trivial⟩ ?_
      intro ρ4 w4 hE hN hf hr
      have hN := hN rfl
      have h1 := (hr 1 rfl).trans h1
      have h5 := (hr 5 rfl).trans h5
      have h12 : ρ4 12 = .bool z := hf 5 rfl
      have Hb_b5_n := Hb_b5_.exn hN
      have hW := hW.trans hN
      have Hb_b5_ := Hb_b5_n
      have hsz := Nat.le_trans hsz hN.size
      exact ⟨h1, h5, (h12.trans (congrArg Value.bool (by simp [hd2, ← hc]))), Hb_b5_, hlen_b5_, hW, hsz⟩
    · have hc := (if_neg (Bool.eq_false_iff.1 (by simp [hd2]))).symm.trans hc
      have hc := Option.some.inj hc
      refine WP.region mixed [[], [0], [1], [2], [2], [2]] [[], [0], [1], [2], [2], [2]] [[1], [], [], [], [], []] [] []
        [val 7 (.int .i64 month_), val 8 (.bool (month_ == 2)), val 9 (.bool false), anyF 10, anyF 11, val 12 (.bool false)] noG (by kernel_rfl)
        ⟨Stable.val _ _ _, Stable.val _ _ _, Stable.val _ _ _, Stable.any _ _, Stable.any _ _, Stable.val _ _ _, trivial⟩
        ⟨fun ρz wz hE hA ⟨e1, _⟩ _ => core_val rfl rfl (o_move (e1.trans h1)),
     fun ρz wz hE hA _ ⟨u0, _⟩ => core_val rfl rfl (o_eql u0 rfl rfl),
     fun ρz wz hE hA _ ⟨u1, _⟩ => core_valE rfl rfl (congrArg Value.bool hd2) (o_move u1),
     fun _ _ _ _ _ ⟨u2, _⟩ => gNo rfl u2 rfl trivial,
     fun _ _ _ _ _ ⟨u2, _⟩ => gNo rfl u2 rfl trivial,
     fun ρz wz hE hA _ ⟨u2, _⟩ => core_val rfl rfl (o_pick_f u2 rfl), trivial⟩ ?_
      intro ρ5 w5 hE hN hf hr
      have hN := hN rfl
      have h1 := (hr 1 rfl).trans h1
      have h5 := (hr 5 rfl).trans h5
      have h12 : ρ5 12 = .bool false := hf 5 rfl
      have Hb_b5_n := Hb_b5_.exn hN
      have hW := hW.trans hN
      have Hb_b5_ := Hb_b5_n
      have hsz := Nat.le_trans hsz hN.size
      exact ⟨h1, h5, (h12.trans (congrArg Value.bool (by simp [hd2, ← hc]))), Hb_b5_, hlen_b5_, hW, hsz⟩
  rintro ρ3 w3 ⟨h1, h5, h12, Hb_b5_, hlen_b5_, hW, hsz⟩
  refine WP.cond rfl h12 (fun hb => ?_) (fun hb => ?_)
  · have hF := (if_pos hb).symm.trans hF
    refine WP.seq ?_
    refine WP.region mixed [[]] [[]] [[]] [] []
      [val 4 (.int .i64 29)] noG (by kernel_rfl)
      ⟨Stable.val _ _ _, trivial⟩
      ⟨fun ρz wz hE hA _ _ => core_val rfl rfl (o_assign rfl), trivial⟩ ?_
    intro ρ6 w6 hE hN hf hr
    have hN := hN rfl
    have h4 : ρ6 4 = .int .i64 29 := hf 0 rfl
    have hW := hW.trans hN
    have hsz := Nat.le_trans hsz hN.size
    refine WP.ret ?_
    show retQ Tryd.prog 17 Tryd.f84 (fun v w1 => v = .int .i64 r ∧ Ext noG w0 w1) .ret ρ6 w6
    obtain rfl := Option.some.inj hF
    exact res1 rfl (by decide) h4 ⟨rfl, hW⟩
  · have hF := (if_neg (Bool.eq_false_iff.1 hb)).symm.trans hF
    refine WP.skip ?_
    refine WP.seq ?_
    obtain ⟨y, hy, hF⟩ := obind hF
    refine WP.region mixed [[], [0], [1], [2], [3]] [[], [0], [1], [2], [3]] [[1], [], [5], [], []] [] []
      [val 13 (.int .i64 month_), val 14 (.int .i64 (i64 (month_ - 1))), val 15 (.pointer (some ((⟨b5_, 0, none⟩ : Addr).add (Int.toNat (i64 (month_ - 1)) * 1)))), val 16 (.int .i64 y), val 4 (.int .i64 y)] noG (by kernel_rfl)
      ⟨Stable.val _ _ _, Stable.val _ _ _, Stable.val _ _ _, Stable.val _ _ _, Stable.val _ _ _, trivial⟩
      ⟨fun ρz wz hE hA ⟨e1, _⟩ _ => core_val rfl rfl (o_move (e1.trans h1)),
     fun ρz wz hE hA _ ⟨u0, _⟩ => core_val rfl rfl (o_sub u0 rfl rfl),
     fun ρz wz hE hA ⟨e5, _⟩ ⟨u1, _⟩ => core_val rfl rfl (o_indexAddr (e5.trans h5) u1 (ia_117 (arr_lt hy (by first | exact hlen_b5_ | simp)))),
     fun ρz wz hE hA _ ⟨u2, _⟩ => core_val rfl rfl (o_load u2 (run_load1 (lr_3 _ _) (CA.elem (cells := fun x : Int => [Value.int .i64 x]) 1 (fun _ => rfl) ((Hb_b5_.exn (hA rfl)).ca) hy))),
     fun ρz wz hE hA _ ⟨u3, _⟩ => core_val rfl rfl (o_assign u3), trivial⟩ ?_
    intro ρ7 w7 hE hN hf hr
    have hN := hN rfl
    have h4 : ρ7 4 = .int .i64 y := hf 4 rfl
    have hW := hW.trans hN
    have hsz := Nat.le_trans hsz hN.size
    refine WP.ret ?_
    show retQ Tryd.prog 17 Tryd.f84 (fun v w1 => v = .int .i64 r ∧ Ext noG w0 w1) .ret ρ7 w7
    obtain rfl := Option.some.inj hF
    exact res1 rfl (by decide) h4 ⟨rfl, hW⟩

set_option maxHeartbeats 4000000 in
theorem calendar_validMonth_ok {w0 : World} (month_ : Int) {r : Bool} (hF : calendar_validMonth month_ = some r) :
    Calls Tryd.prog 83 #[.int .i64 month_] w0 fun e w1 => e = .returned (.bool r) ∧ Ext noG w0 w1 := by
  refine (Calls.start (P := Tryd.prog) (args := [.int .i64 month_]) (R := fun v w1 => v = .bool r ∧ Ext noG w0 w1) (n := 9) (w := w0) Tryd.func83 rfl rfl (Nat.le_of_ble_eq_true rfl) (fun ρ hargs => ?_)).mono (fun e w1 ⟨v, he, hv, hE⟩ => ⟨hv ▸ he, hE⟩)
  have h0 := hargs 0 _ rfl
  have hW := Ext.refl noG w0
  have hsz := Nat.le_refl w0.heap.size
  rw [calendar_validMonth] at hF
  refine WP.seq ?_
  refine WP.region mixed [[]] [[]] [[]] [] []
    [val 2 (.bool false)] noG (by kernel_rfl)
    ⟨Stable.val _ _ _, trivial⟩
    ⟨fun ρz wz hE hA _ _ => core_val rfl rfl (o_assign rfl), trivial⟩ ?_
  intro ρ1 w1 hE hN hf hr
  have hN := hN rfl
  have h0 := (hr 0 rfl).trans h0
  have hW := hW.trans hN
  have hsz := Nat.le_trans hsz hN.size
  refine WP.seq ?_
  refine WP.via (fun ρ w => ρ 2 = .bool (decide (0 ≤ month_) && decide (month_ ≤ 2399)) ∧ Ext noG w0 w ∧ w0.heap.size ≤ w.heap.size) ?_ ?_
  · rcases Bool.eq_false_or_eq_true (decide (0 ≤ month_)) with hd2 | hd2
    · refine WP.region mixed [[], [0], [1], [2], [2, 3], [2, 4], [5]] [[], [0], [1], [2], [2, 3], [2, 4], [5]] [[0], [], [], [0], [], [], []] [] []
        [val 3 (.int .i64 month_), val 4 (.bool (decide (0 ≤ month_))), val 5 (.bool true), val 6 (.int .i64 month_), val 7 (.bool (decide (month_ ≤ 2399))), val 8 (.bool (decide (month_ ≤ 2399))), val 2 (.bool (decide (month_ ≤ 2399)))] noG (by kernel_rfl)
        ⟨Stable.val _ _ _, Stable.val _ _ _, Stable.val _ _ _, Stable.val _ _ _, Stable.val _ _ _, Stable.val _ _ _, Stable.val _ _ _, trivial⟩
        ⟨fun ρz wz hE hA ⟨e0, _⟩ _ => core_val rfl rfl (o_move (e0.trans h0)),
     fun ρz wz hE hA _ ⟨u0, _⟩ => core_val rfl rfl (o_geq u0 rfl rfl),
     fun ρz wz hE hA _ ⟨u1, _⟩ => core_valE rfl rfl (congrArg Value.bool hd2) (o_move u1),
     fun ρz wz hE hA ⟨e0, _⟩ ⟨u2, _⟩ => gYes rfl u2 (core_val rfl rfl (o_move (e0.trans h0))),
     fun ρz wz hE hA _ ⟨u2, u3, _⟩ => gYes rfl u2 (core_val rfl rfl (o_leq u3 rfl rfl)),
     fun ρz wz hE hA _ ⟨u2, u4, _⟩ => core_val rfl rfl (o_pick_t u2 u4),
     fun ρz wz hE hA _ ⟨u5, _⟩ => core_val rfl rfl (o_assign u5), trivial⟩ ?_
      intro ρ3 w3 hE hN hf hr
      have hN := hN rfl
      have h2 : ρ3 2 = .bool (decide (month_ ≤ 2399)) := hf 6 rfl
      have hW := hW.trans hN
      have hsz := Nat.le_trans hsz hN.size
      exact ⟨(h2.trans (congrArg Value.bool (by simp [hd2]))), hW, hsz⟩
    · refine WP.region mixed [[], [0], [1], [2], [2], [2], [5]] [[], [0], [1], [2], [2], [2], [5]] [[0], [], [], [], [], [], []] [] []
        [val 3 (.int .i64 month_), val 4 (.bool (decide (0 ≤ month_))), val 5 (.bool false), anyF 6, anyF 7, val 8 (.bool false), val 2 (.bool false)] noG (by kernel_rfl)
        ⟨Stable.val _ _ _, Stable.val _ _ _, Stable.val _ _ _, Stable.any _ _, Stable.any _ _, Stable.val _ _ _, Stable.val _ _ _, trivial⟩
        ⟨fun ρz wz hE hA ⟨e0, _⟩ _ => core_val rfl rfl (o_move (e0.trans h0)),
     fun ρz wz hE hA _ ⟨u0, _⟩ => core_val rfl rfl (o_geq u0 rfl rfl),
     fun ρz wz hE hA _ ⟨u1, _⟩ => core_valE rfl rfl (congrArg Value.bool hd2) (o_move u1),
     fun _ _ _ _ _ ⟨u2, _⟩ => gNo rfl u2 rfl trivial,
     fun _ _ _ _ _ ⟨u2, _⟩ => gNo rfl u2 rfl trivial,
     fun ρz wz hE hA _ ⟨u2, _⟩ => core_val rfl rfl (o_pick_f u2 rfl),
     fun ρz wz hE hA _ ⟨u5, _⟩ => core_val rfl rfl (o_assign u5), trivial⟩ ?_
      intro ρ4 w4 hE hN hf hr
      have hN := hN rfl
      have h2 : ρ4 2 = .bool false := hf 6 rfl
      have hW := hW.trans hN
      have hsz := Nat.le_trans hsz hN.size
      exact ⟨(h2.trans (congrArg Value.bool (by simp [hd2]))), hW, hsz⟩
  rintro ρ2 w2 ⟨h2, hW, hsz⟩
  refine WP.ret ?_
  show retQ Tryd.prog 9 Tryd.f83 (fun v w1 => v = .bool r ∧ Ext noG w0 w1) .ret ρ2 w2
  obtain rfl := Option.some.inj hF
  exact res1 rfl (by decide) h2 ⟨rfl, hW⟩

set_option maxHeartbeats 4000000 in
theorem calendar_MonthDays_ok {w0 : World} (month_ : Int) {r : Int} (hF : calendar_MonthDays month_ = some r) :
    Calls Tryd.prog 67 #[.int .i64 month_] w0 fun e w1 => e = .returned (.int .i64 r) ∧ Ext noG w0 w1 := by
  refine (Calls.start (P := Tryd.prog) (args := [.int .i64 month_]) (R := fun v w1 => v = .int .i64 r ∧ Ext noG w0 w1) (n := 13) (w := w0) Tryd.func67 rfl rfl (Nat.le_of_ble_eq_true rfl) (fun ρ hargs => ?_)).mono (fun e w1 ⟨v, he, hv, hE⟩ => ⟨hv ▸ he, hE⟩)
  have h0 := hargs 0 _ rfl
  have hW := Ext.refl noG w0
  have hsz := Nat.le_refl w0.heap.size
  rw [calendar_MonthDays] at hF
  refine WP.seq ?_
  refine WP.region mixed [[]] [[]] [[]] [] []
    [val 2 (.int .i64 0)] noG (by kernel_rfl)
    ⟨Stable.val _ _ _, trivial⟩
    ⟨fun ρz wz hE hA _ _ => core_val rfl rfl (o_assign rfl), trivial⟩ ?_
  intro ρ1 w1 hE hN hf hr
  have hN := hN rfl
  have h0 := (hr 0 rfl).trans h0
  have hW := hW.trans hN
  have hsz := Nat.le_trans hsz hN.size
  refine WP.seq ?_
  refine WP.seq ?_
  obtain ⟨z, hz, hF⟩ := obind hF
  refine WP.region mixed [[], [0], [1]] [[], [0], [1]] [[0], [], []] [] []
    [val 3 (.int .i64 month_), val 4 (.bool z), val 5 (.bool (!z))] noG (by kernel_rfl)
    ⟨Stable.val _ _ _, Stable.val _ _ _, Stable.val _ _ _, trivial⟩
    ⟨fun ρz wz hE hA ⟨e0, _⟩ _ => core_val rfl rfl (o_move (e0.trans h0)),
     fun ρz wz hE hA _ ⟨u0, _⟩ => core_call rfl (call_args1 u0) cf_83 (calendar_validMonth_ok  _  hz),
     fun ρz wz hE hA _ ⟨u1, _⟩ => core_val rfl rfl (o_not u1 rfl), trivial⟩ ?_
  intro ρ2 w2 hE hN hf hr
  have hN := hN rfl
  have h0 := (hr 0 rfl).trans h0
  have h5 : ρ2 5 = .bool (!z) := hf 2 rfl
  have hW := hW.trans hN
  have hsz := Nat.le_trans hsz hN.size
  refine WP.cond rfl h5 (fun hb => ?_) (fun hb => ?_)
  · have hF := (if_pos hb).symm.trans hF
    refine WP.seq ?_
    refine WP.region mixed [[]] [[]] [[]] [] []
      [val 2 (.int .i64 0)] noG (by kernel_rfl)
      ⟨Stable.val _ _ _, trivial⟩
      ⟨fun ρz wz hE hA _ _ => core_val rfl rfl (o_assign rfl), trivial⟩ ?_
    intro ρ3 w3 hE hN hf hr
    have hN := hN rfl
    have h2 : ρ3 2 = .int .i64 0 := hf 0 rfl
    have hW := hW.trans hN
    have hsz := Nat.le_trans hsz hN.size
    refine WP.ret ?_
    show retQ Tryd.prog 13 Tryd.f67 (fun v w1 => v = .int .i64 r ∧ Ext noG w0 w1) .ret ρ3 w3
    obtain rfl := Option.some.inj hF
    exact res1 rfl (by decide) h2 ⟨rfl, hW⟩
  · have hF := (if_neg (Bool.eq_false_iff.1 hb)).symm.trans hF
    refine WP.skip ?_
    refine WP.seq ?_
    obtain ⟨z2, hz2, hF⟩ := obind hF
    refine WP.region mixed [[], [0], [1], [], [3], [4], [2, 5], [6]] [[], [0], [1], [], [3], [4], [2, 5], [6]] [[0], [], [], [0], [], [], [], []] [] []
      [val 6 (.int .i64 month_), val 7 (.int .i64 (i64 (Int.tdiv month_ 12))), val 8 (.int .i64 (i64 (1900 + i64 (Int.tdiv month_ 12)))), val 9 (.int .i64 month_), val 10 (.int .i64 (Int.tmod month_ 12)), val 11 (.int .i64 (i64 (Int.tmod month_ 12 + 1))), val 12 (.int .i64 z2), val 2 (.int .i64 z2)] noG (by kernel_rfl)
      ⟨Stable.val _ _ _, Stable.val _ _ _, Stable.val _ _ _, Stable.val _ _ _, Stable.val _ _ _, Stable.val _ _ _, Stable.val _ _ _, Stable.val _ _ _, trivial⟩
      ⟨fun ρz wz hE hA ⟨e0, _⟩ _ => core_val rfl rfl (o_move (e0.trans h0)),
     fun ρz wz hE hA _ ⟨u0, _⟩ => core_val rfl rfl (o_quo u0 rfl (by decide) rfl),
     fun ρz wz hE hA _ ⟨u1, _⟩ => core_val rfl rfl (o_add rfl u1 rfl),
     fun ρz wz hE hA ⟨e0, _⟩ _ => core_val rfl rfl (o_move (e0.trans h0)),
     fun ρz wz hE hA _ ⟨u3, _⟩ => core_val rfl rfl (o_rem u3 rfl (by decide) rfl),
     fun ρz wz hE hA _ ⟨u4, _⟩ => core_val rfl rfl (o_add u4 rfl rfl),
     fun ρz wz hE hA _ ⟨u2, u5, _⟩ => core_call rfl (call_args2 u2 u5) cf_84 (calendar_monthLength_ok  _ _  hz2),
     fun ρz wz hE hA _ ⟨u6, _⟩ => core_val rfl rfl (o_assign u6), trivial⟩ ?_
    intro ρ4 w4 hE hN hf hr
    have hN := hN rfl
    have h2 : ρ4 2 = .int .i64 z2 := hf 7 rfl
    have hW := hW.trans hN
    have hsz := Nat.le_trans hsz hN.size
    refine WP.ret ?_
    show retQ Tryd.prog 13 Tryd.f67 (fun v w1 => v = .int .i64 r ∧ Ext noG w0 w1) .ret ρ4 w4
    obtain rfl := Option.some.inj hF
    exact res1 rfl (by decide) h2 ⟨rfl, hW⟩

set_option maxHeartbeats 4000000 in
theorem money_currency_ok {w0 : World} (x_ : Int) {r : Bool} (hF : money_currency x_ = some r) :
    Calls Tryd.prog 43 #[.int .i64 x_] w0 fun e w1 => e = .returned (.bool r) ∧ Ext noG w0 w1 := by
  refine (Calls.start (P := Tryd.prog) (args := [.int .i64 x_]) (R := fun v w1 => v = .bool r ∧ Ext noG w0 w1) (n := 9) (w := w0) Tryd.func43 rfl rfl (Nat.le_of_ble_eq_true rfl) (fun ρ hargs => ?_)).mono (fun e w1 ⟨v, he, hv, hE⟩ => ⟨hv ▸ he, hE⟩)
  have h0 := hargs 0 _ rfl
  have hW := Ext.refl noG w0
  have hsz := Nat.le_refl w0.heap.size
  rw [money_currency] at hF
  refine WP.seq ?_
  refine WP.region mixed [[]] [[]] [[]] [] []
    [val 2 (.bool false)] noG (by kernel_rfl)
    ⟨Stable.val _ _ _, trivial⟩
    ⟨fun ρz wz hE hA _ _ => core_val rfl rfl (o_assign rfl), trivial⟩ ?_
  intro ρ1 w1 hE hN hf hr
  have hN := hN rfl
  have h0 := (hr 0 rfl).trans h0
  have hW := hW.trans hN
  have hsz := Nat.le_trans hsz hN.size
  refine WP.seq ?_
  refine WP.via (fun ρ w => ρ 2 = .bool (decide (1 ≤ x_) && decide (x_ ≤ 999)) ∧ Ext noG w0 w ∧ w0.heap.size ≤ w.heap.size) ?_ ?_
  · rcases Bool.eq_false_or_eq_true (decide (1 ≤ x_)) with hd2 | hd2
    · refine WP.region mixed [[], [0], [1], [2], [2, 3], [2, 4], [5]] [[], [0], [1], [2], [2, 3], [2, 4], [5]] [[0], [], [], [0], [], [], []] [] []
        [val 3 (.int .i64 x_), val 4 (.bool (decide (1 ≤ x_))), val 5 (.bool true), val 6 (.int .i64 x_), val 7 (.bool (decide (x_ ≤ 999))), val 8 (.bool (decide (x_ ≤ 999))), val 2 (.bool (decide (x_ ≤ 999)))] noG (by kernel_rfl)
        ⟨Stable.val _ _ _, Stable.val _ _ _, Stable.val _ _ _, Stable.val _ _ _, Stable.val _ _ _, Stable.val _ _ _, Stable.val _ _ _, trivial⟩
        ⟨fun ρz wz hE hA ⟨e0, _⟩ _ => core_val rfl rfl (o_move (e0.trans h0)),
     fun ρz wz hE hA _ ⟨u0, _⟩ => core_val rfl rfl (o_geq u0 rfl rfl),
     fun ρz wz hE hA _ ⟨u1, _⟩ => core_valE rfl rfl (congrArg Value.bool hd2) (o_move u1),
     fun ρz wz hE hA ⟨e0, _⟩ ⟨u2, _⟩ => gYes rfl u2 (core_val rfl rfl (o_move (e0.trans h0))),
     fun ρz wz hE hA _ ⟨u2, u3, _⟩ => gYes rfl u2 (core_val rfl rfl (o_leq u3 rfl rfl)),
     fun ρz wz hE hA _ ⟨u2, u4, _⟩ => core_val rfl rfl (o_pick_t u2 u4),
     fun ρz wz hE hA _ ⟨u5, _⟩ => core_val rfl rfl (o_assign u5), trivial⟩ ?_
      intro ρ3 w3 hE hN hf hr
      have hN := hN rfl
      have h2 : ρ3 2 = .bool (decide (x_ ≤ 999)) := hf 6 rfl
      have hW := hW.trans hN
      have hsz := Nat.le_trans hsz hN.size
      exact ⟨(h2.trans (congrArg Value.bool (by simp [hd2]))), hW, hsz⟩
    · refine WP.region mixed [[], [0], [1], [2], [2], [2], [5]] [[], [0], [1], [2], [2], [2], [5]] [[0], [], [], [], [], [], []] [] []
        [val 3 (.int .i64 x_), val 4 (.bool (decide (1 ≤ x_))), val 5 (.bool false), anyF 6, anyF 7, val 8 (.bool false), val 2 (.bool false)] noG (by kernel_rfl)
        ⟨Stable.val _ _ _, Stable.val _ _ _, Stable.val _ _ _, Stable.any _ _, Stable.any _ _, Stable.val _ _ _, Stable.val _ _ _, trivial⟩
        ⟨fun ρz wz hE hA ⟨e0, _⟩ _ => core_val rfl rfl (o_move (e0.trans h0)),
     fun ρz wz hE hA _ ⟨u0, _⟩ => core_val rfl rfl (o_geq u0 rfl rfl),
     fun ρz wz hE hA _ ⟨u1, _⟩ => core_valE rfl rfl (congrArg Value.bool hd2) (o_move u1),
     fun _ _ _ _ _ ⟨u2, _⟩ => gNo rfl u2 rfl trivial,
     fun _ _ _ _ _ ⟨u2, _⟩ => gNo rfl u2 rfl trivial,
     fun ρz wz hE hA _ ⟨u2, _⟩ => core_val rfl rfl (o_pick_f u2 rfl),
     fun ρz wz hE hA _ ⟨u5, _⟩ => core_val rfl rfl (o_assign u5), trivial⟩ ?_
      intro ρ4 w4 hE hN hf hr
      have hN := hN rfl
      have h2 : ρ4 2 = .bool false := hf 6 rfl
      have hW := hW.trans hN
      have hsz := Nat.le_trans hsz hN.size
      exact ⟨(h2.trans (congrArg Value.bool (by simp [hd2]))), hW, hsz⟩
  rintro ρ2 w2 ⟨h2, hW, hsz⟩
  refine WP.ret ?_
  show retQ Tryd.prog 9 Tryd.f43 (fun v w1 => v = .bool r ∧ Ext noG w0 w1) .ret ρ2 w2
  obtain rfl := Option.some.inj hF
  exact res1 rfl (by decide) h2 ⟨rfl, hW⟩

set_option maxHeartbeats 4000000 in
theorem money_small_ok {w0 : World} (x_ : Int) {r : Bool} (hF : money_small x_ = some r) :
    Calls Tryd.prog 46 #[.int .i64 x_] w0 fun e w1 => e = .returned (.bool r) ∧ Ext noG w0 w1 := by
  refine (Calls.start (P := Tryd.prog) (args := [.int .i64 x_]) (R := fun v w1 => v = .bool r ∧ Ext noG w0 w1) (n := 9) (w := w0) Tryd.func46 rfl rfl (Nat.le_of_ble_eq_true rfl) (fun ρ hargs => ?_)).mono (fun e w1 ⟨v, he, hv, hE⟩ => ⟨hv ▸ he, hE⟩)
  have h0 := hargs 0 _ rfl
  have hW := Ext.refl noG w0
  have hsz := Nat.le_refl w0.heap.size
  rw [money_small] at hF
  refine WP.seq ?_
  refine WP.region mixed [[]] [[]] [[]] [] []
    [val 2 (.bool false)] noG (by kernel_rfl)
    ⟨Stable.val _ _ _, trivial⟩
    ⟨fun ρz wz hE hA _ _ => core_val rfl rfl (o_assign rfl), trivial⟩ ?_
  intro ρ1 w1 hE hN hf hr
  have hN := hN rfl
  have h0 := (hr 0 rfl).trans h0
  have hW := hW.trans hN
  have hsz := Nat.le_trans hsz hN.size
  refine WP.seq ?_
  refine WP.via (fun ρ w => ρ 2 = .bool (decide (1 ≤ x_) && decide (x_ ≤ 1000000)) ∧ Ext noG w0 w ∧ w0.heap.size ≤ w.heap.size) ?_ ?_
  · rcases Bool.eq_false_or_eq_true (decide (1 ≤ x_)) with hd2 | hd2
    · refine WP.region mixed [[], [0], [1], [2], [2, 3], [2, 4], [5]] [[], [0], [1], [2], [2, 3], [2, 4], [5]] [[0], [], [], [0], [], [], []] [] []
        [val 3 (.int .i64 x_), val 4 (.bool (decide (1 ≤ x_))), val 5 (.bool true), val 6 (.int .i64 x_), val 7 (.bool (decide (x_ ≤ 1000000))), val 8 (.bool (decide (x_ ≤ 1000000))), val 2 (.bool (decide (x_ ≤ 1000000)))] noG (by kernel_rfl)
        ⟨Stable.val _ _ _, Stable.val _ _ _, Stable.val _ _ _, Stable.val _ _ _, Stable.val _ _ _, Stable.val _ _ _, Stable.val _ _ _, trivial⟩
        ⟨fun ρz wz hE hA ⟨e0, _⟩ _ => core_val rfl rfl (o_move (e0.trans h0)),
     fun ρz wz hE hA _ ⟨u0, _⟩ => core_val rfl rfl (o_geq u0 rfl rfl),
     fun ρz wz hE hA _ ⟨u1, _⟩ => core_valE rfl rfl (congrArg Value.bool hd2) (o_move u1),
     fun ρz wz hE hA ⟨e0, _⟩ ⟨u2, _⟩ => gYes rfl u2 (core_val rfl rfl (o_move (e0.trans h0))),
     fun ρz wz hE hA _ ⟨u2, u3, _⟩ => gYes rfl u2 (core_val rfl rfl (o_leq u3 rfl rfl)),
     fun ρz wz hE hA _ ⟨u2, u4, _⟩ => core_val rfl rfl (o_pick_t u2 u4),
     fun ρz wz hE hA _ ⟨u5, _⟩ => core_val rfl rfl (o_assign u5), trivial⟩ ?_
      intro ρ3 w3 hE hN hf hr
      have hN := hN rfl
      have h2 : ρ3 2 = .bool (decide (x_ ≤ 1000000)) := hf 6 rfl
      have hW := hW.trans hN
      have hsz := Nat.le_trans hsz hN.size
      exact ⟨(h2.trans (congrArg Value.bool (by simp [hd2]))), hW, hsz⟩
    · refine WP.region mixed [[], [0], [1], [2], [2], [2], [5]] [[], [0], [1], [2], [2], [2], [5]] [[0], [], [], [], [], [], []] [] []
        [val 3 (.int .i64 x_), val 4 (.bool (decide (1 ≤ x_))), val 5 (.bool false), anyF 6, anyF 7, val 8 (.bool false), val 2 (.bool false)] noG (by kernel_rfl)
        ⟨Stable.val _ _ _, Stable.val _ _ _, Stable.val _ _ _, Stable.any _ _, Stable.any _ _, Stable.val _ _ _, Stable.val _ _ _, trivial⟩
        ⟨fun ρz wz hE hA ⟨e0, _⟩ _ => core_val rfl rfl (o_move (e0.trans h0)),
     fun ρz wz hE hA _ ⟨u0, _⟩ => core_val rfl rfl (o_geq u0 rfl rfl),
     fun ρz wz hE hA _ ⟨u1, _⟩ => core_valE rfl rfl (congrArg Value.bool hd2) (o_move u1),
     fun _ _ _ _ _ ⟨u2, _⟩ => gNo rfl u2 rfl trivial,
     fun _ _ _ _ _ ⟨u2, _⟩ => gNo rfl u2 rfl trivial,
     fun ρz wz hE hA _ ⟨u2, _⟩ => core_val rfl rfl (o_pick_f u2 rfl),
     fun ρz wz hE hA _ ⟨u5, _⟩ => core_val rfl rfl (o_assign u5), trivial⟩ ?_
      intro ρ4 w4 hE hN hf hr
      have hN := hN rfl
      have h2 : ρ4 2 = .bool false := hf 6 rfl
      have hW := hW.trans hN
      have hsz := Nat.le_trans hsz hN.size
      exact ⟨(h2.trans (congrArg Value.bool (by simp [hd2]))), hW, hsz⟩
  rintro ρ2 w2 ⟨h2, hW, hsz⟩
  refine WP.ret ?_
  show retQ Tryd.prog 9 Tryd.f46 (fun v w1 => v = .bool r ∧ Ext noG w0 w1) .ret ρ2 w2
  obtain rfl := Option.some.inj hF
  exact res1 rfl (by decide) h2 ⟨rfl, hW⟩

set_option maxHeartbeats 4000000 in
theorem money_size_ok {w0 : World} (x_ : Int) {r : Int} (hF : money_size x_ = some r) :
    Calls Tryd.prog 59 #[.int .i64 x_] w0 fun e w1 => e = .returned (.int .u64 r) ∧ Ext noG w0 w1 := by
  refine (Calls.start (P := Tryd.prog) (args := [.int .i64 x_]) (R := fun v w1 => v = .int .u64 r ∧ Ext noG w0 w1) (n := 10) (w := w0) Tryd.func59 rfl rfl (Nat.le_of_ble_eq_true rfl) (fun ρ hargs => ?_)).mono (fun e w1 ⟨v, he, hv, hE⟩ => ⟨hv ▸ he, hE⟩)
  have h0 := hargs 0 _ rfl
  have hW := Ext.refl noG w0
  have hsz := Nat.le_refl w0.heap.size
  rw [money_size] at hF
  refine WP.seq ?_
  refine WP.region mixed [[]] [[]] [[]] [] []
    [val 2 (.int .u64 0)] noG (by kernel_rfl)
    ⟨Stable.val _ _ _, trivial⟩
    ⟨fun ρz wz hE hA _ _ => core_val rfl rfl (o_assign rfl), trivial⟩ ?_
  intro ρ1 w1 hE hN hf hr
  have hN := hN rfl
  have h0 := (hr 0 rfl).trans h0
  have hW := hW.trans hN
  have hsz := Nat.le_trans hsz hN.size
  refine WP.seq ?_
  refine WP.seq ?_
  refine WP.region mixed [[], [0]] [[], [0]] [[0], []] [] []
    [val 3 (.int .i64 x_), val 4 (.bool (decide (x_ < 0)))] noG (by kernel_rfl)
    ⟨Stable.val _ _ _, Stable.val _ _ _, trivial⟩
    ⟨fun ρz wz hE hA ⟨e0, _⟩ _ => core_val rfl rfl (o_move (e0.trans h0)),
     fun ρz wz hE hA _ ⟨u0, _⟩ => core_val rfl rfl (o_lss u0 rfl rfl), trivial⟩ ?_
  intro ρ2 w2 hE hN hf hr
  have hN := hN rfl
  have h0 := (hr 0 rfl).trans h0
  have h4 : ρ2 4 = .bool (decide (x_ < 0)) := hf 1 rfl
  have hW := hW.trans hN
  have hsz := Nat.le_trans hsz hN.size
  refine WP.cond rfl h4 (fun hb => ?_) (fun hb => ?_)
  · have hF := (if_pos hb).symm.trans hF
    refine WP.seq ?_
    refine WP.region mixed [[], [0], [1], [2]] [[], [0], [1], [2]] [[0], [], [], []] [] []
      [val 5 (.int .i64 x_), val 6 (.int .i64 (i64 (-x_))), val 7 (.int .u64 (u64 (i64 (-x_)))), val 2 (.int .u64 (u64 (i64 (-x_))))] noG (by kernel_rfl)
      ⟨Stable.val _ _ _, Stable.val _ _ _, Stable.val _ _ _, Stable.val _ _ _, trivial⟩
      ⟨fun ρz wz hE hA ⟨e0, _⟩ _ => core_val rfl rfl (o_move (e0.trans h0)),
     fun ρz wz hE hA _ ⟨u0, _⟩ => core_val rfl rfl (o_neg u0 rfl),
     fun ρz wz hE hA _ ⟨u1, _⟩ => core_val rfl rfl (o_conv u1 (cv_3_62 _ _)),
     fun ρz wz hE hA _ ⟨u2, _⟩ => core_val rfl rfl (o_assign u2), trivial⟩ ?_
    intro ρ3 w3 hE hN hf hr
    have hN := hN rfl
    have h2 : ρ3 2 = .int .u64 (u64 (i64 (-x_))) := hf 3 rfl
    have hW := hW.trans hN
    have hsz := Nat.le_trans hsz hN.size
    refine WP.ret ?_
    show retQ Tryd.prog 10 Tryd.f59 (fun v w1 => v = .int .u64 r ∧ Ext noG w0 w1) .ret ρ3 w3
    obtain rfl := Option.some.inj hF
    exact res1 rfl (by decide) h2 ⟨rfl, hW⟩
  · have hF := (if_neg (Bool.eq_false_iff.1 hb)).symm.trans hF
    refine WP.skip ?_
    refine WP.seq ?_
    refine WP.region mixed [[], [0], [1]] [[], [0], [1]] [[0], [], []] [] []
      [val 8 (.int .i64 x_), val 9 (.int .u64 (u64 x_)), val 2 (.int .u64 (u64 x_))] noG (by kernel_rfl)
      ⟨Stable.val _ _ _, Stable.val _ _ _, Stable.val _ _ _, trivial⟩
      ⟨fun ρz wz hE hA ⟨e0, _⟩ _ => core_val rfl rfl (o_move (e0.trans h0)),
     fun ρz wz hE hA _ ⟨u0, _⟩ => core_val rfl rfl (o_conv u0 (cv_3_62 _ _)),
     fun ρz wz hE hA _ ⟨u1, _⟩ => core_val rfl rfl (o_assign u1), trivial⟩ ?_
    intro ρ4 w4 hE hN hf hr
    have hN := hN rfl
    have h2 : ρ4 2 = .int .u64 (u64 x_) := hf 2 rfl
    have hW := hW.trans hN
    have hsz := Nat.le_trans hsz hN.size
    refine WP.ret ?_
    show retQ Tryd.prog 10 Tryd.f59 (fun v w1 => v = .int .u64 r ∧ Ext noG w0 w1) .ret ρ4 w4
    obtain rfl := Option.some.inj hF
    exact res1 rfl (by decide) h2 ⟨rfl, hW⟩

set_option maxHeartbeats 4000000 in
theorem rational_size_ok {w0 : World} (x_ : Int) {r : Int} (hF : rational_size x_ = some r) :
    Calls Tryd.prog 69 #[.int .i64 x_] w0 fun e w1 => e = .returned (.int .u64 r) ∧ Ext noG w0 w1 := by
  refine (Calls.start (P := Tryd.prog) (args := [.int .i64 x_]) (R := fun v w1 => v = .int .u64 r ∧ Ext noG w0 w1) (n := 10) (w := w0) Tryd.func69 rfl rfl (Nat.le_of_ble_eq_true rfl) (fun ρ hargs => ?_)).mono (fun e w1 ⟨v, he, hv, hE⟩ => ⟨hv ▸ he, hE⟩)
  have h0 := hargs 0 _ rfl
  have hW := Ext.refl noG w0
  have hsz := Nat.le_refl w0.heap.size
  rw [rational_size] at hF
  refine WP.seq ?_
  refine WP.region mixed [[]] [[]] [[]] [] []
    [val 2 (.int .u64 0)] noG (by kernel_rfl)
    ⟨Stable.val _ _ _, trivial⟩
    ⟨fun ρz wz hE hA _ _ => core_val rfl rfl (o_assign rfl), trivial⟩ ?_
  intro ρ1 w1 hE hN hf hr
  have hN := hN rfl
  have h0 := (hr 0 rfl).trans h0
  have hW := hW.trans hN
  have hsz := Nat.le_trans hsz hN.size
  refine WP.seq ?_
  refine WP.seq ?_
  refine WP.region mixed [[], [0]] [[], [0]] [[0], []] [] []
    [val 3 (.int .i64 x_), val 4 (.bool (decide (x_ < 0)))] noG (by kernel_rfl)
    ⟨Stable.val _ _ _, Stable.val _ _ _, trivial⟩
    ⟨fun ρz wz hE hA ⟨e0, _⟩ _ => core_val rfl rfl (o_move (e0.trans h0)),
     fun ρz wz hE hA _ ⟨u0, _⟩ => core_val rfl rfl (o_lss u0 rfl rfl), trivial⟩ ?_
  intro ρ2 w2 hE hN hf hr
  have hN := hN rfl
  have h0 := (hr 0 rfl).trans h0
  have h4 : ρ2 4 = .bool (decide (x_ < 0)) := hf 1 rfl
  have hW := hW.trans hN
  have hsz := Nat.le_trans hsz hN.size
  refine WP.cond rfl h4 (fun hb => ?_) (fun hb => ?_)
  · have hF := (if_pos hb).symm.trans hF
    refine WP.seq ?_
    refine WP.region mixed [[], [0], [1], [2]] [[], [0], [1], [2]] [[0], [], [], []] [] []
      [val 5 (.int .i64 x_), val 6 (.int .u64 (u64 x_)), val 7 (.int .u64 (u64 (-(u64 x_)))), val 2 (.int .u64 (u64 (-(u64 x_))))] noG (by kernel_rfl)
      ⟨Stable.val _ _ _, Stable.val _ _ _, Stable.val _ _ _, Stable.val _ _ _, trivial⟩
      ⟨fun ρz wz hE hA ⟨e0, _⟩ _ => core_val rfl rfl (o_move (e0.trans h0)),
     fun ρz wz hE hA _ ⟨u0, _⟩ => core_val rfl rfl (o_conv u0 (cv_3_62 _ _)),
     fun ρz wz hE hA _ ⟨u1, _⟩ => core_val rfl rfl (o_neg u1 rfl),
     fun ρz wz hE hA _ ⟨u2, _⟩ => core_val rfl rfl (o_assign u2), trivial⟩ ?_
    intro ρ3 w3 hE hN hf hr
    have hN := hN rfl
    have h2 : ρ3 2 = .int .u64 (u64 (-(u64 x_))) := hf 3 rfl
    have hW := hW.trans hN
    have hsz := Nat.le_trans hsz hN.size
    refine WP.ret ?_
    show retQ Tryd.prog 10 Tryd.f69 (fun v w1 => v = .int .u64 r ∧ Ext noG w0 w1) .ret ρ3 w3
    obtain rfl := Option.some.inj hF
    exact res1 rfl (by decide) h2 ⟨rfl, hW⟩
  · have hF := (if_neg (Bool.eq_false_iff.1 hb)).symm.trans hF
    refine WP.skip ?_
    refine WP.seq ?_
    refine WP.region mixed [[], [0], [1]] [[], [0], [1]] [[0], [], []] [] []
      [val 8 (.int .i64 x_), val 9 (.int .u64 (u64 x_)), val 2 (.int .u64 (u64 x_))] noG (by kernel_rfl)
      ⟨Stable.val _ _ _, Stable.val _ _ _, Stable.val _ _ _, trivial⟩
      ⟨fun ρz wz hE hA ⟨e0, _⟩ _ => core_val rfl rfl (o_move (e0.trans h0)),
     fun ρz wz hE hA _ ⟨u0, _⟩ => core_val rfl rfl (o_conv u0 (cv_3_62 _ _)),
     fun ρz wz hE hA _ ⟨u1, _⟩ => core_val rfl rfl (o_assign u1), trivial⟩ ?_
    intro ρ4 w4 hE hN hf hr
    have hN := hN rfl
    have h2 : ρ4 2 = .int .u64 (u64 x_) := hf 2 rfl
    have hW := hW.trans hN
    have hsz := Nat.le_trans hsz hN.size
    refine WP.ret ?_
    show retQ Tryd.prog 10 Tryd.f69 (fun v w1 => v = .int .u64 r ∧ Ext noG w0 w1) .ret ρ4 w4
    obtain rfl := Option.some.inj hF
    exact res1 rfl (by decide) h2 ⟨rfl, hW⟩

set_option maxHeartbeats 4000000 in
theorem rational_gcd_ok {w0 : World} (a_ : Int) (b_ : Int) {r : Int} (hF : rational_gcd a_ b_ = some r) :
    Calls Tryd.prog 68 #[.int .u64 a_, .int .u64 b_] w0 fun e w1 => e = .returned (.int .u64 r) ∧ Ext noG w0 w1 := by
  refine (Calls.start (P := Tryd.prog) (args := [.int .u64 a_, .int .u64 b_]) (R := fun v w1 => v = .int .u64 r ∧ Ext noG w0 w1) (n := 12) (w := w0) Tryd.func68 rfl rfl (Nat.le_of_ble_eq_true rfl) (fun ρ hargs => ?_)).mono (fun e w1 ⟨v, he, hv, hE⟩ => ⟨hv ▸ he, hE⟩)
  have h0 := hargs 0 _ rfl
  have h1 := hargs 1 _ rfl
  have hW := Ext.refl noG w0
  have hsz := Nat.le_refl w0.heap.size
  rw [rational_gcd] at hF
  refine WP.seq ?_
  refine WP.region mixed [[]] [[]] [[]] [] []
    [val 4 (.int .u64 0)] noG (by kernel_rfl)
    ⟨Stable.val _ _ _, trivial⟩
    ⟨fun ρz wz hE hA _ _ => core_val rfl rfl (o_assign rfl), trivial⟩ ?_
  intro ρ1 w1 hE hN hf hr
  have hN := hN rfl
  have h0 := (hr 0 rfl).trans h0
  have h1 := (hr 1 rfl).trans h1
  have hW := hW.trans hN
  have hsz := Nat.le_trans hsz hN.size
  refine WP.seq ?_
  refine WP.block ?_
  refine WP.loop (fun k_ ρ w => ∃ a_2 : Int, ∃ b_2 : Int, ρ 0 = .int .u64 a_2 ∧ ρ 1 = .int .u64 b_2 ∧ Ext noG w0 w ∧ w0.heap.size ≤ w.heap.size ∧ loopC k_ rational_gcd_l (a_2, b_2) = some r) FU ⟨a_, b_, h0, h1, hW, hsz, hF⟩ (fun _ _ h => by obtain ⟨_, _, _, _, _, _, h⟩ := h; cases h) ?_
  rintro k_ ρ2 w2 ⟨a_2, b_2, h0, h1, hW, hsz, hF⟩
  have hF : rational_gcd_l (loopC k_ rational_gcd_l) (a_2, b_2) = some r := hF
  generalize hrec_ : loopC k_ rational_gcd_l = rec_ at hF
  rw [rational_gcd_l] at hF
  refine WP.seq ?_
  refine WP.seq ?_
  refine WP.region mixed [[], [0]] [[], [0]] [[1], []] [] []
    [val 5 (.int .u64 b_2), val 6 (.bool (b_2 != 0))] noG (by kernel_rfl)
    ⟨Stable.val _ _ _, Stable.val _ _ _, trivial⟩
    ⟨fun ρz wz hE hA ⟨e1, _⟩ _ => core_val rfl rfl (o_move (e1.trans h1)),
     fun ρz wz hE hA _ ⟨u0, _⟩ => core_val rfl rfl (o_neq u0 rfl rfl), trivial⟩ ?_
  intro ρ3 w3 hE hN hf hr
  have hN := hN rfl
  have h0 := (hr 0 rfl).trans h0
  have h1 := (hr 1 rfl).trans h1
  have h6 : ρ3 6 = .bool (b_2 != 0) := hf 1 rfl
  have hW := hW.trans hN
  have hsz := Nat.le_trans hsz hN.size
  refine WP.cond rfl h6 (fun hb => ?_) (fun hb => ?_)
  · have hF := (if_pos hb).symm.trans hF
    refine WP.skip ?_
    refine WP.block ?_
    obtain ⟨q, hq, hF⟩ := obind hF
    refine WP.region mixed [[], [], [], [1, 2], [0, 1], [0, 2, 3]] [[], [], [], [1, 2], [0], [3]] [[1], [0], [1], [], [], []] [] []
      [val 7 (.int .u64 b_2), val 8 (.int .u64 a_2), val 9 (.int .u64 b_2), val 10 (.int .u64 q), val 0 (.int .u64 b_2), val 1 (.int .u64 q)] noG (by kernel_rfl)
      ⟨Stable.val _ _ _, Stable.val _ _ _, Stable.val _ _ _, Stable.val _ _ _, Stable.val _ _ _, Stable.val _ _ _, trivial⟩
      ⟨fun ρz wz hE hA ⟨e1, _⟩ _ => core_val rfl rfl (o_move (e1.trans h1)),
     fun ρz wz hE hA ⟨e0, _⟩ _ => core_val rfl rfl (o_move (e0.trans h0)),
     fun ρz wz hE hA ⟨e1, _⟩ _ => core_val rfl rfl (o_move (e1.trans h1)),
     fun ρz wz hE hA _ ⟨u1, u2, _⟩ => core_val rfl rfl (o_rem u1 u2 (remI_some hq).1 (remI_some hq).2),
     fun ρz wz hE hA _ ⟨u0, _⟩ => core_val rfl rfl (o_assign u0),
     fun ρz wz hE hA _ ⟨u3, _⟩ => core_val rfl rfl (o_assign u3), trivial⟩ ?_
    intro ρ4 w4 hE hN hf hr
    have hN := hN rfl
    have h0 : ρ4 0 = .int .u64 b_2 := hf 4 rfl
    have h1 : ρ4 1 = .int .u64 q := hf 5 rfl
    have hW := hW.trans hN
    have hsz := Nat.le_trans hsz hN.size
    exact ⟨b_2, q, h0, h1, hW, hsz, (by first | exact hF | (rw [hrec_]; exact hF))⟩
  · have hF := (if_neg (Bool.eq_false_iff.1 hb)).symm.trans hF
    refine WP.exit ?_
    refine thenQ_exit ?_
    refine thenQ_exit ?_
    refine blockQ_hit ?_
    refine WP.seq ?_
    refine WP.region mixed [[], [0]] [[], [0]] [[0], []] [] []
      [val 11 (.int .u64 a_2), val 4 (.int .u64 a_2)] noG (by kernel_rfl)
      ⟨Stable.val _ _ _, Stable.val _ _ _, trivial⟩
      ⟨fun ρz wz hE hA ⟨e0, _⟩ _ => core_val rfl rfl (o_move (e0.trans h0)),
     fun ρz wz hE hA _ ⟨u0, _⟩ => core_val rfl rfl (o_assign u0), trivial⟩ ?_
    intro ρ5 w5 hE hN hf hr
    have hN := hN rfl
    have h4 : ρ5 4 = .int .u64 a_2 := hf 1 rfl
    have hW := hW.trans hN
    have hsz := Nat.le_trans hsz hN.size
    refine WP.ret ?_
    show retQ Tryd.prog 12 Tryd.f68 (fun v w1 => v = .int .u64 r ∧ Ext noG w0 w1) .ret ρ5 w5
    obtain rfl := Option.some.inj hF
    exact res1 rfl (by decide) h4 ⟨rfl, hW⟩

set_option maxHeartbeats 4000000 in
theorem rational_Valid_ok {w0 : World} (f_ : Fraction) {r : Bool} (hF : rational_Valid f_ = some r) :
    Calls Tryd.prog 45 #[Fraction.val f_] w0 fun e w1 => e = .returned (.bool r) ∧ Ext noG w0 w1 := by
  refine (Calls.start (P := Tryd.prog) (args := [Fraction.val f_]) (R := fun v w1 => v = .bool r ∧ Ext noG w0 w1) (n := 31) (w := w0) Tryd.func45 rfl rfl (Nat.le_of_ble_eq_true rfl) (fun ρ hargs => ?_)).mono (fun e w1 ⟨v, he, hv, hE⟩ => ⟨hv ▸ he, hE⟩)
  have h0 := hargs 0 _ rfl
  have hW := Ext.refl noG w0
  have hsz := Nat.le_refl w0.heap.size
  rw [rational_Valid] at hF
  refine WP.seq ?_
  refine WP.region mixed [[], []] [[], []] [[0], []] [] []
    [(1, fun u wz => ∃ b, u = .pointer (some ⟨b, 0, none⟩) ∧ w0.heap.size ≤ b ∧ Mb wz b 54 (Fraction.cells f_)), val 2 (.bool false)] noG (by kernel_rfl)
    ⟨fun _ _ _ hE ⟨b, hb, hs, hM⟩ => ⟨b, hb, hs, hM.exn hE⟩, Stable.val _ _ _, trivial⟩
    ⟨fun ρz wz hE hA ⟨e0, _⟩ _ => core_new rfl rfl hE (o_box (e0.trans h0) (bx_54 _ _)),
     fun ρz wz hE hA _ _ => core_val rfl rfl (o_assign rfl), trivial⟩ ?_
  intro ρ1 w1 hE hN hf hr
  have hN := hN rfl
  obtain ⟨b1_, h1, hge_b1_, Hb_b1_⟩ := hf 0 rfl
  have hW := hW.trans hN
  have hB_b1_ : w0.heap.size ≤ b1_ := Nat.le_trans hsz hge_b1_
  have hsz := Nat.le_trans hsz hN.size
  refine WP.seq ?_
  obtain ⟨c, hc, hF⟩ := obind hF
  refine WP.via (fun ρ w => ρ 2 = .bool c ∧ Ext noG w0 w ∧ w0.heap.size ≤ w.heap.size) ?_ ?_
  · rcases Bool.eq_false_or_eq_true (decide (1 ≤ f_.Den)) with hd3 | hd3
    · rcases Bool.eq_false_or_eq_true (decide (f_.Den ≤ 1000000000)) with hd8 | hd8
      · rcases Bool.eq_false_or_eq_true (decide ((-1000000000000000) ≤ f_.Num)) with hd13 | hd13
        · rcases Bool.eq_false_or_eq_true (decide (f_.Num ≤ 1000000000000000)) with hd18 | hd18
          · have hc := (if_pos (by simp [hd3, hd8, hd13, hd18])).symm.trans hc
            obtain ⟨z, hz, hc⟩ := obind hc
            obtain ⟨z2, hz2, hc⟩ := obind hc
            obtain ⟨z3, hz3, hc⟩ := obind hc
            have hc := Option.some.inj hc
            refine WP.region mixed [[], [0], [1], [2], [3], [3, 4], [3, 5], [3, 6], [7], [8], [8, 9], [8, 10], [8, 11], [12], [13], [13, 14], [13, 15], [13, 16], [17], [18], [18, 19], [18, 20], [18], [18, 22], [18, 23], [18, 21, 24], [18, 25], [18, 26], [27]] [[], [0], [1], [2], [3], [3, 4], [3, 5], [3, 6], [7], [8], [8, 9], [8, 10], [8, 11], [12], [13], [13, 14], [13, 15], [13, 16], [17], [18], [18, 19], [18, 20], [18], [18, 22], [18, 23], [18, 21, 24], [18, 25], [18, 26], [27]] [[1], [], [], [], [1], [], [], [], [], [1], [], [], [], [], [1], [], [], [], [], [1], [], [], [1], [], [], [], [], [], []] [] []
              [val 3 (.pointer (some ((⟨b1_, 0, none⟩ : Addr).add 1))), val 4 (.int .i64 f_.Den), val 5 (.bool (decide (1 ≤ f_.Den))), val 6 (.bool true), val 7 (.pointer (some ((⟨b1_, 0, none⟩ : Addr).add 1))), val 8 (.int .i64 f_.Den), val 9 (.bool (decide (f_.Den ≤ 1000000000))), val 10 (.bool (decide (f_.Den ≤ 1000000000))), val 11 (.bool true), val 12 (.pointer (some ((⟨b1_, 0, none⟩ : Addr).add 0))), val 13 (.int .i64 f_.Num), val 14 (.bool (decide ((-1000000000000000) ≤ f_.Num))), val 15 (.bool (decide ((-1000000000000000) ≤ f_.Num))), val 16 (.bool true), val 17 (.pointer (some ((⟨b1_, 0, none⟩ : Addr).add 0))), val 18 (.int .i64 f_.Num), val 19 (.bool (decide (f_.Num ≤ 1000000000000000))), val 20 (.bool (decide (f_.Num ≤ 1000000000000000))), val 21 (.bool true), val 22 (.pointer (some ((⟨b1_, 0, none⟩ : Addr).add 0))), val 23 (.int .i64 f_.Num), val 24 (.int .u64 z), val 25 (.pointer (some ((⟨b1_, 0, none⟩ : Addr).add 1))), val 26 (.int .i64 f_.Den), val 27 (.int .u64 z2), val 28 (.int .u64 z3), val 29 (.bool (z3 == 1)), val 30 (.bool (z3 == 1)), val 2 (.bool (z3 == 1))] noG (by kernel_rfl)
              ⟨Stable.val _ _ _, Stable.val _ _ _, Stable.val _ _ _, Stable.val _ _ _, Stable.val _ _ _, Stable.val _ _ _, Stable.val _ _ _, Stable.val _ _ _, Stable.val _ _ _, Stable.val _ _ _, Stable.val _ _ _, Stable.val _ _ _, Stable.val _ _ _, Stable.val _ _ _, Stable.val _ _ _, Stable.val _ _ _, Stable.val _ _ _, Stable.val _ _ _, Stable.val _ _ _, Stable.val _ _ _, Stable.val _ _ _, Stable.val _ _ _, Stable.val _ _ _, Stable.val _ _ _, Stable.val _ _ _, Stable.val _ _ _, Stable.val _ _ _, Stable.val _ _ _, Stable.val _ _ _, trivial⟩
              ⟨fun ρz wz hE hA ⟨e1, _⟩ _ => core_val rfl rfl (o_fieldAddr (e1.trans h1) (fa_54_1 _ _)),
     fun ρz wz hE hA _ ⟨u0, _⟩ => core_val rfl rfl (o_load u0 (run_load1 (lr_3 _ _) (CA.sub ((Hb_b1_.exn (hA rfl)).ca) 1 1))),
     fun ρz wz hE hA _ ⟨u1, _⟩ => core_val rfl rfl (o_geq u1 rfl rfl),
     fun ρz wz hE hA _ ⟨u2, _⟩ => core_valE rfl rfl (congrArg Value.bool hd3) (o_move u2),
     fun ρz wz hE hA ⟨e1, _⟩ ⟨u3, _⟩ => gYes rfl u3 (core_val rfl rfl (o_fieldAddr (e1.trans h1) (fa_54_1 _ _))),
     fun ρz wz hE hA _ ⟨u3, u4, _⟩ => gYes rfl u3 (core_val rfl rfl (o_load u4 (run_load1 (lr_3 _ _) (CA.sub ((Hb_b1_.exn (hA rfl)).ca) 1 1)))),
     fun ρz wz hE hA _ ⟨u3, u5, _⟩ => gYes rfl u3 (core_val rfl rfl (o_leq u5 rfl rfl)),
     fun ρz wz hE hA _ ⟨u3, u6, _⟩ => core_val rfl rfl (o_pick_t u3 u6),
     fun ρz wz hE hA _ ⟨u7, _⟩ => core_valE rfl rfl (congrArg Value.bool hd8) (o_move u7),
     fun ρz wz hE hA ⟨e1, _⟩ ⟨u8, _⟩ => gYes rfl u8 (core_val rfl rfl (o_fieldAddr (e1.trans h1) (fa_54_0 _ _))),
     fun ρz wz hE hA _ ⟨u8, u9, _⟩ => gYes rfl u8 (core_val rfl rfl (o_load u9 (run_load1 (lr_3 _ _) (CA.sub ((Hb_b1_.exn (hA rfl)).ca) 0 1)))),
     fun ρz wz hE hA _ ⟨u8, u10, _⟩ => gYes rfl u8 (core_val rfl rfl (o_geq u10 rfl rfl)),
     fun ρz wz hE hA _ ⟨u8, u11, _⟩ => core_val rfl rfl (o_pick_t u8 u11),
     fun ρz wz hE hA _ ⟨u12, _⟩ => core_valE rfl rfl (congrArg Value.bool hd13) (o_move u12),
     fun ρz wz hE hA ⟨e1, _⟩ ⟨u13, _⟩ => gYes rfl u13 (core_val rfl rfl (o_fieldAddr (e1.trans h1) (fa_54_0 _ _))),
     fun ρz wz hE hA _ ⟨u13, u14, _⟩ => gYes rfl u13 (core_val rfl rfl (o_load u14 (run_load1 (lr_3 _ _) (CA.sub ((Hb_b1_.exn (hA rfl)).ca) 0 1)))),
     fun ρz wz hE hA _ ⟨u13, u15, _⟩ => gYes rfl u13 (core_val rfl rfl (o_leq u15 rfl rfl)),
     fun ρz wz hE hA _ ⟨u13, u16, _⟩ => core_val rfl rfl (o_pick_t u13 u16),
     fun ρz wz hE hA _ ⟨u17, _⟩ => core_valE rfl rfl (congrArg Value.bool hd18) (o_move u17),
     fun ρz wz hE hA ⟨e1, _⟩ ⟨u18, _⟩ => gYes rfl u18 (core_val rfl rfl (o_fieldAddr (e1.trans h1) (fa_54_0 _ _))),
     fun ρz wz hE hA _ ⟨u18, u19, _⟩ => gYes rfl u18 (core_val rfl rfl (o_load u19 (run_load1 (lr_3 _ _) (CA.sub ((Hb_b1_.exn (hA rfl)).ca) 0 1)))),
     fun ρz wz hE hA _ ⟨u18, u20, _⟩ => gYes rfl u18 (core_call rfl (call_args1 u20) cf_69 (rational_size_ok  _  hz)),
     fun ρz wz hE hA ⟨e1, _⟩ ⟨u18, _⟩ => gYes rfl u18 (core_val rfl rfl (o_fieldAddr (e1.trans h1) (fa_54_1 _ _))),
     fun ρz wz hE hA _ ⟨u18, u22, _⟩ => gYes rfl u18 (core_val rfl rfl (o_load u22 (run_load1 (lr_3 _ _) (CA.sub ((Hb_b1_.exn (hA rfl)).ca) 1 1)))),
     fun ρz wz hE hA _ ⟨u18, u23, _⟩ => gYes rfl u18 (core_call rfl (call_args1 u23) cf_69 (rational_size_ok  _  hz2)),
     fun ρz wz hE hA _ ⟨u18, u21, u24, _⟩ => gYes rfl u18 (core_call rfl (call_args2 u21 u24) cf_68 (rational_gcd_ok  _ _  hz3)),
     fun ρz wz hE hA _ ⟨u18, u25, _⟩ => gYes rfl u18 (core_val rfl rfl (o_eql u25 rfl rfl)),
     fun ρz wz hE hA _ ⟨u18, u26, _⟩ => core_val rfl rfl (o_pick_t u18 u26),
     fun ρz wz hE hA _ ⟨u27, _⟩ => core_val rfl rfl (o_assign u27), trivial⟩ ?_
            intro ρ3 w3 hE hN hf hr
            have hN := hN rfl
            have h2 : ρ3 2 = .bool (z3 == 1) := hf 28 rfl
            have hW := hW.trans hN
            have hsz := Nat.le_trans hsz hN.size
            exact ⟨(h2.trans (congrArg Value.bool (by simp [hd3, hd8, hd13, hd18, ← hc]))), hW, hsz⟩
          · have hc := (if_neg (Bool.eq_false_iff.1 (by simp [hd3, hd8, hd13, hd18]))).symm.trans hc
            have hc := Option.some.inj hc
            refine WP.region mixed [[], [0], [1], [2], [3], [3, 4], [3, 5], [3, 6], [7], [8], [8, 9], [8, 10], [8, 11], [12], [13], [13, 14], [13, 15], [13, 16], [17], [18], [18], [18], [18], [18], [18], [18], [18], [18], [27]] [[], [0], [1], [2], [3], [3, 4], [3, 5], [3, 6], [7], [8], [8, 9], [8, 10], [8, 11], [12], [13], [13, 14], [13, 15], [13, 16], [17], [18], [18], [18], [18], [18], [18], [18], [18], [18], [27]] [[1], [], [], [], [1], [], [], [], [], [1], [], [], [], [], [1], [], [], [], [], [], [], [], [], [], [], [], [], [], []] [] []
              [val 3 (.pointer (some ((⟨b1_, 0, none⟩ : Addr).add 1))), val 4 (.int .i64 f_.Den), val 5 (.bool (decide (1 ≤ f_.Den))), val 6 (.bool true), val 7 (.pointer (some ((⟨b1_, 0, none⟩ : Addr).add 1))), val 8 (.int .i64 f_.Den), val 9 (.bool (decide (f_.Den ≤ 1000000000))), val 10 (.bool (decide (f_.Den ≤ 1000000000))), val 11 (.bool true), val 12 (.pointer (some ((⟨b1_, 0, none⟩ : Addr).add 0))), val 13 (.int .i64 f_.Num), val 14 (.bool (decide ((-1000000000000000) ≤ f_.Num))), val 15 (.bool (decide ((-1000000000000000) ≤ f_.Num))), val 16 (.bool true), val 17 (.pointer (some ((⟨b1_, 0, none⟩ : Addr).add 0))), val 18 (.int .i64 f_.Num), val 19 (.bool (decide (f_.Num ≤ 1000000000000000))), val 20 (.bool (decide (f_.Num ≤ 1000000000000000))), val 21 (.bool false), anyF 22, anyF 23, anyF 24, anyF 25, anyF 26, anyF 27, anyF 28, anyF 29, val 30 (.bool false), val 2 (.bool false)] noG (by kernel_rfl)
              ⟨Stable.val _ _ _, Stable.val _ _ _, Stable.val _ _ _, Stable.val _ _ _, Stable.val _ _ _, Stable.val _ _ _, Stable.val _ _ _, Stable.val _ _ _, Stable.val _ _ _, Stable.val _ _ _, Stable.val _ _ _, Stable.val _ _ _, Stable.val _ _ _, Stable.val _ _ _, Stable.val _ _ _, Stable.val _ _ _, Stable.val _ _ _, Stable.val _ _ _, Stable.val _ _ _, Stable.any _ _, Stable.any _ _, Stable.any _ _, Stable.any _ _, Stable.any _ _, Stable.any _ _, Stable.any _ _, Stable.any _ _, Stable.val _ _ _, Stable.val _ _ _, trivial⟩
              ⟨fun ρz wz hE hA ⟨e1, _⟩ _ => core_val rfl rfl (o_fieldAddr (e1.trans h1) (fa_54_1 _ _)),
     fun ρz wz hE hA _ ⟨u0, _⟩ => core_val rfl rfl (o_load u0 (run_load1 (lr_3 _ _) (CA.sub ((Hb_b1_.exn (hA rfl)).ca) 1 1))),
     fun ρz wz hE hA _ ⟨u1, _⟩ => core_val rfl rfl (o_geq u1 rfl rfl),
     fun ρz wz hE hA _ ⟨u2, _⟩ => core_valE rfl rfl (congrArg Value.bool hd3) (o_move u2),
     fun ρz wz hE hA ⟨e1, _⟩ ⟨u3, _⟩ => gYes rfl u3 (core_val rfl rfl (o_fieldAddr (e1.trans h1) (fa_54_1 _ _))),
     fun ρz wz hE hA _ ⟨u3, u4, _⟩ => gYes rfl u3 (core_val rfl rfl (o_load u4 (run_load1 (lr_3 _ _) (CA.sub ((Hb_b1_.exn (hA rfl)).ca) 1 1)))),
     fun ρz wz hE hA _ ⟨u3, u5, _⟩ => gYes rfl u3 (core_val rfl rfl (o_leq u5 rfl rfl)),
     fun ρz wz hE hA _ ⟨u3, u6, _⟩ => core_val rfl rfl (o_pick_t u3 u6),
     fun ρz wz hE hA _ ⟨u7, _⟩ => core_valE rfl rfl (congrArg Value.bool hd8) (o_move u7),
     fun ρz wz hE hA ⟨e1, _⟩ ⟨u8, _⟩ => gYes rfl u8 (core_val rfl rfl (o_fieldAddr (e1.trans h1) (fa_54_0 _ _))),
     fun ρz wz hE hA _ ⟨u8, u9, _⟩ => gYes rfl u8 (core_val rfl rfl (o_load u9 (run_load1 (lr_3 _ _) (CA.sub ((Hb_b1_.exn (hA rfl)).ca) 0 1)))),
     fun ρz wz hE hA _ ⟨u8, u10, _⟩ => gYes rfl u8 (core_val rfl rfl (o_geq u10 rfl rfl)),
     fun ρz wz hE hA _ ⟨u8, u11, _⟩ => core_val rfl rfl (o_pick_t u8 u11),
     fun ρz wz hE hA _ ⟨u12, _⟩ => core_valE rfl rfl (congrArg Value.bool hd13) (o_move u12),
     fun ρz wz hE hA ⟨e1, _⟩ ⟨u13, _⟩ => gYes rfl u13 (core_val rfl rfl (o_fieldAddr (e1.trans h1) (fa_54_0 _ _))),
     fun ρz wz hE hA _ ⟨u13, u14, _⟩ => gYes rfl u13 (core_val rfl rfl (o_load u14 (run_load1 (lr_3 _ _) (CA.sub ((Hb_b1_.exn (hA rfl)).ca) 0 1)))),
     fun ρz wz hE hA _ ⟨u13, u15, _⟩ => gYes rfl u13 (core_val rfl rfl (o_leq u15 rfl rfl)),
     fun ρz wz hE hA _ ⟨u13, u16, _⟩ => core_val rfl rfl (o_pick_t u13 u16),
     fun ρz wz hE hA _ ⟨u17, _⟩ => core_valE rfl rfl (congrArg Value.bool hd18) (o_move u17),
     fun _ _ _ _ _ ⟨u18, _⟩ => gNo rfl u18 rfl trivial,
     fun _ _ _ _ _ ⟨u18, _⟩ => gNo rfl u18 rfl trivial,
     fun _ _ _ _ _ ⟨u18, _⟩ => gNo rfl u18 rfl trivial,
     fun _ _ _ _ _ ⟨u18, _⟩ => gNo rfl u18 rfl trivial,
     fun _ _ _ _ _ ⟨u18, _⟩ => gNo rfl u18 rfl trivial,
     fun _ _ _ _ _ ⟨u18, _⟩ => gNo rfl u18 rfl trivial,
     fun _ _ _ _ _ ⟨u18, _⟩ => gNo rfl u18 rfl trivial,
     fun _ _ _ _ _ ⟨u18, _⟩ => gNo rfl u18 rfl trivial,
     fun ρz wz hE hA _ ⟨u18, _⟩ => core_val rfl rfl (o_pick_f u18 rfl),
     fun ρz wz hE hA _ ⟨u27, _⟩ => core_val rfl rfl (o_assign u27), trivial⟩ ?_
            intro ρ4 w4 hE hN hf hr
            have hN := hN rfl
            have h2 : ρ4 2 = .bool false := hf 28 rfl
            have hW := hW.trans hN
            have hsz := Nat.le_trans hsz hN.size
            exact ⟨(h2.trans (congrArg Value.bool (by simp [hd3, hd8, hd13, hd18, ← hc]))), hW, hsz⟩
        · have hc := (if_neg (Bool.eq_false_iff.1 (by simp [hd3, hd8, hd13]))).symm.trans hc
          have hc := Option.some.inj hc
          refine WP.region mixed [[], [0], [1], [2], [3], [3, 4], [3, 5], [3, 6], [7], [8], [8, 9], [8, 10], [8, 11], [12], [13], [13], [13], [13], [17], [18], [18], [18], [18], [18], [18], [18], [18], [18], [27]] [[], [0], [1], [2], [3], [3, 4], [3, 5], [3, 6], [7], [8], [8, 9], [8, 10], [8, 11], [12], [13], [13], [13], [13], [17], [18], [18], [18], [18], [18], [18], [18], [18], [18], [27]] [[1], [], [], [], [1], [], [], [], [], [1], [], [], [], [], [], [], [], [], [], [], [], [], [], [], [], [], [], [], []] [] []
            [val 3 (.pointer (some ((⟨b1_, 0, none⟩ : Addr).add 1))), val 4 (.int .i64 f_.Den), val 5 (.bool (decide (1 ≤ f_.Den))), val 6 (.bool true), val 7 (.pointer (some ((⟨b1_, 0, none⟩ : Addr).add 1))), val 8 (.int .i64 f_.Den), val 9 (.bool (decide (f_.Den ≤ 1000000000))), val 10 (.bool (decide (f_.Den ≤ 1000000000))), val 11 (.bool true), val 12 (.pointer (some ((⟨b1_, 0, none⟩ : Addr).add 0))), val 13 (.int .i64 f_.Num), val 14 (.bool (decide ((-1000000000000000) ≤ f_.Num))), val 15 (.bool (decide ((-1000000000000000) ≤ f_.Num))), val 16 (.bool false), anyF 17, anyF 18, anyF 19, val 20 (.bool false), val 21 (.bool false), anyF 22, anyF 23, anyF 24, anyF 25, anyF 26, anyF 27, anyF 28, anyF 29, val 30 (.bool false), val 2 (.bool false)] noG (by kernel_rfl)
            ⟨Stable.val _ _ _, Stable.val _ _ _, Stable.val _ _ _, Stable.val _ _ _, Stable.val _ _ _, Stable.val _ _ _, Stable.val _ _ _, Stable.val _ _ _, Stable.val _ _ _, Stable.val _ _ _, Stable.val _ _ _, Stable.val _ _ _, Stable.val _ _ _, Stable.val _ _ _, Stable.any _ _, Stable.any _ _, Stable.any _ _, Stable.val _ _ _, Stable.val _ _ _, Stable.any _ _, Stable.any _ _, Stable.any _ _, Stable.any _ _, Stable.any _ _, Stable.any _ _, Stable.any _ _, Stable.any _ _, Stable.val _ _ _, Stable.val _ _ _, trivial⟩
            ⟨fun ρz wz hE hA ⟨e1, _⟩ _ => core_val rfl rfl (o_fieldAddr (e1.trans h1) (fa_54_1 _ _)),
     fun ρz wz hE hA _ ⟨u0, _⟩ => core_val rfl rfl (o_load u0 (run_load1 (lr_3 _ _) (CA.sub ((Hb_b1_.exn (hA rfl)).ca) 1 1))),
     fun ρz wz hE hA _ ⟨u1, _⟩ => core_val rfl rfl (o_geq u1 rfl rfl),
     fun ρz wz hE hA _ ⟨u2, _⟩ => core_valE rfl rfl (congrArg Value.bool hd3) (o_move u2),
     fun ρz wz hE hA ⟨e1, _⟩ ⟨u3, _⟩ => gYes rfl u3 (core_val rfl rfl (o_fieldAddr (e1.trans h1) (fa_54_1 _ _))),
     fun ρz wz hE hA _ ⟨u3, u4, _⟩ => gYes rfl u3 (core_val rfl rfl (o_load u4 (run_load1 (lr_3 _ _) (CA.sub ((Hb_b1_.exn (hA rfl)).ca) 1 1)))),
     fun ρz wz hE hA _ ⟨u3, u5, _⟩ => gYes rfl u3 (core_val rfl rfl (o_leq u5 rfl rfl)),
     fun ρz wz hE hA _ ⟨u3, u6, _⟩ => core_val rfl rfl (o_pick_t u3 u6),
     fun ρz wz hE hA _ ⟨u7, _⟩ => core_valE rfl rfl (congrArg Value.bool hd8) (o_move u7),
     fun ρz wz hE hA ⟨e1, _⟩ ⟨u8, _⟩ => gYes rfl u8 (core_val rfl rfl (o_fieldAddr (e1.trans h1) (fa_54_0 _ _))),
     fun ρz wz hE hA _ ⟨u8, u9, _⟩ => gYes rfl u8 (core_val rfl rfl (o_load u9 (run_load1 (lr_3 _ _) (CA.sub ((Hb_b1_.exn (hA rfl)).ca) 0 1)))),
     fun ρz wz hE hA _ ⟨u8, u10, _⟩ => gYes rfl u8 (core_val rfl rfl (o_geq u10 rfl rfl)),
     fun ρz wz hE hA _ ⟨u8, u11, _⟩ => core_val rfl rfl (o_pick_t u8 u11),
     fun ρz wz hE hA _ ⟨u12, _⟩ => core_valE rfl rfl (congrArg Value.bool hd13) (o_move u12),
     fun _ _ _ _ _ ⟨u13, _⟩ => gNo rfl u13 rfl trivial,
     fun _ _ _ _ _ ⟨u13, _⟩ => gNo rfl u13 rfl trivial,
     fun _ _ _ _ _ ⟨u13, _⟩ => gNo rfl u13 rfl trivial,
     fun ρz wz hE hA _ ⟨u13, _⟩ => core_val rfl rfl (o_pick_f u13 rfl),
     fun ρz wz hE hA _ ⟨u17, _⟩ => core_val rfl rfl (o_move u17),
     fun _ _ _ _ _ ⟨u18, _⟩ => gNo rfl u18 rfl trivial,
     fun _ _ _ _ _ ⟨u18, _⟩ => gNo rfl u18 rfl trivial,
     fun _ _ _ _ _ ⟨u18, _⟩ => gNo rfl u18 rfl trivial,
     fun _ _ _ _ _ ⟨u18, _⟩ => gNo rfl u18 rfl trivial,
     fun _ _ _ _ _ ⟨u18, _⟩ => gNo rfl u18 rfl trivial,
     fun _ _ _ _ _ ⟨u18, _⟩ => gNo rfl u18 rfl trivial,
     fun _ _ _ _ _ ⟨u18, _⟩ => gNo rfl u18 rfl trivial,
     fun _ _ _ _ _ ⟨u18, _⟩ => gNo rfl u18 rfl trivial,
     fun ρz wz hE hA _ ⟨u18, _⟩ => core_val rfl rfl (o_pick_f u18 rfl),
     fun ρz wz hE hA _ ⟨u27, _⟩ => core_val rfl rfl (o_assign u27), trivial⟩ ?_
          intro ρ5 w5 hE hN hf hr
          have hN := hN rfl
          have h2 : ρ5 2 = .bool false := hf 28 rfl
          have hW := hW.trans hN
          have hsz := Nat.le_trans hsz hN.size
          exact ⟨(h2.trans (congrArg Value.bool (by simp [hd3, hd8, hd13, ← hc]))), hW, hsz⟩
      · have hc := (if_neg (Bool.eq_false_iff.1 (by simp [hd3, hd8]))).symm.trans hc
        have hc := Option.some.inj hc
        refine WP.region mixed [[], [0], [1], [2], [3], [3, 4], [3, 5], [3, 6], [7], [8], [8], [8], [8], [12], [13], [13], [13], [13], [17], [18], [18], [18], [18], [18], [18], [18], [18], [18], [27]] [[], [0], [1], [2], [3], [3, 4], [3, 5], [3, 6], [7], [8], [8], [8], [8], [12], [13], [13], [13], [13], [17], [18], [18], [18], [18], [18], [18], [18], [18], [18], [27]] [[1], [], [], [], [1], [], [], [], [], [], [], [], [], [], [], [], [], [], [], [], [], [], [], [], [], [], [], [], []] [] []
          [val 3 (.pointer (some ((⟨b1_, 0, none⟩ : Addr).add 1))), val 4 (.int .i64 f_.Den), val 5 (.bool (decide (1 ≤ f_.Den))), val 6 (.bool true), val 7 (.pointer (some ((⟨b1_, 0, none⟩ : Addr).add 1))), val 8 (.int .i64 f_.Den), val 9 (.bool (decide (f_.Den ≤ 1000000000))), val 10 (.bool (decide (f_.Den ≤ 1000000000))), val 11 (.bool false), anyF 12, anyF 13, anyF 14, val 15 (.bool false), val 16 (.bool false), anyF 17, anyF 18, anyF 19, val 20 (.bool false), val 21 (.bool false), anyF 22, anyF 23, anyF 24, anyF 25, anyF 26, anyF 27, anyF 28, anyF 29, val 30 (.bool false), val 2 (.bool false)] noG (by kernel_rfl)
          ⟨Stable.val _ _ _, Stable.val _ _ _, Stable.val _ _ _, Stable.val _ _ _, Stable.val _ _ _, Stable.val _ _ _, Stable.val _ _ _, Stable.val _ _ _, Stable.val _ _ _, Stable.any _ _, Stable.any _ _, Stable.any _ _, Stable.val _ _ _, Stable.val _ _ _, Stable.any _ _, Stable.any _ _, Stable.any _ _, Stable.val _ _ _, Stable.val _ _ _, Stable.any _ _, Stable.any _ _, Stable.any _ _, Stable.any _ _, Stable.any _ _, Stable.any _ _, Stable.any _ _, Stable.any _ _, Stable.val _ _ _, Stable.val _ _ _, trivial⟩
          ⟨fun ρz wz hE hA ⟨e1, _⟩ _ => core_val rfl rfl (o_fieldAddr (e1.trans h1) (fa_54_1 _ _)),
     fun ρz wz hE hA _ ⟨u0, _⟩ => core_val rfl rfl (o_load u0 (run_load1 (lr_3 _ _) (CA.sub ((Hb_b1_.exn (hA rfl)).ca) 1 1))),
     fun ρz wz hE hA _ ⟨u1, _⟩ => core_val rfl rfl (o_geq u1 rfl rfl),
     fun ρz wz hE hA _ ⟨u2, _⟩ => core_valE rfl rfl (congrArg Value.bool hd3) (o_move u2),
     fun ρz wz hE hA ⟨e1, _⟩ ⟨u3, _⟩ => gYes rfl u3 (core_val rfl rfl (o_fieldAddr (e1.trans h1) (fa_54_1 _ _))),
     fun ρz wz hE hA _ ⟨u3, u4, _⟩ => gYes rfl u3 (core_val rfl rfl (o_load u4 (run_load1 (lr_3 _ _) (CA.sub ((Hb_b1_.exn (hA rfl)).ca) 1 1)))),
     fun ρz wz hE hA _ ⟨u3, u5, _⟩ => gYes rfl u3 (core_val rfl rfl (o_leq u5 rfl rfl)),
     fun ρz wz hE hA _ ⟨u3, u6, _⟩ => core_val rfl rfl (o_pick_t u3 u6),
     fun ρz wz hE hA _ ⟨u7, _⟩ => core_valE rfl rfl (congrArg Value.bool hd8) (o_move u7),
     fun _ _ _ _ _ ⟨u8, _⟩ => gNo rfl u8 rfl trivial,
     fun _ _ _ _ _ ⟨u8, _⟩ => gNo rfl u8 rfl trivial,
     fun _ _ _ _ _ ⟨u8, _⟩ => gNo rfl u8 rfl trivial,
     fun ρz wz hE hA _ ⟨u8, _⟩ => core_val rfl rfl (o_pick_f u8 rfl),
     fun ρz wz hE hA _ ⟨u12, _⟩ => core_val rfl rfl (o_move u12),
     fun _ _ _ _ _ ⟨u13, _⟩ => gNo rfl u13 rfl trivial,
     fun _ _ _ _ _ ⟨u13, _⟩ => gNo rfl u13 rfl trivial,
     fun _ _ _ _ _ ⟨u13, _⟩ => gNo rfl u13 rfl trivial,
     fun ρz wz hE hA _ ⟨u13, _⟩ => core_val rfl rfl (o_pick_f u13 rfl),
     fun ρz wz hE hA _ ⟨u17, _⟩ => core_val rfl rfl (o_move u17),
     fun _ _ _ _ _ ⟨u18, _⟩ => gNo rfl u18 rfl trivial,
     fun _ _ _ _ _ ⟨u18, _⟩ => gNo rfl u18 rfl trivial,
     fun _ _ _ _ _ ⟨u18, _⟩ => gNo rfl u18 rfl trivial,
     fun _ _ _ _ _ ⟨u18, _⟩ => gNo rfl u18 rfl trivial,
     fun _ _ _ _ _ ⟨u18, _⟩ => gNo rfl u18 rfl trivial,
     fun _ _ _ _ _ ⟨u18, _⟩ => gNo rfl u18 rfl trivial,
     fun _ _ _ _ _ ⟨u18, _⟩ => gNo rfl u18 rfl trivial,
     fun _ _ _ _ _ ⟨u18, _⟩ => gNo rfl u18 rfl trivial,
     fun ρz wz hE hA _ ⟨u18, _⟩ => core_val rfl rfl (o_pick_f u18 rfl),
     fun ρz wz hE hA _ ⟨u27, _⟩ => core_val rfl rfl (o_assign u27), trivial⟩ ?_
        intro ρ6 w6 hE hN hf hr
        have hN := hN rfl
        have h2 : ρ6 2 = .bool false := hf 28 rfl
        have hW := hW.trans hN
        have hsz := Nat.le_trans hsz hN.size
        exact ⟨(h2.trans (congrArg Value.bool (by simp [hd3, hd8, ← hc]))), hW, hsz⟩
    · have hc := (if_neg (Bool.eq_false_iff.1 (by simp [hd3]))).symm.trans hc
      have hc := Option.some.inj hc
      refine WP.region mixed [[], [0], [1], [2], [3], [3], [3], [3], [7], [8], [8], [8], [8], [12], [13], [13], [13], [13], [17], [18], [18], [18], [18], [18], [18], [18], [18], [18], [27]] [[], [0], [1], [2], [3], [3], [3], [3], [7], [8], [8], [8], [8], [12], [13], [13], [13], [13], [17], [18], [18], [18], [18], [18], [18], [18], [18], [18], [27]] [[1], [], [], [], [], [], [], [], [], [], [], [], [], [], [], [], [], [], [], [], [], [], [], [], [], [], [], [], []] [] []
        [val 3 (.pointer (some ((⟨b1_, 0, none⟩ : Addr).add 1))), val 4 (.int .i64 f_.Den), val 5 (.bool (decide (1 ≤ f_.Den))), val 6 (.bool false), anyF 7, anyF 8, anyF 9, val 10 (.bool false), val 11 (.bool false), anyF 12, anyF 13, anyF 14, val 15 (.bool false), val 16 (.bool false), anyF 17, anyF 18, anyF 19, val 20 (.bool false), val 21 (.bool false), anyF 22, anyF 23, anyF 24, anyF 25, anyF 26, anyF 27, anyF 28, anyF 29, val 30 (.bool false), val 2 (.bool false)] noG (by kernel_rfl)
        ⟨Stable.val _ _ _, Stable.val _ _ _, Stable.val _ _ _, Stable.val _ _ _, Stable.any _ _, Stable.any _ _, Stable.any _ _, Stable.val _ _ _, Stable.val _ _ _, Stable.any _ _, Stable.any _ _, Stable.any _ _, Stable.val _ _ _, Stable.val _ _ _, Stable.any _ _, Stable.any _ _, Stable.any _ _, Stable.val _ _ _, Stable.val _ _ _, Stable.any _ _, Stable.any _ _, Stable.any _ _, Stable.any _ _, Stable.any _ _, Stable.any _ _, Stable.any _ _, Stable.any _ _, Stable.val _ _ _, Stable.val _ _ _, trivial⟩
        ⟨fun ρz wz hE hA ⟨e1, _⟩ _ => core_val rfl rfl (o_fieldAddr (e1.trans h1) (fa_54_1 _ _)),
     fun ρz wz hE hA _ ⟨u0, _⟩ => core_val rfl rfl (o_load u0 (run_load1 (lr_3 _ _) (CA.sub ((Hb_b1_.exn (hA rfl)).ca) 1 1))),
     fun ρz wz hE hA _ ⟨u1, _⟩ => core_val rfl rfl (o_geq u1 rfl rfl),
     fun ρz wz hE hA _ ⟨u2, _⟩ => core_valE rfl rfl (congrArg Value.bool hd3) (o_move u2),
     fun _ _ _ _ _ ⟨u3, _⟩ => gNo rfl u3 rfl trivial,
     fun _ _ _ _ _ ⟨u3, _⟩ => gNo rfl u3 rfl trivial,
     fun _ _ _ _ _ ⟨u3, _⟩ => gNo rfl u3 rfl trivial,
     fun ρz wz hE hA _ ⟨u3, _⟩ => core_val rfl rfl (o_pick_f u3 rfl),
     fun ρz wz hE hA _ ⟨u7, _⟩ => core_val rfl rfl (o_move u7),
     fun _ _ _ _ _ ⟨u8, _⟩ => gNo rfl u8 rfl trivial,
     fun _ _ _ _ _ ⟨u8, _⟩ => gNo rfl u8 rfl trivial,
     fun _ _ _ _ _ ⟨u8, _⟩ => gNo rfl u8 rfl trivial,
     fun ρz wz hE hA _ ⟨u8, _⟩ => core_val rfl rfl (o_pick_f u8 rfl),
     fun ρz wz hE hA _ ⟨u12, _⟩ => core_val rfl rfl (o_move u12),
     fun _ _ _ _ _ ⟨u13, _⟩ => gNo rfl u13 rfl trivial,
     fun _ _ _ _ _ ⟨u13, _⟩ => gNo rfl u13 rfl trivial,
     fun _ _ _ _ _ ⟨u13, _⟩ => gNo rfl u13 rfl trivial,
     fun ρz wz hE hA _ ⟨u13, _⟩ => core_val rfl rfl (o_pick_f u13 rfl),
     fun ρz wz hE hA _ ⟨u17, _⟩ => core_val rfl rfl (o_move u17),
     fun _ _ _ _ _ ⟨u18, _⟩ => gNo rfl u18 rfl trivial,
     fun _ _ _ _ _ ⟨u18, _⟩ => gNo rfl u18 rfl trivial,
     fun _ _ _ _ _ ⟨u18, _⟩ => gNo rfl u18 rfl trivial,
     fun _ _ _ _ _ ⟨u18, _⟩ => gNo rfl u18 rfl trivial,
     fun _ _ _ _ _ ⟨u18, _⟩ => gNo rfl u18 rfl trivial,
     fun _ _ _ _ _ ⟨u18, _⟩ => gNo rfl u18 rfl trivial,
     fun _ _ _ _ _ ⟨u18, _⟩ => gNo rfl u18 rfl trivial,
     fun _ _ _ _ _ ⟨u18, _⟩ => gNo rfl u18 rfl trivial,
     fun ρz wz hE hA _ ⟨u18, _⟩ => core_val rfl rfl (o_pick_f u18 rfl),
     fun ρz wz hE hA _ ⟨u27, _⟩ => core_val rfl rfl (o_assign u27), trivial⟩ ?_
      intro ρ7 w7 hE hN hf hr
      have hN := hN rfl
      have h2 : ρ7 2 = .bool false := hf 28 rfl
      have hW := hW.trans hN
      have hsz := Nat.le_trans hsz hN.size
      exact ⟨(h2.trans (congrArg Value.bool (by simp [hd3, ← hc]))), hW, hsz⟩
  rintro ρ2 w2 ⟨h2, hW, hsz⟩
  refine WP.ret ?_
  show retQ Tryd.prog 31 Tryd.f45 (fun v w1 => v = .bool r ∧ Ext noG w0 w1) .ret ρ2 w2
  obtain rfl := Option.some.inj hF
  exact res1 rfl (by decide) h2 ⟨rfl, hW⟩

set_option maxHeartbeats 4000000 in
theorem money_month_ok {w0 : World} (x_ : Int) {r : Bool} (hF : money_month x_ = some r) :
    Calls Tryd.prog 44 #[.int .i64 x_] w0 fun e w1 => e = .returned (.bool r) ∧ Ext noG w0 w1 := by
  refine (Calls.start (P := Tryd.prog) (args := [.int .i64 x_]) (R := fun v w1 => v = .bool r ∧ Ext noG w0 w1) (n := 6) (w := w0) Tryd.func44 rfl rfl (Nat.le_of_ble_eq_true rfl) (fun ρ hargs => ?_)).mono (fun e w1 ⟨v, he, hv, hE⟩ => ⟨hv ▸ he, hE⟩)
  have h0 := hargs 0 _ rfl
  have hW := Ext.refl noG w0
  have hsz := Nat.le_refl w0.heap.size
  rw [money_month] at hF
  refine WP.seq ?_
  refine WP.region mixed [[]] [[]] [[]] [] []
    [val 2 (.bool false)] noG (by kernel_rfl)
    ⟨Stable.val _ _ _, trivial⟩
    ⟨fun ρz wz hE hA _ _ => core_val rfl rfl (o_assign rfl), trivial⟩ ?_
  intro ρ1 w1 hE hN hf hr
  have hN := hN rfl
  have h0 := (hr 0 rfl).trans h0
  have hW := hW.trans hN
  have hsz := Nat.le_trans hsz hN.size
  refine WP.seq ?_
  obtain ⟨z, hz, hF⟩ := obind hF
  refine WP.region mixed [[], [0], [1], [2]] [[], [0], [1], [2]] [[0], [], [], []] [] []
    [val 3 (.int .i64 x_), val 4 (.int .i64 z), val 5 (.bool (decide (0 < z))), val 2 (.bool (decide (0 < z)))] noG (by kernel_rfl)
    ⟨Stable.val _ _ _, Stable.val _ _ _, Stable.val _ _ _, Stable.val _ _ _, trivial⟩
    ⟨fun ρz wz hE hA ⟨e0, _⟩ _ => core_val rfl rfl (o_move (e0.trans h0)),
     fun ρz wz hE hA _ ⟨u0, _⟩ => core_call rfl (call_args1 u0) cf_67 (calendar_MonthDays_ok  _  hz),
     fun ρz wz hE hA _ ⟨u1, _⟩ => core_val rfl rfl (o_gtr u1 rfl rfl),
     fun ρz wz hE hA _ ⟨u2, _⟩ => core_val rfl rfl (o_assign u2), trivial⟩ ?_
  intro ρ2 w2 hE hN hf hr
  have hN := hN rfl
  have h2 : ρ2 2 = .bool (decide (0 < z)) := hf 3 rfl
  have hW := hW.trans hN
  have hsz := Nat.le_trans hsz hN.size
  refine WP.ret ?_
  show retQ Tryd.prog 6 Tryd.f44 (fun v w1 => v = .bool r ∧ Ext noG w0 w1) .ret ρ2 w2
  obtain rfl := Option.some.inj hF
  exact res1 rfl (by decide) h2 ⟨rfl, hW⟩

set_option maxHeartbeats 4000000 in
theorem money_CheckRates_ok {w0 : World} (d_ : List Rate) {v_d_ : Value} (H_d_ : RepSl Rate.R noG w0 v_d_ d_) {r : Int} (hF : money_CheckRates d_ = some r) :
    Calls Tryd.prog 27 #[v_d_] w0 fun e w1 => e = .returned (.int .i64 r) ∧ Ext noG w0 w1 := by
  refine (Calls.start (P := Tryd.prog) (args := [v_d_]) (R := fun v w1 => v = .int .i64 r ∧ Ext noG w0 w1) (n := 81) (w := w0) Tryd.func27 rfl rfl (Nat.le_of_ble_eq_true rfl) (fun ρ hargs => ?_)).mono (fun e w1 ⟨v, he, hv, hE⟩ => ⟨hv ▸ he, hE⟩)
  have h0 := hargs 0 _ rfl
  have hW := Ext.refl noG w0
  have hsz := Nat.le_refl w0.heap.size
  obtain ⟨_, _, hs_H_d_, _, _⟩ := RepSl.shape H_d_
  have H_d_ := H_d_.start
  rw [money_CheckRates] at hF
  refine WP.seq ?_
  refine WP.region mixed [[]] [[]] [[]] [] []
    [val 2 (.int .i64 0)] noG (by kernel_rfl)
    ⟨Stable.val _ _ _, trivial⟩
    ⟨fun ρz wz hE hA _ _ => core_val rfl rfl (o_assign rfl), trivial⟩ ?_
  intro ρ1 w1 hE hN hf hr
  have hN := hN rfl
  have h0 := (hr 0 rfl).trans h0
  have H_d__at0 := H_d_
  have H_d_ := H_d_.exn hN
  have hW := hW.trans hN
  have hsz := Nat.le_trans hsz hN.size
  refine WP.seq ?_
  refine WP.seq ?_
  refine WP.region mixed [[], [0], [1]] [[], [0], [1]] [[0], [], []] [] []
    [val 5 (v_d_), val 6 (.int .i64 (d_.length : Int)), val 7 (.bool (decide (40 < (d_.length : Int))))] noG (by kernel_rfl)
    ⟨Stable.val _ _ _, Stable.val _ _ _, Stable.val _ _ _, trivial⟩
    ⟨fun ρz wz hE hA ⟨e0, _⟩ _ => core_val rfl rfl (o_move (e0.trans h0)),
     fun ρz wz hE hA _ ⟨u0, _⟩ => core_val rfl rfl (o_len (u0.trans hs_H_d_) len_26),
     fun ρz wz hE hA _ ⟨u1, _⟩ => core_val rfl rfl (o_gtr u1 rfl rfl), trivial⟩ ?_
  intro ρ2 w2 hE hN hf hr
  have hN := hN rfl
  have h0 := (hr 0 rfl).trans h0
  have h7 : ρ2 7 = .bool (decide (40 < (d_.length : Int))) := hf 2 rfl
  have H_d__at0 := H_d_
  have H_d_ := H_d_.exn hN
  have hW := hW.trans hN
  have hsz := Nat.le_trans hsz hN.size
  refine WP.cond rfl h7 (fun hb => ?_) (fun hb => ?_)
  · have hF := (if_pos hb).symm.trans hF
    refine WP.seq ?_
    refine WP.region mixed [[]] [[]] [[]] [] []
      [val 2 (.int .i64 7)] noG (by kernel_rfl)
      ⟨Stable.val _ _ _, trivial⟩
      ⟨fun ρz wz hE hA _ _ => core_val rfl rfl (o_assign rfl), trivial⟩ ?_
    intro ρ3 w3 hE hN hf hr
    have hN := hN rfl
    have h2 : ρ3 2 = .int .i64 7 := hf 0 rfl
    have hW := hW.trans hN
    have hsz := Nat.le_trans hsz hN.size
    refine WP.ret ?_
    show retQ Tryd.prog 81 Tryd.f27 (fun v w1 => v = .int .i64 r ∧ Ext noG w0 w1) .ret ρ3 w3
    obtain rfl := Option.some.inj hF
    exact res1 rfl (by decide) h2 ⟨rfl, hW⟩
  · have hF := (if_neg (Bool.eq_false_iff.1 hb)).symm.trans hF
    refine WP.skip ?_
    refine WP.seq ?_
    refine WP.seq ?_
    refine WP.region mixed [[], [0], []] [[], [0], []] [[0], [], []] [] []
      [val 8 (v_d_), val 9 (.int .i64 (d_.length : Int)), val 10 (.int .i64 0)] noG (by kernel_rfl)
      ⟨Stable.val _ _ _, Stable.val _ _ _, Stable.val _ _ _, trivial⟩
      ⟨fun ρz wz hE hA ⟨e0, _⟩ _ => core_val rfl rfl (o_move (e0.trans h0)),
     fun ρz wz hE hA _ ⟨u0, _⟩ => core_val rfl rfl (o_len (u0.trans hs_H_d_) len_26),
     fun ρz wz hE hA _ _ => core_val rfl rfl (o_move rfl), trivial⟩ ?_
    intro ρ4 w4 hE hN hf hr
    have hN := hN rfl
    have h0 := (hr 0 rfl).trans h0
    have h8 : ρ4 8 = v_d_ := hf 0 rfl
    have h9 : ρ4 9 = .int .i64 (d_.length : Int) := hf 1 rfl
    have h10 : ρ4 10 = .int .i64 0 := hf 2 rfl
    have H_d__at0 := H_d_
    have H_d_ := H_d_.exn hN
    have hW := hW.trans hN
    have hsz := Nat.le_trans hsz hN.size
    refine WP.block ?_
    refine WP.loop (fun k_ ρ w => ∃ x : Int, ρ 0 = v_d_ ∧ ρ 8 = v_d_ ∧ ρ 9 = .int .i64 (d_.length : Int) ∧ ρ 10 = .int .i64 x ∧ RepSl Rate.R (gfr noG w0) w v_d_ d_ ∧ Ext noG w0 w ∧ w0.heap.size ≤ w.heap.size ∧ loopC k_ (money_CheckRates_l d_) x = some r) FU ⟨0, h0, h8, h9, h10, H_d_, hW, hsz, hF⟩ (fun _ _ h => by obtain ⟨_, _, _, _, _, _, _, _, h⟩ := h; cases h) ?_
    rintro k_ ρ5 w5 ⟨x, h0, h8, h9, h10, H_d_, hW, hsz, hF⟩
    have hF : money_CheckRates_l d_ (loopC k_ (money_CheckRates_l d_)) x = some r := hF
    generalize hrec_ : loopC k_ (money_CheckRates_l d_) = rec_ at hF
    rw [money_CheckRates_l] at hF
    refine WP.seq ?_
    refine WP.region mixed [[]] [[]] [[10, 9]] [] []
      [val 11 (.bool (decide (x < (d_.length : Int))))] noG (by kernel_rfl)
      ⟨Stable.val _ _ _, trivial⟩
      ⟨fun ρz wz hE hA ⟨e10, e9, _⟩ _ => core_val rfl rfl (o_lss (e10.trans h10) (e9.trans h9) rfl), trivial⟩ ?_
    intro ρ6 w6 hE hN hf hr
    have hN := hN rfl
    have h0 := (hr 0 rfl).trans h0
    have h8 := (hr 8 rfl).trans h8
    have h9 := (hr 9 rfl).trans h9
    have h10 := (hr 10 rfl).trans h10
    have h11 : ρ6 11 = .bool (decide (x < (d_.length : Int))) := hf 0 rfl
    have H_d__at0 := H_d_
    have H_d_ := H_d_.exn hN
    have hW := hW.trans hN
    have hsz := Nat.le_trans hsz hN.size
    refine WP.seq ?_
    refine WP.cond rfl h11 (fun hb => ?_) (fun hb => ?_)
    · have hF := (if_pos hb).symm.trans hF
      refine WP.skip ?_
      refine WP.seq ?_
      refine WP.block ?_
      refine WP.seq ?_
      obtain ⟨y, hy, hF⟩ := obind hF
      obtain ⟨ay, cy, hvy, hiy, hAy⟩ := RepSl.getF H_d_ hy
      refine WP.region mixed [[], [], [1], [], [0], [2, 3]] [[], [], [1], [], [0], [3, 2]] [[10], [8, 10], [], [], [], []] [5] [(3, 5)]
        [val 12 (.int .i64 x), val 13 (.pointer (some (ay.add (Int.toNat x * 4)))), val 14 (Rate.val y), (4, fun u wz => ∃ b, u = .pointer (some ⟨b, 0, none⟩) ∧ w6.heap.size ≤ b ∧ Mb wz b 57 (Rate.cells (⟨0, 0, (⟨0, 0⟩ : Fraction)⟩ : Rate))), val 3 (.int .i64 x), (4, fun u wz => ∃ b, u = .pointer (some ⟨b, 0, none⟩) ∧ w6.heap.size ≤ b ∧ Mb wz b 57 (Rate.cells y))] (fun b => w6.heap.size ≤ b) (by kernel_rfl)
        ⟨Stable.val _ _ _, Stable.val _ _ _, Stable.val _ _ _, fun _ _ _ hE ⟨b, hb, hs, hM⟩ => ⟨b, hb, hs, hM.exn hE⟩, Stable.val _ _ _, fun _ _ _ hE ⟨b, hb, hs, hM⟩ => ⟨b, hb, hs, hM.exn hE⟩, trivial⟩
        ⟨fun ρz wz hE hA ⟨e10, _⟩ _ => core_val rfl rfl (o_move (e10.trans h10)),
     fun ρz wz hE hA ⟨e8, e10, _⟩ _ => core_val rfl rfl (o_indexAddr ((e8.trans h8).trans hvy) (e10.trans h10) (ia_26 hiy)),
     fun ρz wz hE hA _ ⟨u1, _⟩ => core_val rfl rfl (o_load u1 (run_loadN (cs := (Rate.cells y)) (lr_57 _ _) rfl ((hAy.exn hE.fresh).ca))),
     fun ρz wz hE hA _ _ => core_new rfl rfl hE (o_alloc (al_57 _)),
     fun ρz wz hE hA _ ⟨u0, _⟩ => core_val rfl rfl (o_assign u0),
     fun ρz wz hE hA _ ⟨u3, u2, _⟩ => core_storeNew rfl rfl rfl rfl u2 u3 (fun a w => st_57 _ a w) rfl (one_57 _), trivial⟩ ?_
      intro ρ7 w7 hE hN hf hr
      have hN := hE.fresh
      have h0 := (hr 0 rfl).trans h0
      have h8 := (hr 8 rfl).trans h8
      have h9 := (hr 9 rfl).trans h9
      have h10 := (hr 10 rfl).trans h10
      obtain ⟨b4_, h4, hge_b4_, Hb_b4_⟩ := hf 5 rfl
      have h3 : ρ7 3 = .int .i64 x := hf 4 rfl
      have H_d__at0 := H_d_
      have H_d_ := H_d_.exn hN
      have hW := hW.trans hN
      have hB_b4_ : w0.heap.size ≤ b4_ := Nat.le_trans hsz hge_b4_
      have hsz := Nat.le_trans hsz hN.size
      refine WP.seq ?_
      refine WP.seq ?_
      obtain ⟨z, hz, hF⟩ := obind hF
      obtain ⟨c, hc, hF⟩ := obind hF
      obtain ⟨c2, hc2, hF⟩ := obind hF
      obtain ⟨c3, hc3, hF⟩ := obind hF
      obtain ⟨c4, hc4, hF⟩ := obind hF
      refine WP.via (fun ρ w => ρ 0 = v_d_ ∧ ρ 8 = v_d_ ∧ ρ 9 = .int .i64 (d_.length : Int) ∧ ρ 10 = .int .i64 x ∧ ρ 4 = .pointer (some ⟨b4_, 0, none⟩) ∧ ρ 3 = .int .i64 x ∧ ρ 44 = .bool c4 ∧ Mb w b4_ 57 (Rate.cells y) ∧ RepSl Rate.R (gfr noG w0) w v_d_ d_ ∧ Ext noG w0 w ∧ w0.heap.size ≤ w.heap.size) ?_ ?_
      · rcases Bool.eq_false_or_eq_true (!z) with hd4 | hd4
        · have hc := (if_pos (by simp [hd4])).symm.trans hc
          have hc := Option.some.inj hc
          have hc2 := (if_pos (by simp [hd4, ← hc])).symm.trans hc2
          have hc2 := Option.some.inj hc2
          have hc3 := (if_pos (by simp [hd4, ← hc, ← hc2])).symm.trans hc3
          have hc3 := Option.some.inj hc3
          have hc4 := (if_pos (by simp [hd4, ← hc, ← hc2, ← hc3])).symm.trans hc4
          have hc4 := Option.some.inj hc4
          refine WP.region mixed [[], [0], [1], [2], [3], [4], [4], [4], [4], [4], [9], [10], [10], [10], [10], [10], [15], [16], [16], [16], [16], [16], [16], [22], [23], [23], [23], [23], [23], [23]] [[], [0], [1], [2], [3], [4], [4], [4], [4], [4], [9], [10], [10], [10], [10], [10], [15], [16], [16], [16], [16], [16], [16], [22], [23], [23], [23], [23], [23], [23]] [[4], [], [], [], [], [], [], [], [], [], [], [], [], [], [], [], [], [], [], [], [], [], [], [], [], [], [], [], [], []] [] []
            [val 15 (.pointer (some ((⟨b4_, 0, none⟩ : Addr).add 0))), val 16 (.int .i64 y.Currency), val 17 (.bool z), val 18 (.bool (!z)), val 19 (.bool true), anyF 20, anyF 21, anyF 22, anyF 23, val 24 (.bool true), val 25 (.bool true), anyF 26, anyF 27, anyF 28, anyF 29, val 30 (.bool true), val 31 (.bool true), anyF 32, anyF 33, anyF 34, anyF 35, anyF 36, val 37 (.bool true), val 38 (.bool true), anyF 39, anyF 40, anyF 41, anyF 42, anyF 43, val 44 (.bool true)] noG (by kernel_rfl)
            ⟨Stable.val _ _ _, Stable.val _ _ _, Stable.val _ _ _, Stable.val _ _ _, Stable.val _ _ _, Stable.any _ _, Stable.any _ _, Stable.any _ _, Stable.any _ _, Stable.val _ _ _, Stable.val _ _ _, Stable.any _ _, Stable.any _ _, Stable.any _ _, Stable.any _ _, Stable.val _ _ _, Stable.val _ _ _, Stable.any _ _, Stable.any _ _, Stable.any _ _, Stable.any _ _, Stable.any _ _, Stable.val _ _ _, Stable.val _ _ _, Stable.any _ _, Stable.any _ _, Stable.any _ _, Stable.any _ _, Stable.any _ _, Stable.val _ _ _, trivial⟩
            ⟨fun ρz wz hE hA ⟨e4, _⟩ _ => core_val rfl rfl (o_fieldAddr (e4.trans h4) (fa_57_0 _ _)),
     fun ρz wz hE hA _ ⟨u0, _⟩ => core_val rfl rfl (o_load u0 (run_load1 (lr_3 _ _) (CA.sub ((Hb_b4_.exn (hA rfl)).ca) 0 1))),
     fun ρz wz hE hA _ ⟨u1, _⟩ => core_call rfl (call_args1 u1) cf_43 (money_currency_ok  _  hz),
     fun ρz wz hE hA _ ⟨u2, _⟩ => core_val rfl rfl (o_not u2 rfl),
     fun ρz wz hE hA _ ⟨u3, _⟩ => core_valE rfl rfl (congrArg Value.bool hd4) (o_move u3),
     fun _ _ _ _ _ ⟨u4, _⟩ => gNo rfl u4 rfl trivial,
     fun _ _ _ _ _ ⟨u4, _⟩ => gNo rfl u4 rfl trivial,
     fun _ _ _ _ _ ⟨u4, _⟩ => gNo rfl u4 rfl trivial,
     fun _ _ _ _ _ ⟨u4, _⟩ => gNo rfl u4 rfl trivial,
     fun ρz wz hE hA _ ⟨u4, _⟩ => core_val rfl rfl (o_pick_t u4 rfl),
     fun ρz wz hE hA _ ⟨u9, _⟩ => core_val rfl rfl (o_move u9),
     fun _ _ _ _ _ ⟨u10, _⟩ => gNo rfl u10 rfl trivial,
     fun _ _ _ _ _ ⟨u10, _⟩ => gNo rfl u10 rfl trivial,
     fun _ _ _ _ _ ⟨u10, _⟩ => gNo rfl u10 rfl trivial,
     fun _ _ _ _ _ ⟨u10, _⟩ => gNo rfl u10 rfl trivial,
     fun ρz wz hE hA _ ⟨u10, _⟩ => core_val rfl rfl (o_pick_t u10 rfl),
     fun ρz wz hE hA _ ⟨u15, _⟩ => core_val rfl rfl (o_move u15),
     fun _ _ _ _ _ ⟨u16, _⟩ => gNo rfl u16 rfl trivial,
     fun _ _ _ _ _ ⟨u16, _⟩ => gNo rfl u16 rfl trivial,
     fun _ _ _ _ _ ⟨u16, _⟩ => gNo rfl u16 rfl trivial,
     fun _ _ _ _ _ ⟨u16, _⟩ => gNo rfl u16 rfl trivial,
     fun _ _ _ _ _ ⟨u16, _⟩ => gNo rfl u16 rfl trivial,
     fun ρz wz hE hA _ ⟨u16, _⟩ => core_val rfl rfl (o_pick_t u16 rfl),
     fun ρz wz hE hA _ ⟨u22, _⟩ => core_val rfl rfl (o_move u22),
     fun _ _ _ _ _ ⟨u23, _⟩ => gNo rfl u23 rfl trivial,
     fun _ _ _ _ _ ⟨u23, _⟩ => gNo rfl u23 rfl trivial,
     fun _ _ _ _ _ ⟨u23, _⟩ => gNo rfl u23 rfl trivial,
     fun _ _ _ _ _ ⟨u23, _⟩ => gNo rfl u23 rfl trivial,
     fun _ _ _ _ _ ⟨u23, _⟩ => gNo rfl u23 rfl trivial,
     fun ρz wz hE hA _ ⟨u23, _⟩ => core_val rfl rfl (o_pick_t u23 rfl), trivial⟩ ?_
          intro ρ9 w9 hE hN hf hr
          have hN := hN rfl
          have h0 := (hr 0 rfl).trans h0
          have h8 := (hr 8 rfl).trans h8
          have h9 := (hr 9 rfl).trans h9
          have h10 := (hr 10 rfl).trans h10
          have h4 := (hr 4 rfl).trans h4
          have h3 := (hr 3 rfl).trans h3
          have h44 : ρ9 44 = .bool true := hf 29 rfl
          have Hb_b4_n := Hb_b4_.exn hN
          have H_d__at0 := H_d_
          have H_d_ := H_d_.exn hN
          have hW := hW.trans hN
          have Hb_b4_ := Hb_b4_n
          have hsz := Nat.le_trans hsz hN.size
          exact ⟨h0, h8, h9, h10, h4, h3, (h44.trans (congrArg Value.bool (by simp [hd4, ← hc, ← hc2, ← hc3, ← hc4]))), Hb_b4_, H_d_, hW, hsz⟩
        · have hc := (if_neg (Bool.eq_false_iff.1 (by simp [hd4]))).symm.trans hc
          obtain ⟨z2, hz2, hc⟩ := obind hc
          have hc := Option.some.inj hc
          rcases Bool.eq_false_or_eq_true (!z2) with hd10 | hd10
          · have hc2 := (if_pos (by simp [hd4, hd10, ← hc])).symm.trans hc2
            have hc2 := Option.some.inj hc2
            have hc3 := (if_pos (by simp [hd4, hd10, ← hc, ← hc2])).symm.trans hc3
            have hc3 := Option.some.inj hc3
            have hc4 := (if_pos (by simp [hd4, hd10, ← hc, ← hc2, ← hc3])).symm.trans hc4
            have hc4 := Option.some.inj hc4
            refine WP.region mixed [[], [0], [1], [2], [3], [4], [4, 5], [4, 6], [4, 7], [4, 8], [9], [10], [10], [10], [10], [10], [15], [16], [16], [16], [16], [16], [16], [22], [23], [23], [23], [23], [23], [23]] [[], [0], [1], [2], [3], [4], [4, 5], [4, 6], [4, 7], [4, 8], [9], [10], [10], [10], [10], [10], [15], [16], [16], [16], [16], [16], [16], [22], [23], [23], [23], [23], [23], [23]] [[4], [], [], [], [], [4], [], [], [], [], [], [], [], [], [], [], [], [], [], [], [], [], [], [], [], [], [], [], [], []] [] []
              [val 15 (.pointer (some ((⟨b4_, 0, none⟩ : Addr).add 0))), val 16 (.int .i64 y.Currency), val 17 (.bool z), val 18 (.bool (!z)), val 19 (.bool false), val 20 (.pointer (some ((⟨b4_, 0, none⟩ : Addr).add 1))), val 21 (.int .i64 y.Month), val 22 (.bool z2), val 23 (.bool (!z2)), val 24 (.bool (!z2)), val 25 (.bool true), anyF 26, anyF 27, anyF 28, anyF 29, val 30 (.bool true), val 31 (.bool true), anyF 32, anyF 33, anyF 34, anyF 35, anyF 36, val 37 (.bool true), val 38 (.bool true), anyF 39, anyF 40, anyF 41, anyF 42, anyF 43, val 44 (.bool true)] noG (by kernel_rfl)
              ⟨Stable.val _ _ _, Stable.val _ _ _, Stable.val _ _ _, Stable.val _ _ _, Stable.val _ _ _, Stable.val _ _ _, Stable.val _ _ _, Stable.val _ _ _, Stable.val _ _ _, Stable.val _ _ _, Stable.val _ _ _, Stable.any _ _, Stable.any _ _, Stable.any _ _, Stable.any _ _, Stable.val _ _ _, Stable.val _ _ _, Stable.any _ _, Stable.any _ _, Stable.any _ _, Stable.any _ _, Stable.any _ _, Stable.val _ _ _, Stable.val _ _ _, Stable.any _ _, Stable.any _ _, Stable.any _ _, Stable.any _ _, Stable.any _ _, Stable.val _ _ _, trivial⟩
              ⟨fun ρz wz hE hA ⟨e4, _⟩ _ => core_val rfl rfl (o_fieldAddr (e4.trans h4) (fa_57_0 _ _)),
     fun ρz wz hE hA _ ⟨u0, _⟩ => core_val rfl rfl (o_load u0 (run_load1 (lr_3 _ _) (CA.sub ((Hb_b4_.exn (hA rfl)).ca) 0 1))),
     fun ρz wz hE hA _ ⟨u1, _⟩ => core_call rfl (call_args1 u1) cf_43 (money_currency_ok  _  hz),
     fun ρz wz hE hA _ ⟨u2, _⟩ => core_val rfl rfl (o_not u2 rfl),
     fun ρz wz hE hA _ ⟨u3, _⟩ => core_valE rfl rfl (congrArg Value.bool hd4) (o_move u3),
     fun ρz wz hE hA ⟨e4, _⟩ ⟨u4, _⟩ => gYes rfl u4 (core_val rfl rfl (o_fieldAddr (e4.trans h4) (fa_57_1 _ _))),
     fun ρz wz hE hA _ ⟨u4, u5, _⟩ => gYes rfl u4 (core_val rfl rfl (o_load u5 (run_load1 (lr_3 _ _) (CA.sub ((Hb_b4_.exn (hA rfl)).ca) 1 1)))),
     fun ρz wz hE hA _ ⟨u4, u6, _⟩ => gYes rfl u4 (core_call rfl (call_args1 u6) cf_44 (money_month_ok  _  hz2)),
     fun ρz wz hE hA _ ⟨u4, u7, _⟩ => gYes rfl u4 (core_val rfl rfl (o_not u7 rfl)),
     fun ρz wz hE hA _ ⟨u4, u8, _⟩ => core_val rfl rfl (o_pick_f u4 u8),
     fun ρz wz hE hA _ ⟨u9, _⟩ => core_valE rfl rfl (congrArg Value.bool hd10) (o_move u9),
     fun _ _ _ _ _ ⟨u10, _⟩ => gNo rfl u10 rfl trivial,
     fun _ _ _ _ _ ⟨u10, _⟩ => gNo rfl u10 rfl trivial,
     fun _ _ _ _ _ ⟨u10, _⟩ => gNo rfl u10 rfl trivial,
     fun _ _ _ _ _ ⟨u10, _⟩ => gNo rfl u10 rfl trivial,
     fun ρz wz hE hA _ ⟨u10, _⟩ => core_val rfl rfl (o_pick_t u10 rfl),
     fun ρz wz hE hA _ ⟨u15, _⟩ => core_val rfl rfl (o_move u15),
     fun _ _ _ _ _ ⟨u16, _⟩ => gNo rfl u16 rfl trivial,
     fun _ _ _ _ _ ⟨u16, _⟩ => gNo rfl u16 rfl trivial,
     fun _ _ _ _ _ ⟨u16, _⟩ => gNo rfl u16 rfl trivial,
     fun _ _ _ _ _ ⟨u16, _⟩ => gNo rfl u16 rfl trivial,
     fun _ _ _ _ _ ⟨u16, _⟩ => gNo rfl u16 rfl trivial,
     fun ρz wz hE hA _ ⟨u16, _⟩ => core_val rfl rfl (o_pick_t u16 rfl),
     fun ρz wz hE hA _ ⟨u22, _⟩ => core_val rfl rfl (o_move u22),
     fun _ _ _ _ _ ⟨u23, _⟩ => gNo rfl u23 rfl trivial,
     fun _ _ _ _ _ ⟨u23, _⟩ => gNo rfl u23 rfl trivial,
     fun _ _ _ _ _ ⟨u23, _⟩ => gNo rfl u23 rfl trivial,
     fun _ _ _ _ _ ⟨u23, _⟩ => gNo rfl u23 rfl trivial,
     fun _ _ _ _ _ ⟨u23, _⟩ => gNo rfl u23 rfl trivial,
     fun ρz wz hE hA _ ⟨u23, _⟩ => core_val rfl rfl (o_pick_t u23 rfl), trivial⟩ ?_
            intro ρ10 w10 hE hN hf hr
            have hN := hN rfl
            have h0 := (hr 0 rfl).trans h0
            have h8 := (hr 8 rfl).trans h8
            have h9 := (hr 9 rfl).trans h9
            have h10 := (hr 10 rfl).trans h10
            have h4 := (hr 4 rfl).trans h4
            have h3 := (hr 3 rfl).trans h3
            have h44 : ρ10 44 = .bool true := hf 29 rfl
            have Hb_b4_n := Hb_b4_.exn hN
            have H_d__at0 := H_d_
            have H_d_ := H_d_.exn hN
            have hW := hW.trans hN
            have Hb_b4_ := Hb_b4_n
            have hsz := Nat.le_trans hsz hN.size
            exact ⟨h0, h8, h9, h10, h4, h3, (h44.trans (congrArg Value.bool (by simp [hd4, hd10, ← hc, ← hc2, ← hc3, ← hc4]))), Hb_b4_, H_d_, hW, hsz⟩
          · have hc2 := (if_neg (Bool.eq_false_iff.1 (by simp [hd4, hd10, ← hc]))).symm.trans hc2
            obtain ⟨z3, hz3, hc2⟩ := obind hc2
            have hc2 := Option.some.inj hc2
            rcases Bool.eq_false_or_eq_true (!z3) with hd16 | hd16
            · have hc3 := (if_pos (by simp [hd4, hd10, hd16, ← hc, ← hc2])).symm.trans hc3
              have hc3 := Option.some.inj hc3
              have hc4 := (if_pos (by simp [hd4, hd10, hd16, ← hc, ← hc2, ← hc3])).symm.trans hc4
              have hc4 := Option.some.inj hc4
              refine WP.region mixed [[], [0], [1], [2], [3], [4], [4, 5], [4, 6], [4, 7], [4, 8], [9], [10], [10, 11], [10, 12], [10, 13], [10, 14], [15], [16], [16], [16], [16], [16], [16], [22], [23], [23], [23], [23], [23], [23]] [[], [0], [1], [2], [3], [4], [4, 5], [4, 6], [4, 7], [4, 8], [9], [10], [10, 11], [10, 12], [10, 13], [10, 14], [15], [16], [16], [16], [16], [16], [16], [22], [23], [23], [23], [23], [23], [23]] [[4], [], [], [], [], [4], [], [], [], [], [], [4], [], [], [], [], [], [], [], [], [], [], [], [], [], [], [], [], [], []] [] []
                [val 15 (.pointer (some ((⟨b4_, 0, none⟩ : Addr).add 0))), val 16 (.int .i64 y.Currency), val 17 (.bool z), val 18 (.bool (!z)), val 19 (.bool false), val 20 (.pointer (some ((⟨b4_, 0, none⟩ : Addr).add 1))), val 21 (.int .i64 y.Month), val 22 (.bool z2), val 23 (.bool (!z2)), val 24 (.bool (!z2)), val 25 (.bool false), val 26 (.pointer (some ((⟨b4_, 0, none⟩ : Addr).add 2))), val 27 (Fraction.val y.Value), val 28 (.bool z3), val 29 (.bool (!z3)), val 30 (.bool (!z3)), val 31 (.bool true), anyF 32, anyF 33, anyF 34, anyF 35, anyF 36, val 37 (.bool true), val 38 (.bool true), anyF 39, anyF 40, anyF 41, anyF 42, anyF 43, val 44 (.bool true)] noG (by kernel_rfl)
                ⟨Stable.val _ _ _, Stable.val _ _ _, Stable.val _ _ _, Stable.val _ _ _, Stable.val _ _ _, Stable.val _ _ _, Stable.val _ _ _, Stable.val _ _ _, Stable.val _ _ _, Stable.val _ _ _, Stable.val _ _ _, Stable.val _ _ _, Stable.val _ _ _, Stable.val _ _ _, Stable.val _ _ _, Stable.val _ _ _, Stable.val _ _ _, Stable.any _ _, Stable.any _ _, Stable.any _ _, Stable.any _ _, Stable.any _ _, Stable.val _ _ _, Stable.val _ _ _, Stable.any _ _, Stable.any _ _, Stable.any _ _, Stable.any _ _, Stable.any _ _, Stable.val _ _ _, trivial⟩
                ⟨fun ρz wz hE hA ⟨e4, _⟩ _ => core_val rfl rfl (o_fieldAddr (e4.trans h4) (fa_57_0 _ _)),
     fun ρz wz hE hA _ ⟨u0, _⟩ => core_val rfl rfl (o_load u0 (run_load1 (lr_3 _ _) (CA.sub ((Hb_b4_.exn (hA rfl)).ca) 0 1))),
     fun ρz wz hE hA _ ⟨u1, _⟩ => core_call rfl (call_args1 u1) cf_43 (money_currency_ok  _  hz),
     fun ρz wz hE hA _ ⟨u2, _⟩ => core_val rfl rfl (o_not u2 rfl),
     fun ρz wz hE hA _ ⟨u3, _⟩ => core_valE rfl rfl (congrArg Value.bool hd4) (o_move u3),
     fun ρz wz hE hA ⟨e4, _⟩ ⟨u4, _⟩ => gYes rfl u4 (core_val rfl rfl (o_fieldAddr (e4.trans h4) (fa_57_1 _ _))),
     fun ρz wz hE hA _ ⟨u4, u5, _⟩ => gYes rfl u4 (core_val rfl rfl (o_load u5 (run_load1 (lr_3 _ _) (CA.sub ((Hb_b4_.exn (hA rfl)).ca) 1 1)))),
     fun ρz wz hE hA _ ⟨u4, u6, _⟩ => gYes rfl u4 (core_call rfl (call_args1 u6) cf_44 (money_month_ok  _  hz2)),
     fun ρz wz hE hA _ ⟨u4, u7, _⟩ => gYes rfl u4 (core_val rfl rfl (o_not u7 rfl)),
     fun ρz wz hE hA _ ⟨u4, u8, _⟩ => core_val rfl rfl (o_pick_f u4 u8),
     fun ρz wz hE hA _ ⟨u9, _⟩ => core_valE rfl rfl (congrArg Value.bool hd10) (o_move u9),
     fun ρz wz hE hA ⟨e4, _⟩ ⟨u10, _⟩ => gYes rfl u10 (core_val rfl rfl (o_fieldAddr (e4.trans h4) (fa_57_2 _ _))),
     fun ρz wz hE hA _ ⟨u10, u11, _⟩ => gYes rfl u10 (core_val rfl rfl (o_load u11 (run_loadN (cs := (Fraction.cells y.Value)) (lr_54 _ _) rfl (CA.sub ((Hb_b4_.exn (hA rfl)).ca) 2 2)))),
     fun ρz wz hE hA _ ⟨u10, u12, _⟩ => gYes rfl u10 (core_call rfl (call_args1 u12) cf_45 (rational_Valid_ok  _  hz3)),
     fun ρz wz hE hA _ ⟨u10, u13, _⟩ => gYes rfl u10 (core_val rfl rfl (o_not u13 rfl)),
     fun ρz wz hE hA _ ⟨u10, u14, _⟩ => core_val rfl rfl (o_pick_f u10 u14),
     fun ρz wz hE hA _ ⟨u15, _⟩ => core_valE rfl rfl (congrArg Value.bool hd16) (o_move u15),
     fun _ _ _ _ _ ⟨u16, _⟩ => gNo rfl u16 rfl trivial,
     fun _ _ _ _ _ ⟨u16, _⟩ => gNo rfl u16 rfl trivial,
     fun _ _ _ _ _ ⟨u16, _⟩ => gNo rfl u16 rfl trivial,
     fun _ _ _ _ _ ⟨u16, _⟩ => gNo rfl u16 rfl trivial,
     fun _ _ _ _ _ ⟨u16, _⟩ => gNo rfl u16 rfl trivial,
     fun ρz wz hE hA _ ⟨u16, _⟩ => core_val rfl rfl (o_pick_t u16 rfl),
     fun ρz wz hE hA _ ⟨u22, _⟩ => core_val rfl rfl (o_move u22),
     fun _ _ _ _ _ ⟨u23, _⟩ => gNo rfl u23 rfl trivial,
     fun _ _ _ _ _ ⟨u23, _⟩ => gNo rfl u23 rfl trivial,
     fun _ _ _ _ _ ⟨u23, _⟩ => gNo rfl u23 rfl trivial,
     fun _ _ _ _ _ ⟨u23, _⟩ => gNo rfl u23 rfl trivial,
     fun _ _ _ _ _ ⟨u23, _⟩ => gNo rfl u23 rfl trivial,
     fun ρz wz hE hA _ ⟨u23, _⟩ => core_val rfl rfl (o_pick_t u23 rfl), trivial⟩ ?_
              intro ρ11 w11 hE hN hf hr
              have hN := hN rfl
              have h0 := (hr 0 rfl).trans h0
              have h8 := (hr 8 rfl).trans h8
              have h9 := (hr 9 rfl).trans h9
              have h10 := (hr 10 rfl).trans h10
              have h4 := (hr 4 rfl).trans h4
              have h3 := (hr 3 rfl).trans h3
              have h44 : ρ11 44 = .bool true := hf 29 rfl
              have Hb_b4_n := Hb_b4_.exn hN
              have H_d__at0 := H_d_
              have H_d_ := H_d_.exn hN
              have hW := hW.trans hN
              have Hb_b4_ := Hb_b4_n
              have hsz := Nat.le_trans hsz hN.size
              exact ⟨h0, h8, h9, h10, h4, h3, (h44.trans (congrArg Value.bool (by simp [hd4, hd10, hd16, ← hc, ← hc2, ← hc3, ← hc4]))), Hb_b4_, H_d_, hW, hsz⟩
            · have hc3 := (if_neg (Bool.eq_false_iff.1 (by simp [hd4, hd10, hd16, ← hc, ← hc2]))).symm.trans hc3
              obtain ⟨z4, hz4, hc3⟩ := obind hc3
              have hc3 := Option.some.inj hc3
              rcases Bool.eq_false_or_eq_true (!z4) with hd23 | hd23
              · have hc4 := (if_pos (by simp [hd4, hd10, hd16, hd23, ← hc, ← hc2, ← hc3])).symm.trans hc4
                have hc4 := Option.some.inj hc4
                refine WP.region mixed [[], [0], [1], [2], [3], [4], [4, 5], [4, 6], [4, 7], [4, 8], [9], [10], [10, 11], [10, 12], [10, 13], [10, 14], [15], [16], [16, 17], [16, 18], [16, 19], [16, 20], [16, 21], [22], [23], [23], [23], [23], [23], [23]] [[], [0], [1], [2], [3], [4], [4, 5], [4, 6], [4, 7], [4, 8], [9], [10], [10, 11], [10, 12], [10, 13], [10, 14], [15], [16], [16, 17], [16, 18], [16, 19], [16, 20], [16, 21], [22], [23], [23], [23], [23], [23], [23]] [[4], [], [], [], [], [4], [], [], [], [], [], [4], [], [], [], [], [], [4], [], [], [], [], [], [], [], [], [], [], [], []] [] []
                  [val 15 (.pointer (some ((⟨b4_, 0, none⟩ : Addr).add 0))), val 16 (.int .i64 y.Currency), val 17 (.bool z), val 18 (.bool (!z)), val 19 (.bool false), val 20 (.pointer (some ((⟨b4_, 0, none⟩ : Addr).add 1))), val 21 (.int .i64 y.Month), val 22 (.bool z2), val 23 (.bool (!z2)), val 24 (.bool (!z2)), val 25 (.bool false), val 26 (.pointer (some ((⟨b4_, 0, none⟩ : Addr).add 2))), val 27 (Fraction.val y.Value), val 28 (.bool z3), val 29 (.bool (!z3)), val 30 (.bool (!z3)), val 31 (.bool false), val 32 (.pointer (some ((⟨b4_, 0, none⟩ : Addr).add 2))), val 33 (.pointer (some (((⟨b4_, 0, none⟩ : Addr).add 2).add 0))), val 34 (.int .i64 y.Value.Num), val 35 (.bool z4), val 36 (.bool (!z4)), val 37 (.bool (!z4)), val 38 (.bool true), anyF 39, anyF 40, anyF 41, anyF 42, anyF 43, val 44 (.bool true)] noG (by kernel_rfl)
                  ⟨Stable.val _ _ _, Stable.val _ _ _, Stable.val _ _ _, Stable.val _ _ _, Stable.val _ _ _, Stable.val _ _ _, Stable.val _ _ _, Stable.val _ _ _, Stable.val _ _ _, Stable.val _ _ _, Stable.val _ _ _, Stable.val _ _ _, Stable.val _ _ _, Stable.val _ _ _, Stable.val _ _ _, Stable.val _ _ _, Stable.val _ _ _, Stable.val _ _ _, Stable.val _ _ _, Stable.val _ _ _, Stable.val _ _ _, Stable.val _ _ _, Stable.val _ _ _, Stable.val _ _ _, Stable.any _ _, Stable.any _ _, Stable.any _ _, Stable.any _ _, Stable.any _ _, Stable.val _ _ _, trivial⟩
                  ⟨fun ρz wz hE hA ⟨e4, _⟩ _ => core_val rfl rfl (o_fieldAddr (e4.trans h4) (fa_57_0 _ _)),
     fun ρz wz hE hA _ ⟨u0, _⟩ => core_val rfl rfl (o_load u0 (run_load1 (lr_3 _ _) (CA.sub ((Hb_b4_.exn (hA rfl)).ca) 0 1))),
     fun ρz wz hE hA _ ⟨u1, _⟩ => core_call rfl (call_args1 u1) cf_43 (money_currency_ok  _  hz),
     fun ρz wz hE hA _ ⟨u2, _⟩ => core_val rfl rfl (o_not u2 rfl),
     fun ρz wz hE hA _ ⟨u3, _⟩ => core_valE rfl rfl (congrArg Value.bool hd4) (o_move u3),
     fun ρz wz hE hA ⟨e4, _⟩ ⟨u4, _⟩ => gYes rfl u4 (core_val rfl rfl (o_fieldAddr (e4.trans h4) (fa_57_1 _ _))),
     fun ρz wz hE hA _ ⟨u4, u5, _⟩ => gYes rfl u4 (core_val rfl rfl (o_load u5 (run_load1 (lr_3 _ _) (CA.sub ((Hb_b4_.exn (hA rfl)).ca) 1 1)))),
     fun ρz wz hE hA _ ⟨u4, u6, _⟩ => gYes rfl u4 (core_call rfl (call_args1 u6) cf_44 (money_month_ok  _  hz2)),
     fun ρz wz hE hA _ ⟨u4, u7, _⟩ => gYes rfl u4 (core_val rfl rfl (o_not u7 rfl)),
     fun ρz wz hE hA _ ⟨u4, u8, _⟩ => core_val rfl rfl (o_pick_f u4 u8),
     fun ρz wz hE hA _ ⟨u9, _⟩ => core_valE rfl rfl (congrArg Value.bool hd10) (o_move u9),
     fun ρz wz hE hA ⟨e4, _⟩ ⟨u10, _⟩ => gYes rfl u10 (core_val rfl rfl (o_fieldAddr (e4.trans h4) (fa_57_2 _ _))),
     fun ρz wz hE hA _ ⟨u10, u11, _⟩ => gYes rfl u10 (core_val rfl rfl (o_load u11 (run_loadN (cs := (Fraction.cells y.Value)) (lr_54 _ _) rfl (CA.sub ((Hb_b4_.exn (hA rfl)).ca) 2 2)))),
     fun ρz wz hE hA _ ⟨u10, u12, _⟩ => gYes rfl u10 (core_call rfl (call_args1 u12) cf_45 (rational_Valid_ok  _  hz3)),
     fun ρz wz hE hA _ ⟨u10, u13, _⟩ => gYes rfl u10 (core_val rfl rfl (o_not u13 rfl)),
     fun ρz wz hE hA _ ⟨u10, u14, _⟩ => core_val rfl rfl (o_pick_f u10 u14),
     fun ρz wz hE hA _ ⟨u15, _⟩ => core_valE rfl rfl (congrArg Value.bool hd16) (o_move u15),
     fun ρz wz hE hA ⟨e4, _⟩ ⟨u16, _⟩ => gYes rfl u16 (core_val rfl rfl (o_fieldAddr (e4.trans h4) (fa_57_2 _ _))),
     fun ρz wz hE hA _ ⟨u16, u17, _⟩ => gYes rfl u16 (core_val rfl rfl (o_fieldAddr u17 (fa_54_0 _ _))),
     fun ρz wz hE hA _ ⟨u16, u18, _⟩ => gYes rfl u16 (core_val rfl rfl (o_load u18 (run_load1 (lr_3 _ _) (CA.sub (CA.sub ((Hb_b4_.exn (hA rfl)).ca) 2 2) 0 1)))),
     fun ρz wz hE hA _ ⟨u16, u19, _⟩ => gYes rfl u16 (core_call rfl (call_args1 u19) cf_46 (money_small_ok  _  hz4)),
     fun ρz wz hE hA _ ⟨u16, u20, _⟩ => gYes rfl u16 (core_val rfl rfl (o_not u20 rfl)),
     fun ρz wz hE hA _ ⟨u16, u21, _⟩ => core_val rfl rfl (o_pick_f u16 u21),
     fun ρz wz hE hA _ ⟨u22, _⟩ => core_valE rfl rfl (congrArg Value.bool hd23) (o_move u22),
     fun _ _ _ _ _ ⟨u23, _⟩ => gNo rfl u23 rfl trivial,
     fun _ _ _ _ _ ⟨u23, _⟩ => gNo rfl u23 rfl trivial,
     fun _ _ _ _ _ ⟨u23, _⟩ => gNo rfl u23 rfl trivial,
     fun _ _ _ _ _ ⟨u23, _⟩ => gNo rfl u23 rfl trivial,
     fun _ _ _ _ _ ⟨u23, _⟩ => gNo rfl u23 rfl trivial,
     fun ρz wz hE hA _ ⟨u23, _⟩ => core_val rfl rfl (o_pick_t u23 rfl), trivial⟩ ?_
                intro ρ12 w12 hE hN hf hr
                have hN := hN rfl
                have h0 := (hr 0 rfl).trans h0
                have h8 := (hr 8 rfl).trans h8
                have h9 := (hr 9 rfl).trans h9
                have h10 := (hr 10 rfl).trans h10
                have h4 := (hr 4 rfl).trans h4
                have h3 := (hr 3 rfl).trans h3
                have h44 : ρ12 44 = .bool true := hf 29 rfl
                have Hb_b4_n := Hb_b4_.exn hN
                have H_d__at0 := H_d_
                have H_d_ := H_d_.exn hN
                have hW := hW.trans hN
                have Hb_b4_ := Hb_b4_n
                have hsz := Nat.le_trans hsz hN.size
                exact ⟨h0, h8, h9, h10, h4, h3, (h44.trans (congrArg Value.bool (by simp [hd4, hd10, hd16, hd23, ← hc, ← hc2, ← hc3, ← hc4]))), Hb_b4_, H_d_, hW, hsz⟩
              · have hc4 := (if_neg (Bool.eq_false_iff.1 (by simp [hd4, hd10, hd16, hd23, ← hc, ← hc2, ← hc3]))).symm.trans hc4
                obtain ⟨z5, hz5, hc4⟩ := obind hc4
                have hc4 := Option.some.inj hc4
                refine WP.region mixed [[], [0], [1], [2], [3], [4], [4, 5], [4, 6], [4, 7], [4, 8], [9], [10], [10, 11], [10, 12], [10, 13], [10, 14], [15], [16], [16, 17], [16, 18], [16, 19], [16, 20], [16, 21], [22], [23], [23, 24], [23, 25], [23, 26], [23, 27], [23, 28]] [[], [0], [1], [2], [3], [4], [4, 5], [4, 6], [4, 7], [4, 8], [9], [10], [10, 11], [10, 12], [10, 13], [10, 14], [15], [16], [16, 17], [16, 18], [16, 19], [16, 20], [16, 21], [22], [23], [23, 24], [23, 25], [23, 26], [23, 27], [23, 28]] [[4], [], [], [], [], [4], [], [], [], [], [], [4], [], [], [], [], [], [4], [], [], [], [], [], [], [4], [], [], [], [], []] [] []
                  [val 15 (.pointer (some ((⟨b4_, 0, none⟩ : Addr).add 0))), val 16 (.int .i64 y.Currency), val 17 (.bool z), val 18 (.bool (!z)), val 19 (.bool false), val 20 (.pointer (some ((⟨b4_, 0, none⟩ : Addr).add 1))), val 21 (.int .i64 y.Month), val 22 (.bool z2), val 23 (.bool (!z2)), val 24 (.bool (!z2)), val 25 (.bool false), val 26 (.pointer (some ((⟨b4_, 0, none⟩ : Addr).add 2))), val 27 (Fraction.val y.Value), val 28 (.bool z3), val 29 (.bool (!z3)), val 30 (.bool (!z3)), val 31 (.bool false), val 32 (.pointer (some ((⟨b4_, 0, none⟩ : Addr).add 2))), val 33 (.pointer (some (((⟨b4_, 0, none⟩ : Addr).add 2).add 0))), val 34 (.int .i64 y.Value.Num), val 35 (.bool z4), val 36 (.bool (!z4)), val 37 (.bool (!z4)), val 38 (.bool false), val 39 (.pointer (some ((⟨b4_, 0, none⟩ : Addr).add 2))), val 40 (.pointer (some (((⟨b4_, 0, none⟩ : Addr).add 2).add 1))), val 41 (.int .i64 y.Value.Den), val 42 (.bool z5), val 43 (.bool (!z5)), val 44 (.bool (!z5))] noG (by kernel_rfl)
                  ⟨Stable.val _ _ _, Stable.val _ _ _, Stable.val _ _ _, Stable.val _ _ _, Stable.val _ _ _, Stable.val _ _ _, Stable.val _ _ _, Stable.val _ _ _, Stable.val _ _ _, Stable.val _ _ _, Stable.val _ _ _, Stable.val _ _ _, Stable.val _ _ _, Stable.val _ _ _, Stable.val _ _ _, Stable.val _ _ _, Stable.val _ _ _, Stable.val _ _ _, Stable.val _ _ _, Stable.val _ _ _, Stable.val _ _ _, Stable.val _ _ _, Stable.val _ _ _, Stable.val _ _ _, Stable.val _ _ _, Stable.val _ _ _, Stable.val _ _ _, Stable.val _ _ _, Stable.val _ _ _, Stable.val _ _ _, trivial⟩
                  ⟨fun ρz wz hE hA ⟨e4, _⟩ _ => core_val rfl rfl (o_fieldAddr (e4.trans h4) (fa_57_0 _ _)),
     fun ρz wz hE hA _ ⟨u0, _⟩ => core_val rfl rfl (o_load u0 (run_load1 (lr_3 _ _) (CA.sub ((Hb_b4_.exn (hA rfl)).ca) 0 1))),
     fun ρz wz hE hA _ ⟨u1, _⟩ => core_call rfl (call_args1 u1) cf_43 (money_currency_ok  _  hz),
     fun ρz wz hE hA _ ⟨u2, _⟩ => core_val rfl rfl (o_not u2 rfl),
     fun ρz wz hE hA _ ⟨u3, _⟩ => core_valE rfl rfl (congrArg Value.bool hd4) (o_move u3),
     fun ρz wz hE hA ⟨e4, _⟩ ⟨u4, _⟩ => gYes rfl u4 (core_val rfl rfl (o_fieldAddr (e4.trans h4) (fa_57_1 _ _))),
     fun ρz wz hE hA _ ⟨u4, u5, _⟩ => gYes rfl u4 (core_val rfl rfl (o_load u5 (run_load1 (lr_3 _ _) (CA.sub ((Hb_b4_.exn (hA rfl)).ca) 1 1)))),
     fun ρz wz hE hA _ ⟨u4, u6, _⟩ => gYes rfl u4 (core_call rfl (call_args1 u6) cf_44 (money_month_ok  _  hz2)),
     fun ρz wz hE hA _ ⟨u4, u7, _⟩ => gYes rfl u4 (core_val rfl rfl (o_not u7 rfl)),
     fun ρz wz hE hA _ ⟨u4, u8, _⟩ => core_val rfl rfl (o_pick_f u4 u8),
     fun ρz wz hE hA _ ⟨u9, _⟩ => core_valE rfl rfl (congrArg Value.bool hd10) (o_move u9),
     fun ρz wz hE hA ⟨e4, _⟩ ⟨u10, _⟩ => gYes rfl u10 (core_val rfl rfl (o_fieldAddr (e4.trans h4) (fa_57_2 _ _))),
     fun ρz wz hE hA _ ⟨u10, u11, _⟩ => gYes rfl u10 (core_val rfl rfl (o_load u11 (run_loadN (cs := (Fraction.cells y.Value)) (lr_54 _ _) rfl (CA.sub ((Hb_b4_.exn (hA rfl)).ca) 2 2)))),
     fun ρz wz hE hA _ ⟨u10, u12, _⟩ => gYes rfl u10 (core_call rfl (call_args1 u12) cf_45 (rational_Valid_ok  _  hz3)),
     fun ρz wz hE hA _ ⟨u10, u13, _⟩ => gYes rfl u10 (core_val rfl rfl (o_not u13 rfl)),
     fun ρz wz hE hA _ ⟨u10, u14, _⟩ => core_val rfl rfl (o_pick_f u10 u14),
     fun ρz wz hE hA _ ⟨u15, _⟩ => core_valE rfl rfl (congrArg Value.bool hd16) (o_move u15),
     fun ρz wz hE hA ⟨e4, _⟩ ⟨u16, _⟩ => gYes rfl u16 (core_val rfl rfl (o_fieldAddr (e4.trans h4) (fa_57_2 _ _))),
     fun ρz wz hE hA _ ⟨u16, u17, _⟩ => gYes rfl u16 (core_val rfl rfl (o_fieldAddr u17 (fa_54_0 _ _))),
     fun ρz wz hE hA _ ⟨u16, u18, _⟩ => gYes rfl u16 (core_val rfl rfl (o_load u18 (run_load1 (lr_3 _ _) (CA.sub (CA.sub ((Hb_b4_.exn (hA rfl)).ca) 2 2) 0 1)))),
     fun ρz wz hE hA _ ⟨u16, u19, _⟩ => gYes rfl u16 (core_call rfl (call_args1 u19) cf_46 (money_small_ok  _  hz4)),
     fun ρz wz hE hA _ ⟨u16, u20, _⟩ => gYes rfl u16 (core_val rfl rfl (o_not u20 rfl)),
     fun ρz wz hE hA _ ⟨u16, u21, _⟩ => core_val rfl rfl (o_pick_f u16 u21),
     fun ρz wz hE hA _ ⟨u22, _⟩ => core_valE rfl rfl (congrArg Value.bool hd23) (o_move u22),
     fun ρz wz hE hA ⟨e4, _⟩ ⟨u23, _⟩ => gYes rfl u23 (core_val rfl rfl (o_fieldAddr (e4.trans h4) (fa_57_2 _ _))),
     fun ρz wz hE hA _ ⟨u23, u24, _⟩ => gYes rfl u23 (core_val rfl rfl (o_fieldAddr u24 (fa_54_1 _ _))),
     fun ρz wz hE hA _ ⟨u23, u25, _⟩ => gYes rfl u23 (core_val rfl rfl (o_load u25 (run_load1 (lr_3 _ _) (CA.sub (CA.sub ((Hb_b4_.exn (hA rfl)).ca) 2 2) 1 1)))),
     fun ρz wz hE hA _ ⟨u23, u26, _⟩ => gYes rfl u23 (core_call rfl (call_args1 u26) cf_46 (money_small_ok  _  hz5)),
     fun ρz wz hE hA _ ⟨u23, u27, _⟩ => gYes rfl u23 (core_val rfl rfl (o_not u27 rfl)),
     fun ρz wz hE hA _ ⟨u23, u28, _⟩ => core_val rfl rfl (o_pick_f u23 u28), trivial⟩ ?_
                intro ρ13 w13 hE hN hf hr
                have hN := hN rfl
                have h0 := (hr 0 rfl).trans h0
                have h8 := (hr 8 rfl).trans h8
                have h9 := (hr 9 rfl).trans h9
                have h10 := (hr 10 rfl).trans h10
                have h4 := (hr 4 rfl).trans h4
                have h3 := (hr 3 rfl).trans h3
                have h44 : ρ13 44 = .bool (!z5) := hf 29 rfl
                have Hb_b4_n := Hb_b4_.exn hN
                have H_d__at0 := H_d_
                have H_d_ := H_d_.exn hN
                have hW := hW.trans hN
                have Hb_b4_ := Hb_b4_n
                have hsz := Nat.le_trans hsz hN.size
                exact ⟨h0, h8, h9, h10, h4, h3, (h44.trans (congrArg Value.bool (by simp [hd4, hd10, hd16, hd23, ← hc, ← hc2, ← hc3, ← hc4]))), Hb_b4_, H_d_, hW, hsz⟩
      rintro ρ8 w8 ⟨h0, h8, h9, h10, h4, h3, h44, Hb_b4_, H_d_, hW, hsz⟩
      refine WP.cond rfl h44 (fun hb => ?_) (fun hb => ?_)
      · have hF := (if_pos hb).symm.trans hF
        refine WP.seq ?_
        refine WP.region mixed [[]] [[]] [[]] [] []
          [val 2 (.int .i64 1)] noG (by kernel_rfl)
          ⟨Stable.val _ _ _, trivial⟩
          ⟨fun ρz wz hE hA _ _ => core_val rfl rfl (o_assign rfl), trivial⟩ ?_
        intro ρ14 w14 hE hN hf hr
        have hN := hN rfl
        have h2 : ρ14 2 = .int .i64 1 := hf 0 rfl
        have hW := hW.trans hN
        have hsz := Nat.le_trans hsz hN.size
        refine WP.ret ?_
        show retQ Tryd.prog 81 Tryd.f27 (fun v w1 => v = .int .i64 r ∧ Ext noG w0 w1) .ret ρ14 w14
        obtain rfl := Option.some.inj hF
        exact res1 rfl (by decide) h2 ⟨rfl, hW⟩
      · have hF := (if_neg (Bool.eq_false_iff.1 hb)).symm.trans hF
        refine WP.skip ?_
        refine WP.seq ?_
        obtain ⟨c7, hc7, hF⟩ := obind hF
        refine WP.via (fun ρ w => ρ 0 = v_d_ ∧ ρ 8 = v_d_ ∧ ρ 9 = .int .i64 (d_.length : Int) ∧ ρ 10 = .int .i64 x ∧ ρ 79 = .bool c7 ∧ RepSl Rate.R (gfr noG w0) w v_d_ d_ ∧ Ext noG w0 w ∧ w0.heap.size ≤ w.heap.size) ?_ ?_
        · rcases Bool.eq_false_or_eq_true (decide (0 < x)) with hd2 | hd2
          · have hc7 := (if_pos (by simp [hd2])).symm.trans hc7
            obtain ⟨y2, hy2, hc7⟩ := obind hc7
            obtain ⟨ay2, cy2, hvy2, hiy2, hAy2⟩ := RepSl.getF H_d_ hy2
            obtain ⟨c6, hc6, hc7⟩ := obind hc7
            have hc7 := Option.some.inj hc7
            rcases Bool.eq_false_or_eq_true (decide (y.Currency < y2.Currency)) with hd12 | hd12
            · have hc6 := (if_pos (by simp [hd2, hd12, ← hc7])).symm.trans hc6
              have hc6 := Option.some.inj hc6
              refine WP.region mixed [[], [0], [1], [2], [2], [2, 4], [2, 3, 5], [2, 6], [2, 7], [2], [2, 9], [2, 8, 10], [2, 11], [12], [12], [12], [12], [12], [12], [12], [12], [12], [12], [22], [22], [22], [22], [22], [22], [22], [22], [22], [12], [2, 12], [2, 33]] [[], [0], [1], [2], [2], [2, 4], [2, 3, 5], [2, 6], [2, 7], [2], [2, 9], [2, 8, 10], [2, 11], [12], [12], [12], [12], [12], [12], [12], [12], [12], [12], [22], [22], [22], [22], [22], [22], [22], [22], [22], [12], [2, 12], [2, 33]] [[3], [], [], [0], [3], [], [], [], [], [4], [], [], [], [], [], [], [], [], [], [], [], [], [], [], [], [], [], [], [], [], [], [], [], [], []] [] []
                [val 45 (.int .i64 x), val 46 (.bool (decide (0 < x))), val 47 (.bool true), val 48 (v_d_), val 49 (.int .i64 x), val 50 (.int .i64 (i64 (x - 1))), val 51 (.pointer (some (ay2.add (Int.toNat (i64 (x - 1)) * 4)))), val 52 (.pointer (some ((ay2.add (Int.toNat (i64 (x - 1)) * 4)).add 0))), val 53 (.int .i64 y2.Currency), val 54 (.pointer (some ((⟨b4_, 0, none⟩ : Addr).add 0))), val 55 (.int .i64 y.Currency), val 56 (.bool (decide (y.Currency < y2.Currency))), val 57 (.bool true), anyF 58, anyF 59, anyF 60, anyF 61, anyF 62, anyF 63, anyF 64, anyF 65, anyF 66, val 67 undef, anyF 68, anyF 69, anyF 70, anyF 71, anyF 72, anyF 73, anyF 74, anyF 75, anyF 76, anyF 77, val 78 (.bool true), val 79 (.bool true)] noG (by kernel_rfl)
                ⟨Stable.val _ _ _, Stable.val _ _ _, Stable.val _ _ _, Stable.val _ _ _, Stable.val _ _ _, Stable.val _ _ _, Stable.val _ _ _, Stable.val _ _ _, Stable.val _ _ _, Stable.val _ _ _, Stable.val _ _ _, Stable.val _ _ _, Stable.val _ _ _, Stable.any _ _, Stable.any _ _, Stable.any _ _, Stable.any _ _, Stable.any _ _, Stable.any _ _, Stable.any _ _, Stable.any _ _, Stable.any _ _, Stable.val _ _ _, Stable.any _ _, Stable.any _ _, Stable.any _ _, Stable.any _ _, Stable.any _ _, Stable.any _ _, Stable.any _ _, Stable.any _ _, Stable.any _ _, Stable.any _ _, Stable.val _ _ _, Stable.val _ _ _, trivial⟩
                ⟨fun ρz wz hE hA ⟨e3, _⟩ _ => core_val rfl rfl (o_move (e3.trans h3)),
     fun ρz wz hE hA _ ⟨u0, _⟩ => core_val rfl rfl (o_gtr u0 rfl rfl),
     fun ρz wz hE hA _ ⟨u1, _⟩ => core_valE rfl rfl (congrArg Value.bool hd2) (o_move u1),
     fun ρz wz hE hA ⟨e0, _⟩ ⟨u2, _⟩ => gYes rfl u2 (core_val rfl rfl (o_move (e0.trans h0))),
     fun ρz wz hE hA ⟨e3, _⟩ ⟨u2, _⟩ => gYes rfl u2 (core_val rfl rfl (o_move (e3.trans h3))),
     fun ρz wz hE hA _ ⟨u2, u4, _⟩ => gYes rfl u2 (core_val rfl rfl (o_sub u4 rfl rfl)),
     fun ρz wz hE hA _ ⟨u2, u3, u5, _⟩ => gYes rfl u2 (core_val rfl rfl (o_indexAddr (u3.trans hvy2) u5 (ia_26 hiy2))),
     fun ρz wz hE hA _ ⟨u2, u6, _⟩ => gYes rfl u2 (core_val rfl rfl (o_fieldAddr u6 (fa_57_0 _ _))),
     fun ρz wz hE hA _ ⟨u2, u7, _⟩ => gYes rfl u2 (core_val rfl rfl (o_load u7 (run_load1 (lr_3 _ _) (CA.sub ((hAy2.exn (hA rfl)).ca) 0 1)))),
     fun ρz wz hE hA ⟨e4, _⟩ ⟨u2, _⟩ => gYes rfl u2 (core_val rfl rfl (o_fieldAddr (e4.trans h4) (fa_57_0 _ _))),
     fun ρz wz hE hA _ ⟨u2, u9, _⟩ => gYes rfl u2 (core_val rfl rfl (o_load u9 (run_load1 (lr_3 _ _) (CA.sub ((Hb_b4_.exn (hA rfl)).ca) 0 1)))),
     fun ρz wz hE hA _ ⟨u2, u8, u10, _⟩ => gYes rfl u2 (core_val rfl rfl (o_gtr u8 u10 rfl)),
     fun ρz wz hE hA _ ⟨u2, u11, _⟩ => gYes rfl u2 (core_valE rfl rfl (congrArg Value.bool hd12) (o_move u11)),
     fun _ _ _ _ _ ⟨u12, _⟩ => gNo rfl u12 rfl trivial,
     fun _ _ _ _ _ ⟨u12, _⟩ => gNo rfl u12 rfl trivial,
     fun _ _ _ _ _ ⟨u12, _⟩ => gNo rfl u12 rfl trivial,
     fun _ _ _ _ _ ⟨u12, _⟩ => gNo rfl u12 rfl trivial,
     fun _ _ _ _ _ ⟨u12, _⟩ => gNo rfl u12 rfl trivial,
     fun _ _ _ _ _ ⟨u12, _⟩ => gNo rfl u12 rfl trivial,
     fun _ _ _ _ _ ⟨u12, _⟩ => gNo rfl u12 rfl trivial,
     fun _ _ _ _ _ ⟨u12, _⟩ => gNo rfl u12 rfl trivial,
     fun _ _ _ _ _ ⟨u12, _⟩ => gNo rfl u12 rfl trivial,
     fun _ _ _ _ _ ⟨u12, _⟩ => gNo rfl u12 rfl (upd_same _ _ _),
     fun _ _ _ _ _ ⟨u22, _⟩ => gOff rfl u22 trivial,
     fun _ _ _ _ _ ⟨u22, _⟩ => gOff rfl u22 trivial,
     fun _ _ _ _ _ ⟨u22, _⟩ => gOff rfl u22 trivial,
     fun _ _ _ _ _ ⟨u22, _⟩ => gOff rfl u22 trivial,
     fun _ _ _ _ _ ⟨u22, _⟩ => gOff rfl u22 trivial,
     fun _ _ _ _ _ ⟨u22, _⟩ => gOff rfl u22 trivial,
     fun _ _ _ _ _ ⟨u22, _⟩ => gOff rfl u22 trivial,
     fun _ _ _ _ _ ⟨u22, _⟩ => gOff rfl u22 trivial,
     fun _ _ _ _ _ ⟨u22, _⟩ => gOff rfl u22 trivial,
     fun _ _ _ _ _ ⟨u12, _⟩ => gNo rfl u12 rfl trivial,
     fun ρz wz hE hA _ ⟨u2, u12, _⟩ => gYes rfl u2 (core_val rfl rfl (o_pick_t u12 rfl)),
     fun ρz wz hE hA _ ⟨u2, u33, _⟩ => core_val rfl rfl (o_pick_t u2 u33), trivial⟩ ?_
              intro ρ16 w16 hE hN hf hr
              have hN := hN rfl
              have h0 := (hr 0 rfl).trans h0
              have h8 := (hr 8 rfl).trans h8
              have h9 := (hr 9 rfl).trans h9
              have h10 := (hr 10 rfl).trans h10
              have h79 : ρ16 79 = .bool true := hf 34 rfl
              have H_d__at0 := H_d_
              have H_d_ := H_d_.exn hN
              have hW := hW.trans hN
              have hsz := Nat.le_trans hsz hN.size
              exact ⟨h0, h8, h9, h10, (h79.trans (congrArg Value.bool (by simp [hd2, hd12, ← hc7, ← hc6]))), H_d_, hW, hsz⟩
            · have hc6 := (if_neg (Bool.eq_false_iff.1 (by simp [hd2, hd12, ← hc7]))).symm.trans hc6
              obtain ⟨y3, hy3, hc6⟩ := obind hc6
              obtain ⟨ay3, cy3, hvy3, hiy3, hAy3⟩ := RepSl.getF H_d_ hy3
              obtain ⟨c5, hc5, hc6⟩ := obind hc6
              have hc6 := Option.some.inj hc6
              rcases Bool.eq_false_or_eq_true (y3.Currency == y.Currency) with hd22 | hd22
              · have hc5 := (if_pos (by simp [hd2, hd12, hd22, ← hc7, ← hc6])).symm.trans hc5
                obtain ⟨y4, hy4, hc5⟩ := obind hc5
                obtain ⟨ay4, cy4, hvy4, hiy4, hAy4⟩ := RepSl.getF H_d_ hy4
                have hc5 := Option.some.inj hc5
                refine WP.region mixed [[], [0], [1], [2], [2], [2, 4], [2, 3, 5], [2, 6], [2, 7], [2], [2, 9], [2, 8, 10], [2, 11], [12], [12], [12, 14], [12, 13, 15], [12, 16], [12, 17], [12], [12, 19], [12, 18, 20], [12, 21], [22], [22], [22, 24], [22, 23, 25], [22, 26], [22, 27], [22], [22, 29], [22, 28, 30], [12, 22, 31], [2, 12, 32], [2, 33]] [[], [0], [1], [2], [2], [2, 4], [2, 3, 5], [2, 6], [2, 7], [2], [2, 9], [2, 8, 10], [2, 11], [12], [12], [12, 14], [12, 13, 15], [12, 16], [12, 17], [12], [12, 19], [12, 18, 20], [12, 21], [22], [22], [22, 24], [22, 23, 25], [22, 26], [22, 27], [22], [22, 29], [22, 28, 30], [12, 22, 31], [2, 12, 32], [2, 33]] [[3], [], [], [0], [3], [], [], [], [], [4], [], [], [], [0], [3], [], [], [], [], [4], [], [], [], [0], [3], [], [], [], [], [4], [], [], [], [], []] [] []
                  [val 45 (.int .i64 x), val 46 (.bool (decide (0 < x))), val 47 (.bool true), val 48 (v_d_), val 49 (.int .i64 x), val 50 (.int .i64 (i64 (x - 1))), val 51 (.pointer (some (ay2.add (Int.toNat (i64 (x - 1)) * 4)))), val 52 (.pointer (some ((ay2.add (Int.toNat (i64 (x - 1)) * 4)).add 0))), val 53 (.int .i64 y2.Currency), val 54 (.pointer (some ((⟨b4_, 0, none⟩ : Addr).add 0))), val 55 (.int .i64 y.Currency), val 56 (.bool (decide (y.Currency < y2.Currency))), val 57 (.bool false), val 58 (v_d_), val 59 (.int .i64 x), val 60 (.int .i64 (i64 (x - 1))), val 61 (.pointer (some (ay3.add (Int.toNat (i64 (x - 1)) * 4)))), val 62 (.pointer (some ((ay3.add (Int.toNat (i64 (x - 1)) * 4)).add 0))), val 63 (.int .i64 y3.Currency), val 64 (.pointer (some ((⟨b4_, 0, none⟩ : Addr).add 0))), val 65 (.int .i64 y.Currency), val 66 (.bool (y3.Currency == y.Currency)), val 67 (.bool true), val 68 (v_d_), val 69 (.int .i64 x), val 70 (.int .i64 (i64 (x - 1))), val 71 (.pointer (some (ay4.add (Int.toNat (i64 (x - 1)) * 4)))), val 72 (.pointer (some ((ay4.add (Int.toNat (i64 (x - 1)) * 4)).add 1))), val 73 (.int .i64 y4.Month), val 74 (.pointer (some ((⟨b4_, 0, none⟩ : Addr).add 1))), val 75 (.int .i64 y.Month), val 76 (.bool (decide (y.Month ≤ y4.Month))), val 77 (.bool (decide (y.Month ≤ y4.Month))), val 78 (.bool (decide (y.Month ≤ y4.Month))), val 79 (.bool (decide (y.Month ≤ y4.Month)))] noG (by kernel_rfl)
                  ⟨Stable.val _ _ _, Stable.val _ _ _, Stable.val _ _ _, Stable.val _ _ _, Stable.val _ _ _, Stable.val _ _ _, Stable.val _ _ _, Stable.val _ _ _, Stable.val _ _ _, Stable.val _ _ _, Stable.val _ _ _, Stable.val _ _ _, Stable.val _ _ _, Stable.val _ _ _, Stable.val _ _ _, Stable.val _ _ _, Stable.val _ _ _, Stable.val _ _ _, Stable.val _ _ _, Stable.val _ _ _, Stable.val _ _ _, Stable.val _ _ _, Stable.val _ _ _, Stable.val _ _ _, Stable.val _ _ _, Stable.val _ _ _, Stable.val _ _ _, Stable.val _ _ _, Stable.val _ _ _, Stable.val _ _ _, Stable.val _ _ _, Stable.val _ _ _, Stable.val _ _ _, Stable.val _ _ _, Stable.val _ _ _, trivial⟩
                  ⟨fun ρz wz hE hA ⟨e3, _⟩ _ => core_val rfl rfl (o_move (e3.trans h3)),
     fun ρz wz hE hA _ ⟨u0, _⟩ => core_val rfl rfl (o_gtr u0 rfl rfl),
     fun ρz wz hE hA _ ⟨u1, _⟩ => core_valE rfl rfl (congrArg Value.bool hd2) (o_move u1),
     fun ρz wz hE hA ⟨e0, _⟩ ⟨u2, _⟩ => gYes rfl u2 (core_val rfl rfl (o_move (e0.trans h0))),
     fun ρz wz hE hA ⟨e3, _⟩ ⟨u2, _⟩ => gYes rfl u2 (core_val rfl rfl (o_move (e3.trans h3))),
     fun ρz wz hE hA _ ⟨u2, u4, _⟩ => gYes rfl u2 (core_val rfl rfl (o_sub u4 rfl rfl)),
     fun ρz wz hE hA _ ⟨u2, u3, u5, _⟩ => gYes rfl u2 (core_val rfl rfl (o_indexAddr (u3.trans hvy2) u5 (ia_26 hiy2))),
     fun ρz wz hE hA _ ⟨u2, u6, _⟩ => gYes rfl u2 (core_val rfl rfl (o_fieldAddr u6 (fa_57_0 _ _))),
     fun ρz wz hE hA _ ⟨u2, u7, _⟩ => gYes rfl u2 (core_val rfl rfl (o_load u7 (run_load1 (lr_3 _ _) (CA.sub ((hAy2.exn (hA rfl)).ca) 0 1)))),
     fun ρz wz hE hA ⟨e4, _⟩ ⟨u2, _⟩ => gYes rfl u2 (core_val rfl rfl (o_fieldAddr (e4.trans h4) (fa_57_0 _ _))),
     fun ρz wz hE hA _ ⟨u2, u9, _⟩ => gYes rfl u2 (core_val rfl rfl (o_load u9 (run_load1 (lr_3 _ _) (CA.sub ((Hb_b4_.exn (hA rfl)).ca) 0 1)))),
     fun ρz wz hE hA _ ⟨u2, u8, u10, _⟩ => gYes rfl u2 (core_val rfl rfl (o_gtr u8 u10 rfl)),
     fun ρz wz hE hA _ ⟨u2, u11, _⟩ => gYes rfl u2 (core_valE rfl rfl (congrArg Value.bool hd12) (o_move u11)),
     fun ρz wz hE hA ⟨e0, _⟩ ⟨u12, _⟩ => gYes rfl u12 (core_val rfl rfl (o_move (e0.trans h0))),
     fun ρz wz hE hA ⟨e3, _⟩ ⟨u12, _⟩ => gYes rfl u12 (core_val rfl rfl (o_move (e3.trans h3))),
     fun ρz wz hE hA _ ⟨u12, u14, _⟩ => gYes rfl u12 (core_val rfl rfl (o_sub u14 rfl rfl)),
     fun ρz wz hE hA _ ⟨u12, u13, u15, _⟩ => gYes rfl u12 (core_val rfl rfl (o_indexAddr (u13.trans hvy3) u15 (ia_26 hiy3))),
     fun ρz wz hE hA _ ⟨u12, u16, _⟩ => gYes rfl u12 (core_val rfl rfl (o_fieldAddr u16 (fa_57_0 _ _))),
     fun ρz wz hE hA _ ⟨u12, u17, _⟩ => gYes rfl u12 (core_val rfl rfl (o_load u17 (run_load1 (lr_3 _ _) (CA.sub ((hAy3.exn (hA rfl)).ca) 0 1)))),
     fun ρz wz hE hA ⟨e4, _⟩ ⟨u12, _⟩ => gYes rfl u12 (core_val rfl rfl (o_fieldAddr (e4.trans h4) (fa_57_0 _ _))),
     fun ρz wz hE hA _ ⟨u12, u19, _⟩ => gYes rfl u12 (core_val rfl rfl (o_load u19 (run_load1 (lr_3 _ _) (CA.sub ((Hb_b4_.exn (hA rfl)).ca) 0 1)))),
     fun ρz wz hE hA _ ⟨u12, u18, u20, _⟩ => gYes rfl u12 (core_val rfl rfl (o_eql u18 u20 rfl)),
     fun ρz wz hE hA _ ⟨u12, u21, _⟩ => gYes rfl u12 (core_valE rfl rfl (congrArg Value.bool hd22) (o_move u21)),
     fun ρz wz hE hA ⟨e0, _⟩ ⟨u22, _⟩ => gYes rfl u22 (core_val rfl rfl (o_move (e0.trans h0))),
     fun ρz wz hE hA ⟨e3, _⟩ ⟨u22, _⟩ => gYes rfl u22 (core_val rfl rfl (o_move (e3.trans h3))),
     fun ρz wz hE hA _ ⟨u22, u24, _⟩ => gYes rfl u22 (core_val rfl rfl (o_sub u24 rfl rfl)),
     fun ρz wz hE hA _ ⟨u22, u23, u25, _⟩ => gYes rfl u22 (core_val rfl rfl (o_indexAddr (u23.trans hvy4) u25 (ia_26 hiy4))),
     fun ρz wz hE hA _ ⟨u22, u26, _⟩ => gYes rfl u22 (core_val rfl rfl (o_fieldAddr u26 (fa_57_1 _ _))),
     fun ρz wz hE hA _ ⟨u22, u27, _⟩ => gYes rfl u22 (core_val rfl rfl (o_load u27 (run_load1 (lr_3 _ _) (CA.sub ((hAy4.exn (hA rfl)).ca) 1 1)))),
     fun ρz wz hE hA ⟨e4, _⟩ ⟨u22, _⟩ => gYes rfl u22 (core_val rfl rfl (o_fieldAddr (e4.trans h4) (fa_57_1 _ _))),
     fun ρz wz hE hA _ ⟨u22, u29, _⟩ => gYes rfl u22 (core_val rfl rfl (o_load u29 (run_load1 (lr_3 _ _) (CA.sub ((Hb_b4_.exn (hA rfl)).ca) 1 1)))),
     fun ρz wz hE hA _ ⟨u22, u28, u30, _⟩ => gYes rfl u22 (core_val rfl rfl (o_geq u28 u30 rfl)),
     fun ρz wz hE hA _ ⟨u12, u22, u31, _⟩ => gYes rfl u12 (core_val rfl rfl (o_pick_t u22 u31)),
     fun ρz wz hE hA _ ⟨u2, u12, u32, _⟩ => gYes rfl u2 (core_val rfl rfl (o_pick_f u12 u32)),
     fun ρz wz hE hA _ ⟨u2, u33, _⟩ => core_val rfl rfl (o_pick_t u2 u33), trivial⟩ ?_
                intro ρ17 w17 hE hN hf hr
                have hN := hN rfl
                have h0 := (hr 0 rfl).trans h0
                have h8 := (hr 8 rfl).trans h8
                have h9 := (hr 9 rfl).trans h9
                have h10 := (hr 10 rfl).trans h10
                have h79 : ρ17 79 = .bool (decide (y.Month ≤ y4.Month)) := hf 34 rfl
                have H_d__at0 := H_d_
                have H_d_ := H_d_.exn hN
                have hW := hW.trans hN
                have hsz := Nat.le_trans hsz hN.size
                exact ⟨h0, h8, h9, h10, (h79.trans (congrArg Value.bool (by simp [hd2, hd12, hd22, ← hc7, ← hc6, ← hc5]))), H_d_, hW, hsz⟩
              · have hc5 := (if_neg (Bool.eq_false_iff.1 (by simp [hd2, hd12, hd22, ← hc7, ← hc6]))).symm.trans hc5
                have hc5 := Option.some.inj hc5
                refine WP.region mixed [[], [0], [1], [2], [2], [2, 4], [2, 3, 5], [2, 6], [2, 7], [2], [2, 9], [2, 8, 10], [2, 11], [12], [12], [12, 14], [12, 13, 15], [12, 16], [12, 17], [12], [12, 19], [12, 18, 20], [12, 21], [22], [22], [22], [22], [22], [22], [22], [22], [22], [12, 22], [2, 12, 32], [2, 33]] [[], [0], [1], [2], [2], [2, 4], [2, 3, 5], [2, 6], [2, 7], [2], [2, 9], [2, 8, 10], [2, 11], [12], [12], [12, 14], [12, 13, 15], [12, 16], [12, 17], [12], [12, 19], [12, 18, 20], [12, 21], [22], [22], [22], [22], [22], [22], [22], [22], [22], [12, 22], [2, 12, 32], [2, 33]] [[3], [], [], [0], [3], [], [], [], [], [4], [], [], [], [0], [3], [], [], [], [], [4], [], [], [], [], [], [], [], [], [], [], [], [], [], [], []] [] []
                  [val 45 (.int .i64 x), val 46 (.bool (decide (0 < x))), val 47 (.bool true), val 48 (v_d_), val 49 (.int .i64 x), val 50 (.int .i64 (i64 (x - 1))), val 51 (.pointer (some (ay2.add (Int.toNat (i64 (x - 1)) * 4)))), val 52 (.pointer (some ((ay2.add (Int.toNat (i64 (x - 1)) * 4)).add 0))), val 53 (.int .i64 y2.Currency), val 54 (.pointer (some ((⟨b4_, 0, none⟩ : Addr).add 0))), val 55 (.int .i64 y.Currency), val 56 (.bool (decide (y.Currency < y2.Currency))), val 57 (.bool false), val 58 (v_d_), val 59 (.int .i64 x), val 60 (.int .i64 (i64 (x - 1))), val 61 (.pointer (some (ay3.add (Int.toNat (i64 (x - 1)) * 4)))), val 62 (.pointer (some ((ay3.add (Int.toNat (i64 (x - 1)) * 4)).add 0))), val 63 (.int .i64 y3.Currency), val 64 (.pointer (some ((⟨b4_, 0, none⟩ : Addr).add 0))), val 65 (.int .i64 y.Currency), val 66 (.bool (y3.Currency == y.Currency)), val 67 (.bool false), anyF 68, anyF 69, anyF 70, anyF 71, anyF 72, anyF 73, anyF 74, anyF 75, anyF 76, val 77 (.bool false), val 78 (.bool false), val 79 (.bool false)] noG (by kernel_rfl)
                  ⟨Stable.val _ _ _, Stable.val _ _ _, Stable.val _ _ _, Stable.val _ _ _, Stable.val _ _ _, Stable.val _ _ _, Stable.val _ _ _, Stable.val _ _ _, Stable.val _ _ _, Stable.val _ _ _, Stable.val _ _ _, Stable.val _ _ _, Stable.val _ _ _, Stable.val _ _ _, Stable.val _ _ _, Stable.val _ _ _, Stable.val _ _ _, Stable.val _ _ _, Stable.val _ _ _, Stable.val _ _ _, Stable.val _ _ _, Stable.val _ _ _, Stable.val _ _ _, Stable.any _ _, Stable.any _ _, Stable.any _ _, Stable.any _ _, Stable.any _ _, Stable.any _ _, Stable.any _ _, Stable.any _ _, Stable.any _ _, Stable.val _ _ _, Stable.val _ _ _, Stable.val _ _ _, trivial⟩
                  ⟨fun ρz wz hE hA ⟨e3, _⟩ _ => core_val rfl rfl (o_move (e3.trans h3)),
     fun ρz wz hE hA _ ⟨u0, _⟩ => core_val rfl rfl (o_gtr u0 rfl rfl),
     fun ρz wz hE hA _ ⟨u1, _⟩ => core_valE rfl rfl (congrArg Value.bool hd2) (o_move u1),
     fun ρz wz hE hA ⟨e0, _⟩ ⟨u2, _⟩ => gYes rfl u2 (core_val rfl rfl (o_move (e0.trans h0))),
     fun ρz wz hE hA ⟨e3, _⟩ ⟨u2, _⟩ => gYes rfl u2 (core_val rfl rfl (o_move (e3.trans h3))),
     fun ρz wz hE hA _ ⟨u2, u4, _⟩ => gYes rfl u2 (core_val rfl rfl (o_sub u4 rfl rfl)),
     fun ρz wz hE hA _ ⟨u2, u3, u5, _⟩ => gYes rfl u2 (core_val rfl rfl (o_indexAddr (u3.trans hvy2) u5 (ia_26 hiy2))),
     fun ρz wz hE hA _ ⟨u2, u6, _⟩ => gYes rfl u2 (core_val rfl rfl (o_fieldAddr u6 (fa_57_0 _ _))),
     fun ρz wz hE hA _ ⟨u2, u7, _⟩ => gYes rfl u2 (core_val rfl rfl (o_load u7 (run_load1 (lr_3 _ _) (CA.sub ((hAy2.exn (hA rfl)).ca) 0 1)))),
     fun ρz wz hE hA ⟨e4, _⟩ ⟨u2, _⟩ => gYes rfl u2 (core_val rfl rfl (o_fieldAddr (e4.trans h4) (fa_57_0 _ _))),
     fun ρz wz hE hA _ ⟨u2, u9, _⟩ => gYes rfl u2 (core_val rfl rfl (o_load u9 (run_load1 (lr_3 _ _) (CA.sub ((Hb_b4_.exn (hA rfl)).ca) 0 1)))),
     fun ρz wz hE hA _ ⟨u2, u8, u10, _⟩ => gYes rfl u2 (core_val rfl rfl (o_gtr u8 u10 rfl)),
     fun ρz wz hE hA _ ⟨u2, u11, _⟩ => gYes rfl u2 (core_valE rfl rfl (congrArg Value.bool hd12) (o_move u11)),
     fun ρz wz hE hA ⟨e0, _⟩ ⟨u12, _⟩ => gYes rfl u12 (core_val rfl rfl (o_move (e0.trans h0))),
     fun ρz wz hE hA ⟨e3, _⟩ ⟨u12, _⟩ => gYes rfl u12 (core_val rfl rfl (o_move (e3.trans h3))),
     fun ρz wz hE hA _ ⟨u12, u14, _⟩ => gYes rfl u12 (core_val rfl rfl (o_sub u14 rfl rfl)),
     fun ρz wz hE hA _ ⟨u12, u13, u15, _⟩ => gYes rfl u12 (core_val rfl rfl (o_indexAddr (u13.trans hvy3) u15 (ia_26 hiy3))),
     fun ρz wz hE hA _ ⟨u12, u16, _⟩ => gYes rfl u12 (core_val rfl rfl (o_fieldAddr u16 (fa_57_0 _ _))),
     fun ρz wz hE hA _ ⟨u12, u17, _⟩ => gYes rfl u12 (core_val rfl rfl (o_load u17 (run_load1 (lr_3 _ _) (CA.sub ((hAy3.exn (hA rfl)).ca) 0 1)))),
     fun ρz wz hE hA ⟨e4, _⟩ ⟨u12, _⟩ => gYes rfl u12 (core_val rfl rfl (o_fieldAddr (e4.trans h4) (fa_57_0 _ _))),
     fun ρz wz hE hA _ ⟨u12, u19, _⟩ => gYes rfl u12 (core_val rfl rfl (o_load u19 (run_load1 (lr_3 _ _) (CA.sub ((Hb_b4_.exn (hA rfl)).ca) 0 1)))),
     fun ρz wz hE hA _ ⟨u12, u18, u20, _⟩ => gYes rfl u12 (core_val rfl rfl (o_eql u18 u20 rfl)),
     fun ρz wz hE hA _ ⟨u12, u21, _⟩ => gYes rfl u12 (core_valE rfl rfl (congrArg Value.bool hd22) (o_move u21)),
     fun _ _ _ _ _ ⟨u22, _⟩ => gNo rfl u22 rfl trivial,
     fun _ _ _ _ _ ⟨u22, _⟩ => gNo rfl u22 rfl trivial,
     fun _ _ _ _ _ ⟨u22, _⟩ => gNo rfl u22 rfl trivial,
     fun _ _ _ _ _ ⟨u22, _⟩ => gNo rfl u22 rfl trivial,
     fun _ _ _ _ _ ⟨u22, _⟩ => gNo rfl u22 rfl trivial,
     fun _ _ _ _ _ ⟨u22, _⟩ => gNo rfl u22 rfl trivial,
     fun _ _ _ _ _ ⟨u22, _⟩ => gNo rfl u22 rfl trivial,
     fun _ _ _ _ _ ⟨u22, _⟩ => gNo rfl u22 rfl trivial,
     fun _ _ _ _ _ ⟨u22, _⟩ => gNo rfl u22 rfl trivial,
     fun ρz wz hE hA _ ⟨u12, u22, _⟩ => gYes rfl u12 (core_val rfl rfl (o_pick_f u22 rfl)),
     fun ρz wz hE hA _ ⟨u2, u12, u32, _⟩ => gYes rfl u2 (core_val rfl rfl (o_pick_f u12 u32)),
     fun ρz wz hE hA _ ⟨u2, u33, _⟩ => core_val rfl rfl (o_pick_t u2 u33), trivial⟩ ?_
                intro ρ18 w18 hE hN hf hr
                have hN := hN rfl
                have h0 := (hr 0 rfl).trans h0
                have h8 := (hr 8 rfl).trans h8
                have h9 := (hr 9 rfl).trans h9
                have h10 := (hr 10 rfl).trans h10
                have h79 : ρ18 79 = .bool false := hf 34 rfl
                have H_d__at0 := H_d_
                have H_d_ := H_d_.exn hN
                have hW := hW.trans hN
                have hsz := Nat.le_trans hsz hN.size
                exact ⟨h0, h8, h9, h10, (h79.trans (congrArg Value.bool (by simp [hd2, hd12, hd22, ← hc7, ← hc6, ← hc5]))), H_d_, hW, hsz⟩
          · have hc7 := (if_neg (Bool.eq_false_iff.1 (by simp [hd2]))).symm.trans hc7
            have hc7 := Option.some.inj hc7
            refine WP.region mixed [[], [0], [1], [2], [2], [2], [2], [2], [2], [2], [2], [2], [2], [12], [12], [12], [12], [12], [12], [12], [12], [12], [12], [22], [22], [22], [22], [22], [22], [22], [22], [22], [12], [2], [2]] [[], [0], [1], [2], [2], [2], [2], [2], [2], [2], [2], [2], [2], [12], [12], [12], [12], [12], [12], [12], [12], [12], [12], [22], [22], [22], [22], [22], [22], [22], [22], [22], [12], [2], [2]] [[3], [], [], [], [], [], [], [], [], [], [], [], [], [], [], [], [], [], [], [], [], [], [], [], [], [], [], [], [], [], [], [], [], [], []] [] []
              [val 45 (.int .i64 x), val 46 (.bool (decide (0 < x))), val 47 (.bool false), anyF 48, anyF 49, anyF 50, anyF 51, anyF 52, anyF 53, anyF 54, anyF 55, anyF 56, val 57 undef, anyF 58, anyF 59, anyF 60, anyF 61, anyF 62, anyF 63, anyF 64, anyF 65, anyF 66, val 67 undef, anyF 68, anyF 69, anyF 70, anyF 71, anyF 72, anyF 73, anyF 74, anyF 75, anyF 76, anyF 77, anyF 78, val 79 (.bool false)] noG (by kernel_rfl)
              ⟨Stable.val _ _ _, Stable.val _ _ _, Stable.val _ _ _, Stable.any _ _, Stable.any _ _, Stable.any _ _, Stable.any _ _, Stable.any _ _, Stable.any _ _, Stable.any _ _, Stable.any _ _, Stable.any _ _, Stable.val _ _ _, Stable.any _ _, Stable.any _ _, Stable.any _ _, Stable.any _ _, Stable.any _ _, Stable.any _ _, Stable.any _ _, Stable.any _ _, Stable.any _ _, Stable.val _ _ _, Stable.any _ _, Stable.any _ _, Stable.any _ _, Stable.any _ _, Stable.any _ _, Stable.any _ _, Stable.any _ _, Stable.any _ _, Stable.any _ _, Stable.any _ _, Stable.any _ _, Stable.val _ _ _, trivial⟩
              ⟨fun ρz wz hE hA ⟨e3, _⟩ _ => core_val rfl rfl (o_move (e3.trans h3)),
     fun ρz wz hE hA _ ⟨u0, _⟩ => core_val rfl rfl (o_gtr u0 rfl rfl),
     fun ρz wz hE hA _ ⟨u1, _⟩ => core_valE rfl rfl (congrArg Value.bool hd2) (o_move u1),
     fun _ _ _ _ _ ⟨u2, _⟩ => gNo rfl u2 rfl trivial,
     fun _ _ _ _ _ ⟨u2, _⟩ => gNo rfl u2 rfl trivial,
     fun _ _ _ _ _ ⟨u2, _⟩ => gNo rfl u2 rfl trivial,
     fun _ _ _ _ _ ⟨u2, _⟩ => gNo rfl u2 rfl trivial,
     fun _ _ _ _ _ ⟨u2, _⟩ => gNo rfl u2 rfl trivial,
     fun _ _ _ _ _ ⟨u2, _⟩ => gNo rfl u2 rfl trivial,
     fun _ _ _ _ _ ⟨u2, _⟩ => gNo rfl u2 rfl trivial,
     fun _ _ _ _ _ ⟨u2, _⟩ => gNo rfl u2 rfl trivial,
     fun _ _ _ _ _ ⟨u2, _⟩ => gNo rfl u2 rfl trivial,
     fun _ _ _ _ _ ⟨u2, _⟩ => gNo rfl u2 rfl (upd_same _ _ _),
     fun _ _ _ _ _ ⟨u12, _⟩ => gOff rfl u12 trivial,
     fun _ _ _ _ _ ⟨u12, _⟩ => gOff rfl u12 trivial,
     fun _ _ _ _ _ ⟨u12, _⟩ => gOff rfl u12 trivial,
     fun _ _ _ _ _ ⟨u12, _⟩ => gOff rfl u12 trivial,
     fun _ _ _ _ _ ⟨u12, _⟩ => gOff rfl u12 trivial,
     fun _ _ _ _ _ ⟨u12, _⟩ => gOff rfl u12 trivial,
     fun _ _ _ _ _ ⟨u12, _⟩ => gOff rfl u12 trivial,
     fun _ _ _ _ _ ⟨u12, _⟩ => gOff rfl u12 trivial,
     fun _ _ _ _ _ ⟨u12, _⟩ => gOff rfl u12 trivial,
     fun _ _ _ _ _ ⟨u12, _⟩ => gOff rfl u12 (upd_same _ _ _),
     fun _ _ _ _ _ ⟨u22, _⟩ => gOff rfl u22 trivial,
     fun _ _ _ _ _ ⟨u22, _⟩ => gOff rfl u22 trivial,
     fun _ _ _ _ _ ⟨u22, _⟩ => gOff rfl u22 trivial,
     fun _ _ _ _ _ ⟨u22, _⟩ => gOff rfl u22 trivial,
     fun _ _ _ _ _ ⟨u22, _⟩ => gOff rfl u22 trivial,
     fun _ _ _ _ _ ⟨u22, _⟩ => gOff rfl u22 trivial,
     fun _ _ _ _ _ ⟨u22, _⟩ => gOff rfl u22 trivial,
     fun _ _ _ _ _ ⟨u22, _⟩ => gOff rfl u22 trivial,
     fun _ _ _ _ _ ⟨u22, _⟩ => gOff rfl u22 trivial,
     fun _ _ _ _ _ ⟨u12, _⟩ => gOff rfl u12 trivial,
     fun _ _ _ _ _ ⟨u2, _⟩ => gNo rfl u2 rfl trivial,
     fun ρz wz hE hA _ ⟨u2, _⟩ => core_val rfl rfl (o_pick_f u2 rfl), trivial⟩ ?_
            intro ρ19 w19 hE hN hf hr
            have hN := hN rfl
            have h0 := (hr 0 rfl).trans h0
            have h8 := (hr 8 rfl).trans h8
            have h9 := (hr 9 rfl).trans h9
            have h10 := (hr 10 rfl).trans h10
            have h79 : ρ19 79 = .bool false := hf 34 rfl
            have H_d__at0 := H_d_
            have H_d_ := H_d_.exn hN
            have hW := hW.trans hN
            have hsz := Nat.le_trans hsz hN.size
            exact ⟨h0, h8, h9, h10, (h79.trans (congrArg Value.bool (by simp [hd2, ← hc7]))), H_d_, hW, hsz⟩
        rintro ρ15 w15 ⟨h0, h8, h9, h10, h79, H_d_, hW, hsz⟩
        refine WP.cond rfl h79 (fun hb => ?_) (fun hb => ?_)
        · have hF := (if_pos hb).symm.trans hF
          refine WP.seq ?_
          refine WP.region mixed [[]] [[]] [[]] [] []
            [val 2 (.int .i64 1)] noG (by kernel_rfl)
            ⟨Stable.val _ _ _, trivial⟩
            ⟨fun ρz wz hE hA _ _ => core_val rfl rfl (o_assign rfl), trivial⟩ ?_
          intro ρ20 w20 hE hN hf hr
          have hN := hN rfl
          have h2 : ρ20 2 = .int .i64 1 := hf 0 rfl
          have hW := hW.trans hN
          have hsz := Nat.le_trans hsz hN.size
          refine WP.ret ?_
          show retQ Tryd.prog 81 Tryd.f27 (fun v w1 => v = .int .i64 r ∧ Ext noG w0 w1) .ret ρ20 w20
          obtain rfl := Option.some.inj hF
          exact res1 rfl (by decide) h2 ⟨rfl, hW⟩
        · have hF := (if_neg (Bool.eq_false_iff.1 hb)).symm.trans hF
          refine WP.skip ?_
          refine WP.region mixed [[], [0]] [[], [0]] [[10], []] [] []
            [val 80 (.int .i64 (i64 (x + 1))), val 10 (.int .i64 (i64 (x + 1)))] noG (by kernel_rfl)
            ⟨Stable.val _ _ _, Stable.val _ _ _, trivial⟩
            ⟨fun ρz wz hE hA ⟨e10, _⟩ _ => core_val rfl rfl (o_add (e10.trans h10) rfl rfl),
     fun ρz wz hE hA _ ⟨u0, _⟩ => core_val rfl rfl (o_move u0), trivial⟩ ?_
          intro ρ21 w21 hE hN hf hr
          have hN := hN rfl
          have h0 := (hr 0 rfl).trans h0
          have h8 := (hr 8 rfl).trans h8
          have h9 := (hr 9 rfl).trans h9
          have h10 : ρ21 10 = .int .i64 (i64 (x + 1)) := hf 1 rfl
          have H_d__at0 := H_d_
          have H_d_ := H_d_.exn hN
          have hW := hW.trans hN
          have hsz := Nat.le_trans hsz hN.size
          exact ⟨i64 (x + 1), h0, h8, h9, h10, H_d_, hW, hsz, (by first | exact hF | (rw [hrec_]; exact hF))⟩
    · have hF := (if_neg (Bool.eq_false_iff.1 hb)).symm.trans hF
      refine WP.exit ?_
      refine thenQ_exit ?_
      refine thenQ_exit ?_
      refine blockQ_hit ?_
      refine WP.seq ?_
      refine WP.region mixed [[]] [[]] [[]] [] []
        [val 2 (.int .i64 0)] noG (by kernel_rfl)
        ⟨Stable.val _ _ _, trivial⟩
        ⟨fun ρz wz hE hA _ _ => core_val rfl rfl (o_assign rfl), trivial⟩ ?_
      intro ρ22 w22 hE hN hf hr
      have hN := hN rfl
      have h2 : ρ22 2 = .int .i64 0 := hf 0 rfl
      have hW := hW.trans hN
      have hsz := Nat.le_trans hsz hN.size
      refine WP.ret ?_
      show retQ Tryd.prog 81 Tryd.f27 (fun v w1 => v = .int .i64 r ∧ Ext noG w0 w1) .ret ρ22 w22
      obtain rfl := Option.some.inj hF
      exact res1 rfl (by decide) h2 ⟨rfl, hW⟩

set_option maxHeartbeats 4000000 in
theorem money_amount_ok {w0 : World} (x_ : Int) {r : Bool} (hF : money_amount x_ = some r) :
    Calls Tryd.prog 56 #[.int .i64 x_] w0 fun e w1 => e = .returned (.bool r) ∧ Ext noG w0 w1 := by
  refine (Calls.start (P := Tryd.prog) (args := [.int .i64 x_]) (R := fun v w1 => v = .bool r ∧ Ext noG w0 w1) (n := 9) (w := w0) Tryd.func56 rfl rfl (Nat.le_of_ble_eq_true rfl) (fun ρ hargs => ?_)).mono (fun e w1 ⟨v, he, hv, hE⟩ => ⟨hv ▸ he, hE⟩)
  have h0 := hargs 0 _ rfl
  have hW := Ext.refl noG w0
  have hsz := Nat.le_refl w0.heap.size
  rw [money_amount] at hF
  refine WP.seq ?_
  refine WP.region mixed [[]] [[]] [[]] [] []
    [val 2 (.bool false)] noG (by kernel_rfl)
    ⟨Stable.val _ _ _, trivial⟩
    ⟨fun ρz wz hE hA _ _ => core_val rfl rfl (o_assign rfl), trivial⟩ ?_
  intro ρ1 w1 hE hN hf hr
  have hN := hN rfl
  have h0 := (hr 0 rfl).trans h0
  have hW := hW.trans hN
  have hsz := Nat.le_trans hsz hN.size
  refine WP.seq ?_
  refine WP.via (fun ρ w => ρ 2 = .bool (decide ((-1000000000000) ≤ x_) && decide (x_ ≤ 1000000000000)) ∧ Ext noG w0 w ∧ w0.heap.size ≤ w.heap.size) ?_ ?_
  · rcases Bool.eq_false_or_eq_true (decide ((-1000000000000) ≤ x_)) with hd2 | hd2
    · refine WP.region mixed [[], [0], [1], [2], [2, 3], [2, 4], [5]] [[], [0], [1], [2], [2, 3], [2, 4], [5]] [[0], [], [], [0], [], [], []] [] []
        [val 3 (.int .i64 x_), val 4 (.bool (decide ((-1000000000000) ≤ x_))), val 5 (.bool true), val 6 (.int .i64 x_), val 7 (.bool (decide (x_ ≤ 1000000000000))), val 8 (.bool (decide (x_ ≤ 1000000000000))), val 2 (.bool (decide (x_ ≤ 1000000000000)))] noG (by kernel_rfl)
        ⟨Stable.val _ _ _, Stable.val _ _ _, Stable.val _ _ _, Stable.val _ _ _, Stable.val _ _ _, Stable.val _ _ _, Stable.val _ _ _, trivial⟩
        ⟨fun ρz wz hE hA ⟨e0, _⟩ _ => core_val rfl rfl (o_move (e0.trans h0)),
     fun ρz wz hE hA _ ⟨u0, _⟩ => core_val rfl rfl (o_geq u0 rfl rfl),
     fun ρz wz hE hA _ ⟨u1, _⟩ => core_valE rfl rfl (congrArg Value.bool hd2) (o_move u1),
     fun ρz wz hE hA ⟨e0, _⟩ ⟨u2, _⟩ => gYes rfl u2 (core_val rfl rfl (o_move (e0.trans h0))),
     fun ρz wz hE hA _ ⟨u2, u3, _⟩ => gYes rfl u2 (core_val rfl rfl (o_leq u3 rfl rfl)),
     fun ρz wz hE hA _ ⟨u2, u4, _⟩ => core_val rfl rfl (o_pick_t u2 u4),
     fun ρz wz hE hA _ ⟨u5, _⟩ => core_val rfl rfl (o_assign u5), trivial⟩ ?_
      intro ρ3 w3 hE hN hf hr
      have hN := hN rfl
      have h2 : ρ3 2 = .bool (decide (x_ ≤ 1000000000000)) := hf 6 rfl
      have hW := hW.trans hN
      have hsz := Nat.le_trans hsz hN.size
      exact ⟨(h2.trans (congrArg Value.bool (by simp [hd2]))), hW, hsz⟩
    · refine WP.region mixed [[], [0], [1], [2], [2], [2], [5]] [[], [0], [1], [2], [2], [2], [5]] [[0], [], [], [], [], [], []] [] []
        [val 3 (.int .i64 x_), val 4 (.bool (decide ((-1000000000000) ≤ x_))), val 5 (.bool false), anyF 6, anyF 7, val 8 (.bool false), val 2 (.bool false)] noG (by kernel_rfl)
        ⟨Stable.val _ _ _, Stable.val _ _ _, Stable.val _ _ _, Stable.any _ _, Stable.any _ _, Stable.val _ _ _, Stable.val _ _ _, trivial⟩
        ⟨fun ρz wz hE hA ⟨e0, _⟩ _ => core_val rfl rfl (o_move (e0.trans h0)),
     fun ρz wz hE hA _ ⟨u0, _⟩ => core_val rfl rfl (o_geq u0 rfl rfl),
     fun ρz wz hE hA _ ⟨u1, _⟩ => core_valE rfl rfl (congrArg Value.bool hd2) (o_move u1),
     fun _ _ _ _ _ ⟨u2, _⟩ => gNo rfl u2 rfl trivial,
     fun _ _ _ _ _ ⟨u2, _⟩ => gNo rfl u2 rfl trivial,
     fun ρz wz hE hA _ ⟨u2, _⟩ => core_val rfl rfl (o_pick_f u2 rfl),
     fun ρz wz hE hA _ ⟨u5, _⟩ => core_val rfl rfl (o_assign u5), trivial⟩ ?_
      intro ρ4 w4 hE hN hf hr
      have hN := hN rfl
      have h2 : ρ4 2 = .bool false := hf 6 rfl
      have hW := hW.trans hN
      have hsz := Nat.le_trans hsz hN.size
      exact ⟨(h2.trans (congrArg Value.bool (by simp [hd2]))), hW, hsz⟩
  rintro ρ2 w2 ⟨h2, hW, hsz⟩
  refine WP.ret ?_
  show retQ Tryd.prog 9 Tryd.f56 (fun v w1 => v = .bool r ∧ Ext noG w0 w1) .ret ρ2 w2
  obtain rfl := Option.some.inj hF
  exact res1 rfl (by decide) h2 ⟨rfl, hW⟩

set_option maxHeartbeats 4000000 in
theorem money_ValidRounding_ok {w0 : World} (r_ : Rounding) {r : Bool} (hF : money_ValidRounding r_ = some r) :
    Calls Tryd.prog 57 #[Rounding.val r_] w0 fun e w1 => e = .returned (.bool r) ∧ Ext noG w0 w1 := by
  refine (Calls.start (P := Tryd.prog) (args := [Rounding.val r_]) (R := fun v w1 => v = .bool r ∧ Ext noG w0 w1) (n := 18) (w := w0) Tryd.func57 rfl rfl (Nat.le_of_ble_eq_true rfl) (fun ρ hargs => ?_)).mono (fun e w1 ⟨v, he, hv, hE⟩ => ⟨hv ▸ he, hE⟩)
  have h0 := hargs 0 _ rfl
  have hW := Ext.refl noG w0
  have hsz := Nat.le_refl w0.heap.size
  rw [money_ValidRounding] at hF
  refine WP.seq ?_
  refine WP.region mixed [[], []] [[], []] [[0], []] [] []
    [(1, fun u wz => ∃ b, u = .pointer (some ⟨b, 0, none⟩) ∧ w0.heap.size ≤ b ∧ Mb wz b 72 (Rounding.cells r_)), val 2 (.bool false)] noG (by kernel_rfl)
    ⟨fun _ _ _ hE ⟨b, hb, hs, hM⟩ => ⟨b, hb, hs, hM.exn hE⟩, Stable.val _ _ _, trivial⟩
    ⟨fun ρz wz hE hA ⟨e0, _⟩ _ => core_new rfl rfl hE (o_box (e0.trans h0) (bx_72 _ _)),
     fun ρz wz hE hA _ _ => core_val rfl rfl (o_assign rfl), trivial⟩ ?_
  intro ρ1 w1 hE hN hf hr
  have hN := hN rfl
  obtain ⟨b1_, h1, hge_b1_, Hb_b1_⟩ := hf 0 rfl
  have hW := hW.trans hN
  have hB_b1_ : w0.heap.size ≤ b1_ := Nat.le_trans hsz hge_b1_
  have hsz := Nat.le_trans hsz hN.size
  refine WP.seq ?_
  refine WP.seq ?_
  refine WP.region mixed [[], [0]] [[], [0]] [[1], []] [] []
    [val 3 (.pointer (some ((⟨b1_, 0, none⟩ : Addr).add 0))), val 4 (.int .i64 r_.Mode)] noG (by kernel_rfl)
    ⟨Stable.val _ _ _, Stable.val _ _ _, trivial⟩
    ⟨fun ρz wz hE hA ⟨e1, _⟩ _ => core_val rfl rfl (o_fieldAddr (e1.trans h1) (fa_72_0 _ _)),
     fun ρz wz hE hA _ ⟨u0, _⟩ => core_val rfl rfl (o_load u0 (run_load1 (lr_3 _ _) (CA.sub ((Hb_b1_.exn (hA rfl)).ca) 0 1))), trivial⟩ ?_
  intro ρ2 w2 hE hN hf hr
  have hN := hN rfl
  have h1 := (hr 1 rfl).trans h1
  have h4 : ρ2 4 = .int .i64 r_.Mode := hf 1 rfl
  have Hb_b1_n := Hb_b1_.exn hN
  have hW := hW.trans hN
  have Hb_b1_ := Hb_b1_n
  have hsz := Nat.le_trans hsz hN.size
  refine WP.block ?_
  refine WP.seqJ (fun ρ w => ∃ x : Bool, ρ 1 = .pointer (some ⟨b1_, 0, none⟩) ∧ ρ 5 = .bool x ∧ Mb w b1_ 72 (Rounding.cells r_) ∧ Ext noG w0 w ∧ w0.heap.size ≤ w.heap.size ∧ money_ValidRounding_j r_ x = some r) ?_ ?_
  · refine WP.seq ?_
    refine WP.region mixed [[], [0]] [[], [0]] [[4], []] [] []
      [val 6 (.bool (r_.Mode == 1)), val 5 (.bool (r_.Mode == 1))] noG (by kernel_rfl)
      ⟨Stable.val _ _ _, Stable.val _ _ _, trivial⟩
      ⟨fun ρz wz hE hA ⟨e4, _⟩ _ => core_val rfl rfl (o_eql (e4.trans h4) rfl rfl),
     fun ρz wz hE hA _ ⟨u0, _⟩ => core_val rfl rfl (o_assign u0), trivial⟩ ?_
    intro ρ8 w8 hE hN hf hr
    have hN := hN rfl
    have h1 := (hr 1 rfl).trans h1
    have h4 := (hr 4 rfl).trans h4
    have h5 : ρ8 5 = .bool (r_.Mode == 1) := hf 1 rfl
    have Hb_b1_n := Hb_b1_.exn hN
    have hW := hW.trans hN
    have Hb_b1_ := Hb_b1_n
    have hsz := Nat.le_trans hsz hN.size
    refine WP.cond rfl h5 (fun hb => ?_) (fun hb => ?_)
    · have hF := (if_pos hb).symm.trans hF
      refine WP.skip ?_
      exact ⟨(r_.Mode == 1), h1, h5, Hb_b1_, hW, hsz, hF⟩
    · have hF := (if_neg (Bool.eq_false_iff.1 hb)).symm.trans hF
      refine WP.seq ?_
      refine WP.region mixed [[], [0]] [[], [0]] [[4], []] [] []
        [val 7 (.bool (r_.Mode == 2)), val 5 (.bool (r_.Mode == 2))] noG (by kernel_rfl)
        ⟨Stable.val _ _ _, Stable.val _ _ _, trivial⟩
        ⟨fun ρz wz hE hA ⟨e4, _⟩ _ => core_val rfl rfl (o_eql (e4.trans h4) rfl rfl),
     fun ρz wz hE hA _ ⟨u0, _⟩ => core_val rfl rfl (o_assign u0), trivial⟩ ?_
      intro ρ9 w9 hE hN hf hr
      have hN := hN rfl
      have h1 := (hr 1 rfl).trans h1
      have h4 := (hr 4 rfl).trans h4
      have h5 : ρ9 5 = .bool (r_.Mode == 2) := hf 1 rfl
      have Hb_b1_n := Hb_b1_.exn hN
      have hW := hW.trans hN
      have Hb_b1_ := Hb_b1_n
      have hsz := Nat.le_trans hsz hN.size
      refine WP.cond rfl h5 (fun hb => ?_) (fun hb => ?_)
      · have hF := (if_pos hb).symm.trans hF
        refine WP.skip ?_
        exact ⟨(r_.Mode == 2), h1, h5, Hb_b1_, hW, hsz, hF⟩
      · have hF := (if_neg (Bool.eq_false_iff.1 hb)).symm.trans hF
        refine WP.seq ?_
        refine WP.region mixed [[], [0]] [[], [0]] [[4], []] [] []
          [val 8 (.bool (r_.Mode == 3)), val 5 (.bool (r_.Mode == 3))] noG (by kernel_rfl)
          ⟨Stable.val _ _ _, Stable.val _ _ _, trivial⟩
          ⟨fun ρz wz hE hA ⟨e4, _⟩ _ => core_val rfl rfl (o_eql (e4.trans h4) rfl rfl),
     fun ρz wz hE hA _ ⟨u0, _⟩ => core_val rfl rfl (o_assign u0), trivial⟩ ?_
        intro ρ10 w10 hE hN hf hr
        have hN := hN rfl
        have h1 := (hr 1 rfl).trans h1
        have h4 := (hr 4 rfl).trans h4
        have h5 : ρ10 5 = .bool (r_.Mode == 3) := hf 1 rfl
        have Hb_b1_n := Hb_b1_.exn hN
        have hW := hW.trans hN
        have Hb_b1_ := Hb_b1_n
        have hsz := Nat.le_trans hsz hN.size
        refine WP.cond rfl h5 (fun hb => ?_) (fun hb => ?_)
        · have hF := (if_pos hb).symm.trans hF
          refine WP.skip ?_
          exact ⟨(r_.Mode == 3), h1, h5, Hb_b1_, hW, hsz, hF⟩
        · have hF := (if_neg (Bool.eq_false_iff.1 hb)).symm.trans hF
          refine WP.region mixed [[], [0]] [[], [0]] [[4], []] [] []
            [val 9 (.bool (r_.Mode == 4)), val 5 (.bool (r_.Mode == 4))] noG (by kernel_rfl)
            ⟨Stable.val _ _ _, Stable.val _ _ _, trivial⟩
            ⟨fun ρz wz hE hA ⟨e4, _⟩ _ => core_val rfl rfl (o_eql (e4.trans h4) rfl rfl),
     fun ρz wz hE hA _ ⟨u0, _⟩ => core_val rfl rfl (o_assign u0), trivial⟩ ?_
          intro ρ11 w11 hE hN hf hr
          have hN := hN rfl
          have h1 := (hr 1 rfl).trans h1
          have h5 : ρ11 5 = .bool (r_.Mode == 4) := hf 1 rfl
          have Hb_b1_n := Hb_b1_.exn hN
          have hW := hW.trans hN
          have Hb_b1_ := Hb_b1_n
          have hsz := Nat.le_trans hsz hN.size
          exact ⟨(r_.Mode == 4), h1, h5, Hb_b1_, hW, hsz, hF⟩
  · rintro ρ3 w3 ⟨x, h1, h5, Hb_b1_, hW, hsz, hF⟩
    rw [money_ValidRounding_j] at hF
    refine WP.cond rfl h5 (fun hb => ?_) (fun hb => ?_)
    · have hF := (if_pos hb).symm.trans hF
      refine WP.seq ?_
      refine WP.via (fun ρ w => ρ 2 = .bool (decide (1 ≤ r_.Unit) && decide (r_.Unit ≤ 100000)) ∧ Ext noG w0 w ∧ w0.heap.size ≤ w.heap.size) ?_ ?_
      · rcases Bool.eq_false_or_eq_true (decide (1 ≤ r_.Unit)) with hd3 | hd3
        · refine WP.region mixed [[], [0], [1], [2], [3], [3, 4], [3, 5], [3, 6], [7]] [[], [0], [1], [2], [3], [3, 4], [3, 5], [3, 6], [7]] [[1], [], [], [], [1], [], [], [], []] [] []
            [val 10 (.pointer (some ((⟨b1_, 0, none⟩ : Addr).add 1))), val 11 (.int .i64 r_.Unit), val 12 (.bool (decide (1 ≤ r_.Unit))), val 13 (.bool true), val 14 (.pointer (some ((⟨b1_, 0, none⟩ : Addr).add 1))), val 15 (.int .i64 r_.Unit), val 16 (.bool (decide (r_.Unit ≤ 100000))), val 17 (.bool (decide (r_.Unit ≤ 100000))), val 2 (.bool (decide (r_.Unit ≤ 100000)))] noG (by kernel_rfl)
            ⟨Stable.val _ _ _, Stable.val _ _ _, Stable.val _ _ _, Stable.val _ _ _, Stable.val _ _ _, Stable.val _ _ _, Stable.val _ _ _, Stable.val _ _ _, Stable.val _ _ _, trivial⟩
            ⟨fun ρz wz hE hA ⟨e1, _⟩ _ => core_val rfl rfl (o_fieldAddr (e1.trans h1) (fa_72_1 _ _)),
     fun ρz wz hE hA _ ⟨u0, _⟩ => core_val rfl rfl (o_load u0 (run_load1 (lr_3 _ _) (CA.sub ((Hb_b1_.exn (hA rfl)).ca) 1 1))),
     fun ρz wz hE hA _ ⟨u1, _⟩ => core_val rfl rfl (o_geq u1 rfl rfl),
     fun ρz wz hE hA _ ⟨u2, _⟩ => core_valE rfl rfl (congrArg Value.bool hd3) (o_move u2),
     fun ρz wz hE hA ⟨e1, _⟩ ⟨u3, _⟩ => gYes rfl u3 (core_val rfl rfl (o_fieldAddr (e1.trans h1) (fa_72_1 _ _))),
     fun ρz wz hE hA _ ⟨u3, u4, _⟩ => gYes rfl u3 (core_val rfl rfl (o_load u4 (run_load1 (lr_3 _ _) (CA.sub ((Hb_b1_.exn (hA rfl)).ca) 1 1)))),
     fun ρz wz hE hA _ ⟨u3, u5, _⟩ => gYes rfl u3 (core_val rfl rfl (o_leq u5 rfl rfl)),
     fun ρz wz hE hA _ ⟨u3, u6, _⟩ => core_val rfl rfl (o_pick_t u3 u6),
     fun ρz wz hE hA _ ⟨u7, _⟩ => core_val rfl rfl (o_assign u7), trivial⟩ ?_
          intro ρ5 w5 hE hN hf hr
          have hN := hN rfl
          have h2 : ρ5 2 = .bool (decide (r_.Unit ≤ 100000)) := hf 8 rfl
          have hW := hW.trans hN
          have hsz := Nat.le_trans hsz hN.size
          exact ⟨(h2.trans (congrArg Value.bool (by simp [hd3]))), hW, hsz⟩
        · refine WP.region mixed [[], [0], [1], [2], [3], [3], [3], [3], [7]] [[], [0], [1], [2], [3], [3], [3], [3], [7]] [[1], [], [], [], [], [], [], [], []] [] []
            [val 10 (.pointer (some ((⟨b1_, 0, none⟩ : Addr).add 1))), val 11 (.int .i64 r_.Unit), val 12 (.bool (decide (1 ≤ r_.Unit))), val 13 (.bool false), anyF 14, anyF 15, anyF 16, val 17 (.bool false), val 2 (.bool false)] noG (by kernel_rfl)
            ⟨Stable.val _ _ _, Stable.val _ _ _, Stable.val _ _ _, Stable.val _ _ _, Stable.any _ _, Stable.any _ _, Stable.any _ _, Stable.val _ _ _, Stable.val _ _ _, trivial⟩
            ⟨fun ρz wz hE hA ⟨e1, _⟩ _ => core_val rfl rfl (o_fieldAddr (e1.trans h1) (fa_72_1 _ _)),
     fun ρz wz hE hA _ ⟨u0, _⟩ => core_val rfl rfl (o_load u0 (run_load1 (lr_3 _ _) (CA.sub ((Hb_b1_.exn (hA rfl)).ca) 1 1))),
     fun ρz wz hE hA _ ⟨u1, _⟩ => core_val rfl rfl (o_geq u1 rfl rfl),
     fun ρz wz hE hA _ ⟨u2, _⟩ => core_valE rfl rfl (congrArg Value.bool hd3) (o_move u2),
     fun _ _ _ _ _ ⟨u3, _⟩ => gNo rfl u3 rfl trivial,
     fun _ _ _ _ _ ⟨u3, _⟩ => gNo rfl u3 rfl trivial,
     fun _ _ _ _ _ ⟨u3, _⟩ => gNo rfl u3 rfl trivial,
     fun ρz wz hE hA _ ⟨u3, _⟩ => core_val rfl rfl (o_pick_f u3 rfl),
     fun ρz wz hE hA _ ⟨u7, _⟩ => core_val rfl rfl (o_assign u7), trivial⟩ ?_
          intro ρ6 w6 hE hN hf hr
          have hN := hN rfl
          have h2 : ρ6 2 = .bool false := hf 8 rfl
          have hW := hW.trans hN
          have hsz := Nat.le_trans hsz hN.size
          exact ⟨(h2.trans (congrArg Value.bool (by simp [hd3]))), hW, hsz⟩
      rintro ρ4 w4 ⟨h2, hW, hsz⟩
      refine WP.ret ?_
      show retQ Tryd.prog 18 Tryd.f57 (fun v w1 => v = .bool r ∧ Ext noG w0 w1) .ret ρ4 w4
      obtain rfl := Option.some.inj hF
      exact res1 rfl (by decide) h2 ⟨rfl, hW⟩
    · have hF := (if_neg (Bool.eq_false_iff.1 hb)).symm.trans hF
      refine WP.skip ?_
      refine WP.seq ?_
      refine WP.region mixed [[]] [[]] [[]] [] []
        [val 2 (.bool false)] noG (by kernel_rfl)
        ⟨Stable.val _ _ _, trivial⟩
        ⟨fun ρz wz hE hA _ _ => core_val rfl rfl (o_assign rfl), trivial⟩ ?_
      intro ρ7 w7 hE hN hf hr
      have hN := hN rfl
      have h2 : ρ7 2 = .bool false := hf 0 rfl
      have hW := hW.trans hN
      have hsz := Nat.le_trans hsz hN.size
      refine WP.ret ?_
      show retQ Tryd.prog 18 Tryd.f57 (fun v w1 => v = .bool r ∧ Ext noG w0 w1) .ret ρ7 w7
      obtain rfl := Option.some.inj hF
      exact res1 rfl (by decide) h2 ⟨rfl, hW⟩

set_option maxHeartbeats 4000000 in
theorem pensionplain_Ints_ok {w0 : World} (a_ : List Int) (b_ : List Int) {v_a_ : Value} (H_a_ : RepSl intR noG w0 v_a_ a_) {v_b_ : Value} (H_b_ : RepSl intR noG w0 v_b_ b_) {r : Bool} (hF : pensionplain_Ints a_ b_ = some r) :
    Calls Tryd.prog 17 #[v_a_, v_b_] w0 fun e w1 => e = .returned (.bool r) ∧ Ext noG w0 w1 := by
  refine (Calls.start (P := Tryd.prog) (args := [v_a_, v_b_]) (R := fun v w1 => v = .bool r ∧ Ext noG w0 w1) (n := 26) (w := w0) Tryd.func17 rfl rfl (Nat.le_of_ble_eq_true rfl) (fun ρ hargs => ?_)).mono (fun e w1 ⟨v, he, hv, hE⟩ => ⟨hv ▸ he, hE⟩)
  have h0 := hargs 0 _ rfl
  have h1 := hargs 1 _ rfl
  have hW := Ext.refl noG w0
  have hsz := Nat.le_refl w0.heap.size
  obtain ⟨_, _, hs_H_a_, _, _⟩ := RepSl.shape H_a_
  have H_a_ := H_a_.start
  obtain ⟨_, _, hs_H_b_, _, _⟩ := RepSl.shape H_b_
  have H_b_ := H_b_.start
  rw [pensionplain_Ints] at hF
  refine WP.seq ?_
  refine WP.region mixed [[]] [[]] [[]] [] []
    [val 4 (.bool false)] noG (by kernel_rfl)
    ⟨Stable.val _ _ _, trivial⟩
    ⟨fun ρz wz hE hA _ _ => core_val rfl rfl (o_assign rfl), trivial⟩ ?_
  intro ρ1 w1 hE hN hf hr
  have hN := hN rfl
  have h0 := (hr 0 rfl).trans h0
  have h1 := (hr 1 rfl).trans h1
  have H_a__at0 := H_a_
  have H_a_ := H_a_.exn hN
  have H_b__at0 := H_b_
  have H_b_ := H_b_.exn hN
  have hW := hW.trans hN
  have hsz := Nat.le_trans hsz hN.size
  refine WP.seq ?_
  refine WP.seq ?_
  refine WP.region mixed [[], [0], [], [2], [1, 3]] [[], [0], [], [2], [1, 3]] [[0], [], [1], [], []] [] []
    [val 6 (v_a_), val 7 (.int .i64 (a_.length : Int)), val 8 (v_b_), val 9 (.int .i64 (b_.length : Int)), val 10 (.bool ((a_.length : Int) != (b_.length : Int)))] noG (by kernel_rfl)
    ⟨Stable.val _ _ _, Stable.val _ _ _, Stable.val _ _ _, Stable.val _ _ _, Stable.val _ _ _, trivial⟩
    ⟨fun ρz wz hE hA ⟨e0, _⟩ _ => core_val rfl rfl (o_move (e0.trans h0)),
     fun ρz wz hE hA _ ⟨u0, _⟩ => core_val rfl rfl (o_len (u0.trans hs_H_a_) len_23),
     fun ρz wz hE hA ⟨e1, _⟩ _ => core_val rfl rfl (o_move (e1.trans h1)),
     fun ρz wz hE hA _ ⟨u2, _⟩ => core_val rfl rfl (o_len (u2.trans hs_H_b_) len_23),
     fun ρz wz hE hA _ ⟨u1, u3, _⟩ => core_val rfl rfl (o_neq u1 u3 rfl), trivial⟩ ?_
  intro ρ2 w2 hE hN hf hr
  have hN := hN rfl
  have h0 := (hr 0 rfl).trans h0
  have h1 := (hr 1 rfl).trans h1
  have h10 : ρ2 10 = .bool ((a_.length : Int) != (b_.length : Int)) := hf 4 rfl
  have H_a__at0 := H_a_
  have H_a_ := H_a_.exn hN
  have H_b__at0 := H_b_
  have H_b_ := H_b_.exn hN
  have hW := hW.trans hN
  have hsz := Nat.le_trans hsz hN.size
  refine WP.cond rfl h10 (fun hb => ?_) (fun hb => ?_)
  · have hF := (if_pos hb).symm.trans hF
    refine WP.seq ?_
    refine WP.region mixed [[]] [[]] [[]] [] []
      [val 4 (.bool false)] noG (by kernel_rfl)
      ⟨Stable.val _ _ _, trivial⟩
      ⟨fun ρz wz hE hA _ _ => core_val rfl rfl (o_assign rfl), trivial⟩ ?_
    intro ρ3 w3 hE hN hf hr
    have hN := hN rfl
    have h4 : ρ3 4 = .bool false := hf 0 rfl
    have hW := hW.trans hN
    have hsz := Nat.le_trans hsz hN.size
    refine WP.ret ?_
    show retQ Tryd.prog 26 Tryd.f17 (fun v w1 => v = .bool r ∧ Ext noG w0 w1) .ret ρ3 w3
    obtain rfl := Option.some.inj hF
    exact res1 rfl (by decide) h4 ⟨rfl, hW⟩
  · have hF := (if_neg (Bool.eq_false_iff.1 hb)).symm.trans hF
    refine WP.skip ?_
    refine WP.seq ?_
    refine WP.seq ?_
    refine WP.region mixed [[]] [[]] [[]] [] []
      [val 5 (.int .i64 0)] noG (by kernel_rfl)
      ⟨Stable.val _ _ _, trivial⟩
      ⟨fun ρz wz hE hA _ _ => core_val rfl rfl (o_assign rfl), trivial⟩ ?_
    intro ρ4 w4 hE hN hf hr
    have hN := hN rfl
    have h0 := (hr 0 rfl).trans h0
    have h1 := (hr 1 rfl).trans h1
    have h5 : ρ4 5 = .int .i64 0 := hf 0 rfl
    have H_a__at0 := H_a_
    have H_a_ := H_a_.exn hN
    have H_b__at0 := H_b_
    have H_b_ := H_b_.exn hN
    have hW := hW.trans hN
    have hsz := Nat.le_trans hsz hN.size
    refine WP.block ?_
    refine WP.loop (fun k_ ρ w => ∃ i_ : Int, ρ 0 = v_a_ ∧ ρ 1 = v_b_ ∧ ρ 5 = .int .i64 i_ ∧ RepSl intR (gfr noG w0) w v_a_ a_ ∧ RepSl intR (gfr noG w0) w v_b_ b_ ∧ Ext noG w0 w ∧ w0.heap.size ≤ w.heap.size ∧ loopC k_ (pensionplain_Ints_l a_ b_) i_ = some r) FU ⟨0, h0, h1, h5, H_a_, H_b_, hW, hsz, hF⟩ (fun _ _ h => by obtain ⟨_, _, _, _, _, _, _, _, h⟩ := h; cases h) ?_
    rintro k_ ρ5 w5 ⟨i_, h0, h1, h5, H_a_, H_b_, hW, hsz, hF⟩
    have hF : pensionplain_Ints_l a_ b_ (loopC k_ (pensionplain_Ints_l a_ b_)) i_ = some r := hF
    generalize hrec_ : loopC k_ (pensionplain_Ints_l a_ b_) = rec_ at hF
    rw [pensionplain_Ints_l] at hF
    refine WP.seq ?_
    refine WP.seq ?_
    refine WP.region mixed [[], [], [1], [0, 2]] [[], [], [1], [0, 2]] [[5], [0], [], []] [] []
      [val 11 (.int .i64 i_), val 12 (v_a_), val 13 (.int .i64 (a_.length : Int)), val 14 (.bool (decide (i_ < (a_.length : Int))))] noG (by kernel_rfl)
      ⟨Stable.val _ _ _, Stable.val _ _ _, Stable.val _ _ _, Stable.val _ _ _, trivial⟩
      ⟨fun ρz wz hE hA ⟨e5, _⟩ _ => core_val rfl rfl (o_move (e5.trans h5)),
     fun ρz wz hE hA ⟨e0, _⟩ _ => core_val rfl rfl (o_move (e0.trans h0)),
     fun ρz wz hE hA _ ⟨u1, _⟩ => core_val rfl rfl (o_len (u1.trans hs_H_a_) len_23),
     fun ρz wz hE hA _ ⟨u0, u2, _⟩ => core_val rfl rfl (o_lss u0 u2 rfl), trivial⟩ ?_
    intro ρ6 w6 hE hN hf hr
    have hN := hN rfl
    have h0 := (hr 0 rfl).trans h0
    have h1 := (hr 1 rfl).trans h1
    have h5 := (hr 5 rfl).trans h5
    have h14 : ρ6 14 = .bool (decide (i_ < (a_.length : Int))) := hf 3 rfl
    have H_a__at0 := H_a_
    have H_a_ := H_a_.exn hN
    have H_b__at0 := H_b_
    have H_b_ := H_b_.exn hN
    have hW := hW.trans hN
    have hsz := Nat.le_trans hsz hN.size
    refine WP.cond rfl h14 (fun hb => ?_) (fun hb => ?_)
    · have hF := (if_pos hb).symm.trans hF
      refine WP.skip ?_
      refine WP.seq ?_
      refine WP.block ?_
      refine WP.seq ?_
      obtain ⟨y, hy, hF⟩ := obind hF
      obtain ⟨ay, cy, hvy, hiy, hAy⟩ := RepSl.getF H_a_ hy
      obtain ⟨y2, hy2, hF⟩ := obind hF
      obtain ⟨ay2, cy2, hvy2, hiy2, hAy2⟩ := RepSl.getF H_b_ hy2
      refine WP.region mixed [[], [], [0, 1], [2], [], [], [4, 5], [6], [3, 7]] [[], [], [0, 1], [2], [], [], [4, 5], [6], [3, 7]] [[0], [5], [], [], [1], [5], [], [], []] [] []
        [val 17 (v_a_), val 18 (.int .i64 i_), val 19 (.pointer (some (ay.add (Int.toNat i_ * 1)))), val 20 (.int .i64 y), val 21 (v_b_), val 22 (.int .i64 i_), val 23 (.pointer (some (ay2.add (Int.toNat i_ * 1)))), val 24 (.int .i64 y2), val 25 (.bool (y != y2))] noG (by kernel_rfl)
        ⟨Stable.val _ _ _, Stable.val _ _ _, Stable.val _ _ _, Stable.val _ _ _, Stable.val _ _ _, Stable.val _ _ _, Stable.val _ _ _, Stable.val _ _ _, Stable.val _ _ _, trivial⟩
        ⟨fun ρz wz hE hA ⟨e0, _⟩ _ => core_val rfl rfl (o_move (e0.trans h0)),
     fun ρz wz hE hA ⟨e5, _⟩ _ => core_val rfl rfl (o_move (e5.trans h5)),
     fun ρz wz hE hA _ ⟨u0, u1, _⟩ => core_val rfl rfl (o_indexAddr (u0.trans hvy) u1 (ia_23 hiy)),
     fun ρz wz hE hA _ ⟨u2, _⟩ => core_val rfl rfl (o_load u2 (run_load1 (lr_3 _ _) ((hAy.exn (hA rfl)).ca))),
     fun ρz wz hE hA ⟨e1, _⟩ _ => core_val rfl rfl (o_move (e1.trans h1)),
     fun ρz wz hE hA ⟨e5, _⟩ _ => core_val rfl rfl (o_move (e5.trans h5)),
     fun ρz wz hE hA _ ⟨u4, u5, _⟩ => core_val rfl rfl (o_indexAddr (u4.trans hvy2) u5 (ia_23 hiy2)),
     fun ρz wz hE hA _ ⟨u6, _⟩ => core_val rfl rfl (o_load u6 (run_load1 (lr_3 _ _) ((hAy2.exn (hA rfl)).ca))),
     fun ρz wz hE hA _ ⟨u3, u7, _⟩ => core_val rfl rfl (o_neq u3 u7 rfl), trivial⟩ ?_
      intro ρ7 w7 hE hN hf hr
      have hN := hN rfl
      have h0 := (hr 0 rfl).trans h0
      have h1 := (hr 1 rfl).trans h1
      have h5 := (hr 5 rfl).trans h5
      have h25 : ρ7 25 = .bool (y != y2) := hf 8 rfl
      have H_a__at0 := H_a_
      have H_a_ := H_a_.exn hN
      have H_b__at0 := H_b_
      have H_b_ := H_b_.exn hN
      have hW := hW.trans hN
      have hsz := Nat.le_trans hsz hN.size
      refine WP.cond rfl h25 (fun hb => ?_) (fun hb => ?_)
      · have hF := (if_pos hb).symm.trans hF
        refine WP.seq ?_
        refine WP.region mixed [[]] [[]] [[]] [] []
          [val 4 (.bool false)] noG (by kernel_rfl)
          ⟨Stable.val _ _ _, trivial⟩
          ⟨fun ρz wz hE hA _ _ => core_val rfl rfl (o_assign rfl), trivial⟩ ?_
        intro ρ8 w8 hE hN hf hr
        have hN := hN rfl
        have h4 : ρ8 4 = .bool false := hf 0 rfl
        have hW := hW.trans hN
        have hsz := Nat.le_trans hsz hN.size
        refine WP.ret ?_
        show retQ Tryd.prog 26 Tryd.f17 (fun v w1 => v = .bool r ∧ Ext noG w0 w1) .ret ρ8 w8
        obtain rfl := Option.some.inj hF
        exact res1 rfl (by decide) h4 ⟨rfl, hW⟩
      · have hF := (if_neg (Bool.eq_false_iff.1 hb)).symm.trans hF
        refine WP.skip ?_
        refine WP.region mixed [[], [0], [0, 1]] [[], [0], [1]] [[5], [], []] [] []
          [val 15 (.int .i64 i_), val 16 (.int .i64 (i64 (i_ + 1))), val 5 (.int .i64 (i64 (i_ + 1)))] noG (by kernel_rfl)
          ⟨Stable.val _ _ _, Stable.val _ _ _, Stable.val _ _ _, trivial⟩
          ⟨fun ρz wz hE hA ⟨e5, _⟩ _ => core_val rfl rfl (o_move (e5.trans h5)),
     fun ρz wz hE hA _ ⟨u0, _⟩ => core_val rfl rfl (o_add u0 rfl rfl),
     fun ρz wz hE hA _ ⟨u1, _⟩ => core_val rfl rfl (o_assign u1), trivial⟩ ?_
        intro ρ9 w9 hE hN hf hr
        have hN := hN rfl
        have h0 := (hr 0 rfl).trans h0
        have h1 := (hr 1 rfl).trans h1
        have h5 : ρ9 5 = .int .i64 (i64 (i_ + 1)) := hf 2 rfl
        have H_a__at0 := H_a_
        have H_a_ := H_a_.exn hN
        have H_b__at0 := H_b_
        have H_b_ := H_b_.exn hN
        have hW := hW.trans hN
        have hsz := Nat.le_trans hsz hN.size
        exact ⟨i64 (i_ + 1), h0, h1, h5, H_a_, H_b_, hW, hsz, (by first | exact hF | (rw [hrec_]; exact hF))⟩
    · have hF := (if_neg (Bool.eq_false_iff.1 hb)).symm.trans hF
      refine WP.exit ?_
      refine thenQ_exit ?_
      refine thenQ_exit ?_
      refine blockQ_hit ?_
      refine WP.seq ?_
      refine WP.region mixed [[]] [[]] [[]] [] []
        [val 4 (.bool true)] noG (by kernel_rfl)
        ⟨Stable.val _ _ _, trivial⟩
        ⟨fun ρz wz hE hA _ _ => core_val rfl rfl (o_assign rfl), trivial⟩ ?_
      intro ρ10 w10 hE hN hf hr
      have hN := hN rfl
      have h4 : ρ10 4 = .bool true := hf 0 rfl
      have hW := hW.trans hN
      have hsz := Nat.le_trans hsz hN.size
      refine WP.ret ?_
      show retQ Tryd.prog 26 Tryd.f17 (fun v w1 => v = .bool r ∧ Ext noG w0 w1) .ret ρ10 w10
      obtain rfl := Option.some.inj hF
      exact res1 rfl (by decide) h4 ⟨rfl, hW⟩

set_option maxHeartbeats 4000000 in
theorem cmp_isNaN_of_int_ok {w0 : World} (x_ : Int) {r : Bool} (hF : cmp_isNaN_of_int x_ = some r) :
    Calls Tryd.prog 49 #[.int .i64 x_] w0 fun e w1 => e = .returned (.bool r) ∧ Ext noG w0 w1 := by
  refine (Calls.start (P := Tryd.prog) (args := [.int .i64 x_]) (R := fun v w1 => v = .bool r ∧ Ext noG w0 w1) (n := 6) (w := w0) Tryd.func49 rfl rfl (Nat.le_of_ble_eq_true rfl) (fun ρ hargs => ?_)).mono (fun e w1 ⟨v, he, hv, hE⟩ => ⟨hv ▸ he, hE⟩)
  have h0 := hargs 0 _ rfl
  have hW := Ext.refl noG w0
  have hsz := Nat.le_refl w0.heap.size
  rw [cmp_isNaN_of_int] at hF
  refine WP.seq ?_
  refine WP.region mixed [[]] [[]] [[]] [] []
    [val 2 (.bool false)] noG (by kernel_rfl)
    ⟨Stable.val _ _ _, trivial⟩
    ⟨fun ρz wz hE hA _ _ => core_val rfl rfl (o_assign rfl), trivial⟩ ?_
  intro ρ1 w1 hE hN hf hr
  have hN := hN rfl
  have h0 := (hr 0 rfl).trans h0
  have hW := hW.trans hN
  have hsz := Nat.le_trans hsz hN.size
  refine WP.seq ?_
  refine WP.region mixed [[], [], [0, 1], [2]] [[], [], [0, 1], [2]] [[0], [0], [], []] [] []
    [val 3 (.int .i64 x_), val 4 (.int .i64 x_), val 5 (.bool (x_ != x_)), val 2 (.bool (x_ != x_))] noG (by kernel_rfl)
    ⟨Stable.val _ _ _, Stable.val _ _ _, Stable.val _ _ _, Stable.val _ _ _, trivial⟩
    ⟨fun ρz wz hE hA ⟨e0, _⟩ _ => core_val rfl rfl (o_move (e0.trans h0)),
     fun ρz wz hE hA ⟨e0, _⟩ _ => core_val rfl rfl (o_move (e0.trans h0)),
     fun ρz wz hE hA _ ⟨u0, u1, _⟩ => core_val rfl rfl (o_neq u0 u1 rfl),
     fun ρz wz hE hA _ ⟨u2, _⟩ => core_val rfl rfl (o_assign u2), trivial⟩ ?_
  intro ρ2 w2 hE hN hf hr
  have hN := hN rfl
  have h2 : ρ2 2 = .bool (x_ != x_) := hf 3 rfl
  have hW := hW.trans hN
  have hsz := Nat.le_trans hsz hN.size
  refine WP.ret ?_
  show retQ Tryd.prog 6 Tryd.f49 (fun v w1 => v = .bool r ∧ Ext noG w0 w1) .ret ρ2 w2
  obtain rfl := Option.some.inj hF
  exact res1 rfl (by decide) h2 ⟨rfl, hW⟩

set_option maxHeartbeats 4000000 in
theorem cmp_isNaN_of_uint64_ok {w0 : World} (x_ : Int) {r : Bool} (hF : cmp_isNaN_of_uint64 x_ = some r) :
    Calls Tryd.prog 80 #[.int .u64 x_] w0 fun e w1 => e = .returned (.bool r) ∧ Ext noG w0 w1 := by
  refine (Calls.start (P := Tryd.prog) (args := [.int .u64 x_]) (R := fun v w1 => v = .bool r ∧ Ext noG w0 w1) (n := 6) (w := w0) Tryd.func80 rfl rfl (Nat.le_of_ble_eq_true rfl) (fun ρ hargs => ?_)).mono (fun e w1 ⟨v, he, hv, hE⟩ => ⟨hv ▸ he, hE⟩)
  have h0 := hargs 0 _ rfl
  have hW := Ext.refl noG w0
  have hsz := Nat.le_refl w0.heap.size
  rw [cmp_isNaN_of_uint64] at hF
  refine WP.seq ?_
  refine WP.region mixed [[]] [[]] [[]] [] []
    [val 2 (.bool false)] noG (by kernel_rfl)
    ⟨Stable.val _ _ _, trivial⟩
    ⟨fun ρz wz hE hA _ _ => core_val rfl rfl (o_assign rfl), trivial⟩ ?_
  intro ρ1 w1 hE hN hf hr
  have hN := hN rfl
  have h0 := (hr 0 rfl).trans h0
  have hW := hW.trans hN
  have hsz := Nat.le_trans hsz hN.size
  refine WP.seq ?_
  refine WP.region mixed [[], [], [0, 1], [2]] [[], [], [0, 1], [2]] [[0], [0], [], []] [] []
    [val 3 (.int .u64 x_), val 4 (.int .u64 x_), val 5 (.bool (x_ != x_)), val 2 (.bool (x_ != x_))] noG (by kernel_rfl)
    ⟨Stable.val _ _ _, Stable.val _ _ _, Stable.val _ _ _, Stable.val _ _ _, trivial⟩
    ⟨fun ρz wz hE hA ⟨e0, _⟩ _ => core_val rfl rfl (o_move (e0.trans h0)),
     fun ρz wz hE hA ⟨e0, _⟩ _ => core_val rfl rfl (o_move (e0.trans h0)),
     fun ρz wz hE hA _ ⟨u0, u1, _⟩ => core_val rfl rfl (o_neq u0 u1 rfl),
     fun ρz wz hE hA _ ⟨u2, _⟩ => core_val rfl rfl (o_assign u2), trivial⟩ ?_
  intro ρ2 w2 hE hN hf hr
  have hN := hN rfl
  have h2 : ρ2 2 = .bool (x_ != x_) := hf 3 rfl
  have hW := hW.trans hN
  have hsz := Nat.le_trans hsz hN.size
  refine WP.ret ?_
  show retQ Tryd.prog 6 Tryd.f80 (fun v w1 => v = .bool r ∧ Ext noG w0 w1) .ret ρ2 w2
  obtain rfl := Option.some.inj hF
  exact res1 rfl (by decide) h2 ⟨rfl, hW⟩

set_option maxHeartbeats 4000000 in
theorem cmp_Compare_of_int_ok {w0 : World} (x_ : Int) (y_ : Int) {r : Int} (hF : cmp_Compare_of_int x_ y_ = some r) :
    Calls Tryd.prog 32 #[.int .i64 x_, .int .i64 y_] w0 fun e w1 => e = .returned (.int .i64 r) ∧ Ext noG w0 w1 := by
  refine (Calls.start (P := Tryd.prog) (args := [.int .i64 x_, .int .i64 y_]) (R := fun v w1 => v = .int .i64 r ∧ Ext noG w0 w1) (n := 20) (w := w0) Tryd.func32 rfl rfl (Nat.le_of_ble_eq_true rfl) (fun ρ hargs => ?_)).mono (fun e w1 ⟨v, he, hv, hE⟩ => ⟨hv ▸ he, hE⟩)
  have h0 := hargs 0 _ rfl
  have h1 := hargs 1 _ rfl
  have hW := Ext.refl noG w0
  have hsz := Nat.le_refl w0.heap.size
  rw [cmp_Compare_of_int] at hF
  refine WP.seq ?_
  refine WP.region mixed [[]] [[]] [[]] [] []
    [val 4 (.int .i64 0)] noG (by kernel_rfl)
    ⟨Stable.val _ _ _, trivial⟩
    ⟨fun ρz wz hE hA _ _ => core_val rfl rfl (o_assign rfl), trivial⟩ ?_
  intro ρ1 w1 hE hN hf hr
  have hN := hN rfl
  have h0 := (hr 0 rfl).trans h0
  have h1 := (hr 1 rfl).trans h1
  have hW := hW.trans hN
  have hsz := Nat.le_trans hsz hN.size
  refine WP.seq ?_
  obtain ⟨z, hz, hF⟩ := obind hF
  refine WP.region mixed [[], [0], [1]] [[], [0], [1]] [[0], [], []] [] []
    [val 7 (.int .i64 x_), val 8 (.bool z), val 5 (.bool z)] noG (by kernel_rfl)
    ⟨Stable.val _ _ _, Stable.val _ _ _, Stable.val _ _ _, trivial⟩
    ⟨fun ρz wz hE hA ⟨e0, _⟩ _ => core_val rfl rfl (o_move (e0.trans h0)),
     fun ρz wz hE hA _ ⟨u0, _⟩ => core_call rfl (call_args1 u0) cf_49 (cmp_isNaN_of_int_ok  _  hz),
     fun ρz wz hE hA _ ⟨u1, _⟩ => core_val rfl rfl (o_assign u1), trivial⟩ ?_
  intro ρ2 w2 hE hN hf hr
  have hN := hN rfl
  have h0 := (hr 0 rfl).trans h0
  have h1 := (hr 1 rfl).trans h1
  have h5 : ρ2 5 = .bool z := hf 2 rfl
  have hW := hW.trans hN
  have hsz := Nat.le_trans hsz hN.size
  refine WP.seq ?_
  obtain ⟨z2, hz2, hF⟩ := obind hF
  refine WP.region mixed [[], [0], [1]] [[], [0], [1]] [[1], [], []] [] []
    [val 9 (.int .i64 y_), val 10 (.bool z2), val 6 (.bool z2)] noG (by kernel_rfl)
    ⟨Stable.val _ _ _, Stable.val _ _ _, Stable.val _ _ _, trivial⟩
    ⟨fun ρz wz hE hA ⟨e1, _⟩ _ => core_val rfl rfl (o_move (e1.trans h1)),
     fun ρz wz hE hA _ ⟨u0, _⟩ => core_call rfl (call_args1 u0) cf_49 (cmp_isNaN_of_int_ok  _  hz2),
     fun ρz wz hE hA _ ⟨u1, _⟩ => core_val rfl rfl (o_assign u1), trivial⟩ ?_
  intro ρ3 w3 hE hN hf hr
  have hN := hN rfl
  have h0 := (hr 0 rfl).trans h0
  have h1 := (hr 1 rfl).trans h1
  have h5 := (hr 5 rfl).trans h5
  have h6 : ρ3 6 = .bool z2 := hf 2 rfl
  have hW := hW.trans hN
  have hsz := Nat.le_trans hsz hN.size
  refine WP.seq ?_
  refine WP.seq ?_
  refine WP.region mixed [[]] [[]] [[5]] [] []
    [val 11 (.bool z)] noG (by kernel_rfl)
    ⟨Stable.val _ _ _, trivial⟩
    ⟨fun ρz wz hE hA ⟨e5, _⟩ _ => core_val rfl rfl (o_move (e5.trans h5)), trivial⟩ ?_
  intro ρ4 w4 hE hN hf hr
  have hN := hN rfl
  have h0 := (hr 0 rfl).trans h0
  have h1 := (hr 1 rfl).trans h1
  have h6 := (hr 6 rfl).trans h6
  have h11 : ρ4 11 = .bool z := hf 0 rfl
  have hW := hW.trans hN
  have hsz := Nat.le_trans hsz hN.size
  refine WP.cond rfl h11 (fun hb => ?_) (fun hb => ?_)
  · have hF := (if_pos hb).symm.trans hF
    refine WP.seq ?_
    refine WP.seq ?_
    refine WP.region mixed [[]] [[]] [[6]] [] []
      [val 12 (.bool z2)] noG (by kernel_rfl)
      ⟨Stable.val _ _ _, trivial⟩
      ⟨fun ρz wz hE hA ⟨e6, _⟩ _ => core_val rfl rfl (o_move (e6.trans h6)), trivial⟩ ?_
    intro ρ5 w5 hE hN hf hr
    have hN := hN rfl
    have h12 : ρ5 12 = .bool z2 := hf 0 rfl
    have hW := hW.trans hN
    have hsz := Nat.le_trans hsz hN.size
    refine WP.cond rfl h12 (fun hb => ?_) (fun hb => ?_)
    · have hF := (if_pos hb).symm.trans hF
      refine WP.seq ?_
      refine WP.region mixed [[]] [[]] [[]] [] []
        [val 4 (.int .i64 0)] noG (by kernel_rfl)
        ⟨Stable.val _ _ _, trivial⟩
        ⟨fun ρz wz hE hA _ _ => core_val rfl rfl (o_assign rfl), trivial⟩ ?_
      intro ρ6 w6 hE hN hf hr
      have hN := hN rfl
      have h4 : ρ6 4 = .int .i64 0 := hf 0 rfl
      have hW := hW.trans hN
      have hsz := Nat.le_trans hsz hN.size
      refine WP.ret ?_
      show retQ Tryd.prog 20 Tryd.f32 (fun v w1 => v = .int .i64 r ∧ Ext noG w0 w1) .ret ρ6 w6
      obtain rfl := Option.some.inj hF
      exact res1 rfl (by decide) h4 ⟨rfl, hW⟩
    · have hF := (if_neg (Bool.eq_false_iff.1 hb)).symm.trans hF
      refine WP.skip ?_
      refine WP.seq ?_
      refine WP.region mixed [[]] [[]] [[]] [] []
        [val 4 (.int .i64 (-1))] noG (by kernel_rfl)
        ⟨Stable.val _ _ _, trivial⟩
        ⟨fun ρz wz hE hA _ _ => core_val rfl rfl (o_assign rfl), trivial⟩ ?_
      intro ρ7 w7 hE hN hf hr
      have hN := hN rfl
      have h4 : ρ7 4 = .int .i64 (-1) := hf 0 rfl
      have hW := hW.trans hN
      have hsz := Nat.le_trans hsz hN.size
      refine WP.ret ?_
      show retQ Tryd.prog 20 Tryd.f32 (fun v w1 => v = .int .i64 r ∧ Ext noG w0 w1) .ret ρ7 w7
      obtain rfl := Option.some.inj hF
      exact res1 rfl (by decide) h4 ⟨rfl, hW⟩
  · have hF := (if_neg (Bool.eq_false_iff.1 hb)).symm.trans hF
    refine WP.skip ?_
    refine WP.seq ?_
    refine WP.seq ?_
    refine WP.region mixed [[]] [[]] [[6]] [] []
      [val 13 (.bool z2)] noG (by kernel_rfl)
      ⟨Stable.val _ _ _, trivial⟩
      ⟨fun ρz wz hE hA ⟨e6, _⟩ _ => core_val rfl rfl (o_move (e6.trans h6)), trivial⟩ ?_
    intro ρ8 w8 hE hN hf hr
    have hN := hN rfl
    have h0 := (hr 0 rfl).trans h0
    have h1 := (hr 1 rfl).trans h1
    have h13 : ρ8 13 = .bool z2 := hf 0 rfl
    have hW := hW.trans hN
    have hsz := Nat.le_trans hsz hN.size
    refine WP.cond rfl h13 (fun hb => ?_) (fun hb => ?_)
    · have hF := (if_pos hb).symm.trans hF
      refine WP.seq ?_
      refine WP.region mixed [[]] [[]] [[]] [] []
        [val 4 (.int .i64 1)] noG (by kernel_rfl)
        ⟨Stable.val _ _ _, trivial⟩
        ⟨fun ρz wz hE hA _ _ => core_val rfl rfl (o_assign rfl), trivial⟩ ?_
      intro ρ9 w9 hE hN hf hr
      have hN := hN rfl
      have h4 : ρ9 4 = .int .i64 1 := hf 0 rfl
      have hW := hW.trans hN
      have hsz := Nat.le_trans hsz hN.size
      refine WP.ret ?_
      show retQ Tryd.prog 20 Tryd.f32 (fun v w1 => v = .int .i64 r ∧ Ext noG w0 w1) .ret ρ9 w9
      obtain rfl := Option.some.inj hF
      exact res1 rfl (by decide) h4 ⟨rfl, hW⟩
    · have hF := (if_neg (Bool.eq_false_iff.1 hb)).symm.trans hF
      refine WP.skip ?_
      refine WP.seq ?_
      refine WP.seq ?_
      refine WP.region mixed [[], [], [0, 1]] [[], [], [0, 1]] [[0], [1], []] [] []
        [val 14 (.int .i64 x_), val 15 (.int .i64 y_), val 16 (.bool (decide (x_ < y_)))] noG (by kernel_rfl)
        ⟨Stable.val _ _ _, Stable.val _ _ _, Stable.val _ _ _, trivial⟩
        ⟨fun ρz wz hE hA ⟨e0, _⟩ _ => core_val rfl rfl (o_move (e0.trans h0)),
     fun ρz wz hE hA ⟨e1, _⟩ _ => core_val rfl rfl (o_move (e1.trans h1)),
     fun ρz wz hE hA _ ⟨u0, u1, _⟩ => core_val rfl rfl (o_lss u0 u1 rfl), trivial⟩ ?_
      intro ρ10 w10 hE hN hf hr
      have hN := hN rfl
      have h0 := (hr 0 rfl).trans h0
      have h1 := (hr 1 rfl).trans h1
      have h16 : ρ10 16 = .bool (decide (x_ < y_)) := hf 2 rfl
      have hW := hW.trans hN
      have hsz := Nat.le_trans hsz hN.size
      refine WP.cond rfl h16 (fun hb => ?_) (fun hb => ?_)
      · have hF := (if_pos hb).symm.trans hF
        refine WP.seq ?_
        refine WP.region mixed [[]] [[]] [[]] [] []
          [val 4 (.int .i64 (-1))] noG (by kernel_rfl)
          ⟨Stable.val _ _ _, trivial⟩
          ⟨fun ρz wz hE hA _ _ => core_val rfl rfl (o_assign rfl), trivial⟩ ?_
        intro ρ11 w11 hE hN hf hr
        have hN := hN rfl
        have h4 : ρ11 4 = .int .i64 (-1) := hf 0 rfl
        have hW := hW.trans hN
        have hsz := Nat.le_trans hsz hN.size
        refine WP.ret ?_
        show retQ Tryd.prog 20 Tryd.f32 (fun v w1 => v = .int .i64 r ∧ Ext noG w0 w1) .ret ρ11 w11
        obtain rfl := Option.some.inj hF
        exact res1 rfl (by decide) h4 ⟨rfl, hW⟩
      · have hF := (if_neg (Bool.eq_false_iff.1 hb)).symm.trans hF
        refine WP.skip ?_
        refine WP.seq ?_
        refine WP.seq ?_
        refine WP.region mixed [[], [], [0, 1]] [[], [], [0, 1]] [[0], [1], []] [] []
          [val 17 (.int .i64 x_), val 18 (.int .i64 y_), val 19 (.bool (decide (y_ < x_)))] noG (by kernel_rfl)
          ⟨Stable.val _ _ _, Stable.val _ _ _, Stable.val _ _ _, trivial⟩
          ⟨fun ρz wz hE hA ⟨e0, _⟩ _ => core_val rfl rfl (o_move (e0.trans h0)),
     fun ρz wz hE hA ⟨e1, _⟩ _ => core_val rfl rfl (o_move (e1.trans h1)),
     fun ρz wz hE hA _ ⟨u0, u1, _⟩ => core_val rfl rfl (o_gtr u0 u1 rfl), trivial⟩ ?_
        intro ρ12 w12 hE hN hf hr
        have hN := hN rfl
        have h19 : ρ12 19 = .bool (decide (y_ < x_)) := hf 2 rfl
        have hW := hW.trans hN
        have hsz := Nat.le_trans hsz hN.size
        refine WP.cond rfl h19 (fun hb => ?_) (fun hb => ?_)
        · have hF := (if_pos hb).symm.trans hF
          refine WP.seq ?_
          refine WP.region mixed [[]] [[]] [[]] [] []
            [val 4 (.int .i64 1)] noG (by kernel_rfl)
            ⟨Stable.val _ _ _, trivial⟩
            ⟨fun ρz wz hE hA _ _ => core_val rfl rfl (o_assign rfl), trivial⟩ ?_
          intro ρ13 w13 hE hN hf hr
          have hN := hN rfl
          have h4 : ρ13 4 = .int .i64 1 := hf 0 rfl
          have hW := hW.trans hN
          have hsz := Nat.le_trans hsz hN.size
          refine WP.ret ?_
          show retQ Tryd.prog 20 Tryd.f32 (fun v w1 => v = .int .i64 r ∧ Ext noG w0 w1) .ret ρ13 w13
          obtain rfl := Option.some.inj hF
          exact res1 rfl (by decide) h4 ⟨rfl, hW⟩
        · have hF := (if_neg (Bool.eq_false_iff.1 hb)).symm.trans hF
          refine WP.skip ?_
          refine WP.seq ?_
          refine WP.region mixed [[]] [[]] [[]] [] []
            [val 4 (.int .i64 0)] noG (by kernel_rfl)
            ⟨Stable.val _ _ _, trivial⟩
            ⟨fun ρz wz hE hA _ _ => core_val rfl rfl (o_assign rfl), trivial⟩ ?_
          intro ρ14 w14 hE hN hf hr
          have hN := hN rfl
          have h4 : ρ14 4 = .int .i64 0 := hf 0 rfl
          have hW := hW.trans hN
          have hsz := Nat.le_trans hsz hN.size
          refine WP.ret ?_
          show retQ Tryd.prog 20 Tryd.f32 (fun v w1 => v = .int .i64 r ∧ Ext noG w0 w1) .ret ρ14 w14
          obtain rfl := Option.some.inj hF
          exact res1 rfl (by decide) h4 ⟨rfl, hW⟩

set_option maxHeartbeats 4000000 in
theorem cmp_Compare_of_uint64_ok {w0 : World} (x_ : Int) (y_ : Int) {r : Int} (hF : cmp_Compare_of_uint64 x_ y_ = some r) :
    Calls Tryd.prog 51 #[.int .u64 x_, .int .u64 y_] w0 fun e w1 => e = .returned (.int .i64 r) ∧ Ext noG w0 w1 := by
  refine (Calls.start (P := Tryd.prog) (args := [.int .u64 x_, .int .u64 y_]) (R := fun v w1 => v = .int .i64 r ∧ Ext noG w0 w1) (n := 20) (w := w0) Tryd.func51 rfl rfl (Nat.le_of_ble_eq_true rfl) (fun ρ hargs => ?_)).mono (fun e w1 ⟨v, he, hv, hE⟩ => ⟨hv ▸ he, hE⟩)
  have h0 := hargs 0 _ rfl
  have h1 := hargs 1 _ rfl
  have hW := Ext.refl noG w0
  have hsz := Nat.le_refl w0.heap.size
  rw [cmp_Compare_of_uint64] at hF
  refine WP.seq ?_
  refine WP.region mixed [[]] [[]] [[]] [] []
    [val 4 (.int .i64 0)] noG (by kernel_rfl)
    ⟨Stable.val _ _ _, trivial⟩
    ⟨fun ρz wz hE hA _ _ => core_val rfl rfl (o_assign rfl), trivial⟩ ?_
  intro ρ1 w1 hE hN hf hr
  have hN := hN rfl
  have h0 := (hr 0 rfl).trans h0
  have h1 := (hr 1 rfl).trans h1
  have hW := hW.trans hN
  have hsz := Nat.le_trans hsz hN.size
  refine WP.seq ?_
  obtain ⟨z, hz, hF⟩ := obind hF
  refine WP.region mixed [[], [0], [1]] [[], [0], [1]] [[0], [], []] [] []
    [val 7 (.int .u64 x_), val 8 (.bool z), val 5 (.bool z)] noG (by kernel_rfl)
    ⟨Stable.val _ _ _, Stable.val _ _ _, Stable.val _ _ _, trivial⟩
    ⟨fun ρz wz hE hA ⟨e0, _⟩ _ => core_val rfl rfl (o_move (e0.trans h0)),
     fun ρz wz hE hA _ ⟨u0, _⟩ => core_call rfl (call_args1 u0) cf_80 (cmp_isNaN_of_uint64_ok  _  hz),
     fun ρz wz hE hA _ ⟨u1, _⟩ => core_val rfl rfl (o_assign u1), trivial⟩ ?_
  intro ρ2 w2 hE hN hf hr
  have hN := hN rfl
  have h0 := (hr 0 rfl).trans h0
  have h1 := (hr 1 rfl).trans h1
  have h5 : ρ2 5 = .bool z := hf 2 rfl
  have hW := hW.trans hN
  have hsz := Nat.le_trans hsz hN.size
  refine WP.seq ?_
  obtain ⟨z2, hz2, hF⟩ := obind hF
  refine WP.region mixed [[], [0], [1]] [[], [0], [1]] [[1], [], []] [] []
    [val 9 (.int .u64 y_), val 10 (.bool z2), val 6 (.bool z2)] noG (by kernel_rfl)
    ⟨Stable.val _ _ _, Stable.val _ _ _, Stable.val _ _ _, trivial⟩
    ⟨fun ρz wz hE hA ⟨e1, _⟩ _ => core_val rfl rfl (o_move (e1.trans h1)),
     fun ρz wz hE hA _ ⟨u0, _⟩ => core_call rfl (call_args1 u0) cf_80 (cmp_isNaN_of_uint64_ok  _  hz2),
     fun ρz wz hE hA _ ⟨u1, _⟩ => core_val rfl rfl (o_assign u1), trivial⟩ ?_
  intro ρ3 w3 hE hN hf hr
  have hN := hN rfl
  have h0 := (hr 0 rfl).trans h0
  have h1 := (hr 1 rfl).trans h1
  have h5 := (hr 5 rfl).trans h5
  have h6 : ρ3 6 = .bool z2 := hf 2 rfl
  have hW := hW.trans hN
  have hsz := Nat.le_trans hsz hN.size
  refine WP.seq ?_
  refine WP.seq ?_
  refine WP.region mixed [[]] [[]] [[5]] [] []
    [val 11 (.bool z)] noG (by kernel_rfl)
    ⟨Stable.val _ _ _, trivial⟩
    ⟨fun ρz wz hE hA ⟨e5, _⟩ _ => core_val rfl rfl (o_move (e5.trans h5)), trivial⟩ ?_
  intro ρ4 w4 hE hN hf hr
  have hN := hN rfl
  have h0 := (hr 0 rfl).trans h0
  have h1 := (hr 1 rfl).trans h1
  have h6 := (hr 6 rfl).trans h6
  have h11 : ρ4 11 = .bool z := hf 0 rfl
  have hW := hW.trans hN
  have hsz := Nat.le_trans hsz hN.size
  refine WP.cond rfl h11 (fun hb => ?_) (fun hb => ?_)
  · have hF := (if_pos hb).symm.trans hF
    refine WP.seq ?_
    refine WP.seq ?_
    refine WP.region mixed [[]] [[]] [[6]] [] []
      [val 12 (.bool z2)] noG (by kernel_rfl)
      ⟨Stable.val _ _ _, trivial⟩
      ⟨fun ρz wz hE hA ⟨e6, _⟩ _ => core_val rfl rfl (o_move (e6.trans h6)), trivial⟩ ?_
    intro ρ5 w5 hE hN hf hr
    have hN := hN rfl
    have h12 : ρ5 12 = .bool z2 := hf 0 rfl
    have hW := hW.trans hN
    have hsz := Nat.le_trans hsz hN.size
    refine WP.cond rfl h12 (fun hb => ?_) (fun hb => ?_)
    · have hF := (if_pos hb).symm.trans hF
      refine WP.seq ?_
      refine WP.region mixed [[]] [[]] [[]] [] []
        [val 4 (.int .i64 0)] noG (by kernel_rfl)
        ⟨Stable.val _ _ _, trivial⟩
        ⟨fun ρz wz hE hA _ _ => core_val rfl rfl (o_assign rfl), trivial⟩ ?_
      intro ρ6 w6 hE hN hf hr
      have hN := hN rfl
      have h4 : ρ6 4 = .int .i64 0 := hf 0 rfl
      have hW := hW.trans hN
      have hsz := Nat.le_trans hsz hN.size
      refine WP.ret ?_
      show retQ Tryd.prog 20 Tryd.f51 (fun v w1 => v = .int .i64 r ∧ Ext noG w0 w1) .ret ρ6 w6
      obtain rfl := Option.some.inj hF
      exact res1 rfl (by decide) h4 ⟨rfl, hW⟩
    · have hF := (if_neg (Bool.eq_false_iff.1 hb)).symm.trans hF
      refine WP.skip ?_
      refine WP.seq ?_
      refine WP.region mixed [[]] [[]] [[]] [] []
        [val 4 (.int .i64 (-1))] noG (by kernel_rfl)
        ⟨Stable.val _ _ _, trivial⟩
        ⟨fun ρz wz hE hA _ _ => core_val rfl rfl (o_assign rfl), trivial⟩ ?_
      intro ρ7 w7 hE hN hf hr
      have hN := hN rfl
      have h4 : ρ7 4 = .int .i64 (-1) := hf 0 rfl
      have hW := hW.trans hN
      have hsz := Nat.le_trans hsz hN.size
      refine WP.ret ?_
      show retQ Tryd.prog 20 Tryd.f51 (fun v w1 => v = .int .i64 r ∧ Ext noG w0 w1) .ret ρ7 w7
      obtain rfl := Option.some.inj hF
      exact res1 rfl (by decide) h4 ⟨rfl, hW⟩
  · have hF := (if_neg (Bool.eq_false_iff.1 hb)).symm.trans hF
    refine WP.skip ?_
    refine WP.seq ?_
    refine WP.seq ?_
    refine WP.region mixed [[]] [[]] [[6]] [] []
      [val 13 (.bool z2)] noG (by kernel_rfl)
      ⟨Stable.val _ _ _, trivial⟩
      ⟨fun ρz wz hE hA ⟨e6, _⟩ _ => core_val rfl rfl (o_move (e6.trans h6)), trivial⟩ ?_
    intro ρ8 w8 hE hN hf hr
    have hN := hN rfl
    have h0 := (hr 0 rfl).trans h0
    have h1 := (hr 1 rfl).trans h1
    have h13 : ρ8 13 = .bool z2 := hf 0 rfl
    have hW := hW.trans hN
    have hsz := Nat.le_trans hsz hN.size
    refine WP.cond rfl h13 (fun hb => ?_) (fun hb => ?_)
    · have hF := (if_pos hb).symm.trans hF
      refine WP.seq ?_
      refine WP.region mixed [[]] [[]] [[]] [] []
        [val 4 (.int .i64 1)] noG (by kernel_rfl)
        ⟨Stable.val _ _ _, trivial⟩
        ⟨fun ρz wz hE hA _ _ => core_val rfl rfl (o_assign rfl), trivial⟩ ?_
      intro ρ9 w9 hE hN hf hr
      have hN := hN rfl
      have h4 : ρ9 4 = .int .i64 1 := hf 0 rfl
      have hW := hW.trans hN
      have hsz := Nat.le_trans hsz hN.size
      refine WP.ret ?_
      show retQ Tryd.prog 20 Tryd.f51 (fun v w1 => v = .int .i64 r ∧ Ext noG w0 w1) .ret ρ9 w9
      obtain rfl := Option.some.inj hF
      exact res1 rfl (by decide) h4 ⟨rfl, hW⟩
    · have hF := (if_neg (Bool.eq_false_iff.1 hb)).symm.trans hF
      refine WP.skip ?_
      refine WP.seq ?_
      refine WP.seq ?_
      refine WP.region mixed [[], [], [0, 1]] [[], [], [0, 1]] [[0], [1], []] [] []
        [val 14 (.int .u64 x_), val 15 (.int .u64 y_), val 16 (.bool (decide (x_ < y_)))] noG (by kernel_rfl)
        ⟨Stable.val _ _ _, Stable.val _ _ _, Stable.val _ _ _, trivial⟩
        ⟨fun ρz wz hE hA ⟨e0, _⟩ _ => core_val rfl rfl (o_move (e0.trans h0)),
     fun ρz wz hE hA ⟨e1, _⟩ _ => core_val rfl rfl (o_move (e1.trans h1)),
     fun ρz wz hE hA _ ⟨u0, u1, _⟩ => core_val rfl rfl (o_lss u0 u1 rfl), trivial⟩ ?_
      intro ρ10 w10 hE hN hf hr
      have hN := hN rfl
      have h0 := (hr 0 rfl).trans h0
      have h1 := (hr 1 rfl).trans h1
      have h16 : ρ10 16 = .bool (decide (x_ < y_)) := hf 2 rfl
      have hW := hW.trans hN
      have hsz := Nat.le_trans hsz hN.size
      refine WP.cond rfl h16 (fun hb => ?_) (fun hb => ?_)
      · have hF := (if_pos hb).symm.trans hF
        refine WP.seq ?_
        refine WP.region mixed [[]] [[]] [[]] [] []
          [val 4 (.int .i64 (-1))] noG (by kernel_rfl)
          ⟨Stable.val _ _ _, trivial⟩
          ⟨fun ρz wz hE hA _ _ => core_val rfl rfl (o_assign rfl), trivial⟩ ?_
        intro ρ11 w11 hE hN hf hr
        have hN := hN rfl
        have h4 : ρ11 4 = .int .i64 (-1) := hf 0 rfl
        have hW := hW.trans hN
        have hsz := Nat.le_trans hsz hN.size
        refine WP.ret ?_
        show retQ Tryd.prog 20 Tryd.f51 (fun v w1 => v = .int .i64 r ∧ Ext noG w0 w1) .ret ρ11 w11
        obtain rfl := Option.some.inj hF
        exact res1 rfl (by decide) h4 ⟨rfl, hW⟩
      · have hF := (if_neg (Bool.eq_false_iff.1 hb)).symm.trans hF
        refine WP.skip ?_
        refine WP.seq ?_
        refine WP.seq ?_
        refine WP.region mixed [[], [], [0, 1]] [[], [], [0, 1]] [[0], [1], []] [] []
          [val 17 (.int .u64 x_), val 18 (.int .u64 y_), val 19 (.bool (decide (y_ < x_)))] noG (by kernel_rfl)
          ⟨Stable.val _ _ _, Stable.val _ _ _, Stable.val _ _ _, trivial⟩
          ⟨fun ρz wz hE hA ⟨e0, _⟩ _ => core_val rfl rfl (o_move (e0.trans h0)),
     fun ρz wz hE hA ⟨e1, _⟩ _ => core_val rfl rfl (o_move (e1.trans h1)),
     fun ρz wz hE hA _ ⟨u0, u1, _⟩ => core_val rfl rfl (o_gtr u0 u1 rfl), trivial⟩ ?_
        intro ρ12 w12 hE hN hf hr
        have hN := hN rfl
        have h19 : ρ12 19 = .bool (decide (y_ < x_)) := hf 2 rfl
        have hW := hW.trans hN
        have hsz := Nat.le_trans hsz hN.size
        refine WP.cond rfl h19 (fun hb => ?_) (fun hb => ?_)
        · have hF := (if_pos hb).symm.trans hF
          refine WP.seq ?_
          refine WP.region mixed [[]] [[]] [[]] [] []
            [val 4 (.int .i64 1)] noG (by kernel_rfl)
            ⟨Stable.val _ _ _, trivial⟩
            ⟨fun ρz wz hE hA _ _ => core_val rfl rfl (o_assign rfl), trivial⟩ ?_
          intro ρ13 w13 hE hN hf hr
          have hN := hN rfl
          have h4 : ρ13 4 = .int .i64 1 := hf 0 rfl
          have hW := hW.trans hN
          have hsz := Nat.le_trans hsz hN.size
          refine WP.ret ?_
          show retQ Tryd.prog 20 Tryd.f51 (fun v w1 => v = .int .i64 r ∧ Ext noG w0 w1) .ret ρ13 w13
          obtain rfl := Option.some.inj hF
          exact res1 rfl (by decide) h4 ⟨rfl, hW⟩
        · have hF := (if_neg (Bool.eq_false_iff.1 hb)).symm.trans hF
          refine WP.skip ?_
          refine WP.seq ?_
          refine WP.region mixed [[]] [[]] [[]] [] []
            [val 4 (.int .i64 0)] noG (by kernel_rfl)
            ⟨Stable.val _ _ _, trivial⟩
            ⟨fun ρz wz hE hA _ _ => core_val rfl rfl (o_assign rfl), trivial⟩ ?_
          intro ρ14 w14 hE hN hf hr
          have hN := hN rfl
          have h4 : ρ14 4 = .int .i64 0 := hf 0 rfl
          have hW := hW.trans hN
          have hsz := Nat.le_trans hsz hN.size
          refine WP.ret ?_
          show retQ Tryd.prog 20 Tryd.f51 (fun v w1 => v = .int .i64 r ∧ Ext noG w0 w1) .ret ρ14 w14
          obtain rfl := Option.some.inj hF
          exact res1 rfl (by decide) h4 ⟨rfl, hW⟩

set_option maxHeartbeats 4000000 in
theorem pensionlaw24_List_ok {w0 : World} (d_ : List pensionlaw24_Raw) {v_d_ : Value} (H_d_ : RepSl pensionlaw24_Raw.R noG w0 v_d_ d_) {r : (List Right)} (hF : pensionlaw24_List d_ = some r) :
    Calls Tryd.prog 11 #[v_d_] w0 fun e w1 => ∃ v, e = .returned v ∧ Ext noG w0 w1 ∧ Own w0.heap.size 43 4 Right.cells w1 v r := by
  refine (Calls.start (P := Tryd.prog) (args := [v_d_]) (R := fun v w1 => Own w0.heap.size 43 4 Right.cells w1 v r ∧ Ext noG w0 w1) (n := 66) (w := w0) Tryd.func11 rfl rfl (Nat.le_of_ble_eq_true rfl) (fun ρ hargs => ?_)).mono (fun e w1 ⟨v, he, hv, hE⟩ => ⟨v, he, hE, hv⟩)
  have h0 := hargs 0 _ rfl
  have hW := Ext.refl noG w0
  have hsz := Nat.le_refl w0.heap.size
  obtain ⟨_, _, hs_H_d_, _, _⟩ := RepSl.shape H_d_
  have H_d_ := H_d_.start
  rw [pensionlaw24_List] at hF
  refine WP.seq ?_
  refine WP.region mixed [[]] [[]] [[]] [] []
    [val 2 (.slice none 0 0)] noG (by kernel_rfl)
    ⟨Stable.val _ _ _, trivial⟩
    ⟨fun ρz wz hE hA _ _ => core_val rfl rfl (o_assign rfl), trivial⟩ ?_
  intro ρ1 w1 hE hN hf hr
  have hN := hN rfl
  have h0 := (hr 0 rfl).trans h0
  have H_d__at0 := H_d_
  have H_d_ := H_d_.exn hN
  have hW := hW.trans hN
  have hsz := Nat.le_trans hsz hN.size
  refine WP.seq ?_
  refine WP.region mixed [[]] [[]] [[]] [] []
    [val 3 (.slice none 0 0)] noG (by kernel_rfl)
    ⟨Stable.val _ _ _, trivial⟩
    ⟨fun ρz wz hE hA _ _ => core_val rfl rfl (o_assign rfl), trivial⟩ ?_
  intro ρ2 w2 hE hN hf hr
  have hN := hN rfl
  have h0 := (hr 0 rfl).trans h0
  have h3 : ρ2 3 = .slice none 0 0 := hf 0 rfl
  have O3 : Own w0.heap.size 43 4 Right.cells w2 (.slice none 0 0) [] := Own.nil _ _ _ _ _
  have H_d__at0 := H_d_
  have H_d_ := H_d_.exn hN
  have hW := hW.trans hN
  have hsz := Nat.le_trans hsz hN.size
  refine WP.seq ?_
  refine WP.seq ?_
  refine WP.region mixed [[]] [[]] [[]] [] []
    [val 4 (.int .i64 0)] noG (by kernel_rfl)
    ⟨Stable.val _ _ _, trivial⟩
    ⟨fun ρz wz hE hA _ _ => core_val rfl rfl (o_assign rfl), trivial⟩ ?_
  intro ρ3 w3 hE hN hf hr
  have hN := hN rfl
  have h0 := (hr 0 rfl).trans h0
  have h3 := (hr 3 rfl).trans h3
  have h4 : ρ3 4 = .int .i64 0 := hf 0 rfl
  have Oo_O3 := O3
  have H_d__at0 := H_d_
  have H_d_ := H_d_.exn hN
  have hW := hW.trans hN
  have O3 := O3.exn hN
  have hsz := Nat.le_trans hsz hN.size
  refine WP.block ?_
  refine WP.loop (fun k_ ρ w => ∃ x : List Right, ∃ x2 : Int, ∃ v3_ : Value, ρ 0 = v_d_ ∧ ρ 3 = v3_ ∧ ρ 4 = .int .i64 x2 ∧ RepSl pensionlaw24_Raw.R (gfr noG w0) w v_d_ d_ ∧ Own w0.heap.size 43 4 Right.cells w v3_ x ∧ Ext noG w0 w ∧ w0.heap.size ≤ w.heap.size ∧ loopC k_ (pensionlaw24_List_l d_) (x, x2) = some r) FU ⟨[], 0, .slice none 0 0, h0, h3, h4, H_d_, O3, hW, hsz, hF⟩ (fun _ _ h => by obtain ⟨_, _, _, _, _, _, _, _, _, _, h⟩ := h; cases h) ?_
  rintro k_ ρ4 w4 ⟨x, x2, v3_, h0, h3, h4, H_d_, O3, hW, hsz, hF⟩
  have hF : pensionlaw24_List_l d_ (loopC k_ (pensionlaw24_List_l d_)) (x, x2) = some r := hF
  generalize hrec_ : loopC k_ (pensionlaw24_List_l d_) = rec_ at hF
  rw [pensionlaw24_List_l] at hF
  refine WP.seq ?_
  refine WP.seq ?_
  refine WP.region mixed [[], [], [1], [0, 2]] [[], [], [1], [0, 2]] [[4], [0], [], []] [] []
    [val 8 (.int .i64 x2), val 9 (v_d_), val 10 (.int .i64 (d_.length : Int)), val 11 (.bool (decide (x2 < (d_.length : Int))))] noG (by kernel_rfl)
    ⟨Stable.val _ _ _, Stable.val _ _ _, Stable.val _ _ _, Stable.val _ _ _, trivial⟩
    ⟨fun ρz wz hE hA ⟨e4, _⟩ _ => core_val rfl rfl (o_move (e4.trans h4)),
     fun ρz wz hE hA ⟨e0, _⟩ _ => core_val rfl rfl (o_move (e0.trans h0)),
     fun ρz wz hE hA _ ⟨u1, _⟩ => core_val rfl rfl (o_len (u1.trans hs_H_d_) len_22),
     fun ρz wz hE hA _ ⟨u0, u2, _⟩ => core_val rfl rfl (o_lss u0 u2 rfl), trivial⟩ ?_
  intro ρ5 w5 hE hN hf hr
  have hN := hN rfl
  have h0 := (hr 0 rfl).trans h0
  have h3 := (hr 3 rfl).trans h3
  have h4 := (hr 4 rfl).trans h4
  have h11 : ρ5 11 = .bool (decide (x2 < (d_.length : Int))) := hf 3 rfl
  have Oo_O3 := O3
  have H_d__at0 := H_d_
  have H_d_ := H_d_.exn hN
  have hW := hW.trans hN
  have O3 := O3.exn hN
  have hsz := Nat.le_trans hsz hN.size
  refine WP.cond rfl h11 (fun hb => ?_) (fun hb => ?_)
  · have hF := (if_pos hb).symm.trans hF
    refine WP.skip ?_
    refine WP.seqJ (fun ρ w => ∃ x3 : List Right, ∃ v3_2 : Value, ρ 0 = v_d_ ∧ ρ 3 = v3_2 ∧ ρ 4 = .int .i64 x2 ∧ RepSl pensionlaw24_Raw.R (gfr noG w0) w v_d_ d_ ∧ Own w0.heap.size 43 4 Right.cells w v3_2 x3 ∧ Ext noG w0 w ∧ w0.heap.size ≤ w.heap.size ∧ pensionlaw24_List_j x2 rec_ x3 = some r) ?_ ?_
    · refine WP.block ?_
      refine WP.seq ?_
      obtain ⟨y, hy, hF⟩ := obind hF
      obtain ⟨ay, cy, hvy, hiy, hAy⟩ := RepSl.getF H_d_ hy
      obtain ⟨z, hz, hF⟩ := obind hF
      obtain ⟨y2, hy2, hF⟩ := obind hF
      obtain ⟨ay2, cy2, hvy2, hiy2, hAy2⟩ := RepSl.getF H_d_ hy2
      obtain ⟨z2, hz2, hF⟩ := obind hF
      obtain ⟨y3, hy3, hF⟩ := obind hF
      obtain ⟨ay3, cy3, hvy3, hiy3, hAy3⟩ := RepSl.getF H_d_ hy3
      obtain ⟨z3, hz3, hF⟩ := obind hF
      obtain ⟨y4, hy4, hF⟩ := obind hF
      obtain ⟨ay4, cy4, hvy4, hiy4, hAy4⟩ := RepSl.getF H_d_ hy4
      obtain ⟨z4, hz4, hF⟩ := obind hF
      refine WP.region mixed [[], [], [0, 1], [2], [3], [4], [], [], [6, 7], [8], [9], [10], [11], [], [], [13, 14], [15], [16], [17], [18], [], [], [20, 21], [22], [23], [24], [25], [5, 12, 19, 26], [], [27, 28]] [[], [], [0, 1], [2], [3], [4], [], [], [6, 7], [8], [9], [10], [11], [], [], [13, 14], [15], [16], [17], [18], [], [], [20, 21], [22], [23], [24], [25], [5, 12, 19, 26], [], [28, 27]] [[0], [4], [], [], [], [], [0], [4], [], [], [], [], [], [0], [4], [], [], [], [], [], [0], [4], [], [], [], [], [], [], [], []] [29] [(28, 29)]
        [val 14 (v_d_), val 15 (.int .i64 x2), val 16 (.pointer (some (ay.add (Int.toNat x2 * 4)))), val 17 (.pointer (some ((ay.add (Int.toNat x2 * 4)).add 0))), val 18 (.int .i64 y.State), val 19 (.int .i64 z), val 20 (v_d_), val 21 (.int .i64 x2), val 22 (.pointer (some (ay2.add (Int.toNat x2 * 4)))), val 23 (.pointer (some ((ay2.add (Int.toNat x2 * 4)).add 1))), val 24 (.int .i64 y2.Basis), val 25 (.int .i64 z2), val 26 (.int .i64 (i64 (1 + z2))), val 27 (v_d_), val 28 (.int .i64 x2), val 29 (.pointer (some (ay3.add (Int.toNat x2 * 4)))), val 30 (.pointer (some ((ay3.add (Int.toNat x2 * 4)).add 2))), val 31 (.int .i64 y3.Currency), val 32 (.int .i64 z3), val 33 (.int .i64 (i64 (1 + z3))), val 34 (v_d_), val 35 (.int .i64 x2), val 36 (.pointer (some (ay4.add (Int.toNat x2 * 4)))), val 37 (.pointer (some ((ay4.add (Int.toNat x2 * 4)).add 3))), val 38 (.int .i64 y4.Amount), val 39 (.int .i64 z4), val 40 (.int .i64 (max 1 z4)), val 41 (Right.val (⟨z, i64 (1 + z2), i64 (1 + z3), max 1 z4⟩ : Right)), (5, fun u wz => ∃ b, u = .pointer (some ⟨b, 0, none⟩) ∧ w5.heap.size ≤ b ∧ Mb wz b 43 (Right.cells (⟨0, 0, 0, 0⟩ : Right))), (5, fun u wz => ∃ b, u = .pointer (some ⟨b, 0, none⟩) ∧ w5.heap.size ≤ b ∧ Mb wz b 43 (Right.cells (⟨z, i64 (1 + z2), i64 (1 + z3), max 1 z4⟩ : Right)))] (fun b => w5.heap.size ≤ b) (by kernel_rfl)
        ⟨Stable.val _ _ _, Stable.val _ _ _, Stable.val _ _ _, Stable.val _ _ _, Stable.val _ _ _, Stable.val _ _ _, Stable.val _ _ _, Stable.val _ _ _, Stable.val _ _ _, Stable.val _ _ _, Stable.val _ _ _, Stable.val _ _ _, Stable.val _ _ _, Stable.val _ _ _, Stable.val _ _ _, Stable.val _ _ _, Stable.val _ _ _, Stable.val _ _ _, Stable.val _ _ _, Stable.val _ _ _, Stable.val _ _ _, Stable.val _ _ _, Stable.val _ _ _, Stable.val _ _ _, Stable.val _ _ _, Stable.val _ _ _, Stable.val _ _ _, Stable.val _ _ _, fun _ _ _ hE ⟨b, hb, hs, hM⟩ => ⟨b, hb, hs, hM.exn hE⟩, fun _ _ _ hE ⟨b, hb, hs, hM⟩ => ⟨b, hb, hs, hM.exn hE⟩, trivial⟩
        ⟨fun ρz wz hE hA ⟨e0, _⟩ _ => core_val rfl rfl (o_move (e0.trans h0)),
     fun ρz wz hE hA ⟨e4, _⟩ _ => core_val rfl rfl (o_move (e4.trans h4)),
     fun ρz wz hE hA _ ⟨u0, u1, _⟩ => core_val rfl rfl (o_indexAddr (u0.trans hvy) u1 (ia_22 hiy)),
     fun ρz wz hE hA _ ⟨u2, _⟩ => core_val rfl rfl (o_fieldAddr u2 (fa_51_0 _ _)),
     fun ρz wz hE hA _ ⟨u3, _⟩ => core_val rfl rfl (o_load u3 (run_load1 (lr_3 _ _) (CA.sub ((hAy.exn hE.fresh).ca) 0 1))),
     fun ρz wz hE hA _ ⟨u4, _⟩ => core_call rfl (call_args2 u4 rfl) cf_13 (pensionplain_Mod_ok  _ _  hz),
     fun ρz wz hE hA ⟨e0, _⟩ _ => core_val rfl rfl (o_move (e0.trans h0)),
     fun ρz wz hE hA ⟨e4, _⟩ _ => core_val rfl rfl (o_move (e4.trans h4)),
     fun ρz wz hE hA _ ⟨u6, u7, _⟩ => core_val rfl rfl (o_indexAddr (u6.trans hvy2) u7 (ia_22 hiy2)),
     fun ρz wz hE hA _ ⟨u8, _⟩ => core_val rfl rfl (o_fieldAddr u8 (fa_51_1 _ _)),
     fun ρz wz hE hA _ ⟨u9, _⟩ => core_val rfl rfl (o_load u9 (run_load1 (lr_3 _ _) (CA.sub ((hAy2.exn hE.fresh).ca) 1 1))),
     fun ρz wz hE hA _ ⟨u10, _⟩ => core_call rfl (call_args2 u10 rfl) cf_13 (pensionplain_Mod_ok  _ _  hz2),
     fun ρz wz hE hA _ ⟨u11, _⟩ => core_val rfl rfl (o_add rfl u11 rfl),
     fun ρz wz hE hA ⟨e0, _⟩ _ => core_val rfl rfl (o_move (e0.trans h0)),
     fun ρz wz hE hA ⟨e4, _⟩ _ => core_val rfl rfl (o_move (e4.trans h4)),
     fun ρz wz hE hA _ ⟨u13, u14, _⟩ => core_val rfl rfl (o_indexAddr (u13.trans hvy3) u14 (ia_22 hiy3)),
     fun ρz wz hE hA _ ⟨u15, _⟩ => core_val rfl rfl (o_fieldAddr u15 (fa_51_2 _ _)),
     fun ρz wz hE hA _ ⟨u16, _⟩ => core_val rfl rfl (o_load u16 (run_load1 (lr_3 _ _) (CA.sub ((hAy3.exn hE.fresh).ca) 2 1))),
     fun ρz wz hE hA _ ⟨u17, _⟩ => core_call rfl (call_args2 u17 rfl) cf_13 (pensionplain_Mod_ok  _ _  hz3),
     fun ρz wz hE hA _ ⟨u18, _⟩ => core_val rfl rfl (o_add rfl u18 rfl),
     fun ρz wz hE hA ⟨e0, _⟩ _ => core_val rfl rfl (o_move (e0.trans h0)),
     fun ρz wz hE hA ⟨e4, _⟩ _ => core_val rfl rfl (o_move (e4.trans h4)),
     fun ρz wz hE hA _ ⟨u20, u21, _⟩ => core_val rfl rfl (o_indexAddr (u20.trans hvy4) u21 (ia_22 hiy4)),
     fun ρz wz hE hA _ ⟨u22, _⟩ => core_val rfl rfl (o_fieldAddr u22 (fa_51_3 _ _)),
     fun ρz wz hE hA _ ⟨u23, _⟩ => core_val rfl rfl (o_load u23 (run_load1 (lr_3 _ _) (CA.sub ((hAy4.exn hE.fresh).ca) 3 1))),
     fun ρz wz hE hA _ ⟨u24, _⟩ => core_call rfl (call_args1 u24) cf_24 (pensionplain_Amount_ok  _  hz4),
     fun ρz wz hE hA _ ⟨u25, _⟩ => core_val rfl rfl (o_max2 rfl u25),
     fun ρz wz hE hA _ ⟨u5, u12, u19, u26, _⟩ => core_val rfl rfl (o_build (build_parts4 u5 u12 u19 u26) (bd_43_0_1_2_3 _ _ _ _ _)),
     fun ρz wz hE hA _ _ => core_new rfl rfl hE (o_alloc (al_43 _)),
     fun ρz wz hE hA _ ⟨u28, u27, _⟩ => core_storeNew rfl rfl rfl rfl u27 u28 (fun a w => st_43 _ a w) rfl (one_43 _), trivial⟩ ?_
      intro ρ8 w8 hE hN hf hr
      have hN := hE.fresh
      have h0 := (hr 0 rfl).trans h0
      have h3 := (hr 3 rfl).trans h3
      have h4 := (hr 4 rfl).trans h4
      obtain ⟨b5_, h5, hge_b5_, Hb_b5_⟩ := hf 29 rfl
      have Oo_O3 := O3
      have H_d__at0 := H_d_
      have H_d_ := H_d_.exn hN
      have hnb_O3_b5_ : Value.ownBlock v3_ ≠ some b5_ := fun h => absurd (O3.lt h).2 (Nat.not_lt.2 hge_b5_)
      have hW := hW.trans hN
      have O3 := O3.exn hN
      have hB_b5_ : w0.heap.size ≤ b5_ := Nat.le_trans hsz hge_b5_
      have hsz := Nat.le_trans hsz hN.size
      refine WP.seq ?_
      refine WP.region mixed [[]] [[]] [[]] [] []
        [val 6 (.bool false)] noG (by kernel_rfl)
        ⟨Stable.val _ _ _, trivial⟩
        ⟨fun ρz wz hE hA _ _ => core_val rfl rfl (o_assign rfl), trivial⟩ ?_
      intro ρ9 w9 hE hN hf hr
      have hN := hN rfl
      have h0 := (hr 0 rfl).trans h0
      have h3 := (hr 3 rfl).trans h3
      have h4 := (hr 4 rfl).trans h4
      have h5 := (hr 5 rfl).trans h5
      have h6 : ρ9 6 = .bool false := hf 0 rfl
      have Oo_O3 := O3
      have Hb_b5_n := Hb_b5_.exn hN
      have H_d__at0 := H_d_
      have H_d_ := H_d_.exn hN
      have hW := hW.trans hN
      have O3 := O3.exn hN
      have Hb_b5_ := Hb_b5_n
      have hsz := Nat.le_trans hsz hN.size
      refine WP.seq ?_
      refine WP.seq ?_
      refine WP.region mixed [[]] [[]] [[]] [] []
        [val 7 (.int .i64 0)] noG (by kernel_rfl)
        ⟨Stable.val _ _ _, trivial⟩
        ⟨fun ρz wz hE hA _ _ => core_val rfl rfl (o_assign rfl), trivial⟩ ?_
      intro ρ10 w10 hE hN hf hr
      have hN := hN rfl
      have h0 := (hr 0 rfl).trans h0
      have h3 := (hr 3 rfl).trans h3
      have h4 := (hr 4 rfl).trans h4
      have h5 := (hr 5 rfl).trans h5
      have h6 := (hr 6 rfl).trans h6
      have h7 : ρ10 7 = .int .i64 0 := hf 0 rfl
      have Oo_O3 := O3
      have Hb_b5_n := Hb_b5_.exn hN
      have H_d__at0 := H_d_
      have H_d_ := H_d_.exn hN
      have hW := hW.trans hN
      have O3 := O3.exn hN
      have Hb_b5_ := Hb_b5_n
      have hsz := Nat.le_trans hsz hN.size
      refine WP.block ?_
      refine WP.loop (fun k_2 ρ w => ∃ x4 : Bool, ∃ x5 : Int, ρ 0 = v_d_ ∧ ρ 3 = v3_ ∧ ρ 4 = .int .i64 x2 ∧ ρ 5 = .pointer (some ⟨b5_, 0, none⟩) ∧ ρ 6 = .bool x4 ∧ ρ 7 = .int .i64 x5 ∧ Mb w b5_ 43 (Right.cells (⟨z, i64 (1 + z2), i64 (1 + z3), max 1 z4⟩ : Right)) ∧ RepSl pensionlaw24_Raw.R (gfr noG w0) w v_d_ d_ ∧ Own w0.heap.size 43 4 Right.cells w v3_ x ∧ Value.ownBlock v3_ ≠ some b5_ ∧ Ext noG w0 w ∧ w0.heap.size ≤ w.heap.size ∧ loopC k_2 (pensionlaw24_List_l2 x x2 rec_ z z2 z3 z4) (x4, x5) = some r) FU ⟨false, 0, h0, h3, h4, h5, h6, h7, Hb_b5_, H_d_, O3, hnb_O3_b5_, hW, hsz, hF⟩ (fun _ _ h => by obtain ⟨_, _, _, _, _, _, _, _, _, _, _, _, _, _, h⟩ := h; cases h) ?_
      rintro k_2 ρ11 w11 ⟨x4, x5, h0, h3, h4, h5, h6, h7, Hb_b5_, H_d_, O3, hnb_O3_b5_, hW, hsz, hF⟩
      have hF : pensionlaw24_List_l2 x x2 rec_ z z2 z3 z4 (loopC k_2 (pensionlaw24_List_l2 x x2 rec_ z z2 z3 z4)) (x4, x5) = some r := hF
      generalize hrec_2 : loopC k_2 (pensionlaw24_List_l2 x x2 rec_ z z2 z3 z4) = rec_2 at hF
      rw [pensionlaw24_List_l2] at hF
      refine WP.seq ?_
      refine WP.seq ?_
      refine WP.region mixed [[], [], [1], [0, 2]] [[], [], [1], [0, 2]] [[7], [3], [], []] [] []
        [val 42 (.int .i64 x5), val 43 (v3_), val 44 (.int .i64 (x.length : Int)), val 45 (.bool (decide (x5 < (x.length : Int))))] noG (by kernel_rfl)
        ⟨Stable.val _ _ _, Stable.val _ _ _, Stable.val _ _ _, Stable.val _ _ _, trivial⟩
        ⟨fun ρz wz hE hA ⟨e7, _⟩ _ => core_val rfl rfl (o_move (e7.trans h7)),
     fun ρz wz hE hA ⟨e3, _⟩ _ => core_val rfl rfl (o_move (e3.trans h3)),
     fun ρz wz hE hA _ ⟨u1, _⟩ => core_val rfl rfl (o_len (u1.trans (Own.shape O3).choose_spec.choose_spec.1) len_24),
     fun ρz wz hE hA _ ⟨u0, u2, _⟩ => core_val rfl rfl (o_lss u0 u2 rfl), trivial⟩ ?_
      intro ρ12 w12 hE hN hf hr
      have hN := hN rfl
      have h0 := (hr 0 rfl).trans h0
      have h3 := (hr 3 rfl).trans h3
      have h4 := (hr 4 rfl).trans h4
      have h5 := (hr 5 rfl).trans h5
      have h6 := (hr 6 rfl).trans h6
      have h7 := (hr 7 rfl).trans h7
      have h45 : ρ12 45 = .bool (decide (x5 < (x.length : Int))) := hf 3 rfl
      have Oo_O3 := O3
      have Hb_b5_n := Hb_b5_.exn hN
      have H_d__at0 := H_d_
      have H_d_ := H_d_.exn hN
      have hW := hW.trans hN
      have O3 := O3.exn hN
      have Hb_b5_ := Hb_b5_n
      have hsz := Nat.le_trans hsz hN.size
      refine WP.cond rfl h45 (fun hb => ?_) (fun hb => ?_)
      · have hF := (if_pos hb).symm.trans hF
        refine WP.skip ?_
        refine WP.seq ?_
        refine WP.block ?_
        obtain ⟨c, hc, hF⟩ := obind hF
        refine WP.via (fun ρ w => ρ 0 = v_d_ ∧ ρ 3 = v3_ ∧ ρ 4 = .int .i64 x2 ∧ ρ 5 = .pointer (some ⟨b5_, 0, none⟩) ∧ ρ 6 = .bool c ∧ ρ 7 = .int .i64 x5 ∧ Mb w b5_ 43 (Right.cells (⟨z, i64 (1 + z2), i64 (1 + z3), max 1 z4⟩ : Right)) ∧ RepSl pensionlaw24_Raw.R (gfr noG w0) w v_d_ d_ ∧ Own w0.heap.size 43 4 Right.cells w v3_ x ∧ Value.ownBlock v3_ ≠ some b5_ ∧ Ext noG w0 w ∧ w0.heap.size ≤ w.heap.size) ?_ ?_
        · rcases Bool.eq_false_or_eq_true x4 with hd1 | hd1
          · have hc := (if_pos (by simp [hd1])).symm.trans hc
            have hc := Option.some.inj hc
            refine WP.region mixed [[], [0], [1], [1], [1], [1], [1], [1], [1], [1], [1], [0, 10]] [[], [0], [1], [1], [1], [1], [1], [1], [1], [1], [1], [10]] [[6], [], [], [], [], [], [], [], [], [], [], []] [] []
              [val 48 (.bool x4), val 49 (.bool true), anyF 50, anyF 51, anyF 52, anyF 53, anyF 54, anyF 55, anyF 56, anyF 57, val 58 (.bool true), val 6 (.bool true)] noG (by kernel_rfl)
              ⟨Stable.val _ _ _, Stable.val _ _ _, Stable.any _ _, Stable.any _ _, Stable.any _ _, Stable.any _ _, Stable.any _ _, Stable.any _ _, Stable.any _ _, Stable.any _ _, Stable.val _ _ _, Stable.val _ _ _, trivial⟩
              ⟨fun ρz wz hE hA ⟨e6, _⟩ _ => core_val rfl rfl (o_move (e6.trans h6)),
     fun ρz wz hE hA _ ⟨u0, _⟩ => core_valE rfl rfl (congrArg Value.bool hd1) (o_move u0),
     fun _ _ _ _ _ ⟨u1, _⟩ => gNo rfl u1 rfl trivial,
     fun _ _ _ _ _ ⟨u1, _⟩ => gNo rfl u1 rfl trivial,
     fun _ _ _ _ _ ⟨u1, _⟩ => gNo rfl u1 rfl trivial,
     fun _ _ _ _ _ ⟨u1, _⟩ => gNo rfl u1 rfl trivial,
     fun _ _ _ _ _ ⟨u1, _⟩ => gNo rfl u1 rfl trivial,
     fun _ _ _ _ _ ⟨u1, _⟩ => gNo rfl u1 rfl trivial,
     fun _ _ _ _ _ ⟨u1, _⟩ => gNo rfl u1 rfl trivial,
     fun _ _ _ _ _ ⟨u1, _⟩ => gNo rfl u1 rfl trivial,
     fun ρz wz hE hA _ ⟨u1, _⟩ => core_val rfl rfl (o_pick_t u1 rfl),
     fun ρz wz hE hA _ ⟨u10, _⟩ => core_val rfl rfl (o_assign u10), trivial⟩ ?_
            intro ρ14 w14 hE hN hf hr
            have hN := hN rfl
            have h0 := (hr 0 rfl).trans h0
            have h3 := (hr 3 rfl).trans h3
            have h4 := (hr 4 rfl).trans h4
            have h5 := (hr 5 rfl).trans h5
            have h6 : ρ14 6 = .bool true := hf 11 rfl
            have h7 := (hr 7 rfl).trans h7
            have Oo_O3 := O3
            have Hb_b5_n := Hb_b5_.exn hN
            have H_d__at0 := H_d_
            have H_d_ := H_d_.exn hN
            have hW := hW.trans hN
            have O3 := O3.exn hN
            have Hb_b5_ := Hb_b5_n
            have hsz := Nat.le_trans hsz hN.size
            exact ⟨h0, h3, h4, h5, (h6.trans (congrArg Value.bool (by simp [hd1, ← hc]))), h7, Hb_b5_, H_d_, O3, hnb_O3_b5_, hW, hsz⟩
          · have hc := (if_neg (Bool.eq_false_iff.1 (by simp [hd1]))).symm.trans hc
            obtain ⟨y5, hy5, hc⟩ := obind hc
            obtain ⟨ay5, cy5, hvy5, hiy5, hAy5⟩ := RepSl.getF (Own.rep (hn := fun _ => rfl) (G := noG) O3 (fun _ _ h => h)) hy5
            have hc := Option.some.inj hc
            refine WP.region mixed [[], [0], [1], [1], [1, 2, 3], [1, 4], [1, 5], [1], [1, 7], [1, 6, 8], [1, 9], [0, 10]] [[], [0], [1], [1], [1, 2, 3], [1, 4], [1, 5], [1], [1, 7], [1, 6, 8], [1, 9], [10]] [[6], [], [3], [7], [], [], [], [5], [], [], [], []] [] []
              [val 48 (.bool x4), val 49 (.bool false), val 50 (v3_), val 51 (.int .i64 x5), val 52 (.pointer (some (ay5.add (Int.toNat x5 * 4)))), val 53 (.pointer (some ((ay5.add (Int.toNat x5 * 4)).add 0))), val 54 (.int .i64 y5.State), val 55 (.pointer (some ((⟨b5_, 0, none⟩ : Addr).add 0))), val 56 (.int .i64 z), val 57 (.bool (y5.State == z)), val 58 (.bool (y5.State == z)), val 6 (.bool (y5.State == z))] noG (by kernel_rfl)
              ⟨Stable.val _ _ _, Stable.val _ _ _, Stable.val _ _ _, Stable.val _ _ _, Stable.val _ _ _, Stable.val _ _ _, Stable.val _ _ _, Stable.val _ _ _, Stable.val _ _ _, Stable.val _ _ _, Stable.val _ _ _, Stable.val _ _ _, trivial⟩
              ⟨fun ρz wz hE hA ⟨e6, _⟩ _ => core_val rfl rfl (o_move (e6.trans h6)),
     fun ρz wz hE hA _ ⟨u0, _⟩ => core_valE rfl rfl (congrArg Value.bool hd1) (o_move u0),
     fun ρz wz hE hA ⟨e3, _⟩ ⟨u1, _⟩ => gYes rfl u1 (core_val rfl rfl (o_move (e3.trans h3))),
     fun ρz wz hE hA ⟨e7, _⟩ ⟨u1, _⟩ => gYes rfl u1 (core_val rfl rfl (o_move (e7.trans h7))),
     fun ρz wz hE hA _ ⟨u1, u2, u3, _⟩ => gYes rfl u1 (core_val rfl rfl (o_indexAddr (u2.trans hvy5) u3 (ia_24 hiy5))),
     fun ρz wz hE hA _ ⟨u1, u4, _⟩ => gYes rfl u1 (core_val rfl rfl (o_fieldAddr u4 (fa_43_0 _ _))),
     fun ρz wz hE hA _ ⟨u1, u5, _⟩ => gYes rfl u1 (core_val rfl rfl (o_load u5 (run_load1 (lr_3 _ _) (CA.sub ((hAy5.exn (hA rfl)).ca) 0 1)))),
     fun ρz wz hE hA ⟨e5, _⟩ ⟨u1, _⟩ => gYes rfl u1 (core_val rfl rfl (o_fieldAddr (e5.trans h5) (fa_43_0 _ _))),
     fun ρz wz hE hA _ ⟨u1, u7, _⟩ => gYes rfl u1 (core_val rfl rfl (o_load u7 (run_load1 (lr_3 _ _) (CA.sub ((Hb_b5_.exn (hA rfl)).ca) 0 1)))),
     fun ρz wz hE hA _ ⟨u1, u6, u8, _⟩ => gYes rfl u1 (core_val rfl rfl (o_eql u6 u8 rfl)),
     fun ρz wz hE hA _ ⟨u1, u9, _⟩ => core_val rfl rfl (o_pick_f u1 u9),
     fun ρz wz hE hA _ ⟨u10, _⟩ => core_val rfl rfl (o_assign u10), trivial⟩ ?_
            intro ρ15 w15 hE hN hf hr
            have hN := hN rfl
            have h0 := (hr 0 rfl).trans h0
            have h3 := (hr 3 rfl).trans h3
            have h4 := (hr 4 rfl).trans h4
            have h5 := (hr 5 rfl).trans h5
            have h6 : ρ15 6 = .bool (y5.State == z) := hf 11 rfl
            have h7 := (hr 7 rfl).trans h7
            have Oo_O3 := O3
            have Hb_b5_n := Hb_b5_.exn hN
            have H_d__at0 := H_d_
            have H_d_ := H_d_.exn hN
            have hW := hW.trans hN
            have O3 := O3.exn hN
            have Hb_b5_ := Hb_b5_n
            have hsz := Nat.le_trans hsz hN.size
            exact ⟨h0, h3, h4, h5, (h6.trans (congrArg Value.bool (by simp [hd1, ← hc]))), h7, Hb_b5_, H_d_, O3, hnb_O3_b5_, hW, hsz⟩
        rintro ρ13 w13 ⟨h0, h3, h4, h5, h6, h7, Hb_b5_, H_d_, O3, hnb_O3_b5_, hW, hsz⟩
        refine WP.region mixed [[], [0], [0, 1]] [[], [0], [1]] [[7], [], []] [] []
          [val 46 (.int .i64 x5), val 47 (.int .i64 (i64 (x5 + 1))), val 7 (.int .i64 (i64 (x5 + 1)))] noG (by kernel_rfl)
          ⟨Stable.val _ _ _, Stable.val _ _ _, Stable.val _ _ _, trivial⟩
          ⟨fun ρz wz hE hA ⟨e7, _⟩ _ => core_val rfl rfl (o_move (e7.trans h7)),
     fun ρz wz hE hA _ ⟨u0, _⟩ => core_val rfl rfl (o_add u0 rfl rfl),
     fun ρz wz hE hA _ ⟨u1, _⟩ => core_val rfl rfl (o_assign u1), trivial⟩ ?_
        intro ρ16 w16 hE hN hf hr
        have hN := hN rfl
        have h0 := (hr 0 rfl).trans h0
        have h3 := (hr 3 rfl).trans h3
        have h4 := (hr 4 rfl).trans h4
        have h5 := (hr 5 rfl).trans h5
        have h6 := (hr 6 rfl).trans h6
        have h7 : ρ16 7 = .int .i64 (i64 (x5 + 1)) := hf 2 rfl
        have Oo_O3 := O3
        have Hb_b5_n := Hb_b5_.exn hN
        have H_d__at0 := H_d_
        have H_d_ := H_d_.exn hN
        have hW := hW.trans hN
        have O3 := O3.exn hN
        have Hb_b5_ := Hb_b5_n
        have hsz := Nat.le_trans hsz hN.size
        exact ⟨c, i64 (x5 + 1), h0, h3, h4, h5, h6, h7, Hb_b5_, H_d_, O3, hnb_O3_b5_, hW, hsz, (by first | exact hF | (rw [hrec_2]; exact hF))⟩
      · have hF := (if_neg (Bool.eq_false_iff.1 hb)).symm.trans hF
        refine WP.exit ?_
        refine thenQ_exit ?_
        refine thenQ_exit ?_
        refine blockQ_hit ?_
        refine WP.seq ?_
        refine WP.region mixed [[], [0]] [[], [0]] [[6], []] [] []
          [val 59 (.bool x4), val 60 (.bool (!x4))] noG (by kernel_rfl)
          ⟨Stable.val _ _ _, Stable.val _ _ _, trivial⟩
          ⟨fun ρz wz hE hA ⟨e6, _⟩ _ => core_val rfl rfl (o_move (e6.trans h6)),
     fun ρz wz hE hA _ ⟨u0, _⟩ => core_val rfl rfl (o_not u0 rfl), trivial⟩ ?_
        intro ρ17 w17 hE hN hf hr
        have hN := hN rfl
        have h0 := (hr 0 rfl).trans h0
        have h3 := (hr 3 rfl).trans h3
        have h4 := (hr 4 rfl).trans h4
        have h5 := (hr 5 rfl).trans h5
        have h60 : ρ17 60 = .bool (!x4) := hf 1 rfl
        have Oo_O3 := O3
        have Hb_b5_n := Hb_b5_.exn hN
        have H_d__at0 := H_d_
        have H_d_ := H_d_.exn hN
        have hW := hW.trans hN
        have O3 := O3.exn hN
        have Hb_b5_ := Hb_b5_n
        have hsz := Nat.le_trans hsz hN.size
        refine WP.cond rfl h60 (fun hb => ?_) (fun hb => ?_)
        · have hF := (if_pos hb).symm.trans hF
          obtain ⟨l, hl, hF⟩ := obind hF
          refine WP.region mixed [[], [], [1], [0, 1, 2], [0, 3]] [[], [], [1], [0, 2], [3]] [[3], [5], [], [], []] [3] []
            [val 61 (v3_), val 62 (Right.val (⟨z, i64 (1 + z2), i64 (1 + z3), max 1 z4⟩ : Right)), (63, fun u wz => ∃ b, u = .slice (some ⟨b, 0, none⟩) 1 1 ∧ w17.heap.size ≤ b ∧ Mb wz b 43 (([(⟨z, i64 (1 + z2), i64 (1 + z3), max 1 z4⟩ : Right)]).flatMap Right.cells)), (64, fun u wz => Own w0.heap.size 43 4 Right.cells wz u l ∧ ∀ b, u.ownBlock = some b → (v3_.ownBlock = some b ∨ w17.heap.size ≤ b)), (3, fun u wz => Own w0.heap.size 43 4 Right.cells wz u l ∧ ∀ b, u.ownBlock = some b → (v3_.ownBlock = some b ∨ w17.heap.size ≤ b))] (fun b => Value.ownBlock v3_ = some b) (by kernel_rfl)
            ⟨Stable.val _ _ _, Stable.val _ _ _, fun _ _ _ hE ⟨b, hz, hs, hM⟩ => ⟨b, hz, hs, hM.ext hE (fun hg => absurd (O3.lt hg).2 (Nat.not_lt.2 hs))⟩, fun _ _ _ hE ⟨hO, hf⟩ => ⟨hO.exn hE, hf⟩, fun _ _ _ hE ⟨hO, hf⟩ => ⟨hO.exn hE, hf⟩, trivial⟩
            ⟨fun ρz wz hE hA ⟨e3, _⟩ _ => core_val rfl rfl (o_move (e3.trans h3)),
     fun ρz wz hE hA ⟨e5, _⟩ _ => core_val rfl rfl (o_load (e5.trans h5) (run_loadN (cs := (Right.cells (⟨z, i64 (1 + z2), i64 (1 + z3), max 1 z4⟩ : Right))) (lr_43 _ _) rfl ((Hb_b5_.exn (hA rfl)).ca))),
     fun ρz wz hE hA _ ⟨u1, _⟩ => core_slice rfl rfl hE (o_buildSlice (build_parts1 u1) (bs_24_1 _ _)),
     fun ρz wz hE hA _ ⟨u0, ⟨bz2, hz2, hge2, hM2⟩, _⟩ => core_append (n := 4) (cells := Right.cells) (B := w0.heap.size) (w0 := w17) rfl rfl (fun b hb => hb) u0 hz2 (fun _ => rfl) one_43 si_24 se_43 (by decide) (by decide) (O3.exn (hA rfl)) ⟨_, (Mb.rep (n := 4) (cells := Right.cells) (hn := fun _ => rfl) (G := noG) hM2 rfl (Nat.le_of_ble_eq_true rfl) (fun h => h))⟩ hl (Nat.le_trans hsz hE.size) hE.size (fun v1 w1 h1 h2 => ⟨h1, h2⟩),
     fun ρz wz hE hA _ ⟨⟨hO3, hfr3⟩, _⟩ => core_copy rfl rfl (o_assign rfl) ⟨hO3, hfr3⟩, trivial⟩ ?_
          intro ρ18 w18 hE hN hf hr
          have h0 := (hr 0 rfl).trans h0
          obtain ⟨v3_3, h3⟩ : ∃ v, ρ18 3 = v := ⟨_, rfl⟩
          have hq3 : (fun u wz => Own w0.heap.size 43 4 Right.cells wz u l ∧ ∀ b, u.ownBlock = some b → (v3_.ownBlock = some b ∨ w17.heap.size ≤ b)) (ρ18 3) w18 := hf 4 rfl
          rw [h3] at hq3
          obtain ⟨hq3, hfr3⟩ := hq3
          have h4 := (hr 4 rfl).trans h4
          have Oo_O3 := O3
          have H_d_ := H_d_.over hE (fun b hb => (O3.lt hb).1)
          have hW := Ext.own hW hE (fun b hb => (O3.lt hb).1)
          have O3 := hq3
          have hsz := Nat.le_trans hsz hE.size
          exact ⟨l, v3_3, h0, h3, h4, H_d_, O3, hW, hsz, hF⟩
        · have hF := (if_neg (Bool.eq_false_iff.1 hb)).symm.trans hF
          refine WP.skip ?_
          exact ⟨x, v3_, h0, h3, h4, H_d_, O3, hW, hsz, hF⟩
    · rintro ρ6 w6 ⟨x3, v3_2, h0, h3, h4, H_d_, O3, hW, hsz, hF⟩
      rw [pensionlaw24_List_j] at hF
      refine WP.region mixed [[], [0], [0, 1]] [[], [0], [1]] [[4], [], []] [] []
        [val 12 (.int .i64 x2), val 13 (.int .i64 (i64 (x2 + 1))), val 4 (.int .i64 (i64 (x2 + 1)))] noG (by kernel_rfl)
        ⟨Stable.val _ _ _, Stable.val _ _ _, Stable.val _ _ _, trivial⟩
        ⟨fun ρz wz hE hA ⟨e4, _⟩ _ => core_val rfl rfl (o_move (e4.trans h4)),
     fun ρz wz hE hA _ ⟨u0, _⟩ => core_val rfl rfl (o_add u0 rfl rfl),
     fun ρz wz hE hA _ ⟨u1, _⟩ => core_val rfl rfl (o_assign u1), trivial⟩ ?_
      intro ρ7 w7 hE hN hf hr
      have hN := hN rfl
      have h0 := (hr 0 rfl).trans h0
      have h3 := (hr 3 rfl).trans h3
      have h4 : ρ7 4 = .int .i64 (i64 (x2 + 1)) := hf 2 rfl
      have Oo_O3 := O3
      have H_d__at0 := H_d_
      have H_d_ := H_d_.exn hN
      have hW := hW.trans hN
      have O3 := O3.exn hN
      have hsz := Nat.le_trans hsz hN.size
      exact ⟨x3, i64 (x2 + 1), v3_2, h0, h3, h4, H_d_, O3, hW, hsz, (by first | exact hF | (rw [hrec_]; exact hF))⟩
  · have hF := (if_neg (Bool.eq_false_iff.1 hb)).symm.trans hF
    refine WP.exit ?_
    refine thenQ_exit ?_
    refine thenQ_exit ?_
    refine blockQ_hit ?_
    refine WP.seq ?_
    refine WP.region mixed [[], [0]] [[], [0]] [[3], []] [] []
      [val 65 (v3_), val 2 (v3_)] noG (by kernel_rfl)
      ⟨Stable.val _ _ _, Stable.val _ _ _, trivial⟩
      ⟨fun ρz wz hE hA ⟨e3, _⟩ _ => core_val rfl rfl (o_move (e3.trans h3)),
     fun ρz wz hE hA _ ⟨u0, _⟩ => core_val rfl rfl (o_assign u0), trivial⟩ ?_
    intro ρ19 w19 hE hN hf hr
    have hN := hN rfl
    have h2 : ρ19 2 = v3_ := hf 1 rfl
    have Oo_O3 := O3
    have hW := hW.trans hN
    have O2 := O3.exn hN
    have hsz := Nat.le_trans hsz hN.size
    refine WP.ret ?_
    show retQ Tryd.prog 66 Tryd.f11 (fun v w1 => Own w0.heap.size 43 4 Right.cells w1 v r ∧ Ext noG w0 w1) .ret ρ19 w19
    obtain rfl := Option.some.inj hF
    exact res1 rfl (by decide) h2 ⟨O2, hW⟩

set_option maxHeartbeats 4000000 in
theorem cmp_Or_of_int_ok {w0 : World} (vals_ : List Int) {v_vals_ : Value} (H_vals_ : RepSl intR noG w0 v_vals_ vals_) {r : Int} (hF : cmp_Or_of_int vals_ = some r) :
    Calls Tryd.prog 31 #[v_vals_] w0 fun e w1 => e = .returned (.int .i64 r) ∧ Ext noG w0 w1 := by
  refine (Calls.start (P := Tryd.prog) (args := [v_vals_]) (R := fun v w1 => v = .int .i64 r ∧ Ext noG w0 w1) (n := 18) (w := w0) Tryd.func31 rfl rfl (Nat.le_of_ble_eq_true rfl) (fun ρ hargs => ?_)).mono (fun e w1 ⟨v, he, hv, hE⟩ => ⟨hv ▸ he, hE⟩)
  have h0 := hargs 0 _ rfl
  have hW := Ext.refl noG w0
  have hsz := Nat.le_refl w0.heap.size
  obtain ⟨_, _, hs_H_vals_, _, _⟩ := RepSl.shape H_vals_
  have H_vals_ := H_vals_.start
  rw [cmp_Or_of_int] at hF
  refine WP.seq ?_
  refine WP.region mixed [[]] [[]] [[]] [] []
    [val 2 (.int .i64 0)] noG (by kernel_rfl)
    ⟨Stable.val _ _ _, trivial⟩
    ⟨fun ρz wz hE hA _ _ => core_val rfl rfl (o_assign rfl), trivial⟩ ?_
  intro ρ1 w1 hE hN hf hr
  have hN := hN rfl
  have h0 := (hr 0 rfl).trans h0
  have H_vals__at0 := H_vals_
  have H_vals_ := H_vals_.exn hN
  have hW := hW.trans hN
  have hsz := Nat.le_trans hsz hN.size
  refine WP.seq ?_
  refine WP.region mixed [[]] [[]] [[]] [] []
    [val 3 (.int .i64 0)] noG (by kernel_rfl)
    ⟨Stable.val _ _ _, trivial⟩
    ⟨fun ρz wz hE hA _ _ => core_val rfl rfl (o_assign rfl), trivial⟩ ?_
  intro ρ2 w2 hE hN hf hr
  have hN := hN rfl
  have h0 := (hr 0 rfl).trans h0
  have h3 : ρ2 3 = .int .i64 0 := hf 0 rfl
  have H_vals__at0 := H_vals_
  have H_vals_ := H_vals_.exn hN
  have hW := hW.trans hN
  have hsz := Nat.le_trans hsz hN.size
  refine WP.seq ?_
  refine WP.seq ?_
  refine WP.region mixed [[], [0], []] [[], [0], []] [[0], [], []] [] []
    [val 6 (v_vals_), val 7 (.int .i64 (vals_.length : Int)), val 8 (.int .i64 0)] noG (by kernel_rfl)
    ⟨Stable.val _ _ _, Stable.val _ _ _, Stable.val _ _ _, trivial⟩
    ⟨fun ρz wz hE hA ⟨e0, _⟩ _ => core_val rfl rfl (o_move (e0.trans h0)),
     fun ρz wz hE hA _ ⟨u0, _⟩ => core_val rfl rfl (o_len (u0.trans hs_H_vals_) len_23),
     fun ρz wz hE hA _ _ => core_val rfl rfl (o_move rfl), trivial⟩ ?_
  intro ρ3 w3 hE hN hf hr
  have hN := hN rfl
  have h3 := (hr 3 rfl).trans h3
  have h6 : ρ3 6 = v_vals_ := hf 0 rfl
  have h7 : ρ3 7 = .int .i64 (vals_.length : Int) := hf 1 rfl
  have h8 : ρ3 8 = .int .i64 0 := hf 2 rfl
  have H_vals__at0 := H_vals_
  have H_vals_ := H_vals_.exn hN
  have hW := hW.trans hN
  have hsz := Nat.le_trans hsz hN.size
  refine WP.block ?_
  refine WP.loop (fun k_ ρ w => ∃ x : Int, ρ 3 = .int .i64 0 ∧ ρ 6 = v_vals_ ∧ ρ 7 = .int .i64 (vals_.length : Int) ∧ ρ 8 = .int .i64 x ∧ RepSl intR (gfr noG w0) w v_vals_ vals_ ∧ Ext noG w0 w ∧ w0.heap.size ≤ w.heap.size ∧ loopC k_ (cmp_Or_of_int_l vals_) x = some r) FU ⟨0, h3, h6, h7, h8, H_vals_, hW, hsz, hF⟩ (fun _ _ h => by obtain ⟨_, _, _, _, _, _, _, _, h⟩ := h; cases h) ?_
  rintro k_ ρ4 w4 ⟨x, h3, h6, h7, h8, H_vals_, hW, hsz, hF⟩
  have hF : cmp_Or_of_int_l vals_ (loopC k_ (cmp_Or_of_int_l vals_)) x = some r := hF
  generalize hrec_ : loopC k_ (cmp_Or_of_int_l vals_) = rec_ at hF
  rw [cmp_Or_of_int_l] at hF
  refine WP.seq ?_
  refine WP.region mixed [[]] [[]] [[8, 7]] [] []
    [val 9 (.bool (decide (x < (vals_.length : Int))))] noG (by kernel_rfl)
    ⟨Stable.val _ _ _, trivial⟩
    ⟨fun ρz wz hE hA ⟨e8, e7, _⟩ _ => core_val rfl rfl (o_lss (e8.trans h8) (e7.trans h7) rfl), trivial⟩ ?_
  intro ρ5 w5 hE hN hf hr
  have hN := hN rfl
  have h3 := (hr 3 rfl).trans h3
  have h6 := (hr 6 rfl).trans h6
  have h7 := (hr 7 rfl).trans h7
  have h8 := (hr 8 rfl).trans h8
  have h9 : ρ5 9 = .bool (decide (x < (vals_.length : Int))) := hf 0 rfl
  have H_vals__at0 := H_vals_
  have H_vals_ := H_vals_.exn hN
  have hW := hW.trans hN
  have hsz := Nat.le_trans hsz hN.size
  refine WP.seq ?_
  refine WP.cond rfl h9 (fun hb => ?_) (fun hb => ?_)
  · have hF := (if_pos hb).symm.trans hF
    refine WP.skip ?_
    refine WP.seq ?_
    refine WP.block ?_
    refine WP.seq ?_
    obtain ⟨y, hy, hF⟩ := obind hF
    obtain ⟨ay, cy, hvy, hiy, hAy⟩ := RepSl.getF H_vals_ hy
    refine WP.region mixed [[], [0], [1]] [[], [0], [1]] [[6, 8], [], []] [] []
      [val 10 (.pointer (some (ay.add (Int.toNat x * 1)))), val 11 (.int .i64 y), val 5 (.int .i64 y)] noG (by kernel_rfl)
      ⟨Stable.val _ _ _, Stable.val _ _ _, Stable.val _ _ _, trivial⟩
      ⟨fun ρz wz hE hA ⟨e6, e8, _⟩ _ => core_val rfl rfl (o_indexAddr ((e6.trans h6).trans hvy) (e8.trans h8) (ia_23 hiy)),
     fun ρz wz hE hA _ ⟨u0, _⟩ => core_val rfl rfl (o_load u0 (run_load1 (lr_3 _ _) ((hAy.exn (hA rfl)).ca))),
     fun ρz wz hE hA _ ⟨u1, _⟩ => core_val rfl rfl (o_assign u1), trivial⟩ ?_
    intro ρ6 w6 hE hN hf hr
    have hN := hN rfl
    have h3 := (hr 3 rfl).trans h3
    have h6 := (hr 6 rfl).trans h6
    have h7 := (hr 7 rfl).trans h7
    have h8 := (hr 8 rfl).trans h8
    have h5 : ρ6 5 = .int .i64 y := hf 2 rfl
    have H_vals__at0 := H_vals_
    have H_vals_ := H_vals_.exn hN
    have hW := hW.trans hN
    have hsz := Nat.le_trans hsz hN.size
    refine WP.seq ?_
    refine WP.region mixed [[], [], [0, 1]] [[], [], [0, 1]] [[5], [3], []] [] []
      [val 12 (.int .i64 y), val 13 (.int .i64 0), val 14 (.bool (y != 0))] noG (by kernel_rfl)
      ⟨Stable.val _ _ _, Stable.val _ _ _, Stable.val _ _ _, trivial⟩
      ⟨fun ρz wz hE hA ⟨e5, _⟩ _ => core_val rfl rfl (o_move (e5.trans h5)),
     fun ρz wz hE hA ⟨e3, _⟩ _ => core_val rfl rfl (o_move (e3.trans h3)),
     fun ρz wz hE hA _ ⟨u0, u1, _⟩ => core_val rfl rfl (o_neq u0 u1 rfl), trivial⟩ ?_
    intro ρ7 w7 hE hN hf hr
    have hN := hN rfl
    have h3 := (hr 3 rfl).trans h3
    have h6 := (hr 6 rfl).trans h6
    have h7 := (hr 7 rfl).trans h7
    have h8 := (hr 8 rfl).trans h8
    have h5 := (hr 5 rfl).trans h5
    have h14 : ρ7 14 = .bool (y != 0) := hf 2 rfl
    have H_vals__at0 := H_vals_
    have H_vals_ := H_vals_.exn hN
    have hW := hW.trans hN
    have hsz := Nat.le_trans hsz hN.size
    refine WP.cond rfl h14 (fun hb => ?_) (fun hb => ?_)
    · have hF := (if_pos hb).symm.trans hF
      refine WP.seq ?_
      refine WP.region mixed [[], [0]] [[], [0]] [[5], []] [] []
        [val 15 (.int .i64 y), val 2 (.int .i64 y)] noG (by kernel_rfl)
        ⟨Stable.val _ _ _, Stable.val _ _ _, trivial⟩
        ⟨fun ρz wz hE hA ⟨e5, _⟩ _ => core_val rfl rfl (o_move (e5.trans h5)),
     fun ρz wz hE hA _ ⟨u0, _⟩ => core_val rfl rfl (o_assign u0), trivial⟩ ?_
      intro ρ8 w8 hE hN hf hr
      have hN := hN rfl
      have h2 : ρ8 2 = .int .i64 y := hf 1 rfl
      have hW := hW.trans hN
      have hsz := Nat.le_trans hsz hN.size
      refine WP.ret ?_
      show retQ Tryd.prog 18 Tryd.f31 (fun v w1 => v = .int .i64 r ∧ Ext noG w0 w1) .ret ρ8 w8
      obtain rfl := Option.some.inj hF
      exact res1 rfl (by decide) h2 ⟨rfl, hW⟩
    · have hF := (if_neg (Bool.eq_false_iff.1 hb)).symm.trans hF
      refine WP.skip ?_
      refine WP.region mixed [[], [0]] [[], [0]] [[8], []] [] []
        [val 16 (.int .i64 (i64 (x + 1))), val 8 (.int .i64 (i64 (x + 1)))] noG (by kernel_rfl)
        ⟨Stable.val _ _ _, Stable.val _ _ _, trivial⟩
        ⟨fun ρz wz hE hA ⟨e8, _⟩ _ => core_val rfl rfl (o_add (e8.trans h8) rfl rfl),
     fun ρz wz hE hA _ ⟨u0, _⟩ => core_val rfl rfl (o_move u0), trivial⟩ ?_
      intro ρ9 w9 hE hN hf hr
      have hN := hN rfl
      have h3 := (hr 3 rfl).trans h3
      have h6 := (hr 6 rfl).trans h6
      have h7 := (hr 7 rfl).trans h7
      have h8 : ρ9 8 = .int .i64 (i64 (x + 1)) := hf 1 rfl
      have H_vals__at0 := H_vals_
      have H_vals_ := H_vals_.exn hN
      have hW := hW.trans hN
      have hsz := Nat.le_trans hsz hN.size
      exact ⟨i64 (x + 1), h3, h6, h7, h8, H_vals_, hW, hsz, (by first | exact hF | (rw [hrec_]; exact hF))⟩
  · have hF := (if_neg (Bool.eq_false_iff.1 hb)).symm.trans hF
    refine WP.exit ?_
    refine thenQ_exit ?_
    refine thenQ_exit ?_
    refine blockQ_hit ?_
    refine WP.seq ?_
    refine WP.region mixed [[], [0]] [[], [0]] [[3], []] [] []
      [val 17 (.int .i64 0), val 2 (.int .i64 0)] noG (by kernel_rfl)
      ⟨Stable.val _ _ _, Stable.val _ _ _, trivial⟩
      ⟨fun ρz wz hE hA ⟨e3, _⟩ _ => core_val rfl rfl (o_move (e3.trans h3)),
     fun ρz wz hE hA _ ⟨u0, _⟩ => core_val rfl rfl (o_assign u0), trivial⟩ ?_
    intro ρ10 w10 hE hN hf hr
    have hN := hN rfl
    have h2 : ρ10 2 = .int .i64 0 := hf 1 rfl
    have hW := hW.trans hN
    have hsz := Nat.le_trans hsz hN.size
    refine WP.ret ?_
    show retQ Tryd.prog 18 Tryd.f31 (fun v w1 => v = .int .i64 r ∧ Ext noG w0 w1) .ret ρ10 w10
    obtain rfl := Option.some.inj hF
    exact res1 rfl (by decide) h2 ⟨rfl, hW⟩

set_option maxHeartbeats 4000000 in
theorem bits_Len64_ok {w0 : World} (x_ : Int) {r : Int} (hF : bits_Len64 x_ = some r) :
    Calls Tryd.prog 79 #[.int .u64 x_] w0 fun e w1 => e = .returned (.int .i64 r) ∧ Ext noG w0 w1 := by
  refine (Calls.start (P := Tryd.prog) (args := [.int .u64 x_]) (R := fun v w1 => v = .int .i64 r ∧ Ext noG w0 w1) (n := 25) (w := w0) Tryd.func79 rfl rfl (Nat.le_of_ble_eq_true rfl) (fun ρ hargs => ?_)).mono (fun e w1 ⟨v, he, hv, hE⟩ => ⟨hv ▸ he, hE⟩)
  have h0 := hargs 0 _ rfl
  have hW := Ext.refl noG w0
  have hsz := Nat.le_refl w0.heap.size
  rw [bits_Len64] at hF
  refine WP.seq ?_
  refine WP.region mixed [[]] [[]] [[]] [] []
    [val 2 (.int .i64 0)] noG (by kernel_rfl)
    ⟨Stable.val _ _ _, trivial⟩
    ⟨fun ρz wz hE hA _ _ => core_val rfl rfl (o_assign rfl), trivial⟩ ?_
  intro ρ1 w1 hE hN hf hr
  have hN := hN rfl
  have h0 := (hr 0 rfl).trans h0
  have h2 : ρ1 2 = .int .i64 0 := hf 0 rfl
  have hW := hW.trans hN
  have hsz := Nat.le_trans hsz hN.size
  refine WP.seqJ (fun ρ w => ∃ x_2 : Int, ∃ n_ : Int, ρ 0 = .int .u64 x_2 ∧ ρ 2 = .int .i64 n_ ∧ Ext noG w0 w ∧ w0.heap.size ≤ w.heap.size ∧ bits_Len64_j x_2 n_ = some r) ?_ ?_
  · refine WP.seq ?_
    refine WP.region mixed [[], [0]] [[], [0]] [[0], []] [] []
      [val 3 (.int .u64 x_), val 4 (.bool (decide (4294967296 ≤ x_)))] noG (by kernel_rfl)
      ⟨Stable.val _ _ _, Stable.val _ _ _, trivial⟩
      ⟨fun ρz wz hE hA ⟨e0, _⟩ _ => core_val rfl rfl (o_move (e0.trans h0)),
     fun ρz wz hE hA _ ⟨u0, _⟩ => core_val rfl rfl (o_geq u0 rfl rfl), trivial⟩ ?_
    intro ρ12 w12 hE hN hf hr
    have hN := hN rfl
    have h0 := (hr 0 rfl).trans h0
    have h2 := (hr 2 rfl).trans h2
    have h4 : ρ12 4 = .bool (decide (4294967296 ≤ x_)) := hf 1 rfl
    have hW := hW.trans hN
    have hsz := Nat.le_trans hsz hN.size
    refine WP.cond rfl h4 (fun hb => ?_) (fun hb => ?_)
    · have hF := (if_pos hb).symm.trans hF
      refine WP.seq ?_
      refine WP.region mixed [[], [0], [0, 1]] [[], [0], [1]] [[0], [], []] [] []
        [val 5 (.int .u64 x_), val 6 (.int .u64 (shrK .u64 x_ 32)), val 0 (.int .u64 (shrK .u64 x_ 32))] noG (by kernel_rfl)
        ⟨Stable.val _ _ _, Stable.val _ _ _, Stable.val _ _ _, trivial⟩
        ⟨fun ρz wz hE hA ⟨e0, _⟩ _ => core_val rfl rfl (o_move (e0.trans h0)),
     fun ρz wz hE hA _ ⟨u0, _⟩ => core_val rfl rfl (o_shr u0 rfl (by decide) rfl),
     fun ρz wz hE hA _ ⟨u1, _⟩ => core_val rfl rfl (o_assign u1), trivial⟩ ?_
      intro ρ13 w13 hE hN hf hr
      have hN := hN rfl
      have h0 : ρ13 0 = .int .u64 (shrK .u64 x_ 32) := hf 2 rfl
      have hW := hW.trans hN
      have hsz := Nat.le_trans hsz hN.size
      refine WP.region mixed [[]] [[]] [[]] [] []
        [val 2 (.int .i64 32)] noG (by kernel_rfl)
        ⟨Stable.val _ _ _, trivial⟩
        ⟨fun ρz wz hE hA _ _ => core_val rfl rfl (o_assign rfl), trivial⟩ ?_
      intro ρ14 w14 hE hN hf hr
      have hN := hN rfl
      have h0 := (hr 0 rfl).trans h0
      have h2 : ρ14 2 = .int .i64 32 := hf 0 rfl
      have hW := hW.trans hN
      have hsz := Nat.le_trans hsz hN.size
      exact ⟨shrK .u64 x_ 32, 32, h0, h2, hW, hsz, hF⟩
    · have hF := (if_neg (Bool.eq_false_iff.1 hb)).symm.trans hF
      refine WP.skip ?_
      exact ⟨x_, 0, h0, h2, hW, hsz, hF⟩
  · rintro ρ2 w2 ⟨x_2, n_, h0, h2, hW, hsz, hF⟩
    rw [bits_Len64_j] at hF
    refine WP.seqJ (fun ρ w => ∃ x_3 : Int, ∃ n_2 : Int, ρ 0 = .int .u64 x_3 ∧ ρ 2 = .int .i64 n_2 ∧ Ext noG w0 w ∧ w0.heap.size ≤ w.heap.size ∧ bits_Len64_j2 x_3 n_2 = some r) ?_ ?_
    · refine WP.seq ?_
      refine WP.region mixed [[], [0]] [[], [0]] [[0], []] [] []
        [val 7 (.int .u64 x_2), val 8 (.bool (decide (65536 ≤ x_2)))] noG (by kernel_rfl)
        ⟨Stable.val _ _ _, Stable.val _ _ _, trivial⟩
        ⟨fun ρz wz hE hA ⟨e0, _⟩ _ => core_val rfl rfl (o_move (e0.trans h0)),
     fun ρz wz hE hA _ ⟨u0, _⟩ => core_val rfl rfl (o_geq u0 rfl rfl), trivial⟩ ?_
      intro ρ9 w9 hE hN hf hr
      have hN := hN rfl
      have h0 := (hr 0 rfl).trans h0
      have h2 := (hr 2 rfl).trans h2
      have h8 : ρ9 8 = .bool (decide (65536 ≤ x_2)) := hf 1 rfl
      have hW := hW.trans hN
      have hsz := Nat.le_trans hsz hN.size
      refine WP.cond rfl h8 (fun hb => ?_) (fun hb => ?_)
      · have hF := (if_pos hb).symm.trans hF
        refine WP.seq ?_
        refine WP.region mixed [[], [0], [0, 1]] [[], [0], [1]] [[0], [], []] [] []
          [val 9 (.int .u64 x_2), val 10 (.int .u64 (shrK .u64 x_2 16)), val 0 (.int .u64 (shrK .u64 x_2 16))] noG (by kernel_rfl)
          ⟨Stable.val _ _ _, Stable.val _ _ _, Stable.val _ _ _, trivial⟩
          ⟨fun ρz wz hE hA ⟨e0, _⟩ _ => core_val rfl rfl (o_move (e0.trans h0)),
     fun ρz wz hE hA _ ⟨u0, _⟩ => core_val rfl rfl (o_shr u0 rfl (by decide) rfl),
     fun ρz wz hE hA _ ⟨u1, _⟩ => core_val rfl rfl (o_assign u1), trivial⟩ ?_
        intro ρ10 w10 hE hN hf hr
        have hN := hN rfl
        have h0 : ρ10 0 = .int .u64 (shrK .u64 x_2 16) := hf 2 rfl
        have h2 := (hr 2 rfl).trans h2
        have hW := hW.trans hN
        have hsz := Nat.le_trans hsz hN.size
        refine WP.region mixed [[], [0], [0, 1]] [[], [0], [1]] [[2], [], []] [] []
          [val 11 (.int .i64 n_), val 12 (.int .i64 (i64 (n_ + 16))), val 2 (.int .i64 (i64 (n_ + 16)))] noG (by kernel_rfl)
          ⟨Stable.val _ _ _, Stable.val _ _ _, Stable.val _ _ _, trivial⟩
          ⟨fun ρz wz hE hA ⟨e2, _⟩ _ => core_val rfl rfl (o_move (e2.trans h2)),
     fun ρz wz hE hA _ ⟨u0, _⟩ => core_val rfl rfl (o_add u0 rfl rfl),
     fun ρz wz hE hA _ ⟨u1, _⟩ => core_val rfl rfl (o_assign u1), trivial⟩ ?_
        intro ρ11 w11 hE hN hf hr
        have hN := hN rfl
        have h0 := (hr 0 rfl).trans h0
        have h2 : ρ11 2 = .int .i64 (i64 (n_ + 16)) := hf 2 rfl
        have hW := hW.trans hN
        have hsz := Nat.le_trans hsz hN.size
        exact ⟨shrK .u64 x_2 16, i64 (n_ + 16), h0, h2, hW, hsz, hF⟩
      · have hF := (if_neg (Bool.eq_false_iff.1 hb)).symm.trans hF
        refine WP.skip ?_
        exact ⟨x_2, n_, h0, h2, hW, hsz, hF⟩
    · rintro ρ3 w3 ⟨x_3, n_2, h0, h2, hW, hsz, hF⟩
      rw [bits_Len64_j2] at hF
      refine WP.seqJ (fun ρ w => ∃ x_4 : Int, ∃ n_3 : Int, ρ 0 = .int .u64 x_4 ∧ ρ 2 = .int .i64 n_3 ∧ Ext noG w0 w ∧ w0.heap.size ≤ w.heap.size ∧ bits_Len64_j3 x_4 n_3 = some r) ?_ ?_
      · refine WP.seq ?_
        refine WP.region mixed [[], [0]] [[], [0]] [[0], []] [] []
          [val 13 (.int .u64 x_3), val 14 (.bool (decide (256 ≤ x_3)))] noG (by kernel_rfl)
          ⟨Stable.val _ _ _, Stable.val _ _ _, trivial⟩
          ⟨fun ρz wz hE hA ⟨e0, _⟩ _ => core_val rfl rfl (o_move (e0.trans h0)),
     fun ρz wz hE hA _ ⟨u0, _⟩ => core_val rfl rfl (o_geq u0 rfl rfl), trivial⟩ ?_
        intro ρ6 w6 hE hN hf hr
        have hN := hN rfl
        have h0 := (hr 0 rfl).trans h0
        have h2 := (hr 2 rfl).trans h2
        have h14 : ρ6 14 = .bool (decide (256 ≤ x_3)) := hf 1 rfl
        have hW := hW.trans hN
        have hsz := Nat.le_trans hsz hN.size
        refine WP.cond rfl h14 (fun hb => ?_) (fun hb => ?_)
        · have hF := (if_pos hb).symm.trans hF
          refine WP.seq ?_
          refine WP.region mixed [[], [0], [0, 1]] [[], [0], [1]] [[0], [], []] [] []
            [val 15 (.int .u64 x_3), val 16 (.int .u64 (shrK .u64 x_3 8)), val 0 (.int .u64 (shrK .u64 x_3 8))] noG (by kernel_rfl)
            ⟨Stable.val _ _ _, Stable.val _ _ _, Stable.val _ _ _, trivial⟩
            ⟨fun ρz wz hE hA ⟨e0, _⟩ _ => core_val rfl rfl (o_move (e0.trans h0)),
     fun ρz wz hE hA _ ⟨u0, _⟩ => core_val rfl rfl (o_shr u0 rfl (by decide) rfl),
     fun ρz wz hE hA _ ⟨u1, _⟩ => core_val rfl rfl (o_assign u1), trivial⟩ ?_
          intro ρ7 w7 hE hN hf hr
          have hN := hN rfl
          have h0 : ρ7 0 = .int .u64 (shrK .u64 x_3 8) := hf 2 rfl
          have h2 := (hr 2 rfl).trans h2
          have hW := hW.trans hN
          have hsz := Nat.le_trans hsz hN.size
          refine WP.region mixed [[], [0], [0, 1]] [[], [0], [1]] [[2], [], []] [] []
            [val 17 (.int .i64 n_2), val 18 (.int .i64 (i64 (n_2 + 8))), val 2 (.int .i64 (i64 (n_2 + 8)))] noG (by kernel_rfl)
            ⟨Stable.val _ _ _, Stable.val _ _ _, Stable.val _ _ _, trivial⟩
            ⟨fun ρz wz hE hA ⟨e2, _⟩ _ => core_val rfl rfl (o_move (e2.trans h2)),
     fun ρz wz hE hA _ ⟨u0, _⟩ => core_val rfl rfl (o_add u0 rfl rfl),
     fun ρz wz hE hA _ ⟨u1, _⟩ => core_val rfl rfl (o_assign u1), trivial⟩ ?_
          intro ρ8 w8 hE hN hf hr
          have hN := hN rfl
          have h0 := (hr 0 rfl).trans h0
          have h2 : ρ8 2 = .int .i64 (i64 (n_2 + 8)) := hf 2 rfl
          have hW := hW.trans hN
          have hsz := Nat.le_trans hsz hN.size
          exact ⟨shrK .u64 x_3 8, i64 (n_2 + 8), h0, h2, hW, hsz, hF⟩
        · have hF := (if_neg (Bool.eq_false_iff.1 hb)).symm.trans hF
          refine WP.skip ?_
          exact ⟨x_3, n_2, h0, h2, hW, hsz, hF⟩
      · rintro ρ4 w4 ⟨x_4, n_3, h0, h2, hW, hsz, hF⟩
        rw [bits_Len64_j3] at hF
        refine WP.seq ?_
        obtain ⟨y, hy, hF⟩ := obind hF
        refine WP.region mixed [[], [], [1], [2], [3], [0, 4], [0, 5]] [[], [], [1], [2], [3], [0, 4], [5]] [[2], [0], [], [], [], [], []] [] []
          [val 19 (.int .i64 n_3), val 20 (.int .u64 x_4), val 21 (.int .u8 ((IntKind.u8.wrap) x_4)), val 22 (.int .u8 y), val 23 (.int .i64 (i64 y)), val 24 (.int .i64 (i64 (n_3 + i64 y))), val 2 (.int .i64 (i64 (n_3 + i64 y)))] noG (by kernel_rfl)
          ⟨Stable.val _ _ _, Stable.val _ _ _, Stable.val _ _ _, Stable.val _ _ _, Stable.val _ _ _, Stable.val _ _ _, Stable.val _ _ _, trivial⟩
          ⟨fun ρz wz hE hA ⟨e2, _⟩ _ => core_val rfl rfl (o_move (e2.trans h2)),
     fun ρz wz hE hA ⟨e0, _⟩ _ => core_val rfl rfl (o_move (e0.trans h0)),
     fun ρz wz hE hA _ ⟨u1, _⟩ => core_val rfl rfl (o_conv u1 (cv_62_5 _ _)),
     fun ρz wz hE hA _ ⟨u2, _⟩ => core_val rfl rfl (o_index rfl u2 (by kernel_rfl) hy),
     fun ρz wz hE hA _ ⟨u3, _⟩ => core_val rfl rfl (o_conv u3 (cv_5_3 _ _)),
     fun ρz wz hE hA _ ⟨u0, u4, _⟩ => core_val rfl rfl (o_add u0 u4 rfl),
     fun ρz wz hE hA _ ⟨u5, _⟩ => core_val rfl rfl (o_assign u5), trivial⟩ ?_
        intro ρ5 w5 hE hN hf hr
        have hN := hN rfl
        have h2 : ρ5 2 = .int .i64 (i64 (n_3 + i64 y)) := hf 6 rfl
        have hW := hW.trans hN
        have hsz := Nat.le_trans hsz hN.size
        refine WP.ret ?_
        show retQ Tryd.prog 25 Tryd.f79 (fun v w1 => v = .int .i64 r ∧ Ext noG w0 w1) .ret ρ5 w5
        obtain rfl := Option.some.inj hF
        exact res1 rfl (by decide) h2 ⟨rfl, hW⟩

set_option maxHeartbeats 4000000 in
theorem bits_LeadingZeros64_ok {w0 : World} (x_ : Int) {r : Int} (hF : bits_LeadingZeros64 x_ = some r) :
    Calls Tryd.prog 90 #[.int .u64 x_] w0 fun e w1 => e = .returned (.int .i64 r) ∧ Ext noG w0 w1 := by
  refine (Calls.start (P := Tryd.prog) (args := [.int .u64 x_]) (R := fun v w1 => v = .int .i64 r ∧ Ext noG w0 w1) (n := 6) (w := w0) Tryd.func90 rfl rfl (Nat.le_of_ble_eq_true rfl) (fun ρ hargs => ?_)).mono (fun e w1 ⟨v, he, hv, hE⟩ => ⟨hv ▸ he, hE⟩)
  have h0 := hargs 0 _ rfl
  have hW := Ext.refl noG w0
  have hsz := Nat.le_refl w0.heap.size
  rw [bits_LeadingZeros64] at hF
  refine WP.seq ?_
  refine WP.region mixed [[]] [[]] [[]] [] []
    [val 2 (.int .i64 0)] noG (by kernel_rfl)
    ⟨Stable.val _ _ _, trivial⟩
    ⟨fun ρz wz hE hA _ _ => core_val rfl rfl (o_assign rfl), trivial⟩ ?_
  intro ρ1 w1 hE hN hf hr
  have hN := hN rfl
  have h0 := (hr 0 rfl).trans h0
  have hW := hW.trans hN
  have hsz := Nat.le_trans hsz hN.size
  refine WP.seq ?_
  obtain ⟨z, hz, hF⟩ := obind hF
  refine WP.region mixed [[], [0], [1], [2]] [[], [0], [1], [2]] [[0], [], [], []] [] []
    [val 3 (.int .u64 x_), val 4 (.int .i64 z), val 5 (.int .i64 (i64 (64 - z))), val 2 (.int .i64 (i64 (64 - z)))] noG (by kernel_rfl)
    ⟨Stable.val _ _ _, Stable.val _ _ _, Stable.val _ _ _, Stable.val _ _ _, trivial⟩
    ⟨fun ρz wz hE hA ⟨e0, _⟩ _ => core_val rfl rfl (o_move (e0.trans h0)),
     fun ρz wz hE hA _ ⟨u0, _⟩ => core_call rfl (call_args1 u0) cf_79 (bits_Len64_ok  _  hz),
     fun ρz wz hE hA _ ⟨u1, _⟩ => core_val rfl rfl (o_sub rfl u1 rfl),
     fun ρz wz hE hA _ ⟨u2, _⟩ => core_val rfl rfl (o_assign u2), trivial⟩ ?_
  intro ρ2 w2 hE hN hf hr
  have hN := hN rfl
  have h2 : ρ2 2 = .int .i64 (i64 (64 - z)) := hf 3 rfl
  have hW := hW.trans hN
  have hsz := Nat.le_trans hsz hN.size
  refine WP.ret ?_
  show retQ Tryd.prog 6 Tryd.f90 (fun v w1 => v = .int .i64 r ∧ Ext noG w0 w1) .ret ρ2 w2
  obtain rfl := Option.some.inj hF
  exact res1 rfl (by decide) h2 ⟨rfl, hW⟩
end Go.PL
