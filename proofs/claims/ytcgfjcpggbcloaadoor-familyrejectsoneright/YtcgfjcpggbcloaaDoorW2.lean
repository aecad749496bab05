/- The translated code computes the Lean functions (printed by a program). -/
import Derived.Test.YtcgfjcpggbcloaaDoorW1
set_option linter.unusedVariables false
set_option linter.unusedSimpArgs false
set_option maxRecDepth 10000
namespace Go.PL
open Go Go.Proofs

set_option maxHeartbeats 4000000 in
theorem bits_Mul64_ok {w0 : World} (x_ : Int) (y_ : Int) {r : Int × Int} (hF : bits_Mul64 x_ y_ = some r) :
    Calls Tryd.prog 50 #[.int .u64 x_, .int .u64 y_] w0 fun e w1 => e = .returned (.tuple #[.int .u64 r.1, .int .u64 r.2]) ∧ Ext noG w0 w1 := by
  refine (Calls.start (P := Tryd.prog) (args := [.int .u64 x_, .int .u64 y_]) (R := fun v w1 => v = .tuple #[.int .u64 r.1, .int .u64 r.2] ∧ Ext noG w0 w1) (n := 51) (w := w0) Tryd.func50 rfl rfl (Nat.le_of_ble_eq_true rfl) (fun ρ hargs => ?_)).mono (fun e w1 ⟨v, he, hv, hE⟩ => ⟨hv ▸ he, hE⟩)
  have h0 := hargs 0 _ rfl
  have h1 := hargs 1 _ rfl
  have hW := Ext.refl noG w0
  have hsz := Nat.le_refl w0.heap.size
  rw [bits_Mul64] at hF
  refine WP.seq ?_
  refine WP.region mixed [[], []] [[], []] [[], []] [] []
    [val 4 (.int .u64 0), val 5 (.int .u64 0)] noG (by kernel_rfl)
    ⟨Stable.val _ _ _, Stable.val _ _ _, trivial⟩
    ⟨fun ρz wz hE hA _ _ => core_val rfl rfl (o_assign rfl),
     fun ρz wz hE hA _ _ => core_val rfl rfl (o_assign rfl), trivial⟩ ?_
  intro ρ1 w1 hE hN hf hr
  have hN := hN rfl
  have h0 := (hr 0 rfl).trans h0
  have h1 := (hr 1 rfl).trans h1
  have hW := hW.trans hN
  have hsz := Nat.le_trans hsz hN.size
  refine WP.seq ?_
  refine WP.region mixed [[], [0], [1]] [[], [0], [1]] [[0], [], []] [] []
    [val 14 (.int .u64 x_), val 15 (.int .u64 (andK .u64 x_ 4294967295)), val 6 (.int .u64 (andK .u64 x_ 4294967295))] noG (by kernel_rfl)
    ⟨Stable.val _ _ _, Stable.val _ _ _, Stable.val _ _ _, trivial⟩
    ⟨fun ρz wz hE hA ⟨e0, _⟩ _ => core_val rfl rfl (o_move (e0.trans h0)),
     fun ρz wz hE hA _ ⟨u0, _⟩ => core_val rfl rfl (o_and u0 rfl rfl),
     fun ρz wz hE hA _ ⟨u1, _⟩ => core_val rfl rfl (o_assign u1), trivial⟩ ?_
  intro ρ2 w2 hE hN hf hr
  have hN := hN rfl
  have h0 := (hr 0 rfl).trans h0
  have h1 := (hr 1 rfl).trans h1
  have h6 : ρ2 6 = .int .u64 (andK .u64 x_ 4294967295) := hf 2 rfl
  have hW := hW.trans hN
  have hsz := Nat.le_trans hsz hN.size
  refine WP.seq ?_
  refine WP.region mixed [[], [0], [1]] [[], [0], [1]] [[0], [], []] [] []
    [val 16 (.int .u64 x_), val 17 (.int .u64 (shrK .u64 x_ 32)), val 7 (.int .u64 (shrK .u64 x_ 32))] noG (by kernel_rfl)
    ⟨Stable.val _ _ _, Stable.val _ _ _, Stable.val _ _ _, trivial⟩
    ⟨fun ρz wz hE hA ⟨e0, _⟩ _ => core_val rfl rfl (o_move (e0.trans h0)),
     fun ρz wz hE hA _ ⟨u0, _⟩ => core_val rfl rfl (o_shr u0 rfl (by decide) rfl),
     fun ρz wz hE hA _ ⟨u1, _⟩ => core_val rfl rfl (o_assign u1), trivial⟩ ?_
  intro ρ3 w3 hE hN hf hr
  have hN := hN rfl
  have h0 := (hr 0 rfl).trans h0
  have h1 := (hr 1 rfl).trans h1
  have h6 := (hr 6 rfl).trans h6
  have h7 : ρ3 7 = .int .u64 (shrK .u64 x_ 32) := hf 2 rfl
  have hW := hW.trans hN
  have hsz := Nat.le_trans hsz hN.size
  refine WP.seq ?_
  refine WP.region mixed [[], [0], [1]] [[], [0], [1]] [[1], [], []] [] []
    [val 18 (.int .u64 y_), val 19 (.int .u64 (andK .u64 y_ 4294967295)), val 8 (.int .u64 (andK .u64 y_ 4294967295))] noG (by kernel_rfl)
    ⟨Stable.val _ _ _, Stable.val _ _ _, Stable.val _ _ _, trivial⟩
    ⟨fun ρz wz hE hA ⟨e1, _⟩ _ => core_val rfl rfl (o_move (e1.trans h1)),
     fun ρz wz hE hA _ ⟨u0, _⟩ => core_val rfl rfl (o_and u0 rfl rfl),
     fun ρz wz hE hA _ ⟨u1, _⟩ => core_val rfl rfl (o_assign u1), trivial⟩ ?_
  intro ρ4 w4 hE hN hf hr
  have hN := hN rfl
  have h0 := (hr 0 rfl).trans h0
  have h1 := (hr 1 rfl).trans h1
  have h6 := (hr 6 rfl).trans h6
  have h7 := (hr 7 rfl).trans h7
  have h8 : ρ4 8 = .int .u64 (andK .u64 y_ 4294967295) := hf 2 rfl
  have hW := hW.trans hN
  have hsz := Nat.le_trans hsz hN.size
  refine WP.seq ?_
  refine WP.region mixed [[], [0], [1]] [[], [0], [1]] [[1], [], []] [] []
    [val 20 (.int .u64 y_), val 21 (.int .u64 (shrK .u64 y_ 32)), val 9 (.int .u64 (shrK .u64 y_ 32))] noG (by kernel_rfl)
    ⟨Stable.val _ _ _, Stable.val _ _ _, Stable.val _ _ _, trivial⟩
    ⟨fun ρz wz hE hA ⟨e1, _⟩ _ => core_val rfl rfl (o_move (e1.trans h1)),
     fun ρz wz hE hA _ ⟨u0, _⟩ => core_val rfl rfl (o_shr u0 rfl (by decide) rfl),
     fun ρz wz hE hA _ ⟨u1, _⟩ => core_val rfl rfl (o_assign u1), trivial⟩ ?_
  intro ρ5 w5 hE hN hf hr
  have hN := hN rfl
  have h0 := (hr 0 rfl).trans h0
  have h1 := (hr 1 rfl).trans h1
  have h6 := (hr 6 rfl).trans h6
  have h7 := (hr 7 rfl).trans h7
  have h8 := (hr 8 rfl).trans h8
  have h9 : ρ5 9 = .int .u64 (shrK .u64 y_ 32) := hf 2 rfl
  have hW := hW.trans hN
  have hsz := Nat.le_trans hsz hN.size
  refine WP.seq ?_
  refine WP.region mixed [[], [], [0, 1], [2]] [[], [], [0, 1], [2]] [[6], [8], [], []] [] []
    [val 22 (.int .u64 (andK .u64 x_ 4294967295)), val 23 (.int .u64 (andK .u64 y_ 4294967295)), val 24 (.int .u64 (u64 (andK .u64 x_ 4294967295 * (andK .u64 y_ 4294967295)))), val 10 (.int .u64 (u64 (andK .u64 x_ 4294967295 * (andK .u64 y_ 4294967295))))] noG (by kernel_rfl)
    ⟨Stable.val _ _ _, Stable.val _ _ _, Stable.val _ _ _, Stable.val _ _ _, trivial⟩
    ⟨fun ρz wz hE hA ⟨e6, _⟩ _ => core_val rfl rfl (o_move (e6.trans h6)),
     fun ρz wz hE hA ⟨e8, _⟩ _ => core_val rfl rfl (o_move (e8.trans h8)),
     fun ρz wz hE hA _ ⟨u0, u1, _⟩ => core_val rfl rfl (o_mul u0 u1 rfl),
     fun ρz wz hE hA _ ⟨u2, _⟩ => core_val rfl rfl (o_assign u2), trivial⟩ ?_
  intro ρ6 w6 hE hN hf hr
  have hN := hN rfl
  have h0 := (hr 0 rfl).trans h0
  have h1 := (hr 1 rfl).trans h1
  have h6 := (hr 6 rfl).trans h6
  have h7 := (hr 7 rfl).trans h7
  have h8 := (hr 8 rfl).trans h8
  have h9 := (hr 9 rfl).trans h9
  have h10 : ρ6 10 = .int .u64 (u64 (andK .u64 x_ 4294967295 * (andK .u64 y_ 4294967295))) := hf 3 rfl
  have hW := hW.trans hN
  have hsz := Nat.le_trans hsz hN.size
  refine WP.seq ?_
  refine WP.region mixed [[], [], [0, 1], [], [3], [2, 4], [5]] [[], [], [0, 1], [], [3], [2, 4], [5]] [[7], [8], [], [10], [], [], []] [] []
    [val 25 (.int .u64 (shrK .u64 x_ 32)), val 26 (.int .u64 (andK .u64 y_ 4294967295)), val 27 (.int .u64 (u64 (shrK .u64 x_ 32 * (andK .u64 y_ 4294967295)))), val 28 (.int .u64 (u64 (andK .u64 x_ 4294967295 * (andK .u64 y_ 4294967295)))), val 29 (.int .u64 (shrK .u64 (u64 (andK .u64 x_ 4294967295 * (andK .u64 y_ 4294967295))) 32)), val 30 (.int .u64 (u64 (u64 (shrK .u64 x_ 32 * (andK .u64 y_ 4294967295)) + shrK .u64 (u64 (andK .u64 x_ 4294967295 * (andK .u64 y_ 4294967295))) 32))), val 11 (.int .u64 (u64 (u64 (shrK .u64 x_ 32 * (andK .u64 y_ 4294967295)) + shrK .u64 (u64 (andK .u64 x_ 4294967295 * (andK .u64 y_ 4294967295))) 32)))] noG (by kernel_rfl)
    ⟨Stable.val _ _ _, Stable.val _ _ _, Stable.val _ _ _, Stable.val _ _ _, Stable.val _ _ _, Stable.val _ _ _, Stable.val _ _ _, trivial⟩
    ⟨fun ρz wz hE hA ⟨e7, _⟩ _ => core_val rfl rfl (o_move (e7.trans h7)),
     fun ρz wz hE hA ⟨e8, _⟩ _ => core_val rfl rfl (o_move (e8.trans h8)),
     fun ρz wz hE hA _ ⟨u0, u1, _⟩ => core_val rfl rfl (o_mul u0 u1 rfl),
     fun ρz wz hE hA ⟨e10, _⟩ _ => core_val rfl rfl (o_move (e10.trans h10)),
     fun ρz wz hE hA _ ⟨u3, _⟩ => core_val rfl rfl (o_shr u3 rfl (by decide) rfl),
     fun ρz wz hE hA _ ⟨u2, u4, _⟩ => core_val rfl rfl (o_add u2 u4 rfl),
     fun ρz wz hE hA _ ⟨u5, _⟩ => core_val rfl rfl (o_assign u5), trivial⟩ ?_
  intro ρ7 w7 hE hN hf hr
  have hN := hN rfl
  have h0 := (hr 0 rfl).trans h0
  have h1 := (hr 1 rfl).trans h1
  have h6 := (hr 6 rfl).trans h6
  have h7 := (hr 7 rfl).trans h7
  have h9 := (hr 9 rfl).trans h9
  have h11 : ρ7 11 = .int .u64 (u64 (u64 (shrK .u64 x_ 32 * (andK .u64 y_ 4294967295)) + shrK .u64 (u64 (andK .u64 x_ 4294967295 * (andK .u64 y_ 4294967295))) 32)) := hf 6 rfl
  have hW := hW.trans hN
  have hsz := Nat.le_trans hsz hN.size
  refine WP.seq ?_
  refine WP.region mixed [[], [0], [1]] [[], [0], [1]] [[11], [], []] [] []
    [val 31 (.int .u64 (u64 (u64 (shrK .u64 x_ 32 * (andK .u64 y_ 4294967295)) + shrK .u64 (u64 (andK .u64 x_ 4294967295 * (andK .u64 y_ 4294967295))) 32))), val 32 (.int .u64 (andK .u64 (u64 (u64 (shrK .u64 x_ 32 * (andK .u64 y_ 4294967295)) + shrK .u64 (u64 (andK .u64 x_ 4294967295 * (andK .u64 y_ 4294967295))) 32)) 4294967295)), val 12 (.int .u64 (andK .u64 (u64 (u64 (shrK .u64 x_ 32 * (andK .u64 y_ 4294967295)) + shrK .u64 (u64 (andK .u64 x_ 4294967295 * (andK .u64 y_ 4294967295))) 32)) 4294967295))] noG (by kernel_rfl)
    ⟨Stable.val _ _ _, Stable.val _ _ _, Stable.val _ _ _, trivial⟩
    ⟨fun ρz wz hE hA ⟨e11, _⟩ _ => core_val rfl rfl (o_move (e11.trans h11)),
     fun ρz wz hE hA _ ⟨u0, _⟩ => core_val rfl rfl (o_and u0 rfl rfl),
     fun ρz wz hE hA _ ⟨u1, _⟩ => core_val rfl rfl (o_assign u1), trivial⟩ ?_
  intro ρ8 w8 hE hN hf hr
  have hN := hN rfl
  have h0 := (hr 0 rfl).trans h0
  have h1 := (hr 1 rfl).trans h1
  have h6 := (hr 6 rfl).trans h6
  have h7 := (hr 7 rfl).trans h7
  have h9 := (hr 9 rfl).trans h9
  have h11 := (hr 11 rfl).trans h11
  have h12 : ρ8 12 = .int .u64 (andK .u64 (u64 (u64 (shrK .u64 x_ 32 * (andK .u64 y_ 4294967295)) + shrK .u64 (u64 (andK .u64 x_ 4294967295 * (andK .u64 y_ 4294967295))) 32)) 4294967295) := hf 2 rfl
  have hW := hW.trans hN
  have hsz := Nat.le_trans hsz hN.size
  refine WP.seq ?_
  refine WP.region mixed [[], [0], [1]] [[], [0], [1]] [[11], [], []] [] []
    [val 33 (.int .u64 (u64 (u64 (shrK .u64 x_ 32 * (andK .u64 y_ 4294967295)) + shrK .u64 (u64 (andK .u64 x_ 4294967295 * (andK .u64 y_ 4294967295))) 32))), val 34 (.int .u64 (shrK .u64 (u64 (u64 (shrK .u64 x_ 32 * (andK .u64 y_ 4294967295)) + shrK .u64 (u64 (andK .u64 x_ 4294967295 * (andK .u64 y_ 4294967295))) 32)) 32)), val 13 (.int .u64 (shrK .u64 (u64 (u64 (shrK .u64 x_ 32 * (andK .u64 y_ 4294967295)) + shrK .u64 (u64 (andK .u64 x_ 4294967295 * (andK .u64 y_ 4294967295))) 32)) 32))] noG (by kernel_rfl)
    ⟨Stable.val _ _ _, Stable.val _ _ _, Stable.val _ _ _, trivial⟩
    ⟨fun ρz wz hE hA ⟨e11, _⟩ _ => core_val rfl rfl (o_move (e11.trans h11)),
     fun ρz wz hE hA _ ⟨u0, _⟩ => core_val rfl rfl (o_shr u0 rfl (by decide) rfl),
     fun ρz wz hE hA _ ⟨u1, _⟩ => core_val rfl rfl (o_assign u1), trivial⟩ ?_
  intro ρ9 w9 hE hN hf hr
  have hN := hN rfl
  have h0 := (hr 0 rfl).trans h0
  have h1 := (hr 1 rfl).trans h1
  have h6 := (hr 6 rfl).trans h6
  have h7 := (hr 7 rfl).trans h7
  have h9 := (hr 9 rfl).trans h9
  have h12 := (hr 12 rfl).trans h12
  have h13 : ρ9 13 = .int .u64 (shrK .u64 (u64 (u64 (shrK .u64 x_ 32 * (andK .u64 y_ 4294967295)) + shrK .u64 (u64 (andK .u64 x_ 4294967295 * (andK .u64 y_ 4294967295))) 32)) 32) := hf 2 rfl
  have hW := hW.trans hN
  have hsz := Nat.le_trans hsz hN.size
  refine WP.seq ?_
  refine WP.region mixed [[], [], [], [1, 2], [0, 3], [0, 4]] [[], [], [], [1, 2], [0, 3], [4]] [[12], [6], [9], [], [], []] [] []
    [val 35 (.int .u64 (andK .u64 (u64 (u64 (shrK .u64 x_ 32 * (andK .u64 y_ 4294967295)) + shrK .u64 (u64 (andK .u64 x_ 4294967295 * (andK .u64 y_ 4294967295))) 32)) 4294967295)), val 36 (.int .u64 (andK .u64 x_ 4294967295)), val 37 (.int .u64 (shrK .u64 y_ 32)), val 38 (.int .u64 (u64 (andK .u64 x_ 4294967295 * (shrK .u64 y_ 32)))), val 39 (.int .u64 (u64 (andK .u64 (u64 (u64 (shrK .u64 x_ 32 * (andK .u64 y_ 4294967295)) + shrK .u64 (u64 (andK .u64 x_ 4294967295 * (andK .u64 y_ 4294967295))) 32)) 4294967295 + u64 (andK .u64 x_ 4294967295 * (shrK .u64 y_ 32))))), val 12 (.int .u64 (u64 (andK .u64 (u64 (u64 (shrK .u64 x_ 32 * (andK .u64 y_ 4294967295)) + shrK .u64 (u64 (andK .u64 x_ 4294967295 * (andK .u64 y_ 4294967295))) 32)) 4294967295 + u64 (andK .u64 x_ 4294967295 * (shrK .u64 y_ 32)))))] noG (by kernel_rfl)
    ⟨Stable.val _ _ _, Stable.val _ _ _, Stable.val _ _ _, Stable.val _ _ _, Stable.val _ _ _, Stable.val _ _ _, trivial⟩
    ⟨fun ρz wz hE hA ⟨e12, _⟩ _ => core_val rfl rfl (o_move (e12.trans h12)),
     fun ρz wz hE hA ⟨e6, _⟩ _ => core_val rfl rfl (o_move (e6.trans h6)),
     fun ρz wz hE hA ⟨e9, _⟩ _ => core_val rfl rfl (o_move (e9.trans h9)),
     fun ρz wz hE hA _ ⟨u1, u2, _⟩ => core_val rfl rfl (o_mul u1 u2 rfl),
     fun ρz wz hE hA _ ⟨u0, u3, _⟩ => core_val rfl rfl (o_add u0 u3 rfl),
     fun ρz wz hE hA _ ⟨u4, _⟩ => core_val rfl rfl (o_assign u4), trivial⟩ ?_
  intro ρ10 w10 hE hN hf hr
  have hN := hN rfl
  have h0 := (hr 0 rfl).trans h0
  have h1 := (hr 1 rfl).trans h1
  have h7 := (hr 7 rfl).trans h7
  have h9 := (hr 9 rfl).trans h9
  have h12 : ρ10 12 = .int .u64 (u64 (andK .u64 (u64 (u64 (shrK .u64 x_ 32 * (andK .u64 y_ 4294967295)) + shrK .u64 (u64 (andK .u64 x_ 4294967295 * (andK .u64 y_ 4294967295))) 32)) 4294967295 + u64 (andK .u64 x_ 4294967295 * (shrK .u64 y_ 32)))) := hf 5 rfl
  have h13 := (hr 13 rfl).trans h13
  have hW := hW.trans hN
  have hsz := Nat.le_trans hsz hN.size
  refine WP.seq ?_
  refine WP.region mixed [[], [], [0, 1], [], [2, 3], [], [5], [4, 6], [7]] [[], [], [0, 1], [], [2, 3], [], [5], [4, 6], [7]] [[7], [9], [], [13], [], [12], [], [], []] [] []
    [val 40 (.int .u64 (shrK .u64 x_ 32)), val 41 (.int .u64 (shrK .u64 y_ 32)), val 42 (.int .u64 (u64 (shrK .u64 x_ 32 * (shrK .u64 y_ 32)))), val 43 (.int .u64 (shrK .u64 (u64 (u64 (shrK .u64 x_ 32 * (andK .u64 y_ 4294967295)) + shrK .u64 (u64 (andK .u64 x_ 4294967295 * (andK .u64 y_ 4294967295))) 32)) 32)), val 44 (.int .u64 (u64 (u64 (shrK .u64 x_ 32 * (shrK .u64 y_ 32)) + shrK .u64 (u64 (u64 (shrK .u64 x_ 32 * (andK .u64 y_ 4294967295)) + shrK .u64 (u64 (andK .u64 x_ 4294967295 * (andK .u64 y_ 4294967295))) 32)) 32))), val 45 (.int .u64 (u64 (andK .u64 (u64 (u64 (shrK .u64 x_ 32 * (andK .u64 y_ 4294967295)) + shrK .u64 (u64 (andK .u64 x_ 4294967295 * (andK .u64 y_ 4294967295))) 32)) 4294967295 + u64 (andK .u64 x_ 4294967295 * (shrK .u64 y_ 32))))), val 46 (.int .u64 (shrK .u64 (u64 (andK .u64 (u64 (u64 (shrK .u64 x_ 32 * (andK .u64 y_ 4294967295)) + shrK .u64 (u64 (andK .u64 x_ 4294967295 * (andK .u64 y_ 4294967295))) 32)) 4294967295 + u64 (andK .u64 x_ 4294967295 * (shrK .u64 y_ 32)))) 32)), val 47 (.int .u64 (u64 (u64 (u64 (shrK .u64 x_ 32 * (shrK .u64 y_ 32)) + shrK .u64 (u64 (u64 (shrK .u64 x_ 32 * (andK .u64 y_ 4294967295)) + shrK .u64 (u64 (andK .u64 x_ 4294967295 * (andK .u64 y_ 4294967295))) 32)) 32) + shrK .u64 (u64 (andK .u64 (u64 (u64 (shrK .u64 x_ 32 * (andK .u64 y_ 4294967295)) + shrK .u64 (u64 (andK .u64 x_ 4294967295 * (andK .u64 y_ 4294967295))) 32)) 4294967295 + u64 (andK .u64 x_ 4294967295 * (shrK .u64 y_ 32)))) 32))), val 4 (.int .u64 (u64 (u64 (u64 (shrK .u64 x_ 32 * (shrK .u64 y_ 32)) + shrK .u64 (u64 (u64 (shrK .u64 x_ 32 * (andK .u64 y_ 4294967295)) + shrK .u64 (u64 (andK .u64 x_ 4294967295 * (andK .u64 y_ 4294967295))) 32)) 32) + shrK .u64 (u64 (andK .u64 (u64 (u64 (shrK .u64 x_ 32 * (andK .u64 y_ 4294967295)) + shrK .u64 (u64 (andK .u64 x_ 4294967295 * (andK .u64 y_ 4294967295))) 32)) 4294967295 + u64 (andK .u64 x_ 4294967295 * (shrK .u64 y_ 32)))) 32)))] noG (by kernel_rfl)
    ⟨Stable.val _ _ _, Stable.val _ _ _, Stable.val _ _ _, Stable.val _ _ _, Stable.val _ _ _, Stable.val _ _ _, Stable.val _ _ _, Stable.val _ _ _, Stable.val _ _ _, trivial⟩
    ⟨fun ρz wz hE hA ⟨e7, _⟩ _ => core_val rfl rfl (o_move (e7.trans h7)),
     fun ρz wz hE hA ⟨e9, _⟩ _ => core_val rfl rfl (o_move (e9.trans h9)),
     fun ρz wz hE hA _ ⟨u0, u1, _⟩ => core_val rfl rfl (o_mul u0 u1 rfl),
     fun ρz wz hE hA ⟨e13, _⟩ _ => core_val rfl rfl (o_move (e13.trans h13)),
     fun ρz wz hE hA _ ⟨u2, u3, _⟩ => core_val rfl rfl (o_add u2 u3 rfl),
     fun ρz wz hE hA ⟨e12, _⟩ _ => core_val rfl rfl (o_move (e12.trans h12)),
     fun ρz wz hE hA _ ⟨u5, _⟩ => core_val rfl rfl (o_shr u5 rfl (by decide) rfl),
     fun ρz wz hE hA _ ⟨u4, u6, _⟩ => core_val rfl rfl (o_add u4 u6 rfl),
     fun ρz wz hE hA _ ⟨u7, _⟩ => core_val rfl rfl (o_assign u7), trivial⟩ ?_
  intro ρ11 w11 hE hN hf hr
  have hN := hN rfl
  have h0 := (hr 0 rfl).trans h0
  have h1 := (hr 1 rfl).trans h1
  have h4 : ρ11 4 = .int .u64 (u64 (u64 (u64 (shrK .u64 x_ 32 * (shrK .u64 y_ 32)) + shrK .u64 (u64 (u64 (shrK .u64 x_ 32 * (andK .u64 y_ 4294967295)) + shrK .u64 (u64 (andK .u64 x_ 4294967295 * (andK .u64 y_ 4294967295))) 32)) 32) + shrK .u64 (u64 (andK .u64 (u64 (u64 (shrK .u64 x_ 32 * (andK .u64 y_ 4294967295)) + shrK .u64 (u64 (andK .u64 x_ 4294967295 * (andK .u64 y_ 4294967295))) 32)) 4294967295 + u64 (andK .u64 x_ 4294967295 * (shrK .u64 y_ 32)))) 32)) := hf 8 rfl
  have hW := hW.trans hN
  have hsz := Nat.le_trans hsz hN.size
  refine WP.seq ?_
  refine WP.region mixed [[], [], [0, 1], [2]] [[], [], [0, 1], [2]] [[0], [1], [], []] [] []
    [val 48 (.int .u64 x_), val 49 (.int .u64 y_), val 50 (.int .u64 (u64 (x_ * y_))), val 5 (.int .u64 (u64 (x_ * y_)))] noG (by kernel_rfl)
    ⟨Stable.val _ _ _, Stable.val _ _ _, Stable.val _ _ _, Stable.val _ _ _, trivial⟩
    ⟨fun ρz wz hE hA ⟨e0, _⟩ _ => core_val rfl rfl (o_move (e0.trans h0)),
     fun ρz wz hE hA ⟨e1, _⟩ _ => core_val rfl rfl (o_move (e1.trans h1)),
     fun ρz wz hE hA _ ⟨u0, u1, _⟩ => core_val rfl rfl (o_mul u0 u1 rfl),
     fun ρz wz hE hA _ ⟨u2, _⟩ => core_val rfl rfl (o_assign u2), trivial⟩ ?_
  intro ρ12 w12 hE hN hf hr
  have hN := hN rfl
  have h4 := (hr 4 rfl).trans h4
  have h5 : ρ12 5 = .int .u64 (u64 (x_ * y_)) := hf 3 rfl
  have hW := hW.trans hN
  have hsz := Nat.le_trans hsz hN.size
  refine WP.ret ?_
  show retQ Tryd.prog 51 Tryd.f50 (fun v w1 => v = .tuple #[.int .u64 r.1, .int .u64 r.2] ∧ Ext noG w0 w1) .ret ρ12 w12
  obtain rfl := Option.some.inj hF
  exact res2 rfl (by decide) (by decide) h4 h5 ⟨rfl, hW⟩

set_option maxHeartbeats 4000000 in
theorem bits_Div64_ok {w0 : World} (d_ : Int) (i_ : Int) (p_ : Int) {r : Int × Int} (hF : bits_Div64 d_ i_ p_ = some r) :
    Calls Tryd.prog 81 #[.int .u64 d_, .int .u64 i_, .int .u64 p_] w0 fun e w1 => e = .returned (.tuple #[.int .u64 r.1, .int .u64 r.2]) ∧ Ext noG w0 w1 := by
  refine (Calls.start (P := Tryd.prog) (args := [.int .u64 d_, .int .u64 i_, .int .u64 p_]) (R := fun v w1 => v = .tuple #[.int .u64 r.1, .int .u64 r.2] ∧ Ext noG w0 w1) (n := 135) (w := w0) Tryd.func81 rfl rfl (Nat.le_of_ble_eq_true rfl) (fun ρ hargs => ?_)).mono (fun e w1 ⟨v, he, hv, hE⟩ => ⟨hv ▸ he, hE⟩)
  have h0 := hargs 0 _ rfl
  have h1 := hargs 1 _ rfl
  have h2 := hargs 2 _ rfl
  have hW := Ext.refl noG w0
  have hsz := Nat.le_refl w0.heap.size
  rw [bits_Div64] at hF
  refine WP.seq ?_
  refine WP.region mixed [[], []] [[], []] [[], []] [] []
    [val 6 (.int .u64 0), val 7 (.int .u64 0)] noG (by kernel_rfl)
    ⟨Stable.val _ _ _, Stable.val _ _ _, trivial⟩
    ⟨fun ρz wz hE hA _ _ => core_val rfl rfl (o_assign rfl),
     fun ρz wz hE hA _ _ => core_val rfl rfl (o_assign rfl), trivial⟩ ?_
  intro ρ1 w1 hE hN hf hr
  have hN := hN rfl
  have h0 := (hr 0 rfl).trans h0
  have h1 := (hr 1 rfl).trans h1
  have h2 := (hr 2 rfl).trans h2
  have hW := hW.trans hN
  have hsz := Nat.le_trans hsz hN.size
  refine WP.seqJ (fun ρ w => ρ 0 = .int .u64 d_ ∧ ρ 1 = .int .u64 i_ ∧ ρ 2 = .int .u64 p_ ∧ Ext noG w0 w ∧ w0.heap.size ≤ w.heap.size ∧ bits_Div64_j d_ i_ p_ = some r) ?_ ?_
  · refine WP.seq ?_
    refine WP.region mixed [[], [0]] [[], [0]] [[2], []] [] []
      [val 19 (.int .u64 p_), val 20 (.bool (p_ == 0))] noG (by kernel_rfl)
      ⟨Stable.val _ _ _, Stable.val _ _ _, trivial⟩
      ⟨fun ρz wz hE hA ⟨e2, _⟩ _ => core_val rfl rfl (o_move (e2.trans h2)),
     fun ρz wz hE hA _ ⟨u0, _⟩ => core_val rfl rfl (o_eql u0 rfl rfl), trivial⟩ ?_
    intro ρ37 w37 hE hN hf hr
    have hN := hN rfl
    have h0 := (hr 0 rfl).trans h0
    have h1 := (hr 1 rfl).trans h1
    have h2 := (hr 2 rfl).trans h2
    have h20 : ρ37 20 = .bool (p_ == 0) := hf 1 rfl
    have hW := hW.trans hN
    have hsz := Nat.le_trans hsz hN.size
    refine WP.cond rfl h20 (fun hb => ?_) (fun hb => ?_)
    · have hF := (if_pos hb).symm.trans hF
      cases hF
    · have hF := (if_neg (Bool.eq_false_iff.1 hb)).symm.trans hF
      refine WP.skip ?_
      exact ⟨h0, h1, h2, hW, hsz, hF⟩
  · rintro ρ2 w2 ⟨h0, h1, h2, hW, hsz, hF⟩
    rw [bits_Div64_j] at hF
    refine WP.seqJ (fun ρ w => ρ 0 = .int .u64 d_ ∧ ρ 1 = .int .u64 i_ ∧ ρ 2 = .int .u64 p_ ∧ Ext noG w0 w ∧ w0.heap.size ≤ w.heap.size ∧ bits_Div64_j2 d_ i_ p_ = some r) ?_ ?_
    · refine WP.seq ?_
      refine WP.region mixed [[], [], [0, 1]] [[], [], [0, 1]] [[2], [0], []] [] []
        [val 22 (.int .u64 p_), val 23 (.int .u64 d_), val 24 (.bool (decide (p_ ≤ d_)))] noG (by kernel_rfl)
        ⟨Stable.val _ _ _, Stable.val _ _ _, Stable.val _ _ _, trivial⟩
        ⟨fun ρz wz hE hA ⟨e2, _⟩ _ => core_val rfl rfl (o_move (e2.trans h2)),
     fun ρz wz hE hA ⟨e0, _⟩ _ => core_val rfl rfl (o_move (e0.trans h0)),
     fun ρz wz hE hA _ ⟨u0, u1, _⟩ => core_val rfl rfl (o_leq u0 u1 rfl), trivial⟩ ?_
      intro ρ36 w36 hE hN hf hr
      have hN := hN rfl
      have h0 := (hr 0 rfl).trans h0
      have h1 := (hr 1 rfl).trans h1
      have h2 := (hr 2 rfl).trans h2
      have h24 : ρ36 24 = .bool (decide (p_ ≤ d_)) := hf 2 rfl
      have hW := hW.trans hN
      have hsz := Nat.le_trans hsz hN.size
      refine WP.cond rfl h24 (fun hb => ?_) (fun hb => ?_)
      · have hF := (if_pos hb).symm.trans hF
        cases hF
      · have hF := (if_neg (Bool.eq_false_iff.1 hb)).symm.trans hF
        refine WP.skip ?_
        exact ⟨h0, h1, h2, hW, hsz, hF⟩
    · rintro ρ3 w3 ⟨h0, h1, h2, hW, hsz, hF⟩
      rw [bits_Div64_j2] at hF
      refine WP.seq ?_
      refine WP.seq ?_
      refine WP.region mixed [[], [0]] [[], [0]] [[0], []] [] []
        [val 26 (.int .u64 d_), val 27 (.bool (d_ == 0))] noG (by kernel_rfl)
        ⟨Stable.val _ _ _, Stable.val _ _ _, trivial⟩
        ⟨fun ρz wz hE hA ⟨e0, _⟩ _ => core_val rfl rfl (o_move (e0.trans h0)),
     fun ρz wz hE hA _ ⟨u0, _⟩ => core_val rfl rfl (o_eql u0 rfl rfl), trivial⟩ ?_
      intro ρ4 w4 hE hN hf hr
      have hN := hN rfl
      have h0 := (hr 0 rfl).trans h0
      have h1 := (hr 1 rfl).trans h1
      have h2 := (hr 2 rfl).trans h2
      have h27 : ρ4 27 = .bool (d_ == 0) := hf 1 rfl
      have hW := hW.trans hN
      have hsz := Nat.le_trans hsz hN.size
      refine WP.cond rfl h27 (fun hb => ?_) (fun hb => ?_)
      · have hF := (if_pos hb).symm.trans hF
        refine WP.seq ?_
        obtain ⟨q, hq, hF⟩ := obind hF
        obtain ⟨q2, hq2, hF⟩ := obind hF
        refine WP.region mixed [[], [], [0, 1], [], [], [3, 4], [2], [5]] [[], [], [0, 1], [], [], [3, 4], [2], [5]] [[1], [2], [], [1], [2], [], [], []] [] []
          [val 28 (.int .u64 i_), val 29 (.int .u64 p_), val 30 (.int .u64 q), val 31 (.int .u64 i_), val 32 (.int .u64 p_), val 33 (.int .u64 q2), val 6 (.int .u64 q), val 7 (.int .u64 q2)] noG (by kernel_rfl)
          ⟨Stable.val _ _ _, Stable.val _ _ _, Stable.val _ _ _, Stable.val _ _ _, Stable.val _ _ _, Stable.val _ _ _, Stable.val _ _ _, Stable.val _ _ _, trivial⟩
          ⟨fun ρz wz hE hA ⟨e1, _⟩ _ => core_val rfl rfl (o_move (e1.trans h1)),
     fun ρz wz hE hA ⟨e2, _⟩ _ => core_val rfl rfl (o_move (e2.trans h2)),
     fun ρz wz hE hA _ ⟨u0, u1, _⟩ => core_val rfl rfl (o_quo u0 u1 (quoU_some hq).1 (quoU_some hq).2),
     fun ρz wz hE hA ⟨e1, _⟩ _ => core_val rfl rfl (o_move (e1.trans h1)),
     fun ρz wz hE hA ⟨e2, _⟩ _ => core_val rfl rfl (o_move (e2.trans h2)),
     fun ρz wz hE hA _ ⟨u3, u4, _⟩ => core_val rfl rfl (o_rem u3 u4 (remI_some hq2).1 (remI_some hq2).2),
     fun ρz wz hE hA _ ⟨u2, _⟩ => core_val rfl rfl (o_assign u2),
     fun ρz wz hE hA _ ⟨u5, _⟩ => core_val rfl rfl (o_assign u5), trivial⟩ ?_
        intro ρ5 w5 hE hN hf hr
        have hN := hN rfl
        have h6 : ρ5 6 = .int .u64 q := hf 6 rfl
        have h7 : ρ5 7 = .int .u64 q2 := hf 7 rfl
        have hW := hW.trans hN
        have hsz := Nat.le_trans hsz hN.size
        refine WP.ret ?_
        show retQ Tryd.prog 135 Tryd.f81 (fun v w1 => v = .tuple #[.int .u64 r.1, .int .u64 r.2] ∧ Ext noG w0 w1) .ret ρ5 w5
        obtain rfl := Option.some.inj hF
        exact res2 rfl (by decide) (by decide) h6 h7 ⟨rfl, hW⟩
      · have hF := (if_neg (Bool.eq_false_iff.1 hb)).symm.trans hF
        refine WP.skip ?_
        refine WP.seq ?_
        obtain ⟨z, hz, hF⟩ := obind hF
        refine WP.region mixed [[], [0], [1], [2]] [[], [0], [1], [2]] [[2], [], [], []] [] []
          [val 34 (.int .u64 p_), val 35 (.int .i64 z), val 36 (.int .u64 (u64 z)), val 8 (.int .u64 (u64 z))] noG (by kernel_rfl)
          ⟨Stable.val _ _ _, Stable.val _ _ _, Stable.val _ _ _, Stable.val _ _ _, trivial⟩
          ⟨fun ρz wz hE hA ⟨e2, _⟩ _ => core_val rfl rfl (o_move (e2.trans h2)),
     fun ρz wz hE hA _ ⟨u0, _⟩ => core_call rfl (call_args1 u0) cf_90 (bits_LeadingZeros64_ok  _  hz),
     fun ρz wz hE hA _ ⟨u1, _⟩ => core_val rfl rfl (o_conv u1 (cv_3_78 _ _)),
     fun ρz wz hE hA _ ⟨u2, _⟩ => core_val rfl rfl (o_assign u2), trivial⟩ ?_
        intro ρ6 w6 hE hN hf hr
        have hN := hN rfl
        have h0 := (hr 0 rfl).trans h0
        have h1 := (hr 1 rfl).trans h1
        have h2 := (hr 2 rfl).trans h2
        have h8 : ρ6 8 = .int .u64 (u64 z) := hf 3 rfl
        have hW := hW.trans hN
        have hsz := Nat.le_trans hsz hN.size
        refine WP.seq ?_
        obtain ⟨q3, hq3, hF⟩ := obind hF
        refine WP.region mixed [[], [], [0, 1], [0, 2]] [[], [], [0, 1], [2]] [[2], [8], [], []] [] []
          [val 37 (.int .u64 p_), val 38 (.int .u64 (u64 z)), val 39 (.int .u64 q3), val 2 (.int .u64 q3)] noG (by kernel_rfl)
          ⟨Stable.val _ _ _, Stable.val _ _ _, Stable.val _ _ _, Stable.val _ _ _, trivial⟩
          ⟨fun ρz wz hE hA ⟨e2, _⟩ _ => core_val rfl rfl (o_move (e2.trans h2)),
     fun ρz wz hE hA ⟨e8, _⟩ _ => core_val rfl rfl (o_move (e8.trans h8)),
     fun ρz wz hE hA _ ⟨u0, u1, _⟩ => core_val rfl rfl (o_shl u0 u1 (shlO_some hq3).1 (shlO_some hq3).2),
     fun ρz wz hE hA _ ⟨u2, _⟩ => core_val rfl rfl (o_assign u2), trivial⟩ ?_
        intro ρ7 w7 hE hN hf hr
        have hN := hN rfl
        have h0 := (hr 0 rfl).trans h0
        have h1 := (hr 1 rfl).trans h1
        have h2 : ρ7 2 = .int .u64 q3 := hf 3 rfl
        have h8 := (hr 8 rfl).trans h8
        have hW := hW.trans hN
        have hsz := Nat.le_trans hsz hN.size
        refine WP.seq ?_
        refine WP.region mixed [[], [0], [1]] [[], [0], [1]] [[2], [], []] [] []
          [val 40 (.int .u64 q3), val 41 (.int .u64 (shrK .u64 q3 32)), val 9 (.int .u64 (shrK .u64 q3 32))] noG (by kernel_rfl)
          ⟨Stable.val _ _ _, Stable.val _ _ _, Stable.val _ _ _, trivial⟩
          ⟨fun ρz wz hE hA ⟨e2, _⟩ _ => core_val rfl rfl (o_move (e2.trans h2)),
     fun ρz wz hE hA _ ⟨u0, _⟩ => core_val rfl rfl (o_shr u0 rfl (by decide) rfl),
     fun ρz wz hE hA _ ⟨u1, _⟩ => core_val rfl rfl (o_assign u1), trivial⟩ ?_
        intro ρ8 w8 hE hN hf hr
        have hN := hN rfl
        have h0 := (hr 0 rfl).trans h0
        have h1 := (hr 1 rfl).trans h1
        have h2 := (hr 2 rfl).trans h2
        have h8 := (hr 8 rfl).trans h8
        have h9 : ρ8 9 = .int .u64 (shrK .u64 q3 32) := hf 2 rfl
        have hW := hW.trans hN
        have hsz := Nat.le_trans hsz hN.size
        refine WP.seq ?_
        refine WP.region mixed [[], [0], [1]] [[], [0], [1]] [[2], [], []] [] []
          [val 42 (.int .u64 q3), val 43 (.int .u64 (andK .u64 q3 4294967295)), val 10 (.int .u64 (andK .u64 q3 4294967295))] noG (by kernel_rfl)
          ⟨Stable.val _ _ _, Stable.val _ _ _, Stable.val _ _ _, trivial⟩
          ⟨fun ρz wz hE hA ⟨e2, _⟩ _ => core_val rfl rfl (o_move (e2.trans h2)),
     fun ρz wz hE hA _ ⟨u0, _⟩ => core_val rfl rfl (o_and u0 rfl rfl),
     fun ρz wz hE hA _ ⟨u1, _⟩ => core_val rfl rfl (o_assign u1), trivial⟩ ?_
        intro ρ9 w9 hE hN hf hr
        have hN := hN rfl
        have h0 := (hr 0 rfl).trans h0
        have h1 := (hr 1 rfl).trans h1
        have h2 := (hr 2 rfl).trans h2
        have h8 := (hr 8 rfl).trans h8
        have h9 := (hr 9 rfl).trans h9
        have h10 : ρ9 10 = .int .u64 (andK .u64 q3 4294967295) := hf 2 rfl
        have hW := hW.trans hN
        have hsz := Nat.le_trans hsz hN.size
        refine WP.seq ?_
        obtain ⟨q4, hq4, hF⟩ := obind hF
        obtain ⟨q5, hq5, hF⟩ := obind hF
        refine WP.region mixed [[], [], [0, 1], [], [], [4], [3, 5], [2, 6], [7]] [[], [], [0, 1], [], [], [4], [3, 5], [2, 6], [7]] [[0], [8], [], [1], [8], [], [], [], []] [] []
          [val 44 (.int .u64 d_), val 45 (.int .u64 (u64 z)), val 46 (.int .u64 q4), val 47 (.int .u64 i_), val 48 (.int .u64 (u64 z)), val 49 (.int .u64 (u64 (64 - (u64 z)))), val 50 (.int .u64 q5), val 51 (.int .u64 (orK .u64 q4 q5)), val 11 (.int .u64 (orK .u64 q4 q5))] noG (by kernel_rfl)
          ⟨Stable.val _ _ _, Stable.val _ _ _, Stable.val _ _ _, Stable.val _ _ _, Stable.val _ _ _, Stable.val _ _ _, Stable.val _ _ _, Stable.val _ _ _, Stable.val _ _ _, trivial⟩
          ⟨fun ρz wz hE hA ⟨e0, _⟩ _ => core_val rfl rfl (o_move (e0.trans h0)),
     fun ρz wz hE hA ⟨e8, _⟩ _ => core_val rfl rfl (o_move (e8.trans h8)),
     fun ρz wz hE hA _ ⟨u0, u1, _⟩ => core_val rfl rfl (o_shl u0 u1 (shlO_some hq4).1 (shlO_some hq4).2),
     fun ρz wz hE hA ⟨e1, _⟩ _ => core_val rfl rfl (o_move (e1.trans h1)),
     fun ρz wz hE hA ⟨e8, _⟩ _ => core_val rfl rfl (o_move (e8.trans h8)),
     fun ρz wz hE hA _ ⟨u4, _⟩ => core_val rfl rfl (o_sub rfl u4 rfl),
     fun ρz wz hE hA _ ⟨u3, u5, _⟩ => core_val rfl rfl (o_shr u3 u5 (shrO_some hq5).1 (shrO_some hq5).2),
     fun ρz wz hE hA _ ⟨u2, u6, _⟩ => core_val rfl rfl (o_or u2 u6 rfl),
     fun ρz wz hE hA _ ⟨u7, _⟩ => core_val rfl rfl (o_assign u7), trivial⟩ ?_
        intro ρ10 w10 hE hN hf hr
        have hN := hN rfl
        have h1 := (hr 1 rfl).trans h1
        have h2 := (hr 2 rfl).trans h2
        have h8 := (hr 8 rfl).trans h8
        have h9 := (hr 9 rfl).trans h9
        have h10 := (hr 10 rfl).trans h10
        have h11 : ρ10 11 = .int .u64 (orK .u64 q4 q5) := hf 8 rfl
        have hW := hW.trans hN
        have hsz := Nat.le_trans hsz hN.size
        refine WP.seq ?_
        obtain ⟨q6, hq6, hF⟩ := obind hF
        refine WP.region mixed [[], [], [0, 1], [2]] [[], [], [0, 1], [2]] [[1], [8], [], []] [] []
          [val 52 (.int .u64 i_), val 53 (.int .u64 (u64 z)), val 54 (.int .u64 q6), val 12 (.int .u64 q6)] noG (by kernel_rfl)
          ⟨Stable.val _ _ _, Stable.val _ _ _, Stable.val _ _ _, Stable.val _ _ _, trivial⟩
          ⟨fun ρz wz hE hA ⟨e1, _⟩ _ => core_val rfl rfl (o_move (e1.trans h1)),
     fun ρz wz hE hA ⟨e8, _⟩ _ => core_val rfl rfl (o_move (e8.trans h8)),
     fun ρz wz hE hA _ ⟨u0, u1, _⟩ => core_val rfl rfl (o_shl u0 u1 (shlO_some hq6).1 (shlO_some hq6).2),
     fun ρz wz hE hA _ ⟨u2, _⟩ => core_val rfl rfl (o_assign u2), trivial⟩ ?_
        intro ρ11 w11 hE hN hf hr
        have hN := hN rfl
        have h2 := (hr 2 rfl).trans h2
        have h8 := (hr 8 rfl).trans h8
        have h9 := (hr 9 rfl).trans h9
        have h10 := (hr 10 rfl).trans h10
        have h11 := (hr 11 rfl).trans h11
        have h12 : ρ11 12 = .int .u64 q6 := hf 3 rfl
        have hW := hW.trans hN
        have hsz := Nat.le_trans hsz hN.size
        refine WP.seq ?_
        refine WP.region mixed [[], [0], [1]] [[], [0], [1]] [[12], [], []] [] []
          [val 55 (.int .u64 q6), val 56 (.int .u64 (shrK .u64 q6 32)), val 13 (.int .u64 (shrK .u64 q6 32))] noG (by kernel_rfl)
          ⟨Stable.val _ _ _, Stable.val _ _ _, Stable.val _ _ _, trivial⟩
          ⟨fun ρz wz hE hA ⟨e12, _⟩ _ => core_val rfl rfl (o_move (e12.trans h12)),
     fun ρz wz hE hA _ ⟨u0, _⟩ => core_val rfl rfl (o_shr u0 rfl (by decide) rfl),
     fun ρz wz hE hA _ ⟨u1, _⟩ => core_val rfl rfl (o_assign u1), trivial⟩ ?_
        intro ρ12 w12 hE hN hf hr
        have hN := hN rfl
        have h2 := (hr 2 rfl).trans h2
        have h8 := (hr 8 rfl).trans h8
        have h9 := (hr 9 rfl).trans h9
        have h10 := (hr 10 rfl).trans h10
        have h11 := (hr 11 rfl).trans h11
        have h12 := (hr 12 rfl).trans h12
        have h13 : ρ12 13 = .int .u64 (shrK .u64 q6 32) := hf 2 rfl
        have hW := hW.trans hN
        have hsz := Nat.le_trans hsz hN.size
        refine WP.seq ?_
        refine WP.region mixed [[], [0], [1]] [[], [0], [1]] [[12], [], []] [] []
          [val 57 (.int .u64 q6), val 58 (.int .u64 (andK .u64 q6 4294967295)), val 14 (.int .u64 (andK .u64 q6 4294967295))] noG (by kernel_rfl)
          ⟨Stable.val _ _ _, Stable.val _ _ _, Stable.val _ _ _, trivial⟩
          ⟨fun ρz wz hE hA ⟨e12, _⟩ _ => core_val rfl rfl (o_move (e12.trans h12)),
     fun ρz wz hE hA _ ⟨u0, _⟩ => core_val rfl rfl (o_and u0 rfl rfl),
     fun ρz wz hE hA _ ⟨u1, _⟩ => core_val rfl rfl (o_assign u1), trivial⟩ ?_
        intro ρ13 w13 hE hN hf hr
        have hN := hN rfl
        have h2 := (hr 2 rfl).trans h2
        have h8 := (hr 8 rfl).trans h8
        have h9 := (hr 9 rfl).trans h9
        have h10 := (hr 10 rfl).trans h10
        have h11 := (hr 11 rfl).trans h11
        have h13 := (hr 13 rfl).trans h13
        have h14 : ρ13 14 = .int .u64 (andK .u64 q6 4294967295) := hf 2 rfl
        have hW := hW.trans hN
        have hsz := Nat.le_trans hsz hN.size
        refine WP.seq ?_
        obtain ⟨q7, hq7, hF⟩ := obind hF
        refine WP.region mixed [[], [], [0, 1], [2]] [[], [], [0, 1], [2]] [[11], [9], [], []] [] []
          [val 59 (.int .u64 (orK .u64 q4 q5)), val 60 (.int .u64 (shrK .u64 q3 32)), val 61 (.int .u64 q7), val 15 (.int .u64 q7)] noG (by kernel_rfl)
          ⟨Stable.val _ _ _, Stable.val _ _ _, Stable.val _ _ _, Stable.val _ _ _, trivial⟩
          ⟨fun ρz wz hE hA ⟨e11, _⟩ _ => core_val rfl rfl (o_move (e11.trans h11)),
     fun ρz wz hE hA ⟨e9, _⟩ _ => core_val rfl rfl (o_move (e9.trans h9)),
     fun ρz wz hE hA _ ⟨u0, u1, _⟩ => core_val rfl rfl (o_quo u0 u1 (quoU_some hq7).1 (quoU_some hq7).2),
     fun ρz wz hE hA _ ⟨u2, _⟩ => core_val rfl rfl (o_assign u2), trivial⟩ ?_
        intro ρ14 w14 hE hN hf hr
        have hN := hN rfl
        have h2 := (hr 2 rfl).trans h2
        have h8 := (hr 8 rfl).trans h8
        have h9 := (hr 9 rfl).trans h9
        have h10 := (hr 10 rfl).trans h10
        have h11 := (hr 11 rfl).trans h11
        have h13 := (hr 13 rfl).trans h13
        have h14 := (hr 14 rfl).trans h14
        have h15 : ρ14 15 = .int .u64 q7 := hf 3 rfl
        have hW := hW.trans hN
        have hsz := Nat.le_trans hsz hN.size
        refine WP.seq ?_
        refine WP.region mixed [[], [], [], [1, 2], [0, 3], [4]] [[], [], [], [1, 2], [0, 3], [4]] [[11], [15], [9], [], [], []] [] []
          [val 62 (.int .u64 (orK .u64 q4 q5)), val 63 (.int .u64 q7), val 64 (.int .u64 (shrK .u64 q3 32)), val 65 (.int .u64 (u64 (q7 * (shrK .u64 q3 32)))), val 66 (.int .u64 (u64 (orK .u64 q4 q5 - (u64 (q7 * (shrK .u64 q3 32)))))), val 16 (.int .u64 (u64 (orK .u64 q4 q5 - (u64 (q7 * (shrK .u64 q3 32))))))] noG (by kernel_rfl)
          ⟨Stable.val _ _ _, Stable.val _ _ _, Stable.val _ _ _, Stable.val _ _ _, Stable.val _ _ _, Stable.val _ _ _, trivial⟩
          ⟨fun ρz wz hE hA ⟨e11, _⟩ _ => core_val rfl rfl (o_move (e11.trans h11)),
     fun ρz wz hE hA ⟨e15, _⟩ _ => core_val rfl rfl (o_move (e15.trans h15)),
     fun ρz wz hE hA ⟨e9, _⟩ _ => core_val rfl rfl (o_move (e9.trans h9)),
     fun ρz wz hE hA _ ⟨u1, u2, _⟩ => core_val rfl rfl (o_mul u1 u2 rfl),
     fun ρz wz hE hA _ ⟨u0, u3, _⟩ => core_val rfl rfl (o_sub u0 u3 rfl),
     fun ρz wz hE hA _ ⟨u4, _⟩ => core_val rfl rfl (o_assign u4), trivial⟩ ?_
        intro ρ15 w15 hE hN hf hr
        have hN := hN rfl
        have h2 := (hr 2 rfl).trans h2
        have h8 := (hr 8 rfl).trans h8
        have h9 := (hr 9 rfl).trans h9
        have h10 := (hr 10 rfl).trans h10
        have h11 := (hr 11 rfl).trans h11
        have h13 := (hr 13 rfl).trans h13
        have h14 := (hr 14 rfl).trans h14
        have h15 := (hr 15 rfl).trans h15
        have h16 : ρ15 16 = .int .u64 (u64 (orK .u64 q4 q5 - (u64 (q7 * (shrK .u64 q3 32))))) := hf 5 rfl
        have hW := hW.trans hN
        have hsz := Nat.le_trans hsz hN.size
        refine WP.seqJ (fun ρ w => ∃ x : Int, ρ 2 = .int .u64 q3 ∧ ρ 8 = .int .u64 (u64 z) ∧ ρ 9 = .int .u64 (shrK .u64 q3 32) ∧ ρ 10 = .int .u64 (andK .u64 q3 4294967295) ∧ ρ 11 = .int .u64 (orK .u64 q4 q5) ∧ ρ 13 = .int .u64 (shrK .u64 q6 32) ∧ ρ 14 = .int .u64 (andK .u64 q6 4294967295) ∧ ρ 15 = .int .u64 x ∧ Ext noG w0 w ∧ w0.heap.size ≤ w.heap.size ∧ bits_Div64_j3 z q3 q4 q5 q6 x = some r) ?_ ?_
        · refine WP.block ?_
          refine WP.loop (fun k_2 ρ w => ∃ x5 : Int, ∃ x6 : Int, ρ 2 = .int .u64 q3 ∧ ρ 8 = .int .u64 (u64 z) ∧ ρ 9 = .int .u64 (shrK .u64 q3 32) ∧ ρ 10 = .int .u64 (andK .u64 q3 4294967295) ∧ ρ 11 = .int .u64 (orK .u64 q4 q5) ∧ ρ 13 = .int .u64 (shrK .u64 q6 32) ∧ ρ 14 = .int .u64 (andK .u64 q6 4294967295) ∧ ρ 15 = .int .u64 x5 ∧ ρ 16 = .int .u64 x6 ∧ Ext noG w0 w ∧ w0.heap.size ≤ w.heap.size ∧ loopC k_2 (bits_Div64_l2 z q3 q4 q5 q6) (x5, x6) = some r) FU ⟨q7, u64 (orK .u64 q4 q5 - (u64 (q7 * (shrK .u64 q3 32)))), h2, h8, h9, h10, h11, h13, h14, h15, h16, hW, hsz, hF⟩ (fun _ _ h => by obtain ⟨_, _, _, _, _, _, _, _, _, _, _, _, _, h⟩ := h; cases h) ?_
          rintro k_2 ρ29 w29 ⟨x5, x6, h2, h8, h9, h10, h11, h13, h14, h15, h16, hW, hsz, hF⟩
          have hF : bits_Div64_l2 z q3 q4 q5 q6 (loopC k_2 (bits_Div64_l2 z q3 q4 q5 q6)) (x5, x6) = some r := hF
          generalize hrec_2 : loopC k_2 (bits_Div64_l2 z q3 q4 q5 q6) = rec_2 at hF
          rw [bits_Div64_l2] at hF
          refine WP.seq ?_
          refine WP.seq ?_
          refine WP.via (fun ρ w => ρ 2 = .int .u64 q3 ∧ ρ 8 = .int .u64 (u64 z) ∧ ρ 9 = .int .u64 (shrK .u64 q3 32) ∧ ρ 10 = .int .u64 (andK .u64 q3 4294967295) ∧ ρ 11 = .int .u64 (orK .u64 q4 q5) ∧ ρ 13 = .int .u64 (shrK .u64 q6 32) ∧ ρ 14 = .int .u64 (andK .u64 q6 4294967295) ∧ ρ 15 = .int .u64 x5 ∧ ρ 16 = .int .u64 x6 ∧ ρ 78 = .bool (decide (4294967296 ≤ x5) || decide (u64 (u64 (4294967296 * x6) + shrK .u64 q6 32) < u64 (x5 * (andK .u64 q3 4294967295)))) ∧ Ext noG w0 w ∧ w0.heap.size ≤ w.heap.size) ?_ ?_
          · rcases Bool.eq_false_or_eq_true (decide (4294967296 ≤ x5)) with hd2 | hd2
            · refine WP.region mixed [[], [0], [1], [2], [2], [2], [2], [2], [2], [2], [2], [2]] [[], [0], [1], [2], [2], [2], [2], [2], [2], [2], [2], [2]] [[15], [], [], [], [], [], [], [], [], [], [], []] [] []
                [val 67 (.int .u64 x5), val 68 (.bool (decide (4294967296 ≤ x5))), val 69 (.bool true), anyF 70, anyF 71, anyF 72, anyF 73, anyF 74, anyF 75, anyF 76, anyF 77, val 78 (.bool true)] noG (by kernel_rfl)
                ⟨Stable.val _ _ _, Stable.val _ _ _, Stable.val _ _ _, Stable.any _ _, Stable.any _ _, Stable.any _ _, Stable.any _ _, Stable.any _ _, Stable.any _ _, Stable.any _ _, Stable.any _ _, Stable.val _ _ _, trivial⟩
                ⟨fun ρz wz hE hA ⟨e15, _⟩ _ => core_val rfl rfl (o_move (e15.trans h15)),
     fun ρz wz hE hA _ ⟨u0, _⟩ => core_val rfl rfl (o_geq u0 rfl rfl),
     fun ρz wz hE hA _ ⟨u1, _⟩ => core_valE rfl rfl (congrArg Value.bool hd2) (o_move u1),
     fun _ _ _ _ _ ⟨u2, _⟩ => gNo rfl u2 rfl trivial,
     fun _ _ _ _ _ ⟨u2, _⟩ => gNo rfl u2 rfl trivial,
     fun _ _ _ _ _ ⟨u2, _⟩ => gNo rfl u2 rfl trivial,
     fun _ _ _ _ _ ⟨u2, _⟩ => gNo rfl u2 rfl trivial,
     fun _ _ _ _ _ ⟨u2, _⟩ => gNo rfl u2 rfl trivial,
     fun _ _ _ _ _ ⟨u2, _⟩ => gNo rfl u2 rfl trivial,
     fun _ _ _ _ _ ⟨u2, _⟩ => gNo rfl u2 rfl trivial,
     fun _ _ _ _ _ ⟨u2, _⟩ => gNo rfl u2 rfl trivial,
     fun ρz wz hE hA _ ⟨u2, _⟩ => core_val rfl rfl (o_pick_t u2 rfl), trivial⟩ ?_
              intro ρ31 w31 hE hN hf hr
              have hN := hN rfl
              have h2 := (hr 2 rfl).trans h2
              have h8 := (hr 8 rfl).trans h8
              have h9 := (hr 9 rfl).trans h9
              have h10 := (hr 10 rfl).trans h10
              have h11 := (hr 11 rfl).trans h11
              have h13 := (hr 13 rfl).trans h13
              have h14 := (hr 14 rfl).trans h14
              have h15 := (hr 15 rfl).trans h15
              have h16 := (hr 16 rfl).trans h16
              have h78 : ρ31 78 = .bool true := hf 11 rfl
              have hW := hW.trans hN
              have hsz := Nat.le_trans hsz hN.size
              exact ⟨h2, h8, h9, h10, h11, h13, h14, h15, h16, (h78.trans (congrArg Value.bool (by simp [hd2]))), hW, hsz⟩
            · refine WP.region mixed [[], [0], [1], [2], [2], [2, 3, 4], [2], [2, 6], [2], [2, 7, 8], [2, 5, 9], [2, 10]] [[], [0], [1], [2], [2], [2, 3, 4], [2], [2, 6], [2], [2, 7, 8], [2, 5, 9], [2, 10]] [[15], [], [], [15], [10], [], [16], [], [13], [], [], []] [] []
                [val 67 (.int .u64 x5), val 68 (.bool (decide (4294967296 ≤ x5))), val 69 (.bool false), val 70 (.int .u64 x5), val 71 (.int .u64 (andK .u64 q3 4294967295)), val 72 (.int .u64 (u64 (x5 * (andK .u64 q3 4294967295)))), val 73 (.int .u64 x6), val 74 (.int .u64 (u64 (4294967296 * x6))), val 75 (.int .u64 (shrK .u64 q6 32)), val 76 (.int .u64 (u64 (u64 (4294967296 * x6) + shrK .u64 q6 32))), val 77 (.bool (decide (u64 (u64 (4294967296 * x6) + shrK .u64 q6 32) < u64 (x5 * (andK .u64 q3 4294967295))))), val 78 (.bool (decide (u64 (u64 (4294967296 * x6) + shrK .u64 q6 32) < u64 (x5 * (andK .u64 q3 4294967295)))))] noG (by kernel_rfl)
                ⟨Stable.val _ _ _, Stable.val _ _ _, Stable.val _ _ _, Stable.val _ _ _, Stable.val _ _ _, Stable.val _ _ _, Stable.val _ _ _, Stable.val _ _ _, Stable.val _ _ _, Stable.val _ _ _, Stable.val _ _ _, Stable.val _ _ _, trivial⟩
                ⟨fun ρz wz hE hA ⟨e15, _⟩ _ => core_val rfl rfl (o_move (e15.trans h15)),
     fun ρz wz hE hA _ ⟨u0, _⟩ => core_val rfl rfl (o_geq u0 rfl rfl),
     fun ρz wz hE hA _ ⟨u1, _⟩ => core_valE rfl rfl (congrArg Value.bool hd2) (o_move u1),
     fun ρz wz hE hA ⟨e15, _⟩ ⟨u2, _⟩ => gYes rfl u2 (core_val rfl rfl (o_move (e15.trans h15))),
     fun ρz wz hE hA ⟨e10, _⟩ ⟨u2, _⟩ => gYes rfl u2 (core_val rfl rfl (o_move (e10.trans h10))),
     fun ρz wz hE hA _ ⟨u2, u3, u4, _⟩ => gYes rfl u2 (core_val rfl rfl (o_mul u3 u4 rfl)),
     fun ρz wz hE hA ⟨e16, _⟩ ⟨u2, _⟩ => gYes rfl u2 (core_val rfl rfl (o_move (e16.trans h16))),
     fun ρz wz hE hA _ ⟨u2, u6, _⟩ => gYes rfl u2 (core_val rfl rfl (o_mul rfl u6 rfl)),
     fun ρz wz hE hA ⟨e13, _⟩ ⟨u2, _⟩ => gYes rfl u2 (core_val rfl rfl (o_move (e13.trans h13))),
     fun ρz wz hE hA _ ⟨u2, u7, u8, _⟩ => gYes rfl u2 (core_val rfl rfl (o_add u7 u8 rfl)),
     fun ρz wz hE hA _ ⟨u2, u5, u9, _⟩ => gYes rfl u2 (core_val rfl rfl (o_gtr u5 u9 rfl)),
     fun ρz wz hE hA _ ⟨u2, u10, _⟩ => core_val rfl rfl (o_pick_f u2 u10), trivial⟩ ?_
              intro ρ32 w32 hE hN hf hr
              have hN := hN rfl
              have h2 := (hr 2 rfl).trans h2
              have h8 := (hr 8 rfl).trans h8
              have h9 := (hr 9 rfl).trans h9
              have h10 := (hr 10 rfl).trans h10
              have h11 := (hr 11 rfl).trans h11
              have h13 := (hr 13 rfl).trans h13
              have h14 := (hr 14 rfl).trans h14
              have h15 := (hr 15 rfl).trans h15
              have h16 := (hr 16 rfl).trans h16
              have h78 : ρ32 78 = .bool (decide (u64 (u64 (4294967296 * x6) + shrK .u64 q6 32) < u64 (x5 * (andK .u64 q3 4294967295)))) := hf 11 rfl
              have hW := hW.trans hN
              have hsz := Nat.le_trans hsz hN.size
              exact ⟨h2, h8, h9, h10, h11, h13, h14, h15, h16, (h78.trans (congrArg Value.bool (by simp [hd2]))), hW, hsz⟩
          rintro ρ30 w30 ⟨h2, h8, h9, h10, h11, h13, h14, h15, h16, h78, hW, hsz⟩
          refine WP.cond rfl h78 (fun hb => ?_) (fun hb => ?_)
          · have hF := (if_pos hb).symm.trans hF
            refine WP.skip ?_
            refine WP.block ?_
            refine WP.seq ?_
            refine WP.region mixed [[], [0], [0, 1]] [[], [0], [1]] [[15], [], []] [] []
              [val 79 (.int .u64 x5), val 80 (.int .u64 (u64 (x5 - 1))), val 15 (.int .u64 (u64 (x5 - 1)))] noG (by kernel_rfl)
              ⟨Stable.val _ _ _, Stable.val _ _ _, Stable.val _ _ _, trivial⟩
              ⟨fun ρz wz hE hA ⟨e15, _⟩ _ => core_val rfl rfl (o_move (e15.trans h15)),
     fun ρz wz hE hA _ ⟨u0, _⟩ => core_val rfl rfl (o_sub u0 rfl rfl),
     fun ρz wz hE hA _ ⟨u1, _⟩ => core_val rfl rfl (o_assign u1), trivial⟩ ?_
            intro ρ33 w33 hE hN hf hr
            have hN := hN rfl
            have h2 := (hr 2 rfl).trans h2
            have h8 := (hr 8 rfl).trans h8
            have h9 := (hr 9 rfl).trans h9
            have h10 := (hr 10 rfl).trans h10
            have h11 := (hr 11 rfl).trans h11
            have h13 := (hr 13 rfl).trans h13
            have h14 := (hr 14 rfl).trans h14
            have h15 : ρ33 15 = .int .u64 (u64 (x5 - 1)) := hf 2 rfl
            have h16 := (hr 16 rfl).trans h16
            have hW := hW.trans hN
            have hsz := Nat.le_trans hsz hN.size
            refine WP.seq ?_
            refine WP.region mixed [[], [], [0, 1], [0, 2]] [[], [], [0, 1], [2]] [[16], [9], [], []] [] []
              [val 81 (.int .u64 x6), val 82 (.int .u64 (shrK .u64 q3 32)), val 83 (.int .u64 (u64 (x6 + shrK .u64 q3 32))), val 16 (.int .u64 (u64 (x6 + shrK .u64 q3 32)))] noG (by kernel_rfl)
              ⟨Stable.val _ _ _, Stable.val _ _ _, Stable.val _ _ _, Stable.val _ _ _, trivial⟩
              ⟨fun ρz wz hE hA ⟨e16, _⟩ _ => core_val rfl rfl (o_move (e16.trans h16)),
     fun ρz wz hE hA ⟨e9, _⟩ _ => core_val rfl rfl (o_move (e9.trans h9)),
     fun ρz wz hE hA _ ⟨u0, u1, _⟩ => core_val rfl rfl (o_add u0 u1 rfl),
     fun ρz wz hE hA _ ⟨u2, _⟩ => core_val rfl rfl (o_assign u2), trivial⟩ ?_
            intro ρ34 w34 hE hN hf hr
            have hN := hN rfl
            have h2 := (hr 2 rfl).trans h2
            have h8 := (hr 8 rfl).trans h8
            have h9 := (hr 9 rfl).trans h9
            have h10 := (hr 10 rfl).trans h10
            have h11 := (hr 11 rfl).trans h11
            have h13 := (hr 13 rfl).trans h13
            have h14 := (hr 14 rfl).trans h14
            have h15 := (hr 15 rfl).trans h15
            have h16 : ρ34 16 = .int .u64 (u64 (x6 + shrK .u64 q3 32)) := hf 3 rfl
            have hW := hW.trans hN
            have hsz := Nat.le_trans hsz hN.size
            refine WP.seq ?_
            refine WP.region mixed [[], [0]] [[], [0]] [[16], []] [] []
              [val 84 (.int .u64 (u64 (x6 + shrK .u64 q3 32))), val 85 (.bool (decide (4294967296 ≤ u64 (x6 + shrK .u64 q3 32))))] noG (by kernel_rfl)
              ⟨Stable.val _ _ _, Stable.val _ _ _, trivial⟩
              ⟨fun ρz wz hE hA ⟨e16, _⟩ _ => core_val rfl rfl (o_move (e16.trans h16)),
     fun ρz wz hE hA _ ⟨u0, _⟩ => core_val rfl rfl (o_geq u0 rfl rfl), trivial⟩ ?_
            intro ρ35 w35 hE hN hf hr
            have hN := hN rfl
            have h2 := (hr 2 rfl).trans h2
            have h8 := (hr 8 rfl).trans h8
            have h9 := (hr 9 rfl).trans h9
            have h10 := (hr 10 rfl).trans h10
            have h11 := (hr 11 rfl).trans h11
            have h13 := (hr 13 rfl).trans h13
            have h14 := (hr 14 rfl).trans h14
            have h15 := (hr 15 rfl).trans h15
            have h16 := (hr 16 rfl).trans h16
            have h85 : ρ35 85 = .bool (decide (4294967296 ≤ u64 (x6 + shrK .u64 q3 32))) := hf 1 rfl
            have hW := hW.trans hN
            have hsz := Nat.le_trans hsz hN.size
            refine WP.cond rfl h85 (fun hb => ?_) (fun hb => ?_)
            · have hF := (if_pos hb).symm.trans hF
              refine WP.exit ?_
              refine blockQ_pass (by decide) ?_
              refine thenQ_exit ?_
              refine blockQ_hit ?_
              exact ⟨u64 (x5 - 1), h2, h8, h9, h10, h11, h13, h14, h15, hW, hsz, hF⟩
            · have hF := (if_neg (Bool.eq_false_iff.1 hb)).symm.trans hF
              refine WP.skip ?_
              exact ⟨u64 (x5 - 1), u64 (x6 + shrK .u64 q3 32), h2, h8, h9, h10, h11, h13, h14, h15, h16, hW, hsz, (by first | exact hF | (rw [hrec_2]; exact hF))⟩
          · have hF := (if_neg (Bool.eq_false_iff.1 hb)).symm.trans hF
            refine WP.exit ?_
            refine thenQ_exit ?_
            refine thenQ_exit ?_
            refine blockQ_hit ?_
            exact ⟨x5, h2, h8, h9, h10, h11, h13, h14, h15, hW, hsz, hF⟩
        · rintro ρ16 w16 ⟨x, h2, h8, h9, h10, h11, h13, h14, h15, hW, hsz, hF⟩
          rw [bits_Div64_j3] at hF
          refine WP.seq ?_
          refine WP.region mixed [[], [0], [], [1, 2], [], [], [4, 5], [3, 6], [7]] [[], [0], [], [1, 2], [], [], [4, 5], [3, 6], [7]] [[11], [], [13], [], [15], [2], [], [], []] [] []
            [val 86 (.int .u64 (orK .u64 q4 q5)), val 87 (.int .u64 (u64 (orK .u64 q4 q5 * 4294967296))), val 88 (.int .u64 (shrK .u64 q6 32)), val 89 (.int .u64 (u64 (u64 (orK .u64 q4 q5 * 4294967296) + shrK .u64 q6 32))), val 90 (.int .u64 x), val 91 (.int .u64 q3), val 92 (.int .u64 (u64 (x * q3))), val 93 (.int .u64 (u64 (u64 (u64 (orK .u64 q4 q5 * 4294967296) + shrK .u64 q6 32) - (u64 (x * q3))))), val 17 (.int .u64 (u64 (u64 (u64 (orK .u64 q4 q5 * 4294967296) + shrK .u64 q6 32) - (u64 (x * q3)))))] noG (by kernel_rfl)
            ⟨Stable.val _ _ _, Stable.val _ _ _, Stable.val _ _ _, Stable.val _ _ _, Stable.val _ _ _, Stable.val _ _ _, Stable.val _ _ _, Stable.val _ _ _, Stable.val _ _ _, trivial⟩
            ⟨fun ρz wz hE hA ⟨e11, _⟩ _ => core_val rfl rfl (o_move (e11.trans h11)),
     fun ρz wz hE hA _ ⟨u0, _⟩ => core_val rfl rfl (o_mul u0 rfl rfl),
     fun ρz wz hE hA ⟨e13, _⟩ _ => core_val rfl rfl (o_move (e13.trans h13)),
     fun ρz wz hE hA _ ⟨u1, u2, _⟩ => core_val rfl rfl (o_add u1 u2 rfl),
     fun ρz wz hE hA ⟨e15, _⟩ _ => core_val rfl rfl (o_move (e15.trans h15)),
     fun ρz wz hE hA ⟨e2, _⟩ _ => core_val rfl rfl (o_move (e2.trans h2)),
     fun ρz wz hE hA _ ⟨u4, u5, _⟩ => core_val rfl rfl (o_mul u4 u5 rfl),
     fun ρz wz hE hA _ ⟨u3, u6, _⟩ => core_val rfl rfl (o_sub u3 u6 rfl),
     fun ρz wz hE hA _ ⟨u7, _⟩ => core_val rfl rfl (o_assign u7), trivial⟩ ?_
          intro ρ17 w17 hE hN hf hr
          have hN := hN rfl
          have h2 := (hr 2 rfl).trans h2
          have h8 := (hr 8 rfl).trans h8
          have h9 := (hr 9 rfl).trans h9
          have h10 := (hr 10 rfl).trans h10
          have h14 := (hr 14 rfl).trans h14
          have h15 := (hr 15 rfl).trans h15
          have h17 : ρ17 17 = .int .u64 (u64 (u64 (u64 (orK .u64 q4 q5 * 4294967296) + shrK .u64 q6 32) - (u64 (x * q3)))) := hf 8 rfl
          have hW := hW.trans hN
          have hsz := Nat.le_trans hsz hN.size
          refine WP.seq ?_
          obtain ⟨q8, hq8, hF⟩ := obind hF
          refine WP.region mixed [[], [], [0, 1], [2]] [[], [], [0, 1], [2]] [[17], [9], [], []] [] []
            [val 94 (.int .u64 (u64 (u64 (u64 (orK .u64 q4 q5 * 4294967296) + shrK .u64 q6 32) - (u64 (x * q3))))), val 95 (.int .u64 (shrK .u64 q3 32)), val 96 (.int .u64 q8), val 18 (.int .u64 q8)] noG (by kernel_rfl)
            ⟨Stable.val _ _ _, Stable.val _ _ _, Stable.val _ _ _, Stable.val _ _ _, trivial⟩
            ⟨fun ρz wz hE hA ⟨e17, _⟩ _ => core_val rfl rfl (o_move (e17.trans h17)),
     fun ρz wz hE hA ⟨e9, _⟩ _ => core_val rfl rfl (o_move (e9.trans h9)),
     fun ρz wz hE hA _ ⟨u0, u1, _⟩ => core_val rfl rfl (o_quo u0 u1 (quoU_some hq8).1 (quoU_some hq8).2),
     fun ρz wz hE hA _ ⟨u2, _⟩ => core_val rfl rfl (o_assign u2), trivial⟩ ?_
          intro ρ18 w18 hE hN hf hr
          have hN := hN rfl
          have h2 := (hr 2 rfl).trans h2
          have h8 := (hr 8 rfl).trans h8
          have h9 := (hr 9 rfl).trans h9
          have h10 := (hr 10 rfl).trans h10
          have h14 := (hr 14 rfl).trans h14
          have h15 := (hr 15 rfl).trans h15
          have h17 := (hr 17 rfl).trans h17
          have h18 : ρ18 18 = .int .u64 q8 := hf 3 rfl
          have hW := hW.trans hN
          have hsz := Nat.le_trans hsz hN.size
          refine WP.seq ?_
          refine WP.region mixed [[], [], [], [1, 2], [0, 3], [4]] [[], [], [], [1, 2], [0, 3], [4]] [[17], [18], [9], [], [], []] [] []
            [val 97 (.int .u64 (u64 (u64 (u64 (orK .u64 q4 q5 * 4294967296) + shrK .u64 q6 32) - (u64 (x * q3))))), val 98 (.int .u64 q8), val 99 (.int .u64 (shrK .u64 q3 32)), val 100 (.int .u64 (u64 (q8 * (shrK .u64 q3 32)))), val 101 (.int .u64 (u64 (u64 (u64 (u64 (orK .u64 q4 q5 * 4294967296) + shrK .u64 q6 32) - (u64 (x * q3))) - (u64 (q8 * (shrK .u64 q3 32)))))), val 16 (.int .u64 (u64 (u64 (u64 (u64 (orK .u64 q4 q5 * 4294967296) + shrK .u64 q6 32) - (u64 (x * q3))) - (u64 (q8 * (shrK .u64 q3 32))))))] noG (by kernel_rfl)
            ⟨Stable.val _ _ _, Stable.val _ _ _, Stable.val _ _ _, Stable.val _ _ _, Stable.val _ _ _, Stable.val _ _ _, trivial⟩
            ⟨fun ρz wz hE hA ⟨e17, _⟩ _ => core_val rfl rfl (o_move (e17.trans h17)),
     fun ρz wz hE hA ⟨e18, _⟩ _ => core_val rfl rfl (o_move (e18.trans h18)),
     fun ρz wz hE hA ⟨e9, _⟩ _ => core_val rfl rfl (o_move (e9.trans h9)),
     fun ρz wz hE hA _ ⟨u1, u2, _⟩ => core_val rfl rfl (o_mul u1 u2 rfl),
     fun ρz wz hE hA _ ⟨u0, u3, _⟩ => core_val rfl rfl (o_sub u0 u3 rfl),
     fun ρz wz hE hA _ ⟨u4, _⟩ => core_val rfl rfl (o_assign u4), trivial⟩ ?_
          intro ρ19 w19 hE hN hf hr
          have hN := hN rfl
          have h2 := (hr 2 rfl).trans h2
          have h8 := (hr 8 rfl).trans h8
          have h9 := (hr 9 rfl).trans h9
          have h10 := (hr 10 rfl).trans h10
          have h14 := (hr 14 rfl).trans h14
          have h15 := (hr 15 rfl).trans h15
          have h17 := (hr 17 rfl).trans h17
          have h18 := (hr 18 rfl).trans h18
          have h16 : ρ19 16 = .int .u64 (u64 (u64 (u64 (u64 (orK .u64 q4 q5 * 4294967296) + shrK .u64 q6 32) - (u64 (x * q3))) - (u64 (q8 * (shrK .u64 q3 32))))) := hf 5 rfl
          have hW := hW.trans hN
          have hsz := Nat.le_trans hsz hN.size
          refine WP.seqJ (fun ρ w => ∃ x2 : Int, ρ 2 = .int .u64 q3 ∧ ρ 8 = .int .u64 (u64 z) ∧ ρ 14 = .int .u64 (andK .u64 q6 4294967295) ∧ ρ 15 = .int .u64 x ∧ ρ 17 = .int .u64 (u64 (u64 (u64 (orK .u64 q4 q5 * 4294967296) + shrK .u64 q6 32) - (u64 (x * q3)))) ∧ ρ 18 = .int .u64 x2 ∧ Ext noG w0 w ∧ w0.heap.size ≤ w.heap.size ∧ bits_Div64_j4 z q3 q4 q5 q6 x x2 = some r) ?_ ?_
          · refine WP.block ?_
            refine WP.loop (fun k_ ρ w => ∃ x3 : Int, ∃ x4 : Int, ρ 2 = .int .u64 q3 ∧ ρ 8 = .int .u64 (u64 z) ∧ ρ 9 = .int .u64 (shrK .u64 q3 32) ∧ ρ 10 = .int .u64 (andK .u64 q3 4294967295) ∧ ρ 14 = .int .u64 (andK .u64 q6 4294967295) ∧ ρ 15 = .int .u64 x ∧ ρ 17 = .int .u64 (u64 (u64 (u64 (orK .u64 q4 q5 * 4294967296) + shrK .u64 q6 32) - (u64 (x * q3)))) ∧ ρ 18 = .int .u64 x4 ∧ ρ 16 = .int .u64 x3 ∧ Ext noG w0 w ∧ w0.heap.size ≤ w.heap.size ∧ loopC k_ (bits_Div64_l z q3 q4 q5 q6 x) (x3, x4) = some r) FU ⟨u64 (u64 (u64 (u64 (orK .u64 q4 q5 * 4294967296) + shrK .u64 q6 32) - (u64 (x * q3))) - (u64 (q8 * (shrK .u64 q3 32)))), q8, h2, h8, h9, h10, h14, h15, h17, h18, h16, hW, hsz, hF⟩ (fun _ _ h => by obtain ⟨_, _, _, _, _, _, _, _, _, _, _, _, _, h⟩ := h; cases h) ?_
            rintro k_ ρ22 w22 ⟨x3, x4, h2, h8, h9, h10, h14, h15, h17, h18, h16, hW, hsz, hF⟩
            have hF : bits_Div64_l z q3 q4 q5 q6 x (loopC k_ (bits_Div64_l z q3 q4 q5 q6 x)) (x3, x4) = some r := hF
            generalize hrec_ : loopC k_ (bits_Div64_l z q3 q4 q5 q6 x) = rec_ at hF
            rw [bits_Div64_l] at hF
            refine WP.seq ?_
            refine WP.seq ?_
            refine WP.via (fun ρ w => ρ 2 = .int .u64 q3 ∧ ρ 8 = .int .u64 (u64 z) ∧ ρ 9 = .int .u64 (shrK .u64 q3 32) ∧ ρ 10 = .int .u64 (andK .u64 q3 4294967295) ∧ ρ 14 = .int .u64 (andK .u64 q6 4294967295) ∧ ρ 15 = .int .u64 x ∧ ρ 17 = .int .u64 (u64 (u64 (u64 (orK .u64 q4 q5 * 4294967296) + shrK .u64 q6 32) - (u64 (x * q3)))) ∧ ρ 18 = .int .u64 x4 ∧ ρ 16 = .int .u64 x3 ∧ ρ 113 = .bool (decide (4294967296 ≤ x4) || decide (u64 (u64 (4294967296 * x3) + andK .u64 q6 4294967295) < u64 (x4 * (andK .u64 q3 4294967295)))) ∧ Ext noG w0 w ∧ w0.heap.size ≤ w.heap.size) ?_ ?_
            · rcases Bool.eq_false_or_eq_true (decide (4294967296 ≤ x4)) with hd2 | hd2
              · refine WP.region mixed [[], [0], [1], [2], [2], [2], [2], [2], [2], [2], [2], [2]] [[], [0], [1], [2], [2], [2], [2], [2], [2], [2], [2], [2]] [[18], [], [], [], [], [], [], [], [], [], [], []] [] []
                  [val 102 (.int .u64 x4), val 103 (.bool (decide (4294967296 ≤ x4))), val 104 (.bool true), anyF 105, anyF 106, anyF 107, anyF 108, anyF 109, anyF 110, anyF 111, anyF 112, val 113 (.bool true)] noG (by kernel_rfl)
                  ⟨Stable.val _ _ _, Stable.val _ _ _, Stable.val _ _ _, Stable.any _ _, Stable.any _ _, Stable.any _ _, Stable.any _ _, Stable.any _ _, Stable.any _ _, Stable.any _ _, Stable.any _ _, Stable.val _ _ _, trivial⟩
                  ⟨fun ρz wz hE hA ⟨e18, _⟩ _ => core_val rfl rfl (o_move (e18.trans h18)),
     fun ρz wz hE hA _ ⟨u0, _⟩ => core_val rfl rfl (o_geq u0 rfl rfl),
     fun ρz wz hE hA _ ⟨u1, _⟩ => core_valE rfl rfl (congrArg Value.bool hd2) (o_move u1),
     fun _ _ _ _ _ ⟨u2, _⟩ => gNo rfl u2 rfl trivial,
     fun _ _ _ _ _ ⟨u2, _⟩ => gNo rfl u2 rfl trivial,
     fun _ _ _ _ _ ⟨u2, _⟩ => gNo rfl u2 rfl trivial,
     fun _ _ _ _ _ ⟨u2, _⟩ => gNo rfl u2 rfl trivial,
     fun _ _ _ _ _ ⟨u2, _⟩ => gNo rfl u2 rfl trivial,
     fun _ _ _ _ _ ⟨u2, _⟩ => gNo rfl u2 rfl trivial,
     fun _ _ _ _ _ ⟨u2, _⟩ => gNo rfl u2 rfl trivial,
     fun _ _ _ _ _ ⟨u2, _⟩ => gNo rfl u2 rfl trivial,
     fun ρz wz hE hA _ ⟨u2, _⟩ => core_val rfl rfl (o_pick_t u2 rfl), trivial⟩ ?_
                intro ρ24 w24 hE hN hf hr
                have hN := hN rfl
                have h2 := (hr 2 rfl).trans h2
                have h8 := (hr 8 rfl).trans h8
                have h9 := (hr 9 rfl).trans h9
                have h10 := (hr 10 rfl).trans h10
                have h14 := (hr 14 rfl).trans h14
                have h15 := (hr 15 rfl).trans h15
                have h17 := (hr 17 rfl).trans h17
                have h18 := (hr 18 rfl).trans h18
                have h16 := (hr 16 rfl).trans h16
                have h113 : ρ24 113 = .bool true := hf 11 rfl
                have hW := hW.trans hN
                have hsz := Nat.le_trans hsz hN.size
                exact ⟨h2, h8, h9, h10, h14, h15, h17, h18, h16, (h113.trans (congrArg Value.bool (by simp [hd2]))), hW, hsz⟩
              · refine WP.region mixed [[], [0], [1], [2], [2], [2, 3, 4], [2], [2, 6], [2], [2, 7, 8], [2, 5, 9], [2, 10]] [[], [0], [1], [2], [2], [2, 3, 4], [2], [2, 6], [2], [2, 7, 8], [2, 5, 9], [2, 10]] [[18], [], [], [18], [10], [], [16], [], [14], [], [], []] [] []
                  [val 102 (.int .u64 x4), val 103 (.bool (decide (4294967296 ≤ x4))), val 104 (.bool false), val 105 (.int .u64 x4), val 106 (.int .u64 (andK .u64 q3 4294967295)), val 107 (.int .u64 (u64 (x4 * (andK .u64 q3 4294967295)))), val 108 (.int .u64 x3), val 109 (.int .u64 (u64 (4294967296 * x3))), val 110 (.int .u64 (andK .u64 q6 4294967295)), val 111 (.int .u64 (u64 (u64 (4294967296 * x3) + andK .u64 q6 4294967295))), val 112 (.bool (decide (u64 (u64 (4294967296 * x3) + andK .u64 q6 4294967295) < u64 (x4 * (andK .u64 q3 4294967295))))), val 113 (.bool (decide (u64 (u64 (4294967296 * x3) + andK .u64 q6 4294967295) < u64 (x4 * (andK .u64 q3 4294967295)))))] noG (by kernel_rfl)
                  ⟨Stable.val _ _ _, Stable.val _ _ _, Stable.val _ _ _, Stable.val _ _ _, Stable.val _ _ _, Stable.val _ _ _, Stable.val _ _ _, Stable.val _ _ _, Stable.val _ _ _, Stable.val _ _ _, Stable.val _ _ _, Stable.val _ _ _, trivial⟩
                  ⟨fun ρz wz hE hA ⟨e18, _⟩ _ => core_val rfl rfl (o_move (e18.trans h18)),
     fun ρz wz hE hA _ ⟨u0, _⟩ => core_val rfl rfl (o_geq u0 rfl rfl),
     fun ρz wz hE hA _ ⟨u1, _⟩ => core_valE rfl rfl (congrArg Value.bool hd2) (o_move u1),
     fun ρz wz hE hA ⟨e18, _⟩ ⟨u2, _⟩ => gYes rfl u2 (core_val rfl rfl (o_move (e18.trans h18))),
     fun ρz wz hE hA ⟨e10, _⟩ ⟨u2, _⟩ => gYes rfl u2 (core_val rfl rfl (o_move (e10.trans h10))),
     fun ρz wz hE hA _ ⟨u2, u3, u4, _⟩ => gYes rfl u2 (core_val rfl rfl (o_mul u3 u4 rfl)),
     fun ρz wz hE hA ⟨e16, _⟩ ⟨u2, _⟩ => gYes rfl u2 (core_val rfl rfl (o_move (e16.trans h16))),
     fun ρz wz hE hA _ ⟨u2, u6, _⟩ => gYes rfl u2 (core_val rfl rfl (o_mul rfl u6 rfl)),
     fun ρz wz hE hA ⟨e14, _⟩ ⟨u2, _⟩ => gYes rfl u2 (core_val rfl rfl (o_move (e14.trans h14))),
     fun ρz wz hE hA _ ⟨u2, u7, u8, _⟩ => gYes rfl u2 (core_val rfl rfl (o_add u7 u8 rfl)),
     fun ρz wz hE hA _ ⟨u2, u5, u9, _⟩ => gYes rfl u2 (core_val rfl rfl (o_gtr u5 u9 rfl)),
     fun ρz wz hE hA _ ⟨u2, u10, _⟩ => core_val rfl rfl (o_pick_f u2 u10), trivial⟩ ?_
                intro ρ25 w25 hE hN hf hr
                have hN := hN rfl
                have h2 := (hr 2 rfl).trans h2
                have h8 := (hr 8 rfl).trans h8
                have h9 := (hr 9 rfl).trans h9
                have h10 := (hr 10 rfl).trans h10
                have h14 := (hr 14 rfl).trans h14
                have h15 := (hr 15 rfl).trans h15
                have h17 := (hr 17 rfl).trans h17
                have h18 := (hr 18 rfl).trans h18
                have h16 := (hr 16 rfl).trans h16
                have h113 : ρ25 113 = .bool (decide (u64 (u64 (4294967296 * x3) + andK .u64 q6 4294967295) < u64 (x4 * (andK .u64 q3 4294967295)))) := hf 11 rfl
                have hW := hW.trans hN
                have hsz := Nat.le_trans hsz hN.size
                exact ⟨h2, h8, h9, h10, h14, h15, h17, h18, h16, (h113.trans (congrArg Value.bool (by simp [hd2]))), hW, hsz⟩
            rintro ρ23 w23 ⟨h2, h8, h9, h10, h14, h15, h17, h18, h16, h113, hW, hsz⟩
            refine WP.cond rfl h113 (fun hb => ?_) (fun hb => ?_)
            · have hF := (if_pos hb).symm.trans hF
              refine WP.skip ?_
              refine WP.block ?_
              refine WP.seq ?_
              refine WP.region mixed [[], [0], [0, 1]] [[], [0], [1]] [[18], [], []] [] []
                [val 114 (.int .u64 x4), val 115 (.int .u64 (u64 (x4 - 1))), val 18 (.int .u64 (u64 (x4 - 1)))] noG (by kernel_rfl)
                ⟨Stable.val _ _ _, Stable.val _ _ _, Stable.val _ _ _, trivial⟩
                ⟨fun ρz wz hE hA ⟨e18, _⟩ _ => core_val rfl rfl (o_move (e18.trans h18)),
     fun ρz wz hE hA _ ⟨u0, _⟩ => core_val rfl rfl (o_sub u0 rfl rfl),
     fun ρz wz hE hA _ ⟨u1, _⟩ => core_val rfl rfl (o_assign u1), trivial⟩ ?_
              intro ρ26 w26 hE hN hf hr
              have hN := hN rfl
              have h2 := (hr 2 rfl).trans h2
              have h8 := (hr 8 rfl).trans h8
              have h9 := (hr 9 rfl).trans h9
              have h10 := (hr 10 rfl).trans h10
              have h14 := (hr 14 rfl).trans h14
              have h15 := (hr 15 rfl).trans h15
              have h17 := (hr 17 rfl).trans h17
              have h18 : ρ26 18 = .int .u64 (u64 (x4 - 1)) := hf 2 rfl
              have h16 := (hr 16 rfl).trans h16
              have hW := hW.trans hN
              have hsz := Nat.le_trans hsz hN.size
              refine WP.seq ?_
              refine WP.region mixed [[], [], [0, 1], [0, 2]] [[], [], [0, 1], [2]] [[16], [9], [], []] [] []
                [val 116 (.int .u64 x3), val 117 (.int .u64 (shrK .u64 q3 32)), val 118 (.int .u64 (u64 (x3 + shrK .u64 q3 32))), val 16 (.int .u64 (u64 (x3 + shrK .u64 q3 32)))] noG (by kernel_rfl)
                ⟨Stable.val _ _ _, Stable.val _ _ _, Stable.val _ _ _, Stable.val _ _ _, trivial⟩
                ⟨fun ρz wz hE hA ⟨e16, _⟩ _ => core_val rfl rfl (o_move (e16.trans h16)),
     fun ρz wz hE hA ⟨e9, _⟩ _ => core_val rfl rfl (o_move (e9.trans h9)),
     fun ρz wz hE hA _ ⟨u0, u1, _⟩ => core_val rfl rfl (o_add u0 u1 rfl),
     fun ρz wz hE hA _ ⟨u2, _⟩ => core_val rfl rfl (o_assign u2), trivial⟩ ?_
              intro ρ27 w27 hE hN hf hr
              have hN := hN rfl
              have h2 := (hr 2 rfl).trans h2
              have h8 := (hr 8 rfl).trans h8
              have h9 := (hr 9 rfl).trans h9
              have h10 := (hr 10 rfl).trans h10
              have h14 := (hr 14 rfl).trans h14
              have h15 := (hr 15 rfl).trans h15
              have h17 := (hr 17 rfl).trans h17
              have h18 := (hr 18 rfl).trans h18
              have h16 : ρ27 16 = .int .u64 (u64 (x3 + shrK .u64 q3 32)) := hf 3 rfl
              have hW := hW.trans hN
              have hsz := Nat.le_trans hsz hN.size
              refine WP.seq ?_
              refine WP.region mixed [[], [0]] [[], [0]] [[16], []] [] []
                [val 119 (.int .u64 (u64 (x3 + shrK .u64 q3 32))), val 120 (.bool (decide (4294967296 ≤ u64 (x3 + shrK .u64 q3 32))))] noG (by kernel_rfl)
                ⟨Stable.val _ _ _, Stable.val _ _ _, trivial⟩
                ⟨fun ρz wz hE hA ⟨e16, _⟩ _ => core_val rfl rfl (o_move (e16.trans h16)),
     fun ρz wz hE hA _ ⟨u0, _⟩ => core_val rfl rfl (o_geq u0 rfl rfl), trivial⟩ ?_
              intro ρ28 w28 hE hN hf hr
              have hN := hN rfl
              have h2 := (hr 2 rfl).trans h2
              have h8 := (hr 8 rfl).trans h8
              have h9 := (hr 9 rfl).trans h9
              have h10 := (hr 10 rfl).trans h10
              have h14 := (hr 14 rfl).trans h14
              have h15 := (hr 15 rfl).trans h15
              have h17 := (hr 17 rfl).trans h17
              have h18 := (hr 18 rfl).trans h18
              have h16 := (hr 16 rfl).trans h16
              have h120 : ρ28 120 = .bool (decide (4294967296 ≤ u64 (x3 + shrK .u64 q3 32))) := hf 1 rfl
              have hW := hW.trans hN
              have hsz := Nat.le_trans hsz hN.size
              refine WP.cond rfl h120 (fun hb => ?_) (fun hb => ?_)
              · have hF := (if_pos hb).symm.trans hF
                refine WP.exit ?_
                refine blockQ_pass (by decide) ?_
                refine thenQ_exit ?_
                refine blockQ_hit ?_
                exact ⟨u64 (x4 - 1), h2, h8, h14, h15, h17, h18, hW, hsz, hF⟩
              · have hF := (if_neg (Bool.eq_false_iff.1 hb)).symm.trans hF
                refine WP.skip ?_
                exact ⟨u64 (x3 + shrK .u64 q3 32), u64 (x4 - 1), h2, h8, h9, h10, h14, h15, h17, h18, h16, hW, hsz, (by first | exact hF | (rw [hrec_]; exact hF))⟩
            · have hF := (if_neg (Bool.eq_false_iff.1 hb)).symm.trans hF
              refine WP.exit ?_
              refine thenQ_exit ?_
              refine thenQ_exit ?_
              refine blockQ_hit ?_
              exact ⟨x4, h2, h8, h14, h15, h17, h18, hW, hsz, hF⟩
          · rintro ρ20 w20 ⟨x2, h2, h8, h14, h15, h17, h18, hW, hsz, hF⟩
            rw [bits_Div64_j4] at hF
            refine WP.seq ?_
            obtain ⟨q9, hq9, hF⟩ := obind hF
            refine WP.region mixed [[], [0], [], [1, 2], [], [4], [], [5, 6], [], [], [8, 9], [7, 10], [], [11, 12], [3], [13]] [[], [0], [], [1, 2], [], [4], [], [5, 6], [], [], [8, 9], [7, 10], [], [11, 12], [3], [13]] [[15], [], [18], [], [17], [], [14], [], [18], [2], [], [], [8], [], [], []] [] []
              [val 121 (.int .u64 x), val 122 (.int .u64 (u64 (x * 4294967296))), val 123 (.int .u64 x2), val 124 (.int .u64 (u64 (u64 (x * 4294967296) + x2))), val 125 (.int .u64 (u64 (u64 (u64 (orK .u64 q4 q5 * 4294967296) + shrK .u64 q6 32) - (u64 (x * q3))))), val 126 (.int .u64 (u64 (u64 (u64 (u64 (orK .u64 q4 q5 * 4294967296) + shrK .u64 q6 32) - (u64 (x * q3))) * 4294967296))), val 127 (.int .u64 (andK .u64 q6 4294967295)), val 128 (.int .u64 (u64 (u64 (u64 (u64 (u64 (orK .u64 q4 q5 * 4294967296) + shrK .u64 q6 32) - (u64 (x * q3))) * 4294967296) + andK .u64 q6 4294967295))), val 129 (.int .u64 x2), val 130 (.int .u64 q3), val 131 (.int .u64 (u64 (x2 * q3))), val 132 (.int .u64 (u64 (u64 (u64 (u64 (u64 (u64 (orK .u64 q4 q5 * 4294967296) + shrK .u64 q6 32) - (u64 (x * q3))) * 4294967296) + andK .u64 q6 4294967295) - (u64 (x2 * q3))))), val 133 (.int .u64 (u64 z)), val 134 (.int .u64 q9), val 6 (.int .u64 (u64 (u64 (x * 4294967296) + x2))), val 7 (.int .u64 q9)] noG (by kernel_rfl)
              ⟨Stable.val _ _ _, Stable.val _ _ _, Stable.val _ _ _, Stable.val _ _ _, Stable.val _ _ _, Stable.val _ _ _, Stable.val _ _ _, Stable.val _ _ _, Stable.val _ _ _, Stable.val _ _ _, Stable.val _ _ _, Stable.val _ _ _, Stable.val _ _ _, Stable.val _ _ _, Stable.val _ _ _, Stable.val _ _ _, trivial⟩
              ⟨fun ρz wz hE hA ⟨e15, _⟩ _ => core_val rfl rfl (o_move (e15.trans h15)),
     fun ρz wz hE hA _ ⟨u0, _⟩ => core_val rfl rfl (o_mul u0 rfl rfl),
     fun ρz wz hE hA ⟨e18, _⟩ _ => core_val rfl rfl (o_move (e18.trans h18)),
     fun ρz wz hE hA _ ⟨u1, u2, _⟩ => core_val rfl rfl (o_add u1 u2 rfl),
     fun ρz wz hE hA ⟨e17, _⟩ _ => core_val rfl rfl (o_move (e17.trans h17)),
     fun ρz wz hE hA _ ⟨u4, _⟩ => core_val rfl rfl (o_mul u4 rfl rfl),
     fun ρz wz hE hA ⟨e14, _⟩ _ => core_val rfl rfl (o_move (e14.trans h14)),
     fun ρz wz hE hA _ ⟨u5, u6, _⟩ => core_val rfl rfl (o_add u5 u6 rfl),
     fun ρz wz hE hA ⟨e18, _⟩ _ => core_val rfl rfl (o_move (e18.trans h18)),
     fun ρz wz hE hA ⟨e2, _⟩ _ => core_val rfl rfl (o_move (e2.trans h2)),
     fun ρz wz hE hA _ ⟨u8, u9, _⟩ => core_val rfl rfl (o_mul u8 u9 rfl),
     fun ρz wz hE hA _ ⟨u7, u10, _⟩ => core_val rfl rfl (o_sub u7 u10 rfl),
     fun ρz wz hE hA ⟨e8, _⟩ _ => core_val rfl rfl (o_move (e8.trans h8)),
     fun ρz wz hE hA _ ⟨u11, u12, _⟩ => core_val rfl rfl (o_shr u11 u12 (shrO_some hq9).1 (shrO_some hq9).2),
     fun ρz wz hE hA _ ⟨u3, _⟩ => core_val rfl rfl (o_assign u3),
     fun ρz wz hE hA _ ⟨u13, _⟩ => core_val rfl rfl (o_assign u13), trivial⟩ ?_
            intro ρ21 w21 hE hN hf hr
            have hN := hN rfl
            have h6 : ρ21 6 = .int .u64 (u64 (u64 (x * 4294967296) + x2)) := hf 14 rfl
            have h7 : ρ21 7 = .int .u64 q9 := hf 15 rfl
            have hW := hW.trans hN
            have hsz := Nat.le_trans hsz hN.size
            refine WP.ret ?_
            show retQ Tryd.prog 135 Tryd.f81 (fun v w1 => v = .tuple #[.int .u64 r.1, .int .u64 r.2] ∧ Ext noG w0 w1) .ret ρ21 w21
            obtain rfl := Option.some.inj hF
            exact res2 rfl (by decide) (by decide) h6 h7 ⟨rfl, hW⟩

set_option maxHeartbeats 4000000 in
theorem money_divide_ok {w0 : World} (d_ : Bool) (i_ : Int) (p_ : Int) (p_2 : Int) (p_3 : Rounding) {r : Int × Int} (hF : money_divide d_ i_ p_ p_2 p_3 = some r) :
    Calls Tryd.prog 58 #[.bool d_, .int .u64 i_, .int .u64 p_, .int .u64 p_2, Rounding.val p_3] w0 fun e w1 => e = .returned (.tuple #[.int .i64 r.1, .int .i64 r.2]) ∧ Ext noG w0 w1 := by
  refine (Calls.start (P := Tryd.prog) (args := [.bool d_, .int .u64 i_, .int .u64 p_, .int .u64 p_2, Rounding.val p_3]) (R := fun v w1 => v = .tuple #[.int .i64 r.1, .int .i64 r.2] ∧ Ext noG w0 w1) (n := 97) (w := w0) Tryd.func58 rfl rfl (Nat.le_of_ble_eq_true rfl) (fun ρ hargs => ?_)).mono (fun e w1 ⟨v, he, hv, hE⟩ => ⟨hv ▸ he, hE⟩)
  have h0 := hargs 0 _ rfl
  have h1 := hargs 1 _ rfl
  have h2 := hargs 2 _ rfl
  have h3 := hargs 3 _ rfl
  have h4 := hargs 4 _ rfl
  have hW := Ext.refl noG w0
  have hsz := Nat.le_refl w0.heap.size
  rw [money_divide] at hF
  refine WP.seq ?_
  refine WP.region mixed [[], [], []] [[], [], []] [[4], [], []] [] []
    [(9, fun u wz => ∃ b, u = .pointer (some ⟨b, 0, none⟩) ∧ w0.heap.size ≤ b ∧ Mb wz b 72 (Rounding.cells p_3)), val 10 (.int .i64 0), val 11 (.int .i64 0)] noG (by kernel_rfl)
    ⟨fun _ _ _ hE ⟨b, hb, hs, hM⟩ => ⟨b, hb, hs, hM.exn hE⟩, Stable.val _ _ _, Stable.val _ _ _, trivial⟩
    ⟨fun ρz wz hE hA ⟨e4, _⟩ _ => core_new rfl rfl hE (o_box (e4.trans h4) (bx_72 _ _)),
     fun ρz wz hE hA _ _ => core_val rfl rfl (o_assign rfl),
     fun ρz wz hE hA _ _ => core_val rfl rfl (o_assign rfl), trivial⟩ ?_
  intro ρ1 w1 hE hN hf hr
  have hN := hN rfl
  have h0 := (hr 0 rfl).trans h0
  have h1 := (hr 1 rfl).trans h1
  have h2 := (hr 2 rfl).trans h2
  have h3 := (hr 3 rfl).trans h3
  obtain ⟨b9_, h9, hge_b9_, Hb_b9_⟩ := hf 0 rfl
  have hW := hW.trans hN
  have hB_b9_ : w0.heap.size ≤ b9_ := Nat.le_trans hsz hge_b9_
  have hsz := Nat.le_trans hsz hN.size
  refine WP.seq ?_
  refine WP.region mixed [[], [], [1], [2], [0, 3], [4]] [[], [], [1], [2], [0, 3], [4]] [[3], [9], [], [], [], []] [] []
    [val 17 (.int .u64 p_2), val 18 (.pointer (some ((⟨b9_, 0, none⟩ : Addr).add 1))), val 19 (.int .i64 p_3.Unit), val 20 (.int .u64 (u64 p_3.Unit)), val 21 (.int .u64 (u64 (p_2 * (u64 p_3.Unit)))), val 12 (.int .u64 (u64 (p_2 * (u64 p_3.Unit))))] noG (by kernel_rfl)
    ⟨Stable.val _ _ _, Stable.val _ _ _, Stable.val _ _ _, Stable.val _ _ _, Stable.val _ _ _, Stable.val _ _ _, trivial⟩
    ⟨fun ρz wz hE hA ⟨e3, _⟩ _ => core_val rfl rfl (o_move (e3.trans h3)),
     fun ρz wz hE hA ⟨e9, _⟩ _ => core_val rfl rfl (o_fieldAddr (e9.trans h9) (fa_72_1 _ _)),
     fun ρz wz hE hA _ ⟨u1, _⟩ => core_val rfl rfl (o_load u1 (run_load1 (lr_3 _ _) (CA.sub ((Hb_b9_.exn (hA rfl)).ca) 1 1))),
     fun ρz wz hE hA _ ⟨u2, _⟩ => core_val rfl rfl (o_conv u2 (cv_3_62 _ _)),
     fun ρz wz hE hA _ ⟨u0, u3, _⟩ => core_val rfl rfl (o_mul u0 u3 rfl),
     fun ρz wz hE hA _ ⟨u4, _⟩ => core_val rfl rfl (o_assign u4), trivial⟩ ?_
  intro ρ2 w2 hE hN hf hr
  have hN := hN rfl
  have h0 := (hr 0 rfl).trans h0
  have h1 := (hr 1 rfl).trans h1
  have h2 := (hr 2 rfl).trans h2
  have h9 := (hr 9 rfl).trans h9
  have h12 : ρ2 12 = .int .u64 (u64 (p_2 * (u64 p_3.Unit))) := hf 5 rfl
  have Hb_b9_n := Hb_b9_.exn hN
  have hW := hW.trans hN
  have Hb_b9_ := Hb_b9_n
  have hsz := Nat.le_trans hsz hN.size
  refine WP.seq ?_
  refine WP.seq ?_
  refine WP.region mixed [[], [], [0, 1]] [[], [], [0, 1]] [[1], [12], []] [] []
    [val 22 (.int .u64 i_), val 23 (.int .u64 (u64 (p_2 * (u64 p_3.Unit)))), val 24 (.bool (decide (u64 (p_2 * (u64 p_3.Unit)) ≤ i_)))] noG (by kernel_rfl)
    ⟨Stable.val _ _ _, Stable.val _ _ _, Stable.val _ _ _, trivial⟩
    ⟨fun ρz wz hE hA ⟨e1, _⟩ _ => core_val rfl rfl (o_move (e1.trans h1)),
     fun ρz wz hE hA ⟨e12, _⟩ _ => core_val rfl rfl (o_move (e12.trans h12)),
     fun ρz wz hE hA _ ⟨u0, u1, _⟩ => core_val rfl rfl (o_geq u0 u1 rfl), trivial⟩ ?_
  intro ρ3 w3 hE hN hf hr
  have hN := hN rfl
  have h0 := (hr 0 rfl).trans h0
  have h1 := (hr 1 rfl).trans h1
  have h2 := (hr 2 rfl).trans h2
  have h9 := (hr 9 rfl).trans h9
  have h12 := (hr 12 rfl).trans h12
  have h24 : ρ3 24 = .bool (decide (u64 (p_2 * (u64 p_3.Unit)) ≤ i_)) := hf 2 rfl
  have Hb_b9_n := Hb_b9_.exn hN
  have hW := hW.trans hN
  have Hb_b9_ := Hb_b9_n
  have hsz := Nat.le_trans hsz hN.size
  refine WP.cond rfl h24 (fun hb => ?_) (fun hb => ?_)
  · have hF := (if_pos hb).symm.trans hF
    refine WP.seq ?_
    refine WP.region mixed [[], []] [[], []] [[], []] [] []
      [val 10 (.int .i64 0), val 11 (.int .i64 2)] noG (by kernel_rfl)
      ⟨Stable.val _ _ _, Stable.val _ _ _, trivial⟩
      ⟨fun ρz wz hE hA _ _ => core_val rfl rfl (o_assign rfl),
     fun ρz wz hE hA _ _ => core_val rfl rfl (o_assign rfl), trivial⟩ ?_
    intro ρ4 w4 hE hN hf hr
    have hN := hN rfl
    have h10 : ρ4 10 = .int .i64 0 := hf 0 rfl
    have h11 : ρ4 11 = .int .i64 2 := hf 1 rfl
    have hW := hW.trans hN
    have hsz := Nat.le_trans hsz hN.size
    refine WP.ret ?_
    show retQ Tryd.prog 97 Tryd.f58 (fun v w1 => v = .tuple #[.int .i64 r.1, .int .i64 r.2] ∧ Ext noG w0 w1) .ret ρ4 w4
    obtain rfl := Option.some.inj hF
    exact res2 rfl (by decide) (by decide) h10 h11 ⟨rfl, hW⟩
  · have hF := (if_neg (Bool.eq_false_iff.1 hb)).symm.trans hF
    refine WP.skip ?_
    refine WP.seq ?_
    obtain ⟨z, hz, hF⟩ := obind hF
    refine WP.region mixed [[], [], [], [0, 1, 2], [3], [4], [4], [5], [6]] [[], [], [], [0, 1, 2], [3], [4], [4], [5], [6]] [[1], [2], [12], [], [], [], [], [], []] [] []
      [val 26 (.int .u64 i_), val 27 (.int .u64 p_), val 28 (.int .u64 (u64 (p_2 * (u64 p_3.Unit)))), val 29 (.tuple #[.int .u64 z.1, .int .u64 z.2]), val 25 (.tuple #[.int .u64 z.1, .int .u64 z.2]), val 30 (.int .u64 z.1), val 31 (.int .u64 z.2), val 13 (.int .u64 z.1), val 14 (.int .u64 z.2)] noG (by kernel_rfl)
      ⟨Stable.val _ _ _, Stable.val _ _ _, Stable.val _ _ _, Stable.val _ _ _, Stable.val _ _ _, Stable.val _ _ _, Stable.val _ _ _, Stable.val _ _ _, Stable.val _ _ _, trivial⟩
      ⟨fun ρz wz hE hA ⟨e1, _⟩ _ => core_val rfl rfl (o_move (e1.trans h1)),
     fun ρz wz hE hA ⟨e2, _⟩ _ => core_val rfl rfl (o_move (e2.trans h2)),
     fun ρz wz hE hA ⟨e12, _⟩ _ => core_val rfl rfl (o_move (e12.trans h12)),
     fun ρz wz hE hA _ ⟨u0, u1, u2, _⟩ => core_call rfl (call_args3 u0 u1 u2) cf_81 (bits_Div64_ok  _ _ _  hz),
     fun ρz wz hE hA _ ⟨u3, _⟩ => core_val rfl rfl (o_move u3),
     fun ρz wz hE hA _ ⟨u4, _⟩ => core_val rfl rfl (o_extract u4 (by kernel_rfl)),
     fun ρz wz hE hA _ ⟨u4, _⟩ => core_val rfl rfl (o_extract u4 (by kernel_rfl)),
     fun ρz wz hE hA _ ⟨u5, _⟩ => core_val rfl rfl (o_assign u5),
     fun ρz wz hE hA _ ⟨u6, _⟩ => core_val rfl rfl (o_assign u6), trivial⟩ ?_
    intro ρ5 w5 hE hN hf hr
    have hN := hN rfl
    have h0 := (hr 0 rfl).trans h0
    have h9 := (hr 9 rfl).trans h9
    have h12 := (hr 12 rfl).trans h12
    have h13 : ρ5 13 = .int .u64 z.1 := hf 7 rfl
    have h14 : ρ5 14 = .int .u64 z.2 := hf 8 rfl
    have Hb_b9_n := Hb_b9_.exn hN
    have hW := hW.trans hN
    have Hb_b9_ := Hb_b9_n
    have hsz := Nat.le_trans hsz hN.size
    refine WP.seq ?_
    refine WP.seq ?_
    refine WP.region mixed [[], [0]] [[], [0]] [[13], []] [] []
      [val 32 (.int .u64 z.1), val 33 (.bool (decide (2000000000000 < z.1)))] noG (by kernel_rfl)
      ⟨Stable.val _ _ _, Stable.val _ _ _, trivial⟩
      ⟨fun ρz wz hE hA ⟨e13, _⟩ _ => core_val rfl rfl (o_move (e13.trans h13)),
     fun ρz wz hE hA _ ⟨u0, _⟩ => core_val rfl rfl (o_gtr u0 rfl rfl), trivial⟩ ?_
    intro ρ6 w6 hE hN hf hr
    have hN := hN rfl
    have h0 := (hr 0 rfl).trans h0
    have h9 := (hr 9 rfl).trans h9
    have h12 := (hr 12 rfl).trans h12
    have h13 := (hr 13 rfl).trans h13
    have h14 := (hr 14 rfl).trans h14
    have h33 : ρ6 33 = .bool (decide (2000000000000 < z.1)) := hf 1 rfl
    have Hb_b9_n := Hb_b9_.exn hN
    have hW := hW.trans hN
    have Hb_b9_ := Hb_b9_n
    have hsz := Nat.le_trans hsz hN.size
    refine WP.cond rfl h33 (fun hb => ?_) (fun hb => ?_)
    · have hF := (if_pos hb).symm.trans hF
      refine WP.seq ?_
      refine WP.region mixed [[], []] [[], []] [[], []] [] []
        [val 10 (.int .i64 0), val 11 (.int .i64 2)] noG (by kernel_rfl)
        ⟨Stable.val _ _ _, Stable.val _ _ _, trivial⟩
        ⟨fun ρz wz hE hA _ _ => core_val rfl rfl (o_assign rfl),
     fun ρz wz hE hA _ _ => core_val rfl rfl (o_assign rfl), trivial⟩ ?_
      intro ρ7 w7 hE hN hf hr
      have hN := hN rfl
      have h10 : ρ7 10 = .int .i64 0 := hf 0 rfl
      have h11 : ρ7 11 = .int .i64 2 := hf 1 rfl
      have hW := hW.trans hN
      have hsz := Nat.le_trans hsz hN.size
      refine WP.ret ?_
      show retQ Tryd.prog 97 Tryd.f58 (fun v w1 => v = .tuple #[.int .i64 r.1, .int .i64 r.2] ∧ Ext noG w0 w1) .ret ρ7 w7
      obtain rfl := Option.some.inj hF
      exact res2 rfl (by decide) (by decide) h10 h11 ⟨rfl, hW⟩
    · have hF := (if_neg (Bool.eq_false_iff.1 hb)).symm.trans hF
      refine WP.skip ?_
      refine WP.seq ?_
      refine WP.region mixed [[], [0], [1]] [[], [0], [1]] [[13], [], []] [] []
        [val 34 (.int .u64 z.1), val 35 (.int .i64 (i64 z.1)), val 15 (.int .i64 (i64 z.1))] noG (by kernel_rfl)
        ⟨Stable.val _ _ _, Stable.val _ _ _, Stable.val _ _ _, trivial⟩
        ⟨fun ρz wz hE hA ⟨e13, _⟩ _ => core_val rfl rfl (o_move (e13.trans h13)),
     fun ρz wz hE hA _ ⟨u0, _⟩ => core_val rfl rfl (o_conv u0 (cv_62_3 _ _)),
     fun ρz wz hE hA _ ⟨u1, _⟩ => core_val rfl rfl (o_assign u1), trivial⟩ ?_
      intro ρ8 w8 hE hN hf hr
      have hN := hN rfl
      have h0 := (hr 0 rfl).trans h0
      have h9 := (hr 9 rfl).trans h9
      have h12 := (hr 12 rfl).trans h12
      have h14 := (hr 14 rfl).trans h14
      have h15 : ρ8 15 = .int .i64 (i64 z.1) := hf 2 rfl
      have Hb_b9_n := Hb_b9_.exn hN
      have hW := hW.trans hN
      have Hb_b9_ := Hb_b9_n
      have hsz := Nat.le_trans hsz hN.size
      refine WP.seqJ (fun ρ w => ∃ x : Int, ∃ x2 : Int, ρ 9 = .pointer (some ⟨b9_, 0, none⟩) ∧ ρ 12 = .int .u64 (u64 (p_2 * (u64 p_3.Unit))) ∧ ρ 14 = .int .u64 x ∧ ρ 15 = .int .i64 x2 ∧ Mb w b9_ 72 (Rounding.cells p_3) ∧ Ext noG w0 w ∧ w0.heap.size ≤ w.heap.size ∧ money_divide_j p_2 p_3 x x2 = some r) ?_ ?_
      · refine WP.seq ?_
        refine WP.region mixed [[]] [[]] [[0]] [] []
          [val 36 (.bool d_)] noG (by kernel_rfl)
          ⟨Stable.val _ _ _, trivial⟩
          ⟨fun ρz wz hE hA ⟨e0, _⟩ _ => core_val rfl rfl (o_move (e0.trans h0)), trivial⟩ ?_
        intro ρ30 w30 hE hN hf hr
        have hN := hN rfl
        have h9 := (hr 9 rfl).trans h9
        have h12 := (hr 12 rfl).trans h12
        have h14 := (hr 14 rfl).trans h14
        have h15 := (hr 15 rfl).trans h15
        have h36 : ρ30 36 = .bool d_ := hf 0 rfl
        have Hb_b9_n := Hb_b9_.exn hN
        have hW := hW.trans hN
        have Hb_b9_ := Hb_b9_n
        have hsz := Nat.le_trans hsz hN.size
        refine WP.cond rfl h36 (fun hb => ?_) (fun hb => ?_)
        · have hF := (if_pos hb).symm.trans hF
          refine WP.seq ?_
          refine WP.region mixed [[], [0], [0, 1]] [[], [0], [1]] [[15], [], []] [] []
            [val 37 (.int .i64 (i64 z.1)), val 38 (.int .i64 (i64 (-(i64 z.1)))), val 15 (.int .i64 (i64 (-(i64 z.1))))] noG (by kernel_rfl)
            ⟨Stable.val _ _ _, Stable.val _ _ _, Stable.val _ _ _, trivial⟩
            ⟨fun ρz wz hE hA ⟨e15, _⟩ _ => core_val rfl rfl (o_move (e15.trans h15)),
     fun ρz wz hE hA _ ⟨u0, _⟩ => core_val rfl rfl (o_neg u0 rfl),
     fun ρz wz hE hA _ ⟨u1, _⟩ => core_val rfl rfl (o_assign u1), trivial⟩ ?_
          intro ρ31 w31 hE hN hf hr
          have hN := hN rfl
          have h9 := (hr 9 rfl).trans h9
          have h12 := (hr 12 rfl).trans h12
          have h14 := (hr 14 rfl).trans h14
          have h15 : ρ31 15 = .int .i64 (i64 (-(i64 z.1))) := hf 2 rfl
          have Hb_b9_n := Hb_b9_.exn hN
          have hW := hW.trans hN
          have Hb_b9_ := Hb_b9_n
          have hsz := Nat.le_trans hsz hN.size
          refine WP.seq ?_
          refine WP.region mixed [[], [0]] [[], [0]] [[14], []] [] []
            [val 39 (.int .u64 z.2), val 40 (.bool (decide (0 < z.2)))] noG (by kernel_rfl)
            ⟨Stable.val _ _ _, Stable.val _ _ _, trivial⟩
            ⟨fun ρz wz hE hA ⟨e14, _⟩ _ => core_val rfl rfl (o_move (e14.trans h14)),
     fun ρz wz hE hA _ ⟨u0, _⟩ => core_val rfl rfl (o_gtr u0 rfl rfl), trivial⟩ ?_
          intro ρ32 w32 hE hN hf hr
          have hN := hN rfl
          have h9 := (hr 9 rfl).trans h9
          have h12 := (hr 12 rfl).trans h12
          have h14 := (hr 14 rfl).trans h14
          have h15 := (hr 15 rfl).trans h15
          have h40 : ρ32 40 = .bool (decide (0 < z.2)) := hf 1 rfl
          have Hb_b9_n := Hb_b9_.exn hN
          have hW := hW.trans hN
          have Hb_b9_ := Hb_b9_n
          have hsz := Nat.le_trans hsz hN.size
          refine WP.cond rfl h40 (fun hb => ?_) (fun hb => ?_)
          · have hF := (if_pos hb).symm.trans hF
            refine WP.seq ?_
            refine WP.region mixed [[], [0], [0, 1]] [[], [0], [1]] [[15], [], []] [] []
              [val 41 (.int .i64 (i64 (-(i64 z.1)))), val 42 (.int .i64 (i64 (i64 (-(i64 z.1)) - 1))), val 15 (.int .i64 (i64 (i64 (-(i64 z.1)) - 1)))] noG (by kernel_rfl)
              ⟨Stable.val _ _ _, Stable.val _ _ _, Stable.val _ _ _, trivial⟩
              ⟨fun ρz wz hE hA ⟨e15, _⟩ _ => core_val rfl rfl (o_move (e15.trans h15)),
     fun ρz wz hE hA _ ⟨u0, _⟩ => core_val rfl rfl (o_sub u0 rfl rfl),
     fun ρz wz hE hA _ ⟨u1, _⟩ => core_val rfl rfl (o_assign u1), trivial⟩ ?_
            intro ρ33 w33 hE hN hf hr
            have hN := hN rfl
            have h9 := (hr 9 rfl).trans h9
            have h12 := (hr 12 rfl).trans h12
            have h14 := (hr 14 rfl).trans h14
            have h15 : ρ33 15 = .int .i64 (i64 (i64 (-(i64 z.1)) - 1)) := hf 2 rfl
            have Hb_b9_n := Hb_b9_.exn hN
            have hW := hW.trans hN
            have Hb_b9_ := Hb_b9_n
            have hsz := Nat.le_trans hsz hN.size
            refine WP.region mixed [[], [], [0, 1], [1, 2]] [[], [], [0, 1], [2]] [[12], [14], [], []] [] []
              [val 43 (.int .u64 (u64 (p_2 * (u64 p_3.Unit)))), val 44 (.int .u64 z.2), val 45 (.int .u64 (u64 (u64 (p_2 * (u64 p_3.Unit)) - z.2))), val 14 (.int .u64 (u64 (u64 (p_2 * (u64 p_3.Unit)) - z.2)))] noG (by kernel_rfl)
              ⟨Stable.val _ _ _, Stable.val _ _ _, Stable.val _ _ _, Stable.val _ _ _, trivial⟩
              ⟨fun ρz wz hE hA ⟨e12, _⟩ _ => core_val rfl rfl (o_move (e12.trans h12)),
     fun ρz wz hE hA ⟨e14, _⟩ _ => core_val rfl rfl (o_move (e14.trans h14)),
     fun ρz wz hE hA _ ⟨u0, u1, _⟩ => core_val rfl rfl (o_sub u0 u1 rfl),
     fun ρz wz hE hA _ ⟨u2, _⟩ => core_val rfl rfl (o_assign u2), trivial⟩ ?_
            intro ρ34 w34 hE hN hf hr
            have hN := hN rfl
            have h9 := (hr 9 rfl).trans h9
            have h12 := (hr 12 rfl).trans h12
            have h14 : ρ34 14 = .int .u64 (u64 (u64 (p_2 * (u64 p_3.Unit)) - z.2)) := hf 3 rfl
            have h15 := (hr 15 rfl).trans h15
            have Hb_b9_n := Hb_b9_.exn hN
            have hW := hW.trans hN
            have Hb_b9_ := Hb_b9_n
            have hsz := Nat.le_trans hsz hN.size
            exact ⟨u64 (u64 (p_2 * (u64 p_3.Unit)) - z.2), i64 (i64 (-(i64 z.1)) - 1), h9, h12, h14, h15, Hb_b9_, hW, hsz, hF⟩
          · have hF := (if_neg (Bool.eq_false_iff.1 hb)).symm.trans hF
            refine WP.skip ?_
            exact ⟨z.2, i64 (-(i64 z.1)), h9, h12, h14, h15, Hb_b9_, hW, hsz, hF⟩
        · have hF := (if_neg (Bool.eq_false_iff.1 hb)).symm.trans hF
          refine WP.skip ?_
          exact ⟨z.2, i64 z.1, h9, h12, h14, h15, Hb_b9_, hW, hsz, hF⟩
      · rintro ρ9 w9 ⟨x, x2, h9, h12, h14, h15, Hb_b9_, hW, hsz, hF⟩
        rw [money_divide_j] at hF
        refine WP.seq ?_
        refine WP.region mixed [[]] [[]] [[]] [] []
          [val 16 (.bool false)] noG (by kernel_rfl)
          ⟨Stable.val _ _ _, trivial⟩
          ⟨fun ρz wz hE hA _ _ => core_val rfl rfl (o_assign rfl), trivial⟩ ?_
        intro ρ10 w10 hE hN hf hr
        have hN := hN rfl
        have h9 := (hr 9 rfl).trans h9
        have h12 := (hr 12 rfl).trans h12
        have h14 := (hr 14 rfl).trans h14
        have h15 := (hr 15 rfl).trans h15
        have h16 : ρ10 16 = .bool false := hf 0 rfl
        have Hb_b9_n := Hb_b9_.exn hN
        have hW := hW.trans hN
        have Hb_b9_ := Hb_b9_n
        have hsz := Nat.le_trans hsz hN.size
        refine WP.seqJ (fun ρ w => ∃ x3 : Bool, ρ 9 = .pointer (some ⟨b9_, 0, none⟩) ∧ ρ 15 = .int .i64 x2 ∧ ρ 16 = .bool x3 ∧ Mb w b9_ 72 (Rounding.cells p_3) ∧ Ext noG w0 w ∧ w0.heap.size ≤ w.heap.size ∧ money_divide_j2 p_3 x2 x3 = some r) ?_ ?_
        · refine WP.seq ?_
          refine WP.region mixed [[], [0]] [[], [0]] [[9], []] [] []
            [val 46 (.pointer (some ((⟨b9_, 0, none⟩ : Addr).add 0))), val 47 (.int .i64 p_3.Mode)] noG (by kernel_rfl)
            ⟨Stable.val _ _ _, Stable.val _ _ _, trivial⟩
            ⟨fun ρz wz hE hA ⟨e9, _⟩ _ => core_val rfl rfl (o_fieldAddr (e9.trans h9) (fa_72_0 _ _)),
     fun ρz wz hE hA _ ⟨u0, _⟩ => core_val rfl rfl (o_load u0 (run_load1 (lr_3 _ _) (CA.sub ((Hb_b9_.exn (hA rfl)).ca) 0 1))), trivial⟩ ?_
          intro ρ20 w20 hE hN hf hr
          have hN := hN rfl
          have h9 := (hr 9 rfl).trans h9
          have h12 := (hr 12 rfl).trans h12
          have h14 := (hr 14 rfl).trans h14
          have h15 := (hr 15 rfl).trans h15
          have h16 := (hr 16 rfl).trans h16
          have h47 : ρ20 47 = .int .i64 p_3.Mode := hf 1 rfl
          have Hb_b9_n := Hb_b9_.exn hN
          have hW := hW.trans hN
          have Hb_b9_ := Hb_b9_n
          have hsz := Nat.le_trans hsz hN.size
          refine WP.block ?_
          refine WP.seq ?_
          refine WP.region mixed [[], [0]] [[], [0]] [[47], []] [] []
            [val 49 (.bool (p_3.Mode == 2)), val 48 (.bool (p_3.Mode == 2))] noG (by kernel_rfl)
            ⟨Stable.val _ _ _, Stable.val _ _ _, trivial⟩
            ⟨fun ρz wz hE hA ⟨e47, _⟩ _ => core_val rfl rfl (o_eql (e47.trans h47) rfl rfl),
     fun ρz wz hE hA _ ⟨u0, _⟩ => core_val rfl rfl (o_assign u0), trivial⟩ ?_
          intro ρ21 w21 hE hN hf hr
          have hN := hN rfl
          have h9 := (hr 9 rfl).trans h9
          have h12 := (hr 12 rfl).trans h12
          have h14 := (hr 14 rfl).trans h14
          have h15 := (hr 15 rfl).trans h15
          have h16 := (hr 16 rfl).trans h16
          have h47 := (hr 47 rfl).trans h47
          have h48 : ρ21 48 = .bool (p_3.Mode == 2) := hf 1 rfl
          have Hb_b9_n := Hb_b9_.exn hN
          have hW := hW.trans hN
          have Hb_b9_ := Hb_b9_n
          have hsz := Nat.le_trans hsz hN.size
          refine WP.cond rfl h48 (fun hb => ?_) (fun hb => ?_)
          · have hF := (if_pos hb).symm.trans hF
            refine WP.region mixed [[], [0], [1]] [[], [0], [1]] [[14], [], []] [] []
              [val 50 (.int .u64 x), val 51 (.bool (decide (0 < x))), val 16 (.bool (decide (0 < x)))] noG (by kernel_rfl)
              ⟨Stable.val _ _ _, Stable.val _ _ _, Stable.val _ _ _, trivial⟩
              ⟨fun ρz wz hE hA ⟨e14, _⟩ _ => core_val rfl rfl (o_move (e14.trans h14)),
     fun ρz wz hE hA _ ⟨u0, _⟩ => core_val rfl rfl (o_gtr u0 rfl rfl),
     fun ρz wz hE hA _ ⟨u1, _⟩ => core_val rfl rfl (o_assign u1), trivial⟩ ?_
            intro ρ22 w22 hE hN hf hr
            have hN := hN rfl
            have h9 := (hr 9 rfl).trans h9
            have h15 := (hr 15 rfl).trans h15
            have h16 : ρ22 16 = .bool (decide (0 < x)) := hf 2 rfl
            have Hb_b9_n := Hb_b9_.exn hN
            have hW := hW.trans hN
            have Hb_b9_ := Hb_b9_n
            have hsz := Nat.le_trans hsz hN.size
            exact ⟨decide (0 < x), h9, h15, h16, Hb_b9_, hW, hsz, hF⟩
          · have hF := (if_neg (Bool.eq_false_iff.1 hb)).symm.trans hF
            refine WP.seq ?_
            refine WP.region mixed [[], [0]] [[], [0]] [[47], []] [] []
              [val 53 (.bool (p_3.Mode == 3)), val 52 (.bool (p_3.Mode == 3))] noG (by kernel_rfl)
              ⟨Stable.val _ _ _, Stable.val _ _ _, trivial⟩
              ⟨fun ρz wz hE hA ⟨e47, _⟩ _ => core_val rfl rfl (o_eql (e47.trans h47) rfl rfl),
     fun ρz wz hE hA _ ⟨u0, _⟩ => core_val rfl rfl (o_assign u0), trivial⟩ ?_
            intro ρ23 w23 hE hN hf hr
            have hN := hN rfl
            have h9 := (hr 9 rfl).trans h9
            have h12 := (hr 12 rfl).trans h12
            have h14 := (hr 14 rfl).trans h14
            have h15 := (hr 15 rfl).trans h15
            have h16 := (hr 16 rfl).trans h16
            have h47 := (hr 47 rfl).trans h47
            have h52 : ρ23 52 = .bool (p_3.Mode == 3) := hf 1 rfl
            have Hb_b9_n := Hb_b9_.exn hN
            have hW := hW.trans hN
            have Hb_b9_ := Hb_b9_n
            have hsz := Nat.le_trans hsz hN.size
            refine WP.cond rfl h52 (fun hb => ?_) (fun hb => ?_)
            · have hF := (if_pos hb).symm.trans hF
              refine WP.region mixed [[], [], [], [1, 2], [0, 3], [4]] [[], [], [], [1, 2], [0, 3], [4]] [[14], [12], [14], [], [], []] [] []
                [val 54 (.int .u64 x), val 55 (.int .u64 (u64 (p_2 * (u64 p_3.Unit)))), val 56 (.int .u64 x), val 57 (.int .u64 (u64 (u64 (p_2 * (u64 p_3.Unit)) - x))), val 58 (.bool (decide (u64 (u64 (p_2 * (u64 p_3.Unit)) - x) ≤ x))), val 16 (.bool (decide (u64 (u64 (p_2 * (u64 p_3.Unit)) - x) ≤ x)))] noG (by kernel_rfl)
                ⟨Stable.val _ _ _, Stable.val _ _ _, Stable.val _ _ _, Stable.val _ _ _, Stable.val _ _ _, Stable.val _ _ _, trivial⟩
                ⟨fun ρz wz hE hA ⟨e14, _⟩ _ => core_val rfl rfl (o_move (e14.trans h14)),
     fun ρz wz hE hA ⟨e12, _⟩ _ => core_val rfl rfl (o_move (e12.trans h12)),
     fun ρz wz hE hA ⟨e14, _⟩ _ => core_val rfl rfl (o_move (e14.trans h14)),
     fun ρz wz hE hA _ ⟨u1, u2, _⟩ => core_val rfl rfl (o_sub u1 u2 rfl),
     fun ρz wz hE hA _ ⟨u0, u3, _⟩ => core_val rfl rfl (o_geq u0 u3 rfl),
     fun ρz wz hE hA _ ⟨u4, _⟩ => core_val rfl rfl (o_assign u4), trivial⟩ ?_
              intro ρ24 w24 hE hN hf hr
              have hN := hN rfl
              have h9 := (hr 9 rfl).trans h9
              have h15 := (hr 15 rfl).trans h15
              have h16 : ρ24 16 = .bool (decide (u64 (u64 (p_2 * (u64 p_3.Unit)) - x) ≤ x)) := hf 5 rfl
              have Hb_b9_n := Hb_b9_.exn hN
              have hW := hW.trans hN
              have Hb_b9_ := Hb_b9_n
              have hsz := Nat.le_trans hsz hN.size
              exact ⟨decide (u64 (u64 (p_2 * (u64 p_3.Unit)) - x) ≤ x), h9, h15, h16, Hb_b9_, hW, hsz, hF⟩
            · have hF := (if_neg (Bool.eq_false_iff.1 hb)).symm.trans hF
              refine WP.seq ?_
              refine WP.region mixed [[], [0]] [[], [0]] [[47], []] [] []
                [val 60 (.bool (p_3.Mode == 4)), val 59 (.bool (p_3.Mode == 4))] noG (by kernel_rfl)
                ⟨Stable.val _ _ _, Stable.val _ _ _, trivial⟩
                ⟨fun ρz wz hE hA ⟨e47, _⟩ _ => core_val rfl rfl (o_eql (e47.trans h47) rfl rfl),
     fun ρz wz hE hA _ ⟨u0, _⟩ => core_val rfl rfl (o_assign u0), trivial⟩ ?_
              intro ρ25 w25 hE hN hf hr
              have hN := hN rfl
              have h9 := (hr 9 rfl).trans h9
              have h12 := (hr 12 rfl).trans h12
              have h14 := (hr 14 rfl).trans h14
              have h15 := (hr 15 rfl).trans h15
              have h16 := (hr 16 rfl).trans h16
              have h59 : ρ25 59 = .bool (p_3.Mode == 4) := hf 1 rfl
              have Hb_b9_n := Hb_b9_.exn hN
              have hW := hW.trans hN
              have Hb_b9_ := Hb_b9_n
              have hsz := Nat.le_trans hsz hN.size
              refine WP.cond rfl h59 (fun hb => ?_) (fun hb => ?_)
              · have hF := (if_pos hb).symm.trans hF
                refine WP.via (fun ρ w => ρ 9 = .pointer (some ⟨b9_, 0, none⟩) ∧ ρ 15 = .int .i64 x2 ∧ ρ 16 = .bool (decide (u64 (u64 (p_2 * (u64 p_3.Unit)) - x) < x) || ((x == u64 (u64 (p_2 * (u64 p_3.Unit)) - x)) && (Int.tmod x2 2 != 0))) ∧ Mb w b9_ 72 (Rounding.cells p_3) ∧ Ext noG w0 w ∧ w0.heap.size ≤ w.heap.size) ?_ ?_
                · rcases Bool.eq_false_or_eq_true (decide (u64 (u64 (p_2 * (u64 p_3.Unit)) - x) < x)) with hd5 | hd5
                  · refine WP.region mixed [[], [], [], [1, 2], [0, 3], [4], [5], [5], [5], [5], [5], [5], [11], [11], [11], [5], [5], [16]] [[], [], [], [1, 2], [0, 3], [4], [5], [5], [5], [5], [5], [5], [11], [11], [11], [5], [5], [16]] [[14], [12], [14], [], [], [], [], [], [], [], [], [], [], [], [], [], [], []] [] []
                      [val 61 (.int .u64 x), val 62 (.int .u64 (u64 (p_2 * (u64 p_3.Unit)))), val 63 (.int .u64 x), val 64 (.int .u64 (u64 (u64 (p_2 * (u64 p_3.Unit)) - x))), val 65 (.bool (decide (u64 (u64 (p_2 * (u64 p_3.Unit)) - x) < x))), val 66 (.bool true), anyF 67, anyF 68, anyF 69, anyF 70, anyF 71, val 72 undef, anyF 73, anyF 74, anyF 75, anyF 76, val 77 (.bool true), val 16 (.bool true)] noG (by kernel_rfl)
                      ⟨Stable.val _ _ _, Stable.val _ _ _, Stable.val _ _ _, Stable.val _ _ _, Stable.val _ _ _, Stable.val _ _ _, Stable.any _ _, Stable.any _ _, Stable.any _ _, Stable.any _ _, Stable.any _ _, Stable.val _ _ _, Stable.any _ _, Stable.any _ _, Stable.any _ _, Stable.any _ _, Stable.val _ _ _, Stable.val _ _ _, trivial⟩
                      ⟨fun ρz wz hE hA ⟨e14, _⟩ _ => core_val rfl rfl (o_move (e14.trans h14)),
     fun ρz wz hE hA ⟨e12, _⟩ _ => core_val rfl rfl (o_move (e12.trans h12)),
     fun ρz wz hE hA ⟨e14, _⟩ _ => core_val rfl rfl (o_move (e14.trans h14)),
     fun ρz wz hE hA _ ⟨u1, u2, _⟩ => core_val rfl rfl (o_sub u1 u2 rfl),
     fun ρz wz hE hA _ ⟨u0, u3, _⟩ => core_val rfl rfl (o_gtr u0 u3 rfl),
     fun ρz wz hE hA _ ⟨u4, _⟩ => core_valE rfl rfl (congrArg Value.bool hd5) (o_move u4),
     fun _ _ _ _ _ ⟨u5, _⟩ => gNo rfl u5 rfl trivial,
     fun _ _ _ _ _ ⟨u5, _⟩ => gNo rfl u5 rfl trivial,
     fun _ _ _ _ _ ⟨u5, _⟩ => gNo rfl u5 rfl trivial,
     fun _ _ _ _ _ ⟨u5, _⟩ => gNo rfl u5 rfl trivial,
     fun _ _ _ _ _ ⟨u5, _⟩ => gNo rfl u5 rfl trivial,
     fun _ _ _ _ _ ⟨u5, _⟩ => gNo rfl u5 rfl (upd_same _ _ _),
     fun _ _ _ _ _ ⟨u11, _⟩ => gOff rfl u11 trivial,
     fun _ _ _ _ _ ⟨u11, _⟩ => gOff rfl u11 trivial,
     fun _ _ _ _ _ ⟨u11, _⟩ => gOff rfl u11 trivial,
     fun _ _ _ _ _ ⟨u5, _⟩ => gNo rfl u5 rfl trivial,
     fun ρz wz hE hA _ ⟨u5, _⟩ => core_val rfl rfl (o_pick_t u5 rfl),
     fun ρz wz hE hA _ ⟨u16, _⟩ => core_val rfl rfl (o_assign u16), trivial⟩ ?_
                    intro ρ27 w27 hE hN hf hr
                    have hN := hN rfl
                    have h9 := (hr 9 rfl).trans h9
                    have h15 := (hr 15 rfl).trans h15
                    have h16 : ρ27 16 = .bool true := hf 17 rfl
                    have Hb_b9_n := Hb_b9_.exn hN
                    have hW := hW.trans hN
                    have Hb_b9_ := Hb_b9_n
                    have hsz := Nat.le_trans hsz hN.size
                    exact ⟨h9, h15, (h16.trans (congrArg Value.bool (by simp [hd5]))), Hb_b9_, hW, hsz⟩
                  · rcases Bool.eq_false_or_eq_true (x == u64 (u64 (p_2 * (u64 p_3.Unit)) - x)) with hd11 | hd11
                    · refine WP.region mixed [[], [], [], [1, 2], [0, 3], [4], [5], [5], [5], [5, 7, 8], [5, 6, 9], [5, 10], [11], [11, 12], [11, 13], [5, 11, 14], [5, 15], [16]] [[], [], [], [1, 2], [0, 3], [4], [5], [5], [5], [5, 7, 8], [5, 6, 9], [5, 10], [11], [11, 12], [11, 13], [5, 11, 14], [5, 15], [16]] [[14], [12], [14], [], [], [], [14], [12], [14], [], [], [], [15], [], [], [], [], []] [] []
                        [val 61 (.int .u64 x), val 62 (.int .u64 (u64 (p_2 * (u64 p_3.Unit)))), val 63 (.int .u64 x), val 64 (.int .u64 (u64 (u64 (p_2 * (u64 p_3.Unit)) - x))), val 65 (.bool (decide (u64 (u64 (p_2 * (u64 p_3.Unit)) - x) < x))), val 66 (.bool false), val 67 (.int .u64 x), val 68 (.int .u64 (u64 (p_2 * (u64 p_3.Unit)))), val 69 (.int .u64 x), val 70 (.int .u64 (u64 (u64 (p_2 * (u64 p_3.Unit)) - x))), val 71 (.bool (x == u64 (u64 (p_2 * (u64 p_3.Unit)) - x))), val 72 (.bool true), val 73 (.int .i64 x2), val 74 (.int .i64 (Int.tmod x2 2)), val 75 (.bool (Int.tmod x2 2 != 0)), val 76 (.bool (Int.tmod x2 2 != 0)), val 77 (.bool (Int.tmod x2 2 != 0)), val 16 (.bool (Int.tmod x2 2 != 0))] noG (by kernel_rfl)
                        ⟨Stable.val _ _ _, Stable.val _ _ _, Stable.val _ _ _, Stable.val _ _ _, Stable.val _ _ _, Stable.val _ _ _, Stable.val _ _ _, Stable.val _ _ _, Stable.val _ _ _, Stable.val _ _ _, Stable.val _ _ _, Stable.val _ _ _, Stable.val _ _ _, Stable.val _ _ _, Stable.val _ _ _, Stable.val _ _ _, Stable.val _ _ _, Stable.val _ _ _, trivial⟩
                        ⟨fun ρz wz hE hA ⟨e14, _⟩ _ => core_val rfl rfl (o_move (e14.trans h14)),
     fun ρz wz hE hA ⟨e12, _⟩ _ => core_val rfl rfl (o_move (e12.trans h12)),
     fun ρz wz hE hA ⟨e14, _⟩ _ => core_val rfl rfl (o_move (e14.trans h14)),
     fun ρz wz hE hA _ ⟨u1, u2, _⟩ => core_val rfl rfl (o_sub u1 u2 rfl),
     fun ρz wz hE hA _ ⟨u0, u3, _⟩ => core_val rfl rfl (o_gtr u0 u3 rfl),
     fun ρz wz hE hA _ ⟨u4, _⟩ => core_valE rfl rfl (congrArg Value.bool hd5) (o_move u4),
     fun ρz wz hE hA ⟨e14, _⟩ ⟨u5, _⟩ => gYes rfl u5 (core_val rfl rfl (o_move (e14.trans h14))),
     fun ρz wz hE hA ⟨e12, _⟩ ⟨u5, _⟩ => gYes rfl u5 (core_val rfl rfl (o_move (e12.trans h12))),
     fun ρz wz hE hA ⟨e14, _⟩ ⟨u5, _⟩ => gYes rfl u5 (core_val rfl rfl (o_move (e14.trans h14))),
     fun ρz wz hE hA _ ⟨u5, u7, u8, _⟩ => gYes rfl u5 (core_val rfl rfl (o_sub u7 u8 rfl)),
     fun ρz wz hE hA _ ⟨u5, u6, u9, _⟩ => gYes rfl u5 (core_val rfl rfl (o_eql u6 u9 rfl)),
     fun ρz wz hE hA _ ⟨u5, u10, _⟩ => gYes rfl u5 (core_valE rfl rfl (congrArg Value.bool hd11) (o_move u10)),
     fun ρz wz hE hA ⟨e15, _⟩ ⟨u11, _⟩ => gYes rfl u11 (core_val rfl rfl (o_move (e15.trans h15))),
     fun ρz wz hE hA _ ⟨u11, u12, _⟩ => gYes rfl u11 (core_val rfl rfl (o_rem u12 rfl (by decide) rfl)),
     fun ρz wz hE hA _ ⟨u11, u13, _⟩ => gYes rfl u11 (core_val rfl rfl (o_neq u13 rfl rfl)),
     fun ρz wz hE hA _ ⟨u5, u11, u14, _⟩ => gYes rfl u5 (core_val rfl rfl (o_pick_t u11 u14)),
     fun ρz wz hE hA _ ⟨u5, u15, _⟩ => core_val rfl rfl (o_pick_f u5 u15),
     fun ρz wz hE hA _ ⟨u16, _⟩ => core_val rfl rfl (o_assign u16), trivial⟩ ?_
                      intro ρ28 w28 hE hN hf hr
                      have hN := hN rfl
                      have h9 := (hr 9 rfl).trans h9
                      have h15 := (hr 15 rfl).trans h15
                      have h16 : ρ28 16 = .bool (Int.tmod x2 2 != 0) := hf 17 rfl
                      have Hb_b9_n := Hb_b9_.exn hN
                      have hW := hW.trans hN
                      have Hb_b9_ := Hb_b9_n
                      have hsz := Nat.le_trans hsz hN.size
                      exact ⟨h9, h15, (h16.trans (congrArg Value.bool (by simp [hd5, hd11]))), Hb_b9_, hW, hsz⟩
                    · refine WP.region mixed [[], [], [], [1, 2], [0, 3], [4], [5], [5], [5], [5, 7, 8], [5, 6, 9], [5, 10], [11], [11], [11], [5, 11], [5, 15], [16]] [[], [], [], [1, 2], [0, 3], [4], [5], [5], [5], [5, 7, 8], [5, 6, 9], [5, 10], [11], [11], [11], [5, 11], [5, 15], [16]] [[14], [12], [14], [], [], [], [14], [12], [14], [], [], [], [], [], [], [], [], []] [] []
                        [val 61 (.int .u64 x), val 62 (.int .u64 (u64 (p_2 * (u64 p_3.Unit)))), val 63 (.int .u64 x), val 64 (.int .u64 (u64 (u64 (p_2 * (u64 p_3.Unit)) - x))), val 65 (.bool (decide (u64 (u64 (p_2 * (u64 p_3.Unit)) - x) < x))), val 66 (.bool false), val 67 (.int .u64 x), val 68 (.int .u64 (u64 (p_2 * (u64 p_3.Unit)))), val 69 (.int .u64 x), val 70 (.int .u64 (u64 (u64 (p_2 * (u64 p_3.Unit)) - x))), val 71 (.bool (x == u64 (u64 (p_2 * (u64 p_3.Unit)) - x))), val 72 (.bool false), anyF 73, anyF 74, anyF 75, val 76 (.bool false), val 77 (.bool false), val 16 (.bool false)] noG (by kernel_rfl)
                        ⟨Stable.val _ _ _, Stable.val _ _ _, Stable.val _ _ _, Stable.val _ _ _, Stable.val _ _ _, Stable.val _ _ _, Stable.val _ _ _, Stable.val _ _ _, Stable.val _ _ _, Stable.val _ _ _, Stable.val _ _ _, Stable.val _ _ _, Stable.any _ _, Stable.any _ _, Stable.any _ _, Stable.val _ _ _, Stable.val _ _ _, Stable.val _ _ _, trivial⟩
                        ⟨fun ρz wz hE hA ⟨e14, _⟩ _ => core_val rfl rfl (o_move (e14.trans h14)),
     fun ρz wz hE hA ⟨e12, _⟩ _ => core_val rfl rfl (o_move (e12.trans h12)),
     fun ρz wz hE hA ⟨e14, _⟩ _ => core_val rfl rfl (o_move (e14.trans h14)),
     fun ρz wz hE hA _ ⟨u1, u2, _⟩ => core_val rfl rfl (o_sub u1 u2 rfl),
     fun ρz wz hE hA _ ⟨u0, u3, _⟩ => core_val rfl rfl (o_gtr u0 u3 rfl),
     fun ρz wz hE hA _ ⟨u4, _⟩ => core_valE rfl rfl (congrArg Value.bool hd5) (o_move u4),
     fun ρz wz hE hA ⟨e14, _⟩ ⟨u5, _⟩ => gYes rfl u5 (core_val rfl rfl (o_move (e14.trans h14))),
     fun ρz wz hE hA ⟨e12, _⟩ ⟨u5, _⟩ => gYes rfl u5 (core_val rfl rfl (o_move (e12.trans h12))),
     fun ρz wz hE hA ⟨e14, _⟩ ⟨u5, _⟩ => gYes rfl u5 (core_val rfl rfl (o_move (e14.trans h14))),
     fun ρz wz hE hA _ ⟨u5, u7, u8, _⟩ => gYes rfl u5 (core_val rfl rfl (o_sub u7 u8 rfl)),
     fun ρz wz hE hA _ ⟨u5, u6, u9, _⟩ => gYes rfl u5 (core_val rfl rfl (o_eql u6 u9 rfl)),
     fun ρz wz hE hA _ ⟨u5, u10, _⟩ => gYes rfl u5 (core_valE rfl rfl (congrArg Value.bool hd11) (o_move u10)),
     fun _ _ _ _ _ ⟨u11, _⟩ => gNo rfl u11 rfl trivial,
     fun _ _ _ _ _ ⟨u11, _⟩ => gNo rfl u11 rfl trivial,
     fun _ _ _ _ _ ⟨u11, _⟩ => gNo rfl u11 rfl trivial,
     fun ρz wz hE hA _ ⟨u5, u11, _⟩ => gYes rfl u5 (core_val rfl rfl (o_pick_f u11 rfl)),
     fun ρz wz hE hA _ ⟨u5, u15, _⟩ => core_val rfl rfl (o_pick_f u5 u15),
     fun ρz wz hE hA _ ⟨u16, _⟩ => core_val rfl rfl (o_assign u16), trivial⟩ ?_
                      intro ρ29 w29 hE hN hf hr
                      have hN := hN rfl
                      have h9 := (hr 9 rfl).trans h9
                      have h15 := (hr 15 rfl).trans h15
                      have h16 : ρ29 16 = .bool false := hf 17 rfl
                      have Hb_b9_n := Hb_b9_.exn hN
                      have hW := hW.trans hN
                      have Hb_b9_ := Hb_b9_n
                      have hsz := Nat.le_trans hsz hN.size
                      exact ⟨h9, h15, (h16.trans (congrArg Value.bool (by simp [hd5, hd11]))), Hb_b9_, hW, hsz⟩
                rintro ρ26 w26 ⟨h9, h15, h16, Hb_b9_, hW, hsz⟩
                exact ⟨(decide (u64 (u64 (p_2 * (u64 p_3.Unit)) - x) < x) || ((x == u64 (u64 (p_2 * (u64 p_3.Unit)) - x)) && (Int.tmod x2 2 != 0))), h9, h15, h16, Hb_b9_, hW, hsz, hF⟩
              · have hF := (if_neg (Bool.eq_false_iff.1 hb)).symm.trans hF
                refine WP.skip ?_
                exact ⟨false, h9, h15, h16, Hb_b9_, hW, hsz, hF⟩
        · rintro ρ11 w11 ⟨x3, h9, h15, h16, Hb_b9_, hW, hsz, hF⟩
          rw [money_divide_j2] at hF
          refine WP.seqJ (fun ρ w => ∃ x4 : Int, ρ 9 = .pointer (some ⟨b9_, 0, none⟩) ∧ ρ 15 = .int .i64 x4 ∧ Mb w b9_ 72 (Rounding.cells p_3) ∧ Ext noG w0 w ∧ w0.heap.size ≤ w.heap.size ∧ money_divide_j3 p_3 x4 = some r) ?_ ?_
          · refine WP.seq ?_
            refine WP.region mixed [[]] [[]] [[16]] [] []
              [val 78 (.bool x3)] noG (by kernel_rfl)
              ⟨Stable.val _ _ _, trivial⟩
              ⟨fun ρz wz hE hA ⟨e16, _⟩ _ => core_val rfl rfl (o_move (e16.trans h16)), trivial⟩ ?_
            intro ρ18 w18 hE hN hf hr
            have hN := hN rfl
            have h9 := (hr 9 rfl).trans h9
            have h15 := (hr 15 rfl).trans h15
            have h78 : ρ18 78 = .bool x3 := hf 0 rfl
            have Hb_b9_n := Hb_b9_.exn hN
            have hW := hW.trans hN
            have Hb_b9_ := Hb_b9_n
            have hsz := Nat.le_trans hsz hN.size
            refine WP.cond rfl h78 (fun hb => ?_) (fun hb => ?_)
            · have hF := (if_pos hb).symm.trans hF
              refine WP.region mixed [[], [0], [0, 1]] [[], [0], [1]] [[15], [], []] [] []
                [val 79 (.int .i64 x2), val 80 (.int .i64 (i64 (x2 + 1))), val 15 (.int .i64 (i64 (x2 + 1)))] noG (by kernel_rfl)
                ⟨Stable.val _ _ _, Stable.val _ _ _, Stable.val _ _ _, trivial⟩
                ⟨fun ρz wz hE hA ⟨e15, _⟩ _ => core_val rfl rfl (o_move (e15.trans h15)),
     fun ρz wz hE hA _ ⟨u0, _⟩ => core_val rfl rfl (o_add u0 rfl rfl),
     fun ρz wz hE hA _ ⟨u1, _⟩ => core_val rfl rfl (o_assign u1), trivial⟩ ?_
              intro ρ19 w19 hE hN hf hr
              have hN := hN rfl
              have h9 := (hr 9 rfl).trans h9
              have h15 : ρ19 15 = .int .i64 (i64 (x2 + 1)) := hf 2 rfl
              have Hb_b9_n := Hb_b9_.exn hN
              have hW := hW.trans hN
              have Hb_b9_ := Hb_b9_n
              have hsz := Nat.le_trans hsz hN.size
              exact ⟨i64 (x2 + 1), h9, h15, Hb_b9_, hW, hsz, hF⟩
            · have hF := (if_neg (Bool.eq_false_iff.1 hb)).symm.trans hF
              refine WP.skip ?_
              exact ⟨x2, h9, h15, Hb_b9_, hW, hsz, hF⟩
          · rintro ρ12 w12 ⟨x4, h9, h15, Hb_b9_, hW, hsz, hF⟩
            rw [money_divide_j3] at hF
            refine WP.seq ?_
            refine WP.seq ?_
            obtain ⟨q, hq, hF⟩ := obind hF
            obtain ⟨c, hc, hF⟩ := obind hF
            refine WP.via (fun ρ w => ρ 9 = .pointer (some ⟨b9_, 0, none⟩) ∧ ρ 15 = .int .i64 x4 ∧ ρ 92 = .bool c ∧ Mb w b9_ 72 (Rounding.cells p_3) ∧ Ext noG w0 w ∧ w0.heap.size ≤ w.heap.size) ?_ ?_
            · rcases Bool.eq_false_or_eq_true (decide (q < x4)) with hd5 | hd5
              · have hc := (if_pos (by simp [hd5])).symm.trans hc
                have hc := Option.some.inj hc
                refine WP.region mixed [[], [], [1], [2], [0, 3], [4], [5], [5], [5], [5], [5], [5]] [[], [], [1], [2], [0, 3], [4], [5], [5], [5], [5], [5], [5]] [[15], [9], [], [], [], [], [], [], [], [], [], []] [] []
                  [val 81 (.int .i64 x4), val 82 (.pointer (some ((⟨b9_, 0, none⟩ : Addr).add 1))), val 83 (.int .i64 p_3.Unit), val 84 (.int .i64 q), val 85 (.bool (decide (q < x4))), val 86 (.bool true), anyF 87, anyF 88, anyF 89, anyF 90, anyF 91, val 92 (.bool true)] noG (by kernel_rfl)
                  ⟨Stable.val _ _ _, Stable.val _ _ _, Stable.val _ _ _, Stable.val _ _ _, Stable.val _ _ _, Stable.val _ _ _, Stable.any _ _, Stable.any _ _, Stable.any _ _, Stable.any _ _, Stable.any _ _, Stable.val _ _ _, trivial⟩
                  ⟨fun ρz wz hE hA ⟨e15, _⟩ _ => core_val rfl rfl (o_move (e15.trans h15)),
     fun ρz wz hE hA ⟨e9, _⟩ _ => core_val rfl rfl (o_fieldAddr (e9.trans h9) (fa_72_1 _ _)),
     fun ρz wz hE hA _ ⟨u1, _⟩ => core_val rfl rfl (o_load u1 (run_load1 (lr_3 _ _) (CA.sub ((Hb_b9_.exn (hA rfl)).ca) 1 1))),
     fun ρz wz hE hA _ ⟨u2, _⟩ => core_val rfl rfl (o_quo rfl u2 (quoI_some hq).1 (quoI_some hq).2),
     fun ρz wz hE hA _ ⟨u0, u3, _⟩ => core_val rfl rfl (o_gtr u0 u3 rfl),
     fun ρz wz hE hA _ ⟨u4, _⟩ => core_valE rfl rfl (congrArg Value.bool hd5) (o_move u4),
     fun _ _ _ _ _ ⟨u5, _⟩ => gNo rfl u5 rfl trivial,
     fun _ _ _ _ _ ⟨u5, _⟩ => gNo rfl u5 rfl trivial,
     fun _ _ _ _ _ ⟨u5, _⟩ => gNo rfl u5 rfl trivial,
     fun _ _ _ _ _ ⟨u5, _⟩ => gNo rfl u5 rfl trivial,
     fun _ _ _ _ _ ⟨u5, _⟩ => gNo rfl u5 rfl trivial,
     fun ρz wz hE hA _ ⟨u5, _⟩ => core_val rfl rfl (o_pick_t u5 rfl), trivial⟩ ?_
                intro ρ14 w14 hE hN hf hr
                have hN := hN rfl
                have h9 := (hr 9 rfl).trans h9
                have h15 := (hr 15 rfl).trans h15
                have h92 : ρ14 92 = .bool true := hf 11 rfl
                have Hb_b9_n := Hb_b9_.exn hN
                have hW := hW.trans hN
                have Hb_b9_ := Hb_b9_n
                have hsz := Nat.le_trans hsz hN.size
                exact ⟨h9, h15, (h92.trans (congrArg Value.bool (by simp [hd5, ← hc]))), Hb_b9_, hW, hsz⟩
              · have hc := (if_neg (Bool.eq_false_iff.1 (by simp [hd5]))).symm.trans hc
                obtain ⟨q2, hq2, hc⟩ := obind hc
                have hc := Option.some.inj hc
                refine WP.region mixed [[], [], [1], [2], [0, 3], [4], [5], [5], [5, 7], [5, 8], [5, 6, 9], [5, 10]] [[], [], [1], [2], [0, 3], [4], [5], [5], [5, 7], [5, 8], [5, 6, 9], [5, 10]] [[15], [9], [], [], [], [], [15], [9], [], [], [], []] [] []
                  [val 81 (.int .i64 x4), val 82 (.pointer (some ((⟨b9_, 0, none⟩ : Addr).add 1))), val 83 (.int .i64 p_3.Unit), val 84 (.int .i64 q), val 85 (.bool (decide (q < x4))), val 86 (.bool false), val 87 (.int .i64 x4), val 88 (.pointer (some ((⟨b9_, 0, none⟩ : Addr).add 1))), val 89 (.int .i64 p_3.Unit), val 90 (.int .i64 q2), val 91 (.bool (decide (x4 < q2))), val 92 (.bool (decide (x4 < q2)))] noG (by kernel_rfl)
                  ⟨Stable.val _ _ _, Stable.val _ _ _, Stable.val _ _ _, Stable.val _ _ _, Stable.val _ _ _, Stable.val _ _ _, Stable.val _ _ _, Stable.val _ _ _, Stable.val _ _ _, Stable.val _ _ _, Stable.val _ _ _, Stable.val _ _ _, trivial⟩
                  ⟨fun ρz wz hE hA ⟨e15, _⟩ _ => core_val rfl rfl (o_move (e15.trans h15)),
     fun ρz wz hE hA ⟨e9, _⟩ _ => core_val rfl rfl (o_fieldAddr (e9.trans h9) (fa_72_1 _ _)),
     fun ρz wz hE hA _ ⟨u1, _⟩ => core_val rfl rfl (o_load u1 (run_load1 (lr_3 _ _) (CA.sub ((Hb_b9_.exn (hA rfl)).ca) 1 1))),
     fun ρz wz hE hA _ ⟨u2, _⟩ => core_val rfl rfl (o_quo rfl u2 (quoI_some hq).1 (quoI_some hq).2),
     fun ρz wz hE hA _ ⟨u0, u3, _⟩ => core_val rfl rfl (o_gtr u0 u3 rfl),
     fun ρz wz hE hA _ ⟨u4, _⟩ => core_valE rfl rfl (congrArg Value.bool hd5) (o_move u4),
     fun ρz wz hE hA ⟨e15, _⟩ ⟨u5, _⟩ => gYes rfl u5 (core_val rfl rfl (o_move (e15.trans h15))),
     fun ρz wz hE hA ⟨e9, _⟩ ⟨u5, _⟩ => gYes rfl u5 (core_val rfl rfl (o_fieldAddr (e9.trans h9) (fa_72_1 _ _))),
     fun ρz wz hE hA _ ⟨u5, u7, _⟩ => gYes rfl u5 (core_val rfl rfl (o_load u7 (run_load1 (lr_3 _ _) (CA.sub ((Hb_b9_.exn (hA rfl)).ca) 1 1)))),
     fun ρz wz hE hA _ ⟨u5, u8, _⟩ => gYes rfl u5 (core_val rfl rfl (o_quo rfl u8 (quoI_some hq2).1 (quoI_some hq2).2)),
     fun ρz wz hE hA _ ⟨u5, u6, u9, _⟩ => gYes rfl u5 (core_val rfl rfl (o_lss u6 u9 rfl)),
     fun ρz wz hE hA _ ⟨u5, u10, _⟩ => core_val rfl rfl (o_pick_f u5 u10), trivial⟩ ?_
                intro ρ15 w15 hE hN hf hr
                have hN := hN rfl
                have h9 := (hr 9 rfl).trans h9
                have h15 := (hr 15 rfl).trans h15
                have h92 : ρ15 92 = .bool (decide (x4 < q2)) := hf 11 rfl
                have Hb_b9_n := Hb_b9_.exn hN
                have hW := hW.trans hN
                have Hb_b9_ := Hb_b9_n
                have hsz := Nat.le_trans hsz hN.size
                exact ⟨h9, h15, (h92.trans (congrArg Value.bool (by simp [hd5, ← hc]))), Hb_b9_, hW, hsz⟩
            rintro ρ13 w13 ⟨h9, h15, h92, Hb_b9_, hW, hsz⟩
            refine WP.cond rfl h92 (fun hb => ?_) (fun hb => ?_)
            · have hF := (if_pos hb).symm.trans hF
              refine WP.seq ?_
              refine WP.region mixed [[], []] [[], []] [[], []] [] []
                [val 10 (.int .i64 0), val 11 (.int .i64 2)] noG (by kernel_rfl)
                ⟨Stable.val _ _ _, Stable.val _ _ _, trivial⟩
                ⟨fun ρz wz hE hA _ _ => core_val rfl rfl (o_assign rfl),
     fun ρz wz hE hA _ _ => core_val rfl rfl (o_assign rfl), trivial⟩ ?_
              intro ρ16 w16 hE hN hf hr
              have hN := hN rfl
              have h10 : ρ16 10 = .int .i64 0 := hf 0 rfl
              have h11 : ρ16 11 = .int .i64 2 := hf 1 rfl
              have hW := hW.trans hN
              have hsz := Nat.le_trans hsz hN.size
              refine WP.ret ?_
              show retQ Tryd.prog 97 Tryd.f58 (fun v w1 => v = .tuple #[.int .i64 r.1, .int .i64 r.2] ∧ Ext noG w0 w1) .ret ρ16 w16
              obtain rfl := Option.some.inj hF
              exact res2 rfl (by decide) (by decide) h10 h11 ⟨rfl, hW⟩
            · have hF := (if_neg (Bool.eq_false_iff.1 hb)).symm.trans hF
              refine WP.skip ?_
              refine WP.seq ?_
              refine WP.region mixed [[], [], [1], [0, 2], [3], []] [[], [], [1], [0, 2], [3], []] [[15], [9], [], [], [], []] [] []
                [val 93 (.int .i64 x4), val 94 (.pointer (some ((⟨b9_, 0, none⟩ : Addr).add 1))), val 95 (.int .i64 p_3.Unit), val 96 (.int .i64 (i64 (x4 * p_3.Unit))), val 10 (.int .i64 (i64 (x4 * p_3.Unit))), val 11 (.int .i64 0)] noG (by kernel_rfl)
                ⟨Stable.val _ _ _, Stable.val _ _ _, Stable.val _ _ _, Stable.val _ _ _, Stable.val _ _ _, Stable.val _ _ _, trivial⟩
                ⟨fun ρz wz hE hA ⟨e15, _⟩ _ => core_val rfl rfl (o_move (e15.trans h15)),
     fun ρz wz hE hA ⟨e9, _⟩ _ => core_val rfl rfl (o_fieldAddr (e9.trans h9) (fa_72_1 _ _)),
     fun ρz wz hE hA _ ⟨u1, _⟩ => core_val rfl rfl (o_load u1 (run_load1 (lr_3 _ _) (CA.sub ((Hb_b9_.exn (hA rfl)).ca) 1 1))),
     fun ρz wz hE hA _ ⟨u0, u2, _⟩ => core_val rfl rfl (o_mul u0 u2 rfl),
     fun ρz wz hE hA _ ⟨u3, _⟩ => core_val rfl rfl (o_assign u3),
     fun ρz wz hE hA _ _ => core_val rfl rfl (o_assign rfl), trivial⟩ ?_
              intro ρ17 w17 hE hN hf hr
              have hN := hN rfl
              have h10 : ρ17 10 = .int .i64 (i64 (x4 * p_3.Unit)) := hf 4 rfl
              have h11 : ρ17 11 = .int .i64 0 := hf 5 rfl
              have hW := hW.trans hN
              have hsz := Nat.le_trans hsz hN.size
              refine WP.ret ?_
              show retQ Tryd.prog 97 Tryd.f58 (fun v w1 => v = .tuple #[.int .i64 r.1, .int .i64 r.2] ∧ Ext noG w0 w1) .ret ρ17 w17
              obtain rfl := Option.some.inj hF
              exact res2 rfl (by decide) (by decide) h10 h11 ⟨rfl, hW⟩

set_option maxHeartbeats 4000000 in
theorem money_Value_ok {w0 : World} (t_ : List Rate) (currency_ : Int) (month_ : Int) {v_t_ : Value} (H_t_ : RepSl Rate.R noG w0 v_t_ t_) {r : Fraction × Bool} (hF : money_Value t_ currency_ month_ = some r) :
    Calls Tryd.prog 52 #[v_t_, .int .i64 currency_, .int .i64 month_] w0 fun e w1 => e = .returned (.tuple #[Fraction.val r.1, .bool r.2]) ∧ Ext noG w0 w1 := by
  refine (Calls.start (P := Tryd.prog) (args := [v_t_, .int .i64 currency_, .int .i64 month_]) (R := fun v w1 => v = .tuple #[Fraction.val r.1, .bool r.2] ∧ Ext noG w0 w1) (n := 52) (w := w0) Tryd.func52 rfl rfl (Nat.le_of_ble_eq_true rfl) (fun ρ hargs => ?_)).mono (fun e w1 ⟨v, he, hv, hE⟩ => ⟨hv ▸ he, hE⟩)
  have h0 := hargs 0 _ rfl
  have h1 := hargs 1 _ rfl
  have h2 := hargs 2 _ rfl
  have hW := Ext.refl noG w0
  have hsz := Nat.le_refl w0.heap.size
  obtain ⟨_, _, hs_H_t_, _, _⟩ := RepSl.shape H_t_
  have H_t_ := H_t_.start
  rw [money_Value] at hF
  refine WP.seq ?_
  refine WP.region mixed [[], []] [[], []] [[], []] [] []
    [(6, fun u wz => ∃ b, u = .pointer (some ⟨b, 0, none⟩) ∧ w0.heap.size ≤ b ∧ Mb wz b 54 (Fraction.cells (⟨0, 0⟩ : Fraction))), val 7 (.bool false)] noG (by kernel_rfl)
    ⟨fun _ _ _ hE ⟨b, hb, hs, hM⟩ => ⟨b, hb, hs, hM.exn hE⟩, Stable.val _ _ _, trivial⟩
    ⟨fun ρz wz hE hA _ _ => core_new rfl rfl hE (o_alloc (al_54 _)),
     fun ρz wz hE hA _ _ => core_val rfl rfl (o_assign rfl), trivial⟩ ?_
  intro ρ1 w1 hE hN hf hr
  have hN := hN rfl
  have h0 := (hr 0 rfl).trans h0
  have h1 := (hr 1 rfl).trans h1
  have h2 := (hr 2 rfl).trans h2
  obtain ⟨b6_, h6, hge_b6_, Hb_b6_⟩ := hf 0 rfl
  have H_t__at0 := H_t_
  have H_t_ := H_t_.exn hN
  have hW := hW.trans hN
  have hB_b6_ : w0.heap.size ≤ b6_ := Nat.le_trans hsz hge_b6_
  have hsz := Nat.le_trans hsz hN.size
  refine WP.seq ?_
  refine WP.region mixed [[]] [[]] [[]] [] []
    [val 8 (.int .i64 (-1))] noG (by kernel_rfl)
    ⟨Stable.val _ _ _, trivial⟩
    ⟨fun ρz wz hE hA _ _ => core_val rfl rfl (o_assign rfl), trivial⟩ ?_
  intro ρ2 w2 hE hN hf hr
  have hN := hN rfl
  have h0 := (hr 0 rfl).trans h0
  have h1 := (hr 1 rfl).trans h1
  have h2 := (hr 2 rfl).trans h2
  have h6 := (hr 6 rfl).trans h6
  have h8 : ρ2 8 = .int .i64 (-1) := hf 0 rfl
  have Hb_b6_n := Hb_b6_.exn hN
  have H_t__at0 := H_t_
  have H_t_ := H_t_.exn hN
  have hW := hW.trans hN
  have Hb_b6_ := Hb_b6_n
  have hsz := Nat.le_trans hsz hN.size
  refine WP.seq ?_
  refine WP.seq ?_
  refine WP.region mixed [[], [0], []] [[], [0], []] [[0], [], []] [] []
    [val 11 (v_t_), val 12 (.int .i64 (t_.length : Int)), val 13 (.int .i64 0)] noG (by kernel_rfl)
    ⟨Stable.val _ _ _, Stable.val _ _ _, Stable.val _ _ _, trivial⟩
    ⟨fun ρz wz hE hA ⟨e0, _⟩ _ => core_val rfl rfl (o_move (e0.trans h0)),
     fun ρz wz hE hA _ ⟨u0, _⟩ => core_val rfl rfl (o_len (u0.trans hs_H_t_) len_26),
     fun ρz wz hE hA _ _ => core_val rfl rfl (o_move rfl), trivial⟩ ?_
  intro ρ3 w3 hE hN hf hr
  have hN := hN rfl
  have h0 := (hr 0 rfl).trans h0
  have h1 := (hr 1 rfl).trans h1
  have h2 := (hr 2 rfl).trans h2
  have h6 := (hr 6 rfl).trans h6
  have h8 := (hr 8 rfl).trans h8
  have h11 : ρ3 11 = v_t_ := hf 0 rfl
  have h12 : ρ3 12 = .int .i64 (t_.length : Int) := hf 1 rfl
  have h13 : ρ3 13 = .int .i64 0 := hf 2 rfl
  have Hb_b6_n := Hb_b6_.exn hN
  have H_t__at0 := H_t_
  have H_t_ := H_t_.exn hN
  have hW := hW.trans hN
  have Hb_b6_ := Hb_b6_n
  have hsz := Nat.le_trans hsz hN.size
  refine WP.block ?_
  refine WP.loop (fun k_ ρ w => ∃ best_ : Int, ∃ x : Int, ρ 0 = v_t_ ∧ ρ 1 = .int .i64 currency_ ∧ ρ 2 = .int .i64 month_ ∧ ρ 6 = .pointer (some ⟨b6_, 0, none⟩) ∧ ρ 8 = .int .i64 best_ ∧ ρ 11 = v_t_ ∧ ρ 12 = .int .i64 (t_.length : Int) ∧ ρ 13 = .int .i64 x ∧ Mb w b6_ 54 (Fraction.cells (⟨0, 0⟩ : Fraction)) ∧ RepSl Rate.R (gfr noG w0) w v_t_ t_ ∧ Ext noG w0 w ∧ w0.heap.size ≤ w.heap.size ∧ loopC k_ (money_Value_l t_ currency_ month_) (best_, x) = some r) FU ⟨(-1), 0, h0, h1, h2, h6, h8, h11, h12, h13, Hb_b6_, H_t_, hW, hsz, hF⟩ (fun _ _ h => by obtain ⟨_, _, _, _, _, _, _, _, _, _, _, _, _, _, h⟩ := h; cases h) ?_
  rintro k_ ρ4 w4 ⟨best_, x, h0, h1, h2, h6, h8, h11, h12, h13, Hb_b6_, H_t_, hW, hsz, hF⟩
  have hF : money_Value_l t_ currency_ month_ (loopC k_ (money_Value_l t_ currency_ month_)) (best_, x) = some r := hF
  generalize hrec_ : loopC k_ (money_Value_l t_ currency_ month_) = rec_ at hF
  rw [money_Value_l] at hF
  refine WP.seq ?_
  refine WP.region mixed [[]] [[]] [[13, 12]] [] []
    [val 14 (.bool (decide (x < (t_.length : Int))))] noG (by kernel_rfl)
    ⟨Stable.val _ _ _, trivial⟩
    ⟨fun ρz wz hE hA ⟨e13, e12, _⟩ _ => core_val rfl rfl (o_lss (e13.trans h13) (e12.trans h12) rfl), trivial⟩ ?_
  intro ρ5 w5 hE hN hf hr
  have hN := hN rfl
  have h0 := (hr 0 rfl).trans h0
  have h1 := (hr 1 rfl).trans h1
  have h2 := (hr 2 rfl).trans h2
  have h6 := (hr 6 rfl).trans h6
  have h8 := (hr 8 rfl).trans h8
  have h11 := (hr 11 rfl).trans h11
  have h12 := (hr 12 rfl).trans h12
  have h13 := (hr 13 rfl).trans h13
  have h14 : ρ5 14 = .bool (decide (x < (t_.length : Int))) := hf 0 rfl
  have Hb_b6_n := Hb_b6_.exn hN
  have H_t__at0 := H_t_
  have H_t_ := H_t_.exn hN
  have hW := hW.trans hN
  have Hb_b6_ := Hb_b6_n
  have hsz := Nat.le_trans hsz hN.size
  refine WP.seq ?_
  refine WP.cond rfl h14 (fun hb => ?_) (fun hb => ?_)
  · have hF := (if_pos hb).symm.trans hF
    refine WP.skip ?_
    refine WP.seqJ (fun ρ w => ∃ best_2 : Int, ρ 0 = v_t_ ∧ ρ 1 = .int .i64 currency_ ∧ ρ 2 = .int .i64 month_ ∧ ρ 6 = .pointer (some ⟨b6_, 0, none⟩) ∧ ρ 8 = .int .i64 best_2 ∧ ρ 11 = v_t_ ∧ ρ 12 = .int .i64 (t_.length : Int) ∧ ρ 13 = .int .i64 x ∧ Mb w b6_ 54 (Fraction.cells (⟨0, 0⟩ : Fraction)) ∧ RepSl Rate.R (gfr noG w0) w v_t_ t_ ∧ Ext noG w0 w ∧ w0.heap.size ≤ w.heap.size ∧ money_Value_j x rec_ best_2 = some r) ?_ ?_
    · refine WP.block ?_
      refine WP.seq ?_
      obtain ⟨y, hy, hF⟩ := obind hF
      obtain ⟨ay, cy, hvy, hiy, hAy⟩ := RepSl.getF H_t_ hy
      refine WP.region mixed [[], [], [1], [], [0], [2, 3]] [[], [], [1], [], [0], [3, 2]] [[13], [11, 13], [], [], [], []] [5] [(3, 5)]
        [val 15 (.int .i64 x), val 16 (.pointer (some (ay.add (Int.toNat x * 4)))), val 17 (Rate.val y), (10, fun u wz => ∃ b, u = .pointer (some ⟨b, 0, none⟩) ∧ w5.heap.size ≤ b ∧ Mb wz b 57 (Rate.cells (⟨0, 0, (⟨0, 0⟩ : Fraction)⟩ : Rate))), val 9 (.int .i64 x), (10, fun u wz => ∃ b, u = .pointer (some ⟨b, 0, none⟩) ∧ w5.heap.size ≤ b ∧ Mb wz b 57 (Rate.cells y))] (fun b => w5.heap.size ≤ b) (by kernel_rfl)
        ⟨Stable.val _ _ _, Stable.val _ _ _, Stable.val _ _ _, fun _ _ _ hE ⟨b, hb, hs, hM⟩ => ⟨b, hb, hs, hM.exn hE⟩, Stable.val _ _ _, fun _ _ _ hE ⟨b, hb, hs, hM⟩ => ⟨b, hb, hs, hM.exn hE⟩, trivial⟩
        ⟨fun ρz wz hE hA ⟨e13, _⟩ _ => core_val rfl rfl (o_move (e13.trans h13)),
     fun ρz wz hE hA ⟨e11, e13, _⟩ _ => core_val rfl rfl (o_indexAddr ((e11.trans h11).trans hvy) (e13.trans h13) (ia_26 hiy)),
     fun ρz wz hE hA _ ⟨u1, _⟩ => core_val rfl rfl (o_load u1 (run_loadN (cs := (Rate.cells y)) (lr_57 _ _) rfl ((hAy.exn hE.fresh).ca))),
     fun ρz wz hE hA _ _ => core_new rfl rfl hE (o_alloc (al_57 _)),
     fun ρz wz hE hA _ ⟨u0, _⟩ => core_val rfl rfl (o_assign u0),
     fun ρz wz hE hA _ ⟨u3, u2, _⟩ => core_storeNew rfl rfl rfl rfl u2 u3 (fun a w => st_57 _ a w) rfl (one_57 _), trivial⟩ ?_
      intro ρ8 w8 hE hN hf hr
      have hN := hE.fresh
      have h0 := (hr 0 rfl).trans h0
      have h1 := (hr 1 rfl).trans h1
      have h2 := (hr 2 rfl).trans h2
      have h6 := (hr 6 rfl).trans h6
      have h8 := (hr 8 rfl).trans h8
      have h11 := (hr 11 rfl).trans h11
      have h12 := (hr 12 rfl).trans h12
      have h13 := (hr 13 rfl).trans h13
      obtain ⟨b10_, h10, hge_b10_, Hb_b10_⟩ := hf 5 rfl
      have h9 : ρ8 9 = .int .i64 x := hf 4 rfl
      have Hb_b6_n := Hb_b6_.exn hN
      have H_t__at0 := H_t_
      have H_t_ := H_t_.exn hN
      have hW := hW.trans hN
      have Hb_b6_ := Hb_b6_n
      have hB_b10_ : w0.heap.size ≤ b10_ := Nat.le_trans hsz hge_b10_
      have hsz := Nat.le_trans hsz hN.size
      refine WP.seq ?_
      obtain ⟨c2, hc2, hF⟩ := obind hF
      refine WP.via (fun ρ w => ρ 0 = v_t_ ∧ ρ 1 = .int .i64 currency_ ∧ ρ 2 = .int .i64 month_ ∧ ρ 6 = .pointer (some ⟨b6_, 0, none⟩) ∧ ρ 8 = .int .i64 best_ ∧ ρ 11 = v_t_ ∧ ρ 12 = .int .i64 (t_.length : Int) ∧ ρ 13 = .int .i64 x ∧ ρ 9 = .int .i64 x ∧ ρ 41 = .bool c2 ∧ Mb w b6_ 54 (Fraction.cells (⟨0, 0⟩ : Fraction)) ∧ RepSl Rate.R (gfr noG w0) w v_t_ t_ ∧ Ext noG w0 w ∧ w0.heap.size ≤ w.heap.size) ?_ ?_
      · rcases Bool.eq_false_or_eq_true (y.Currency == currency_) with hd4 | hd4
        · rcases Bool.eq_false_or_eq_true (decide (y.Month ≤ month_)) with hd10 | hd10
          · have hc2 := (if_pos (by simp [hd4, hd10])).symm.trans hc2
            obtain ⟨c, hc, hc2⟩ := obind hc2
            have hc2 := Option.some.inj hc2
            rcases Bool.eq_false_or_eq_true (decide (best_ < 0)) with hd13 | hd13
            · have hc := (if_pos (by simp [hd4, hd10, hd13, ← hc2])).symm.trans hc
              have hc := Option.some.inj hc
              refine WP.region mixed [[], [0], [], [1, 2], [3], [4], [4, 5], [4], [4, 6, 7], [4, 8], [9], [10], [10, 11], [10, 12], [13], [13], [13], [13], [13], [13], [13], [13], [10, 13], [10, 22]] [[], [0], [], [1, 2], [3], [4], [4, 5], [4], [4, 6, 7], [4, 8], [9], [10], [10, 11], [10, 12], [13], [13], [13], [13], [13], [13], [13], [13], [10, 13], [10, 22]] [[10], [], [1], [], [], [10], [], [2], [], [], [], [8], [], [], [], [], [], [], [], [], [], [], [], []] [] []
                [val 18 (.pointer (some ((⟨b10_, 0, none⟩ : Addr).add 0))), val 19 (.int .i64 y.Currency), val 20 (.int .i64 currency_), val 21 (.bool (y.Currency == currency_)), val 22 (.bool true), val 23 (.pointer (some ((⟨b10_, 0, none⟩ : Addr).add 1))), val 24 (.int .i64 y.Month), val 25 (.int .i64 month_), val 26 (.bool (decide (y.Month ≤ month_))), val 27 (.bool (decide (y.Month ≤ month_))), val 28 (.bool true), val 29 (.int .i64 best_), val 30 (.bool (decide (best_ < 0))), val 31 (.bool true), anyF 32, anyF 33, anyF 34, anyF 35, anyF 36, anyF 37, anyF 38, anyF 39, val 40 (.bool true), val 41 (.bool true)] noG (by kernel_rfl)
                ⟨Stable.val _ _ _, Stable.val _ _ _, Stable.val _ _ _, Stable.val _ _ _, Stable.val _ _ _, Stable.val _ _ _, Stable.val _ _ _, Stable.val _ _ _, Stable.val _ _ _, Stable.val _ _ _, Stable.val _ _ _, Stable.val _ _ _, Stable.val _ _ _, Stable.val _ _ _, Stable.any _ _, Stable.any _ _, Stable.any _ _, Stable.any _ _, Stable.any _ _, Stable.any _ _, Stable.any _ _, Stable.any _ _, Stable.val _ _ _, Stable.val _ _ _, trivial⟩
                ⟨fun ρz wz hE hA ⟨e10, _⟩ _ => core_val rfl rfl (o_fieldAddr (e10.trans h10) (fa_57_0 _ _)),
     fun ρz wz hE hA _ ⟨u0, _⟩ => core_val rfl rfl (o_load u0 (run_load1 (lr_3 _ _) (CA.sub ((Hb_b10_.exn (hA rfl)).ca) 0 1))),
     fun ρz wz hE hA ⟨e1, _⟩ _ => core_val rfl rfl (o_move (e1.trans h1)),
     fun ρz wz hE hA _ ⟨u1, u2, _⟩ => core_val rfl rfl (o_eql u1 u2 rfl),
     fun ρz wz hE hA _ ⟨u3, _⟩ => core_valE rfl rfl (congrArg Value.bool hd4) (o_move u3),
     fun ρz wz hE hA ⟨e10, _⟩ ⟨u4, _⟩ => gYes rfl u4 (core_val rfl rfl (o_fieldAddr (e10.trans h10) (fa_57_1 _ _))),
     fun ρz wz hE hA _ ⟨u4, u5, _⟩ => gYes rfl u4 (core_val rfl rfl (o_load u5 (run_load1 (lr_3 _ _) (CA.sub ((Hb_b10_.exn (hA rfl)).ca) 1 1)))),
     fun ρz wz hE hA ⟨e2, _⟩ ⟨u4, _⟩ => gYes rfl u4 (core_val rfl rfl (o_move (e2.trans h2))),
     fun ρz wz hE hA _ ⟨u4, u6, u7, _⟩ => gYes rfl u4 (core_val rfl rfl (o_leq u6 u7 rfl)),
     fun ρz wz hE hA _ ⟨u4, u8, _⟩ => core_val rfl rfl (o_pick_t u4 u8),
     fun ρz wz hE hA _ ⟨u9, _⟩ => core_valE rfl rfl (congrArg Value.bool hd10) (o_move u9),
     fun ρz wz hE hA ⟨e8, _⟩ ⟨u10, _⟩ => gYes rfl u10 (core_val rfl rfl (o_move (e8.trans h8))),
     fun ρz wz hE hA _ ⟨u10, u11, _⟩ => gYes rfl u10 (core_val rfl rfl (o_lss u11 rfl rfl)),
     fun ρz wz hE hA _ ⟨u10, u12, _⟩ => gYes rfl u10 (core_valE rfl rfl (congrArg Value.bool hd13) (o_move u12)),
     fun _ _ _ _ _ ⟨u13, _⟩ => gNo rfl u13 rfl trivial,
     fun _ _ _ _ _ ⟨u13, _⟩ => gNo rfl u13 rfl trivial,
     fun _ _ _ _ _ ⟨u13, _⟩ => gNo rfl u13 rfl trivial,
     fun _ _ _ _ _ ⟨u13, _⟩ => gNo rfl u13 rfl trivial,
     fun _ _ _ _ _ ⟨u13, _⟩ => gNo rfl u13 rfl trivial,
     fun _ _ _ _ _ ⟨u13, _⟩ => gNo rfl u13 rfl trivial,
     fun _ _ _ _ _ ⟨u13, _⟩ => gNo rfl u13 rfl trivial,
     fun _ _ _ _ _ ⟨u13, _⟩ => gNo rfl u13 rfl trivial,
     fun ρz wz hE hA _ ⟨u10, u13, _⟩ => gYes rfl u10 (core_val rfl rfl (o_pick_t u13 rfl)),
     fun ρz wz hE hA _ ⟨u10, u22, _⟩ => core_val rfl rfl (o_pick_t u10 u22), trivial⟩ ?_
              intro ρ10 w10 hE hN hf hr
              have hN := hN rfl
              have h0 := (hr 0 rfl).trans h0
              have h1 := (hr 1 rfl).trans h1
              have h2 := (hr 2 rfl).trans h2
              have h6 := (hr 6 rfl).trans h6
              have h8 := (hr 8 rfl).trans h8
              have h11 := (hr 11 rfl).trans h11
              have h12 := (hr 12 rfl).trans h12
              have h13 := (hr 13 rfl).trans h13
              have h9 := (hr 9 rfl).trans h9
              have h41 : ρ10 41 = .bool true := hf 23 rfl
              have Hb_b6_n := Hb_b6_.exn hN
              have H_t__at0 := H_t_
              have H_t_ := H_t_.exn hN
              have hW := hW.trans hN
              have Hb_b6_ := Hb_b6_n
              have hsz := Nat.le_trans hsz hN.size
              exact ⟨h0, h1, h2, h6, h8, h11, h12, h13, h9, (h41.trans (congrArg Value.bool (by simp [hd4, hd10, hd13, ← hc2, ← hc]))), Hb_b6_, H_t_, hW, hsz⟩
            · have hc := (if_neg (Bool.eq_false_iff.1 (by simp [hd4, hd10, hd13, ← hc2]))).symm.trans hc
              obtain ⟨y2, hy2, hc⟩ := obind hc
              obtain ⟨ay2, cy2, hvy2, hiy2, hAy2⟩ := RepSl.getF H_t_ hy2
              have hc := Option.some.inj hc
              refine WP.region mixed [[], [0], [], [1, 2], [3], [4], [4, 5], [4], [4, 6, 7], [4, 8], [9], [10], [10, 11], [10, 12], [13], [13, 14], [13], [13], [13, 16, 17], [13, 18], [13, 19], [13, 15, 20], [10, 13, 21], [10, 22]] [[], [0], [], [1, 2], [3], [4], [4, 5], [4], [4, 6, 7], [4, 8], [9], [10], [10, 11], [10, 12], [13], [13, 14], [13], [13], [13, 16, 17], [13, 18], [13, 19], [13, 15, 20], [10, 13, 21], [10, 22]] [[10], [], [1], [], [], [10], [], [2], [], [], [], [8], [], [], [10], [], [0], [8], [], [], [], [], [], []] [] []
                [val 18 (.pointer (some ((⟨b10_, 0, none⟩ : Addr).add 0))), val 19 (.int .i64 y.Currency), val 20 (.int .i64 currency_), val 21 (.bool (y.Currency == currency_)), val 22 (.bool true), val 23 (.pointer (some ((⟨b10_, 0, none⟩ : Addr).add 1))), val 24 (.int .i64 y.Month), val 25 (.int .i64 month_), val 26 (.bool (decide (y.Month ≤ month_))), val 27 (.bool (decide (y.Month ≤ month_))), val 28 (.bool true), val 29 (.int .i64 best_), val 30 (.bool (decide (best_ < 0))), val 31 (.bool false), val 32 (.pointer (some ((⟨b10_, 0, none⟩ : Addr).add 1))), val 33 (.int .i64 y.Month), val 34 (v_t_), val 35 (.int .i64 best_), val 36 (.pointer (some (ay2.add (Int.toNat best_ * 4)))), val 37 (.pointer (some ((ay2.add (Int.toNat best_ * 4)).add 1))), val 38 (.int .i64 y2.Month), val 39 (.bool (decide (y2.Month < y.Month))), val 40 (.bool (decide (y2.Month < y.Month))), val 41 (.bool (decide (y2.Month < y.Month)))] noG (by kernel_rfl)
                ⟨Stable.val _ _ _, Stable.val _ _ _, Stable.val _ _ _, Stable.val _ _ _, Stable.val _ _ _, Stable.val _ _ _, Stable.val _ _ _, Stable.val _ _ _, Stable.val _ _ _, Stable.val _ _ _, Stable.val _ _ _, Stable.val _ _ _, Stable.val _ _ _, Stable.val _ _ _, Stable.val _ _ _, Stable.val _ _ _, Stable.val _ _ _, Stable.val _ _ _, Stable.val _ _ _, Stable.val _ _ _, Stable.val _ _ _, Stable.val _ _ _, Stable.val _ _ _, Stable.val _ _ _, trivial⟩
                ⟨fun ρz wz hE hA ⟨e10, _⟩ _ => core_val rfl rfl (o_fieldAddr (e10.trans h10) (fa_57_0 _ _)),
     fun ρz wz hE hA _ ⟨u0, _⟩ => core_val rfl rfl (o_load u0 (run_load1 (lr_3 _ _) (CA.sub ((Hb_b10_.exn (hA rfl)).ca) 0 1))),
     fun ρz wz hE hA ⟨e1, _⟩ _ => core_val rfl rfl (o_move (e1.trans h1)),
     fun ρz wz hE hA _ ⟨u1, u2, _⟩ => core_val rfl rfl (o_eql u1 u2 rfl),
     fun ρz wz hE hA _ ⟨u3, _⟩ => core_valE rfl rfl (congrArg Value.bool hd4) (o_move u3),
     fun ρz wz hE hA ⟨e10, _⟩ ⟨u4, _⟩ => gYes rfl u4 (core_val rfl rfl (o_fieldAddr (e10.trans h10) (fa_57_1 _ _))),
     fun ρz wz hE hA _ ⟨u4, u5, _⟩ => gYes rfl u4 (core_val rfl rfl (o_load u5 (run_load1 (lr_3 _ _) (CA.sub ((Hb_b10_.exn (hA rfl)).ca) 1 1)))),
     fun ρz wz hE hA ⟨e2, _⟩ ⟨u4, _⟩ => gYes rfl u4 (core_val rfl rfl (o_move (e2.trans h2))),
     fun ρz wz hE hA _ ⟨u4, u6, u7, _⟩ => gYes rfl u4 (core_val rfl rfl (o_leq u6 u7 rfl)),
     fun ρz wz hE hA _ ⟨u4, u8, _⟩ => core_val rfl rfl (o_pick_t u4 u8),
     fun ρz wz hE hA _ ⟨u9, _⟩ => core_valE rfl rfl (congrArg Value.bool hd10) (o_move u9),
     fun ρz wz hE hA ⟨e8, _⟩ ⟨u10, _⟩ => gYes rfl u10 (core_val rfl rfl (o_move (e8.trans h8))),
     fun ρz wz hE hA _ ⟨u10, u11, _⟩ => gYes rfl u10 (core_val rfl rfl (o_lss u11 rfl rfl)),
     fun ρz wz hE hA _ ⟨u10, u12, _⟩ => gYes rfl u10 (core_valE rfl rfl (congrArg Value.bool hd13) (o_move u12)),
     fun ρz wz hE hA ⟨e10, _⟩ ⟨u13, _⟩ => gYes rfl u13 (core_val rfl rfl (o_fieldAddr (e10.trans h10) (fa_57_1 _ _))),
     fun ρz wz hE hA _ ⟨u13, u14, _⟩ => gYes rfl u13 (core_val rfl rfl (o_load u14 (run_load1 (lr_3 _ _) (CA.sub ((Hb_b10_.exn (hA rfl)).ca) 1 1)))),
     fun ρz wz hE hA ⟨e0, _⟩ ⟨u13, _⟩ => gYes rfl u13 (core_val rfl rfl (o_move (e0.trans h0))),
     fun ρz wz hE hA ⟨e8, _⟩ ⟨u13, _⟩ => gYes rfl u13 (core_val rfl rfl (o_move (e8.trans h8))),
     fun ρz wz hE hA _ ⟨u13, u16, u17, _⟩ => gYes rfl u13 (core_val rfl rfl (o_indexAddr (u16.trans hvy2) u17 (ia_26 hiy2))),
     fun ρz wz hE hA _ ⟨u13, u18, _⟩ => gYes rfl u13 (core_val rfl rfl (o_fieldAddr u18 (fa_57_1 _ _))),
     fun ρz wz hE hA _ ⟨u13, u19, _⟩ => gYes rfl u13 (core_val rfl rfl (o_load u19 (run_load1 (lr_3 _ _) (CA.sub ((hAy2.exn (hA rfl)).ca) 1 1)))),
     fun ρz wz hE hA _ ⟨u13, u15, u20, _⟩ => gYes rfl u13 (core_val rfl rfl (o_gtr u15 u20 rfl)),
     fun ρz wz hE hA _ ⟨u10, u13, u21, _⟩ => gYes rfl u10 (core_val rfl rfl (o_pick_f u13 u21)),
     fun ρz wz hE hA _ ⟨u10, u22, _⟩ => core_val rfl rfl (o_pick_t u10 u22), trivial⟩ ?_
              intro ρ11 w11 hE hN hf hr
              have hN := hN rfl
              have h0 := (hr 0 rfl).trans h0
              have h1 := (hr 1 rfl).trans h1
              have h2 := (hr 2 rfl).trans h2
              have h6 := (hr 6 rfl).trans h6
              have h8 := (hr 8 rfl).trans h8
              have h11 := (hr 11 rfl).trans h11
              have h12 := (hr 12 rfl).trans h12
              have h13 := (hr 13 rfl).trans h13
              have h9 := (hr 9 rfl).trans h9
              have h41 : ρ11 41 = .bool (decide (y2.Month < y.Month)) := hf 23 rfl
              have Hb_b6_n := Hb_b6_.exn hN
              have H_t__at0 := H_t_
              have H_t_ := H_t_.exn hN
              have hW := hW.trans hN
              have Hb_b6_ := Hb_b6_n
              have hsz := Nat.le_trans hsz hN.size
              exact ⟨h0, h1, h2, h6, h8, h11, h12, h13, h9, (h41.trans (congrArg Value.bool (by simp [hd4, hd10, hd13, ← hc2, ← hc]))), Hb_b6_, H_t_, hW, hsz⟩
          · have hc2 := (if_neg (Bool.eq_false_iff.1 (by simp [hd4, hd10]))).symm.trans hc2
            have hc2 := Option.some.inj hc2
            refine WP.region mixed [[], [0], [], [1, 2], [3], [4], [4, 5], [4], [4, 6, 7], [4, 8], [9], [10], [10], [10], [13], [13], [13], [13], [13], [13], [13], [13], [10], [10]] [[], [0], [], [1, 2], [3], [4], [4, 5], [4], [4, 6, 7], [4, 8], [9], [10], [10], [10], [13], [13], [13], [13], [13], [13], [13], [13], [10], [10]] [[10], [], [1], [], [], [10], [], [2], [], [], [], [], [], [], [], [], [], [], [], [], [], [], [], []] [] []
              [val 18 (.pointer (some ((⟨b10_, 0, none⟩ : Addr).add 0))), val 19 (.int .i64 y.Currency), val 20 (.int .i64 currency_), val 21 (.bool (y.Currency == currency_)), val 22 (.bool true), val 23 (.pointer (some ((⟨b10_, 0, none⟩ : Addr).add 1))), val 24 (.int .i64 y.Month), val 25 (.int .i64 month_), val 26 (.bool (decide (y.Month ≤ month_))), val 27 (.bool (decide (y.Month ≤ month_))), val 28 (.bool false), anyF 29, anyF 30, val 31 undef, anyF 32, anyF 33, anyF 34, anyF 35, anyF 36, anyF 37, anyF 38, anyF 39, anyF 40, val 41 (.bool false)] noG (by kernel_rfl)
              ⟨Stable.val _ _ _, Stable.val _ _ _, Stable.val _ _ _, Stable.val _ _ _, Stable.val _ _ _, Stable.val _ _ _, Stable.val _ _ _, Stable.val _ _ _, Stable.val _ _ _, Stable.val _ _ _, Stable.val _ _ _, Stable.any _ _, Stable.any _ _, Stable.val _ _ _, Stable.any _ _, Stable.any _ _, Stable.any _ _, Stable.any _ _, Stable.any _ _, Stable.any _ _, Stable.any _ _, Stable.any _ _, Stable.any _ _, Stable.val _ _ _, trivial⟩
              ⟨fun ρz wz hE hA ⟨e10, _⟩ _ => core_val rfl rfl (o_fieldAddr (e10.trans h10) (fa_57_0 _ _)),
     fun ρz wz hE hA _ ⟨u0, _⟩ => core_val rfl rfl (o_load u0 (run_load1 (lr_3 _ _) (CA.sub ((Hb_b10_.exn (hA rfl)).ca) 0 1))),
     fun ρz wz hE hA ⟨e1, _⟩ _ => core_val rfl rfl (o_move (e1.trans h1)),
     fun ρz wz hE hA _ ⟨u1, u2, _⟩ => core_val rfl rfl (o_eql u1 u2 rfl),
     fun ρz wz hE hA _ ⟨u3, _⟩ => core_valE rfl rfl (congrArg Value.bool hd4) (o_move u3),
     fun ρz wz hE hA ⟨e10, _⟩ ⟨u4, _⟩ => gYes rfl u4 (core_val rfl rfl (o_fieldAddr (e10.trans h10) (fa_57_1 _ _))),
     fun ρz wz hE hA _ ⟨u4, u5, _⟩ => gYes rfl u4 (core_val rfl rfl (o_load u5 (run_load1 (lr_3 _ _) (CA.sub ((Hb_b10_.exn (hA rfl)).ca) 1 1)))),
     fun ρz wz hE hA ⟨e2, _⟩ ⟨u4, _⟩ => gYes rfl u4 (core_val rfl rfl (o_move (e2.trans h2))),
     fun ρz wz hE hA _ ⟨u4, u6, u7, _⟩ => gYes rfl u4 (core_val rfl rfl (o_leq u6 u7 rfl)),
     fun ρz wz hE hA _ ⟨u4, u8, _⟩ => core_val rfl rfl (o_pick_t u4 u8),
     fun ρz wz hE hA _ ⟨u9, _⟩ => core_valE rfl rfl (congrArg Value.bool hd10) (o_move u9),
     fun _ _ _ _ _ ⟨u10, _⟩ => gNo rfl u10 rfl trivial,
     fun _ _ _ _ _ ⟨u10, _⟩ => gNo rfl u10 rfl trivial,
     fun _ _ _ _ _ ⟨u10, _⟩ => gNo rfl u10 rfl (upd_same _ _ _),
     fun _ _ _ _ _ ⟨u13, _⟩ => gOff rfl u13 trivial,
     fun _ _ _ _ _ ⟨u13, _⟩ => gOff rfl u13 trivial,
     fun _ _ _ _ _ ⟨u13, _⟩ => gOff rfl u13 trivial,
     fun _ _ _ _ _ ⟨u13, _⟩ => gOff rfl u13 trivial,
     fun _ _ _ _ _ ⟨u13, _⟩ => gOff rfl u13 trivial,
     fun _ _ _ _ _ ⟨u13, _⟩ => gOff rfl u13 trivial,
     fun _ _ _ _ _ ⟨u13, _⟩ => gOff rfl u13 trivial,
     fun _ _ _ _ _ ⟨u13, _⟩ => gOff rfl u13 trivial,
     fun _ _ _ _ _ ⟨u10, _⟩ => gNo rfl u10 rfl trivial,
     fun ρz wz hE hA _ ⟨u10, _⟩ => core_val rfl rfl (o_pick_f u10 rfl), trivial⟩ ?_
            intro ρ12 w12 hE hN hf hr
            have hN := hN rfl
            have h0 := (hr 0 rfl).trans h0
            have h1 := (hr 1 rfl).trans h1
            have h2 := (hr 2 rfl).trans h2
            have h6 := (hr 6 rfl).trans h6
            have h8 := (hr 8 rfl).trans h8
            have h11 := (hr 11 rfl).trans h11
            have h12 := (hr 12 rfl).trans h12
            have h13 := (hr 13 rfl).trans h13
            have h9 := (hr 9 rfl).trans h9
            have h41 : ρ12 41 = .bool false := hf 23 rfl
            have Hb_b6_n := Hb_b6_.exn hN
            have H_t__at0 := H_t_
            have H_t_ := H_t_.exn hN
            have hW := hW.trans hN
            have Hb_b6_ := Hb_b6_n
            have hsz := Nat.le_trans hsz hN.size
            exact ⟨h0, h1, h2, h6, h8, h11, h12, h13, h9, (h41.trans (congrArg Value.bool (by simp [hd4, hd10, ← hc2]))), Hb_b6_, H_t_, hW, hsz⟩
        · have hc2 := (if_neg (Bool.eq_false_iff.1 (by simp [hd4]))).symm.trans hc2
          have hc2 := Option.some.inj hc2
          refine WP.region mixed [[], [0], [], [1, 2], [3], [4], [4], [4], [4], [4], [9], [10], [10], [10], [13], [13], [13], [13], [13], [13], [13], [13], [10], [10]] [[], [0], [], [1, 2], [3], [4], [4], [4], [4], [4], [9], [10], [10], [10], [13], [13], [13], [13], [13], [13], [13], [13], [10], [10]] [[10], [], [1], [], [], [], [], [], [], [], [], [], [], [], [], [], [], [], [], [], [], [], [], []] [] []
            [val 18 (.pointer (some ((⟨b10_, 0, none⟩ : Addr).add 0))), val 19 (.int .i64 y.Currency), val 20 (.int .i64 currency_), val 21 (.bool (y.Currency == currency_)), val 22 (.bool false), anyF 23, anyF 24, anyF 25, anyF 26, val 27 (.bool false), val 28 (.bool false), anyF 29, anyF 30, val 31 undef, anyF 32, anyF 33, anyF 34, anyF 35, anyF 36, anyF 37, anyF 38, anyF 39, anyF 40, val 41 (.bool false)] noG (by kernel_rfl)
            ⟨Stable.val _ _ _, Stable.val _ _ _, Stable.val _ _ _, Stable.val _ _ _, Stable.val _ _ _, Stable.any _ _, Stable.any _ _, Stable.any _ _, Stable.any _ _, Stable.val _ _ _, Stable.val _ _ _, Stable.any _ _, Stable.any _ _, Stable.val _ _ _, Stable.any _ _, Stable.any _ _, Stable.any _ _, Stable.any _ _, Stable.any _ _, Stable.any _ _, Stable.any _ _, Stable.any _ _, Stable.any _ _, Stable.val _ _ _, trivial⟩
            ⟨fun ρz wz hE hA ⟨e10, _⟩ _ => core_val rfl rfl (o_fieldAddr (e10.trans h10) (fa_57_0 _ _)),
     fun ρz wz hE hA _ ⟨u0, _⟩ => core_val rfl rfl (o_load u0 (run_load1 (lr_3 _ _) (CA.sub ((Hb_b10_.exn (hA rfl)).ca) 0 1))),
     fun ρz wz hE hA ⟨e1, _⟩ _ => core_val rfl rfl (o_move (e1.trans h1)),
     fun ρz wz hE hA _ ⟨u1, u2, _⟩ => core_val rfl rfl (o_eql u1 u2 rfl),
     fun ρz wz hE hA _ ⟨u3, _⟩ => core_valE rfl rfl (congrArg Value.bool hd4) (o_move u3),
     fun _ _ _ _ _ ⟨u4, _⟩ => gNo rfl u4 rfl trivial,
     fun _ _ _ _ _ ⟨u4, _⟩ => gNo rfl u4 rfl trivial,
     fun _ _ _ _ _ ⟨u4, _⟩ => gNo rfl u4 rfl trivial,
     fun _ _ _ _ _ ⟨u4, _⟩ => gNo rfl u4 rfl trivial,
     fun ρz wz hE hA _ ⟨u4, _⟩ => core_val rfl rfl (o_pick_f u4 rfl),
     fun ρz wz hE hA _ ⟨u9, _⟩ => core_val rfl rfl (o_move u9),
     fun _ _ _ _ _ ⟨u10, _⟩ => gNo rfl u10 rfl trivial,
     fun _ _ _ _ _ ⟨u10, _⟩ => gNo rfl u10 rfl trivial,
     fun _ _ _ _ _ ⟨u10, _⟩ => gNo rfl u10 rfl (upd_same _ _ _),
     fun _ _ _ _ _ ⟨u13, _⟩ => gOff rfl u13 trivial,
     fun _ _ _ _ _ ⟨u13, _⟩ => gOff rfl u13 trivial,
     fun _ _ _ _ _ ⟨u13, _⟩ => gOff rfl u13 trivial,
     fun _ _ _ _ _ ⟨u13, _⟩ => gOff rfl u13 trivial,
     fun _ _ _ _ _ ⟨u13, _⟩ => gOff rfl u13 trivial,
     fun _ _ _ _ _ ⟨u13, _⟩ => gOff rfl u13 trivial,
     fun _ _ _ _ _ ⟨u13, _⟩ => gOff rfl u13 trivial,
     fun _ _ _ _ _ ⟨u13, _⟩ => gOff rfl u13 trivial,
     fun _ _ _ _ _ ⟨u10, _⟩ => gNo rfl u10 rfl trivial,
     fun ρz wz hE hA _ ⟨u10, _⟩ => core_val rfl rfl (o_pick_f u10 rfl), trivial⟩ ?_
          intro ρ13 w13 hE hN hf hr
          have hN := hN rfl
          have h0 := (hr 0 rfl).trans h0
          have h1 := (hr 1 rfl).trans h1
          have h2 := (hr 2 rfl).trans h2
          have h6 := (hr 6 rfl).trans h6
          have h8 := (hr 8 rfl).trans h8
          have h11 := (hr 11 rfl).trans h11
          have h12 := (hr 12 rfl).trans h12
          have h13 := (hr 13 rfl).trans h13
          have h9 := (hr 9 rfl).trans h9
          have h41 : ρ13 41 = .bool false := hf 23 rfl
          have Hb_b6_n := Hb_b6_.exn hN
          have H_t__at0 := H_t_
          have H_t_ := H_t_.exn hN
          have hW := hW.trans hN
          have Hb_b6_ := Hb_b6_n
          have hsz := Nat.le_trans hsz hN.size
          exact ⟨h0, h1, h2, h6, h8, h11, h12, h13, h9, (h41.trans (congrArg Value.bool (by simp [hd4, ← hc2]))), Hb_b6_, H_t_, hW, hsz⟩
      rintro ρ9 w9 ⟨h0, h1, h2, h6, h8, h11, h12, h13, h9, h41, Hb_b6_, H_t_, hW, hsz⟩
      refine WP.cond rfl h41 (fun hb => ?_) (fun hb => ?_)
      · have hF := (if_pos hb).symm.trans hF
        refine WP.region mixed [[], [0]] [[], [0]] [[9], []] [] []
          [val 42 (.int .i64 x), val 8 (.int .i64 x)] noG (by kernel_rfl)
          ⟨Stable.val _ _ _, Stable.val _ _ _, trivial⟩
          ⟨fun ρz wz hE hA ⟨e9, _⟩ _ => core_val rfl rfl (o_move (e9.trans h9)),
     fun ρz wz hE hA _ ⟨u0, _⟩ => core_val rfl rfl (o_assign u0), trivial⟩ ?_
        intro ρ14 w14 hE hN hf hr
        have hN := hN rfl
        have h0 := (hr 0 rfl).trans h0
        have h1 := (hr 1 rfl).trans h1
        have h2 := (hr 2 rfl).trans h2
        have h6 := (hr 6 rfl).trans h6
        have h8 : ρ14 8 = .int .i64 x := hf 1 rfl
        have h11 := (hr 11 rfl).trans h11
        have h12 := (hr 12 rfl).trans h12
        have h13 := (hr 13 rfl).trans h13
        have Hb_b6_n := Hb_b6_.exn hN
        have H_t__at0 := H_t_
        have H_t_ := H_t_.exn hN
        have hW := hW.trans hN
        have Hb_b6_ := Hb_b6_n
        have hsz := Nat.le_trans hsz hN.size
        exact ⟨x, h0, h1, h2, h6, h8, h11, h12, h13, Hb_b6_, H_t_, hW, hsz, hF⟩
      · have hF := (if_neg (Bool.eq_false_iff.1 hb)).symm.trans hF
        refine WP.skip ?_
        exact ⟨best_, h0, h1, h2, h6, h8, h11, h12, h13, Hb_b6_, H_t_, hW, hsz, hF⟩
    · rintro ρ6 w6 ⟨best_2, h0, h1, h2, h6, h8, h11, h12, h13, Hb_b6_, H_t_, hW, hsz, hF⟩
      rw [money_Value_j] at hF
      refine WP.region mixed [[], [0]] [[], [0]] [[13], []] [] []
        [val 43 (.int .i64 (i64 (x + 1))), val 13 (.int .i64 (i64 (x + 1)))] noG (by kernel_rfl)
        ⟨Stable.val _ _ _, Stable.val _ _ _, trivial⟩
        ⟨fun ρz wz hE hA ⟨e13, _⟩ _ => core_val rfl rfl (o_add (e13.trans h13) rfl rfl),
     fun ρz wz hE hA _ ⟨u0, _⟩ => core_val rfl rfl (o_move u0), trivial⟩ ?_
      intro ρ7 w7 hE hN hf hr
      have hN := hN rfl
      have h0 := (hr 0 rfl).trans h0
      have h1 := (hr 1 rfl).trans h1
      have h2 := (hr 2 rfl).trans h2
      have h6 := (hr 6 rfl).trans h6
      have h8 := (hr 8 rfl).trans h8
      have h11 := (hr 11 rfl).trans h11
      have h12 := (hr 12 rfl).trans h12
      have h13 : ρ7 13 = .int .i64 (i64 (x + 1)) := hf 1 rfl
      have Hb_b6_n := Hb_b6_.exn hN
      have H_t__at0 := H_t_
      have H_t_ := H_t_.exn hN
      have hW := hW.trans hN
      have Hb_b6_ := Hb_b6_n
      have hsz := Nat.le_trans hsz hN.size
      exact ⟨best_2, i64 (x + 1), h0, h1, h2, h6, h8, h11, h12, h13, Hb_b6_, H_t_, hW, hsz, (by first | exact hF | (rw [hrec_]; exact hF))⟩
  · have hF := (if_neg (Bool.eq_false_iff.1 hb)).symm.trans hF
    refine WP.exit ?_
    refine thenQ_exit ?_
    refine thenQ_exit ?_
    refine blockQ_hit ?_
    refine WP.seq ?_
    refine WP.seq ?_
    refine WP.region mixed [[], [0]] [[], [0]] [[8], []] [] []
      [val 44 (.int .i64 best_), val 45 (.bool (decide (best_ < 0)))] noG (by kernel_rfl)
      ⟨Stable.val _ _ _, Stable.val _ _ _, trivial⟩
      ⟨fun ρz wz hE hA ⟨e8, _⟩ _ => core_val rfl rfl (o_move (e8.trans h8)),
     fun ρz wz hE hA _ ⟨u0, _⟩ => core_val rfl rfl (o_lss u0 rfl rfl), trivial⟩ ?_
    intro ρ15 w15 hE hN hf hr
    have hN := hN rfl
    have h0 := (hr 0 rfl).trans h0
    have h6 := (hr 6 rfl).trans h6
    have h8 := (hr 8 rfl).trans h8
    have h45 : ρ15 45 = .bool (decide (best_ < 0)) := hf 1 rfl
    have Hb_b6_n := Hb_b6_.exn hN
    have H_t__at0 := H_t_
    have H_t_ := H_t_.exn hN
    have hW := hW.trans hN
    have Hb_b6_ := Hb_b6_n
    have hsz := Nat.le_trans hsz hN.size
    refine WP.cond rfl h45 (fun hb => ?_) (fun hb => ?_)
    · have hF := (if_pos hb).symm.trans hF
      refine WP.seq ?_
      refine WP.region mixed [[], [0], [1]] [[], [0], []] [[], [6], []] [1] []
        [val 46 (Fraction.val (⟨0, 0⟩ : Fraction)), (6, fun _ wz => Mb wz b6_ 54 (Fraction.cells (⟨0, 0⟩ : Fraction))), val 7 (.bool false)] (fun x => x = b6_) (by kernel_rfl)
        ⟨Stable.val _ _ _, fun _ _ _ hE hM => hM.exn hE, Stable.val _ _ _, trivial⟩
        ⟨fun ρz wz hE hA _ _ => core_val rfl rfl (o_build (by simp) (bd_54_  _)),
     fun ρz wz hE hA ⟨e6, _⟩ ⟨u0, _⟩ => core_storeBox rfl rfl (fun _ h => h) (e6.trans h6) u0 (Hb_b6_.exn (hA rfl)) (fun a w => st_54 _ a w) rfl (one_54 _),
     fun ρz wz hE hA _ _ => core_val rfl rfl (o_assign rfl), trivial⟩ ?_
      intro ρ16 w16 hE hN hf hr
      have h6 := (hr 6 rfl).trans h6
      have h7 : ρ16 7 = .bool false := hf 2 rfl
      have Hb_b6_n := hf 1 rfl
      have hW := Ext.own hW hE (fun x h => h.symm ▸ hB_b6_)
      have Hb_b6_ := Hb_b6_n
      have hsz := Nat.le_trans hsz hE.size
      refine WP.ret ?_
      show retQ Tryd.prog 52 Tryd.f52 (fun v w1 => v = .tuple #[Fraction.val r.1, .bool r.2] ∧ Ext noG w0 w1) .ret ρ16 w16
      obtain rfl := Option.some.inj hF
      exact resC1 rfl (by decide) (by decide) h6 (run_loadN (cs := (Fraction.cells (⟨0, 0⟩ : Fraction))) (lr_54 _ _) rfl Hb_b6_.ca) h7 ⟨rfl, hW⟩
    · have hF := (if_neg (Bool.eq_false_iff.1 hb)).symm.trans hF
      refine WP.skip ?_
      refine WP.seq ?_
      obtain ⟨y3, hy3, hF⟩ := obind hF
      obtain ⟨ay3, cy3, hvy3, hiy3, hAy3⟩ := RepSl.getF H_t_ hy3
      refine WP.region mixed [[], [], [0, 1], [2], [3], [4], [5]] [[], [], [0, 1], [2], [3], [4], []] [[0], [8], [], [], [], [6], []] [5] []
        [val 47 (v_t_), val 48 (.int .i64 best_), val 49 (.pointer (some (ay3.add (Int.toNat best_ * 4)))), val 50 (.pointer (some ((ay3.add (Int.toNat best_ * 4)).add 2))), val 51 (Fraction.val y3.Value), (6, fun _ wz => Mb wz b6_ 54 (Fraction.cells y3.Value)), val 7 (.bool true)] (fun x => x = b6_) (by kernel_rfl)
        ⟨Stable.val _ _ _, Stable.val _ _ _, Stable.val _ _ _, Stable.val _ _ _, Stable.val _ _ _, fun _ _ _ hE hM => hM.exn hE, Stable.val _ _ _, trivial⟩
        ⟨fun ρz wz hE hA ⟨e0, _⟩ _ => core_val rfl rfl (o_move (e0.trans h0)),
     fun ρz wz hE hA ⟨e8, _⟩ _ => core_val rfl rfl (o_move (e8.trans h8)),
     fun ρz wz hE hA _ ⟨u0, u1, _⟩ => core_val rfl rfl (o_indexAddr (u0.trans hvy3) u1 (ia_26 hiy3)),
     fun ρz wz hE hA _ ⟨u2, _⟩ => core_val rfl rfl (o_fieldAddr u2 (fa_57_2 _ _)),
     fun ρz wz hE hA _ ⟨u3, _⟩ => core_val rfl rfl (o_load u3 (run_loadN (cs := (Fraction.cells y3.Value)) (lr_54 _ _) rfl (CA.sub ((hAy3.exn (hA rfl)).ca) 2 2))),
     fun ρz wz hE hA ⟨e6, _⟩ ⟨u4, _⟩ => core_storeBox rfl rfl (fun _ h => h) (e6.trans h6) u4 (Hb_b6_.exn (hA rfl)) (fun a w => st_54 _ a w) rfl (one_54 _),
     fun ρz wz hE hA _ _ => core_val rfl rfl (o_assign rfl), trivial⟩ ?_
      intro ρ17 w17 hE hN hf hr
      have h6 := (hr 6 rfl).trans h6
      have h7 : ρ17 7 = .bool true := hf 6 rfl
      have Hb_b6_n := hf 5 rfl
      have hW := Ext.own hW hE (fun x h => h.symm ▸ hB_b6_)
      have Hb_b6_ := Hb_b6_n
      have hsz := Nat.le_trans hsz hE.size
      refine WP.ret ?_
      show retQ Tryd.prog 52 Tryd.f52 (fun v w1 => v = .tuple #[Fraction.val r.1, .bool r.2] ∧ Ext noG w0 w1) .ret ρ17 w17
      obtain rfl := Option.some.inj hF
      exact resC1 rfl (by decide) (by decide) h6 (run_loadN (cs := (Fraction.cells y3.Value)) (lr_54 _ _) rfl Hb_b6_.ca) h7 ⟨rfl, hW⟩

set_option maxHeartbeats 4000000 in
theorem money_Convert_ok {w0 : World} (d_ : Int) (i_ : Int) (p_ : Int) (p_2 : Int) (p_3 : List Rate) (p_4 : Rounding) {v_p_3 : Value} (H_p_3 : RepSl Rate.R noG w0 v_p_3 p_3) {r : Int × Int} (hF : money_Convert d_ i_ p_ p_2 p_3 p_4 = some r) :
    Calls Tryd.prog 38 #[.int .i64 d_, .int .i64 i_, .int .i64 p_, .int .i64 p_2, v_p_3, Rounding.val p_4] w0 fun e w1 => e = .returned (.tuple #[.int .i64 r.1, .int .i64 r.2]) ∧ Ext noG w0 w1 := by
  refine (Calls.start (P := Tryd.prog) (args := [.int .i64 d_, .int .i64 i_, .int .i64 p_, .int .i64 p_2, v_p_3, Rounding.val p_4]) (R := fun v w1 => v = .tuple #[.int .i64 r.1, .int .i64 r.2] ∧ Ext noG w0 w1) (n := 107) (w := w0) Tryd.func38 rfl rfl (Nat.le_of_ble_eq_true rfl) (fun ρ hargs => ?_)).mono (fun e w1 ⟨v, he, hv, hE⟩ => ⟨hv ▸ he, hE⟩)
  have h0 := hargs 0 _ rfl
  have h1 := hargs 1 _ rfl
  have h2 := hargs 2 _ rfl
  have h3 := hargs 3 _ rfl
  have h4 := hargs 4 _ rfl
  have h5 := hargs 5 _ rfl
  have hW := Ext.refl noG w0
  have hsz := Nat.le_refl w0.heap.size
  obtain ⟨_, _, hs_H_p_3, _, _⟩ := RepSl.shape H_p_3
  have H_p_3 := H_p_3.start
  rw [money_Convert] at hF
  refine WP.seq ?_
  refine WP.region mixed [[], [], []] [[], [], []] [[5], [], []] [] []
    [(11, fun u wz => ∃ b, u = .pointer (some ⟨b, 0, none⟩) ∧ w0.heap.size ≤ b ∧ Mb wz b 72 (Rounding.cells p_4)), val 12 (.int .i64 0), val 13 (.int .i64 0)] noG (by kernel_rfl)
    ⟨fun _ _ _ hE ⟨b, hb, hs, hM⟩ => ⟨b, hb, hs, hM.exn hE⟩, Stable.val _ _ _, Stable.val _ _ _, trivial⟩
    ⟨fun ρz wz hE hA ⟨e5, _⟩ _ => core_new rfl rfl hE (o_box (e5.trans h5) (bx_72 _ _)),
     fun ρz wz hE hA _ _ => core_val rfl rfl (o_assign rfl),
     fun ρz wz hE hA _ _ => core_val rfl rfl (o_assign rfl), trivial⟩ ?_
  intro ρ1 w1 hE hN hf hr
  have hN := hN rfl
  have h0 := (hr 0 rfl).trans h0
  have h1 := (hr 1 rfl).trans h1
  have h2 := (hr 2 rfl).trans h2
  have h3 := (hr 3 rfl).trans h3
  have h4 := (hr 4 rfl).trans h4
  obtain ⟨b11_, h11, hge_b11_, Hb_b11_⟩ := hf 0 rfl
  have H_p_3_at0 := H_p_3
  have H_p_3 := H_p_3.exn hN
  have hW := hW.trans hN
  have hB_b11_ : w0.heap.size ≤ b11_ := Nat.le_trans hsz hge_b11_
  have hsz := Nat.le_trans hsz hN.size
  refine WP.seq ?_
  refine WP.seq ?_
  obtain ⟨z, hz, hF⟩ := obind hF
  obtain ⟨c, hc, hF⟩ := obind hF
  obtain ⟨c2, hc2, hF⟩ := obind hF
  obtain ⟨c3, hc3, hF⟩ := obind hF
  obtain ⟨c4, hc4, hF⟩ := obind hF
  obtain ⟨c5, hc5, hF⟩ := obind hF
  refine WP.via (fun ρ w => ρ 0 = .int .i64 d_ ∧ ρ 1 = .int .i64 i_ ∧ ρ 2 = .int .i64 p_ ∧ ρ 3 = .int .i64 p_2 ∧ ρ 4 = v_p_3 ∧ ρ 11 = .pointer (some ⟨b11_, 0, none⟩) ∧ ρ 47 = .bool c5 ∧ Mb w b11_ 72 (Rounding.cells p_4) ∧ RepSl Rate.R (gfr noG w0) w v_p_3 p_3 ∧ Ext noG w0 w ∧ w0.heap.size ≤ w.heap.size) ?_ ?_
  · rcases Bool.eq_false_or_eq_true (!z) with hd3 | hd3
    · have hc := (if_pos (by simp [hd3])).symm.trans hc
      have hc := Option.some.inj hc
      have hc2 := (if_pos (by simp [hd3, ← hc])).symm.trans hc2
      have hc2 := Option.some.inj hc2
      have hc3 := (if_pos (by simp [hd3, ← hc, ← hc2])).symm.trans hc3
      have hc3 := Option.some.inj hc3
      have hc4 := (if_pos (by simp [hd3, ← hc, ← hc2, ← hc3])).symm.trans hc4
      have hc4 := Option.some.inj hc4
      have hc5 := (if_pos (by simp [hd3, ← hc, ← hc2, ← hc3, ← hc4])).symm.trans hc5
      have hc5 := Option.some.inj hc5
      refine WP.region mixed [[], [0], [1], [2], [3], [3], [3], [3], [7], [8], [8], [8], [8], [12], [13], [13], [13], [13], [17], [18], [18], [18], [18], [22], [23], [23], [23], [23]] [[], [0], [1], [2], [3], [3], [3], [3], [7], [8], [8], [8], [8], [12], [13], [13], [13], [13], [17], [18], [18], [18], [18], [22], [23], [23], [23], [23]] [[0], [], [], [], [], [], [], [], [], [], [], [], [], [], [], [], [], [], [], [], [], [], [], [], [], [], [], []] [] []
        [val 20 (.int .i64 d_), val 21 (.bool z), val 22 (.bool (!z)), val 23 (.bool true), anyF 24, anyF 25, anyF 26, val 27 (.bool true), val 28 (.bool true), anyF 29, anyF 30, anyF 31, val 32 (.bool true), val 33 (.bool true), anyF 34, anyF 35, anyF 36, val 37 (.bool true), val 38 (.bool true), anyF 39, anyF 40, anyF 41, val 42 (.bool true), val 43 (.bool true), anyF 44, anyF 45, anyF 46, val 47 (.bool true)] noG (by kernel_rfl)
        ⟨Stable.val _ _ _, Stable.val _ _ _, Stable.val _ _ _, Stable.val _ _ _, Stable.any _ _, Stable.any _ _, Stable.any _ _, Stable.val _ _ _, Stable.val _ _ _, Stable.any _ _, Stable.any _ _, Stable.any _ _, Stable.val _ _ _, Stable.val _ _ _, Stable.any _ _, Stable.any _ _, Stable.any _ _, Stable.val _ _ _, Stable.val _ _ _, Stable.any _ _, Stable.any _ _, Stable.any _ _, Stable.val _ _ _, Stable.val _ _ _, Stable.any _ _, Stable.any _ _, Stable.any _ _, Stable.val _ _ _, trivial⟩
        ⟨fun ρz wz hE hA ⟨e0, _⟩ _ => core_val rfl rfl (o_move (e0.trans h0)),
     fun ρz wz hE hA _ ⟨u0, _⟩ => core_call rfl (call_args1 u0) cf_56 (money_amount_ok  _  hz),
     fun ρz wz hE hA _ ⟨u1, _⟩ => core_val rfl rfl (o_not u1 rfl),
     fun ρz wz hE hA _ ⟨u2, _⟩ => core_valE rfl rfl (congrArg Value.bool hd3) (o_move u2),
     fun _ _ _ _ _ ⟨u3, _⟩ => gNo rfl u3 rfl trivial,
     fun _ _ _ _ _ ⟨u3, _⟩ => gNo rfl u3 rfl trivial,
     fun _ _ _ _ _ ⟨u3, _⟩ => gNo rfl u3 rfl trivial,
     fun ρz wz hE hA _ ⟨u3, _⟩ => core_val rfl rfl (o_pick_t u3 rfl),
     fun ρz wz hE hA _ ⟨u7, _⟩ => core_val rfl rfl (o_move u7),
     fun _ _ _ _ _ ⟨u8, _⟩ => gNo rfl u8 rfl trivial,
     fun _ _ _ _ _ ⟨u8, _⟩ => gNo rfl u8 rfl trivial,
     fun _ _ _ _ _ ⟨u8, _⟩ => gNo rfl u8 rfl trivial,
     fun ρz wz hE hA _ ⟨u8, _⟩ => core_val rfl rfl (o_pick_t u8 rfl),
     fun ρz wz hE hA _ ⟨u12, _⟩ => core_val rfl rfl (o_move u12),
     fun _ _ _ _ _ ⟨u13, _⟩ => gNo rfl u13 rfl trivial,
     fun _ _ _ _ _ ⟨u13, _⟩ => gNo rfl u13 rfl trivial,
     fun _ _ _ _ _ ⟨u13, _⟩ => gNo rfl u13 rfl trivial,
     fun ρz wz hE hA _ ⟨u13, _⟩ => core_val rfl rfl (o_pick_t u13 rfl),
     fun ρz wz hE hA _ ⟨u17, _⟩ => core_val rfl rfl (o_move u17),
     fun _ _ _ _ _ ⟨u18, _⟩ => gNo rfl u18 rfl trivial,
     fun _ _ _ _ _ ⟨u18, _⟩ => gNo rfl u18 rfl trivial,
     fun _ _ _ _ _ ⟨u18, _⟩ => gNo rfl u18 rfl trivial,
     fun ρz wz hE hA _ ⟨u18, _⟩ => core_val rfl rfl (o_pick_t u18 rfl),
     fun ρz wz hE hA _ ⟨u22, _⟩ => core_val rfl rfl (o_move u22),
     fun _ _ _ _ _ ⟨u23, _⟩ => gNo rfl u23 rfl trivial,
     fun _ _ _ _ _ ⟨u23, _⟩ => gNo rfl u23 rfl trivial,
     fun _ _ _ _ _ ⟨u23, _⟩ => gNo rfl u23 rfl trivial,
     fun ρz wz hE hA _ ⟨u23, _⟩ => core_val rfl rfl (o_pick_t u23 rfl), trivial⟩ ?_
      intro ρ3 w3 hE hN hf hr
      have hN := hN rfl
      have h0 := (hr 0 rfl).trans h0
      have h1 := (hr 1 rfl).trans h1
      have h2 := (hr 2 rfl).trans h2
      have h3 := (hr 3 rfl).trans h3
      have h4 := (hr 4 rfl).trans h4
      have h11 := (hr 11 rfl).trans h11
      have h47 : ρ3 47 = .bool true := hf 27 rfl
      have Hb_b11_n := Hb_b11_.exn hN
      have H_p_3_at0 := H_p_3
      have H_p_3 := H_p_3.exn hN
      have hW := hW.trans hN
      have Hb_b11_ := Hb_b11_n
      have hsz := Nat.le_trans hsz hN.size
      exact ⟨h0, h1, h2, h3, h4, h11, (h47.trans (congrArg Value.bool (by simp [hd3, ← hc, ← hc2, ← hc3, ← hc4, ← hc5]))), Hb_b11_, H_p_3, hW, hsz⟩
    · have hc := (if_neg (Bool.eq_false_iff.1 (by simp [hd3]))).symm.trans hc
      obtain ⟨z2, hz2, hc⟩ := obind hc
      have hc := Option.some.inj hc
      rcases Bool.eq_false_or_eq_true (!z2) with hd8 | hd8
      · have hc2 := (if_pos (by simp [hd3, hd8, ← hc])).symm.trans hc2
        have hc2 := Option.some.inj hc2
        have hc3 := (if_pos (by simp [hd3, hd8, ← hc, ← hc2])).symm.trans hc3
        have hc3 := Option.some.inj hc3
        have hc4 := (if_pos (by simp [hd3, hd8, ← hc, ← hc2, ← hc3])).symm.trans hc4
        have hc4 := Option.some.inj hc4
        have hc5 := (if_pos (by simp [hd3, hd8, ← hc, ← hc2, ← hc3, ← hc4])).symm.trans hc5
        have hc5 := Option.some.inj hc5
        refine WP.region mixed [[], [0], [1], [2], [3], [3, 4], [3, 5], [3, 6], [7], [8], [8], [8], [8], [12], [13], [13], [13], [13], [17], [18], [18], [18], [18], [22], [23], [23], [23], [23]] [[], [0], [1], [2], [3], [3, 4], [3, 5], [3, 6], [7], [8], [8], [8], [8], [12], [13], [13], [13], [13], [17], [18], [18], [18], [18], [22], [23], [23], [23], [23]] [[0], [], [], [], [1], [], [], [], [], [], [], [], [], [], [], [], [], [], [], [], [], [], [], [], [], [], [], []] [] []
          [val 20 (.int .i64 d_), val 21 (.bool z), val 22 (.bool (!z)), val 23 (.bool false), val 24 (.int .i64 i_), val 25 (.bool z2), val 26 (.bool (!z2)), val 27 (.bool (!z2)), val 28 (.bool true), anyF 29, anyF 30, anyF 31, val 32 (.bool true), val 33 (.bool true), anyF 34, anyF 35, anyF 36, val 37 (.bool true), val 38 (.bool true), anyF 39, anyF 40, anyF 41, val 42 (.bool true), val 43 (.bool true), anyF 44, anyF 45, anyF 46, val 47 (.bool true)] noG (by kernel_rfl)
          ⟨Stable.val _ _ _, Stable.val _ _ _, Stable.val _ _ _, Stable.val _ _ _, Stable.val _ _ _, Stable.val _ _ _, Stable.val _ _ _, Stable.val _ _ _, Stable.val _ _ _, Stable.any _ _, Stable.any _ _, Stable.any _ _, Stable.val _ _ _, Stable.val _ _ _, Stable.any _ _, Stable.any _ _, Stable.any _ _, Stable.val _ _ _, Stable.val _ _ _, Stable.any _ _, Stable.any _ _, Stable.any _ _, Stable.val _ _ _, Stable.val _ _ _, Stable.any _ _, Stable.any _ _, Stable.any _ _, Stable.val _ _ _, trivial⟩
          ⟨fun ρz wz hE hA ⟨e0, _⟩ _ => core_val rfl rfl (o_move (e0.trans h0)),
     fun ρz wz hE hA _ ⟨u0, _⟩ => core_call rfl (call_args1 u0) cf_56 (money_amount_ok  _  hz),
     fun ρz wz hE hA _ ⟨u1, _⟩ => core_val rfl rfl (o_not u1 rfl),
     fun ρz wz hE hA _ ⟨u2, _⟩ => core_valE rfl rfl (congrArg Value.bool hd3) (o_move u2),
     fun ρz wz hE hA ⟨e1, _⟩ ⟨u3, _⟩ => gYes rfl u3 (core_val rfl rfl (o_move (e1.trans h1))),
     fun ρz wz hE hA _ ⟨u3, u4, _⟩ => gYes rfl u3 (core_call rfl (call_args1 u4) cf_43 (money_currency_ok  _  hz2)),
     fun ρz wz hE hA _ ⟨u3, u5, _⟩ => gYes rfl u3 (core_val rfl rfl (o_not u5 rfl)),
     fun ρz wz hE hA _ ⟨u3, u6, _⟩ => core_val rfl rfl (o_pick_f u3 u6),
     fun ρz wz hE hA _ ⟨u7, _⟩ => core_valE rfl rfl (congrArg Value.bool hd8) (o_move u7),
     fun _ _ _ _ _ ⟨u8, _⟩ => gNo rfl u8 rfl trivial,
     fun _ _ _ _ _ ⟨u8, _⟩ => gNo rfl u8 rfl trivial,
     fun _ _ _ _ _ ⟨u8, _⟩ => gNo rfl u8 rfl trivial,
     fun ρz wz hE hA _ ⟨u8, _⟩ => core_val rfl rfl (o_pick_t u8 rfl),
     fun ρz wz hE hA _ ⟨u12, _⟩ => core_val rfl rfl (o_move u12),
     fun _ _ _ _ _ ⟨u13, _⟩ => gNo rfl u13 rfl trivial,
     fun _ _ _ _ _ ⟨u13, _⟩ => gNo rfl u13 rfl trivial,
     fun _ _ _ _ _ ⟨u13, _⟩ => gNo rfl u13 rfl trivial,
     fun ρz wz hE hA _ ⟨u13, _⟩ => core_val rfl rfl (o_pick_t u13 rfl),
     fun ρz wz hE hA _ ⟨u17, _⟩ => core_val rfl rfl (o_move u17),
     fun _ _ _ _ _ ⟨u18, _⟩ => gNo rfl u18 rfl trivial,
     fun _ _ _ _ _ ⟨u18, _⟩ => gNo rfl u18 rfl trivial,
     fun _ _ _ _ _ ⟨u18, _⟩ => gNo rfl u18 rfl trivial,
     fun ρz wz hE hA _ ⟨u18, _⟩ => core_val rfl rfl (o_pick_t u18 rfl),
     fun ρz wz hE hA _ ⟨u22, _⟩ => core_val rfl rfl (o_move u22),
     fun _ _ _ _ _ ⟨u23, _⟩ => gNo rfl u23 rfl trivial,
     fun _ _ _ _ _ ⟨u23, _⟩ => gNo rfl u23 rfl trivial,
     fun _ _ _ _ _ ⟨u23, _⟩ => gNo rfl u23 rfl trivial,
     fun ρz wz hE hA _ ⟨u23, _⟩ => core_val rfl rfl (o_pick_t u23 rfl), trivial⟩ ?_
        intro ρ4 w4 hE hN hf hr
        have hN := hN rfl
        have h0 := (hr 0 rfl).trans h0
        have h1 := (hr 1 rfl).trans h1
        have h2 := (hr 2 rfl).trans h2
        have h3 := (hr 3 rfl).trans h3
        have h4 := (hr 4 rfl).trans h4
        have h11 := (hr 11 rfl).trans h11
        have h47 : ρ4 47 = .bool true := hf 27 rfl
        have Hb_b11_n := Hb_b11_.exn hN
        have H_p_3_at0 := H_p_3
        have H_p_3 := H_p_3.exn hN
        have hW := hW.trans hN
        have Hb_b11_ := Hb_b11_n
        have hsz := Nat.le_trans hsz hN.size
        exact ⟨h0, h1, h2, h3, h4, h11, (h47.trans (congrArg Value.bool (by simp [hd3, hd8, ← hc, ← hc2, ← hc3, ← hc4, ← hc5]))), Hb_b11_, H_p_3, hW, hsz⟩
      · have hc2 := (if_neg (Bool.eq_false_iff.1 (by simp [hd3, hd8, ← hc]))).symm.trans hc2
        obtain ⟨z3, hz3, hc2⟩ := obind hc2
        have hc2 := Option.some.inj hc2
        rcases Bool.eq_false_or_eq_true (!z3) with hd13 | hd13
        · have hc3 := (if_pos (by simp [hd3, hd8, hd13, ← hc, ← hc2])).symm.trans hc3
          have hc3 := Option.some.inj hc3
          have hc4 := (if_pos (by simp [hd3, hd8, hd13, ← hc, ← hc2, ← hc3])).symm.trans hc4
          have hc4 := Option.some.inj hc4
          have hc5 := (if_pos (by simp [hd3, hd8, hd13, ← hc, ← hc2, ← hc3, ← hc4])).symm.trans hc5
          have hc5 := Option.some.inj hc5
          refine WP.region mixed [[], [0], [1], [2], [3], [3, 4], [3, 5], [3, 6], [7], [8], [8, 9], [8, 10], [8, 11], [12], [13], [13], [13], [13], [17], [18], [18], [18], [18], [22], [23], [23], [23], [23]] [[], [0], [1], [2], [3], [3, 4], [3, 5], [3, 6], [7], [8], [8, 9], [8, 10], [8, 11], [12], [13], [13], [13], [13], [17], [18], [18], [18], [18], [22], [23], [23], [23], [23]] [[0], [], [], [], [1], [], [], [], [], [2], [], [], [], [], [], [], [], [], [], [], [], [], [], [], [], [], [], []] [] []
            [val 20 (.int .i64 d_), val 21 (.bool z), val 22 (.bool (!z)), val 23 (.bool false), val 24 (.int .i64 i_), val 25 (.bool z2), val 26 (.bool (!z2)), val 27 (.bool (!z2)), val 28 (.bool false), val 29 (.int .i64 p_), val 30 (.bool z3), val 31 (.bool (!z3)), val 32 (.bool (!z3)), val 33 (.bool true), anyF 34, anyF 35, anyF 36, val 37 (.bool true), val 38 (.bool true), anyF 39, anyF 40, anyF 41, val 42 (.bool true), val 43 (.bool true), anyF 44, anyF 45, anyF 46, val 47 (.bool true)] noG (by kernel_rfl)
            ⟨Stable.val _ _ _, Stable.val _ _ _, Stable.val _ _ _, Stable.val _ _ _, Stable.val _ _ _, Stable.val _ _ _, Stable.val _ _ _, Stable.val _ _ _, Stable.val _ _ _, Stable.val _ _ _, Stable.val _ _ _, Stable.val _ _ _, Stable.val _ _ _, Stable.val _ _ _, Stable.any _ _, Stable.any _ _, Stable.any _ _, Stable.val _ _ _, Stable.val _ _ _, Stable.any _ _, Stable.any _ _, Stable.any _ _, Stable.val _ _ _, Stable.val _ _ _, Stable.any _ _, Stable.any _ _, Stable.any _ _, Stable.val _ _ _, trivial⟩
            ⟨fun ρz wz hE hA ⟨e0, _⟩ _ => core_val rfl rfl (o_move (e0.trans h0)),
     fun ρz wz hE hA _ ⟨u0, _⟩ => core_call rfl (call_args1 u0) cf_56 (money_amount_ok  _  hz),
     fun ρz wz hE hA _ ⟨u1, _⟩ => core_val rfl rfl (o_not u1 rfl),
     fun ρz wz hE hA _ ⟨u2, _⟩ => core_valE rfl rfl (congrArg Value.bool hd3) (o_move u2),
     fun ρz wz hE hA ⟨e1, _⟩ ⟨u3, _⟩ => gYes rfl u3 (core_val rfl rfl (o_move (e1.trans h1))),
     fun ρz wz hE hA _ ⟨u3, u4, _⟩ => gYes rfl u3 (core_call rfl (call_args1 u4) cf_43 (money_currency_ok  _  hz2)),
     fun ρz wz hE hA _ ⟨u3, u5, _⟩ => gYes rfl u3 (core_val rfl rfl (o_not u5 rfl)),
     fun ρz wz hE hA _ ⟨u3, u6, _⟩ => core_val rfl rfl (o_pick_f u3 u6),
     fun ρz wz hE hA _ ⟨u7, _⟩ => core_valE rfl rfl (congrArg Value.bool hd8) (o_move u7),
     fun ρz wz hE hA ⟨e2, _⟩ ⟨u8, _⟩ => gYes rfl u8 (core_val rfl rfl (o_move (e2.trans h2))),
     fun ρz wz hE hA _ ⟨u8, u9, _⟩ => gYes rfl u8 (core_call rfl (call_args1 u9) cf_43 (money_currency_ok  _  hz3)),
     fun ρz wz hE hA _ ⟨u8, u10, _⟩ => gYes rfl u8 (core_val rfl rfl (o_not u10 rfl)),
     fun ρz wz hE hA _ ⟨u8, u11, _⟩ => core_val rfl rfl (o_pick_f u8 u11),
     fun ρz wz hE hA _ ⟨u12, _⟩ => core_valE rfl rfl (congrArg Value.bool hd13) (o_move u12),
     fun _ _ _ _ _ ⟨u13, _⟩ => gNo rfl u13 rfl trivial,
     fun _ _ _ _ _ ⟨u13, _⟩ => gNo rfl u13 rfl trivial,
     fun _ _ _ _ _ ⟨u13, _⟩ => gNo rfl u13 rfl trivial,
     fun ρz wz hE hA _ ⟨u13, _⟩ => core_val rfl rfl (o_pick_t u13 rfl),
     fun ρz wz hE hA _ ⟨u17, _⟩ => core_val rfl rfl (o_move u17),
     fun _ _ _ _ _ ⟨u18, _⟩ => gNo rfl u18 rfl trivial,
     fun _ _ _ _ _ ⟨u18, _⟩ => gNo rfl u18 rfl trivial,
     fun _ _ _ _ _ ⟨u18, _⟩ => gNo rfl u18 rfl trivial,
     fun ρz wz hE hA _ ⟨u18, _⟩ => core_val rfl rfl (o_pick_t u18 rfl),
     fun ρz wz hE hA _ ⟨u22, _⟩ => core_val rfl rfl (o_move u22),
     fun _ _ _ _ _ ⟨u23, _⟩ => gNo rfl u23 rfl trivial,
     fun _ _ _ _ _ ⟨u23, _⟩ => gNo rfl u23 rfl trivial,
     fun _ _ _ _ _ ⟨u23, _⟩ => gNo rfl u23 rfl trivial,
     fun ρz wz hE hA _ ⟨u23, _⟩ => core_val rfl rfl (o_pick_t u23 rfl), trivial⟩ ?_
          intro ρ5 w5 hE hN hf hr
          have hN := hN rfl
          have h0 := (hr 0 rfl).trans h0
          have h1 := (hr 1 rfl).trans h1
          have h2 := (hr 2 rfl).trans h2
          have h3 := (hr 3 rfl).trans h3
          have h4 := (hr 4 rfl).trans h4
          have h11 := (hr 11 rfl).trans h11
          have h47 : ρ5 47 = .bool true := hf 27 rfl
          have Hb_b11_n := Hb_b11_.exn hN
          have H_p_3_at0 := H_p_3
          have H_p_3 := H_p_3.exn hN
          have hW := hW.trans hN
          have Hb_b11_ := Hb_b11_n
          have hsz := Nat.le_trans hsz hN.size
          exact ⟨h0, h1, h2, h3, h4, h11, (h47.trans (congrArg Value.bool (by simp [hd3, hd8, hd13, ← hc, ← hc2, ← hc3, ← hc4, ← hc5]))), Hb_b11_, H_p_3, hW, hsz⟩
        · have hc3 := (if_neg (Bool.eq_false_iff.1 (by simp [hd3, hd8, hd13, ← hc, ← hc2]))).symm.trans hc3
          obtain ⟨z4, hz4, hc3⟩ := obind hc3
          have hc3 := Option.some.inj hc3
          rcases Bool.eq_false_or_eq_true (!z4) with hd18 | hd18
          · have hc4 := (if_pos (by simp [hd3, hd8, hd13, hd18, ← hc, ← hc2, ← hc3])).symm.trans hc4
            have hc4 := Option.some.inj hc4
            have hc5 := (if_pos (by simp [hd3, hd8, hd13, hd18, ← hc, ← hc2, ← hc3, ← hc4])).symm.trans hc5
            have hc5 := Option.some.inj hc5
            refine WP.region mixed [[], [0], [1], [2], [3], [3, 4], [3, 5], [3, 6], [7], [8], [8, 9], [8, 10], [8, 11], [12], [13], [13, 14], [13, 15], [13, 16], [17], [18], [18], [18], [18], [22], [23], [23], [23], [23]] [[], [0], [1], [2], [3], [3, 4], [3, 5], [3, 6], [7], [8], [8, 9], [8, 10], [8, 11], [12], [13], [13, 14], [13, 15], [13, 16], [17], [18], [18], [18], [18], [22], [23], [23], [23], [23]] [[0], [], [], [], [1], [], [], [], [], [2], [], [], [], [], [3], [], [], [], [], [], [], [], [], [], [], [], [], []] [] []
              [val 20 (.int .i64 d_), val 21 (.bool z), val 22 (.bool (!z)), val 23 (.bool false), val 24 (.int .i64 i_), val 25 (.bool z2), val 26 (.bool (!z2)), val 27 (.bool (!z2)), val 28 (.bool false), val 29 (.int .i64 p_), val 30 (.bool z3), val 31 (.bool (!z3)), val 32 (.bool (!z3)), val 33 (.bool false), val 34 (.int .i64 p_2), val 35 (.bool z4), val 36 (.bool (!z4)), val 37 (.bool (!z4)), val 38 (.bool true), anyF 39, anyF 40, anyF 41, val 42 (.bool true), val 43 (.bool true), anyF 44, anyF 45, anyF 46, val 47 (.bool true)] noG (by kernel_rfl)
              ⟨Stable.val _ _ _, Stable.val _ _ _, Stable.val _ _ _, Stable.val _ _ _, Stable.val _ _ _, Stable.val _ _ _, Stable.val _ _ _, Stable.val _ _ _, Stable.val _ _ _, Stable.val _ _ _, Stable.val _ _ _, Stable.val _ _ _, Stable.val _ _ _, Stable.val _ _ _, Stable.val _ _ _, Stable.val _ _ _, Stable.val _ _ _, Stable.val _ _ _, Stable.val _ _ _, Stable.any _ _, Stable.any _ _, Stable.any _ _, Stable.val _ _ _, Stable.val _ _ _, Stable.any _ _, Stable.any _ _, Stable.any _ _, Stable.val _ _ _, trivial⟩
              ⟨fun ρz wz hE hA ⟨e0, _⟩ _ => core_val rfl rfl (o_move (e0.trans h0)),
     fun ρz wz hE hA _ ⟨u0, _⟩ => core_call rfl (call_args1 u0) cf_56 (money_amount_ok  _  hz),
     fun ρz wz hE hA _ ⟨u1, _⟩ => core_val rfl rfl (o_not u1 rfl),
     fun ρz wz hE hA _ ⟨u2, _⟩ => core_valE rfl rfl (congrArg Value.bool hd3) (o_move u2),
     fun ρz wz hE hA ⟨e1, _⟩ ⟨u3, _⟩ => gYes rfl u3 (core_val rfl rfl (o_move (e1.trans h1))),
     fun ρz wz hE hA _ ⟨u3, u4, _⟩ => gYes rfl u3 (core_call rfl (call_args1 u4) cf_43 (money_currency_ok  _  hz2)),
     fun ρz wz hE hA _ ⟨u3, u5, _⟩ => gYes rfl u3 (core_val rfl rfl (o_not u5 rfl)),
     fun ρz wz hE hA _ ⟨u3, u6, _⟩ => core_val rfl rfl (o_pick_f u3 u6),
     fun ρz wz hE hA _ ⟨u7, _⟩ => core_valE rfl rfl (congrArg Value.bool hd8) (o_move u7),
     fun ρz wz hE hA ⟨e2, _⟩ ⟨u8, _⟩ => gYes rfl u8 (core_val rfl rfl (o_move (e2.trans h2))),
     fun ρz wz hE hA _ ⟨u8, u9, _⟩ => gYes rfl u8 (core_call rfl (call_args1 u9) cf_43 (money_currency_ok  _  hz3)),
     fun ρz wz hE hA _ ⟨u8, u10, _⟩ => gYes rfl u8 (core_val rfl rfl (o_not u10 rfl)),
     fun ρz wz hE hA _ ⟨u8, u11, _⟩ => core_val rfl rfl (o_pick_f u8 u11),
     fun ρz wz hE hA _ ⟨u12, _⟩ => core_valE rfl rfl (congrArg Value.bool hd13) (o_move u12),
     fun ρz wz hE hA ⟨e3, _⟩ ⟨u13, _⟩ => gYes rfl u13 (core_val rfl rfl (o_move (e3.trans h3))),
     fun ρz wz hE hA _ ⟨u13, u14, _⟩ => gYes rfl u13 (core_call rfl (call_args1 u14) cf_44 (money_month_ok  _  hz4)),
     fun ρz wz hE hA _ ⟨u13, u15, _⟩ => gYes rfl u13 (core_val rfl rfl (o_not u15 rfl)),
     fun ρz wz hE hA _ ⟨u13, u16, _⟩ => core_val rfl rfl (o_pick_f u13 u16),
     fun ρz wz hE hA _ ⟨u17, _⟩ => core_valE rfl rfl (congrArg Value.bool hd18) (o_move u17),
     fun _ _ _ _ _ ⟨u18, _⟩ => gNo rfl u18 rfl trivial,
     fun _ _ _ _ _ ⟨u18, _⟩ => gNo rfl u18 rfl trivial,
     fun _ _ _ _ _ ⟨u18, _⟩ => gNo rfl u18 rfl trivial,
     fun ρz wz hE hA _ ⟨u18, _⟩ => core_val rfl rfl (o_pick_t u18 rfl),
     fun ρz wz hE hA _ ⟨u22, _⟩ => core_val rfl rfl (o_move u22),
     fun _ _ _ _ _ ⟨u23, _⟩ => gNo rfl u23 rfl trivial,
     fun _ _ _ _ _ ⟨u23, _⟩ => gNo rfl u23 rfl trivial,
     fun _ _ _ _ _ ⟨u23, _⟩ => gNo rfl u23 rfl trivial,
     fun ρz wz hE hA _ ⟨u23, _⟩ => core_val rfl rfl (o_pick_t u23 rfl), trivial⟩ ?_
            intro ρ6 w6 hE hN hf hr
            have hN := hN rfl
            have h0 := (hr 0 rfl).trans h0
            have h1 := (hr 1 rfl).trans h1
            have h2 := (hr 2 rfl).trans h2
            have h3 := (hr 3 rfl).trans h3
            have h4 := (hr 4 rfl).trans h4
            have h11 := (hr 11 rfl).trans h11
            have h47 : ρ6 47 = .bool true := hf 27 rfl
            have Hb_b11_n := Hb_b11_.exn hN
            have H_p_3_at0 := H_p_3
            have H_p_3 := H_p_3.exn hN
            have hW := hW.trans hN
            have Hb_b11_ := Hb_b11_n
            have hsz := Nat.le_trans hsz hN.size
            exact ⟨h0, h1, h2, h3, h4, h11, (h47.trans (congrArg Value.bool (by simp [hd3, hd8, hd13, hd18, ← hc, ← hc2, ← hc3, ← hc4, ← hc5]))), Hb_b11_, H_p_3, hW, hsz⟩
          · have hc4 := (if_neg (Bool.eq_false_iff.1 (by simp [hd3, hd8, hd13, hd18, ← hc, ← hc2, ← hc3]))).symm.trans hc4
            obtain ⟨z5, hz5, hc4⟩ := obind hc4
            have hc4 := Option.some.inj hc4
            rcases Bool.eq_false_or_eq_true (!z5) with hd23 | hd23
            · have hc5 := (if_pos (by simp [hd3, hd8, hd13, hd18, hd23, ← hc, ← hc2, ← hc3, ← hc4])).symm.trans hc5
              have hc5 := Option.some.inj hc5
              refine WP.region mixed [[], [0], [1], [2], [3], [3, 4], [3, 5], [3, 6], [7], [8], [8, 9], [8, 10], [8, 11], [12], [13], [13, 14], [13, 15], [13, 16], [17], [18], [18, 19], [18, 20], [18, 21], [22], [23], [23], [23], [23]] [[], [0], [1], [2], [3], [3, 4], [3, 5], [3, 6], [7], [8], [8, 9], [8, 10], [8, 11], [12], [13], [13, 14], [13, 15], [13, 16], [17], [18], [18, 19], [18, 20], [18, 21], [22], [23], [23], [23], [23]] [[0], [], [], [], [1], [], [], [], [], [2], [], [], [], [], [3], [], [], [], [], [11], [], [], [], [], [], [], [], []] [] []
                [val 20 (.int .i64 d_), val 21 (.bool z), val 22 (.bool (!z)), val 23 (.bool false), val 24 (.int .i64 i_), val 25 (.bool z2), val 26 (.bool (!z2)), val 27 (.bool (!z2)), val 28 (.bool false), val 29 (.int .i64 p_), val 30 (.bool z3), val 31 (.bool (!z3)), val 32 (.bool (!z3)), val 33 (.bool false), val 34 (.int .i64 p_2), val 35 (.bool z4), val 36 (.bool (!z4)), val 37 (.bool (!z4)), val 38 (.bool false), val 39 (Rounding.val p_4), val 40 (.bool z5), val 41 (.bool (!z5)), val 42 (.bool (!z5)), val 43 (.bool true), anyF 44, anyF 45, anyF 46, val 47 (.bool true)] noG (by kernel_rfl)
                ⟨Stable.val _ _ _, Stable.val _ _ _, Stable.val _ _ _, Stable.val _ _ _, Stable.val _ _ _, Stable.val _ _ _, Stable.val _ _ _, Stable.val _ _ _, Stable.val _ _ _, Stable.val _ _ _, Stable.val _ _ _, Stable.val _ _ _, Stable.val _ _ _, Stable.val _ _ _, Stable.val _ _ _, Stable.val _ _ _, Stable.val _ _ _, Stable.val _ _ _, Stable.val _ _ _, Stable.val _ _ _, Stable.val _ _ _, Stable.val _ _ _, Stable.val _ _ _, Stable.val _ _ _, Stable.any _ _, Stable.any _ _, Stable.any _ _, Stable.val _ _ _, trivial⟩
                ⟨fun ρz wz hE hA ⟨e0, _⟩ _ => core_val rfl rfl (o_move (e0.trans h0)),
     fun ρz wz hE hA _ ⟨u0, _⟩ => core_call rfl (call_args1 u0) cf_56 (money_amount_ok  _  hz),
     fun ρz wz hE hA _ ⟨u1, _⟩ => core_val rfl rfl (o_not u1 rfl),
     fun ρz wz hE hA _ ⟨u2, _⟩ => core_valE rfl rfl (congrArg Value.bool hd3) (o_move u2),
     fun ρz wz hE hA ⟨e1, _⟩ ⟨u3, _⟩ => gYes rfl u3 (core_val rfl rfl (o_move (e1.trans h1))),
     fun ρz wz hE hA _ ⟨u3, u4, _⟩ => gYes rfl u3 (core_call rfl (call_args1 u4) cf_43 (money_currency_ok  _  hz2)),
     fun ρz wz hE hA _ ⟨u3, u5, _⟩ => gYes rfl u3 (core_val rfl rfl (o_not u5 rfl)),
     fun ρz wz hE hA _ ⟨u3, u6, _⟩ => core_val rfl rfl (o_pick_f u3 u6),
     fun ρz wz hE hA _ ⟨u7, _⟩ => core_valE rfl rfl (congrArg Value.bool hd8) (o_move u7),
     fun ρz wz hE hA ⟨e2, _⟩ ⟨u8, _⟩ => gYes rfl u8 (core_val rfl rfl (o_move (e2.trans h2))),
     fun ρz wz hE hA _ ⟨u8, u9, _⟩ => gYes rfl u8 (core_call rfl (call_args1 u9) cf_43 (money_currency_ok  _  hz3)),
     fun ρz wz hE hA _ ⟨u8, u10, _⟩ => gYes rfl u8 (core_val rfl rfl (o_not u10 rfl)),
     fun ρz wz hE hA _ ⟨u8, u11, _⟩ => core_val rfl rfl (o_pick_f u8 u11),
     fun ρz wz hE hA _ ⟨u12, _⟩ => core_valE rfl rfl (congrArg Value.bool hd13) (o_move u12),
     fun ρz wz hE hA ⟨e3, _⟩ ⟨u13, _⟩ => gYes rfl u13 (core_val rfl rfl (o_move (e3.trans h3))),
     fun ρz wz hE hA _ ⟨u13, u14, _⟩ => gYes rfl u13 (core_call rfl (call_args1 u14) cf_44 (money_month_ok  _  hz4)),
     fun ρz wz hE hA _ ⟨u13, u15, _⟩ => gYes rfl u13 (core_val rfl rfl (o_not u15 rfl)),
     fun ρz wz hE hA _ ⟨u13, u16, _⟩ => core_val rfl rfl (o_pick_f u13 u16),
     fun ρz wz hE hA _ ⟨u17, _⟩ => core_valE rfl rfl (congrArg Value.bool hd18) (o_move u17),
     fun ρz wz hE hA ⟨e11, _⟩ ⟨u18, _⟩ => gYes rfl u18 (core_val rfl rfl (o_load (e11.trans h11) (run_loadN (cs := (Rounding.cells p_4)) (lr_72 _ _) rfl ((Hb_b11_.exn (hA rfl)).ca)))),
     fun ρz wz hE hA _ ⟨u18, u19, _⟩ => gYes rfl u18 (core_call rfl (call_args1 u19) cf_57 (money_ValidRounding_ok  _  hz5)),
     fun ρz wz hE hA _ ⟨u18, u20, _⟩ => gYes rfl u18 (core_val rfl rfl (o_not u20 rfl)),
     fun ρz wz hE hA _ ⟨u18, u21, _⟩ => core_val rfl rfl (o_pick_f u18 u21),
     fun ρz wz hE hA _ ⟨u22, _⟩ => core_valE rfl rfl (congrArg Value.bool hd23) (o_move u22),
     fun _ _ _ _ _ ⟨u23, _⟩ => gNo rfl u23 rfl trivial,
     fun _ _ _ _ _ ⟨u23, _⟩ => gNo rfl u23 rfl trivial,
     fun _ _ _ _ _ ⟨u23, _⟩ => gNo rfl u23 rfl trivial,
     fun ρz wz hE hA _ ⟨u23, _⟩ => core_val rfl rfl (o_pick_t u23 rfl), trivial⟩ ?_
              intro ρ7 w7 hE hN hf hr
              have hN := hN rfl
              have h0 := (hr 0 rfl).trans h0
              have h1 := (hr 1 rfl).trans h1
              have h2 := (hr 2 rfl).trans h2
              have h3 := (hr 3 rfl).trans h3
              have h4 := (hr 4 rfl).trans h4
              have h11 := (hr 11 rfl).trans h11
              have h47 : ρ7 47 = .bool true := hf 27 rfl
              have Hb_b11_n := Hb_b11_.exn hN
              have H_p_3_at0 := H_p_3
              have H_p_3 := H_p_3.exn hN
              have hW := hW.trans hN
              have Hb_b11_ := Hb_b11_n
              have hsz := Nat.le_trans hsz hN.size
              exact ⟨h0, h1, h2, h3, h4, h11, (h47.trans (congrArg Value.bool (by simp [hd3, hd8, hd13, hd18, hd23, ← hc, ← hc2, ← hc3, ← hc4, ← hc5]))), Hb_b11_, H_p_3, hW, hsz⟩
            · have hc5 := (if_neg (Bool.eq_false_iff.1 (by simp [hd3, hd8, hd13, hd18, hd23, ← hc, ← hc2, ← hc3, ← hc4]))).symm.trans hc5
              obtain ⟨z6, hz6, hc5⟩ := obind hc5
              have hc5 := Option.some.inj hc5
              refine WP.region mixed [[], [0], [1], [2], [3], [3, 4], [3, 5], [3, 6], [7], [8], [8, 9], [8, 10], [8, 11], [12], [13], [13, 14], [13, 15], [13, 16], [17], [18], [18, 19], [18, 20], [18, 21], [22], [23], [23, 24], [23, 25], [23, 26]] [[], [0], [1], [2], [3], [3, 4], [3, 5], [3, 6], [7], [8], [8, 9], [8, 10], [8, 11], [12], [13], [13, 14], [13, 15], [13, 16], [17], [18], [18, 19], [18, 20], [18, 21], [22], [23], [23, 24], [23, 25], [23, 26]] [[0], [], [], [], [1], [], [], [], [], [2], [], [], [], [], [3], [], [], [], [], [11], [], [], [], [], [4], [], [], []] [] []
                [val 20 (.int .i64 d_), val 21 (.bool z), val 22 (.bool (!z)), val 23 (.bool false), val 24 (.int .i64 i_), val 25 (.bool z2), val 26 (.bool (!z2)), val 27 (.bool (!z2)), val 28 (.bool false), val 29 (.int .i64 p_), val 30 (.bool z3), val 31 (.bool (!z3)), val 32 (.bool (!z3)), val 33 (.bool false), val 34 (.int .i64 p_2), val 35 (.bool z4), val 36 (.bool (!z4)), val 37 (.bool (!z4)), val 38 (.bool false), val 39 (Rounding.val p_4), val 40 (.bool z5), val 41 (.bool (!z5)), val 42 (.bool (!z5)), val 43 (.bool false), val 44 (v_p_3), val 45 (.int .i64 z6), val 46 (.bool (z6 != 0)), val 47 (.bool (z6 != 0))] noG (by kernel_rfl)
                ⟨Stable.val _ _ _, Stable.val _ _ _, Stable.val _ _ _, Stable.val _ _ _, Stable.val _ _ _, Stable.val _ _ _, Stable.val _ _ _, Stable.val _ _ _, Stable.val _ _ _, Stable.val _ _ _, Stable.val _ _ _, Stable.val _ _ _, Stable.val _ _ _, Stable.val _ _ _, Stable.val _ _ _, Stable.val _ _ _, Stable.val _ _ _, Stable.val _ _ _, Stable.val _ _ _, Stable.val _ _ _, Stable.val _ _ _, Stable.val _ _ _, Stable.val _ _ _, Stable.val _ _ _, Stable.val _ _ _, Stable.val _ _ _, Stable.val _ _ _, Stable.val _ _ _, trivial⟩
                ⟨fun ρz wz hE hA ⟨e0, _⟩ _ => core_val rfl rfl (o_move (e0.trans h0)),
     fun ρz wz hE hA _ ⟨u0, _⟩ => core_call rfl (call_args1 u0) cf_56 (money_amount_ok  _  hz),
     fun ρz wz hE hA _ ⟨u1, _⟩ => core_val rfl rfl (o_not u1 rfl),
     fun ρz wz hE hA _ ⟨u2, _⟩ => core_valE rfl rfl (congrArg Value.bool hd3) (o_move u2),
     fun ρz wz hE hA ⟨e1, _⟩ ⟨u3, _⟩ => gYes rfl u3 (core_val rfl rfl (o_move (e1.trans h1))),
     fun ρz wz hE hA _ ⟨u3, u4, _⟩ => gYes rfl u3 (core_call rfl (call_args1 u4) cf_43 (money_currency_ok  _  hz2)),
     fun ρz wz hE hA _ ⟨u3, u5, _⟩ => gYes rfl u3 (core_val rfl rfl (o_not u5 rfl)),
     fun ρz wz hE hA _ ⟨u3, u6, _⟩ => core_val rfl rfl (o_pick_f u3 u6),
     fun ρz wz hE hA _ ⟨u7, _⟩ => core_valE rfl rfl (congrArg Value.bool hd8) (o_move u7),
     fun ρz wz hE hA ⟨e2, _⟩ ⟨u8, _⟩ => gYes rfl u8 (core_val rfl rfl (o_move (e2.trans h2))),
     fun ρz wz hE hA _ ⟨u8, u9, _⟩ => gYes rfl u8 (core_call rfl (call_args1 u9) cf_43 (money_currency_ok  _  hz3)),
     fun ρz wz hE hA _ ⟨u8, u10, _⟩ => gYes rfl u8 (core_val rfl rfl (o_not u10 rfl)),
     fun ρz wz hE hA _ ⟨u8, u11, _⟩ => core_val rfl rfl (o_pick_f u8 u11),
     fun ρz wz hE hA _ ⟨u12, _⟩ => core_valE rfl rfl (congrArg Value.bool hd13) (o_move u12),
     fun ρz wz hE hA ⟨e3, _⟩ ⟨u13, _⟩ => gYes rfl u13 (core_val rfl rfl (o_move (e3.trans h3))),
     fun ρz wz hE hA _ ⟨u13, u14, _⟩ => gYes rfl u13 (core_call rfl (call_args1 u14) cf_44 (money_month_ok  _  hz4)),
     fun ρz wz hE hA _ ⟨u13, u15, _⟩ => gYes rfl u13 (core_val rfl rfl (o_not u15 rfl)),
     fun ρz wz hE hA _ ⟨u13, u16, _⟩ => core_val rfl rfl (o_pick_f u13 u16),
     fun ρz wz hE hA _ ⟨u17, _⟩ => core_valE rfl rfl (congrArg Value.bool hd18) (o_move u17),
     fun ρz wz hE hA ⟨e11, _⟩ ⟨u18, _⟩ => gYes rfl u18 (core_val rfl rfl (o_load (e11.trans h11) (run_loadN (cs := (Rounding.cells p_4)) (lr_72 _ _) rfl ((Hb_b11_.exn (hA rfl)).ca)))),
     fun ρz wz hE hA _ ⟨u18, u19, _⟩ => gYes rfl u18 (core_call rfl (call_args1 u19) cf_57 (money_ValidRounding_ok  _  hz5)),
     fun ρz wz hE hA _ ⟨u18, u20, _⟩ => gYes rfl u18 (core_val rfl rfl (o_not u20 rfl)),
     fun ρz wz hE hA _ ⟨u18, u21, _⟩ => core_val rfl rfl (o_pick_f u18 u21),
     fun ρz wz hE hA _ ⟨u22, _⟩ => core_valE rfl rfl (congrArg Value.bool hd23) (o_move u22),
     fun ρz wz hE hA ⟨e4, _⟩ ⟨u23, _⟩ => gYes rfl u23 (core_val rfl rfl (o_move (e4.trans h4))),
     fun ρz wz hE hA _ ⟨u23, u24, _⟩ => gYes rfl u23 (core_call rfl (call_args1 u24) cf_27 (money_CheckRates_ok  _ (H_p_3.exn (hA rfl)).no hz6)),
     fun ρz wz hE hA _ ⟨u23, u25, _⟩ => gYes rfl u23 (core_val rfl rfl (o_neq u25 rfl rfl)),
     fun ρz wz hE hA _ ⟨u23, u26, _⟩ => core_val rfl rfl (o_pick_f u23 u26), trivial⟩ ?_
              intro ρ8 w8 hE hN hf hr
              have hN := hN rfl
              have h0 := (hr 0 rfl).trans h0
              have h1 := (hr 1 rfl).trans h1
              have h2 := (hr 2 rfl).trans h2
              have h3 := (hr 3 rfl).trans h3
              have h4 := (hr 4 rfl).trans h4
              have h11 := (hr 11 rfl).trans h11
              have h47 : ρ8 47 = .bool (z6 != 0) := hf 27 rfl
              have Hb_b11_n := Hb_b11_.exn hN
              have H_p_3_at0 := H_p_3
              have H_p_3 := H_p_3.exn hN
              have hW := hW.trans hN
              have Hb_b11_ := Hb_b11_n
              have hsz := Nat.le_trans hsz hN.size
              exact ⟨h0, h1, h2, h3, h4, h11, (h47.trans (congrArg Value.bool (by simp [hd3, hd8, hd13, hd18, hd23, ← hc, ← hc2, ← hc3, ← hc4, ← hc5]))), Hb_b11_, H_p_3, hW, hsz⟩
  rintro ρ2 w2 ⟨h0, h1, h2, h3, h4, h11, h47, Hb_b11_, H_p_3, hW, hsz⟩
  refine WP.cond rfl h47 (fun hb => ?_) (fun hb => ?_)
  · have hF := (if_pos hb).symm.trans hF
    refine WP.seq ?_
    refine WP.region mixed [[], []] [[], []] [[], []] [] []
      [val 12 (.int .i64 0), val 13 (.int .i64 1)] noG (by kernel_rfl)
      ⟨Stable.val _ _ _, Stable.val _ _ _, trivial⟩
      ⟨fun ρz wz hE hA _ _ => core_val rfl rfl (o_assign rfl),
     fun ρz wz hE hA _ _ => core_val rfl rfl (o_assign rfl), trivial⟩ ?_
    intro ρ9 w9 hE hN hf hr
    have hN := hN rfl
    have h12 : ρ9 12 = .int .i64 0 := hf 0 rfl
    have h13 : ρ9 13 = .int .i64 1 := hf 1 rfl
    have hW := hW.trans hN
    have hsz := Nat.le_trans hsz hN.size
    refine WP.ret ?_
    show retQ Tryd.prog 107 Tryd.f38 (fun v w1 => v = .tuple #[.int .i64 r.1, .int .i64 r.2] ∧ Ext noG w0 w1) .ret ρ9 w9
    obtain rfl := Option.some.inj hF
    exact res2 rfl (by decide) (by decide) h12 h13 ⟨rfl, hW⟩
  · have hF := (if_neg (Bool.eq_false_iff.1 hb)).symm.trans hF
    refine WP.skip ?_
    refine WP.seq ?_
    refine WP.seq ?_
    refine WP.region mixed [[], [], [0, 1]] [[], [], [0, 1]] [[1], [2], []] [] []
      [val 48 (.int .i64 i_), val 49 (.int .i64 p_), val 50 (.bool (i_ == p_))] noG (by kernel_rfl)
      ⟨Stable.val _ _ _, Stable.val _ _ _, Stable.val _ _ _, trivial⟩
      ⟨fun ρz wz hE hA ⟨e1, _⟩ _ => core_val rfl rfl (o_move (e1.trans h1)),
     fun ρz wz hE hA ⟨e2, _⟩ _ => core_val rfl rfl (o_move (e2.trans h2)),
     fun ρz wz hE hA _ ⟨u0, u1, _⟩ => core_val rfl rfl (o_eql u0 u1 rfl), trivial⟩ ?_
    intro ρ10 w10 hE hN hf hr
    have hN := hN rfl
    have h0 := (hr 0 rfl).trans h0
    have h1 := (hr 1 rfl).trans h1
    have h2 := (hr 2 rfl).trans h2
    have h3 := (hr 3 rfl).trans h3
    have h4 := (hr 4 rfl).trans h4
    have h11 := (hr 11 rfl).trans h11
    have h50 : ρ10 50 = .bool (i_ == p_) := hf 2 rfl
    have Hb_b11_n := Hb_b11_.exn hN
    have H_p_3_at0 := H_p_3
    have H_p_3 := H_p_3.exn hN
    have hW := hW.trans hN
    have Hb_b11_ := Hb_b11_n
    have hsz := Nat.le_trans hsz hN.size
    refine WP.cond rfl h50 (fun hb => ?_) (fun hb => ?_)
    · have hF := (if_pos hb).symm.trans hF
      refine WP.seq ?_
      obtain ⟨z7, hz7, hF⟩ := obind hF
      obtain ⟨z8, hz8, hF⟩ := obind hF
      refine WP.region mixed [[], [0], [], [2], [], [1, 3, 4], [5], [5], [6], [7]] [[], [0], [], [2], [], [1, 3, 4], [5], [5], [6], [7]] [[0], [], [0], [], [11], [], [], [], [], []] [] []
        [val 51 (.int .i64 d_), val 52 (.bool (decide (d_ < 0))), val 53 (.int .i64 d_), val 54 (.int .u64 z7), val 55 (Rounding.val p_4), val 56 (.tuple #[.int .i64 z8.1, .int .i64 z8.2]), val 57 (.int .i64 z8.1), val 58 (.int .i64 z8.2), val 12 (.int .i64 z8.1), val 13 (.int .i64 z8.2)] noG (by kernel_rfl)
        ⟨Stable.val _ _ _, Stable.val _ _ _, Stable.val _ _ _, Stable.val _ _ _, Stable.val _ _ _, Stable.val _ _ _, Stable.val _ _ _, Stable.val _ _ _, Stable.val _ _ _, Stable.val _ _ _, trivial⟩
        ⟨fun ρz wz hE hA ⟨e0, _⟩ _ => core_val rfl rfl (o_move (e0.trans h0)),
     fun ρz wz hE hA _ ⟨u0, _⟩ => core_val rfl rfl (o_lss u0 rfl rfl),
     fun ρz wz hE hA ⟨e0, _⟩ _ => core_val rfl rfl (o_move (e0.trans h0)),
     fun ρz wz hE hA _ ⟨u2, _⟩ => core_call rfl (call_args1 u2) cf_59 (money_size_ok  _  hz7),
     fun ρz wz hE hA ⟨e11, _⟩ _ => core_val rfl rfl (o_load (e11.trans h11) (run_loadN (cs := (Rounding.cells p_4)) (lr_72 _ _) rfl ((Hb_b11_.exn (hA rfl)).ca))),
     fun ρz wz hE hA _ ⟨u1, u3, u4, _⟩ => core_call rfl (call_args5 u1 rfl u3 rfl u4) cf_58 (money_divide_ok  _ _ _ _ _  hz8),
     fun ρz wz hE hA _ ⟨u5, _⟩ => core_val rfl rfl (o_extract u5 (by kernel_rfl)),
     fun ρz wz hE hA _ ⟨u5, _⟩ => core_val rfl rfl (o_extract u5 (by kernel_rfl)),
     fun ρz wz hE hA _ ⟨u6, _⟩ => core_val rfl rfl (o_assign u6),
     fun ρz wz hE hA _ ⟨u7, _⟩ => core_val rfl rfl (o_assign u7), trivial⟩ ?_
      intro ρ11 w11 hE hN hf hr
      have hN := hN rfl
      have h12 : ρ11 12 = .int .i64 z8.1 := hf 8 rfl
      have h13 : ρ11 13 = .int .i64 z8.2 := hf 9 rfl
      have hW := hW.trans hN
      have hsz := Nat.le_trans hsz hN.size
      refine WP.ret ?_
      show retQ Tryd.prog 107 Tryd.f38 (fun v w1 => v = .tuple #[.int .i64 r.1, .int .i64 r.2] ∧ Ext noG w0 w1) .ret ρ11 w11
      obtain rfl := Option.some.inj hF
      exact res2 rfl (by decide) (by decide) h12 h13 ⟨rfl, hW⟩
    · have hF := (if_neg (Bool.eq_false_iff.1 hb)).symm.trans hF
      refine WP.skip ?_
      refine WP.seq ?_
      obtain ⟨z9, hz9, hF⟩ := obind hF
      refine WP.region mixed [[], [], [], [0, 1, 2], [3], [4], [4], [], [5, 7], [6, 8]] [[], [], [], [0, 1, 2], [3], [4], [4], [], [7, 5], [6]] [[4], [1], [3], [], [], [], [], [], [], []] [8] [(7, 8)]
        [val 60 (v_p_3), val 61 (.int .i64 i_), val 62 (.int .i64 p_2), val 63 (.tuple #[Fraction.val z9.1, .bool z9.2]), val 59 (.tuple #[Fraction.val z9.1, .bool z9.2]), val 64 (Fraction.val z9.1), val 65 (.bool z9.2), (14, fun u wz => ∃ b, u = .pointer (some ⟨b, 0, none⟩) ∧ w10.heap.size ≤ b ∧ Mb wz b 54 (Fraction.cells (⟨0, 0⟩ : Fraction))), (14, fun u wz => ∃ b, u = .pointer (some ⟨b, 0, none⟩) ∧ w10.heap.size ≤ b ∧ Mb wz b 54 (Fraction.cells z9.1)), val 15 (.bool z9.2)] (fun b => w10.heap.size ≤ b) (by kernel_rfl)
        ⟨Stable.val _ _ _, Stable.val _ _ _, Stable.val _ _ _, Stable.val _ _ _, Stable.val _ _ _, Stable.val _ _ _, Stable.val _ _ _, fun _ _ _ hE ⟨b, hb, hs, hM⟩ => ⟨b, hb, hs, hM.exn hE⟩, fun _ _ _ hE ⟨b, hb, hs, hM⟩ => ⟨b, hb, hs, hM.exn hE⟩, Stable.val _ _ _, trivial⟩
        ⟨fun ρz wz hE hA ⟨e4, _⟩ _ => core_val rfl rfl (o_move (e4.trans h4)),
     fun ρz wz hE hA ⟨e1, _⟩ _ => core_val rfl rfl (o_move (e1.trans h1)),
     fun ρz wz hE hA ⟨e3, _⟩ _ => core_val rfl rfl (o_move (e3.trans h3)),
     fun ρz wz hE hA _ ⟨u0, u1, u2, _⟩ => core_call rfl (call_args3 u0 u1 u2) cf_52 (money_Value_ok  _ _ _ (H_p_3.exn hE.fresh).no hz9),
     fun ρz wz hE hA _ ⟨u3, _⟩ => core_val rfl rfl (o_move u3),
     fun ρz wz hE hA _ ⟨u4, _⟩ => core_val rfl rfl (o_extract u4 (by kernel_rfl)),
     fun ρz wz hE hA _ ⟨u4, _⟩ => core_val rfl rfl (o_extract u4 (by kernel_rfl)),
     fun ρz wz hE hA _ _ => core_new rfl rfl hE (o_alloc (al_54 _)),
     fun ρz wz hE hA _ ⟨u7, u5, _⟩ => core_storeNew rfl rfl rfl rfl u5 u7 (fun a w => st_54 _ a w) rfl (one_54 _),
     fun ρz wz hE hA _ ⟨u6, _⟩ => core_val rfl rfl (o_assign u6), trivial⟩ ?_
      intro ρ12 w12 hE hN hf hr
      have hN := hE.fresh
      have h0 := (hr 0 rfl).trans h0
      have h2 := (hr 2 rfl).trans h2
      have h3 := (hr 3 rfl).trans h3
      have h4 := (hr 4 rfl).trans h4
      have h11 := (hr 11 rfl).trans h11
      obtain ⟨b14_, h14, hge_b14_, Hb_b14_⟩ := hf 8 rfl
      have h15 : ρ12 15 = .bool z9.2 := hf 9 rfl
      have Hb_b11_n := Hb_b11_.exn hN
      have H_p_3_at0 := H_p_3
      have H_p_3 := H_p_3.exn hN
      have hW := hW.trans hN
      have Hb_b11_ := Hb_b11_n
      have hB_b14_ : w0.heap.size ≤ b14_ := Nat.le_trans hsz hge_b14_
      have hsz := Nat.le_trans hsz hN.size
      refine WP.seq ?_
      obtain ⟨z10, hz10, hF⟩ := obind hF
      refine WP.region mixed [[], [], [], [0, 1, 2], [3], [4], [4], [], [5, 7], [6, 8]] [[], [], [], [0, 1, 2], [3], [4], [4], [], [7, 5], [6]] [[4], [2], [3], [], [], [], [], [], [], []] [8] [(7, 8)]
        [val 67 (v_p_3), val 68 (.int .i64 p_), val 69 (.int .i64 p_2), val 70 (.tuple #[Fraction.val z10.1, .bool z10.2]), val 66 (.tuple #[Fraction.val z10.1, .bool z10.2]), val 71 (Fraction.val z10.1), val 72 (.bool z10.2), (16, fun u wz => ∃ b, u = .pointer (some ⟨b, 0, none⟩) ∧ w12.heap.size ≤ b ∧ Mb wz b 54 (Fraction.cells (⟨0, 0⟩ : Fraction))), (16, fun u wz => ∃ b, u = .pointer (some ⟨b, 0, none⟩) ∧ w12.heap.size ≤ b ∧ Mb wz b 54 (Fraction.cells z10.1)), val 17 (.bool z10.2)] (fun b => w12.heap.size ≤ b) (by kernel_rfl)
        ⟨Stable.val _ _ _, Stable.val _ _ _, Stable.val _ _ _, Stable.val _ _ _, Stable.val _ _ _, Stable.val _ _ _, Stable.val _ _ _, fun _ _ _ hE ⟨b, hb, hs, hM⟩ => ⟨b, hb, hs, hM.exn hE⟩, fun _ _ _ hE ⟨b, hb, hs, hM⟩ => ⟨b, hb, hs, hM.exn hE⟩, Stable.val _ _ _, trivial⟩
        ⟨fun ρz wz hE hA ⟨e4, _⟩ _ => core_val rfl rfl (o_move (e4.trans h4)),
     fun ρz wz hE hA ⟨e2, _⟩ _ => core_val rfl rfl (o_move (e2.trans h2)),
     fun ρz wz hE hA ⟨e3, _⟩ _ => core_val rfl rfl (o_move (e3.trans h3)),
     fun ρz wz hE hA _ ⟨u0, u1, u2, _⟩ => core_call rfl (call_args3 u0 u1 u2) cf_52 (money_Value_ok  _ _ _ (H_p_3.exn hE.fresh).no hz10),
     fun ρz wz hE hA _ ⟨u3, _⟩ => core_val rfl rfl (o_move u3),
     fun ρz wz hE hA _ ⟨u4, _⟩ => core_val rfl rfl (o_extract u4 (by kernel_rfl)),
     fun ρz wz hE hA _ ⟨u4, _⟩ => core_val rfl rfl (o_extract u4 (by kernel_rfl)),
     fun ρz wz hE hA _ _ => core_new rfl rfl hE (o_alloc (al_54 _)),
     fun ρz wz hE hA _ ⟨u7, u5, _⟩ => core_storeNew rfl rfl rfl rfl u5 u7 (fun a w => st_54 _ a w) rfl (one_54 _),
     fun ρz wz hE hA _ ⟨u6, _⟩ => core_val rfl rfl (o_assign u6), trivial⟩ ?_
      intro ρ13 w13 hE hN hf hr
      have hN := hE.fresh
      have h0 := (hr 0 rfl).trans h0
      have h11 := (hr 11 rfl).trans h11
      have h14 := (hr 14 rfl).trans h14
      have h15 := (hr 15 rfl).trans h15
      obtain ⟨b16_, h16, hge_b16_, Hb_b16_⟩ := hf 8 rfl
      have h17 : ρ13 17 = .bool z10.2 := hf 9 rfl
      have Hb_b11_n := Hb_b11_.exn hN
      have Hb_b14_n := Hb_b14_.exn hN
      have hW := hW.trans hN
      have Hb_b11_ := Hb_b11_n
      have Hb_b14_ := Hb_b14_n
      have hB_b16_ : w0.heap.size ≤ b16_ := Nat.le_trans hsz hge_b16_
      have hsz := Nat.le_trans hsz hN.size
      refine WP.seq ?_
      refine WP.seq ?_
      refine WP.via (fun ρ w => ρ 0 = .int .i64 d_ ∧ ρ 11 = .pointer (some ⟨b11_, 0, none⟩) ∧ ρ 14 = .pointer (some ⟨b14_, 0, none⟩) ∧ ρ 16 = .pointer (some ⟨b16_, 0, none⟩) ∧ ρ 78 = .bool ((!z9.2) || (!z10.2)) ∧ Mb w b11_ 72 (Rounding.cells p_4) ∧ Mb w b14_ 54 (Fraction.cells z9.1) ∧ Mb w b16_ 54 (Fraction.cells z10.1) ∧ Ext noG w0 w ∧ w0.heap.size ≤ w.heap.size) ?_ ?_
      · rcases Bool.eq_false_or_eq_true (!z9.2) with hd2 | hd2
        · refine WP.region mixed [[], [0], [1], [2], [2], [2]] [[], [0], [1], [2], [2], [2]] [[15], [], [], [], [], []] [] []
            [val 73 (.bool z9.2), val 74 (.bool (!z9.2)), val 75 (.bool true), anyF 76, anyF 77, val 78 (.bool true)] noG (by kernel_rfl)
            ⟨Stable.val _ _ _, Stable.val _ _ _, Stable.val _ _ _, Stable.any _ _, Stable.any _ _, Stable.val _ _ _, trivial⟩
            ⟨fun ρz wz hE hA ⟨e15, _⟩ _ => core_val rfl rfl (o_move (e15.trans h15)),
     fun ρz wz hE hA _ ⟨u0, _⟩ => core_val rfl rfl (o_not u0 rfl),
     fun ρz wz hE hA _ ⟨u1, _⟩ => core_valE rfl rfl (congrArg Value.bool hd2) (o_move u1),
     fun _ _ _ _ _ ⟨u2, _⟩ => gNo rfl u2 rfl trivial,
     fun _ _ _ _ _ ⟨u2, _⟩ => gNo rfl u2 rfl trivial,
     fun ρz wz hE hA _ ⟨u2, _⟩ => core_val rfl rfl (o_pick_t u2 rfl), trivial⟩ ?_
          intro ρ15 w15 hE hN hf hr
          have hN := hN rfl
          have h0 := (hr 0 rfl).trans h0
          have h11 := (hr 11 rfl).trans h11
          have h14 := (hr 14 rfl).trans h14
          have h16 := (hr 16 rfl).trans h16
          have h78 : ρ15 78 = .bool true := hf 5 rfl
          have Hb_b11_n := Hb_b11_.exn hN
          have Hb_b14_n := Hb_b14_.exn hN
          have Hb_b16_n := Hb_b16_.exn hN
          have hW := hW.trans hN
          have Hb_b11_ := Hb_b11_n
          have Hb_b14_ := Hb_b14_n
          have Hb_b16_ := Hb_b16_n
          have hsz := Nat.le_trans hsz hN.size
          exact ⟨h0, h11, h14, h16, (h78.trans (congrArg Value.bool (by simp [hd2]))), Hb_b11_, Hb_b14_, Hb_b16_, hW, hsz⟩
        · refine WP.region mixed [[], [0], [1], [2], [2, 3], [2, 4]] [[], [0], [1], [2], [2, 3], [2, 4]] [[15], [], [], [17], [], []] [] []
            [val 73 (.bool z9.2), val 74 (.bool (!z9.2)), val 75 (.bool false), val 76 (.bool z10.2), val 77 (.bool (!z10.2)), val 78 (.bool (!z10.2))] noG (by kernel_rfl)
            ⟨Stable.val _ _ _, Stable.val _ _ _, Stable.val _ _ _, Stable.val _ _ _, Stable.val _ _ _, Stable.val _ _ _, trivial⟩
            ⟨fun ρz wz hE hA ⟨e15, _⟩ _ => core_val rfl rfl (o_move (e15.trans h15)),
     fun ρz wz hE hA _ ⟨u0, _⟩ => core_val rfl rfl (o_not u0 rfl),
     fun ρz wz hE hA _ ⟨u1, _⟩ => core_valE rfl rfl (congrArg Value.bool hd2) (o_move u1),
     fun ρz wz hE hA ⟨e17, _⟩ ⟨u2, _⟩ => gYes rfl u2 (core_val rfl rfl (o_move (e17.trans h17))),
     fun ρz wz hE hA _ ⟨u2, u3, _⟩ => gYes rfl u2 (core_val rfl rfl (o_not u3 rfl)),
     fun ρz wz hE hA _ ⟨u2, u4, _⟩ => core_val rfl rfl (o_pick_f u2 u4), trivial⟩ ?_
          intro ρ16 w16 hE hN hf hr
          have hN := hN rfl
          have h0 := (hr 0 rfl).trans h0
          have h11 := (hr 11 rfl).trans h11
          have h14 := (hr 14 rfl).trans h14
          have h16 := (hr 16 rfl).trans h16
          have h78 : ρ16 78 = .bool (!z10.2) := hf 5 rfl
          have Hb_b11_n := Hb_b11_.exn hN
          have Hb_b14_n := Hb_b14_.exn hN
          have Hb_b16_n := Hb_b16_.exn hN
          have hW := hW.trans hN
          have Hb_b11_ := Hb_b11_n
          have Hb_b14_ := Hb_b14_n
          have Hb_b16_ := Hb_b16_n
          have hsz := Nat.le_trans hsz hN.size
          exact ⟨h0, h11, h14, h16, (h78.trans (congrArg Value.bool (by simp [hd2]))), Hb_b11_, Hb_b14_, Hb_b16_, hW, hsz⟩
      rintro ρ14 w14 ⟨h0, h11, h14, h16, h78, Hb_b11_, Hb_b14_, Hb_b16_, hW, hsz⟩
      refine WP.cond rfl h78 (fun hb => ?_) (fun hb => ?_)
      · have hF := (if_pos hb).symm.trans hF
        refine WP.seq ?_
        refine WP.region mixed [[], []] [[], []] [[], []] [] []
          [val 12 (.int .i64 0), val 13 (.int .i64 9)] noG (by kernel_rfl)
          ⟨Stable.val _ _ _, Stable.val _ _ _, trivial⟩
          ⟨fun ρz wz hE hA _ _ => core_val rfl rfl (o_assign rfl),
     fun ρz wz hE hA _ _ => core_val rfl rfl (o_assign rfl), trivial⟩ ?_
        intro ρ17 w17 hE hN hf hr
        have hN := hN rfl
        have h12 : ρ17 12 = .int .i64 0 := hf 0 rfl
        have h13 : ρ17 13 = .int .i64 9 := hf 1 rfl
        have hW := hW.trans hN
        have hsz := Nat.le_trans hsz hN.size
        refine WP.ret ?_
        show retQ Tryd.prog 107 Tryd.f38 (fun v w1 => v = .tuple #[.int .i64 r.1, .int .i64 r.2] ∧ Ext noG w0 w1) .ret ρ17 w17
        obtain rfl := Option.some.inj hF
        exact res2 rfl (by decide) (by decide) h12 h13 ⟨rfl, hW⟩
      · have hF := (if_neg (Bool.eq_false_iff.1 hb)).symm.trans hF
        refine WP.skip ?_
        refine WP.seq ?_
        obtain ⟨z11, hz11, hF⟩ := obind hF
        obtain ⟨z12, hz12, hF⟩ := obind hF
        refine WP.region mixed [[], [0], [], [2], [3], [], [5], [6], [4, 7], [1, 8], [9], [10], [10], [11], [12]] [[], [0], [], [2], [3], [], [5], [6], [4, 7], [1, 8], [9], [10], [10], [11], [12]] [[0], [], [14], [], [], [16], [], [], [], [], [], [], [], [], []] [] []
          [val 80 (.int .i64 d_), val 81 (.int .u64 z11), val 82 (.pointer (some ((⟨b14_, 0, none⟩ : Addr).add 0))), val 83 (.int .i64 z9.1.Num), val 84 (.int .u64 (u64 z9.1.Num)), val 85 (.pointer (some ((⟨b16_, 0, none⟩ : Addr).add 1))), val 86 (.int .i64 z10.1.Den), val 87 (.int .u64 (u64 z10.1.Den)), val 88 (.int .u64 (u64 (u64 z9.1.Num * (u64 z10.1.Den)))), val 89 (.tuple #[.int .u64 z12.1, .int .u64 z12.2]), val 79 (.tuple #[.int .u64 z12.1, .int .u64 z12.2]), val 90 (.int .u64 z12.1), val 91 (.int .u64 z12.2), val 18 (.int .u64 z12.1), val 19 (.int .u64 z12.2)] noG (by kernel_rfl)
          ⟨Stable.val _ _ _, Stable.val _ _ _, Stable.val _ _ _, Stable.val _ _ _, Stable.val _ _ _, Stable.val _ _ _, Stable.val _ _ _, Stable.val _ _ _, Stable.val _ _ _, Stable.val _ _ _, Stable.val _ _ _, Stable.val _ _ _, Stable.val _ _ _, Stable.val _ _ _, Stable.val _ _ _, trivial⟩
          ⟨fun ρz wz hE hA ⟨e0, _⟩ _ => core_val rfl rfl (o_move (e0.trans h0)),
     fun ρz wz hE hA _ ⟨u0, _⟩ => core_call rfl (call_args1 u0) cf_59 (money_size_ok  _  hz11),
     fun ρz wz hE hA ⟨e14, _⟩ _ => core_val rfl rfl (o_fieldAddr (e14.trans h14) (fa_54_0 _ _)),
     fun ρz wz hE hA _ ⟨u2, _⟩ => core_val rfl rfl (o_load u2 (run_load1 (lr_3 _ _) (CA.sub ((Hb_b14_.exn (hA rfl)).ca) 0 1))),
     fun ρz wz hE hA _ ⟨u3, _⟩ => core_val rfl rfl (o_conv u3 (cv_3_62 _ _)),
     fun ρz wz hE hA ⟨e16, _⟩ _ => core_val rfl rfl (o_fieldAddr (e16.trans h16) (fa_54_1 _ _)),
     fun ρz wz hE hA _ ⟨u5, _⟩ => core_val rfl rfl (o_load u5 (run_load1 (lr_3 _ _) (CA.sub ((Hb_b16_.exn (hA rfl)).ca) 1 1))),
     fun ρz wz hE hA _ ⟨u6, _⟩ => core_val rfl rfl (o_conv u6 (cv_3_62 _ _)),
     fun ρz wz hE hA _ ⟨u4, u7, _⟩ => core_val rfl rfl (o_mul u4 u7 rfl),
     fun ρz wz hE hA _ ⟨u1, u8, _⟩ => core_call rfl (call_args2 u1 u8) cf_50 (bits_Mul64_ok  _ _  hz12),
     fun ρz wz hE hA _ ⟨u9, _⟩ => core_val rfl rfl (o_move u9),
     fun ρz wz hE hA _ ⟨u10, _⟩ => core_val rfl rfl (o_extract u10 (by kernel_rfl)),
     fun ρz wz hE hA _ ⟨u10, _⟩ => core_val rfl rfl (o_extract u10 (by kernel_rfl)),
     fun ρz wz hE hA _ ⟨u11, _⟩ => core_val rfl rfl (o_assign u11),
     fun ρz wz hE hA _ ⟨u12, _⟩ => core_val rfl rfl (o_assign u12), trivial⟩ ?_
        intro ρ18 w18 hE hN hf hr
        have hN := hN rfl
        have h0 := (hr 0 rfl).trans h0
        have h11 := (hr 11 rfl).trans h11
        have h14 := (hr 14 rfl).trans h14
        have h16 := (hr 16 rfl).trans h16
        have h18 : ρ18 18 = .int .u64 z12.1 := hf 13 rfl
        have h19 : ρ18 19 = .int .u64 z12.2 := hf 14 rfl
        have Hb_b11_n := Hb_b11_.exn hN
        have Hb_b14_n := Hb_b14_.exn hN
        have Hb_b16_n := Hb_b16_.exn hN
        have hW := hW.trans hN
        have Hb_b11_ := Hb_b11_n
        have Hb_b14_ := Hb_b14_n
        have Hb_b16_ := Hb_b16_n
        have hsz := Nat.le_trans hsz hN.size
        refine WP.seq ?_
        obtain ⟨z13, hz13, hF⟩ := obind hF
        refine WP.region mixed [[], [0], [], [], [], [4], [5], [], [7], [8], [6, 9], [], [1, 2, 3, 10, 11], [12], [12], [13], [14]] [[], [0], [], [], [], [4], [5], [], [7], [8], [6, 9], [], [1, 2, 3, 10, 11], [12], [12], [13], [14]] [[0], [], [18], [19], [14], [], [], [16], [], [], [], [11], [], [], [], [], []] [] []
          [val 92 (.int .i64 d_), val 93 (.bool (decide (d_ < 0))), val 94 (.int .u64 z12.1), val 95 (.int .u64 z12.2), val 96 (.pointer (some ((⟨b14_, 0, none⟩ : Addr).add 1))), val 97 (.int .i64 z9.1.Den), val 98 (.int .u64 (u64 z9.1.Den)), val 99 (.pointer (some ((⟨b16_, 0, none⟩ : Addr).add 0))), val 100 (.int .i64 z10.1.Num), val 101 (.int .u64 (u64 z10.1.Num)), val 102 (.int .u64 (u64 (u64 z9.1.Den * (u64 z10.1.Num)))), val 103 (Rounding.val p_4), val 104 (.tuple #[.int .i64 z13.1, .int .i64 z13.2]), val 105 (.int .i64 z13.1), val 106 (.int .i64 z13.2), val 12 (.int .i64 z13.1), val 13 (.int .i64 z13.2)] noG (by kernel_rfl)
          ⟨Stable.val _ _ _, Stable.val _ _ _, Stable.val _ _ _, Stable.val _ _ _, Stable.val _ _ _, Stable.val _ _ _, Stable.val _ _ _, Stable.val _ _ _, Stable.val _ _ _, Stable.val _ _ _, Stable.val _ _ _, Stable.val _ _ _, Stable.val _ _ _, Stable.val _ _ _, Stable.val _ _ _, Stable.val _ _ _, Stable.val _ _ _, trivial⟩
          ⟨fun ρz wz hE hA ⟨e0, _⟩ _ => core_val rfl rfl (o_move (e0.trans h0)),
     fun ρz wz hE hA _ ⟨u0, _⟩ => core_val rfl rfl (o_lss u0 rfl rfl),
     fun ρz wz hE hA ⟨e18, _⟩ _ => core_val rfl rfl (o_move (e18.trans h18)),
     fun ρz wz hE hA ⟨e19, _⟩ _ => core_val rfl rfl (o_move (e19.trans h19)),
     fun ρz wz hE hA ⟨e14, _⟩ _ => core_val rfl rfl (o_fieldAddr (e14.trans h14) (fa_54_1 _ _)),
     fun ρz wz hE hA _ ⟨u4, _⟩ => core_val rfl rfl (o_load u4 (run_load1 (lr_3 _ _) (CA.sub ((Hb_b14_.exn (hA rfl)).ca) 1 1))),
     fun ρz wz hE hA _ ⟨u5, _⟩ => core_val rfl rfl (o_conv u5 (cv_3_62 _ _)),
     fun ρz wz hE hA ⟨e16, _⟩ _ => core_val rfl rfl (o_fieldAddr (e16.trans h16) (fa_54_0 _ _)),
     fun ρz wz hE hA _ ⟨u7, _⟩ => core_val rfl rfl (o_load u7 (run_load1 (lr_3 _ _) (CA.sub ((Hb_b16_.exn (hA rfl)).ca) 0 1))),
     fun ρz wz hE hA _ ⟨u8, _⟩ => core_val rfl rfl (o_conv u8 (cv_3_62 _ _)),
     fun ρz wz hE hA _ ⟨u6, u9, _⟩ => core_val rfl rfl (o_mul u6 u9 rfl),
     fun ρz wz hE hA ⟨e11, _⟩ _ => core_val rfl rfl (o_load (e11.trans h11) (run_loadN (cs := (Rounding.cells p_4)) (lr_72 _ _) rfl ((Hb_b11_.exn (hA rfl)).ca))),
     fun ρz wz hE hA _ ⟨u1, u2, u3, u10, u11, _⟩ => core_call rfl (call_args5 u1 u2 u3 u10 u11) cf_58 (money_divide_ok  _ _ _ _ _  hz13),
     fun ρz wz hE hA _ ⟨u12, _⟩ => core_val rfl rfl (o_extract u12 (by kernel_rfl)),
     fun ρz wz hE hA _ ⟨u12, _⟩ => core_val rfl rfl (o_extract u12 (by kernel_rfl)),
     fun ρz wz hE hA _ ⟨u13, _⟩ => core_val rfl rfl (o_assign u13),
     fun ρz wz hE hA _ ⟨u14, _⟩ => core_val rfl rfl (o_assign u14), trivial⟩ ?_
        intro ρ19 w19 hE hN hf hr
        have hN := hN rfl
        have h12 : ρ19 12 = .int .i64 z13.1 := hf 15 rfl
        have h13 : ρ19 13 = .int .i64 z13.2 := hf 16 rfl
        have hW := hW.trans hN
        have hsz := Nat.le_trans hsz hN.size
        refine WP.ret ?_
        show retQ Tryd.prog 107 Tryd.f38 (fun v w1 => v = .tuple #[.int .i64 r.1, .int .i64 r.2] ∧ Ext noG w0 w1) .ret ρ19 w19
        obtain rfl := Option.some.inj hF
        exact res2 rfl (by decide) (by decide) h12 h13 ⟨rfl, hW⟩

set_option maxHeartbeats 4000000 in
theorem family_worth_ok {w0 : World} (r_ : Right) (t_ : List Rate) (month_ : Int) {v_t_ : Value} (H_t_ : RepSl Rate.R noG w0 v_t_ t_) {r : family_value} (hF : family_worth r_ t_ month_ = some r) :
    Calls Tryd.prog 34 #[Right.val r_, v_t_, .int .i64 month_] w0 fun e w1 => e = .returned (family_value.val r) ∧ Ext noG w0 w1 := by
  refine (Calls.start (P := Tryd.prog) (args := [Right.val r_, v_t_, .int .i64 month_]) (R := fun v w1 => v = family_value.val r ∧ Ext noG w0 w1) (n := 31) (w := w0) Tryd.func34 rfl rfl (Nat.le_of_ble_eq_true rfl) (fun ρ hargs => ?_)).mono (fun e w1 ⟨v, he, hv, hE⟩ => ⟨hv ▸ he, hE⟩)
  have h0 := hargs 0 _ rfl
  have h1 := hargs 1 _ rfl
  have h2 := hargs 2 _ rfl
  have hW := Ext.refl noG w0
  have hsz := Nat.le_refl w0.heap.size
  obtain ⟨_, _, hs_H_t_, _, _⟩ := RepSl.shape H_t_
  have H_t_ := H_t_.start
  rw [family_worth] at hF
  refine WP.seq ?_
  refine WP.region mixed [[], []] [[], []] [[0], []] [] []
    [(3, fun u wz => ∃ b, u = .pointer (some ⟨b, 0, none⟩) ∧ w0.heap.size ≤ b ∧ Mb wz b 43 (Right.cells r_)), (6, fun u wz => ∃ b, u = .pointer (some ⟨b, 0, none⟩) ∧ w0.heap.size ≤ b ∧ Mb wz b 64 (family_value.cells (⟨0, 0⟩ : family_value)))] noG (by kernel_rfl)
    ⟨fun _ _ _ hE ⟨b, hb, hs, hM⟩ => ⟨b, hb, hs, hM.exn hE⟩, fun _ _ _ hE ⟨b, hb, hs, hM⟩ => ⟨b, hb, hs, hM.exn hE⟩, trivial⟩
    ⟨fun ρz wz hE hA ⟨e0, _⟩ _ => core_new rfl rfl hE (o_box (e0.trans h0) (bx_43 _ _)),
     fun ρz wz hE hA _ _ => core_new rfl rfl hE (o_alloc (al_64 _)), trivial⟩ ?_
  intro ρ1 w1 hE hN hf hr
  have hN := hN rfl
  have h1 := (hr 1 rfl).trans h1
  have h2 := (hr 2 rfl).trans h2
  obtain ⟨b3_, h3, hge_b3_, Hb_b3_⟩ := hf 0 rfl
  obtain ⟨b6_, h6, hge_b6_, Hb_b6_⟩ := hf 1 rfl
  have H_t__at0 := H_t_
  have H_t_ := H_t_.exn hN
  have hW := hW.trans hN
  have hB_b3_ : w0.heap.size ≤ b3_ := Nat.le_trans hsz hge_b3_
  have hB_b6_ : w0.heap.size ≤ b6_ := Nat.le_trans hsz hge_b6_
  have hsz := Nat.le_trans hsz hN.size
  refine WP.seq ?_
  obtain ⟨z, hz, hF⟩ := obind hF
  refine WP.region mixed [[], [], [1], [], [0, 2, 3], [4], [5], [5], [], [6, 8], [7, 9]] [[], [], [1], [], [0, 2, 3], [4], [5], [5], [], [8, 6], [7]] [[1], [3], [], [2], [], [], [], [], [], [], []] [9] [(8, 9)]
    [val 10 (v_t_), val 11 (.pointer (some ((⟨b3_, 0, none⟩ : Addr).add 2))), val 12 (.int .i64 r_.Currency), val 13 (.int .i64 month_), val 14 (.tuple #[Fraction.val z.1, .bool z.2]), val 9 (.tuple #[Fraction.val z.1, .bool z.2]), val 15 (Fraction.val z.1), val 16 (.bool z.2), (7, fun u wz => ∃ b, u = .pointer (some ⟨b, 0, none⟩) ∧ w1.heap.size ≤ b ∧ Mb wz b 54 (Fraction.cells (⟨0, 0⟩ : Fraction))), (7, fun u wz => ∃ b, u = .pointer (some ⟨b, 0, none⟩) ∧ w1.heap.size ≤ b ∧ Mb wz b 54 (Fraction.cells z.1)), val 8 (.bool z.2)] (fun b => w1.heap.size ≤ b) (by kernel_rfl)
    ⟨Stable.val _ _ _, Stable.val _ _ _, Stable.val _ _ _, Stable.val _ _ _, Stable.val _ _ _, Stable.val _ _ _, Stable.val _ _ _, Stable.val _ _ _, fun _ _ _ hE ⟨b, hb, hs, hM⟩ => ⟨b, hb, hs, hM.exn hE⟩, fun _ _ _ hE ⟨b, hb, hs, hM⟩ => ⟨b, hb, hs, hM.exn hE⟩, Stable.val _ _ _, trivial⟩
    ⟨fun ρz wz hE hA ⟨e1, _⟩ _ => core_val rfl rfl (o_move (e1.trans h1)),
     fun ρz wz hE hA ⟨e3, _⟩ _ => core_val rfl rfl (o_fieldAddr (e3.trans h3) (fa_43_2 _ _)),
     fun ρz wz hE hA _ ⟨u1, _⟩ => core_val rfl rfl (o_load u1 (run_load1 (lr_3 _ _) (CA.sub ((Hb_b3_.exn hE.fresh).ca) 2 1))),
     fun ρz wz hE hA ⟨e2, _⟩ _ => core_val rfl rfl (o_move (e2.trans h2)),
     fun ρz wz hE hA _ ⟨u0, u2, u3, _⟩ => core_call rfl (call_args3 u0 u2 u3) cf_52 (money_Value_ok  _ _ _ (H_t_.exn hE.fresh).no hz),
     fun ρz wz hE hA _ ⟨u4, _⟩ => core_val rfl rfl (o_move u4),
     fun ρz wz hE hA _ ⟨u5, _⟩ => core_val rfl rfl (o_extract u5 (by kernel_rfl)),
     fun ρz wz hE hA _ ⟨u5, _⟩ => core_val rfl rfl (o_extract u5 (by kernel_rfl)),
     fun ρz wz hE hA _ _ => core_new rfl rfl hE (o_alloc (al_54 _)),
     fun ρz wz hE hA _ ⟨u8, u6, _⟩ => core_storeNew rfl rfl rfl rfl u6 u8 (fun a w => st_54 _ a w) rfl (one_54 _),
     fun ρz wz hE hA _ ⟨u7, _⟩ => core_val rfl rfl (o_assign u7), trivial⟩ ?_
  intro ρ2 w2 hE hN hf hr
  have hN := hE.fresh
  have h3 := (hr 3 rfl).trans h3
  have h6 := (hr 6 rfl).trans h6
  obtain ⟨b7_, h7, hge_b7_, Hb_b7_⟩ := hf 9 rfl
  have h8 : ρ2 8 = .bool z.2 := hf 10 rfl
  have Hb_b3_n := Hb_b3_.exn hN
  have Hb_b6_n := Hb_b6_.exn hN
  have hW := hW.trans hN
  have Hb_b3_ := Hb_b3_n
  have Hb_b6_ := Hb_b6_n
  have hB_b7_ : w0.heap.size ≤ b7_ := Nat.le_trans hsz hge_b7_
  have hsz := Nat.le_trans hsz hN.size
  refine WP.seq ?_
  refine WP.seq ?_
  refine WP.region mixed [[], [0]] [[], [0]] [[8], []] [] []
    [val 17 (.bool z.2), val 18 (.bool (!z.2))] noG (by kernel_rfl)
    ⟨Stable.val _ _ _, Stable.val _ _ _, trivial⟩
    ⟨fun ρz wz hE hA ⟨e8, _⟩ _ => core_val rfl rfl (o_move (e8.trans h8)),
     fun ρz wz hE hA _ ⟨u0, _⟩ => core_val rfl rfl (o_not u0 rfl), trivial⟩ ?_
  intro ρ3 w3 hE hN hf hr
  have hN := hN rfl
  have h3 := (hr 3 rfl).trans h3
  have h6 := (hr 6 rfl).trans h6
  have h7 := (hr 7 rfl).trans h7
  have h18 : ρ3 18 = .bool (!z.2) := hf 1 rfl
  have Hb_b3_n := Hb_b3_.exn hN
  have Hb_b6_n := Hb_b6_.exn hN
  have Hb_b7_n := Hb_b7_.exn hN
  have hW := hW.trans hN
  have Hb_b3_ := Hb_b3_n
  have Hb_b6_ := Hb_b6_n
  have Hb_b7_ := Hb_b7_n
  have hsz := Nat.le_trans hsz hN.size
  refine WP.cond rfl h18 (fun hb => ?_) (fun hb => ?_)
  · have hF := (if_pos hb).symm.trans hF
    refine WP.seq ?_
    refine WP.region mixed [[], [0]] [[], [0]] [[], [6]] [1] []
      [val 19 (family_value.val (⟨0, 1⟩ : family_value)), (6, fun _ wz => Mb wz b6_ 64 (family_value.cells (⟨0, 1⟩ : family_value)))] (fun x => x = b6_) (by kernel_rfl)
      ⟨Stable.val _ _ _, fun _ _ _ hE hM => hM.exn hE, trivial⟩
      ⟨fun ρz wz hE hA _ _ => core_val rfl rfl (o_build (build_parts2 rfl rfl) (bd_64_0_1 _ _ _)),
     fun ρz wz hE hA ⟨e6, _⟩ ⟨u0, _⟩ => core_storeBox rfl rfl (fun _ h => h) (e6.trans h6) u0 (Hb_b6_.exn (hA rfl)) (fun a w => st_64 _ a w) rfl (one_64 _), trivial⟩ ?_
    intro ρ4 w4 hE hN hf hr
    have h6 := (hr 6 rfl).trans h6
    have Hb_b6_n := hf 1 rfl
    have hW := Ext.own hW hE (fun x h => h.symm ▸ hB_b6_)
    have Hb_b6_ := Hb_b6_n
    have hsz := Nat.le_trans hsz hE.size
    refine WP.ret ?_
    show retQ Tryd.prog 31 Tryd.f34 (fun v w1 => v = family_value.val r ∧ Ext noG w0 w1) .ret ρ4 w4
    obtain rfl := Option.some.inj hF
    exact resC rfl (by decide) h6 (run_loadN (cs := (family_value.cells (⟨0, 1⟩ : family_value))) (lr_64 _ _) rfl Hb_b6_.ca) ⟨rfl, hW⟩
  · have hF := (if_neg (Bool.eq_false_iff.1 hb)).symm.trans hF
    refine WP.skip ?_
    refine WP.seq ?_
    refine WP.region mixed [[], [0], [1], [], [3], [4], [2, 5], [], [7], [8], [6, 9], [1, 4, 8, 10]] [[], [0], [1], [], [3], [4], [2, 5], [], [7], [8], [6, 9], [10]] [[3], [], [], [7], [], [], [], [7], [], [], [], [6]] [11] []
      [val 20 (.pointer (some ((⟨b3_, 0, none⟩ : Addr).add 3))), val 21 (.int .i64 r_.Amount), val 22 (.int .u64 (u64 r_.Amount)), val 23 (.pointer (some ((⟨b7_, 0, none⟩ : Addr).add 0))), val 24 (.int .i64 z.1.Num), val 25 (.int .u64 (u64 z.1.Num)), val 26 (.int .u64 (u64 (u64 r_.Amount * (u64 z.1.Num)))), val 27 (.pointer (some ((⟨b7_, 0, none⟩ : Addr).add 1))), val 28 (.int .i64 z.1.Den), val 29 (.int .u64 (u64 z.1.Den)), val 30 (family_value.val (⟨u64 (u64 r_.Amount * (u64 z.1.Num)), u64 z.1.Den⟩ : family_value)), (6, fun _ wz => Mb wz b6_ 64 (family_value.cells (⟨u64 (u64 r_.Amount * (u64 z.1.Num)), u64 z.1.Den⟩ : family_value)))] (fun x => x = b6_) (by kernel_rfl)
      ⟨Stable.val _ _ _, Stable.val _ _ _, Stable.val _ _ _, Stable.val _ _ _, Stable.val _ _ _, Stable.val _ _ _, Stable.val _ _ _, Stable.val _ _ _, Stable.val _ _ _, Stable.val _ _ _, Stable.val _ _ _, fun _ _ _ hE hM => hM.exn hE, trivial⟩
      ⟨fun ρz wz hE hA ⟨e3, _⟩ _ => core_val rfl rfl (o_fieldAddr (e3.trans h3) (fa_43_3 _ _)),
     fun ρz wz hE hA _ ⟨u0, _⟩ => core_val rfl rfl (o_load u0 (run_load1 (lr_3 _ _) (CA.sub ((Hb_b3_.exn (hA rfl)).ca) 3 1))),
     fun ρz wz hE hA _ ⟨u1, _⟩ => core_val rfl rfl (o_conv u1 (cv_3_62 _ _)),
     fun ρz wz hE hA ⟨e7, _⟩ _ => core_val rfl rfl (o_fieldAddr (e7.trans h7) (fa_54_0 _ _)),
     fun ρz wz hE hA _ ⟨u3, _⟩ => core_val rfl rfl (o_load u3 (run_load1 (lr_3 _ _) (CA.sub ((Hb_b7_.exn (hA rfl)).ca) 0 1))),
     fun ρz wz hE hA _ ⟨u4, _⟩ => core_val rfl rfl (o_conv u4 (cv_3_62 _ _)),
     fun ρz wz hE hA _ ⟨u2, u5, _⟩ => core_val rfl rfl (o_mul u2 u5 rfl),
     fun ρz wz hE hA ⟨e7, _⟩ _ => core_val rfl rfl (o_fieldAddr (e7.trans h7) (fa_54_1 _ _)),
     fun ρz wz hE hA _ ⟨u7, _⟩ => core_val rfl rfl (o_load u7 (run_load1 (lr_3 _ _) (CA.sub ((Hb_b7_.exn (hA rfl)).ca) 1 1))),
     fun ρz wz hE hA _ ⟨u8, _⟩ => core_val rfl rfl (o_conv u8 (cv_3_62 _ _)),
     fun ρz wz hE hA _ ⟨u6, u9, _⟩ => core_val rfl rfl (o_build (build_parts2 u6 u9) (bd_64_0_1 _ _ _)),
     fun ρz wz hE hA ⟨e6, _⟩ ⟨u10, _⟩ => core_storeBox rfl rfl (fun _ h => h) (e6.trans h6) u10 (Hb_b6_.exn (hA rfl)) (fun a w => st_64 _ a w) rfl (one_64 _), trivial⟩ ?_
    intro ρ5 w5 hE hN hf hr
    have h6 := (hr 6 rfl).trans h6
    have Hb_b6_n := hf 11 rfl
    have hW := Ext.own hW hE (fun x h => h.symm ▸ hB_b6_)
    have Hb_b6_ := Hb_b6_n
    have hsz := Nat.le_trans hsz hE.size
    refine WP.ret ?_
    show retQ Tryd.prog 31 Tryd.f34 (fun v w1 => v = family_value.val r ∧ Ext noG w0 w1) .ret ρ5 w5
    obtain rfl := Option.some.inj hF
    exact resC rfl (by decide) h6 (run_loadN (cs := (family_value.cells (⟨u64 (u64 r_.Amount * (u64 z.1.Num)), u64 z.1.Den⟩ : family_value))) (lr_64 _ _) rfl Hb_b6_.ca) ⟨rfl, hW⟩

set_option maxHeartbeats 4000000 in
theorem family_compare_ok {w0 : World} (a_ : family_value) (b_ : family_value) {r : Int} (hF : family_compare a_ b_ = some r) :
    Calls Tryd.prog 33 #[family_value.val a_, family_value.val b_] w0 fun e w1 => e = .returned (.int .i64 r) ∧ Ext noG w0 w1 := by
  refine (Calls.start (P := Tryd.prog) (args := [family_value.val a_, family_value.val b_]) (R := fun v w1 => v = .int .i64 r ∧ Ext noG w0 w1) (n := 33) (w := w0) Tryd.func33 rfl rfl (Nat.le_of_ble_eq_true rfl) (fun ρ hargs => ?_)).mono (fun e w1 ⟨v, he, hv, hE⟩ => ⟨hv ▸ he, hE⟩)
  have h0 := hargs 0 _ rfl
  have h1 := hargs 1 _ rfl
  have hW := Ext.refl noG w0
  have hsz := Nat.le_refl w0.heap.size
  rw [family_compare] at hF
  refine WP.seq ?_
  refine WP.region mixed [[], [], []] [[], [], []] [[0], [1], []] [] []
    [(2, fun u wz => ∃ b, u = .pointer (some ⟨b, 0, none⟩) ∧ w0.heap.size ≤ b ∧ Mb wz b 64 (family_value.cells a_)), (3, fun u wz => ∃ b, u = .pointer (some ⟨b, 0, none⟩) ∧ w0.heap.size ≤ b ∧ Mb wz b 64 (family_value.cells b_)), val 4 (.int .i64 0)] noG (by kernel_rfl)
    ⟨fun _ _ _ hE ⟨b, hb, hs, hM⟩ => ⟨b, hb, hs, hM.exn hE⟩, fun _ _ _ hE ⟨b, hb, hs, hM⟩ => ⟨b, hb, hs, hM.exn hE⟩, Stable.val _ _ _, trivial⟩
    ⟨fun ρz wz hE hA ⟨e0, _⟩ _ => core_new rfl rfl hE (o_box (e0.trans h0) (bx_64 _ _)),
     fun ρz wz hE hA ⟨e1, _⟩ _ => core_new rfl rfl hE (o_box (e1.trans h1) (bx_64 _ _)),
     fun ρz wz hE hA _ _ => core_val rfl rfl (o_assign rfl), trivial⟩ ?_
  intro ρ1 w1 hE hN hf hr
  have hN := hN rfl
  obtain ⟨b2_, h2, hge_b2_, Hb_b2_⟩ := hf 0 rfl
  obtain ⟨b3_, h3, hge_b3_, Hb_b3_⟩ := hf 1 rfl
  have hW := hW.trans hN
  have hB_b2_ : w0.heap.size ≤ b2_ := Nat.le_trans hsz hge_b2_
  have hB_b3_ : w0.heap.size ≤ b3_ := Nat.le_trans hsz hge_b3_
  have hsz := Nat.le_trans hsz hN.size
  refine WP.seq ?_
  obtain ⟨z, hz, hF⟩ := obind hF
  refine WP.region mixed [[], [0], [], [2], [1, 3], [4], [5], [5], [6], [7]] [[], [0], [], [2], [1, 3], [4], [5], [5], [6], [7]] [[2], [], [3], [], [], [], [], [], [], []] [] []
    [val 10 (.pointer (some ((⟨b2_, 0, none⟩ : Addr).add 0))), val 11 (.int .u64 a_.num), val 12 (.pointer (some ((⟨b3_, 0, none⟩ : Addr).add 1))), val 13 (.int .u64 b_.den), val 14 (.tuple #[.int .u64 z.1, .int .u64 z.2]), val 9 (.tuple #[.int .u64 z.1, .int .u64 z.2]), val 15 (.int .u64 z.1), val 16 (.int .u64 z.2), val 5 (.int .u64 z.1), val 6 (.int .u64 z.2)] noG (by kernel_rfl)
    ⟨Stable.val _ _ _, Stable.val _ _ _, Stable.val _ _ _, Stable.val _ _ _, Stable.val _ _ _, Stable.val _ _ _, Stable.val _ _ _, Stable.val _ _ _, Stable.val _ _ _, Stable.val _ _ _, trivial⟩
    ⟨fun ρz wz hE hA ⟨e2, _⟩ _ => core_val rfl rfl (o_fieldAddr (e2.trans h2) (fa_64_0 _ _)),
     fun ρz wz hE hA _ ⟨u0, _⟩ => core_val rfl rfl (o_load u0 (run_load1 (lr_62 _ _) (CA.sub ((Hb_b2_.exn (hA rfl)).ca) 0 1))),
     fun ρz wz hE hA ⟨e3, _⟩ _ => core_val rfl rfl (o_fieldAddr (e3.trans h3) (fa_64_1 _ _)),
     fun ρz wz hE hA _ ⟨u2, _⟩ => core_val rfl rfl (o_load u2 (run_load1 (lr_62 _ _) (CA.sub ((Hb_b3_.exn (hA rfl)).ca) 1 1))),
     fun ρz wz hE hA _ ⟨u1, u3, _⟩ => core_call rfl (call_args2 u1 u3) cf_50 (bits_Mul64_ok  _ _  hz),
     fun ρz wz hE hA _ ⟨u4, _⟩ => core_val rfl rfl (o_move u4),
     fun ρz wz hE hA _ ⟨u5, _⟩ => core_val rfl rfl (o_extract u5 (by kernel_rfl)),
     fun ρz wz hE hA _ ⟨u5, _⟩ => core_val rfl rfl (o_extract u5 (by kernel_rfl)),
     fun ρz wz hE hA _ ⟨u6, _⟩ => core_val rfl rfl (o_assign u6),
     fun ρz wz hE hA _ ⟨u7, _⟩ => core_val rfl rfl (o_assign u7), trivial⟩ ?_
  intro ρ2 w2 hE hN hf hr
  have hN := hN rfl
  have h2 := (hr 2 rfl).trans h2
  have h3 := (hr 3 rfl).trans h3
  have h5 : ρ2 5 = .int .u64 z.1 := hf 8 rfl
  have h6 : ρ2 6 = .int .u64 z.2 := hf 9 rfl
  have Hb_b2_n := Hb_b2_.exn hN
  have Hb_b3_n := Hb_b3_.exn hN
  have hW := hW.trans hN
  have Hb_b2_ := Hb_b2_n
  have Hb_b3_ := Hb_b3_n
  have hsz := Nat.le_trans hsz hN.size
  refine WP.seq ?_
  obtain ⟨z2, hz2, hF⟩ := obind hF
  refine WP.region mixed [[], [0], [], [2], [1, 3], [4], [5], [5], [6], [7]] [[], [0], [], [2], [1, 3], [4], [5], [5], [6], [7]] [[3], [], [2], [], [], [], [], [], [], []] [] []
    [val 18 (.pointer (some ((⟨b3_, 0, none⟩ : Addr).add 0))), val 19 (.int .u64 b_.num), val 20 (.pointer (some ((⟨b2_, 0, none⟩ : Addr).add 1))), val 21 (.int .u64 a_.den), val 22 (.tuple #[.int .u64 z2.1, .int .u64 z2.2]), val 17 (.tuple #[.int .u64 z2.1, .int .u64 z2.2]), val 23 (.int .u64 z2.1), val 24 (.int .u64 z2.2), val 7 (.int .u64 z2.1), val 8 (.int .u64 z2.2)] noG (by kernel_rfl)
    ⟨Stable.val _ _ _, Stable.val _ _ _, Stable.val _ _ _, Stable.val _ _ _, Stable.val _ _ _, Stable.val _ _ _, Stable.val _ _ _, Stable.val _ _ _, Stable.val _ _ _, Stable.val _ _ _, trivial⟩
    ⟨fun ρz wz hE hA ⟨e3, _⟩ _ => core_val rfl rfl (o_fieldAddr (e3.trans h3) (fa_64_0 _ _)),
     fun ρz wz hE hA _ ⟨u0, _⟩ => core_val rfl rfl (o_load u0 (run_load1 (lr_62 _ _) (CA.sub ((Hb_b3_.exn (hA rfl)).ca) 0 1))),
     fun ρz wz hE hA ⟨e2, _⟩ _ => core_val rfl rfl (o_fieldAddr (e2.trans h2) (fa_64_1 _ _)),
     fun ρz wz hE hA _ ⟨u2, _⟩ => core_val rfl rfl (o_load u2 (run_load1 (lr_62 _ _) (CA.sub ((Hb_b2_.exn (hA rfl)).ca) 1 1))),
     fun ρz wz hE hA _ ⟨u1, u3, _⟩ => core_call rfl (call_args2 u1 u3) cf_50 (bits_Mul64_ok  _ _  hz2),
     fun ρz wz hE hA _ ⟨u4, _⟩ => core_val rfl rfl (o_move u4),
     fun ρz wz hE hA _ ⟨u5, _⟩ => core_val rfl rfl (o_extract u5 (by kernel_rfl)),
     fun ρz wz hE hA _ ⟨u5, _⟩ => core_val rfl rfl (o_extract u5 (by kernel_rfl)),
     fun ρz wz hE hA _ ⟨u6, _⟩ => core_val rfl rfl (o_assign u6),
     fun ρz wz hE hA _ ⟨u7, _⟩ => core_val rfl rfl (o_assign u7), trivial⟩ ?_
  intro ρ3 w3 hE hN hf hr
  have hN := hN rfl
  have h5 := (hr 5 rfl).trans h5
  have h6 := (hr 6 rfl).trans h6
  have h7 : ρ3 7 = .int .u64 z2.1 := hf 8 rfl
  have h8 : ρ3 8 = .int .u64 z2.2 := hf 9 rfl
  have hW := hW.trans hN
  have hsz := Nat.le_trans hsz hN.size
  refine WP.seq ?_
  obtain ⟨z3, hz3, hF⟩ := obind hF
  obtain ⟨z4, hz4, hF⟩ := obind hF
  obtain ⟨z5, hz5, hF⟩ := obind hF
  refine WP.region mixed [[], [], [0, 1], [], [], [3, 4], [2, 5], [6], [7]] [[], [], [0, 1], [], [], [3, 4], [2, 5], [6], [7]] [[5], [7], [], [6], [8], [], [], [], []] [] []
    [val 25 (.int .u64 z.1), val 26 (.int .u64 z2.1), val 27 (.int .i64 z3), val 28 (.int .u64 z.2), val 29 (.int .u64 z2.2), val 30 (.int .i64 z4), (31, fun u wz => ∃ b, u = .slice (some ⟨b, 0, none⟩) 2 2 ∧ w3.heap.size ≤ b ∧ Mb wz b 3 (([z3, z4]).flatMap (fun x : Int => [Value.int .i64 x]))), val 32 (.int .i64 z5), val 4 (.int .i64 z5)] noG (by kernel_rfl)
    ⟨Stable.val _ _ _, Stable.val _ _ _, Stable.val _ _ _, Stable.val _ _ _, Stable.val _ _ _, Stable.val _ _ _, fun _ _ _ hE ⟨b, hz, hs, hM⟩ => ⟨b, hz, hs, hM.exn hE⟩, Stable.val _ _ _, Stable.val _ _ _, trivial⟩
    ⟨fun ρz wz hE hA ⟨e5, _⟩ _ => core_val rfl rfl (o_move (e5.trans h5)),
     fun ρz wz hE hA ⟨e7, _⟩ _ => core_val rfl rfl (o_move (e7.trans h7)),
     fun ρz wz hE hA _ ⟨u0, u1, _⟩ => core_call rfl (call_args2 u0 u1) cf_51 (cmp_Compare_of_uint64_ok  _ _  hz3),
     fun ρz wz hE hA ⟨e6, _⟩ _ => core_val rfl rfl (o_move (e6.trans h6)),
     fun ρz wz hE hA ⟨e8, _⟩ _ => core_val rfl rfl (o_move (e8.trans h8)),
     fun ρz wz hE hA _ ⟨u3, u4, _⟩ => core_call rfl (call_args2 u3 u4) cf_51 (cmp_Compare_of_uint64_ok  _ _  hz4),
     fun ρz wz hE hA _ ⟨u2, u5, _⟩ => core_slice rfl rfl hE (o_buildSlice (build_parts2 u2 u5) (bs_23_2 _ _ _)),
     fun ρz wz hE hA _ ⟨⟨bz6, hz6, hge6, hM6⟩, _⟩ => core_call rfl (call_args1 hz6) cf_31 (cmp_Or_of_int_ok  _ (Mb.rep (n := 1) (cells := fun x : Int => [Value.int .i64 x]) (hn := fun _ => rfl) (G := noG) hM6 rfl (Nat.le_of_ble_eq_true rfl) (fun h => h)).no hz5),
     fun ρz wz hE hA _ ⟨u7, _⟩ => core_val rfl rfl (o_assign u7), trivial⟩ ?_
  intro ρ4 w4 hE hN hf hr
  have hN := hN rfl
  have h4 : ρ4 4 = .int .i64 z5 := hf 8 rfl
  have hW := hW.trans hN
  have hsz := Nat.le_trans hsz hN.size
  refine WP.ret ?_
  show retQ Tryd.prog 33 Tryd.f33 (fun v w1 => v = .int .i64 r ∧ Ext noG w0 w1) .ret ρ4 w4
  obtain rfl := Option.some.inj hF
  exact res1 rfl (by decide) h4 ⟨rfl, hW⟩

set_option maxHeartbeats 4000000 in
theorem family_valid_1_ok {w0 : World} (o_ : Right) (c_ : Right) {bc1_ : Nat} (Hb_bc1_ : Mb w0 bc1_ 43 (Right.cells c_)) {r : Bool} (hF : family_valid_1 o_ c_ = some r) :
    Calls Tryd.prog 42 #[Right.val o_, .pointer (some ⟨bc1_, 0, none⟩)] w0 fun e w1 => e = .returned (.bool r) ∧ Ext noG w0 w1 := by
  refine (Calls.start (P := Tryd.prog) (args := [Right.val o_, .pointer (some ⟨bc1_, 0, none⟩)]) (R := fun v w1 => v = .bool r ∧ Ext noG w0 w1) (n := 9) (w := w0) Tryd.func42 rfl rfl (Nat.le_of_ble_eq_true rfl) (fun ρ hargs => ?_)).mono (fun e w1 ⟨v, he, hv, hE⟩ => ⟨hv ▸ he, hE⟩)
  have h0 := hargs 0 _ rfl
  have h1 := hargs 1 _ rfl
  have hW := Ext.refl noG w0
  have hsz := Nat.le_refl w0.heap.size
  rw [family_valid_1] at hF
  refine WP.seq ?_
  refine WP.region mixed [[], []] [[], []] [[0], []] [] []
    [(2, fun u wz => ∃ b, u = .pointer (some ⟨b, 0, none⟩) ∧ w0.heap.size ≤ b ∧ Mb wz b 43 (Right.cells o_)), val 3 (.bool false)] noG (by kernel_rfl)
    ⟨fun _ _ _ hE ⟨b, hb, hs, hM⟩ => ⟨b, hb, hs, hM.exn hE⟩, Stable.val _ _ _, trivial⟩
    ⟨fun ρz wz hE hA ⟨e0, _⟩ _ => core_new rfl rfl hE (o_box (e0.trans h0) (bx_43 _ _)),
     fun ρz wz hE hA _ _ => core_val rfl rfl (o_assign rfl), trivial⟩ ?_
  intro ρ1 w1 hE hN hf hr
  have hN := hN rfl
  have h1 := (hr 1 rfl).trans h1
  obtain ⟨b2_, h2, hge_b2_, Hb_b2_⟩ := hf 0 rfl
  have Hb_bc1_n := Hb_bc1_.exn hN
  have hW := hW.trans hN
  have Hb_bc1_ := Hb_bc1_n
  have hB_b2_ : w0.heap.size ≤ b2_ := Nat.le_trans hsz hge_b2_
  have hsz := Nat.le_trans hsz hN.size
  refine WP.seq ?_
  refine WP.region mixed [[], [0], [], [2], [1, 3], [4]] [[], [0], [], [2], [1, 3], [4]] [[2], [], [1], [], [], []] [] []
    [val 4 (.pointer (some ((⟨b2_, 0, none⟩ : Addr).add 0))), val 5 (.int .i64 o_.State), val 6 (.pointer (some ((⟨bc1_, 0, none⟩ : Addr).add 0))), val 7 (.int .i64 c_.State), val 8 (.bool (o_.State == c_.State)), val 3 (.bool (o_.State == c_.State))] noG (by kernel_rfl)
    ⟨Stable.val _ _ _, Stable.val _ _ _, Stable.val _ _ _, Stable.val _ _ _, Stable.val _ _ _, Stable.val _ _ _, trivial⟩
    ⟨fun ρz wz hE hA ⟨e2, _⟩ _ => core_val rfl rfl (o_fieldAddr (e2.trans h2) (fa_43_0 _ _)),
     fun ρz wz hE hA _ ⟨u0, _⟩ => core_val rfl rfl (o_load u0 (run_load1 (lr_3 _ _) (CA.sub ((Hb_b2_.exn (hA rfl)).ca) 0 1))),
     fun ρz wz hE hA ⟨e1, _⟩ _ => core_val rfl rfl (o_fieldAddr (e1.trans h1) (fa_43_0 _ _)),
     fun ρz wz hE hA _ ⟨u2, _⟩ => core_val rfl rfl (o_load u2 (run_load1 (lr_3 _ _) (CA.sub ((Hb_bc1_.exn (hA rfl)).ca) 0 1))),
     fun ρz wz hE hA _ ⟨u1, u3, _⟩ => core_val rfl rfl (o_eql u1 u3 rfl),
     fun ρz wz hE hA _ ⟨u4, _⟩ => core_val rfl rfl (o_assign u4), trivial⟩ ?_
  intro ρ2 w2 hE hN hf hr
  have hN := hN rfl
  have h3 : ρ2 3 = .bool (o_.State == c_.State) := hf 5 rfl
  have hW := hW.trans hN
  have hsz := Nat.le_trans hsz hN.size
  refine WP.ret ?_
  show retQ Tryd.prog 9 Tryd.f42 (fun v w1 => v = .bool r ∧ Ext noG w0 w1) .ret ρ2 w2
  obtain rfl := Option.some.inj hF
  exact res1 rfl (by decide) h3 ⟨rfl, hW⟩

set_option maxHeartbeats 4000000 in
theorem slices_IndexFunc_of_api_Right_ok {w0 : World} (s_ : List Right) (f_ : Right → Option Bool) {v_s_ : Value} (H_s_ : RepSl Right.R noG w0 v_s_ s_) {v_f_ : Value} (H_f_ : FnR Tryd.prog fnV_75 fnW_75 f_ noG w0 v_f_) {r : Int} (hF : slices_IndexFunc_of_api_Right s_ f_ = some r) :
    Calls Tryd.prog 66 #[v_s_, v_f_] w0 fun e w1 => e = .returned (.int .i64 r) ∧ Ext noG w0 w1 := by
  refine (Calls.start (P := Tryd.prog) (args := [v_s_, v_f_]) (R := fun v w1 => v = .int .i64 r ∧ Ext noG w0 w1) (n := 19) (w := w0) Tryd.func66 rfl rfl (Nat.le_of_ble_eq_true rfl) (fun ρ hargs => ?_)).mono (fun e w1 ⟨v, he, hv, hE⟩ => ⟨hv ▸ he, hE⟩)
  have h0 := hargs 0 _ rfl
  have h1 := hargs 1 _ rfl
  have hW := Ext.refl noG w0
  have hsz := Nat.le_refl w0.heap.size
  obtain ⟨_, _, hs_H_s_, _, _⟩ := RepSl.shape H_s_
  have H_s_ := H_s_.start
  have H_f_ := H_f_.start
  rw [slices_IndexFunc_of_api_Right] at hF
  refine WP.seq ?_
  refine WP.region mixed [[]] [[]] [[]] [] []
    [val 4 (.int .i64 0)] noG (by kernel_rfl)
    ⟨Stable.val _ _ _, trivial⟩
    ⟨fun ρz wz hE hA _ _ => core_val rfl rfl (o_assign rfl), trivial⟩ ?_
  intro ρ1 w1 hE hN hf hr
  have hN := hN rfl
  have h0 := (hr 0 rfl).trans h0
  have h1 := (hr 1 rfl).trans h1
  have H_s__at0 := H_s_
  have H_s_ := H_s_.exn hN
  have H_f__at0 := H_f_
  have H_f_ := H_f_.exn hN
  have hW := hW.trans hN
  have hsz := Nat.le_trans hsz hN.size
  refine WP.seq ?_
  refine WP.seq ?_
  refine WP.region mixed [[], [0], []] [[], [0], []] [[0], [], []] [] []
    [val 6 (v_s_), val 7 (.int .i64 (s_.length : Int)), val 8 (.int .i64 0)] noG (by kernel_rfl)
    ⟨Stable.val _ _ _, Stable.val _ _ _, Stable.val _ _ _, trivial⟩
    ⟨fun ρz wz hE hA ⟨e0, _⟩ _ => core_val rfl rfl (o_move (e0.trans h0)),
     fun ρz wz hE hA _ ⟨u0, _⟩ => core_val rfl rfl (o_len (u0.trans hs_H_s_) len_24),
     fun ρz wz hE hA _ _ => core_val rfl rfl (o_move rfl), trivial⟩ ?_
  intro ρ2 w2 hE hN hf hr
  have hN := hN rfl
  have h0 := (hr 0 rfl).trans h0
  have h1 := (hr 1 rfl).trans h1
  have h7 : ρ2 7 = .int .i64 (s_.length : Int) := hf 1 rfl
  have h8 : ρ2 8 = .int .i64 0 := hf 2 rfl
  have H_s__at0 := H_s_
  have H_s_ := H_s_.exn hN
  have H_f__at0 := H_f_
  have H_f_ := H_f_.exn hN
  have hW := hW.trans hN
  have hsz := Nat.le_trans hsz hN.size
  refine WP.block ?_
  refine WP.loop (fun k_ ρ w => ∃ x : Int, ρ 0 = v_s_ ∧ ρ 1 = v_f_ ∧ ρ 7 = .int .i64 (s_.length : Int) ∧ ρ 8 = .int .i64 x ∧ RepSl Right.R (gfr noG w0) w v_s_ s_ ∧ FnR Tryd.prog fnV_75 fnW_75 f_ (gfr noG w0) w v_f_ ∧ Ext noG w0 w ∧ w0.heap.size ≤ w.heap.size ∧ loopC k_ (slices_IndexFunc_of_api_Right_l s_ f_) x = some r) FU ⟨0, h0, h1, h7, h8, H_s_, H_f_, hW, hsz, hF⟩ (fun _ _ h => by obtain ⟨_, _, _, _, _, _, _, _, _, h⟩ := h; cases h) ?_
  rintro k_ ρ3 w3 ⟨x, h0, h1, h7, h8, H_s_, H_f_, hW, hsz, hF⟩
  have hF : slices_IndexFunc_of_api_Right_l s_ f_ (loopC k_ (slices_IndexFunc_of_api_Right_l s_ f_)) x = some r := hF
  generalize hrec_ : loopC k_ (slices_IndexFunc_of_api_Right_l s_ f_) = rec_ at hF
  rw [slices_IndexFunc_of_api_Right_l] at hF
  refine WP.seq ?_
  refine WP.region mixed [[]] [[]] [[8, 7]] [] []
    [val 9 (.bool (decide (x < (s_.length : Int))))] noG (by kernel_rfl)
    ⟨Stable.val _ _ _, trivial⟩
    ⟨fun ρz wz hE hA ⟨e8, e7, _⟩ _ => core_val rfl rfl (o_lss (e8.trans h8) (e7.trans h7) rfl), trivial⟩ ?_
  intro ρ4 w4 hE hN hf hr
  have hN := hN rfl
  have h0 := (hr 0 rfl).trans h0
  have h1 := (hr 1 rfl).trans h1
  have h7 := (hr 7 rfl).trans h7
  have h8 := (hr 8 rfl).trans h8
  have h9 : ρ4 9 = .bool (decide (x < (s_.length : Int))) := hf 0 rfl
  have H_s__at0 := H_s_
  have H_s_ := H_s_.exn hN
  have H_f__at0 := H_f_
  have H_f_ := H_f_.exn hN
  have hW := hW.trans hN
  have hsz := Nat.le_trans hsz hN.size
  refine WP.seq ?_
  refine WP.cond rfl h9 (fun hb => ?_) (fun hb => ?_)
  · have hF := (if_pos hb).symm.trans hF
    refine WP.skip ?_
    refine WP.seq ?_
    refine WP.block ?_
    refine WP.seq ?_
    refine WP.region mixed [[], [0]] [[], [0]] [[8], []] [] []
      [val 10 (.int .i64 x), val 5 (.int .i64 x)] noG (by kernel_rfl)
      ⟨Stable.val _ _ _, Stable.val _ _ _, trivial⟩
      ⟨fun ρz wz hE hA ⟨e8, _⟩ _ => core_val rfl rfl (o_move (e8.trans h8)),
     fun ρz wz hE hA _ ⟨u0, _⟩ => core_val rfl rfl (o_assign u0), trivial⟩ ?_
    intro ρ5 w5 hE hN hf hr
    have hN := hN rfl
    have h0 := (hr 0 rfl).trans h0
    have h1 := (hr 1 rfl).trans h1
    have h7 := (hr 7 rfl).trans h7
    have h8 := (hr 8 rfl).trans h8
    have h5 : ρ5 5 = .int .i64 x := hf 1 rfl
    have H_s__at0 := H_s_
    have H_s_ := H_s_.exn hN
    have H_f__at0 := H_f_
    have H_f_ := H_f_.exn hN
    have hW := hW.trans hN
    have hsz := Nat.le_trans hsz hN.size
    refine WP.seq ?_
    obtain ⟨y, hy, hF⟩ := obind hF
    obtain ⟨ay, cy, hvy, hiy, hAy⟩ := RepSl.getF H_s_ hy
    obtain ⟨z, hz, hF⟩ := obind hF
    refine WP.region mixed [[], [], [], [1, 2], [3], [0, 4]] [[], [], [], [1, 2], [3], [0, 4]] [[1], [0], [5], [], [], []] [] []
      [val 11 (v_f_), val 12 (v_s_), val 13 (.int .i64 x), val 14 (.pointer (some (ay.add (Int.toNat x * 4)))), val 15 (Right.val y), val 16 (.bool z)] noG (by kernel_rfl)
      ⟨Stable.val _ _ _, Stable.val _ _ _, Stable.val _ _ _, Stable.val _ _ _, Stable.val _ _ _, Stable.val _ _ _, trivial⟩
      ⟨fun ρz wz hE hA ⟨e1, _⟩ _ => core_val rfl rfl (o_move (e1.trans h1)),
     fun ρz wz hE hA ⟨e0, _⟩ _ => core_val rfl rfl (o_move (e0.trans h0)),
     fun ρz wz hE hA ⟨e5, _⟩ _ => core_val rfl rfl (o_move (e5.trans h5)),
     fun ρz wz hE hA _ ⟨u1, u2, _⟩ => core_val rfl rfl (o_indexAddr (u1.trans hvy) u2 (ia_24 hiy)),
     fun ρz wz hE hA _ ⟨u3, _⟩ => core_val rfl rfl (o_load u3 (run_loadN (cs := (Right.cells y)) (lr_43 _ _) rfl ((hAy.exn (hA rfl)).ca))),
     fun ρz wz hE hA _ ⟨u0, u4, _⟩ => core_callF (V := fnV_75) (W := fnW_75) (a := y) (r := z) rfl u0 (call_args1 u4) (H_f_.exn (hA rfl)).no hz, trivial⟩ ?_
    intro ρ6 w6 hE hN hf hr
    have hN := hN rfl
    have h0 := (hr 0 rfl).trans h0
    have h1 := (hr 1 rfl).trans h1
    have h7 := (hr 7 rfl).trans h7
    have h8 := (hr 8 rfl).trans h8
    have h5 := (hr 5 rfl).trans h5
    have h16 : ρ6 16 = .bool z := hf 5 rfl
    have H_s__at0 := H_s_
    have H_s_ := H_s_.exn hN
    have H_f__at0 := H_f_
    have H_f_ := H_f_.exn hN
    have hW := hW.trans hN
    have hsz := Nat.le_trans hsz hN.size
    refine WP.cond rfl h16 (fun hb => ?_) (fun hb => ?_)
    · have hF := (if_pos hb).symm.trans hF
      refine WP.seq ?_
      refine WP.region mixed [[], [0]] [[], [0]] [[5], []] [] []
        [val 17 (.int .i64 x), val 4 (.int .i64 x)] noG (by kernel_rfl)
        ⟨Stable.val _ _ _, Stable.val _ _ _, trivial⟩
        ⟨fun ρz wz hE hA ⟨e5, _⟩ _ => core_val rfl rfl (o_move (e5.trans h5)),
     fun ρz wz hE hA _ ⟨u0, _⟩ => core_val rfl rfl (o_assign u0), trivial⟩ ?_
      intro ρ7 w7 hE hN hf hr
      have hN := hN rfl
      have h4 : ρ7 4 = .int .i64 x := hf 1 rfl
      have hW := hW.trans hN
      have hsz := Nat.le_trans hsz hN.size
      refine WP.ret ?_
      show retQ Tryd.prog 19 Tryd.f66 (fun v w1 => v = .int .i64 r ∧ Ext noG w0 w1) .ret ρ7 w7
      obtain rfl := Option.some.inj hF
      exact res1 rfl (by decide) h4 ⟨rfl, hW⟩
    · have hF := (if_neg (Bool.eq_false_iff.1 hb)).symm.trans hF
      refine WP.skip ?_
      refine WP.region mixed [[], [0]] [[], [0]] [[8], []] [] []
        [val 18 (.int .i64 (i64 (x + 1))), val 8 (.int .i64 (i64 (x + 1)))] noG (by kernel_rfl)
        ⟨Stable.val _ _ _, Stable.val _ _ _, trivial⟩
        ⟨fun ρz wz hE hA ⟨e8, _⟩ _ => core_val rfl rfl (o_add (e8.trans h8) rfl rfl),
     fun ρz wz hE hA _ ⟨u0, _⟩ => core_val rfl rfl (o_move u0), trivial⟩ ?_
      intro ρ8 w8 hE hN hf hr
      have hN := hN rfl
      have h0 := (hr 0 rfl).trans h0
      have h1 := (hr 1 rfl).trans h1
      have h7 := (hr 7 rfl).trans h7
      have h8 : ρ8 8 = .int .i64 (i64 (x + 1)) := hf 1 rfl
      have H_s__at0 := H_s_
      have H_s_ := H_s_.exn hN
      have H_f__at0 := H_f_
      have H_f_ := H_f_.exn hN
      have hW := hW.trans hN
      have hsz := Nat.le_trans hsz hN.size
      exact ⟨i64 (x + 1), h0, h1, h7, h8, H_s_, H_f_, hW, hsz, (by first | exact hF | (rw [hrec_]; exact hF))⟩
  · have hF := (if_neg (Bool.eq_false_iff.1 hb)).symm.trans hF
    refine WP.exit ?_
    refine thenQ_exit ?_
    refine thenQ_exit ?_
    refine blockQ_hit ?_
    refine WP.seq ?_
    refine WP.region mixed [[]] [[]] [[]] [] []
      [val 4 (.int .i64 (-1))] noG (by kernel_rfl)
      ⟨Stable.val _ _ _, trivial⟩
      ⟨fun ρz wz hE hA _ _ => core_val rfl rfl (o_assign rfl), trivial⟩ ?_
    intro ρ9 w9 hE hN hf hr
    have hN := hN rfl
    have h4 : ρ9 4 = .int .i64 (-1) := hf 0 rfl
    have hW := hW.trans hN
    have hsz := Nat.le_trans hsz hN.size
    refine WP.ret ?_
    show retQ Tryd.prog 19 Tryd.f66 (fun v w1 => v = .int .i64 r ∧ Ext noG w0 w1) .ret ρ9 w9
    obtain rfl := Option.some.inj hF
    exact res1 rfl (by decide) h4 ⟨rfl, hW⟩

set_option maxHeartbeats 4000000 in
theorem slices_ContainsFunc_of_api_Right_ok {w0 : World} (s_ : List Right) (f_ : Right → Option Bool) {v_s_ : Value} (H_s_ : RepSl Right.R noG w0 v_s_ s_) {v_f_ : Value} (H_f_ : FnR Tryd.prog fnV_75 fnW_75 f_ noG w0 v_f_) {r : Bool} (hF : slices_ContainsFunc_of_api_Right s_ f_ = some r) :
    Calls Tryd.prog 41 #[v_s_, v_f_] w0 fun e w1 => e = .returned (.bool r) ∧ Ext noG w0 w1 := by
  refine (Calls.start (P := Tryd.prog) (args := [v_s_, v_f_]) (R := fun v w1 => v = .bool r ∧ Ext noG w0 w1) (n := 9) (w := w0) Tryd.func41 rfl rfl (Nat.le_of_ble_eq_true rfl) (fun ρ hargs => ?_)).mono (fun e w1 ⟨v, he, hv, hE⟩ => ⟨hv ▸ he, hE⟩)
  have h0 := hargs 0 _ rfl
  have h1 := hargs 1 _ rfl
  have hW := Ext.refl noG w0
  have hsz := Nat.le_refl w0.heap.size
  obtain ⟨_, _, hs_H_s_, _, _⟩ := RepSl.shape H_s_
  have H_s_ := H_s_.start
  have H_f_ := H_f_.start
  rw [slices_ContainsFunc_of_api_Right] at hF
  refine WP.seq ?_
  refine WP.region mixed [[]] [[]] [[]] [] []
    [val 4 (.bool false)] noG (by kernel_rfl)
    ⟨Stable.val _ _ _, trivial⟩
    ⟨fun ρz wz hE hA _ _ => core_val rfl rfl (o_assign rfl), trivial⟩ ?_
  intro ρ1 w1 hE hN hf hr
  have hN := hN rfl
  have h0 := (hr 0 rfl).trans h0
  have h1 := (hr 1 rfl).trans h1
  have H_s__at0 := H_s_
  have H_s_ := H_s_.exn hN
  have H_f__at0 := H_f_
  have H_f_ := H_f_.exn hN
  have hW := hW.trans hN
  have hsz := Nat.le_trans hsz hN.size
  refine WP.seq ?_
  obtain ⟨z, hz, hF⟩ := obind hF
  refine WP.region mixed [[], [], [0, 1], [2], [3]] [[], [], [0, 1], [2], [3]] [[0], [1], [], [], []] [] []
    [val 5 (v_s_), val 6 (v_f_), val 7 (.int .i64 z), val 8 (.bool (decide (0 ≤ z))), val 4 (.bool (decide (0 ≤ z)))] noG (by kernel_rfl)
    ⟨Stable.val _ _ _, Stable.val _ _ _, Stable.val _ _ _, Stable.val _ _ _, Stable.val _ _ _, trivial⟩
    ⟨fun ρz wz hE hA ⟨e0, _⟩ _ => core_val rfl rfl (o_move (e0.trans h0)),
     fun ρz wz hE hA ⟨e1, _⟩ _ => core_val rfl rfl (o_move (e1.trans h1)),
     fun ρz wz hE hA _ ⟨u0, u1, _⟩ => core_call rfl (call_args2 u0 u1) cf_66 (slices_IndexFunc_of_api_Right_ok  _ _ (H_s_.exn (hA rfl)).no (H_f_.exn (hA rfl)).no hz),
     fun ρz wz hE hA _ ⟨u2, _⟩ => core_val rfl rfl (o_geq u2 rfl rfl),
     fun ρz wz hE hA _ ⟨u3, _⟩ => core_val rfl rfl (o_assign u3), trivial⟩ ?_
  intro ρ2 w2 hE hN hf hr
  have hN := hN rfl
  have h4 : ρ2 4 = .bool (decide (0 ≤ z)) := hf 4 rfl
  have hW := hW.trans hN
  have hsz := Nat.le_trans hsz hN.size
  refine WP.ret ?_
  show retQ Tryd.prog 9 Tryd.f41 (fun v w1 => v = .bool r ∧ Ext noG w0 w1) .ret ρ2 w2
  obtain rfl := Option.some.inj hF
  exact res1 rfl (by decide) h4 ⟨rfl, hW⟩
end Go.PL
