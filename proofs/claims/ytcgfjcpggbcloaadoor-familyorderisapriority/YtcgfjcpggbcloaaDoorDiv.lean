/- The division of two words by one: it comes to an end. Plain Lean. -/
import Derived.Test.YtcgfjcpggbcloaaDoorMul
set_option linter.unusedSimpArgs false
set_option linter.unusedVariables false
set_option maxRecDepth 4000
namespace Go.PL
open Go

theorem shrK_eq {x n : Int} {j : Nat} (h0 : 0 ≤ x) (hn : n = (j : Int)) (hj : j ≤ 64) : shrK .u64 x n = x / (2 ^ j : Int) := by
  subst hn
  unfold shrK
  have e1 : min ((j : Int).toNat) IntKind.u64.bits = j := by simp only [Int.toNat_natCast, IntKind.bits]; omega
  rw [e1]
  exact Int.fdiv_eq_ediv_of_nonneg _ (Int.le_of_lt (Int.pow_pos (by decide)))
theorem shlK_eq {x n : Int} {j : Nat} (hn : n = (j : Int)) (hj : j ≤ 64) : shlK .u64 x n = u64 (x * 2 ^ j) := by
  subst hn
  unfold shlK
  have e1 : min ((j : Int).toNat) IntKind.u64.bits = j := by simp only [Int.toNat_natCast, IntKind.bits]; omega
  rw [e1]; rfl
theorem str1_get : (List.range 256).all (fun k => (strI str1 (k : Int)) == some ((if k = 0 then 0 else Nat.log2 k + 1 : Nat) : Int)) = true := by kernel_rfl
theorem str1_eq {k : Nat} (hk : k < 256) : strI str1 (k : Int) = some ((if k = 0 then 0 else Nat.log2 k + 1 : Nat) : Int) := by
  have := List.all_eq_true.1 str1_get k (List.mem_range.2 hk)
  simpa using this
/-- The number of bits of a byte. -/
theorem byte_len {k : Nat} (h0 : 0 < k) (hk : k < 256) : ∃ z : Nat, strI str1 (k : Int) = some (z : Int) ∧ 1 ≤ z ∧ z ≤ 8 ∧ 2 ^ (z - 1) ≤ k ∧ k < 2 ^ z := by
  refine ⟨Nat.log2 k + 1, ?_, by omega, ?_, ?_, Nat.lt_log2_self⟩
  · rw [str1_eq hk, if_neg (by omega)]
  · have : Nat.log2 k < 8 := (Nat.log2_lt (by omega)).2 hk
    omega
  · exact Nat.log2_self_le (by omega)
/-- The number of bits of a word other than 0. -/
theorem Len64_eq {x : Nat} (h0 : 0 < x) (h1 : x < 18446744073709551616) : ∃ z : Nat, bits_Len64 (x : Int) = some (z : Int) ∧ 1 ≤ z ∧ z ≤ 64 ∧ 2 ^ (z - 1) ≤ x ∧ x < 2 ^ z := by
  -- a byte at the end
  have j3 : ∀ (y : Nat) (n : Nat), 0 < y → y < 256 → n ≤ 56 → ∃ z : Nat, bits_Len64_j3 (y : Int) (n : Int) = some ((n + z : Nat) : Int) ∧ 1 ≤ z ∧ z ≤ 8 ∧ 2 ^ (z - 1) ≤ y ∧ y < 2 ^ z := by
    intro y n hy0 hy hn
    obtain ⟨z, hz, a1, a2, a3, a4⟩ := byte_len hy0 hy
    refine ⟨z, ?_, a1, a2, a3, a4⟩
    unfold bits_Len64_j3
    have : (IntKind.u8.wrap) (y : Int) = (y : Int) := by rw [IntKind.wrap_u8]; omega
    rw [this, hz, Option.bind_some, i64_id (n := (z : Int)) (by omega) (by omega), i64_id (by omega) (by omega)]
    rfl
  have sh : ∀ (y : Nat) (j : Nat), j ≤ 64 → shrK .u64 (y : Int) (j : Int) = ((y / 2 ^ j : Nat) : Int) := by
    intro y j hj
    rw [shrK_eq (Int.natCast_nonneg y) rfl hj]
    simp
  have up : ∀ (y j z : Nat), 1 ≤ z → 2 ^ (z - 1) ≤ y / 2 ^ j → y / 2 ^ j < 2 ^ z → 2 ^ (j + z - 1) ≤ y ∧ y < 2 ^ (j + z) := by
    intro y j z hz h1 h2
    have e1 : 2 ^ (j + z - 1) = 2 ^ (z - 1) * 2 ^ j := by rw [← Nat.pow_add]; congr 1; omega
    have e2 : 2 ^ (j + z) = 2 ^ z * 2 ^ j := by rw [← Nat.pow_add, Nat.add_comm]
    have hp : 0 < 2 ^ j := Nat.pos_of_ne_zero (by simp)
    exact ⟨by rw [e1]; exact (Nat.le_div_iff_mul_le hp).1 h1, by rw [e2]; exact (Nat.div_lt_iff_lt_mul hp).1 h2⟩
  have j2 : ∀ (y : Nat) (n : Nat), 0 < y → y < 65536 → n ≤ 48 → ∃ z : Nat, bits_Len64_j2 (y : Int) (n : Int) = some ((n + z : Nat) : Int) ∧ 1 ≤ z ∧ z ≤ 16 ∧ 2 ^ (z - 1) ≤ y ∧ y < 2 ^ z := by
    intro y n hy0 hy hn
    unfold bits_Len64_j2
    by_cases h : 256 ≤ y
    · rw [if_pos (by simp; omega)]
      have e : shrK .u64 (y : Int) 8 = ((y / 2 ^ 8 : Nat) : Int) := sh y 8 (by decide)
      rw [e, i64_id (by omega) (by omega)]
      obtain ⟨z, hz, a1, a2, a3, a4⟩ := j3 (y / 2 ^ 8) (n + 8) (by omega) (by omega) (by omega)
      have := up y 8 z a1 a3 a4
      refine ⟨8 + z, ?_, by omega, by omega, this.1, this.2⟩
      rw [show ((n : Int) + 8) = ((n + 8 : Nat) : Int) by simp, hz]; congr 2; omega
    · rw [if_neg (by simp; omega)]
      obtain ⟨z, hz, a1, a2, a3, a4⟩ := j3 y n hy0 (by omega) (by omega)
      exact ⟨z, hz, a1, by omega, a3, a4⟩
  have j1 : ∀ (y : Nat) (n : Nat), 0 < y → y < 4294967296 → n ≤ 32 → ∃ z : Nat, bits_Len64_j (y : Int) (n : Int) = some ((n + z : Nat) : Int) ∧ 1 ≤ z ∧ z ≤ 32 ∧ 2 ^ (z - 1) ≤ y ∧ y < 2 ^ z := by
    intro y n hy0 hy hn
    unfold bits_Len64_j
    by_cases h : 65536 ≤ y
    · rw [if_pos (by simp; omega)]
      have e : shrK .u64 (y : Int) 16 = ((y / 2 ^ 16 : Nat) : Int) := sh y 16 (by decide)
      rw [e, i64_id (by omega) (by omega)]
      obtain ⟨z, hz, a1, a2, a3, a4⟩ := j2 (y / 2 ^ 16) (n + 16) (by omega) (by omega) (by omega)
      have := up y 16 z a1 a3 a4
      refine ⟨16 + z, ?_, by omega, by omega, this.1, this.2⟩
      rw [show ((n : Int) + 16) = ((n + 16 : Nat) : Int) by simp, hz]; congr 2; omega
    · rw [if_neg (by simp; omega)]
      obtain ⟨z, hz, a1, a2, a3, a4⟩ := j2 y n hy0 (by omega) (by omega)
      exact ⟨z, hz, a1, by omega, a3, a4⟩
  unfold bits_Len64
  by_cases h : 4294967296 ≤ x
  · rw [if_pos (by simp; omega)]
    have e : shrK .u64 (x : Int) 32 = ((x / 2 ^ 32 : Nat) : Int) := sh x 32 (by decide)
    rw [e]
    obtain ⟨z, hz, a1, a2, a3, a4⟩ := j1 (x / 2 ^ 32) 32 (by omega) (by omega) (by omega)
    have := up x 32 z a1 a3 a4
    exact ⟨32 + z, hz, by omega, by omega, this.1, this.2⟩
  · rw [if_neg (by simp; omega)]
    obtain ⟨z, hz, a1, a2, a3, a4⟩ := j1 x 0 h0 (by omega) (by omega)
    exact ⟨z, by rw [← Nat.zero_add z]; exact hz, a1, by omega, a3, a4⟩
/-- A divisor, moved up until its highest bit is set. -/
theorem lead {p : Int} (h0 : 0 < p) (h1 : p < 18446744073709551616) : ∃ z : Nat, bits_LeadingZeros64 p = some (z : Int) ∧ z ≤ 63 ∧ 9223372036854775808 ≤ p * 2 ^ z ∧ p * 2 ^ z < 18446744073709551616 := by
  obtain ⟨z, hz, a1, a2, a3, a4⟩ := Len64_eq (x := p.toNat) (by omega) (by omega)
  have hp : ((p.toNat : Nat) : Int) = p := by omega
  rw [hp] at hz
  refine ⟨64 - z, ?_, by omega, ?_, ?_⟩
  · unfold bits_LeadingZeros64
    rw [hz, Option.bind_some, i64_id (by omega) (by omega)]
    congr 1; omega
  · have h2 : 2 ^ (z - 1) * 2 ^ (64 - z) ≤ p.toNat * 2 ^ (64 - z) := Nat.mul_le_mul_right _ a3
    rw [← Nat.pow_add, show z - 1 + (64 - z) = 63 by omega] at h2
    have h3 : ((p.toNat * 2 ^ (64 - z) : Nat) : Int) = p * 2 ^ (64 - z) := by
      rw [Int.natCast_mul, hp]; simp
    rw [← h3]
    have : (9223372036854775808 : Nat) ≤ p.toNat * 2 ^ (64 - z) := h2
    omega
  · have h2 : p.toNat * 2 ^ (64 - z) < 2 ^ z * 2 ^ (64 - z) := Nat.mul_lt_mul_of_pos_right a4 (Nat.pos_of_ne_zero (by simp))
    rw [← Nat.pow_add, show z + (64 - z) = 64 by omega] at h2
    have h3 : ((p.toNat * 2 ^ (64 - z) : Nat) : Int) = p * 2 ^ (64 - z) := by
      rw [Int.natCast_mul, hp]; simp
    rw [← h3]
    have : p.toNat * 2 ^ (64 - z) < (18446744073709551616 : Nat) := h2
    omega
theorem j4_total (z : Int) (hz : 0 ≤ z) (q3 q4 q5 q6 x x2 : Int) : ∃ r, bits_Div64_j4 z q3 q4 q5 q6 x x2 = some r := by
  unfold bits_Div64_j4
  have h : ¬ u64 z < 0 := by have := (u64_range z).1; omega
  unfold shrO
  rw [if_neg h, Option.bind_some]
  exact ⟨_, rfl⟩
theorem orK_range (a b : Int) : 0 ≤ orK .u64 a b ∧ orK .u64 a b ≤ 18446744073709551615 := u64_range _
theorem rem_small {A y : Int} (h0 : 0 ≤ A) (h1 : A ≤ 18446744073709551615) (hy : 2147483648 ≤ y) (hy2 : y < 4294967296) :
    quoU A y = some (A / y) ∧ 0 ≤ u64 (A - u64 (A / y * y)) ∧ u64 (A - u64 (A / y * y)) < 4294967296 := by
  have e1 : A.tdiv y = A / y := tdiv_nonneg h0
  have h2 : 0 ≤ A / y := Int.ediv_nonneg h0 (by omega)
  have h3 : A / y * y ≤ A := Int.ediv_mul_le A (by omega)
  have h4 : A / y ≤ A := Int.ediv_le_self _ h0
  have h5 : 0 ≤ A / y * y := Int.mul_nonneg h2 (by omega)
  have h6 : A - A / y * y = A % y := by rw [Int.mul_comm]; exact (Int.emod_def A y).symm
  have h7 := Int.emod_nonneg A (by omega : y ≠ 0)
  have h8 := Int.emod_lt_of_pos A (by omega : 0 < y)
  refine ⟨?_, ?_⟩
  · rw [quoU_of (by omega), e1, u64_id (by omega) (by omega)]
  · rw [u64_id (n := A / y * y) (by omega) (by omega), h6, u64_id (by omega) (by omega)]
    omega
theorem j3_total (z : Int) (hz : 0 ≤ z) (q3 q4 q5 q6 x : Int) (hq : 2147483648 ≤ shrK .u64 q3 32) (hq2 : shrK .u64 q3 32 < 4294967296) : ∃ r, bits_Div64_j3 z q3 q4 q5 q6 x = some r := by
  unfold bits_Div64_j3
  have hA := u64_range (u64 (u64 (orK .u64 q4 q5 * 4294967296) + shrK .u64 q6 32) - (u64 (x * q3)))
  generalize u64 (u64 (u64 (orK .u64 q4 q5 * 4294967296) + shrK .u64 q6 32) - (u64 (x * q3))) = A at *
  obtain ⟨r1, r2, r3⟩ := rem_small hA.1 hA.2 hq hq2
  rw [r1, Option.bind_some]
  obtain ⟨r, h1, _⟩ := loopC_FU (f := bits_Div64_l z q3 q4 q5 q6 x) (fun s => 0 ≤ s.1 ∧ s.1 < 4294967296) (fun s => 4294967296 - s.1.toNat) (fun _ => True) (s := (u64 (A - u64 (A / shrK .u64 q3 32 * shrK .u64 q3 32)), A / shrK .u64 q3 32)) ⟨r2, r3⟩ (by show 4294967296 - _ < _; omega) (by
    rintro ⟨x3, x4⟩ rec ⟨h3, h4⟩
    simp only at h3 h4
    unfold bits_Div64_l
    dsimp only
    split
    · split
      · left; obtain ⟨r, hr⟩ := j4_total z hz q3 q4 q5 q6 x (u64 (x4 - 1)); exact ⟨r, hr, trivial⟩
      · rename_i hlt
        simp only [decide_eq_true_eq] at hlt
        right
        rw [u64_id (by omega) (by omega)] at hlt ⊢
        exact ⟨_, rfl, ⟨by simp only []; omega, by simp only []; omega⟩, by simp only []; omega⟩
    · left; obtain ⟨r, hr⟩ := j4_total z hz q3 q4 q5 q6 x x4; exact ⟨r, hr, trivial⟩)
  exact ⟨r, h1⟩
theorem Div64_total {d i p : Int} (hd : 0 ≤ d) (hi : 0 ≤ i) (hi1 : i < 18446744073709551616) (hp0 : d < p) (hp : p < 18446744073709551616) : ∃ r, bits_Div64 d i p = some r := by
  unfold bits_Div64 bits_Div64_j bits_Div64_j2
  rw [if_neg (by simp; omega), if_neg (by simp; omega)]
  by_cases h0 : d = 0
  · rw [if_pos (by simp [h0]), quoU_of (by omega), remI_of (by omega)]
    exact ⟨_, rfl⟩
  · rw [if_neg (by simpa using h0)]
    obtain ⟨z, hz, hz1, hz2, hz3⟩ := lead (p := p) (by omega) hp
    have uz : u64 (z : Int) = (z : Int) := u64_id (by omega) (by omega)
    have uz2 : u64 (64 - (z : Int)) = ((64 - z : Nat) : Int) := by rw [u64_id (by omega) (by omega)]; omega
    have n1 : ¬ (z : Int) < 0 := by omega
    have n2 : ¬ ((64 - z : Nat) : Int) < 0 := by omega
    rw [hz, Option.bind_some, uz, uz2]
    unfold shlO shrO
    rw [if_neg n1, if_neg n1, if_neg n2, if_neg n1]
    simp only [Option.bind_some]
    have e3 : shlK .u64 p (z : Int) = p * 2 ^ z := by rw [shlK_eq rfl (by omega), u64_id (by omega) (by omega)]
    have y1 : shrK .u64 (p * 2 ^ z) 32 = p * 2 ^ z / 4294967296 := shr32 (by omega)
    rw [e3]
    generalize p * 2 ^ z = q3 at *
    generalize shlK .u64 d (z : Int) = q4
    generalize shrK .u64 i ((64 - z : Nat) : Int) = q5
    generalize shlK .u64 i (z : Int) = q6
    have hq : 2147483648 ≤ shrK .u64 q3 32 := by rw [y1]; omega
    have hq2 : shrK .u64 q3 32 < 4294967296 := by rw [y1]; omega
    have hA := orK_range q4 q5
    obtain ⟨r1, r2, r3⟩ := rem_small hA.1 hA.2 hq hq2
    rw [r1, Option.bind_some]
    obtain ⟨r, h1, _⟩ := loopC_FU (f := bits_Div64_l2 (z : Int) q3 q4 q5 q6) (fun s => 0 ≤ s.2 ∧ s.2 < 4294967296) (fun s => 4294967296 - s.2.toNat) (fun _ => True) (s := (orK .u64 q4 q5 / shrK .u64 q3 32, u64 (orK .u64 q4 q5 - u64 (orK .u64 q4 q5 / shrK .u64 q3 32 * shrK .u64 q3 32)))) ⟨r2, r3⟩ (by show 4294967296 - _ < _; omega) (by
      rintro ⟨x5, x6⟩ rec ⟨h3, h4⟩
      simp only at h3 h4
      unfold bits_Div64_l2
      dsimp only
      split
      · split
        · left; obtain ⟨r, hr⟩ := j3_total (z : Int) (by omega) q3 q4 q5 q6 (u64 (x5 - 1)) hq hq2; exact ⟨r, hr, trivial⟩
        · rename_i hlt
          simp only [decide_eq_true_eq] at hlt
          right
          rw [u64_id (n := x6 + shrK .u64 q3 32) (by omega) (by omega)] at hlt ⊢
          exact ⟨_, rfl, ⟨by simp only []; omega, by simp only []; omega⟩, by simp only []; omega⟩
      · left; obtain ⟨r, hr⟩ := j3_total (z : Int) (by omega) q3 q4 q5 q6 x5 hq hq2; exact ⟨r, hr, trivial⟩)
    exact ⟨r, h1⟩
end Go.PL
