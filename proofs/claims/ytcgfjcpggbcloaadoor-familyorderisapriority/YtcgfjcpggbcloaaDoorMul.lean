/- Products of two words, exactly. Plain Lean. -/
import Derived.Test.YtcgfjcpggbcloaaDoorF
import Derived.Test.YtcgfjcpggbcloaaDoorPure
set_option linter.unusedSimpArgs false
set_option linter.unusedVariables false
namespace Go.PL
open Go

theorem shr32 {x : Int} (h0 : 0 ≤ x) : shrK .u64 x 32 = x / 4294967296 := by
  unfold shrK
  have : (2 : Int) ^ (min (Int.toNat 32) IntKind.u64.bits) = 4294967296 := by decide
  rw [this, Int.fdiv_eq_ediv_of_nonneg _ (by decide)]
theorem and32 {x : Int} (h0 : 0 ≤ x) (h1 : x < 18446744073709551616) : andK .u64 x 4294967295 = x % 4294967296 := by
  unfold andK
  have e1 : (BitVec.ofInt IntKind.u64.bits x &&& BitVec.ofInt IntKind.u64.bits 4294967295).toNat = x.toNat % 4294967296 := by
    rw [BitVec.toNat_and, BitVec.toNat_ofInt, BitVec.toNat_ofInt]
    show (x % 18446744073709551616).toNat &&& (4294967295 % 18446744073709551616 : Int).toNat = _
    rw [Int.emod_eq_of_lt h0 h1]
    exact Nat.and_two_pow_sub_one_eq_mod x.toNat 32
  rw [e1]
  show u64 _ = _
  rw [u64_id (by omega) (by omega)]
  omega
theorem Mul64_eq {x y : Int} (hx0 : 0 ≤ x) (hx1 : x < 18446744073709551616) (hy0 : 0 ≤ y) (hy1 : y < 18446744073709551616) :
    bits_Mul64 x y = some (x * y / 18446744073709551616, x * y % 18446744073709551616) := by
  unfold bits_Mul64
  rw [shr32 hx0, shr32 hy0, and32 hx0 hx1, and32 hy0 hy1]
  obtain ⟨x1, x0, hxe, hx2, hx3, hx4, hx5⟩ : ∃ x1 x0 : Int, x = x1 * 4294967296 + x0 ∧ 0 ≤ x1 ∧ x1 ≤ 4294967295 ∧ 0 ≤ x0 ∧ x0 ≤ 4294967295 := ⟨x / 4294967296, x % 4294967296, by omega, by omega, by omega, by omega, by omega⟩
  obtain ⟨y1, y0, hye, hy2, hy3, hy4, hy5⟩ : ∃ y1 y0 : Int, y = y1 * 4294967296 + y0 ∧ 0 ≤ y1 ∧ y1 ≤ 4294967295 ∧ 0 ≤ y0 ∧ y0 ≤ 4294967295 := ⟨y / 4294967296, y % 4294967296, by omega, by omega, by omega, by omega, by omega⟩
  have ex1 : x / 4294967296 = x1 := by omega
  have ex0 : x % 4294967296 = x0 := by omega
  have ey1 : y / 4294967296 = y1 := by omega
  have ey0 : y % 4294967296 = y0 := by omega
  rw [ex1, ex0, ey1, ey0]
  have bound : ∀ p q : Int, 0 ≤ p → p ≤ 4294967295 → 0 ≤ q → q ≤ 4294967295 → 0 ≤ p * q ∧ p * q ≤ 18446744065119617025 := by
    intro p q h1 h2 h3 h4
    refine ⟨Int.mul_nonneg h1 h3, ?_⟩
    exact Int.le_trans (Int.mul_le_mul h2 h4 h3 (by decide)) (by decide)
  have hxy : x * y = x1 * y1 * 18446744073709551616 + (x1 * y0 + x0 * y1) * 4294967296 + x0 * y0 := by
    rw [hxe, hye, Int.add_mul, Int.mul_add, Int.mul_add]
    have e1 : x1 * 4294967296 * (y1 * 4294967296) = x1 * y1 * 18446744073709551616 := by
      rw [Int.mul_assoc, Int.mul_left_comm 4294967296 y1, ← Int.mul_assoc]; rfl
    have e2 : x1 * 4294967296 * y0 = x1 * y0 * 4294967296 := by rw [Int.mul_assoc, Int.mul_comm 4294967296 y0, ← Int.mul_assoc]
    have e3 : x0 * (y1 * 4294967296) = x0 * y1 * 4294967296 := by rw [← Int.mul_assoc]
    rw [e1, e2, e3]; omega
  have b1 := bound x0 y0 hx4 hx5 hy4 hy5
  have b2 := bound x1 y0 hx2 hx3 hy4 hy5
  have b3 := bound x0 y1 hx4 hx5 hy2 hy3
  have b4 := bound x1 y1 hx2 hx3 hy2 hy3
  rw [hxy]
  generalize x0 * y0 = a at *
  generalize x1 * y0 = b at *
  generalize x0 * y1 = c at *
  generalize x1 * y1 = d at *
  rw [u64_id (n := a) (by omega) (by omega), shr32 b1.1, u64_id (n := b) (by omega) (by omega)]
  rw [u64_id (n := b + a / 4294967296) (by omega) (by omega), shr32 (by omega), and32 (by omega) (by omega), u64_id (n := c) (by omega) (by omega)]
  rw [u64_id (n := (b + a / 4294967296) % 4294967296 + c) (by omega) (by omega), shr32 (by omega), u64_id (n := d) (by omega) (by omega)]
  rw [u64_id (n := d + (b + a / 4294967296) / 4294967296) (by omega) (by omega)]
  rw [u64_id (n := d + (b + a / 4294967296) / 4294967296 + ((b + a / 4294967296) % 4294967296 + c) / 4294967296) (by omega) (by omega), u64_eq]
  congr 1
  refine Prod.ext ?_ rfl
  show d + (b + a / 4294967296) / 4294967296 + ((b + a / 4294967296) % 4294967296 + c) / 4294967296 = _
  omega
/-- Two products compared by their two words. -/
theorem cmp_words {p q : Int} : ((decide (p / 18446744073709551616 < q / 18446744073709551616) || (p / 18446744073709551616 == q / 18446744073709551616) && decide (p % 18446744073709551616 < q % 18446744073709551616)) = decide (p < q)) := by
  rw [Bool.eq_iff_iff]
  simp only [Bool.or_eq_true, Bool.and_eq_true, decide_eq_true_eq, beq_iff_eq]
  omega

/-- -1, 0 or 1: how two numbers compare. -/
def sgn (p q : Int) : Int := if p < q then -1 else if q < p then 1 else 0
theorem Compare_int (x y : Int) : cmp_Compare_of_int x y = some (sgn x y) := by
  unfold cmp_Compare_of_int cmp_isNaN_of_int sgn
  simp only [bne_self_eq_false, Option.bind_some, Bool.false_eq_true, if_false, decide_eq_true_eq]
  split
  · rfl
  · split <;> rfl
theorem Compare_u64 (x y : Int) : cmp_Compare_of_uint64 x y = some (sgn x y) := by
  unfold cmp_Compare_of_uint64 cmp_isNaN_of_uint64 sgn
  simp only [bne_self_eq_false, Option.bind_some, Bool.false_eq_true, if_false, decide_eq_true_eq]
  split
  · rfl
  · split <;> rfl
/-- The first number that is not 0. -/
def orI : List Int → Int
  | [] => 0
  | x :: r => if x = 0 then orI r else x
theorem Or_eq (l : List Int) (hl : l.length ≤ 1000) : cmp_Or_of_int l = some (orI l) := by
  unfold cmp_Or_of_int
  obtain ⟨r, h1, h2⟩ := loopC_FU (f := cmp_Or_of_int_l l) (fun s => ∃ A B, s = ((A.length : Nat) : Int) ∧ l = A ++ B ∧ orI l = orI B) (fun s => l.length - s.toNat) (fun r => r = orI l) (s := 0) ⟨[], l, rfl, rfl, rfl⟩ (by show l.length - _ < _; omega) (by
    rintro s rec ⟨A, B, rfl, hAB, ho⟩
    unfold cmp_Or_of_int_l
    have hlen : l.length = A.length + B.length := by rw [hAB]; simp
    cases B with
    | nil =>
      left
      rw [if_neg (by simp at hlen ⊢; omega)]
      exact ⟨0, rfl, by rw [ho]; rfl⟩
    | cons x B =>
      rw [List.length_cons] at hlen
      rw [if_pos (by simp; omega)]
      have hg : getI l (A.length : Int) = some x := by rw [hAB, getI_nat]; simp
      rw [hg, Option.bind_some]
      by_cases hx : x = 0
      · right
        rw [if_neg (by simp [hx]), i64_id (by omega) (by omega)]
        refine ⟨_, rfl, ⟨A ++ [x], B, by simp, by rw [hAB]; simp, by rw [ho]; simp [orI, hx]⟩, by omega⟩
      · left
        rw [if_pos (by simpa using hx)]
        exact ⟨x, rfl, by rw [ho]; simp [orI, hx]⟩)
  rw [h1, h2]
/-- Two values compared exactly. -/
theorem compare_eq (a b : family_value) (ha : 0 ≤ a.num ∧ a.num < 18446744073709551616) (ha2 : 0 ≤ a.den ∧ a.den < 18446744073709551616) (hb : 0 ≤ b.num ∧ b.num < 18446744073709551616) (hb2 : 0 ≤ b.den ∧ b.den < 18446744073709551616) :
    family_compare a b = some (sgn (a.num * b.den) (b.num * a.den)) := by
  unfold family_compare
  rw [Mul64_eq ha.1 ha.2 hb2.1 hb2.2, Mul64_eq hb.1 hb.2 ha2.1 ha2.2]
  simp only [Option.bind_some, Compare_u64, Or_eq _ (show ([_, _] : List Int).length ≤ 1000 by simp)]
  congr 1
  generalize a.num * b.den = p
  generalize b.num * a.den = q
  unfold orI orI orI sgn
  split <;> split <;> (try split at *) <;> (try split) <;> (try split) <;> omega
end Go.PL
