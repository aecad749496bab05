/- Which of two facts of one identity is the greater: fact.Less and pensionref12.Less answer alike. No program in sight. -/
import Derived.Test.YtndkbfbjjnhgoaaGreatDoorBta
set_option linter.unusedVariables false
namespace Go.PL
open Go

theorem cmp_less : ∀ (x y : List UInt8), (Lib.compareBytes x y < 0) ↔ Op.bytesLess x y = true
  | [], [] => by simp [Lib.compareBytes, Op.bytesLess]
  | [], _ :: _ => by simp [Lib.compareBytes, Op.bytesLess]
  | _ :: _, [] => by simp [Lib.compareBytes, Op.bytesLess]
  | a :: x, b :: y => by
    have ih := cmp_less x y
    unfold Lib.compareBytes Op.bytesLess
    by_cases h1 : a < b
    · simp [h1]
    · by_cases h2 : b < a
      · have h3 : (a == b) = false := by
          rw [beq_eq_false_iff_ne]; rintro rfl; exact h1 h2
        simp [h1, h2, h3]
      · have h3 : a = b := by
          have e1 : ¬ a.toNat < b.toNat := h1
          have e2 : ¬ b.toNat < a.toNat := h2
          exact UInt8.toNat_inj.1 (by omega)
        subst h3
        simp [h1, ih]
theorem less_pre (p x y : List UInt8) : Op.bytesLess (p ++ x) (p ++ y) = Op.bytesLess x y := by
  induction p with
  | nil => rfl
  | cons a p ih =>
    rw [List.cons_append, List.cons_append]
    show (decide (a < a) || (a == a && Op.bytesLess (p ++ x) (p ++ y))) = _
    rw [ih]
    have : ¬ a < a := by
      have : ¬ a.toNat < a.toNat := Nat.lt_irrefl _
      exact this
    simp [this]
theorem bytesOf_app (x y : List Int) : Lib.bytesOf (x ++ y) = Lib.bytesOf x ++ Lib.bytesOf y := by unfold Lib.bytesOf; simp
theorem bytesA_list (l : List Int) : (bytesA l).toList = Lib.bytesOf l := by
  unfold bytesA; rw [Lib.toList_data]
theorem vld_version {d : api_Fact} (h : vld d = true) : (0 ≤ d.Issuer ∧ d.Issuer ≤ 5) ∧ (1 ≤ d.Number ∧ d.Number ≤ 999) ∧ 1 ≤ d.Version ∧ d.Version ≤ 99 ∧ 1 ≤ d.Person ∧ d.Person ≤ 99 := by
  have hv := ref_valid d
  rw [h] at hv
  obtain ⟨s, e1, e2, _⟩ := uses_let (vld_kind h).1 (vld_kind h).2
  unfold pensionref12_Valid at hv
  rw [e2] at hv
  by_cases hb : (((((((decide (d.Issuer < 0) || decide (6 ≤ d.Issuer)) || decide (d.Number < 1)) || decide (999 < d.Number)) || decide (d.Version < 1)) || decide (99 < d.Version)) || decide (d.Person < 1)) || decide (99 < d.Person)) = true
  · rw [if_pos hb, Option.bind_some, if_pos rfl] at hv; cases hv
  · simp at hb; omega
theorem ver_byte {v : Int} (h0 : 1 ≤ v) (h1 : v ≤ 99) : bigL v 1 = [v] := by
  unfold bigL bigL shrK
  have e : IntKind.u8.wrap (v.fdiv (2 ^ (min (8 * 0 : Int).toNat IntKind.i64.bits))) = v := by
    have : (2 ^ (min (8 * 0 : Int).toNat IntKind.i64.bits) : Int) = 1 := by decide
    rw [this, Int.fdiv_one, IntKind.wrap_u8]; omega
  have e0 : ((8 * ((0 : Nat) : Int)) : Int) = (8 * 0 : Int) := by simp
  rw [e0, e]
/-- What decides. -/
def lessB (a b : api_Fact) : Bool := Op.bytesLess (Lib.bytesOf (bytesF a)) (Lib.bytesOf (bytesF b))
theorem Less_prog {a b : api_Fact} (ha : vld a = true) (hb : vld b = true) : fact_Less a b = some (lessB a b) := by
  unfold fact_Less
  rw [fact_valid_eq, fact_valid_eq, ha, hb]
  simp only [Option.bind_some, Bool.not_true, Bool.false_eq_true, if_false]
  rw [Bytes_prog a ha, Bytes_prog b hb]
  simp only [Option.bind_some]
  unfold bytes_Compare cmpB lessB
  simp only [Option.bind_some]
  congr 1
  rw [Bool.eq_iff_iff, decide_eq_true_eq]
  exact cmp_less _ _
theorem Less_ref {a b : api_Fact} (ha : vld a = true) (hb : vld b = true) (h1 : a.Issuer = b.Issuer) (h2 : a.Number = b.Number) : pensionref12_Less a b = some (lessB a b) := by
  have va := (vld_version ha).2.2
  have vb := (vld_version hb).2.2
  unfold pensionref12_Less pensionref12_ID
  rw [ref_valid, ref_valid, ha, hb]
  simp only [Option.bind_some, Bool.not_true, Bool.false_eq_true, if_false]
  rw [if_neg (by simp [h1]), h2, Int.sub_self, Option.bind_some, if_neg (by decide)]
  have hpre : lessB a b = Op.bytesLess (Lib.bytesOf (bigL a.Version 1 ++ tailB a)) (Lib.bytesOf (bigL b.Version 1 ++ tailB b)) := by
    unfold lessB bytesF
    rw [h1, h2, bytesOf_app, bytesOf_app, bytesOf_app (bigL b.Issuer 1), bytesOf_app (bigL b.Number 2), less_pre, less_pre]
  by_cases hv : a.Version = b.Version
  · rw [if_neg (by simp [hv]), Bytes_ref a ha, Option.bind_some, Bytes_ref b hb, Option.bind_some, bytesA_list, bytesA_list]; rfl
  · rw [if_pos (by simpa using hv), hpre, ver_byte va.1 va.2.1, ver_byte vb.1 vb.2.1]
    congr 1
    rw [bytesOf_app, bytesOf_app]
    show _ = Op.bytesLess (a.Version.toNat.toUInt8 :: _) (b.Version.toNat.toUInt8 :: _)
    unfold Op.bytesLess
    have e1 : (a.Version.toNat.toUInt8).toNat = a.Version.toNat := by
      rw [Nat.toUInt8_eq, UInt8.toNat_ofNat']; omega
    have e2 : (b.Version.toNat.toUInt8).toNat = b.Version.toNat := by
      rw [Nat.toUInt8_eq, UInt8.toNat_ofNat']; omega
    have h3 : (a.Version.toNat.toUInt8 == b.Version.toNat.toUInt8) = false := by
      rw [beq_eq_false_iff_ne]
      intro h
      have := congrArg UInt8.toNat h
      omega
    rw [h3]
    have h4 : (a.Version.toNat.toUInt8 < b.Version.toNat.toUInt8) ↔ a.Version < b.Version := by
      rw [UInt8.lt_iff_toNat_lt, e1, e2]; omega
    simp [h4]
end Go.PL
