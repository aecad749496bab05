/- The bytes of a fact: fact.Bytes and pensionref12.Bytes answer alike. No program in sight. -/
import Derived.Test.YtndkbfbjjnhgoaaGreatDoorFct
set_option linter.unusedVariables false
namespace Go.PL
open Go

/-- A number in k bytes, the most significant one first. -/
def bigL (n : Int) : Nat → List Int
  | 0 => []
  | k + 1 => IntKind.u8.wrap (shrK .i64 n (8 * k)) :: bigL n k
theorem bigL_len (n : Int) : ∀ k, (bigL n k).length = k
  | 0 => rfl
  | k + 1 => by simp [bigL, bigL_len n k]
theorem big_eq (b : List Int) (n : Int) (k : Nat) (hk : k ≤ 8) (hb : b.length ≤ 1000000) : pensionref12_big b n (k : Int) = some (b ++ bigL n k) := by
  unfold pensionref12_big
  have := loopC_FU (f := pensionref12_big_l n) (fun st => ∃ (q : List Int) (j : Nat), st = (q, (j : Int) - 1) ∧ j ≤ k ∧ q ++ bigL n j = b ++ bigL n k) (fun st => (st.2 + 1).toNat) (fun r => r = b ++ bigL n k)
    (s := (b, i64 ((k : Int) - 1))) ⟨b, k, by rw [i64_id (by omega) (by omega)], Nat.le_refl _, rfl⟩ (by rw [i64_id (by omega) (by omega)]; dsimp only; omega) ?_
  · obtain ⟨r, h1, h2⟩ := this; rw [h1, h2]
  · rintro st rec ⟨q, j, rfl, hj, hq⟩
    unfold pensionref12_big_l
    dsimp only
    cases j with
    | zero =>
      left
      rw [if_neg (by simp)]
      refine ⟨_, rfl, ?_⟩
      simpa [bigL] using hq
    | succ j =>
      right
      have e1 : ((j + 1 : Nat) : Int) - 1 = (j : Int) := by omega
      have hql : q.length ≤ 1000008 := by
        have := congrArg List.length hq
        rw [List.length_append, List.length_append, bigL_len, bigL_len] at this; omega
      rw [e1, if_pos (by simp), i64_id (n := 8 * (j : Int)) (by omega) (by omega), u64_id (by omega) (by omega)]
      unfold shrO
      rw [if_neg (by omega), Option.bind_some, appI_of (by simp; omega), Option.bind_some, i64_id (n := (j : Int) - 1) (by omega) (by omega)]
      refine ⟨_, rfl, ⟨_, j, rfl, by omega, ?_⟩, by dsimp only; omega⟩
      rw [← hq, List.append_assoc]; rfl
theorem app_eq (b : List Int) (k : Nat) (xs : List Int) (hk : k ≤ 8) (hx : xs.length ≤ 1000) (hb : b.length ≤ 100000) : fact_appendNumbers b (k : Int) xs = some (b ++ xs.flatMap fun n => bigL n k) := by
  unfold fact_appendNumbers
  have hfl : ∀ ys : List Int, (ys.flatMap fun n => bigL n k).length = ys.length * k := by
    intro ys
    induction ys with
    | nil => simp
    | cons y ys ih => rw [List.flatMap_cons, List.length_append, ih, bigL_len, List.length_cons, Nat.succ_mul]; omega
  refine loop_list (f := fact_appendNumbers_l (k : Int) xs) xs (fun s i => (s, i)) (fun s i => s = b ++ (xs.take i).flatMap fun n => bigL n k) (fun o => o = some (b ++ xs.flatMap fun n => bigL n k)) (by omega) ?_ ?_ b (by simp)
  · rintro rec s i y hi hy rfl
    right
    refine ⟨_, ?_, rfl⟩
    unfold fact_appendNumbers_l
    dsimp only
    rw [if_pos (by simp; omega), getI_ix hy, Option.bind_some]
    have hlen : (b ++ (xs.take i).flatMap fun n => bigL n k).length ≤ 108000 := by
      rw [List.length_append, hfl, List.length_take]
      have : min i xs.length * k ≤ 1000 * 8 := Nat.mul_le_mul (by omega) hk
      omega
    have htk : (xs.take (i + 1)).flatMap (fun n => bigL n k) = ((xs.take i).flatMap fun n => bigL n k) ++ bigL y k := by rw [take_ix hy, List.flatMap_append]; simp
    rw [htk, ← List.append_assoc]
    generalize (b ++ (xs.take i).flatMap fun n => bigL n k) = c at hlen ⊢
    refine loopC_innerFU (f := fact_appendNumbers_l2 (i : Int) rec y) (fun st => ∃ (q : List Int) (j : Nat), st = (q, (j : Int) - 1) ∧ j ≤ k ∧ q ++ bigL y j = c ++ bigL y k) (fun st => (st.2 + 1).toNat) (fun o => o = rec (c ++ bigL y k, ((i + 1 : Nat) : Int)))
      (s := (c, i64 ((k : Int) - 1))) ⟨c, k, by rw [i64_id (by omega) (by omega)], Nat.le_refl _, rfl⟩ (by rw [i64_id (by omega) (by omega)]; dsimp only; omega) ?_
    rintro st rec2 ⟨q, j, rfl, hj, hq⟩
    unfold fact_appendNumbers_l2
    dsimp only
    cases j with
    | zero =>
      left
      rw [if_neg (by simp), idx_succ (by omega)]
      congr 2
      simpa [bigL] using hq
    | succ j =>
      right
      have e1 : ((j + 1 : Nat) : Int) - 1 = (j : Int) := by omega
      have hql : q.length ≤ 108008 := by
        have := congrArg List.length hq
        rw [List.length_append, List.length_append, bigL_len, bigL_len] at this; omega
      rw [e1, if_pos (by simp), i64_id (n := 8 * (j : Int)) (by omega) (by omega)]
      unfold shrO
      rw [if_neg (by omega), Option.bind_some, appI_of (by simp; omega), Option.bind_some, i64_id (n := (j : Int) - 1) (by omega) (by omega)]
      refine ⟨_, rfl, ⟨_, j, rfl, by omega, ?_⟩, by dsimp only; omega⟩
      rw [← hq, List.append_assoc]; rfl
  · rintro rec s rfl
    unfold fact_appendNumbers_l
    dsimp only
    rw [if_neg (by simp), List.take_length]

/-- What a letter of a kind's uses puts into the bytes. -/
def letB (d : api_Fact) (c : Int) : List Int :=
  if c = 83 then bigL d.State 1 else if c = 80 then bigL d.Span.From 3 ++ bigL d.Span.To 3 else if c = 84 then bigL d.Seat 1 else if c = 72 then bigL d.Share 1 else if c = 67 then bigL d.Currency 2 else if c = 65 then bigL d.Amount 4 else if c = 82 then bigL d.Ref 1 else []
theorem letB_len (d : api_Fact) (c : Int) : (letB d c).length ≤ 6 := by
  unfold letB
  repeat' split
  all_goals simp [bigL_len]
def LetOK (s : ByteArray) : Prop := s.size ≤ 10 ∧ ∀ i : Nat, i < s.size → strI s (i : Int) = some ((s.get! i).toNat : Int) ∧ (s.get! i).toNat < 128
def letS (s : ByteArray) (i : Nat) : List Int := (List.range i).map fun j => ((s.get! j).toNat : Int)
theorem letS_succ (s : ByteArray) (i : Nat) : letS s (i + 1) = letS s i ++ [((s.get! i).toNat : Int)] := by unfold letS; rw [List.range_succ, List.map_append]; rfl
theorem flat_len (d : api_Fact) : ∀ l : List Int, (l.flatMap (letB d)).length ≤ 6 * l.length
  | [] => by simp
  | c :: l => by
    have := flat_len d l
    have h := letB_len d c
    rw [List.flatMap_cons, List.length_append, List.length_cons]; omega
theorem app1 (b : List Int) (k : Nat) (x : Int) (hk : k ≤ 8) (hb : b.length ≤ 100000) : fact_appendNumbers b (k : Int) [x] = some (b ++ bigL x k) := by
  rw [app_eq b k [x] hk (by simp) hb]; simp
set_option maxHeartbeats 1000000 in
theorem lets_prog (d : api_Fact) (s : ByteArray) (hs : LetOK s) (b : List Int) (hb : b.length ≤ 1000) : loopC FU (fact_Bytes_l d s) (b, 0) = some (b ++ (letS s s.size).flatMap (letB d)) := by
  have := loopC_FU (f := fact_Bytes_l d s) (fun st => ∃ i : Nat, st = (b ++ (letS s i).flatMap (letB d), (i : Int)) ∧ i ≤ s.size) (fun st => s.size - st.2.toNat) (fun r => r = b ++ (letS s s.size).flatMap (letB d))
    (s := (b, 0)) ⟨0, by simp [letS], Nat.zero_le _⟩ (by dsimp only; have := hs.1; omega) ?_
  · obtain ⟨r, h1, h2⟩ := this; rw [h1, h2]
  · rintro st rec ⟨i, rfl, hi⟩
    have hlen : (b ++ (letS s i).flatMap (letB d)).length ≤ 2000 := by
      have := flat_len d (letS s i)
      have hl : (letS s i).length = i := by simp [letS]
      have := hs.1
      rw [List.length_append]; omega
    unfold fact_Bytes_l
    dsimp only
    by_cases h : i < s.size
    · right
      obtain ⟨_, h2⟩ := hs.2 i h
      have hn : nextI s (i : Int) = some ((s.get! i).toNat : Int) := by unfold nextI; rw [if_pos (by omega), Int.toNat_natCast, if_pos h2]
      have hp : nextP s (i : Int) = ((i + 1 : Nat) : Int) := by unfold nextP; rw [if_pos (by omega)]; simp
      rw [hn, Option.bind_some, if_pos (by simpa using h), hp]
      refine ⟨(b ++ (letS s (i + 1)).flatMap (letB d), ((i + 1 : Nat) : Int)), ?_, ⟨i + 1, rfl, h⟩, by simp only [Int.toNat_natCast]; omega⟩
      rw [letS_succ, List.flatMap_append, ← List.append_assoc]
      generalize b ++ (letS s i).flatMap (letB d) = q at hlen ⊢
      generalize ((s.get! i).toNat : Int) = c
      simp only [List.flatMap_cons, List.flatMap_nil, List.append_nil]
      have a1 : ∀ x, fact_appendNumbers q 1 [x] = some (q ++ bigL x 1) := fun x => app1 q 1 x (by omega) (by omega)
      have a2 : ∀ x, fact_appendNumbers q 2 [x] = some (q ++ bigL x 2) := fun x => app1 q 2 x (by omega) (by omega)
      have a4 : ∀ x, fact_appendNumbers q 4 [x] = some (q ++ bigL x 4) := fun x => app1 q 4 x (by omega) (by omega)
      have a3 : ∀ x y, fact_appendNumbers q 3 [x, y] = some (q ++ (bigL x 3 ++ bigL y 3)) := fun x y => by
        have := app_eq q 3 [x, y] (by omega) (by simp) (by omega)
        simpa using this
      unfold letB
      simp only [a1, a2, a3, a4, Option.bind_some, beq_iff_eq]
      repeat' split
      all_goals first | rfl | simp
    · left
      have : i = s.size := by omega
      subst this
      have hn : nextI s (s.size : Int) = some 0 := by unfold nextI; rw [if_neg (by omega)]
      rw [hn, Option.bind_some, if_neg (by simp)]
      exact ⟨_, rfl, rfl⟩
set_option maxHeartbeats 1000000 in
theorem lets_ref (d : api_Fact) (s : ByteArray) (hs : LetOK s) (b : List Int) (hb : b.length ≤ 1000) : loopC FU (pensionref12_Bytes_l d s) (b, 0) = some (b ++ (letS s s.size).flatMap (letB d)) := by
  have := loopC_FU (f := pensionref12_Bytes_l d s) (fun st => ∃ i : Nat, st = (b ++ (letS s i).flatMap (letB d), (i : Int)) ∧ i ≤ s.size) (fun st => s.size - st.2.toNat) (fun r => r = b ++ (letS s s.size).flatMap (letB d))
    (s := (b, 0)) ⟨0, by simp [letS], Nat.zero_le _⟩ (by dsimp only; have := hs.1; omega) ?_
  · obtain ⟨r, h1, h2⟩ := this; rw [h1, h2]
  · rintro st rec ⟨i, rfl, hi⟩
    have hs1 := hs.1
    have hlen : (b ++ (letS s i).flatMap (letB d)).length ≤ 2000 := by
      have := flat_len d (letS s i)
      have hl : (letS s i).length = i := by simp [letS]
      rw [List.length_append]; omega
    unfold pensionref12_Bytes_l pensionref12_Bytes_j2
    dsimp only
    by_cases h : i < s.size
    · right
      obtain ⟨h1, _⟩ := hs.2 i h
      rw [if_pos (by simpa using h), h1, Option.bind_some, idx_succ (by omega)]
      refine ⟨(b ++ (letS s (i + 1)).flatMap (letB d), ((i + 1 : Nat) : Int)), ?_, ⟨i + 1, rfl, h⟩, by simp only [Int.toNat_natCast]; omega⟩
      rw [letS_succ, List.flatMap_append, ← List.append_assoc]
      generalize b ++ (letS s i).flatMap (letB d) = q at hlen ⊢
      generalize ((s.get! i).toNat : Int) = c
      simp only [List.flatMap_cons, List.flatMap_nil, List.append_nil]
      have a1 : ∀ x, pensionref12_big q x 1 = some (q ++ bigL x 1) := fun x => big_eq q x 1 (by omega) (by omega)
      have a2 : ∀ x, pensionref12_big q x 2 = some (q ++ bigL x 2) := fun x => big_eq q x 2 (by omega) (by omega)
      have a4 : ∀ x, pensionref12_big q x 4 = some (q ++ bigL x 4) := fun x => big_eq q x 4 (by omega) (by omega)
      have a3 : ∀ x, pensionref12_big q x 3 = some (q ++ bigL x 3) := fun x => big_eq q x 3 (by omega) (by omega)
      have b3 : ∀ x y, pensionref12_big (q ++ bigL x 3) y 3 = some (q ++ (bigL x 3 ++ bigL y 3)) := fun x y => by
        rw [← List.append_assoc]; exact big_eq _ y 3 (by omega) (by rw [List.length_append, bigL_len]; omega)
      unfold letB
      simp only [a1, a2, a3, a4, b3, Option.bind_some, beq_iff_eq]
      repeat' split
      all_goals first | rfl | simp
    · left
      have : i = s.size := by omega
      subst this
      rw [if_neg (by simp)]
      exact ⟨_, rfl, rfl⟩
theorem let2 : LetOK str2 := ⟨by decide, by decide⟩
theorem let3 : LetOK str3 := ⟨by decide, by decide⟩
theorem let4 : LetOK str4 := ⟨by decide, by decide⟩
theorem let5 : LetOK str5 := ⟨by decide, by decide⟩
theorem let6 : LetOK str6 := ⟨by decide, by decide⟩
theorem let7 : LetOK str7 := ⟨by decide, by decide⟩
theorem let8 : LetOK str8 := ⟨by decide, by decide⟩
theorem let9 : LetOK str9 := ⟨by decide, by decide⟩
theorem uses_let {k : Int} (h0 : 1 ≤ k) (h1 : k ≤ 14) : ∃ s, fact_Uses k = some s ∧ pensionref12_Uses k = some s ∧ LetOK s := by
  have : k = 1 ∨ k = 2 ∨ k = 3 ∨ k = 4 ∨ k = 5 ∨ k = 6 ∨ k = 7 ∨ k = 8 ∨ k = 9 ∨ k = 10 ∨ k = 11 ∨ k = 12 ∨ k = 13 ∨ k = 14 := by omega
  rcases this with rfl | rfl | rfl | rfl | rfl | rfl | rfl | rfl | rfl | rfl | rfl | rfl | rfl | rfl
  exact ⟨str2, by kernel_rfl, by kernel_rfl, let2⟩
  exact ⟨str3, by kernel_rfl, by kernel_rfl, let3⟩
  exact ⟨str3, by kernel_rfl, by kernel_rfl, let3⟩
  exact ⟨str4, by kernel_rfl, by kernel_rfl, let4⟩
  exact ⟨str5, by kernel_rfl, by kernel_rfl, let5⟩
  exact ⟨str6, by kernel_rfl, by kernel_rfl, let6⟩
  exact ⟨str5, by kernel_rfl, by kernel_rfl, let5⟩
  exact ⟨str5, by kernel_rfl, by kernel_rfl, let5⟩
  exact ⟨str5, by kernel_rfl, by kernel_rfl, let5⟩
  exact ⟨str7, by kernel_rfl, by kernel_rfl, let7⟩
  exact ⟨str8, by kernel_rfl, by kernel_rfl, let8⟩
  exact ⟨str8, by kernel_rfl, by kernel_rfl, let8⟩
  exact ⟨str8, by kernel_rfl, by kernel_rfl, let8⟩
  exact ⟨str9, by kernel_rfl, by kernel_rfl, let9⟩
theorem vld_kind {d : api_Fact} (h : vld d = true) : 1 ≤ d.Kind ∧ d.Kind ≤ 14 := by
  by_cases hk : 1 ≤ d.Kind ∧ d.Kind ≤ 14
  · exact hk
  · exfalso
    have h2 := (uses_out (k := d.Kind) (by omega)).2
    have hv := ref_valid d
    rw [h] at hv
    unfold pensionref12_Valid at hv
    simp [h2] at hv
def tailB (d : api_Fact) : List Int := [if d.Withdrawn = true then (1 : Int) else 0, d.Person, d.Kind].flatMap (fun n => bigL n 1) ++ ((letS ((fact_Uses d.Kind).getD str1) ((fact_Uses d.Kind).getD str1).size).flatMap (letB d))
def bytesF (d : api_Fact) : List Int := bigL d.Issuer 1 ++ (bigL d.Number 2 ++ (bigL d.Version 1 ++ tailB d))
theorem fact_valid_eq (d : api_Fact) : fact_Valid d = some (vld d) := by
  obtain ⟨b, h1, h2, _⟩ := valid_agree d
  unfold vld; rw [h1, h2]; rfl
theorem Bytes_prog (d : api_Fact) (h : vld d = true) : fact_Bytes d = some (bytesF d) := by
  obtain ⟨k0, k1⟩ := vld_kind h
  obtain ⟨s, e1, _, hs⟩ := uses_let k0 k1
  have key : ∀ x : Int, fact_Bytes_j d x = some (bigL d.Issuer 1 ++ (bigL d.Number 2 ++ (bigL d.Version 1 ++ ([x, d.Person, d.Kind].flatMap (fun n => bigL n 1) ++ (letS s s.size).flatMap (letB d))))) := by
    intro x
    unfold fact_Bytes_j
    have a1 := app1 [] 1 d.Issuer (by omega) (by simp)
    have a2 := app1 ([] ++ bigL d.Issuer 1) 2 d.Number (by omega) (by simp [bigL_len])
    have a3 := app_eq ([] ++ bigL d.Issuer 1 ++ bigL d.Number 2) 1 [d.Version, x, d.Person, d.Kind] (by omega) (by simp) (by simp [bigL_len])
    have c1 : ((1 : Nat) : Int) = 1 := rfl
    have c2 : ((2 : Nat) : Int) = 2 := rfl
    rw [c1] at a1 a3; rw [c2] at a2
    rw [a1, Option.bind_some, a2, Option.bind_some, a3, Option.bind_some, e1, Option.bind_some, lets_prog d s hs _ (by simp [bigL_len])]
    simp
  unfold fact_Bytes bytesF tailB
  rw [fact_valid_eq, h, Option.bind_some, if_neg (by simp), e1]
  cases hw : d.Withdrawn
  · rw [if_neg (by simp), key]; simp
  · rw [if_pos rfl, key]; simp
theorem Bytes_ref (d : api_Fact) (h : vld d = true) : pensionref12_Bytes d = some (bytesF d) := by
  obtain ⟨k0, k1⟩ := vld_kind h
  obtain ⟨s, e1, e2, hs⟩ := uses_let k0 k1
  have key : ∀ x : Int, pensionref12_Bytes_j d x = some (bigL d.Issuer 1 ++ (bigL d.Number 2 ++ (bigL d.Version 1 ++ ([x, d.Person, d.Kind].flatMap (fun n => bigL n 1) ++ (letS s s.size).flatMap (letB d))))) := by
    intro x
    unfold pensionref12_Bytes_j
    have B : ∀ (b : List Int) (n : Int) (k : Nat), k ≤ 8 → b.length ≤ 1000000 → pensionref12_big b n (k : Int) = some (b ++ bigL n k) := fun b n k h1 h2 => big_eq b n k h1 h2
    have a1 := B [] d.Issuer 1 (by omega) (by simp)
    have a2 := B ([] ++ bigL d.Issuer 1) d.Number 2 (by omega) (by simp [bigL_len])
    have a3 := B ([] ++ bigL d.Issuer 1 ++ bigL d.Number 2) d.Version 1 (by omega) (by simp [bigL_len])
    have a4 := B ([] ++ bigL d.Issuer 1 ++ bigL d.Number 2 ++ bigL d.Version 1) x 1 (by omega) (by simp [bigL_len])
    have a5 := B ([] ++ bigL d.Issuer 1 ++ bigL d.Number 2 ++ bigL d.Version 1 ++ bigL x 1) d.Person 1 (by omega) (by simp [bigL_len])
    have a6 := B ([] ++ bigL d.Issuer 1 ++ bigL d.Number 2 ++ bigL d.Version 1 ++ bigL x 1 ++ bigL d.Person 1) d.Kind 1 (by omega) (by simp [bigL_len])
    have c1 : ((1 : Nat) : Int) = 1 := rfl
    have c2 : ((2 : Nat) : Int) = 2 := rfl
    rw [c1] at a1 a3 a4 a5 a6; rw [c2] at a2
    rw [a1, Option.bind_some, a2, Option.bind_some, a3, Option.bind_some, a4, Option.bind_some, a5, Option.bind_some, a6, Option.bind_some, e2, Option.bind_some, lets_ref d s hs _ (by simp [bigL_len])]
    simp
  unfold pensionref12_Bytes bytesF tailB
  rw [ref_valid, h, Option.bind_some, if_neg (by simp), e1]
  cases hw : d.Withdrawn
  · rw [if_neg (by simp), key]; simp
  · rw [if_pos rfl, key]; simp
end Go.PL
