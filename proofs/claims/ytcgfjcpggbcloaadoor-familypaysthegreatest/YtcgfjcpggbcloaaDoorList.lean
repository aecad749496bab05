/- The lists of rights that the statements are about: each is in order. Plain Lean. -/
import Derived.Test.YtcgfjcpggbcloaaDoorPay
set_option linter.unusedSimpArgs false
set_option linter.unusedVariables false
namespace Go.PL
open Go

theorem Amount_eq (n : Int) : ∃ a, pensionplain_Amount n = some a ∧ 0 ≤ a ∧ a ≤ 1000000000000 := by
  have h8 : ∀ n, pensionplain_Mod n 8 = some (n % 8) := fun n => Mod_eq (by decide) (by decide)
  have h1 : ∀ n, pensionplain_Mod n 1000 = some (n % 1000) := fun n => Mod_eq (by decide) (by decide)
  have h2 : ∀ n, pensionplain_Mod n 1000000000001 = some (n % 1000000000001) := fun n => Mod_eq (by decide) (by decide)
  have h3 : ∀ n, pensionplain_Mod n 5000 = some (n % 5000) := fun n => Mod_eq (by decide) (by decide)
  unfold pensionplain_Amount
  simp only [h8, h1, h2, h3, Option.bind_some]
  generalize i64 (Int.tdiv n 8) = q
  split
  · exact ⟨_, rfl, by omega, by omega⟩
  · split
    · refine ⟨_, rfl, ?_⟩
      rw [i64_id (by omega) (by omega)]; omega
    · split
      · exact ⟨_, rfl, by omega, by omega⟩
      · exact ⟨_, rfl, by omega, by omega⟩

/-- Each right is in order, of another state than those ahead, and in one of the currencies 1 to 3. -/
def listOK (l : List Right) : Prop := (∀ x, x < l.length → rgtOK l x) ∧ ∀ y ∈ l, y.Currency ≤ 3
theorem listOK.states {l : List Right} (h : listOK l) : (l.map fun y => y.State.toNat).Nodup := by
  rw [List.nodup_iff_pairwise_ne, List.pairwise_map, List.pairwise_iff_getElem]
  intro i j hi hj hij
  obtain ⟨y, hy, h1, h2⟩ := h.1 j hj
  rw [List.getElem?_eq_getElem hj] at hy
  cases hy
  obtain ⟨z, hz, h3, _⟩ := h.1 i hi
  rw [List.getElem?_eq_getElem hi] at hz
  cases hz
  have := h2 i l[i] hij (List.getElem?_eq_getElem hi)
  have a := h1.1; have b := h3.1
  omega
theorem listOK.ok {l : List Right} (h : listOK l) : rightsOK l := by
  refine ⟨?_, h.1⟩
  have := nodup_length 6 (l.map fun y => y.State.toNat) h.states (fun i hi => by
    obtain ⟨y, hy, rfl⟩ := List.mem_map.1 hi
    obtain ⟨k, hk, rfl⟩ := List.mem_iff_getElem.1 hy
    obtain ⟨z, hz, h3, _⟩ := h.1 k hk
    rw [List.getElem?_eq_getElem hk] at hz
    cases hz
    have := h3.1; omega)
  simpa using this
theorem listOK.nil : listOK [] := ⟨fun _ h => absurd h (Nat.not_lt_zero _), fun _ h => by cases h⟩
theorem rgtOK_append {l : List Right} {r : Right} {x : Nat} (hx : x < l.length) (h : rgtOK l x) : rgtOK (l ++ [r]) x := by
  obtain ⟨y, hy, h1, h2⟩ := h
  refine ⟨y, by rw [List.getElem?_append_left hx]; exact hy, h1, fun k o hk ho => h2 k o hk ?_⟩
  rwa [List.getElem?_append_left (by omega)] at ho
theorem listOK.append {l : List Right} {r : Right} (h : listOK l) (hr : rightOK r) (hc : r.Currency ≤ 3) (hs : ∀ y ∈ l, y.State ≠ r.State) : listOK (l ++ [r]) := by
  refine ⟨fun x hx => ?_, fun y hy => ?_⟩
  · by_cases hxl : x < l.length
    · exact rgtOK_append hxl (h.1 x hxl)
    · have : x = l.length := by simp at hx; omega
      subst this
      refine ⟨r, by simp, hr, fun k o hk ho => ?_⟩
      rw [List.getElem?_append_left hk] at ho
      exact hs o (List.mem_of_getElem? ho)
  · rcases List.mem_append.1 hy with hy | hy
    · exact h.2 y hy
    · rw [List.mem_singleton.1 hy]; exact hc
theorem List_ok (d : List pensionlaw24_Raw) (hd : d.length ≤ 9223372036854775807) : ∃ l, pensionlaw24_List d = some l ∧ listOK l := by
  have h6 : ∀ n, pensionplain_Mod n 6 = some (n % 6) := fun n => Mod_eq (by decide) (by decide)
  have h3 : ∀ n, pensionplain_Mod n 3 = some (n % 3) := fun n => Mod_eq (by decide) (by decide)
  unfold pensionlaw24_List
  refine loopC_FU (fun s => ∃ x : Nat, s.2 = (x : Int) ∧ x ≤ d.length ∧ listOK s.1) (fun s => d.length - s.2.toNat) _ ⟨0, rfl, Nat.zero_le _, listOK.nil⟩ (by show d.length - _ < _; omega) ?_
  rintro ⟨out, i⟩ rec ⟨x, hix, hx, hok⟩
  simp only at hix hok
  subst hix
  unfold pensionlaw24_List_l
  dsimp only
  by_cases h : x < d.length
  · right
    have hgx : getI d (x : Int) = some d[x] := by rw [getI_nat]; exact List.getElem?_eq_getElem h
    generalize d[x] = y at *
    have hc : decide ((x : Int) < (d.length : Int)) = true := by rw [decide_eq_true_eq]; omega
    obtain ⟨a, ha, ha0, ha1⟩ := Amount_eq y.Amount
    simp only [hc, if_true, hgx, h6, h3, ha, Option.bind_some]
    have hlen := hok.ok.1
    obtain ⟨s', h1, h2⟩ := loopC_innerFU (f := pensionlaw24_List_l2 out (x : Int) rec (y.State % 6) (y.Basis % 3) (y.Currency % 3) a)
      (fun s => ∃ k : Nat, s.2 = (k : Int) ∧ k ≤ out.length ∧ (s.1 = false → ∀ j o, j < k → out[j]? = some o → o.State ≠ y.State % 6)) (fun s => out.length - s.2.toNat)
      (fun v => ∃ s' : List Right, v = rec (s', ((x + 1 : Nat) : Int)) ∧ listOK s') (s := (false, 0)) ⟨0, rfl, Nat.zero_le _, fun _ _ _ h => absurd h (Nat.not_lt_zero _)⟩ (by show out.length - _ < _; omega) (by
        rintro ⟨tw, j⟩ rec2 ⟨k, hjk, hk, hno⟩
        simp only at hjk hno
        subst hjk
        unfold pensionlaw24_List_l2 pensionlaw24_List_j
        dsimp only
        by_cases hkl : k < out.length
        · right
          have hgk : getI out (k : Int) = some out[k] := by rw [getI_nat]; exact List.getElem?_eq_getElem hkl
          have hck : decide ((k : Int) < (out.length : Int)) = true := by rw [decide_eq_true_eq]; omega
          simp only [hck, if_true, hgk, Option.bind_some, ite_or]
          rw [i64_id (n := (k : Int) + 1) (by omega) (by omega)]
          refine ⟨(_, _), rfl, ⟨k + 1, by simp, hkl, fun hf j o hj ho => ?_⟩, by simp only []; omega⟩
          simp only [Bool.or_eq_false_iff, beq_eq_false_iff_ne, ne_eq] at hf
          by_cases hjk : j = k
          · subst hjk
            rw [List.getElem?_eq_getElem hkl] at ho
            cases ho; exact hf.2
          · exact hno hf.1 j o (by omega) ho
        · left
          have hck : decide ((k : Int) < (out.length : Int)) = false := by rw [decide_eq_false_iff_not]; omega
          have hk' : k = out.length := by omega
          subst hk'
          simp only [hck, Bool.false_eq_true, if_false]
          rw [i64_id (n := (x : Int) + 1) (by omega) (by omega), i64_id (n := 1 + y.Basis % 3) (by omega) (by omega), i64_id (n := 1 + y.Currency % 3) (by omega) (by omega)]
          cases tw with
          | true => exact ⟨out, by simp, hok⟩
          | false =>
            rw [if_pos (show (!false) = true from rfl), appI_of (by simp only [List.length_cons, List.length_nil]; omega), Option.bind_some]
            refine ⟨out ++ [⟨y.State % 6, 1 + y.Basis % 3, 1 + y.Currency % 3, max 1 a⟩], by simp, hok.append ?_ ?_ ?_⟩
            · refine ⟨⟨?_, ?_⟩, ⟨?_, ?_⟩, ⟨?_, ?_⟩, ⟨?_, ?_⟩⟩ <;> simp only [] <;> omega
            · simp only []; omega
            · intro z hz
              obtain ⟨j, hj, hjz⟩ := List.mem_iff_getElem.1 hz
              exact hno rfl j z hj (by rw [List.getElem?_eq_getElem hj, hjz]))
    exact ⟨(s', ((x + 1 : Nat) : Int)), h1, ⟨x + 1, rfl, h, h2⟩, by simp only [Int.toNat_natCast]; omega⟩
  · left
    have hc : decide ((x : Int) < (d.length : Int)) = false := by rw [decide_eq_false_iff_not]; omega
    simp only [hc, Bool.false_eq_true, if_false]
    exact ⟨out, rfl, hok⟩
end Go.PL
