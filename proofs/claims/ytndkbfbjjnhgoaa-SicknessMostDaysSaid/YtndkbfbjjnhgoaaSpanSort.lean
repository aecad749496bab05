/- sort.Slice at spans, as spans.Make calls it: the library's own contract. -/
import Derived.Shelf.SlSortFuncK.WholeK
import Derived.Shelf.GgSortFunc.Tiny
import Derived.Test.YtndkbfbjjnhgoaaLay
import Derived.Test.YtndkbfbjjnhgoaaF
set_option linter.unusedVariables false
namespace Go.Proofs
open Go.Shelf Go.RowKit Go.Lib Go.Sort

noncomputable def Try.spT : TypeInfo := (Try.prog.info? 32).get (by kernel_rfl)
noncomputable def Try.spE : TypeInfo := (Try.prog.info? 31).get (by kernel_rfl)
theorem Try.spK (n : Nat) (h2 : 2 ≤ n) : Lib.swapperK n Try.spE 25 = 9 := by
  have a : Try.spE.hasPointers = false := by kernel_rfl
  have b : Try.spE.bytes = 16 := by kernel_rfl
  have c : (n == 0) = false := by simp; omega
  have d : (n == 1) = false := by simp; omega
  simp [Lib.swapperK, a, b, c, d]
set_option maxHeartbeats 2000000 in
/-- The comparison that spans.Make hands over. -/
theorem Try.spLess (blk off c Bs size : Nat) (W : World) (G : Nat → Int) (hs : W.cell? ⟨Bs, 0, none⟩ = some (.slice (some ⟨blk, off, none⟩) size c))
    (hc : ∀ t, t < size → W.cell? ⟨blk, off + t * 2, none⟩ = some (.int .i64 (G t))) (i j : Nat) (hi : i < size) (hj : j < size) (_hsz : size < 4611686018427387904) :
    Calls Try.prog 44 #[.int .i64 i, .int .i64 j, .pointer (some ⟨Bs, 0, none⟩)] W fun e w' => e = .returned (.bool (decide (G i < G j))) ∧ ∃ q, w' = W.drewN q := by
  have ci := hc i hi
  have cj := hc j hj
  go_enter Try.func44, Try.ntmps44
  go_wp2
  go_quiet (fail)
  go_wp2
  go_ret
  exact ⟨rfl, nq, rfl⟩
end Go.Proofs
namespace Go.PL
open Go Go.Proofs Go.Sort
theorem swo_From : SWO (fun x y : Span => decide (x.From < y.From)) := by
  constructor
  · intro x; simp
  · intro x y z; simp only [decide_eq_true_eq]; omega
  · intro x y z; simp only [decide_eq_false_iff_not]; omega
set_option maxHeartbeats 2000000 in
theorem sort_Slice_44_ok {w0 : World} (l : List Span) {v : Value} {B bc : Nat} (hO : Own B 31 2 Span.cells w0 v l) (hb : Mb w0 bc 32 [v]) (hnb : Value.ownBlock v ≠ some bc) {r : List Span} (hF : sort_Slice_44 l = some r) :
    Calls Try.prog 43 #[.iface 32 v, .func (.func 44) #[] #[.pointer (some ⟨bc, 0, none⟩)]] w0 fun e w1 => e = .returned (.tuple #[]) ∧ Ext (fun b => Value.ownBlock v = some b) w0 w1 ∧ Own B 31 2 Span.cells w1 v r := by
  unfold sort_Slice_44 sortSF at hF
  by_cases h1 : l.length ≤ 1
  · rw [if_pos h1] at hF
    obtain rfl := Option.some.inj hF
    obtain ⟨a, cap, hv, _, _⟩ := hO.shape
    have key : ∀ n, l.length = n → Calls Try.prog 43 #[.iface 32 (.slice a n cap), .func (.func 44) #[] #[.pointer (some ⟨bc, 0, none⟩)]] w0 (fun e w' => e = .returned (.tuple #[]) ∧ ∃ os, w' = Go.Sort.grow w0 os) →
        Calls Try.prog 43 #[.iface 32 v, .func (.func 44) #[] #[.pointer (some ⟨bc, 0, none⟩)]] w0 fun e w1 => e = .returned (.tuple #[]) ∧ Ext (fun b => Value.ownBlock v = some b) w0 w1 ∧ Own B 31 2 Span.cells w1 v l := by
      intro n hn h
      rw [hn] at hv
      rw [← hv] at h
      refine Calls.mono h ?_
      rintro e w1 ⟨rfl, os, rfl⟩
      have hE : Ext noG w0 (Go.Sort.grow w0 os) := ⟨rfl, rfl, rfl, by show _ ≤ (w0.heap ++ os).size; simp, fun b hb _ => by show (w0.heap ++ os)[b]? = _; rw [Array.getElem?_append_left hb], Nat.le_refl _⟩
      exact ⟨rfl, hE.of_no, hO.exn hE⟩
    rcases (show l.length = 0 ∨ l.length = 1 by omega) with h0 | h0
    · exact key 0 h0 (Any.sort_Slice_tiny Try.sliceLay 32 31 Try.spT Try.spE (by kernel_rfl) (by kernel_rfl) (by kernel_rfl) (by kernel_rfl) 25 (fun _ => by kernel_rfl) a 0 cap (by omega) 70 (by kernel_rfl) (.func 44) #[] #[.pointer (some ⟨bc, 0, none⟩)] w0)
    · exact key 1 h0 (Any.sort_Slice_tiny Try.sliceLay 32 31 Try.spT Try.spE (by kernel_rfl) (by kernel_rfl) (by kernel_rfl) (by kernel_rfl) 25 (fun _ => by kernel_rfl) a 1 cap (by omega) 71 (by kernel_rfl) (.func 44) #[] #[.pointer (some ⟨bc, 0, none⟩)] w0)
  · rw [if_neg h1] at hF
    split at hF
    case isFalse => cases hF
    rename_i hsz
    obtain rfl := Option.some.inj hF
    obtain ⟨a, cap, hv, hlc, hcm⟩ := hO.shape
    cases a with
    | none =>
      exfalso
      rcases hO with ⟨_, h⟩ | ⟨g, o, c', cur, hv', _⟩
      · rw [h] at h1; simp at h1
      · rw [hv] at hv'; cases hv'
    | some ad =>
      obtain ⟨g, o, hg⟩ : ∃ g o, ad = ⟨g, o, none⟩ := by
        rcases hO with ⟨h, _⟩ | ⟨g, o, c', cur, hv', _⟩
        · rw [hv] at h; cases h
        · rw [hv] at hv'; cases hv'; exact ⟨g, o, rfl⟩
      subst hg
      subst hv
      have hlt : g < w0.heap.size := (hO.lt rfl).2
      have hbg : bc ≠ g := fun e => hnb (by rw [e]; rfl)
      have hcell : w0.cell? ⟨bc, 0, none⟩ = some (.slice (some ⟨g, o, none⟩) l.toArray.size cap) := hb.ca 0 _ rfl
      have hH := own_holds (n := 2) (cells := Span.cells) (fun _ => rfl) hO
      have h2 : 2 ≤ l.toArray.size := by rw [List.size_toArray]; omega
      have hsz' : l.toArray.size < 4611686018427387904 := by rw [List.size_toArray]; exact hsz
      have hless : LessReadsK Try.prog 44 #[.pointer (some ⟨bc, 0, none⟩)] Span.cells 2 (fun x y : Span => decide (x.From < y.From)) g o l.toArray.size w0 := by
        intro m os dk hs i j hi hj
        have e : sortWorldK Span.cells 2 w0 g o m dk os = putRowK Span.cells 2 (grow (Go.Sort.ahead w0 m) os) g o dk := by
          unfold sortWorldK; rw [putRowK_grow _ _ (Go.Sort.ahead w0 m) _ g o _ hlt]
        have hHg : HoldsK Span.cells 2 (grow (Go.Sort.ahead w0 m) os) g o l.toArray := holdsK_grow _ _ _ _ g o _ hlt (holdsK_ahead _ _ _ _ _ _ _ hH)
        refine Try.spLess g o cap bc l.toArray.size _ (fun t => dk[t]!.From) ?_ (fun t ht => ?_) i j hi hj (by omega)
        · rw [e, cell?_putRowK_other _ _ _ g o dk _ (by exact hbg), cell?_grow _ _ _ (by exact hb.lt)]; exact hcell
        · rw [e]; exact ((holdsK_putRowK _ _ _ g o l.toArray dk hHg hs).cell (i := t) (c := 0) (by omega) (by omega)).1
      have hS := Any.sort_Slice_cells_eq Try.sliceLay 32 31 Try.spT Try.spE (by kernel_rfl) (by kernel_rfl) (by kernel_rfl) (by kernel_rfl) 25 (fun _ => by kernel_rfl) Span.cells 2 (fun _ => rfl) (by kernel_rfl) (fun _ => by kernel_rfl)
        (fun x u hu => by simp [Span.cells] at hu; rcases hu with rfl | rfl <;> rfl) (fun x y : Span => decide (x.From < y.From)) swo_From 44 _
        (enters_of Try.func44 (by kernel_rfl) rfl) g o cap l.toArray h2 hsz' 78 (by rw [Try.spK _ h2]; kernel_rfl) false
        (fun args W => run_callFunc_extern Try.func78 (by kernel_rfl) (by kernel_rfl) (by kernel_rfl) (e := Extern.ReflectliteSwapper.swap false) (by kernel_rfl) args W) w0 hless hH hlt
      have hp := (pdq_sorts (fun x y : Span => decide (x.From < y.From)) swo_From l.toArray 0 l.toArray.size (Lib.bitLen l.toArray.size) true true (Nat.zero_le _) (Nat.le_refl _) (Or.inl rfl)).1.1
      rw [List.size_toArray] at hS hp
      generalize pdq (fun x y : Span => decide (x.From < y.From)) l.toArray 0 l.length (Lib.bitLen l.length) true true = d at hS hp ⊢
      refine Calls.mono hS ?_
      rintro e w1 ⟨rfl, q, os, rfl⟩
      exact ⟨rfl, ext_put rfl, own_put (n := 2) (cells := Span.cells) (fun _ => rfl) hO hp⟩
end Go.PL
