/- Lists of bytes: their comparison, the string that they make; the order of strings. It holds for every program. -/
import Derived.Lib.BytesEntry
import Derived.Lib.Bytealg
import Derived.Laws.BytesString
import Derived.Test.YtndkbfbjjnhgoaaGreatDoorBase
namespace Go.PL
open Go
def u8R : TyR Int := TyR.flat 1 (fun x => [.int .u8 x]) (fun _ => rfl)
theorem RepSl.bytes {G : Nat → Prop} {w : World} {a : Addr} {n c : Nat} {l : List Int} (h : RepSl u8R G w (.slice (some a) n c) l) : n = l.length ∧ ∀ j x, l[j]? = some x → w.cell? (a.add j) = some (.int .u8 x) := by
  rcases h with ⟨h1, _⟩ | ⟨a', cap, hv, _, _, hi⟩
  · cases h1
  · cases hv
    refine ⟨rfl, fun j x hx => ?_⟩
    obtain ⟨cs, hr, _, _, hca⟩ := hi j x hx
    have hr : cs = [.int .u8 x] := hr
    subst hr
    have := hca 0 _ rfl
    have e : (a.add (j * u8R.n)).add 0 = a.add j := by
      show (a.add (j * 1)).add 0 = a.add j
      rw [Nat.mul_one]; unfold Addr.add; simp
    rw [e] at this
    exact this
def bytesA (l : List Int) : ByteArray := ⟨(Lib.bytesOf l).toArray⟩
theorem run_bytesV {P : Program} {G : Nat → Prop} {w : World} {v : Value} {l : List Int} (h : RepSl u8R G w v l) : (Extern.Bytes.bytesOf v).run P w = .ok (bytesA l) w := by
  have h' := h
  rcases h with ⟨rfl, rfl⟩ | ⟨a, cap, rfl, _⟩
  · rfl
  · obtain ⟨_, hc⟩ := h'.bytes
    have := Lib.run_loadBytesX (P := P) w l a .empty hc
    unfold Extern.Bytes.bytesOf
    rw [this]
    congr 1
    apply ByteArray.ext
    simp [bytesA]
def cmpB (a b : List Int) : Int := Lib.compareBytes (Lib.bytesOf a) (Lib.bytesOf b)
section
variable {P : Program} {η : Operand → Value} {w : World} {d : Option Tmp} {ty : TypeId} {ps : String} {af : Array Edge} {g : Option (Nat × Bool)} {x y : Operand} {t t' : TypeId} {a b c : ByteArray} {q : Bool}
theorem run_compareB {va vb : Value} {la lb : List Int} {G G' : Nat → Prop} (ha : RepSl u8R G w va la) (hb : RepSl u8R G' w vb lb) : (Extern.BytealgCompare.compare #[va, vb]).run P w = .ok (.int .i64 (cmpB la lb)) w := by
  change Sem.run P (do pure (goInt (Extern.BytealgCompare.cmp (← Extern.Bytes.bytesOf va) (← Extern.Bytes.bytesOf vb)))) w = _
  simp only [Sem.run_bind, Sem.run_pure, run_bytesV ha, run_bytesV hb, Result.andThen]
  rw [Lib.cmp_eq]; rfl
/-- bytealg.Compare, which the machine has of itself. -/
theorem o_compareB {ρ : Nat → Value} {f : FuncId} {fn : Func} {xs : Array Operand} {tys : Array TypeId} {va vb : Value} {la lb : List Int} {G G' : Nat → Prop} (hf : P.funcs[f]? = some fn) (h1 : (fn.name == "runtime.NumGoroutine") = false) (h2 : fn.body.isNone = true) (h3 : Extern.findNext fn = none) (h4 : Extern.find fn = some Extern.BytealgCompare.compare)
    (hargs : xs.map (ev ρ) = #[va, vb]) (ha : RepSl u8R G w va la) (hb : RepSl u8R G' w vb lb) : YV P (ev ρ) w ⟨d, .call ⟨.value (.func f), xs, tys⟩, ty, ps, af, g⟩ (.int .i64 (cmpB la lb)) := by
  have hc : (callFunc f #[va, vb]).run P w = .ok (.value (.int .i64 (cmpB la lb))) w := by
    rw [run_callFunc_extern hf h1 h2 h3 h4, run_compareB ha hb]; rfl
  simp [YV, execOp, resolve, ev, Deferred.ofValue, invoke, hargs, hc]
theorem run_bts {v : Value} {l : List Int} {G : Nat → Prop} (h : RepSl u8R G w v l) : (Conv.bytesToString v).run P w = .ok (.string (bytesA l)) w := by
  have h' := h
  rcases h with ⟨rfl, rfl⟩ | ⟨a, cap, rfl, _⟩
  · rfl
  · obtain ⟨_, hc⟩ := h'.bytes
    have hl : (loadCells a l.length).run P w = .ok (l.map (Value.int .u8)).toArray w := by
      have hca : CA w a (l.map (Value.int .u8)) := by
        intro j v hj
        rw [List.getElem?_map] at hj
        obtain ⟨x, hx, rfl⟩ := Option.map_eq_some_iff.1 hj
        exact hc j x hx
      have := run_loadCellsFrom (P := P) l.length 0 #[] (l.map (Value.int .u8)) (by simp) (fun j v hj => by rw [Nat.zero_add]; exact hca j v hj)
      simpa [loadCells] using this
    rw [run_bytesToString w a l.length cap l hl]
    congr 2
    have key : ∀ (l : List Int) (s : ByteArray), l.foldl (fun r n => r.push (UInt8.ofNat n.toNat)) s = ⟨s.data ++ (Lib.bytesOf l).toArray⟩ := by
      intro l
      induction l with
      | nil => intro s; apply ByteArray.ext; simp [Lib.bytesOf]
      | cons n l ih => intro s; rw [List.foldl_cons, ih]; apply ByteArray.ext; simp [Lib.bytesOf, ByteArray.push]
    rw [key]
    apply ByteArray.ext
    simp [bytesA]
/-- string of bytes. -/
theorem o_bts {S T : TypeId} {v : Value} {l : List Int} {G : Nat → Prop} (hx : η x = v) (hcv : ∀ (a : Option Addr) (n c : Nat) (w : World), (convert S T (.slice a n c)).run P w = (Conv.bytesToString (.slice a n c)).run P w) (h : RepSl u8R G w v l) : YV P η w ⟨d, .convert S T x, ty, ps, af, g⟩ (.string (bytesA l)) := by
  obtain ⟨a, c, hv, _, _⟩ := h.shape
  have hr := run_bts (P := P) h
  rw [hv] at hr hx
  simp [YV, execOp, hx, hcv, hr, Result.andThen]
theorem o_lssT (hx : η x = .string a) (hy : η y = .string b) (h : Op.bytesLess a.toList b.toList = q) : YV P η w ⟨d, .binOp .lss t x y t', ty, ps, af, g⟩ (.bool q) := by
  subst h; simp [YV, execOp, hx, hy, eqGuard, binOp, Op.stringOp]
end
/-! ### a loop over the letters of a string -/
/-- The iterator of a string lies in a block. -/
def It (w : World) (b : Nat) (s : ByteArray) (p : Int) : Prop := 0 ≤ p ∧ w.heap[b]? = some (.stringIter s p.toNat)
theorem It.lt {w : World} {b : Nat} {s : ByteArray} {p : Int} (h : It w b s p) : b < w.heap.size := (Array.getElem?_eq_some_iff.1 h.2).1
theorem It.ext {G : Nat → Prop} {w w' : World} {b : Nat} {s : ByteArray} {p : Int} (h : It w b s p) (hE : Ext G w w') (hg : ¬ G b) : It w' b s p := ⟨h.1, (hE.block b h.lt hg).trans h.2⟩
theorem It.exn {w w' : World} {b : Nat} {s : ByteArray} {p : Int} (h : It w b s p) (hE : Ext noG w w') : It w' b s p := h.ext hE (fun hh => hh)
/-- The letter at a place, where it is one of ASCII (no other is followed here). -/
def nextI (s : ByteArray) (p : Int) : Option Int := if p < (s.size : Int) then (if (s.get! p.toNat).toNat < 128 then some ((s.get! p.toNat).toNat : Int) else none) else some 0
def nextP (s : ByteArray) (p : Int) : Int := if p < (s.size : Int) then p + 1 else p
def nxV (b : Bool) (p c : Int) : Value := if b = true then .tuple #[.bool true, .int .i64 p, .int .i32 c] else .tuple #[.bool false]
section
variable {P : Program} {ρ : Nat → Value} {w : World} {G : Nat → Prop} {F : List Fact} {p : Plan} {i : Nat} {η : Operand → Value} {d : Option Tmp} {ty : TypeId} {ps : String} {af : Array Edge} {g : Option (Nat × Bool)} {x : Operand}
theorem o_nx0 {b : Bool} {q c : Int} (hx : η x = nxV b q c) : YV P η w ⟨d, .extract x 0, ty, ps, af, g⟩ (.bool b) := by
  cases b
  · exact o_extract (show η x = .tuple #[.bool false] from hx) (by kernel_rfl)
  · exact o_extract (show η x = .tuple #[.bool true, .int .i64 q, .int .i32 c] from hx) (by kernel_rfl)
theorem o_nx2 {b : Bool} {q c : Int} (hx : η x = nxV b q c) (hb : b = true) : YV P η w ⟨d, .extract x 2, ty, ps, af, g⟩ (.int .i32 c) := by
  subst hb; exact o_extract (show η x = .tuple #[.bool true, .int .i64 q, .int .i32 c] from hx) (by kernel_rfl)
theorem o_nx1 {b : Bool} {q c : Int} (hx : η x = nxV b q c) (hb : b = true) : YV P η w ⟨d, .extract x 1, ty, ps, af, g⟩ (.int .i64 q) := by
  subst hb; exact o_extract (show η x = .tuple #[.bool true, .int .i64 q, .int .i32 c] from hx) (by kernel_rfl)
theorem run_rangeS {t : TypeId} {s : ByteArray} (hu : P.underlying t = some .string) : (Instr.range t (.string s)).run P w = .ok (.pointer (some ⟨w.heap.size, 0, none⟩)) (w.alloc (.stringIter s 0)) := by
  simp [Instr.range, run_underlying hu, Result.andThen]
theorem run_nextS {b : Nat} {s : ByteArray} {q c : Int} (h : It w b s q) (hc : nextI s q = some c) : ∃ w', (Instr.next (.pointer (some ⟨b, 0, none⟩)) true ty).run P w = .ok (nxV (decide (q < (s.size : Int))) q c) w' ∧ Ext (fun x => x = b) w w' ∧ It w' b s (nextP s q) := by
  obtain ⟨h0, h1⟩ := h
  unfold nextI at hc
  have hget : (getObj b).run P w = .ok (.stringIter s q.toNat) w := by simp [getObj, Sem.run, h1]
  by_cases hp : q < (s.size : Int)
  · rw [if_pos hp] at hc
    split at hc
    case isFalse => cases hc
    rename_i h128
    obtain rfl := Option.some.inj hc
    have hdec : Utf8.decode s q.toNat = ((s.get! q.toNat).toNat, 1) := by
      unfold Utf8.decode
      simp [h128]
    have hset : (setObj b (.stringIter s (q.toNat + 1))).run P w = .ok () ({ w with heap := w.heap.setIfInBounds b (.stringIter s (q.toNat + 1)) }) := by simp [setObj, Sem.run, h1]
    refine ⟨{ w with heap := w.heap.setIfInBounds b (.stringIter s (q.toNat + 1)) }, ?_, ?_, ?_⟩
    · have hlt : q.toNat < s.size := by omega
      have hq : ((q.toNat : Nat) : Int) = q := by omega
      simp [Instr.next, hget, hset, hlt, hdec, Result.andThen, nxV, hp, goInt, hq]
    · refine ⟨rfl, rfl, rfl, ?_, fun b' hb' hg => ?_, Nat.le_refl _⟩
      · simp
      · have : b' ≠ b := fun e => hg e
        simp [Array.getElem?_setIfInBounds, this.symm]
    · have hb : b < w.heap.size := (Array.getElem?_eq_some_iff.1 h1).1
      unfold nextP
      rw [if_pos hp]
      refine ⟨by omega, ?_⟩
      rw [show (q + 1).toNat = q.toNat + 1 by omega]
      simp [Array.getElem?_setIfInBounds, hb]
  · rw [if_neg hp] at hc
    obtain rfl := Option.some.inj hc
    refine ⟨w, ?_, ⟨rfl, rfl, rfl, Nat.le_refl _, fun _ _ _ => rfl, Nat.le_refl _⟩, ?_⟩
    · have hlt : ¬ q.toNat < s.size := by omega
      simp [Instr.next, hget, hlt, Result.andThen, nxV, hp]
    · unfold nextP; rw [if_neg hp]; exact ⟨h0, h1⟩
theorem core_newIt {t : TypeId} {dd : Tmp} {s : ByteArray} {w0 : World} (hd : d = some dd) (hF : F[i]? = some (dd, fun u w' => ∃ b, u = .pointer (some ⟨b, 0, none⟩) ∧ w0.heap.size ≤ b ∧ It w' b s 0))
    (h0 : Ext G w0 w) (hx : ev ρ x = .string s) (hu : P.underlying t = some .string) :
    Yield P ⟨d, .range t x, ty, ps, af, g⟩ (ev ρ) w fun v w' => Ext (if p.mu.contains i then G else noG) w w' ∧ fact F i (putO ρ d v) w' := by
  subst hd
  have hr : (execOp (ev ρ) ⟨some dd, .range t x, ty, ps, af, g⟩).run P w = .ok (.value (.pointer (some ⟨w.heap.size, 0, none⟩))) (w.alloc (.stringIter s 0)) := by
    simp [execOp, hx, run_rangeS hu, Result.andThen]
  unfold Yield
  rw [hr]
  refine ⟨Ext.alloc _ _ _, ?_⟩
  unfold fact
  rw [hF]
  refine ⟨_, upd_same _ _ _, h0.size, Int.le_refl _, ?_⟩
  show (w.heap.push (.stringIter s 0))[w.heap.size]? = _
  simp
theorem core_next {dd : Tmp} {b : Nat} {s : ByteArray} {q c : Int} (hF : F[i]? = some (dd, fun u wz => u = nxV (decide (q < (s.size : Int))) q c ∧ It wz b s (nextP s q))) (hm : p.mu.contains i = true) (hG : ∀ x, x = b → G x)
    (hx : ev ρ x = .pointer (some ⟨b, 0, none⟩)) (hI : It w b s q) (hc : nextI s q = some c) :
    Yield P ⟨some dd, .next x true, ty, ps, af, g⟩ (ev ρ) w fun v w' => Ext (if p.mu.contains i then G else noG) w w' ∧ fact F i (putO ρ (some dd) v) w' := by
  obtain ⟨w', hr, hE, hI'⟩ := run_nextS (P := P) (ty := ty) hI hc
  have hrun : (execOp (ev ρ) ⟨some dd, .next x true, ty, ps, af, g⟩).run P w = .ok (.value (nxV (decide (q < (s.size : Int))) q c)) w' := by
    simp [execOp, hx, hr, Result.andThen]
  unfold Yield
  rw [hrun, hm, if_pos rfl]
  refine ⟨hE.mono hG, ?_⟩
  unfold fact
  rw [hF]
  exact ⟨upd_same _ _ _, hI'⟩
end
end Go.PL
