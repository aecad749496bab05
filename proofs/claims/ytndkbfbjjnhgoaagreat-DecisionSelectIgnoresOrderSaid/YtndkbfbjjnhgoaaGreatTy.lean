/- Facts about the types and functions of this translation, each checked by the kernel (printed by a program). -/
import Derived.Test.YtndkbfbjjnhgoaaGreatF
import Derived.Test.YtndkbfbjjnhgoaaGreatProg
import Derived.Test.YtndkbfbjjnhgoaaGreatCmpC
import Derived.Test.YtndkbfbjjnhgoaaGreatLay
set_option linter.unusedSimpArgs false
set_option linter.unusedVariables false
set_option maxRecDepth 10000
namespace Go.PL
open Go Go.Proofs
theorem mixed : Tryz.prog.follows .mixedOrders = true := by kernel_rfl
theorem len_22 {a : Option Addr} {n c : Nat} {ty : TypeId} {w : World} : (Builtin.len_ #[22] ty #[.slice a n c]).run Tryz.prog w = .ok (.int .i64 n) w := by kernel_rfl
theorem ia_22 {a : Addr} {n c : Nat} {i : Int} {w : World} (h : 0 ≤ i ∧ i < (n : Int)) : (Instr.indexAt 22 (.slice (some a) n c) (.int .i64 i)).run Tryz.prog w = .ok (.pointer (some (a.add (i.toNat * 6)))) w := ia_slice (e := 50) (by kernel_rfl) (by kernel_rfl) h
theorem fa_50_0 (a : Addr) (w : World) : (Instr.fieldAt 50 (.pointer (some a)) 0).run Tryz.prog w = .ok (.pointer (some (a.add 0))) w := by kernel_rfl
theorem lr_3 (a : Addr) (w : World) : (Instr.loadAt 3 (.pointer (some a))).run Tryz.prog w = (load a).run Tryz.prog w := by kernel_rfl
theorem cf_15 (args : Array Value) (w : World) : (callFunc 15 args).run Tryz.prog w = .ok (.enter 15 args) w := by kernel_rfl
theorem fa_50_1 (a : Addr) (w : World) : (Instr.fieldAt 50 (.pointer (some a)) 1).run Tryz.prog w = .ok (.pointer (some (a.add 1))) w := by kernel_rfl
theorem fa_50_2 (a : Addr) (w : World) : (Instr.fieldAt 50 (.pointer (some a)) 2).run Tryz.prog w = .ok (.pointer (some (a.add 2))) w := by kernel_rfl
theorem fa_50_3 (a : Addr) (w : World) : (Instr.fieldAt 50 (.pointer (some a)) 3).run Tryz.prog w = .ok (.pointer (some (a.add 3))) w := by kernel_rfl
theorem fa_50_5 (a : Addr) (w : World) : (Instr.fieldAt 50 (.pointer (some a)) 5).run Tryz.prog w = .ok (.pointer (some (a.add 5))) w := by kernel_rfl
theorem bd_28_0_1_2_3_5 (x0 : Int) (x1 : Int) (x2 : Int) (x3 : Int) (x5 : Int) (w : World) : (Instr.build 28 #[(0, .int .i64 x0), (1, .int .i64 x1), (2, .int .i64 x2), (3, .int .i64 x3), (5, .int .i64 x5)]).run Tryz.prog w = .ok (Claim.val ⟨x0, x1, x2, x3, 0, x5⟩) w := by kernel_rfl
theorem al_28 (w : World) : (Instr.alloc 28 true (.tuple #[])).run Tryz.prog w = .ok (.pointer (some ⟨w.heap.size, 0, none⟩)) (w.alloc (.cells ((Claim.cells (⟨0, 0, 0, 0, 0, 0⟩ : Claim))).toArray 28)) := by kernel_rfl
theorem st_28 (x : Claim) (a : Addr) (w : World) : (Instr.storeAt 28 (.pointer (some a)) (Claim.val x)).run Tryz.prog w = (storeCells a (Claim.cells x)).run Tryz.prog w := by kernel_rfl
theorem one_28 (x : Claim) : ∀ u ∈ (Claim.cells x), u.oneCell' = true := by simp [Value.oneCell', Claim.cells]; try exact rfl
theorem lr_28 (a : Addr) (w : World) : (Instr.loadAt 28 (.pointer (some a))).run Tryz.prog w = ((do pure (.agg (← loadCells a 6))) : Sem Value).run Tryz.prog w := by kernel_rfl
theorem bs_23_1 (x0 : Claim) (w : World) : (Instr.buildSlice 23 1 #[(0, Claim.val x0)]).run Tryz.prog w = .ok (.slice (some ⟨w.heap.size, 0, none⟩) 1 1) (w.alloc (.cells (([x0]).flatMap Claim.cells).toArray 28)) := by kernel_rfl
theorem si_23 : Tryz.prog.underlying 23 = some (.slice 28) := by kernel_rfl
theorem se_28 : (Tryz.prog.info? 28).map (fun i => (i.zero.map (·.cells.size), i.size, i.bytes)) = some (some 6, 6, 48) := by kernel_rfl
theorem sz_28 : (Tryz.prog.info? 28).map (·.size) = some 6 := by kernel_rfl
theorem fa_28_3 (a : Addr) (w : World) : (Instr.fieldAt 28 (.pointer (some a)) 3).run Tryz.prog w = .ok (.pointer (some (a.add 3))) w := by kernel_rfl
theorem fa_50_4 (a : Addr) (w : World) : (Instr.fieldAt 50 (.pointer (some a)) 4).run Tryz.prog w = .ok (.pointer (some (a.add 4))) w := by kernel_rfl
theorem fa_28_4 (a : Addr) (w : World) : (Instr.fieldAt 28 (.pointer (some a)) 4).run Tryz.prog w = .ok (.pointer (some (a.add 4))) w := by kernel_rfl
theorem st_3 (x : Int) (a : Addr) (w : World) : (Instr.storeAt 3 (.pointer (some a)) (.int .i64 x)).run Tryz.prog w = (storeCells a [Value.int .i64 x]).run Tryz.prog w := by kernel_rfl
theorem one_3 (x : Int) : ∀ u ∈ [Value.int .i64 x], u.oneCell' = true := by simp [Value.oneCell']; try exact rfl
theorem fa_28_2 (a : Addr) (w : World) : (Instr.fieldAt 28 (.pointer (some a)) 2).run Tryz.prog w = .ok (.pointer (some (a.add 2))) w := by kernel_rfl
theorem bd_28_0_1_2_3_4_5 (x0 : Int) (x1 : Int) (x2 : Int) (x3 : Int) (x4 : Int) (x5 : Int) (w : World) : (Instr.build 28 #[(0, .int .i64 x0), (1, .int .i64 x1), (2, .int .i64 x2), (3, .int .i64 x3), (4, .int .i64 x4), (5, .int .i64 x5)]).run Tryz.prog w = .ok (Claim.val ⟨x0, x1, x2, x3, x4, x5⟩) w := by kernel_rfl
theorem bs_23_6 (x0 : Claim) (x1 : Claim) (x2 : Claim) (x3 : Claim) (x4 : Claim) (x5 : Claim) (w : World) : (Instr.buildSlice 23 6 #[(0, Claim.val x0), (1, Claim.val x1), (2, Claim.val x2), (3, Claim.val x3), (4, Claim.val x4), (5, Claim.val x5)]).run Tryz.prog w = .ok (.slice (some ⟨w.heap.size, 0, none⟩) 6 6) (w.alloc (.cells (([x0, x1, x2, x3, x4, x5]).flatMap Claim.cells).toArray 28)) := by kernel_rfl
theorem cf_162 (args : Array Value) (w : World) : (callFunc 162 args).run Tryz.prog w = .ok (.enter 162 args) w := by kernel_rfl
theorem cf_118 (args : Array Value) (w : World) : (callFunc 118 args).run Tryz.prog w = .ok (.enter 118 args) w := by kernel_rfl
theorem cf_74 (args : Array Value) (w : World) : (callFunc 74 args).run Tryz.prog w = .ok (.enter 74 args) w := by kernel_rfl
theorem cf_78 (args : Array Value) (w : World) : (callFunc 78 args).run Tryz.prog w = .ok (.enter 78 args) w := by kernel_rfl
theorem cf_40 (args : Array Value) (w : World) : (callFunc 40 args).run Tryz.prog w = .ok (.enter 40 args) w := by kernel_rfl
theorem cf_67 (args : Array Value) (w : World) : (callFunc 67 args).run Tryz.prog w = .ok (.enter 67 args) w := by kernel_rfl
theorem bx_28 (x : Claim) (w : World) : (Instr.box 28 (Claim.val x)).run Tryz.prog w = .ok (.pointer (some ⟨w.heap.size, 0, none⟩)) (w.alloc (.cells ((Claim.cells x)).toArray 28)) := by kernel_rfl
theorem fa_28_5 (a : Addr) (w : World) : (Instr.fieldAt 28 (.pointer (some a)) 5).run Tryz.prog w = .ok (.pointer (some (a.add 5))) w := by kernel_rfl
theorem cf_39 (args : Array Value) (w : World) : (callFunc 39 args).run Tryz.prog w = .ok (.enter 39 args) w := by kernel_rfl
theorem cf_30 (args : Array Value) (w : World) : (callFunc 30 args).run Tryz.prog w = .ok (.enter 30 args) w := by kernel_rfl
theorem cf_18 (args : Array Value) (w : World) : (callFunc 18 args).run Tryz.prog w = .ok (.enter 18 args) w := by kernel_rfl
theorem fa_28_0 (a : Addr) (w : World) : (Instr.fieldAt 28 (.pointer (some a)) 0).run Tryz.prog w = .ok (.pointer (some (a.add 0))) w := by kernel_rfl
theorem fa_28_1 (a : Addr) (w : World) : (Instr.fieldAt 28 (.pointer (some a)) 1).run Tryz.prog w = .ok (.pointer (some (a.add 1))) w := by kernel_rfl
theorem al_115 (w : World) : (Instr.alloc 115 true (.tuple #[])).run Tryz.prog w = .ok (.pointer (some ⟨w.heap.size, 0, none⟩)) (w.alloc (.cells (((List.replicate 12 0).flatMap (fun x : Int => [Value.int .i64 x]))).toArray 115)) := by kernel_rfl
theorem st_115 (x : List Int) (hx : x.length = 12) (a : Addr) (w : World) : (Instr.storeAt 115 (.pointer (some a)) (arrV (fun x : Int => [Value.int .i64 x]) x)).run Tryz.prog w = (storeCells a (x.flatMap (fun x : Int => [Value.int .i64 x]))).run Tryz.prog w := st_array (n := 1) (by kernel_rfl) (fun _ => rfl) hx
theorem one_115 (x : List Int) : ∀ u ∈ (x.flatMap (fun x : Int => [Value.int .i64 x])), u.oneCell' = true := one_flatMap one_3
theorem cf_79 (args : Array Value) (w : World) : (callFunc 79 args).run Tryz.prog w = .ok (.enter 79 args) w := by kernel_rfl
theorem ia_115 {a : Addr} {i : Int} {w : World} (h : 0 ≤ i ∧ i < ((12 : Nat) : Int)) : (Instr.indexAt 115 (.pointer (some a)) (.int .i64 i)).run Tryz.prog w = .ok (.pointer (some (a.add (i.toNat * 1)))) w := ia_array (e := 3) (by kernel_rfl) (by kernel_rfl) h
theorem cf_41 (args : Array Value) (w : World) : (callFunc 41 args).run Tryz.prog w = .ok (.enter 41 args) w := by kernel_rfl
theorem cf_42 (args : Array Value) (w : World) : (callFunc 42 args).run Tryz.prog w = .ok (.enter 42 args) w := by kernel_rfl
theorem cf_126 (args : Array Value) (w : World) : (callFunc 126 args).run Tryz.prog w = .ok (.enter 126 args) w := by kernel_rfl
theorem cf_127 (args : Array Value) (w : World) : (callFunc 127 args).run Tryz.prog w = .ok (.enter 127 args) w := by kernel_rfl
theorem cf_80 (args : Array Value) (w : World) : (callFunc 80 args).run Tryz.prog w = .ok (.enter 80 args) w := by kernel_rfl
theorem cf_56 (args : Array Value) (w : World) : (callFunc 56 args).run Tryz.prog w = .ok (.enter 56 args) w := by kernel_rfl
theorem cf_19 (args : Array Value) (w : World) : (callFunc 19 args).run Tryz.prog w = .ok (.enter 19 args) w := by kernel_rfl
theorem cf_43 (args : Array Value) (w : World) : (callFunc 43 args).run Tryz.prog w = .ok (.enter 43 args) w := by kernel_rfl
theorem cf_27 (args : Array Value) (w : World) : (callFunc 27 args).run Tryz.prog w = .ok (.enter 27 args) w := by kernel_rfl
theorem cf_20 (args : Array Value) (w : World) : (callFunc 20 args).run Tryz.prog w = .ok (.enter 20 args) w := by kernel_rfl
def fnV_75 : (Claim × Claim) → List Value := fun x => [Claim.val x.1, Claim.val x.2]
def fnW_75 : Int → Value := fun x => .int .i64 x
theorem ia_23 {a : Addr} {n c : Nat} {i : Int} {w : World} (h : 0 ≤ i ∧ i < (n : Int)) : (Instr.indexAt 23 (.slice (some a) n c) (.int .i64 i)).run Tryz.prog w = .ok (.pointer (some (a.add (i.toNat * 6)))) w := ia_slice (e := 28) (by kernel_rfl) (by kernel_rfl) h
theorem agE_28 (w : World) : (isAgg 28).run Tryz.prog w = .ok true w := by kernel_rfl
theorem szE_28 (w : World) : (Go.sizeOf 28).run Tryz.prog w = .ok 6 w := by kernel_rfl
theorem cf_49 (args : Array Value) (w : World) : (callFunc 49 args).run Tryz.prog w = .ok (.enter 49 args) w := by kernel_rfl
theorem cf_82 (args : Array Value) (w : World) : (callFunc 82 args).run Tryz.prog w = .ok (.enter 82 args) w := by kernel_rfl
theorem len_35 {a : Option Addr} {n c : Nat} {ty : TypeId} {w : World} : (Builtin.len_ #[35] ty #[.slice a n c]).run Tryz.prog w = .ok (.int .i64 n) w := by kernel_rfl
theorem ia_35 {a : Addr} {n c : Nat} {i : Int} {w : World} (h : 0 ≤ i ∧ i < (n : Int)) : (Instr.indexAt 35 (.slice (some a) n c) (.int .i64 i)).run Tryz.prog w = .ok (.pointer (some (a.add (i.toNat * 1)))) w := ia_slice (e := 3) (by kernel_rfl) (by kernel_rfl) h
theorem cf_48 (args : Array Value) (w : World) : (callFunc 48 args).run Tryz.prog w = .ok (.enter 48 args) w := by kernel_rfl
theorem bs_35_6 (x0 : Int) (x1 : Int) (x2 : Int) (x3 : Int) (x4 : Int) (x5 : Int) (w : World) : (Instr.buildSlice 35 6 #[(0, .int .i64 x0), (1, .int .i64 x1), (2, .int .i64 x2), (3, .int .i64 x3), (4, .int .i64 x4), (5, .int .i64 x5)]).run Tryz.prog w = .ok (.slice (some ⟨w.heap.size, 0, none⟩) 6 6) (w.alloc (.cells (([x0, x1, x2, x3, x4, x5]).flatMap (fun x : Int => [Value.int .i64 x])).toArray 3)) := by kernel_rfl
theorem cf_47 (args : Array Value) (w : World) : (callFunc 47 args).run Tryz.prog w = .ok (.enter 47 args) w := by kernel_rfl
theorem len_23 {a : Option Addr} {n c : Nat} {ty : TypeId} {w : World} : (Builtin.len_ #[23] ty #[.slice a n c]).run Tryz.prog w = .ok (.int .i64 n) w := by kernel_rfl
theorem eqs_28 (d : Nat) (x y : Claim) (w : World) : (Op.equalIn (d + 2) 28 (Claim.val x) (Claim.val y)).run Tryz.prog w = .ok (Claim.eqb x y) w := (run_equalIn_agg w _ 28 _ _ (by kernel_rfl) (by kernel_rfl)).trans (eqF_cons (t := 3) (off := 0) (a := .int .i64 x.Issuer) (b := .int .i64 y.Issuer) (by kernel_rfl) (by kernel_rfl) (by kernel_rfl) (run_equalIn_int _ _ _ _ .i64 _ _ (by kernel_rfl)) (eqF_cons (t := 3) (off := 1) (a := .int .i64 x.Number) (b := .int .i64 y.Number) (by kernel_rfl) (by kernel_rfl) (by kernel_rfl) (run_equalIn_int _ _ _ _ .i64 _ _ (by kernel_rfl)) (eqF_cons (t := 3) (off := 2) (a := .int .i64 x.Person) (b := .int .i64 y.Person) (by kernel_rfl) (by kernel_rfl) (by kernel_rfl) (run_equalIn_int _ _ _ _ .i64 _ _ (by kernel_rfl)) (eqF_cons (t := 3) (off := 3) (a := .int .i64 x.Benefit) (b := .int .i64 y.Benefit) (by kernel_rfl) (by kernel_rfl) (by kernel_rfl) (run_equalIn_int _ _ _ _ .i64 _ _ (by kernel_rfl)) (eqF_cons (t := 3) (off := 4) (a := .int .i64 x.Ref) (b := .int .i64 y.Ref) (by kernel_rfl) (by kernel_rfl) (by kernel_rfl) (run_equalIn_int _ _ _ _ .i64 _ _ (by kernel_rfl)) (eqF_cons (t := 3) (off := 5) (a := .int .i64 x.Day) (b := .int .i64 y.Day) (by kernel_rfl) (by kernel_rfl) (by kernel_rfl) (run_equalIn_int _ _ _ _ .i64 _ _ (by kernel_rfl)) (eqF_nil (by kernel_rfl))))))))
theorem zv_28 (w : World) : (zeroValue 28).run Tryz.prog w = .ok (Claim.val (⟨0, 0, 0, 0, 0, 0⟩ : Claim)) w := by kernel_rfl
theorem cf_21 (args : Array Value) (w : World) : (callFunc 21 args).run Tryz.prog w = .ok (.enter 21 args) w := by kernel_rfl
theorem cf_50 (args : Array Value) (w : World) : (callFunc 50 args).run Tryz.prog w = .ok (.enter 50 args) w := by kernel_rfl
theorem cf_51 (args : Array Value) (w : World) : (callFunc 51 args).run Tryz.prog w = .ok (.enter 51 args) w := by kernel_rfl
theorem cf_128 (args : Array Value) (w : World) : (callFunc 128 args).run Tryz.prog w = .ok (.enter 128 args) w := by kernel_rfl
theorem cf_81 (args : Array Value) (w : World) : (callFunc 81 args).run Tryz.prog w = .ok (.enter 81 args) w := by kernel_rfl
theorem bs_35_2 (x0 : Int) (x1 : Int) (w : World) : (Instr.buildSlice 35 2 #[(0, .int .i64 x0), (1, .int .i64 x1)]).run Tryz.prog w = .ok (.slice (some ⟨w.heap.size, 0, none⟩) 2 2) (w.alloc (.cells (([x0, x1]).flatMap (fun x : Int => [Value.int .i64 x])).toArray 3)) := by kernel_rfl
theorem al_70 (w : World) : (Instr.alloc 70 true (.tuple #[])).run Tryz.prog w = .ok (.pointer (some ⟨w.heap.size, 0, none⟩)) (w.alloc (.cells (((List.replicate 6 false).flatMap (fun x : Bool => [Value.bool x]))).toArray 70)) := by kernel_rfl
theorem al_71 (w : World) : (Instr.alloc 71 true (.tuple #[])).run Tryz.prog w = .ok (.pointer (some ⟨w.heap.size, 0, none⟩)) (w.alloc (.cells (((List.replicate 100 false).flatMap (fun x : Bool => [Value.bool x]))).toArray 71)) := by kernel_rfl
theorem cf_44 (args : Array Value) (w : World) : (callFunc 44 args).run Tryz.prog w = .ok (.enter 44 args) w := by kernel_rfl
theorem ia_71 {a : Addr} {i : Int} {w : World} (h : 0 ≤ i ∧ i < ((100 : Nat) : Int)) : (Instr.indexAt 71 (.pointer (some a)) (.int .i64 i)).run Tryz.prog w = .ok (.pointer (some (a.add (i.toNat * 1)))) w := ia_array (e := 4) (by kernel_rfl) (by kernel_rfl) h
theorem lr_4 (a : Addr) (w : World) : (Instr.loadAt 4 (.pointer (some a))).run Tryz.prog w = (load a).run Tryz.prog w := by kernel_rfl
theorem st_4 (x : Bool) (a : Addr) (w : World) : (Instr.storeAt 4 (.pointer (some a)) (.bool x)).run Tryz.prog w = (storeCells a [Value.bool x]).run Tryz.prog w := by kernel_rfl
theorem one_4 (x : Bool) : ∀ u ∈ [Value.bool x], u.oneCell' = true := by simp [Value.oneCell']; try exact rfl
theorem ia_70 {a : Addr} {i : Int} {w : World} (h : 0 ≤ i ∧ i < ((6 : Nat) : Int)) : (Instr.indexAt 70 (.pointer (some a)) (.int .i64 i)).run Tryz.prog w = .ok (.pointer (some (a.add (i.toNat * 1)))) w := ia_array (e := 4) (by kernel_rfl) (by kernel_rfl) h
theorem cf_46 (args : Array Value) (w : World) : (callFunc 46 args).run Tryz.prog w = .ok (.enter 46 args) w := by kernel_rfl
theorem cf_45 (args : Array Value) (w : World) : (callFunc 45 args).run Tryz.prog w = .ok (.enter 45 args) w := by kernel_rfl
theorem cf_23 (args : Array Value) (w : World) : (callFunc 23 args).run Tryz.prog w = .ok (.enter 23 args) w := by kernel_rfl
theorem cf_22 (args : Array Value) (w : World) : (callFunc 22 args).run Tryz.prog w = .ok (.enter 22 args) w := by kernel_rfl
def fnV_147 : (api_Fact × api_Fact) → List Value := fun x => [api_Fact.val x.1, api_Fact.val x.2]
def fnW_147 : Int → Value := fun x => .int .i64 x
def fnV_148 : (api_Fact × api_Fact) → List Value := fun x => [api_Fact.val x.1, api_Fact.val x.2]
def fnW_148 : api_Fact → Value := fun x => api_Fact.val x
theorem len_44 {a : Option Addr} {n c : Nat} {ty : TypeId} {w : World} : (Builtin.len_ #[44] ty #[.slice a n c]).run Tryz.prog w = .ok (.int .i64 n) w := by kernel_rfl
theorem ia_44 {a : Addr} {n c : Nat} {i : Int} {w : World} (h : 0 ≤ i ∧ i < (n : Int)) : (Instr.indexAt 44 (.slice (some a) n c) (.int .i64 i)).run Tryz.prog w = .ok (.pointer (some (a.add (i.toNat * 14)))) w := ia_slice (e := 80) (by kernel_rfl) (by kernel_rfl) h
theorem lr_80 (a : Addr) (w : World) : (Instr.loadAt 80 (.pointer (some a))).run Tryz.prog w = ((do pure (.agg (← loadCells a 14))) : Sem Value).run Tryz.prog w := by kernel_rfl
theorem bs_44_1 (x0 : api_Fact) (w : World) : (Instr.buildSlice 44 1 #[(0, api_Fact.val x0)]).run Tryz.prog w = .ok (.slice (some ⟨w.heap.size, 0, none⟩) 1 1) (w.alloc (.cells (([x0]).flatMap api_Fact.cells).toArray 80)) := by kernel_rfl
theorem si_44 : Tryz.prog.underlying 44 = some (.slice 80) := by kernel_rfl
theorem se_80 : (Tryz.prog.info? 80).map (fun i => (i.zero.map (·.cells.size), i.size, i.bytes)) = some (some 14, 14, 112) := by kernel_rfl
theorem sz_80 : (Tryz.prog.info? 80).map (·.size) = some 14 := by kernel_rfl
theorem one_80 (x : api_Fact) : ∀ u ∈ (api_Fact.cells x), u.oneCell' = true := by simp [Value.oneCell', api_Fact.cells, Span.cells]; try exact rfl
theorem bx_80 (x : api_Fact) (w : World) : (Instr.box 80 (api_Fact.val x)).run Tryz.prog w = .ok (.pointer (some ⟨w.heap.size, 0, none⟩)) (w.alloc (.cells ((api_Fact.cells x)).toArray 80)) := by kernel_rfl
theorem fa_80_0 (a : Addr) (w : World) : (Instr.fieldAt 80 (.pointer (some a)) 0).run Tryz.prog w = .ok (.pointer (some (a.add 0))) w := by kernel_rfl
theorem fa_80_1 (a : Addr) (w : World) : (Instr.fieldAt 80 (.pointer (some a)) 1).run Tryz.prog w = .ok (.pointer (some (a.add 1))) w := by kernel_rfl
theorem al_80 (w : World) : (Instr.alloc 80 true (.tuple #[])).run Tryz.prog w = .ok (.pointer (some ⟨w.heap.size, 0, none⟩)) (w.alloc (.cells ((api_Fact.cells (⟨0, 0, 0, false, 0, 0, 0, (⟨0, 0⟩ : Span), 0, 0, 0, 0, 0⟩ : api_Fact))).toArray 80)) := by kernel_rfl
theorem st_80 (x : api_Fact) (a : Addr) (w : World) : (Instr.storeAt 80 (.pointer (some a)) (api_Fact.val x)).run Tryz.prog w = (storeCells a (api_Fact.cells x)).run Tryz.prog w := by kernel_rfl
theorem cf_98 (args : Array Value) (w : World) : (callFunc 98 args).run Tryz.prog w = .ok (.enter 98 args) w := by kernel_rfl
theorem cf_99 (args : Array Value) (w : World) : (callFunc 99 args).run Tryz.prog w = .ok (.enter 99 args) w := by kernel_rfl
theorem cf_100 (args : Array Value) (w : World) : (callFunc 100 args).run Tryz.prog w = .ok (.enter 100 args) w := by kernel_rfl
theorem cf_97 (args : Array Value) (w : World) : (callFunc 97 args).run Tryz.prog w = .ok (.enter 97 args) w := by kernel_rfl
theorem fa_80_4 (a : Addr) (w : World) : (Instr.fieldAt 80 (.pointer (some a)) 4).run Tryz.prog w = .ok (.pointer (some (a.add 4))) w := by kernel_rfl
def fnV_150 : api_Fact → List Value := fun x => [api_Fact.val x]
def fnW_150 : Bool → Value := fun x => .bool x
theorem bx_3 (x : Int) (w : World) : (Instr.box 3 (.int .i64 x)).run Tryz.prog w = .ok (.pointer (some ⟨w.heap.size, 0, none⟩)) (w.alloc (.cells ([Value.int .i64 x]).toArray 3)) := by kernel_rfl
theorem cf_102 (args : Array Value) (w : World) : (callFunc 102 args).run Tryz.prog w = .ok (.enter 102 args) w := by kernel_rfl
theorem cf_101 (args : Array Value) (w : World) : (callFunc 101 args).run Tryz.prog w = .ok (.enter 101 args) w := by kernel_rfl
theorem bxx_43 {c0 c1 c2 : Value} (w : World) : (Instr.box 43 (.agg #[c0, c1, c2])).run Tryz.prog w = .ok (.pointer (some ⟨w.heap.size, 0, none⟩)) (w.alloc (.cells #[c0, c1, c2] 43)) := by kernel_rfl
theorem cf_57 (args : Array Value) (w : World) : (callFunc 57 args).run Tryz.prog w = .ok (.enter 57 args) w := by kernel_rfl
theorem lr_43 (a : Addr) (w : World) : (Instr.loadAt 43 (.pointer (some a))).run Tryz.prog w = ((do pure (.agg (← loadCells a 3))) : Sem Value).run Tryz.prog w := by kernel_rfl
theorem cf_58 (args : Array Value) (w : World) : (callFunc 58 args).run Tryz.prog w = .ok (.enter 58 args) w := by kernel_rfl
theorem bdx_102_0_1_2_3_4 {c0 c1 c2 v1 v2 v3 : Value} {n4 : Int} (h1 : ∃ a n c, v1 = Value.slice a n c) (h2 : ∃ a n c, v2 = Value.slice a n c) (h3 : ∃ a n c, v3 = Value.slice a n c) (w : World) : (Instr.build 102 #[(0, .agg #[c0, c1, c2]), (1, v1), (2, v2), (3, v3), (4, .int .i64 n4)]).run Tryz.prog w = .ok (.agg #[c0, c1, c2, v1, v2, v3, .int .i64 n4]) w := by
  obtain ⟨_, _, _, rfl⟩ := h1
  obtain ⟨_, _, _, rfl⟩ := h2
  obtain ⟨_, _, _, rfl⟩ := h3
  kernel_rfl
theorem bxx_102 {c0 c1 c2 c3 c4 c5 c6 : Value} (w : World) : (Instr.box 102 (.agg #[c0, c1, c2, c3, c4, c5, c6])).run Tryz.prog w = .ok (.pointer (some ⟨w.heap.size, 0, none⟩)) (w.alloc (.cells #[c0, c1, c2, c3, c4, c5, c6] 102)) := by kernel_rfl
theorem fa_102_3 (a : Addr) (w : World) : (Instr.fieldAt 102 (.pointer (some a)) 3).run Tryz.prog w = .ok (.pointer (some (a.add 5))) w := by kernel_rfl
theorem lr_23 (a : Addr) (w : World) : (Instr.loadAt 23 (.pointer (some a))).run Tryz.prog w = (load a).run Tryz.prog w := by kernel_rfl
theorem fa_102_4 (a : Addr) (w : World) : (Instr.fieldAt 102 (.pointer (some a)) 4).run Tryz.prog w = .ok (.pointer (some (a.add 6))) w := by kernel_rfl
theorem cf_152 (args : Array Value) (w : World) : (callFunc 152 args).run Tryz.prog w = .ok (.enter 152 args) w := by kernel_rfl
theorem fa_102_2 (a : Addr) (w : World) : (Instr.fieldAt 102 (.pointer (some a)) 2).run Tryz.prog w = .ok (.pointer (some (a.add 4))) w := by kernel_rfl
theorem lr_44 (a : Addr) (w : World) : (Instr.loadAt 44 (.pointer (some a))).run Tryz.prog w = (load a).run Tryz.prog w := by kernel_rfl
theorem cf_103 (args : Array Value) (w : World) : (callFunc 103 args).run Tryz.prog w = .ok (.enter 103 args) w := by kernel_rfl
theorem bxp_59 {a : Addr} (w : World) : (Instr.box 59 (.pointer (some a))).run Tryz.prog w = .ok (.pointer (some ⟨w.heap.size, 0, none⟩)) (w.alloc (.cells #[.pointer (some a)] 59)) := by kernel_rfl
theorem lr_59 (a : Addr) (w : World) : (Instr.loadAt 59 (.pointer (some a))).run Tryz.prog w = (load a).run Tryz.prog w := by kernel_rfl
theorem cf_59 (args : Array Value) (w : World) : (callFunc 59 args).run Tryz.prog w = .ok (.enter 59 args) w := by kernel_rfl
theorem cf_60 (args : Array Value) (w : World) : (callFunc 60 args).run Tryz.prog w = .ok (.enter 60 args) w := by kernel_rfl
theorem fa_102_1 (a : Addr) (w : World) : (Instr.fieldAt 102 (.pointer (some a)) 1).run Tryz.prog w = .ok (.pointer (some (a.add 3))) w := by kernel_rfl
theorem bdx_43_  (w : World) : (Instr.build 43 #[]).run Tryz.prog w = .ok (.agg #[(.slice none 0 0 : Value), (.slice none 0 0 : Value), (.slice none 0 0 : Value)]) w := by
  kernel_rfl
theorem cf_28 (args : Array Value) (w : World) : (callFunc 28 args).run Tryz.prog w = .ok (.enter 28 args) w := by kernel_rfl
theorem cf_29 (args : Array Value) (w : World) : (callFunc 29 args).run Tryz.prog w = .ok (.enter 29 args) w := by kernel_rfl
theorem bd_28_0_1_2_3 (x0 : Int) (x1 : Int) (x2 : Int) (x3 : Int) (w : World) : (Instr.build 28 #[(0, .int .i64 x0), (1, .int .i64 x1), (2, .int .i64 x2), (3, .int .i64 x3)]).run Tryz.prog w = .ok (Claim.val ⟨x0, x1, x2, x3, 0, 0⟩) w := by kernel_rfl
theorem cf_12 (args : Array Value) (w : World) : (callFunc 12 args).run Tryz.prog w = .ok (.enter 12 args) w := by kernel_rfl
theorem cf_16 (args : Array Value) (w : World) : (callFunc 16 args).run Tryz.prog w = .ok (.enter 16 args) w := by kernel_rfl
theorem cf_5 (args : Array Value) (w : World) : (callFunc 5 args).run Tryz.prog w = .ok (.enter 5 args) w := by kernel_rfl
theorem cf_6 (args : Array Value) (w : World) : (callFunc 6 args).run Tryz.prog w = .ok (.enter 6 args) w := by kernel_rfl
theorem cf_7 (args : Array Value) (w : World) : (callFunc 7 args).run Tryz.prog w = .ok (.enter 7 args) w := by kernel_rfl
theorem cf_8 (args : Array Value) (w : World) : (callFunc 8 args).run Tryz.prog w = .ok (.enter 8 args) w := by kernel_rfl
theorem cf_9 (args : Array Value) (w : World) : (callFunc 9 args).run Tryz.prog w = .ok (.enter 9 args) w := by kernel_rfl
theorem cf_10 (args : Array Value) (w : World) : (callFunc 10 args).run Tryz.prog w = .ok (.enter 10 args) w := by kernel_rfl
theorem cf_13 (args : Array Value) (w : World) : (callFunc 13 args).run Tryz.prog w = .ok (.enter 13 args) w := by kernel_rfl
theorem cf_11 (args : Array Value) (w : World) : (callFunc 11 args).run Tryz.prog w = .ok (.enter 11 args) w := by kernel_rfl
end Go.PL
