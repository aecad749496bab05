/- Facts about the types and functions of this translation, each checked by the kernel (printed by a program). -/
import Derived.Test.YtcgfjcpggbcloaaDoorF
import Derived.Test.YtcgfjcpggbcloaaDoorProg
set_option linter.unusedSimpArgs false
set_option linter.unusedVariables false
set_option maxRecDepth 10000
namespace Go.PL
open Go Go.Proofs
theorem mixed : Tryd.prog.follows .mixedOrders = true := by kernel_rfl
theorem cf_13 (args : Array Value) (w : World) : (callFunc 13 args).run Tryd.prog w = .ok (.enter 13 args) w := by kernel_rfl
theorem al_54 (w : World) : (Instr.alloc 54 true (.tuple #[])).run Tryd.prog w = .ok (.pointer (some ⟨w.heap.size, 0, none⟩)) (w.alloc (.cells ((Fraction.cells (⟨0, 0⟩ : Fraction))).toArray 54)) := by kernel_rfl
theorem bd_54_0_1 (x0 : Int) (x1 : Int) (w : World) : (Instr.build 54 #[(0, .int .i64 x0), (1, .int .i64 x1)]).run Tryd.prog w = .ok (Fraction.val ⟨x0, x1⟩) w := by kernel_rfl
theorem st_54 (x : Fraction) (a : Addr) (w : World) : (Instr.storeAt 54 (.pointer (some a)) (Fraction.val x)).run Tryd.prog w = (storeCells a (Fraction.cells x)).run Tryd.prog w := by kernel_rfl
theorem one_54 (x : Fraction) : ∀ u ∈ (Fraction.cells x), u.oneCell' = true := by simp [Value.oneCell', Fraction.cells]; try exact rfl
theorem lr_54 (a : Addr) (w : World) : (Instr.loadAt 54 (.pointer (some a))).run Tryd.prog w = ((do pure (.agg (← loadCells a 2))) : Sem Value).run Tryd.prog w := by kernel_rfl
theorem al_117 (w : World) : (Instr.alloc 117 true (.tuple #[])).run Tryd.prog w = .ok (.pointer (some ⟨w.heap.size, 0, none⟩)) (w.alloc (.cells (((List.replicate 12 0).flatMap (fun x : Int => [Value.int .i64 x]))).toArray 117)) := by kernel_rfl
theorem st_117 (x : List Int) (hx : x.length = 12) (a : Addr) (w : World) : (Instr.storeAt 117 (.pointer (some a)) (arrV (fun x : Int => [Value.int .i64 x]) x)).run Tryd.prog w = (storeCells a (x.flatMap (fun x : Int => [Value.int .i64 x]))).run Tryd.prog w := st_array (n := 1) (by kernel_rfl) (fun _ => rfl) hx
theorem one_3 (x : Int) : ∀ u ∈ [Value.int .i64 x], u.oneCell' = true := by simp [Value.oneCell']; try exact rfl
theorem one_117 (x : List Int) : ∀ u ∈ (x.flatMap (fun x : Int => [Value.int .i64 x])), u.oneCell' = true := one_flatMap one_3
theorem cf_91 (args : Array Value) (w : World) : (callFunc 91 args).run Tryd.prog w = .ok (.enter 91 args) w := by kernel_rfl
theorem ia_117 {a : Addr} {i : Int} {w : World} (h : 0 ≤ i ∧ i < ((12 : Nat) : Int)) : (Instr.indexAt 117 (.pointer (some a)) (.int .i64 i)).run Tryd.prog w = .ok (.pointer (some (a.add (i.toNat * 1)))) w := ia_array (e := 3) (by kernel_rfl) (by kernel_rfl) h
theorem lr_3 (a : Addr) (w : World) : (Instr.loadAt 3 (.pointer (some a))).run Tryd.prog w = (load a).run Tryd.prog w := by kernel_rfl
theorem cf_83 (args : Array Value) (w : World) : (callFunc 83 args).run Tryd.prog w = .ok (.enter 83 args) w := by kernel_rfl
theorem cf_84 (args : Array Value) (w : World) : (callFunc 84 args).run Tryd.prog w = .ok (.enter 84 args) w := by kernel_rfl
theorem cv_3_62 (n : Int) (w : World) : (convert 3 62 (.int .i64 n)).run Tryd.prog w = .ok (.int .u64 (IntKind.u64.wrap n)) w := by kernel_rfl
theorem bx_54 (x : Fraction) (w : World) : (Instr.box 54 (Fraction.val x)).run Tryd.prog w = .ok (.pointer (some ⟨w.heap.size, 0, none⟩)) (w.alloc (.cells ((Fraction.cells x)).toArray 54)) := by kernel_rfl
theorem fa_54_1 (a : Addr) (w : World) : (Instr.fieldAt 54 (.pointer (some a)) 1).run Tryd.prog w = .ok (.pointer (some (a.add 1))) w := by kernel_rfl
theorem fa_54_0 (a : Addr) (w : World) : (Instr.fieldAt 54 (.pointer (some a)) 0).run Tryd.prog w = .ok (.pointer (some (a.add 0))) w := by kernel_rfl
theorem cf_69 (args : Array Value) (w : World) : (callFunc 69 args).run Tryd.prog w = .ok (.enter 69 args) w := by kernel_rfl
theorem cf_68 (args : Array Value) (w : World) : (callFunc 68 args).run Tryd.prog w = .ok (.enter 68 args) w := by kernel_rfl
theorem cf_67 (args : Array Value) (w : World) : (callFunc 67 args).run Tryd.prog w = .ok (.enter 67 args) w := by kernel_rfl
theorem len_26 {a : Option Addr} {n c : Nat} {ty : TypeId} {w : World} : (Builtin.len_ #[26] ty #[.slice a n c]).run Tryd.prog w = .ok (.int .i64 n) w := by kernel_rfl
theorem ia_26 {a : Addr} {n c : Nat} {i : Int} {w : World} (h : 0 ≤ i ∧ i < (n : Int)) : (Instr.indexAt 26 (.slice (some a) n c) (.int .i64 i)).run Tryd.prog w = .ok (.pointer (some (a.add (i.toNat * 4)))) w := ia_slice (e := 57) (by kernel_rfl) (by kernel_rfl) h
theorem lr_57 (a : Addr) (w : World) : (Instr.loadAt 57 (.pointer (some a))).run Tryd.prog w = ((do pure (.agg (← loadCells a 4))) : Sem Value).run Tryd.prog w := by kernel_rfl
theorem al_57 (w : World) : (Instr.alloc 57 true (.tuple #[])).run Tryd.prog w = .ok (.pointer (some ⟨w.heap.size, 0, none⟩)) (w.alloc (.cells ((Rate.cells (⟨0, 0, (⟨0, 0⟩ : Fraction)⟩ : Rate))).toArray 57)) := by kernel_rfl
theorem st_57 (x : Rate) (a : Addr) (w : World) : (Instr.storeAt 57 (.pointer (some a)) (Rate.val x)).run Tryd.prog w = (storeCells a (Rate.cells x)).run Tryd.prog w := by kernel_rfl
theorem one_57 (x : Rate) : ∀ u ∈ (Rate.cells x), u.oneCell' = true := by simp [Value.oneCell', Rate.cells, Fraction.cells]; try exact rfl
theorem fa_57_0 (a : Addr) (w : World) : (Instr.fieldAt 57 (.pointer (some a)) 0).run Tryd.prog w = .ok (.pointer (some (a.add 0))) w := by kernel_rfl
theorem cf_43 (args : Array Value) (w : World) : (callFunc 43 args).run Tryd.prog w = .ok (.enter 43 args) w := by kernel_rfl
theorem fa_57_1 (a : Addr) (w : World) : (Instr.fieldAt 57 (.pointer (some a)) 1).run Tryd.prog w = .ok (.pointer (some (a.add 1))) w := by kernel_rfl
theorem cf_44 (args : Array Value) (w : World) : (callFunc 44 args).run Tryd.prog w = .ok (.enter 44 args) w := by kernel_rfl
theorem fa_57_2 (a : Addr) (w : World) : (Instr.fieldAt 57 (.pointer (some a)) 2).run Tryd.prog w = .ok (.pointer (some (a.add 2))) w := by kernel_rfl
theorem cf_45 (args : Array Value) (w : World) : (callFunc 45 args).run Tryd.prog w = .ok (.enter 45 args) w := by kernel_rfl
theorem cf_46 (args : Array Value) (w : World) : (callFunc 46 args).run Tryd.prog w = .ok (.enter 46 args) w := by kernel_rfl
theorem cf_55 (args : Array Value) (w : World) : (callFunc 55 args).run Tryd.prog w = .ok (.enter 55 args) w := by kernel_rfl
theorem cf_54 (args : Array Value) (w : World) : (callFunc 54 args).run Tryd.prog w = .ok (.enter 54 args) w := by kernel_rfl
theorem cf_19 (args : Array Value) (w : World) : (callFunc 19 args).run Tryd.prog w = .ok (.enter 19 args) w := by kernel_rfl
theorem cf_37 (args : Array Value) (w : World) : (callFunc 37 args).run Tryd.prog w = .ok (.enter 37 args) w := by kernel_rfl
theorem cf_20 (args : Array Value) (w : World) : (callFunc 20 args).run Tryd.prog w = .ok (.enter 20 args) w := by kernel_rfl
theorem bx_72 (x : Rounding) (w : World) : (Instr.box 72 (Rounding.val x)).run Tryd.prog w = .ok (.pointer (some ⟨w.heap.size, 0, none⟩)) (w.alloc (.cells ((Rounding.cells x)).toArray 72)) := by kernel_rfl
theorem fa_72_0 (a : Addr) (w : World) : (Instr.fieldAt 72 (.pointer (some a)) 0).run Tryd.prog w = .ok (.pointer (some (a.add 0))) w := by kernel_rfl
theorem fa_72_1 (a : Addr) (w : World) : (Instr.fieldAt 72 (.pointer (some a)) 1).run Tryd.prog w = .ok (.pointer (some (a.add 1))) w := by kernel_rfl
theorem len_24 {a : Option Addr} {n c : Nat} {ty : TypeId} {w : World} : (Builtin.len_ #[24] ty #[.slice a n c]).run Tryd.prog w = .ok (.int .i64 n) w := by kernel_rfl
theorem ia_24 {a : Addr} {n c : Nat} {i : Int} {w : World} (h : 0 ≤ i ∧ i < (n : Int)) : (Instr.indexAt 24 (.slice (some a) n c) (.int .i64 i)).run Tryd.prog w = .ok (.pointer (some (a.add (i.toNat * 4)))) w := ia_slice (e := 43) (by kernel_rfl) (by kernel_rfl) h
theorem lr_43 (a : Addr) (w : World) : (Instr.loadAt 43 (.pointer (some a))).run Tryd.prog w = ((do pure (.agg (← loadCells a 4))) : Sem Value).run Tryd.prog w := by kernel_rfl
theorem al_43 (w : World) : (Instr.alloc 43 true (.tuple #[])).run Tryd.prog w = .ok (.pointer (some ⟨w.heap.size, 0, none⟩)) (w.alloc (.cells ((Right.cells (⟨0, 0, 0, 0⟩ : Right))).toArray 43)) := by kernel_rfl
theorem st_43 (x : Right) (a : Addr) (w : World) : (Instr.storeAt 43 (.pointer (some a)) (Right.val x)).run Tryd.prog w = (storeCells a (Right.cells x)).run Tryd.prog w := by kernel_rfl
theorem one_43 (x : Right) : ∀ u ∈ (Right.cells x), u.oneCell' = true := by simp [Value.oneCell', Right.cells]; try exact rfl
theorem fa_43_0 (a : Addr) (w : World) : (Instr.fieldAt 43 (.pointer (some a)) 0).run Tryd.prog w = .ok (.pointer (some (a.add 0))) w := by kernel_rfl
theorem fa_43_1 (a : Addr) (w : World) : (Instr.fieldAt 43 (.pointer (some a)) 1).run Tryd.prog w = .ok (.pointer (some (a.add 1))) w := by kernel_rfl
theorem fa_43_2 (a : Addr) (w : World) : (Instr.fieldAt 43 (.pointer (some a)) 2).run Tryd.prog w = .ok (.pointer (some (a.add 2))) w := by kernel_rfl
theorem fa_43_3 (a : Addr) (w : World) : (Instr.fieldAt 43 (.pointer (some a)) 3).run Tryd.prog w = .ok (.pointer (some (a.add 3))) w := by kernel_rfl
theorem len_23 {a : Option Addr} {n c : Nat} {ty : TypeId} {w : World} : (Builtin.len_ #[23] ty #[.slice a n c]).run Tryd.prog w = .ok (.int .i64 n) w := by kernel_rfl
theorem ia_23 {a : Addr} {n c : Nat} {i : Int} {w : World} (h : 0 ≤ i ∧ i < (n : Int)) : (Instr.indexAt 23 (.slice (some a) n c) (.int .i64 i)).run Tryd.prog w = .ok (.pointer (some (a.add (i.toNat * 1)))) w := ia_slice (e := 3) (by kernel_rfl) (by kernel_rfl) h
theorem cf_49 (args : Array Value) (w : World) : (callFunc 49 args).run Tryd.prog w = .ok (.enter 49 args) w := by kernel_rfl
theorem cf_80 (args : Array Value) (w : World) : (callFunc 80 args).run Tryd.prog w = .ok (.enter 80 args) w := by kernel_rfl
theorem bd_54_  (w : World) : (Instr.build 54 #[]).run Tryd.prog w = .ok (Fraction.val ⟨0, 0⟩) w := by kernel_rfl
theorem len_22 {a : Option Addr} {n c : Nat} {ty : TypeId} {w : World} : (Builtin.len_ #[22] ty #[.slice a n c]).run Tryd.prog w = .ok (.int .i64 n) w := by kernel_rfl
theorem ia_22 {a : Addr} {n c : Nat} {i : Int} {w : World} (h : 0 ≤ i ∧ i < (n : Int)) : (Instr.indexAt 22 (.slice (some a) n c) (.int .i64 i)).run Tryd.prog w = .ok (.pointer (some (a.add (i.toNat * 4)))) w := ia_slice (e := 51) (by kernel_rfl) (by kernel_rfl) h
theorem fa_51_0 (a : Addr) (w : World) : (Instr.fieldAt 51 (.pointer (some a)) 0).run Tryd.prog w = .ok (.pointer (some (a.add 0))) w := by kernel_rfl
theorem fa_51_1 (a : Addr) (w : World) : (Instr.fieldAt 51 (.pointer (some a)) 1).run Tryd.prog w = .ok (.pointer (some (a.add 1))) w := by kernel_rfl
theorem fa_51_2 (a : Addr) (w : World) : (Instr.fieldAt 51 (.pointer (some a)) 2).run Tryd.prog w = .ok (.pointer (some (a.add 2))) w := by kernel_rfl
theorem fa_51_3 (a : Addr) (w : World) : (Instr.fieldAt 51 (.pointer (some a)) 3).run Tryd.prog w = .ok (.pointer (some (a.add 3))) w := by kernel_rfl
theorem cf_24 (args : Array Value) (w : World) : (callFunc 24 args).run Tryd.prog w = .ok (.enter 24 args) w := by kernel_rfl
theorem bd_43_0_1_2_3 (x0 : Int) (x1 : Int) (x2 : Int) (x3 : Int) (w : World) : (Instr.build 43 #[(0, .int .i64 x0), (1, .int .i64 x1), (2, .int .i64 x2), (3, .int .i64 x3)]).run Tryd.prog w = .ok (Right.val ⟨x0, x1, x2, x3⟩) w := by kernel_rfl
theorem bs_24_1 (x0 : Right) (w : World) : (Instr.buildSlice 24 1 #[(0, Right.val x0)]).run Tryd.prog w = .ok (.slice (some ⟨w.heap.size, 0, none⟩) 1 1) (w.alloc (.cells (([x0]).flatMap Right.cells).toArray 43)) := by kernel_rfl
theorem si_24 : Tryd.prog.underlying 24 = some (.slice 43) := by kernel_rfl
theorem se_43 : (Tryd.prog.info? 43).map (fun i => (i.zero.map (·.cells.size), i.size, i.bytes)) = some (some 4, 4, 32) := by kernel_rfl
theorem sz_43 : (Tryd.prog.info? 43).map (·.size) = some 4 := by kernel_rfl
theorem cf_25 (args : Array Value) (w : World) : (callFunc 25 args).run Tryd.prog w = .ok (.enter 25 args) w := by kernel_rfl
theorem bd_57_0_2 (x0 : Int) (x2 : Fraction) (w : World) : (Instr.build 57 #[(0, .int .i64 x0), (2, Fraction.val x2)]).run Tryd.prog w = .ok (Rate.val ⟨x0, 0, x2⟩) w := by kernel_rfl
theorem bs_26_1 (x0 : Rate) (w : World) : (Instr.buildSlice 26 1 #[(0, Rate.val x0)]).run Tryd.prog w = .ok (.slice (some ⟨w.heap.size, 0, none⟩) 1 1) (w.alloc (.cells (([x0]).flatMap Rate.cells).toArray 57)) := by kernel_rfl
theorem si_26 : Tryd.prog.underlying 26 = some (.slice 57) := by kernel_rfl
theorem se_57 : (Tryd.prog.info? 57).map (fun i => (i.zero.map (·.cells.size), i.size, i.bytes)) = some (some 4, 4, 32) := by kernel_rfl
theorem sz_57 : (Tryd.prog.info? 57).map (·.size) = some 4 := by kernel_rfl
theorem bd_57_0_1_2 (x0 : Int) (x1 : Int) (x2 : Fraction) (w : World) : (Instr.build 57 #[(0, .int .i64 x0), (1, .int .i64 x1), (2, Fraction.val x2)]).run Tryd.prog w = .ok (Rate.val ⟨x0, x1, x2⟩) w := by kernel_rfl
theorem cv_62_5 (n : Int) (w : World) : (convert 62 5 (.int .u64 n)).run Tryd.prog w = .ok (.int .u8 (IntKind.u8.wrap n)) w := by kernel_rfl
theorem cv_5_3 (n : Int) (w : World) : (convert 5 3 (.int .u8 n)).run Tryd.prog w = .ok (.int .i64 (IntKind.i64.wrap n)) w := by kernel_rfl
theorem cf_79 (args : Array Value) (w : World) : (callFunc 79 args).run Tryd.prog w = .ok (.enter 79 args) w := by kernel_rfl
theorem cf_90 (args : Array Value) (w : World) : (callFunc 90 args).run Tryd.prog w = .ok (.enter 90 args) w := by kernel_rfl
theorem cv_3_78 (n : Int) (w : World) : (convert 3 78 (.int .i64 n)).run Tryd.prog w = .ok (.int .u64 (IntKind.u64.wrap n)) w := by kernel_rfl
theorem bx_91 (x : pensionref1_wide) (w : World) : (Instr.box 91 (pensionref1_wide.val x)).run Tryd.prog w = .ok (.pointer (some ⟨w.heap.size, 0, none⟩)) (w.alloc (.cells ((pensionref1_wide.cells x)).toArray 91)) := by kernel_rfl
theorem al_91 (w : World) : (Instr.alloc 91 true (.tuple #[])).run Tryd.prog w = .ok (.pointer (some ⟨w.heap.size, 0, none⟩)) (w.alloc (.cells ((pensionref1_wide.cells (⟨0, 0⟩ : pensionref1_wide))).toArray 91)) := by kernel_rfl
theorem fa_91_0 (a : Addr) (w : World) : (Instr.fieldAt 91 (.pointer (some a)) 0).run Tryd.prog w = .ok (.pointer (some (a.add 0))) w := by kernel_rfl
theorem lr_62 (a : Addr) (w : World) : (Instr.loadAt 62 (.pointer (some a))).run Tryd.prog w = (load a).run Tryd.prog w := by kernel_rfl
theorem fa_91_1 (a : Addr) (w : World) : (Instr.fieldAt 91 (.pointer (some a)) 1).run Tryd.prog w = .ok (.pointer (some (a.add 1))) w := by kernel_rfl
theorem cf_81 (args : Array Value) (w : World) : (callFunc 81 args).run Tryd.prog w = .ok (.enter 81 args) w := by kernel_rfl
theorem bd_91_0_1 (x0 : Int) (x1 : Int) (w : World) : (Instr.build 91 #[(0, .int .u64 x0), (1, .int .u64 x1)]).run Tryd.prog w = .ok (pensionref1_wide.val ⟨x0, x1⟩) w := by kernel_rfl
theorem st_91 (x : pensionref1_wide) (a : Addr) (w : World) : (Instr.storeAt 91 (.pointer (some a)) (pensionref1_wide.val x)).run Tryd.prog w = (storeCells a (pensionref1_wide.cells x)).run Tryd.prog w := by kernel_rfl
theorem one_91 (x : pensionref1_wide) : ∀ u ∈ (pensionref1_wide.cells x), u.oneCell' = true := by simp [Value.oneCell', pensionref1_wide.cells]; try exact rfl
theorem lr_91 (a : Addr) (w : World) : (Instr.loadAt 91 (.pointer (some a))).run Tryd.prog w = ((do pure (.agg (← loadCells a 2))) : Sem Value).run Tryd.prog w := by kernel_rfl
theorem cf_50 (args : Array Value) (w : World) : (callFunc 50 args).run Tryd.prog w = .ok (.enter 50 args) w := by kernel_rfl
theorem cf_82 (args : Array Value) (w : World) : (callFunc 82 args).run Tryd.prog w = .ok (.enter 82 args) w := by kernel_rfl
theorem cv_62_3 (n : Int) (w : World) : (convert 62 3 (.int .u64 n)).run Tryd.prog w = .ok (.int .i64 (IntKind.i64.wrap n)) w := by kernel_rfl
theorem cf_60 (args : Array Value) (w : World) : (callFunc 60 args).run Tryd.prog w = .ok (.enter 60 args) w := by kernel_rfl
theorem cf_61 (args : Array Value) (w : World) : (callFunc 61 args).run Tryd.prog w = .ok (.enter 61 args) w := by kernel_rfl
theorem lr_72 (a : Addr) (w : World) : (Instr.loadAt 72 (.pointer (some a))).run Tryd.prog w = ((do pure (.agg (← loadCells a 2))) : Sem Value).run Tryd.prog w := by kernel_rfl
theorem cf_62 (args : Array Value) (w : World) : (callFunc 62 args).run Tryd.prog w = .ok (.enter 62 args) w := by kernel_rfl
theorem cf_63 (args : Array Value) (w : World) : (callFunc 63 args).run Tryd.prog w = .ok (.enter 63 args) w := by kernel_rfl
theorem cf_64 (args : Array Value) (w : World) : (callFunc 64 args).run Tryd.prog w = .ok (.enter 64 args) w := by kernel_rfl
theorem cf_65 (args : Array Value) (w : World) : (callFunc 65 args).run Tryd.prog w = .ok (.enter 65 args) w := by kernel_rfl
theorem cf_56 (args : Array Value) (w : World) : (callFunc 56 args).run Tryd.prog w = .ok (.enter 56 args) w := by kernel_rfl
theorem cf_57 (args : Array Value) (w : World) : (callFunc 57 args).run Tryd.prog w = .ok (.enter 57 args) w := by kernel_rfl
theorem cf_27 (args : Array Value) (w : World) : (callFunc 27 args).run Tryd.prog w = .ok (.enter 27 args) w := by kernel_rfl
theorem cf_59 (args : Array Value) (w : World) : (callFunc 59 args).run Tryd.prog w = .ok (.enter 59 args) w := by kernel_rfl
theorem cf_58 (args : Array Value) (w : World) : (callFunc 58 args).run Tryd.prog w = .ok (.enter 58 args) w := by kernel_rfl
theorem cf_52 (args : Array Value) (w : World) : (callFunc 52 args).run Tryd.prog w = .ok (.enter 52 args) w := by kernel_rfl
theorem bx_43 (x : Right) (w : World) : (Instr.box 43 (Right.val x)).run Tryd.prog w = .ok (.pointer (some ⟨w.heap.size, 0, none⟩)) (w.alloc (.cells ((Right.cells x)).toArray 43)) := by kernel_rfl
theorem al_64 (w : World) : (Instr.alloc 64 true (.tuple #[])).run Tryd.prog w = .ok (.pointer (some ⟨w.heap.size, 0, none⟩)) (w.alloc (.cells ((family_value.cells (⟨0, 0⟩ : family_value))).toArray 64)) := by kernel_rfl
theorem bd_64_0_1 (x0 : Int) (x1 : Int) (w : World) : (Instr.build 64 #[(0, .int .u64 x0), (1, .int .u64 x1)]).run Tryd.prog w = .ok (family_value.val ⟨x0, x1⟩) w := by kernel_rfl
theorem st_64 (x : family_value) (a : Addr) (w : World) : (Instr.storeAt 64 (.pointer (some a)) (family_value.val x)).run Tryd.prog w = (storeCells a (family_value.cells x)).run Tryd.prog w := by kernel_rfl
theorem one_64 (x : family_value) : ∀ u ∈ (family_value.cells x), u.oneCell' = true := by simp [Value.oneCell', family_value.cells]; try exact rfl
theorem lr_64 (a : Addr) (w : World) : (Instr.loadAt 64 (.pointer (some a))).run Tryd.prog w = ((do pure (.agg (← loadCells a 2))) : Sem Value).run Tryd.prog w := by kernel_rfl
theorem cf_53 (args : Array Value) (w : World) : (callFunc 53 args).run Tryd.prog w = .ok (.enter 53 args) w := by kernel_rfl
theorem bx_64 (x : family_value) (w : World) : (Instr.box 64 (family_value.val x)).run Tryd.prog w = .ok (.pointer (some ⟨w.heap.size, 0, none⟩)) (w.alloc (.cells ((family_value.cells x)).toArray 64)) := by kernel_rfl
theorem fa_64_0 (a : Addr) (w : World) : (Instr.fieldAt 64 (.pointer (some a)) 0).run Tryd.prog w = .ok (.pointer (some (a.add 0))) w := by kernel_rfl
theorem fa_64_1 (a : Addr) (w : World) : (Instr.fieldAt 64 (.pointer (some a)) 1).run Tryd.prog w = .ok (.pointer (some (a.add 1))) w := by kernel_rfl
theorem cf_51 (args : Array Value) (w : World) : (callFunc 51 args).run Tryd.prog w = .ok (.enter 51 args) w := by kernel_rfl
theorem bs_23_2 (x0 : Int) (x1 : Int) (w : World) : (Instr.buildSlice 23 2 #[(0, .int .i64 x0), (1, .int .i64 x1)]).run Tryd.prog w = .ok (.slice (some ⟨w.heap.size, 0, none⟩) 2 2) (w.alloc (.cells (([x0, x1]).flatMap (fun x : Int => [Value.int .i64 x])).toArray 3)) := by kernel_rfl
theorem cf_31 (args : Array Value) (w : World) : (callFunc 31 args).run Tryd.prog w = .ok (.enter 31 args) w := by kernel_rfl
def fnV_75 : Right → List Value := fun x => [Right.val x]
def fnW_75 : Bool → Value := fun x => .bool x
theorem cf_66 (args : Array Value) (w : World) : (callFunc 66 args).run Tryd.prog w = .ok (.enter 66 args) w := by kernel_rfl
theorem cf_42 (args : Array Value) (w : World) : (callFunc 42 args).run Tryd.prog w = .ok (.enter 42 args) w := by kernel_rfl
theorem cf_41 (args : Array Value) (w : World) : (callFunc 41 args).run Tryd.prog w = .ok (.enter 41 args) w := by kernel_rfl
def fnV_58 : Right → List Value := fun x => [Right.val x]
def fnW_58 : Int → Value := fun x => .int .i64 x
theorem lr_24 (a : Addr) (w : World) : (Instr.loadAt 24 (.pointer (some a))).run Tryd.prog w = (load a).run Tryd.prog w := by kernel_rfl
theorem cf_32 (args : Array Value) (w : World) : (callFunc 32 args).run Tryd.prog w = .ok (.enter 32 args) w := by kernel_rfl
theorem lr_58 (a : Addr) (w : World) : (Instr.loadAt 58 (.pointer (some a))).run Tryd.prog w = (load a).run Tryd.prog w := by kernel_rfl
theorem lr_26 (a : Addr) (w : World) : (Instr.loadAt 26 (.pointer (some a))).run Tryd.prog w = (load a).run Tryd.prog w := by kernel_rfl
theorem cf_34 (args : Array Value) (w : World) : (callFunc 34 args).run Tryd.prog w = .ok (.enter 34 args) w := by kernel_rfl
theorem cf_33 (args : Array Value) (w : World) : (callFunc 33 args).run Tryd.prog w = .ok (.enter 33 args) w := by kernel_rfl
theorem bs_23_4 (x0 : Int) (x1 : Int) (x2 : Int) (x3 : Int) (w : World) : (Instr.buildSlice 23 4 #[(0, .int .i64 x0), (1, .int .i64 x1), (2, .int .i64 x2), (3, .int .i64 x3)]).run Tryd.prog w = .ok (.slice (some ⟨w.heap.size, 0, none⟩) 4 4) (w.alloc (.cells (([x0, x1, x2, x3]).flatMap (fun x : Int => [Value.int .i64 x])).toArray 3)) := by kernel_rfl
theorem cv_103_5 (n : Int) (w : World) : (convert 103 5 (.int .u32 n)).run Tryd.prog w = .ok (.int .u8 (IntKind.u8.wrap n)) w := by kernel_rfl
def fnV_28 : (Int × Int) → List Value := fun x => [.int .i64 x.1, .int .i64 x.2]
def fnW_28 : Int → Value := fun x => .int .i64 x
theorem st_3 (x : Int) (a : Addr) (w : World) : (Instr.storeAt 3 (.pointer (some a)) (.int .i64 x)).run Tryd.prog w = (storeCells a [Value.int .i64 x]).run Tryd.prog w := by kernel_rfl
theorem cf_70 (args : Array Value) (w : World) : (callFunc 70 args).run Tryd.prog w = .ok (.enter 70 args) w := by kernel_rfl
theorem cf_48 (args : Array Value) (w : World) : (callFunc 48 args).run Tryd.prog w = .ok (.enter 48 args) w := by kernel_rfl
theorem cf_47 (args : Array Value) (w : World) : (callFunc 47 args).run Tryd.prog w = .ok (.enter 47 args) w := by kernel_rfl
theorem al_72 (w : World) : (Instr.alloc 72 true (.tuple #[])).run Tryd.prog w = .ok (.pointer (some ⟨w.heap.size, 0, none⟩)) (w.alloc (.cells ((Rounding.cells (⟨0, 0⟩ : Rounding))).toArray 72)) := by kernel_rfl
theorem bd_72_0_1 (x0 : Int) (x1 : Int) (w : World) : (Instr.build 72 #[(0, .int .i64 x0), (1, .int .i64 x1)]).run Tryd.prog w = .ok (Rounding.val ⟨x0, x1⟩) w := by kernel_rfl
theorem st_72 (x : Rounding) (a : Addr) (w : World) : (Instr.storeAt 72 (.pointer (some a)) (Rounding.val x)).run Tryd.prog w = (storeCells a (Rounding.cells x)).run Tryd.prog w := by kernel_rfl
theorem one_72 (x : Rounding) : ∀ u ∈ (Rounding.cells x), u.oneCell' = true := by simp [Value.oneCell', Rounding.cells]; try exact rfl
theorem cf_18 (args : Array Value) (w : World) : (callFunc 18 args).run Tryd.prog w = .ok (.enter 18 args) w := by kernel_rfl
theorem cf_35 (args : Array Value) (w : World) : (callFunc 35 args).run Tryd.prog w = .ok (.enter 35 args) w := by kernel_rfl
theorem cf_36 (args : Array Value) (w : World) : (callFunc 36 args).run Tryd.prog w = .ok (.enter 36 args) w := by kernel_rfl
theorem si_23 : Tryd.prog.underlying 23 = some (.slice 3) := by kernel_rfl
theorem se_3 : (Tryd.prog.info? 3).map (fun i => (i.zero.map (·.cells.size), i.size, i.bytes)) = some (some 1, 1, 8) := by kernel_rfl
theorem sz_3 : (Tryd.prog.info? 3).map (·.size) = some 1 := by kernel_rfl
theorem bs_23_1 (x0 : Int) (w : World) : (Instr.buildSlice 23 1 #[(0, .int .i64 x0)]).run Tryd.prog w = .ok (.slice (some ⟨w.heap.size, 0, none⟩) 1 1) (w.alloc (.cells (([x0]).flatMap (fun x : Int => [Value.int .i64 x])).toArray 3)) := by kernel_rfl
theorem bxv_24 {v : Value} (h : ∃ a n c, v = Value.slice a n c) (w : World) : (Instr.box 24 v).run Tryd.prog w = .ok (.pointer (some ⟨w.heap.size, 0, none⟩)) (w.alloc (.cells [v].toArray 24)) := by
  obtain ⟨_, _, _, rfl⟩ := h
  kernel_rfl
theorem bx_3 (x : Int) (w : World) : (Instr.box 3 (.int .i64 x)).run Tryd.prog w = .ok (.pointer (some ⟨w.heap.size, 0, none⟩)) (w.alloc (.cells ([Value.int .i64 x]).toArray 3)) := by kernel_rfl
theorem bxv_26 {v : Value} (h : ∃ a n c, v = Value.slice a n c) (w : World) : (Instr.box 26 v).run Tryd.prog w = .ok (.pointer (some ⟨w.heap.size, 0, none⟩)) (w.alloc (.cells [v].toArray 26)) := by
  obtain ⟨_, _, _, rfl⟩ := h
  kernel_rfl
theorem cf_26 (args : Array Value) (w : World) : (callFunc 26 args).run Tryd.prog w = .ok (.enter 26 args) w := by kernel_rfl
theorem al_58 (w : World) : (Instr.alloc 58 true (.tuple #[])).run Tryd.prog w = .ok (.pointer (some ⟨w.heap.size, 0, none⟩)) (w.alloc (.cells ([Value.nilFunc]).toArray 58)) := by kernel_rfl
theorem stv_58 {v : Value} (h : ∃ f a c, v = Value.func f a c) (a : Addr) (w : World) : (Instr.storeAt 58 (.pointer (some a)) v).run Tryd.prog w = (storeCells a [v]).run Tryd.prog w := by
  obtain ⟨_, _, _, rfl⟩ := h
  kernel_rfl
theorem cf_28 (args : Array Value) (w : World) : (callFunc 28 args).run Tryd.prog w = .ok (.enter 28 args) w := by kernel_rfl
theorem cf_30 (args : Array Value) (w : World) : (callFunc 30 args).run Tryd.prog w = .ok (.enter 30 args) w := by kernel_rfl
theorem cf_29 (args : Array Value) (w : World) : (callFunc 29 args).run Tryd.prog w = .ok (.enter 29 args) w := by kernel_rfl
theorem cf_15 (args : Array Value) (w : World) : (callFunc 15 args).run Tryd.prog w = .ok (.enter 15 args) w := by kernel_rfl
theorem cf_40 (args : Array Value) (w : World) : (callFunc 40 args).run Tryd.prog w = .ok (.enter 40 args) w := by kernel_rfl
theorem cf_39 (args : Array Value) (w : World) : (callFunc 39 args).run Tryd.prog w = .ok (.enter 39 args) w := by kernel_rfl
theorem bd_48_0_1_2_3 (x0 : Int) (x1 : Int) (x2 : Int) (x3 : Bool) (w : World) : (Instr.build 48 #[(0, .int .i64 x0), (1, .int .i64 x1), (2, .int .i64 x2), (3, .bool x3)]).run Tryd.prog w = .ok (FamilyPay.val ⟨x0, x1, x2, x3⟩) w := by kernel_rfl
theorem bs_38_1 (x0 : FamilyPay) (w : World) : (Instr.buildSlice 38 1 #[(0, FamilyPay.val x0)]).run Tryd.prog w = .ok (.slice (some ⟨w.heap.size, 0, none⟩) 1 1) (w.alloc (.cells (([x0]).flatMap FamilyPay.cells).toArray 48)) := by kernel_rfl
theorem si_38 : Tryd.prog.underlying 38 = some (.slice 48) := by kernel_rfl
theorem se_48 : (Tryd.prog.info? 48).map (fun i => (i.zero.map (·.cells.size), i.size, i.bytes)) = some (some 4, 4, 32) := by kernel_rfl
theorem sz_48 : (Tryd.prog.info? 48).map (·.size) = some 4 := by kernel_rfl
theorem one_48 (x : FamilyPay) : ∀ u ∈ (FamilyPay.cells x), u.oneCell' = true := by simp [Value.oneCell', FamilyPay.cells]; try exact rfl
theorem cf_14 (args : Array Value) (w : World) : (callFunc 14 args).run Tryd.prog w = .ok (.enter 14 args) w := by kernel_rfl
theorem cf_38 (args : Array Value) (w : World) : (callFunc 38 args).run Tryd.prog w = .ok (.enter 38 args) w := by kernel_rfl
theorem len_38 {a : Option Addr} {n c : Nat} {ty : TypeId} {w : World} : (Builtin.len_ #[38] ty #[.slice a n c]).run Tryd.prog w = .ok (.int .i64 n) w := by kernel_rfl
theorem ia_38 {a : Addr} {n c : Nat} {i : Int} {w : World} (h : 0 ≤ i ∧ i < (n : Int)) : (Instr.indexAt 38 (.slice (some a) n c) (.int .i64 i)).run Tryd.prog w = .ok (.pointer (some (a.add (i.toNat * 4)))) w := ia_slice (e := 48) (by kernel_rfl) (by kernel_rfl) h
theorem lr_48 (a : Addr) (w : World) : (Instr.loadAt 48 (.pointer (some a))).run Tryd.prog w = ((do pure (.agg (← loadCells a 4))) : Sem Value).run Tryd.prog w := by kernel_rfl
theorem eqs_48 (d : Nat) (x y : FamilyPay) (w : World) : (Op.equalIn (d + 2) 48 (FamilyPay.val x) (FamilyPay.val y)).run Tryd.prog w = .ok (FamilyPay.eqb x y) w := (run_equalIn_agg w _ 48 _ _ (by kernel_rfl) (by kernel_rfl)).trans (eqF_cons (t := 3) (off := 0) (a := .int .i64 x.State) (b := .int .i64 y.State) (by kernel_rfl) (by kernel_rfl) (by kernel_rfl) (run_equalIn_int _ _ _ _ .i64 _ _ (by kernel_rfl)) (eqF_cons (t := 3) (off := 1) (a := .int .i64 x.Currency) (b := .int .i64 y.Currency) (by kernel_rfl) (by kernel_rfl) (by kernel_rfl) (run_equalIn_int _ _ _ _ .i64 _ _ (by kernel_rfl)) (eqF_cons (t := 3) (off := 2) (a := .int .i64 x.Amount) (b := .int .i64 y.Amount) (by kernel_rfl) (by kernel_rfl) (by kernel_rfl) (run_equalIn_int _ _ _ _ .i64 _ _ (by kernel_rfl)) (eqF_cons (t := 4) (off := 3) (a := .bool x.Primary) (b := .bool y.Primary) (by kernel_rfl) (by kernel_rfl) (by kernel_rfl) (run_equalIn_bool' _ _ _ _ _ (by kernel_rfl)) (eqF_nil (by kernel_rfl))))))
theorem bs_24_2 (x0 : Right) (x1 : Right) (w : World) : (Instr.buildSlice 24 2 #[(0, Right.val x0), (1, Right.val x1)]).run Tryd.prog w = .ok (.slice (some ⟨w.heap.size, 0, none⟩) 2 2) (w.alloc (.cells (([x0, x1]).flatMap Right.cells).toArray 43)) := by kernel_rfl
theorem cf_21 (args : Array Value) (w : World) : (callFunc 21 args).run Tryd.prog w = .ok (.enter 21 args) w := by kernel_rfl
theorem cf_17 (args : Array Value) (w : World) : (callFunc 17 args).run Tryd.prog w = .ok (.enter 17 args) w := by kernel_rfl
theorem fa_48_2 (a : Addr) (w : World) : (Instr.fieldAt 48 (.pointer (some a)) 2).run Tryd.prog w = .ok (.pointer (some (a.add 2))) w := by kernel_rfl
theorem fa_48_3 (a : Addr) (w : World) : (Instr.fieldAt 48 (.pointer (some a)) 3).run Tryd.prog w = .ok (.pointer (some (a.add 3))) w := by kernel_rfl
theorem lr_4 (a : Addr) (w : World) : (Instr.loadAt 4 (.pointer (some a))).run Tryd.prog w = (load a).run Tryd.prog w := by kernel_rfl
theorem cf_11 (args : Array Value) (w : World) : (callFunc 11 args).run Tryd.prog w = .ok (.enter 11 args) w := by kernel_rfl
theorem cf_12 (args : Array Value) (w : World) : (callFunc 12 args).run Tryd.prog w = .ok (.enter 12 args) w := by kernel_rfl
theorem cf_16 (args : Array Value) (w : World) : (callFunc 16 args).run Tryd.prog w = .ok (.enter 16 args) w := by kernel_rfl
theorem al_45 (w : World) : (Instr.alloc 45 true (.tuple #[])).run Tryd.prog w = .ok (.pointer (some ⟨w.heap.size, 0, none⟩)) (w.alloc (.cells (((List.replicate 6 false).flatMap (fun x : Bool => [Value.bool x]))).toArray 45)) := by kernel_rfl
theorem ia_45 {a : Addr} {i : Int} {w : World} (h : 0 ≤ i ∧ i < ((6 : Nat) : Int)) : (Instr.indexAt 45 (.pointer (some a)) (.int .i64 i)).run Tryd.prog w = .ok (.pointer (some (a.add (i.toNat * 1)))) w := ia_array (e := 4) (by kernel_rfl) (by kernel_rfl) h
theorem st_4 (x : Bool) (a : Addr) (w : World) : (Instr.storeAt 4 (.pointer (some a)) (.bool x)).run Tryd.prog w = (storeCells a [Value.bool x]).run Tryd.prog w := by kernel_rfl
theorem one_4 (x : Bool) : ∀ u ∈ [Value.bool x], u.oneCell' = true := by simp [Value.oneCell']; try exact rfl
theorem cf_22 (args : Array Value) (w : World) : (callFunc 22 args).run Tryd.prog w = .ok (.enter 22 args) w := by kernel_rfl
theorem cf_23 (args : Array Value) (w : World) : (callFunc 23 args).run Tryd.prog w = .ok (.enter 23 args) w := by kernel_rfl
theorem fa_48_0 (a : Addr) (w : World) : (Instr.fieldAt 48 (.pointer (some a)) 0).run Tryd.prog w = .ok (.pointer (some (a.add 0))) w := by kernel_rfl
theorem fa_48_1 (a : Addr) (w : World) : (Instr.fieldAt 48 (.pointer (some a)) 1).run Tryd.prog w = .ok (.pointer (some (a.add 1))) w := by kernel_rfl
end Go.PL
