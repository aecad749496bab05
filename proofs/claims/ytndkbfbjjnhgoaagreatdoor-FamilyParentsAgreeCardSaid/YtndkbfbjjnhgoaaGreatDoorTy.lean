/- Facts about the types and functions of this translation, each checked by the kernel (printed by a program). -/
import Derived.Test.YtndkbfbjjnhgoaaGreatDoorF
import Derived.Test.YtndkbfbjjnhgoaaGreatDoorProg
import Derived.Test.YtndkbfbjjnhgoaaGreatDoorLay
set_option linter.unusedSimpArgs false
set_option linter.unusedVariables false
set_option maxRecDepth 10000
namespace Go.PL
open Go Go.Proofs
theorem mixed : Tryz.prog.follows .mixedOrders = true := by kernel_rfl
theorem len_22 {a : Option Addr} {n c : Nat} {ty : TypeId} {w : World} : (Builtin.len_ #[22] ty #[.slice a n c]).run Tryz.prog w = .ok (.int .i64 n) w := by kernel_rfl
theorem cf_6 (args : Array Value) (w : World) : (callFunc 6 args).run Tryz.prog w = .ok (.enter 6 args) w := by kernel_rfl
theorem ia_22 {a : Addr} {n c : Nat} {i : Int} {w : World} (h : 0 ≤ i ∧ i < (n : Int)) : (Instr.indexAt 22 (.slice (some a) n c) (.int .i64 i)).run Tryz.prog w = .ok (.pointer (some (a.add (i.toNat * 1)))) w := ia_slice (e := 3) (by kernel_rfl) (by kernel_rfl) h
theorem lr_3 (a : Addr) (w : World) : (Instr.loadAt 3 (.pointer (some a))).run Tryz.prog w = (load a).run Tryz.prog w := by kernel_rfl
theorem cf_13 (args : Array Value) (w : World) : (callFunc 13 args).run Tryz.prog w = .ok (.enter 13 args) w := by kernel_rfl
theorem bd_36_0_1 (x0 : Int) (x1 : Int) (w : World) : (Instr.build 36 #[(0, .int .i64 x0), (1, .int .i64 x1)]).run Tryz.prog w = .ok (Span.val ⟨x0, x1⟩) w := by kernel_rfl
theorem bd_38_0_1_2_4_5_7 (x0 : Int) (x1 : Int) (x2 : Int) (x4 : Int) (x5 : Int) (x7 : Span) (w : World) : (Instr.build 38 #[(0, .int .i64 x0), (1, .int .i64 x1), (2, .int .i64 x2), (4, .int .i64 x4), (5, .int .i64 x5), (7, Span.val x7)]).run Tryz.prog w = .ok (api_Fact.val ⟨x0, x1, x2, false, x4, x5, 0, x7, 0, 0, 0, 0, 0⟩) w := by kernel_rfl
theorem bs_24_1 (x0 : api_Fact) (w : World) : (Instr.buildSlice 24 1 #[(0, api_Fact.val x0)]).run Tryz.prog w = .ok (.slice (some ⟨w.heap.size, 0, none⟩) 1 1) (w.alloc (.cells (([x0]).flatMap api_Fact.cells).toArray 38)) := by kernel_rfl
theorem si_24 : Tryz.prog.underlying 24 = some (.slice 38) := by kernel_rfl
theorem se_38 : (Tryz.prog.info? 38).map (fun i => (i.zero.map (·.cells.size), i.size, i.bytes)) = some (some 14, 14, 112) := by kernel_rfl
theorem sz_38 : (Tryz.prog.info? 38).map (·.size) = some 14 := by kernel_rfl
theorem one_38 (x : api_Fact) : ∀ u ∈ (api_Fact.cells x), u.oneCell' = true := by simp [Value.oneCell', api_Fact.cells, Span.cells]; try exact rfl
theorem bd_38_0_1_2_4_5_6_7 (x0 : Int) (x1 : Int) (x2 : Int) (x4 : Int) (x5 : Int) (x6 : Int) (x7 : Span) (w : World) : (Instr.build 38 #[(0, .int .i64 x0), (1, .int .i64 x1), (2, .int .i64 x2), (4, .int .i64 x4), (5, .int .i64 x5), (6, .int .i64 x6), (7, Span.val x7)]).run Tryz.prog w = .ok (api_Fact.val ⟨x0, x1, x2, false, x4, x5, x6, x7, 0, 0, 0, 0, 0⟩) w := by kernel_rfl
theorem bd_38_0_1_2_4_5_6_7_8_9_10_11 (x0 : Int) (x1 : Int) (x2 : Int) (x4 : Int) (x5 : Int) (x6 : Int) (x7 : Span) (x8 : Int) (x9 : Int) (x10 : Int) (x11 : Int) (w : World) : (Instr.build 38 #[(0, .int .i64 x0), (1, .int .i64 x1), (2, .int .i64 x2), (4, .int .i64 x4), (5, .int .i64 x5), (6, .int .i64 x6), (7, Span.val x7), (8, .int .i64 x8), (9, .int .i64 x9), (10, .int .i64 x10), (11, .int .i64 x11)]).run Tryz.prog w = .ok (api_Fact.val ⟨x0, x1, x2, false, x4, x5, x6, x7, x8, x9, x10, x11, 0⟩) w := by kernel_rfl
theorem bd_38_0_1_2_4_5_6_7_12 (x0 : Int) (x1 : Int) (x2 : Int) (x4 : Int) (x5 : Int) (x6 : Int) (x7 : Span) (x12 : Int) (w : World) : (Instr.build 38 #[(0, .int .i64 x0), (1, .int .i64 x1), (2, .int .i64 x2), (4, .int .i64 x4), (5, .int .i64 x5), (6, .int .i64 x6), (7, Span.val x7), (12, .int .i64 x12)]).run Tryz.prog w = .ok (api_Fact.val ⟨x0, x1, x2, false, x4, x5, x6, x7, 0, 0, 0, 0, x12⟩) w := by kernel_rfl
theorem bd_38_0_1_2_4_5_7_12 (x0 : Int) (x1 : Int) (x2 : Int) (x4 : Int) (x5 : Int) (x7 : Span) (x12 : Int) (w : World) : (Instr.build 38 #[(0, .int .i64 x0), (1, .int .i64 x1), (2, .int .i64 x2), (4, .int .i64 x4), (5, .int .i64 x5), (7, Span.val x7), (12, .int .i64 x12)]).run Tryz.prog w = .ok (api_Fact.val ⟨x0, x1, x2, false, x4, x5, 0, x7, 0, 0, 0, 0, x12⟩) w := by kernel_rfl
theorem bs_84_15 (x0 : ByteArray) (x1 : ByteArray) (x2 : ByteArray) (x3 : ByteArray) (x4 : ByteArray) (x5 : ByteArray) (x6 : ByteArray) (x7 : ByteArray) (x8 : ByteArray) (x9 : ByteArray) (x10 : ByteArray) (x11 : ByteArray) (x12 : ByteArray) (x13 : ByteArray) (x14 : ByteArray) (w : World) : (Instr.buildSlice 84 15 #[(0, .string x0), (1, .string x1), (2, .string x2), (3, .string x3), (4, .string x4), (5, .string x5), (6, .string x6), (7, .string x7), (8, .string x8), (9, .string x9), (10, .string x10), (11, .string x11), (12, .string x12), (13, .string x13), (14, .string x14)]).run Tryz.prog w = .ok (.slice (some ⟨w.heap.size, 0, none⟩) 15 15) (w.alloc (.cells (([x0, x1, x2, x3, x4, x5, x6, x7, x8, x9, x10, x11, x12, x13, x14]).flatMap (fun x : ByteArray => [Value.string x])).toArray 9)) := by kernel_rfl
theorem len_84 {a : Option Addr} {n c : Nat} {ty : TypeId} {w : World} : (Builtin.len_ #[84] ty #[.slice a n c]).run Tryz.prog w = .ok (.int .i64 n) w := by kernel_rfl
theorem ia_84 {a : Addr} {n c : Nat} {i : Int} {w : World} (h : 0 ≤ i ∧ i < (n : Int)) : (Instr.indexAt 84 (.slice (some a) n c) (.int .i64 i)).run Tryz.prog w = .ok (.pointer (some (a.add (i.toNat * 1)))) w := ia_slice (e := 9) (by kernel_rfl) (by kernel_rfl) h
theorem lr_9 (a : Addr) (w : World) : (Instr.loadAt 9 (.pointer (some a))).run Tryz.prog w = (load a).run Tryz.prog w := by kernel_rfl
theorem bx_41 (x : pensionhand_Fact) (w : World) : (Instr.box 41 (pensionhand_Fact.val x)).run Tryz.prog w = .ok (.pointer (some ⟨w.heap.size, 0, none⟩)) (w.alloc (.cells ((pensionhand_Fact.cells x)).toArray 41)) := by kernel_rfl
theorem al_38 (w : World) : (Instr.alloc 38 true (.tuple #[])).run Tryz.prog w = .ok (.pointer (some ⟨w.heap.size, 0, none⟩)) (w.alloc (.cells ((api_Fact.cells (⟨0, 0, 0, false, 0, 0, 0, (⟨0, 0⟩ : Span), 0, 0, 0, 0, 0⟩ : api_Fact))).toArray 38)) := by kernel_rfl
theorem fa_41_0 (a : Addr) (w : World) : (Instr.fieldAt 41 (.pointer (some a)) 0).run Tryz.prog w = .ok (.pointer (some (a.add 0))) w := by kernel_rfl
theorem fa_41_1 (a : Addr) (w : World) : (Instr.fieldAt 41 (.pointer (some a)) 1).run Tryz.prog w = .ok (.pointer (some (a.add 1))) w := by kernel_rfl
theorem fa_41_2 (a : Addr) (w : World) : (Instr.fieldAt 41 (.pointer (some a)) 2).run Tryz.prog w = .ok (.pointer (some (a.add 2))) w := by kernel_rfl
theorem fa_41_3 (a : Addr) (w : World) : (Instr.fieldAt 41 (.pointer (some a)) 3).run Tryz.prog w = .ok (.pointer (some (a.add 3))) w := by kernel_rfl
theorem lr_4 (a : Addr) (w : World) : (Instr.loadAt 4 (.pointer (some a))).run Tryz.prog w = (load a).run Tryz.prog w := by kernel_rfl
theorem bd_38_0_1_2_3 (x0 : Int) (x1 : Int) (x2 : Int) (x3 : Bool) (w : World) : (Instr.build 38 #[(0, .int .i64 x0), (1, .int .i64 x1), (2, .int .i64 x2), (3, .bool x3)]).run Tryz.prog w = .ok (api_Fact.val ⟨x0, x1, x2, x3, 0, 0, 0, (⟨0, 0⟩ : Span), 0, 0, 0, 0, 0⟩) w := by kernel_rfl
theorem st_38 (x : api_Fact) (a : Addr) (w : World) : (Instr.storeAt 38 (.pointer (some a)) (api_Fact.val x)).run Tryz.prog w = (storeCells a (api_Fact.cells x)).run Tryz.prog w := by kernel_rfl
theorem fa_41_4 (a : Addr) (w : World) : (Instr.fieldAt 41 (.pointer (some a)) 4).run Tryz.prog w = .ok (.pointer (some (a.add 4))) w := by kernel_rfl
theorem fa_41_5 (a : Addr) (w : World) : (Instr.fieldAt 41 (.pointer (some a)) 5).run Tryz.prog w = .ok (.pointer (some (a.add 5))) w := by kernel_rfl
theorem fa_38_4 (a : Addr) (w : World) : (Instr.fieldAt 38 (.pointer (some a)) 4).run Tryz.prog w = .ok (.pointer (some (a.add 4))) w := by kernel_rfl
theorem st_3 (x : Int) (a : Addr) (w : World) : (Instr.storeAt 3 (.pointer (some a)) (.int .i64 x)).run Tryz.prog w = (storeCells a [Value.int .i64 x]).run Tryz.prog w := by kernel_rfl
theorem one_3 (x : Int) : ∀ u ∈ [Value.int .i64 x], u.oneCell' = true := by simp [Value.oneCell']; try exact rfl
theorem fa_38_5 (a : Addr) (w : World) : (Instr.fieldAt 38 (.pointer (some a)) 5).run Tryz.prog w = .ok (.pointer (some (a.add 5))) w := by kernel_rfl
theorem fa_41_8 (a : Addr) (w : World) : (Instr.fieldAt 41 (.pointer (some a)) 8).run Tryz.prog w = .ok (.pointer (some (a.add 8))) w := by kernel_rfl
theorem fa_41_9 (a : Addr) (w : World) : (Instr.fieldAt 41 (.pointer (some a)) 9).run Tryz.prog w = .ok (.pointer (some (a.add 9))) w := by kernel_rfl
theorem cf_27 (args : Array Value) (w : World) : (callFunc 27 args).run Tryz.prog w = .ok (.enter 27 args) w := by kernel_rfl
theorem cf_28 (args : Array Value) (w : World) : (callFunc 28 args).run Tryz.prog w = .ok (.enter 28 args) w := by kernel_rfl
theorem len_9 {b : ByteArray} {ty : TypeId} {w : World} : (Builtin.len_ #[9] ty #[.string b]).run Tryz.prog w = .ok (.int .i64 b.size) w := by kernel_rfl
theorem fa_41_6 (a : Addr) (w : World) : (Instr.fieldAt 41 (.pointer (some a)) 6).run Tryz.prog w = .ok (.pointer (some (a.add 6))) w := by kernel_rfl
theorem fa_38_6 (a : Addr) (w : World) : (Instr.fieldAt 38 (.pointer (some a)) 6).run Tryz.prog w = .ok (.pointer (some (a.add 6))) w := by kernel_rfl
theorem fa_38_7 (a : Addr) (w : World) : (Instr.fieldAt 38 (.pointer (some a)) 7).run Tryz.prog w = .ok (.pointer (some (a.add 7))) w := by kernel_rfl
theorem st_36 (x : Span) (a : Addr) (w : World) : (Instr.storeAt 36 (.pointer (some a)) (Span.val x)).run Tryz.prog w = (storeCells a (Span.cells x)).run Tryz.prog w := by kernel_rfl
theorem one_36 (x : Span) : ∀ u ∈ (Span.cells x), u.oneCell' = true := by simp [Value.oneCell', Span.cells]; try exact rfl
theorem fa_41_7 (a : Addr) (w : World) : (Instr.fieldAt 41 (.pointer (some a)) 7).run Tryz.prog w = .ok (.pointer (some (a.add 7))) w := by kernel_rfl
theorem fa_38_8 (a : Addr) (w : World) : (Instr.fieldAt 38 (.pointer (some a)) 8).run Tryz.prog w = .ok (.pointer (some (a.add 9))) w := by kernel_rfl
theorem fa_41_10 (a : Addr) (w : World) : (Instr.fieldAt 41 (.pointer (some a)) 10).run Tryz.prog w = .ok (.pointer (some (a.add 10))) w := by kernel_rfl
theorem fa_38_9 (a : Addr) (w : World) : (Instr.fieldAt 38 (.pointer (some a)) 9).run Tryz.prog w = .ok (.pointer (some (a.add 10))) w := by kernel_rfl
theorem fa_38_10 (a : Addr) (w : World) : (Instr.fieldAt 38 (.pointer (some a)) 10).run Tryz.prog w = .ok (.pointer (some (a.add 11))) w := by kernel_rfl
theorem fa_41_11 (a : Addr) (w : World) : (Instr.fieldAt 41 (.pointer (some a)) 11).run Tryz.prog w = .ok (.pointer (some (a.add 11))) w := by kernel_rfl
theorem fa_38_11 (a : Addr) (w : World) : (Instr.fieldAt 38 (.pointer (some a)) 11).run Tryz.prog w = .ok (.pointer (some (a.add 12))) w := by kernel_rfl
theorem fa_41_12 (a : Addr) (w : World) : (Instr.fieldAt 41 (.pointer (some a)) 12).run Tryz.prog w = .ok (.pointer (some (a.add 12))) w := by kernel_rfl
theorem fa_38_12 (a : Addr) (w : World) : (Instr.fieldAt 38 (.pointer (some a)) 12).run Tryz.prog w = .ok (.pointer (some (a.add 13))) w := by kernel_rfl
theorem lr_38 (a : Addr) (w : World) : (Instr.loadAt 38 (.pointer (some a))).run Tryz.prog w = ((do pure (.agg (← loadCells a 14))) : Sem Value).run Tryz.prog w := by kernel_rfl
theorem len_23 {a : Option Addr} {n c : Nat} {ty : TypeId} {w : World} : (Builtin.len_ #[23] ty #[.slice a n c]).run Tryz.prog w = .ok (.int .i64 n) w := by kernel_rfl
theorem ia_23 {a : Addr} {n c : Nat} {i : Int} {w : World} (h : 0 ≤ i ∧ i < (n : Int)) : (Instr.indexAt 23 (.slice (some a) n c) (.int .i64 i)).run Tryz.prog w = .ok (.pointer (some (a.add (i.toNat * 13)))) w := ia_slice (e := 41) (by kernel_rfl) (by kernel_rfl) h
theorem lr_41 (a : Addr) (w : World) : (Instr.loadAt 41 (.pointer (some a))).run Tryz.prog w = ((do pure (.agg (← loadCells a 13))) : Sem Value).run Tryz.prog w := by kernel_rfl
theorem cf_14 (args : Array Value) (w : World) : (callFunc 14 args).run Tryz.prog w = .ok (.enter 14 args) w := by kernel_rfl
theorem cf_92 (args : Array Value) (w : World) : (callFunc 92 args).run Tryz.prog w = .ok (.enter 92 args) w := by kernel_rfl
theorem cf_93 (args : Array Value) (w : World) : (callFunc 93 args).run Tryz.prog w = .ok (.enter 93 args) w := by kernel_rfl
theorem bx_36 (x : Span) (w : World) : (Instr.box 36 (Span.val x)).run Tryz.prog w = .ok (.pointer (some ⟨w.heap.size, 0, none⟩)) (w.alloc (.cells ((Span.cells x)).toArray 36)) := by kernel_rfl
theorem fa_36_0 (a : Addr) (w : World) : (Instr.fieldAt 36 (.pointer (some a)) 0).run Tryz.prog w = .ok (.pointer (some (a.add 0))) w := by kernel_rfl
theorem fa_36_1 (a : Addr) (w : World) : (Instr.fieldAt 36 (.pointer (some a)) 1).run Tryz.prog w = .ok (.pointer (some (a.add 1))) w := by kernel_rfl
theorem bx_38 (x : api_Fact) (w : World) : (Instr.box 38 (api_Fact.val x)).run Tryz.prog w = .ok (.pointer (some ⟨w.heap.size, 0, none⟩)) (w.alloc (.cells ((api_Fact.cells x)).toArray 38)) := by kernel_rfl
theorem cf_90 (args : Array Value) (w : World) : (callFunc 90 args).run Tryz.prog w = .ok (.enter 90 args) w := by kernel_rfl
theorem al_9 (w : World) : (Instr.alloc 9 true (.tuple #[])).run Tryz.prog w = .ok (.pointer (some ⟨w.heap.size, 0, none⟩)) (w.alloc (.cells ([Value.string (⟨#[]⟩ : ByteArray)]).toArray 9)) := by kernel_rfl
theorem st_9 (x : ByteArray) (a : Addr) (w : World) : (Instr.storeAt 9 (.pointer (some a)) (.string x)).run Tryz.prog w = (storeCells a [Value.string x]).run Tryz.prog w := by kernel_rfl
theorem one_9 (x : ByteArray) : ∀ u ∈ [Value.string x], u.oneCell' = true := by simp [Value.oneCell']; try exact rfl
theorem fa_38_0 (a : Addr) (w : World) : (Instr.fieldAt 38 (.pointer (some a)) 0).run Tryz.prog w = .ok (.pointer (some (a.add 0))) w := by kernel_rfl
theorem fa_38_1 (a : Addr) (w : World) : (Instr.fieldAt 38 (.pointer (some a)) 1).run Tryz.prog w = .ok (.pointer (some (a.add 1))) w := by kernel_rfl
theorem fa_38_2 (a : Addr) (w : World) : (Instr.fieldAt 38 (.pointer (some a)) 2).run Tryz.prog w = .ok (.pointer (some (a.add 2))) w := by kernel_rfl
def fnV_113 : ByteArray → List Value := fun x => [.string x]
def fnW_113 : Bool → Value := fun x => .bool x
theorem cf_91 (args : Array Value) (w : World) : (callFunc 91 args).run Tryz.prog w = .ok (.enter 91 args) w := by kernel_rfl
theorem cf_94 (args : Array Value) (w : World) : (callFunc 94 args).run Tryz.prog w = .ok (.enter 94 args) w := by kernel_rfl
theorem lr_36 (a : Addr) (w : World) : (Instr.loadAt 36 (.pointer (some a))).run Tryz.prog w = ((do pure (.agg (← loadCells a 2))) : Sem Value).run Tryz.prog w := by kernel_rfl
theorem cf_95 (args : Array Value) (w : World) : (callFunc 95 args).run Tryz.prog w = .ok (.enter 95 args) w := by kernel_rfl
def fnV_86 : (api_Fact × api_Fact) → List Value := fun x => [api_Fact.val x.1, api_Fact.val x.2]
def fnW_86 : Int → Value := fun x => .int .i64 x
def fnV_87 : (api_Fact × api_Fact) → List Value := fun x => [api_Fact.val x.1, api_Fact.val x.2]
def fnW_87 : api_Fact → Value := fun x => api_Fact.val x
theorem len_24 {a : Option Addr} {n c : Nat} {ty : TypeId} {w : World} : (Builtin.len_ #[24] ty #[.slice a n c]).run Tryz.prog w = .ok (.int .i64 n) w := by kernel_rfl
theorem ia_24 {a : Addr} {n c : Nat} {i : Int} {w : World} (h : 0 ≤ i ∧ i < (n : Int)) : (Instr.indexAt 24 (.slice (some a) n c) (.int .i64 i)).run Tryz.prog w = .ok (.pointer (some (a.add (i.toNat * 14)))) w := ia_slice (e := 38) (by kernel_rfl) (by kernel_rfl) h
theorem cf_77 (args : Array Value) (w : World) : (callFunc 77 args).run Tryz.prog w = .ok (.enter 77 args) w := by kernel_rfl
theorem cf_49 (args : Array Value) (w : World) : (callFunc 49 args).run Tryz.prog w = .ok (.enter 49 args) w := by kernel_rfl
theorem bs_22_2 (x0 : Int) (x1 : Int) (w : World) : (Instr.buildSlice 22 2 #[(0, .int .i64 x0), (1, .int .i64 x1)]).run Tryz.prog w = .ok (.slice (some ⟨w.heap.size, 0, none⟩) 2 2) (w.alloc (.cells (([x0, x1]).flatMap (fun x : Int => [Value.int .i64 x])).toArray 3)) := by kernel_rfl
theorem cf_48 (args : Array Value) (w : World) : (callFunc 48 args).run Tryz.prog w = .ok (.enter 48 args) w := by kernel_rfl
theorem cv_3_5 (n : Int) (w : World) : (convert 3 5 (.int .i64 n)).run Tryz.prog w = .ok (.int .u8 (IntKind.u8.wrap n)) w := by kernel_rfl
theorem bs_117_1 (x0 : Int) (w : World) : (Instr.buildSlice 117 1 #[(0, .int .u8 x0)]).run Tryz.prog w = .ok (.slice (some ⟨w.heap.size, 0, none⟩) 1 1) (w.alloc (.cells (([x0]).flatMap (fun x : Int => [Value.int .u8 x])).toArray 5)) := by kernel_rfl
theorem si_117 : Tryz.prog.underlying 117 = some (.slice 5) := by kernel_rfl
theorem se_5 : (Tryz.prog.info? 5).map (fun i => (i.zero.map (·.cells.size), i.size, i.bytes)) = some (some 1, 1, 1) := by kernel_rfl
theorem sz_5 : (Tryz.prog.info? 5).map (·.size) = some 1 := by kernel_rfl
theorem one_5 (x : Int) : ∀ u ∈ [Value.int .u8 x], u.oneCell' = true := by simp [Value.oneCell']; try exact rfl
theorem cf_64 (args : Array Value) (w : World) : (callFunc 64 args).run Tryz.prog w = .ok (.enter 64 args) w := by kernel_rfl
theorem bs_22_1 (x0 : Int) (w : World) : (Instr.buildSlice 22 1 #[(0, .int .i64 x0)]).run Tryz.prog w = .ok (.slice (some ⟨w.heap.size, 0, none⟩) 1 1) (w.alloc (.cells (([x0]).flatMap (fun x : Int => [Value.int .i64 x])).toArray 3)) := by kernel_rfl
theorem cf_128 (args : Array Value) (w : World) : (callFunc 128 args).run Tryz.prog w = .ok (.enter 128 args) w := by kernel_rfl
theorem bs_22_4 (x0 : Int) (x1 : Int) (x2 : Int) (x3 : Int) (w : World) : (Instr.buildSlice 22 4 #[(0, .int .i64 x0), (1, .int .i64 x1), (2, .int .i64 x2), (3, .int .i64 x3)]).run Tryz.prog w = .ok (.slice (some ⟨w.heap.size, 0, none⟩) 4 4) (w.alloc (.cells (([x0, x1, x2, x3]).flatMap (fun x : Int => [Value.int .i64 x])).toArray 3)) := by kernel_rfl
theorem fa_38_3 (a : Addr) (w : World) : (Instr.fieldAt 38 (.pointer (some a)) 3).run Tryz.prog w = .ok (.pointer (some (a.add 3))) w := by kernel_rfl
theorem cf_115 (args : Array Value) (w : World) : (callFunc 115 args).run Tryz.prog w = .ok (.enter 115 args) w := by kernel_rfl
theorem cf_114 (args : Array Value) (w : World) : (callFunc 114 args).run Tryz.prog w = .ok (.enter 114 args) w := by kernel_rfl
theorem cf_86 (args : Array Value) (w : World) : (callFunc 86 args).run Tryz.prog w = .ok (.enter 86 args) w := by kernel_rfl
theorem cf_56 (args : Array Value) (w : World) : (callFunc 56 args).run Tryz.prog w = .ok (.enter 56 args) w := by kernel_rfl
theorem cf_57 (args : Array Value) (w : World) : (callFunc 57 args).run Tryz.prog w = .ok (.enter 57 args) w := by kernel_rfl
theorem cf_54 (args : Array Value) (w : World) : (callFunc 54 args).run Tryz.prog w = .ok (.enter 54 args) w := by kernel_rfl
theorem cf_55 (args : Array Value) (w : World) : (callFunc 55 args).run Tryz.prog w = .ok (.enter 55 args) w := by kernel_rfl
def fnV_65 : api_Fact → List Value := fun x => [api_Fact.val x]
def fnW_65 : Bool → Value := fun x => .bool x
theorem cf_36 (args : Array Value) (w : World) : (callFunc 36 args).run Tryz.prog w = .ok (.enter 36 args) w := by kernel_rfl
theorem cf_37 (args : Array Value) (w : World) : (callFunc 37 args).run Tryz.prog w = .ok (.enter 37 args) w := by kernel_rfl
theorem cf_30 (args : Array Value) (w : World) : (callFunc 30 args).run Tryz.prog w = .ok (.enter 30 args) w := by kernel_rfl
theorem cf_29 (args : Array Value) (w : World) : (callFunc 29 args).run Tryz.prog w = .ok (.enter 29 args) w := by kernel_rfl
theorem bx_3 (x : Int) (w : World) : (Instr.box 3 (.int .i64 x)).run Tryz.prog w = .ok (.pointer (some ⟨w.heap.size, 0, none⟩)) (w.alloc (.cells ([Value.int .i64 x]).toArray 3)) := by kernel_rfl
theorem cf_38 (args : Array Value) (w : World) : (callFunc 38 args).run Tryz.prog w = .ok (.enter 38 args) w := by kernel_rfl
theorem cf_87 (args : Array Value) (w : World) : (callFunc 87 args).run Tryz.prog w = .ok (.enter 87 args) w := by kernel_rfl
theorem cf_18 (args : Array Value) (w : World) : (callFunc 18 args).run Tryz.prog w = .ok (.enter 18 args) w := by kernel_rfl
theorem cf_58 (args : Array Value) (w : World) : (callFunc 58 args).run Tryz.prog w = .ok (.enter 58 args) w := by kernel_rfl
theorem cf_88 (args : Array Value) (w : World) : (callFunc 88 args).run Tryz.prog w = .ok (.enter 88 args) w := by kernel_rfl
theorem cf_60 (args : Array Value) (w : World) : (callFunc 60 args).run Tryz.prog w = .ok (.enter 60 args) w := by kernel_rfl
theorem cf_59 (args : Array Value) (w : World) : (callFunc 59 args).run Tryz.prog w = .ok (.enter 59 args) w := by kernel_rfl
theorem cf_31 (args : Array Value) (w : World) : (callFunc 31 args).run Tryz.prog w = .ok (.enter 31 args) w := by kernel_rfl
theorem cf_32 (args : Array Value) (w : World) : (callFunc 32 args).run Tryz.prog w = .ok (.enter 32 args) w := by kernel_rfl
theorem si_22 : Tryz.prog.underlying 22 = some (.slice 3) := by kernel_rfl
theorem se_3 : (Tryz.prog.info? 3).map (fun i => (i.zero.map (·.cells.size), i.size, i.bytes)) = some (some 1, 1, 8) := by kernel_rfl
theorem sz_3 : (Tryz.prog.info? 3).map (·.size) = some 1 := by kernel_rfl
theorem al_36 (w : World) : (Instr.alloc 36 true (.tuple #[])).run Tryz.prog w = .ok (.pointer (some ⟨w.heap.size, 0, none⟩)) (w.alloc (.cells ((Span.cells (⟨0, 0⟩ : Span))).toArray 36)) := by kernel_rfl
theorem cf_63 (args : Array Value) (w : World) : (callFunc 63 args).run Tryz.prog w = .ok (.enter 63 args) w := by kernel_rfl
theorem bd_36_  (w : World) : (Instr.build 36 #[]).run Tryz.prog w = .ok (Span.val ⟨0, 0⟩) w := by kernel_rfl
def fnV_90 : Span → List Value := fun x => [Span.val x]
def fnW_90 : Bool → Value := fun x => .bool x
theorem len_64 {a : Option Addr} {n c : Nat} {ty : TypeId} {w : World} : (Builtin.len_ #[64] ty #[.slice a n c]).run Tryz.prog w = .ok (.int .i64 n) w := by kernel_rfl
theorem ia_64 {a : Addr} {n c : Nat} {i : Int} {w : World} (h : 0 ≤ i ∧ i < (n : Int)) : (Instr.indexAt 64 (.slice (some a) n c) (.int .i64 i)).run Tryz.prog w = .ok (.pointer (some (a.add (i.toNat * 2)))) w := ia_slice (e := 36) (by kernel_rfl) (by kernel_rfl) h
theorem cf_89 (args : Array Value) (w : World) : (callFunc 89 args).run Tryz.prog w = .ok (.enter 89 args) w := by kernel_rfl
theorem cf_62 (args : Array Value) (w : World) : (callFunc 62 args).run Tryz.prog w = .ok (.enter 62 args) w := by kernel_rfl
theorem cf_61 (args : Array Value) (w : World) : (callFunc 61 args).run Tryz.prog w = .ok (.enter 61 args) w := by kernel_rfl
theorem cf_33 (args : Array Value) (w : World) : (callFunc 33 args).run Tryz.prog w = .ok (.enter 33 args) w := by kernel_rfl
theorem cf_35 (args : Array Value) (w : World) : (callFunc 35 args).run Tryz.prog w = .ok (.enter 35 args) w := by kernel_rfl
theorem bs_64_1 (x0 : Span) (w : World) : (Instr.buildSlice 64 1 #[(0, Span.val x0)]).run Tryz.prog w = .ok (.slice (some ⟨w.heap.size, 0, none⟩) 1 1) (w.alloc (.cells (([x0]).flatMap Span.cells).toArray 36)) := by kernel_rfl
theorem cf_34 (args : Array Value) (w : World) : (callFunc 34 args).run Tryz.prog w = .ok (.enter 34 args) w := by kernel_rfl
theorem bd_38_  (w : World) : (Instr.build 38 #[]).run Tryz.prog w = .ok (api_Fact.val ⟨0, 0, 0, false, 0, 0, 0, (⟨0, 0⟩ : Span), 0, 0, 0, 0, 0⟩) w := by kernel_rfl
theorem cf_15 (args : Array Value) (w : World) : (callFunc 15 args).run Tryz.prog w = .ok (.enter 15 args) w := by kernel_rfl
theorem cf_16 (args : Array Value) (w : World) : (callFunc 16 args).run Tryz.prog w = .ok (.enter 16 args) w := by kernel_rfl
theorem cf_17 (args : Array Value) (w : World) : (callFunc 17 args).run Tryz.prog w = .ok (.enter 17 args) w := by kernel_rfl
theorem cf_117 (args : Array Value) (w : World) : (callFunc 117 args).run Tryz.prog w = .ok (.enter 117 args) w := by kernel_rfl
theorem cf_96 (args : Array Value) (w : World) : (callFunc 96 args).run Tryz.prog w = .ok (.enter 96 args) w := by kernel_rfl
theorem cv_3_101 (n : Int) (w : World) : (convert 3 101 (.int .i64 n)).run Tryz.prog w = .ok (.int .u64 (IntKind.u64.wrap n)) w := by kernel_rfl
theorem cf_65 (args : Array Value) (w : World) : (callFunc 65 args).run Tryz.prog w = .ok (.enter 65 args) w := by kernel_rfl
theorem cf_118 (args : Array Value) (w : World) : (callFunc 118 args).run Tryz.prog w = .ok (.enter 118 args) w := by kernel_rfl
theorem cf_67 (args : Array Value) (w : World) : (callFunc 67 args).run Tryz.prog w = .ok (.enter 67 args) w := by kernel_rfl
theorem cf_97 (args : Array Value) (w : World) : (callFunc 97 args).run Tryz.prog w = .ok (.enter 97 args) w := by kernel_rfl
theorem cvb_117_9 (a : Option Addr) (n c : Nat) (w : World) : (convert 117 9 (.slice a n c)).run Tryz.prog w = (Conv.bytesToString (.slice a n c)).run Tryz.prog w := by kernel_rfl
theorem cf_68 (args : Array Value) (w : World) : (callFunc 68 args).run Tryz.prog w = .ok (.enter 68 args) w := by kernel_rfl
theorem cf_42 (args : Array Value) (w : World) : (callFunc 42 args).run Tryz.prog w = .ok (.enter 42 args) w := by kernel_rfl
theorem cf_39 (args : Array Value) (w : World) : (callFunc 39 args).run Tryz.prog w = .ok (.enter 39 args) w := by kernel_rfl
theorem cf_85 (args : Array Value) (w : World) : (callFunc 85 args).run Tryz.prog w = .ok (.enter 85 args) w := by kernel_rfl
theorem cf_20 (args : Array Value) (w : World) : (callFunc 20 args).run Tryz.prog w = .ok (.enter 20 args) w := by kernel_rfl
theorem cf_53 (args : Array Value) (w : World) : (callFunc 53 args).run Tryz.prog w = .ok (.enter 53 args) w := by kernel_rfl
theorem cf_21 (args : Array Value) (w : World) : (callFunc 21 args).run Tryz.prog w = .ok (.enter 21 args) w := by kernel_rfl
theorem cf_24 (args : Array Value) (w : World) : (callFunc 24 args).run Tryz.prog w = .ok (.enter 24 args) w := by kernel_rfl
theorem cf_25 (args : Array Value) (w : World) : (callFunc 25 args).run Tryz.prog w = .ok (.enter 25 args) w := by kernel_rfl
theorem cf_26 (args : Array Value) (w : World) : (callFunc 26 args).run Tryz.prog w = .ok (.enter 26 args) w := by kernel_rfl
theorem cf_66 (args : Array Value) (w : World) : (callFunc 66 args).run Tryz.prog w = .ok (.enter 66 args) w := by kernel_rfl
theorem cf_41 (args : Array Value) (w : World) : (callFunc 41 args).run Tryz.prog w = .ok (.enter 41 args) w := by kernel_rfl
theorem cf_40 (args : Array Value) (w : World) : (callFunc 40 args).run Tryz.prog w = .ok (.enter 40 args) w := by kernel_rfl
theorem cf_12 (args : Array Value) (w : World) : (callFunc 12 args).run Tryz.prog w = .ok (.enter 12 args) w := by kernel_rfl
theorem cf_19 (args : Array Value) (w : World) : (callFunc 19 args).run Tryz.prog w = .ok (.enter 19 args) w := by kernel_rfl
theorem bx_46 (x : Right) (w : World) : (Instr.box 46 (Right.val x)).run Tryz.prog w = .ok (.pointer (some ⟨w.heap.size, 0, none⟩)) (w.alloc (.cells ((Right.cells x)).toArray 46)) := by kernel_rfl
theorem fa_46_0 (a : Addr) (w : World) : (Instr.fieldAt 46 (.pointer (some a)) 0).run Tryz.prog w = .ok (.pointer (some (a.add 0))) w := by kernel_rfl
def fnV_93 : Right → List Value := fun x => [Right.val x]
def fnW_93 : Bool → Value := fun x => .bool x
theorem len_47 {a : Option Addr} {n c : Nat} {ty : TypeId} {w : World} : (Builtin.len_ #[47] ty #[.slice a n c]).run Tryz.prog w = .ok (.int .i64 n) w := by kernel_rfl
theorem ia_47 {a : Addr} {n c : Nat} {i : Int} {w : World} (h : 0 ≤ i ∧ i < (n : Int)) : (Instr.indexAt 47 (.slice (some a) n c) (.int .i64 i)).run Tryz.prog w = .ok (.pointer (some (a.add (i.toNat * 4)))) w := ia_slice (e := 46) (by kernel_rfl) (by kernel_rfl) h
theorem lr_46 (a : Addr) (w : World) : (Instr.loadAt 46 (.pointer (some a))).run Tryz.prog w = ((do pure (.agg (← loadCells a 4))) : Sem Value).run Tryz.prog w := by kernel_rfl
theorem cf_98 (args : Array Value) (w : World) : (callFunc 98 args).run Tryz.prog w = .ok (.enter 98 args) w := by kernel_rfl
theorem al_46 (w : World) : (Instr.alloc 46 true (.tuple #[])).run Tryz.prog w = .ok (.pointer (some ⟨w.heap.size, 0, none⟩)) (w.alloc (.cells ((Right.cells (⟨0, 0, 0, 0⟩ : Right))).toArray 46)) := by kernel_rfl
theorem st_46 (x : Right) (a : Addr) (w : World) : (Instr.storeAt 46 (.pointer (some a)) (Right.val x)).run Tryz.prog w = (storeCells a (Right.cells x)).run Tryz.prog w := by kernel_rfl
theorem one_46 (x : Right) : ∀ u ∈ (Right.cells x), u.oneCell' = true := by simp [Value.oneCell', Right.cells]; try exact rfl
theorem fa_46_1 (a : Addr) (w : World) : (Instr.fieldAt 46 (.pointer (some a)) 1).run Tryz.prog w = .ok (.pointer (some (a.add 1))) w := by kernel_rfl
theorem fa_46_2 (a : Addr) (w : World) : (Instr.fieldAt 46 (.pointer (some a)) 2).run Tryz.prog w = .ok (.pointer (some (a.add 2))) w := by kernel_rfl
theorem fa_46_3 (a : Addr) (w : World) : (Instr.fieldAt 46 (.pointer (some a)) 3).run Tryz.prog w = .ok (.pointer (some (a.add 3))) w := by kernel_rfl
theorem si_47 : Tryz.prog.underlying 47 = some (.slice 46) := by kernel_rfl
theorem se_46 : (Tryz.prog.info? 46).map (fun i => (i.zero.map (·.cells.size), i.size, i.bytes)) = some (some 4, 4, 32) := by kernel_rfl
theorem sz_46 : (Tryz.prog.info? 46).map (·.size) = some 4 := by kernel_rfl
theorem cf_70 (args : Array Value) (w : World) : (callFunc 70 args).run Tryz.prog w = .ok (.enter 70 args) w := by kernel_rfl
theorem cf_69 (args : Array Value) (w : World) : (callFunc 69 args).run Tryz.prog w = .ok (.enter 69 args) w := by kernel_rfl
theorem al_146 (w : World) : (Instr.alloc 146 true (.tuple #[])).run Tryz.prog w = .ok (.pointer (some ⟨w.heap.size, 0, none⟩)) (w.alloc (.cells (((List.replicate 12 0).flatMap (fun x : Int => [Value.int .i64 x]))).toArray 146)) := by kernel_rfl
theorem st_146 (x : List Int) (hx : x.length = 12) (a : Addr) (w : World) : (Instr.storeAt 146 (.pointer (some a)) (arrV (fun x : Int => [Value.int .i64 x]) x)).run Tryz.prog w = (storeCells a (x.flatMap (fun x : Int => [Value.int .i64 x]))).run Tryz.prog w := st_array (n := 1) (by kernel_rfl) (fun _ => rfl) hx
theorem one_146 (x : List Int) : ∀ u ∈ (x.flatMap (fun x : Int => [Value.int .i64 x])), u.oneCell' = true := one_flatMap one_3
theorem cf_130 (args : Array Value) (w : World) : (callFunc 130 args).run Tryz.prog w = .ok (.enter 130 args) w := by kernel_rfl
theorem ia_146 {a : Addr} {i : Int} {w : World} (h : 0 ≤ i ∧ i < ((12 : Nat) : Int)) : (Instr.indexAt 146 (.pointer (some a)) (.int .i64 i)).run Tryz.prog w = .ok (.pointer (some (a.add (i.toNat * 1)))) w := ia_array (e := 3) (by kernel_rfl) (by kernel_rfl) h
theorem cf_119 (args : Array Value) (w : World) : (callFunc 119 args).run Tryz.prog w = .ok (.enter 119 args) w := by kernel_rfl
theorem cf_120 (args : Array Value) (w : World) : (callFunc 120 args).run Tryz.prog w = .ok (.enter 120 args) w := by kernel_rfl
theorem cf_99 (args : Array Value) (w : World) : (callFunc 99 args).run Tryz.prog w = .ok (.enter 99 args) w := by kernel_rfl
theorem cv_3_75 (n : Int) (w : World) : (convert 3 75 (.int .i64 n)).run Tryz.prog w = .ok (.int .u64 (IntKind.u64.wrap n)) w := by kernel_rfl
theorem bx_95 (x : Fraction) (w : World) : (Instr.box 95 (Fraction.val x)).run Tryz.prog w = .ok (.pointer (some ⟨w.heap.size, 0, none⟩)) (w.alloc (.cells ((Fraction.cells x)).toArray 95)) := by kernel_rfl
theorem fa_95_1 (a : Addr) (w : World) : (Instr.fieldAt 95 (.pointer (some a)) 1).run Tryz.prog w = .ok (.pointer (some (a.add 1))) w := by kernel_rfl
theorem fa_95_0 (a : Addr) (w : World) : (Instr.fieldAt 95 (.pointer (some a)) 0).run Tryz.prog w = .ok (.pointer (some (a.add 0))) w := by kernel_rfl
theorem cf_101 (args : Array Value) (w : World) : (callFunc 101 args).run Tryz.prog w = .ok (.enter 101 args) w := by kernel_rfl
theorem cf_100 (args : Array Value) (w : World) : (callFunc 100 args).run Tryz.prog w = .ok (.enter 100 args) w := by kernel_rfl
theorem len_68 {a : Option Addr} {n c : Nat} {ty : TypeId} {w : World} : (Builtin.len_ #[68] ty #[.slice a n c]).run Tryz.prog w = .ok (.int .i64 n) w := by kernel_rfl
theorem ia_68 {a : Addr} {n c : Nat} {i : Int} {w : World} (h : 0 ≤ i ∧ i < (n : Int)) : (Instr.indexAt 68 (.slice (some a) n c) (.int .i64 i)).run Tryz.prog w = .ok (.pointer (some (a.add (i.toNat * 4)))) w := ia_slice (e := 97) (by kernel_rfl) (by kernel_rfl) h
theorem lr_97 (a : Addr) (w : World) : (Instr.loadAt 97 (.pointer (some a))).run Tryz.prog w = ((do pure (.agg (← loadCells a 4))) : Sem Value).run Tryz.prog w := by kernel_rfl
theorem al_97 (w : World) : (Instr.alloc 97 true (.tuple #[])).run Tryz.prog w = .ok (.pointer (some ⟨w.heap.size, 0, none⟩)) (w.alloc (.cells ((Rate.cells (⟨0, 0, (⟨0, 0⟩ : Fraction)⟩ : Rate))).toArray 97)) := by kernel_rfl
theorem st_97 (x : Rate) (a : Addr) (w : World) : (Instr.storeAt 97 (.pointer (some a)) (Rate.val x)).run Tryz.prog w = (storeCells a (Rate.cells x)).run Tryz.prog w := by kernel_rfl
theorem one_97 (x : Rate) : ∀ u ∈ (Rate.cells x), u.oneCell' = true := by simp [Value.oneCell', Rate.cells, Fraction.cells]; try exact rfl
theorem fa_97_0 (a : Addr) (w : World) : (Instr.fieldAt 97 (.pointer (some a)) 0).run Tryz.prog w = .ok (.pointer (some (a.add 0))) w := by kernel_rfl
theorem cf_71 (args : Array Value) (w : World) : (callFunc 71 args).run Tryz.prog w = .ok (.enter 71 args) w := by kernel_rfl
theorem fa_97_1 (a : Addr) (w : World) : (Instr.fieldAt 97 (.pointer (some a)) 1).run Tryz.prog w = .ok (.pointer (some (a.add 1))) w := by kernel_rfl
theorem cf_72 (args : Array Value) (w : World) : (callFunc 72 args).run Tryz.prog w = .ok (.enter 72 args) w := by kernel_rfl
theorem fa_97_2 (a : Addr) (w : World) : (Instr.fieldAt 97 (.pointer (some a)) 2).run Tryz.prog w = .ok (.pointer (some (a.add 2))) w := by kernel_rfl
theorem lr_95 (a : Addr) (w : World) : (Instr.loadAt 95 (.pointer (some a))).run Tryz.prog w = ((do pure (.agg (← loadCells a 2))) : Sem Value).run Tryz.prog w := by kernel_rfl
theorem cf_73 (args : Array Value) (w : World) : (callFunc 73 args).run Tryz.prog w = .ok (.enter 73 args) w := by kernel_rfl
theorem cf_74 (args : Array Value) (w : World) : (callFunc 74 args).run Tryz.prog w = .ok (.enter 74 args) w := by kernel_rfl
theorem al_95 (w : World) : (Instr.alloc 95 true (.tuple #[])).run Tryz.prog w = .ok (.pointer (some ⟨w.heap.size, 0, none⟩)) (w.alloc (.cells ((Fraction.cells (⟨0, 0⟩ : Fraction))).toArray 95)) := by kernel_rfl
theorem bd_95_  (w : World) : (Instr.build 95 #[]).run Tryz.prog w = .ok (Fraction.val ⟨0, 0⟩) w := by kernel_rfl
theorem st_95 (x : Fraction) (a : Addr) (w : World) : (Instr.storeAt 95 (.pointer (some a)) (Fraction.val x)).run Tryz.prog w = (storeCells a (Fraction.cells x)).run Tryz.prog w := by kernel_rfl
theorem one_95 (x : Fraction) : ∀ u ∈ (Fraction.cells x), u.oneCell' = true := by simp [Value.oneCell', Fraction.cells]; try exact rfl
theorem al_77 (w : World) : (Instr.alloc 77 true (.tuple #[])).run Tryz.prog w = .ok (.pointer (some ⟨w.heap.size, 0, none⟩)) (w.alloc (.cells ((family_value.cells (⟨0, 0⟩ : family_value))).toArray 77)) := by kernel_rfl
theorem cf_80 (args : Array Value) (w : World) : (callFunc 80 args).run Tryz.prog w = .ok (.enter 80 args) w := by kernel_rfl
theorem bd_77_0_1 (x0 : Int) (x1 : Int) (w : World) : (Instr.build 77 #[(0, .int .u64 x0), (1, .int .u64 x1)]).run Tryz.prog w = .ok (family_value.val ⟨x0, x1⟩) w := by kernel_rfl
theorem st_77 (x : family_value) (a : Addr) (w : World) : (Instr.storeAt 77 (.pointer (some a)) (family_value.val x)).run Tryz.prog w = (storeCells a (family_value.cells x)).run Tryz.prog w := by kernel_rfl
theorem one_77 (x : family_value) : ∀ u ∈ (family_value.cells x), u.oneCell' = true := by simp [Value.oneCell', family_value.cells]; try exact rfl
theorem lr_77 (a : Addr) (w : World) : (Instr.loadAt 77 (.pointer (some a))).run Tryz.prog w = ((do pure (.agg (← loadCells a 2))) : Sem Value).run Tryz.prog w := by kernel_rfl
theorem cf_112 (args : Array Value) (w : World) : (callFunc 112 args).run Tryz.prog w = .ok (.enter 112 args) w := by kernel_rfl
theorem bx_77 (x : family_value) (w : World) : (Instr.box 77 (family_value.val x)).run Tryz.prog w = .ok (.pointer (some ⟨w.heap.size, 0, none⟩)) (w.alloc (.cells ((family_value.cells x)).toArray 77)) := by kernel_rfl
theorem fa_77_0 (a : Addr) (w : World) : (Instr.fieldAt 77 (.pointer (some a)) 0).run Tryz.prog w = .ok (.pointer (some (a.add 0))) w := by kernel_rfl
theorem lr_75 (a : Addr) (w : World) : (Instr.loadAt 75 (.pointer (some a))).run Tryz.prog w = (load a).run Tryz.prog w := by kernel_rfl
theorem fa_77_1 (a : Addr) (w : World) : (Instr.fieldAt 77 (.pointer (some a)) 1).run Tryz.prog w = .ok (.pointer (some (a.add 1))) w := by kernel_rfl
theorem cf_78 (args : Array Value) (w : World) : (callFunc 78 args).run Tryz.prog w = .ok (.enter 78 args) w := by kernel_rfl
theorem cf_79 (args : Array Value) (w : World) : (callFunc 79 args).run Tryz.prog w = .ok (.enter 79 args) w := by kernel_rfl
def fnV_71 : Right → List Value := fun x => [Right.val x]
def fnW_71 : Int → Value := fun x => .int .i64 x
theorem lr_47 (a : Addr) (w : World) : (Instr.loadAt 47 (.pointer (some a))).run Tryz.prog w = (load a).run Tryz.prog w := by kernel_rfl
theorem lr_71 (a : Addr) (w : World) : (Instr.loadAt 71 (.pointer (some a))).run Tryz.prog w = (load a).run Tryz.prog w := by kernel_rfl
theorem lr_68 (a : Addr) (w : World) : (Instr.loadAt 68 (.pointer (some a))).run Tryz.prog w = (load a).run Tryz.prog w := by kernel_rfl
theorem cf_51 (args : Array Value) (w : World) : (callFunc 51 args).run Tryz.prog w = .ok (.enter 51 args) w := by kernel_rfl
theorem cf_50 (args : Array Value) (w : World) : (callFunc 50 args).run Tryz.prog w = .ok (.enter 50 args) w := by kernel_rfl
theorem cv_75_5 (n : Int) (w : World) : (convert 75 5 (.int .u64 n)).run Tryz.prog w = .ok (.int .u8 (IntKind.u8.wrap n)) w := by kernel_rfl
theorem cv_5_3 (n : Int) (w : World) : (convert 5 3 (.int .u8 n)).run Tryz.prog w = .ok (.int .i64 (IntKind.i64.wrap n)) w := by kernel_rfl
theorem cf_111 (args : Array Value) (w : World) : (callFunc 111 args).run Tryz.prog w = .ok (.enter 111 args) w := by kernel_rfl
def fnV_27 : (Int × Int) → List Value := fun x => [.int .i64 x.1, .int .i64 x.2]
def fnW_27 : Int → Value := fun x => .int .i64 x
theorem cf_102 (args : Array Value) (w : World) : (callFunc 102 args).run Tryz.prog w = .ok (.enter 102 args) w := by kernel_rfl
theorem cf_76 (args : Array Value) (w : World) : (callFunc 76 args).run Tryz.prog w = .ok (.enter 76 args) w := by kernel_rfl
theorem cf_75 (args : Array Value) (w : World) : (callFunc 75 args).run Tryz.prog w = .ok (.enter 75 args) w := by kernel_rfl
theorem bxv_47 {v : Value} (h : ∃ a n c, v = Value.slice a n c) (w : World) : (Instr.box 47 v).run Tryz.prog w = .ok (.pointer (some ⟨w.heap.size, 0, none⟩)) (w.alloc (.cells [v].toArray 47)) := by
  obtain ⟨_, _, _, rfl⟩ := h
  kernel_rfl
theorem bxv_68 {v : Value} (h : ∃ a n c, v = Value.slice a n c) (w : World) : (Instr.box 68 v).run Tryz.prog w = .ok (.pointer (some ⟨w.heap.size, 0, none⟩)) (w.alloc (.cells [v].toArray 68)) := by
  obtain ⟨_, _, _, rfl⟩ := h
  kernel_rfl
theorem cf_43 (args : Array Value) (w : World) : (callFunc 43 args).run Tryz.prog w = .ok (.enter 43 args) w := by kernel_rfl
theorem cf_44 (args : Array Value) (w : World) : (callFunc 44 args).run Tryz.prog w = .ok (.enter 44 args) w := by kernel_rfl
theorem al_71 (w : World) : (Instr.alloc 71 true (.tuple #[])).run Tryz.prog w = .ok (.pointer (some ⟨w.heap.size, 0, none⟩)) (w.alloc (.cells ([Value.nilFunc]).toArray 71)) := by kernel_rfl
theorem stv_71 {v : Value} (h : ∃ f a c, v = Value.func f a c) (a : Addr) (w : World) : (Instr.storeAt 71 (.pointer (some a)) v).run Tryz.prog w = (storeCells a [v]).run Tryz.prog w := by
  obtain ⟨_, _, _, rfl⟩ := h
  kernel_rfl
theorem cf_45 (args : Array Value) (w : World) : (callFunc 45 args).run Tryz.prog w = .ok (.enter 45 args) w := by kernel_rfl
theorem cf_47 (args : Array Value) (w : World) : (callFunc 47 args).run Tryz.prog w = .ok (.enter 47 args) w := by kernel_rfl
theorem cf_46 (args : Array Value) (w : World) : (callFunc 46 args).run Tryz.prog w = .ok (.enter 46 args) w := by kernel_rfl
theorem bx_82 (x : Rounding) (w : World) : (Instr.box 82 (Rounding.val x)).run Tryz.prog w = .ok (.pointer (some ⟨w.heap.size, 0, none⟩)) (w.alloc (.cells ((Rounding.cells x)).toArray 82)) := by kernel_rfl
theorem fa_82_0 (a : Addr) (w : World) : (Instr.fieldAt 82 (.pointer (some a)) 0).run Tryz.prog w = .ok (.pointer (some (a.add 0))) w := by kernel_rfl
theorem fa_82_1 (a : Addr) (w : World) : (Instr.fieldAt 82 (.pointer (some a)) 1).run Tryz.prog w = .ok (.pointer (some (a.add 1))) w := by kernel_rfl
theorem cf_126 (args : Array Value) (w : World) : (callFunc 126 args).run Tryz.prog w = .ok (.enter 126 args) w := by kernel_rfl
theorem cf_113 (args : Array Value) (w : World) : (callFunc 113 args).run Tryz.prog w = .ok (.enter 113 args) w := by kernel_rfl
theorem cv_75_3 (n : Int) (w : World) : (convert 75 3 (.int .u64 n)).run Tryz.prog w = .ok (.int .i64 (IntKind.i64.wrap n)) w := by kernel_rfl
theorem cf_81 (args : Array Value) (w : World) : (callFunc 81 args).run Tryz.prog w = .ok (.enter 81 args) w := by kernel_rfl
theorem lr_82 (a : Addr) (w : World) : (Instr.loadAt 82 (.pointer (some a))).run Tryz.prog w = ((do pure (.agg (← loadCells a 2))) : Sem Value).run Tryz.prog w := by kernel_rfl
theorem cf_82 (args : Array Value) (w : World) : (callFunc 82 args).run Tryz.prog w = .ok (.enter 82 args) w := by kernel_rfl
theorem cf_84 (args : Array Value) (w : World) : (callFunc 84 args).run Tryz.prog w = .ok (.enter 84 args) w := by kernel_rfl
theorem cf_83 (args : Array Value) (w : World) : (callFunc 83 args).run Tryz.prog w = .ok (.enter 83 args) w := by kernel_rfl
theorem cf_22 (args : Array Value) (w : World) : (callFunc 22 args).run Tryz.prog w = .ok (.enter 22 args) w := by kernel_rfl
theorem cf_52 (args : Array Value) (w : World) : (callFunc 52 args).run Tryz.prog w = .ok (.enter 52 args) w := by kernel_rfl
theorem bd_55_0_1_2_3 (x0 : Int) (x1 : Int) (x2 : Int) (x3 : Bool) (w : World) : (Instr.build 55 #[(0, .int .i64 x0), (1, .int .i64 x1), (2, .int .i64 x2), (3, .bool x3)]).run Tryz.prog w = .ok (FamilyPay.val ⟨x0, x1, x2, x3⟩) w := by kernel_rfl
theorem bs_51_1 (x0 : FamilyPay) (w : World) : (Instr.buildSlice 51 1 #[(0, FamilyPay.val x0)]).run Tryz.prog w = .ok (.slice (some ⟨w.heap.size, 0, none⟩) 1 1) (w.alloc (.cells (([x0]).flatMap FamilyPay.cells).toArray 55)) := by kernel_rfl
theorem si_51 : Tryz.prog.underlying 51 = some (.slice 55) := by kernel_rfl
theorem se_55 : (Tryz.prog.info? 55).map (fun i => (i.zero.map (·.cells.size), i.size, i.bytes)) = some (some 4, 4, 32) := by kernel_rfl
theorem sz_55 : (Tryz.prog.info? 55).map (·.size) = some 4 := by kernel_rfl
theorem one_55 (x : FamilyPay) : ∀ u ∈ (FamilyPay.cells x), u.oneCell' = true := by simp [Value.oneCell', FamilyPay.cells]; try exact rfl
theorem bd_46_0_1_2_3 (x0 : Int) (x1 : Int) (x2 : Int) (x3 : Int) (w : World) : (Instr.build 46 #[(0, .int .i64 x0), (1, .int .i64 x1), (2, .int .i64 x2), (3, .int .i64 x3)]).run Tryz.prog w = .ok (Right.val ⟨x0, x1, x2, x3⟩) w := by kernel_rfl
theorem bs_47_2 (x0 : Right) (x1 : Right) (w : World) : (Instr.buildSlice 47 2 #[(0, Right.val x0), (1, Right.val x1)]).run Tryz.prog w = .ok (.slice (some ⟨w.heap.size, 0, none⟩) 2 2) (w.alloc (.cells (([x0, x1]).flatMap Right.cells).toArray 46)) := by kernel_rfl
theorem cf_23 (args : Array Value) (w : World) : (callFunc 23 args).run Tryz.prog w = .ok (.enter 23 args) w := by kernel_rfl
theorem cf_10 (args : Array Value) (w : World) : (callFunc 10 args).run Tryz.prog w = .ok (.enter 10 args) w := by kernel_rfl
theorem len_51 {a : Option Addr} {n c : Nat} {ty : TypeId} {w : World} : (Builtin.len_ #[51] ty #[.slice a n c]).run Tryz.prog w = .ok (.int .i64 n) w := by kernel_rfl
theorem ia_51 {a : Addr} {n c : Nat} {i : Int} {w : World} (h : 0 ≤ i ∧ i < (n : Int)) : (Instr.indexAt 51 (.slice (some a) n c) (.int .i64 i)).run Tryz.prog w = .ok (.pointer (some (a.add (i.toNat * 4)))) w := ia_slice (e := 55) (by kernel_rfl) (by kernel_rfl) h
theorem lr_55 (a : Addr) (w : World) : (Instr.loadAt 55 (.pointer (some a))).run Tryz.prog w = ((do pure (.agg (← loadCells a 4))) : Sem Value).run Tryz.prog w := by kernel_rfl
theorem eqs_55 (d : Nat) (x y : FamilyPay) (w : World) : (Op.equalIn (d + 2) 55 (FamilyPay.val x) (FamilyPay.val y)).run Tryz.prog w = .ok (FamilyPay.eqb x y) w := (run_equalIn_agg w _ 55 _ _ (by kernel_rfl) (by kernel_rfl)).trans (eqF_cons (t := 3) (off := 0) (a := .int .i64 x.State) (b := .int .i64 y.State) (by kernel_rfl) (by kernel_rfl) (by kernel_rfl) (run_equalIn_int _ _ _ _ .i64 _ _ (by kernel_rfl)) (eqF_cons (t := 3) (off := 1) (a := .int .i64 x.Currency) (b := .int .i64 y.Currency) (by kernel_rfl) (by kernel_rfl) (by kernel_rfl) (run_equalIn_int _ _ _ _ .i64 _ _ (by kernel_rfl)) (eqF_cons (t := 3) (off := 2) (a := .int .i64 x.Amount) (b := .int .i64 y.Amount) (by kernel_rfl) (by kernel_rfl) (by kernel_rfl) (run_equalIn_int _ _ _ _ .i64 _ _ (by kernel_rfl)) (eqF_cons (t := 4) (off := 3) (a := .bool x.Primary) (b := .bool y.Primary) (by kernel_rfl) (by kernel_rfl) (by kernel_rfl) (run_equalIn_bool' _ _ _ _ _ (by kernel_rfl)) (eqF_nil (by kernel_rfl))))))
theorem fa_55_2 (a : Addr) (w : World) : (Instr.fieldAt 55 (.pointer (some a)) 2).run Tryz.prog w = .ok (.pointer (some (a.add 2))) w := by kernel_rfl
theorem fa_55_3 (a : Addr) (w : World) : (Instr.fieldAt 55 (.pointer (some a)) 3).run Tryz.prog w = .ok (.pointer (some (a.add 3))) w := by kernel_rfl
theorem cf_4 (args : Array Value) (w : World) : (callFunc 4 args).run Tryz.prog w = .ok (.enter 4 args) w := by kernel_rfl
theorem cf_5 (args : Array Value) (w : World) : (callFunc 5 args).run Tryz.prog w = .ok (.enter 5 args) w := by kernel_rfl
theorem cf_7 (args : Array Value) (w : World) : (callFunc 7 args).run Tryz.prog w = .ok (.enter 7 args) w := by kernel_rfl
theorem cf_8 (args : Array Value) (w : World) : (callFunc 8 args).run Tryz.prog w = .ok (.enter 8 args) w := by kernel_rfl
theorem cf_9 (args : Array Value) (w : World) : (callFunc 9 args).run Tryz.prog w = .ok (.enter 9 args) w := by kernel_rfl
theorem cf_11 (args : Array Value) (w : World) : (callFunc 11 args).run Tryz.prog w = .ok (.enter 11 args) w := by kernel_rfl
end Go.PL
