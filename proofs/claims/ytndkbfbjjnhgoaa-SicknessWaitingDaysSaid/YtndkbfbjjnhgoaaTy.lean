/- Facts about the types and functions of this translation, each checked by the kernel (printed by a program). -/
import Derived.Test.YtndkbfbjjnhgoaaF
import Derived.Test.YtndkbfbjjnhgoaaProg
import Derived.Test.YtndkbfbjjnhgoaaLay
import Derived.Test.YtndkbfbjjnhgoaaSpanSort
set_option linter.unusedSimpArgs false
set_option linter.unusedVariables false
set_option maxRecDepth 10000
namespace Go.PL
open Go Go.Proofs
theorem mixed : Try.prog.follows .mixedOrders = true := by kernel_rfl
theorem cf_26 (args : Array Value) (w : World) : (callFunc 26 args).run Try.prog w = .ok (.enter 26 args) w := by kernel_rfl
theorem len_22 {a : Option Addr} {n c : Nat} {ty : TypeId} {w : World} : (Builtin.len_ #[22] ty #[.slice a n c]).run Try.prog w = .ok (.int .i64 n) w := by kernel_rfl
theorem ia_22 {a : Addr} {n c : Nat} {i : Int} {w : World} (h : 0 ≤ i ∧ i < (n : Int)) : (Instr.indexAt 22 (.slice (some a) n c) (.int .i64 i)).run Try.prog w = .ok (.pointer (some (a.add (i.toNat * 3)))) w := ia_slice (e := 47) (by kernel_rfl) (by kernel_rfl) h
theorem fa_47_0 (a : Addr) (w : World) : (Instr.fieldAt 47 (.pointer (some a)) 0).run Try.prog w = .ok (.pointer (some (a.add 0))) w := by kernel_rfl
theorem lr_3 (a : Addr) (w : World) : (Instr.loadAt 3 (.pointer (some a))).run Try.prog w = (load a).run Try.prog w := by kernel_rfl
theorem fa_47_1 (a : Addr) (w : World) : (Instr.fieldAt 47 (.pointer (some a)) 1).run Try.prog w = .ok (.pointer (some (a.add 1))) w := by kernel_rfl
theorem fa_47_2 (a : Addr) (w : World) : (Instr.fieldAt 47 (.pointer (some a)) 2).run Try.prog w = .ok (.pointer (some (a.add 2))) w := by kernel_rfl
theorem bd_31_0_1 (x0 : Int) (x1 : Int) (w : World) : (Instr.build 31 #[(0, .int .i64 x0), (1, .int .i64 x1)]).run Try.prog w = .ok (Span.val ⟨x0, x1⟩) w := by kernel_rfl
theorem bd_49_0_1_2_4_5_6_7 (x0 : Int) (x1 : Int) (x2 : Int) (x4 : Int) (x5 : Int) (x6 : Int) (x7 : Span) (w : World) : (Instr.build 49 #[(0, .int .i64 x0), (1, .int .i64 x1), (2, .int .i64 x2), (4, .int .i64 x4), (5, .int .i64 x5), (6, .int .i64 x6), (7, Span.val x7)]).run Try.prog w = .ok (api_Fact.val ⟨x0, x1, x2, false, x4, x5, x6, x7, 0, 0, 0, 0, 0⟩) w := by kernel_rfl
theorem bs_24_1 (x0 : api_Fact) (w : World) : (Instr.buildSlice 24 1 #[(0, api_Fact.val x0)]).run Try.prog w = .ok (.slice (some ⟨w.heap.size, 0, none⟩) 1 1) (w.alloc (.cells (([x0]).flatMap api_Fact.cells).toArray 49)) := by kernel_rfl
theorem si_24 : Try.prog.underlying 24 = some (.slice 49) := by kernel_rfl
theorem se_49 : (Try.prog.info? 49).map (fun i => (i.zero.map (·.cells.size), i.size, i.bytes)) = some (some 14, 14, 112) := by kernel_rfl
theorem sz_49 : (Try.prog.info? 49).map (·.size) = some 14 := by kernel_rfl
theorem one_49 (x : api_Fact) : ∀ u ∈ (api_Fact.cells x), u.oneCell' = true := by simp [Value.oneCell', api_Fact.cells, Span.cells]; try exact rfl
theorem bs_70_15 (x0 : ByteArray) (x1 : ByteArray) (x2 : ByteArray) (x3 : ByteArray) (x4 : ByteArray) (x5 : ByteArray) (x6 : ByteArray) (x7 : ByteArray) (x8 : ByteArray) (x9 : ByteArray) (x10 : ByteArray) (x11 : ByteArray) (x12 : ByteArray) (x13 : ByteArray) (x14 : ByteArray) (w : World) : (Instr.buildSlice 70 15 #[(0, .string x0), (1, .string x1), (2, .string x2), (3, .string x3), (4, .string x4), (5, .string x5), (6, .string x6), (7, .string x7), (8, .string x8), (9, .string x9), (10, .string x10), (11, .string x11), (12, .string x12), (13, .string x13), (14, .string x14)]).run Try.prog w = .ok (.slice (some ⟨w.heap.size, 0, none⟩) 15 15) (w.alloc (.cells (([x0, x1, x2, x3, x4, x5, x6, x7, x8, x9, x10, x11, x12, x13, x14]).flatMap (fun x : ByteArray => [Value.string x])).toArray 9)) := by kernel_rfl
theorem len_70 {a : Option Addr} {n c : Nat} {ty : TypeId} {w : World} : (Builtin.len_ #[70] ty #[.slice a n c]).run Try.prog w = .ok (.int .i64 n) w := by kernel_rfl
theorem ia_70 {a : Addr} {n c : Nat} {i : Int} {w : World} (h : 0 ≤ i ∧ i < (n : Int)) : (Instr.indexAt 70 (.slice (some a) n c) (.int .i64 i)).run Try.prog w = .ok (.pointer (some (a.add (i.toNat * 1)))) w := ia_slice (e := 9) (by kernel_rfl) (by kernel_rfl) h
theorem lr_9 (a : Addr) (w : World) : (Instr.loadAt 9 (.pointer (some a))).run Try.prog w = (load a).run Try.prog w := by kernel_rfl
theorem bx_52 (x : pensionhand_Fact) (w : World) : (Instr.box 52 (pensionhand_Fact.val x)).run Try.prog w = .ok (.pointer (some ⟨w.heap.size, 0, none⟩)) (w.alloc (.cells ((pensionhand_Fact.cells x)).toArray 52)) := by kernel_rfl
theorem al_49 (w : World) : (Instr.alloc 49 true (.tuple #[])).run Try.prog w = .ok (.pointer (some ⟨w.heap.size, 0, none⟩)) (w.alloc (.cells ((api_Fact.cells (⟨0, 0, 0, false, 0, 0, 0, (⟨0, 0⟩ : Span), 0, 0, 0, 0, 0⟩ : api_Fact))).toArray 49)) := by kernel_rfl
theorem fa_52_0 (a : Addr) (w : World) : (Instr.fieldAt 52 (.pointer (some a)) 0).run Try.prog w = .ok (.pointer (some (a.add 0))) w := by kernel_rfl
theorem fa_52_1 (a : Addr) (w : World) : (Instr.fieldAt 52 (.pointer (some a)) 1).run Try.prog w = .ok (.pointer (some (a.add 1))) w := by kernel_rfl
theorem fa_52_2 (a : Addr) (w : World) : (Instr.fieldAt 52 (.pointer (some a)) 2).run Try.prog w = .ok (.pointer (some (a.add 2))) w := by kernel_rfl
theorem fa_52_3 (a : Addr) (w : World) : (Instr.fieldAt 52 (.pointer (some a)) 3).run Try.prog w = .ok (.pointer (some (a.add 3))) w := by kernel_rfl
theorem lr_4 (a : Addr) (w : World) : (Instr.loadAt 4 (.pointer (some a))).run Try.prog w = (load a).run Try.prog w := by kernel_rfl
theorem bd_49_0_1_2_3 (x0 : Int) (x1 : Int) (x2 : Int) (x3 : Bool) (w : World) : (Instr.build 49 #[(0, .int .i64 x0), (1, .int .i64 x1), (2, .int .i64 x2), (3, .bool x3)]).run Try.prog w = .ok (api_Fact.val ⟨x0, x1, x2, x3, 0, 0, 0, (⟨0, 0⟩ : Span), 0, 0, 0, 0, 0⟩) w := by kernel_rfl
theorem st_49 (x : api_Fact) (a : Addr) (w : World) : (Instr.storeAt 49 (.pointer (some a)) (api_Fact.val x)).run Try.prog w = (storeCells a (api_Fact.cells x)).run Try.prog w := by kernel_rfl
theorem fa_52_4 (a : Addr) (w : World) : (Instr.fieldAt 52 (.pointer (some a)) 4).run Try.prog w = .ok (.pointer (some (a.add 4))) w := by kernel_rfl
theorem fa_52_5 (a : Addr) (w : World) : (Instr.fieldAt 52 (.pointer (some a)) 5).run Try.prog w = .ok (.pointer (some (a.add 5))) w := by kernel_rfl
theorem fa_49_4 (a : Addr) (w : World) : (Instr.fieldAt 49 (.pointer (some a)) 4).run Try.prog w = .ok (.pointer (some (a.add 4))) w := by kernel_rfl
theorem st_3 (x : Int) (a : Addr) (w : World) : (Instr.storeAt 3 (.pointer (some a)) (.int .i64 x)).run Try.prog w = (storeCells a [Value.int .i64 x]).run Try.prog w := by kernel_rfl
theorem one_3 (x : Int) : ∀ u ∈ [Value.int .i64 x], u.oneCell' = true := by simp [Value.oneCell']; try exact rfl
theorem fa_49_5 (a : Addr) (w : World) : (Instr.fieldAt 49 (.pointer (some a)) 5).run Try.prog w = .ok (.pointer (some (a.add 5))) w := by kernel_rfl
theorem fa_52_8 (a : Addr) (w : World) : (Instr.fieldAt 52 (.pointer (some a)) 8).run Try.prog w = .ok (.pointer (some (a.add 8))) w := by kernel_rfl
theorem fa_52_9 (a : Addr) (w : World) : (Instr.fieldAt 52 (.pointer (some a)) 9).run Try.prog w = .ok (.pointer (some (a.add 9))) w := by kernel_rfl
theorem cf_38 (args : Array Value) (w : World) : (callFunc 38 args).run Try.prog w = .ok (.enter 38 args) w := by kernel_rfl
theorem cf_39 (args : Array Value) (w : World) : (callFunc 39 args).run Try.prog w = .ok (.enter 39 args) w := by kernel_rfl
theorem len_9 {b : ByteArray} {ty : TypeId} {w : World} : (Builtin.len_ #[9] ty #[.string b]).run Try.prog w = .ok (.int .i64 b.size) w := by kernel_rfl
theorem fa_52_6 (a : Addr) (w : World) : (Instr.fieldAt 52 (.pointer (some a)) 6).run Try.prog w = .ok (.pointer (some (a.add 6))) w := by kernel_rfl
theorem fa_49_6 (a : Addr) (w : World) : (Instr.fieldAt 49 (.pointer (some a)) 6).run Try.prog w = .ok (.pointer (some (a.add 6))) w := by kernel_rfl
theorem fa_49_7 (a : Addr) (w : World) : (Instr.fieldAt 49 (.pointer (some a)) 7).run Try.prog w = .ok (.pointer (some (a.add 7))) w := by kernel_rfl
theorem st_31 (x : Span) (a : Addr) (w : World) : (Instr.storeAt 31 (.pointer (some a)) (Span.val x)).run Try.prog w = (storeCells a (Span.cells x)).run Try.prog w := by kernel_rfl
theorem one_31 (x : Span) : ∀ u ∈ (Span.cells x), u.oneCell' = true := by simp [Value.oneCell', Span.cells]; try exact rfl
theorem fa_52_7 (a : Addr) (w : World) : (Instr.fieldAt 52 (.pointer (some a)) 7).run Try.prog w = .ok (.pointer (some (a.add 7))) w := by kernel_rfl
theorem fa_49_8 (a : Addr) (w : World) : (Instr.fieldAt 49 (.pointer (some a)) 8).run Try.prog w = .ok (.pointer (some (a.add 9))) w := by kernel_rfl
theorem fa_52_10 (a : Addr) (w : World) : (Instr.fieldAt 52 (.pointer (some a)) 10).run Try.prog w = .ok (.pointer (some (a.add 10))) w := by kernel_rfl
theorem fa_49_9 (a : Addr) (w : World) : (Instr.fieldAt 49 (.pointer (some a)) 9).run Try.prog w = .ok (.pointer (some (a.add 10))) w := by kernel_rfl
theorem fa_49_10 (a : Addr) (w : World) : (Instr.fieldAt 49 (.pointer (some a)) 10).run Try.prog w = .ok (.pointer (some (a.add 11))) w := by kernel_rfl
theorem fa_52_11 (a : Addr) (w : World) : (Instr.fieldAt 52 (.pointer (some a)) 11).run Try.prog w = .ok (.pointer (some (a.add 11))) w := by kernel_rfl
theorem fa_49_11 (a : Addr) (w : World) : (Instr.fieldAt 49 (.pointer (some a)) 11).run Try.prog w = .ok (.pointer (some (a.add 12))) w := by kernel_rfl
theorem fa_52_12 (a : Addr) (w : World) : (Instr.fieldAt 52 (.pointer (some a)) 12).run Try.prog w = .ok (.pointer (some (a.add 12))) w := by kernel_rfl
theorem fa_49_12 (a : Addr) (w : World) : (Instr.fieldAt 49 (.pointer (some a)) 12).run Try.prog w = .ok (.pointer (some (a.add 13))) w := by kernel_rfl
theorem lr_49 (a : Addr) (w : World) : (Instr.loadAt 49 (.pointer (some a))).run Try.prog w = ((do pure (.agg (← loadCells a 14))) : Sem Value).run Try.prog w := by kernel_rfl
theorem len_23 {a : Option Addr} {n c : Nat} {ty : TypeId} {w : World} : (Builtin.len_ #[23] ty #[.slice a n c]).run Try.prog w = .ok (.int .i64 n) w := by kernel_rfl
theorem ia_23 {a : Addr} {n c : Nat} {i : Int} {w : World} (h : 0 ≤ i ∧ i < (n : Int)) : (Instr.indexAt 23 (.slice (some a) n c) (.int .i64 i)).run Try.prog w = .ok (.pointer (some (a.add (i.toNat * 13)))) w := ia_slice (e := 52) (by kernel_rfl) (by kernel_rfl) h
theorem lr_52 (a : Addr) (w : World) : (Instr.loadAt 52 (.pointer (some a))).run Try.prog w = ((do pure (.agg (← loadCells a 13))) : Sem Value).run Try.prog w := by kernel_rfl
theorem cf_28 (args : Array Value) (w : World) : (callFunc 28 args).run Try.prog w = .ok (.enter 28 args) w := by kernel_rfl
theorem len_24 {a : Option Addr} {n c : Nat} {ty : TypeId} {w : World} : (Builtin.len_ #[24] ty #[.slice a n c]).run Try.prog w = .ok (.int .i64 n) w := by kernel_rfl
theorem ia_24 {a : Addr} {n c : Nat} {i : Int} {w : World} (h : 0 ≤ i ∧ i < (n : Int)) : (Instr.indexAt 24 (.slice (some a) n c) (.int .i64 i)).run Try.prog w = .ok (.pointer (some (a.add (i.toNat * 14)))) w := ia_slice (e := 49) (by kernel_rfl) (by kernel_rfl) h
theorem cv_5_99 (n : Int) (w : World) : (convert 5 99 (.int .u8 n)).run Try.prog w = .ok (.int .u32 (IntKind.u32.wrap n)) w := by kernel_rfl
theorem cf_105 (args : Array Value) (w : World) : (callFunc 105 args).run Try.prog w = .ok (.enter 105 args) w := by kernel_rfl
theorem cf_65 (args : Array Value) (w : World) : (callFunc 65 args).run Try.prog w = .ok (.enter 65 args) w := by kernel_rfl
theorem cf_66 (args : Array Value) (w : World) : (callFunc 66 args).run Try.prog w = .ok (.enter 66 args) w := by kernel_rfl
theorem bx_31 (x : Span) (w : World) : (Instr.box 31 (Span.val x)).run Try.prog w = .ok (.pointer (some ⟨w.heap.size, 0, none⟩)) (w.alloc (.cells ((Span.cells x)).toArray 31)) := by kernel_rfl
theorem fa_31_0 (a : Addr) (w : World) : (Instr.fieldAt 31 (.pointer (some a)) 0).run Try.prog w = .ok (.pointer (some (a.add 0))) w := by kernel_rfl
theorem fa_31_1 (a : Addr) (w : World) : (Instr.fieldAt 31 (.pointer (some a)) 1).run Try.prog w = .ok (.pointer (some (a.add 1))) w := by kernel_rfl
theorem bx_49 (x : api_Fact) (w : World) : (Instr.box 49 (api_Fact.val x)).run Try.prog w = .ok (.pointer (some ⟨w.heap.size, 0, none⟩)) (w.alloc (.cells ((api_Fact.cells x)).toArray 49)) := by kernel_rfl
theorem cf_63 (args : Array Value) (w : World) : (callFunc 63 args).run Try.prog w = .ok (.enter 63 args) w := by kernel_rfl
theorem al_9 (w : World) : (Instr.alloc 9 true (.tuple #[])).run Try.prog w = .ok (.pointer (some ⟨w.heap.size, 0, none⟩)) (w.alloc (.cells ([Value.string (⟨#[]⟩ : ByteArray)]).toArray 9)) := by kernel_rfl
theorem st_9 (x : ByteArray) (a : Addr) (w : World) : (Instr.storeAt 9 (.pointer (some a)) (.string x)).run Try.prog w = (storeCells a [Value.string x]).run Try.prog w := by kernel_rfl
theorem one_9 (x : ByteArray) : ∀ u ∈ [Value.string x], u.oneCell' = true := by simp [Value.oneCell']; try exact rfl
theorem fa_49_0 (a : Addr) (w : World) : (Instr.fieldAt 49 (.pointer (some a)) 0).run Try.prog w = .ok (.pointer (some (a.add 0))) w := by kernel_rfl
theorem fa_49_1 (a : Addr) (w : World) : (Instr.fieldAt 49 (.pointer (some a)) 1).run Try.prog w = .ok (.pointer (some (a.add 1))) w := by kernel_rfl
theorem fa_49_2 (a : Addr) (w : World) : (Instr.fieldAt 49 (.pointer (some a)) 2).run Try.prog w = .ok (.pointer (some (a.add 2))) w := by kernel_rfl
def fnV_90 : ByteArray → List Value := fun x => [.string x]
def fnW_90 : Bool → Value := fun x => .bool x
theorem cf_64 (args : Array Value) (w : World) : (callFunc 64 args).run Try.prog w = .ok (.enter 64 args) w := by kernel_rfl
theorem cf_67 (args : Array Value) (w : World) : (callFunc 67 args).run Try.prog w = .ok (.enter 67 args) w := by kernel_rfl
theorem lr_31 (a : Addr) (w : World) : (Instr.loadAt 31 (.pointer (some a))).run Try.prog w = ((do pure (.agg (← loadCells a 2))) : Sem Value).run Try.prog w := by kernel_rfl
theorem cf_68 (args : Array Value) (w : World) : (callFunc 68 args).run Try.prog w = .ok (.enter 68 args) w := by kernel_rfl
theorem cf_50 (args : Array Value) (w : World) : (callFunc 50 args).run Try.prog w = .ok (.enter 50 args) w := by kernel_rfl
theorem fa_49_3 (a : Addr) (w : World) : (Instr.fieldAt 49 (.pointer (some a)) 3).run Try.prog w = .ok (.pointer (some (a.add 3))) w := by kernel_rfl
theorem cf_40 (args : Array Value) (w : World) : (callFunc 40 args).run Try.prog w = .ok (.enter 40 args) w := by kernel_rfl
theorem cf_69 (args : Array Value) (w : World) : (callFunc 69 args).run Try.prog w = .ok (.enter 69 args) w := by kernel_rfl
theorem al_31 (w : World) : (Instr.alloc 31 true (.tuple #[])).run Try.prog w = .ok (.pointer (some ⟨w.heap.size, 0, none⟩)) (w.alloc (.cells ((Span.cells (⟨0, 0⟩ : Span))).toArray 31)) := by kernel_rfl
theorem cf_51 (args : Array Value) (w : World) : (callFunc 51 args).run Try.prog w = .ok (.enter 51 args) w := by kernel_rfl
theorem cf_52 (args : Array Value) (w : World) : (callFunc 52 args).run Try.prog w = .ok (.enter 52 args) w := by kernel_rfl
theorem bd_31_  (w : World) : (Instr.build 31 #[]).run Try.prog w = .ok (Span.val ⟨0, 0⟩) w := by kernel_rfl
theorem lr_32 (a : Addr) (w : World) : (Instr.loadAt 32 (.pointer (some a))).run Try.prog w = (load a).run Try.prog w := by kernel_rfl
theorem ia_32 {a : Addr} {n c : Nat} {i : Int} {w : World} (h : 0 ≤ i ∧ i < (n : Int)) : (Instr.indexAt 32 (.slice (some a) n c) (.int .i64 i)).run Try.prog w = .ok (.pointer (some (a.add (i.toNat * 2)))) w := ia_slice (e := 31) (by kernel_rfl) (by kernel_rfl) h
theorem cv_99_5 (n : Int) (w : World) : (convert 99 5 (.int .u32 n)).run Try.prog w = .ok (.int .u8 (IntKind.u8.wrap n)) w := by kernel_rfl
theorem cv_5_3 (n : Int) (w : World) : (convert 5 3 (.int .u8 n)).run Try.prog w = .ok (.int .i64 (IntKind.i64.wrap n)) w := by kernel_rfl
theorem cv_101_5 (n : Int) (w : World) : (convert 101 5 (.int .u64 n)).run Try.prog w = .ok (.int .u8 (IntKind.u8.wrap n)) w := by kernel_rfl
theorem cf_80 (args : Array Value) (w : World) : (callFunc 80 args).run Try.prog w = .ok (.enter 80 args) w := by kernel_rfl
theorem cv_3_81 (n : Int) (w : World) : (convert 3 81 (.int .i64 n)).run Try.prog w = .ok (.int .u64 (IntKind.u64.wrap n)) w := by kernel_rfl
theorem cf_56 (args : Array Value) (w : World) : (callFunc 56 args).run Try.prog w = .ok (.enter 56 args) w := by kernel_rfl
theorem al_32 (w : World) : (Instr.alloc 32 true (.tuple #[])).run Try.prog w = .ok (.pointer (some ⟨w.heap.size, 0, none⟩)) (w.alloc (.cells ([Value.slice none 0 0]).toArray 32)) := by kernel_rfl
theorem len_32 {a : Option Addr} {n c : Nat} {ty : TypeId} {w : World} : (Builtin.len_ #[32] ty #[.slice a n c]).run Try.prog w = .ok (.int .i64 n) w := by kernel_rfl
theorem cf_42 (args : Array Value) (w : World) : (callFunc 42 args).run Try.prog w = .ok (.enter 42 args) w := by kernel_rfl
theorem bs_32_1 (x0 : Span) (w : World) : (Instr.buildSlice 32 1 #[(0, Span.val x0)]).run Try.prog w = .ok (.slice (some ⟨w.heap.size, 0, none⟩) 1 1) (w.alloc (.cells (([x0]).flatMap Span.cells).toArray 31)) := by kernel_rfl
theorem si_32 : Try.prog.underlying 32 = some (.slice 31) := by kernel_rfl
theorem se_31 : (Try.prog.info? 31).map (fun i => (i.zero.map (·.cells.size), i.size, i.bytes)) = some (some 2, 2, 16) := by kernel_rfl
theorem sz_31 : (Try.prog.info? 31).map (·.size) = some 2 := by kernel_rfl
theorem stv_32 {v : Value} (h : ∃ a n c, v = Value.slice a n c) (a : Addr) (w : World) : (Instr.storeAt 32 (.pointer (some a)) v).run Try.prog w = (storeCells a [v]).run Try.prog w := by
  obtain ⟨_, _, _, rfl⟩ := h
  kernel_rfl
theorem mi_32 {v : Value} (w : World) : (Instr.makeInterface 32 v).run Try.prog w = .ok (.iface 32 v) w := by kernel_rfl
theorem cf_43 (args : Array Value) (w : World) : (callFunc 43 args).run Try.prog w = .ok (.enter 43 args) w := by kernel_rfl
theorem cf_30 (args : Array Value) (w : World) : (callFunc 30 args).run Try.prog w = .ok (.enter 30 args) w := by kernel_rfl
theorem cf_47 (args : Array Value) (w : World) : (callFunc 47 args).run Try.prog w = .ok (.enter 47 args) w := by kernel_rfl
theorem cf_41 (args : Array Value) (w : World) : (callFunc 41 args).run Try.prog w = .ok (.enter 41 args) w := by kernel_rfl
theorem cf_33 (args : Array Value) (w : World) : (callFunc 33 args).run Try.prog w = .ok (.enter 33 args) w := by kernel_rfl
theorem cf_29 (args : Array Value) (w : World) : (callFunc 29 args).run Try.prog w = .ok (.enter 29 args) w := by kernel_rfl
theorem cf_13 (args : Array Value) (w : World) : (callFunc 13 args).run Try.prog w = .ok (.enter 13 args) w := by kernel_rfl
theorem fa_57_0 (a : Addr) (w : World) : (Instr.fieldAt 57 (.pointer (some a)) 0).run Try.prog w = .ok (.pointer (some (a.add 0))) w := by kernel_rfl
theorem lr_55 (a : Addr) (w : World) : (Instr.loadAt 55 (.pointer (some a))).run Try.prog w = (load a).run Try.prog w := by kernel_rfl
theorem len_55 {a : Option Addr} {n c : Nat} {ty : TypeId} {w : World} : (Builtin.len_ #[55] ty #[.slice a n c]).run Try.prog w = .ok (.int .i64 n) w := by kernel_rfl
theorem ia_55 {a : Addr} {n c : Nat} {i : Int} {w : World} (h : 0 ≤ i ∧ i < (n : Int)) : (Instr.indexAt 55 (.slice (some a) n c) (.int .i64 i)).run Try.prog w = .ok (.pointer (some (a.add (i.toNat * 1)))) w := ia_slice (e := 3) (by kernel_rfl) (by kernel_rfl) h
theorem si_55 : Try.prog.underlying 55 = some (.slice 3) := by kernel_rfl
theorem se_3 : (Try.prog.info? 3).map (fun i => (i.zero.map (·.cells.size), i.size, i.bytes)) = some (some 1, 1, 8) := by kernel_rfl
theorem sz_3 : (Try.prog.info? 3).map (·.size) = some 1 := by kernel_rfl
theorem stv_55 {v : Value} (h : ∃ a n c, v = Value.slice a n c) (a : Addr) (w : World) : (Instr.storeAt 55 (.pointer (some a)) v).run Try.prog w = (storeCells a [v]).run Try.prog w := by
  obtain ⟨_, _, _, rfl⟩ := h
  kernel_rfl
theorem al_57 (w : World) : (Instr.alloc 57 true (.tuple #[])).run Try.prog w = .ok (.pointer (some ⟨w.heap.size, 0, none⟩)) (w.alloc (.cells ([(.slice none 0 0 : Value)]).toArray 57)) := by kernel_rfl
theorem cf_15 (args : Array Value) (w : World) : (callFunc 15 args).run Try.prog w = .ok (.enter 15 args) w := by kernel_rfl
theorem cf_34 (args : Array Value) (w : World) : (callFunc 34 args).run Try.prog w = .ok (.enter 34 args) w := by kernel_rfl
theorem bs_55_1 (x0 : Int) (w : World) : (Instr.buildSlice 55 1 #[(0, .int .i64 x0)]).run Try.prog w = .ok (.slice (some ⟨w.heap.size, 0, none⟩) 1 1) (w.alloc (.cells (([x0]).flatMap (fun x : Int => [Value.int .i64 x])).toArray 3)) := by kernel_rfl
theorem cf_17 (args : Array Value) (w : World) : (callFunc 17 args).run Try.prog w = .ok (.enter 17 args) w := by kernel_rfl
theorem eqs_31 (d : Nat) (x y : Span) (w : World) : (Op.equalIn (d + 2) 31 (Span.val x) (Span.val y)).run Try.prog w = .ok (Span.eqb x y) w := (run_equalIn_agg w _ 31 _ _ (by kernel_rfl) (by kernel_rfl)).trans (eqF_cons (t := 3) (off := 0) (a := .int .i64 x.From) (b := .int .i64 y.From) (by kernel_rfl) (by kernel_rfl) (by kernel_rfl) (run_equalIn_int _ _ _ _ .i64 _ _ (by kernel_rfl)) (eqF_cons (t := 3) (off := 1) (a := .int .i64 x.To) (b := .int .i64 y.To) (by kernel_rfl) (by kernel_rfl) (by kernel_rfl) (run_equalIn_int _ _ _ _ .i64 _ _ (by kernel_rfl)) (eqF_nil (by kernel_rfl))))
theorem cf_97 (args : Array Value) (w : World) : (callFunc 97 args).run Try.prog w = .ok (.enter 97 args) w := by kernel_rfl
theorem cf_89 (args : Array Value) (w : World) : (callFunc 89 args).run Try.prog w = .ok (.enter 89 args) w := by kernel_rfl
theorem cf_58 (args : Array Value) (w : World) : (callFunc 58 args).run Try.prog w = .ok (.enter 58 args) w := by kernel_rfl
theorem cf_45 (args : Array Value) (w : World) : (callFunc 45 args).run Try.prog w = .ok (.enter 45 args) w := by kernel_rfl
theorem cf_90 (args : Array Value) (w : World) : (callFunc 90 args).run Try.prog w = .ok (.enter 90 args) w := by kernel_rfl
theorem cf_59 (args : Array Value) (w : World) : (callFunc 59 args).run Try.prog w = .ok (.enter 59 args) w := by kernel_rfl
theorem cf_60 (args : Array Value) (w : World) : (callFunc 60 args).run Try.prog w = .ok (.enter 60 args) w := by kernel_rfl
theorem len_85 {a : Option Addr} {n c : Nat} {ty : TypeId} {w : World} : (Builtin.len_ #[85] ty #[.slice a n c]).run Try.prog w = .ok (.int .i64 n) w := by kernel_rfl
theorem ia_85 {a : Addr} {n c : Nat} {i : Int} {w : World} (h : 0 ≤ i ∧ i < (n : Int)) : (Instr.indexAt 85 (.slice (some a) n c) (.int .i64 i)).run Try.prog w = .ok (.pointer (some (a.add (i.toNat * 1)))) w := ia_slice (e := 32) (by kernel_rfl) (by kernel_rfl) h
theorem cf_61 (args : Array Value) (w : World) : (callFunc 61 args).run Try.prog w = .ok (.enter 61 args) w := by kernel_rfl
theorem cf_62 (args : Array Value) (w : World) : (callFunc 62 args).run Try.prog w = .ok (.enter 62 args) w := by kernel_rfl
theorem cf_37 (args : Array Value) (w : World) : (callFunc 37 args).run Try.prog w = .ok (.enter 37 args) w := by kernel_rfl
theorem bsv_85 {v0 v1 : Value} (h0 : ∃ a n c, v0 = Value.slice a n c) (h1 : ∃ a n c, v1 = Value.slice a n c) (w : World) : (Instr.buildSlice 85 2 #[(0, v0), (1, v1)]).run Try.prog w = .ok (.slice (some ⟨w.heap.size, 0, none⟩) 2 2) (w.alloc (.cells [v0, v1].toArray 32)) := by
  obtain ⟨_, _, _, rfl⟩ := h0
  obtain ⟨_, _, _, rfl⟩ := h1
  kernel_rfl
theorem cf_48 (args : Array Value) (w : World) : (callFunc 48 args).run Try.prog w = .ok (.enter 48 args) w := by kernel_rfl
theorem cf_27 (args : Array Value) (w : World) : (callFunc 27 args).run Try.prog w = .ok (.enter 27 args) w := by kernel_rfl
theorem cf_49 (args : Array Value) (w : World) : (callFunc 49 args).run Try.prog w = .ok (.enter 49 args) w := by kernel_rfl
theorem cf_35 (args : Array Value) (w : World) : (callFunc 35 args).run Try.prog w = .ok (.enter 35 args) w := by kernel_rfl
theorem cf_46 (args : Array Value) (w : World) : (callFunc 46 args).run Try.prog w = .ok (.enter 46 args) w := by kernel_rfl
theorem cf_22 (args : Array Value) (w : World) : (callFunc 22 args).run Try.prog w = .ok (.enter 22 args) w := by kernel_rfl
theorem cf_32 (args : Array Value) (w : World) : (callFunc 32 args).run Try.prog w = .ok (.enter 32 args) w := by kernel_rfl
theorem cf_31 (args : Array Value) (w : World) : (callFunc 31 args).run Try.prog w = .ok (.enter 31 args) w := by kernel_rfl
theorem cf_14 (args : Array Value) (w : World) : (callFunc 14 args).run Try.prog w = .ok (.enter 14 args) w := by kernel_rfl
theorem cf_8 (args : Array Value) (w : World) : (callFunc 8 args).run Try.prog w = .ok (.enter 8 args) w := by kernel_rfl
theorem cf_10 (args : Array Value) (w : World) : (callFunc 10 args).run Try.prog w = .ok (.enter 10 args) w := by kernel_rfl
theorem cf_9 (args : Array Value) (w : World) : (callFunc 9 args).run Try.prog w = .ok (.enter 9 args) w := by kernel_rfl
theorem cf_11 (args : Array Value) (w : World) : (callFunc 11 args).run Try.prog w = .ok (.enter 11 args) w := by kernel_rfl
theorem cf_12 (args : Array Value) (w : World) : (callFunc 12 args).run Try.prog w = .ok (.enter 12 args) w := by kernel_rfl
theorem cf_16 (args : Array Value) (w : World) : (callFunc 16 args).run Try.prog w = .ok (.enter 16 args) w := by kernel_rfl
theorem cf_18 (args : Array Value) (w : World) : (callFunc 18 args).run Try.prog w = .ok (.enter 18 args) w := by kernel_rfl
theorem cf_19 (args : Array Value) (w : World) : (callFunc 19 args).run Try.prog w = .ok (.enter 19 args) w := by kernel_rfl
theorem cf_20 (args : Array Value) (w : World) : (callFunc 20 args).run Try.prog w = .ok (.enter 20 args) w := by kernel_rfl
theorem cf_36 (args : Array Value) (w : World) : (callFunc 36 args).run Try.prog w = .ok (.enter 36 args) w := by kernel_rfl
theorem cf_21 (args : Array Value) (w : World) : (callFunc 21 args).run Try.prog w = .ok (.enter 21 args) w := by kernel_rfl
theorem cf_23 (args : Array Value) (w : World) : (callFunc 23 args).run Try.prog w = .ok (.enter 23 args) w := by kernel_rfl
theorem cf_24 (args : Array Value) (w : World) : (callFunc 24 args).run Try.prog w = .ok (.enter 24 args) w := by kernel_rfl
theorem cf_25 (args : Array Value) (w : World) : (callFunc 25 args).run Try.prog w = .ok (.enter 25 args) w := by kernel_rfl
end Go.PL
