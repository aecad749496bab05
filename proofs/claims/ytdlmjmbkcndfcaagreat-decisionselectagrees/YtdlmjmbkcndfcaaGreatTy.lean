/- Facts about the types and functions of this translation, each checked by the kernel (printed by a program). -/
import Derived.Test.YtdlmjmbkcndfcaaGreatF
import Derived.Test.YtdlmjmbkcndfcaaGreatProg
set_option linter.unusedSimpArgs false
set_option linter.unusedVariables false
set_option maxRecDepth 10000
namespace Go.PL
open Go Go.Proofs
theorem mixed : Tryz.prog.follows .mixedOrders = true := by kernel_rfl
theorem len_24 {a : Option Addr} {n c : Nat} {ty : TypeId} {w : World} : (Builtin.len_ #[24] ty #[.slice a n c]).run Tryz.prog w = .ok (.int .i64 n) w := by kernel_rfl
theorem ia_24 {a : Addr} {n c : Nat} {i : Int} {w : World} (h : 0 ≤ i ∧ i < (n : Int)) : (Instr.indexAt 24 (.slice (some a) n c) (.int .i64 i)).run Tryz.prog w = .ok (.pointer (some (a.add (i.toNat * 6)))) w := ia_slice (e := 56) (by kernel_rfl) (by kernel_rfl) h
theorem fa_56_0 (a : Addr) (w : World) : (Instr.fieldAt 56 (.pointer (some a)) 0).run Tryz.prog w = .ok (.pointer (some (a.add 0))) w := by kernel_rfl
theorem lr_3 (a : Addr) (w : World) : (Instr.loadAt 3 (.pointer (some a))).run Tryz.prog w = (load a).run Tryz.prog w := by kernel_rfl
theorem cf_10 (args : Array Value) (w : World) : (callFunc 10 args).run Tryz.prog w = .ok (.enter 10 args) w := by kernel_rfl
theorem fa_56_1 (a : Addr) (w : World) : (Instr.fieldAt 56 (.pointer (some a)) 1).run Tryz.prog w = .ok (.pointer (some (a.add 1))) w := by kernel_rfl
theorem fa_56_2 (a : Addr) (w : World) : (Instr.fieldAt 56 (.pointer (some a)) 2).run Tryz.prog w = .ok (.pointer (some (a.add 2))) w := by kernel_rfl
theorem fa_56_3 (a : Addr) (w : World) : (Instr.fieldAt 56 (.pointer (some a)) 3).run Tryz.prog w = .ok (.pointer (some (a.add 3))) w := by kernel_rfl
theorem fa_56_5 (a : Addr) (w : World) : (Instr.fieldAt 56 (.pointer (some a)) 5).run Tryz.prog w = .ok (.pointer (some (a.add 5))) w := by kernel_rfl
theorem bd_23_0_1_2_3_5 (x0 : Int) (x1 : Int) (x2 : Int) (x3 : Int) (x5 : Int) (w : World) : (Instr.build 23 #[(0, .int .i64 x0), (1, .int .i64 x1), (2, .int .i64 x2), (3, .int .i64 x3), (5, .int .i64 x5)]).run Tryz.prog w = .ok (Claim.val ⟨x0, x1, x2, x3, 0, x5⟩) w := by kernel_rfl
theorem al_23 (w : World) : (Instr.alloc 23 true (.tuple #[])).run Tryz.prog w = .ok (.pointer (some ⟨w.heap.size, 0, none⟩)) (w.alloc (.cells ((Claim.cells (⟨0, 0, 0, 0, 0, 0⟩ : Claim))).toArray 23)) := by kernel_rfl
theorem st_23 (x : Claim) (a : Addr) (w : World) : (Instr.storeAt 23 (.pointer (some a)) (Claim.val x)).run Tryz.prog w = (storeCells a (Claim.cells x)).run Tryz.prog w := by kernel_rfl
theorem one_23 (x : Claim) : ∀ u ∈ (Claim.cells x), u.oneCell' = true := by simp [Value.oneCell', Claim.cells]; try exact rfl
theorem lr_23 (a : Addr) (w : World) : (Instr.loadAt 23 (.pointer (some a))).run Tryz.prog w = ((do pure (.agg (← loadCells a 6))) : Sem Value).run Tryz.prog w := by kernel_rfl
theorem bs_25_1 (x0 : Claim) (w : World) : (Instr.buildSlice 25 1 #[(0, Claim.val x0)]).run Tryz.prog w = .ok (.slice (some ⟨w.heap.size, 0, none⟩) 1 1) (w.alloc (.cells (([x0]).flatMap Claim.cells).toArray 23)) := by kernel_rfl
theorem si_25 : Tryz.prog.underlying 25 = some (.slice 23) := by kernel_rfl
theorem se_23 : (Tryz.prog.info? 23).map (fun i => (i.zero.map (·.cells.size), i.size, i.bytes)) = some (some 6, 6, 48) := by kernel_rfl
theorem sz_23 : (Tryz.prog.info? 23).map (·.size) = some 6 := by kernel_rfl
theorem fa_23_3 (a : Addr) (w : World) : (Instr.fieldAt 23 (.pointer (some a)) 3).run Tryz.prog w = .ok (.pointer (some (a.add 3))) w := by kernel_rfl
theorem fa_56_4 (a : Addr) (w : World) : (Instr.fieldAt 56 (.pointer (some a)) 4).run Tryz.prog w = .ok (.pointer (some (a.add 4))) w := by kernel_rfl
theorem fa_23_4 (a : Addr) (w : World) : (Instr.fieldAt 23 (.pointer (some a)) 4).run Tryz.prog w = .ok (.pointer (some (a.add 4))) w := by kernel_rfl
theorem st_3 (x : Int) (a : Addr) (w : World) : (Instr.storeAt 3 (.pointer (some a)) (.int .i64 x)).run Tryz.prog w = (storeCells a [Value.int .i64 x]).run Tryz.prog w := by kernel_rfl
theorem one_3 (x : Int) : ∀ u ∈ [Value.int .i64 x], u.oneCell' = true := by simp [Value.oneCell']; try exact rfl
theorem fa_23_2 (a : Addr) (w : World) : (Instr.fieldAt 23 (.pointer (some a)) 2).run Tryz.prog w = .ok (.pointer (some (a.add 2))) w := by kernel_rfl
theorem cf_88 (args : Array Value) (w : World) : (callFunc 88 args).run Tryz.prog w = .ok (.enter 88 args) w := by kernel_rfl
theorem al_120 (w : World) : (Instr.alloc 120 true (.tuple #[])).run Tryz.prog w = .ok (.pointer (some ⟨w.heap.size, 0, none⟩)) (w.alloc (.cells (((List.replicate 12 0).flatMap (fun x : Int => [Value.int .i64 x]))).toArray 120)) := by kernel_rfl
theorem st_120 (x : List Int) (hx : x.length = 12) (a : Addr) (w : World) : (Instr.storeAt 120 (.pointer (some a)) (arrV (fun x : Int => [Value.int .i64 x]) x)).run Tryz.prog w = (storeCells a (x.flatMap (fun x : Int => [Value.int .i64 x]))).run Tryz.prog w := st_array (n := 1) (by kernel_rfl) (fun _ => rfl) hx
theorem one_120 (x : List Int) : ∀ u ∈ (x.flatMap (fun x : Int => [Value.int .i64 x])), u.oneCell' = true := one_flatMap one_3
theorem ia_120 {a : Addr} {i : Int} {w : World} (h : 0 ≤ i ∧ i < ((12 : Nat) : Int)) : (Instr.indexAt 120 (.pointer (some a)) (.int .i64 i)).run Tryz.prog w = .ok (.pointer (some (a.add (i.toNat * 1)))) w := ia_array (e := 3) (by kernel_rfl) (by kernel_rfl) h
theorem cf_85 (args : Array Value) (w : World) : (callFunc 85 args).run Tryz.prog w = .ok (.enter 85 args) w := by kernel_rfl
theorem cf_54 (args : Array Value) (w : World) : (callFunc 54 args).run Tryz.prog w = .ok (.enter 54 args) w := by kernel_rfl
theorem cf_86 (args : Array Value) (w : World) : (callFunc 86 args).run Tryz.prog w = .ok (.enter 86 args) w := by kernel_rfl
theorem cf_53 (args : Array Value) (w : World) : (callFunc 53 args).run Tryz.prog w = .ok (.enter 53 args) w := by kernel_rfl
theorem cf_49 (args : Array Value) (w : World) : (callFunc 49 args).run Tryz.prog w = .ok (.enter 49 args) w := by kernel_rfl
theorem cf_32 (args : Array Value) (w : World) : (callFunc 32 args).run Tryz.prog w = .ok (.enter 32 args) w := by kernel_rfl
theorem cf_31 (args : Array Value) (w : World) : (callFunc 31 args).run Tryz.prog w = .ok (.enter 31 args) w := by kernel_rfl
theorem bx_23 (x : Claim) (w : World) : (Instr.box 23 (Claim.val x)).run Tryz.prog w = .ok (.pointer (some ⟨w.heap.size, 0, none⟩)) (w.alloc (.cells ((Claim.cells x)).toArray 23)) := by kernel_rfl
theorem fa_23_5 (a : Addr) (w : World) : (Instr.fieldAt 23 (.pointer (some a)) 5).run Tryz.prog w = .ok (.pointer (some (a.add 5))) w := by kernel_rfl
theorem cf_27 (args : Array Value) (w : World) : (callFunc 27 args).run Tryz.prog w = .ok (.enter 27 args) w := by kernel_rfl
theorem cf_16 (args : Array Value) (w : World) : (callFunc 16 args).run Tryz.prog w = .ok (.enter 16 args) w := by kernel_rfl
theorem cf_132 (args : Array Value) (w : World) : (callFunc 132 args).run Tryz.prog w = .ok (.enter 132 args) w := by kernel_rfl
theorem cf_87 (args : Array Value) (w : World) : (callFunc 87 args).run Tryz.prog w = .ok (.enter 87 args) w := by kernel_rfl
theorem cf_50 (args : Array Value) (w : World) : (callFunc 50 args).run Tryz.prog w = .ok (.enter 50 args) w := by kernel_rfl
theorem cf_51 (args : Array Value) (w : World) : (callFunc 51 args).run Tryz.prog w = .ok (.enter 51 args) w := by kernel_rfl
theorem cf_30 (args : Array Value) (w : World) : (callFunc 30 args).run Tryz.prog w = .ok (.enter 30 args) w := by kernel_rfl
theorem cf_52 (args : Array Value) (w : World) : (callFunc 52 args).run Tryz.prog w = .ok (.enter 52 args) w := by kernel_rfl
theorem cf_28 (args : Array Value) (w : World) : (callFunc 28 args).run Tryz.prog w = .ok (.enter 28 args) w := by kernel_rfl
theorem cf_29 (args : Array Value) (w : World) : (callFunc 29 args).run Tryz.prog w = .ok (.enter 29 args) w := by kernel_rfl
theorem fa_23_0 (a : Addr) (w : World) : (Instr.fieldAt 23 (.pointer (some a)) 0).run Tryz.prog w = .ok (.pointer (some (a.add 0))) w := by kernel_rfl
theorem fa_23_1 (a : Addr) (w : World) : (Instr.fieldAt 23 (.pointer (some a)) 1).run Tryz.prog w = .ok (.pointer (some (a.add 1))) w := by kernel_rfl
theorem cf_11 (args : Array Value) (w : World) : (callFunc 11 args).run Tryz.prog w = .ok (.enter 11 args) w := by kernel_rfl
theorem cf_12 (args : Array Value) (w : World) : (callFunc 12 args).run Tryz.prog w = .ok (.enter 12 args) w := by kernel_rfl
theorem cv_174_5 (n : Int) (w : World) : (convert 174 5 (.int .u32 n)).run Tryz.prog w = .ok (.int .u8 (IntKind.u8.wrap n)) w := by kernel_rfl
theorem cv_5_3 (n : Int) (w : World) : (convert 5 3 (.int .u8 n)).run Tryz.prog w = .ok (.int .i64 (IntKind.i64.wrap n)) w := by kernel_rfl
theorem cv_176_5 (n : Int) (w : World) : (convert 176 5 (.int .u64 n)).run Tryz.prog w = .ok (.int .u8 (IntKind.u8.wrap n)) w := by kernel_rfl
theorem cf_143 (args : Array Value) (w : World) : (callFunc 143 args).run Tryz.prog w = .ok (.enter 143 args) w := by kernel_rfl
def fnV_82 : (Claim × Claim) → List Value := fun x => [Claim.val x.1, Claim.val x.2]
def fnW_82 : Int → Value := fun x => .int .i64 x
theorem ia_25 {a : Addr} {n c : Nat} {i : Int} {w : World} (h : 0 ≤ i ∧ i < (n : Int)) : (Instr.indexAt 25 (.slice (some a) n c) (.int .i64 i)).run Tryz.prog w = .ok (.pointer (some (a.add (i.toNat * 6)))) w := ia_slice (e := 23) (by kernel_rfl) (by kernel_rfl) h
theorem cf_133 (args : Array Value) (w : World) : (callFunc 133 args).run Tryz.prog w = .ok (.enter 133 args) w := by kernel_rfl
theorem len_25 {a : Option Addr} {n c : Nat} {ty : TypeId} {w : World} : (Builtin.len_ #[25] ty #[.slice a n c]).run Tryz.prog w = .ok (.int .i64 n) w := by kernel_rfl
theorem cv_3_124 (n : Int) (w : World) : (convert 3 124 (.int .i64 n)).run Tryz.prog w = .ok (.int .u64 (IntKind.u64.wrap n)) w := by kernel_rfl
theorem cf_92 (args : Array Value) (w : World) : (callFunc 92 args).run Tryz.prog w = .ok (.enter 92 args) w := by kernel_rfl
theorem cf_91 (args : Array Value) (w : World) : (callFunc 91 args).run Tryz.prog w = .ok (.enter 91 args) w := by kernel_rfl
theorem cf_90 (args : Array Value) (w : World) : (callFunc 90 args).run Tryz.prog w = .ok (.enter 90 args) w := by kernel_rfl
theorem len_42 {a : Option Addr} {n c : Nat} {ty : TypeId} {w : World} : (Builtin.len_ #[42] ty #[.slice a n c]).run Tryz.prog w = .ok (.int .i64 n) w := by kernel_rfl
theorem ia_42 {a : Addr} {n c : Nat} {i : Int} {w : World} (h : 0 ≤ i ∧ i < (n : Int)) : (Instr.indexAt 42 (.slice (some a) n c) (.int .i64 i)).run Tryz.prog w = .ok (.pointer (some (a.add (i.toNat * 1)))) w := ia_slice (e := 3) (by kernel_rfl) (by kernel_rfl) h
theorem cf_59 (args : Array Value) (w : World) : (callFunc 59 args).run Tryz.prog w = .ok (.enter 59 args) w := by kernel_rfl
theorem bs_42_6 (x0 : Int) (x1 : Int) (x2 : Int) (x3 : Int) (x4 : Int) (x5 : Int) (w : World) : (Instr.buildSlice 42 6 #[(0, .int .i64 x0), (1, .int .i64 x1), (2, .int .i64 x2), (3, .int .i64 x3), (4, .int .i64 x4), (5, .int .i64 x5)]).run Tryz.prog w = .ok (.slice (some ⟨w.heap.size, 0, none⟩) 6 6) (w.alloc (.cells (([x0, x1, x2, x3, x4, x5]).flatMap (fun x : Int => [Value.int .i64 x])).toArray 3)) := by kernel_rfl
theorem cf_58 (args : Array Value) (w : World) : (callFunc 58 args).run Tryz.prog w = .ok (.enter 58 args) w := by kernel_rfl
theorem eqs_23 (d : Nat) (x y : Claim) (w : World) : (Op.equalIn (d + 2) 23 (Claim.val x) (Claim.val y)).run Tryz.prog w = .ok (Claim.eqb x y) w := (run_equalIn_agg w _ 23 _ _ (by kernel_rfl) (by kernel_rfl)).trans (eqF_cons (t := 3) (off := 0) (a := .int .i64 x.Issuer) (b := .int .i64 y.Issuer) (by kernel_rfl) (by kernel_rfl) (by kernel_rfl) (run_equalIn_int _ _ _ _ .i64 _ _ (by kernel_rfl)) (eqF_cons (t := 3) (off := 1) (a := .int .i64 x.Number) (b := .int .i64 y.Number) (by kernel_rfl) (by kernel_rfl) (by kernel_rfl) (run_equalIn_int _ _ _ _ .i64 _ _ (by kernel_rfl)) (eqF_cons (t := 3) (off := 2) (a := .int .i64 x.Person) (b := .int .i64 y.Person) (by kernel_rfl) (by kernel_rfl) (by kernel_rfl) (run_equalIn_int _ _ _ _ .i64 _ _ (by kernel_rfl)) (eqF_cons (t := 3) (off := 3) (a := .int .i64 x.Benefit) (b := .int .i64 y.Benefit) (by kernel_rfl) (by kernel_rfl) (by kernel_rfl) (run_equalIn_int _ _ _ _ .i64 _ _ (by kernel_rfl)) (eqF_cons (t := 3) (off := 4) (a := .int .i64 x.Ref) (b := .int .i64 y.Ref) (by kernel_rfl) (by kernel_rfl) (by kernel_rfl) (run_equalIn_int _ _ _ _ .i64 _ _ (by kernel_rfl)) (eqF_cons (t := 3) (off := 5) (a := .int .i64 x.Day) (b := .int .i64 y.Day) (by kernel_rfl) (by kernel_rfl) (by kernel_rfl) (run_equalIn_int _ _ _ _ .i64 _ _ (by kernel_rfl)) (eqF_nil (by kernel_rfl))))))))
theorem zv_23 (w : World) : (zeroValue 23).run Tryz.prog w = .ok (Claim.val (⟨0, 0, 0, 0, 0, 0⟩ : Claim)) w := by kernel_rfl
theorem cf_13 (args : Array Value) (w : World) : (callFunc 13 args).run Tryz.prog w = .ok (.enter 13 args) w := by kernel_rfl
theorem cf_61 (args : Array Value) (w : World) : (callFunc 61 args).run Tryz.prog w = .ok (.enter 61 args) w := by kernel_rfl
theorem cf_60 (args : Array Value) (w : World) : (callFunc 60 args).run Tryz.prog w = .ok (.enter 60 args) w := by kernel_rfl
theorem cf_62 (args : Array Value) (w : World) : (callFunc 62 args).run Tryz.prog w = .ok (.enter 62 args) w := by kernel_rfl
theorem cf_89 (args : Array Value) (w : World) : (callFunc 89 args).run Tryz.prog w = .ok (.enter 89 args) w := by kernel_rfl
theorem bs_42_2 (x0 : Int) (x1 : Int) (w : World) : (Instr.buildSlice 42 2 #[(0, .int .i64 x0), (1, .int .i64 x1)]).run Tryz.prog w = .ok (.slice (some ⟨w.heap.size, 0, none⟩) 2 2) (w.alloc (.cells (([x0, x1]).flatMap (fun x : Int => [Value.int .i64 x])).toArray 3)) := by kernel_rfl
theorem al_78 (w : World) : (Instr.alloc 78 true (.tuple #[])).run Tryz.prog w = .ok (.pointer (some ⟨w.heap.size, 0, none⟩)) (w.alloc (.cells (((List.replicate 6 false).flatMap (fun x : Bool => [Value.bool x]))).toArray 78)) := by kernel_rfl
theorem al_79 (w : World) : (Instr.alloc 79 true (.tuple #[])).run Tryz.prog w = .ok (.pointer (some ⟨w.heap.size, 0, none⟩)) (w.alloc (.cells (((List.replicate 100 false).flatMap (fun x : Bool => [Value.bool x]))).toArray 79)) := by kernel_rfl
theorem cf_55 (args : Array Value) (w : World) : (callFunc 55 args).run Tryz.prog w = .ok (.enter 55 args) w := by kernel_rfl
theorem ia_79 {a : Addr} {i : Int} {w : World} (h : 0 ≤ i ∧ i < ((100 : Nat) : Int)) : (Instr.indexAt 79 (.pointer (some a)) (.int .i64 i)).run Tryz.prog w = .ok (.pointer (some (a.add (i.toNat * 1)))) w := ia_array (e := 4) (by kernel_rfl) (by kernel_rfl) h
theorem lr_4 (a : Addr) (w : World) : (Instr.loadAt 4 (.pointer (some a))).run Tryz.prog w = (load a).run Tryz.prog w := by kernel_rfl
theorem st_4 (x : Bool) (a : Addr) (w : World) : (Instr.storeAt 4 (.pointer (some a)) (.bool x)).run Tryz.prog w = (storeCells a [Value.bool x]).run Tryz.prog w := by kernel_rfl
theorem one_4 (x : Bool) : ∀ u ∈ [Value.bool x], u.oneCell' = true := by simp [Value.oneCell']; try exact rfl
theorem ia_78 {a : Addr} {i : Int} {w : World} (h : 0 ≤ i ∧ i < ((6 : Nat) : Int)) : (Instr.indexAt 78 (.pointer (some a)) (.int .i64 i)).run Tryz.prog w = .ok (.pointer (some (a.add (i.toNat * 1)))) w := ia_array (e := 4) (by kernel_rfl) (by kernel_rfl) h
theorem cf_57 (args : Array Value) (w : World) : (callFunc 57 args).run Tryz.prog w = .ok (.enter 57 args) w := by kernel_rfl
theorem cf_56 (args : Array Value) (w : World) : (callFunc 56 args).run Tryz.prog w = .ok (.enter 56 args) w := by kernel_rfl
theorem cf_34 (args : Array Value) (w : World) : (callFunc 34 args).run Tryz.prog w = .ok (.enter 34 args) w := by kernel_rfl
theorem cf_33 (args : Array Value) (w : World) : (callFunc 33 args).run Tryz.prog w = .ok (.enter 33 args) w := by kernel_rfl
def fnV_151 : (api_Fact × api_Fact) → List Value := fun x => [api_Fact.val x.1, api_Fact.val x.2]
def fnW_151 : Int → Value := fun x => .int .i64 x
def fnV_152 : (api_Fact × api_Fact) → List Value := fun x => [api_Fact.val x.1, api_Fact.val x.2]
def fnW_152 : api_Fact → Value := fun x => api_Fact.val x
theorem len_51 {a : Option Addr} {n c : Nat} {ty : TypeId} {w : World} : (Builtin.len_ #[51] ty #[.slice a n c]).run Tryz.prog w = .ok (.int .i64 n) w := by kernel_rfl
theorem ia_51 {a : Addr} {n c : Nat} {i : Int} {w : World} (h : 0 ≤ i ∧ i < (n : Int)) : (Instr.indexAt 51 (.slice (some a) n c) (.int .i64 i)).run Tryz.prog w = .ok (.pointer (some (a.add (i.toNat * 14)))) w := ia_slice (e := 88) (by kernel_rfl) (by kernel_rfl) h
theorem lr_88 (a : Addr) (w : World) : (Instr.loadAt 88 (.pointer (some a))).run Tryz.prog w = ((do pure (.agg (← loadCells a 14))) : Sem Value).run Tryz.prog w := by kernel_rfl
theorem bs_51_1 (x0 : api_Fact) (w : World) : (Instr.buildSlice 51 1 #[(0, api_Fact.val x0)]).run Tryz.prog w = .ok (.slice (some ⟨w.heap.size, 0, none⟩) 1 1) (w.alloc (.cells (([x0]).flatMap api_Fact.cells).toArray 88)) := by kernel_rfl
theorem si_51 : Tryz.prog.underlying 51 = some (.slice 88) := by kernel_rfl
theorem se_88 : (Tryz.prog.info? 88).map (fun i => (i.zero.map (·.cells.size), i.size, i.bytes)) = some (some 14, 14, 112) := by kernel_rfl
theorem sz_88 : (Tryz.prog.info? 88).map (·.size) = some 14 := by kernel_rfl
theorem one_88 (x : api_Fact) : ∀ u ∈ (api_Fact.cells x), u.oneCell' = true := by simp [Value.oneCell', api_Fact.cells, Span.cells]; try exact rfl
theorem bx_88 (x : api_Fact) (w : World) : (Instr.box 88 (api_Fact.val x)).run Tryz.prog w = .ok (.pointer (some ⟨w.heap.size, 0, none⟩)) (w.alloc (.cells ((api_Fact.cells x)).toArray 88)) := by kernel_rfl
theorem fa_88_0 (a : Addr) (w : World) : (Instr.fieldAt 88 (.pointer (some a)) 0).run Tryz.prog w = .ok (.pointer (some (a.add 0))) w := by kernel_rfl
theorem fa_88_1 (a : Addr) (w : World) : (Instr.fieldAt 88 (.pointer (some a)) 1).run Tryz.prog w = .ok (.pointer (some (a.add 1))) w := by kernel_rfl
theorem al_88 (w : World) : (Instr.alloc 88 true (.tuple #[])).run Tryz.prog w = .ok (.pointer (some ⟨w.heap.size, 0, none⟩)) (w.alloc (.cells ((api_Fact.cells (⟨0, 0, 0, false, 0, 0, 0, (⟨0, 0⟩ : Span), 0, 0, 0, 0, 0⟩ : api_Fact))).toArray 88)) := by kernel_rfl
theorem st_88 (x : api_Fact) (a : Addr) (w : World) : (Instr.storeAt 88 (.pointer (some a)) (api_Fact.val x)).run Tryz.prog w = (storeCells a (api_Fact.cells x)).run Tryz.prog w := by kernel_rfl
theorem cf_106 (args : Array Value) (w : World) : (callFunc 106 args).run Tryz.prog w = .ok (.enter 106 args) w := by kernel_rfl
theorem cf_107 (args : Array Value) (w : World) : (callFunc 107 args).run Tryz.prog w = .ok (.enter 107 args) w := by kernel_rfl
theorem cf_108 (args : Array Value) (w : World) : (callFunc 108 args).run Tryz.prog w = .ok (.enter 108 args) w := by kernel_rfl
theorem cf_105 (args : Array Value) (w : World) : (callFunc 105 args).run Tryz.prog w = .ok (.enter 105 args) w := by kernel_rfl
theorem fa_88_4 (a : Addr) (w : World) : (Instr.fieldAt 88 (.pointer (some a)) 4).run Tryz.prog w = .ok (.pointer (some (a.add 4))) w := by kernel_rfl
def fnV_154 : api_Fact → List Value := fun x => [api_Fact.val x]
def fnW_154 : Bool → Value := fun x => .bool x
theorem bx_3 (x : Int) (w : World) : (Instr.box 3 (.int .i64 x)).run Tryz.prog w = .ok (.pointer (some ⟨w.heap.size, 0, none⟩)) (w.alloc (.cells ([Value.int .i64 x]).toArray 3)) := by kernel_rfl
theorem cf_110 (args : Array Value) (w : World) : (callFunc 110 args).run Tryz.prog w = .ok (.enter 110 args) w := by kernel_rfl
theorem cf_109 (args : Array Value) (w : World) : (callFunc 109 args).run Tryz.prog w = .ok (.enter 109 args) w := by kernel_rfl
theorem bxx_50 {c0 c1 c2 : Value} (w : World) : (Instr.box 50 (.agg #[c0, c1, c2])).run Tryz.prog w = .ok (.pointer (some ⟨w.heap.size, 0, none⟩)) (w.alloc (.cells #[c0, c1, c2] 50)) := by kernel_rfl
theorem cf_68 (args : Array Value) (w : World) : (callFunc 68 args).run Tryz.prog w = .ok (.enter 68 args) w := by kernel_rfl
theorem lr_50 (a : Addr) (w : World) : (Instr.loadAt 50 (.pointer (some a))).run Tryz.prog w = ((do pure (.agg (← loadCells a 3))) : Sem Value).run Tryz.prog w := by kernel_rfl
theorem cf_69 (args : Array Value) (w : World) : (callFunc 69 args).run Tryz.prog w = .ok (.enter 69 args) w := by kernel_rfl
theorem bdx_110_0_1_2_3_4 {c0 c1 c2 v1 v2 v3 : Value} {n4 : Int} (h1 : ∃ a n c, v1 = Value.slice a n c) (h2 : ∃ a n c, v2 = Value.slice a n c) (h3 : ∃ a n c, v3 = Value.slice a n c) (w : World) : (Instr.build 110 #[(0, .agg #[c0, c1, c2]), (1, v1), (2, v2), (3, v3), (4, .int .i64 n4)]).run Tryz.prog w = .ok (.agg #[c0, c1, c2, v1, v2, v3, .int .i64 n4]) w := by
  obtain ⟨_, _, _, rfl⟩ := h1
  obtain ⟨_, _, _, rfl⟩ := h2
  obtain ⟨_, _, _, rfl⟩ := h3
  kernel_rfl
theorem bxx_110 {c0 c1 c2 c3 c4 c5 c6 : Value} (w : World) : (Instr.box 110 (.agg #[c0, c1, c2, c3, c4, c5, c6])).run Tryz.prog w = .ok (.pointer (some ⟨w.heap.size, 0, none⟩)) (w.alloc (.cells #[c0, c1, c2, c3, c4, c5, c6] 110)) := by kernel_rfl
theorem fa_110_3 (a : Addr) (w : World) : (Instr.fieldAt 110 (.pointer (some a)) 3).run Tryz.prog w = .ok (.pointer (some (a.add 5))) w := by kernel_rfl
theorem lr_25 (a : Addr) (w : World) : (Instr.loadAt 25 (.pointer (some a))).run Tryz.prog w = (load a).run Tryz.prog w := by kernel_rfl
theorem fa_110_4 (a : Addr) (w : World) : (Instr.fieldAt 110 (.pointer (some a)) 4).run Tryz.prog w = .ok (.pointer (some (a.add 6))) w := by kernel_rfl
theorem cf_157 (args : Array Value) (w : World) : (callFunc 157 args).run Tryz.prog w = .ok (.enter 157 args) w := by kernel_rfl
theorem fa_110_2 (a : Addr) (w : World) : (Instr.fieldAt 110 (.pointer (some a)) 2).run Tryz.prog w = .ok (.pointer (some (a.add 4))) w := by kernel_rfl
theorem lr_51 (a : Addr) (w : World) : (Instr.loadAt 51 (.pointer (some a))).run Tryz.prog w = (load a).run Tryz.prog w := by kernel_rfl
theorem cf_111 (args : Array Value) (w : World) : (callFunc 111 args).run Tryz.prog w = .ok (.enter 111 args) w := by kernel_rfl
theorem bxp_64 {a : Addr} (w : World) : (Instr.box 64 (.pointer (some a))).run Tryz.prog w = .ok (.pointer (some ⟨w.heap.size, 0, none⟩)) (w.alloc (.cells #[.pointer (some a)] 64)) := by kernel_rfl
theorem lr_64 (a : Addr) (w : World) : (Instr.loadAt 64 (.pointer (some a))).run Tryz.prog w = (load a).run Tryz.prog w := by kernel_rfl
theorem cf_70 (args : Array Value) (w : World) : (callFunc 70 args).run Tryz.prog w = .ok (.enter 70 args) w := by kernel_rfl
theorem cf_71 (args : Array Value) (w : World) : (callFunc 71 args).run Tryz.prog w = .ok (.enter 71 args) w := by kernel_rfl
theorem fa_110_1 (a : Addr) (w : World) : (Instr.fieldAt 110 (.pointer (some a)) 1).run Tryz.prog w = .ok (.pointer (some (a.add 3))) w := by kernel_rfl
theorem bdx_50_  (w : World) : (Instr.build 50 #[]).run Tryz.prog w = .ok (.agg #[(.slice none 0 0 : Value), (.slice none 0 0 : Value), (.slice none 0 0 : Value)]) w := by
  kernel_rfl
theorem cf_40 (args : Array Value) (w : World) : (callFunc 40 args).run Tryz.prog w = .ok (.enter 40 args) w := by kernel_rfl
theorem cf_41 (args : Array Value) (w : World) : (callFunc 41 args).run Tryz.prog w = .ok (.enter 41 args) w := by kernel_rfl
theorem bd_23_0_1_2_3 (x0 : Int) (x1 : Int) (x2 : Int) (x3 : Int) (w : World) : (Instr.build 23 #[(0, .int .i64 x0), (1, .int .i64 x1), (2, .int .i64 x2), (3, .int .i64 x3)]).run Tryz.prog w = .ok (Claim.val ⟨x0, x1, x2, x3, 0, 0⟩) w := by kernel_rfl
theorem cf_21 (args : Array Value) (w : World) : (callFunc 21 args).run Tryz.prog w = .ok (.enter 21 args) w := by kernel_rfl
theorem cf_25 (args : Array Value) (w : World) : (callFunc 25 args).run Tryz.prog w = .ok (.enter 25 args) w := by kernel_rfl
theorem cf_9 (args : Array Value) (w : World) : (callFunc 9 args).run Tryz.prog w = .ok (.enter 9 args) w := by kernel_rfl
theorem cf_14 (args : Array Value) (w : World) : (callFunc 14 args).run Tryz.prog w = .ok (.enter 14 args) w := by kernel_rfl
theorem cf_15 (args : Array Value) (w : World) : (callFunc 15 args).run Tryz.prog w = .ok (.enter 15 args) w := by kernel_rfl
theorem bd_23_5 (x5 : Int) (w : World) : (Instr.build 23 #[(5, .int .i64 x5)]).run Tryz.prog w = .ok (Claim.val ⟨0, 0, 0, 0, 0, x5⟩) w := by kernel_rfl
theorem bd_23_0_1_2_3_4_5 (x0 : Int) (x1 : Int) (x2 : Int) (x3 : Int) (x4 : Int) (x5 : Int) (w : World) : (Instr.build 23 #[(0, .int .i64 x0), (1, .int .i64 x1), (2, .int .i64 x2), (3, .int .i64 x3), (4, .int .i64 x4), (5, .int .i64 x5)]).run Tryz.prog w = .ok (Claim.val ⟨x0, x1, x2, x3, x4, x5⟩) w := by kernel_rfl
theorem bs_25_6 (x0 : Claim) (x1 : Claim) (x2 : Claim) (x3 : Claim) (x4 : Claim) (x5 : Claim) (w : World) : (Instr.buildSlice 25 6 #[(0, Claim.val x0), (1, Claim.val x1), (2, Claim.val x2), (3, Claim.val x3), (4, Claim.val x4), (5, Claim.val x5)]).run Tryz.prog w = .ok (.slice (some ⟨w.heap.size, 0, none⟩) 6 6) (w.alloc (.cells (([x0, x1, x2, x3, x4, x5]).flatMap Claim.cells).toArray 23)) := by kernel_rfl
theorem cf_17 (args : Array Value) (w : World) : (callFunc 17 args).run Tryz.prog w = .ok (.enter 17 args) w := by kernel_rfl
theorem bda_125 (x0 x1 x2 x3 x4 x5 : Int) (w : World) : (Instr.build 125 #[(0, .int .i64 x0), (1, .int .i64 x1), (2, .int .i64 x2), (3, .int .i64 x3), (4, .int .i64 x4), (5, .int .i64 x5)]).run Tryz.prog w = .ok (arrV (fun x : Int => [Value.int .i64 x]) [x0, x1, x2, x3, x4, x5]) w := by kernel_rfl
theorem al_125 (w : World) : (Instr.alloc 125 true (.tuple #[])).run Tryz.prog w = .ok (.pointer (some ⟨w.heap.size, 0, none⟩)) (w.alloc (.cells (((List.replicate 6 0).flatMap (fun x : Int => [Value.int .i64 x]))).toArray 125)) := by kernel_rfl
theorem st_125 (x : List Int) (hx : x.length = 6) (a : Addr) (w : World) : (Instr.storeAt 125 (.pointer (some a)) (arrV (fun x : Int => [Value.int .i64 x]) x)).run Tryz.prog w = (storeCells a (x.flatMap (fun x : Int => [Value.int .i64 x]))).run Tryz.prog w := st_array (n := 1) (by kernel_rfl) (fun _ => rfl) hx
theorem one_125 (x : List Int) : ∀ u ∈ (x.flatMap (fun x : Int => [Value.int .i64 x])), u.oneCell' = true := one_flatMap one_3
theorem ia_125 {a : Addr} {i : Int} {w : World} (h : 0 ≤ i ∧ i < ((6 : Nat) : Int)) : (Instr.indexAt 125 (.pointer (some a)) (.int .i64 i)).run Tryz.prog w = .ok (.pointer (some (a.add (i.toNat * 1)))) w := ia_array (e := 3) (by kernel_rfl) (by kernel_rfl) h
theorem cf_36 (args : Array Value) (w : World) : (callFunc 36 args).run Tryz.prog w = .ok (.enter 36 args) w := by kernel_rfl
theorem cf_63 (args : Array Value) (w : World) : (callFunc 63 args).run Tryz.prog w = .ok (.enter 63 args) w := by kernel_rfl
theorem cf_35 (args : Array Value) (w : World) : (callFunc 35 args).run Tryz.prog w = .ok (.enter 35 args) w := by kernel_rfl
theorem cf_18 (args : Array Value) (w : World) : (callFunc 18 args).run Tryz.prog w = .ok (.enter 18 args) w := by kernel_rfl
theorem cf_19 (args : Array Value) (w : World) : (callFunc 19 args).run Tryz.prog w = .ok (.enter 19 args) w := by kernel_rfl
theorem cf_22 (args : Array Value) (w : World) : (callFunc 22 args).run Tryz.prog w = .ok (.enter 22 args) w := by kernel_rfl
theorem cf_20 (args : Array Value) (w : World) : (callFunc 20 args).run Tryz.prog w = .ok (.enter 20 args) w := by kernel_rfl
end Go.PL
