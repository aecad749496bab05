/- The laws of the single operations, for the program logic of Core: what each operation leaves, as an equation on its run. They hold for every program. -/
import Derived.Test.YtndkbfbjjnhgoaaGreatDoorCore
import Derived.Laws.Sem
import Derived.Laws.AppendOwn
namespace Go.PL
open Go

/-- The operation o yields v, and the world stays as it is. -/
abbrev YV (P : Program) (η : Operand → Value) (w : World) (o : Oper) (v : Value) : Prop := (execOp η o).run P w = .ok (.value v) w

section
variable {P : Program} {η : Operand → Value} {w : World} {d : Option Tmp} {ty : TypeId} {ps : String} {af : Array Edge} {g : Option (Nat × Bool)} {x y z : Operand} {v u : Value}

def i64 (n : Int) : Int := IntKind.i64.wrap n
def u64 (n : Int) : Int := IntKind.u64.wrap n

theorem o_move (h : η x = v) : YV P η w ⟨d, .move x, ty, ps, af, g⟩ v := by subst h; rfl
theorem o_assign (h : η x = v) : YV P η w ⟨d, .assign x, ty, ps, af, g⟩ v := by subst h; rfl
theorem o_pick_t {a : Value} (hc : η x = .bool true) (h : η y = a) : YV P η w ⟨d, .pick x y z, ty, ps, af, g⟩ a := by
  subst h; simp [YV, execOp, hc, asBool]
theorem o_pick_f {a : Value} (hc : η x = .bool false) (h : η z = a) : YV P η w ⟨d, .pick x y z, ty, ps, af, g⟩ a := by
  subst h; simp [YV, execOp, hc, asBool]

section
variable {t t' : TypeId} {k : IntKind} {a b c : Int} {q : Bool}
theorem o_add (hx : η x = .int k a) (hy : η y = .int k b) (h : k.wrap (a + b) = c) : YV P η w ⟨d, .binOp .add t x y t', ty, ps, af, g⟩ (.int k c) := by
  subst h; simp [YV, execOp, hx, hy, eqGuard, binOp, Op.intArith]
theorem o_sub (hx : η x = .int k a) (hy : η y = .int k b) (h : k.wrap (a - b) = c) : YV P η w ⟨d, .binOp .sub t x y t', ty, ps, af, g⟩ (.int k c) := by
  subst h; simp [YV, execOp, hx, hy, eqGuard, binOp, Op.intArith]
theorem o_mul (hx : η x = .int k a) (hy : η y = .int k b) (h : k.wrap (a * b) = c) : YV P η w ⟨d, .binOp .mul t x y t', ty, ps, af, g⟩ (.int k c) := by
  subst h; simp [YV, execOp, hx, hy, eqGuard, binOp, Op.intArith]
theorem o_quo (hx : η x = .int k a) (hy : η y = .int k b) (h0 : b ≠ 0) (h : k.wrap (a.tdiv b) = c) : YV P η w ⟨d, .binOp .quo t x y t', ty, ps, af, g⟩ (.int k c) := by
  subst h; simp [YV, execOp, hx, hy, eqGuard, binOp, Op.intDiv, h0]
theorem o_rem (hx : η x = .int k a) (hy : η y = .int k b) (h0 : b ≠ 0) (h : a.tmod b = c) : YV P η w ⟨d, .binOp .rem t x y t', ty, ps, af, g⟩ (.int k c) := by
  subst h; simp [YV, execOp, hx, hy, eqGuard, binOp, Op.intDiv, h0]
theorem o_lss (hx : η x = .int k a) (hy : η y = .int k b) (h : decide (a < b) = q) : YV P η w ⟨d, .binOp .lss t x y t', ty, ps, af, g⟩ (.bool q) := by
  subst h; simp [YV, execOp, hx, hy, eqGuard, binOp, Op.intCmp]
theorem o_leq (hx : η x = .int k a) (hy : η y = .int k b) (h : decide (a ≤ b) = q) : YV P η w ⟨d, .binOp .leq t x y t', ty, ps, af, g⟩ (.bool q) := by
  subst h; simp [YV, execOp, hx, hy, eqGuard, binOp, Op.intCmp]
theorem o_gtr (hx : η x = .int k a) (hy : η y = .int k b) (h : decide (b < a) = q) : YV P η w ⟨d, .binOp .gtr t x y t', ty, ps, af, g⟩ (.bool q) := by
  subst h; simp [YV, execOp, hx, hy, eqGuard, binOp, Op.intCmp]
theorem o_geq (hx : η x = .int k a) (hy : η y = .int k b) (h : decide (b ≤ a) = q) : YV P η w ⟨d, .binOp .geq t x y t', ty, ps, af, g⟩ (.bool q) := by
  subst h; simp [YV, execOp, hx, hy, eqGuard, binOp, Op.intCmp]
theorem o_eql (hx : η x = .int k a) (hy : η y = .int k b) (h : (a == b) = q) : YV P η w ⟨d, .binOp .eql t x y t', ty, ps, af, g⟩ (.bool q) := by
  subst h; simp [YV, execOp, hx, hy, eqGuard, binOp, Op.intCmp]
theorem o_neq (hx : η x = .int k a) (hy : η y = .int k b) (h : (a != b) = q) : YV P η w ⟨d, .binOp .neq t x y t', ty, ps, af, g⟩ (.bool q) := by
  subst h; simp [YV, execOp, hx, hy, eqGuard, binOp, Op.intCmp]
theorem o_not {p : Bool} (hx : η x = .bool p) (h : (!p) = q) : YV P η w ⟨d, .unOp .not t x, ty, ps, af, g⟩ (.bool q) := by
  subst h; simp [YV, execOp, hx, Op.unary]
theorem o_neg (hx : η x = .int k a) (h : k.wrap (-a) = c) : YV P η w ⟨d, .unOp .neg t x, ty, ps, af, g⟩ (.int k c) := by
  subst h; simp [YV, execOp, hx, Op.unary, Op.intArith]
end

/-- The general form: the operation's own run. -/
theorem o_conv {s t : TypeId} (hx : η x = v) (h : (convert s t v).run P w = .ok u w) : YV P η w ⟨d, .convert s t x, ty, ps, af, g⟩ u := by
  simp [YV, execOp, hx, h]
theorem o_fieldAddr {s : TypeId} {f : Nat} (hx : η x = v) (h : (Instr.fieldAt s v f).run P w = .ok u w) : YV P η w ⟨d, .fieldAddr s x f, ty, ps, af, g⟩ u := by
  simp [YV, execOp, hx, h]
theorem o_field {s : TypeId} {f : Nat} (hx : η x = v) (h : (Instr.field s v f).run P w = .ok u w) : YV P η w ⟨d, .field s x f, ty, ps, af, g⟩ u := by
  simp [YV, execOp, hx, h]
theorem o_indexAddr {s : TypeId} {vi : Value} (hx : η x = v) (hy : η y = vi) (h : (Instr.indexAt s v vi).run P w = .ok u w) : YV P η w ⟨d, .indexAddr s x y, ty, ps, af, g⟩ u := by
  simp [YV, execOp, hx, hy, h]
theorem o_load {s : TypeId} (hx : η x = v) (h : (Instr.loadAt s v).run P w = .ok u w) : YV P η w ⟨d, .load s x, ty, ps, af, g⟩ u := by
  simp [YV, execOp, hx, h]
theorem o_extract {i : Nat} (hx : η x = v) (h : (Instr.extract v i).run P w = .ok u w) : YV P η w ⟨d, .extract x i, ty, ps, af, g⟩ u := by
  simp [YV, execOp, hx, h]
theorem o_build {t : TypeId} {parts : Array (Nat × Operand)} {vs : Array (Nat × Value)} (hp : (parts.map fun (i, x) => (i, η x)) = vs) (h : (Instr.build t vs).run P w = .ok u w) : YV P η w ⟨d, .build t parts, ty, ps, af, g⟩ u := by
  subst hp
  simp only [YV, execOp, Sem.run_bind, h, Result.andThen_ok, Sem.run_pure]
theorem o_len {t : TypeId} (hx : η x = v) (h : (Builtin.len_ #[t] ty #[v]).run P w = .ok u w) : YV P η w ⟨d, .call ⟨.builtin .len, #[x], #[t]⟩, ty, ps, af, g⟩ u := by
  simp [YV, execOp, resolve, invoke, builtin, hx, h]

/-- An operation that yields a value and leaves the world as it is: what is to be shown of it, where its fact is that value. -/
theorem core_val {G : Nat → Prop} {ρ : Nat → Value} {F : List Fact} {p : Plan} {i : Nat} {o : Oper} {dd : Tmp} (hd : o.dst = some dd) (hF : F[i]? = some (val dd v)) (h : YV P (ev ρ) w o v) :
    Yield P o (ev ρ) w fun v w' => Ext (if p.mu.contains i then G else noG) w w' ∧ fact F i (putO ρ o.dst v) w' := by
  unfold Yield
  rw [h]
  refine ⟨Ext.refl _ _, ?_⟩
  unfold fact
  rw [hF, hd]
  exact upd_same _ _ _
end
end Go.PL
