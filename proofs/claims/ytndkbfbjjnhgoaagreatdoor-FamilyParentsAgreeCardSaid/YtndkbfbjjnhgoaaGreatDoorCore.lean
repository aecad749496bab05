/- The program logic of this seat's proofs: the state of a frame as a function from slots to values; one law for a region whatever order is drawn; laws for the other kinds of code. It holds for every program. -/
import Derived.Calls
import Derived.Orders
import Derived.LoopN
import Derived.Below
import Derived.KernelRfl
namespace Go.PL
open Go

/-! ### frames -/
/-- The frame with n slots, slot t holding ρ t. -/
def Fr (n : Nat) (ρ : Nat → Value) : Act := { tmps := Array.ofFn (n := n) fun i => ρ i.1, defers := [] }
def upd (ρ : Nat → Value) (d : Nat) (v : Value) : Nat → Value := fun t => if t = d then v else ρ t
def putO (ρ : Nat → Value) : Option Tmp → Value → (Nat → Value)
  | some d, v => upd ρ d v
  | none, _ => ρ
def ev (ρ : Nat → Value) : Operand → Value
  | .tmp t => ρ t
  | .const v => v
  | .global g => .pointer (some ⟨g, 0, none⟩)
  | .func f => .func (.func f) #[] #[]
def Operand.below (n : Nat) : Operand → Bool
  | .tmp t => decide (t < n)
  | _ => true

theorem upd_same (ρ : Nat → Value) (d : Nat) (v : Value) : upd ρ d v d = v := by simp [upd]
theorem upd_ne (ρ : Nat → Value) {d t : Nat} (v : Value) (h : t ≠ d) : upd ρ d v t = ρ t := by simp [upd, h]

theorem Fr_put (n : Nat) (ρ : Nat → Value) (d : Option Tmp) (v : Value) : (Fr n ρ).put d v = Fr n (putO ρ d v) := by
  cases d with
  | none => rfl
  | some d =>
    simp only [Act.put, Fr, putO]
    congr 1
    apply Array.ext
    · simp
    · intro i h1 h2
      simp [upd]
      split <;> simp_all [eq_comm]
theorem Fr_get {n : Nat} (ρ : Nat → Value) {t : Nat} (h : t < n) : (Fr n ρ).tmps[t]? = some (ρ t) := by
  simp [Fr, h]
theorem Fr_eval {n : Nat} {ρ : Nat → Value} {x : Operand} (h : Operand.below n x = true) : (Fr n ρ).eval x = ev ρ x := by
  cases x with
  | tmp t =>
    have ht : t < n := by simpa [Operand.below] using h
    simp [Act.eval, ev, Fr, ht]
  | const v => rfl
  | global g => rfl
  | func f => rfl

/-! ### worlds -/
/-- Every block that is there and is not in G is as it was; the streams are as they were. -/
structure Ext (G : Nat → Prop) (w w' : World) : Prop where
  os : w'.os = w.os
  tape : w'.tape = w.tape
  output : w'.output = w.output
  size : w.heap.size ≤ w'.heap.size
  block : ∀ b, b < w.heap.size → ¬ G b → w'.heap[b]? = w.heap[b]?
  drawn : w.drawn ≤ w'.drawn
def noG : Nat → Prop := fun _ => False
theorem Ext.refl (G : Nat → Prop) (w : World) : Ext G w w := ⟨rfl, rfl, rfl, Nat.le_refl _, fun _ _ _ => rfl, Nat.le_refl _⟩
theorem Ext.trans {G : Nat → Prop} {a b c : World} (h : Ext G a b) (k : Ext G b c) : Ext G a c :=
  ⟨k.os.trans h.os, k.tape.trans h.tape, k.output.trans h.output, Nat.le_trans h.size k.size, fun i hi hg => (k.block i (Nat.lt_of_lt_of_le hi h.size) hg).trans (h.block i hi hg), Nat.le_trans h.drawn k.drawn⟩
theorem Ext.mono {G G' : Nat → Prop} {a b : World} (h : Ext G a b) (hG : ∀ i, G i → G' i) : Ext G' a b :=
  ⟨h.os, h.tape, h.output, h.size, fun i hi hg => h.block i hi (fun hh => hg (hG i hh)), h.drawn⟩
theorem Ext.of_no {G : Nat → Prop} {a b : World} (h : Ext noG a b) : Ext G a b := h.mono (fun _ hh => hh.elim)
theorem Ext.drew {G : Nat → Prop} {a w : World} (h : Ext G a w) : Ext G a w.drew := ⟨h.os, h.tape, h.output, h.size, h.block, Nat.le_succ_of_le h.drawn⟩
theorem Ext.below {w w' : World} (h : Ext noG w w') : RowKit.Below w.heap.size w w' := ⟨h.os, h.tape, h.output, h.size, fun k hk => h.block k hk (fun hh => hh)⟩
theorem Ext.cell {G : Nat → Prop} {w w' : World} (h : Ext G w w') {b o : Nat} (hb : b < w.heap.size) (hg : ¬ G b) : w'.cell? ⟨b, o, none⟩ = w.cell? ⟨b, o, none⟩ := by
  unfold World.cell?
  rw [h.block b hb hg]
theorem Ext.alloc (G : Nat → Prop) (w : World) (o : Obj) : Ext G w (w.alloc o) :=
  ⟨rfl, rfl, rfl, by simp, fun k hk _ => RowKit.Below.heap_alloc _ _ _ hk, Nat.le_refl _⟩

/-! ### one operation -/
/-- The operation, carried out in the world w, leaves a value and a world that meet K. -/
def Yield (P : Program) (o : Oper) (η : Operand → Value) (w : World) (K : Value → World → Prop) : Prop :=
  match (execOp η o).run P w with
  | .ok (.value v) w' => K v w'
  | .ok .skip w' => K undef w'
  | .ok (.enter f args) w' => Calls P f args w' fun e w'' => ∃ v, e = .returned v ∧ K v w''
  | _ => False

theorem Yield.wp {P : Program} {o : Oper} {a : Act} {w : World} {K : Value → World → Prop} {next : Act → World → Prop} {Q : Exit → Act → World → Prop}
    (h : Yield P o a.eval w K) (hn : ∀ v w', K v w' → next (a.put o.dst v) w') : o.wp P a w next Q := by
  unfold Yield at h
  unfold Oper.wp
  generalize (execOp a.eval o).run P w = r at *
  cases r with
  | ok x w' =>
    cases x <;> simp only [Oper.upon] at * <;> first
      | exact hn _ _ h
      | exact h.mono (fun e w'' ⟨v, he, hk⟩ => by subst he; exact hn _ _ hk)
      | exact h.elim
  | halt x w' => exact h.elim

theorem Yield.mono {P : Program} {o : Oper} {η : Operand → Value} {w : World} {K K' : Value → World → Prop}
    (h : Yield P o η w K) (hn : ∀ v w', K v w' → K' v w') : Yield P o η w K' := by
  unfold Yield at *
  generalize (execOp η o).run P w = r at *
  cases r with
  | ok x w' =>
    cases x <;> simp only [] at * <;> first
      | exact hn _ _ h
      | exact h.mono (fun e w'' ⟨v, he, hk⟩ => ⟨v, he, hn _ _ hk⟩)
  | halt x w' => exact h

/-! ### a region -/
/-- What a guard's operation has left: its Bool. -/
def yl (ops : List Oper) (ρ : Nat → Value) (g : Nat) : Option Bool :=
  match (ops[g]?).bind (·.dst) with
  | some d => match ρ d with | .bool b => some b | _ => none
  | none => none

def Conj {α : Type} (p : α → Prop) : List α → Prop
  | [] => True
  | x :: r => p x ∧ Conj p r
theorem Conj.get {α : Type} {p : α → Prop} {l : List α} (h : Conj p l) : ∀ x ∈ l, p x := by
  induction l with
  | nil => intro x hx; cases hx
  | cons y r ih => intro x hx; cases hx with
    | head => exact h.1
    | tail _ hx => exact ih h.2 x hx
theorem Conj.of {α : Type} {p : α → Prop} {l : List α} (h : ∀ x ∈ l, p x) : Conj p l := by
  induction l with
  | nil => trivial
  | cons y r ih => exact ⟨h y (by simp), ih (fun x hx => h x (by simp [hx]))⟩

/-- A fact: of what slot t holds. -/
abbrev Fact := Nat × (Value → World → Prop)
def val (t : Nat) (v : Value) : Fact := (t, fun u _ => u = v)
def fact (F : List Fact) (i : Nat) (ρ : Nat → Value) (w : World) : Prop :=
  match F[i]? with
  | some f => f.2 (ρ f.1) w
  | none => True

/-- The block that a pointer or a slice leads to. -/
def hdV : Value → Option Nat
  | .pointer (some a) => some a.block
  | .slice (some a) _ _ => some a.block
  | _ => none
/-- The plan of a region: of each operation what has come before it whatever the order (B), whose facts it uses (U), which slots it reads as they were at the region's begin (E); which operations change old memory (mu); whose facts end with which operation (con); where the region makes several variables and stores into them: which operation makes which slot's variable (nw), which operation stores into which slot's variable (tb). -/
structure Plan where
  B : List (List Nat)
  U : List (List Nat)
  E : List (List Nat)
  mu : List Nat := []
  con : List (Nat × Nat) := []
  nw : List (Nat × Nat) := []
  tb : List (Nat × Nat) := []

namespace Plan
def b (p : Plan) (i : Nat) : List Nat := p.B.getD i []
def u (p : Plan) (i : Nat) : List Nat := p.U.getD i []
def e (p : Plan) (i : Nat) : List Nat := p.E.getD i []
def dies (p : Plan) (j : Nat) : Option Nat := (p.con.find? (·.1 == j)).map (·.2)
/-- The slot whose variable operation i stores into. -/
def tie (p : Plan) (i : Nat) : Option Nat := (p.tb.find? (·.1 == i)).map (·.2)
def isnw (p : Plan) (i : Nat) : Bool := p.nw.any (·.1 == i)
/-- Slot t holds a variable that the region makes. -/
def nws (p : Plan) (t : Nat) : Bool := p.nw.any (·.2 == t)
/-- Operation i stores into one variable of the region, the fact of j speaks of another one. -/
def apart (p : Plan) (ts : List Nat) (i j : Nat) : Bool := match p.tie i with
  | some d => p.nws (ts.getD j 0) && ts.getD j 0 != d
  | none => false
/-- No operation that changes old memory can have come before operation i. -/
def first (p : Plan) (i : Nat) : Bool := p.mu.all fun m => m == i || (p.b m).contains i

/-- All operations that change old memory come before operation i. -/
def late (p : Plan) (i : Nat) : Bool := p.mu.all fun m => m == i || (p.b i).contains m

def okB (p : Plan) (ops : List Oper) : Bool :=
  (List.range ops.length).all fun i => (p.b i).all fun j =>
    match ops[i]? with
    | some o => o.after.toList.any fun x => Region.binds .any x && decide (x.on < i) && (x.on == j || (p.b x.on).contains j)
    | none => false
def okAfter (ops : List Oper) : Bool :=
  (List.range ops.length).all fun i =>
    match ops[i]? with
    | some o => o.after.toList.all fun x => !Region.binds .any x || decide (x.on < i)
    | none => false
/-- Slot t is written by i alone, or by what has come before i. -/
def settled (p : Plan) (ops : List Oper) (i t : Nat) : Bool :=
  (List.range ops.length).all fun k => (ops[k]?.bind (·.dst)) != some t || k == i || (p.b i).contains k
/-- Slot t is written by nobody before i. -/
def unturned (p : Plan) (ops : List Oper) (i t : Nat) : Bool :=
  (List.range ops.length).all fun k => (ops[k]?.bind (·.dst)) != some t || k == i || (p.b k).contains i
def okFacts (p : Plan) (ops : List Oper) (ts : List Nat) : Bool :=
  (ts.length == ops.length) && (List.range ops.length).all fun i => settled p ops i (ts.getD i 0)
def okE (p : Plan) (ops : List Oper) : Bool :=
  (List.range ops.length).all fun i => (p.e i).all fun t => unturned p ops i t
def okU (p : Plan) (ops : List Oper) : Bool :=
  (List.range ops.length).all fun i => (p.u i).all fun j => (p.b i).contains j &&
    match p.dies j with
    | none => true
    | some c => c == i || (p.b c).contains i
def okMu (p : Plan) (ops : List Oper) (ts : List Nat) : Bool :=
  (List.range ops.length).all fun i => !p.mu.contains i || (List.range ops.length).all fun j => j == i || p.apart ts i j ||
    match p.dies j with
    | none => (!p.mu.contains j && !p.nws (ts.getD j 0)) || (p.b j).contains i
    | some c => c == i || (p.b i).contains c || (p.b j).contains i
def okTmps (ops : List Oper) (n : Nat) : Bool :=
  ops.all fun o => o.op.operands.toList.all (Operand.below n) && (match o.dst with | some d => decide (d < n) | none => true)
def okSel (ops : List Oper) : Bool := ops.all fun o => match o.op with | .select _ _ => false | _ => true
/-- The variables that the region makes: each slot is written by the operation that makes the variable, and by no other. -/
def okNw (p : Plan) (ops : List Oper) (ts : List Nat) : Bool :=
  (p.nw.all fun q => decide (q.1 < ops.length) && !p.mu.contains q.1 && (List.range ops.length).all fun k => ((ops[k]?.bind (·.dst)) == some q.2) == (k == q.1)) &&
  (p.tb.all fun q => p.mu.contains q.1 && p.nw.any fun r => r.2 == q.2 && (p.b q.1).contains r.1) &&
  ((List.range ops.length).all fun j => !p.nws (ts.getD j 0) || p.nw.any fun r => r.2 == ts.getD j 0 && (r.1 == j || (p.b j).contains r.1))
def ok (p : Plan) (ops : List Oper) (n : Nat) (ts : List Nat) : Bool :=
  p.okB ops && okAfter ops && p.okFacts ops ts && p.okE ops && p.okU ops && p.okMu ops ts && okTmps ops n && okSel ops && p.okNw ops ts
/-- What operation i may change. -/
def gm (p : Plan) (G : Nat → Prop) (i : Nat) (ρ : Nat → Value) : Nat → Prop :=
  if p.mu.contains i then (match p.tie i with | some d => fun b => hdV (ρ d) = some b | none => G) else noG
end Plan

/-- What is to be shown of operation i. -/
def Ob (P : Program) (ops : List Oper) (G : Nat → Prop) (ρ0 : Nat → Value) (w0 : World) (F : List Fact) (p : Plan) (i : Nat) (o : Oper) : Prop :=
  ∀ ρ w, Ext G w0 w → (p.first i = true → Ext noG w0 w) → Conj (fun t => ρ t = ρ0 t) (p.e i) → Conj (fun j => fact F j ρ w) (p.u i) →
    let core := Yield P o (ev ρ) w fun v w' => Ext (if p.mu.contains i then G else noG) w w' ∧ fact F i (putO ρ o.dst v) w'
    match p.isnw i with
    | true => o.guard = none ∧ Yield P o (ev ρ) w fun v w' => (∀ b, hdV v = some b → w.heap.size ≤ b ∧ b < w'.heap.size) ∧ Ext noG w w' ∧ fact F i (putO ρ o.dst v) w'
    | false => match p.tie i with
      | some d => o.guard = none ∧ Yield P o (ev ρ) w fun v w' => Ext (fun b => hdV (ρ d) = some b) w w' ∧ fact F i (putO ρ o.dst v) w'
      | none => match o.guard with
        | none => core
        | some (g, want) => (yl ops ρ g = some want → core) ∧ (yl ops ρ g ≠ some want → fact F i (putO ρ o.dst undef) w)
def Obs (P : Program) (ops : List Oper) (G : Nat → Prop) (ρ0 : Nat → Value) (w0 : World) (F : List Fact) (p : Plan) : Nat → List Oper → Prop
  | _, [] => True
  | i, o :: r => Ob P ops G ρ0 w0 F p i o ∧ Obs P ops G ρ0 w0 F p (i + 1) r
theorem Obs.get {P : Program} {ops : List Oper} {G : Nat → Prop} {ρ0 : Nat → Value} {w0 : World} {F : List Fact} {p : Plan} : ∀ (l : List Oper) (k : Nat), Obs P ops G ρ0 w0 F p k l → ∀ i o, l[i]? = some o → Ob P ops G ρ0 w0 F p (k + i) o
  | [], _, _, i, o, h => by simp at h
  | x :: r, k, h, 0, o, ho => by
    simp at ho
    subst ho
    exact h.1
  | x :: r, k, h, i + 1, o, ho => by
    have := Obs.get r (k + 1) h.2 i o (by simpa using ho)
    rwa [Nat.add_right_comm, Nat.add_assoc] at this

/-- Facts that no change of the kinds at hand undoes. -/
def Stable (G : Nat → Prop) (f : Fact) : Prop := ∀ v w w', Ext G w w' → f.2 v w → f.2 v w'
/-- A fact of a variable, which no change elsewhere undoes. -/
def TStable (f : Fact) : Prop := ∀ v w w' (G : Nat → Prop), (∀ b, hdV v = some b → ¬ G b) → Ext G w w' → f.2 v w → f.2 v w'
theorem Stable.val (G : Nat → Prop) (t : Nat) (v : Value) : Stable G (val t v) := fun _ _ _ _ h => h
def Stables (G : Nat → Prop) (p : Plan) : Nat → List Fact → Prop
  | _, [] => True
  | i, f :: r => (match p.nws f.1 with | true => TStable f | false => Stable (if p.mu.contains i || (p.dies i).isSome || p.late i then noG else G) f) ∧ Stables G p (i + 1) r
theorem Stables.get {G : Nat → Prop} {p : Plan} : ∀ (l : List Fact) (k : Nat), Stables G p k l → ∀ i f, l[i]? = some f → (match p.nws f.1 with | true => TStable f | false => Stable (if p.mu.contains (k + i) || (p.dies (k + i)).isSome || p.late (k + i) then noG else G) f)
  | [], _, _, i, f, h => by simp at h
  | x :: r, k, h, 0, f, ho => by
    simp at ho
    subst ho
    exact h.1
  | x :: r, k, h, i + 1, f, ho => by
    have := Stables.get r (k + 1) h.2 i f (by simpa using ho)
    rwa [Nat.add_right_comm, Nat.add_assoc] at this

section
variable {P : Program} {ops : List Oper} {n : Nat} {G : Nat → Prop} {ρ0 : Nat → Value} {w0 : World} {F : List Fact} {p : Plan}

/-- What holds while the operations of 'listed' have come up. -/
structure J (ops : List Oper) (G : Nat → Prop) (ρ0 : Nat → Value) (w0 : World) (F : List Fact) (p : Plan) (listed : Nat → Prop) (ρ : Nat → Value) (w : World) : Prop where
  ext : Ext G w0 w
  calm : (∀ m ∈ p.mu, ¬ listed m) → Ext noG w0 w
  closed : ∀ i, listed i → ∀ j ∈ p.b i, listed j
  bound : ∀ i, listed i → i < ops.length
  facts : ∀ i, listed i → (∀ c, p.dies i = some c → ¬ listed c) → fact F i ρ w
  rest : ∀ t, (∀ k, (ops[k]?.bind (·.dst)) = some t → ¬ listed k) → ρ t = ρ0 t
  fresh : ∀ q ∈ p.nw, listed q.1 → ∀ b, hdV (ρ q.2) = some b → w0.heap.size ≤ b ∧ b < w.heap.size
  dist : ∀ q ∈ p.nw, ∀ q' ∈ p.nw, q.2 ≠ q'.2 → listed q.1 → listed q'.1 → ∀ b, hdV (ρ q.2) = some b → hdV (ρ q'.2) ≠ some b

theorem all_range {m : Nat} {q : Nat → Bool} (h : (List.range m).all q = true) {i : Nat} (hi : i < m) : q i = true :=
  List.all_eq_true.1 h i (List.mem_range.2 hi)

theorem J.step (hok : p.ok ops n (F.map (·.1)) = true) (hG : p.tb = [] ∨ ∀ b, w0.heap.size ≤ b → G b) (hst : Stables G p 0 F) {listed : Nat → Prop} {ρ : Nat → Value} {w : World} (hJ : J ops G ρ0 w0 F p listed ρ w)
    {i : Nat} {o : Oper} (ho : ops[i]? = some o) (hun : ¬ listed i) (hafter : ∀ x ∈ o.after, Region.binds .any x = true → listed x.on)
    {v : Value} {w' : World} (he : Ext (p.gm G i ρ) w w') (hnew : p.isnw i = true → ∀ b, hdV v = some b → w.heap.size ≤ b ∧ b < w'.heap.size) (hf : fact F i (putO ρ o.dst v) w') :
    J ops G ρ0 w0 F p (fun k => k = i ∨ listed k) (putO ρ o.dst v) w' := by
  have hi : i < ops.length := (List.getElem?_eq_some_iff.1 ho).1
  unfold Plan.ok at hok
  simp only [Bool.and_eq_true] at hok
  obtain ⟨⟨⟨⟨⟨⟨⟨⟨hB, hA⟩, hF⟩, hE⟩, hU⟩, hM⟩, hT⟩, hS⟩, hN⟩ := hok
  have hbi : ∀ j ∈ p.b i, listed j := by
    intro j hj
    have h1 := List.all_eq_true.1 (all_range hB hi) j hj
    simp only [ho] at h1
    obtain ⟨x, hx, h2⟩ := List.any_eq_true.1 h1
    simp only [Bool.and_eq_true, Bool.or_eq_true, beq_iff_eq, decide_eq_true_eq, List.contains_iff_mem] at h2
    have hl := hafter x (Array.mem_toList_iff.1 hx) h2.1.1
    rcases h2.2 with h3 | h3
    · rw [← h3]; exact hl
    · exact hJ.closed _ hl j h3
  have hnotin : ∀ k, listed k → i ∉ p.b k := fun k hk hh => hun (hJ.closed k hk i hh)
  have hwrite : ∀ t, o.dst ≠ some t → putO ρ o.dst v t = ρ t := by
    intro t ht
    cases hd : o.dst with
    | none => rfl
    | some d => simp only [putO]; exact upd_ne _ _ (fun hh => ht (by rw [hd, hh]))
  -- a fact of an operation that has come up is not about the slot that is written now
  have hkeep : ∀ j, listed j → ∀ f, F[j]? = some f → o.dst ≠ some f.1 := by
    intro j hj f hfj hd
    simp only [Plan.okFacts, Bool.and_eq_true] at hF
    have h1 := all_range hF.2 (hJ.bound j hj)
    have h2 : (F.map (·.1)).getD j 0 = f.1 := by simp [List.getD, hfj]
    rw [h2] at h1
    have h3 := all_range h1 hi
    simp only [ho, Option.bind_some, hd, bne_self_eq_false, Bool.false_or, Bool.or_eq_true, beq_iff_eq, List.contains_iff_mem] at h3
    rcases h3 with h3 | h3
    · exact hun (h3 ▸ hj)
    · exact hnotin j hj h3
  unfold Plan.okNw at hN
  simp only [Bool.and_eq_true] at hN
  obtain ⟨⟨hN1, hN2⟩, hN3⟩ := hN
  have hnw : ∀ q ∈ p.nw, q.1 < ops.length ∧ p.mu.contains q.1 = false ∧ ∀ k, k < ops.length → ((ops[k]?.bind (·.dst)) = some q.2 ↔ k = q.1) := by
    intro q hq
    have h1 := List.all_eq_true.1 hN1 q hq
    simp only [Bool.and_eq_true, decide_eq_true_eq, Bool.not_eq_true'] at h1
    refine ⟨h1.1.1, h1.1.2, fun k hk => ?_⟩
    have h2 := all_range h1.2 hk
    constructor
    · intro h3
      simpa [h3] using h2
    · intro h3
      simpa [h3] using h2
  have htie : ∀ d, p.tie i = some d → ∃ r ∈ p.nw, r.2 = d ∧ listed r.1 := by
    intro d hd
    unfold Plan.tie at hd
    obtain ⟨q, hq, hqd⟩ := Option.map_eq_some_iff.1 hd
    have hqm := List.mem_of_find?_eq_some hq
    have hqi : q.1 = i := by simpa using List.find?_some hq
    have h1 := List.all_eq_true.1 hN2 q hqm
    simp only [Bool.and_eq_true] at h1
    obtain ⟨r, hr, h2⟩ := List.any_eq_true.1 h1.2
    simp only [Bool.and_eq_true, beq_iff_eq, List.contains_iff_mem] at h2
    exact ⟨r, hr, h2.1.trans hqd, hbi _ (hqi ▸ h2.2)⟩
  have heG : Ext G w w' := by
    unfold Plan.gm at he
    split at he
    · cases htt : p.tie i with
      | none => simpa [htt] using he
      | some d =>
        simp only [htt] at he
        obtain ⟨r, hr, hrd, hrl⟩ := htie d htt
        rcases hG with hG | hG
        · unfold Plan.tie at htt; rw [hG] at htt; simp at htt
        · refine he.mono (fun c hc => ?_)
          rw [← hrd] at hc
          exact hG c (hJ.fresh r hr hrl c hc).1
    · exact he.of_no
  have hslot : ∀ q ∈ p.nw, q.1 ≠ i → putO ρ o.dst v q.2 = ρ q.2 := by
    intro q hq hne
    refine hwrite _ (fun hd => hne ?_)
    exact (((hnw q hq).2.2 i hi).1 (by rw [ho]; simpa using hd)).symm
  refine ⟨?_, ?_, ?_, ?_, ?_, ?_, ?_, ?_⟩
  · exact hJ.ext.trans heG
  · intro hno
    have hni : p.mu.contains i = false := by
      rw [Bool.eq_false_iff]
      intro hh
      exact hno i (List.contains_iff_mem.1 hh) (.inl rfl)
    unfold Plan.gm at he
    rw [hni] at he
    exact (hJ.calm (fun m hm hl => hno m hm (.inr hl))).trans (by simpa using he)
  · rintro k (rfl | hk) j hj
    · exact .inr (hbi j hj)
    · exact .inr (hJ.closed k hk j hj)
  · rintro k (rfl | hk)
    · exact hi
    · exact hJ.bound k hk
  · rintro k hk hc
    by_cases hki : k = i
    · subst hki; exact hf
    · have hkl : listed k := hk.resolve_left hki
      have h1 := hJ.facts k hkl (fun c hcc hl => hc c hcc (.inr hl))
      unfold fact at h1 ⊢
      cases hfk : F[k]? with
      | none => trivial
      | some f =>
        simp only [hfk] at h1 ⊢
        rw [hwrite f.1 (hkeep k hkl f hfk)]
        have hs := Stables.get F 0 hst k f hfk
        rw [Nat.zero_add] at hs
        have hts : (F.map (·.1)).getD k 0 = f.1 := by simp [List.getD, hfk]
        by_cases hm : p.mu.contains i = true
        · have h2 := all_range hM hi
          simp only [hm, Bool.not_true, Bool.false_or] at h2
          have h3 := all_range h2 (hJ.bound k hkl)
          have hki' : (k == i) = false := by simpa using hki
          simp only [hki', Bool.false_or, Bool.or_eq_true] at h3
          rcases h3 with h3 | h3
          · -- the fact of another variable
            unfold Plan.apart at h3
            cases htt : p.tie i with
            | none => simp [htt] at h3
            | some d =>
              simp only [htt, Bool.and_eq_true, bne_iff_ne, ne_eq, hts] at h3
              rw [h3.1] at hs
              refine hs _ _ _ _ ?_ he h1
              intro b hb hg
              unfold Plan.gm at hg
              rw [if_pos hm] at hg
              simp only [htt] at hg
              obtain ⟨r, hr, hrd, hrl⟩ := htie d htt
              have h5 := all_range hN3 (hJ.bound k hkl)
              rw [hts] at h5
              simp only [h3.1, Bool.not_true, Bool.false_or] at h5
              obtain ⟨r', hr', h6⟩ := List.any_eq_true.1 h5
              simp only [Bool.and_eq_true, beq_iff_eq, Bool.or_eq_true, List.contains_iff_mem] at h6
              have hr'l : listed r'.1 := by
                rcases h6.2 with h7 | h7
                · rw [h7]; exact hkl
                · exact hJ.closed k hkl _ h7
              exact hJ.dist r' hr' r hr (by rw [h6.1, hrd]; exact h3.2) hr'l hrl b (by rw [h6.1]; exact hb) (by rw [hrd]; exact hg)
          · have hlate : p.late k = false := by
              cases hl : p.late k with
              | false => rfl
              | true =>
                have h5 := List.all_eq_true.1 hl i (List.contains_iff_mem.1 hm)
                simp only [Bool.or_eq_true, beq_iff_eq, List.contains_iff_mem] at h5
                rcases h5 with h5 | h5
                · exact absurd h5.symm hki
                · exact absurd h5 (hnotin k hkl)
            cases hd : p.dies k with
            | none =>
              simp only [hd, Bool.or_eq_true, Bool.and_eq_true, Bool.not_eq_true', List.contains_iff_mem] at h3
              rw [hts] at h3
              rcases h3 with h3 | h3
              · rw [h3.2] at hs
                simp only [hd, h3.1, hlate, Option.isSome_none, Bool.or_false, Bool.false_eq_true, if_false] at hs
                exact hs _ _ _ heG h1
              · exact absurd h3 (hnotin k hkl)
            | some c =>
              simp only [hd, Bool.or_eq_true, beq_iff_eq, List.contains_iff_mem] at h3
              rcases h3 with (h3 | h3) | h3
              · exact absurd (.inl h3) (hc c hd)
              · exact absurd (.inr (hbi c h3)) (hc c hd)
              · exact absurd h3 (hnotin k hkl)
        · have hen : Ext noG w w' := by
            unfold Plan.gm at he
            rwa [if_neg hm] at he
          cases hns : p.nws f.1 with
          | true =>
            rw [hns] at hs
            exact hs _ _ _ noG (fun _ _ h => h) hen h1
          | false =>
            rw [hns] at hs
            refine hs _ _ _ ?_ h1
            split
            · exact hen
            · exact hen.of_no
  · intro t ht
    rw [hwrite t ?_]
    · exact hJ.rest t (fun k hk hl => ht k hk (.inr hl))
    · intro hd
      exact ht i (by rw [ho]; simpa using hd) (.inl rfl)
  · rintro q hq hl
    by_cases hqi : q.1 = i
    · have hd : o.dst = some q.2 := by
        have := ((hnw q hq).2.2 i hi).2 hqi.symm
        rw [ho] at this; simpa using this
      have hn := hnew (List.any_eq_true.2 ⟨q, hq, by simpa using hqi⟩)
      intro b hb
      rw [hd] at hb
      have hb' : hdV (upd ρ q.2 v q.2) = some b := hb
      rw [upd_same] at hb'
      exact ⟨Nat.le_trans hJ.ext.size (hn b hb').1, (hn b hb').2⟩
    · intro b hb
      rw [hslot q hq hqi] at hb
      obtain ⟨h1, h2⟩ := hJ.fresh q hq (hl.resolve_left hqi) b hb
      exact ⟨h1, Nat.lt_of_lt_of_le h2 heG.size⟩
  · have key : ∀ q ∈ p.nw, ∀ q' ∈ p.nw, q.1 = i → q'.1 ≠ i → listed q'.1 → ∀ b, hdV (putO ρ o.dst v q.2) = some b → hdV (putO ρ o.dst v q'.2) ≠ some b := by
      intro q hq q' hq' h1 h2 hl b hb hb2
      have hd : o.dst = some q.2 := by
        have := ((hnw q hq).2.2 i hi).2 h1.symm
        rw [ho] at this; simpa using this
      have hn := hnew (List.any_eq_true.2 ⟨q, hq, by simpa using h1⟩)
      rw [hslot q' hq' h2] at hb2
      have hlt := (hJ.fresh q' hq' hl b hb2).2
      rw [hd] at hb
      have hb' : hdV (upd ρ q.2 v q.2) = some b := hb
      rw [upd_same] at hb'
      have := (hn b hb').1
      omega
    rintro q hq q' hq' hne hl hl'
    by_cases h1 : q.1 = i
    · by_cases h2 : q'.1 = i
      · exfalso
        have e1 := ((hnw q hq).2.2 i hi).2 h1.symm
        have e2 := ((hnw q' hq').2.2 i hi).2 h2.symm
        rw [e1] at e2
        exact hne (Option.some.inj e2)
      · exact key q hq q' hq' h1 h2 (hl'.resolve_left h2)
    · by_cases h2 : q'.1 = i
      · exact fun b hb hb2 => key q' hq' q hq h2 h1 (hl.resolve_left h1) b hb2 hb
      · rw [hslot q hq h1, hslot q' hq' h2]
        exact hJ.dist q hq q' hq' hne (hl.resolve_left h1) (hl'.resolve_left h2)

theorem J.ob (hok : p.ok ops n (F.map (·.1)) = true) (hobs : Obs P ops G ρ0 w0 F p 0 ops) {listed : Nat → Prop} {ρ : Nat → Value} {w : World} (hJ : J ops G ρ0 w0 F p listed ρ w)
    {i : Nat} {o : Oper} (ho : ops[i]? = some o) (hun : ¬ listed i) (hafter : ∀ x ∈ o.after, Region.binds .any x = true → listed x.on) :
    (Region.wanted o (yl ops ρ) = true → Yield P o (ev ρ) w fun v w' => Ext (p.gm G i ρ) w w' ∧ (p.isnw i = true → ∀ b, hdV v = some b → w.heap.size ≤ b ∧ b < w'.heap.size) ∧ fact F i (putO ρ o.dst v) w') ∧
    (Region.wanted o (yl ops ρ) = false → p.isnw i = false ∧ fact F i (putO ρ o.dst undef) w) := by
  have hi : i < ops.length := (List.getElem?_eq_some_iff.1 ho).1
  have hok' := hok
  unfold Plan.ok at hok
  simp only [Bool.and_eq_true] at hok
  obtain ⟨⟨⟨⟨⟨⟨⟨⟨hB, hA⟩, hF⟩, hE⟩, hU⟩, hM⟩, hT⟩, hS⟩, hN⟩ := hok
  have hbi : ∀ j ∈ p.b i, listed j := by
    intro j hj
    have h1 := List.all_eq_true.1 (all_range hB hi) j hj
    simp only [ho] at h1
    obtain ⟨x, hx, h2⟩ := List.any_eq_true.1 h1
    simp only [Bool.and_eq_true, Bool.or_eq_true, beq_iff_eq, decide_eq_true_eq, List.contains_iff_mem] at h2
    have hl := hafter x (Array.mem_toList_iff.1 hx) h2.1.1
    rcases h2.2 with h3 | h3
    · rw [← h3]; exact hl
    · exact hJ.closed _ hl j h3
  have hnotin : ∀ k, listed k → i ∉ p.b k := fun k hk hh => hun (hJ.closed k hk i hh)
  have h := Obs.get ops 0 hobs i o ho
  rw [Nat.zero_add] at h
  have h := h ρ w hJ.ext ?_ ?_ ?_
  · have hmu : p.isnw i = true → p.mu.contains i = false := by
      intro hh
      unfold Plan.okNw at hN
      simp only [Bool.and_eq_true] at hN
      obtain ⟨q, hq, hqi⟩ := List.any_eq_true.1 hh
      have h1 := List.all_eq_true.1 hN.1.1 q hq
      simp only [Bool.and_eq_true, Bool.not_eq_true'] at h1
      have : q.1 = i := by simpa using hqi
      rw [← this]; exact h1.1.2
    have htm : ∀ d, p.tie i = some d → p.mu.contains i = true := by
      intro d hd
      unfold Plan.okNw at hN
      simp only [Bool.and_eq_true] at hN
      unfold Plan.tie at hd
      obtain ⟨q, hq, _⟩ := Option.map_eq_some_iff.1 hd
      have h1 := List.all_eq_true.1 hN.1.2 q (List.mem_of_find?_eq_some hq)
      simp only [Bool.and_eq_true] at h1
      have : q.1 = i := by simpa using List.find?_some hq
      rw [← this]; exact h1.1
    simp only [] at h
    cases hnw : p.isnw i with
    | true =>
      simp only [hnw] at h
      refine ⟨fun _ => h.2.mono (fun v w' hh => ⟨?_, fun _ => hh.1, hh.2.2⟩), fun hw => by simp [Region.wanted, h.1] at hw⟩
      unfold Plan.gm
      rw [hmu hnw]
      simpa using hh.2.1
    | false =>
      simp only [hnw] at h
      cases htt : p.tie i with
      | some d =>
        simp only [htt] at h
        refine ⟨fun _ => h.2.mono (fun v w' hh => ⟨?_, fun hx => by simp at hx, hh.2⟩), fun hw => by simp [Region.wanted, h.1] at hw⟩
        unfold Plan.gm
        rw [if_pos (htm d htt)]
        simp only [htt]
        exact hh.1
      | none =>
        simp only [htt] at h
        have hgm : p.gm G i ρ = (if p.mu.contains i then G else noG) := by
          unfold Plan.gm
          simp only [htt]
        rw [hgm]
        cases hg : o.guard with
        | none =>
          simp only [hg] at h
          exact ⟨fun _ => h.mono (fun v w' hh => ⟨hh.1, fun hx => by simp at hx, hh.2⟩), fun hw => by simp [Region.wanted, hg] at hw⟩
        | some gw =>
          obtain ⟨g, want⟩ := gw
          simp only [hg] at h
          refine ⟨fun hw => (h.1 (by simpa [Region.wanted, hg] using hw)).mono (fun v w' hh => ⟨hh.1, fun hx => by simp at hx, hh.2⟩), fun hw => ⟨rfl, h.2 (by simpa [Region.wanted, hg] using hw)⟩⟩
  · intro hf
    refine hJ.calm (fun m hm hl => ?_)
    have h1 := List.all_eq_true.1 hf m hm
    simp only [Bool.or_eq_true, beq_iff_eq, List.contains_iff_mem] at h1
    rcases h1 with h1 | h1
    · exact hun (h1 ▸ hl)
    · exact hnotin m hl h1
  · refine Conj.of (fun t ht => hJ.rest t (fun k hk hl => ?_))
    have h1 := List.all_eq_true.1 (all_range hE hi) t ht
    have h2 := all_range h1 (hJ.bound k hl)
    simp only [hk, bne_self_eq_false, Bool.false_or, Bool.or_eq_true, beq_iff_eq, List.contains_iff_mem] at h2
    rcases h2 with h2 | h2
    · exact hun (h2 ▸ hl)
    · exact hnotin k hl h2
  · refine Conj.of (fun j hj => ?_)
    have h1 := List.all_eq_true.1 (all_range hU hi) j hj
    simp only [Bool.and_eq_true, List.contains_iff_mem] at h1
    refine hJ.facts j (hbi j h1.1) (fun c hc hl => ?_)
    have h2 := h1.2
    simp only [hc, Bool.or_eq_true, beq_iff_eq, List.contains_iff_mem] at h2
    rcases h2 with h2 | h2
    · exact hun (h2 ▸ hl)
    · exact hnotin c hl h2

theorem yielded_eq (hT : Plan.okTmps ops n = true) (ρ : Nat → Value) (g : Nat) : yielded ops.toArray (Fr n ρ).tmps g = yl ops ρ g := by
  unfold yielded yl
  simp only [List.getElem?_toArray]
  cases ho : (ops[g]?).bind (·.dst) with
  | none => simp
  | some d =>
    simp only [Option.bind_some]
    have hd : d < n := by
      cases h2 : ops[g]? with
      | none => simp [h2] at ho
      | some o =>
        simp only [h2, Option.bind_some] at ho
        have h3 := List.all_eq_true.1 hT o (List.mem_of_getElem? h2)
        simp only [ho, Bool.and_eq_true, decide_eq_true_eq] at h3
        exact h3.2
    rw [Fr_get ρ hd]
    cases ρ d <;> rfl

theorem execOp_Fr (hT : Plan.okTmps ops n = true) (hS : Plan.okSel ops = true) {i : Nat} {o : Oper} (ho : ops[i]? = some o) (ρ : Nat → Value) : execOp (Fr n ρ).eval o = execOp (ev ρ) o := by
  have hm := List.mem_of_getElem? ho
  refine execOp_congr o (fun cs b hh => ?_) (fun x hx => ?_)
  · have h1 := List.all_eq_true.1 hS o hm
    simp [hh] at h1
  · have h1 := List.all_eq_true.1 hT o hm
    simp only [Bool.and_eq_true] at h1
    exact Fr_eval (List.all_eq_true.1 h1.1 x (Array.mem_toList_iff.2 hx))

theorem wpOp_step (hok : p.ok ops n (F.map (·.1)) = true) (hobs : Obs P ops G ρ0 w0 F p 0 ops) {listed : Nat → Prop} {ρ : Nat → Value} {w : World} (hJ : J ops G ρ0 w0 F p listed ρ w)
    {i : Nat} {o : Oper} (ho : ops[i]? = some o) (hun : ¬ listed i) (hafter : ∀ x ∈ o.after, Region.binds .any x = true → listed x.on)
    {Q : Exit → Act → World → Prop} {K : Act → World → Prop}
    (hK : ∀ v w', Ext (p.gm G i ρ) w w' → (p.isnw i = true → ∀ b, hdV v = some b → w.heap.size ≤ b ∧ b < w'.heap.size) → fact F i (putO ρ o.dst v) w' → K (Fr n (putO ρ o.dst v)) w') : wpOp P ops.toArray Q i K (Fr n ρ) w := by
  have hok' := hok
  unfold Plan.ok at hok'
  simp only [Bool.and_eq_true] at hok'
  obtain ⟨⟨⟨⟨_, _⟩, hT⟩, hS⟩, _⟩ := hok'
  have h := J.ob hok hobs hJ ho hun hafter
  unfold wpOp
  simp only [List.getElem?_toArray, ho]
  have hw : Region.wanted o (yielded ops.toArray (Fr n ρ).tmps) = Region.wanted o (yl ops ρ) := by
    congr 1
    funext g
    exact yielded_eq hT ρ g
  rw [hw]
  split
  · rename_i hyes
    refine .inl (Yield.wp (K := fun v w' => Ext (p.gm G i ρ) w w' ∧ (p.isnw i = true → ∀ b, hdV v = some b → w.heap.size ≤ b ∧ b < w'.heap.size) ∧ fact F i (putO ρ o.dst v) w') ?_ ?_)
    · have h1 := h.1 hyes
      unfold Yield at h1 ⊢
      rwa [execOp_Fr hT hS ho ρ]
    · rintro v w' ⟨h1, h2, h3⟩
      rw [Fr_put]
      exact hK v w' h1 h2 h3
  · rename_i hno
    rw [Fr_put]
    have h2 := h.2 (by simpa using hno)
    exact hK undef w (Ext.refl _ _) (fun hh => by rw [h2.1] at hh; cases hh) h2.2

/-- What is known behind the region. -/
structure Done (ops : List Oper) (G : Nat → Prop) (ρ0 : Nat → Value) (w0 : World) (F : List Fact) (p : Plan) (ρ : Nat → Value) (w : World) : Prop where
  ext : Ext G w0 w
  calm : p.mu = [] → Ext noG w0 w
  facts : ∀ i, i < ops.length → p.dies i = none → fact F i ρ w
  rest : ∀ t, (ops.all fun o => o.dst != some t) = true → ρ t = ρ0 t
  dist : ∀ q ∈ p.nw, ∀ q' ∈ p.nw, q.2 ≠ q'.2 → ∀ b, hdV (ρ q.2) = some b → hdV (ρ q'.2) ≠ some b

theorem J.start {w : World} (hext : Ext noG w0 w) : J ops G ρ0 w0 F p (fun _ => False) ρ0 w :=
  ⟨hext.of_no, fun _ => hext, fun _ h => h.elim, fun _ h => h.elim, fun _ h => h.elim, fun _ _ => rfl, fun _ _ h => h.elim, fun _ _ _ _ _ h => h.elim⟩
theorem nw_lt (hok : p.ok ops n (F.map (·.1)) = true) : ∀ q ∈ p.nw, q.1 < ops.length := by
  intro q hq
  unfold Plan.ok Plan.okNw at hok
  simp only [Bool.and_eq_true] at hok
  have h1 := List.all_eq_true.1 hok.2.1.1 q hq
  simp only [Bool.and_eq_true, decide_eq_true_eq] at h1
  exact h1.1.1

theorem wpAny_of_J (hok : p.ok ops n (F.map (·.1)) = true) (hG : p.tb = [] ∨ ∀ b, w0.heap.size ≤ b → G b) (hst : Stables G p 0 F) (hobs : Obs P ops G ρ0 w0 F p 0 ops) {Q : Exit → Act → World → Prop}
    (hQ : ∀ ρ w, Done ops G ρ0 w0 F p ρ w → Q .normal (Fr n ρ) w) :
    ∀ (fuel : Nat) (listed : Array Bool) (ρ : Nat → Value) (w : World), listed.size = ops.length → (∀ l : List Nat, l.Nodup → (∀ i ∈ l, listed.getD i true = false) → l.length ≤ fuel) →
      J ops G ρ0 w0 F p (fun k => listed.getD k false = true) ρ w → wpAny P .any ops.toArray Q fuel listed (Fr n ρ) w := by
  have hA : Plan.okAfter ops = true := by
    unfold Plan.ok at hok
    simp only [Bool.and_eq_true] at hok
    exact hok.1.1.1.1.1.1.1.2
  have hall : ∀ (listed : Array Bool), listed.size = ops.length → Region.ready .any ops.toArray listed = [] → ∀ i, i < ops.length → listed.getD i false = true := by
    intro listed hsz hr i
    induction i using Nat.strongRecOn with
    | _ i ih =>
      intro hi
      cases hl : listed.getD i false with
      | true => rfl
      | false =>
        exfalso
        have hi' : i < listed.size := by omega
        have hm : i ∈ Region.ready .any ops.toArray listed := by
          rw [mem_ready]
          refine ⟨by simp [hi'] at hl ⊢; exact hl, ops[i], by simp [hi], fun x hx hb => ?_⟩
          have h1 := all_range hA hi
          rw [List.getElem?_eq_getElem hi] at h1
          have h2 := List.all_eq_true.1 h1 x (Array.mem_toList_iff.2 hx)
          simp only [hb, Bool.not_true, Bool.false_or, decide_eq_true_eq] at h2
          exact ih x.on h2 (by omega)
        rw [hr] at hm
        cases hm
  have hend : ∀ (listed : Array Bool) (ρ : Nat → Value) (w : World), listed.size = ops.length → Region.ready .any ops.toArray listed = [] →
      J ops G ρ0 w0 F p (fun k => listed.getD k false = true) ρ w → Q .normal (Fr n ρ) w := by
    intro listed ρ w hsz hr hJ
    refine hQ ρ w ⟨hJ.ext, fun hm => hJ.calm (fun m h => by rw [hm] at h; cases h), fun i hi hd => hJ.facts i (hall listed hsz hr i hi) (fun c hc => by rw [hd] at hc; cases hc), fun t ht => hJ.rest t (fun k hk hl => ?_), fun q hq q' hq' hne => hJ.dist q hq q' hq' hne (hall listed hsz hr _ (nw_lt hok q hq)) (hall listed hsz hr _ (nw_lt hok q' hq'))⟩
    cases h2 : ops[k]? with
    | none => simp [h2] at hk
    | some o =>
      have h1 := List.all_eq_true.1 ht o (List.mem_of_getElem? h2)
      simp [h2] at hk
      simp [hk] at h1
  intro fuel
  induction fuel with
  | zero =>
    intro listed ρ w hsz hlen hJ
    have hr : Region.ready .any ops.toArray listed = [] := by
      cases hr : Region.ready .any ops.toArray listed with
      | nil => rfl
      | cons x xs =>
        have hx : x ∈ Region.ready .any ops.toArray listed := by rw [hr]; simp
        have := hlen [x] (by simp) (by simpa using (mem_ready.1 hx).1)
        simp at this
    exact ⟨hr, hend listed ρ w hsz hr hJ⟩
  | succ fuel ih =>
    intro listed ρ w hsz hlen hJ
    refine ⟨fun hr => hend listed ρ w hsz hr hJ, fun i hi => ?_⟩
    obtain ⟨hun, o, ho, haft⟩ := mem_ready.1 hi
    have ho' : ops[i]? = some o := by simpa using ho
    have hil : i < listed.size := by rw [hsz]; exact (List.getElem?_eq_some_iff.1 ho').1
    have hunl : ¬ listed.getD i false = true := by simp [hil] at hun ⊢; exact hun
    refine wpOp_step hok hobs hJ ho' hunl haft (fun v w' he hn hf => ?_)
    have hJ' := J.step hok hG hst hJ ho' hunl haft he hn hf
    have heq : ∀ k, (listed.setIfInBounds i true).getD k false = true ↔ (k = i ∨ listed.getD k false = true) := by
      intro k
      by_cases hk : k = i
      · subst hk; simp [hil]
      · rw [getD_set_ne false (Ne.symm hk)]; simp [hk]
    refine ih _ _ _ (by simpa using hsz) (fun l hnd hl => ?_) ?_
    · have h1 := hlen (i :: l) (by
        refine List.nodup_cons.2 ⟨fun hm => ?_, hnd⟩
        have := hl i hm
        simp [hil] at this) (by
        intro j hj
        cases hj with
        | head => exact hun
        | tail _ hj =>
          have h2 := hl j hj
          by_cases hji : j = i
          · subst hji; exact hun
          · rwa [getD_set_ne true (Ne.symm hji)] at h2)
      simpa using h1
    · have hfun : (fun k => (listed.setIfInBounds i true).getD k false = true) = (fun k => k = i ∨ listed.getD k false = true) := funext fun k => propext (heq k)
      rw [hfun]
      exact hJ'

theorem wpOps_of_J (hok : p.ok ops n (F.map (·.1)) = true) (hG : p.tb = [] ∨ ∀ b, w0.heap.size ≤ b → G b) (hst : Stables G p 0 F) (hobs : Obs P ops G ρ0 w0 F p 0 ops) {Q : Exit → Act → World → Prop}
    (hQ : ∀ ρ w, Done ops G ρ0 w0 F p ρ w → Q .normal (Fr n ρ) w) :
    ∀ (m k : Nat) (ρ : Nat → Value) (w : World), k + m = ops.length → J ops G ρ0 w0 F p (fun j => j < k) ρ w → wpOps P ops.toArray Q (List.range' k m) (Fr n ρ) w := by
  have hA : Plan.okAfter ops = true := by
    unfold Plan.ok at hok
    simp only [Bool.and_eq_true] at hok
    exact hok.1.1.1.1.1.1.1.2
  intro m
  induction m with
  | zero =>
    intro k ρ w hk hJ
    refine hQ ρ w ⟨hJ.ext, fun hm => hJ.calm (fun m h => by rw [hm] at h; cases h), fun i hi hd => hJ.facts i (by omega) (fun c hc => by rw [hd] at hc; cases hc), fun t ht => hJ.rest t (fun j hj hl => ?_), fun q hq q' hq' hne => hJ.dist q hq q' hq' hne (by have := nw_lt hok q hq; omega) (by have := nw_lt hok q' hq'; omega)⟩
    cases h2 : ops[j]? with
    | none => simp [h2] at hj
    | some o =>
      have h1 := List.all_eq_true.1 ht o (List.mem_of_getElem? h2)
      simp [h2] at hj
      simp [hj] at h1
  | succ m ih =>
    intro k ρ w hk hJ
    have hklt : k < ops.length := by omega
    have ho : ops[k]? = some ops[k] := List.getElem?_eq_getElem hklt
    rw [List.range'_succ, wpOps_cons]
    have haft : ∀ x ∈ ops[k].after, Region.binds .any x = true → x.on < k := by
      intro x hx hb
      have h1 := all_range hA hklt
      rw [ho] at h1
      have h2 := List.all_eq_true.1 h1 x (Array.mem_toList_iff.2 hx)
      simpa [hb] using h2
    refine wpOp_step hok hobs hJ ho (Nat.lt_irrefl k) haft (fun v w' he hn hf => ?_)
    have hJ' := J.step hok hG hst hJ ho (Nat.lt_irrefl k) haft he hn hf
    refine ih (k + 1) _ _ (by omega) ?_
    have hfun : (fun j => j < k + 1) = (fun j => j = k ∨ j < k) := funext fun j => propext (by omega)
    rw [hfun]
    exact hJ'

/-! ### code -/
def WP (P : Program) (n : Nat) (c : Code) (Q : Exit → (Nat → Value) → World → Prop) (ρ : Nat → Value) (w : World) : Prop :=
  c.wp P (fun e a w => ∃ ρ', a = Fr n ρ' ∧ Q e ρ' w) (Fr n ρ) w

end

section
variable {P : Program} {n : Nat} {Q : Exit → (Nat → Value) → World → Prop} {ρ : Nat → Value} {w : World}

theorem nodup_length : ∀ (n : Nat) (l : List Nat), l.Nodup → (∀ i ∈ l, i < n) → l.length ≤ n
  | 0, l, _, h => by
    cases l with
    | nil => simp
    | cons x r => exact absurd (h x (by simp)) (Nat.not_lt_zero _)
  | n + 1, l, hnd, h => by
    by_cases hm : n ∈ l
    · have h1 := nodup_length n (l.erase n) (hnd.erase n) (fun i hi => by
        have h2 := h i (List.mem_of_mem_erase hi)
        have h3 : i ≠ n := fun e => (List.Nodup.not_mem_erase hnd) (e ▸ hi)
        omega)
      rw [List.length_erase_of_mem hm] at h1
      omega
    · have h1 := nodup_length n l hnd (fun i hi => by
        have h2 := h i hi
        have h3 : i ≠ n := fun e => hm (e ▸ hi)
        omega)
      omega

theorem WP.regionN {id : Nat} {ops : List Oper} {draw : Bool} (hm : P.follows .mixedOrders = true) (p : Plan) (F : List Fact) (G : Nat → Prop)
    (hok : p.ok ops n (F.map (·.1)) = true) (hG : p.tb = [] ∨ ∀ b, w.heap.size ≤ b → G b) (hst : Stables G p 0 F)
    (hobs : Obs P ops G ρ w F p 0 ops) (hQ : ∀ ρ' w', Ext G w w' → (p.mu = [] → Ext noG w w') → (∀ i, (decide (i < ops.length) && (p.dies i).isNone) = true → fact F i ρ' w') →
      (∀ t, (ops.all fun o => o.dst != some t) = true → ρ' t = ρ t) → (∀ q ∈ p.nw, ∀ q' ∈ p.nw, q.2 ≠ q'.2 → ∀ b, hdV (ρ' q.2) = some b → hdV (ρ' q'.2) ≠ some b) → Q .normal ρ' w') : WP P n (.region id ops.toArray draw) Q ρ w := by
  cases draw with
  | false =>
    refine wp_region ?_
    have h := wpOps_of_J (Q := fun e a w => ∃ ρ', a = Fr n ρ' ∧ Q e ρ' w) hok hG hst hobs
      (fun ρ' w' hd => ⟨ρ', rfl, hQ ρ' w' hd.ext hd.calm (fun i hi => by
        simp only [Bool.and_eq_true, decide_eq_true_eq, Option.isNone_iff_eq_none] at hi
        exact hd.facts i hi.1 hi.2) hd.rest hd.dist⟩) ops.length 0 ρ w (by simp) (by
        have := J.start (ops := ops) (G := G) (ρ0 := ρ) (w0 := w) (F := F) (p := p) (Ext.refl _ _)
        have hfun : (fun j => j < 0) = (fun _ : Nat => False) := funext fun j => propext ⟨fun h => absurd h (Nat.not_lt_zero _), False.elim⟩
        rw [hfun]; exact this)
    rw [List.range_eq_range']
    simpa using h
  | true =>
    refine wp_region_any hm ?_
    have h := wpAny_of_J (Q := fun e a w => ∃ ρ', a = Fr n ρ' ∧ Q e ρ' w) hok hG hst hobs
      (fun ρ' w' hd => ⟨ρ', rfl, hQ ρ' w' hd.ext hd.calm (fun i hi => by
        simp only [Bool.and_eq_true, decide_eq_true_eq, Option.isNone_iff_eq_none] at hi
        exact hd.facts i hi.1 hi.2) hd.rest hd.dist⟩)
      ops.length (Array.replicate ops.length false) ρ w.drew (by simp) (fun l hnd hl => by
        have hlt : ∀ i ∈ l, i < ops.length := by
          intro i hi
          have h1 := hl i hi
          rcases Nat.lt_or_ge i ops.length with h2 | h2
          · exact h2
          · simp [h2] at h1
        exact nodup_length _ l hnd hlt) (by
        have := J.start (ops := ops) (G := G) (ρ0 := ρ) (w0 := w) (F := F) (p := p) (Ext.refl noG w).drew
        have hfun : (fun k => (Array.replicate ops.length false).getD k false = true) = (fun _ : Nat => False) := funext fun j => propext (by
          rcases Nat.lt_or_ge j ops.length with h2 | h2
          · simp [h2]
          · simp [h2])
        rw [hfun]; exact this)
    rw [show ops.toArray.size = ops.length from List.size_toArray]
    exact h

def thenQ (K : (Nat → Value) → World → Prop) (Q : Exit → (Nat → Value) → World → Prop) : Exit → (Nat → Value) → World → Prop
  | .normal, ρ, w => K ρ w
  | e, ρ, w => Q e ρ w
def blockQ (id : Nat) (Q : Exit → (Nat → Value) → World → Prop) : Exit → (Nat → Value) → World → Prop
  | .exit id', ρ, w => if id' = id then Q .normal ρ w else Q (.exit id') ρ w
  | e, ρ, w => Q e ρ w

theorem WP.mono {c : Code} {Q' : Exit → (Nat → Value) → World → Prop} (h : WP P n c Q ρ w) (hq : ∀ e ρ w, Q e ρ w → Q' e ρ w) : WP P n c Q' ρ w :=
  wp_mono h fun _ _ _ ⟨ρ', ha, hh⟩ => ⟨ρ', ha, hq _ _ _ hh⟩
theorem WP.skip (h : Q .normal ρ w) : WP P n .skip Q ρ w := wp_skip ⟨ρ, rfl, h⟩
theorem WP.exit {id : Nat} (h : Q (.exit id) ρ w) : WP P n (.exit id) Q ρ w := wp_exit ⟨ρ, rfl, h⟩
theorem WP.ret (h : Q .ret ρ w) : WP P n .ret Q ρ w := wp_ret ⟨ρ, rfl, h⟩
theorem WP.seq {x y : Code} (h : WP P n x (thenQ (WP P n y Q) Q) ρ w) : WP P n (.seq x y) Q ρ w := by
  refine wp_seq (wp_mono h ?_)
  rintro e a w' ⟨ρ', rfl, hh⟩
  cases e <;> first | exact hh | exact ⟨ρ', rfl, hh⟩
theorem WP.cond {c : Operand} {x y : Code} {t : Bool} (hb : Operand.below n c = true) (hc : ev ρ c = .bool t) (ht : t = true → WP P n x Q ρ w) (hf : t = false → WP P n y Q ρ w) : WP P n (.cond c x y) Q ρ w :=
  wp_cond_split (t := t) (by rw [Fr_eval hb, hc]) ht hf
theorem WP.block {id : Nat} {c : Code} (h : WP P n c (blockQ id Q) ρ w) : WP P n (.block id c) Q ρ w := by
  refine wp_block (wp_mono h ?_)
  rintro e a w' ⟨ρ', rfl, hh⟩
  cases e <;> first
    | exact ⟨ρ', rfl, hh⟩
    | (rename_i id'
       simp only [blockQ, Exit.inBlock] at hh ⊢
       by_cases hid : id' = id
       · simp only [hid, if_true] at hh ⊢; exact ⟨ρ', rfl, hh⟩
       · simp only [hid, if_false] at hh ⊢; exact ⟨ρ', rfl, hh⟩)
/-- A loop: I k says what holds at the head of a round when at most k rounds are left. -/
theorem WP.loop {c : Code} (I : Nat → (Nat → Value) → World → Prop) (k : Nat) (h0 : I k ρ w) (hz : ∀ ρ w, ¬ I 0 ρ w)
    (step : ∀ k ρ w, I (k + 1) ρ w → WP P n c (thenQ (I k) Q) ρ w) : WP P n (.loop c) Q ρ w := by
  have key : ∀ k ρ w, I k ρ w → Code.rounds P c (fun e a w => ∃ ρ', a = Fr n ρ' ∧ Q e ρ' w) k (Fr n ρ) w := by
    intro k
    induction k with
    | zero => intro ρ w h; exact (hz ρ w h).elim
    | succ k ih =>
      intro ρ w h
      rw [rounds_succ]
      refine wp_mono (step k ρ w h) ?_
      rintro e a w' ⟨ρ', rfl, hh⟩
      cases e <;> first | exact ih _ _ hh | exact ⟨ρ', rfl, hh⟩
  exact wp_loop_rounds k (key k ρ w h0)

/-- What a function's body must come to. -/
def retQ (P : Program) (n : Nat) (fn : Func) (R : Value → World → Prop) : Exit → (Nat → Value) → World → Prop
  | .normal, ρ, w | .ret, ρ, w => ∃ v, (results fn (Fr n ρ).tmps).run P w = .ok v w ∧ R v w
  | _, _, _ => False
theorem Calls.of_WP {f : FuncId} {fn : Func} {c : Code} {args : List Value} {R : Value → World → Prop}
    (hf : P.funcs[f]? = some fn) (hb : fn.body = some c) (hn : fn.ntmps = n) (hargs : args.length ≤ n)
    (h : WP P n c (retQ P n fn R) (fun t => args.getD t undef) w) : Calls P f args.toArray w fun e w' => ∃ v, e = .returned v ∧ R v w' := by
  refine calls_of_wp hf hb ?_
  have ha : ({ tmps := args.toArray ++ Array.replicate (fn.ntmps - args.toArray.size) undef, defers := [] } : Act) = Fr n (fun t => args.getD t undef) := by
    unfold Fr
    congr 1
    apply Array.ext
    · simp [hn]; omega
    · intro i h1 h2
      rcases Nat.lt_or_ge i args.length with h3 | h3
      · simp [h3]
      · simp [h3, Nat.not_lt.2 h3]
  rw [ha]
  refine wp_mono h ?_
  rintro e a w' ⟨ρ', rfl, hh⟩
  cases e <;> simp only [retQ] at hh <;> first
    | exact hh.elim
    | (obtain ⟨v, h1, h2⟩ := hh
       exact ⟨rfl, v, h1, v, rfl, h2⟩)
end

/-- What is to be shown of operation i of a region that does not make several variables. -/
def ObO (P : Program) (ops : List Oper) (G : Nat → Prop) (ρ0 : Nat → Value) (w0 : World) (F : List Fact) (p : Plan) (i : Nat) (o : Oper) : Prop :=
  ∀ ρ w, Ext G w0 w → (p.first i = true → Ext noG w0 w) → Conj (fun t => ρ t = ρ0 t) (p.e i) → Conj (fun j => fact F j ρ w) (p.u i) →
    let core := Yield P o (ev ρ) w fun v w' => Ext (if p.mu.contains i then G else noG) w w' ∧ fact F i (putO ρ o.dst v) w'
    match o.guard with
    | none => core
    | some (g, want) => (yl ops ρ g = some want → core) ∧ (yl ops ρ g ≠ some want → fact F i (putO ρ o.dst undef) w)
def ObsO (P : Program) (ops : List Oper) (G : Nat → Prop) (ρ0 : Nat → Value) (w0 : World) (F : List Fact) (p : Plan) : Nat → List Oper → Prop
  | _, [] => True
  | i, o :: r => ObO P ops G ρ0 w0 F p i o ∧ ObsO P ops G ρ0 w0 F p (i + 1) r
def StablesO (G : Nat → Prop) (p : Plan) : Nat → List Fact → Prop
  | _, [] => True
  | i, f :: r => (Stable (if p.mu.contains i || (p.dies i).isSome || p.late i then noG else G) f) ∧ StablesO G p (i + 1) r
def Plan.plain (B U E : List (List Nat)) (mu : List Nat) (con : List (Nat × Nat)) : Plan := ⟨B, U, E, mu, con, [], []⟩
section
variable {P : Program} {ops : List Oper} {n : Nat} {G : Nat → Prop} {ρ0 : Nat → Value} {w0 : World} {F : List Fact} {B U E : List (List Nat)} {mu : List Nat} {con : List (Nat × Nat)}
theorem ObsO.obs : ∀ (l : List Oper) (k : Nat), ObsO P ops G ρ0 w0 F (.plain B U E mu con) k l → Obs P ops G ρ0 w0 F (.plain B U E mu con) k l
  | [], _, _ => trivial
  | _ :: r, k, h => ⟨h.1, ObsO.obs r (k + 1) h.2⟩
theorem StablesO.stables : ∀ (l : List Fact) (k : Nat), StablesO G (.plain B U E mu con) k l → Stables G (.plain B U E mu con) k l
  | [], _, _ => trivial
  | _ :: r, k, h => ⟨h.1, StablesO.stables r (k + 1) h.2⟩
theorem WP.region {Q : Exit → (Nat → Value) → World → Prop} {ρ : Nat → Value} {w : World} {id : Nat} {draw : Bool} (hm : P.follows .mixedOrders = true) (B U E : List (List Nat)) (mu : List Nat) (con : List (Nat × Nat)) (F : List Fact) (G : Nat → Prop)
    (hok : (Plan.plain B U E mu con).ok ops n (F.map (·.1)) = true) (hst : StablesO G (.plain B U E mu con) 0 F)
    (hobs : ObsO P ops G ρ w F (.plain B U E mu con) 0 ops) (hQ : ∀ ρ' w', Ext G w w' → (mu = [] → Ext noG w w') → (∀ i, (decide (i < ops.length) && ((Plan.plain B U E mu con).dies i).isNone) = true → fact F i ρ' w') →
      (∀ t, (ops.all fun o => o.dst != some t) = true → ρ' t = ρ t) → Q .normal ρ' w') : WP P n (.region id ops.toArray draw) Q ρ w :=
  WP.regionN hm (.plain B U E mu con) F G hok (.inl rfl) hst.stables hobs.obs (fun ρ' w' h1 h2 h3 h4 _ => hQ ρ' w' h1 h2 h3 h4)
end
end Go.PL
