/- Texts that the proof stands on: laws of the program logic, the Lean functions of the Go functions, and that the Go functions compute them. -/
import Derived.Calls
import Derived.Orders
import Derived.LoopN
import Derived.Below
import Derived.KernelRfl
import Derived.Laws.Sem
import Derived.Laws.AppendOwn
import Derived.Deep.Slices
import Derived.Laws.StructEq
import Derived.Lib.BytesEntry
import Derived.Lib.Bytealg
import Derived.Laws.BytesString
import Derived.DataElems
set_option linter.unusedVariables false
set_option linter.unusedSimpArgs false
set_option maxRecDepth 100000
namespace Go.PL
open Go
def Fr (n : Nat) (ρ : Nat -> Value) : Act := { tmps := Array.ofFn (n := n) fun i => ρ i.1, defers := [] }
def upd (ρ : Nat -> Value) (d : Nat) (v : Value) : Nat -> Value := fun t => if t = d then v else ρ t
def a5m (ρ : Nat -> Value) : Option Tmp -> Value -> (Nat -> Value)
  | some d, v => upd ρ d v
  | none, _ => ρ
def ev (ρ : Nat -> Value) : Operand -> Value
  | .tmp t => ρ t
  | .const v => v
  | .global g => .pointer (some ⟨g, 0, none⟩)
  | .func f => .func (.func f) #[] #[]
def Operand.below (n : Nat) : Operand -> Bool
  | .tmp t => decide (t < n)
  | _ => true
theorem a3f (ρ : Nat -> Value) (d : Nat) (v : Value) : upd ρ d v d = v := by simp [upd]
theorem d7z (ρ : Nat -> Value) {d t : Nat} (v : Value) (h : t ≠ d) : upd ρ d v t = ρ t := by simp [upd, h]
theorem c2m (n : Nat) (ρ : Nat -> Value) (d : Option Tmp) (v : Value) : (Fr n ρ).put d v = Fr n (a5m ρ d v) := by
  cases d with
  | none => rfl
  | some d =>
    simp only [Act.put, Fr, a5m]
    congr 1
    apply Array.ext
    . simp
    . intro i h1 h2
      simp [upd]
      split <;> simp_all [eq_comm]
theorem d7h {n : Nat} (ρ : Nat -> Value) {t : Nat} (h : t < n) : (Fr n ρ).tmps[t]? = some (ρ t) := by
  simp [Fr, h]
theorem c7c {n : Nat} {ρ : Nat -> Value} {x : Operand} (h : Operand.below n x = true) : (Fr n ρ).eval x = ev ρ x := by
  cases x with
  | tmp t =>
    have ht : t < n := by simpa [Operand.below] using h
    simp [Act.eval, ev, Fr, ht]
  | const v => rfl
  | global g => rfl
  | func f => rfl
structure Ext (G : Nat -> Prop) (w w' : World) : Prop where
  os : w'.os = w.os
  tape : w'.tape = w.tape
  output : w'.output = w.output
  size : w.heap.size <= w'.heap.size
  block : ∀ b, b < w.heap.size -> ¬ G b -> w'.heap[b]? = w.heap[b]?
  drawn : w.drawn <= w'.drawn
def noG : Nat -> Prop := fun _ => False
theorem Ext.refl (G : Nat -> Prop) (w : World) : Ext G w w := ⟨rfl, rfl, rfl, Nat.le_refl _, fun _ _ _ => rfl, Nat.le_refl _⟩
theorem Ext.trans {G : Nat -> Prop} {a b c : World} (h : Ext G a b) (k : Ext G b c) : Ext G a c :=
  ⟨k.os.trans h.os, k.tape.trans h.tape, k.output.trans h.output, Nat.le_trans h.size k.size, fun i hi hg => (k.block i (Nat.lt_of_lt_of_le hi h.size) hg).trans (h.block i hi hg), Nat.le_trans h.drawn k.drawn⟩
theorem Ext.mono {G G' : Nat -> Prop} {a b : World} (h : Ext G a b) (hG : ∀ i, G i -> G' i) : Ext G' a b :=
  ⟨h.os, h.tape, h.output, h.size, fun i hi hg => h.block i hi (fun hh => hg (hG i hh)), h.drawn⟩
theorem Ext.of_no {G : Nat -> Prop} {a b : World} (h : Ext noG a b) : Ext G a b := h.mono (fun _ hh => hh.elim)
theorem Ext.drew {G : Nat -> Prop} {a w : World} (h : Ext G a w) : Ext G a w.drew := ⟨h.os, h.tape, h.output, h.size, h.block, Nat.le_succ_of_le h.drawn⟩
theorem Ext.below {w w' : World} (h : Ext noG w w') : RowKit.Below w.heap.size w w' := ⟨h.os, h.tape, h.output, h.size, fun k hk => h.block k hk (fun hh => hh)⟩
theorem Ext.alloc (G : Nat -> Prop) (w : World) (o : Obj) : Ext G w (w.alloc o) :=
  ⟨rfl, rfl, rfl, by simp, fun k hk _ => RowKit.Below.heap_alloc _ _ _ hk, Nat.le_refl _⟩
def n9 (P : Program) (o : Oper) (η : Operand -> Value) (w : World) (K : Value -> World -> Prop) : Prop :=
  match (execOp η o).run P w with
  | .ok (.value v) w' => K v w'
  | .ok .skip w' => K undef w'
  | .ok (.enter f args) w' => Calls P f args w' fun e w'' => ∃ v, e = .returned v /\ K v w''
  | _ => False
theorem n9.wp {P : Program} {o : Oper} {a : Act} {w : World} {K : Value -> World -> Prop} {next : Act -> World -> Prop} {Q : Exit -> Act -> World -> Prop}
    (h : n9 P o a.eval w K) (hn : ∀ v w', K v w' -> next (a.put o.dst v) w') : o.wp P a w next Q := by
  unfold n9 at h
  unfold Oper.wp
  generalize (execOp a.eval o).run P w = r at *
  cases r with
  | ok x w' =>
    cases x <;> simp only [Oper.upon] at * <;> first
      | exact hn _ _ h
      | exact h.mono (fun e w'' ⟨v, he, hk⟩ => by subst he; exact hn _ _ hk)
      | exact h.elim
  | halt x w' => exact h.elim
theorem n9.mono {P : Program} {o : Oper} {η : Operand -> Value} {w : World} {K K' : Value -> World -> Prop}
    (h : n9 P o η w K) (hn : ∀ v w', K v w' -> K' v w') : n9 P o η w K' := by
  unfold n9 at *
  generalize (execOp η o).run P w = r at *
  cases r with
  | ok x w' =>
    cases x <;> simp only [] at * <;> first
      | exact hn _ _ h
      | exact h.mono (fun e w'' ⟨v, he, hk⟩ => ⟨v, he, hn _ _ hk⟩)
  | halt x w' => exact h
def yl (ops : List Oper) (ρ : Nat -> Value) (g : Nat) : Option Bool :=
  match (ops[g]?).bind (·.dst) with
  | some d => match ρ d with | .bool b => some b | _ => none
  | none => none
def d1y {α : Type} (p : α -> Prop) : List α -> Prop
  | [] => True
  | x :: r => p x /\ d1y p r
theorem d1y.of {α : Type} {p : α -> Prop} {l : List α} (h : ∀ x ∈ l, p x) : d1y p l := by
  induction l with
  | nil => trivial
  | cons y r ih => exact ⟨h y (by simp), ih (fun x hx => h x (by simp [hx]))⟩
abbrev Fact := Nat × (Value -> World -> Prop)
def val (t : Nat) (v : Value) : Fact := (t, fun u _ => u = v)
def a3b (F : List Fact) (i : Nat) (ρ : Nat -> Value) (w : World) : Prop :=
  match F[i]? with
  | some f => f.2 (ρ f.1) w
  | none => True
def hdV : Value -> Option Nat
  | .pointer (some a) => some a.block
  | .slice (some a) _ _ => some a.block
  | _ => none
structure Plan where
  B : List (List Nat)
  U : List (List Nat)
  E : List (List Nat)
  mu : List Nat := []
  con : List (Nat × Nat) := []
  nw : List (Nat × Nat) := []
  tb : List (Nat × Nat) := []
namespace Plan
def b (p : Plan) (i : Nat) : List Nat := p.B.getD i []
def u (p : Plan) (i : Nat) : List Nat := p.U.getD i []
def e (p : Plan) (i : Nat) : List Nat := p.E.getD i []
def dies (p : Plan) (j : Nat) : Option Nat := (p.con.find? (·.1 == j)).map (·.2)
def tie (p : Plan) (i : Nat) : Option Nat := (p.tb.find? (·.1 == i)).map (·.2)
def isnw (p : Plan) (i : Nat) : Bool := p.nw.any (·.1 == i)
def nws (p : Plan) (t : Nat) : Bool := p.nw.any (·.2 == t)
def apart (p : Plan) (ts : List Nat) (i j : Nat) : Bool := match p.tie i with
  | some d => p.nws (ts.getD j 0) && ts.getD j 0 != d
  | none => false
def first (p : Plan) (i : Nat) : Bool := p.mu.all fun m => m == i || (p.b m).contains i
def late (p : Plan) (i : Nat) : Bool := p.mu.all fun m => m == i || (p.b i).contains m
def okB (p : Plan) (ops : List Oper) : Bool :=
  (List.range ops.length).all fun i => (p.b i).all fun j =>
    match ops[i]? with
    | some o => o.after.toList.any fun x => Region.binds .any x && decide (x.on < i) && (x.on == j || (p.b x.on).contains j)
    | none => false
def okAfter (ops : List Oper) : Bool :=
  (List.range ops.length).all fun i =>
    match ops[i]? with
    | some o => o.after.toList.all fun x => !Region.binds .any x || decide (x.on < i)
    | none => false
def d3x (p : Plan) (ops : List Oper) (i t : Nat) : Bool :=
  (List.range ops.length).all fun k => (ops[k]?.bind (·.dst)) != some t || k == i || (p.b i).contains k
def d1k (p : Plan) (ops : List Oper) (i t : Nat) : Bool :=
  (List.range ops.length).all fun k => (ops[k]?.bind (·.dst)) != some t || k == i || (p.b k).contains i
def okFacts (p : Plan) (ops : List Oper) (ts : List Nat) : Bool :=
  (ts.length == ops.length) && (List.range ops.length).all fun i => d3x p ops i (ts.getD i 0)
def okE (p : Plan) (ops : List Oper) : Bool :=
  (List.range ops.length).all fun i => (p.e i).all fun t => d1k p ops i t
def okU (p : Plan) (ops : List Oper) : Bool :=
  (List.range ops.length).all fun i => (p.u i).all fun j => (p.b i).contains j &&
    match p.dies j with
    | none => true
    | some c => c == i || (p.b c).contains i
def okMu (p : Plan) (ops : List Oper) (ts : List Nat) : Bool :=
  (List.range ops.length).all fun i => !p.mu.contains i || (List.range ops.length).all fun j => j == i || p.apart ts i j ||
    match p.dies j with
    | none => (!p.mu.contains j && !p.nws (ts.getD j 0)) || (p.b j).contains i
    | some c => c == i || (p.b i).contains c || (p.b j).contains i
def okTmps (ops : List Oper) (n : Nat) : Bool :=
  ops.all fun o => o.op.operands.toList.all (Operand.below n) && (match o.dst with | some d => decide (d < n) | none => true)
def okSel (ops : List Oper) : Bool := ops.all fun o => match o.op with | .select _ _ => false | _ => true
def okNw (p : Plan) (ops : List Oper) (ts : List Nat) : Bool :=
  (p.nw.all fun q => decide (q.1 < ops.length) && !p.mu.contains q.1 && (List.range ops.length).all fun k => ((ops[k]?.bind (·.dst)) == some q.2) == (k == q.1)) &&
  (p.tb.all fun q => p.mu.contains q.1 && p.nw.any fun r => r.2 == q.2 && (p.b q.1).contains r.1) &&
  ((List.range ops.length).all fun j => !p.nws (ts.getD j 0) || p.nw.any fun r => r.2 == ts.getD j 0 && (r.1 == j || (p.b j).contains r.1))
def ok (p : Plan) (ops : List Oper) (n : Nat) (ts : List Nat) : Bool :=
  p.okB ops && okAfter ops && p.okFacts ops ts && p.okE ops && p.okU ops && p.okMu ops ts && okTmps ops n && okSel ops && p.okNw ops ts
def gm (p : Plan) (G : Nat -> Prop) (i : Nat) (ρ : Nat -> Value) : Nat -> Prop :=
  if p.mu.contains i then (match p.tie i with | some d => fun b => hdV (ρ d) = some b | none => G) else noG
end Plan
def Ob (P : Program) (ops : List Oper) (G : Nat -> Prop) (ρ0 : Nat -> Value) (w0 : World) (F : List Fact) (p : Plan) (i : Nat) (o : Oper) : Prop :=
  ∀ ρ w, Ext G w0 w -> (p.first i = true -> Ext noG w0 w) -> d1y (fun t => ρ t = ρ0 t) (p.e i) -> d1y (fun j => a3b F j ρ w) (p.u i) ->
    let core := n9 P o (ev ρ) w fun v w' => Ext (if p.mu.contains i then G else noG) w w' /\ a3b F i (a5m ρ o.dst v) w'
    match p.isnw i with
    | true => o.guard = none /\ n9 P o (ev ρ) w fun v w' => (∀ b, hdV v = some b -> w.heap.size <= b /\ b < w'.heap.size) /\ Ext noG w w' /\ a3b F i (a5m ρ o.dst v) w'
    | false => match p.tie i with
      | some d => o.guard = none /\ n9 P o (ev ρ) w fun v w' => Ext (fun b => hdV (ρ d) = some b) w w' /\ a3b F i (a5m ρ o.dst v) w'
      | none => match o.guard with
        | none => core
        | some (g, want) => (yl ops ρ g = some want -> core) /\ (yl ops ρ g ≠ some want -> a3b F i (a5m ρ o.dst undef) w)
def Obs (P : Program) (ops : List Oper) (G : Nat -> Prop) (ρ0 : Nat -> Value) (w0 : World) (F : List Fact) (p : Plan) : Nat -> List Oper -> Prop
  | _, [] => True
  | i, o :: r => Ob P ops G ρ0 w0 F p i o /\ Obs P ops G ρ0 w0 F p (i + 1) r
theorem Obs.get {P : Program} {ops : List Oper} {G : Nat -> Prop} {ρ0 : Nat -> Value} {w0 : World} {F : List Fact} {p : Plan} : ∀ (l : List Oper) (k : Nat), Obs P ops G ρ0 w0 F p k l -> ∀ i o, l[i]? = some o -> Ob P ops G ρ0 w0 F p (k + i) o
  | [], _, _, i, o, h => by simp at h
  | x :: r, k, h, 0, o, ho => by
    simp at ho
    subst ho
    exact h.1
  | x :: r, k, h, i + 1, o, ho => by
    have := Obs.get r (k + 1) h.2 i o (by simpa using ho)
    rwa [Nat.add_right_comm, Nat.add_assoc] at this
def c28 (G : Nat -> Prop) (f : Fact) : Prop := ∀ v w w', Ext G w w' -> f.2 v w -> f.2 v w'
def b1s (f : Fact) : Prop := ∀ v w w' (G : Nat -> Prop), (∀ b, hdV v = some b -> ¬ G b) -> Ext G w w' -> f.2 v w -> f.2 v w'
def a7k (G : Nat -> Prop) (p : Plan) : Nat -> List Fact -> Prop
  | _, [] => True
  | i, f :: r => (match p.nws f.1 with | true => b1s f | false => c28 (if p.mu.contains i || (p.dies i).isSome || p.late i then noG else G) f) /\ a7k G p (i + 1) r
theorem a7k.get {G : Nat -> Prop} {p : Plan} : ∀ (l : List Fact) (k : Nat), a7k G p k l -> ∀ i f, l[i]? = some f -> (match p.nws f.1 with | true => b1s f | false => c28 (if p.mu.contains (k + i) || (p.dies (k + i)).isSome || p.late (k + i) then noG else G) f)
  | [], _, _, i, f, h => by simp at h
  | x :: r, k, h, 0, f, ho => by
    simp at ho
    subst ho
    exact h.1
  | x :: r, k, h, i + 1, f, ho => by
    have := a7k.get r (k + 1) h.2 i f (by simpa using ho)
    rwa [Nat.add_right_comm, Nat.add_assoc] at this
section
variable {P : Program} {ops : List Oper} {n : Nat} {G : Nat -> Prop} {ρ0 : Nat -> Value} {w0 : World} {F : List Fact} {p : Plan}
structure J (ops : List Oper) (G : Nat -> Prop) (ρ0 : Nat -> Value) (w0 : World) (F : List Fact) (p : Plan) (listed : Nat -> Prop) (ρ : Nat -> Value) (w : World) : Prop where
  ext : Ext G w0 w
  calm : (∀ m ∈ p.mu, ¬ listed m) -> Ext noG w0 w
  closed : ∀ i, listed i -> ∀ j ∈ p.b i, listed j
  bound : ∀ i, listed i -> i < ops.length
  facts : ∀ i, listed i -> (∀ c, p.dies i = some c -> ¬ listed c) -> a3b F i ρ w
  rest : ∀ t, (∀ k, (ops[k]?.bind (·.dst)) = some t -> ¬ listed k) -> ρ t = ρ0 t
  fresh : ∀ q ∈ p.nw, listed q.1 -> ∀ b, hdV (ρ q.2) = some b -> w0.heap.size <= b /\ b < w.heap.size
  dist : ∀ q ∈ p.nw, ∀ q' ∈ p.nw, q.2 ≠ q'.2 -> listed q.1 -> listed q'.1 -> ∀ b, hdV (ρ q.2) = some b -> hdV (ρ q'.2) ≠ some b
theorem a0u {m : Nat} {q : Nat -> Bool} (h : (List.range m).all q = true) {i : Nat} (hi : i < m) : q i = true :=
  List.all_eq_true.1 h i (List.mem_range.2 hi)
theorem J.step (hok : p.ok ops n (F.map (·.1)) = true) (hG : p.tb = [] \/ ∀ b, w0.heap.size <= b -> G b) (hst : a7k G p 0 F) {listed : Nat -> Prop} {ρ : Nat -> Value} {w : World} (hJ : J ops G ρ0 w0 F p listed ρ w)
    {i : Nat} {o : Oper} (ho : ops[i]? = some o) (hun : ¬ listed i) (hafter : ∀ x ∈ o.after, Region.binds .any x = true -> listed x.on)
    {v : Value} {w' : World} (he : Ext (p.gm G i ρ) w w') (hnew : p.isnw i = true -> ∀ b, hdV v = some b -> w.heap.size <= b /\ b < w'.heap.size) (hf : a3b F i (a5m ρ o.dst v) w') :
    J ops G ρ0 w0 F p (fun k => k = i \/ listed k) (a5m ρ o.dst v) w' := by
  have hi : i < ops.length := (List.getElem?_eq_some_iff.1 ho).1
  unfold Plan.ok at hok
  simp only [Bool.and_eq_true] at hok
  obtain ⟨⟨⟨⟨⟨⟨⟨⟨hB, hA⟩, hF⟩, hE⟩, hU⟩, hM⟩, hT⟩, hS⟩, hN⟩ := hok
  have hbi : ∀ j ∈ p.b i, listed j := by
    intro j hj
    have h1 := List.all_eq_true.1 (a0u hB hi) j hj
    simp only [ho] at h1
    obtain ⟨x, hx, h2⟩ := List.any_eq_true.1 h1
    simp only [Bool.and_eq_true, Bool.or_eq_true, beq_iff_eq, decide_eq_true_eq, List.contains_iff_mem] at h2
    have hl := hafter x (Array.mem_toList_iff.1 hx) h2.1.1
    rcases h2.2 with h3 | h3
    . rw [<- h3]; exact hl
    . exact hJ.closed _ hl j h3
  have hnotin : ∀ k, listed k -> i ∉ p.b k := fun k hk hh => hun (hJ.closed k hk i hh)
  have hwrite : ∀ t, o.dst ≠ some t -> a5m ρ o.dst v t = ρ t := by
    intro t ht
    cases hd : o.dst with
    | none => rfl
    | some d => simp only [a5m]; exact d7z _ _ (fun hh => ht (by rw [hd, hh]))
  have hkeep : ∀ j, listed j -> ∀ f, F[j]? = some f -> o.dst ≠ some f.1 := by
    intro j hj f hfj hd
    simp only [Plan.okFacts, Bool.and_eq_true] at hF
    have h1 := a0u hF.2 (hJ.bound j hj)
    have h2 : (F.map (·.1)).getD j 0 = f.1 := by simp [List.getD, hfj]
    rw [h2] at h1
    have h3 := a0u h1 hi
    simp only [ho, Option.bind_some, hd, bne_self_eq_false, Bool.false_or, Bool.or_eq_true, beq_iff_eq, List.contains_iff_mem] at h3
    rcases h3 with h3 | h3
    . exact hun (h3 ▸ hj)
    . exact hnotin j hj h3
  unfold Plan.okNw at hN
  simp only [Bool.and_eq_true] at hN
  obtain ⟨⟨hN1, hN2⟩, hN3⟩ := hN
  have hnw : ∀ q ∈ p.nw, q.1 < ops.length /\ p.mu.contains q.1 = false /\ ∀ k, k < ops.length -> ((ops[k]?.bind (·.dst)) = some q.2 ↔ k = q.1) := by
    intro q hq
    have h1 := List.all_eq_true.1 hN1 q hq
    simp only [Bool.and_eq_true, decide_eq_true_eq, Bool.not_eq_true'] at h1
    refine ⟨h1.1.1, h1.1.2, fun k hk => ?_⟩
    have h2 := a0u h1.2 hk
    constructor
    . intro h3
      simpa [h3] using h2
    . intro h3
      simpa [h3] using h2
  have htie : ∀ d, p.tie i = some d -> ∃ r ∈ p.nw, r.2 = d /\ listed r.1 := by
    intro d hd
    unfold Plan.tie at hd
    obtain ⟨q, hq, hqd⟩ := Option.map_eq_some_iff.1 hd
    have hqm := List.mem_of_find?_eq_some hq
    have hqi : q.1 = i := by simpa using List.find?_some hq
    have h1 := List.all_eq_true.1 hN2 q hqm
    simp only [Bool.and_eq_true] at h1
    obtain ⟨r, hr, h2⟩ := List.any_eq_true.1 h1.2
    simp only [Bool.and_eq_true, beq_iff_eq, List.contains_iff_mem] at h2
    exact ⟨r, hr, h2.1.trans hqd, hbi _ (hqi ▸ h2.2)⟩
  have heG : Ext G w w' := by
    unfold Plan.gm at he
    split at he
    . cases htt : p.tie i with
      | none => simpa [htt] using he
      | some d =>
        simp only [htt] at he
        obtain ⟨r, hr, hrd, hrl⟩ := htie d htt
        rcases hG with hG | hG
        . unfold Plan.tie at htt; rw [hG] at htt; simp at htt
        . refine he.mono (fun c hc => ?_)
          rw [<- hrd] at hc
          exact hG c (hJ.fresh r hr hrl c hc).1
    . exact he.of_no
  have hslot : ∀ q ∈ p.nw, q.1 ≠ i -> a5m ρ o.dst v q.2 = ρ q.2 := by
    intro q hq hne
    refine hwrite _ (fun hd => hne ?_)
    exact (((hnw q hq).2.2 i hi).1 (by rw [ho]; simpa using hd)).symm
  refine ⟨?_, ?_, ?_, ?_, ?_, ?_, ?_, ?_⟩
  . exact hJ.ext.trans heG
  . intro hno
    have hni : p.mu.contains i = false := by
      rw [Bool.eq_false_iff]
      intro hh
      exact hno i (List.contains_iff_mem.1 hh) (.inl rfl)
    unfold Plan.gm at he
    rw [hni] at he
    exact (hJ.calm (fun m hm hl => hno m hm (.inr hl))).trans (by simpa using he)
  . rintro k (rfl | hk) j hj
    . exact .inr (hbi j hj)
    . exact .inr (hJ.closed k hk j hj)
  . rintro k (rfl | hk)
    . exact hi
    . exact hJ.bound k hk
  . rintro k hk hc
    by_cases hki : k = i
    . subst hki; exact hf
    . have hkl : listed k := hk.resolve_left hki
      have h1 := hJ.facts k hkl (fun c hcc hl => hc c hcc (.inr hl))
      unfold a3b at h1 ⊢
      cases hfk : F[k]? with
      | none => trivial
      | some f =>
        simp only [hfk] at h1 ⊢
        rw [hwrite f.1 (hkeep k hkl f hfk)]
        have hs := a7k.get F 0 hst k f hfk
        rw [Nat.zero_add] at hs
        have hts : (F.map (·.1)).getD k 0 = f.1 := by simp [List.getD, hfk]
        by_cases hm : p.mu.contains i = true
        . have h2 := a0u hM hi
          simp only [hm, Bool.not_true, Bool.false_or] at h2
          have h3 := a0u h2 (hJ.bound k hkl)
          have hki' : (k == i) = false := by simpa using hki
          simp only [hki', Bool.false_or, Bool.or_eq_true] at h3
          rcases h3 with h3 | h3
          . -- the a3b of another variable
            unfold Plan.apart at h3
            cases htt : p.tie i with
            | none => simp [htt] at h3
            | some d =>
              simp only [htt, Bool.and_eq_true, bne_iff_ne, ne_eq, hts] at h3
              rw [h3.1] at hs
              refine hs _ _ _ _ ?_ he h1
              intro b hb hg
              unfold Plan.gm at hg
              rw [if_pos hm] at hg
              simp only [htt] at hg
              obtain ⟨r, hr, hrd, hrl⟩ := htie d htt
              have h5 := a0u hN3 (hJ.bound k hkl)
              rw [hts] at h5
              simp only [h3.1, Bool.not_true, Bool.false_or] at h5
              obtain ⟨r', hr', h6⟩ := List.any_eq_true.1 h5
              simp only [Bool.and_eq_true, beq_iff_eq, Bool.or_eq_true, List.contains_iff_mem] at h6
              have hr'l : listed r'.1 := by
                rcases h6.2 with h7 | h7
                . rw [h7]; exact hkl
                . exact hJ.closed k hkl _ h7
              exact hJ.dist r' hr' r hr (by rw [h6.1, hrd]; exact h3.2) hr'l hrl b (by rw [h6.1]; exact hb) (by rw [hrd]; exact hg)
          . have hlate : p.late k = false := by
              cases hl : p.late k with
              | false => rfl
              | true =>
                have h5 := List.all_eq_true.1 hl i (List.contains_iff_mem.1 hm)
                simp only [Bool.or_eq_true, beq_iff_eq, List.contains_iff_mem] at h5
                rcases h5 with h5 | h5
                . exact absurd h5.symm hki
                . exact absurd h5 (hnotin k hkl)
            cases hd : p.dies k with
            | none =>
              simp only [hd, Bool.or_eq_true, Bool.and_eq_true, Bool.not_eq_true', List.contains_iff_mem] at h3
              rw [hts] at h3
              rcases h3 with h3 | h3
              . rw [h3.2] at hs
                simp only [hd, h3.1, hlate, Option.isSome_none, Bool.or_false, Bool.false_eq_true, if_false] at hs
                exact hs _ _ _ heG h1
              . exact absurd h3 (hnotin k hkl)
            | some c =>
              simp only [hd, Bool.or_eq_true, beq_iff_eq, List.contains_iff_mem] at h3
              rcases h3 with (h3 | h3) | h3
              . exact absurd (.inl h3) (hc c hd)
              . exact absurd (.inr (hbi c h3)) (hc c hd)
              . exact absurd h3 (hnotin k hkl)
        . have hen : Ext noG w w' := by
            unfold Plan.gm at he
            rwa [if_neg hm] at he
          cases hns : p.nws f.1 with
          | true =>
            rw [hns] at hs
            exact hs _ _ _ noG (fun _ _ h => h) hen h1
          | false =>
            rw [hns] at hs
            refine hs _ _ _ ?_ h1
            split
            . exact hen
            . exact hen.of_no
  . intro t ht
    rw [hwrite t ?_]
    . exact hJ.rest t (fun k hk hl => ht k hk (.inr hl))
    . intro hd
      exact ht i (by rw [ho]; simpa using hd) (.inl rfl)
  . rintro q hq hl
    by_cases hqi : q.1 = i
    . have hd : o.dst = some q.2 := by
        have := ((hnw q hq).2.2 i hi).2 hqi.symm
        rw [ho] at this; simpa using this
      have hn := hnew (List.any_eq_true.2 ⟨q, hq, by simpa using hqi⟩)
      intro b hb
      rw [hd] at hb
      have hb' : hdV (upd ρ q.2 v q.2) = some b := hb
      rw [a3f] at hb'
      exact ⟨Nat.le_trans hJ.ext.size (hn b hb').1, (hn b hb').2⟩
    . intro b hb
      rw [hslot q hq hqi] at hb
      obtain ⟨h1, h2⟩ := hJ.fresh q hq (hl.resolve_left hqi) b hb
      exact ⟨h1, Nat.lt_of_lt_of_le h2 heG.size⟩
  . have key : ∀ q ∈ p.nw, ∀ q' ∈ p.nw, q.1 = i -> q'.1 ≠ i -> listed q'.1 -> ∀ b, hdV (a5m ρ o.dst v q.2) = some b -> hdV (a5m ρ o.dst v q'.2) ≠ some b := by
      intro q hq q' hq' h1 h2 hl b hb hb2
      have hd : o.dst = some q.2 := by
        have := ((hnw q hq).2.2 i hi).2 h1.symm
        rw [ho] at this; simpa using this
      have hn := hnew (List.any_eq_true.2 ⟨q, hq, by simpa using h1⟩)
      rw [hslot q' hq' h2] at hb2
      have hlt := (hJ.fresh q' hq' hl b hb2).2
      rw [hd] at hb
      have hb' : hdV (upd ρ q.2 v q.2) = some b := hb
      rw [a3f] at hb'
      have := (hn b hb').1
      omega
    rintro q hq q' hq' hne hl hl'
    by_cases h1 : q.1 = i
    . by_cases h2 : q'.1 = i
      . exfalso
        have e1 := ((hnw q hq).2.2 i hi).2 h1.symm
        have e2 := ((hnw q' hq').2.2 i hi).2 h2.symm
        rw [e1] at e2
        exact hne (Option.some.inj e2)
      . exact key q hq q' hq' h1 h2 (hl'.resolve_left h2)
    . by_cases h2 : q'.1 = i
      . exact fun b hb hb2 => key q' hq' q hq h2 h1 (hl.resolve_left h1) b hb2 hb
      . rw [hslot q hq h1, hslot q' hq' h2]
        exact hJ.dist q hq q' hq' hne (hl.resolve_left h1) (hl'.resolve_left h2)
theorem J.ob (hok : p.ok ops n (F.map (·.1)) = true) (hobs : Obs P ops G ρ0 w0 F p 0 ops) {listed : Nat -> Prop} {ρ : Nat -> Value} {w : World} (hJ : J ops G ρ0 w0 F p listed ρ w)
    {i : Nat} {o : Oper} (ho : ops[i]? = some o) (hun : ¬ listed i) (hafter : ∀ x ∈ o.after, Region.binds .any x = true -> listed x.on) :
    (Region.wanted o (yl ops ρ) = true -> n9 P o (ev ρ) w fun v w' => Ext (p.gm G i ρ) w w' /\ (p.isnw i = true -> ∀ b, hdV v = some b -> w.heap.size <= b /\ b < w'.heap.size) /\ a3b F i (a5m ρ o.dst v) w') /\
    (Region.wanted o (yl ops ρ) = false -> p.isnw i = false /\ a3b F i (a5m ρ o.dst undef) w) := by
  have hi : i < ops.length := (List.getElem?_eq_some_iff.1 ho).1
  have hok' := hok
  unfold Plan.ok at hok
  simp only [Bool.and_eq_true] at hok
  obtain ⟨⟨⟨⟨⟨⟨⟨⟨hB, hA⟩, hF⟩, hE⟩, hU⟩, hM⟩, hT⟩, hS⟩, hN⟩ := hok
  have hbi : ∀ j ∈ p.b i, listed j := by
    intro j hj
    have h1 := List.all_eq_true.1 (a0u hB hi) j hj
    simp only [ho] at h1
    obtain ⟨x, hx, h2⟩ := List.any_eq_true.1 h1
    simp only [Bool.and_eq_true, Bool.or_eq_true, beq_iff_eq, decide_eq_true_eq, List.contains_iff_mem] at h2
    have hl := hafter x (Array.mem_toList_iff.1 hx) h2.1.1
    rcases h2.2 with h3 | h3
    . rw [<- h3]; exact hl
    . exact hJ.closed _ hl j h3
  have hnotin : ∀ k, listed k -> i ∉ p.b k := fun k hk hh => hun (hJ.closed k hk i hh)
  have h := Obs.get ops 0 hobs i o ho
  rw [Nat.zero_add] at h
  have h := h ρ w hJ.ext ?_ ?_ ?_
  . have hmu : p.isnw i = true -> p.mu.contains i = false := by
      intro hh
      unfold Plan.okNw at hN
      simp only [Bool.and_eq_true] at hN
      obtain ⟨q, hq, hqi⟩ := List.any_eq_true.1 hh
      have h1 := List.all_eq_true.1 hN.1.1 q hq
      simp only [Bool.and_eq_true, Bool.not_eq_true'] at h1
      have : q.1 = i := by simpa using hqi
      rw [<- this]; exact h1.1.2
    have htm : ∀ d, p.tie i = some d -> p.mu.contains i = true := by
      intro d hd
      unfold Plan.okNw at hN
      simp only [Bool.and_eq_true] at hN
      unfold Plan.tie at hd
      obtain ⟨q, hq, _⟩ := Option.map_eq_some_iff.1 hd
      have h1 := List.all_eq_true.1 hN.1.2 q (List.mem_of_find?_eq_some hq)
      simp only [Bool.and_eq_true] at h1
      have : q.1 = i := by simpa using List.find?_some hq
      rw [<- this]; exact h1.1
    simp only [] at h
    cases hnw : p.isnw i with
    | true =>
      simp only [hnw] at h
      refine ⟨fun _ => h.2.mono (fun v w' hh => ⟨?_, fun _ => hh.1, hh.2.2⟩), fun hw => by simp [Region.wanted, h.1] at hw⟩
      unfold Plan.gm
      rw [hmu hnw]
      simpa using hh.2.1
    | false =>
      simp only [hnw] at h
      cases htt : p.tie i with
      | some d =>
        simp only [htt] at h
        refine ⟨fun _ => h.2.mono (fun v w' hh => ⟨?_, fun hx => by simp at hx, hh.2⟩), fun hw => by simp [Region.wanted, h.1] at hw⟩
        unfold Plan.gm
        rw [if_pos (htm d htt)]
        simp only [htt]
        exact hh.1
      | none =>
        simp only [htt] at h
        have hgm : p.gm G i ρ = (if p.mu.contains i then G else noG) := by
          unfold Plan.gm
          simp only [htt]
        rw [hgm]
        cases hg : o.guard with
        | none =>
          simp only [hg] at h
          exact ⟨fun _ => h.mono (fun v w' hh => ⟨hh.1, fun hx => by simp at hx, hh.2⟩), fun hw => by simp [Region.wanted, hg] at hw⟩
        | some gw =>
          obtain ⟨g, want⟩ := gw
          simp only [hg] at h
          refine ⟨fun hw => (h.1 (by simpa [Region.wanted, hg] using hw)).mono (fun v w' hh => ⟨hh.1, fun hx => by simp at hx, hh.2⟩), fun hw => ⟨rfl, h.2 (by simpa [Region.wanted, hg] using hw)⟩⟩
  . intro hf
    refine hJ.calm (fun m hm hl => ?_)
    have h1 := List.all_eq_true.1 hf m hm
    simp only [Bool.or_eq_true, beq_iff_eq, List.contains_iff_mem] at h1
    rcases h1 with h1 | h1
    . exact hun (h1 ▸ hl)
    . exact hnotin m hl h1
  . refine d1y.of (fun t ht => hJ.rest t (fun k hk hl => ?_))
    have h1 := List.all_eq_true.1 (a0u hE hi) t ht
    have h2 := a0u h1 (hJ.bound k hl)
    simp only [hk, bne_self_eq_false, Bool.false_or, Bool.or_eq_true, beq_iff_eq, List.contains_iff_mem] at h2
    rcases h2 with h2 | h2
    . exact hun (h2 ▸ hl)
    . exact hnotin k hl h2
  . refine d1y.of (fun j hj => ?_)
    have h1 := List.all_eq_true.1 (a0u hU hi) j hj
    simp only [Bool.and_eq_true, List.contains_iff_mem] at h1
    refine hJ.facts j (hbi j h1.1) (fun c hc hl => ?_)
    have h2 := h1.2
    simp only [hc, Bool.or_eq_true, beq_iff_eq, List.contains_iff_mem] at h2
    rcases h2 with h2 | h2
    . exact hun (h2 ▸ hl)
    . exact hnotin c hl h2
theorem b6x (hT : Plan.okTmps ops n = true) (ρ : Nat -> Value) (g : Nat) : yielded ops.toArray (Fr n ρ).tmps g = yl ops ρ g := by
  unfold yielded yl
  simp only [List.getElem?_toArray]
  cases ho : (ops[g]?).bind (·.dst) with
  | none => simp
  | some d =>
    simp only [Option.bind_some]
    have hd : d < n := by
      cases h2 : ops[g]? with
      | none => simp [h2] at ho
      | some o =>
        simp only [h2, Option.bind_some] at ho
        have h3 := List.all_eq_true.1 hT o (List.mem_of_getElem? h2)
        simp only [ho, Bool.and_eq_true, decide_eq_true_eq] at h3
        exact h3.2
    rw [d7h ρ hd]
    cases ρ d <;> rfl
theorem b8x (hT : Plan.okTmps ops n = true) (hS : Plan.okSel ops = true) {i : Nat} {o : Oper} (ho : ops[i]? = some o) (ρ : Nat -> Value) : execOp (Fr n ρ).eval o = execOp (ev ρ) o := by
  have hm := List.mem_of_getElem? ho
  refine execOp_congr o (fun cs b hh => ?_) (fun x hx => ?_)
  . have h1 := List.all_eq_true.1 hS o hm
    simp [hh] at h1
  . have h1 := List.all_eq_true.1 hT o hm
    simp only [Bool.and_eq_true] at h1
    exact c7c (List.all_eq_true.1 h1.1 x (Array.mem_toList_iff.2 hx))
theorem b8q (hok : p.ok ops n (F.map (·.1)) = true) (hobs : Obs P ops G ρ0 w0 F p 0 ops) {listed : Nat -> Prop} {ρ : Nat -> Value} {w : World} (hJ : J ops G ρ0 w0 F p listed ρ w)
    {i : Nat} {o : Oper} (ho : ops[i]? = some o) (hun : ¬ listed i) (hafter : ∀ x ∈ o.after, Region.binds .any x = true -> listed x.on)
    {Q : Exit -> Act -> World -> Prop} {K : Act -> World -> Prop}
    (hK : ∀ v w', Ext (p.gm G i ρ) w w' -> (p.isnw i = true -> ∀ b, hdV v = some b -> w.heap.size <= b /\ b < w'.heap.size) -> a3b F i (a5m ρ o.dst v) w' -> K (Fr n (a5m ρ o.dst v)) w') : wpOp P ops.toArray Q i K (Fr n ρ) w := by
  have hok' := hok
  unfold Plan.ok at hok'
  simp only [Bool.and_eq_true] at hok'
  obtain ⟨⟨⟨⟨_, _⟩, hT⟩, hS⟩, _⟩ := hok'
  have h := J.ob hok hobs hJ ho hun hafter
  unfold wpOp
  simp only [List.getElem?_toArray, ho]
  have hw : Region.wanted o (yielded ops.toArray (Fr n ρ).tmps) = Region.wanted o (yl ops ρ) := by
    congr 1
    funext g
    exact b6x hT ρ g
  rw [hw]
  split
  . rename_i hyes
    refine .inl (n9.wp (K := fun v w' => Ext (p.gm G i ρ) w w' /\ (p.isnw i = true -> ∀ b, hdV v = some b -> w.heap.size <= b /\ b < w'.heap.size) /\ a3b F i (a5m ρ o.dst v) w') ?_ ?_)
    . have h1 := h.1 hyes
      unfold n9 at h1 ⊢
      rwa [b8x hT hS ho ρ]
    . rintro v w' ⟨h1, h2, h3⟩
      rw [c2m]
      exact hK v w' h1 h2 h3
  . rename_i hno
    rw [c2m]
    have h2 := h.2 (by simpa using hno)
    exact hK undef w (Ext.refl _ _) (fun hh => by rw [h2.1] at hh; cases hh) h2.2
structure Done (ops : List Oper) (G : Nat -> Prop) (ρ0 : Nat -> Value) (w0 : World) (F : List Fact) (p : Plan) (ρ : Nat -> Value) (w : World) : Prop where
  ext : Ext G w0 w
  calm : p.mu = [] -> Ext noG w0 w
  facts : ∀ i, i < ops.length -> p.dies i = none -> a3b F i ρ w
  rest : ∀ t, (ops.all fun o => o.dst != some t) = true -> ρ t = ρ0 t
  dist : ∀ q ∈ p.nw, ∀ q' ∈ p.nw, q.2 ≠ q'.2 -> ∀ b, hdV (ρ q.2) = some b -> hdV (ρ q'.2) ≠ some b
theorem J.start {w : World} (hext : Ext noG w0 w) : J ops G ρ0 w0 F p (fun _ => False) ρ0 w :=
  ⟨hext.of_no, fun _ => hext, fun _ h => h.elim, fun _ h => h.elim, fun _ h => h.elim, fun _ _ => rfl, fun _ _ h => h.elim, fun _ _ _ _ _ h => h.elim⟩
theorem d22 (hok : p.ok ops n (F.map (·.1)) = true) : ∀ q ∈ p.nw, q.1 < ops.length := by
  intro q hq
  unfold Plan.ok Plan.okNw at hok
  simp only [Bool.and_eq_true] at hok
  have h1 := List.all_eq_true.1 hok.2.1.1 q hq
  simp only [Bool.and_eq_true, decide_eq_true_eq] at h1
  exact h1.1.1
theorem c4m (hok : p.ok ops n (F.map (·.1)) = true) (hG : p.tb = [] \/ ∀ b, w0.heap.size <= b -> G b) (hst : a7k G p 0 F) (hobs : Obs P ops G ρ0 w0 F p 0 ops) {Q : Exit -> Act -> World -> Prop}
    (hQ : ∀ ρ w, Done ops G ρ0 w0 F p ρ w -> Q .normal (Fr n ρ) w) :
    ∀ (fuel : Nat) (listed : Array Bool) (ρ : Nat -> Value) (w : World), listed.size = ops.length -> (∀ l : List Nat, l.Nodup -> (∀ i ∈ l, listed.getD i true = false) -> l.length <= fuel) ->
      J ops G ρ0 w0 F p (fun k => listed.getD k false = true) ρ w -> wpAny P .any ops.toArray Q fuel listed (Fr n ρ) w := by
  have hA : Plan.okAfter ops = true := by
    unfold Plan.ok at hok
    simp only [Bool.and_eq_true] at hok
    exact hok.1.1.1.1.1.1.1.2
  have hall : ∀ (listed : Array Bool), listed.size = ops.length -> Region.ready .any ops.toArray listed = [] -> ∀ i, i < ops.length -> listed.getD i false = true := by
    intro listed hsz hr i
    induction i using Nat.strongRecOn with
    | _ i ih =>
      intro hi
      cases hl : listed.getD i false with
      | true => rfl
      | false =>
        exfalso
        have hi' : i < listed.size := by omega
        have hm : i ∈ Region.ready .any ops.toArray listed := by
          rw [mem_ready]
          refine ⟨by simp [hi'] at hl ⊢; exact hl, ops[i], by simp [hi], fun x hx hb => ?_⟩
          have h1 := a0u hA hi
          rw [List.getElem?_eq_getElem hi] at h1
          have h2 := List.all_eq_true.1 h1 x (Array.mem_toList_iff.2 hx)
          simp only [hb, Bool.not_true, Bool.false_or, decide_eq_true_eq] at h2
          exact ih x.on h2 (by omega)
        rw [hr] at hm
        cases hm
  have hend : ∀ (listed : Array Bool) (ρ : Nat -> Value) (w : World), listed.size = ops.length -> Region.ready .any ops.toArray listed = [] ->
      J ops G ρ0 w0 F p (fun k => listed.getD k false = true) ρ w -> Q .normal (Fr n ρ) w := by
    intro listed ρ w hsz hr hJ
    refine hQ ρ w ⟨hJ.ext, fun hm => hJ.calm (fun m h => by rw [hm] at h; cases h), fun i hi hd => hJ.facts i (hall listed hsz hr i hi) (fun c hc => by rw [hd] at hc; cases hc), fun t ht => hJ.rest t (fun k hk hl => ?_), fun q hq q' hq' hne => hJ.dist q hq q' hq' hne (hall listed hsz hr _ (d22 hok q hq)) (hall listed hsz hr _ (d22 hok q' hq'))⟩
    cases h2 : ops[k]? with
    | none => simp [h2] at hk
    | some o =>
      have h1 := List.all_eq_true.1 ht o (List.mem_of_getElem? h2)
      simp [h2] at hk
      simp [hk] at h1
  intro fuel
  induction fuel with
  | zero =>
    intro listed ρ w hsz hlen hJ
    have hr : Region.ready .any ops.toArray listed = [] := by
      cases hr : Region.ready .any ops.toArray listed with
      | nil => rfl
      | cons x xs =>
        have hx : x ∈ Region.ready .any ops.toArray listed := by rw [hr]; simp
        have := hlen [x] (by simp) (by simpa using (mem_ready.1 hx).1)
        simp at this
    exact ⟨hr, hend listed ρ w hsz hr hJ⟩
  | succ fuel ih =>
    intro listed ρ w hsz hlen hJ
    refine ⟨fun hr => hend listed ρ w hsz hr hJ, fun i hi => ?_⟩
    obtain ⟨hun, o, ho, haft⟩ := mem_ready.1 hi
    have ho' : ops[i]? = some o := by simpa using ho
    have hil : i < listed.size := by rw [hsz]; exact (List.getElem?_eq_some_iff.1 ho').1
    have hunl : ¬ listed.getD i false = true := by simp [hil] at hun ⊢; exact hun
    refine b8q hok hobs hJ ho' hunl haft (fun v w' he hn hf => ?_)
    have hJ' := J.step hok hG hst hJ ho' hunl haft he hn hf
    have heq : ∀ k, (listed.setIfInBounds i true).getD k false = true ↔ (k = i \/ listed.getD k false = true) := by
      intro k
      by_cases hk : k = i
      . subst hk; simp [hil]
      . rw [getD_set_ne false (Ne.symm hk)]; simp [hk]
    refine ih _ _ _ (by simpa using hsz) (fun l hnd hl => ?_) ?_
    . have h1 := hlen (i :: l) (by
        refine List.nodup_cons.2 ⟨fun hm => ?_, hnd⟩
        have := hl i hm
        simp [hil] at this) (by
        intro j hj
        cases hj with
        | head => exact hun
        | tail _ hj =>
          have h2 := hl j hj
          by_cases hji : j = i
          . subst hji; exact hun
          . rwa [getD_set_ne true (Ne.symm hji)] at h2)
      simpa using h1
    . have hfun : (fun k => (listed.setIfInBounds i true).getD k false = true) = (fun k => k = i \/ listed.getD k false = true) := funext fun k => propext (heq k)
      rw [hfun]
      exact hJ'
theorem c4a (hok : p.ok ops n (F.map (·.1)) = true) (hG : p.tb = [] \/ ∀ b, w0.heap.size <= b -> G b) (hst : a7k G p 0 F) (hobs : Obs P ops G ρ0 w0 F p 0 ops) {Q : Exit -> Act -> World -> Prop}
    (hQ : ∀ ρ w, Done ops G ρ0 w0 F p ρ w -> Q .normal (Fr n ρ) w) :
    ∀ (m k : Nat) (ρ : Nat -> Value) (w : World), k + m = ops.length -> J ops G ρ0 w0 F p (fun j => j < k) ρ w -> wpOps P ops.toArray Q (List.range' k m) (Fr n ρ) w := by
  have hA : Plan.okAfter ops = true := by
    unfold Plan.ok at hok
    simp only [Bool.and_eq_true] at hok
    exact hok.1.1.1.1.1.1.1.2
  intro m
  induction m with
  | zero =>
    intro k ρ w hk hJ
    refine hQ ρ w ⟨hJ.ext, fun hm => hJ.calm (fun m h => by rw [hm] at h; cases h), fun i hi hd => hJ.facts i (by omega) (fun c hc => by rw [hd] at hc; cases hc), fun t ht => hJ.rest t (fun j hj hl => ?_), fun q hq q' hq' hne => hJ.dist q hq q' hq' hne (by have := d22 hok q hq; omega) (by have := d22 hok q' hq'; omega)⟩
    cases h2 : ops[j]? with
    | none => simp [h2] at hj
    | some o =>
      have h1 := List.all_eq_true.1 ht o (List.mem_of_getElem? h2)
      simp [h2] at hj
      simp [hj] at h1
  | succ m ih =>
    intro k ρ w hk hJ
    have hklt : k < ops.length := by omega
    have ho : ops[k]? = some ops[k] := List.getElem?_eq_getElem hklt
    rw [List.range'_succ, wpOps_cons]
    have haft : ∀ x ∈ ops[k].after, Region.binds .any x = true -> x.on < k := by
      intro x hx hb
      have h1 := a0u hA hklt
      rw [ho] at h1
      have h2 := List.all_eq_true.1 h1 x (Array.mem_toList_iff.2 hx)
      simpa [hb] using h2
    refine b8q hok hobs hJ ho (Nat.lt_irrefl k) haft (fun v w' he hn hf => ?_)
    have hJ' := J.step hok hG hst hJ ho (Nat.lt_irrefl k) haft he hn hf
    refine ih (k + 1) _ _ (by omega) ?_
    have hfun : (fun j => j < k + 1) = (fun j => j = k \/ j < k) := funext fun j => propext (by omega)
    rw [hfun]
    exact hJ'
def WP (P : Program) (n : Nat) (c : Code) (Q : Exit -> (Nat -> Value) -> World -> Prop) (ρ : Nat -> Value) (w : World) : Prop :=
  c.wp P (fun e a w => ∃ ρ', a = Fr n ρ' /\ Q e ρ' w) (Fr n ρ) w
end
section
variable {P : Program} {n : Nat} {Q : Exit -> (Nat -> Value) -> World -> Prop} {ρ : Nat -> Value} {w : World}
theorem a6s : ∀ (n : Nat) (l : List Nat), l.Nodup -> (∀ i ∈ l, i < n) -> l.length <= n
  | 0, l, _, h => by
    cases l with
    | nil => simp
    | cons x r => exact absurd (h x (by simp)) (Nat.not_lt_zero _)
  | n + 1, l, hnd, h => by
    by_cases hm : n ∈ l
    . have h1 := a6s n (l.erase n) (hnd.erase n) (fun i hi => by
        have h2 := h i (List.mem_of_mem_erase hi)
        have h3 : i ≠ n := fun e => (List.Nodup.not_mem_erase hnd) (e ▸ hi)
        omega)
      rw [List.length_erase_of_mem hm] at h1
      omega
    . have h1 := a6s n l hnd (fun i hi => by
        have h2 := h i hi
        have h3 : i ≠ n := fun e => hm (e ▸ hi)
        omega)
      omega
theorem WP.regionN {id : Nat} {ops : List Oper} {draw : Bool} (hm : P.follows .mixedOrders = true) (p : Plan) (F : List Fact) (G : Nat -> Prop)
    (hok : p.ok ops n (F.map (·.1)) = true) (hG : p.tb = [] \/ ∀ b, w.heap.size <= b -> G b) (hst : a7k G p 0 F)
    (hobs : Obs P ops G ρ w F p 0 ops) (hQ : ∀ ρ' w', Ext G w w' -> (p.mu = [] -> Ext noG w w') -> (∀ i, (decide (i < ops.length) && (p.dies i).isNone) = true -> a3b F i ρ' w') ->
      (∀ t, (ops.all fun o => o.dst != some t) = true -> ρ' t = ρ t) -> (∀ q ∈ p.nw, ∀ q' ∈ p.nw, q.2 ≠ q'.2 -> ∀ b, hdV (ρ' q.2) = some b -> hdV (ρ' q'.2) ≠ some b) -> Q .normal ρ' w') : WP P n (.region id ops.toArray draw) Q ρ w := by
  cases draw with
  | false =>
    refine wp_region ?_
    have h := c4a (Q := fun e a w => ∃ ρ', a = Fr n ρ' /\ Q e ρ' w) hok hG hst hobs
      (fun ρ' w' hd => ⟨ρ', rfl, hQ ρ' w' hd.ext hd.calm (fun i hi => by
        simp only [Bool.and_eq_true, decide_eq_true_eq, Option.isNone_iff_eq_none] at hi
        exact hd.facts i hi.1 hi.2) hd.rest hd.dist⟩) ops.length 0 ρ w (by simp) (by
        have := J.start (ops := ops) (G := G) (ρ0 := ρ) (w0 := w) (F := F) (p := p) (Ext.refl _ _)
        have hfun : (fun j => j < 0) = (fun _ : Nat => False) := funext fun j => propext ⟨fun h => absurd h (Nat.not_lt_zero _), False.elim⟩
        rw [hfun]; exact this)
    rw [List.range_eq_range']
    simpa using h
  | true =>
    refine wp_region_any hm ?_
    have h := c4m (Q := fun e a w => ∃ ρ', a = Fr n ρ' /\ Q e ρ' w) hok hG hst hobs
      (fun ρ' w' hd => ⟨ρ', rfl, hQ ρ' w' hd.ext hd.calm (fun i hi => by
        simp only [Bool.and_eq_true, decide_eq_true_eq, Option.isNone_iff_eq_none] at hi
        exact hd.facts i hi.1 hi.2) hd.rest hd.dist⟩)
      ops.length (Array.replicate ops.length false) ρ w.drew (by simp) (fun l hnd hl => by
        have hlt : ∀ i ∈ l, i < ops.length := by
          intro i hi
          have h1 := hl i hi
          rcases Nat.lt_or_ge i ops.length with h2 | h2
          . exact h2
          . simp [h2] at h1
        exact a6s _ l hnd hlt) (by
        have := J.start (ops := ops) (G := G) (ρ0 := ρ) (w0 := w) (F := F) (p := p) (Ext.refl noG w).drew
        have hfun : (fun k => (Array.replicate ops.length false).getD k false = true) = (fun _ : Nat => False) := funext fun j => propext (by
          rcases Nat.lt_or_ge j ops.length with h2 | h2
          . simp [h2]
          . simp [h2])
        rw [hfun]; exact this)
    rw [show ops.toArray.size = ops.length from List.size_toArray]
    exact h
def b9e (K : (Nat -> Value) -> World -> Prop) (Q : Exit -> (Nat -> Value) -> World -> Prop) : Exit -> (Nat -> Value) -> World -> Prop
  | .normal, ρ, w => K ρ w
  | e, ρ, w => Q e ρ w
def b8u (id : Nat) (Q : Exit -> (Nat -> Value) -> World -> Prop) : Exit -> (Nat -> Value) -> World -> Prop
  | .exit id', ρ, w => if id' = id then Q .normal ρ w else Q (.exit id') ρ w
  | e, ρ, w => Q e ρ w
theorem WP.mono {c : Code} {Q' : Exit -> (Nat -> Value) -> World -> Prop} (h : WP P n c Q ρ w) (hq : ∀ e ρ w, Q e ρ w -> Q' e ρ w) : WP P n c Q' ρ w :=
  wp_mono h fun _ _ _ ⟨ρ', ha, hh⟩ => ⟨ρ', ha, hq _ _ _ hh⟩
theorem WP.skip (h : Q .normal ρ w) : WP P n .skip Q ρ w := wp_skip ⟨ρ, rfl, h⟩
theorem WP.exit {id : Nat} (h : Q (.exit id) ρ w) : WP P n (.exit id) Q ρ w := wp_exit ⟨ρ, rfl, h⟩
theorem WP.ret (h : Q .ret ρ w) : WP P n .ret Q ρ w := wp_ret ⟨ρ, rfl, h⟩
theorem WP.seq {x y : Code} (h : WP P n x (b9e (WP P n y Q) Q) ρ w) : WP P n (.seq x y) Q ρ w := by
  refine wp_seq (wp_mono h ?_)
  rintro e a w' ⟨ρ', rfl, hh⟩
  cases e <;> first | exact hh | exact ⟨ρ', rfl, hh⟩
theorem WP.cond {c : Operand} {x y : Code} {t : Bool} (hb : Operand.below n c = true) (hc : ev ρ c = .bool t) (ht : t = true -> WP P n x Q ρ w) (hf : t = false -> WP P n y Q ρ w) : WP P n (.cond c x y) Q ρ w :=
  wp_cond_split (t := t) (by rw [c7c hb, hc]) ht hf
theorem WP.block {id : Nat} {c : Code} (h : WP P n c (b8u id Q) ρ w) : WP P n (.block id c) Q ρ w := by
  refine wp_block (wp_mono h ?_)
  rintro e a w' ⟨ρ', rfl, hh⟩
  cases e <;> first
    | exact ⟨ρ', rfl, hh⟩
    | (rename_i id'
       simp only [b8u, Exit.inBlock] at hh ⊢
       by_cases hid : id' = id
       . simp only [hid, if_true] at hh ⊢; exact ⟨ρ', rfl, hh⟩
       . simp only [hid, if_false] at hh ⊢; exact ⟨ρ', rfl, hh⟩)
theorem WP.loop {c : Code} (I : Nat -> (Nat -> Value) -> World -> Prop) (k : Nat) (h0 : I k ρ w) (hz : ∀ ρ w, ¬ I 0 ρ w)
    (step : ∀ k ρ w, I (k + 1) ρ w -> WP P n c (b9e (I k) Q) ρ w) : WP P n (.loop c) Q ρ w := by
  have key : ∀ k ρ w, I k ρ w -> Code.rounds P c (fun e a w => ∃ ρ', a = Fr n ρ' /\ Q e ρ' w) k (Fr n ρ) w := by
    intro k
    induction k with
    | zero => intro ρ w h; exact (hz ρ w h).elim
    | succ k ih =>
      intro ρ w h
      rw [rounds_succ]
      refine wp_mono (step k ρ w h) ?_
      rintro e a w' ⟨ρ', rfl, hh⟩
      cases e <;> first | exact ih _ _ hh | exact ⟨ρ', rfl, hh⟩
  exact wp_loop_rounds k (key k ρ w h0)
def d2d (P : Program) (n : Nat) (fn : Func) (R : Value -> World -> Prop) : Exit -> (Nat -> Value) -> World -> Prop
  | .normal, ρ, w | .ret, ρ, w => ∃ v, (results fn (Fr n ρ).tmps).run P w = .ok v w /\ R v w
  | _, _, _ => False
theorem Calls.of_WP {f : FuncId} {fn : Func} {c : Code} {args : List Value} {R : Value -> World -> Prop}
    (hf : P.funcs[f]? = some fn) (hb : fn.body = some c) (hn : fn.ntmps = n) (hargs : args.length <= n)
    (h : WP P n c (d2d P n fn R) (fun t => args.getD t undef) w) : Calls P f args.toArray w fun e w' => ∃ v, e = .returned v /\ R v w' := by
  refine calls_of_wp hf hb ?_
  have ha : ({ tmps := args.toArray ++ Array.replicate (fn.ntmps - args.toArray.size) undef, defers := [] } : Act) = Fr n (fun t => args.getD t undef) := by
    unfold Fr
    congr 1
    apply Array.ext
    . simp [hn]; omega
    . intro i h1 h2
      rcases Nat.lt_or_ge i args.length with h3 | h3
      . simp [h3]
      . simp [h3, Nat.not_lt.2 h3]
  rw [ha]
  refine wp_mono h ?_
  rintro e a w' ⟨ρ', rfl, hh⟩
  cases e <;> simp only [d2d] at hh <;> first
    | exact hh.elim
    | (obtain ⟨v, h1, h2⟩ := hh
       exact ⟨rfl, v, h1, v, rfl, h2⟩)
end
def ObO (P : Program) (ops : List Oper) (G : Nat -> Prop) (ρ0 : Nat -> Value) (w0 : World) (F : List Fact) (p : Plan) (i : Nat) (o : Oper) : Prop :=
  ∀ ρ w, Ext G w0 w -> (p.first i = true -> Ext noG w0 w) -> d1y (fun t => ρ t = ρ0 t) (p.e i) -> d1y (fun j => a3b F j ρ w) (p.u i) ->
    let core := n9 P o (ev ρ) w fun v w' => Ext (if p.mu.contains i then G else noG) w w' /\ a3b F i (a5m ρ o.dst v) w'
    match o.guard with
    | none => core
    | some (g, want) => (yl ops ρ g = some want -> core) /\ (yl ops ρ g ≠ some want -> a3b F i (a5m ρ o.dst undef) w)
def d2a (P : Program) (ops : List Oper) (G : Nat -> Prop) (ρ0 : Nat -> Value) (w0 : World) (F : List Fact) (p : Plan) : Nat -> List Oper -> Prop
  | _, [] => True
  | i, o :: r => ObO P ops G ρ0 w0 F p i o /\ d2a P ops G ρ0 w0 F p (i + 1) r
def a8i (G : Nat -> Prop) (p : Plan) : Nat -> List Fact -> Prop
  | _, [] => True
  | i, f :: r => (c28 (if p.mu.contains i || (p.dies i).isSome || p.late i then noG else G) f) /\ a8i G p (i + 1) r
def Plan.plain (B U E : List (List Nat)) (mu : List Nat) (con : List (Nat × Nat)) : Plan := ⟨B, U, E, mu, con, [], []⟩
section
variable {P : Program} {ops : List Oper} {n : Nat} {G : Nat -> Prop} {ρ0 : Nat -> Value} {w0 : World} {F : List Fact} {B U E : List (List Nat)} {mu : List Nat} {con : List (Nat × Nat)}
theorem d2a.obs : ∀ (l : List Oper) (k : Nat), d2a P ops G ρ0 w0 F (.plain B U E mu con) k l -> Obs P ops G ρ0 w0 F (.plain B U E mu con) k l
  | [], _, _ => trivial
  | _ :: r, k, h => ⟨h.1, d2a.obs r (k + 1) h.2⟩
theorem a8i.stables : ∀ (l : List Fact) (k : Nat), a8i G (.plain B U E mu con) k l -> a7k G (.plain B U E mu con) k l
  | [], _, _ => trivial
  | _ :: r, k, h => ⟨h.1, a8i.stables r (k + 1) h.2⟩
theorem WP.region {Q : Exit -> (Nat -> Value) -> World -> Prop} {ρ : Nat -> Value} {w : World} {id : Nat} {draw : Bool} (hm : P.follows .mixedOrders = true) (B U E : List (List Nat)) (mu : List Nat) (con : List (Nat × Nat)) (F : List Fact) (G : Nat -> Prop)
    (hok : (Plan.plain B U E mu con).ok ops n (F.map (·.1)) = true) (hst : a8i G (.plain B U E mu con) 0 F)
    (hobs : d2a P ops G ρ w F (.plain B U E mu con) 0 ops) (hQ : ∀ ρ' w', Ext G w w' -> (mu = [] -> Ext noG w w') -> (∀ i, (decide (i < ops.length) && ((Plan.plain B U E mu con).dies i).isNone) = true -> a3b F i ρ' w') ->
      (∀ t, (ops.all fun o => o.dst != some t) = true -> ρ' t = ρ t) -> Q .normal ρ' w') : WP P n (.region id ops.toArray draw) Q ρ w :=
  WP.regionN hm (.plain B U E mu con) F G hok (.inl rfl) hst.stables hobs.obs (fun ρ' w' h1 h2 h3 h4 _ => hQ ρ' w' h1 h2 h3 h4)
end
end Go.PL
namespace Go.PL
open Go
abbrev YV (P : Program) (η : Operand -> Value) (w : World) (o : Oper) (v : Value) : Prop := (execOp η o).run P w = .ok (.value v) w
section
variable {P : Program} {η : Operand -> Value} {w : World} {d : Option Tmp} {ty : TypeId} {ps : String} {af : Array Edge} {g : Option (Nat × Bool)} {x y z : Operand} {v u : Value}
def i64 (n : Int) : Int := IntKind.i64.wrap n
def u64 (n : Int) : Int := IntKind.u64.wrap n
theorem b72 (h : η x = v) : YV P η w ⟨d, .move x, ty, ps, af, g⟩ v := by subst h; rfl
theorem b3d (h : η x = v) : YV P η w ⟨d, .assign x, ty, ps, af, g⟩ v := by subst h; rfl
theorem c3v {a : Value} (hc : η x = .bool true) (h : η y = a) : YV P η w ⟨d, .pick x y z, ty, ps, af, g⟩ a := by
  subst h; simp [YV, execOp, hc, asBool]
theorem c3q {a : Value} (hc : η x = .bool false) (h : η z = a) : YV P η w ⟨d, .pick x y z, ty, ps, af, g⟩ a := by
  subst h; simp [YV, execOp, hc, asBool]
section
variable {t t' : TypeId} {k : IntKind} {a b c : Int} {q : Bool}
theorem d5b (hx : η x = .int k a) (hy : η y = .int k b) (h : k.wrap (a + b) = c) : YV P η w ⟨d, .binOp .add t x y t', ty, ps, af, g⟩ (.int k c) := by
  subst h; simp [YV, execOp, hx, hy, eqGuard, binOp, Op.intArith]
theorem d0x (hx : η x = .int k a) (hy : η y = .int k b) (h : k.wrap (a - b) = c) : YV P η w ⟨d, .binOp .sub t x y t', ty, ps, af, g⟩ (.int k c) := by
  subst h; simp [YV, execOp, hx, hy, eqGuard, binOp, Op.intArith]
theorem d9w (hx : η x = .int k a) (hy : η y = .int k b) (h : k.wrap (a * b) = c) : YV P η w ⟨d, .binOp .mul t x y t', ty, ps, af, g⟩ (.int k c) := by
  subst h; simp [YV, execOp, hx, hy, eqGuard, binOp, Op.intArith]
theorem d8q (hx : η x = .int k a) (hy : η y = .int k b) (h0 : b ≠ 0) (h : k.wrap (a.tdiv b) = c) : YV P η w ⟨d, .binOp .quo t x y t', ty, ps, af, g⟩ (.int k c) := by
  subst h; simp [YV, execOp, hx, hy, eqGuard, binOp, Op.intDiv, h0]
theorem d8p (hx : η x = .int k a) (hy : η y = .int k b) (h0 : b ≠ 0) (h : a.tmod b = c) : YV P η w ⟨d, .binOp .rem t x y t', ty, ps, af, g⟩ (.int k c) := by
  subst h; simp [YV, execOp, hx, hy, eqGuard, binOp, Op.intDiv, h0]
theorem c6x (hx : η x = .int k a) (hy : η y = .int k b) (h : decide (a < b) = q) : YV P η w ⟨d, .binOp .lss t x y t', ty, ps, af, g⟩ (.bool q) := by
  subst h; simp [YV, execOp, hx, hy, eqGuard, binOp, Op.intCmp]
theorem d7a (hx : η x = .int k a) (hy : η y = .int k b) (h : decide (a <= b) = q) : YV P η w ⟨d, .binOp .leq t x y t', ty, ps, af, g⟩ (.bool q) := by
  subst h; simp [YV, execOp, hx, hy, eqGuard, binOp, Op.intCmp]
theorem d89 (hx : η x = .int k a) (hy : η y = .int k b) (h : decide (b < a) = q) : YV P η w ⟨d, .binOp .gtr t x y t', ty, ps, af, g⟩ (.bool q) := by
  subst h; simp [YV, execOp, hx, hy, eqGuard, binOp, Op.intCmp]
theorem d8z (hx : η x = .int k a) (hy : η y = .int k b) (h : decide (b <= a) = q) : YV P η w ⟨d, .binOp .geq t x y t', ty, ps, af, g⟩ (.bool q) := by
  subst h; simp [YV, execOp, hx, hy, eqGuard, binOp, Op.intCmp]
theorem d8t (hx : η x = .int k a) (hy : η y = .int k b) (h : (a == b) = q) : YV P η w ⟨d, .binOp .eql t x y t', ty, ps, af, g⟩ (.bool q) := by
  subst h; simp [YV, execOp, hx, hy, eqGuard, binOp, Op.intCmp]
theorem d9m (hx : η x = .int k a) (hy : η y = .int k b) (h : (a != b) = q) : YV P η w ⟨d, .binOp .neq t x y t', ty, ps, af, g⟩ (.bool q) := by
  subst h; simp [YV, execOp, hx, hy, eqGuard, binOp, Op.intCmp]
theorem d9j {p : Bool} (hx : η x = .bool p) (h : (!p) = q) : YV P η w ⟨d, .unOp .not t x, ty, ps, af, g⟩ (.bool q) := by
  subst h; simp [YV, execOp, hx, Op.unary]
theorem d92 (hx : η x = .int k a) (h : k.wrap (-a) = c) : YV P η w ⟨d, .unOp .neg t x, ty, ps, af, g⟩ (.int k c) := by
  subst h; simp [YV, execOp, hx, Op.unary, Op.intArith]
end
theorem d2n {s t : TypeId} (hx : η x = v) (h : (convert s t v).run P w = .ok u w) : YV P η w ⟨d, .convert s t x, ty, ps, af, g⟩ u := by
  simp [YV, execOp, hx, h]
theorem q8 {s : TypeId} {f : Nat} (hx : η x = v) (h : (Instr.fieldAt s v f).run P w = .ok u w) : YV P η w ⟨d, .fieldAddr s x f, ty, ps, af, g⟩ u := by
  simp [YV, execOp, hx, h]
theorem c91 {s : TypeId} {f : Nat} (hx : η x = v) (h : (Instr.field s v f).run P w = .ok u w) : YV P η w ⟨d, .field s x f, ty, ps, af, g⟩ u := by
  simp [YV, execOp, hx, h]
theorem a0k {s : TypeId} {vi : Value} (hx : η x = v) (hy : η y = vi) (h : (Instr.indexAt s v vi).run P w = .ok u w) : YV P η w ⟨d, .indexAddr s x y, ty, ps, af, g⟩ u := by
  simp [YV, execOp, hx, hy, h]
theorem a3e {s : TypeId} (hx : η x = v) (h : (Instr.loadAt s v).run P w = .ok u w) : YV P η w ⟨d, .load s x, ty, ps, af, g⟩ u := by
  simp [YV, execOp, hx, h]
theorem c70 {i : Nat} (hx : η x = v) (h : (Instr.extract v i).run P w = .ok u w) : YV P η w ⟨d, .extract x i, ty, ps, af, g⟩ u := by
  simp [YV, execOp, hx, h]
theorem c1w {t : TypeId} {parts : Array (Nat × Operand)} {vs : Array (Nat × Value)} (hp : (parts.map fun (i, x) => (i, η x)) = vs) (h : (Instr.build t vs).run P w = .ok u w) : YV P η w ⟨d, .build t parts, ty, ps, af, g⟩ u := by
  subst hp
  simp only [YV, execOp, Sem.run_bind, h, Result.andThen_ok, Sem.run_pure]
theorem c95 {t : TypeId} (hx : η x = v) (h : (Builtin.len_ #[t] ty #[v]).run P w = .ok u w) : YV P η w ⟨d, .call ⟨.builtin .len, #[x], #[t]⟩, ty, ps, af, g⟩ u := by
  simp [YV, execOp, resolve, invoke, builtin, hx, h]
theorem c7 {G : Nat -> Prop} {ρ : Nat -> Value} {F : List Fact} {p : Plan} {i : Nat} {o : Oper} {dd : Tmp} (hd : o.dst = some dd) (hF : F[i]? = some (val dd v)) (h : YV P (ev ρ) w o v) :
    n9 P o (ev ρ) w fun v w' => Ext (if p.mu.contains i then G else noG) w w' /\ a3b F i (a5m ρ o.dst v) w' := by
  unfold n9
  rw [h]
  refine ⟨Ext.refl _ _, ?_⟩
  unfold a3b
  rw [hF, hd]
  exact a3f _ _ _
end
end Go.PL
namespace Go.PL
open Go
def CA (w : World) (a : Addr) (cs : List Value) : Prop := ∀ j v, cs[j]? = some v -> w.cell? (a.add j) = some v
theorem CA.sub {w : World} {a : Addr} {cs : List Value} (h : CA w a cs) (k m : Nat) : CA w (a.add k) ((cs.drop k).take m) := by
  intro j v hj
  rw [Deep.add_add]
  refine h (k + j) v ?_
  rw [List.getElem?_take] at hj
  split at hj
  . rw [List.getElem?_drop] at hj; exact hj
  . cases hj
theorem CA.one {w : World} {a : Addr} {v : Value} (h : CA w a [v]) : w.cell? a = some v := h 0 v rfl
theorem a1x (a : Addr) (k : Nat) : (a.add k).block = a.block := by unfold Addr.add; split <;> rfl
theorem CA.of_block {w w' : World} {a : Addr} {cs : List Value} (h : CA w a cs) (hb : w'.heap[a.block]? = w.heap[a.block]?) : CA w' a cs := by
  intro j v hj
  rw [World.cell?_of_block (w := w) (by rw [a1x]; exact hb)]
  exact h j v hj
theorem a09 {P : Program} {w : World} {t : TypeId} {a : Addr} {v : Value} (ht : (Instr.loadAt t (.pointer (some a))).run P w = (load a).run P w) (h : CA w a [v]) :
    (Instr.loadAt t (.pointer (some a))).run P w = .ok v w := by
  rw [ht]; simp [h.one]
theorem a4y {P : Program} {w : World} {a : Addr} : ∀ (n i : Nat) (acc : Array Value) (cs : List Value), cs.length = n -> (∀ j v, cs[j]? = some v -> w.cell? (a.add (i + j)) = some v) ->
    (loadCellsFrom a i n acc).run P w = .ok (acc ++ cs.toArray) w
  | 0, i, acc, cs, hn, _ => by
    have : cs = [] := List.length_eq_zero_iff.1 hn
    subst this
    simp [loadCellsFrom]
  | n + 1, i, acc, [], hn, _ => by simp at hn
  | n + 1, i, acc, c :: cs, hn, h => by
    have h0 := h 0 c rfl
    simp only [Nat.add_zero] at h0
    simp only [loadCellsFrom, Sem.run_bind, run_load, h0, Result.andThen_ok]
    rw [a4y n (i + 1) _ cs (by simpa using hn) (fun j v hj => by have := h (j + 1) v (by simpa using hj); rwa [show i + 1 + j = i + (j + 1) by omega])]
    simp
theorem a59 {P : Program} {w : World} {t : TypeId} {a : Addr} {n : Nat} {cs : List Value} (ht : (Instr.loadAt t (.pointer (some a))).run P w = ((do pure (.agg (<- loadCells a n))) : Sem Value).run P w)
    (hn : cs.length = n) (h : CA w a cs) : (Instr.loadAt t (.pointer (some a))).run P w = .ok (.agg cs.toArray) w := by
  rw [ht]
  simp [loadCells, a4y n 0 #[] cs hn (fun j v hj => by rw [Nat.zero_add]; exact h j v hj)]
def Mb (w : World) (b : Nat) (T : TypeId) (cs : List Value) : Prop := w.heap[b]? = some (.cells cs.toArray T (0, 0))
theorem Mb.lt {w : World} {b : Nat} {T : TypeId} {cs : List Value} (h : Mb w b T cs) : b < w.heap.size := (Array.getElem?_eq_some_iff.1 h).1
theorem Mb.ext {G : Nat -> Prop} {w w' : World} {b : Nat} {T : TypeId} {cs : List Value} (h : Mb w b T cs) (hE : Ext G w w') (hg : ¬ G b) : Mb w' b T cs := (hE.block b h.lt hg).trans h
theorem Mb.exn {w w' : World} {b : Nat} {T : TypeId} {cs : List Value} (h : Mb w b T cs) (hE : Ext noG w w') : Mb w' b T cs := h.ext hE (fun hh => hh)
theorem Mb.ca {w : World} {b : Nat} {T : TypeId} {cs : List Value} (h : Mb w b T cs) : CA w ⟨b, 0, none⟩ cs := by
  intro j v hj
  have ha : (⟨b, 0, none⟩ : Addr).add j = ⟨b, j, none⟩ := by unfold Addr.add; split <;> simp_all
  rw [ha]
  unfold World.cell?
  rw [show w.heap[b]? = some (.cells cs.toArray T (0, 0)) from h]
  simpa using hj
theorem Mb.frozen {w : World} {b : Nat} {T : TypeId} {cs : List Value} (h : Mb w b T cs) (j : Nat) : w.frozen? ⟨b, j, none⟩ = false := by
  unfold World.frozen?
  rw [show w.heap[b]? = some (.cells cs.toArray T (0, 0)) from h]
  simp
theorem Mb.alloc (w : World) (T : TypeId) (cs : List Value) : Mb (w.alloc (.cells cs.toArray T)) w.heap.size T cs := by
  show (w.heap.push _)[w.heap.size]? = _
  simp
theorem a16 {P : Program} {b : Nat} {T : TypeId} : ∀ (vs : List Value) (k : Nat) (cs : List Value) (w : World), Mb w b T cs -> k + vs.length <= cs.length -> (∀ v ∈ vs, v.oneCell' = true) ->
    ∃ w', (storeCells ⟨b, 0, none⟩ vs k).run P w = .ok () w' /\ Mb w' b T (cs.take k ++ vs ++ cs.drop (k + vs.length)) /\ Ext (fun x => x = b) w w'
  | [], k, cs, w, h, _, _ => ⟨w, by simp [storeCells], by simpa using h, Ext.refl _ _⟩
  | v :: vs, k, cs, w, h, hk, h1 => by
    have hklt : k < cs.length := by simp at hk; omega
    have ha : (⟨b, 0, none⟩ : Addr).add k = ⟨b, k, none⟩ := by unfold Addr.add; split <;> simp_all
    have hc : w.cell? ⟨b, k, none⟩ = some cs[k] := by rw [<- ha]; exact h.ca k _ (List.getElem?_eq_getElem hklt)
    have hv : v.oneCell' = true := h1 v (by simp)
    have hst : (store ⟨b, k, none⟩ v).run P w = .ok () (w.setCell ⟨b, k, none⟩ v) := by
      rw [run_store P w _ v .plain hv]
      simp [hc, h.frozen k]
    have hM : Mb (w.setCell ⟨b, k, none⟩ v) b T (cs.set k v) := by
      show (w.heap.modify b _)[b]? = _
      rw [Array.getElem?_modify, if_pos rfl, show w.heap[b]? = some (.cells cs.toArray T (0, 0)) from h]
      simp
    have hE : Ext (fun x => x = b) w (w.setCell ⟨b, k, none⟩ v) := ⟨rfl, rfl, rfl, by simp [World.setCell], fun i _ hne => RowKit.Below.heap_setCell w _ v i hne, Nat.le_refl _⟩
    obtain ⟨w', hr, hM', hE'⟩ := a16 vs (k + 1) (cs.set k v) (w.setCell ⟨b, k, none⟩ v) hM (by simp at hk ⊢; omega) (fun u hu => h1 u (by simp [hu]))
    refine ⟨w', ?_, ?_, hE.trans hE'⟩
    . simp only [storeCells, Sem.run_bind, ha, hst, Result.andThen_ok]
      exact hr
    . have e : (cs.set k v).take (k + 1) ++ vs ++ (cs.set k v).drop (k + 1 + vs.length) = cs.take k ++ v :: vs ++ cs.drop (k + (v :: vs).length) := by
        rw [List.take_set, List.drop_set, if_pos (by omega)]
        have h2 : (cs.take (k + 1)).set k v = cs.take k ++ [v] := by
          rw [List.take_succ_eq_append_getElem hklt, List.set_append]
          simp [Nat.min_eq_left (Nat.le_of_lt hklt)]
        rw [h2]
        simp [Nat.add_comm, Nat.add_left_comm]
      rw [e] at hM'
      exact hM'
structure TyR (α : Type) where
  n : Nat
  rep : (Nat -> Prop) -> World -> List Value -> α -> Prop
  len : ∀ {G w cs x}, rep G w cs x -> cs.length = n
  ext : ∀ {G w w' cs x}, rep G w cs x -> Ext G w w' -> rep G w' cs x
  weaken : ∀ {G G' w cs x}, rep G w cs x -> (∀ b, b < w.heap.size -> G' b -> G b) -> rep G' w cs x
def TyR.flat {α : Type} (n : Nat) (cells : α -> List Value) (h : ∀ x, (cells x).length = n) : TyR α where
  n := n
  rep := fun _ _ cs x => cs = cells x
  len := fun hr => hr ▸ h _
  ext := fun hr _ => hr
  weaken := fun hr _ => hr
def d5 {α : Type} (R : TyR α) (G : Nat -> Prop) (w : World) (v : Value) (l : List α) : Prop :=
  (v = .slice none 0 0 /\ l = []) \/
  ∃ a cap, v = .slice (some a) l.length cap /\ l.length <= cap /\ cap <= maxLen /\ (∀ i x, l[i]? = some x -> ∃ cs, R.rep G w cs x /\ a.block < w.heap.size /\ ¬ G a.block /\ CA w (a.add (i * R.n)) cs)
section
variable {α : Type} {R : TyR α} {G : Nat -> Prop} {w w' : World} {v : Value} {l : List α}
theorem d5.ext (h : d5 R G w v l) (hE : Ext G w w') : d5 R G w' v l := by
  rcases h with h | ⟨a, cap, hv, hc, hm, hi⟩
  . exact .inl h
  . refine .inr ⟨a, cap, hv, hc, hm, fun i x hx => ?_⟩
    obtain ⟨cs, hr, hb, hg, hca⟩ := hi i x hx
    refine ⟨cs, R.ext hr hE, Nat.lt_of_lt_of_le hb hE.size, hg, hca.of_block ?_⟩
    rw [a1x]
    exact hE.block _ hb hg
theorem d5.exn (h : d5 R G w v l) (hE : Ext noG w w') : d5 R G w' v l := h.ext hE.of_no
theorem d5.weaken {G' : Nat -> Prop} (h : d5 R G w v l) (hG : ∀ b, b < w.heap.size -> G' b -> G b) : d5 R G' w v l := by
  rcases h with h | ⟨a, cap, hv, hc, hm, hi⟩
  . exact .inl h
  . refine .inr ⟨a, cap, hv, hc, hm, fun i x hx => ?_⟩
    obtain ⟨cs, hr, hb, hg, hca⟩ := hi i x hx
    exact ⟨cs, R.weaken hr hG, hb, fun h => hg (hG _ hb h), hca⟩
theorem d5.nil (R : TyR α) (G : Nat -> Prop) (w : World) : d5 R G w (.slice none 0 0) [] := .inl ⟨rfl, rfl⟩
theorem d5.shape (h : d5 R G w v l) : ∃ a cap, v = .slice a l.length cap /\ l.length <= cap /\ cap <= maxLen := by
  rcases h with ⟨h, rfl⟩ | ⟨a, cap, hv, hc, hm, _⟩
  . exact ⟨none, 0, h, Nat.le_refl _, Nat.zero_le _⟩
  . exact ⟨some a, cap, hv, hc, hm⟩
def m7 (l : List α) (i : Int) : Option α := if 0 <= i then l[i.toNat]? else none
theorem a8a {i : Int} {x : α} (h : m7 l i = some x) : 0 <= i /\ i < (l.length : Int) /\ l[i.toNat]? = some x := by
  unfold m7 at h
  split at h
  . have h1 : i.toNat < l.length := (List.getElem?_eq_some_iff.1 h).1
    exact ⟨by assumption, by omega, h⟩
  . cases h
theorem d5.get (h : d5 R G w v l) {i : Int} {x : α} (hx : m7 l i = some x) :
    ∃ a cap cs, v = .slice (some a) l.length cap /\ (0 <= i /\ i < (l.length : Int)) /\ R.rep G w cs x /\ a.block < w.heap.size /\ ¬ G a.block /\ CA w (a.add (i.toNat * R.n)) cs := by
  obtain ⟨h0, h1, h2⟩ := a8a hx
  rcases h with ⟨_, rfl⟩ | ⟨a, cap, hv, hc, hm, hi⟩
  . simp at h2
  . obtain ⟨cs, hr, hb, hg, hca⟩ := hi _ _ h2
    exact ⟨a, cap, cs, hv, ⟨h0, h1⟩, hr, hb, hg, hca⟩
end
structure At (w : World) (a : Addr) (cs : List Value) : Prop where
  lt : a.block < w.heap.size
  ca : CA w a cs
theorem At.exn {w w' : World} {a : Addr} {cs : List Value} (h : At w a cs) (hE : Ext noG w w') : At w' a cs :=
  ⟨Nat.lt_of_lt_of_le h.lt hE.size, h.ca.of_block (hE.block _ h.lt (fun hh => hh))⟩
theorem d5.getF {α : Type} {n : Nat} {cells : α -> List Value} {hn : ∀ x, (cells x).length = n} {G : Nat -> Prop} {w : World} {v : Value} {l : List α} (h : d5 (TyR.flat n cells hn) G w v l) {i : Int} {x : α} (hx : m7 l i = some x) :
    ∃ a cap, v = .slice (some a) l.length cap /\ (0 <= i /\ i < (l.length : Int)) /\ At w (a.add (i.toNat * n)) (cells x) := by
  obtain ⟨a, cap, cs, hv, hi, hr, hb, _, hca⟩ := h.get hx
  have hr : cs = cells x := hr
  subst hr
  exact ⟨a, cap, hv, hi, by rw [a1x]; exact hb, hca⟩
theorem b12 {α β : Type} {o : Option α} {f : α -> Option β} {r : β} (h : o.bind f = some r) : ∃ x, o = some x /\ f x = some r := by
  cases o with
  | none => cases h
  | some x => exact ⟨x, rfl, h⟩
def j6 {σ ρ : Type} : Nat -> ((σ -> Option ρ) -> σ -> Option ρ) -> σ -> Option ρ
  | 0, _, _ => none
  | k + 1, f, s => f (j6 k f) s
def FU : Nat := 2 ^ 70
def c0u (a b : Int) : Option Int := if b = 0 then none else some (i64 (a.tdiv b))
def b31 (a b : Int) : Option Int := if b = 0 then none else some (a.tmod b)
section
variable {P : Program} {w : World} {G : Nat -> Prop} {ρ : Nat -> Value} {F : List Fact} {p : Plan} {i : Nat}
theorem c6c {o : Oper} {dd : Tmp} {v v' : Value} (hd : o.dst = some dd) (hF : F[i]? = some (val dd v)) (hv : v' = v) (h : YV P (ev ρ) w o v') :
    n9 P o (ev ρ) w fun v w' => Ext (if p.mu.contains i then G else noG) w w' /\ a3b F i (a5m ρ o.dst v) w' := by
  subst hv; exact c7 hd hF h
theorem c6z {f : FuncId} {xs : Array Operand} {tys : Array TypeId} {ty : TypeId} {ps : String} {af : Array Edge} {g : Option (Nat × Bool)} {dd : Tmp} {v : Value} {args : Array Value}
    (hF : F[i]? = some (val dd v)) (hargs : xs.map (ev ρ) = args) (hcf : ∀ (args : Array Value) (w : World), (callFunc f args).run P w = .ok (.enter f args) w)
    (hc : Calls P f args w fun e w' => e = .returned v /\ Ext noG w w') :
    n9 P ⟨some dd, .call ⟨.value (.func f), xs, tys⟩, ty, ps, af, g⟩ (ev ρ) w fun v w' => Ext (if p.mu.contains i then G else noG) w w' /\ a3b F i (a5m ρ (some dd) v) w' := by
  have hr : (execOp (ev ρ) ⟨some dd, .call ⟨.value (.func f), xs, tys⟩, ty, ps, af, g⟩).run P w = .ok (.enter f args) w := by
    simp [execOp, resolve, ev, Deferred.ofValue, invoke, hargs, hcf]
  unfold n9
  rw [hr]
  refine hc.mono (fun e w' ⟨he, hE⟩ => ⟨v, he, ?_, ?_⟩)
  . split
    . exact hE.of_no
    . exact hE
  . unfold a3b
    rw [hF]
    exact a3f _ _ _
theorem b8i {η : Operand -> Value} {d : Option Tmp} {ty : TypeId} {ps : String} {af : Array Edge} {g : Option (Nat × Bool)} {T : TypeId} {u : Value} {w' : World} (h : (Instr.alloc T true (.tuple #[])).run P w = .ok u w') :
    (execOp η ⟨d, .alloc T, ty, ps, af, g⟩).run P w = .ok (.value u) w' := by simp [execOp, h]
theorem d8v {η : Operand -> Value} {d : Option Tmp} {ty : TypeId} {ps : String} {af : Array Edge} {g : Option (Nat × Bool)} {T : TypeId} {x : Operand} {v u : Value} {w' : World} (hx : η x = v) (h : (Instr.box T v).run P w = .ok u w') :
    (execOp η ⟨d, .box T x, ty, ps, af, g⟩).run P w = .ok (.value u) w' := by simp [execOp, hx, h]
theorem b7k {o : Oper} {dd : Tmp} {T : TypeId} {cs : List Value} {w0 : World} (hd : o.dst = some dd) (hF : F[i]? = some (dd, fun u w' => ∃ b, u = .pointer (some ⟨b, 0, none⟩) /\ w0.heap.size <= b /\ Mb w' b T cs))
    (h0 : Ext G w0 w) (h : (execOp (ev ρ) o).run P w = .ok (.value (.pointer (some ⟨w.heap.size, 0, none⟩))) (w.alloc (.cells cs.toArray T))) :
    n9 P o (ev ρ) w fun v w' => Ext (if p.mu.contains i then G else noG) w w' /\ a3b F i (a5m ρ o.dst v) w' := by
  unfold n9
  rw [h]
  refine ⟨Ext.alloc _ _ _, ?_⟩
  unfold a3b
  rw [hF, hd]
  exact ⟨_, a3f _ _ _, h0.size, Mb.alloc w T cs⟩
theorem b13 {t : TypeId} {x y : Operand} {ty : TypeId} {ps : String} {af : Array Edge} {g : Option (Nat × Bool)} {dd : Tmp} {T : TypeId} {cs cs0 : List Value} {v : Value} {w0 : World}
    (hF : F[i]? = some (dd, fun u w' => ∃ b, u = .pointer (some ⟨b, 0, none⟩) /\ w0.heap.size <= b /\ Mb w' b T cs)) (hm : p.mu.contains i = true) (hG : G = fun b => w0.heap.size <= b)
    (hx : ev ρ x = ρ dd) (hy : ev ρ y = v) (ha : ∃ b, ρ dd = .pointer (some ⟨b, 0, none⟩) /\ w0.heap.size <= b /\ Mb w b T cs0)
    (hst : ∀ (a : Addr) (w : World), (Instr.storeAt t (.pointer (some a)) v).run P w = (storeCells a cs).run P w) (hl : cs.length = cs0.length) (h1 : ∀ u ∈ cs, u.oneCell' = true) :
    n9 P ⟨none, .store t x y, ty, ps, af, g⟩ (ev ρ) w fun v w' => Ext (if p.mu.contains i then G else noG) w w' /\ a3b F i (a5m ρ none v) w' := by
  obtain ⟨b, hb, hge, hM⟩ := ha
  obtain ⟨w', hr, hM', hE⟩ := a16 (P := P) cs 0 cs0 w hM (by omega) h1
  have hrun : (execOp (ev ρ) ⟨none, .store t x y, ty, ps, af, g⟩).run P w = .ok .skip w' := by
    simp [execOp, hx, hy, hb, hst, hr]
  unfold n9
  rw [hrun, hm, if_pos rfl]
  refine ⟨hE.mono (fun c hc => by subst hc; rw [hG]; exact hge), ?_⟩
  unfold a3b
  rw [hF]
  refine ⟨b, hb, hge, ?_⟩
  have e : cs0.take 0 ++ cs ++ cs0.drop (0 + cs.length) = cs := by simp [hl]
  rw [e] at hM'
  exact hM'
theorem b1h {t : TypeId} {x y : Operand} {ty : TypeId} {ps : String} {af : Array Edge} {g : Option (Nat × Bool)} {dd b : Nat} {T : TypeId} {cs cs0 : List Value} {v : Value}
    (hF : F[i]? = some (dd, fun _ w' => Mb w' b T cs)) (hm : p.mu.contains i = true) (hG : ∀ x, x = b -> G x)
    (hx : ev ρ x = .pointer (some ⟨b, 0, none⟩)) (hy : ev ρ y = v) (hM : Mb w b T cs0)
    (hst : ∀ (a : Addr) (w : World), (Instr.storeAt t (.pointer (some a)) v).run P w = (storeCells a cs).run P w) (hl : cs.length = cs0.length) (h1 : ∀ u ∈ cs, u.oneCell' = true) :
    n9 P ⟨none, .store t x y, ty, ps, af, g⟩ (ev ρ) w fun v w' => Ext (if p.mu.contains i then G else noG) w w' /\ a3b F i (a5m ρ none v) w' := by
  obtain ⟨w', hr, hM', hE⟩ := a16 (P := P) cs 0 cs0 w hM (by omega) h1
  have hrun : (execOp (ev ρ) ⟨none, .store t x y, ty, ps, af, g⟩).run P w = .ok .skip w' := by
    simp [execOp, hx, hy, hst, hr]
  unfold n9
  rw [hrun, hm, if_pos rfl]
  refine ⟨hE.mono hG, ?_⟩
  unfold a3b
  rw [hF]
  have e : cs0.take 0 ++ cs ++ cs0.drop (0 + cs.length) = cs := by simp [hl]
  rw [e] at hM'
  exact hM'
end
theorem Ext.own {G G0 : Nat -> Prop} {w0 w w' : World} (h : Ext G0 w0 w) (hE : Ext G w w') (hG : ∀ x, G x -> w0.heap.size <= x) : Ext G0 w0 w' :=
  ⟨hE.os.trans h.os, hE.tape.trans h.tape, hE.output.trans h.output, Nat.le_trans h.size hE.size,
    fun b hb hn => (hE.block b (Nat.lt_of_lt_of_le hb h.size) (fun hg => by have := hG b hg; omega)).trans (h.block b hb hn), Nat.le_trans h.drawn hE.drawn⟩
theorem Ext.fresh {w w' : World} (h : Ext (fun b => w.heap.size <= b) w w') : Ext noG w w' := ⟨h.os, h.tape, h.output, h.size, fun b hb _ => h.block b hb (by omega), h.drawn⟩
section
variable {P : Program} {η : Operand -> Value} {w : World} {d : Option Tmp} {ty : TypeId} {ps : String} {af : Array Edge} {g : Option (Nat × Bool)} {x y z : Operand} {v u : Value}
theorem c7v {k : IntKind} {a b : Int} {ts : Array TypeId} (hx : η x = .int k a) (hy : η y = .int k b) : YV P η w ⟨d, .call ⟨.builtin .max, #[x, y], ts⟩, ty, ps, af, g⟩ (.int k (max a b)) := by
  have : (if b > a then b else a) = max a b := by omega
  simp [YV, execOp, resolve, invoke, builtin, hx, hy, Builtin.max_, Builtin.max2, this]
theorem d3o {k : IntKind} {a b : Int} {ts : Array TypeId} (hx : η x = .int k a) (hy : η y = .int k b) : YV P η w ⟨d, .call ⟨.builtin .min, #[x, y], ts⟩, ty, ps, af, g⟩ (.int k (min a b)) := by
  have : (if b < a then b else a) = min a b := by omega
  simp [YV, execOp, resolve, invoke, builtin, hx, hy, Builtin.min_, Builtin.min2, this]
theorem b2l {i : Nat} (hx : η x = v) : (#[(i, x)].map fun (i, x) => (i, η x)) = #[(i, v)] := by simp [hx]
theorem b8z {i j : Nat} (hx : η x = v) (hy : η y = u) : (#[(i, x), (j, y)].map fun (i, x) => (i, η x)) = #[(i, v), (j, u)] := by simp [hx, hy]
theorem b6z (hx : η x = v) : #[x].map η = #[v] := by simp [hx]
theorem c4k (hx : η x = v) (hy : η y = u) : #[x, y].map η = #[v, u] := by simp [hx, hy]
theorem b3e {t e : TypeId} {m : Nat} {a : Addr} {n c : Nat} {i : Int} (ht : P.underlying t = some (.slice e)) (he : (P.info? e).map (·.size) = some m) (h : 0 <= i /\ i < (n : Int)) :
    (Instr.indexAt t (.slice (some a) n c) (.int .i64 i)).run P w = .ok (.pointer (some (a.add (i.toNat * m)))) w := by
  cases hi : P.info? e with
  | none => simp [hi] at he
  | some q =>
    simp only [hi, Option.map_some, Option.some.injEq] at he
    simp [Instr.indexAt, run_underlying ht, asIntOf, h, sizeOf, typeInfo, hi, he]
theorem d17 {t e : TypeId} {m n : Nat} {a : Addr} {i : Int} (ht : P.underlying t = some (.array n e)) (he : (P.info? e).map (·.size) = some m) (h : 0 <= i /\ i < (n : Int)) :
    (Instr.indexAt t (.pointer (some a)) (.int .i64 i)).run P w = .ok (.pointer (some (a.add (i.toNat * m)))) w := by
  cases hi : P.info? e with
  | none => simp [hi] at he
  | some q =>
    simp only [hi, Option.map_some, Option.some.injEq] at he
    simp [Instr.indexAt, Instr.sureAddr, run_underlying ht, asIntOf, h, sizeOf, typeInfo, hi, he]
theorem CA.elem {α : Type} {cells : α -> List Value} (n : Nat) (hn : ∀ x, (cells x).length = n) : ∀ {l : List α} {w : World} {a : Addr} {i : Int} {x : α}, CA w a (l.flatMap cells) -> m7 l i = some x -> CA w (a.add (i.toNat * n)) (cells x) := by
  intro l w a i x h hx
  obtain ⟨_, _, h2⟩ := a8a hx
  generalize i.toNat = k at *
  clear hx
  have key : ∀ (l : List α) (k : Nat), l[k]? = some x -> ((l.flatMap cells).drop (k * n)).take n = cells x := by
    intro l
    induction l with
    | nil => intro k h; simp at h
    | cons y r ih =>
      intro k h
      cases k with
      | zero =>
        simp at h; subst h
        simp [<- hn y]
      | succ k =>
        have h1 : r[k]? = some x := by simpa using h
        rw [List.flatMap_cons, Nat.succ_mul, Nat.add_comm, <- List.drop_drop]
        rw [<- hn y, List.drop_left]
        have := ih k h1
        rw [<- hn y] at this
        exact this
  have h3 := h.sub (k * n) n
  rw [key l k h2] at h3
  exact h3
end
theorem b4j {α : Type} {cells : α -> List Value} {l : List α} (h : ∀ x, ∀ u ∈ cells x, u.oneCell' = true) : ∀ u ∈ l.flatMap cells, u.oneCell' = true := by
  intro u hu
  obtain ⟨x, _, hx⟩ := List.mem_flatMap.1 hu
  exact h x u hx
theorem m5 {α : Type} {cells : α -> List Value} {n : Nat} (hn : ∀ x, (cells x).length = n) : ∀ l : List α, (l.flatMap cells).length = l.length * n
  | [] => by simp
  | x :: r => by rw [List.flatMap_cons, List.length_append, hn, m5 hn r, List.length_cons, Nat.succ_mul]; omega
section
variable {P : Program} {n : Nat} {Q : Exit -> (Nat -> Value) -> World -> Prop} {ρ : Nat -> Value} {w : World}
theorem WP.seqJ {x y : Code} (M : (Nat -> Value) -> World -> Prop) (h : WP P n x (b9e M Q) ρ w) (hk : ∀ ρ' w', M ρ' w' -> WP P n y Q ρ' w') : WP P n (.seq x y) Q ρ w :=
  WP.seq (h.mono fun e ρ' w' hh => by cases e <;> first | exact hk _ _ hh | exact hh)
theorem a7p {M : (Nat -> Value) -> World -> Prop} {id : Nat} (h : Q (.exit id) ρ w) : b9e M Q (.exit id) ρ w := h
theorem b1z {id : Nat} (h : Q .normal ρ w) : b8u id Q (.exit id) ρ w := by simp [b8u, h]
theorem res1 {fn : Func} {R : Value -> World -> Prop} {t : Tmp} {v : Value} (h : fn.results = #[.tmp t]) (ht : t < n) (hv : ρ t = v) (hR : R v w) : d2d P n fn R .ret ρ w := by
  refine ⟨v, ?_, hR⟩
  simp [results, h, Fr, ht, hv]
theorem resC {fn : Func} {R : Value -> World -> Prop} {t : Tmp} {T : TypeId} {a : Addr} {v : Value} (h : fn.results = #[.cell t T]) (ht : t < n) (hv : ρ t = .pointer (some a)) (hl : (Instr.loadAt T (.pointer (some a))).run P w = .ok v w) (hR : R v w) : d2d P n fn R .ret ρ w := by
  refine ⟨v, ?_, hR⟩
  have hl' : (loadVar T a).run P w = .ok v w := by simpa [Instr.loadAt, Instr.sureAddr] using hl
  simp [results, h, Fr, ht, hv, asAddr, hl']
end
theorem Calls.start {P : Program} {n : Nat} {f : FuncId} {fn : Func} {c : Code} {args : List Value} {R : Value -> World -> Prop} {w : World}
    (hf : P.funcs[f]? = some fn) (hb : fn.body = some c) (hn : fn.ntmps = n) (hargs : args.length <= n)
    (h : ∀ ρ, (∀ i v, args[i]? = some v -> ρ i = v) -> WP P n c (d2d P n fn R) ρ w) : Calls P f args.toArray w fun e w' => ∃ v, e = .returned v /\ R v w' :=
  Calls.of_WP hf hb hn hargs (h _ fun i v hv => by simp [hv])
end Go.PL
namespace Go.PL
open Go
theorem b4b {p : Program} {w : World} {a : Addr} {u : TypeId} {k : Addr} {v : Value} {b : Bool} {r : World × List Addr} (h : w.viewStore p a u k v b = .ok r) : r.1.drawn = w.drawn := by
  simp only [World.viewStore, bind, Except.bind, throwThe, MonadExceptOf.throw, MonadExcept.throw, pure, Except.pure] at h
  split at h
  . cases h
  . split at h
    . cases h
    . split at h
      . split at h
        . cases h
        . split at h
          . cases h
          . cases h; rfl
      . cases h
theorem b62 {p : Program} {w : World} {a : Addr} {v : Value} {b : Bool} {r : World × List Addr} (h : w.farStore p a v b = .ok r) : r.1.drawn = w.drawn := by
  unfold World.farStore at h
  split at h
  . split at h
    . cases h; rename_i h; exact b4b h
    . cases h
  . cases h
theorem c8s {α : Type} : ∀ (x : Ask α) (w : World), w.drawn <= (w.ask x).2.drawn := by
  intro x
  induction x with
  | done a => intro w; exact Nat.le_refl _
  | ask what range k ih =>
    intro w
    unfold World.ask
    dsimp only
    split
    . exact ih _ _
    . exact Nat.le_trans (Nat.le_succ _) (ih _ { w with drawn := w.drawn + 1 })
theorem c6o (w : World) (c : Sys) : w.drawn <= (w.sys c).2.drawn := by
  unfold World.sys
  have h := c8s (Kernel.perform c w.os) w
  split
  . exact Nat.le_refl _
  . rename_i heq; rw [heq] at h; exact h
theorem c7z {α : Type} {P : Program} (s : Sem α) : ∀ {w w' : World} {v : α}, s.run P w = .ok v w' -> w.drawn <= w'.drawn := by
  induction s with
  | pure a => intro w w' v h; cases h; exact Nat.le_refl _
  | load m a k ih =>
    intro w w' v h
    unfold Sem.run at h
    split at h
    . exact ih _ h
    . split at h
      . exact ih _ h
      . cases h
  | store m a u k ih =>
    intro w w' v h
    have key : (match w.cell? a with
      | some _ => if w.frozen? a then Result.halt (.unsupported (.unsafePointer "a write to bytes that a string shares")) w else k.run P (w.setCell a u)
      | none => match w.farStore P a u (m == Mode.atomic) with
        | .ok (w, _) => k.run P w
        | .error h => .halt h w) = .ok v w' := by
      cases u <;> first | exact h | (cases h; done)
    split at key
    . split at key
      . cases key
      . exact ih (w := w.setCell a u) key
    . split at key
      . rename_i hf; exact (b62 hf) ▸ ih key
      . cases key
  | new o k ih => intro w w' v h; unfold Sem.run at h; exact ih _ (w := { w with heap := w.heap.push o }) h
  | shape r k ih => intro w w' v h; unfold Sem.run at h; exact ih _ h
  | freeze a n k ih => intro w w' v h; unfold Sem.run at h; have := ih h; unfold World.freeze at this; split at this <;> exact this
  | frozen a k ih => intro w w' v h; unfold Sem.run at h; exact ih _ h
  | getObj r k ih =>
    intro w w' v h; unfold Sem.run at h
    split at h
    . cases h
    . exact ih _ h
    . cases h
  | setObj r o k ih =>
    intro w w' v h; unfold Sem.run at h
    split at h
    . cases h
    . exact ih (w := { w with heap := w.heap.setIfInBounds r o }) h
    . cases h
  | choose q k ih =>
    intro w w' v h; unfold Sem.run at h
    split at h
    . exact ih _ h
    . exact Nat.le_trans (Nat.le_succ _) (ih _ (w := { w with drawn := w.drawn + 1 }) h)
  | sys c k ih => intro w w' v h; unfold Sem.run at h; exact Nat.le_trans (c6o w c) (ih _ h)
  | program k ih => intro w w' v h; unfold Sem.run at h; exact ih _ h
  | mark m k ih => intro w w' v h; unfold Sem.run at h; exact ih h
  | halt x => intro w w' v h; cases h
def Own {α : Type} (B : Nat) (E : TypeId) (n : Nat) (cells : α -> List Value) (w : World) (v : Value) (l : List α) : Prop :=
  (v = .slice none 0 0 /\ l = []) \/
  ∃ g off cap cur, v = .slice (some ⟨g, off, none⟩) l.length cap /\ B <= g /\ w.heap[g]? = some (.cells cur E (0, 0)) /\ l.length <= cap /\ cap <= maxLen /\ off + cap * n <= cur.size /\ (cur.toList.drop off).take (l.length * n) = l.flatMap cells
section
variable {α : Type} {B : Nat} {E : TypeId} {n : Nat} {cells : α -> List Value} {w w' : World} {v : Value} {l : List α}
theorem Own.nil (B : Nat) (E : TypeId) (n : Nat) (cells : α -> List Value) (w : World) : Own B E n cells w (.slice none 0 0) ([] : List α) := .inl ⟨rfl, rfl⟩
theorem Own.lt (h : Own B E n cells w v l) {b : Nat} (hb : v.ownBlock = some b) : B <= b /\ b < w.heap.size := by
  rcases h with ⟨hv, _⟩ | ⟨g, off, cap, cur, hv, hg, hh, _⟩
  . rw [hv] at hb; cases hb
  . rw [hv] at hb
    obtain rfl := Option.some.inj hb
    exact ⟨hg, (Array.getElem?_eq_some_iff.1 hh).1⟩
theorem Own.ext {G : Nat -> Prop} (h : Own B E n cells w v l) (hE : Ext G w w') (hG : ∀ b, v.ownBlock = some b -> ¬ G b) : Own B E n cells w' v l := by
  rcases h with h2 | ⟨g, off, cap, cur, hv, hg, hh, r⟩
  . exact .inl h2
  . exact .inr ⟨g, off, cap, cur, hv, hg, (hE.block g (Array.getElem?_eq_some_iff.1 hh).1 (hG g (by rw [hv]; rfl))).trans hh, r⟩
theorem Own.exn (h : Own B E n cells w v l) (hE : Ext noG w w') : Own B E n cells w' v l := h.ext hE (fun _ _ h => h)
theorem Own.base {B' : Nat} (h : Own B E n cells w v l) (hB : B' <= B) : Own B' E n cells w v l := by
  rcases h with h2 | ⟨g, off, cap, cur, hv, hg, r⟩
  . exact .inl h2
  . exact .inr ⟨g, off, cap, cur, hv, Nat.le_trans hB hg, r⟩
theorem Own.shape (h : Own B E n cells w v l) : ∃ a cap, v = .slice a l.length cap /\ l.length <= cap /\ cap <= maxLen := by
  rcases h with ⟨hv, hn⟩ | ⟨g, off, cap, cur, hv, _, _, hc, hm, _⟩
  . exact ⟨none, 0, by rw [hv, hn]; rfl, by rw [hn]; exact Nat.le_refl _, Nat.zero_le _⟩
  . exact ⟨some ⟨g, off, none⟩, cap, hv, hc, hm⟩
theorem Own.ca (h : Own B E n cells w v l) {a : Addr} {m c : Nat} (hv : v = .slice (some a) m c) : CA w a (l.flatMap cells) := by
  rcases h with ⟨h1, _⟩ | ⟨g, off, cap, cur, h1, _, hh, _, _, hs, ht⟩
  . rw [h1] at hv; cases hv
  . rw [h1] at hv
    simp only [Value.slice.injEq, Option.some.injEq] at hv
    obtain ⟨rfl, rfl, rfl⟩ := hv
    intro j u hu
    rw [<- ht] at hu
    have hj : j < l.length * n := by
      have := (List.getElem?_eq_some_iff.1 hu).1
      rw [List.length_take] at this; omega
    rw [List.getElem?_take_of_lt hj, List.getElem?_drop, Array.getElem?_toList] at hu
    unfold World.cell?
    rw [Addr.add_lit]
    simp [hh, hu]
theorem Own.rep (h : Own B E n cells w v l) {hn : ∀ x, (cells x).length = n} {G : Nat -> Prop} (hG : ∀ b, v.ownBlock = some b -> ¬ G b) : d5 (TyR.flat n cells hn) G w v l := by
  have hca := fun a m c (hv : v = .slice (some a) m c) => h.ca hv
  rcases h with ⟨hv, hl⟩ | ⟨g, off, cap, cur, hv, hg, hh, hc, hm, hs, ht⟩
  . exact .inl ⟨hv, hl⟩
  . refine .inr ⟨⟨g, off, none⟩, cap, hv, hc, hm, fun i x hx => ⟨cells x, rfl, (Array.getElem?_eq_some_iff.1 hh).1, hG g (by rw [hv]; rfl), ?_⟩⟩
    have h1 := CA.elem n hn (hca _ _ _ hv) (i := (i : Int)) (x := x) (by unfold m7; rw [if_pos (Int.natCast_nonneg i)]; simpa using hx)
    rw [Int.toNat_natCast] at h1; exact h1
theorem Own.ofRow {m : Nat} (h : w.ownsRow B E n v m (l.flatMap cells)) (hm : m = l.length) : Own B E n cells w v l := by
  subst hm
  rcases h.2 with ⟨hv, hl⟩ | ⟨g, cap, cur, hv, hg, hh, hc, hm, hs, ht⟩
  . exact .inl ⟨hv, List.length_eq_zero_iff.1 hl⟩
  . exact .inr ⟨g, 0, cap, cur, hv, hg, hh, hc, hm, by rw [hs]; omega, by simpa using ht⟩
end
def gfr (G : Nat -> Prop) (w0 : World) : Nat -> Prop := fun b => G b \/ w0.heap.size <= b
theorem d5.start {α : Type} {R : TyR α} {G : Nat -> Prop} {w : World} {v : Value} {l : List α} (h : d5 R G w v l) : d5 R (gfr G w) w v l :=
  h.weaken (fun _ hb hg => hg.elim id (fun hh => absurd hb (Nat.not_lt.2 hh)))
theorem d5.over {α : Type} {R : TyR α} {G G' : Nat -> Prop} {w w' w0 : World} {v : Value} {l : List α} (h : d5 R (gfr G w0) w v l) (hE : Ext G' w w') (hG : ∀ b, G' b -> w0.heap.size <= b) : d5 R (gfr G w0) w' v l :=
  h.ext (hE.mono fun b hb => .inr (hG b hb))
def a6y {α : Type} (bytes : Nat) (l x : List α) : Option (List α) := if (l.length + x.length) * bytes <= 140737488355328 then some (l ++ x) else none
theorem b4w {α : Type} {bytes : Nat} {l x r : List α} (h : a6y bytes l x = some r) : (l.length + x.length) * bytes <= 140737488355328 /\ l ++ x = r := by
  unfold a6y at h
  split at h
  . exact ⟨by assumption, Option.some.inj h⟩
  . cases h
section
variable {P : Program} {w : World}
theorem b22 {α : Type} {B : Nat} {t ty E : TypeId} {n bytes : Nat} {cells : α -> List Value} {v x : Value} {l xs : List α} (hn : ∀ x, (cells x).length = n) (h1 : ∀ x, ∀ u ∈ cells x, u.oneCell' = true)
    (ht : P.underlying t = some (.slice E)) (hi : (P.info? E).map (fun i => (i.zero.map (·.cells.size), i.size, i.bytes)) = some (some n, n, bytes)) (hpos : 0 < n) (hbpos : 0 < bytes)
    (hown : Own B E n cells w v l) (hx : ∃ G, d5 (TyR.flat n cells hn) G w x xs) (hb : (l.length + xs.length) * bytes <= 140737488355328) (hB : B <= w.heap.size) :
    ∃ v' w', (Builtin.append_ #[t, t] ty #[v, x]).run P w = .ok v' w' /\ Own B E n cells w' v' (l ++ xs) /\ Ext (fun b => v.ownBlock = some b) w w' /\ (∀ b, v'.ownBlock = some b -> v.ownBlock = some b \/ w.heap.size <= b) := by
  cases hinfo : P.info? E with
  | none => simp [hinfo] at hi
  | some i =>
    simp only [hinfo, Option.map_some, Option.some.injEq, Prod.mk.injEq] at hi
    obtain ⟨hz, hsize, hby⟩ := hi
    obtain ⟨z, hz1, hz2⟩ := Option.map_eq_some_iff.1 hz
    have hlen : l.length + xs.length <= maxLen := by
      have : (l.length + xs.length) * 1 <= (l.length + xs.length) * bytes := Nat.mul_le_mul_left _ hbpos
      simp only [maxLen]; omega
    have fin : ∀ (a : Addr) (m c : Nat) (news : List Value), x = .slice (some a) m c -> m = xs.length -> news = xs.flatMap cells -> (∀ j u, news[j]? = some u -> w.cell? (a.add j) = some u) ->
        ∃ v' w', (Builtin.append_ #[t, t] ty #[v, x]).run P w = .ok v' w' /\ Own B E n cells w' v' (l ++ xs) /\ Ext (fun b => v.ownBlock = some b) w w' /\ (∀ b, v'.ownBlock = some b -> v.ownBlock = some b \/ w.heap.size <= b) := by
      intro a m c news hxe hm hnews hc
      subst hxe
      have hnl : news.length = m * n := by rw [hnews, hm, m5 hn]
      have hone : ∀ u ∈ news, u.oneCell' = true := by rw [hnews]; exact b4j h1
      rcases hown with ⟨rfl, rfl⟩ | ⟨g, off, cap, cur, rfl, hBg, hgg, hlc, hcm, hsz, htk⟩
      . obtain ⟨v', w', hr, ho, hg, _⟩ := run_append_own (P := P) w w.heap.size t ty E i z n bytes ht hinfo hz1 hsize hby hz2 hpos _ 0 [] (World.ownsRow_nil w _ E n) a m c news hnl hc hone (by rw [hm]; simpa using hlen) (by rw [hm]; simpa using hb) (Nat.le_refl _)
        have hO : Own w.heap.size E n cells w' v' ([] ++ xs) := Own.ofRow (m := 0 + m) (by rw [List.nil_append, <- hnews]; exact ho) (by simp [hm])
        exact ⟨v', w', hr, hO.base hB, ⟨hg.os, hg.tape, hg.output, hg.size, fun b hb hne => hg.block b hb (fun e => hne e.symm), c7z _ hr⟩, fun b hvb => .inr (hO.lt hvb).1⟩
      . have hfl : (l.flatMap cells).length = l.length * n := m5 hn l
        have hca : CA w ⟨g, off, none⟩ (l.flatMap cells) := Own.ca (B := B) (E := E) (n := n) (.inr ⟨g, off, cap, cur, rfl, hBg, hgg, hlc, hcm, hsz, htk⟩) rfl
        by_cases hroom : l.length + m <= cap
        . have hmn : (l.length + m) * n <= cap * n := Nat.mul_le_mul_right _ hroom
          rw [Nat.add_mul] at hmn
          have hf := run_firstCells_some (P := P) w i.size m a m c news (by rw [hsize]; exact hnl) hc
          have hst := run_storeCells_at P g (off + l.length * n) E news 0 cur w hgg (by rw [hnl]; omega) hone
          simp only [Nat.add_zero] at hst
          refine ⟨.slice (some ⟨g, off, none⟩) (l.length + m) cap, w.setRow g (cur.toList.take (off + l.length * n) ++ news ++ cur.toList.drop (off + l.length * n + news.length)).toArray, ?_, ?_, ⟨rfl, rfl, rfl, by simp, fun k _ hk => setRow_other w g k _ (fun e => hk (by simp [Value.ownBlock, e])), Nat.le_refl _⟩, fun b hvb => .inl hvb⟩
          . rw [hsize] at hf
            simp [Builtin.append_, run_underlying ht, sizeOf, typeInfo, hinfo, Builtin.lenOf, hroom, hf, Addr.add_lit, hsize, hst]
          . refine .inr ⟨g, off, cap, _, by rw [List.length_append, hm], hBg, setRow_heap w g cur _ E _ hgg, by rw [List.length_append, <- hm]; exact hroom, hcm, ?_, ?_⟩
            . simp only [List.size_toArray, List.length_append, List.length_take, List.length_drop, Array.length_toList]
              omega
            . show (List.drop off (_ ++ news ++ _)).take _ = _
              have hc1 : cur.toList.take (off + l.length * n) = cur.toList.take off ++ l.flatMap cells := by rw [List.take_add, htk]
              have hlo : (cur.toList.take off).length = off := by rw [List.length_take, Array.length_toList]; omega
              rw [hc1, List.append_assoc, List.append_assoc]
              have : (cur.toList.take off ++ (l.flatMap cells ++ (news ++ cur.toList.drop (off + l.length * n + news.length)))).drop off = l.flatMap cells ++ (news ++ cur.toList.drop (off + l.length * n + news.length)) := by
                conv => lhs; rw [<- hlo]
                simp [hlo]
              rw [this, <- List.append_assoc, List.flatMap_append, <- hnews]
              have hl2 : (l ++ xs).length * n = (l.flatMap cells ++ news).length := by rw [List.length_append, List.length_append, hfl, hnl, hm, Nat.add_mul]
              rw [hl2]
              exact List.take_left
        . have hsm : l.length + m <= 9223372036854775807 := by
            have : l.length + m <= maxLen := by rw [hm]; exact hlen
            simp only [maxLen] at this; omega
          have hr := run_append_grow (P := P) w t ty E i z ht hinfo hz1 ⟨g, off, none⟩ l.length cap (l.flatMap cells) (by rw [hfl, hsize]) hca a m c news (by rw [hsize]; exact hnl) hc (by omega) (by omega) (growslice_fits (by omega) (by rw [hm, hby]; exact hb))
          have hge := grownCap_ge w (l.length + m) cap E
          have hcm2 : grownCap w (l.length + m) cap E <= maxLen := grownCap_le_maxLen w (l.length + m) cap E (by rw [hm]; exact hlen)
          refine ⟨_, _, hr, ?_, ⟨rfl, rfl, rfl, by simp, fun k hk _ => heap_alloc_old w.drew _ k hk, Nat.le_succ _⟩, fun b hvb => ?_⟩
          . refine .inr ⟨w.heap.size, 0, _, _, by rw [List.length_append, hm], hB, heap_alloc_new w.drew _, by rw [List.length_append, <- hm]; exact hge, hcm2, ?_, ?_⟩
            . simp only [Array.size_append, List.size_toArray, size_zeroCells, hz2, hfl, hnl, <- Nat.add_mul, Nat.zero_add]
              exact Nat.mul_le_mul_right _ (by omega)
            . simp only [Array.toList_append, List.append_assoc, List.drop_zero]
              rw [<- List.append_assoc, List.flatMap_append, <- hnews]
              have hl2 : (l ++ xs).length * n = (l.flatMap cells ++ news).length := by rw [List.length_append, List.length_append, hfl, hnl, hm, Nat.add_mul]
              rw [hl2]
              exact List.take_left
          . right
            obtain rfl := Option.some.inj hvb
            exact Nat.le_refl _
    obtain ⟨G, hx⟩ := hx
    rcases hx with ⟨hxv, hxl⟩ | ⟨a, cap, hxv, _, _, hi⟩
    . -- a nil source
      subst hxl
      subst hxv
      refine ⟨v, w, ?_, by simpa using hown, Ext.refl _ _, fun b hb => .inl hb⟩
      rcases hown with ⟨hv, hl⟩ | ⟨g, off, cap, cur, hv, _, hgg, hnc, _⟩
      . rw [hv]
        simp [Builtin.append_, run_underlying ht, sizeOf, typeInfo, hinfo, Builtin.lenOf, Builtin.firstCells]
      . rw [hv]
        simp [Builtin.append_, run_underlying ht, sizeOf, typeInfo, hinfo, Builtin.lenOf, Builtin.firstCells, hnc, storeCells]
    . refine fin a xs.length cap (xs.flatMap cells) hxv rfl rfl ?_
      intro j u hu
      have hjl : j < xs.length * n := by
        have := (List.getElem?_eq_some_iff.1 hu).1
        rwa [m5 hn] at this
      have hk : j / n < xs.length := (Nat.div_lt_iff_lt_mul hpos).2 hjl
      obtain ⟨cs, hcs, _, _, hca⟩ := hi (j / n) xs[j / n] (List.getElem?_eq_getElem hk)
      have hcs : cs = cells xs[j / n] := hcs
      subst hcs
      have hu' : (cells xs[j / n])[j % n]? = some u := by
        have key : ∀ (xs : List α) (k r : Nat), r < n -> (hk : k < xs.length) -> (xs.flatMap cells)[k * n + r]? = (cells xs[k])[r]? := by
          intro xs
          induction xs with
          | nil => intro k r _ hk; simp at hk
          | cons y ys ih =>
            intro k r hr hk
            cases k with
            | zero =>
              simp only [Nat.zero_mul, Nat.zero_add, List.flatMap_cons, List.getElem_cons_zero]
              rw [List.getElem?_append_left (by rw [hn]; exact hr)]
            | succ k =>
              rw [List.flatMap_cons, List.getElem?_append_right (by rw [hn, Nat.succ_mul]; omega), hn, Nat.succ_mul]
              have := ih k r hr (by simpa using hk)
              simp only [List.getElem_cons_succ]
              rw [<- this]
              congr 1
              omega
        have := key xs (j / n) (j % n) (Nat.mod_lt _ hpos) hk
        rw [<- this, Nat.div_add_mod' j n]
        exact hu
      have h3 := hca (j % n) u hu'
      rw [Deep.add_add] at h3
      rwa [show (TyR.flat n cells hn).n = n from rfl, Nat.div_add_mod' j n] at h3
end
section
variable {P : Program} {w : World} {G : Nat -> Prop} {ρ : Nat -> Value} {F : List Fact} {p : Plan} {i : Nat}
theorem c9q {o : Oper} {dd : Tmp} {v : Value} {Φ : Value -> World -> Prop} (hd : o.dst = some dd) (hF : F[i]? = some (dd, Φ)) (h : YV P (ev ρ) w o v) (hΦ : Φ v w) :
    n9 P o (ev ρ) w fun v w' => Ext (if p.mu.contains i then G else noG) w w' /\ a3b F i (a5m ρ o.dst v) w' := by
  unfold n9
  rw [h]
  refine ⟨Ext.refl _ _, ?_⟩
  unfold a3b
  rw [hF, hd]
  show Φ (upd ρ dd v dd) w
  rw [a3f]
  exact hΦ
theorem c15 {α : Type} {B : Nat} {t ty E : TypeId} {n bytes : Nat} {cells : α -> List Value} {s x : Operand} {v xv : Value} {l xs r : List α} {ps : String} {af : Array Edge} {g : Option (Nat × Bool)} {dd : Tmp} {w0 : World}
    {Φ : Value -> World -> Prop} (hF : F[i]? = some (dd, Φ)) (hm : p.mu.contains i = true) (hG : ∀ b, v.ownBlock = some b -> G b) (hs : ev ρ s = v) (hxv : ev ρ x = xv)
    (hn : ∀ x, (cells x).length = n) (h1 : ∀ x, ∀ u ∈ cells x, u.oneCell' = true)
    (ht : P.underlying t = some (.slice E)) (hi : (P.info? E).map (fun i => (i.zero.map (·.cells.size), i.size, i.bytes)) = some (some n, n, bytes)) (hpos : 0 < n) (hbpos : 0 < bytes)
    (hown : Own B E n cells w v l) (hx : ∃ G, d5 (TyR.flat n cells hn) G w xv xs) (hb : a6y bytes l xs = some r) (hB : B <= w.heap.size) (hw0 : w0.heap.size <= w.heap.size)
    (hΦ : ∀ v' w', Own B E n cells w' v' r -> (∀ b, v'.ownBlock = some b -> v.ownBlock = some b \/ w0.heap.size <= b) -> Φ v' w') :
    n9 P ⟨some dd, .call ⟨.builtin .append, #[s, x], #[t, t]⟩, ty, ps, af, g⟩ (ev ρ) w fun v w' => Ext (if p.mu.contains i then G else noG) w w' /\ a3b F i (a5m ρ (some dd) v) w' := by
  obtain ⟨hbb, hrr⟩ := b4w hb
  obtain ⟨v', w', hr, ho, hE, hfr⟩ := b22 (P := P) (ty := ty) hn h1 ht hi hpos hbpos hown hx hbb hB
  have hrun : (execOp (ev ρ) ⟨some dd, .call ⟨.builtin .append, #[s, x], #[t, t]⟩, ty, ps, af, g⟩).run P w = .ok (.value v') w' := by
    simp [execOp, resolve, invoke, builtin, hs, hxv, hr]
  unfold n9
  rw [hrun, hm, if_pos rfl]
  refine ⟨hE.mono hG, ?_⟩
  unfold a3b
  rw [hF]
  show Φ (upd ρ dd v' dd) w'
  rw [a3f]
  exact hΦ v' w' (hrr ▸ ho) (fun b hb => (hfr b hb).imp id (fun hh => Nat.le_trans hw0 hh))
theorem b6u {o : Oper} {dd : Tmp} {E : TypeId} {k : Nat} {cs : List Value} {w0 : World} (hd : o.dst = some dd)
    (hF : F[i]? = some (dd, fun u w' => ∃ b, u = .slice (some ⟨b, 0, none⟩) k k /\ w0.heap.size <= b /\ Mb w' b E cs))
    (h0 : Ext G w0 w) (h : (execOp (ev ρ) o).run P w = .ok (.value (.slice (some ⟨w.heap.size, 0, none⟩) k k)) (w.alloc (.cells cs.toArray E))) :
    n9 P o (ev ρ) w fun v w' => Ext (if p.mu.contains i then G else noG) w w' /\ a3b F i (a5m ρ o.dst v) w' := by
  unfold n9
  rw [h]
  refine ⟨Ext.alloc _ _ _, ?_⟩
  unfold a3b
  rw [hF, hd]
  exact ⟨_, a3f _ _ _, h0.size, Mb.alloc w E cs⟩
theorem b30 {η : Operand -> Value} {d : Option Tmp} {ty : TypeId} {ps : String} {af : Array Edge} {g : Option (Nat × Bool)} {T : TypeId} {k : Nat} {parts : Array (Nat × Operand)} {vs : Array (Nat × Value)} {u : Value} {w' : World}
    (hp : (parts.map fun (i, x) => (i, η x)) = vs) (h : (Instr.buildSlice T k vs).run P w = .ok u w') : (execOp η ⟨d, .buildSlice T k parts, ty, ps, af, g⟩).run P w = .ok (.value u) w' := by
  subst hp
  simp only [execOp, Sem.run_bind, h, Result.andThen_ok, Sem.run_pure]
end
theorem Mb.rep {α : Type} {n : Nat} {cells : α -> List Value} {hn : ∀ x, (cells x).length = n} {w : World} {b : Nat} {E : TypeId} {l : List α} {k : Nat} {G : Nat -> Prop} (h : Mb w b E (l.flatMap cells)) (hk : l.length = k) (hm : k <= maxLen) (hG : ¬ G b) :
    d5 (TyR.flat n cells hn) G w (.slice (some ⟨b, 0, none⟩) k k) l := by
  subst hk
  refine .inr ⟨⟨b, 0, none⟩, l.length, rfl, Nat.le_refl _, hm, fun i x hx => ⟨cells x, rfl, h.lt, hG, ?_⟩⟩
  have h1 := CA.elem n hn h.ca (i := (i : Int)) (x := x) (by unfold m7; rw [if_pos (Int.natCast_nonneg i)]; simpa using hx)
  rw [Int.toNat_natCast] at h1; exact h1
theorem Mb.own {α : Type} {B n : Nat} {cells : α -> List Value} {w : World} {b : Nat} {E : TypeId} {l : List α} {k : Nat} (h : Mb w b E (l.flatMap cells)) (hB : B <= b) (hk : l.length = k) (hm : k <= maxLen) (hn : ∀ x, (cells x).length = n) :
    Own B E n cells w (.slice (some ⟨b, 0, none⟩) k k) l := by
  subst hk
  refine .inr ⟨b, 0, l.length, _, rfl, hB, h, Nat.le_refl _, hm, by simp [m5 hn], ?_⟩
  have e : l.length * n = (l.flatMap cells).length := (m5 hn l).symm
  rw [e, List.toList_toArray, List.drop_zero, List.take_length]
def a3a {α : Type} (l : List α) (lo hi : Int) : Option (List α) := if 0 <= lo /\ lo <= hi /\ hi <= (l.length : Int) then some ((l.drop lo.toNat).take (hi.toNat - lo.toNat)) else none
theorem a8g {α : Type} {l r : List α} {lo hi : Int} (h : a3a l lo hi = some r) : 0 <= lo /\ lo <= hi /\ hi <= (l.length : Int) /\ r = (l.drop lo.toNat).take (hi.toNat - lo.toNat) := by
  unfold a3a at h
  split at h
  . rename_i hc; exact ⟨hc.1, hc.2.1, hc.2.2, (Option.some.inj h).symm⟩
  . cases h
theorem d5.cut {α : Type} {R : TyR α} {G : Nat -> Prop} {w : World} {v : Value} {l r : List α} {lo hi : Int} (h : d5 R G w v l) (hs : a3a l lo hi = some r) :
    ∃ a cap, v = .slice a l.length cap /\ hi.toNat <= cap /\ d5 R G w (.slice (if cap = lo.toNat then a else a.map (·.add (lo.toNat * R.n))) (hi.toNat - lo.toNat) (cap - lo.toNat)) r := by
  obtain ⟨h0, h1, h2, hr⟩ := a8g hs
  have hlen : r.length = hi.toNat - lo.toNat := by
    rw [hr, List.length_take, List.length_drop]; omega
  rcases h with ⟨hv, rfl⟩ | ⟨a, cap, hv, hc, hm, hi'⟩
  . refine ⟨none, 0, hv, by simp at h2; omega, .inl ⟨?_, by simpa using hr⟩⟩
    have e1 : lo.toNat = 0 := by simp at h2; omega
    have e2 : hi.toNat = 0 := by simp at h2; omega
    simp [e1, e2]
  . refine ⟨some a, cap, hv, by omega, .inr ?_⟩
    by_cases hz : cap = lo.toNat
    . refine ⟨a, cap - lo.toNat, by rw [if_pos hz, hlen], by omega, by omega, fun i x hx => ?_⟩
      have : r = [] := List.length_eq_zero_iff.1 (by omega)
      rw [this] at hx; simp at hx
    . refine ⟨a.add (lo.toNat * R.n), cap - lo.toNat, by rw [if_neg hz, hlen]; rfl, by omega, by omega, fun i x hx => ?_⟩
      rw [hr, List.getElem?_take] at hx
      split at hx
      . rw [List.getElem?_drop] at hx
        obtain ⟨cs, h3, h4, h5, h6⟩ := hi' _ _ hx
        refine ⟨cs, h3, by rw [a1x]; exact h4, by rw [a1x]; exact h5, ?_⟩
        rw [Deep.add_add, <- Nat.add_mul]; exact h6
      . cases hx
section
variable {P : Program} {w : World} {α : Type} {R : TyR α} {G : Nat -> Prop} {v : Value} {l r : List α} {t e : TypeId}
theorem d5k {lo hi : Option Value} {i j : Int} (ht : P.underlying t = some (.slice e)) (he : (P.info? e).map (·.size) = some R.n) (h : d5 R G w v l) (hs : a3a l i j = some r)
    (hlo : (lo = none /\ i = 0) \/ lo = some (.int .i64 i)) (hhi : (hi = none /\ j = (l.length : Int)) \/ hi = some (.int .i64 j)) :
    ∃ u, (Instr.sliceAt t v lo hi none).run P w = .ok u w /\ d5 R G w u r := by
  obtain ⟨a, cap, hv, hcap, hrep⟩ := h.cut hs
  obtain ⟨h0, h1, h2, _⟩ := a8g hs
  refine ⟨_, ?_, hrep⟩
  cases hinfo : P.info? e with
  | none => simp [hinfo] at he
  | some q =>
    simp only [hinfo, Option.map_some, Option.some.injEq] at he
    subst hv
    have hj : (0 <= j /\ j <= (cap : Int)) := by omega
    have hij : (0 <= i /\ i <= (j.toNat : Int)) := by omega
    rcases hlo with ⟨rfl, rfl⟩ | rfl <;> rcases hhi with ⟨rfl, hl⟩ | rfl
    . have e1 : j.toNat = l.length := by omega
      simp [Instr.sliceAt, Instr.slice, run_underlying ht, Instr.sliceBounds, sizeOf, typeInfo, hinfo, e1]
    . simp [Instr.sliceAt, Instr.slice, run_underlying ht, Instr.sliceBounds, Instr.sliceBound, asIntOf, hj, sizeOf, typeInfo, hinfo]
    . have e1 : j.toNat = l.length := by omega
      rw [e1] at hij
      simp [Instr.sliceAt, Instr.slice, run_underlying ht, Instr.sliceBounds, Instr.sliceBound, asIntOf, hij, sizeOf, typeInfo, hinfo, he, e1]
    . simp [Instr.sliceAt, Instr.slice, run_underlying ht, Instr.sliceBounds, Instr.sliceBound, asIntOf, hj, hij, sizeOf, typeInfo, hinfo, he]
      omega
end
end Go.PL
namespace Go.PL
open Go
def d39 (k : IntKind) (a b : Int) : Int := k.wrap (BitVec.ofInt k.bits a &&& BitVec.ofInt k.bits b).toNat
def orK (k : IntKind) (a b : Int) : Int := k.wrap (BitVec.ofInt k.bits a ||| BitVec.ofInt k.bits b).toNat
def d96 (k : IntKind) (a b : Int) : Int := k.wrap (BitVec.ofInt k.bits a ^^^ BitVec.ofInt k.bits b).toNat
def d8k (k : IntKind) (a b : Int) : Int := k.wrap (a * 2 ^ (min b.toNat k.bits))
def d69 (k : IntKind) (a b : Int) : Int := a.fdiv (2 ^ (min b.toNat k.bits))
def d6a (k : IntKind) (a b : Int) : Option Int := if b < 0 then none else some (d8k k a b)
def c5u (k : IntKind) (a b : Int) : Option Int := if b < 0 then none else some (d69 k a b)
theorem b9s {k : IntKind} {a b c : Int} (h : d6a k a b = some c) : ¬ b < 0 /\ d8k k a b = c := by
  unfold d6a at h; split at h
  . cases h
  . exact ⟨by assumption, Option.some.inj h⟩
theorem b9g {k : IntKind} {a b c : Int} (h : c5u k a b = some c) : ¬ b < 0 /\ d69 k a b = c := by
  unfold c5u at h; split at h
  . cases h
  . exact ⟨by assumption, Option.some.inj h⟩
def a8p (s : ByteArray) (i : Int) : Option Int := if 0 <= i then (s[i.toNat]?).map (fun b => (b.toNat : Int)) else none
section
variable {P : Program} {η : Operand -> Value} {w : World} {d : Option Tmp} {ty : TypeId} {ps : String} {af : Array Edge} {g : Option (Nat × Bool)} {x y z : Operand} {v u : Value} {t t' : TypeId} {k k2 : IntKind} {a b c : Int} {q : Bool}
theorem d9b (hx : η x = .int k a) (hy : η y = .int k b) (h : d39 k a b = c) : YV P η w ⟨d, .binOp .and t x y t', ty, ps, af, g⟩ (.int k c) := by
  subst h; simp [YV, execOp, hx, hy, eqGuard, binOp, Op.intBits, d39]
theorem o_or (hx : η x = .int k a) (hy : η y = .int k b) (h : orK k a b = c) : YV P η w ⟨d, .binOp .or t x y t', ty, ps, af, g⟩ (.int k c) := by
  subst h; simp [YV, execOp, hx, hy, eqGuard, binOp, Op.intBits, orK]
theorem d9y (hx : η x = .int k a) (hy : η y = .int k b) (h : d96 k a b = c) : YV P η w ⟨d, .binOp .xor t x y t', ty, ps, af, g⟩ (.int k c) := by
  subst h; simp [YV, execOp, hx, hy, eqGuard, binOp, Op.intBits, d96]
theorem d91 (hx : η x = .int k a) (hy : η y = .int k2 b) (h0 : ¬ b < 0) (h : d8k k a b = c) : YV P η w ⟨d, .binOp .shl t x y t', ty, ps, af, g⟩ (.int k c) := by
  subst h; simp [YV, execOp, hx, hy, eqGuard, binOp, Op.shift, h0, d8k]
theorem d9s (hx : η x = .int k a) (hy : η y = .int k2 b) (h0 : ¬ b < 0) (h : d69 k a b = c) : YV P η w ⟨d, .binOp .shr t x y t', ty, ps, af, g⟩ (.int k c) := by
  subst h; simp [YV, execOp, hx, hy, eqGuard, binOp, Op.shift, h0, d69]
theorem d42 {s : ByteArray} (hx : η x = .string s) (hy : η y = .int k2 b) (ht : P.underlying t = some .string) (h : a8p s b = some c) : YV P η w ⟨d, .index t x y, ty, ps, af, g⟩ (.int .u8 c) := by
  unfold a8p at h
  split at h
  . rename_i h0
    obtain ⟨r, hr, hrc⟩ := Option.map_eq_some_iff.1 h
    subst hrc
    simp [YV, execOp, hx, hy, Instr.index, asIntOf, run_underlying ht, h0, hr]
  . cases h
theorem d8s {xs ys : Array Value} {r : Bool} (hx : η x = .agg xs) (hy : η y = .agg ys) (hm : P.eqGuardType P.depth t = false) (h : (Op.equalIn 10000 t (.agg xs) (.agg ys)).run P w = .ok r w) (hq : r = q) :
    YV P η w ⟨d, .binOp .eql t x y t', ty, ps, af, g⟩ (.bool q) := by
  subst hq
  simp only [YV, execOp, hx, hy, Sem.run_bind, run_eqGuard_agg w .eql t x y xs ys hm, Result.andThen_ok, run_eql_struct w t xs ys, h, Sem.run_pure]
theorem d90 {xs ys : Array Value} {r : Bool} (hx : η x = .agg xs) (hy : η y = .agg ys) (hm : P.eqGuardType P.depth t = false) (h : (Op.equalIn 10000 t (.agg xs) (.agg ys)).run P w = .ok r w) (hq : (!r) = q) :
    YV P η w ⟨d, .binOp .neq t x y t', ty, ps, af, g⟩ (.bool q) := by
  subst hq
  simp only [YV, execOp, hx, hy, Sem.run_bind, run_eqGuard_agg w .neq t x y xs ys hm, Result.andThen_ok, run_neq_struct w t xs ys, h, Sem.run_pure]
theorem d6u {p r : Bool} (hx : η x = .bool p) (hy : η y = .bool r) (ht : P.underlying t = some .bool) (h : (p == r) = q) : YV P η w ⟨d, .binOp .eql t x y t', ty, ps, af, g⟩ (.bool q) := by
  subst h; simp [YV, execOp, hx, hy, eqGuard, binOp, run_equal_bool w t p r ht]
theorem d6h {p r : Bool} (hx : η x = .bool p) (hy : η y = .bool r) (ht : P.underlying t = some .bool) (h : (p != r) = q) : YV P η w ⟨d, .binOp .neq t x y t', ty, ps, af, g⟩ (.bool q) := by
  subst h; simp [YV, execOp, hx, hy, eqGuard, binOp, run_equal_bool w t p r ht]; cases p <;> cases r <;> rfl
theorem b6f {fn : Fn} {cap : Array Operand} {cs : Array Value} (h : cap.map η = cs) : YV P η w ⟨d, .makeFunc fn #[] cap, ty, ps, af, g⟩ (.func fn #[] cs) := by
  subst h; simp [YV, execOp, Instr.makeFunc]
end
theorem d4y {P : Program} {w : World} {d : Nat} {xs ys : Array Value} {l : List Field} (hl : l.isEmpty = true) : (Op.eqFields d xs ys l).run P w = .ok true w := by
  rw [List.isEmpty_iff.1 hl]; simp [Op.eqFields]
theorem d0t {P : Program} {w : World} {d off : Nat} {t : TypeId} {xs ys : Array Value} {l : List Field} {a b : Value} {r s : Bool}
    (hl : l.head?.map (fun f => (f.name != "_", f.type, f.offset)) = some (true, t, off)) (h1 : (part t xs off).run P w = .ok a w) (h2 : (part t ys off).run P w = .ok b w)
    (h3 : (Op.equalIn d t a b).run P w = .ok r w) (h4 : (Op.eqFields d xs ys l.tail).run P w = .ok s w) : (Op.eqFields d xs ys l).run P w = .ok (r && s) w := by
  cases l with
  | nil => simp at hl
  | cons f fs =>
    simp only [List.head?_cons, Option.map_some, Option.some.injEq, Prod.mk.injEq, bne_iff_ne, ne_eq] at hl
    obtain ⟨hn, rfl, rfl⟩ := hl
    simp only [List.tail_cons] at h4
    rw [Op.eqFields]
    simp only [Sem.run_ite, ne_eq, hn, not_false_eq_true, if_true, Sem.run_bind, h1, h2, h3, Result.andThen_ok]
    cases r
    . simp
    . simp [h4]
section
variable {P : Program} {w : World} {G : Nat -> Prop} {ρ : Nat -> Value} {F : List Fact} {p : Plan} {i : Nat}
theorem b9r {o : Oper} {dd : Tmp} {T : TypeId} {cs : List Value} {w0 : World} (hg : o.guard = none) (hd : o.dst = some dd) (hF : F[i]? = some (dd, fun u w' => ∃ b, u = .pointer (some ⟨b, 0, none⟩) /\ w0.heap.size <= b /\ Mb w' b T cs))
    (h0 : Ext G w0 w) (h : (execOp (ev ρ) o).run P w = .ok (.value (.pointer (some ⟨w.heap.size, 0, none⟩))) (w.alloc (.cells cs.toArray T))) :
    o.guard = none /\ n9 P o (ev ρ) w fun v w' => (∀ b, hdV v = some b -> w.heap.size <= b /\ b < w'.heap.size) /\ Ext noG w w' /\ a3b F i (a5m ρ o.dst v) w' := by
  refine ⟨hg, ?_⟩
  unfold n9
  rw [h]
  refine ⟨?_, Ext.alloc _ _ _, ?_⟩
  . intro b hb
    obtain rfl := Option.some.inj hb
    refine ⟨Nat.le_refl _, ?_⟩
    show w.heap.size < (w.heap.push _).size
    simp
  unfold a3b
  rw [hF, hd]
  exact ⟨_, a3f _ _ _, h0.size, Mb.alloc w T cs⟩
theorem b1s.box {G0 : Nat} {t : Nat} {T : TypeId} {cs : List Value} : b1s (t, fun u wz => ∃ b, u = .pointer (some ⟨b, 0, none⟩) /\ G0 <= b /\ Mb wz b T cs) :=
  fun _ _ _ _ hG hE ⟨b, hb, hs, hM⟩ => ⟨b, hb, hs, hM.ext hE (hG b (by rw [hb]; rfl))⟩
end
theorem d43 {v : Value} (h : v.oneCell' = true) : ∀ u ∈ [v], u.oneCell' = true := by
  intro u hu
  rw [List.mem_singleton.1 hu]; exact h
theorem c4h {v : Value} (h : ∃ a n c, v = .slice a n c) : v.oneCell' = true := by
  obtain ⟨_, _, _, rfl⟩ := h; rfl
end Go.PL
namespace Go.PL
open Go
def b01 {α : Type} (l : List α) (i : Int) (x : α) : List α := if 0 <= i then l.set i.toNat x else l
theorem b49 {α : Type} (l : List α) (i : Int) (x : α) : (b01 l i x).length = l.length := by unfold b01; split <;> simp
theorem b3m {α : Type} {cells : α -> List Value} {n : Nat} (hn : ∀ x, (cells x).length = n) (x : α) : ∀ (l : List α) (k : Nat), k < l.length ->
    (l.flatMap cells).take (k * n) ++ cells x ++ (l.flatMap cells).drop (k * n + n) = (l.set k x).flatMap cells
  | [], k, h => by simp at h
  | y :: r, 0, _ => by
    have h0 : (cells y ++ r.flatMap cells).drop n = r.flatMap cells := by rw [<- hn y, List.drop_left]
    simp [h0]
  | y :: r, k + 1, h => by
    have ih := b3m hn x r k (by simpa using h)
    have e1 : (k + 1) * n = (cells y).length + k * n := by rw [hn, Nat.succ_mul, Nat.add_comm]
    rw [List.flatMap_cons, List.set_cons_succ, List.flatMap_cons, <- ih, e1, List.take_length_add_append, Nat.add_assoc, List.drop_length_add_append]
    simp
theorem b9u {α : Type} {cells : α -> List Value} {n : Nat} (hn : ∀ x, (cells x).length = n) {l : List α} {i : Int} {x y : α} (h : m7 l i = some y) {vs : List Value} (hvs : vs = cells x) :
    (l.flatMap cells).take (i.toNat * n) ++ vs ++ (l.flatMap cells).drop (i.toNat * n + vs.length) = (b01 l i x).flatMap cells := by
  obtain ⟨h0, h1, _⟩ := a8a h
  subst hvs
  rw [hn, b01, if_pos h0]
  exact b3m hn x l _ (by omega)
section
variable {P : Program} {w : World} {G : Nat -> Prop} {ρ : Nat -> Value} {F : List Fact} {p : Plan} {i : Nat}
theorem a2b {a : Addr} : ∀ (vs : List Value) (k j : Nat), (storeCells (a.add k) vs j).run P w = (storeCells a vs (k + j)).run P w := by
  intro vs
  induction vs generalizing w with
  | nil => intro k j; simp [storeCells]
  | cons v r ih =>
    intro k j
    simp only [storeCells, Sem.run_bind, Deep.add_add]
    congr 1
    funext u w'
    rw [ih k (j + 1), Nat.add_assoc]
theorem a9t {t : TypeId} {x y : Operand} {ty : TypeId} {ps : String} {af : Array Edge} {g : Option (Nat × Bool)} {dd b k : Nat} {T : TypeId} {a : Addr} {vs cs cs0 : List Value} {v : Value}
    (hF : F[i]? = some (dd, fun _ w' => Mb w' b T cs)) (hm : p.mu.contains i = true) (hG : ∀ x, x = b -> G x)
    (hx : ev ρ x = .pointer (some a)) (ha : a = (⟨b, 0, none⟩ : Addr).add k) (hy : ev ρ y = v) (hM : Mb w b T cs0)
    (hst : ∀ (a : Addr) (w : World), (Instr.storeAt t (.pointer (some a)) v).run P w = (storeCells a vs).run P w) (hk : k + vs.length <= cs0.length) (hcs : cs0.take k ++ vs ++ cs0.drop (k + vs.length) = cs) (h1 : ∀ u ∈ vs, u.oneCell' = true) :
    n9 P ⟨none, .store t x y, ty, ps, af, g⟩ (ev ρ) w fun v w' => Ext (if p.mu.contains i then G else noG) w w' /\ a3b F i (a5m ρ none v) w' := by
  obtain ⟨w', hr, hM', hE⟩ := a16 (P := P) vs k cs0 w hM hk h1
  have hrun : (execOp (ev ρ) ⟨none, .store t x y, ty, ps, af, g⟩).run P w = .ok .skip w' := by
    have h2 := a2b (P := P) (w := w) (a := (⟨b, 0, none⟩ : Addr)) vs k 0
    simp only [Nat.add_zero] at h2
    simp [execOp, hx, hy, hst, ha, h2, hr]
  unfold n9
  rw [hrun, hm, if_pos rfl]
  refine ⟨hE.mono hG, ?_⟩
  unfold a3b
  rw [hF]
  show Mb w' b T cs
  rw [<- hcs]; exact hM'
theorem Own.mb {α : Type} {B : Nat} {E : TypeId} {n : Nat} {cells : α -> List Value} {v : Value} {l : List α} (h : Own B E n cells w v l) {a : Addr} {m c : Nat} (hv : v = .slice (some a) m c) :
    ∃ b o cur, a = ⟨b, o, none⟩ /\ v.ownBlock = some b /\ B <= b /\ Mb w b E cur /\ m = l.length /\ m <= c /\ c <= maxLen /\ o + c * n <= cur.length /\ (cur.drop o).take (l.length * n) = l.flatMap cells := by
  rcases h with ⟨h1, _⟩ | ⟨g, off, cap, cur, h1, hg, hh, hc, hm, hs, ht⟩
  . rw [h1] at hv; cases hv
  . rw [h1] at hv
    simp only [Value.slice.injEq, Option.some.injEq] at hv
    obtain ⟨rfl, rfl, rfl⟩ := hv
    refine ⟨g, off, cur.toList, rfl, by rw [h1]; rfl, hg, ?_, rfl, hc, hm, by simpa using hs, ht⟩
    simpa [Mb] using hh
theorem b1n {α : Type} {B : Nat} {E : TypeId} {n off : Nat} {cells : α -> List Value} {t : TypeId} {x y : Operand} {ty : TypeId} {ps : String} {af : Array Edge} {g : Option (Nat × Bool)} {dd m c : Nat} {a a0 : Addr} {vs : List Value} {v v0 : Value} {l : List α} {j : Int} {y0 y1 : α}
    (hF : F[i]? = some (dd, fun _ w' => Own B E n cells w' v0 (b01 l j y1))) (hm : p.mu.contains i = true) (hG : ∀ b, v0.ownBlock = some b -> G b)
    (hn : ∀ x, (cells x).length = n) (hx : ev ρ x = .pointer (some a)) (hv : v0 = .slice (some a0) m c) (ha : a = a0.add (j.toNat * n + off)) (hy : ev ρ y = v) (hO : Own B E n cells w v0 l) (hj : m7 l j = some y0)
    (hst : ∀ (a : Addr) (w : World), (Instr.storeAt t (.pointer (some a)) v).run P w = (storeCells a vs).run P w) (hle : off + vs.length <= n) (hcs : (cells y0).take off ++ vs ++ (cells y0).drop (off + vs.length) = cells y1) (h1 : ∀ u ∈ vs, u.oneCell' = true) :
    n9 P ⟨none, .store t x y, ty, ps, af, g⟩ (ev ρ) w fun v w' => Ext (if p.mu.contains i then G else noG) w w' /\ a3b F i (a5m ρ none v) w' := by
  obtain ⟨b, o, cur0, rfl, hob, hB, hM, hml, hmc, hcm, hlen0, htake⟩ := hO.mb hv
  obtain ⟨cur, hcur0⟩ : ∃ cur, cur = cur0.drop o := ⟨_, rfl⟩
  rw [<- hcur0] at htake
  have hlen : c * n <= cur.length := by rw [hcur0, List.length_drop]; omega
  obtain ⟨h0, hlt, hget⟩ := a8a hj
  have hjn : j.toNat * n + n <= l.length * n := by
    rw [<- Nat.succ_mul]; exact Nat.mul_le_mul_right n (by omega)
  have hln : l.length * n <= cur.length := Nat.le_trans (Nat.mul_le_mul_right n (by omega)) hlen
  have hcl : cur.length = cur0.length - o := by rw [hcur0, List.length_drop]
  have hopos : o + cur.length = cur0.length := by
    have : l.length * n + o <= cur0.length := by
      have := Nat.mul_le_mul_right n (show l.length <= c by omega)
      omega
    omega
  obtain ⟨w', hr, hM', hE⟩ := a16 (P := P) vs (o + (j.toNat * n + off)) cur0 w hM (by omega) h1
  have hrun : (execOp (ev ρ) ⟨none, .store t x y, ty, ps, af, g⟩).run P w = .ok .skip w' := by
    have h2 := a2b (P := P) (w := w) (a := (⟨b, 0, none⟩ : Addr)) vs (o + (j.toNat * n + off)) 0
    simp only [Nat.add_zero] at h2
    have h3 : (⟨b, o, none⟩ : Addr).add (j.toNat * n + off) = (⟨b, 0, none⟩ : Addr).add (o + (j.toNat * n + off)) := by rw [Addr.add_lit, Addr.add_lit, Nat.zero_add]
    simp [execOp, hx, hy, hst, ha, h3, h2, hr]
  unfold n9
  rw [hrun, hm, if_pos rfl]
  refine ⟨hE.mono (fun c hc => hG c (by rw [hc]; exact hob)), ?_⟩
  unfold a3b
  rw [hF]
  show Own B E n cells w' v0 (b01 l j y1)
  have hcur : cur = l.flatMap cells ++ cur.drop (l.length * n) := by rw [<- htake, List.take_append_drop]
  have hfl : (l.flatMap cells).length = l.length * n := m5 hn l
  have key : cur.take (j.toNat * n + off) ++ vs ++ cur.drop (j.toNat * n + off + vs.length) = (b01 l j y1).flatMap cells ++ cur.drop (l.length * n) := by
    have hset := b9u hn hj (x := y1) rfl
    rw [hn] at hset
    have hel : ((l.flatMap cells).drop (j.toNat * n)).take n = cells y0 := by
      have hsplit : ∀ (l : List α) (k : Nat), l[k]? = some y0 -> ((l.flatMap cells).drop (k * n)).take n = cells y0 := by
        intro l
        induction l with
        | nil => intro k h; simp at h
        | cons z r ih =>
          intro k h
          cases k with
          | zero => simp at h; subst h; simp [<- hn z]
          | succ k =>
            rw [List.flatMap_cons, Nat.succ_mul, Nat.add_comm, <- List.drop_drop, <- hn z, List.drop_left]
            have := ih k (by simpa using h)
            rw [<- hn z] at this; exact this
      exact hsplit l _ hget
    have hmid : (l.flatMap cells).drop (j.toNat * n) = cells y0 ++ (l.flatMap cells).drop (j.toNat * n + n) := by
      rw [<- hel, <- List.drop_drop, List.take_append_drop]
    have e1 : cur.take (j.toNat * n + off) = (l.flatMap cells).take (j.toNat * n) ++ (cells y0).take off := by
      conv => lhs; rw [hcur]
      rw [List.take_append_of_le_length (by omega)]
      rw [List.take_add, hmid, List.take_append_of_le_length (by rw [hn]; omega)]
    have e2 : cur.drop (j.toNat * n + off + vs.length) = (cells y0).drop (off + vs.length) ++ ((l.flatMap cells).drop (j.toNat * n + n) ++ cur.drop (l.length * n)) := by
      conv => lhs; rw [hcur]
      rw [List.drop_append_of_le_length (by omega), Nat.add_assoc, <- List.drop_drop, hmid, List.drop_append_of_le_length (by rw [hn]; omega), List.append_assoc]
    rw [e1, e2, <- hset, <- hcs]
    simp [List.append_assoc]
  have hdrop : (cur0.take (o + (j.toNat * n + off)) ++ vs ++ cur0.drop (o + (j.toNat * n + off) + vs.length)).drop o = cur.take (j.toNat * n + off) ++ vs ++ cur.drop (j.toNat * n + off + vs.length) := by
    have hlo : (cur0.take o).length = o := by rw [List.length_take]; omega
    rw [List.take_add, <- hcur0, Nat.add_assoc, <- List.drop_drop, <- hcur0, List.append_assoc, List.append_assoc]
    conv => lhs; arg 1; rw [<- hlo]
    rw [List.drop_left, List.append_assoc]
  have hsl : (b01 l j y1).length = l.length := b49 l j y1
  refine .inr ⟨b, o, c, _, by rw [hv, hml, hsl], hB, hM', by omega, hcm, ?_, ?_⟩
  . simp only [List.size_toArray, List.length_append, List.length_take, List.length_drop]
    omega
  . show (List.drop o (_ : List Value)).take _ = _
    rw [List.toList_toArray, hdrop, key, hsl, <- hsl, <- m5 hn, List.take_left]
theorem c4p {α : Type} {B : Nat} {E : TypeId} {n : Nat} {cells : α -> List Value} {f : FuncId} {xs : Array Operand} {tys : Array TypeId} {ty : TypeId} {ps : String} {af : Array Edge} {g : Option (Nat × Bool)} {dd : Tmp} {v v0 : Value} {l : List α} {args : Array Value}
    (hF : F[i]? = some (dd, fun u w' => u = v /\ Own B E n cells w' v0 l)) (hm : p.mu.contains i = true) (hG : ∀ b, v0.ownBlock = some b -> G b) (hargs : xs.map (ev ρ) = args) (hcf : ∀ (args : Array Value) (w : World), (callFunc f args).run P w = .ok (.enter f args) w)
    (hc : Calls P f args w fun e w' => e = .returned v /\ Ext (fun b => v0.ownBlock = some b) w w' /\ Own B E n cells w' v0 l) :
    n9 P ⟨some dd, .call ⟨.value (.func f), xs, tys⟩, ty, ps, af, g⟩ (ev ρ) w fun v w' => Ext (if p.mu.contains i then G else noG) w w' /\ a3b F i (a5m ρ (some dd) v) w' := by
  have hr : (execOp (ev ρ) ⟨some dd, .call ⟨.value (.func f), xs, tys⟩, ty, ps, af, g⟩).run P w = .ok (.enter f args) w := by
    simp [execOp, resolve, ev, Deferred.ofValue, invoke, hargs, hcf]
  unfold n9
  rw [hr, hm, if_pos rfl]
  refine hc.mono (fun e w' ⟨he, hE, hO⟩ => ⟨v, he, hE.mono hG, ?_⟩)
  unfold a3b
  rw [hF]
  exact ⟨a3f _ _ _, hO⟩
end
end Go.PL
namespace Go.PL
open Go
def gv (c : Bool) (v : Value) : Value := if c = true then v else undef
theorem gt {c : Bool} {x v : Value} (hc : c = true) (h : x = gv c v) : x = v := by rw [h, gv, if_pos hc]
section
variable {ops : List Oper} {ρ : Nat -> Value} {g dg : Nat} {e c0 : Bool}
theorem yT (hd : (ops[g]?).bind (·.dst) = some dg) (hu : ρ dg = .bool e) : yl ops ρ g = some true ↔ e = true := by
  unfold yl; rw [hd]; simp [hu]
end
section
variable {P : Program} {w : World} {G : Nat -> Prop} {ops : List Oper} {ρ : Nat -> Value} {F : List Fact} {p : Plan} {i : Nat} {o : Oper} {g dd : Nat} {want c : Bool} {v : Value}
theorem gIf (ho : o.dst = some dd) (hF : F[i]? = some (val dd (gv c v))) (hy : yl ops ρ g = some want ↔ c = true)
    (h : c = true -> ∀ F' : List Fact, F'[i]? = some (val dd v) -> n9 P o (ev ρ) w fun u w' => Ext (if p.mu.contains i then G else noG) w w' /\ a3b F' i (a5m ρ o.dst u) w') :
    (yl ops ρ g = some want -> n9 P o (ev ρ) w fun u w' => Ext (if p.mu.contains i then G else noG) w w' /\ a3b F i (a5m ρ o.dst u) w') /\ (yl ops ρ g ≠ some want -> a3b F i (a5m ρ o.dst undef) w) := by
  refine ⟨fun hh => ?_, fun hh => ?_⟩
  . have hc := hy.1 hh
    refine (h hc (List.replicate (i + 1) (val dd v)) (by simp)).mono (fun u w' ⟨h1, h2⟩ => ⟨h1, ?_⟩)
    unfold a3b at h2 ⊢
    rw [hF]
    rw [show (List.replicate (i + 1) (val dd v))[i]? = some (val dd v) by simp] at h2
    show a5m ρ o.dst u dd = gv c v
    rw [gv, if_pos hc]
    exact h2
  . have hc : ¬ c = true := fun hc => hh (hy.2 hc)
    unfold a3b
    rw [hF, ho]
    show upd ρ dd undef dd = gv c v
    rw [gv, if_neg hc]
    exact a3f _ _ _
end
section
variable {P : Program} {η : Operand -> Value} {w : World} {d : Option Tmp} {ty : TypeId} {ps : String} {af : Array Edge} {g : Option (Nat × Bool)} {x y z : Operand} {e q : Bool}
theorem c59 (hx : η x = .bool e) (hy : η y = gv e (.bool q)) (hz : η z = .bool false) : YV P η w ⟨d, .pick x y z, ty, ps, af, g⟩ (.bool (e && q)) := by
  cases e <;> simp [YV, execOp, hx, hy, hz, asBool, gv]
end
section
variable {α : Type} [Inhabited α] {b c q p : Bool} {o : Option α} {f : α -> Option Bool}
theorem andB (h : (if b = true then Option.bind o f else some false) = some c) : ∃ z, (b = true -> o = some z) /\ (if b = true then f z else some false) = some c := by
  cases b with
  | false => exact ⟨default, fun h => absurd h (by decide), by simpa using h⟩
  | true =>
    obtain ⟨z, h1, h2⟩ := b12 (show o.bind f = some c by simpa using h)
    exact ⟨z, fun _ => h1, by simpa using h2⟩
end
section
variable {b c q p : Bool}
theorem andE (h : (if b = true then some q else some false) = some c) : (b && q) = c := by cases b <;> simpa using h
end
theorem d5.getFI {α : Type} {n : Nat} {cells : α -> List Value} {hn : ∀ x, (cells x).length = n} {G : Nat -> Prop} {w : World} {v : Value} {l : List α} {p : Bool} (h : d5 (TyR.flat n cells hn) G w v l) {i : Int} {x : α} (hx : p = true -> m7 l i = some x) :
    ∃ a cap, (p = true -> v = .slice (some a) l.length cap) /\ (p = true -> 0 <= i /\ i < (l.length : Int)) /\ (p = true -> At w (a.add (i.toNat * n)) (cells x)) := by
  cases p with
  | false => exact ⟨⟨0, 0, none⟩, 0, fun h => absurd h (by decide), fun h => absurd h (by decide), fun h => absurd h (by decide)⟩
  | true =>
    obtain ⟨a, cap, h1, h2, h3⟩ := h.getF (hx rfl)
    exact ⟨a, cap, fun _ => h1, fun _ => h2, fun _ => h3⟩
theorem sV {G : Nat -> Prop} {t : Nat} {v : Value} : c28 G (val t v) := fun _ _ _ _ h => h
def b00 (l : List (Nat × Value)) : List Fact := l.map fun p => val p.1 p.2
theorem b5a {G : Nat -> Prop} {p : Plan} : ∀ (l : List (Nat × Value)) (k : Nat), a8i G p k (b00 l)
  | [], _ => trivial
  | _ :: r, k => ⟨sV, b5a r (k + 1)⟩
section
variable {P : Program} {ops : List Oper} {n : Nat} {Q : Exit -> (Nat -> Value) -> World -> Prop} {ρ : Nat -> Value} {w : World} {id : Nat} {draw : Bool}
theorem WP.rg (hm : P.follows .mixedOrders = true) (B U E : List (List Nat)) (F : List Fact) (hok : (Plan.plain B U E [] []).ok ops n (F.map (·.1)) = true) (hst : a8i noG (.plain B U E [] []) 0 F)
    (hobs : d2a P ops noG ρ w F (.plain B U E [] []) 0 ops)
    (hQ : ∀ ρ' w', Ext noG w w' -> (∀ i, decide (i < ops.length) = true -> a3b F i ρ' w') -> (∀ t, (ops.all fun o => o.dst != some t) = true -> ρ' t = ρ t) -> Q .normal ρ' w') : WP P n (.region id ops.toArray draw) Q ρ w :=
  WP.region hm B U E [] [] F noG hok hst hobs fun ρ' w' _ hN hf hr => hQ ρ' w' (hN rfl) (fun i hi => hf i (by simpa [Plan.plain, Plan.dies] using hi)) hr
theorem WP.rv (hm : P.follows .mixedOrders = true) (B U E : List (List Nat)) (L : List (Nat × Value)) (hok : (Plan.plain B U E [] []).ok ops n ((b00 L).map (·.1)) = true)
    (hobs : d2a P ops noG ρ w (b00 L) (.plain B U E [] []) 0 ops)
    (hQ : ∀ ρ' w', Ext noG w w' -> (∀ i, decide (i < ops.length) = true -> a3b (b00 L) i ρ' w') -> (∀ t, (ops.all fun o => o.dst != some t) = true -> ρ' t = ρ t) -> Q .normal ρ' w') : WP P n (.region id ops.toArray draw) Q ρ w :=
  WP.rg hm B U E (b00 L) hok (b5a L 0) hobs hQ
theorem WP.rb (hm : P.follows .mixedOrders = true) (B E : List (List Nat)) (L : List (Nat × Value)) (hok : (Plan.plain B B E [] []).ok ops n ((b00 L).map (·.1)) = true)
    (hobs : d2a P ops noG ρ w (b00 L) (.plain B B E [] []) 0 ops)
    (hQ : ∀ ρ' w', Ext noG w w' -> (∀ i, decide (i < ops.length) = true -> a3b (b00 L) i ρ' w') -> (∀ t, (ops.all fun o => o.dst != some t) = true -> ρ' t = ρ t) -> Q .normal ρ' w') : WP P n (.region id ops.toArray draw) Q ρ w :=
  WP.rv hm B B E L hok hobs hQ
end
section
variable {ops : List Oper} {ρ ρ' : Nat -> Value} {a b c d e f : Nat} {va vb vc vd ve vf : Value}
theorem k2 (hr : ∀ t, (ops.all fun o => o.dst != some t) = true -> ρ' t = ρ t) (ha : ρ a = va) (hb : ρ b = vb) (h : ([a, b].all fun t => ops.all fun o => o.dst != some t) = true) : ρ' a = va /\ ρ' b = vb := by
  simp only [List.all_cons, List.all_nil, Bool.and_true, Bool.and_eq_true] at h
  exact ⟨(hr a h.1).trans ha, (hr b h.2).trans hb⟩
theorem k3 (hr : ∀ t, (ops.all fun o => o.dst != some t) = true -> ρ' t = ρ t) (ha : ρ a = va) (hb : ρ b = vb) (hc : ρ c = vc) (h : ([a, b, c].all fun t => ops.all fun o => o.dst != some t) = true) : ρ' a = va /\ ρ' b = vb /\ ρ' c = vc := by
  rw [List.all_cons, Bool.and_eq_true] at h
  exact ⟨(hr a h.1).trans ha, k2 hr hb hc h.2⟩
theorem k4 (hr : ∀ t, (ops.all fun o => o.dst != some t) = true -> ρ' t = ρ t) (ha : ρ a = va) (hb : ρ b = vb) (hc : ρ c = vc) (hd : ρ d = vd) (h : ([a, b, c, d].all fun t => ops.all fun o => o.dst != some t) = true) : ρ' a = va /\ ρ' b = vb /\ ρ' c = vc /\ ρ' d = vd := by
  rw [List.all_cons, Bool.and_eq_true] at h
  exact ⟨(hr a h.1).trans ha, k3 hr hb hc hd h.2⟩
theorem k5 (hr : ∀ t, (ops.all fun o => o.dst != some t) = true -> ρ' t = ρ t) (ha : ρ a = va) (hb : ρ b = vb) (hc : ρ c = vc) (hd : ρ d = vd) (he : ρ e = ve) (h : ([a, b, c, d, e].all fun t => ops.all fun o => o.dst != some t) = true) : ρ' a = va /\ ρ' b = vb /\ ρ' c = vc /\ ρ' d = vd /\ ρ' e = ve := by
  rw [List.all_cons, Bool.and_eq_true] at h
  exact ⟨(hr a h.1).trans ha, k4 hr hb hc hd he h.2⟩
theorem k6 (hr : ∀ t, (ops.all fun o => o.dst != some t) = true -> ρ' t = ρ t) (ha : ρ a = va) (hb : ρ b = vb) (hc : ρ c = vc) (hd : ρ d = vd) (he : ρ e = ve) (hf : ρ f = vf) (h : ([a, b, c, d, e, f].all fun t => ops.all fun o => o.dst != some t) = true) : ρ' a = va /\ ρ' b = vb /\ ρ' c = vc /\ ρ' d = vd /\ ρ' e = ve /\ ρ' f = vf := by
  rw [List.all_cons, Bool.and_eq_true] at h
  exact ⟨(hr a h.1).trans ha, k5 hr hb hc hd he hf h.2⟩
end
end Go.PL
namespace Go.PL
open Go
def a1u (a b : ByteArray) : Option ByteArray := if (a.size + b.size : Nat) <= 9223372036854775807 then some (a ++ b) else none
section
variable {P : Program} {η : Operand -> Value} {w : World} {d : Option Tmp} {ty : TypeId} {ps : String} {af : Array Edge} {g : Option (Nat × Bool)} {x y : Operand} {t t' : TypeId} {a b c : ByteArray} {q : Bool}
theorem d80 (hx : η x = .string a) (hy : η y = .string b) (h : (a.toList == b.toList) = q) : YV P η w ⟨d, .binOp .eql t x y t', ty, ps, af, g⟩ (.bool q) := by
  subst h; simp [YV, execOp, hx, hy, eqGuard, binOp, Op.stringOp]
theorem d73 (hx : η x = .string a) (hy : η y = .string b) (h : (a.toList != b.toList) = q) : YV P η w ⟨d, .binOp .neq t x y t', ty, ps, af, g⟩ (.bool q) := by
  subst h; simp [YV, execOp, hx, hy, eqGuard, binOp, Op.stringOp, bne]
theorem d7v (hx : η x = .string a) (hy : η y = .string b) (h : a1u a b = some c) : YV P η w ⟨d, .binOp .add t x y t', ty, ps, af, g⟩ (.string c) := by
  unfold a1u at h
  split at h
  . rename_i hs
    cases h
    have : ¬ (((a.size + b.size : Nat) : Int) > IntKind.i64.max) := by
      have e : IntKind.i64.max = 9223372036854775807 := by decide
      rw [e]; omega
    simp [YV, execOp, hx, hy, eqGuard, binOp, Op.stringOp]
    simp at this
    exact this
  . cases h
end
section
variable {P : Program} {ops : List Oper} {G : Nat -> Prop} {ρ0 : Nat -> Value} {w0 : World} {F : List Fact} {p : Plan} {i d x j : Nat} {v : Value} {ty : TypeId} {ps : String} {af : Array Edge} {y : Operand}
theorem mE (hF : F[i]? = some (val d v)) (hE : p.e i = [x]) (h : ρ0 x = v) : ObO P ops G ρ0 w0 F p i ⟨some d, .move (.tmp x), ty, ps, af, none⟩ := by
  intro ρ w _ _ e _
  rw [hE] at e
  exact c7 rfl hF (b72 (e.1.trans h))
theorem mU (hF : F[i]? = some (val d v)) (hU : p.u i = [j]) (hj : F[j]? = some (val x v)) : ObO P ops G ρ0 w0 F p i ⟨some d, .move (.tmp x), ty, ps, af, none⟩ := by
  intro ρ w _ _ _ u
  rw [hU] at u
  have u : a3b F j ρ w := u.1
  unfold a3b at u
  rw [hj] at u
  exact c7 rfl hF (b72 u)
theorem aU (hF : F[i]? = some (val d v)) (hU : p.u i = [j]) (hj : F[j]? = some (val x v)) : ObO P ops G ρ0 w0 F p i ⟨some d, .assign (.tmp x), ty, ps, af, none⟩ := by
  intro ρ w _ _ _ u
  rw [hU] at u
  have u : a3b F j ρ w := u.1
  unfold a3b at u
  rw [hj] at u
  exact c7 rfl hF (b3d u)
theorem mC (hF : F[i]? = some (val d v)) (h : ev ρ0 y = v) (hc : ∀ ρ, ev ρ y = ev ρ0 y) : ObO P ops G ρ0 w0 F p i ⟨some d, .move y, ty, ps, af, none⟩ := by
  intro ρ w _ _ _ _
  exact c7 rfl hF (b72 ((hc ρ).trans h))
theorem aC (hF : F[i]? = some (val d v)) (h : ev ρ0 y = v) (hc : ∀ ρ, ev ρ y = ev ρ0 y) : ObO P ops G ρ0 w0 F p i ⟨some d, .assign y, ty, ps, af, none⟩ := by
  intro ρ w _ _ _ _
  exact c7 rfl hF (b3d ((hc ρ).trans h))
theorem hv {L : List (Nat × Value)} {n : Nat} {ρ : Nat -> Value} {w : World} (hf : ∀ i, decide (i < n) = true -> a3b (b00 L) i ρ w) (i : Nat) (h : decide (i < n) = true) {t : Nat} {v : Value} (hL : L[i]? = some (t, v)) : ρ t = v := by
  have := hf i h
  unfold a3b b00 at this
  rw [List.getElem?_map, hL] at this
  exact this
end
section
variable {P : Program} {η : Operand -> Value} {w : World} {d : Option Tmp} {ty : TypeId} {ps : String} {af : Array Edge} {g : Option (Nat × Bool)} {x : Operand} {v : Value} {a : Addr} {i : Nat} {r : List (Nat × Operand)} {r' : List (Nat × Value)}
theorem b6g (hx : η x = .pointer (some a)) : YV P η w ⟨d, .nilCheck x, ty, ps, af, g⟩ (.pointer (some a)) := by
  simp [YV, execOp, hx]
end
end Go.PL
namespace Go.PL
open Go
def b61 (u v : Value) (n : Nat) (lo : Int) (len : Nat) : Prop := ∃ (a : Option Addr) (L c : Nat) (a' : Option Addr) (c' : Nat), v = .slice a L c /\ 0 <= lo /\ lo.toNat + len = L /\ u = .slice a' len c' /\ (0 < len -> ∃ b, a = some b /\ a' = some (b.add (lo.toNat * n)))
theorem b61.shape {u v : Value} {n : Nat} {lo : Int} {len : Nat} (h : b61 u v n lo len) : ∃ a c, u = .slice a len c := by
  obtain ⟨_, _, _, a', c', _, _, _, h1, _⟩ := h
  exact ⟨a', c', h1⟩
def c9e {α : Type} (l : List α) (lo i : Int) : Option α := if 0 <= i then m7 l (lo + i) else none
theorem b61.getF {α : Type} {B : Nat} {E : TypeId} {n : Nat} {cells : α -> List Value} {hn : ∀ x, (cells x).length = n} {w : World} {u v : Value} {l : List α} {lo : Int} {len : Nat} (h : b61 u v n lo len) (hO : Own B E n cells w v l) {i : Int} {x : α} (hx : c9e l lo i = some x) :
    ∃ a cap, u = .slice (some a) len cap /\ (0 <= i /\ i < (len : Int)) /\ At w (a.add (i.toNat * n)) (cells x) := by
  unfold c9e at hx
  split at hx
  . rename_i h0
    obtain ⟨a, L, c, a', c', hv, hlo, hL, hu, hp⟩ := h
    obtain ⟨h1, h2, h3⟩ := a8a hx
    obtain ⟨b, cap, hv2, hi2, hA⟩ := d5.getF (Own.rep (hn := hn) (G := noG) hO (fun _ _ h => h)) hx
    rw [hv] at hv2
    simp only [Value.slice.injEq] at hv2
    obtain ⟨rfl, rfl, rfl⟩ := hv2
    have hlt : i < (len : Int) := by omega
    obtain ⟨b', hb, ha'⟩ := hp (by omega)
    cases hb
    refine ⟨b.add (lo.toNat * n), c', by rw [hu, ha'], ⟨h0, hlt⟩, ?_⟩
    rw [Deep.add_add, <- Nat.add_mul]
    have : (lo + i).toNat = lo.toNat + i.toNat := by omega
    rwa [this] at hA
  . cases hx
section
variable {P : Program} {w : World} {G : Nat -> Prop} {ρ : Nat -> Value} {F : List Fact} {p : Plan} {i : Nat} {α : Type} {B : Nat} {E : TypeId} {n : Nat} {cells : α -> List Value} {v : Value} {l r : List α} {t : TypeId} {x lo hi : Operand} {a b : Int}
  {ty : TypeId} {ps : String} {af : Array Edge} {g : Option (Nat × Bool)} {dd : Tmp} {Φ : Value -> World -> Prop}
theorem b2s (hn : ∀ x, (cells x).length = n) : ∀ (l : List α) (k : Nat), (l.flatMap cells).drop (k * n) = (l.drop k).flatMap cells
  | [], k => by simp
  | y :: l, 0 => by simp
  | y :: l, k + 1 => by
    rw [List.flatMap_cons, List.drop_succ_cons, Nat.succ_mul, Nat.add_comm, <- List.drop_drop, <- hn y, List.drop_left, hn y, b2s hn l k]
end
def a6w {α : Type} (z : α) (l : List α) (lo : Int) : List α := l.take lo.toNat ++ List.replicate (l.length - lo.toNat) z
theorem c0q {α : Type} {cells : α -> List Value} {z : α} {zs : Array Value} (hz : zs.toList = cells z) (hp : 0 < zs.size) (m : Nat) : (Builtin.zeroCells zs m).toList = (List.replicate m z).flatMap cells := by
  have hl : (cells z).length = zs.size := by rw [<- hz]; simp
  apply List.ext_getElem?
  intro k
  have key : ∀ (m k : Nat), ((List.replicate m z).flatMap cells)[k]? = if k < m * zs.size then some zs[k % zs.size]! else none := by
    intro m
    induction m with
    | zero => intro k; simp
    | succ m ih =>
      intro k
      rw [List.replicate_succ, List.flatMap_cons]
      by_cases hk : k < zs.size
      . rw [List.getElem?_append_left (by omega), Nat.mod_eq_of_lt hk, if_pos (by rw [Nat.succ_mul]; omega), <- hz]
        simp [hk]
      . rw [List.getElem?_append_right (by omega), hl, ih]
        have e1 : (k - zs.size) % zs.size = k % zs.size := by rw [Nat.mod_eq_sub_mod (by omega : k >= zs.size)]
        rw [e1]
        congr 1
        rw [Nat.succ_mul, eq_iff_iff]; omega
  rw [key]
  unfold Builtin.zeroCells
  simp
  split <;> simp_all
theorem c5h {P : Program} {w : World} {G : Nat -> Prop} {ρ : Nat -> Value} {F : List Fact} {p : Plan} {i : Nat} {α : Type} {B : Nat} {E : TypeId} {n : Nat} {cells : α -> List Value} {v u zv : Value} {l : List α} {z : α} {t : TypeId} {x : Operand} {a : Int} {len : Nat}
    {ty : TypeId} {ps : String} {af : Array Edge} {g : Option (Nat × Bool)} {dd : Nat} (hF : F[i]? = some (dd, fun _ w' => Own B E n cells w' v (a6w z l a))) (hm : p.mu.contains i = true) (hG : ∀ b, v.ownBlock = some b -> G b)
    (hn : ∀ x, (cells x).length = n) (h1 : ∀ x, ∀ u ∈ cells x, u.oneCell' = true) (hn0 : 0 < n) (hx : ev ρ x = u) (ht : P.underlying t = some (.slice E)) (hz : ∀ w, (zeroValue E).run P w = .ok zv w) (hzc : zv.cells.toList = cells z) (hV : b61 u v n a len) (hO : Own B E n cells w v l) :
    n9 P ⟨none, .call ⟨.builtin .clear, #[x], #[t]⟩, ty, ps, af, g⟩ (ev ρ) w fun v w' => Ext (if p.mu.contains i then G else noG) w w' /\ a3b F i (a5m ρ none v) w' := by
  obtain ⟨ad, L, c, a', c', hv, hlo, hL, hu, hp⟩ := hV
  have hLl : L = l.length := by
    obtain ⟨_, _, hv2, _, _⟩ := hO.shape
    rw [hv] at hv2; simp only [Value.slice.injEq] at hv2; exact hv2.2.1
  have hzs : 0 < zv.cells.size := by
    have : zv.cells.toList.length = n := by rw [hzc, hn]
    simp at this; omega
  by_cases hlen : len = 0
  . have hcl : a6w z l a = l := by unfold a6w; rw [show l.length - a.toNat = 0 by omega, List.take_of_length_le (by omega)]; simp
    have hrun : (execOp (ev ρ) ⟨none, .call ⟨.builtin .clear, #[x], #[t]⟩, ty, ps, af, g⟩).run P w = .ok (.value (.tuple #[])) w := by
      subst hlen
      cases a' <;> simp [execOp, resolve, invoke, builtin, hx, hu, Builtin.clear_, run_underlying ht]
    unfold n9
    rw [hrun]
    refine ⟨Ext.refl _ _, ?_⟩
    unfold a3b
    rw [hF, hcl]
    exact hO
  . obtain ⟨b', hb, ha'⟩ := hp (by omega)
    subst hb; subst ha'
    obtain ⟨b, o, cur0, rfl, hob, hB, hM, hml, hmc, hcm, hcl0, htake⟩ := hO.mb hv
    obtain ⟨cur, hcur0⟩ : ∃ cur, cur = cur0.drop o := ⟨_, rfl⟩
    rw [<- hcur0] at htake
    have hcl : c * n <= cur.length := by rw [hcur0, List.length_drop]; omega
    have hfl : (l.flatMap cells).length = l.length * n := m5 hn l
    have hvl : ((List.replicate len z).flatMap cells).length = len * n := by rw [m5 hn, List.length_replicate]
    have hsum : a.toNat * n + len * n = l.length * n := by rw [<- Nat.add_mul]; congr 1; omega
    have hle : a.toNat * n + ((List.replicate len z).flatMap cells).length <= cur.length := by
      rw [hvl, hsum]; exact Nat.le_trans (Nat.mul_le_mul_right n (by omega)) hcl
    have hopos : o <= cur0.length /\ o + cur.length = cur0.length := by
      have h7 : 0 < l.length * n := Nat.mul_pos (by omega) hn0
      have h8 : l.length * n <= c * n := Nat.mul_le_mul_right n (by omega)
      rw [hcur0, List.length_drop]; omega
    obtain ⟨w', hr, hM', hE⟩ := a16 (P := P) ((List.replicate len z).flatMap cells) (o + a.toNat * n) cur0 w hM (by omega) (b4j h1)
    have hrun : (execOp (ev ρ) ⟨none, .call ⟨.builtin .clear, #[x], #[t]⟩, ty, ps, af, g⟩).run P w = .ok (.value (.tuple #[])) w' := by
      have h2 := a2b (P := P) (w := w) (a := (⟨b, 0, none⟩ : Addr)) ((List.replicate len z).flatMap cells) (o + a.toNat * n) 0
      simp only [Nat.add_zero] at h2
      have h3 : (⟨b, o, none⟩ : Addr).add (a.toNat * n) = (⟨b, 0, none⟩ : Addr).add (o + a.toNat * n) := by rw [Addr.add_lit, Addr.add_lit, Nat.zero_add]
      cases len with
      | zero => exact absurd rfl hlen
      | succ len => simp [execOp, resolve, invoke, builtin, hx, hu, Builtin.clear_, run_underlying ht, hz, c0q hzc hzs, h3, h2, hr]
    unfold n9
    rw [hrun]
    refine ⟨?_, ?_⟩
    . show Ext (if p.mu.contains i then G else noG) w w'
      rw [hm, if_pos rfl]
      exact hE.mono (fun c hc => hG c (by rw [hc]; exact hob))
    unfold a3b
    rw [hF]
    show Own B E n cells w' v (a6w z l a)
    have hcur : cur = l.flatMap cells ++ cur.drop (l.length * n) := by rw [<- htake, List.take_append_drop]
    have hcll : (a6w z l a).length = l.length := by unfold a6w; simp; omega
    have htl : ∀ (l : List α) (k : Nat), k <= l.length -> (l.flatMap cells).take (k * n) = (l.take k).flatMap cells := by
      intro l
      induction l with
      | nil => intro k hk; simp
      | cons y l ih =>
        intro k hk
        cases k with
        | zero => simp
        | succ k =>
          rw [List.take_succ_cons, List.flatMap_cons, List.flatMap_cons, Nat.succ_mul, Nat.add_comm, <- hn y, List.take_length_add_append, hn y, ih k (by simpa using hk)]
    have key : cur.take (a.toNat * n) ++ (List.replicate len z).flatMap cells ++ cur.drop (a.toNat * n + ((List.replicate len z).flatMap cells).length) = (a6w z l a).flatMap cells ++ cur.drop (l.length * n) := by
      rw [hvl, hsum]
      have e1 : cur.take (a.toNat * n) = (l.take a.toNat).flatMap cells := by
        conv => lhs; rw [hcur]
        rw [List.take_append_of_le_length (by rw [hfl]; exact Nat.mul_le_mul_right n (by omega)), htl l _ (by omega)]
      have e2 : l.length - a.toNat = len := by omega
      rw [e1]
      unfold a6w
      rw [List.flatMap_append, e2]
    have hdrop : (cur0.take (o + a.toNat * n) ++ (List.replicate len z).flatMap cells ++ cur0.drop (o + a.toNat * n + ((List.replicate len z).flatMap cells).length)).drop o = cur.take (a.toNat * n) ++ (List.replicate len z).flatMap cells ++ cur.drop (a.toNat * n + ((List.replicate len z).flatMap cells).length) := by
      have hlo : (cur0.take o).length = o := by rw [List.length_take]; omega
      rw [List.take_add, <- hcur0, Nat.add_assoc, <- List.drop_drop, <- hcur0, List.append_assoc, List.append_assoc]
      conv => lhs; arg 1; rw [<- hlo]
      rw [List.drop_left, List.append_assoc]
    refine .inr ⟨b, o, c, _, by rw [hv, hLl, hcll], hB, hM', by omega, hcm, ?_, ?_⟩
    . simp only [List.size_toArray, List.length_append, List.length_take, List.length_drop]
      omega
    . show (List.drop o (_ : List Value)).take _ = _
      rw [List.toList_toArray, hdrop, key, hcll, <- hcll, <- m5 hn, List.take_left]
end Go.PL
namespace Go.PL
open Go
def u8R : TyR Int := TyR.flat 1 (fun x => [.int .u8 x]) (fun _ => rfl)
theorem d5.bytes {G : Nat -> Prop} {w : World} {a : Addr} {n c : Nat} {l : List Int} (h : d5 u8R G w (.slice (some a) n c) l) : n = l.length /\ ∀ j x, l[j]? = some x -> w.cell? (a.add j) = some (.int .u8 x) := by
  rcases h with ⟨h1, _⟩ | ⟨a', cap, hv, _, _, hi⟩
  . cases h1
  . cases hv
    refine ⟨rfl, fun j x hx => ?_⟩
    obtain ⟨cs, hr, _, _, hca⟩ := hi j x hx
    have hr : cs = [.int .u8 x] := hr
    subst hr
    have := hca 0 _ rfl
    have e : (a.add (j * u8R.n)).add 0 = a.add j := by
      show (a.add (j * 1)).add 0 = a.add j
      rw [Nat.mul_one]; unfold Addr.add; simp
    rw [e] at this
    exact this
def a9w (l : List Int) : ByteArray := ⟨(Lib.bytesOf l).toArray⟩
theorem b66 {P : Program} {G : Nat -> Prop} {w : World} {v : Value} {l : List Int} (h : d5 u8R G w v l) : (Extern.Bytes.bytesOf v).run P w = .ok (a9w l) w := by
  have h' := h
  rcases h with ⟨rfl, rfl⟩ | ⟨a, cap, rfl, _⟩
  . rfl
  . obtain ⟨_, hc⟩ := h'.bytes
    have := Lib.run_loadBytesX (P := P) w l a .empty hc
    unfold Extern.Bytes.bytesOf
    rw [this]
    congr 1
    apply ByteArray.ext
    simp [a9w]
def d93 (a b : List Int) : Int := Lib.compareBytes (Lib.bytesOf a) (Lib.bytesOf b)
section
variable {P : Program} {η : Operand -> Value} {w : World} {d : Option Tmp} {ty : TypeId} {ps : String} {af : Array Edge} {g : Option (Nat × Bool)} {x y : Operand} {t t' : TypeId} {a b c : ByteArray} {q : Bool}
theorem b9a {va vb : Value} {la lb : List Int} {G G' : Nat -> Prop} (ha : d5 u8R G w va la) (hb : d5 u8R G' w vb lb) : (Extern.BytealgCompare.compare #[va, vb]).run P w = .ok (.int .i64 (d93 la lb)) w := by
  change Sem.run P (do pure (goInt (Extern.BytealgCompare.cmp (<- Extern.Bytes.bytesOf va) (<- Extern.Bytes.bytesOf vb)))) w = _
  simp only [Sem.run_bind, Sem.run_pure, b66 ha, b66 hb, Result.andThen]
  rw [Lib.cmp_eq]; rfl
theorem d52 {v : Value} {l : List Int} {G : Nat -> Prop} (h : d5 u8R G w v l) : (Conv.bytesToString v).run P w = .ok (.string (a9w l)) w := by
  have h' := h
  rcases h with ⟨rfl, rfl⟩ | ⟨a, cap, rfl, _⟩
  . rfl
  . obtain ⟨_, hc⟩ := h'.bytes
    have hl : (loadCells a l.length).run P w = .ok (l.map (Value.int .u8)).toArray w := by
      have hca : CA w a (l.map (Value.int .u8)) := by
        intro j v hj
        rw [List.getElem?_map] at hj
        obtain ⟨x, hx, rfl⟩ := Option.map_eq_some_iff.1 hj
        exact hc j x hx
      have := a4y (P := P) l.length 0 #[] (l.map (Value.int .u8)) (by simp) (fun j v hj => by rw [Nat.zero_add]; exact hca j v hj)
      simpa [loadCells] using this
    rw [run_bytesToString w a l.length cap l hl]
    congr 2
    have key : ∀ (l : List Int) (s : ByteArray), l.foldl (fun r n => r.push (UInt8.ofNat n.toNat)) s = ⟨s.data ++ (Lib.bytesOf l).toArray⟩ := by
      intro l
      induction l with
      | nil => intro s; apply ByteArray.ext; simp [Lib.bytesOf]
      | cons n l ih => intro s; rw [List.foldl_cons, ih]; apply ByteArray.ext; simp [Lib.bytesOf, ByteArray.push]
    rw [key]
    apply ByteArray.ext
    simp [a9w]
theorem d9d {S T : TypeId} {v : Value} {l : List Int} {G : Nat -> Prop} (hx : η x = v) (hcv : ∀ (a : Option Addr) (n c : Nat) (w : World), (convert S T (.slice a n c)).run P w = (Conv.bytesToString (.slice a n c)).run P w) (h : d5 u8R G w v l) : YV P η w ⟨d, .convert S T x, ty, ps, af, g⟩ (.string (a9w l)) := by
  obtain ⟨a, c, hv, _, _⟩ := h.shape
  have hr := d52 (P := P) h
  rw [hv] at hr hx
  simp [YV, execOp, hx, hcv, hr, Result.andThen]
end
def It (w : World) (b : Nat) (s : ByteArray) (p : Int) : Prop := 0 <= p /\ w.heap[b]? = some (.stringIter s p.toNat)
def c8d (s : ByteArray) (p : Int) : Option Int := if p < (s.size : Int) then (if (s.get! p.toNat).toNat < 128 then some ((s.get! p.toNat).toNat : Int) else none) else some 0
def c57 (s : ByteArray) (p : Int) : Int := if p < (s.size : Int) then p + 1 else p
def nxV (b : Bool) (p c : Int) : Value := if b = true then .tuple #[.bool true, .int .i64 p, .int .i32 c] else .tuple #[.bool false]
section
variable {P : Program} {ρ : Nat -> Value} {w : World} {G : Nat -> Prop} {F : List Fact} {p : Plan} {i : Nat} {η : Operand -> Value} {d : Option Tmp} {ty : TypeId} {ps : String} {af : Array Edge} {g : Option (Nat × Bool)} {x : Operand}
theorem c5o {t : TypeId} {s : ByteArray} (hu : P.underlying t = some .string) : (Instr.range t (.string s)).run P w = .ok (.pointer (some ⟨w.heap.size, 0, none⟩)) (w.alloc (.stringIter s 0)) := by
  simp [Instr.range, run_underlying hu, Result.andThen]
theorem c8w {b : Nat} {s : ByteArray} {q c : Int} (h : It w b s q) (hc : c8d s q = some c) : ∃ w', (Instr.next (.pointer (some ⟨b, 0, none⟩)) true ty).run P w = .ok (nxV (decide (q < (s.size : Int))) q c) w' /\ Ext (fun x => x = b) w w' /\ It w' b s (c57 s q) := by
  obtain ⟨h0, h1⟩ := h
  unfold c8d at hc
  have hget : (getObj b).run P w = .ok (.stringIter s q.toNat) w := by simp [getObj, Sem.run, h1]
  by_cases hp : q < (s.size : Int)
  . rw [if_pos hp] at hc
    split at hc
    case isFalse => cases hc
    rename_i h128
    obtain rfl := Option.some.inj hc
    have hdec : Utf8.decode s q.toNat = ((s.get! q.toNat).toNat, 1) := by
      unfold Utf8.decode
      simp [h128]
    have hset : (setObj b (.stringIter s (q.toNat + 1))).run P w = .ok () ({ w with heap := w.heap.setIfInBounds b (.stringIter s (q.toNat + 1)) }) := by simp [setObj, Sem.run, h1]
    refine ⟨{ w with heap := w.heap.setIfInBounds b (.stringIter s (q.toNat + 1)) }, ?_, ?_, ?_⟩
    . have hlt : q.toNat < s.size := by omega
      have hq : ((q.toNat : Nat) : Int) = q := by omega
      simp [Instr.next, hget, hset, hlt, hdec, Result.andThen, nxV, hp, goInt, hq]
    . refine ⟨rfl, rfl, rfl, ?_, fun b' hb' hg => ?_, Nat.le_refl _⟩
      . simp
      . have : b' ≠ b := fun e => hg e
        simp [Array.getElem?_setIfInBounds, this.symm]
    . have hb : b < w.heap.size := (Array.getElem?_eq_some_iff.1 h1).1
      unfold c57
      rw [if_pos hp]
      refine ⟨by omega, ?_⟩
      rw [show (q + 1).toNat = q.toNat + 1 by omega]
      simp [Array.getElem?_setIfInBounds, hb]
  . rw [if_neg hp] at hc
    obtain rfl := Option.some.inj hc
    refine ⟨w, ?_, ⟨rfl, rfl, rfl, Nat.le_refl _, fun _ _ _ => rfl, Nat.le_refl _⟩, ?_⟩
    . have hlt : ¬ q.toNat < s.size := by omega
      simp [Instr.next, hget, hlt, Result.andThen, nxV, hp]
    . unfold c57; rw [if_neg hp]; exact ⟨h0, h1⟩
end
end Go.PL
namespace Go.SX
open Go Go.PL
inductive PE where
  | f (n : Nat)
  | i (n : Int)
inductive AV (C : Type) (T : C -> Type) where
  | unk | undef | nils | nilp
  | bool (b : Bool)
  | int (k : IntKind) (n : Int)
  | str (s : ByteArray)
  | val (c : C) (x : T c)
  | list (c : C) (l : List (T c))
  | rp (a : AV C T)
  | ref (id : Nat)
  | fref (id : Nat) (c : C) (p : List PE)
  | clo (f : FuncId) (as : List (AV C T))
  | tup (as : List (AV C T))
  | st (c : C) (as : List (AV C T))
  | vw (id : Nat) (c : C) (lo : Int) (n : Nat)
inductive MC (C : Type) (T : C -> Type) where
  | never | dead
  | box (t : TypeId) (a : AV C T)
  | sl (e : TypeId) (c : C) (l : List (T c))
  | fz (c : C) (l : List (T c))
  | it (s : ByteArray) (p : Int)
structure Uni where
  C : Type
  T : C -> Type
  dec : DecidableEq C
  c0 : C
  n : C -> Nat
  ag : C -> Bool
  lay : C -> List (Option C)
  flds : ∀ c, T c -> List (AV C T)
  mkv : ∀ c, List (AV C T) -> Option (T c)
  cd : TypeId -> Option C
  flat : C -> Bool
  isA : C -> Bool
  ae : C -> C
  an : C -> Nat
  al : ∀ c, T c -> List (T (ae c))
  as : ∀ c, T c -> Int -> T (ae c) -> T c
  b8 : C -> Bool
  t8 : ∀ c, T c -> Int
section
variable {α : Type}
def lk (t : Nat) : List (Nat × α) -> Option α
  | [] => none
  | (k, a) :: r => bif Nat.beq k t then some a else lk t r
end
structure St (C : Type) (T : C -> Type) where
  sl : List (Nat × AV C T)
  me : List (Nat × MC C T)
  nx : Nat
namespace St
variable {C : Type} {T : C -> Type}
def slot (σ : St C T) (t : Nat) : AV C T := match lk t σ.sl with | some a => a | none => .unk
def mem (σ : St C T) (id : Nat) : MC C T := match lk id σ.me with | some a => a | none => .never
def put (σ : St C T) (d : Option Tmp) (a : AV C T) : St C T := match d with | some d => ⟨(d, a) :: σ.sl, σ.me, σ.nx⟩ | none => σ
def app (σ : St C T) (d : Option Tmp) (a : AV C T) (ws : List (Nat × MC C T)) : St C T := (⟨σ.sl, ws ++ σ.me, σ.nx⟩ : St C T).put d a
end St
inductive Q (C : Type) (T : C -> Type) : Type 1 where
  | rdT (t : Nat) (k : AV C T -> Q C T)
  | rdM (id : Nat) (k : MC C T -> Q C T)
  | opt {β : Type} (o : Option β) (k : β -> Q C T)
  | cas {β : Type} (o : Option β) (n : Q C T) (k : β -> Q C T)
  | done (v : AV C T) (ws : List (Nat × MC C T))
  | fail
abbrev optC {α β : Type} (o : Option α) (n : Option β) (f : α -> Option β) : Option β := match o with
  | none => n
  | some a => f a
namespace Q
variable {C : Type} {T : C -> Type}
def eval {R : Type} (σ : St C T) : Q C T -> Nat -> (Nat -> AV C T -> List (Nat × MC C T) -> Option R) -> Option R
  | .rdT t k, m, K => match σ.slot t with | .unk => none | a => (k a).eval σ (m ||| 2 ^ (2 * t)) K
  | .rdM id k, m, K => (k (σ.mem id)).eval σ (m ||| 2 ^ (2 * id + 1)) K
  | .opt o k, m, K => Option.bind o fun b => (k b).eval σ m K
  | .cas o n k, m, K => optC o (n.eval σ m K) fun b => (k b).eval σ m K
  | .done v ws, m, K => K m v ws
  | .fail, _, _ => none
def Ev (σ : St C T) : Q C T -> Nat -> Nat -> AV C T -> List (Nat × MC C T) -> Prop
  | .rdT t k, m0, m, v, ws => σ.slot t ≠ .unk /\ (k (σ.slot t)).Ev σ (m0 ||| 2 ^ (2 * t)) m v ws
  | .rdM id k, m0, m, v, ws => (k (σ.mem id)).Ev σ (m0 ||| 2 ^ (2 * id + 1)) m v ws
  | .opt o k, m0, m, v, ws => ∃ b, o = some b /\ (k b).Ev σ m0 m v ws
  | .cas o n k, m0, m, v, ws => (o = none /\ n.Ev σ m0 m v ws) \/ ∃ b, o = some b /\ (k b).Ev σ m0 m v ws
  | .done v' ws', m0, m, v, ws => m = m0 /\ v = v' /\ ws = ws'
  | .fail, _, _, _, _ => False
end Q
section
variable (P : Program) (U : Uni)
abbrev Uni.AV (U : Uni) := SX.AV U.C U.T
abbrev Uni.MC (U : Uni) := SX.MC U.C U.T
abbrev Uni.Q (U : Uni) := SX.Q U.C U.T
abbrev Uni.St (U : Uni) := SX.St U.C U.T
def cst {U : Uni} (c : U.C) {c' : U.C} (x : U.T c') : Option (U.T c) := match U.dec c' c with
  | .isTrue h => some (h ▸ x)
  | .isFalse _ => none
def b1b {U : Uni} (c : U.C) {c' : U.C} (x : List (U.T c')) : Option (List (U.T c)) := match U.dec c' c with
  | .isTrue h => some (h ▸ x)
  | .isFalse _ => none
def asz {U : Uni} : U.AV -> Nat
  | .val c _ => U.n c
  | .st c _ => U.n c
  | _ => 1
def osz {U : Uni} : Option U.C -> Nat
  | some c => U.n c
  | none => 1
def off {U : Uni} (c : U.C) (f : Nat) : Nat := (((U.lay c).take f).map osz).sum
def inj {U : Uni} (c : U.C) (x : U.T c) : U.AV := match U.ag c with
  | true => .val c x
  | false => match U.flds c x with | [a] => a | _ => .unk
def prj {U : Uni} (c : U.C) (a : U.AV) : Option (U.T c) := match U.ag c with
  | true => match a with
    | .val _ x => cst c x
    | .st c' as => (match U.mkv c' as with | some x => cst c x | none => none)
    | _ => none
  | false => U.mkv c [a]
def b07 {U : Uni} : Value -> Option U.AV
  | .bool b => some (.bool b)
  | .int k n => some (.int k n)
  | .string s => some (.str s)
  | .slice none 0 0 => some .nils
  | .pointer none => some .nilp
  | _ => none
def rdO {U : Uni} (x : Operand) (k : U.AV -> U.Q) : U.Q := match x with
  | .tmp t => .rdT t k
  | .const v => match b07 v with | some a => k a | none => .fail
  | .func f => k (.clo f [])
  | .global _ => .fail
def d4k {U : Uni} : List Operand -> (List U.AV -> U.Q) -> U.Q
  | [], k => k []
  | x :: r, k => rdO x fun a => d4k r fun as => k (a :: as)
def szT (t : TypeId) : Nat := match P.info? t with | some i => i.size | none => 0
def c9b (t : TypeId) (n : Nat) : Bool := match P.info? t with | some i => Nat.beq i.size n | none => false
def c8k (t : TypeId) : Nat := match P.info? t with | some i => i.bytes | none => 0
def d63 (t : TypeId) (b : Bool) : Bool := match P.underlying t with
  | some (.struct _) => b
  | some (.array _ _) => b
  | some _ => !b
  | none => false
def a2h {U : Uni} : U.AV -> Bool | .val _ _ => true | .st _ _ => true | _ => false
def m8 {U : Uni} : U.AV -> Option U.C
  | .val c _ => some c
  | .st c _ => some c
  | _ => none
def c68 {U : Uni} : U.AV -> Bool
  | .bool _ | .int _ _ | .str _ | .val _ _ | .list _ _ => true
  | _ => false
def b0k {U : Uni} : U.AV -> Bool
  | .bool _ | .int _ _ | .str _ | .val _ _ | .list _ _ => true
  | .rp a => c68 a
  | _ => false
def d7w {U : Uni} : U.AV -> Bool
  | .bool _ | .int _ _ | .str _ => true
  | .val c _ => U.flat c
  | _ => false
def eqC {U : Uni} (c c' : U.C) : Bool := match U.dec c c' with | .isTrue _ => true | .isFalse _ => false
def m4 {U : Uni} : U.AV -> Bool
  | .bool _ | .int _ _ | .str _ | .val _ _ | .list _ _ | .nils | .ref _ | .rp _ | .nilp => true
  | _ => false
def a4r {U : Uni} : U.AV -> Bool
  | .st _ as => as.all m4
  | a => m4 a
def b8a {U : Uni} (a b : U.AV) : Bool := match m8 a, m8 b with
  | none, none => true
  | some c, some c' => eqC c c'
  | _, _ => false
def b87 {U : Uni} (a : U.AV) : U.AV := match a with
  | .st c as => (match U.mkv c as with | some x => .val c x | none => .st c as)
  | a => a
def d9u {U : Uni} : U.AV -> Bool | .nils => true | _ => false
def d8b {U : Uni} (c : U.C) (as : List U.AV) : Option U.AV := match U.mkv c as with
  | some x => (match as.any d9u with | true => some (.st c as) | false => some (.val c x))
  | none => none
def d20 {U : Uni} : U.AV -> Option (U.C × List U.AV)
  | .val c x => some (c, U.flds c x)
  | .st c as => some (c, as)
  | _ => none
def a92 {U : Uni} : U.AV -> Bool
  | .clo _ _ | .tup _ | .vw _ _ _ _ => false
  | _ => true
def a84 {U : Uni} (t : TypeId) (a : U.AV) : Bool := a4r a && d63 P t (a2h a) && c9b P t (asz a)
def d13 {U : Uni} (g : TypeId -> List Value -> Option U.AV) : List Field -> List Value -> Option (List U.AV)
  | [], [] => some []
  | [], _ :: _ => none
  | f :: fs, cs => match g f.type (cs.take (szT P f.type)) with
    | some a => (match d13 g fs (cs.drop (szT P f.type)) with | some as => some (b87 a :: as) | none => none)
    | none => none
def d06 {U : Uni} (g : TypeId -> List Value -> Option U.AV) : Nat -> TypeId -> List Value -> Option (List U.AV)
  | 0, _, [] => some []
  | 0, _, _ :: _ => none
  | m + 1, e, cs => match g e (cs.take (szT P e)) with
    | some a => (match d06 g m e (cs.drop (szT P e)) with | some as => some (b87 a :: as) | none => none)
    | none => none
def c73 {U : Uni} : Nat -> TypeId -> List Value -> Option U.AV
  | 0, _, _ => none
  | n + 1, t, cs => match P.underlying t with
    | some (.struct fs) => (match U.cd t with
      | some c => (match d13 P (c73 n) fs.toList cs with
        | some as => (match U.ag c with | true => d8b c as | false => none)
        | none => none)
      | none => none)
    | some (.array m e) => (match U.cd t with
      | some c => (match d06 P (c73 n) m e cs with
        | some as => (match U.ag c, U.mkv c as with | true, some x => some (.val c x) | _, _ => none)
        | none => none)
      | none => none)
    | _ => (match cs with | [v] => b07 v | _ => none)
def b19 {U : Uni} (t : TypeId) : Option U.AV := match P.info? t with
  | some i => match i.zero with | some z => c73 P 100 t z.cells.toList | none => none
  | none => none
def binI {U : Uni} (op : BinOp) (k : IntKind) (a b : Int) : U.Q := match op with
  | .add => .done (.int k (k.wrap (a + b))) []
  | .sub => .done (.int k (k.wrap (a - b))) []
  | .mul => .done (.int k (k.wrap (a * b))) []
  | .quo => .opt (if b = 0 then none else some (k.wrap (a.tdiv b))) fun c => .done (.int k c) []
  | .rem => .opt (if b = 0 then none else some (a.tmod b)) fun c => .done (.int k c) []
  | .and => .done (.int k (d39 k a b)) []
  | .or => .done (.int k (orK k a b)) []
  | .xor => .done (.int k (d96 k a b)) []
  | .lss => .done (.bool (decide (a < b))) []
  | .leq => .done (.bool (decide (a <= b))) []
  | .gtr => .done (.bool (decide (b < a))) []
  | .geq => .done (.bool (decide (b <= a))) []
  | .eql => .done (.bool (a == b)) []
  | .neq => .done (.bool (a != b)) []
  | _ => .fail
def eqK (k k' : IntKind) : Bool := match decEq k k' with | .isTrue _ => true | .isFalse _ => false
def d9o {U : Uni} (op : BinOp) (t : TypeId) (x y : U.AV) : U.Q := match x, y with
  | .int k a, .int k' b => match op with
    | .shl => .opt (d6a k a b) fun c => .done (.int k c) []
    | .shr => .opt (c5u k a b) fun c => .done (.int k c) []
    | _ => match eqK k k' with | true => binI op k a b | false => .fail
  | .str a, .str b => match op with
    | .add => .opt (a1u a b) fun c => .done (.str c) []
    | .eql => .done (.bool (a.toList == b.toList)) []
    | .neq => .done (.bool (a.toList != b.toList)) []
    | .lss => .done (.bool (Op.bytesLess a.toList b.toList)) []
    | _ => .fail
  | .bool p, .bool r => match P.underlying t with
    | some .bool => match op with
      | .eql => .done (.bool (p == r)) []
      | .neq => .done (.bool (p != r)) []
      | _ => .fail
    | _ => .fail
  | _, _ => .fail
def d8h {U : Uni} (g : TypeId -> U.AV -> U.AV -> Option Bool) : Nat -> List Field -> List U.AV -> List U.AV -> Option Bool
  | _, [], [], [] => some true
  | o, f :: fs, a :: as, b :: bs => match (f.name != "_") && (Nat.beq f.offset o && (a84 P f.type a && (a84 P f.type b && (m4 a && (m4 b && Nat.beq (asz a) (asz b)))))) with
    | true => (match g f.type a b with
      | some r => (match d8h g (o + asz a) fs as bs with | some q => some (r && q) | none => none)
      | none => none)
    | false => none
  | _, _, _, _ => none
def eqA {U : Uni} : Nat -> TypeId -> U.AV -> U.AV -> Option Bool
  | 0, _, _, _ => none
  | n + 1, t, a, b => match a, b with
    | .int k x, .int k' y => (match P.underlying t, eqK k k' with | some (.int _), true => some (x == y) | _, _ => none)
    | .bool p, .bool q => (match P.underlying t with | some .bool => some (p == q) | _ => none)
    | .str p, .str q => (match P.underlying t with | some .string => some (p.toList == q.toList) | _ => none)
    | a, b => (match d20 a, d20 b with
      | some (_, as), some (_, bs) => (match P.underlying t, P.stoodInHeld t with
        | some (.struct fs), false => d8h P (eqA n) 0 fs.toList as bs
        | _, _ => none)
      | _, _ => none)
def d9p {U : Uni} (op : BinOp) (t : TypeId) (a b : U.AV) : U.Q := match P.eqGuardType P.depth t, eqA P 100 t a b with
  | false, some r => (match op with
    | .eql => .done (.bool r) []
    | .neq => .done (.bool (!r)) []
    | _ => .fail)
  | _, _ => .fail
def unQ {U : Uni} (op : UnOp) (x : U.AV) : U.Q := match op, x with
  | .not, .bool p => .done (.bool (!p)) []
  | .neg, .int k a => .done (.int k (k.wrap (-a))) []
  | _, _ => .fail
def d4u {U : Uni} (s t : TypeId) (x : U.AV) : U.Q := match P.underlying s, P.underlying t, x with
  | some (.int _), some (.int k), .int _ n => .done (.int k (k.wrap n)) []
  | some .string, some .string, .str b => .done (.str b) []
  | _, _, _ => .fail
def a7g {U : Uni} : (k : Nat) -> List Field -> List U.AV -> List U.AV × List (Nat × U.MC)
  | k, f :: fs, .nils :: as => match P.underlying f.type with
    | some (.slice e) => (match U.cd e with
      | some c => (.ref k :: (a7g (k + 1) fs as).1, (k, .sl e c []) :: (a7g (k + 1) fs as).2)
      | none => (.nils :: (a7g k fs as).1, (a7g k fs as).2))
    | _ => (.nils :: (a7g k fs as).1, (a7g k fs as).2)
  | k, _ :: fs, a :: as => (a :: (a7g k fs as).1, (a7g k fs as).2)
  | _, _, as => (as, [])
def d66 {U : Uni} : List Nat -> U.Q -> U.Q
  | [], q => q
  | i :: is, q => .rdM i fun | .never => d66 is q | _ => .fail
def d74 {U : Uni} (fr : Nat) (t : TypeId) (a : U.AV) : U.AV × List (Nat × U.MC) := match a with
  | .st c as => (match P.underlying t with
    | some (.struct fs) => (match a7g P (fr + 1) fs.toList as with | (as', ms) => (.st c as', ms))
    | _ => (.st c as, []))
  | a => (a, [])
def b7i {U : Uni} (fr : Nat) (t : TypeId) (id : Nat) (a v : U.AV) (ws : List (Nat × U.MC)) : U.Q := match d74 P fr t a with
  | (_, []) => .done v ws
  | (a', m :: ms) => d66 ((m :: ms).map (·.1)) (.done v ((id, .box t a') :: ((m :: ms) ++ ws)))
def d7l {U : Uni} (fr : Nat) (t : TypeId) (a : U.AV) : U.Q := .rdM fr fun
  | .never => b7i P fr t fr a (.ref fr) [(fr, .box t a)]
  | _ => .fail
def nav {U : Uni} : U.AV -> List PE -> Option U.AV
  | a, [] => some a
  | .val c x, .f n :: p => match (U.flds c x)[n]? with | some b => nav b p | none => none
  | .st c as, .f n :: p => match as[n]? with | some b => nav b p | none => none
  | _, _ => none
def b5s {U : Uni} (b : U.AV) : U.AV -> List PE -> Option U.AV
  | _, [] => some b
  | .val c x, .f n :: p => match (U.flds c x)[n]? with
    | some a => match b5s b a p with
      | some a' => match Nat.beq (asz a) (asz a') && (a2h a == a2h a') with
        | true => (U.mkv c ((U.flds c x).set n a')).map fun y => .val c y
        | false => none
      | none => none
    | none => none
  | .st c as, .f n :: p => match as[n]? with
    | some a => match b5s b a p with
      | some a' => match b8a a a' && m4 a' with
        | true => some (.st c (as.set n a'))
        | false => none
      | none => none
    | none => none
  | _, _ => none
def d6b {U : Uni} (m : U.MC) (p : List PE) (k : U.AV -> U.Q) : U.Q := match m, p with
  | .box _ (.val ca x), .i n :: p => match U.isA ca with
    | true => .opt (m7 (U.al ca x) n) fun y => match nav (inj (U.ae ca) y) p with | some b => k b | none => .fail
    | false => .fail
  | .box _ a, p => match nav a p with | some b => k b | none => .fail
  | .sl _ c l, .i n :: p => .opt (m7 l n) fun y => match nav (inj c y) p with | some b => k b | none => .fail
  | _, _ => .fail
def c5t {U : Uni} (m : U.MC) (p : List PE) (b : U.AV) (k : U.MC -> U.Q) : U.Q := match m, p with
  | .box t (.val ca x), .i n :: p => match U.isA ca with
    | true => .opt (m7 (U.al ca x) n) fun y => match b5s b (inj (U.ae ca) y) p with
      | some a' => match prj (U.ae ca) a' with | some y' => k (.box t (.val ca (U.as ca x n y'))) | none => .fail
      | none => .fail
    | false => .fail
  | .box t a, p => match b5s b a p with
    | some a' => match Nat.beq (asz a) (asz a') && (a2h a == a2h a') && a4r a with | true => k (.box t a') | false => .fail
    | none => .fail
  | .sl e c l, .i n :: p => .opt (m7 l n) fun y => match b5s b (inj c y) p with
    | some a' => match prj c a' with | some y' => k (.sl e c (b01 l n y')) | none => .fail
    | none => .fail
  | _, _ => .fail
def d5i {U : Uni} (c : U.C) (m : U.MC) : Bool := match m with
  | .box _ (.val c' _) => eqC c c'
  | .box _ (.st c' _) => eqC c c'
  | .sl _ c' _ => eqC c c'
  | _ => false
def c3h {U : Uni} : List U.AV -> (List U.AV -> List (Nat × U.MC) -> U.Q) -> U.Q
  | [], k => k [] []
  | .ref id :: r, k => .rdM id fun m => match m with
    | .sl _ c l => c3h r fun as ws => k (.list c l :: as) ((id, .fz c l) :: ws)
    | .fz c l => c3h r fun as ws => k (.list c l :: as) ws
    | _ => .fail
  | a :: r, k => c3h r fun as ws => k (b87 a :: as) ws
def b0o {U : Uni} (c : U.C) (m : U.MC) (p : List PE) : Bool := match m, p with
  | .box _ (.val ca _), .i _ :: _ => U.isA ca && eqC c (U.ae ca)
  | m, _ => d5i c m
def d7o {U : Uni} (t : TypeId) (x : U.AV) : U.Q := match x with
  | .ref id => .rdM id fun m => d6b m [] fun b => match b with
    | .st c fs => c3h fs fun as ws => match U.mkv c as with
      | some x => (match a84 P t (.val c x : U.AV) with | true => .done (.val c x) ws | false => .fail)
      | none => .fail
    | b => match a84 P t b with | true => .done b [] | false => .fail
  | .fref id c p => .rdM id fun m => match b0o c m p with
    | true => d6b m p fun b => match a84 P t b with | true => .done b [] | false => .fail
    | false => .fail
  | .rp b => match a84 P t b with | true => .done b [] | false => .fail
  | _ => .fail
def b7v {U : Uni} (id : Nat) (x : U.AV) : Bool := match x with | .ref id' => Nat.beq id id' | _ => false
def d7u {U : Uni} (m : U.MC) (p : List PE) (y : U.AV) : Bool := match m, p, y with
  | .box _ (.st _ _), [.f _], .ref _ => true
  | _, _, _ => false
def c74 {U : Uni} (fr : Nat) (t : TypeId) (x y : U.AV) : U.Q := match a84 P t y with
  | true => match x with
    | .ref id => .rdM id fun m => c5t m [] y fun m' => match m' with
      | .box t' a => b7i P fr t' id a .undef [(id, .box t' a)]
      | _ => .fail
    | .fref id c p => .rdM id fun m => match b0o c m p with
      | true => match d7u m p y with
        | true => c5t m p y fun m' => .done .undef [(id, m')]
        | false => match b7v id y with
          | true => .fail
          | false => c3h [y] fun as ws => match as with
            | [y'] => (match a84 P t y' with | true => c5t m p y' fun m' => .done .undef ((id, m') :: ws) | false => .fail)
            | _ => .fail
      | false => .fail
    | _ => .fail
  | false => .fail
def d5p (t : TypeId) : Bool := match P.info? t with | some i => !(Nat.beq i.size 0) | none => false
def c75 {U : Uni} (s : TypeId) (f : Nat) (x : U.AV) : U.Q := match P.underlying s with
  | some (.struct fs) => match fs[f]? with
    | some fl => match x with
      | .rp (.val c y) => match Nat.beq (off c f) fl.offset && d5p P fl.type, (U.flds c y)[f]? with
        | true, some b => .done (.rp b) []
        | _, _ => .fail
      | .ref id => .rdM id fun m => match m with
        | .box _ a => match m8 a with
          | some c => match Nat.beq (off c f) fl.offset && d5p P fl.type && decide (f < (U.lay c).length) with
            | true => .done (.fref id c [.f f]) []
            | false => .fail
          | none => .fail
        | _ => .fail
      | _ => .fail
    | none => .fail
  | _ => .fail
def c8f {U : Uni} : U.C -> List PE -> Option U.C
  | c, [] => some c
  | c, .f n :: p => match (U.lay c)[n]? with | some (some c') => c8f c' p | _ => none
  | _, _ => none
def c0y {U : Uni} (s : TypeId) (f : Nat) (id : Nat) (c : U.C) (p : List PE) : U.Q := match P.underlying s with
  | some (.struct fs) => match fs[f]? with
    | some fl => match (match p with | .i _ :: q => c8f c q | _ => c8f c p) with
      | some c' => match Nat.beq (off c' f) fl.offset && d5p P fl.type && decide (f < (U.lay c').length) with
        | true => .done (.fref id c (p ++ [.f f])) []
        | false => .fail
      | none => .fail
    | none => .fail
  | _ => .fail
def d46 {U : Uni} (s : TypeId) (f : Nat) (x : U.AV) : U.Q := match P.underlying s with
  | some (.struct fs) => match fs[f]? with
    | some fl => match x with
      | .val c y => match (U.flds c y)[f]? with
        | some b => match Nat.beq (off c f) fl.offset && a84 P fl.type b with | true => .done b [] | false => .fail
        | none => .fail
      | .st c as => match as[f]? with
        | some b => match Nat.beq (off c f) fl.offset && a84 P fl.type b && m4 b with | true => .done b [] | false => .fail
        | none => .fail
      | _ => .fail
    | none => .fail
  | _ => .fail
def a6n {U : Uni} (t : TypeId) (c : U.C) : Bool := match P.underlying t with
  | some (.slice e) => c9b P e (U.n c) && d63 P e (U.ag c) && decide (0 < U.n c)
  | _ => false
def d03 {U : Uni} (t : TypeId) (ca : U.C) : Bool := match P.underlying t with
  | some (.array n e) => U.isA ca && Nat.beq n (U.an ca) && c9b P e (U.n (U.ae ca))
  | _ => false
def b23 {U : Uni} (t : TypeId) (x y : U.AV) : U.Q := match y with
  | .int .i64 n => match x with
    | .list c l => match a6n P t c with | true => .opt (m7 l n) fun z => .done (.rp (inj c z)) [] | false => .fail
    | .ref id => .rdM id fun m => match m with
      | .sl _ c l => match a6n P t c with | true => .opt (m7 l n) fun _ => .done (.fref id c [.i n]) [] | false => .fail
      | .fz c l => match a6n P t c with | true => .opt (m7 l n) fun z => .done (.rp (inj c z)) [] | false => .fail
      | .box _ (.val ca x) => match d03 P t ca with | true => .opt (m7 (U.al ca x) n) fun _ => .done (.fref id (U.ae ca) [.i n]) [] | false => .fail
      | _ => .fail
    | .vw id c lo k => .rdM id fun m => match m with
      | .sl _ c' l => match a6n P t c && eqC c' c with | true => .opt (c9e l lo n) fun _ => .done (.fref id c [.i (lo + n)]) [] | false => .fail
      | _ => .fail
    | _ => .fail
  | _ => .fail
def c7s {U : Uni} (t : TypeId) (x y : U.AV) : U.Q := match P.underlying t, x, y with
  | some .string, .str s, .int _ n => .opt (a8p s n) fun c => .done (.int .u8 c) []
  | _, _, _ => .fail
def d62 {U : Uni} : List U.AV -> List Nat -> List U.AV -> Option (List U.AV)
  | fs, [], _ => some fs
  | fs, i :: is, a :: as => match fs[i]? with
    | some b => match Nat.beq (asz a) (asz b) && (a2h a == a2h b) with | true => d62 (fs.set i a) is as | false => none
    | none => none
  | _, _, [] => none
def b8c {U : Uni} (c : U.C) (fs : List Field) : Bool := Nat.beq fs.length (U.lay c).length && (List.range fs.length).all fun i => match fs[i]?, (U.lay c)[i]? with
  | some f, some o => Nat.beq f.offset (off c i) && c9b P f.type (osz o)
  | _, _ => false
def c92 {U : Uni} (t : TypeId) (is : List Nat) (as : List U.AV) : U.Q := match P.underlying t, U.cd t, b19 P t with
  | some (.struct fs), some c, some z => match d20 z with
    | some (c', zs) => match b8c P c' fs.toList with
      | true => c3h as fun as ws => match as.all m4, d62 zs is as with
        | true, some gs => match d8b c' gs with | some y => .done y ws | none => .fail
        | _, _ => .fail
      | false => .fail
    | none => .fail
  | _, _, _ => .fail
def d87 (t : TypeId) : Bool := match P.underlying t with | some (.array _ _) => true | _ => false
def c21 {U : Uni} (t : TypeId) (is : List Nat) (as : List U.AV) : U.Q := match b19 P t with
  | some (.val c z) => match d03 P t c with
    | true => c3h as fun as ws => match as.all m4, d62 (U.flds c z) is as with
      | true, some gs => match U.mkv c gs with | some y => .done (.val c y) ws | none => .fail
      | _, _ => .fail
    | false => .fail
  | _ => .fail
def d8j {U : Uni} (c : U.C) : List U.AV -> Option (List (U.T c))
  | [] => some []
  | a :: r => match prj c a with
    | some x => match d8j c r with | some l => some (x :: l) | none => none
    | none => none
def b8l : Nat -> List Nat -> Bool
  | _, [] => true
  | k, i :: r => Nat.beq i k && b8l (k + 1) r
def c47 (e n : Nat) : Bool := match P.info? e with
  | some i => (match i.zero with | some z => Nat.beq z.cells.size n && Nat.beq i.size n && decide (0 < n) && decide (0 < i.bytes) | none => false)
  | none => false
def a9y {U : Uni} (fr : Nat) (t : TypeId) (len : Nat) (is : List Nat) (as : List U.AV) : U.Q := match P.underlying t with
  | some (.slice e) => match U.cd e with
    | some c => match b8l 0 is && Nat.beq is.length len && Nat.beq as.length len && a6n P t c && Nat.ble (len * U.n c) 16777216 && Nat.ble len 1000000 && c47 P e (U.n c) && Nat.ble 1 len with
      | true => c3h as fun as ws => match as.all a4r, d8j c as with
        | true, some l => .rdM fr fun
          | .never => .done (.ref fr) ((fr, .sl e c l) :: ws)
          | _ => .fail
        | _, _ => .fail
      | false => .fail
    | none => .fail
  | _ => .fail
def rdL {U : Uni} (c : U.C) (x : U.AV) (k : List (U.T c) -> U.Q) : U.Q := match x with
  | .list _ l => match b1b c l with | some l => k l | none => .fail
  | .nils => k []
  | .ref id => .rdM id fun m => match m with
    | .sl _ _ l => match b1b c l with | some l => k l | none => .fail
    | .fz _ l => match b1b c l with | some l => k l | none => .fail
    | _ => .fail
  | _ => .fail
def d5x (s t : TypeId) : Bool := match P.underlying s, P.underlying t with | some (.slice _), some .string => true | _, _ => false
def d9i {U : Uni} (s : TypeId) (x : U.AV) : U.Q := match P.underlying s with
  | some (.slice e) => match P.underlying e, U.cd e with
    | some (.int .u8), some c => (match U.b8 c with | true => rdL c x fun l => .done (.str (a9w (l.map (U.t8 c)))) [] | false => .fail)
    | _, _ => .fail
  | _ => .fail
def d0k (t : TypeId) : Bool := match P.underlying t with | some .string => true | _ => false
def d0a (s : ByteArray) (p : Int) : Option (Option Int) := if p < (s.size : Int) then some (if (s.get! p.toNat).toNat < 128 then some ((s.get! p.toNat).toNat : Int) else none) else none
def c7a {U : Uni} (fr : Nat) (t : TypeId) (x : U.AV) : U.Q := match x with
  | .str s => match d0k P t with
    | true => .rdM fr fun | .never => .done (.ref fr) [(fr, .it s 0)] | _ => .fail
    | false => .fail
  | _ => .fail
def d3q {U : Uni} (x : U.AV) : U.Q := match x with
  | .ref id => .rdM id fun
    | .it s p => .cas (d0a s p) (.done (.tup [.bool false]) [(id, .it s p)]) fun r => .opt r fun c => .done (.tup [.bool true, .int .i64 p, .int .i32 c]) [(id, .it s (p + 1))]
    | _ => .fail
  | _ => .fail
def intA {U : Uni} : U.AV -> Option Int | .int .i64 n => some n | _ => none
def d45 (t : TypeId) : Bool := match P.underlying t with | some (.slice _) => true | _ => false
def d9r {U : Uni} (t : TypeId) (x : U.AV) : U.Q := match x with
  | .list _ l => match d45 P t with | true => .done (.int .i64 (l.length : Int)) [] | false => .fail
  | .nils => match d45 P t with | true => .done (.int .i64 0) [] | false => .fail
  | .str s => match d0k P t with | true => .done (.int .i64 (s.size : Int)) [] | false => .fail
  | .vw _ _ _ n => match d45 P t with | true => .done (.int .i64 (n : Int)) [] | false => .fail
  | .ref id => match d45 P t with
    | true => .rdM id fun m => match m with
      | .sl _ _ l => .done (.int .i64 (l.length : Int)) []
      | .fz _ l => .done (.int .i64 (l.length : Int)) []
      | _ => .fail
    | false => .fail
  | _ => .fail
def d82 {U : Uni} (fr : Nat) (e : TypeId) (c : U.C) (k : List (Nat × U.MC)) (l : List (U.T c)) (x : U.AV) : U.Q :=
  rdL c x fun xs => .opt (a6y (c8k P e) l xs) fun r => .rdM fr fun
    | .never => .done (.ref fr) ((fr, .sl e c r) :: k)
    | _ => .fail
def d8r {U : Uni} (fr : Nat) (t : TypeId) (s x : U.AV) : U.Q := match P.underlying t with
  | some (.slice e) => match U.cd e with
    | some c => match c47 P e (U.n c) with
      | true => match s with
        | .nils => d82 P fr e c [] [] x
        | .ref id => match b7v id x with
          | true => .fail
          | false => .rdM id fun m => match m with
            | .sl e' c' l => match Nat.beq e e' && eqC c' c, b1b c l with
              | true, some l => d82 P fr e c [(id, .dead)] l x
              | _, _ => .fail
            | _ => .fail
        | _ => .fail
      | false => .fail
    | none => .fail
  | _ => .fail
def b48 (s : ByteArray) (a b : Int) : Option ByteArray := if 0 <= a /\ a <= b /\ b <= (s.size : Int) then some (s.extract a.toNat b.toNat) else none
def bnd {U : Uni} (x : Option Operand) (d : Int) (k : Int -> U.Q) : U.Q := match x with
  | none => k d
  | some o => rdO o fun a => match intA a with | some n => k n | none => .fail
def c8n {U : Uni} (t : TypeId) (x : U.AV) (lo hi : Option Operand) : U.Q := match x with
  | .str s => match P.underlying t with
    | some .string => bnd lo 0 fun a => bnd hi (s.size : Int) fun b => .opt (b48 s a b) fun r => .done (.str r) []
    | _ => .fail
  | .list c l => match a6n P t c with
    | true => bnd lo 0 fun a => bnd hi (l.length : Int) fun b => .opt (a3a l a b) fun r => .done (.list c r) []
    | false => .fail
  | .ref id => .rdM id fun m => match m with
    | .sl _ c l => match a6n P t c with
      | true => bnd lo 0 fun a => bnd hi (l.length : Int) fun b => .opt (a3a l a b) fun r => .done (.list c r) [(id, .fz c l)]
      | false => .fail
    | .fz c l => match a6n P t c with
      | true => bnd lo 0 fun a => bnd hi (l.length : Int) fun b => .opt (a3a l a b) fun r => .done (.list c r) []
      | false => .fail
    | _ => .fail
  | _ => .fail
def b77 (t e : TypeId) : Bool := match P.underlying t with | some (.slice e') => Nat.beq e e' | _ => false
def d5s {U : Uni} (t : TypeId) (x : U.AV) (lo hi : Option Operand) : U.Q := match x with
  | .ref id => .rdM id fun m => match m with
    | .sl e c l => match a6n P t c && b77 P t e with
      | true => bnd lo 0 fun a => match hi with
        | none => .opt (a3a l a (l.length : Int)) fun r => .done (.vw id c a r.length) []
        | some _ => .fail
      | false => .fail
    | _ => .fail
  | _ => .fail
def d9k {U : Uni} (fr : Nat) (t : TypeId) (x : U.AV) (lo hi : Option Operand) : U.Q := match x with
  | .ref id => .rdM id fun m => match m with
    | .sl e c l => match a6n P t c && b77 P t e with
      | true => bnd lo 0 fun a => bnd hi (l.length : Int) fun b => .opt (a3a l a b) fun r => .rdM fr fun
        | .never => .done (.ref fr) [(fr, .sl e c r), (id, .dead)]
        | _ => .fail
      | false => .fail
    | _ => .fail
  | _ => .fail
def d94 {α : Type} (z : α) (l : List α) (lo : Int) (n : Nat) : Option (List α) := if 0 <= lo /\ lo.toNat + n = l.length then some (a6w z l lo) else none
def c6t {U : Uni} (t : TypeId) (x : U.AV) : U.Q := match x with
  | .vw id c lo n => .rdM id fun m => match m with
    | .sl e c' l => match b77 P t e && c47 P e (U.n c), b1b c l, b19 P e with
      | true, some l, some a => match prj c a with
        | some z => .opt (d94 z l lo n) fun r => .done .unk [(id, .sl e c r)]
        | none => .fail
      | _, _, _ => .fail
    | _ => .fail
  | _ => .fail
def b5w {U : Uni} : List (Nat × Nat) -> List U.AV -> List U.AV
  | [], l => l
  | q :: m, l => (b5w m l).set q.1 .nils
def a7x {U : Uni} : List (Nat × Nat) -> List U.AV -> List U.AV
  | [], l => l
  | q :: m, l => (a7x m l).set q.1 (.ref q.2)
def b32 {U : Uni} (fs : List U.AV) (f : Nat) : Option Nat := match fs[f]? with | some (.ref i) => some i | _ => none
inductive PK (C : Type) where
  | v (c : C) | ls (c : C) | ow (e : TypeId) (c : C) | rp (t : TypeId) (c : C) | io (t : TypeId) (c : C)
  | im (t : TypeId) (c : C) (m : List (Nat × Nat)) | po (b f : Nat) (e : TypeId) (c : C) | cl (f : FuncId) (cs : List C)
  | so (e : TypeId) (c : C)
inductive RK (C : Type) where
  | v (c : C) | ls (c : C) | ow (e : TypeId) (c : C) | bo (t : TypeId) (c : C)
@[reducible] def CapT (U : Uni) : List U.C -> Type
  | [] => Unit
  | c :: cs => U.T c × CapT U cs
@[reducible] def PK.T (U : Uni) : PK U.C -> Type
  | .v c => U.T c | .ls c => List (U.T c) | .ow _ c => List (U.T c) | .rp _ c => U.T c | .io _ c => U.T c | .im _ c _ => U.T c | .po _ _ _ c => List (U.T c) | .cl _ cs => CapT U cs | .so _ c => List (U.T c)
@[reducible] def RK.T (U : Uni) : RK U.C -> Type
  | .v c => U.T c | .ls c => List (U.T c) | .ow _ c => List (U.T c) | .bo _ c => Option (U.T c)
@[reducible] def Args (U : Uni) : List (PK U.C) -> Type
  | [] => Unit
  | p :: ps => p.T U × Args U ps
@[reducible] def Ress (U : Uni) : List (RK U.C) -> Type
  | [] => Unit
  | p :: ps => p.T U × Ress U ps
@[reducible] def Outs (U : Uni) : List (PK U.C) -> Type
  | [] => Unit
  | .io _ c :: ps => U.T c × Outs U ps
  | .im _ c _ :: ps => U.T c × Outs U ps
  | .po _ _ _ c :: ps => List (U.T c) × Outs U ps
  | .so _ c :: ps => List (U.T c) × Outs U ps
  | _ :: ps => Outs U ps
def npK {C : Type} : List (PK C) -> Nat
  | [] => 0
  | .po _ _ _ _ :: ps => npK ps
  | _ :: ps => npK ps + 1
def b7z {C : Type} : PK C -> Bool | .po _ _ _ _ => true | _ => false
def b15 {C : Type} (all : List (PK C)) : Nat -> List (PK C) -> Bool
  | _, [] => true
  | i, .im _ _ m :: ps => (m.all fun q => match all[q.2]? with | some (.po b f _ _) => Nat.beq b i && Nat.beq f q.1 | _ => false) && b15 all (i + 1) ps
  | i, _ :: ps => b15 all (i + 1) ps
def d6y {C : Type} (ps : List (PK C)) : Bool := (ps.drop (npK ps)).all b7z
def a7q {C : Type} (ps : List (PK C)) : Bool := b15 ps 0 ps && d6y ps
structure Sig (U : Uni) where
  ps : List (PK U.C)
  rs : List (RK U.C)
structure Fent (U : Uni) where
  s : Sig U
  B : Type
  F : Args U s.ps -> Option B
  wr : B -> Ress U s.rs × Outs U s.ps
abbrev Phi (U : Uni) := FuncId -> List U.AV -> Option (Fent U)
def argL {U : Uni} (c : U.C) (a : U.AV) (k : List (U.T c) -> List (Nat × U.MC) -> U.Q) : U.Q := match a with
  | .list _ l => match b1b c l with | some l => k l [] | none => .fail
  | .nils => k [] []
  | .ref id => .rdM id fun m => match m with
    | .sl _ c' l' => match b1b c l' with | some l => k l [(id, .fz c' l')] | none => .fail
    | .fz _ l => match b1b c l with | some l => k l [] | none => .fail
    | _ => .fail
  | _ => .fail
def rpQ {U : Uni} (nf : Bool) (c : U.C) (a : U.AV) (k : U.T c -> List (Nat × U.MC) -> U.Q) : U.Q := match a with
  | .rp b => match prj c b with | some x => k x [] | none => .fail
  | .ref id => match nf with
    | true => .fail
    | false => .rdM id fun m => match m with
      | .box t' b => match prj c b with | some x => k x [(id, .dead)] | _ => .fail
      | _ => .fail
  | _ => .fail
def d9a {U : Uni} (nf : Bool) : (cs : List U.C) -> List U.AV -> (CapT U cs -> List (Nat × U.MC) -> U.Q) -> U.Q
  | [], [], k => k () []
  | c :: cs, a :: as, k => rpQ nf c a fun x fz => d9a nf cs as fun xs fzs => k (x, xs) (fz ++ fzs)
  | _, _, _ => .fail
def d97 {U : Uni} (all fs : List U.AV) (m : List (Nat × Nat)) : Bool := m.all fun q => match b32 fs q.1, all[q.2]? with
  | some i, some (.ref j) => Nat.beq i j
  | _, _ => false
def c9y {U : Uni} (nf : Bool) (all : List U.AV) (p : PK U.C) (a : U.AV) (k : p.T U -> List Nat -> List (Nat × U.MC) -> U.Q) : U.Q := match p with
  | .v c => match prj c a with | some x => k x [] [] | none => .fail
  | .ls c => argL c a fun l fz => k l [] fz
  | .ow e c => match a with
    | .nils => k [] [] []
    | .ref id => .rdM id fun m => match m with
      | .sl e' _ l => match Nat.beq e e', b1b c l with | true, some l => k l [id] [] | _, _ => .fail
      | _ => .fail
    | _ => .fail
  | .rp t c => rpQ nf c a fun x fz => k x [] fz
  | .cl f cs => match a with
    | .clo f' as => match Nat.beq f f' with
      | true => d9a nf cs as fun x fz => k x [] fz
      | false => .fail
    | _ => .fail
  | .po _ _ e c => match a with
    | .ref id => .rdM id fun m => match m with
      | .sl e' _ l => match Nat.beq e e', b1b c l with | true, some l => k l [id] [] | _, _ => .fail
      | _ => .fail
    | _ => .fail
  | .so e c => match a with
    | .ref id => .rdM id fun m => match m with
      | .sl e' _ l => match Nat.beq e e', b1b c l with | true, some l => k l [id] [] | _, _ => .fail
      | _ => .fail
    | _ => .fail
  | .im t c mm => match a with
    | .ref id => .rdM id fun m => match m with
      | .box t' (.st c' fs) => match Nat.beq t t' && eqC c c' && d97 all fs mm, U.mkv c (b5w mm fs) with | true, some x => k x [id] [] | _, _ => .fail
      | _ => .fail
    | _ => .fail
  | .io t c => match a with
    | .ref id => .rdM id fun m => match m with
      | .box t' b => match Nat.beq t t', prj c b with | true, some x => k x [id] [] | _, _ => .fail
      | _ => .fail
    | _ => .fail
def d47 {U : Uni} (nf : Bool) (all : List U.AV) : (ps : List (PK U.C)) -> List U.AV -> (Args U ps -> List (List Nat) -> List (Nat × U.MC) -> U.Q) -> U.Q
  | [], [], k => k () [] []
  | p :: ps, a :: as, k => c9y nf all p a fun x i fz => d47 nf all ps as fun xs is fzs => k (x, xs) (i :: is) (fz ++ fzs)
  | _, _, _ => .fail
def d3j {U : Uni} : List (PK U.C) -> List U.AV -> (List U.AV -> U.Q) -> U.Q
  | .im _ _ mm :: ps, .ref id :: as, k => .rdM id fun m => match m with
    | .box _ (.st _ fs) => d3j ps as fun r => k ((mm.filterMap fun q => (b32 fs q.1).map AV.ref) ++ r)
    | _ => .fail
  | _ :: ps, _ :: as, k => d3j ps as k
  | _, _, k => k []
def a7v {U : Uni} (b : Nat) : (k : Nat) -> (ps : List (PK U.C)) -> List (List Nat) -> Outs U ps -> List (Nat × U.MC)
  | k, .io t c :: ps, i :: is, (x, xs) => (i.map fun id => (id, .box t (inj c x))) ++ a7v b (k + 1) ps is xs
  | k, .im t c m :: ps, i :: is, (x, xs) => (i.map fun id => (id, .box t (.st c (a7x (m.map fun q => (q.1, b + q.2)) (U.flds c x))))) ++ a7v b (k + 1) ps is xs
  | k, .po _ _ e c :: ps, _ :: is, (x, xs) => (b + k, .sl e c x) :: a7v b (k + 1) ps is xs
  | k, .so e c :: ps, i :: is, (x, xs) => (i.map fun id => (id, .sl e c x)) ++ a7v b (k + 1) ps is xs
  | k, .ow _ _ :: ps, _ :: is, xs => a7v b (k + 1) ps is xs
  | k, .v _ :: ps, _ :: is, xs => a7v b (k + 1) ps is xs
  | k, .ls _ :: ps, _ :: is, xs => a7v b (k + 1) ps is xs
  | k, .rp _ _ :: ps, _ :: is, xs => a7v b (k + 1) ps is xs
  | k, .cl _ _ :: ps, _ :: is, xs => a7v b (k + 1) ps is xs
  | _, _, _, _ => []
def c11 {U : Uni} : (ps : List (PK U.C)) -> List (List Nat) -> List Nat
  | .ow _ _ :: ps, i :: is => i ++ c11 ps is
  | .po _ _ _ _ :: ps, i :: is => i ++ c11 ps is
  | _ :: ps, _ :: is => c11 ps is
  | _, _ => []
def b6e {U : Uni} : (fr : Nat) -> (rs : List (RK U.C)) -> Ress U rs -> List U.AV × List (Nat × U.MC)
  | _, [], _ => ([], [])
  | fr, .v c :: rs, (x, xs) => let q := b6e fr rs xs; (inj c x :: q.1, q.2)
  | fr, .ls c :: rs, (x, xs) => let q := b6e fr rs xs; (.list c x :: q.1, q.2)
  | fr, .ow e c :: rs, (x, xs) => let q := b6e (fr + 1) rs xs; (.ref fr :: q.1, (fr, .sl e c x) :: q.2)
  | fr, .bo t c :: rs, (some x, xs) => let q := b6e (fr + 1) rs xs; (.ref fr :: q.1, (fr, .box t (inj c x)) :: q.2)
  | fr, .bo t c :: rs, (none, xs) => let q := b6e (fr + 1) rs xs; (.nilp :: q.1, (fr, .dead) :: q.2)
def d3r {U : Uni} : (rs : List (RK U.C)) -> Ress U rs -> (Ress U rs -> U.Q) -> U.Q
  | [], _, k => k ()
  | .v c :: rs, (x, xs), k => d3r rs xs fun ys => k (x, ys)
  | .ls c :: rs, (x, xs), k => d3r rs xs fun ys => k (x, ys)
  | .ow e c :: rs, (x, xs), k => d3r rs xs fun ys => k (x, ys)
  | .bo t c :: rs, (x, xs), k => .cas x (d3r rs xs fun ys => k (none, ys)) fun y => d3r rs xs fun ys => k (some y, ys)
def d8a {U : Uni} : List U.AV -> U.AV
  | [a] => a
  | as => .tup as
def b2h : List (List Nat) -> Bool
  | [] => true
  | i :: is => (i.all fun a => is.all fun js => js.all fun b => !(Nat.beq a b)) && b2h is
def c64 {U : Uni} : RK U.C -> Bool
  | .v c => U.flat c
  | .ls _ => false
  | .ow _ c => U.flat c
  | .bo _ c => U.flat c
def b8o {U : Uni} : PK U.C -> Bool
  | .io _ c => U.flat c
  | .im _ c _ => U.flat c
  | .po _ _ _ c => U.flat c
  | .so _ c => U.flat c
  | _ => true
def Sig.nf {U : Uni} (s : Sig U) : Bool := !(s.rs.all c64 && s.ps.all b8o)
def d8n {U : Uni} (fr n : Nat) (ps : List (PK U.C)) : List Nat := (List.range ps.length).filterMap fun k => match ps[k]? with
  | some p => bif b7z p then some (fr + n + k) else none
  | none => none
def d4o {U : Uni} (Φ : Phi U) (fr : Nat) (f : FuncId) (as : List U.AV) : U.Q := match Φ f as with
  | some fe => match a7q fe.s.ps && Nat.beq as.length (npK fe.s.ps) with
    | true => d3j fe.s.ps as fun ex => d47 fe.s.nf (as ++ ex) fe.s.ps (as ++ ex) fun xs is fz => match b2h (is ++ [fz.map (·.1)]) with
      | true => .opt (fe.F xs) fun b => d3r fe.s.rs (fe.wr b).1 fun r => match b6e fr fe.s.rs r, a7v (fr + fe.s.rs.length) 0 fe.s.ps is (fe.wr b).2 with
        | (vs, ms), os => d66 (ms.map (·.1)) (d66 (d8n fr fe.s.rs.length fe.s.ps) (.done (d8a vs) (ms ++ (os ++ (((c11 fe.s.ps is).map fun id => (id, .dead)) ++ match fe.s.nf with | true => fz | false => [])))))
      | false => .fail
    | false => .fail
  | none => .fail
end
end Go.SX
namespace Go.SX
open Go Go.PL
section
variable (P : Program) {U : Uni} (Φ : Phi U)
def mmQ (mx : Bool) (a b : U.AV) : U.Q := match a, b with
  | .int .i64 a, .int .i64 b => match mx with | true => .done (.int .i64 (max a b)) [] | false => .done (.int .i64 (min a b)) []
  | _, _ => .fail
def d75 (e x y : U.AV) : U.Q := match e, x, y with
  | .bool e, .bool x, .bool y => .done (.bool (bif e then x else y)) []
  | _, _, _ => .fail
def d9x (a : U.AV) : U.Q := match a with
  | .ref id => .rdM id fun | .box t a => .done (.ref id) [] | _ => .fail
  | .rp a => .done (.rp a) []
  | _ => .fail
def opQ (fr : Nat) : Op -> U.Q
  | .move x => rdO x fun a => .done a []
  | .assign x => rdO x fun a => .done a []
  | .pick c a b => rdO c fun e => rdO a fun x => rdO b fun y => d75 e x y
  | .binOp op t x y _ => rdO x fun a => rdO y fun b => match a2h a && a2h b with | true => d9p P op t a b | false => d9o P op t a b
  | .unOp op _ x => rdO x fun a => unQ op a
  | .convert s t x => rdO x fun a => match d5x P s t with | true => d9i P s a | false => d4u P s t a
  | .alloc t => match b19 P t with
    | some a => match a84 P t a with | true => d7l P fr t a | false => .fail
    | none => .fail
  | .box t x => rdO x fun a => match a84 P t a with | true => d7l P fr t a | false => .fail
  | .load t x => rdO x fun a => d7o P t a
  | .store t x y => rdO x fun a => rdO y fun b => c74 P fr t a b
  | .fieldAddr s x f => rdO x fun
    | .fref id c p => c0y P s f id c p
    | a => c75 P s f a
  | .field s x f => rdO x fun a => d46 P s f a
  | .indexAddr t x y => rdO x fun a => rdO y fun b => b23 P t a b
  | .index t x y => rdO x fun a => rdO y fun b => c7s P t a b
  | .build t ps => d4k (ps.toList.map (·.2)) fun as => match d87 P t with | true => c21 P t (ps.toList.map (·.1)) as | false => c92 P t (ps.toList.map (·.1)) as
  | .buildSlice t n ps => d4k (ps.toList.map (·.2)) fun as => a9y P fr t n (ps.toList.map (·.1)) as
  | .slice t x lo hi none => rdO x fun a => c8n P t a lo hi
  | .extract x i => rdO x fun
    | .tup as => match as[i]? with | some a => .done a [] | none => .fail
    | _ => .fail
  | .range t x => rdO x fun a => c7a P fr t a
  | .next x true => rdO x d3q
  | .nilCheck x => rdO x d9x
  | .makeFunc fn first cs => match fn, first.toList with
    | .func f, [] => d4k cs.toList fun as => match as.all a92 with | true => .done (.clo f as) [] | false => .fail
    | _, _ => .fail
  | .call ⟨.value x, args, _⟩ => rdO x fun
    | .clo f cs => d4k args.toList fun as => d4o Φ fr f (as ++ cs)
    | _ => .fail
  | .call ⟨.builtin .len, args, tys⟩ => match args.toList, tys.toList with
    | [x], [t] => rdO x fun a => d9r P t a
    | _, _ => .fail
  | .call ⟨.builtin .clear, args, tys⟩ => match args.toList, tys.toList with
    | [x], [t] => rdO x fun a => c6t P t a
    | _, _ => .fail
  | .call ⟨.builtin .append, args, tys⟩ => match args.toList, tys.toList with
    | [x, y], [t, t'] => match Nat.beq t t' with
      | true => rdO x fun a => rdO y fun b => d8r P fr t a b
      | false => .fail
    | _, _ => .fail
  | .call ⟨.builtin .max, args, _⟩ => match args.toList with
    | [x, y] => rdO x fun a => rdO y fun b => mmQ true a b
    | _ => .fail
  | .call ⟨.builtin .min, args, _⟩ => match args.toList with
    | [x, y] => rdO x fun a => rdO y fun b => mmQ false a b
    | _ => .fail
  | _ => .fail
def opX (sp : List Nat) (i fr : Nat) (op : Op) : U.Q := match sp with
  | [] => opQ P Φ fr op
  | _ :: _ => match op with
    | .slice t x lo hi none => match sp.any (Nat.beq (1000 + i)), sp.any (Nat.beq (2000 + i)) with
      | true, _ => rdO x fun a => d5s P t a lo hi
      | false, true => rdO x fun a => d9k P fr t a lo hi
      | false, false => opQ P Φ fr (.slice t x lo hi none)
    | op => opQ P Φ fr op
def b20 (ops : List Oper) (g : Nat) : Option Tmp := match ops[g]? with | some o => o.dst | none => none
def gq (ops : List Oper) (o : Oper) (q : U.Q) : U.Q := match o.guard with
  | none => q
  | some (g, want) => match b20 ops g with
    | some t => .rdT t fun
      | .bool b => match b == want with | true => q | false => .done .undef []
      | .undef => .done .undef []
      | _ => .fail
    | none => .fail
def d14 (o : Oper) : List Nat := o.op.operands.toList.filterMap fun | .tmp t => some t | _ => none
def bits (l : List Nat) : Nat := l.foldl (fun m k => m ||| 2 ^ k) 0
def d6z (b : Nat) : Nat := (2 ^ (2 * b) - 1) / 3 * 2
def d70 (o : Oper) : Nat := match o.dst with | some d => 2 ^ (2 * d) | none => 0
def a9i (o : Oper) (ws : List (Nat × U.MC)) : Nat := ws.foldl (fun m w => m ||| 2 ^ (2 * w.1 + 1)) (d70 o)
def a81 (ops : List Oper) (o : Oper) (b : Nat) : Nat := bits ((d14 o).map (2 * ·)) ||| d6z b ||| (match o.guard with | some (g, _) => (match b20 ops g with | some t => 2 ^ (2 * t) | none => 0) | none => 0)
def c1e (bef : Nat) (r w : Nat) (hist : List (Nat × Nat × Nat)) : Bool := hist.all fun h => bef.testBit h.1 || (Nat.beq (w &&& (h.2.1 ||| h.2.2)) 0 && Nat.beq (h.2.2 &&& r) 0)
def c9p : List Nat -> List Oper -> List Nat
  | acc, [] => acc
  | acc, o :: r => match o.after.toList.foldl (fun s e => bif Region.binds .any e then s ||| 2 ^ e.on ||| acc.getD e.on 0 else s) 0 with
    | 0 => c9p (acc ++ [0]) r
    | m + 1 => c9p (acc ++ [m + 1]) r
def d65 (ops : List Oper) : List Nat := c9p [] ops
theorem c2n : ∀ (ops : List Oper) (acc : List Nat), c9p acc ops = ops.foldl (fun acc o => acc ++ [o.after.toList.foldl (fun s e => bif Region.binds .any e then s ||| 2 ^ e.on ||| acc.getD e.on 0 else s) 0]) acc
  | [], _ => rfl
  | o :: r, acc => by
    rw [List.foldl_cons, <- c2n r, c9p]
    split <;> rename_i h <;> rw [h]
def a8o (σ : U.St) (x : Operand) : Option Bool := match x with
  | .const (.bool b) => some b
  | .tmp t => match σ.slot t with | .bool b => some b | _ => none
  | _ => none
def a9h (g : Nat) (want : Bool) (i : Nat) (q : Nat × Oper) : Bool := match q.2.guard with
  | some (g', w') => (Nat.beq g' g && (w' == want)) || (Nat.ble i g' && Nat.blt g' q.1)
  | none => false
def hasG (ctx : List (Nat × Bool)) (g : Nat) (want : Bool) : Bool := ctx.any fun c => Nat.beq c.1 g && (c.2 == want)
def okG (ctx : List (Nat × Bool)) (o : Oper) : Bool := match o.guard with | none => true | some (g, w) => hasG ctx g w
def a5b (σ : U.St) (l : List (Nat × Oper)) : U.St := l.foldl (fun σ q => σ.put q.2.dst .unk) σ
structure RegC where
  base : Nat
  ops : List Oper
  bef : List Nat
  draw : Bool
  lim : Nat
  sp : List Nat
def b5u (C : RegC) (l : List (Nat × Oper)) : List (Nat × Nat × Nat) := l.map fun q => (q.1, a81 C.ops q.2 C.lim, d70 q.2)
def a6f (C : RegC) : List (Nat × Nat × Nat) -> List (Nat × Nat × Nat) -> Bool
  | [], _ => true
  | e :: es, hist => c1e (C.bef.getD e.1 0) e.2.1 e.2.2 hist && a6f C es (e :: hist)
def b82 (C : RegC) (ctx : List (Nat × Bool)) (d : Option Tmp) : Bool := match d with
  | some d => ctx.all fun c => match b20 C.ops c.1 with | some t => !(Nat.beq t d) | none => false
  | none => true
def d98 (m s : Nat) : Bool := Nat.beq (m ||| s) s
def d1l (t : Tmp) (l : List (Nat × Oper)) : Bool := l.all fun q => match q.2.dst with | some d => !(Nat.beq d t) | none => false
def b9h (q : Nat × Oper) : Option (Tmp × Tmp × Operand × Operand) := match q.2.dst, q.2.op with
  | some d, .pick (.tmp t) x y => some (d, t, x, y)
  | _, _ => none
def c7e : Op -> U.Q
  | .pick c a b => rdO c fun x => match x with
    | .bool e => (match e with | true => rdO a fun x => .done x [] | false => rdO b fun y => .done y [])
    | _ => .fail
  | _ => .fail
def spG (C : RegC) (o : Oper) : Bool := (match o.guard with | some (g, _) => C.sp.any (Nat.beq g) | none => false) || (match o.op with
  | .pick (.tmp t) _ _ => C.sp.any fun g => match b20 C.ops g with | some t' => Nat.beq t t' | none => false
  | _ => false)
def d2z : Op -> Bool | .pick _ _ _ => true | _ => false
def d3m {R : Type} (σ : U.St) (d : Option Tmp) (k : U.St -> Option R) : Option R := match d with
  | some t => match σ.slot t with
    | .bool e => if e = true then k (σ.put (some t) (.bool true)) else k (σ.put (some t) (.bool false))
    | .undef => k σ
    | _ => none
  | none => none
def a5x (C : RegC) {R : Type} : Nat -> List (Nat × Oper) -> List (Nat × Bool) -> List (Nat × Nat × Nat) -> U.St -> (List (Nat × Nat × Nat) -> U.St -> Option R) -> Option R
  | 0, _, _, _, _, _ => none
  | _ + 1, [], _, hist, σ, K => K hist σ
  | n + 1, (i, o) :: rest, ctx, hist, σ, K =>
    match (spG C o || C.sp.any (Nat.beq i)) && ctx.isEmpty with
    | true => (gq C.ops o (match d2z o.op with | true => c7e o.op | false => opX P Φ C.sp i (C.base + 16 * i) o.op)).eval σ 0 fun m v ws => match !C.draw || c1e (C.bef.getD i 0) m (a9i o ws) hist with
      | true => match C.sp.any (Nat.beq i) with
        | true => d3m (σ.app o.dst v ws) o.dst fun σ' => a5x C n rest [] ((i, m, a9i o ws) :: hist) σ' K
        | false => a5x C n rest [] ((i, m, a9i o ws) :: hist) (σ.app o.dst v ws) K
      | false => none
    | false => match okG ctx o with
    | true => (opX P Φ C.sp i (C.base + 16 * i) o.op).eval σ 0 fun m v ws => match ctx with
      | [] => match !C.draw || c1e (C.bef.getD i 0) m (a9i o ws) hist with
        | true => a5x C n rest [] ((i, m, a9i o ws) :: hist) (σ.app o.dst v ws) K
        | false => none
      | c :: ctx => match ws with
        | [] => match b82 C (c :: ctx) o.dst && d98 m (a81 C.ops o C.lim) with
          | true => a5x C n rest (c :: ctx) hist (σ.app o.dst v []) K
          | false => none
        | _ :: _ => none
    | false => match o.guard with
      | none => none
      | some (g, want) => match b20 C.ops g with
        | none => none
        | some t => match σ.slot t with
          | .bool e => match ((i, o) :: rest).dropWhile (a9h g want i) with
            | [] => none
            | p :: rest' => match b9h p with
              | none => none
              | some (d, t', x, y) => match Nat.beq t' t && okG ctx p.2 && b82 C ctx (some d) && d1l t (((i, o) :: rest).takeWhile (a9h g want i)) && ((((i, o) :: rest).takeWhile (a9h g want i)).all fun q => b82 C ctx q.2.dst) with
                | false => none
                | true => Option.bind (match want with
                  | true => if e = true then a5x C n (((i, o) :: rest).takeWhile (a9h g want i)) ((g, true) :: ctx) hist σ fun _ σ' => a8o σ' x else a8o (a5b σ (((i, o) :: rest).takeWhile (a9h g want i))) y
                  | false => if e = true then a8o (a5b σ (((i, o) :: rest).takeWhile (a9h g want i))) x else a5x C n (((i, o) :: rest).takeWhile (a9h g want i)) ((g, false) :: ctx) hist σ fun _ σ' => a8o σ' y) fun c =>
                  match ctx with
                  | [] => match !C.draw || a6f C (b5u C (((i, o) :: rest).takeWhile (a9h g want i) ++ [p])) hist with
                    | true => a5x C n rest' [] ((b5u C (((i, o) :: rest).takeWhile (a9h g want i) ++ [p])).reverse ++ hist) ((a5b σ (((i, o) :: rest).takeWhile (a9h g want i))).put (some d) (.bool c)) K
                    | false => none
                  | c' :: ctx => a5x C n rest' (c' :: ctx) hist ((a5b σ (((i, o) :: rest).takeWhile (a9h g want i))).put (some d) (.bool c)) K
          | _ => none
def a4m (k : Nat) : List Oper -> List (Nat × Oper)
  | [] => []
  | o :: r => (k, o) :: a4m (k + 1) r
def befD (ops : List Oper) (draw : Bool) : List Nat := match draw with | true => d65 ops | false => []
def b8y (sp : List Nat) (ops : List Oper) (draw : Bool) {R : Type} (σ : U.St) (K : U.St -> Option R) : Option R :=
  let n := ops.length
  a5x P Φ ⟨σ.nx, ops, befD ops draw, draw, σ.nx + 16 * n, sp⟩ (n + 1) (a4m 0 ops) [] [] σ fun _ σ' => K ⟨σ'.sl, σ'.me, σ.nx + 16 * n⟩
def c9w {U : Uni} : (cs : List U.C) -> CapT U cs -> List U.AV
  | [], _ => []
  | _ :: cs, (x, xs) => .rp (inj _ x) :: c9w cs xs
def d8o {U : Uni} : (cs : List U.C) -> List U.AV -> Option (CapT U cs)
  | [], [] => some ()
  | c :: cs, .rp a :: as => (match prj c a with | some x => (match d8o cs as with | some xs => some (x, xs) | none => none) | none => none)
  | _, _ => none
inductive EK (C : Type) where
  | v (t : Nat) (c : C)
  | ls (t : Nat) (c : C)
  | ow (t : Nat) (id : Nat) (e : TypeId) (c : C)
  | bx (t : Nat) (id : Nat) (ty : TypeId) (c : C)
  | rp (t : Nat) (c : C)
  | of (t f : Nat) (id : Nat) (e : TypeId) (c : C)
  | bm (t : Nat) (id : Nat) (ty : TypeId) (c : C) (m : List (Nat × Nat))
  | it (t : Nat) (id : Nat)
  | cl (t : Nat) (f : FuncId) (cs : List C)
  | vw (t : Nat) (id : Nat) (c : C)
@[reducible] def EK.T (U : Uni) : EK U.C -> Type
  | .v _ c => U.T c | .ls _ c => List (U.T c) | .ow _ _ _ c => List (U.T c) | .bx _ _ _ c => U.T c | .rp _ c => U.T c | .of _ _ _ _ c => List (U.T c) | .bm _ _ _ c _ => U.T c | .it _ _ => ByteArray × Int | .cl _ _ cs => CapT U cs | .vw _ _ _ => Int × Nat
@[reducible] def Keep (U : Uni) : List (EK U.C) -> Type
  | [] => Unit
  | [p] => p.T U
  | p :: q :: ps => p.T U × Keep U (q :: ps)
def d4s {U : Uni} {p : EK U.C} : (es : List (EK U.C)) -> p.T U -> Keep U es -> Keep U (p :: es)
  | [], x, _ => x
  | _ :: _, x, xs => (x, xs)
def a3u {U : Uni} {p : EK U.C} : (es : List (EK U.C)) -> Keep U (p :: es) -> p.T U
  | [], x => x
  | _ :: _, s => s.1
def a2o {U : Uni} {p : EK U.C} : (es : List (EK U.C)) -> Keep U (p :: es) -> Keep U es
  | [], _ => ()
  | _ :: _, s => s.2
def c4b {U : Uni} {p : EK U.C} (es : List (EK U.C)) (x : Option (p.T U)) (y : Option (Keep U es)) : Option (Keep U (p :: es)) := match x with
  | some a => (match y with | some b => some (d4s es a b) | none => none)
  | none => none
def d4h {U : Uni} (c : U.C) (a : U.AV) : Option (List (U.T c)) := match a with
  | .list _ l => b1b c l
  | .nils => some []
  | _ => none
def d5f {U : Uni} (σ : U.St) (c : U.C) (a : U.AV) : Option (List (U.T c)) := match a with
  | .ref id => (match σ.mem id with | .fz _ l => b1b c l | _ => none)
  | a => d4h c a
def alOK {U : Uni} (ren : List (Nat × Nat)) (σ : U.St) (al : List (Nat × Nat)) : Bool := al.all fun a => match σ.slot a.1 with
  | .ref id' => ren.any fun q => Nat.beq q.1 id' && Nat.beq q.2 a.2
  | _ => false
def d6o {U : Uni} (ren : List (Nat × Nat)) (fs : List U.AV) (m : List (Nat × Nat)) : Bool := m.all fun q => match b32 fs q.1 with
  | some i => ren.any fun r => Nat.beq r.1 i && Nat.beq r.2 q.2
  | none => false
def b5n {U : Uni} (pins : List Nat) (al : List (Nat × Nat)) : (es : List (EK U.C)) -> (ren : List (Nat × Nat)) -> U.St -> Option (Keep U es)
  | [], ren, σ => match (pins.all fun i => ren.any fun q => Nat.beq q.1 i && Nat.beq q.2 i) && alOK ren σ al with
    | true => some ()
    | false => none
  | .v t c :: es, ren, σ => c4b es (prj c (σ.slot t)) (b5n pins al es ren σ)
  | .ls t c :: es, ren, σ => c4b es (d5f σ c (σ.slot t)) (b5n pins al es ren σ)
  | .ow t id e c :: es, ren, σ => match σ.slot t with
    | .nils => c4b es (some []) (b5n pins al es ren σ)
    | .ref id' => (match (ren.any fun q => Nat.beq q.1 id'), σ.mem id' with
      | false, .sl e' _ l => (match Nat.beq e e' with
        | true => c4b es (b1b c l) (b5n pins al es ((id', id) :: ren) σ)
        | false => none)
      | _, _ => none)
    | _ => none
  | .bx t id ty c :: es, ren, σ => match σ.slot t with
    | .ref id' => (match (ren.any fun q => Nat.beq q.1 id'), σ.mem id' with
      | false, .box ty' b => (match Nat.beq ty ty' with
        | true => c4b es (prj c b) (b5n pins al es ((id', id) :: ren) σ)
        | false => none)
      | _, _ => none)
    | _ => none
  | .rp t c :: es, ren, σ => match σ.slot t with
    | .rp b => c4b es (prj c b) (b5n pins al es ren σ)
    | _ => none
  | .of t f id e c :: es, ren, σ => match σ.slot t with
    | .ref b => (match σ.mem b with
      | .box _ (.st _ fs) => (match b32 fs f with
        | some id' => (match (ren.any fun q => Nat.beq q.1 id'), σ.mem id' with
          | false, .sl e' _ l => (match Nat.beq e e' with
            | true => c4b es (b1b c l) (b5n pins al es ((id', id) :: ren) σ)
            | false => none)
          | _, _ => none)
        | none => none)
      | _ => none)
    | _ => none
  | .bm t id ty c m :: es, ren, σ => match σ.slot t with
    | .ref id' => (match (ren.any fun q => Nat.beq q.1 id'), σ.mem id' with
      | false, .box ty' (.st c' fs) => (match Nat.beq ty ty' && eqC c c' && d6o ren fs m with
        | true => c4b es (U.mkv c (b5w m fs)) (b5n pins al es ((id', id) :: ren) σ)
        | false => none)
      | _, _ => none)
    | _ => none
  | .it t id :: es, ren, σ => match σ.slot t with
    | .ref id' => (match (ren.any fun q => Nat.beq q.1 id'), σ.mem id' with
      | false, .it s p => c4b es (some (s, p)) (b5n pins al es ((id', id) :: ren) σ)
      | _, _ => none)
    | _ => none
  | .cl t f cs :: es, ren, σ => match σ.slot t with
    | .clo f' as => (match Nat.beq f f' with
      | true => c4b es (d8o cs as) (b5n pins al es ren σ)
      | false => none)
    | _ => none
  | .vw t id c :: es, ren, σ => match σ.slot t with
    | .vw id' c' lo n => (match (ren.any fun q => Nat.beq q.1 id' && Nat.beq q.2 id) && eqC c c' with
      | true => c4b es (some (lo, n)) (b5n pins al es ren σ)
      | false => none)
    | _ => none
def a5o {C : Type} : List (EK C) -> List Nat
  | .ow _ id _ _ :: es => id :: a5o es
  | .bx _ id _ _ :: es => id :: a5o es
  | .of _ _ id _ _ :: es => id :: a5o es
  | .bm _ id _ _ _ :: es => id :: a5o es
  | .it _ id :: es => id :: a5o es
  | _ :: es => a5o es
  | [] => []
def b2o : List Nat -> Bool
  | [] => true
  | i :: is => !(is.any (Nat.beq i)) && b2o is
def d2s {U : Uni} (σ : U.St) : List (EK U.C) -> List (Nat × U.MC)
  | [] => []
  | .ls t _ :: es => (match σ.slot t with
    | .ref id => (match σ.mem id with
      | .sl _ c l => (id, .fz c l) :: d2s σ es
      | _ => d2s σ es)
    | _ => d2s σ es)
  | _ :: es => d2s σ es
def d1c {U : Uni} (pins : List Nat) (al : List (Nat × Nat)) (es : List (EK U.C)) (σ : U.St) : Option (Keep U es) := match b2o (a5o es) with
  | true => b5n pins al es [] (σ.app none .unk (d2s σ es))
  | false => none
def a73 {U : Uni} (al : List (Nat × Nat)) : (es : List (EK U.C)) -> Keep U es -> U.St
  | [], _ => ⟨al.map fun a => (a.1, .ref a.2), [], al.foldl (fun m a => max m (a.2 + 1)) 0⟩
  | .v t c :: es, s => let σ := a73 al es (a2o es s); ⟨(t, inj c (a3u es s)) :: σ.sl, σ.me, σ.nx⟩
  | .ls t c :: es, s => let σ := a73 al es (a2o es s); ⟨(t, .list c (a3u es s)) :: σ.sl, σ.me, σ.nx⟩
  | .ow t id e c :: es, s => let σ := a73 al es (a2o es s); ⟨(t, .ref id) :: σ.sl, (id, .sl e c (a3u es s)) :: σ.me, max (id + 1) σ.nx⟩
  | .bx t id ty c :: es, s => let σ := a73 al es (a2o es s); ⟨(t, .ref id) :: σ.sl, (id, .box ty (inj c (a3u es s))) :: σ.me, max (id + 1) σ.nx⟩
  | .rp t c :: es, s => let σ := a73 al es (a2o es s); ⟨(t, .rp (inj c (a3u es s))) :: σ.sl, σ.me, σ.nx⟩
  | .of t f id e c :: es, s => let σ := a73 al es (a2o es s); ⟨σ.sl, (id, .sl e c (a3u es s)) :: σ.me, max (id + 1) σ.nx⟩
  | .bm t id ty c m :: es, s => let σ := a73 al es (a2o es s); ⟨(t, .ref id) :: σ.sl, (id, .box ty (.st c (a7x m (U.flds c (a3u es s))))) :: σ.me, max (id + 1) σ.nx⟩
  | .it t id :: es, s => let σ := a73 al es (a2o es s); ⟨(t, .ref id) :: σ.sl, (id, .it (a3u es s).1 (a3u es s).2) :: σ.me, max (id + 1) σ.nx⟩
  | .cl t f cs :: es, s => let σ := a73 al es (a2o es s); ⟨(t, .clo f (c9w cs (a3u es s))) :: σ.sl, σ.me, σ.nx⟩
  | .vw t id c :: es, s => let σ := a73 al es (a2o es s); ⟨(t, .vw id c (a3u es s).1 (a3u es s).2) :: σ.sl, σ.me, σ.nx⟩
def isRp {U : Uni} : U.AV -> Bool | .rp _ => true | _ => false
def c4u {U : Uni} : U.AV -> Bool
  | .bool _ | .int _ _ | .str _ | .val _ _ | .list _ _ | .nils | .nilp | .undef | .rp _ => true
  | .clo _ as => as.all isRp
  | _ => false
def c9v {U : Uni} (σ : U.St) : List Nat -> List (Nat × U.AV)
  | [] => []
  | t :: r => match c4u (σ.slot t) with
    | true => (t, σ.slot t) :: c9v σ r
    | false => c9v σ r
def c5v {U : Uni} (σ : U.St) (inv : List Nat) (al : List (Nat × Nat)) (es : List (EK U.C)) (s : Keep U es) : U.St := let σ' := a73 al es s; ⟨c9v σ inv ++ σ'.sl, σ'.me, σ'.nx⟩
inductive Ann (C : Type) where
  | n
  | s (a b : Ann C)
  | j (al : List (Nat × Nat)) (es : List (EK C)) (a b : Ann C)
  | l (inv : List Nat) (al : List (Nat × Nat)) (es : List (EK C)) (a : Ann C)
  | g (sp : List Nat)
  | z (fz sp : List Nat)
structure Kont (U : Uni) (R : Type) where
  norm : U.St -> Option R
  exit : Nat -> U.St -> Option R
  ret : U.St -> Option R
def Ann.sp {C : Type} : Ann C -> List Nat | .g sp => sp | .z _ sp => sp | _ => []
def Ann.fz {C : Type} : Ann C -> List Nat | .z fz _ => fz | _ => []
def d67 {U : Uni} (σ : U.St) : List Nat -> List (Nat × U.MC)
  | [] => []
  | t :: ts => (match σ.slot t with
    | .ref id => (match σ.mem id with
      | .sl _ c l => (id, .fz c l) :: d67 σ ts
      | _ => d67 σ ts)
    | _ => d67 σ ts)
def frzA {U : Uni} (σ : U.St) (ts : List Nat) : U.St := match ts with | [] => σ | t :: ts => σ.app none .unk (d67 σ (t :: ts))
def Ann.fst {C : Type} : Ann C -> Ann C | .s a _ => a | .j _ _ a _ => a | a => a
def Ann.snd {C : Type} : Ann C -> Ann C | .s _ b => b | .j _ _ _ b => b | _ => .n
abbrev bindO {α β : Type} (o : Option α) (f : α -> Option β) : Option β := match o with
  | some a => f a
  | none => none
def joinC {α β : Type} (f : α -> Option β) (a : α) : Option β := f a
def a9u : Code -> List Nat
  | .region _ ops _ => ops.toList.filterMap (·.dst)
  | .seq a b => a9u a ++ a9u b
  | .cond _ a b => a9u a ++ a9u b
  | .block _ a => a9u a
  | .loop a => a9u a
  | _ => []
def d2l (a b : List Nat) : Bool := a.all fun x => !(b.any (Nat.beq x))
def den {R : Type} (pins : List Nat) : Code -> Ann U.C -> U.St -> Kont U R -> Option R
  | .skip, _, σ, k => k.norm σ
  | .region _ ops draw, an, σ, k => b8y P Φ an.sp ops.toList draw (frzA σ an.fz) k.norm
  | .seq a b, an, σ, k => match an with
    | .j al es a' b' => den pins a a' σ ⟨fun σ => bindO (d1c pins al es σ) fun s => joinC (fun s => den pins b b' (a73 al es s) k) s, k.exit, k.ret⟩
    | an => den pins a an.fst σ ⟨fun σ => den pins b an.snd σ k, k.exit, k.ret⟩
  | .cond c a b, an, σ, k => match a8o σ c with
    | some e => if e = true then den pins a an.fst σ k else den pins b an.snd σ k
    | none => none
  | .block id a, an, σ, k => den pins a an σ ⟨k.norm, fun i σ => match Nat.beq i id with | true => k.norm σ | false => k.exit i σ, k.ret⟩
  | .loop a, .l inv al es an, σ, k => match d2l inv (a9u a) with
    | true => bindO (d1c pins al es σ) fun s => j6 FU (fun rec s => den pins a an (c5v σ inv al es s) ⟨fun σ' => bindO (d1c pins al es σ') rec, k.exit, k.ret⟩) s
    | false => none
  | .exit id, _, σ, k => k.exit id σ
  | .ret, _, σ, k => k.ret σ
  | _, _, _, _ => none
def m6 {U : Uni} : (i : Nat) -> (ps : List (PK U.C)) -> Args U ps -> U.St
  | i, [], _ => ⟨[], [], i⟩
  | i, .v c :: ps, (x, xs) => let σ := m6 (i + 1) ps xs; ⟨(i, inj c x) :: σ.sl, σ.me, σ.nx⟩
  | i, .ls c :: ps, (x, xs) => let σ := m6 (i + 1) ps xs; ⟨(i, .list c x) :: σ.sl, σ.me, σ.nx⟩
  | i, .ow e c :: ps, (x, xs) => let σ := m6 (i + 1) ps xs; ⟨(i, .ref i) :: σ.sl, (i, .sl e c x) :: σ.me, σ.nx⟩
  | i, .rp _ c :: ps, (x, xs) => let σ := m6 (i + 1) ps xs; ⟨(i, .rp (inj c x)) :: σ.sl, σ.me, σ.nx⟩
  | i, .io t c :: ps, (x, xs) => let σ := m6 (i + 1) ps xs; ⟨(i, .ref i) :: σ.sl, (i, .box t (inj c x)) :: σ.me, σ.nx⟩
  | i, .im t c m :: ps, (x, xs) => let σ := m6 (i + 1) ps xs; ⟨(i, .ref i) :: σ.sl, (i, .box t (.st c (a7x m (U.flds c x)))) :: σ.me, σ.nx⟩
  | i, .po _ _ e c :: ps, (x, xs) => let σ := m6 (i + 1) ps xs; ⟨σ.sl, (i, .sl e c x) :: σ.me, σ.nx⟩
  | i, .so e c :: ps, (x, xs) => let σ := m6 (i + 1) ps xs; ⟨(i, .ref i) :: σ.sl, (i, .sl e c x) :: σ.me, σ.nx⟩
  | i, .cl f cs :: ps, (x, xs) => let σ := m6 (i + 1) ps xs; ⟨(i, .clo f (c9w cs x)) :: σ.sl, σ.me, σ.nx⟩
def b5z {α β : Type} (x : Option α) (y : Option β) : Option (α × β) := match x with
  | some a => (match y with | some b => some (a, b) | none => none)
  | none => none
def d4q {U : Uni} (σ : U.St) (a : U.AV) : U.AV := match a with
  | .ref id => (match σ.mem id with | .fz c l => .list c l | _ => .ref id)
  | a => a
def stF {U : Uni} (σ : U.St) (a : U.AV) : U.AV := match a with
  | .st c fs => .st c (fs.map (d4q σ))
  | a => a
def c9u {U : Uni} (σ : U.St) : ResultVar -> Option U.AV
  | .tmp t => some (σ.slot t)
  | .cell t ty => match σ.slot t with
    | .ref id => (match σ.mem id with
      | .box _ b => (match a84 P ty (stF σ b) with | true => some (stF σ b) | false => none)
      | _ => none)
    | _ => none
def d5r {U : Uni} (σ : U.St) : List U.AV -> List (Nat × U.MC)
  | [] => []
  | .ref id :: r => (match σ.mem id with | .sl _ c l => (id, .fz c l) :: d5r σ r | _ => d5r σ r)
  | _ :: r => d5r σ r
def d3u {U : Uni} (σ : U.St) : List ResultVar -> List (Nat × U.MC)
  | [] => []
  | .cell t _ :: r => (match σ.slot t with
    | .ref id => (match σ.mem id with
      | .box _ (.st _ fs) => d5r σ fs ++ d3u σ r
      | _ => d3u σ r)
    | _ => d3u σ r)
  | _ :: r => d3u σ r
def resL {U : Uni} (σ : U.St) (us : List Nat) (c : U.C) (a : U.AV) : Option (List (U.T c) × List Nat) := match a with
  | .list _ l => (match b1b c l with | some l => some (l, us) | none => none)
  | .nils => some ([], us)
  | .ref id => (match us.any (Nat.beq id), σ.mem id with
    | false, .sl _ _ l => (match b1b c l with | some l => some (l, id :: us) | none => none)
    | _, .fz _ l => (match b1b c l with | some l => some (l, us) | none => none)
    | _, _ => none)
  | _ => none
def resO {U : Uni} (σ : U.St) (us : List Nat) (e : TypeId) (c : U.C) (a : U.AV) : Option (List (U.T c) × List Nat) := match a with
  | .nils => some ([], us)
  | .ref id => (match us.any (Nat.beq id), σ.mem id with
    | false, .sl e' _ l => (match Nat.beq e e', b1b c l with | true, some l => some (l, id :: us) | _, _ => none)
    | _, _ => none)
  | _ => none
def resP {U : Uni} (σ : U.St) (us : List Nat) (t : TypeId) (c : U.C) (a : U.AV) : Option (Option (U.T c) × List Nat) := match a with
  | .nilp => some (none, us)
  | .ref id => (match us.any (Nat.beq id), σ.mem id with
    | false, .box t' b => (match Nat.beq t t', prj c b with | true, some x => some (some x, id :: us) | _, _ => none)
    | _, _ => none)
  | _ => none
def c5f {U : Uni} (σ : U.St) : (b0n : List Nat) -> (rs : List (RK U.C)) -> List ResultVar -> Option (Ress U rs)
  | _, [], [] => some ()
  | us, .v c :: rs, r :: l => match c9u P σ r with
    | some a => b5z (prj c a) (c5f σ us rs l)
    | none => none
  | us, .ls c :: rs, r :: l => match c9u P σ r with
    | some a => (match resL σ us c a with
      | some (x, us') => b5z (some x) (c5f σ us' rs l)
      | none => none)
    | none => none
  | us, .ow e c :: rs, r :: l => match c9u P σ r with
    | some a => (match resO σ us e c a with
      | some (x, us') => b5z (some x) (c5f σ us' rs l)
      | none => none)
    | none => none
  | us, .bo t c :: rs, r :: l => match c9u P σ r with
    | some a => (match resP σ us t c a with
      | some (x, us') => b5z (some x) (c5f σ us' rs l)
      | none => none)
    | none => none
  | _, _, _ => none
def c5r {U : Uni} (σ : U.St) (b f : Nat) : Option Nat := match σ.mem b with
  | .box _ (.st _ fs) => b32 fs f
  | _ => none
def ioP {U : Uni} (σ : U.St) : Nat -> List (PK U.C) -> List Nat
  | _, [] => []
  | i, .io _ _ :: ps => i :: ioP σ (i + 1) ps
  | i, .im _ _ _ :: ps => i :: ioP σ (i + 1) ps
  | i, .so _ _ :: ps => i :: ioP σ (i + 1) ps
  | i, .po b f _ _ :: ps => (match c5r σ b f with | some j => j | none => 0) :: ioP σ (i + 1) ps
  | i, _ :: ps => ioP σ (i + 1) ps
def b60 {U : Uni} (σ : U.St) : (i : Nat) -> (ps : List (PK U.C)) -> Option (Outs U ps)
  | _, [] => some ()
  | i, .io t c :: ps => match σ.mem i with
    | .box t' b => (match Nat.beq t t' with
      | true => b5z (prj c b) (b60 σ (i + 1) ps)
      | false => none)
    | _ => none
  | i, .im t c m :: ps => match σ.mem i with
    | .box t' (.st c' fs) => (match Nat.beq t t' && eqC c c' with
      | true => b5z (U.mkv c (b5w m fs)) (b60 σ (i + 1) ps)
      | false => none)
    | _ => none
  | i, .po b f e c :: ps => match c5r σ b f with
    | some j => (match σ.mem j with
      | .sl e' _ l => (match Nat.beq e e' with
        | true => b5z (b1b c l) (b60 σ (i + 1) ps)
        | false => none)
      | _ => none)
    | none => none
  | i, .so e c :: ps => match σ.mem i with
    | .sl e' _ l => (match Nat.beq e e' with
      | true => b5z (b1b c l) (b60 σ (i + 1) ps)
      | false => none)
    | _ => none
  | i, .cl _ _ :: ps => b60 σ (i + 1) ps
  | i, .v _ :: ps => b60 σ (i + 1) ps
  | i, .ls _ :: ps => b60 σ (i + 1) ps
  | i, .ow _ _ :: ps => b60 σ (i + 1) ps
  | i, .rp _ _ :: ps => b60 σ (i + 1) ps
def d8u {U : Uni} (s : Sig U) (rv : List ResultVar) (σ : U.St) : Option (Ress U s.rs × Outs U s.ps) :=
  match b2o (ioP σ 0 s.ps) with
  | true => match c5f P σ (ioP σ 0 s.ps) s.rs rv with
    | some r => match b60 σ 0 s.ps with | some o => some (r, o) | none => none
    | none => none
  | false => none
def d78 {U : Uni} (s : Sig U) (rv : List ResultVar) (σ : U.St) : Option (Ress U s.rs × Outs U s.ps) := d8u P s rv (σ.app none .unk (d3u σ rv))
def ioI {C : Type} : Nat -> List (PK C) -> List Nat
  | _, [] => []
  | i, .io _ _ :: ps => i :: ioI (i + 1) ps
  | i, .im _ _ _ :: ps => i :: ioI (i + 1) ps
  | i, .so _ _ :: ps => i :: ioI (i + 1) ps
  | i, _ :: ps => ioI (i + 1) ps
def unK {s : Sig U} {B : Type} (un : Ress U s.rs × Outs U s.ps -> B) (x : Option (Ress U s.rs × Outs U s.ps)) : Option B := match x with
  | some p => some (un p)
  | none => none
def c7j (s : Sig U) {B : Type} (un : Ress U s.rs × Outs U s.ps -> B) (fn : Func) (an : Ann U.C) (x : Args U s.ps) : Option B := match fn.body with
  | some c => den P Φ (ioI 0 s.ps) c an (m6 0 s.ps x) ⟨fun σ => unK un (d78 P s fn.results.toList σ), fun _ _ => none, fun σ => unK un (d78 P s fn.results.toList σ)⟩
  | none => none
end
end Go.SX
namespace Go.SX
open Go Go.PL
def i8 {α β : Type} (p : α -> β -> Prop) : List α -> List β -> Prop
  | [], [] => True
  | a :: as, b :: bs => p a b /\ i8 p as bs
  | _, _ => False
theorem i8.mono {α β : Type} {p q : α -> β -> Prop} (h : ∀ a b, p a b -> q a b) : ∀ {l : List α} {r : List β}, i8 p l r -> i8 q l r
  | [], [], _ => trivial
  | _ :: _, _ :: _, hh => ⟨h _ _ hh.1, i8.mono h hh.2⟩
  | [], _ :: _, hh => hh.elim
  | _ :: _, [], hh => hh.elim
theorem i8.length {α β : Type} {p : α -> β -> Prop} : ∀ {l : List α} {r : List β}, i8 p l r -> l.length = r.length
  | [], [], _ => rfl
  | _ :: _, _ :: _, hh => by simp [i8.length hh.2]
  | [], _ :: _, hh => hh.elim
  | _ :: _, [], hh => hh.elim
theorem i8.get {α β : Type} {p : α -> β -> Prop} : ∀ {l : List α} {r : List β}, i8 p l r -> ∀ {i : Nat} {a : α}, l[i]? = some a -> ∃ b, r[i]? = some b /\ p a b
  | [], [], _, i, a, ha => by simp at ha
  | x :: _, y :: _, hh, 0, a, ha => by simp at ha; subst ha; exact ⟨y, rfl, hh.1⟩
  | _ :: _, _ :: _, hh, i + 1, a, ha => by simpa using i8.get hh.2 (i := i) (by simpa using ha)
  | [], _ :: _, hh, _, _, _ => hh.elim
  | _ :: _, [], hh, _, _, _ => hh.elim
theorem i8.getR {α β : Type} {p : α -> β -> Prop} : ∀ {l : List α} {r : List β}, i8 p l r -> ∀ {i : Nat} {b : β}, r[i]? = some b -> ∃ a, l[i]? = some a /\ p a b
  | [], [], _, i, a, ha => by simp at ha
  | x :: _, y :: _, hh, 0, a, ha => by simp at ha; subst ha; exact ⟨x, rfl, hh.1⟩
  | _ :: _, _ :: _, hh, i + 1, a, ha => by simpa using i8.getR hh.2 (i := i) (by simpa using ha)
  | [], _ :: _, hh, _, _, _ => hh.elim
  | _ :: _, [], hh, _, _, _ => hh.elim
theorem i8.of_get {α β : Type} {p : α -> β -> Prop} : ∀ {l : List α} {r : List β}, l.length = r.length -> (∀ (i : Nat) (a : α) (b : β), l[i]? = some a -> r[i]? = some b -> p a b) -> i8 p l r
  | [], [], _, _ => trivial
  | x :: l, y :: r, hl, h => ⟨h 0 x y rfl rfl, i8.of_get (by simpa using hl) fun i a b ha hb => h (i + 1) a b (by simpa using ha) (by simpa using hb)⟩
  | [], _ :: _, hl, _ => by simp at hl
  | _ :: _, [], hl, _ => by simp at hl
def AEq {U : Uni} (a b : U.AV) : Prop := a = b \/ (a = .nils /\ ∃ c, b = .list c [])
structure UOK (U : Uni) : Prop where
  lay : ∀ c x, (U.flds c x).map m8 = U.lay c
  kind : ∀ c x, (U.flds c x).all b0k = true
  sum : ∀ c, U.n c = ((U.lay c).map osz).sum
  sc : ∀ c, U.ag c = false -> U.lay c = [none]
  mkl : ∀ c as y, U.mkv c as = some y -> i8 AEq as (U.flds c y)
  flat : ∀ c x, U.flat c = true -> (U.flds c x).all d7w = true
  arr : ∀ c x, U.isA c = true -> U.flds c x = (U.al c x).map (inj (U.ae c)) /\ (U.al c x).length = U.an c
  ars : ∀ c x i y, U.isA c = true -> U.al c (U.as c x i y) = b01 (U.al c x) i y
  by8 : ∀ c x, U.b8 c = true -> U.flds c x = [.int .u8 (U.t8 c x)]
section
variable {U : Uni}
def q0 (R : ∀ c, TyR (U.T c)) (G : Nat -> Prop) (w : World) : U.AV -> List Value -> Prop
  | .bool b, cs => cs = [.bool b]
  | .int k n, cs => cs = [.int k n]
  | .str s, cs => cs = [.string s]
  | .val c x, cs => (R c).rep G w cs x
  | .list c l, cs => ∃ v, cs = [v] /\ d5 (R c) G w v l
  | .nils, cs => cs = [.slice none 0 0]
  | _, _ => False
theorem q0.ext {R : ∀ c, TyR (U.T c)} {G : Nat -> Prop} {w w' : World} {a : U.AV} {cs : List Value} (h : q0 R G w a cs) (hE : Ext G w w') : q0 R G w' a cs := by
  cases a <;> simp only [q0] at * <;> first
    | exact h
    | exact (R _).ext h hE
    | (obtain ⟨v, hv, hr⟩ := h; exact ⟨v, hv, hr.ext hE⟩)
theorem q0.weaken {R : ∀ c, TyR (U.T c)} {G G' : Nat -> Prop} {w : World} {a : U.AV} {cs : List Value} (h : q0 R G w a cs) (hG : ∀ b, b < w.heap.size -> G' b -> G b) : q0 R G' w a cs := by
  cases a <;> simp only [q0] at * <;> first
    | exact h
    | exact (R _).weaken h hG
    | (obtain ⟨v, hv, hr⟩ := h; exact ⟨v, hv, hr.weaken hG⟩)
def c9 (R : ∀ c, TyR (U.T c)) (G : Nat -> Prop) (w : World) : U.AV -> List Value -> Prop
  | .bool b, cs => cs = [.bool b]
  | .int k n, cs => cs = [.int k n]
  | .str s, cs => cs = [.string s]
  | .val c x, cs => (R c).rep G w cs x
  | .list c l, cs => ∃ v, cs = [v] /\ d5 (R c) G w v l
  | .nils, cs => cs = [.slice none 0 0]
  | .rp a, cs => ∃ ad cs', cs = [.pointer (some ad)] /\ ad.block < w.heap.size /\ ¬ G ad.block /\ CA w ad cs' /\ q0 R G w a cs'
  | _, _ => False
theorem c9.of0 {R : ∀ c, TyR (U.T c)} {G : Nat -> Prop} {w : World} {a : U.AV} {cs : List Value} (h : q0 R G w a cs) : c9 R G w a cs := by
  cases a <;> first
    | exact h
    | exact h.elim
theorem c9.to0 {R : ∀ c, TyR (U.T c)} {G : Nat -> Prop} {w : World} {a : U.AV} {cs : List Value} (hk : c68 a = true) (h : c9 R G w a cs) : q0 R G w a cs := by
  cases a <;> first
    | exact h
    | (cases hk; done)
theorem c9.ext {R : ∀ c, TyR (U.T c)} {G : Nat -> Prop} {w w' : World} {a : U.AV} {cs : List Value} (h : c9 R G w a cs) (hE : Ext G w w') : c9 R G w' a cs := by
  cases a <;> simp only [c9] at * <;> first
    | exact h
    | exact (R _).ext h hE
    | (obtain ⟨v, hv, hr⟩ := h; exact ⟨v, hv, hr.ext hE⟩)
    | (obtain ⟨ad, cs', hc, hb, hg, hca, hr⟩ := h; exact ⟨ad, cs', hc, Nat.lt_of_lt_of_le hb hE.size, hg, hca.of_block (hE.block _ hb hg), hr.ext hE⟩)
theorem c9.weaken {R : ∀ c, TyR (U.T c)} {G G' : Nat -> Prop} {w : World} {a : U.AV} {cs : List Value} (h : c9 R G w a cs) (hG : ∀ b, b < w.heap.size -> G' b -> G b) : c9 R G' w a cs := by
  cases a <;> simp only [c9] at * <;> first
    | exact h
    | exact (R _).weaken h hG
    | (obtain ⟨v, hv, hr⟩ := h; exact ⟨v, hv, hr.weaken hG⟩)
    | (obtain ⟨ad, cs', hc, hb, hg, hca, hr⟩ := h; exact ⟨ad, cs', hc, hb, fun hh => hg (hG _ hb hh), hca, hr.weaken hG⟩)
def RdS (R : ∀ c, TyR (U.T c)) (c : U.C) : TyR (U.T c) := ⟨U.n c, fun G w cs x => cs.length = U.n c /\ ∃ css : List (List Value), cs = css.flatten /\ i8 (c9 R G w) (U.flds c x) css,
  fun h => h.1, fun ⟨hl, css, hc, h⟩ hE => ⟨hl, css, hc, h.mono fun _ _ hh => hh.ext hE⟩, fun ⟨hl, css, hc, h⟩ hG => ⟨hl, css, hc, h.mono fun _ _ hh => hh.weaken hG⟩⟩
def Rd : Nat -> ∀ c, TyR (U.T c)
  | 0 => fun c => ⟨U.n c, fun _ _ _ _ => False, fun h => h.elim, fun h _ => h, fun h _ => h⟩
  | d + 1 => RdS (Rd d)
def Rp (c : U.C) : TyR (U.T c) := ⟨U.n c, fun G w cs x => ∃ d, (Rd d c).rep G w cs x, fun ⟨d, h⟩ => by
    cases d with
    | zero => exact False.elim h
    | succ d => exact h.1,
  fun ⟨d, h⟩ hE => ⟨d, (Rd d c).ext h hE⟩, fun ⟨d, h⟩ hG => ⟨d, (Rd d c).weaken h hG⟩⟩
theorem d6d (d : Nat) (c : U.C) : (Rd d c).n = U.n c := by cases d <;> rfl
theorem Rp_n (c : U.C) : (Rp c).n = U.n c := rfl
theorem d5.monoR {α : Type} {R R' : TyR α} {G : Nat -> Prop} {w : World} {v : Value} {l : List α} (hn : R.n = R'.n) (hr : ∀ cs x, R.rep G w cs x -> R'.rep G w cs x) (h : d5 R G w v l) : d5 R' G w v l := by
  rcases h with h | ⟨a, cap, hv, hc, hm, hi⟩
  . exact .inl h
  . refine .inr ⟨a, cap, hv, hc, hm, fun i x hx => ?_⟩
    obtain ⟨cs, h1, h2⟩ := hi i x hx
    exact ⟨cs, hr _ _ h1, by rw [<- hn]; exact h2⟩
theorem q0.monoR {R R' : ∀ c, TyR (U.T c)} {G : Nat -> Prop} {w : World} (hn : ∀ c, (R c).n = (R' c).n) (hr : ∀ c cs x, (R c).rep G w cs x -> (R' c).rep G w cs x) {a : U.AV} {cs : List Value} (h : q0 R G w a cs) : q0 R' G w a cs := by
  cases a <;> simp only [q0] at * <;> first
    | exact h
    | exact hr _ _ _ h
    | (obtain ⟨v, hv, h⟩ := h; exact ⟨v, hv, d5.monoR (hn _) (hr _) h⟩)
theorem c9.monoR {R R' : ∀ c, TyR (U.T c)} {G : Nat -> Prop} {w : World} (hn : ∀ c, (R c).n = (R' c).n) (hr0 : ∀ c cs x, (R c).rep G w cs x -> (R' c).rep G w cs x) {a : U.AV} {cs : List Value} (h : c9 R G w a cs) : c9 R' G w a cs := by
  cases a <;> simp only [c9] at * <;> first
    | exact h
    | exact hr0 _ _ _ h
    | (obtain ⟨v, hv, h⟩ := h; exact ⟨v, hv, d5.monoR (hn _) (hr0 _) h⟩)
    | (obtain ⟨ad, cs', hc, hb, hg, hca, hr⟩ := h; exact ⟨ad, cs', hc, hb, hg, hca, hr.monoR hn hr0⟩)
theorem c99 {G : Nat -> Prop} {w : World} : ∀ (d : Nat) (c : U.C) (cs : List Value) (x : U.T c), (Rd d c).rep G w cs x -> (Rd (d + 1) c).rep G w cs x
  | 0, _, _, _, h => False.elim h
  | d + 1, c, cs, x, ⟨hl, css, hc, h⟩ => ⟨hl, css, hc, h.mono fun _ _ hh => c9.monoR (fun c => by rw [d6d, d6d]) (fun c cs x => c99 d c cs x) hh⟩
theorem d5u {G : Nat -> Prop} {w : World} {d d' : Nat} (hd : d <= d') {c : U.C} {cs : List Value} {x : U.T c} (h : (Rd d c).rep G w cs x) : (Rd d' c).rep G w cs x := by
  induction hd with
  | refl => exact h
  | step _ ih => exact c99 _ _ _ _ ih
theorem d5.bound {G : Nat -> Prop} {w : World} {c : U.C} {v : Value} {l : List (U.T c)} (h : d5 (Rp c) G w v l) : ∃ d, d5 (Rd d c) G w v l := by
  rcases h with h | ⟨a, cap, hv, hc, hm, hi⟩
  . exact ⟨0, .inl h⟩
  . have key : ∀ n, ∃ d, ∀ i x, i < n -> l[i]? = some x -> ∃ cs, (Rd d c).rep G w cs x /\ a.block < w.heap.size /\ ¬ G a.block /\ CA w (a.add (i * (Rp c).n)) cs := by
      intro n
      induction n with
      | zero => exact ⟨0, fun i x hi => absurd hi (Nat.not_lt_zero _)⟩
      | succ n ih =>
        obtain ⟨d, hd⟩ := ih
        cases hx : l[n]? with
        | none => exact ⟨d, fun i x hi2 hx2 => by
            rcases Nat.lt_succ_iff_lt_or_eq.1 hi2 with h | h
            . exact hd i x h hx2
            . subst h; rw [hx] at hx2; cases hx2⟩
        | some y =>
          obtain ⟨cs, ⟨d', hr⟩, h2⟩ := hi n y hx
          exact ⟨max d d', fun i x hi2 hx2 => by
            rcases Nat.lt_succ_iff_lt_or_eq.1 hi2 with h | h
            . obtain ⟨cs, h1, h2⟩ := hd i x h hx2
              exact ⟨cs, d5u (Nat.le_max_left _ _) h1, h2⟩
            . subst h; rw [hx] at hx2; cases hx2
              exact ⟨cs, d5u (Nat.le_max_right _ _) hr, h2⟩⟩
    obtain ⟨d, hd⟩ := key l.length
    exact ⟨d, .inr ⟨a, cap, hv, hc, hm, fun i x hx => by
      rw [d6d]
      exact hd i x (List.getElem?_eq_some_iff.1 hx).1 hx⟩⟩
theorem q0.bound {G : Nat -> Prop} {w : World} {a : U.AV} {cs : List Value} (h : q0 Rp G w a cs) : ∃ d, q0 (Rd d) G w a cs := by
  cases a <;> simp only [q0] at * <;> first
    | exact ⟨0, h⟩
    | exact h
    | (obtain ⟨v, hv, h⟩ := h; obtain ⟨d, h⟩ := d5.bound h; exact ⟨d, v, hv, h⟩)
theorem c9.bound {G : Nat -> Prop} {w : World} {a : U.AV} {cs : List Value} (h : c9 Rp G w a cs) : ∃ d, c9 (Rd d) G w a cs := by
  cases a <;> simp only [c9] at * <;> first
    | exact ⟨0, h⟩
    | exact h
    | (obtain ⟨v, hv, h⟩ := h; obtain ⟨d, h⟩ := d5.bound h; exact ⟨d, v, hv, h⟩)
    | (obtain ⟨ad, cs', hc, hb, hg, hca, hr⟩ := h; obtain ⟨d, hr⟩ := hr.bound; exact ⟨d, ad, cs', hc, hb, hg, hca, hr⟩)
theorem c9.up {G : Nat -> Prop} {w : World} {d d' : Nat} (hd : d <= d') {a : U.AV} {cs : List Value} (h : c9 (Rd d) G w a cs) : c9 (Rd d') G w a cs :=
  c9.monoR (fun c => by rw [d6d, d6d]) (fun c cs x h => d5u hd h) h
theorem i8.bound {G : Nat -> Prop} {w : World} : ∀ {as : List U.AV} {css : List (List Value)}, i8 (c9 Rp G w) as css -> ∃ d, i8 (c9 (Rd d) G w) as css
  | [], [], _ => ⟨0, trivial⟩
  | a :: as, c :: cs, h => by
    obtain ⟨d, h1⟩ := c9.bound h.1
    obtain ⟨d', h2⟩ := i8.bound h.2
    exact ⟨max d d', h1.up (Nat.le_max_left _ _), h2.mono fun _ _ hh => hh.up (Nat.le_max_right _ _)⟩
  | [], _ :: _, hh => hh.elim
  | _ :: _, [], hh => hh.elim
theorem a8k {G : Nat -> Prop} {w : World} {c : U.C} {cs : List Value} {x : U.T c} : (Rp c).rep G w cs x ↔ cs.length = U.n c /\ ∃ css, cs = css.flatten /\ i8 (c9 Rp G w) (U.flds c x) css := by
  constructor
  . rintro ⟨d, h⟩
    cases d with
    | zero => exact False.elim h
    | succ d =>
      obtain ⟨hl, css, hc, h⟩ := h
      exact ⟨hl, css, hc, h.mono fun _ _ hh => c9.monoR (R' := Rp) (fun c => d6d d c) (fun c cs x h => show ∃ d, _ from ⟨d, h⟩) hh⟩
  . rintro ⟨hl, css, hc, h⟩
    obtain ⟨d, h⟩ := i8.bound h
    exact ⟨d + 1, hl, css, hc, h⟩
def b34 : Value -> Option Addr
  | .pointer (some a) => some a
  | .slice (some a) _ _ => some a
  | _ => none
def a5n : U.C -> List PE -> Nat
  | _, [] => 0
  | c, .f n :: p => off c n + (match (U.lay c)[n]? with | some (some c') => a5n c' p | _ => 0)
  | c, .i n :: p => n.toNat * U.n c + a5n c p
structure Cx where
  Z : Nat -> Prop
  π : Nat -> Value
  us : Nat -> Prop
  w : World
def Cx.G (X : Cx) : Nat -> Prop := fun b => ¬ X.Z b
def a7w (X : Cx) : U.AV -> Value -> Prop
  | .unk, _ => True
  | .undef, v => v = undef
  | .nils, v => v = .slice none 0 0
  | .nilp, v => v = .pointer none
  | .bool b, v => v = .bool b
  | .int k n, v => v = .int k n
  | .str s, v => v = .string s
  | .val c x, v => ∃ cs : List Value, v = .agg cs.toArray /\ (Rp c).rep X.G X.w cs x
  | .list c l, v => d5 (Rp c) X.G X.w v l
  | .rp a, v => ∃ ad cs, v = .pointer (some ad) /\ ad.block < X.w.heap.size /\ ¬ X.G ad.block /\ CA X.w ad cs /\ c9 Rp X.G X.w a cs
  | .ref id, v => X.us id /\ v = X.π id /\ v.oneCell' = true
  | .fref id c p, v => X.us id /\ ∃ a, b34 (X.π id) = some a /\ v = .pointer (some (a.add (a5n c p)))
  | .clo f as, v => as = [] /\ v = .func (.func f) #[] #[]
  | .tup _, _ => False
  | .st _ _, _ => False
  | .vw id c lo n, v => X.us id /\ b61 v (X.π id) (U.n c) lo n
def a0c (X : Cx) : U.AV -> Value -> Prop
  | .st c as, v => ∃ css : List (List Value), v = .agg css.flatten.toArray /\ as.map m8 = U.lay c /\ as.all m4 = true /\ i8 (fun a cs => ∃ u : Value, u.cells.toList = cs /\ a7w X a u) as css
  | a, v => a7w X a v
def AVR (X : Cx) : U.AV -> Value -> Prop
  | .clo f as, v => ∃ vs : List Value, v = .func (.func f) #[] vs.toArray /\ i8 (a0c X) as vs
  | .tup as, v => ∃ vs : List Value, v = .tuple vs.toArray /\ i8 (a0c X) as vs
  | a, v => a0c X a v
abbrev Raw (n : Nat) := { l : List Value // l.length = n /\ ∀ u ∈ l, u.oneCell' = true }
def MR (X : Cx) : U.MC -> Value -> Prop
  | .never, _ | .dead, _ => True
  | .box t a, v => ∃ b u, v = .pointer (some ⟨b, 0, none⟩) /\ Mb X.w b t u.cells.toList /\ a0c X a u
  | .sl e c l, v => ∃ css : List (Raw (U.n c)), Own 0 e (U.n c) Subtype.val X.w v css /\ i8 (fun (r : Raw (U.n c)) x => (Rp c).rep X.G X.w r.1 x) css l
  | .fz c l, v => d5 (Rp c) X.G X.w v l
  | .it s p, v => ∃ b, v = .pointer (some ⟨b, 0, none⟩) /\ 0 <= p /\ X.w.heap[b]? = some (.stringIter s p.toNat)
def MB : U.MC -> Value -> Nat -> Prop
  | .box _ _, v, b | .sl _ _ _, v, b | .it _ _, v, b => hdV v = some b
  | _, _, _ => False
structure Cx.Le (X X' : Cx) : Prop where
  z : ∀ b, X.Z b -> X'.Z b
  e : Ext X.G X.w X'.w
  u : ∀ id, X.us id -> X'.us id /\ X'.π id = X.π id
theorem c9.le {X X' : Cx} (h : X.Le X') {a : U.AV} {cs : List Value} (ha : c9 Rp X.G X.w a cs) : c9 Rp X'.G X'.w a cs :=
  (ha.ext h.e).weaken fun b _ hb hz => hb (h.z b hz)
theorem d5.le {X X' : Cx} (h : X.Le X') {c : U.C} {v : Value} {l : List (U.T c)} (ha : d5 (Rp c) X.G X.w v l) : d5 (Rp c) X'.G X'.w v l :=
  (ha.ext h.e).weaken fun b _ hb hz => hb (h.z b hz)
theorem b1m {X X' : Cx} (h : X.Le X') {c : U.C} {cs : List Value} {x : U.T c} (ha : (Rp c).rep X.G X.w cs x) : (Rp c).rep X'.G X'.w cs x :=
  (Rp c).weaken ((Rp c).ext ha h.e) fun b _ hb hz => hb (h.z b hz)
theorem a7w.le {X X' : Cx} (h : X.Le X') {a : U.AV} {v : Value} (ha : a7w X a v) : a7w X' a v := by
  cases a <;> simp only [a7w] at * <;> first
    | exact ha
    | (obtain ⟨cs, hv, hr⟩ := ha; exact ⟨cs, hv, b1m h hr⟩)
    | exact d5.le h ha
    | (obtain ⟨ad, cs, hv, hb, hg, hc, hr⟩ := ha
       exact ⟨ad, cs, hv, Nat.lt_of_lt_of_le hb h.e.size, fun hz => hg (fun hh => hz (h.z _ hh)), hc.of_block (h.e.block _ hb hg), hr.le h⟩)
    | (obtain ⟨hu, hv⟩ := ha; exact ⟨(h.u _ hu).1, by rw [(h.u _ hu).2]; exact hv⟩)
theorem a0c.le {X X' : Cx} (h : X.Le X') {a : U.AV} {v : Value} (ha : a0c X a v) : a0c X' a v := by
  cases a
  case st c as =>
    obtain ⟨css, hv, hl, hp, hr⟩ := ha
    exact ⟨css, hv, hl, hp, hr.mono fun _ _ ⟨u, hu, hh⟩ => ⟨u, hu, a7w.le h hh⟩⟩
  all_goals
    simp only [a0c] at ha ⊢
    exact a7w.le h ha
theorem AVR.le {X X' : Cx} (h : X.Le X') {a : U.AV} {v : Value} (ha : AVR X a v) : AVR X' a v := by
  cases a <;> simp only [AVR] at * <;> first
    | exact a0c.le h ha
    | (obtain ⟨vs, hv, hr⟩ := ha; exact ⟨vs, hv, hr.mono fun _ _ hh => hh.le h⟩)
theorem AVR.of1 {X : Cx} {a : U.AV} {v : Value} (h : a0c X a v) : AVR X a v := by
  cases a <;> first
    | exact h
    | (obtain ⟨rfl, hv⟩ := h; exact ⟨[], hv, trivial⟩)
    | exact h.elim
theorem MR.le {X X' : Cx} (h : X.Le X') {m : U.MC} {v : Value} (hm : MR X m v) (hb : ∀ b, MB m v b -> b < X.w.heap.size -> X'.w.heap[b]? = X.w.heap[b]?) : MR X' m v := by
  cases m <;> simp only [MR] at *
  case box t a =>
    obtain ⟨b, u, hv, hM, ha⟩ := hm
    subst hv
    exact ⟨b, u, rfl, (hb b rfl hM.lt).trans hM, ha.le h⟩
  case sl e c l =>
    obtain ⟨css, hO, hr⟩ := hm
    refine ⟨css, ?_, hr.mono fun _ _ hh => b1m h hh⟩
    rcases hO with hO | ⟨g, o, cap, cur, hv, hg, hh, r⟩
    . exact .inl hO
    . subst hv
      exact .inr ⟨g, o, cap, cur, rfl, hg, (hb g rfl (Array.getElem?_eq_some_iff.1 hh).1).trans hh, r⟩
  case fz c l => exact d5.le h hm
  case it s p =>
    obtain ⟨b, hv, h0, hh⟩ := hm
    subst hv
    exact ⟨b, rfl, h0, (hb b rfl (Array.getElem?_eq_some_iff.1 hh).1).trans hh⟩
structure Env where
  w0 : World
  G : Nat -> Prop
  Z : Nat -> Prop
  pin : Nat -> Prop
  π0 : Nat -> Value
def b0n (σ : U.St) (id : Nat) : Prop := σ.mem id ≠ .never
def cx (Z : Nat -> Prop) (π : Nat -> Value) (σ : U.St) (w : World) : Cx := ⟨Z, π, b0n σ, w⟩
structure Rel (E : Env) (Z : Nat -> Prop) (π : Nat -> Value) (σ : U.St) (ρ : Nat -> Value) (w : World) : Prop where
  slot : ∀ t, AVR (cx Z π σ w) (σ.slot t) (ρ t)
  mem : ∀ id, MR (cx Z π σ w) (σ.mem id) (π id)
  own : ∀ id b, MB (σ.mem id) (π id) b -> ¬ Z b /\ b < w.heap.size /\ (E.G b \/ E.w0.heap.size <= b)
  dist : ∀ id id' b, id ≠ id' -> MB (σ.mem id) (π id) b -> ¬ MB (σ.mem id') (π id') b
  zlt : ∀ b, Z b -> b < w.heap.size
  zin : ∀ b, Z b -> E.Z b \/ E.G b \/ E.w0.heap.size <= b
  zout : ∀ b, E.Z b -> Z b
  ext : Ext E.G E.w0 w
  pin : ∀ id, E.pin id -> b0n σ id /\ π id = E.π0 id
theorem d3p {G G0 : Nat -> Prop} {w0 w w' : World} (h : Ext G0 w0 w) (hE : Ext G w w') (hG : ∀ x, G x -> G0 x \/ w0.heap.size <= x) : Ext G0 w0 w' :=
  ⟨hE.os.trans h.os, hE.tape.trans h.tape, hE.output.trans h.output, Nat.le_trans h.size hE.size, fun i hi hg => (hE.block i (Nat.lt_of_lt_of_le hi h.size) (fun hx => (hG i hx).elim hg (by omega))).trans (h.block i hi hg), Nat.le_trans h.drawn hE.drawn⟩
theorem b3n {α : Type} (t : Nat) : ∀ (l r : List (Nat × α)), lk t (l ++ r) = match lk t l with | some a => some a | none => lk t r
  | [], r => rfl
  | (k, a) :: l, r => by
    show (bif Nat.beq k t then some a else lk t (l ++ r)) = _
    rw [b3n t l r]
    show _ = match (bif Nat.beq k t then some a else lk t l) with | some a => some a | none => lk t r
    cases Nat.beq k t <;> rfl
theorem a4p {α : Type} {t : Nat} : ∀ {l : List (Nat × α)} {a : α}, lk t l = some a -> (t, a) ∈ l
  | [], a, h => by cases h
  | (k, b) :: l, a, h => by
    have h' : (bif Nat.beq k t then some b else lk t l) = some a := h
    cases hk : Nat.beq k t with
    | true =>
      rw [hk] at h'
      have : k = t := Nat.eq_of_beq_eq_true hk
      subst this; cases h'; exact List.mem_cons_self
    | false => rw [hk] at h'; exact List.mem_cons_of_mem _ (a4p h')
theorem t6 (σ : U.St) (d : Option Tmp) (a : U.AV) (ws : List (Nat × U.MC)) (id : Nat) : (σ.app d a ws).mem id = match lk id ws with | some m => m | none => σ.mem id := by
  have h : (σ.app d a ws).me = ws ++ σ.me := by cases d <;> rfl
  unfold St.mem
  rw [h, b3n]
  cases lk id ws <;> rfl
theorem a0d (σ : U.St) (d : Option Tmp) (a : U.AV) (ws : List (Nat × U.MC)) (t : Nat) : (σ.app d a ws).slot t = if d = some t then a else σ.slot t := by
  cases d with
  | none => rfl
  | some d =>
    simp only [St.slot, St.app, St.put, lk]
    cases hk : Nat.beq d t with
    | true => rw [Nat.eq_of_beq_eq_true hk]; simp
    | false =>
      have : d ≠ t := Nat.ne_of_beq_eq_false hk
      simp [this]
theorem c14 (ρ : Nat -> Value) (d : Option Tmp) (v : Value) (t : Nat) : a5m ρ d v t = if d = some t then v else ρ t := by
  cases d with
  | none => rfl
  | some d =>
    simp only [a5m, upd, Option.some.injEq]
    by_cases h : d = t
    . subst h; simp
    . rw [if_neg h, if_neg (fun e => h e.symm)]
theorem Rel.next {E : Env} {Z : Nat -> Prop} {π : Nat -> Value} {σ : U.St} {ρ : Nat -> Value} {w : World} (h : Rel E Z π σ ρ w) {w' : World} {Z' : Nat -> Prop} {π' : Nat -> Value} {ws : List (Nat × U.MC)} {d : Option Tmp} {v : Value} {a : U.AV}
    (hE : Ext (fun b => ∃ id m, lk id ws = some m /\ MB (σ.mem id) (π id) b) w w')
    (hZ : ∀ b, Z b -> Z' b)
    (hZ' : ∀ b, Z' b -> Z b \/ (w.heap.size <= b /\ b < w'.heap.size) \/ ∃ id m, lk id ws = some m /\ MB (σ.mem id) (π id) b)
    (hπ : ∀ id, b0n σ id -> π' id = π id)
    (hnn : ∀ id m, lk id ws = some m -> m ≠ .never)
    (hm : ∀ id m, lk id ws = some m -> MR (cx Z' π' (σ.app d a ws) w') m (π' id))
    (ho : ∀ id m b, lk id ws = some m -> MB m (π' id) b -> ¬ Z' b /\ b < w'.heap.size /\ (w.heap.size <= b \/ ∃ id0 m0, lk id0 ws = some m0 /\ MB (σ.mem id0) (π id0) b))
    (hd : ∀ id id' m m' b, id ≠ id' -> lk id ws = some m -> lk id' ws = some m' -> MB m (π' id) b -> ¬ MB m' (π' id') b)
    (ha : AVR (cx Z' π' (σ.app d a ws) w') a v) :
    Rel E Z' π' (σ.app d a ws) (a5m ρ d v) w' := by
  have hle : (cx Z π σ w).Le (cx Z' π' (σ.app d a ws) w') := by
    refine ⟨hZ, hE.mono fun b ⟨id, m, _, hb⟩ hz => (h.own id b hb).1 hz, fun id hu => ⟨?_, hπ id hu⟩⟩
    show (σ.app d a ws).mem id ≠ .never
    rw [t6]
    cases hl : lk id ws with
    | none => exact hu
    | some m => exact hnn id m hl
  have hπm : ∀ id b, MB (σ.mem id) (π id) b -> π' id = π id := fun id b hb => hπ id (fun hn => by rw [hn] at hb; exact hb)
  have hMBn : ∀ {id b}, lk id ws = none -> (MB (σ.mem id) (π' id) b ↔ MB (σ.mem id) (π id) b) := by
    intro id b hl
    by_cases hu : b0n σ id
    . rw [hπ id hu]
    . have : σ.mem id = .never := Classical.not_not.1 hu
      rw [this]; exact Iff.rfl
  constructor
  . intro t
    rw [a0d, c14]
    split
    . exact ha
    . exact (h.slot t).le hle
  . intro id
    rw [t6]
    cases hl : lk id ws with
    | some m => exact hm id m hl
    | none =>
      by_cases hu : b0n σ id
      . rw [hπ id hu]
        refine MR.le hle (h.mem id) fun b hb hlt => hE.block b hlt ?_
        rintro ⟨id', m', hl', hb'⟩
        have hne : id ≠ id' := fun e => by subst e; rw [hl] at hl'; cases hl'
        exact h.dist id id' b hne hb hb'
      . have : σ.mem id = .never := Classical.not_not.1 hu
        rw [this]; trivial
  . intro id b hb
    rw [t6] at hb
    cases hl : lk id ws with
    | some m =>
      rw [hl] at hb
      obtain ⟨h1, h2, h3⟩ := ho id m b hl hb
      refine ⟨h1, h2, ?_⟩
      rcases h3 with h3 | ⟨id0, m0, _, hb0⟩
      . exact .inr (Nat.le_trans h.ext.size h3)
      . exact (h.own id0 b hb0).2.2
    | none =>
      rw [hl] at hb
      have hb2 := (hMBn hl).1 hb
      obtain ⟨h1, h2, h3⟩ := h.own id b hb2
      refine ⟨fun hz => ?_, Nat.lt_of_lt_of_le h2 hE.size, h3⟩
      rcases hZ' b hz with hz | hz | ⟨id', m', hl', hb'⟩
      . exact h1 hz
      . omega
      . have hne : id ≠ id' := fun e => by subst e; rw [hl] at hl'; cases hl'
        exact h.dist id id' b hne hb2 hb'
  . intro id id' b hne hb hb'
    rw [t6] at hb hb'
    have cross : ∀ {i j m}, i ≠ j -> lk i ws = some m -> lk j ws = none -> MB m (π' i) b -> MB (σ.mem j) (π j) b -> False := by
      intro i j m hij hi hj h1 h2
      obtain ⟨_, _, h3⟩ := ho i m b hi h1
      rcases h3 with h3 | ⟨id0, m0, hl0, hb0⟩
      . have := (h.own j b h2).2.1; omega
      . have hne0 : id0 ≠ j := fun e => by subst e; rw [hj] at hl0; cases hl0
        exact h.dist id0 j b hne0 hb0 h2
    cases hl : lk id ws with
    | some m =>
      rw [hl] at hb
      cases hl' : lk id' ws with
      | some m' => rw [hl'] at hb'; exact hd id id' m m' b hne hl hl' hb hb'
      | none => rw [hl'] at hb'; exact cross hne hl hl' hb ((hMBn hl').1 hb')
    | none =>
      rw [hl] at hb
      have hb2 := (hMBn hl).1 hb
      cases hl' : lk id' ws with
      | some m' => rw [hl'] at hb'; exact cross (Ne.symm hne) hl' hl hb' hb2
      | none => rw [hl'] at hb'; exact h.dist id id' b hne hb2 ((hMBn hl').1 hb')
  . intro b hz
    rcases hZ' b hz with hz | hz | ⟨id', m', hl', hb'⟩
    . exact Nat.lt_of_lt_of_le (h.zlt b hz) hE.size
    . exact hz.2
    . exact Nat.lt_of_lt_of_le (h.own id' b hb').2.1 hE.size
  . intro b hz
    rcases hZ' b hz with hz | hz | ⟨id', m', hl', hb'⟩
    . exact h.zin b hz
    . exact .inr (.inr (Nat.le_trans h.ext.size hz.1))
    . exact .inr (h.own id' b hb').2.2
  . intro b hz; exact hZ b (h.zout b hz)
  . exact d3p h.ext hE fun b ⟨id, m, _, hb⟩ => (h.own id b hb).2.2
  . intro id hp
    obtain ⟨h1, h2⟩ := h.pin id hp
    exact ⟨(hle.u id h1).1, (hπ id h1).trans h2⟩
end
end Go.SX
namespace Go.SX
open Go Go.PL
section
variable {P : Program} {U : Uni} {E : Env} {Z : Nat -> Prop} {π : Nat -> Value} {σ : U.St} {ρ : Nat -> Value} {w : World}
def a30 (P : Program) (E : Env) (σ : U.St) (ρ : Nat -> Value) (w : World) (o : Oper) (a : U.AV) (ws : List (Nat × U.MC)) : Prop :=
  n9 P o (ev ρ) w fun u w' => ∃ Z' π', Rel E Z' π' (σ.app o.dst a ws) (a5m ρ o.dst u) w'
theorem d15 {d : Option Tmp} {a : U.AV} {id : Nat} : b0n (σ.app d a []) id ↔ b0n σ id := by
  unfold b0n; rw [t6]; exact Iff.rfl
theorem d7j {d : Option Tmp} {a : U.AV} : cx Z π (σ.app d a []) w = cx Z π σ w := by
  unfold cx; congr 1; funext id; exact propext d15
theorem Rel.val (h : Rel E Z π σ ρ w) {w' : World} (hE : Ext noG w w') {d : Option Tmp} {a : U.AV} {v : Value} (ha : AVR (cx Z π σ w) a v) : Rel E Z π (σ.app d a []) (a5m ρ d v) w' := by
  refine h.next (hE.mono fun _ hh => hh.elim) (fun _ hh => hh) (fun _ hh => .inl hh) (fun _ _ => rfl) (fun id m hl => by cases hl) (fun id m hl => by cases hl) (fun id m b hl => by cases hl) (fun id id' m m' b _ hl => by cases hl) ?_
  rw [d7j]
  have hle : (cx Z π σ w).Le (cx Z π σ w') := ⟨fun _ hh => hh, hE.of_no, fun _ hh => ⟨hh, rfl⟩⟩
  exact AVR.le hle ha
theorem d7 (h : Rel E Z π σ ρ w) {o : Oper} {a : U.AV} {v : Value} (hy : YV P (ev ρ) w o v) (ha : AVR (cx Z π σ w) a v) : a30 P E σ ρ w o a [] := by
  unfold a30 n9
  rw [hy]
  exact ⟨Z, π, h.val (Ext.refl _ _) ha⟩
theorem c93 {X : Cx} {v : Value} {a : U.AV} (h : b07 v = some a) : AVR X a v := by
  unfold b07 at h
  split at h <;> first
    | (cases h; rfl)
    | cases h
theorem p9 (h : Rel E Z π σ ρ w) {x : Operand} {k : U.AV -> U.Q} {m0 m : Nat} {v : U.AV} {ws : List (Nat × U.MC)} (hev : (rdO x k).Ev σ m0 m v ws) :
    ∃ a m1, AVR (cx Z π σ w) a (ev ρ x) /\ (k a).Ev σ m1 m v ws := by
  cases x with
  | tmp t => exact ⟨_, _, h.slot t, hev.2⟩
  | const c =>
    simp only [rdO] at hev
    cases hc : (b07 c : Option U.AV) with
    | none => rw [hc] at hev; exact hev.elim
    | some a => rw [hc] at hev; exact ⟨a, _, c93 hc, hev⟩
  | global g => exact hev.elim
  | func f => exact ⟨.clo f [], _, ⟨[], rfl, trivial⟩, hev⟩
theorem b5d (h : Rel E Z π σ ρ w) : ∀ {xs : List Operand} {k : List U.AV -> U.Q} {m0 m : Nat} {v : U.AV} {ws : List (Nat × U.MC)}, (d4k xs k).Ev σ m0 m v ws ->
    ∃ as m1, i8 (AVR (cx Z π σ w)) as (xs.map (ev ρ)) /\ (k as).Ev σ m1 m v ws
  | [], k, m0, m, v, ws, hev => ⟨[], m0, trivial, hev⟩
  | x :: r, k, m0, m, v, ws, hev => by
    obtain ⟨a, m1, ha, hev⟩ := p9 h hev
    obtain ⟨as, m2, has, hev⟩ := b5d h hev
    exact ⟨a :: as, m2, ⟨ha, has⟩, hev⟩
section
variable {d : Option Tmp} {ty : TypeId} {ps : String} {af : Array Edge} {g : Option (Nat × Bool)} {x y z : Operand} {m0 m : Nat} {a b c v : U.AV} {ws : List (Nat × U.MC)} {fr : Nat}
theorem b9v (h : Rel E Z π σ ρ w) {op : Op} (hop : op = .move x \/ op = .assign x) (hev : (rdO x fun a => (.done a [] : U.Q)).Ev σ m0 m v ws) : a30 P E σ ρ w ⟨d, op, ty, ps, af, g⟩ v ws := by
  obtain ⟨a, m1, ha, hm, rfl, rfl⟩ := p9 h hev
  rcases hop with rfl | rfl
  . exact d7 h (b72 rfl) ha
  . exact d7 h (b3d rfl) ha
theorem d1e (h : Rel E Z π σ ρ w) {op : BinOp} {t t' : TypeId} (hx : AVR (cx Z π σ w) a (ev ρ x)) (hy : AVR (cx Z π σ w) b (ev ρ y)) (hev : (d9o P op t a b).Ev σ m0 m v ws) :
    a30 P E σ ρ w ⟨d, .binOp op t x y t', ty, ps, af, g⟩ v ws := by
  cases a <;> try exact hev.elim
  case int k n =>
    cases b <;> try exact hev.elim
    rename_i k' n'
    have hx : ev ρ x = .int k n := hx
    have hy : ev ρ y = .int k' n' := hy
    cases op
    case shl => obtain ⟨c, hc, hm, rfl, rfl⟩ := hev; exact d7 h (d91 hx hy (b9s hc).1 (b9s hc).2) rfl
    case shr => obtain ⟨c, hc, hm, rfl, rfl⟩ := hev; exact d7 h (d9s hx hy (b9g hc).1 (b9g hc).2) rfl
    all_goals
      have hev2 : (match eqK k k' with | true => binI _ k n n' | false => (.fail : U.Q)).Ev σ m0 m v ws := hev
      clear hev
      unfold eqK at hev2
      cases hk : decEq k k' with
      | isFalse hne => rw [hk] at hev2; exact hev2.elim
      | isTrue he =>
        rw [hk] at hev2
        subst he
        first
          | exact hev2.elim
          | (obtain ⟨hm, hv, hws⟩ := hev2; subst hv; subst hws; refine d7 h (?_ : YV P (ev ρ) w _ (.int k _)) rfl
             first
               | exact d5b hx hy rfl
               | exact d0x hx hy rfl
               | exact d9w hx hy rfl
               | exact d9b hx hy rfl
               | exact o_or hx hy rfl
               | exact d9y hx hy rfl)
          | (obtain ⟨hm, hv, hws⟩ := hev2; subst hv; subst hws; refine d7 h (?_ : YV P (ev ρ) w _ (.bool _)) rfl
             first
               | exact c6x hx hy rfl
               | exact d7a hx hy rfl
               | exact d89 hx hy rfl
               | exact d8z hx hy rfl
               | exact d8t hx hy rfl
               | exact d9m hx hy rfl)
          | (obtain ⟨c, hc, hm, hv, hws⟩ := hev2; subst hv; subst hws
             split at hc
             . cases hc
             . rename_i h0
               first
                 | exact d7 h (d8q hx hy h0 (Option.some.inj hc)) rfl
                 | exact d7 h (d8p hx hy h0 (Option.some.inj hc)) rfl)
  case str s =>
    cases b <;> try exact hev.elim
    rename_i s'
    have hx : ev ρ x = .string s := hx
    have hy : ev ρ y = .string s' := hy
    cases op <;> first
      | exact hev.elim
      | (obtain ⟨c, hc, hm, rfl, rfl⟩ := hev; exact d7 h (d7v hx hy hc) rfl)
      | (obtain ⟨hm, rfl, rfl⟩ := hev; exact d7 h (d80 hx hy rfl) rfl)
      | (obtain ⟨hm, rfl, rfl⟩ := hev; exact d7 h (d73 hx hy rfl) rfl)
      | (obtain ⟨hm, rfl, rfl⟩ := hev
         refine d7 h (v := .bool (Op.bytesLess s.toList s'.toList)) ?_ rfl
         simp [YV, execOp, hx, hy, eqGuard, binOp, Op.stringOp])
  case bool p =>
    cases b <;> try exact hev.elim
    rename_i p'
    have hx : ev ρ x = .bool p := hx
    have hy : ev ρ y = .bool p' := hy
    simp only [d9o] at hev
    split at hev
    . rename_i ht
      cases op <;> first
        | exact hev.elim
        | (obtain ⟨hm, rfl, rfl⟩ := hev; exact d7 h (d6u hx hy ht rfl) rfl)
        | (obtain ⟨hm, rfl, rfl⟩ := hev; exact d7 h (d6h hx hy ht rfl) rfl)
    . exact hev.elim
theorem d5w (h : Rel E Z π σ ρ w) {op : UnOp} {t : TypeId} (hx : AVR (cx Z π σ w) a (ev ρ x)) (hev : (unQ op a : U.Q).Ev σ m0 m v ws) :
    a30 P E σ ρ w ⟨d, .unOp op t x, ty, ps, af, g⟩ v ws := by
  cases op <;> cases a <;> first
    | exact hev.elim
    | (obtain ⟨hm, rfl, rfl⟩ := hev
       first
         | exact d7 h (d9j hx rfl) rfl
         | exact d7 h (d92 hx rfl) rfl)
theorem a5p {t : TypeId} {dsc : TypeDesc} (h : P.underlying t = some dsc) : (underlying t).run P w = .ok dsc w := by
  simp [underlying, program, Sem.run, h, pure, bind, Sem.bind]
theorem c84 (h : Rel E Z π σ ρ w) {s t : TypeId} (hx : AVR (cx Z π σ w) a (ev ρ x)) (hev : (d4u P s t a).Ev σ m0 m v ws) :
    a30 P E σ ρ w ⟨d, .convert s t x, ty, ps, af, g⟩ v ws := by
  unfold d4u at hev
  split at hev
  . rename_i k k' kk n hs ht
    obtain ⟨hm, rfl, rfl⟩ := hev
    refine d7 h (d2n (u := .int k' (k'.wrap n)) hx ?_) rfl
    simp [convert, a5p hs, a5p ht, Conv.intToInt]
  . rename_i bb hs ht
    obtain ⟨hm, rfl, rfl⟩ := hev
    refine d7 h (d2n (u := .string bb) hx ?_) rfl
    simp [convert, a5p hs, a5p ht]
  . exact hev.elim
theorem c0b (h : Rel E Z π σ ρ w) {i : Nat} (hx : AVR (cx Z π σ w) a (ev ρ x)) (hev : (match a with | .tup as => (match as[i]? with | some a => (Q.done a [] : U.Q) | none => Q.fail) | _ => (Q.fail : U.Q)).Ev σ m0 m v ws) :
    a30 P E σ ρ w ⟨d, .extract x i, ty, ps, af, g⟩ v ws := by
  cases a <;> try exact hev.elim
  rename_i as
  simp only at hev
  split at hev
  . rename_i a1 ha1
    obtain ⟨hm, rfl, rfl⟩ := hev
    obtain ⟨vs, hv, hr⟩ := hx
    obtain ⟨u, hu, hru⟩ := hr.get ha1
    refine d7 h (c70 (u := u) hv ?_) (AVR.of1 hru)
    simp [Instr.extract, hu]
  . exact hev.elim
theorem c8b (h : Rel E Z π σ ρ w) {e p q : Bool} (hx : ev ρ x = .bool e) (hy : ev ρ y = .bool p) (hz : ev ρ z = .bool q) : a30 P E σ ρ w ⟨d, .pick x y z, ty, ps, af, g⟩ (.bool (bif e then p else q) : U.AV) [] := by
  cases e
  . exact d7 h (c3q hx hz) rfl
  . exact d7 h (c3v hx hy) rfl
theorem c4c (h : Rel E Z π σ ρ w) {t : TypeId} (hx : AVR (cx Z π σ w) a (ev ρ x)) (hy : AVR (cx Z π σ w) b (ev ρ y)) (hev : (c7s P t a b).Ev σ m0 m v ws) :
    a30 P E σ ρ w ⟨d, .index t x y, ty, ps, af, g⟩ v ws := by
  unfold c7s at hev
  split at hev
  . rename_i s k n ht
    obtain ⟨c, hc, hm, rfl, rfl⟩ := hev
    exact d7 h (d42 hx hy ht hc) rfl
  . exact hev.elim
theorem a3t {X : Cx} {a : U.AV} {v : Value} (hs : a92 a = true) (h : AVR X a v) : a0c X a v := by
  cases a <;> first | exact h | cases hs
theorem a6j {X : Cx} : ∀ {as : List U.AV} {vs : List Value}, as.all a92 = true -> i8 (AVR X) as vs -> i8 (a0c X) as vs
  | [], [], _, _ => trivial
  | a :: as, v :: vs, hs, h => by
    simp only [List.all_cons, Bool.and_eq_true] at hs
    exact ⟨a3t hs.1 h.1, a6j hs.2 h.2⟩
  | [], _ :: _, _, hh => hh.elim
  | _ :: _, [], _, hh => hh.elim
theorem b8j (h : Rel E Z π σ ρ w) {f : FuncId} {cs : Array Operand} (hev : (d4k cs.toList fun as => (match as.all a92 with | true => (Q.done (.clo f as) [] : U.Q) | false => Q.fail)).Ev σ m0 m v ws) :
    a30 P E σ ρ w ⟨d, .makeFunc (.func f) #[] cs, ty, ps, af, g⟩ v ws := by
  obtain ⟨as, m1, has, hev⟩ := b5d h hev
  split at hev
  . rename_i hs
    obtain ⟨hm, rfl, rfl⟩ := hev
    refine d7 h (b6f (cs := (cs.toList.map (ev ρ)).toArray) (by apply Array.ext'; simp)) ⟨_, rfl, a6j hs has⟩
  . exact hev.elim
end
end
end Go.SX
namespace Go.SX
open Go Go.PL
section
variable {P : Program} {U : Uni} {X : Cx}
theorem a8d (l : List Value) : l.toArray.toList = l := by simp
theorem a5k (hU : UOK U) {G : Nat -> Prop} {w : World} {a : U.AV} {cs : List Value} (h : c9 Rp G w a cs) : cs.length = asz a := by
  cases a <;> simp only [c9] at h <;> first
    | (subst h; rfl)
    | exact (Rp _).len h
    | (obtain ⟨v, hv, _⟩ := h; subst hv; rfl)
    | (obtain ⟨ad, cs', hc, _⟩ := h; subst hc; rfl)
    | exact h.elim
theorem a4b (a : U.AV) : osz (m8 a) = asz a := by cases a <;> rfl
theorem a0e {a : U.AV} {cs : List Value} (h : c9 Rp X.G X.w a cs) : ∃ u, u.cells.toList = cs /\ a0c X a u := by
  cases a <;> simp only [c9] at h <;> first
    | (subst h; exact ⟨_, rfl, rfl⟩)
    | (exact ⟨.agg cs.toArray, by simp [Value.cells], cs, rfl, h⟩)
    | (obtain ⟨v, hv, hr⟩ := h
       refine ⟨v, ?_, hr⟩
       obtain ⟨a, cap, hs, _⟩ := d5.shape hr
       subst hs; subst hv; rfl)
    | (obtain ⟨ad, cs', hc, hb, hg, hca, hr⟩ := h
       subst hc
       exact ⟨.pointer (some ad), rfl, ad, cs', rfl, hb, hg, hca, .of0 hr⟩)
    | exact h.elim
theorem a6i {c : U.C} {l : List (U.T c)} {G : Nat -> Prop} {w : World} {u : Value} (h : d5 (Rp c) G w u l) : u.cells.toList = [u] := by
  obtain ⟨a, cap, hs, _⟩ := d5.shape h
  subst hs; rfl
theorem b2z {a : U.AV} {u : Value} (hk : b0k a = true \/ a = .nils) (h : a0c X a u) : c9 Rp X.G X.w a u.cells.toList := by
  cases a <;> first
    | (rcases hk with hk | hk <;> cases hk; done)
    | (have h : u = _ := h; subst h; rfl)
    | (obtain ⟨cs, hu, hr⟩ := h; subst hu; simpa [c9, Value.cells] using hr)
    | (exact ⟨u, a6i h, h⟩)
    | (have h : u = _ := h; subst h; simp [c9, Value.cells])
    | (obtain ⟨ad, cs, hu, hb, hg, hca, hr⟩ := h
       subst hu
       rcases hk with hk | hk
       . exact ⟨ad, cs, rfl, hb, hg, hca, hr.to0 hk⟩
       . cases hk)
theorem b2n {a b : U.AV} {cs : List Value} (hab : AEq a b) (h : c9 Rp X.G X.w a cs) : c9 Rp X.G X.w b cs := by
  rcases hab with rfl | ⟨rfl, c, rfl⟩
  . exact h
  . exact ⟨_, h, d5.nil _ _ _⟩
theorem c3l {a b : U.AV} {u : Value} (hab : AEq a b) (h : a0c X a u) : a0c X b u := by
  rcases hab with rfl | ⟨rfl, c, rfl⟩
  . exact h
  . have h : u = _ := h
    subst h; exact d5.nil _ _ _
theorem b1d (hU : UOK U) {G : Nat -> Prop} {w : World} : ∀ {as : List U.AV} {css : List (List Value)}, i8 (c9 Rp G w) as css -> css.flatten.length = ((as.map m8).map osz).sum
  | [], [], _ => rfl
  | a :: as, c :: css, h => by
    simp only [List.flatten_cons, List.length_append, List.map_cons, List.sum_cons, b1d hU h.2, a4b, a5k hU h.1]
  | [], _ :: _, hh => hh.elim
  | _ :: _, [], hh => hh.elim
theorem b9x (hU : UOK U) {G : Nat -> Prop} {w : World} {c : U.C} {x : U.T c} {css : List (List Value)} (h : i8 (c9 Rp G w) (U.flds c x) css) : (Rp c).rep G w css.flatten x :=
  a8k.2 ⟨by rw [b1d hU h, hU.lay, <- hU.sum], css, rfl, h⟩
theorem b4u (hU : UOK U) {G : Nat -> Prop} {w : World} {c : U.C} {x : U.T c} {cs : List Value} (h : (Rp c).rep G w cs x) {n : Nat} {b : U.AV} (hb : (U.flds c x)[n]? = some b) :
    c9 Rp G w b ((cs.drop (off c n)).take (asz b)) /\ off c n + asz b <= cs.length := by
  obtain ⟨hl, css, rfl, hh⟩ := a8k.1 h
  have key : ∀ (as : List U.AV) (css : List (List Value)) (n : Nat) (b : U.AV), i8 (c9 Rp G w) as css -> as[n]? = some b ->
      c9 Rp G w b ((css.flatten.drop ((((as.map m8).take n).map osz).sum)).take (asz b)) /\ (((as.map m8).take n).map osz).sum + asz b <= css.flatten.length := by
    intro as
    induction as with
    | nil => intro css n b _ hb; simp at hb
    | cons a as ih =>
      intro css n b h hb
      cases css with
      | nil => exact h.elim
      | cons c css =>
        have hc := a5k hU h.1
        cases n with
        | zero =>
          simp at hb; subst hb
          simp only [List.take_zero, List.map_nil, List.sum_nil, List.drop_zero, List.flatten_cons, Nat.zero_add]
          rw [<- hc, List.take_left]
          exact ⟨h.1, by simp⟩
        | succ n =>
          obtain ⟨h1, h2⟩ := ih css n b h.2 (by simpa using hb)
          simp only [List.map_cons, List.take_succ_cons, List.map_cons, List.sum_cons, List.flatten_cons, a4b]
          refine ⟨?_, by rw [List.length_append, hc]; omega⟩
          rw [<- hc, List.drop_append, List.drop_eq_nil_of_le (by omega), List.nil_append]
          rw [show c.length + (((as.map m8).take n).map osz).sum - c.length = (((as.map m8).take n).map osz).sum by omega]
          exact h1
  have := key _ _ n b hh hb
  rw [hU.lay] at this
  exact this
theorem c6r (hU : UOK U) {c : U.C} {x : U.T c} {n : Nat} {b : U.AV} (hb : (U.flds c x)[n]? = some b) : (U.lay c)[n]? = some (m8 b) := by
  rw [<- hU.lay c x, List.getElem?_map, hb]; rfl
theorem c6l (hU : UOK U) {c : U.C} {x : U.T c} {cs : List Value} (h : (Rp c).rep X.G X.w cs x) : ∃ u, u.cells.toList = cs /\ a0c X (inj c x) u := by
  unfold inj
  cases ha : U.ag c with
  | true => exact ⟨.agg cs.toArray, by simp [Value.cells], cs, rfl, h⟩
  | false =>
    obtain ⟨hl, css, rfl, hh⟩ := a8k.1 h
    have hlay := hU.lay c x
    rw [hU.sc c ha] at hlay
    cases hf : U.flds c x with
    | nil => rw [hf] at hlay; simp at hlay
    | cons a r =>
      rw [hf] at hh hlay
      cases r with
      | cons _ _ => simp at hlay
      | nil =>
        cases css with
        | nil => exact hh.elim
        | cons s css => cases css with
          | nil => obtain ⟨u, hu, hr⟩ := a0e hh.1; exact ⟨u, by simpa using hu, hr⟩
          | cons _ _ => exact hh.2.elim
theorem a1q (hU : UOK U) (c : U.C) (x : U.T c) : b0k (inj c x) = true /\ a2h (inj c x) = U.ag c /\ asz (inj c x) = U.n c := by
  unfold inj
  cases ha : U.ag c with
  | true => exact ⟨rfl, rfl, rfl⟩
  | false =>
    have hlay := hU.lay c x
    have hk := hU.kind c x
    have hs := hU.sum c
    rw [hU.sc c ha] at hlay hs
    cases hf : U.flds c x with
    | nil => rw [hf] at hlay; simp at hlay
    | cons a r =>
      rw [hf] at hk hlay
      cases r with
      | cons _ _ => simp at hlay
      | nil =>
        have hk1 : b0k a = true := by simpa using hk
        have hc : m8 a = none := by simpa using hlay
        refine ⟨hk1, ?_, ?_⟩
        . cases a <;> first | rfl | cases hc
        . show asz a = U.n c
          rw [<- a4b, hc, hs]; rfl
theorem c8t {G : Nat -> Prop} {w : World} {c c' : U.C} {x' : U.T c'} {x : U.T c} (h : cst c x' = some x) {cs : List Value} (hr : (Rp c').rep G w cs x') : (Rp c).rep G w cs x := by
  unfold cst at h
  split at h
  . rename_i he _
    subst he
    cases h; exact hr
  . cases h
theorem a1k {G : Nat -> Prop} {w : World} {c c' : U.C} {x' : List (U.T c')} {x : List (U.T c)} (h : b1b c x' = some x) : ∃ he : c' = c, x = he ▸ x' := by
  unfold b1b at h
  split at h
  . rename_i he _; subst he; cases h; exact ⟨rfl, rfl⟩
  . cases h
theorem a0c.of0 {a : U.AV} {u : Value} (h : a7w X a u) : a0c X a u := by
  cases a <;> first
    | exact h
    | exact h.elim
theorem a0c.to0 {a : U.AV} {u : Value} (hp : m4 a = true) (h : a0c X a u) : a7w X a u := by
  cases a <;> first
    | exact h
    | (cases hp; done)
theorem b6h (hU : UOK U) {X : Cx} {c : U.C} {yv : U.T c} {as : List U.AV} {css : List (List Value)} (hk : U.mkv c as = some yv) (h : i8 (fun a s => ∃ u, u.cells.toList = s /\ a0c X a u) as css) : (Rp c).rep X.G X.w css.flatten yv := by
  have h1 := hU.mkl c as yv hk
  have h2 := hU.kind c yv
  refine b9x hU ?_
  generalize hf : U.flds c yv = fs at h1 h2
  clear hk hf
  induction as generalizing css fs with
  | nil =>
    cases css with
    | nil => cases fs with
      | nil => trivial
      | cons _ _ => exact h1.elim
    | cons _ _ => exact h.elim
  | cons a as ih =>
    cases css with
    | nil => exact h.elim
    | cons s css => cases fs with
      | nil => exact h1.elim
      | cons b fs =>
        simp only [List.all_cons, Bool.and_eq_true] at h2
        obtain ⟨u, hu, hr⟩ := h.1
        have hka : b0k a = true \/ a = .nils := by
          rcases h1.1 with rfl | ⟨rfl, _⟩
          . exact .inl h2.1
          . exact .inr rfl
        exact ⟨b2n h1.1 (by rw [<- hu]; exact b2z hka hr), ih h.2 fs h1.2 h2.2⟩
theorem c1r (hU : UOK U) {c : U.C} {yv : U.T c} {as : List U.AV} {css : List (List Value)} (hk : U.mkv c as = some yv) (h : i8 (fun a s => ∃ u : Value, u.cells.toList = s /\ a7w X a u) as css) : (Rp c).rep X.G X.w css.flatten yv :=
  b6h hU hk (h.mono fun _ _ ⟨u, hu, hh⟩ => ⟨u, hu, .of0 hh⟩)
theorem c6m (hU : UOK U) {c : U.C} {yv : U.T c} {as : List U.AV} (hk : U.mkv c as = some yv) : as.all m4 = true /\ as.map m8 = U.lay c := by
  have h1 := hU.mkl c as yv hk
  have h2 := hU.kind c yv
  have h3 := hU.lay c yv
  rw [<- h3]
  generalize U.flds c yv = fs at h1 h2
  clear hk h3
  induction as generalizing fs with
  | nil => cases fs with
    | nil => exact ⟨rfl, rfl⟩
    | cons _ _ => exact h1.elim
  | cons a as ih => cases fs with
    | nil => exact h1.elim
    | cons b fs =>
      simp only [List.all_cons, Bool.and_eq_true] at h2
      obtain ⟨g1, g2⟩ := ih fs h1.2 h2.2
      have key : m4 a = true /\ m8 a = m8 b := by
        rcases h1.1 with rfl | ⟨rfl, c, rfl⟩
        . refine ⟨?_, rfl⟩
          have h2 := h2.1
          cases a <;> first | rfl | cases h2
        . exact ⟨rfl, rfl⟩
      simp only [List.all_cons, Bool.and_eq_true, List.map_cons]
      exact ⟨⟨key.1, g1⟩, by rw [key.2, g2]⟩
theorem b0j {X : Cx} {a : U.AV} {u : Value} (hp : m4 a = true) (h : a7w X a u) : u.cells.toList.length = asz a := by
  cases a <;> first
    | (cases hp; done)
    | (have h : u = _ := h; subst h; rfl)
    | (obtain ⟨cs, rfl, hr⟩ := h
       show cs.toArray.toList.length = U.n _
       rw [a8d]; exact (Rp _).len hr)
    | (rw [a6i h]; rfl)
    | (obtain ⟨ad, cs, rfl, _⟩ := h; rfl)
    | (obtain ⟨_, _, h1⟩ := h
       have : u.cells.toList = [u] := by cases u <;> first | rfl | cases h1
       rw [this]; rfl)
theorem b8g {b : U.AV} : ∀ {as : List U.AV} {css : List (List Value)} {n : Nat}, i8 (fun a s => ∃ u : Value, u.cells.toList = s /\ a7w X a u) as css -> as.all m4 = true -> as[n]? = some b ->
    ∃ u, a7w X b u /\ (css.flatten.drop ((((as.map m8).take n).map osz).sum)).take (asz b) = u.cells.toList /\ (((as.map m8).take n).map osz).sum + asz b <= css.flatten.length /\ m4 b = true
  | [], _, n, _, _, hb => by simp at hb
  | a :: as, [], n, h, _, _ => h.elim
  | a :: as, c :: css, n, h, hp, hb => by
    simp only [List.all_cons, Bool.and_eq_true] at hp
    obtain ⟨u, hu, hr⟩ := h.1
    have hc := b0j hp.1 hr
    rw [hu] at hc
    cases n with
    | zero =>
      simp at hb; subst hb
      refine ⟨u, hr, ?_, ?_, hp.1⟩
      . simp only [List.take_zero, List.map_nil, List.sum_nil, List.drop_zero, List.flatten_cons]
        rw [<- hc, List.take_left, hu]
      . simp [hc]
    | succ n =>
      obtain ⟨u1, h1, h2, h3, h4⟩ := b8g h.2 hp.2 (n := n) (by simpa using hb)
      refine ⟨u1, h1, ?_, ?_, h4⟩
      . simp only [List.map_cons, List.take_succ_cons, List.sum_cons, List.flatten_cons, a4b]
        rw [<- hc, List.drop_append, List.drop_eq_nil_of_le (by omega), List.nil_append]
        rw [show c.length + (((as.map m8).take n).map osz).sum - c.length = (((as.map m8).take n).map osz).sum by omega]
        exact h2
      . simp only [List.map_cons, List.take_succ_cons, List.sum_cons, List.flatten_cons, a4b, List.length_append]
        omega
theorem d2g {as : List U.AV} {css : List (List Value)} (h : i8 (fun a s => ∃ u : Value, u.cells.toList = s /\ a7w X a u) as css) (hp : as.all m4 = true) : css.flatten.length = ((as.map m8).map osz).sum := by
  induction as generalizing css with
  | nil => cases css with
    | nil => rfl
    | cons _ _ => exact h.elim
  | cons a as ih => cases css with
    | nil => exact h.elim
    | cons c css =>
      simp only [List.all_cons, Bool.and_eq_true] at hp
      obtain ⟨u, hu, hr⟩ := h.1
      have hc := b0j hp.1 hr
      rw [hu] at hc
      simp only [List.flatten_cons, List.length_append, List.map_cons, List.sum_cons, ih h.2 hp.2, a4b, hc]
theorem a8y (hU : UOK U) {c : U.C} {a : U.AV} {x : U.T c} (h : prj c a = some x) {u : Value} (hr : a0c X a u) : (Rp c).rep X.G X.w u.cells.toList x := by
  unfold prj at h
  cases ha : U.ag c with
  | true =>
    rw [ha] at h
    cases a <;> try (cases h; done)
    case val c' x' =>
      obtain ⟨cs, hu, hc⟩ := hr
      subst hu
      simpa [Value.cells] using c8t h hc
    case st c' as =>
      obtain ⟨css, hu, _, _, hc⟩ := hr
      subst hu
      dsimp only at h
      split at h
      . rename_i x' hk
        simpa [Value.cells] using c8t h (c1r hU hk hc)
      . cases h
  | false =>
    rw [ha] at h
    have hk := hU.mkl c [a] x h
    have hkind := hU.kind c x
    have hf : ∃ b, U.flds c x = [b] /\ AEq a b := by
      cases hl : U.flds c x with
      | nil => rw [hl] at hk; exact hk.elim
      | cons b r => rw [hl] at hk; cases r with
        | nil => exact ⟨b, rfl, hk.1⟩
        | cons _ _ => exact hk.2.elim
    obtain ⟨b, hb, hab⟩ := hf
    have hfa : b0k a = true \/ a = .nils := by
      rcases hab with rfl | ⟨rfl, _⟩
      . rw [hb] at hkind; exact .inl (by simpa using hkind)
      . exact .inr rfl
    have h1 := b9x hU (c := c) (x := x) (css := [u.cells.toList]) (G := X.G) (w := X.w) (by rw [hb]; exact ⟨b2n hab (b2z hfa hr), trivial⟩)
    simpa using h1
theorem b84 (hU : UOK U) {c : U.C} {a : U.AV} {x : U.T c} (h : prj c a = some x) : asz a = U.n c /\ a2h a = U.ag c := by
  unfold prj at h
  cases ha : U.ag c with
  | true =>
    rw [ha] at h
    have key : ∀ {c' : U.C} {x' : U.T c'}, cst c x' = some x -> c' = c := fun h => by
      unfold cst at h
      split at h
      . assumption
      . cases h
    cases a <;> try (cases h; done)
    case val c' x' =>
      have := key h
      subst this; exact ⟨rfl, rfl⟩
    case st c' as =>
      dsimp only at h
      split at h
      . have := key h
        subst this; exact ⟨rfl, rfl⟩
      . cases h
  | false =>
    rw [ha] at h
    have hk := hU.mkl c [a] x h
    have hs := hU.sum c
    have hlay := hU.lay c x
    rw [hU.sc c ha] at hs hlay
    cases hl : U.flds c x with
    | nil => rw [hl] at hk; exact hk.elim
    | cons b r =>
      rw [hl] at hk hlay
      have hc : m8 b = none := by
        cases r with
        | nil => simpa using hlay
        | cons _ _ => simp at hlay
      have hca : m8 a = none := by
        rcases hk.1 with rfl | ⟨rfl, _⟩
        . exact hc
        . rfl
      refine ⟨by rw [<- a4b, hca, hs]; rfl, ?_⟩
      cases a <;> first | rfl | cases hca
def Loc (X : Cx) (a : U.AV) (ad : Addr) : Prop := ∃ u, a0c X a u /\ CA X.w ad u.cells.toList
theorem b7h (hU : UOK U) : ∀ (p : List PE) (a : U.AV) (c : U.C) (ad : Addr) (b : U.AV), Loc X a ad -> (p = [] \/ m8 a = some c) -> nav a p = some b -> Loc X b (ad.add (a5n c p))
  | [], a, c, ad, b, h, _, hn => by
    cases hn
    simpa [a5n, Addr.add] using h
  | .f n :: p, a, c, ad, b, h, hc, hn => by
    replace hc : m8 a = some c := hc.resolve_left (fun h => by cases h)
    have fin : ∀ b1 : U.AV, (U.lay c)[n]? = some (m8 b1) -> nav b1 p = some b -> Loc X b1 (ad.add (off c n)) -> Loc X b (ad.add (a5n c (.f n :: p))) := by
      intro b1 hcode hn hl1
      simp only [a5n, hcode]
      rw [<- Addr.add_add]
      cases hcb : m8 b1 with
      | some c1 => exact b7h hU p b1 c1 _ b hl1 (.inr hcb) hn
      | none =>
        cases p with
        | nil => cases hn; simpa [Addr.add] using hl1
        | cons q p => cases b1 <;> first
          | (cases hcb; done)
          | (cases q <;> cases hn)
    cases a <;> try (cases hc; done)
    case val c' x =>
      cases hc
      simp only [nav] at hn
      cases hb : (U.flds c x)[n]? with
      | none => rw [hb] at hn; cases hn
      | some b1 =>
        rw [hb] at hn
        obtain ⟨u, ⟨cs, hu, hr⟩, hca⟩ := h
        subst hu
        simp only [Value.cells, a8d] at hca
        obtain ⟨h1, h2⟩ := b4u hU hr hb
        obtain ⟨u1, hu1, hr1⟩ := a0e h1
        exact fin b1 (c6r hU hb) hn ⟨u1, hr1, by rw [hu1]; exact CA.sub hca _ _⟩
    case st c' as =>
      cases hc
      simp only [nav] at hn
      cases hb : as[n]? with
      | none => rw [hb] at hn; cases hn
      | some b1 =>
        rw [hb] at hn
        obtain ⟨u, ⟨css, hu, hlay, hp, hr⟩, hca⟩ := h
        subst hu
        simp only [Value.cells, a8d] at hca
        obtain ⟨u1, h1, h2, h3, _⟩ := b8g hr hp hb
        rw [hlay] at h2 h3
        refine fin b1 ?_ hn ⟨u1, .of0 h1, ?_⟩
        . rw [<- hlay, List.getElem?_map, hb]; rfl
        . rw [<- h2]; exact CA.sub hca _ _
  | .i n :: p, a, c, ad, b, h, hc, hn => by
    cases a <;> cases hn
theorem b7e (hU : UOK U) {G : Nat -> Prop} {w : World} {c : U.C} : ∀ (l : List (U.T c)) (css : List (List Value)) (k : Nat), i8 (c9 Rp G w) (l.map (inj c)) css -> k <= l.length -> (css.take k).flatten.length = k * U.n c
  | [], [], k, _, h => by simp at h; subst h; simp
  | [], _ :: _, _, h, _ => h.elim
  | _ :: _, [], _, h, _ => h.elim
  | y :: l, s :: css, 0, _, _ => by simp
  | y :: l, s :: css, k + 1, h, hk => by
    have h1 := a5k hU h.1
    rw [(a1q hU c y).2.2] at h1
    simp only [List.take_succ_cons, List.flatten_cons, List.length_append, h1, b7e hU l css k h.2 (by simpa using hk)]
    rw [Nat.add_mul]; omega
theorem c2i {α β : Type} {l : List α} {n : Int} {y : α} (f : α -> β) (h : m7 l n = some y) : 0 <= n /\ (l.map f)[n.toNat]? = some (f y) /\ n.toNat < l.length := by
  obtain ⟨h0, h1, h2⟩ := a8a h
  exact ⟨h0, by rw [List.getElem?_map, h2]; rfl, (List.getElem?_eq_some_iff.1 h2).1⟩
theorem d48 (hU : UOK U) {ca : U.C} {x : U.T ca} (hA : U.isA ca = true) {u : Value} (hr : a0c X (.val ca x) u) {ad : Addr} (hc : CA X.w ad u.cells.toList) {n : Int} {y : U.T (U.ae ca)} (hy : m7 (U.al ca x) n = some y) : Loc X (inj (U.ae ca) y) (ad.add (n.toNat * U.n (U.ae ca))) := by
  obtain ⟨cs, hu, hr⟩ := hr
  obtain ⟨_, css, hcs, hall⟩ := a8k.1 hr
  rw [(hU.arr ca x hA).1] at hall
  obtain ⟨_, h1, h2⟩ := c2i (inj (U.ae ca)) hy
  obtain ⟨s, hs, hf⟩ := hall.get h1
  have ht := b7e hU (U.al ca x) css n.toNat hall (Nat.le_of_lt h2)
  obtain ⟨u1, hu1, hr1⟩ := a0e hf
  refine ⟨u1, hr1, ?_⟩
  have hsub : (css.flatten.drop (n.toNat * U.n (U.ae ca))).take s.length = s := by
    rw [<- ht]
    clear ht h1 h2 hf hall hr hcs hy
    generalize n.toNat = k at hs
    induction css generalizing k with
    | nil => simp at hs
    | cons c css ih => cases k with
      | zero => simp at hs; subst hs; simp
      | succ k =>
        simp only [List.take_succ_cons, List.flatten_cons, List.length_append]
        rw [List.drop_length_add_append]
        exact ih k (by simpa using hs)
  rw [hu1, <- hsub]
  subst hu
  rw [hcs] at hc
  refine CA.sub ?_ _ _
  simpa [Value.cells] using hc
section
variable {E : Env} {Z : Nat -> Prop} {π : Nat -> Value} {σ : U.St} {ρ : Nat -> Value} {w : World}
variable {d : Option Tmp} {ty : TypeId} {ps : String} {af : Array Edge} {g : Option (Nat × Bool)} {x y z : Operand} {m0 m : Nat} {a b c v : U.AV} {ws : List (Nat × U.MC)} {fr : Nat}
theorem a8b {t : TypeId} {n : Nat} (h : c9b P t n = true) {w : World} : (sizeOf t).run P w = .ok n w := by
  unfold c9b at h
  split at h
  . rename_i i hi
    have := Nat.eq_of_beq_eq_true h
    subst this
    simp [sizeOf, typeInfo, program, Sem.run, hi, pure, bind, Sem.bind]
  . cases h
theorem a8e {t : TypeId} {b : Bool} (h : d63 P t b = true) {w : World} : (isAgg t).run P w = .ok b w := by
  unfold d63 at h
  split at h
  . rename_i fs hu; subst h; simp [isAgg, a5p hu]
  . rename_i n e hu; subst h; simp [isAgg, a5p hu]
  . rename_i dsc h1 h2 hu
    cases b with
    | true => cases h
    | false => 
      simp only [isAgg, Sem.run_bind, a5p hu, Result.andThen_ok]
      cases dsc <;> first
        | rfl
        | exact absurd rfl (h1 _)
        | exact absurd rfl (h2 _ _)
  . cases h
theorem b5m {u : Value} (h : u.oneCell' = true) : u.cells.toList = [u] := by
  cases u <;> first | rfl | cases h
theorem c2g (hU : UOK U) {t : TypeId} {ad : Addr} (hf : a84 P t a = true) (h : Loc X a ad) : ∃ u, a0c X a u /\ (Instr.loadAt t (.pointer (some ad))).run P X.w = .ok u X.w := by
  unfold a84 at hf
  simp only [Bool.and_eq_true] at hf
  obtain ⟨⟨hp, hag⟩, hs⟩ := hf
  obtain ⟨u, hr, hca⟩ := h
  refine ⟨u, hr, ?_⟩
  cases hv : a2h a with
  | true =>
    rw [hv] at hag
    cases a <;> try (cases hv; done)
    case val c x =>
      obtain ⟨cs, rfl, hc⟩ := hr
      have hl := (Rp c).len hc
      refine a59 (P := P) (t := t) (n := U.n c) (cs := cs) ?_ hl (by simpa [Value.cells] using hca)
      simp [Instr.loadAt, Instr.sureAddr, loadVar, a8e hag, a8b hs, asz]
    case st c as =>
      obtain ⟨css, rfl, hlay, hpp, hc⟩ := hr
      have hl := d2g hc hpp
      rw [hlay, <- hU.sum] at hl
      refine a59 (P := P) (t := t) (n := U.n c) (cs := css.flatten) ?_ hl (by simpa [Value.cells] using hca)
      simp [Instr.loadAt, Instr.sureAddr, loadVar, a8e hag, a8b hs, asz]
  | false =>
    rw [hv] at hag
    have hu : u.cells.toList = [u] := by
      cases a <;> first
        | (cases hp; done)
        | (cases hv; done)
        | (have hr : u = _ := hr; subst hr; rfl)
        | exact a6i hr
        | (obtain ⟨ad, cs, hr, _⟩ := hr; subst hr; rfl)
        | (obtain ⟨_, _, h1⟩ := hr; exact b5m h1)
    rw [hu] at hca
    exact a09 (by simp [Instr.loadAt, Instr.sureAddr, loadVar, a8e hag]) hca
end
end
end Go.SX
