/-
  No cell of these rows narrows 'for every input' (looked for: loops, veiled, ifaces, maps, wideKeys, modest, calm, conditions, laid).
  DERIVED. THE GIVEN ROWS OF THIS SEAT. 2 by the template 'for every input the law returns true; each argument reads behind the call as it read before'; 0 by the template 'total and deterministic' (their statements: YtndkbfbjjnhgoaaGreatTotals.lean).
  GIVEN WITH THE SEED: the statements are not yours to turn. If you find one false, say at which input.
  Laid BY PROGRAM, IN A SANDBOX (cutbox-rows.mjs): the forced cells as the released guide's own fill.sh prints them over the translation 4058287b971cf4a8… (all of the seat's roots in one cut). By AI agents, Wed Nov 11 2026. No macro, syntax, notation, axiom, sorry.
-/
import Derived.Test.YtndkbfbjjnhgoaaGreatChecked
import GoSem.Claim
import GoSem.ClaimJoined
import GoSem.ClaimMapViews
import Derived.JoinedTies
import Derived.KernelRfl
namespace Go.Proofs.YtndkbfbjjnhgoaaGreat
/- THE CELL 'sum', in the pinned program and in every row, IS THE sha256 OF THE DUMP (.gsa) THAT YtndkbfbjjnhgoaaGreatProg.lean LOADS. Nothing in Lean hashes anything: it is a label: what it is worth is what the hold of that sum in a sandbox is worth. -/
noncomputable def Tryz.pinned : Pinned := { name := "ytndkbfbjjnhgoaagreat", sum := "4058287b971cf4a8b3b1646b35d920bc38123462663da37ab77d4b8c89614402", checked := Tryz.checked }
namespace Rows
def none {H : Type} : Left H := { results := [], args := [] }

/-- 'pensionlaw26.DecisionSelectIgnoresOrder': WHATEVER THE INPUT: true; the input reads as it did. -/
def decisionSelectIgnoresOrderSpec : ChangeSpec := { name := "decisionSelectIgnoresOrder", fn := fun _ => fun
  | [d1, d2, d3, d4, d5, d6] => { results := [.lit (.bool true)], args := [d1, d2, d3, d4, d5, d6] }
  | _ => none }
def decisionSelectIgnoresOrderRow : OpenClaim := { program := "ytndkbfbjjnhgoaagreat", sum := "4058287b971cf4a8b3b1646b35d920bc38123462663da37ab77d4b8c89614402", func := "pension/pensionlaw26.DecisionSelectIgnoresOrder", spec := "decisionSelectIgnoresOrder", inPlace := ["internal/bytealg.IndexByteString", "internal/bytealg.IndexString", "internal/bytealg.Compare", "internal/reflectlite.ValueOf", "internal/reflectlite.Swapper", "(internal/reflectlite.Value).Len"], unfollowed := true, recurses := true, named := ["internal/bytealg.MaxLen"], apart := false }
def DecisionSelectIgnoresOrderSaid : Prop := decisionSelectIgnoresOrderRow.holds Tryz.pinned (OpenSpec.ofChange decisionSelectIgnoresOrderSpec)

/-- ITS FALSE NEIGHBOUR: 'it returns false'. Refute it at one input. -/
def decisionSelectIgnoresOrderWrong : ChangeSpec := { name := "decisionSelectIgnoresOrder", fn := fun _ => fun
  | [d1, d2, d3, d4, d5, d6] => { results := [.lit (.bool false)], args := [d1, d2, d3, d4, d5, d6] }
  | _ => none }
def DecisionSelectIgnoresOrderWrongFalsely : Prop := decisionSelectIgnoresOrderRow.holds Tryz.pinned (OpenSpec.ofChange decisionSelectIgnoresOrderWrong)

/-- 'pensionlaw26.DecisionEntitledAgrees': WHATEVER THE INPUT: true; the input reads as it did. -/
def decisionEntitledAgreesSpec : ChangeSpec := { name := "decisionEntitledAgrees", fn := fun _ => fun
  | [d1, d2, d3, d4] => { results := [.lit (.bool true)], args := [d1, d2, d3, d4] }
  | _ => none }
def decisionEntitledAgreesRow : OpenClaim := { program := "ytndkbfbjjnhgoaagreat", sum := "4058287b971cf4a8b3b1646b35d920bc38123462663da37ab77d4b8c89614402", func := "pension/pensionlaw26.DecisionEntitledAgrees", spec := "decisionEntitledAgrees", inPlace := ["internal/bytealg.IndexByteString", "internal/bytealg.IndexString", "internal/bytealg.Compare", "internal/reflectlite.ValueOf", "internal/reflectlite.Swapper", "(internal/reflectlite.Value).Len"], unfollowed := true, recurses := true, named := ["math/bits.divideError", "math/bits.overflowError", "internal/bytealg.MaxLen"], apart := false }
def DecisionEntitledAgreesSaid : Prop := decisionEntitledAgreesRow.holds Tryz.pinned (OpenSpec.ofChange decisionEntitledAgreesSpec)

/-- ITS FALSE NEIGHBOUR: 'it returns false'. Refute it at one input. -/
def decisionEntitledAgreesWrong : ChangeSpec := { name := "decisionEntitledAgrees", fn := fun _ => fun
  | [d1, d2, d3, d4] => { results := [.lit (.bool false)], args := [d1, d2, d3, d4] }
  | _ => none }
def DecisionEntitledAgreesWrongFalsely : Prop := decisionEntitledAgreesRow.holds Tryz.pinned (OpenSpec.ofChange decisionEntitledAgreesWrong)

/- THE SECOND FORM. 'bulk': how many values and letters a reading holds, each counted each time it is reached (what is shared counts as often as it is met; a slice's spare places count too). A statement '..UptoSaid' is the law's where the arguments, and the package variables that the reading takes, are together of bulk at most 1048576: NARROWER than '..Said'. Prove '..Said' where nothing that the law and all that it calls make is longer than what came in: it says more and counts as full. Else prove '..UptoSaid'. A law counts once. -/
mutual
def uptoBulk {H : Type} : DataW H → Nat
  | .lit (.string bytes) => bytes.length + 1
  | .lit _ => 1
  | .nil => 1
  | .ptr d => uptoBulk d + 1
  | .slice elems spare => uptoBulkAll elems + uptoBulkAll spare + 1
  | .agg parts => uptoBulkAll parts + 1
  | .iface _ d => uptoBulk d + 1
  | .map entries => uptoBulkEntries entries + 1
  | .held _ => 1
def uptoBulkAll {H : Type} : List (DataW H) → Nat
  | [] => 0
  | d :: r => uptoBulk d + uptoBulkAll r
def uptoBulkEntries {H : Type} : List (Lit × DataW H) → Nat
  | [] => 0
  | x :: r => uptoBulkEntry x + uptoBulkEntries r
def uptoBulkEntry {H : Type} : Lit × DataW H → Nat
  | (.string bytes, d) => bytes.length + uptoBulk d + 1
  | (_, d) => uptoBulk d + 1
 end
def uptoSmall : (H : Type) → List (DataW H) → Bool := fun _ ds => decide (uptoBulkAll ds ≤ 1048576)
def OpenSpec.upto (s : _root_.Go.ChangeSpec) : _root_.Go.OpenSpec := { _root_.Go.OpenSpec.ofChange s with cond := some uptoSmall }

/-- 'pensionlaw26.DecisionSelectIgnoresOrder', WHERE WHAT IT READS IS OF BULK AT MOST 1048576: true; the input reads as it did. -/
def decisionSelectIgnoresOrderUptoRow : OpenClaim := { program := "ytndkbfbjjnhgoaagreat", sum := "4058287b971cf4a8b3b1646b35d920bc38123462663da37ab77d4b8c89614402", func := "pension/pensionlaw26.DecisionSelectIgnoresOrder", spec := "decisionSelectIgnoresOrder", inPlace := ["internal/bytealg.IndexByteString", "internal/bytealg.IndexString", "internal/bytealg.Compare", "internal/reflectlite.ValueOf", "internal/reflectlite.Swapper", "(internal/reflectlite.Value).Len"], unfollowed := true, recurses := true, named := ["internal/bytealg.MaxLen"], apart := false, narrowed := true }
def DecisionSelectIgnoresOrderUptoSaid : Prop := decisionSelectIgnoresOrderUptoRow.holds Tryz.pinned (OpenSpec.upto decisionSelectIgnoresOrderSpec)

/-- 'pensionlaw26.DecisionEntitledAgrees', WHERE WHAT IT READS IS OF BULK AT MOST 1048576: true; the input reads as it did. -/
def decisionEntitledAgreesUptoRow : OpenClaim := { program := "ytndkbfbjjnhgoaagreat", sum := "4058287b971cf4a8b3b1646b35d920bc38123462663da37ab77d4b8c89614402", func := "pension/pensionlaw26.DecisionEntitledAgrees", spec := "decisionEntitledAgrees", inPlace := ["internal/bytealg.IndexByteString", "internal/bytealg.IndexString", "internal/bytealg.Compare", "internal/reflectlite.ValueOf", "internal/reflectlite.Swapper", "(internal/reflectlite.Value).Len"], unfollowed := true, recurses := true, named := ["math/bits.divideError", "math/bits.overflowError", "internal/bytealg.MaxLen"], apart := false, narrowed := true }
def DecisionEntitledAgreesUptoSaid : Prop := decisionEntitledAgreesUptoRow.holds Tryz.pinned (OpenSpec.upto decisionEntitledAgreesSpec)

end Rows
end Go.Proofs.YtndkbfbjjnhgoaaGreat
