/-
  No cell of these rows narrows 'for every input' (looked for: loops, veiled, ifaces, maps, wideKeys, modest, calm, conditions, laid).
  DERIVED. THE GIVEN ROWS OF THIS SEAT. 5 by the template 'for every input the law returns true; each argument reads behind the call as it read before'; 0 by the template 'total and deterministic' (their statements: YtndkbfbjjnhgoaaTotals.lean).
  GIVEN WITH THE SEED: the statements are not yours to turn. If you find one false, say at which input.
  Laid BY PROGRAM, IN A SANDBOX (cutbox-rows.mjs): the forced cells as the released guide's own fill.sh prints them over the translation 1b263b3aadc0fd9a… (all of the seat's roots in one cut). By AI agents, Wed Nov 11 2026. No macro, syntax, notation, axiom, sorry.
-/
import Derived.Test.YtndkbfbjjnhgoaaChecked
import GoSem.Claim
import GoSem.ClaimJoined
import GoSem.ClaimMapViews
import Derived.JoinedTies
import Derived.KernelRfl
namespace Go.Proofs.Ytndkbfbjjnhgoaa
/- THE CELL 'sum', in the pinned program and in every row, IS THE sha256 OF THE DUMP (.gsa) THAT YtndkbfbjjnhgoaaProg.lean LOADS. Nothing in Lean hashes anything: it is a label: what it is worth is what the hold of that sum in a sandbox is worth. -/
noncomputable def Try.pinned : Pinned := { name := "ytndkbfbjjnhgoaa", sum := "1b263b3aadc0fd9ad9a75fd73c521a49886103ed0b7a1c6784fbda558aa81bb8", checked := Try.checked }
namespace Rows
def none {H : Type} : Left H := { results := [], args := [] }

/-- 'pensionlaw25.SicknessSpellsAgree': WHATEVER THE INPUT: true; the input reads as it did. -/
def sicknessSpellsAgreeSpec : ChangeSpec := { name := "sicknessSpellsAgree", fn := fun _ => fun
  | [d1, d2, d3] => { results := [.lit (.bool true)], args := [d1, d2, d3] }
  | _ => none }
def sicknessSpellsAgreeRow : OpenClaim := { program := "ytndkbfbjjnhgoaa", sum := "1b263b3aadc0fd9ad9a75fd73c521a49886103ed0b7a1c6784fbda558aa81bb8", func := "pension/pensionlaw25.SicknessSpellsAgree", spec := "sicknessSpellsAgree", inPlace := ["internal/bytealg.IndexByteString", "internal/bytealg.IndexString", "internal/reflectlite.ValueOf", "internal/reflectlite.Swapper", "(internal/reflectlite.Value).Len"], unfollowed := true, recurses := true, named := ["internal/bytealg.MaxLen"], apart := false }
def SicknessSpellsAgreeSaid : Prop := sicknessSpellsAgreeRow.holds Try.pinned (OpenSpec.ofChange sicknessSpellsAgreeSpec)

/-- ITS FALSE NEIGHBOUR: 'it returns false'. Refute it at one input. -/
def sicknessSpellsAgreeWrong : ChangeSpec := { name := "sicknessSpellsAgree", fn := fun _ => fun
  | [d1, d2, d3] => { results := [.lit (.bool false)], args := [d1, d2, d3] }
  | _ => none }
def SicknessSpellsAgreeWrongFalsely : Prop := sicknessSpellsAgreeRow.holds Try.pinned (OpenSpec.ofChange sicknessSpellsAgreeWrong)

/-- 'pensionlaw25.SicknessPayableAgrees': WHATEVER THE INPUT: true; the input reads as it did. -/
def sicknessPayableAgreesSpec : ChangeSpec := { name := "sicknessPayableAgrees", fn := fun _ => fun
  | [d1, d2, d3] => { results := [.lit (.bool true)], args := [d1, d2, d3] }
  | _ => none }
def sicknessPayableAgreesRow : OpenClaim := { program := "ytndkbfbjjnhgoaa", sum := "1b263b3aadc0fd9ad9a75fd73c521a49886103ed0b7a1c6784fbda558aa81bb8", func := "pension/pensionlaw25.SicknessPayableAgrees", spec := "sicknessPayableAgrees", inPlace := ["internal/bytealg.IndexByteString", "internal/bytealg.IndexString", "internal/reflectlite.ValueOf", "internal/reflectlite.Swapper", "(internal/reflectlite.Value).Len"], unfollowed := true, recurses := true, named := ["internal/bytealg.MaxLen"], apart := false }
def SicknessPayableAgreesSaid : Prop := sicknessPayableAgreesRow.holds Try.pinned (OpenSpec.ofChange sicknessPayableAgreesSpec)

/-- ITS FALSE NEIGHBOUR: 'it returns false'. Refute it at one input. -/
def sicknessPayableAgreesWrong : ChangeSpec := { name := "sicknessPayableAgrees", fn := fun _ => fun
  | [d1, d2, d3] => { results := [.lit (.bool false)], args := [d1, d2, d3] }
  | _ => none }
def SicknessPayableAgreesWrongFalsely : Prop := sicknessPayableAgreesRow.holds Try.pinned (OpenSpec.ofChange sicknessPayableAgreesWrong)

/-- 'pensionlaw25.SicknessSpellsAreApart': WHATEVER THE INPUT: true; the input reads as it did. -/
def sicknessSpellsAreApartSpec : ChangeSpec := { name := "sicknessSpellsAreApart", fn := fun _ => fun
  | [d1, d2] => { results := [.lit (.bool true)], args := [d1, d2] }
  | _ => none }
def sicknessSpellsAreApartRow : OpenClaim := { program := "ytndkbfbjjnhgoaa", sum := "1b263b3aadc0fd9ad9a75fd73c521a49886103ed0b7a1c6784fbda558aa81bb8", func := "pension/pensionlaw25.SicknessSpellsAreApart", spec := "sicknessSpellsAreApart", inPlace := ["internal/bytealg.IndexByteString", "internal/bytealg.IndexString", "internal/reflectlite.ValueOf", "internal/reflectlite.Swapper", "(internal/reflectlite.Value).Len"], unfollowed := true, recurses := true, named := ["internal/bytealg.MaxLen"], apart := false }
def SicknessSpellsAreApartSaid : Prop := sicknessSpellsAreApartRow.holds Try.pinned (OpenSpec.ofChange sicknessSpellsAreApartSpec)

/-- ITS FALSE NEIGHBOUR: 'it returns false'. Refute it at one input. -/
def sicknessSpellsAreApartWrong : ChangeSpec := { name := "sicknessSpellsAreApart", fn := fun _ => fun
  | [d1, d2] => { results := [.lit (.bool false)], args := [d1, d2] }
  | _ => none }
def SicknessSpellsAreApartWrongFalsely : Prop := sicknessSpellsAreApartRow.holds Try.pinned (OpenSpec.ofChange sicknessSpellsAreApartWrong)

/-- 'pensionlaw25.SicknessWaitingDays': WHATEVER THE INPUT: true; the input reads as it did. -/
def sicknessWaitingDaysSpec : ChangeSpec := { name := "sicknessWaitingDays", fn := fun _ => fun
  | [d1, d2] => { results := [.lit (.bool true)], args := [d1, d2] }
  | _ => none }
def sicknessWaitingDaysRow : OpenClaim := { program := "ytndkbfbjjnhgoaa", sum := "1b263b3aadc0fd9ad9a75fd73c521a49886103ed0b7a1c6784fbda558aa81bb8", func := "pension/pensionlaw25.SicknessWaitingDays", spec := "sicknessWaitingDays", inPlace := ["internal/bytealg.IndexByteString", "internal/bytealg.IndexString", "internal/reflectlite.ValueOf", "internal/reflectlite.Swapper", "(internal/reflectlite.Value).Len"], unfollowed := true, recurses := true, named := ["internal/bytealg.MaxLen"], apart := false }
def SicknessWaitingDaysSaid : Prop := sicknessWaitingDaysRow.holds Try.pinned (OpenSpec.ofChange sicknessWaitingDaysSpec)

/-- ITS FALSE NEIGHBOUR: 'it returns false'. Refute it at one input. -/
def sicknessWaitingDaysWrong : ChangeSpec := { name := "sicknessWaitingDays", fn := fun _ => fun
  | [d1, d2] => { results := [.lit (.bool false)], args := [d1, d2] }
  | _ => none }
def SicknessWaitingDaysWrongFalsely : Prop := sicknessWaitingDaysRow.holds Try.pinned (OpenSpec.ofChange sicknessWaitingDaysWrong)

/-- 'pensionlaw25.SicknessMostDays': WHATEVER THE INPUT: true; the input reads as it did. -/
def sicknessMostDaysSpec : ChangeSpec := { name := "sicknessMostDays", fn := fun _ => fun
  | [d1, d2, d3] => { results := [.lit (.bool true)], args := [d1, d2, d3] }
  | _ => none }
def sicknessMostDaysRow : OpenClaim := { program := "ytndkbfbjjnhgoaa", sum := "1b263b3aadc0fd9ad9a75fd73c521a49886103ed0b7a1c6784fbda558aa81bb8", func := "pension/pensionlaw25.SicknessMostDays", spec := "sicknessMostDays", inPlace := ["internal/bytealg.IndexByteString", "internal/bytealg.IndexString", "internal/reflectlite.ValueOf", "internal/reflectlite.Swapper", "(internal/reflectlite.Value).Len"], unfollowed := true, recurses := true, named := ["internal/bytealg.MaxLen"], apart := false }
def SicknessMostDaysSaid : Prop := sicknessMostDaysRow.holds Try.pinned (OpenSpec.ofChange sicknessMostDaysSpec)

/-- ITS FALSE NEIGHBOUR: 'it returns false'. Refute it at one input. -/
def sicknessMostDaysWrong : ChangeSpec := { name := "sicknessMostDays", fn := fun _ => fun
  | [d1, d2, d3] => { results := [.lit (.bool false)], args := [d1, d2, d3] }
  | _ => none }
def SicknessMostDaysWrongFalsely : Prop := sicknessMostDaysRow.holds Try.pinned (OpenSpec.ofChange sicknessMostDaysWrong)

/- THE SECOND FORM. 'bulk': how many values and letters a reading holds, each counted each time it is reached (what is shared counts as often as it is met; a slice's spare places count too). A statement '..UptoSaid' is the law's where the arguments, and the package variables that the reading takes, are together of bulk at most 1048576: NARROWER than '..Said'. Prove '..Said' where nothing that the law and all that it calls make is longer than what came in: it says more and counts as full. Else prove '..UptoSaid'. A law counts once. -/
mutual
def uptoBulk {H : Type} : DataW H → Nat
  | .lit (.string bytes) => bytes.length + 1
  | .lit _ => 1
  | .nil => 1
  | .ptr d => uptoBulk d + 1
  | .slice elems spare => uptoBulkAll elems + uptoBulkAll spare + 1
  | .agg parts => uptoBulkAll parts + 1
  | .iface _ d => uptoBulk d + 1
  | .map entries => uptoBulkEntries entries + 1
  | .held _ => 1
def uptoBulkAll {H : Type} : List (DataW H) → Nat
  | [] => 0
  | d :: r => uptoBulk d + uptoBulkAll r
def uptoBulkEntries {H : Type} : List (Lit × DataW H) → Nat
  | [] => 0
  | x :: r => uptoBulkEntry x + uptoBulkEntries r
def uptoBulkEntry {H : Type} : Lit × DataW H → Nat
  | (.string bytes, d) => bytes.length + uptoBulk d + 1
  | (_, d) => uptoBulk d + 1
 end
def uptoSmall : (H : Type) → List (DataW H) → Bool := fun _ ds => decide (uptoBulkAll ds ≤ 1048576)
def OpenSpec.upto (s : _root_.Go.ChangeSpec) : _root_.Go.OpenSpec := { _root_.Go.OpenSpec.ofChange s with cond := some uptoSmall }

/-- 'pensionlaw25.SicknessSpellsAgree', WHERE WHAT IT READS IS OF BULK AT MOST 1048576: true; the input reads as it did. -/
def sicknessSpellsAgreeUptoRow : OpenClaim := { program := "ytndkbfbjjnhgoaa", sum := "1b263b3aadc0fd9ad9a75fd73c521a49886103ed0b7a1c6784fbda558aa81bb8", func := "pension/pensionlaw25.SicknessSpellsAgree", spec := "sicknessSpellsAgree", inPlace := ["internal/bytealg.IndexByteString", "internal/bytealg.IndexString", "internal/reflectlite.ValueOf", "internal/reflectlite.Swapper", "(internal/reflectlite.Value).Len"], unfollowed := true, recurses := true, named := ["internal/bytealg.MaxLen"], apart := false, narrowed := true }
def SicknessSpellsAgreeUptoSaid : Prop := sicknessSpellsAgreeUptoRow.holds Try.pinned (OpenSpec.upto sicknessSpellsAgreeSpec)

/-- 'pensionlaw25.SicknessPayableAgrees', WHERE WHAT IT READS IS OF BULK AT MOST 1048576: true; the input reads as it did. -/
def sicknessPayableAgreesUptoRow : OpenClaim := { program := "ytndkbfbjjnhgoaa", sum := "1b263b3aadc0fd9ad9a75fd73c521a49886103ed0b7a1c6784fbda558aa81bb8", func := "pension/pensionlaw25.SicknessPayableAgrees", spec := "sicknessPayableAgrees", inPlace := ["internal/bytealg.IndexByteString", "internal/bytealg.IndexString", "internal/reflectlite.ValueOf", "internal/reflectlite.Swapper", "(internal/reflectlite.Value).Len"], unfollowed := true, recurses := true, named := ["internal/bytealg.MaxLen"], apart := false, narrowed := true }
def SicknessPayableAgreesUptoSaid : Prop := sicknessPayableAgreesUptoRow.holds Try.pinned (OpenSpec.upto sicknessPayableAgreesSpec)

/-- 'pensionlaw25.SicknessSpellsAreApart', WHERE WHAT IT READS IS OF BULK AT MOST 1048576: true; the input reads as it did. -/
def sicknessSpellsAreApartUptoRow : OpenClaim := { program := "ytndkbfbjjnhgoaa", sum := "1b263b3aadc0fd9ad9a75fd73c521a49886103ed0b7a1c6784fbda558aa81bb8", func := "pension/pensionlaw25.SicknessSpellsAreApart", spec := "sicknessSpellsAreApart", inPlace := ["internal/bytealg.IndexByteString", "internal/bytealg.IndexString", "internal/reflectlite.ValueOf", "internal/reflectlite.Swapper", "(internal/reflectlite.Value).Len"], unfollowed := true, recurses := true, named := ["internal/bytealg.MaxLen"], apart := false, narrowed := true }
def SicknessSpellsAreApartUptoSaid : Prop := sicknessSpellsAreApartUptoRow.holds Try.pinned (OpenSpec.upto sicknessSpellsAreApartSpec)

/-- 'pensionlaw25.SicknessWaitingDays', WHERE WHAT IT READS IS OF BULK AT MOST 1048576: true; the input reads as it did. -/
def sicknessWaitingDaysUptoRow : OpenClaim := { program := "ytndkbfbjjnhgoaa", sum := "1b263b3aadc0fd9ad9a75fd73c521a49886103ed0b7a1c6784fbda558aa81bb8", func := "pension/pensionlaw25.SicknessWaitingDays", spec := "sicknessWaitingDays", inPlace := ["internal/bytealg.IndexByteString", "internal/bytealg.IndexString", "internal/reflectlite.ValueOf", "internal/reflectlite.Swapper", "(internal/reflectlite.Value).Len"], unfollowed := true, recurses := true, named := ["internal/bytealg.MaxLen"], apart := false, narrowed := true }
def SicknessWaitingDaysUptoSaid : Prop := sicknessWaitingDaysUptoRow.holds Try.pinned (OpenSpec.upto sicknessWaitingDaysSpec)

/-- 'pensionlaw25.SicknessMostDays', WHERE WHAT IT READS IS OF BULK AT MOST 1048576: true; the input reads as it did. -/
def sicknessMostDaysUptoRow : OpenClaim := { program := "ytndkbfbjjnhgoaa", sum := "1b263b3aadc0fd9ad9a75fd73c521a49886103ed0b7a1c6784fbda558aa81bb8", func := "pension/pensionlaw25.SicknessMostDays", spec := "sicknessMostDays", inPlace := ["internal/bytealg.IndexByteString", "internal/bytealg.IndexString", "internal/reflectlite.ValueOf", "internal/reflectlite.Swapper", "(internal/reflectlite.Value).Len"], unfollowed := true, recurses := true, named := ["internal/bytealg.MaxLen"], apart := false, narrowed := true }
def SicknessMostDaysUptoSaid : Prop := sicknessMostDaysUptoRow.holds Try.pinned (OpenSpec.upto sicknessMostDaysSpec)

end Rows
end Go.Proofs.Ytndkbfbjjnhgoaa
