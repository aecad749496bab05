/-
  NARROWER THAN 'FOR EVERY INPUT', by the rows' own cells (each row's printed sentence says how): FamilyOrderAgrees: laid · FamilyRejects: laid · FamilyRejectsOneRight: laid · FamilyOrderIsAPriority: laid · FamilyPaymentsAgree: laid · FamilyPaysTheGreatest: laid · FamilyPrimaryPaysInFull: laid · FamilyPaymentsIgnoreOrder: laid.
  DERIVED. THE GIVEN ROWS OF THIS SEAT. 8 by the template 'for every input the law returns true; each argument reads behind the call as it read before'; 0 by the template 'total and deterministic' (their statements: YtcgfjcpggbcloaaDoorTotals.lean).
  GIVEN WITH THE SEED: the statements are not yours to turn. If you find one false, say at which input.
  Laid BY PROGRAM, IN A SANDBOX (cutbox-rows.mjs): the forced cells as the released guide's own fill.sh prints them over the translation c6b1bd571f9be225… (all of the seat's roots in one cut). By AI agents, Wed Nov 11 2026. No macro, syntax, notation, axiom, sorry.
-/
import Derived.Test.YtcgfjcpggbcloaaDoorChecked
import GoSem.Claim
import GoSem.ClaimJoined
import GoSem.ClaimMapViews
import Derived.JoinedTies
import Derived.KernelRfl
namespace Go.Proofs.YtcgfjcpggbcloaaDoor
/- THE CELL 'sum', in the pinned program and in every row, IS THE sha256 OF THE DUMP (.gsa) THAT YtcgfjcpggbcloaaDoorProg.lean LOADS. Nothing in Lean hashes anything: it is a label: what it is worth is what the hold of that sum in a sandbox is worth. -/
noncomputable def Tryd.pinned : Pinned := { name := "ytcgfjcpggbcloaadoor", sum := "c6b1bd571f9be2252a68a291bd201538f7d3e1b3c8118538480ee7d9c7c96c24", checked := Tryd.checked }
namespace Rows
def none {H : Type} : Left H := { results := [], args := [] }

/- WHAT THE LISTED PACKAGE-LEVEL VARIABLES READ AS WHEN THE CALL BEGINS. Each datum BY PROGRAM (the guide's laid-datum.mjs) off the statement by which the dump's own 'gosem.cut.vars' lays the variable. In a bare row this is a premise. The card (YtcgfjcpggbcloaaDoorCards.lean) ties it to the program's text. -/
def laid_pension_family_down {H : Type} : DataW H := .agg [.lit (.int .i64 1), .lit (.int .i64 1)]

/-- 'pensionlaw24.FamilyOrderAgrees': WHATEVER THE INPUT: true; the input reads as it did. -/
def familyOrderAgreesSpec : ChangeSpec := { name := "familyOrderAgrees", fn := fun _ => fun
  | [d1, d2, d3, d4] => { results := [.lit (.bool true)], args := [d1, d2, d3, d4] }
  | _ => none }
def familyOrderAgreesRow : OpenClaim := { program := "ytcgfjcpggbcloaadoor", sum := "c6b1bd571f9be2252a68a291bd201538f7d3e1b3c8118538480ee7d9c7c96c24", func := "pension/pensionlaw24.FamilyOrderAgrees", spec := "familyOrderAgrees", unfollowed := true, recurses := true, named := ["pension/family.down", "math/bits.divideError", "math/bits.overflowError"], apart := false, laid := [("pension/family.down", laid_pension_family_down)] }
def FamilyOrderAgreesSaid : Prop := familyOrderAgreesRow.holds Tryd.pinned (OpenSpec.ofChange familyOrderAgreesSpec)

/-- ITS FALSE NEIGHBOUR: 'it returns false'. Refute it at one input. -/
def familyOrderAgreesWrong : ChangeSpec := { name := "familyOrderAgrees", fn := fun _ => fun
  | [d1, d2, d3, d4] => { results := [.lit (.bool false)], args := [d1, d2, d3, d4] }
  | _ => none }
def FamilyOrderAgreesWrongFalsely : Prop := familyOrderAgreesRow.holds Tryd.pinned (OpenSpec.ofChange familyOrderAgreesWrong)

/-- 'pensionlaw24.FamilyRejects': WHATEVER THE INPUT: true; the input reads as it did. -/
def familyRejectsSpec : ChangeSpec := { name := "familyRejects", fn := fun _ => fun
  | [d1, d2, d3, d4] => { results := [.lit (.bool true)], args := [d1, d2, d3, d4] }
  | _ => none }
def familyRejectsRow : OpenClaim := { program := "ytcgfjcpggbcloaadoor", sum := "c6b1bd571f9be2252a68a291bd201538f7d3e1b3c8118538480ee7d9c7c96c24", func := "pension/pensionlaw24.FamilyRejects", spec := "familyRejects", unfollowed := true, recurses := true, named := ["pension/family.down", "math/bits.divideError", "math/bits.overflowError"], apart := false, laid := [("pension/family.down", laid_pension_family_down)] }
def FamilyRejectsSaid : Prop := familyRejectsRow.holds Tryd.pinned (OpenSpec.ofChange familyRejectsSpec)

/-- ITS FALSE NEIGHBOUR: 'it returns false'. Refute it at one input. -/
def familyRejectsWrong : ChangeSpec := { name := "familyRejects", fn := fun _ => fun
  | [d1, d2, d3, d4] => { results := [.lit (.bool false)], args := [d1, d2, d3, d4] }
  | _ => none }
def FamilyRejectsWrongFalsely : Prop := familyRejectsRow.holds Tryd.pinned (OpenSpec.ofChange familyRejectsWrong)

/-- 'pensionlaw24.FamilyRejectsOneRight': WHATEVER THE INPUT: true; the input reads as it did. -/
def familyRejectsOneRightSpec : ChangeSpec := { name := "familyRejectsOneRight", fn := fun _ => fun
  | [d1, d2, d3, d4] => { results := [.lit (.bool true)], args := [d1, d2, d3, d4] }
  | _ => none }
def familyRejectsOneRightRow : OpenClaim := { program := "ytcgfjcpggbcloaadoor", sum := "c6b1bd571f9be2252a68a291bd201538f7d3e1b3c8118538480ee7d9c7c96c24", func := "pension/pensionlaw24.FamilyRejectsOneRight", spec := "familyRejectsOneRight", unfollowed := true, recurses := true, named := ["pension/family.down", "math/bits.divideError", "math/bits.overflowError"], apart := false, laid := [("pension/family.down", laid_pension_family_down)] }
def FamilyRejectsOneRightSaid : Prop := familyRejectsOneRightRow.holds Tryd.pinned (OpenSpec.ofChange familyRejectsOneRightSpec)

/-- ITS FALSE NEIGHBOUR: 'it returns false'. Refute it at one input. -/
def familyRejectsOneRightWrong : ChangeSpec := { name := "familyRejectsOneRight", fn := fun _ => fun
  | [d1, d2, d3, d4] => { results := [.lit (.bool false)], args := [d1, d2, d3, d4] }
  | _ => none }
def FamilyRejectsOneRightWrongFalsely : Prop := familyRejectsOneRightRow.holds Tryd.pinned (OpenSpec.ofChange familyRejectsOneRightWrong)

/-- 'pensionlaw24.FamilyOrderIsAPriority': WHATEVER THE INPUT: true; the input reads as it did. -/
def familyOrderIsAPrioritySpec : ChangeSpec := { name := "familyOrderIsAPriority", fn := fun _ => fun
  | [d1, d2, d3, d4] => { results := [.lit (.bool true)], args := [d1, d2, d3, d4] }
  | _ => none }
def familyOrderIsAPriorityRow : OpenClaim := { program := "ytcgfjcpggbcloaadoor", sum := "c6b1bd571f9be2252a68a291bd201538f7d3e1b3c8118538480ee7d9c7c96c24", func := "pension/pensionlaw24.FamilyOrderIsAPriority", spec := "familyOrderIsAPriority", unfollowed := true, recurses := true, named := ["pension/family.down", "math/bits.divideError", "math/bits.overflowError"], apart := false, laid := [("pension/family.down", laid_pension_family_down)] }
def FamilyOrderIsAPrioritySaid : Prop := familyOrderIsAPriorityRow.holds Tryd.pinned (OpenSpec.ofChange familyOrderIsAPrioritySpec)

/-- ITS FALSE NEIGHBOUR: 'it returns false'. Refute it at one input. -/
def familyOrderIsAPriorityWrong : ChangeSpec := { name := "familyOrderIsAPriority", fn := fun _ => fun
  | [d1, d2, d3, d4] => { results := [.lit (.bool false)], args := [d1, d2, d3, d4] }
  | _ => none }
def FamilyOrderIsAPriorityWrongFalsely : Prop := familyOrderIsAPriorityRow.holds Tryd.pinned (OpenSpec.ofChange familyOrderIsAPriorityWrong)

/-- 'pensionlaw24.FamilyPaymentsAgree': WHATEVER THE INPUT: true; the input reads as it did. -/
def familyPaymentsAgreeSpec : ChangeSpec := { name := "familyPaymentsAgree", fn := fun _ => fun
  | [d1, d2, d3, d4] => { results := [.lit (.bool true)], args := [d1, d2, d3, d4] }
  | _ => none }
def familyPaymentsAgreeRow : OpenClaim := { program := "ytcgfjcpggbcloaadoor", sum := "c6b1bd571f9be2252a68a291bd201538f7d3e1b3c8118538480ee7d9c7c96c24", func := "pension/pensionlaw24.FamilyPaymentsAgree", spec := "familyPaymentsAgree", unfollowed := true, recurses := true, named := ["pension/family.down", "math/bits.divideError", "math/bits.overflowError"], apart := false, laid := [("pension/family.down", laid_pension_family_down)] }
def FamilyPaymentsAgreeSaid : Prop := familyPaymentsAgreeRow.holds Tryd.pinned (OpenSpec.ofChange familyPaymentsAgreeSpec)

/-- ITS FALSE NEIGHBOUR: 'it returns false'. Refute it at one input. -/
def familyPaymentsAgreeWrong : ChangeSpec := { name := "familyPaymentsAgree", fn := fun _ => fun
  | [d1, d2, d3, d4] => { results := [.lit (.bool false)], args := [d1, d2, d3, d4] }
  | _ => none }
def FamilyPaymentsAgreeWrongFalsely : Prop := familyPaymentsAgreeRow.holds Tryd.pinned (OpenSpec.ofChange familyPaymentsAgreeWrong)

/-- 'pensionlaw24.FamilyPaysTheGreatest': WHATEVER THE INPUT: true; the input reads as it did. -/
def familyPaysTheGreatestSpec : ChangeSpec := { name := "familyPaysTheGreatest", fn := fun _ => fun
  | [d1, d2, d3] => { results := [.lit (.bool true)], args := [d1, d2, d3] }
  | _ => none }
def familyPaysTheGreatestRow : OpenClaim := { program := "ytcgfjcpggbcloaadoor", sum := "c6b1bd571f9be2252a68a291bd201538f7d3e1b3c8118538480ee7d9c7c96c24", func := "pension/pensionlaw24.FamilyPaysTheGreatest", spec := "familyPaysTheGreatest", unfollowed := true, recurses := true, named := ["pension/family.down", "math/bits.divideError", "math/bits.overflowError"], apart := false, laid := [("pension/family.down", laid_pension_family_down)] }
def FamilyPaysTheGreatestSaid : Prop := familyPaysTheGreatestRow.holds Tryd.pinned (OpenSpec.ofChange familyPaysTheGreatestSpec)

/-- ITS FALSE NEIGHBOUR: 'it returns false'. Refute it at one input. -/
def familyPaysTheGreatestWrong : ChangeSpec := { name := "familyPaysTheGreatest", fn := fun _ => fun
  | [d1, d2, d3] => { results := [.lit (.bool false)], args := [d1, d2, d3] }
  | _ => none }
def FamilyPaysTheGreatestWrongFalsely : Prop := familyPaysTheGreatestRow.holds Tryd.pinned (OpenSpec.ofChange familyPaysTheGreatestWrong)

/-- 'pensionlaw24.FamilyPrimaryPaysInFull': WHATEVER THE INPUT: true; the input reads as it did. -/
def familyPrimaryPaysInFullSpec : ChangeSpec := { name := "familyPrimaryPaysInFull", fn := fun _ => fun
  | [d1, d2, d3, d4] => { results := [.lit (.bool true)], args := [d1, d2, d3, d4] }
  | _ => none }
def familyPrimaryPaysInFullRow : OpenClaim := { program := "ytcgfjcpggbcloaadoor", sum := "c6b1bd571f9be2252a68a291bd201538f7d3e1b3c8118538480ee7d9c7c96c24", func := "pension/pensionlaw24.FamilyPrimaryPaysInFull", spec := "familyPrimaryPaysInFull", unfollowed := true, recurses := true, named := ["pension/family.down", "math/bits.divideError", "math/bits.overflowError"], apart := false, laid := [("pension/family.down", laid_pension_family_down)] }
def FamilyPrimaryPaysInFullSaid : Prop := familyPrimaryPaysInFullRow.holds Tryd.pinned (OpenSpec.ofChange familyPrimaryPaysInFullSpec)

/-- ITS FALSE NEIGHBOUR: 'it returns false'. Refute it at one input. -/
def familyPrimaryPaysInFullWrong : ChangeSpec := { name := "familyPrimaryPaysInFull", fn := fun _ => fun
  | [d1, d2, d3, d4] => { results := [.lit (.bool false)], args := [d1, d2, d3, d4] }
  | _ => none }
def FamilyPrimaryPaysInFullWrongFalsely : Prop := familyPrimaryPaysInFullRow.holds Tryd.pinned (OpenSpec.ofChange familyPrimaryPaysInFullWrong)

/-- 'pensionlaw24.FamilyPaymentsIgnoreOrder': WHATEVER THE INPUT: true; the input reads as it did. -/
def familyPaymentsIgnoreOrderSpec : ChangeSpec := { name := "familyPaymentsIgnoreOrder", fn := fun _ => fun
  | [d1, d2, d3, d4, d5] => { results := [.lit (.bool true)], args := [d1, d2, d3, d4, d5] }
  | _ => none }
def familyPaymentsIgnoreOrderRow : OpenClaim := { program := "ytcgfjcpggbcloaadoor", sum := "c6b1bd571f9be2252a68a291bd201538f7d3e1b3c8118538480ee7d9c7c96c24", func := "pension/pensionlaw24.FamilyPaymentsIgnoreOrder", spec := "familyPaymentsIgnoreOrder", unfollowed := true, recurses := true, named := ["pension/family.down", "math/bits.divideError", "math/bits.overflowError"], apart := false, laid := [("pension/family.down", laid_pension_family_down)] }
def FamilyPaymentsIgnoreOrderSaid : Prop := familyPaymentsIgnoreOrderRow.holds Tryd.pinned (OpenSpec.ofChange familyPaymentsIgnoreOrderSpec)

/-- ITS FALSE NEIGHBOUR: 'it returns false'. Refute it at one input. -/
def familyPaymentsIgnoreOrderWrong : ChangeSpec := { name := "familyPaymentsIgnoreOrder", fn := fun _ => fun
  | [d1, d2, d3, d4, d5] => { results := [.lit (.bool false)], args := [d1, d2, d3, d4, d5] }
  | _ => none }
def FamilyPaymentsIgnoreOrderWrongFalsely : Prop := familyPaymentsIgnoreOrderRow.holds Tryd.pinned (OpenSpec.ofChange familyPaymentsIgnoreOrderWrong)

/- THE SECOND FORM. 'bulk': how many values and letters a reading holds, each counted each time it is reached (what is shared counts as often as it is met; a slice's spare places count too). A statement '..UptoSaid' is the law's where the arguments, and the package variables that the reading takes, are together of bulk at most 1048576: NARROWER than '..Said'. Prove '..Said' where nothing that the law and all that it calls make is longer than what came in: it says more and counts as full. Else prove '..UptoSaid'. A law counts once. -/
mutual
def uptoBulk {H : Type} : DataW H → Nat
  | .lit (.string bytes) => bytes.length + 1
  | .lit _ => 1
  | .nil => 1
  | .ptr d => uptoBulk d + 1
  | .slice elems spare => uptoBulkAll elems + uptoBulkAll spare + 1
  | .agg parts => uptoBulkAll parts + 1
  | .iface _ d => uptoBulk d + 1
  | .map entries => uptoBulkEntries entries + 1
  | .held _ => 1
def uptoBulkAll {H : Type} : List (DataW H) → Nat
  | [] => 0
  | d :: r => uptoBulk d + uptoBulkAll r
def uptoBulkEntries {H : Type} : List (Lit × DataW H) → Nat
  | [] => 0
  | x :: r => uptoBulkEntry x + uptoBulkEntries r
def uptoBulkEntry {H : Type} : Lit × DataW H → Nat
  | (.string bytes, d) => bytes.length + uptoBulk d + 1
  | (_, d) => uptoBulk d + 1
 end
def uptoSmall : (H : Type) → List (DataW H) → Bool := fun _ ds => decide (uptoBulkAll ds ≤ 1048576)
def OpenSpec.upto (s : _root_.Go.ChangeSpec) : _root_.Go.OpenSpec := { _root_.Go.OpenSpec.ofChange s with cond := some uptoSmall }

/-- 'pensionlaw24.FamilyOrderAgrees', WHERE WHAT IT READS IS OF BULK AT MOST 1048576: true; the input reads as it did. -/
def familyOrderAgreesUptoRow : OpenClaim := { program := "ytcgfjcpggbcloaadoor", sum := "c6b1bd571f9be2252a68a291bd201538f7d3e1b3c8118538480ee7d9c7c96c24", func := "pension/pensionlaw24.FamilyOrderAgrees", spec := "familyOrderAgrees", unfollowed := true, recurses := true, named := ["pension/family.down", "math/bits.divideError", "math/bits.overflowError"], apart := false, laid := [("pension/family.down", laid_pension_family_down)], narrowed := true }
def FamilyOrderAgreesUptoSaid : Prop := familyOrderAgreesUptoRow.holds Tryd.pinned (OpenSpec.upto familyOrderAgreesSpec)

/-- 'pensionlaw24.FamilyRejects', WHERE WHAT IT READS IS OF BULK AT MOST 1048576: true; the input reads as it did. -/
def familyRejectsUptoRow : OpenClaim := { program := "ytcgfjcpggbcloaadoor", sum := "c6b1bd571f9be2252a68a291bd201538f7d3e1b3c8118538480ee7d9c7c96c24", func := "pension/pensionlaw24.FamilyRejects", spec := "familyRejects", unfollowed := true, recurses := true, named := ["pension/family.down", "math/bits.divideError", "math/bits.overflowError"], apart := false, laid := [("pension/family.down", laid_pension_family_down)], narrowed := true }
def FamilyRejectsUptoSaid : Prop := familyRejectsUptoRow.holds Tryd.pinned (OpenSpec.upto familyRejectsSpec)

/-- 'pensionlaw24.FamilyRejectsOneRight', WHERE WHAT IT READS IS OF BULK AT MOST 1048576: true; the input reads as it did. -/
def familyRejectsOneRightUptoRow : OpenClaim := { program := "ytcgfjcpggbcloaadoor", sum := "c6b1bd571f9be2252a68a291bd201538f7d3e1b3c8118538480ee7d9c7c96c24", func := "pension/pensionlaw24.FamilyRejectsOneRight", spec := "familyRejectsOneRight", unfollowed := true, recurses := true, named := ["pension/family.down", "math/bits.divideError", "math/bits.overflowError"], apart := false, laid := [("pension/family.down", laid_pension_family_down)], narrowed := true }
def FamilyRejectsOneRightUptoSaid : Prop := familyRejectsOneRightUptoRow.holds Tryd.pinned (OpenSpec.upto familyRejectsOneRightSpec)

/-- 'pensionlaw24.FamilyOrderIsAPriority', WHERE WHAT IT READS IS OF BULK AT MOST 1048576: true; the input reads as it did. -/
def familyOrderIsAPriorityUptoRow : OpenClaim := { program := "ytcgfjcpggbcloaadoor", sum := "c6b1bd571f9be2252a68a291bd201538f7d3e1b3c8118538480ee7d9c7c96c24", func := "pension/pensionlaw24.FamilyOrderIsAPriority", spec := "familyOrderIsAPriority", unfollowed := true, recurses := true, named := ["pension/family.down", "math/bits.divideError", "math/bits.overflowError"], apart := false, laid := [("pension/family.down", laid_pension_family_down)], narrowed := true }
def FamilyOrderIsAPriorityUptoSaid : Prop := familyOrderIsAPriorityUptoRow.holds Tryd.pinned (OpenSpec.upto familyOrderIsAPrioritySpec)

/-- 'pensionlaw24.FamilyPaymentsAgree', WHERE WHAT IT READS IS OF BULK AT MOST 1048576: true; the input reads as it did. -/
def familyPaymentsAgreeUptoRow : OpenClaim := { program := "ytcgfjcpggbcloaadoor", sum := "c6b1bd571f9be2252a68a291bd201538f7d3e1b3c8118538480ee7d9c7c96c24", func := "pension/pensionlaw24.FamilyPaymentsAgree", spec := "familyPaymentsAgree", unfollowed := true, recurses := true, named := ["pension/family.down", "math/bits.divideError", "math/bits.overflowError"], apart := false, laid := [("pension/family.down", laid_pension_family_down)], narrowed := true }
def FamilyPaymentsAgreeUptoSaid : Prop := familyPaymentsAgreeUptoRow.holds Tryd.pinned (OpenSpec.upto familyPaymentsAgreeSpec)

/-- 'pensionlaw24.FamilyPaysTheGreatest', WHERE WHAT IT READS IS OF BULK AT MOST 1048576: true; the input reads as it did. -/
def familyPaysTheGreatestUptoRow : OpenClaim := { program := "ytcgfjcpggbcloaadoor", sum := "c6b1bd571f9be2252a68a291bd201538f7d3e1b3c8118538480ee7d9c7c96c24", func := "pension/pensionlaw24.FamilyPaysTheGreatest", spec := "familyPaysTheGreatest", unfollowed := true, recurses := true, named := ["pension/family.down", "math/bits.divideError", "math/bits.overflowError"], apart := false, laid := [("pension/family.down", laid_pension_family_down)], narrowed := true }
def FamilyPaysTheGreatestUptoSaid : Prop := familyPaysTheGreatestUptoRow.holds Tryd.pinned (OpenSpec.upto familyPaysTheGreatestSpec)

/-- 'pensionlaw24.FamilyPrimaryPaysInFull', WHERE WHAT IT READS IS OF BULK AT MOST 1048576: true; the input reads as it did. -/
def familyPrimaryPaysInFullUptoRow : OpenClaim := { program := "ytcgfjcpggbcloaadoor", sum := "c6b1bd571f9be2252a68a291bd201538f7d3e1b3c8118538480ee7d9c7c96c24", func := "pension/pensionlaw24.FamilyPrimaryPaysInFull", spec := "familyPrimaryPaysInFull", unfollowed := true, recurses := true, named := ["pension/family.down", "math/bits.divideError", "math/bits.overflowError"], apart := false, laid := [("pension/family.down", laid_pension_family_down)], narrowed := true }
def FamilyPrimaryPaysInFullUptoSaid : Prop := familyPrimaryPaysInFullUptoRow.holds Tryd.pinned (OpenSpec.upto familyPrimaryPaysInFullSpec)

/-- 'pensionlaw24.FamilyPaymentsIgnoreOrder', WHERE WHAT IT READS IS OF BULK AT MOST 1048576: true; the input reads as it did. -/
def familyPaymentsIgnoreOrderUptoRow : OpenClaim := { program := "ytcgfjcpggbcloaadoor", sum := "c6b1bd571f9be2252a68a291bd201538f7d3e1b3c8118538480ee7d9c7c96c24", func := "pension/pensionlaw24.FamilyPaymentsIgnoreOrder", spec := "familyPaymentsIgnoreOrder", unfollowed := true, recurses := true, named := ["pension/family.down", "math/bits.divideError", "math/bits.overflowError"], apart := false, laid := [("pension/family.down", laid_pension_family_down)], narrowed := true }
def FamilyPaymentsIgnoreOrderUptoSaid : Prop := familyPaymentsIgnoreOrderUptoRow.holds Tryd.pinned (OpenSpec.upto familyPaymentsIgnoreOrderSpec)

end Rows
end Go.Proofs.YtcgfjcpggbcloaaDoor
