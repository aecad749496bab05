/- Texts of the proof, joined. -/
import Derived.Test.YtpiclagiijpbkaaGreatDoorP14
set_option linter.unusedVariables false
set_option linter.unusedSimpArgs false
set_option maxRecDepth 100000
namespace Go.Proofs.YtpiclagiijpbkaaGreatDoor.awardGrants
open Go
theorem d7c {P:Program}(h:P.funcs.toList.all (fun fn=> !fn.goes)=true)(f:FuncId):P.goes f=false:=by
 have h1: ∀fn∈P.funcs,fn.goes=false:=fun fn hf=>by
  have:=qX.1 h fn (Array.mem_toList_iff.2 hf)
  simpa using this
 have h2:P.funcs.any Func.goes=false:=by
  rw [Array.any_eq_false]
  intro i hi
  rw [h1 _ (Array.getElem_mem hi)]
  decide
 unfold Program.goes
 rw [h2,Bool.and_false,Bool.or_false,List.any_eq_false]
 intro g _
 cases hg:P.funcs[g]? with
 | none=>simp
 | some fn=>simp [h1 fn (Array.mem_of_getElem? hg)]
theorem g32 {P:Program}(h:P.funcs.toList.all (fun fn=> !fn.goes)=true)(c:OpenClaim):false=c.goesBy P:=by
 have h1:P.goesFrom c.func=false:=by
  unfold Program.goesFrom
  cases P.funcNamed c.func with
  | none=>rfl
  | some f=>exact d7c h f
 have h2:P.inits.toList.any P.goes=false:=by
  rw [List.any_eq_false]
  intro f _
  rw [d7c h f];decide
 unfold OpenClaim.goesBy Program.goesAt
 rw [h1,h2]
 cases c.start<;>rfl
theorem goF:Tryz.pinned.checked.prog.funcs.toList.all (fun fn=> !fn.goes)=true:=by kernel_rfl
theorem cw:Rows.awardGrantsRow.wfByText (OpenSpec.ofChange Rows.awardGrantsSpec)=true:=by kernel_rfl
theorem card:Rows.AwardGrantsCardSaid:=
 Claim7.holds_tied_plain_at .later [] _ _ _ _ said (fun _ h=>by cases h) cw (fun _ h=>by cases h) awardGrants_row_tie rfl ⟨rfl,rfl⟩ (by kernel_rfl) rfl plain (g32 goF _)
end Go.Proofs.YtpiclagiijpbkaaGreatDoor.awardGrants
