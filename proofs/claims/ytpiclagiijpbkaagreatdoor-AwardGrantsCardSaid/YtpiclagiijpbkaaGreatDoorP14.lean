/- Texts of the proof, joined. -/
import Derived.Test.YtpiclagiijpbkaaGreatDoorP13
import Derived.Test.YtpiclagiijpbkaaGreatDoorTie
import Derived.Test.YtpiclagiijpbkaaGreatDoorCards
import Derived.Test.YtpiclagiijpbkaaGreatDoorRows
set_option linter.defProp false
set_option linter.unusedVariables false
set_option linter.unusedSimpArgs false
set_option maxRecDepth 100000
namespace Go.Proofs.YtpiclagiijpbkaaGreatDoor.awardGrants
open Go Go.ChangeShapes Go.WideShapes Go.ChangeAt Go.RowKit Go.PL Go.SX
def m0p:Tryz.prog.underlying 22=some (.slice 3):=by kernel_rfl
def u_3:Tryz.prog.underlying 3=some (.int .i64):=by kernel_rfl
def m0a:RdT Tryz.prog VV 3 .z9:=RdT.one (U:=VV) (c:= .z9) uok (RdA.int (u_3)) fun a ⟨z,h⟩=>⟨(z:Int),by subst h;rfl⟩
def u_24:Tryz.prog.underlying 24=some (.struct (Tryz.prog.fieldsOf 24)):=by kernel_rfl
def m0x:RdQ Tryz.prog VV 24 .yf (fun (x:pensionmade_View)=>x.Days.length <= 9223372036854775807 /\ x.Years.length <= 9223372036854775807):=RdQ.str (U:=VV) (c:= .yf) uok (u_24) (by kernel_rfl) (by kernel_rfl) (ts:=[3,3,3,3,3,22,22]) (by kernel_rfl) (Ss:=[isI .i64,isI .i64,isI .i64,isI .i64,isI .i64,isL (U:=VV) .z9,isL (U:=VV) .z9])
 ⟨RdA.int (u_3),RdA.int (u_3),RdA.int (u_3),RdA.int (u_3),RdA.int (u_3),RdA.slice (m0a) (by kernel_rfl) (by decide) (m0p),RdA.slice (m0a) (by kernel_rfl) (by decide) (m0p),trivial⟩ (fun zs h0=>by
  obtain ⟨a0,r0,rfl,⟨z0,rfl⟩,h1⟩:=a7b h0
  obtain ⟨a1,r1,rfl,⟨z1,rfl⟩,h2⟩:=a7b h1
  obtain ⟨a2,r2,rfl,⟨z2,rfl⟩,h3⟩:=a7b h2
  obtain ⟨a3,r3,rfl,⟨z3,rfl⟩,h4⟩:=a7b h3
  obtain ⟨a4,r4,rfl,⟨z4,rfl⟩,h5⟩:=a7b h4
  obtain ⟨a5,r5,rfl,⟨z5,k5,rfl⟩,h6⟩:=a7b h5
  obtain ⟨a6,r6,rfl,⟨z6,k6,rfl⟩,h7⟩:=a7b h6
  obtain rfl:=f6f h7
  exact ⟨(⟨z0,z1,z2,z3,z4,z5,z6⟩:pensionmade_View),⟨k5,k6⟩,rfl⟩)
def u_4:Tryz.prog.underlying 4=some (.bool):=by kernel_rfl
def g6h:(Rows.awardGrantsRow.laid.filter fun x=>x.1== "internal/strconv.uint64pow10")=[("internal/strconv.uint64pow10",(Lib.tabData .u64 Lib.pow10Tab:DataW Unit))]:=by kernel_rfl
def h1b {W:World}(h:laidMet Tryz.prog Rows.awardGrantsRow.laid W):VV.tab W /\ ∀b,VV.tb b -> b<W.heap.size:=by
 have h2:Lib.TabIs Tryz.prog W "internal/strconv.uint64pow10" .u64 Lib.pow10Tab:=Lib.tabIs_of_head (g:=3) (t:=502) (e:=100) (n:=20) (by kernel_rfl) (by kernel_rfl) (by kernel_rfl) (by kernel_rfl) (by kernel_rfl) (by kernel_rfl) (rest:=[]) (g6h▸laidMet.filter (fun x=>x.1== "internal/strconv.uint64pow10") h)
 exact ⟨h2,fun b hb=>(show b=3 from hb)▸g7m (by kernel_rfl) h2⟩
def litC:DataW Unit -> Array Value
 | .agg l=>(l.filterMap fun d=>match d with | .lit (.int k n)=>some (.int k n) | _=>none).toArray
 | _=> #[]
def h37 (d:DataW Unit):Obj -> Obj
 | .cells _ t fr=> .cells (litC d) t fr
 | o=>o
noncomputable def layW (os:Os):World:={World.holding Tryz.prog os ⟨#[],#[],[]⟩ with heap:=((((World.holding Tryz.prog os ⟨#[],#[],[]⟩).heap.modify 4 (h37 Rows.laid_math_bits_deBruijn32tab)).modify 5 (h37 Rows.laid_math_bits_deBruijn64tab)).modify 3 (h37 Rows.laid_internal_strconv_uint64pow10))}
def own:ownKnob Tryz.prog.godebug=none:=by kernel_rfl
def g5x:laidOutB Tryz.prog=true:=by kernel_rfl
def f4r (H:Type)(enc:TypeId×Value -> H)(W:World)(base:Nat)(args:Array Value)(ds gs:List (DataW H))(before:List MemPlace)
  (hval: ∀(j:Nat) t v,Tryz.f3.params[j]? =some t -> args[j]? =some v -> Value.okWide Tryz.prog W .any base t v)
  (ht:VV.tab W /\ ∀b,VV.tb b -> b<W.heap.size) (hW:DataW.Whole enc Tryz.prog Tryz.f3.params.toList Rows.awardGrantsSpec.vars false W args.toList ds gs before):
  Calls Tryz.prog 3 args W fun e W'=> ∃v,e= .returned v /\ Rows.awardGrantsSpec.post enc Tryz.prog Tryz.f3 false true false false W args v W':=
 f6a uok ok_3 (b:=true) (fun xs hq=>h9k xs.1 xs.2.1 xs.2.2.1 xs.2.2.2.1 xs.2.2.2.2.1 xs.2.2.2.2.2.1 hq.1 hq.2.2.2.2.2.1) (fun X vs h=>match vs,h with | [u],⟨h1,_⟩=>by rw [show u=_ from h1]) (fn:=Tryz.f3)
  (show e12 Tryz.prog VV Tryz.f3.params.toList g6y.ps _ from (show Tryz.f3.params.toList=[22,3,3,3,3,24] from by kernel_rfl)▸e12.cons (RdP.slice (m0p) (m0a) (by kernel_rfl) (by decide)) (e12.cons (RdP.int (U:=VV) (c:= .z9) (u_3) fun z=>⟨(z:Int),rfl⟩) (e12.cons (RdP.int (U:=VV) (c:= .z9) (u_3) fun z=>⟨(z:Int),rfl⟩) (e12.cons (RdP.int (U:=VV) (c:= .z9) (u_3) fun z=>⟨(z:Int),rfl⟩) (e12.cons (RdP.int (U:=VV) (c:= .z9) (u_3) fun z=>⟨(z:Int),rfl⟩) (e12.cons (RdP.struct (U:=VV) (u_24) rfl (m0x)) (e12.nil))))))) (by kernel_rfl) g5x
  (by rw [show Tryz.f3.params.toList=[22,3,3,3,3,24] from by kernel_rfl];intro t ht;simp only [qO,List.mem_nil_iff,or_false] at ht;rcases ht with rfl | rfl | rfl | rfl | rfl | rfl<;>exact ⟨by kernel_rfl,of_decide_eq_true (by kernel_rfl)⟩)
  (tb:=4) (by kernel_rfl) u_4 rfl (fun ds hd=>match ds,hd with | [d0,d1,d2,d3,d4,d5],_=>⟨rfl,rfl,rfl⟩) enc W base args ds gs before ht hval hW
def f5r (os:Os):laidMet Tryz.prog Rows.awardGrantsRow.laid ((layW os).forCall (fun _ _=>0) ⟨#[],#[.slice none 0 0,.int .i64 0,.int .i64 0,.int .i64 0,.int .i64 0,.agg #[.int .i64 0,.int .i64 0,.int .i64 0,.int .i64 0,.int .i64 0,.slice none 0 0,.slice none 0 0]],[]⟩).memory:=
 laidMet_of_run' 8 (by kernel_rfl) (by kernel_rfl)
def h26 (os:Os){H:Type}(enc:TypeId×Value -> H): ∃places,DataW.whole enc Tryz.prog ((layW os).forCall (fun _ _=>0) ⟨#[],#[.slice none 0 0,.int .i64 0,.int .i64 0,.int .i64 0,.int .i64 0,.agg #[.int .i64 0,.int .i64 0,.int .i64 0,.int .i64 0,.int .i64 0,.slice none 0 0,.slice none 0 0]],[]⟩).memory Tryz.f3.params.toList Rows.awardGrantsSpec.vars false #[Value.slice none 0 0,.int .i64 0,.int .i64 0,.int .i64 0,.int .i64 0,.agg #[.int .i64 0,.int .i64 0,.int .i64 0,.int .i64 0,.int .i64 0,.slice none 0 0,.slice none 0 0]].toList 8=some ([.nil,.lit (.int .i64 0),.lit (.int .i64 0),.lit (.int .i64 0),.lit (.int .i64 0),.agg [.lit (.int .i64 0),.lit (.int .i64 0),.lit (.int .i64 0),.lit (.int .i64 0),.lit (.int .i64 0),.nil,.nil]],[],places):=
 ⟨[],by kernel_rfl⟩
def g8d (os:Os)(started:os.Started)(H:Type)(enc:TypeId×Value -> H)(F:Stop.Interp):
  ReturnsInHanded Rows.awardGrantsRow.assume Tryz.checked os 3 .any ((OpenSpec.ofChange Rows.awardGrantsSpec).preRow enc Tryz.prog Tryz.f3 Rows.awardGrantsRow.domain false Rows.awardGrantsRow.laid) (((OpenSpec.ofChange Rows.awardGrantsSpec).at F).post enc Tryz.prog Tryz.f3 false true false false):=by
 obtain ⟨places,hx⟩:=h26 os enc
 refine returnsInHanded_of_row (C:=Tryz.checked) (s:=OpenSpec.ofChange Rows.awardGrantsSpec) own started (by kernel_rfl) Tryz.func3
  (witness_row_at (enc:=enc) (C:=Tryz.checked) false (layW os) #[.slice none 0 0,.int .i64 0,.int .i64 0,.int .i64 0,.int .i64 0,.agg #[.int .i64 0,.int .i64 0,.int .i64 0,.int .i64 0,.int .i64 0,.slice none 0 0,.slice none 0 0]] rfl (by kernel_rfl) (by kernel_rfl) (by kernel_rfl)
   (OpenSpec.preRow_of_cond 8 hx (by kernel_rfl) (fun k hk=>by cases hk) (by kernel_rfl) (f5r os))) ?_
 intro W base args ds gs before hval hW _ _ _ hL _ _
 exact f4r H enc W base args ds gs before hval (h1b (show laidMet Tryz.prog Rows.awardGrantsRow.laid W from hL)) hW
def said:Rows.AwardGrantsSaid:=
 OpenClaim.holds_of_cond 3 Tryz.f3 rfl rfl rfl rfl rfl rfl rfl ⟨rfl,rfl,rfl,rfl,rfl⟩ rfl rfl rfl rfl rfl named Tryz.func3 g96 inst wrap
  (fun os started H enc _ F=>by rw [OpenClaim.pre_eq_preRow];exact g8d os started H enc F)
def plain (f:FuncId)(fn:Func)(hf:Tryz.pinned.checked.prog.funcNamed "pension/pensionlaw20.AwardGrants" =some f)(hfn:Tryz.pinned.checked.prog.funcs[f]? =some fn):
  false=Tryz.pinned.checked.prog.looks [] /\ ∀(j:Nat) t,fn.params[j]? =some t -> Tryz.pinned.checked.prog.wantsStandIn t=false:=by
 obtain rfl:f=3:=qH ((show Tryz.prog.funcNamed "pension/pensionlaw20.AwardGrants" =some 3 by kernel_rfl).symm.trans hf) |>.symm
 obtain rfl:fn=Tryz.f3:=(qH (Tryz.func3.symm.trans hfn)).symm
 refine ⟨by kernel_rfl,fun j t ht=> ?_⟩
 have hm:=Array.mem_of_getElem? ht
 rw [show Tryz.f3.params= #[22,3,3,3,3,24] from by kernel_rfl] at hm
 simp only [List.mem_toArray,qO,List.not_mem_nil,or_false] at hm
 rcases hm with rfl | rfl | rfl | rfl | rfl | rfl<;>first | exact (show Tryz.prog.wantsStandIn 3=false by kernel_rfl) | exact (show Tryz.prog.wantsStandIn 22=false by kernel_rfl) | exact (show Tryz.prog.wantsStandIn 24=false by kernel_rfl)
end Go.Proofs.YtpiclagiijpbkaaGreatDoor.awardGrants
