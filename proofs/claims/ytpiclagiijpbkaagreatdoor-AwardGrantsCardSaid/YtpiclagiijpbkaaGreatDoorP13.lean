/- Texts of the proof, joined. -/
import Derived.Test.YtpiclagiijpbkaaGreatDoorP12
import GoSem.ClaimFn
import Derived.KernelRfl
import Derived.Test.YtpiclagiijpbkaaGreatDoorProg
import Derived.Test.YtpiclagiijpbkaaGreatDoorRows
import Derived.JoinedCond
set_option linter.defProp false
set_option linter.unusedVariables false
set_option linter.unusedSimpArgs false
set_option maxRecDepth 100000
namespace Go.PL
open Go
def e5i (ld:Nat -> List Nat):Nat -> List Nat -> List Nat -> Nat -> List Nat
 | 0,_,seen,_=>seen.reverse
 | _+1,[],seen,_=>seen.reverse
 | n+1,f::todo,seen,m=>match Nat.testBit m f with
   | true=>e5i ld n todo seen m
   | false=>e5i ld n (ld f++todo) (f::seen) (m ||| 2^f)
def d4y {P:Program}{ld:Nat -> List Nat}(h: ∀f,(P.funcs[f]?).elim [] P.leadsTo=ld f): ∀(n:Nat)(todo seen:List Nat)(m:Nat),(∀f,seen.contains f=m.testBit f) -> P.closureVia n todo seen=e5i ld n todo seen m
 | 0,todo,seen,m,_=>by cases todo<;>rfl
 | n+1,[],seen,m,_=>rfl
 | n+1,f::todo,seen,m,hm=>by
   have hf:=hm f
   show (if seen.contains f then P.closureVia n todo seen else P.closureVia n ((P.funcs[f]?).elim [] P.leadsTo++todo) (f::seen))=match Nat.testBit m f with
    | true=>e5i ld n todo seen m
    | false=>e5i ld n (ld f++todo) (f::seen) (m ||| 2^f)
   rw [hf]
   cases hb:Nat.testBit m f with
   | true=>rw [if_pos rfl];exact d4y h n todo seen m hm
   | false=>
     rw [if_neg (by simp),h f]
     refine d4y h n _ _ _ fun g=> ?_
     rw [List.contains_cons,hm g,Nat.testBit_or,Nat.testBit_two_pow,Bool.or_comm]
     congr 1
     by_cases e:g=f
     ·subst e;simp
     ·have e2: ¬f=g:=fun h=>e h.symm
      simp [e,e2]
def d40 {α:Type}{P:Program}{q:Func -> α}{d:α}{t:Nat -> α}{N:Nat}(h:P.funcs.toList.map q=(List.range N).map t)(hd: ∀f,N <= f -> t f=d)(f:Nat):(P.funcs[f]?).elim d q=t f:=by
 have e:(P.funcs.toList.map q)[f]? =((List.range N).map t)[f]? :=by rw [h]
 rw [List.getElem?_map,List.getElem?_map,Array.getElem?_toList] at e
 by_cases hf:f<N
 ·rw [List.getElem?_range hf] at e
  cases hp:P.funcs[f]? with
  | none=>rw [hp] at e;cases e
  | some fn=>rw [hp] at e;exact qH e
 ·rw [List.getElem?_eq_none (by simp;omega)] at e
  cases hp:P.funcs[f]? with
  | none=>exact (hd f (by omega)).symm
  | some fn=>rw [hp] at e;cases e
def d6a {α:Type}(N:Nat)(d:α)(t:Nat -> α)(f:Nat):α:=bif Nat.ble N f then d else t f
def h2m {α:Type}(d:α):List α -> Nat -> α
 | [],_=>d
 | a::r,n=>match n with
   | 0=>a
   | n+1=>h2m d r n
def two {α:Type}(A:List (List α))(d:α)(f:Nat):α:=h2m d (h2m [] A (f/25)) (f%25)
def few {α:Type}(d:α):List (Nat×α) -> Nat -> α
 | [],_=>d
 | q::r,n=>bif Nat.beq q.1 n then q.2 else few d r n
def e3l {α:Type}{N:Nat}{d:α}{t:Nat -> α}(f:Nat)(h:N <= f):d6a N d t f=d:=by
 unfold d6a
 rw [Nat.ble_eq_true_of_le h];rfl
section
variable {P:Program} {ld:Nat -> List Nat} {N s f:Nat} {C:List Nat}
def g5y (h:P.funcs.toList.map P.leadsTo=(List.range N).map (d6a N [] ld))(hs:(((List.range N).map (d6a N [] ld)).map fun l=>l.length+1).sum=s)(hC:e5i (d6a N [] ld) (1+s) [f] [] 0=C):P.closure f=C:=by
 unfold Program.closure
 have e:(P.funcs.toList.map fun g=>(P.leadsTo g).length+1)=(P.funcs.toList.map P.leadsTo).map fun l=>l.length+1:=by rw [List.map_map];rfl
 rw [e,h,hs,d4y (d40 h e3l) _ _ _ 0 (fun g=>by simp),hC]
def e55 (hc:P.closure f=C){t:Nat -> Option String}(h:(P.funcs.toList.map fun fn=>if fn.ours||fn.body.isNone||fn.name== "runtime.NumGoroutine" then some fn.name else none)=(List.range N).map (d6a N none t)):P.inPlace f=C.filterMap (d6a N none t):=by
 unfold Program.inPlace
 rw [hc]
 congr 1
 funext g
 rw [<- d40 h e3l g]
 cases P.funcs[g]? <;>rfl
def d4u (hc:P.closure f=C){g:Nat}{fn:Func}(hg:C.contains g=true)(hfn:P.funcs[g]? =some fn)(h:(match fn.body with | some c=>c.unfollowed | none=>entryCalls fn)=true):P.unfollowed f=true:=by
 unfold Program.unfollowed
 rw [hc,List.any_eq_true]
 refine ⟨g,by simpa using hg,?_⟩
 rw [hfn];exact h
def d9l (h:P.unfollowed f=true):P.recurses f=true:=by
 unfold Program.recurses
 rw [h];rfl
def d79 (hc:P.closure f=C){gl:Nat -> List Nat}{er:Nat -> Option String}(h:(P.funcs.toList.map fun fn=>fn.body.elim [] Code.globalsNamed)=(List.range N).map (d6a N [] gl))
  (h2:(P.funcs.toList.map fun fn=>if fn.body.isNone then entryReads.lookup fn.name else none)=(List.range N).map (d6a N none er)):
  P.varsNamed f=(((C.flatMap (d6a N [] gl)).eraseDups).filterMap (fun g=>(P.globals[g]?).map (·.name))++C.filterMap (d6a N none er)).eraseDups:=by
 unfold Program.varsNamed
 rw [hc]
 have e1:(fun g=>((P.funcs[g]?).bind (·.body)).elim [] Code.globalsNamed)=d6a N [] gl:=funext fun g=>by
  rw [<- d40 h e3l g]
  cases P.funcs[g]? <;>rfl
 have e2:(fun g=>(P.funcs[g]?).bind fun fn=>if fn.body.isNone then entryReads.lookup fn.name else none)=d6a N none er:=funext fun g=>by
  rw [<- d40 h2 e3l g]
  cases P.funcs[g]? <;>rfl
 rw [e1,e2]
end
end Go.PL
namespace Go.PL
open Go Go.Proofs
def ldA:List (List (List Nat)):=[[[],[],[1],[4,5,6,6,7,8,9,10,11,12,13],[14,6],[6],[],[6,6,6,15,6,6,6,6],[16,17,18],[19,20],[16,17,21],[22,23],[24],[25],[27,26,29,28,29,28],[31,31,30],[32,33],[34,35],[36,38,37,39,40,39,40],[22,41],[42,43,44],[36,46,45,39,40],[47,48],[41,49],[16,50]],
 [[],[51,52,53,52,54,52,55,56,57,58],[59,60,29,28,60,29,28,60],[],[28],[61,62,61],[],[63,64,65],[66,67,68],[],[66,69,70],[71,72],[],[],[73,74,74],[],[75,76],[77,15,78,79],[80,81,81,81],[82,83,82,83,84],[],[],[85,86,87],[],[42,43,82,83,84,78]],
 [[17,88,89,90,91,92,93,89,93,94],[95],[55,96],[97,98,96],[97,99,96],[100],[52,97,101,96,52,52,102,54,52,55,103],[],[98,104],[],[29,28,59,29,28,29,28,59,29,28,29,28,59,29,28,29,28,105,29,28,105,29,28,105,29,28,59,29,28,59,29,28,59,29,28,59,29,28,105,29,28,29,28,59,29,28,59,29,28,59,29,28,29,28,105,29,28],[106],[],[107,72],[108],[109,110,111,112,112],[],[113],[],[114],[115,116,117,118,119,120,120,120,120],[121,111],[122,124,123,126,125,127,127,129,128,127],[130,130,131],[132,133,134,132,135,136,74,74,137,138,139,140,132]],
 [[],[48],[],[141,141,142],[],[143,98,144],[144],[145,83],[42,146,144,147],[],[58,43],[48],[148,141],[90,90,149,150],[17,151,152,153,154,155,155,155,155,155,155,156,157,158],[159],[160,162,161],[],[18,163],[111,164,166,165,167],[168],[],[],[169,170],[171,15]],
 [[],[172],[97,173,174,175,96],[55,102,55,54,55,54,97,99,96,55,53,52,176,55,102,52,176,52,176,55,102,52,176,96,52],[48,177,178,179,98,180,178,180,180,178,180],[59,59,59],[181],[182,183],[66,184,184,184,184],[],[185],[187,187,186],[],[],[],[],[],[],[],[],[120],[188,189],[190,191,193,192,194],[195],[]],
 [[37],[],[194],[45],[],[197,196],[],[],[198,199],[121,201,200,202],[74,138,203,132,204,132],[74,74,74],[205],[],[206,207,208,209,205],[],[31,62],[31,210,31,210,211],[],[180,212],[213,213],[141],[214,215,147,147,147,147,147,147,216],[],[35,218,217,219]],
 [[220,149],[221,222,223],[224],[66,66,154,154,225],[66,226,227,226,228,228],[159,229],[65,230,154,154,231,200,233,232,229,235,234],[236],[202],[237],[162,229],[238],[238],[111,164,166,167],[],[],[],[106],[239,240,241,242,241,171,172,243],[240,242],[],[242],[244,244,244,245],[],[]],
 [[],[55,176,176,52,176,52,176,55,176,176,246,176,247,176],[],[173,174,175],[141,248],[249,250,251],[252],[253,254],[66,256,255,257,255,258,182,259,260,255,259,259,260,255,259],[],[261,228],[],[],[262],[],[],[259],[263],[],[259,192,264,265],[],[266],[130],[190,71,132,132],[267]],
 [[268,222],[269],[187,187,186,270],[111],[111],[111,111,187,187,271,187,187,271,272,272],[111,111,187,187,271,187,187,271,273,272,274,274,187,187,275,186,276,270],[204,206],[111,111,187,187,187,187,277],[111,111,187,187,187,187,277],[165],[],[143,212,278],[213],[79,15],[143,42,279,77],[278,78,280,281,282,283,284,285],[286,287,232,288,289,290,232,291,292],[293,294,295],[296,297,299],[],[300],[302,301],[],[221]],
 [[154,303,304],[],[303],[303],[305],[306,307,162,232,308,232],[309],[310],[304,304],[311,109,109,110,164,65,166,167,312,312,166,165,167],[300],[313,313,314,314,165,106],[],[315,317,316],[],[],[240,242],[],[],[],[318,319],[97,99,55,176,55,176,52,55,52,54,52,100,320,100,320,100,320,53],[321,322,100],[141,31,323,323],[249]],
 [[250],[324,179,98,251],[],[325,326],[],[328,327],[],[],[329,330],[331,332,333],[],[],[],[],[],[334,265,335],[],[],[336],[],[],[165],[],[337,337],[338,338]],
 [[106],[106],[186,186,271,271,270],[],[],[141],[141],[141,141,31,210,31,210,339,30,211,340,30,340,30],[280,282],[141,141,31,31,341],[141,141,31,31,341],[],[238],[],[342,195],[221,308,232],[306,308,232,232,292,238],[238],[306,308,343,64],[222,223],[33,344,345,346,347,348,349],[350],[298],[351,352],[238,222,223,353,354]],
 [[355,356,358,358,358,358,359,359,360,359,359,359,359],[361,362,363,364,365,366,367,368,369,301,301],[370,252],[],[228,226,228],[238],[371,221],[],[152,372],[],[238,238],[],[],[],[111],[],[373,374,375,302,376],[],[377],[318],[52,176,324,52,176,52],[],[],[],[]],
 [[],[325,378],[],[],[379,379,380],[],[331],[332],[381,196,382],[190,383],[],[],[],[],[337],[338],[62,62,210,210],[],[306,308,232,384,385],[],[344],[388],[388,231,200,349,388,389,159],[388,390,391],[66,308,353,221]],
 [[238],[353],[392,392,392,393,393],[395,394],[],[],[357],[396],[],[358],[],[367],[397,397],[398,399],[400,400,400,401],[],[367,367,367],[402,402],[367,367],[367,367,367,367],[],[],[224],[],[]],
 [[],[412,413,414,415,416,417,418,419,376,376],[],[],[420],[421,422,422],[423,329,182],[333],[424],[302,425],[387,387,387,386],[],[402,402],[159,344],[222,223],[],[387],[232,161],[232,426],[427],[],[428],[367,367],[302],[]],
 [[401],[429,429,429],[],[],[],[],[],[],[],[],[],[],[],[430,430],[431,432],[433,433,433,434],[],[],[],[],[435],[436],[378],[],[]],
 [[437,438,439,440,441,442,443,444,425,425],[238],[],[445,446,445,447,446,448],[367],[],[302],[],[434],[449,449,449],[450,451,452,453],[428],[],[454,454],[398,399],[455,455,455,456],[],[],[],[],[457],[],[],[458],[]],
 [[],[252,459,460],[],[461,462],[],[456],[463,463,463],[],[],[],[],[],[464,465],[],[],[],[],[],[],[],[],[],[],[],[]],
 [[],[],[],[],[],[],[],[],[],[],[],[],[],[],[],[],[]]]
def cl3:List Nat:=[3,4,14,27,59,60,29,28,105,26,51,95,168,239,240,241,242,171,172,244,245,318,377,319,243,52,55,100,96,53,97,98,169,170,54,99,15,31,30,61,106,181,252,62,56,101,102,173,174,175,103,176,246,320,324,247,321,322,57,58,104,48,177,178,179,141,248,323,180,249,250,251,6,5,7,8,16,32,63,107,182,253,325,326,378,254,183,66,256,255,328,327,257,258,329,379,420,435,450,451,459,460,452,453,461,462,464,465,380,421,436,428,445,457,446,447,448,458,422,330,259,331,332,333,381,423,196,266,382,260,72,122,190,191,193,192,263,194,264,265,334,383,424,335,124,123,195,126,125,37,127,129,128,45,64,108,184,65,109,110,185,261,228,303,111,187,186,112,33,67,113,68,17,34,35,69,114,70,115,116,117,118,119,120,18,36,71,121,188,262,189,38,39,73,130,197,131,74,132,133,198,199,267,134,201,269,200,268,336,222,302,370,301,361,367,402,362,397,363,398,399,364,400,401,429,365,366,368,369,202,270,135,138,203,204,136,137,205,271,165,272,139,206,273,337,274,338,275,276,207,208,277,209,140,40,9,19,22,47,85,43,80,143,144,212,278,81,86,87,148,41,75,76,20,42,77,78,142,210,211,79,44,82,145,213,83,146,147,214,215,279,216,280,281,282,339,340,283,284,341,285,84,10,21,46,11,23,49,12,24,50,88,90,159,237,149,218,293,306,371,221,300,355,356,357,396,358,359,360,308,152,224,372,343,232,310,238,315,317,316,373,374,375,376,412,413,430,414,431,432,415,433,434,449,416,417,418,419,384,425,437,438,454,439,440,455,456,463,441,442,443,444,385,387,386,294,223,295,344,345,346,388,347,231,309,349,353,395,394,427,389,348,390,391,217,286,287,288,289,342,290,291,292,219,296,350,297,298,351,352,392,161,393,426,299,354,150,220,89,151,153,154,226,227,225,304,155,229,305,156,230,307,162,233,235,234,311,164,166,167,312,157,236,313,314,158,91,160,92,93,163,94,13,25]
def h3o:Tryz.prog.funcs.toList.map Tryz.prog.leadsTo=(List.range 492).map (d6a 492 [] (two ldA [])):=by kernel_rfl
def h4e:Tryz.prog.closure 3=cl3:=g5y (N:=492) (s:=1523) h3o (by kernel_rfl) (by kernel_rfl)
def h46:(Tryz.prog.funcs.toList.map fun fn=>if fn.ours||fn.body.isNone||fn.name== "runtime.NumGoroutine" then some fn.name else none)=(List.range 492).map (d6a 492 none (few none [(0,some Tryz.f0.name),(1,some Tryz.f1.name),(337,some Tryz.f337.name),(338,some Tryz.f338.name),(373,some Tryz.f373.name),(374,some Tryz.f374.name),(375,some Tryz.f375.name),(403,some Tryz.f403.name),(404,some Tryz.f404.name),(405,some Tryz.f405.name),(406,some Tryz.f406.name),(407,some Tryz.f407.name),(408,some Tryz.f408.name),(409,some Tryz.f409.name),(410,some Tryz.f410.name),(411,some Tryz.f411.name),(446,some Tryz.f446.name),(457,some Tryz.f457.name),(466,some Tryz.f466.name),(467,some Tryz.f467.name),(468,some Tryz.f468.name),(469,some Tryz.f469.name),(470,some Tryz.f470.name),(471,some Tryz.f471.name),(472,some Tryz.f472.name),(473,some Tryz.f473.name),(474,some Tryz.f474.name),(475,some Tryz.f475.name),(476,some Tryz.f476.name),(477,some Tryz.f477.name),(478,some Tryz.f478.name),(479,some Tryz.f479.name),(480,some Tryz.f480.name),(481,some Tryz.f481.name),(482,some Tryz.f482.name),(483,some Tryz.f483.name),(484,some Tryz.f484.name),(485,some Tryz.f485.name),(486,some Tryz.f486.name),(487,some Tryz.f487.name),(488,some Tryz.f488.name),(489,some Tryz.f489.name),(490,some Tryz.f490.name)])):=by kernel_rfl
def inPlace3:Tryz.prog.inPlace 3=["internal/bytealg.IndexByteString","internal/bytealg.IndexString","math/bits.Add64","math/bits.Sub64","internal/reflectlite.ValueOf","internal/reflectlite.Swapper","(internal/reflectlite.Value).Len"]:=(e55 h4e h46).trans (by kernel_rfl)
def unfollowed3:Tryz.prog.unfollowed 3=true:=d4u h4e (g:=327) (by kernel_rfl) Tryz.func327 (by kernel_rfl)
def recurses3:Tryz.prog.recurses 3=true:=d9l unfollowed3
def h2p:(Tryz.prog.funcs.toList.map fun fn=>fn.body.elim [] Code.globalsNamed)=(List.range 492).map (d6a 492 [] (few [] [(106,[0,1]),(428,[2,2,2]),(451,[3]),(464,[4]),(465,[5]),(491,[4,5,3])])):=by kernel_rfl
def h47:(Tryz.prog.funcs.toList.map fun fn=>if fn.body.isNone then entryReads.lookup fn.name else none)=(List.range 492).map (d6a 492 none (few none [(446,some "internal/bytealg.MaxLen")])):=by kernel_rfl
def varsNamed3:Tryz.prog.varsNamed 3=["math/bits.divideError","math/bits.overflowError","internal/strconv.uint64pow10","math/bits.deBruijn32tab","math/bits.deBruijn64tab","internal/bytealg.MaxLen"]:=(d79 h4e h2p h47).trans (by kernel_rfl)
end Go.PL
namespace Go.Proofs.YtpiclagiijpbkaaGreatDoor.awardGrants
open Go
def named:Tryz.pinned.checked.prog.funcNamed Rows.awardGrantsRow.func=some 3:=by kernel_rfl
def pe:Tryz.pinned.checked.prog=Tryz.prog:=rfl
def j2:(laidOutB Tryz.pinned.checked.prog)=true:=by kernel_rfl
def j3:(mapsRowed Tryz.pinned.checked.prog)=true:=by kernel_rfl
def j7:(Tryz.pinned.checked.prog.stops==[])=true:=by kernel_rfl
def j9:(Tryz.pinned.checked.prog.stopKnobs==[])=true:=by kernel_rfl
def j10:(Rows.awardGrantsRow.inPlace==Tryz.pinned.checked.prog.inPlace 3)=true:=by rw [pe,Go.PL.inPlace3];kernel_rfl
def j11:(Rows.awardGrantsRow.unfollowed==Tryz.pinned.checked.prog.unfollowed 3)=true:=by rw [pe,Go.PL.unfollowed3];rfl
def j12:(Rows.awardGrantsRow.recurses==Tryz.pinned.checked.prog.recurses 3)=true:=by rw [pe,Go.PL.recurses3];rfl
def j13:(Rows.awardGrantsRow.named==Tryz.pinned.checked.prog.varsNamed 3)=true:=by rw [pe,Go.PL.varsNamed3];kernel_rfl
def j23:(Rows.awardGrantsRow.plainKeys==Tryz.pinned.checked.prog.plainKeys)=true:=by kernel_rfl
def j25:(Tryz.pinned.checked.prog.stopsHeard)=true:=by kernel_rfl
def g96:joinedFacts Tryz.pinned.checked.prog 3 Tryz.f3 (OpenSpec.ofChange Rows.awardGrantsSpec).bare Rows.awardGrantsRow=true:=by
 unfold joinedFacts
 simp only [qB]
 and_intros
 ·kernel_rfl
 ·exact j2
 ·exact j3
 ·kernel_rfl
 ·kernel_rfl
 ·kernel_rfl
 ·exact j7
 ·kernel_rfl
 ·exact j9
 ·exact j10
 ·exact j11
 ·exact j12
 ·exact j13
 ·kernel_rfl
 ·kernel_rfl
 ·kernel_rfl
 ·kernel_rfl
 ·kernel_rfl
 ·kernel_rfl
 ·kernel_rfl
 ·kernel_rfl
 ·kernel_rfl
 ·exact j23
 ·kernel_rfl
 ·exact j25
 ·kernel_rfl
 ·kernel_rfl
 ·kernel_rfl
 ·kernel_rfl
 ·kernel_rfl
 ·kernel_rfl
 ·kernel_rfl
def inst:Tryz.f3.isInstance Tryz.pinned.checked.prog Rows.awardGrantsRow.origin Rows.awardGrantsRow.targs:=of_decide_eq_true (by kernel_rfl)
def wrap:Tryz.f3.isWrapper Tryz.pinned.checked.prog Rows.awardGrantsRow.wrapper Rows.awardGrantsRow.mainSum:=by unfold Func.isWrapper;first | (rw [if_pos (by decide+kernel)];kernel_rfl) | (rw [if_neg (by decide+kernel)];exact ⟨rfl,rfl⟩)
end Go.Proofs.YtpiclagiijpbkaaGreatDoor.awardGrants
