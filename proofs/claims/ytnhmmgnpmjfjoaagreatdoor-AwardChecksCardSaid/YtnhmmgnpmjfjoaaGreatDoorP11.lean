/- Texts of the proof, joined. -/
import Derived.Test.YtnhmmgnpmjfjoaaGreatDoorP10
import GoSem.ClaimFn
import Derived.KernelRfl
import Derived.Test.YtnhmmgnpmjfjoaaGreatDoorProg
set_option linter.unusedVariables false
set_option linter.unusedSimpArgs false
set_option maxRecDepth 100000
namespace Go.PL
open Go
def d5z (ld:Nat -> List Nat):Nat -> List Nat -> List Nat -> Nat -> List Nat
 | 0,_,seen,_=>seen.reverse
 | _+1,[],seen,_=>seen.reverse
 | n+1,f::todo,seen,m=>match Nat.testBit m f with
   | true=>d5z ld n todo seen m
   | false=>d5z ld n (ld f++todo) (f::seen) (m ||| 2^f)
theorem c7t {P:Program} {ld:Nat -> List Nat} (h: ∀f,(P.funcs[f]?).elim [] P.leadsTo=ld f): ∀(n:Nat) (todo seen:List Nat) (m:Nat),(∀f,seen.contains f=m.testBit f) -> P.closureVia n todo seen=d5z ld n todo seen m
 | 0,todo,seen,m,_=>by cases todo<;>rfl
 | n+1,[],seen,m,_=>rfl
 | n+1,f::todo,seen,m,hm=>by
   have hf:=hm f
   show (if seen.contains f then P.closureVia n todo seen else P.closureVia n ((P.funcs[f]?).elim [] P.leadsTo++todo) (f::seen))=match Nat.testBit m f with
    | true=>d5z ld n todo seen m
    | false=>d5z ld n (ld f++todo) (f::seen) (m ||| 2^f)
   rw [hf]
   cases hb:Nat.testBit m f with
   | true=>rw [if_pos rfl];exact c7t h n todo seen m hm
   | false=>
     rw [if_neg (by simp),h f]
     refine c7t h n _ _ _ fun g=> ?_
     rw [List.contains_cons,hm g,Nat.testBit_or,Nat.testBit_two_pow,Bool.or_comm]
     congr 1
     by_cases e:g=f
     ·subst e;simp
     ·have e2: ¬f=g:=fun h=>e h.symm
      simp [e,e2]
theorem c6z {α:Type} {P:Program} {q:Func -> α} {d:α} {t:Nat -> α} {N:Nat} (h:P.funcs.toList.map q=(List.range N).map t) (hd: ∀f,N <= f -> t f=d) (f:Nat):(P.funcs[f]?).elim d q=t f:=by
 have e:(P.funcs.toList.map q)[f]? =((List.range N).map t)[f]? :=by rw [h]
 rw [List.getElem?_map,List.getElem?_map,Array.getElem?_toList] at e
 by_cases hf:f<N
 ·rw [List.getElem?_range hf] at e
  cases hp:P.funcs[f]? with
  | none=>rw [hp] at e;cases e
  | some fn=>rw [hp] at e;exact Option.some.inj e
 ·rw [List.getElem?_eq_none (by simp;omega)] at e
  cases hp:P.funcs[f]? with
  | none=>exact (hd f (by omega)).symm
  | some fn=>rw [hp] at e;cases e
def d0w {α:Type} (N:Nat) (d:α) (t:Nat -> α) (f:Nat):α:=bif Nat.ble N f then d else t f
def g01 {α:Type} (d:α):List α -> Nat -> α
 | [],_=>d
 | a::r,n=>match n with
   | 0=>a
   | n+1=>g01 d r n
def two {α:Type} (A:List (List α)) (d:α) (f:Nat):α:=g01 d (g01 [] A (f/25)) (f%25)
def few {α:Type} (d:α):List (Nat×α) -> Nat -> α
 | [],_=>d
 | q::r,n=>bif Nat.beq q.1 n then q.2 else few d r n
theorem d4b {α:Type} {N:Nat} {d:α} {t:Nat -> α} (f:Nat) (h:N <= f):d0w N d t f=d:=by
 unfold d0w
 rw [Nat.ble_eq_true_of_le h];rfl
section
variable {P:Program} {ld:Nat -> List Nat} {N s f:Nat} {C:List Nat}
theorem f07 (h:P.funcs.toList.map P.leadsTo=(List.range N).map (d0w N [] ld)) (hs:(((List.range N).map (d0w N [] ld)).map fun l=>l.length+1).sum=s) (hC:d5z (d0w N [] ld) (1+s) [f] [] 0=C):P.closure f=C:=by
 unfold Program.closure
 have e:(P.funcs.toList.map fun g=>(P.leadsTo g).length+1)=(P.funcs.toList.map P.leadsTo).map fun l=>l.length+1:=by rw [List.map_map];rfl
 rw [e,h,hs,c7t (c6z h d4b) _ _ _ 0 (fun g=>by simp),hC]
theorem d8d (hc:P.closure f=C) {t:Nat -> Option String} (h:(P.funcs.toList.map fun fn=>if fn.ours||fn.body.isNone||fn.name== "runtime.NumGoroutine" then some fn.name else none)=(List.range N).map (d0w N none t)):P.inPlace f=C.filterMap (d0w N none t):=by
 unfold Program.inPlace
 rw [hc]
 congr 1
 funext g
 rw [<- c6z h d4b g]
 cases P.funcs[g]? <;>rfl
theorem c7o (hc:P.closure f=C) {g:Nat} {fn:Func} (hg:C.contains g=true) (hfn:P.funcs[g]? =some fn) (h:(match fn.body with | some c=>c.unfollowed | none=>entryCalls fn)=true):P.unfollowed f=true:=by
 unfold Program.unfollowed
 rw [hc,List.any_eq_true]
 refine ⟨g,by simpa using hg,?_⟩
 rw [hfn];exact h
theorem d20 (h:P.unfollowed f=true):P.recurses f=true:=by
 unfold Program.recurses
 rw [h];rfl
theorem c9s (hc:P.closure f=C) {gl:Nat -> List Nat} {er:Nat -> Option String} (h:(P.funcs.toList.map fun fn=>fn.body.elim [] Code.globalsNamed)=(List.range N).map (d0w N [] gl))
  (h2:(P.funcs.toList.map fun fn=>if fn.body.isNone then entryReads.lookup fn.name else none)=(List.range N).map (d0w N none er)):
  P.varsNamed f=(((C.flatMap (d0w N [] gl)).eraseDups).filterMap (fun g=>(P.globals[g]?).map (·.name))++C.filterMap (d0w N none er)).eraseDups:=by
 unfold Program.varsNamed
 rw [hc]
 have e1:(fun g=>((P.funcs[g]?).bind (·.body)).elim [] Code.globalsNamed)=d0w N [] gl:=funext fun g=>by
  rw [<- c6z h d4b g]
  cases P.funcs[g]? <;>rfl
 have e2:(fun g=>(P.funcs[g]?).bind fun fn=>if fn.body.isNone then entryReads.lookup fn.name else none)=d0w N none er:=funext fun g=>by
  rw [<- c6z h2 d4b g]
  cases P.funcs[g]? <;>rfl
 rw [e1,e2]
end
end Go.PL
namespace Go.PL
open Go Go.Proofs
def ldA:List (List (List Nat)):=[[[],[],[1],[13,14,15,16],[13,17,18,19,19,14,21,22,20],[13,17,18,19,23,14,21,20],[13,17,18,19,23,14],[13,17,19,19,24,19,19,23,23,14,20],[13,17,18,19,25,26,14,27,28],[13,17,19,29,14,23,30,31],[13,17,18,19,29,32,33,34,14,35,35],[13,18,19,19,36,37,38,39,40,14,41],[13,18,19,19,24,43,42,44,19,44,44,23,23,14,20],[45,19],[21],[46,47,48],[49,50,51],[24,43,42,52],[19],[],[53],[54,55],[56,57,58],[21],[59,59,59,59,59,59,60,59,59,59,59,61,59,59,59,59,59,59,59,59]],
 [[54,62,64,63],[56,65],[66],[67,30,68,69],[54,71,70],[73,73,72],[74,74,73,75,73,75,76,72,77,78,72,78,72],[56,80,79],[54,81,82],[56,83,79],[],[19,19,19,30,19,19,19,19],[54,62,84],[85,86],[54,62,87],[56,88],[53],[],[89,59,89,59,89,59,89,59,89,59,89,59,89,59,89,59,89,59,89,59,89,59,89,59,89,59],[91,91,90,92,93],[95,94,89,59,89,59],[96,97],[98],[99,100,101,102,102],[103,104]],
 [[105],[106,74],[107,108,108,109],[],[15,110],[62,64,63,71,111,112,113,63,113,114],[16,105],[],[115,57,116,117,57,118,119,120,121,86,122,57,117,57,86,122,123,57],[],[59,59,59,59,59],[],[81,124],[62,125,126,127,128,129,129,129,129,129,129,130,131,132],[71,71,70,82],[115,116,117],[],[],[74,74,133],[],[124,135,134,136],[137],[138,139,138],[],[73,139]],
 [[140],[141],[],[142],[83,143,145,144,146],[118],[],[147,70],[],[148,150,149,151,152,151,152],[56,115],[28,104,153],[148,155,154,151,152],[115,156],[59],[],[157,90,92,93],[159,159,158],[160],[161,162,163,162,164,162,165,166,167,103],[168,169,89,59,169,89,59,169],[170,171],[172,174,173,176,175,177,177,179,178,177],[180,181,181,181,181],[]],
 [[182],[184,184,183],[],[185,186],[187,188,188,188],[],[],[61,189,189,189,189,189,189],[],[107,107,108,190,190],[180,191,192],[193,195,194],[],[84,196],[101,197,198,140,199],[83,143],[118,80,79,79],[115,200,201,202,203,204,205,206,207,207,207,207,207,207,207,207],[119,208],[105],[209,211,210],[],[74,212,73,213],[74,212,73,75,213],[180,214,215]],
 [[216,217,218],[219],[180,180,128,128,220],[180,221,222,221,223,223],[137,224],[48,225,128,128,227,226,229,228,224,231,230],[232],[233],[73,75,73,75,77],[234,235,228,236,237,238,228,239,240],[241,242,243],[244,245,247],[248],[249],[],[],[],[],[105],[251,250,253,252,253,254],[50,255,256,257,258,258,258,258,258,258,119,259,260],[258,258,258,258,258,261],[],[262,97],[]],
 [[],[263,264,264],[],[265,266,265,266,267],[],[],[28,104,265,266,267,68],[268,269,271,271,271,271,272,272,273,272,272,272,272],[],[274,274],[157,157,276,276,275],[277],[165,278],[279,185,278],[279,280,278],[281],[162,279,282,278,162,162,283,164,162,165,284],[],[],[89,59,168,89,59,89,59,168,89,59,89,59,168,89,59,89,59,285,89,59,285,89,59,285,89,59,168,89,59,168,89,59,168,89,59,168,89,59,285,89,59,89,59,168,89,59,168,89,59,168,89,59,89,59,285,89,59],[286,287],[180,289,288,290,288,291,170,292,293,288,292,292,293,288,292],[294,295,297,296,298],[299],[]],
 [[149],[],[298],[154],[],[],[],[300,223],[],[],[301,302],[105,212,303,304,185,305,303,305,305,303,305],[306,185,307],[307],[308],[107,309,309,309,309,309,309,61,309,309,309,309,309,309,309,309],[310],[],[195,224],[311],[311],[101,197,198,199],[],[],[249]],
 [[51,312,313,314,314,315,315,316,318,317],[105,319],[320],[30],[321],[105,105,322],[255,258],[209,209],[],[211,316],[323],[323],[],[138],[324],[325,326,327,328,329,330,330,330,330],[157],[332,331],[],[216],[128,333,334],[],[333],[333],[335]],
 [[336,337,195,228,338,228],[339,217],[340],[341],[334,334],[342,99,99,100,197,48,198,199,343,343,198,140,199],[157],[344,344,345,345,140,249],[184,184,183,346],[],[311],[],[347,299],[216,338,228],[336,338,228,228,240,311],[311],[336,338,348,47],[217,218],[110,349,350,351,352,353,354],[355],[246],[356,357],[311,217,218,358,359],[],[360]],
 [[315,361],[323],[],[362],[363,250,255,257,315,250,323],[107],[255,257,315,364],[204,365],[],[],[259,259,366,259,367],[105,368,369],[370,101],[371,371,372],[373,374,375,373,376,377,264,264,378,379,380,381,373],[382,266],[28,383,307,384],[],[],[270],[385],[],[271],[],[]],
 [[386],[157,387,387,387,268,387,387,387,387,387,387,387],[388],[],[],[389,30],[],[390],[279,391,392,393,278],[165,283,165,164,165,164,279,280,278,165,163,162,394,165,283,162,394,162,394,165,283,162,394,278,162],[168,168,168],[395,396],[],[398,397],[],[],[399,400],[401,402,403],[],[],[292],[404],[],[292,296,405,406],[]],
 [[],[407,408],[],[391,392,393],[74,409],[410,411,412],[],[305,413],[61],[],[],[414,416,415],[107,257,315,211,417],[201,201],[106,418],[419],[323],[420,421,421,106,212,51,73,213,422,422,73,75,213],[107],[423],[424,424,425,425,426],[255],[201,427,428],[419],[]],
 [[],[],[],[],[],[330],[429,430,431,432,433,434,435,436,437,331,331],[438,439],[],[223,221,223],[311],[440,216],[],[126,441],[442],[],[311,311],[],[],[],[101],[],[],[336,338,228,443,444],[]],
 [[349],[445],[445,227,226,354,445,446,137],[445,447,448],[180,338,358,216],[311],[358],[449,449,449,450,450],[452,451],[],[439],[323],[],[255,257,315],[],[321],[453,367,454],[255,257,259,259],[],[455,455,456,456],[457,458],[460,459],[],[],[461,462]],
 [[370,463,226,233],[264,379,464,373,465,373],[264,264,264],[466],[],[467,468,469,470,466],[],[471,471],[74],[472,473,384,384,384,384,384,384,474],[475],[],[],[476,407,477,408,477,389,390,478],[408],[479,479,479,428],[],[],[],[165,394,394,162,394,162,394,165,394,394,480,394,481,394],[],[395,482],[],[],[483,483,484]],
 [[],[401],[402],[485,459,486],[],[],[487,406,488],[],[],[74,73,489,489],[410],[411],[490,304,185,412],[306,413,491],[],[492,493,494,332,495],[],[419],[423],[496,497,497,498],[],[],[],[427],[]],
 [[74],[75,140,75,76,213],[],[423,418],[435],[499,499],[500,501],[502,502,502,503],[],[435,435,435],[274,274],[435,435],[435,435,435,435],[],[],[],[219],[],[332,504],[159,159,159,158],[137,349],[217,218],[],[159],[228,194]],
 [[228,505],[506],[],[259],[259,258],[],[],[507],[],[508],[371],[294,262,373,373],[509],[510],[101],[101],[101,101,184,184,511,184,184,511,512,512],[101,101,184,184,511,184,184,511,513,512,514,514,184,184,515,183,516,346],[465,467],[101,101,184,184,184,184,517],[101,101,184,184,184,184,517],[471],[69,30],[306,28,518,67],[491,68,519,520,31,521,522,523]],
 [[524,525,524,526,525,527],[],[407,408],[],[],[279,280,165,394,165,394,162,165,162,164,162,281,528,281,528,281,528,163],[529,530,281],[],[531],[532,533,533],[534,399,170],[403],[294,535],[],[],[],[],[],[],[],[545,546,547,548,549,550,551,552,495,495],[553,258,258],[105],[],[435,435]],
 [[332],[],[503],[554,554,554],[555,556,557,558,559,560,561,562,504,504],[311],[],[],[],[],[],[140],[],[141,141],[142,142],[249],[249],[183,183,511,511,346],[],[74],[74],[519,31],[74,74,73,73,563],[74,74,73,73,563],[564]],
 [[],[],[565],[162,394,490,162,394,162],[],[],[566],[567],[482],[],[568],[],[],[],[],[],[],[],[],[],[],[569,569],[570,571],[572,572,572,573],[]],
 [[],[],[],[],[435],[],[574,574],[500,501],[575,575,575,576],[],[],[],[],[139,139,75,75],[],[],[577,578,579,580],[475],[],[],[332],[],[573],[581,581,581],[]],
 [[576],[582,582,582],[],[439,583,584],[],[585,586],[],[],[],[],[],[587,588],[],[],[],[],[],[],[],[],[],[],[],[],[]],
 [[],[],[],[],[],[],[],[],[],[],[],[],[],[],[]]]
def cl3:List Nat:=[3,13,45,95,168,169,89,59,285,94,161,277,388,476,407,477,408,389,390,479,428,423,427,418,478,162,165,281,278,163,279,185,301,302,164,280,30,73,72,138,249,360,439,139,166,282,283,391,392,393,284,394,480,528,490,481,529,530,167,103,186,105,212,303,304,74,409,489,305,410,411,412,19,14,21,54,15,46,96,170,286,395,396,482,287,171,180,289,288,398,397,290,291,399,483,531,566,577,578,583,584,579,580,585,586,587,588,484,532,567,475,524,564,525,526,527,565,533,400,292,401,402,403,485,534,459,508,486,293,97,172,294,295,297,296,404,298,405,406,487,535,568,488,174,173,299,176,175,149,177,179,178,154,47,98,181,48,99,100,182,300,223,333,101,184,183,102,110,191,310,192,55,62,81,124,214,324,215,325,326,327,328,329,330,64,71,137,248,70,135,241,336,440,216,157,268,269,270,385,271,272,273,338,126,219,441,348,228,341,311,414,416,415,492,493,494,332,438,495,545,546,569,547,570,571,548,572,573,581,549,550,551,552,443,504,555,556,574,557,500,501,558,575,576,582,559,560,561,562,444,159,274,158,242,217,331,429,435,430,499,431,432,502,503,554,433,434,436,437,218,243,349,350,351,445,352,227,340,226,339,442,354,358,452,451,506,446,353,447,448,134,234,235,236,237,347,238,239,240,136,244,355,245,246,356,357,449,194,450,505,247,359,82,147,63,125,127,128,221,222,220,334,129,224,335,130,225,337,195,229,231,230,342,197,198,199,343,140,131,232,344,345,132,233,346,111,193,112,113,84,148,262,370,457,507,458,150,151,263,371,460,372,264,373,374,461,462,509,375,463,510,376,379,464,465,377,378,466,511,512,380,467,513,141,514,142,515,516,468,469,517,470,381,152,196,114,16,49,104,187,306,307,413,491,188,50,51,106]
theorem f9y:Tryz.prog.funcs.toList.map Tryz.prog.leadsTo=(List.range 615).map (d0w 615 [] (two ldA [])):=by kernel_rfl
theorem f9f:Tryz.prog.closure 3=cl3:=f07 (N:=615) (s:=2081) f9y (by kernel_rfl) (by kernel_rfl)
theorem g0i:(Tryz.prog.funcs.toList.map fun fn=>if fn.ours||fn.body.isNone||fn.name== "runtime.NumGoroutine" then some fn.name else none)=(List.range 615).map (d0w 615 none (few none [(0,some "main.main"),(1,some "gosem.cut"),(141,some "math/bits.Add64"),(142,some "math/bits.Sub64"),(386,some "internal/bytealg.Compare"),(492,some "internal/reflectlite.ValueOf"),(493,some "internal/reflectlite.Swapper"),(494,some "(internal/reflectlite.Value).Len"),(525,some "internal/bytealg.IndexString"),(536,some "internal/reflectlite.Swapper$1"),(537,some "internal/reflectlite.Swapper$2"),(538,some "internal/reflectlite.Swapper$3"),(539,some "internal/reflectlite.Swapper$4"),(540,some "internal/reflectlite.Swapper$5"),(541,some "internal/reflectlite.Swapper$6"),(542,some "internal/reflectlite.Swapper$7"),(543,some "internal/reflectlite.Swapper$8"),(544,some "internal/reflectlite.Swapper$9"),(564,some "internal/bytealg.IndexByteString"),(589,some "(runtime.boundsError).Error"),(590,some "(runtime.boundsError).RuntimeError"),(591,some "(runtime.errorString).Error"),(592,some "(runtime.errorString).RuntimeError"),(593,some "(runtime.plainError).Error"),(594,some "(runtime.plainError).RuntimeError"),(595,some "(runtime.errorAddressString).Error"),(596,some "(runtime.errorAddressString).RuntimeError"),(597,some "(*runtime.TypeAssertionError).Error"),(598,some "(*runtime.TypeAssertionError).RuntimeError"),(599,some "(*runtime.PanicNilError).Error"),(600,some "(*runtime.PanicNilError).RuntimeError"),(601,some "(*internal/abi.Type).Align"),(602,some "(internal/runtime/maps.unhashableTypeError).Error"),(603,some "(internal/runtime/maps.unhashableTypeError).RuntimeError"),(604,some "(internal/reflectlite.flag).mustBeAssignable"),(605,some "(internal/reflectlite.rtype).String"),(606,some "(*internal/reflectlite.ValueError).Error"),(607,some "(*errors.errorString).Error"),(608,some "(internal/abi.Kind).String"),(609,some "var's door: gosem.cut.vars holds initialisers alone; see the manifest's row cutvarsword (look 11, test files too)"),(610,some "var's door: internal/strconv.uint64pow10 is laid by its own initialiser, plain data (look 11)"),(611,some "var's door: math/bits.deBruijn32tab is laid by its own initialiser, plain data (look 11)"),(612,some "var's door: math/bits.deBruijn64tab is laid by its own initialiser, plain data (look 11)"),(613,some "var's door: the look of gosem.cut.vars went over the folder that the caller named as the repository's root (look 11)")])):=by kernel_rfl
theorem inPlace3:Tryz.prog.inPlace 3=["internal/bytealg.IndexByteString","internal/bytealg.IndexString","internal/reflectlite.ValueOf","internal/reflectlite.Swapper","(internal/reflectlite.Value).Len","math/bits.Add64","math/bits.Sub64"]:=(d8d f9f g0i).trans (by kernel_rfl)
theorem unfollowed3:Tryz.prog.unfollowed 3=true:=c7o f9f (g:=397) (by kernel_rfl) Tryz.func397 (by kernel_rfl)
theorem recurses3:Tryz.prog.recurses 3=true:=d20 unfollowed3
theorem f9m:(Tryz.prog.funcs.toList.map fun fn=>fn.body.elim [] Code.globalsNamed)=(List.range 615).map (d0w 615 [] (few [] [(249,[0,1]),(475,[2,2,2]),(578,[3]),(587,[4]),(588,[5]),(614,[4,5,3])])):=by kernel_rfl
theorem f9r:(Tryz.prog.funcs.toList.map fun fn=>if fn.body.isNone then entryReads.lookup fn.name else none)=(List.range 615).map (d0w 615 none (few none [(525,some "internal/bytealg.MaxLen")])):=by kernel_rfl
theorem varsNamed3:Tryz.prog.varsNamed 3=["math/bits.divideError","math/bits.overflowError","internal/strconv.uint64pow10","math/bits.deBruijn32tab","math/bits.deBruijn64tab","internal/bytealg.MaxLen"]:=(c9s f9f f9m f9r).trans (by kernel_rfl)
end Go.PL
