/- Texts of the proof, joined. -/
import GoSem.ClaimFn
import Derived.KernelRfl
import Derived.Test.YtmhkcgdchdkjcaaGreatDoorProg
set_option linter.unusedVariables false
set_option linter.unusedSimpArgs false
set_option maxRecDepth 100000
namespace Go.PL
open Go
def d99 (ld:Nat -> List Nat):Nat -> List Nat -> List Nat -> Nat -> List Nat
 | 0,_,seen,_=>seen.reverse
 | _+1,[],seen,_=>seen.reverse
 | n+1,f::todo,seen,m=>match Nat.testBit m f with
   | true=>d99 ld n todo seen m
   | false=>d99 ld n (ld f++todo) (f::seen) (m ||| 2^f)
theorem c8f {P:Program} {ld:Nat -> List Nat} (h: ∀f,(P.funcs[f]?).elim [] P.leadsTo=ld f): ∀(n:Nat) (todo seen:List Nat) (m:Nat),(∀f,seen.contains f=m.testBit f) -> P.closureVia n todo seen=d99 ld n todo seen m
 | 0,todo,seen,m,_=>by cases todo<;>rfl
 | n+1,[],seen,m,_=>rfl
 | n+1,f::todo,seen,m,hm=>by
   have hf:=hm f
   show (if seen.contains f then P.closureVia n todo seen else P.closureVia n ((P.funcs[f]?).elim [] P.leadsTo++todo) (f::seen))=match Nat.testBit m f with
    | true=>d99 ld n todo seen m
    | false=>d99 ld n (ld f++todo) (f::seen) (m ||| 2^f)
   rw [hf]
   cases hb:Nat.testBit m f with
   | true=>rw [if_pos rfl];exact c8f h n todo seen m hm
   | false=>
     rw [if_neg (by simp),h f]
     refine c8f h n _ _ _ fun g=> ?_
     rw [List.contains_cons,hm g,Nat.testBit_or,Nat.testBit_two_pow,Bool.or_comm]
     congr 1
     by_cases e:g=f
     ·subst e;simp
     ·have e2: ¬f=g:=fun h=>e h.symm
      simp [e,e2]
theorem c8g {α:Type} {P:Program} {q:Func -> α} {d:α} {t:Nat -> α} {N:Nat} (h:P.funcs.toList.map q=(List.range N).map t) (hd: ∀f,N <= f -> t f=d) (f:Nat):(P.funcs[f]?).elim d q=t f:=by
 have e:(P.funcs.toList.map q)[f]? =((List.range N).map t)[f]? :=by rw [h]
 rw [List.getElem?_map,List.getElem?_map,Array.getElem?_toList] at e
 by_cases hf:f<N
 ·rw [List.getElem?_range hf] at e
  cases hp:P.funcs[f]? with
  | none=>rw [hp] at e;cases e
  | some fn=>rw [hp] at e;exact Option.some.inj e
 ·rw [List.getElem?_eq_none (by simp;omega)] at e
  cases hp:P.funcs[f]? with
  | none=>exact (hd f (by omega)).symm
  | some fn=>rw [hp] at e;cases e
def d1x {α:Type} (N:Nat) (d:α) (t:Nat -> α) (f:Nat):α:=bif Nat.ble N f then d else t f
def g2f {α:Type} (d:α):List α -> Nat -> α
 | [],_=>d
 | a::r,n=>match n with
   | 0=>a
   | n+1=>g2f d r n
def two {α:Type} (A:List (List α)) (d:α) (f:Nat):α:=g2f d (g2f [] A (f/25)) (f%25)
def few {α:Type} (d:α):List (Nat×α) -> Nat -> α
 | [],_=>d
 | q::r,n=>bif Nat.beq q.1 n then q.2 else few d r n
theorem d7a {α:Type} {N:Nat} {d:α} {t:Nat -> α} (f:Nat) (h:N <= f):d1x N d t f=d:=by
 unfold d1x
 rw [Nat.ble_eq_true_of_le h];rfl
section
variable {P:Program} {ld:Nat -> List Nat} {N s f:Nat} {C:List Nat}
theorem f4t (h:P.funcs.toList.map P.leadsTo=(List.range N).map (d1x N [] ld)) (hs:(((List.range N).map (d1x N [] ld)).map fun l=>l.length+1).sum=s) (hC:d99 (d1x N [] ld) (1+s) [f] [] 0=C):P.closure f=C:=by
 unfold Program.closure
 have e:(P.funcs.toList.map fun g=>(P.leadsTo g).length+1)=(P.funcs.toList.map P.leadsTo).map fun l=>l.length+1:=by rw [List.map_map];rfl
 rw [e,h,hs,c8f (c8g h d7a) _ _ _ 0 (fun g=>by simp),hC]
theorem d8t (hc:P.closure f=C) {t:Nat -> Option String} (h:(P.funcs.toList.map fun fn=>if fn.ours||fn.body.isNone||fn.name== "runtime.NumGoroutine" then some fn.name else none)=(List.range N).map (d1x N none t)):P.inPlace f=C.filterMap (d1x N none t):=by
 unfold Program.inPlace
 rw [hc]
 congr 1
 funext g
 rw [<- c8g h d7a g]
 cases P.funcs[g]? <;>rfl
theorem c8p (hc:P.closure f=C) {g:Nat} {fn:Func} (hg:C.contains g=true) (hfn:P.funcs[g]? =some fn) (h:(match fn.body with | some c=>c.unfollowed | none=>entryCalls fn)=true):P.unfollowed f=true:=by
 unfold Program.unfollowed
 rw [hc,List.any_eq_true]
 refine ⟨g,by simpa using hg,?_⟩
 rw [hfn];exact h
theorem d4b (h:P.unfollowed f=true):P.recurses f=true:=by
 unfold Program.recurses
 rw [h];rfl
theorem d1o (hc:P.closure f=C) {gl:Nat -> List Nat} {er:Nat -> Option String} (h:(P.funcs.toList.map fun fn=>fn.body.elim [] Code.globalsNamed)=(List.range N).map (d1x N [] gl))
  (h2:(P.funcs.toList.map fun fn=>if fn.body.isNone then entryReads.lookup fn.name else none)=(List.range N).map (d1x N none er)):
  P.varsNamed f=(((C.flatMap (d1x N [] gl)).eraseDups).filterMap (fun g=>(P.globals[g]?).map (·.name))++C.filterMap (d1x N none er)).eraseDups:=by
 unfold Program.varsNamed
 rw [hc]
 have e1:(fun g=>((P.funcs[g]?).bind (·.body)).elim [] Code.globalsNamed)=d1x N [] gl:=funext fun g=>by
  rw [<- c8g h d7a g]
  cases P.funcs[g]? <;>rfl
 have e2:(fun g=>(P.funcs[g]?).bind fun fn=>if fn.body.isNone then entryReads.lookup fn.name else none)=d1x N none er:=funext fun g=>by
  rw [<- c8g h2 d7a g]
  cases P.funcs[g]? <;>rfl
 rw [e1,e2]
end
end Go.PL
namespace Go.PL
open Go Go.Proofs
def ldA:List (List (List Nat)):=[[[],[],[1],[4,5,6,9,8,7,10,11,12],[13,14,15,16,17],[18],[18],[19],[21,20],[23,23,22,24,25],[26,27],[27,28,29,30,31,31],[10,32,33,34],[35,18,35,18,35,18,35,18,35,18,35,18,35,18,35,18,35,18,35,18,35,18,35,18,35,18],[36],[38,37,35,18,35,18],[18,18,18,18,18,18,18],[18],[],[39],[],[],[],[40,22,24,25],[42,42,41]],
 [[43],[],[44,45,44],[46,10],[48,47],[28],[10,33,49],[50,51,52],[9,8,48],[55,54,53,56,57,49,58,59,60,61,62],[18],[18,18,18,18,18,18,63,18,18,18,18,64,18,18,18,18,18,18,18,18],[65,66,67,66,68,66,69,70,71,72],[73,74,35,18,74,35,18,74],[40],[75,76,78,78,78,78,79,79,80,79,79,79,79],[],[81,81],[40,40,83,83,82],[84],[],[85],[86,86,87,88],[30,89,90,91],[92,93,94,96,95,98,97]],
 [[100,101],[102],[103,104,105,106,106],[107],[],[49,92,8,96,108,95,109,109,110],[111,112,113,112],[92,99,114,116,115,117,112],[118,119,121,120,122,124,123],[112],[],[125],[42,42,41],[18,18,18,18,18],[],[126],[69,127],[128,129,127],[128,130,127],[131],[66,128,132,127,66,66,133,68,66,69,134],[],[129,135],[],[35,18,73,35,18,35,18,73,35,18,35,18,73,35,18,35,18,136,35,18,136,35,18,136,35,18,73,35,18,73,35,18,73,35,18,73,35,18,136,35,18,35,18,73,35,18,73,35,18,73,35,18,35,18,136,35,18]],
 [[],[77],[137],[],[78],[],[],[138],[40,139,139,139,75,139,139,139,139,139,139,139],[],[140,45,141,45,44,44],[28],[142],[42,42,41],[144,143],[42,42,42,42,42,42,41],[],[47],[7],[146,147,145],[149,148],[9,146,8,7,152,151,150,153,152,154,153,155],[156],[99],[158,157]],
 [[159,160],[161,163,162,165,164,166,166,168,167,166],[140,169,169,169,169],[],[170],[172,172,171],[],[173,52,174,175,176,177,178],[179,180],[181],[120,182],[],[],[],[183,184,8,185],[186,177],[10,183,184,8,187,188,189,190,191],[],[10,170],[118,192,151,193],[179,194,196,195],[197,157],[179,194,198],[105,199,201,200,202],[204,203,205]],
 [[206,206,207,207],[208],[],[],[209,210],[211,212],[],[213],[128,214,215,216,127],[69,133,69,68,69,68,128,130,127,69,67,66,217,69,133,66,217,66,217,69,133,66,217,127,66],[218,219,220,221,129,222,220,222,222,220,222],[73,73,73],[223],[],[],[],[84],[224,224,225,225],[224,226,227,228,229,230,231,232,143,143],[233,234],[235],[20,39],[],[],[]],
 [[236],[237],[],[8,7],[239,238],[153,8,152,154],[],[240],[183,184],[241,242],[140,244,243,245,243,246,159,247,248,243,247,247,248,243,247],[249,250,252,251,253],[254],[],[255],[],[253],[256],[],[],[26,44],[],[],[257],[175]],
 [[],[],[258,103,103,104,199,52,201,202,259,259,201,200,202],[258,105,199,201,201,200,202],[32,197],[194,196,195,260,261,262,263,195,263,123],[264,265,266],[179,194,267],[9,146],[268,8,269,268],[140,270,154,39],[271,52,272,274,273],[193,277,203,278,205,121,120,122,279],[],[42],[280,281],[],[282,283,151,284,285],[286,287],[288,205],[194,289,290,291,85,292,292,292,292,292,292,293,294,295],[260,260,296,297],[140,298,299],[300,301,255,302,303,302,303],[]],
 [[],[],[304],[],[],[140,305,306],[],[307,207,207],[308,309,310,311,310,211,213,312],[309,311],[],[311],[314,314,313],[315,315,315,316],[],[],[],[69,217,217,66,217,66,217,69,217,217,317,217,318,217],[],[],[214,215,216],[319,320],[321,322,323],[324,325,324,326,325,327],[]],
 [[328,225,225],[329,329],[330,331],[332,332,332,333],[],[],[],[],[],[],[],[285],[285,285],[334],[],[],[335,336],[],[338,337],[],[],[339,340],[341,342,343],[],[]],
 [[247],[344],[],[247,251,345,346],[],[],[],[347,347,105],[],[],[157],[348,350,349],[],[198,279],[351,265,352],[],[353],[300,354,256,302,303],[8,7],[355,145],[290,7],[357,356],[],[144,358],[42,42,276,276,275,42,41]],
 [[200,200,359,359,41],[259],[],[],[105,199,201,202],[],[360],[361,285],[282],[],[362,364,363],[146,270,365,51],[197,366,367,368,369,370,185],[],[39,371,372],[19],[140,140,85,85,373],[157,150],[52,374,85,85,376,375,377,151,150,378,177],[379],[352],[205,381,380,382],[383,296],[384],[]],
 [[385,101],[],[386,387,387],[],[388],[389],[390,391,392,393,394,395,395,395,395],[396,396,396],[],[],[309,311],[],[],[397,398,397],[],[],[399,400],[128,130,69,217,69,217,66,69,66,68,66,131,401,131,401,131,401,67],[402,403,131],[314,398],[319,314,404,404],[321],[322],[405,221,129,323],[406]],
 [[],[],[407],[408,408,408],[],[144],[],[333],[409,409,409],[],[],[335,410],[],[],[411,411,412],[],[341],[342],[413,414,415],[],[],[416,346,417],[],[350,150],[285]],
 [[285],[],[172,172,171,418],[419,420],[],[],[421],[],[422,423,424,425,426,427,428,429,358,358],[430,430],[431,431,431],[39,270,151],[],[432,433,434,144,435],[],[146,270,151,436,437],[],[366],[438],[438,376,375,185,438,439,157],[438,440,441],[144,442],[],[85,84,27],[146,443,350,151,270,151]],
 [[444,371],[445],[27,27],[40],[446,446,447,447,200,304],[448,449,151,450,451,361,151,452,453],[286,454,287],[455,456,458],[],[],[459,105],[460,460,461],[462,463,464,462,465,466,387,387,467,468,469,470,462],[234],[],[],[],[],[],[],[395],[],[304],[],[471]],
 [[399],[66,217,405,66,217,66],[],[],[],[],[],[],[],[],[],[472],[473,474,474],[475,339,159],[476],[343],[249,477],[],[],[],[478],[],[],[479,479],[330,331]],
 [[480,480,480,481],[],[],[],[],[],[],[],[],[],[491,492,493,494,495,496,497,498,435,435],[144,499],[42,42,42,41],[157,366],[371,372],[],[42],[500,501,502,503,504,505,506,507,508,442,442],[],[509],[],[],[105],[],[285]],
 [[],[510,254],[146,270,151,151,453,285],[285],[371,372],[511],[457],[512,513],[285,371,372,154,514],[515,516],[517,414],[],[],[518,519],[459,520,375,352],[387,468,521,462,522,462],[387,387,387],[523],[],[524,525,526,527,523],[],[],[528],[529],[410]],
 [[],[],[530],[531,531,531],[],[481],[532,532,532],[],[],[],[],[],[],[],[],[],[],[533,533],[534,535],[536,536,536,537],[],[],[],[],[538,539,540,541,542,543,544,545,499,499]],
 [[506],[546,546],[330,331],[547,547,547,548],[],[506,506,506],[81,81],[506,506],[506,506,506,506],[],[],[285],[154],[549,549,549,550,550],[],[551],[],[460],[249,385,462,462],[552],[553],[105],[105],[105,105,172,172,554,172,172,554,555,555],[105,105,172,172,554,172,172,554,556,555,557,557,172,172,558,171,559,418]],
 [[522,524],[105,105,172,172,172,172,560],[105,105,172,172,172,172,560],[561,562,563,564],[223],[],[],[],[],[144],[],[537],[565,565,565],[],[566,566],[330,331],[567,567,567,568],[],[],[],[],[506,506],[548],[569,569,569],[151,349]],
 [[151,570],[],[],[],[200],[],[571,571],[572,572],[304],[304],[171,171,554,554,418],[],[234,573,574],[],[575,576],[],[],[568],[577,577,577],[506],[285],[],[],[],[]],
 [[],[578,579],[],[],[],[],[],[],[],[],[],[],[],[],[],[],[],[],[],[],[],[],[],[],[]],
 [[],[],[],[],[],[],[],[],[]]]
def cl3:List Nat:=[3,4,13,35,18,14,36,63,64,15,38,73,74,136,37,65,126,208,308,309,310,311,211,213,315,316,399,471,400,312,66,69,131,127,67,128,129,209,210,68,130,212,314,313,397,304,388,234,398,70,132,133,214,215,216,134,217,317,401,405,318,402,403,71,72,135,218,219,220,221,319,320,404,222,321,322,323,16,17,5,6,9,23,40,75,76,77,137,223,324,406,325,326,327,407,78,79,80,22,24,42,81,41,25,43,83,139,82,138,8,21,20,7,19,39,10,26,27,44,84,45,11,28,46,85,140,141,29,48,30,89,144,233,143,224,226,329,227,330,331,228,332,333,409,229,230,231,232,90,91,47,86,87,142,225,328,408,88,31,33,49,92,93,94,146,147,145,235,96,152,151,237,285,362,364,363,432,433,434,435,491,492,533,493,534,535,494,536,537,565,495,496,497,498,150,236,153,154,239,238,334,155,95,149,148,98,99,158,183,184,268,269,355,157,240,97,156,12,32,50,100,159,241,335,336,410,242,160,244,243,338,337,245,246,339,411,472,528,561,562,573,574,563,564,575,576,578,579,412,473,529,474,340,247,341,342,343,413,475,414,476,415,248,101,161,249,250,252,251,344,253,345,346,416,477,530,417,163,162,254,165,164,255,166,168,167,256,51,102,169,52,103,104,170,105,172,171,106,34,55,108,179,197,298,384,299,180,194,288,205,305,389,306,390,391,392,393,394,395,196,260,296,381,286,270,290,365,436,499,538,539,566,540,541,567,568,577,542,543,544,545,437,454,371,442,500,506,501,546,502,503,547,548,569,504,505,507,508,372,287,366,367,368,438,369,376,445,375,444,509,185,439,370,440,441,380,448,449,450,451,510,361,452,453,382,455,511,456,457,512,513,549,349,550,570,458,514,297,383,195,289,291,373,292,293,374,443,350,377,378,177,258,199,201,202,259,200,294,379,446,447,295,352,418,261,348,262,263,198,300,385,459,515,551,516,301,302,386,460,517,461,387,462,463,518,519,552,464,520,553,465,468,521,522,466,467,523,554,555,469,524,556,571,557,572,558,559,525,526,560,527,470,303,279,123,109,181,264,351,265,266,353,419,420,478,531,110,120,182,267,354,54,53,107,173,257,347,174,175,176,178,56,111,112,113,57,114,116,187,193,277,203,278,121,122,188,189,190,280,281,360,431,191,115,186,271,357,356,421,272,274,276,275,359,430,273,358,422,423,479,424,425,480,481,532,426,427,428,429,117,58,118,119,192,282,283,284,124,204,59,60,61,125,206,207,307,396,62]
theorem g3d:Tryz.prog.funcs.toList.map Tryz.prog.leadsTo=(List.range 609).map (d1x 609 [] (two ldA [])):=by kernel_rfl
theorem g2r:Tryz.prog.closure 3=cl3:=f4t (N:=609) (s:=1917) g3d (by kernel_rfl) (by kernel_rfl)
theorem g3h:(Tryz.prog.funcs.toList.map fun fn=>if fn.ours||fn.body.isNone||fn.name== "runtime.NumGoroutine" then some fn.name else none)=(List.range 609).map (d1x 609 none (few none [(0,some "main.main"),(1,some "gosem.cut"),(138,some "internal/bytealg.Compare"),(280,some "slices.overlaps[pension/api.Right]"),(325,some "internal/bytealg.IndexString"),(406,some "internal/bytealg.IndexByteString"),(419,some "slices.overlaps[pension/conversion.remainder]"),(432,some "internal/reflectlite.ValueOf"),(433,some "internal/reflectlite.Swapper"),(434,some "(internal/reflectlite.Value).Len"),(482,some "internal/reflectlite.Swapper$1"),(483,some "internal/reflectlite.Swapper$2"),(484,some "internal/reflectlite.Swapper$3"),(485,some "internal/reflectlite.Swapper$4"),(486,some "internal/reflectlite.Swapper$5"),(487,some "internal/reflectlite.Swapper$6"),(488,some "internal/reflectlite.Swapper$7"),(489,some "internal/reflectlite.Swapper$8"),(490,some "internal/reflectlite.Swapper$9"),(571,some "math/bits.Add64"),(572,some "math/bits.Sub64"),(580,some "(runtime.boundsError).Error"),(581,some "(runtime.boundsError).RuntimeError"),(582,some "(runtime.errorString).Error"),(583,some "(runtime.errorString).RuntimeError"),(584,some "(runtime.plainError).Error"),(585,some "(runtime.plainError).RuntimeError"),(586,some "(runtime.errorAddressString).Error"),(587,some "(runtime.errorAddressString).RuntimeError"),(588,some "(*runtime.TypeAssertionError).Error"),(589,some "(*runtime.TypeAssertionError).RuntimeError"),(590,some "(*runtime.PanicNilError).Error"),(591,some "(*runtime.PanicNilError).RuntimeError"),(592,some "(*internal/abi.Type).Align"),(593,some "(internal/runtime/maps.unhashableTypeError).Error"),(594,some "(internal/runtime/maps.unhashableTypeError).RuntimeError"),(595,some "(pension/pensionref1.wide).less"),(596,some "(internal/reflectlite.flag).mustBeAssignable"),(597,some "(internal/reflectlite.rtype).String"),(598,some "(*internal/reflectlite.ValueError).Error"),(599,some "(*errors.errorString).Error"),(600,some "(internal/abi.Kind).String"),(601,some "var's door: gosem.cut.vars holds initialisers alone; see the manifest's row cutvarsword (look 11, test files too)"),(602,some "var's door: internal/strconv.uint64pow10 is laid by its own initialiser, plain data (look 11)"),(603,some "var's door: math/bits.deBruijn32tab is laid by its own initialiser, plain data (look 11)"),(604,some "var's door: math/bits.deBruijn64tab is laid by its own initialiser, plain data (look 11)"),(605,some "var's door: pension/family.down is laid by its own initialiser, plain data (look 11)"),(606,some "var's door: pension/reduction.down is laid by its own initialiser, plain data (look 11)"),(607,some "var's door: the look of gosem.cut.vars went over the folder that the caller named as the repository's root (look 11)")])):=by kernel_rfl
theorem inPlace3:Tryz.prog.inPlace 3=["internal/bytealg.IndexByteString","internal/bytealg.IndexString","internal/bytealg.Compare","internal/reflectlite.ValueOf","internal/reflectlite.Swapper","(internal/reflectlite.Value).Len","math/bits.Add64","math/bits.Sub64","slices.overlaps[pension/conversion.remainder]","slices.overlaps[pension/api.Right]"]:=(d8t g2r g3h).trans (by kernel_rfl)
theorem unfollowed3:Tryz.prog.unfollowed 3=true:=c8p g2r (g:=40) (by kernel_rfl) Tryz.func40 (by kernel_rfl)
theorem recurses3:Tryz.prog.recurses 3=true:=d4b unfollowed3
theorem g2s:(Tryz.prog.funcs.toList.map fun fn=>fn.body.elim [] Code.globalsNamed)=(List.range 609).map (d1x 609 [] (few [] [(107,[0,0]),(115,[1]),(223,[2,2,2]),(304,[3,4]),(562,[5]),(578,[6]),(579,[7]),(608,[6,7,5,0,1])])):=by kernel_rfl
theorem g40:(Tryz.prog.funcs.toList.map fun fn=>if fn.body.isNone then entryReads.lookup fn.name else none)=(List.range 609).map (d1x 609 none (few none [(325,some "internal/bytealg.MaxLen")])):=by kernel_rfl
theorem varsNamed3:Tryz.prog.varsNamed 3=["math/bits.divideError","math/bits.overflowError","internal/bytealg.MaxLen","internal/strconv.uint64pow10","math/bits.deBruijn32tab","math/bits.deBruijn64tab","pension/reduction.down","pension/family.down"]:=(d1o g2r g2s g40).trans (by kernel_rfl)
end Go.PL
