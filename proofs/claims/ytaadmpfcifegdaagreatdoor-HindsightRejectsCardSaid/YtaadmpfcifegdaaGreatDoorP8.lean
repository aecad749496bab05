/- Texts of the proof, joined. -/
import GoSem.ClaimFn
import Derived.KernelRfl
import Derived.Test.YtaadmpfcifegdaaGreatDoorProg
set_option linter.unusedVariables false
set_option linter.unusedSimpArgs false
set_option maxRecDepth 100000
namespace Go.PL
open Go
def e1u (ld:Nat -> List Nat):Nat -> List Nat -> List Nat -> Nat -> List Nat
 | 0,_,seen,_=>seen.reverse
 | _+1,[],seen,_=>seen.reverse
 | n+1,f::todo,seen,m=>match Nat.testBit m f with
   | true=>e1u ld n todo seen m
   | false=>e1u ld n (ld f++todo) (f::seen) (m ||| 2^f)
theorem d0x {P:Program} {ld:Nat -> List Nat} (h: ∀f,(P.funcs[f]?).elim [] P.leadsTo=ld f): ∀(n:Nat) (todo seen:List Nat) (m:Nat),(∀f,seen.contains f=m.testBit f) -> P.closureVia n todo seen=e1u ld n todo seen m
 | 0,todo,seen,m,_=>by cases todo<;>rfl
 | n+1,[],seen,m,_=>rfl
 | n+1,f::todo,seen,m,hm=>by
   have hf:=hm f
   show (if seen.contains f then P.closureVia n todo seen else P.closureVia n ((P.funcs[f]?).elim [] P.leadsTo++todo) (f::seen))=match Nat.testBit m f with
    | true=>e1u ld n todo seen m
    | false=>e1u ld n (ld f++todo) (f::seen) (m ||| 2^f)
   rw [hf]
   cases hb:Nat.testBit m f with
   | true=>rw [if_pos rfl];exact d0x h n todo seen m hm
   | false=>
     rw [if_neg (by simp),h f]
     refine d0x h n _ _ _ fun g=> ?_
     rw [List.contains_cons,hm g,Nat.testBit_or,Nat.testBit_two_pow,Bool.or_comm]
     congr 1
     by_cases e:g=f
     ·subst e;simp
     ·have e2: ¬f=g:=fun h=>e h.symm
      simp [e,e2]
theorem d1m {α:Type} {P:Program} {q:Func -> α} {d:α} {t:Nat -> α} {N:Nat} (h:P.funcs.toList.map q=(List.range N).map t) (hd: ∀f,N <= f -> t f=d) (f:Nat):(P.funcs[f]?).elim d q=t f:=by
 have e:(P.funcs.toList.map q)[f]? =((List.range N).map t)[f]? :=by rw [h]
 rw [List.getElem?_map,List.getElem?_map,Array.getElem?_toList] at e
 by_cases hf:f<N
 ·rw [List.getElem?_range hf] at e
  cases hp:P.funcs[f]? with
  | none=>rw [hp] at e;cases e
  | some fn=>rw [hp] at e;exact Option.some.inj e
 ·rw [List.getElem?_eq_none (by simp;omega)] at e
  cases hp:P.funcs[f]? with
  | none=>exact (hd f (by omega)).symm
  | some fn=>rw [hp] at e;cases e
def d5q {α:Type} (N:Nat) (d:α) (t:Nat -> α) (f:Nat):α:=bif Nat.ble N f then d else t f
def g6o {α:Type} (d:α):List α -> Nat -> α
 | [],_=>d
 | a::r,n=>match n with
   | 0=>a
   | n+1=>g6o d r n
def two {α:Type} (A:List (List α)) (d:α) (f:Nat):α:=g6o d (g6o [] A (f/25)) (f%25)
def few {α:Type} (d:α):List (Nat×α) -> Nat -> α
 | [],_=>d
 | q::r,n=>bif Nat.beq q.1 n then q.2 else few d r n
theorem e05 {α:Type} {N:Nat} {d:α} {t:Nat -> α} (f:Nat) (h:N <= f):d5q N d t f=d:=by
 unfold d5q
 rw [Nat.ble_eq_true_of_le h];rfl
section
variable {P:Program} {ld:Nat -> List Nat} {N s f:Nat} {C:List Nat}
theorem f7o (h:P.funcs.toList.map P.leadsTo=(List.range N).map (d5q N [] ld)) (hs:(((List.range N).map (d5q N [] ld)).map fun l=>l.length+1).sum=s) (hC:e1u (d5q N [] ld) (1+s) [f] [] 0=C):P.closure f=C:=by
 unfold Program.closure
 have e:(P.funcs.toList.map fun g=>(P.leadsTo g).length+1)=(P.funcs.toList.map P.leadsTo).map fun l=>l.length+1:=by rw [List.map_map];rfl
 rw [e,h,hs,d0x (d1m h e05) _ _ _ 0 (fun g=>by simp),hC]
theorem e26 (hc:P.closure f=C) {t:Nat -> Option String} (h:(P.funcs.toList.map fun fn=>if fn.ours||fn.body.isNone||fn.name== "runtime.NumGoroutine" then some fn.name else none)=(List.range N).map (d5q N none t)):P.inPlace f=C.filterMap (d5q N none t):=by
 unfold Program.inPlace
 rw [hc]
 congr 1
 funext g
 rw [<- d1m h e05 g]
 cases P.funcs[g]? <;>rfl
theorem d2i (hc:P.closure f=C) {g:Nat} {fn:Func} (hg:C.contains g=true) (hfn:P.funcs[g]? =some fn) (h:(match fn.body with | some c=>c.unfollowed | none=>entryCalls fn)=true):P.unfollowed f=true:=by
 unfold Program.unfollowed
 rw [hc,List.any_eq_true]
 refine ⟨g,by simpa using hg,?_⟩
 rw [hfn];exact h
theorem d7a (h:P.unfollowed f=true):P.recurses f=true:=by
 unfold Program.recurses
 rw [h];rfl
theorem d3k (hc:P.closure f=C) {gl:Nat -> List Nat} {er:Nat -> Option String} (h:(P.funcs.toList.map fun fn=>fn.body.elim [] Code.globalsNamed)=(List.range N).map (d5q N [] gl))
  (h2:(P.funcs.toList.map fun fn=>if fn.body.isNone then entryReads.lookup fn.name else none)=(List.range N).map (d5q N none er)):
  P.varsNamed f=(((C.flatMap (d5q N [] gl)).eraseDups).filterMap (fun g=>(P.globals[g]?).map (·.name))++C.filterMap (d5q N none er)).eraseDups:=by
 unfold Program.varsNamed
 rw [hc]
 have e1:(fun g=>((P.funcs[g]?).bind (·.body)).elim [] Code.globalsNamed)=d5q N [] gl:=funext fun g=>by
  rw [<- d1m h e05 g]
  cases P.funcs[g]? <;>rfl
 have e2:(fun g=>(P.funcs[g]?).bind fun fn=>if fn.body.isNone then entryReads.lookup fn.name else none)=d5q N none er:=funext fun g=>by
  rw [<- d1m h2 e05 g]
  cases P.funcs[g]? <;>rfl
 rw [e1,e2]
end
end Go.PL
namespace Go.PL
open Go Go.Proofs
def ldA:List (List (List Nat)):=[[[],[],[1],[4,5,6,7,7,8,9],[10,5,5,5],[],[11,12],[11,13],[14,15],[10,7,16,16,16],[17,18,19,20,21],[22,23,24,25,26,27],[28,29,30],[28,29,29,31,30],[22,32,33,34],[35],[6,36],[37,5,37,5,37,5,37,5,37,5,37,5,37,5,37,5,37,5,37,5,37,5,37,5,37,5],[38],[40,39,37,5,37,5],[5,5,5,5,5,5,5],[5],[41,42,43],[44,45,46],[47]],
 [[48,49,50,51,52,53],[54],[],[29,56,56,56,55],[],[57],[58,59],[],[],[60,6,7,61,36,60],[],[62,63],[5],[5,5,5,5,5,5,64,5,5,5,5,65,5,5,5,5,5,5,5,5],[66,67,68,67,69,67,70,71,72,73],[74,75,37,5,75,37,5,75],[76,77],[78],[79,80,81,82,82],[84,84,83,85,86],[88,87],[89,90,91,92],[93,49],[94,94],[95,96]],
 [[99,98,97,100,101,52,102,103,104,105,106],[],[107,108,109,111,110,113,112],[115],[],[],[116,116],[],[118,117],[],[119,120,121],[],[],[],[5,5,5,5,5],[],[122],[70,123],[124,125,123],[124,126,123],[127],[67,124,128,123,67,67,129,69,67,70,130],[],[125,131],[]],
 [[37,5,74,37,5,37,5,74,37,5,37,5,74,37,5,37,5,132,37,5,132,37,5,132,37,5,74,37,5,74,37,5,74,37,5,74,37,5,132,37,5,37,5,74,37,5,74,37,5,74,37,5,37,5,132,37,5],[133,134],[135,137,136,139,138,140,140,142,141,140],[143,144,144,144,144],[],[145],[147,147,146],[],[],[148,83,85,86],[56,56,55],[149],[],[],[47],[118,150],[56,56,56,56,56,56,55],[],[151],[49,152,153],[],[154,155,154],[156],[],[52,107,45,111,157,110,158,158,159]],
 [[160,161,162,161],[107,114,163,165,164,166,161],[167,168,170,169,171,173,172],[161],[],[174],[56,56,55],[175],[176],[178,179,177],[181,180],[44,178,45,176,184,183,182,185,184,186,185,187],[188],[114],[189,53],[],[],[190,191,192,193,194,195,196,197,198,117,117],[199,200],[],[],[],[201],[],[]],
 [[202,203],[204,205],[],[206],[124,207,208,209,123],[70,129,70,69,70,69,124,126,123,70,68,67,210,70,129,67,210,67,210,70,129,67,210,123,67],[211,212,213,214,125,215,213,215,215,213,215],[74,74,74],[216,217],[143,219,218,220,218,221,133,222,223,218,222,222,223,218,222],[224,225,227,226,228],[229],[],[230],[],[228],[231],[],[],[],[95,154],[],[],[232,233,235,235,235,235,236,236,237,236,236,236,236],[148,148,239,239,238]],
 [[240,241,242,243,244,245,246,247,150,150],[143,155,248,155,154,154],[143,249,250],[143,251,252],[253],[],[254,43,255,256,257,258,259],[260,261],[262],[169,263],[],[],[],[264,265,45,266],[267,258],[49,264,265,45,268,269,270,271,272],[],[49,145],[167,273,183,274],[260,275,277,276],[153,53],[260,275,278],[81,279,281,280,282],[284,283,152],[285,285,286,286]],
 [[287,287,288,289],[290],[291],[87,292],[],[],[],[293],[294],[],[45,176],[296,295],[185,45,184,186],[],[264,265],[196],[297,297],[298,299],[300,300,300,301],[],[196,196,196],[116,116],[196,196],[196,196,196,196],[]],
 [[],[302,303,304,305,304,204,206,306],[303,305],[],[305],[308,308,307],[309,309,309,310],[],[],[],[70,210,210,67,210,67,210,70,210,210,311,210,312,210],[],[],[207,208,209],[313,314],[315,316,317],[318,319],[],[321,320],[],[],[322,323],[324,325,326],[],[]],
 [[222],[327],[],[222,226,328,329],[],[],[],[],[234],[330],[],[235],[],[331],[148,332,332,332,232,332,332,332,332,332,332,332],[],[333,333],[298,299],[334,334,334,335],[],[],[],[],[253],[336]],
 [[337,338,339,340,341,342,342,342,342],[343],[],[],[344],[256],[],[],[345,79,79,80,279,43,281,282,346,346,281,280,282],[345,81,279,281,281,280,282],[22,153],[275,277,276,347,348,349,350,276,350,172],[351,352,353],[260,275,354],[44,178],[355,45,356,355],[143,357,186,292],[358,43,359,361,360],[274,364,283,365,152,170,169,171,366],[],[56],[367,368],[],[369,370,183,371,372],[373,374]],
 [[375,152],[275,376,377,378,151,379,379,379,379,379,379,380,381,382],[347,347,383,384],[385,386,230,387,388,387,388],[],[],[],[389],[],[],[],[390,286,286],[47],[391],[56,56,55],[292],[],[148],[372],[372,372],[392],[],[196,196],[118],[]],
 [[301],[393,393,393],[],[],[303,305],[],[],[394,395,394],[],[],[396,397],[124,126,70,210,70,210,67,70,67,69,67,127,398,127,398,127,398,68],[399,400,127],[308,395],[313,308,401,401],[315],[316],[402,214,125,317],[],[318,403],[],[],[404,404,405],[],[324]],
 [[325],[406,407,408],[],[],[409,329,410],[411],[],[],[],[335],[412,412,412],[],[],[],[],[],[],[342],[],[413,413,81],[],[],[53],[414,416,415],[]],
 [[278,366],[417,352,418],[],[419],[385,420,231,387,388],[45,176],[421,177],[377,176],[423,422],[],[118,424],[56,56,363,363,362,56,55],[280,280,425,425,55],[346],[],[],[81,279,281,282],[],[426],[427,372],[369],[],[428,430,429],[178,357,431,42],[153,432,433,434,435,436,266]],
 [[],[292,58,59],[290],[143,143,151,151,437],[53,182],[43,438,151,151,440,439,441,183,182,442,258],[443],[418],[152,445,444,446],[447,383],[448,77],[],[449,450,450],[],[451],[452,452,452],[240,240,453,453],[],[196],[389],[],[454],[396],[67,210,402,67,210,67],[]],
 [[],[],[],[],[455],[456,457,457],[458,322,133],[459],[326],[224,460],[],[461,462,461,463,462,464],[],[],[416,182],[372],[372],[],[147,147,146,465],[466,467],[],[],[468],[],[469,470,471,472,473,474,475,476,424,424]],
 [[477,477],[478,478,478],[292,357,183],[],[479,480,481,118,482],[],[178,357,183,483,484],[],[432],[485],[485,440,439,266,485,486,53],[485,487,488],[151,253,96],[178,489,416,183,357,183],[490,58],[491],[96,96],[148],[492,492,493,493,280,389],[494,495,183,496,497,427,183,498,499],[373,500,374],[501,502,504],[],[505,81],[506,506,507]],
 [[508,509,510,508,511,512,450,450,513,514,515,516,508],[200],[],[517,453,453],[],[518],[519],[403],[],[],[520],[521],[],[],[522],[],[],[523],[],[],[524,524],[298,299],[525,525,525,526],[],[]],
 [[],[],[],[],[],[],[],[536,537,538,539,540,541,542,543,482,482],[118,544],[56,56,56,55],[53,432],[58,59],[],[56],[],[545],[],[],[81],[],[372],[],[546,229],[178,357,183,183,499,372],[372]],
 [[58,59],[547],[503],[548,549],[372,58,59,186,550],[551,552],[553,407],[],[],[554,555],[505,556,439,418],[450,514,557,508,558,508],[450,450,450],[559],[],[560,561,562,563,559],[],[564,564,564],[565,566,567,568],[411],[],[],[],[569,569,569],[]],
 [[526],[570,570,570],[],[],[],[],[],[],[],[],[],[],[571,571],[572,573],[574,574,574,575],[],[],[],[],[576,577,578,579,580,581,582,583,544,544],[],[],[372],[186],[584,584,584,585,585]],
 [[],[586],[],[506],[224,448,508,508],[587],[588],[81],[81],[81,81,147,147,589,147,147,589,590,590],[81,81,147,147,589,147,147,589,591,590,592,592,147,147,593,146,594,465],[558,560],[81,81,147,147,147,147,595],[81,81,147,147,147,147,595],[],[],[200,596,597],[],[598,599],[],[],[],[118],[],[575]],
 [[600,600,600],[],[601,601],[298,299],[602,602,602,603],[],[],[],[],[183,415],[183,604],[],[],[],[280],[],[605,605],[606,606],[389],[389],[146,146,589,589,465],[],[],[],[607,608]],
 [[],[],[603],[609,609,609],[372],[],[],[],[],[],[],[],[],[],[],[],[],[],[],[],[],[],[],[],[]],
 [[],[],[],[],[],[],[],[],[],[],[],[],[],[],[]]]
def cl3:List Nat:=[3,4,10,17,37,5,18,38,64,65,19,40,74,75,132,39,66,122,201,302,303,304,305,204,206,309,310,396,454,397,306,67,70,127,123,68,124,125,202,203,69,126,205,308,307,394,389,451,200,395,71,128,129,207,208,209,130,210,311,398,402,312,399,400,72,73,131,211,212,213,214,313,314,401,215,315,316,317,20,21,6,11,22,41,76,133,216,318,319,403,217,134,143,219,218,321,320,220,221,322,404,455,518,565,566,596,597,567,568,598,599,607,608,405,456,519,411,461,521,462,463,464,522,457,323,222,324,325,326,406,458,407,459,408,223,77,135,224,225,227,226,327,228,328,329,409,460,520,410,137,136,229,139,138,230,140,142,141,231,42,78,144,43,79,80,145,95,154,253,81,147,146,82,23,44,84,148,232,233,234,330,235,236,237,83,85,56,116,55,86,149,239,332,238,331,45,88,87,46,89,47,93,151,155,248,49,96,90,118,199,150,240,241,333,242,298,299,243,334,335,412,244,245,246,247,91,92,24,25,48,94,152,249,336,250,337,338,339,340,341,342,153,251,343,252,50,99,52,107,175,287,288,391,453,517,564,289,108,176,290,292,109,178,179,177,291,111,184,183,294,372,428,430,429,479,480,481,482,536,537,571,538,572,573,539,574,575,600,540,541,542,543,182,293,185,186,296,295,392,187,110,181,180,113,114,189,264,265,355,356,421,53,115,112,188,157,260,261,275,375,277,347,383,445,373,357,377,431,483,544,576,577,601,578,579,602,603,609,580,581,582,583,484,500,58,117,190,196,191,297,192,193,300,301,393,194,195,197,198,59,374,432,433,434,485,435,440,491,439,490,545,266,486,436,487,488,444,494,495,496,497,546,427,498,499,446,501,547,502,503,548,549,584,415,585,604,504,550,384,447,276,376,378,437,379,380,438,489,416,441,442,258,345,279,281,282,346,280,381,443,492,493,382,418,465,348,414,349,350,278,385,448,505,551,586,552,386,387,449,506,553,507,450,508,509,554,555,587,510,556,588,511,514,557,558,512,513,559,589,590,515,560,591,605,592,606,593,594,561,562,595,563,516,388,366,172,158,262,351,417,352,353,419,466,467,523,569,159,169,263,354,420,98,97,156,254,344,413,255,256,257,259,100,160,161,162,101,163,165,268,274,364,283,365,170,171,269,270,271,367,368,426,478,272,164,267,358,423,422,468,359,361,363,362,425,477,360,424,469,470,524,471,472,525,526,570,473,474,475,476,166,102,167,168,273,369,370,371,173,284,103,104,105,174,285,286,390,452,106,51,26,54,27,12,28,29,30,57,7,13,31,8,14,32,33,34,60,119,120,121,61,36,62,63,15,35,9,16]
theorem g5n:Tryz.prog.funcs.toList.map Tryz.prog.leadsTo=(List.range 640).map (d5q 640 [] (two ldA [])):=by kernel_rfl
theorem g5b:Tryz.prog.closure 3=cl3:=f7o (N:=640) (s:=1997) g5n (by kernel_rfl) (by kernel_rfl)
theorem g6g:(Tryz.prog.funcs.toList.map fun fn=>if fn.ours||fn.body.isNone||fn.name== "runtime.NumGoroutine" then some fn.name else none)=(List.range 640).map (d5q 640 none (few none [(0,some "main.main"),(1,some "gosem.cut"),(331,some "internal/bytealg.Compare"),(367,some "slices.overlaps[pension/api.Right]"),(462,some "internal/bytealg.IndexString"),(466,some "slices.overlaps[pension/conversion.remainder]"),(479,some "internal/reflectlite.ValueOf"),(480,some "internal/reflectlite.Swapper"),(481,some "(internal/reflectlite.Value).Len"),(521,some "internal/bytealg.IndexByteString"),(527,some "internal/reflectlite.Swapper$1"),(528,some "internal/reflectlite.Swapper$2"),(529,some "internal/reflectlite.Swapper$3"),(530,some "internal/reflectlite.Swapper$4"),(531,some "internal/reflectlite.Swapper$5"),(532,some "internal/reflectlite.Swapper$6"),(533,some "internal/reflectlite.Swapper$7"),(534,some "internal/reflectlite.Swapper$8"),(535,some "internal/reflectlite.Swapper$9"),(605,some "math/bits.Add64"),(606,some "math/bits.Sub64"),(610,some "(runtime.boundsError).Error"),(611,some "(runtime.boundsError).RuntimeError"),(612,some "(runtime.errorString).Error"),(613,some "(runtime.errorString).RuntimeError"),(614,some "(runtime.plainError).Error"),(615,some "(runtime.plainError).RuntimeError"),(616,some "(runtime.errorAddressString).Error"),(617,some "(runtime.errorAddressString).RuntimeError"),(618,some "(*runtime.TypeAssertionError).Error"),(619,some "(*runtime.TypeAssertionError).RuntimeError"),(620,some "(*runtime.PanicNilError).Error"),(621,some "(*runtime.PanicNilError).RuntimeError"),(622,some "(*internal/abi.Type).Align"),(623,some "(internal/runtime/maps.unhashableTypeError).Error"),(624,some "(internal/runtime/maps.unhashableTypeError).RuntimeError"),(625,some "(*pension/account.Account).Settled"),(626,some "(pension/pensionref1.wide).less"),(627,some "(internal/reflectlite.flag).mustBeAssignable"),(628,some "(internal/reflectlite.rtype).String"),(629,some "(*internal/reflectlite.ValueError).Error"),(630,some "(*errors.errorString).Error"),(631,some "(internal/abi.Kind).String"),(632,some "var's door: gosem.cut.vars holds initialisers alone; see the manifest's row cutvarsword (look 11, test files too)"),(633,some "var's door: internal/strconv.uint64pow10 is laid by its own initialiser, plain data (look 11)"),(634,some "var's door: math/bits.deBruijn32tab is laid by its own initialiser, plain data (look 11)"),(635,some "var's door: math/bits.deBruijn64tab is laid by its own initialiser, plain data (look 11)"),(636,some "var's door: pension/family.down is laid by its own initialiser, plain data (look 11)"),(637,some "var's door: pension/reduction.down is laid by its own initialiser, plain data (look 11)"),(638,some "var's door: the look of gosem.cut.vars went over the folder that the caller named as the repository's root (look 11)")])):=by kernel_rfl
theorem inPlace3:Tryz.prog.inPlace 3=["internal/bytealg.IndexByteString","internal/bytealg.IndexString","internal/bytealg.Compare","internal/reflectlite.ValueOf","internal/reflectlite.Swapper","(internal/reflectlite.Value).Len","math/bits.Add64","math/bits.Sub64","slices.overlaps[pension/conversion.remainder]","slices.overlaps[pension/api.Right]"]:=(e26 g5b g6g).trans (by kernel_rfl)
theorem unfollowed3:Tryz.prog.unfollowed 3=true:=d2i g5b (g:=320) (by kernel_rfl) Tryz.func320 (by kernel_rfl)
theorem recurses3:Tryz.prog.recurses 3=true:=d7a unfollowed3
theorem g6a:(Tryz.prog.funcs.toList.map fun fn=>fn.body.elim [] Code.globalsNamed)=(List.range 640).map (d5q 640 [] (few [] [(156,[0,0]),(164,[1]),(389,[3,4]),(411,[2,2,2]),(566,[5]),(607,[6]),(608,[7]),(639,[6,7,5,0,1])])):=by kernel_rfl
theorem g6k:(Tryz.prog.funcs.toList.map fun fn=>if fn.body.isNone then entryReads.lookup fn.name else none)=(List.range 640).map (d5q 640 none (few none [(462,some "internal/bytealg.MaxLen")])):=by kernel_rfl
theorem varsNamed3:Tryz.prog.varsNamed 3=["math/bits.divideError","math/bits.overflowError","internal/strconv.uint64pow10","math/bits.deBruijn32tab","math/bits.deBruijn64tab","internal/bytealg.MaxLen","pension/reduction.down","pension/family.down"]:=(d3k g5b g6a g6k).trans (by kernel_rfl)
end Go.PL
