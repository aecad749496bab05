/- Texts of the proof, joined. -/
import Derived.Test.YtllaeijbhadiiaaGreatDoorP10
import GoSem.ClaimFn
import Derived.KernelRfl
import Derived.Test.YtllaeijbhadiiaaGreatDoorProg
import Derived.Test.YtllaeijbhadiiaaGreatDoorRows
import Derived.JoinedCond
set_option linter.unusedVariables false
set_option linter.unusedSimpArgs false
set_option maxRecDepth 100000
namespace Go.PL
open Go
def e5i(ld:Nat->List Nat):Nat->List Nat->List Nat->Nat->List Nat|0,_,seen,_=>seen.reverse|_+1,[],seen,_=>seen.reverse|n+1,f::todo,seen,m=>match Nat.testBit m f with|true=>e5i ld n todo seen m|false=>e5i ld n (ld f++todo) (f::seen) (m|||2^f)
theorem d4y{P:Program}{ld:Nat->List Nat}(h:∀f,(P.funcs[f]?).elim [] P.leadsTo=ld f):∀(n:Nat)(todo seen:List Nat)(m:Nat),(∀f,seen.contains f=m.testBit f)->P.closureVia n todo seen=e5i ld n todo seen m|0,todo,seen,m,_=>by cases todo<;>rfl|n+1,[],seen,m,_=>rfl|n+1,f::todo,seen,m,hm=>by have hf:=hm f;show(if seen.contains f then P.closureVia n todo seen else P.closureVia n ((P.funcs[f]?).elim [] P.leadsTo++todo) (f::seen))=match Nat.testBit m f with|true=>e5i ld n todo seen m|false=>e5i ld n (ld f++todo) (f::seen) (m|||2^f);rw[hf];cases hb:Nat.testBit m f with|true=>rw[if_pos rfl];exact d4y h n todo seen m hm|false=>
     rw[if_neg (by simp),h f];refine d4y h n _ _ _ λg=>?_;rw[List.contains_cons,hm g,Nat.testBit_or,Nat.testBit_two_pow,Bool.or_comm];congr 1;by_cases e:g=f;.subst e;simp
     .have e2:¬f=g:=λh=>e h.symm;simp[e,e2]
theorem d40{α:Type}{P:Program}{q:Func->α}{d:α}{t:Nat->α}{N:Nat}(h:P.funcs.toList.map q=(List.range N).map t)(hd:∀f,N<=f->t f=d)(f:Nat):(P.funcs[f]?).elim d q=t f:=by
 have e:(P.funcs.toList.map q)[f]?=((List.range N).map t)[f]?:=by rw[h]
 rw[List.getElem?_map,List.getElem?_map,Array.getElem?_toList]at e;by_cases hf:f<N;.rw[List.getElem?_range hf]at e;cases hp:P.funcs[f]?with|none=>rw[hp]at e;cases e|some fn=>rw[hp]at e;exact qH e
 .rw[List.getElem?_eq_none (by simp;omega)]at e;cases hp:P.funcs[f]?with|none=>exact(hd f (by omega)).symm|some fn=>rw[hp]at e;cases e
def d6a{α:Type}(N:Nat)(d:α)(t:Nat->α)(f:Nat):α:=bif Nat.ble N f then d else t f
def h2m{α:Type}(d:α):List α->Nat->α|[],_=>d|a::r,n=>match n with|0=>a|n+1=>h2m d r n
def two{α:Type}(A:List (List α))(d:α)(f:Nat):α:=h2m d (h2m [] A (f/25)) (f%25)
def few{α:Type}(d:α):List (Nat×α)->Nat->α|[],_=>d|q::r,n=>bif Nat.beq q.1 n then q.2else few d r n
theorem e3l{α:Type}{N:Nat}{d:α}{t:Nat->α}(f:Nat)(h:N<=f):d6a N d t f=d:=by unfold d6a;rw[Nat.ble_eq_true_of_le h];rfl
section
variable {P:Program} {ld:Nat -> List Nat} {N s f:Nat} {C:List Nat}
theorem g5y(h:P.funcs.toList.map P.leadsTo=(List.range N).map (d6a N [] ld))(hs:(((List.range N).map (d6a N [] ld)).map λl=>l.length+1).sum=s)(hC:e5i (d6a N [] ld) (1+s) [f] [] 0=C):P.closure f=C:=by
 unfold Program.closure;have e:(P.funcs.toList.map λg=>(P.leadsTo g).length+1)=(P.funcs.toList.map P.leadsTo).map λl=>l.length+1:=by rw[List.map_map];rfl
 rw[e,h,hs,d4y (d40 h e3l) _ _ _ 0 (λg=>by simp),hC]
theorem e55(hc:P.closure f=C){t:Nat->Option String}(h:(P.funcs.toList.map λfn=>if fn.ours||fn.body.isNone||fn.name== "runtime.NumGoroutine"then some fn.name else none)=(List.range N).map (d6a N none t)):P.inPlace f=C.filterMap (d6a N none t):=by unfold Program.inPlace;rw[hc];congr 1;funext g;rw[<-d40 h e3l g];cases P.funcs[g]?<;>rfl
theorem d4u(hc:P.closure f=C){g:Nat}{fn:Func}(hg:C.contains g=true)(hfn:P.funcs[g]?=some fn)(h:(match fn.body with|some c=>c.unfollowed|none=>entryCalls fn)=true):P.unfollowed f=true:=by unfold Program.unfollowed;rw[hc,List.any_eq_true];refine⟨g,by simpa using hg,?_⟩;rw[hfn];exact h
theorem d9l(h:P.unfollowed f=true):P.recurses f=true:=by unfold Program.recurses;rw[h];rfl
theorem d79(hc:P.closure f=C){gl:Nat->List Nat}{er:Nat->Option String}(h:(P.funcs.toList.map λfn=>fn.body.elim [] Code.globalsNamed)=(List.range N).map (d6a N [] gl))(h2:(P.funcs.toList.map λfn=>if fn.body.isNone then entryReads.lookup fn.name else none)=(List.range N).map (d6a N none er)):P.varsNamed f=(((C.flatMap (d6a N [] gl)).eraseDups).filterMap (λg=>(P.globals[g]?).map (·.name))++C.filterMap (d6a N none er)).eraseDups:=by
 unfold Program.varsNamed;rw[hc];have e1:(λg=>((P.funcs[g]?).bind (·.body)).elim [] Code.globalsNamed)=d6a N [] gl:=funext λg=>by rw[<-d40 h e3l g];cases P.funcs[g]?<;>rfl
 have e2:(λg=>(P.funcs[g]?).bind λfn=>if fn.body.isNone then entryReads.lookup fn.name else none)=d6a N none er:=funext λg=>by rw[<-d40 h2 e3l g];cases P.funcs[g]?<;>rfl
 rw[e1,e2]
end
end Go.PL
namespace Go.PL
open Go Go.Proofs
def ldA:List (List (List Nat)):=[[[],[],[1],[4,5,6,8,7,9],[10,8],[11,13,12,14],[8],[15],[],[15],[17,16,19,18,19,18],[18,18,18,18,18,18,20,18,18,18,18,21,18,18,18,18,18,18,18,18],[],[19,18,19,18,19,18,19,18,19,18,19,18,19,18,19,18,19,18,19,18,19,18,19,18,19,18],[22,23,23,24],[25,26],[27,28,29,28,30,28,31,32,33,34],[35,36,19,18,36,19,18,36],[],[18],[18,18,18,18,18],[],[21,37,37,37,37,37,37],[],[22,22,23,38,38]],[[39,40],[41,42,43,44,45,46,47,43,47,48],[49],[31,50],[51,52,50],[51,53,50],[54],[28,51,55,50,28,28,56,30,28,31,57],[],[52,58],[],[19,18,35,19,18,19,18,35,19,18,19,18,35,19,18,19,18,59,19,18,59,19,18,59,19,18,35,19,18,35,19,18,35,19,18,35,19,18,59,19,18,19,18,35,19,18,35,19,18,35,19,18,19,18,59,19,18],[60],[22,61,61,61,61,61,61,21,61,61,61,61,61,61,61,61],[62,63,64],[65,66,67],[68,69],[44,44,70,71],[41,72,73,74,75,76,76,76,76,76,76,77,78,79],[80],[81,83,82],[],[84,85],[86,87,89,88,90],[91]],[[],[],[92,93],[94,95],[],[96],[51,97,98,99,50],[31,56,31,30,31,30,51,53,50,31,29,28,100,31,56,28,100,28,100,31,56,28,100,50,28],[101,102,103,104,52,105,103,105,105,103,105],[35,35,35],[21],[],[106,107],[108],[109,110,86,111,111],[],[112],[],[],[65,113,114],[69,116,115,117],[118,70],[119,120,121],[122],[65,65,75,75,123]],[[65,124,125,124,126,126],[80,127],[64,128,75,75,130,129,132,131,127,134,133],[135],[136],[137],[83,127],[138],[138],[139,141,140,142,143,142,143],[86,87,89,90],[145,145,144],[],[],[],[146],[147,148,149,150,149,94,96,151],[148,150],[],[150],[153,153,152],[154,154,154,155],[],[],[]],[[31,100,100,28,100,28,100,31,100,100,156,100,157,100],[],[],[97,98,99],[158,159],[160,161,162],[163,164],[165,167,166,169,168,170,170,172,171,170],[65,173,173,173,173],[],[174],[],[],[175],[176,177,178,179,180,181,181,181,181],[182,183,131,184,185,186,131,187,188],[189,190,191],[192,193,195],[],[196],[198,197],[],[119],[75,199,200],[]],[[199],[199],[201],[202,203,83,131,204,131],[205,120],[206],[207],[200,200],[208,109,109,110,87,64,89,90,209,209,89,88,90],[196],[210,210,211,211,88,146],[145,145,144,212],[],[213,215,214],[216,107],[],[],[217,218,218],[],[],[],[219],[],[],[148,150]],[[],[],[220,221,220],[],[],[222,223],[51,53,31,100,31,100,28,31,28,30,28,54,224,54,224,54,224,29],[225,226,54],[153,221],[158,153,227,227],[160],[161],[228,104,52,162],[229,230],[65,232,231,233,231,234,163,235,236,231,235,235,236,231,235],[237,238,240,239,241],[242],[],[140],[],[241],[243],[],[],[244,126]],[[],[],[],[],[],[],[181],[],[138],[],[245,242],[119,204,131],[202,204,131,131,188,138],[138],[202,204,246,63],[120,121],[40,247,248,249,250,251,252],[253],[194],[254,255],[138,120,121,256,257],[258,259,261,261,261,261,262,262,263,262,262,262,262],[264,265,266,267,268,269,270,271,272,197,197],[273,274],[]],[[126,124,126],[138],[275,119],[],[73,276],[277],[],[138,138],[],[],[],[86],[],[],[278,279,280,198,281],[],[282,86],[283,283,284],[285,286,287,285,288,289,218,218,290,291,292,293,285],[274],[146],[],[294],[222],[28,100,228,28,100,28]],[[],[],[],[],[295,296],[],[298,297],[],[],[299,300],[301,302,303],[],[],[235],[304],[],[235,239,305,306],[],[],[],[],[202,204,131,307,308],[],[247],[311]],[[311,130,129,252,311,312,80],[311,313,314],[65,204,256,119],[138],[256],[315,315,315,316,316],[318,317],[],[],[260],[319],[],[261],[],[270],[320,320],[321,322],[323,323,323,324],[],[270,270,270],[325,325],[270,270],[270,270,270,270],[],[]],[[],[122],[],[],[],[],[335,336,337,338,339,340,341,342,281,281],[343,344],[346,345],[],[],[347,348],[282,349,129,136],[218,291,350,285,351,285],[218,218,218],[352],[],[353,354,355,356,352],[],[],[],[295,357],[],[],[358,358,359]],[[],[301],[302],[360,345,361],[],[],[362,306,363],[198,364],[310,310,310,309],[],[325,325],[80,247],[120,121],[],[310],[131,82],[131,365],[366],[],[367],[270,270],[198],[],[324],[368,368,368]],[[],[],[],[],[],[],[],[],[],[],[],[369,369],[370,371],[372,372,372,373],[],[],[],[],[374],[],[375],[283],[237,216,285,285],[376],[377]],[[86],[86],[86,86,145,145,378,145,145,378,379,379],[86,86,145,145,378,145,145,378,380,379,381,381,145,145,382,144,383,212],[351,353],[86,86,145,145,145,145,384],[86,86,145,145,145,145,384],[],[385],[386,387,387],[388,299,163],[303],[237,389],[],[390,391,392,393,394,395,396,397,364,364],[138],[],[398,399,398,400,399,401],[270],[],[198],[],[373],[402,402,402],[]],[[],[],[],[88],[],[403,403],[404,404],[146],[146],[144,144,378,378,212],[405],[406],[357],[],[407],[],[408,408],[321,322],[409,409,409,410],[],[],[],[],[411],[]],[[],[412],[],[],[],[413,414,415,416],[367],[],[],[410],[417,417,417],[],[],[],[274,418,419],[],[420,421],[],[],[],[],[422,423],[],[],[]],[[],[],[],[],[],[],[],[],[],[],[],[],[],[],[],[],[],[],[],[],[],[],[],[],[]],[[]]]
def cl3:List Nat:=[3,4,10,17,35,36,19,18,59,16,27,49,91,147,148,149,150,94,96,154,155,222,294,223,151,28,31,54,50,29,51,52,92,93,30,53,95,153,152,220,146,219,274,221,32,55,56,97,98,99,57,100,156,224,228,157,225,226,33,34,58,101,102,103,104,158,159,227,105,160,161,162,8,5,11,20,21,13,12,14,22,37,60,23,24,38,61,6,7,15,25,39,62,106,163,229,295,296,357,230,164,65,232,231,298,297,233,234,299,358,385,405,413,414,418,419,415,416,420,421,422,423,359,386,406,367,398,411,399,400,401,412,387,300,235,301,302,303,360,388,345,375,361,236,107,165,237,238,240,239,304,241,305,306,362,389,407,363,167,166,242,169,168,140,170,172,171,243,63,108,173,64,109,110,174,244,126,199,86,145,144,111,40,66,112,67,26,41,68,69,113,175,114,176,177,178,179,180,181,42,44,80,137,70,116,189,202,275,119,196,258,259,260,319,261,262,263,204,73,122,276,246,131,207,138,213,215,214,278,279,280,198,273,281,335,336,369,337,370,371,338,372,373,402,339,340,341,342,307,364,390,391,408,392,321,322,393,409,410,417,394,395,396,397,308,310,325,309,190,120,197,264,270,265,320,266,267,323,324,368,268,269,271,272,121,191,247,248,249,311,250,130,206,129,205,277,252,256,318,317,366,312,251,313,314,115,182,183,184,185,245,186,187,188,117,192,253,193,194,254,255,315,82,316,365,195,257,71,118,43,72,74,75,124,125,123,200,76,127,201,77,128,203,83,132,134,133,208,87,89,90,209,88,78,135,210,211,79,136,212,45,81,46,47,84,139,216,282,343,374,344,141,142,217,283,346,284,218,285,286,347,348,376,287,349,377,288,291,350,351,289,290,352,378,379,292,353,380,403,381,404,382,383,354,355,384,356,293,143,85,48,9]
theorem h3o:Tryz.prog.funcs.toList.map Tryz.prog.leadsTo=(List.range 451).map (d6a 451 [] (two ldA [])):=by kernel_rfl
theorem h4e:Tryz.prog.closure 3=cl3:=g5y (N:=451) (s:=1420) h3o (by kernel_rfl) (by kernel_rfl)
theorem h46:(Tryz.prog.funcs.toList.map λfn=>if fn.ours||fn.body.isNone||fn.name== "runtime.NumGoroutine"then some fn.name else none)=(List.range 451).map (d6a 451 none (few none [(0,some "main.main"),(1,some "gosem.cut"),(278,some "internal/reflectlite.ValueOf"),(279,some "internal/reflectlite.Swapper"),(280,some "(internal/reflectlite.Value).Len"),(326,some "internal/reflectlite.Swapper$1"),(327,some "internal/reflectlite.Swapper$2"),(328,some "internal/reflectlite.Swapper$3"),(329,some "internal/reflectlite.Swapper$4"),(330,some "internal/reflectlite.Swapper$5"),(331,some "internal/reflectlite.Swapper$6"),(332,some "internal/reflectlite.Swapper$7"),(333,some "internal/reflectlite.Swapper$8"),(334,some "internal/reflectlite.Swapper$9"),(399,some "internal/bytealg.IndexString"),(403,some "math/bits.Add64"),(404,some "math/bits.Sub64"),(411,some "internal/bytealg.IndexByteString"),(424,some "(runtime.boundsError).Error"),(425,some "(runtime.boundsError).RuntimeError"),(426,some "(runtime.errorString).Error"),(427,some "(runtime.errorString).RuntimeError"),(428,some "(runtime.plainError).Error"),(429,some "(runtime.plainError).RuntimeError"),(430,some "(runtime.errorAddressString).Error"),(431,some "(runtime.errorAddressString).RuntimeError"),(432,some "(*runtime.TypeAssertionError).Error"),(433,some "(*runtime.TypeAssertionError).RuntimeError"),(434,some "(*runtime.PanicNilError).Error"),(435,some "(*runtime.PanicNilError).RuntimeError"),(436,some "(*internal/abi.Type).Align"),(437,some "(internal/runtime/maps.unhashableTypeError).Error"),(438,some "(internal/runtime/maps.unhashableTypeError).RuntimeError"),(439,some "(pension/pensionref1.wide).less"),(440,some "(internal/reflectlite.flag).mustBeAssignable"),(441,some "(internal/reflectlite.rtype).String"),(442,some "(*internal/reflectlite.ValueError).Error"),(443,some "(*errors.errorString).Error"),(444,some "(internal/abi.Kind).String"),(445,some "var's door: gosem.cut.vars holds initialisers alone; see the manifest's row cutvarsword (look 11, test files too)"),(446,some "var's door: internal/strconv.uint64pow10 is laid by its own initialiser, plain data (look 11)"),(447,some "var's door: math/bits.deBruijn32tab is laid by its own initialiser, plain data (look 11)"),(448,some "var's door: math/bits.deBruijn64tab is laid by its own initialiser, plain data (look 11)"),(449,some "var's door: the look of gosem.cut.vars went over the folder that the caller named as the repository's root (look 11)")])):=by kernel_rfl
theorem inPlace3:Tryz.prog.inPlace 3=["internal/bytealg.IndexByteString","internal/bytealg.IndexString","internal/reflectlite.ValueOf","internal/reflectlite.Swapper","(internal/reflectlite.Value).Len","math/bits.Add64","math/bits.Sub64"]:=(e55 h4e h46).trans (by kernel_rfl)
theorem unfollowed3:Tryz.prog.unfollowed 3=true:=d4u h4e (g:=297) (by kernel_rfl) Tryz.func297 (by kernel_rfl)
theorem recurses3:Tryz.prog.recurses 3=true:=d9l unfollowed3
theorem h2p:(Tryz.prog.funcs.toList.map λfn=>fn.body.elim [] Code.globalsNamed)=(List.range 451).map (d6a 451 [] (few [] [(146,[0,1]),(367,[2,2,2]),(414,[3]),(422,[4]),(423,[5]),(450,[4,5,3])])):=by kernel_rfl
theorem h47:(Tryz.prog.funcs.toList.map λfn=>if fn.body.isNone then entryReads.lookup fn.name else none)=(List.range 451).map (d6a 451 none (few none [(399,some "internal/bytealg.MaxLen")])):=by kernel_rfl
theorem varsNamed3:Tryz.prog.varsNamed 3=["math/bits.divideError","math/bits.overflowError","internal/strconv.uint64pow10","math/bits.deBruijn32tab","math/bits.deBruijn64tab","internal/bytealg.MaxLen"]:=(d79 h4e h2p h47).trans (by kernel_rfl)
end Go.PL
namespace Go.Proofs.YtllaeijbhadiiaaGreatDoor.awardsBetter
open Go
theorem named:Tryz.pinned.checked.prog.funcNamed Rows.awardsBetterRow.func=some 3:=by kernel_rfl
theorem pe:Tryz.pinned.checked.prog=Tryz.prog:=rfl
theorem j2:(laidOutB Tryz.pinned.checked.prog)=true:=by kernel_rfl
theorem j3:(mapsRowed Tryz.pinned.checked.prog)=true:=by kernel_rfl
theorem j7:(Tryz.pinned.checked.prog.stops==[])=true:=by kernel_rfl
theorem j9:(Tryz.pinned.checked.prog.stopKnobs==[])=true:=by kernel_rfl
theorem j10:(Rows.awardsBetterRow.inPlace==Tryz.pinned.checked.prog.inPlace 3)=true:=by rw[pe,Go.PL.inPlace3];kernel_rfl
theorem j11:(Rows.awardsBetterRow.unfollowed==Tryz.pinned.checked.prog.unfollowed 3)=true:=by rw[pe,Go.PL.unfollowed3];rfl
theorem j12:(Rows.awardsBetterRow.recurses==Tryz.pinned.checked.prog.recurses 3)=true:=by rw[pe,Go.PL.recurses3];rfl
theorem j13:(Rows.awardsBetterRow.named==Tryz.pinned.checked.prog.varsNamed 3)=true:=by rw[pe,Go.PL.varsNamed3];kernel_rfl
theorem j23:(Rows.awardsBetterRow.plainKeys==Tryz.pinned.checked.prog.plainKeys)=true:=by kernel_rfl
theorem j25:(Tryz.pinned.checked.prog.stopsHeard)=true:=by kernel_rfl
theorem g96:joinedFacts Tryz.pinned.checked.prog 3 Tryz.f3 (OpenSpec.ofChange Rows.awardsBetterSpec).bare Rows.awardsBetterRow=true:=by
 unfold joinedFacts;simp only[qB];and_intros;.kernel_rfl
 .exact j2
 .exact j3
 .kernel_rfl
 .kernel_rfl
 .kernel_rfl
 .exact j7
 .kernel_rfl
 .exact j9
 .exact j10
 .exact j11
 .exact j12
 .exact j13
 .kernel_rfl
 .kernel_rfl
 .kernel_rfl
 .kernel_rfl
 .kernel_rfl
 .kernel_rfl
 .kernel_rfl
 .kernel_rfl
 .kernel_rfl
 .exact j23
 .kernel_rfl
 .exact j25
 .kernel_rfl
 .kernel_rfl
 .kernel_rfl
 .kernel_rfl
 .kernel_rfl
 .kernel_rfl
 .kernel_rfl
theorem inst:Tryz.f3.isInstance Tryz.pinned.checked.prog Rows.awardsBetterRow.origin Rows.awardsBetterRow.targs:=of_decide_eq_true (by kernel_rfl)
theorem wrap:Tryz.f3.isWrapper Tryz.pinned.checked.prog Rows.awardsBetterRow.wrapper Rows.awardsBetterRow.mainSum:=by unfold Func.isWrapper;first|(rw[if_pos (by decide+kernel)];kernel_rfl)|(rw[if_neg (by decide+kernel)];exact⟨rfl,rfl⟩)
end Go.Proofs.YtllaeijbhadiiaaGreatDoor.awardsBetter
