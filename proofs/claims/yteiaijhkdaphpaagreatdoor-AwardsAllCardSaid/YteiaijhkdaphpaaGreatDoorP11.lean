/- Texts of the proof, joined. -/
import Derived.Test.YteiaijhkdaphpaaGreatDoorP10
import GoSem.ClaimFn
import Derived.KernelRfl
import Derived.Test.YteiaijhkdaphpaaGreatDoorProg
import Derived.Test.YteiaijhkdaphpaaGreatDoorRows
import Derived.JoinedCond
set_option linter.unusedVariables false
set_option linter.unusedSimpArgs false
set_option maxRecDepth 100000
namespace Go.PL
open Go
def e5i(ld:Nat->List Nat):Nat->List Nat->List Nat->Nat->List Nat|0,_,seen,_=>seen.reverse|_+1,[],seen,_=>seen.reverse|n+1,f::todo,seen,m=>match Nat.testBit m f with|true=>e5i ld n todo seen m|false=>e5i ld n (ld f++todo) (f::seen) (m|||2^f)
theorem d4y{P:Program}{ld:Nat->List Nat}(h:∀f,(P.funcs[f]?).elim [] P.leadsTo=ld f):∀(n:Nat)(todo seen:List Nat)(m:Nat),(∀f,seen.contains f=m.testBit f)->P.closureVia n todo seen=e5i ld n todo seen m|0,todo,seen,m,_=>by cases todo<;>rfl|n+1,[],seen,m,_=>rfl|n+1,f::todo,seen,m,hm=>by have hf:=hm f;show(if seen.contains f then P.closureVia n todo seen else P.closureVia n ((P.funcs[f]?).elim [] P.leadsTo++todo) (f::seen))=match Nat.testBit m f with|true=>e5i ld n todo seen m|false=>e5i ld n (ld f++todo) (f::seen) (m|||2^f);rw[hf];cases hb:Nat.testBit m f with|true=>rw[if_pos rfl];exact d4y h n todo seen m hm|false=>
     rw[if_neg (by simp),h f];refine d4y h n _ _ _ λg=>?_;rw[List.contains_cons,hm g,Nat.testBit_or,Nat.testBit_two_pow,Bool.or_comm];congr 1;by_cases e:g=f;.subst e;simp
     .have e2:¬f=g:=λh=>e h.symm;simp[e,e2]
theorem d40{α:Type}{P:Program}{q:Func->α}{d:α}{t:Nat->α}{N:Nat}(h:P.funcs.toList.map q=(List.range N).map t)(hd:∀f,N<=f->t f=d)(f:Nat):(P.funcs[f]?).elim d q=t f:=by
 have e:(P.funcs.toList.map q)[f]?=((List.range N).map t)[f]?:=by rw[h]
 rw[List.getElem?_map,List.getElem?_map,Array.getElem?_toList]at e;by_cases hf:f<N;.rw[List.getElem?_range hf]at e;cases hp:P.funcs[f]?with|none=>rw[hp]at e;cases e|some fn=>rw[hp]at e;exact qH e
 .rw[List.getElem?_eq_none (by simp;omega)]at e;cases hp:P.funcs[f]?with|none=>exact(hd f (by omega)).symm|some fn=>rw[hp]at e;cases e
def d6a{α:Type}(N:Nat)(d:α)(t:Nat->α)(f:Nat):α:=bif Nat.ble N f then d else t f
def h2m{α:Type}(d:α):List α->Nat->α|[],_=>d|a::r,n=>match n with|0=>a|n+1=>h2m d r n
def two{α:Type}(A:List (List α))(d:α)(f:Nat):α:=h2m d (h2m [] A (f/25)) (f%25)
def few{α:Type}(d:α):List (Nat×α)->Nat->α|[],_=>d|q::r,n=>bif Nat.beq q.1 n then q.2else few d r n
theorem e3l{α:Type}{N:Nat}{d:α}{t:Nat->α}(f:Nat)(h:N<=f):d6a N d t f=d:=by unfold d6a;rw[Nat.ble_eq_true_of_le h];rfl
section
variable {P:Program} {ld:Nat -> List Nat} {N s f:Nat} {C:List Nat}
theorem g5y(h:P.funcs.toList.map P.leadsTo=(List.range N).map (d6a N [] ld))(hs:(((List.range N).map (d6a N [] ld)).map λl=>l.length+1).sum=s)(hC:e5i (d6a N [] ld) (1+s) [f] [] 0=C):P.closure f=C:=by
 unfold Program.closure;have e:(P.funcs.toList.map λg=>(P.leadsTo g).length+1)=(P.funcs.toList.map P.leadsTo).map λl=>l.length+1:=by rw[List.map_map];rfl
 rw[e,h,hs,d4y (d40 h e3l) _ _ _ 0 (λg=>by simp),hC]
theorem e55(hc:P.closure f=C){t:Nat->Option String}(h:(P.funcs.toList.map λfn=>if fn.ours||fn.body.isNone||fn.name== "runtime.NumGoroutine"then some fn.name else none)=(List.range N).map (d6a N none t)):P.inPlace f=C.filterMap (d6a N none t):=by unfold Program.inPlace;rw[hc];congr 1;funext g;rw[<-d40 h e3l g];cases P.funcs[g]?<;>rfl
theorem d4u(hc:P.closure f=C){g:Nat}{fn:Func}(hg:C.contains g=true)(hfn:P.funcs[g]?=some fn)(h:(match fn.body with|some c=>c.unfollowed|none=>entryCalls fn)=true):P.unfollowed f=true:=by unfold Program.unfollowed;rw[hc,List.any_eq_true];refine⟨g,by simpa using hg,?_⟩;rw[hfn];exact h
theorem d9l(h:P.unfollowed f=true):P.recurses f=true:=by unfold Program.recurses;rw[h];rfl
theorem d79(hc:P.closure f=C){gl:Nat->List Nat}{er:Nat->Option String}(h:(P.funcs.toList.map λfn=>fn.body.elim [] Code.globalsNamed)=(List.range N).map (d6a N [] gl))(h2:(P.funcs.toList.map λfn=>if fn.body.isNone then entryReads.lookup fn.name else none)=(List.range N).map (d6a N none er)):P.varsNamed f=(((C.flatMap (d6a N [] gl)).eraseDups).filterMap (λg=>(P.globals[g]?).map (·.name))++C.filterMap (d6a N none er)).eraseDups:=by
 unfold Program.varsNamed;rw[hc];have e1:(λg=>((P.funcs[g]?).bind (·.body)).elim [] Code.globalsNamed)=d6a N [] gl:=funext λg=>by rw[<-d40 h e3l g];cases P.funcs[g]?<;>rfl
 have e2:(λg=>(P.funcs[g]?).bind λfn=>if fn.body.isNone then entryReads.lookup fn.name else none)=d6a N none er:=funext λg=>by rw[<-d40 h2 e3l g];cases P.funcs[g]?<;>rfl
 rw[e1,e2]
end
end Go.PL
namespace Go.PL
open Go Go.Proofs
def ldA:List (List (List Nat)):=[[[],[],[1],[4,5,6,7,8,9,11,10],[12,7],[13,15,14,16],[7],[],[11],[11],[17],[18,19],[21,20,23,22,23,22],[22,22,22,22,22,22,24,22,22,22,22,25,22,22,22,22,22,22,22,22],[],[23,22,23,22,23,22,23,22,23,22,23,22,23,22,23,22,23,22,23,22,23,22,23,22,23,22],[26,27,27,28],[],[29,30],[31,32,33,34,35,36,37,33,37,38],[39,40,41,40,42,40,43,44,45,46],[47,48,23,22,48,23,22,48],[],[22],[22,22,22,22,22]],[[],[25,49,49,49,49,49,49],[],[26,26,27,50,50],[51,52,53],[54,55,56],[57,58],[34,34,59,60],[31,61,62,63,64,65,65,65,65,65,65,66,67,68],[69],[70,72,71],[],[73,74],[75,76,78,77,79],[80],[43,81],[82,83,81],[82,84,81],[85],[40,82,86,81,40,40,87,42,40,43,88],[],[83,89],[],[23,22,47,23,22,23,22,47,23,22,23,22,47,23,22,23,22,90,23,22,90,23,22,90,23,22,47,23,22,47,23,22,47,23,22,47,23,22,90,23,22,23,22,47,23,22,47,23,22,47,23,22,23,22,90,23,22],[91]],[[26,92,92,92,92,92,92,25,92,92,92,92,92,92,92,92],[93,94],[95],[96,97,75,98,98],[],[99],[],[],[54,100,101],[58,103,102,104],[105,59],[106,107,108],[109],[54,54,64,64,110],[54,111,112,111,113,113],[69,114],[53,115,64,64,117,116,119,118,114,121,120],[122],[123],[124],[72,114],[125],[125],[126,128,127,129,130,129,130],[75,76,78,79]],[[132,132,131],[],[],[],[133],[134],[],[],[135,136],[137,138],[],[139],[82,140,141,142,81],[43,87,43,42,43,42,82,84,81,43,41,40,143,43,87,40,143,40,143,43,87,40,143,81,40],[144,145,146,147,83,148,146,148,148,146,148],[47,47,47],[25],[],[149,150],[151,153,152,155,154,156,156,158,157,156],[54,159,159,159,159],[],[160],[],[]],[[161],[162,163,164,165,166,167,167,167,167],[168,169,118,170,171,172,118,173,174],[175,176,177],[178,179,181],[],[182],[184,183],[],[106],[64,185,186],[],[185],[185],[187],[188,189,72,118,190,118],[191,107],[192],[193],[186,186],[194,96,96,97,76,53,78,79,195,195,78,77,79],[182],[196,196,197,197,77,133],[132,132,131,198],[]],[[199,201,200],[202,94],[],[],[203,204,204],[],[],[],[205],[206,207,208,209,208,137,139,210],[207,209],[],[209],[212,212,211],[213,213,213,214],[],[],[],[43,143,143,40,143,40,143,43,143,143,215,143,216,143],[],[],[140,141,142],[217,218],[219,220,221],[222,223]],[[54,225,224,226,224,227,149,228,229,224,228,228,229,224,228],[230,231,233,232,234],[235],[],[127],[],[234],[236],[],[],[237,113],[],[],[],[],[],[],[167],[],[125],[],[238,235],[106,190,118],[188,190,118,118,174,125],[125]],[[188,190,239,52],[107,108],[30,240,241,242,243,244,245],[246],[180],[247,248],[125,107,108,249,250],[251,252,254,254,254,254,255,255,256,255,255,255,255],[257,258,259,260,261,262,263,264,265,183,183],[266,267],[],[113,111,113],[125],[268,106],[],[62,269],[270],[],[125,125],[],[],[],[75],[],[]],[[271,272,273,184,274],[],[275,75],[276,276,277],[278,279,280,278,281,282,204,204,283,284,285,286,278],[267],[],[],[207,209],[],[],[287,288,287],[],[],[289,290],[82,84,43,143,43,143,40,43,40,42,40,85,291,85,291,85,291,41],[292,293,85],[212,288],[217,212,294,294],[219],[220],[295,147,83,221],[296,297],[],[299,298]],[[],[],[300,301],[302,303,304],[],[],[228],[305],[],[228,232,306,307],[],[],[],[],[188,190,118,308,309],[],[240],[312],[312,117,116,245,312,313,69],[312,314,315],[54,190,249,106],[125],[249],[316,316,316,317,317],[319,318]],[[],[],[253],[320],[],[254],[],[263],[321,321],[322,323],[324,324,324,325],[],[263,263,263],[326,326],[263,263],[263,263,263,263],[],[],[],[109],[],[],[],[],[336,337,338,339,340,341,342,343,274,274]],[[344,345],[347,346],[],[],[348,349],[275,350,116,123],[204,284,351,278,352,278],[204,204,204],[353],[],[354,355,356,357,353],[],[133],[],[358],[289],[40,143,295,40,143,40],[],[],[],[],[],[296,359],[],[]],[[360,360,361],[],[302],[303],[362,346,363],[],[],[364,307,365],[184,366],[311,311,311,310],[],[326,326],[69,240],[107,108],[],[311],[118,71],[118,367],[368],[],[369],[263,263],[184],[],[325]],[[370,370,370],[],[],[],[],[],[],[],[],[],[],[],[371,371],[372,373],[374,374,374,375],[],[],[],[],[376],[],[377],[276],[230,202,278,278],[378]],[[379],[75],[75],[75,75,132,132,380,132,132,380,381,381],[75,75,132,132,380,132,132,380,382,381,383,383,132,132,384,131,385,198],[352,354],[75,75,132,132,132,132,386],[75,75,132,132,132,132,386],[],[],[387],[388,389,389],[390,300,149],[304],[230,391],[],[392,393,394,395,396,397,398,399,366,366],[125],[],[400,401,400,402,401,403],[263],[],[184],[],[375]],[[404,404,404],[],[],[],[],[77],[],[405,405],[406,406],[133],[133],[131,131,380,380,198],[407],[408],[359],[],[409],[],[410,410],[322,323],[411,411,411,412],[],[],[],[]],[[413],[],[],[414],[],[],[],[415,416,417,418],[369],[],[],[412],[419,419,419],[],[],[],[267,420,421],[],[422,423],[],[],[],[],[424,425],[]],[[],[],[],[],[],[],[],[],[],[],[],[],[],[],[],[],[],[],[],[],[],[],[],[],[]],[[],[],[]]]
def cl3:List Nat:=[3,4,12,21,47,48,23,22,90,20,39,80,134,206,207,208,209,137,139,213,214,289,358,290,210,40,43,85,81,41,82,83,135,136,42,84,138,212,211,287,133,205,267,288,44,86,87,140,141,142,88,143,215,291,295,216,292,293,45,46,89,144,145,146,147,217,218,294,148,219,220,221,7,5,13,24,25,15,14,16,26,49,91,27,28,50,92,6,8,11,18,29,51,93,149,222,296,297,359,223,150,54,225,224,299,298,226,227,300,360,387,407,415,416,420,421,417,418,422,423,424,425,361,388,408,369,400,413,401,402,403,414,389,301,228,302,303,304,362,390,346,377,363,229,94,151,230,231,233,232,305,234,306,307,364,391,409,365,153,152,235,155,154,127,156,158,157,236,52,95,159,53,96,97,160,237,113,185,75,132,131,98,30,55,99,56,19,31,57,58,100,161,101,162,163,164,165,166,167,32,34,69,124,59,103,175,188,268,106,182,251,252,253,320,254,255,256,190,62,109,269,239,118,193,125,199,201,200,271,272,273,184,266,274,336,337,371,338,372,373,339,374,375,404,340,341,342,343,308,366,392,393,410,394,322,323,395,411,412,419,396,397,398,399,309,311,326,310,176,107,183,257,263,258,321,259,260,324,325,370,261,262,264,265,108,177,240,241,242,312,243,117,192,116,191,270,245,249,319,318,368,313,244,314,315,102,168,169,170,171,238,172,173,174,104,178,246,179,180,247,248,316,71,317,367,181,250,60,105,33,61,63,64,111,112,110,186,65,114,187,66,115,189,72,119,121,120,194,76,78,79,195,77,67,122,196,197,68,123,198,35,70,36,37,73,126,202,275,344,376,345,128,129,203,276,347,277,204,278,279,348,349,378,280,350,379,281,284,351,352,282,283,353,380,381,285,354,382,405,383,406,384,385,355,356,386,357,286,130,74,38,9,10,17]
theorem h3o:Tryz.prog.funcs.toList.map Tryz.prog.leadsTo=(List.range 453).map (d6a 453 [] (two ldA [])):=by kernel_rfl
theorem h4e:Tryz.prog.closure 3=cl3:=g5y (N:=453) (s:=1425) h3o (by kernel_rfl) (by kernel_rfl)
theorem h46:(Tryz.prog.funcs.toList.map λfn=>if fn.ours||fn.body.isNone||fn.name== "runtime.NumGoroutine"then some fn.name else none)=(List.range 453).map (d6a 453 none (few none [(0,some "main.main"),(1,some "gosem.cut"),(271,some "internal/reflectlite.ValueOf"),(272,some "internal/reflectlite.Swapper"),(273,some "(internal/reflectlite.Value).Len"),(327,some "internal/reflectlite.Swapper$1"),(328,some "internal/reflectlite.Swapper$2"),(329,some "internal/reflectlite.Swapper$3"),(330,some "internal/reflectlite.Swapper$4"),(331,some "internal/reflectlite.Swapper$5"),(332,some "internal/reflectlite.Swapper$6"),(333,some "internal/reflectlite.Swapper$7"),(334,some "internal/reflectlite.Swapper$8"),(335,some "internal/reflectlite.Swapper$9"),(401,some "internal/bytealg.IndexString"),(405,some "math/bits.Add64"),(406,some "math/bits.Sub64"),(413,some "internal/bytealg.IndexByteString"),(426,some "(runtime.boundsError).Error"),(427,some "(runtime.boundsError).RuntimeError"),(428,some "(runtime.errorString).Error"),(429,some "(runtime.errorString).RuntimeError"),(430,some "(runtime.plainError).Error"),(431,some "(runtime.plainError).RuntimeError"),(432,some "(runtime.errorAddressString).Error"),(433,some "(runtime.errorAddressString).RuntimeError"),(434,some "(*runtime.TypeAssertionError).Error"),(435,some "(*runtime.TypeAssertionError).RuntimeError"),(436,some "(*runtime.PanicNilError).Error"),(437,some "(*runtime.PanicNilError).RuntimeError"),(438,some "(*internal/abi.Type).Align"),(439,some "(internal/runtime/maps.unhashableTypeError).Error"),(440,some "(internal/runtime/maps.unhashableTypeError).RuntimeError"),(441,some "(pension/pensionref1.wide).less"),(442,some "(internal/reflectlite.flag).mustBeAssignable"),(443,some "(internal/reflectlite.rtype).String"),(444,some "(*internal/reflectlite.ValueError).Error"),(445,some "(*errors.errorString).Error"),(446,some "(internal/abi.Kind).String"),(447,some "var's door: gosem.cut.vars holds initialisers alone; see the manifest's row cutvarsword (look 11, test files too)"),(448,some "var's door: internal/strconv.uint64pow10 is laid by its own initialiser, plain data (look 11)"),(449,some "var's door: math/bits.deBruijn32tab is laid by its own initialiser, plain data (look 11)"),(450,some "var's door: math/bits.deBruijn64tab is laid by its own initialiser, plain data (look 11)"),(451,some "var's door: the look of gosem.cut.vars went over the folder that the caller named as the repository's root (look 11)")])):=by kernel_rfl
theorem inPlace3:Tryz.prog.inPlace 3=["internal/bytealg.IndexByteString","internal/bytealg.IndexString","internal/reflectlite.ValueOf","internal/reflectlite.Swapper","(internal/reflectlite.Value).Len","math/bits.Add64","math/bits.Sub64"]:=(e55 h4e h46).trans (by kernel_rfl)
theorem unfollowed3:Tryz.prog.unfollowed 3=true:=d4u h4e (g:=298) (by kernel_rfl) Tryz.func298 (by kernel_rfl)
theorem recurses3:Tryz.prog.recurses 3=true:=d9l unfollowed3
theorem h2p:(Tryz.prog.funcs.toList.map λfn=>fn.body.elim [] Code.globalsNamed)=(List.range 453).map (d6a 453 [] (few [] [(133,[0,1]),(369,[2,2,2]),(416,[3]),(424,[4]),(425,[5]),(452,[4,5,3])])):=by kernel_rfl
theorem h47:(Tryz.prog.funcs.toList.map λfn=>if fn.body.isNone then entryReads.lookup fn.name else none)=(List.range 453).map (d6a 453 none (few none [(401,some "internal/bytealg.MaxLen")])):=by kernel_rfl
theorem varsNamed3:Tryz.prog.varsNamed 3=["math/bits.divideError","math/bits.overflowError","internal/strconv.uint64pow10","math/bits.deBruijn32tab","math/bits.deBruijn64tab","internal/bytealg.MaxLen"]:=(d79 h4e h2p h47).trans (by kernel_rfl)
end Go.PL
namespace Go.Proofs.YteiaijhkdaphpaaGreatDoor.awardsAll
open Go
theorem named:Tryz.pinned.checked.prog.funcNamed Rows.awardsAllRow.func=some 3:=by kernel_rfl
theorem pe:Tryz.pinned.checked.prog=Tryz.prog:=rfl
theorem j2:(laidOutB Tryz.pinned.checked.prog)=true:=by kernel_rfl
theorem j3:(mapsRowed Tryz.pinned.checked.prog)=true:=by kernel_rfl
theorem j7:(Tryz.pinned.checked.prog.stops==[])=true:=by kernel_rfl
theorem j9:(Tryz.pinned.checked.prog.stopKnobs==[])=true:=by kernel_rfl
theorem j10:(Rows.awardsAllRow.inPlace==Tryz.pinned.checked.prog.inPlace 3)=true:=by rw[pe,Go.PL.inPlace3];kernel_rfl
theorem j11:(Rows.awardsAllRow.unfollowed==Tryz.pinned.checked.prog.unfollowed 3)=true:=by rw[pe,Go.PL.unfollowed3];rfl
theorem j12:(Rows.awardsAllRow.recurses==Tryz.pinned.checked.prog.recurses 3)=true:=by rw[pe,Go.PL.recurses3];rfl
theorem j13:(Rows.awardsAllRow.named==Tryz.pinned.checked.prog.varsNamed 3)=true:=by rw[pe,Go.PL.varsNamed3];kernel_rfl
theorem j23:(Rows.awardsAllRow.plainKeys==Tryz.pinned.checked.prog.plainKeys)=true:=by kernel_rfl
theorem j25:(Tryz.pinned.checked.prog.stopsHeard)=true:=by kernel_rfl
theorem g96:joinedFacts Tryz.pinned.checked.prog 3 Tryz.f3 (OpenSpec.ofChange Rows.awardsAllSpec).bare Rows.awardsAllRow=true:=by
 unfold joinedFacts;simp only[qB];and_intros;.kernel_rfl
 .exact j2
 .exact j3
 .kernel_rfl
 .kernel_rfl
 .kernel_rfl
 .exact j7
 .kernel_rfl
 .exact j9
 .exact j10
 .exact j11
 .exact j12
 .exact j13
 .kernel_rfl
 .kernel_rfl
 .kernel_rfl
 .kernel_rfl
 .kernel_rfl
 .kernel_rfl
 .kernel_rfl
 .kernel_rfl
 .kernel_rfl
 .exact j23
 .kernel_rfl
 .exact j25
 .kernel_rfl
 .kernel_rfl
 .kernel_rfl
 .kernel_rfl
 .kernel_rfl
 .kernel_rfl
 .kernel_rfl
theorem inst:Tryz.f3.isInstance Tryz.pinned.checked.prog Rows.awardsAllRow.origin Rows.awardsAllRow.targs:=of_decide_eq_true (by kernel_rfl)
theorem wrap:Tryz.f3.isWrapper Tryz.pinned.checked.prog Rows.awardsAllRow.wrapper Rows.awardsAllRow.mainSum:=by unfold Func.isWrapper;first|(rw[if_pos (by decide+kernel)];kernel_rfl)|(rw[if_neg (by decide+kernel)];exact⟨rfl,rfl⟩)
end Go.Proofs.YteiaijhkdaphpaaGreatDoor.awardsAll
