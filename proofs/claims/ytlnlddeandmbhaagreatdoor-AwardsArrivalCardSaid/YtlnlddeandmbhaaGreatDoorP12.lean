/- Texts of the proof, joined. -/
import Derived.Test.YtlnlddeandmbhaaGreatDoorP11
import GoSem.ClaimFn
import Derived.KernelRfl
import Derived.Test.YtlnlddeandmbhaaGreatDoorProg
import Derived.Test.YtlnlddeandmbhaaGreatDoorRows
import Derived.JoinedCond
set_option linter.defProp false
set_option linter.unusedVariables false
set_option linter.unusedSimpArgs false
set_option maxRecDepth 100000
namespace Go.PL
open Go
def e5i(ld:Nat->List Nat):Nat->List Nat->List Nat->Nat->List Nat|0,_,seen,_=>seen.reverse|_+1,[],seen,_=>seen.reverse|n+1,f::todo,seen,m=>match Nat.testBit m f with|true=>e5i ld n todo seen m|false=>e5i ld n (ld f++todo) (f::seen) (m|||2^f)
def d4y{P:Program}{ld:Nat->List Nat}(h:∀f,(P.funcs[f]?).elim [] P.leadsTo=ld f):∀(n:Nat)(todo seen:List Nat)(m:Nat),(∀f,seen.contains f=m.testBit f)->P.closureVia n todo seen=e5i ld n todo seen m|0,todo,seen,m,_=>by cases todo<;>rfl|n+1,[],seen,m,_=>rfl|n+1,f::todo,seen,m,hm=>by have hf:=hm f;show(if seen.contains f then P.closureVia n todo seen else P.closureVia n ((P.funcs[f]?).elim [] P.leadsTo++todo) (f::seen))=match Nat.testBit m f with|true=>e5i ld n todo seen m|false=>e5i ld n (ld f++todo) (f::seen) (m|||2^f);rw[hf];cases hb:Nat.testBit m f with|true=>rw[if_pos rfl];exact d4y h n todo seen m hm|false=>
     rw[if_neg (by simp),h f];refine d4y h n _ _ _ λg=>?_;rw[List.contains_cons,hm g,Nat.testBit_or,Nat.testBit_two_pow,Bool.or_comm];congr 1;by_cases e:g=f;.subst e;simp
     .have e2:¬f=g:=λh=>e h.symm;simp[e,e2]
def d40{α:Type}{P:Program}{q:Func->α}{d:α}{t:Nat->α}{N:Nat}(h:P.funcs.toList.map q=(List.range N).map t)(hd:∀f,N<=f->t f=d)(f:Nat):(P.funcs[f]?).elim d q=t f:=by
 have e:(P.funcs.toList.map q)[f]?=((List.range N).map t)[f]?:=by rw[h]
 rw[List.getElem?_map,List.getElem?_map,Array.getElem?_toList]at e;by_cases hf:f<N;.rw[List.getElem?_range hf]at e;cases hp:P.funcs[f]?with|none=>rw[hp]at e;cases e|some fn=>rw[hp]at e;exact qH e
 .rw[List.getElem?_eq_none (by simp;omega)]at e;cases hp:P.funcs[f]?with|none=>exact(hd f (by omega)).symm|some fn=>rw[hp]at e;cases e
def d6a{α:Type}(N:Nat)(d:α)(t:Nat->α)(f:Nat):α:=bif Nat.ble N f then d else t f
def h2m{α:Type}(d:α):List α->Nat->α|[],_=>d|a::r,n=>match n with|0=>a|n+1=>h2m d r n
def two{α:Type}(A:List (List α))(d:α)(f:Nat):α:=h2m d (h2m [] A (f/25)) (f%25)
def few{α:Type}(d:α):List (Nat×α)->Nat->α|[],_=>d|q::r,n=>bif Nat.beq q.1 n then q.2else few d r n
def e3l{α:Type}{N:Nat}{d:α}{t:Nat->α}(f:Nat)(h:N<=f):d6a N d t f=d:=by unfold d6a;rw[Nat.ble_eq_true_of_le h];rfl
section
variable {P:Program} {ld:Nat -> List Nat} {N s f:Nat} {C:List Nat}
def g5y(h:P.funcs.toList.map P.leadsTo=(List.range N).map (d6a N [] ld))(hs:(((List.range N).map (d6a N [] ld)).map λl=>l.length+1).sum=s)(hC:e5i (d6a N [] ld) (1+s) [f] [] 0=C):P.closure f=C:=by
 unfold Program.closure;have e:(P.funcs.toList.map λg=>(P.leadsTo g).length+1)=(P.funcs.toList.map P.leadsTo).map λl=>l.length+1:=by rw[List.map_map];rfl
 rw[e,h,hs,d4y (d40 h e3l) _ _ _ 0 (λg=>by simp),hC]
def e55(hc:P.closure f=C){t:Nat->Option String}(h:(P.funcs.toList.map λfn=>if fn.ours||fn.body.isNone||fn.name== "runtime.NumGoroutine"then some fn.name else none)=(List.range N).map (d6a N none t)):P.inPlace f=C.filterMap (d6a N none t):=by unfold Program.inPlace;rw[hc];congr 1;funext g;rw[<-d40 h e3l g];cases P.funcs[g]?<;>rfl
def d4u(hc:P.closure f=C){g:Nat}{fn:Func}(hg:C.contains g=true)(hfn:P.funcs[g]?=some fn)(h:(match fn.body with|some c=>c.unfollowed|none=>entryCalls fn)=true):P.unfollowed f=true:=by unfold Program.unfollowed;rw[hc,List.any_eq_true];refine⟨g,by simpa using hg,?_⟩;rw[hfn];exact h
def d9l(h:P.unfollowed f=true):P.recurses f=true:=by unfold Program.recurses;rw[h];rfl
def d79(hc:P.closure f=C){gl:Nat->List Nat}{er:Nat->Option String}(h:(P.funcs.toList.map λfn=>fn.body.elim [] Code.globalsNamed)=(List.range N).map (d6a N [] gl))(h2:(P.funcs.toList.map λfn=>if fn.body.isNone then entryReads.lookup fn.name else none)=(List.range N).map (d6a N none er)):P.varsNamed f=(((C.flatMap (d6a N [] gl)).eraseDups).filterMap (λg=>(P.globals[g]?).map (·.name))++C.filterMap (d6a N none er)).eraseDups:=by
 unfold Program.varsNamed;rw[hc];have e1:(λg=>((P.funcs[g]?).bind (·.body)).elim [] Code.globalsNamed)=d6a N [] gl:=funext λg=>by rw[<-d40 h e3l g];cases P.funcs[g]?<;>rfl
 have e2:(λg=>(P.funcs[g]?).bind λfn=>if fn.body.isNone then entryReads.lookup fn.name else none)=d6a N none er:=funext λg=>by rw[<-d40 h2 e3l g];cases P.funcs[g]?<;>rfl
 rw[e1,e2]
end
end Go.PL
namespace Go.PL
open Go Go.Proofs
def ldA:List (List (List Nat)):=[[[],[],[1],[4,5,6,6,7,9,8,10,6,10,10,11,11,12,13],[14,6],[6],[],[15,15,15,15,15,15,16,15,15,15,15,17,15,15,15,15,15,15,15,15],[],[18,15,18,15,18,15,18,15,18,15,18,15,18,15,18,15,18,15,18,15,18,15,18,15,18,15],[20,20,19,21,22],[23],[23],[24],[26,25,18,15,18,15],[],[15,15,15,15,15],[],[15],[],[27,19,21,22],[29,29,28],[30],[31,32],[]],[[33,34,35,34,36,34,37,38,39,40],[41,42,18,15,42,18,15,42],[43,44,46,46,46,46,47,47,48,47,47,47,47],[],[49,49],[27,27,51,51,50],[52,53],[54,55,56,57,58,59,60,56,60,61],[62],[37,63],[64,65,63],[64,66,63],[67],[34,64,68,63,34,34,69,36,34,37,70],[],[65,71],[],[18,15,41,18,15,18,15,41,18,15,18,15,41,18,15,18,15,72,18,15,72,18,15,72,18,15,41,18,15,41,18,15,41,18,15,41,18,15,72,18,15,18,15,41,18,15,41,18,15,41,18,15,18,15,72,18,15],[],[45],[73],[],[46],[],[]],[[74],[27,75,75,75,43,75,75,75,75,75,75,75],[76,77,78],[79,80,81],[82,83],[57,57,84,85],[54,86,87,88,89,90,90,90,90,90,90,91,92,93],[94],[95,97,96],[],[98,99],[100,101,103,102,104],[105],[],[],[106,107],[108,109],[],[110],[64,111,112,113,63],[37,69,37,36,37,36,64,66,63,37,35,34,114,37,69,34,114,34,114,37,69,34,114,63,34],[115,116,117,118,65,119,117,119,119,117,119],[41,41,41],[120],[]],[[],[121,122],[123],[124,125,100,126,126],[],[127],[],[],[79,128,129],[83,131,130,132],[133,84],[134,135,136],[137],[79,79,89,89,138],[79,139,140,139,141,141],[94,142],[78,143,89,89,145,144,147,146,142,149,148],[150],[151],[152],[97,142],[153],[153],[154,156,155,157,158,157,158],[100,101,103,104]],[[160,160,159],[],[],[],[161],[162,163,164,165,164,108,110,166],[163,165],[],[165],[168,168,167],[169,169,169,170],[],[],[],[37,114,114,34,114,34,114,37,114,114,171,114,172,114],[],[],[111,112,113],[173,174],[175,176,177],[178,179,178,180,179,181],[182,183],[184,186,185,188,187,189,189,191,190,189],[79,192,192,192,192],[]],[[193],[],[],[194],[195,196,197,198,199,200,200,200,200],[201,202,146,203,204,205,146,206,207],[208,209,210],[211,212,214],[],[27],[216,215],[],[134],[89,217,218],[],[217],[217],[219],[220,221,97,146,222,146],[223,135],[224],[225],[218,218],[226,124,124,125,101,78,103,104,227,227,103,102,104],[27]],[[228,228,229,229,102,161],[160,160,159,230],[],[231,233,232],[234,122],[],[],[235,236,236],[],[],[],[237],[],[],[163,165],[],[],[238,239,238],[],[],[240,241],[64,66,37,114,37,114,34,37,34,36,34,67,242,67,242,67,242,35],[243,244,67],[168,239],[173,168,245,245]],[[175],[176],[246,118,65,177],[247],[],[],[248],[249,250],[79,252,251,253,251,254,182,255,256,251,255,255,256,251,255],[257,258,260,259,261],[262],[],[155],[],[261],[263],[],[],[264,141],[],[],[],[],[],[]],[[200],[],[153],[],[265,262],[134,222,146],[220,222,146,146,207,153],[153],[220,222,266,77],[135,136],[53,267,268,269,270,271,272],[273],[213],[274,275],[153,135,136,276,277],[278,279,280,281,282,283,284,285,286,215,215],[287,288],[],[141,139,141],[153],[289,134],[],[87,290],[291],[]],[[153,153],[],[],[],[100],[],[],[292,293,294,216,295],[],[296,100],[297,297,298],[299,300,301,299,302,303,236,236,304,305,306,307,299],[288],[161],[],[308],[240],[34,114,246,34,114,34],[],[],[],[],[],[],[309,310]],[[],[312,311],[],[],[313,314],[315,316,317],[],[],[255],[318],[],[255,259,319,320],[],[],[],[],[220,222,146,321,322],[],[267],[323],[323,145,144,272,323,324,94],[323,325,326],[79,222,276,134],[153],[276]],[[327,327,327,328,328],[330,329],[],[284],[331,331],[332,333],[334,334,334,335],[],[284,284,284],[49,49],[284,284],[284,284,284,284],[],[],[],[137],[],[],[],[],[345,346,347,348,349,350,351,352,295,295],[353,354],[356,355],[],[]],[[357,358],[296,359,144,151],[236,305,360,299,361,299],[236,236,236],[362],[],[363,364,365,366,362],[],[],[],[309,367],[],[],[368,368,369],[],[315],[316],[370,355,371],[],[],[372,320,373],[216,374],[29,29,29,28],[94,267],[135,136]],[[],[29],[146,96],[146,375],[376],[],[284,284],[216],[],[335],[377,377,377],[],[],[],[],[],[],[],[],[],[],[378,378],[379,380],[381,381,381,382],[]],[[],[],[],[383],[],[384],[297],[257,234,299,299],[385],[386],[100],[100],[100,100,160,160,387,160,160,387,388,388],[100,100,160,160,387,160,160,387,389,388,390,390,160,160,391,159,392,230],[361,363],[100,100,160,160,160,160,393],[100,100,160,160,160,160,393],[],[394],[395,396,396],[397,313,182],[317],[257,398],[],[399,400,401,402,403,404,405,406,374,374]],[[153],[],[284],[],[216],[],[382],[407,407,407],[],[],[],[],[102],[],[408,408],[409,409],[161],[161],[159,159,387,387,230],[410],[411],[367],[],[412],[]],[[413,413],[332,333],[414,414,414,415],[],[],[],[],[],[],[],[416,417,418,419],[120],[],[],[415],[420,420,420],[],[288,421,422],[],[423,424],[],[],[],[],[425,426]],[[],[],[],[],[],[],[],[],[],[],[],[],[],[],[],[],[],[],[],[],[],[],[],[],[]],[[],[],[],[]]]
def cl3:List Nat:=[3,4,14,26,41,42,18,15,72,25,33,62,105,162,163,164,165,108,110,169,170,240,308,241,166,34,37,67,63,35,64,65,106,107,36,66,109,168,167,238,161,237,288,239,38,68,69,111,112,113,70,114,171,242,246,172,243,244,39,40,71,115,116,117,118,173,174,245,119,175,176,177,6,5,7,16,17,9,8,10,20,27,43,44,45,73,120,178,247,179,180,181,248,46,47,48,19,21,29,49,28,22,30,51,75,50,74,11,23,31,52,76,121,182,249,309,310,367,250,183,79,252,251,312,311,253,254,313,368,394,410,416,417,421,422,418,419,423,424,425,426,369,395,411,396,314,255,315,316,317,370,397,355,384,371,256,122,184,257,258,260,259,318,261,319,320,372,398,412,373,186,185,262,188,187,155,189,191,190,263,77,123,192,78,124,125,193,264,141,217,100,160,159,126,53,80,127,81,32,54,82,83,128,194,129,195,196,197,198,199,200,55,57,94,152,84,131,208,220,289,134,222,87,137,290,266,146,225,153,231,233,232,292,293,294,216,287,295,345,346,378,347,379,380,348,381,382,407,349,350,351,352,321,374,399,400,413,401,332,333,402,414,415,420,403,404,405,406,322,209,135,215,278,284,279,331,280,281,334,335,377,282,283,285,286,136,210,267,268,269,323,270,145,224,144,223,291,272,276,330,329,376,324,271,325,326,130,201,202,203,204,265,205,206,207,132,211,273,212,213,274,275,327,96,328,375,214,277,85,133,56,86,88,89,139,140,138,218,90,142,219,91,143,221,97,147,149,148,226,101,103,104,227,102,92,150,228,229,93,151,230,58,95,59,60,98,154,234,296,353,383,354,156,157,235,297,356,298,236,299,300,357,358,385,301,359,386,302,305,360,361,303,304,362,387,388,306,363,389,408,390,409,391,392,364,365,393,366,307,158,99,61,12,13,24]
def h3o:Tryz.prog.funcs.toList.map Tryz.prog.leadsTo=(List.range 454).map (d6a 454 [] (two ldA [])):=by kernel_rfl
def h4e:Tryz.prog.closure 3=cl3:=g5y (N:=454) (s:=1426) h3o (by kernel_rfl) (by kernel_rfl)
def h46:(Tryz.prog.funcs.toList.map λfn=>if fn.ours||fn.body.isNone||fn.name== "runtime.NumGoroutine"then some fn.name else none)=(List.range 454).map (d6a 454 none (few none [(0,some Tryz.f0.name),(1,some Tryz.f1.name),(74,some Tryz.f74.name),(179,some Tryz.f179.name),(247,some Tryz.f247.name),(292,some Tryz.f292.name),(293,some Tryz.f293.name),(294,some Tryz.f294.name),(336,some Tryz.f336.name),(337,some Tryz.f337.name),(338,some Tryz.f338.name),(339,some Tryz.f339.name),(340,some Tryz.f340.name),(341,some Tryz.f341.name),(342,some Tryz.f342.name),(343,some Tryz.f343.name),(344,some Tryz.f344.name),(408,some Tryz.f408.name),(409,some Tryz.f409.name),(427,some Tryz.f427.name),(428,some Tryz.f428.name),(429,some Tryz.f429.name),(430,some Tryz.f430.name),(431,some Tryz.f431.name),(432,some Tryz.f432.name),(433,some Tryz.f433.name),(434,some Tryz.f434.name),(435,some Tryz.f435.name),(436,some Tryz.f436.name),(437,some Tryz.f437.name),(438,some Tryz.f438.name),(439,some Tryz.f439.name),(440,some Tryz.f440.name),(441,some Tryz.f441.name),(442,some Tryz.f442.name),(443,some Tryz.f443.name),(444,some Tryz.f444.name),(445,some Tryz.f445.name),(446,some Tryz.f446.name),(447,some Tryz.f447.name),(448,some Tryz.f448.name),(449,some Tryz.f449.name),(450,some Tryz.f450.name),(451,some Tryz.f451.name),(452,some Tryz.f452.name)])):=by kernel_rfl
def inPlace3:Tryz.prog.inPlace 3=["internal/bytealg.IndexByteString","internal/bytealg.IndexString","internal/bytealg.Compare","internal/reflectlite.ValueOf","internal/reflectlite.Swapper","(internal/reflectlite.Value).Len","math/bits.Add64","math/bits.Sub64"]:=(e55 h4e h46).trans (by kernel_rfl)
def unfollowed3:Tryz.prog.unfollowed 3=true:=d4u h4e (g:=27) (by kernel_rfl) Tryz.func27 (by kernel_rfl)
def recurses3:Tryz.prog.recurses 3=true:=d9l unfollowed3
def h2p:(Tryz.prog.funcs.toList.map λfn=>fn.body.elim [] Code.globalsNamed)=(List.range 454).map (d6a 454 [] (few [] [(120,[0,0,0]),(161,[1,2]),(417,[3]),(425,[4]),(426,[5]),(453,[4,5,3])])):=by kernel_rfl
def h47:(Tryz.prog.funcs.toList.map λfn=>if fn.body.isNone then entryReads.lookup fn.name else none)=(List.range 454).map (d6a 454 none (few none [(179,some "internal/bytealg.MaxLen")])):=by kernel_rfl
def varsNamed3:Tryz.prog.varsNamed 3=["math/bits.divideError","math/bits.overflowError","internal/bytealg.MaxLen","internal/strconv.uint64pow10","math/bits.deBruijn32tab","math/bits.deBruijn64tab"]:=(d79 h4e h2p h47).trans (by kernel_rfl)
end Go.PL
namespace Go.Proofs.YtlnlddeandmbhaaGreatDoor.awardsArrival
open Go
def named:Tryz.pinned.checked.prog.funcNamed Rows.awardsArrivalRow.func=some 3:=by kernel_rfl
def pe:Tryz.pinned.checked.prog=Tryz.prog:=rfl
def j2:(laidOutB Tryz.pinned.checked.prog)=true:=by kernel_rfl
def j3:(mapsRowed Tryz.pinned.checked.prog)=true:=by kernel_rfl
def j7:(Tryz.pinned.checked.prog.stops==[])=true:=by kernel_rfl
def j9:(Tryz.pinned.checked.prog.stopKnobs==[])=true:=by kernel_rfl
def j10:(Rows.awardsArrivalRow.inPlace==Tryz.pinned.checked.prog.inPlace 3)=true:=by rw[pe,Go.PL.inPlace3];kernel_rfl
def j11:(Rows.awardsArrivalRow.unfollowed==Tryz.pinned.checked.prog.unfollowed 3)=true:=by rw[pe,Go.PL.unfollowed3];rfl
def j12:(Rows.awardsArrivalRow.recurses==Tryz.pinned.checked.prog.recurses 3)=true:=by rw[pe,Go.PL.recurses3];rfl
def j13:(Rows.awardsArrivalRow.named==Tryz.pinned.checked.prog.varsNamed 3)=true:=by rw[pe,Go.PL.varsNamed3];kernel_rfl
def j23:(Rows.awardsArrivalRow.plainKeys==Tryz.pinned.checked.prog.plainKeys)=true:=by kernel_rfl
def j25:(Tryz.pinned.checked.prog.stopsHeard)=true:=by kernel_rfl
def g96:joinedFacts Tryz.pinned.checked.prog 3 Tryz.f3 (OpenSpec.ofChange Rows.awardsArrivalSpec).bare Rows.awardsArrivalRow=true:=by
 unfold joinedFacts;simp only[qB];and_intros;.kernel_rfl
 .exact j2
 .exact j3
 .kernel_rfl
 .kernel_rfl
 .kernel_rfl
 .exact j7
 .kernel_rfl
 .exact j9
 .exact j10
 .exact j11
 .exact j12
 .exact j13
 .kernel_rfl
 .kernel_rfl
 .kernel_rfl
 .kernel_rfl
 .kernel_rfl
 .kernel_rfl
 .kernel_rfl
 .kernel_rfl
 .kernel_rfl
 .exact j23
 .kernel_rfl
 .exact j25
 .kernel_rfl
 .kernel_rfl
 .kernel_rfl
 .kernel_rfl
 .kernel_rfl
 .kernel_rfl
 .kernel_rfl
def inst:Tryz.f3.isInstance Tryz.pinned.checked.prog Rows.awardsArrivalRow.origin Rows.awardsArrivalRow.targs:=of_decide_eq_true (by kernel_rfl)
def wrap:Tryz.f3.isWrapper Tryz.pinned.checked.prog Rows.awardsArrivalRow.wrapper Rows.awardsArrivalRow.mainSum:=by unfold Func.isWrapper;first|(rw[if_pos (by decide+kernel)];kernel_rfl)|(rw[if_neg (by decide+kernel)];exact⟨rfl,rfl⟩)
end Go.Proofs.YtlnlddeandmbhaaGreatDoor.awardsArrival
