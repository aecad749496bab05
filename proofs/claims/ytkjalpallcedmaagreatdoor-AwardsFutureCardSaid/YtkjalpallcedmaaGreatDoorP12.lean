/- Texts of the proof, joined. -/
import Derived.Test.YtkjalpallcedmaaGreatDoorP11
import GoSem.ClaimFn
import Derived.KernelRfl
import Derived.Test.YtkjalpallcedmaaGreatDoorProg
import Derived.Test.YtkjalpallcedmaaGreatDoorRows
import Derived.JoinedCond
set_option linter.defProp false
set_option linter.unusedVariables false
set_option linter.unusedSimpArgs false
set_option maxRecDepth 100000
namespace Go.PL
open Go
def e5i(ld:Nat->List Nat):Nat->List Nat->List Nat->Nat->List Nat|0,_,seen,_=>seen.reverse|_+1,[],seen,_=>seen.reverse|n+1,f::todo,seen,m=>match Nat.testBit m f with|true=>e5i ld n todo seen m|false=>e5i ld n (ld f++todo) (f::seen) (m|||2^f)
def d4y{P:Program}{ld:Nat->List Nat}(h:∀f,(P.funcs[f]?).elim [] P.leadsTo=ld f):∀(n:Nat)(todo seen:List Nat)(m:Nat),(∀f,seen.contains f=m.testBit f)->P.closureVia n todo seen=e5i ld n todo seen m|0,todo,seen,m,_=>by cases todo<;>rfl|n+1,[],seen,m,_=>rfl|n+1,f::todo,seen,m,hm=>by have hf:=hm f;show(if seen.contains f then P.closureVia n todo seen else P.closureVia n ((P.funcs[f]?).elim [] P.leadsTo++todo) (f::seen))=match Nat.testBit m f with|true=>e5i ld n todo seen m|false=>e5i ld n (ld f++todo) (f::seen) (m|||2^f);rw[hf];cases hb:Nat.testBit m f with|true=>rw[if_pos rfl];exact d4y h n todo seen m hm|false=>
     rw[if_neg (by simp),h f];refine d4y h n _ _ _ λg=>?_;rw[List.contains_cons,hm g,Nat.testBit_or,Nat.testBit_two_pow,Bool.or_comm];congr 1;by_cases e:g=f;.subst e;simp
     .have e2:¬f=g:=λh=>e h.symm;simp[e,e2]
def d40{α:Type}{P:Program}{q:Func->α}{d:α}{t:Nat->α}{N:Nat}(h:P.funcs.toList.map q=(List.range N).map t)(hd:∀f,N<=f->t f=d)(f:Nat):(P.funcs[f]?).elim d q=t f:=by
 have e:(P.funcs.toList.map q)[f]?=((List.range N).map t)[f]?:=by rw[h]
 rw[List.getElem?_map,List.getElem?_map,Array.getElem?_toList]at e;by_cases hf:f<N;.rw[List.getElem?_range hf]at e;cases hp:P.funcs[f]?with|none=>rw[hp]at e;cases e|some fn=>rw[hp]at e;exact qH e
 .rw[List.getElem?_eq_none (by simp;omega)]at e;cases hp:P.funcs[f]?with|none=>exact(hd f (by omega)).symm|some fn=>rw[hp]at e;cases e
def d6a{α:Type}(N:Nat)(d:α)(t:Nat->α)(f:Nat):α:=bif Nat.ble N f then d else t f
def h2m{α:Type}(d:α):List α->Nat->α|[],_=>d|a::r,n=>match n with|0=>a|n+1=>h2m d r n
def two{α:Type}(A:List (List α))(d:α)(f:Nat):α:=h2m d (h2m [] A (f/25)) (f%25)
def few{α:Type}(d:α):List (Nat×α)->Nat->α|[],_=>d|q::r,n=>bif Nat.beq q.1 n then q.2else few d r n
def e3l{α:Type}{N:Nat}{d:α}{t:Nat->α}(f:Nat)(h:N<=f):d6a N d t f=d:=by unfold d6a;rw[Nat.ble_eq_true_of_le h];rfl
section
variable {P:Program} {ld:Nat -> List Nat} {N s f:Nat} {C:List Nat}
def g5y(h:P.funcs.toList.map P.leadsTo=(List.range N).map (d6a N [] ld))(hs:(((List.range N).map (d6a N [] ld)).map λl=>l.length+1).sum=s)(hC:e5i (d6a N [] ld) (1+s) [f] [] 0=C):P.closure f=C:=by
 unfold Program.closure;have e:(P.funcs.toList.map λg=>(P.leadsTo g).length+1)=(P.funcs.toList.map P.leadsTo).map λl=>l.length+1:=by rw[List.map_map];rfl
 rw[e,h,hs,d4y (d40 h e3l) _ _ _ 0 (λg=>by simp),hC]
def e55(hc:P.closure f=C){t:Nat->Option String}(h:(P.funcs.toList.map λfn=>if fn.ours||fn.body.isNone||fn.name== "runtime.NumGoroutine"then some fn.name else none)=(List.range N).map (d6a N none t)):P.inPlace f=C.filterMap (d6a N none t):=by unfold Program.inPlace;rw[hc];congr 1;funext g;rw[<-d40 h e3l g];cases P.funcs[g]?<;>rfl
def d4u(hc:P.closure f=C){g:Nat}{fn:Func}(hg:C.contains g=true)(hfn:P.funcs[g]?=some fn)(h:(match fn.body with|some c=>c.unfollowed|none=>entryCalls fn)=true):P.unfollowed f=true:=by unfold Program.unfollowed;rw[hc,List.any_eq_true];refine⟨g,by simpa using hg,?_⟩;rw[hfn];exact h
def d9l(h:P.unfollowed f=true):P.recurses f=true:=by unfold Program.recurses;rw[h];rfl
def d79(hc:P.closure f=C){gl:Nat->List Nat}{er:Nat->Option String}(h:(P.funcs.toList.map λfn=>fn.body.elim [] Code.globalsNamed)=(List.range N).map (d6a N [] gl))(h2:(P.funcs.toList.map λfn=>if fn.body.isNone then entryReads.lookup fn.name else none)=(List.range N).map (d6a N none er)):P.varsNamed f=(((C.flatMap (d6a N [] gl)).eraseDups).filterMap (λg=>(P.globals[g]?).map (·.name))++C.filterMap (d6a N none er)).eraseDups:=by
 unfold Program.varsNamed;rw[hc];have e1:(λg=>((P.funcs[g]?).bind (·.body)).elim [] Code.globalsNamed)=d6a N [] gl:=funext λg=>by rw[<-d40 h e3l g];cases P.funcs[g]?<;>rfl
 have e2:(λg=>(P.funcs[g]?).bind λfn=>if fn.body.isNone then entryReads.lookup fn.name else none)=d6a N none er:=funext λg=>by rw[<-d40 h2 e3l g];cases P.funcs[g]?<;>rfl
 rw[e1,e2]
end
end Go.PL
namespace Go.PL
open Go Go.Proofs
def ldA:List (List (List Nat)):=[[[],[],[1],[5,6,7,7,8,7,7,9,9,10,11],[5,6,7,12,10,9,13,14],[15,7],[8,17,16,18],[],[19,19,19,19,19,19,20,19,19,19,19,21,19,19,19,19,19,19,19,19],[22],[22],[23],[24,26,25],[28,28,27],[29,29,28,30,28,30,31,27,32,33,27,33,27],[35,34,36,19,36,19],[],[36,19,36,19,36,19,36,19,36,19,36,19,36,19,36,19,36,19,36,19,36,19,36,19,36,19],[37,38,38,39],[],[19,19,19,19,19],[],[24,40],[],[41,42]],[[43,45,44,46],[47],[48,49,48],[],[28,49],[50],[51],[],[52],[53,54,55,54,56,54,57,58,59,60],[61,62,36,19,62,36,19,62],[19],[21,63,63,63,63,63,63],[],[37,37,38,64,64],[65,66,67,26,68,69,70,67,70,71],[72,73,74],[75,76,77],[75,78,79],[80,82,81,83,84,85,81,86,87],[88,89,90],[91,92,94],[95],[96],[]],[[],[],[],[97],[57,98],[99,100,98],[99,101,98],[102],[54,99,103,98,54,54,104,56,54,57,105],[],[100,106],[],[36,19,61,36,19,36,19,61,36,19,36,19,61,36,19,36,19,107,36,19,107,36,19,107,36,19,61,36,19,61,36,19,61,36,19,61,36,19,107,36,19,36,19,61,36,19,61,36,19,61,36,19,36,19,107,36,19],[108],[37,109,109,109,109,109,109,21,109,109,109,109,109,109,109,109],[110,43],[26,26,25,111],[65,112,113,114,115,116,116,116,116,116,116,117,118,119],[120,122,121],[],[123,124],[125,126,127,50,128],[129,130],[131],[132,133,125,134,134]],[[],[135],[],[136],[137,138,139,140,141,142,142,142,142],[],[143],[144],[],[146,145],[147,148,81],[149,148,81,81,87,144],[144],[149,148,150,73],[151,152],[42,153,154,155,156,157,158],[159],[93],[160,161],[144,151,152,162,163],[],[164],[165],[],[]],[[166,167],[168,13],[],[169],[99,170,171,172,98],[57,104,57,56,57,56,99,101,98,57,55,54,173,57,104,54,173,54,173,57,104,54,173,98,54],[174,175,176,177,100,178,176,178,178,176,178],[61,61,61],[21],[],[],[179,25],[147,151,152],[180],[75,75,115,115,181],[75,182,183,182,184,184],[47,185],[74,186,115,115,188,187,189,81,185,191,190],[192],[193],[122,185],[144],[144],[194,196,195,197,198,197,198],[125,126,127,128]],[[200,200,199],[],[],[96],[201,202],[203,205,204,207,206,208,208,210,209,208],[75,211,211,211,211],[],[212],[],[],[],[],[],[],[],[],[142],[144,144],[213,215,214],[],[],[216],[113,217],[218,147]],[[149,148,81,219,220],[224,223],[],[],[153],[225],[225,188,187,158,225,226,47],[225,227,228],[75,148,162,147],[144],[162],[229,229,229,230,230],[232,231],[],[233],[234,235,236,237,236,168,169,238],[235,237],[],[237],[239,239,239,240],[],[],[],[57,173,173,54,173,54,173,57,173,173,241,173,242,173],[]],[[],[170,171,172],[29,243],[244,245,246],[],[147],[115,247,248],[],[247],[247],[249],[149,250,122,81,148,81],[251,151],[252],[248,248],[253,132,132,133,126,74,127,128,254,254,127,50,128],[216],[255,255,256,256,50,96],[200,200,199,257],[258,130],[],[],[259,260,260],[],[]],[[],[261,262],[75,264,263,265,263,266,201,267,268,263,267,267,268,263,267],[269,270,272,271,273],[145],[],[195],[],[273],[274],[],[],[275,184],[],[276,277,278,224,279],[],[280,281,283,283,283,283,284,284,285,284,284,284,284],[180],[],[224,286],[222,222,222,221],[],[287,287],[288,289,290,291,292,293,294,295,296,223,223],[297,233]],[[47,153],[151,152],[],[222],[81,121],[81,298],[299],[],[],[],[],[235,237],[],[],[],[300,301],[99,101,57,173,57,173,54,57,54,56,54,102,302,102,302,102,302,55],[303,304,102],[29,28,305,305],[244],[245],[306,177,100,246],[],[184,182,184],[144]],[[],[307],[],[],[],[],[125],[],[308,125],[309,309,310],[311,312,313,311,314,315,260,260,316,317,318,319,311],[320,321],[],[323,322],[],[],[324,325],[326,327,328],[],[],[267],[329],[],[267,271,330,331],[]],[[],[],[],[],[341,342,343,344,345,346,347,348,279,279],[],[282],[349],[],[283],[],[350,351,352,353,354,355,356,357,286,286],[],[294],[358,358],[359,360],[361,361,361,362],[],[294,294,294],[287,287],[294,294],[294,294,294,294],[],[144],[]],[[363],[300],[54,173,306,54,173,54],[],[],[],[],[],[364,365],[367,366],[],[],[368,369],[308,370,187,193],[260,317,371,311,372,311],[260,260,260],[373],[],[374,375,376,377,373],[],[],[320,378],[],[],[379,379,380]],[[],[326],[327],[381,366,382],[],[],[383,331,384],[],[],[],[],[],[],[],[],[],[],[385,385],[386,387],[388,388,388,389],[],[],[],[],[390]],[[],[391,391],[359,360],[392,392,392,393],[],[],[],[],[294,294],[224],[],[362],[394,394,394],[],[395],[],[396],[309],[269,258,311,311],[397],[398],[125],[125],[125,125,200,200,399,200,200,399,400,400],[125,125,200,200,399,200,200,399,401,400,402,402,200,200,403,199,404,257]],[[372,374],[125,125,200,200,200,200,405],[125,125,200,200,200,200,405],[],[406],[407,408,408],[409,324,201],[328],[269,410],[],[],[224],[],[389],[411,411,411],[412,413,412,414,413,415],[],[393],[416,416,416],[294],[],[],[],[],[50]],[[],[51,51],[52,52],[96],[96],[199,199,399,399,257],[417],[418],[378],[],[419],[],[420],[],[],[421],[],[422,423,424,425],[390],[],[],[],[],[233,426,427],[]],[[428,429],[],[],[],[430,431],[],[],[],[],[],[],[],[],[],[],[],[],[],[],[],[],[],[],[],[]],[[],[],[],[],[],[],[],[]]]
def cl3:List Nat:=[3,5,15,35,61,62,36,19,107,34,53,97,165,234,235,236,237,168,169,239,240,300,363,301,238,54,57,102,98,55,99,100,166,167,56,101,13,28,27,48,96,164,233,49,58,103,104,170,171,172,105,173,241,302,306,242,303,304,59,60,106,174,175,176,177,29,243,305,178,244,245,246,7,6,8,20,21,17,16,18,37,63,108,38,39,64,109,9,22,24,41,72,129,201,261,320,321,378,262,202,75,264,263,323,322,265,266,324,379,406,417,422,423,426,427,424,425,428,429,430,431,380,407,418,390,412,420,413,414,415,421,408,325,267,326,327,328,381,409,366,396,382,268,130,203,269,270,272,271,329,273,330,331,383,410,419,384,205,204,145,207,206,195,208,210,209,274,73,131,211,74,132,133,212,275,184,247,125,200,199,134,42,76,135,77,40,65,110,43,78,136,79,137,138,139,140,141,142,66,26,47,95,25,45,88,149,218,147,216,280,281,282,349,283,284,285,148,113,180,217,150,81,143,144,213,215,214,276,277,278,224,297,279,341,342,385,343,386,387,344,388,389,411,345,346,347,348,219,286,350,351,391,352,359,360,353,392,393,416,354,355,356,357,220,222,287,221,89,151,223,288,294,289,358,290,291,361,362,394,292,293,295,296,152,90,153,154,155,225,156,188,252,187,251,307,158,162,232,231,299,226,157,227,228,44,80,82,83,84,146,85,86,87,46,91,159,92,93,160,161,229,121,230,298,94,163,111,179,67,112,114,115,182,183,181,248,116,185,249,117,186,250,122,189,191,190,253,126,127,128,254,50,118,192,255,256,119,193,257,68,120,69,70,123,194,258,308,364,395,365,196,197,259,309,367,310,260,311,312,368,369,397,313,370,398,314,317,371,372,315,316,373,399,400,318,374,401,51,402,52,403,404,375,376,405,377,319,198,124,71,10,11,23]
def h3o:Tryz.prog.funcs.toList.map Tryz.prog.leadsTo=(List.range 458).map (d6a 458 [] (two ldA [])):=by kernel_rfl
def h4e:Tryz.prog.closure 3=cl3:=g5y (N:=458) (s:=1459) h3o (by kernel_rfl) (by kernel_rfl)
def h46:(Tryz.prog.funcs.toList.map λfn=>if fn.ours||fn.body.isNone||fn.name== "runtime.NumGoroutine"then some fn.name else none)=(List.range 458).map (d6a 458 none (few none [(0,some Tryz.f0.name),(1,some Tryz.f1.name),(51,some Tryz.f51.name),(52,some Tryz.f52.name),(276,some Tryz.f276.name),(277,some Tryz.f277.name),(278,some Tryz.f278.name),(332,some Tryz.f332.name),(333,some Tryz.f333.name),(334,some Tryz.f334.name),(335,some Tryz.f335.name),(336,some Tryz.f336.name),(337,some Tryz.f337.name),(338,some Tryz.f338.name),(339,some Tryz.f339.name),(340,some Tryz.f340.name),(413,some Tryz.f413.name),(420,some Tryz.f420.name),(432,some Tryz.f432.name),(433,some Tryz.f433.name),(434,some Tryz.f434.name),(435,some Tryz.f435.name),(436,some Tryz.f436.name),(437,some Tryz.f437.name),(438,some Tryz.f438.name),(439,some Tryz.f439.name),(440,some Tryz.f440.name),(441,some Tryz.f441.name),(442,some Tryz.f442.name),(443,some Tryz.f443.name),(444,some Tryz.f444.name),(445,some Tryz.f445.name),(446,some Tryz.f446.name),(447,some Tryz.f447.name),(448,some Tryz.f448.name),(449,some Tryz.f449.name),(450,some Tryz.f450.name),(451,some Tryz.f451.name),(452,some Tryz.f452.name),(453,some Tryz.f453.name),(454,some Tryz.f454.name),(455,some Tryz.f455.name),(456,some Tryz.f456.name)])):=by kernel_rfl
def inPlace3:Tryz.prog.inPlace 3=["internal/bytealg.IndexByteString","internal/bytealg.IndexString","internal/reflectlite.ValueOf","internal/reflectlite.Swapper","(internal/reflectlite.Value).Len","math/bits.Add64","math/bits.Sub64"]:=(e55 h4e h46).trans (by kernel_rfl)
def unfollowed3:Tryz.prog.unfollowed 3=true:=d4u h4e (g:=322) (by kernel_rfl) Tryz.func322 (by kernel_rfl)
def recurses3:Tryz.prog.recurses 3=true:=d9l unfollowed3
def h2p:(Tryz.prog.funcs.toList.map λfn=>fn.body.elim [] Code.globalsNamed)=(List.range 458).map (d6a 458 [] (few [] [(96,[0,1]),(390,[2,2,2]),(423,[3]),(430,[4]),(431,[5]),(457,[4,5,3])])):=by kernel_rfl
def h47:(Tryz.prog.funcs.toList.map λfn=>if fn.body.isNone then entryReads.lookup fn.name else none)=(List.range 458).map (d6a 458 none (few none [(413,some "internal/bytealg.MaxLen")])):=by kernel_rfl
def varsNamed3:Tryz.prog.varsNamed 3=["math/bits.divideError","math/bits.overflowError","internal/strconv.uint64pow10","math/bits.deBruijn32tab","math/bits.deBruijn64tab","internal/bytealg.MaxLen"]:=(d79 h4e h2p h47).trans (by kernel_rfl)
end Go.PL
namespace Go.Proofs.YtkjalpallcedmaaGreatDoor.awardsFuture
open Go
def named:Tryz.pinned.checked.prog.funcNamed Rows.awardsFutureRow.func=some 3:=by kernel_rfl
def pe:Tryz.pinned.checked.prog=Tryz.prog:=rfl
def j2:(laidOutB Tryz.pinned.checked.prog)=true:=by kernel_rfl
def j3:(mapsRowed Tryz.pinned.checked.prog)=true:=by kernel_rfl
def j7:(Tryz.pinned.checked.prog.stops==[])=true:=by kernel_rfl
def j9:(Tryz.pinned.checked.prog.stopKnobs==[])=true:=by kernel_rfl
def j10:(Rows.awardsFutureRow.inPlace==Tryz.pinned.checked.prog.inPlace 3)=true:=by rw[pe,Go.PL.inPlace3];kernel_rfl
def j11:(Rows.awardsFutureRow.unfollowed==Tryz.pinned.checked.prog.unfollowed 3)=true:=by rw[pe,Go.PL.unfollowed3];rfl
def j12:(Rows.awardsFutureRow.recurses==Tryz.pinned.checked.prog.recurses 3)=true:=by rw[pe,Go.PL.recurses3];rfl
def j13:(Rows.awardsFutureRow.named==Tryz.pinned.checked.prog.varsNamed 3)=true:=by rw[pe,Go.PL.varsNamed3];kernel_rfl
def j23:(Rows.awardsFutureRow.plainKeys==Tryz.pinned.checked.prog.plainKeys)=true:=by kernel_rfl
def j25:(Tryz.pinned.checked.prog.stopsHeard)=true:=by kernel_rfl
def g96:joinedFacts Tryz.pinned.checked.prog 3 Tryz.f3 (OpenSpec.ofChange Rows.awardsFutureSpec).bare Rows.awardsFutureRow=true:=by
 unfold joinedFacts;simp only[qB];and_intros;.kernel_rfl
 .exact j2
 .exact j3
 .kernel_rfl
 .kernel_rfl
 .kernel_rfl
 .exact j7
 .kernel_rfl
 .exact j9
 .exact j10
 .exact j11
 .exact j12
 .exact j13
 .kernel_rfl
 .kernel_rfl
 .kernel_rfl
 .kernel_rfl
 .kernel_rfl
 .kernel_rfl
 .kernel_rfl
 .kernel_rfl
 .kernel_rfl
 .exact j23
 .kernel_rfl
 .exact j25
 .kernel_rfl
 .kernel_rfl
 .kernel_rfl
 .kernel_rfl
 .kernel_rfl
 .kernel_rfl
 .kernel_rfl
def inst:Tryz.f3.isInstance Tryz.pinned.checked.prog Rows.awardsFutureRow.origin Rows.awardsFutureRow.targs:=of_decide_eq_true (by kernel_rfl)
def wrap:Tryz.f3.isWrapper Tryz.pinned.checked.prog Rows.awardsFutureRow.wrapper Rows.awardsFutureRow.mainSum:=by unfold Func.isWrapper;first|(rw[if_pos (by decide+kernel)];kernel_rfl)|(rw[if_neg (by decide+kernel)];exact⟨rfl,rfl⟩)
end Go.Proofs.YtkjalpallcedmaaGreatDoor.awardsFuture
