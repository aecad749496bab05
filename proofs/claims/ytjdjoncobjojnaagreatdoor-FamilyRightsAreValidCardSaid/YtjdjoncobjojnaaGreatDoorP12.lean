/- Texts of the proof, joined. -/
import Derived.Test.YtjdjoncobjojnaaGreatDoorP11
import GoSem.ClaimFn
import Derived.KernelRfl
import Derived.Test.YtjdjoncobjojnaaGreatDoorProg
import Derived.Test.YtjdjoncobjojnaaGreatDoorRows
import Derived.JoinedCond
set_option linter.defProp false
set_option linter.unusedVariables false
set_option linter.unusedSimpArgs false
set_option maxRecDepth 100000
namespace Go.PL
open Go
def e5i(ld:Nat->List Nat):Nat->List Nat->List Nat->Nat->List Nat|0,_,seen,_=>seen.reverse|_+1,[],seen,_=>seen.reverse|n+1,f::todo,seen,m=>match Nat.testBit m f with|true=>e5i ld n todo seen m|false=>e5i ld n (ld f++todo) (f::seen) (m|||2^f)
def d4y{P:Program}{ld:Nat->List Nat}(h:∀f,(P.funcs[f]?).elim [] P.leadsTo=ld f):∀(n:Nat)(todo seen:List Nat)(m:Nat),(∀f,seen.contains f=m.testBit f)->P.closureVia n todo seen=e5i ld n todo seen m|0,todo,seen,m,_=>by cases todo<;>rfl|n+1,[],seen,m,_=>rfl|n+1,f::todo,seen,m,hm=>by have hf:=hm f;show(if seen.contains f then P.closureVia n todo seen else P.closureVia n ((P.funcs[f]?).elim [] P.leadsTo++todo) (f::seen))=match Nat.testBit m f with|true=>e5i ld n todo seen m|false=>e5i ld n (ld f++todo) (f::seen) (m|||2^f);rw[hf];cases hb:Nat.testBit m f with|true=>rw[if_pos rfl];exact d4y h n todo seen m hm|false=>
     rw[if_neg (by simp),h f];refine d4y h n _ _ _ λg=>?_;rw[List.contains_cons,hm g,Nat.testBit_or,Nat.testBit_two_pow,Bool.or_comm];congr 1;by_cases e:g=f;.subst e;simp
     .have e2:¬f=g:=λh=>e h.symm;simp[e,e2]
def d40{α:Type}{P:Program}{q:Func->α}{d:α}{t:Nat->α}{N:Nat}(h:P.funcs.toList.map q=(List.range N).map t)(hd:∀f,N<=f->t f=d)(f:Nat):(P.funcs[f]?).elim d q=t f:=by
 have e:(P.funcs.toList.map q)[f]?=((List.range N).map t)[f]?:=by rw[h]
 rw[List.getElem?_map,List.getElem?_map,Array.getElem?_toList]at e;by_cases hf:f<N;.rw[List.getElem?_range hf]at e;cases hp:P.funcs[f]?with|none=>rw[hp]at e;cases e|some fn=>rw[hp]at e;exact qH e
 .rw[List.getElem?_eq_none (by simp;omega)]at e;cases hp:P.funcs[f]?with|none=>exact(hd f (by omega)).symm|some fn=>rw[hp]at e;cases e
def d6a{α:Type}(N:Nat)(d:α)(t:Nat->α)(f:Nat):α:=bif Nat.ble N f then d else t f
def h2m{α:Type}(d:α):List α->Nat->α|[],_=>d|a::r,n=>match n with|0=>a|n+1=>h2m d r n
def two{α:Type}(A:List (List α))(d:α)(f:Nat):α:=h2m d (h2m [] A (f/25)) (f%25)
def few{α:Type}(d:α):List (Nat×α)->Nat->α|[],_=>d|q::r,n=>bif Nat.beq q.1 n then q.2else few d r n
def e3l{α:Type}{N:Nat}{d:α}{t:Nat->α}(f:Nat)(h:N<=f):d6a N d t f=d:=by unfold d6a;rw[Nat.ble_eq_true_of_le h];rfl
section
variable {P:Program} {ld:Nat -> List Nat} {N s f:Nat} {C:List Nat}
def g5y(h:P.funcs.toList.map P.leadsTo=(List.range N).map (d6a N [] ld))(hs:(((List.range N).map (d6a N [] ld)).map λl=>l.length+1).sum=s)(hC:e5i (d6a N [] ld) (1+s) [f] [] 0=C):P.closure f=C:=by
 unfold Program.closure;have e:(P.funcs.toList.map λg=>(P.leadsTo g).length+1)=(P.funcs.toList.map P.leadsTo).map λl=>l.length+1:=by rw[List.map_map];rfl
 rw[e,h,hs,d4y (d40 h e3l) _ _ _ 0 (λg=>by simp),hC]
def e55(hc:P.closure f=C){t:Nat->Option String}(h:(P.funcs.toList.map λfn=>if fn.ours||fn.body.isNone||fn.name== "runtime.NumGoroutine"then some fn.name else none)=(List.range N).map (d6a N none t)):P.inPlace f=C.filterMap (d6a N none t):=by unfold Program.inPlace;rw[hc];congr 1;funext g;rw[<-d40 h e3l g];cases P.funcs[g]?<;>rfl
def d4u(hc:P.closure f=C){g:Nat}{fn:Func}(hg:C.contains g=true)(hfn:P.funcs[g]?=some fn)(h:(match fn.body with|some c=>c.unfollowed|none=>entryCalls fn)=true):P.unfollowed f=true:=by unfold Program.unfollowed;rw[hc,List.any_eq_true];refine⟨g,by simpa using hg,?_⟩;rw[hfn];exact h
def d9l(h:P.unfollowed f=true):P.recurses f=true:=by unfold Program.recurses;rw[h];rfl
def d79(hc:P.closure f=C){gl:Nat->List Nat}{er:Nat->Option String}(h:(P.funcs.toList.map λfn=>fn.body.elim [] Code.globalsNamed)=(List.range N).map (d6a N [] gl))(h2:(P.funcs.toList.map λfn=>if fn.body.isNone then entryReads.lookup fn.name else none)=(List.range N).map (d6a N none er)):P.varsNamed f=(((C.flatMap (d6a N [] gl)).eraseDups).filterMap (λg=>(P.globals[g]?).map (·.name))++C.filterMap (d6a N none er)).eraseDups:=by
 unfold Program.varsNamed;rw[hc];have e1:(λg=>((P.funcs[g]?).bind (·.body)).elim [] Code.globalsNamed)=d6a N [] gl:=funext λg=>by rw[<-d40 h e3l g];cases P.funcs[g]?<;>rfl
 have e2:(λg=>(P.funcs[g]?).bind λfn=>if fn.body.isNone then entryReads.lookup fn.name else none)=d6a N none er:=funext λg=>by rw[<-d40 h2 e3l g];cases P.funcs[g]?<;>rfl
 rw[e1,e2]
end
end Go.PL
namespace Go.PL
open Go Go.Proofs
def ldA:List (List (List Nat)):=[[[],[],[1],[5,6,7,8,9,12,11,12,11,10],[5,6,7,8,12,11,13,9,14,15],[17,16,18,8,18,8],[18,8,18,8,18,8,18,8,18,8,18,8,18,8,18,8,18,8,18,8,18,8,18,8,18,8],[19],[],[20,21,22],[],[23,24,25,27,26,28,29,31,32],[8],[33,34],[],[24,25],[35,36,37,36,38,36,39,40,41,42],[43,44,18,8,44,18,8,44],[8],[8,8,8,8,8,8,45,8,8,8,8,46,8,8,8,8,8,8,8,8],[47,48,49,51,50],[20,55],[],[56,57],[59,58]],[[60,27,61,60],[62,64,63,65,66,68,67,69,70],[72,71],[],[30],[73,73],[74,75],[],[],[76],[77],[39,78],[79,80,78],[79,81,78],[82],[36,79,83,78,36,36,84,38,36,39,85],[],[80,86],[],[18,8,43,18,8,18,8,43,18,8,18,8,43,18,8,18,8,87,18,8,87,18,8,87,18,8,43,18,8,43,18,8,43,18,8,43,18,8,87,18,8,18,8,43,18,8,43,18,8,43,18,8,18,8,87,18,8],[8,8,8,8,8],[],[89,88],[90,91,92,93,93],[]],[[95,94],[30,30,54,54,53,30,52],[],[96,96,97,97,52],[98],[99,90,90,91,100,48,102,101,98,98,102,96,101],[],[103,104,103],[71,105],[107,107,106,108,109],[27,110],[112,111],[113,114],[],[],[],[115,116,117],[118,119,121,120],[122,123],[118,119,124],[92,100,102,101],[],[],[],[]],[[125],[126],[127],[],[],[128,129],[130,131],[],[132],[79,133,134,135,78],[39,84,39,38,39,38,79,81,78,39,37,36,136,39,84,36,136,36,136,39,84,36,136,78,36],[137,138,139,140,80,141,139,141,141,139,141],[43,43,43],[142],[],[],[143],[145,145,144],[],[146,147,148,149,150,151,152,153,94,94],[154,155],[],[156,156],[],[]],[[],[157],[],[158],[],[159],[],[159,106,108,109],[30,30,52],[160],[161],[162],[],[58,163,164,165],[122,166,167,168,169,170,171],[],[172],[173,174,175,176,177,178,178,178,178],[179,122],[180,66],[119,181,182,183,184,185,185,185,185,185,185,186,187,188],[189,189,190,191],[115,192,193],[194],[195,197,196,198,199,198,199]],[[200,200,200],[],[201,202,203,204,203,130,132,205],[202,204],[],[204],[207,207,206],[208,208,208,209],[],[],[],[39,136,136,36,136,36,136,39,136,136,210,136,211,136],[],[],[133,134,135],[212,213],[214,215,216],[],[56,103],[],[],[],[217,217],[218,219],[220,220,220,221]],[[],[],[],[],[],[],[],[222],[],[223,224,226,226,226,226,227,227,228,227,227,227,227],[159,159,230,230,229],[105],[],[182,110],[58,163,231,232,233],[234],[],[166],[235],[235,237,236,171,235,238,123],[235,239,240],[115,163,241,105],[],[],[]],[[],[],[],[178],[242,165,48],[],[105,243,244],[161],[115,115,184,184,245],[115,104,246,104,103,103],[123,247],[48,248,184,184,237,236,249,231,247,250,55],[251],[252],[123],[66,254,253,255],[256,190],[257],[],[],[258,259],[],[],[260,261,261],[]],[[],[],[],[202,204],[],[],[262,263,262],[],[],[76,34],[79,81,39,136,39,136,36,39,36,38,36,82,264,82,264,82,264,37],[265,266,82],[207,263],[212,207,267,267],[214],[215],[268,140,80,216],[],[95],[],[221],[269,269,269],[155],[],[225]],[[270],[],[226],[],[271],[159,272,272,272,223,272,272,272,272,272,272,272],[273],[95,274],[30,30,30,52],[115,275,275,275,275],[123,166],[276,243],[277],[243,244],[],[30],[279,278],[280,259],[95,281],[],[184,158,57],[158],[282],[58,283,284,231,163,231],[57,57]],[[159],[285,285,286,286,96,157],[145,145,144,287],[288,289,231,290,291,292,231,293,294],[113,295,114],[296,297,299],[],[],[300,92],[301,303,302,305,304,306,306,308,307,306],[309,309,310],[311,312,313,311,314,315,261,261,316,317,318,319,311],[157],[],[36,136,268,36,136,36],[],[],[],[],[],[320],[],[],[321,321],[322,323,324,325,326,327,328,329,274,274]],[[],[330],[],[331],[],[332,333],[334,335,336,337,338,339,340,341,342,281,281],[321],[],[321],[],[92],[],[],[321],[],[344,343],[105,163,231],[58,163,231,231,294,321],[321],[243,244],[345],[298],[346,347],[321,243,244,241,348]],[[349,350],[351,352,354,353,355],[343],[],[196],[],[355],[356],[],[358,357],[],[],[359,360],[300,361,236,252],[261,317,362,311,363,311],[261,261,261],[364],[],[365,366,367,368,364],[],[369,370,369,371,370,372],[373,375,374],[],[376,376],[218,219]],[[377,377,377,378],[],[],[],[],[],[],[379,380],[115,382,381,383,381,384,332,385,386,381,385,385,386,381,385],[340],[387,387],[218,219],[388,388,388,389],[],[340,340,340],[73,73],[340,340],[340,340,340,340],[],[],[321],[241],[390,390,390,391,391],[],[392]],[[],[],[385],[393],[],[385,353,394,395],[],[396],[309],[351,258,311,311],[397],[398],[92],[92],[92,92,145,145,399,145,145,399,400,400],[92,92,145,145,399,145,145,399,401,400,402,402,145,145,403,144,404,287],[363,365],[92,92,145,145,145,145,405],[92,92,145,145,145,145,405],[406],[],[],[407],[],[408,409,410,95,411]],[[],[],[378],[412,412,412],[413,414],[],[416,415],[],[],[417,418],[419,420,421],[],[340,340],[389],[422,422,422],[231,423],[231,424],[],[],[],[425,395,426],[],[],[],[96]],[[],[427,427],[428,428],[157],[157],[144,144,399,399,287],[],[],[],[],[],[438,439,440,441,442,443,444,445,411,411],[],[],[413,446],[],[],[447,447,448],[],[419],[420],[449,357,450],[340],[321],[321]],[[351,451],[],[],[],[],[],[],[],[],[],[],[],[],[],[452,452],[453,454],[455,455,455,456],[],[],[],[],[],[457],[458,459,459],[460,417,332]],[[421],[461],[],[95],[],[456],[462,462,462],[463],[464],[446],[],[],[],[465,466,467,468],[320],[],[155,469,470],[],[471,472],[],[],[],[473,474],[],[]],[[],[],[],[],[],[],[],[],[],[],[],[],[],[],[],[],[],[],[],[],[],[],[],[],[]],[[],[],[]]]
def cl4:List Nat:=[4,5,17,43,44,18,8,87,16,35,77,127,201,202,203,204,130,132,208,209,76,126,34,205,36,39,82,78,37,79,80,128,129,38,81,131,207,206,262,157,222,155,263,40,83,84,133,134,135,85,136,210,264,268,211,265,266,41,42,86,137,138,139,140,212,213,267,141,214,215,216,6,7,19,45,46,12,11,23,56,57,103,158,104,24,59,107,159,223,224,225,270,320,369,406,370,371,372,407,226,227,228,106,108,30,73,52,109,160,230,272,229,271,58,71,105,25,60,27,72,110,161,61,112,111,162,26,62,113,163,182,164,231,273,321,373,375,374,408,409,410,95,154,411,438,439,452,440,453,454,441,455,456,462,442,443,444,445,232,274,322,323,376,324,218,219,325,377,378,412,326,327,328,329,233,165,234,115,275,114,122,192,257,193,166,167,168,235,123,194,169,237,277,236,276,330,243,281,334,340,335,387,336,337,388,389,422,338,339,341,342,171,241,279,278,331,238,244,170,239,240,64,63,65,66,116,172,117,173,174,175,176,177,178,68,67,118,179,242,280,332,379,413,414,446,380,333,382,381,416,415,383,384,417,447,457,463,465,466,469,470,467,468,471,472,473,474,448,458,464,459,418,385,419,420,421,449,460,357,396,450,386,259,301,351,352,354,353,393,355,394,395,425,451,461,426,303,302,343,305,304,196,306,308,307,356,48,90,91,143,92,145,144,93,119,180,121,189,190,254,295,253,288,289,290,291,344,292,293,294,255,296,345,297,298,346,347,390,423,391,424,299,348,191,256,120,181,183,184,246,245,185,247,282,186,248,283,284,249,250,55,99,100,102,101,98,96,187,251,285,286,188,252,287,69,124,195,258,300,349,392,350,197,198,260,309,358,310,261,311,312,359,360,397,313,361,398,314,317,362,363,315,316,364,399,400,318,365,401,427,402,428,403,404,366,367,405,368,319,199,70,28,29,31,74,75,125,200,32,13,33,9,20,47,89,88,142,49,51,54,53,97,156,50,94,146,147,217,148,149,220,221,269,150,151,152,153,21,22,14,15]
def h3o:Tryz.prog.funcs.toList.map Tryz.prog.leadsTo=(List.range 503).map (d6a 503 [] (two ldA [])):=by kernel_rfl
def l0n:Tryz.prog.closure 4=cl4:=g5y (N:=503) (s:=1559) h3o (by kernel_rfl) (by kernel_rfl)
def h46:(Tryz.prog.funcs.toList.map λfn=>if fn.ours||fn.body.isNone||fn.name== "runtime.NumGoroutine"then some fn.name else none)=(List.range 503).map (d6a 503 none (few none [(0,some Tryz.f0.name),(1,some Tryz.f1.name),(74,some Tryz.f74.name),(271,some Tryz.f271.name),(370,some Tryz.f370.name),(406,some Tryz.f406.name),(408,some Tryz.f408.name),(409,some Tryz.f409.name),(410,some Tryz.f410.name),(427,some Tryz.f427.name),(428,some Tryz.f428.name),(429,some Tryz.f429.name),(430,some Tryz.f430.name),(431,some Tryz.f431.name),(432,some Tryz.f432.name),(433,some Tryz.f433.name),(434,some Tryz.f434.name),(435,some Tryz.f435.name),(436,some Tryz.f436.name),(437,some Tryz.f437.name),(475,some Tryz.f475.name),(476,some Tryz.f476.name),(477,some Tryz.f477.name),(478,some Tryz.f478.name),(479,some Tryz.f479.name),(480,some Tryz.f480.name),(481,some Tryz.f481.name),(482,some Tryz.f482.name),(483,some Tryz.f483.name),(484,some Tryz.f484.name),(485,some Tryz.f485.name),(486,some Tryz.f486.name),(487,some Tryz.f487.name),(488,some Tryz.f488.name),(489,some Tryz.f489.name),(490,some Tryz.f490.name),(491,some Tryz.f491.name),(492,some Tryz.f492.name),(493,some Tryz.f493.name),(494,some Tryz.f494.name),(495,some Tryz.f495.name),(496,some Tryz.f496.name),(497,some Tryz.f497.name),(498,some Tryz.f498.name),(499,some Tryz.f499.name),(500,some Tryz.f500.name),(501,some Tryz.f501.name)])):=by kernel_rfl
def inPlace4:Tryz.prog.inPlace 4=["internal/bytealg.IndexByteString","internal/bytealg.IndexString","internal/bytealg.Compare","internal/reflectlite.ValueOf","internal/reflectlite.Swapper","(internal/reflectlite.Value).Len","math/bits.Add64","math/bits.Sub64","slices.overlaps[pension/api.Right]"]:=(e55 l0n h46).trans (by kernel_rfl)
def unfollowed4:Tryz.prog.unfollowed 4=true:=d4u l0n (g:=159) (by kernel_rfl) Tryz.func159 (by kernel_rfl)
def recurses4:Tryz.prog.recurses 4=true:=d9l unfollowed4
def h2p:(Tryz.prog.funcs.toList.map λfn=>fn.body.elim [] Code.globalsNamed)=(List.range 503).map (d6a 503 [] (few [] [(21,[0]),(157,[1,2]),(320,[3,3,3]),(466,[4]),(473,[5]),(474,[6]),(502,[5,6,4,0])])):=by kernel_rfl
def h47:(Tryz.prog.funcs.toList.map λfn=>if fn.body.isNone then entryReads.lookup fn.name else none)=(List.range 503).map (d6a 503 none (few none [(370,some "internal/bytealg.MaxLen")])):=by kernel_rfl
def varsNamed4:Tryz.prog.varsNamed 4=["math/bits.divideError","math/bits.overflowError","internal/bytealg.MaxLen","internal/strconv.uint64pow10","math/bits.deBruijn32tab","math/bits.deBruijn64tab","pension/family.down"]:=(d79 l0n h2p h47).trans (by kernel_rfl)
end Go.PL
namespace Go.Proofs.YtjdjoncobjojnaaGreatDoor.familyRightsAreValid
open Go
def named:Tryz.pinned.checked.prog.funcNamed Rows.familyRightsAreValidRow.func=some 4:=by kernel_rfl
def pe:Tryz.pinned.checked.prog=Tryz.prog:=rfl
def j2:(laidOutB Tryz.pinned.checked.prog)=true:=by kernel_rfl
def j3:(mapsRowed Tryz.pinned.checked.prog)=true:=by kernel_rfl
def j7:(Tryz.pinned.checked.prog.stops==[])=true:=by kernel_rfl
def j9:(Tryz.pinned.checked.prog.stopKnobs==[])=true:=by kernel_rfl
def j10:(Rows.familyRightsAreValidRow.inPlace==Tryz.pinned.checked.prog.inPlace 4)=true:=by rw[pe,Go.PL.inPlace4];kernel_rfl
def j11:(Rows.familyRightsAreValidRow.unfollowed==Tryz.pinned.checked.prog.unfollowed 4)=true:=by rw[pe,Go.PL.unfollowed4];rfl
def j12:(Rows.familyRightsAreValidRow.recurses==Tryz.pinned.checked.prog.recurses 4)=true:=by rw[pe,Go.PL.recurses4];rfl
def j13:(Rows.familyRightsAreValidRow.named==Tryz.pinned.checked.prog.varsNamed 4)=true:=by rw[pe,Go.PL.varsNamed4];kernel_rfl
def j23:(Rows.familyRightsAreValidRow.plainKeys==Tryz.pinned.checked.prog.plainKeys)=true:=by kernel_rfl
def j25:(Tryz.pinned.checked.prog.stopsHeard)=true:=by kernel_rfl
def g96:joinedFacts Tryz.pinned.checked.prog 4 Tryz.f4 (OpenSpec.ofChange Rows.familyRightsAreValidSpec).bare Rows.familyRightsAreValidRow=true:=by
 unfold joinedFacts;simp only[qB];and_intros;.kernel_rfl
 .exact j2
 .exact j3
 .kernel_rfl
 .kernel_rfl
 .kernel_rfl
 .exact j7
 .kernel_rfl
 .exact j9
 .exact j10
 .exact j11
 .exact j12
 .exact j13
 .kernel_rfl
 .kernel_rfl
 .kernel_rfl
 .kernel_rfl
 .kernel_rfl
 .kernel_rfl
 .kernel_rfl
 .kernel_rfl
 .kernel_rfl
 .exact j23
 .kernel_rfl
 .exact j25
 .kernel_rfl
 .kernel_rfl
 .kernel_rfl
 .kernel_rfl
 .kernel_rfl
 .kernel_rfl
 .kernel_rfl
def inst:Tryz.f4.isInstance Tryz.pinned.checked.prog Rows.familyRightsAreValidRow.origin Rows.familyRightsAreValidRow.targs:=of_decide_eq_true (by kernel_rfl)
def wrap:Tryz.f4.isWrapper Tryz.pinned.checked.prog Rows.familyRightsAreValidRow.wrapper Rows.familyRightsAreValidRow.mainSum:=by unfold Func.isWrapper;first|(rw[if_pos (by decide+kernel)];kernel_rfl)|(rw[if_neg (by decide+kernel)];exact⟨rfl,rfl⟩)
end Go.Proofs.YtjdjoncobjojnaaGreatDoor.familyRightsAreValid
