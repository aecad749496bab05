/- Texts of the proof, joined. -/
import Derived.Test.YtkjalpallcedmaaGreatDoorP10
import Derived.Shelf.SlIterI.Sorted
import Derived.Shelf.SortM.Plain
import Derived.Shelf.SortM.SortNone
import Derived.Lib.SlKeysI
import Derived.Test.YtkjalpallcedmaaGreatDoorProg
import Derived.KernelRfl
set_option linter.defProp false
set_option linter.unusedVariables false
set_option linter.unusedSimpArgs false
set_option maxRecDepth 100000
open List
namespace Go.Proofs
open Go.Shelf
def Tryz.keysA_ren:Go.Shelf.Ren:=⟨λ|7=>188|10=>252|n=>n,λ|23=>312|26=>3|3=>3|28=>317|0=>0|27=>316|33=>94|4=>4|n=>n,λ|n=>n⟩
def Tryz.keysA:Go.Proofs.SlLaysZI.n7 Tryz.prog Tryz.keysA_ren:={
 mixed:=by kernel_rfl
 f7:=⟨Tryz.f188.name,by decide,Tryz.func188.trans (congrArg some (by kernel_rfl))⟩
 f10:=⟨Tryz.f252.name,by decide,Tryz.func252.trans (congrArg some (by kernel_rfl))⟩
 t0:=Tryz.underlying0
 a0:=Tryz.isAgg0
 z0:=Tryz.sizeOf0
 v0:=Tryz.zeroValue0
 t4:=Tryz.underlying4
 a4:=Tryz.isAgg4
 z4:=Tryz.sizeOf4
 v4:=Tryz.zeroValue4
 t23:=Tryz.underlying312
 a23:=Tryz.isAgg312
 z23:=Tryz.sizeOf312
 v23:=Tryz.zeroValue312
 t26:=Tryz.underlying3
 a26:=Tryz.isAgg3
 z26:=Tryz.sizeOf3
 v26:=Tryz.zeroValue3
 t27:=Tryz.underlying316
 a27:=Tryz.isAgg316
 z27:=Tryz.sizeOf316
 v27:=Tryz.zeroValue316
 t28:=Tryz.underlying317
 a28:=Tryz.isAgg317
 z28:=Tryz.sizeOf317
 v28:=Tryz.zeroValue317
 t33:=Tryz.underlying94
 a33:=Tryz.isAgg94
 z33:=Tryz.sizeOf94
 v33:=Tryz.zeroValue94}
def Tryz.sortedA_ren:Go.Shelf.Ren:=⟨λ|6=>187|8=>251|9=>151|11=>307|13=>224|12=>223|23=>297|24=>233|14=>288|15=>289|16=>290|17=>291|18=>292|19=>293|20=>294|21=>295|22=>296|25=>358|26=>359|27=>360|28=>361|29=>362|30=>287|31=>394|n=>n,λ|26=>3|28=>317|24=>23|0=>0|3=>3|37=>225|48=>409|50=>96|4=>4|40=>403|39=>402|45=>196|5=>5|9=>9|51=>445|55=>449|57=>469|58=>168|33=>94|n=>n,λ|n=>n⟩
def Tryz.sortedA:Go.Proofs.SlLaysZI.n6 Tryz.prog Tryz.sortedA_ren:={
 mixed:=by kernel_rfl
 f6:=⟨Tryz.f187.name,by decide,Tryz.func187.trans (congrArg some (by kernel_rfl))⟩
 f8:=⟨Tryz.f251.name,by decide,Tryz.func251.trans (congrArg some (by kernel_rfl))⟩
 f11:=⟨Tryz.f307.name,by decide,Tryz.func307.trans (congrArg some (by kernel_rfl))⟩
 t0:=Tryz.underlying0
 a0:=Tryz.isAgg0
 z0:=Tryz.sizeOf0
 v0:=Tryz.zeroValue0
 t24:=Tryz.underlying23
 a24:=Tryz.isAgg23
 z24:=Tryz.sizeOf23
 v24:=Tryz.zeroValue23
 t26:=Tryz.underlying3
 a26:=Tryz.isAgg3
 z26:=Tryz.sizeOf3
 v26:=Tryz.zeroValue3
 t28:=Tryz.underlying317
 a28:=Tryz.isAgg317
 z28:=Tryz.sizeOf317
 v28:=Tryz.zeroValue317
 i26:=by kernel_rfl}
def Tryz.sortA_ren:Go.Shelf.Ren:=⟨λ|5=>151|8=>224|7=>223|19=>297|20=>233|10=>288|11=>289|12=>290|13=>291|14=>292|15=>293|16=>294|17=>295|18=>296|30=>358|31=>359|32=>360|33=>361|34=>362|35=>287|40=>394|n=>n,λ|23=>23|25=>3|3=>3|32=>225|22=>23|0=>0|44=>409|46=>96|4=>4|36=>403|35=>402|41=>196|5=>5|9=>9|53=>445|57=>449|63=>469|64=>168|n=>n,λ|n=>n⟩
def Tryz.sortA:Go.Proofs.SlLaysM.n5 Tryz.prog Tryz.sortA_ren:={
 mixed:=by kernel_rfl
 f5:=⟨Tryz.f151.name,by decide,Tryz.func151.trans (congrArg some (by kernel_rfl))⟩
 f7:=⟨Tryz.f223.name,by decide,Tryz.func223.trans (congrArg some (by kernel_rfl))⟩
 f8:=Tryz.func224.trans (congrArg some (by kernel_rfl))
 f10:=⟨Tryz.f288.name,by decide,Tryz.func288.trans (congrArg some (by kernel_rfl))⟩
 f11:=⟨Tryz.f289.name,by decide,Tryz.func289.trans (congrArg some (by kernel_rfl))⟩
 f12:=⟨Tryz.f290.name,by decide,Tryz.func290.trans (congrArg some (by kernel_rfl))⟩
 f13:=⟨Tryz.f291.name,by decide,Tryz.func291.trans (congrArg some (by kernel_rfl))⟩
 f14:=⟨Tryz.f292.name,by decide,Tryz.func292.trans (congrArg some (by kernel_rfl))⟩
 f15:=⟨Tryz.f293.name,by decide,Tryz.func293.trans (congrArg some (by kernel_rfl))⟩
 f16:=⟨Tryz.f294.name,by decide,Tryz.func294.trans (congrArg some (by kernel_rfl))⟩
 f17:=⟨Tryz.f295.name,by decide,Tryz.func295.trans (congrArg some (by kernel_rfl))⟩
 f18:=⟨Tryz.f296.name,by decide,Tryz.func296.trans (congrArg some (by kernel_rfl))⟩
 f19:=Tryz.func297.trans (congrArg some (by kernel_rfl))
 f20:=Tryz.func233.trans (congrArg some (by kernel_rfl))
 f30:=⟨Tryz.f358.name,by decide,Tryz.func358.trans (congrArg some (by kernel_rfl))⟩
 f31:=Tryz.func359.trans (congrArg some (by kernel_rfl))
 f32:=Tryz.func360.trans (congrArg some (by kernel_rfl))
 f33:=⟨Tryz.f361.name,by decide,Tryz.func361.trans (congrArg some (by kernel_rfl))⟩
 f34:=⟨Tryz.f362.name,by decide,Tryz.func362.trans (congrArg some (by kernel_rfl))⟩
 f35:=⟨Tryz.f287.name,by decide,Tryz.func287.trans (congrArg some (by kernel_rfl))⟩
 f40:=⟨Tryz.f394.name,by decide,Tryz.func394.trans (congrArg some (by kernel_rfl))⟩
 t0:=Tryz.underlying0
 a0:=Tryz.isAgg0
 z0:=Tryz.sizeOf0
 v0:=Tryz.zeroValue0
 t3:=Tryz.underlying3
 a3:=Tryz.isAgg3
 z3:=Tryz.sizeOf3
 v3:=Tryz.zeroValue3
 t4:=Tryz.underlying4
 a4:=Tryz.isAgg4
 z4:=Tryz.sizeOf4
 v4:=Tryz.zeroValue4
 t5:=Tryz.underlying5
 a5:=Tryz.isAgg5
 z5:=Tryz.sizeOf5
 v5:=Tryz.zeroValue5
 t9:=Tryz.underlying9
 a9:=Tryz.isAgg9
 z9:=Tryz.sizeOf9
 v9:=Tryz.zeroValue9
 t22:=Tryz.underlying23
 a22:=Tryz.isAgg23
 z22:=Tryz.sizeOf23
 v22:=Tryz.zeroValue23
 t23:=Tryz.underlying23
 a23:=Tryz.isAgg23
 z23:=Tryz.sizeOf23
 v23:=Tryz.zeroValue23
 t25:=Tryz.underlying3
 a25:=Tryz.isAgg3
 z25:=Tryz.sizeOf3
 v25:=Tryz.zeroValue3
 t32:=Tryz.underlying225
 a32:=Tryz.isAgg225
 z32:=Tryz.sizeOf225
 v32:=Tryz.zeroValue225
 t35:=Tryz.underlying402
 a35:=Tryz.isAgg402
 z35:=Tryz.sizeOf402
 v35:=Tryz.zeroValue402
 t36:=Tryz.underlying403
 a36:=Tryz.isAgg403
 z36:=Tryz.sizeOf403
 v36:=Tryz.zeroValue403
 t41:=Tryz.underlying196
 a41:=Tryz.isAgg196
 z41:=Tryz.sizeOf196
 v41:=Tryz.zeroValue196
 t44:=Tryz.underlying409
 a44:=Tryz.isAgg409
 z44:=Tryz.sizeOf409
 v44:=Tryz.zeroValue409
 t46:=Tryz.underlying96
 a46:=Tryz.isAgg96
 z46:=Tryz.sizeOf96
 v46:=Tryz.zeroValue96
 t53:=Tryz.underlying445
 a53:=Tryz.isAgg445
 z53:=Tryz.sizeOf445
 v53:=Tryz.zeroValue445
 t57:=Tryz.underlying449
 a57:=Tryz.isAgg449
 z57:=Tryz.sizeOf449
 v57:=Tryz.zeroValue449
 t63:=Tryz.underlying469
 a63:=Tryz.isAgg469
 z63:=Tryz.sizeOf469
 v63:=Tryz.zeroValue469
 t64:=Tryz.underlying168
 a64:=Tryz.isAgg168
 z64:=Tryz.sizeOf168
 v64:=Tryz.zeroValue168}
end Go.Proofs
namespace Go.PL
open Go Go.SX Go.Proofs Go.RowKit Go.Maps Go.Sort Go.WideElems Go.WideShapes
def f3i{P:Program}{k:TypeId}(hk:P.underlying k=some (.int .i64)){w:World}{mb:Nat}{l:List (Int×Int)}(hn:(l.map (·.1)).Nodup)(hm:w.heap[mb]?=some (b92 l))(hw:(l.all λq=>c4v q.1)=true)(hl:l.length<=1000000):∃D0:DataW Unit,w.ownsMap P k (λ_=>some (.nil,[])) mb l.length D0/\(intKeys D0).Perm (l.map (·.1))/\Maps.size D0=l.length:=by
 have hlen:(l.zipIdx.map λq=>({key:=.int .i64 q.1.1,val:=.int .i64 q.1.2,born:=q.2}:MapEntry)).length=l.length:=by simp
 have hrd:∀q∈l.zipIdx,WideElems.rd P k (λ_=>some ((.nil:DataW Unit),[])) ({key:=.int .i64 q.1.1,val:=.int .i64 q.1.2,born:=q.2}:MapEntry)=some (.int .i64 q.1.1,.nil):=by
  intro q hq;have hm:q.1∈l:=by obtain⟨j,hj⟩:=mem_iff_getElem?.1 hq;rw[getElem?_zipIdx]at hj;cases hL:l[j]?with|none=>rw[hL]at hj;cases hj|some p=>rw[hL]at hj;obtain rfl:=qH hj;exact qE hL
  have h1:=qX.1 hw q.1 hm;have h2:(Lit.int .i64 q.1.1).wf=true:=by unfold c4v at h1;simp only[qB,decide_eq_true_eq]at h1;simp[Lit.wf,IntKind.min,IntKind.max,IntKind.signed,IntKind.bits];omega
  simp[WideElems.rd,keyOf,hk,mapKey,h2]
 have hborn:(l.zipIdx.map λq=>q.2)=List.range l.length:=by rw[List.range_eq_range'];exact zipIdx_map_snd 0 l
 have hkeys:(l.zipIdx.map λq=>q.1.1)=l.map (·.1):=by
  have:(l.zipIdx.map (·.1)).map (·.1)=l.map (·.1):=by rw[zipIdx_map_fst]
  rw[<-this,List.map_map];rfl
 refine⟨_,⟨_,_,hm,⟨?_,?_,?_⟩,by simp,rfl⟩,?_,?_⟩;.simp[maxLen];omega
 .rw[MapKept.stamped_iff];refine⟨λx hx=>?_,?_,?_⟩;.obtain⟨q,hq,rfl⟩:=List.mem_map.1 hx;have:q.2∈l.zipIdx.map λq=>q.2:=List.mem_map.2 ⟨q,hq,rfl⟩;rw[hborn]at this;exact List.mem_range.1 this
  .show((l.zipIdx.map λq=>({key:=.int .i64 q.1.1,val:=.int .i64 q.1.2,born:=q.2}:MapEntry)).map (·.born)).Nodup;rw[List.map_map];exact(show(l.zipIdx.map λq=>q.2).Nodup by rw[hborn];exact nodup_range)
  .show(l.zipIdx.map λq=>({key:=.int .i64 q.1.1,val:=.int .i64 q.1.2,born:=q.2}:MapEntry)).Pairwise λx y=>x.key≠y.key;rw[pairwise_map];have h1:(l.zipIdx.map λq=>q.1.1).Nodup:=by rw[hkeys];exact hn
   exact(List.pairwise_map.1 h1).imp λh e=>h (by simpa using e)
 .intro x hx;obtain⟨q,hq,rfl⟩:=List.mem_map.1 hx;exact⟨_,hrd q hq⟩
 .show(((((l.zipIdx.map λq=>({key:=.int .i64 q.1.1,val:=.int .i64 q.1.2,born:=q.2}:MapEntry))).map (WideElems.rg P k λ_=>some ((.nil:DataW Unit),[]))).foldr DataW.insert []).map λp=>intOf p.1).Perm _;refine((sorted_perm _).map _).trans ?_;rw[List.map_map,List.map_map,<-hkeys];refine List.Perm.of_eq (List.map_congr_left λq hq=>?_);simp[WideElems.rg,hrd q hq,intOf]
 .show(((l.zipIdx.map λq=>({key:=.int .i64 q.1.1,val:=.int .i64 q.1.2,born:=q.2}:MapEntry)).map (WideElems.rg P k λ_=>some ((.nil:DataW Unit),[]))).foldr DataW.insert []).length=l.length;rw[length_sorted];simp
def g2s{B:Nat}{e:TypeId}{w:World}{v:Go.Value}{n:Nat}{l:List Int}(h:w.ownsRow B e 1 v n (l.map encZ))(hn:l.length=n):PL.Own B e 1 cellsZ w v l:=by
 subst hn;have hf:∀l:List Int,l.flatMap cellsZ=l.map encZ:=λl=>by induction l with|nil=>rfl|cons x l ih=>exact congrArg (encZ x::.) ih
 rcases h.2with⟨h1,h2⟩|⟨g,cap,cur,h1,h2,h3,h4,h5,h6,h7⟩;.exact .inl ⟨h1,List.length_eq_zero_iff.1 h2⟩
 .exact .inr ⟨g,0,cap,cur,h1,h2,h3,h4,h5,by omega,by rw[List.drop_zero,h7,hf]⟩
def g86(m:Nat):AnyZI.SortsIn Tryz.prog Tryz.sortedA_ren Fence.wide m:=⟨λblk off cap ss W hH hblk hsz=>callsIn_wide.2 (AnyM.slices_Sort_int Tryz.sortA blk off cap ss W hH hblk hsz),λp cap W=>callsIn_wide.2 (AnyM.slices_Sort_int_none Tryz.sortA p cap W)⟩
def e6p{P:Program}{f:FuncId}{e:TypeId}(h1:∀(blk off cap:Nat)(zs:List Int)(w:World),Holds (Go.Value.int .i64) w blk off zs.toArray->blk<w.heap.size->zs.length<4611686018427387904->Calls P f #[.slice (some ⟨blk,off,none⟩) zs.length cap] w λe w'=>e=.returned (.tuple #[])/\∃n os,w'=grow (putRow (Go.Value.int .i64) (Sort.ahead w n) blk off (b89 zs).toArray) os)(h0:∀(p:Option Addr)(cap:Nat)(w:World),Calls P f #[.slice p 0 cap] w λe w'=>e=.returned (.tuple #[])/\w'=w){l:List Int}{w:World}{v:Go.Value}(hO:PL.Own 0 e 1 (λx:Int=>[Go.Value.int .i64 x]) w v l)(hl:l.length<4611686018427387904):Calls P f #[v] w λq w'=>q=.returned (.tuple #[])/\Ext (λb=>v.ownBlock=some b) w w'/\PL.Own 0 e 1 (λx:Int=>[Go.Value.int .i64 x]) w' v (b89 l):=by
 have hlen:(b89 l).length=l.length:=(a8p l).length_eq;by_cases hz:l.length=0;.obtain⟨a,cap,hv,_⟩:=hO.shape;obtain rfl:=List.length_eq_zero_iff.1 hz;rw[show v=.slice a 0 cap from hv];rw[show v=.slice a 0 cap from hv]at hO;refine(h0 a cap w).mono ?_;rintro q w'⟨rfl,rfl⟩;exact⟨rfl,Ext.refl _ _,by exact hO⟩
 .have hO2:=hO;rcases hO with⟨_,h⟩|⟨g,o,cap,cur,rfl,h2,h3,h4,h5,h6,h7⟩;.exact absurd (by rw[h];rfl) hz
  .have hlt:g<w.heap.size:=(qN.1 h3).1;refine(h1 g o cap l w (e8y (d6l (n:=1) (λ_=>rfl) hO2)) hlt hl).mono ?_;rintro q w'⟨rfl,n,os,rfl⟩;rw[e5t];refine⟨rfl,e7r rfl,?_⟩;have:=e97 (n:=1) (cells:=λx:Int=>[Go.Value.int .i64 x]) (λ_=>rfl) (q:=n) (os:=os) (d:=(b89 l).toArray) hO2 (by simpa using hlen);simpa using this
def d9r(l r:List Int)(w:World)(v:Go.Value)(hO:PL.Own 0 3 1 cellsZ w v l)(hF:b8s l=some r):Calls Tryz.prog 151 #[v] w λq w'=>q=.returned (.tuple #[])/\Ext (λb=>v.ownBlock=some b) w w'/\PL.Own 0 3 1 cellsZ w' v r:=by
 unfold b8s at hF;split at hF;case isFalse=>cases hF
 rename_i hl;obtain rfl:=qH hF;exact e6p (λblk off cap ss W hH hblk hsz=>by rw[<-e37];exact AnyM.slices_Sort_int Tryz.sortA blk off cap ss W hH hblk hsz) (λp cap W=>AnyM.slices_Sort_int_none Tryz.sortA p cap W) hO (by omega)
def d4b(i mb:Nat)(l:List (Int×Int))(r:List Int)(w:World)(hi:Mb w i 312 [.map (some mb)])(hn:(l.map (·.1)).Nodup)(hm:w.heap[mb]?=some (b92 l))(hr:c8c l=some r):Calls Tryz.prog 187 #[.func (.func 252) #[] #[.pointer (some ⟨i,0,none⟩)]] w λq w'=>∃v,q=.returned v/\Ext noG w w'/\PL.Own w.heap.size 3 1 cellsZ w' v r:=by
 unfold c8c at hr;split at hr;case isFalse=>cases hr
 rename_i hc;obtain rfl:=qH hr;obtain⟨D0,hown,hperm,hsize⟩:=f3i (P:=Tryz.prog) (k:=3) (by kernel_rfl) hn hm hc.1 hc.2;have hcell:w.cell? ⟨i,0,none⟩=some (.map (some mb)):=by have:=hi.ca 0 (.map (some mb)) rfl;simpa[Addr.add]using this
 have hseq:SeqGives Fence.wide 2 Tryz.prog 252 #[.pointer (some ⟨i,0,none⟩)] encZ (λss=>ss.Perm (intKeys D0)) (Maps.size D0) w:=AnyZI.keys_gives (ρ:=Tryz.keysA_ren) {Tryz.keysA with} Fence.wide _ trivial rfl (by omega) i mb _ D0 _ hi.lt hcell hown;have cS:=AnyZI.sorted_in Tryz.sortedA Fence.wide 5 trivial trivial trivial trivial rfl (by omega) (g86 _) (enters_of Tryz.func151 (by kernel_rfl) rfl) 252 #[.pointer (some ⟨i,0,none⟩)] trivial (enters_of Tryz.func252 (by kernel_rfl) rfl) _ _ (by rw[hsize];unfold maxLen;omega) (by rw[hsize];omega) _ hseq;refine(callsIn_wide.1 cS).mono ?_;rintro e w'⟨v,ss,rfl,hS,hrow,_,hb⟩;have hss:ss.mergeSort (λx y=>decide (x<=y))=b89 (l.map (·.1)):=(mergeSort_of_perm_i (hS.trans hperm)).trans (e37 _);rw[hss]at hrow;refine⟨v,rfl,⟨hb.os,hb.tape,hb.output,hb.size,λk hk _=>hb.block k hk⟩,g2s hrow ?_⟩;rw[<-hss];exact length_mergeSort _
noncomputable section
def k93:Kn Tryz.prog VV:=⟨151,k9m,show d6v Tryz.prog 151 _ from g65 (U:=VV) (c:=.z9) (cells:=cellsZ) (a14 (fn:=Tryz.f151) (by kernel_rfl) (by kernel_rfl) (by kernel_rfl)) (λG w cs x h=>by obtain⟨_,css,rfl,hh⟩:=a91.1 h;match css,hh with|[a],⟨h1,_⟩=>rw[show a=_ from h1];rfl) (λG w x=>a91.2 ⟨rfl,[[.int .i64 x]],rfl,⟨rfl,trivial⟩⟩) d9r⟩
def K187:Kn Tryz.prog VV:=⟨187,k9l,show d6v Tryz.prog 187 _ from g3x (U:=VV) (c:=.z9) (a14 (fn:=Tryz.f187) (by kernel_rfl) (by kernel_rfl) (by kernel_rfl)) rfl (λ_=>rfl) d4b⟩
def K150:Kn Tryz.prog VV:=⟨150,k6x,knS rfl ⟨k8x,λ_ _=>by kernel_rfl⟩⟩
def K88:=mk 88 Tryz.f88 ⟨[.ls .ya,.ls .zy],[.v .yc,.v .z8]⟩ (cur2 a9c) w2 u2 .n [K73,k8w,h2x,K150]
def l0i:=mk 152 Tryz.f152 ⟨[.ow 3 .z9],[.ow 3 .z9]⟩ (cur1 a0n) w1 u1 (sk 2 (.s (.s .n (.l [] [] [.ow 0 1 3 .z9,.v 3 .z9] (.s .n (.s (.s .n (.s (.s (.g [1002]) (.s (.s .n (.l [] [] [.ow 0 1 3 .z9,.v 3 .z9,.v 5 .z9,.vw 4 1 .z9] .n)) (.s (.g [1002]) (.s (.g [2002]) .n)))) .n)) .n)))) .n)) []
def K89:=mk 89 Tryz.f89 ⟨[.v .yc],[.ow 3 .z9]⟩ (cur1 a6t) w1 u1 (sk 2 (.s (.s .n (.l [18,19] [] [.bx 1 1 203 .yc,.ow 3 2 3 .z9,.v 20 .z9] .n)) (.s (.s .n (.l [35,36] [] [.bx 1 1 203 .yc,.ow 3 2 3 .z9,.v 37 .z9] (.s .n (.s .n (.s (.s .n (.s .n (.s .n (.l [35,36,37,47,48] [] [.bx 1 1 203 .yc,.ow 3 2 3 .z9,.bx 7 3 82 .zy,.v 49 .z9] .n)))) .n))))) .n))) [k93,l0i]
def j3q:=mk 153 Tryz.f153 ⟨[.v .y1,.v .z9],[.v .z8]⟩ (cur2 a4l) w1 u1 .n []
def K154:=mk 154 Tryz.f154 ⟨[.v .yc,.v .z9,.v .z9],[.v .z9,.v .z8]⟩ (cur3 a4c) w2 u2 (.s .n (.s (.s .n (.l [1,2,11,12] [] [.v 13 .z9] .n)) .n)) [j3q]
def l0o:=mk 225 Tryz.f225 ⟨[.v .yc,.v .z9,.ls .z9],[.ow 38 .ya]⟩ (cur3 a2j) w1 u1 (sk 2 (.s (.s .n (.l [1,2,11,12] [] [.ow 7 3 38 .ya,.v 13 .z9] .n)) .n)) [K47,j3q]
def K155:=mk 155 Tryz.f155 ⟨[.v .yc,.v .z9],[.v .z9,.v .z8]⟩ (cur2 a5v) w2 u2 (sk 2 (.s (.s .n (.l [15] [] [.bx 6 2 38 .ya,.v 7 .z8,.ow 14 3 38 .ya,.v 16 .z9] .n)) .n)) [l0o]
def K232:=mk 232 Tryz.f232 ⟨[.v .y1,.rp 3 .z9],[.v .z8]⟩ (cur2 b5c) w1 u1 .n []
def k5w:=mk 299 Tryz.f299 ⟨[.ls .y1,.cl 232 [.z9]],[.v .z9]⟩ (λx=>y4 x.1 x.2.1.1) w1 u1 (.s .n (.s (.s .n (.l [0,1,7] [] [.v 8 .z9] .n)) .n)) [K232]
def k61:=mk 231 Tryz.f231 ⟨[.ls .y1,.cl 232 [.z9]],[.v .z8]⟩ (λx=>s8 x.1 x.2.1.1) w1 u1 .n [k5w]
def l0s:=mk 162 Tryz.f162 ⟨[.ls .y1,.v .z9],[.v .z8]⟩ (cur2 a8r) w1 u1 .n [k61]
def K158:=mk 158 Tryz.f158 ⟨[.ls .ya,.v .z9],[.v .z9,.v .z8]⟩ (cur2 a8j) w2 u2 (.s .n (.s (.s (.g [3]) .n) (.s .n (.s (.s .n (.l [1,22,23] [] [.bx 6 2 38 .ya,.v 7 .z8,.v 24 .z9] .n)) .n)))) [K75,h2b,k8w,l0s]
def K226:=mk 226 Tryz.f226 ⟨[.ls .ya],[.ow 3 .z9]⟩ (cur1 b12) w1 u1 (sk 2 (.s (.s .n (.l [6,7] [] [.ow 3 1 3 .z9,.v 8 .z9] .n)) .n)) [k93,l0i]
def K156:=mk 156 Tryz.f156 ⟨[.v .yc,.v .z9,.v .z9],[.v .z9,.v .z8]⟩ (cur3 a3v) w2 u2 (sk 2 (.s (.s .n (.l [1,2,26] [] [.bx 3 3 203 .yc,.mp 8 4,.v 9 .z9,.ow 25 5 38 .ya,.v 27 .z9] .n)) (.s .n (.s .n (.s .n (.s .n (.s .n (.s .n (.s .n (.s .n (.s .n (.s (.s .n (.l [118] [] [.mp 8 3,.v 18 .z9,.ow 117 4 3 .z9,.v 119 .z9] .n)) .n)))))))))))) [K47,K158,K187,h1z,l0o,K226]
def h3v:=mk 228 Tryz.f228 ⟨[.v .ya,.v .ya],[.v .z9]⟩ (cur2 a6j) w1 u1 .n [j8e]
def k5z:=mk 227 Tryz.f227 ⟨[.ls .ya,.cl 228 []],[.v .ya]⟩ (λx=>m5 x.1) w1 u1 (.s .n (.j [] [.ls 0 .ya,.cl 1 228 [],.bx 4 2 38 .ya] .n (.s .n (.s (.s .n (.l [0,1] [] [.bx 4 2 38 .ya,.bx 5 3 38 .ya,.v 6 .z9] .n)) .n)))) [h3v]
def K157:=mk 157 Tryz.f157 ⟨[.v .yc,.v .z9],[.v .z9,.v .z8]⟩ (cur2 a4b) w2 u2 .n [l0o,k5z]
def K90:=mk 90 Tryz.f90 ⟨[.v .yc,.v .z9],[.v .z9,.v .z9]⟩ (cur2 a7m) w2 u2 .n [K42,j3q,K154,K155,K156,K157,K158]
def K45:=mk 45 Tryz.f45 ⟨[.ls .ya,.ls .zy],[.ow 209 .y0]⟩ (cur2 a4h) w1 u1 (sk 5 (.s (.s .n (.l [] [] [.bx 5 2 203 .yc,.ow 7 3 209 .y0,.ow 8 4 3 .z9,.v 9 .z9] .n)) .n)) [K88,K89,K90]
def K80:=mk 80 Tryz.f80 ⟨[.v .z9,.ls .y1,.im 126 .zc [(0,4)],.rp 125 .zz,.po 2 0 189 .zr],[]⟩ (cur5 a1s) (λb=>((),(b.1,(b.2,())))) (λp=>(p.2.1,p.2.2.1)) (.s .n (.l [0,3,8,9] [] [.of 2 0 5 189 .zr,.bm 2 2 126 .zc [(0,5)],.v 10 .z9] (.s .n (.s .n (.s (.s .n (.g [6000,6008])) .n))))) []
def K82:=mk 82 Tryz.f82 ⟨[.ls .y0,.v .z9,.v .z9],[.ow 36 .y1]⟩ (cur3 b1e) w1 u1 (sk 2 (.s (.s .n (.l [1,2,10,11] [] [.ow 7 3 36 .y1,.v 12 .z9] .n)) .n)) [k5f]
def K83:=mk 83 Tryz.f83 ⟨[],[.ow 195 .zf]⟩ (λx=>b3o) w1 u1 .n []
def j6o:=mk 146 Tryz.f146 ⟨[.v .zj,.rp 3 .z9],[.v .z8]⟩ (cur2 b56) w1 u1 .n []
def k5u:=mk 145 Tryz.f145 ⟨[.ls .zj,.cl 146 [.z9]],[.v .z9]⟩ (λx=>t7 x.1 x.2.1.1) w1 u1 (.s .n (.s (.s .n (.l [0,1,7] [] [.v 8 .z9] .n)) .n)) [j6o]
def K84:=mk 84 Tryz.f84 ⟨[.v .y8,.v .z9],[.v .z9,.v .z8]⟩ (cur2 b43) w2 u2 .n [k5u]
def K85:=mk 85 Tryz.f85 ⟨[.ls .ya,.v .z9,.v .z9],[.ow 36 .y1]⟩ (cur3 b7p) w1 u1 (sk 2 (.s (.s .n (.l [0,1,2,10,11] [] [.ow 7 3 36 .y1,.v 12 .z9] .n)) .n)) [K81,h2b,k8w]
def K87:=mk 87 Tryz.f87 ⟨[.ls .y1,.v .z9],[.ow 36 .y1]⟩ (cur2 b4k) w1 u1 (sk 2 (.s (.s .n (.l [10] [] [.v 1 .z9,.ow 5 2 36 .y1,.ow 9 3 36 .y1,.v 11 .z9] (.s .n (.s .n (.s (.s .n (.s .n (.j [] [.v 1 .z9,.ow 5 2 36 .y1,.bx 7 3 36 .y1,.ow 9 4 36 .y1,.v 10 .z9,.v 11 .z9] .n .n))) .n))))) .n)) [k5f]
def K86:=mk 86 Tryz.f86 ⟨[.ls .ya,.v .z9,.v .y1,.v .z9],[.ow 36 .y1]⟩ (cur4 b1c) w1 u1 (sk 2 (.s (.s .n (.l [0,1,3] [] [.bx 6 4 36 .y1,.ow 9 5 36 .y1,.v 10 .z9] (.s .n (.s (.s .n (.s (.s .n (.l [0,1,3,10,20] [] [.bx 6 4 36 .y1,.ow 9 5 36 .y1,.ow 11 6 36 .y1,.ow 19 7 38 .ya,.v 21 .z9] .n)) .n)) .n)))) .n)) [K81,K87,k5f,k8w,h2x]
def K44:=mk 44 Tryz.f44 ⟨[.ls .ya,.ls .y0,.ls .zz,.v .z9],[.ow 189 .zr,.v .z9]⟩ (cur4 a7e) w2 u2 (sk 2 (.s (.s .n (.l [0,1,2,3,28,29] [] [.v 30 .z9] .n)) (.s (.g [6000]) (.s .n (.s (.s .n (.l [0,1,61,62] [] [.of 12 0 5 189 .zr,.bm 12 4 126 .zc [(0,5)],.bx 13 6 36 .y1,.v 63 .z9] (.s .n (.s .n (.s (.s .n (.s .n (.s .n (.s .n (.l [0,1,61,62,63,77] [] [.of 12 0 5 189 .zr,.bm 12 4 126 .zc [(0,5)],.bx 13 6 36 .y1,.bx 15 7 125 .zz,.ow 76 8 195 .zf,.v 78 .z9,.cr 16 80 [4,7]] .n))))) .n))))) (.s (.g [6000]) .n)))))) [K80,K81,K82,K83,K84,K85,K86,K87]
def k0z:=mk 159 Tryz.f159 ⟨[.ls .zr,.v .z9,.v .z9],[.ow 36 .y1]⟩ (cur3 b9z) w1 u1 (sk 2 (.s (.s .n (.l [1,2,10,11] [] [.ow 7 3 36 .y1,.v 12 .z9] .n)) .n)) [k5f]
def K91:=mk 91 Tryz.f91 ⟨[.ls .zr],[.bo 215 .z3]⟩ (cur1 b2x) w1 u1 (sk 2 (.s (.s .n (.l [0] [] [.bx 3 1 215 .z3,.v 8 .z9] (.s .n (.s .n (.s (.s .n (.s .n (.l [0,4,8] [] [.bx 3 1 215 .z3,.v 11 .z9] .n))) .n))))) .n)) [k0z]
def j8f:=mk 160 Tryz.f160 ⟨[.rp 215 .z3,.v .z9],[.v .z9,.ow 3 .z9]⟩ (cur2 a4a) w2 u2 (.s .n (.s (.s .n (.l [0,1] [] [.ow 5 2 3 .z9,.v 6 .z9] (.s .n (.s (.s (.s .n (.l [0,1,6] [] [.ow 5 2 3 .z9,.v 12 .z9] .n)) .n) .n)))) .n)) [l0s]
def K121:=mk 121 Tryz.f121 ⟨[.ls .y1],[.v .z9,.v .z8]⟩ (cur1 b90) w2 u2 .n [k5f]
def K229:=mk 229 Tryz.f229 ⟨[.rp 215 .z3,.v .z9,.v .z9],[.v .z9]⟩ (cur3 a1b) w1 u1 .n [K81,K121]
def K298:=mk 298 Tryz.f298 ⟨[.ls .y1,.v .z9],[.v .z9,.v .z8]⟩ (cur2 c4p) w2 u2 (sk 2 (.s (.s .n (.l [12] [] [.v 1 .z9,.ow 11 2 36 .y1,.v 13 .z9] .n)) .n)) [k5f]
def h2w:=mk 230 Tryz.f230 ⟨[.rp 215 .z3,.v .z9,.v .z9],[.v .z9]⟩ (cur3 a2f) w1 u1 .n [K81,K298]
def j8l:=mk 161 Tryz.f161 ⟨[.rp 215 .z3,.ls .z9,.v .z9],[.v .z9]⟩ (cur3 a69) w1 u1 (sk 2 (.s (.s .n (.l [0,1,2,16,17] [] [.v 7 .z9,.v 18 .z9] .n)) (.s .n (.s (.s .n (.l [0,2,39,40] [] [.v 7 .z9,.v 41 .z9] .n)) .n)))) [K229,h2w]
def K93:=mk 93 Tryz.f93 ⟨[.rp 215 .z3,.v .z9],[.v .z9,.v .z9,.v .z8]⟩ (cur2 b17) w3 u3 .n [j8f,j8l]
def K92:=mk 92 Tryz.f92 ⟨[.v .z9,.v .z9,.rp 210 .ze,.im 49 .zb [(0,4)],.po 3 0 219 .zi],[]⟩ (cur5 a72) (λb=>((),(b.1,(b.2,())))) (λp=>(p.2.1,p.2.2.1)) (sk 3 (.s (.s (.g [6000]) (.s (.g [6003,6008]) (.s (.s (.g [6000]) (.g [2003,6000,6004])) .n))) (.g [6000,6004]))) [K93]
def k1x:=mk 163 Tryz.f163 ⟨[.ls .z9,.ls .z9],[.v .z8]⟩ (cur2 a88) w1 u1 (sk 2 (.s (.s .n (.l [0,1,12] [] [.v 13 .z9] .n)) .n)) []
def K94:=mk 94 Tryz.f94 ⟨[.ls .zd],[.ow 224 .zs]⟩ (cur1 b7w) w1 u1 (sk 3 (.s (.s .n (.l [18,19] [] [.ow 3 1 187 .zd,.ow 4 2 3 .z9,.v 20 .z9] (.s .n (.s .n (.s (.s .n (.s .n (.s .n (.l [18,19,20,33,34] [] [.ow 3 1 187 .zd,.ow 4 2 3 .z9,.v 35 .z9] .n)))) .n))))) (.s .n (.s .n (.s .n (.s (.s .n (.l [] [] [.ow 3 1 187 .zd,.ow 4 2 3 .z9,.ow 9 3 224 .zs,.v 10 .z9] (.s .n (.s (.s .n (.s (.s .n (.l [10,71] [(70,1)] [.ow 3 1 187 .zd,.ow 4 2 3 .z9,.ow 9 3 224 .zs,.of 11 1 5 3 .z9,.bm 11 4 224 .zs [(1,5)],.v 72 .z9] .n)) .n)) .n)))) .n)))))) [k5f,k93,l0i,l0s,k1x]
def K46:=mk 46 Tryz.f46 ⟨[.ls .zr],[.ow 219 .zi]⟩ (cur1 a71) w1 u1 (.s .n (.s (.g [7003]) (.s .n (.s (.s .n (.l [] [] [.bx 3 1 210 .ze,.ow 4 2 187 .zd,.v 12 .z9] .n)) (.s (.g [6000]) (.s .n (.s (.s .n (.l [26] [] [.bx 3 1 210 .ze,.of 6 0 3 219 .zi,.bm 6 2 49 .zb [(0,3)],.ow 25 4 224 .zs,.v 27 .z9,.cr 7 92 [1,2]] .n)) (.s (.g [6000]) .n)))))))) [K91,K92,K94]
def K179:=mk 179 Tryz.f179 ⟨[.v .z9,.rp 3 .z9],[.v .z8]⟩ (cur2 b1l) w1 u1 .n []
def k8f:=mk 25 Tryz.f25 ⟨[.v .yb,.ls .ya,.cl 179 [.z9]],[.ow 219 .zi]⟩ (λx=>a3g x.1 x.2.1 x.2.2.1.1) w1 u1 (sk 2 (.s (.s .n (.l [1,2,16,17] [] [.bx 3 3 90 .yb,.ow 7 4 125 .zz,.v 18 .z9] .n)) .n)) [K43,K44,K45,K46,K179]
def K111:=mk 111 Tryz.f111 ⟨[.v .yb,.ls .ya,.v .z9],[.ow 219 .zi]⟩ (cur3 b3l) w1 u1 .n [k8f]
def k84:=mk 25 Tryz.f25 ⟨[.v .yb,.ls .ya,.bn 26 .yb],[.ow 219 .zi]⟩ (cur3 a0s) w1 u1 (sk 2 (.s (.s .n (.l [1,2,16,17] [] [.bx 3 3 90 .yb,.ow 7 4 125 .zz,.v 18 .z9] .n)) .n)) [K26,K43,K44,K45,K46]
def K66:=mk 66 Tryz.f66 ⟨[.v .yb,.ls .ya,.v .z9],[.ow 219 .zi]⟩ (cur3 a2z) w1 u1 .n [k84,K26,K111]
def K112:=mk 112 Tryz.f112 ⟨[.ls .ya,.v .z9],[.ow 3 .z9]⟩ (cur2 b2v) w1 u1 (sk 2 (.s (.s .n (.l [1,8,9] [] [.ow 5 2 3 .z9,.v 10 .z9] .n)) .n)) [h2b,k93,l0i]
def k1s:=mk 182 Tryz.f182 ⟨[.v .z9],[.v .z9]⟩ (cur1 a3o) w1 u1 .n []
def K183:=mk 183 Tryz.f183 ⟨[.v .z9],[.v .z9]⟩ (cur1 a7i) w1 u1 .n [l18]
def l0e:=mk 115 Tryz.f115 ⟨[.v .z9],[.v .z9,.v .z9,.v .z9,.v .z8]⟩ (cur1 a4d) (λb=>((b.1,(b.2.1,(b.2.2.1,(b.2.2.2,())))),())) (λp=>(p.1.1,p.1.2.1,p.1.2.2.1,p.1.2.2.2.1)) (sk 3 (.s (.l [0] [] [.v 2 .z9] .n) (.s .n (.s .n (.s (.l [2] [] [.v 3 .z9,.v 6 .z9] .n) .n))))) [K75,k1s,K183,l0x]
def K248:=mk 248 Tryz.f248 ⟨[.v .z9,.v .z9,.v .z9],[.v .z9,.v .z8]⟩ (cur3 b1r) w2 u2 (sk 3 (.s (.s .n (.l [0,1] [] [.v 8 .z9,.v 9 .z9] .n)) .n)) [k1s,l0x]
def K181:=mk 181 Tryz.f181 ⟨[.v .z9,.v .z9],[.v .z9,.v .z8]⟩ (cur2 b03) w2 u2 (sk 4 (.j [] [.v 6 .z9,.v 7 .z9,.v 8 .z9] .n .n)) [l0e,l18,K248]
def h4g:=mk 114 Tryz.f114 ⟨[.v .z9,.v .z9],[.v .z9]⟩ (cur2 b7r) w1 u1 .n [K75,l0e,K181]
def h3t:=mk 249 Tryz.f249 ⟨[.ls .y1,.v .z9],[.v .z9]⟩ (cur2 c0z) w1 u1 (sk 2 (.s (.s .n (.l [1,10] [] [.v 5 .z9,.ow 9 2 36 .y1,.v 11 .z9] .n)) .n)) [k5f]
def h3k:=mk 185 Tryz.f185 ⟨[.ls .y1],[.v .z9]⟩ (cur1 b6h) w1 u1 .n [h3t]
def K116:=mk 116 Tryz.f116 ⟨[.ls .zi,.v .z9,.ls .z9],[.v .z9]⟩ (cur3 a8q) w1 u1 (sk 2 (.s (.s .n (.l [1,2,10,11] [] [.ow 7 3 36 .y1,.v 12 .z9] .n)) .n)) [K47,h3k]
def K250:=mk 250 Tryz.f250 ⟨[.v .ya,.v .z9],[.v .z9]⟩ (cur2 b63) w1 u1 .n []
def l0w:=mk 122 Tryz.f122 ⟨[.ls .zi,.v .z9,.v .z9],[.ow 36 .y1]⟩ (cur3 b6i) w1 u1 (sk 2 (.s (.s .n (.l [1,2,10,11] [] [.ow 7 3 36 .y1,.v 12 .z9] .n)) .n)) [k5f]
def K186:=mk 186 Tryz.f186 ⟨[.ls .ya,.ls .zi,.v .z9],[.ow 314 .ye]⟩ (cur3 b13) w1 u1 (sk 2 (.s (.s .n (.l [0,1,2,14] [] [.ow 7 3 314 .ye,.ow 13 4 38 .ya,.v 15 .z9] .n)) .n)) [K81,l0w,k8w,h2x,K250]
def K189:=mk 189 Tryz.f189 ⟨[.v .z9],[.v .y1]⟩ (cur1 b5y) w1 u1 .n [K248]
def K191:=mk 191 Tryz.f191 ⟨[.v .ya,.v .z9],[.v .z9]⟩ (cur2 b6a) w1 u1 .n [K216]
def K253:=mk 253 Tryz.f253 ⟨[.v .z9],[.v .z8]⟩ (cur1 c17) w1 u1 .n []
def l17:=mk 126 Tryz.f126 ⟨[.v .zx],[.v .z8]⟩ (cur1 a2y) w1 u1 (.s .n (.s (.s .n (.j [] [.bx 1 1 67 .zx,.v 5 .z8] .n .n)) .n)) []
def l0l:=mk 127 Tryz.f127 ⟨[.v .z9],[.v .yn]⟩ (cur1 b3x) w1 u1 .n []
def l0m:=mk 128 Tryz.f128 ⟨[.v .z8,.v .yn,.v .yn,.v .yn,.v .zx],[.v .z9,.v .z9]⟩ (cur5 a9o) w2 u2 (sk 6 (.j [] [.bx 9 5 67 .zx,.v 12 .yn,.v 14 .yn,.v 15 .z9] .n (.s .n (.j [] [.bx 9 5 67 .zx,.v 15 .z9,.v 16 .z8] .n (.j [] [.bx 9 5 67 .zx,.v 15 .z9] .n .n))))) [K96]
def K254:=mk 254 Tryz.f254 ⟨[.ls .zu,.v .z9,.v .z9],[.v .zm,.v .z8]⟩ (cur3 b6m) w2 u2 (sk 2 (.s (.s .n (.l [0,1,2,11,12] [] [.bx 6 3 53 .zm,.v 8 .z9,.v 13 .z9] .n)) .n)) []
def K50:=mk 50 Tryz.f50 ⟨[.v .yn,.v .yn],[.v .yn,.v .yn]⟩ (cur2 b3s) w2 u2 .n []
def g6r:=mk 190 Tryz.f190 ⟨[.v .z9,.v .z9,.v .z9,.v .z9,.ls .zu,.v .zx],[.v .z9,.v .z9]⟩ (cur6 b68) w2 u2 .n [K50,K74,l17,l0l,l0m,g6w,h0q,K253,K254]
def K117:=mk 117 Tryz.f117 ⟨[.ls .ya,.ls .zi,.v .z9,.v .z9,.ls .zu],[.ow 323 .zk,.v .z9]⟩ (cur5 b4h) w2 u2 (sk 4 (.s (.s .n (.l [3,4,61] [(60,5)] [.ow 12 5 314 .ye,.mp 13 6,.v 62 .z9] (.s .n (.s .n (.s (.s .n (.s .n (.l [3,4,61,62,67,68] [(60,5)] [.ow 12 5 314 .ye,.mp 13 6,.v 69 .z9] (.s .n (.s .n (.s (.s .n (.s .n (.s .n (.s .n (.l [3,4,22,61,62,67,68,69] [(60,5)] [.ow 12 5 314 .ye,.mp 13 6,.v 26 .z9] .n))))) .n)))))) .n))))) (.s .n (.s (.s .n (.l [3,4,103] [] [.ow 12 5 314 .ye,.mp 13 6,.ow 27 7 323 .zk,.ow 102 8 3 .z9,.v 104 .z9] (.s .n (.s .n (.s (.s .n (.s .n (.s (.s .n (.l [3,4,29,30,103,104,113] [(112,5)] [.ow 12 5 314 .ye,.mp 13 6,.ow 27 7 323 .zk,.ow 102 8 3 .z9,.v 114 .z9] .n)) .n))) .n))))) .n)))) [K74,K81,l0e,h3k,K186,K187,h1z,K189,g6r,K191]
def k1e:=mk 255 Tryz.f255 ⟨[.v .y8,.v .z9],[.v .zm]⟩ (cur2 b0w) w1 u1 (sk 2 (.s (.s .n (.l [1,9,10] [] [.bx 2 2 74 .y8,.bx 4 3 53 .zm,.v 5 .z9,.v 11 .z9] .n)) .n)) []
def K256:=mk 256 Tryz.f256 ⟨[.v .zm],[.v .z8]⟩ (cur1 b0x) w1 u1 .n [f3f]
def K192:=mk 192 Tryz.f192 ⟨[.v .y8,.v .z9,.v .z9,.v .z9],[.v .z9,.v .z9]⟩ (cur4 b2s) w2 u2 .n [K50,K96,k1e,K256]
def g25:=mk 118 Tryz.f118 ⟨[.ls .zk,.v .y8,.v .z9],[.ow 3 .z9,.v .z9]⟩ (cur3 b14) w2 u2 (sk 2 (.s (.s .n (.l [2,13,14] [] [.bx 4 3 74 .y8,.ow 8 4 3 .z9,.v 15 .z9] .n)) .n)) [K192]
def k20:=mk 257 Tryz.f257 ⟨[.v .z8,.v .yj,.v .yj],[.v .zm,.v .z9]⟩ (cur3 a70) w2 u2 .n []
def K193:=mk 193 Tryz.f193 ⟨[.v .z9,.v .z9],[.v .zm,.v .z9]⟩ (cur2 b32) w2 u2 .n [l0f,k8t,k20]
def K119:=mk 119 Tryz.f119 ⟨[.ls .z9],[.v .zm,.v .z9]⟩ (cur1 b6e) w2 u2 (sk 3 (.s (.s .n (.l [0,11,12] [] [.bx 2 1 53 .zm,.v 4 .z9,.v 13 .z9] .n)) .n)) [K193]
def K67:=mk 67 Tryz.f67 ⟨[.v .yb,.ls .ya,.ls .zi,.v .z9,.v .z8],[.v .y9,.v .z9]⟩ (cur5 a8k) w2 u2 (sk 4 (.j [] [.ls 1 .ya,.ls 2 .zi,.v 3 .z9,.v 4 .z8,.bx 5 5 90 .yb,.of 10 11 7 3 .z9,.bm 10 6 160 .y9 [(11,7)],.bx 12 8 61 .y3,.bx 13 9 74 .y8,.of 15 11 11 3 .z9,.bm 15 10 160 .y9 [(11,11)]] .n (.s .n (.s .n (.j [] [.ls 1 .ya,.ls 2 .zi,.v 3 .z9,.bx 5 5 90 .yb,.of 10 11 7 3 .z9,.bm 10 6 160 .y9 [(11,7)],.bx 12 8 61 .y3,.bx 13 9 74 .y8,.of 15 11 11 3 .z9,.bm 15 10 160 .y9 [(11,11)],.v 18 .z9] .n .n))))) [K65,K112,h2a,h4g,l0e,K116,K117,g25,K119]
def K120:=mk 120 Tryz.f120 ⟨[.ls .zi,.v .z9,.v .z9],[.v .z9]⟩ (cur3 c0y) w1 u1 .n [l0w,h3k]
def K68:=mk 68 Tryz.f68 ⟨[.ls .zi,.v .z9],[.v .y6]⟩ (cur2 b41) w1 u1 (sk 3 (.s (.s .n (.l [0,1] [] [.bx 4 2 166 .y6,.bx 5 3 166 .y6,.v 6 .z9,.v 11 .z9] (.s .n (.s .n (.s (.s .n (.s .n (.s .n (.s .n (.j [] [.ls 0 .zi,.v 1 .z9,.bx 4 2 166 .y6,.bx 5 3 166 .y6,.v 6 .z9,.v 7 .z9,.v 11 .z9] .n .n))))) .n))))) .n)) [K120,K121,l0w]
def K69:=mk 69 Tryz.f69 ⟨[.v .y6,.v .z9],[.v .z9,.v .z9]⟩ (cur2 b2k) w2 u2 .n []
def K365:=mk 365 Tryz.f365 ⟨[.v .z9],[.v .z8]⟩ (cur1 b0a) w1 u1 .n []
def k5n:=mk 395 Tryz.f395 ⟨[.ls .z9,.cl 365 []],[.v .z9]⟩ (λx=>a29 x.1) w1 u1 (.s .n (.s (.s .n (.l [0,1,7] [] [.v 8 .z9] .n)) .n)) [K365]
def k5j:=mk 364 Tryz.f364 ⟨[.ls .z9,.cl 365 []],[.v .z8]⟩ (λx=>a1n x.1) w1 u1 .n [k5n]
def K308:=mk 308 Tryz.f308 ⟨[.ls .z9],[.v .z8]⟩ (cur1 a9p) w1 u1 .n [k5j]
def K258:=mk 258 Tryz.f258 ⟨[.v .y9],[.v .z8]⟩ (cur1 b0s) w1 u1 (sk 2 (.s (.s .n (.l [53] [] [.bx 1 1 160 .y9,.v 54 .z9] .n)) .n)) [f3f,K308]
def K194:=mk 194 Tryz.f194 ⟨[.v .y8,.v .y9],[.v .z9]⟩ (cur2 c5y) w1 u1 .n [K130,K258]
def K196:=mk 196 Tryz.f196 ⟨[.v .zn,.rp 3 .z9],[.v .z8]⟩ (cur2 c1o) w1 u1 .n []
def d6g:Sig VV:=⟨[.v .zl,.v .yl],[.v .z8]⟩
def k4f(R:Ring_eval_mentions):Fent VV:=⟨d6g,Bool,λx=>R.f_eval_mentions x.1 x.2.1,λb=>((b,()),()),none⟩
def f03:Fent VV:=k4f (d5 FU)
def g9a:Ress VV d6g.rs×Outs VV d6g.ps->Bool:=λp=>p.1.1
def g9k:Ann VV.C:=.n
def k3s:Sig VV:=⟨[.v .zl,.rp 9 .yl],[.v .z8]⟩
def k4w(R:Ring_eval_mentions):Fent VV:=⟨k3s,Bool,λx=>R.f_eval_mentions_1 x.1 x.2.1,λb=>((b,()),()),none⟩
def k72:Ress VV k3s.rs×Outs VV k3s.ps->Bool:=λp=>p.1.1
def k6c:Ann VV.C:=.n
def k2m:Sig VV:=⟨[.ls .zl,.cl 367 [.yl]],[.v .z8]⟩
def k2t(R:Ring_eval_mentions):Fent VV:=⟨k2m,Bool,λx=>R.f_slices_ContainsFunc_of_api_Expr x.1 x.2.1.1,λb=>((b,()),()),none⟩
def k3c:Ress VV k2m.rs×Outs VV k2m.ps->Bool:=λp=>p.1.1
def k3e:Ann VV.C:=.n
def k2q:Sig VV:=⟨[.ls .zl,.cl 367 [.yl]],[.v .z9]⟩
def k2u(R:Ring_eval_mentions):Fent VV:=⟨k2q,Int,λx=>R.f_slices_IndexFunc_of_api_Expr x.1 x.2.1.1,λb=>((b,()),()),none⟩
def k3a:Ress VV k2q.rs×Outs VV k2q.ps->Int:=λp=>p.1.1
def k34:Ann VV.C:=(.s .n (.s (.s .n (.l [0,1,7] [] [.v 8 .z9] .n)) .n))
def k6t(R:Ring_eval_mentions):Phi VV:=λf ys=>lkF f ys [(366,k2t R)]
def k8m(R:Ring_eval_mentions)(hr366:SX.Spec Tryz.prog 366 (k2t R)):OKΦ Tryz.prog (k6t R):=okl ⟨knS rfl ⟨hr366,λ_ _=>by kernel_rfl⟩,trivial⟩
def k9j(R:Ring_eval_mentions):∀x,c5v Tryz.prog (k6t R) d6g g9a Tryz.f309 g9k x=b2a R x.1 x.2.1:=λx=>by kernel_rfl
def k6f:c67 Tryz.f309 d6g=true:=by kernel_rfl
def k6l(R:Ring_eval_mentions):Phi VV:=λf ys=>lkF f ys [(309,k4f R)]
def k8s(R:Ring_eval_mentions)(hr309:SX.Spec Tryz.prog 309 (k4f R)):OKΦ Tryz.prog (k6l R):=okl ⟨knS rfl ⟨hr309,λ_ _=>by kernel_rfl⟩,trivial⟩
def k9u(R:Ring_eval_mentions):∀x,c5v Tryz.prog (k6l R) k3s k72 Tryz.f367 k6c x=b93 R x.1 x.2.1:=λx=>by kernel_rfl
def k7t:c67 Tryz.f367 k3s=true:=by kernel_rfl
def k35(R:Ring_eval_mentions):Phi VV:=λf ys=>lkF f ys [(396,k2u R)]
def k4m(R:Ring_eval_mentions)(hr396:SX.Spec Tryz.prog 396 (k2u R)):OKΦ Tryz.prog (k35 R):=okl ⟨knS rfl ⟨hr396,λ_ _=>by kernel_rfl⟩,trivial⟩
def k52(R:Ring_eval_mentions):∀x,c5v Tryz.prog (k35 R) k2m k3c Tryz.f366 k3e x=a0o R x.1 x.2.1.1:=λx=>by kernel_rfl
def k3l:c67 Tryz.f366 k2m=true:=by kernel_rfl
def k3j(R:Ring_eval_mentions):Phi VV:=λf ys=>lkF f ys [(367,k4w R)]
def k4h(R:Ring_eval_mentions)(hr367:SX.Spec Tryz.prog 367 (k4w R)):OKΦ Tryz.prog (k3j R):=okl ⟨knS rfl ⟨hr367,λ_ _=>by kernel_rfl⟩,trivial⟩
def k56(R:Ring_eval_mentions):∀x,c5v Tryz.prog (k3j R) k2q k3a Tryz.f396 k34 x=a16 R x.1 x.2.1.1:=λx=>by kernel_rfl
def k3h:c67 Tryz.f396 k2q=true:=by kernel_rfl
def b4u:∀n,SX.Spec Tryz.prog 309 (k4f (d5 n))/\SX.Spec Tryz.prog 367 (k4w (d5 n))/\SX.Spec Tryz.prog 366 (k2t (d5 n))/\SX.Spec Tryz.prog 396 (k2u (d5 n))|0=>⟨(λ_ _ h=>(by cases(show none=some _ from h))),(λ_ _ h=>(by cases(show none=some _ from h))),(λ_ _ h=>(by cases(show none=some _ from h))),(λ_ _ h=>(by cases(show none=some _ from h)))⟩|n+1=>let⟨h309,h367,h366,h396⟩:=b4u n;⟨a2m (fe:=k4f (d5 (n+1))) uok (k8m (d5 n) h366) mixed (fn:=Tryz.f309) (by kernel_rfl) g9a g9k (d8 k6f).1 (d8 k6f).2 (λ_=>rfl) (k9j (d5 n)),a2m (fe:=k4w (d5 (n+1))) uok (k8s (d5 n) h309) mixed (fn:=Tryz.f367) (by kernel_rfl) k72 k6c (d8 k7t).1 (d8 k7t).2 (λ_=>rfl) (k9u (d5 n)),a2m (fe:=k2t (d5 (n+1))) uok (k4m (d5 n) h396) mixed (fn:=Tryz.f366) (by kernel_rfl) k3c k3e (d8 k3l).1 (d8 k3l).2 (λ_=>rfl) (k52 (d5 n)),a2m (fe:=k2u (d5 (n+1))) uok (k4h (d5 n) h367) mixed (fn:=Tryz.f396) (by kernel_rfl) k3a k34 (d8 k3h).1 (d8 k3h).2 (λ_=>rfl) (k56 (d5 n))⟩
def K309:Kn Tryz.prog VV:=⟨309,f03,knS rfl ⟨(b4u FU).1,λ_ _=>by kernel_rfl⟩⟩
def K310:=mk 310 Tryz.f310 ⟨[.so 3 .z9],[]⟩ (cur1 a68) (λb=>((),(b,()))) (λp=>p.2.1) (.s .n (.l [] [] [.ow 0 0 3 .z9,.v 2 .z9,.v 3 .z9] .n)) []
def K259:=mk 259 Tryz.f259 ⟨[.v .zl,.ls .zq],[.ow 3 .z9]⟩ (cur2 c4e) w1 u1 (sk 2 (.s (.s .n (.l [1] [] [.bx 2 2 85 .zl,.ow 5 3 3 .z9,.v 6 .z9] (.s .n (.s (.s .n (.s (.s .n (.l [1,6,25] [(24,3)] [.bx 2 2 85 .zl,.ow 5 3 3 .z9,.v 7 .z8,.v 26 .z9] .n)) .n)) .n)))) .n)) [K309,K310]
def k9y:=mk 311 Tryz.f311 ⟨[.v .z9,.v .zm],[.v .y7]⟩ (cur2 t6) w1 u1 .n []
def K368:=mk 368 Tryz.f368 ⟨[.v .y9,.v .yl],[.v .y7,.v .z8]⟩ (cur2 c2b) w2 u2 .n [K258,l0z,k9y]
def h3j:=mkR 312 Tryz.f312 ⟨[.rp 329 .yf,.v .yl],[.v .y7]⟩ (cur2 a84) w1 u1 (sk 2 (.s (.s .n (.l [] [] [.bx 3 2 9 .yl,.bx 4 3 115 .y7] (.s .n .n))) .n)) [K368,K369]
def k5s:=mkR 307 Tryz.f307 ⟨[.ow 3 .z9,.vl 398 23 .z9],[.ow 3 .z9]⟩ (cur2 u5) w1 u1 (.s (.g [6000]) (.s (.s .n (.l [] [] [.of 2 0 3 3 .z9,.bm 2 2 23 .za [(0,3)]] (.s .n (.g [6000,6004])))) (.s (.g [6000]) .n))) []
def k69:=mk 251 Tryz.f251 ⟨[.vl 398 23 .z9],[.ow 3 .z9]⟩ (cur1 y5) w1 u1 .n [k5s]
def k5y:=mk 187 Tryz.f187 ⟨[.vl 398 23 .z9],[.ow 3 .z9]⟩ (cur1 o9) w1 u1 .n [k93,k69]
def K313:=mk 313 Tryz.f313 ⟨[.ls .z9,.v .z9],[.v .zm,.v .z9]⟩ (cur2 c4b) w2 u2 (sk 4 (.s (.s .n (.l [1,31,32] [] [.bx 4 2 53 .zm,.v 7 .z9,.v 33 .z9] .n)) .n)) [k5y,K193,K308,K370]
def l0d:=mk 317 Tryz.f317 ⟨[.v .z8],[.v .y7]⟩ (cur1 b8n) w1 u1 .n []
def K371:=mk 371 Tryz.f371 ⟨[.v .zm],[.v .z9,.v .z9]⟩ (cur1 b4e) w2 u2 .n [f3f]
def l0u:=mk 372 Tryz.f372 ⟨[.v .zm],[.v .zm,.v .z9]⟩ (cur1 b4p) w2 u2 .n [f3f]
def l16:=mk 399 Tryz.f399 ⟨[.v .yn,.v .yn],[.v .yj]⟩ (cur2 a4g) w1 u1 .n [K50]
def K400:=mk 400 Tryz.f400 ⟨[.v .yj,.v .yj],[.v .z8]⟩ (cur2 a3u) w1 u1 .n []
def K373:=mk 373 Tryz.f373 ⟨[.v .zm,.v .zm],[.v .z9,.v .z9]⟩ (cur2 a8g) w2 u2 (sk 4 (.j [] [.bx 6 2 372 .yj,.bx 7 3 372 .yj] .n .n)) [f3f,k8t,l16,K400]
def K316:=mk 316 Tryz.f316 ⟨[.v .z9,.v .zm,.v .zm],[.v .z8,.v .z9]⟩ (cur3 b7z) w2 u2 .n [K373]
def K401:=mk 401 Tryz.f401 ⟨[.v .yj,.v .yj],[.v .yj]⟩ (cur2 a98) w1 u1 .n [K51]
def K402:=mk 402 Tryz.f402 ⟨[.v .yj,.v .yj],[.v .yj]⟩ (cur2 a4w) w1 u1 .n [K52]
def K403:=mk 403 Tryz.f403 ⟨[.v .yn,.v .yn,.v .yn],[.v .yn]⟩ (cur3 c25) w1 u1 .n [K96]
def K404:=mk 404 Tryz.f404 ⟨[.v .yj,.v .yn],[.v .yj]⟩ (cur2 a8z) w1 u1 .n [K96]
def K374:=mk 374 Tryz.f374 ⟨[.v .zm,.v .zm],[.v .zm,.v .z9]⟩ (cur2 b4q) w2 u2 (sk 4 (.j [] [.bx 2 2 53 .zm,.bx 3 3 53 .zm,.bx 4 4 53 .zm,.bx 6 5 372 .yj,.v 8 .z8] .n .n)) [f3f,l0f,k8t,k20,l16,K400,K401,K402,K403,K404]
def K375:=mk 375 Tryz.f375 ⟨[.v .zm,.v .zm],[.v .zm,.v .z9]⟩ (cur2 b7d) w2 u2 .n [l0u,K374]
def K405:=mk 405 Tryz.f405 ⟨[.v .z8,.v .yn,.v .yn,.v .yn,.v .yn],[.v .zm,.v .z9]⟩ (cur5 a73) w2 u2 .n [l0f,k20,l16]
def K376:=mk 376 Tryz.f376 ⟨[.v .zm,.v .zm],[.v .zm,.v .z9]⟩ (cur2 b7j) w2 u2 .n [f3f,k8t,K405]
def K377:=mk 377 Tryz.f377 ⟨[.v .zm,.v .zm],[.v .zm,.v .z9]⟩ (cur2 b7o) w2 u2 .n [f3f,k8t,K405]
def K318:=mk 318 Tryz.f318 ⟨[.v .z9,.v .zm,.v .zm],[.v .zm,.v .z9]⟩ (cur3 b2w) w2 u2 .n [K373,K374,K375,K376,K377]
def K319:=mk 319 Tryz.f319 ⟨[.v .z9,.v .z9,.v .z9],[.v .z9]⟩ (cur3 b8c) w1 u1 .n []
def k40:Sig VV:=⟨[.rp 329 .yf,.v .zl],[.v .y7,.v .z9]⟩
def k2w(R:Ring_eval_evaluator_expr):Fent VV:=⟨k40,Value×Int,λx=>R.f_eval_evaluator_expr x.1 x.2.1,λb=>((b.1,(b.2,())),()),none⟩
def k9w:Fent VV:=k2w (c4 FU)
def k71:Ress VV k40.rs×Outs VV k40.ps->Value×Int:=λp=>(p.1.1,p.1.2.1)
def k6v:Ann VV.C:=(.s .n (.s (.s .n (.s .n (.s .n (.s .n (.s .n (.s .n (.s .n (.j [] [.rp 0 .yf,.bx 3 2 85 .zl,.bx 4 3 115 .y7,.v 15 .z9,.v 46 .z8] .n (.s .n (.j [] [.rp 0 .yf,.bx 3 2 85 .zl,.bx 4 3 115 .y7,.v 55 .z8] .n .n)))))))))) .n))
def k4d:Sig VV:=⟨[.rp 329 .yf,.v .zl],[.v .y7,.v .z9]⟩
def k4u(R:Ring_eval_evaluator_expr):Fent VV:=⟨k4d,Value×Int,λx=>R.f_eval_evaluator_unary x.1 x.2.1,λb=>((b.1,(b.2,())),()),none⟩
def k7b:Ress VV k4d.rs×Outs VV k4d.ps->Value×Int:=λp=>(p.1.1,p.1.2.1)
def k6n:Ann VV.C:=.n
def i97:Sig VV:=⟨[.rp 329 .yf,.v .zl],[.v .y7,.v .z9]⟩
def i9v(R:Ring_eval_evaluator_expr):Fent VV:=⟨i97,Value×Int,λx=>R.f_eval_evaluator_logic x.1 x.2.1,λb=>((b.1,(b.2,())),()),none⟩
def j5i:Ress VV i97.rs×Outs VV i97.ps->Value×Int:=λp=>(p.1.1,p.1.2.1)
def j54:Ann VV.C:=.n
def k7l(R:Ring_eval_evaluator_expr):Phi VV:=λf ys=>lkF f ys [(260,k2w R),k9y.e,h3j.e,K313.e,(314,k4u R),(315,i9v R),K316.e,l0d.e,K318.e,K319.e]
def k8d(R:Ring_eval_evaluator_expr)(hr260:SX.Spec Tryz.prog 260 (k2w R))(hr314:SX.Spec Tryz.prog 314 (k4u R))(hr315:SX.Spec Tryz.prog 315 (i9v R)):OKΦ Tryz.prog (k7l R):=okl ⟨knS rfl ⟨hr260,λ_ _=>by kernel_rfl⟩,k9y.ok,h3j.ok,K313.ok,knS rfl ⟨hr314,λ_ _=>by kernel_rfl⟩,knS rfl ⟨hr315,λ_ _=>by kernel_rfl⟩,K316.ok,l0d.ok,K318.ok,K319.ok,trivial⟩
def k9r(R:Ring_eval_evaluator_expr):∀x,c5v Tryz.prog (k7l R) k40 k71 Tryz.f260 k6v x=a5u R x.1 x.2.1:=λx=>by kernel_rfl
def k7q:c67 Tryz.f260 k40=true:=by kernel_rfl
def k6j(R:Ring_eval_evaluator_expr):Phi VV:=λf ys=>lkF f ys [(260,k2w R),k9y.e,l0d.e,K371.e,l0u.e]
def k8p(R:Ring_eval_evaluator_expr)(hr260:SX.Spec Tryz.prog 260 (k2w R)):OKΦ Tryz.prog (k6j R):=okl ⟨knS rfl ⟨hr260,λ_ _=>by kernel_rfl⟩,k9y.ok,l0d.ok,K371.ok,l0u.ok,trivial⟩
def k92(R:Ring_eval_evaluator_expr):∀x,c5v Tryz.prog (k6j R) k4d k7b Tryz.f314 k6n x=a5i R x.1 x.2.1:=λx=>by kernel_rfl
def k7m:c67 Tryz.f314 k4d=true:=by kernel_rfl
def j63(R:Ring_eval_evaluator_expr):Phi VV:=λf ys=>lkF f ys [(260,k2w R)]
def j8a(R:Ring_eval_evaluator_expr)(hr260:SX.Spec Tryz.prog 260 (k2w R)):OKΦ Tryz.prog (j63 R):=okl ⟨knS rfl ⟨hr260,λ_ _=>by kernel_rfl⟩,trivial⟩
def k0d(R:Ring_eval_evaluator_expr):∀x,c5v Tryz.prog (j63 R) i97 j5i Tryz.f315 j54 x=a5d R x.1 x.2.1:=λx=>by kernel_rfl
def j5o:c67 Tryz.f315 i97=true:=by kernel_rfl
def a9r:∀n,SX.Spec Tryz.prog 260 (k2w (c4 n))/\SX.Spec Tryz.prog 314 (k4u (c4 n))/\SX.Spec Tryz.prog 315 (i9v (c4 n))|0=>⟨(λ_ _ h=>(by cases(show none=some _ from h))),(λ_ _ h=>(by cases(show none=some _ from h))),(λ_ _ h=>(by cases(show none=some _ from h)))⟩|n+1=>let⟨h260,h314,h315⟩:=a9r n;⟨a2m (fe:=k2w (c4 (n+1))) uok (k8d (c4 n) h260 h314 h315) mixed (fn:=Tryz.f260) (by kernel_rfl) k71 k6v (d8 k7q).1 (d8 k7q).2 (λ_=>rfl) (k9r (c4 n)),a2m (fe:=k4u (c4 (n+1))) uok (k8p (c4 n) h260) mixed (fn:=Tryz.f314) (by kernel_rfl) k7b k6n (d8 k7m).1 (d8 k7m).2 (λ_=>rfl) (k92 (c4 n)),a2m (fe:=i9v (c4 (n+1))) uok (j8a (c4 n) h260) mixed (fn:=Tryz.f315) (by kernel_rfl) j5i j54 (d8 j5o).1 (d8 j5o).2 (λ_=>rfl) (k0d (c4 n))⟩
def K260:Kn Tryz.prog VV:=⟨260,k9w,knS rfl ⟨(a9r FU).1,λ_ _=>by kernel_rfl⟩⟩
def K197:=mk 197 Tryz.f197 ⟨[.im 329 .yf [(1,5)],.v .zl,.ls .zq,.so 4 .z8,.v .yl,.po 0 1 117 .y4],[.v .z9]⟩ (cur6 a3e) (λb=>((b.1,()),(b.2.1,(b.2.2.1,(b.2.2.2,()))))) (λp=>(p.1.1,p.2.1,p.2.2.1,p.2.2.2.1)) (.s .n (.s (.s .n (.l [2,4,20] [] [.of 0 1 6 117 .y4,.bm 0 0 329 .yf [(1,6)],.ow 3 3 4 .z8,.bx 6 7 85 .zl,.ow 19 8 3 .z9,.v 21 .z9] .n)) .n)) [K259,K260]
def h3r:=mk 198 Tryz.f198 ⟨[.rp 329 .yf],[.v .y7]⟩ (cur1 a55) w1 u1 .n []
def k5h:=mk 195 Tryz.f195 ⟨[.ls .zn,.cl 196 [.z9]],[.v .z9]⟩ (λx=>a1y x.1 x.2.1.1) w1 u1 (.s .n (.s (.s .n (.l [0,1,7] [] [.v 8 .z9] .n)) .n)) [K196]
def K123:=mk 123 Tryz.f123 ⟨[.v .y8,.v .z9,.v .y9],[.v .zw,.v .z9]⟩ (cur3 c2a) w2 u2 .n [K194,k5h,K197,h3r]
def K124:=mk 124 Tryz.f124 ⟨[.v .zm,.v .zx],[.v .z9,.v .z9]⟩ (cur2 b9q) w2 u2 .n [f3f,l17,l0l,l0m]
def K70:=mk 70 Tryz.f70 ⟨[.v .y8,.v .z9,.v .y9],[.v .zw,.v .z9,.v .z9]⟩ (cur3 c1k) w3 u3 .n [K123,K124]
def K71:=mk 71 Tryz.f71 ⟨[.v .zm,.v .z9,.v .z9,.v .zx],[.v .z9,.v .z9]⟩ (cur4 b97) w2 u2 .n [K50,f3f,l17,l0l,l0m]
def K40:=mk 40 Tryz.f40 ⟨[.v .yb,.io 47 .zg,.ls .ya],[.v .z9]⟩ (cur3 a8d) (λb=>((b.1,()),(b.2,()))) (λp=>(p.1.1,p.2.1)) (sk 7 (.j [] [.bx 1 1 47 .zg,.ls 2 .ya,.bx 3 3 90 .yb,.bx 8 4 74 .y8,.ls 10 .zi,.bx 11 5 160 .y9] .n (.j [] [.bx 1 1 47 .zg,.ls 2 .ya,.bx 3 3 90 .yb,.bx 8 4 74 .y8,.ls 10 .zi] .n (.j [] [.bx 1 1 47 .zg] .n .n)))) [K26,K65,K66,K67,K68,K69,K70,K71]
def K22:=mk 22 Tryz.f22 ⟨[.v .zp,.ls .ya,.v .z9,.v .z9,.v .z9],[.v .zg]⟩ (cur5 b47) w1 u1 (sk 3 (.j [] [.v 2 .z9,.v 3 .z9,.v 4 .z9,.of 10 11 6 117 .y4,.bm 10 5 47 .zg [(11,6)],.bx 11 7 47 .zg,.v 13 .z9] .n .n)) [K24,K40]
def K9:=mk 9 Tryz.f9 ⟨[.v .zp,.ls .ya,.v .z9,.v .z9],[.ow 47 .zg]⟩ (cur4 c4q) w1 u1 (sk 2 (.s (.s .n (.l [1,2,3,13,14] [] [.bx 4 4 30 .zp,.ow 9 5 47 .zg,.v 15 .z9] .n)) .n)) [K22]
def K10:=mk 10 Tryz.f10 ⟨[],[.v .z8]⟩ (λx=>b2m) w1 u1 .n [K22]
def K23:=mk 23 Tryz.f23 ⟨[.ls .y4,.ls .y4],[.v .z8]⟩ (cur2 a61) w1 u1 (sk 2 (.s (.s .n (.l [0,1] [] [.v 5 .z9] .n)) .n)) []
def K11:=mk 11 Tryz.f11 ⟨[.v .zg,.v .zg],[.v .z8]⟩ (cur2 a59) w1 u1 .n [K23]
def g6y:Sig VV:=⟨[.ls .yg,.ls .z9,.v .yg,.v .z9,.v .z9],[.v .z8]⟩
def fe_3:Fent VV:=⟨g6y,Bool,λx=>l19 x.1 x.2.1 x.2.2.1 x.2.2.2.1 x.2.2.2.2.1,λb=>((b,()),()),none⟩
def un_3:Ress VV g6y.rs×Outs VV g6y.ps->Bool:=λp=>p.1.1
def an_3:Ann VV.C:=(.s .n (.s .n (.s .n (.s .n (.s .n (.s .n (.s .n (.s .n (.s .n (.s .n (.s .n (.s (.s .n (.l [] [] [.ow 16 5 47 .zg,.ow 17 6 47 .zg,.v 18 .z9] .n)) .n))))))))))))
def ok_3:SX.Spec Tryz.prog 3 fe_3:=a2m (fe:=fe_3) uok (okl (f8d [K5,K6,K7,K8,K9,K10,K11])) mixed (fn:=Tryz.f3) (by kernel_rfl) un_3 an_3 (d8 (s:=g6y) (by kernel_rfl)).1 (d8 (s:=g6y) (by kernel_rfl)).2 (λ_=>rfl) λx=>by kernel_rfl
end
end Go.PL
