/- Texts of the proof, joined. -/
import Derived.Test.YtlnlddeandmbhaaGreatDoorP10
import Derived.Shelf.SlIterI.Sorted
import Derived.Shelf.SortM.Plain
import Derived.Shelf.SortM.SortNone
import Derived.Lib.SlKeysI
import Derived.Test.YtlnlddeandmbhaaGreatDoorProg
import Derived.KernelRfl
set_option linter.defProp false
set_option linter.unusedVariables false
set_option linter.unusedSimpArgs false
set_option maxRecDepth 100000
open List
namespace Go.Proofs
open Go.Shelf
def Tryz.keysA_ren:Go.Shelf.Ren:=⟨λ|7=>145|10=>224|n=>n,λ|23=>244|26=>3|3=>3|28=>249|0=>0|27=>248|33=>121|4=>4|n=>n,λ|n=>n⟩
def Tryz.keysA:Go.Proofs.SlLaysZI.n7 Tryz.prog Tryz.keysA_ren:={
 mixed:=by kernel_rfl
 f7:=⟨Tryz.f145.name,by decide,Tryz.func145.trans (congrArg some (by kernel_rfl))⟩
 f10:=⟨Tryz.f224.name,by decide,Tryz.func224.trans (congrArg some (by kernel_rfl))⟩
 t0:=Tryz.underlying0
 a0:=Tryz.isAgg0
 z0:=Tryz.sizeOf0
 v0:=Tryz.zeroValue0
 t4:=Tryz.underlying4
 a4:=Tryz.isAgg4
 z4:=Tryz.sizeOf4
 v4:=Tryz.zeroValue4
 t23:=Tryz.underlying244
 a23:=Tryz.isAgg244
 z23:=Tryz.sizeOf244
 v23:=Tryz.zeroValue244
 t26:=Tryz.underlying3
 a26:=Tryz.isAgg3
 z26:=Tryz.sizeOf3
 v26:=Tryz.zeroValue3
 t27:=Tryz.underlying248
 a27:=Tryz.isAgg248
 z27:=Tryz.sizeOf248
 v27:=Tryz.zeroValue248
 t28:=Tryz.underlying249
 a28:=Tryz.isAgg249
 z28:=Tryz.sizeOf249
 v28:=Tryz.zeroValue249
 t33:=Tryz.underlying121
 a33:=Tryz.isAgg121
 z33:=Tryz.sizeOf121
 v33:=Tryz.zeroValue121}
def Tryz.sortedA_ren:Go.Shelf.Ren:=⟨λ|6=>144|8=>223|9=>135|11=>291|13=>216|12=>215|23=>287|24=>288|14=>278|15=>279|16=>280|17=>281|18=>282|19=>283|20=>284|21=>285|22=>286|25=>331|26=>332|27=>333|28=>334|29=>335|30=>49|31=>377|n=>n,λ|26=>3|28=>249|24=>23|0=>0|3=>3|37=>268|48=>355|50=>196|4=>4|40=>381|39=>380|45=>174|5=>5|9=>9|51=>423|55=>427|57=>456|58=>141|33=>121|n=>n,λ|n=>n⟩
def Tryz.sortedA:Go.Proofs.SlLaysZI.n6 Tryz.prog Tryz.sortedA_ren:={
 mixed:=by kernel_rfl
 f6:=⟨Tryz.f144.name,by decide,Tryz.func144.trans (congrArg some (by kernel_rfl))⟩
 f8:=⟨Tryz.f223.name,by decide,Tryz.func223.trans (congrArg some (by kernel_rfl))⟩
 f11:=⟨Tryz.f291.name,by decide,Tryz.func291.trans (congrArg some (by kernel_rfl))⟩
 t0:=Tryz.underlying0
 a0:=Tryz.isAgg0
 z0:=Tryz.sizeOf0
 v0:=Tryz.zeroValue0
 t24:=Tryz.underlying23
 a24:=Tryz.isAgg23
 z24:=Tryz.sizeOf23
 v24:=Tryz.zeroValue23
 t26:=Tryz.underlying3
 a26:=Tryz.isAgg3
 z26:=Tryz.sizeOf3
 v26:=Tryz.zeroValue3
 t28:=Tryz.underlying249
 a28:=Tryz.isAgg249
 z28:=Tryz.sizeOf249
 v28:=Tryz.zeroValue249
 i26:=by kernel_rfl}
def Tryz.sortA_ren:Go.Shelf.Ren:=⟨λ|5=>135|8=>216|7=>215|19=>287|20=>288|10=>278|11=>279|12=>280|13=>281|14=>282|15=>283|16=>284|17=>285|18=>286|30=>331|31=>332|32=>333|33=>334|34=>335|35=>49|40=>377|n=>n,λ|23=>23|25=>3|3=>3|32=>268|22=>23|0=>0|44=>355|46=>196|4=>4|36=>381|35=>380|41=>174|5=>5|9=>9|53=>423|57=>427|63=>456|64=>141|n=>n,λ|n=>n⟩
def Tryz.sortA:Go.Proofs.SlLaysM.n5 Tryz.prog Tryz.sortA_ren:={
 mixed:=by kernel_rfl
 f5:=⟨Tryz.f135.name,by decide,Tryz.func135.trans (congrArg some (by kernel_rfl))⟩
 f7:=⟨Tryz.f215.name,by decide,Tryz.func215.trans (congrArg some (by kernel_rfl))⟩
 f8:=Tryz.func216.trans (congrArg some (by kernel_rfl))
 f10:=⟨Tryz.f278.name,by decide,Tryz.func278.trans (congrArg some (by kernel_rfl))⟩
 f11:=⟨Tryz.f279.name,by decide,Tryz.func279.trans (congrArg some (by kernel_rfl))⟩
 f12:=⟨Tryz.f280.name,by decide,Tryz.func280.trans (congrArg some (by kernel_rfl))⟩
 f13:=⟨Tryz.f281.name,by decide,Tryz.func281.trans (congrArg some (by kernel_rfl))⟩
 f14:=⟨Tryz.f282.name,by decide,Tryz.func282.trans (congrArg some (by kernel_rfl))⟩
 f15:=⟨Tryz.f283.name,by decide,Tryz.func283.trans (congrArg some (by kernel_rfl))⟩
 f16:=⟨Tryz.f284.name,by decide,Tryz.func284.trans (congrArg some (by kernel_rfl))⟩
 f17:=⟨Tryz.f285.name,by decide,Tryz.func285.trans (congrArg some (by kernel_rfl))⟩
 f18:=⟨Tryz.f286.name,by decide,Tryz.func286.trans (congrArg some (by kernel_rfl))⟩
 f19:=Tryz.func287.trans (congrArg some (by kernel_rfl))
 f20:=Tryz.func288.trans (congrArg some (by kernel_rfl))
 f30:=⟨Tryz.f331.name,by decide,Tryz.func331.trans (congrArg some (by kernel_rfl))⟩
 f31:=Tryz.func332.trans (congrArg some (by kernel_rfl))
 f32:=Tryz.func333.trans (congrArg some (by kernel_rfl))
 f33:=⟨Tryz.f334.name,by decide,Tryz.func334.trans (congrArg some (by kernel_rfl))⟩
 f34:=⟨Tryz.f335.name,by decide,Tryz.func335.trans (congrArg some (by kernel_rfl))⟩
 f35:=⟨Tryz.f49.name,by decide,Tryz.func49.trans (congrArg some (by kernel_rfl))⟩
 f40:=⟨Tryz.f377.name,by decide,Tryz.func377.trans (congrArg some (by kernel_rfl))⟩
 t0:=Tryz.underlying0
 a0:=Tryz.isAgg0
 z0:=Tryz.sizeOf0
 v0:=Tryz.zeroValue0
 t3:=Tryz.underlying3
 a3:=Tryz.isAgg3
 z3:=Tryz.sizeOf3
 v3:=Tryz.zeroValue3
 t4:=Tryz.underlying4
 a4:=Tryz.isAgg4
 z4:=Tryz.sizeOf4
 v4:=Tryz.zeroValue4
 t5:=Tryz.underlying5
 a5:=Tryz.isAgg5
 z5:=Tryz.sizeOf5
 v5:=Tryz.zeroValue5
 t9:=Tryz.underlying9
 a9:=Tryz.isAgg9
 z9:=Tryz.sizeOf9
 v9:=Tryz.zeroValue9
 t22:=Tryz.underlying23
 a22:=Tryz.isAgg23
 z22:=Tryz.sizeOf23
 v22:=Tryz.zeroValue23
 t23:=Tryz.underlying23
 a23:=Tryz.isAgg23
 z23:=Tryz.sizeOf23
 v23:=Tryz.zeroValue23
 t25:=Tryz.underlying3
 a25:=Tryz.isAgg3
 z25:=Tryz.sizeOf3
 v25:=Tryz.zeroValue3
 t32:=Tryz.underlying268
 a32:=Tryz.isAgg268
 z32:=Tryz.sizeOf268
 v32:=Tryz.zeroValue268
 t35:=Tryz.underlying380
 a35:=Tryz.isAgg380
 z35:=Tryz.sizeOf380
 v35:=Tryz.zeroValue380
 t36:=Tryz.underlying381
 a36:=Tryz.isAgg381
 z36:=Tryz.sizeOf381
 v36:=Tryz.zeroValue381
 t41:=Tryz.underlying174
 a41:=Tryz.isAgg174
 z41:=Tryz.sizeOf174
 v41:=Tryz.zeroValue174
 t44:=Tryz.underlying355
 a44:=Tryz.isAgg355
 z44:=Tryz.sizeOf355
 v44:=Tryz.zeroValue355
 t46:=Tryz.underlying196
 a46:=Tryz.isAgg196
 z46:=Tryz.sizeOf196
 v46:=Tryz.zeroValue196
 t53:=Tryz.underlying423
 a53:=Tryz.isAgg423
 z53:=Tryz.sizeOf423
 v53:=Tryz.zeroValue423
 t57:=Tryz.underlying427
 a57:=Tryz.isAgg427
 z57:=Tryz.sizeOf427
 v57:=Tryz.zeroValue427
 t63:=Tryz.underlying456
 a63:=Tryz.isAgg456
 z63:=Tryz.sizeOf456
 v63:=Tryz.zeroValue456
 t64:=Tryz.underlying141
 a64:=Tryz.isAgg141
 z64:=Tryz.sizeOf141
 v64:=Tryz.zeroValue141}
end Go.Proofs
namespace Go.PL
open Go Go.SX Go.Proofs Go.RowKit Go.Maps Go.Sort Go.WideElems Go.WideShapes
def f3i{P:Program}{k:TypeId}(hk:P.underlying k=some (.int .i64)){w:World}{mb:Nat}{l:List (Int×Int)}(hn:(l.map (·.1)).Nodup)(hm:w.heap[mb]?=some (b92 l))(hw:(l.all λq=>c4v q.1)=true)(hl:l.length<=1000000):∃D0:DataW Unit,w.ownsMap P k (λ_=>some (.nil,[])) mb l.length D0/\(intKeys D0).Perm (l.map (·.1))/\Maps.size D0=l.length:=by
 have hlen:(l.zipIdx.map λq=>({key:=.int .i64 q.1.1,val:=.int .i64 q.1.2,born:=q.2}:MapEntry)).length=l.length:=by simp
 have hrd:∀q∈l.zipIdx,WideElems.rd P k (λ_=>some ((.nil:DataW Unit),[])) ({key:=.int .i64 q.1.1,val:=.int .i64 q.1.2,born:=q.2}:MapEntry)=some (.int .i64 q.1.1,.nil):=by
  intro q hq;have hm:q.1∈l:=by obtain⟨j,hj⟩:=mem_iff_getElem?.1 hq;rw[getElem?_zipIdx]at hj;cases hL:l[j]?with|none=>rw[hL]at hj;cases hj|some p=>rw[hL]at hj;obtain rfl:=qH hj;exact qE hL
  have h1:=qX.1 hw q.1 hm;have h2:(Lit.int .i64 q.1.1).wf=true:=by unfold c4v at h1;simp only[qB,decide_eq_true_eq]at h1;simp[Lit.wf,IntKind.min,IntKind.max,IntKind.signed,IntKind.bits];omega
  simp[WideElems.rd,keyOf,hk,mapKey,h2]
 have hborn:(l.zipIdx.map λq=>q.2)=List.range l.length:=by rw[range_eq_range'];exact zipIdx_map_snd 0 l
 have hkeys:(l.zipIdx.map λq=>q.1.1)=l.map (·.1):=by
  have:(l.zipIdx.map (·.1)).map (·.1)=l.map (·.1):=by rw[zipIdx_map_fst]
  rw[<-this,map_map];rfl
 refine⟨_,⟨_,_,hm,⟨?_,?_,?_⟩,by simp,rfl⟩,?_,?_⟩;.simp[maxLen];omega
 .rw[MapKept.stamped_iff];refine⟨λx hx=>?_,?_,?_⟩;.obtain⟨q,hq,rfl⟩:=List.mem_map.1 hx;have:q.2∈l.zipIdx.map λq=>q.2:=List.mem_map.2 ⟨q,hq,rfl⟩;rw[hborn]at this;exact List.mem_range.1 this
  .show((l.zipIdx.map λq=>({key:=.int .i64 q.1.1,val:=.int .i64 q.1.2,born:=q.2}:MapEntry)).map (·.born)).Nodup;rw[map_map];exact(show(l.zipIdx.map λq=>q.2).Nodup by rw[hborn];exact nodup_range)
  .show(l.zipIdx.map λq=>({key:=.int .i64 q.1.1,val:=.int .i64 q.1.2,born:=q.2}:MapEntry)).Pairwise λx y=>x.key≠y.key;rw[pairwise_map];have h1:(l.zipIdx.map λq=>q.1.1).Nodup:=by rw[hkeys];exact hn
   exact(List.pairwise_map.1 h1).imp λh e=>h (by simpa using e)
 .intro x hx;obtain⟨q,hq,rfl⟩:=List.mem_map.1 hx;exact⟨_,hrd q hq⟩
 .show(((((l.zipIdx.map λq=>({key:=.int .i64 q.1.1,val:=.int .i64 q.1.2,born:=q.2}:MapEntry))).map (WideElems.rg P k λ_=>some ((.nil:DataW Unit),[]))).foldr DataW.insert []).map λp=>intOf p.1).Perm _;refine((sorted_perm _).map _).trans ?_;rw[map_map,map_map,<-hkeys];refine List.Perm.of_eq (map_congr_left λq hq=>?_);simp[WideElems.rg,hrd q hq,intOf]
 .show(((l.zipIdx.map λq=>({key:=.int .i64 q.1.1,val:=.int .i64 q.1.2,born:=q.2}:MapEntry)).map (WideElems.rg P k λ_=>some ((.nil:DataW Unit),[]))).foldr DataW.insert []).length=l.length;rw[length_sorted];simp
def g2s{B:Nat}{e:TypeId}{w:World}{v:Go.Value}{n:Nat}{l:List Int}(h:w.ownsRow B e 1 v n (l.map encZ))(hn:l.length=n):PL.Own B e 1 cellsZ w v l:=by
 subst hn;have hf:∀l:List Int,l.flatMap cellsZ=l.map encZ:=λl=>by induction l with|nil=>rfl|cons x l ih=>exact congrArg (encZ x::.) ih
 rcases h.2with⟨h1,h2⟩|⟨g,cap,cur,h1,h2,h3,h4,h5,h6,h7⟩;.exact .inl ⟨h1,List.length_eq_zero_iff.1 h2⟩
 .exact .inr ⟨g,0,cap,cur,h1,h2,h3,h4,h5,by omega,by rw[drop_zero,h7,hf]⟩
def g86(m:Nat):AnyZI.SortsIn Tryz.prog Tryz.sortedA_ren Fence.wide m:=⟨λblk off cap ss W hH hblk hsz=>callsIn_wide.2 (AnyM.slices_Sort_int Tryz.sortA blk off cap ss W hH hblk hsz),λp cap W=>callsIn_wide.2 (AnyM.slices_Sort_int_none Tryz.sortA p cap W)⟩
def e6p{P:Program}{f:FuncId}{e:TypeId}(h1:∀(blk off cap:Nat)(zs:List Int)(w:World),Holds (Go.Value.int .i64) w blk off zs.toArray->blk<w.heap.size->zs.length<4611686018427387904->Calls P f #[.slice (some ⟨blk,off,none⟩) zs.length cap] w λe w'=>e=.returned (.tuple #[])/\∃n os,w'=grow (putRow (Go.Value.int .i64) (Sort.ahead w n) blk off (b89 zs).toArray) os)(h0:∀(p:Option Addr)(cap:Nat)(w:World),Calls P f #[.slice p 0 cap] w λe w'=>e=.returned (.tuple #[])/\w'=w){l:List Int}{w:World}{v:Go.Value}(hO:PL.Own 0 e 1 (λx:Int=>[Go.Value.int .i64 x]) w v l)(hl:l.length<4611686018427387904):Calls P f #[v] w λq w'=>q=.returned (.tuple #[])/\Ext (λb=>v.ownBlock=some b) w w'/\PL.Own 0 e 1 (λx:Int=>[Go.Value.int .i64 x]) w' v (b89 l):=by
 have hlen:(b89 l).length=l.length:=(a8p l).length_eq;by_cases hz:l.length=0;.obtain⟨a,cap,hv,_⟩:=hO.shape;obtain rfl:=List.length_eq_zero_iff.1 hz;rw[show v=.slice a 0 cap from hv];rw[show v=.slice a 0 cap from hv]at hO;refine(h0 a cap w).mono ?_;rintro q w'⟨rfl,rfl⟩;exact⟨rfl,Ext.refl _ _,by exact hO⟩
 .have hO2:=hO;rcases hO with⟨_,h⟩|⟨g,o,cap,cur,rfl,h2,h3,h4,h5,h6,h7⟩;.exact absurd (by rw[h];rfl) hz
  .have hlt:g<w.heap.size:=(qN.1 h3).1;refine(h1 g o cap l w (e8y (d6l (n:=1) (λ_=>rfl) hO2)) hlt hl).mono ?_;rintro q w'⟨rfl,n,os,rfl⟩;rw[e5t];refine⟨rfl,e7r rfl,?_⟩;have:=e97 (n:=1) (cells:=λx:Int=>[Go.Value.int .i64 x]) (λ_=>rfl) (q:=n) (os:=os) (d:=(b89 l).toArray) hO2 (by simpa using hlen);simpa using this
def d9r(l r:List Int)(w:World)(v:Go.Value)(hO:PL.Own 0 3 1 cellsZ w v l)(hF:b8s l=some r):Calls Tryz.prog 135 #[v] w λq w'=>q=.returned (.tuple #[])/\Ext (λb=>v.ownBlock=some b) w w'/\PL.Own 0 3 1 cellsZ w' v r:=by
 unfold b8s at hF;split at hF;case isFalse=>cases hF
 rename_i hl;obtain rfl:=qH hF;exact e6p (λblk off cap ss W hH hblk hsz=>by rw[<-e37];exact AnyM.slices_Sort_int Tryz.sortA blk off cap ss W hH hblk hsz) (λp cap W=>AnyM.slices_Sort_int_none Tryz.sortA p cap W) hO (by omega)
def d4b(i mb:Nat)(l:List (Int×Int))(r:List Int)(w:World)(hi:Mb w i 244 [.map (some mb)])(hn:(l.map (·.1)).Nodup)(hm:w.heap[mb]?=some (b92 l))(hr:c8c l=some r):Calls Tryz.prog 144 #[.func (.func 224) #[] #[.pointer (some ⟨i,0,none⟩)]] w λq w'=>∃v,q=.returned v/\Ext noG w w'/\PL.Own w.heap.size 3 1 cellsZ w' v r:=by
 unfold c8c at hr;split at hr;case isFalse=>cases hr
 rename_i hc;obtain rfl:=qH hr;obtain⟨D0,hown,hperm,hsize⟩:=f3i (P:=Tryz.prog) (k:=3) (by kernel_rfl) hn hm hc.1 hc.2;have hcell:w.cell? ⟨i,0,none⟩=some (.map (some mb)):=by have:=hi.ca 0 (.map (some mb)) rfl;simpa[Addr.add]using this
 have hseq:SeqGives Fence.wide 2 Tryz.prog 224 #[.pointer (some ⟨i,0,none⟩)] encZ (λss=>ss.Perm (intKeys D0)) (Maps.size D0) w:=AnyZI.keys_gives (ρ:=Tryz.keysA_ren) {Tryz.keysA with} Fence.wide _ trivial rfl (by omega) i mb _ D0 _ hi.lt hcell hown;have cS:=AnyZI.sorted_in Tryz.sortedA Fence.wide 5 trivial trivial trivial trivial rfl (by omega) (g86 _) (enters_of Tryz.func135 (by kernel_rfl) rfl) 224 #[.pointer (some ⟨i,0,none⟩)] trivial (enters_of Tryz.func224 (by kernel_rfl) rfl) _ _ (by rw[hsize];unfold maxLen;omega) (by rw[hsize];omega) _ hseq;refine(callsIn_wide.1 cS).mono ?_;rintro e w'⟨v,ss,rfl,hS,hrow,_,hb⟩;have hss:ss.mergeSort (λx y=>decide (x<=y))=b89 (l.map (·.1)):=(mergeSort_of_perm_i (hS.trans hperm)).trans (e37 _);rw[hss]at hrow;refine⟨v,rfl,⟨hb.os,hb.tape,hb.output,hb.size,λk hk _=>hb.block k hk⟩,g2s hrow ?_⟩;rw[<-hss];exact length_mergeSort _
noncomputable section
def j9s:Kn Tryz.prog VV:=⟨135,j9c,show d6v Tryz.prog 135 _ from g65 (U:=VV) (c:=.z9) (cells:=cellsZ) (a14 (fn:=Tryz.f135) (by kernel_rfl) (by kernel_rfl) (by kernel_rfl)) (λG w cs x h=>by obtain⟨_,css,rfl,hh⟩:=a91.1 h;match css,hh with|[a],⟨h1,_⟩=>rw[show a=_ from h1];rfl) (λG w x=>a91.2 ⟨rfl,[[.int .i64 x]],rfl,⟨rfl,trivial⟩⟩) d9r⟩
def K144:Kn Tryz.prog VV:=⟨144,j8p,show d6v Tryz.prog 144 _ from g3x (U:=VV) (c:=.z9) (a14 (fn:=Tryz.f144) (by kernel_rfl) (by kernel_rfl) (by kernel_rfl)) rfl (λ_=>rfl) d4b⟩
def K266:Kn Tryz.prog VV:=⟨266,j6b,knS rfl ⟨j8m,λ_ _=>by kernel_rfl⟩⟩
def K208:=mk 208 Tryz.f208 ⟨[.ls .ya,.ls .zy],[.v .yc,.v .z8]⟩ (cur2 a9c) w2 u2 .n [K77,k13,j8e,K266]
def k10:=mk 136 Tryz.f136 ⟨[.ow 3 .z9],[.ow 3 .z9]⟩ (cur1 a0n) w1 u1 (sk 2 (.s (.s .n (.l [] [] [.ow 0 1 3 .z9,.v 3 .z9] (.s .n (.s (.s .n (.s (.s (.g [1002]) (.s (.s .n (.l [] [] [.ow 0 1 3 .z9,.v 3 .z9,.v 5 .z9,.vw 4 1 .z9] .n)) (.s (.g [1002]) (.s (.g [2002]) .n)))) .n)) .n)))) .n)) []
def h1y:=mk 209 Tryz.f209 ⟨[.v .yc],[.ow 3 .z9]⟩ (cur1 a6t) w1 u1 (sk 2 (.s (.s .n (.l [18,19] [] [.bx 1 1 311 .yc,.ow 3 2 3 .z9,.v 20 .z9] .n)) (.s (.s .n (.l [35,36] [] [.bx 1 1 311 .yc,.ow 3 2 3 .z9,.v 37 .z9] (.s .n (.s .n (.s (.s .n (.s .n (.s .n (.l [35,36,37,47,48] [] [.bx 1 1 311 .yc,.ow 3 2 3 .z9,.bx 7 3 79 .zy,.v 49 .z9] .n)))) .n))))) .n))) [j9s,k10]
def k1w:=mk 267 Tryz.f267 ⟨[.v .y1,.v .z9],[.v .z8]⟩ (cur2 a4l) w1 u1 .n []
def K268:=mk 268 Tryz.f268 ⟨[.v .yc,.v .z9,.v .z9],[.v .z9,.v .z8]⟩ (cur3 a4c) w2 u2 (.s .n (.s (.s .n (.l [1,2,11,12] [] [.v 13 .z9] .n)) .n)) [k1w]
def k1k:=mk 323 Tryz.f323 ⟨[.v .yc,.v .z9,.ls .z9],[.ow 38 .ya]⟩ (cur3 a2j) w1 u1 (sk 2 (.s (.s .n (.l [1,2,11,12] [] [.ow 7 3 38 .ya,.v 13 .z9] .n)) .n)) [K94,k1w]
def K269:=mk 269 Tryz.f269 ⟨[.v .yc,.v .z9],[.v .z9,.v .z8]⟩ (cur2 a5v) w2 u2 (sk 2 (.s (.s .n (.l [15] [] [.bx 6 2 38 .ya,.v 7 .z8,.ow 14 3 38 .ya,.v 16 .z9] .n)) .n)) [k1k]
def K330:=mk 330 Tryz.f330 ⟨[.v .y1,.rp 3 .z9],[.v .z8]⟩ (cur2 b5c) w1 u1 .n []
def j3s:=mk 376 Tryz.f376 ⟨[.ls .y1,.cl 330 [.z9]],[.v .z9]⟩ (λx=>y4 x.1 x.2.1.1) w1 u1 (.s .n (.s (.s .n (.l [0,1,7] [] [.v 8 .z9] .n)) .n)) [K330]
def j4q:=mk 329 Tryz.f329 ⟨[.ls .y1,.cl 330 [.z9]],[.v .z8]⟩ (λx=>s8 x.1 x.2.1.1) w1 u1 .n [j3s]
def k1o:=mk 276 Tryz.f276 ⟨[.ls .y1,.v .z9],[.v .z8]⟩ (cur2 a8r) w1 u1 .n [j4q]
def K272:=mk 272 Tryz.f272 ⟨[.ls .ya,.v .z9],[.v .z9,.v .z8]⟩ (cur2 a8j) w2 u2 (.s .n (.s (.s (.g [3]) .n) (.s .n (.s (.s .n (.l [1,22,23] [] [.bx 6 2 38 .ya,.v 7 .z8,.v 24 .z9] .n)) .n)))) [K79,j9g,j8e,k1o]
def K324:=mk 324 Tryz.f324 ⟨[.ls .ya],[.ow 3 .z9]⟩ (cur1 b12) w1 u1 (sk 2 (.s (.s .n (.l [6,7] [] [.ow 3 1 3 .z9,.v 8 .z9] .n)) .n)) [j9s,k10]
def K270:=mk 270 Tryz.f270 ⟨[.v .yc,.v .z9,.v .z9],[.v .z9,.v .z8]⟩ (cur3 a3v) w2 u2 (sk 2 (.s (.s .n (.l [1,2,26] [] [.bx 3 3 311 .yc,.mp 8 4,.v 9 .z9,.ow 25 5 38 .ya,.v 27 .z9] .n)) (.s .n (.s .n (.s .n (.s .n (.s .n (.s .n (.s .n (.s .n (.s .n (.s (.s .n (.l [118] [] [.mp 8 3,.v 18 .z9,.ow 117 4 3 .z9,.v 119 .z9] .n)) .n)))))))))))) [K94,K144,K145,K272,k1k,K324]
def K326:=mk 326 Tryz.f326 ⟨[.v .ya,.v .ya],[.v .z9]⟩ (cur2 a6j) w1 u1 .n [K29]
def j3x:=mk 325 Tryz.f325 ⟨[.ls .ya,.cl 326 []],[.v .ya]⟩ (λx=>m5 x.1) w1 u1 (.s .n (.j [] [.ls 0 .ya,.cl 1 326 [],.bx 4 2 38 .ya] .n (.s .n (.s (.s .n (.l [0,1] [] [.bx 4 2 38 .ya,.bx 5 3 38 .ya,.v 6 .z9] .n)) .n)))) [K326]
def K271:=mk 271 Tryz.f271 ⟨[.v .yc,.v .z9],[.v .z9,.v .z8]⟩ (cur2 a4b) w2 u2 .n [k1k,j3x]
def K210:=mk 210 Tryz.f210 ⟨[.v .yc,.v .z9],[.v .z9,.v .z9]⟩ (cur2 a7m) w2 u2 .n [K53,k1w,K268,K269,K270,K271,K272]
def h1r:=mk 131 Tryz.f131 ⟨[.ls .ya,.ls .zy],[.ow 317 .y0]⟩ (cur2 a4h) w1 u1 (sk 5 (.s (.s .n (.l [] [] [.bx 5 2 311 .yc,.ow 7 3 317 .y0,.ow 8 4 3 .z9,.v 9 .z9] .n)) .n)) [K208,h1y,K210]
def K201:=mk 201 Tryz.f201 ⟨[.v .z9,.ls .y1,.im 230 .zc [(0,4)],.rp 229 .zz,.po 2 0 299 .zr],[]⟩ (cur5 a1s) (λb=>((),(b.1,(b.2,())))) (λp=>(p.2.1,p.2.2.1)) (.s .n (.l [0,3,8,9] [] [.of 2 0 5 299 .zr,.bm 2 2 230 .zc [(0,5)],.v 10 .z9] (.s .n (.s .n (.s (.s .n (.g [6000,6008])) .n))))) []
def K202:=mk 202 Tryz.f202 ⟨[.ls .y0,.v .z9,.v .z9],[.ow 36 .y1]⟩ (cur3 b1e) w1 u1 (sk 2 (.s (.s .n (.l [1,2,10,11] [] [.ow 7 3 36 .y1,.v 12 .z9] .n)) .n)) [j3q]
def K203:=mk 203 Tryz.f203 ⟨[],[.ow 304 .zf]⟩ (λx=>b3o) w1 u1 .n []
def K265:=mk 265 Tryz.f265 ⟨[.v .zj,.rp 3 .z9],[.v .z8]⟩ (cur2 b56) w1 u1 .n []
def j4y:=mk 262 Tryz.f262 ⟨[.ls .zj,.cl 265 [.z9]],[.v .z9]⟩ (λx=>t7 x.1 x.2.1.1) w1 u1 (.s .n (.s (.s .n (.l [0,1,7] [] [.v 8 .z9] .n)) .n)) [K265]
def K204:=mk 204 Tryz.f204 ⟨[.v .y8,.v .z9],[.v .z9,.v .z8]⟩ (cur2 b43) w2 u2 .n [j4y]
def K205:=mk 205 Tryz.f205 ⟨[.ls .ya,.v .z9,.v .z9],[.ow 36 .y1]⟩ (cur3 b7p) w1 u1 (sk 2 (.s (.s .n (.l [0,1,2,10,11] [] [.ow 7 3 36 .y1,.v 12 .z9] .n)) .n)) [j9g,j6o,j8e]
def h2k:=mk 207 Tryz.f207 ⟨[.ls .y1,.v .z9],[.ow 36 .y1]⟩ (cur2 b4k) w1 u1 (sk 2 (.s (.s .n (.l [10] [] [.v 1 .z9,.ow 5 2 36 .y1,.ow 9 3 36 .y1,.v 11 .z9] (.s .n (.s .n (.s (.s .n (.s .n (.j [] [.v 1 .z9,.ow 5 2 36 .y1,.bx 7 3 36 .y1,.ow 9 4 36 .y1,.v 10 .z9,.v 11 .z9] .n .n))) .n))))) .n)) [j3q]
def K206:=mk 206 Tryz.f206 ⟨[.ls .ya,.v .z9,.v .y1,.v .z9],[.ow 36 .y1]⟩ (cur4 b1c) w1 u1 (sk 2 (.s (.s .n (.l [0,1,3] [] [.bx 6 4 36 .y1,.ow 9 5 36 .y1,.v 10 .z9] (.s .n (.s (.s .n (.s (.s .n (.l [0,1,3,10,20] [] [.bx 6 4 36 .y1,.ow 9 5 36 .y1,.ow 11 6 36 .y1,.ow 19 7 38 .ya,.v 21 .z9] .n)) .n)) .n)))) .n)) [j6o,j3q,h2k,k13,j8e]
def K130:=mk 130 Tryz.f130 ⟨[.ls .ya,.ls .y0,.ls .zz,.v .z9],[.ow 299 .zr,.v .z9]⟩ (cur4 a7e) w2 u2 (sk 2 (.s (.s .n (.l [0,1,2,3,28,29] [] [.v 30 .z9] .n)) (.s (.g [6000]) (.s .n (.s (.s .n (.l [0,1,61,62] [] [.of 12 0 5 299 .zr,.bm 12 4 230 .zc [(0,5)],.bx 13 6 36 .y1,.v 63 .z9] (.s .n (.s .n (.s (.s .n (.s .n (.s .n (.s .n (.l [0,1,61,62,63,77] [] [.of 12 0 5 299 .zr,.bm 12 4 230 .zc [(0,5)],.bx 13 6 36 .y1,.bx 15 7 229 .zz,.ow 76 8 304 .zf,.v 78 .z9,.cr 16 201 [4,7]] .n))))) .n))))) (.s (.g [6000]) .n)))))) [j6o,K201,K202,K203,K204,K205,K206,h2k]
def K273:=mk 273 Tryz.f273 ⟨[.ls .zr,.v .z9,.v .z9],[.ow 36 .y1]⟩ (cur3 b9z) w1 u1 (sk 2 (.s (.s .n (.l [1,2,10,11] [] [.ow 7 3 36 .y1,.v 12 .z9] .n)) .n)) [j3q]
def K211:=mk 211 Tryz.f211 ⟨[.ls .zr],[.bo 323 .z3]⟩ (cur1 b2x) w1 u1 (sk 2 (.s (.s .n (.l [0] [] [.bx 3 1 323 .z3,.v 8 .z9] (.s .n (.s .n (.s (.s .n (.s .n (.l [0,4,8] [] [.bx 3 1 323 .z3,.v 11 .z9] .n))) .n))))) .n)) [K273]
def K274:=mk 274 Tryz.f274 ⟨[.rp 323 .z3,.v .z9],[.v .z9,.ow 3 .z9]⟩ (cur2 a4a) w2 u2 (.s .n (.s (.s .n (.l [0,1] [] [.ow 5 2 3 .z9,.v 6 .z9] (.s .n (.s (.s (.s .n (.l [0,1,6] [] [.ow 5 2 3 .z9,.v 12 .z9] .n)) .n) .n)))) .n)) [k1o]
def K96:=mk 96 Tryz.f96 ⟨[.ls .y1],[.v .z9,.v .z8]⟩ (cur1 b90) w2 u2 .n [j3q]
def K327:=mk 327 Tryz.f327 ⟨[.rp 323 .z3,.v .z9,.v .z9],[.v .z9]⟩ (cur3 a1b) w1 u1 .n [K96,j6o]
def K375:=mk 375 Tryz.f375 ⟨[.ls .y1,.v .z9],[.v .z9,.v .z8]⟩ (cur2 c4p) w2 u2 (sk 2 (.s (.s .n (.l [12] [] [.v 1 .z9,.ow 11 2 36 .y1,.v 13 .z9] .n)) .n)) [j3q]
def K328:=mk 328 Tryz.f328 ⟨[.rp 323 .z3,.v .z9,.v .z9],[.v .z9]⟩ (cur3 a2f) w1 u1 .n [j6o,K375]
def K275:=mk 275 Tryz.f275 ⟨[.rp 323 .z3,.ls .z9,.v .z9],[.v .z9]⟩ (cur3 a69) w1 u1 (sk 2 (.s (.s .n (.l [0,1,2,16,17] [] [.v 7 .z9,.v 18 .z9] .n)) (.s .n (.s (.s .n (.l [0,2,39,40] [] [.v 7 .z9,.v 41 .z9] .n)) .n)))) [K327,K328]
def K213:=mk 213 Tryz.f213 ⟨[.rp 323 .z3,.v .z9],[.v .z9,.v .z9,.v .z8]⟩ (cur2 b17) w3 u3 .n [K274,K275]
def h31:=mk 212 Tryz.f212 ⟨[.v .z9,.v .z9,.rp 318 .ze,.im 130 .zb [(0,4)],.po 3 0 240 .zi],[]⟩ (cur5 a72) (λb=>((),(b.1,(b.2,())))) (λp=>(p.2.1,p.2.2.1)) (sk 3 (.s (.s (.g [6000]) (.s (.g [6003,6008]) (.s (.s (.g [6000]) (.g [2003,6000,6004])) .n))) (.g [6000,6004]))) [K213]
def K277:=mk 277 Tryz.f277 ⟨[.ls .z9,.ls .z9],[.v .z8]⟩ (cur2 a88) w1 u1 (sk 2 (.s (.s .n (.l [0,1,12] [] [.v 13 .z9] .n)) .n)) []
def K214:=mk 214 Tryz.f214 ⟨[.ls .zd],[.ow 330 .zs]⟩ (cur1 b7w) w1 u1 (sk 3 (.s (.s .n (.l [18,19] [] [.ow 3 1 189 .zd,.ow 4 2 3 .z9,.v 20 .z9] (.s .n (.s .n (.s (.s .n (.s .n (.s .n (.l [18,19,20,33,34] [] [.ow 3 1 189 .zd,.ow 4 2 3 .z9,.v 35 .z9] .n)))) .n))))) (.s .n (.s .n (.s .n (.s (.s .n (.l [] [] [.ow 3 1 189 .zd,.ow 4 2 3 .z9,.ow 9 3 330 .zs,.v 10 .z9] (.s .n (.s (.s .n (.s (.s .n (.l [10,71] [(70,1)] [.ow 3 1 189 .zd,.ow 4 2 3 .z9,.ow 9 3 330 .zs,.of 11 1 5 3 .z9,.bm 11 4 330 .zs [(1,5)],.v 72 .z9] .n)) .n)) .n)))) .n)))))) [j9s,k10,j3q,k1o,K277]
def g6w:=mk 132 Tryz.f132 ⟨[.ls .zr],[.ow 240 .zi]⟩ (cur1 a71) w1 u1 (.s .n (.s (.g [7003]) (.s .n (.s (.s .n (.l [] [] [.bx 3 1 318 .ze,.ow 4 2 189 .zd,.v 12 .z9] .n)) (.s (.g [6000]) (.s .n (.s (.s .n (.l [26] [] [.bx 3 1 318 .ze,.of 6 0 3 240 .zi,.bm 6 2 130 .zb [(0,3)],.ow 25 4 330 .zs,.v 27 .z9,.cr 7 212 [1,2]] .n)) (.s (.g [6000]) .n)))))))) [K211,h31,K214]
def h0q:=mk 133 Tryz.f133 ⟨[.v .z9,.rp 3 .z9],[.v .z8]⟩ (cur2 b1l) w1 u1 .n []
def j7p:=mk 84 Tryz.f84 ⟨[.v .yb,.ls .ya,.cl 133 [.z9]],[.ow 240 .zi]⟩ (λx=>a3g x.1 x.2.1 x.2.2.1.1) w1 u1 (sk 2 (.s (.s .n (.l [1,2,16,17] [] [.bx 3 3 94 .yb,.ow 7 4 229 .zz,.v 18 .z9] .n)) .n)) [K83,K130,h1r,g6w,h0q]
def K85:=mk 85 Tryz.f85 ⟨[.v .yb,.ls .ya,.v .z9],[.ow 240 .zi]⟩ (cur3 b3l) w1 u1 .n [j7p]
def k0u:=mk 84 Tryz.f84 ⟨[.v .yb,.ls .ya,.bn 57 .yb],[.ow 240 .zi]⟩ (cur3 a0s) w1 u1 (sk 2 (.s (.s .n (.l [1,2,16,17] [] [.bx 3 3 94 .yb,.ow 7 4 229 .zz,.v 18 .z9] .n)) .n)) [K57,K83,K130,h1r,g6w]
def K55:=mk 55 Tryz.f55 ⟨[.v .yb,.ls .ya,.v .z9],[.ow 240 .zi]⟩ (cur3 a2z) w1 u1 .n [K57,k0u,K85]
def K86:=mk 86 Tryz.f86 ⟨[.ls .ya,.v .z9],[.ow 3 .z9]⟩ (cur2 b2v) w1 u1 (sk 2 (.s (.s .n (.l [1,8,9] [] [.ow 5 2 3 .z9,.v 10 .z9] .n)) .n)) [j9g,j9s,k10]
def K139:=mk 139 Tryz.f139 ⟨[.v .z9],[.v .z9]⟩ (cur1 a3o) w1 u1 .n []
def K140:=mk 140 Tryz.f140 ⟨[.v .z9],[.v .z9]⟩ (cur1 a7i) w1 u1 .n [k25]
def K89:=mk 89 Tryz.f89 ⟨[.v .z9],[.v .z9,.v .z9,.v .z9,.v .z8]⟩ (cur1 a4d) (λb=>((b.1,(b.2.1,(b.2.2.1,(b.2.2.2,())))),())) (λp=>(p.1.1,p.1.2.1,p.1.2.2.1,p.1.2.2.2.1)) (sk 3 (.s (.l [0] [] [.v 2 .z9] .n) (.s .n (.s .n (.s (.l [2] [] [.v 3 .z9,.v 6 .z9] .n) .n))))) [K79,K139,K140,k22]
def K218:=mk 218 Tryz.f218 ⟨[.v .z9,.v .z9,.v .z9],[.v .z9,.v .z8]⟩ (cur3 b1r) w2 u2 (sk 3 (.s (.s .n (.l [0,1] [] [.v 8 .z9,.v 9 .z9] .n)) .n)) [K139,k22]
def K138:=mk 138 Tryz.f138 ⟨[.v .z9,.v .z9],[.v .z9,.v .z8]⟩ (cur2 b03) w2 u2 (sk 4 (.j [] [.v 6 .z9,.v 7 .z9,.v 8 .z9] .n .n)) [K89,k25,K218]
def K88:=mk 88 Tryz.f88 ⟨[.v .z9,.v .z9],[.v .z9]⟩ (cur2 b7r) w1 u1 .n [K79,K89,K138]
def K219:=mk 219 Tryz.f219 ⟨[.ls .y1,.v .z9],[.v .z9]⟩ (cur2 c0z) w1 u1 (sk 2 (.s (.s .n (.l [1,10] [] [.v 5 .z9,.ow 9 2 36 .y1,.v 11 .z9] .n)) .n)) [j3q]
def k18:=mk 142 Tryz.f142 ⟨[.ls .y1],[.v .z9]⟩ (cur1 b6h) w1 u1 .n [K219]
def K90:=mk 90 Tryz.f90 ⟨[.ls .zi,.v .z9,.ls .z9],[.v .z9]⟩ (cur3 a8q) w1 u1 (sk 2 (.s (.s .n (.l [1,2,10,11] [] [.ow 7 3 36 .y1,.v 12 .z9] .n)) .n)) [K94,k18]
def K221:=mk 221 Tryz.f221 ⟨[.v .ya,.v .z9],[.v .z9]⟩ (cur2 b63) w1 u1 .n []
def K97:=mk 97 Tryz.f97 ⟨[.ls .zi,.v .z9,.v .z9],[.ow 36 .y1]⟩ (cur3 b6i) w1 u1 (sk 2 (.s (.s .n (.l [1,2,10,11] [] [.ow 7 3 36 .y1,.v 12 .z9] .n)) .n)) [j3q]
def K143:=mk 143 Tryz.f143 ⟨[.ls .ya,.ls .zi,.v .z9],[.ow 246 .ye]⟩ (cur3 b13) w1 u1 (sk 2 (.s (.s .n (.l [0,1,2,14] [] [.ow 7 3 246 .ye,.ow 13 4 38 .ya,.v 15 .z9] .n)) .n)) [K97,j6o,k13,K221,j8e]
def h2b:=mk 147 Tryz.f147 ⟨[.v .z9],[.v .y1]⟩ (cur1 b5y) w1 u1 .n [K218]
def h2x:=mk 149 Tryz.f149 ⟨[.v .ya,.v .z9],[.v .z9]⟩ (cur2 b6a) w1 u1 .n [K27]
def K226:=mk 226 Tryz.f226 ⟨[.v .z9],[.v .z8]⟩ (cur1 c17) w1 u1 .n []
def k1f:=mk 101 Tryz.f101 ⟨[.v .zx],[.v .z8]⟩ (cur1 a2y) w1 u1 (.s .n (.s (.s .n (.j [] [.bx 1 1 63 .zx,.v 5 .z8] .n .n)) .n)) []
def k1q:=mk 103 Tryz.f103 ⟨[.v .z9],[.v .yn]⟩ (cur1 b3x) w1 u1 .n []
def k26:=mk 104 Tryz.f104 ⟨[.v .z8,.v .yn,.v .yn,.v .yn,.v .zx],[.v .z9,.v .z9]⟩ (cur5 a9o) w2 u2 (sk 6 (.j [] [.bx 9 5 63 .zx,.v 12 .yn,.v 14 .yn,.v 15 .z9] .n (.s .n (.j [] [.bx 9 5 63 .zx,.v 15 .z9,.v 16 .z8] .n (.j [] [.bx 9 5 63 .zx,.v 15 .z9] .n .n))))) [j8l]
def K227:=mk 227 Tryz.f227 ⟨[.ls .zu,.v .z9,.v .z9],[.v .zm,.v .z8]⟩ (cur3 b6m) w2 u2 (sk 2 (.s (.s .n (.l [0,1,2,11,12] [] [.bx 6 3 59 .zm,.v 8 .z9,.v 13 .z9] .n)) .n)) []
def k12:=mk 102 Tryz.f102 ⟨[.v .yn,.v .yn],[.v .yn,.v .yn]⟩ (cur2 b3s) w2 u2 .n []
def K148:=mk 148 Tryz.f148 ⟨[.v .z9,.v .z9,.v .z9,.v .z9,.ls .zu,.v .zx],[.v .z9,.v .z9]⟩ (cur6 b68) w2 u2 .n [K78,k1f,k12,k1q,k26,K124,f3f,K226,K227]
def K91:=mk 91 Tryz.f91 ⟨[.ls .ya,.ls .zi,.v .z9,.v .z9,.ls .zu],[.ow 256 .zk,.v .z9]⟩ (cur5 b4h) w2 u2 (sk 4 (.s (.s .n (.l [3,4,61] [(60,5)] [.ow 12 5 246 .ye,.mp 13 6,.v 62 .z9] (.s .n (.s .n (.s (.s .n (.s .n (.l [3,4,61,62,67,68] [(60,5)] [.ow 12 5 246 .ye,.mp 13 6,.v 69 .z9] (.s .n (.s .n (.s (.s .n (.s .n (.s .n (.s .n (.l [3,4,22,61,62,67,68,69] [(60,5)] [.ow 12 5 246 .ye,.mp 13 6,.v 26 .z9] .n))))) .n)))))) .n))))) (.s .n (.s (.s .n (.l [3,4,103] [] [.ow 12 5 246 .ye,.mp 13 6,.ow 27 7 256 .zk,.ow 102 8 3 .z9,.v 104 .z9] (.s .n (.s .n (.s (.s .n (.s .n (.s (.s .n (.l [3,4,29,30,103,104,113] [(112,5)] [.ow 12 5 246 .ye,.mp 13 6,.ow 27 7 256 .zk,.ow 102 8 3 .z9,.v 114 .z9] .n)) .n))) .n))))) .n)))) [K78,K89,k18,K143,K144,K145,j6o,h2b,K148,h2x]
def h3v:=mk 228 Tryz.f228 ⟨[.v .y8,.v .z9],[.v .zm]⟩ (cur2 b0w) w1 u1 (sk 2 (.s (.s .n (.l [1,9,10] [] [.bx 2 2 70 .y8,.bx 4 3 59 .zm,.v 5 .z9,.v 11 .z9] .n)) .n)) []
def K229:=mk 229 Tryz.f229 ⟨[.v .zm],[.v .z8]⟩ (cur1 b0x) w1 u1 .n [j39]
def K150:=mk 150 Tryz.f150 ⟨[.v .y8,.v .z9,.v .z9,.v .z9],[.v .z9,.v .z9]⟩ (cur4 b2s) w2 u2 .n [k12,j8l,h3v,K229]
def K92:=mk 92 Tryz.f92 ⟨[.ls .zk,.v .y8,.v .z9],[.ow 3 .z9,.v .z9]⟩ (cur3 b14) w2 u2 (sk 2 (.s (.s .n (.l [2,13,14] [] [.bx 4 3 70 .y8,.ow 8 4 3 .z9,.v 15 .z9] .n)) .n)) [K150]
def h2w:=mk 230 Tryz.f230 ⟨[.v .z8,.v .yj,.v .yj],[.v .zm,.v .z9]⟩ (cur3 a70) w2 u2 .n []
def K151:=mk 151 Tryz.f151 ⟨[.v .z9,.v .z9],[.v .zm,.v .z9]⟩ (cur2 b32) w2 u2 .n [k0z,j8f,h2w]
def K93:=mk 93 Tryz.f93 ⟨[.ls .z9],[.v .zm,.v .z9]⟩ (cur1 b6e) w2 u2 (sk 3 (.s (.s .n (.l [0,11,12] [] [.bx 2 1 59 .zm,.v 4 .z9,.v 13 .z9] .n)) .n)) [K151]
def K56:=mk 56 Tryz.f56 ⟨[.v .yb,.ls .ya,.ls .zi,.v .z9,.v .z8],[.v .y9,.v .z9]⟩ (cur5 a8k) w2 u2 (sk 4 (.j [] [.ls 1 .ya,.ls 2 .zi,.v 3 .z9,.v 4 .z8,.bx 5 5 94 .yb,.of 10 11 7 3 .z9,.bm 10 6 133 .y9 [(11,7)],.bx 12 8 55 .y3,.bx 13 9 70 .y8,.of 15 11 11 3 .z9,.bm 15 10 133 .y9 [(11,11)]] .n (.s .n (.s .n (.j [] [.ls 1 .ya,.ls 2 .zi,.v 3 .z9,.bx 5 5 94 .yb,.of 10 11 7 3 .z9,.bm 10 6 133 .y9 [(11,7)],.bx 12 8 55 .y3,.bx 13 9 70 .y8,.of 15 11 11 3 .z9,.bm 15 10 133 .y9 [(11,11)],.v 18 .z9] .n .n))))) [K54,K86,K87,K88,K89,K90,K91,K92,K93]
def K95:=mk 95 Tryz.f95 ⟨[.ls .zi,.v .z9,.v .z9],[.v .z9]⟩ (cur3 c0y) w1 u1 .n [K97,k18]
def K58:=mk 58 Tryz.f58 ⟨[.ls .zi,.v .z9],[.v .y6]⟩ (cur2 b41) w1 u1 (sk 3 (.s (.s .n (.l [0,1] [] [.bx 4 2 139 .y6,.bx 5 3 139 .y6,.v 6 .z9,.v 11 .z9] (.s .n (.s .n (.s (.s .n (.s .n (.s .n (.s .n (.j [] [.ls 0 .zi,.v 1 .z9,.bx 4 2 139 .y6,.bx 5 3 139 .y6,.v 6 .z9,.v 7 .z9,.v 11 .z9] .n .n))))) .n))))) .n)) [K95,K96,K97]
def K59:=mk 59 Tryz.f59 ⟨[.v .y6,.v .z9],[.v .z9,.v .z9]⟩ (cur2 b2k) w2 u2 .n []
def K354:=mk 354 Tryz.f354 ⟨[.v .z9],[.v .z8]⟩ (cur1 b0a) w1 u1 .n []
def j45:=mk 383 Tryz.f383 ⟨[.ls .z9,.cl 354 []],[.v .z9]⟩ (λx=>a29 x.1) w1 u1 (.s .n (.s (.s .n (.l [0,1,7] [] [.v 8 .z9] .n)) .n)) [K354]
def j3t:=mk 353 Tryz.f353 ⟨[.ls .z9,.cl 354 []],[.v .z8]⟩ (λx=>a1n x.1) w1 u1 .n [j45]
def K296:=mk 296 Tryz.f296 ⟨[.ls .z9],[.v .z8]⟩ (cur1 a9p) w1 u1 .n [j3t]
def K234:=mk 234 Tryz.f234 ⟨[.v .y9],[.v .z8]⟩ (cur1 b0s) w1 u1 (sk 2 (.s (.s .n (.l [53] [] [.bx 1 1 133 .y9,.v 54 .z9] .n)) .n)) [j39,K296]
def K154:=mk 154 Tryz.f154 ⟨[.v .y8,.v .y9],[.v .z9]⟩ (cur2 c5y) w1 u1 .n [K122,K234]
def K156:=mk 156 Tryz.f156 ⟨[.v .zn,.rp 3 .z9],[.v .z8]⟩ (cur2 c1o) w1 u1 .n []
def i9i:Sig VV:=⟨[.v .zl,.v .yl],[.v .z8]⟩
def j00(R:Ring_eval_mentions):Fent VV:=⟨i9i,Bool,λx=>R.f_eval_mentions x.1 x.2.1,λb=>((b,()),()),none⟩
def j93:Fent VV:=j00 (d5 FU)
def j7f:Ress VV i9i.rs×Outs VV i9i.ps->Bool:=λp=>p.1.1
def j6l:Ann VV.C:=.n
def i9l:Sig VV:=⟨[.v .zl,.rp 9 .yl],[.v .z8]⟩
def j0v(R:Ring_eval_mentions):Fent VV:=⟨i9l,Bool,λx=>R.f_eval_mentions_1 x.1 x.2.1,λb=>((b,()),()),none⟩
def j74:Ress VV i9l.rs×Outs VV i9l.ps->Bool:=λp=>p.1.1
def j5b:Ann VV.C:=.n
def i5j:Sig VV:=⟨[.ls .zl,.cl 356 [.yl]],[.v .z8]⟩
def i5y(R:Ring_eval_mentions):Fent VV:=⟨i5j,Bool,λx=>R.f_slices_ContainsFunc_of_api_Expr x.1 x.2.1.1,λb=>((b,()),()),none⟩
def i85:Ress VV i5j.rs×Outs VV i5j.ps->Bool:=λp=>p.1.1
def i81:Ann VV.C:=.n
def i5h:Sig VV:=⟨[.ls .zl,.cl 356 [.yl]],[.v .z9]⟩
def i5v(R:Ring_eval_mentions):Fent VV:=⟨i5h,Int,λx=>R.f_slices_IndexFunc_of_api_Expr x.1 x.2.1.1,λb=>((b,()),()),none⟩
def i7u:Ress VV i5h.rs×Outs VV i5h.ps->Int:=λp=>p.1.1
def i8j:Ann VV.C:=(.s .n (.s (.s .n (.l [0,1,7] [] [.v 8 .z9] .n)) .n))
def j6g(R:Ring_eval_mentions):Phi VV:=λf ys=>lkF f ys [(355,i5y R)]
def j7m(R:Ring_eval_mentions)(hr355:SX.Spec Tryz.prog 355 (i5y R)):OKΦ Tryz.prog (j6g R):=okl ⟨knS rfl ⟨hr355,λ_ _=>by kernel_rfl⟩,trivial⟩
def j8s(R:Ring_eval_mentions):∀x,c5v Tryz.prog (j6g R) i9i j7f Tryz.f297 j6l x=b2a R x.1 x.2.1:=λx=>by kernel_rfl
def j6t:c67 Tryz.f297 i9i=true:=by kernel_rfl
def j6s(R:Ring_eval_mentions):Phi VV:=λf ys=>lkF f ys [(297,j00 R)]
def j7r(R:Ring_eval_mentions)(hr297:SX.Spec Tryz.prog 297 (j00 R)):OKΦ Tryz.prog (j6s R):=okl ⟨knS rfl ⟨hr297,λ_ _=>by kernel_rfl⟩,trivial⟩
def k0s(R:Ring_eval_mentions):∀x,c5v Tryz.prog (j6s R) i9l j74 Tryz.f356 j5b x=b93 R x.1 x.2.1:=λx=>by kernel_rfl
def j75:c67 Tryz.f356 i9l=true:=by kernel_rfl
def i88(R:Ring_eval_mentions):Phi VV:=λf ys=>lkF f ys [(384,i5v R)]
def j0g(R:Ring_eval_mentions)(hr384:SX.Spec Tryz.prog 384 (i5v R)):OKΦ Tryz.prog (i88 R):=okl ⟨knS rfl ⟨hr384,λ_ _=>by kernel_rfl⟩,trivial⟩
def j20(R:Ring_eval_mentions):∀x,c5v Tryz.prog (i88 R) i5j i85 Tryz.f355 i81 x=a0o R x.1 x.2.1.1:=λx=>by kernel_rfl
def i7z:c67 Tryz.f355 i5j=true:=by kernel_rfl
def i8m(R:Ring_eval_mentions):Phi VV:=λf ys=>lkF f ys [(356,j0v R)]
def j0l(R:Ring_eval_mentions)(hr356:SX.Spec Tryz.prog 356 (j0v R)):OKΦ Tryz.prog (i8m R):=okl ⟨knS rfl ⟨hr356,λ_ _=>by kernel_rfl⟩,trivial⟩
def j1q(R:Ring_eval_mentions):∀x,c5v Tryz.prog (i8m R) i5h i7u Tryz.f384 i8j x=a16 R x.1 x.2.1.1:=λx=>by kernel_rfl
def i84:c67 Tryz.f384 i5h=true:=by kernel_rfl
def b4u:∀n,SX.Spec Tryz.prog 297 (j00 (d5 n))/\SX.Spec Tryz.prog 356 (j0v (d5 n))/\SX.Spec Tryz.prog 355 (i5y (d5 n))/\SX.Spec Tryz.prog 384 (i5v (d5 n))|0=>⟨(λ_ _ h=>(by cases(show none=some _ from h))),(λ_ _ h=>(by cases(show none=some _ from h))),(λ_ _ h=>(by cases(show none=some _ from h))),(λ_ _ h=>(by cases(show none=some _ from h)))⟩|n+1=>let⟨h297,h356,h355,h384⟩:=b4u n;⟨a2m (fe:=j00 (d5 (n+1))) uok (j7m (d5 n) h355) mixed (fn:=Tryz.f297) (by kernel_rfl) j7f j6l (d8 j6t).1 (d8 j6t).2 (λ_=>rfl) (j8s (d5 n)),a2m (fe:=j0v (d5 (n+1))) uok (j7r (d5 n) h297) mixed (fn:=Tryz.f356) (by kernel_rfl) j74 j5b (d8 j75).1 (d8 j75).2 (λ_=>rfl) (k0s (d5 n)),a2m (fe:=i5y (d5 (n+1))) uok (j0g (d5 n) h384) mixed (fn:=Tryz.f355) (by kernel_rfl) i85 i81 (d8 i7z).1 (d8 i7z).2 (λ_=>rfl) (j20 (d5 n)),a2m (fe:=i5v (d5 (n+1))) uok (j0l (d5 n) h356) mixed (fn:=Tryz.f384) (by kernel_rfl) i7u i8j (d8 i84).1 (d8 i84).2 (λ_=>rfl) (j1q (d5 n))⟩
def K297:Kn Tryz.prog VV:=⟨297,j93,knS rfl ⟨(b4u FU).1,λ_ _=>by kernel_rfl⟩⟩
def K298:=mk 298 Tryz.f298 ⟨[.so 3 .z9],[]⟩ (cur1 a68) (λb=>((),(b,()))) (λp=>p.2.1) (.s .n (.l [] [] [.ow 0 0 3 .z9,.v 2 .z9,.v 3 .z9] .n)) []
def K235:=mk 235 Tryz.f235 ⟨[.v .zl,.ls .zq],[.ow 3 .z9]⟩ (cur2 c4e) w1 u1 (sk 2 (.s (.s .n (.l [1] [] [.bx 2 2 82 .zl,.ow 5 3 3 .z9,.v 6 .z9] (.s .n (.s (.s .n (.s (.s .n (.l [1,6,25] [(24,3)] [.bx 2 2 82 .zl,.ow 5 3 3 .z9,.v 7 .z8,.v 26 .z9] .n)) .n)) .n)))) .n)) [K297,K298]
def k0b:=mk 299 Tryz.f299 ⟨[.v .z9,.v .zm],[.v .y7]⟩ (cur2 t6) w1 u1 .n []
def K357:=mk 357 Tryz.f357 ⟨[.v .y9,.v .yl],[.v .y7,.v .z8]⟩ (cur2 c2b) w2 u2 .n [K234,k20,k0b]
def K300:=mkR 300 Tryz.f300 ⟨[.rp 263 .yf,.v .yl],[.v .y7]⟩ (cur2 a84) w1 u1 (sk 2 (.s (.s .n (.l [] [] [.bx 3 2 9 .yl,.bx 4 3 100 .y7] (.s .n .n))) .n)) [K357,K358]
def j4t:=mkR 291 Tryz.f291 ⟨[.ow 3 .z9,.vl 386 23 .z9],[.ow 3 .z9]⟩ (cur2 u5) w1 u1 (.s (.g [6000]) (.s (.s .n (.l [] [] [.of 2 0 3 3 .z9,.bm 2 2 23 .za [(0,3)]] (.s .n (.g [6000,6004])))) (.s (.g [6000]) .n))) []
def j3r:=mk 223 Tryz.f223 ⟨[.vl 386 23 .z9],[.ow 3 .z9]⟩ (cur1 y5) w1 u1 .n [j4t]
def j4r:=mk 144 Tryz.f144 ⟨[.vl 386 23 .z9],[.ow 3 .z9]⟩ (cur1 o9) w1 u1 .n [j9s,j3r]
def K301:=mk 301 Tryz.f301 ⟨[.ls .z9,.v .z9],[.v .zm,.v .z9]⟩ (cur2 c4b) w2 u2 (sk 4 (.s (.s .n (.l [1,31,32] [] [.bx 4 2 59 .zm,.v 7 .z9,.v 33 .z9] .n)) .n)) [j4r,K151,K296,K359]
def k11:=mk 305 Tryz.f305 ⟨[.v .z8],[.v .y7]⟩ (cur1 b8n) w1 u1 .n []
def K360:=mk 360 Tryz.f360 ⟨[.v .zm],[.v .z9,.v .z9]⟩ (cur1 b4e) w2 u2 .n [j39]
def k1j:=mk 361 Tryz.f361 ⟨[.v .zm],[.v .zm,.v .z9]⟩ (cur1 b4p) w2 u2 .n [j39]
def k17:=mk 387 Tryz.f387 ⟨[.v .yn,.v .yn],[.v .yj]⟩ (cur2 a4g) w1 u1 .n [k12]
def K388:=mk 388 Tryz.f388 ⟨[.v .yj,.v .yj],[.v .z8]⟩ (cur2 a3u) w1 u1 .n []
def K362:=mk 362 Tryz.f362 ⟨[.v .zm,.v .zm],[.v .z9,.v .z9]⟩ (cur2 a8g) w2 u2 (sk 4 (.j [] [.bx 6 2 342 .yj,.bx 7 3 342 .yj] .n .n)) [j39,j8f,k17,K388]
def K304:=mk 304 Tryz.f304 ⟨[.v .z9,.v .zm,.v .zm],[.v .z8,.v .z9]⟩ (cur3 b7z) w2 u2 .n [K362]
def K389:=mk 389 Tryz.f389 ⟨[.v .yj,.v .yj],[.v .yj]⟩ (cur2 a98) w1 u1 .n [K408]
def K390:=mk 390 Tryz.f390 ⟨[.v .yj,.v .yj],[.v .yj]⟩ (cur2 a4w) w1 u1 .n [K409]
def K391:=mk 391 Tryz.f391 ⟨[.v .yn,.v .yn,.v .yn],[.v .yn]⟩ (cur3 c25) w1 u1 .n [j8l]
def K392:=mk 392 Tryz.f392 ⟨[.v .yj,.v .yn],[.v .yj]⟩ (cur2 a8z) w1 u1 .n [j8l]
def K363:=mk 363 Tryz.f363 ⟨[.v .zm,.v .zm],[.v .zm,.v .z9]⟩ (cur2 b4q) w2 u2 (sk 4 (.j [] [.bx 2 2 59 .zm,.bx 3 3 59 .zm,.bx 4 4 59 .zm,.bx 6 5 342 .yj,.v 8 .z8] .n .n)) [j39,k0z,j8f,h2w,k17,K388,K389,K390,K391,K392]
def K364:=mk 364 Tryz.f364 ⟨[.v .zm,.v .zm],[.v .zm,.v .z9]⟩ (cur2 b7d) w2 u2 .n [k1j,K363]
def K393:=mk 393 Tryz.f393 ⟨[.v .z8,.v .yn,.v .yn,.v .yn,.v .yn],[.v .zm,.v .z9]⟩ (cur5 a73) w2 u2 .n [k0z,h2w,k17]
def K365:=mk 365 Tryz.f365 ⟨[.v .zm,.v .zm],[.v .zm,.v .z9]⟩ (cur2 b7j) w2 u2 .n [j39,j8f,K393]
def K366:=mk 366 Tryz.f366 ⟨[.v .zm,.v .zm],[.v .zm,.v .z9]⟩ (cur2 b7o) w2 u2 .n [j39,j8f,K393]
def K306:=mk 306 Tryz.f306 ⟨[.v .z9,.v .zm,.v .zm],[.v .zm,.v .z9]⟩ (cur3 b2w) w2 u2 .n [K362,K363,K364,K365,K366]
def K307:=mk 307 Tryz.f307 ⟨[.v .z9,.v .z9,.v .z9],[.v .z9]⟩ (cur3 b8c) w1 u1 .n []
def i92:Sig VV:=⟨[.rp 263 .yf,.v .zl],[.v .y7,.v .z9]⟩
def i6d(R:Ring_eval_evaluator_expr):Fent VV:=⟨i92,Value×Int,λx=>R.f_eval_evaluator_expr x.1 x.2.1,λb=>((b.1,(b.2,())),()),none⟩
def j9t:Fent VV:=i6d (c4 FU)
def j62:Ress VV i92.rs×Outs VV i92.ps->Value×Int:=λp=>(p.1.1,p.1.2.1)
def j5a:Ann VV.C:=(.s .n (.s (.s .n (.s .n (.s .n (.s .n (.s .n (.s .n (.s .n (.j [] [.rp 0 .yf,.bx 3 2 82 .zl,.bx 4 3 100 .y7,.v 15 .z9,.v 46 .z8] .n (.s .n (.j [] [.rp 0 .yf,.bx 3 2 82 .zl,.bx 4 3 100 .y7,.v 55 .z8] .n .n)))))))))) .n))
def d7d:Sig VV:=⟨[.rp 263 .yf,.v .zl],[.v .y7,.v .z9]⟩
def d6m(R:Ring_eval_evaluator_expr):Fent VV:=⟨d7d,Value×Int,λx=>R.f_eval_evaluator_unary x.1 x.2.1,λb=>((b.1,(b.2,())),()),none⟩
def g0b:Ress VV d7d.rs×Outs VV d7d.ps->Value×Int:=λp=>(p.1.1,p.1.2.1)
def g1b:Ann VV.C:=.n
def d75:Sig VV:=⟨[.rp 263 .yf,.v .zl],[.v .y7,.v .z9]⟩
def d67(R:Ring_eval_evaluator_expr):Fent VV:=⟨d75,Value×Int,λx=>R.f_eval_evaluator_logic x.1 x.2.1,λb=>((b.1,(b.2,())),()),none⟩
def g1p:Ress VV d75.rs×Outs VV d75.ps->Value×Int:=λp=>(p.1.1,p.1.2.1)
def f9m:Ann VV.C:=.n
def j5r(R:Ring_eval_evaluator_expr):Phi VV:=λf ys=>lkF f ys [(236,i6d R),k0b.e,K300.e,K301.e,(302,d6m R),(303,d67 R),K304.e,k11.e,K306.e,K307.e]
def j7i(R:Ring_eval_evaluator_expr)(hr236:SX.Spec Tryz.prog 236 (i6d R))(hr302:SX.Spec Tryz.prog 302 (d6m R))(hr303:SX.Spec Tryz.prog 303 (d67 R)):OKΦ Tryz.prog (j5r R):=okl ⟨knS rfl ⟨hr236,λ_ _=>by kernel_rfl⟩,k0b.ok,K300.ok,K301.ok,knS rfl ⟨hr302,λ_ _=>by kernel_rfl⟩,knS rfl ⟨hr303,λ_ _=>by kernel_rfl⟩,K304.ok,k11.ok,K306.ok,K307.ok,trivial⟩
def k0t(R:Ring_eval_evaluator_expr):∀x,c5v Tryz.prog (j5r R) i92 j62 Tryz.f236 j5a x=a5u R x.1 x.2.1:=λx=>by kernel_rfl
def j5k:c67 Tryz.f236 i92=true:=by kernel_rfl
def g0e(R:Ring_eval_evaluator_expr):Phi VV:=λf ys=>lkF f ys [(236,i6d R),k0b.e,k11.e,K360.e,k1j.e]
def g61(R:Ring_eval_evaluator_expr)(hr236:SX.Spec Tryz.prog 236 (i6d R)):OKΦ Tryz.prog (g0e R):=okl ⟨knS rfl ⟨hr236,λ_ _=>by kernel_rfl⟩,k0b.ok,k11.ok,K360.ok,k1j.ok,trivial⟩
def g9g(R:Ring_eval_evaluator_expr):∀x,c5v Tryz.prog (g0e R) d7d g0b Tryz.f302 g1b x=a5i R x.1 x.2.1:=λx=>by kernel_rfl
def f9v:c67 Tryz.f302 d7d=true:=by kernel_rfl
def g1j(R:Ring_eval_evaluator_expr):Phi VV:=λf ys=>lkF f ys [(236,i6d R)]
def g4x(R:Ring_eval_evaluator_expr)(hr236:SX.Spec Tryz.prog 236 (i6d R)):OKΦ Tryz.prog (g1j R):=okl ⟨knS rfl ⟨hr236,λ_ _=>by kernel_rfl⟩,trivial⟩
def g9j(R:Ring_eval_evaluator_expr):∀x,c5v Tryz.prog (g1j R) d75 g1p Tryz.f303 f9m x=a5d R x.1 x.2.1:=λx=>by kernel_rfl
def g0s:c67 Tryz.f303 d75=true:=by kernel_rfl
def a9r:∀n,SX.Spec Tryz.prog 236 (i6d (c4 n))/\SX.Spec Tryz.prog 302 (d6m (c4 n))/\SX.Spec Tryz.prog 303 (d67 (c4 n))|0=>⟨(λ_ _ h=>(by cases(show none=some _ from h))),(λ_ _ h=>(by cases(show none=some _ from h))),(λ_ _ h=>(by cases(show none=some _ from h)))⟩|n+1=>let⟨h236,h302,h303⟩:=a9r n;⟨a2m (fe:=i6d (c4 (n+1))) uok (j7i (c4 n) h236 h302 h303) mixed (fn:=Tryz.f236) (by kernel_rfl) j62 j5a (d8 j5k).1 (d8 j5k).2 (λ_=>rfl) (k0t (c4 n)),a2m (fe:=d6m (c4 (n+1))) uok (g61 (c4 n) h236) mixed (fn:=Tryz.f302) (by kernel_rfl) g0b g1b (d8 f9v).1 (d8 f9v).2 (λ_=>rfl) (g9g (c4 n)),a2m (fe:=d67 (c4 (n+1))) uok (g4x (c4 n) h236) mixed (fn:=Tryz.f303) (by kernel_rfl) g1p f9m (d8 g0s).1 (d8 g0s).2 (λ_=>rfl) (g9j (c4 n))⟩
def K236:Kn Tryz.prog VV:=⟨236,j9t,knS rfl ⟨(a9r FU).1,λ_ _=>by kernel_rfl⟩⟩
def K157:=mk 157 Tryz.f157 ⟨[.im 263 .yf [(1,5)],.v .zl,.ls .zq,.so 4 .z8,.v .yl,.po 0 1 102 .y4],[.v .z9]⟩ (cur6 a3e) (λb=>((b.1,()),(b.2.1,(b.2.2.1,(b.2.2.2,()))))) (λp=>(p.1.1,p.2.1,p.2.2.1,p.2.2.2.1)) (.s .n (.s (.s .n (.l [2,4,20] [] [.of 0 1 6 102 .y4,.bm 0 0 263 .yf [(1,6)],.ow 3 3 4 .z8,.bx 6 7 82 .zl,.ow 19 8 3 .z9,.v 21 .z9] .n)) .n)) [K235,K236]
def K158:=mk 158 Tryz.f158 ⟨[.rp 263 .yf],[.v .y7]⟩ (cur1 a55) w1 u1 .n []
def j4f:=mk 155 Tryz.f155 ⟨[.ls .zn,.cl 156 [.z9]],[.v .z9]⟩ (λx=>a1y x.1 x.2.1.1) w1 u1 (.s .n (.s (.s .n (.l [0,1,7] [] [.v 8 .z9] .n)) .n)) [K156]
def K98:=mk 98 Tryz.f98 ⟨[.v .y8,.v .z9,.v .y9],[.v .zw,.v .z9]⟩ (cur3 c2a) w2 u2 .n [K154,j4f,K157,K158]
def K99:=mk 99 Tryz.f99 ⟨[.v .zm,.v .zx],[.v .z9,.v .z9]⟩ (cur2 b9q) w2 u2 .n [j39,k1f,k1q,k26]
def K60:=mk 60 Tryz.f60 ⟨[.v .y8,.v .z9,.v .y9],[.v .zw,.v .z9,.v .z9]⟩ (cur3 c1k) w3 u3 .n [K98,K99]
def K61:=mk 61 Tryz.f61 ⟨[.v .zm,.v .z9,.v .z9,.v .zx],[.v .z9,.v .z9]⟩ (cur4 b97) w2 u2 .n [j39,k1f,k12,k1q,k26]
def K32:=mk 32 Tryz.f32 ⟨[.v .yb,.io 50 .zg,.ls .ya],[.v .z9]⟩ (cur3 a8d) (λb=>((b.1,()),(b.2,()))) (λp=>(p.1.1,p.2.1)) (sk 7 (.j [] [.bx 1 1 50 .zg,.ls 2 .ya,.bx 3 3 94 .yb,.bx 8 4 70 .y8,.ls 10 .zi,.bx 11 5 133 .y9] .n (.j [] [.bx 1 1 50 .zg,.ls 2 .ya,.bx 3 3 94 .yb,.bx 8 4 70 .y8,.ls 10 .zi] .n (.j [] [.bx 1 1 50 .zg] .n .n)))) [K54,K55,K56,K57,K58,K59,K60,K61]
def K23:=mk 23 Tryz.f23 ⟨[.v .zp,.ls .ya,.v .z9,.v .z9,.v .z9],[.v .zg]⟩ (cur5 b47) w1 u1 (sk 3 (.j [] [.v 2 .z9,.v 3 .z9,.v 4 .z9,.of 10 11 6 102 .y4,.bm 10 5 50 .zg [(11,6)],.bx 11 7 50 .zg,.v 13 .z9] .n .n)) [K31,K32]
def K11:=mk 11 Tryz.f11 ⟨[.v .zp,.ls .ya,.v .z9,.v .z9],[.ow 50 .zg]⟩ (cur4 c4q) w1 u1 (sk 2 (.s (.s .n (.l [1,2,3,13,14] [] [.bx 4 4 28 .zp,.ow 9 5 50 .zg,.v 15 .z9] .n)) .n)) [K23]
def K12:=mk 12 Tryz.f12 ⟨[],[.v .z8]⟩ (λx=>b2m) w1 u1 .n [K23]
def K24:=mk 24 Tryz.f24 ⟨[.ls .y4,.ls .y4],[.v .z8]⟩ (cur2 a61) w1 u1 (sk 2 (.s (.s .n (.l [0,1] [] [.v 5 .z9] .n)) .n)) []
def K13:=mk 13 Tryz.f13 ⟨[.v .zg,.v .zg],[.v .z8]⟩ (cur2 a59) w1 u1 .n [K24]
def g6y:Sig VV:=⟨[.ls .yg,.ls .z9,.ls .z9,.v .z9,.v .z9],[.v .z8]⟩
def fe_3:Fent VV:=⟨g6y,Bool,λx=>i42 x.1 x.2.1 x.2.2.1 x.2.2.2.1 x.2.2.2.2.1,λb=>((b,()),()),none⟩
def un_3:Ress VV g6y.rs×Outs VV g6y.ps->Bool:=λp=>p.1.1
def an_3:Ann VV.C:=(.s .n (.s .n (.s .n (.s .n (.s .n (.s (.s .n (.l [0,1,2,4,12] [] [.bx 11 5 28 .zp,.ow 13 6 38 .ya,.v 14 .z9] .n)) (.s .n (.s .n (.s .n (.s (.s .n (.l [2,4,12] [] [.bx 11 5 28 .zp,.ow 13 6 38 .ya,.ow 16 7 38 .ya,.ow 17 8 38 .ya,.v 18 .z9] .n)) (.s (.s .n (.l [4,12] [] [.bx 11 5 28 .zp,.ow 13 6 38 .ya,.ow 16 7 38 .ya,.ow 17 8 38 .ya,.v 19 .z9] .n)) (.s .n (.s .n (.s (.s .n (.l [] [] [.ow 20 5 50 .zg,.ow 21 6 50 .zg,.v 22 .z9] .n)) .n))))))))))))))
def ok_3:SX.Spec Tryz.prog 3 fe_3:=a2m (fe:=fe_3) uok (okl (f8d [K4,K5,K6,K7,K8,K9,K10,K11,K12,K13])) mixed (fn:=Tryz.f3) (by kernel_rfl) un_3 an_3 (d8 (s:=g6y) (by kernel_rfl)).1 (d8 (s:=g6y) (by kernel_rfl)).2 (λ_=>rfl) λx=>by kernel_rfl
end
end Go.PL
