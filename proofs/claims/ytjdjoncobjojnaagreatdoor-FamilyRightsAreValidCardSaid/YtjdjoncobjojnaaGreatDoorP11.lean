/- Texts of the proof, joined. -/
import Derived.Test.YtjdjoncobjojnaaGreatDoorP10
import Derived.Shelf.SlIterI.Sorted
import Derived.Shelf.SortM.Plain
import Derived.Shelf.SortM.SortNone
import Derived.Lib.SlKeysI
import Derived.Test.YtjdjoncobjojnaaGreatDoorProg
import Derived.KernelRfl
set_option linter.defProp false
set_option linter.unusedVariables false
set_option linter.unusedSimpArgs false
set_option maxRecDepth 100000
open List
namespace Go.Proofs
open Go.Shelf
def Tryz.keysA_ren:Go.Shelf.Ren:=⟨λ|7=>237|10=>277|n=>n,λ|23=>315|26=>3|3=>3|28=>318|0=>0|27=>317|33=>85|4=>4|n=>n,λ|n=>n⟩
def Tryz.keysA:Go.Proofs.SlLaysZI.n7 Tryz.prog Tryz.keysA_ren:={
 mixed:=by kernel_rfl
 f7:=⟨Tryz.f237.name,by decide,Tryz.func237.trans (congrArg some (by kernel_rfl))⟩
 f10:=⟨Tryz.f277.name,by decide,Tryz.func277.trans (congrArg some (by kernel_rfl))⟩
 t0:=Tryz.underlying0
 a0:=Tryz.isAgg0
 z0:=Tryz.sizeOf0
 v0:=Tryz.zeroValue0
 t4:=Tryz.underlying4
 a4:=Tryz.isAgg4
 z4:=Tryz.sizeOf4
 v4:=Tryz.zeroValue4
 t23:=Tryz.underlying315
 a23:=Tryz.isAgg315
 z23:=Tryz.sizeOf315
 v23:=Tryz.zeroValue315
 t26:=Tryz.underlying3
 a26:=Tryz.isAgg3
 z26:=Tryz.sizeOf3
 v26:=Tryz.zeroValue3
 t27:=Tryz.underlying317
 a27:=Tryz.isAgg317
 z27:=Tryz.sizeOf317
 v27:=Tryz.zeroValue317
 t28:=Tryz.underlying318
 a28:=Tryz.isAgg318
 z28:=Tryz.sizeOf318
 v28:=Tryz.zeroValue318
 t33:=Tryz.underlying85
 a33:=Tryz.isAgg85
 z33:=Tryz.sizeOf85
 v33:=Tryz.zeroValue85}
def Tryz.sortedA_ren:Go.Shelf.Ren:=⟨λ|6=>236|8=>276|9=>243|11=>330|13=>95|12=>281|23=>154|24=>155|14=>334|15=>335|16=>336|17=>337|18=>338|19=>339|20=>340|21=>341|22=>342|25=>387|26=>218|27=>219|28=>388|29=>389|30=>73|31=>422|n=>n,λ|26=>3|28=>318|24=>22|0=>0|3=>3|37=>143|48=>232|50=>115|4=>4|40=>226|39=>225|45=>46|5=>5|9=>9|51=>289|55=>293|57=>357|58=>124|33=>85|n=>n,λ|n=>n⟩
def Tryz.sortedA:Go.Proofs.SlLaysZI.n6 Tryz.prog Tryz.sortedA_ren:={
 mixed:=by kernel_rfl
 f6:=⟨Tryz.f236.name,by decide,Tryz.func236.trans (congrArg some (by kernel_rfl))⟩
 f8:=⟨Tryz.f276.name,by decide,Tryz.func276.trans (congrArg some (by kernel_rfl))⟩
 f11:=⟨Tryz.f330.name,by decide,Tryz.func330.trans (congrArg some (by kernel_rfl))⟩
 t0:=Tryz.underlying0
 a0:=Tryz.isAgg0
 z0:=Tryz.sizeOf0
 v0:=Tryz.zeroValue0
 t24:=Tryz.underlying22
 a24:=Tryz.isAgg22
 z24:=Tryz.sizeOf22
 v24:=Tryz.zeroValue22
 t26:=Tryz.underlying3
 a26:=Tryz.isAgg3
 z26:=Tryz.sizeOf3
 v26:=Tryz.zeroValue3
 t28:=Tryz.underlying318
 a28:=Tryz.isAgg318
 z28:=Tryz.sizeOf318
 v28:=Tryz.zeroValue318
 i26:=by kernel_rfl}
def Tryz.sortA_ren:Go.Shelf.Ren:=⟨λ|5=>243|8=>95|7=>281|19=>154|20=>155|10=>334|11=>335|12=>336|13=>337|14=>338|15=>339|16=>340|17=>341|18=>342|30=>387|31=>218|32=>219|33=>388|34=>389|35=>73|40=>422|n=>n,λ|23=>22|25=>3|3=>3|32=>143|22=>22|0=>0|44=>232|46=>115|4=>4|36=>226|35=>225|41=>46|5=>5|9=>9|53=>289|57=>293|63=>357|64=>124|n=>n,λ|n=>n⟩
def Tryz.sortA:Go.Proofs.SlLaysM.n5 Tryz.prog Tryz.sortA_ren:={
 mixed:=by kernel_rfl
 f5:=⟨Tryz.f243.name,by decide,Tryz.func243.trans (congrArg some (by kernel_rfl))⟩
 f7:=⟨Tryz.f281.name,by decide,Tryz.func281.trans (congrArg some (by kernel_rfl))⟩
 f8:=Tryz.func95.trans (congrArg some (by kernel_rfl))
 f10:=⟨Tryz.f334.name,by decide,Tryz.func334.trans (congrArg some (by kernel_rfl))⟩
 f11:=⟨Tryz.f335.name,by decide,Tryz.func335.trans (congrArg some (by kernel_rfl))⟩
 f12:=⟨Tryz.f336.name,by decide,Tryz.func336.trans (congrArg some (by kernel_rfl))⟩
 f13:=⟨Tryz.f337.name,by decide,Tryz.func337.trans (congrArg some (by kernel_rfl))⟩
 f14:=⟨Tryz.f338.name,by decide,Tryz.func338.trans (congrArg some (by kernel_rfl))⟩
 f15:=⟨Tryz.f339.name,by decide,Tryz.func339.trans (congrArg some (by kernel_rfl))⟩
 f16:=⟨Tryz.f340.name,by decide,Tryz.func340.trans (congrArg some (by kernel_rfl))⟩
 f17:=⟨Tryz.f341.name,by decide,Tryz.func341.trans (congrArg some (by kernel_rfl))⟩
 f18:=⟨Tryz.f342.name,by decide,Tryz.func342.trans (congrArg some (by kernel_rfl))⟩
 f19:=Tryz.func154.trans (congrArg some (by kernel_rfl))
 f20:=Tryz.func155.trans (congrArg some (by kernel_rfl))
 f30:=⟨Tryz.f387.name,by decide,Tryz.func387.trans (congrArg some (by kernel_rfl))⟩
 f31:=Tryz.func218.trans (congrArg some (by kernel_rfl))
 f32:=Tryz.func219.trans (congrArg some (by kernel_rfl))
 f33:=⟨Tryz.f388.name,by decide,Tryz.func388.trans (congrArg some (by kernel_rfl))⟩
 f34:=⟨Tryz.f389.name,by decide,Tryz.func389.trans (congrArg some (by kernel_rfl))⟩
 f35:=⟨Tryz.f73.name,by decide,Tryz.func73.trans (congrArg some (by kernel_rfl))⟩
 f40:=⟨Tryz.f422.name,by decide,Tryz.func422.trans (congrArg some (by kernel_rfl))⟩
 t0:=Tryz.underlying0
 a0:=Tryz.isAgg0
 z0:=Tryz.sizeOf0
 v0:=Tryz.zeroValue0
 t3:=Tryz.underlying3
 a3:=Tryz.isAgg3
 z3:=Tryz.sizeOf3
 v3:=Tryz.zeroValue3
 t4:=Tryz.underlying4
 a4:=Tryz.isAgg4
 z4:=Tryz.sizeOf4
 v4:=Tryz.zeroValue4
 t5:=Tryz.underlying5
 a5:=Tryz.isAgg5
 z5:=Tryz.sizeOf5
 v5:=Tryz.zeroValue5
 t9:=Tryz.underlying9
 a9:=Tryz.isAgg9
 z9:=Tryz.sizeOf9
 v9:=Tryz.zeroValue9
 t22:=Tryz.underlying22
 a22:=Tryz.isAgg22
 z22:=Tryz.sizeOf22
 v22:=Tryz.zeroValue22
 t23:=Tryz.underlying22
 a23:=Tryz.isAgg22
 z23:=Tryz.sizeOf22
 v23:=Tryz.zeroValue22
 t25:=Tryz.underlying3
 a25:=Tryz.isAgg3
 z25:=Tryz.sizeOf3
 v25:=Tryz.zeroValue3
 t32:=Tryz.underlying143
 a32:=Tryz.isAgg143
 z32:=Tryz.sizeOf143
 v32:=Tryz.zeroValue143
 t35:=Tryz.underlying225
 a35:=Tryz.isAgg225
 z35:=Tryz.sizeOf225
 v35:=Tryz.zeroValue225
 t36:=Tryz.underlying226
 a36:=Tryz.isAgg226
 z36:=Tryz.sizeOf226
 v36:=Tryz.zeroValue226
 t41:=Tryz.underlying46
 a41:=Tryz.isAgg46
 z41:=Tryz.sizeOf46
 v41:=Tryz.zeroValue46
 t44:=Tryz.underlying232
 a44:=Tryz.isAgg232
 z44:=Tryz.sizeOf232
 v44:=Tryz.zeroValue232
 t46:=Tryz.underlying115
 a46:=Tryz.isAgg115
 z46:=Tryz.sizeOf115
 v46:=Tryz.zeroValue115
 t53:=Tryz.underlying289
 a53:=Tryz.isAgg289
 z53:=Tryz.sizeOf289
 v53:=Tryz.zeroValue289
 t57:=Tryz.underlying293
 a57:=Tryz.isAgg293
 z57:=Tryz.sizeOf293
 v57:=Tryz.zeroValue293
 t63:=Tryz.underlying357
 a63:=Tryz.isAgg357
 z63:=Tryz.sizeOf357
 v63:=Tryz.zeroValue357
 t64:=Tryz.underlying124
 a64:=Tryz.isAgg124
 z64:=Tryz.sizeOf124
 v64:=Tryz.zeroValue124}
end Go.Proofs
namespace Go.PL
open Go Go.SX Go.Proofs Go.RowKit Go.Maps Go.Sort Go.WideElems Go.WideShapes
def f3i{P:Program}{k:TypeId}(hk:P.underlying k=some (.int .i64)){w:World}{mb:Nat}{l:List (Int×Int)}(hn:(l.map (·.1)).Nodup)(hm:w.heap[mb]?=some (b92 l))(hw:(l.all λq=>c4v q.1)=true)(hl:l.length<=1000000):∃D0:DataW Unit,w.ownsMap P k (λ_=>some (.nil,[])) mb l.length D0/\(intKeys D0).Perm (l.map (·.1))/\Maps.size D0=l.length:=by
 have hlen:(l.zipIdx.map λq=>({key:=.int .i64 q.1.1,val:=.int .i64 q.1.2,born:=q.2}:MapEntry)).length=l.length:=by simp
 have hrd:∀q∈l.zipIdx,WideElems.rd P k (λ_=>some ((.nil:DataW Unit),[])) ({key:=.int .i64 q.1.1,val:=.int .i64 q.1.2,born:=q.2}:MapEntry)=some (.int .i64 q.1.1,.nil):=by
  intro q hq;have hm:q.1∈l:=by obtain⟨j,hj⟩:=mem_iff_getElem?.1 hq;rw[getElem?_zipIdx]at hj;cases hL:l[j]?with|none=>rw[hL]at hj;cases hj|some p=>rw[hL]at hj;obtain rfl:=qH hj;exact qE hL
  have h1:=qX.1 hw q.1 hm;have h2:(Lit.int .i64 q.1.1).wf=true:=by unfold c4v at h1;simp only[qB,decide_eq_true_eq]at h1;simp[Lit.wf,IntKind.min,IntKind.max,IntKind.signed,IntKind.bits];omega
  simp[WideElems.rd,keyOf,hk,mapKey,h2]
 have hborn:(l.zipIdx.map λq=>q.2)=List.range l.length:=by rw[List.range_eq_range'];exact zipIdx_map_snd 0 l
 have hkeys:(l.zipIdx.map λq=>q.1.1)=l.map (·.1):=by
  have:(l.zipIdx.map (·.1)).map (·.1)=l.map (·.1):=by rw[zipIdx_map_fst]
  rw[<-this,List.map_map];rfl
 refine⟨_,⟨_,_,hm,⟨?_,?_,?_⟩,by simp,rfl⟩,?_,?_⟩;.simp[maxLen];omega
 .rw[MapKept.stamped_iff];refine⟨λx hx=>?_,?_,?_⟩;.obtain⟨q,hq,rfl⟩:=List.mem_map.1 hx;have:q.2∈l.zipIdx.map λq=>q.2:=List.mem_map.2 ⟨q,hq,rfl⟩;rw[hborn]at this;exact List.mem_range.1 this
  .show((l.zipIdx.map λq=>({key:=.int .i64 q.1.1,val:=.int .i64 q.1.2,born:=q.2}:MapEntry)).map (·.born)).Nodup;rw[List.map_map];exact(show(l.zipIdx.map λq=>q.2).Nodup by rw[hborn];exact nodup_range)
  .show(l.zipIdx.map λq=>({key:=.int .i64 q.1.1,val:=.int .i64 q.1.2,born:=q.2}:MapEntry)).Pairwise λx y=>x.key≠y.key;rw[pairwise_map];have h1:(l.zipIdx.map λq=>q.1.1).Nodup:=by rw[hkeys];exact hn
   exact(List.pairwise_map.1 h1).imp λh e=>h (by simpa using e)
 .intro x hx;obtain⟨q,hq,rfl⟩:=List.mem_map.1 hx;exact⟨_,hrd q hq⟩
 .show(((((l.zipIdx.map λq=>({key:=.int .i64 q.1.1,val:=.int .i64 q.1.2,born:=q.2}:MapEntry))).map (WideElems.rg P k λ_=>some ((.nil:DataW Unit),[]))).foldr DataW.insert []).map λp=>intOf p.1).Perm _;refine((sorted_perm _).map _).trans ?_;rw[List.map_map,List.map_map,<-hkeys];refine List.Perm.of_eq (List.map_congr_left λq hq=>?_);simp[WideElems.rg,hrd q hq,intOf]
 .show(((l.zipIdx.map λq=>({key:=.int .i64 q.1.1,val:=.int .i64 q.1.2,born:=q.2}:MapEntry)).map (WideElems.rg P k λ_=>some ((.nil:DataW Unit),[]))).foldr DataW.insert []).length=l.length;rw[length_sorted];simp
def g2s{B:Nat}{e:TypeId}{w:World}{v:Go.Value}{n:Nat}{l:List Int}(h:w.ownsRow B e 1 v n (l.map encZ))(hn:l.length=n):PL.Own B e 1 cellsZ w v l:=by
 subst hn;have hf:∀l:List Int,l.flatMap cellsZ=l.map encZ:=λl=>by induction l with|nil=>rfl|cons x l ih=>exact congrArg (encZ x::.) ih
 rcases h.2with⟨h1,h2⟩|⟨g,cap,cur,h1,h2,h3,h4,h5,h6,h7⟩;.exact .inl ⟨h1,List.length_eq_zero_iff.1 h2⟩
 .exact .inr ⟨g,0,cap,cur,h1,h2,h3,h4,h5,by omega,by rw[List.drop_zero,h7,hf]⟩
def g86(m:Nat):AnyZI.SortsIn Tryz.prog Tryz.sortedA_ren Fence.wide m:=⟨λblk off cap ss W hH hblk hsz=>callsIn_wide.2 (AnyM.slices_Sort_int Tryz.sortA blk off cap ss W hH hblk hsz),λp cap W=>callsIn_wide.2 (AnyM.slices_Sort_int_none Tryz.sortA p cap W)⟩
def e6p{P:Program}{f:FuncId}{e:TypeId}(h1:∀(blk off cap:Nat)(zs:List Int)(w:World),Holds (Go.Value.int .i64) w blk off zs.toArray->blk<w.heap.size->zs.length<4611686018427387904->Calls P f #[.slice (some ⟨blk,off,none⟩) zs.length cap] w λe w'=>e=.returned (.tuple #[])/\∃n os,w'=grow (putRow (Go.Value.int .i64) (Sort.ahead w n) blk off (b89 zs).toArray) os)(h0:∀(p:Option Addr)(cap:Nat)(w:World),Calls P f #[.slice p 0 cap] w λe w'=>e=.returned (.tuple #[])/\w'=w){l:List Int}{w:World}{v:Go.Value}(hO:PL.Own 0 e 1 (λx:Int=>[Go.Value.int .i64 x]) w v l)(hl:l.length<4611686018427387904):Calls P f #[v] w λq w'=>q=.returned (.tuple #[])/\Ext (λb=>v.ownBlock=some b) w w'/\PL.Own 0 e 1 (λx:Int=>[Go.Value.int .i64 x]) w' v (b89 l):=by
 have hlen:(b89 l).length=l.length:=(a8p l).length_eq;by_cases hz:l.length=0;.obtain⟨a,cap,hv,_⟩:=hO.shape;obtain rfl:=List.length_eq_zero_iff.1 hz;rw[show v=.slice a 0 cap from hv];rw[show v=.slice a 0 cap from hv]at hO;refine(h0 a cap w).mono ?_;rintro q w'⟨rfl,rfl⟩;exact⟨rfl,Ext.refl _ _,by exact hO⟩
 .have hO2:=hO;rcases hO with⟨_,h⟩|⟨g,o,cap,cur,rfl,h2,h3,h4,h5,h6,h7⟩;.exact absurd (by rw[h];rfl) hz
  .have hlt:g<w.heap.size:=(qN.1 h3).1;refine(h1 g o cap l w (e8y (d6l (n:=1) (λ_=>rfl) hO2)) hlt hl).mono ?_;rintro q w'⟨rfl,n,os,rfl⟩;rw[e5t];refine⟨rfl,e7r rfl,?_⟩;have:=e97 (n:=1) (cells:=λx:Int=>[Go.Value.int .i64 x]) (λ_=>rfl) (q:=n) (os:=os) (d:=(b89 l).toArray) hO2 (by simpa using hlen);simpa using this
def d9r(l r:List Int)(w:World)(v:Go.Value)(hO:PL.Own 0 3 1 cellsZ w v l)(hF:b8s l=some r):Calls Tryz.prog 243 #[v] w λq w'=>q=.returned (.tuple #[])/\Ext (λb=>v.ownBlock=some b) w w'/\PL.Own 0 3 1 cellsZ w' v r:=by
 unfold b8s at hF;split at hF;case isFalse=>cases hF
 rename_i hl;obtain rfl:=qH hF;exact e6p (λblk off cap ss W hH hblk hsz=>by rw[<-e37];exact AnyM.slices_Sort_int Tryz.sortA blk off cap ss W hH hblk hsz) (λp cap W=>AnyM.slices_Sort_int_none Tryz.sortA p cap W) hO (by omega)
def d4b(i mb:Nat)(l:List (Int×Int))(r:List Int)(w:World)(hi:Mb w i 315 [.map (some mb)])(hn:(l.map (·.1)).Nodup)(hm:w.heap[mb]?=some (b92 l))(hr:c8c l=some r):Calls Tryz.prog 236 #[.func (.func 277) #[] #[.pointer (some ⟨i,0,none⟩)]] w λq w'=>∃v,q=.returned v/\Ext noG w w'/\PL.Own w.heap.size 3 1 cellsZ w' v r:=by
 unfold c8c at hr;split at hr;case isFalse=>cases hr
 rename_i hc;obtain rfl:=qH hr;obtain⟨D0,hown,hperm,hsize⟩:=f3i (P:=Tryz.prog) (k:=3) (by kernel_rfl) hn hm hc.1 hc.2;have hcell:w.cell? ⟨i,0,none⟩=some (.map (some mb)):=by have:=hi.ca 0 (.map (some mb)) rfl;simpa[Addr.add]using this
 have hseq:SeqGives Fence.wide 2 Tryz.prog 277 #[.pointer (some ⟨i,0,none⟩)] encZ (λss=>ss.Perm (intKeys D0)) (Maps.size D0) w:=AnyZI.keys_gives (ρ:=Tryz.keysA_ren) {Tryz.keysA with} Fence.wide _ trivial rfl (by omega) i mb _ D0 _ hi.lt hcell hown;have cS:=AnyZI.sorted_in Tryz.sortedA Fence.wide 5 trivial trivial trivial trivial rfl (by omega) (g86 _) (enters_of Tryz.func243 (by kernel_rfl) rfl) 277 #[.pointer (some ⟨i,0,none⟩)] trivial (enters_of Tryz.func277 (by kernel_rfl) rfl) _ _ (by rw[hsize];unfold maxLen;omega) (by rw[hsize];omega) _ hseq;refine(callsIn_wide.1 cS).mono ?_;rintro e w'⟨v,ss,rfl,hS,hrow,_,hb⟩;have hss:ss.mergeSort (λx y=>decide (x<=y))=b89 (l.map (·.1)):=(mergeSort_of_perm_i (hS.trans hperm)).trans (e37 _);rw[hss]at hrow;refine⟨v,rfl,⟨hb.os,hb.tape,hb.output,hb.size,λk hk _=>hb.block k hk⟩,g2s hrow ?_⟩;rw[<-hss];exact length_mergeSort _
noncomputable section
def m4e:Kn Tryz.prog VV:=⟨243,m3e,show d6v Tryz.prog 243 _ from g65 (U:=VV) (c:=.z7) (cells:=cellsZ) (a14 (fn:=Tryz.f243) (by kernel_rfl) (by kernel_rfl) (by kernel_rfl)) (λG w cs x h=>by obtain⟨_,css,rfl,hh⟩:=a91.1 h;match css,hh with|[a],⟨h1,_⟩=>rw[show a=_ from h1];rfl) (λG w x=>a91.2 ⟨rfl,[[.int .i64 x]],rfl,⟨rfl,trivial⟩⟩) d9r⟩
def K236:Kn Tryz.prog VV:=⟨236,j9t,show d6v Tryz.prog 236 _ from g3x (U:=VV) (c:=.z7) (a14 (fn:=Tryz.f236) (by kernel_rfl) (by kernel_rfl) (by kernel_rfl)) rfl (λ_=>rfl) d4b⟩
def K164:Kn Tryz.prog VV:=⟨164,g21,knS rfl ⟨g7p,λ_ _=>by kernel_rfl⟩⟩
def l0e:=mk 115 Tryz.f115 ⟨[.v .z7],[.v .z6]⟩ (cur1 m7) w1 u1 .n []
def K275:=mk 275 Tryz.f275 ⟨[.v .z7,.v .z7],[.v .z6]⟩ (cur2 a7u) w1 u1 .n []
def K234:=mk 234 Tryz.f234 ⟨[.v .zx],[.v .z6]⟩ (cur1 a5x) w1 u1 (sk 2 (.s (.s .n (.l [28,29] [] [.bx 1 1 65 .zx,.v 30 .z7] .n)) .n)) [l0e,K275]
def k0w:=mk 165 Tryz.f165 ⟨[.ls .zx],[.v .z7]⟩ (cur1 a9n) w1 u1 (sk 3 (.s (.s .n (.l [0,18,19] [] [.v 20 .z7] .n)) .n)) [K234]
def h2a:=mk 113 Tryz.f113 ⟨[.ls .y8,.ls .zx],[.v .ya,.v .z6]⟩ (cur2 a9c) w2 u2 .n [K58,k1x,K164,k0w]
def l0w:=mkR 122 Tryz.f122 ⟨[.ls .zx,.v .z7],[.v .zx,.v .z6]⟩ (cur2 b2q) w2 u2 (sk 2 (.s (.s .n (.l [] [] [.bx 3 2 3 .z7,.bx 4 3 65 .zx,.bx 5 4 4 .z6] (.s .n .n))) .n)) [l0e,K192,K193]
def m5a:=mk 166 Tryz.f166 ⟨[.v .y0,.v .z7],[.v .z6]⟩ (cur2 a4l) w1 u1 .n []
def K167:=mk 167 Tryz.f167 ⟨[.v .ya,.v .z7,.v .z7],[.v .z7,.v .z6]⟩ (cur3 a4c) w2 u2 (.s .n (.s (.s .n (.l [1,2,11,12] [] [.v 13 .z7] .n)) .n)) [m5a]
def K194:=mk 194 Tryz.f194 ⟨[.ls .z7,.v .z7],[.v .z7]⟩ (cur2 a4p) w1 u1 (.s .n (.s (.s .n (.l [0,1,7] [] [.v 8 .z7] .n)) .n)) []
def m49:=mk 123 Tryz.f123 ⟨[.ls .z7,.v .z7],[.v .z6]⟩ (cur2 q9) w1 u1 .n [K194]
def l0r:=mk 235 Tryz.f235 ⟨[.v .ya,.v .z7,.ls .z7],[.ow 37 .y8]⟩ (cur3 a2j) w1 u1 (sk 2 (.s (.s .n (.l [1,2,11,12] [] [.ow 7 3 37 .y8,.v 13 .z7] .n)) .n)) [m49,m5a]
def k1y:=mk 168 Tryz.f168 ⟨[.v .ya,.v .z7],[.v .z7,.v .z6]⟩ (cur2 a5v) w2 u2 (sk 2 (.s (.s .n (.l [15] [] [.bx 6 2 37 .y8,.v 7 .z6,.ow 14 3 37 .y8,.v 16 .z7] .n)) .n)) [l0r]
def K279:=mk 279 Tryz.f279 ⟨[.v .y0,.rp 3 .z7],[.v .z6]⟩ (cur2 b5c) w1 u1 .n []
def l9v:=mk 331 Tryz.f331 ⟨[.ls .y0,.cl 279 [.z7]],[.v .z7]⟩ (λx=>y4 x.1 x.2.1.1) w1 u1 (.s .n (.s (.s .n (.l [0,1,7] [] [.v 8 .z7] .n)) .n)) [K279]
def l9r:=mk 278 Tryz.f278 ⟨[.ls .y0,.cl 279 [.z7]],[.v .z6]⟩ (λx=>s8 x.1 x.2.1.1) w1 u1 .n [l9v]
def m50:=mk 241 Tryz.f241 ⟨[.ls .y0,.v .z7],[.v .z6]⟩ (cur2 a8r) w1 u1 .n [l9r]
def K171:=mk 171 Tryz.f171 ⟨[.ls .y8,.v .z7],[.v .z7,.v .z6]⟩ (cur2 a8j) w2 u2 (.s .n (.s (.s (.g [3]) .n) (.s .n (.s (.s .n (.l [1,22,23] [] [.bx 6 2 37 .y8,.v 7 .z6,.v 24 .z7] .n)) .n)))) [m3s,l0e,k1x,m50]
def m4n:=mk 244 Tryz.f244 ⟨[.ow 3 .z7],[.ow 3 .z7]⟩ (cur1 a0n) w1 u1 (sk 2 (.s (.s .n (.l [] [] [.ow 0 1 3 .z7,.v 3 .z7] (.s .n (.s (.s .n (.s (.s (.g [1002]) (.s (.s .n (.l [] [] [.ow 0 1 3 .z7,.v 3 .z7,.v 5 .z7,.vw 4 1 .z7] .n)) (.s (.g [1002]) (.s (.g [2002]) .n)))) .n)) .n)))) .n)) []
def K238:=mk 238 Tryz.f238 ⟨[.ls .y8],[.ow 3 .z7]⟩ (cur1 b12) w1 u1 (sk 2 (.s (.s .n (.l [6,7] [] [.ow 3 1 3 .z7,.v 8 .z7] .n)) .n)) [m4e,m4n]
def K169:=mk 169 Tryz.f169 ⟨[.v .ya,.v .z7,.v .z7],[.v .z7,.v .z6]⟩ (cur3 a3v) w2 u2 (sk 2 (.s (.s .n (.l [1,2,26] [] [.bx 3 3 176 .ya,.mp 8 4,.v 9 .z7,.ow 25 5 37 .y8,.v 27 .z7] .n)) (.s .n (.s .n (.s .n (.s .n (.s .n (.s .n (.s .n (.s .n (.s .n (.s (.s .n (.l [118] [] [.mp 8 3,.v 18 .z7,.ow 117 4 3 .z7,.v 119 .z7] .n)) .n)))))))))))) [m49,K171,l0r,K236,l0g,K238]
def h3p:=mk 240 Tryz.f240 ⟨[.v .y8,.v .y8],[.v .z7]⟩ (cur2 a6j) w1 u1 .n [K30]
def m00:=mk 239 Tryz.f239 ⟨[.ls .y8,.cl 240 []],[.v .y8]⟩ (λx=>m5 x.1) w1 u1 (.s .n (.j [] [.ls 0 .y8,.cl 1 240 [],.bx 4 2 37 .y8] .n (.s .n (.s (.s .n (.l [0,1] [] [.bx 4 2 37 .y8,.bx 5 3 37 .y8,.v 6 .z7] .n)) .n)))) [h3p]
def K170:=mk 170 Tryz.f170 ⟨[.v .ya,.v .z7],[.v .z7,.v .z6]⟩ (cur2 a4b) w2 u2 .n [l0r,m00]
def h4g:=mk 114 Tryz.f114 ⟨[.v .ya,.v .z7],[.v .z7,.v .z7]⟩ (cur2 a7m) w2 u2 .n [l0w,m5a,K167,k1y,K169,K170,K171]
def K62:=mk 62 Tryz.f62 ⟨[.ls .y8,.ls .zx,.v .z7],[.v .z7,.v .z7]⟩ (cur3 l4h) w2 u2 .n [h2a,h4g]
def K64:=mk 64 Tryz.f64 ⟨[.v .y1,.rp 3 .z7],[.v .z6]⟩ (cur2 l4o) w1 u1 .n []
def K65:=mk 65 Tryz.f65 ⟨[.v .z7],[.v .z7]⟩ (cur1 l4m) w1 u1 (.s .n (.s (.s .n (.j [] [.v 3 .z7,.v 4 .z6] .n .n)) .n)) []
def l6l:Sig VV:=⟨[.v .zi],[.v .zi]⟩
def l6a(R:Ring_statute_cloneExpr):Fent VV:=⟨l6l,Expr,λx=>R.f_statute_cloneExpr x.1,λb=>((b,()),()),none⟩
def m4c:Fent VV:=l6a (s4 FU)
def m0i:Ress VV l6l.rs×Outs VV l6l.ps->Expr:=λp=>p.1.1
def m0q:Ann VV.C:=(.s .n (.s .n (.s (.g [3001]) (.s (.s .n (.l [9,10] [] [.of 1 4 2 210 .zi,.bm 1 1 210 .zi [(4,2)],.of 2 4 4 210 .zi,.bm 2 3 210 .zi [(4,4)],.v 11 .z7] (.s .n (.s .n (.s (.s .n (.g [3007])) .n))))) .n))))
def m1f(R:Ring_statute_cloneExpr):Phi VV:=λf ys=>lkF f ys [(178,l6a R)]
def m25(R:Ring_statute_cloneExpr)(hr178:SX.Spec Tryz.prog 178 (l6a R)):OKΦ Tryz.prog (m1f R):=okl ⟨knS rfl ⟨hr178,λ_ _=>by kernel_rfl⟩,trivial⟩
def m37(R:Ring_statute_cloneExpr):∀x,c5v Tryz.prog (m1f R) l6l m0i Tryz.f178 m0q x=a7s R x.1:=λx=>by kernel_rfl
def m03:c67 Tryz.f178 l6l=true:=by kernel_rfl
def b0u:∀n,SX.Spec Tryz.prog 178 (l6a (s4 n))|0=>(λ_ _ h=>(by cases(show none=some _ from h)))|n+1=>let h178:=b0u n;a2m (fe:=l6a (s4 (n+1))) uok (m25 (s4 n) h178) mixed (fn:=Tryz.f178) (by kernel_rfl) m0i m0q (d8 m03).1 (d8 m03).2 (λ_=>rfl) (m37 (s4 n))
def K178:Kn Tryz.prog VV:=⟨178,m4c,knS rfl ⟨(b0u FU),λ_ _=>by kernel_rfl⟩⟩
def K117:=mk 117 Tryz.f117 ⟨[.v .y6],[.v .y6]⟩ (cur1 a6r) w1 u1 (.s .n (.s (.g [3007,3009]) (.s (.g [3010,3012,3014]) (.s (.s .n (.l [28] [] [.of 1 2 2 205 .zg,.of 1 3 3 207 .zm,.of 1 4 4 212 .zo,.of 1 5 5 215 .zl,.of 1 6 6 217 .zt,.bm 1 1 103 .y6 [(2,2),(3,3),(4,4),(5,5),(6,6)],.of 2 2 8 205 .zg,.of 2 3 9 207 .zm,.of 2 4 10 212 .zo,.of 2 5 11 215 .zl,.of 2 6 12 217 .zt,.bm 2 7 103 .y6 [(2,8),(3,9),(4,10),(5,11),(6,12)],.v 29 .z7] .n)) (.s (.s .n (.l [47] [] [.of 1 2 2 205 .zg,.of 1 3 3 207 .zm,.of 1 4 4 212 .zo,.of 1 5 5 215 .zl,.of 1 6 6 217 .zt,.bm 1 1 103 .y6 [(2,2),(3,3),(4,4),(5,5),(6,6)],.of 2 2 8 205 .zg,.of 2 3 9 207 .zm,.of 2 4 10 212 .zo,.of 2 5 11 215 .zl,.of 2 6 12 217 .zt,.bm 2 7 103 .y6 [(2,8),(3,9),(4,10),(5,11),(6,12)],.v 48 .z7] .n)) (.s (.s .n (.l [78] [] [.of 1 2 2 205 .zg,.of 1 3 3 207 .zm,.of 1 4 4 212 .zo,.of 1 5 5 215 .zl,.of 1 6 6 217 .zt,.bm 1 1 103 .y6 [(2,2),(3,3),(4,4),(5,5),(6,6)],.of 2 2 8 205 .zg,.of 2 3 9 207 .zm,.of 2 4 10 212 .zo,.of 2 5 11 215 .zl,.of 2 6 12 217 .zt,.bm 2 7 103 .y6 [(2,8),(3,9),(4,10),(5,11),(6,12)],.v 79 .z7] .n)) .n)))))) [K173,K174,K175,K176,l0v,K178]
def K66:=mkR 66 Tryz.f66 ⟨[.v .y2,.v .z7],[.v .y6,.v .z6]⟩ (cur2 b1v) w2 u2 (sk 2 (.s (.s .n (.l [] [] [.bx 3 2 3 .z7,.bx 4 3 103 .y6,.bx 5 4 4 .z6] (.s .n .n))) .n)) [l0e,K116,K117]
def K68:=mk 68 Tryz.f68 ⟨[.ls .zx,.v .z7,.v .z7],[.v .z6]⟩ (cur3 l4i) w1 u1 .n [l0w,m49]
def K413:=mk 413 Tryz.f413 ⟨[.v .yn],[.v .z6]⟩ (cur1 b6l) w1 u1 .n []
def K446:=mk 446 Tryz.f446 ⟨[.v .yn],[.v .z6]⟩ (cur1 b74) w1 u1 .n []
def K414:=mk 414 Tryz.f414 ⟨[.v .yn],[.v .z6]⟩ (cur1 c1b) w1 u1 .n [K413,K446]
def K379:=mk 379 Tryz.f379 ⟨[.v .yk],[.v .z6]⟩ (cur1 b7f) w1 u1 (sk 2 (.s (.s .n (.l [0] [] [.v 3 .z7] .n)) .n)) [K413,K414]
def h2j:=mk 380 Tryz.f380 ⟨[.v .yk],[.v .z6]⟩ (cur1 b49) w1 u1 .n []
def m56:=mk 332 Tryz.f332 ⟨[.v .yk],[.v .z6]⟩ (cur1 b0e) w1 u1 .n [K379,h2j]
def K382:=mk 382 Tryz.f382 ⟨[],[.ow 489 .yj]⟩ (λx=>c0l) w1 u1 .n []
def K416:=mk 416 Tryz.f416 ⟨[.v .yj,.rp 3 .z7],[.v .z6]⟩ (cur2 b3q) w1 u1 .n []
def l97:=mk 415 Tryz.f415 ⟨[.ls .yj,.cl 416 [.z7]],[.v .z7]⟩ (λx=>a0b x.1 x.2.1.1) w1 u1 (.s .n (.s (.s .n (.l [0,1,7] [] [.v 8 .z7] .n)) .n)) [K416]
def K381:=mk 381 Tryz.f381 ⟨[.ls .yj,.v .z7],[.v .yk]⟩ (cur2 a4u) w1 u1 .n [l97]
def K383:=mk 383 Tryz.f383 ⟨[],[.ow 489 .yj]⟩ (λx=>c1i) w1 u1 .n []
def K464:=mk 464 Tryz.f464 ⟨[.v .yk,.v .yk],[.v .yk,.v .yk,.v .z6]⟩ (cur2 b72) w3 u3 .n [K320]
def K458:=mk 458 Tryz.f458 ⟨[.v .yk,.v .yk],[.v .yk,.v .yk,.v .z6]⟩ (cur2 b9e) w3 u3 .n [K464]
def K459:=mk 459 Tryz.f459 ⟨[.v .yk],[.v .z7,.v .z6]⟩ (cur1 b2i) w2 u2 (.s .n (.s (.s .n (.l [0] [] [.v 2 .z7,.v 4 .z7] .n)) .n)) [K446]
def K448:=mk 448 Tryz.f448 ⟨[.v .yk],[.v .zk,.v .z7,.v .z6]⟩ (cur1 b69) w3 u3 (sk 2 (.j [] [.v 0 .yk,.bx 2 1 51 .zk,.v 3 .z7] .n (.s .n (.s .n (.s .n (.s .n (.s .n (.s .n (.j [] [.bx 2 1 51 .zk,.v 3 .z7,.v 9 .z7,.v 11 .z7] (.s .n (.l [3,11] [] [.bx 2 1 51 .zk,.v 9 .z7,.it 100 2] .n)) (.s .n (.s (.s .n (.l [3,113] [] [.bx 2 1 51 .zk,.v 114 .z7] (.s .n (.s .n (.s (.s .n (.l [3,14,113,114] [] [.bx 2 1 51 .zk] .n)) .n))))) .n))))))))))) [K458,K459]
def K417:=mk 417 Tryz.f417 ⟨[.v .zk,.v .z7],[.v .yk,.v .z6]⟩ (cur2 a4y) w2 u2 (sk 4 (.s (.s .n (.l [1] [] [.bx 2 2 51 .zk,.v 6 .yk,.v 7 .z7,.v 8 .z7] (.s .n (.s (.j [] [.v 1 .z7,.bx 2 2 51 .zk,.v 6 .yk,.v 7 .z7,.v 8 .z7] .n .n) .n)))) (.j [] [.v 1 .z7,.bx 2 2 51 .zk,.v 6 .yk] .n .n))) [K447,K448]
def K418:=mk 418 Tryz.f418 ⟨[.v .z7],[.v .z6]⟩ (cur1 b59) w1 u1 .n []
def K384:=mk 384 Tryz.f384 ⟨[.v .zm],[.v .z6]⟩ (cur1 b07) w1 u1 .n [K417,K418]
def l6j:Sig VV:=⟨[.v .zi],[.v .z7]⟩
def l6k(R:Ring_syntax_Depth):Fent VV:=⟨l6j,Int,λx=>R.f_syntax_Depth x.1,λb=>((b,()),()),none⟩
def m47:Fent VV:=l6k (a0r FU)
def m0j:Ress VV l6j.rs×Outs VV l6j.ps->Int:=λp=>p.1.1
def m12:Ann VV.C:=(.s .n (.s .n (.s (.s .n (.l [7,8] [] [.v 3 .z7,.v 9 .z7] .n)) .n)))
def m0m(R:Ring_syntax_Depth):Phi VV:=λf ys=>lkF f ys [(419,l6k R)]
def m2d(R:Ring_syntax_Depth)(hr419:SX.Spec Tryz.prog 419 (l6k R)):OKΦ Tryz.prog (m0m R):=okl ⟨knS rfl ⟨hr419,λ_ _=>by kernel_rfl⟩,trivial⟩
def m3o(R:Ring_syntax_Depth):∀x,c5v Tryz.prog (m0m R) l6j m0j Tryz.f419 m12 x=b86 R x.1:=λx=>by kernel_rfl
def m15:c67 Tryz.f419 l6j=true:=by kernel_rfl
def b5h:∀n,SX.Spec Tryz.prog 419 (l6k (a0r n))|0=>(λ_ _ h=>(by cases(show none=some _ from h)))|n+1=>let h419:=b5h n;a2m (fe:=l6k (a0r (n+1))) uok (m2d (a0r n) h419) mixed (fn:=Tryz.f419) (by kernel_rfl) m0j m12 (d8 m15).1 (d8 m15).2 (λ_=>rfl) (m3o (a0r n))
def K419:Kn Tryz.prog VV:=⟨419,m47,knS rfl ⟨(b5h FU),λ_ _=>by kernel_rfl⟩⟩
def l6u:Sig VV:=⟨[.v .zi],[.v .z7]⟩
def l6t(R:Ring_syntax_Size):Fent VV:=⟨l6u,Int,λx=>R.f_syntax_Size x.1,λb=>((b,()),()),none⟩
def k80:Fent VV:=l6t (a1j FU)
def m0z:Ress VV l6u.rs×Outs VV l6u.ps->Int:=λp=>p.1.1
def m1m:Ann VV.C:=(.s .n (.s .n (.s (.s .n (.l [7,8] [] [.v 3 .z7,.v 9 .z7] .n)) .n)))
def m0t(R:Ring_syntax_Size):Phi VV:=λf ys=>lkF f ys [(420,l6t R)]
def m20(R:Ring_syntax_Size)(hr420:SX.Spec Tryz.prog 420 (l6t R)):OKΦ Tryz.prog (m0t R):=okl ⟨knS rfl ⟨hr420,λ_ _=>by kernel_rfl⟩,trivial⟩
def m35(R:Ring_syntax_Size):∀x,c5v Tryz.prog (m0t R) l6u m0z Tryz.f420 m1m x=b9x R x.1:=λx=>by kernel_rfl
def m07:c67 Tryz.f420 l6u=true:=by kernel_rfl
def b6s:∀n,SX.Spec Tryz.prog 420 (l6t (a1j n))|0=>(λ_ _ h=>(by cases(show none=some _ from h)))|n+1=>let h420:=b6s n;a2m (fe:=l6t (a1j (n+1))) uok (m20 (a1j n) h420) mixed (fn:=Tryz.f420) (by kernel_rfl) m0z m1m (d8 m07).1 (d8 m07).2 (λ_=>rfl) (m35 (a1j n))
def K420:Kn Tryz.prog VV:=⟨420,k80,knS rfl ⟨(b6s FU),λ_ _=>by kernel_rfl⟩⟩
def K460:=mk 460 Tryz.f460 ⟨[.v .z7],[.v .z7]⟩ (cur1 b84) w1 u1 .n []
def K449:=mk 449 Tryz.f449 ⟨[.v .zi],[.v .z6]⟩ (cur1 c05) w1 u1 .n [m56,K417,K460]
def l6b:Sig VV:=⟨[.v .zi],[.v .z6]⟩
def l6o(R:Ring_syntax_form):Fent VV:=⟨l6b,Bool,λx=>R.f_syntax_form x.1,λb=>((b,()),()),none⟩
def m3j:Fent VV:=l6o (e6 FU)
def m1s:Ress VV l6b.rs×Outs VV l6b.ps->Bool:=λp=>p.1.1
def m1i:Ann VV.C:=.n
def l6x:Sig VV:=⟨[.v .zi],[.v .z6]⟩
def l7l(R:Ring_syntax_form):Fent VV:=⟨l6x,Bool,λx=>R.f_syntax_form_1 x.1,λb=>((b,()),()),none⟩
def m02:Ress VV l6x.rs×Outs VV l6x.ps->Bool:=λp=>p.1.1
def m1n:Ann VV.C:=.n
def l4t:Sig VV:=⟨[.ls .zi,.cl 450 []],[.v .z6]⟩
def l54(R:Ring_syntax_form):Fent VV:=⟨l4t,Bool,λx=>R.f_slices_ContainsFunc_of_api_Expr x.1,λb=>((b,()),()),none⟩
def l63:Ress VV l4t.rs×Outs VV l4t.ps->Bool:=λp=>p.1.1
def l5v:Ann VV.C:=.n
def l4u:Sig VV:=⟨[.ls .zi,.cl 450 []],[.v .z7]⟩
def l50(R:Ring_syntax_form):Fent VV:=⟨l4u,Int,λx=>R.f_slices_IndexFunc_of_api_Expr x.1,λb=>((b,()),()),none⟩
def l5z:Ress VV l4u.rs×Outs VV l4u.ps->Int:=λp=>p.1.1
def l5n:Ann VV.C:=(.s .n (.s (.s .n (.l [0,1,7] [] [.v 8 .z7] .n)) .n))
def m1t(R:Ring_syntax_form):Phi VV:=λf ys=>lkF f ys [(357,l54 R),K449.e]
def m2f(R:Ring_syntax_form)(hr357:SX.Spec Tryz.prog 357 (l54 R)):OKΦ Tryz.prog (m1t R):=okl ⟨knS rfl ⟨hr357,λ_ _=>by kernel_rfl⟩,K449.ok,trivial⟩
def m2v(R:Ring_syntax_form):∀x,c5v Tryz.prog (m1t R) l6b m1s Tryz.f421 m1i x=b60 R x.1:=λx=>by kernel_rfl
def m0k:c67 Tryz.f421 l6b=true:=by kernel_rfl
def m08(R:Ring_syntax_form):Phi VV:=λf ys=>lkF f ys [(421,l6o R)]
def m23(R:Ring_syntax_form)(hr421:SX.Spec Tryz.prog 421 (l6o R)):OKΦ Tryz.prog (m08 R):=okl ⟨knS rfl ⟨hr421,λ_ _=>by kernel_rfl⟩,trivial⟩
def m2w(R:Ring_syntax_form):∀x,c5v Tryz.prog (m08 R) l6x m02 Tryz.f450 m1n x=c0q R x.1:=λx=>by kernel_rfl
def m0e:c67 Tryz.f450 l6x=true:=by kernel_rfl
def l62(R:Ring_syntax_form):Phi VV:=λf ys=>lkF f ys [(396,l50 R)]
def l7d(R:Ring_syntax_form)(hr396:SX.Spec Tryz.prog 396 (l50 R)):OKΦ Tryz.prog (l62 R):=okl ⟨knS rfl ⟨hr396,λ_ _=>by kernel_rfl⟩,trivial⟩
def l7y(R:Ring_syntax_form):∀x,c5v Tryz.prog (l62 R) l4t l63 Tryz.f357 l5v x=a0y R x.1:=λx=>by kernel_rfl
def l5r:c67 Tryz.f357 l4t=true:=by kernel_rfl
def l5y(R:Ring_syntax_form):Phi VV:=λf ys=>lkF f ys [(450,l7l R)]
def l72(R:Ring_syntax_form)(hr450:SX.Spec Tryz.prog 450 (l7l R)):OKΦ Tryz.prog (l5y R):=okl ⟨knS rfl ⟨hr450,λ_ _=>by kernel_rfl⟩,trivial⟩
def l80(R:Ring_syntax_form):∀x,c5v Tryz.prog (l5y R) l4u l5z Tryz.f396 l5n x=a1m R x.1:=λx=>by kernel_rfl
def l5q:c67 Tryz.f396 l4u=true:=by kernel_rfl
def b6p:∀n,SX.Spec Tryz.prog 421 (l6o (e6 n))/\SX.Spec Tryz.prog 450 (l7l (e6 n))/\SX.Spec Tryz.prog 357 (l54 (e6 n))/\SX.Spec Tryz.prog 396 (l50 (e6 n))|0=>⟨(λ_ _ h=>(by cases(show none=some _ from h))),(λ_ _ h=>(by cases(show none=some _ from h))),(λ_ _ h=>(by cases(show none=some _ from h))),(λ_ _ h=>(by cases(show none=some _ from h)))⟩|n+1=>let⟨h421,h450,h357,h396⟩:=b6p n;⟨a2m (fe:=l6o (e6 (n+1))) uok (m2f (e6 n) h357) mixed (fn:=Tryz.f421) (by kernel_rfl) m1s m1i (d8 m0k).1 (d8 m0k).2 (λ_=>rfl) (m2v (e6 n)),a2m (fe:=l7l (e6 (n+1))) uok (m23 (e6 n) h421) mixed (fn:=Tryz.f450) (by kernel_rfl) m02 m1n (d8 m0e).1 (d8 m0e).2 (λ_=>rfl) (m2w (e6 n)),a2m (fe:=l54 (e6 (n+1))) uok (l7d (e6 n) h396) mixed (fn:=Tryz.f357) (by kernel_rfl) l63 l5v (d8 l5r).1 (d8 l5r).2 (λ_=>rfl) (l7y (e6 n)),a2m (fe:=l50 (e6 (n+1))) uok (l72 (e6 n) h450) mixed (fn:=Tryz.f396) (by kernel_rfl) l5z l5n (d8 l5q).1 (d8 l5q).2 (λ_=>rfl) (l80 (e6 n))⟩
def K421:Kn Tryz.prog VV:=⟨421,m3j,knS rfl ⟨(b6p FU).1,λ_ _=>by kernel_rfl⟩⟩
def m59:=mk 385 Tryz.f385 ⟨[.v .zi],[.v .z6]⟩ (cur1 a1k) w1 u1 .n [K419,K420,K421]
def K386:=mk 386 Tryz.f386 ⟨[],[.ow 489 .yj]⟩ (λx=>b2d) w1 u1 .n []
def K333:=mk 333 Tryz.f333 ⟨[.v .y6],[.v .z6]⟩ (cur1 a7q) w1 u1 (.s .n (.j [] [.bx 1 1 103 .y6] (.s (.g [4]) .n) (.s .n (.j [] [.bx 1 1 103 .y6] (.s .n (.l [66,67] [] [.bx 1 1 103 .y6,.v 68 .z7] .n)) (.j [] [.bx 1 1 103 .y6] (.s .n (.l [89,90] [] [.bx 1 1 103 .y6,.v 91 .z7] .n)) (.j [] [.bx 1 1 103 .y6] (.s .n (.l [100,101] [] [.bx 1 1 103 .y6,.v 102 .z7] .n)) (.j [] [.bx 1 1 103 .y6] (.s .n (.l [118,119] [] [.bx 1 1 103 .y6,.v 120 .z7] .n)) (.s (.s .n (.l [143,144] [] [.v 145 .z7] .n)) .n)))))))) [l0e,m56,K381,K382,K383,K384,m59,K386]
def K280:=mk 280 Tryz.f280 ⟨[.v .y2],[.v .z6]⟩ (cur1 b7h) w1 u1 (sk 2 (.s (.s .n (.l [32,33] [] [.v 34 .z7] .n)) .n)) [m56,K333]
def m4w:=mk 351 Tryz.f351 ⟨[.v .yk],[.v .z7,.v .z6]⟩ (cur1 b4n) w2 u2 (.s .n (.s (.s .n (.j [] [.v 4 .yk,.v 5 .z6] .n (.s .n (.j [] [.v 4 .yk,.v 9 .z6] .n .n)))) .n)) []
def h2v:=mk 352 Tryz.f352 ⟨[.v .yk],[.v .z6]⟩ (cur1 b9o) w1 u1 .n [m59]
def K354:=mk 354 Tryz.f354 ⟨[.v .ze,.rp 212 .zo],[.v .z6]⟩ (cur2 b9r) w1 u1 .n []
def K394:=mk 394 Tryz.f394 ⟨[.v .ze],[.v .z6]⟩ (cur1 b42) w1 u1 .n []
def K425:=mkR 425 Tryz.f425 ⟨[.v .yk,.ls .ze],[.v .z7,.v .z6]⟩ (cur2 b6c) w2 u2 (sk 2 (.s (.s .n (.l [] [] [.bx 2 2 9 .yk,.bx 4 3 3 .z7,.bx 5 4 4 .z6] (.s .n .n))) .n)) [m4w,K451]
def K426:=mk 426 Tryz.f426 ⟨[.v .z7,.ls .z7],[.v .z7,.v .z6]⟩ (cur2 b9i) w2 u2 (.s .n (.s (.s .n (.j [] [.ls 1 .z7,.v 6 .z7,.v 7 .z6] .n (.s .n (.s .n (.s .n (.j [] [.ls 1 .z7,.v 6 .z7,.v 23 .z6] .n (.s .n (.s .n (.s .n (.s .n (.s .n (.j [] [.ls 1 .z7,.v 6 .z7,.v 96 .z6] .n (.s .n (.j [] [.ls 1 .z7,.v 6 .z7,.v 116 .z6] .n .n)))))))))))))) .n)) []
def l6g:Sig VV:=⟨[.v .zi,.ls .ze],[.v .z7,.v .z7]⟩
def l6r(R:Ring_typing_infer):Fent VV:=⟨l6g,Int×Int,λx=>R.f_typing_infer x.1 x.2.1,λb=>((b.1,(b.2,())),()),none⟩
def m3z:Fent VV:=l6r (a0v FU)
def m0f:Ress VV l6g.rs×Outs VV l6g.ps->Int×Int:=λp=>(p.1.1,p.1.2.1)
def m13:Ann VV.C:=(.s .n (.s .n (.s .n (.s (.s .n (.l [1,36,37] [] [.bx 2 2 210 .zi,.ow 8 3 3 .z7,.v 38 .z7] .n)) .n))))
def m1e(R:Ring_typing_infer):Phi VV:=λf ys=>lkF f ys [(395,l6r R),K425.e,K426.e]
def m1w(R:Ring_typing_infer)(hr395:SX.Spec Tryz.prog 395 (l6r R)):OKΦ Tryz.prog (m1e R):=okl ⟨knS rfl ⟨hr395,λ_ _=>by kernel_rfl⟩,K425.ok,K426.ok,trivial⟩
def m3y(R:Ring_typing_infer):∀x,c5v Tryz.prog (m1e R) l6g m0f Tryz.f395 m13 x=b4g R x.1 x.2.1:=λx=>by kernel_rfl
def m0l:c67 Tryz.f395 l6g=true:=by kernel_rfl
def b5q:∀n,SX.Spec Tryz.prog 395 (l6r (a0v n))|0=>(λ_ _ h=>(by cases(show none=some _ from h)))|n+1=>let h395:=b5q n;a2m (fe:=l6r (a0v (n+1))) uok (m1w (a0v n) h395) mixed (fn:=Tryz.f395) (by kernel_rfl) m0f m13 (d8 m0l).1 (d8 m0l).2 (λ_=>rfl) (m3y (a0v n))
def K395:Kn Tryz.prog VV:=⟨395,m3z,knS rfl ⟨(b5q FU),λ_ _=>by kernel_rfl⟩⟩
def l95:=mk 393 Tryz.f393 ⟨[.ls .ze,.cl 394 []],[.v .z7]⟩ (λx=>a19 x.1) w1 u1 (.s .n (.s (.s .n (.l [0,1,7] [] [.v 8 .z7] .n)) .n)) [K394]
def l9q:=mk 353 Tryz.f353 ⟨[.ls .ze,.cl 394 []],[.v .z6]⟩ (λx=>a0i x.1) w1 u1 .n [l95]
def K355:=mk 355 Tryz.f355 ⟨[.v .zi,.ls .ze],[.v .z7,.v .z7]⟩ (cur2 b4y) w2 u2 .n [l9q,m59,K395]
def l9n:=mk 393 Tryz.f393 ⟨[.ls .ze,.cl 354 [.zo]],[.v .z7]⟩ (λx=>a1e x.1 x.2.1.1) w1 u1 (.s .n (.s (.s .n (.l [0,1,7] [] [.v 8 .z7] .n)) .n)) [K354]
def j3t:=mk 353 Tryz.f353 ⟨[.ls .ze,.cl 354 [.zo]],[.v .z6]⟩ (λx=>a0q x.1 x.2.1.1) w1 u1 .n [l9n]
def K301:=mk 301 Tryz.f301 ⟨[.ls .zo],[.ow 439 .ze,.v .z7]⟩ (cur1 b9n) w2 u2 (sk 3 (.s (.s .n (.l [14,15] [] [.ow 4 1 439 .ze,.v 16 .z7] .n)) .n)) [m4w,h2v,j3t,K355]
def K303:=mk 303 Tryz.f303 ⟨[.v .zg,.rp 205 .zg],[.v .z6]⟩ (cur2 b5a) w1 u1 .n []
def k11:=mk 305 Tryz.f305 ⟨[.v .zl,.rp 215 .zl],[.v .z6]⟩ (cur2 b57) w1 u1 .n []
def l0h:=mk 306 Tryz.f306 ⟨[.v .zi,.ls .ze,.v .z7],[.v .z7]⟩ (cur3 b8w) w1 u1 .n [K355]
def K308:=mk 308 Tryz.f308 ⟨[.v .zt,.rp 217 .zt],[.v .z6]⟩ (cur2 b5b) w1 u1 .n []
def l9d:=mk 343 Tryz.f343 ⟨[.ls .zg,.cl 303 [.zg]],[.v .z7]⟩ (λx=>a13 x.1 x.2.1.1) w1 u1 (.s .n (.s (.s .n (.l [0,1,7] [] [.v 8 .z7] .n)) .n)) [K303]
def l9s:=mk 302 Tryz.f302 ⟨[.ls .zg,.cl 303 [.zg]],[.v .z6]⟩ (λx=>a0e x.1 x.2.1.1) w1 u1 .n [l9d]
def l99:=mk 196 Tryz.f196 ⟨[.ls .zl,.cl 305 [.zl]],[.v .z7]⟩ (λx=>a15 x.1 x.2.1.1) w1 u1 (.s .n (.s (.s .n (.l [0,1,7] [] [.v 8 .z7] .n)) .n)) [k11]
def l98:=mk 304 Tryz.f304 ⟨[.ls .zl,.cl 305 [.zl]],[.v .z6]⟩ (λx=>a0h x.1 x.2.1.1) w1 u1 .n [l99]
def l9p:=mk 356 Tryz.f356 ⟨[.ls .zt,.cl 308 [.zt]],[.v .z7]⟩ (λx=>a0x x.1 x.2.1.1) w1 u1 (.s .n (.s (.s .n (.l [0,1,7] [] [.v 8 .z7] .n)) .n)) [K308]
def l9x:=mk 307 Tryz.f307 ⟨[.ls .zt,.cl 308 [.zt]],[.v .z6]⟩ (λx=>a0d x.1 x.2.1.1) w1 u1 .n [l9p]
def K259:=mk 259 Tryz.f259 ⟨[.v .y6],[.v .z7]⟩ (cur1 b0q) w1 u1 (sk 3 (.s (.s .n (.l [26,27] [] [.bx 1 1 103 .y6,.ow 3 2 439 .ze,.v 28 .z7] .n)) (.s (.s .n (.l [41,42] [] [.bx 1 1 103 .y6,.ow 3 2 439 .ze,.v 43 .z7] .n)) (.s (.s .n (.l [64,65] [] [.bx 1 1 103 .y6,.ow 3 2 439 .ze,.v 66 .z7] .n)) (.s (.s .n (.l [93,94] [] [.bx 1 1 103 .y6,.ow 3 2 439 .ze,.v 95 .z7] .n)) .n))))) [K301,l9s,l98,l0h,l9x]
def K242:=mk 242 Tryz.f242 ⟨[.v .y2],[.v .z7,.v .z7]⟩ (cur1 b4b) w2 u2 (sk 2 (.s (.s .n (.l [11,12] [] [.bx 1 1 56 .y2,.v 13 .z7] .n)) .n)) [K259,K280]
def K179:=mk 179 Tryz.f179 ⟨[.v .zn],[.v .z7]⟩ (cur1 c02) w1 u1 (.s .n (.s (.s .n (.l [11,12] [] [.bx 1 1 28 .zn,.v 13 .z7] .n)) (.s (.s .n (.l [44,45] [] [.bx 1 1 28 .zn,.v 46 .z7] .n)) .n))) [K48,k0w,K242]
def g25:=mk 118 Tryz.f118 ⟨[.v .zn,.v .z7],[.v .y9,.v .z7]⟩ (cur2 b8v) w2 u2 .n [l0w,K179]
def K180:=mk 180 Tryz.f180 ⟨[.v .y9,.v .z7],[.v .y2,.v .z6]⟩ (cur2 a7y) w2 u2 (.s .n (.s (.s .n (.l [1,10,11] [] [.of 4 2 3 103 .y6,.bm 4 2 56 .y2 [(2,3)],.v 12 .z7] .n)) .n)) []
def m4z:=mk 119 Tryz.f119 ⟨[.v .y9,.v .z7],[.v .y2,.v .y6,.v .z7]⟩ (cur2 a2v) w3 u3 .n [K66,K180]
def K189:=mk 189 Tryz.f189 ⟨[.v .y9,.v .z7],[.v .z6]⟩ (cur2 a08) w1 u1 .n [m49]
def h1w:=mk 295 Tryz.f295 ⟨[.v .ya],[.ow 3 .z7]⟩ (cur1 a6t) w1 u1 (sk 2 (.s (.s .n (.l [18,19] [] [.bx 1 1 176 .ya,.ow 3 2 3 .z7,.v 20 .z7] .n)) (.s (.s .n (.l [35,36] [] [.bx 1 1 176 .ya,.ow 3 2 3 .z7,.v 37 .z7] (.s .n (.s .n (.s (.s .n (.s .n (.s .n (.l [35,36,37,47,48] [] [.bx 1 1 176 .ya,.ow 3 2 3 .z7,.bx 7 3 65 .zx,.v 49 .z7] .n)))) .n))))) .n))) [m4e,m4n]
def K254:=mk 254 Tryz.f254 ⟨[.ls .y8,.ls .zx],[.ow 385 .zz]⟩ (cur2 a4h) w1 u1 (sk 5 (.s (.s .n (.l [] [] [.bx 5 2 176 .ya,.ow 7 3 385 .zz,.ow 8 4 3 .z7,.v 9 .z7] .n)) .n)) [h2a,h4g,h1w]
def K288:=mk 288 Tryz.f288 ⟨[.v .z7,.ls .y0,.im 340 .za [(0,4)],.rp 339 .zy,.po 2 0 373 .zp],[]⟩ (cur5 a1s) (λb=>((),(b.1,(b.2,())))) (λp=>(p.2.1,p.2.2.1)) (.s .n (.l [0,3,8,9] [] [.of 2 0 5 373 .zp,.bm 2 2 340 .za [(0,5)],.v 10 .z7] (.s .n (.s .n (.s (.s .n (.g [6000,6008])) .n))))) []
def K289:=mk 289 Tryz.f289 ⟨[.ls .zz,.v .z7,.v .z7],[.ow 35 .y0]⟩ (cur3 b1e) w1 u1 (sk 2 (.s (.s .n (.l [1,2,10,11] [] [.ow 7 3 35 .y0,.v 12 .z7] .n)) .n)) [l94]
def K290:=mk 290 Tryz.f290 ⟨[],[.ow 378 .zd]⟩ (λx=>b3o) w1 u1 .n []
def K344:=mk 344 Tryz.f344 ⟨[.v .zg,.rp 3 .z7],[.v .z6]⟩ (cur2 b56) w1 u1 .n []
def l9e:=mk 343 Tryz.f343 ⟨[.ls .zg,.cl 344 [.z7]],[.v .z7]⟩ (λx=>t7 x.1 x.2.1.1) w1 u1 (.s .n (.s (.s .n (.l [0,1,7] [] [.v 8 .z7] .n)) .n)) [K344]
def K291:=mk 291 Tryz.f291 ⟨[.v .y6,.v .z7],[.v .z7,.v .z6]⟩ (cur2 b43) w2 u2 .n [l9e]
def K292:=mk 292 Tryz.f292 ⟨[.ls .y8,.v .z7,.v .z7],[.ow 35 .y0]⟩ (cur3 b7p) w1 u1 (sk 2 (.s (.s .n (.l [0,1,2,10,11] [] [.ow 7 3 35 .y0,.v 12 .z7] .n)) .n)) [m3s,k1x,m0s]
def K294:=mk 294 Tryz.f294 ⟨[.ls .y0,.v .z7],[.ow 35 .y0]⟩ (cur2 b4k) w1 u1 (sk 2 (.s (.s .n (.l [10] [] [.v 1 .z7,.ow 5 2 35 .y0,.ow 9 3 35 .y0,.v 11 .z7] (.s .n (.s .n (.s (.s .n (.s .n (.j [] [.v 1 .z7,.ow 5 2 35 .y0,.bx 7 3 35 .y0,.ow 9 4 35 .y0,.v 10 .z7,.v 11 .z7] .n .n))) .n))))) .n)) [l94]
def K293:=mk 293 Tryz.f293 ⟨[.ls .y8,.v .z7,.v .y0,.v .z7],[.ow 35 .y0]⟩ (cur4 b1c) w1 u1 (sk 2 (.s (.s .n (.l [0,1,3] [] [.bx 6 4 35 .y0,.ow 9 5 35 .y0,.v 10 .z7] (.s .n (.s (.s .n (.s (.s .n (.l [0,1,3,10,20] [] [.bx 6 4 35 .y0,.ow 9 5 35 .y0,.ow 11 6 35 .y0,.ow 19 7 37 .y8,.v 21 .z7] .n)) .n)) .n)))) .n)) [K58,k1x,m0s,K294,l94]
def K253:=mk 253 Tryz.f253 ⟨[.ls .y8,.ls .zz,.ls .zy,.v .z7],[.ow 373 .zp,.v .z7]⟩ (cur4 a7e) w2 u2 (sk 2 (.s (.s .n (.l [0,1,2,3,28,29] [] [.v 30 .z7] .n)) (.s (.g [6000]) (.s .n (.s (.s .n (.l [0,1,61,62] [] [.of 12 0 5 373 .zp,.bm 12 4 340 .za [(0,5)],.bx 13 6 35 .y0,.v 63 .z7] (.s .n (.s .n (.s (.s .n (.s .n (.s .n (.s .n (.l [0,1,61,62,63,77] [] [.of 12 0 5 373 .zp,.bm 12 4 340 .za [(0,5)],.bx 13 6 35 .y0,.bx 15 7 339 .zy,.ow 76 8 378 .zd,.v 78 .z7,.cr 16 288 [4,7]] .n))))) .n))))) (.s (.g [6000]) .n)))))) [m0s,K288,K289,K290,K291,K292,K293,K294]
def K345:=mk 345 Tryz.f345 ⟨[.ls .zp,.v .z7,.v .z7],[.ow 35 .y0]⟩ (cur3 b9z) w1 u1 (sk 2 (.s (.s .n (.l [1,2,10,11] [] [.ow 7 3 35 .y0,.v 12 .z7] .n)) .n)) [l94]
def K296:=mk 296 Tryz.f296 ⟨[.ls .zp],[.bo 391 .z3]⟩ (cur1 b2x) w1 u1 (sk 2 (.s (.s .n (.l [0] [] [.bx 3 1 391 .z3,.v 8 .z7] (.s .n (.s .n (.s (.s .n (.s .n (.l [0,4,8] [] [.bx 3 1 391 .z3,.v 11 .z7] .n))) .n))))) .n)) [K345]
def K346:=mk 346 Tryz.f346 ⟨[.rp 391 .z3,.v .z7],[.v .z7,.ow 3 .z7]⟩ (cur2 a4a) w2 u2 (.s .n (.s (.s .n (.l [0,1] [] [.ow 5 2 3 .z7,.v 6 .z7] (.s .n (.s (.s (.s .n (.l [0,1,6] [] [.ow 5 2 3 .z7,.v 12 .z7] .n)) .n) .n)))) .n)) [m50]
def K423:=mk 423 Tryz.f423 ⟨[.ls .y0],[.v .z7,.v .z6]⟩ (cur1 b90) w2 u2 .n [l94]
def K390:=mk 390 Tryz.f390 ⟨[.rp 391 .z3,.v .z7,.v .z7],[.v .z7]⟩ (cur3 a1b) w1 u1 .n [m0s,K423]
def K424:=mk 424 Tryz.f424 ⟨[.ls .y0,.v .z7],[.v .z7,.v .z6]⟩ (cur2 c4p) w2 u2 (sk 2 (.s (.s .n (.l [12] [] [.v 1 .z7,.ow 11 2 35 .y0,.v 13 .z7] .n)) .n)) [l94]
def K391:=mk 391 Tryz.f391 ⟨[.rp 391 .z3,.v .z7,.v .z7],[.v .z7]⟩ (cur3 a2f) w1 u1 .n [m0s,K424]
def K347:=mk 347 Tryz.f347 ⟨[.rp 391 .z3,.ls .z7,.v .z7],[.v .z7]⟩ (cur3 a69) w1 u1 (sk 2 (.s (.s .n (.l [0,1,2,16,17] [] [.v 7 .z7,.v 18 .z7] .n)) (.s .n (.s (.s .n (.l [0,2,39,40] [] [.v 7 .z7,.v 41 .z7] .n)) .n)))) [K390,K391]
def K298:=mk 298 Tryz.f298 ⟨[.rp 391 .z3,.v .z7],[.v .z7,.v .z7,.v .z6]⟩ (cur2 b17) w3 u3 .n [K346,K347]
def K297:=mk 297 Tryz.f297 ⟨[.v .z7,.v .z7,.rp 386 .zc,.im 191 .z9 [(0,4)],.po 3 0 326 .zf],[]⟩ (cur5 a72) (λb=>((),(b.1,(b.2,())))) (λp=>(p.2.1,p.2.2.1)) (sk 3 (.s (.s (.g [6000]) (.s (.g [6003,6008]) (.s (.s (.g [6000]) (.g [2003,6000,6004])) .n))) (.g [6000,6004]))) [K298]
def K348:=mk 348 Tryz.f348 ⟨[.ls .z7,.ls .z7],[.v .z6]⟩ (cur2 a88) w1 u1 (sk 2 (.s (.s .n (.l [0,1,12] [] [.v 13 .z7] .n)) .n)) []
def k0b:=mk 299 Tryz.f299 ⟨[.ls .zb],[.ow 398 .zq]⟩ (cur1 b7w) w1 u1 (sk 3 (.s (.s .n (.l [18,19] [] [.ow 3 1 307 .zb,.ow 4 2 3 .z7,.v 20 .z7] (.s .n (.s .n (.s (.s .n (.s .n (.s .n (.l [18,19,20,33,34] [] [.ow 3 1 307 .zb,.ow 4 2 3 .z7,.v 35 .z7] .n)))) .n))))) (.s .n (.s .n (.s .n (.s (.s .n (.l [] [] [.ow 3 1 307 .zb,.ow 4 2 3 .z7,.ow 9 3 398 .zq,.v 10 .z7] (.s .n (.s (.s .n (.s (.s .n (.l [10,71] [(70,1)] [.ow 3 1 307 .zb,.ow 4 2 3 .z7,.ow 9 3 398 .zq,.of 11 1 5 3 .z7,.bm 11 4 398 .zq [(1,5)],.v 72 .z7] .n)) .n)) .n)))) .n)))))) [m50,m4e,m4n,l94,K348]
def k1e:=mk 255 Tryz.f255 ⟨[.ls .zp],[.ow 326 .zf]⟩ (cur1 a71) w1 u1 (.s .n (.s (.g [7003]) (.s .n (.s (.s .n (.l [] [] [.bx 3 1 386 .zc,.ow 4 2 307 .zb,.v 12 .z7] .n)) (.s (.g [6000]) (.s .n (.s (.s .n (.l [26] [] [.bx 3 1 386 .zc,.of 6 0 3 326 .zf,.bm 6 2 191 .z9 [(0,3)],.ow 25 4 398 .zq,.v 27 .z7,.cr 7 297 [1,2]] .n)) (.s (.g [6000]) .n)))))))) [K296,K297,k0b]
def K256:=mk 256 Tryz.f256 ⟨[.v .z7,.rp 3 .z7],[.v .z6]⟩ (cur2 b1l) w1 u1 .n []
def l9k:=mk 190 Tryz.f190 ⟨[.v .y9,.ls .y8,.cl 256 [.z7]],[.ow 326 .zf]⟩ (λx=>a3g x.1 x.2.1 x.2.2.1.1) w1 u1 (sk 2 (.s (.s .n (.l [1,2,16,17] [] [.bx 3 3 185 .y9,.ow 7 4 339 .zy,.v 18 .z7] .n)) .n)) [K66,K253,K254,k1e,K256]
def K191:=mk 191 Tryz.f191 ⟨[.v .y9,.ls .y8,.v .z7],[.ow 326 .zf]⟩ (cur3 b3l) w1 u1 .n [l9k]
def l9a:=mk 190 Tryz.f190 ⟨[.v .y9,.ls .y8,.bn 189 .y9],[.ow 326 .zf]⟩ (cur3 a0s) w1 u1 (sk 2 (.s (.s .n (.l [1,2,16,17] [] [.bx 3 3 185 .y9,.ow 7 4 339 .zy,.v 18 .z7] .n)) .n)) [K66,K189,K253,K254,k1e]
def K121:=mk 121 Tryz.f121 ⟨[.v .y9,.ls .y8,.v .z7],[.ow 326 .zf]⟩ (cur3 a2z) w1 u1 .n [K189,l9a,K191]
def K181:=mk 181 Tryz.f181 ⟨[.ls .y8,.v .z7],[.ow 3 .z7]⟩ (cur2 b2v) w1 u1 (sk 2 (.s (.s .n (.l [1,8,9] [] [.ow 5 2 3 .z7,.v 10 .z7] .n)) .n)) [m3s,m4e,m4n]
def k0x:=mk 246 Tryz.f246 ⟨[.v .z7],[.v .z7]⟩ (cur1 a7i) w1 u1 .n [m53]
def l0x:=mk 184 Tryz.f184 ⟨[.v .z7],[.v .z7,.v .z7,.v .z7,.v .z6]⟩ (cur1 a4d) (λb=>((b.1,(b.2.1,(b.2.2.1,(b.2.2.2,())))),())) (λp=>(p.1.1,p.1.2.1,p.1.2.2.1,p.1.2.2.2.1)) (sk 3 (.s (.l [0] [] [.v 2 .z7] .n) (.s .n (.s .n (.s (.l [2] [] [.v 3 .z7,.v 6 .z7] .n) .n))))) [k1q,k26,l0e,k0x]
def K245:=mk 245 Tryz.f245 ⟨[.v .z7,.v .z7],[.v .z7,.v .z6]⟩ (cur2 b03) w2 u2 (sk 4 (.j [] [.v 6 .z7,.v 7 .z7,.v 8 .z7] .n .n)) [K57,m53,l0x]
def K183:=mk 183 Tryz.f183 ⟨[.v .z7,.v .z7],[.v .z7]⟩ (cur2 b7r) w1 u1 .n [l0e,l0x,K245]
def K282:=mk 282 Tryz.f282 ⟨[.ls .y0,.v .z7],[.v .z7]⟩ (cur2 c0z) w1 u1 (sk 2 (.s (.s .n (.l [1,10] [] [.v 5 .z7,.ow 9 2 35 .y0,.v 11 .z7] .n)) .n)) [l94]
def l18:=mk 247 Tryz.f247 ⟨[.ls .y0],[.v .z7]⟩ (cur1 b6h) w1 u1 .n [K282]
def h3k:=mk 185 Tryz.f185 ⟨[.ls .zf,.v .z7,.ls .z7],[.v .z7]⟩ (cur3 a8q) w1 u1 (sk 2 (.s (.s .n (.l [1,2,10,11] [] [.ow 7 3 35 .y0,.v 12 .z7] .n)) .n)) [m49,l18]
def K283:=mk 283 Tryz.f283 ⟨[.v .y8,.v .z7],[.v .z7]⟩ (cur2 b63) w1 u1 .n []
def h1k:=mk 284 Tryz.f284 ⟨[.ls .zf,.v .z7,.v .z7],[.ow 35 .y0]⟩ (cur3 b6i) w1 u1 (sk 2 (.s (.s .n (.l [1,2,10,11] [] [.ow 7 3 35 .y0,.v 12 .z7] .n)) .n)) [l94]
def K248:=mk 248 Tryz.f248 ⟨[.ls .y8,.ls .zf,.v .z7],[.ow 331 .yc]⟩ (cur3 b13) w1 u1 (sk 2 (.s (.s .n (.l [0,1,2,14] [] [.ow 7 3 331 .yc,.ow 13 4 37 .y8,.v 15 .z7] .n)) .n)) [K58,k1x,m0s,K283,h1k]
def h3t:=mk 249 Tryz.f249 ⟨[.v .z7],[.v .y0]⟩ (cur1 b5y) w1 u1 .n [K57]
def K250:=mk 250 Tryz.f250 ⟨[.v .y8,.v .z7],[.v .z7]⟩ (cur2 b6a) w1 u1 .n [k0z]
def K186:=mk 186 Tryz.f186 ⟨[.ls .y8,.ls .zf,.v .z7,.v .z7,.ls .zs],[.ow 335 .zh,.v .z7]⟩ (cur5 b4h) w2 u2 (sk 4 (.s (.s .n (.l [3,4,61] [(60,5)] [.ow 12 5 331 .yc,.mp 13 6,.v 62 .z7] (.s .n (.s .n (.s (.s .n (.s .n (.l [3,4,61,62,67,68] [(60,5)] [.ow 12 5 331 .yc,.mp 13 6,.v 69 .z7] (.s .n (.s .n (.s (.s .n (.s .n (.s .n (.s .n (.l [3,4,22,61,62,67,68,69] [(60,5)] [.ow 12 5 331 .yc,.mp 13 6,.v 26 .z7] .n))))) .n)))))) .n))))) (.s .n (.s (.s .n (.l [3,4,103] [] [.ow 12 5 331 .yc,.mp 13 6,.ow 27 7 335 .zh,.ow 102 8 3 .z7,.v 104 .z7] (.s .n (.s .n (.s (.s .n (.s .n (.s (.s .n (.l [3,4,29,30,103,104,113] [(112,5)] [.ow 12 5 331 .yc,.mp 13 6,.ow 27 7 335 .zh,.ow 102 8 3 .z7,.v 114 .z7] .n)) .n))) .n))))) .n)))) [K48,K55,l0x,m0s,K236,l0g,l18,K248,h3t,K250]
def K285:=mk 285 Tryz.f285 ⟨[.v .y6,.v .z7],[.v .zk]⟩ (cur2 b0w) w1 u1 (sk 2 (.s (.s .n (.l [1,9,10] [] [.bx 2 2 103 .y6,.bx 4 3 51 .zk,.v 5 .z7,.v 11 .z7] .n)) .n)) []
def K286:=mk 286 Tryz.f286 ⟨[.v .zk],[.v .z6]⟩ (cur1 b0x) w1 u1 .n [K92]
def K251:=mk 251 Tryz.f251 ⟨[.v .y6,.v .z7,.v .z7,.v .z7],[.v .z7,.v .z7]⟩ (cur4 b2s) w2 u2 .n [K96,m3h,K285,K286]
def K187:=mk 187 Tryz.f187 ⟨[.ls .zh,.v .y6,.v .z7],[.ow 3 .z7,.v .z7]⟩ (cur3 b14) w2 u2 (sk 2 (.s (.s .n (.l [2,13,14] [] [.bx 4 3 103 .y6,.ow 8 4 3 .z7,.v 15 .z7] .n)) .n)) [K251]
def m4u:=mk 287 Tryz.f287 ⟨[.v .z6,.v .yi,.v .yi],[.v .zk,.v .z7]⟩ (cur3 a70) w2 u2 .n []
def K252:=mk 252 Tryz.f252 ⟨[.v .z7,.v .z7],[.v .zk,.v .z7]⟩ (cur2 b32) w2 u2 .n [k5f,m2p,m4u]
def h1z:=mk 188 Tryz.f188 ⟨[.ls .z7],[.v .zk,.v .z7]⟩ (cur1 b6e) w2 u2 (sk 3 (.s (.s .n (.l [0,11,12] [] [.bx 2 1 51 .zk,.v 4 .z7,.v 13 .z7] .n)) .n)) [K252]
def K120:=mk 120 Tryz.f120 ⟨[.v .y9,.ls .y8,.ls .zf,.v .z7,.v .z6],[.v .y7,.v .z7]⟩ (cur5 a8k) w2 u2 (sk 4 (.j [] [.ls 1 .y8,.ls 2 .zf,.v 3 .z7,.v 4 .z6,.bx 5 5 185 .y9,.of 10 11 7 3 .z7,.bm 10 6 131 .y7 [(11,7)],.bx 12 8 56 .y2,.bx 13 9 103 .y6,.of 15 11 11 3 .z7,.bm 15 10 131 .y7 [(11,11)]] .n (.s .n (.s .n (.j [] [.ls 1 .y8,.ls 2 .zf,.v 3 .z7,.bx 5 5 185 .y9,.of 10 11 7 3 .z7,.bm 10 6 131 .y7 [(11,7)],.bx 12 8 56 .y2,.bx 13 9 103 .y6,.of 15 11 11 3 .z7,.bm 15 10 131 .y7 [(11,11)],.v 18 .z7] .n .n))))) [m4z,K181,k1s,K183,l0x,h3k,K186,K187,h1z]
def K67:=mk 67 Tryz.f67 ⟨[.v .zn,.ls .y8,.v .z7,.v .z7,.v .z6],[.v .y7,.v .z7]⟩ (cur5 l51) w2 u2 .n [g25,m4z,K120,K121]
def K350:=mk 350 Tryz.f350 ⟨[.v .z7],[.v .z6]⟩ (cur1 b0a) w1 u1 .n []
def l9t:=mk 392 Tryz.f392 ⟨[.ls .z7,.cl 350 []],[.v .z7]⟩ (λx=>a29 x.1) w1 u1 (.s .n (.s (.s .n (.l [0,1,7] [] [.v 8 .z7] .n)) .n)) [K350]
def l9f:=mk 349 Tryz.f349 ⟨[.ls .z7,.cl 350 []],[.v .z6]⟩ (λx=>a1n x.1) w1 u1 .n [l9t]
def K300:=mk 300 Tryz.f300 ⟨[.ls .z7],[.v .z6]⟩ (cur1 a9p) w1 u1 .n [l9f]
def K258:=mk 258 Tryz.f258 ⟨[.v .y7],[.v .z6]⟩ (cur1 b0s) w1 u1 (sk 2 (.s (.s .n (.l [53] [] [.bx 1 1 131 .y7,.v 54 .z7] .n)) .n)) [K92,K300]
def K195:=mk 195 Tryz.f195 ⟨[.v .y6,.v .y7],[.v .z7]⟩ (cur2 c5y) w1 u1 .n [K258,K259]
def K197:=mk 197 Tryz.f197 ⟨[.v .zl,.rp 3 .z7],[.v .z6]⟩ (cur2 c1o) w1 u1 .n []
def d6g:Sig VV:=⟨[.v .zi,.v .yk],[.v .z6]⟩
def k4f(R:Ring_eval_mentions):Fent VV:=⟨d6g,Bool,λx=>R.f_eval_mentions x.1 x.2.1,λb=>((b,()),()),none⟩
def f03:Fent VV:=k4f (d5 FU)
def g9a:Ress VV d6g.rs×Outs VV d6g.ps->Bool:=λp=>p.1.1
def g9k:Ann VV.C:=.n
def l6n:Sig VV:=⟨[.v .zi,.rp 9 .yk],[.v .z6]⟩
def l7p(R:Ring_eval_mentions):Fent VV:=⟨l6n,Bool,λx=>R.f_eval_mentions_1 x.1 x.2.1,λb=>((b,()),()),none⟩
def m0n:Ress VV l6n.rs×Outs VV l6n.ps->Bool:=λp=>p.1.1
def m1h:Ann VV.C:=.n
def l4r:Sig VV:=⟨[.ls .zi,.cl 358 [.yk]],[.v .z6]⟩
def l52(R:Ring_eval_mentions):Fent VV:=⟨l4r,Bool,λx=>R.f_slices_ContainsFunc_of_api_Expr x.1 x.2.1.1,λb=>((b,()),()),none⟩
def l5o:Ress VV l4r.rs×Outs VV l4r.ps->Bool:=λp=>p.1.1
def l60:Ann VV.C:=.n
def l4v:Sig VV:=⟨[.ls .zi,.cl 358 [.yk]],[.v .z7]⟩
def l55(R:Ring_eval_mentions):Fent VV:=⟨l4v,Int,λx=>R.f_slices_IndexFunc_of_api_Expr x.1 x.2.1.1,λb=>((b,()),()),none⟩
def l61:Ress VV l4v.rs×Outs VV l4v.ps->Int:=λp=>p.1.1
def l5l:Ann VV.C:=(.s .n (.s (.s .n (.l [0,1,7] [] [.v 8 .z7] .n)) .n))
def k6t(R:Ring_eval_mentions):Phi VV:=λf ys=>lkF f ys [(357,l52 R)]
def k8m(R:Ring_eval_mentions)(hr357:SX.Spec Tryz.prog 357 (l52 R)):OKΦ Tryz.prog (k6t R):=okl ⟨knS rfl ⟨hr357,λ_ _=>by kernel_rfl⟩,trivial⟩
def k9j(R:Ring_eval_mentions):∀x,c5v Tryz.prog (k6t R) d6g g9a Tryz.f309 g9k x=b2a R x.1 x.2.1:=λx=>by kernel_rfl
def k6f:c67 Tryz.f309 d6g=true:=by kernel_rfl
def m1g(R:Ring_eval_mentions):Phi VV:=λf ys=>lkF f ys [(309,k4f R)]
def m29(R:Ring_eval_mentions)(hr309:SX.Spec Tryz.prog 309 (k4f R)):OKΦ Tryz.prog (m1g R):=okl ⟨knS rfl ⟨hr309,λ_ _=>by kernel_rfl⟩,trivial⟩
def m30(R:Ring_eval_mentions):∀x,c5v Tryz.prog (m1g R) l6n m0n Tryz.f358 m1h x=b93 R x.1 x.2.1:=λx=>by kernel_rfl
def m1u:c67 Tryz.f358 l6n=true:=by kernel_rfl
def l5u(R:Ring_eval_mentions):Phi VV:=λf ys=>lkF f ys [(396,l55 R)]
def l6y(R:Ring_eval_mentions)(hr396:SX.Spec Tryz.prog 396 (l55 R)):OKΦ Tryz.prog (l5u R):=okl ⟨knS rfl ⟨hr396,λ_ _=>by kernel_rfl⟩,trivial⟩
def l85(R:Ring_eval_mentions):∀x,c5v Tryz.prog (l5u R) l4r l5o Tryz.f357 l60 x=a0o R x.1 x.2.1.1:=λx=>by kernel_rfl
def l5p:c67 Tryz.f357 l4r=true:=by kernel_rfl
def l5s(R:Ring_eval_mentions):Phi VV:=λf ys=>lkF f ys [(358,l7p R)]
def l74(R:Ring_eval_mentions)(hr358:SX.Spec Tryz.prog 358 (l7p R)):OKΦ Tryz.prog (l5s R):=okl ⟨knS rfl ⟨hr358,λ_ _=>by kernel_rfl⟩,trivial⟩
def l7s(R:Ring_eval_mentions):∀x,c5v Tryz.prog (l5s R) l4v l61 Tryz.f396 l5l x=a16 R x.1 x.2.1.1:=λx=>by kernel_rfl
def l5t:c67 Tryz.f396 l4v=true:=by kernel_rfl
def b4u:∀n,SX.Spec Tryz.prog 309 (k4f (d5 n))/\SX.Spec Tryz.prog 358 (l7p (d5 n))/\SX.Spec Tryz.prog 357 (l52 (d5 n))/\SX.Spec Tryz.prog 396 (l55 (d5 n))|0=>⟨(λ_ _ h=>(by cases(show none=some _ from h))),(λ_ _ h=>(by cases(show none=some _ from h))),(λ_ _ h=>(by cases(show none=some _ from h))),(λ_ _ h=>(by cases(show none=some _ from h)))⟩|n+1=>let⟨h309,h358,h357,h396⟩:=b4u n;⟨a2m (fe:=k4f (d5 (n+1))) uok (k8m (d5 n) h357) mixed (fn:=Tryz.f309) (by kernel_rfl) g9a g9k (d8 k6f).1 (d8 k6f).2 (λ_=>rfl) (k9j (d5 n)),a2m (fe:=l7p (d5 (n+1))) uok (m29 (d5 n) h309) mixed (fn:=Tryz.f358) (by kernel_rfl) m0n m1h (d8 m1u).1 (d8 m1u).2 (λ_=>rfl) (m30 (d5 n)),a2m (fe:=l52 (d5 (n+1))) uok (l6y (d5 n) h396) mixed (fn:=Tryz.f357) (by kernel_rfl) l5o l60 (d8 l5p).1 (d8 l5p).2 (λ_=>rfl) (l85 (d5 n)),a2m (fe:=l55 (d5 (n+1))) uok (l74 (d5 n) h358) mixed (fn:=Tryz.f396) (by kernel_rfl) l61 l5l (d8 l5t).1 (d8 l5t).2 (λ_=>rfl) (l7s (d5 n))⟩
def K309:Kn Tryz.prog VV:=⟨309,f03,knS rfl ⟨(b4u FU).1,λ_ _=>by kernel_rfl⟩⟩
def K310:=mk 310 Tryz.f310 ⟨[.so 3 .z7],[]⟩ (cur1 a68) (λb=>((),(b,()))) (λp=>p.2.1) (.s .n (.l [] [] [.ow 0 0 3 .z7,.v 2 .z7,.v 3 .z7] .n)) []
def K260:=mk 260 Tryz.f260 ⟨[.v .zi,.ls .zo],[.ow 3 .z7]⟩ (cur2 c4e) w1 u1 (sk 2 (.s (.s .n (.l [1] [] [.bx 2 2 210 .zi,.ow 5 3 3 .z7,.v 6 .z7] (.s .n (.s (.s .n (.s (.s .n (.l [1,6,25] [(24,3)] [.bx 2 2 210 .zi,.ow 5 3 3 .z7,.v 7 .z6,.v 26 .z7] .n)) .n)) .n)))) .n)) [K309,K310]
def k9y:=mk 311 Tryz.f311 ⟨[.v .z7,.v .zk],[.v .y5]⟩ (cur2 t6) w1 u1 .n []
def K359:=mk 359 Tryz.f359 ⟨[.v .y7,.v .yk],[.v .y5,.v .z6]⟩ (cur2 c2b) w2 u2 .n [K258,k9y,m4w]
def h3j:=mkR 312 Tryz.f312 ⟨[.rp 273 .yd,.v .yk],[.v .y5]⟩ (cur2 a84) w1 u1 (sk 2 (.s (.s .n (.l [] [] [.bx 3 2 9 .yk,.bx 4 3 277 .y5] (.s .n .n))) .n)) [K359,K360]
def l9o:=mkR 330 Tryz.f330 ⟨[.ow 3 .z7,.vl 398 22 .z7],[.ow 3 .z7]⟩ (cur2 u5) w1 u1 (.s (.g [6000]) (.s (.s .n (.l [] [] [.of 2 0 3 3 .z7,.bm 2 2 22 .z8 [(0,3)]] (.s .n (.g [6000,6004])))) (.s (.g [6000]) .n))) []
def l9y:=mk 276 Tryz.f276 ⟨[.vl 398 22 .z7],[.ow 3 .z7]⟩ (cur1 y5) w1 u1 .n [l9o]
def l9l:=mk 236 Tryz.f236 ⟨[.vl 398 22 .z7],[.ow 3 .z7]⟩ (cur1 o9) w1 u1 .n [m4e,l9y]
def K313:=mk 313 Tryz.f313 ⟨[.ls .z7,.v .z7],[.v .zk,.v .z7]⟩ (cur2 c4b) w2 u2 (sk 4 (.s (.s .n (.l [1,31,32] [] [.bx 4 2 51 .zk,.v 7 .z7,.v 33 .z7] .n)) .n)) [l9l,K252,K300,k1j]
def l0d:=mk 317 Tryz.f317 ⟨[.v .z6],[.v .y5]⟩ (cur1 b8n) w1 u1 .n []
def K362:=mk 362 Tryz.f362 ⟨[.v .zk],[.v .z7,.v .z7]⟩ (cur1 b4e) w2 u2 .n [K92]
def m4r:=mk 363 Tryz.f363 ⟨[.v .zk],[.v .zk,.v .z7]⟩ (cur1 b4p) w2 u2 .n [K92]
def l16:=mk 399 Tryz.f399 ⟨[.v .ym,.v .ym],[.v .yi]⟩ (cur2 a4g) w1 u1 .n [K96]
def K400:=mk 400 Tryz.f400 ⟨[.v .yi,.v .yi],[.v .z6]⟩ (cur2 a3u) w1 u1 .n []
def K364:=mk 364 Tryz.f364 ⟨[.v .zk,.v .zk],[.v .z7,.v .z7]⟩ (cur2 a8g) w2 u2 (sk 4 (.j [] [.bx 6 2 371 .yi,.bx 7 3 371 .yi] .n .n)) [K92,m2p,l16,K400]
def K316:=mk 316 Tryz.f316 ⟨[.v .z7,.v .zk,.v .zk],[.v .z6,.v .z7]⟩ (cur3 b7z) w2 u2 .n [K364]
def K401:=mk 401 Tryz.f401 ⟨[.v .yi,.v .yi],[.v .yi]⟩ (cur2 a98) w1 u1 .n [K427]
def K402:=mk 402 Tryz.f402 ⟨[.v .yi,.v .yi],[.v .yi]⟩ (cur2 a4w) w1 u1 .n [K428]
def K403:=mk 403 Tryz.f403 ⟨[.v .ym,.v .ym,.v .ym],[.v .ym]⟩ (cur3 c25) w1 u1 .n [m3h]
def K404:=mk 404 Tryz.f404 ⟨[.v .yi,.v .ym],[.v .yi]⟩ (cur2 a8z) w1 u1 .n [m3h]
def K365:=mk 365 Tryz.f365 ⟨[.v .zk,.v .zk],[.v .zk,.v .z7]⟩ (cur2 b4q) w2 u2 (sk 4 (.j [] [.bx 2 2 51 .zk,.bx 3 3 51 .zk,.bx 4 4 51 .zk,.bx 6 5 371 .yi,.v 8 .z6] .n .n)) [K92,k5f,m2p,m4u,l16,K400,K401,K402,K403,K404]
def K366:=mk 366 Tryz.f366 ⟨[.v .zk,.v .zk],[.v .zk,.v .z7]⟩ (cur2 b7d) w2 u2 .n [m4r,K365]
def K405:=mk 405 Tryz.f405 ⟨[.v .z6,.v .ym,.v .ym,.v .ym,.v .ym],[.v .zk,.v .z7]⟩ (cur5 a73) w2 u2 .n [k5f,m4u,l16]
def K367:=mk 367 Tryz.f367 ⟨[.v .zk,.v .zk],[.v .zk,.v .z7]⟩ (cur2 b7j) w2 u2 .n [K92,m2p,K405]
def K368:=mk 368 Tryz.f368 ⟨[.v .zk,.v .zk],[.v .zk,.v .z7]⟩ (cur2 b7o) w2 u2 .n [K92,m2p,K405]
def K318:=mk 318 Tryz.f318 ⟨[.v .z7,.v .zk,.v .zk],[.v .zk,.v .z7]⟩ (cur3 b2w) w2 u2 .n [K364,K365,K366,K367,K368]
def K319:=mk 319 Tryz.f319 ⟨[.v .z7,.v .z7,.v .z7],[.v .z7]⟩ (cur3 b8c) w1 u1 .n []
def l6d:Sig VV:=⟨[.rp 273 .yd,.v .zi],[.v .y5,.v .z7]⟩
def l58(R:Ring_eval_evaluator_expr):Fent VV:=⟨l6d,Value×Int,λx=>R.f_eval_evaluator_expr x.1 x.2.1,λb=>((b.1,(b.2,())),()),none⟩
def m40:Fent VV:=l58 (c4 FU)
def m0u:Ress VV l6d.rs×Outs VV l6d.ps->Value×Int:=λp=>(p.1.1,p.1.2.1)
def m1p:Ann VV.C:=(.s .n (.s (.s .n (.s .n (.s .n (.s .n (.s .n (.s .n (.s .n (.j [] [.rp 0 .yd,.bx 3 2 210 .zi,.bx 4 3 277 .y5,.v 15 .z7,.v 46 .z6] .n (.s .n (.j [] [.rp 0 .yd,.bx 3 2 210 .zi,.bx 4 3 277 .y5,.v 55 .z6] .n .n)))))))))) .n))
def k4d:Sig VV:=⟨[.rp 273 .yd,.v .zi],[.v .y5,.v .z7]⟩
def k4u(R:Ring_eval_evaluator_expr):Fent VV:=⟨k4d,Value×Int,λx=>R.f_eval_evaluator_unary x.1 x.2.1,λb=>((b.1,(b.2,())),()),none⟩
def k7b:Ress VV k4d.rs×Outs VV k4d.ps->Value×Int:=λp=>(p.1.1,p.1.2.1)
def k6n:Ann VV.C:=.n
def i97:Sig VV:=⟨[.rp 273 .yd,.v .zi],[.v .y5,.v .z7]⟩
def i9v(R:Ring_eval_evaluator_expr):Fent VV:=⟨i97,Value×Int,λx=>R.f_eval_evaluator_logic x.1 x.2.1,λb=>((b.1,(b.2,())),()),none⟩
def j5i:Ress VV i97.rs×Outs VV i97.ps->Value×Int:=λp=>(p.1.1,p.1.2.1)
def j54:Ann VV.C:=.n
def m0h(R:Ring_eval_evaluator_expr):Phi VV:=λf ys=>lkF f ys [(261,l58 R),k9y.e,h3j.e,K313.e,(314,k4u R),(315,i9v R),K316.e,l0d.e,K318.e,K319.e]
def m2n(R:Ring_eval_evaluator_expr)(hr261:SX.Spec Tryz.prog 261 (l58 R))(hr314:SX.Spec Tryz.prog 314 (k4u R))(hr315:SX.Spec Tryz.prog 315 (i9v R)):OKΦ Tryz.prog (m0h R):=okl ⟨knS rfl ⟨hr261,λ_ _=>by kernel_rfl⟩,k9y.ok,h3j.ok,K313.ok,knS rfl ⟨hr314,λ_ _=>by kernel_rfl⟩,knS rfl ⟨hr315,λ_ _=>by kernel_rfl⟩,K316.ok,l0d.ok,K318.ok,K319.ok,trivial⟩
def m3k(R:Ring_eval_evaluator_expr):∀x,c5v Tryz.prog (m0h R) l6d m0u Tryz.f261 m1p x=a5u R x.1 x.2.1:=λx=>by kernel_rfl
def m0b:c67 Tryz.f261 l6d=true:=by kernel_rfl
def k6j(R:Ring_eval_evaluator_expr):Phi VV:=λf ys=>lkF f ys [(261,l58 R),k9y.e,l0d.e,K362.e,m4r.e]
def k8p(R:Ring_eval_evaluator_expr)(hr261:SX.Spec Tryz.prog 261 (l58 R)):OKΦ Tryz.prog (k6j R):=okl ⟨knS rfl ⟨hr261,λ_ _=>by kernel_rfl⟩,k9y.ok,l0d.ok,K362.ok,m4r.ok,trivial⟩
def k92(R:Ring_eval_evaluator_expr):∀x,c5v Tryz.prog (k6j R) k4d k7b Tryz.f314 k6n x=a5i R x.1 x.2.1:=λx=>by kernel_rfl
def k7m:c67 Tryz.f314 k4d=true:=by kernel_rfl
def j63(R:Ring_eval_evaluator_expr):Phi VV:=λf ys=>lkF f ys [(261,l58 R)]
def j8a(R:Ring_eval_evaluator_expr)(hr261:SX.Spec Tryz.prog 261 (l58 R)):OKΦ Tryz.prog (j63 R):=okl ⟨knS rfl ⟨hr261,λ_ _=>by kernel_rfl⟩,trivial⟩
def k0d(R:Ring_eval_evaluator_expr):∀x,c5v Tryz.prog (j63 R) i97 j5i Tryz.f315 j54 x=a5d R x.1 x.2.1:=λx=>by kernel_rfl
def j5o:c67 Tryz.f315 i97=true:=by kernel_rfl
def a9r:∀n,SX.Spec Tryz.prog 261 (l58 (c4 n))/\SX.Spec Tryz.prog 314 (k4u (c4 n))/\SX.Spec Tryz.prog 315 (i9v (c4 n))|0=>⟨(λ_ _ h=>(by cases(show none=some _ from h))),(λ_ _ h=>(by cases(show none=some _ from h))),(λ_ _ h=>(by cases(show none=some _ from h)))⟩|n+1=>let⟨h261,h314,h315⟩:=a9r n;⟨a2m (fe:=l58 (c4 (n+1))) uok (m2n (c4 n) h261 h314 h315) mixed (fn:=Tryz.f261) (by kernel_rfl) m0u m1p (d8 m0b).1 (d8 m0b).2 (λ_=>rfl) (m3k (c4 n)),a2m (fe:=k4u (c4 (n+1))) uok (k8p (c4 n) h261) mixed (fn:=Tryz.f314) (by kernel_rfl) k7b k6n (d8 k7m).1 (d8 k7m).2 (λ_=>rfl) (k92 (c4 n)),a2m (fe:=i9v (c4 (n+1))) uok (j8a (c4 n) h261) mixed (fn:=Tryz.f315) (by kernel_rfl) j5i j54 (d8 j5o).1 (d8 j5o).2 (λ_=>rfl) (k0d (c4 n))⟩
def K261:Kn Tryz.prog VV:=⟨261,m40,knS rfl ⟨(a9r FU).1,λ_ _=>by kernel_rfl⟩⟩
def h3r:=mk 198 Tryz.f198 ⟨[.im 273 .yd [(1,5)],.v .zi,.ls .zo,.so 4 .z6,.v .yk,.po 0 1 354 .y3],[.v .z7]⟩ (cur6 a3e) (λb=>((b.1,()),(b.2.1,(b.2.2.1,(b.2.2.2,()))))) (λp=>(p.1.1,p.2.1,p.2.2.1,p.2.2.2.1)) (.s .n (.s (.s .n (.l [2,4,20] [] [.of 0 1 6 354 .y3,.bm 0 0 273 .yd [(1,6)],.ow 3 3 4 .z6,.bx 6 7 210 .zi,.ow 19 8 3 .z7,.v 21 .z7] .n)) .n)) [K260,K261]
def l0f:=mk 199 Tryz.f199 ⟨[.rp 273 .yd],[.v .y5]⟩ (cur1 a55) w1 u1 .n []
def l9z:=mk 196 Tryz.f196 ⟨[.ls .zl,.cl 197 [.z7]],[.v .z7]⟩ (λx=>a1y x.1 x.2.1.1) w1 u1 (.s .n (.s (.s .n (.l [0,1,7] [] [.v 8 .z7] .n)) .n)) [K197]
def K124:=mk 124 Tryz.f124 ⟨[.v .y6,.v .z7,.v .y7],[.v .zu,.v .z7]⟩ (cur3 c2a) w2 u2 .n [K195,l9z,h3r,l0f]
def K69:=mk 69 Tryz.f69 ⟨[.v .zn,.v .z7,.v .z7,.v .z7,.v .y7],[.v .zu,.v .z7]⟩ (cur5 l4w) w2 u2 .n [g25,m4z,K124]
def K70:=mk 70 Tryz.f70 ⟨[.v .zk,.v .zw],[.v .z7,.v .z7]⟩ (cur2 b9q) w2 u2 .n [K92,j39,k1f,k12]
def m31:=mk 63 Tryz.f63 ⟨[.ls .y1,.cl 64 [.z7]],[.v .z7]⟩ (λx=>l3s x.1 x.2.1.1) w1 u1 (.s .n (.s (.s .n (.l [0,1,7] [] [.v 8 .z7] .n)) .n)) [K64]
def K26:=mk 26 Tryz.f26 ⟨[.v .zn,.ls .y8,.v .z7],[.v .zv,.v .z6]⟩ (cur3 l4n) w2 u2 (sk 14 (.s (.g [3]) .n)) [K62,m31,K65,K66,K67,K68,K69,K70]
def K29:=mk 29 Tryz.f29 ⟨[.v .zv,.v .zv],[.v .z7]⟩ (cur2 l48) w1 u1 .n [K30]
def K32:=mk 32 Tryz.f32 ⟨[.v .zv,.v .zv],[.v .z6]⟩ (cur2 l4x) w1 u1 .n []
def m2s:=mk 28 Tryz.f28 ⟨[.ls .zv,.v .zv,.cl 29 []],[.v .z7,.v .z6]⟩ (λx=>l3r x.1 x.2.1) w2 u2 (sk 3 (.s (.l [0,2,8] [] [.bx 4 3 41 .zv,.v 9 .z7,.v 10 .z7] .n) .n)) [K29]
def K11:=mk 11 Tryz.f11 ⟨[.v .zn,.ls .y8,.v .z7,.v .z7],[.ow 41 .zv]⟩ (cur4 l45) w1 u1 (sk 5 (.s (.s .n (.l [9,31] [] [.ow 1 4 37 .y8,.bx 4 5 28 .zn,.ow 11 6 41 .zv,.ow 30 7 3 .z7,.v 32 .z7] .n)) .n)) [K23,K24,K25,K26,K27,m2s,K31,K32]
noncomputable def inT:List (Nat×Func×Ann TyC):=[(20,Tryz.f20,(.s .n (.s .n (.s (.g [8001,8002]) .n)))),(21,Tryz.f21,(.s .n (.s .n (.s .n (.s .n (.s (.s .n (.s .n (.s .n (.s (.s .n (.s .n (.s .n (.s (.s .n (.s .n (.s .n (.s (.s .n (.s (.g [9014]) .n)) .n)))) .n)))) .n)))) .n)))))),(22,Tryz.f22,.n),(47,Tryz.f47,.n),(49,Tryz.f49,.n),(50,Tryz.f50,.n),(51,Tryz.f51,(.s .n (.s .n (.s (.g [8005,8008]) .n)))),(53,Tryz.f53,.n),(54,Tryz.f54,.n),(88,Tryz.f88,.n),(89,Tryz.f89,.n),(94,Tryz.f94,.n),(97,Tryz.f97,.n),(142,Tryz.f142,.n),(146,Tryz.f146,.n),(147,Tryz.f147,.n),(148,Tryz.f148,.n),(149,Tryz.f149,.n),(150,Tryz.f150,.n),(151,Tryz.f151,.n),(152,Tryz.f152,.n),(153,Tryz.f153,.n),(156,Tryz.f156,.n),(217,Tryz.f217,.n),(220,Tryz.f220,.n),(221,Tryz.f221,.n),(269,Tryz.f269,.n)]
def inA:m2o (U:=VV) Tryz.prog inT:=⟨⟨by kernel_rfl,by kernel_rfl⟩,⟨by kernel_rfl,by kernel_rfl⟩,⟨by kernel_rfl,by kernel_rfl⟩,⟨by kernel_rfl,by kernel_rfl⟩,⟨by kernel_rfl,by kernel_rfl⟩,⟨by kernel_rfl,by kernel_rfl⟩,⟨by kernel_rfl,by kernel_rfl⟩,⟨by kernel_rfl,by kernel_rfl⟩,⟨by kernel_rfl,by kernel_rfl⟩,⟨by kernel_rfl,by kernel_rfl⟩,⟨by kernel_rfl,by kernel_rfl⟩,⟨by kernel_rfl,by kernel_rfl⟩,⟨by kernel_rfl,by kernel_rfl⟩,⟨by kernel_rfl,by kernel_rfl⟩,⟨by kernel_rfl,by kernel_rfl⟩,⟨by kernel_rfl,by kernel_rfl⟩,⟨by kernel_rfl,by kernel_rfl⟩,⟨by kernel_rfl,by kernel_rfl⟩,⟨by kernel_rfl,by kernel_rfl⟩,⟨by kernel_rfl,by kernel_rfl⟩,⟨by kernel_rfl,by kernel_rfl⟩,⟨by kernel_rfl,by kernel_rfl⟩,⟨by kernel_rfl,by kernel_rfl⟩,⟨by kernel_rfl,by kernel_rfl⟩,⟨by kernel_rfl,by kernel_rfl⟩,⟨by kernel_rfl,by kernel_rfl⟩,⟨by kernel_rfl,by kernel_rfl⟩,trivial⟩
def kT:List (Kn Tryz.prog VV):=[K30,K48,K52,K55,K95,K96,K98,K218,K219]
def fe_9:Fent VV:=⟨⟨[],[.v .z6]⟩,Bool,λ_=>some true,w1,none⟩
def ok_9:SX.Spec Tryz.prog 9 fe_9:=l8z (U:=VV) uok mixed (l8t uok mixed (m0g inA) (okl (f8d kT)) 60) (fn:=Tryz.f9) (an:=.n) (by kernel_rfl) (a14 (fn:=Tryz.f9) (by kernel_rfl) (by kernel_rfl) (by kernel_rfl)) (by kernel_rfl) (c:=.z6) (x:=true) (e:=true) rfl (by kernel_rfl)
def K9:Kn Tryz.prog VV:=⟨9,fe_9,knS rfl ⟨ok_9,λ_ _=>a14 (fn:=Tryz.f9) (by kernel_rfl) (by kernel_rfl) (by kernel_rfl) _ _⟩⟩
def K33:=mk 33 Tryz.f33 ⟨[.v .z7],[.v .z6]⟩ (cur1 h8p) w1 u1 .n []
def K13:=mk 13 Tryz.f13 ⟨[.v .z7],[.v .z7,.v .z6]⟩ (cur1 h8o) w2 u2 .n [K33,K34]
def K14:=mk 14 Tryz.f14 ⟨[.ls .zv],[.v .z6]⟩ (cur1 h8l) w1 u1 (sk 2 (.s (.s .n (.l [0] [] [.v 3 .z7] (.s .n (.s (.s .n (.s .n (.s .n (.l [0,3] [] [.bx 4 1 41 .zv,.v 5 .z7] .n)))) .n)))) .n)) []
def K15:=mk 15 Tryz.f15 ⟨[.ls .y8,.v .z7,.v .z7],[.ow 3 .z7]⟩ (cur3 h8s) w1 u1 .n [K24,K25]
def k8v:Sig VV:=⟨[.ls .z7,.ls .z7,.ls .yf,.v .z7,.v .z7],[.v .z6]⟩
def fe_4:Fent VV:=⟨k8v,Bool,λx=>h8k x.1 x.2.1 x.2.2.1 x.2.2.2.1 x.2.2.2.2.1,λb=>((b,()),()),none⟩
def un_4:Ress VV k8v.rs×Outs VV k8v.ps->Bool:=λp=>p.1.1
def an_4:Ann VV.C:=(.s .n (.s .n (.s .n (.s .n (.s .n (.s (.s (.g [11]) .n) (.s (.s .n (.l [] [] [.ow 15 5 41 .zv,.v 18 .z7] .n)) .n)))))))
def ok_4:SX.Spec Tryz.prog 4 fe_4:=a2m (fe:=fe_4) uok (okl (f8d [K5,K6,K7,K8,K9,K11,K12,K13,K14,K15])) mixed (fn:=Tryz.f4) (by kernel_rfl) un_4 an_4 (d8 (s:=k8v) (by kernel_rfl)).1 (d8 (s:=k8v) (by kernel_rfl)).2 (λ_=>rfl) λx=>by kernel_rfl
end
end Go.PL
