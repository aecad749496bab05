/- Texts of the proof, joined. -/
import Derived.Test.YteiaijhkdaphpaaGreatDoorP9
import Derived.Shelf.SlIterI.Sorted
import Derived.Shelf.SortM.Plain
import Derived.Shelf.SortM.SortNone
import Derived.Lib.SlKeysI
import Derived.Test.YteiaijhkdaphpaaGreatDoorProg
import Derived.KernelRfl
set_option linter.unusedVariables false
set_option linter.unusedSimpArgs false
set_option maxRecDepth 100000
namespace Go.Proofs
open Go.Shelf
def Tryz.keysA_ren:Go.Shelf.Ren:=⟨λ|7=>117|10=>192|n=>n,λ|23=>218|26=>3|3=>3|28=>223|0=>0|27=>222|33=>110|4=>4|n=>n,λ|n=>n⟩
theorem Tryz.keysA:Go.Proofs.SlLaysZI.n7 Tryz.prog Tryz.keysA_ren:={
 mixed:=by kernel_rfl
 f7:=⟨Tryz.f117.name,by decide,Tryz.func117.trans (congrArg some (by kernel_rfl))⟩
 f10:=⟨Tryz.f192.name,by decide,Tryz.func192.trans (congrArg some (by kernel_rfl))⟩
 t0:=Tryz.underlying0
 a0:=Tryz.isAgg0
 z0:=Tryz.sizeOf0
 v0:=Tryz.zeroValue0
 t4:=Tryz.underlying4
 a4:=Tryz.isAgg4
 z4:=Tryz.sizeOf4
 v4:=Tryz.zeroValue4
 t23:=Tryz.underlying218
 a23:=Tryz.isAgg218
 z23:=Tryz.sizeOf218
 v23:=Tryz.zeroValue218
 t26:=Tryz.underlying3
 a26:=Tryz.isAgg3
 z26:=Tryz.sizeOf3
 v26:=Tryz.zeroValue3
 t27:=Tryz.underlying222
 a27:=Tryz.isAgg222
 z27:=Tryz.sizeOf222
 v27:=Tryz.zeroValue222
 t28:=Tryz.underlying223
 a28:=Tryz.isAgg223
 z28:=Tryz.sizeOf223
 v28:=Tryz.zeroValue223
 t33:=Tryz.underlying110
 a33:=Tryz.isAgg110
 z33:=Tryz.sizeOf110
 v33:=Tryz.zeroValue110}
def Tryz.sortedA_ren:Go.Shelf.Ren:=⟨λ|6=>116|8=>191|9=>107|11=>270|13=>184|12=>183|23=>266|24=>267|14=>257|15=>258|16=>259|17=>260|18=>261|19=>262|20=>263|21=>264|22=>265|25=>321|26=>322|27=>323|28=>324|29=>325|30=>326|31=>370|n=>n,λ|26=>3|28=>223|24=>23|0=>0|3=>3|37=>243|48=>379|50=>177|4=>4|40=>373|39=>372|45=>155|5=>5|9=>9|51=>420|55=>424|57=>453|58=>116|33=>110|n=>n,λ|n=>n⟩
theorem Tryz.sortedA:Go.Proofs.SlLaysZI.n6 Tryz.prog Tryz.sortedA_ren:={
 mixed:=by kernel_rfl
 f6:=⟨Tryz.f116.name,by decide,Tryz.func116.trans (congrArg some (by kernel_rfl))⟩
 f8:=⟨Tryz.f191.name,by decide,Tryz.func191.trans (congrArg some (by kernel_rfl))⟩
 f11:=⟨Tryz.f270.name,by decide,Tryz.func270.trans (congrArg some (by kernel_rfl))⟩
 t0:=Tryz.underlying0
 a0:=Tryz.isAgg0
 z0:=Tryz.sizeOf0
 v0:=Tryz.zeroValue0
 t24:=Tryz.underlying23
 a24:=Tryz.isAgg23
 z24:=Tryz.sizeOf23
 v24:=Tryz.zeroValue23
 t26:=Tryz.underlying3
 a26:=Tryz.isAgg3
 z26:=Tryz.sizeOf3
 v26:=Tryz.zeroValue3
 t28:=Tryz.underlying223
 a28:=Tryz.isAgg223
 z28:=Tryz.sizeOf223
 v28:=Tryz.zeroValue223
 i26:=by kernel_rfl}
def Tryz.sortA_ren:Go.Shelf.Ren:=⟨λ|5=>107|8=>184|7=>183|19=>266|20=>267|10=>257|11=>258|12=>259|13=>260|14=>261|15=>262|16=>263|17=>264|18=>265|30=>321|31=>322|32=>323|33=>324|34=>325|35=>326|40=>370|n=>n,λ|23=>23|25=>3|3=>3|32=>243|22=>23|0=>0|44=>379|46=>177|4=>4|36=>373|35=>372|41=>155|5=>5|9=>9|53=>420|57=>424|63=>453|64=>116|n=>n,λ|n=>n⟩
theorem Tryz.sortA:Go.Proofs.SlLaysM.n5 Tryz.prog Tryz.sortA_ren:={
 mixed:=by kernel_rfl
 f5:=⟨Tryz.f107.name,by decide,Tryz.func107.trans (congrArg some (by kernel_rfl))⟩
 f7:=⟨Tryz.f183.name,by decide,Tryz.func183.trans (congrArg some (by kernel_rfl))⟩
 f8:=Tryz.func184.trans (congrArg some (by kernel_rfl))
 f10:=⟨Tryz.f257.name,by decide,Tryz.func257.trans (congrArg some (by kernel_rfl))⟩
 f11:=⟨Tryz.f258.name,by decide,Tryz.func258.trans (congrArg some (by kernel_rfl))⟩
 f12:=⟨Tryz.f259.name,by decide,Tryz.func259.trans (congrArg some (by kernel_rfl))⟩
 f13:=⟨Tryz.f260.name,by decide,Tryz.func260.trans (congrArg some (by kernel_rfl))⟩
 f14:=⟨Tryz.f261.name,by decide,Tryz.func261.trans (congrArg some (by kernel_rfl))⟩
 f15:=⟨Tryz.f262.name,by decide,Tryz.func262.trans (congrArg some (by kernel_rfl))⟩
 f16:=⟨Tryz.f263.name,by decide,Tryz.func263.trans (congrArg some (by kernel_rfl))⟩
 f17:=⟨Tryz.f264.name,by decide,Tryz.func264.trans (congrArg some (by kernel_rfl))⟩
 f18:=⟨Tryz.f265.name,by decide,Tryz.func265.trans (congrArg some (by kernel_rfl))⟩
 f19:=Tryz.func266.trans (congrArg some (by kernel_rfl))
 f20:=Tryz.func267.trans (congrArg some (by kernel_rfl))
 f30:=⟨Tryz.f321.name,by decide,Tryz.func321.trans (congrArg some (by kernel_rfl))⟩
 f31:=Tryz.func322.trans (congrArg some (by kernel_rfl))
 f32:=Tryz.func323.trans (congrArg some (by kernel_rfl))
 f33:=⟨Tryz.f324.name,by decide,Tryz.func324.trans (congrArg some (by kernel_rfl))⟩
 f34:=⟨Tryz.f325.name,by decide,Tryz.func325.trans (congrArg some (by kernel_rfl))⟩
 f35:=⟨Tryz.f326.name,by decide,Tryz.func326.trans (congrArg some (by kernel_rfl))⟩
 f40:=⟨Tryz.f370.name,by decide,Tryz.func370.trans (congrArg some (by kernel_rfl))⟩
 t0:=Tryz.underlying0
 a0:=Tryz.isAgg0
 z0:=Tryz.sizeOf0
 v0:=Tryz.zeroValue0
 t3:=Tryz.underlying3
 a3:=Tryz.isAgg3
 z3:=Tryz.sizeOf3
 v3:=Tryz.zeroValue3
 t4:=Tryz.underlying4
 a4:=Tryz.isAgg4
 z4:=Tryz.sizeOf4
 v4:=Tryz.zeroValue4
 t5:=Tryz.underlying5
 a5:=Tryz.isAgg5
 z5:=Tryz.sizeOf5
 v5:=Tryz.zeroValue5
 t9:=Tryz.underlying9
 a9:=Tryz.isAgg9
 z9:=Tryz.sizeOf9
 v9:=Tryz.zeroValue9
 t22:=Tryz.underlying23
 a22:=Tryz.isAgg23
 z22:=Tryz.sizeOf23
 v22:=Tryz.zeroValue23
 t23:=Tryz.underlying23
 a23:=Tryz.isAgg23
 z23:=Tryz.sizeOf23
 v23:=Tryz.zeroValue23
 t25:=Tryz.underlying3
 a25:=Tryz.isAgg3
 z25:=Tryz.sizeOf3
 v25:=Tryz.zeroValue3
 t32:=Tryz.underlying243
 a32:=Tryz.isAgg243
 z32:=Tryz.sizeOf243
 v32:=Tryz.zeroValue243
 t35:=Tryz.underlying372
 a35:=Tryz.isAgg372
 z35:=Tryz.sizeOf372
 v35:=Tryz.zeroValue372
 t36:=Tryz.underlying373
 a36:=Tryz.isAgg373
 z36:=Tryz.sizeOf373
 v36:=Tryz.zeroValue373
 t41:=Tryz.underlying155
 a41:=Tryz.isAgg155
 z41:=Tryz.sizeOf155
 v41:=Tryz.zeroValue155
 t44:=Tryz.underlying379
 a44:=Tryz.isAgg379
 z44:=Tryz.sizeOf379
 v44:=Tryz.zeroValue379
 t46:=Tryz.underlying177
 a46:=Tryz.isAgg177
 z46:=Tryz.sizeOf177
 v46:=Tryz.zeroValue177
 t53:=Tryz.underlying420
 a53:=Tryz.isAgg420
 z53:=Tryz.sizeOf420
 v53:=Tryz.zeroValue420
 t57:=Tryz.underlying424
 a57:=Tryz.isAgg424
 z57:=Tryz.sizeOf424
 v57:=Tryz.zeroValue424
 t63:=Tryz.underlying453
 a63:=Tryz.isAgg453
 z63:=Tryz.sizeOf453
 v63:=Tryz.zeroValue453
 t64:=Tryz.underlying116
 a64:=Tryz.isAgg116
 z64:=Tryz.sizeOf116
 v64:=Tryz.zeroValue116}
end Go.Proofs
namespace Go.PL
open Go Go.SX Go.Proofs Go.RowKit Go.Maps Go.Sort Go.WideElems Go.WideShapes
theorem f3i{P:Program}{k:TypeId}(hk:P.underlying k=some (.int .i64)){w:World}{mb:Nat}{l:List (Int×Int)}(hn:(l.map (·.1)).Nodup)(hm:w.heap[mb]?=some (b92 l))(hw:(l.all λq=>c4v q.1)=true)(hl:l.length<=1000000):∃D0:DataW Unit,w.ownsMap P k (λ_=>some (.nil,[])) mb l.length D0/\(intKeys D0).Perm (l.map (·.1))/\Maps.size D0=l.length:=by
 have hlen:(l.zipIdx.map λq=>({key:=.int .i64 q.1.1,val:=.int .i64 q.1.2,born:=q.2}:MapEntry)).length=l.length:=by simp
 have hrd:∀q∈l.zipIdx,WideElems.rd P k (λ_=>some ((.nil:DataW Unit),[])) ({key:=.int .i64 q.1.1,val:=.int .i64 q.1.2,born:=q.2}:MapEntry)=some (.int .i64 q.1.1,.nil):=by
  intro q hq;have hm:q.1∈l:=by obtain⟨j,hj⟩:=List.mem_iff_getElem?.1 hq;rw[List.getElem?_zipIdx]at hj;cases hL:l[j]?with|none=>rw[hL]at hj;cases hj|some p=>rw[hL]at hj;obtain rfl:=qH hj;exact qE hL
  have h1:=List.all_eq_true.1 hw q.1 hm;have h2:(Lit.int .i64 q.1.1).wf=true:=by unfold c4v at h1;simp only[qB,decide_eq_true_eq]at h1;simp[Lit.wf,IntKind.min,IntKind.max,IntKind.signed,IntKind.bits];omega
  simp[WideElems.rd,keyOf,hk,mapKey,h2]
 have hborn:(l.zipIdx.map λq=>q.2)=List.range l.length:=by rw[List.range_eq_range'];exact List.zipIdx_map_snd 0 l
 have hkeys:(l.zipIdx.map λq=>q.1.1)=l.map (·.1):=by
  have:(l.zipIdx.map (·.1)).map (·.1)=l.map (·.1):=by rw[List.zipIdx_map_fst]
  rw[<-this,List.map_map];rfl
 refine⟨_,⟨_,_,hm,⟨?_,?_,?_⟩,by simp,rfl⟩,?_,?_⟩;.simp[maxLen];omega
 .rw[MapKept.stamped_iff];refine⟨λx hx=>?_,?_,?_⟩;.obtain⟨q,hq,rfl⟩:=List.mem_map.1 hx;have:q.2∈l.zipIdx.map λq=>q.2:=List.mem_map.2 ⟨q,hq,rfl⟩;rw[hborn]at this;exact List.mem_range.1 this
  .show((l.zipIdx.map λq=>({key:=.int .i64 q.1.1,val:=.int .i64 q.1.2,born:=q.2}:MapEntry)).map (·.born)).Nodup;rw[List.map_map];exact(show(l.zipIdx.map λq=>q.2).Nodup by rw[hborn];exact List.nodup_range)
  .show(l.zipIdx.map λq=>({key:=.int .i64 q.1.1,val:=.int .i64 q.1.2,born:=q.2}:MapEntry)).Pairwise λx y=>x.key≠y.key;rw[List.pairwise_map];have h1:(l.zipIdx.map λq=>q.1.1).Nodup:=by rw[hkeys];exact hn
   exact(List.pairwise_map.1 h1).imp λh e=>h (by simpa using e)
 .intro x hx;obtain⟨q,hq,rfl⟩:=List.mem_map.1 hx;exact⟨_,hrd q hq⟩
 .show(((((l.zipIdx.map λq=>({key:=.int .i64 q.1.1,val:=.int .i64 q.1.2,born:=q.2}:MapEntry))).map (WideElems.rg P k λ_=>some ((.nil:DataW Unit),[]))).foldr DataW.insert []).map λp=>intOf p.1).Perm _;refine((sorted_perm _).map _).trans ?_;rw[List.map_map,List.map_map,<-hkeys];refine List.Perm.of_eq (List.map_congr_left λq hq=>?_);simp[WideElems.rg,hrd q hq,intOf]
 .show(((l.zipIdx.map λq=>({key:=.int .i64 q.1.1,val:=.int .i64 q.1.2,born:=q.2}:MapEntry)).map (WideElems.rg P k λ_=>some ((.nil:DataW Unit),[]))).foldr DataW.insert []).length=l.length;rw[length_sorted];simp
theorem g2s{B:Nat}{e:TypeId}{w:World}{v:Go.Value}{n:Nat}{l:List Int}(h:w.ownsRow B e 1 v n (l.map encZ))(hn:l.length=n):PL.Own B e 1 cellsZ w v l:=by
 subst hn;have hf:∀l:List Int,l.flatMap cellsZ=l.map encZ:=λl=>by induction l with|nil=>rfl|cons x l ih=>exact congrArg (encZ x::.) ih
 rcases h.2with⟨h1,h2⟩|⟨g,cap,cur,h1,h2,h3,h4,h5,h6,h7⟩;.exact .inl ⟨h1,List.length_eq_zero_iff.1 h2⟩
 .exact .inr ⟨g,0,cap,cur,h1,h2,h3,h4,h5,by omega,by rw[List.drop_zero,h7,hf]⟩
theorem g86(m:Nat):AnyZI.SortsIn Tryz.prog Tryz.sortedA_ren Fence.wide m:=⟨λblk off cap ss W hH hblk hsz=>callsIn_wide.2 (AnyM.slices_Sort_int Tryz.sortA blk off cap ss W hH hblk hsz),λp cap W=>callsIn_wide.2 (AnyM.slices_Sort_int_none Tryz.sortA p cap W)⟩
theorem e6p{P:Program}{f:FuncId}{e:TypeId}(h1:∀(blk off cap:Nat)(zs:List Int)(w:World),Holds (Go.Value.int .i64) w blk off zs.toArray->blk<w.heap.size->zs.length<4611686018427387904->Calls P f #[.slice (some ⟨blk,off,none⟩) zs.length cap] w λe w'=>e=.returned (.tuple #[])/\∃n os,w'=grow (putRow (Go.Value.int .i64) (Sort.ahead w n) blk off (b89 zs).toArray) os)(h0:∀(p:Option Addr)(cap:Nat)(w:World),Calls P f #[.slice p 0 cap] w λe w'=>e=.returned (.tuple #[])/\w'=w){l:List Int}{w:World}{v:Go.Value}(hO:PL.Own 0 e 1 (λx:Int=>[Go.Value.int .i64 x]) w v l)(hl:l.length<4611686018427387904):Calls P f #[v] w λq w'=>q=.returned (.tuple #[])/\Ext (λb=>v.ownBlock=some b) w w'/\PL.Own 0 e 1 (λx:Int=>[Go.Value.int .i64 x]) w' v (b89 l):=by
 have hlen:(b89 l).length=l.length:=(a8p l).length_eq;by_cases hz:l.length=0;.obtain⟨a,cap,hv,_⟩:=hO.shape;obtain rfl:=List.length_eq_zero_iff.1 hz;rw[show v=.slice a 0 cap from hv];rw[show v=.slice a 0 cap from hv]at hO;refine(h0 a cap w).mono ?_;rintro q w'⟨rfl,rfl⟩;exact⟨rfl,Ext.refl _ _,by exact hO⟩
 .have hO2:=hO;rcases hO with⟨_,h⟩|⟨g,o,cap,cur,rfl,h2,h3,h4,h5,h6,h7⟩;.exact absurd (by rw[h];rfl) hz
  .have hlt:g<w.heap.size:=(qN.1 h3).1;refine(h1 g o cap l w (e8y (d6l (n:=1) (λ_=>rfl) hO2)) hlt hl).mono ?_;rintro q w'⟨rfl,n,os,rfl⟩;rw[e5t];refine⟨rfl,e7r rfl,?_⟩;have:=e97 (n:=1) (cells:=λx:Int=>[Go.Value.int .i64 x]) (λ_=>rfl) (q:=n) (os:=os) (d:=(b89 l).toArray) hO2 (by simpa using hlen);simpa using this
theorem d9r(l r:List Int)(w:World)(v:Go.Value)(hO:PL.Own 0 3 1 cellsZ w v l)(hF:b8s l=some r):Calls Tryz.prog 107 #[v] w λq w'=>q=.returned (.tuple #[])/\Ext (λb=>v.ownBlock=some b) w w'/\PL.Own 0 3 1 cellsZ w' v r:=by
 unfold b8s at hF;split at hF;case isFalse=>cases hF
 rename_i hl;obtain rfl:=qH hF;exact e6p (λblk off cap ss W hH hblk hsz=>by rw[<-e37];exact AnyM.slices_Sort_int Tryz.sortA blk off cap ss W hH hblk hsz) (λp cap W=>AnyM.slices_Sort_int_none Tryz.sortA p cap W) hO (by omega)
theorem d4b(i mb:Nat)(l:List (Int×Int))(r:List Int)(w:World)(hi:Mb w i 218 [.map (some mb)])(hn:(l.map (·.1)).Nodup)(hm:w.heap[mb]?=some (b92 l))(hr:c8c l=some r):Calls Tryz.prog 116 #[.func (.func 192) #[] #[.pointer (some ⟨i,0,none⟩)]] w λq w'=>∃v,q=.returned v/\Ext noG w w'/\PL.Own w.heap.size 3 1 cellsZ w' v r:=by
 unfold c8c at hr;split at hr;case isFalse=>cases hr
 rename_i hc;obtain rfl:=qH hr;obtain⟨D0,hown,hperm,hsize⟩:=f3i (P:=Tryz.prog) (k:=3) (by kernel_rfl) hn hm hc.1 hc.2;have hcell:w.cell? ⟨i,0,none⟩=some (.map (some mb)):=by have:=hi.ca 0 (.map (some mb)) rfl;simpa[Addr.add]using this
 have hseq:SeqGives Fence.wide 2 Tryz.prog 192 #[.pointer (some ⟨i,0,none⟩)] encZ (λss=>ss.Perm (intKeys D0)) (Maps.size D0) w:=AnyZI.keys_gives (ρ:=Tryz.keysA_ren) {Tryz.keysA with} Fence.wide _ trivial rfl (by omega) i mb _ D0 _ hi.lt hcell hown;have cS:=AnyZI.sorted_in Tryz.sortedA Fence.wide 5 trivial trivial trivial trivial rfl (by omega) (g86 _) (enters_of Tryz.func107 (by kernel_rfl) rfl) 192 #[.pointer (some ⟨i,0,none⟩)] trivial (enters_of Tryz.func192 (by kernel_rfl) rfl) _ _ (by rw[hsize];unfold maxLen;omega) (by rw[hsize];omega) _ hseq;refine(callsIn_wide.1 cS).mono ?_;rintro e w'⟨v,ss,rfl,hS,hrow,_,hb⟩;have hss:ss.mergeSort (λx y=>decide (x<=y))=b89 (l.map (·.1)):=(mergeSort_of_perm_i (hS.trans hperm)).trans (e37 _);rw[hss]at hrow;refine⟨v,rfl,⟨hb.os,hb.tape,hb.output,hb.size,λk hk _=>hb.block k hk⟩,g2s hrow ?_⟩;rw[<-hss];exact List.length_mergeSort _
end Go.PL
namespace Go.PL
open Go Go.SX Go.Proofs
noncomputable section
def g7z:Kn Tryz.prog VV:=⟨107,g9l,show d6v Tryz.prog 107 _ from g65 (U:=VV) (c:=.z9) (cells:=cellsZ) (a14 (fn:=Tryz.f107) (by kernel_rfl) (by kernel_rfl) (by kernel_rfl)) (λG w cs x h=>by obtain⟨_,css,rfl,hh⟩:=a91.1 h;match css,hh with|[a],⟨h1,_⟩=>rw[show a=_ from h1];rfl) (λG w x=>a91.2 ⟨rfl,[[.int .i64 x]],rfl,⟨rfl,trivial⟩⟩) d9r⟩
def K116:Kn Tryz.prog VV:=⟨116,g80,show d6v Tryz.prog 116 _ from g3x (U:=VV) (c:=.z9) (a14 (fn:=Tryz.f116) (by kernel_rfl) (by kernel_rfl) (by kernel_rfl)) rfl (λ_=>rfl) d4b⟩
def K239:Kn Tryz.prog VV:=⟨239,g0l,knS rfl ⟨g72,λ_ _=>by kernel_rfl⟩⟩
def K175:=mk 175 Tryz.f175 ⟨[.ls .ya,.ls .zy],[.v .yc,.v .z8]⟩ (λx=>a9c x.1 x.2.1) w2 u2 .n [K52,h1z,g6r,K239]
def h1l:=mk 108 Tryz.f108 ⟨[.ow 3 .z9],[.ow 3 .z9]⟩ (λx=>a0n x.1) w1 u1 (sk 2 (.s (.s .n (.l [] [] [.ow 0 1 3 .z9,.v 3 .z9] (.s .n (.s (.s .n (.s (.s (.g [1002]) (.s (.s .n (.l [] [] [.ow 0 1 3 .z9,.v 3 .z9,.v 5 .z9,.vw 4 1 .z9] .n)) (.s (.g [1002]) (.s (.g [2002]) .n)))) .n)) .n)))) .n)) []
def K176:=mk 176 Tryz.f176 ⟨[.v .yc],[.ow 3 .z9]⟩ (λx=>a6t x.1) w1 u1 (sk 2 (.s (.s .n (.l [18,19] [] [.bx 1 1 293 .yc,.ow 3 2 3 .z9,.v 20 .z9] .n)) (.s (.s .n (.l [35,36] [] [.bx 1 1 293 .yc,.ow 3 2 3 .z9,.v 37 .z9] (.s .n (.s .n (.s (.s .n (.s .n (.s .n (.l [35,36,37,47,48] [] [.bx 1 1 293 .yc,.ow 3 2 3 .z9,.bx 7 3 74 .zy,.v 49 .z9] .n)))) .n))))) .n))) [g7z,h1l]
def h3p:=mk 240 Tryz.f240 ⟨[.v .y1,.v .z9],[.v .z8]⟩ (λx=>a4l x.1 x.2.1) w1 u1 .n []
def K241:=mk 241 Tryz.f241 ⟨[.v .yc,.v .z9,.v .z9],[.v .z9,.v .z8]⟩ (λx=>a4c x.1 x.2.1 x.2.2.1) w2 u2 (.s .n (.s (.s .n (.l [1,2,11,12] [] [.v 13 .z9] .n)) .n)) [h3p]
def h3j:=mk 312 Tryz.f312 ⟨[.v .yc,.v .z9,.ls .z9],[.ow 68 .ya]⟩ (λx=>a2j x.1 x.2.1 x.2.2.1) w1 u1 (sk 2 (.s (.s .n (.l [1,2,11,12] [] [.ow 7 3 68 .ya,.v 13 .z9] .n)) .n)) [K69,h3p]
def K242:=mk 242 Tryz.f242 ⟨[.v .yc,.v .z9],[.v .z9,.v .z8]⟩ (λx=>a5v x.1 x.2.1) w2 u2 (sk 2 (.s (.s .n (.l [15] [] [.bx 6 2 68 .ya,.v 7 .z8,.ow 14 3 68 .ya,.v 16 .z9] .n)) .n)) [h3j]
def K319:=mk 319 Tryz.f319 ⟨[.v .y1,.rp 3 .z9],[.v .z8]⟩ (λx=>b5c x.1 x.2.1) w1 u1 .n []
def f8y:=mk 368 Tryz.f368 ⟨[.ls .y1,.cl 319 [.z9]],[.v .z9]⟩ (λx=>y4 x.1 x.2.1.1) w1 u1 (.s .n (.s (.s .n (.l [0,1,7] [] [.v 8 .z9] .n)) .n)) [K319]
def f4b:=mk 318 Tryz.f318 ⟨[.ls .y1,.cl 319 [.z9]],[.v .z8]⟩ (λx=>s8 x.1 x.2.1.1) w1 u1 .n [f8y]
def h3t:=mk 249 Tryz.f249 ⟨[.ls .y1,.v .z9],[.v .z8]⟩ (λx=>a8r x.1 x.2.1) w1 u1 .n [f4b]
def K245:=mk 245 Tryz.f245 ⟨[.ls .ya,.v .z9],[.v .z9,.v .z8]⟩ (λx=>a8j x.1 x.2.1) w2 u2 (.s .n (.s (.s (.g [3]) .n) (.s .n (.s (.s .n (.l [1,22,23] [] [.bx 6 2 68 .ya,.v 7 .z8,.v 24 .z9] .n)) .n)))) [K54,g7d,g6r,h3t]
def K313:=mk 313 Tryz.f313 ⟨[.ls .ya],[.ow 3 .z9]⟩ (λx=>b12 x.1) w1 u1 (sk 2 (.s (.s .n (.l [6,7] [] [.ow 3 1 3 .z9,.v 8 .z9] .n)) .n)) [g7z,h1l]
def K243:=mk 243 Tryz.f243 ⟨[.v .yc,.v .z9,.v .z9],[.v .z9,.v .z8]⟩ (λx=>a3v x.1 x.2.1 x.2.2.1) w2 u2 (sk 2 (.s (.s .n (.l [1,2,26] [] [.bx 3 3 293 .yc,.mp 8 4,.v 9 .z9,.ow 25 5 68 .ya,.v 27 .z9] .n)) (.s .n (.s .n (.s .n (.s .n (.s .n (.s .n (.s .n (.s .n (.s .n (.s (.s .n (.l [118] [] [.mp 8 3,.v 18 .z9,.ow 117 4 3 .z9,.v 119 .z9] .n)) .n)))))))))))) [K69,K116,K117,K245,h3j,K313]
def K315:=mk 315 Tryz.f315 ⟨[.v .ya,.v .ya],[.v .z9]⟩ (λx=>a6j x.1 x.2.1) w1 u1 .n [K311]
def f4x:=mk 314 Tryz.f314 ⟨[.ls .ya,.cl 315 []],[.v .ya]⟩ (λx=>m5 x.1) w1 u1 (.s .n (.j [] [.ls 0 .ya,.cl 1 315 [],.bx 4 2 68 .ya] .n (.s .n (.s (.s .n (.l [0,1] [] [.bx 4 2 68 .ya,.bx 5 3 68 .ya,.v 6 .z9] .n)) .n)))) [K315]
def K244:=mk 244 Tryz.f244 ⟨[.v .yc,.v .z9],[.v .z9,.v .z8]⟩ (λx=>a4b x.1 x.2.1) w2 u2 .n [h3j,f4x]
def K177:=mk 177 Tryz.f177 ⟨[.v .yc,.v .z9],[.v .z9,.v .z9]⟩ (λx=>a7m x.1 x.2.1) w2 u2 .n [K30,h3p,K241,K242,K243,K244,K245]
def K103:=mk 103 Tryz.f103 ⟨[.ls .ya,.ls .zy],[.ow 299 .y0]⟩ (λx=>a4h x.1 x.2.1) w1 u1 (sk 5 (.s (.s .n (.l [] [] [.bx 5 2 293 .yc,.ow 7 3 299 .y0,.ow 8 4 3 .z9,.v 9 .z9] .n)) .n)) [K175,K176,K177]
def K168:=mk 168 Tryz.f168 ⟨[.v .z9,.ls .y1,.im 204 .zc [(0,4)],.rp 203 .zz,.po 2 0 281 .zr],[]⟩ (λx=>a1s x.1 x.2.1 x.2.2.1 x.2.2.2.1 x.2.2.2.2.1) (λb=>((),(b.1,(b.2,())))) (λp=>(p.2.1,p.2.2.1)) (.s .n (.l [0,3,8,9] [] [.of 2 0 5 281 .zr,.bm 2 2 204 .zc [(0,5)],.v 10 .z9] (.s .n (.s .n (.s (.s .n (.g [6000,6008])) .n))))) []
def K169:=mk 169 Tryz.f169 ⟨[.ls .y0,.v .z9,.v .z9],[.ow 66 .y1]⟩ (λx=>b1e x.1 x.2.1 x.2.2.1) w1 u1 (sk 2 (.s (.s .n (.l [1,2,10,11] [] [.ow 7 3 66 .y1,.v 12 .z9] .n)) .n)) [f3f]
def K170:=mk 170 Tryz.f170 ⟨[],[.ow 286 .zf]⟩ (λx=>b3o) w1 u1 .n []
def K238:=mk 238 Tryz.f238 ⟨[.v .zj,.rp 3 .z9],[.v .z8]⟩ (λx=>b56 x.1 x.2.1) w1 u1 .n []
def f7d:=mk 235 Tryz.f235 ⟨[.ls .zj,.cl 238 [.z9]],[.v .z9]⟩ (λx=>t7 x.1 x.2.1.1) w1 u1 (.s .n (.s (.s .n (.l [0,1,7] [] [.v 8 .z9] .n)) .n)) [K238]
def K171:=mk 171 Tryz.f171 ⟨[.v .y8,.v .z9],[.v .z9,.v .z8]⟩ (λx=>b43 x.1 x.2.1) w2 u2 .n [f7d]
def K172:=mk 172 Tryz.f172 ⟨[.ls .ya,.v .z9,.v .z9],[.ow 66 .y1]⟩ (λx=>b7p x.1 x.2.1 x.2.2.1) w1 u1 (sk 2 (.s (.s .n (.l [0,1,2,10,11] [] [.ow 7 3 66 .y1,.v 12 .z9] .n)) .n)) [g7d,g25,g6r]
def K174:=mk 174 Tryz.f174 ⟨[.ls .y1,.v .z9],[.ow 66 .y1]⟩ (λx=>b4k x.1 x.2.1) w1 u1 (sk 2 (.s (.s .n (.l [10] [] [.v 1 .z9,.ow 5 2 66 .y1,.ow 9 3 66 .y1,.v 11 .z9] (.s .n (.s .n (.s (.s .n (.s .n (.j [] [.v 1 .z9,.ow 5 2 66 .y1,.bx 7 3 66 .y1,.ow 9 4 66 .y1,.v 10 .z9,.v 11 .z9] .n .n))) .n))))) .n)) [f3f]
def K173:=mk 173 Tryz.f173 ⟨[.ls .ya,.v .z9,.v .y1,.v .z9],[.ow 66 .y1]⟩ (λx=>b1c x.1 x.2.1 x.2.2.1 x.2.2.2.1) w1 u1 (sk 2 (.s (.s .n (.l [0,1,3] [] [.bx 6 4 66 .y1,.ow 9 5 66 .y1,.v 10 .z9] (.s .n (.s (.s .n (.s (.s .n (.l [0,1,3,10,20] [] [.bx 6 4 66 .y1,.ow 9 5 66 .y1,.ow 11 6 66 .y1,.ow 19 7 68 .ya,.v 21 .z9] .n)) .n)) .n)))) .n)) [g25,f3f,K174,h1z,g6r]
def K102:=mk 102 Tryz.f102 ⟨[.ls .ya,.ls .y0,.ls .zz,.v .z9],[.ow 281 .zr,.v .z9]⟩ (λx=>a7e x.1 x.2.1 x.2.2.1 x.2.2.2.1) w2 u2 (sk 2 (.s (.s .n (.l [0,1,2,3,28,29] [] [.v 30 .z9] .n)) (.s (.g [6000]) (.s .n (.s (.s .n (.l [0,1,61,62] [] [.of 12 0 5 281 .zr,.bm 12 4 204 .zc [(0,5)],.bx 13 6 66 .y1,.v 63 .z9] (.s .n (.s .n (.s (.s .n (.s .n (.s .n (.s .n (.l [0,1,61,62,63,77] [] [.of 12 0 5 281 .zr,.bm 12 4 204 .zc [(0,5)],.bx 13 6 66 .y1,.bx 15 7 203 .zz,.ow 76 8 286 .zf,.v 78 .z9,.cr 16 168 [4,7]] .n))))) .n))))) (.s (.g [6000]) .n)))))) [g25,K168,K169,K170,K171,K172,K173,K174]
def K246:=mk 246 Tryz.f246 ⟨[.ls .zr,.v .z9,.v .z9],[.ow 66 .y1]⟩ (λx=>b9z x.1 x.2.1 x.2.2.1) w1 u1 (sk 2 (.s (.s .n (.l [1,2,10,11] [] [.ow 7 3 66 .y1,.v 12 .z9] .n)) .n)) [f3f]
def K178:=mk 178 Tryz.f178 ⟨[.ls .zr],[.bo 305 .z3]⟩ (λx=>b2x x.1) w1 u1 (sk 2 (.s (.s .n (.l [0] [] [.bx 3 1 305 .z3,.v 8 .z9] (.s .n (.s .n (.s (.s .n (.s .n (.l [0,4,8] [] [.bx 3 1 305 .z3,.v 11 .z9] .n))) .n))))) .n)) [K246]
def K247:=mk 247 Tryz.f247 ⟨[.rp 305 .z3,.v .z9],[.v .z9,.ow 3 .z9]⟩ (λx=>a4a x.1 x.2.1) w2 u2 (.s .n (.s (.s .n (.l [0,1] [] [.ow 5 2 3 .z9,.v 6 .z9] (.s .n (.s (.s (.s .n (.l [0,1,6] [] [.ow 5 2 3 .z9,.v 12 .z9] .n)) .n) .n)))) .n)) [h3t]
def K71:=mk 71 Tryz.f71 ⟨[.ls .y1],[.v .z9,.v .z8]⟩ (λx=>b90 x.1) w2 u2 .n [f3f]
def K316:=mk 316 Tryz.f316 ⟨[.rp 305 .z3,.v .z9,.v .z9],[.v .z9]⟩ (λx=>a1b x.1 x.2.1 x.2.2.1) w1 u1 .n [K71,g25]
def K367:=mk 367 Tryz.f367 ⟨[.ls .y1,.v .z9],[.v .z9,.v .z8]⟩ (λx=>c4p x.1 x.2.1) w2 u2 (sk 2 (.s (.s .n (.l [12] [] [.v 1 .z9,.ow 11 2 66 .y1,.v 13 .z9] .n)) .n)) [f3f]
def K317:=mk 317 Tryz.f317 ⟨[.rp 305 .z3,.v .z9,.v .z9],[.v .z9]⟩ (λx=>a2f x.1 x.2.1 x.2.2.1) w1 u1 .n [g25,K367]
def K248:=mk 248 Tryz.f248 ⟨[.rp 305 .z3,.ls .z9,.v .z9],[.v .z9]⟩ (λx=>a69 x.1 x.2.1 x.2.2.1) w1 u1 (sk 2 (.s (.s .n (.l [0,1,2,16,17] [] [.v 7 .z9,.v 18 .z9] .n)) (.s .n (.s (.s .n (.l [0,2,39,40] [] [.v 7 .z9,.v 41 .z9] .n)) .n)))) [K316,K317]
def K180:=mk 180 Tryz.f180 ⟨[.rp 305 .z3,.v .z9],[.v .z9,.v .z9,.v .z8]⟩ (λx=>b17 x.1 x.2.1) (λb=>((b.1,(b.2.1,(b.2.2,()))),())) (λp=>(p.1.1,p.1.2.1,p.1.2.2.1)) .n [K247,K248]
def K179:=mk 179 Tryz.f179 ⟨[.v .z9,.v .z9,.rp 300 .ze,.im 104 .zb [(0,4)],.po 3 0 214 .zi],[]⟩ (λx=>a72 x.1 x.2.1 x.2.2.1 x.2.2.2.1 x.2.2.2.2.1) (λb=>((),(b.1,(b.2,())))) (λp=>(p.2.1,p.2.2.1)) (sk 3 (.s (.s (.g [6000]) (.s (.g [6003,6008]) (.s (.s (.g [6000]) (.g [2003,6000,6004])) .n))) (.g [6000,6004]))) [K180]
def K250:=mk 250 Tryz.f250 ⟨[.ls .z9,.ls .z9],[.v .z8]⟩ (λx=>a88 x.1 x.2.1) w1 u1 (sk 2 (.s (.s .n (.l [0,1,12] [] [.v 13 .z9] .n)) .n)) []
def K181:=mk 181 Tryz.f181 ⟨[.ls .zd],[.ow 312 .zs]⟩ (λx=>b7w x.1) w1 u1 (sk 3 (.s (.s .n (.l [18,19] [] [.ow 3 1 170 .zd,.ow 4 2 3 .z9,.v 20 .z9] (.s .n (.s .n (.s (.s .n (.s .n (.s .n (.l [18,19,20,33,34] [] [.ow 3 1 170 .zd,.ow 4 2 3 .z9,.v 35 .z9] .n)))) .n))))) (.s .n (.s .n (.s .n (.s (.s .n (.l [] [] [.ow 3 1 170 .zd,.ow 4 2 3 .z9,.ow 9 3 312 .zs,.v 10 .z9] (.s .n (.s (.s .n (.s (.s .n (.l [10,71] [(70,1)] [.ow 3 1 170 .zd,.ow 4 2 3 .z9,.ow 9 3 312 .zs,.of 11 1 5 3 .z9,.bm 11 4 312 .zs [(1,5)],.v 72 .z9] .n)) .n)) .n)))) .n)))))) [g7z,h1l,f3f,h3t,K250]
def K104:=mk 104 Tryz.f104 ⟨[.ls .zr],[.ow 214 .zi]⟩ (λx=>a71 x.1) w1 u1 (.s .n (.s (.g [7003]) (.s .n (.s (.s .n (.l [] [] [.bx 3 1 300 .ze,.ow 4 2 170 .zd,.v 12 .z9] .n)) (.s (.g [6000]) (.s .n (.s (.s .n (.l [26] [] [.bx 3 1 300 .ze,.of 6 0 3 214 .zi,.bm 6 2 104 .zb [(0,3)],.ow 25 4 312 .zs,.v 27 .z9,.cr 7 179 [1,2]] .n)) (.s (.g [6000]) .n)))))))) [K178,K179,K181]
def K105:=mk 105 Tryz.f105 ⟨[.v .z9,.rp 3 .z9],[.v .z8]⟩ (λx=>b1l x.1 x.2.1) w1 u1 .n []
def g3c:=mk 59 Tryz.f59 ⟨[.v .yb,.ls .ya,.cl 105 [.z9]],[.ow 214 .zi]⟩ (λx=>a3g x.1 x.2.1 x.2.2.1.1) w1 u1 (sk 2 (.s (.s .n (.l [1,2,16,17] [] [.bx 3 3 82 .yb,.ow 7 4 203 .zz,.v 18 .z9] .n)) .n)) [K58,K102,K103,K104,K105]
def K60:=mk 60 Tryz.f60 ⟨[.v .yb,.ls .ya,.v .z9],[.ow 214 .zi]⟩ (λx=>b3l x.1 x.2.1 x.2.2.1) w1 u1 .n [g3c]
def g77:=mk 59 Tryz.f59 ⟨[.v .yb,.ls .ya,.bn 34 .yb],[.ow 214 .zi]⟩ (λx=>a0s x.1 x.2.1 x.2.2.1) w1 u1 (sk 2 (.s (.s .n (.l [1,2,16,17] [] [.bx 3 3 82 .yb,.ow 7 4 203 .zz,.v 18 .z9] .n)) .n)) [K34,K58,K102,K103,K104]
def K32:=mk 32 Tryz.f32 ⟨[.v .yb,.ls .ya,.v .z9],[.ow 214 .zi]⟩ (λx=>a2z x.1 x.2.1 x.2.2.1) w1 u1 .n [K34,g77,K60]
def K61:=mk 61 Tryz.f61 ⟨[.ls .ya,.v .z9],[.ow 3 .z9]⟩ (λx=>b2v x.1 x.2.1) w1 u1 (sk 2 (.s (.s .n (.l [1,8,9] [] [.ow 5 2 3 .z9,.v 10 .z9] .n)) .n)) [g7d,g7z,h1l]
def K111:=mk 111 Tryz.f111 ⟨[.v .z9],[.v .z9]⟩ (λx=>a3o x.1) w1 u1 .n []
def K112:=mk 112 Tryz.f112 ⟨[.v .z9],[.v .z9]⟩ (λx=>a7i x.1) w1 u1 .n [h3k]
def K64:=mk 64 Tryz.f64 ⟨[.v .z9],[.v .z9,.v .z9,.v .z9,.v .z8]⟩ (λx=>a4d x.1) (λb=>((b.1,(b.2.1,(b.2.2.1,(b.2.2.2,())))),())) (λp=>(p.1.1,p.1.2.1,p.1.2.2.1,p.1.2.2.2.1)) (sk 3 (.s (.l [0] [] [.v 2 .z9] .n) (.s .n (.s .n (.s (.l [2] [] [.v 3 .z9,.v 6 .z9] .n) .n))))) [K54,K111,K112,h2a]
def K186:=mk 186 Tryz.f186 ⟨[.v .z9,.v .z9,.v .z9],[.v .z9,.v .z8]⟩ (λx=>b1r x.1 x.2.1 x.2.2.1) w2 u2 (sk 3 (.s (.s .n (.l [0,1] [] [.v 8 .z9,.v 9 .z9] .n)) .n)) [K111,h2a]
def K110:=mk 110 Tryz.f110 ⟨[.v .z9,.v .z9],[.v .z9,.v .z8]⟩ (λx=>b03 x.1 x.2.1) w2 u2 (sk 4 (.j [] [.v 6 .z9,.v 7 .z9,.v 8 .z9] .n .n)) [K64,h3k,K186]
def K63:=mk 63 Tryz.f63 ⟨[.v .z9,.v .z9],[.v .z9]⟩ (λx=>b7r x.1 x.2.1) w1 u1 .n [K54,K64,K110]
def K187:=mk 187 Tryz.f187 ⟨[.ls .y1,.v .z9],[.v .z9]⟩ (λx=>c0z x.1 x.2.1) w1 u1 (sk 2 (.s (.s .n (.l [1,10] [] [.v 5 .z9,.ow 9 2 66 .y1,.v 11 .z9] .n)) .n)) [f3f]
def h4g:=mk 114 Tryz.f114 ⟨[.ls .y1],[.v .z9]⟩ (λx=>b6h x.1) w1 u1 .n [K187]
def K65:=mk 65 Tryz.f65 ⟨[.ls .zi,.v .z9,.ls .z9],[.v .z9]⟩ (λx=>a8q x.1 x.2.1 x.2.2.1) w1 u1 (sk 2 (.s (.s .n (.l [1,2,10,11] [] [.ow 7 3 66 .y1,.v 12 .z9] .n)) .n)) [K69,h4g]
def K189:=mk 189 Tryz.f189 ⟨[.v .ya,.v .z9],[.v .z9]⟩ (λx=>b63 x.1 x.2.1) w1 u1 .n []
def K72:=mk 72 Tryz.f72 ⟨[.ls .zi,.v .z9,.v .z9],[.ow 66 .y1]⟩ (λx=>b6i x.1 x.2.1 x.2.2.1) w1 u1 (sk 2 (.s (.s .n (.l [1,2,10,11] [] [.ow 7 3 66 .y1,.v 12 .z9] .n)) .n)) [f3f]
def K115:=mk 115 Tryz.f115 ⟨[.ls .ya,.ls .zi,.v .z9],[.ow 220 .ye]⟩ (λx=>b13 x.1 x.2.1 x.2.2.1) w1 u1 (sk 2 (.s (.s .n (.l [0,1,2,14] [] [.ow 7 3 220 .ye,.ow 13 4 68 .ya,.v 15 .z9] .n)) .n)) [K72,g25,h1z,K189,g6r]
def K119:=mk 119 Tryz.f119 ⟨[.v .z9],[.v .y1]⟩ (λx=>b5y x.1) w1 u1 .n [K186]
def K121:=mk 121 Tryz.f121 ⟨[.v .ya,.v .z9],[.v .z9]⟩ (λx=>b6a x.1 x.2.1) w1 u1 .n [K182]
def K194:=mk 194 Tryz.f194 ⟨[.v .z9],[.v .z8]⟩ (λx=>c17 x.1) w1 u1 .n []
def K76:=mk 76 Tryz.f76 ⟨[.v .zx],[.v .z8]⟩ (λx=>a2y x.1) w1 u1 (.s .n (.s (.s .n (.j [] [.bx 1 1 55 .zx,.v 5 .z8] .n .n)) .n)) []
def K78:=mk 78 Tryz.f78 ⟨[.v .z9],[.v .yn]⟩ (λx=>b3x x.1) w1 u1 .n []
def K79:=mk 79 Tryz.f79 ⟨[.v .z8,.v .yn,.v .yn,.v .yn,.v .zx],[.v .z9,.v .z9]⟩ (λx=>a9o x.1 x.2.1 x.2.2.1 x.2.2.2.1 x.2.2.2.2.1) w2 u2 (sk 6 (.j [] [.bx 9 5 55 .zx,.v 12 .yn,.v 14 .yn,.v 15 .z9] .n (.s .n (.j [] [.bx 9 5 55 .zx,.v 15 .z9,.v 16 .z8] .n (.j [] [.bx 9 5 55 .zx,.v 15 .z9] .n .n))))) [h0q]
def K195:=mk 195 Tryz.f195 ⟨[.ls .zu,.v .z9,.v .z9],[.v .zm,.v .z8]⟩ (λx=>b6m x.1 x.2.1 x.2.2.1) w2 u2 (sk 2 (.s (.s .n (.l [0,1,2,11,12] [] [.bx 6 3 51 .zm,.v 8 .z9,.v 13 .z9] .n)) .n)) []
def K77:=mk 77 Tryz.f77 ⟨[.v .yn,.v .yn],[.v .yn,.v .yn]⟩ (λx=>b3s x.1 x.2.1) w2 u2 .n []
def K120:=mk 120 Tryz.f120 ⟨[.v .z9,.v .z9,.v .z9,.v .z9,.ls .zu,.v .zx],[.v .z9,.v .z9]⟩ (λx=>b68 x.1 x.2.1 x.2.2.1 x.2.2.2.1 x.2.2.2.2.1 x.2.2.2.2.2.1) w2 u2 .n [K53,K76,K77,K78,K79,K96,K97,K194,K195]
def K66:=mk 66 Tryz.f66 ⟨[.ls .ya,.ls .zi,.v .z9,.v .z9,.ls .zu],[.ow 230 .zk,.v .z9]⟩ (λx=>b4h x.1 x.2.1 x.2.2.1 x.2.2.2.1 x.2.2.2.2.1) w2 u2 (sk 4 (.s (.s .n (.l [3,4,61] [(60,5)] [.ow 12 5 220 .ye,.mp 13 6,.v 62 .z9] (.s .n (.s .n (.s (.s .n (.s .n (.l [3,4,61,62,67,68] [(60,5)] [.ow 12 5 220 .ye,.mp 13 6,.v 69 .z9] (.s .n (.s .n (.s (.s .n (.s .n (.s .n (.s .n (.l [3,4,22,61,62,67,68,69] [(60,5)] [.ow 12 5 220 .ye,.mp 13 6,.v 26 .z9] .n))))) .n)))))) .n))))) (.s .n (.s (.s .n (.l [3,4,103] [] [.ow 12 5 220 .ye,.mp 13 6,.ow 27 7 230 .zk,.ow 102 8 3 .z9,.v 104 .z9] (.s .n (.s .n (.s (.s .n (.s .n (.s (.s .n (.l [3,4,29,30,103,104,113] [(112,5)] [.ow 12 5 220 .ye,.mp 13 6,.ow 27 7 230 .zk,.ow 102 8 3 .z9,.v 114 .z9] .n)) .n))) .n))))) .n)))) [K53,K64,h4g,K115,K116,K117,g25,K119,K120,K121]
def K196:=mk 196 Tryz.f196 ⟨[.v .y8,.v .z9],[.v .zm]⟩ (λx=>b0w x.1 x.2.1) w1 u1 (sk 2 (.s (.s .n (.l [1,9,10] [] [.bx 2 2 62 .y8,.bx 4 3 51 .zm,.v 5 .z9,.v 11 .z9] .n)) .n)) []
def K197:=mk 197 Tryz.f197 ⟨[.v .zm],[.v .z8]⟩ (λx=>b0x x.1) w1 u1 .n [K75]
def K122:=mk 122 Tryz.f122 ⟨[.v .y8,.v .z9,.v .z9,.v .z9],[.v .z9,.v .z9]⟩ (λx=>b2s x.1 x.2.1 x.2.2.1 x.2.2.2.1) w2 u2 .n [K77,h0q,K196,K197]
def K67:=mk 67 Tryz.f67 ⟨[.ls .zk,.v .y8,.v .z9],[.ow 3 .z9,.v .z9]⟩ (λx=>b14 x.1 x.2.1 x.2.2.1) w2 u2 (sk 2 (.s (.s .n (.l [2,13,14] [] [.bx 4 3 62 .y8,.ow 8 4 3 .z9,.v 15 .z9] .n)) .n)) [K122]
def h3r:=mk 198 Tryz.f198 ⟨[.v .z8,.v .yj,.v .yj],[.v .zm,.v .z9]⟩ (λx=>a70 x.1 x.2.1 x.2.2.1) w2 u2 .n []
def K123:=mk 123 Tryz.f123 ⟨[.v .z9,.v .z9],[.v .zm,.v .z9]⟩ (λx=>b32 x.1 x.2.1) w2 u2 .n [h1r,g6w,h3r]
def K68:=mk 68 Tryz.f68 ⟨[.ls .z9],[.v .zm,.v .z9]⟩ (λx=>b6e x.1) w2 u2 (sk 3 (.s (.s .n (.l [0,11,12] [] [.bx 2 1 51 .zm,.v 4 .z9,.v 13 .z9] .n)) .n)) [K123]
def K33:=mk 33 Tryz.f33 ⟨[.v .yb,.ls .ya,.ls .zi,.v .z9,.v .z8],[.v .y9,.v .z9]⟩ (λx=>a8k x.1 x.2.1 x.2.2.1 x.2.2.2.1 x.2.2.2.2.1) w2 u2 (sk 4 (.j [] [.ls 1 .ya,.ls 2 .zi,.v 3 .z9,.v 4 .z8,.bx 5 5 82 .yb,.of 10 11 7 3 .z9,.bm 10 6 107 .y9 [(11,7)],.bx 12 8 45 .y3,.bx 13 9 62 .y8,.of 15 11 11 3 .z9,.bm 15 10 107 .y9 [(11,11)]] .n (.s .n (.s .n (.j [] [.ls 1 .ya,.ls 2 .zi,.v 3 .z9,.bx 5 5 82 .yb,.of 10 11 7 3 .z9,.bm 10 6 107 .y9 [(11,7)],.bx 12 8 45 .y3,.bx 13 9 62 .y8,.of 15 11 11 3 .z9,.bm 15 10 107 .y9 [(11,11)],.v 18 .z9] .n .n))))) [K31,K61,K62,K63,K64,K65,K66,K67,K68]
def K70:=mk 70 Tryz.f70 ⟨[.ls .zi,.v .z9,.v .z9],[.v .z9]⟩ (λx=>c0y x.1 x.2.1 x.2.2.1) w1 u1 .n [K72,h4g]
def K35:=mk 35 Tryz.f35 ⟨[.ls .zi,.v .z9],[.v .y6]⟩ (λx=>b41 x.1 x.2.1) w1 u1 (sk 3 (.s (.s .n (.l [0,1] [] [.bx 4 2 114 .y6,.bx 5 3 114 .y6,.v 6 .z9,.v 11 .z9] (.s .n (.s .n (.s (.s .n (.s .n (.s .n (.s .n (.j [] [.ls 0 .zi,.v 1 .z9,.bx 4 2 114 .y6,.bx 5 3 114 .y6,.v 6 .z9,.v 7 .z9,.v 11 .z9] .n .n))))) .n))))) .n)) [K70,K71,K72]
def K36:=mk 36 Tryz.f36 ⟨[.v .y6,.v .z9],[.v .z9,.v .z9]⟩ (λx=>b2k x.1 x.2.1) w2 u2 .n []
def K345:=mk 345 Tryz.f345 ⟨[.v .z9],[.v .z8]⟩ (λx=>b0a x.1) w1 u1 .n []
def f5j:=mk 376 Tryz.f376 ⟨[.ls .z9,.cl 345 []],[.v .z9]⟩ (λx=>a29 x.1) w1 u1 (.s .n (.s (.s .n (.l [0,1,7] [] [.v 8 .z9] .n)) .n)) [K345]
def f7g:=mk 344 Tryz.f344 ⟨[.ls .z9,.cl 345 []],[.v .z8]⟩ (λx=>a1n x.1) w1 u1 .n [f5j]
def K275:=mk 275 Tryz.f275 ⟨[.ls .z9],[.v .z8]⟩ (λx=>a9p x.1) w1 u1 .n [f7g]
def K202:=mk 202 Tryz.f202 ⟨[.v .y9],[.v .z8]⟩ (λx=>b0s x.1) w1 u1 (sk 2 (.s (.s .n (.l [53] [] [.bx 1 1 107 .y9,.v 54 .z9] .n)) .n)) [K75,K275]
def K126:=mk 126 Tryz.f126 ⟨[.v .y8,.v .y9],[.v .z9]⟩ (λx=>c5y x.1 x.2.1) w1 u1 .n [K94,K202]
def K128:=mk 128 Tryz.f128 ⟨[.v .zn,.rp 3 .z9],[.v .z8]⟩ (λx=>c1o x.1 x.2.1) w1 u1 .n []
def d91:Sig VV:=⟨[.v .zl,.v .yl],[.v .z8]⟩
def d64(R:Ring_eval_mentions):Fent VV:=⟨d91,Bool,λx=>R.f_eval_mentions x.1 x.2.1,λb=>((b,()),()),none⟩
def g7u:Fent VV:=d64 (d5 FU)
def g26:Ress VV d91.rs×Outs VV d91.ps->Bool:=λp=>p.1.1
def g2i:Ann VV.C:=.n
def d8j:Sig VV:=⟨[.v .zl,.rp 9 .yl],[.v .z8]⟩
def e2w(R:Ring_eval_mentions):Fent VV:=⟨d8j,Bool,λx=>R.f_eval_mentions_1 x.1 x.2.1,λb=>((b,()),()),none⟩
def g0o:Ress VV d8j.rs×Outs VV d8j.ps->Bool:=λp=>p.1.1
def g0p:Ann VV.C:=.n
def b8p:Sig VV:=⟨[.ls .zl,.cl 347 [.yl]],[.v .z8]⟩
def c29(R:Ring_eval_mentions):Fent VV:=⟨b8p,Bool,λx=>R.f_slices_ContainsFunc_of_api_Expr x.1 x.2.1.1,λb=>((b,()),()),none⟩
def d1h:Ress VV b8p.rs×Outs VV b8p.ps->Bool:=λp=>p.1.1
def d1f:Ann VV.C:=.n
def b8m:Sig VV:=⟨[.ls .zl,.cl 347 [.yl]],[.v .z9]⟩
def c1x(R:Ring_eval_mentions):Fent VV:=⟨b8m,Int,λx=>R.f_slices_IndexFunc_of_api_Expr x.1 x.2.1.1,λb=>((b,()),()),none⟩
def d2g:Ress VV b8m.rs×Outs VV b8m.ps->Int:=λp=>p.1.1
def d2j:Ann VV.C:=(.s .n (.s (.s .n (.l [0,1,7] [] [.v 8 .z9] .n)) .n))
def g2e(R:Ring_eval_mentions):Phi VV:=λf ys=>lkF f ys [(346,c29 R)]
theorem g5a(R:Ring_eval_mentions)(hr346:SX.Spec Tryz.prog 346 (c29 R)):OKΦ Tryz.prog (g2e R):=okl ⟨knS rfl ⟨hr346,λ_ _=>by kernel_rfl⟩,trivial⟩
theorem h0x(R:Ring_eval_mentions):∀x,c5v Tryz.prog (g2e R) d91 g26 Tryz.f276 g2i x=b2a R x.1 x.2.1:=λx=>by kernel_rfl
theorem g0c:c67 Tryz.f276 d91=true:=by kernel_rfl
def g28(R:Ring_eval_mentions):Phi VV:=λf ys=>lkF f ys [(276,d64 R)]
theorem g5c(R:Ring_eval_mentions)(hr276:SX.Spec Tryz.prog 276 (d64 R)):OKΦ Tryz.prog (g28 R):=okl ⟨knS rfl ⟨hr276,λ_ _=>by kernel_rfl⟩,trivial⟩
theorem g9y(R:Ring_eval_mentions):∀x,c5v Tryz.prog (g28 R) d8j g0o Tryz.f347 g0p x=b93 R x.1 x.2.1:=λx=>by kernel_rfl
theorem g0v:c67 Tryz.f347 d8j=true:=by kernel_rfl
def d26(R:Ring_eval_mentions):Phi VV:=λf ys=>lkF f ys [(377,c1x R)]
theorem d9d(R:Ring_eval_mentions)(hr377:SX.Spec Tryz.prog 377 (c1x R)):OKΦ Tryz.prog (d26 R):=okl ⟨knS rfl ⟨hr377,λ_ _=>by kernel_rfl⟩,trivial⟩
theorem e52(R:Ring_eval_mentions):∀x,c5v Tryz.prog (d26 R) b8p d1h Tryz.f346 d1f x=a0o R x.1 x.2.1.1:=λx=>by kernel_rfl
theorem d2s:c67 Tryz.f346 b8p=true:=by kernel_rfl
def d1b(R:Ring_eval_mentions):Phi VV:=λf ys=>lkF f ys [(347,e2w R)]
theorem e0o(R:Ring_eval_mentions)(hr347:SX.Spec Tryz.prog 347 (e2w R)):OKΦ Tryz.prog (d1b R):=okl ⟨knS rfl ⟨hr347,λ_ _=>by kernel_rfl⟩,trivial⟩
theorem e5v(R:Ring_eval_mentions):∀x,c5v Tryz.prog (d1b R) b8m d2g Tryz.f377 d2j x=a16 R x.1 x.2.1.1:=λx=>by kernel_rfl
theorem d1j:c67 Tryz.f377 b8m=true:=by kernel_rfl
theorem b4u:∀n,SX.Spec Tryz.prog 276 (d64 (d5 n))/\SX.Spec Tryz.prog 347 (e2w (d5 n))/\SX.Spec Tryz.prog 346 (c29 (d5 n))/\SX.Spec Tryz.prog 377 (c1x (d5 n))|0=>⟨(λ_ _ h=>(by cases(show none=some _ from h))),(λ_ _ h=>(by cases(show none=some _ from h))),(λ_ _ h=>(by cases(show none=some _ from h))),(λ_ _ h=>(by cases(show none=some _ from h)))⟩|n+1=>let⟨h276,h347,h346,h377⟩:=b4u n;⟨a2m (fe:=d64 (d5 (n+1))) uok (g5a (d5 n) h346) mixed (fn:=Tryz.f276) (by kernel_rfl) g26 g2i (d8 g0c).1 (d8 g0c).2 (λ_=>rfl) (h0x (d5 n)),a2m (fe:=e2w (d5 (n+1))) uok (g5c (d5 n) h276) mixed (fn:=Tryz.f347) (by kernel_rfl) g0o g0p (d8 g0v).1 (d8 g0v).2 (λ_=>rfl) (g9y (d5 n)),a2m (fe:=c29 (d5 (n+1))) uok (d9d (d5 n) h377) mixed (fn:=Tryz.f346) (by kernel_rfl) d1h d1f (d8 d2s).1 (d8 d2s).2 (λ_=>rfl) (e52 (d5 n)),a2m (fe:=c1x (d5 (n+1))) uok (e0o (d5 n) h347) mixed (fn:=Tryz.f377) (by kernel_rfl) d2g d2j (d8 d1j).1 (d8 d1j).2 (λ_=>rfl) (e5v (d5 n))⟩
def K276:Kn Tryz.prog VV:=⟨276,g7u,knS rfl ⟨(b4u FU).1,λ_ _=>by kernel_rfl⟩⟩
def K277:=mk 277 Tryz.f277 ⟨[.so 3 .z9],[]⟩ (λx=>a68 x.1) (λb=>((),(b,()))) (λp=>p.2.1) (.s .n (.l [] [] [.ow 0 0 3 .z9,.v 2 .z9,.v 3 .z9] .n)) []
def K203:=mk 203 Tryz.f203 ⟨[.v .zl,.ls .zq],[.ow 3 .z9]⟩ (λx=>c4e x.1 x.2.1) w1 u1 (sk 2 (.s (.s .n (.l [1] [] [.bx 2 2 77 .zl,.ow 5 3 3 .z9,.v 6 .z9] (.s .n (.s (.s .n (.s (.s .n (.l [1,6,25] [(24,3)] [.bx 2 2 77 .zl,.ow 5 3 3 .z9,.v 7 .z8,.v 26 .z9] .n)) .n)) .n)))) .n)) [K276,K277]
def g6z:=mk 278 Tryz.f278 ⟨[.v .z9,.v .zm],[.v .y7]⟩ (λx=>t6 x.1 x.2.1) w1 u1 .n []
def K348:=mk 348 Tryz.f348 ⟨[.v .y9,.v .yl],[.v .y7,.v .z8]⟩ (λx=>c2b x.1 x.2.1) w2 u2 .n [K202,h2w,g6z]
def K279:=mkR 279 Tryz.f279 ⟨[.rp 238 .yf,.v .yl],[.v .y7]⟩ (λx=>a84 x.1 x.2.1) w1 u1 (sk 2 (.s (.s .n (.l [] [] [.bx 3 2 9 .yl,.bx 4 3 96 .y7] (.s .n .n))) .n)) [K348,K349]
def f6q:=mkR 270 Tryz.f270 ⟨[.ow 3 .z9,.vl 379 23 .z9],[.ow 3 .z9]⟩ (λx=>u5 x.1 x.2.1) w1 u1 (.s (.g [6000]) (.s (.s .n (.l [] [] [.of 2 0 3 3 .z9,.bm 2 2 23 .za [(0,3)]] (.s .n (.g [6000,6004])))) (.s (.g [6000]) .n))) []
def f9b:=mk 191 Tryz.f191 ⟨[.vl 379 23 .z9],[.ow 3 .z9]⟩ (λx=>y5 x.1) w1 u1 .n [f6q]
def f3n:=mk 116 Tryz.f116 ⟨[.vl 379 23 .z9],[.ow 3 .z9]⟩ (λx=>o9 x.1) w1 u1 .n [g7z,f9b]
def K280:=mk 280 Tryz.f280 ⟨[.ls .z9,.v .z9],[.v .zm,.v .z9]⟩ (λx=>c4b x.1 x.2.1) w2 u2 (sk 4 (.s (.s .n (.l [1,31,32] [] [.bx 4 2 51 .zm,.v 7 .z9,.v 33 .z9] .n)) .n)) [f3n,K123,K275,K350]
def h1k:=mk 284 Tryz.f284 ⟨[.v .z8],[.v .y7]⟩ (λx=>b8n x.1) w1 u1 .n []
def K351:=mk 351 Tryz.f351 ⟨[.v .zm],[.v .z9,.v .z9]⟩ (λx=>b4e x.1) w2 u2 .n [K75]
def h2v:=mk 352 Tryz.f352 ⟨[.v .zm],[.v .zm,.v .z9]⟩ (λx=>b4p x.1) w2 u2 .n [K75]
def h2j:=mk 380 Tryz.f380 ⟨[.v .yn,.v .yn],[.v .yj]⟩ (λx=>a4g x.1 x.2.1) w1 u1 .n [K77]
def K381:=mk 381 Tryz.f381 ⟨[.v .yj,.v .yj],[.v .z8]⟩ (λx=>a3u x.1 x.2.1) w1 u1 .n []
def K353:=mk 353 Tryz.f353 ⟨[.v .zm,.v .zm],[.v .z9,.v .z9]⟩ (λx=>a8g x.1 x.2.1) w2 u2 (sk 4 (.j [] [.bx 6 2 326 .yj,.bx 7 3 326 .yj] .n .n)) [K75,g6w,h2j,K381]
def K283:=mk 283 Tryz.f283 ⟨[.v .z9,.v .zm,.v .zm],[.v .z8,.v .z9]⟩ (λx=>b7z x.1 x.2.1 x.2.2.1) w2 u2 .n [K353]
def K382:=mk 382 Tryz.f382 ⟨[.v .yj,.v .yj],[.v .yj]⟩ (λx=>a98 x.1 x.2.1) w1 u1 .n [K405]
def K383:=mk 383 Tryz.f383 ⟨[.v .yj,.v .yj],[.v .yj]⟩ (λx=>a4w x.1 x.2.1) w1 u1 .n [K406]
def K384:=mk 384 Tryz.f384 ⟨[.v .yn,.v .yn,.v .yn],[.v .yn]⟩ (λx=>c25 x.1 x.2.1 x.2.2.1) w1 u1 .n [h0q]
def K385:=mk 385 Tryz.f385 ⟨[.v .yj,.v .yn],[.v .yj]⟩ (λx=>a8z x.1 x.2.1) w1 u1 .n [h0q]
def K354:=mk 354 Tryz.f354 ⟨[.v .zm,.v .zm],[.v .zm,.v .z9]⟩ (λx=>b4q x.1 x.2.1) w2 u2 (sk 4 (.j [] [.bx 2 2 51 .zm,.bx 3 3 51 .zm,.bx 4 4 51 .zm,.bx 6 5 326 .yj,.v 8 .z8] .n .n)) [K75,h1r,g6w,h3r,h2j,K381,K382,K383,K384,K385]
def K355:=mk 355 Tryz.f355 ⟨[.v .zm,.v .zm],[.v .zm,.v .z9]⟩ (λx=>b7d x.1 x.2.1) w2 u2 .n [h2v,K354]
def K386:=mk 386 Tryz.f386 ⟨[.v .z8,.v .yn,.v .yn,.v .yn,.v .yn],[.v .zm,.v .z9]⟩ (λx=>a73 x.1 x.2.1 x.2.2.1 x.2.2.2.1 x.2.2.2.2.1) w2 u2 .n [h1r,h3r,h2j]
def K356:=mk 356 Tryz.f356 ⟨[.v .zm,.v .zm],[.v .zm,.v .z9]⟩ (λx=>b7j x.1 x.2.1) w2 u2 .n [K75,g6w,K386]
def K357:=mk 357 Tryz.f357 ⟨[.v .zm,.v .zm],[.v .zm,.v .z9]⟩ (λx=>b7o x.1 x.2.1) w2 u2 .n [K75,g6w,K386]
def K285:=mk 285 Tryz.f285 ⟨[.v .z9,.v .zm,.v .zm],[.v .zm,.v .z9]⟩ (λx=>b2w x.1 x.2.1 x.2.2.1) w2 u2 .n [K353,K354,K355,K356,K357]
def K286:=mk 286 Tryz.f286 ⟨[.v .z9,.v .z9,.v .z9],[.v .z9]⟩ (λx=>b8c x.1 x.2.1 x.2.2.1) w1 u1 .n []
def d7r:Sig VV:=⟨[.rp 238 .yf,.v .zl],[.v .y7,.v .z9]⟩
def c43(R:Ring_eval_evaluator_expr):Fent VV:=⟨d7r,Value×Int,λx=>R.f_eval_evaluator_expr x.1 x.2.1,λb=>((b.1,(b.2,())),()),none⟩
def g8e:Fent VV:=c43 (c4 FU)
def g0j:Ress VV d7r.rs×Outs VV d7r.ps->Value×Int:=λp=>(p.1.1,p.1.2.1)
def g1i:Ann VV.C:=(.s .n (.s (.s .n (.s .n (.s .n (.s .n (.s .n (.s .n (.s .n (.j [] [.rp 0 .yf,.bx 3 2 77 .zl,.bx 4 3 96 .y7,.v 15 .z9,.v 46 .z8] .n (.s .n (.j [] [.rp 0 .yf,.bx 3 2 77 .zl,.bx 4 3 96 .y7,.v 55 .z8] .n .n)))))))))) .n))
def d5r:Sig VV:=⟨[.rp 238 .yf,.v .zl],[.v .y7,.v .z9]⟩
def e3f(R:Ring_eval_evaluator_expr):Fent VV:=⟨d5r,Value×Int,λx=>R.f_eval_evaluator_unary x.1 x.2.1,λb=>((b.1,(b.2,())),()),none⟩
def g2n:Ress VV d5r.rs×Outs VV d5r.ps->Value×Int:=λp=>(p.1.1,p.1.2.1)
def g2k:Ann VV.C:=.n
def d84:Sig VV:=⟨[.rp 238 .yf,.v .zl],[.v .y7,.v .z9]⟩
def e3g(R:Ring_eval_evaluator_expr):Fent VV:=⟨d84,Value×Int,λx=>R.f_eval_evaluator_logic x.1 x.2.1,λb=>((b.1,(b.2,())),()),none⟩
def g29:Ress VV d84.rs×Outs VV d84.ps->Value×Int:=λp=>(p.1.1,p.1.2.1)
def f9q:Ann VV.C:=.n
def f9x(R:Ring_eval_evaluator_expr):Phi VV:=λf ys=>lkF f ys [(204,c43 R),g6z.e,K279.e,K280.e,(281,e3f R),(282,e3g R),K283.e,h1k.e,K285.e,K286.e]
theorem g4y(R:Ring_eval_evaluator_expr)(hr204:SX.Spec Tryz.prog 204 (c43 R))(hr281:SX.Spec Tryz.prog 281 (e3f R))(hr282:SX.Spec Tryz.prog 282 (e3g R)):OKΦ Tryz.prog (f9x R):=okl ⟨knS rfl ⟨hr204,λ_ _=>by kernel_rfl⟩,g6z.ok,K279.ok,K280.ok,knS rfl ⟨hr281,λ_ _=>by kernel_rfl⟩,knS rfl ⟨hr282,λ_ _=>by kernel_rfl⟩,K283.ok,h1k.ok,K285.ok,K286.ok,trivial⟩
theorem g79(R:Ring_eval_evaluator_expr):∀x,c5v Tryz.prog (f9x R) d7r g0j Tryz.f204 g1i x=a5u R x.1 x.2.1:=λx=>by kernel_rfl
theorem g12:c67 Tryz.f204 d7r=true:=by kernel_rfl
def f9w(R:Ring_eval_evaluator_expr):Phi VV:=λf ys=>lkF f ys [(204,c43 R),g6z.e,h1k.e,K351.e,h2v.e]
theorem g3j(R:Ring_eval_evaluator_expr)(hr204:SX.Spec Tryz.prog 204 (c43 R)):OKΦ Tryz.prog (f9w R):=okl ⟨knS rfl ⟨hr204,λ_ _=>by kernel_rfl⟩,g6z.ok,h1k.ok,K351.ok,h2v.ok,trivial⟩
theorem g8s(R:Ring_eval_evaluator_expr):∀x,c5v Tryz.prog (f9w R) d5r g2n Tryz.f281 g2k x=a5i R x.1 x.2.1:=λx=>by kernel_rfl
theorem g2m:c67 Tryz.f281 d5r=true:=by kernel_rfl
def g1k(R:Ring_eval_evaluator_expr):Phi VV:=λf ys=>lkF f ys [(204,c43 R)]
theorem g37(R:Ring_eval_evaluator_expr)(hr204:SX.Spec Tryz.prog 204 (c43 R)):OKΦ Tryz.prog (g1k R):=okl ⟨knS rfl ⟨hr204,λ_ _=>by kernel_rfl⟩,trivial⟩
theorem h0h(R:Ring_eval_evaluator_expr):∀x,c5v Tryz.prog (g1k R) d84 g29 Tryz.f282 f9q x=a5d R x.1 x.2.1:=λx=>by kernel_rfl
theorem f9g:c67 Tryz.f282 d84=true:=by kernel_rfl
theorem a9r:∀n,SX.Spec Tryz.prog 204 (c43 (c4 n))/\SX.Spec Tryz.prog 281 (e3f (c4 n))/\SX.Spec Tryz.prog 282 (e3g (c4 n))|0=>⟨(λ_ _ h=>(by cases(show none=some _ from h))),(λ_ _ h=>(by cases(show none=some _ from h))),(λ_ _ h=>(by cases(show none=some _ from h)))⟩|n+1=>let⟨h204,h281,h282⟩:=a9r n;⟨a2m (fe:=c43 (c4 (n+1))) uok (g4y (c4 n) h204 h281 h282) mixed (fn:=Tryz.f204) (by kernel_rfl) g0j g1i (d8 g12).1 (d8 g12).2 (λ_=>rfl) (g79 (c4 n)),a2m (fe:=e3f (c4 (n+1))) uok (g3j (c4 n) h204) mixed (fn:=Tryz.f281) (by kernel_rfl) g2n g2k (d8 g2m).1 (d8 g2m).2 (λ_=>rfl) (g8s (c4 n)),a2m (fe:=e3g (c4 (n+1))) uok (g37 (c4 n) h204) mixed (fn:=Tryz.f282) (by kernel_rfl) g29 f9q (d8 f9g).1 (d8 f9g).2 (λ_=>rfl) (h0h (c4 n))⟩
def K204:Kn Tryz.prog VV:=⟨204,g8e,knS rfl ⟨(a9r FU).1,λ_ _=>by kernel_rfl⟩⟩
def K129:=mk 129 Tryz.f129 ⟨[.im 238 .yf [(1,5)],.v .zl,.ls .zq,.so 4 .z8,.v .yl,.po 0 1 98 .y4],[.v .z9]⟩ (λx=>a3e x.1 x.2.1 x.2.2.1 x.2.2.2.1 x.2.2.2.2.1 x.2.2.2.2.2.1) (λb=>((b.1,()),(b.2.1,(b.2.2.1,(b.2.2.2,()))))) (λp=>(p.1.1,p.2.1,p.2.2.1,p.2.2.2.1)) (.s .n (.s (.s .n (.l [2,4,20] [] [.of 0 1 6 98 .y4,.bm 0 0 238 .yf [(1,6)],.ow 3 3 4 .z8,.bx 6 7 77 .zl,.ow 19 8 3 .z9,.v 21 .z9] .n)) .n)) [K203,K204]
def K130:=mk 130 Tryz.f130 ⟨[.rp 238 .yf],[.v .y7]⟩ (λx=>a55 x.1) w1 u1 .n []
def f4k:=mk 127 Tryz.f127 ⟨[.ls .zn,.cl 128 [.z9]],[.v .z9]⟩ (λx=>a1y x.1 x.2.1.1) w1 u1 (.s .n (.s (.s .n (.l [0,1,7] [] [.v 8 .z9] .n)) .n)) [K128]
def K73:=mk 73 Tryz.f73 ⟨[.v .y8,.v .z9,.v .y9],[.v .zw,.v .z9]⟩ (λx=>c2a x.1 x.2.1 x.2.2.1) w2 u2 .n [K126,f4k,K129,K130]
def K74:=mk 74 Tryz.f74 ⟨[.v .zm,.v .zx],[.v .z9,.v .z9]⟩ (λx=>b9q x.1 x.2.1) w2 u2 .n [K75,K76,K78,K79]
def K37:=mk 37 Tryz.f37 ⟨[.v .y8,.v .z9,.v .y9],[.v .zw,.v .z9,.v .z9]⟩ (λx=>c1k x.1 x.2.1 x.2.2.1) (λb=>((b.1,(b.2.1,(b.2.2,()))),())) (λp=>(p.1.1,p.1.2.1,p.1.2.2.1)) .n [K73,K74]
def K38:=mk 38 Tryz.f38 ⟨[.v .zm,.v .z9,.v .z9,.v .zx],[.v .z9,.v .z9]⟩ (λx=>b97 x.1 x.2.1 x.2.2.1 x.2.2.2.1) w2 u2 .n [K75,K76,K77,K78,K79]
def K19:=mk 19 Tryz.f19 ⟨[.v .yb,.io 41 .zg,.ls .ya],[.v .z9]⟩ (λx=>a8d x.1 x.2.1 x.2.2.1) (λb=>((b.1,()),(b.2,()))) (λp=>(p.1.1,p.2.1)) (sk 7 (.j [] [.bx 1 1 41 .zg,.ls 2 .ya,.bx 3 3 82 .yb,.bx 8 4 62 .y8,.ls 10 .zi,.bx 11 5 107 .y9] .n (.j [] [.bx 1 1 41 .zg,.ls 2 .ya,.bx 3 3 82 .yb,.bx 8 4 62 .y8,.ls 10 .zi] .n (.j [] [.bx 1 1 41 .zg] .n .n)))) [K31,K32,K33,K34,K35,K36,K37,K38]
def K11:=mk 11 Tryz.f11 ⟨[.v .zp,.ls .ya,.v .z9,.v .z9,.v .z9],[.v .zg]⟩ (λx=>b47 x.1 x.2.1 x.2.2.1 x.2.2.2.1 x.2.2.2.2.1) w1 u1 (sk 3 (.j [] [.v 2 .z9,.v 3 .z9,.v 4 .z9,.of 10 11 6 98 .y4,.bm 10 5 41 .zg [(11,6)],.bx 11 7 41 .zg,.v 13 .z9] .n .n)) [K18,K19]
def K8:=mk 8 Tryz.f8 ⟨[.v .zp,.ls .ya,.v .z9,.v .z9],[.ow 41 .zg]⟩ (λx=>c4q x.1 x.2.1 x.2.2.1 x.2.2.2.1) w1 u1 (sk 2 (.s (.s .n (.l [1,2,3,13,14] [] [.bx 4 4 28 .zp,.ow 9 5 41 .zg,.v 15 .z9] .n)) .n)) [K11]
def K9:=mk 9 Tryz.f9 ⟨[],[.v .z8]⟩ (λx=>b2m) w1 u1 .n [K11]
def K17:=mk 17 Tryz.f17 ⟨[.ls .y4,.ls .y4],[.v .z8]⟩ (λx=>a61 x.1 x.2.1) w1 u1 (sk 2 (.s (.s .n (.l [0,1] [] [.v 5 .z9] .n)) .n)) []
def K10:=mk 10 Tryz.f10 ⟨[.v .zg,.v .zg],[.v .z8]⟩ (λx=>a59 x.1 x.2.1) w1 u1 .n [K17]
def g6y:Sig VV:=⟨[.ls .yg,.ls .z9,.v .z8,.v .z9,.v .z9],[.v .z8]⟩
def fe_3:Fent VV:=⟨g6y,Bool,λx=>a5h x.1 x.2.1 x.2.2.1 x.2.2.2.1 x.2.2.2.2.1,λb=>((b,()),()),none⟩
def un_3:Ress VV g6y.rs×Outs VV g6y.ps->Bool:=λp=>p.1.1
def an_3:Ann VV.C:=(.s .n (.s .n (.s .n (.s .n (.s .n (.s .n (.s (.s .n (.l [4,13] [] [.bx 11 5 28 .zp,.ls 12 .ya,.ow 14 6 41 .zg,.v 15 .z9] .n)) .n)))))))
theorem ok_3:SX.Spec Tryz.prog 3 fe_3:=a2m (fe:=fe_3) uok (okl (f8d [K4,K5,K6,K7,K8,K9,K10,K11])) mixed (fn:=Tryz.f3) (by kernel_rfl) un_3 an_3 (d8 (s:=g6y) (by kernel_rfl)).1 (d8 (s:=g6y) (by kernel_rfl)).2 (λ_=>rfl) λx=>by kernel_rfl
end
end Go.PL
