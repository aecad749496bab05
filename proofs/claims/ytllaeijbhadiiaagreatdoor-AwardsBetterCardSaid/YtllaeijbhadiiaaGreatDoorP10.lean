/- Texts of the proof, joined. -/
import Derived.Test.YtllaeijbhadiiaaGreatDoorP9
import Derived.Shelf.SlIterI.Sorted
import Derived.Shelf.SortM.Plain
import Derived.Shelf.SortM.SortNone
import Derived.Lib.SlKeysI
import Derived.Test.YtllaeijbhadiiaaGreatDoorProg
import Derived.KernelRfl
set_option linter.unusedVariables false
set_option linter.unusedSimpArgs false
set_option maxRecDepth 100000
namespace Go.Proofs
open Go.Shelf
def Tryz.keysA_ren:Go.Shelf.Ren:=⟨λ|7=>130|10=>206|n=>n,λ|23=>232|26=>3|3=>3|28=>237|0=>0|27=>236|33=>122|4=>4|n=>n,λ|n=>n⟩
theorem Tryz.keysA:Go.Proofs.SlLaysZI.n7 Tryz.prog Tryz.keysA_ren:={
 mixed:=by kernel_rfl
 f7:=⟨Tryz.f130.name,by decide,Tryz.func130.trans (congrArg some (by kernel_rfl))⟩
 f10:=⟨Tryz.f206.name,by decide,Tryz.func206.trans (congrArg some (by kernel_rfl))⟩
 t0:=Tryz.underlying0
 a0:=Tryz.isAgg0
 z0:=Tryz.sizeOf0
 v0:=Tryz.zeroValue0
 t4:=Tryz.underlying4
 a4:=Tryz.isAgg4
 z4:=Tryz.sizeOf4
 v4:=Tryz.zeroValue4
 t23:=Tryz.underlying232
 a23:=Tryz.isAgg232
 z23:=Tryz.sizeOf232
 v23:=Tryz.zeroValue232
 t26:=Tryz.underlying3
 a26:=Tryz.isAgg3
 z26:=Tryz.sizeOf3
 v26:=Tryz.zeroValue3
 t27:=Tryz.underlying236
 a27:=Tryz.isAgg236
 z27:=Tryz.sizeOf236
 v27:=Tryz.zeroValue236
 t28:=Tryz.underlying237
 a28:=Tryz.isAgg237
 z28:=Tryz.sizeOf237
 v28:=Tryz.zeroValue237
 t33:=Tryz.underlying122
 a33:=Tryz.isAgg122
 z33:=Tryz.sizeOf122
 v33:=Tryz.zeroValue122}
def Tryz.sortedA_ren:Go.Shelf.Ren:=⟨λ|6=>129|8=>205|9=>120|11=>277|13=>198|12=>197|23=>273|24=>274|14=>264|15=>265|16=>266|17=>267|18=>268|19=>269|20=>270|21=>271|22=>272|25=>320|26=>321|27=>322|28=>323|29=>324|30=>325|31=>368|n=>n,λ|26=>3|28=>237|24=>23|0=>0|3=>3|37=>207|48=>379|50=>183|4=>4|40=>373|39=>372|45=>161|5=>5|9=>9|51=>418|55=>422|57=>451|58=>128|33=>122|n=>n,λ|n=>n⟩
theorem Tryz.sortedA:Go.Proofs.SlLaysZI.n6 Tryz.prog Tryz.sortedA_ren:={
 mixed:=by kernel_rfl
 f6:=⟨Tryz.f129.name,by decide,Tryz.func129.trans (congrArg some (by kernel_rfl))⟩
 f8:=⟨Tryz.f205.name,by decide,Tryz.func205.trans (congrArg some (by kernel_rfl))⟩
 f11:=⟨Tryz.f277.name,by decide,Tryz.func277.trans (congrArg some (by kernel_rfl))⟩
 t0:=Tryz.underlying0
 a0:=Tryz.isAgg0
 z0:=Tryz.sizeOf0
 v0:=Tryz.zeroValue0
 t24:=Tryz.underlying23
 a24:=Tryz.isAgg23
 z24:=Tryz.sizeOf23
 v24:=Tryz.zeroValue23
 t26:=Tryz.underlying3
 a26:=Tryz.isAgg3
 z26:=Tryz.sizeOf3
 v26:=Tryz.zeroValue3
 t28:=Tryz.underlying237
 a28:=Tryz.isAgg237
 z28:=Tryz.sizeOf237
 v28:=Tryz.zeroValue237
 i26:=by kernel_rfl}
def Tryz.sortA_ren:Go.Shelf.Ren:=⟨λ|5=>120|8=>198|7=>197|19=>273|20=>274|10=>264|11=>265|12=>266|13=>267|14=>268|15=>269|16=>270|17=>271|18=>272|30=>320|31=>321|32=>322|33=>323|34=>324|35=>325|40=>368|n=>n,λ|23=>23|25=>3|3=>3|32=>207|22=>23|0=>0|44=>379|46=>183|4=>4|36=>373|35=>372|41=>161|5=>5|9=>9|53=>418|57=>422|63=>451|64=>128|n=>n,λ|n=>n⟩
theorem Tryz.sortA:Go.Proofs.SlLaysM.n5 Tryz.prog Tryz.sortA_ren:={
 mixed:=by kernel_rfl
 f5:=⟨Tryz.f120.name,by decide,Tryz.func120.trans (congrArg some (by kernel_rfl))⟩
 f7:=⟨Tryz.f197.name,by decide,Tryz.func197.trans (congrArg some (by kernel_rfl))⟩
 f8:=Tryz.func198.trans (congrArg some (by kernel_rfl))
 f10:=⟨Tryz.f264.name,by decide,Tryz.func264.trans (congrArg some (by kernel_rfl))⟩
 f11:=⟨Tryz.f265.name,by decide,Tryz.func265.trans (congrArg some (by kernel_rfl))⟩
 f12:=⟨Tryz.f266.name,by decide,Tryz.func266.trans (congrArg some (by kernel_rfl))⟩
 f13:=⟨Tryz.f267.name,by decide,Tryz.func267.trans (congrArg some (by kernel_rfl))⟩
 f14:=⟨Tryz.f268.name,by decide,Tryz.func268.trans (congrArg some (by kernel_rfl))⟩
 f15:=⟨Tryz.f269.name,by decide,Tryz.func269.trans (congrArg some (by kernel_rfl))⟩
 f16:=⟨Tryz.f270.name,by decide,Tryz.func270.trans (congrArg some (by kernel_rfl))⟩
 f17:=⟨Tryz.f271.name,by decide,Tryz.func271.trans (congrArg some (by kernel_rfl))⟩
 f18:=⟨Tryz.f272.name,by decide,Tryz.func272.trans (congrArg some (by kernel_rfl))⟩
 f19:=Tryz.func273.trans (congrArg some (by kernel_rfl))
 f20:=Tryz.func274.trans (congrArg some (by kernel_rfl))
 f30:=⟨Tryz.f320.name,by decide,Tryz.func320.trans (congrArg some (by kernel_rfl))⟩
 f31:=Tryz.func321.trans (congrArg some (by kernel_rfl))
 f32:=Tryz.func322.trans (congrArg some (by kernel_rfl))
 f33:=⟨Tryz.f323.name,by decide,Tryz.func323.trans (congrArg some (by kernel_rfl))⟩
 f34:=⟨Tryz.f324.name,by decide,Tryz.func324.trans (congrArg some (by kernel_rfl))⟩
 f35:=⟨Tryz.f325.name,by decide,Tryz.func325.trans (congrArg some (by kernel_rfl))⟩
 f40:=⟨Tryz.f368.name,by decide,Tryz.func368.trans (congrArg some (by kernel_rfl))⟩
 t0:=Tryz.underlying0
 a0:=Tryz.isAgg0
 z0:=Tryz.sizeOf0
 v0:=Tryz.zeroValue0
 t3:=Tryz.underlying3
 a3:=Tryz.isAgg3
 z3:=Tryz.sizeOf3
 v3:=Tryz.zeroValue3
 t4:=Tryz.underlying4
 a4:=Tryz.isAgg4
 z4:=Tryz.sizeOf4
 v4:=Tryz.zeroValue4
 t5:=Tryz.underlying5
 a5:=Tryz.isAgg5
 z5:=Tryz.sizeOf5
 v5:=Tryz.zeroValue5
 t9:=Tryz.underlying9
 a9:=Tryz.isAgg9
 z9:=Tryz.sizeOf9
 v9:=Tryz.zeroValue9
 t22:=Tryz.underlying23
 a22:=Tryz.isAgg23
 z22:=Tryz.sizeOf23
 v22:=Tryz.zeroValue23
 t23:=Tryz.underlying23
 a23:=Tryz.isAgg23
 z23:=Tryz.sizeOf23
 v23:=Tryz.zeroValue23
 t25:=Tryz.underlying3
 a25:=Tryz.isAgg3
 z25:=Tryz.sizeOf3
 v25:=Tryz.zeroValue3
 t32:=Tryz.underlying207
 a32:=Tryz.isAgg207
 z32:=Tryz.sizeOf207
 v32:=Tryz.zeroValue207
 t35:=Tryz.underlying372
 a35:=Tryz.isAgg372
 z35:=Tryz.sizeOf372
 v35:=Tryz.zeroValue372
 t36:=Tryz.underlying373
 a36:=Tryz.isAgg373
 z36:=Tryz.sizeOf373
 v36:=Tryz.zeroValue373
 t41:=Tryz.underlying161
 a41:=Tryz.isAgg161
 z41:=Tryz.sizeOf161
 v41:=Tryz.zeroValue161
 t44:=Tryz.underlying379
 a44:=Tryz.isAgg379
 z44:=Tryz.sizeOf379
 v44:=Tryz.zeroValue379
 t46:=Tryz.underlying183
 a46:=Tryz.isAgg183
 z46:=Tryz.sizeOf183
 v46:=Tryz.zeroValue183
 t53:=Tryz.underlying418
 a53:=Tryz.isAgg418
 z53:=Tryz.sizeOf418
 v53:=Tryz.zeroValue418
 t57:=Tryz.underlying422
 a57:=Tryz.isAgg422
 z57:=Tryz.sizeOf422
 v57:=Tryz.zeroValue422
 t63:=Tryz.underlying451
 a63:=Tryz.isAgg451
 z63:=Tryz.sizeOf451
 v63:=Tryz.zeroValue451
 t64:=Tryz.underlying128
 a64:=Tryz.isAgg128
 z64:=Tryz.sizeOf128
 v64:=Tryz.zeroValue128}
end Go.Proofs
namespace Go.PL
open Go Go.SX Go.Proofs Go.RowKit Go.Maps Go.Sort Go.WideElems Go.WideShapes
theorem f3i{P:Program}{k:TypeId}(hk:P.underlying k=some (.int .i64)){w:World}{mb:Nat}{l:List (Int×Int)}(hn:(l.map (·.1)).Nodup)(hm:w.heap[mb]?=some (b92 l))(hw:(l.all λq=>c4v q.1)=true)(hl:l.length<=1000000):∃D0:DataW Unit,w.ownsMap P k (λ_=>some (.nil,[])) mb l.length D0/\(intKeys D0).Perm (l.map (·.1))/\Maps.size D0=l.length:=by
 have hlen:(l.zipIdx.map λq=>({key:=.int .i64 q.1.1,val:=.int .i64 q.1.2,born:=q.2}:MapEntry)).length=l.length:=by simp
 have hrd:∀q∈l.zipIdx,WideElems.rd P k (λ_=>some ((.nil:DataW Unit),[])) ({key:=.int .i64 q.1.1,val:=.int .i64 q.1.2,born:=q.2}:MapEntry)=some (.int .i64 q.1.1,.nil):=by
  intro q hq;have hm:q.1∈l:=by obtain⟨j,hj⟩:=List.mem_iff_getElem?.1 hq;rw[List.getElem?_zipIdx]at hj;cases hL:l[j]?with|none=>rw[hL]at hj;cases hj|some p=>rw[hL]at hj;obtain rfl:=qH hj;exact qE hL
  have h1:=List.all_eq_true.1 hw q.1 hm;have h2:(Lit.int .i64 q.1.1).wf=true:=by unfold c4v at h1;simp only[qB,decide_eq_true_eq]at h1;simp[Lit.wf,IntKind.min,IntKind.max,IntKind.signed,IntKind.bits];omega
  simp[WideElems.rd,keyOf,hk,mapKey,h2]
 have hborn:(l.zipIdx.map λq=>q.2)=List.range l.length:=by rw[List.range_eq_range'];exact List.zipIdx_map_snd 0 l
 have hkeys:(l.zipIdx.map λq=>q.1.1)=l.map (·.1):=by
  have:(l.zipIdx.map (·.1)).map (·.1)=l.map (·.1):=by rw[List.zipIdx_map_fst]
  rw[<-this,List.map_map];rfl
 refine⟨_,⟨_,_,hm,⟨?_,?_,?_⟩,by simp,rfl⟩,?_,?_⟩;.simp[maxLen];omega
 .rw[MapKept.stamped_iff];refine⟨λx hx=>?_,?_,?_⟩;.obtain⟨q,hq,rfl⟩:=List.mem_map.1 hx;have:q.2∈l.zipIdx.map λq=>q.2:=List.mem_map.2 ⟨q,hq,rfl⟩;rw[hborn]at this;exact List.mem_range.1 this
  .show((l.zipIdx.map λq=>({key:=.int .i64 q.1.1,val:=.int .i64 q.1.2,born:=q.2}:MapEntry)).map (·.born)).Nodup;rw[List.map_map];exact(show(l.zipIdx.map λq=>q.2).Nodup by rw[hborn];exact List.nodup_range)
  .show(l.zipIdx.map λq=>({key:=.int .i64 q.1.1,val:=.int .i64 q.1.2,born:=q.2}:MapEntry)).Pairwise λx y=>x.key≠y.key;rw[List.pairwise_map];have h1:(l.zipIdx.map λq=>q.1.1).Nodup:=by rw[hkeys];exact hn
   exact(List.pairwise_map.1 h1).imp λh e=>h (by simpa using e)
 .intro x hx;obtain⟨q,hq,rfl⟩:=List.mem_map.1 hx;exact⟨_,hrd q hq⟩
 .show(((((l.zipIdx.map λq=>({key:=.int .i64 q.1.1,val:=.int .i64 q.1.2,born:=q.2}:MapEntry))).map (WideElems.rg P k λ_=>some ((.nil:DataW Unit),[]))).foldr DataW.insert []).map λp=>intOf p.1).Perm _;refine((sorted_perm _).map _).trans ?_;rw[List.map_map,List.map_map,<-hkeys];refine List.Perm.of_eq (List.map_congr_left λq hq=>?_);simp[WideElems.rg,hrd q hq,intOf]
 .show(((l.zipIdx.map λq=>({key:=.int .i64 q.1.1,val:=.int .i64 q.1.2,born:=q.2}:MapEntry)).map (WideElems.rg P k λ_=>some ((.nil:DataW Unit),[]))).foldr DataW.insert []).length=l.length;rw[length_sorted];simp
theorem g2s{B:Nat}{e:TypeId}{w:World}{v:Go.Value}{n:Nat}{l:List Int}(h:w.ownsRow B e 1 v n (l.map encZ))(hn:l.length=n):PL.Own B e 1 cellsZ w v l:=by
 subst hn;have hf:∀l:List Int,l.flatMap cellsZ=l.map encZ:=λl=>by induction l with|nil=>rfl|cons x l ih=>exact congrArg (encZ x::.) ih
 rcases h.2with⟨h1,h2⟩|⟨g,cap,cur,h1,h2,h3,h4,h5,h6,h7⟩;.exact .inl ⟨h1,List.length_eq_zero_iff.1 h2⟩
 .exact .inr ⟨g,0,cap,cur,h1,h2,h3,h4,h5,by omega,by rw[List.drop_zero,h7,hf]⟩
theorem g86(m:Nat):AnyZI.SortsIn Tryz.prog Tryz.sortedA_ren Fence.wide m:=⟨λblk off cap ss W hH hblk hsz=>callsIn_wide.2 (AnyM.slices_Sort_int Tryz.sortA blk off cap ss W hH hblk hsz),λp cap W=>callsIn_wide.2 (AnyM.slices_Sort_int_none Tryz.sortA p cap W)⟩
theorem e6p{P:Program}{f:FuncId}{e:TypeId}(h1:∀(blk off cap:Nat)(zs:List Int)(w:World),Holds (Go.Value.int .i64) w blk off zs.toArray->blk<w.heap.size->zs.length<4611686018427387904->Calls P f #[.slice (some ⟨blk,off,none⟩) zs.length cap] w λe w'=>e=.returned (.tuple #[])/\∃n os,w'=grow (putRow (Go.Value.int .i64) (Sort.ahead w n) blk off (b89 zs).toArray) os)(h0:∀(p:Option Addr)(cap:Nat)(w:World),Calls P f #[.slice p 0 cap] w λe w'=>e=.returned (.tuple #[])/\w'=w){l:List Int}{w:World}{v:Go.Value}(hO:PL.Own 0 e 1 (λx:Int=>[Go.Value.int .i64 x]) w v l)(hl:l.length<4611686018427387904):Calls P f #[v] w λq w'=>q=.returned (.tuple #[])/\Ext (λb=>v.ownBlock=some b) w w'/\PL.Own 0 e 1 (λx:Int=>[Go.Value.int .i64 x]) w' v (b89 l):=by
 have hlen:(b89 l).length=l.length:=(a8p l).length_eq;by_cases hz:l.length=0;.obtain⟨a,cap,hv,_⟩:=hO.shape;obtain rfl:=List.length_eq_zero_iff.1 hz;rw[show v=.slice a 0 cap from hv];rw[show v=.slice a 0 cap from hv]at hO;refine(h0 a cap w).mono ?_;rintro q w'⟨rfl,rfl⟩;exact⟨rfl,Ext.refl _ _,by exact hO⟩
 .have hO2:=hO;rcases hO with⟨_,h⟩|⟨g,o,cap,cur,rfl,h2,h3,h4,h5,h6,h7⟩;.exact absurd (by rw[h];rfl) hz
  .have hlt:g<w.heap.size:=(qN.1 h3).1;refine(h1 g o cap l w (e8y (d6l (n:=1) (λ_=>rfl) hO2)) hlt hl).mono ?_;rintro q w'⟨rfl,n,os,rfl⟩;rw[e5t];refine⟨rfl,e7r rfl,?_⟩;have:=e97 (n:=1) (cells:=λx:Int=>[Go.Value.int .i64 x]) (λ_=>rfl) (q:=n) (os:=os) (d:=(b89 l).toArray) hO2 (by simpa using hlen);simpa using this
theorem d9r(l r:List Int)(w:World)(v:Go.Value)(hO:PL.Own 0 3 1 cellsZ w v l)(hF:b8s l=some r):Calls Tryz.prog 120 #[v] w λq w'=>q=.returned (.tuple #[])/\Ext (λb=>v.ownBlock=some b) w w'/\PL.Own 0 3 1 cellsZ w' v r:=by
 unfold b8s at hF;split at hF;case isFalse=>cases hF
 rename_i hl;obtain rfl:=qH hF;exact e6p (λblk off cap ss W hH hblk hsz=>by rw[<-e37];exact AnyM.slices_Sort_int Tryz.sortA blk off cap ss W hH hblk hsz) (λp cap W=>AnyM.slices_Sort_int_none Tryz.sortA p cap W) hO (by omega)
theorem d4b(i mb:Nat)(l:List (Int×Int))(r:List Int)(w:World)(hi:Mb w i 232 [.map (some mb)])(hn:(l.map (·.1)).Nodup)(hm:w.heap[mb]?=some (b92 l))(hr:c8c l=some r):Calls Tryz.prog 129 #[.func (.func 206) #[] #[.pointer (some ⟨i,0,none⟩)]] w λq w'=>∃v,q=.returned v/\Ext noG w w'/\PL.Own w.heap.size 3 1 cellsZ w' v r:=by
 unfold c8c at hr;split at hr;case isFalse=>cases hr
 rename_i hc;obtain rfl:=qH hr;obtain⟨D0,hown,hperm,hsize⟩:=f3i (P:=Tryz.prog) (k:=3) (by kernel_rfl) hn hm hc.1 hc.2;have hcell:w.cell? ⟨i,0,none⟩=some (.map (some mb)):=by have:=hi.ca 0 (.map (some mb)) rfl;simpa[Addr.add]using this
 have hseq:SeqGives Fence.wide 2 Tryz.prog 206 #[.pointer (some ⟨i,0,none⟩)] encZ (λss=>ss.Perm (intKeys D0)) (Maps.size D0) w:=AnyZI.keys_gives (ρ:=Tryz.keysA_ren) {Tryz.keysA with} Fence.wide _ trivial rfl (by omega) i mb _ D0 _ hi.lt hcell hown;have cS:=AnyZI.sorted_in Tryz.sortedA Fence.wide 5 trivial trivial trivial trivial rfl (by omega) (g86 _) (enters_of Tryz.func120 (by kernel_rfl) rfl) 206 #[.pointer (some ⟨i,0,none⟩)] trivial (enters_of Tryz.func206 (by kernel_rfl) rfl) _ _ (by rw[hsize];unfold maxLen;omega) (by rw[hsize];omega) _ hseq;refine(callsIn_wide.1 cS).mono ?_;rintro e w'⟨v,ss,rfl,hS,hrow,_,hb⟩;have hss:ss.mergeSort (λx y=>decide (x<=y))=b89 (l.map (·.1)):=(mergeSort_of_perm_i (hS.trans hperm)).trans (e37 _);rw[hss]at hrow;refine⟨v,rfl,⟨hb.os,hb.tape,hb.output,hb.size,λk hk _=>hb.block k hk⟩,g2s hrow ?_⟩;rw[<-hss];exact List.length_mergeSort _
end Go.PL
namespace Go.PL
open Go Go.SX Go.Proofs
noncomputable section
def K120:Kn Tryz.prog VV:=⟨120,fe_120,show d6v Tryz.prog 120 _ from g65 (U:=VV) (c:=.z9) (cells:=cellsZ) (a14 (fn:=Tryz.f120) (by kernel_rfl) (by kernel_rfl) (by kernel_rfl)) (λG w cs x h=>by obtain⟨_,css,rfl,hh⟩:=a91.1 h;match css,hh with|[a],⟨h1,_⟩=>rw[show a=_ from h1];rfl) (λG w x=>a91.2 ⟨rfl,[[.int .i64 x]],rfl,⟨rfl,trivial⟩⟩) d9r⟩
def K129:Kn Tryz.prog VV:=⟨129,fe_129,show d6v Tryz.prog 129 _ from g3x (U:=VV) (c:=.z9) (a14 (fn:=Tryz.f129) (by kernel_rfl) (by kernel_rfl) (by kernel_rfl)) rfl (λ_=>rfl) d4b⟩
def K246:Kn Tryz.prog VV:=⟨246,fe_246,knS rfl ⟨ok_246,λ_ _=>by kernel_rfl⟩⟩
def K189:=mk 189 Tryz.f189 ⟨[.ls .ya,.ls .zy],[.v .yc,.v .z8]⟩ (cur2 a9c) w2 u2 .n [K63,K202,K204,K246]
def K121:=mk 121 Tryz.f121 ⟨[.ow 3 .z9],[.ow 3 .z9]⟩ (cur1 a0n) w1 u1 (sk 2 (.s (.s .n (.l [] [] [.ow 0 1 3 .z9,.v 3 .z9] (.s .n (.s (.s .n (.s (.s (.g [1002]) (.s (.s .n (.l [] [] [.ow 0 1 3 .z9,.v 3 .z9,.v 5 .z9,.vw 4 1 .z9] .n)) (.s (.g [1002]) (.s (.g [2002]) .n)))) .n)) .n)))) .n)) []
def g6r:=mk 190 Tryz.f190 ⟨[.v .yc],[.ow 3 .z9]⟩ (cur1 a6t) w1 u1 (sk 2 (.s (.s .n (.l [18,19] [] [.bx 1 1 299 .yc,.ow 3 2 3 .z9,.v 20 .z9] .n)) (.s (.s .n (.l [35,36] [] [.bx 1 1 299 .yc,.ow 3 2 3 .z9,.v 37 .z9] (.s .n (.s .n (.s (.s .n (.s .n (.s .n (.l [35,36,37,47,48] [] [.bx 1 1 299 .yc,.ow 3 2 3 .z9,.bx 7 3 73 .zy,.v 49 .z9] .n)))) .n))))) .n))) [K120,K121]
def K247:=mk 247 Tryz.f247 ⟨[.v .y1,.v .z9],[.v .z8]⟩ (cur2 a4l) w1 u1 .n []
def K248:=mk 248 Tryz.f248 ⟨[.v .yc,.v .z9,.v .z9],[.v .z9,.v .z8]⟩ (cur3 a4c) w2 u2 (.s .n (.s (.s .n (.l [1,2,11,12] [] [.v 13 .z9] .n)) .n)) [K247]
def K311:=mk 311 Tryz.f311 ⟨[.v .yc,.v .z9,.ls .z9],[.ow 66 .ya]⟩ (cur3 a2j) w1 u1 (sk 2 (.s (.s .n (.l [1,2,11,12] [] [.ow 7 3 66 .ya,.v 13 .z9] .n)) .n)) [K80,K247]
def h3t:=mk 249 Tryz.f249 ⟨[.v .yc,.v .z9],[.v .z9,.v .z8]⟩ (cur2 a5v) w2 u2 (sk 2 (.s (.s .n (.l [15] [] [.bx 6 2 66 .ya,.v 7 .z8,.ow 14 3 66 .ya,.v 16 .z9] .n)) .n)) [K311]
def K318:=mk 318 Tryz.f318 ⟨[.v .y1,.rp 3 .z9],[.v .z8]⟩ (cur2 b5c) w1 u1 .n []
def K366_318:=mk 366 Tryz.f366 ⟨[.ls .y1,.cl 318 [.z9]],[.v .z9]⟩ (λx=>y4 x.1 x.2.1.1) w1 u1 (.s .n (.s (.s .n (.l [0,1,7] [] [.v 8 .z9] .n)) .n)) [K318]
def K317_318:=mk 317 Tryz.f317 ⟨[.ls .y1,.cl 318 [.z9]],[.v .z8]⟩ (λx=>s8 x.1 x.2.1.1) w1 u1 .n [K366_318]
def K256:=mk 256 Tryz.f256 ⟨[.ls .y1,.v .z9],[.v .z8]⟩ (cur2 a8r) w1 u1 .n [K317_318]
def K252:=mk 252 Tryz.f252 ⟨[.ls .ya,.v .z9],[.v .z9,.v .z8]⟩ (cur2 a8j) w2 u2 (.s .n (.s (.s (.g [3]) .n) (.s .n (.s (.s .n (.l [1,22,23] [] [.bx 6 2 66 .ya,.v 7 .z8,.v 24 .z9] .n)) .n)))) [K65,K119,K204,K256]
def h3j:=mk 312 Tryz.f312 ⟨[.ls .ya],[.ow 3 .z9]⟩ (cur1 b12) w1 u1 (sk 2 (.s (.s .n (.l [6,7] [] [.ow 3 1 3 .z9,.v 8 .z9] .n)) .n)) [K120,K121]
def K250:=mk 250 Tryz.f250 ⟨[.v .yc,.v .z9,.v .z9],[.v .z9,.v .z8]⟩ (cur3 a3v) w2 u2 (sk 2 (.s (.s .n (.l [1,2,26] [] [.bx 3 3 299 .yc,.mp 8 4,.v 9 .z9,.ow 25 5 66 .ya,.v 27 .z9] .n)) (.s .n (.s .n (.s .n (.s .n (.s .n (.s .n (.s .n (.s .n (.s .n (.s (.s .n (.l [118] [] [.mp 8 3,.v 18 .z9,.ow 117 4 3 .z9,.v 119 .z9] .n)) .n)))))))))))) [K80,K129,K130,K252,K311,h3j]
def K314:=mk 314 Tryz.f314 ⟨[.v .ya,.v .ya],[.v .z9]⟩ (cur2 a6j) w1 u1 .n [K310]
def K313_314:=mk 313 Tryz.f313 ⟨[.ls .ya,.cl 314 []],[.v .ya]⟩ (λx=>m5 x.1) w1 u1 (.s .n (.j [] [.ls 0 .ya,.cl 1 314 [],.bx 4 2 66 .ya] .n (.s .n (.s (.s .n (.l [0,1] [] [.bx 4 2 66 .ya,.bx 5 3 66 .ya,.v 6 .z9] .n)) .n)))) [K314]
def K251:=mk 251 Tryz.f251 ⟨[.v .yc,.v .z9],[.v .z9,.v .z8]⟩ (cur2 a4b) w2 u2 .n [K311,K313_314]
def K191:=mk 191 Tryz.f191 ⟨[.v .yc,.v .z9],[.v .z9,.v .z9]⟩ (cur2 a7m) w2 u2 .n [K40,K247,K248,h3t,K250,K251,K252]
def K116:=mk 116 Tryz.f116 ⟨[.ls .ya,.ls .zy],[.ow 305 .y0]⟩ (cur2 a4h) w1 u1 (sk 5 (.s (.s .n (.l [] [] [.bx 5 2 299 .yc,.ow 7 3 305 .y0,.ow 8 4 3 .z9,.v 9 .z9] .n)) .n)) [K189,g6r,K191]
def K182:=mk 182 Tryz.f182 ⟨[.v .z9,.ls .y1,.im 218 .zc [(0,4)],.rp 217 .zz,.po 2 0 287 .zr],[]⟩ (cur5 a1s) (λb=>((),(b.1,(b.2,())))) (λp=>(p.2.1,p.2.2.1)) (.s .n (.l [0,3,8,9] [] [.of 2 0 5 287 .zr,.bm 2 2 218 .zc [(0,5)],.v 10 .z9] (.s .n (.s .n (.s (.s .n (.g [6000,6008])) .n))))) []
def K183:=mk 183 Tryz.f183 ⟨[.ls .y0,.v .z9,.v .z9],[.ow 64 .y1]⟩ (cur3 b1e) w1 u1 (sk 2 (.s (.s .n (.l [1,2,10,11] [] [.ow 7 3 64 .y1,.v 12 .z9] .n)) .n)) [K138]
def K184:=mk 184 Tryz.f184 ⟨[],[.ow 292 .zf]⟩ (λx=>b3o) w1 u1 .n []
def K245:=mk 245 Tryz.f245 ⟨[.v .zj,.rp 3 .z9],[.v .z8]⟩ (cur2 b56) w1 u1 .n []
def K242_245:=mk 242 Tryz.f242 ⟨[.ls .zj,.cl 245 [.z9]],[.v .z9]⟩ (λx=>t7 x.1 x.2.1.1) w1 u1 (.s .n (.s (.s .n (.l [0,1,7] [] [.v 8 .z9] .n)) .n)) [K245]
def h3k:=mk 185 Tryz.f185 ⟨[.v .y8,.v .z9],[.v .z9,.v .z8]⟩ (cur2 b43) w2 u2 .n [K242_245]
def K186:=mk 186 Tryz.f186 ⟨[.ls .ya,.v .z9,.v .z9],[.ow 64 .y1]⟩ (cur3 b7p) w1 u1 (sk 2 (.s (.s .n (.l [0,1,2,10,11] [] [.ow 7 3 64 .y1,.v 12 .z9] .n)) .n)) [K119,h1r,K204]
def h1z:=mk 188 Tryz.f188 ⟨[.ls .y1,.v .z9],[.ow 64 .y1]⟩ (cur2 b4k) w1 u1 (sk 2 (.s (.s .n (.l [10] [] [.v 1 .z9,.ow 5 2 64 .y1,.ow 9 3 64 .y1,.v 11 .z9] (.s .n (.s .n (.s (.s .n (.s .n (.j [] [.v 1 .z9,.ow 5 2 64 .y1,.bx 7 3 64 .y1,.ow 9 4 64 .y1,.v 10 .z9,.v 11 .z9] .n .n))) .n))))) .n)) [K138]
def K187:=mk 187 Tryz.f187 ⟨[.ls .ya,.v .z9,.v .y1,.v .z9],[.ow 64 .y1]⟩ (cur4 b1c) w1 u1 (sk 2 (.s (.s .n (.l [0,1,3] [] [.bx 6 4 64 .y1,.ow 9 5 64 .y1,.v 10 .z9] (.s .n (.s (.s .n (.s (.s .n (.l [0,1,3,10,20] [] [.bx 6 4 64 .y1,.ow 9 5 64 .y1,.ow 11 6 64 .y1,.ow 19 7 66 .ya,.v 21 .z9] .n)) .n)) .n)))) .n)) [h1r,K138,h1z,K202,K204]
def K115:=mk 115 Tryz.f115 ⟨[.ls .ya,.ls .y0,.ls .zz,.v .z9],[.ow 287 .zr,.v .z9]⟩ (cur4 a7e) w2 u2 (sk 2 (.s (.s .n (.l [0,1,2,3,28,29] [] [.v 30 .z9] .n)) (.s (.g [6000]) (.s .n (.s (.s .n (.l [0,1,61,62] [] [.of 12 0 5 287 .zr,.bm 12 4 218 .zc [(0,5)],.bx 13 6 64 .y1,.v 63 .z9] (.s .n (.s .n (.s (.s .n (.s .n (.s .n (.s .n (.l [0,1,61,62,63,77] [] [.of 12 0 5 287 .zr,.bm 12 4 218 .zc [(0,5)],.bx 13 6 64 .y1,.bx 15 7 217 .zz,.ow 76 8 292 .zf,.v 78 .z9,.cr 16 182 [4,7]] .n))))) .n))))) (.s (.g [6000]) .n)))))) [h1r,K182,K183,K184,h3k,K186,K187,h1z]
def K253:=mk 253 Tryz.f253 ⟨[.ls .zr,.v .z9,.v .z9],[.ow 64 .y1]⟩ (cur3 b9z) w1 u1 (sk 2 (.s (.s .n (.l [1,2,10,11] [] [.ow 7 3 64 .y1,.v 12 .z9] .n)) .n)) [K138]
def K192:=mk 192 Tryz.f192 ⟨[.ls .zr],[.bo 311 .z3]⟩ (cur1 b2x) w1 u1 (sk 2 (.s (.s .n (.l [0] [] [.bx 3 1 311 .z3,.v 8 .z9] (.s .n (.s .n (.s (.s .n (.s .n (.l [0,4,8] [] [.bx 3 1 311 .z3,.v 11 .z9] .n))) .n))))) .n)) [K253]
def K254:=mk 254 Tryz.f254 ⟨[.rp 311 .z3,.v .z9],[.v .z9,.ow 3 .z9]⟩ (cur2 a4a) w2 u2 (.s .n (.s (.s .n (.l [0,1] [] [.ow 5 2 3 .z9,.v 6 .z9] (.s .n (.s (.s (.s .n (.l [0,1,6] [] [.ow 5 2 3 .z9,.v 12 .z9] .n)) .n) .n)))) .n)) [K256]
def K82:=mk 82 Tryz.f82 ⟨[.ls .y1],[.v .z9,.v .z8]⟩ (cur1 b90) w2 u2 .n [K138]
def K315:=mk 315 Tryz.f315 ⟨[.rp 311 .z3,.v .z9,.v .z9],[.v .z9]⟩ (cur3 a1b) w1 u1 .n [K82,h1r]
def K365:=mk 365 Tryz.f365 ⟨[.ls .y1,.v .z9],[.v .z9,.v .z8]⟩ (cur2 c4p) w2 u2 (sk 2 (.s (.s .n (.l [12] [] [.v 1 .z9,.ow 11 2 64 .y1,.v 13 .z9] .n)) .n)) [K138]
def K316:=mk 316 Tryz.f316 ⟨[.rp 311 .z3,.v .z9,.v .z9],[.v .z9]⟩ (cur3 a2f) w1 u1 .n [h1r,K365]
def K255:=mk 255 Tryz.f255 ⟨[.rp 311 .z3,.ls .z9,.v .z9],[.v .z9]⟩ (cur3 a69) w1 u1 (sk 2 (.s (.s .n (.l [0,1,2,16,17] [] [.v 7 .z9,.v 18 .z9] .n)) (.s .n (.s (.s .n (.l [0,2,39,40] [] [.v 7 .z9,.v 41 .z9] .n)) .n)))) [K315,K316]
def K194:=mk 194 Tryz.f194 ⟨[.rp 311 .z3,.v .z9],[.v .z9,.v .z9,.v .z8]⟩ (cur2 b17) w3 u3 .n [K254,K255]
def K193:=mk 193 Tryz.f193 ⟨[.v .z9,.v .z9,.rp 306 .ze,.im 116 .zb [(0,4)],.po 3 0 228 .zi],[]⟩ (cur5 a72) (λb=>((),(b.1,(b.2,())))) (λp=>(p.2.1,p.2.2.1)) (sk 3 (.s (.s (.g [6000]) (.s (.g [6003,6008]) (.s (.s (.g [6000]) (.g [2003,6000,6004])) .n))) (.g [6000,6004]))) [K194]
def K257:=mk 257 Tryz.f257 ⟨[.ls .z9,.ls .z9],[.v .z8]⟩ (cur2 a88) w1 u1 (sk 2 (.s (.s .n (.l [0,1,12] [] [.v 13 .z9] .n)) .n)) []
def K195:=mk 195 Tryz.f195 ⟨[.ls .zd],[.ow 318 .zs]⟩ (cur1 b7w) w1 u1 (sk 3 (.s (.s .n (.l [18,19] [] [.ow 3 1 176 .zd,.ow 4 2 3 .z9,.v 20 .z9] (.s .n (.s .n (.s (.s .n (.s .n (.s .n (.l [18,19,20,33,34] [] [.ow 3 1 176 .zd,.ow 4 2 3 .z9,.v 35 .z9] .n)))) .n))))) (.s .n (.s .n (.s .n (.s (.s .n (.l [] [] [.ow 3 1 176 .zd,.ow 4 2 3 .z9,.ow 9 3 318 .zs,.v 10 .z9] (.s .n (.s (.s .n (.s (.s .n (.l [10,71] [(70,1)] [.ow 3 1 176 .zd,.ow 4 2 3 .z9,.ow 9 3 318 .zs,.of 11 1 5 3 .z9,.bm 11 4 318 .zs [(1,5)],.v 72 .z9] .n)) .n)) .n)))) .n)))))) [K120,K121,K138,K256,K257]
def K117:=mk 117 Tryz.f117 ⟨[.ls .zr],[.ow 228 .zi]⟩ (cur1 a71) w1 u1 (.s .n (.s (.g [7003]) (.s .n (.s (.s .n (.l [] [] [.bx 3 1 306 .ze,.ow 4 2 176 .zd,.v 12 .z9] .n)) (.s (.g [6000]) (.s .n (.s (.s .n (.l [26] [] [.bx 3 1 306 .ze,.of 6 0 3 228 .zi,.bm 6 2 116 .zb [(0,3)],.ow 25 4 318 .zs,.v 27 .z9,.cr 7 193 [1,2]] .n)) (.s (.g [6000]) .n)))))))) [K192,K193,K195]
def g25:=mk 118 Tryz.f118 ⟨[.v .z9,.rp 3 .z9],[.v .z8]⟩ (cur2 b1l) w1 u1 .n []
def K70_118:=mk 70 Tryz.f70 ⟨[.v .yb,.ls .ya,.cl 118 [.z9]],[.ow 228 .zi]⟩ (λx=>a3g x.1 x.2.1 x.2.2.1.1) w1 u1 (sk 2 (.s (.s .n (.l [1,2,16,17] [] [.bx 3 3 88 .yb,.ow 7 4 217 .zz,.v 18 .z9] .n)) .n)) [K69,K115,K116,K117,g25]
def K71:=mk 71 Tryz.f71 ⟨[.v .yb,.ls .ya,.v .z9],[.ow 228 .zi]⟩ (cur3 b3l) w1 u1 .n [K70_118]
def K70_44:=mk 70 Tryz.f70 ⟨[.v .yb,.ls .ya,.bn 44 .yb],[.ow 228 .zi]⟩ (cur3 a0s) w1 u1 (sk 2 (.s (.s .n (.l [1,2,16,17] [] [.bx 3 3 88 .yb,.ow 7 4 217 .zz,.v 18 .z9] .n)) .n)) [K44,K69,K115,K116,K117]
def K42:=mk 42 Tryz.f42 ⟨[.v .yb,.ls .ya,.v .z9],[.ow 228 .zi]⟩ (cur3 a2z) w1 u1 .n [K44,K70_44,K71]
def K72:=mk 72 Tryz.f72 ⟨[.ls .ya,.v .z9],[.ow 3 .z9]⟩ (cur2 b2v) w1 u1 (sk 2 (.s (.s .n (.l [1,8,9] [] [.ow 5 2 3 .z9,.v 10 .z9] .n)) .n)) [K119,K120,K121]
def K124:=mk 124 Tryz.f124 ⟨[.v .z9],[.v .z9]⟩ (cur1 a3o) w1 u1 .n []
def f3f:=mk 125 Tryz.f125 ⟨[.v .z9],[.v .z9]⟩ (cur1 a7i) w1 u1 .n [K199]
def K75:=mk 75 Tryz.f75 ⟨[.v .z9],[.v .z9,.v .z9,.v .z9,.v .z8]⟩ (cur1 a4d) (λb=>((b.1,(b.2.1,(b.2.2.1,(b.2.2.2,())))),())) (λp=>(p.1.1,p.1.2.1,p.1.2.2.1,p.1.2.2.2.1)) (sk 3 (.s (.l [0] [] [.v 2 .z9] .n) (.s .n (.s .n (.s (.l [2] [] [.v 3 .z9,.v 6 .z9] .n) .n))))) [K65,K124,f3f,K126]
def K200:=mk 200 Tryz.f200 ⟨[.v .z9,.v .z9,.v .z9],[.v .z9,.v .z8]⟩ (cur3 b1r) w2 u2 (sk 3 (.s (.s .n (.l [0,1] [] [.v 8 .z9,.v 9 .z9] .n)) .n)) [K124,K126]
def K123:=mk 123 Tryz.f123 ⟨[.v .z9,.v .z9],[.v .z9,.v .z8]⟩ (cur2 b03) w2 u2 (sk 4 (.j [] [.v 6 .z9,.v 7 .z9,.v 8 .z9] .n .n)) [K75,K199,K200]
def K74:=mk 74 Tryz.f74 ⟨[.v .z9,.v .z9],[.v .z9]⟩ (cur2 b7r) w1 u1 .n [K65,K75,K123]
def K201:=mk 201 Tryz.f201 ⟨[.ls .y1,.v .z9],[.v .z9]⟩ (cur2 c0z) w1 u1 (sk 2 (.s (.s .n (.l [1,10] [] [.v 5 .z9,.ow 9 2 64 .y1,.v 11 .z9] .n)) .n)) [K138]
def K127:=mk 127 Tryz.f127 ⟨[.ls .y1],[.v .z9]⟩ (cur1 b6h) w1 u1 .n [K201]
def K76:=mk 76 Tryz.f76 ⟨[.ls .zi,.v .z9,.ls .z9],[.v .z9]⟩ (cur3 a8q) w1 u1 (sk 2 (.s (.s .n (.l [1,2,10,11] [] [.ow 7 3 64 .y1,.v 12 .z9] .n)) .n)) [K80,K127]
def K203:=mk 203 Tryz.f203 ⟨[.v .ya,.v .z9],[.v .z9]⟩ (cur2 b63) w1 u1 .n []
def K83:=mk 83 Tryz.f83 ⟨[.ls .zi,.v .z9,.v .z9],[.ow 64 .y1]⟩ (cur3 b6i) w1 u1 (sk 2 (.s (.s .n (.l [1,2,10,11] [] [.ow 7 3 64 .y1,.v 12 .z9] .n)) .n)) [K138]
def K128:=mk 128 Tryz.f128 ⟨[.ls .ya,.ls .zi,.v .z9],[.ow 234 .ye]⟩ (cur3 b13) w1 u1 (sk 2 (.s (.s .n (.l [0,1,2,14] [] [.ow 7 3 234 .ye,.ow 13 4 66 .ya,.v 15 .z9] .n)) .n)) [K83,h1r,K202,K203,K204]
def g6w:=mk 132 Tryz.f132 ⟨[.v .z9],[.v .y1]⟩ (cur1 b5y) w1 u1 .n [K200]
def K134:=mk 134 Tryz.f134 ⟨[.v .ya,.v .z9],[.v .z9]⟩ (cur2 b6a) w1 u1 .n [K196]
def K208:=mk 208 Tryz.f208 ⟨[.v .z9],[.v .z8]⟩ (cur1 c17) w1 u1 .n []
def K87:=mk 87 Tryz.f87 ⟨[.v .zx],[.v .z8]⟩ (cur1 a2y) w1 u1 (.s .n (.s (.s .n (.j [] [.bx 1 1 53 .zx,.v 5 .z8] .n .n)) .n)) []
def K89:=mk 89 Tryz.f89 ⟨[.v .z9],[.v .yn]⟩ (cur1 b3x) w1 u1 .n []
def K90:=mk 90 Tryz.f90 ⟨[.v .z8,.v .yn,.v .yn,.v .yn,.v .zx],[.v .z9,.v .z9]⟩ (cur5 a9o) w2 u2 (sk 6 (.j [] [.bx 9 5 53 .zx,.v 12 .yn,.v 14 .yn,.v 15 .z9] .n (.s .n (.j [] [.bx 9 5 53 .zx,.v 15 .z9,.v 16 .z8] .n (.j [] [.bx 9 5 53 .zx,.v 15 .z9] .n .n))))) [K146]
def h1y:=mk 209 Tryz.f209 ⟨[.ls .zu,.v .z9,.v .z9],[.v .zm,.v .z8]⟩ (cur3 b6m) w2 u2 (sk 2 (.s (.s .n (.l [0,1,2,11,12] [] [.bx 6 3 49 .zm,.v 8 .z9,.v 13 .z9] .n)) .n)) []
def K88:=mk 88 Tryz.f88 ⟨[.v .yn,.v .yn],[.v .yn,.v .yn]⟩ (cur2 b3s) w2 u2 .n []
def h0q:=mk 133 Tryz.f133 ⟨[.v .z9,.v .z9,.v .z9,.v .z9,.ls .zu,.v .zx],[.v .z9,.v .z9]⟩ (cur6 b68) w2 u2 .n [K64,K87,K88,K89,K90,K109,K110,K208,h1y]
def K77:=mk 77 Tryz.f77 ⟨[.ls .ya,.ls .zi,.v .z9,.v .z9,.ls .zu],[.ow 244 .zk,.v .z9]⟩ (cur5 b4h) w2 u2 (sk 4 (.s (.s .n (.l [3,4,61] [(60,5)] [.ow 12 5 234 .ye,.mp 13 6,.v 62 .z9] (.s .n (.s .n (.s (.s .n (.s .n (.l [3,4,61,62,67,68] [(60,5)] [.ow 12 5 234 .ye,.mp 13 6,.v 69 .z9] (.s .n (.s .n (.s (.s .n (.s .n (.s .n (.s .n (.l [3,4,22,61,62,67,68,69] [(60,5)] [.ow 12 5 234 .ye,.mp 13 6,.v 26 .z9] .n))))) .n)))))) .n))))) (.s .n (.s (.s .n (.l [3,4,103] [] [.ow 12 5 234 .ye,.mp 13 6,.ow 27 7 244 .zk,.ow 102 8 3 .z9,.v 104 .z9] (.s .n (.s .n (.s (.s .n (.s .n (.s (.s .n (.l [3,4,29,30,103,104,113] [(112,5)] [.ow 12 5 234 .ye,.mp 13 6,.ow 27 7 244 .zk,.ow 102 8 3 .z9,.v 114 .z9] .n)) .n))) .n))))) .n)))) [K64,K75,K127,K128,K129,K130,h1r,g6w,h0q,K134]
def K210:=mk 210 Tryz.f210 ⟨[.v .y8,.v .z9],[.v .zm]⟩ (cur2 b0w) w1 u1 (sk 2 (.s (.s .n (.l [1,9,10] [] [.bx 2 2 60 .y8,.bx 4 3 49 .zm,.v 5 .z9,.v 11 .z9] .n)) .n)) []
def K211:=mk 211 Tryz.f211 ⟨[.v .zm],[.v .z8]⟩ (cur1 b0x) w1 u1 .n [K86]
def K135:=mk 135 Tryz.f135 ⟨[.v .y8,.v .z9,.v .z9,.v .z9],[.v .z9,.v .z9]⟩ (cur4 b2s) w2 u2 .n [K88,K146,K210,K211]
def K78:=mk 78 Tryz.f78 ⟨[.ls .zk,.v .y8,.v .z9],[.ow 3 .z9,.v .z9]⟩ (cur3 b14) w2 u2 (sk 2 (.s (.s .n (.l [2,13,14] [] [.bx 4 3 60 .y8,.ow 8 4 3 .z9,.v 15 .z9] .n)) .n)) [K135]
def h31:=mk 212 Tryz.f212 ⟨[.v .z8,.v .yj,.v .yj],[.v .zm,.v .z9]⟩ (cur3 a70) w2 u2 .n []
def K136:=mk 136 Tryz.f136 ⟨[.v .z9,.v .z9],[.v .zm,.v .z9]⟩ (cur2 b32) w2 u2 .n [K144,K145,h31]
def K79:=mk 79 Tryz.f79 ⟨[.ls .z9],[.v .zm,.v .z9]⟩ (cur1 b6e) w2 u2 (sk 3 (.s (.s .n (.l [0,11,12] [] [.bx 2 1 49 .zm,.v 4 .z9,.v 13 .z9] .n)) .n)) [K136]
def K43:=mk 43 Tryz.f43 ⟨[.v .yb,.ls .ya,.ls .zi,.v .z9,.v .z8],[.v .y9,.v .z9]⟩ (cur5 a8k) w2 u2 (sk 4 (.j [] [.ls 1 .ya,.ls 2 .zi,.v 3 .z9,.v 4 .z8,.bx 5 5 88 .yb,.of 10 11 7 3 .z9,.bm 10 6 119 .y9 [(11,7)],.bx 12 8 45 .y3,.bx 13 9 60 .y8,.of 15 11 11 3 .z9,.bm 15 10 119 .y9 [(11,11)]] .n (.s .n (.s .n (.j [] [.ls 1 .ya,.ls 2 .zi,.v 3 .z9,.bx 5 5 88 .yb,.of 10 11 7 3 .z9,.bm 10 6 119 .y9 [(11,7)],.bx 12 8 45 .y3,.bx 13 9 60 .y8,.of 15 11 11 3 .z9,.bm 15 10 119 .y9 [(11,11)],.v 18 .z9] .n .n))))) [K41,K72,K73,K74,K75,K76,K77,K78,K79]
def K81:=mk 81 Tryz.f81 ⟨[.ls .zi,.v .z9,.v .z9],[.v .z9]⟩ (cur3 c0y) w1 u1 .n [K83,K127]
def K45:=mk 45 Tryz.f45 ⟨[.ls .zi,.v .z9],[.v .y6]⟩ (cur2 b41) w1 u1 (sk 3 (.s (.s .n (.l [0,1] [] [.bx 4 2 126 .y6,.bx 5 3 126 .y6,.v 6 .z9,.v 11 .z9] (.s .n (.s .n (.s (.s .n (.s .n (.s .n (.s .n (.j [] [.ls 0 .zi,.v 1 .z9,.bx 4 2 126 .y6,.bx 5 3 126 .y6,.v 6 .z9,.v 7 .z9,.v 11 .z9] .n .n))))) .n))))) .n)) [K81,K82,K83]
def K46:=mk 46 Tryz.f46 ⟨[.v .y6,.v .z9],[.v .z9,.v .z9]⟩ (cur2 b2k) w2 u2 .n []
def K344:=mk 344 Tryz.f344 ⟨[.v .z9],[.v .z8]⟩ (cur1 b0a) w1 u1 .n []
def K374_344:=mk 374 Tryz.f374 ⟨[.ls .z9,.cl 344 []],[.v .z9]⟩ (λx=>a29 x.1) w1 u1 (.s .n (.s (.s .n (.l [0,1,7] [] [.v 8 .z9] .n)) .n)) [K344]
def K343_344:=mk 343 Tryz.f343 ⟨[.ls .z9,.cl 344 []],[.v .z8]⟩ (λx=>a1n x.1) w1 u1 .n [K374_344]
def K282:=mk 282 Tryz.f282 ⟨[.ls .z9],[.v .z8]⟩ (cur1 a9p) w1 u1 .n [K343_344]
def K216:=mk 216 Tryz.f216 ⟨[.v .y9],[.v .z8]⟩ (cur1 b0s) w1 u1 (sk 2 (.s (.s .n (.l [53] [] [.bx 1 1 119 .y9,.v 54 .z9] .n)) .n)) [K86,K282]
def K139:=mk 139 Tryz.f139 ⟨[.v .y8,.v .y9],[.v .z9]⟩ (cur2 c5y) w1 u1 .n [g7z,K216]
def K141:=mk 141 Tryz.f141 ⟨[.v .zn,.rp 3 .z9],[.v .z8]⟩ (cur2 c1o) w1 u1 .n []
def sg_283:Sig VV:=⟨[.v .zl,.v .yl],[.v .z8]⟩
def fr_283(R:Ring_eval_mentions):Fent VV:=⟨sg_283,Bool,λx=>R.f_eval_mentions x.1 x.2.1,λb=>((b,()),()),none⟩
def fe_283:Fent VV:=fr_283 (d5 FU)
def un_283:Ress VV sg_283.rs×Outs VV sg_283.ps->Bool:=λp=>p.1.1
def an_283:Ann VV.C:=.n
def sg_346:Sig VV:=⟨[.v .zl,.rp 9 .yl],[.v .z8]⟩
def fr_346(R:Ring_eval_mentions):Fent VV:=⟨sg_346,Bool,λx=>R.f_eval_mentions_1 x.1 x.2.1,λb=>((b,()),()),none⟩
def un_346:Ress VV sg_346.rs×Outs VV sg_346.ps->Bool:=λp=>p.1.1
def an_346:Ann VV.C:=.n
def sg_345_346:Sig VV:=⟨[.ls .zl,.cl 346 [.yl]],[.v .z8]⟩
def fr_345_346(R:Ring_eval_mentions):Fent VV:=⟨sg_345_346,Bool,λx=>R.f_slices_ContainsFunc_of_api_Expr x.1 x.2.1.1,λb=>((b,()),()),none⟩
def un_345_346:Ress VV sg_345_346.rs×Outs VV sg_345_346.ps->Bool:=λp=>p.1.1
def an_345_346:Ann VV.C:=.n
def sg_375_346:Sig VV:=⟨[.ls .zl,.cl 346 [.yl]],[.v .z9]⟩
def fr_375_346(R:Ring_eval_mentions):Fent VV:=⟨sg_375_346,Int,λx=>R.f_slices_IndexFunc_of_api_Expr x.1 x.2.1.1,λb=>((b,()),()),none⟩
def un_375_346:Ress VV sg_375_346.rs×Outs VV sg_375_346.ps->Int:=λp=>p.1.1
def an_375_346:Ann VV.C:=(.s .n (.s (.s .n (.l [0,1,7] [] [.v 8 .z9] .n)) .n))
def ph_283(R:Ring_eval_mentions):Phi VV:=λf ys=>lkF f ys [(345,fr_345_346 R)]
theorem okp_283(R:Ring_eval_mentions)(hr345:SX.Spec Tryz.prog 345 (fr_345_346 R)):OKΦ Tryz.prog (ph_283 R):=okl ⟨knS rfl ⟨hr345,λ_ _=>by kernel_rfl⟩,trivial⟩
theorem eq_283(R:Ring_eval_mentions):∀x,c5v Tryz.prog (ph_283 R) sg_283 un_283 Tryz.f283 an_283 x=b2a R x.1 x.2.1:=λx=>by kernel_rfl
theorem ck_283:c67 Tryz.f283 sg_283=true:=by kernel_rfl
def ph_346(R:Ring_eval_mentions):Phi VV:=λf ys=>lkF f ys [(283,fr_283 R)]
theorem okp_346(R:Ring_eval_mentions)(hr283:SX.Spec Tryz.prog 283 (fr_283 R)):OKΦ Tryz.prog (ph_346 R):=okl ⟨knS rfl ⟨hr283,λ_ _=>by kernel_rfl⟩,trivial⟩
theorem eq_346(R:Ring_eval_mentions):∀x,c5v Tryz.prog (ph_346 R) sg_346 un_346 Tryz.f346 an_346 x=b93 R x.1 x.2.1:=λx=>by kernel_rfl
theorem ck_346:c67 Tryz.f346 sg_346=true:=by kernel_rfl
def ph_345_346(R:Ring_eval_mentions):Phi VV:=λf ys=>lkF f ys [(375,fr_375_346 R)]
theorem okp_345_346(R:Ring_eval_mentions)(hr375:SX.Spec Tryz.prog 375 (fr_375_346 R)):OKΦ Tryz.prog (ph_345_346 R):=okl ⟨knS rfl ⟨hr375,λ_ _=>by kernel_rfl⟩,trivial⟩
theorem eq_345_346(R:Ring_eval_mentions):∀x,c5v Tryz.prog (ph_345_346 R) sg_345_346 un_345_346 Tryz.f345 an_345_346 x=a0o R x.1 x.2.1.1:=λx=>by kernel_rfl
theorem ck_345_346:c67 Tryz.f345 sg_345_346=true:=by kernel_rfl
def ph_375_346(R:Ring_eval_mentions):Phi VV:=λf ys=>lkF f ys [(346,fr_346 R)]
theorem okp_375_346(R:Ring_eval_mentions)(hr346:SX.Spec Tryz.prog 346 (fr_346 R)):OKΦ Tryz.prog (ph_375_346 R):=okl ⟨knS rfl ⟨hr346,λ_ _=>by kernel_rfl⟩,trivial⟩
theorem eq_375_346(R:Ring_eval_mentions):∀x,c5v Tryz.prog (ph_375_346 R) sg_375_346 un_375_346 Tryz.f375 an_375_346 x=a16 R x.1 x.2.1.1:=λx=>by kernel_rfl
theorem ck_375_346:c67 Tryz.f375 sg_375_346=true:=by kernel_rfl
theorem b4u:∀n,SX.Spec Tryz.prog 283 (fr_283 (d5 n))/\SX.Spec Tryz.prog 346 (fr_346 (d5 n))/\SX.Spec Tryz.prog 345 (fr_345_346 (d5 n))/\SX.Spec Tryz.prog 375 (fr_375_346 (d5 n))|0=>⟨(λ_ _ h=>(by cases(show none=some _ from h))),(λ_ _ h=>(by cases(show none=some _ from h))),(λ_ _ h=>(by cases(show none=some _ from h))),(λ_ _ h=>(by cases(show none=some _ from h)))⟩|n+1=>let⟨h283,h346,h345,h375⟩:=b4u n;⟨a2m (fe:=fr_283 (d5 (n+1))) uok (okp_283 (d5 n) h345) mixed (fn:=Tryz.f283) (by kernel_rfl) un_283 an_283 (d8 ck_283).1 (d8 ck_283).2 (λ_=>rfl) (eq_283 (d5 n)),a2m (fe:=fr_346 (d5 (n+1))) uok (okp_346 (d5 n) h283) mixed (fn:=Tryz.f346) (by kernel_rfl) un_346 an_346 (d8 ck_346).1 (d8 ck_346).2 (λ_=>rfl) (eq_346 (d5 n)),a2m (fe:=fr_345_346 (d5 (n+1))) uok (okp_345_346 (d5 n) h375) mixed (fn:=Tryz.f345) (by kernel_rfl) un_345_346 an_345_346 (d8 ck_345_346).1 (d8 ck_345_346).2 (λ_=>rfl) (eq_345_346 (d5 n)),a2m (fe:=fr_375_346 (d5 (n+1))) uok (okp_375_346 (d5 n) h346) mixed (fn:=Tryz.f375) (by kernel_rfl) un_375_346 an_375_346 (d8 ck_375_346).1 (d8 ck_375_346).2 (λ_=>rfl) (eq_375_346 (d5 n))⟩
def K283:Kn Tryz.prog VV:=⟨283,fe_283,knS rfl ⟨(b4u FU).1,λ_ _=>by kernel_rfl⟩⟩
def h1k:=mk 284 Tryz.f284 ⟨[.so 3 .z9],[]⟩ (cur1 a68) (λb=>((),(b,()))) (λp=>p.2.1) (.s .n (.l [] [] [.ow 0 0 3 .z9,.v 2 .z9,.v 3 .z9] .n)) []
def K217:=mk 217 Tryz.f217 ⟨[.v .zl,.ls .zq],[.ow 3 .z9]⟩ (cur2 c4e) w1 u1 (sk 2 (.s (.s .n (.l [1] [] [.bx 2 2 76 .zl,.ow 5 3 3 .z9,.v 6 .z9] (.s .n (.s (.s .n (.s (.s .n (.l [1,6,25] [(24,3)] [.bx 2 2 76 .zl,.ow 5 3 3 .z9,.v 7 .z8,.v 26 .z9] .n)) .n)) .n)))) .n)) [K283,h1k]
def K285:=mk 285 Tryz.f285 ⟨[.v .z9,.v .zm],[.v .y7]⟩ (cur2 t6) w1 u1 .n []
def K347:=mk 347 Tryz.f347 ⟨[.v .y9,.v .yl],[.v .y7,.v .z8]⟩ (cur2 c2b) w2 u2 .n [K216,K237,K285]
def K286:=mkR 286 Tryz.f286 ⟨[.rp 251 .yf,.v .yl],[.v .y7]⟩ (cur2 a84) w1 u1 (sk 2 (.s (.s .n (.l [] [] [.bx 3 2 9 .yl,.bx 4 3 255 .y7] (.s .n .n))) .n)) [K347,K348]
def K277_377:=mkR 277 Tryz.f277 ⟨[.ow 3 .z9,.vl 377 23 .z9],[.ow 3 .z9]⟩ (cur2 u5) w1 u1 (.s (.g [6000]) (.s (.s .n (.l [] [] [.of 2 0 3 3 .z9,.bm 2 2 23 .za [(0,3)]] (.s .n (.g [6000,6004])))) (.s (.g [6000]) .n))) []
def K205_377:=mk 205 Tryz.f205 ⟨[.vl 377 23 .z9],[.ow 3 .z9]⟩ (cur1 y5) w1 u1 .n [K277_377]
def K129_377:=mk 129 Tryz.f129 ⟨[.vl 377 23 .z9],[.ow 3 .z9]⟩ (cur1 o9) w1 u1 .n [K120,K205_377]
def K287:=mk 287 Tryz.f287 ⟨[.ls .z9,.v .z9],[.v .zm,.v .z9]⟩ (cur2 c4b) w2 u2 (sk 4 (.s (.s .n (.l [1,31,32] [] [.bx 4 2 49 .zm,.v 7 .z9,.v 33 .z9] .n)) .n)) [K129_377,K136,K282,K349]
def K291:=mk 291 Tryz.f291 ⟨[.v .z8],[.v .y7]⟩ (cur1 b8n) w1 u1 .n []
def K350:=mk 350 Tryz.f350 ⟨[.v .zm],[.v .z9,.v .z9]⟩ (cur1 b4e) w2 u2 .n [K86]
def K351:=mk 351 Tryz.f351 ⟨[.v .zm],[.v .zm,.v .z9]⟩ (cur1 b4p) w2 u2 .n [K86]
def K378:=mk 378 Tryz.f378 ⟨[.v .yn,.v .yn],[.v .yj]⟩ (cur2 a4g) w1 u1 .n [K88]
def K379:=mk 379 Tryz.f379 ⟨[.v .yj,.v .yj],[.v .z8]⟩ (cur2 a3u) w1 u1 .n []
def h2v:=mk 352 Tryz.f352 ⟨[.v .zm,.v .zm],[.v .z9,.v .z9]⟩ (cur2 a8g) w2 u2 (sk 4 (.j [] [.bx 6 2 331 .yj,.bx 7 3 331 .yj] .n .n)) [K86,K145,K378,K379]
def K290:=mk 290 Tryz.f290 ⟨[.v .z9,.v .zm,.v .zm],[.v .z8,.v .z9]⟩ (cur3 b7z) w2 u2 .n [h2v]
def h2j:=mk 380 Tryz.f380 ⟨[.v .yj,.v .yj],[.v .yj]⟩ (cur2 a98) w1 u1 .n [K403]
def K381:=mk 381 Tryz.f381 ⟨[.v .yj,.v .yj],[.v .yj]⟩ (cur2 a4w) w1 u1 .n [K404]
def K382:=mk 382 Tryz.f382 ⟨[.v .yn,.v .yn,.v .yn],[.v .yn]⟩ (cur3 c25) w1 u1 .n [K146]
def K383:=mk 383 Tryz.f383 ⟨[.v .yj,.v .yn],[.v .yj]⟩ (cur2 a8z) w1 u1 .n [K146]
def K353:=mk 353 Tryz.f353 ⟨[.v .zm,.v .zm],[.v .zm,.v .z9]⟩ (cur2 b4q) w2 u2 (sk 4 (.j [] [.bx 2 2 49 .zm,.bx 3 3 49 .zm,.bx 4 4 49 .zm,.bx 6 5 331 .yj,.v 8 .z8] .n .n)) [K86,K144,K145,h31,K378,K379,h2j,K381,K382,K383]
def K354:=mk 354 Tryz.f354 ⟨[.v .zm,.v .zm],[.v .zm,.v .z9]⟩ (cur2 b7d) w2 u2 .n [K351,K353]
def K384:=mk 384 Tryz.f384 ⟨[.v .z8,.v .yn,.v .yn,.v .yn,.v .yn],[.v .zm,.v .z9]⟩ (cur5 a73) w2 u2 .n [K144,h31,K378]
def K355:=mk 355 Tryz.f355 ⟨[.v .zm,.v .zm],[.v .zm,.v .z9]⟩ (cur2 b7j) w2 u2 .n [K86,K145,K384]
def K356:=mk 356 Tryz.f356 ⟨[.v .zm,.v .zm],[.v .zm,.v .z9]⟩ (cur2 b7o) w2 u2 .n [K86,K145,K384]
def K292:=mk 292 Tryz.f292 ⟨[.v .z9,.v .zm,.v .zm],[.v .zm,.v .z9]⟩ (cur3 b2w) w2 u2 .n [h2v,K353,K354,K355,K356]
def K293:=mk 293 Tryz.f293 ⟨[.v .z9,.v .z9,.v .z9],[.v .z9]⟩ (cur3 b8c) w1 u1 .n []
def sg_218:Sig VV:=⟨[.rp 251 .yf,.v .zl],[.v .y7,.v .z9]⟩
def fr_218(R:Ring_eval_evaluator_expr):Fent VV:=⟨sg_218,Value×Int,λx=>R.f_eval_evaluator_expr x.1 x.2.1,λb=>((b.1,(b.2,())),()),none⟩
def fe_218:Fent VV:=fr_218 (c4 FU)
def un_218:Ress VV sg_218.rs×Outs VV sg_218.ps->Value×Int:=λp=>(p.1.1,p.1.2.1)
def an_218:Ann VV.C:=(.s .n (.s (.s .n (.s .n (.s .n (.s .n (.s .n (.s .n (.s .n (.j [] [.rp 0 .yf,.bx 3 2 76 .zl,.bx 4 3 255 .y7,.v 15 .z9,.v 46 .z8] .n (.s .n (.j [] [.rp 0 .yf,.bx 3 2 76 .zl,.bx 4 3 255 .y7,.v 55 .z8] .n .n)))))))))) .n))
def sg_288:Sig VV:=⟨[.rp 251 .yf,.v .zl],[.v .y7,.v .z9]⟩
def fr_288(R:Ring_eval_evaluator_expr):Fent VV:=⟨sg_288,Value×Int,λx=>R.f_eval_evaluator_unary x.1 x.2.1,λb=>((b.1,(b.2,())),()),none⟩
def un_288:Ress VV sg_288.rs×Outs VV sg_288.ps->Value×Int:=λp=>(p.1.1,p.1.2.1)
def an_288:Ann VV.C:=.n
def sg_289:Sig VV:=⟨[.rp 251 .yf,.v .zl],[.v .y7,.v .z9]⟩
def fr_289(R:Ring_eval_evaluator_expr):Fent VV:=⟨sg_289,Value×Int,λx=>R.f_eval_evaluator_logic x.1 x.2.1,λb=>((b.1,(b.2,())),()),none⟩
def un_289:Ress VV sg_289.rs×Outs VV sg_289.ps->Value×Int:=λp=>(p.1.1,p.1.2.1)
def an_289:Ann VV.C:=.n
def ph_218(R:Ring_eval_evaluator_expr):Phi VV:=λf ys=>lkF f ys [(218,fr_218 R),K285.e,K286.e,K287.e,(288,fr_288 R),(289,fr_289 R),K290.e,K291.e,K292.e,K293.e]
theorem okp_218(R:Ring_eval_evaluator_expr)(hr218:SX.Spec Tryz.prog 218 (fr_218 R))(hr288:SX.Spec Tryz.prog 288 (fr_288 R))(hr289:SX.Spec Tryz.prog 289 (fr_289 R)):OKΦ Tryz.prog (ph_218 R):=okl ⟨knS rfl ⟨hr218,λ_ _=>by kernel_rfl⟩,K285.ok,K286.ok,K287.ok,knS rfl ⟨hr288,λ_ _=>by kernel_rfl⟩,knS rfl ⟨hr289,λ_ _=>by kernel_rfl⟩,K290.ok,K291.ok,K292.ok,K293.ok,trivial⟩
theorem eq_218(R:Ring_eval_evaluator_expr):∀x,c5v Tryz.prog (ph_218 R) sg_218 un_218 Tryz.f218 an_218 x=a5u R x.1 x.2.1:=λx=>by kernel_rfl
theorem ck_218:c67 Tryz.f218 sg_218=true:=by kernel_rfl
def ph_288(R:Ring_eval_evaluator_expr):Phi VV:=λf ys=>lkF f ys [(218,fr_218 R),K285.e,K291.e,K350.e,K351.e]
theorem okp_288(R:Ring_eval_evaluator_expr)(hr218:SX.Spec Tryz.prog 218 (fr_218 R)):OKΦ Tryz.prog (ph_288 R):=okl ⟨knS rfl ⟨hr218,λ_ _=>by kernel_rfl⟩,K285.ok,K291.ok,K350.ok,K351.ok,trivial⟩
theorem eq_288(R:Ring_eval_evaluator_expr):∀x,c5v Tryz.prog (ph_288 R) sg_288 un_288 Tryz.f288 an_288 x=a5i R x.1 x.2.1:=λx=>by kernel_rfl
theorem ck_288:c67 Tryz.f288 sg_288=true:=by kernel_rfl
def ph_289(R:Ring_eval_evaluator_expr):Phi VV:=λf ys=>lkF f ys [(218,fr_218 R)]
theorem okp_289(R:Ring_eval_evaluator_expr)(hr218:SX.Spec Tryz.prog 218 (fr_218 R)):OKΦ Tryz.prog (ph_289 R):=okl ⟨knS rfl ⟨hr218,λ_ _=>by kernel_rfl⟩,trivial⟩
theorem eq_289(R:Ring_eval_evaluator_expr):∀x,c5v Tryz.prog (ph_289 R) sg_289 un_289 Tryz.f289 an_289 x=a5d R x.1 x.2.1:=λx=>by kernel_rfl
theorem ck_289:c67 Tryz.f289 sg_289=true:=by kernel_rfl
theorem a9r:∀n,SX.Spec Tryz.prog 218 (fr_218 (c4 n))/\SX.Spec Tryz.prog 288 (fr_288 (c4 n))/\SX.Spec Tryz.prog 289 (fr_289 (c4 n))|0=>⟨(λ_ _ h=>(by cases(show none=some _ from h))),(λ_ _ h=>(by cases(show none=some _ from h))),(λ_ _ h=>(by cases(show none=some _ from h)))⟩|n+1=>let⟨h218,h288,h289⟩:=a9r n;⟨a2m (fe:=fr_218 (c4 (n+1))) uok (okp_218 (c4 n) h218 h288 h289) mixed (fn:=Tryz.f218) (by kernel_rfl) un_218 an_218 (d8 ck_218).1 (d8 ck_218).2 (λ_=>rfl) (eq_218 (c4 n)),a2m (fe:=fr_288 (c4 (n+1))) uok (okp_288 (c4 n) h218) mixed (fn:=Tryz.f288) (by kernel_rfl) un_288 an_288 (d8 ck_288).1 (d8 ck_288).2 (λ_=>rfl) (eq_288 (c4 n)),a2m (fe:=fr_289 (c4 (n+1))) uok (okp_289 (c4 n) h218) mixed (fn:=Tryz.f289) (by kernel_rfl) un_289 an_289 (d8 ck_289).1 (d8 ck_289).2 (λ_=>rfl) (eq_289 (c4 n))⟩
def K218:Kn Tryz.prog VV:=⟨218,fe_218,knS rfl ⟨(a9r FU).1,λ_ _=>by kernel_rfl⟩⟩
def K142:=mk 142 Tryz.f142 ⟨[.im 251 .yf [(1,5)],.v .zl,.ls .zq,.so 4 .z8,.v .yl,.po 0 1 340 .y4],[.v .z9]⟩ (cur6 a3e) (λb=>((b.1,()),(b.2.1,(b.2.2.1,(b.2.2.2,()))))) (λp=>(p.1.1,p.2.1,p.2.2.1,p.2.2.2.1)) (.s .n (.s (.s .n (.l [2,4,20] [] [.of 0 1 6 340 .y4,.bm 0 0 251 .yf [(1,6)],.ow 3 3 4 .z8,.bx 6 7 76 .zl,.ow 19 8 3 .z9,.v 21 .z9] .n)) .n)) [K217,K218]
def K143:=mk 143 Tryz.f143 ⟨[.rp 251 .yf],[.v .y7]⟩ (cur1 a55) w1 u1 .n []
def K140_141:=mk 140 Tryz.f140 ⟨[.ls .zn,.cl 141 [.z9]],[.v .z9]⟩ (λx=>a1y x.1 x.2.1.1) w1 u1 (.s .n (.s (.s .n (.l [0,1,7] [] [.v 8 .z9] .n)) .n)) [K141]
def K84:=mk 84 Tryz.f84 ⟨[.v .y8,.v .z9,.v .y9],[.v .zw,.v .z9]⟩ (cur3 c2a) w2 u2 .n [K139,K140_141,K142,K143]
def K85:=mk 85 Tryz.f85 ⟨[.v .zm,.v .zx],[.v .z9,.v .z9]⟩ (cur2 b9q) w2 u2 .n [K86,K87,K89,K90]
def K47:=mk 47 Tryz.f47 ⟨[.v .y8,.v .z9,.v .y9],[.v .zw,.v .z9,.v .z9]⟩ (cur3 c1k) w3 u3 .n [K84,K85]
def K48:=mk 48 Tryz.f48 ⟨[.v .zm,.v .z9,.v .z9,.v .zx],[.v .z9,.v .z9]⟩ (cur4 b97) w2 u2 .n [K86,K87,K88,K89,K90]
def K26:=mk 26 Tryz.f26 ⟨[.v .yb,.io 39 .zg,.ls .ya],[.v .z9]⟩ (cur3 a8d) (λb=>((b.1,()),(b.2,()))) (λp=>(p.1.1,p.2.1)) (sk 7 (.j [] [.bx 1 1 39 .zg,.ls 2 .ya,.bx 3 3 88 .yb,.bx 8 4 60 .y8,.ls 10 .zi,.bx 11 5 119 .y9] .n (.j [] [.bx 1 1 39 .zg,.ls 2 .ya,.bx 3 3 88 .yb,.bx 8 4 60 .y8,.ls 10 .zi] .n (.j [] [.bx 1 1 39 .zg] .n .n)))) [K41,K42,K43,K44,K45,K46,K47,K48]
def K15:=mk 15 Tryz.f15 ⟨[.v .zp,.ls .ya,.v .z9,.v .z9,.v .z9],[.v .zg]⟩ (cur5 b47) w1 u1 (sk 3 (.j [] [.v 2 .z9,.v 3 .z9,.v 4 .z9,.of 10 11 6 340 .y4,.bm 10 5 39 .zg [(11,6)],.bx 11 7 39 .zg,.v 13 .z9] .n .n)) [K25,K26]
def K7:=mk 7 Tryz.f7 ⟨[.v .zp,.ls .ya,.v .z9,.v .z9],[.ow 39 .zg]⟩ (cur4 c4q) w1 u1 (sk 2 (.s (.s .n (.l [1,2,3,13,14] [] [.bx 4 4 28 .zp,.ow 9 5 39 .zg,.v 15 .z9] .n)) .n)) [K15]
def K9:=mk 9 Tryz.f9 ⟨[],[.v .z8]⟩ (λx=>b2m) w1 u1 .n [K15]
def g6y:Sig VV:=⟨[.ls .yg,.ls .z9,.v .z8,.v .z9,.v .z9],[.v .z8]⟩
def fe_3:Fent VV:=⟨g6y,Bool,λx=>pensionlaw20_AwardsBetter x.1 x.2.1 x.2.2.1 x.2.2.2.1 x.2.2.2.2.1,λb=>((b,()),()),none⟩
def un_3:Ress VV g6y.rs×Outs VV g6y.ps->Bool:=λp=>p.1.1
def an_3:Ann VV.C:=(.s .n (.s .n (.s .n (.s .n (.s (.s .n (.l [] [] [.bx 11 5 28 .zp,.ow 14 6 39 .zg,.v 15 .z9] .n)) .n)))))
theorem ok_3:SX.Spec Tryz.prog 3 fe_3:=a2m (fe:=fe_3) uok (okl (f8d [K4,K5,K6,K7,K8,K9])) mixed (fn:=Tryz.f3) (by kernel_rfl) un_3 an_3 (d8 (s:=g6y) (by kernel_rfl)).1 (d8 (s:=g6y) (by kernel_rfl)).2 (λ_=>rfl) λx=>by kernel_rfl
end
end Go.PL
