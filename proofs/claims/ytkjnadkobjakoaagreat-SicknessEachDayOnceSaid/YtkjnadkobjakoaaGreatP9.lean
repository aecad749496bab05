/- Texts of the proof, joined. -/
import Derived.Test.YtkjnadkobjakoaaGreatP8
import Derived.Shelf.SlIterI.Sorted
import Derived.Shelf.SortM.Plain
import Derived.Shelf.SortM.SortNone
import Derived.Test.YtkjnadkobjakoaaGreatProg
import Derived.KernelRfl
set_option linter.unusedVariables false
set_option linter.unusedSimpArgs false
set_option maxRecDepth 100000
namespace Go.Proofs
open Go.Shelf
def Tryz.keysA_ren:Go.Shelf.Ren:=⟨fun | 7=>149 | 10=>203 | n=>n,fun | 23=>214 | 26=>3 | 3=>3 | 28=>217 | 0=>0 | 27=>216 | 33=>76 | 4=>4 | n=>n,fun | n=>n⟩
theorem Tryz.keysA:Go.Proofs.SlLaysZI.n7 Tryz.prog Tryz.keysA_ren:={
 mixed:=by kernel_rfl
 f7:=⟨Tryz.f149.name,by decide,Tryz.func149.trans (congrArg some (by kernel_rfl))⟩
 f10:=⟨Tryz.f203.name,by decide,Tryz.func203.trans (congrArg some (by kernel_rfl))⟩
 t0:=Tryz.underlying0
 a0:=Tryz.isAgg0
 z0:=Tryz.sizeOf0
 v0:=Tryz.zeroValue0
 t4:=Tryz.underlying4
 a4:=Tryz.isAgg4
 z4:=Tryz.sizeOf4
 v4:=Tryz.zeroValue4
 t23:=Tryz.underlying214
 a23:=Tryz.isAgg214
 z23:=Tryz.sizeOf214
 v23:=Tryz.zeroValue214
 t26:=Tryz.underlying3
 a26:=Tryz.isAgg3
 z26:=Tryz.sizeOf3
 v26:=Tryz.zeroValue3
 t27:=Tryz.underlying216
 a27:=Tryz.isAgg216
 z27:=Tryz.sizeOf216
 v27:=Tryz.zeroValue216
 t28:=Tryz.underlying217
 a28:=Tryz.isAgg217
 z28:=Tryz.sizeOf217
 v28:=Tryz.zeroValue217
 t33:=Tryz.underlying76
 a33:=Tryz.isAgg76
 z33:=Tryz.sizeOf76
 v33:=Tryz.zeroValue76}
def Tryz.sortedA_ren:Go.Shelf.Ren:=⟨fun | 6=>148 | 8=>201 | 9=>202 | 11=>229 | 13=>114 | 12=>230 | 23=>164 | 24=>165 | 14=>240 | 15=>241 | 16=>242 | 17=>243 | 18=>244 | 19=>245 | 20=>246 | 21=>247 | 22=>248 | 25=>255 | 26=>236 | 27=>237 | 28=>256 | 29=>257 | 30=>198 | 31=>260 | n=>n,fun | 26=>3 | 28=>217 | 24=>22 | 0=>0 | 3=>3 | 37=>167 | 48=>226 | 50=>228 | 4=>4 | 40=>267 | 39=>266 | 45=>36 | 5=>5 | 9=>9 | 51=>279 | 55=>259 | 57=>290 | 58=>79 | 33=>76 | n=>n,fun | n=>n⟩
theorem Tryz.sortedA:Go.Proofs.SlLaysZI.n6 Tryz.prog Tryz.sortedA_ren:={
 mixed:=by kernel_rfl
 f6:=⟨Tryz.f148.name,by decide,Tryz.func148.trans (congrArg some (by kernel_rfl))⟩
 f8:=⟨Tryz.f201.name,by decide,Tryz.func201.trans (congrArg some (by kernel_rfl))⟩
 f11:=⟨Tryz.f229.name,by decide,Tryz.func229.trans (congrArg some (by kernel_rfl))⟩
 t0:=Tryz.underlying0
 a0:=Tryz.isAgg0
 z0:=Tryz.sizeOf0
 v0:=Tryz.zeroValue0
 t24:=Tryz.underlying22
 a24:=Tryz.isAgg22
 z24:=Tryz.sizeOf22
 v24:=Tryz.zeroValue22
 t26:=Tryz.underlying3
 a26:=Tryz.isAgg3
 z26:=Tryz.sizeOf3
 v26:=Tryz.zeroValue3
 t28:=Tryz.underlying217
 a28:=Tryz.isAgg217
 z28:=Tryz.sizeOf217
 v28:=Tryz.zeroValue217
 i26:=by kernel_rfl}
def Tryz.sortA_ren:Go.Shelf.Ren:=⟨fun | 5=>202 | 8=>114 | 7=>230 | 19=>164 | 20=>165 | 10=>240 | 11=>241 | 12=>242 | 13=>243 | 14=>244 | 15=>245 | 16=>246 | 17=>247 | 18=>248 | 30=>255 | 31=>236 | 32=>237 | 33=>256 | 34=>257 | 35=>198 | 40=>260 | n=>n,fun | 23=>22 | 25=>3 | 3=>3 | 32=>167 | 22=>22 | 0=>0 | 44=>226 | 46=>228 | 4=>4 | 36=>267 | 35=>266 | 41=>36 | 5=>5 | 9=>9 | 53=>279 | 57=>259 | 63=>290 | 64=>79 | n=>n,fun | n=>n⟩
theorem Tryz.sortA:Go.Proofs.SlLaysM.n5 Tryz.prog Tryz.sortA_ren:={
 mixed:=by kernel_rfl
 f5:=⟨Tryz.f202.name,by decide,Tryz.func202.trans (congrArg some (by kernel_rfl))⟩
 f7:=⟨Tryz.f230.name,by decide,Tryz.func230.trans (congrArg some (by kernel_rfl))⟩
 f8:=Tryz.func114.trans (congrArg some (by kernel_rfl))
 f10:=⟨Tryz.f240.name,by decide,Tryz.func240.trans (congrArg some (by kernel_rfl))⟩
 f11:=⟨Tryz.f241.name,by decide,Tryz.func241.trans (congrArg some (by kernel_rfl))⟩
 f12:=⟨Tryz.f242.name,by decide,Tryz.func242.trans (congrArg some (by kernel_rfl))⟩
 f13:=⟨Tryz.f243.name,by decide,Tryz.func243.trans (congrArg some (by kernel_rfl))⟩
 f14:=⟨Tryz.f244.name,by decide,Tryz.func244.trans (congrArg some (by kernel_rfl))⟩
 f15:=⟨Tryz.f245.name,by decide,Tryz.func245.trans (congrArg some (by kernel_rfl))⟩
 f16:=⟨Tryz.f246.name,by decide,Tryz.func246.trans (congrArg some (by kernel_rfl))⟩
 f17:=⟨Tryz.f247.name,by decide,Tryz.func247.trans (congrArg some (by kernel_rfl))⟩
 f18:=⟨Tryz.f248.name,by decide,Tryz.func248.trans (congrArg some (by kernel_rfl))⟩
 f19:=Tryz.func164.trans (congrArg some (by kernel_rfl))
 f20:=Tryz.func165.trans (congrArg some (by kernel_rfl))
 f30:=⟨Tryz.f255.name,by decide,Tryz.func255.trans (congrArg some (by kernel_rfl))⟩
 f31:=Tryz.func236.trans (congrArg some (by kernel_rfl))
 f32:=Tryz.func237.trans (congrArg some (by kernel_rfl))
 f33:=⟨Tryz.f256.name,by decide,Tryz.func256.trans (congrArg some (by kernel_rfl))⟩
 f34:=⟨Tryz.f257.name,by decide,Tryz.func257.trans (congrArg some (by kernel_rfl))⟩
 f35:=⟨Tryz.f198.name,by decide,Tryz.func198.trans (congrArg some (by kernel_rfl))⟩
 f40:=⟨Tryz.f260.name,by decide,Tryz.func260.trans (congrArg some (by kernel_rfl))⟩
 t0:=Tryz.underlying0
 a0:=Tryz.isAgg0
 z0:=Tryz.sizeOf0
 v0:=Tryz.zeroValue0
 t3:=Tryz.underlying3
 a3:=Tryz.isAgg3
 z3:=Tryz.sizeOf3
 v3:=Tryz.zeroValue3
 t4:=Tryz.underlying4
 a4:=Tryz.isAgg4
 z4:=Tryz.sizeOf4
 v4:=Tryz.zeroValue4
 t5:=Tryz.underlying5
 a5:=Tryz.isAgg5
 z5:=Tryz.sizeOf5
 v5:=Tryz.zeroValue5
 t9:=Tryz.underlying9
 a9:=Tryz.isAgg9
 z9:=Tryz.sizeOf9
 v9:=Tryz.zeroValue9
 t22:=Tryz.underlying22
 a22:=Tryz.isAgg22
 z22:=Tryz.sizeOf22
 v22:=Tryz.zeroValue22
 t23:=Tryz.underlying22
 a23:=Tryz.isAgg22
 z23:=Tryz.sizeOf22
 v23:=Tryz.zeroValue22
 t25:=Tryz.underlying3
 a25:=Tryz.isAgg3
 z25:=Tryz.sizeOf3
 v25:=Tryz.zeroValue3
 t32:=Tryz.underlying167
 a32:=Tryz.isAgg167
 z32:=Tryz.sizeOf167
 v32:=Tryz.zeroValue167
 t35:=Tryz.underlying266
 a35:=Tryz.isAgg266
 z35:=Tryz.sizeOf266
 v35:=Tryz.zeroValue266
 t36:=Tryz.underlying267
 a36:=Tryz.isAgg267
 z36:=Tryz.sizeOf267
 v36:=Tryz.zeroValue267
 t41:=Tryz.underlying36
 a41:=Tryz.isAgg36
 z41:=Tryz.sizeOf36
 v41:=Tryz.zeroValue36
 t44:=Tryz.underlying226
 a44:=Tryz.isAgg226
 z44:=Tryz.sizeOf226
 v44:=Tryz.zeroValue226
 t46:=Tryz.underlying228
 a46:=Tryz.isAgg228
 z46:=Tryz.sizeOf228
 v46:=Tryz.zeroValue228
 t53:=Tryz.underlying279
 a53:=Tryz.isAgg279
 z53:=Tryz.sizeOf279
 v53:=Tryz.zeroValue279
 t57:=Tryz.underlying259
 a57:=Tryz.isAgg259
 z57:=Tryz.sizeOf259
 v57:=Tryz.zeroValue259
 t63:=Tryz.underlying290
 a63:=Tryz.isAgg290
 z63:=Tryz.sizeOf290
 v63:=Tryz.zeroValue290
 t64:=Tryz.underlying79
 a64:=Tryz.isAgg79
 z64:=Tryz.sizeOf79
 v64:=Tryz.zeroValue79}
end Go.Proofs
namespace Go.PL
open Go Go.SX Go.Proofs Go.RowKit Go.Maps Go.Sort Go.WideElems Go.WideShapes
theorem e5v {P:Program} {k:TypeId} (hk:P.underlying k=some (.int .i64)) {w:World} {mb:Nat} {l:List (Int×Int)} (hn:(l.map (·.1)).Nodup) (hm:w.heap[mb]? =some (b48 l)) (hw:(l.all fun q=>b8x q.1)=true) (hl:l.length <= 1000000):
  ∃D0:DataW Unit,w.ownsMap P k (fun _=>some (.nil,[])) mb l.length D0 /\ (intKeys D0).Perm (l.map (·.1)) /\ Maps.size D0=l.length:=by
 have hlen:(l.zipIdx.map fun q=>({key:= .int .i64 q.1.1,val:= .int .i64 q.1.2,born:=q.2}:MapEntry)).length=l.length:=by simp
 have hrd: ∀q∈l.zipIdx,WideElems.rd P k (fun _=>some ((.nil:DataW Unit),[])) ({key:= .int .i64 q.1.1,val:= .int .i64 q.1.2,born:=q.2}:MapEntry)=some (.int .i64 q.1.1,.nil):=by
  intro q hq
  have hm:q.1∈l:=by
   obtain ⟨j,hj⟩:=List.mem_iff_getElem?.1 hq
   rw [List.getElem?_zipIdx] at hj
   cases hL:l[j]? with
   | none=>rw [hL] at hj;cases hj
   | some p=>rw [hL] at hj;obtain rfl:=qH hj;exact qE hL
  have h1:=List.all_eq_true.1 hw q.1 hm
  have h2:(Lit.int .i64 q.1.1).wf=true:=by
   unfold b8x at h1
   simp only [qB,decide_eq_true_eq] at h1
   simp [Lit.wf,IntKind.min,IntKind.max,IntKind.signed,IntKind.bits]
   omega
  simp [WideElems.rd,keyOf,hk,mapKey,h2]
 have hborn:(l.zipIdx.map fun q=>q.2)=List.range l.length:=by
  rw [List.range_eq_range']
  exact List.zipIdx_map_snd 0 l
 have hkeys:(l.zipIdx.map fun q=>q.1.1)=l.map (·.1):=by
  have:(l.zipIdx.map (·.1)).map (·.1)=l.map (·.1):=by rw [List.zipIdx_map_fst]
  rw [<- this,List.map_map]
  rfl
 refine ⟨_,⟨_,_,hm,⟨?_,?_,?_⟩,by simp,rfl⟩,?_,?_⟩
 ·simp [maxLen];omega
 ·rw [MapKept.stamped_iff]
  refine ⟨fun x hx=> ?_,?_,?_⟩
  ·obtain ⟨q,hq,rfl⟩:=List.mem_map.1 hx
   have:q.2∈l.zipIdx.map fun q=>q.2:=List.mem_map.2 ⟨q,hq,rfl⟩
   rw [hborn] at this
   exact List.mem_range.1 this
  ·show ((l.zipIdx.map fun q=>({key:= .int .i64 q.1.1,val:= .int .i64 q.1.2,born:=q.2}:MapEntry)).map (·.born)).Nodup
   rw [List.map_map]
   exact (show (l.zipIdx.map fun q=>q.2).Nodup by rw [hborn];exact List.nodup_range)
  ·show (l.zipIdx.map fun q=>({key:= .int .i64 q.1.1,val:= .int .i64 q.1.2,born:=q.2}:MapEntry)).Pairwise fun x y=>x.key≠y.key
   rw [List.pairwise_map]
   have h1:(l.zipIdx.map fun q=>q.1.1).Nodup:=by rw [hkeys];exact hn
   exact (List.pairwise_map.1 h1).imp fun h e=>h (by simpa using e)
 ·intro x hx
  obtain ⟨q,hq,rfl⟩:=List.mem_map.1 hx
  exact ⟨_,hrd q hq⟩
 ·show (((((l.zipIdx.map fun q=>({key:= .int .i64 q.1.1,val:= .int .i64 q.1.2,born:=q.2}:MapEntry))).map (WideElems.rg P k fun _=>some ((.nil:DataW Unit),[]))).foldr DataW.insert []).map fun p=>intOf p.1).Perm _
  refine ((sorted_perm _).map _).trans ?_
  rw [List.map_map,List.map_map,<- hkeys]
  refine List.Perm.of_eq (List.map_congr_left fun q hq=> ?_)
  simp [WideElems.rg,hrd q hq,intOf]
 ·show (((l.zipIdx.map fun q=>({key:= .int .i64 q.1.1,val:= .int .i64 q.1.2,born:=q.2}:MapEntry)).map (WideElems.rg P k fun _=>some ((.nil:DataW Unit),[]))).foldr DataW.insert []).length=l.length
  rw [length_sorted]
  simp
theorem e99 {B:Nat} {e:TypeId} {w:World} {v:Go.Value} {n:Nat} {l:List Int} (h:w.ownsRow B e 1 v n (l.map encZ)) (hn:l.length=n):PL.Own B e 1 cellsZ w v l:=by
 subst hn
 have hf: ∀l:List Int,l.flatMap cellsZ=l.map encZ:=fun l=>by induction l with
  | nil=>rfl
  | cons x l ih=>exact congrArg (encZ x:: ·) ih
 rcases h.2 with ⟨h1,h2⟩ | ⟨g,cap,cur,h1,h2,h3,h4,h5,h6,h7⟩
 ·exact .inl ⟨h1,List.length_eq_zero_iff.1 h2⟩
 ·exact .inr ⟨g,0,cap,cur,h1,h2,h3,h4,h5,by omega,by rw [List.drop_zero,h7,hf]⟩
theorem f4c (m:Nat):AnyZI.SortsIn Tryz.prog Tryz.sortedA_ren Fence.wide m:=
 ⟨fun blk off cap ss W hH hblk hsz=>callsIn_wide.2 (AnyM.slices_Sort_int Tryz.sortA blk off cap ss W hH hblk hsz),
  fun p cap W=>callsIn_wide.2 (AnyM.slices_Sort_int_none Tryz.sortA p cap W)⟩
theorem d5p {P:Program} {f:FuncId} {e:TypeId} (h1: ∀(blk off cap:Nat) (zs:List Int) (w:World),Holds (Go.Value.int .i64) w blk off zs.toArray -> blk<w.heap.size -> zs.length<4611686018427387904 ->
   Calls P f #[.slice (some ⟨blk,off,none⟩) zs.length cap] w fun e w'=>e= .returned (.tuple #[]) /\ ∃n os,w'=grow (putRow (Go.Value.int .i64) (Sort.ahead w n) blk off (c0e zs).toArray) os)
  (h0: ∀(p:Option Addr) (cap:Nat) (w:World),Calls P f #[.slice p 0 cap] w fun e w'=>e= .returned (.tuple #[]) /\ w'=w)
  {l:List Int} {w:World} {v:Go.Value} (hO:PL.Own 0 e 1 (fun x:Int=>[Go.Value.int .i64 x]) w v l) (hl:l.length<4611686018427387904):
  Calls P f #[v] w fun q w'=>q= .returned (.tuple #[]) /\ Ext (fun b=>v.ownBlock=some b) w w' /\ PL.Own 0 e 1 (fun x:Int=>[Go.Value.int .i64 x]) w' v (c0e l):=by
 have hlen:(c0e l).length=l.length:=List.length_mergeSort l
 by_cases hz:l.length=0
 ·obtain ⟨a,cap,hv,_⟩:=hO.shape
  obtain rfl:=List.length_eq_zero_iff.1 hz
  rw [show v= .slice a 0 cap from hv]
  rw [show v= .slice a 0 cap from hv] at hO
  refine (h0 a cap w).mono ?_
  rintro q w' ⟨rfl,rfl⟩
  exact ⟨rfl,Ext.refl _ _,by rw [show c0e []=[] from List.length_eq_zero_iff.1 hlen];exact hO⟩
 ·have hO2:=hO
  rcases hO with ⟨_,h⟩ | ⟨g,o,cap,cur,rfl,h2,h3,h4,h5,h6,h7⟩
  ·exact absurd (by rw [h];rfl) hz
  ·have hlt:g<w.heap.size:=(qN.1 h3).1
   refine (h1 g o cap l w (e1c (d0o (n:=1) (fun _=>rfl) hO2)) hlt hl).mono ?_
   rintro q w' ⟨rfl,n,os,rfl⟩
   rw [d5v]
   refine ⟨rfl,e1i rfl,?_⟩
   have:=d9p (n:=1) (cells:=fun x:Int=>[Go.Value.int .i64 x]) (fun _=>rfl) (q:=n) (os:=os) (d:=(c0e l).toArray) hO2 (by simpa using hlen)
   simpa using this
theorem d26 (l r:List Int) (w:World) (v:Go.Value) (hO:PL.Own 0 3 1 cellsZ w v l) (hF:c88 l=some r):
  Calls Tryz.prog 202 #[v] w fun q w'=>q= .returned (.tuple #[]) /\ Ext (fun b=>v.ownBlock=some b) w w' /\ PL.Own 0 3 1 cellsZ w' v r:=by
 unfold c88 at hF
 split at hF
 case isFalse=>cases hF
 rename_i hl
 obtain rfl:=qH hF
 exact d5p (fun blk off cap ss W hH hblk hsz=>AnyM.slices_Sort_int Tryz.sortA blk off cap ss W hH hblk hsz) (fun p cap W=>AnyM.slices_Sort_int_none Tryz.sortA p cap W) hO (by omega)
theorem c72 (i mb:Nat) (l:List (Int×Int)) (r:List Int) (w:World) (hi:Mb w i 214 [.map (some mb)]) (hn:(l.map (·.1)).Nodup) (hm:w.heap[mb]? =some (b48 l)) (hr:c83 l=some r):
  Calls Tryz.prog 148 #[.func (.func 203) #[] #[.pointer (some ⟨i,0,none⟩)]] w fun q w'=> ∃v,q= .returned v /\ Ext noG w w' /\ PL.Own w.heap.size 3 1 cellsZ w' v r:=by
 unfold c83 at hr
 split at hr
 case isFalse=>cases hr
 rename_i hc
 obtain rfl:=qH hr
 obtain ⟨D0,hown,hperm,hsize⟩:=e5v (P:=Tryz.prog) (k:=3) (by kernel_rfl) hn hm hc.1 hc.2
 have hcell:w.cell? ⟨i,0,none⟩=some (.map (some mb)):=by
  have:=hi.ca 0 (.map (some mb)) rfl
  simpa [Addr.add] using this
 have hseq:SeqGives Fence.wide 2 Tryz.prog 203 #[.pointer (some ⟨i,0,none⟩)] encZ (fun ss=>ss.Perm (intKeys D0)) (Maps.size D0) w:=
  AnyZI.keys_gives (ρ:=Tryz.keysA_ren) {Tryz.keysA with} Fence.wide _ trivial rfl (by omega) i mb _ D0 _ hi.lt hcell hown
 have cS:=AnyZI.sorted_in Tryz.sortedA Fence.wide 5 trivial trivial trivial trivial rfl (by omega) (f4c _) (enters_of Tryz.func202 (by kernel_rfl) rfl) 203 #[.pointer (some ⟨i,0,none⟩)] trivial (enters_of Tryz.func203 (by kernel_rfl) rfl) _ _ (by rw [hsize];unfold maxLen;omega) (by rw [hsize];omega) _ hseq
 refine (callsIn_wide.1 cS).mono ?_
 rintro e w' ⟨v,ss,rfl,hS,hrow,_,hb⟩
 have hss:ss.mergeSort (fun x y=>decide (x <= y))=c0e (l.map (·.1)):=mergeSort_of_perm_i (hS.trans hperm)
 rw [hss] at hrow
 refine ⟨v,rfl,⟨hb.os,hb.tape,hb.output,hb.size,fun k hk _=>hb.block k hk⟩,e99 hrow ?_⟩
 rw [<- hss]
 exact List.length_mergeSort _
end Go.PL
namespace Go.PL
open Go Go.SX Go.Proofs
noncomputable section
def K202:Kn Tryz.prog VV:=⟨202,f5n,show c9z Tryz.prog 202 _ from e8y (U:=VV) (c:= .z4) (cells:=cellsZ) (a7n (fn:=Tryz.f202) (by kernel_rfl) (by kernel_rfl) (by kernel_rfl)) (fun G w cs x h=>by
    obtain ⟨_,css,rfl,hh⟩:=a73.1 h
    match css,hh with
    | [a],⟨h1,_⟩=>rw [show a=_ from h1];rfl) (fun G w x=>a73.2 ⟨rfl,[[.int .i64 x]],rfl,⟨rfl,trivial⟩⟩) d26⟩
def K148:Kn Tryz.prog VV:=⟨148,f5j,show c9z Tryz.prog 148 _ from e90 (U:=VV) (c:= .z4) (a7n (fn:=Tryz.f148) (by kernel_rfl) (by kernel_rfl) (by kernel_rfl)) rfl (fun _=>rfl) c72⟩
def K101:Kn Tryz.prog VV:=⟨101,e6c,knS rfl ⟨f3y,fun _ _=>by kernel_rfl⟩⟩
def f6x:Kn Tryz.prog VV:=mk 144 Tryz.f144 ⟨[.v .z4],[.v .z3]⟩ (fun x=>a34 x.1) w1 u1 .n [] (by kernel_rfl) (by kernel_rfl) (fun _=>rfl) fun x=>by kernel_rfl
def K199:Kn Tryz.prog VV:=mk 199 Tryz.f199 ⟨[.v .z4,.v .z4],[.v .z3]⟩ (fun x=>a5l x.1 x.2.1) w1 u1 .n [] (by kernel_rfl) (by kernel_rfl) (fun _=>rfl) fun x=>by kernel_rfl
def K143:Kn Tryz.prog VV:=mk 143 Tryz.f143 ⟨[.v .zh],[.v .z3]⟩ (fun x=>a4l x.1) w1 u1 (sk 2 (.s (.s .n (.l [28,29] [] [.bx 1 1 67 .zh,.v 30 .z4] .n)) .n)) [f6x,K199] (by kernel_rfl) (by kernel_rfl) (fun _=>rfl) fun x=>by kernel_rfl
def K102:Kn Tryz.prog VV:=mk 102 Tryz.f102 ⟨[.ls .zh],[.v .z4]⟩ (fun x=>a9e x.1) w1 u1 (sk 3 (.s (.s .n (.l [0,18,19] [] [.v 20 .z4] .n)) .n)) [K143] (by kernel_rfl) (by kernel_rfl) (fun _=>rfl) fun x=>by kernel_rfl
def K67:Kn Tryz.prog VV:=mk 67 Tryz.f67 ⟨[.ls .zo,.ls .zh],[.v .zp,.v .z3]⟩ (fun x=>b01 x.1 x.2.1) w2 u2 .n [K96,K100,K101,K102] (by kernel_rfl) (by kernel_rfl) (fun _=>rfl) fun x=>by kernel_rfl
def K103:Kn Tryz.prog VV:=mkR 103 Tryz.f103 ⟨[.ls .zh,.v .z4],[.v .zh,.v .z3]⟩ (fun x=>b3y x.1 x.2.1) w2 u2 (sk 2 (.s (.s .n (.l [] [] [.bx 3 2 3 .z4,.bx 4 3 67 .zh,.bx 5 4 4 .z3] (.s .n .n))) .n)) [f6x,K145,K146] (by kernel_rfl) (by kernel_rfl) (fun _=>rfl) fun x=>by kernel_rfl
def f7i:Kn Tryz.prog VV:=mk 104 Tryz.f104 ⟨[.v .zj,.v .z4],[.v .z3]⟩ (fun x=>a3a x.1 x.2.1) w1 u1 .n [] (by kernel_rfl) (by kernel_rfl) (fun _=>rfl) fun x=>by kernel_rfl
def K105:Kn Tryz.prog VV:=mk 105 Tryz.f105 ⟨[.v .zp,.v .z4,.v .z4],[.v .z4,.v .z3]⟩ (fun x=>a31 x.1 x.2.1 x.2.2.1) w2 u2 (.s .n (.s (.s .n (.l [1,2,11,12] [] [.v 13 .z4] .n)) .n)) [f7i] (by kernel_rfl) (by kernel_rfl) (fun _=>rfl) fun x=>by kernel_rfl
def K205:Kn Tryz.prog VV:=mk 205 Tryz.f205 ⟨[.ls .z4,.v .z4],[.v .z4]⟩ (fun x=>a94 x.1 x.2.1) w1 u1 (.s .n (.s (.s .n (.l [0,1,7] [] [.v 8 .z4] .n)) .n)) [] (by kernel_rfl) (by kernel_rfl) (fun _=>rfl) fun x=>by kernel_rfl
def K151:Kn Tryz.prog VV:=mk 151 Tryz.f151 ⟨[.ls .z4,.v .z4],[.v .z3]⟩ (fun x=>a1r x.1 x.2.1) w1 u1 .n [K205] (by kernel_rfl) (by kernel_rfl) (fun _=>rfl) fun x=>by kernel_rfl
def f7t:Kn Tryz.prog VV:=mk 147 Tryz.f147 ⟨[.v .zp,.v .z4,.ls .z4],[.ow 69 .zo]⟩ (fun x=>a1a x.1 x.2.1 x.2.2.1) w1 u1 (sk 2 (.s (.s .n (.l [1,2,11,12] [] [.ow 7 3 69 .zo,.v 13 .z4] .n)) .n)) [f7i,K151] (by kernel_rfl) (by kernel_rfl) (fun _=>rfl) fun x=>by kernel_rfl
def K106:Kn Tryz.prog VV:=mk 106 Tryz.f106 ⟨[.v .zp,.v .z4],[.v .z4,.v .z3]⟩ (fun x=>a48 x.1 x.2.1) w2 u2 (sk 2 (.s (.s .n (.l [15] [] [.bx 6 2 69 .zo,.v 7 .z3,.ow 14 3 69 .zo,.v 16 .z4] .n)) .n)) [f7t] (by kernel_rfl) (by kernel_rfl) (fun _=>rfl) fun x=>by kernel_rfl
def K207:Kn Tryz.prog VV:=mk 207 Tryz.f207 ⟨[.v .zj,.rp 3 .z4],[.v .z3]⟩ (fun x=>b1s x.1 x.2.1) w1 u1 .n [] (by kernel_rfl) (by kernel_rfl) (fun _=>rfl) fun x=>by kernel_rfl
def e4c:Kn Tryz.prog VV:=mk 231 Tryz.f231 ⟨[.ls .zj,.cl 207 [.z4]],[.v .z4]⟩ (fun x=>s6 x.1 x.2.1.1) w1 u1 (.s .n (.s (.s .n (.l [0,1,7] [] [.v 8 .z4] .n)) .n)) [K207] (by kernel_rfl) (by kernel_rfl) (fun _=>rfl) fun x=>by kernel_rfl
def e60:Kn Tryz.prog VV:=mk 206 Tryz.f206 ⟨[.ls .zj,.cl 207 [.z4]],[.v .z3]⟩ (fun x=>p8 x.1 x.2.1.1) w1 u1 .n [e4c] (by kernel_rfl) (by kernel_rfl) (fun _=>rfl) fun x=>by kernel_rfl
def K154:Kn Tryz.prog VV:=mk 154 Tryz.f154 ⟨[.ls .zj,.v .z4],[.v .z3]⟩ (fun x=>b17 x.1 x.2.1) w1 u1 .n [e60] (by kernel_rfl) (by kernel_rfl) (fun _=>rfl) fun x=>by kernel_rfl
def K109:Kn Tryz.prog VV:=mk 109 Tryz.f109 ⟨[.ls .zo,.v .z4],[.v .z4,.v .z3]⟩ (fun x=>a6d x.1 x.2.1) w2 u2 (.s .n (.s (.s (.g [3]) .n) (.s .n (.s (.s .n (.l [1,22,23] [] [.bx 6 2 69 .zo,.v 7 .z3,.v 24 .z4] .n)) .n)))) [K95,K96,f6x,K154] (by kernel_rfl) (by kernel_rfl) (fun _=>rfl) fun x=>by kernel_rfl
def K204:Kn Tryz.prog VV:=mk 204 Tryz.f204 ⟨[.ow 3 .z4],[.ow 3 .z4]⟩ (fun x=>a4f x.1) w1 u1 (sk 2 (.s (.s .n (.l [] [] [.ow 0 1 3 .z4,.v 3 .z4] (.s .n (.s (.s .n (.s (.s (.g [1002]) (.s (.s .n (.l [] [] [.ow 0 1 3 .z4,.v 3 .z4,.v 5 .z4,.vw 4 1 .z4] .n)) (.s (.g [1002]) (.s (.g [2002]) .n)))) .n)) .n)))) .n)) [] (by kernel_rfl) (by kernel_rfl) (fun _=>rfl) fun x=>by kernel_rfl
def K150:Kn Tryz.prog VV:=mk 150 Tryz.f150 ⟨[.ls .zo],[.ow 3 .z4]⟩ (fun x=>a8n x.1) w1 u1 (sk 2 (.s (.s .n (.l [6,7] [] [.ow 3 1 3 .z4,.v 8 .z4] .n)) .n)) [K202,K204] (by kernel_rfl) (by kernel_rfl) (fun _=>rfl) fun x=>by kernel_rfl
def K107:Kn Tryz.prog VV:=mk 107 Tryz.f107 ⟨[.v .zp,.v .z4,.v .z4],[.v .z4,.v .z3]⟩ (fun x=>a2o x.1 x.2.1 x.2.2.1) w2 u2 (sk 2 (.s (.s .n (.l [1,2,26] [] [.bx 3 3 128 .zp,.mp 8 4,.v 9 .z4,.ow 25 5 69 .zo,.v 27 .z4] .n)) (.s .n (.s .n (.s .n (.s .n (.s .n (.s .n (.s .n (.s .n (.s .n (.s (.s .n (.l [118] [] [.mp 8 3,.v 18 .z4,.ow 117 4 3 .z4,.v 119 .z4] .n)) .n)))))))))))) [K109,f7t,K148,K149,K150,K151] (by kernel_rfl) (by kernel_rfl) (fun _=>rfl) fun x=>by kernel_rfl
def K153:Kn Tryz.prog VV:=mk 153 Tryz.f153 ⟨[.v .zo,.v .zo],[.v .z4]⟩ (fun x=>a4r x.1 x.2.1) w1 u1 .n [K142] (by kernel_rfl) (by kernel_rfl) (fun _=>rfl) fun x=>by kernel_rfl
def e5o:Kn Tryz.prog VV:=mk 152 Tryz.f152 ⟨[.ls .zo,.cl 153 []],[.v .zo]⟩ (fun x=>j6 x.1) w1 u1 (.s .n (.j [] [.ls 0 .zo,.cl 1 153 [],.bx 4 2 69 .zo] .n (.s .n (.s (.s .n (.l [0,1] [] [.bx 4 2 69 .zo,.bx 5 3 69 .zo,.v 6 .z4] .n)) .n)))) [K153] (by kernel_rfl) (by kernel_rfl) (fun _=>rfl) fun x=>by kernel_rfl
def K108:Kn Tryz.prog VV:=mk 108 Tryz.f108 ⟨[.v .zp,.v .z4],[.v .z4,.v .z3]⟩ (fun x=>a30 x.1 x.2.1) w2 u2 .n [f7t,e5o] (by kernel_rfl) (by kernel_rfl) (fun _=>rfl) fun x=>by kernel_rfl
def K68:Kn Tryz.prog VV:=mk 68 Tryz.f68 ⟨[.v .zp,.v .z4],[.v .z4,.v .z4]⟩ (fun x=>a5t x.1 x.2.1) w2 u2 .n [K103,f7i,K105,K106,K107,K108,K109] (by kernel_rfl) (by kernel_rfl) (fun _=>rfl) fun x=>by kernel_rfl
def K35:Kn Tryz.prog VV:=mk 35 Tryz.f35 ⟨[.ls .zo,.ls .zh,.v .z4],[.v .z4,.v .z4]⟩ (fun x=>a85 x.1 x.2.1 x.2.2.1) w2 u2 .n [K67,K68] (by kernel_rfl) (by kernel_rfl) (fun _=>rfl) fun x=>by kernel_rfl
def K12:Kn Tryz.prog VV:=mk 12 Tryz.f12 ⟨[.v .zb,.ls .zo,.v .z4,.v .z4],[.v .z4]⟩ (fun x=>a9v x.1 x.2.1 x.2.2.1 x.2.2.2.1) w1 u1 (sk 4 (.s (.s .n (.l [1,2,28] [] [.bx 4 4 28 .zb,.v 11 .z4,.ow 27 5 44 .zj,.v 29 .z4] (.s .n (.s .n (.s (.s .n (.s .n (.l [1,2,28,29] [] [.bx 4 4 28 .zb,.v 11 .z4,.bx 13 5 44 .zj,.v 14 .z4,.ow 27 6 44 .zj] .n))) .n))))) .n)) [K14,K33,K34,K35] (by kernel_rfl) (by kernel_rfl) (fun _=>rfl) fun x=>by kernel_rfl
def K15:Kn Tryz.prog VV:=mk 15 Tryz.f15 ⟨[.v .z4],[.v .z4]⟩ (fun x=>a2f x.1) w1 u1 .n [K29,K39] (by kernel_rfl) (by kernel_rfl) (fun _=>rfl) fun x=>by kernel_rfl
def K110:Kn Tryz.prog VV:=mk 110 Tryz.f110 ⟨[.v .zj],[.v .zj,.v .z3]⟩ (fun x=>a92 x.1) w2 u2 .n [] (by kernel_rfl) (by kernel_rfl) (fun _=>rfl) fun x=>by kernel_rfl
def K45:Kn Tryz.prog VV:=mk 45 Tryz.f45 ⟨[.ls .z4,.v .z4],[.ls .z4]⟩ (fun x=>o9 x.1 x.2.1) w1 u1 (sk 2 (.s (.l [0,1] [] [.v 5 .z4] .n) .n)) [] (by kernel_rfl) (by kernel_rfl) (fun _=>rfl) fun x=>by kernel_rfl
def K69:Kn Tryz.prog VV:=mk 69 Tryz.f69 ⟨[.ls .z5],[.ls .z4]⟩ (fun x=>a7p x.1) w1 u1 (sk 2 (.s (.s .n (.l [0] [] [.ls 3 .z4,.v 4 .z4] (.s .n (.s (.s .n (.l [0,4] [] [.ls 3 .z4,.v 5 .z4] .n)) .n)))) .n)) [K45,K110] (by kernel_rfl) (by kernel_rfl) (fun _=>rfl) fun x=>by kernel_rfl
def K70:Kn Tryz.prog VV:=mk 70 Tryz.f70 ⟨[.ls .zj,.v .z4],[.v .z3]⟩ (fun x=>a2w x.1 x.2.1) w1 u1 (.s .n (.s (.s .n (.l [0,1] [] [.v 5 .z4] .n)) .n)) [K76] (by kernel_rfl) (by kernel_rfl) (fun _=>rfl) fun x=>by kernel_rfl
def K71:Kn Tryz.prog VV:=mk 71 Tryz.f71 ⟨[.ls .zj,.v .zj],[.ow 44 .zj]⟩ (fun x=>b07 x.1 x.2.1) w1 u1 .n [] (by kernel_rfl) (by kernel_rfl) (fun _=>rfl) fun x=>by kernel_rfl
def K36:Kn Tryz.prog VV:=mk 36 Tryz.f36 ⟨[.ls .zj,.ls .zj,.v .z4],[.ow 44 .zj]⟩ (fun x=>a0v x.1 x.2.1 x.2.2.1) w1 u1 (sk 3 (.s (.s .n (.l [0,1,2,7] [] [.ow 8 3 44 .zj,.v 9 .z4] .n)) .n)) [K69,K70,K71] (by kernel_rfl) (by kernel_rfl) (fun _=>rfl) fun x=>by kernel_rfl
def K13:Kn Tryz.prog VV:=mk 13 Tryz.f13 ⟨[.ls .zj,.v .zj],[.ow 44 .zj]⟩ (fun x=>a47 x.1 x.2.1) w1 u1 .n [K36] (by kernel_rfl) (by kernel_rfl) (fun _=>rfl) fun x=>by kernel_rfl
def K41:Kn Tryz.prog VV:=mk 41 Tryz.f41 ⟨[.ls .zh],[.v .z4]⟩ (fun x=>a2h x.1) w1 u1 (sk 3 (.s (.s .n (.l [0] [] [.v 3 .z4] (.s .n (.s (.s .n (.s .n (.s .n (.l [0,3] [] [.bx 4 1 67 .zh,.v 5 .z4] .n)))) .n)))) .n)) [K76] (by kernel_rfl) (by kernel_rfl) (fun _=>rfl) fun x=>by kernel_rfl
def K42:Kn Tryz.prog VV:=mk 42 Tryz.f42 ⟨[.ls .zo],[.ow 69 .zo]⟩ (fun x=>a0h x.1) w1 u1 (sk 2 (.s (.s .n (.l [0] [] [.ow 3 1 69 .zo,.v 4 .z4] .n)) .n)) [K25] (by kernel_rfl) (by kernel_rfl) (fun _=>rfl) fun x=>by kernel_rfl
def K116:Kn Tryz.prog VV:=mk 116 Tryz.f116 ⟨[.ls .zo,.v .z4],[.v .z4,.v .z3]⟩ (fun x=>a4g x.1 x.2.1) w2 u2 (sk 3 (.s (.s .n (.l [1] [] [.ow 6 2 69 .zo,.v 7 .z4,.v 8 .z3,.v 9 .z4] .n)) .n)) [K42] (by kernel_rfl) (by kernel_rfl) (fun _=>rfl) fun x=>by kernel_rfl
def K78:Kn Tryz.prog VV:=mk 78 Tryz.f78 ⟨[.ls .zo],[.v .z4,.v .z3]⟩ (fun x=>a9x x.1) w2 u2 .n [K116] (by kernel_rfl) (by kernel_rfl) (fun _=>rfl) fun x=>by kernel_rfl
def K79:Kn Tryz.prog VV:=mk 79 Tryz.f79 ⟨[.ls .zo],[.v .z4,.v .z3]⟩ (fun x=>a6u x.1) w2 u2 .n [K116] (by kernel_rfl) (by kernel_rfl) (fun _=>rfl) fun x=>by kernel_rfl
def K44:Kn Tryz.prog VV:=mk 44 Tryz.f44 ⟨[.ls .zo],[.v .zj]⟩ (fun x=>a3b x.1) w1 u1 (sk 3 (.j [] [.bx 2 1 44 .zj,.v 3 .z4,.v 5 .z4] .n .n)) [K78,K79] (by kernel_rfl) (by kernel_rfl) (fun _=>rfl) fun x=>by kernel_rfl
def K77:Kn Tryz.prog VV:=mk 77 Tryz.f77 ⟨[.ls .zd,.v .zd],[.ow 94 .zd]⟩ (fun x=>a5p x.1 x.2.1) w1 u1 (sk 2 (.s (.l [0] [] [.bx 3 2 94 .zd,.v 5 .z4] .n) .n)) [] (by kernel_rfl) (by kernel_rfl) (fun _=>rfl) fun x=>by kernel_rfl
def K43:Kn Tryz.prog VV:=mk 43 Tryz.f43 ⟨[.ls .zo],[.ow 94 .zd]⟩ (fun x=>a4m x.1) w1 u1 (sk 3 (.s (.s .n (.l [0] [] [.ow 3 1 69 .zo,.ow 4 2 94 .zd,.v 5 .z4] (.s .n (.s (.s .n (.l [0,5] [] [.ow 3 1 69 .zo,.ow 4 2 94 .zd,.v 6 .z4] (.s .n (.s (.s .n (.s (.s .n (.l [0,5,6] [] [.ow 3 1 69 .zo,.ow 4 2 94 .zd,.ow 7 3 44 .zj,.v 8 .z4] .n)) (.s .n (.s .n (.l [0,5,6] [] [.ow 3 1 69 .zo,.ow 4 2 94 .zd,.ow 7 3 44 .zj,.v 9 .z4] .n))))) .n)))) .n)))) .n)) [K13,K42,K44,K77] (by kernel_rfl) (by kernel_rfl) (fun _=>rfl) fun x=>by kernel_rfl
def K46:Kn Tryz.prog VV:=mk 46 Tryz.f46 ⟨[.ls .zh,.v .z4],[.v .zh,.v .z3]⟩ (fun x=>y4 x.1 x.2.1) w2 u2 (.s .n (.s (.s .n (.l [0,1] [] [.of 4 4 3 3 .z4,.bm 4 2 67 .zh [(4,3)],.v 6 .z4] .n)) .n)) [K76] (by kernel_rfl) (by kernel_rfl) (fun _=>rfl) fun x=>by kernel_rfl
def K47:Kn Tryz.prog VV:=mk 47 Tryz.f47 ⟨[.v .zj,.v .z4],[.v .z3]⟩ (fun x=>a03 x.1 x.2.1) w1 u1 .n [] (by kernel_rfl) (by kernel_rfl) (fun _=>rfl) fun x=>by kernel_rfl
def K117:Kn Tryz.prog VV:=mk 117 Tryz.f117 ⟨[.ls .zo,.v .z4],[.v .z2]⟩ (fun x=>a5v x.1 x.2.1) w1 u1 (sk 2 (.s (.s .n (.l [0,1] [] [.bx 4 2 171 .z2,.bx 5 3 171 .z2,.v 6 .z4] .n)) .n)) [K47] (by kernel_rfl) (by kernel_rfl) (fun _=>rfl) fun x=>by kernel_rfl
def K81:Kn Tryz.prog VV:=mk 81 Tryz.f81 ⟨[.ls .zo,.v .z4],[.v .z4,.v .z3]⟩ (fun x=>a1q x.1 x.2.1) w2 u2 (sk 3 (.s (.s .n (.l [0,1] [] [.ow 6 2 69 .zo,.v 7 .z4,.v 8 .z4] .n)) .n)) [K42,K44,K47] (by kernel_rfl) (by kernel_rfl) (fun _=>rfl) fun x=>by kernel_rfl
def K118:Kn Tryz.prog VV:=mk 118 Tryz.f118 ⟨[.ls .zo,.v .z4],[.ls .z4]⟩ (fun x=>a6n x.1 x.2.1) w1 u1 (sk 2 (.s (.s .n (.l [0,1] [] [.ls 5 .z4,.v 6 .z4] .n)) .n)) [K45,K47] (by kernel_rfl) (by kernel_rfl) (fun _=>rfl) fun x=>by kernel_rfl
def K80:Kn Tryz.prog VV:=mk 80 Tryz.f80 ⟨[.ls .zo,.ls .zo,.v .zh,.v .z4],[.v .z4,.v .z3]⟩ (fun x=>a2c x.1 x.2.1 x.2.2.1 x.2.2.2.1) w2 u2 (sk 3 (.s (.s .n (.l [0,1,3] [] [.bx 6 4 67 .zh,.bx 10 5 171 .z2,.v 11 .z4,.v 12 .z4,.v 13 .z4,.v 14 .z4] .n)) .n)) [K81,K117,K118] (by kernel_rfl) (by kernel_rfl) (fun _=>rfl) fun x=>by kernel_rfl
def K48:Kn Tryz.prog VV:=mk 48 Tryz.f48 ⟨[.ls .zo,.ls .zo,.ls .zd,.v .zh,.v .z4],[.v .z4,.v .z4]⟩ (fun x=>a8v x.1 x.2.1 x.2.2.1 x.2.2.2.1 x.2.2.2.2.1) w2 u2 (sk 2 (.s (.s .n (.l [0,1,2,4] [] [.bx 8 5 67 .zh,.v 12 .z4,.v 13 .z4] .n)) (.s .n (.s (.s .n (.l [0,1,4] [] [.bx 8 5 67 .zh,.v 12 .z4,.v 14 .z4] .n)) (.s .n (.s .n (.s (.s .n (.l [0,1,4] [] [.v 12 .z4,.v 17 .z4] .n)) .n))))))) [K47,K80,K81] (by kernel_rfl) (by kernel_rfl) (fun _=>rfl) fun x=>by kernel_rfl
def K17:Kn Tryz.prog VV:=mk 17 Tryz.f17 ⟨[.ls .zo,.ls .zh],[.ow 86 .zi]⟩ (fun x=>a69 x.1 x.2.1) w1 u1 (sk 4 (.s (.s .n (.l [0,1] [] [.ow 5 2 69 .zo,.ow 6 3 94 .zd,.bx 7 4 44 .zj,.ls 8 .z4,.v 9 .z4] .n)) (.s (.s .n (.l [0,1] [] [.ow 5 2 69 .zo,.ow 6 3 94 .zd,.bx 7 4 44 .zj,.ls 8 .z4,.v 10 .z4] (.s .n (.s (.s .n (.s .n (.l [0,1,10] [] [.ow 5 2 69 .zo,.ow 6 3 94 .zd,.bx 7 4 44 .zj,.ls 8 .z4,.v 11 .z4] .n))) .n)))) (.s (.s .n (.l [0,1] [] [.ow 5 2 69 .zo,.ow 6 3 94 .zd,.bx 7 4 44 .zj,.ls 8 .z4,.v 12 .z4] .n)) (.s .n (.s (.s .n (.l [0,1,8] [] [.ow 5 2 69 .zo,.ow 6 3 94 .zd,.bx 7 4 44 .zj,.ow 13 5 86 .zi,.v 14 .z4] .n)) .n)))))) [K41,K42,K43,K44,K45,K46,K47,K48] (by kernel_rfl) (by kernel_rfl) (fun _=>rfl) fun x=>by kernel_rfl
def K40:Kn Tryz.prog VV:=mk 40 Tryz.f40 ⟨[.ls .zj],[.ow 44 .zj]⟩ (fun x=>a2d x.1) w1 u1 .n [K36] (by kernel_rfl) (by kernel_rfl) (fun _=>rfl) fun x=>by kernel_rfl
def K16:Kn Tryz.prog VV:=mk 16 Tryz.f16 ⟨[.ls .zi,.v .z4,.v .z4],[.ow 44 .zj]⟩ (fun x=>a4o x.1 x.2.1 x.2.2.1) w1 u1 (sk 2 (.s (.s .n (.l [0,1,2] [] [.ow 7 3 44 .zj,.v 8 .z4] .n)) .n)) [K40] (by kernel_rfl) (by kernel_rfl) (fun _=>rfl) fun x=>by kernel_rfl
def K18:Kn Tryz.prog VV:=mk 18 Tryz.f18 ⟨[.ls .zj,.ls .zj],[.ow 44 .zj]⟩ (fun x=>a7s x.1 x.2.1) w1 u1 .n [K36] (by kernel_rfl) (by kernel_rfl) (fun _=>rfl) fun x=>by kernel_rfl
def K20:Kn Tryz.prog VV:=mk 20 Tryz.f20 ⟨[.ls .zj,.ls .zj],[.ow 44 .zj]⟩ (fun x=>a4j x.1 x.2.1) w1 u1 .n [K36] (by kernel_rfl) (by kernel_rfl) (fun _=>rfl) fun x=>by kernel_rfl
def K19:Kn Tryz.prog VV:=mk 19 Tryz.f19 ⟨[.ls .zj],[.v .z4]⟩ (fun x=>a8q x.1) w1 u1 (sk 3 (.s (.s .n (.l [] [] [.v 3 .z4,.ow 4 1 44 .zj,.v 5 .z4] .n)) .n)) [K40] (by kernel_rfl) (by kernel_rfl) (fun _=>rfl) fun x=>by kernel_rfl
def f1k:Sig VV:=⟨[.ls .z4,.ls .z4,.ls .zr,.v .z4],[.v .z3]⟩
def fe_3:Fent VV:=⟨f1k,Bool,fun x=>a1k x.1 x.2.1 x.2.2.1 x.2.2.2.1,fun b=>((b,()),()),none⟩
def un_3:Ress VV f1k.rs×Outs VV f1k.ps -> Bool:=fun p=>p.1.1
def an_3:Ann VV.C:=(.s .n (.s .n (.s .n (.s .n (.s .n (.s .n (.s .n (.s (.s .n (.l [11,12] [] [.bx 9 4 28 .zb,.ow 10 5 69 .zo,.v 14 .z4,.v 15 .z4] .n)) (.s .n (.s .n (.s (.s .n (.l [14] [] [.bx 9 4 28 .zb,.ow 10 5 69 .zo,.ow 17 6 44 .zj,.ow 18 7 44 .zj,.v 19 .z4] .n)) .n)))))))))))
theorem ok_3:SX.Spec Tryz.prog 3 fe_3:=b0x (fe:=fe_3) uok (okl (e5r [K4,K5,K6,K7,K8,K9,K10,K11,K12,K13,K14,K15,K16,K17,K18,K19,K20])) mixed (fn:=Tryz.f3) (by kernel_rfl) un_3 an_3 (t7 (s:=f1k) (by kernel_rfl)).1 (t7 (s:=f1k) (by kernel_rfl)).2 (fun _=>rfl) fun x=>by kernel_rfl
end
end Go.PL
