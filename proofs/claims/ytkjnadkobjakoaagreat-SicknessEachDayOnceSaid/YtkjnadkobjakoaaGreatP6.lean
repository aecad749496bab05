/- Texts of the proof, joined. -/
import Derived.Test.YtkjnadkobjakoaaGreatP5
import Derived.KernelRfl
set_option linter.unusedVariables false
set_option linter.unusedSimpArgs false
set_option maxRecDepth 100000
namespace Go.PL
open Go Go.Sort
theorem d4i {l:List Span} (h:Nrm l) (i:Nat):Nrm (l.drop i):=⟨fun s hs=>h.1 s (List.mem_of_mem_drop hs),h.2.sublist (List.drop_sublist i l)⟩
theorem c86 {l:List Span} {s:Span} (h:Nrm (s::l)) {x:Int} (hx:InS l x):s.To<x:=by
 obtain ⟨v,hv,h1⟩:=hx
 have:=(b2j.1 h).2.1 v hv
 omega
set_option maxHeartbeats 2000000 in
theorem c4g (a b:List Span) (ha:a.length <= 2^40) (hb:b.length <= 2^40):
  ∃r,a9t a b=some r /\ Nrm r /\ ∀x,InS r x↔InS a x /\ InS b x /\ 0 <= x /\ x<73049:=by
 obtain ⟨z,hz,nz,mz,lz⟩:=b1e a ha
 obtain ⟨w,hw,nw,mw,lw⟩:=b1e b hb
 unfold a9t
 rw [hz,qA,hw,qA]
 refine a9s (f:=a9l)
  (fun st=> ∃(x:List Span) (i j:Nat),st=(z,w,x,(i:Int),(j:Int)) /\ i <= z.length /\ j <= w.length /\ Nrm x /\ (∀d,InS x d -> InS z d /\ InS w d) /\ (∀d,InS z d -> InS w d -> InS x d \/ (InS (z.drop i) d /\ InS (w.drop j) d)) /\
   (∀t∈x,∀y1∈z.drop i,∀y2∈w.drop j,t.To<max y1.From y2.From) /\ x.length <= i+j)
  (fun st=>z.length+w.length-st.2.2.2.1.toNat-st.2.2.2.2.toNat) _ ⟨[],0,0,rfl,Nat.zero_le _,Nat.zero_le _,c3d,fun d h=>absurd h b59,fun d h1 h2=> .inr (by simpa using ⟨h1,h2⟩),fun t h=>(by cases h),Nat.zero_le _⟩ (by dsimp only;omega) ?_
 rintro st rec ⟨x,i,j,rfl,hi,hj,n,m1,m2,m3,hl⟩
 unfold a9l
 dsimp only
 rw [m6,qA]
 by_cases hc:i<z.length /\ j<w.length
 ·right
  obtain ⟨hi',hj'⟩:=hc
  rw [if_pos (by simp;omega)]
  obtain ⟨y1,e1⟩: ∃y1,z[i]? =some y1:=⟨_,qG hi'⟩
  obtain ⟨y2,e2⟩: ∃y2,w[j]? =some y2:=⟨_,qG hj'⟩
  have d1:=b4h e1
  have d2:=b4h e2
  have nd1:Nrm (y1::z.drop (i+1)):=d1▸d4i nz i
  have nd2:Nrm (y2::w.drop (j+1)):=d2▸d4i nw j
  rw [d1,d2] at m2 m3
  have i1:InS z=InS z:=rfl
  have z1: ∀d,y1.From <= d /\ d<y1.To -> InS z d:=fun d h=>⟨y1,qE e1,h⟩
  have z2: ∀d,y2.From <= d /\ d<y2.To -> InS w d:=fun d h=>⟨y2,qE e2,h⟩
  have b1:=(b2j.1 nd1).2
  have b2:=(b2j.1 nd2).2
  have next: ∀x':List Span,Nrm x' -> (∀d,InS x' d↔InS x d \/ ((y1.From <= d /\ d<y1.To) /\ (y2.From <= d /\ d<y2.To))) -> (∀t∈x',t∈x \/ t.To=min y1.To y2.To) -> x'.length <= i+j+1 ->
    ∃s',Go.SX.joinC (a6w rec) (z,w,x',(i:Int),(j:Int))=rec s' /\ (∃(x:List Span) (i j:Nat),s'=(z,w,x,(i:Int),(j:Int)) /\ i <= z.length /\ j <= w.length /\ Nrm x /\ (∀d,InS x d -> InS z d /\ InS w d) /\ (∀d,InS z d -> InS w d -> InS x d \/ (InS (z.drop i) d /\ InS (w.drop j) d)) /\
     (∀t∈x,∀y1∈z.drop i,∀y2∈w.drop j,t.To<max y1.From y2.From) /\ x.length <= i+j) /\ z.length+w.length-s'.2.2.2.1.toNat-s'.2.2.2.2.toNat<z.length+w.length-(i:Int).toNat-(j:Int).toNat:=by
   intro x' n' q1 q2 q3
   rw [b4a];unfold a6w;dsimp only
   simp only [l6 e1,l6 e2,qA]
   rw [l9 (by omega),l9 (by omega)]
   have q4: ∀d,InS x' d -> InS z d /\ InS w d:=by
    intro d hd
    rcases (q1 d).1 hd with h | h
    ·exact m1 d h
    ·exact ⟨z1 d h.1,z2 d h.2⟩
   by_cases hlt:y1.To<y2.To
   ·rw [if_pos (by simpa using hlt)]
    refine ⟨_,rfl,⟨x',i+1,j,rfl,by omega,by omega,n',q4,fun d h1 h2=> ?_,fun t ht v1 hv1 v2 hv2=> ?_,by omega⟩,by simp only [Int.toNat_natCast];omega⟩
    ·rcases m2 d h1 h2 with h | ⟨h,h'⟩
     ·exact .inl ((q1 d).2 (.inl h))
     ·rcases a3w.1 h with g | g
      ·rcases a3w.1 h' with g' | g'
       ·exact .inl ((q1 d).2 (.inr ⟨g,g'⟩))
       ·have:=c86 nd2 g';omega
      ·right;rw [d2];exact ⟨g,h'⟩
    ·rw [d2] at hv2
     rcases q2 t ht with h | h
     ·exact m3 t h v1 (qJ _ hv1) v2 hv2
     ·have:=b1.1 v1 hv1;omega
   ·rw [if_neg (by simpa using hlt)]
    refine ⟨_,rfl,⟨x',i,j+1,rfl,by omega,by omega,n',q4,fun d h1 h2=> ?_,fun t ht v1 hv1 v2 hv2=> ?_,by omega⟩,by simp only [Int.toNat_natCast];omega⟩
    ·rcases m2 d h1 h2 with h | ⟨h,h'⟩
     ·exact .inl ((q1 d).2 (.inl h))
     ·rcases a3w.1 h' with g' | g'
      ·rcases a3w.1 h with g | g
       ·exact .inl ((q1 d).2 (.inr ⟨g,g'⟩))
       ·have:=c86 nd1 g;omega
      ·right;rw [d1];exact ⟨h,g'⟩
    ·rw [d1] at hv1
     rcases q2 t ht with h | h
     ·exact m3 t h v1 hv1 v2 (qJ _ hv2)
     ·have:=b2.1 v2 hv2;omega
  simp only [l6 e1,l6 e2,qA]
  by_cases ho:max y1.From y2.From<min y1.To y2.To
  ·rw [if_pos (by simpa using ho),a0e (by simp;omega),qA]
   refine next _ (a9w.2 ⟨n,fun t ht=>m3 t ht y1 (qI ..) y2 (qI ..),by dsimp only;omega,by dsimp only;omega,by dsimp only;omega⟩) (fun d=> ?_) (fun t ht=> ?_) (by simp;omega)
   ·rw [a93,b0q];dsimp only
    by_cases hx:InS x d
    ·simp [hx]
    ·simp only [hx,false_or];omega
   ·rcases qK.1 ht with h | h
    ·exact .inl h
    ·rw [qF] at h;subst h;exact .inr rfl
  ·rw [if_neg (by simpa using ho)]
   refine next _ n (fun d=> ?_) (fun t ht=> .inl ht) (by omega)
   by_cases hx:InS x d
   ·simp [hx]
   ·simp only [hx,false_or]
    refine ⟨fun h=>h.elim,fun h=> ?_⟩
    omega
 ·left
  rw [if_neg (by simp;omega)]
  refine ⟨x,rfl,n,fun d=> ?_⟩
  have:InS x d↔InS z d /\ InS w d:=by
   refine ⟨m1 d,fun h=> ?_⟩
   rcases m2 d h.1 h.2 with h | ⟨h1,h2⟩
   ·exact h
   ·exfalso
    by_cases hi':i<z.length
    ·rw [List.drop_eq_nil_of_le (by omega)] at h2;exact b59 h2
    ·rw [List.drop_eq_nil_of_le (by omega)] at h1;exact b59 h1
  rw [this,mz,mw]
  constructor
  ·rintro ⟨⟨h1,h2,h3⟩,h4,_⟩;exact ⟨h1,h4,h2,h3⟩
  ·rintro ⟨h1,h4,h2,h3⟩;exact ⟨⟨h1,h2,h3⟩,h4,h2,h3⟩
theorem c8o (a:List Span) (s:Span) (ha:a.length <= 2^40):
  ∃r,a0m a s=some r /\ Nrm r /\ ∀x,InS r x↔InS a x /\ (s.From <= x /\ x<s.To) /\ 0 <= x /\ x<73049:=by
 obtain ⟨r,h1,h2,h3⟩:=c4g a [s] ha (by simp)
 refine ⟨r,by unfold a0m;rw [h1];rfl,h2,fun x=> ?_⟩
 rw [h3,b0q]
theorem c69: ∀{l:List Int} {N lo:Int},l.Pairwise (· < ·) -> (∀x∈l,lo <= x /\ x <= N) -> lo <= N+1 -> (l.length:Int) <= N+1-lo
 | [],_,_,_,_,h=>by simp;omega
 | x::l,N,lo,hp,hr,h=>by
   obtain ⟨h1,h2⟩:=List.pairwise_cons.1 hp
   have hx:=hr x (qI ..)
   have:=c69 (l:=l) (N:=N) (lo:=x+1) h2 (fun y hy=>⟨h1 y hy,(hr y (qJ _ hy)).2⟩) (by omega)
   simp only [List.length_cons];omega
theorem c6v (l:List Int) (n:Int) (hl:l.length <= 2^40) (hs:l.Pairwise (· < ·)): ∃r,o9 l n=some r /\ r.Pairwise (· < ·) /\ ∀x,x∈r↔x=n \/ x∈l:=by
 unfold o9
 refine a9s (f:=a6o l n) (fun st=> ∃k:Nat,st=(k:Int) /\ k <= l.length /\ ∀u∈l.drop k,n <= u) (fun st=>st.toNat) _ ⟨l.length,rfl,Nat.le_refl _,by simp⟩ (by simp only [Int.toNat_natCast];omega) ?_
 rintro st rec ⟨k,rfl,hk,hd⟩
 unfold a6o
 have stop:(∀u∈l.take k,u<n) -> ∃r,(Option.bind (if decide ((k:Int)<(l.length:Int))=true then Option.bind (c8 l (k:Int)) fun y2=>some (y2==n) else some false) fun c2=>if c2=true then some l else
   Option.bind (a0j l 0 (k:Int)) fun s=>Option.bind (a4t 8 [] s) fun l_1=>Option.bind (a4t 8 l_1 [n]) fun l2=>Option.bind (a0j l (k:Int) (l.length:Int)) fun s2=>Option.bind (a4t 8 l2 s2) fun l3=>some l3)=some r /\ r.Pairwise (· < ·) /\ ∀x,x∈r↔x=n \/ x∈l:=by
  intro hlo
  have put:((∀u∈l.drop k,n<u)) -> ∃r,(Option.bind (a0j l 0 (k:Int)) fun s=>Option.bind (a4t 8 [] s) fun l_1=>Option.bind (a4t 8 l_1 [n]) fun l2=>Option.bind (a0j l (k:Int) (l.length:Int)) fun s2=>Option.bind (a4t 8 l2 s2) fun l3=>some l3)=some r /\ r.Pairwise (· < ·) /\ ∀x,x∈r↔x=n \/ x∈l:=by
   intro hhi
   have ed:(l.drop k).take (l.length-k)=l.drop k:=List.take_of_length_le (by simp)
   rw [a6a (by omega) (by omega) (by omega),qA,a0e (by simp;omega),qA,a0e (by simp;omega),qA,a6a (by omega) (by omega) (by omega),qA,a0e (by simp;omega),qA]
   refine ⟨_,rfl,?_,fun x=> ?_⟩
   ·simp only [Int.toNat_natCast,List.nil_append,Int.toNat_zero,Nat.sub_zero,List.drop_zero]
    rw [ed,List.append_assoc,List.pairwise_append]
    refine ⟨hs.sublist (List.take_sublist k l),?_,fun u hu v hv=> ?_⟩
    ·rw [List.singleton_append,List.pairwise_cons];exact ⟨hhi,hs.sublist (List.drop_sublist k l)⟩
    ·have:=hlo u hu
     rcases qK.1 hv with h | h
     ·rw [qF] at h;omega
     ·have:=hhi v h;omega
   ·simp only [Int.toNat_natCast,List.nil_append,Int.toNat_zero,Nat.sub_zero,List.drop_zero]
    rw [ed,qK,qK,qF]
    have e:x∈l↔x∈l.take k \/ x∈l.drop k:=by rw [<- qK,List.take_append_drop]
    rw [e]
    constructor
    ·rintro ((h | h) | h)
     ·exact .inr (.inl h)
     ·exact .inl h
     ·exact .inr (.inr h)
    ·rintro (h | h | h)
     ·exact .inl (.inr h)
     ·exact .inl (.inl h)
     ·exact .inr h
  by_cases hc:k<l.length
  ·obtain ⟨y,e⟩: ∃y,l[k]? =some y:=⟨_,qG hc⟩
   rw [if_pos (by simpa using hc),l6 e,qA,qA]
   have d:=b4h e
   by_cases hy:y=n
   ·rw [if_pos (by simpa using hy)]
    refine ⟨l,rfl,hs,fun x=>⟨.inr,fun h=> ?_⟩⟩
    rcases h with h | h
    ·rw [h,<- hy];exact qE e
    ·exact h
   ·rw [if_neg (by simpa using hy)]
    refine put fun u hu=> ?_
    have hs':=hs.sublist (List.drop_sublist k l)
    rw [d] at hu hd hs'
    have hy':=hd y (qI ..)
    rcases qO.1 hu with h | h
    ·omega
    ·have:=(List.pairwise_cons.1 hs').1 u h;omega
  ·rw [if_neg (by simpa using hc),qA,if_neg (by simp)]
   refine put fun u hu=> ?_
   rw [List.drop_eq_nil_of_le (by omega)] at hu;cases hu
 by_cases hk0:k=0
 ·left
  subst hk0
  rw [if_neg (by simp),qA,if_neg (by simp)]
  exact stop (by simp)
 ·obtain ⟨k,rfl⟩: ∃k',k=k'+1:=⟨k-1,by omega⟩
  obtain ⟨y,e⟩: ∃y,l[k]? =some y:=⟨_,qG (by omega)⟩
  have ei:i64 (((k+1:Nat):Int)-1)=(k:Int):=by rw [i7 (by omega) (by omega)];omega
  rw [if_pos (by simp),ei,l6 e,qA,qA]
  by_cases hy:n <= y
  ·right
   rw [if_pos (by simpa using hy)]
   refine ⟨_,rfl,⟨k,rfl,by omega,fun u hu=> ?_⟩,by simp only [Int.toNat_natCast];omega⟩
   rw [b4h e] at hu
   rcases qO.1 hu with h | h
   ·omega
   ·exact hd u h
  ·left
   rw [if_neg (by simpa using hy)]
   refine stop fun u hu=> ?_
   rw [a0c e] at hu
   rcases qK.1 hu with h | h
   ·have hs':=hs.sublist (List.take_sublist (k+1) l)
    rw [a0c e,List.pairwise_append] at hs'
    have:=hs'.2.2 u h y (qF.2 rfl);omega
   ·rw [qF] at h;omega
end Go.PL
namespace Go.PL
open Go Go.Sort
def inB (l:List Span) (x:Int):Bool:=l.any fun s=>decide (s.From <= x)&&decide (x<s.To)
theorem b2q {l:List Span} {x:Int}:inB l x=true↔InS l x:=by
 unfold inB InS;simp
theorem b7o (l:List Span) (day:Int) (hl:l.length <= 2^40):a2w l day=some (inB l day&&(decide (0 <= day)&&decide (day <= 73048))):=by
 unfold a2w
 refine o8 (f:=a2z l day) l (fun (_:Unit) i=>i) (fun _ i=>(inB (l.take i) day&&(decide (0 <= day)&&decide (day <= 73048)))=false) (fun o=>o=some (inB l day&&(decide (0 <= day)&&decide (day <= 73048)))) (by omega) ?_ ?_ () (by simp [inB])
 ·rintro rec _ i y hi hy h
  unfold a2z e7
  rw [if_pos (by simp;omega),l6 hy]
  simp only [qA,m6,ge_iff_le]
  rw [l9 (by omega)]
  by_cases hc:((decide (y.From <= day)&&decide (day<y.To))&&(decide (0 <= day)&&decide (day <= 73048)))=true
  ·left
   rw [if_pos hc]
   rw [qB] at hc
   have:inB l day=true:=by
    rw [b2q];refine ⟨y,qE hy,?_⟩
    have:=hc.1;simp at this;exact this
   rw [this,hc.2];rfl
  ·right
   rw [if_neg hc]
   refine ⟨(),rfl,?_⟩
   rw [a0c hy]
   rw [Bool.not_eq_true] at hc
   have e:inB (l.take i++[y]) day=(inB (l.take i) day||(decide (y.From <= day)&&decide (day<y.To))):=by unfold inB;simp
   rw [e,Bool.and_or_distrib_right,h,hc];rfl
 ·rintro rec _ h
  unfold a2z
  rw [if_neg (by simp)]
  rw [List.take_length] at h
  rw [h]
set_option maxHeartbeats 1000000 in
theorem d6c (L:List (List Span)) (hL:L.length <= 2^40) (hl: ∀l∈L,l.length <= 2^40):
  ∃z,a7p L=some z /\ z.Pairwise (· < ·) /\ (∀x∈z,0 <= x /\ x <= 73049) /\ ∀l∈L,∀s∈l,max s.From 0<min s.To 73049 -> max s.From 0∈z /\ min s.To 73049∈z:=by
 unfold a7p
 refine o8 (f:=a59 L) L (fun z i=>(z,i)) (fun z i=>z.Pairwise (· < ·) /\ (∀x∈z,0 <= x /\ x <= 73049) /\ ∀l∈L.take i,∀s∈l,max s.From 0<min s.To 73049 -> max s.From 0∈z /\ min s.To 73049∈z)
  (fun o=> ∃z,o=some z /\ z.Pairwise (· < ·) /\ (∀x∈z,0 <= x /\ x <= 73049) /\ ∀l∈L,∀s∈l,max s.From 0<min s.To 73049 -> max s.From 0∈z /\ min s.To 73049∈z) (by omega) ?_ ?_ [] ⟨.nil,fun x h=>(by cases h),fun l h=>by simp at h⟩
 ·rintro rec z i l hi hll ⟨h1,h2,h3⟩
  right
  unfold a59
  dsimp only
  rw [if_pos (by simp;omega)]
  have hlm:=hl l (qE hll)
  refine o8 (f:=a50 L (z,(i:Int)) rec) l (fun z i=>(z,i)) (fun z k=>z.Pairwise (· < ·) /\ (∀x∈z,0 <= x /\ x <= 73049) /\ (∀l∈L.take i,∀s∈l,max s.From 0<min s.To 73049 -> max s.From 0∈z /\ min s.To 73049∈z) /\ ∀s∈l.take k,max s.From 0<min s.To 73049 -> max s.From 0∈z /\ min s.To 73049∈z)
   (fun o=> ∃s',o=rec (s',((i+1:Nat):Int)) /\ s'.Pairwise (· < ·) /\ (∀x∈s',0 <= x /\ x <= 73049) /\ ∀l∈L.take (i+1),∀s∈l,max s.From 0<min s.To 73049 -> max s.From 0∈s' /\ min s.To 73049∈s') (by omega) ?_ ?_ z ⟨h1,h2,h3,fun s h=>by simp at h⟩
  ·rintro rec2 q k y hk hy ⟨a1,a2,a3,a4⟩
   right
   unfold a50 a92
   dsimp only
   rw [l6 hll,qA,if_pos (by simp;omega),qA,l6 hy,qA,qA,l9 (by omega)]
   dsimp only
   have hqn:q.length <= 2^40:=by
    have:=c69 a1 a2 (by omega);omega
   by_cases hc:max y.From 0<min y.To 73049
   ·rw [if_pos (by simpa using hc)]
    obtain ⟨q1,e1,s1,m1⟩:=c6v q (max y.From 0) hqn a1
    have b1: ∀x∈q1,0 <= x /\ x <= 73049:=fun x hx=>by
     rcases (m1 x).1 hx with h | h
     ·omega
     ·exact a2 x h
    have hq1:q1.length <= 2^40:=by
     have:=c69 s1 b1 (by omega);omega
    obtain ⟨q2,e2,s2,m2⟩:=c6v q1 (min y.To 73049) hq1 s1
    rw [e1,qA,e2,qA]
    have up: ∀x∈q,x∈q2:=fun x hx=>(m2 x).2 (.inr ((m1 x).2 (.inr hx)))
    refine ⟨q2,rfl,s2,fun x hx=> ?_,fun v hv s hs hh=> ?_,fun s hs hh=> ?_⟩
    ·rcases (m2 x).1 hx with h | h
     ·omega
     ·exact b1 x h
    ·exact ⟨up _ (a3 v hv s hs hh).1,up _ (a3 v hv s hs hh).2⟩
    ·rw [a0c hy] at hs
     rcases qK.1 hs with h | h
     ·exact ⟨up _ (a4 s h hh).1,up _ (a4 s h hh).2⟩
     ·rw [qF] at h;subst h
      exact ⟨(m2 _).2 (.inr ((m1 _).2 (.inl rfl))),(m2 _).2 (.inl rfl)⟩
   ·rw [if_neg (by simpa using hc)]
    refine ⟨q,rfl,a1,a2,a3,fun s hs hh=> ?_⟩
    rw [a0c hy] at hs
    rcases qK.1 hs with h | h
    ·exact a4 s h hh
    ·rw [qF] at h;subst h;omega
  ·rintro rec2 q ⟨a1,a2,a3,a4⟩
   unfold a50
   dsimp only
   rw [l6 hll,qA,if_neg (by simp),l9 (by omega)]
   refine ⟨q,rfl,a1,a2,fun v hv s hs hh=> ?_⟩
   rw [a0c hll] at hv
   rcases qK.1 hv with h | h
   ·exact a3 v h s hs hh
   ·rw [qF] at h;subst h
    rw [List.take_length] at a4
    exact a4 s hs hh
 ·rintro rec z ⟨h1,h2,h3⟩
  rw [List.take_length] at h3
  unfold a59
  dsimp only
  rw [if_neg (by simp)]
  exact ⟨z,rfl,h1,h2,h3⟩
theorem e37 (x:List Span) (s:Span) (hx:Nrm x) (h1:0 <= s.From) (h2:s.From<s.To) (h3:s.To <= 73049) (h4: ∀t∈x,t.To <= s.From):
  ∃r,b07 x s=some r /\ Nrm r /\ ∀d,InS r d↔InS x d \/ (s.From <= d /\ d<s.To):=by
 unfold b07
 have hlen:=b7b hx
 rcases f4y x with rfl | ⟨a,t,rfl⟩
 ·rw [if_neg (by simp),qA,if_neg (by simp),a0e (by simp),qA,a0e (by simp),qA]
  refine ⟨_,rfl,a9w.2 ⟨c3d,fun t h=>(by cases h),h1,h2,h3⟩,fun d=> ?_⟩
  rw [a93,b0q];rfl
 ·obtain ⟨n1,n2,n3⟩:=a9w.1 hx
  have hal:a.length<2^62:=by simp at hlen;omega
  rw [if_pos (by simp),c3i a t hal,qA,qA]
  have ht:=h4 t (by simp)
  by_cases hc:t.To=s.From
  ·rw [if_pos (by simpa using hc),a0e (by simp at hlen ⊢; omega),qA,List.nil_append,c3i a t hal,qA,qA,c11 a t _ hal]
   refine ⟨_,rfl,a9w.2 ⟨n1,n2,n3.1,by dsimp only;omega,h3⟩,fun d=> ?_⟩
   rw [a93,b0q,a93,b0q];dsimp only
   by_cases ha:InS a d
   ·simp [ha]
   ·simp only [ha,false_or];omega
  ·rw [if_neg (by simpa using hc),a0e (by simp at hlen ⊢; omega),qA,List.nil_append,a0e (by simp at hlen ⊢; omega),qA]
   refine ⟨_,rfl,a9w.2 ⟨hx,fun u hu=> ?_,h1,h2,h3⟩,fun d=> ?_⟩
   ·rcases qK.1 hu with h | h
    ·have:=n2 u h;omega
    ·rw [qF] at h;subst h;omega
   ·rw [a93 (a:=a++[t]),b0q]
def fm (p:Int) (u v:Bool):Bool:=((((p==1)&&u)&&v)||((p==2)&&(u||v)))||(((p==3)&&u)&&(!v))
theorem f6u {p:Int} {u v:Bool} (h:fm p u v=true):u=true \/ v=true:=by
 unfold fm at h
 cases u<;>cases v<;>simp_all
set_option maxHeartbeats 2000000 in
theorem b3d (a b:List Span) (p:Int) (ha:a.length <= 2^40) (hb:b.length <= 2^40):
  ∃r,a0v a b p=some r /\ Nrm r /\ ∀x,InS r x↔fm p (inB a x) (inB b x)=true /\ 0 <= x /\ x<73049:=by
 obtain ⟨z,hz,sz,rz,ez⟩:=d6c [a,b] (by simp) (by simp [ha,hb])
 have zlen:z.length <= 73050:=by have:=c69 sz rz (by omega);omega
 unfold a0v
 rw [hz,qA]
 have key: ∀l∈[a,b],∀d,InS l d -> 0 <= d -> d<73049 -> ∃e1∈z,∃e2∈z,e1 <= d /\ d<e2 /\ ∀d',e1 <= d' -> d'<e2 -> InS l d':=by
  rintro l hl d ⟨s,hs,h1,h2⟩ h3 h4
  obtain ⟨m1,m2⟩:=ez l hl s hs (by omega)
  exact ⟨_,m1,_,m2,by omega,by omega,fun d' g1 g2=>⟨s,hs,by omega,by omega⟩⟩
 have V: ∀d,(fm p (inB a d) (inB b d)=true /\ 0 <= d /\ d<73049) -> ∃e1∈z,∃e2∈z,e1 <= d /\ d<e2:=by
  rintro d ⟨h,h0,h1⟩
  rcases f6u h with h | h
  ·obtain ⟨e1,m1,e2,m2,g1,g2,_⟩:=key a (by simp) d (b2q.1 h) h0 h1;exact ⟨e1,m1,e2,m2,g1,g2⟩
  ·obtain ⟨e1,m1,e2,m2,g1,g2,_⟩:=key b (by simp) d (b2q.1 h) h0 h1;exact ⟨e1,m1,e2,m2,g1,g2⟩
 refine a9s (f:=a6m z a b p) (fun st=> ∃(x:List Span) (i:Nat),st=(x,(i:Int)) /\ i <= z.length /\ Nrm x /\ ∀d,InS x d↔(fm p (inB a d) (inB b d)=true /\ 0 <= d /\ d<73049) /\ ∀e∈z.drop i,d<e)
  (fun st=>z.length-st.2.toNat) _ ⟨[],0,rfl,Nat.zero_le _,c3d,fun d=>⟨fun h=>absurd h b59,fun ⟨h1,h2⟩=> ?_⟩⟩ (by dsimp only;omega) ?_
 ·obtain ⟨e1,m1,e2,m2,g1,g2⟩:=V d h1
  have:=h2 e1 (by simpa using m1);omega
 rintro st rec ⟨x,i,rfl,hi,n,m⟩
 unfold a6m
 dsimp only
 rw [l9 (by omega)]
 by_cases hc:i+1<z.length
 ·right
  rw [if_pos (by simp;omega)]
  obtain ⟨y1,e1⟩: ∃y,z[i]? =some y:=⟨_,qG (by omega)⟩
  obtain ⟨y2,e2⟩: ∃y,z[i+1]? =some y:=⟨_,qG (by omega)⟩
  have d1:=b4h e1
  have d2:=b4h e2
  have sd:(y1::y2::z.drop (i+1+1)).Pairwise (· < ·):=by rw [<- d2,<- d1];exact sz.sublist (List.drop_sublist i z)
  obtain ⟨p1,p2⟩:=List.pairwise_cons.1 sd
  obtain ⟨p3,_⟩:=List.pairwise_cons.1 p2
  have h12:=p1 y2 (qI ..)
  have r1:=rz y1 (qE e1)
  have r2:=rz y2 (qE e2)
  have zs: ∀e∈z,e <= y1 \/ y2 <= e:=by
   intro e he
   have hh:e∈z.take (i+1) \/ e∈z.drop (i+1):=by rw [<- qK,List.take_append_drop];exact he
   rcases hh with h | h
   ·left
    rw [a0c e1] at h
    rcases qK.1 h with h | h
    ·have:=sz.sublist (List.take_sublist (i+1) z)
     rw [a0c e1,List.pairwise_append] at this
     have:=this.2.2 e h y1 (qF.2 rfl);omega
    ·rw [qF] at h;omega
   ·right
    rw [d2] at h
    rcases qO.1 h with h | h
    ·omega
    ·have:=p3 e h;omega
  have same: ∀l∈[a,b],∀d,y1 <= d -> d<y2 -> (inB l d=inB l y1):=by
   intro l hl d g1 g2
   rw [Bool.eq_iff_iff,b2q,b2q]
   constructor
   ·intro h
    obtain ⟨f1,w1,f2,w2,q1,q2,q3⟩:=key l hl d h (by omega) (by omega)
    refine q3 y1 ?_ ?_
    ·rcases zs f1 w1 with h | h
     ·exact h
     ·omega
    ·omega
   ·intro h
    obtain ⟨f1,w1,f2,w2,q1,q2,q3⟩:=key l hl y1 h (by omega) (by omega)
    refine q3 d (by omega) ?_
    rcases zs f2 w2 with h | h<;>omega
  have lowE: ∀d,(∀e∈z.drop i,d<e)↔d<y1:=by
   intro d;rw [d1]
   constructor
   ·intro h;exact h y1 (qI ..)
   ·intro h e he
    rcases qO.1 he with h' | h'
    ·omega
    ·rw [d2] at h';have:=p1 e h';omega
  have lowE2: ∀d,(∀e∈z.drop (i+1),d<e)↔d<y2:=by
   intro d;rw [d2]
   constructor
   ·intro h;exact h y2 (qI ..)
   ·intro h e he
    rcases qO.1 he with h' | h'
    ·omega
    ·have:=p3 e h';omega
  have v1:(decide (0 <= y1)&&decide (y1 <= 73048))=true:=by simp;omega
  rw [l6 e1,qA,b7o a y1 ha,qA,qA,b7o b y1 hb,qA]
  simp only [m6,a04,qA,v1,Bool.and_true,l6 e2]
  have hfm:(((((p==1)&&inB a y1)&&inB b y1)||((p==2)&&(inB a y1||inB b y1)))||(((p==3)&&inB a y1)&&(!inB b y1)))=fm p (inB a y1) (inB b y1):=rfl
  rw [hfm]
  by_cases hf:fm p (inB a y1) (inB b y1)=true
  ·rw [if_pos hf]
   obtain ⟨r,er,nr,mr⟩:=e37 x (⟨y1,y2⟩:Span) n r1.1 h12 r2.2 (fun t ht=>by
    have q:=n.1 t ht
    have:=(m (t.To-1)).1 ⟨t,ht,by omega,by omega⟩
    have:=(lowE _).1 this.2
    dsimp only;omega)
   rw [er,qA]
   refine ⟨_,rfl,⟨r,i+1,rfl,by omega,nr,fun d=> ?_⟩,by simp only [Int.toNat_natCast];omega⟩
   rw [mr,m,lowE,lowE2]
   dsimp only
   constructor
   ·rintro (⟨h1,h2⟩ | ⟨h1,h2⟩)
    ·exact ⟨h1,by omega⟩
    ·rw [same a (by simp) d h1 h2,same b (by simp) d h1 h2];exact ⟨⟨hf,by omega,by omega⟩,h2⟩
   ·rintro ⟨h1,h2⟩
    by_cases h3:d<y1
    ·exact .inl ⟨h1,h3⟩
    ·exact .inr ⟨by omega,h2⟩
  ·rw [if_neg hf]
   refine ⟨_,rfl,⟨x,i+1,rfl,by omega,n,fun d=> ?_⟩,by simp only [Int.toNat_natCast];omega⟩
   rw [m,lowE,lowE2]
   constructor
   ·rintro ⟨h1,h2⟩;exact ⟨h1,by omega⟩
   ·rintro ⟨h1,h2⟩
    refine ⟨h1,?_⟩
    by_cases h3:d<y1
    ·exact h3
    ·exfalso
     rw [same a (by simp) d (by omega) h2,same b (by simp) d (by omega) h2] at h1
     exact hf h1.1
 ·left
  rw [if_neg (by simp;omega)]
  refine ⟨x,rfl,n,fun d=> ?_⟩
  rw [m]
  refine ⟨fun h=>h.1,fun h=>⟨h,fun e he=> ?_⟩⟩
  obtain ⟨f1,w1,f2,w2,q1,q2⟩:=V d h
  have hh:f2∈z.take i \/ f2∈z.drop i:=by rw [<- qK,List.take_append_drop];exact w2
  have hd1:(z.drop i).length <= 1:=by simp;omega
  match hzd:z.drop i,hd1 with
  | [],_=>rw [hzd] at he;cases he
  | [u],_=>
    rw [hzd] at he hh
    rw [qF] at he
    subst he
    rcases hh with h' | h'
    ·have:=sz
     rw [<- List.take_append_drop i z,hzd,List.pairwise_append] at this
     have:=this.2.2 f2 h' e (qF.2 rfl);omega
    ·rw [qF] at h';omega
end Go.PL
namespace Go.PL
open Go Go.SX
def b6t (k:Int):Prop:= ∃(s:ByteArray) (bS bT bH bC bA bR:Bool),b0c k=some s /\ q8 k=some s /\ (s.toList==a5j.toList)=false /\
 (o6 f0v s=some bS /\ i8 k 83=some bS) /\ (o6 f02 s=some bT /\ i8 k 84=some bT) /\ (o6 e8m s=some bH /\ i8 k 72=some bH) /\
 (o6 e8k s=some bC /\ i8 k 67=some bC) /\ (o6 e9c s=some bA /\ i8 k 65=some bA) /\ (o6 f0d s=some bR /\ i8 k 82=some bR)
theorem b9t {k:Int} (s:ByteArray) (bS bT bH bC bA bR:Bool) (h1:b0c k=some s) (h2:q8 k=some s) (h3:(s.toList==a5j.toList)=false)
 (a1:o6 f0v s=some bS) (b1:i8 k 83=some bS) (a2:o6 f02 s=some bT) (b2:i8 k 84=some bT) (a3:o6 e8m s=some bH) (b3:i8 k 72=some bH)
 (a4:o6 e8k s=some bC) (b4:i8 k 67=some bC) (a5:o6 e9c s=some bA) (b5:i8 k 65=some bA) (a6:o6 f0d s=some bR) (b6:i8 k 82=some bR):b6t k:=
 ⟨s,bS,bT,bH,bC,bA,bR,h1,h2,h3,⟨a1,b1⟩,⟨a2,b2⟩,⟨a3,b3⟩,⟨a4,b4⟩,⟨a5,b5⟩,a6,b6⟩
theorem f5l:b6t 1:=b9t a99 true true true true true false (by kernel_rfl) (by kernel_rfl) (by kernel_rfl) (by kernel_rfl) (by kernel_rfl) (by kernel_rfl) (by kernel_rfl) (by kernel_rfl) (by kernel_rfl) (by kernel_rfl) (by kernel_rfl) (by kernel_rfl) (by kernel_rfl) (by kernel_rfl) (by kernel_rfl)
theorem f3a:b6t 2:=b9t a5a true false true true true false (by kernel_rfl) (by kernel_rfl) (by kernel_rfl) (by kernel_rfl) (by kernel_rfl) (by kernel_rfl) (by kernel_rfl) (by kernel_rfl) (by kernel_rfl) (by kernel_rfl) (by kernel_rfl) (by kernel_rfl) (by kernel_rfl) (by kernel_rfl) (by kernel_rfl)
theorem f5b:b6t 4:=b9t b56 true true false false false false (by kernel_rfl) (by kernel_rfl) (by kernel_rfl) (by kernel_rfl) (by kernel_rfl) (by kernel_rfl) (by kernel_rfl) (by kernel_rfl) (by kernel_rfl) (by kernel_rfl) (by kernel_rfl) (by kernel_rfl) (by kernel_rfl) (by kernel_rfl) (by kernel_rfl)
theorem f4m:b6t 5:=b9t a7l true false false false false false (by kernel_rfl) (by kernel_rfl) (by kernel_rfl) (by kernel_rfl) (by kernel_rfl) (by kernel_rfl) (by kernel_rfl) (by kernel_rfl) (by kernel_rfl) (by kernel_rfl) (by kernel_rfl) (by kernel_rfl) (by kernel_rfl) (by kernel_rfl) (by kernel_rfl)
theorem f5p:b6t 6:=b9t b3h true false false true true false (by kernel_rfl) (by kernel_rfl) (by kernel_rfl) (by kernel_rfl) (by kernel_rfl) (by kernel_rfl) (by kernel_rfl) (by kernel_rfl) (by kernel_rfl) (by kernel_rfl) (by kernel_rfl) (by kernel_rfl) (by kernel_rfl) (by kernel_rfl) (by kernel_rfl)
theorem e8o:b6t 10:=b9t b5g true false false false false true (by kernel_rfl) (by kernel_rfl) (by kernel_rfl) (by kernel_rfl) (by kernel_rfl) (by kernel_rfl) (by kernel_rfl) (by kernel_rfl) (by kernel_rfl) (by kernel_rfl) (by kernel_rfl) (by kernel_rfl) (by kernel_rfl) (by kernel_rfl) (by kernel_rfl)
theorem e98:b6t 11:=b9t b4y false false false false false false (by kernel_rfl) (by kernel_rfl) (by kernel_rfl) (by kernel_rfl) (by kernel_rfl) (by kernel_rfl) (by kernel_rfl) (by kernel_rfl) (by kernel_rfl) (by kernel_rfl) (by kernel_rfl) (by kernel_rfl) (by kernel_rfl) (by kernel_rfl) (by kernel_rfl)
theorem f00:b6t 14:=b9t b9s false false false false false true (by kernel_rfl) (by kernel_rfl) (by kernel_rfl) (by kernel_rfl) (by kernel_rfl) (by kernel_rfl) (by kernel_rfl) (by kernel_rfl) (by kernel_rfl) (by kernel_rfl) (by kernel_rfl) (by kernel_rfl) (by kernel_rfl) (by kernel_rfl) (by kernel_rfl)
theorem d8j {k:Int} (h0:1 <= k) (h1:k <= 14):b6t k:=by
 have:k=1 \/ k=2 \/ k=3 \/ k=4 \/ k=5 \/ k=6 \/ k=7 \/ k=8 \/ k=9 \/ k=10 \/ k=11 \/ k=12 \/ k=13 \/ k=14:=by omega
 rcases this with rfl | rfl | rfl | rfl | rfl | rfl | rfl | rfl | rfl | rfl | rfl | rfl | rfl | rfl
 all_goals first | exact f5l | exact f3a | exact uses_3 | exact f5b | exact f4m | exact f5p | exact uses_7 | exact uses_8 | exact uses_9 | exact e8o | exact e98 | exact uses_12 | exact uses_13 | exact f00
theorem c7i {k:Int} (h:k<1 \/ 15 <= k):b0c k=some a5j /\ q8 k=some a5j:=by
 have e: ∀j:Int,1 <= j -> j <= 14 -> (k==j)=false:=by intro j _ _;simp;omega
 constructor
 ·unfold b0c b5o b1k b3e joinC
  simp [e 1,e 2,e 3,e 4,e 5,e 6,e 7,e 8,e 9,e 10,e 11,e 12,e 13,e 14]
 ·unfold q8
  rw [a04,qA,if_pos (by simp;omega)]
theorem a2q {k:Int} {s c:ByteArray} {n x lo hi:Int} {b:Bool} (h:o6 c s=some b /\ i8 k n=some b):
  (Option.bind (o6 c s) fun z=>a7t z x lo hi)=some (if b=true then decide (lo <= x)&&decide (x <= hi) else x==0) /\
  y5 k n x lo hi=some (if b=true then decide (lo <= x)&&decide (x <= hi) else x==0):=by
 obtain ⟨h1,h2⟩:=h
 constructor
 ·unfold a7t a7k
  rw [h1]
  simp only [m6,a04,qA]
  cases b<;>simp
 ·unfold y5
  rw [h2]
  simp only [m6,qA]
  cases b<;>simp
theorem d12 {α β γ:Type} (a:Option α) (f:α -> Option β) (g:β -> Option γ):(Option.bind a fun x=>Option.bind (f x) g)=Option.bind (Option.bind a f) g:=by cases a<;>rfl
set_option maxHeartbeats 4000000 in
theorem b76 (d:aQ): ∃b,b2l d=some b /\ j8 d=some b /\ (b=true -> 0 <= d.Span.From /\ d.Span.From<d.Span.To /\ d.Span.To <= 73049):=by
 by_cases hk:1 <= d.Kind /\ d.Kind <= 14
 ·obtain ⟨s,bS,bT,bH,bC,bA,bR,h1,h2,h3,hS,hT,hH,hC,hA,hR⟩:=d8j hk.1 hk.2
  obtain ⟨fS,rS⟩:=a2q (x:=d.State) (lo:=0) (hi:=5) hS
  obtain ⟨fT,rT⟩:=a2q (x:=d.Seat) (lo:=0) (hi:=5) hT
  obtain ⟨fH,rH⟩:=a2q (x:=d.Share) (lo:=1) (hi:=100) hH
  obtain ⟨fC,rC⟩:=a2q (x:=d.Currency) (lo:=1) (hi:=999) hC
  obtain ⟨fA,rA⟩:=a2q (x:=d.Amount) (lo:=0) (hi:=1000000000) hA
  obtain ⟨fR,rR⟩:=a2q (x:=d.Ref) (lo:=1) (hi:=99) hR
  generalize (if bS=true then decide (0 <= d.State)&&decide (d.State <= 5) else d.State==0)=vS at fS rS
  generalize (if bT=true then decide (0 <= d.Seat)&&decide (d.Seat <= 5) else d.Seat==0)=vT at fT rT
  generalize (if bH=true then decide (1 <= d.Share)&&decide (d.Share <= 100) else d.Share==0)=vH at fH rH
  generalize (if bC=true then decide (1 <= d.Currency)&&decide (d.Currency <= 999) else d.Currency==0)=vC at fC rC
  generalize (if bA=true then decide (0 <= d.Amount)&&decide (d.Amount <= 1000000000) else d.Amount==0)=vA at fA rA
  generalize (if bR=true then decide (1 <= d.Ref)&&decide (d.Ref <= 99) else d.Ref==0)=vR at fR rR
  unfold b2l j8
  simp only [d12,fS,fT,fH,fC,fA,fR,rS,rT,rH,rC,rA,rR,h1,h2,qA,h3,qM,if_false]
  unfold a7k b3s b4k b4c joinC
  simp only [qA,a04,m6]
  by_cases hI:(((((((decide (d.Issuer<0)||decide (6 <= d.Issuer))||decide (d.Number<1))||decide (999<d.Number))||decide (d.Version<1))||decide (99<d.Version))||decide (d.Person<1))||decide (99<d.Person))=true
  ·refine ⟨false,?_,?_,by simp⟩
   ·rw [if_pos]
    simp at hI ⊢; omega
   ·rw [if_pos]
    simp only [hI];rfl
  ·rw [Bool.not_eq_true] at hI
   simp only [hI,Bool.false_or,qM,if_false]
   rw [if_neg (by simp at hI ⊢; omega)]
   by_cases hP:0 <= d.Span.From /\ d.Span.From<d.Span.To /\ d.Span.To <= 73049
   ·have hp1:((decide (0 <= d.Span.From)&&decide (d.Span.From<d.Span.To))&&decide (d.Span.To <= 73049))=true:=by simp;omega
    have hp2:((decide (d.Span.From<0)||decide (d.Span.To <= d.Span.From))||decide (73049<d.Span.To))=false:=by simp;omega
    have e1:i64 (d.Span.From+1)=d.Span.From+1:=i7 (by omega) (by omega)
    have e2:i64 (d.Span.To-d.Span.From)=d.Span.To-d.Span.From:=i7 (by omega) (by omega)
    have e3:(d.Span.To==d.Span.From+1)= !(d.Span.To-d.Span.From != 1):=by
     rw [Bool.eq_iff_iff];simp;omega
    simp only [hp1,hp2,e1,e2,e3,Bool.not_true,Bool.or_false,qM,if_false]
    refine ⟨!(((((d.Kind==11)||(d.Kind==12))&&(d.Span.To-d.Span.From != 1))||((d.Kind==4)&&(d.Seat==d.State)))||(((d.Kind==10)||(d.Kind==14))&&(d.Ref==d.Person)))&&(((((vS&&vT)&&vH)&&vC)&&vA)&&vR),?_,?_,fun _=>hP⟩
    ·have hkk:d.Kind=4 \/ d.Kind=11 \/ d.Kind=12 \/ d.Kind=10 \/ d.Kind=14 \/ ((d.Kind==4)=false /\ (d.Kind==11)=false /\ (d.Kind==12)=false /\ (d.Kind==10)=false /\ (d.Kind==14)=false):=by simp;omega
     rcases hkk with h | h | h | h | h | ⟨g1,g2,g3,g4,g5⟩
     ·simp only [h];cases vS<;>cases vT<;>cases vH<;>cases vC<;>cases vA<;>cases vR<;>simp
      show (!(d.State==d.Seat))=(!(d.Seat==d.State))
      rw [BEq.comm]
     ·simp only [h];cases vS<;>cases vT<;>cases vH<;>cases vC<;>cases vA<;>cases vR<;>simp
     ·simp only [h];cases vS<;>cases vT<;>cases vH<;>cases vC<;>cases vA<;>cases vR<;>simp
     ·simp only [h];cases vS<;>cases vT<;>cases vH<;>cases vC<;>cases vA<;>cases vR<;>simp
      rfl
     ·simp only [h];cases vS<;>cases vT<;>cases vH<;>cases vC<;>cases vA<;>cases vR<;>simp
      rfl
     ·simp only [g1,g2,g3,g4,g5];cases vS<;>cases vT<;>cases vH<;>cases vC<;>cases vA<;>cases vR<;>simp
    ·generalize (((((d.Kind==11)||(d.Kind==12))&&(d.Span.To-d.Span.From != 1))||((d.Kind==4)&&(d.Seat==d.State)))||(((d.Kind==10)||(d.Kind==14))&&(d.Ref==d.Person)))=sp
     cases sp<;>cases vS<;>cases vT<;>cases vH<;>cases vC<;>cases vA<;>cases vR<;>simp
   ·have hp1:((decide (0 <= d.Span.From)&&decide (d.Span.From<d.Span.To))&&decide (d.Span.To <= 73049))=false:=by simp;omega
    have hp2:((decide (d.Span.From<0)||decide (d.Span.To <= d.Span.From))||decide (73049<d.Span.To))=true:=by simp;omega
    refine ⟨false,?_,?_,by simp⟩
    ·rw [if_pos];simp only [hp1,Bool.not_false,Bool.or_true]
    ·rw [if_pos hp2];simp
 ·obtain ⟨h1,h2⟩:=c7i (k:=d.Kind) (by omega)
  refine ⟨false,?_,?_,by simp⟩
  ·unfold b2l
   simp [h1]
  ·unfold j8
   simp only [a04,qA]
   simp [h2]
end Go.PL
namespace Go.PL
open Go Go.SX
def vld (f:aQ):Bool:=(j8 f).getD false
def cur (f:aQ):Bool:=vld f&& !f.Withdrawn
theorem b1m (f:aQ):j8 f=some (vld f):=by
 obtain ⟨b,h1,h2,_⟩:=b76 f
 unfold vld;rw [h2];rfl
theorem d6t (f:aQ):b2l f=some (vld f):=by
 obtain ⟨b,h1,h2,_⟩:=b76 f
 unfold vld;rw [h2,h1];rfl
theorem b40 (f:aQ):a4s f=some (cur f):=by
 unfold a4s cur
 rw [d6t,qA,m6,qA]
theorem d31 {f:aQ} (h:cur f=true):0 <= f.Span.From /\ f.Span.From<f.Span.To /\ f.Span.To <= 73049:=by
 obtain ⟨b,h1,h2,h3⟩:=b76 f
 unfold cur vld at h
 rw [h2] at h
 simp at h
 exact h3 h.1
theorem b4i (l:List aQ) (hl:l.length <= 2^30):a0h l=some (l.filter cur):=by
 unfold a0h
 refine b4n (k:=112) l cur hl (by omega) (fun rec s i y hy=> ?_) fun rec s=> ?_
 ·have hi:=(qD.1 hy).1
  unfold a5o
  dsimp only
  rw [if_pos (a1j hi)]
  simp only [l6 hy,qA,b1m,m6]
  rfl
 ·unfold a5o
  dsimp only
  rw [if_neg (a0i _)]
theorem c2v (l:List aQ) (hl:l.length <= 2^30):a6j l=some (l.filter cur):=by
 unfold a6j a2g
 rw [b4n (k:=112) l cur hl (by omega) (fun rec s i y hy=> ?_) fun rec s=> ?_,qA]
 ·have hi:=(qD.1 hy).1
  unfold a1h
  dsimp only
  rw [if_pos (a1j hi)]
  simp only [l6 hy,qA,b40]
 ·unfold a1h
  dsimp only
  rw [if_neg (a0i _)]
def ofP (l:List aQ) (p:Int):List aQ:=l.filter fun f=>f.Person==p
theorem e8l (l:List aQ) (p:Int):(ofP l p).length <= l.length:=List.length_filter_le _ _
theorem f4z (l:List aQ) (p:Int) (hl:l.length <= 2^30):b09 l p=some (ofP l p):=by
 unfold b09 ofP
 refine b4n (k:=112) l (fun f=>f.Person==p) hl (by omega) (fun rec s i y hy=> ?_) fun rec s=> ?_
 ·have hi:=(qD.1 hy).1
  unfold b05
  dsimp only
  rw [if_pos (a1j hi)]
  simp only [l6 hy,qA]
 ·unfold b05
  dsimp only
  rw [if_neg (a0i _)]
def b7a (kind:Int) (s:Int×Bool) (y:aQ):Int×Bool:=if (y.Kind==kind)&&(!s.2||decide (y.Span.From<s.1)) then (y.Span.From,true) else s
theorem d39 (l:List aQ) (kind:Int) (hl:l.length <= 2^30):b1a l kind=some ((l.filter cur).foldl (b7a kind) (0,false)):=by
 rw [List.foldl_filter]
 unfold b1a
 refine c2x (f:=a9n l kind) l (fun (s:Int×Bool) i=>(s.1,s.2,i)) (fun x y=>if cur y=true then b7a kind x y else x) (fun s=>some s) hl (0,false) (fun _ _=>True) trivial (fun rec s i y hy _=>⟨trivial,?_⟩) fun rec s _=> ?_
 ·have hi:=(qD.1 hy).1
  unfold a9n
  dsimp only
  rw [if_pos (a1j hi)]
  simp only [l6 hy,qA,b40,a04,m6]
  unfold b7a
  cases cur y
  ·simp
  ·simp only [Bool.true_and,if_true]
   by_cases hc:(y.Kind==kind&&(!s.2||decide (y.Span.From<s.1)))=true
   ·rw [if_pos hc,if_pos hc]
   ·rw [if_neg hc,if_neg hc]
 ·unfold a9n
  dsimp only
  rw [if_neg (a0i _)]
theorem d09 (l:List aQ) (kind:Int) (hl:l.length <= 2^30):a4g l kind=some ((l.filter cur).foldl (b7a kind) (0,false)):=by
 have hq:(l.filter cur).length <= 2^30:=Nat.le_trans (List.length_filter_le cur l) hl
 unfold a4g
 rw [b4i l hl,qA]
 generalize l.filter cur=q at hq
 refine c2x (f:=a4k kind) q (fun (s:Int×Bool) i=>(q,s.1,s.2,i)) (b7a kind) (fun s=>some s) hq (0,false) (fun _ _=>True) trivial (fun rec s i y hy _=>⟨trivial,?_⟩) fun rec s _=> ?_
 ·have hi:=(qD.1 hy).1
  unfold a4k
  dsimp only
  rw [if_pos (a1j hi)]
  simp only [l6 hy,qA,a04,m6]
  unfold b7a
  by_cases hc:(y.Kind==kind&&(!s.2||decide (y.Span.From<s.1)))=true
  ·rw [if_pos hc,if_pos hc]
  ·rw [if_neg hc,if_neg hc]
 ·unfold a4k
  dsimp only
  rw [if_neg (a0i _)]
def b77 (l:List aQ):Int×Bool:=(l.filter cur).foldl (b7a 12) (0,false)
theorem d9b (l:List aQ) (hl:l.length <= 2^30):b3l l=some (b77 l):=by
 unfold b3l;rw [d39 l 12 hl];rfl
theorem e2m (l:List aQ) (hl:l.length <= 2^30):a6u l=some (b77 l):=by
 unfold a6u;rw [d09 l 12 hl];rfl
end Go.PL
namespace Go.PL
open Go Go.SX
def b12 (n:Int):Nat -> List Int
 | 0=>[]
 | k+1=>IntKind.u8.wrap (f1l .i64 n (8*k))::b12 n k
theorem b0b (n:Int): ∀k,(b12 n k).length=k
 | 0=>rfl
 | k+1=>by simp [b12,b0b n k]
theorem c5t (b:List Int) (n:Int) (k:Nat) (hk:k <= 8) (hb:b.length <= 1000000):d8 b n (k:Int)=some (b++b12 n k):=by
 unfold d8
 have:=a9s (f:=a8z n) (fun st=> ∃(q:List Int) (j:Nat),st=(q,(j:Int)-1) /\ j <= k /\ q++b12 n j=b++b12 n k) (fun st=>(st.2+1).toNat) (fun r=>r=b++b12 n k)
  (s:=(b,i64 ((k:Int)-1))) ⟨b,k,by rw [i7 (by omega) (by omega)],Nat.le_refl _,rfl⟩ (by rw [i7 (by omega) (by omega)];dsimp only;omega) ?_
 ·obtain ⟨r,h1,h2⟩:=this;rw [h1,h2]
 ·rintro st rec ⟨q,j,rfl,hj,hq⟩
  unfold a8z
  dsimp only
  cases j with
  | zero=>
    left
    rw [if_neg (by simp)]
    refine ⟨_,rfl,?_⟩
    simpa [b12] using hq
  | succ j=>
    right
    have e1:((j+1:Nat):Int)-1=(j:Int):=by omega
    have hql:q.length <= 1000008:=by
     have:=congrArg List.length hq
     rw [qL,qL,b0b,b0b] at this;omega
    rw [e1,if_pos (by simp),i7 (n:=8*(j:Int)) (by omega) (by omega),e11 (by omega) (by omega)]
    unfold d3f
    rw [if_neg (by omega),qA,a0e (by simp;omega),qA,i7 (n:=(j:Int)-1) (by omega) (by omega)]
    refine ⟨_,rfl,⟨_,j,rfl,by omega,?_⟩,by dsimp only;omega⟩
    rw [<- hq,List.append_assoc];rfl
def d7p (d:aQ) (c:Int):List Int:=
 if c=83 then b12 d.State 1 else if c=80 then b12 d.Span.From 3++b12 d.Span.To 3 else if c=84 then b12 d.Seat 1 else if c=72 then b12 d.Share 1 else if c=67 then b12 d.Currency 2 else if c=65 then b12 d.Amount 4 else if c=82 then b12 d.Ref 1 else []
theorem e30 (d:aQ) (c:Int):(d7p d c).length <= 6:=by
 unfold d7p
 repeat' split
 all_goals simp [b0b]
def c4a (s:ByteArray):Prop:=s.size <= 10 /\ ∀i:Nat,i<s.size -> b47 s (i:Int)=some ((s.get! i).toNat:Int) /\ (s.get! i).toNat<128
def d0z (s:ByteArray) (i:Nat):List Int:=(List.range i).map fun j=>((s.get! j).toNat:Int)
theorem e0a (s:ByteArray) (i:Nat):d0z s (i+1)=d0z s i++[((s.get! i).toNat:Int)]:=by unfold d0z;rw [List.range_succ,List.map_append];rfl
theorem b89 (d:aQ): ∀l:List Int,(l.flatMap (d7p d)).length <= 6*l.length
 | []=>by simp
 | c::l=>by
   have:=b89 d l
   have h:=e30 d c
   rw [List.flatMap_cons,qL,List.length_cons];omega
set_option maxHeartbeats 1000000 in
theorem e5f (d:aQ) (s:ByteArray) (hs:c4a s) (b:List Int) (hb:b.length <= 1000):d5 FU (a4c s) (d,b,0)=some (b++(d0z s s.size).flatMap (d7p d)):=by
 have:=a9s (f:=a4c s) (fun st=> ∃i:Nat,st=(d,b++(d0z s i).flatMap (d7p d),(i:Int)) /\ i <= s.size) (fun st=>s.size-st.2.2.toNat) (fun r=>r=b++(d0z s s.size).flatMap (d7p d))
  (s:=(d,b,0)) ⟨0,by simp [d0z],Nat.zero_le _⟩ (by dsimp only;have:=hs.1;omega) ?_
 ·obtain ⟨r,h1,h2⟩:=this;rw [h1,h2]
 ·rintro st rec ⟨i,rfl,hi⟩
  have hs1:=hs.1
  have hlen:(b++(d0z s i).flatMap (d7p d)).length <= 2000:=by
   have:=b89 d (d0z s i)
   have hl:(d0z s i).length=i:=by simp [d0z]
   rw [qL];omega
  unfold a4c
  dsimp only
  by_cases h:i<s.size
  ·right
   obtain ⟨h1,_⟩:=hs.2 i h
   rw [if_pos (by simpa using h),h1,qA,l9 (by omega)]
   refine ⟨(d,b++(d0z s (i+1)).flatMap (d7p d),((i+1:Nat):Int)),?_,⟨i+1,rfl,h⟩,by simp only [Int.toNat_natCast];omega⟩
   rw [e0a,List.flatMap_append,<- List.append_assoc]
   generalize b++(d0z s i).flatMap (d7p d)=q at hlen⊢
   generalize ((s.get! i).toNat:Int)=c
   simp only [List.flatMap_cons,List.flatMap_nil,List.append_nil]
   have a1: ∀x,d8 q x 1=some (q++b12 x 1):=fun x=>c5t q x 1 (by omega) (by omega)
   have a2: ∀x,d8 q x 2=some (q++b12 x 2):=fun x=>c5t q x 2 (by omega) (by omega)
   have a4: ∀x,d8 q x 4=some (q++b12 x 4):=fun x=>c5t q x 4 (by omega) (by omega)
   have a3: ∀x,d8 q x 3=some (q++b12 x 3):=fun x=>c5t q x 3 (by omega) (by omega)
   have b3: ∀x y,d8 (q++b12 x 3) y 3=some (q++(b12 x 3++b12 y 3)):=fun x y=>by
    rw [<- List.append_assoc];exact c5t _ y 3 (by omega) (by rw [qL,b0b];omega)
   unfold d7p
   simp only [a1,a2,a3,a4,b3,qA,beq_iff_eq]
   repeat' split
   all_goals first | rfl | simp
  ·left
   have:i=s.size:=by omega
   subst this
   rw [if_neg (by simp)]
   exact ⟨_,rfl,rfl⟩
theorem d70:c4a a99:=⟨by decide,by decide⟩
theorem c8g:c4a a5a:=⟨by decide,by decide⟩
theorem f07:c4a b56:=⟨by decide,by decide⟩
theorem d37:c4a a7l:=⟨by decide,by decide⟩
theorem e4j:c4a b3h:=⟨by decide,by decide⟩
theorem f0h:c4a b5g:=⟨by decide,by decide⟩
theorem e9w:c4a b4y:=⟨by decide,by decide⟩
theorem f4j:c4a b9s:=⟨by decide,by decide⟩
theorem d51 {k:Int} (h0:1 <= k) (h1:k <= 14): ∃s,b0c k=some s /\ q8 k=some s /\ c4a s:=by
 have:k=1 \/ k=2 \/ k=3 \/ k=4 \/ k=5 \/ k=6 \/ k=7 \/ k=8 \/ k=9 \/ k=10 \/ k=11 \/ k=12 \/ k=13 \/ k=14:=by omega
 rcases this with rfl | rfl | rfl | rfl | rfl | rfl | rfl | rfl | rfl | rfl | rfl | rfl | rfl | rfl
 exact ⟨a99,by kernel_rfl,by kernel_rfl,d70⟩
 exact ⟨a5a,by kernel_rfl,by kernel_rfl,c8g⟩
 exact ⟨a5a,by kernel_rfl,by kernel_rfl,c8g⟩
 exact ⟨b56,by kernel_rfl,by kernel_rfl,f07⟩
 exact ⟨a7l,by kernel_rfl,by kernel_rfl,d37⟩
 exact ⟨b3h,by kernel_rfl,by kernel_rfl,e4j⟩
 exact ⟨a7l,by kernel_rfl,by kernel_rfl,d37⟩
 exact ⟨a7l,by kernel_rfl,by kernel_rfl,d37⟩
 exact ⟨a7l,by kernel_rfl,by kernel_rfl,d37⟩
 exact ⟨b5g,by kernel_rfl,by kernel_rfl,f0h⟩
 exact ⟨b4y,by kernel_rfl,by kernel_rfl,e9w⟩
 exact ⟨b4y,by kernel_rfl,by kernel_rfl,e9w⟩
 exact ⟨b4y,by kernel_rfl,by kernel_rfl,e9w⟩
 exact ⟨b9s,by kernel_rfl,by kernel_rfl,f4j⟩
theorem c70 {d:aQ} (h:vld d=true):1 <= d.Kind /\ d.Kind <= 14:=by
 by_cases hk:1 <= d.Kind /\ d.Kind <= 14
 ·exact hk
 ·exfalso
  have h2:=(c7i (k:=d.Kind) (by omega)).2
  have hv:=b1m d
  rw [h] at hv
  unfold j8 at hv
  simp only [a04,qA,h2] at hv
  simp at hv
def e5g (d:aQ):List Int:=[if d.Withdrawn=true then (1:Int) else 0,d.Person,d.Kind].flatMap (fun n=>b12 n 1)++((d0z ((b0c d.Kind).getD a5j) ((b0c d.Kind).getD a5j).size).flatMap (d7p d))
def c8i (d:aQ):List Int:=b12 d.Issuer 1++(b12 d.Number 2++(b12 d.Version 1++e5g d))
theorem d0b (d:aQ) (h:vld d=true):a4i d=some (c8i d):=by
 obtain ⟨k0,k1⟩:=c70 h
 obtain ⟨s,e1,e2,hs⟩:=d51 k0 k1
 have key: ∀x:Int,a4p (d,x)=some (b12 d.Issuer 1++(b12 d.Number 2++(b12 d.Version 1++([x,d.Person,d.Kind].flatMap (fun n=>b12 n 1)++(d0z s s.size).flatMap (d7p d))))):=by
  intro x
  unfold a4p
  dsimp only
  have B: ∀(b:List Int) (n:Int) (k:Nat),k <= 8 -> b.length <= 1000000 -> d8 b n (k:Int)=some (b++b12 n k):=fun b n k h1 h2=>c5t b n k h1 h2
  have a1:=B [] d.Issuer 1 (by omega) (by simp)
  have a2:=B ([]++b12 d.Issuer 1) d.Number 2 (by omega) (by simp [b0b])
  have a3:=B ([]++b12 d.Issuer 1++b12 d.Number 2) d.Version 1 (by omega) (by simp [b0b])
  have a4:=B ([]++b12 d.Issuer 1++b12 d.Number 2++b12 d.Version 1) x 1 (by omega) (by simp [b0b])
  have a5:=B ([]++b12 d.Issuer 1++b12 d.Number 2++b12 d.Version 1++b12 x 1) d.Person 1 (by omega) (by simp [b0b])
  have a6:=B ([]++b12 d.Issuer 1++b12 d.Number 2++b12 d.Version 1++b12 x 1++b12 d.Person 1) d.Kind 1 (by omega) (by simp [b0b])
  have c1:((1:Nat):Int)=1:=rfl
  have c2:((2:Nat):Int)=2:=rfl
  rw [c1] at a1 a3 a4 a5 a6;rw [c2] at a2
  rw [a1,qA,a2,qA,a3,qA,a4,qA,a5,qA,a6,qA,e2,qA,e5f d s hs _ (by simp [b0b])]
  simp
 unfold a4i c8i e5g
 rw [b1m,h,qA,if_neg (by simp),e1]
 cases hw:d.Withdrawn
 ·rw [if_neg (by simp)];rw [b4a,key];simp
 ·rw [if_pos rfl];rw [b4a,key];simp
end Go.PL
namespace Go.PL
open Go Go.SX
theorem d5a (p x y:List UInt8):Op.bytesLess (p++x) (p++y)=Op.bytesLess x y:=by
 induction p with
 | nil=>rfl
 | cons a p ih=>
   rw [List.cons_append,List.cons_append]
   show (decide (a<a)||(a==a&&Op.bytesLess (p++x) (p++y)))=_
   rw [ih]
   have: ¬a<a:=by
    have: ¬a.toNat<a.toNat:=Nat.lt_irrefl _
    exact this
   simp [this]
theorem b0p (x y:List Int):Lib.bytesOf (x++y)=Lib.bytesOf x++Lib.bytesOf y:=by unfold Lib.bytesOf;simp
theorem c2f (l:List Int):(b9o l).toList=Lib.bytesOf l:=by
 unfold b9o;rw [Lib.toList_data]
theorem b4j {d:aQ} (h:vld d=true):(0 <= d.Issuer /\ d.Issuer <= 5) /\ (1 <= d.Number /\ d.Number <= 999) /\ 1 <= d.Version /\ d.Version <= 99 /\ 1 <= d.Person /\ d.Person <= 99:=by
 have hv:=b1m d
 rw [h] at hv
 obtain ⟨s,e1,e2,_⟩:=d51 (c70 h).1 (c70 h).2
 unfold j8 at hv
 simp only [a04,qA,e2] at hv
 by_cases hb:(((((((decide (d.Issuer<0)||decide (6 <= d.Issuer))||decide (d.Number<1))||decide (999<d.Number))||decide (d.Version<1))||decide (99<d.Version))||decide (d.Person<1))||decide (99<d.Person))=true
 ·have hb2:(((((((decide (d.Issuer<0)||decide (d.Issuer >= 6))||decide (d.Number<1))||decide (d.Number>999))||decide (d.Version<1))||decide (d.Version>99))||decide (d.Person<1))||decide (d.Person>99))=true:=hb
  rw [hb2,Bool.true_or,if_pos rfl] at hv;cases hv
 ·simp at hb;omega
theorem d45 {v:Int} (h0:1 <= v) (h1:v <= 99):b12 v 1=[v]:=by
 unfold b12 b12 f1l
 have e:IntKind.u8.wrap (v.fdiv (2^(min (8*0:Int).toNat IntKind.i64.bits)))=v:=by
  have:(2^(min (8*0:Int).toNat IntKind.i64.bits):Int)=1:=by decide
  rw [this,Int.fdiv_one,IntKind.wrap_u8];omega
 have e0:((8*((0:Nat):Int)):Int)=(8*0:Int):=by simp
 rw [e0,e]
def d0k (a b:aQ):Bool:=Op.bytesLess (Lib.bytesOf (c8i a)) (Lib.bytesOf (c8i b))
theorem e4z {a b:aQ} (ha:vld a=true) (hb:vld b=true) (h1:a.Issuer=b.Issuer) (h2:a.Number=b.Number):a7w a b=some (d0k a b):=by
 have va:=(b4j ha).2.2
 have vb:=(b4j hb).2.2
 unfold a7w a3s
 rw [b1m,b1m,ha,hb]
 simp only [qA,Bool.not_true,qM,if_false]
 rw [if_neg (by simp [h1]),h2,Int.sub_self,qA,if_neg (by decide)]
 have hpre:d0k a b=Op.bytesLess (Lib.bytesOf (b12 a.Version 1++e5g a)) (Lib.bytesOf (b12 b.Version 1++e5g b)):=by
  unfold d0k c8i
  rw [h1,h2,b0p,b0p,b0p (b12 b.Issuer 1),b0p (b12 b.Number 2),d5a,d5a]
 by_cases hv:a.Version=b.Version
 ·rw [if_neg (by simp [hv]),d0b a ha,qA,d0b b hb,qA,c2f,c2f];simp [d0k]
 ·rw [if_pos (by simpa using hv),hpre,d45 va.1 va.2.1,d45 vb.1 vb.2.1]
  congr 1
  rw [b0p,b0p]
  show _=Op.bytesLess (a.Version.toNat.toUInt8::_) (b.Version.toNat.toUInt8::_)
  unfold Op.bytesLess
  have e1:(a.Version.toNat.toUInt8).toNat=a.Version.toNat:=by
   rw [Nat.toUInt8_eq,UInt8.toNat_ofNat'];omega
  have e2:(b.Version.toNat.toUInt8).toNat=b.Version.toNat:=by
   rw [Nat.toUInt8_eq,UInt8.toNat_ofNat'];omega
  have h3:(a.Version.toNat.toUInt8==b.Version.toNat.toUInt8)=false:=by
   rw [beq_eq_false_iff_ne]
   intro h
   have:=congrArg UInt8.toNat h
   omega
  rw [h3]
  have h4:(a.Version.toNat.toUInt8<b.Version.toNat.toUInt8)↔a.Version<b.Version:=by
   rw [UInt8.lt_iff_toNat_lt,e1,e2];omega
  simp [h4]
end Go.PL
namespace Go.PL
open Go Go.SX
def b6n (a b:aQ):Prop:=a.Issuer<b.Issuer \/ (a.Issuer=b.Issuer /\ a.Number<b.Number)
instance (a b:aQ):Decidable (b6n a b):=by unfold b6n;exact inferInstance
def b7t:List aQ -> aQ -> List aQ
 | [],f=>[f]
 | a::t,f=>if b6n a f then a::b7t t f else if b6n f a then f::a::t else (if d0k a f=true then f else a)::t
theorem d4z (f:aQ): ∀l,(b7t l f).length <= l.length+1
 | []=>Nat.le_refl _
 | a::t=>by
   have:=d4z f t
   unfold b7t
   split
   ·simp;omega
   ·split<;>simp
theorem c7b {f u:aQ}: ∀{l:List aQ},u∈b7t l f -> u∈l \/ u=f
 | [],h=>by rw [b7t,qF] at h;exact .inr h
 | a::t,h=>by
   unfold b7t at h
   split at h
   ·rcases qO.1 h with h | h
    ·exact .inl (h▸qI ..)
    ·exact (c7b h).imp (qJ _) id
   ·split at h
    ·rcases qO.1 h with h | h
     ·exact .inr h
     ·exact .inl h
    ·rcases qO.1 h with h | h
     ·split at h
      ·exact .inr h
      ·exact .inl (h▸qI ..)
     ·exact .inl (qJ _ h)
theorem c54 {a b c:aQ} (h1:b6n a b) (h2:b6n b c):b6n a c:=by unfold b6n at *; omega
theorem d3v {f:aQ}: ∀{l:List aQ},l.Pairwise b6n -> (b7t l f).Pairwise b6n
 | [],_=>List.pairwise_singleton _ _
 | a::t,h=>by
   obtain ⟨h1,h2⟩:=List.pairwise_cons.1 h
   unfold b7t
   split
   ·rename_i hc
    refine List.pairwise_cons.2 ⟨fun u hu=> ?_,d3v h2⟩
    rcases c7b hu with h | h
    ·exact h1 u h
    ·rw [h];exact hc
   ·rename_i hn
    split
    ·rename_i hc
     refine List.pairwise_cons.2 ⟨fun u hu=> ?_,h⟩
     rcases qO.1 hu with h | h
     ·rw [h];exact hc
     ·exact c54 hc (h1 u h)
    ·rename_i hm
     refine List.pairwise_cons.2 ⟨fun u hu=> ?_,h2⟩
     have:=h1 u hu
     split
     ·unfold b6n at *; omega
     ·exact this
theorem c7m {f:aQ} {q:List aQ}: ∀{p:List aQ},(∀u∈p,b6n u f) -> b7t (p++q) f=p++b7t q f
 | [],_=>rfl
 | a::p,h=>by
   rw [List.cons_append,List.cons_append,<- c7m (p:=p) fun u hu=>h u (qJ _ hu)]
   show (if b6n a f then _ else _)=_
   rw [if_pos (h a (qI ..))]
theorem e9f {f:aQ} {q:List aQ} (h: ∀u∈q,b6n f u):b7t q f=f::q:=by
 cases q with
 | nil=>rfl
 | cons a t=>
   have:=h a (qI ..)
   unfold b7t
   rw [if_neg (by unfold b6n at *; omega),if_pos this]
theorem e92 {f a:aQ} {q:List aQ} (h1:a.Issuer=f.Issuer) (h2:a.Number=f.Number):b7t (a::q) f=(if d0k a f=true then f else a)::q:=by
 unfold b7t
 rw [if_neg (by unfold b6n;omega),if_neg (by unfold b6n;omega)]
def c7w (l:List aQ):List aQ:=(l.filter vld).foldl b7t []
theorem c4w: ∀(l out:List aQ),(∀u∈l,vld u=true) -> (∀u∈out,vld u=true) -> out.Pairwise b6n -> (∀u∈l.foldl b7t out,vld u=true) /\ (l.foldl b7t out).Pairwise b6n /\ (l.foldl b7t out).length <= out.length+l.length
 | [],out,_,h2,h3=>⟨h2,h3,by simp⟩
 | f::l,out,h1,h2,h3=>by
   have:=c4w l (b7t out f) (fun u hu=>h1 u (qJ _ hu)) (fun u hu=>(c7b hu).elim (h2 u) (fun e=>e▸h1 f (qI ..))) (d3v h3)
   have hl:=d4z f out
   refine ⟨this.1,this.2.1,?_⟩
   have:=this.2.2
   simp only [List.foldl_cons,List.length_cons] at this ⊢; omega
theorem d1f (l:List aQ):(∀u∈c7w l,vld u=true) /\ (c7w l).Pairwise b6n /\ (c7w l).length <= l.length:=by
 have:=c4w (l.filter vld) [] (fun u hu=>(List.mem_filter.1 hu).2) (fun u h=>(by cases h)) .nil
 refine ⟨this.1,this.2.1,?_⟩
 have h2:=List.length_filter_le vld l
 have:=this.2.2
 simp only [List.length_nil] at this
 unfold c7w;omega
theorem e2i (l:List aQ) (y:aQ):c7w (l++[y])=if vld y=true then b7t (c7w l) y else c7w l:=by
 unfold c7w
 rw [List.filter_append,List.foldl_append]
 cases h:vld y<;>simp [h]
end Go.PL
namespace Go.PL
open Go Go.SX
theorem f8b {a b:aQ} (ha:vld a=true) (hb:vld b=true): ∃c,a3s a b=some c /\ (0<c↔b6n b a) /\ (c=0↔a.Issuer=b.Issuer /\ a.Number=b.Number):=by
 have va:=b4j ha
 have vb:=b4j hb
 unfold a3s
 by_cases h:a.Issuer=b.Issuer
 ·rw [if_neg (by simp [h]),i7 (by omega) (by omega)]
  refine ⟨_,rfl,?_,?_⟩
  ·unfold b6n;omega
  ·omega
 ·rw [if_pos (by simpa using h),i7 (by omega) (by omega)]
  refine ⟨_,rfl,?_,?_⟩
  ·unfold b6n;omega
  ·omega
set_option maxHeartbeats 1000000 in
theorem insR (a0 a1:List aQ) (x:List aQ) (x2:Int) (rec:((List aQ)×Int) -> Option (List aQ)) (v:aQ) (hv:vld v=true) (hx: ∀u∈x,vld u=true) (hs:x.Pairwise b6n) (hl:x.length <= 2^20):
  d5 FU (a4b rec (a0,a1,x,x2,v)) (x,v,(x.length:Int))=rec (b7t x v,i64 (x2+1)):=by
 refine b2h (f:=a4b rec (a0,a1,x,x2,v)) (fun st=> ∃k:Nat,st=(x,v,(k:Int)) /\ k <= x.length /\ ∀u∈x.drop k,b6n v u) (fun st=>st.2.2.toNat) (fun o=>o=rec (b7t x v,i64 (x2+1))) ⟨x.length,rfl,Nat.le_refl _,by simp⟩ (by simp only [Int.toNat_natCast];omega) ?_
 rintro st rec2 ⟨k,rfl,hk,hd⟩
 unfold a4b
 dsimp only
 have put:(∀u∈x.take k,b6n u v) -> (Option.bind (a0j x 0 (k:Int)) fun s=>Option.bind (a4t 112 [] s) fun l=>Option.bind (a4t 112 l [v]) fun l2=>Option.bind (a0j x (k:Int) (x.length:Int)) fun s2=>Option.bind (a4t 112 l2 s2) fun l3=>rec (l3,i64 (x2+1)))=rec (b7t x v,i64 (x2+1)):=by
  intro hlo
  have ed:(x.drop k).take (x.length-k)=x.drop k:=List.take_of_length_le (by simp)
  have ei:b7t x v=x.take k++v::x.drop k:=by
   have:=c7m (p:=x.take k) (q:=x.drop k) hlo
   rw [List.take_append_drop,e9f hd] at this
   exact this
  rw [a6a (by omega) (by omega) (by omega),qA,a0e (by simp;omega),qA,a0e (by simp;omega),qA,a6a (by omega) (by omega) (by omega),qA,a0e (by simp;omega),qA,ei]
  simp only [Int.toNat_natCast,List.nil_append,Int.toNat_zero,Nat.sub_zero,List.drop_zero]
  rw [ed]
  simp
 cases k with
 | zero=>
   left
   rw [if_neg (by simp),qA,if_neg (by simp),if_neg (by simp),qA,if_neg (by simp)]
   exact put (by simp)
 | succ k=>
   obtain ⟨y,e⟩: ∃y,x[k]? =some y:=⟨_,qG (by omega)⟩
   have ei:i64 (((k+1:Nat):Int)-1)=(k:Int):=by rw [i7 (by omega) (by omega)];omega
   have hyv:=hx y (qE e)
   obtain ⟨c,hc,c1,c2⟩:=f8b hyv hv
   have hlow: ∀u∈x.take k,b6n u y:=by
    have:=hs.sublist (List.take_sublist (k+1) x)
    rw [a0c e,List.pairwise_append] at this
    exact fun u hu=>this.2.2 u hu y (qF.2 rfl)
   rw [if_pos (by simp),if_pos (by simp),ei,l6 e]
   simp only [qA]
   rw [hc]
   simp only [qA]
   by_cases h1:0<c
   ·right
    rw [if_pos (by simpa using h1)]
    refine ⟨_,rfl,⟨k,rfl,by omega,fun u hu=> ?_⟩,by simp only [Int.toNat_natCast];omega⟩
    rw [b4h e] at hu
    rcases qO.1 hu with h | h
    ·rw [h];exact c1.1 h1
    ·exact hd u h
   ·left
    rw [if_neg (by simpa using h1)]
    by_cases h2:c=0
    ·rw [if_pos (by simpa using h2)]
     obtain ⟨i1,i2⟩:=c2.1 h2
     rw [e4z hyv hv i1 i2,qA]
     have hlo: ∀u∈x.take k,b6n u v:=fun u hu=>by have:=hlow u hu;unfold b6n at *; omega
     have ex:x=x.take k++y::x.drop (k+1):=by
      have:=(List.take_append_drop k x).symm
      rwa [b4h e] at this
     have ei:b7t x v=x.take k++(if d0k y v=true then v else y)::x.drop (k+1):=by
      have:=c7m (p:=x.take k) (q:=y::x.drop (k+1)) hlo
      rw [<- ex,e92 i1 i2] at this
      exact this
     cases hb:d0k y v with
     | true=>
       rw [if_pos rfl,ei,hb,if_pos rfl]
       congr 2
       unfold b0i
       rw [if_pos (Int.natCast_nonneg _),Int.toNat_natCast]
       have hk':(x.take k).length=k:=by rw [List.length_take];omega
       rw [List.set_eq_take_append_cons_drop,if_pos (by omega)]
     | false=>
       rw [if_neg (by simp),ei,hb,if_neg (by simp),<- ex]
    ·rw [if_neg (by simpa using h2)]
     refine put fun u hu=> ?_
     have hyl:b6n y v:=by
      have n1: ¬b6n v y:=fun h=>h1 (c1.2 h)
      have n2: ¬(y.Issuer=v.Issuer /\ y.Number=v.Number):=fun h=>h2 (c2.2 h)
      unfold b6n at *; omega
     rw [a0c e] at hu
     rcases qK.1 hu with h | h
     ·exact c54 (hlow u h) hyl
     ·rw [qF] at h;rw [h];exact hyl
theorem e0b (l:List aQ) (hl:l.length <= 2^20):a70 l []=some (c7w l):=by
 unfold a70
 refine o8 (f:=a4e l []) l (fun s i=>(s,i)) (fun s i=>s=c7w (l.take i)) (fun o=>o=some (c7w l)) (by omega) ?_ ?_ [] (by simp [c7w])
 ·rintro rec s i y hi hy rfl
  right
  refine ⟨_,?_,rfl⟩
  have ho:=d1f (l.take i)
  rw [List.length_take] at ho
  unfold a4e
  dsimp only
  rw [List.length_nil,i7 (by omega) (by omega),if_pos (by simp;omega),if_pos (by simp;omega),l6 hy,qA,b4a]
  unfold a74
  dsimp only
  rw [b1m,qA,a0c hy,e2i]
  cases hv:vld y with
  | false=>rw [if_pos (by rfl),if_neg (by simp),l9 (by omega)]
  | true=>rw [if_neg (by simp),if_pos rfl,insR _ _ _ _ _ _ hv ho.1 ho.2.1 (by omega),l9 (by omega)]
 ·rintro rec s rfl
  unfold a4e
  dsimp only
  rw [List.length_nil,i7 (by omega) (by omega),if_neg (by simp),List.take_length]
end Go.PL
namespace Go.PL
open Go Go.SX
theorem b9u (l:List Span) (hl:l.length <= 2^40):a2d l=a9g l:=by
 obtain ⟨r,h1,h2,h3,_⟩:=b1e l hl
 obtain ⟨q,g1,g2,g3⟩:=b3d l [] 2 hl (by simp)
 unfold a2d
 rw [g1,h1,qA]
 congr 1
 refine c0q g2 h2 fun x=> ?_
 rw [g3,h3,<- b2q]
 unfold fm inB
 simp
theorem e3l (l:List Span) (s:Span) (hl:l.length <= 2^40): ∃r,a0m l s=some r /\ a47 l s=some r /\ Nrm r:=by
 obtain ⟨r,h1,h2,h3⟩:=c8o l s hl
 obtain ⟨q,g1,g2,g3⟩:=b3d l [s] 1 hl (by simp)
 refine ⟨r,h1,?_,h2⟩
 unfold a47
 rw [g1,qA]
 congr 1
 refine c0q g2 h2 fun x=> ?_
 rw [g3,h3,<- b2q]
 unfold fm inB
 simp [and_assoc]
def e2t (n:Int) (s:Span):Int:=n+(s.To-s.From)
theorem c73 (l:List Span) (d:Int) (hl:l.length <= 2^30):b17 l d=some ((decide (0 <= d)&&decide (d <= 73048))&&inB l d):=by
 unfold b17
 rw [a04,qA]
 obtain ⟨n,h1,h2⟩:=c4v (f:=l8 l d) l (fun s=>decide (s.From <= d)&&decide (d<s.To)) hl (fun rec i y hy=>by
  have hi:=(qD.1 hy).1
  unfold l8 b1s
  rw [if_pos (a1j hi)]
  simp only [l6 hy,qA,m6]) fun rec=>by
  unfold l8
  rw [if_neg (a0i _)]
 have e:(decide (d<0)||decide (d >= 73049))= !(decide (0 <= d)&&decide (d <= 73048)):=by
  rw [Bool.eq_iff_iff];simp;omega
 rw [e]
 cases hc:(decide (0 <= d)&&decide (d <= 73048))
 ·rfl
 ·unfold p8 s6
  rw [h1,qA,qA,h2]
  rfl
end Go.PL
namespace Go.PL
open Go Go.SX
def TrF (T:List Rules):Prop:= ∃m:Int,0 <= m /\ m <= 450 /\ (T=[⟨0,m,730,25,[0,1,2]⟩] \/ T=[⟨0,m,730,25,[0,1]⟩,⟨35000,m,365,30,[0,1,2]⟩] \/ T=[⟨0,m,730,25,[0,1,2]⟩,⟨36000,m,730,25,[0,1]⟩])
theorem f1b {l:List Int} (hl:l.length <= 9223372036854775807):Tot (a8p l) fun x=>TrF x.Treaty:=by
 unfold a8p
 refine Tot.loop (σ:=(List State)×(List Rules)×(List Rate)×Laws×(List State)×(List Rules)×Laws×Int) (I:=fun v=>0 <= v.2.2.2.2.2.2.2 /\ v.2.2.2.2.2.2.2 <= 3 /\ (v.2.2.2.2.1.length:Int) <= v.2.2.2.2.2.2.2) (μ:=fun v=>(3-v.2.2.2.2.2.2.2).toNat) ⟨Int.le_refl _,by show (0:Int) <= 3;omega,Int.le_refl _⟩ (by show (3-0:Int).toNat<_;omega) ?_
 intro r v hI ih
 obtain ⟨g1,g2,g3⟩:=hI
 unfold b2p
 refine Tot.ite (fun hc=> ?_) fun _=> ?_
 ·simp at hc
  refine Tot.bind (b6l l hl g1 hc) fun t _=>Tot.bind (d8v t) fun q _=> ?_
  rw [a6l g1 (by omega)]
  refine Tot.ite (fun _=> ?_) fun _=> ?_
  ·refine Tot.bind (a6v (by simp;omega)) fun a ha=> ?_
   subst ha
   exact ih _ ⟨by show 0 <= v.2.2.2.2.2.2.2+1;omega,by show v.2.2.2.2.2.2.2+1 <= 3;omega,by simp;omega⟩ (by show (3-(v.2.2.2.2.2.2.2+1)).toNat<(3-v.2.2.2.2.2.2.2).toNat;omega)
  ·exact ih _ ⟨by show 0 <= v.2.2.2.2.2.2.2+1;omega,by show v.2.2.2.2.2.2.2+1 <= 3;omega,by show (v.2.2.2.2.1.length:Int) <= v.2.2.2.2.2.2.2+1;omega⟩ (by show (3-(v.2.2.2.2.2.2.2+1)).toNat<(3-v.2.2.2.2.2.2.2).toNat;omega)
 ·refine Tot.bind (a0a _ _ hl) fun a _=>Tot.bind (a0g (by omega) (by omega)) fun b hb=>Tot.bind (a0a _ _ hl) fun c _=>Tot.bind (a0g (by omega) (by omega)) fun d _=> ?_
  have e0: ∀x:Rules,c8 [x] 0=some x:=fun x=>rfl
  have e1: ∀x y:Rules,b0i [x] 0 y=[y]:=fun x y=>rfl
  have e2:i64 (90*b)=90*b:=i7 (by omega) (by omega)
  simp only [e0,e1,e2,qA]
  refine Tot.ite (fun _=>Tot.some ⟨90*b,by omega,by omega,.inl rfl⟩) fun _=>Tot.ite (fun _=> ?_) fun _=> ?_
  ·exact Tot.bind (a6v (by simp)) fun r hr=>Tot.some ⟨90*b,by omega,by omega,.inr (.inl hr)⟩
  ·exact Tot.bind (a6v (by simp)) fun r hr=>Tot.some ⟨90*b,by omega,by omega,.inr (.inr hr)⟩
theorem e2y {l:List Int} (hl:l.length <= 9223372036854775807):Tot (a87 l) fun r=>r.length=15 /\ ∀u∈r,u.Kind≠4:=by
 unfold a87
 refine Tot.loop (I:=fun v:List aQ×Int=>1 <= v.2 /\ v.2 <= 3 /\ (v.1.length:Int)=6*(v.2-1) /\ ∀u∈v.1,u.Kind≠4) (μ:=fun v=>(3-v.2).toNat) ⟨Int.le_refl _,by show (1:Int) <= 3;omega,rfl,fun u h=>by cases h⟩ (by show (3-1:Int).toNat<_;omega) ?_
 intro r v hI ih
 obtain ⟨g1,g2,g3,g4⟩:=hI
 unfold b1y
 refine Tot.ite (fun hc=> ?_) fun hc=> ?_
 ·simp at hc
  rw [a6l (by omega) (by omega)]
  repeat' first
   | (refine Tot.bind (a0a _ _ hl) fun _ _=> ?_)
   | (refine Tot.bind (a0g (by omega) (by omega)) fun _ _=> ?_)
   | (refine Tot.bind (a6v (by simp;omega)) fun _ h=> ?_;subst h)
  refine ih _ ⟨by show 1 <= v.2+1;omega,by show v.2+1 <= 3;omega,by simp;omega,fun u hu=> ?_⟩ (by show (3-(v.2+1)).toNat<(3-v.2).toNat;omega)
  simp only [qK,qF] at hu
  rcases hu with (((((hu | rfl) | rfl) | rfl) | rfl) | rfl) | rfl<;>first | exact g4 u hu | (dsimp only;decide)
 ·simp at hc
  repeat' first
   | (refine Tot.bind (a0a _ _ hl) fun _ _=> ?_)
   | (refine Tot.bind (a0g (by omega) (by omega)) fun _ _=> ?_)
   | (refine Tot.bind (a6v (by simp;omega)) fun _ h=> ?_;subst h)
  refine Tot.some ⟨by simp;omega,fun u hu=> ?_⟩
  simp only [qK,qF] at hu
  rcases hu with ((hu | rfl) | rfl) | rfl<;>first | exact g4 u hu | (dsimp only;decide)
def b51 (u:aQ):Bool:=u.Kind==4
structure a39 (f:List aQ):Prop where
 val: ∀u∈f,vld u=true
 len:f.length <= 27
 pos:(f.filter b51).length <= 12
theorem d4f (g:aQ): ∀l:List aQ,((b7t l g).filter b51).length <= (l.filter b51).length+(if b51 g=true then 1 else 0)
 | []=>by
   show (([g]:List aQ).filter b51).length <= _
   rw [List.filter_cons]
   cases b51 g<;>simp
 | a::t=>by
   have ih:=d4f g t
   unfold b7t
   split
   ·rw [List.filter_cons,List.filter_cons]
    cases h:b51 a
    ·simpa using ih
    ·simp only [if_true,List.length_cons];omega
   ·split
    ·rw [List.filter_cons]
     cases h:b51 g
     ·simp
     ·simp
    ·split
     ·rw [List.filter_cons,List.filter_cons]
      cases h:b51 g<;>cases h':b51 a<;>simp
     ·exact Nat.le_add_right _ _
theorem c21: ∀(l out:List aQ),((l.foldl b7t out).filter b51).length <= (out.filter b51).length+(l.filter b51).length
 | [],out=>by simp
 | g::l,out=>by
   have h1:=c21 l (b7t out g)
   have h2:=d4f g out
   rw [List.foldl_cons,List.filter_cons]
   split at h2<;>rename_i hg
   ·rw [if_pos hg];simp only [List.length_cons];omega
   ·rw [if_neg hg];omega
theorem f0y {v z:List aQ} (hv:v.length=15) (hn: ∀u∈v,u.Kind≠4) (hz:z.length <= 12):a39 (ofP (c7w (v++z)) 1):=by
 obtain ⟨h1,_,h3⟩:=d1f (v++z)
 refine ⟨fun u hu=>h1 u ((List.mem_filter.1 hu).1),?_,?_⟩
 ·have:=e8l (c7w (v++z)) 1
  simp at h3
  omega
 ·have e1:((ofP (c7w (v++z)) 1).filter b51).length <= ((c7w (v++z)).filter b51).length:=by
   unfold ofP
   rw [List.filter_filter,show (fun a=>b51 a&&a.Person==1)=fun a=>(a.Person==1)&&b51 a from funext fun a=>Bool.and_comm _ _,<- List.filter_filter]
   exact List.length_filter_le _ _
  have e2:((c7w (v++z)).filter b51).length <= (((v++z).filter vld).filter b51).length:=by
   unfold c7w
   simpa using c21 ((v++z).filter vld) []
  have e3:(((v++z).filter vld).filter b51).length <= ((v++z).filter b51).length:=by
   rw [List.filter_filter,show (fun a=>b51 a&&vld a)=fun a=>vld a&&b51 a from funext fun a=>Bool.and_comm _ _,<- List.filter_filter]
   exact List.length_filter_le _ _
  have e4:v.filter b51=[]:=by
   rw [List.filter_eq_nil_iff]
   intro u hu h
   exact hn u hu (by simpa [b51] using h)
  have e6:(v++z).filter b51=z.filter b51:=by rw [List.filter_append,e4,List.nil_append]
  rw [e6] at e3
  have e5:=List.length_filter_le b51 z
  omega
end Go.PL
namespace Go.PL
open Go Go.SX
theorem e1f {A T:List Posting} {x y:Posting}:b0i (b0i (A++y::x::T) ((A.length:Int)+1) y) (A.length:Int) x=A++x::y::T:=by
 have e1:((A.length:Int)+1).toNat=A.length+1:=by omega
 unfold b0i
 rw [if_pos (by omega),if_pos (by omega),e1,Int.toNat_natCast]
 rw [List.set_append_right _ _ (by omega),List.set_append_right _ _ (by omega)]
 simp
theorem d0y {A T:List Posting} {x:Posting}:c8 (A++x::T) (A.length:Int)=some x:=by
 rw [b2f];simp
theorem e8t {A T:List Posting} {x y:Posting}:b0i (A++y::x::T) ((A.length:Int)+1) y=A++y::y::T:=by
 have e1:((A.length:Int)+1).toNat=A.length+1:=by omega
 unfold b0i
 rw [if_pos (by omega),e1,List.set_append_right _ _ (by omega)]
 simp
def e8z (cmp:Posting -> Posting -> Option Int) (a1:Int) (r2:((List Posting)×Int) -> Option (List Posting)) (v1:(List Posting)×Int) (r4:((List Posting)×Int) -> Option (List Posting)) (v3:(List Posting)×Int):Option (List Posting):=
 (if (decide (v3.2>a1)) then (c8 v3.1 v3.2).bind fun v5=>(c8 v3.1 v3.2).bind fun v6=>(c8 v3.1 (i64 (v3.2-1))).bind fun v7=>(c8 v3.1 (i64 (v3.2-1))).bind fun v8=>(cmp v6 v8).bind fun v9=>some (decide (v9<0)) else some false).bind fun v10=>
 if v10 then (c8 v3.1 (i64 (v3.2-1))).bind fun v11=>(c8 v3.1 (i64 (v3.2-1))).bind fun v12=>(c8 v3.1 v3.2).bind fun v13=>(c8 v3.1 v3.2).bind fun v14=>(c8 v3.1 v3.2).bind fun v15=>(c8 v3.1 v3.2).bind fun v16=>
  (c8 (b0i v3.1 v3.2 v12) (i64 (v3.2-1))).bind fun v17=>(c8 (b0i v3.1 v3.2 v12) (i64 (v3.2-1))).bind fun v18=>r4 (b0i (b0i v3.1 v3.2 v12) (i64 (v3.2-1)) v14,i64 (v3.2-1))
 else r2 (v3.1,i64 (v1.2+1))
def e0n (cmp:Posting -> Posting -> Option Int) (a2:Int) (a1:Int) (r2:((List Posting)×Int) -> Option (List Posting)) (v1:(List Posting)×Int):Option (List Posting):=
 if (decide (v1.2<a2)) then d5 FU (e8z cmp a1 r2 v1) (v1.1,v1.2) else some v1.1
def f5u (cmp:Posting -> Posting -> Option Int) (a0:List Posting) (a1:Int) (a2:Int):Option (List Posting):=d5 FU (e0n cmp a2 a1) (a0,i64 (a1+1))
section
variable {c:Posting -> Posting -> Int} {cmp:Posting -> Posting -> Option Int} {S:Posting -> Prop}
structure Ordered (c:Posting -> Posting -> Int) (S:Posting -> Prop):Prop where
 asymm: ∀x y,S x -> S y -> c x y<0 -> ¬c y x<0
 trans: ∀x y z,S x -> S y -> S z -> ¬c y x<0 -> ¬c z y<0 -> ¬c z x<0
def Le (c:Posting -> Posting -> Int) (x y:Posting):Prop:= ¬c y x<0
theorem c2e (hO:Ordered c S) (hc: ∀x y,S x -> S y -> cmp x y=some (c x y)) (orig:List Posting) (hS: ∀x∈orig,S x) (hlen:orig.length <= 1000) (i:Nat) (rec:List Posting×Int -> Option (List Posting))
  (A:List Posting) (x:Posting) (C:List Posting) (hi:A.length=i) (hp:(A++x::C).Perm orig) (hs:A.Pairwise (Le c)):
  ∃A':List Posting,A'.length=i+1 /\ (A'++C).Perm orig /\ A'.Pairwise (Le c) /\
   d5 FU (e8z cmp 0 rec (A++x::C,(i:Int))) (A++x::C,(i:Int))=rec (A'++C,((i+1:Nat):Int)):=by
 have hil:i<1000:=by have:=hp.length_eq;simp at this;omega
 refine b2h (fun s=> ∃(A1 B:List Posting),s=(A1++x::(B++C),(A1.length:Int)) /\ A1.length+B.length=i /\ (A1++x::(B++C)).Perm orig /\ (A1++B).Pairwise (Le c) /\ ∀b∈B,Le c x b) (fun s=>s.2.toNat)
  (fun o=> ∃A':List Posting,A'.length=i+1 /\ (A'++C).Perm orig /\ A'.Pairwise (Le c) /\ o=rec (A'++C,((i+1:Nat):Int))) ⟨A,[],by simp [hi],by simpa using hi,by simpa using hp,by simpa using hs,by simp⟩ (by show ((i:Int)).toNat<_;omega) ?_
 rintro s rec2 ⟨A1,B,rfl,hl,hp1,hs1,hb⟩
 have hmem: ∀y∈A1++x::(B++C),S y:=fun y hy=>hS y (hp1.subset hy)
 have hSx:S x:=hmem x (by simp)
 have stop: ∀o:Option (List Posting),o=rec (A1++x::(B++C),i64 ((i:Int)+1)) -> (∀a∈A1,Le c a x) ->
   ∃A':List Posting,A'.length=i+1 /\ (A'++C).Perm orig /\ A'.Pairwise (Le c) /\ o=rec (A'++C,((i+1:Nat):Int)):=by
  intro o ho ha
  refine ⟨A1++x::B,by simp;omega,by simpa using hp1,?_,?_⟩
  ·rw [List.pairwise_append] at hs1⊢
   refine ⟨hs1.1,List.pairwise_cons.2 ⟨hb,hs1.2.1⟩,fun a h1 b h2=> ?_⟩
   rcases qO.1 h2 with h2 | h2
   ·rw [h2];exact ha a h1
   ·exact hs1.2.2 a h1 b h2
  ·rw [ho,i7 (by omega) (by omega)];simp
 unfold e8z
 rcases List.eq_nil_or_concat A1 with h0 | ⟨A2,y,h0⟩
 ·subst h0
  left
  have:decide ((([]:List Posting).length:Int)>(0:Int))=false:=by simp
  simp only [this,qM,if_false,qA]
  exact stop _ rfl (by simp)
 ·have h0:A1=A2++[y]:=by simpa using h0
  subst h0
  have e0:(((A2++[y]).length:Nat):Int)=(A2.length:Int)+1:=by simp
  have hd:decide ((((A2++[y]).length:Nat):Int)>(0:Int))=true:=by rw [e0,decide_eq_true_eq];omega
  have hA2:A2.length<1000:=by simp at hl;omega
  have e1:i64 ((((A2++[y]).length:Nat):Int)-1)=(A2.length:Int):=by rw [e0,i7 (by omega) (by omega)];omega
  have eL:A2++[y]++x::(B++C)=A2++y::x::(B++C):=by simp
  have g1:c8 (A2++[y]++x::(B++C)) (((A2++[y]).length:Nat):Int)=some x:=d0y
  have g2:c8 (A2++[y]++x::(B++C)) (A2.length:Int)=some y:=by rw [eL];exact d0y
  have g3:c8 (b0i (A2++[y]++x::(B++C)) (((A2++[y]).length:Nat):Int) y) (A2.length:Int)=some y:=by rw [eL,e0,e8t];exact d0y
  have hSy:S y:=hmem y (by simp)
  simp only [hd,if_true,g1,e1,g2,g3,hc x y hSx hSy,qA]
  by_cases hlt:c x y<0
  ·right
   simp only [hlt,decide_true,if_true]
   refine ⟨_,rfl,⟨A2,y::B,?_,by simp at hl ⊢; omega,?_,by simpa using hs1,?_⟩,by simp only [e0,Int.toNat_natCast];omega⟩
   ·rw [eL,e0,e1f];simp
   ·refine List.Perm.trans ?_ hp1
    rw [eL]
    exact List.Perm.append_left A2 (List.Perm.swap y x (B++C))
   ·intro b hbm
    rcases qO.1 hbm with hbm | hbm
    ·rw [hbm];exact hO.asymm x y hSx hSy hlt
    ·exact hb b hbm
  ·left
   simp only [hlt,decide_false,qM,if_false]
   refine stop _ rfl (fun a ha=> ?_)
   rw [qK,qF] at ha
   rcases ha with ha | ha
   ·have hay:Le c a y:=by
     rw [List.append_assoc,List.pairwise_append] at hs1
     exact hs1.2.2 a ha y (by simp)
    exact hO.trans a y x (hmem a (by simp [ha])) hSy hSx hay hlt
   ·rw [ha];exact hlt
theorem c8r (hO:Ordered c S) (hc: ∀x y,S x -> S y -> cmp x y=some (c x y)) (orig:List Posting) (hS: ∀x∈orig,S x) (hlen:orig.length <= 1000):
  ∃r,f5u cmp orig 0 (orig.length:Int)=some r /\ r.Perm orig /\ r.Pairwise (Le c):=by
 unfold f5u
 by_cases hne:orig=[]
 ·subst hne
  refine ⟨[],?_,List.Perm.refl _,List.Pairwise.nil⟩
  have: ∀k,0<k -> d5 k (e0n cmp (([]:List Posting).length:Int) 0) ([],i64 (0+1))=some []:=by
   intro k hk
   cases k with
   | zero=>exact absurd hk (Nat.lt_irrefl 0)
   | succ k=>show e0n _ _ _ _ _=_;unfold e0n;dsimp only;rw [if_neg (by rw [i7 (by omega) (by omega)];simp)]
  exact this FU (by unfold FU;omega)
 have hpos:0<orig.length:=List.length_pos_iff.2 hne
 have e1:i64 (0+1)=((1:Nat):Int):=by rw [i7 (by omega) (by omega)];rfl
 rw [e1]
 refine a9s (fun s=> ∃(A C:List Posting),s=(A++C,(A.length:Int)) /\ 1 <= A.length /\ (A++C).Perm orig /\ A.Pairwise (Le c)) (fun s=>orig.length-s.2.toNat) _ ?_ (by show orig.length-_<_;omega) ?_
 ·cases orig with
  | nil=>exact absurd rfl hne
  | cons x r=>exact ⟨[x],r,rfl,by simp,List.Perm.refl _,List.pairwise_singleton _ _⟩
 ·rintro s rec ⟨A,C,rfl,hA,hp,hs⟩
  unfold e0n
  dsimp only
  have hle:=hp.length_eq
  rw [qL] at hle
  cases C with
  | nil=>
    left
    rw [if_neg (by simp at hle ⊢; omega)]
    exact ⟨A++[],rfl,hp,by simpa using hs⟩
  | cons x C=>
    right
    rw [List.length_cons] at hle
    rw [if_pos (by simp;omega)]
    obtain ⟨A',h1,h2,h3,h4⟩:=c2e hO hc orig hS hlen A.length rec A x C rfl hp hs
    refine ⟨_,h4,⟨A',C,by rw [h1],by omega,h2,h3⟩,by simp only [Int.toNat_natCast];omega⟩
end
def sgn (p q:Int):Int:=if p<q then-1 else if q<p then 1 else 0
theorem c19 (x y:Int):a19 x y=some (sgn x y):=by
 unfold a19 a8u sgn
 simp only [bne_self_eq_false,qA,qM,if_false,decide_eq_true_eq,gt_iff_lt]
 split
 ·rfl
 ·split<;>rfl
def orI:List Int -> Int
 | []=>0
 | x::r=>if x=0 then orI r else x
theorem f01 (p q:Int):sgn p q<0↔p<q:=by
 unfold sgn;split
 ·omega
 ·split<;>omega
theorem e44 (p q:Int):sgn p q=0↔p=q:=by
 unfold sgn;split
 ·omega
 ·split<;>omega
theorem e38 (x:Int) (r:List Int):orI (x::r)<0↔x<0 \/ x=0 /\ orI r<0:=by
 simp only [orI];split<;>omega
theorem f7s (l:List Int) (hl:l.length <= 1000):b2c l=some (orI l):=by
 unfold b2c
 obtain ⟨r,h1,h2⟩:=a9s (f:=b1t l) (fun s=> ∃A B,l=A++B /\ s=(A.length:Int) /\ orI l=orI B) (fun s=>l.length-s.toNat) (fun r=>r=orI l) (s:=0) ⟨[],l,rfl,rfl,rfl⟩ (by show l.length-_<_;omega) (by
  rintro s rec ⟨A,B,hAB,rfl,ho⟩
  unfold b1t
  have hlen:l.length=A.length+B.length:=by rw [hAB];simp
  cases B with
  | nil=>
    left
    rw [if_neg (by simp at hlen ⊢; omega)]
    exact ⟨_,rfl,by rw [ho];rfl⟩
  | cons y B=>
    rw [List.length_cons] at hlen
    have hg:c8 l (A.length:Int)=some y:=by rw [hAB,b2f];simp
    rw [if_pos (by simp;omega),hg,qA]
    by_cases hy:y=0
    ·right
     rw [if_neg (by simp [hy]),i7 (n:=(A.length:Int)+1) (by omega) (by omega)]
     exact ⟨((A++[y]).length:Int),by simp,⟨A++[y],B,by rw [hAB];simp,rfl,by rw [ho,hy];rfl⟩,by simp;omega⟩
    ·left
     rw [if_pos (by simpa using hy)]
     exact ⟨_,rfl,by rw [ho];simp [orI,hy]⟩)
 rw [h1,h2]
theorem e8p:k9=f5u a02:=rfl
def e7r (a b:Posting):Int:=orI [sgn a.Span.From b.Span.From,sgn a.Seat b.Seat,sgn a.State b.State]
theorem b63 (a b:Posting):e7r a b<0↔a.Span.From<b.Span.From \/ a.Span.From=b.Span.From /\ (a.Seat<b.Seat \/ a.Seat=b.Seat /\ a.State<b.State):=by
 unfold e7r
 simp only [e38,f01,e44]
 simp [orI]
theorem d7t {a b:Posting} (h1: ¬e7r a b<0) (h2: ¬e7r b a<0):a.Span.From=b.Span.From /\ a.Seat=b.Seat /\ a.State=b.State:=by
 rw [b63] at h1 h2
 exact ⟨by omega,by omega,by omega⟩
theorem c7z (S:Posting -> Prop):Ordered e7r S:=by
 constructor
 ·intro x y _ _;rw [b63,b63];omega
 ·intro x y z _ _ _;rw [b63,b63,b63];omega
theorem e9x (a b:Posting):a02 a b=some (e7r a b):=by
 unfold a02
 simp only [c19,qA]
 rw [f7s _ (by simp)];rfl
def d2v:Nat -> Bool
 | 0=>true
 | n+1=>(c0w (u64 (n:Int))).isSome&&d2v n
theorem e0x:d2v 13=true:=by kernel_rfl
theorem d0f: ∀(k n:Nat),d2v k=true -> n<k -> (c0w (u64 (n:Int))).isSome=true
 | 0,n,_,h=>by omega
 | k+1,n,h,hn=>by
   simp only [d2v,qB] at h
   by_cases e:n=k
   ·rw [e];exact h.1
   ·exact d0f k n h.2 (by omega)
theorem d05 (l:List Posting) (hl:l.length <= 12) (r:List Posting) (h1:f5u a02 l 0 (l.length:Int)=some r):c9 l=some r:=by
 rw [<- e8p] at h1
 obtain ⟨n,hn⟩:=Option.isSome_iff_exists.1 (d0f 13 l.length e0x (by omega))
 unfold c9 s7
 rw [hn,qA]
 have key: ∀k,0<k -> ((c3 k).f_slices_pdqsortCmpFunc_of_api_Posting l 0 (l.length:Int) n)=some r:=by
  intro k hk
  cases k with
  | zero=>exact absurd hk (Nat.lt_irrefl 0)
  | succ k=>
    show g9 _ _ _ _ _=_
    unfold g9
    generalize c3 k=R
    have key2: ∀k,0<k -> d5 k (g8 R) (l,0,(l.length:Int),n,true,true)=some r:=by
     intro k hk
     cases k with
     | zero=>exact absurd hk (Nat.lt_irrefl 0)
     | succ k=>
       show g8 _ _ _=_
       unfold g8
       dsimp only
       rw [i7 (by omega) (by omega),if_pos (by simp;omega),h1,qA]
    exact key2 FU (by unfold FU;omega)
 rw [key FU (by unfold FU;omega),qA]
theorem c2u (l:List Posting) (hl:l.length <= 12): ∃r,c9 l=some r /\ r.Perm l /\ r.Pairwise (Le e7r):=by
 obtain ⟨r,h1,h2,h3⟩:=c8r (c:=e7r) (S:=fun _=>True) (cmp:=a02) (c7z _) (fun x y _ _=>e9x x y) l (fun _ _=>trivial) (by omega)
 exact ⟨r,d05 l hl r h1,h2,h3⟩
theorem d3s {α:Type} {R:α -> α -> Prop}: ∀{a b:List α},a.Perm b -> (∀x∈a,∀y∈a,R x y -> R y x -> x=y) -> a.Pairwise R -> b.Pairwise R -> a=b
 | [],b,hp,_,_,_=>by rw [List.nil_perm.1 hp]
 | x::a,[],hp,_,_,_=>absurd hp (by simp)
 | x::a,y::b,hp,hx,h1,h2=>by
   obtain ⟨g1,g2⟩:=List.pairwise_cons.1 h1
   obtain ⟨g3,g4⟩:=List.pairwise_cons.1 h2
   have e:x=y:=by
    have m1:x∈y::b:=hp.subset (by simp)
    have m2:y∈x::a:=hp.symm.subset (by simp)
    rcases qO.1 m1 with m1 | m1
    ·exact m1
    rcases qO.1 m2 with m2 | m2
    ·exact m2.symm
    exact hx x (by simp) y (by simp [m2]) (g1 y m2) (g3 x m1)
   subst e
   rw [d3s (List.perm_cons x |>.1 hp) (fun u hu v hv=>hx u (by simp [hu]) v (by simp [hv])) g2 g4]
end Go.PL
namespace Go.PL
open Go Go.SX
theorem f09 {f:aQ} (h:vld f=true):j8 f=some true:=by rw [b1m,h]
set_option maxHeartbeats 4000000 in
theorem b0u {f:aQ} (h:vld f=true):(1 <= f.Kind /\ f.Kind <= 14) /\ (0 <= f.State /\ f.State <= 5) /\ (0 <= f.Seat /\ f.Seat <= 5) /\ (0 <= f.Share /\ f.Share <= 100) /\ (f.Kind=1 \/ f.Kind=2 \/ f.Kind=3 -> 1 <= f.Share):=by
 have hv:=f09 h
 by_cases hk:1 <= f.Kind /\ f.Kind <= 14
 ·obtain ⟨s,bS,bT,bH,bC,bA,bR,h1,h2,h3,hS,hT,hH,hC,hA,hR⟩:=d8j hk.1 hk.2
  obtain ⟨_,rS⟩:=a2q (x:=f.State) (lo:=0) (hi:=5) hS
  obtain ⟨_,rT⟩:=a2q (x:=f.Seat) (lo:=0) (hi:=5) hT
  obtain ⟨_,rH⟩:=a2q (x:=f.Share) (lo:=1) (hi:=100) hH
  obtain ⟨_,rC⟩:=a2q (x:=f.Currency) (lo:=1) (hi:=999) hC
  obtain ⟨_,rA⟩:=a2q (x:=f.Amount) (lo:=0) (hi:=1000000000) hA
  obtain ⟨_,rR⟩:=a2q (x:=f.Ref) (lo:=1) (hi:=99) hR
  have hb:f.Kind=1 \/ f.Kind=2 \/ f.Kind=3 -> bH=true:=by
   have u1:i8 1 72=some true:=by kernel_rfl
   have u2:i8 2 72=some true:=by kernel_rfl
   have u3:i8 3 72=some true:=by kernel_rfl
   have:=hH.2
   rintro (e | e | e)<;>rw [e] at this
   ·exact (qH (u1.symm.trans this)).symm
   ·exact (qH (u2.symm.trans this)).symm
   ·exact (qH (u3.symm.trans this)).symm
  generalize eS:(if bS=true then decide (0 <= f.State)&&decide (f.State <= 5) else f.State==0)=vS at rS
  generalize eT:(if bT=true then decide (0 <= f.Seat)&&decide (f.Seat <= 5) else f.Seat==0)=vT at rT
  generalize eH:(if bH=true then decide (1 <= f.Share)&&decide (f.Share <= 100) else f.Share==0)=vH at rH
  generalize (if bC=true then decide (1 <= f.Currency)&&decide (f.Currency <= 999) else f.Currency==0)=vC at rC
  generalize (if bA=true then decide (0 <= f.Amount)&&decide (f.Amount <= 1000000000) else f.Amount==0)=vA at rA
  generalize (if bR=true then decide (1 <= f.Ref)&&decide (f.Ref <= 99) else f.Ref==0)=vR at rR
  unfold j8 at hv
  simp only [h2,rS,rT,rH,rC,rA,rR,qA,a04,m6] at hv
  have hv2:vS=true /\ vT=true /\ vH=true:=by
   split at hv
   ·cases hv
   ·split at hv
    ·cases hv
    ·split at hv
     ·cases hv
     ·have:=qH hv
      simp only [qB] at this
      exact ⟨this.1.1.1.1.1,this.1.1.1.1.2,this.1.1.1.2⟩
  obtain ⟨g1,g2,g3⟩:=hv2
  subst g1;subst g2;subst g3
  refine ⟨hk,?_,?_,?_,fun e=> ?_⟩
  ·cases bS<;>simp at eS<;>omega
  ·cases bT<;>simp at eT<;>omega
  ·cases bH<;>simp at eH<;>omega
  ·rw [hb e] at eH;simp at eH;omega
 ·obtain ⟨h1,h2⟩:=c7i (k:=f.Kind) (by omega)
  exfalso
  unfold j8 at hv
  simp only [a04,qA] at hv
  simp [h2] at hv
theorem e9k {f:aQ} (h:cur f=true):vld f=true:=by unfold cur at h;simp at h;exact h.1
theorem c5c {l:List aQ} {f:aQ} (h:f∈l.filter cur):vld f=true:=e9k (by simpa using (List.mem_filter.1 h).2)
def b6z {β:Type}:List ((Int×Int)×List β) -> Int×Int -> β -> List ((Int×Int)×List β)
 | [],k,x=>[(k,[x])]
 | q::r,k,x=>if q.1=k then (k,q.2++[x])::r else q::b6z r k x
theorem d8x {β:Type}: ∀(L:List ((Int×Int)×List β)) (k:Int×Int) (x:β),e5n L k x=b6z L k x
 | [],k,x=>rfl
 | q::r,k,x=>by
   have ih:=d8x r k x
   unfold e5n b7h at ih⊢
   unfold b6z
   by_cases hq:q.1=k
   ·simp [ixK,hq]
   ·rw [if_neg hq,<- ih]
    simp only [ixK,hq,if_false,List.length_cons]
    by_cases h:ixK r k<r.length
    ·rw [if_pos (by omega),if_pos h]
     simp only [List.getElem?_cons_succ]
     cases r[ixK r k]? <;>simp
    ·rw [if_neg (by omega),if_neg h]
     simp only [List.cons_append,List.getElem?_cons_succ]
     cases (r++[(k,([]:List β))])[ixK r k]? <;>simp
structure GpI (M:List ((Int×Int)×List Span)) (c:List aQ):Prop where
 nd:(M.map (·.1)).Nodup
 val: ∀q∈M,q.2=(c.filter fun f=>(f.Kind==4)&&(f.Seat==q.1.1)&&(f.State==q.1.2)).map (·.Span)
 key: ∀k:Int×Int,k∈M.map (·.1)↔ ∃f∈c,f.Kind=4 /\ (f.Seat,f.State)=k
 tot:(M.map (·.2.length)).sum=(c.filter b51).length
theorem b8p {β:Type}: ∀(L:List ((Int×Int)×List β)) (k:Int×Int) (x:β) (j:Int×Int),j∈(b6z L k x).map (·.1)↔j=k \/ j∈L.map (·.1)
 | [],k,x,j=>by simp [b6z]
 | q::r,k,x,j=>by
   unfold b6z
   by_cases hq:q.1=k
   ·rw [if_pos hq];simp [hq]
   ·rw [if_neg hq]
    have ih:=b8p r k x j
    simp only [List.map_cons,qO,ih]
    constructor
    ·rintro (h | h | h)
     ·exact .inr (.inl h)
     ·exact .inl h
     ·exact .inr (.inr h)
    ·rintro (h | h | h)
     ·exact .inr (.inl h)
     ·exact .inl h
     ·exact .inr (.inr h)
theorem d56 {β:Type}: ∀(L:List ((Int×Int)×List β)) (k:Int×Int) (x:β),(L.map (·.1)).Nodup -> ((b6z L k x).map (·.1)).Nodup
 | [],k,x,_=>by simp [b6z]
 | q::r,k,x,h=>by
   rw [List.map_cons,List.nodup_cons] at h
   unfold b6z
   by_cases hq:q.1=k
   ·rw [if_pos hq,List.map_cons,List.nodup_cons]
    rw [hq] at h;exact h
   ·rw [if_neg hq,List.map_cons,List.nodup_cons]
    refine ⟨fun hm=> ?_,d56 r k x h.2⟩
    rcases (b8p r k x q.1).1 hm with e | e
    ·exact hq e
    ·exact h.1 e
theorem c8x {β:Type}: ∀(L:List ((Int×Int)×List β)) (k:Int×Int) (x:β),((b6z L k x).map (·.2.length)).sum=(L.map (·.2.length)).sum+1
 | [],k,x=>by simp [b6z]
 | q::r,k,x=>by
   unfold b6z
   by_cases hq:q.1=k
   ·rw [if_pos hq];simp;omega
   ·rw [if_neg hq]
    have:=c8x r k x
    simp only [List.map_cons,List.sum_cons,this];omega
theorem c87 {β:Type}: ∀(L:List ((Int×Int)×List β)) (k:Int×Int) (x:β) (q:(Int×Int)×List β),(L.map (·.1)).Nodup -> q∈b6z L k x ->
  (q.1≠k /\ q∈L) \/ (q.1=k /\ ((∃p∈L,p.1=k /\ q.2=p.2++[x]) \/ (k∉L.map (·.1) /\ q.2=[x])))
 | [],k,x,q,_,h=>by
   simp [b6z] at h
   subst h
   exact .inr ⟨rfl,.inr ⟨by simp,rfl⟩⟩
 | p::r,k,x,q,hn,h=>by
   rw [List.map_cons,List.nodup_cons] at hn
   unfold b6z at h
   by_cases hq:p.1=k
   ·rw [if_pos hq] at h
    rcases qO.1 h with e | e
    ·subst e
     exact .inr ⟨rfl,.inl ⟨p,by simp,hq,rfl⟩⟩
    ·refine .inl ⟨fun e2=> ?_,by simp [e]⟩
     exact hn.1 (by rw [hq,<- e2];exact List.mem_map.2 ⟨q,e,rfl⟩)
   ·rw [if_neg hq] at h
    rcases qO.1 h with e | e
    ·subst e
     exact .inl ⟨hq,by simp⟩
    ·rcases c87 r k x q hn.2 e with ⟨a,b⟩ | ⟨a,⟨p',b,c,d⟩ | ⟨b,c⟩⟩
     ·exact .inl ⟨a,by simp [b]⟩
     ·exact .inr ⟨a,.inl ⟨p',by simp [b],c,d⟩⟩
     ·exact .inr ⟨a,.inr ⟨by simp only [List.map_cons,qO,not_or];exact ⟨fun e=>hq e.symm,b⟩,c⟩⟩
theorem e4i {M:List ((Int×Int)×List Span)} {c:List aQ} (f:aQ) (h:GpI M c):GpI (b35 M f) (c++[f]):=by
 unfold b35
 by_cases hk:f.Kind=4
 ·rw [if_pos hk,d8x]
  have hk':(f.Kind==4)=true:=by simp [hk]
  refine ⟨d56 M _ _ h.nd,fun q hq=> ?_,fun k=> ?_,?_⟩
  ·rw [List.filter_append,List.map_append]
   rcases c87 M _ _ q h.nd hq with ⟨a,b⟩ | ⟨a,⟨p,b,e,g⟩ | ⟨b,e⟩⟩
   ·rw [<- h.val q b]
    have:((f.Kind==4)&&(f.Seat==q.1.1)&&(f.State==q.1.2))=false:=by
     rw [Bool.eq_false_iff]
     intro hh
     simp at hh
     exact a (Prod.ext hh.1.2.symm hh.2.symm)
    simp [List.filter_cons,this]
   ·have e1:q.1=p.1:=a.trans e.symm
    rw [e1,<- h.val p b,g]
    have:((f.Kind==4)&&(f.Seat==p.1.1)&&(f.State==p.1.2))=true:=by rw [e];simp [hk]
    simp [List.filter_cons,this]
   ·rw [e,a]
    have h0:(c.filter fun u=>(u.Kind==4)&&(u.Seat==(f.Seat,f.State).1)&&(u.State==(f.Seat,f.State).2))=[]:=by
     rw [List.filter_eq_nil_iff]
     intro u hu hh
     simp at hh
     exact b ((h.key _).2 ⟨u,hu,hh.1.1,by rw [hh.1.2,hh.2]⟩)
    rw [h0]
    simp [List.filter_cons,hk]
  ·rw [b8p,h.key]
   constructor
   ·rintro (e | ⟨u,hu,e1,e2⟩)
    ·exact ⟨f,by simp,hk,e.symm⟩
    ·exact ⟨u,by simp [hu],e1,e2⟩
   ·rintro ⟨u,hu,e1,e2⟩
    rcases qK.1 hu with hu | hu
    ·exact .inr ⟨u,hu,e1,e2⟩
    ·rw [qF] at hu;subst hu;exact .inl e2.symm
  ·rw [c8x,h.tot,List.filter_append]
   have:b51 f=true:=hk'
   simp [List.filter_cons,this]
 ·rw [if_neg hk]
  have hk':(f.Kind==4)=false:=by simpa using hk
  refine ⟨h.nd,fun q hq=> ?_,fun k=> ?_,?_⟩
  ·rw [h.val q hq,List.filter_append,List.map_append]
   simp [List.filter_cons,hk']
  ·rw [h.key]
   constructor
   ·rintro ⟨u,hu,e⟩;exact ⟨u,by simp [hu],e⟩
   ·rintro ⟨u,hu,e1,e2⟩
    rcases qK.1 hu with hu | hu
    ·exact ⟨u,hu,e1,e2⟩
    ·rw [qF] at hu;subst hu;exact absurd e1 hk
  ·rw [h.tot,List.filter_append]
   have:b51 f=false:=hk'
   simp [List.filter_cons,this]
theorem d3m: ∀(l:List aQ) {M:List ((Int×Int)×List Span)} {c:List aQ},GpI M c -> GpI (l.foldl b35 M) (c++l)
 | [],M,c,h=>by simpa using h
 | f::l,M,c,h=>by
   have:=d3m l (e4i f h)
   simpa using this
theorem f0u (l:List aQ):GpI (l.foldl b35 []) l:=d3m l (c:=[]) ⟨by simp,fun q hq=>(by cases hq),fun k=>(by simp),(by simp)⟩
theorem e3o {M M':List ((Int×Int)×List Span)} {c:List aQ} (h:GpI M c) (hp:M'.Perm M):GpI M' c:=
 ⟨(hp.map _).nodup_iff.2 h.nd,fun q hq=>h.val q (hp.subset hq),fun k=>by rw [<- h.key];exact (hp.map _).mem_iff,by rw [<- h.tot];exact (hp.map _).sum_nat⟩
end Go.PL
namespace Go.PL
open Go Go.SX
theorem d3u (k:Int): ∀(l:List aQ) (s:Int×Bool),(∀u∈l,cur u=true) -> 0 <= s.1 /\ s.1 <= 73048 -> 0 <= (l.foldl (b7a k) s).1 /\ (l.foldl (b7a k) s).1 <= 73048
 | [],s,_,h=>h
 | u::l,s,hl,h=>by
   rw [List.foldl_cons]
   refine d3u k l _ (fun v hv=>hl v (by simp [hv])) ?_
   have:=d31 (hl u (by simp))
   unfold b7a
   split
   ·exact ⟨this.1,by show u.Span.From <= 73048;omega⟩
   ·exact h
theorem d8h (k:Int) (l:List aQ):0 <= ((l.filter cur).foldl (b7a k) (0,false)).1 /\ ((l.filter cur).foldl (b7a k) (0,false)).1 <= 73048:=
 d3u k _ _ (fun u hu=>by simpa using (List.mem_filter.1 hu).2) (by decide)
def a8e (l:List aQ):Int×Bool:=(l.filter cur).foldl (b7a 11) (0,false)
def b6s (l:List aQ):Int:=if (b77 l).2=true then (b77 l).1 else 73048
def q0 (l:List aQ):Span:=if b6s l<(a8e l).1 then ⟨0,0⟩ else ⟨(a8e l).1,b6s l+1⟩
theorem c6a (l:List aQ):0 <= b6s l /\ b6s l <= 73048:=by
 unfold b6s
 split
 ·exact d8h 12 l
 ·decide
theorem d38 (l:List aQ):0 <= (q0 l).From /\ (q0 l).From <= (q0 l).To /\ (q0 l).To <= 73049:=by
 have h1:=c6a l
 have h2:=d8h 11 l
 have h3:0 <= (a8e l).1 /\ (a8e l).1 <= 73048:=h2
 unfold q0
 split
 ·exact ⟨Int.le_refl _,Int.le_refl _,by decide⟩
 ·exact ⟨h3.1,by show (a8e l).1 <= b6s l+1;omega,by show b6s l+1 <= 73049;omega⟩
theorem c0n (l:List aQ) (hl:l.length <= 2^30):a2s l=some (q0 l):=by
 have h1:=c6a l
 unfold a2s b5w
 rw [d39 l 11 hl,qA,qA,d9b l hl,qA,show (l.filter cur).foldl (b7a 11) (0,false)=a8e l from rfl]
 have e: ∀t:Int,t <= 73048 -> 0 <= t -> joinC b16 ((⟨0,0⟩:Span),(a8e l).1,t)=some (if t<(a8e l).1 then ⟨0,0⟩ else ⟨(a8e l).1,t+1⟩):=by
  intro t ht h0
  rw [b4a];unfold b16;dsimp only
  rw [i7 (by omega) (by omega)]
  by_cases hc:t<(a8e l).1<;>simp [hc]
 unfold q0 b6s at*
 by_cases hd:(b77 l).2=true
 ·simp only [hd,if_true] at h1⊢
  simpa [hd] using e _ h1.2 h1.1
 ·rw [Bool.not_eq_true] at hd
  simpa [hd] using e 73048 (by decide) (by decide)
theorem c13 (l:List aQ) (hl:l.length <= 2^30):a3b l=some (q0 l):=by
 have h1:=c6a l
 unfold a3b a9x
 rw [d09 l 11 hl,qA,qA,e2m l hl,qA,show (l.filter cur).foldl (b7a 11) (0,false)=a8e l from rfl]
 have e: ∀t:Int,t <= 73048 -> 0 <= t -> joinC a4w ((⟨0,0⟩:Span),(a8e l).1,t)=some (if t<(a8e l).1 then ⟨0,0⟩ else ⟨(a8e l).1,t+1⟩):=by
  intro t ht h0
  rw [b4a];unfold a4w;dsimp only
  rw [i7 (by omega) (by omega)]
  by_cases hc:t<(a8e l).1<;>simp [hc]
 unfold q0 b6s at*
 by_cases hd:(b77 l).2=true
 ·simp only [hd,if_true] at h1⊢
  simpa [hd] using e _ h1.2 h1.1
 ·rw [Bool.not_eq_true] at hd
  simpa [hd] using e 73048 (by decide) (by decide)
theorem c7t {α:Type}: ∀{a b:List α},a.Nodup -> (∀x∈a,x∈b) -> a.length <= b.length
 | [],b,_,_=>Nat.zero_le _
 | x::a,b,hn,hs=>by
   obtain ⟨h1,h2⟩:=List.nodup_cons.1 hn
   obtain ⟨b1,b2,rfl⟩:=List.append_of_mem (hs x (by simp))
   have:=c7t (a:=a) (b:=b1++b2) h2 fun y hy=>by
    have hy2:=hs y (by simp [hy])
    have hne:y≠x:=fun e=>h1 (e▸hy)
    simp only [qK,qO] at hy2⊢
    rcases hy2 with h | h | h
    ·exact .inl h
    ·exact absurd h hne
    ·exact .inr h
   simp at this ⊢; omega
theorem e0t {α:Type} {R:α -> α -> Prop}: ∀{l:List α},l.Pairwise R -> ∀{a b:α},a∈l -> b∈l -> a=b \/ R a b \/ R b a
 | x::l,h,a,b,ha,hb=>by
   obtain ⟨h1,h2⟩:=List.pairwise_cons.1 h
   rcases qO.1 ha with ha | ha<;>rcases qO.1 hb with hb | hb
   ·exact .inl (ha.trans hb.symm)
   ·exact .inr (.inl (ha▸h1 b hb))
   ·exact .inr (.inr (hb▸h1 a ha))
   ·exact e0t h2 ha hb
theorem e8h {r:List Span} (h:Nrm r) {a:Span} (ha:a∈r): ¬InS r a.To:=by
 rintro ⟨c,hc,h1,h2⟩
 have g1:=h.1 a ha
 rcases e0t h.2 ha hc with rfl | h3 | h3<;>omega
theorem d9n {r z:List Span} (s:Span) (hr:Nrm r) (h: ∀x,InS r x↔InS z x /\ s.From <= x /\ x<s.To):r.length <= z.length:=by
 let g:Span -> Span:=fun t=>(z.find? fun u=>decide (u.From <= t.From)&&decide (t.From<u.To)).getD ⟨0,0⟩
 have hg: ∀t∈r,g t∈z /\ (g t).From <= t.From /\ t.From<(g t).To:=by
  intro t ht
  have g1:=hr.1 t ht
  obtain ⟨u,hu,h1,h2⟩:=((h t.From).1 ⟨t,ht,Int.le_refl _,g1.2.1⟩).1
  show (List.find? _ z).getD ⟨0,0⟩∈z /\ ((List.find? _ z).getD ⟨0,0⟩).From <= t.From /\ t.From<((List.find? _ z).getD ⟨0,0⟩).To
  cases hf:z.find? fun u=>decide (u.From <= t.From)&&decide (t.From<u.To) with
  | none=>
    have:=List.find?_eq_none.1 hf u hu
    simp at this;omega
  | some v=>
    have h3:=List.find?_some hf
    simp at h3
    exact ⟨List.mem_of_find?_eq_some hf,h3.1,h3.2⟩
 have hn:(r.map g).Nodup:=by
  unfold List.Nodup
  rw [List.pairwise_map]
  refine hr.2.imp_of_mem fun {a b} ha hb hab e=> ?_
  have g1:=hr.1 a ha
  have g2:=hr.1 b hb
  have k1:=hg a ha
  have k2:=hg b hb
  rw [<- e] at k2
  have l1:=(h a.From).1 ⟨a,ha,Int.le_refl _,g1.2.1⟩
  have l2:=(h b.From).1 ⟨b,hb,Int.le_refl _,g2.2.1⟩
  exact e8h hr ha ((h a.To).2 ⟨⟨g a,k1.1,by omega,by omega⟩,by omega,by omega⟩)
 have:=c7t hn (b:=z) fun x hx=>by
  obtain ⟨t,ht,rfl⟩:=List.mem_map.1 hx
  exact (hg t ht).1
 simpa using this
def b8y (a:List Span) (s:Span):List Span:=(a0m a s).getD []
theorem b14 (a:List Span) (s:Span) (ha:a.length <= 2^40):a0m a s=some (b8y a s) /\ a47 a s=some (b8y a s) /\ Nrm (b8y a s) /\
  (∀x,InS (b8y a s) x↔InS a x /\ (s.From <= x /\ x<s.To) /\ 0 <= x /\ x<73049) /\ (b8y a s).length <= a.length:=by
 obtain ⟨r,h1,h2,h3⟩:=c8o a s ha
 obtain ⟨r',k1,k2,k3⟩:=e3l a s ha
 obtain ⟨z,m1,m2,m3,m4⟩:=b1e a ha
 have e:r=r':=qH (h1.symm.trans k1)
 subst e
 have e2:b8y a s=r:=by unfold b8y;rw [h1];rfl
 rw [e2]
 refine ⟨h1,k2,h2,h3,Nat.le_trans (d9n s h2 (z:=z) fun x=> ?_) m4⟩
 rw [h3,m3]
 constructor
 ·rintro ⟨a,b,c,d⟩;exact ⟨⟨a,c,d⟩,b.1,b.2⟩
 ·rintro ⟨⟨a,c,d⟩,b1,b2⟩;exact ⟨a,⟨b1,b2⟩,c,d⟩
def pmk (s:Span) (M:List ((Int×Int)×List Span)):List Posting:=M.flatMap fun q=>(b8y q.2 s).map fun x=>⟨q.1.1,q.1.2,x⟩
theorem e2a (s:Span): ∀M:List ((Int×Int)×List Span),(∀q∈M,q.2.length <= 2^40) -> (pmk s M).length <= (M.map (·.2.length)).sum
 | [],_=>Nat.le_refl _
 | q::M,h=>by
   have ih:=e2a s M fun p hp=>h p (by simp [hp])
   have h1:=(b14 q.2 s (h q (by simp))).2.2.2.2
   unfold pmk at ih⊢
   simp only [List.flatMap_cons,qL,List.length_map,List.map_cons,List.sum_cons]
   omega
theorem c8q (l:List aQ) (hl:l.length <= 2^30): ∀(M:List ((Int×Int)×List Span)) (out:List Posting),(∀q∈M,q.2.length <= 2^40) -> out.length+(M.map (·.2.length)).sum <= 100000 -> b1j l M out=some (out++pmk (q0 l) M)
 | [],out,_,_=>by simp [b1j,pmk]
 | q::M,out,hM,ho=>by
   obtain ⟨h1,_,_,_,h5⟩:=b14 q.2 (q0 l) (hM q (by simp))
   simp only [List.map_cons,List.sum_cons] at ho
   show (Option.bind (a2s l) fun s=>Option.bind (a0m q.2 s) fun c=>if out.length+c.length <= 100000 then b1j l M (out++c.map fun x=>⟨q.1.1,q.1.2,x⟩) else none)=_
   rw [c0n l hl,qA,h1,qA,if_pos (by omega)]
   rw [c8q l hl M _ (fun p hp=>hM p (by simp [hp])) (by rw [qL,List.length_map];omega)]
   simp [pmk]
def e2o (f:List aQ) (a b:Int):List Span:=((f.filter cur).filter fun u=>(u.Kind==4)&&(u.Seat==a)&&(u.State==b)).map (·.Span)
def PM (f:List aQ) (p:Posting):Prop:=p.Span∈b8y (e2o f p.Seat p.State) (q0 f)
theorem c0m (f:List aQ) (a b:Int):(e2o f a b).length <= f.length:=by
 unfold e2o
 rw [List.length_map]
 exact Nat.le_trans (List.length_filter_le _ _) (List.length_filter_le _ _)
theorem d1z {f:List aQ} (hf:f.length <= 2^30) {M:List ((Int×Int)×List Span)} (h:GpI M (f.filter cur)) (p:Posting):p∈pmk (q0 f) M↔PM f p:=by
 unfold pmk PM
 rw [List.mem_flatMap]
 constructor
 ·rintro ⟨q,hq,hp⟩
  obtain ⟨x,hx,rfl⟩:=List.mem_map.1 hp
  rw [h.val q hq] at hx
  exact hx
 ·intro hp
  obtain ⟨_,_,h3,h4,_⟩:=b14 (e2o f p.Seat p.State) (q0 f) (by have:=c0m f p.Seat p.State;omega)
  obtain ⟨⟨s,hs,_⟩,_⟩:=(h4 p.Span.From).1 ⟨p.Span,hp,Int.le_refl _,(h3.1 _ hp).2.1⟩
  unfold e2o at hs
  obtain ⟨u,hu,_⟩:=List.mem_map.1 hs
  rw [List.mem_filter] at hu
  have hh:=hu.2
  simp at hh
  obtain ⟨q,hq,e⟩:=List.mem_map.1 ((h.key (p.Seat,p.State)).2 ⟨u,hu.1,hh.1.1,by rw [hh.1.2,hh.2]⟩)
  refine ⟨q,hq,List.mem_map.2 ⟨p.Span,?_,?_⟩⟩
  ·rw [h.val q hq,e];exact hp
  ·rw [e]
theorem e96 {f:List aQ} (hf:f.length <= 2^30) {x y:Posting} (hx:PM f x) (hy:PM f y) (h1:x.Span.From=y.Span.From) (h2:x.Seat=y.Seat) (h3:x.State=y.State):x=y:=by
 unfold PM at hx hy
 rw [<- h2,<- h3] at hy
 obtain ⟨_,_,k3,_,_⟩:=b14 (e2o f x.Seat x.State) (q0 f) (by have:=c0m f x.Seat x.State;omega)
 have g1:=k3.1 _ hx
 have g2:=k3.1 _ hy
 have e:x.Span=y.Span:=by
  rcases e0t k3.2 hx hy with h | h | h
  ·exact h
  ·omega
  ·omega
 cases x;cases y;simp_all
theorem d0x {f:List aQ} (hG:a39 f): ∃P,competence_Postings f=some P /\ (∀p,p∈P↔PM f p) /\ P.length <= 12:=by
 have hf:f.length <= 2^30:=by have:=hG.len;omega
 have hcl:(f.filter cur).length <= 27:=by have:=List.length_filter_le cur f;have:=hG.len;omega
 have hpos:((f.filter cur).filter b51).length <= 12:=by
  have:((f.filter cur).filter b51).length <= (f.filter b51).length:=by
   rw [List.filter_filter,show (fun a=>b51 a&&cur a)=fun a=>cur a&&b51 a from funext fun a=>Bool.and_comm _ _,<- List.filter_filter]
   exact List.length_filter_le _ _
  have:=hG.pos;omega
 have hG0:=f0u (f.filter cur)
 have hlen: ∀{M:List ((Int×Int)×List Span)},GpI M (f.filter cur) -> ∀q∈M,q.2.length <= 2^40:=by
  intro M h q hq
  rw [h.val q hq,List.length_map]
  have:=List.length_filter_le (fun u:aQ=>(u.Kind==4)&&(u.Seat==q.1.1)&&(u.State==q.1.2)) (f.filter cur)
  omega
 have hl12: ∀{M:List ((Int×Int)×List Span)},GpI M (f.filter cur) -> (pmk (q0 f) M).length <= 12:=by
  intro M h
  have:=e2a (q0 f) M (hlen h)
  rw [h.tot] at this
  omega
 obtain ⟨P,hP1,hP2,hP3⟩:=c2u (pmk (q0 f) ((f.filter cur).foldl b35 [])) (hl12 hG0)
 refine ⟨P,?_,fun p=> ?_,?_⟩
 ·unfold competence_Postings
  rw [c2v f hf,qA,if_pos]
  ·refine f0s (fun M hM=> ?_) (List.Perm.refl _)
   have hM':=e3o hG0 hM
   rw [c8q f hf M [] (hlen hM') (by rw [hM'.tot,List.length_nil];omega),qA,List.nil_append]
   obtain ⟨P',k1,k2,k3⟩:=c2u (pmk (q0 f) M) (hl12 hM')
   rw [k1]
   have hpp:P'.Perm P:=k2.trans ((show (pmk (q0 f) M).Perm (pmk (q0 f) ((f.filter cur).foldl b35 [])) from hM.flatMap_right _).trans hP2.symm)
   refine congrArg some (d3s hpp (fun x hx y hy g1 g2=> ?_) k3 hP3)
   obtain ⟨e1,e2,e3⟩:=d7t g2 g1
   exact e96 hf ((d1z hf hM' x).1 (k2.subset hx)) ((d1z hf hM' y).1 (k2.subset hy)) e1 e2 e3
  ·refine ⟨by omega,?_⟩
   rw [List.all_eq_true]
   intro u hu
   obtain ⟨_,g1,g2,_⟩:=b0u (c5c hu)
   unfold b8x
   simp only [qB,decide_eq_true_eq]
   omega
 ·rw [hP2.mem_iff,d1z hf hG0]
 ·rw [hP2.length_eq];exact hl12 hG0
end Go.PL
namespace Go.PL
open Go Go.SX
theorem a0b {σ ρ:Type} {f:(σ -> Option ρ) -> σ -> Option ρ} {k:Nat} {s:σ} (h:0<k):d5 k f s=f (d5 (k-1) f) s:=by
 cases k with
 | zero=>omega
 | succ k=>rfl
theorem tin {m n:Int} (h0:0 <= m) (h1:m <= n):a5l m n=some true:=by
 unfold a5l
 rw [b8j,qA]
 simp [h0,h1]
theorem d9w (F m L S:Int) (M:List Int) (h1:0 <= F /\ F <= 73048) (h2:0 <= m /\ m <= 73049) (h3:0 <= L /\ L <= 73049) (h4:0 <= S /\ S <= 100) (h5:d5 FU (a9k (⟨F,m,L,S,M⟩:Rules)) (⟨F,m,L,S,M⟩,0)=some true):
  a4l ⟨F,m,L,S,M⟩=some true:=by
 unfold a4l a34
 have e:(if decide (F >= 0)=true then some (decide (F <= 73048)) else some false)=some true:=by simp [h1.1,h1.2]
 dsimp only
 rw [e]
 simp only [qA,tin h2.1 h2.2,tin h3.1 h3.2,tin h4.1 h4.2,Bool.not_true,qM,if_false]
 exact h5
theorem tvA (F m L S:Int):d5 FU (a9k (⟨F,m,L,S,[0,1,2]⟩:Rules)) (⟨F,m,L,S,[0,1,2]⟩,0)=some true:=by kernel_rfl
theorem tvB (F m L S:Int):d5 FU (a9k (⟨F,m,L,S,[0,1]⟩:Rules)) (⟨F,m,L,S,[0,1]⟩,0)=some true:=by kernel_rfl
theorem d8a {T:List Rules} (h:TrF T):a9e T=some 0:=by
 obtain ⟨m,h0,h1,rfl | rfl | rfl⟩:=h
 ·have v0:a4l (⟨0,m,730,25,[0,1,2]⟩:Rules)=some true:=d9w _ _ _ _ _ (by decide) ⟨h0,by omega⟩ (by decide) (by decide) (tvA _ _ _ _)
  unfold a9e
  rw [if_neg (by simp)]
  have e:((([(⟨0,m,730,25,[0,1,2]⟩:Rules)]:List Rules).length:Int)==0)=false:=rfl
  simp only [e,qM,if_false]
  have g:c8 [(⟨0,m,730,25,[0,1,2]⟩:Rules)] 0=some ⟨0,m,730,25,[0,1,2]⟩:=rfl
  simp only [g,qA,bne_self_eq_false,qM,if_false]
  rw [a0b (by unfold FU;omega)]
  unfold b08
  rw [if_pos (by simp)]
  simp only [g,qA,v0]
  rw [a0b (by unfold FU;omega)]
  rfl
 ·have v0:a4l (⟨0,m,730,25,[0,1]⟩:Rules)=some true:=d9w _ _ _ _ _ (by decide) ⟨h0,by omega⟩ (by decide) (by decide) (tvB _ _ _ _)
  have v1:a4l (⟨35000,m,365,30,[0,1,2]⟩:Rules)=some true:=d9w _ _ _ _ _ (by decide) ⟨h0,by omega⟩ (by decide) (by decide) (tvA _ _ _ _)
  unfold a9e
  rw [if_neg (by simp)]
  have e:((([(⟨0,m,730,25,[0,1]⟩:Rules),⟨35000,m,365,30,[0,1,2]⟩]:List Rules).length:Int)==0)=false:=rfl
  simp only [e,qM,if_false]
  have g:c8 [(⟨0,m,730,25,[0,1]⟩:Rules),⟨35000,m,365,30,[0,1,2]⟩] 0=some ⟨0,m,730,25,[0,1]⟩:=rfl
  have g1:c8 [(⟨0,m,730,25,[0,1]⟩:Rules),⟨35000,m,365,30,[0,1,2]⟩] (i64 (0+1))=some ⟨35000,m,365,30,[0,1,2]⟩:=rfl
  have g2:c8 [(⟨0,m,730,25,[0,1]⟩:Rules),⟨35000,m,365,30,[0,1,2]⟩] (i64 (i64 (0+1)-1))=some ⟨0,m,730,25,[0,1]⟩:=rfl
  simp only [g,qA,bne_self_eq_false,qM,if_false]
  rw [a0b (by unfold FU;omega)]
  unfold b08
  rw [if_pos (by simp)]
  simp only [g,qA,v0]
  rw [a0b (by unfold FU;omega)]
  simp only [g1,g2,qA,v1]
  rw [a0b (by unfold FU;omega)]
  rfl
 ·have v0:a4l (⟨0,m,730,25,[0,1,2]⟩:Rules)=some true:=d9w _ _ _ _ _ (by decide) ⟨h0,by omega⟩ (by decide) (by decide) (tvA _ _ _ _)
  have v1:a4l (⟨36000,m,730,25,[0,1]⟩:Rules)=some true:=d9w _ _ _ _ _ (by decide) ⟨h0,by omega⟩ (by decide) (by decide) (tvB _ _ _ _)
  unfold a9e
  rw [if_neg (by simp)]
  have e:((([(⟨0,m,730,25,[0,1,2]⟩:Rules),⟨36000,m,730,25,[0,1]⟩]:List Rules).length:Int)==0)=false:=rfl
  simp only [e,qM,if_false]
  have g:c8 [(⟨0,m,730,25,[0,1,2]⟩:Rules),⟨36000,m,730,25,[0,1]⟩] 0=some ⟨0,m,730,25,[0,1,2]⟩:=rfl
  have g1:c8 [(⟨0,m,730,25,[0,1,2]⟩:Rules),⟨36000,m,730,25,[0,1]⟩] (i64 (0+1))=some ⟨36000,m,730,25,[0,1]⟩:=rfl
  have g2:c8 [(⟨0,m,730,25,[0,1,2]⟩:Rules),⟨36000,m,730,25,[0,1]⟩] (i64 (i64 (0+1)-1))=some ⟨0,m,730,25,[0,1,2]⟩:=rfl
  simp only [g,qA,bne_self_eq_false,qM,if_false]
  rw [a0b (by unfold FU;omega)]
  unfold b08
  rw [if_pos (by simp)]
  simp only [g,qA,v0]
  rw [a0b (by unfold FU;omega)]
  simp only [g1,g2,qA,v1]
  rw [a0b (by unfold FU;omega)]
  rfl
theorem rcA (F m L S:Int) (r:Int -> Option Int) (v:Int):d5 FU (a7m r v) ((⟨F,m,L,S,[0,1,2]⟩:Rules),0)=r (i64 (v+1)):=by kernel_rfl
theorem rcB (F m L S:Int) (r:Int -> Option Int) (v:Int):d5 FU (a7m r v) ((⟨F,m,L,S,[0,1]⟩:Rules),0)=r (i64 (v+1)):=by kernel_rfl
theorem f1e {d:Int} (h0:0 <= d) (h1:d <= 73048):e7 d=some true:=by
 unfold e7
 rw [b8j,qA]
 simp;omega
set_option maxHeartbeats 1000000 in
theorem e1l {T:List Rules} (h:TrF T):a2h T=some 0:=by
 obtain ⟨m,h0,h1,rfl | rfl | rfl⟩:=h
 ·have e:((([(⟨0,m,730,25,[0,1,2]⟩:Rules)]:List Rules).length:Int)==0)=false:=rfl
  have e8:decide ((([(⟨0,m,730,25,[0,1,2]⟩:Rules)]:List Rules).length:Int)>8)=false:=rfl
  have g:c8 [(⟨0,m,730,25,[0,1,2]⟩:Rules)] 0=some ⟨0,m,730,25,[0,1,2]⟩:=rfl
  have m1:decide (m<0)=false:=by simp;omega
  have m2:decide (m>73049)=false:=by simp;omega
  unfold a2h
  simp only [e,e8,g,qA,qM,if_false,bne_self_eq_false]
  rw [a0b (by unfold FU;omega)]
  unfold a4h
  rw [if_pos (by simp)]
  have d0:e7 0=some true:=f1e (by decide) (by decide)
  simp only [g,d0,m1,m2,qA,Bool.not_true,qM,if_false]
  simp (config:={decide:=true}) only [qA,if_false,if_true]
  rw [rcA]
  rw [a0b (by unfold FU;omega)]
  rfl
 ·have e:((([(⟨0,m,730,25,[0,1]⟩:Rules),⟨35000,m,365,30,[0,1,2]⟩]:List Rules).length:Int)==0)=false:=rfl
  have e8:decide ((([(⟨0,m,730,25,[0,1]⟩:Rules),⟨35000,m,365,30,[0,1,2]⟩]:List Rules).length:Int)>8)=false:=rfl
  have g:c8 [(⟨0,m,730,25,[0,1]⟩:Rules),⟨35000,m,365,30,[0,1,2]⟩] 0=some ⟨0,m,730,25,[0,1]⟩:=rfl
  have g1:c8 [(⟨0,m,730,25,[0,1]⟩:Rules),⟨35000,m,365,30,[0,1,2]⟩] (i64 (0+1))=some ⟨35000,m,365,30,[0,1,2]⟩:=rfl
  have g2:c8 [(⟨0,m,730,25,[0,1]⟩:Rules),⟨35000,m,365,30,[0,1,2]⟩] (i64 (i64 (0+1)-1))=some ⟨0,m,730,25,[0,1]⟩:=rfl
  have m1:decide (m<0)=false:=by simp;omega
  have m2:decide (m>73049)=false:=by simp;omega
  unfold a2h
  simp only [e,e8,g,qA,qM,if_false,bne_self_eq_false]
  rw [a0b (by unfold FU;omega)]
  unfold a4h
  rw [if_pos (by simp)]
  have d0:e7 0=some true:=f1e (by decide) (by decide)
  simp only [g,d0,m1,m2,qA,Bool.not_true,qM,if_false]
  simp (config:={decide:=true}) only [qA,if_false,if_true]
  rw [rcB]
  rw [a0b (by unfold FU;omega)]
  rw [if_pos (by rfl)]
  have d1:e7 35000=some true:=f1e (by decide) (by decide)
  simp only [g1,g2,d1,m1,m2,qA,Bool.not_true,qM,if_false]
  have q1:decide (i64 (0+1)>0)=true:=rfl
  simp (config:={decide:=true}) only [q1,qA,if_false,if_true]
  rw [rcA]
  rw [a0b (by unfold FU;omega)]
  rfl
 ·have e:((([(⟨0,m,730,25,[0,1,2]⟩:Rules),⟨36000,m,730,25,[0,1]⟩]:List Rules).length:Int)==0)=false:=rfl
  have e8:decide ((([(⟨0,m,730,25,[0,1,2]⟩:Rules),⟨36000,m,730,25,[0,1]⟩]:List Rules).length:Int)>8)=false:=rfl
  have g:c8 [(⟨0,m,730,25,[0,1,2]⟩:Rules),⟨36000,m,730,25,[0,1]⟩] 0=some ⟨0,m,730,25,[0,1,2]⟩:=rfl
  have g1:c8 [(⟨0,m,730,25,[0,1,2]⟩:Rules),⟨36000,m,730,25,[0,1]⟩] (i64 (0+1))=some ⟨36000,m,730,25,[0,1]⟩:=rfl
  have g2:c8 [(⟨0,m,730,25,[0,1,2]⟩:Rules),⟨36000,m,730,25,[0,1]⟩] (i64 (i64 (0+1)-1))=some ⟨0,m,730,25,[0,1,2]⟩:=rfl
  have m1:decide (m<0)=false:=by simp;omega
  have m2:decide (m>73049)=false:=by simp;omega
  unfold a2h
  simp only [e,e8,g,qA,qM,if_false,bne_self_eq_false]
  rw [a0b (by unfold FU;omega)]
  unfold a4h
  rw [if_pos (by simp)]
  have d0:e7 0=some true:=f1e (by decide) (by decide)
  simp only [g,d0,m1,m2,qA,Bool.not_true,qM,if_false]
  simp (config:={decide:=true}) only [qA,if_false,if_true]
  rw [rcA]
  rw [a0b (by unfold FU;omega)]
  rw [if_pos (by rfl)]
  have d1:e7 36000=some true:=f1e (by decide) (by decide)
  simp only [g1,g2,d1,m1,m2,qA,Bool.not_true,qM,if_false]
  have q1:decide (i64 (0+1)>0)=true:=rfl
  simp (config:={decide:=true}) only [q1,qA,if_false,if_true]
  rw [rcB]
  rw [a0b (by unfold FU;omega)]
  rfl
def a5h:List Rules -> Int -> Rules
 | [a],_=>a
 | [a,b],d=>if b.From <= d then b else a
 | _,_=>⟨0,0,0,0,[]⟩
theorem d8z {T:List Rules} (h:TrF T) {c d:Int} (hcd:c <= d) (hn: ∀r∈T,¬(c<r.From /\ r.From <= d)):a5h T c=a5h T d:=by
 obtain ⟨m,h0,h1,rfl | rfl | rfl⟩:=h
 ·rfl
 ·have:=hn _ (qJ _ (qF.2 rfl))
  simp only [a5h] at this⊢
  by_cases h1:(35000:Int) <= c
  ·rw [if_pos h1,if_pos (by omega)]
  ·rw [if_neg h1,if_neg (by omega)]
 ·have:=hn _ (qJ _ (qF.2 rfl))
  simp only [a5h] at this⊢
  by_cases h1:(36000:Int) <= c
  ·rw [if_pos h1,if_pos (by omega)]
  ·rw [if_neg h1,if_neg (by omega)]
theorem c7e {T:List Rules} (h:TrF T) (d:Int):0 <= (a5h T d).PostingLimit /\ (a5h T d).PostingLimit <= 730 /\ 0 <= (a5h T d).Substantial /\ (a5h T d).Substantial <= 100 /\ a5h T d∈T:=by
 obtain ⟨m,h0,h1,rfl | rfl | rfl⟩:=h
 ·simp [a5h]
 ·simp only [a5h];split<;>simp
 ·simp only [a5h];split<;>simp
theorem f4i {T:List Rules} (h:TrF T):T.length <= 2 /\ ∀r∈T,0 <= r.From /\ r.From <= 73048 /\ 0 <= r.PostingLimit /\ r.PostingLimit <= 730:=by
 obtain ⟨m,h0,h1,rfl | rfl | rfl⟩:=h<;>simp
theorem clA:a61 [0,1,2]=some [0,1,2]:=by kernel_rfl
theorem clB:a61 [0,1]=some [0,1]:=by kernel_rfl
theorem e81 {d:Int} (h0:0 <= d) (h1:d <= 73048):a34 d=some true:=by
 unfold a34
 rw [b8j,qA]
 simp;omega
theorem f5k {T:List Rules} (h:TrF T) {d:Int} (hd:0 <= d) (hd2:d <= 73048):b3y T d=some (a5h T d,true):=by
 have hv:a34 d=some true:=e81 hd hd2
 obtain ⟨m,h0,h1,rfl | rfl | rfl⟩:=h
 ·have g:c8 [(⟨0,m,730,25,[0,1,2]⟩:Rules)] 0=some ⟨0,m,730,25,[0,1,2]⟩:=rfl
  have e0:((([(⟨0,m,730,25,[0,1,2]⟩:Rules)]:List Rules).length:Int)-1)=0:=rfl
  unfold b3y a5h
  rw [hv,qA]
  simp only [Bool.not_true,qM,if_false,e0]
  rw [a0b (by unfold FU;omega)]
  unfold b3j
  rw [if_neg (by simp)]
  simp only [g,qA]
  rw [if_pos (by simpa using hd)]
  simp only [clA,qA]
 ·have g:c8 [(⟨0,m,730,25,[0,1]⟩:Rules),⟨35000,m,365,30,[0,1,2]⟩] 0=some ⟨0,m,730,25,[0,1]⟩:=rfl
  have g1:c8 [(⟨0,m,730,25,[0,1]⟩:Rules),⟨35000,m,365,30,[0,1,2]⟩] 1=some ⟨35000,m,365,30,[0,1,2]⟩:=rfl
  have e0:((([(⟨0,m,730,25,[0,1]⟩:Rules),⟨35000,m,365,30,[0,1,2]⟩]:List Rules).length:Int)-1)=1:=rfl
  unfold b3y a5h
  rw [hv,qA]
  simp only [Bool.not_true,qM,if_false,e0]
  rw [a0b (by unfold FU;omega)]
  unfold b3j
  rw [if_neg (by simp)]
  simp only [g1,qA]
  by_cases hc:(35000:Int) <= d
  ·rw [if_pos (by simpa using hc),if_pos hc]
   simp only [clA,qA]
  ·rw [if_neg (by simpa using hc),if_neg hc,a0b (by unfold FU;omega)]
   simp only [show (1:Int)-1=0 from rfl]
   rw [if_neg (by simp)]
   simp only [g,qA]
   rw [if_pos (by simpa using hd)]
   simp only [clB,qA]
 ·have g:c8 [(⟨0,m,730,25,[0,1,2]⟩:Rules),⟨36000,m,730,25,[0,1]⟩] 0=some ⟨0,m,730,25,[0,1,2]⟩:=rfl
  have g1:c8 [(⟨0,m,730,25,[0,1,2]⟩:Rules),⟨36000,m,730,25,[0,1]⟩] 1=some ⟨36000,m,730,25,[0,1]⟩:=rfl
  have e0:((([(⟨0,m,730,25,[0,1,2]⟩:Rules),⟨36000,m,730,25,[0,1]⟩]:List Rules).length:Int)-1)=1:=rfl
  unfold b3y a5h
  rw [hv,qA]
  simp only [Bool.not_true,qM,if_false,e0]
  rw [a0b (by unfold FU;omega)]
  unfold b3j
  rw [if_neg (by simp)]
  simp only [g1,qA]
  by_cases hc:(36000:Int) <= d
  ·rw [if_pos (by simpa using hc),if_pos hc]
   simp only [clB,qA]
  ·rw [if_neg (by simpa using hc),if_neg hc,a0b (by unfold FU;omega)]
   simp only [show (1:Int)-1=0 from rfl]
   rw [if_neg (by simp)]
   simp only [g,qA]
   rw [if_pos (by simpa using hd)]
   simp only [clA,qA]
theorem e6u {T:List Rules} (h:TrF T) {d:Int} (hd:0 <= d) (hd2:d <= 73048):y4 T d=some (a5h T d,true):=by
 have hv:e7 d=some true:=f1e hd hd2
 obtain ⟨m,h0,h1,rfl | rfl | rfl⟩:=h
 ·have g:c8 [(⟨0,m,730,25,[0,1,2]⟩:Rules)] 0=some ⟨0,m,730,25,[0,1,2]⟩:=rfl
  have e0:i64 ((([(⟨0,m,730,25,[0,1,2]⟩:Rules)]:List Rules).length:Int)-1)=0:=rfl
  unfold y4 a5h
  rw [e0]
  rw [a0b (by unfold FU;omega)]
  unfold a1c
  simp only [hv,qA]
  simp (config:={decide:=true}) only [if_true,qA]
  simp only [g,qA]
  rw [if_pos (by simpa using hd)]
  rfl
 ·have g:c8 [(⟨0,m,730,25,[0,1]⟩:Rules),⟨35000,m,365,30,[0,1,2]⟩] 0=some ⟨0,m,730,25,[0,1]⟩:=rfl
  have g1:c8 [(⟨0,m,730,25,[0,1]⟩:Rules),⟨35000,m,365,30,[0,1,2]⟩] 1=some ⟨35000,m,365,30,[0,1,2]⟩:=rfl
  have e0:i64 ((([(⟨0,m,730,25,[0,1]⟩:Rules),⟨35000,m,365,30,[0,1,2]⟩]:List Rules).length:Int)-1)=1:=rfl
  unfold y4 a5h
  rw [e0]
  rw [a0b (by unfold FU;omega)]
  unfold a1c
  simp only [hv,qA]
  simp (config:={decide:=true}) only [if_true,qA]
  simp only [g1,qA]
  by_cases hc:(35000:Int) <= d
  ·rw [if_pos (by simpa using hc),if_pos hc]
   rfl
  ·rw [if_neg (by simpa using hc),if_neg hc,a0b (by unfold FU;omega)]
   simp only [show i64 (1-1)=0 from rfl]
   try simp only [hv,qA]
   simp (config:={decide:=true}) only [if_true,qA]
   simp only [g,qA]
   rw [if_pos (by simpa using hd)]
   rfl
 ·have g:c8 [(⟨0,m,730,25,[0,1,2]⟩:Rules),⟨36000,m,730,25,[0,1]⟩] 0=some ⟨0,m,730,25,[0,1,2]⟩:=rfl
  have g1:c8 [(⟨0,m,730,25,[0,1,2]⟩:Rules),⟨36000,m,730,25,[0,1]⟩] 1=some ⟨36000,m,730,25,[0,1]⟩:=rfl
  have e0:i64 ((([(⟨0,m,730,25,[0,1,2]⟩:Rules),⟨36000,m,730,25,[0,1]⟩]:List Rules).length:Int)-1)=1:=rfl
  unfold y4 a5h
  rw [e0]
  rw [a0b (by unfold FU;omega)]
  unfold a1c
  simp only [hv,qA]
  simp (config:={decide:=true}) only [if_true,qA]
  simp only [g1,qA]
  by_cases hc:(36000:Int) <= d
  ·rw [if_pos (by simpa using hc),if_pos hc]
   rfl
  ·rw [if_neg (by simpa using hc),if_neg hc,a0b (by unfold FU;omega)]
   simp only [show i64 (1-1)=0 from rfl]
   try simp only [hv,qA]
   simp (config:={decide:=true}) only [if_true,qA]
   simp only [g,qA]
   rw [if_pos (by simpa using hd)]
   rfl
end Go.PL
namespace Go.PL
open Go Go.SX
def deF (p:Int):List Int -> List Int
 | []=>[]
 | y::r=>if y=p then deF p r else y::deF y r
def de:List Int -> List Int
 | []=>[]
 | x::r=>x::deF x r
theorem c6t: ∀(A:List Int) (p y z:Int),deF p (A++[y,z])=if z=y then deF p (A++[y]) else deF p (A++[y])++[z]
 | [],p,y,z=>by
   simp only [List.nil_append,deF]
   by_cases h1:y=p<;>by_cases h2:z=y<;>simp_all
 | x::A,p,y,z=>by
   simp only [List.cons_append,deF]
   split
   ·exact c6t A p y z
   ·rw [c6t A x y z];split<;>simp
theorem e8a (A:List Int) (y z:Int):de (A++[y,z])=if z=y then de (A++[y]) else de (A++[y])++[z]:=by
 cases A with
 | nil=>simp only [List.nil_append,de,deF];split<;>simp
 | cons x A=>simp only [List.cons_append,de];rw [c6t];split<;>simp
theorem e2j {l:List Int} {m:Nat} (h0:0<m) {y z:Int} (hy:l[m-1]? =some y) (hz:l[m]? =some z):de (l.take (m+1))=if z=y then de (l.take m) else de (l.take m)++[z]:=by
 obtain ⟨hm,hz'⟩:=qD.1 hz
 obtain ⟨hm1,hy'⟩:=qD.1 hy
 have e1:l.take m=l.take (m-1)++[y]:=by
  have:=List.take_succ_eq_append_getElem (l:=l) (i:=m-1) hm1
  rw [show m-1+1=m by omega,hy'] at this
  exact this
 have e2:l.take (m+1)=l.take (m-1)++[y,z]:=by
  rw [List.take_succ_eq_append_getElem hm,hz',e1];simp
 rw [e2,e1,e8a]
theorem d1p: ∀(r:List Int) (p x:Int),x∈p::deF p r↔x∈p::r
 | [],p,x=>Iff.rfl
 | y::r,p,x=>by
   simp only [deF]
   split
   ·rename_i h
    rw [d1p r p x,h];simp
   ·have:=d1p r y x
    simp only [qO] at this⊢
    constructor
    ·rintro (h | h)
     ·exact .inl h
     ·exact .inr (this.1 h)
    ·rintro (h | h)
     ·exact .inl h
     ·exact .inr (this.2 h)
theorem f2b (l:List Int) (x:Int):x∈de l↔x∈l:=by
 cases l with
 | nil=>exact Iff.rfl
 | cons y r=>exact d1p r y x
theorem c49 (l:List Int) (hl:l.length <= 1000) (k:Nat) (hk1:1 <= k) (h:k<l.length) (htk:de (l.take (k+1))=l.take k) (m:Nat) (hsl:m=l.length-k):
  ∃r,d5 FU a0w (l,(k:Int),1,((k:Int),m))=some r /\ r=de l:=by
 refine a9s (f:=a0w) (fun s=> ∃(k3 k2:Nat) (cur:List Int),s=(cur,(k3:Int),(k2:Int),((k:Int),m)) /\ 1 <= k2 /\ k+k2 <= l.length /\ k <= k3 /\ k3+1 <= k+k2 /\ cur.length=l.length /\ cur.take k3=de (l.take (k+k2)) /\ ∀j,k+k2-1 <= j -> cur[j]? =l[j]?)
  (fun s=>l.length-s.2.2.1.toNat) _ ⟨k,1,l,rfl,by omega,by omega,by omega,by omega,rfl,htk.symm,fun _ _=>rfl⟩ (by show l.length-_<_;omega) ?_
 rintro s rec2 ⟨k3,k2,cur,rfl,a1,a2,a3,a4,hcl,hct,hcj⟩
 unfold a0w
 dsimp only
 by_cases hlt:k+k2<l.length
 ·right
  have hz2:l[k+k2]? =some l[k+k2]:=qG hlt
  have hy2:l[k+k2-1]? =some l[k+k2-1]:=qG (by omega)
  have w1:c8 cur ((k:Int)+(k2:Int))=some l[k+k2]:=by rw [<- Int.natCast_add,b2f,hcj _ (by omega),hz2]
  have v1:c0h cur (k:Int) (k2:Int)=some l[k+k2]:=by unfold c0h;rw [if_pos (by omega),w1]
  have e2:i64 ((k2:Int)-1)=((k2-1:Nat):Int):=by rw [i7 (by omega) (by omega)];omega
  have w2:c8 cur ((k:Int)+((k2-1:Nat):Int))=some l[k+k2-1]:=by rw [<- Int.natCast_add,b2f,show k+(k2-1)=k+k2-1 by omega,hcj _ (Nat.le_refl _),hy2]
  have v2:c0h cur (k:Int) ((k2-1:Nat):Int)=some l[k+k2-1]:=by unfold c0h;rw [if_pos (by omega),w2]
  have v3:c8 cur (k3:Int)=some (cur[k3]'(by omega)):=by rw [b2f];exact qG _
  have ht2:=e2j (by omega) hy2 hz2
  have e3:i64 ((k2:Int)+1)=((k2+1:Nat):Int):=by rw [i7 (by omega) (by omega)];simp
  have e4:i64 ((k3:Int)+1)=((k3+1:Nat):Int):=by rw [i7 (by omega) (by omega)];simp
  have hd0:decide ((k2:Int)<(m:Int))=true:=decide_eq_true (by omega)
  simp only [hd0,if_true,v1,w1,e2,v2,w2,qA,v3,e3,e4]
  by_cases hq:l[k+k2]=l[k+k2-1]
  ·rw [if_neg (by simpa using hq)]
   rw [if_pos hq] at ht2
   exact ⟨_,rfl,⟨k3,k2+1,cur,rfl,by omega,by omega,a3,by omega,hcl,by rw [hct,<- ht2];rfl,fun j hj=>hcj j (by omega)⟩,by simp only [Int.toNat_natCast];omega⟩
  ·rw [if_pos (by simpa using hq)]
   rw [if_neg hq] at ht2
   refine ⟨_,rfl,⟨k3+1,k2+1,b0i cur (k3:Int) l[k+k2],rfl,by omega,by omega,by omega,by omega,by rw [c1n];exact hcl,?_,fun j hj=> ?_⟩,by simp only [Int.toNat_natCast];omega⟩
   ·have:b0i cur (k3:Int) l[k+k2]=cur.set k3 l[k+k2]:=by unfold b0i;rw [if_pos (by omega),Int.toNat_natCast]
    rw [this,List.take_succ_eq_append_getElem (by rw [List.length_set];omega)]
    have h5:(cur.set k3 l[k+k2]).take k3=cur.take k3:=by rw [List.take_set,List.set_eq_of_length_le (by rw [List.length_take];omega)]
    rw [h5,hct,show k+(k2+1)=k+k2+1 by omega,ht2]
    simp
   ·have:b0i cur (k3:Int) l[k+k2]=cur.set k3 l[k+k2]:=by unfold b0i;rw [if_pos (by omega),Int.toNat_natCast]
    rw [this,List.getElem?_set_ne (by omega)]
    exact hcj j (by omega)
 ·left
  have hd0:decide ((k2:Int)<(m:Int))=false:=decide_eq_false (by omega)
  simp only [hd0,qM,if_false]
  have hcc:(b1p 0 cur (k3:Int)).length=cur.length:=by unfold b1p;simp;omega
  rw [a6a (by omega) (by omega) (by omega),qA]
  unfold f2g
  rw [if_pos (by simp;omega),qA,a6a (by omega) (by omega) (by rw [hcc];omega),qA]
  refine ⟨_,rfl,?_⟩
  have hkk:k+k2=l.length:=by omega
  rw [hkk,List.take_length] at hct
  rw [<- hct]
  unfold b1p
  simp only [Int.toNat_natCast,Int.toNat_zero,List.drop_zero,Nat.sub_zero]
  rw [List.take_append_of_le_length (by rw [List.length_take];omega),List.take_take,Nat.min_self]
theorem c6y (l:List Int) (hl:l.length <= 1000) (rec:List Int×Int -> Option (List Int)) (k:Nat) (hk1:1 <= k) (h:k<l.length):
  y8 rec (l,(k:Int))=if l[k]=l[k-1] then d5 FU a0w (l,(k:Int),1,((k:Int),((l.drop k).take (l.length-k)).length)) else rec (l,((k+1:Nat):Int)):=by
 have hz:c8 l (k:Int)=some l[k]:=by rw [b2f];exact qG h
 have e1:i64 ((k:Int)-1)=((k-1:Nat):Int):=by rw [i7 (by omega) (by omega)];omega
 have hy:c8 l (i64 ((k:Int)-1))=some l[k-1]:=by rw [e1,b2f];exact qG (by omega)
 have hs:a0j l (k:Int) (l.length:Int)=some ((l.drop k).take (l.length-k)):=by rw [a6a (by omega) (by omega) (by omega)];simp
 have e2:i64 ((k:Int)+1)=((k+1:Nat):Int):=by rw [i7 (by omega) (by omega)];simp
 have hd0:decide ((k:Int)<(l.length:Int))=true:=decide_eq_true (by omega)
 unfold y8
 generalize d5 FU=LP
 simp only [hd0,if_true,hz,hy,hs,e2,qA]
 by_cases hh:l[k]=l[k-1]
 ·rw [if_pos (by simpa using hh),if_pos hh]
 ·rw [if_neg (by simpa using hh),if_neg hh]
theorem c91 (l:List Int) (rec:List Int×Int -> Option (List Int)):y8 rec (l,(l.length:Int))=some l:=by
 have hd0:decide ((l.length:Int)<(l.length:Int))=false:=decide_eq_false (by omega)
 unfold y8
 generalize d5 FU=LP
 simp only [hd0,qM,if_false]
theorem d2r (l:List Int) (hl:l.length <= 1000):a4f l=some (de l):=by
 unfold a4f
 by_cases h2:l.length<2
 ·rw [if_pos (by simp;omega)]
  cases l with
  | nil=>rfl
  | cons x r=>
    cases r with
    | nil=>rfl
    | cons y r=>exact absurd h2 (by simp)
 ·rw [if_neg (by simp;omega)]
  obtain ⟨r,h1,h3⟩:=a9s (f:=y8) (fun s=> ∃k:Nat,s=(l,(k:Int)) /\ 1 <= k /\ k <= l.length /\ de (l.take k)=l.take k) (fun s=>l.length-s.2.toNat) (fun r=>r=de l) (s:=(l,1)) ⟨1,rfl,by omega,by omega,by
    cases l with
    | nil=>rfl
    | cons x r=>rfl⟩ (Nat.lt_of_le_of_lt (Nat.sub_le _ _) (Nat.lt_of_le_of_lt hl (by decide))) (by
   rintro s rec ⟨k,rfl,hk1,hk,hd⟩
   by_cases h:k<l.length
   ·have htk:=e2j (l:=l) (m:=k) (by omega) (qG (by omega)) (qG h)
    rw [c6y l hl rec k hk1 h]
    by_cases heq:l[k]=l[k-1]
    ·left
     rw [if_pos heq]
     rw [if_pos heq,hd] at htk
     exact c49 l hl k hk1 h htk _ (by rw [List.length_take,List.length_drop];omega)
    ·right
     rw [if_neg heq]
     rw [if_neg heq,hd] at htk
     refine ⟨_,rfl,⟨k+1,rfl,by omega,h,?_⟩,by simp only [Int.toNat_natCast];omega⟩
     rw [htk,List.take_succ_eq_append_getElem h]
   ·left
    have:k=l.length:=by omega
    subst this
    rw [c91]
    rw [List.take_length] at hd
    exact ⟨l,rfl,hd.symm⟩)
  rw [h1,h3]
end Go.PL
namespace Go.PL
open Go Go.SX
def a7i (s:Span) (d:Int):Bool:=decide (s.From <= d)&&decide (d<s.To)
theorem c1z (s:Span) (d:Int):a3a s d=some (a7i s d):=by
 unfold a3a a7i
 rw [b8j,qA]
 simp
theorem c2r (s:Span) (d:Int):a03 s d=some (a7i s d):=by
 unfold a03 a7i
 rw [b8j,qA]
 simp
theorem b9y (l:List Int) (x:Int) (hl:l.length <= 2^30):a1r l x=some (l.any fun y=>x==y):=by
 obtain ⟨n,h1,h2⟩:=c4v (f:=a40 l x) l (fun y=>x==y) hl (fun rec i y hy=>by
  have hi:=(qD.1 hy).1
  unfold a40
  rw [if_pos (a1j hi)]
  simp only [l6 hy,qA]) fun rec=>by
  unfold a40
  rw [if_neg (a0i _)]
 unfold a1r a94
 rw [h1,qA,h2]
theorem c99 {α σ ρ:Type} {f:(σ -> Option ρ) -> σ -> Option ρ} (l:List α) (p:α -> Bool) (e:α×Bool -> Int -> σ) (out:α×Bool -> Option ρ) (z:α) (hl:l.length <= 2^30)
  (h0: ∀(rec:σ -> Option ρ) (s:α×Bool) (i:Nat) (y:α),l[i]? =some y -> p y=false -> f rec (e s (i:Int))=rec (e s (i64 ((i:Int)+1))))
  (h1: ∀(rec:σ -> Option ρ) (s:α×Bool) (i:Nat) (y:α),l[i]? =some y -> p y=true -> f rec (e s (i:Int))=rec (e (y,true) (i64 ((i:Int)+1))) \/ (s.2=true /\ f rec (e s (i:Int))=rec (e s (i64 ((i:Int)+1)))))
  (hfin: ∀(rec:σ -> Option ρ) (s:α×Bool),f rec (e s (l.length:Int))=out s):
  ∃s,d5 FU f (e (z,false) 0)=out s /\ (s.2=true↔ ∃y∈l,p y=true) /\ (s.2=true -> s.1∈l /\ p s.1=true):=by
 refine o8 (f:=f) l e (fun s i=>(s.2=true↔ ∃y∈l.take i,p y=true) /\ (s.2=true -> s.1∈l /\ p s.1=true)) (fun o=> ∃s,o=out s /\ (s.2=true↔ ∃y∈l,p y=true) /\ (s.2=true -> s.1∈l /\ p s.1=true)) (by omega) ?_ ?_ (z,false) ⟨by simp,by simp⟩
 ·rintro rec s i y hi hy ⟨a,b⟩
  right
  cases hp:p y with
  | false=>
    rw [h0 rec s i y hy hp,l9 (by omega)]
    refine ⟨s,rfl,?_,b⟩
    rw [a,a0c hy]
    constructor
    ·rintro ⟨u,h,h'⟩;exact ⟨u,by simp [h],h'⟩
    ·rintro ⟨u,h,h'⟩
     rcases qK.1 h with h | h
     ·exact ⟨u,h,h'⟩
     ·rw [qF] at h;subst h;rw [hp] at h';cases h'
  | true=>
    have hex: ∃u∈l.take (i+1),p u=true:=⟨y,by rw [a0c hy];simp,hp⟩
    rcases h1 rec s i y hy hp with h | ⟨h,h'⟩
    ·rw [h,l9 (by omega)]
     exact ⟨(y,true),rfl,⟨fun _=>hex,fun _=>rfl⟩,fun _=>⟨qE hy,hp⟩⟩
    ·rw [h',l9 (by omega)]
     exact ⟨s,rfl,⟨fun _=>hex,fun _=>h⟩,b⟩
 ·rintro rec s ⟨a,b⟩
  rw [List.take_length] at a
  exact ⟨s,hfin rec s,a,b⟩
theorem e4h (L:lQ) (d:Int) (ks:List Int) (hl:L.facts.length <= 2^30) (hk:ks.length <= 2^30):
  a1a L d ks=some (L.facts.filter fun u=>(ks.any fun y=>u.Kind==y)&&a7i u.Span d):=by
 unfold a1a
 refine b4n (k:=112) L.facts _ hl (by omega) (fun rec s i y hy=> ?_) fun rec s=> ?_
 ·have hi:=(qD.1 hy).1
  unfold a7c
  dsimp only
  rw [if_pos (a1j hi)]
  simp only [l6 hy,qA,b9y ks _ hk,c1z,m6]
 ·unfold a7c
  dsimp only
  rw [if_neg (a0i _)]
def Ans (b:Prop) (r:Int×Bool):Prop:=(r.2=true↔b) /\ (r.2=true -> 0 <= r.1 /\ r.1 <= 5)
def d6k (l:List aQ):Prop:=(∀u∈l,vld u=true) /\ l.length <= 27
theorem c6u {l:List aQ} (h:d6k l) (p:aQ -> Bool):d6k (l.filter p):=⟨fun u hu=>h.1 u (List.mem_filter.1 hu).1,Nat.le_trans (List.length_filter_le _ _) h.2⟩
theorem f3j {α:Type} {l:List α}:(∃y∈l,true=true)↔l≠[]:=by
 cases l with
 | nil=>simp
 | cons a l=>exact ⟨fun _=>by simp,fun _=>⟨a,by simp,rfl⟩⟩
theorem d8c (L:lQ) (d:Int) (h:d6k L.facts):Tot (a48 L d) (Ans (L.facts.filter (fun u=>([3].any fun y=>u.Kind==y)&&a7i u.Span d)≠[])):=by
 unfold a48
 rw [e4h L d [3] (by have:=h.2;omega) (by simp),qA]
 have hq:=c6u h (fun u=>([3].any fun y=>u.Kind==y)&&a7i u.Span d)
 generalize L.facts.filter (fun u=>([3].any fun y=>u.Kind==y)&&a7i u.Span d)=q at hq
 obtain ⟨s,h1,h2,h3⟩:=c99 (f:=a2p q) q (fun _=>true) (fun (s:aQ×Bool) i=>(s.1,s.2,q,i)) (fun s=>some (s.1.State,s.2)) (⟨0,0,0,false,0,0,0,(⟨0,0⟩:Span),0,0,0,0,0⟩:aQ) (by have:=hq.2;omega)
  (fun rec s i y hy hp=>by cases hp) (fun rec s i y hy hp=>by
   have hi:=(qD.1 hy).1
   unfold a2p
   dsimp only
   rw [if_pos (a1j hi)]
   simp only [l6 hy,qA,a04,m6,qA]
   split
   ·exact .inl rfl
   ·rename_i hc
    refine .inr ⟨?_,rfl⟩
    cases hs:s.2
    ·rw [hs] at hc;simp at hc
    ·rfl) (fun rec s=>by
   unfold a2p
   dsimp only
   rw [if_neg (a0i _)])
 refine ⟨_,h1,?_,fun hb=> ?_⟩
 ·show s.2=true↔_
  rw [h2];exact f3j
 ·exact (b0u (hq.1 _ (h3 hb).1)).2.1
theorem d95 (l:List aQ) (d:Int) (h:d6k l) (h0:0 <= d) (h1:d <= 73048):Tot (a6d l d) (Ans (a7i (q0 l) d=true /\ ∃u∈l,cur u=true /\ u.Kind=5 /\ a7i u.Span d=true)):=by
 have hl:=h.2
 unfold a6d
 rw [e81 h0 h1,qA]
 simp only [Bool.not_true,qM,if_false]
 rw [c0n l (by omega),qA,c73 [q0 l] d (by simp),qA]
 have hd:(decide (0 <= d)&&decide (d <= 73048))=true:=by simp;omega
 have hin:inB [q0 l] d=a7i (q0 l) d:=by simp [inB,a7i]
 rw [hd,hin,Bool.true_and]
 cases hc:a7i (q0 l) d with
 | false=>
   simp only [Bool.not_false,if_true]
   exact Tot.some ⟨by simp,by simp⟩
 | true=>
   simp only [Bool.not_true,qM,if_false]
   obtain ⟨s,g1,g2,g3⟩:=c99 (f:=a3r l d) l (fun u=>(cur u&&(u.Kind==5))&&a7i u.Span d) (fun (s:aQ×Bool) i=>(s.1,s.2,i)) (fun s=>some (s.1.State,s.2)) (⟨0,0,0,false,0,0,0,(⟨0,0⟩:Span),0,0,0,0,0⟩:aQ) (by omega)
    (fun rec s i y hy hp=>by
     have hi:=(qD.1 hy).1
     unfold a3r
     dsimp only
     rw [if_pos (a1j hi)]
     simp only [l6 hy,qA,b40,a04,m6]
     rw [if_pos]
     have:(((!cur y)||(y.Kind != 5))||decide (d<y.Span.From)||decide (d >= y.Span.To))= !((cur y&&(y.Kind==5))&&a7i y.Span d):=by
      unfold a7i
      rw [Bool.eq_iff_iff]
      simp only [Bool.or_eq_true,Bool.not_eq_true',Bool.and_eq_false_iff,decide_eq_true_eq,decide_eq_false_iff_not,bne_iff_ne,beq_eq_false_iff_ne,ne_eq]
      constructor
      ·rintro (((a | a) | a) | a)
       ·exact .inl (.inl a)
       ·exact .inl (.inr a)
       ·exact .inr (.inl (by omega))
       ·exact .inr (.inr (by omega))
      ·rintro ((a | a) | (a | a))
       ·exact .inl (.inl (.inl a))
       ·exact .inl (.inl (.inr a))
       ·exact .inl (.inr (by omega))
       ·exact .inr (by omega)
     rw [this,hp];rfl) (fun rec s i y hy hp=>by
     have hi:=(qD.1 hy).1
     unfold a3r
     dsimp only
     rw [if_pos (a1j hi)]
     simp only [l6 hy,qA,b40,a04,m6]
     rw [if_neg]
     ·split
      ·exact .inl rfl
      ·rename_i hcc
       refine .inr ⟨?_,rfl⟩
       cases hs:s.2
       ·rw [hs] at hcc;simp at hcc
       ·rfl
     ·unfold a7i at hp
      simp at hp
      simp [hp]) (fun rec s=>by
     unfold a3r
     dsimp only
     rw [if_neg (a0i _)])
   refine ⟨_,g1,?_,fun hb=> ?_⟩
   ·show s.2=true↔_
    rw [g2]
    simp only [qB,beq_iff_eq,true_and,and_assoc]
   ·exact (b0u (h.1 _ (g3 hb).1)).2.1
end Go.PL
namespace Go.PL
open Go Go.SX
theorem c25: ∀(l:List (Int×Int)) (k v j:Int),j∈(a9f l k v).map (·.1)↔j=k \/ j∈l.map (·.1)
 | [],k,v,j=>by simp [a9f]
 | q::r,k,v,j=>by
   unfold a9f
   by_cases hq:q.1=k
   ·rw [if_pos hq];simp [hq]
   ·rw [if_neg hq]
    have ih:=c25 r k v j
    simp only [List.map_cons,qO,ih]
    constructor
    ·rintro (h | h | h)
     ·exact .inr (.inl h)
     ·exact .inl h
     ·exact .inr (.inr h)
    ·rintro (h | h | h)
     ·exact .inr (.inl h)
     ·exact .inl h
     ·exact .inr (.inr h)
theorem c4z: ∀(l:List (Int×Int)) (k v:Int),(a9f l k v).length <= l.length+1
 | [],k,v=>by simp [a9f]
 | q::r,k,v=>by
   unfold a9f
   split
   ·simp
   ·have:=c4z r k v
    simp only [List.length_cons];omega
theorem c5u (l:List Int):(c0e l).Perm l:=List.mergeSort_perm l _
theorem e08 (l:List aQ) (h:d6k l):Tot (a8n l) fun r=>(∀x∈r,0 <= x /\ x <= 5) /\ r.length <= 27:=by
 have hl:=h.2
 unfold a8n
 refine o8 (f:=a62 l) l (fun s i=>(s,i)) (fun s i=>s=(l.take i).map (·.Seat)) (fun o=>Tot o _) (by omega) ?_ ?_ [] (by simp)
 ·rintro rec s i y hi hy rfl
  right
  unfold a62
  dsimp only
  rw [if_pos (a1j hi)]
  simp only [l6 hy,qA]
  rw [a0e (by simp only [List.length_cons,List.length_nil,List.length_map,List.length_take];omega),qA,l9 (by omega)]
  exact ⟨_,rfl,by rw [a0c hy,List.map_append];rfl⟩
 ·rintro rec s rfl
  unfold a62
  dsimp only
  rw [if_neg (a0i _),List.take_length]
  unfold c88
  rw [if_pos (by rw [List.length_map];omega),qA]
  have hp:=c5u (l.map (·.Seat))
  have hle:(c0e (l.map (·.Seat))).length=l.length:=by rw [hp.length_eq,List.length_map]
  rw [d2r _ (by omega),qA]
  refine Tot.some ⟨fun x hx=> ?_,?_⟩
  ·rw [f2b,hp.mem_iff,List.mem_map] at hx
   obtain ⟨u,hu,rfl⟩:=hx
   exact (b0u (h.1 u hu)).2.2.1
  ·have hd: ∀(r:List Int) (p:Int),(deF p r).length <= r.length:=by
    intro r
    induction r with
    | nil=>intro p;exact Nat.le_refl _
    | cons y r ih=>
      intro p;simp only [deF];split
      ·exact Nat.le_succ_of_le (ih p)
      ·simp only [List.length_cons];exact Nat.succ_le_succ (ih y)
   have: ∀s:List Int,(de s).length <= s.length:=by
    intro s
    cases s with
    | nil=>simp [de]
    | cons x r=>have:=hd r x;simp only [de,List.length_cons] at *; omega
   have:=this (c0e (l.map (·.Seat)))
   omega
theorem f3l (k:List Int) (hk:k.length <= 1000) (hr: ∀x∈k,0 <= x /\ x <= 5) (m:List (Int×Int)) (z:Int) (hz:z∈k):
  Tot (d5 FU (a06 k) (m,z,k,0)) fun r=>r.2=true /\ 0 <= r.1 /\ r.1 <= 5:=by
 refine o8 (f:=a06 k) k (fun (s:Int) i=>(m,s,k,i)) (fun s i=>s∈k) (fun o=>Tot o _) (by omega) ?_ ?_ z hz
 ·rintro rec s i y hi hy hs
  right
  unfold a06
  simp only [List.map_id',a1j hi,if_true,l6 hy,qA]
  rw [l9 (by omega)]
  split
  ·exact ⟨y,rfl,qE hy⟩
  ·exact ⟨s,rfl,hs⟩
 ·rintro rec s hs
  unfold a06
  simp only [List.map_id']
  rw [if_neg (a0i _)]
  exact Tot.some ⟨rfl,hr s hs⟩
theorem c9q (L:lQ) (d a:Int) (h:d6k L.facts) (h0:0 <= d) (h1:d <= 73048):
  Tot (a2o L d a) (Ans (L.facts.filter (fun u=>([1,2].any fun y=>u.Kind==y)&&a7i u.Span d)≠[])):=by
 unfold a2o
 rw [e4h L d [1,2] (by have:=h.2;omega) (by simp),qA]
 have hq:=c6u h (fun u=>([1,2].any fun y=>u.Kind==y)&&a7i u.Span d)
 generalize L.facts.filter (fun u=>([1,2].any fun y=>u.Kind==y)&&a7i u.Span d)=q at hq
 have hl:=hq.2
 refine o8 (f:=a1b q d a) q (fun (s:List (Int×Int)×Int) i=>(L,s.1,s.2,q,i)) (fun s i=>(∀k,k∈s.1.map (·.1)↔ ∃y∈q.take i,y.State=k) /\ s.1.length <= i) (fun o=>Tot o _) (by omega) ?_ ?_ ([],0) ⟨by simp,by simp⟩
 ·rintro rec s i y hi hy ⟨g1,g2⟩
  right
  unfold a1b
  dsimp only
  rw [if_pos (a1j hi)]
  simp only [l6 hy,qA]
  rw [l9 (by omega)]
  refine ⟨(_,_),rfl,fun k=> ?_,?_⟩
  ·dsimp only
   rw [c25,g1,a0c hy]
   constructor
   ·rintro (e | ⟨u,hu,e⟩)
    ·exact ⟨y,by simp,e.symm⟩
    ·exact ⟨u,by simp [hu],e⟩
   ·rintro ⟨u,hu,e⟩
    rcases qK.1 hu with hu | hu
    ·exact .inr ⟨u,hu,e⟩
    ·rw [qF] at hu;subst hu;exact .inl e.symm
  ·exact Nat.le_trans (c4z _ _ _) (by omega)
 ·rintro rec ⟨m,tt⟩ ⟨g1,g2⟩
  rw [List.take_length] at g1
  dsimp only at g1 g2
  have hst: ∀k∈m.map (·.1),0 <= k /\ k <= 5:=fun k hk=>by
   obtain ⟨y,hy,rfl⟩:=(g1 k).1 hk
   exact (b0u (hq.1 y hy)).2.1
  unfold a1b
  dsimp only
  rw [if_neg (a0i _)]
  unfold c83
  rw [if_pos ⟨by
   rw [List.all_eq_true]
   intro p hp
   have:=hst p.1 (List.mem_map.2 ⟨p,hp,rfl⟩)
   unfold b8x
   simp;omega,by omega⟩,qA]
  have hp:=c5u (m.map (·.1))
  generalize c0e (m.map (·.1))=ks at hp
  have hks: ∀k∈ks,0 <= k /\ k <= 5:=fun k hk=>hst k (hp.subset hk)
  have hkl:ks.length=m.length:=by rw [hp.length_eq,List.length_map]
  simp only [List.map_id']
  refine Tot.ite (fun hc=> ?_) fun hc=> ?_
  ·simp at hc
   refine Tot.some ⟨⟨fun h=>(by simp at h),fun hne=> ?_⟩,by simp⟩
   exfalso
   rw [hc] at hkl
   have hm:m=[]:=List.length_eq_zero_iff.1 hkl.symm
   cases q with
   | nil=>exact hne rfl
   | cons u q=>
     have:=(g1 u.State).2 ⟨u,by simp,rfl⟩
     rw [hm] at this;simp at this
  ·have hks0:ks≠[]:=by
    intro e;rw [e] at hc;simp at hc
   have hne:q≠[]:=by
    intro e
    obtain ⟨x,hx⟩:=List.exists_mem_of_ne_nil ks hks0
    obtain ⟨y,hy,_⟩:=(g1 x).1 (hp.subset hx)
    rw [e] at hy;cases hy
   have good: ∀x:Int,0 <= x /\ x <= 5 -> Ans (q≠[]) (x,true):=fun x hx=>⟨⟨fun _=>hne,fun _=>rfl⟩,fun _=>hx⟩
   have hlen0:0<ks.length:=List.length_pos_iff.2 hks0
   refine Tot.ite (fun hc1=> ?_) fun hc1=> ?_
   ·refine Tot.bind (l7 (by omega) (by omega)) fun x hx=>Tot.bind (l7 (by omega) (by omega)) fun y hy=> ?_
    exact Tot.some (good y (hks y hy))
   ·refine Tot.bind (d95 L.facts d h h0 h1) fun v9 hv9=> ?_
    simp only [m6,qA]
    refine Tot.ite (fun hc2=> ?_) fun hc2=> ?_
    ·simp only [qB] at hc2
     exact Tot.some (good _ (hv9.2 hc2.1.1))
    ·rw [e4h L d [1] (by have:=h.2;omega) (by simp),qA]
     refine Tot.bind (e08 _ (c6u h _)) fun v13 hv13=> ?_
     obtain ⟨hs,hs27⟩:=hv13
     refine Tot.ite (fun hc3=> ?_) fun hc3=> ?_
     ·simp at hc3
      refine Tot.bind (l7 (by omega) (by omega)) fun x hx=>Tot.bind (l7 (by omega) (by omega)) fun y hy=> ?_
      exact Tot.some (good y (hs y hy))
     ·rw [b9y v13 _ (by omega)]
      simp only [m6,qA]
      refine Tot.ite (fun hc4=> ?_) fun hc4=> ?_
      ·simp only [qB] at hc4
       obtain ⟨⟨hb,h2⟩,hin⟩:=hc4
       match v13,h2,hin,hs with
       | [x,y],_,hin,hs=>
         have e0:c8 [x,y] 0=some x:=rfl
         have e1:c8 [x,y] 1=some y:=rfl
         simp only [e0,e1,qA]
         have hx:=hs x (by simp)
         have hy:=hs y (by simp)
         have hz:v9.1=x \/ v9.1=y:=by simpa using hin
         refine Tot.some (good _ ?_)
         rw [i7 (n:=x+y) (by omega) (by omega)]
         rcases hz with e | e
         ·rw [e,show x+y-x=y by omega,i7 (by omega) (by omega)];exact hy
         ·rw [e,show x+y-y=x by omega,i7 (by omega) (by omega)];exact hx
       | [],h2,_,_=>simp at h2
       | [_],h2,_,_=>simp at h2
       | _::_::_::_,h2,_,_=>simp at h2;omega
      ·refine Tot.ite (fun hc5=>Tot.some (good _ (hv9.2 hc5))) fun hc5=> ?_
       refine Tot.bind (l7 (by omega) (by omega)) fun x hx=>Tot.bind (l7 (by omega) (by omega)) fun y hy=> ?_
       have:=f3l ks (by omega) hks m y hy
       exact this.mono fun r hr=>⟨⟨fun _=>hne,fun _=>hr.1⟩,fun _=>hr.2⟩
theorem d1i (q:List aQ) (h:d6k q) (hne:q≠[]):Tot (j6 q) fun r=>r∈q:=by
 have hl:=h.2
 have hp:0<q.length:=List.length_pos_iff.2 hne
 unfold j6
 rw [if_neg (by simp;omega),b4a]
 unfold t6
 dsimp only
 refine Tot.bind (l7 (by omega) (by omega)) fun v2 hv2=> ?_
 refine Tot.loop (I:=fun v:aQ×aQ×Int=>1 <= v.2.2 /\ v.2.2 <= (q.length:Int) /\ v.2.1∈q) (μ:=fun v=>((q.length:Int)-v.2.2).toNat) ⟨by show (1:Int) <= 1;omega,by show (1:Int) <= _;omega,hv2⟩ (by show ((q.length:Int)-1).toNat<_;omega) ?_
 rintro r ⟨w,v,i⟩ ⟨g1,g2,g3⟩ ih
 dsimp only at g1 g2 g3
 unfold s8
 dsimp only
 refine Tot.ite (fun hc=> ?_) fun hc=>Tot.some g3
 simp at hc
 refine Tot.bind (l7 (by omega) hc) fun v5 hv5=> ?_
 unfold a4r
 rw [c19,qA,qA,a6l (by omega) (by omega)]
 refine Tot.ite (fun _=> ?_) fun _=> ?_
 ·refine Tot.bind (l7 (by omega) hc) fun v7 hv7=> ?_
  exact ih _ ⟨by show 1 <= i+1;omega,by show i+1 <= _;omega,hv7⟩ (by show ((q.length:Int)-(i+1)).toNat<((q.length:Int)-i).toNat;omega)
 ·exact ih _ ⟨by show 1 <= i+1;omega,by show i+1 <= _;omega,g3⟩ (by show ((q.length:Int)-(i+1)).toNat<((q.length:Int)-i).toNat;omega)
theorem d1g (L:lQ) (d:Int) (h:d6k L.facts):Tot (a30 L d) (Ans (L.facts.filter (fun u=>([7,8].any fun y=>u.Kind==y)&&a7i u.Span d)≠[])):=by
 unfold a30
 rw [e4h L d [7,8] (by have:=h.2;omega) (by simp),qA]
 have hq:=c6u h (fun u=>([7,8].any fun y=>u.Kind==y)&&a7i u.Span d)
 generalize L.facts.filter (fun u=>([7,8].any fun y=>u.Kind==y)&&a7i u.Span d)=q at hq
 refine Tot.ite (fun hc=> ?_) fun hc=> ?_
 ·simp at hc
  exact Tot.some ⟨by simp [hc],by simp⟩
 ·have hne:q≠[]:=by intro e;rw [e] at hc;simp at hc
  refine Tot.bind (d1i q hq hne) fun u hu=> ?_
  exact Tot.some ⟨⟨fun _=>hne,fun _=>rfl⟩,fun _=>(b0u (hq.1 u hu)).2.1⟩
end Go.PL
namespace Go.PL
open Go Go.SX
def b3a (k:Int):Prop:=k=3 \/ k=1 \/ k=2 \/ k=7 \/ k=8 \/ k=5
def Ex (f:List aQ) (T:List Rules) (d:Int):Prop:=a7i (q0 f) d=true /\
 ((∃p,PM f p /\ a7i p.Span d=true /\ d<p.Span.From+(a5h T d).PostingLimit) \/ ∃u∈f.filter cur,b3a u.Kind /\ a7i u.Span d=true)
theorem d7v (l:List aQ):(l.filter cur).filter cur=l.filter cur:=by
 rw [List.filter_filter];congr 1;funext u;cases cur u<;>rfl
theorem e2z (l:List aQ):q0 (l.filter cur)=q0 l:=by
 unfold q0 b6s a8e b77;rw [d7v]
theorem c5q {f:List aQ} (hf:f.length <= 2^30) {p:Posting} (h:PM f p):0 <= p.Span.From /\ p.Span.From<p.Span.To /\ p.Span.To <= 73049 /\ (0 <= p.Seat /\ p.Seat <= 5) /\ 0 <= p.State /\ p.State <= 5:=by
 unfold PM at h
 obtain ⟨_,_,h3,h4,_⟩:=b14 (e2o f p.Seat p.State) (q0 f) (by have:=c0m f p.Seat p.State;omega)
 have g1:=h3.1 _ h
 obtain ⟨⟨s,hs,_⟩,_⟩:=(h4 p.Span.From).1 ⟨p.Span,h,Int.le_refl _,g1.2.1⟩
 unfold e2o at hs
 obtain ⟨u,hu,_⟩:=List.mem_map.1 hs
 rw [List.mem_filter] at hu
 have hh:=hu.2
 simp at hh
 obtain ⟨_,r1,r2,_⟩:=b0u (c5c hu.1)
 rw [hh.1.2] at r2
 rw [hh.2] at r1
 exact ⟨g1.1,g1.2.1,g1.2.2,r2,r1⟩
theorem d20 {f:List aQ} (hf:f.length <= 2^30) (L:lQ) (d lim:Int) (hm: ∀p,p∈L.postings↔PM f p) (hlen:L.postings.length <= 12) (h0:0 <= lim) (h1:lim <= 730):
  Tot (a31 L d lim) (Ans (∃p,PM f p /\ a7i p.Span d=true /\ d<p.Span.From+lim)):=by
 unfold a31
 refine o8 (f:=a1m L d lim) L.postings (fun (_:Unit) i=>i) (fun _ i=> ∀p∈L.postings.take i,¬(a7i p.Span d=true /\ d<p.Span.From+lim)) (fun o=>Tot o _) (by omega) ?_ ?_ () (by simp)
 ·rintro rec s i y hi hy h
  have hy':=(hm y).1 (qE hy)
  obtain ⟨r1,r2,r3,r4,_⟩:=c5q hf hy'
  unfold a1m
  rw [if_pos (a1j hi)]
  simp only [l6 hy,qA,c1z,m6]
  rw [i7 (n:=y.Span.From+lim) (by omega) (by omega),l9 (by omega)]
  by_cases hc:a7i y.Span d=true /\ d<y.Span.From+lim
  ·left
   rw [if_pos (by simp [hc.1,hc.2])]
   exact Tot.some ⟨⟨fun _=>⟨y,hy',hc⟩,fun _=>rfl⟩,fun _=>r4⟩
  ·right
   rw [if_neg (by simpa using hc)]
   refine ⟨(),rfl,fun p hp=> ?_⟩
   rw [a0c hy] at hp
   rcases qK.1 hp with hp | hp
   ·exact h p hp
   ·rw [qF] at hp;subst hp;exact hc
 ·intro rec s h
  rw [List.take_length] at h
  unfold a1m
  rw [if_neg (a0i _)]
  refine Tot.some ⟨⟨fun h=>(by simp at h),?_⟩,by simp⟩
  rintro ⟨p,hp,hc⟩
  exact absurd hc (h p ((hm p).2 hp))
theorem d6v {l:List aQ} {ks:List Int} {d:Int}:l.filter (fun u=>(ks.any fun y=>u.Kind==y)&&a7i u.Span d)≠[]↔ ∃u∈l,u.Kind∈ks /\ a7i u.Span d=true:=by
 rw [ne_eq,List.filter_eq_nil_iff]
 constructor
 ·intro h
  apply Classical.byContradiction
  intro hn
  refine h fun u hu hc=>hn ⟨u,hu,?_⟩
  simp only [qB,List.any_eq_true,beq_iff_eq] at hc
  obtain ⟨⟨y,hy,e⟩,hc⟩:=hc
  exact ⟨e▸hy,hc⟩
 ·rintro ⟨u,hu,hk,hc⟩ h
  refine h u hu ?_
  simp only [qB,List.any_eq_true,beq_iff_eq]
  exact ⟨⟨u.Kind,hk,rfl⟩,hc⟩
theorem f2q {f:List aQ} {T:List Rules} (hG:a39 f) (hT:TrF T) {d:Int} (h0:0 <= d) (h1:d <= 73048):
  Tot (a85 f T d) fun r=>(r.2≠0↔Ex f T d) /\ (r.2≠0 -> 0 <= r.1 /\ r.1 <= 5):=by
 have hf:f.length <= 2^30:=by have:=hG.len;omega
 obtain ⟨P,hP,hPm,hPl⟩:=d0x hG
 obtain ⟨t1,t2,t3,t4,t5⟩:=c7e hT d
 have hv:d6k (f.filter cur):=⟨fun u hu=>c5c hu,by have:=List.length_filter_le cur f;have:=hG.len;omega⟩
 unfold a85 b01
 rw [c2v f hf,qA,c0n f hf,qA,hP,qA,d8a hT,qA,qA]
 simp only [beq_self_eq_true,Bool.not_true,qM,if_false]
 have no: ∀{r:Int×Int},r.2=0 -> ¬Ex f T d -> (r.2≠0↔Ex f T d) /\ (r.2≠0 -> 0 <= r.1 /\ r.1 <= 5):=fun e hn=>⟨⟨fun h=>absurd e h,fun h=>absurd h hn⟩,fun h=>absurd e h⟩
 have yes: ∀{r:Int×Int},r.2≠0 -> Ex f T d -> 0 <= r.1 /\ r.1 <= 5 -> (r.2≠0↔Ex f T d) /\ (r.2≠0 -> 0 <= r.1 /\ r.1 <= 5):=fun e hn hr=>⟨⟨fun _=>hn,fun _=>e⟩,fun _=>hr⟩
 suffices hs:Tot (a5t (⟨f.filter cur,q0 f,P,T⟩:lQ) d) fun r=>(r.2≠0↔Ex f T d) /\ (r.2≠0 -> 0 <= r.1 /\ r.1 <= 5) from Tot.bind hs fun r hr=>Tot.some hr
 unfold a5t
 dsimp only
 rw [f5k hT h0 h1,qA]
 simp only [Bool.not_true,qM,if_false,c1z,qA]
 cases hc:a7i (q0 f) d with
 | false=>
   simp only [Bool.not_false,if_true]
   exact Tot.some (no rfl fun h=>by rw [h.1] at hc;cases hc)
 | true=>
   simp only [Bool.not_true,qM,if_false]
   refine Tot.bind (d20 hf (⟨f.filter cur,q0 f,P,T⟩:lQ) d _ hPm hPl t1 t2) fun r1 a1=> ?_
   refine Tot.ite (fun hr=>Tot.some (yes (by simp) ⟨hc,.inl (a1.1.1 hr)⟩ (a1.2 hr))) fun n1=> ?_
   refine Tot.bind (d8c (⟨f.filter cur,q0 f,P,T⟩:lQ) d hv) fun r2 a2=> ?_
   have fact: ∀{ks:List Int} {r:Int×Bool},(∀k∈ks,b3a k) -> Ans ((f.filter cur).filter (fun u=>(ks.any fun y=>u.Kind==y)&&a7i u.Span d)≠[]) r -> r.2=true -> Ex f T d:=by
    intro ks r hk ha hr
    obtain ⟨u,hu,h1,h2⟩:=d6v.1 (ha.1.1 hr)
    exact ⟨hc,.inr ⟨u,hu,hk _ h1,h2⟩⟩
   refine Tot.ite (fun hr=>Tot.some (yes (by simp) (fact (by simp [b3a]) a2 hr) (a2.2 hr))) fun n2=> ?_
   refine Tot.bind (c9q (⟨f.filter cur,q0 f,P,T⟩:lQ) d _ hv h0 h1) fun r3 a3=> ?_
   refine Tot.ite (fun hr=>Tot.some (yes (by simp) (fact (by simp [b3a]) a3 hr) (a3.2 hr))) fun n3=> ?_
   refine Tot.bind (d1g (⟨f.filter cur,q0 f,P,T⟩:lQ) d hv) fun r4 a4=> ?_
   refine Tot.ite (fun hr=>Tot.some (yes (by simp) (fact (by simp [b3a]) a4 hr) (a4.2 hr))) fun n4=> ?_
   refine Tot.bind (d95 (f.filter cur) d hv h0 h1) fun r5 a5=> ?_
   refine Tot.ite (fun hr=> ?_) fun n5=> ?_
   ·obtain ⟨_,u,hu,_,hk,hcu⟩:=a5.1.1 hr
    exact Tot.some (yes (by simp) ⟨hc,.inr ⟨u,hu,by simp [b3a,hk],hcu⟩⟩ (a5.2 hr))
   ·refine Tot.some (no rfl ?_)
    rintro ⟨_,hp | ⟨u,hu,hk,hcu⟩⟩
    ·exact n1 (a1.1.2 hp)
    ·rcases hk with e | e | e | e | e | e
     ·exact n2 (a2.1.2 (d6v.2 ⟨u,hu,by simp [e],hcu⟩))
     ·exact n3 (a3.1.2 (d6v.2 ⟨u,hu,by simp [e],hcu⟩))
     ·exact n3 (a3.1.2 (d6v.2 ⟨u,hu,by simp [e],hcu⟩))
     ·exact n4 (a4.1.2 (d6v.2 ⟨u,hu,by simp [e],hcu⟩))
     ·exact n4 (a4.1.2 (d6v.2 ⟨u,hu,by simp [e],hcu⟩))
     ·refine n5 (a5.1.2 ⟨by rw [e2z];exact hc,u,hu,by simpa using (List.mem_filter.1 hu).2,e,hcu⟩)
end Go.PL
namespace Go.PL
open Go Go.SX
theorem d5t (l:List Posting) (p:Posting) (hl:l.length <= 10000):Tot (a5p l p) fun r=>(∀x,x∈r↔x=p \/ x∈l) /\ r.length=l.length+1:=by
 unfold a5p
 refine Tot.loop (I:=fun v:Posting×Int=>v.1=p /\ 0 <= v.2 /\ v.2 <= (l.length:Int)) (μ:=fun v=>v.2.toNat) ⟨rfl,by show (0:Int) <= _;omega,Int.le_refl _⟩ (by show ((l.length:Int)).toNat<_;omega) ?_
 rintro r ⟨q,k⟩ ⟨g1,g2,g3⟩ ih
 dsimp only at g1 g2 g3
 subst g1
 unfold b0o
 dsimp only
 have fin:Tot (Option.bind (a0j l 0 k) fun v5=>Option.bind (a4t 32 [] v5) fun v6=>Option.bind (a4t 32 v6 [q]) fun v7=>Option.bind (a0j l k (l.length:Int)) fun v8=>Option.bind (a4t 32 v7 v8) fun v9=>some v9) fun r=>(∀x,x∈r↔x=q \/ x∈l) /\ r.length=l.length+1:=by
  rw [a6a (by omega) g2 g3,qA,a0e (by simp;omega),qA,a0e (by simp;omega),qA,a6a g2 g3 (by omega),qA,a0e (by simp;omega),qA]
  have e1:((l.drop (0:Int).toNat).take (k.toNat-(0:Int).toNat))=l.take k.toNat:=by simp
  have e2:((l.drop k.toNat).take ((l.length:Int).toNat-k.toNat))=l.drop k.toNat:=by rw [List.take_of_length_le];simp
  rw [e1,e2]
  refine Tot.some ⟨fun x=> ?_,?_⟩
  ·have:x∈l↔x∈l.take k.toNat \/ x∈l.drop k.toNat:=by rw [<- qK,List.take_append_drop]
   rw [this]
   simp only [List.nil_append,qK,qF]
   constructor
   ·rintro ((h | h) | h)
    ·exact .inr (.inl h)
    ·exact .inl h
    ·exact .inr (.inr h)
   ·rintro (h | h | h)
    ·exact .inl (.inr h)
    ·exact .inl (.inl h)
    ·exact .inr h
  ·simp;omega
 by_cases hk:k>0
 ·simp only [hk,decide_true,if_true]
  rw [i7 (n:=k-1) (by omega) (by omega)]
  refine Tot.bind (Q:=fun _=>True) (Tot.bind (l7 (by omega) (by omega)) fun x _=>Tot.some trivial) fun b _=> ?_
  refine Tot.ite (fun _=> ?_) fun _=>fin
  exact ih _ ⟨rfl,by show 0 <= k-1;omega,by show k-1 <= _;omega⟩ (by show (k-1).toNat<k.toNat;omega)
 ·simp only [hk,decide_false,qM,if_false,qA]
  exact fin
theorem e5j {f:List aQ} (hf:f.length <= 27) (v2 v4:(List aQ)×(List Posting)×Int) (c:List Span) (hc:c.length <= 27) (out:List Posting) (ho:out.length <= 9000) (r5:((List aQ)×(List Posting)×Int) -> Option (List Posting)) (Q:List Posting -> Prop) (cu:List aQ)
  (ih: ∀out',(∀p,p∈out'↔p∈out \/ (p.Seat=v2.2.2 /\ p.State=v4.2.2 /\ p.Span∈c)) -> out'.length <= out.length+27 -> Tot (r5 (cu,out',i64 (v4.2.2+1))) Q):
  Tot (d5 FU (a0x v2 v4 r5) (cu,out,c,0)) Q:=by
 refine o8 (f:=a0x v2 v4 r5) c (fun (s:List Posting) i=>(cu,s,c,i)) (fun s i=>(∀p,p∈s↔p∈out \/ (p.Seat=v2.2.2 /\ p.State=v4.2.2 /\ p.Span∈c.take i)) /\ s.length=out.length+i) (fun o=>Tot o Q) (by omega) ?_ ?_ out ⟨by simp,by simp⟩
 ·rintro rec s i y hi hy ⟨g1,g2⟩
  right
  unfold a0x
  dsimp only
  rw [if_pos (a1j hi)]
  simp only [l6 hy,qA]
  obtain ⟨s',e,h1,h2⟩:=d5t s (⟨v2.2.2,v4.2.2,y⟩:Posting) (by omega)
  rw [e,qA,l9 (by omega)]
  refine ⟨s',rfl,fun p=> ?_,by omega⟩
  rw [h1,g1,a0c hy,qK,qF]
  constructor
  ·rintro (h | h | ⟨a,b,h⟩)
   ·subst h;exact .inr ⟨rfl,rfl,.inr rfl⟩
   ·exact .inl h
   ·exact .inr ⟨a,b,.inl h⟩
  ·rintro (h | ⟨a,b,h | h⟩)
   ·exact .inr (.inl h)
   ·exact .inr (.inr ⟨a,b,h⟩)
   ·left
    cases p;simp_all
 ·rintro rec s ⟨g1,g2⟩
  rw [List.take_length] at g1
  unfold a0x
  dsimp only
  rw [if_neg (a0i _)]
  exact ih s g1 (by omega)
theorem e5u {f:List aQ} (hf:f.length <= 27) (v2 v4:(List aQ)×(List Posting)×Int) (out:List Posting) (ho:out.length <= 9000) (r5:((List aQ)×(List Posting)×Int) -> Option (List Posting)) (Q:List Posting -> Prop)
  (ih: ∀out',(∀p,p∈out'↔p∈out \/ (p.Seat=v2.2.2 /\ p.State=v4.2.2 /\ PM f p)) -> out'.length <= out.length+27 -> Tot (r5 (f.filter cur,out',i64 (v4.2.2+1))) Q):
  Tot (d5 FU (a0y v2 v4 f r5) (f.filter cur,out,[],0)) Q:=by
 have hcl:=List.length_filter_le cur f
 have hg:=c0m f v2.2.2 v4.2.2
 obtain ⟨_,c2,_,_,c5⟩:=b14 (e2o f v2.2.2 v4.2.2) (q0 f) (by omega)
 let pr:aQ -> Bool:=fun u=>(u.Kind==4)&&(u.Seat==v2.2.2)&&(u.State==v4.2.2)
 refine o8 (f:=a0y v2 v4 f r5) (f.filter cur) (fun (s:List Span) i=>(f.filter cur,out,s,i)) (fun s i=>s=(((f.filter cur).take i).filter pr).map (·.Span)) (fun o=>Tot o Q) (by omega) ?_ ?_ [] (by simp)
 ·rintro rec s i y hi hy rfl
  right
  unfold a0y
  dsimp only
  rw [if_pos (a1j hi)]
  simp only [l6 hy,qA,m6]
  have hlen:(((f.filter cur).take i).filter pr).length <= i:=by
   have:=List.length_filter_le pr ((f.filter cur).take i);rw [List.length_take] at this;omega
  rw [l9 (by omega),a0c hy,List.filter_append]
  by_cases hc:pr y=true
  ·rw [if_pos hc,a0e (by simp;omega),qA]
   exact ⟨_,rfl,by simp [hc]⟩
  ·rw [if_neg hc]
   rw [Bool.not_eq_true] at hc
   exact ⟨_,rfl,by simp [hc]⟩
 ·rintro rec s rfl
  rw [List.take_length]
  unfold a0y
  dsimp only
  rw [if_neg (a0i _),c13 f (by omega),qA]
  have e:((f.filter cur).filter pr).map (·.Span)=e2o f v2.2.2 v4.2.2:=rfl
  rw [e,c2,qA]
  refine e5j hf v2 v4 _ (by omega) out ho r5 Q (f.filter cur) fun out' h1 h2=>ih out' (fun p=> ?_) h2
  rw [h1]
  constructor
  ·rintro (h | ⟨a,b,h⟩)
   ·exact .inl h
   ·exact .inr ⟨a,b,by unfold PM;rw [a,b];exact h⟩
  ·rintro (h | ⟨a,b,h⟩)
   ·exact .inl h
   ·exact .inr ⟨a,b,by unfold PM at h;rw [a,b] at h;exact h⟩
theorem d8y {f:List aQ} (hf:f.length <= 27):Tot (a4m f) fun r=>(∀p,p∈r↔PM f p) /\ r.length <= 1000:=by
 have hr: ∀{p},PM f p -> (0 <= p.Seat /\ p.Seat <= 5) /\ 0 <= p.State /\ p.State <= 5:=fun h=>(c5q (by omega) h).2.2.2
 unfold a4m
 rw [b4i f (by omega),qA]
 refine Tot.loop (I:=fun v:(List aQ)×(List Posting)×Int=>v.1=f.filter cur /\ 0 <= v.2.2 /\ v.2.2 <= 6 /\ (∀p,p∈v.2.1↔PM f p /\ p.Seat<v.2.2) /\ (v.2.1.length:Int) <= 162*v.2.2) (μ:=fun v=>(6-v.2.2).toNat) ⟨rfl,Int.le_refl _,by show (0:Int) <= 6;omega,fun p=>⟨fun h=>(by cases h),fun h=>(by have:=hr h.1;have h2:p.Seat<0:=h.2;omega)⟩,by show (0:Int) <= 162*0;omega⟩ (by show (6-0:Int).toNat<_;omega) ?_
 rintro r3 ⟨cu,out,i⟩ ⟨rfl,g2,g3,g4,g5⟩ ih
 dsimp only at g2 g3 g4 g5
 unfold a9b
 dsimp only
 refine Tot.ite (fun hc=> ?_) fun hc=> ?_
 ·simp at hc
  refine Tot.loop (I:=fun v:(List aQ)×(List Posting)×Int=>v.1=f.filter cur /\ 0 <= v.2.2 /\ v.2.2 <= 6 /\ (∀p,p∈v.2.1↔PM f p /\ (p.Seat<i \/ (p.Seat=i /\ p.State<v.2.2))) /\ (v.2.1.length:Int) <= 162*i+27*v.2.2) (μ:=fun v=>(6-v.2.2).toNat) ⟨rfl,Int.le_refl _,by show (0:Int) <= 6;omega,fun p=> ?_,by show (out.length:Int) <= 162*i+27*0;omega⟩ (by show (6-0:Int).toNat<_;omega) ?_
  ·dsimp only
   rw [g4]
   constructor
   ·rintro ⟨a,b⟩;exact ⟨a,.inl b⟩
   ·rintro ⟨a,b | ⟨b,c⟩⟩
    ·exact ⟨a,b⟩
    ·have:=hr a;omega
  rintro r5 ⟨cu,out2,j⟩ ⟨rfl,k2,k3,k4,k5⟩ ih2
  dsimp only at k2 k3 k4 k5
  unfold a9c
  dsimp only
  refine Tot.ite (fun hc2=> ?_) fun hc2=> ?_
  ·simp at hc2
   refine e5u hf ((f.filter cur,out,i):(List aQ)×(List Posting)×Int) ((f.filter cur,out2,j):(List aQ)×(List Posting)×Int) out2 (by omega) r5 _ fun out' h1 h2=> ?_
   dsimp only at h1⊢
   rw [i7 (n:=j+1) (by omega) (by omega)]
   refine ih2 _ ⟨rfl,by show 0 <= j+1;omega,by show j+1 <= 6;omega,fun p=> ?_,by show (out'.length:Int) <= 162*i+27*(j+1);omega⟩ (by show (6-(j+1)).toNat<(6-j).toNat;omega)
   dsimp only
   rw [h1,k4]
   constructor
   ·rintro (⟨a,b⟩ | ⟨a,b,c⟩)
    ·exact ⟨a,by omega⟩
    ·exact ⟨c,by omega⟩
   ·rintro ⟨a,b⟩
    by_cases hh:p.Seat=i /\ p.State=j
    ·exact .inr ⟨hh.1,hh.2,a⟩
    ·exact .inl ⟨a,by omega⟩
  ·simp at hc2
   rw [i7 (n:=i+1) (by omega) (by omega)]
   refine ih _ ⟨rfl,by show 0 <= i+1;omega,by show i+1 <= 6;omega,fun p=> ?_,by show (out2.length:Int) <= 162*(i+1);omega⟩ (by show (6-(i+1)).toNat<(6-i).toNat;omega)
   dsimp only
   rw [k4]
   constructor
   ·rintro ⟨a,b⟩;exact ⟨a,by omega⟩
   ·rintro ⟨a,b⟩
    have:=hr a
    exact ⟨a,by omega⟩
 ·simp at hc
  refine Tot.some ⟨fun p=> ?_,?_⟩
  ·show p∈out↔_
   rw [g4]
   constructor
   ·rintro ⟨a,b⟩;exact a
   ·intro a
    have:=hr a
    exact ⟨a,by omega⟩
  ·show out.length <= 1000
   omega
end Go.PL
namespace Go.PL
open Go Go.SX
theorem d7z {α:Type} {l:List α} {i j:Int} {y:α} (h0:0 <= i) (h1:i<(l.length:Int)) (hj:0 <= j):c8 (b0i l i y) j=if j=i then some y else c8 l j:=by
 unfold c8 b0i
 rw [if_pos h0,if_pos hj,if_pos hj]
 by_cases e:j=i
 ·subst e
  rw [if_pos rfl,List.getElem?_set_self (by omega)]
 ·rw [if_neg e,List.getElem?_set_ne (by omega)]
def k12 (u:aQ):Bool:=(u.Kind==1)||(u.Kind==2)
def ShI (a:Ar 6 Int) (q:List aQ) (d:Int):Prop:= ∀k:Int,0 <= k -> k <= 5 -> ∃x,c8 a.l k=some x /\ 0 <= x /\ x <= 100*(q.length:Int) /\ (0<x↔ ∃y∈q,k12 y=true /\ a7i y.Span d=true /\ y.State=k)
theorem e3b {a:Ar 6 Int} {q:List aQ} {d:Int} {y:aQ} (h:ShI a q d) (hy: ¬(k12 y=true /\ a7i y.Span d=true)):ShI a (q++[y]) d:=by
 intro k h0 h1
 obtain ⟨x,e,g1,g2,g3⟩:=h k h0 h1
 refine ⟨x,e,g1,by simp only [qL,List.length_cons,List.length_nil];omega,?_⟩
 rw [g3]
 constructor
 ·rintro ⟨u,hu,r⟩;exact ⟨u,by simp [hu],r⟩
 ·rintro ⟨u,hu,r1,r2,r3⟩
  rcases qK.1 hu with hu | hu
  ·exact ⟨u,hu,r1,r2,r3⟩
  ·rw [qF] at hu;subst hu;exact absurd ⟨r1,r2⟩ hy
theorem d6d (q:List aQ) (d:Int) (h:d6k q):Tot (a5v q d) fun a=>ShI a q d:=by
 have hl:=h.2
 unfold a5v
 refine o8 (f:=a3u q d) q (fun (s:Ar 6 Int) i=>(arZ 6 0,s,i)) (fun s i=>ShI s (q.take i) d) (fun o=>Tot o _) (by omega) ?_ ?_ (arZ 6 0) ?_
 ·rintro rec s i y hi hy hI
  right
  have hv:=b0u (h.1 y (qE hy))
  have hlen:(q.take i).length=i:=by rw [List.length_take];omega
  unfold a3u
  dsimp only
  rw [if_pos (a1j hi)]
  simp only [l6 hy,qA,c2r,a04,m6]
  rw [l9 (by omega)]
  by_cases hc:(((y.Kind==1)||(y.Kind==2))&&a7i y.Span d)=true
  ·rw [if_pos hc]
   obtain ⟨x,e,g1,g2,g3⟩:=hI y.State hv.2.1.1 hv.2.1.2
   simp only [e,qA]
   have hkk:y.Kind=1 \/ y.Kind=2 \/ y.Kind=3:=by
    simp at hc;rcases hc.1 with e | e
    ·exact .inl e
    ·exact .inr (.inl e)
   have hsh:=hv.2.2.2.2 hkk
   have hsh2:=hv.2.2.2.1
   rw [hlen] at g2
   rw [i7 (n:=x+y.Share) (by omega) (by omega)]
   refine ⟨_,rfl,fun k h0 h1=> ?_⟩
   have hal:(s.l.length:Int)=6:=by rw [s.h];rfl
   rw [a0c hy]
   have hlen2:((q.take i++[y]).length:Int)=i+1:=by simp;omega
   show∃x',c8 (b0i s.l y.State (x+y.Share)) k=some x' /\ _
   rw [d7z hv.2.1.1 (by omega) h0]
   by_cases ek:k=y.State
   ·rw [if_pos ek]
    refine ⟨_,rfl,by omega,by omega,⟨fun _=>⟨y,by simp,?_,?_,ek.symm⟩,fun _=>by omega⟩⟩
    ·simp at hc;simp [k12];exact hc.1
    ·simp at hc;exact hc.2
   ·rw [if_neg ek]
    obtain ⟨x',e',g1',g2',g3'⟩:=hI k h0 h1
    rw [hlen] at g2'
    refine ⟨x',e',g1',by omega,?_⟩
    rw [g3']
    constructor
    ·rintro ⟨u,hu,r⟩;exact ⟨u,by simp [hu],r⟩
    ·rintro ⟨u,hu,r1,r2,r3⟩
     rcases qK.1 hu with hu | hu
     ·exact ⟨u,hu,r1,r2,r3⟩
     ·rw [qF] at hu;subst hu;exact absurd r3.symm ek
  ·rw [if_neg hc]
   refine ⟨s,rfl,?_⟩
   rw [a0c hy]
   refine e3b hI fun hh=>hc ?_
   unfold k12 at hh
   rw [hh.1,hh.2];rfl
 ·rintro rec s hI
  rw [List.take_length] at hI
  unfold a3u
  dsimp only
  rw [if_neg (a0i _)]
  exact Tot.some hI
 ·intro k h0 h1
  refine ⟨0,?_,Int.le_refl _,by simp,by simp⟩
  show c8 (List.replicate 6 (0:Int)) k=some 0
  unfold c8
  rw [if_pos h0,List.getElem?_replicate,if_pos (by omega)]
theorem e1o (l:List Int) (n:Int) (hl:l.length <= 100000):Tot (o9 l n) fun r=>(∀x,x∈r↔x=n \/ x∈l) /\ r.length <= l.length+1:=by
 unfold o9
 refine Tot.loop (I:=fun v:Int=>0 <= v /\ v <= (l.length:Int)) (μ:=fun v=>v.toNat) ⟨by omega,Int.le_refl _⟩ (by show ((l.length:Int)).toNat<_;omega) ?_
 rintro r k ⟨g2,g3⟩ ih
 unfold a6o
 have fin:Tot (Option.bind (a0j l 0 k) fun v5=>Option.bind (a4t 8 [] v5) fun v6=>Option.bind (a4t 8 v6 [n]) fun v7=>Option.bind (a0j l k (l.length:Int)) fun v8=>Option.bind (a4t 8 v7 v8) fun v9=>some v9) fun r=>(∀x,x∈r↔x=n \/ x∈l) /\ r.length <= l.length+1:=by
  rw [a6a (by omega) g2 g3,qA,a0e (by simp;omega),qA,a0e (by simp;omega),qA,a6a g2 g3 (by omega),qA,a0e (by simp;omega),qA]
  have e1:((l.drop (0:Int).toNat).take (k.toNat-(0:Int).toNat))=l.take k.toNat:=by simp
  have e2:((l.drop k.toNat).take ((l.length:Int).toNat-k.toNat))=l.drop k.toNat:=by rw [List.take_of_length_le];simp
  rw [e1,e2]
  refine Tot.some ⟨fun x=> ?_,?_⟩
  ·have:x∈l↔x∈l.take k.toNat \/ x∈l.drop k.toNat:=by rw [<- qK,List.take_append_drop]
   rw [this]
   simp only [List.nil_append,qK,qF]
   constructor
   ·rintro ((h | h) | h)
    ·exact .inr (.inl h)
    ·exact .inl h
    ·exact .inr (.inr h)
   ·rintro (h | h | h)
    ·exact .inl (.inr h)
    ·exact .inl (.inl h)
    ·exact .inr h
  ·simp;omega
 have fin2:Tot (Option.bind (if decide (k<(l.length:Int))=true then Option.bind (c8 l k) fun v5=>some (v5==n) else some false) fun v6=>if v6=true then some l else Option.bind (a0j l 0 k) fun v5=>Option.bind (a4t 8 [] v5) fun v6=>Option.bind (a4t 8 v6 [n]) fun v7=>Option.bind (a0j l k (l.length:Int)) fun v8=>Option.bind (a4t 8 v7 v8) fun v9=>some v9) fun r=>(∀x,x∈r↔x=n \/ x∈l) /\ r.length <= l.length+1:=by
  by_cases hk:k<(l.length:Int)
  ·simp only [hk,decide_true,if_true]
   refine Tot.bind (Q:=fun b=>b=true -> n∈l) (Tot.bind (l7 g2 hk) fun x hx=>Tot.some fun e=>by rw [beq_iff_eq] at e;rw [<- e];exact hx) fun b hb=> ?_
   refine Tot.ite (fun h=>Tot.some ⟨fun x=>⟨fun h=> .inr h,?_⟩,by omega⟩) fun _=>fin
   rintro (e | h')
   ·rw [e];exact hb h
   ·exact h'
  ·simp only [hk,decide_false,qM,if_false,qA]
   exact fin
 by_cases hk:k>0
 ·simp only [hk,decide_true,if_true]
  rw [i7 (n:=k-1) (by omega) (by omega)]
  refine Tot.bind (Q:=fun _=>True) (Tot.bind (l7 (by omega) (by omega)) fun x _=>Tot.some trivial) fun b _=> ?_
  refine Tot.ite (fun _=> ?_) fun _=>fin2
  exact ih _ ⟨by omega,by omega⟩ (by omega)
 ·simp only [hk,decide_false,qM,if_false,qA]
  exact fin2
theorem d74 (q:List aQ) (d:Int) (h:d6k q):Tot (a6n q d) fun r=>(∀x∈r,0 <= x /\ x <= 5) /\ r.length <= 27:=by
 have hl:=h.2
 unfold a6n
 refine o8 (f:=a4q q d) q (fun s i=>(s,i)) (fun s i=>(∀x∈s,0 <= x /\ x <= 5) /\ s.length <= i) (fun o=>Tot o _) (by omega) ?_ ?_ [] ⟨by simp,by simp⟩
 ·rintro rec s i y hi hy ⟨g1,g2⟩
  right
  have hv:=b0u (h.1 y (qE hy))
  unfold a4q
  dsimp only
  rw [if_pos (a1j hi)]
  simp only [l6 hy,qA,c2r,m6]
  rw [l9 (by omega)]
  split
  ·obtain ⟨r,e,h1,h2⟩:=e1o s y.Seat (by omega)
   rw [e,qA]
   refine ⟨r,rfl,fun x hx=> ?_,by omega⟩
   rcases (h1 x).1 hx with e | h
   ·rw [e];exact hv.2.2.1
   ·exact g1 x h
  ·exact ⟨s,rfl,g1,by omega⟩
 ·rintro rec s ⟨g1,g2⟩
  unfold a4q
  dsimp only
  rw [if_neg (a0i _)]
  exact Tot.some ⟨g1,by omega⟩
theorem b8w {α σ ρ:Type} {f:(σ -> Option ρ) -> σ -> Option ρ} (l:List α) (p:α -> Bool) (e:Int -> Int -> σ) (out:Int -> Option ρ) (hl:l.length <= 2^30)
  (h0: ∀(rec:σ -> Option ρ) (s:Int) (i:Nat) (y:α),l[i]? =some y -> p y=false -> (s= -1 \/ ∃(j:Nat) (z:α),s=(j:Int) /\ l[j]? =some z /\ p z=true) -> f rec (e s (i:Int))=rec (e s (i64 ((i:Int)+1))))
  (h1: ∀(rec:σ -> Option ρ) (s:Int) (i:Nat) (y:α),l[i]? =some y -> p y=true -> (s= -1 \/ ∃(j:Nat) (z:α),s=(j:Int) /\ l[j]? =some z /\ p z=true) -> f rec (e s (i:Int))=rec (e (i:Int) (i64 ((i:Int)+1))) \/ (0 <= s /\ f rec (e s (i:Int))=rec (e s (i64 ((i:Int)+1)))))
  (hfin: ∀(rec:σ -> Option ρ) (s:Int),f rec (e s (l.length:Int))=out s):
  ∃s,d5 FU f (e (-1) 0)=out s /\ (s= -1 \/ ∃(j:Nat) (z:α),s=(j:Int) /\ l[j]? =some z /\ p z=true) /\ (0 <= s↔ ∃y∈l,p y=true):=by
 refine o8 (f:=f) l e (fun s i=>(s= -1 \/ ∃(j:Nat) (z:α),s=(j:Int) /\ l[j]? =some z /\ p z=true) /\ (0 <= s↔ ∃y∈l.take i,p y=true)) (fun o=> ∃s,o=out s /\ (s= -1 \/ ∃(j:Nat) (z:α),s=(j:Int) /\ l[j]? =some z /\ p z=true) /\ (0 <= s↔ ∃y∈l,p y=true)) (by omega) ?_ ?_ (-1) ⟨.inl rfl,by simp⟩
 ·rintro rec s i y hi hy ⟨a,b⟩
  right
  cases hp:p y with
  | false=>
    rw [h0 rec s i y hy hp a,l9 (by omega)]
    refine ⟨s,rfl,a,?_⟩
    rw [b,a0c hy]
    constructor
    ·rintro ⟨u,h,h'⟩;exact ⟨u,by simp [h],h'⟩
    ·rintro ⟨u,h,h'⟩
     rcases qK.1 h with h | h
     ·exact ⟨u,h,h'⟩
     ·rw [qF] at h;subst h;rw [hp] at h';cases h'
  | true=>
    have hex: ∃u∈l.take (i+1),p u=true:=⟨y,by rw [a0c hy];simp,hp⟩
    rcases h1 rec s i y hy hp a with h | ⟨h,h'⟩
    ·rw [h,l9 (by omega)]
     exact ⟨(i:Int),rfl,.inr ⟨i,y,rfl,hy,hp⟩,⟨fun _=>hex,fun _=>by omega⟩⟩
    ·rw [h',l9 (by omega)]
     exact ⟨s,rfl,a,⟨fun _=>hex,fun _=>h⟩⟩
 ·rintro rec s ⟨a,b⟩
  rw [List.take_length] at b
  exact ⟨s,hfin rec s,a,b⟩
end Go.PL
namespace Go.PL
open Go Go.SX
theorem d44 (f:List aQ) (d:Int) (hf:f.length <= 27) (hlife:a7i (q0 f) d=true):Tot (a1q f d) (Ans (∃u∈f.filter cur,u.Kind=5 /\ a7i u.Span d=true)):=by
 have hcl:=List.length_filter_le cur f
 unfold a1q
 rw [b4i f (by omega),qA]
 generalize hq:f.filter cur=q at hcl
 obtain ⟨s,g1,g2,g3⟩:=b8w (f:=a0r f d) q (fun u=>(u.Kind==5)&&a7i u.Span d) (fun s i=>(q,s,i)) (fun s=>if decide (s<0)=true then some (0,false) else Option.bind (c8 q s) fun v28=>Option.bind (c8 q s) fun v29=>some (v29.State,true)) (by omega)
  (fun rec s i y hy hp a=>by
   have hi:=(qD.1 hy).1
   unfold a0r
   dsimp only
   simp only [a1j hi,if_true,c13 f (show f.length <= 2^30 by omega),c2r,hlife,qA,l6 hy,a04]
   rw [if_pos]
   cases hk:(y.Kind==5) with
   | false=>simp [bne,hk]
   | true=>rw [hk] at hp;simp at hp;simp [bne,hk,hp])
  (fun rec s i y hy hp a=>by
   have hi:=(qD.1 hy).1
   unfold a0r
   dsimp only
   simp only [a1j hi,if_true,c13 f (show f.length <= 2^30 by omega),c2r,hlife,qA,l6 hy,a04]
   simp only [qB] at hp
   rw [if_neg (by simp [bne,hp.1,hp.2])]
   rcases a with rfl | ⟨j,z,rfl,hz,_⟩
   ·left
    rw [if_pos (by simp),qA,if_pos rfl,qA,if_pos rfl]
   ·rw [if_neg (by simp)]
    simp only [l6 hz,qA,a04,m6]
    split
    ·exact .inl rfl
    ·exact .inr ⟨by omega,rfl⟩)
  (fun rec s=>by
   unfold a0r
   dsimp only
   rw [if_neg (a0i _),qA]
   simp only [qM,if_false])
 rw [g1]
 have hex:(∃y∈q,((y.Kind==5)&&a7i y.Span d)=true)↔ ∃u∈q,u.Kind=5 /\ a7i u.Span d=true:=by simp only [qB,beq_iff_eq]
 rw [hex] at g3
 rcases g2 with rfl | ⟨j,z,rfl,hz,_⟩
 ·rw [if_pos (by decide)]
  exact Tot.some ⟨⟨fun h=>(by simp at h),fun h=>absurd (g3.2 h) (by decide)⟩,by simp⟩
 ·rw [if_neg (by simp),l6 hz,qA,qA]
  refine Tot.some ⟨⟨fun _=>g3.1 (by omega),fun _=>rfl⟩,fun _=> ?_⟩
  have hzq:=qE hz
  rw [<- hq] at hzq
  exact (b0u (c5c hzq)).2.1
theorem e4n (f:List aQ) (d:Int) (hf:f.length <= 27) (hlife:a7i (q0 f) d=true) (ru:Rules):Tot (a2c f (f.filter cur) ru d) (Ans (∃u∈f.filter cur,(u.Kind=1 \/ u.Kind=2) /\ a7i u.Span d=true)):=by
 have hcl:=List.length_filter_le cur f
 have hv:d6k (f.filter cur):=⟨fun u hu=>c5c hu,by omega⟩
 have hR:=d44 f d hf hlife
 unfold a2c
 refine Tot.bind (d6d _ d hv) fun sh hsh=> ?_
 generalize f.filter cur=q at hv hsh hR
 have hql:=hv.2
 refine Tot.loop (I:=fun v:Rules×(Ar 6 Int)×Int×Int×Int×Int=>v.2.1=sh /\ 0 <= v.2.2.2.2.2 /\ v.2.2.2.2.2 <= 6 /\ (0 <= v.2.2.1 /\ v.2.2.1 <= 2700*v.2.2.2.2.2) /\ (0 <= v.2.2.2.1 /\ v.2.2.2.1 <= v.2.2.2.2.2) /\ (v.2.2.2.2.1= -1 /\ v.2.2.2.1=0 \/ 0 <= v.2.2.2.2.1 /\ v.2.2.2.2.1 <= 5 /\ 0<v.2.2.2.1) /\ (0<v.2.2.2.1↔ ∃k x:Int,0 <= k /\ k<v.2.2.2.2.2 /\ c8 sh.l k=some x /\ 0<x)) (μ:=fun v=>(6-v.2.2.2.2.2).toNat)
  ⟨rfl,Int.le_refl _,by show (0:Int) <= 6;omega,⟨Int.le_refl _,by show (0:Int) <= 2700*0;omega⟩,⟨Int.le_refl _,Int.le_refl _⟩,.inl ⟨rfl,rfl⟩,⟨fun h=>absurd (show (0:Int)<0 from h) (by decide),fun ⟨k,x,h0,h1,_⟩=>(by have h1:k<0:=h1;omega)⟩⟩ (by show (6-0:Int).toNat<_;omega) ?_
 rintro r ⟨ru,sh',tt,cn,bs,i⟩ ⟨e1,g2,g3,g4,g5,g6,g7⟩ ih
 dsimp only at e1 g2 g3 g4 g5 g6 g7
 subst e1
 unfold a97
 dsimp only
 refine Tot.ite (fun hc=> ?_) fun hc=> ?_
 ·simp at hc
  obtain ⟨x,e,h1,h2,h3⟩:=hsh i g2 (by omega)
  simp only [e,qA]
  have hstep: ∀(k x':Int),0 <= k -> k<i+1 -> c8 sh'.l k=some x' -> 0<x' -> (∃k x:Int,0 <= k /\ k<i /\ c8 sh'.l k=some x /\ 0<x) \/ 0<x:=by
   intro k x' a b c d
   by_cases hk:k=i
   ·subst hk;rw [e] at c;obtain rfl:=qH c;exact .inr d
   ·exact .inl ⟨k,x',a,by omega,c,d⟩
  rw [i7 (n:=tt+x) (by omega) (by omega),a6l (x:=i) (by omega) (by omega),a6l (x:=cn) (by omega) (by omega)]
  refine Tot.ite (fun hx=> ?_) fun hx=> ?_
  ·simp at hx
   refine Tot.bind (Q:=fun b=>bs<0 -> b=true) ?_ fun b hbb=> ?_
   ·refine Tot.ite (fun _=>Tot.some fun _=>rfl) fun hb=> ?_
    simp at hb
    obtain ⟨x',e',_⟩:=hsh bs hb (by omega)
    simp only [e',qA]
    exact Tot.some fun h=>(by omega)
   ·have hpos:0<cn+1↔ ∃k x:Int,0 <= k /\ k<i+1 /\ c8 sh'.l k=some x /\ 0<x:=⟨fun _=>⟨i,x,g2,by omega,e,hx⟩,fun _=>by omega⟩
    have hm:(6-(i+1)).toNat<(6-i).toNat:=by omega
    refine Tot.ite (fun _=> ?_) fun hb=> ?_
    ·exact ih _ ⟨rfl,by show 0 <= i+1;omega,by show i+1 <= 6;omega,⟨by show 0 <= tt+x;omega,by show tt+x <= 2700*(i+1);omega⟩,⟨by show 0 <= cn+1;omega,by show cn+1 <= i+1;omega⟩,.inr ⟨g2,by show i <= 5;omega,by show 0<cn+1;omega⟩,hpos⟩ hm
    ·refine ih _ ⟨rfl,by show 0 <= i+1;omega,by show i+1 <= 6;omega,⟨by show 0 <= tt+x;omega,by show tt+x <= 2700*(i+1);omega⟩,⟨by show 0 <= cn+1;omega,by show cn+1 <= i+1;omega⟩,?_,hpos⟩ hm
     rcases g6 with ⟨a,b⟩ | ⟨a,b,c⟩
     ·exact absurd (hbb (by omega)) hb
     ·exact .inr ⟨a,b,by show 0<cn+1;omega⟩
  ·simp at hx
   refine ih _ ⟨rfl,by show 0 <= i+1;omega,by show i+1 <= 6;omega,⟨by show 0 <= tt+x;omega,by show tt+x <= 2700*(i+1);omega⟩,⟨g5.1,by show cn <= i+1;omega⟩,g6,?_⟩ (by show (6-(i+1)).toNat<(6-i).toNat;omega)
   show 0<cn↔ ∃k x:Int,0 <= k /\ k<i+1 /\ c8 sh'.l k=some x /\ 0<x
   rw [g7]
   constructor
   ·rintro ⟨k,x,a,b,c⟩;exact ⟨k,x,a,by omega,c⟩
   ·rintro ⟨k,x',a,b,c,d'⟩
    rcases hstep k x' a b c d' with h | h
    ·exact h
    ·omega
 ·simp at hc
  have hi6:i=6:=by omega
  subst hi6
  refine Tot.bind hR fun v13 hr=> ?_
  refine Tot.bind (d74 q d hv) fun v14 hs=> ?_
  obtain ⟨hs,hs27⟩:=hs
  have hall:0<cn↔ ∃u∈q,(u.Kind=1 \/ u.Kind=2) /\ a7i u.Span d=true:=by
   rw [g7]
   constructor
   ·rintro ⟨k,x,a,b,c,dd⟩
    obtain ⟨x',e,_,_,h3⟩:=hsh k a (by omega)
    rw [e] at c;obtain rfl:=qH c
    obtain ⟨y,hy,h1,h2,_⟩:=h3.1 dd
    exact ⟨y,hy,by simpa [k12] using h1,h2⟩
   ·rintro ⟨u,hu,h1,h2⟩
    have hst:=(b0u (hv.1 u hu)).2.1
    obtain ⟨x',e,_,_,h3⟩:=hsh u.State hst.1 hst.2
    exact ⟨u.State,x',hst.1,by omega,e,h3.2 ⟨u,hu,by simpa [k12] using h1,h2,rfl⟩⟩
  refine Tot.ite (fun h0=> ?_) fun h0=> ?_
  ·simp at h0
   refine Tot.some ⟨⟨fun h=>(by simp at h),fun h=> ?_⟩,by simp⟩
   exact absurd (hall.2 h) (by rw [h0];exact Int.lt_irrefl 0)
  ·simp at h0
   have hcn:0<cn:=by clear hall g7;omega
   have hbs:0 <= bs /\ bs <= 5:=by clear hall g7;omega
   have good: ∀x:Int,0 <= x /\ x <= 5 -> Ans (∃u∈q,(u.Kind=1 \/ u.Kind=2) /\ a7i u.Span d=true) (x,true):=fun x hx=>⟨⟨fun _=>hall.1 hcn,fun _=>rfl⟩,fun _=>hx⟩
   refine Tot.ite (fun _=>Tot.some (good _ hbs)) fun _=> ?_
   refine Tot.bind (Q:=fun b=>b=true -> v13.2=true) ?_ fun b hb=> ?_
   ·refine Tot.ite (fun h=> ?_) fun h=>Tot.some fun e=>by cases e
    obtain ⟨x,e,_⟩:=hsh v13.1 (hr.2 h).1 (hr.2 h).2
    simp only [e,qA]
    exact Tot.some fun _=>h
   refine Tot.bind (Q:=fun b=>b=true -> v13.2=true) ?_ fun b2 hb2=> ?_
   ·refine Tot.ite (fun h=> ?_) fun h=>Tot.some fun e=>by cases e
    have h:=hb h
    obtain ⟨x,e,_⟩:=hsh v13.1 (hr.2 h).1 (hr.2 h).2
    simp only [e,qA]
    exact Tot.some fun _=>h
   refine Tot.ite (fun h=>Tot.some (good _ (hr.2 (hb2 h)))) fun _=> ?_
   refine Tot.ite (fun h=> ?_) fun _=> ?_
   ·simp at h
    exact Tot.bind (l7 (by omega) (by omega)) fun x hx=>Tot.some (good x (hs x hx))
   have two: ∀(o:Int) (b:Bool),(o=0 \/ o=1) -> (b=true -> (v14.length:Int)=2) -> Tot (if b=true then Option.bind (c8 v14 o) fun v23=>some (v23==v13.1) else some false) fun r=>r=true -> (v14.length:Int)=2:=by
    intro o b ho hb
    refine Tot.ite (fun h=> ?_) fun h=>Tot.some fun e=>by cases e
    have:=hb h
    exact Tot.bind (l7 (by omega) (by omega)) fun x hx=>Tot.some fun _=>this
   have pre:Tot (if v13.2=true then some ((v14.length:Int)==2) else some false) fun b=>b=true -> (v14.length:Int)=2:=by
    refine Tot.ite (fun h=>Tot.some fun e=>by simpa using e) fun h=>Tot.some fun e=>by cases e
   refine Tot.bind pre fun b3 hb3=>Tot.bind (two 0 b3 (.inl rfl) hb3) fun b4 hb4=> ?_
   refine Tot.ite (fun h=> ?_) fun _=> ?_
   ·have:=hb4 h
    exact Tot.bind (l7 (by omega) (by omega)) fun x hx=>Tot.some (good x (hs x hx))
   refine Tot.bind pre fun b5 hb5=>Tot.bind (two 1 b5 (.inr rfl) hb5) fun b6 hb6=> ?_
   refine Tot.ite (fun h=> ?_) fun _=> ?_
   ·have:=hb6 h
    exact Tot.bind (l7 (by omega) (by omega)) fun x hx=>Tot.some (good x (hs x hx))
   exact Tot.ite (fun h=>Tot.some (good _ (hr.2 h))) fun _=>Tot.some (good _ hbs)
end Go.PL
namespace Go.PL
open Go Go.SX
theorem e61 {f:List aQ} {T:List Rules} (hf:f.length <= 27) (hT:TrF T) {d:Int} (h0:0 <= d) (h1:d <= 73048) (hlife:a7i (q0 f) d=true) (P:List Posting) (hP: ∀p,p∈P↔PM f p) (hPl:P.length <= 1000):
  Tot (a8v f (f.filter cur) P (a5h T d) d) fun r=>(r.2≠0↔Ex f T d) /\ (r.2≠0 -> 0 <= r.1 /\ r.1 <= 5) /\ r.2 <= 5:=by
 obtain ⟨t1,t2,t3,t4,t5⟩:=c7e hT d
 have hcl:=List.length_filter_le cur f
 have hv:d6k (f.filter cur):=⟨fun u hu=>c5c hu,by omega⟩
 have hR:=d44 f d hf hlife
 have hA:=e4n f d hf hlife (a5h T d)
 generalize hru:a5h T d=ru at hA t1 t2 t3 t4 t5
 have hEx:Ex f T d↔((∃p,PM f p /\ a7i p.Span d=true /\ d<p.Span.From+ru.PostingLimit) \/ ∃u∈f.filter cur,b3a u.Kind /\ a7i u.Span d=true):=by
  unfold Ex;rw [hru]
  exact ⟨fun h=>h.2,fun h=>⟨hlife,h⟩⟩
 rw [hEx]
 unfold a8v
 obtain ⟨s,g1,g2,g3⟩:=b8w (f:=a3l P d (f.filter cur) f) P (fun p=>a7i p.Span d&&decide (d<p.Span.From+ru.PostingLimit)) (fun s i=>(ru,s,i)) (fun s=>if decide (s >= 0)=true then Option.bind (c8 P s) fun v13=>some (v13.Seat,1) else d5 FU (a1v (f.filter cur) d f) (ru,s,0)) (by omega)
  (fun rec s i y hy hp a=>by
   have hi:=(qD.1 hy).1
   obtain ⟨r1,r2,r3,r4⟩:=c5q (by omega) ((hP y).1 (qE hy))
   unfold a3l
   dsimp only
   rw [if_pos (a1j hi)]
   simp only [l6 hy,qA,c2r,a04]
   rw [i7 (n:=d-y.Span.From) (by omega) (by omega),if_pos]
   cases hc:a7i y.Span d with
   | false=>rfl
   | true=>rw [hc] at hp;simp at hp;simp;omega)
  (fun rec s i y hy hp a=>by
   have hi:=(qD.1 hy).1
   obtain ⟨r1,r2,r3,r4⟩:=c5q (by omega) ((hP y).1 (qE hy))
   unfold a3l
   dsimp only
   rw [if_pos (a1j hi)]
   simp only [l6 hy,qA,c2r,a04]
   simp only [qB,decide_eq_true_eq] at hp
   rw [i7 (n:=d-y.Span.From) (by omega) (by omega),if_neg (by simp [hp.1];omega)]
   rcases a with rfl | ⟨j,z,rfl,hz,_⟩
   ·left
    rw [if_pos (by simp),qA,if_pos rfl]
   ·rw [if_neg (by simp)]
    simp only [l6 hz,qA,m6]
    split
    ·exact .inl rfl
    ·exact .inr ⟨by omega,rfl⟩)
  (fun rec s=>by
   unfold a3l
   dsimp only
   rw [if_neg (a0i _)])
 rw [g1]
 have hex:(∃y∈P,(a7i y.Span d&&decide (d<y.Span.From+ru.PostingLimit))=true)↔ ∃p,PM f p /\ a7i p.Span d=true /\ d<p.Span.From+ru.PostingLimit:=by
  simp only [qB,decide_eq_true_eq,hP]
 rw [hex] at g3
 rcases g2 with rfl | ⟨j,z,rfl,hz,_⟩
 case inr=>
  rw [if_pos (by simp),l6 hz,qA]
  have hz2:=c5q (by omega) ((hP z).1 (qE hz))
  exact Tot.some ⟨⟨fun _=> .inl (g3.1 (by omega)),fun _=>by simp⟩,fun _=>hz2.2.2.2.1,by simp⟩
 have n1: ¬ ∃p,PM f p /\ a7i p.Span d=true /\ d<p.Span.From+ru.PostingLimit:=fun h=>absurd (g3.2 h) (by decide)
 rw [if_neg (by simp)]
 have hE2:((∃p,PM f p /\ a7i p.Span d=true /\ d<p.Span.From+ru.PostingLimit) \/ ∃u∈f.filter cur,b3a u.Kind /\ a7i u.Span d=true)↔ ∃u∈f.filter cur,b3a u.Kind /\ a7i u.Span d=true:=⟨fun h=>h.elim (fun h=>absurd h n1) id,.inr⟩
 rw [hE2]
 clear hE2 n1 g3 g1 hex hEx
 generalize f.filter cur=q at hv hR hA hcl
 have yes: ∀{r:Int×Int},(∃u∈q,b3a u.Kind /\ a7i u.Span d=true) -> r.2≠0 -> 0 <= r.1 /\ r.1 <= 5 -> r.2 <= 5 -> (r.2≠0↔ ∃u∈q,b3a u.Kind /\ a7i u.Span d=true) /\ (r.2≠0 -> 0 <= r.1 /\ r.1 <= 5) /\ r.2 <= 5:=fun a b c e=>⟨⟨fun _=>a,fun _=>b⟩,fun _=>c,e⟩
 obtain ⟨s,g1,g2,g3⟩:=b8w (f:=a1v q d f) q (fun u=>(u.Kind==3)&&a7i u.Span d) (fun s i=>(ru,s,i)) (fun s=>if decide (s >= 0)=true then Option.bind (c8 q s) fun v30=>some (v30.State,2) else Option.bind (a2c f q ru d) fun v31=>if v31.2=true then some (v31.1,3) else d5 FU (a3p q d f) (s,0)) (by omega)
  (fun rec s i y hy hp a=>by
   have hi:=(qD.1 hy).1
   unfold a1v
   dsimp only
   rw [if_pos (a1j hi)]
   simp only [l6 hy,qA,c2r,m6]
   rw [hp]
   simp only [qM,if_false,qA])
  (fun rec s i y hy hp a=>by
   have hi:=(qD.1 hy).1
   unfold a1v
   dsimp only
   rw [if_pos (a1j hi)]
   simp only [l6 hy,qA,c2r,m6]
   rw [hp]
   simp only [if_true]
   rcases a with rfl | ⟨j,z,rfl,hz,_⟩
   ·left
    have e:decide ((-1:Int)<0)=true:=rfl
    simp only [e,if_true,qA]
   ·have e:decide ((j:Int)<0)=false:=by simp
    simp only [e,qM,if_false,l6 hz,qA,m6,a04]
    split
    ·exact .inl rfl
    ·exact .inr ⟨by omega,rfl⟩)
  (fun rec s=>by
   unfold a1v
   dsimp only
   rw [if_neg (a0i _)])
 rw [g1]
 simp only [qB,beq_iff_eq] at g3
 rcases g2 with rfl | ⟨j,z,rfl,hz,_⟩
 case inr=>
  rw [if_pos (by simp),l6 hz,qA]
  obtain ⟨u,hu,hk,hc⟩:=g3.1 (by omega)
  exact Tot.some (yes ⟨u,hu,.inl hk,hc⟩ (by simp) (b0u (hv.1 z (qE hz))).2.1 (by simp))
 have n2: ¬ ∃u∈q,u.Kind=3 /\ a7i u.Span d=true:=fun h=>absurd (g3.2 h) (by decide)
 rw [if_neg (by simp)]
 refine Tot.bind hA fun v31 ha=> ?_
 refine Tot.ite (fun h=> ?_) fun n3=> ?_
 ·obtain ⟨u,hu,hk,hc⟩:=ha.1.1 h
  exact Tot.some (yes ⟨u,hu,by rcases hk with e | e<;>simp [b3a,e],hc⟩ (by simp) (ha.2 h) (by simp))
 have n3': ¬ ∃u∈q,(u.Kind=1 \/ u.Kind=2) /\ a7i u.Span d=true:=fun h=>n3 (ha.1.2 h)
 let p7:aQ -> Bool:=fun u=>((u.Kind==7)||(u.Kind==8))&&a7i u.Span d
 refine o8 (f:=a3p q d f) q (fun (s:Int) i=>(s,i)) (fun s i=>(0 <= s↔ ∃y∈q.take i,p7 y=true) /\ s <= 5) (fun o=>Tot o _) (by omega) ?_ ?_ (-1) ⟨by simp,by decide⟩
 ·rintro rec s i y hi hy ⟨k1,k2⟩
  right
  have hst:=(b0u (hv.1 y (qE hy))).2.1
  unfold a3p
  dsimp only
  rw [if_pos (a1j hi)]
  simp only [l6 hy,qA,c2r,m6,a04]
  rw [l9 (by omega)]
  have hp7:(((y.Kind==7)||(y.Kind==8))&&a7i y.Span d)=p7 y:=rfl
  rw [hp7]
  cases hp:p7 y with
  | false=>
    simp only [Bool.false_and,qM,if_false]
    refine ⟨s,rfl,?_,k2⟩
    rw [k1,a0c hy]
    constructor
    ·rintro ⟨u,h,h'⟩;exact ⟨u,by simp [h],h'⟩
    ·rintro ⟨u,h,h'⟩
     rcases qK.1 h with h | h
     ·exact ⟨u,h,h'⟩
     ·rw [qF] at h;subst h;rw [hp] at h';cases h'
  | true=>
    have hex: ∃u∈q.take (i+1),p7 u=true:=⟨y,by rw [a0c hy];simp,hp⟩
    split
    ·exact ⟨y.State,rfl,⟨fun _=>hex,fun _=>hst.1⟩,hst.2⟩
    ·rename_i hn
     refine ⟨s,rfl,⟨fun _=>hex,fun _=> ?_⟩,k2⟩
     simp at hn
     exact hn.1
 ·rintro rec s ⟨k1,k2⟩
  rw [List.take_length] at k1
  unfold a3p
  dsimp only
  rw [if_neg (a0i _)]
  have hk1:(∃y∈q,p7 y=true)↔ ∃u∈q,(u.Kind=7 \/ u.Kind=8) /\ a7i u.Span d=true:=by
   simp only [p7,qB,Bool.or_eq_true,beq_iff_eq]
  rw [hk1] at k1
  refine Tot.ite (fun h=> ?_) fun n4=> ?_
  ·simp at h
   obtain ⟨u,hu,hk,hc⟩:=k1.1 h
   exact Tot.some (yes ⟨u,hu,by rcases hk with e | e<;>simp [b3a,e],hc⟩ (by simp) ⟨h,k2⟩ (by simp))
  ·refine Tot.bind hR fun v44 hr=> ?_
   refine Tot.ite (fun h=> ?_) fun n5=> ?_
   ·obtain ⟨u,hu,hk,hc⟩:=hr.1.1 h
    exact Tot.some (yes ⟨u,hu,by simp [b3a,hk],hc⟩ (by simp) (hr.2 h) (by simp))
   ·refine Tot.some ⟨⟨fun h=>absurd rfl h,?_⟩,fun h=>absurd rfl h,by simp⟩
    rintro ⟨u,hu,hk,hc⟩
    exfalso
    rcases hk with e | e | e | e | e | e
    ·exact n2 ⟨u,hu,e,hc⟩
    ·exact n3' ⟨u,hu,.inl e,hc⟩
    ·exact n3' ⟨u,hu,.inr e,hc⟩
    ·exact n4 (by simpa using k1.2 ⟨u,hu,.inl e,hc⟩)
    ·exact n4 (by simpa using k1.2 ⟨u,hu,.inr e,hc⟩)
    ·exact n5 (hr.1.2 ⟨u,hu,e,hc⟩)
end Go.PL
namespace Go.PL
open Go Go.SX
structure GC (b:Prop) (c S:List Int):Prop where
 mem: ∀x,x∈c↔x∈S
 len:c.length <= S.length
 srt:b -> c.Pairwise (· < ·)
theorem c4m {b:Prop} {c S:List Int} (n:Int) (h:GC b c S) (hS:S.length <= 50000):Tot (o9 c n) fun r=>GC b r (S++[n]):=by
 obtain ⟨r,e,h1,h2⟩:=e1o c n (by have:=h.len;omega)
 refine ⟨r,e,fun x=> ?_,?_,fun hb=> ?_⟩
 ·rw [h1,h.mem,qK,qF];exact Or.comm
 ·have:=h.len;simp only [qL,List.length_cons,List.length_nil];omega
 ·obtain ⟨r',e',k1,_⟩:=c6v c n (by have:=h.len;omega) (h.srt hb)
  rw [e] at e';obtain rfl:=qH e';exact k1
def e7w (r:Rules) (p:Posting):Int:=min (p.Span.From+r.PostingLimit) 73049
def d67 (P:List Posting) (r:Rules):List Int:=r.From::P.map (e7w r)
def e2q (u:aQ):List Int:=[u.Span.From,u.Span.To]
def d7x (p:Posting):List Int:=[p.Span.From,p.Span.To]
section
variable {f:List aQ} {T:List Rules} {P:List Posting} {b:Prop} {Q:List Segment -> Prop} {cu:List aQ}
theorem b7x {α:Type} (g:α -> List Int) (n:Nat) (h: ∀a,(g a).length=n): ∀l:List α,(l.flatMap g).length=n*l.length
 | []=>by simp
 | a::l=>by
   have:=b7x g n h l
   simp only [List.flatMap_cons,qL,List.length_cons,h,this,Nat.mul_add,Nat.mul_one];omega
theorem e9p {α:Type} {g:α -> List Int} {l:List α} {i:Nat} {y:α} (h:l[i]? =some y):(l.take (i+1)).flatMap g=(l.take i).flatMap g++g y:=by
 rw [a0c h,List.flatMap_append];simp
theorem f1x (hP: ∀p∈P,0 <= p.Span.From /\ p.Span.To <= 73049) (hPl:P.length <= 1000) (life:Span) (S:List Int) (hS:S.length <= 10000) (c:List Int) (hc:GC b c S)
  (fin: ∀c i,GC b c (S++P.flatMap d7x) -> Tot (d5 FU (a01 (cu,P,life,c,i) T f) (cu,P,life,[],0)) Q):
  Tot (d5 FU (a3o T f) (cu,P,life,c,0)) Q:=by
 refine o8 (f:=a3o T f) P (fun s i=>(cu,P,life,s,i)) (fun s i=>GC b s (S++(P.take i).flatMap d7x)) (fun o=>Tot o Q) (by omega) ?_ ?_ c (by simpa using hc)
 ·rintro rec s i y hi hy hI
  right
  have hl:=b7x d7x 2 (fun _=>rfl) (P.take i)
  rw [List.length_take] at hl
  unfold a3o
  dsimp only
  rw [if_pos (a1j hi)]
  simp only [l6 hy,qA]
  obtain ⟨c1,e1,k1⟩:=c4m y.Span.From hI (by rw [qL];omega)
  rw [e1,qA]
  obtain ⟨c2,e2,k2⟩:=c4m y.Span.To k1 (by simp only [qL,List.length_cons,List.length_nil];omega)
  rw [e2,qA,l9 (by omega)]
  refine ⟨c2,rfl,?_⟩
  rw [e9p hy]
  simpa [d7x] using k2
 ·rintro rec s hI
  rw [List.take_length] at hI
  unfold a3o
  dsimp only
  rw [if_neg (a0i _)]
  exact fin s _ hI
theorem f6t (hP: ∀p∈P,0 <= p.Span.From /\ p.Span.To <= 73049 /\ p.Span.From<p.Span.To) (hPl:P.length <= 1000) (life:Span) (S:List Int) (hS:S.length <= 10000) (c:List Int) (i0:Nat) (r:Rules) (hr:T[i0]? =some r) (hr2:0 <= r.PostingLimit /\ r.PostingLimit <= 730) (cc:List Int)
  (r14:((List aQ)×(List Posting)×Span×(List Int)×Int) -> Option (List Segment)) (hc:GC b c S):
  ∃c',d5 FU (a3i T (cu,P,life,cc,(i0:Int)) r14) (cu,P,life,c,0)=r14 (cu,P,life,c',i64 ((i0:Int)+1)) /\ GC b c' (S++P.map (e7w r)):=by
 refine o8 (f:=a3i T (cu,P,life,cc,(i0:Int)) r14) P (fun s i=>(cu,P,life,s,i)) (fun s i=>GC b s (S++(P.take i).map (e7w r))) (fun o=> ∃c',o=r14 (cu,P,life,c',i64 ((i0:Int)+1)) /\ GC b c' (S++P.map (e7w r))) (by omega) ?_ ?_ c (by simpa using hc)
 ·rintro rec s i y hi hy hI
  right
  have hy2:=hP y (qE hy)
  unfold a3i
  dsimp only
  rw [if_pos (a1j hi)]
  simp only [l6 hy,l6 hr,qA]
  rw [i7 (n:=y.Span.From+r.PostingLimit) (by omega) (by omega)]
  obtain ⟨c1,e1,k1⟩:=c4m (min (y.Span.From+r.PostingLimit) 73049) hI (by rw [qL,List.length_map,List.length_take];omega)
  rw [e1,qA,l9 (by omega)]
  refine ⟨c1,rfl,?_⟩
  rw [a0c hy,List.map_append]
  simpa [e7w] using k1
 ·rintro rec s hI
  rw [List.take_length] at hI
  unfold a3i
  dsimp only
  rw [if_neg (a0i _)]
  exact ⟨s,rfl,hI⟩
theorem f4h (hP: ∀p∈P,0 <= p.Span.From /\ p.Span.To <= 73049 /\ p.Span.From<p.Span.To) (hPl:P.length <= 1000) (hT:T.length <= 2) (hT2: ∀r∈T,0 <= r.PostingLimit /\ r.PostingLimit <= 730) (life:Span) (S:List Int) (hS:S.length <= 1000) (c:List Int) (hc:GC b c S)
  (fin: ∀c i,GC b c (S++T.flatMap (d67 P)++P.flatMap d7x) -> Tot (d5 FU (a01 (cu,P,life,c,i) T f) (cu,P,life,[],0)) Q):
  Tot (d5 FU (a3g T f) (cu,P,life,c,0)) Q:=by
 refine o8 (f:=a3g T f) T (fun s i=>(cu,P,life,s,i)) (fun s i=>GC b s (S++(T.take i).flatMap (d67 P))) (fun o=>Tot o Q) (by omega) ?_ ?_ c (by simpa using hc)
 ·rintro rec s i y hi hy hI
  right
  have hl:=b7x (d67 P) (P.length+1) (fun _=>by simp [d67]) (T.take i)
  have h2:(P.length+1)*(T.take i).length <= 1001*2:=Nat.mul_le_mul (by omega) (by rw [List.length_take];omega)
  unfold a3g
  dsimp only
  rw [if_pos (a1j hi)]
  simp only [l6 hy,qA]
  obtain ⟨c1,e1,k1⟩:=c4m y.From hI (by rw [qL];omega)
  rw [e1,qA]
  obtain ⟨c2,e2,k2⟩:=f6t (cu:=cu) (b:=b) hP hPl life _ (by simp only [qL,List.length_cons,List.length_nil];omega) c1 i y hy (hT2 y (qE hy)) s rec k1
  rw [e2,l9 (by omega)]
  refine ⟨c2,rfl,?_⟩
  rw [e9p hy]
  simpa [d67] using k2
 ·rintro rec s hI
  rw [List.take_length] at hI
  unfold a3g
  dsimp only
  rw [if_neg (a0i _)]
  have hl:=b7x (d67 P) (P.length+1) (fun _=>by simp [d67]) T
  have h2:(P.length+1)*T.length <= 1001*2:=Nat.mul_le_mul (by omega) hT
  exact f1x (fun p hp=>⟨(hP p hp).1,(hP p hp).2.1⟩) hPl life _ (by rw [qL];omega) s hI fin
theorem f2n (hP: ∀p∈P,0 <= p.Span.From /\ p.Span.To <= 73049 /\ p.Span.From<p.Span.To) (hPl:P.length <= 1000) (hT:T.length <= 2) (hT2: ∀r∈T,0 <= r.PostingLimit /\ r.PostingLimit <= 730) (life:Span) (hcu:cu.length <= 27) (S:List Int) (hS:S.length <= 100) (c:List Int) (hc:GC b c S)
  (fin: ∀c i,GC b c (S++cu.flatMap e2q++T.flatMap (d67 P)++P.flatMap d7x) -> Tot (d5 FU (a01 (cu,P,life,c,i) T f) (cu,P,life,[],0)) Q):
  Tot (d5 FU (a3n T f) (cu,P,life,c,0)) Q:=by
 refine o8 (f:=a3n T f) cu (fun s i=>(cu,P,life,s,i)) (fun s i=>GC b s (S++(cu.take i).flatMap e2q)) (fun o=>Tot o Q) (by omega) ?_ ?_ c (by simpa using hc)
 ·rintro rec s i y hi hy hI
  right
  have hl:=b7x e2q 2 (fun _=>rfl) (cu.take i)
  rw [List.length_take] at hl
  unfold a3n
  dsimp only
  rw [if_pos (a1j hi)]
  simp only [l6 hy,qA]
  obtain ⟨c1,e1,k1⟩:=c4m y.Span.From hI (by rw [qL];omega)
  rw [e1,qA]
  obtain ⟨c2,e2,k2⟩:=c4m y.Span.To k1 (by simp only [qL,List.length_cons,List.length_nil];omega)
  rw [e2,qA,l9 (by omega)]
  refine ⟨c2,rfl,?_⟩
  rw [e9p hy]
  simpa [e2q] using k2
 ·rintro rec s hI
  rw [List.take_length] at hI
  unfold a3n
  dsimp only
  rw [if_neg (a0i _)]
  have hl:=b7x e2q 2 (fun _=>rfl) cu
  exact f4h hP hPl hT hT2 life _ (by rw [qL];omega) s hI fin
end
end Go.PL
namespace Go.PL
open Go Go.SX
theorem c6g {c:List Int} (h:c.Pairwise (· < ·)) {i:Nat} {a b x:Int} (ha:c[i]? =some a) (hb:c[i+1]? =some b) (hx:x∈c):x <= a \/ b <= x:=by
 obtain ⟨k,hk,rfl⟩:=List.getElem_of_mem hx
 obtain ⟨hi,rfl⟩:=qD.1 ha
 obtain ⟨hi2,rfl⟩:=qD.1 hb
 rw [List.pairwise_iff_getElem] at h
 rcases Nat.lt_trichotomy k i with g | g | g
 ·have:=h k i hk hi g;omega
 ·subst g;omega
 ·rcases Nat.lt_or_ge (i+1) k with g2 | g2
  ·have:=h (i+1) k hi2 hk g2;omega
  ·have:k=i+1:=by omega
   subst this;omega
theorem c85: ∀{c:List Int} {x hi:Int} {lo:Int},c.Pairwise (· < ·) -> lo∈c -> hi∈c -> lo <= x -> x<hi -> ∃(j:Nat) (a b:Int),c[j]? =some a /\ c[j+1]? =some b /\ a <= x /\ x<b
 | [],_,_,_,_,h,_,_,_=>by cases h
 | [y],x,hi,lo,_,h1,h2,h3,h4=>by
   rw [qF] at h1 h2
   omega
 | y::z::c,x,hi,lo,hs,h1,h2,h3,h4=>by
   obtain ⟨k1,k2⟩:=List.pairwise_cons.1 hs
   by_cases hz:y <= x /\ x<z
   ·exact ⟨0,y,z,rfl,rfl,hz.1,hz.2⟩
   ·have hy:y <= x:=by
     rcases qO.1 h1 with e | e
     ·omega
     ·have:=k1 lo e;omega
    have hh:hi∈z::c:=by
     rcases qO.1 h2 with e | e
     ·omega
     ·exact e
    obtain ⟨j,a,b,e1,e2,e3⟩:=c85 (x:=x) k2 (qI ..) hh (by omega) h4
    exact ⟨j+1,a,b,by simpa using e1,by simpa using e2,e3⟩
structure CO (f:List aQ) (T:List Rules) (P:List Posting) (c:List Int):Prop where
 rng: ∀x∈c,0 <= x /\ x <= 73049
 srt:(q0 f).From<(q0 f).To -> c.Pairwise (· < ·)
 len:c.length <= 10000
 life:(q0 f).From∈c /\ (q0 f).To∈c
 fact: ∀u∈f.filter cur,u.Span.From∈c /\ u.Span.To∈c
 rule: ∀r∈T,r.From∈c
 lim: ∀r∈T,∀p∈P,e7w r p∈c
 pst: ∀p∈P,p.Span.From∈c /\ p.Span.To∈c
section
variable {f:List aQ} {T:List Rules} {P:List Posting} {c:List Int}
theorem c0s (hs:c.Pairwise (· < ·)) {i:Nat} {a b d:Int} (ha:c[i]? =some a) (hb:c[i+1]? =some b) (h1:a <= d) (h2:d<b) {s:Span} (hf:s.From∈c /\ s.To∈c):a7i s a=a7i s d:=by
 have g1:=c6g hs ha hb hf.1
 have g2:=c6g hs ha hb hf.2
 unfold a7i
 rw [Bool.eq_iff_iff]
 simp only [qB,decide_eq_true_eq]
 omega
theorem d8i (hT:TrF T) (hP: ∀p,p∈P↔PM f p) (hc:CO f T P c) (hs:c.Pairwise (· < ·)) {i:Nat} {a b d:Int} (ha:c[i]? =some a) (hb:c[i+1]? =some b) (h1:a <= d) (h2:d<b):Ex f T a↔Ex f T d:=by
 have hb9:=(hc.rng b (qE hb)).2
 have e1:a5h T a=a5h T d:=d8z hT h1 fun r hr hh=>by
  have:=c6g hs ha hb (hc.rule r hr)
  omega
 unfold Ex
 rw [c0s hs ha hb h1 h2 hc.life,e1]
 refine and_congr_right fun _=>or_congr ?_ ?_
 ·refine exists_congr fun p=>and_congr_right fun hp=> ?_
  have hp':=(hP p).2 hp
  rw [c0s hs ha hb h1 h2 (hc.pst p hp')]
  refine and_congr_right fun _=> ?_
  have:=c6g hs ha hb (hc.lim _ (c7e hT d).2.2.2.2 p hp')
  unfold e7w at this
  omega
 ·refine exists_congr fun u=>and_congr_right fun hu=>and_congr_right fun _=> ?_
  rw [c0s hs ha hb h1 h2 (hc.fact u hu)]
def sIn (s:List Segment) (x:Int):Prop:= ∃g∈s,g.Span.From <= x /\ x<g.Span.To
def f8g (c:List Int) (i:Nat) (x:Int):Prop:= ∃(j:Nat) (a b:Int),j<i /\ c[j]? =some a /\ c[j+1]? =some b /\ a <= x /\ x<b
theorem d0h {c:List Int} {i:Nat} {a b:Int} (ha:c[i]? =some a) (hb:c[i+1]? =some b) {x:Int}:f8g c (i+1) x↔f8g c i x \/ (a <= x /\ x<b):=by
 constructor
 ·rintro ⟨j,a',b',h1,h2,h3,h4⟩
  by_cases e:j=i
  ·subst e
   rw [ha] at h2;rw [hb] at h3
   obtain rfl:=qH h2
   obtain rfl:=qH h3
   exact .inr h4
  ·exact .inl ⟨j,a',b',by omega,h2,h3,h4⟩
 ·rintro (⟨j,a',b',h1,h⟩ | h)
  ·exact ⟨j,a',b',by omega,h⟩
  ·exact ⟨i,a,b,by omega,ha,hb,h⟩
structure SI (f:List aQ) (T:List Rules) (c:List Int) (s:List Segment) (i:Nat):Prop where
 days: ∀x,sIn s x↔f8g c i x /\ Ex f T x
 seg: ∀g∈s,(0 <= g.State /\ g.State <= 5) /\ g.Rule <= 5 /\ 0 <= g.Span.From /\ g.Span.From<g.Span.To /\ g.Span.To <= 73049
 len:s.length <= i
theorem e0d {s:List Segment} {i:Nat} {a b:Int} (h:SI f T c s i) (ha:c[i]? =some a) (hb:c[i+1]? =some b) (hn: ∀x,a <= x -> x<b -> ¬Ex f T x):SI f T c s (i+1):=by
 refine ⟨fun x=> ?_,h.seg,by have:=h.len;omega⟩
 rw [h.days,d0h ha hb]
 constructor
 ·rintro ⟨a,b⟩;exact ⟨.inl a,b⟩
 ·rintro ⟨a | a,b⟩
  ·exact ⟨a,b⟩
  ·exact absurd b (hn x a.1 a.2)
theorem e7v {s s':List Segment} {i:Nat} {a b:Int} (h:SI f T c s i) (ha:c[i]? =some a) (hb:c[i+1]? =some b) (hy: ∀x,a <= x -> x<b -> Ex f T x) (hs: ∀x,sIn s' x↔sIn s x \/ (a <= x /\ x<b))
  (hg: ∀g∈s',(0 <= g.State /\ g.State <= 5) /\ g.Rule <= 5 /\ 0 <= g.Span.From /\ g.Span.From<g.Span.To /\ g.Span.To <= 73049) (hl:s'.length <= s.length+1):SI f T c s' (i+1):=by
 refine ⟨fun x=> ?_,hg,by have:=h.len;omega⟩
 rw [hs,h.days,d0h ha hb]
 constructor
 ·rintro (⟨a,b⟩ | a)
  ·exact ⟨.inl a,b⟩
  ·exact ⟨.inr a,hy x a.1 a.2⟩
 ·rintro ⟨a | a,b⟩
  ·exact .inl ⟨a,b⟩
  ·exact .inr a
theorem d2e {T:List Rules} (hT:TrF T):Tot (y4 T 73049) fun r=>r.2=false:=by
 have hv:e7 73049=some false:=rfl
 unfold y4
 rw [a0b (by unfold FU;omega)]
 unfold a1c
 dsimp only
 rw [hv]
 have: ∀b:Bool,(if b=true then Option.bind (some false) fun v3=>some v3 else some false)=some false:=by intro b;cases b<;>rfl
 rw [this,qA]
 simp only [qM,if_false]
 exact Tot.some rfl
theorem f3w (hf:f.length <= 27) (hT:TrF T) (hP: ∀p,p∈P↔PM f p) (hPl:P.length <= 1000) (hc:CO f T P c) (i0:Int):
  Tot (d5 FU (a01 (f.filter cur,P,q0 f,c,i0) T f) (f.filter cur,P,q0 f,[],0)) fun s=>(∀x,sIn s x↔Ex f T x) /\ (∀g∈s,(0 <= g.State /\ g.State <= 5) /\ g.Rule <= 5 /\ 0 <= g.Span.From /\ g.Span.From<g.Span.To /\ g.Span.To <= 73049) /\ s.length <= 10000:=by
 have hlen:=hc.len
 have hlr:=d38 f
 have htl:c.tail.length=c.length-1:=List.length_tail
 refine o8 (f:=a01 (f.filter cur,P,q0 f,c,i0) T f) c.tail (fun s i=>(f.filter cur,P,q0 f,s,i)) (fun s i=>SI f T c s i) (fun o=>Tot o _) (by omega) ?_ ?_ [] ⟨fun x=> ?_,by simp,by simp⟩
 ·rintro rec s i b hi hy hI
  right
  have hb:c[i+1]? =some b:=by rw [List.getElem?_tail] at hy;exact hy
  have hi1:i+1<c.length:=by omega
  obtain ⟨a,ha⟩: ∃a,c[i]? =some a:=⟨_,qG (by omega)⟩
  have hb':c8 c (i64 ((i:Int)+1))=some b:=by rw [l9 (by omega)];exact l6 hb
  have ra:=hc.rng a (qE ha)
  have rb:=hc.rng b (qE hb)
  have hsl:=hI.len
  unfold a01
  dsimp only
  rw [if_pos (by rw [l9 (by omega)];exact a1j hi1)]
  simp only [l6 ha,qA]
  by_cases hin:a7i (q0 f) a=true
  ·have hin':=hin
   unfold a7i at hin'
   simp at hin'
   have hs:=hc.srt (by omega)
   have hab:a<b:=by
    obtain ⟨h1,rfl⟩:=qD.1 ha
    obtain ⟨h2,rfl⟩:=qD.1 hb
    exact (List.pairwise_iff_getElem.1 hs) i (i+1) h1 h2 (by omega)
   rw [e6u hT ra.1 (by omega),qA]
   simp only [Bool.not_true,qM,if_false,c2r,hin,qA]
   obtain ⟨r,e,h1,h2,h3⟩:=e61 hf hT ra.1 (by omega) hin P hP hPl
   rw [e,qA]
   by_cases hr:r.2=0
   ·rw [if_pos (by simp [hr]),l9 (by omega)]
    refine ⟨s,rfl,e0d hI ha hb fun x hx1 hx2 hE=> ?_⟩
    exact (h1.2 ((d8i hT hP hc hs ha hb hx1 hx2).2 hE)) hr
   ·rw [if_neg (by simpa using hr)]
    have hE: ∀x,a <= x -> x<b -> Ex f T x:=fun x hx1 hx2=>(d8i hT hP hc hs ha hb hx1 hx2).1 (h1.1 hr)
    have hst:=h2 hr
    have app: ∃s',(Option.bind (c8 c (i64 ((i:Int)+1))) fun v56=>Option.bind (a4t 32 s [(⟨(⟨a,v56⟩:Span),r.1,r.2⟩:Segment)]) fun v57=>rec (f.filter cur,P,q0 f,v57,i64 ((i:Int)+1)))=rec (f.filter cur,P,q0 f,s',((i+1:Nat):Int)) /\ SI f T c s' (i+1):=by
     rw [hb',qA,a0e (by simp only [List.length_cons,List.length_nil];omega),qA,l9 (by omega)]
     refine ⟨_,rfl,e7v hI ha hb hE (fun x=> ?_) (fun g hg=> ?_) (by simp)⟩
     ·unfold sIn
      constructor
      ·rintro ⟨g,hg,h⟩
       rcases qK.1 hg with hg | hg
       ·exact .inl ⟨g,hg,h⟩
       ·rw [qF] at hg;subst hg;exact .inr h
      ·rintro (⟨g,hg,h⟩ | h)
       ·exact ⟨g,by simp [hg],h⟩
       ·exact ⟨⟨⟨a,b⟩,r.1,r.2⟩,by simp,h⟩
     ·rcases qK.1 hg with hg | hg
      ·exact hI.seg g hg
      ·rw [qF] at hg;subst hg
       exact ⟨hst,h3,ra.1,hab,rb.2⟩
    rcases f4y s with e0 | ⟨A,t,e0⟩
    ·subst e0
     have e0:decide ((([]:List Segment).length:Int)>0)=false:=rfl
     simp only [e0,qM,if_false,qA]
     exact app
    ·subst e0
     have e0:decide (((A++[t]).length:Int)>0)=true:=by simp
     have gl:c8 (A++[t]) (i64 (((A++[t]).length:Int)-1))=some t:=c3i A t (by simp at hsl;omega)
     simp only [e0,if_true,gl,qA,m6]
     by_cases hm:(t.Span.To==a&&t.State==r.1&&t.Rule==r.2)=true
     ·rw [if_pos hm,hb',qA,c11 A t _ (by simp at hsl;omega),l9 (by omega)]
      simp only [qB,beq_iff_eq] at hm
      obtain ⟨⟨m1,m2⟩,m3⟩:=hm
      have ht:=hI.seg t (by simp)
      refine ⟨_,rfl,e7v hI ha hb hE (fun x=> ?_) (fun g hg=> ?_) (by simp)⟩
      ·unfold sIn
       constructor
       ·rintro ⟨g,hg,h⟩
        rcases qK.1 hg with hg | hg
        ·exact .inl ⟨g,by simp [hg],h⟩
        ·rw [qF] at hg;subst hg
         dsimp only at h
         by_cases hx:x<t.Span.To
         ·exact .inl ⟨t,by simp,h.1,hx⟩
         ·exact .inr (by omega)
       ·rintro (⟨g,hg,h⟩ | h)
        ·rcases qK.1 hg with hg | hg
         ·exact ⟨g,by simp [hg],h⟩
         ·rw [qF] at hg;subst hg
          exact ⟨_,List.mem_append_right _ (qF.2 rfl),h.1,by dsimp only;omega⟩
        ·exact ⟨_,List.mem_append_right _ (qF.2 rfl),by dsimp only;omega,h.2⟩
      ·rcases qK.1 hg with hg | hg
       ·exact hI.seg g (by simp [hg])
       ·rw [qF] at hg;subst hg
        exact ⟨ht.1,ht.2.1,ht.2.2.1,by dsimp only;omega,rb.2⟩
     ·rw [if_neg hm]
      exact app
  ·have hskip:SI f T c s (i+1):=by
    refine e0d hI ha hb fun x hx1 hx2 hE=> ?_
    have hl:=hE.1
    have hl':=hl
    unfold a7i at hl'
    simp at hl'
    rw [<- c0s (hc.srt (by omega)) ha hb hx1 hx2 hc.life] at hl
    exact hin hl
   rw [Bool.not_eq_true] at hin
   by_cases h9:a <= 73048
   ·rw [e6u hT ra.1 h9,qA]
    simp only [Bool.not_true,qM,if_false,c2r,hin,qA,Bool.not_false,if_true]
    rw [l9 (by omega)]
    exact ⟨s,rfl,hskip⟩
   ·have:a=73049:=by omega
    subst this
    obtain ⟨r,e,hr⟩:=d2e hT
    rw [e,qA]
    simp only [hr,Bool.not_false,if_true,qA]
    rw [l9 (by omega)]
    exact ⟨s,rfl,hskip⟩
 ·rintro rec s hI
  unfold a01
  dsimp only
  rw [if_neg (by
   rw [i7 (by omega) (by omega)]
   simp
   have:(c.tail.length:Int)=((c.length-1:Nat):Int):=by rw [htl]
   omega)]
  refine Tot.some ⟨fun x=> ?_,hI.seg,by have:=hI.len;omega⟩
  rw [hI.days]
  refine ⟨fun h=>h.2,fun h=>⟨?_,h⟩⟩
  have hl:=h.1
  unfold a7i at hl
  simp at hl
  obtain ⟨j,a,b,e1,e2,e3⟩:=c85 (hc.srt (by omega)) hc.life.1 hc.life.2 hl.1 hl.2
  refine ⟨j,a,b,?_,e1,e2,e3⟩
  have:=(qD.1 e2).1
  omega
 ·constructor
  ·rintro ⟨g,hg,_⟩;cases hg
  ·rintro ⟨⟨j,_,_,h,_⟩,_⟩;omega
theorem e8x {f:List aQ} {T:List Rules} (hf:f.length <= 27) (hT:TrF T):Tot (a69 f T) fun s=>(∀x,sIn s x↔Ex f T x) /\ (∀g∈s,(0 <= g.State /\ g.State <= 5) /\ g.Rule <= 5 /\ 0 <= g.Span.From /\ g.Span.From<g.Span.To /\ g.Span.To <= 73049) /\ s.length <= 10000:=by
 have hcl:=List.length_filter_le cur f
 have hlr:=d38 f
 obtain ⟨hT1,hT2⟩:=f4i hT
 unfold a69
 rw [e1l hT,qA]
 simp only [bne_self_eq_false,qM,if_false]
 rw [b4i f (by omega),qA]
 refine Tot.bind (d8y hf) fun P hPP=> ?_
 obtain ⟨hP,hPl⟩:=hPP
 rw [c13 f (by omega),qA]
 have hPr: ∀p∈P,0 <= p.Span.From /\ p.Span.To <= 73049 /\ p.Span.From<p.Span.To:=fun p hp=>by
  obtain ⟨r1,r2,r3,_⟩:=c5q (by omega) ((hP p).1 hp)
  exact ⟨r1,r3,r2⟩
 refine f2n (b:=(q0 f).From<(q0 f).To) hPr hPl hT1 (fun r hr=>⟨(hT2 r hr).2.2.1,(hT2 r hr).2.2.2⟩) (q0 f) (by omega) [(q0 f).From,(q0 f).To] (by simp) [(q0 f).From,(q0 f).To] ⟨fun x=>Iff.rfl,Nat.le_refl _,fun h=>by simpa using h⟩ fun c i hc=> ?_
 refine f3w hf hT hP hPl ⟨fun x hx=> ?_,hc.srt,?_,?_,fun u hu=> ?_,fun r hr=> ?_,fun r hr p hp=> ?_,fun p hp=> ?_⟩ i
 ·have hx:=(hc.mem x).1 hx
  simp only [qK,qO,List.not_mem_nil,or_false,List.mem_flatMap] at hx
  rcases hx with (((e | e) | ⟨u,hu,h⟩) | ⟨r,hr,h⟩) | ⟨p,hp,h⟩
  ·omega
  ·omega
  ·have:=d31 (f:=u) (by simpa using (List.mem_filter.1 hu).2)
   simp only [e2q,qO,List.not_mem_nil,or_false] at h
   omega
  ·have:=hT2 r hr
   simp only [d67,qO,List.mem_map] at h
   rcases h with h | ⟨p,hp,h⟩
   ·omega
   ·have:=hPr p hp
    unfold e7w at h
    omega
  ·have:=hPr p hp
   simp only [d7x,qO,List.not_mem_nil,or_false] at h
   omega
 ·have h0:=hc.len
  have l1:=b7x e2q 2 (fun _=>rfl) (f.filter cur)
  have l2:=b7x (d67 P) (P.length+1) (fun _=>by simp [d67]) T
  have l3:=b7x d7x 2 (fun _=>rfl) P
  have l4:(P.length+1)*T.length <= 1001*2:=Nat.mul_le_mul (by omega) hT1
  simp only [qL,List.length_cons,List.length_nil,l1,l2,l3] at h0
  omega
 ·exact ⟨(hc.mem _).2 (by simp),(hc.mem _).2 (by simp)⟩
 ·have: ∀x∈e2q u,x∈c:=fun x hx=>(hc.mem x).2 (List.mem_append_left _ (List.mem_append_left _ (List.mem_append_right _ (List.mem_flatMap.2 ⟨u,hu,hx⟩))))
  exact ⟨this _ (by simp [e2q]),this _ (by simp [e2q])⟩
 ·exact (hc.mem _).2 (List.mem_append_left _ (List.mem_append_right _ (List.mem_flatMap.2 ⟨r,hr,by simp [d67]⟩)))
 ·exact (hc.mem _).2 (List.mem_append_left _ (List.mem_append_right _ (List.mem_flatMap.2 ⟨r,hr,by simp only [d67,qO,List.mem_map];exact .inr ⟨p,hp,rfl⟩⟩)))
 ·have: ∀x∈d7x p,x∈c:=fun x hx=>(hc.mem x).2 (List.mem_append_right _ (List.mem_flatMap.2 ⟨p,hp,hx⟩))
  exact ⟨this _ (by simp [d7x]),this _ (by simp [d7x])⟩
end
end Go.PL
namespace Go.PL
open Go Go.SX
def spl (l:List aQ) (kind st:Int):List Span:=((l.filter cur).filter (fun y=>y.Kind==kind&&y.State==st)).map (·.Span)
theorem e1u (l:List aQ) (k s:Int):(spl l k s).length <= l.length:=by
 unfold spl;rw [List.length_map]
 exact Nat.le_trans (List.length_filter_le _ _) (List.length_filter_le _ _)
theorem e1b (l:List aQ) (kind st:Int) (hl:l.length <= 27):Tot (b3c l kind st) fun r=>Nrm r /\ r.length <= 27:=by
 have hsl:=e1u l kind st
 obtain ⟨c1,_,n1,_,n5⟩:=b14 (spl l kind st) (q0 l) (by omega)
 unfold b3c
 refine o8 (f:=b03 l kind st) l (fun s i=>(s,i)) (fun s i=>s=spl (l.take i) kind st) (fun o=>Tot o _) (by omega) ?_ ?_ [] (by simp [spl])
 ·rintro rec q i y hi hy rfl
  right
  have hlen:(spl (l.take i) kind st).length <= i:=by
   have:=e1u (l.take i) kind st;rw [List.length_take] at this;omega
  unfold b03
  dsimp only
  rw [if_pos (a1j hi)]
  simp only [l6 hy,qA,b40,m6]
  rw [l9 (by omega),a0c hy]
  have e:spl (l.take i++[y]) kind st=spl (l.take i) kind st++spl [y] kind st:=by unfold spl;rw [List.filter_append,List.filter_append,List.map_append]
  rw [e]
  by_cases hc:((cur y&&(y.Kind==kind))&&(y.State==st))=true
  ·rw [if_pos hc,a0e (by simp;omega),qA]
   refine ⟨_,rfl,?_⟩
   simp only [qB] at hc
   simp [spl,hc.1.1,hc.1.2,hc.2]
  ·rw [if_neg hc]
   refine ⟨_,rfl,?_⟩
   have:spl [y] kind st=[]:=by
    unfold spl
    cases h1:cur y<;>cases h2:(y.Kind==kind)<;>cases h3:(y.State==st)<;>simp [h1,h2,h3] at hc⊢
   rw [this,List.append_nil]
 ·rintro rec q rfl
  unfold b03
  dsimp only
  rw [if_neg (a0i _),List.take_length,c0n l (by omega),qA,c1,qA]
  exact Tot.some ⟨n1,by omega⟩
theorem d49 (l:List aQ) (hl:l.length <= 27):Tot (a86 l) fun z=>Nrm z /\ z.length <= 162:=by
 unfold a86
 refine Tot.loop (I:=fun v:(List Span)×Int=>0 <= v.2 /\ v.2 <= 6 /\ (v.1.length:Int) <= 27*v.2) (μ:=fun v=>(6-v.2).toNat) ⟨Int.le_refl _,by show (0:Int) <= 6;omega,by show (0:Int) <= 27*0;omega⟩ (by show (6-0:Int).toNat<_;omega) ?_
 rintro r ⟨q,i⟩ ⟨g1,g2,g3⟩ ih
 dsimp only at g1 g2 g3
 unfold b4t
 dsimp only
 refine Tot.ite (fun hc=> ?_) fun hc=> ?_
 ·simp at hc
  refine Tot.bind (e1b l 8 i hl) fun c hcc=> ?_
  refine Tot.bind (a6v (by omega)) fun a ha=> ?_
  subst ha
  rw [a6l g1 (by omega)]
  exact ih _ ⟨by show 0 <= i+1;omega,by show i+1 <= 6;omega,by show ((q++c).length:Int) <= 27*(i+1);rw [qL];omega⟩ (by show (6-(i+1)).toNat<(6-i).toNat;omega)
 ·obtain ⟨r,h1,h2,_,h4⟩:=b1e q (by omega)
  rw [h1,qA]
  exact Tot.some ⟨h2,by omega⟩
theorem d66 (l:List aQ) (hl:l.length <= 27):Tot (a7d l) fun z=>z.length <= 162:=by
 unfold a7d
 refine Tot.bind (d49 l hl) fun z hz=> ?_
 obtain ⟨hz,hzl⟩:=hz
 refine o8 (f:=a72 z) z (fun s i=>(s,z,i)) (fun s i=>s.length <= i) (fun o=>Tot o _) (by omega) ?_ ?_ [] (by simp)
 ·rintro rec s i y hi hy hI
  right
  unfold a72
  dsimp only
  rw [if_pos (a1j hi)]
  simp only [l6 hy,qA]
  rw [l9 (by omega)]
  have app: ∃s',(Option.bind (a4t 16 s [y]) fun v11=>rec (v11,z,((i+1:Nat):Int)))=rec (s',z,((i+1:Nat):Int)) /\ s'.length <= i+1:=by
   rw [a0e (by simp;omega),qA]
   exact ⟨_,rfl,by simp;omega⟩
  rcases f4y s with e0 | ⟨A,t,e0⟩
  ·subst e0
   have e0:decide ((([]:List Span).length:Int)>0)=false:=rfl
   simp only [e0,qM,if_false,qA]
   exact app
  ·subst e0
   have e0:decide (((A++[t]).length:Int)>0)=true:=by simp
   have gl:c8 (A++[t]) (i64 (((A++[t]).length:Int)-1))=some t:=c3i A t (by simp at hI;omega)
   simp only [e0,if_true,gl,qA]
   split
   ·rw [c11 A t _ (by simp at hI;omega)]
    exact ⟨_,rfl,by simp at hI ⊢; omega⟩
   ·exact app
 ·rintro rec s hI
  unfold a72
  dsimp only
  rw [if_neg (a0i _)]
  exact Tot.some (by omega)
theorem e4w (w:wQ) (day:Int) (q:List Int) (hq:q.length <= 2^60):Tot (a52 w day q) fun r=>r.2.2.length <= q.length:=by
 unfold a52
 refine Tot.loop (I:=fun v:(List Int)×wQ=>v.1.length <= q.length) (μ:=fun v=>v.1.length) (Nat.le_refl _) (by show q.length<_;omega) ?_
 rintro r ⟨v,w'⟩ hI ih
 dsimp only at hI
 unfold a9o
 dsimp only
 by_cases hv:(v.length:Int)>0
 ·simp only [hv,decide_true,if_true]
  refine Tot.bind (Q:=fun _=>True) (Tot.bind (l7 (by omega) (by omega)) fun x _=>Tot.bind (l7 (by omega) (by omega)) fun y _=>Tot.some trivial) fun b _=> ?_
  refine Tot.ite (fun _=> ?_) fun _=>Tot.some hI
  rw [a6a (by omega) (by omega) (by omega),qA]
  refine ih _ ?_ ?_
  ·show (((v.drop (1:Int).toNat).take _).length) <= _
   rw [List.length_take,List.length_drop];omega
  ·show (((v.drop (1:Int).toNat).take _).length)<v.length
   rw [List.length_take,List.length_drop]
   have:(1:Int).toNat=1:=rfl
   omega
 ·simp only [hv,decide_false,qM,if_false,qA]
  exact Tot.some hI
abbrev w0:wQ:=⟨[]⟩
theorem pay3 (y:Span) (hy:0 <= y.From /\ y.From<y.To /\ y.To <= 73049) (sp z v7:List Span) (k:Int) (q:List Int) (out:List Span) (cnt:Int) (hq:q.length <= 2^38) (ho:out.length <= 2^38)
  (r9:((List Int)×wQ×(List Span)×(List Span)×Int×(List Span)×(List Span)×Int) -> Option (List Span)) (v8:(List Int)×wQ×(List Span)×(List Span)×Int×(List Span)×(List Span)×Int) (h8:v8.2.2.2.2.2.2.2=k):
  ∃q' out' cnt',d5 FU (a5y r9 v8) (q,w0,out,z,cnt,y,y.From,sp,v7)=r9 (q',w0,out',z,cnt',sp,v7,i64 (k+1)) /\ q'.length <= q.length+73049 /\ out'.length <= out.length+73049:=by
 subst h8
 refine b2h (f:=a5y r9 v8) (fun s=> ∃q' out' cnt' d,s=(q',w0,out',z,cnt',y,d,sp,v7) /\ y.From <= d /\ d <= y.To /\ (q'.length:Int) <= q.length+(d-y.From) /\ (out'.length:Int) <= out.length+(d-y.From)) (fun s=>(y.To-s.2.2.2.2.2.2.1).toNat)
  (fun o=> ∃q' out' cnt',o=r9 (q',w0,out',z,cnt',sp,v7,i64 (v8.2.2.2.2.2.2.2+1)) /\ q'.length <= q.length+73049 /\ out'.length <= out.length+73049) ⟨q,out,cnt,y.From,rfl,Int.le_refl _,by omega,by omega,by omega⟩ (by show (y.To-y.From).toNat<_;omega) ?_
 rintro s rec ⟨q',out',cnt',d,rfl,a1,a2,a3,a4⟩
 unfold a5y
 dsimp only
 by_cases hd:d<y.To
 ·right
  have hm:(y.To-(d+1)).toNat<(y.To-d).toNat:=by omega
  simp only [hd,decide_true,if_true]
  rw [a6l (x:=d) (by omega) (by omega)]
  split
  ·exact ⟨_,rfl,⟨q',out',_,d+1,rfl,by omega,by omega,by omega,by omega⟩,hm⟩
  ·obtain ⟨⟨b,w',q2⟩,e,hq2⟩:=e4w w0 d q' (by omega)
   dsimp only at hq2
   rw [e,qA]
   dsimp only
   split
   ·rw [a0e (by simp;omega),qA,a0e (by simp;omega),qA]
    exact ⟨_,rfl,⟨_,_,cnt',d+1,rfl,by omega,by omega,by simp;omega,by simp;omega⟩,hm⟩
   ·exact ⟨_,rfl,⟨q2,out',cnt',d+1,rfl,by omega,by omega,by omega,by omega⟩,hm⟩
 ·left
  simp only [hd,decide_false,qM,if_false]
  exact ⟨q',out',cnt',rfl,by omega,by omega⟩
theorem d2i (l:List aQ) (hl:l.length <= 27):Tot (a2u l) fun r=>r.length <= 2^38:=by
 unfold a2u
 refine Tot.bind (d49 l hl) fun z hz=>Tot.bind (d66 l hl) fun sp hsp=> ?_
 obtain ⟨hz,hzl⟩:=hz
 refine o8 (f:=a5u sp) sp (fun (s:List Int×List Span) i=>(s.1,w0,s.2,z,sp,i)) (fun s i=>s.1.length <= i*11833938 /\ s.2.length <= i*11833938) (fun o=>Tot o _) (by omega) ?_ ?_ ([],[]) ⟨by simp,by simp⟩
 ·rintro rec ⟨q,out⟩ i y hi hy ⟨g1,g2⟩
  right
  dsimp only at g1 g2
  have hi162:i <= 162:=by omega
  obtain ⟨c1,_,n1,_,n5⟩:=b14 z y (by omega)
  unfold a5u
  dsimp only
  rw [if_pos (a1j hi)]
  simp only [l6 hy,qA,c1]
  generalize b8y z y=v7 at n1 n5
  have key:=o8 (f:=a5s v7 rec (q,w0,out,z,sp,(i:Int))) v7 (fun (s:List Int×List Span×Int) j=>(s.1,w0,s.2.1,z,s.2.2,sp,v7,j)) (fun s j=>s.1.length <= q.length+j*73049 /\ s.2.1.length <= out.length+j*73049)
   (fun o=> ∃q' out':List _,o=rec (q',w0,out',z,sp,i64 ((i:Int)+1)) /\ q'.length <= q.length+162*73049 /\ out'.length <= out.length+162*73049) (by omega) ?_ ?_ (q,out,3) ⟨Nat.le_add_right _ _,Nat.le_add_right _ _⟩
  ·obtain ⟨q',out',e,k1,k2⟩:=key
   rw [e,l9 (by omega)]
   exact ⟨(q',out'),rfl,by show q'.length <= (i+1)*11833938;omega,by show out'.length <= (i+1)*11833938;omega⟩
  ·rintro rec2 ⟨q2,out2,cnt⟩ j t hj ht ⟨k1,k2⟩
   right
   dsimp only at k1 k2
   unfold a5s
   dsimp only
   rw [if_pos (a1j hj)]
   simp only [l6 ht,qA]
   obtain ⟨q',out',cnt',e,m1,m2⟩:=pay3 t (n1.1 t (qE ht)) sp z v7 (j:Int) q2 out2 cnt (by omega) (by omega) rec2 (q2,w0,out2,z,cnt,sp,v7,(j:Int)) rfl
   rw [e,l9 (by omega)]
   exact ⟨(q',out',cnt'),rfl,by show q'.length <= q.length+(j+1)*73049;omega,by show out'.length <= out.length+(j+1)*73049;omega⟩
  ·rintro rec2 ⟨q2,out2,cnt⟩ ⟨k1,k2⟩
   dsimp only at k1 k2
   unfold a5s
   dsimp only
   rw [if_neg (a0i _)]
   have:v7.length*73049 <= 162*73049:=Nat.mul_le_mul_right _ (by omega)
   exact ⟨q2,out2,rfl,Nat.le_trans k1 (Nat.add_le_add_left this _),Nat.le_trans k2 (Nat.add_le_add_left this _)⟩
 ·rintro rec ⟨q,out⟩ ⟨g1,g2⟩
  dsimp only at g1 g2
  unfold a5u
  dsimp only
  rw [if_neg (a0i _)]
  obtain ⟨r,h1,h2,_,h4⟩:=b1e out (by omega)
  rw [h1,qA]
  exact Tot.some (by omega)
end Go.PL
namespace Go.PL
open Go Go.SX
theorem q_nn {a b:Int} (h0:0 <= a) (h1:a <= 4611686018427387904) (hb:0<b):c0i a b=some (a/b):=by
 obtain ⟨r,e,h,_⟩:=b15 h0 (by omega) hb
 rw [e,h]
theorem e8r {a b:Int} (h0:0 <= a) (hb:0<b):b7d a b=some (a%b):=by
 obtain ⟨r,e,h,_⟩:=a81 h0 hb
 rw [e,h]
def e6j (y mo:Int):Int:=if mo=2 then (if (y%4=0 /\ y%100≠0) \/ y%400=0 then 29 else 28) else if mo=4 \/ mo=6 \/ mo=9 \/ mo=11 then 30 else 31
theorem d6s (y mo:Int):28 <= e6j y mo /\ e6j y mo <= 31:=by unfold e6j;split<;>split<;>omega
def c0c (m:Nat):Int:=e6j (1900+((m/12:Nat):Int)) (((m%12:Nat):Int)+1)
def S:Nat -> Int
 | 0=>0
 | m+1=>S m+c0c m
theorem b2m (m:Nat):28 <= c0c m /\ c0c m <= 31:=d6s _ _
theorem S_le {a b:Nat} (h:a <= b):S a+28*((b:Int)-a) <= S b:=by
 induction b with
 | zero=>have:a=0:=by omega
         subst this;simp
 | succ b ih=>
   by_cases hab:a <= b
   ·have:=ih hab;have:=b2m b;simp only [S];omega
   ·have:a=b+1:=by omega
    subst this;simp
theorem f2k {a b:Nat} (h:a <= b):S a <= S b:=by have:=S_le h;omega
theorem c3w: ∀m:Nat,0 <= S m /\ S m <= 31*(m:Int)
 | 0=>by simp [S]
 | m+1=>by have:=c3w m;have:=b2m m;simp only [S];omega
theorem c2z {y mo:Int} (hy:0 <= y /\ y <= 100000) (hm:1 <= mo /\ mo <= 12):a0f y mo=some (e6j y mo):=by
 unfold a0f b49 e6j
 simp only [e8r hy.1 (by decide:(0:Int)<4),e8r hy.1 (by decide:(0:Int)<100),e8r hy.1 (by decide:(0:Int)<400),qA,m6,a04]
 rw [i7 (by omega) (by omega)]
 by_cases h2:mo=2
 ·subst h2
  simp only [beq_self_eq_true,if_true,qA,Bool.true_and]
  by_cases hl:(y%4=0 /\ y%100≠0) \/ y%400=0
  ·rw [if_pos hl,if_pos (by simp;simpa using hl)]
  ·rw [if_neg hl,if_neg (by simp;simpa using hl)];rfl
 ·have:(mo==2)=false:=by simpa using h2
  rw [this,Bool.false_and,if_neg (by simp),if_neg h2]
  have hc:mo=1 \/ mo=3 \/ mo=4 \/ mo=5 \/ mo=6 \/ mo=7 \/ mo=8 \/ mo=9 \/ mo=10 \/ mo=11 \/ mo=12:=by omega
  rcases hc with h | h | h | h | h | h | h | h | h | h | h<;>subst h<;>rfl
theorem d6m {y mo:Int} (hy:0 <= y /\ y <= 100000) (hm:1 <= mo /\ mo <= 12):y7 y mo=some (e6j y mo):=by
 unfold y7 a6b e6j
 simp only [e8r hy.1 (by decide:(0:Int)<4),e8r hy.1 (by decide:(0:Int)<100),e8r hy.1 (by decide:(0:Int)<400),qA,m6,a04]
 by_cases h2:mo=2
 ·subst h2
  simp only [beq_self_eq_true,if_true]
  by_cases hl:(y%4=0 /\ y%100≠0) \/ y%400=0
  ·rw [if_pos hl,if_pos (by simp;omega)]
  ·rw [if_neg hl,if_neg (by simp;omega)]
 ·have:(mo==2)=false:=by simpa using h2
  simp only [this,qM,if_false,if_neg h2]
  have hc:mo=1 \/ mo=3 \/ mo=4 \/ mo=5 \/ mo=6 \/ mo=7 \/ mo=8 \/ mo=9 \/ mo=10 \/ mo=11 \/ mo=12:=by omega
  rcases hc with h | h | h | h | h | h | h | h | h | h | h<;>subst h<;>rfl
theorem b71 (m:Nat) (hm:m <= 100000):i64 (1900+(m:Int)/12)=1900+((m/12:Nat):Int) /\ i64 ((m:Int)%12+1)=((m%12:Nat):Int)+1:=by
 rw [i7 (by omega) (by omega),i7 (by omega) (by omega)]
 omega
theorem d3y (m:Nat) (hm:m <= 100000):y7 (i64 (1900+(m:Int)/12)) (i64 ((m:Int)%12+1))=some (c0c m):=by
 obtain ⟨h1,h2⟩:=b71 m hm
 rw [h1,h2,d6m (by omega) (by omega)];rfl
theorem qm (m:Nat) (hm:m <= 100000):c0i (m:Int) 12=some ((m:Int)/12):=q_nn (by omega) (by omega) (by omega)
theorem rm (m:Nat):b7d (m:Int) 12=some ((m:Int)%12):=e8r (by omega) (by omega)
theorem d9o (m:Nat) (hm:m <= 100000):a1x (m:Int)=some (S m):=by
 unfold a1x
 obtain ⟨r,h1,h2⟩:=a9s (f:=a4x (m:Int)) (fun s=> ∃x:Nat,s=(S x,(x:Int)) /\ x <= m) (fun s=>m-s.2.toNat) (fun r=>r=S m) (s:=(0,0)) ⟨0,rfl,Nat.zero_le _⟩ (by show m-_<_;omega) (by
  rintro s rec ⟨x,rfl,hx⟩
  unfold a4x
  dsimp only
  by_cases h:x<m
  ·right
   have hb:=c3w x
   have hl:=b2m x
   rw [if_pos (by simp;omega),qm x (by omega),qA,rm,qA,d3y x (by omega),qA,i7 (n:=S x+c0c x) (by omega) (by omega),i7 (n:=(x:Int)+1) (by omega) (by omega)]
   exact ⟨(S (x+1),((x+1:Nat):Int)),by simp [S],⟨x+1,rfl,h⟩,by simp only [Int.toNat_natCast];omega⟩
  ·left
   have:x=m:=by omega
   subst this
   rw [if_neg (by simp)]
   exact ⟨_,rfl,rfl⟩)
 rw [h1,h2]
def y12 (n:Nat):Int:=c0c (12*n)+c0c (12*n+1)+c0c (12*n+2)+c0c (12*n+3)+c0c (12*n+4)+c0c (12*n+5)+c0c (12*n+6)+c0c (12*n+7)+c0c (12*n+8)+c0c (12*n+9)+c0c (12*n+10)+c0c (12*n+11)
theorem e73 (n:Nat):S (12*(n+1))=S (12*n)+y12 n:=by
 rw [show 12*(n+1)=12*n+12 by omega]
 simp only [S,y12]
 omega
def f6c:Nat -> Nat -> Int -> Bool
 | 0,_,_=>true
 | k+1,n,s=>(a4d (1900+(n:Int))==some s)&&f6c k (n+1) (s+y12 n)
theorem e1k: ∀(k n:Nat),f6c k n (S (12*n))=true -> ∀j,n <= j -> j<n+k -> a4d (1900+(j:Int))=some (S (12*j))
 | 0,n,_,j,h1,h2=>by omega
 | k+1,n,h,j,h1,h2=>by
   simp only [f6c,qB,beq_iff_eq] at h
   by_cases hj:j=n
   ·subst hj;exact h.1
   ·rw [<- e73] at h
    exact e1k k (n+1) h.2 j (by omega) (by omega)
theorem d71:f6c 201 0 0=true:=by kernel_rfl
theorem e41 {n:Nat} (hn:n <= 200):a4d (1900+(n:Int))=some (S (12*n)):=e1k 201 0 d71 n (Nat.zero_le _) (by omega)
def sumY:Nat -> Int
 | 0=>0
 | n+1=>sumY n+y12 n
theorem e7u: ∀n,S (12*n)=sumY n
 | 0=>rfl
 | n+1=>by rw [e73,e7u n];rfl
theorem f4n:S 2400=73049:=by
 have h:=e7u 200
 rw [show 12*200=2400 from rfl] at h
 exact h.trans (by kernel_rfl)
theorem c6z {n k:Nat} (hn:n <= 1000) (hk:k<12):a0f (1900+(n:Int)) ((k:Int)+1)=some (c0c (12*n+k)):=by
 rw [c2z (by omega) (by omega)]
 unfold c0c
 rw [show (12*n+k)/12=n by omega,show (12*n+k)%12=k by omega]
theorem e8g {n k:Nat} (hn:n<200) (hk:k<12):a9i (1900+(n:Int)) ((k:Int)+1) 1=some (S (12*n+k),true):=by
 unfold a9i
 have hb:=c3w (12*n)
 have hl:=b2m (12*n+k)
 rw [c6z (by omega) hk,e41 (n:=n) (by omega)]
 have e1:(((((decide (1900+(n:Int)<1900)||decide (1900+(n:Int)>2099))||decide ((k:Int)+1<1))||decide ((k:Int)+1>12))||decide ((1:Int)<1))||decide ((1:Int)>c0c (12*n+k)))=false:=by
  simp only [Bool.or_eq_false_iff,decide_eq_false_iff_not];omega
 simp only [qA,a04,e1,qM,if_false]
 rw [i7 (n:=S (12*n)+1) (by omega) (by omega),i7 (by omega) (by omega)]
 obtain ⟨r,h1,h2⟩:=a9s (f:=b2o ((k:Int)+1) (1900+(n:Int))) (fun s=> ∃x:Nat,s=(S (12*n+x),(x:Int)+1) /\ x <= k) (fun s=>k+1-s.2.toNat) (fun r=>r=(S (12*n+k),true)) (s:=(S (12*n)+1-1,1)) ⟨0,by simp,Nat.zero_le _⟩ (by show k+1-_<_;omega) (by
  rintro s rec ⟨x,rfl,hx⟩
  unfold b2o
  dsimp only
  by_cases h:x<k
  ·right
   have hb:=c3w (12*n+x)
   have hl:=b2m (12*n+x)
   rw [if_pos (by simp;omega),c6z (by omega) (by omega),qA,i7 (n:=S (12*n+x)+c0c (12*n+x)) (by omega) (by omega),i7 (n:=(x:Int)+1+1) (by omega) (by omega)]
   exact ⟨(S (12*n+(x+1)),((x+1:Nat):Int)+1),rfl,⟨x+1,rfl,h⟩,by simp only [];omega⟩
  ·left
   have:x=k:=by omega
   subst this
   rw [if_neg (by simp)]
   exact ⟨_,rfl,rfl⟩)
 rw [h1,h2]
theorem e3w {m:Nat} (hm:m<2400):a9i (1900+((m/12:Nat):Int)) (((m%12:Nat):Int)+1) 1=some (S m,true):=by
 have hd:=e8g (n:=m/12) (k:=m%12) (by omega) (Nat.mod_lt _ (by omega))
 rwa [Nat.div_add_mod] at hd
theorem f1d {m:Nat} (hm:m<2400):a3h (m:Int)=some true:=by
 unfold a3h
 have e1:(decide ((m:Int) >= 0)&&decide ((m:Int) <= 2399))=true:=by rw [qB];exact ⟨decide_eq_true (by omega),decide_eq_true (by omega)⟩
 rw [m6,e1];rfl
theorem c46 {m:Nat} (hm:m<2400):a5x (m:Int)=some (S m,true):=by
 have hd:=e3w hm
 obtain ⟨h1,h2⟩:=b71 m (by omega)
 rw [<- h1,<- h2] at hd
 unfold a5x
 rw [f1d hm,qm m (by omega),rm]
 show (a9i _ _ 1).bind _=_
 rw [hd];rfl
theorem e25 (a:Int):Tot (a7v a) fun m=> ∃v n:Int,a6h m=some (⟨v,v+n⟩,true) /\ a3x m=some (v,true) /\ a2f m=some n /\ i64 (v+n)=v+n /\ 0 <= v /\ 0 <= n /\ n <= 31 /\ v+n <= 73049:=by
 unfold a7v
 refine Tot.bind (a0g (by omega) (by omega)) fun r hr=>Tot.some ?_
 rw [i7 (n:=1157+r) (by omega) (by omega)]
 obtain ⟨m,hm⟩: ∃m:Nat,1157+r=(m:Int):=⟨(1157+r).toNat,by omega⟩
 rw [hm]
 have hm2:m<2400:=by omega
 obtain ⟨h1,h2⟩:=b71 m (by omega)
 have hl:=b2m m
 have hb:=c3w m
 have hb2:S m+c0c m <= 73049:=by
  have:=f2k (a:=m+1) (b:=2400) (by omega)
  rw [f4n] at this
  exact this
 have hi:i64 (S m+c0c m)=S m+c0c m:=i7 (by omega) (by omega)
 have hvr:a3y (m:Int)=some true:=f1d hm2
 have hcm:=c6z (n:=m/12) (k:=m%12) (by omega) (Nat.mod_lt _ (by omega))
 rw [Nat.div_add_mod] at hcm
 refine ⟨S m,c0c m,?_,?_,?_,hi,hb.1,by omega,hl.2,hb2⟩
 ·unfold a6h a9z
  rw [c46 hm2,qA,f1d hm2,qm m (by omega),rm]
  simp only [Bool.not_true,qM,if_false,qA]
  rw [h1,h2,hcm,qA,qA,hi]
 ·unfold a3x
  rw [hvr,qA]
  simp only [Bool.not_true,qM,if_false]
  rw [d9o m (by omega),qA]
 ·unfold a2f
  rw [hvr,qA]
  simp only [Bool.not_true,qM,if_false]
  rw [qm m (by omega),qA,rm,qA,d3y m (by omega),qA]
theorem e4a:a9m=some true:=by kernel_rfl
end Go.PL
namespace Go.PL
open Go Go.SX
def c7a (s:Span):List Int:=(List.range (s.To-s.From).toNat).map fun (k:Nat)=>s.From+(k:Int)
def a2k (l:List Span):List Int:=l.flatMap c7a
theorem c6s {s:Span} {x:Int}:x∈c7a s↔s.From <= x /\ x<s.To:=by
 unfold c7a
 rw [List.mem_map]
 constructor
 ·rintro ⟨k,hk,rfl⟩
  rw [List.mem_range] at hk;omega
 ·rintro ⟨h1,h2⟩
  exact ⟨(x-s.From).toNat,by rw [List.mem_range];omega,by omega⟩
theorem c6i (s:Span):(c7a s).length=(s.To-s.From).toNat:=by unfold c7a;rw [List.length_map,List.length_range]
theorem e87 (s:Span):(c7a s).Nodup:=by
 unfold c7a List.Nodup
 rw [List.pairwise_map]
 exact (List.nodup_range (n:=(s.To-s.From).toNat)).imp fun h e=>h (by omega)
theorem b41 {l:List Span} {x:Int}:x∈a2k l↔InS l x:=by
 unfold a2k InS
 rw [List.mem_flatMap]
 exact exists_congr fun s=>and_congr_right fun _=>c6s
theorem b7m: ∀{l:List Span},Nrm l -> (a2k l).Nodup
 | [],_=>List.Pairwise.nil
 | s::l,h=>by
   obtain ⟨h1,h2,h3⟩:=b2j.1 h
   have ih:=b7m h1
   show (c7a s++a2k l).Nodup
   rw [List.nodup_append]
   refine ⟨e87 s,ih,fun a ha b hb e=> ?_⟩
   subst e
   have g1:=c6s.1 ha
   obtain ⟨t,ht,g2⟩:=b41.1 hb
   have:=h2 t ht
   omega
theorem d55: ∀(l:List Span) (n:Int),(∀s∈l,s.From<s.To) -> l.foldl e2t n=n+((a2k l).length:Int)
 | [],n,_=>by simp [a2k]
 | s::l,n,h=>by
   have hs:=h s (by simp)
   rw [List.foldl_cons,d55 l _ fun t ht=>h t (by simp [ht])]
   have:a2k (s::l)=c7a s++a2k l:=rfl
   rw [this,qL,c6i]
   unfold e2t
   omega
theorem c5a {l:List Span} (h:Nrm l) {a b:Int} (hr: ∀x,InS l x -> a <= x /\ x<b):((a2k l).length:Int) <= max 0 (b-a):=by
 have:=c7t (b7m h) (b:=c7a ⟨a,b⟩) fun x hx=>c6s.2 (hr x (b41.1 hx))
 rw [c6i] at this
 dsimp only at this
 omega
theorem e3j {l:List Span} (h2:Nrm l):a8q l=some ((a2k l).length:Int):=by
 have hr:=b7b h2
 obtain ⟨r,h1,n1,m1,_⟩:=b1e l (by omega)
 have e:r=l:=c0q n1 h2 fun x=>by
  rw [m1]
  exact ⟨fun h=>h.1,fun h=>⟨h,c6c h2 h⟩⟩
 subst e
 have step: ∀(s:Int) (i:Nat) (y:Span),r[i]? =some y -> (0 <= s /\ s <= 73049 /\ ∀t∈r.drop i,s <= t.From) -> (0 <= e2t s y /\ e2t s y <= 73049 /\ ∀t∈r.drop (i+1),e2t s y <= t.From) /\ y.From<y.To /\ y.To <= 73049 /\ 0 <= y.From:=by
  rintro s i y hy ⟨a1,a2,a3⟩
  have hd:=b4h hy
  have nd:Nrm (y::r.drop (i+1)):=hd▸⟨fun s hs=>h2.1 s (List.mem_of_mem_drop hs),h2.2.sublist (List.drop_sublist i r)⟩
  obtain ⟨n1,n2,n3⟩:=b2j.1 nd
  have:=a3 y (by rw [hd];exact qI)
  unfold e2t
  refine ⟨⟨by omega,by omega,fun t ht=> ?_⟩,n3.2.1,n3.2.2,n3.1⟩
  have:=n2 t ht
  omega
 unfold a8q
 rw [b9u r (by omega),h1,qA,c2x (f:=a5n) r (fun s i=>(s,r,i)) e2t (fun s=>some s) (by omega) 0 (fun s i=>0 <= s /\ s <= 73049 /\ ∀t∈r.drop i,s <= t.From) ⟨by omega,by omega,fun t ht=>(h2.1 t (List.mem_of_mem_drop ht)).1⟩ (fun rec s i y hy hJ=> ?_) fun rec s hJ=> ?_]
 ·rw [d55 r 0 fun s hs=>(h2.1 s hs).2.1,Int.zero_add]
 ·obtain ⟨b1,b2,b3,b4⟩:=step s i y hy hJ
  refine ⟨b1,?_⟩
  have hi:=(qD.1 hy).1
  unfold a5n
  dsimp only
  rw [if_pos (a1j hi)]
  simp only [l6 hy,qA]
  have e:i64 (s+i64 (y.To-y.From))=e2t s y:=by
   unfold e2t
   obtain ⟨c1,c2,_⟩:=b1
   unfold e2t at c1 c2
   rw [i7 (n:=y.To-y.From) (by omega) (by omega),i7 (by omega) (by omega)]
  rw [e]
 ·unfold a5n
  dsimp only
  rw [if_neg (a0i _)]
noncomputable def atD (f:List aQ) (T:List Rules) (d:Int):Int×Int:=(a85 f T d).getD (-1,0)
noncomputable def stB (f:List aQ) (T:List Rules) (st:Int) (d:Int):Bool:=((atD f T d).2 != 0)&&((atD f T d).1==st)
theorem d3w {f:List aQ} {T:List Rules} (hG:a39 f) (hT:TrF T) {d:Int} (h0:0 <= d) (h1:d <= 73048):a85 f T d=some (atD f T d) /\ ((atD f T d).2≠0↔Ex f T d) /\ ((atD f T d).2≠0 -> 0 <= (atD f T d).1 /\ (atD f T d).1 <= 5):=by
 obtain ⟨r,e,h⟩:=f2q hG hT h0 h1
 have:atD f T d=r:=by unfold atD;rw [e];rfl
 rw [this]
 exact ⟨e,h⟩
theorem e1g (s:Span) (d:Int) (h0:s.From <= d) (h1:d<s.To):c7a ⟨s.From,d+1⟩=c7a ⟨s.From,d⟩++[d]:=by
 unfold c7a
 dsimp only
 have:(d+1-s.From).toNat=(d-s.From).toNat+1:=by omega
 rw [this,List.range_succ,List.map_append]
 simp only [List.map_cons,List.map_nil]
 congr 1
 simp only [List.cons.injEq,and_true]
 omega
theorem e4e {f:List aQ} {a0:Laws} (hG:a39 f) (hT:TrF a0.Treaty) (st:Int) (y:Span) (hy:0 <= y.From /\ y.From<y.To /\ y.To <= 73049) (n:Int) (hn:0 <= n /\ n <= 2^40) (c:List Span) (v4:Laws×Int×(List Span)×Int) (r5:(Laws×Int×(List Span)×Int) -> Option Int):
  d5 FU (a8t f st r5 v4) (a0,n,y,y.From,c)=r5 (a0,n+((c7a y).countP (stB f a0.Treaty st):Int),c,i64 (v4.2.2.2+1)):=by
 refine b2h (f:=a8t f st r5 v4) (fun s=> ∃d,s=(a0,n+((c7a ⟨y.From,d⟩).countP (stB f a0.Treaty st):Int),y,d,c) /\ y.From <= d /\ d <= y.To) (fun s=>(y.To-s.2.2.2.1).toNat) (fun o=>o=r5 (a0,n+((c7a y).countP (stB f a0.Treaty st):Int),c,i64 (v4.2.2.2+1)))
  ⟨y.From,by simp [c7a],Int.le_refl _,by omega⟩ (by show (y.To-y.From).toNat<_;omega) ?_
 rintro s rec ⟨d,rfl,h1,h2⟩
 unfold a8t
 dsimp only
 by_cases hd:d<y.To
 ·right
  obtain ⟨e,_,_⟩:=d3w hG hT (d:=d) (by omega) (by omega)
  simp only [hd,decide_true,if_true,e,qA,m6]
  rw [a6l (x:=d) (by omega) (by omega)]
  have hcp:=List.countP_le_length (p:=stB f a0.Treaty st) (l:=c7a ⟨y.From,d⟩)
  rw [c6i] at hcp
  dsimp only at hcp
  have hst:(((atD f a0.Treaty d).2 != 0)&&((atD f a0.Treaty d).1==st))=stB f a0.Treaty st d:=rfl
  rw [hst]
  have hm:(y.To-(d+1)).toNat<(y.To-d).toNat:=by omega
  have hdr:=e1g y d h1 hd
  cases hb:stB f a0.Treaty st d with
  | true=>
    rw [if_pos rfl,i7 (by omega) (by omega)]
    refine ⟨_,rfl,⟨d+1,?_,by omega,by omega⟩,hm⟩
    rw [hdr,List.countP_append]
    simp [hb]
    omega
  | false=>
    simp only [qM,if_false]
    refine ⟨_,rfl,⟨d+1,?_,by omega,by omega⟩,hm⟩
    rw [hdr,List.countP_append]
    simp [hb]
 ·left
  have:d=y.To:=by omega
  subst this
  simp only [hd,decide_false,qM,if_false]
theorem e4m {f:List aQ} {a0:Laws} (hG:a39 f) (hT:TrF a0.Treaty) (st m:Int) {v n:Int} (hm:a6h m=some (⟨v,v+n⟩,true)) (pay:List Span) (hp:a2u f=some pay) (hpl:pay.length <= 2^38):
  a9v a0 f st m=some ((a2k (b8y pay ⟨v,v+n⟩)).countP (stB f a0.Treaty st):Int):=by
 obtain ⟨c1,_,n1,_,_⟩:=b14 pay ⟨v,v+n⟩ (by omega)
 unfold a9v
 rw [hm,qA]
 simp only [Bool.not_true,qM,if_false]
 rw [hp,qA,c1,qA]
 generalize b8y pay ⟨v,v+n⟩=c at n1
 have hcl:=b7b n1
 have hbig: ∀i,((a2k (c.take i)).countP (stB f a0.Treaty st):Int) <= 73049:=by
  intro i
  have n2:Nrm (c.take i):=⟨fun s hs=>n1.1 s (List.mem_of_mem_take hs),n1.2.sublist (List.take_sublist i c)⟩
  have h1:=List.countP_le_length (p:=stB f a0.Treaty st) (l:=a2k (c.take i))
  have h2:=c5a n2 (a:=0) (b:=73049) fun x hx=>c6c n2 hx
  omega
 refine o8 (f:=a8r c f st) c (fun (s:Int) i=>(a0,s,c,i)) (fun s i=>s=((a2k (c.take i)).countP (stB f a0.Treaty st):Int)) (fun o=>o=some ((a2k c).countP (stB f a0.Treaty st):Int)) (by omega) ?_ ?_ 0 (by simp [a2k])
 ·rintro rec s i y hi hy rfl
  right
  unfold a8r
  dsimp only
  rw [if_pos (a1j hi)]
  simp only [l6 hy,qA]
  rw [e4e hG hT st y (n1.1 y (qE hy)) _ ⟨by omega,by have:=hbig i;omega⟩ c _ rec]
  dsimp only
  rw [l9 (by omega)]
  refine ⟨_,rfl,?_⟩
  rw [a0c hy]
  have:a2k (c.take i++[y])=a2k (c.take i)++c7a y:=by unfold a2k;rw [List.flatMap_append];simp
  rw [this,List.countP_append]
  omega
 ·rintro rec s rfl
  unfold a8r
  dsimp only
  rw [if_neg (a0i _),List.take_length]
end Go.PL
namespace Go.PL
open Go Go.SX
theorem fm2 (u v:Bool):fm 2 u v=(u||v):=by unfold fm;simp
theorem fm1 (u v:Bool):fm 1 u v=(u&&v):=by unfold fm;simp
theorem d6b (a b:List Span) (ha:a.length <= 2^40) (hb:b.length <= 2^40):
  ∃r,a7s a b=some r /\ Nrm r /\ ∀x,InS r x↔(InS a x \/ InS b x) /\ 0 <= x /\ x<73049:=by
 obtain ⟨r,h1,h2,h3⟩:=b3d a b 2 ha hb
 refine ⟨r,by unfold a7s;rw [h1];rfl,h2,fun x=> ?_⟩
 rw [h3,fm2,Bool.or_eq_true,b2q,b2q]
theorem d5w (a b:List Span) (ha:a.length <= 2^40) (hb:b.length <= 2^40):
  ∃r,a4j a b=some r /\ Nrm r /\ ∀x,InS r x↔(InS a x /\ InS b x) /\ 0 <= x /\ x<73049:=by
 obtain ⟨r,h1,h2,h3⟩:=b3d a b 1 ha hb
 refine ⟨r,by unfold a4j;rw [h1];rfl,h2,fun x=> ?_⟩
 rw [h3,fm1,qB,b2q,b2q]
def d7m (st:Int) (g:Segment):Bool:=(g.State==st)&&decide (g.Rule <= 5)
theorem c8j (s:List Segment) (st:Int) (hs:s.length <= 10000):Tot (a4o s st 5) fun r=>Nrm r /\ ∀x,InS r x↔(∃g∈s,d7m st g=true /\ g.Span.From <= x /\ x<g.Span.To) /\ 0 <= x /\ x<73049:=by
 unfold a4o
 refine o8 (f:=a4n s st 5) s (fun q i=>(q,i)) (fun q i=>q=((s.take i).filter (d7m st)).map (·.Span)) (fun o=>Tot o _) (by omega) ?_ ?_ [] (by simp)
 ·rintro rec q i y hi hy rfl
  right
  have hlen:((s.take i).filter (d7m st)).length <= i:=by
   have:=List.length_filter_le (d7m st) (s.take i);rw [List.length_take] at this;omega
  unfold a4n
  dsimp only
  rw [if_pos (a1j hi)]
  simp only [l6 hy,qA,m6]
  rw [l9 (by omega),a0c hy,List.filter_append,List.map_append]
  have hb:((y.State==st)&&decide (y.Rule <= 5))=d7m st y:=rfl
  rw [hb]
  cases hc:d7m st y with
  | true=>
    rw [if_pos rfl,a0e (by simp;omega),qA]
    exact ⟨_,rfl,by simp [hc]⟩
  | false=>
    simp only [qM,if_false]
    exact ⟨_,rfl,by simp [hc]⟩
 ·rintro rec q rfl
  rw [List.take_length]
  have hfl:=List.length_filter_le (d7m st) s
  unfold a4n
  dsimp only
  rw [if_neg (a0i _),b9u _ (by rw [List.length_map];omega)]
  obtain ⟨r,h1,h2,h3,_⟩:=b1e ((s.filter (d7m st)).map (·.Span)) (by rw [List.length_map];omega)
  rw [h1,qA]
  refine Tot.some ⟨h2,fun x=> ?_⟩
  rw [h3]
  refine and_congr_left fun _=> ?_
  unfold InS
  constructor
  ·rintro ⟨p,hp,h⟩
   obtain ⟨g,hg,rfl⟩:=List.mem_map.1 hp
   rw [List.mem_filter] at hg
   exact ⟨g,hg.1,hg.2,h⟩
  ·rintro ⟨g,hg,hb,h⟩
   exact ⟨g.Span,List.mem_map.2 ⟨g,List.mem_filter.2 ⟨hg,hb⟩,rfl⟩,h⟩
theorem b9w {p q r:Int -> Bool}: ∀l:List Int,(∀d∈l,r d=(p d||q d) /\ ¬(p d=true /\ q d=true)) -> l.countP r=l.countP p+l.countP q
 | [],_=>rfl
 | d::l,h=>by
   have ih:=b9w l fun x hx=>h x (by simp [hx])
   obtain ⟨h1,h2⟩:=h d (by simp)
   simp only [List.countP_cons,ih,h1]
   cases hp:p d<;>cases hq:q d<;>simp [hp,hq] at h2⊢ <;>omega
theorem f3d {f:List aQ} {L:Laws} (hG:a39 f) (hT:TrF L.Treaty) (m v n:Int) (hm:a6h m=some (⟨v,v+n⟩,true)) (hd:a2f m=some n) (hi:i64 (v+n)=v+n) (h0:0 <= v) (h1:0 <= n) (h2:n <= 31) (h3:v+n <= 73049):
  d5 FU (u4 m (v,true)) (L,f,0,0)=some true:=by
 have hf:=hG.len
 obtain ⟨pay,hp,hpl⟩:=d2i f hf
 obtain ⟨segs,hL,hLd,hLg,hLl⟩:=e8x hf hT
 obtain ⟨c1,c2,n1,c4,_⟩:=b14 pay ⟨v,v+n⟩ (by omega)
 generalize hc:b8y pay ⟨v,v+n⟩=c at c1 c2 n1 c4
 have hDl:((a2k c).length:Int) <= 31:=by
  have:=c5a n1 (a:=v) (b:=v+n) fun x hx=>((c4 x).1 hx).2.1
  omega
 have hday: ∀d∈a2k c,0 <= d /\ d <= 73048:=fun d hd=>by
  have:=c6c n1 (b41.1 hd);omega
 have hD: ∀st,a9v L f st m=some ((a2k c).countP (stB f L.Treaty st):Int):=fun st=>by
  have:=e4m hG hT st m hm pay hp hpl
  rw [hc] at this;exact this
 have hcl: ∀p:Int -> Bool,((a2k c).countP p:Int) <= 31:=fun p=>by
  have:=List.countP_le_length (p:=p) (l:=a2k c)
  omega
 let lt:Int -> Int -> Bool:=fun k d=>((atD f L.Treaty d).2 != 0)&&decide ((atD f L.Treaty d).1<k)
 obtain ⟨o,ho,rfl⟩:Tot (d5 FU (u4 m (v,true)) (L,f,0,0)) fun b=>b=true:=by
  refine Tot.loop (I:=fun s:Laws×(List aQ)×Int×Int=>s.1=L /\ s.2.1=f /\ 0 <= s.2.2.2 /\ s.2.2.2 <= 6 /\ s.2.2.1=((a2k c).countP (lt s.2.2.2):Int)) (μ:=fun s=>(6-s.2.2.2).toNat) ⟨rfl,rfl,Int.le_refl _,by show (0:Int) <= 6;omega,?_⟩ (by show (6-0:Int).toNat<_;omega) ?_
  ·show (0:Int)=((a2k c).countP (lt 0):Int)
   have:(a2k c).countP (lt 0)=0:=by
    rw [List.countP_eq_zero]
    intro d hd hh
    obtain ⟨_,_,g⟩:=d3w hG hT (hday d hd).1 (hday d hd).2
    simp only [lt,qB,bne_iff_ne,ne_eq,decide_eq_true_eq] at hh
    have:=(g hh.1).1
    omega
   rw [this];rfl
  rintro r ⟨L',f',tt,st⟩ ⟨e1,e2,g1,g2,g3⟩ ih
  dsimp only at e1 e2 g1 g2 g3
  subst e1 e2
  unfold u4
  dsimp only
  refine Tot.ite (fun hc6=> ?_) fun hc6=> ?_
  ·simp at hc6
   rw [hD st,qA,a04,qA,if_neg (by have:=hcl (stB f' L'.Treaty st);simp;omega)]
   have hsp:(a2k c).countP (lt (st+1))=(a2k c).countP (lt st)+(a2k c).countP (stB f' L'.Treaty st):=by
    refine b9w _ fun d hd=> ?_
    simp only [lt,stB]
    constructor
    ·rw [Bool.eq_iff_iff]
     simp only [Bool.or_eq_true,qB,bne_iff_ne,ne_eq,decide_eq_true_eq,beq_iff_eq]
     constructor
     ·rintro ⟨a,b⟩
      by_cases e:(atD f' L'.Treaty d).1=st
      ·exact .inr ⟨a,e⟩
      ·exact .inl ⟨a,by omega⟩
     ·rintro (⟨a,b⟩ | ⟨a,b⟩)
      ·exact ⟨a,by omega⟩
      ·exact ⟨a,by omega⟩
    ·simp only [qB,bne_iff_ne,ne_eq,decide_eq_true_eq,beq_iff_eq]
     omega
   have b1:=hcl (lt st)
   have b2:=hcl (stB f' L'.Treaty st)
   rw [i7 (n:=tt+_) (by omega) (by omega),a6l g1 (by omega)]
   exact ih _ ⟨rfl,rfl,by show 0 <= st+1;omega,by show st+1 <= 6;omega,by show tt+_=((a2k c).countP (lt (st+1)):Int);rw [hsp];omega⟩ (by show (6-(st+1)).toNat<(6-st).toNat;omega)
  ·simp at hc6
   have h6:st=6:=by omega
   subst h6
   rw [hp,qA,hd,qA,hi,c2,qA,hL,qA]
   obtain ⟨u0,hu0,k0,m0⟩:=c8j segs 0 hLl
   rw [hu0,qA]
   refine Tot.loop (I:=fun s:Laws×(List aQ)×(List Span)×(List Span)×Int=>s.1=L' /\ s.2.1=f' /\ s.2.2.1=c /\ 1 <= s.2.2.2.2 /\ s.2.2.2.2 <= 6 /\ Nrm s.2.2.2.1 /\ ∀x,InS s.2.2.2.1 x↔(∃g∈segs,g.State<s.2.2.2.2 /\ g.Span.From <= x /\ x<g.Span.To)) (μ:=fun s=>(6-s.2.2.2.2).toNat) ⟨rfl,rfl,rfl,Int.le_refl _,by show (1:Int) <= 6;omega,k0,fun x=> ?_⟩ (by show (6-1:Int).toNat<_;omega) ?_
   ·show InS u0 x↔_
    rw [m0]
    constructor
    ·rintro ⟨⟨g,hg,hb,h⟩,_⟩
     simp only [d7m,qB,beq_iff_eq] at hb
     exact ⟨g,hg,by show g.State<1;omega,h⟩
    ·rintro ⟨g,hg,hb,h⟩
     have hb:g.State<1:=hb
     have hgg:=hLg g hg
     refine ⟨⟨g,hg,?_,h⟩,by omega⟩
     simp only [d7m,qB,beq_iff_eq,decide_eq_true_eq]
     omega
   rintro r2 ⟨L2,f2,c',u,i⟩ ⟨e1,e2,e3,k1,k2,k3,k4⟩ ih2
   dsimp only at e1 e2 e3 k1 k2 k3 k4
   subst e1 e2 e3
   unfold a3t
   dsimp only
   refine Tot.ite (fun hi6=> ?_) fun hi6=> ?_
   ·simp at hi6
    rw [hL,qA]
    obtain ⟨ui,hui,ki,mi⟩:=c8j segs i hLl
    rw [hui,qA]
    obtain ⟨w,hw,kw,mw⟩:=d6b u ui (by have:=b7b k3;omega) (by have:=b7b ki;omega)
    rw [hw,qA,a6l (by omega) (by omega)]
    refine ih2 _ ⟨rfl,rfl,rfl,by show 1 <= i+1;omega,by show i+1 <= 6;omega,kw,fun x=> ?_⟩ (by show (6-(i+1)).toNat<(6-i).toNat;omega)
    show InS w x↔_
    rw [mw,k4,mi]
    constructor
    ·rintro ⟨⟨g,hg,hb,h⟩ | ⟨⟨g,hg,hb,h⟩,_⟩,_⟩
     ·exact ⟨g,hg,by show g.State<i+1;omega,h⟩
     ·simp only [d7m,qB,beq_iff_eq] at hb
      exact ⟨g,hg,by show g.State<i+1;omega,h⟩
    ·rintro ⟨g,hg,hb,h⟩
     have hb:g.State<i+1:=hb
     have hgg:=hLg g hg
     refine ⟨?_,by omega⟩
     by_cases e:g.State=i
     ·refine .inr ⟨⟨g,hg,?_,h⟩,by omega⟩
      simp only [d7m,qB,beq_iff_eq,decide_eq_true_eq]
      exact ⟨e,hgg.2.1⟩
     ·exact .inl ⟨g,hg,by omega,h⟩
   ·simp at hi6
    have hi6:i=6:=by omega
    subst hi6
    obtain ⟨w,hw,kw,mw⟩:=d5w c' u (by have:=b7b n1;omega) (by have:=b7b k3;omega)
    rw [hw,qA,e3j kw,qA]
    refine Tot.some ?_
    show (tt==((a2k w).length:Int))=true
    rw [beq_iff_eq,g3]
    have hp2:(a2k w).Perm ((a2k c').filter (lt 6)):=by
     refine (List.perm_ext_iff_of_nodup (b7m kw) ((b7m n1).sublist List.filter_sublist)).2 fun x=> ?_
     rw [b41,mw,List.mem_filter,b41,k4]
     constructor
     ·rintro ⟨⟨a,g,hg,_,b⟩,r⟩
      refine ⟨a,?_⟩
      obtain ⟨_,q1,q2⟩:=d3w hG hT (d:=x) (by omega) (by omega)
      have hx:=q1.2 ((hLd x).1 ⟨g,hg,b⟩)
      simp only [lt,qB,bne_iff_ne,ne_eq,decide_eq_true_eq]
      exact ⟨hx,by have:=q2 hx;omega⟩
     ·rintro ⟨a,b⟩
      have r:=c6c n1 a
      obtain ⟨_,q1,q2⟩:=d3w hG hT (d:=x) (by omega) (by omega)
      simp only [lt,qB,bne_iff_ne,ne_eq,decide_eq_true_eq] at b
      obtain ⟨g,hg,hh⟩:=(hLd x).2 (q1.1 b.1)
      exact ⟨⟨a,g,hg,by have:=(hLg g hg).1;omega,hh⟩,r⟩
    rw [hp2.length_eq,List.countP_eq_length_filter]
 exact ho
theorem b3z (l n:List Int) (z:List pensionhand_Fact) (m:Int) (hl:l.length <= 9223372036854775807) (hn:n.length <= 9223372036854775807) (hz:z.length <= 9223372036854775807):a1k l n z m=some true:=by
 unfold a1k
 obtain ⟨L,e1,hT⟩:=f1b hl
 obtain ⟨v,e2,hv,hnp⟩:=e2y hn
 obtain ⟨k,e3,hk⟩:=e20 z
 rw [e1,qA,e2,qA,e3,qA,a0e (by omega),qA,e0b _ (by rw [qL];omega),qA,f4z _ _ (by have:=(d1f (v++k)).2.2;rw [qL] at this;omega),qA]
 obtain ⟨mo,e4,a,b,h1,h2,h3,h4,h5,h6,h7,h8⟩:=e25 m
 rw [e4,qA,h2,qA,e4a,qA]
 simp only [Bool.not_true,qM,if_false,qA]
 exact f3d (f0y hv hnp hk) hT mo a b h1 h3 h4 h5 h6 h7 h8
end Go.PL
