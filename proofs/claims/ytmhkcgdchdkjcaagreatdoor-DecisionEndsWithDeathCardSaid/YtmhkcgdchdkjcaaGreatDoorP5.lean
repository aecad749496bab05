/- Texts of the proof, joined. -/
import Derived.Test.YtmhkcgdchdkjcaaGreatDoorP4
import Derived.KernelRfl
set_option linter.unusedVariables false
set_option linter.unusedSimpArgs false
set_option maxRecDepth 100000
namespace Go.PL
open Go Go.SX
theorem e0n {A T:List Claim} {x y:Claim}:a8b (a8b (A++y::x::T) ((A.length:Int)+1) y) (A.length:Int) x=A++x::y::T:=by
 have e1:((A.length:Int)+1).toNat=A.length+1:=by omega
 unfold a8b
 rw [if_pos (by omega),if_pos (by omega),e1,Int.toNat_natCast]
 rw [List.set_append_right _ _ (by omega),List.set_append_right _ _ (by omega)]
 simp
theorem d40 {A T:List Claim} {x:Claim}:i7 (A++x::T) (A.length:Int)=some x:=by
 rw [b2o];simp
theorem f4z {A T:List Claim} {x y:Claim}:a8b (A++y::x::T) ((A.length:Int)+1) y=A++y::y::T:=by
 have e1:((A.length:Int)+1).toNat=A.length+1:=by omega
 unfold a8b
 rw [if_pos (by omega),e1,List.set_append_right _ _ (by omega)]
 simp
def f2g (cmp:Claim -> Claim -> Option Int) (a1:Int) (r2:((List Claim)×Int) -> Option (List Claim)) (v1:(List Claim)×Int) (r4:((List Claim)×Int) -> Option (List Claim)) (v3:(List Claim)×Int):Option (List Claim):=
 (if (decide (v3.2>a1)) then (i7 v3.1 v3.2).bind fun v5=>(i7 v3.1 v3.2).bind fun v6=>(i7 v3.1 (i64 (v3.2-1))).bind fun v7=>(i7 v3.1 (i64 (v3.2-1))).bind fun v8=>(cmp v6 v8).bind fun v9=>some (decide (v9<0)) else some false).bind fun v10=>
 if v10 then (i7 v3.1 (i64 (v3.2-1))).bind fun v11=>(i7 v3.1 (i64 (v3.2-1))).bind fun v12=>(i7 v3.1 v3.2).bind fun v13=>(i7 v3.1 v3.2).bind fun v14=>(i7 v3.1 v3.2).bind fun v15=>(i7 v3.1 v3.2).bind fun v16=>
  (i7 (a8b v3.1 v3.2 v12) (i64 (v3.2-1))).bind fun v17=>(i7 (a8b v3.1 v3.2 v12) (i64 (v3.2-1))).bind fun v18=>r4 (a8b (a8b v3.1 v3.2 v12) (i64 (v3.2-1)) v14,i64 (v3.2-1))
 else r2 (v3.1,i64 (v1.2+1))
def e2n (cmp:Claim -> Claim -> Option Int) (a2:Int) (a1:Int) (r2:((List Claim)×Int) -> Option (List Claim)) (v1:(List Claim)×Int):Option (List Claim):=
 if (decide (v1.2<a2)) then d8 FU (f2g cmp a1 r2 v1) (v1.1,v1.2) else some v1.1
def g12 (cmp:Claim -> Claim -> Option Int) (a0:List Claim) (a1:Int) (a2:Int):Option (List Claim):=d8 FU (e2n cmp a2 a1) (a0,i64 (a1+1))
theorem d4n:s5=g12 a3t:=rfl
theorem d0a:k8=g12 a2g:=rfl
section
variable {c:Claim -> Claim -> Int} {cmp:Claim -> Claim -> Option Int} {S:Claim -> Prop}
structure Ordered (c:Claim -> Claim -> Int) (S:Claim -> Prop):Prop where
 asymm: ∀x y,S x -> S y -> c x y<0 -> ¬c y x<0
 trans: ∀x y z,S x -> S y -> S z -> ¬c y x<0 -> ¬c z y<0 -> ¬c z x<0
def Le (c:Claim -> Claim -> Int) (x y:Claim):Prop:= ¬c y x<0
theorem c48 (hO:Ordered c S) (hc: ∀x y,S x -> S y -> cmp x y=some (c x y)) (orig:List Claim) (hS: ∀x∈orig,S x) (hlen:orig.length <= 1000) (i:Nat) (rec:List Claim×Int -> Option (List Claim))
  (A:List Claim) (x:Claim) (C:List Claim) (hi:A.length=i) (hp:(A++x::C).Perm orig) (hs:A.Pairwise (Le c)):
  ∃A':List Claim,A'.length=i+1 /\ (A'++C).Perm orig /\ A'.Pairwise (Le c) /\
   d8 FU (f2g cmp 0 rec (A++x::C,(i:Int))) (A++x::C,(i:Int))=rec (A'++C,((i+1:Nat):Int)):=by
 have hil:i<1000:=by have:=hp.length_eq;simp at this;omega
 refine c0l (fun s=> ∃(A1 B:List Claim),s=(A1++x::(B++C),(A1.length:Int)) /\ A1.length+B.length=i /\ (A1++x::(B++C)).Perm orig /\ (A1++B).Pairwise (Le c) /\ ∀b∈B,Le c x b) (fun s=>s.2.toNat)
  (fun o=> ∃A':List Claim,A'.length=i+1 /\ (A'++C).Perm orig /\ A'.Pairwise (Le c) /\ o=rec (A'++C,((i+1:Nat):Int))) ⟨A,[],by simp [hi],by simpa using hi,by simpa using hp,by simpa using hs,by simp⟩ (by show ((i:Int)).toNat<_;omega) ?_
 rintro s rec2 ⟨A1,B,rfl,hl,hp1,hs1,hb⟩
 have hmem: ∀y∈A1++x::(B++C),S y:=fun y hy=>hS y (hp1.subset hy)
 have hSx:S x:=hmem x (by simp)
 have stop: ∀o:Option (List Claim),o=rec (A1++x::(B++C),i64 ((i:Int)+1)) -> (∀a∈A1,Le c a x) ->
   ∃A':List Claim,A'.length=i+1 /\ (A'++C).Perm orig /\ A'.Pairwise (Le c) /\ o=rec (A'++C,((i+1:Nat):Int)):=by
  intro o ho ha
  refine ⟨A1++x::B,by simp;omega,by simpa using hp1,?_,?_⟩
  ·rw [List.pairwise_append] at hs1⊢
   refine ⟨hs1.1,List.pairwise_cons.2 ⟨hb,hs1.2.1⟩,fun a h1 b h2=> ?_⟩
   rcases List.mem_cons.1 h2 with h2 | h2
   ·rw [h2];exact ha a h1
   ·exact hs1.2.2 a h1 b h2
  ·rw [ho,j8 (by omega) (by omega)];simp
 unfold f2g
 rcases List.eq_nil_or_concat A1 with h0 | ⟨A2,y,h0⟩
 ·subst h0
  left
  have:decide ((([]:List Claim).length:Int)>(0:Int))=false:=by simp
  simp only [this,Bool.false_eq_true,if_false,Option.bind_some]
  exact stop _ rfl (by simp)
 ·have h0:A1=A2++[y]:=by simpa using h0
  subst h0
  have e0:(((A2++[y]).length:Nat):Int)=(A2.length:Int)+1:=by simp
  have hd:decide ((((A2++[y]).length:Nat):Int)>(0:Int))=true:=by rw [e0,decide_eq_true_eq];omega
  have hA2:A2.length<1000:=by simp at hl;omega
  have e1:i64 ((((A2++[y]).length:Nat):Int)-1)=(A2.length:Int):=by rw [e0,j8 (by omega) (by omega)];omega
  have eL:A2++[y]++x::(B++C)=A2++y::x::(B++C):=by simp
  have g1:i7 (A2++[y]++x::(B++C)) (((A2++[y]).length:Nat):Int)=some x:=d40
  have g2:i7 (A2++[y]++x::(B++C)) (A2.length:Int)=some y:=by rw [eL];exact d40
  have g3:i7 (a8b (A2++[y]++x::(B++C)) (((A2++[y]).length:Nat):Int) y) (A2.length:Int)=some y:=by rw [eL,e0,f4z];exact d40
  have hSy:S y:=hmem y (by simp)
  simp only [hd,if_true,g1,e1,g2,g3,hc x y hSx hSy,Option.bind_some]
  by_cases hlt:c x y<0
  ·right
   simp only [hlt,decide_true,if_true]
   refine ⟨_,rfl,⟨A2,y::B,?_,by simp at hl ⊢; omega,?_,by simpa using hs1,?_⟩,by simp only [e0,Int.toNat_natCast];omega⟩
   ·rw [eL,e0,e0n];simp
   ·refine List.Perm.trans ?_ hp1
    rw [eL]
    exact List.Perm.append_left A2 (List.Perm.swap y x (B++C))
   ·intro b hbm
    rcases List.mem_cons.1 hbm with hbm | hbm
    ·rw [hbm];exact hO.asymm x y hSx hSy hlt
    ·exact hb b hbm
  ·left
   simp only [hlt,decide_false,Bool.false_eq_true,if_false]
   refine stop _ rfl (fun a ha=> ?_)
   rw [List.mem_append,List.mem_singleton] at ha
   rcases ha with ha | ha
   ·have hay:Le c a y:=by
     rw [List.append_assoc,List.pairwise_append] at hs1
     exact hs1.2.2 a ha y (by simp)
    exact hO.trans a y x (hmem a (by simp [ha])) hSy hSx hay hlt
   ·rw [ha];exact hlt
theorem c2x (hO:Ordered c S) (hc: ∀x y,S x -> S y -> cmp x y=some (c x y)) (orig:List Claim) (hS: ∀x∈orig,S x) (hlen:orig.length <= 1000):
  ∃r,g12 cmp orig 0 (orig.length:Int)=some r /\ r.Perm orig /\ r.Pairwise (Le c):=by
 unfold g12
 by_cases hne:orig=[]
 ·subst hne
  refine ⟨[],?_,List.Perm.refl _,List.Pairwise.nil⟩
  have: ∀k,0<k -> d8 k (e2n cmp (([]:List Claim).length:Int) 0) ([],i64 (0+1))=some []:=by
   intro k hk
   cases k with
   | zero=>exact absurd hk (Nat.lt_irrefl 0)
   | succ k=>show e2n _ _ _ _ _=_;unfold e2n;dsimp only;rw [if_neg (by rw [j8 (by omega) (by omega)];simp)]
  exact this FU (by unfold FU;omega)
 have hpos:0<orig.length:=List.length_pos_iff.2 hne
 have e1:i64 (0+1)=((1:Nat):Int):=by rw [j8 (by omega) (by omega)];rfl
 rw [e1]
 refine b2v (fun s=> ∃(A C:List Claim),s=(A++C,(A.length:Int)) /\ 1 <= A.length /\ (A++C).Perm orig /\ A.Pairwise (Le c)) (fun s=>orig.length-s.2.toNat) _ ?_ (by show orig.length-_<_;omega) ?_
 ·cases orig with
  | nil=>exact absurd rfl hne
  | cons x r=>exact ⟨[x],r,rfl,by simp,List.Perm.refl _,List.pairwise_singleton _ _⟩
 ·rintro s rec ⟨A,C,rfl,hA,hp,hs⟩
  unfold e2n
  dsimp only
  have hle:=hp.length_eq
  rw [List.length_append] at hle
  cases C with
  | nil=>
    left
    rw [if_neg (by simp at hle ⊢; omega)]
    exact ⟨A++[],rfl,hp,by simpa using hs⟩
  | cons x C=>
    right
    rw [List.length_cons] at hle
    rw [if_pos (by simp;omega)]
    obtain ⟨A',h1,h2,h3,h4⟩:=c48 hO hc orig hS hlen A.length rec A x C rfl hp hs
    refine ⟨_,h4,⟨A',C,by rw [h1],by omega,h2,h3⟩,by simp only [Int.toNat_natCast];omega⟩
end
def sgn (p q:Int):Int:=if p<q then-1 else if q<p then 1 else 0
theorem c4k (x y:Int):m6 x y=some (sgn x y):=by
 unfold m6 a68 sgn
 simp only [bne_self_eq_false,Option.bind_some,Bool.false_eq_true,if_false,decide_eq_true_eq,gt_iff_lt]
 split
 ·rfl
 ·split<;>rfl
def orI:List Int -> Int
 | []=>0
 | x::r=>if x=0 then orI r else x
theorem e1u (p q:Int):sgn p q<0↔p<q:=by
 unfold sgn;split
 ·omega
 ·split<;>omega
theorem d5q (p q:Int):sgn p q=0↔p=q:=by
 unfold sgn;split
 ·omega
 ·split<;>omega
theorem d6j (x:Int) (r:List Int):orI (x::r)<0↔x<0 \/ x=0 /\ orI r<0:=by
 simp only [orI];split<;>omega
def c4w (a b:Claim):Int:=orI [sgn a.Issuer b.Issuer,sgn a.Number b.Number,sgn a.Day b.Day,sgn a.Person b.Person,sgn a.Benefit b.Benefit,sgn a.Ref b.Ref]
theorem b4m (a b:Claim):c4w a b<0↔a.Issuer<b.Issuer \/ a.Issuer=b.Issuer /\ (a.Number<b.Number \/ a.Number=b.Number /\ (a.Day<b.Day \/ a.Day=b.Day /\ (a.Person<b.Person \/ a.Person=b.Person /\ (a.Benefit<b.Benefit \/ a.Benefit=b.Benefit /\ a.Ref<b.Ref)))):=by
 unfold c4w
 simp only [d6j,e1u,d5q]
 simp [orI]
theorem d3h {a b:Claim} (h1:a.Issuer=b.Issuer) (h2:a.Number=b.Number) (h3:a.Person=b.Person) (h4:a.Benefit=b.Benefit) (h5:a.Ref=b.Ref) (h6:a.Day=b.Day):a=b:=by
 cases a;cases b;simp_all
theorem e1m {a b:Claim} (h1: ¬c4w a b<0) (h2: ¬c4w b a<0):a=b:=by
 rw [b4m] at h1 h2
 exact d3h (by omega) (by omega) (by omega) (by omega) (by omega) (by omega)
theorem b9q (a:Claim): ¬c4w a a<0:=by rw [b4m];omega
theorem c7g {a b c:Claim} (h1:c4w a b<0) (h2:c4w b c<0):c4w a c<0:=by
 rw [b4m] at *; omega
theorem d2f (S:Claim -> Prop):Ordered c4w S:=by
 constructor
 ·intro x y _ _;rw [b4m,b4m];omega
 ·intro x y z _ _ _;rw [b4m,b4m,b4m];omega
theorem f7q (l:List Int) (hl:l.length <= 1000):a4a l=some (orI l):=by
 unfold a4a
 obtain ⟨r,h1,h2⟩:=b2v (f:=a4x l) (fun s=> ∃A B,l=A++B /\ s=(A.length:Int) /\ orI l=orI B) (fun s=>l.length-s.toNat) (fun r=>r=orI l) (s:=0) ⟨[],l,rfl,rfl,rfl⟩ (by show l.length-_<_;omega) (by
  rintro s rec ⟨A,B,hAB,rfl,ho⟩
  unfold a4x
  have hlen:l.length=A.length+B.length:=by rw [hAB];simp
  cases B with
  | nil=>
    left
    rw [if_neg (by simp at hlen ⊢; omega)]
    exact ⟨_,rfl,by rw [ho];rfl⟩
  | cons y B=>
    rw [List.length_cons] at hlen
    have hg:i7 l (A.length:Int)=some y:=by rw [hAB,b2o];simp
    rw [if_pos (by simp;omega),hg,Option.bind_some]
    by_cases hy:y=0
    ·right
     rw [if_neg (by simp [hy]),j8 (n:=(A.length:Int)+1) (by omega) (by omega)]
     exact ⟨((A++[y]).length:Int),by simp,⟨A++[y],B,by rw [hAB];simp,rfl,by rw [ho,hy];rfl⟩,by simp;omega⟩
    ·left
     rw [if_pos (by simpa using hy)]
     exact ⟨_,rfl,by rw [ho];simp [orI,hy]⟩)
 rw [h1,h2]
theorem d4z (a b:Claim):a3t a b=some (c4w a b):=by
 unfold a3t
 simp only [c4k,Option.bind_some]
 rw [f7q _ (by simp)];rfl
def eqF (a b:Claim):Bool:=(a.Issuer==b.Issuer)&&((a.Number==b.Number)&&((a.Person==b.Person)&&((a.Benefit==b.Benefit)&&((a.Ref==b.Ref)&&((a.Day==b.Day)&&(true))))))
theorem e0j (a b:Claim):eqF a b=true↔a=b:=by
 unfold eqF
 simp only [Bool.and_eq_true,beq_iff_eq,Bool.and_true]
 constructor
 ·rintro ⟨h1,h2,h3,h4,h5,h6⟩;exact d3h h1 h2 h3 h4 h5 h6
 ·rintro rfl;simp
instance:DecidableEq Claim:=fun a b=>decidable_of_iff _ (e0j a b)
theorem e4o (a b:Claim):((a.Issuer==b.Issuer)&&((a.Number==b.Number)&&((a.Person==b.Person)&&((a.Benefit==b.Benefit)&&((a.Ref==b.Ref)&&((a.Day==b.Day)&&(true)))))))=decide (a=b):=by
 rw [Bool.eq_iff_iff,decide_eq_true_eq];exact e0j a b
def ddF (p:Claim):List Claim -> List Claim
 | []=>[]
 | y::r=>if y=p then ddF p r else y::ddF y r
def dd:List Claim -> List Claim
 | []=>[]
 | x::r=>x::ddF x r
theorem c96: ∀(A:List Claim) (p y z:Claim),ddF p (A++[y,z])=if z=y then ddF p (A++[y]) else ddF p (A++[y])++[z]
 | [],p,y,z=>by
   simp only [List.nil_append,ddF]
   by_cases h1:y=p<;>by_cases h2:z=y<;>simp_all
 | x::A,p,y,z=>by
   simp only [List.cons_append,ddF]
   split
   ·exact c96 A p y z
   ·rw [c96 A x y z];split<;>simp
theorem f4u (A:List Claim) (y z:Claim):dd (A++[y,z])=if z=y then dd (A++[y]) else dd (A++[y])++[z]:=by
 cases A with
 | nil=>simp only [List.nil_append,dd,ddF];split<;>simp
 | cons x A=>simp only [List.cons_append,dd];rw [c96];split<;>simp
theorem e10 {l:List Claim} {m:Nat} (h0:0<m) {y z:Claim} (hy:l[m-1]? =some y) (hz:l[m]? =some z):dd (l.take (m+1))=if z=y then dd (l.take m) else dd (l.take m)++[z]:=by
 obtain ⟨hm,hz'⟩:=List.getElem?_eq_some_iff.1 hz
 obtain ⟨hm1,hy'⟩:=List.getElem?_eq_some_iff.1 hy
 have e1:l.take m=l.take (m-1)++[y]:=by
  have:=List.take_succ_eq_append_getElem (l:=l) (i:=m-1) hm1
  rw [show m-1+1=m by omega,hy'] at this
  exact this
 have e2:l.take (m+1)=l.take (m-1)++[y,z]:=by
  rw [List.take_succ_eq_append_getElem hm,hz',e1];simp
 rw [e2,e1,f4u]
theorem d5g: ∀(r:List Claim) (p x:Claim),x∈p::ddF p r↔x∈p::r
 | [],p,x=>Iff.rfl
 | y::r,p,x=>by
   simp only [ddF]
   split
   ·rename_i h
    rw [d5g r p x,h];simp
   ·have:=d5g r y x
    simp only [List.mem_cons] at this⊢
    constructor
    ·rintro (h | h)
     ·exact .inl h
     ·exact .inr (this.1 h)
    ·rintro (h | h)
     ·exact .inl h
     ·exact .inr (this.2 h)
theorem f7l (l:List Claim) (x:Claim):x∈dd l↔x∈l:=by
 cases l with
 | nil=>exact Iff.rfl
 | cons y r=>exact d5g r y x
theorem c2t: ∀(r:List Claim) (p:Claim),(p::r).Pairwise (Le c4w) -> (p::ddF p r).Pairwise (fun a b=>c4w a b<0)
 | [],p,_=>List.pairwise_singleton _ _
 | y::r,p,h=>by
   obtain ⟨h1,h2⟩:=List.pairwise_cons.1 h
   simp only [ddF]
   split
   ·rename_i hy
    subst hy
    exact c2t r y h2
   ·rename_i hy
    have h3:=c2t r y h2
    have hpy:c4w p y<0:=by
     by_cases h4:c4w p y<0
     ·exact h4
     ·exact absurd (e1m h4 (h1 y (by simp))).symm hy
    refine List.pairwise_cons.2 ⟨fun b hb=> ?_,h3⟩
    rcases List.mem_cons.1 hb with hb | hb
    ·rw [hb];exact hpy
    ·exact c7g hpy ((List.pairwise_cons.1 h3).1 b hb)
theorem e0m {l:List Claim} (h:l.Pairwise (Le c4w)):(dd l).Pairwise (fun a b=>c4w a b<0):=by
 cases l with
 | nil=>exact List.Pairwise.nil
 | cons y r=>exact c2t r y h
theorem c8i (l:List Claim) (hl:l.length <= 1000) (k:Nat) (hk1:1 <= k) (h:k<l.length) (htk:dd (l.take (k+1))=l.take k) (m:Nat) (hsl:m=l.length-k):
  ∃r,d8 FU a0g (l,(k:Int),1,((k:Int),m))=some r /\ r=dd l:=by
 refine b2v (f:=a0g) (fun s=> ∃(k3 k2:Nat) (cur:List Claim),s=(cur,(k3:Int),(k2:Int),((k:Int),m)) /\ 1 <= k2 /\ k+k2 <= l.length /\ k <= k3 /\ k3+1 <= k+k2 /\ cur.length=l.length /\ cur.take k3=dd (l.take (k+k2)) /\ ∀j,k+k2-1 <= j -> cur[j]? =l[j]?)
  (fun s=>l.length-s.2.2.1.toNat) _ ⟨k,1,l,rfl,by omega,by omega,by omega,by omega,rfl,htk.symm,fun _ _=>rfl⟩ (by show l.length-_<_;omega) ?_
 rintro s rec2 ⟨k3,k2,cur,rfl,a1,a2,a3,a4,hcl,hct,hcj⟩
 unfold a0g
 dsimp only
 by_cases hlt:k+k2<l.length
 ·right
  have hz2:l[k+k2]? =some l[k+k2]:=List.getElem?_eq_getElem hlt
  have hy2:l[k+k2-1]? =some l[k+k2-1]:=List.getElem?_eq_getElem (by omega)
  have w1:i7 cur ((k:Int)+(k2:Int))=some l[k+k2]:=by rw [<- Int.natCast_add,b2o,hcj _ (by omega),hz2]
  have v1:c3m cur (k:Int) (k2:Int)=some l[k+k2]:=by unfold c3m;rw [if_pos (by omega),w1]
  have e2:i64 ((k2:Int)-1)=((k2-1:Nat):Int):=by rw [j8 (by omega) (by omega)];omega
  have w2:i7 cur ((k:Int)+((k2-1:Nat):Int))=some l[k+k2-1]:=by rw [<- Int.natCast_add,b2o,show k+(k2-1)=k+k2-1 by omega,hcj _ (Nat.le_refl _),hy2]
  have v2:c3m cur (k:Int) ((k2-1:Nat):Int)=some l[k+k2-1]:=by unfold c3m;rw [if_pos (by omega),w2]
  have v3:i7 cur (k3:Int)=some (cur[k3]'(by omega)):=by rw [b2o];exact List.getElem?_eq_getElem _
  have ht2:=e10 (by omega) hy2 hz2
  have e3:i64 ((k2:Int)+1)=((k2+1:Nat):Int):=by rw [j8 (by omega) (by omega)];simp
  have e4:i64 ((k3:Int)+1)=((k3+1:Nat):Int):=by rw [j8 (by omega) (by omega)];simp
  have hd0:decide ((k2:Int)<(m:Int))=true:=decide_eq_true (by omega)
  simp only [hd0,if_true,v1,w1,e2,v2,w2,Option.bind_some,e4o,v3,e3,e4]
  by_cases hq:l[k+k2]=l[k+k2-1]
  ·rw [if_neg (by simpa using hq)]
   rw [if_pos hq] at ht2
   exact ⟨_,rfl,⟨k3,k2+1,cur,rfl,by omega,by omega,a3,by omega,hcl,by rw [hct,<- ht2];rfl,fun j hj=>hcj j (by omega)⟩,by simp only [Int.toNat_natCast];omega⟩
  ·rw [if_pos (by simpa using hq)]
   rw [if_neg hq] at ht2
   refine ⟨_,rfl,⟨k3+1,k2+1,a8b cur (k3:Int) l[k+k2],rfl,by omega,by omega,by omega,by omega,by rw [c5x];exact hcl,?_,fun j hj=> ?_⟩,by simp only [Int.toNat_natCast];omega⟩
   ·have:a8b cur (k3:Int) l[k+k2]=cur.set k3 l[k+k2]:=by unfold a8b;rw [if_pos (by omega),Int.toNat_natCast]
    rw [this,List.take_succ_eq_append_getElem (by rw [List.length_set];omega)]
    have h5:(cur.set k3 l[k+k2]).take k3=cur.take k3:=by rw [List.take_set,List.set_eq_of_length_le (by rw [List.length_take];omega)]
    rw [h5,hct,show k+(k2+1)=k+k2+1 by omega,ht2]
    simp
   ·have:a8b cur (k3:Int) l[k+k2]=cur.set k3 l[k+k2]:=by unfold a8b;rw [if_pos (by omega),Int.toNat_natCast]
    rw [this,List.getElem?_set_ne (by omega)]
    exact hcj j (by omega)
 ·left
  have hd0:decide ((k2:Int)<(m:Int))=false:=decide_eq_false (by omega)
  simp only [hd0,Bool.false_eq_true,if_false]
  have hcc:(b1o (⟨0,0,0,0,0,0⟩:Claim) cur (k3:Int)).length=cur.length:=by unfold b1o;simp;omega
  rw [b5r (by omega) (by omega) (by omega),Option.bind_some]
  unfold f6i
  rw [if_pos (by simp;omega),Option.bind_some,b5r (by omega) (by omega) (by rw [hcc];omega),Option.bind_some]
  refine ⟨_,rfl,?_⟩
  have hkk:k+k2=l.length:=by omega
  rw [hkk,List.take_length] at hct
  rw [<- hct]
  unfold b1o
  simp only [Int.toNat_natCast,Int.toNat_zero,List.drop_zero,Nat.sub_zero]
  rw [List.take_append_of_le_length (by rw [List.length_take];omega),List.take_take,Nat.min_self]
theorem d22 (l:List Claim) (hl:l.length <= 1000) (rec:List Claim×Int -> Option (List Claim)) (k:Nat) (hk1:1 <= k) (h:k<l.length):
  y3 rec (l,(k:Int))=if l[k]=l[k-1] then d8 FU a0g (l,(k:Int),1,((k:Int),((l.drop k).take (l.length-k)).length)) else rec (l,((k+1:Nat):Int)):=by
 have hz:i7 l (k:Int)=some l[k]:=by rw [b2o];exact List.getElem?_eq_getElem h
 have e1:i64 ((k:Int)-1)=((k-1:Nat):Int):=by rw [j8 (by omega) (by omega)];omega
 have hy:i7 l (i64 ((k:Int)-1))=some l[k-1]:=by rw [e1,b2o];exact List.getElem?_eq_getElem (by omega)
 have hs:a2t l (k:Int) (l.length:Int)=some ((l.drop k).take (l.length-k)):=by rw [b5r (by omega) (by omega) (by omega)];simp
 have e2:i64 ((k:Int)+1)=((k+1:Nat):Int):=by rw [j8 (by omega) (by omega)];simp
 have hd0:decide ((k:Int)<(l.length:Int))=true:=decide_eq_true (by omega)
 unfold y3
 generalize d8 FU=LP
 simp only [hd0,if_true,hz,hy,hs,e2,Option.bind_some,e4o,decide_eq_true_eq]
theorem d5h (l:List Claim) (rec:List Claim×Int -> Option (List Claim)):y3 rec (l,(l.length:Int))=some l:=by
 have hd0:decide ((l.length:Int)<(l.length:Int))=false:=decide_eq_false (by omega)
 unfold y3
 generalize d8 FU=LP
 simp only [hd0,Bool.false_eq_true,if_false]
theorem d9n (l:List Claim) (hl:l.length <= 1000):a2a l=some (dd l):=by
 unfold a2a
 by_cases h2:l.length<2
 ·rw [if_pos (by simp;omega)]
  cases l with
  | nil=>rfl
  | cons x r=>
    cases r with
    | nil=>rfl
    | cons y r=>exact absurd h2 (by simp)
 ·rw [if_neg (by simp;omega)]
  obtain ⟨r,h1,h3⟩:=b2v (f:=y3) (fun s=> ∃k:Nat,s=(l,(k:Int)) /\ 1 <= k /\ k <= l.length /\ dd (l.take k)=l.take k) (fun s=>l.length-s.2.toNat) (fun r=>r=dd l) (s:=(l,1)) ⟨1,rfl,by omega,by omega,by
    cases l with
    | nil=>rfl
    | cons x r=>rfl⟩ (Nat.lt_of_le_of_lt (Nat.sub_le _ _) (Nat.lt_of_le_of_lt hl (by decide))) (by
   rintro s rec ⟨k,rfl,hk1,hk,hd⟩
   by_cases h:k<l.length
   ·have htk:=e10 (l:=l) (m:=k) (by omega) (List.getElem?_eq_getElem (by omega)) (List.getElem?_eq_getElem h)
    rw [d22 l hl rec k hk1 h]
    by_cases heq:l[k]=l[k-1]
    ·left
     rw [if_pos heq]
     rw [if_pos heq,hd] at htk
     exact c8i l hl k hk1 h htk _ (by rw [List.length_take,List.length_drop];omega)
    ·right
     rw [if_neg heq]
     rw [if_neg heq,hd] at htk
     refine ⟨_,rfl,⟨k+1,rfl,by omega,h,?_⟩,by simp only [Int.toNat_natCast];omega⟩
     rw [htk,List.take_succ_eq_append_getElem h]
   ·left
    have:k=l.length:=by omega
    subst this
    rw [d5h]
    rw [List.take_length] at hd
    exact ⟨l,rfl,hd.symm⟩)
  rw [h1,h3]
def vB (c:Claim):Bool:=(a4d c).getD false
theorem g1z (c:Claim):a4d c=some (vB c):=by
 obtain ⟨r,_,h⟩:=d3o c
 unfold vB;rw [h];rfl
theorem f5v {c:Claim} (h:b4d c):vB c=true:=by unfold vB;rw [d80 h];rfl
def d6f:Nat -> Bool
 | 0=>true
 | n+1=>(c46 (u64 (n:Int))).isSome&&d6f n
theorem e0l:d6f 13=true:=by kernel_rfl
theorem d29: ∀(k n:Nat),d6f k=true -> n<k -> (c46 (u64 (n:Int))).isSome=true
 | 0,n,_,h=>by omega
 | k+1,n,h,hn=>by
   simp only [d6f,Bool.and_eq_true] at h
   by_cases e:n=k
   ·rw [e];exact h.1
   ·exact d29 k n h.2 (by omega)
theorem d2m (l:List Claim) (hl:l.length <= 12) (r:List Claim) (h1:g12 a3t l 0 (l.length:Int)=some r):n8 l=some r:=by
 rw [<- d4n] at h1
 obtain ⟨n,hn⟩:=Option.isSome_iff_exists.1 (d29 13 l.length e0l (by omega))
 unfold n8 a0t
 rw [hn,Option.bind_some]
 have key: ∀k,0<k -> ((c7 k).f_slices_pdqsortCmpFunc_of_api_Claim l 0 (l.length:Int) n)=some r:=by
  intro k hk
  cases k with
  | zero=>exact absurd hk (Nat.lt_irrefl 0)
  | succ k=>
    show n9 _ _ _ _ _=_
    unfold n9
    generalize c7 k=R
    have key2: ∀k,0<k -> d8 k (n6 R) (l,0,(l.length:Int),n,true,true)=some r:=by
     intro k hk
     cases k with
     | zero=>exact absurd hk (Nat.lt_irrefl 0)
     | succ k=>
       show n6 _ _ _=_
       unfold n6
       dsimp only
       rw [j8 (by omega) (by omega),if_pos (by simp;omega),h1,Option.bind_some]
    exact key2 FU (by unfold FU;omega)
 rw [key FU (by unfold FU;omega),Option.bind_some]
theorem d4g (l:List Claim) (hl:l.length <= 12): ∃r,n8 l=some r /\ r.Perm l /\ r.Pairwise (Le c4w):=by
 obtain ⟨r,h1,h2,h3⟩:=c2x (c:=c4w) (S:=fun _=>True) (cmp:=a3t) (d2f _) (fun x y _ _=>d4z x y) l (fun _ _=>trivial) (by omega)
 exact ⟨r,d2m l hl r h1,h2,h3⟩
theorem f5u: ∀(r:List Claim) (p:Claim),(ddF p r).length <= r.length:=by
 intro r
 induction r with
 | nil=>intro p;exact Nat.le_refl _
 | cons y r ih=>
   intro p;simp only [ddF];split
   ·exact Nat.le_succ_of_le (ih p)
   ·simp only [List.length_cons];exact Nat.succ_le_succ (ih y)
theorem f7g (s:List Claim):(dd s).length <= s.length:=by
 cases s with
 | nil=>simp [dd]
 | cons x r=>have:=f5u r x;simp only [dd,List.length_cons] at *; omega
theorem e1t (l:List Claim) (hl:l.length <= 12) (hok: ∀c∈l,b4d c): ∃q,a7b l=some q /\ q.Pairwise (fun a b=>c4w a b<0) /\ (∀c,c∈q↔c∈l) /\ q.length <= 12:=by
 obtain ⟨r,h1,h2,h3⟩:=d4g l hl
 have hr:r.length=l.length:=h2.length_eq
 refine ⟨dd r,?_,e0m h3,fun c=>by rw [f7l,h2.mem_iff],by have:=f7g r;omega⟩
 unfold a7b
 refine a9s (f:=a6t l) l (fun s i=>(s,i)) (fun s i=>s=l.take i) (fun o=>o=some (dd r)) (by omega) ?_ ?_ [] (by simp)
 ·rintro rec s i y hi hy rfl
  right
  unfold a6t
  rw [if_pos (c5w hi)]
  simp only [b50 hy,Option.bind_some,g1z,f5v (hok y (List.mem_of_getElem? hy)),if_true]
  rw [a85 (by simp only [List.length_cons,List.length_nil,List.length_take];omega),Option.bind_some,b40 (by omega)]
  exact ⟨_,rfl,(b7e hy).symm⟩
 ·rintro rec s rfl
  unfold a6t
  dsimp only
  rw [if_neg (b9s _),List.take_length,h1,Option.bind_some,d9n r (by omega),Option.bind_some]
end Go.PL
namespace Go.PL
open Go Go.SX
def st (m:Int) (c:Claim):Bool:=match a1z c with | some (s,_)=>decide (s <= m) | none=>false
theorem f6w {m:Int} {c:Claim} (h:b4d c):a66 c m=some (st m c):=by
 obtain ⟨s,h1,_⟩:=d6w (c:=c) (by have:=h.2;omega)
 unfold a66 st
 rw [h1];rfl
def e2y (P:Claim -> Prop) (l:List Claim) (c:Claim):Prop:=c∈l /\ P c /\ ∀d∈l,P d -> ¬c4w d c<0
theorem c7k {P:Claim -> Prop} {A:List Claim} {y c:Claim} (hA: ∀d∈A,c4w d y<0):e2y P (A++[y]) c↔e2y P A c \/ (c=y /\ P y /\ ∀d∈A,¬P d):=by
 unfold e2y
 constructor
 ·rintro ⟨h1,h2,h3⟩
  rcases List.mem_append.1 h1 with h1 | h1
  ·exact .inl ⟨h1,h2,fun d hd=>h3 d (by simp [hd])⟩
  ·have:c=y:=by simpa using h1
   subst this
   exact .inr ⟨rfl,h2,fun d hd hP=>h3 d (by simp [hd]) hP (hA d hd)⟩
 ·rintro (⟨h1,h2,h3⟩ | ⟨rfl,h2,h3⟩)
  ·refine ⟨by simp [h1],h2,fun d hd hP=> ?_⟩
   rcases List.mem_append.1 hd with hd | hd
   ·exact h3 d hd hP
   ·have:d=y:=by simpa using hd
    subst this
    intro h4
    exact b9q c (c7g (hA c h1) h4)
  ·refine ⟨by simp,h2,fun d hd hP=> ?_⟩
   rcases List.mem_append.1 hd with hd | hd
   ·exact absurd hP (h3 d hd)
   ·have:d=c:=by simpa using hd
    subst this
    exact b9q d
def Sel (l:List Claim) (p m:Int) (c:Claim):Prop:=
 (c.Benefit=4 /\ c.Person=p /\ e2y (fun d=>d.Benefit=4 /\ d.Ref=c.Ref /\ st m d=true) l c) \/ (c.Benefit≠4 /\ st m c=true /\ e2y (fun d=>d.Benefit≠4 /\ d.Person=p /\ d.Benefit=c.Benefit) l c)
theorem Sel.mem {l:List Claim} {p m:Int} {c:Claim} (h:Sel l p m c):c∈l:=by
 rcases h with ⟨_,_,h⟩ | ⟨_,_,h⟩<;>exact h.1
def f4a (a b:Claim):Int:=orI [sgn a.Benefit b.Benefit,sgn a.Ref b.Ref]
theorem c1w (a b:Claim):f4a a b<0↔a.Benefit<b.Benefit \/ a.Benefit=b.Benefit /\ a.Ref<b.Ref:=by
 unfold f4a
 simp only [d6j,e1u,d5q]
 simp [orI]
theorem d2t (S:Claim -> Prop):Ordered f4a S:=by
 constructor
 ·intro x y _ _;rw [c1w,c1w];omega
 ·intro x y z _ _ _;rw [c1w,c1w,c1w];omega
theorem c6o (a b:Claim):a2g a b=some (f4a a b):=by
 unfold a2g
 simp only [c4k,Option.bind_some]
 rw [f7q _ (by simp)];rfl
theorem e2j (l:List Claim) (hl:l.length <= 19): ∃r,m7 l=some r /\ r.Perm l /\ r.Pairwise (Le f4a):=by
 obtain ⟨r,h1,h2,h3⟩:=c2x (c:=f4a) (S:=fun _=>True) (cmp:=a2g) (d2t _) (fun x y _ _=>c6o x y) l (fun _ _=>trivial) (by omega)
 refine ⟨r,?_,h2,h3⟩
 have hrl:r.length=l.length:=h2.length_eq
 rw [<- d0a] at h1
 unfold m7 u5
 have key: ∀k,0<k -> d8 k (m4 (l.length:Int)) (l,0,20)=some r:=by
  intro k hk
  cases k with
  | zero=>exact absurd hk (Nat.lt_irrefl 0)
  | succ k=>
    show m4 _ _ _=_
    unfold m4
    dsimp only
    rw [if_neg (by simp;omega),h1,Option.bind_some]
    have key2: ∀k,0<k -> d8 k (m5 (l.length:Int)) (r,20)=some r:=by
     intro k hk
     cases k with
     | zero=>exact absurd hk (Nat.lt_irrefl 0)
     | succ k=>
       show m5 _ _ _=_
       unfold m5
       rw [if_neg (by simp;omega)]
    exact key2 FU (by unfold FU;omega)
 rw [key FU (by unfold FU;omega),Option.bind_some]
theorem e93 {v:List Bool} {i k:Nat} (hi:i<v.length):(a8b v (i:Int) true)[k]? =some true↔v[k]? =some true \/ k=i:=by
 unfold a8b
 rw [if_pos (by omega),Int.toNat_natCast]
 by_cases h:k=i
 ·subst h;simp [hi]
 ·rw [List.getElem?_set_ne (by omega)];simp [h]
theorem e0p {n:Nat} (v:Ar n Bool) {i k:Nat} (hi:i<n):(Ar.set v (i:Int) true).l[k]? =some true↔v.l[k]? =some true \/ k=i:=e93 (by rw [v.h];exact hi)
theorem d3c (q:List Claim) (hq:q.Pairwise (fun a b=>c4w a b<0)) (hl:q.length <= 12) (hok: ∀c∈q,b4d c) (p m:Int):
  ∃r,a0d q p m=some r /\ r.Nodup /\ (∀c,c∈r↔Sel q p m c) /\ r.Pairwise (Le f4a):=by
 have hnd:q.Nodup:=hq.imp fun {a b} h e=>by subst e;exact b9q a h
 unfold a0d
 refine b2v (fun s=> ∃x:Nat,s.2.2.2=(x:Int) /\ x <= q.length /\ s.1.Sublist (q.take x) /\ (∀c,c∈s.1↔Sel (q.take x) p m c) /\
   (∀k:Nat,s.2.2.1.l[k]? =some true↔ ∃d∈q.take x,d.Benefit=4 /\ d.Ref=(k:Int) /\ st m d=true) /\ (∀k:Nat,s.2.1.l[k]? =some true↔ ∃d∈q.take x,d.Benefit≠4 /\ d.Person=p /\ d.Benefit=(k:Int))) (fun s=>q.length-s.2.2.2.toNat) _
  ⟨0,rfl,Nat.zero_le _,by simp,fun c=>by simp;intro h;have:=h.mem;simp at this,fun k=>by simp only [arZ,List.getElem?_replicate];simp,fun k=>by simp only [arZ,List.getElem?_replicate];simp⟩ (by show q.length-_<_;omega) ?_
 rintro ⟨out,v2,v,x'⟩ rec ⟨x,hxx,hx,hsub,hsel,hc,hs⟩
 simp only at hxx hsub hsel hc hs
 subst hxx
 unfold b1p
 dsimp only
 by_cases h:x<q.length
 ·right
  have hg:i7 q (x:Int)=some q[x]:=by rw [b2o];exact List.getElem?_eq_getElem h
  have hy:=hok q[x] (List.getElem_mem h)
  have htk:q.take (x+1)=q.take x++[q[x]]:=List.take_succ_eq_append_getElem h
  have hlast: ∀d∈q.take x,c4w d q[x]<0:=by
   intro d hd
   obtain ⟨j,hj,hjd⟩:=List.mem_iff_getElem.1 hd
   rw [List.getElem_take] at hjd
   rw [List.length_take] at hj
   have:=List.pairwise_iff_getElem.1 hq j x (by omega) h (by omega)
   rwa [hjd] at this
  generalize q[x]=y at*
  have hol:out.length <= 12:=by have:=hsub.length_le;rw [List.length_take] at this;omega
  have e1:i64 ((x:Int)+1)=((x+1:Nat):Int):=by rw [j8 (by omega) (by omega)];simp
  have hd0:decide ((x:Int)<(q.length:Int))=true:=decide_eq_true (by omega)
  have hap:a8q 48 out [y]=some (out++[y]):=a85 (by simp only [List.length_cons,List.length_nil];omega)
  simp only [hd0,if_true,hg,Option.bind_some,f6w hy,e1,hap]
  obtain ⟨⟨_,_,_,hben⟩,_⟩:=hy
  have hnext: ∀(o':List Claim) (w:Ar 100 Bool) (w2:Ar 6 Bool),o'.Sublist (q.take (x+1)) -> (∀c,c∈o'↔Sel (q.take (x+1)) p m c) ->
    (∀k:Nat,w.l[k]? =some true↔ ∃d∈q.take (x+1),d.Benefit=4 /\ d.Ref=(k:Int) /\ st m d=true) -> (∀k:Nat,w2.l[k]? =some true↔ ∃d∈q.take (x+1),d.Benefit≠4 /\ d.Person=p /\ d.Benefit=(k:Int)) ->
    ∃s':List Claim×Ar 6 Bool×Ar 100 Bool×Int,rec (o',w2,w,((x+1:Nat):Int))=rec s' /\ (∃x:Nat,s'.2.2.2=(x:Int) /\ x <= q.length /\ s'.1.Sublist (q.take x) /\ (∀c,c∈s'.1↔Sel (q.take x) p m c) /\
   (∀k:Nat,s'.2.2.1.l[k]? =some true↔ ∃d∈q.take x,d.Benefit=4 /\ d.Ref=(k:Int) /\ st m d=true) /\ (∀k:Nat,s'.2.1.l[k]? =some true↔ ∃d∈q.take x,d.Benefit≠4 /\ d.Person=p /\ d.Benefit=(k:Int))) /\ q.length-s'.2.2.2.toNat<q.length-(x:Int).toNat:=
   fun o' w w2 a b e f=>⟨_,rfl,⟨x+1,rfl,h,a,b,e,f⟩,by simp only [Int.toNat_natCast];omega⟩
  have hsub0:out.Sublist (q.take (x+1)):=by rw [htk];exact hsub.trans (List.sublist_append_left _ _)
  have hsub1:(out++[y]).Sublist (q.take (x+1)):=by rw [htk];exact hsub.append (List.Sublist.refl _)
  have hSel: ∀c,Sel (q.take (x+1)) p m c↔Sel (q.take x) p m c \/ c=y /\ ((y.Benefit=4 /\ y.Person=p /\ st m y=true /\ ∀d∈q.take x,¬(d.Benefit=4 /\ d.Ref=y.Ref /\ st m d=true)) \/ (y.Benefit≠4 /\ st m y=true /\ y.Person=p /\ ∀d∈q.take x,¬(d.Benefit≠4 /\ d.Person=p /\ d.Benefit=y.Benefit))):=by
   intro c
   unfold Sel
   rw [htk,c7k hlast,c7k hlast]
   constructor
   ·rintro (⟨a1,a2,a3 | ⟨rfl,a4,a5⟩⟩ | ⟨a1,a2,a3 | ⟨rfl,a4,a5⟩⟩)
    ·exact .inl (.inl ⟨a1,a2,a3⟩)
    ·exact .inr ⟨rfl,.inl ⟨a1,a2,a4.2.2,a5⟩⟩
    ·exact .inl (.inr ⟨a1,a2,a3⟩)
    ·exact .inr ⟨rfl,.inr ⟨a1,a2,a4.2.1,a5⟩⟩
   ·rintro ((⟨a1,a2,a3⟩ | ⟨a1,a2,a3⟩) | ⟨rfl,⟨a1,a2,a3,a4⟩ | ⟨a1,a2,a3,a4⟩⟩)
    ·exact .inl ⟨a1,a2,.inl a3⟩
    ·exact .inr ⟨a1,a2,.inl a3⟩
    ·exact .inl ⟨a1,a2,.inr ⟨rfl,⟨a1,rfl,a3⟩,a4⟩⟩
    ·exact .inr ⟨a1,a2,.inr ⟨rfl,⟨a1,a3,rfl⟩,a4⟩⟩
  have hkeep:(¬((y.Benefit=4 /\ y.Person=p /\ st m y=true /\ ∀d∈q.take x,¬(d.Benefit=4 /\ d.Ref=y.Ref /\ st m d=true)) \/ (y.Benefit≠4 /\ st m y=true /\ y.Person=p /\ ∀d∈q.take x,¬(d.Benefit≠4 /\ d.Person=p /\ d.Benefit=y.Benefit)))) -> ∀c,c∈out↔Sel (q.take (x+1)) p m c:=by
   intro hn c
   rw [hSel,hsel]
   exact ⟨.inl,fun hh=>hh.elim id (fun h2=>absurd h2.2 hn)⟩
  have hadd:((y.Benefit=4 /\ y.Person=p /\ st m y=true /\ ∀d∈q.take x,¬(d.Benefit=4 /\ d.Ref=y.Ref /\ st m d=true)) \/ (y.Benefit≠4 /\ st m y=true /\ y.Person=p /\ ∀d∈q.take x,¬(d.Benefit≠4 /\ d.Person=p /\ d.Benefit=y.Benefit))) -> ∀c,c∈out++[y]↔Sel (q.take (x+1)) p m c:=by
   intro hn c
   rw [hSel,List.mem_append,hsel,List.mem_singleton]
   exact ⟨fun hh=>hh.elim .inl (fun h2=> .inr ⟨h2,hn⟩),fun hh=>hh.elim .inl (fun h2=> .inr h2.1)⟩
  have memx: ∀(Q:Claim -> Prop),(∃d∈q.take (x+1),Q d)↔(∃d∈q.take x,Q d) \/ Q y:=by
   intro Q
   rw [htk]
   constructor
   ·rintro ⟨d,hd,hQ⟩
    rcases List.mem_append.1 hd with hd | hd
    ·exact .inl ⟨d,hd,hQ⟩
    ·have:d=y:=by simpa using hd
     subst this;exact .inr hQ
   ·rintro (⟨d,hd,hQ⟩ | hQ)
    ·exact ⟨d,by simp [hd],hQ⟩
    ·exact ⟨y,by simp,hQ⟩
  by_cases hb:y.Benefit=4
  ·have hr:1 <= y.Ref /\ y.Ref <= 99:=by
    rcases hben with h1 | h1
    ·exact ⟨h1.2.1,h1.2.2.1⟩
    ·omega
   have eR:((y.Ref.toNat:Nat):Int)=y.Ref:=by omega
   have hvg: ∃b,i7 v.l y.Ref=some b /\ v.l[y.Ref.toNat]? =some b:=by
    obtain ⟨b,h1,h2⟩:=e3s (l:=v.l) (i:=y.Ref) (by omega) (by rw [v.h];omega)
    exact ⟨b,h1,h2⟩
   obtain ⟨b,hb1,hb2⟩:=hvg
   have hsame2: ∀k:Nat,v2.l[k]? =some true↔ ∃d∈q.take (x+1),d.Benefit≠4 /\ d.Person=p /\ d.Benefit=(k:Int):=by
    intro k
    rw [hs,memx]
    exact ⟨.inl,fun hh=>hh.elim id (fun h2=>absurd hb h2.1)⟩
   simp only [show (y.Benefit==4)=true by simpa using hb,if_true,hb1,Option.bind_some]
   cases hst:st m y with
   | false=>
     simp only [Bool.false_eq_true,if_false,Option.bind_some]
     refine hnext _ _ _ hsub0 (hkeep ?_) (fun k=> ?_) hsame2
     ·rintro (⟨_,_,h3,_⟩ | ⟨h3,_⟩)
      ·rw [hst] at h3;cases h3
      ·exact h3 hb
     ·rw [hc,memx]
      exact ⟨.inl,fun hh=>hh.elim id (fun h2=>by rw [hst] at h2;cases h2.2.2)⟩
   | true=>
     simp only [if_true,Option.bind_some]
     cases b with
     | true=>
       simp only [Bool.not_true,Bool.false_eq_true,if_false]
       obtain ⟨d,hd,hd1,hd2,hd3⟩:=(hc _).1 hb2
       refine hnext _ _ _ hsub0 (hkeep ?_) (fun k=> ?_) hsame2
       ·rintro (⟨_,_,_,h3⟩ | ⟨h3,_⟩)
        ·exact h3 d hd ⟨hd1,by rw [hd2,eR],hd3⟩
        ·exact h3 hb
       ·rw [hc,memx]
        refine ⟨.inl,fun hh=>hh.elim id (fun h2=>⟨d,hd,hd1,?_,hd3⟩)⟩
        rw [hd2,eR];exact h2.2.1
     | false=>
       simp only [Bool.not_false,if_true]
       have hno: ∀d∈q.take x,¬(d.Benefit=4 /\ d.Ref=y.Ref /\ st m d=true):=by
        rintro d hd ⟨d1,d2,d3⟩
        have:=(hc y.Ref.toNat).2 ⟨d,hd,d1,by rw [d2,eR],d3⟩
        rw [hb2] at this;cases this
       have hv': ∀k:Nat,(Ar.set v y.Ref true).l[k]? =some true↔ ∃d∈q.take (x+1),d.Benefit=4 /\ d.Ref=(k:Int) /\ st m d=true:=by
        intro k
        rw [<- eR,e0p v (by omega),hc,memx]
        constructor
        ·rintro (h2 | h2)
         ·exact .inl h2
         ·exact .inr ⟨hb,by omega,hst⟩
        ·rintro (h2 | h2)
         ·exact .inl h2
         ·exact .inr (by have:=h2.2.1;omega)
       by_cases hp:y.Person=p
       ·rw [if_pos (by simpa using hp)]
        exact hnext _ _ _ hsub1 (hadd (.inl ⟨hb,hp,hst,hno⟩)) hv' hsame2
       ·rw [if_neg (by simpa using hp)]
        refine hnext _ _ _ hsub0 (hkeep ?_) hv' hsame2
        rintro (⟨_,h3,_⟩ | ⟨h3,_⟩)
        ·exact hp h3
        ·exact h3 hb
  ·have hbr:1 <= y.Benefit /\ y.Benefit <= 5:=by omega
   have eB:((y.Benefit.toNat:Nat):Int)=y.Benefit:=by omega
   obtain ⟨b,hb1,hb2⟩:=e3s (l:=v2.l) (i:=y.Benefit) (by omega) (by rw [v2.h];omega)
   have hsame1: ∀k:Nat,v.l[k]? =some true↔ ∃d∈q.take (x+1),d.Benefit=4 /\ d.Ref=(k:Int) /\ st m d=true:=by
    intro k
    rw [hc,memx]
    exact ⟨.inl,fun hh=>hh.elim id (fun h2=>absurd h2.1 hb)⟩
   simp only [show (y.Benefit==4)=false by simpa using hb,Bool.false_eq_true,if_false,hb1,Option.bind_some]
   by_cases hp:y.Person=p
   ·simp only [show (y.Person==p)=true by simpa using hp,if_true,Option.bind_some]
    cases b with
    | true=>
      simp only [Bool.not_true,Bool.false_eq_true,if_false]
      obtain ⟨d,hd,hd1,hd2,hd3⟩:=(hs _).1 hb2
      refine hnext _ _ _ hsub0 (hkeep ?_) hsame1 (fun k=> ?_)
      ·rintro (⟨h3,_⟩ | ⟨_,_,_,h3⟩)
       ·exact hb h3
       ·exact h3 d hd ⟨hd1,hd2,by rw [hd3,eB]⟩
      ·rw [hs,memx]
       refine ⟨.inl,fun hh=>hh.elim id (fun h2=>⟨d,hd,hd1,hd2,?_⟩)⟩
       rw [hd3,eB];exact h2.2.2
    | false=>
      simp only [Bool.not_false,if_true]
      have hno: ∀d∈q.take x,¬(d.Benefit≠4 /\ d.Person=p /\ d.Benefit=y.Benefit):=by
       rintro d hd ⟨d1,d2,d3⟩
       have:=(hs y.Benefit.toNat).2 ⟨d,hd,d1,d2,by rw [d3,eB]⟩
       rw [hb2] at this;cases this
      have hv': ∀k:Nat,(Ar.set v2 y.Benefit true).l[k]? =some true↔ ∃d∈q.take (x+1),d.Benefit≠4 /\ d.Person=p /\ d.Benefit=(k:Int):=by
       intro k
       rw [<- eB,e0p v2 (by omega),hs,memx]
       constructor
       ·rintro (h2 | h2)
        ·exact .inl h2
        ·exact .inr ⟨hb,hp,by omega⟩
       ·rintro (h2 | h2)
        ·exact .inl h2
        ·exact .inr (by have:=h2.2.2;omega)
      cases hst:st m y with
      | true=>
        simp only [if_true]
        exact hnext _ _ _ hsub1 (hadd (.inr ⟨hb,hst,hp,hno⟩)) hsame1 hv'
      | false=>
        simp only [Bool.false_eq_true,if_false]
        refine hnext _ _ _ hsub0 (hkeep ?_) hsame1 hv'
        rintro (⟨h3,_⟩ | ⟨_,h3,_⟩)
        ·exact hb h3
        ·rw [hst] at h3;cases h3
   ·simp only [show (y.Person==p)=false by simpa using hp,Bool.false_eq_true,if_false,Option.bind_some]
    refine hnext _ _ _ hsub0 (hkeep ?_) hsame1 (fun k=> ?_)
    ·rintro (⟨h3,_⟩ | ⟨_,_,h3,_⟩)
     ·exact hb h3
     ·exact hp h3
    ·rw [hs,memx]
     exact ⟨.inl,fun hh=>hh.elim id (fun h2=>absurd h2.2.1 hp)⟩
 ·left
  have:x=q.length:=by omega
  subst this
  rw [List.take_length] at hsub hsel
  have hd0:decide ((q.length:Int)<(q.length:Int))=false:=decide_eq_false (by omega)
  have hol:=hsub.length_le
  obtain ⟨r,h1,h2,h3⟩:=e2j out (by omega)
  simp only [hd0,Bool.false_eq_true,if_false,h1,Option.bind_some]
  exact ⟨r,rfl,(h2.nodup_iff).2 (hsub.nodup hnd),fun c=>by rw [h2.mem_iff,hsel],h3⟩
end Go.PL
namespace Go.PL
open Go Go.SX
inductive Tk where
 | w (s:ByteArray)
 | s (s:ByteArray)
 | n (v:Fraction) (d:Int)
 | d (day:Int)
def a43 (s:ByteArray):Bool:=match s.toList with | c::_=> !(48 <= c.toNat&&c.toNat <= 57)&& !c.toNat==64 | []=>false
def TkR (t:Token):Tk -> Prop
 | .w x=>t.Kind=1 /\ t.Text=x
 | .s x=>t.Kind=4 /\ t.Text=x
 | .n v d=>t.Kind=2 /\ y2 t.Text=some (v,d,true) /\ a43 t.Text=false
 | .d day=>t.Kind=3 /\ a5h t.Text=some day /\ a43 t.Text=false
def isT (t:Tk) (s:ByteArray):Bool:=match t with | .w x=>x.toList==s.toList | .s x=>x.toList==s.toList | _=>false
def kdT:Tk -> Int | .w _=>1 | .s _=>4 | .n _ _=>2 | .d _=>3
structure RdrA (r:pensionref5_reader) (ts:List Tk):Prop where
 bad:r.bad=false
 nn:0 <= r.at_
 len:r.l.length <= 8000
 all:u4 TkR (r.l.drop r.at_.toNat) ts
def adv (r:pensionref5_reader):pensionref5_reader:=⟨r.l,r.at_+1,r.end_,r.bad⟩
section
variable {r:pensionref5_reader} {t:Tk} {ts:List Tk} {s:ByteArray}
theorem RdrA.cons (h:RdrA r (t::ts)): ∃x,i7 r.l r.at_=some x /\ TkR x t /\ r.at_<(r.l.length:Int) /\ RdrA (adv r) ts /\ i64 (r.at_+1)=r.at_+1:=by
 obtain ⟨h1,h2,h3,h4⟩:=h
 cases hd:r.l.drop r.at_.toNat with
 | nil=>rw [hd] at h4;exact h4.elim
 | cons x rest=>
   rw [hd] at h4
   have hlt:r.at_.toNat<r.l.length:=by
    have:=congrArg List.length hd
    simp at this;omega
   have hx:r.l[r.at_.toNat]? =some x:=by
    have:=congrArg List.head? hd
    simpa [List.head?_drop] using this
   refine ⟨x,e0r h2 hx,h4.1,by omega,⟨h1,by show 0 <= r.at_+1;omega,h3,?_⟩,b5a h2 (by omega)⟩
   show u4 TkR (r.l.drop (r.at_+1).toNat) ts
   rw [show (r.at_+1).toNat=r.at_.toNat+1 by omega,<- List.drop_drop,hd]
   exact h4.2
theorem TkR.eq {x:Token} (h:TkR x t) (hs:a43 s=true):(x.Text.toList==s.toList)=isT t s:=by
 have no:a43 x.Text=false -> (x.Text.toList==s.toList)=false:=fun hw=>by
  cases he:(x.Text.toList==s.toList) with
  | false=>rfl
  | true=>
    have he:=eq_of_beq he
    unfold a43 at hw hs
    rw [he,hs] at hw
    cases hw
 cases t with
 | w y=>rw [h.2];rfl
 | s y=>rw [h.2];rfl
 | n v d=>exact no h.2.2
 | d day=>exact no h.2.2
theorem TkR.kd {x:Token} (h:TkR x t):x.Kind=kdT t:=by cases t<;>exact h.1
theorem e2q (h:RdrA r (t::ts)) (hs:a43 s=true):a0e r s=some (isT t s):=by
 obtain ⟨x,hx,hk,hlt,_,_⟩:=h.cons
 unfold a0e
 rw [h.bad]
 simp only [Bool.not_false,if_true,Option.bind_some,decide_eq_true hlt,hx,hk.eq hs]
theorem b53 (h:RdrA r (t::ts)) (k:Int):w7 r k=some (kdT t==k):=by
 obtain ⟨x,hx,hk,hlt,_,_⟩:=h.cons
 unfold w7
 rw [h.bad]
 simp only [Bool.not_false,if_true,Option.bind_some,decide_eq_true hlt,hx,hk.kd]
theorem b3d (h:RdrA r (t::ts)) (hs:a43 s=true):g7 r s=some (isT t s,if isT t s then adv r else r):=by
 obtain ⟨x,hx,hk,hlt,_,hi⟩:=h.cons
 unfold g7
 rw [e2q h hs,Option.bind_some]
 cases hb:isT t s with
 | true=>rw [hi];rfl
 | false=>rfl
theorem d4f (h:RdrA r (t::ts)) (hs:a43 s=true) (ht:isT t s=true):c6 r s=some (adv r):=by
 unfold c6
 rw [b3d h hs,Option.bind_some,ht]
 rfl
theorem d56 {x:ByteArray} (h:RdrA r (.w x::ts)) (hn:w9 x=some true):a1c r=some (x,adv r):=by
 obtain ⟨y,hy,hk,hlt,_,hi⟩:=h.cons
 have hx:y.Text=x:=hk.2
 have h1:=h.nn
 have h2:=h.len
 unfold a1c
 rw [b53 h,Option.bind_some]
 simp only [kdT,hy,Option.bind_some,hx,hn,hi,show i64 (r.at_+1-1)=r.at_ from by rw [j8 (by omega) (by omega)];omega]
 rfl
theorem c0q {v a b:Int} (h:RdrA r (.n ⟨v,1⟩ 2::ts)) (h1:a <= v) (h2:v <= b):y4 r a b=some (v,adv r):=by
 obtain ⟨y,hy,hk,hlt,_,hi⟩:=h.cons
 unfold y4
 rw [b53 h,Option.bind_some]
 simp only [kdT,hy,Option.bind_some,hk.2.1,hi,decide_eq_true h1,decide_eq_true h2,ge_iff_le]
 rfl
end
inductive AE where
 | lit (v:Fraction) (d:Int)
 | nm (s:ByteArray)
 | best (k:Int)
 | bin (op:Int) (a b:AE)
 | ite (a b c:AE)
def AE.e:AE -> Expr
 | .lit v d=>⟨1,v,d,a1v,[]⟩
 | .nm s=>⟨2,⟨0,0⟩,0,s,[]⟩
 | .best k=>⟨3,⟨k,1⟩,0,a1v,[]⟩
 | .bin op a b=>⟨op,⟨0,0⟩,0,a1v,[a.e,b.e]⟩
 | .ite a b c=>⟨21,⟨0,0⟩,0,a1v,[a.e,b.e,c.e]⟩
def g15:List (Int×Int×ByteArray):=[(7,5,c9r),(8,5,b7v),(9,6,a87),(10,6,b9f),(11,4,c9p),(12,4,b5n),(13,4,b7c),(14,4,b5h),(15,4,d5a),(16,4,a5p),(17,2,b88),(18,1,c49)]
def g0m (lvl:Int) (t:Tk):List (Int×Int×ByteArray) -> Int
 | []=>0
 | (op,l,s)::q=>bif (l==lvl)&&isT t s then op else g0m lvl t q
def e9s (s:ByteArray):Bool:=match w9 s with | some true=>true | _=>false
inductive Md where
 | E (lvl:Nat)
 | L (lvl:Nat) (e:AE)
 | F
 | C (op:Int)
def eat (s:ByteArray):List Tk -> Option (List Tk)
 | t::r=>bif isT t s then some r else none
 | []=>none
def pX:Nat -> Md -> List Tk -> Option (AE×List Tk)
 | 0,_,_=>none
 | k+1,.E 0,t::r=>bif isT t b0e then
    (pX k (.E 0) r).bind fun a=>(eat b8c a.2).bind fun r1=>(pX k (.E 0) r1).bind fun b=>(eat b4f b.2).bind fun r2=>(pX k (.E 0) r2).bind fun c=>some (.ite a.1 b.1 c.1,c.2)
   else pX k (.E 1) (t::r)
 | k+1,.E 3,t::r=>bif isT t b7o then none else pX k (.E 4) (t::r)
 | k+1,.E 7,t::r=>pX k .F (t::r)
 | k+1,.E lvl,t::r=>(pX k (.E (lvl+1)) (t::r)).bind fun a=>pX k (.L lvl a.1) a.2
 | k+1,.L lvl e,t::r=>match g0m lvl t g15 with
   | 0=>some (e,t::r)
   | op=>(pX k (.E (lvl+1)) r).bind fun a=>bif Nat.beq lvl 4 then some (.bin op e a.1,a.2) else pX k (.L lvl (.bin op e a.1)) a.2
 | k+1,.F,t::r=>match t with
   | .n v d=>some (.lit v d,r)
   | .w x=>bif isT t b7v then none else bif isT t a8v then none else bif isT t b15 then (eat a8v r).bind fun r1=>match r1 with | .n ⟨v,1⟩ 2::r2=>(bif decide (1 <= v)&&decide (v <= 45) then (eat b0y r2).bind fun r3=>some (.best v,r3) else none) | _=>none
     else bif isT t b1r then none
     else bif isT t b66 then pX k (.C 19) (t::r)
     else bif isT t b51 then pX k (.C 20) (t::r)
     else bif e9s x then some (.nm x,r) else none
   | _=>none
 | k+1,.C op,t::r=>match a19 op with
   | some 2=>(eat a8v r).bind fun r1=>(pX k (.E 0) r1).bind fun a=>(eat c2l a.2).bind fun r2=>(pX k (.E 0) r2).bind fun b=>(eat b0y b.2).bind fun r3=>some (.bin op a.1 b.1,r3)
   | _=>none
 | _,_,[]=>none
end Go.PL
namespace Go.PL
open Go Go.SX
theorem d6q (n:Nat) (h:n <= 1000): ∃m,FU=m+n:=⟨FU-n,by
 have:1000 <= FU:=by unfold FU;decide
 omega⟩
section
variable {r:pensionref5_reader} {t:Tk} {ts:List Tk}
theorem a8k (h:RdrA r (t::ts)) (lvl:Int) (k:Nat) {op l:Int} {s:ByteArray} (h0:0 <= op) (h1:op <= 18) (hl:b0w op=some l) (hs:a9f op=some s) (hw:a43 s=true):
  d8 (k+1) (a05 lvl r) op=bif (l==lvl)&&isT t s then some op else d8 k (a05 lvl r) (op+1):=by
 rw [i8]
 unfold a05
 rw [if_pos (by simpa using h1),hl,Option.bind_some]
 cases hb:(l==lvl) with
 | false=>
   simp only [Bool.false_and,cond_false,Bool.false_eq_true,if_false,Option.bind_some]
   rw [b5a h0 (by omega)]
 | true=>
   simp only [if_true,hs,Option.bind_some,e2q h hw,Bool.true_and]
   cases isT t s with
   | true=>rfl
   | false=>
     simp only [Bool.false_eq_true,if_false,cond_false]
     rw [b5a h0 (by omega)]
theorem e49 {α:Type} {b:Bool} {x y:α}:(bif b then some x else some y)=some (bif b then x else y):=by cases b<;>rfl
theorem c64 (h:RdrA r (t::ts)) (lvl:Int):a39 r lvl=some (g0m lvl t g15):=by
 unfold a39
 obtain ⟨m,hm⟩:=d6q 13 (by decide)
 rw [hm]
 rw [show m+13=(m+12)+1 from rfl,a8k h lvl (m+12) (op:=7) (l:=5) (s:=c9r) (by decide) (by decide) (by kernel_rfl) (by kernel_rfl) (by kernel_rfl)]
 rw [show m+12=(m+11)+1 from rfl,show (7:Int)+1=8 from rfl,a8k h lvl (m+11) (op:=8) (l:=5) (s:=b7v) (by decide) (by decide) (by kernel_rfl) (by kernel_rfl) (by kernel_rfl)]
 rw [show m+11=(m+10)+1 from rfl,show (8:Int)+1=9 from rfl,a8k h lvl (m+10) (op:=9) (l:=6) (s:=a87) (by decide) (by decide) (by kernel_rfl) (by kernel_rfl) (by kernel_rfl)]
 rw [show m+10=(m+9)+1 from rfl,show (9:Int)+1=10 from rfl,a8k h lvl (m+9) (op:=10) (l:=6) (s:=b9f) (by decide) (by decide) (by kernel_rfl) (by kernel_rfl) (by kernel_rfl)]
 rw [show m+9=(m+8)+1 from rfl,show (10:Int)+1=11 from rfl,a8k h lvl (m+8) (op:=11) (l:=4) (s:=c9p) (by decide) (by decide) (by kernel_rfl) (by kernel_rfl) (by kernel_rfl)]
 rw [show m+8=(m+7)+1 from rfl,show (11:Int)+1=12 from rfl,a8k h lvl (m+7) (op:=12) (l:=4) (s:=b5n) (by decide) (by decide) (by kernel_rfl) (by kernel_rfl) (by kernel_rfl)]
 rw [show m+7=(m+6)+1 from rfl,show (12:Int)+1=13 from rfl,a8k h lvl (m+6) (op:=13) (l:=4) (s:=b7c) (by decide) (by decide) (by kernel_rfl) (by kernel_rfl) (by kernel_rfl)]
 rw [show m+6=(m+5)+1 from rfl,show (13:Int)+1=14 from rfl,a8k h lvl (m+5) (op:=14) (l:=4) (s:=b5h) (by decide) (by decide) (by kernel_rfl) (by kernel_rfl) (by kernel_rfl)]
 rw [show m+5=(m+4)+1 from rfl,show (14:Int)+1=15 from rfl,a8k h lvl (m+4) (op:=15) (l:=4) (s:=d5a) (by decide) (by decide) (by kernel_rfl) (by kernel_rfl) (by kernel_rfl)]
 rw [show m+4=(m+3)+1 from rfl,show (15:Int)+1=16 from rfl,a8k h lvl (m+3) (op:=16) (l:=4) (s:=a5p) (by decide) (by decide) (by kernel_rfl) (by kernel_rfl) (by kernel_rfl)]
 rw [show m+3=(m+2)+1 from rfl,show (16:Int)+1=17 from rfl,a8k h lvl (m+2) (op:=17) (l:=2) (s:=b88) (by decide) (by decide) (by kernel_rfl) (by kernel_rfl) (by kernel_rfl)]
 rw [show m+2=(m+1)+1 from rfl,show (17:Int)+1=18 from rfl,a8k h lvl (m+1) (op:=18) (l:=1) (s:=c49) (by decide) (by decide) (by kernel_rfl) (by kernel_rfl) (by kernel_rfl)]
 have e:d8 (m+1) (a05 lvl r) (18+1)=some 0:=by
  rw [i8]
  unfold a05
  rw [if_neg (by simp)]
 rw [e]
 unfold g15
 simp only [g0m]
 simp only [e49]
theorem c4y {s:ByteArray} {us:List Tk} (h:RdrA r ts) (hs:a43 s=true) (he:eat s ts=some us):c6 r s=some (adv r) /\ RdrA (adv r) us:=by
 cases ts with
 | nil=>cases he
 | cons t ts=>
   simp only [eat] at he
   cases ht:isT t s with
   | false=>rw [ht] at he;cases he
   | true=>
     rw [ht] at he
     obtain rfl:=Option.some.inj he
     exact ⟨d4f h hs ht,h.cons.choose_spec.2.2.2.1⟩
end
abbrev rgE (m:Nat):=d7 m
def Snd (k:Nat) (md:Md) (r:pensionref5_reader) (out:AE×List Tk):Prop:= ∃r',RdrA r' out.2 /\ match md with
 | .E lvl=> ∀m,k <= m -> (rgE m).f_pensionref5_reader_expr r lvl=some (out.1.e,r')
 | .F=> ∀m,k <= m -> (rgE m).f_pensionref5_reader_factor r=some (out.1.e,r')
 | .C op=> ∀m,k <= m -> (rgE m).f_pensionref5_reader_call r op=some (out.1.e,r')
 | .L lvl e=> ∀m j jl je,k <= m -> k <= j -> d8 j (y5 (rgE m) lvl) (r,jl,je,e.e)=some (out.1.e,r')
def g3x:Md -> Nat | .E l=>l | .L l _=>l | .F=>0 | .C _=>0
theorem d5j {s:ByteArray} (h:e9s s=true):w9 s=some true:=by
 unfold e9s at h
 split at h
 ·assumption
 ·cases h
theorem e5w {k:Nat} (h:k <= 1000):k <= FU:=by obtain ⟨m,hm⟩:=d6q k h;omega
theorem e5u: ∀(k:Nat),k <= 1000 -> ∀(md:Md) (ts:List Tk) (out:AE×List Tk) (r:pensionref5_reader),pX k md ts=some out -> g3x md <= 7 -> RdrA r ts -> Snd k md r out:=by
 intro k
 induction k with
 | zero=>intro _ md ts out r h;cases md<;>cases ts<;>simp [pX] at h
 | succ k ih=>
   intro hkk md ts out r h hl hr
   have ih:=ih (by omega)
   cases ts with
   | nil=>cases md<;>simp [pX] at h
   | cons t ts=>
     have hbad:=hr.bad
     have hsucc: ∀{m:Nat},k+1 <= m -> ∃m',m=m'+1 /\ k <= m':=fun {m} h=>⟨m-1,by omega,by omega⟩
     have gen: ∀lvl:Nat,lvl <= 6 -> lvl≠0 -> lvl≠3 -> ((pX k (.E (lvl+1)) (t::ts)).bind fun a=>pX k (.L lvl a.1) a.2)=some out -> Snd (k+1) (.E lvl) r out:=by
      intro lvl h6 h0 h3 h
      obtain ⟨a,ha,h⟩:=Option.bind_eq_some_iff.1 h
      obtain ⟨r1,hr1,e1⟩:=ih _ _ _ r ha (by show lvl+1 <= 7;omega) hr
      obtain ⟨r2,hr2,e2⟩:=ih _ _ _ r1 h (by show lvl <= 7;omega) hr1
      refine ⟨r2,hr2,fun m hm=> ?_⟩
      obtain ⟨m,rfl,hm2⟩:=hsucc hm
      show l8 (rgE m) r lvl=_
      unfold l8
      have n0:((lvl:Int)==0)=false:=by simpa using h0
      have n3:((lvl:Int)==3)=false:=by simp;omega
      have n7:((lvl:Int)==7)=false:=by simp;omega
      have e1:=e1 m hm2
      have hi:i64 ((lvl:Int)+1)=((lvl+1:Nat):Int):=by rw [b5a (by omega) (by omega)];omega
      simp only [hbad,n0,n3,n7,Bool.false_eq_true,if_false,hi,e1,Option.bind_some]
      exact e2 m FU _ _ hm2 (e5w (by omega))
     cases md with
     | E lvl=>
       match lvl,hl with
       | 0,_=>
         simp only [pX] at h
         cases hi:isT t b0e with
         | false=>
           rw [hi,cond_false] at h
           obtain ⟨r1,hr1,e1⟩:=ih _ _ _ r h (by decide) hr
           refine ⟨r1,hr1,fun m hm=> ?_⟩
           obtain ⟨m,rfl,hm2⟩:=hsucc hm
           show l8 (rgE m) r 0=_
           unfold l8
           have e1:(rgE m).f_pensionref5_reader_expr r 1=_:=e1 m hm2
           simp only [hbad,Bool.false_eq_true,if_false,b3d hr (show a43 b0e=true by kernel_rfl),hi,Option.bind_some,Bool.not_false,if_true,e1,BEq.rfl]
         | true=>
           rw [hi,cond_true] at h
           have hr':=hr.cons.choose_spec.2.2.2.1
           obtain ⟨a,ha,h⟩:=Option.bind_eq_some_iff.1 h
           obtain ⟨u1,hu1,h⟩:=Option.bind_eq_some_iff.1 h
           obtain ⟨b,hb,h⟩:=Option.bind_eq_some_iff.1 h
           obtain ⟨u2,hu2,h⟩:=Option.bind_eq_some_iff.1 h
           obtain ⟨c,hc,h⟩:=Option.bind_eq_some_iff.1 h
           obtain rfl:=Option.some.inj h
           obtain ⟨r1,hr1,e1⟩:=ih _ _ _ _ ha (by decide) hr'
           obtain ⟨w1,hw1⟩:=c4y hr1 (show a43 b8c=true by kernel_rfl) hu1
           obtain ⟨r2,hr2,e2⟩:=ih _ _ _ _ hb (by decide) hw1
           obtain ⟨w2,hw2⟩:=c4y hr2 (show a43 b4f=true by kernel_rfl) hu2
           obtain ⟨r3,hr3,e3⟩:=ih _ _ _ _ hc (by decide) hw2
           refine ⟨r3,hr3,fun m hm=> ?_⟩
           obtain ⟨m,rfl,hm2⟩:=hsucc hm
           show l8 (rgE m) r 0=_
           unfold l8
           have e1:(rgE m).f_pensionref5_reader_expr (adv r) 0=_:=e1 m hm2
           have e2:(rgE m).f_pensionref5_reader_expr _ 0=_:=e2 m hm2
           have e3:(rgE m).f_pensionref5_reader_expr _ 0=_:=e3 m hm2
           simp only [hbad,Bool.false_eq_true,if_false,b3d hr (show a43 b0e=true by kernel_rfl),hi,Option.bind_some,Bool.not_true,if_true,e1,w1,e2,w2,e3,BEq.rfl]
           rfl
       | 1,_=>exact gen 1 (by decide) (by decide) (by decide) h
       | 2,_=>exact gen 2 (by decide) (by decide) (by decide) h
       | 3,_=>
         simp only [pX] at h
         cases hi:isT t b7o with
         | true=>rw [hi] at h;cases h
         | false=>
           rw [hi,cond_false] at h
           obtain ⟨r1,hr1,e1⟩:=ih _ _ _ r h (by decide) hr
           refine ⟨r1,hr1,fun m hm=> ?_⟩
           obtain ⟨m,rfl,hm2⟩:=hsucc hm
           show l8 (rgE m) r 3=_
           unfold l8
           have e1:(rgE m).f_pensionref5_reader_expr r 4=_:=e1 m hm2
           simp only [hbad,Bool.false_eq_true,if_false,b3d hr (show a43 b7o=true by kernel_rfl),hi,Option.bind_some,if_true,e1,BEq.rfl,show ((3:Int)==0)=false from rfl]
       | 4,_=>exact gen 4 (by decide) (by decide) (by decide) h
       | 5,_=>exact gen 5 (by decide) (by decide) (by decide) h
       | 6,_=>exact gen 6 (by decide) (by decide) (by decide) h
       | 7,_=>
         simp only [pX] at h
         obtain ⟨r1,hr1,e1⟩:=ih _ _ _ r h (by decide) hr
         refine ⟨r1,hr1,fun m hm=> ?_⟩
         obtain ⟨m,rfl,hm2⟩:=hsucc hm
         show l8 (rgE m) r 7=_
         unfold l8
         have e1:(rgE m).f_pensionref5_reader_factor r=_:=e1 m hm2
         simp only [hbad,Bool.false_eq_true,if_false,Option.bind_some,if_true,e1,BEq.rfl,show ((7:Int)==0)=false from rfl,show ((7:Int)==3)=false from rfl]
     | L lvl e=>
       have hl:lvl <= 7:=hl
       have hi:i64 ((lvl:Int)+1)=((lvl+1:Nat):Int):=by rw [b5a (by omega) (by omega)];omega
       have hadv:=hr.cons.choose_spec.2.2.2
       have hav:(⟨r.l,i64 (r.at_+1),r.end_,r.bad⟩:pensionref5_reader)=adv r:=by rw [hadv.2];rfl
       have havf:(⟨r.l,i64 (r.at_+1),r.end_,false⟩:pensionref5_reader)=adv r:=by rw [hadv.2];unfold adv;rw [hbad]
       simp only [pX] at h
       cases hb:(g0m lvl t g15==0) with
       | true=>
         have hb:=eq_of_beq hb
         rw [hb] at h
         obtain rfl:=Option.some.inj h
         refine ⟨r,hr,fun m j jl je hm hj=> ?_⟩
         obtain ⟨j,rfl,hj2⟩:=hsucc hj
         rw [i8]
         unfold y5
         simp only [hbad,Bool.not_false,if_true,c64 hr,Option.bind_some,hb,BEq.rfl]
       | false=>
         split at h
         ·rename_i h0;rw [h0] at hb;cases hb
         ·rename_i op h0
          obtain ⟨a,ha,h⟩:=Option.bind_eq_some_iff.1 h
          have h67:lvl <= 6:=by
           refine Classical.byContradiction fun hc=>h0 ?_
           have:lvl=7:=by omega
           subst this
           rfl
          obtain ⟨r1,hr1,e1⟩:=ih _ _ _ (adv r) ha (by show lvl+1 <= 7;omega) hadv.1
          cases h4:Nat.beq lvl 4 with
          | true=>
            rw [h4,cond_true] at h
            obtain rfl:=Option.some.inj h
            refine ⟨r1,hr1,fun m j jl je hm hj=> ?_⟩
            obtain ⟨j,rfl,hj2⟩:=hsucc hj
            have e1:=e1 m (by omega)
            rw [i8]
            generalize hLP:d8 j (y5 (rgE m) (lvl:Int))=LP
            unfold y5
            have h44:((lvl:Int)==4)=true:=by have:=Nat.eq_of_beq_eq_true h4;subst this;rfl
            simp only [hbad,Bool.not_false,if_true,c64 hr,Option.bind_some,hb,Bool.false_eq_true,if_false,havf,hi,e1,h44]
            rfl
          | false=>
            rw [h4,cond_false] at h
            obtain ⟨r2,hr2,e2⟩:=ih _ _ _ _ h hl hr1
            refine ⟨r2,hr2,fun m j jl je hm hj=> ?_⟩
            obtain ⟨j,rfl,hj2⟩:=hsucc hj
            have e1:=e1 m (by omega)
            rw [i8]
            generalize hLP:d8 j (y5 (rgE m) (lvl:Int))=LP
            unfold y5
            have h44:((lvl:Int)==4)=false:=by have:=Nat.ne_of_beq_eq_false h4;simp;omega
            simp only [hbad,Bool.not_false,if_true,c64 hr,Option.bind_some,hb,Bool.false_eq_true,if_false,havf,hi,e1,h44]
            rw [<- hLP]
            exact e2 m j _ _ (by omega) hj2
     | F=>
       have hadv:=hr.cons.choose_spec.2.2.2
       have hav:(⟨r.l,i64 (r.at_+1),r.end_,r.bad⟩:pensionref5_reader)=adv r:=by rw [hadv.2];rfl
       have havf:(⟨r.l,i64 (r.at_+1),r.end_,false⟩:pensionref5_reader)=adv r:=by rw [hadv.2];unfold adv;rw [hbad]
       cases t with
       | s x=>simp [pX] at h
       | d x=>simp [pX] at h
       | n v d=>
         simp only [pX] at h
         obtain rfl:=Option.some.inj h
         refine ⟨adv r,hadv.1,fun m hm=> ?_⟩
         obtain ⟨m,rfl,hm2⟩:=hsucc hm
         show k7 (rgE m) r=_
         unfold k7
         obtain ⟨y,hy,hk,_⟩:=hr.cons
         simp only [b53 hr,kdT,Option.bind_some,BEq.rfl,if_true,hy,hk.2.1,hav]
         rfl
       | w x=>
         simp only [pX] at h
         have hk2:((kdT (.w x):Int)==2)=false:=rfl
         cases hm1:isT (.w x) b7v with
         | true=>rw [hm1] at h;cases h
         | false=>
         rw [hm1,cond_false] at h
         cases hm2:isT (.w x) a8v with
         | true=>rw [hm2] at h;cases h
         | false=>
         rw [hm2,cond_false] at h
         have t1:=b3d hr (show a43 b7v=true by kernel_rfl)
         have t2:=b3d hr (show a43 a8v=true by kernel_rfl)
         have t3:=b3d hr (show a43 b15=true by kernel_rfl)
         rw [hm1] at t1;rw [hm2] at t2
         cases hm3:isT (.w x) b15 with
         | true=>
           rw [hm3,cond_true] at h
           rw [hm3] at t3
           obtain ⟨u1,hu1,h⟩:=Option.bind_eq_some_iff.1 h
           split at h
           ·rename_i v r2
            cases hv:(decide (1 <= v)&&decide (v <= 45)) with
            | false=>rw [hv] at h;cases h
            | true=>
              rw [hv,cond_true] at h
              obtain ⟨u3,hu3,h⟩:=Option.bind_eq_some_iff.1 h
              obtain rfl:=Option.some.inj h
              simp at hv
              obtain ⟨w1,hw1⟩:=c4y hadv.1 (show a43 a8v=true by kernel_rfl) hu1
              have w2:=c0q hw1 hv.1 hv.2
              obtain ⟨w3,hw3⟩:=c4y hw1.cons.choose_spec.2.2.2.1 (show a43 b0y=true by kernel_rfl) hu3
              refine ⟨_,hw3,fun m hm=> ?_⟩
              obtain ⟨m,rfl,hm2⟩:=hsucc hm
              show k7 (rgE m) r=_
              unfold k7
              simp only [b53 hr,hk2,Option.bind_some,Bool.false_eq_true,if_false,if_true,t1,t2,t3,w1,w2,w3]
              rfl
           ·cases h
         | false=>
         rw [hm3,cond_false] at h
         rw [hm3] at t3
         have i1:=e2q hr (show a43 b1r=true by kernel_rfl)
         have i2:=e2q hr (show a43 b66=true by kernel_rfl)
         have i3:=e2q hr (show a43 b51=true by kernel_rfl)
         cases hm4:isT (.w x) b1r with
         | true=>rw [hm4] at h;cases h
         | false=>
         rw [hm4,cond_false] at h
         rw [hm4] at i1
         cases hm5:isT (.w x) b66 with
         | true=>
           rw [hm5,cond_true] at h
           rw [hm5] at i2
           obtain ⟨r1,hr1,e1⟩:=ih _ _ _ _ h (by decide) hr
           refine ⟨r1,hr1,fun m hm=> ?_⟩
           obtain ⟨m,rfl,hm2⟩:=hsucc hm
           show k7 (rgE m) r=_
           unfold k7
           have e1:(rgE m).f_pensionref5_reader_call r 19=_:=e1 m hm2
           simp only [b53 hr,hk2,Option.bind_some,Bool.false_eq_true,if_false,if_true,t1,t2,t3,i1,i2,e1]
         | false=>
         rw [hm5,cond_false] at h
         rw [hm5] at i2
         cases hm6:isT (.w x) b51 with
         | true=>
           rw [hm6,cond_true] at h
           rw [hm6] at i3
           obtain ⟨r1,hr1,e1⟩:=ih _ _ _ _ h (by decide) hr
           refine ⟨r1,hr1,fun m hm=> ?_⟩
           obtain ⟨m,rfl,hm2⟩:=hsucc hm
           show k7 (rgE m) r=_
           unfold k7
           have e1:(rgE m).f_pensionref5_reader_call r 20=_:=e1 m hm2
           simp only [b53 hr,hk2,Option.bind_some,Bool.false_eq_true,if_false,if_true,t1,t2,t3,i1,i2,i3,e1]
         | false=>
         rw [hm6,cond_false] at h
         rw [hm6] at i3
         cases hn:e9s x with
         | false=>rw [hn] at h;cases h
         | true=>
           rw [hn,cond_true] at h
           obtain rfl:=Option.some.inj h
           have n1:=d56 hr (d5j hn)
           refine ⟨_,hadv.1,fun m hm=> ?_⟩
           obtain ⟨m,rfl,hm2⟩:=hsucc hm
           show k7 (rgE m) r=_
           unfold k7
           simp only [b53 hr,hk2,Option.bind_some,Bool.false_eq_true,if_false,if_true,t1,t2,t3,i1,i2,i3,n1]
           rfl
     | C op=>
       have hadv:=hr.cons.choose_spec.2.2.2
       have hav:(⟨r.l,i64 (r.at_+1),r.end_,r.bad⟩:pensionref5_reader)=adv r:=by rw [hadv.2];rfl
       simp only [pX] at h
       split at h
       ·rename_i hop
        obtain ⟨u1,h1,h⟩:=Option.bind_eq_some_iff.1 h
        obtain ⟨a,h2,h⟩:=Option.bind_eq_some_iff.1 h
        obtain ⟨r2,h3,h⟩:=Option.bind_eq_some_iff.1 h
        obtain ⟨b,h4,h⟩:=Option.bind_eq_some_iff.1 h
        obtain ⟨u2,h5,h⟩:=Option.bind_eq_some_iff.1 h
        obtain rfl:=Option.some.inj h
        obtain ⟨w1,hw1⟩:=c4y hadv.1 (show a43 a8v=true by kernel_rfl) h1
        obtain ⟨q1,hq1,e1⟩:=ih _ _ _ _ h2 (by decide) hw1
        obtain ⟨w2,hw2⟩:=c4y hq1 (show a43 c2l=true by kernel_rfl) h3
        obtain ⟨q2,hq2,e2⟩:=ih _ _ _ _ h4 (by decide) hw2
        obtain ⟨w3,hw3⟩:=c4y hq2 (show a43 b0y=true by kernel_rfl) h5
        refine ⟨_,hw3,fun m hm=> ?_⟩
        obtain ⟨m,rfl,hm2⟩:=hsucc hm
        show a38 (rgE m) r op=_
        unfold a38
        have e1:(rgE m).f_pensionref5_reader_expr _ 0=_:=e1 m hm2
        have e2:(rgE m).f_pensionref5_reader_expr _ 0=_:=e2 m hm2
        simp only [hav,w1,Option.bind_some,e1,hop,BEq.rfl,if_true,w2,e2,w3]
        rfl
       ·cases h
theorem b8l {k:Nat} (hk:k <= 1000) {ts:List Tk} {out:AE×List Tk} {r:pensionref5_reader} (h:pX k (.E 0) ts=some out) (hr:RdrA r ts): ∃r',RdrA r' out.2 /\ a25 r 0=some (out.1.e,r'):=by
 obtain ⟨r',h1,h2⟩:=e5u k hk _ _ _ r h (by decide) hr
 exact ⟨r',h1,h2 FU (e5w hk)⟩
end Go.PL
namespace Go.PL
open Go Go.SX
def ofW (x:ByteArray) (what:Int):Option Int:=(a8j x).bind fun k=>(a5s x).bind fun b=>(a8i x).bind fun m=>i7 [k,b,m] (i64 (what-1))
theorem e5b {r:pensionref5_reader} {ts:List Tk} {x:ByteArray} {what n:Int} (h:RdrA r (.w x::ts)) (hw:ofW x what=some n) (hn:0<n):a13 r what=some (n,adv r):=by
 obtain ⟨y,hy,hk,hlt,_,hi⟩:=h.cons
 have hx:y.Text=x:=hk.2
 unfold ofW at hw
 obtain ⟨k,h1,hw⟩:=Option.bind_eq_some_iff.1 hw
 obtain ⟨b,h2,hw⟩:=Option.bind_eq_some_iff.1 hw
 obtain ⟨m,h3,hw⟩:=Option.bind_eq_some_iff.1 hw
 unfold a13
 rw [b53 h,Option.bind_some]
 simp only [kdT,hy,Option.bind_some,hx,h1,h2,h3,hw,hi,decide_eq_true hn,gt_iff_lt,BEq.rfl,if_true]
 rfl
inductive Cl where
 | credit (k l:Int)
 | index (y:Int) (f:Fraction)
 | lett (x:ByteArray) (a:AE)
 | grant (b:Int) (i p:AE)
 | reduce (b:Int) (a:AE)
abbrev Acc:=List Credit×List Index×List Let×List Grant×List Reduce
def Cl.app:Cl -> Acc -> Acc
 | .credit k l,A=>(A.1++[⟨k,l⟩],A.2)
 | .index y f,A=>(A.1,A.2.1++[⟨y,f⟩],A.2.2)
 | .lett x a,A=>(A.1,A.2.1,A.2.2.1++[⟨x,a.e⟩],A.2.2.2)
 | .grant b i p,A=>(A.1,A.2.1,A.2.2.1,A.2.2.2.1++[⟨b,i.e,p.e⟩],A.2.2.2.2)
 | .reduce b a,A=>(A.1,A.2.1,A.2.2.1,A.2.2.2.1,A.2.2.2.2++[⟨b,a.e⟩])
def Acc.len (A:Acc):Nat:=A.1.length+A.2.1.length+A.2.2.1.length+A.2.2.2.1.length+A.2.2.2.2.length
inductive ClR:List Tk -> Cl -> List Tk -> Prop
 | credit0 {x:ByteArray} {n:Int} {ts:List Tk}:ofW x 1=some n -> 0<n -> ClR (.w a2h:: .w x:: .s a0j::ts) (.credit n 0) ts
 | credit {x:ByteArray} {n v:Int} {ts:List Tk}:ofW x 1=some n -> 0<n -> 1 <= v -> v <= 73049 -> ClR (.w a2h:: .w x:: .w a8g:: .n ⟨v,1⟩ 2:: .s a0j::ts) (.credit n v) ts
 | index {y:Int} {f:Fraction} {ts:List Tk}:1900 <= y -> y <= 2099 -> 0<f.Num -> f.Den≠0 -> ClR (.w a56:: .n ⟨y,1⟩ 2:: .n f 2:: .s a0j::ts) (.index y f) ts
 | lett {x:ByteArray} {a:AE} {us ts:List Tk}:e9s x=true -> pX 60 (.E 0) us=some (a,.s a0j::ts) -> ClR (.w b0r:: .w x:: .s b7c::us) (.lett x a) ts
 | grant {x:ByteArray} {n:Int} {a b:AE} {us vs ts:List Tk}:ofW x 2=some n -> 0<n -> pX 60 (.E 0) us=some (a,.w b22::vs) -> pX 60 (.E 0) vs=some (b,.s a0j::ts) -> ClR (.w a3y:: .w x:: .w b0e::us) (.grant n a b) ts
 | reduce {x:ByteArray} {n:Int} {a:AE} {us ts:List Tk}:ofW x 2=some n -> 0<n -> pX 60 (.E 0) us=some (a,.s a0j::ts) -> ClR (.w a4h:: .w x:: .w c12::us) (.reduce n a) ts
theorem b5c:a43 a2h=true:=by kernel_rfl
theorem c3r:a43 a56=true:=by kernel_rfl
theorem e1v:a43 b0r=true:=by kernel_rfl
theorem d5t:a43 a3y=true:=by kernel_rfl
theorem e1g:a43 a4h=true:=by kernel_rfl
theorem d7m:a43 a8g=true:=by kernel_rfl
theorem c00:a43 a0j=true:=by kernel_rfl
theorem g2d:a43 b7c=true:=by kernel_rfl
theorem g42:a43 b0e=true:=by kernel_rfl
theorem f8d:a43 b22=true:=by kernel_rfl
theorem g2n:a43 c12=true:=by kernel_rfl
theorem c3t:a43 a34=true:=by kernel_rfl
theorem d6y (x:ByteArray):isT (.w x) x=true:=by show (x.toList==x.toList)=true;exact BEq.rfl
theorem c4r (x:ByteArray):isT (.s x) x=true:=by show (x.toList==x.toList)=true;exact BEq.rfl
theorem a5v {r:pensionref5_reader} {t:Tk} {ts:List Tk} (h:RdrA r (t::ts)):RdrA (adv r) ts:=h.cons.choose_spec.2.2.2.1
section
variable {r:pensionref5_reader} {t:Tk} {ts us:List Tk} {s:ByteArray}
theorem c4h (h:RdrA r (.w s::ts)) (hs:a43 s=true):g7 r s=some (true,adv r):=by rw [b3d h hs,d6y];rfl
theorem b5v (h:RdrA r (t::ts)) (hs:a43 s=true) (hn:isT t s=false):g7 r s=some (false,r):=by rw [b3d h hs,hn];rfl
theorem c53 (h:RdrA r (.w s::ts)) (hs:a43 s=true):c6 r s=some (adv r):=d4f h hs (d6y s)
theorem b8x (h:RdrA r (.s s::ts)) (hs:a43 s=true):c6 r s=some (adv r):=d4f h hs (c4r s)
theorem b2d {α:Type} {k:Nat} {l:List α} {x:α} (h:l.length <= 1000) (hk:k <= 1000):a8q k l [x]=some (l++[x]):=by
 refine a85 ?_
 have:(l.length+[x].length)*k <= 1001*1000:=Nat.mul_le_mul (by simp;omega) hk
 omega
end
theorem e3c {ts ts':List Tk} {c:Cl} (h:ClR ts c ts') {r:pensionref5_reader} (hr:RdrA r ts) (v:Version) (A:Acc) (hA:A.len <= 1000):
  ∃r',RdrA r' ts' /\ a3d r v A.1 A.2.1 A.2.2.1 A.2.2.2.1 A.2.2.2.2=some (r',⟨v.From,v.Rounding,[],[],[],[],[]⟩,c.app A):=by
 obtain ⟨cs,is,ls,gs,rs⟩:=A
 have hA:cs.length+is.length+ls.length+gs.length+rs.length <= 1000:=hA
 unfold a3d
 cases h with
 | credit0 h1 h2=>
   have a1:=a5v hr;have a2:=a5v a1;have a3:=a5v a2
   refine ⟨_,a3,?_⟩
   simp only [c4h hr b5c,Option.bind_some,if_true,e5b a1 h1 h2,b5v a2 d7m (show isT (.s a0j) a8g=false by kernel_rfl),Bool.false_eq_true,if_false,joinC,a1t,b2d (show cs.length <= 1000 by omega) (show 16 <= 1000 by decide),b8x a2 c00]
   rfl
 | credit h1 h2 h3 h4=>
   have a1:=a5v hr;have a2:=a5v a1;have a3:=a5v a2;have a4:=a5v a3;have a5:=a5v a4
   refine ⟨_,a5,?_⟩
   simp only [c4h hr b5c,Option.bind_some,if_true,e5b a1 h1 h2,c4h a2 d7m,c0q a3 h3 h4,joinC,a1t,b2d (show cs.length <= 1000 by omega) (show 16 <= 1000 by decide),b8x a4 c00]
   rfl
 | @index y f ts h1 h2 h3 h4=>
   have a1:=a5v hr;have a2:=a5v a1;have a3:=a5v a2;have a4:=a5v a3
   refine ⟨_,a4,?_⟩
   obtain ⟨z,hz,hk,_,_,hi⟩:=a2.cons
   have hi2:(⟨(adv (adv r)).l,i64 ((adv (adv r)).at_+1),(adv (adv r)).end_,(adv (adv r)).bad⟩:pensionref5_reader)=adv (adv (adv r)):=by rw [hi];rfl
   have h4':(f.Den==0)=false:=by simpa using h4
   simp only [b5v hr b5c (show isT (.w a56) a2h=false by kernel_rfl),c4h hr c3r,Option.bind_some,Bool.false_eq_true,if_true,if_false,c0q a1 h1 h2,b53 a2,kdT,BEq.rfl,hz,hk.2.1,decide_eq_true h3,gt_iff_lt,hi2,joinC,a1u,h4',a47,b2d (show is.length <= 1000 by omega) (show 24 <= 1000 by decide),b8x a3 c00]
   rfl
 | lett h1 h2=>
   have a1:=a5v hr;have a2:=a5v a1;have a3:=a5v a2
   obtain ⟨q,hq,e⟩:=b8l (by decide) h2 a3
   have a4:=a5v hq
   refine ⟨_,a4,?_⟩
   simp only [b5v hr b5c (show isT (.w b0r) a2h=false by kernel_rfl),b5v hr c3r (show isT (.w b0r) a56=false by kernel_rfl),c4h hr e1v,Option.bind_some,Bool.false_eq_true,if_true,if_false,d56 a1 (d5j h1),b8x a2 g2d,e,b2d (show ls.length <= 1000 by omega) (show 88 <= 1000 by decide),b8x hq c00]
   rfl
 | grant h1 h2 h3 h4=>
   have a1:=a5v hr;have a2:=a5v a1;have a3:=a5v a2
   obtain ⟨q,hq,e⟩:=b8l (by decide) h3 a3
   have a4:=a5v hq
   obtain ⟨q2,hq2,e2⟩:=b8l (by decide) h4 a4
   have a5:=a5v hq2
   refine ⟨_,a5,?_⟩
   simp only [b5v hr b5c (show isT (.w a3y) a2h=false by kernel_rfl),b5v hr c3r (show isT (.w a3y) a56=false by kernel_rfl),b5v hr e1v (show isT (.w a3y) b0r=false by kernel_rfl),c4h hr d5t,Option.bind_some,Bool.false_eq_true,if_true,if_false,e5b a1 h1 h2,c53 a2 g42,e,c53 hq f8d,e2,b2d (show gs.length <= 1000 by omega) (show 152 <= 1000 by decide),b8x hq2 c00]
   rfl
 | reduce h1 h2 h3=>
   have a1:=a5v hr;have a2:=a5v a1;have a3:=a5v a2
   obtain ⟨q,hq,e⟩:=b8l (by decide) h3 a3
   have a4:=a5v hq
   refine ⟨_,a4,?_⟩
   simp only [b5v hr b5c (show isT (.w a4h) a2h=false by kernel_rfl),b5v hr c3r (show isT (.w a4h) a56=false by kernel_rfl),b5v hr e1v (show isT (.w a4h) b0r=false by kernel_rfl),b5v hr d5t (show isT (.w a4h) a3y=false by kernel_rfl),c4h hr e1g,Option.bind_some,Bool.false_eq_true,if_true,if_false,e5b a1 h1 h2,c53 a2 g2n,e,b2d (show rs.length <= 1000 by omega) (show 80 <= 1000 by decide),b8x hq c00]
   rfl
end Go.PL
namespace Go.PL
open Go Go.SX
inductive ClsR:List Tk -> List Cl -> List Tk -> Prop
 | nil {ts:List Tk}:ClsR (.s a34::ts) [] ts
 | cons {ts us vs:List Tk} {c:Cl} {cs:List Cl}:ClR ts c us -> ClsR us cs vs -> ClsR ts (c::cs) vs
theorem ClR.head {ts us:List Tk} {c:Cl} (h:ClR ts c us): ∃t ts1,ts=t::ts1 /\ isT t a34=false:=by
 cases h<;>exact ⟨_,_,rfl,by kernel_rfl⟩
theorem Cl.app_len (c:Cl) (A:Acc):(c.app A).len=A.len+1:=by
 cases c<;>simp only [Cl.app,Acc.len,List.length_append,List.length_cons,List.length_nil]<;>omega
theorem d7x {ts ts':List Tk} {cs:List Cl} (h:ClsR ts cs ts'): ∀(r:pensionref5_reader),RdrA r ts -> ∀(A:Acc) (v:Version),A.len+cs.length <= 1000 ->
  ∃r',RdrA r' ts' /\ ∀(k:Nat) j1 j2 j3 j4 j5 jv,cs.length<k -> d8 k a0l (r,j1,j2,j3,j4,j5,jv,A.1,A.2.1,A.2.2.1,A.2.2.2.1,A.2.2.2.2,v)=
   some (⟨v.From,v.Rounding,(cs.foldl (fun A c=>c.app A) A).1,(cs.foldl (fun A c=>c.app A) A).2.1,(cs.foldl (fun A c=>c.app A) A).2.2.1,(cs.foldl (fun A c=>c.app A) A).2.2.2.1,(cs.foldl (fun A c=>c.app A) A).2.2.2.2⟩,r'):=by
 induction h with
 | nil=>
   intro r hr A v _
   refine ⟨_,a5v hr,fun k j1 j2 j3 j4 j5 jv hk=> ?_⟩
   obtain ⟨k,rfl⟩: ∃m,k=m+1:=⟨k-1,by omega⟩
   rw [i8]
   unfold a0l
   simp only [hr.bad,Bool.not_false,if_true,b3d hr c3t,c4r,Option.bind_some,Bool.not_true,Bool.false_eq_true,if_false]
   rfl
 | cons hc hcs ih=>
   rename_i ts0 us vs c cs
   intro r hr A v hA
   have hA:A.len+(cs.length+1) <= 1000:=hA
   obtain ⟨r1,hr1,e1⟩:=e3c hc hr (⟨v.From,v.Rounding,[],[],[],[],[]⟩:Version) A (by omega)
   obtain ⟨r2,hr2,e2⟩:=ih r1 hr1 (c.app A) ⟨v.From,v.Rounding,[],[],[],[],[]⟩ (by rw [Cl.app_len];omega)
   refine ⟨r2,hr2,fun k j1 j2 j3 j4 j5 jv hk=> ?_⟩
   have hk:cs.length+1<k:=hk
   obtain ⟨k,rfl⟩: ∃m,k=m+1:=⟨k-1,by omega⟩
   obtain ⟨t,ts1,rfl,ht⟩:=hc.head
   rw [i8]
   generalize hLP:d8 k a0l=LP
   unfold a0l
   simp only [hr.bad,Bool.not_false,if_true,b5v hr c3t ht,Option.bind_some,e1]
   rw [<- hLP]
   exact e2 k _ _ _ _ _ _ (by omega)
def f2a:Acc:=([],[],[],[],[])
def Cls.acc (cs:List Cl):Acc:=cs.foldl (fun A c=>c.app A) f2a
def f9j (day m u:Int) (cs:List Cl):Version:=⟨day,⟨m,u⟩,(Cls.acc cs).1,(Cls.acc cs).2.1,(Cls.acc cs).2.2.1,(Cls.acc cs).2.2.2.1,(Cls.acc cs).2.2.2.2⟩
theorem f2s:a43 b3z=true:=by kernel_rfl
theorem e0f:a43 b3b=true:=by kernel_rfl
theorem e88:a43 b1l=true:=by kernel_rfl
theorem d9i:a43 a3v=true:=by kernel_rfl
theorem d46:a43 a2m=true:=by kernel_rfl
structure VerR (ts:List Tk) (v:Version) (ts':List Tk):Prop where
 ex: ∃(day m u:Int) (x:ByteArray) (cs:List Cl) (us:List Tk),ts= .w b3z:: .d day:: .s b3b:: .w b1l:: .w x:: .n ⟨u,1⟩ 2:: .s a0j::us /\ ofW x 3=some m /\ 0<m /\ 1 <= u /\ u <= 100000 /\ ClsR us cs ts' /\ cs.length <= 900 /\ v=f9j day m u cs
theorem d7u {ts ts':List Tk} {v:Version} (h:VerR ts v ts') {r:pensionref5_reader} (hr:RdrA r ts): ∃r',RdrA r' ts' /\ a2r r=some (v,r'):=by
 obtain ⟨day,m,u,x,cs,us,rfl,h1,h2,h3,h4,h5,h6,rfl⟩:=h.ex
 have a1:=a5v hr;have a2:=a5v a1;have a3:=a5v a2;have a4:=a5v a3;have a5:=a5v a4;have a6:=a5v a5;have a7:=a5v a6
 obtain ⟨r',hr',e⟩:=d7x h5 _ a7 f2a ⟨day,⟨m,u⟩,[],[],[],[],[]⟩ (by show 0+0+0+0+0+cs.length <= 1000;omega)
 refine ⟨r',hr',?_⟩
 obtain ⟨z,hz,hk,_,_,hi⟩:=a1.cons
 have hi2:(⟨(adv r).l,i64 ((adv r).at_+1),(adv r).end_,(adv r).bad⟩:pensionref5_reader)=adv (adv r):=by rw [hi];rfl
 unfold a2r
 simp only [c53 hr f2s,Option.bind_some,b53 a1,kdT,BEq.rfl,if_true,hz,hk.2.1,hi2,joinC,a3q,b8x a2 e0f,c53 a3 e88,e5b a4 h1 h2,c0q a5 h3 h4,b8x a6 c00]
 exact e FU _ _ _ _ _ _ (by have:=e5w (k:=1000) (by decide);omega)
inductive VersR:List Tk -> List Version -> Prop
 | nil:VersR [.s a34] []
 | cons {ts us:List Tk} {v:Version} {vs:List Version}:VerR ts v us -> VersR us vs -> VersR ts (v::vs)
theorem VerR.head {ts us:List Tk} {v:Version} (h:VerR ts v us): ∃t ts1,ts=t::ts1 /\ isT t a34=false:=by
 obtain ⟨day,m,u,x,cs,vs,rfl,_⟩:=h.ex
 exact ⟨_,_,rfl,by kernel_rfl⟩
theorem d91 {nm:ByteArray} {cur:Int}: ∀(vs:List Version) (ts:List Tk) (ws:List Version) (r:pensionref5_reader),VersR ts vs -> RdrA r ts -> ws.length+vs.length <= 1000 -> a4g ⟨nm,cur,ws++vs⟩=some true ->
  ∀(k:Nat) jv js b st,(b=true -> vs≠[]) -> st.Name=nm -> st.Currency=cur -> vs.length<k -> d8 k a3z (jv,js,r,ws,st,b)=some (⟨nm,cur,ws++vs⟩,0,0):=by
 intro vs
 induction vs with
 | nil=>
   intro ts ws r h hr _ hv k jv js b st hb hn hc hk
   cases h
   obtain ⟨k,rfl⟩: ∃m,k=m+1:=⟨k-1,by omega⟩
   have hb:b=false:=by cases b with | false=>rfl | true=>exact absurd rfl (hb rfl)
   subst hb
   rw [i8]
   unfold a3z
   have a1:=a5v hr
   have hend: ¬(adv r).at_<((adv r).l.length:Int):=by
    have:=a1.all
    intro hlt
    have h2:=a1.nn
    cases hd:(adv r).l.drop (adv r).at_.toNat with
    | nil=>
      have:=congrArg List.length hd
      simp at this;omega
    | cons x y=>rw [hd] at this;exact this
   simp only [List.append_nil] at hv⊢
   simp only [hr.bad,Bool.not_false,if_true,b3d hr c3t,c4r,Option.bind_some,Bool.not_true,Bool.false_eq_true,if_false,joinC,a86,a1.bad,decide_eq_false hend,hn,hc,hv]
 | cons v vs ih=>
   intro ts ws r h hr hl hv k jv js b st hb hn hc hk
   have hl:ws.length+(vs.length+1) <= 1000:=hl
   have hk:vs.length+1<k:=hk
   cases h
   rename_i us hvr hvs
   obtain ⟨k,rfl⟩: ∃m,k=m+1:=⟨k-1,by omega⟩
   obtain ⟨r1,hr1,e1⟩:=d7u hvr hr
   obtain ⟨t,ts1,rfl,ht⟩:=hvr.head
   have ih2:=ih us (ws++[v]) r1 hvs hr1 (by simp;omega) (by rw [List.append_assoc];exact hv) k
   rw [i8]
   generalize hLP:d8 k a3z=LP at ih2⊢
   have ih3: ∀jv js st,st.Name=nm -> st.Currency=cur -> LP (jv,js,r1,ws++[v],st,false)=some (⟨nm,cur,ws++v::vs⟩,0,0):=fun jv js st h1 h2=>by
    have:=ih2 jv js false st (fun h=>by cases h) h1 h2 (by omega)
    rw [List.append_assoc] at this
    exact this
   unfold a3z
   cases b with
   | true=>
     simp only [hr.bad,Bool.not_false,if_true,joinC,a5d,e1,Option.bind_some,b2d (show ws.length <= 1000 by omega) (show 144 <= 1000 by decide)]
     exact ih3 _ _ _ hn hc
   | false=>
     simp only [hr.bad,Bool.not_false,if_true,b5v hr c3t ht,Bool.false_eq_true,if_false,joinC,a5d,e1,Option.bind_some,b2d (show ws.length <= 1000 by omega) (show 144 <= 1000 by decide)]
     exact ih3 _ _ _ hn hc
theorem e67 {s nm:ByteArray} {cur:Int} {toks:List Token} {us:List Tk} {vs:List Version} (hall:a73 s=some (toks,0,0)) (hl:toks.length <= 8000) (hrel:u4 TkR toks (.w a3v:: .w nm:: .w a2m:: .n ⟨cur,1⟩ 2:: .s b3b::us))
  (hn:e9s nm=true) (h1:1 <= cur) (h2:cur <= 999) (hvs:VersR us vs) (hne:vs≠[]) (hlen:vs.length <= 900) (hv:a4g ⟨nm,cur,vs⟩=some true):a2z s=some (⟨nm,cur,vs⟩,0,0):=by
 unfold a2z b0s
 rw [hall,Option.bind_some]
 have hr:RdrA ⟨toks,0,(s.size:Int),false⟩ (.w a3v:: .w nm:: .w a2m:: .n ⟨cur,1⟩ 2:: .s b3b::us):=⟨rfl,Int.le_refl _,hl,hrel⟩
 have a1:=a5v hr;have a2:=a5v a1;have a3:=a5v a2;have a4:=a5v a3;have a5:=a5v a4
 simp only [show ((0:Int) != 0)=false from rfl,Bool.false_eq_true,if_false,Option.bind_some,optC,c53 hr d9i,d56 a1 (d5j hn),c53 a2 d46,c0q a3 h1 h2,b8x a4 e0f]
 exact d91 vs us [] _ hvs a5 (by simp;omega) hv FU _ _ true _ (fun _=>hne) rfl rfl (by have:=e5w (k:=1000) (by decide);omega)
end Go.PL
namespace Go.PL
open Go Go.SX
theorem e1i: ∃m,FU=m+1+1:=⟨FU-2,by
 have:1000000 <= FU:=by unfold FU;decide
 omega⟩
theorem a2s:100000 <= FU:=by unfold FU;decide
def rmn (s:ByteArray) (p:Nat):List UInt8:=s.data.toList.drop p
theorem c0k (s:ByteArray):s.size=s.data.toList.length:=by rw [Array.length_toList];rfl
section
variable {s:ByteArray} {p:Nat} {c:UInt8} {rest w:List UInt8}
theorem c97 (h:rmn s p=c::rest):p<s.size:=by
 have:=congrArg List.length h
 unfold rmn at this
 rw [c0k];simp at this ⊢; omega
theorem d78:rmn s p=[]↔s.size <= p:=by unfold rmn;rw [List.drop_eq_nil_iff,c0k]
theorem d2g {a:List UInt8} (h:rmn s p=a++rest):rmn s (p+a.length)=rest:=by
 unfold rmn at*
 rw [<- List.drop_drop,h,List.drop_left]
theorem c6b (h:rmn s p=c::rest):rmn s (p+1)=rest:=d2g (a:=[c]) h
theorem c22 {a:List UInt8} (h:rmn s p=a++rest) (hp:p <= s.size):p+a.length <= s.size:=by
 have:=congrArg List.length h
 unfold rmn at this
 rw [c0k] at *; simp at this hp ⊢; omega
theorem c2r (h:rmn s p=c::rest):b03 s (p:Int)=some (c.toNat:Int):=by
 unfold b03
 rw [if_pos (by omega)]
 have hlt:=c97 h
 have hg:s[p]? =some c:=by
  rw [getElem?_pos s p hlt]
  have h2:s.data.toList[p]? =some c:=by
   have:=congrArg List.head? h
   unfold rmn at this
   simpa [List.head?_drop] using this
  rw [List.getElem?_eq_some_iff] at h2
  obtain ⟨_,h3⟩:=h2
  rw [<- h3];rfl
 rw [Int.toNat_natCast,hg];rfl
theorem b9e {a:List UInt8} (h:rmn s p=a++rest) (hp:p <= s.size):b6q s (p:Int) ((p:Int)+(a.length:Int))=some ⟨a.toArray⟩:=by
 unfold b6q
 have:=c22 h hp
 rw [if_pos ⟨by omega,by omega,by omega⟩]
 congr 1
 apply ByteArray.ext
 apply Array.ext'
 rw [ByteArray.data_extract,Array.toList_extract,List.extract_eq_take_drop,Int.toNat_natCast,show ((p:Int)+(a.length:Int)).toNat=p+a.length by omega]
 unfold rmn at h
 rw [h,show p+a.length-p=a.length by omega,List.take_left]
end
def iv (c:UInt8):Int:=(c.toNat:Int)
def d3p (b:Bool) (c:UInt8):Bool:=d87 (iv c)||c9a (iv c)||(iv c==95)||(b&&(iv c==46))
theorem f8v {s:ByteArray} (hs:s.size <= 8000) (p:Nat) (b:Bool) (rest:List UInt8) (hr: ∀c r,rest=c::r -> d3p b c=false):
  ∀(w:List UInt8) (n k:Nat),rmn s (p+n)=w++rest -> p+n <= s.size -> (∀c∈w,d3p b c=true) -> w.length<k -> d8 k (a55 (p:Int) s b) (n:Int)=some ((n+w.length:Nat):Int):=by
 have one: ∀(n:Nat) (c:UInt8) (r:List UInt8) (rec:Int -> Option Int),rmn s (p+n)=c::r -> a55 (p:Int) s b rec (n:Int)=if d3p b c=true then rec ((n+1:Nat):Int) else some (n:Int):=by
  intro n c r rec h
  have hlt:=c97 h
  have hi:i64 ((p:Int)+(n:Int))=((p+n:Nat):Int):=by rw [j8 (by omega) (by omega)];omega
  unfold a55
  rw [hi]
  have h3:b03 s ((p+n:Nat):Int)=some (iv c):=c2r h
  rw [if_pos (by simp;omega)]
  simp only [h3,Option.bind_some,d0k,d07,b1m,a5n]
  rw [show i64 ((n:Int)+1)=((n+1:Nat):Int) by rw [b5a (by omega) (by omega)];omega]
  rfl
 intro w
 induction w with
 | nil=>
   intro n k h hp _ hk
   obtain ⟨k,rfl⟩: ∃m,k=m+1:=⟨k-1,by simp at hk;omega⟩
   rw [i8]
   cases rest with
   | nil=>
     have h0:=d78.1 h
     unfold a55
     have hi:i64 ((p:Int)+(n:Int))=((p+n:Nat):Int):=by rw [j8 (by omega) (by omega)];omega
     rw [hi,if_neg (by simp;omega)]
     rfl
   | cons c r=>rw [one n c r _ h,if_neg (by rw [hr c r rfl];decide)];rfl
 | cons c w ih=>
   intro n k h hp hw hk
   have hk:w.length+1<k:=hk
   obtain ⟨k,rfl⟩: ∃m,k=m+1:=⟨k-1,by omega⟩
   have hlt:=c97 h
   rw [i8,one n c (w++rest) _ h,if_pos (hw c (by simp)),ih (n+1) k (c6b h) (by omega) (fun c hc=>hw c (List.mem_cons_of_mem _ hc)) (by omega)]
   congr 2
   simp;omega
theorem f1e {s:ByteArray} (hs:s.size <= 8000) {p:Nat} {b:Bool} {w rest:List UInt8} (h:rmn s p=w++rest) (hp:p <= s.size) (hr: ∀c r,rest=c::r -> d3p b c=false) (hw: ∀c∈w,d3p b c=true):a4i s (p:Int) b=some (w.length:Int):=by
 have hl:=c22 h hp
 have:=f8v hs p b rest hr w 0 FU h (by omega) hw (by have:=a2s;omega)
 unfold a4i
 simpa using this
def blk (b:Bool):List UInt8:=bif b then [32] else []
def d8n (c:UInt8):Bool:= !(iv c==10)&& !(iv c==35)&&(iv c != 9)&&(iv c != 13)&&(iv c != 32)
theorem e3j {s:ByteArray} (hs:s.size <= 8000) {p:Nat} {b:Bool} {w:List UInt8} (h:rmn s p=blk b++w) (hp:p <= s.size) (hw: ∀c r,w=c::r -> d8n c=true):a65 s (p:Int)=some ((p+(blk b).length:Nat):Int):=by
 have one: ∀(q k:Nat),rmn s q=w -> q <= s.size -> d8 (k+1) (a4n s) ((q:Int),false)=some (q:Int):=by
  intro q k h hq
  rw [i8]
  unfold a4n
  cases w with
  | nil=>
    have:=d78.1 h
    rw [if_neg (by simp;omega)]
  | cons c r=>
    have hlt:=c97 h
    have h3:b03 s (q:Int)=some (iv c):=c2r h
    have hc:=hw c r rfl
    unfold d8n at hc
    simp only [Bool.and_eq_true,Bool.not_eq_true'] at hc
    obtain ⟨⟨⟨⟨h1,h2⟩,h4⟩,h5⟩,h6⟩:=hc
    rw [if_pos (by simp;omega)]
    simp only [h3,Option.bind_some,h1,h2,h4,h5,h6,Bool.false_eq_true,if_false,Bool.not_false,if_true]
 unfold a65
 obtain ⟨m,hm⟩:=e1i
 rw [hm]
 cases b with
 | false=>exact one p (m+1) h hp
 | true=>
   have h:rmn s p=32::w:=h
   have hlt:=c97 h
   have h3:b03 s (p:Int)=some (32:Int):=c2r h
   rw [i8]
   generalize hLP:d8 (m+1) (a4n s)=LP
   unfold a4n
   rw [if_pos (by simp;omega)]
   simp only [h3,Option.bind_some,show ((32:Int)==10)=false from rfl,show ((32:Int)==35)=false from rfl,show ((32:Int) != 9)=true from rfl,show ((32:Int) != 13)=true from rfl,show ((32:Int) != 32)=false from rfl,Bool.false_eq_true,if_false,Bool.not_false,if_true]
   rw [b5a (by omega) (by omega),<- hLP,show (p:Int)+1=((p+1:Nat):Int) by omega]
   exact one (p+1) m (c6b h) (by omega)
end Go.PL
namespace Go.PL
open Go Go.SX
def b9u (p:UInt8 -> Bool) (rest:List UInt8):Prop:= ∀c r,rest=c::r -> p c=false
def e0v (c:UInt8):Bool:=[60,62,61,43,45,42,47,40,41,123,125,44,59].any fun n=>iv c==n
inductive LxOK:Tk -> List UInt8 -> List UInt8 -> Prop
 | w {c:UInt8} {w rest:List UInt8}:d87 (iv c)=true -> (∀x∈c::w,d3p false x=true) -> (c::w).length <= 12 -> b9u (d3p false) rest -> LxOK (.w ⟨(c::w).toArray⟩) (c::w) rest
 | n {c:UInt8} {w rest:List UInt8} {v:Fraction} {d:Int} {x y:ByteArray}:c9a (iv c)=true -> d87 (iv c)=false -> (∀x∈c::w,d3p true x=true) -> b9u (d3p true) rest -> a0o ⟨(c::w).toArray⟩=some (x,y,d,true) -> y2 ⟨(c::w).toArray⟩=some (v,d,true) -> LxOK (.n v d) (c::w) rest
 | d {w rest:List UInt8} {day:Int}:w.length=10 -> a2f ⟨w.toArray⟩=some (day,true) -> LxOK (.d day) (64::w) rest
 | s1 {c:UInt8} {rest:List UInt8}:e0v c=true -> (((iv c==60)=false /\ (iv c==62)=false) \/ b9u (fun c=>iv c==61||iv c==62) rest) -> LxOK (.s ⟨#[c]⟩) [c] rest
 | s2 {c c2:UInt8} {rest:List UInt8}:(c,c2)=(60,61) \/ (c,c2)=(62,61) \/ (c,c2)=(60,62) -> LxOK (.s ⟨#[c,c2]⟩) [c,c2] rest
theorem e5k {c:UInt8} {w:List UInt8}:a43 ⟨(c::w).toArray⟩=(!(48 <= c.toNat&&c.toNat <= 57)&& !c.toNat==64):=by
 unfold a43
 rw [ByteArray.toList_eq]
theorem e1d {s:ByteArray} (hs:s.size <= 8000) {q:Nat} {w rest:List UInt8} (h:rmn s q=w++rest) (hq:q <= s.size) (k:Int) (t0:Token):
  u7 (s,(q:Int),t0,k,(w.length:Int),true)=some (⟨k,⟨w.toArray⟩,(q:Int)⟩,((q+w.length:Nat):Int),0):=by
 have hl:=c22 h hq
 unfold u7
 have hi:i64 ((q:Int)+(w.length:Int))=(q:Int)+(w.length:Int):=j8 (by omega) (by omega)
 simp only [Bool.not_true,Bool.false_eq_true,if_false,hi,b9e h hq,Option.bind_some]
 rfl
theorem e6y {s:ByteArray} (hs:s.size <= 8000) {q:Nat} {c:UInt8} {rest:List UInt8} (h:rmn s q=c::rest) (h1:e0v c=true) (h2:((iv c==60)=false /\ (iv c==62)=false) \/ b9u (fun c=>iv c==61||iv c==62) rest):a3r s (q:Int)=some 1:=by
 have hlt:=c97 h
 have h3:b03 s (q:Int)=some (iv c):=c2r h
 have hj:joinC a62 (s,(q:Int))=some 1:=by
  unfold joinC a62
  simp only [h3,Option.bind_some]
  unfold e0v at h1
  simp only [List.any_cons,List.any_nil,Bool.or_false,Bool.or_eq_true] at h1
  rcases h1 with h1 | h1 | h1 | h1 | h1 | h1 | h1 | h1 | h1 | h1 | h1 | h1 | h1<;>(rw [eq_of_beq h1];rfl)
 unfold a3r
 have hi:i64 ((q:Int)+1)=((q+1:Nat):Int):=by rw [b5a (by omega) (by omega)];omega
 rw [hi]
 by_cases hlt2:q+1<s.size
 ·rw [if_pos (by simp;omega)]
  cases rest with
  | nil=>exact absurd (d78.1 (c6b h)) (by omega)
  | cons c2 r=>
    have hs2:b6q s (q:Int) (i64 ((q:Int)+2))=some ⟨#[c,c2]⟩:=by
     have:=b9e (s:=s) (p:=q) (a:=[c,c2]) (rest:=r) h (by omega)
     rw [j8 (by omega) (by omega)]
     exact this
    simp only [hs2,Option.bind_some,b1m]
    have key: ∀(a b:UInt8) (x:ByteArray),x=⟨#[a,b]⟩ -> (iv a==60||iv a==62)=true -> (iv b==61||iv b==62)=true -> (((⟨#[c,c2]⟩:ByteArray).toList==x.toList))=false:=by
     intro a b x hx ha hb
     subst hx
     cases he:((⟨#[c,c2]⟩:ByteArray).toList==(⟨#[a,b]⟩:ByteArray).toList) with
     | false=>rfl
     | true=>
       have he:=eq_of_beq he
       rw [ByteArray.toList_eq,ByteArray.toList_eq] at he
       have he:[c,c2]=[a,b]:=he
       injection he with e1 e2
       injection e2 with e2 _
       subst e1;subst e2
       rcases h2 with ⟨g1,g2⟩ | g
       ·rw [g1,g2] at ha;cases ha
       ·have g:=g c2 r rfl
        have g:(iv c2==61||iv c2==62)=false:=g
        rw [g] at hb;cases hb
    rw [key 60 61 b5n rfl (by decide) (by decide),key 62 61 a5p rfl (by decide) (by decide),key 60 62 b5h rfl (by decide) (by decide)]
    exact hj
 ·rw [if_neg (by simp;omega)]
  exact hj
theorem e8d {s:ByteArray} (hs:s.size <= 8000) {q:Nat} {c c2:UInt8} {rest:List UInt8} (h:rmn s q=c::c2::rest) (h1:(c,c2)=(60,61) \/ (c,c2)=(62,61) \/ (c,c2)=(60,62)):a3r s (q:Int)=some 2:=by
 have hlt:=c97 h
 have hlt2:=c97 (c6b h)
 unfold a3r
 have hi:i64 ((q:Int)+1)=((q+1:Nat):Int):=by rw [b5a (by omega) (by omega)];omega
 rw [hi,if_pos (by simp;omega)]
 have hs2:b6q s (q:Int) (i64 ((q:Int)+2))=some ⟨#[c,c2]⟩:=by
  have:=b9e (s:=s) (p:=q) (a:=[c,c2]) (rest:=rest) h (by omega)
  rw [j8 (by omega) (by omega)]
  exact this
 simp only [hs2,Option.bind_some,b1m,ByteArray.toList_eq]
 rcases h1 with h1 | h1 | h1<;>(injection h1 with e1 e2;subst e1;subst e2;rfl)
theorem f5b {s:ByteArray} (hs:s.size <= 8000) {p:Nat} {b:Bool} {t:Tk} {w rest:List UInt8} (h:rmn s p=blk b++(w++rest)) (hp:p <= s.size) (hl:LxOK t w rest):
  ∃tok,TkR tok t /\ (tok.Kind==0)=false /\ a4y s (p:Int)=some (tok,((p+(blk b).length+w.length:Nat):Int),0) /\ p+(blk b).length+w.length <= s.size /\ 1 <= w.length:=by
 have hq:rmn s (p+(blk b).length)=w++rest:=d2g h
 have hqs:=c22 h hp
 obtain ⟨q,hqe⟩: ∃q,p+(blk b).length=q:=⟨_,rfl⟩
 have hsk:(∀c r,w++rest=c::r -> d8n c=true) -> a65 s (p:Int)=some (q:Int):=fun hh=>by rw [<- hqe];exact e3j hs h hp hh
 rw [hqe] at hq hqs⊢
 have hws:=c22 hq hqs
 have head: ∀(c:UInt8) (r:List UInt8),w++rest=c::r -> d8n c=true -> ∀o,(∀v3,v3=iv c -> q<s.size -> (if d87 v3=true then
   (a4i s (q:Int) false).bind fun v5=>joinC u7 (s,(q:Int),(⟨0,a1v,0⟩:Token),1,v5,decide (v5 <= 12))
  else if c9a v3=true then
   (a4i s (q:Int) true).bind fun v10=>(b6q s (q:Int) (i64 ((q:Int)+v10))).bind fun v11=>(a0o v11).bind fun v12=>joinC u7 (s,(q:Int),(⟨0,a1v,0⟩:Token),2,v10,v12.2.2.2)
  else if (v3==64)=true then
   (if decide ((i64 ((s.size:Int)-(q:Int))) >= 11)=true then (b6q s (i64 ((q:Int)+1)) (i64 ((q:Int)+11))).bind fun v14=>(a2f v14).bind fun v15=>joinC u7 (s,(q:Int),(⟨0,a1v,0⟩:Token),3,11,v15.2)
    else joinC u7 (s,(q:Int),(⟨0,a1v,0⟩:Token),3,11,decide ((i64 ((s.size:Int)-(q:Int))) >= 11)))
  else (a3r s (q:Int)).bind fun v16=>joinC u7 (s,(q:Int),(⟨0,a1v,0⟩:Token),4,v16,decide (v16>0)))=o) -> a4y s (p:Int)=o:=by
  intro c r hw hsol o ho
  have hc:rmn s q=c::r:=by rw [hq,hw]
  have hlt:=c97 hc
  have h3:b03 s (q:Int)=some (iv c):=c2r hc
  unfold a4y
  have e1:(decide ((p:Int)<0))=false:=by simp
  have e2:(decide ((p:Int)>(s.size:Int)))=false:=by simp;omega
  have e3:((q:Int)==(s.size:Int))=false:=by simp;omega
  simp only [e1,e2,b1m,Bool.or_false,Bool.false_eq_true,if_false,Option.bind_some,hsk (fun c' r' h'=>by rw [hw] at h';injection h' with a _;rw [<- a];exact hsol),e3,h3,d0k,d07]
  exact ho _ rfl hlt
 have ns: ∀c:UInt8,d8n c=true↔ ¬(iv c=10 \/ iv c=35 \/ iv c=9 \/ iv c=13 \/ iv c=32):=fun c=>by unfold d8n;simp;omega
 cases hl with
 | w h1 h2 h3 h4=>
   rename_i c w
   have hr:=f1e hs (b:=false) hq (by omega) h4 h2
   refine ⟨⟨1,⟨(c::w).toArray⟩,(q:Int)⟩,⟨rfl,rfl⟩,rfl,?_,by omega,by simp⟩
   refine head c (w++rest) rfl ((ns c).2 (by unfold d87 at h1;simp at h1;omega)) _ fun v3 hv _=> ?_
   subst hv
   rw [if_pos h1,hr,Option.bind_some,decide_eq_true (show ((c::w).length:Int) <= 12 by omega)]
   exact e1d hs hq (by omega) 1 _
 | n h1 h2 h3 h4 h5 h6=>
   rename_i c w v d x y
   have hr:=f1e hs (b:=true) hq (by omega) h4 h3
   refine ⟨⟨2,⟨(c::w).toArray⟩,(q:Int)⟩,⟨rfl,h6,?_⟩,rfl,?_,by omega,by simp⟩
   ·rw [e5k]
    unfold c9a iv at h1
    simp at h1⊢
    omega
   ·refine head c (w++rest) rfl ((ns c).2 (by unfold c9a at h1;simp at h1;omega)) _ fun v3 hv _=> ?_
    subst hv
    have hss:=b9e (s:=s) (p:=q) (a:=c::w) (rest:=rest) hq (by omega)
    rw [if_neg (by rw [h2];decide),if_pos h1,hr,Option.bind_some,j8 (by omega) (by omega),hss,Option.bind_some,h5,Option.bind_some]
    exact e1d hs hq (by omega) 2 _
 | d h1 h2=>
   rename_i w day
   have hs1:=b9e (s:=s) (p:=q+1) (a:=w) (rest:=rest) (c6b hq) (by simp at hws;omega)
   have hl11:((64:UInt8)::w).length=11:=by simp [h1]
   refine ⟨⟨3,⟨(64::w).toArray⟩,(q:Int)⟩,⟨rfl,?_,?_⟩,rfl,?_,by omega,by simp⟩
   ·show a5h ⟨(64::w).toArray⟩=some day
    unfold a5h
    have hsz:(⟨(64::w).toArray⟩:ByteArray).size=11:=by rw [c0k];exact hl11
    have h4:=b9e (s:=⟨(64::w).toArray⟩) (p:=1) (a:=w) (rest:=[]) (by simp [rmn]) (by omega)
    have h4:b6q (⟨(64::w).toArray⟩:ByteArray) 1 ((⟨(64::w).toArray⟩:ByteArray).size:Int)=some ⟨w.toArray⟩:=by
     rw [hsz]
     rw [h1] at h4
     exact h4
    rw [h4,Option.bind_some,h2]
    rfl
   ·rw [e5k];rfl
   ·refine head 64 (w++rest) rfl rfl _ fun v3 hv hlt=> ?_
    subst hv
    rw [if_neg (by decide),if_neg (by decide),if_pos (by decide),if_pos (by rw [j8 (by omega) (by omega)];simp;omega)]
    rw [b5a (by omega) (by omega),j8 (n:=(q:Int)+11) (by omega) (by omega)]
    have hs1:b6q s ((q:Int)+1) ((q:Int)+11)=some ⟨w.toArray⟩:=by
     rw [h1] at hs1
     rw [show (q:Int)+1=((q+1:Nat):Int) by omega,show (q:Int)+11=((q+1:Nat):Int)+((10:Nat):Int) by omega]
     exact hs1
    rw [hs1,Option.bind_some,h2,Option.bind_some]
    have:=e1d hs hq (by omega) 3 ⟨0,a1v,0⟩
    rw [hl11] at this⊢
    exact this
 | s1 h1 h2=>
   rename_i c
   have hs1:=e6y hs (rest:=rest) hq h1 h2
   have h10:iv c=60 \/ iv c=62 \/ iv c=61 \/ iv c=43 \/ iv c=45 \/ iv c=42 \/ iv c=47 \/ iv c=40 \/ iv c=41 \/ iv c=123 \/ iv c=125 \/ iv c=44 \/ iv c=59:=by
    unfold e0v at h1
    simpa using h1
   refine ⟨⟨4,⟨#[c]⟩,(q:Int)⟩,⟨rfl,rfl⟩,rfl,?_,by omega,by simp⟩
   refine head c rest rfl ((ns c).2 (by omega)) _ fun v3 hv _=> ?_
   subst hv
   rw [if_neg (by unfold d87;simp;omega),if_neg (by unfold c9a;simp;omega),if_neg (by simp;omega),hs1,Option.bind_some]
   exact e1d hs hq (by omega) 4 _
 | s2 h1=>
   rename_i c c2
   have hs1:=e8d hs (rest:=rest) hq h1
   have h10:iv c=60 \/ iv c=62:=by rcases h1 with h1 | h1 | h1<;>(injection h1 with e1 e2;subst e1;subst e2;decide)
   refine ⟨⟨4,⟨#[c,c2]⟩,(q:Int)⟩,⟨rfl,rfl⟩,rfl,?_,by omega,by simp⟩
   refine head c (c2::rest) rfl ((ns c).2 (by omega)) _ fun v3 hv _=> ?_
   subst hv
   rw [if_neg (by unfold d87;simp;omega),if_neg (by unfold c9a;simp;omega),if_neg (by simp;omega),hs1,Option.bind_some]
   exact e1d hs hq (by omega) 4 _
structure Lx where
 t:Tk
 w:List UInt8
 sp:Bool
def a0a:List Lx -> List UInt8
 | []=>[]
 | l::ls=>l.w++(blk l.sp++a0a ls)
def okL:List Lx -> Prop
 | []=>True
 | l::ls=>LxOK l.t l.w (blk l.sp++a0a ls) /\ okL ls
theorem f9q {s:ByteArray} (hs:s.size <= 8000): ∀(ls:List Lx) (p:Nat) (b:Bool) (acc:List Token) (k:Nat),rmn s p=blk b++a0a ls -> p <= s.size -> okL ls -> acc.length <= p -> ls.length<k ->
  ∃toks,d8 k (a52 s) (acc,(p:Int))=some (acc++toks,0,0) /\ u4 TkR toks (ls.map (·.t)) /\ acc.length+toks.length <= s.size:=by
 intro ls
 induction ls with
 | nil=>
   intro p b acc k h hp _ ha hk
   obtain ⟨k,rfl⟩: ∃m,k=m+1:=⟨k-1,by simp at hk;omega⟩
   have hsk:=e3j (w:=[]) hs h hp (fun _ _ h=>by cases h)
   have hq:rmn s (p+(blk b).length)=[]:=d2g (rest:=[]) h
   have hq2:=c22 (rest:=[]) h hp
   have hq1:=d78.1 hq
   refine ⟨[],?_,trivial,by simp;omega⟩
   rw [i8]
   unfold a52 a4y
   have e1:(decide ((p:Int)<0))=false:=by simp
   have e2:(decide ((p:Int)>(s.size:Int)))=false:=by simp;omega
   have e3:(((p+(blk b).length:Nat):Int)==(s.size:Int))=true:=by simp;omega
   simp only [e1,e2,b1m,Bool.or_false,Bool.false_eq_true,if_false,Option.bind_some,hsk,e3,if_true,List.append_nil,show ((0:Int) != 0)=false from rfl,BEq.rfl]
 | cons l ls ih=>
   intro p b acc k h hp hok ha hk
   have hk:ls.length+1<k:=hk
   obtain ⟨k,rfl⟩: ∃m,k=m+1:=⟨k-1,by omega⟩
   obtain ⟨tok,ht,hkd,hn,hle,h1⟩:=f5b hs h hp hok.1
   have hrm:rmn s (p+(blk b).length+l.w.length)=blk l.sp++a0a ls:=d2g (d2g h)
   obtain ⟨toks,e,hrel,hlen⟩:=ih (p+(blk b).length+l.w.length) l.sp (acc++[tok]) k hrm hle hok.2 (by simp;omega) (by omega)
   refine ⟨tok::toks,?_,⟨ht,hrel⟩,by simp at hlen ⊢; omega⟩
   rw [i8]
   generalize hLP:d8 k (a52 s)=LP at e⊢
   unfold a52
   simp only [hn,Option.bind_some,show ((0:Int) != 0)=false from rfl,Bool.false_eq_true,if_false,hkd]
   rw [show a8q 32 acc [tok]=some (acc++[tok]) from a85 (by simp;omega),Option.bind_some,e,List.append_assoc]
   rfl
theorem e35 {s:ByteArray} (hs:s.size <= 8000) (ls:List Lx) (h:s.data.toList=a0a ls) (hok:okL ls) (hl:ls.length <= 8000): ∃toks,a73 s=some (toks,0,0) /\ u4 TkR toks (ls.map (·.t)) /\ toks.length <= 8000:=by
 obtain ⟨toks,e,h1,h2⟩:=f9q hs ls 0 false [] FU h (Nat.zero_le _) hok (Nat.zero_le _) (by have:=a2s;omega)
 refine ⟨toks,?_,h1,by simp at h2;omega⟩
 unfold a73
 rw [if_neg (by simp;omega)]
 exact e
end Go.PL
namespace Go.PL
open Go Go.SX
def d9y (l:List UInt8):Int:=l.foldl (fun x c=>x*10+(iv c-48)) 0
theorem c68 (l:List UInt8) (c:UInt8):d9y (l++[c])=d9y l*10+(iv c-48):=by simp [d9y]
theorem e9q {d:Nat} (h:d<10):iv (UInt8.ofNat (48+d))=48+(d:Int):=by
 have:d=0 \/ d=1 \/ d=2 \/ d=3 \/ d=4 \/ d=5 \/ d=6 \/ d=7 \/ d=8 \/ d=9:=by omega
 rcases this with rfl | rfl | rfl | rfl | rfl | rfl | rfl | rfl | rfl | rfl<;>rfl
structure Dg (n:Nat) (l:List UInt8):Prop where
 dig: ∀c∈l,c9a (iv c)=true
 val:d9y l=(n:Int)
 ne:l≠[]
 hd:1<l.length -> ∀c r,l=c::r -> iv c≠48
theorem e30: ∀(k u:Nat),u<10^(k+1) -> Dg u (a8a k u):=by
 have one: ∀u,u<10 -> Dg u [UInt8.ofNat (48+u)]:=fun u hu=>by
  have h:=e9q hu
  exact ⟨fun c hc=>by rw [List.mem_singleton] at hc;subst hc;rw [h];unfold c9a;simp;omega,by show (0:Int)*10+(iv (UInt8.ofNat (48+u))-48)=_;rw [h];omega,by simp,fun h=>by simp at h⟩
 intro k
 induction k with
 | zero=>intro u h;exact one u (by simpa using h)
 | succ k ih=>
   intro u h
   unfold a8a
   split
   ·exact one u (by assumption)
   ·rename_i hu
    have hq:=ih (u/10) (by rw [Nat.pow_succ] at h;omega)
    have h:=e9q (d:=u%10) (by omega)
    refine ⟨fun c hc=> ?_,?_,by simp,fun hl c r he=> ?_⟩
    ·rcases List.mem_append.1 hc with hc | hc
     ·exact hq.dig c hc
     ·rw [List.mem_singleton] at hc;subst hc;rw [h];unfold c9a;simp;omega
    ·rw [c68,hq.val,h];omega
    ·cases hb:a8a k (u/10) with
     | nil=>exact absurd hb hq.ne
     | cons x y=>
       rw [hb] at he
       have hx:x=c:=by injection he
       subst hx
       cases y with
       | nil=>
         have:=hq.val
         rw [hb] at this
         simp [d9y] at this
         omega
       | cons z t=>exact hq.hd (by rw [hb];simp) x (z::t) hb
theorem c15: ∀(k u m:Nat),u<10^(m+1) -> (a8a k u).length <= m+1
 | 0,u,m,h=>by simp [a8a]
 | k+1,u,m,h=>by
   unfold a8a
   split
   ·simp
   ·rename_i hu
    cases m with
    | zero=>simp at h;omega
    | succ m=>
      have:=c15 k (u/10) m (by rw [Nat.pow_succ] at h;omega)
      simp;omega
theorem e1k {d:Nat} (h:d<10):b6q a4e (d:Int) (i64 ((d:Int)+1))=some ⟨#[UInt8.ofNat (48+d)]⟩:=by
 have:d=0 \/ d=1 \/ d=2 \/ d=3 \/ d=4 \/ d=5 \/ d=6 \/ d=7 \/ d=8 \/ d=9:=by omega
 rcases this with rfl | rfl | rfl | rfl | rfl | rfl | rfl | rfl | rfl | rfl<;>rfl
theorem d0w {a b:List UInt8} (h:a.length+b.length <= 100000):a4l ⟨a.toArray⟩ ⟨b.toArray⟩=some ⟨(a++b).toArray⟩:=by
 unfold a4l
 rw [if_pos (by rw [c0k,c0k];simp;omega)]
 congr 1
theorem e3t: ∀(k u:Nat) (acc:List UInt8) (j:Nat),u<10^(k+1) -> u<1000000 -> acc.length+k <= 1000 -> k<j -> d8 j a0y ((u:Int),⟨acc.toArray⟩)=some ⟨(a8a k u++acc).toArray⟩:=by
 have last: ∀(u:Nat) (acc:List UInt8) (r:(Int×ByteArray) -> Option ByteArray),u<10 -> acc.length <= 1000 -> a0y r ((u:Int),⟨acc.toArray⟩)=some ⟨([UInt8.ofNat (48+u)]++acc).toArray⟩:=by
  intro u acc r hu ha
  unfold a0y
  rw [if_neg (by simp;omega)]
  show (b6q a4e (u:Int) (i64 ((u:Int)+1))).bind _=_
  rw [e1k hu,Option.bind_some]
  have:=d0w (a:=[UInt8.ofNat (48+u)]) (b:=acc) (by simp;omega)
  show (a4l ⟨#[UInt8.ofNat (48+u)]⟩ ⟨acc.toArray⟩).bind _=_
  rw [show (⟨#[UInt8.ofNat (48+u)]⟩:ByteArray)=⟨[UInt8.ofNat (48+u)].toArray⟩ from rfl,this,Option.bind_some]
 intro k
 induction k with
 | zero=>
   intro u acc j h _ ha hj
   obtain ⟨j,rfl⟩: ∃m,j=m+1:=⟨j-1,by omega⟩
   rw [i8]
   exact last u acc _ (by simpa using h) (by omega)
 | succ k ih=>
   intro u acc j h h6 ha hj
   obtain ⟨j,rfl⟩: ∃m,j=m+1:=⟨j-1,by omega⟩
   rw [i8]
   unfold a8a
   split
   ·exact last u acc _ (by assumption) (by omega)
   ·rename_i hu
    have ih:=ih (u/10) (UInt8.ofNat (48+u%10)::acc) j (by rw [Nat.pow_succ] at h;omega) (by omega) (by simp;omega) (by omega)
    generalize d8 j a0y=LP at ih⊢
    unfold a0y
    rw [if_pos (by simp;omega)]
    have hr:b46 (u:Int) 10=some ((u%10:Nat):Int):=by unfold b46;rw [if_neg (by decide),Int.tmod_eq_emod_of_nonneg (by omega)];congr 1
    have hq:b7a (u:Int) 10=some ((u/10:Nat):Int):=by unfold b7a;rw [if_neg (by decide),Int.tdiv_eq_ediv_of_nonneg (by omega),j8 (by omega) (by omega)];congr 1
    simp only [hr,hq,Option.bind_some,e1k (show u%10<10 by omega)]
    have:=d0w (a:=[UInt8.ofNat (48+u%10)]) (b:=acc) (by simp;omega)
    rw [show (⟨#[UInt8.ofNat (48+u%10)]⟩:ByteArray)=⟨[UInt8.ofNat (48+u%10)].toArray⟩ from rfl,this,Option.bind_some,List.append_assoc]
    exact ih
theorem b6d {u:Nat} (h:u<1000000):k6 (u:Int)=some ⟨(a8a 20 u).toArray⟩:=by
 have:=e3t 20 u [] FU (by omega) h (by decide) (by have:=a2s;omega)
 rw [List.append_nil] at this
 exact this
end Go.PL
namespace Go.PL
open Go Go.SX
theorem d0y (l:List UInt8):(⟨l.toArray⟩:ByteArray).size=l.length:=by rw [c0k]
theorem b6y {l:List UInt8} {i:Nat} {c:UInt8} (h:l[i]? =some c):b03 ⟨l.toArray⟩ (i:Int)=some (iv c):=by
 refine c2r (rest:=l.drop (i+1)) ?_
 unfold rmn
 have hlt:=(List.getElem?_eq_some_iff.1 h).1
 show l.drop i=_
 rw [List.drop_eq_getElem_cons hlt,(List.getElem?_eq_some_iff.1 h).2]
theorem d13 {a b:List UInt8}:b6q ⟨(a++b).toArray⟩ 0 (a.length:Int)=some ⟨a.toArray⟩:=by
 have:=b9e (s:=⟨(a++b).toArray⟩) (p:=0) (a:=a) (rest:=b) rfl (Nat.zero_le _)
 simpa using this
theorem b7b {c:UInt8} (h:c9a (iv c)=true):48 <= iv c /\ iv c <= 57:=by unfold c9a at h;simpa using h
section
variable {n:Nat} {l:List UInt8}
theorem c2n (h:Dg n l) (hl:l.length <= 9) (d:Int):joinC a40 (⟨l.toArray⟩,d)=some (⟨l.toArray⟩,a1v,d,true):=by
 have hpos:1 <= l.length:=by cases l with | nil=>exact absurd rfl h.ne | cons _ _=>simp
 have j2: ∀(m i k:Nat),i+m=l.length -> m<k -> d8 k (a3x (d,⟨l.toArray⟩,a1v)) (i:Int)=some (⟨l.toArray⟩,a1v,d,true):=by
  intro m
  induction m with
  | zero=>
    intro i k hi hk
    obtain ⟨k,rfl⟩: ∃m,k=m+1:=⟨k-1,by omega⟩
    rw [i8]
    unfold a3x
    have hz:i64 ((l.length:Int)+(a1v.size:Int))=(l.length:Int):=by
     have h0:(l.length:Int)+(a1v.size:Int)=(l.length:Int):=by rw [show a1v.size=0 from rfl];simp
     rw [h0,j8 (by omega) (by omega)]
    simp only [d0y,hz]
    rw [if_neg (by simp;omega)]
    have e1:decide ((l.length:Int)<1)=false:=by simp;omega
    have e2:decide ((l.length:Int)>9)=false:=by simp;omega
    simp only [e1,e2,Bool.false_eq_true,if_false,Option.bind_some]
    by_cases h1:1<l.length
    ·cases hc:l with
     | nil=>exact absurd hc h.ne
     | cons c r=>
       have hc0:=h.hd h1 c r hc
       rw [hc] at h1
       have e3:decide (((c::r).length:Int)>1)=true:=by simp at h1 ⊢; omega
       have h0:b03 ⟨(c::r).toArray⟩ 0=some (iv c):=b6y (i:=0) rfl
       have e4:(iv c==48)=false:=by simpa using hc0
       simp only [e3,if_true,h0,Option.bind_some,e4,Bool.false_eq_true,if_false]
    ·have e3:decide ((l.length:Int)>1)=false:=by simp;omega
     simp only [e3,Bool.false_eq_true,if_false,Option.bind_some]
  | succ m ih=>
    intro i k hi hk
    obtain ⟨k,rfl⟩: ∃m,k=m+1:=⟨k-1,by omega⟩
    have ih:=ih (i+1) k (by omega) (by omega)
    rw [i8]
    generalize d8 k (a3x (d,⟨l.toArray⟩,a1v))=LP at ih⊢
    unfold a3x
    have hz:i64 ((l.length:Int)+(a1v.size:Int))=(l.length:Int):=by
     have h0:(l.length:Int)+(a1v.size:Int)=(l.length:Int):=by rw [show a1v.size=0 from rfl];simp
     rw [h0,j8 (by omega) (by omega)]
    have hc:a4l ⟨l.toArray⟩ a1v=some ⟨l.toArray⟩:=by have:=d0w (a:=l) (b:=[]) (by simp;omega);rw [List.append_nil] at this;exact this
    obtain ⟨c,hcc⟩: ∃c,l[i]? =some c:=⟨l[i]'(by omega),List.getElem?_eq_getElem (by omega)⟩
    simp only [d0y,hz]
    rw [if_pos (by simp;omega)]
    simp only [hc,Option.bind_some,b6y hcc,d07,h.dig c (List.mem_of_getElem? hcc),Bool.not_true,Bool.false_eq_true,if_false]
    rw [b5a (by omega) (by omega)]
    exact ih
 have j1: ∀(m k:Nat),m <= l.length -> m<k -> d8 k (a41 (⟨l.toArray⟩,d)) (((⟨l.toArray⟩:ByteArray).size:Int),(m:Int)-1)=some (⟨l.toArray⟩,a1v,d,true):=by
  intro m
  induction m with
  | zero=>
    intro k _ hk
    obtain ⟨k,rfl⟩: ∃m,k=m+1:=⟨k-1,by omega⟩
    rw [i8]
    unfold a41
    have hs:b6q ⟨l.toArray⟩ 0 (l.length:Int)=some ⟨l.toArray⟩:=by have:=d13 (a:=l) (b:=[]);rw [List.append_nil] at this;exact this
    rw [if_neg (by simp)]
    simp only [d0y,hs,Option.bind_some,decide_eq_false (show¬(l.length:Int)<(l.length:Int) by omega),Bool.false_eq_true,if_false]
    exact j2 l.length 0 FU (by omega) (by have:=a2s;omega)
  | succ m ih=>
    intro k hm hk
    obtain ⟨k,rfl⟩: ∃m,k=m+1:=⟨k-1,by omega⟩
    have ih:=ih k (by omega) (by omega)
    rw [i8]
    generalize d8 k (a41 (⟨l.toArray⟩,d))=LP at ih⊢
    unfold a41
    obtain ⟨c,hcc⟩: ∃c,l[m]? =some c:=⟨l[m]'(by omega),List.getElem?_eq_getElem (by omega)⟩
    have hr:=b7b (h.dig c (List.mem_of_getElem? hcc))
    have e:((m+1:Nat):Int)-1=(m:Int):=by omega
    simp only [e]
    rw [if_pos (by simp)]
    have e46:(iv c==46)=false:=by simp;omega
    simp only [b6y hcc,Option.bind_some,e46,Bool.false_eq_true,if_false]
    rw [j8 (by omega) (by omega)]
    exact ih
 unfold joinC a40
 have:=j1 l.length FU (Nat.le_refl _) (by have:=a2s;omega)
 rw [d0y] at this⊢
 rw [j8 (by omega) (by omega)]
 exact this
def g0x:List UInt8 -> Int -> Prop:=fun s d=>(s=[] /\ d=2) \/ (s=[100] /\ d=3) \/ (s=[109] /\ d=4)
theorem c5r (h:Dg n l) (hl:l.length <= 9) {s:List UInt8} {d:Int} (hs:g0x s d):a0o ⟨(l++s).toArray⟩=some (⟨l.toArray⟩,a1v,d,true):=by
 obtain ⟨m,c,rfl⟩: ∃m c,l=m++[c]:=by
  rcases List.eq_nil_or_concat l with h0 | ⟨m,c,h0⟩
  ·exact absurd h0 h.ne
  ·exact ⟨m,c,by simpa using h0⟩
 have hr:=b7b (h.dig c (by simp))
 have hlen:(m++[c]).length=m.length+1:=by simp
 unfold a0o
 rcases hs with ⟨rfl,rfl⟩ | ⟨rfl,rfl⟩ | ⟨rfl,rfl⟩
 ·simp only [List.append_nil]
  have hz:((⟨(m++[c]).toArray⟩:ByteArray).size:Int)=(m.length:Int)+1:=by rw [d0y,hlen];rfl
  have e0:decide ((m.length:Int)+1>0)=true:=by simp
  have e1:b03 ⟨(m++[c]).toArray⟩ (i64 ((m.length:Int)+1-1))=some (iv c):=by
   rw [j8 (by omega) (by omega),show (m.length:Int)+1-1=(m.length:Int) by omega]
   exact b6y (by simp)
  have e2:(iv c==100)=false:=by simp;omega
  have e3:(iv c==109)=false:=by simp;omega
  simp only [hz,e0,if_true,e1,Option.bind_some,e2,e3,Bool.false_eq_true,if_false]
  exact c2n h hl 2
 ·have hz:((⟨(m++[c]++[100]).toArray⟩:ByteArray).size:Int)=(m.length:Int)+2:=by rw [d0y];simp
  have e0:decide ((m.length:Int)+2>0)=true:=by simp;omega
  have e9:i64 ((m.length:Int)+2-1)=((m++[c]).length:Int):=by rw [j8 (by omega) (by omega),hlen];omega
  have e1:b03 ⟨(m++[c]++[100]).toArray⟩ ((m++[c]).length:Int)=some 100:=b6y (c:=100) (by simp)
  simp only [hz,e0,if_true,e9,e1,Option.bind_some,BEq.rfl,d13]
  exact c2n h hl 3
 ·have hz:((⟨(m++[c]++[109]).toArray⟩:ByteArray).size:Int)=(m.length:Int)+2:=by rw [d0y];simp
  have e0:decide ((m.length:Int)+2>0)=true:=by simp;omega
  have e9:i64 ((m.length:Int)+2-1)=((m++[c]).length:Int):=by rw [j8 (by omega) (by omega),hlen];omega
  have e1:b03 ⟨(m++[c]++[109]).toArray⟩ ((m++[c]).length:Int)=some 109:=b6y (c:=109) (by simp)
  simp only [hz,e0,if_true,e9,e1,Option.bind_some,BEq.rfl,d13,show ((109:Int)==100)=false from rfl,Bool.false_eq_true,if_false]
  exact c2n h hl 4
theorem f5i: ∀(l:List UInt8) (x:Int) (N:Nat),(∀c∈l,c9a (iv c)=true) -> 0 <= x -> x<10^N ->
  0 <= l.foldl (fun x c=>x*10+(iv c-48)) x /\ l.foldl (fun x c=>x*10+(iv c-48)) x<10^(N+l.length):=by
 intro l
 induction l with
 | nil=>intro x N _ h0 h1;exact ⟨h0,h1⟩
 | cons c l ih=>
   intro x N hd h0 h1
   have h2:=b7b (hd c (by simp))
   have:=ih (x*10+(iv c-48)) (N+1) (fun y hy=>hd y (by simp [hy])) (by omega) (by rw [Int.pow_succ];omega)
   rw [List.foldl_cons,List.length_cons,show N+(l.length+1)=N+1+l.length by omega]
   exact this
theorem c2m (l:List UInt8) (h: ∀c∈l,c9a (iv c)=true):0 <= d9y l /\ d9y l<10^l.length:=by
 have:=f5i l 0 0 h (by decide) (by decide)
 rw [Nat.zero_add] at this
 exact this
end
end Go.PL
namespace Go.PL
open Go Go.SX
theorem c7y: ∃m,FU=m+1+1:=⟨FU-2,by have:=a2s;omega⟩
theorem g3z {n:Int} (h:0 <= n):b46 n 1=some 0:=by rw [c28 (by decide),c5t h];simp
theorem quo1 {n:Int} (h:0 <= n) (h1:n <= 9223372036854775807):b7a n 1=some n:=by rw [d5k (by decide),Int.tdiv_one,j8 (by omega) h1]
theorem g2u {n:Int} (h0:0 <= n) (h1:n <= 1000000000000000):a3i ⟨0,n⟩ 1=some (⟨0,n⟩,0):=by
 unfold a3i
 simp only [show b46 0 1=some 0 from rfl,Option.bind_some]
 have hD:b8k 0 n 1=some (n,0):=by
  unfold b8k joinC c0s joinC c1a
  simp only [show ((1:Int)==0)=false from rfl,show decide ((1:Int) <= 0)=false from rfl,Bool.false_eq_true,if_false,BEq.rfl,if_true,show¬((1:Int)=0) by decide,Int.tdiv_one,g3z h0,Option.bind_some,e3g h0 (show n <= 18446744073709551615 by omega)]
 simp only [hD,Option.bind_some,show¬((1:Int)=0) by decide,if_false]
 rfl
theorem g2o {n:Int} (h0:0 <= n):a26 n 1=some 1:=by
 unfold a26
 obtain ⟨m,hm⟩:=c7y
 rw [hm,i8]
 unfold a9x
 simp only [show ((1:Int) != 0)=true from rfl,if_true,g3z h0,Option.bind_some]
 rw [i8]
 simp only [show ((0:Int) != 0)=false from rfl,Bool.false_eq_true,if_false]
theorem f8j:a26 1 0=some 1:=by
 unfold a26
 obtain ⟨m,hm⟩:=c7y
 rw [hm,i8]
 rfl
theorem g2j {n:Int} (h0:0 <= n) (h1:n <= 1000000000000000):a3o n 1=some (⟨n,1⟩,0):=by
 unfold a3o
 obtain ⟨x,hx,_,_,e⟩:=c3w n
 have e:=e h0 (by omega)
 subst e
 unfold a9o
 have hd:decide (x<0)=false:=by simp;omega
 have hd2:decide (x>1000000000000000)=false:=by simp;omega
 simp only [show ((1:Int)==0)=false from rfl,Bool.false_eq_true,if_false,hx,show a2l 1=some 1 from rfl,Option.bind_some,g2u h0 h1,f8j,show¬((1:Int)=0) by decide,hd,hd2,show u64 (Int.tdiv 1 1)=1 from rfl,show ((0:Int) != 0)=false from rfl,show decide ((1:Int)>1000000000)=false from rfl,show decide ((1:Int)<0)=false from rfl,bne_self_eq_false,j8 (show-9223372036854775808 <= x by omega) (show x <= 9223372036854775807 by omega),show i64 1=1 from rfl]
theorem f8s {n:Int} (h0:0 <= n) (h1:n <= 1000000000000000):a03 ⟨n,1⟩=some true:=by
 unfold a03
 obtain ⟨x,hx,_,_,e⟩:=c3w n
 have e:=e h0 (by omega)
 subst e
 have hd:decide (x >= -1000000000000000)=true:=by simp;omega
 have hd2:decide (x <= 1000000000000000)=true:=by simp;omega
 simp only [show decide ((1:Int) >= 1)=true from rfl,show decide ((1:Int) <= 1000000000)=true from rfl,if_true,Option.bind_some,hd,hd2,hx,show u64 1=1 from rfl,g2o h0,BEq.rfl]
section
variable {n:Nat} {l:List UInt8}
theorem e34 (h:Dg n l) (hl:l.length <= 9) {s:List UInt8} {d:Int} (hs:g0x s d):y2 ⟨(l++s).toArray⟩=some (⟨(n:Int),1⟩,d,true):=by
 unfold y2
 rw [c5r h hl hs,Option.bind_some]
 simp only [Bool.not_true,Bool.false_eq_true,if_false]
 have hv:=c2m l h.dig
 have hp:(10:Int)^l.length <= 1000000000:=by
  have:(10:Nat)^l.length <= 10^9:=Nat.pow_le_pow_right (by decide) hl
  have h2:((10^l.length:Nat):Int) <= ((10^9:Nat):Int):=by exact_mod_cast this
  simpa using h2
 have go: ∀(b a:List UInt8) (k:Nat),a++b=l -> b.length<k -> d8 k (a2w (⟨l.toArray⟩,a1v,d,true)) ((⟨0,0⟩:Fraction),d9y a,1,(a.length:Int))=some (⟨(n:Int),1⟩,d,true):=by
  intro b
  induction b with
  | nil=>
    intro a k ha hk
    obtain ⟨k,rfl⟩: ∃m,k=m+1:=⟨k-1,by omega⟩
    rw [List.append_nil] at ha
    subst ha
    rw [i8]
    unfold a2w
    have hz:i64 ((a.length:Int)+(a1v.size:Int))=(a.length:Int):=by
     have h0:(a.length:Int)+(a1v.size:Int)=(a.length:Int):=by rw [show a1v.size=0 from rfl];simp
     rw [h0,j8 (by omega) (by omega)]
    simp only [d0y,hz]
    rw [if_neg (by simp),h.val,g2j (by omega) (by rw [<- h.val];omega)]
    rfl
  | cons c b ih=>
    intro a k ha hk
    have hk:b.length+1<k:=hk
    obtain ⟨k,rfl⟩: ∃m,k=m+1:=⟨k-1,by omega⟩
    have ih:=ih (a++[c]) k (by rw [List.append_assoc];exact ha) (by omega)
    have hlen:a.length+1+b.length=l.length:=by rw [<- ha];simp;omega
    have hc:c∈l:=by rw [<- ha];simp
    have hcd:=b7b (h.dig c hc)
    have hva:=c2m (a++[c]) fun x hx=>h.dig x (by rw [<- ha];simp at hx ⊢; rcases hx with hx | hx<;>simp [hx])
    have hpa:(10:Int)^(a++[c]).length <= 1000000000:=by
     have:(10:Nat)^(a++[c]).length <= 10^9:=Nat.pow_le_pow_right (by decide) (by simp;omega)
     have h2:((10^(a++[c]).length:Nat):Int) <= ((10^9:Nat):Int):=by exact_mod_cast this
     simpa using h2
    have hva0:=c2m a fun x hx=>h.dig x (by rw [<- ha];simp [hx])
    rw [c68] at ih hva
    rw [i8]
    generalize d8 k (a2w (⟨l.toArray⟩,a1v,d,true))=LP at ih⊢
    unfold a2w
    have hz:i64 ((l.length:Int)+(a1v.size:Int))=(l.length:Int):=by
     have h0:(l.length:Int)+(a1v.size:Int)=(l.length:Int):=by rw [show a1v.size=0 from rfl];simp
     rw [h0,j8 (by omega) (by omega)]
    have hct:a4l ⟨l.toArray⟩ a1v=some ⟨l.toArray⟩:=by have:=d0w (a:=l) (b:=[]) (by simp;omega);rw [List.append_nil] at this;exact this
    have hget:l[a.length]? =some c:=by rw [<- ha];simp
    simp only [d0y,hz]
    rw [if_pos (by simp;omega)]
    simp only [hct,Option.bind_some,b6y hget]
    rw [if_neg (by simp;omega)]
    have e1:i64 (d9y a*10)=d9y a*10:=j8 (by omega) (by omega)
    have e2:i64 (IntKind.u8.wrap (iv c-48))=iv c-48:=by
     have:IntKind.u8.wrap (iv c-48)=iv c-48:=by
      unfold IntKind.wrap
      simp [IntKind.bits,IntKind.signed]
      omega
     rw [this,j8 (by omega) (by omega)]
    rw [e1,e2,j8 (by omega) (by omega),b5a (by omega) (by omega)]
    have hl2:((a++[c]).length:Int)=(a.length:Int)+1:=by simp
    rw [hl2] at ih
    exact ih
 exact go l [] FU rfl (by have:=a2s;omega)
theorem d9f {n:Int} (h0:0 <= n) (h1:n <= 100000) {d:Int} (h2:2 <= d) (h3:d <= 4): ∃s,s7 ⟨n,1⟩ d=some (s,true):=by
 unfold s7
 obtain ⟨x,hx,hxs⟩:=c01 (n:=n) h0 (by omega)
 have d1:decide (n<0)=false:=by simp;omega
 have d2:decide (d<2)=false:=by simp;omega
 have d3:decide (d>4)=false:=by simp;omega
 have d4:decide (n>999999999)=false:=by simp;omega
 have e1:i64 (n*1)=n:=by rw [Int.mul_one];exact j8 (by omega) (by omega)
 have e2:i64 (i64 (n-n)*10000)=0:=by rw [show n-n=0 by omega];rfl
 simp only [f8s h0 (show n <= 1000000000000000 by omega),Option.bind_some,Bool.not_true,Bool.false_eq_true,if_false,d1,show b46 10000 1=some 0 from rfl,bne_self_eq_false,d2,d3,quo1 h0 (show n <= 9223372036854775807 by omega),d4,hx,show b7a 10000 1=some 10000 from rfl,e1,e2,show decide ((0:Int)>0)=false from rfl]
 unfold joinC a49
 obtain ⟨m,hm⟩:=c7y
 rw [hm,i8]
 unfold a6x
 simp only [show decide ((0:Int)>0)=false from rfl,Bool.false_eq_true,if_false]
 rw [show i64 (d-2)=d-2 from j8 (by omega) (by omega)]
 obtain ⟨y,hy,hm⟩:=b4n (l:=[a1v,e8r,e62]) (i:=d-2) (by omega) (by simp;omega)
 have hx1:y.size <= 1:=by
  simp at hm
  rcases hm with rfl | rfl | rfl<;>decide
 obtain ⟨z,hz,_⟩:=j6 (a:=x) (b:=y) (by omega)
 simp only [hy,hz,Option.bind_some]
 exact ⟨_,rfl⟩
end
end Go.PL
namespace Go.PL
open Go Go.SX
theorem e3x {l:List UInt8} (h: ∀c∈l,c≠46):f5c ⟨l.toArray⟩ 46= -1:=by
 unfold f5c
 have:(List.range (⟨l.toArray⟩:ByteArray).size).find? (fun i=>(⟨l.toArray⟩:ByteArray)[i]! ==(46:Int).toNat.toUInt8)=none:=by
  rw [List.find?_eq_none]
  intro i hi
  rw [List.mem_range,d0y] at hi
  have e:(⟨l.toArray⟩:ByteArray)[i]! =l[i]:=by
   rw [getElem!_pos _ i (by rw [d0y];exact hi)]
   rfl
  rw [e]
  have:=h l[i] (List.getElem_mem hi)
  simpa using this
 rw [this]
section
variable {n:Nat} {l:List UInt8}
theorem Dg.no46 (h:Dg n l): ∀c∈l,c≠46:=by
 intro c hc he
 have:=b7b (h.dig c hc)
 subst he
 revert this
 decide
theorem e32 (h:Dg n l) (hl:l.length <= 9):a5r ⟨l.toArray⟩=some ((n:Int),true):=by
 unfold a5r
 have go: ∀(b a:List UInt8) (k:Nat),a++b=l -> b.length<k -> d8 k (a64 ⟨l.toArray⟩) (d9y a,(a.length:Int))=some ((n:Int),true):=by
  intro b
  induction b with
  | nil=>
    intro a k ha hk
    obtain ⟨k,rfl⟩: ∃m,k=m+1:=⟨k-1,by omega⟩
    rw [List.append_nil] at ha
    subst ha
    rw [i8]
    unfold a64
    simp only [d0y]
    rw [if_neg (by simp),h.val]
  | cons c b ih=>
    intro a k ha hk
    have hk:b.length+1<k:=hk
    obtain ⟨k,rfl⟩: ∃m,k=m+1:=⟨k-1,by omega⟩
    have ih:=ih (a++[c]) k (by rw [List.append_assoc];exact ha) (by omega)
    have hlen:a.length+1+b.length=l.length:=by rw [<- ha];simp;omega
    have hc:c∈l:=by rw [<- ha];simp
    have hcd:=b7b (h.dig c hc)
    have hva:=c2m (a++[c]) fun x hx=>h.dig x (by rw [<- ha];simp at hx ⊢; rcases hx with hx | hx<;>simp [hx])
    have hpa:(10:Int)^(a++[c]).length <= 1000000000:=by
     have:(10:Nat)^(a++[c]).length <= 10^9:=Nat.pow_le_pow_right (by decide) (by simp;omega)
     have h2:((10^(a++[c]).length:Nat):Int) <= ((10^9:Nat):Int):=by exact_mod_cast this
     simpa using h2
    have hva0:=c2m a fun x hx=>h.dig x (by rw [<- ha];simp [hx])
    rw [c68] at ih hva
    rw [i8]
    generalize d8 k (a64 ⟨l.toArray⟩)=LP at ih⊢
    unfold a64 b67
    have hget:l[a.length]? =some c:=by rw [<- ha];simp
    have d1:decide (iv c >= 48)=true:=by simp;omega
    have d2:decide (iv c <= 57)=true:=by simp;omega
    simp only [d0y]
    rw [if_pos (by simp;omega)]
    simp only [Option.bind_some,b6y hget,d1,d2,if_true,Bool.not_true,Bool.false_eq_true,if_false]
    have e1:i64 (10*d9y a)=d9y a*10:=by rw [Int.mul_comm];exact j8 (by omega) (by omega)
    have e2:i64 (IntKind.u8.wrap (iv c-48))=iv c-48:=by
     have:IntKind.u8.wrap (iv c-48)=iv c-48:=by
      unfold IntKind.wrap
      simp [IntKind.bits,IntKind.signed]
      omega
     rw [this,j8 (by omega) (by omega)]
    rw [e1,e2,j8 (by omega) (by omega),b5a (by omega) (by omega)]
    have hl2:((a++[c]).length:Int)=(a.length:Int)+1:=by simp
    rw [hl2] at ih
    exact ih
 exact go l [] FU rfl (by have:=a2s;omega)
theorem e50 (h:Dg n l) (hl:l.length <= 9):b62 ⟨l.toArray⟩ a9m=some (⟨l.toArray⟩,a1v,false):=by
 have hi:a5i ⟨l.toArray⟩ a9m=some (-1):=by
  unfold a5i a74 a5y
  have ne:(a9m.toList==(⟨l.toArray⟩:ByteArray).toList)=false:=by
   cases hb:(a9m.toList==(⟨l.toArray⟩:ByteArray).toList) with
   | false=>rfl
   | true=>
     have e:=eq_of_beq hb
     have e2:(a9m:ByteArray).data.toList=l:=by
      rw [ByteArray.toList_eq,ByteArray.toList_eq] at e
      exact e
     exact absurd rfl (h.no46 46 (by rw [<- e2];decide))
  simp only [show ((a9m.size:Int)==0)=false from rfl,show ((a9m.size:Int)==1)=true from rfl,Bool.false_eq_true,if_false,if_true,Option.bind_some,ne,show b03 a9m 0=some 46 from rfl,e3x h.no46]
 unfold b62 b34
 rw [hi,Option.bind_some]
 rfl
theorem d5x: ∃m,FU=m+1+1+1:=⟨FU-3,by have:=a2s;omega⟩
theorem c4n (h:Dg n l) (hl:l.length <= 9) (d:Int):joinC a6a (⟨l.toArray⟩,(⟨0,0⟩:Fraction),d)=some (⟨(n:Int),1⟩,d,true):=by
 have hpos:1 <= l.length:=by cases l with | nil=>exact absurd rfl h.ne | cons _ _=>simp
 have hn:(n:Int) <= 1000000000:=by
  have hv:=c2m l h.dig
  have:(10:Nat)^l.length <= 10^9:=Nat.pow_le_pow_right (by decide) hl
  have h2:((10^l.length:Nat):Int) <= ((10^9:Nat):Int):=by exact_mod_cast this
  rw [h.val] at hv
  have h3:(10:Int)^l.length <= 1000000000:=by simpa using h2
  omega
 unfold joinC a6a
 have e1:decide ((l.length:Int)<1)=false:=by simp;omega
 have e2:decide ((l.length:Int)>9)=false:=by simp;omega
 have e3:(if (decide ((l.length:Int)>1)) then (b03 ⟨l.toArray⟩ 0).bind fun v7=>some (v7==48) else some false)=some false:=by
  by_cases h1:1<l.length
  ·cases hc:l with
   | nil=>exact absurd hc h.ne
   | cons c r=>
     have hc0:=h.hd h1 c r hc
     rw [hc] at h1
     have e3:decide (((c::r).length:Int)>1)=true:=by simp at h1 ⊢; omega
     have h0:b03 ⟨(c::r).toArray⟩ 0=some (iv c):=b6y (i:=0) rfl
     have e4:(iv c==48)=false:=by simpa using hc0
     simp only [e3,if_true,h0,Option.bind_some,e4]
  ·have e3:decide ((l.length:Int)>1)=false:=by simp;omega
   simp only [e3,Bool.false_eq_true,if_false]
 have en:a5r a1v=some (0,true):=by
  unfold a5r
  obtain ⟨m,hm⟩:=c7y
  rw [hm,i8]
  rfl
 simp only [e50 h hl,Option.bind_some,d0y,e1,e2,e3,Bool.false_eq_true,if_false,e32 h hl,en,Bool.not_true]
 have l3: ∀(v23:Int) (r22:(Fraction×Int) -> Option (Fraction×Int×Bool)) (v21:Fraction×Int),v23=2 \/ v23=5 -> v21.1=⟨(n:Int),1⟩ -> d8 FU (b23 v23 r22 v21) v21.1=r22 (v21.1,i64 (v21.2+1)):=by
  intro v23 r22 v21 hv he
  obtain ⟨m,hm⟩:=c7y
  rw [hm,i8]
  unfold b23
  rw [he]
  have hr:b46 1 v23=some 1:=by rcases hv with rfl | rfl<;>rfl
  have hr2: ∃x,b46 (n:Int) v23=some x:=by rcases hv with rfl | rfl<;>exact ⟨_,c28 (by decide)⟩
  obtain ⟨x,hx⟩:=hr2
  simp only [hx,hr,Option.bind_some]
  cases (x==0)<;>rfl
 obtain ⟨m,hm⟩:=d5x
 have l2: ∀v20:Fraction×Int×Int×Int,v20.2.1=d -> d8 FU (a1o v20) ((⟨(n:Int),1⟩:Fraction),0)=some (⟨(n:Int),1⟩,d,true):=by
  intro v20 hd
  rw [show d8 FU (a1o v20)=d8 (m+1+1+1) (a1o v20) by rw [<- hm]]
  rw [i8]
  generalize hA:d8 (m+1+1) (a1o v20)=A
  unfold a1o
  simp only [show decide ((0:Int)<2)=true from rfl,if_true,show i7 (⟨[2,5],rfl⟩:Ar 2 Int).l 0=some 2 from rfl,Option.bind_some]
  rw [l3 2 A (_,0) (.inl rfl) rfl,<- hA,i8]
  generalize hB:d8 (m+1) (a1o v20)=B
  unfold a1o
  simp only [show i64 (0+1)=1 from rfl,show decide ((1:Int)<2)=true from rfl,if_true,show i7 (⟨[2,5],rfl⟩:Ar 2 Int).l 1=some 5 from rfl,Option.bind_some]
  rw [l3 5 B (_,1) (.inr rfl) rfl,<- hB,i8]
  unfold a1o
  simp only [show i64 (1+1)=2 from rfl,show decide ((2:Int)<2)=false from rfl,Bool.false_eq_true,if_false,hd]
 rw [hm,i8]
 unfold b72
 simp only [show c5l a1v 0=none from rfl,optC]
 unfold joinC b6r
 simp only [Int.add_zero,j8 (show-9223372036854775808 <= (n:Int) by omega) (show (n:Int) <= 9223372036854775807 by omega)]
 exact l2 _ rfl
theorem d88 (h:Dg n l) (hl:l.length <= 9) {s:List UInt8} {d:Int} (hs:g0x s d):b2p ⟨(l++s).toArray⟩=some (⟨(n:Int),1⟩,d,true):=by
 obtain ⟨m,c,rfl⟩: ∃m c,l=m++[c]:=by
  rcases List.eq_nil_or_concat l with h0 | ⟨m,c,h0⟩
  ·exact absurd h0 h.ne
  ·exact ⟨m,c,by simpa using h0⟩
 have hr:=b7b (h.dig c (by simp))
 have hlen:(m++[c]).length=m.length+1:=by simp
 unfold b2p
 rcases hs with ⟨rfl,rfl⟩ | ⟨rfl,rfl⟩ | ⟨rfl,rfl⟩
 ·simp only [List.append_nil]
  have hz:((⟨(m++[c]).toArray⟩:ByteArray).size:Int)=(m.length:Int)+1:=by rw [d0y,hlen];rfl
  have e0:decide ((m.length:Int)+1>0)=true:=by simp
  have e1:b03 ⟨(m++[c]).toArray⟩ (i64 ((m.length:Int)+1-1))=some (iv c):=by
   rw [j8 (by omega) (by omega),show (m.length:Int)+1-1=(m.length:Int) by omega]
   exact b6y (by simp)
  have e2:(iv c==100)=false:=by simp;omega
  have e3:(iv c==109)=false:=by simp;omega
  simp only [hz,e0,if_true,e1,Option.bind_some,e2,e3,Bool.false_eq_true,if_false]
  exact c4n h hl 2
 ·have hz:((⟨(m++[c]++[100]).toArray⟩:ByteArray).size:Int)=(m.length:Int)+2:=by rw [d0y];simp
  have e0:decide ((m.length:Int)+2>0)=true:=by simp;omega
  have e9:i64 ((m.length:Int)+2-1)=((m++[c]).length:Int):=by rw [j8 (by omega) (by omega),hlen];omega
  have e1:b03 ⟨(m++[c]++[100]).toArray⟩ ((m++[c]).length:Int)=some 100:=b6y (c:=100) (by simp)
  simp only [hz,e0,if_true,e9,e1,Option.bind_some,BEq.rfl,d13]
  exact c4n h hl 3
 ·have hz:((⟨(m++[c]++[109]).toArray⟩:ByteArray).size:Int)=(m.length:Int)+2:=by rw [d0y];simp
  have e0:decide ((m.length:Int)+2>0)=true:=by simp;omega
  have e9:i64 ((m.length:Int)+2-1)=((m++[c]).length:Int):=by rw [j8 (by omega) (by omega),hlen];omega
  have e1:b03 ⟨(m++[c]++[109]).toArray⟩ ((m++[c]).length:Int)=some 109:=b6y (c:=109) (by simp)
  simp only [hz,e0,if_true,e9,e1,Option.bind_some,BEq.rfl,d13,show ((109:Int)==100)=false from rfl,Bool.false_eq_true,if_false]
  exact c4n h hl 4
end
theorem d81 {n:Nat} (h1:n <= 100000) {d:Int} (h2:2 <= d) (h3:d <= 4): ∃s,a0h ⟨(n:Int),1⟩ d=some (s,true):=by
 have hd:=e30 20 n (Nat.lt_of_le_of_lt h1 (by decide))
 have hdl:=c15 20 n 5 (Nat.lt_of_le_of_lt h1 (by decide))
 unfold a0h
 have d1:decide ((n:Int)<0)=false:=by simp
 have d2:decide ((n:Int)>1000000000000000)=false:=by simp;omega
 have hI:strconv_Itoa (n:Int)=some ⟨(a8a 20 n).toArray⟩:=by unfold strconv_Itoa;rw [if_pos (by omega)];simp
 simp only [show decide ((1:Int)<1)=false from rfl,show decide ((1:Int)>10000)=false from rfl,Bool.false_eq_true,if_false,Option.bind_some,d1,d2,quo1 (show 0 <= (n:Int) by omega) (show (n:Int) <= 9223372036854775807 by omega),g3z (show 0 <= (n:Int) by omega),hI]
 obtain ⟨m,hm⟩:=c7y
 rw [hm,i8]
 unfold b06
 simp only [show decide ((0:Int)>0)=false from rfl,Bool.false_eq_true,if_false]
 have fin: ∀s,g0x s d -> joinC a2v (d,(⟨(n:Int),1⟩:Fraction),⟨(a8a 20 n++s).toArray⟩)=some (⟨(a8a 20 n++s).toArray⟩,true):=by
  intro s hs
  unfold joinC a2v
  simp only [d88 hd (by omega) hs,Option.bind_some,Bool.not_true,Bool.false_eq_true,if_false,BEq.rfl,Bool.and_true,bne_self_eq_false]
 have hcat: ∀s:List UInt8,s.length <= 1 -> a4l ⟨(a8a 20 n).toArray⟩ ⟨s.toArray⟩=some ⟨(a8a 20 n++s).toArray⟩:=fun s hs=>d0w (by omega)
 have hc:d=2 \/ d=3 \/ d=4:=by omega
 rcases hc with rfl | rfl | rfl
 ·have:=fin [] (.inl ⟨rfl,rfl⟩)
  rw [List.append_nil] at this
  exact ⟨_,this⟩
 ·have e:=hcat [100] (by simp)
  have f:=fin [100] (.inr (.inl ⟨rfl,rfl⟩))
  refine ⟨⟨(a8a 20 n++[100]).toArray⟩,?_⟩
  show (a4l ⟨(a8a 20 n).toArray⟩ ⟨[100].toArray⟩).bind _=_
  rw [e,Option.bind_some]
  exact f
 ·have e:=hcat [109] (by simp)
  have f:=fin [109] (.inr (.inr ⟨rfl,rfl⟩))
  refine ⟨⟨(a8a 20 n++[109]).toArray⟩,?_⟩
  show (a4l ⟨(a8a 20 n).toArray⟩ ⟨[109].toArray⟩).bind _=_
  rw [e,Option.bind_some]
  exact f
end Go.PL
namespace Go.PL
open Go Go.SX
theorem q9 {σ β:Type} {f:(σ -> Option β) -> σ -> Option β} (st:Nat -> σ) (N:Nat) {x:Option β} (hstep: ∀i,i<N -> ∀r,f r (st i)=r (st (i+1))) (hend: ∀r,f r (st N)=x) {k:Nat} (hk:N<k):d8 k f (st 0)=x:=by
 have go: ∀m i k,i+m=N -> m<k -> d8 k f (st i)=x:=by
  intro m
  induction m with
  | zero=>
    intro i k hi hk
    obtain ⟨k,rfl⟩: ∃m,k=m+1:=⟨k-1,by omega⟩
    obtain rfl:i=N:=by omega
    rw [i8]
    exact hend _
  | succ m ih=>
    intro i k hi hk
    obtain ⟨k,rfl⟩: ∃m,k=m+1:=⟨k-1,by omega⟩
    rw [i8,hstep i (by omega)]
    exact ih (i+1) k (by omega) (by omega)
 exact go N 0 k (by omega) hk
theorem a4j {α:Type} {l:List α} {i:Nat} (h:i<l.length):i7 l (i:Int)=some l[i]:=e0r (by omega) (by simp [h])
theorem a8s {i:Nat} (h:i <= 1000000):i64 ((i:Int)+1)=((i+1:Nat):Int):=by rw [j8 (by omega) (by omega)];omega
theorem c1m {i n:Nat} (h:i<n):decide ((i:Int)<(n:Int))=true:=by simp;omega
theorem b01 (n:Nat):decide ((n:Int)<(n:Int))=false:=by simp
def AE.dep:AE -> Nat
 | .bin _ a b=>max (max 0 a.dep) b.dep+1
 | .ite a b c=>max (max (max 0 a.dep) b.dep) c.dep+1
 | _=>1
def AE.sz:AE -> Nat
 | .bin _ a b=>1+a.sz+b.sz
 | .ite a b c=>1+a.sz+b.sz+c.sz
 | _=>1
theorem c09 (a:AE):1 <= a.dep:=by cases a<;>simp [AE.dep]
def AE.args:AE -> List AE
 | .bin _ a b=>[a,b]
 | .ite a b c=>[a,b,c]
 | _=>[]
theorem AE.ind {P:AE -> Prop} (h: ∀a:AE,(∀b∈a.args,P b) -> P a): ∀a,P a:=by
 intro a
 induction a with
 | lit v d=>exact h _ fun b hb=>by cases hb
 | nm s=>exact h _ fun b hb=>by cases hb
 | best k=>exact h _ fun b hb=>by cases hb
 | bin op a b iha ihb=>exact h _ fun x hx=>by simp [AE.args] at hx;rcases hx with rfl | rfl<;>assumption
 | ite a b c iha ihb ihc=>exact h _ fun x hx=>by simp [AE.args] at hx;rcases hx with rfl | rfl | rfl<;>assumption
theorem c6t (a:AE):a.e.Args=a.args.map AE.e:=by cases a<;>rfl
theorem b8g (a:AE):a.args.length <= 3:=by cases a<;>simp [AE.args]
theorem f1a (a:AE):a.dep=a.args.foldl (fun m b=>max m b.dep) 0+1:=by cases a<;>rfl
theorem e7u (a:AE):a.sz=a.args.foldl (fun m b=>m+b.sz) 1:=by cases a<;>rfl
theorem b3q {a b:AE} (h:b∈a.args):b.dep<a.dep:=by
 cases a with
 | bin op x y=>simp [AE.args] at h;show b.dep<max (max 0 x.dep) y.dep+1;rcases h with rfl | rfl<;>omega
 | ite x y z=>simp [AE.args] at h;show b.dep<max (max (max 0 x.dep) y.dep) z.dep+1;rcases h with rfl | rfl | rfl<;>omega
 | _=>cases h
theorem e9g {a b:AE} (h:b∈a.args):b.sz<a.sz:=by
 cases a with
 | bin op x y=>simp [AE.args] at h;show b.sz<1+x.sz+y.sz;rcases h with rfl | rfl<;>omega
 | ite x y z=>simp [AE.args] at h;show b.sz<1+x.sz+y.sz+z.sz;rcases h with rfl | rfl | rfl<;>omega
 | _=>cases h
theorem d86 (R:Ring_pensionref5_Depth) (L:List AE) (hR: ∀a∈L,R.f_pensionref5_Depth a.e=some (a.dep:Int)) (e:Expr) (he:e.Args=L.map AE.e) (hl:L.length <= 3) (hd: ∀a∈L,a.dep <= 1000):
  a5z R e=some ((L.foldl (fun m a=>max m a.dep) 0+1:Nat):Int):=by
 unfold a5z
 have hb: ∀(L:List AE) (m:Nat),m <= 1000 -> (∀a∈L,a.dep <= 1000) -> L.foldl (fun m a=>max m a.dep) m <= 1000:=by
  intro L
  induction L with
  | nil=>intro m h _;exact h
  | cons a L ih=>intro m h h2;exact ih (max m a.dep) (by have:=h2 a (by simp);omega) fun x hx=>h2 x (by simp [hx])
 refine q9 (fun i=>(e,(((L.take i).foldl (fun m a=>max m a.dep) 0:Nat):Int),(i:Int))) L.length ?_ ?_ (by have:=a2s;omega)
 ·intro i hi r
  unfold a89
  have hlen:e.Args.length=L.length:=by rw [he];simp
  have hg:i7 e.Args (i:Int)=some (L[i].e):=by rw [a4j (by omega)];simp [he]
  simp only [hlen,c1m hi,if_true,hg,Option.bind_some,hR _ (List.getElem_mem hi),a8s (show i <= 1000000 by omega)]
  rw [List.take_succ_eq_append_getElem hi,List.foldl_append]
  simp only [List.foldl_cons,List.foldl_nil]
  congr 3
  omega
 ·intro r
  unfold a89
  have hlen:e.Args.length=L.length:=by rw [he];simp
  simp only [hlen,b01,Bool.false_eq_true,if_false,List.take_length]
  have:=hb L 0 (by omega) hd
  rw [a8s (by omega)]
theorem e7a: ∀(a:AE),a.dep <= 1000 -> ∀m,a.dep <= m -> (a08 m).f_pensionref5_Depth a.e=some (a.dep:Int):=by
 refine AE.ind fun a ih hd m hm=> ?_
 obtain ⟨m,rfl⟩: ∃k,m=k+1:=⟨m-1,by have:=c09 a;omega⟩
 rw [f1a a]
 exact d86 _ a.args (fun b hb=>ih b hb (by have:=b3q hb;omega) m (by have:=b3q hb;omega)) a.e (c6t a) (b8g a) fun b hb=>by have:=b3q hb;omega
theorem c6w: ∀(L:List AE) (m:Nat),m <= L.foldl (fun m b=>m+b.sz) m:=by
 intro L
 induction L with
 | nil=>intro m;exact Nat.le_refl _
 | cons a L ih=>intro m;have:=ih (m+a.sz);simp only [List.foldl_cons];omega
theorem e5j (R:Ring_pensionref5_Size) (L:List AE) (hR: ∀a∈L,R.f_pensionref5_Size a.e=some (a.sz:Int)) (e:Expr) (he:e.Args=L.map AE.e) (hl:L.length <= 3) (hd:L.foldl (fun m b=>m+b.sz) 1 <= 1000):
  a6y R e=some ((L.foldl (fun m a=>m+a.sz) 1:Nat):Int):=by
 unfold a6y
 refine q9 (fun i=>(e,(((L.take i).foldl (fun m a=>m+a.sz) 1:Nat):Int),(i:Int))) L.length ?_ ?_ (by have:=a2s;omega)
 ·intro i hi r
  unfold a8r
  have hlen:e.Args.length=L.length:=by rw [he];simp
  have hg:i7 e.Args (i:Int)=some (L[i].e):=by rw [a4j (by omega)];simp [he]
  simp only [hlen,c1m hi,if_true,hg,Option.bind_some,hR _ (List.getElem_mem hi),a8s (show i <= 1000000 by omega)]
  have e0:(L.take (i+1)).foldl (fun m a=>m+a.sz) 1=(L.take i).foldl (fun m a=>m+a.sz) 1+L[i].sz:=by
   rw [List.take_succ_eq_append_getElem hi,List.foldl_append];rfl
  have hb:(L.take (i+1)).foldl (fun m a=>m+a.sz) 1 <= 1000:=by
   have h1:L.foldl (fun m b=>m+b.sz) 1=(L.drop (i+1)).foldl (fun m b=>m+b.sz) ((L.take (i+1)).foldl (fun m b=>m+b.sz) 1):=by
    rw [<- List.foldl_append,List.take_append_drop]
   have:=c6w (L.drop (i+1)) ((L.take (i+1)).foldl (fun m b=>m+b.sz) 1)
   omega
  rw [e0] at hb⊢
  rw [j8 (by omega) (by omega)]
  congr 3
 ·intro r
  unfold a8r
  have hlen:e.Args.length=L.length:=by rw [he];simp
  simp only [hlen,b01,Bool.false_eq_true,if_false,List.take_length]
theorem f5t: ∀(a:AE),a.sz <= 1000 -> ∀m,a.dep <= m -> (a0f m).f_pensionref5_Size a.e=some (a.sz:Int):=by
 refine AE.ind fun a ih hd m hm=> ?_
 obtain ⟨m,rfl⟩: ∃k,m=k+1:=⟨m-1,by have:=c09 a;omega⟩
 rw [e7u a] at hd⊢
 exact e5j _ a.args (fun b hb=>ih b hb (by have:=e9g hb;rw [e7u a] at this;omega) m (by have:=b3q hb;omega)) a.e (c6t a) (b8g a) hd
theorem d4a (R:Ring_syntax_Depth) (L:List AE) (hR: ∀a∈L,R.f_syntax_Depth a.e=some (a.dep:Int)) (e:Expr) (he:e.Args=L.map AE.e) (hl:L.length <= 3) (hd: ∀a∈L,a.dep <= 1000):
  b1d R e=some ((L.foldl (fun m a=>max m a.dep) 0+1:Nat):Int):=by
 unfold b1d
 have hb: ∀(L:List AE) (m:Nat),m <= 1000 -> (∀a∈L,a.dep <= 1000) -> L.foldl (fun m a=>max m a.dep) m <= 1000:=by
  intro L
  induction L with
  | nil=>intro m h _;exact h
  | cons a L ih=>intro m h h2;exact ih (max m a.dep) (by have:=h2 a (by simp);omega) fun x hx=>h2 x (by simp [hx])
 refine q9 (fun i=>((((L.take i).foldl (fun m a=>max m a.dep) 0:Nat):Int),(i:Int))) L.length ?_ ?_ (by have:=a2s;omega)
 ·intro i hi r
  unfold b3g
  have hlen:e.Args.length=L.length:=by rw [he];simp
  have hg:i7 e.Args (i:Int)=some (L[i].e):=by rw [a4j (by omega)];simp [he]
  simp only [hlen,c1m hi,if_true,hg,Option.bind_some,hR _ (List.getElem_mem hi),a8s (show i <= 1000000 by omega)]
  rw [List.take_succ_eq_append_getElem hi,List.foldl_append]
  simp only [List.foldl_cons,List.foldl_nil]
  congr 2
  omega
 ·intro r
  unfold b3g
  have hlen:e.Args.length=L.length:=by rw [he];simp
  simp only [hlen,b01,Bool.false_eq_true,if_false,List.take_length]
  have:=hb L 0 (by omega) hd
  rw [a8s (by omega)]
theorem e3k: ∀(a:AE),a.dep <= 1000 -> ∀m,a.dep <= m -> (a1r m).f_syntax_Depth a.e=some (a.dep:Int):=by
 refine AE.ind fun a ih hd m hm=> ?_
 obtain ⟨m,rfl⟩: ∃k,m=k+1:=⟨m-1,by have:=c09 a;omega⟩
 rw [f1a a]
 exact d4a _ a.args (fun b hb=>ih b hb (by have:=b3q hb;omega) m (by have:=b3q hb;omega)) a.e (c6t a) (b8g a) fun b hb=>by have:=b3q hb;omega
theorem d98 (R:Ring_syntax_Size) (L:List AE) (hR: ∀a∈L,R.f_syntax_Size a.e=some (a.sz:Int)) (e:Expr) (he:e.Args=L.map AE.e) (hl:L.length <= 3) (hd:L.foldl (fun m b=>m+b.sz) 1 <= 1000):
  b2r R e=some ((L.foldl (fun m a=>m+a.sz) 1:Nat):Int):=by
 unfold b2r
 refine q9 (fun i=>((((L.take i).foldl (fun m a=>m+a.sz) 1:Nat):Int),(i:Int))) L.length ?_ ?_ (by have:=a2s;omega)
 ·intro i hi r
  unfold b4v
  have hlen:e.Args.length=L.length:=by rw [he];simp
  have hg:i7 e.Args (i:Int)=some (L[i].e):=by rw [a4j (by omega)];simp [he]
  simp only [hlen,c1m hi,if_true,hg,Option.bind_some,hR _ (List.getElem_mem hi),a8s (show i <= 1000000 by omega)]
  have e0:(L.take (i+1)).foldl (fun m a=>m+a.sz) 1=(L.take i).foldl (fun m a=>m+a.sz) 1+L[i].sz:=by
   rw [List.take_succ_eq_append_getElem hi,List.foldl_append];rfl
  have hb:(L.take (i+1)).foldl (fun m a=>m+a.sz) 1 <= 1000:=by
   have h1:L.foldl (fun m b=>m+b.sz) 1=(L.drop (i+1)).foldl (fun m b=>m+b.sz) ((L.take (i+1)).foldl (fun m b=>m+b.sz) 1):=by
    rw [<- List.foldl_append,List.take_append_drop]
   have:=c6w (L.drop (i+1)) ((L.take (i+1)).foldl (fun m b=>m+b.sz) 1)
   omega
  rw [e0] at hb⊢
  rw [j8 (by omega) (by omega)]
  congr 2
 ·intro r
  unfold b4v
  have hlen:e.Args.length=L.length:=by rw [he];simp
  simp only [hlen,b01,Bool.false_eq_true,if_false,List.take_length]
theorem e5z: ∀(a:AE),a.sz <= 1000 -> ∀m,a.dep <= m -> (a2n m).f_syntax_Size a.e=some (a.sz:Int):=by
 refine AE.ind fun a ih hd m hm=> ?_
 obtain ⟨m,rfl⟩: ∃k,m=k+1:=⟨m-1,by have:=c09 a;omega⟩
 rw [e7u a] at hd⊢
 exact d98 _ a.args (fun b hb=>ih b hb (by have:=e9g hb;rw [e7u a] at this;omega) m (by have:=b3q hb;omega)) a.e (c6t a) (b8g a) hd
def AE.leafOK:AE -> Prop
 | .lit v d=>(∃s,s7 v d=some (s,true)) /\ ∃s,a0h v d=some (s,true)
 | .nm s=>w9 s=some true /\ a50 s=some true
 | .best k=>1 <= k /\ k <= 45
 | .bin op _ _=>7 <= op /\ op <= 20
 | .ite _ _ _=>True
inductive AE.ok:AE -> Prop
 | mk {a:AE}:a.leafOK -> (∀b∈a.args,b.ok) -> a.ok
theorem AE.ok.leaf {a:AE} (h:a.ok):a.leafOK:=by cases h;assumption
theorem AE.ok.arg {a b:AE} (h:a.ok) (hb:b∈a.args):b.ok:=by cases h;rename_i h1 h2;exact h2 b hb
theorem d58 (R:Ring_pensionref5_formed) (L:List AE) (hR: ∀a∈L,R.f_pensionref5_formed a.e=some true) (e:Expr) (he:e.Args=L.map AE.e) (hl:L.length <= 3):d8 FU (a58 R true) (e,0)=some true:=by
 refine q9 (fun i=>(e,(i:Int))) L.length ?_ ?_ (by have:=a2s;omega)
 ·intro i hi r
  unfold a58
  have hlen:e.Args.length=L.length:=by rw [he];simp
  have hg:i7 e.Args (i:Int)=some (L[i].e):=by rw [a4j (by omega)];simp [he]
  simp only [hlen,c1m hi,if_true,hg,Option.bind_some,hR _ (List.getElem_mem hi),a8s (show i <= 1000000 by omega),Bool.not_true,Bool.false_eq_true,if_false]
 ·intro r
  unfold a58
  have hlen:e.Args.length=L.length:=by rw [he];simp
  simp only [hlen,b01,Bool.false_eq_true,if_false]
theorem e20 {op:Int} (h1:7 <= op) (h2:op <= 20):a19 op=some 2:=by
 unfold a19
 have e1:decide (op >= 1)=true:=by simp;omega
 have e2:decide (op <= 3)=false:=by simp;omega
 have e3:decide (op >= 4)=true:=by simp;omega
 have e4:decide (op <= 6)=false:=by simp;omega
 have e5:decide (op >= 7)=true:=by simp;omega
 have e6:decide (op <= 20)=true:=by simp;omega
 simp only [e1,e2,e3,e4,e5,e6,if_true,Option.bind_some,Bool.false_eq_true,if_false]
theorem e56 {op:Int} (h1:7 <= op) (h2:op <= 20):a5q op=some 2:=by
 unfold a5q
 have e1:(op==1)=false:=by simp;omega
 have e2:(op==2)=false:=by simp;omega
 have e3:(op==3)=false:=by simp;omega
 have e4:(op==4)=false:=by simp;omega
 have e5:(op==5)=false:=by simp;omega
 have e6:(op==6)=false:=by simp;omega
 have e7:decide (op >= 7)=true:=by simp;omega
 have e8:decide (op <= 20)=true:=by simp;omega
 simp only [e1,e2,e3,e4,e5,e6,e7,e8,if_true,Option.bind_some,Bool.false_eq_true,if_false]
theorem g1u {c:Bool} {x:Bool}: ∃b,(if c=true then some x else some false)=some b:=by cases c<;>exact ⟨_,rfl⟩
theorem e4b: ∀(a:AE),a.ok -> ∀m,a.dep <= m -> (i6 m).f_pensionref5_formed a.e=some true:=by
 refine AE.ind fun a ih hok m hm=> ?_
 obtain ⟨m,rfl⟩: ∃k,m=k+1:=⟨m-1,by have:=c09 a;omega⟩
 have hR: ∀b∈a.args,(i6 m).f_pensionref5_formed b.e=some true:=fun b hb=>ih b hb (hok.arg hb) m (by have:=b3q hb;omega)
 have hlf:=hok.leaf
 show p7 (i6 m) a.e=some true
 have hfin:=d58 (i6 m) a.args hR a.e (c6t a) (b8g a)
 cases a with
 | lit v d=>
   show p7 (i6 m) ⟨1,v,d,a1v,[]⟩=some true
   unfold p7
   obtain ⟨⟨s,hs⟩,_⟩:=hlf
   obtain ⟨b1,h1⟩:=g1u (c:=(v.Num==0)&&((v.Den==0)&&true)) (x:=d==0)
   simp only [show a19 1=some 0 from by kernel_rfl,Option.bind_some,List.length_nil,hs,BEq.rfl,if_true,show (((0:Nat):Int) != 0)=false from rfl,Bool.false_eq_true,if_false]
   rw [h1,Option.bind_some]
   cases b1<;>rfl
 | nm s=>
   show p7 (i6 m) ⟨2,⟨0,0⟩,0,s,[]⟩=some true
   unfold p7
   simp only [show a19 2=some 0 from by kernel_rfl,Option.bind_some,List.length_nil,BEq.rfl,Bool.and_true,if_true,hlf.1,show ((2:Int)==1)=false from rfl,Bool.false_eq_true,if_false]
   rfl
 | best k=>
   show p7 (i6 m) ⟨3,⟨k,1⟩,0,a1v,[]⟩=some true
   unfold p7
   have e1:decide (k >= 1)=true:=by simp;exact hlf.1
   have e2:decide (k <= 45)=true:=by simp;exact hlf.2
   simp only [show (((0:Nat):Int) != 0)=false from rfl,show a19 3=some 0 from by kernel_rfl,Option.bind_some,List.length_nil,BEq.rfl,Bool.and_true,if_true,show ((3:Int)==1)=false from rfl,show ((3:Int)==2)=false from rfl,show ((1:Int)==0)=false from rfl,Bool.and_false,Bool.false_and,Bool.false_eq_true,if_false,e1,e2]
 | bin op x y=>
   show p7 (i6 m) ⟨op,⟨0,0⟩,0,a1v,[x.e,y.e]⟩=some true
   unfold p7
   have o1:(op==1)=false:=by have:=hlf.1;simp;omega
   have o2:(op==2)=false:=by have:=hlf.1;simp;omega
   have o3:(op==3)=false:=by have:=hlf.1;simp;omega
   simp only [e20 hlf.1 hlf.2,Option.bind_some,List.length_cons,List.length_nil,BEq.rfl,Bool.and_true,if_true,o1,o2,o3,Bool.false_eq_true,if_false]
   exact hfin
 | ite x y z=>
   show p7 (i6 m) ⟨21,⟨0,0⟩,0,a1v,[x.e,y.e,z.e]⟩=some true
   unfold p7
   simp only [show a19 21=some 3 from by kernel_rfl,Option.bind_some,List.length_cons,List.length_nil,BEq.rfl,Bool.and_true,if_true,show ((21:Int)==1)=false from rfl,show ((21:Int)==2)=false from rfl,show ((21:Int)==3)=false from rfl,Bool.false_eq_true,if_false]
   exact hfin
end Go.PL
namespace Go.PL
open Go Go.SX
theorem f3u {a:AE} (h:a.leafOK):a2x a.e=some true:=by
 cases a with
 | lit v d=>
   show a2x ⟨1,v,d,a1v,[]⟩=some true
   unfold a2x
   obtain ⟨_,s,hs⟩:=h
   simp only [show a5q 1=some 0 from by kernel_rfl,Option.bind_some,List.length_nil,hs,BEq.rfl,if_true,show (((0:Nat):Int) != 0)=false from rfl,Bool.false_eq_true,if_false]
 | nm s=>
   show a2x ⟨2,⟨0,0⟩,0,s,[]⟩=some true
   unfold a2x
   simp only [show a5q 2=some 0 from by kernel_rfl,Option.bind_some,List.length_nil,h.2,BEq.rfl,Bool.and_true,if_true,show (((0:Nat):Int) != 0)=false from rfl,show ((2:Int)==1)=false from rfl,Bool.false_eq_true,if_false]
 | best k=>
   show a2x ⟨3,⟨k,1⟩,0,a1v,[]⟩=some true
   unfold a2x
   have e1:decide (k >= 1)=true:=by simp;exact h.1
   have e2:decide (k <= 45)=true:=by simp;exact h.2
   simp only [show a5q 3=some 0 from by kernel_rfl,Option.bind_some,List.length_nil,BEq.rfl,if_true,show (((0:Nat):Int) != 0)=false from rfl,show ((3:Int)==1)=false from rfl,show ((3:Int)==2)=false from rfl,Bool.false_eq_true,if_false,e1,e2]
 | bin op x y=>
   show a2x ⟨op,⟨0,0⟩,0,a1v,[x.e,y.e]⟩=some true
   unfold a2x
   have o1:(op==1)=false:=by have:=h.1;simp;omega
   have o2:(op==2)=false:=by have:=h.1;simp;omega
   have o3:(op==3)=false:=by have:=h.1;simp;omega
   simp only [e56 h.1 h.2,Option.bind_some,List.length_cons,List.length_nil,BEq.rfl,Bool.and_true,if_true,o1,o2,o3,Bool.false_eq_true,if_false]
   rfl
 | ite x y z=>
   show a2x ⟨21,⟨0,0⟩,0,a1v,[x.e,y.e,z.e]⟩=some true
   unfold a2x
   simp only [show a5q 21=some 3 from by kernel_rfl,Option.bind_some,List.length_cons,List.length_nil,BEq.rfl,Bool.and_true,if_true,show ((21:Int)==1)=false from rfl,show ((21:Int)==2)=false from rfl,show ((21:Int)==3)=false from rfl,Bool.false_eq_true,if_false]
   rfl
theorem e2m (R:Ring_syntax_form) (L:List AE) (hR: ∀a∈L,R.f_syntax_form_1 a.e=some false) (hl:L.length <= 3):o4 R (L.map AE.e)=some (-1):=by
 unfold o4
 refine q9 (fun i=>(i:Int)) L.length ?_ ?_ (by have:=a2s;omega)
 ·intro i hi r
  unfold a04
  have hg:i7 (L.map AE.e) (i:Int)=some (L[i].e):=by rw [a4j (by simpa using hi)];simp
  simp only [List.length_map,c1m hi,if_true,hg,Option.bind_some,hR _ (List.getElem_mem hi),a8s (show i <= 1000000 by omega),Bool.false_eq_true,if_false]
 ·intro r
  unfold a04
  simp only [List.length_map,b01,Bool.false_eq_true,if_false]
theorem f4h: ∀(a:AE),a.ok -> ∀m,4*a.dep <= m -> (d9 m).f_syntax_form a.e=some true:=by
 refine AE.ind fun a ih hok m hm=> ?_
 obtain ⟨m,rfl⟩: ∃k,m=k+1+1+1+1:=⟨m-4,by have:=c09 a;omega⟩
 have hR: ∀b∈a.args,(d9 (m+1)).f_syntax_form_1 b.e=some false:=fun b hb=>by
  show a9d (d9 m) b.e=some false
  unfold a9d
  rw [ih b hb (hok.arg hb) m (by have:=b3q hb;omega)]
  rfl
 have hloop:=e2m (d9 (m+1)) a.args hR (b8g a)
 have hC:(d9 (m+1+1+1)).f_slices_ContainsFunc_of_api_Expr a.e.Args=some false:=by
  show q0 (d9 (m+1+1)) a.e.Args=some false
  unfold q0
  show (o4 (d9 (m+1)) a.e.Args).bind _=_
  rw [c6t,hloop]
  rfl
 show b2x (d9 (m+1+1+1)) a.e=some true
 unfold b2x
 rw [f3u hok.leaf,Option.bind_some]
 simp only [if_true,hC,Option.bind_some,Bool.not_false]
theorem c8s {a:AE} (h:a.ok) (hd:a.dep <= 10) (hs:a.sz <= 60):a02 a.e=some true:=by
 unfold a02 b5q b71 b41
 have hf:=a2s
 rw [e7a a (by omega) FU (by omega),f5t a (by omega) FU (by omega),e4b a h FU (by omega),Option.bind_some]
 have e1:decide ((a.dep:Int) <= 10)=true:=by simp;omega
 have e2:decide ((a.sz:Int) <= 60)=true:=by simp;omega
 simp only [e1,e2,if_true,Option.bind_some]
theorem b7d {a:AE} (h:a.ok) (hd:a.dep <= 10) (hs:a.sz <= 60):a0k a.e=some true:=by
 unfold a0k c31 c61 c4q
 have hf:=a2s
 rw [e3k a (by omega) FU (by omega),e5z a (by omega) FU (by omega),f4h a h FU (by omega),Option.bind_some]
 have e1:decide ((a.dep:Int) <= 10)=true:=by simp;omega
 have e2:decide ((a.sz:Int) <= 60)=true:=by simp;omega
 simp only [e1,e2,if_true,Option.bind_some]
def okD (o:Option (Int×Bool)):Option Int:=o.bind fun x=>if x.2 then some x.1 else none
theorem f1m {o:Option (Int×Bool)} {d:Int} (h:okD o=some d):o=some (d,true):=by
 cases o with
 | none=>cases h
 | some x=>
   obtain ⟨y,b⟩:=x
   cases b with
   | false=>cases h
   | true=>injection h with h;subst h;rfl
def AE.inf (env:List Binding):AE -> Option Int
 | .lit _ d=>some d
 | .best _=>some 4
 | .nm s=>okD (a61 s env)
 | .bin op a b=>(a.inf env).bind fun x=>(b.inf env).bind fun y=>okD (a9n op [x,y])
 | .ite a b c=>(a.inf env).bind fun x=>(b.inf env).bind fun y=>(c.inf env).bind fun z=>okD (a9n 21 [x,y,z])
theorem c7w (R:Ring_typing_infer) (env:List Binding) (e:Expr) (L:List AE) (ds:List Int) (he:e.Args=L.map AE.e) (hl:L.length <= 3) (hds:ds.length=L.length) {d:Int} (ht:okD (a9n e.Op ds)=some d)
  (hR: ∀i (h:i<L.length),R.f_typing_infer L[i].e env=some (ds[i]'(by omega),0)):d8 FU (a99 R e env) (e,[],0)=some (d,0):=by
 refine q9 (fun i=>(e,ds.take i,(i:Int))) L.length ?_ ?_ (by have:=a2s;omega)
 ·intro i hi r
  unfold a99
  have hlen:e.Args.length=L.length:=by rw [he];simp
  have hg:i7 e.Args (i:Int)=some (L[i].e):=by rw [a4j (by omega)];simp [he]
  simp only [hlen,c1m hi,if_true,hg,Option.bind_some,hR i hi,show ((0:Int) != 0)=false from rfl,Bool.false_eq_true,if_false,b2d (show (ds.take i).length <= 1000 by simp;omega) (show 8 <= 1000 by decide),a8s (show i <= 1000000 by omega)]
  rw [List.take_succ_eq_append_getElem (by omega)]
 ·intro r
  unfold a99
  have hlen:e.Args.length=L.length:=by rw [he];simp
  simp only [hlen,b01,Bool.false_eq_true,if_false]
  rw [show ds.take L.length=ds by rw [<- hds,List.take_length],f1m ht]
  rfl
theorem e6q (env:List Binding): ∀(a:AE),a.ok -> ∀d,a.inf env=some d -> ∀m,a.dep <= m -> (w8 m).f_typing_infer a.e env=some (d,0):=by
 refine AE.ind fun a ih hok d hd m hm=> ?_
 obtain ⟨m,rfl⟩: ∃k,m=k+1:=⟨m-1,by have:=c09 a;omega⟩
 have hR: ∀b∈a.args,∀d,b.inf env=some d -> (w8 m).f_typing_infer b.e env=some (d,0):=fun b hb d hd=>ih b hb (hok.arg hb) d hd m (by have:=b3q hb;omega)
 show a3b (w8 m) a.e env=some (d,0)
 have hlf:=hok.leaf
 cases a with
 | lit v d2=>injection hd with hd;subst hd;rfl
 | nm s=>
   have hd:okD (a61 s env)=some d:=hd
   show a3b (w8 m) ⟨2,⟨0,0⟩,0,s,[]⟩ env=some (d,0)
   unfold a3b
   simp only [show ((2:Int)==1)=false from rfl,show ((2:Int)==3)=false from rfl,Bool.false_eq_true,if_false,BEq.rfl,if_true,f1m hd,Option.bind_some,Bool.not_true]
 | best k=>injection hd with hd;subst hd;rfl
 | bin op x y=>
   obtain ⟨dx,hx,hd⟩:=Option.bind_eq_some_iff.1 hd
   obtain ⟨dy,hy,hd⟩:=Option.bind_eq_some_iff.1 hd
   show a3b (w8 m) ⟨op,⟨0,0⟩,0,a1v,[x.e,y.e]⟩ env=some (d,0)
   unfold a3b
   have o1:(op==1)=false:=by have:=hlf.1;simp;omega
   have o2:(op==2)=false:=by have:=hlf.1;simp;omega
   have o3:(op==3)=false:=by have:=hlf.1;simp;omega
   simp only [o1,o2,o3,Bool.false_eq_true,if_false]
   refine c7w _ env _ [x,y] [dx,dy] rfl (by simp) rfl hd fun i hi=> ?_
   have hi:i<2:=hi
   match i,hi with
   | 0,_=>exact hR x (by simp [AE.args]) dx hx
   | 1,_=>exact hR y (by simp [AE.args]) dy hy
 | ite x y z=>
   obtain ⟨dx,hx,hd⟩:=Option.bind_eq_some_iff.1 hd
   obtain ⟨dy,hy,hd⟩:=Option.bind_eq_some_iff.1 hd
   obtain ⟨dz,hz,hd⟩:=Option.bind_eq_some_iff.1 hd
   show a3b (w8 m) ⟨21,⟨0,0⟩,0,a1v,[x.e,y.e,z.e]⟩ env=some (d,0)
   unfold a3b
   simp only [show ((21:Int)==1)=false from rfl,show ((21:Int)==2)=false from rfl,show ((21:Int)==3)=false from rfl,Bool.false_eq_true,if_false]
   refine c7w _ env _ [x,y,z] [dx,dy,dz] rfl (by simp) rfl hd fun i hi=> ?_
   have hi:i<3:=hi
   match i,hi with
   | 0,_=>exact hR x (by simp [AE.args]) dx hx
   | 1,_=>exact hR y (by simp [AE.args]) dy hy
   | 2,_=>exact hR z (by simp [AE.args]) dz hz
def d2c (env:List Binding):Prop:=env.length <= 1000 /\ ∀b∈env,1 <= b.Dim /\ b.Dim <= 4
theorem d15 {env:List Binding} (h:d2c env):p4 env=some false:=by
 unfold p4 y9
 have:d8 FU (p3 env) ((0:Nat):Int)=some (-1):=by
  refine q9 (fun i=>(i:Int)) env.length ?_ ?_ (by have:=a2s;have:=h.1;omega)
  ·intro i hi r
   unfold p3 b4r
   have hb:=h.2 _ (List.getElem_mem hi)
   have e1:decide (env[i].Dim<1)=false:=by simp;omega
   have e2:decide (env[i].Dim>4)=false:=by simp;omega
   have:=h.1
   simp only [c1m hi,if_true,a4j hi,Option.bind_some,e1,e2,Bool.false_eq_true,if_false,a8s (show i <= 1000000 by omega)]
  ·intro r
   unfold p3
   simp only [b01,Bool.false_eq_true,if_false]
 rw [show (0:Int)=((0:Nat):Int) from rfl,this]
 rfl
theorem d05 {env:List Binding} (henv:d2c env) {a:AE} (h:a.ok) (hd:a.dep <= 10) (hs:a.sz <= 60) {d:Int} (hi:a.inf env=some d):b1f a.e env=some (d,0):=by
 unfold b1f
 have hf:=a2s
 simp only [b7d h hd hs,Option.bind_some,Bool.not_true,Bool.false_eq_true,if_false,d15 henv,show c3d a.e env=some (d,0) from e6q env a h d hi FU (by omega)]
theorem g3y {env:List Binding} (henv:d2c env) {a:AE} (h:a.ok) (hd:a.dep <= 10) (hs:a.sz <= 60) {d:Int} (hi:a.inf env=some d):b3v a.e env d=some 0:=by
 unfold b3v
 simp only [d05 henv h hd hs hi,Option.bind_some,show ((0:Int) != 0)=false from rfl,Bool.false_eq_true,if_false,bne_self_eq_false]
end Go.PL
namespace Go.PL
open Go Go.SX
def nz (o:Option ByteArray):Bool:=match o with | some w=> !(w.toList==a1v.toList) | none=>false
theorem d4q {o:Option ByteArray} (h:nz o=true): ∃w,o=some w /\ (w.toList==a1v.toList)=false:=by
 cases o with
 | none=>cases h
 | some w=>exact ⟨w,rfl,by simpa [nz] using h⟩
def f0v:List syntax_entry:=(b48).getD []
def d1g:List syntax_entry:=(a77).getD []
def d6e:List syntax_entry:=(b4p).getD []
theorem e73:b48=some f0v:=rfl
theorem c5e:a77=some d1g:=rfl
theorem e7p:b4p=some d6e:=rfl
structure CrOK (c:Credit):Prop where
 w5:nz (a3m c.Kind 1)=true
 wS:nz (a1l f0v c.Kind)=true
 l0:0 <= c.Limit
 l1:c.Limit <= 73049
structure IxOK (x:Index):Prop where
 y0:1900 <= x.Year
 y1:x.Year <= 2099
 n:1 <= x.Factor.Num
 f5: ∃s,s7 x.Factor 2=some (s,true)
 fS: ∃s,a0h x.Factor 2=some (s,true)
structure ExOK (env:List Binding) (e:Expr) (d:Int):Prop where
 ex: ∃a:AE,e=a.e /\ a.ok /\ a.dep <= 10 /\ a.sz <= 60 /\ a.inf env=some d
structure BnOK (b:Int):Prop where
 w5:nz (a3m b 2)=true
 wS:nz (a1l d1g b)=true
structure VOK (env:List Binding) (v:Version):Prop where
 f0:0 <= v.From
 f1:v.From <= 73048
 m0:1 <= v.Rounding.Mode
 m1:v.Rounding.Mode <= 4
 mS:nz (a1l d6e v.Rounding.Mode)=true
 u0:1 <= v.Rounding.Unit
 u1:v.Rounding.Unit <= 100000
 cl:v.Credits.length <= 6
 sl:v.Series.length <= 20
 ll:v.Lets.length <= 10
 gl:v.Grants.length <= 5
 rl:v.Reduces.length <= 5
 cr: ∀c∈v.Credits,CrOK c
 crp:v.Credits.Pairwise fun a b=>a.Kind≠b.Kind
 ix: ∀x∈v.Series,IxOK x
 ixp:v.Series.Pairwise fun a b=>a.Year<b.Year
 lt: ∀x∈v.Lets,w9 x.Name=some true /\ a50 x.Name=some true /\ a02 x.Body=some true /\ a0k x.Body=some true
 ls:b3a v.Lets=some (env,0)
 en:d2c env
 gr: ∀g∈v.Grants,BnOK g.Benefit /\ ExOK env g.If 1 /\ ExOK env g.Pay 4
 grp:v.Grants.Pairwise fun a b=>a.Benefit≠b.Benefit
 rd: ∀r∈v.Reduces,BnOK r.Benefit /\ ExOK env r.By 2
 rdp:v.Reduces.Pairwise fun a b=>a.Benefit≠b.Benefit
theorem ExOK.v5 {env:List Binding} {e:Expr} {d:Int} (h:ExOK env e d):a02 e=some true:=by
 obtain ⟨a,rfl,h1,h2,h3,_⟩:=h.ex
 exact c8s h1 h2 h3
theorem ExOK.vS {env:List Binding} {e:Expr} {d:Int} (h:ExOK env e d):a0k e=some true:=by
 obtain ⟨a,rfl,h1,h2,h3,_⟩:=h.ex
 exact b7d h1 h2 h3
theorem ExOK.of {env:List Binding} (hen:d2c env) {e:Expr} {d:Int} (h:ExOK env e d):b3v e env d=some 0:=by
 obtain ⟨a,rfl,h1,h2,h3,h4⟩:=h.ex
 exact g3y hen h1 h2 h3 h4
section
variable {env:List Binding} {v:Version}
theorem e6x (h:VOK env v):a3l v=some true:=by
 have hf:=a2s
 have l5:d8 FU a27 (v,0)=some true:=by
  refine q9 (fun i=>(v,(i:Int))) v.Reduces.length ?_ ?_ (by have:=h.rl;omega)
  ·intro i hi r
   have hc:=h.rd _ (List.getElem_mem hi)
   obtain ⟨w,h1,h2⟩:=d4q hc.1.w5
   have:=h.rl
   unfold a27
   simp only [c1m hi,if_true,a4j hi,Option.bind_some,h1,h2,hc.2.v5,Bool.not_true,Bool.false_eq_true,if_false,a8s (show i <= 1000000 by omega)]
  ·intro r
   unfold a27
   simp only [b01,Bool.false_eq_true,if_false]
 have l4:d8 FU a24 (v,0)=some true:=by
  refine q9 (fun i=>(v,(i:Int))) v.Grants.length ?_ ?_ (by have:=h.gl;omega)
  ·intro i hi r
   have hc:=h.gr _ (List.getElem_mem hi)
   obtain ⟨w,h1,h2⟩:=d4q hc.1.w5
   have:=h.gl
   unfold a24
   simp only [c1m hi,if_true,a4j hi,Option.bind_some,h1,h2,hc.2.1.v5,hc.2.2.v5,Bool.not_true,Bool.false_eq_true,if_false,a8s (show i <= 1000000 by omega)]
  ·intro r
   unfold a24
   simp only [b01,Bool.false_eq_true,if_false]
   exact l5
 have l3:d8 FU a23 (v,0)=some true:=by
  refine q9 (fun i=>(v,(i:Int))) v.Lets.length ?_ ?_ (by have:=h.ll;omega)
  ·intro i hi r
   have hc:=h.lt _ (List.getElem_mem hi)
   have:=h.ll
   unfold a23
   simp only [c1m hi,if_true,a4j hi,Option.bind_some,hc.1,hc.2.2.1,Bool.not_true,Bool.false_eq_true,if_false,a8s (show i <= 1000000 by omega)]
  ·intro r
   unfold a23
   simp only [b01,Bool.false_eq_true,if_false]
   exact l4
 have l2:d8 FU a21 (v,0)=some true:=by
  refine q9 (fun i=>(v,(i:Int))) v.Series.length ?_ ?_ (by have:=h.sl;omega)
  ·intro i hi r
   have hc:=h.ix _ (List.getElem_mem hi)
   obtain ⟨s,hs⟩:=hc.f5
   have:=h.sl
   have e1:decide (v.Series[i].Year<1900)=false:=by have:=hc.y0;simp;omega
   have e2:decide (v.Series[i].Year>2099)=false:=by have:=hc.y1;simp;omega
   have e3:decide (v.Series[i].Factor.Num<1)=false:=by have:=hc.n;simp;omega
   unfold a21
   simp only [c1m hi,if_true,a4j hi,Option.bind_some,hs,e1,e2,e3,Bool.not_true,Bool.false_eq_true,if_false,a8s (show i <= 1000000 by omega)]
  ·intro r
   unfold a21
   simp only [b01,Bool.false_eq_true,if_false]
   exact l3
 have l1:d8 FU a2b (v,0)=some true:=by
  refine q9 (fun i=>(v,(i:Int))) v.Credits.length ?_ ?_ (by have:=h.cl;omega)
  ·intro i hi r
   have hc:=h.cr _ (List.getElem_mem hi)
   obtain ⟨w,h1,h2⟩:=d4q hc.w5
   have:=h.cl
   have e1:decide (v.Credits[i].Limit<0)=false:=by have:=hc.l0;simp;omega
   have e2:decide (v.Credits[i].Limit>73049)=false:=by have:=hc.l1;simp;omega
   unfold a2b
   simp only [c1m hi,if_true,a4j hi,Option.bind_some,h1,h2,e1,e2,Bool.not_true,Bool.false_eq_true,if_false,a8s (show i <= 1000000 by omega)]
  ·intro r
   unfold a2b
   simp only [b01,Bool.false_eq_true,if_false]
   exact l2
 unfold a3l a84 a5b
 have d1:decide (v.From >= 0)=true:=by have:=h.f0;simp;omega
 have d2:decide (v.From <= 73048)=true:=by have:=h.f1;simp;omega
 have d3:decide (v.Rounding.Mode >= 1)=true:=by have:=h.m0;simp;omega
 have d4:decide (v.Rounding.Mode <= 4)=true:=by have:=h.m1;simp;omega
 have d5:decide (v.Rounding.Unit >= 1)=true:=by have:=h.u0;simp;omega
 have d6:decide (v.Rounding.Unit <= 100000)=true:=by have:=h.u1;simp;omega
 have n1:decide ((v.Credits.length:Int)>6)=false:=by have:=h.cl;simp;omega
 have n2:decide ((v.Series.length:Int)>20)=false:=by have:=h.sl;simp;omega
 have n3:decide ((v.Lets.length:Int)>10)=false:=by have:=h.ll;simp;omega
 have n4:decide ((v.Grants.length:Int)>5)=false:=by have:=h.gl;simp;omega
 have n5:decide ((v.Reduces.length:Int)>5)=false:=by have:=h.rl;simp;omega
 simp only [d1,d2,d3,d4,d5,d6,n1,n2,n3,n4,n5,if_true,Option.bind_some,Bool.not_true,Bool.false_eq_true,if_false]
 exact l1
theorem e8b (h:VOK env v):a5t v=some true:=by
 have hf:=a2s
 have l5:joinC a6l v=some true:=by
  unfold joinC a6l
  refine q9 (fun i=>(i:Int)) v.Reduces.length ?_ ?_ (by have:=h.rl;omega)
  ·intro i hi r
   have hc:=h.rd _ (List.getElem_mem hi)
   obtain ⟨w,h1,h2⟩:=d4q hc.1.wS
   have:=h.rl
   unfold a6j
   simp only [c1m hi,if_true,a4j hi,Option.bind_some,c5e,h1,h2,hc.2.vS,Bool.not_true,Bool.false_eq_true,if_false,a8s (show i <= 1000000 by omega)]
  ·intro r
   unfold a6j
   simp only [b01,Bool.false_eq_true,if_false]
 have l4:joinC a6q v=some true:=by
  unfold joinC a6q
  refine q9 (fun i=>(v,(i:Int))) v.Grants.length ?_ ?_ (by have:=h.gl;omega)
  ·intro i hi r
   have hc:=h.gr _ (List.getElem_mem hi)
   obtain ⟨w,h1,h2⟩:=d4q hc.1.wS
   have:=h.gl
   unfold a6p
   simp only [c1m hi,if_true,a4j hi,Option.bind_some,c5e,h1,h2,hc.2.1.vS,hc.2.2.vS,Bool.not_true,Bool.false_eq_true,if_false,a8s (show i <= 1000000 by omega)]
  ·intro r
   unfold a6p
   simp only [b01,Bool.false_eq_true,if_false]
   exact l5
 have l3:joinC a6i v=some true:=by
  unfold joinC a6i
  refine q9 (fun i=>(v,(i:Int))) v.Lets.length ?_ ?_ (by have:=h.ll;omega)
  ·intro i hi r
   have hc:=h.lt _ (List.getElem_mem hi)
   have:=h.ll
   unfold a6m
   simp only [c1m hi,if_true,a4j hi,Option.bind_some,hc.2.1,hc.2.2.2,Bool.not_true,Bool.false_eq_true,if_false,a8s (show i <= 1000000 by omega)]
  ·intro r
   unfold a6m
   simp only [b01,Bool.false_eq_true,if_false]
   exact l4
 have l2:joinC a6k v=some true:=by
  unfold joinC a6k
  refine q9 (fun i=>(v,(i:Int))) v.Series.length ?_ ?_ (by have:=h.sl;omega)
  ·intro i hi r
   have hc:=h.ix _ (List.getElem_mem hi)
   obtain ⟨s,hs⟩:=hc.fS
   have:=h.sl
   have e1:decide (v.Series[i].Year >= 1900)=true:=by have:=hc.y0;simp;omega
   have e2:decide (v.Series[i].Year <= 2099)=true:=by have:=hc.y1;simp;omega
   have e3:decide (v.Series[i].Factor.Num>0)=true:=by have:=hc.n;simp;omega
   unfold a6o b0m b28
   simp only [c1m hi,if_true,a4j hi,Option.bind_some,hs,e1,e2,e3,Bool.not_true,Bool.false_eq_true,if_false,a8s (show i <= 1000000 by omega)]
  ·intro r
   unfold a6o
   simp only [b01,Bool.false_eq_true,if_false]
   exact l3
 have l1:d8 FU (a4v v) (v,0)=some true:=by
  refine q9 (fun i=>(v,(i:Int))) v.Credits.length ?_ ?_ (by have:=h.cl;omega)
  ·intro i hi r
   have hc:=h.cr _ (List.getElem_mem hi)
   obtain ⟨w,h1,h2⟩:=d4q hc.wS
   have:=h.cl
   have e1:decide (v.Credits[i].Limit<0)=false:=by have:=hc.l0;simp;omega
   have e2:decide (v.Credits[i].Limit>73049)=false:=by have:=hc.l1;simp;omega
   unfold a4v
   simp only [c1m hi,if_true,a4j hi,Option.bind_some,e73,h1,h2,e1,e2,Bool.not_true,Bool.false_eq_true,if_false,a8s (show i <= 1000000 by omega)]
  ·intro r
   unfold a4v
   simp only [b01,Bool.false_eq_true,if_false]
   exact l2
 unfold a5t a4f
 have d1:decide (v.From >= 0)=true:=by have:=h.f0;simp;omega
 have d2:decide (v.From <= 73048)=true:=by have:=h.f1;simp;omega
 have d5:decide (v.Rounding.Unit<1)=false:=by have:=h.u0;simp;omega
 have d6:decide (v.Rounding.Unit>100000)=false:=by have:=h.u1;simp;omega
 have n1:decide ((v.Credits.length:Int)>6)=false:=by have:=h.cl;simp;omega
 have n2:decide ((v.Series.length:Int)>20)=false:=by have:=h.sl;simp;omega
 have n3:decide ((v.Lets.length:Int)>10)=false:=by have:=h.ll;simp;omega
 have n4:decide ((v.Grants.length:Int)>5)=false:=by have:=h.gl;simp;omega
 have n5:decide ((v.Reduces.length:Int)>5)=false:=by have:=h.rl;simp;omega
 obtain ⟨w,h1,h2⟩:=d4q h.mS
 simp only [d1,d2,d5,d6,e7p,h1,h2,if_true,Option.bind_some,Bool.not_true,Bool.false_eq_true,if_false]
 unfold joinC a6n
 simp only [n1,n2,n3,n4,n5,if_true,Option.bind_some,Bool.not_true,Bool.false_eq_true,if_false]
 exact l1
theorem c5f {l:List Credit} {c:Credit} (hl:l.length <= 1000) (h: ∀x∈l,x.Kind≠c.Kind):o8 l c=some false:=by
 unfold o8 y7
 have:d8 FU (o9 l c) ((0:Nat):Int)=some (-1):=by
  refine q9 (fun i=>(i:Int)) l.length ?_ ?_ (by have:=a2s;omega)
  ·intro i hi r
   have hb:=h _ (List.getElem_mem hi)
   have e1:(l[i].Kind==c.Kind)=false:=by simpa using hb
   unfold o9 b29
   simp only [c1m hi,if_true,a4j hi,Option.bind_some,e1,Bool.false_eq_true,if_false,a8s (show i <= 1000000 by omega)]
  ·intro r
   unfold o9
   simp only [b01,Bool.false_eq_true,if_false]
 rw [show (0:Int)=((0:Nat):Int) from rfl,this]
 rfl
theorem c6f {l:List Grant} {c:Grant} (hl:l.length <= 1000) (h: ∀x∈l,x.Benefit≠c.Benefit):p6 l c=some false:=by
 unfold p6 a01
 have:d8 FU (p5 l c) ((0:Nat):Int)=some (-1):=by
  refine q9 (fun i=>(i:Int)) l.length ?_ ?_ (by have:=a2s;omega)
  ·intro i hi r
   have hb:=h _ (List.getElem_mem hi)
   have e1:(l[i].Benefit==c.Benefit)=false:=by simpa using hb
   unfold p5 b24
   simp only [c1m hi,if_true,a4j hi,Option.bind_some,e1,Bool.false_eq_true,if_false,a8s (show i <= 1000000 by omega)]
  ·intro r
   unfold p5
   simp only [b01,Bool.false_eq_true,if_false]
 rw [show (0:Int)=((0:Nat):Int) from rfl,this]
 rfl
theorem c50 {l:List Reduce} {c:Reduce} (hl:l.length <= 1000) (h: ∀x∈l,x.Benefit≠c.Benefit):o6 l c=some false:=by
 unfold o6 y8
 have:d8 FU (o7 l c) ((0:Nat):Int)=some (-1):=by
  refine q9 (fun i=>(i:Int)) l.length ?_ ?_ (by have:=a2s;omega)
  ·intro i hi r
   have hb:=h _ (List.getElem_mem hi)
   have e1:(l[i].Benefit==c.Benefit)=false:=by simpa using hb
   unfold o7 b1z
   simp only [c1m hi,if_true,a4j hi,Option.bind_some,e1,Bool.false_eq_true,if_false,a8s (show i <= 1000000 by omega)]
  ·intro r
   unfold o7
   simp only [b01,Bool.false_eq_true,if_false]
 rw [show (0:Int)=((0:Nat):Int) from rfl,this]
 rfl
theorem d3s {α:Type} {l:List α} {i:Nat} (h:i<l.length):a2t l 0 (i:Int)=some (l.take i):=by
 rw [b5r (Int.le_refl _) (by omega) (by omega)]
 simp
theorem c5n {α:Type} {R:α -> α -> Prop} {l:List α} (h:l.Pairwise R) {i:Nat} (hi:i<l.length): ∀x∈l.take i,R x l[i]:=by
 intro x hx
 obtain ⟨j,hj,rfl⟩:=List.getElem_of_mem hx
 have hj2:j<i:=by simp at hj;omega
 rw [List.getElem_take]
 exact List.pairwise_iff_getElem.1 h j i (by omega) hi hj2
theorem e8f (h:VOK env v):b1a v=some 0:=by
 have hf:=a2s
 have l4: ∀v12:Version×List Binding×Int,v12.1=v -> d8 FU (a7y v12) (v,env,0)=some 0:=by
  intro v12 hv
  refine q9 (fun i=>(v,env,(i:Int))) v.Reduces.length ?_ ?_ (by have:=h.rl;omega)
  ·intro i hi r
   have hc:=h.rd _ (List.getElem_mem hi)
   have:=h.rl
   unfold a7y
   simp only [hv,c1m hi,if_true,a4j hi,Option.bind_some,d3s hi,c50 (l:=v.Reduces.take i) (by simp;omega) (c5n h.rdp hi),hc.2.of h.en,show ((0:Int) != 0)=false from rfl,Bool.false_eq_true,if_false,a8s (show i <= 1000000 by omega)]
  ·intro r
   unfold a7y
   simp only [hv,b01,Bool.false_eq_true,if_false]
 have l3: ∀v12:Version×List Binding×Int,v12.1=v -> d8 FU (a7j v12) (v,env,0)=some 0:=by
  intro v12 hv
  refine q9 (fun i=>(v,env,(i:Int))) v.Grants.length ?_ ?_ (by have:=h.gl;omega)
  ·intro i hi r
   have hc:=h.gr _ (List.getElem_mem hi)
   have:=h.gl
   unfold a7j
   simp only [hv,c1m hi,if_true,a4j hi,Option.bind_some,d3s hi,c6f (l:=v.Grants.take i) (by simp;omega) (c5n h.grp hi),hc.2.1.of h.en,hc.2.2.of h.en,show ((0:Int) != 0)=false from rfl,Bool.false_eq_true,if_false,a8s (show i <= 1000000 by omega)]
  ·intro r
   unfold a7j
   simp only [hv,b01,Bool.false_eq_true,if_false]
   exact l4 _ rfl
 have l2: ∀v12:Version×List Binding×Int,v12.1=v -> d8 FU (a7v v12) (v,env,0)=some 0:=by
  intro v12 hv
  refine q9 (fun i=>(v,env,(i:Int))) v.Series.length ?_ ?_ (by have:=h.sl;omega)
  ·intro i hi r
   have:=h.sl
   unfold a7v
   simp only [hv,c1m hi,if_true,a4j hi,Option.bind_some]
   have e:((if decide ((i:Int)>0) then (i7 v.Series (i64 ((i:Int)-1))).bind fun v10=>some (decide (v.Series[i].Year <= v10.Year)) else some false):Option Bool)=some false:=by
    cases i with
    | zero=>rfl
    | succ i=>
      have hlt:=List.pairwise_iff_getElem.1 h.ixp i (i+1) (by omega) hi (by omega)
      have e1:decide (((i+1:Nat):Int)>0)=true:=by simp
      have e2:i64 (((i+1:Nat):Int)-1)=(i:Int):=by rw [j8 (by omega) (by omega)];omega
      have e3:decide (v.Series[i+1].Year <= v.Series[i].Year)=false:=by simp;omega
      simp only [e1,if_true,e2,a4j (show i<v.Series.length by omega),Option.bind_some,e3]
   rw [e,Option.bind_some]
   simp only [Bool.false_eq_true,if_false,a8s (show i <= 1000000 by omega)]
  ·intro r
   unfold a7v
   simp only [hv,b01,Bool.false_eq_true,if_false]
   exact l3 _ rfl
 have l1:d8 FU (a7w v) (v,env,0)=some 0:=by
  refine q9 (fun i=>(v,env,(i:Int))) v.Credits.length ?_ ?_ (by have:=h.cl;omega)
  ·intro i hi r
   have:=h.cl
   unfold a7w
   simp only [c1m hi,if_true,a4j hi,Option.bind_some,d3s hi,c5f (l:=v.Credits.take i) (by simp;omega) (c5n h.crp hi),Bool.false_eq_true,if_false,a8s (show i <= 1000000 by omega)]
  ·intro r
   unfold a7w
   simp only [b01,Bool.false_eq_true,if_false]
   exact l2 _ rfl
 unfold b1a
 simp only [h.ls,Option.bind_some,show ((0:Int) != 0)=false from rfl,Bool.false_eq_true,if_false]
 exact l1
end
structure SOK (x:Statute):Prop where
 n5:w9 x.Name=some true
 nS:a50 x.Name=some true
 c0:1 <= x.Currency
 c1:x.Currency <= 999
 l0:1 <= x.Versions.length
 l1:x.Versions.length <= 6
 vs: ∀v∈x.Versions,∃env,VOK env v
 vp:x.Versions.Pairwise fun a b=>a.From<b.From
theorem f2p {x:Statute} (h:SOK x):a4g x=some true:=by
 have hf:=a2s
 have l1:d8 FU a5f (x,0)=some true:=by
  refine q9 (fun i=>(x,(i:Int))) x.Versions.length ?_ ?_ (by have:=h.l1;omega)
  ·intro i hi r
   obtain ⟨env,hv⟩:=h.vs _ (List.getElem_mem hi)
   have:=h.l1
   unfold a5f
   simp only [c1m hi,if_true,a4j hi,Option.bind_some,e6x hv,Bool.not_true,Bool.false_eq_true,if_false,a8s (show i <= 1000000 by omega)]
  ·intro r
   unfold a5f
   simp only [b01,Bool.false_eq_true,if_false]
 unfold a4g
 have d1:decide (x.Currency<1)=false:=by have:=h.c0;simp;omega
 have d2:decide (x.Currency>999)=false:=by have:=h.c1;simp;omega
 have d3:decide ((x.Versions.length:Int)<1)=false:=by have:=h.l0;simp;omega
 have d4:decide ((x.Versions.length:Int)>6)=false:=by have:=h.l1;simp;omega
 simp only [h.n5,d1,d2,d3,d4,Option.bind_some,Bool.not_true,Bool.false_eq_true,if_false]
 exact l1
theorem e65 {x:Statute} (h:SOK x):b4q x=some true:=by
 have hf:=a2s
 have l1:d8 FU (a9c x) 0=some true:=by
  refine q9 (fun i=>(i:Int)) x.Versions.length ?_ ?_ (by have:=h.l1;omega)
  ·intro i hi r
   obtain ⟨env,hv⟩:=h.vs _ (List.getElem_mem hi)
   have:=h.l1
   unfold a9c
   simp only [c1m hi,if_true,a4j hi,Option.bind_some,e8b hv,Bool.not_true,Bool.false_eq_true,if_false,a8s (show i <= 1000000 by omega)]
  ·intro r
   unfold a9c
   simp only [b01,Bool.false_eq_true,if_false]
 unfold b4q
 have d1:decide (x.Currency<1)=false:=by have:=h.c0;simp;omega
 have d2:decide (x.Currency>999)=false:=by have:=h.c1;simp;omega
 have d3:decide ((x.Versions.length:Int)<1)=false:=by have:=h.l0;simp;omega
 have d4:decide ((x.Versions.length:Int)>6)=false:=by have:=h.l1;simp;omega
 simp only [h.nS,d1,d2,d3,d4,Option.bind_some,Bool.not_true,Bool.false_eq_true,if_false]
 exact l1
theorem c8o {x:Statute} (h:SOK x):a5c x=some (0,0):=by
 have hf:=a2s
 unfold a5c
 simp only [e65 h,Option.bind_some,Bool.not_true,Bool.false_eq_true,if_false]
 refine q9 (fun i=>(x,(i:Int))) x.Versions.length ?_ ?_ (by have:=h.l1;omega)
 ·intro i hi r
  obtain ⟨env,hv⟩:=h.vs _ (List.getElem_mem hi)
  have:=h.l1
  unfold b0o
  simp only [c1m hi,if_true,a4j hi,Option.bind_some]
  have e:((if decide ((i:Int)>0) then (i7 x.Versions (i64 ((i:Int)-1))).bind fun v5=>some (decide (x.Versions[i].From <= v5.From)) else some false):Option Bool)=some false:=by
   cases i with
   | zero=>rfl
   | succ i=>
     have hlt:=List.pairwise_iff_getElem.1 h.vp i (i+1) (by omega) hi (by omega)
     have e1:decide (((i+1:Nat):Int)>0)=true:=by simp
     have e2:i64 (((i+1:Nat):Int)-1)=(i:Int):=by rw [j8 (by omega) (by omega)];omega
     have e3:decide (x.Versions[i+1].From <= x.Versions[i].From)=false:=by simp;omega
     simp only [e1,if_true,e2,a4j (show i<x.Versions.length by omega),Option.bind_some,e3]
  rw [e,Option.bind_some]
  simp only [Bool.false_eq_true,if_false,e8f hv,Option.bind_some,show ((0:Int) != 0)=false from rfl,a8s (show i <= 1000000 by omega)]
 ·intro r
  unfold b0o
  simp only [b01,Bool.false_eq_true,if_false]
end Go.PL
namespace Go.PL
open Go Go.SX
structure NumX (w:List UInt8) (v:Fraction) (d:Int):Prop where
 st: ∃c r,w=c::r /\ c9a (iv c)=true /\ d87 (iv c)=false
 rc: ∀x∈w,d3p true x=true
 pt: ∃x y,a0o ⟨w.toArray⟩=some (x,y,d,true)
 de:y2 ⟨w.toArray⟩=some (v,d,true)
 f5: ∃s,s7 v d=some (s,true)
 fS: ∃s,a0h v d=some (s,true)
theorem f2j {c:UInt8} (h:c9a (iv c)=true):d3p true c=true:=by unfold d3p;rw [h];simp
theorem NumX.whole {n:Nat} (hn:n <= 100000) {s:List UInt8} {d:Int} (hs:g0x s d):NumX (a8a 20 n++s) ⟨(n:Int),1⟩ d:=by
 have hd:=e30 20 n (Nat.lt_of_le_of_lt hn (by decide))
 have hdl:=c15 20 n 5 (Nat.lt_of_le_of_lt hn (by decide))
 have hd2:2 <= d /\ d <= 4:=by rcases hs with ⟨_,rfl⟩ | ⟨_,rfl⟩ | ⟨_,rfl⟩<;>decide
 refine ⟨?_,?_,⟨_,_,c5r hd (by omega) hs⟩,e34 hd (by omega) hs,d9f (by omega) (by omega) hd2.1 hd2.2,d81 (by omega) hd2.1 hd2.2⟩
 ·cases hb:a8a 20 n with
  | nil=>exact absurd hb hd.ne
  | cons c r=>
    have hc:=hd.dig c (by rw [hb];simp)
    have hr:=b7b hc
    exact ⟨c,r++s,rfl,hc,by unfold d87;simp;omega⟩
 ·intro x hx
  rcases List.mem_append.1 hx with hx | hx
  ·exact f2j (hd.dig x hx)
  ·rcases hs with ⟨rfl,_⟩ | ⟨rfl,_⟩ | ⟨rfl,_⟩
   ·cases hx
   ·rw [List.mem_singleton] at hx;subst hx;rfl
   ·rw [List.mem_singleton] at hx;subst hx;rfl
def g2x (o:Option (ByteArray×Bool)):Bool:=match o with | some (_,b)=>b | none=>false
theorem e43 {o:Option (ByteArray×Bool)} (h:g2x o=true): ∃s,o=some (s,true):=by
 cases o with
 | none=>cases h
 | some x=>obtain ⟨s,b⟩:=x;cases b with | false=>cases h | true=>exact ⟨s,rfl⟩
def okP (w:List UInt8) (d:Int):Bool:=match a0o ⟨w.toArray⟩ with | some (_,_,d2,b)=>b&&d2==d | none=>false
theorem f9c {w:List UInt8} {d:Int} (h:okP w d=true): ∃x y,a0o ⟨w.toArray⟩=some (x,y,d,true):=by
 unfold okP at h
 split at h
 ·rename_i x y d2 b he
  simp at h
  obtain ⟨rfl,rfl⟩:=h
  exact ⟨x,y,he⟩
 ·cases h
def okV (w:List UInt8) (d:Int) (v:Fraction):Bool:=match y2 ⟨w.toArray⟩ with | some (u,d2,b)=>b&&(d2==d&&(u.Num==v.Num&&u.Den==v.Den)) | none=>false
theorem f9v {w:List UInt8} {d:Int} {v:Fraction} (h:okV w d v=true):y2 ⟨w.toArray⟩=some (v,d,true):=by
 unfold okV at h
 split at h
 ·rename_i u d2 b he
  simp at h
  obtain ⟨rfl,rfl,h1,h2⟩:=h
  rw [he]
  cases u;cases v
  simp at h1 h2
  subst h1;subst h2
  rfl
 ·cases h
def f3m (w:List UInt8) (v:Fraction) (d:Int):Bool:=(match w with | c::_=>c9a (iv c)&& !d87 (iv c) | []=>false)&&(w.all (d3p true)&&(okP w d&&(okV w d v&&(g2x (s7 v d)&&g2x (a0h v d)))))
theorem NumX.chk {w:List UInt8} {v:Fraction} {d:Int} (h:f3m w v d=true):NumX w v d:=by
 unfold f3m at h
 simp only [Bool.and_eq_true] at h
 obtain ⟨h1,h2,h3,h4,h5,h6⟩:=h
 refine ⟨?_,fun x hx=>List.all_eq_true.1 h2 x hx,f9c h3,f9v h4,e43 h5,e43 h6⟩
 cases w with
 | nil=>cases h1
 | cons c r=>simp at h1;exact ⟨c,r,rfl,h1.1,h1.2⟩
def okA:List Lx -> List UInt8 -> Prop
 | [],_=>True
 | l::ls,rest=>LxOK l.t l.w (blk l.sp++(a0a ls++rest)) /\ okA ls rest
theorem a4c: ∀(a b:List Lx),a0a (a++b)=a0a a++a0a b
 | [],b=>rfl
 | l::a,b=>by
   show l.w++(blk l.sp++a0a (a++b))=l.w++(blk l.sp++a0a a)++a0a b
   rw [a4c a b];simp
theorem a95: ∀(a b:List Lx) (rest:List UInt8),okA a (a0a b++rest) -> okA b rest -> okA (a++b) rest
 | [],b,rest,_,h=>h
 | l::a,b,rest,h1,h2=>⟨by
    have:=h1.1
    show LxOK l.t l.w (blk l.sp++(a0a (a++b)++rest))
    rw [a4c,List.append_assoc]
    exact this,a95 a b rest h1.2 h2⟩
theorem e9b: ∀(a:List Lx),okA a [] -> okL a
 | [],_=>trivial
 | l::a,h=>⟨by have:=h.1;rw [List.append_nil] at this;exact this,e9b a h.2⟩
def bl (s:ByteArray):List UInt8:=s.data.toList
def d4y (s:ByteArray):Bool:=match bl s with | c::w=>d87 (iv c)&&((c::w).all (d3p false)&&decide ((c::w).length <= 12)) | []=>false
theorem LxOK.word {s:ByteArray} {rest:List UInt8} (h:d4y s=true) (hr:b9u (d3p false) rest):LxOK (.w s) (bl s) rest:=by
 obtain ⟨⟨l⟩⟩:=s
 have hb:bl ⟨⟨l⟩⟩=l:=rfl
 unfold d4y at h
 rw [hb] at h⊢
 cases l with
 | nil=>cases h
 | cons c w=>
   simp only [Bool.and_eq_true,decide_eq_true_eq] at h
   exact LxOK.w (c:=c) (w:=w) h.1 (fun x hx=>List.all_eq_true.1 h.2.1 x hx) h.2.2 hr
def c8m (w:List UInt8) (day:Int):Bool:=match w with | c::r=>c==64&&(decide (r.length=10)&&(match a2f ⟨r.toArray⟩ with | some (x,b)=>b&&x==day | none=>false)) | []=>false
theorem LxOK.date {w rest:List UInt8} {day:Int} (h:c8m w day=true):LxOK (.d day) w rest:=by
 cases w with
 | nil=>cases h
 | cons c r=>
   unfold c8m at h
   simp only [Bool.and_eq_true,decide_eq_true_eq,beq_iff_eq] at h
   obtain ⟨rfl,h2,h3⟩:=h
   split at h3
   ·rename_i x b he
    simp at h3
    obtain ⟨rfl,rfl⟩:=h3
    exact LxOK.d h2 he
   ·cases h3
def f7d (s:ByteArray):Bool:=match bl s with
 | [c]=>e0v c
 | [c,c2]=>(c==60&&c2==61)||((c==62&&c2==61)||(c==60&&c2==62))
 | _=>false
def g2e (s:ByteArray):Bool:=match bl s with | [c]=>iv c != 60&&iv c != 62 | _=>false
def nx (p:UInt8 -> Bool) (sp:Bool) (ls:List Lx):Bool:=sp||(match ls with | m::_=>(match m.t with | .s s=>(match bl s with | c::_=> !p c | []=>false) | _=>false) | []=>false)
theorem f3h {p:UInt8 -> Bool} {sp:Bool} {ls:List Lx} {rest:List UInt8} (hp:p 32=false) (h:nx p sp ls=true) (hw: ∀m∈ls,∀s,m.t= .s s -> m.w=bl s):b9u p (blk sp++(a0a ls++rest)):=by
 intro c r he
 cases sp with
 | true=>
   have he:32::(a0a ls++rest)=c::r:=he
   injection he with h1 h2
   subst h1;exact hp
 | false=>
   have he:a0a ls++rest=c::r:=he
   cases ls with
   | nil=>cases h
   | cons m ls=>
     have h:(match m.t with | .s s=>(match bl s with | c::_=> !p c | []=>false) | _=>false)=true:=h
     have hm:=hw m (by simp)
     have he:m.w++(blk m.sp++a0a ls)++rest=c::r:=he
     cases ht:m.t with
     | s s=>
       rw [ht] at h
       have h:(match bl s with | c::_=> !p c | []=>false)=true:=h
       rw [hm s ht] at he
       cases hb:bl s with
       | nil=>rw [hb] at h;cases h
       | cons c2 r2=>
         rw [hb] at h he
         have:c2=c:=by injection he
         subst this
         simpa using h
     | w s=>rw [ht] at h;cases h
     | n v d=>rw [ht] at h;cases h
     | d day=>rw [ht] at h;cases h
def c24:List Lx -> Bool
 | []=>true
 | l::ls=>(match l.t with
    | .w s=>l.w==bl s&&(d4y s&&nx (d3p false) l.sp ls)
    | .s s=>l.w==bl s&&(f7d s&&(g2e s||nx (fun c=>iv c==61||iv c==62) l.sp ls))
    | .n _ _=>nx (d3p true) l.sp ls
    | .d day=>c8m l.w day)&&c24 ls
def d1n:List Lx -> Prop
 | []=>True
 | l::ls=>(match l.t with | .n v d=>NumX l.w v d | _=>True) /\ d1n ls
theorem c79: ∀(ls:List Lx),c24 ls=true -> ∀m∈ls,∀s,m.t= .s s -> m.w=bl s
 | [],_,m,hm,_,_=>by cases hm
 | l::ls,h,m,hm,s,hs=>by
   unfold c24 at h
   rw [Bool.and_eq_true] at h
   rcases List.mem_cons.1 hm with rfl | hm
   ·rw [hs] at h
    simp only [Bool.and_eq_true,beq_iff_eq] at h
    exact h.1.1
   ·exact c79 ls h.2 m hm s hs
theorem c20: ∀(ls:List Lx),c24 ls=true -> d1n ls -> ∀rest,okA ls rest
 | [],_,_,_=>trivial
 | l::ls,h,hn,rest=>by
   have hsg:=c79 ls (by unfold c24 at h;rw [Bool.and_eq_true] at h;exact h.2)
   obtain ⟨t,w,sp⟩:=l
   unfold c24 at h
   rw [Bool.and_eq_true] at h
   refine ⟨?_,c20 ls h.2 hn.2 rest⟩
   have h1:=h.1
   show LxOK t w (blk sp++(a0a ls++rest))
   cases t with
   | w s=>
     simp only [Bool.and_eq_true,beq_iff_eq] at h1
     obtain ⟨rfl,h2,h3⟩:=h1
     exact LxOK.word h2 (f3h rfl h3 hsg)
   | s s=>
     simp only [Bool.and_eq_true,beq_iff_eq] at h1
     obtain ⟨rfl,h2,h3⟩:=h1
     have h4:g2e s=true \/ b9u (fun c=>iv c==61||iv c==62) (blk sp++(a0a ls++rest)):=by
      rcases Bool.or_eq_true _ _ |>.mp h3 with h3 | h3
      ·exact .inl h3
      ·exact .inr (f3h (rest:=rest) (p:=fun c=>iv c==61||iv c==62) rfl h3 hsg)
     obtain ⟨⟨l⟩⟩:=s
     have hb:bl ⟨⟨l⟩⟩=l:=rfl
     unfold f7d at h2
     unfold g2e at h4
     rw [hb] at h2 h4⊢
     match l,h2,h4 with
     | [c],h2,h4=>
       refine LxOK.s1 h2 ?_
       rcases h4 with h4 | h4
       ·exact .inl (by simpa using h4)
       ·exact .inr h4
     | [c,c2],h2,_=>
       refine LxOK.s2 ?_
       simp only [Bool.or_eq_true,Bool.and_eq_true,beq_iff_eq] at h2
       rcases h2 with ⟨rfl,rfl⟩ | ⟨rfl,rfl⟩ | ⟨rfl,rfl⟩
       ·exact .inl rfl
       ·exact .inr (.inl rfl)
       ·exact .inr (.inr rfl)
   | n v d=>
     have hx:NumX w v d:=hn.1
     obtain ⟨c,r,rfl,hc1,hc2⟩:=hx.st
     obtain ⟨x,y,hp⟩:=hx.pt
     exact LxOK.n hc1 hc2 hx.rc (f3h rfl h1 hsg) hp hx.de
   | d day=>exact LxOK.date h1
end Go.PL
namespace Go.PL
open Go Go.SX
def W (s:ByteArray):Lx:=⟨.w s,bl s,true⟩
def Wn (s:ByteArray):Lx:=⟨.w s,bl s,false⟩
def Sg (s:ByteArray):Lx:=⟨.s s,bl s,true⟩
def Sh (s:ByteArray):Lx:=⟨.s s,bl s,false⟩
def N (w:List UInt8) (v:Fraction) (d:Int) (sp:Bool):Lx:=⟨.n v d,w,sp⟩
def num (n:Nat) (s:List UInt8) (d:Int) (sp:Bool):Lx:=N (a8a 20 n++s) ⟨(n:Int),1⟩ d sp
def a6h:ByteArray:=⟨#[115,112,101,110,116]⟩
def b07:ByteArray:=⟨#[112,97,114,116]⟩
def f9u:List UInt8:=[49,57,54,48]
def f7r:List UInt8:=[49,57,56,48]
def f8r:List UInt8:=[49,57,57,53]
def n1:List UInt8:=[49]
def n3:List UInt8:=[51]
def n12:List UInt8:=[49,50]
def n60:List UInt8:=[54,48]
def n30d:List UInt8:=[51,48,100]
def p50:List UInt8:=[48,46,53,48]
def p60:List UInt8:=[48,46,54,48]
def p70:List UInt8:=[48,46,55,48]
def p80:List UInt8:=[48,46,56,48]
theorem g22:NumX f9u ⟨1960,1⟩ 2:= .chk (by kernel_rfl)
theorem g34:NumX f7r ⟨1980,1⟩ 2:= .chk (by kernel_rfl)
theorem g41:NumX f8r ⟨1995,1⟩ 2:= .chk (by kernel_rfl)
theorem x1:NumX n1 ⟨1,1⟩ 2:= .chk (by kernel_rfl)
theorem x3:NumX n3 ⟨3,1⟩ 2:= .chk (by kernel_rfl)
theorem x12:NumX n12 ⟨12,1⟩ 2:= .chk (by kernel_rfl)
theorem x60:NumX n60 ⟨60,1⟩ 2:= .chk (by kernel_rfl)
theorem x30d:NumX n30d ⟨30,1⟩ 3:= .chk (by kernel_rfl)
theorem xp50:NumX p50 ⟨1,2⟩ 2:= .chk (by kernel_rfl)
theorem xp60:NumX p60 ⟨3,5⟩ 2:= .chk (by kernel_rfl)
theorem xp70:NumX p70 ⟨7,10⟩ 2:= .chk (by kernel_rfl)
theorem g2a:NumX p80 ⟨4,5⟩ 2:= .chk (by kernel_rfl)
def lC6:List Lx:=[W a2h,Wn a60,Sg a0j]
def lC7 (n:Nat):List Lx:=[W a2h,W a8h,W a8g,num n [] 2 false,Sg a0j]
def f4y (n:Nat):List Lx:=[W a2h,W b82,W a8g,num n [] 2 false,Sg a0j]
def lC5:List Lx:=[W a2h,Wn a9g,Sg a0j]
def lI0:List Lx:=[W a56,N f9u ⟨1960,1⟩ 2 true,N n1 ⟨1,1⟩ 2 false,Sg a0j]
def lI1 (w:List UInt8) (v:Fraction):List Lx:=[W a56,N f7r ⟨1980,1⟩ 2 true,N w v 2 false,Sg a0j]
def lI2 (w:List UInt8) (v:Fraction):List Lx:=[W a56,N f8r ⟨1995,1⟩ 2 true,N w v 2 false,Sg a0j]
def lL1 (n:Nat):List Lx:=[W b0r,W a6h,Sg b7c,W a4m,Sg b9f,num n [100] 3 false,Sg a0j]
def lL2 (w:List UInt8) (v:Fraction):List Lx:=[W b0r,W b07,Sg b7c,Wn b66,Sh a8v,W a6h,Sg a87,N w v 2 false,Sg c2l,N p80 ⟨4,5⟩ 2 false,Sh b0y,Sg a0j]
def lG1 (a i m:Nat):List Lx:=[W a3y,W b9t,W b0e,W b9x,Sg a5p,num a [] 2 true,W b88,W a4m,Sg a5p,num i [100] 3 true,W b22,Wn b51,Sh a8v,W a9r,Sg a87,Wn b07,Sg c2l,num m [109] 4 false,Sh b0y,Sg a0j]
def lG2 (i:Nat) (w:List UInt8) (v:Fraction):List Lx:=[W a3y,W a5a,W b0e,W a4m,Sg a5p,num i [100] 3 true,W b22,W a9r,Sg a87,N w v 2 false,Sg a0j]
def lG3:List Lx:=[W a3y,W b1h,W b0e,W b5g,Sg c9r,W b31,Sg a5p,N n30d ⟨30,1⟩ 3 true,W b22,W a9r,Sg a87,W b07,Sg a87,N p60 ⟨3,5⟩ 2 false,Sg a0j]
def lG4 (i m:Nat):List Lx:=[W a3y,W b5i,W b0e,W a4m,Sg a5p,num i [100] 3 true,W b22,num m [109] 4 true,Sg a87,Wn b1y,Sg a0j]
def lG5 (i:Nat):List Lx:=[W a3y,W b1g,W b0e,W a4m,Sg a5p,num i [100] 3 true,W b22,Wn b15,Sh a8v,N n3 ⟨3,1⟩ 2 false,Sg b0y,Sg b9f,N n12 ⟨12,1⟩ 2 true,Sg a87,N p70 ⟨7,10⟩ 2 false,Sg a0j]
def lR1 (w:List UInt8) (v:Fraction):List Lx:=[W a4h,W b9t,W c12,N w v 2 false,Sg a0j]
def lR2:List Lx:=[W a4h,W a5a,W c12,W b0e,W b9x,Sg c9p,N n60 ⟨60,1⟩ 2 true,W b8c,N p50 ⟨1,2⟩ 2 true,W b4f,N n1 ⟨1,1⟩ 2 false,Sg a0j]
def aL1 (n:Nat):AE:= .bin 10 (.nm a4m) (.lit ⟨(n:Int),1⟩ 3)
def aL2 (v:Fraction):AE:= .bin 19 (.bin 9 (.nm a6h) (.lit v 2)) (.lit ⟨4,5⟩ 2)
def f8a (a i:Nat):AE:= .bin 17 (.bin 16 (.nm b9x) (.lit ⟨(a:Int),1⟩ 2)) (.bin 16 (.nm a4m) (.lit ⟨(i:Int),1⟩ 3))
def f9f (m:Nat):AE:= .bin 20 (.bin 9 (.nm a9r) (.nm b07)) (.lit ⟨(m:Int),1⟩ 4)
def d9r (i:Nat):AE:= .bin 16 (.nm a4m) (.lit ⟨(i:Int),1⟩ 3)
def f8m (v:Fraction):AE:= .bin 9 (.nm a9r) (.lit v 2)
def f3l:AE:= .bin 16 (.bin 7 (.nm b5g) (.nm b31)) (.lit ⟨30,1⟩ 3)
def f3s:AE:= .bin 9 (.bin 9 (.nm a9r) (.nm b07)) (.lit ⟨3,5⟩ 2)
def f9z (m:Nat):AE:= .bin 9 (.lit ⟨(m:Int),1⟩ 4) (.nm b1y)
def f6v:AE:= .bin 9 (.bin 10 (.best 3) (.lit ⟨12,1⟩ 2)) (.lit ⟨7,10⟩ 2)
def aR1 (v:Fraction):AE:= .lit v 2
def aR2:AE:= .ite (.bin 11 (.nm b9x) (.lit ⟨60,1⟩ 2)) (.lit ⟨1,2⟩ 2) (.lit ⟨1,1⟩ 2)
def tk (l:List Lx) (ts:List Tk):List Tk:=l.map (·.t)++ts
theorem rC6 (ts:List Tk):ClR (tk lC6 ts) (.credit 6 0) ts:= .credit0 (x:=a60) (by kernel_rfl) (by decide)
theorem rC5 (ts:List Tk):ClR (tk lC5 ts) (.credit 5 0) ts:= .credit0 (x:=a9g) (by kernel_rfl) (by decide)
theorem rC7 {n:Nat} (h0:1 <= n) (h1:n <= 73049) (ts:List Tk):ClR (tk (lC7 n) ts) (.credit 7 n) ts:= .credit (x:=a8h) (by kernel_rfl) (by decide) (by omega) (by omega)
theorem rC10 {n:Nat} (h0:1 <= n) (h1:n <= 73049) (ts:List Tk):ClR (tk (f4y n) ts) (.credit 10 n) ts:= .credit (x:=b82) (by kernel_rfl) (by decide) (by omega) (by omega)
theorem rI0 (ts:List Tk):ClR (tk lI0 ts) (.index 1960 ⟨1,1⟩) ts:= .index (by decide) (by decide) (by decide) (by decide)
theorem rI1 {w:List UInt8} {v:Fraction} (h:0<v.Num) (hd:v.Den≠0) (ts:List Tk):ClR (tk (lI1 w v) ts) (.index 1980 v) ts:= .index (by decide) (by decide) h hd
theorem rI2 {w:List UInt8} {v:Fraction} (h:0<v.Num) (hd:v.Den≠0) (ts:List Tk):ClR (tk (lI2 w v) ts) (.index 1995 v) ts:= .index (by decide) (by decide) h hd
theorem rL1 (n:Nat) (ts:List Tk):ClR (tk (lL1 n) ts) (.lett a6h (aL1 n)) ts:= .lett (x:=a6h) (by kernel_rfl) (by kernel_rfl)
theorem rL2 (w:List UInt8) (v:Fraction) (ts:List Tk):ClR (tk (lL2 w v) ts) (.lett b07 (aL2 v)) ts:= .lett (x:=b07) (by kernel_rfl) (by kernel_rfl)
theorem rG1 (a i m:Nat) (ts:List Tk):ClR (tk (lG1 a i m) ts) (.grant 1 (f8a a i) (f9f m)) ts:= .grant (x:=b9t) (vs:=([Wn b51,Sh a8v,W a9r,Sg a87,Wn b07,Sg c2l,num m [109] 4 false,Sh b0y,Sg a0j]:List Lx).map (·.t)++ts) (by kernel_rfl) (by decide) (by kernel_rfl) (by kernel_rfl)
theorem rG2 (i:Nat) (w:List UInt8) (v:Fraction) (ts:List Tk):ClR (tk (lG2 i w v) ts) (.grant 2 (d9r i) (f8m v)) ts:= .grant (x:=a5a) (vs:=([W a9r,Sg a87,N w v 2 false,Sg a0j]:List Lx).map (·.t)++ts) (by kernel_rfl) (by decide) (by kernel_rfl) (by kernel_rfl)
theorem rG3 (ts:List Tk):ClR (tk lG3 ts) (.grant 3 f3l f3s) ts:= .grant (x:=b1h) (vs:=([W a9r,Sg a87,W b07,Sg a87,N p60 ⟨3,5⟩ 2 false,Sg a0j]:List Lx).map (·.t)++ts) (by kernel_rfl) (by decide) (by kernel_rfl) (by kernel_rfl)
theorem rG4 (i m:Nat) (ts:List Tk):ClR (tk (lG4 i m) ts) (.grant 4 (d9r i) (f9z m)) ts:= .grant (x:=b5i) (vs:=([num m [109] 4 true,Sg a87,Wn b1y,Sg a0j]:List Lx).map (·.t)++ts) (by kernel_rfl) (by decide) (by kernel_rfl) (by kernel_rfl)
theorem rG5 (i:Nat) (ts:List Tk):ClR (tk (lG5 i) ts) (.grant 5 (d9r i) f6v) ts:= .grant (x:=b1g) (vs:=([Wn b15,Sh a8v,N n3 ⟨3,1⟩ 2 false,Sg b0y,Sg b9f,N n12 ⟨12,1⟩ 2 true,Sg a87,N p70 ⟨7,10⟩ 2 false,Sg a0j]:List Lx).map (·.t)++ts) (by kernel_rfl) (by decide) (by kernel_rfl) (by kernel_rfl)
theorem rR1 (w:List UInt8) (v:Fraction) (ts:List Tk):ClR (tk (lR1 w v) ts) (.reduce 1 (aR1 v)) ts:= .reduce (x:=b9t) (by kernel_rfl) (by decide) (by kernel_rfl)
theorem rR2 (ts:List Tk):ClR (tk lR2 ts) (.reduce 2 aR2) ts:= .reduce (x:=a5a) (by kernel_rfl) (by decide) (by kernel_rfl)
theorem kC6:c24 lC6=true:=by kernel_rfl
theorem kC5:c24 lC5=true:=by kernel_rfl
theorem kC7 (n:Nat):c24 (lC7 n)=true:=by kernel_rfl
theorem kC10 (n:Nat):c24 (f4y n)=true:=by kernel_rfl
theorem kI0:c24 lI0=true:=by kernel_rfl
theorem kI1 (w:List UInt8) (v:Fraction):c24 (lI1 w v)=true:=by kernel_rfl
theorem kI2 (w:List UInt8) (v:Fraction):c24 (lI2 w v)=true:=by kernel_rfl
theorem kL1 (n:Nat):c24 (lL1 n)=true:=by kernel_rfl
theorem kL2 (w:List UInt8) (v:Fraction):c24 (lL2 w v)=true:=by kernel_rfl
theorem kG1 (a i m:Nat):c24 (lG1 a i m)=true:=by kernel_rfl
theorem kG2 (i:Nat) (w:List UInt8) (v:Fraction):c24 (lG2 i w v)=true:=by kernel_rfl
theorem kG3:c24 lG3=true:=by kernel_rfl
theorem kG4 (i m:Nat):c24 (lG4 i m)=true:=by kernel_rfl
theorem kG5 (i:Nat):c24 (lG5 i)=true:=by kernel_rfl
theorem kR1 (w:List UInt8) (v:Fraction):c24 (lR1 w v)=true:=by kernel_rfl
theorem kR2:c24 lR2=true:=by kernel_rfl
end Go.PL
namespace Go.PL
open Go Go.SX
def c6v (n:Nat):List UInt8:=a8a 20 (n/100)++(46::(a8a 20 (n/10%10)++a8a 20 (n%10)))
def b58 (n:Nat):Fraction:=⟨((n/Nat.gcd n 100:Nat):Int),((100/Nat.gcd n 100:Nat):Int)⟩
def c3g (a k:Nat):Bool:=(List.range k).all fun i=>f3m (c6v (a+i)) (b58 (a+i)) 2
theorem pc0:c3g 0 100=true:=by kernel_rfl
theorem pc1:c3g 100 100=true:=by kernel_rfl
theorem pc2:c3g 200 100=true:=by kernel_rfl
theorem pc3:c3g 300 100=true:=by kernel_rfl
theorem pc4:c3g 400 100=true:=by kernel_rfl
theorem pc5:c3g 500 100=true:=by kernel_rfl
theorem pc6:c3g 600 100=true:=by kernel_rfl
theorem c4u {a k n:Nat} (h:c3g a k=true) (h0:a <= n) (h1:n<a+k):NumX (c6v n) (b58 n) 2:=by
 have:=List.all_eq_true.1 h (n-a) (by simp;omega)
 rw [show a+(n-a)=n by omega] at this
 exact .chk this
theorem c2i {n:Nat} (h:n<700):NumX (c6v n) (b58 n) 2:=by
 rcases Nat.lt_or_ge n 100 with h0 | h0
 ·exact c4u pc0 (by omega) (by omega)
 rcases Nat.lt_or_ge n 200 with h1 | h1
 ·exact c4u pc1 h0 (by omega)
 rcases Nat.lt_or_ge n 300 with h2 | h2
 ·exact c4u pc2 h1 (by omega)
 rcases Nat.lt_or_ge n 400 with h3 | h3
 ·exact c4u pc3 h2 (by omega)
 rcases Nat.lt_or_ge n 500 with h4 | h4
 ·exact c4u pc4 h3 (by omega)
 rcases Nat.lt_or_ge n 600 with h5 | h5
 ·exact c4u pc5 h4 (by omega)
 ·exact c4u pc6 h5 (by omega)
theorem c84 (n:Nat):0<Nat.gcd n 100:=Nat.gcd_pos_of_pos_right _ (by decide)
theorem c41 {n:Nat} (h:0<n):0<(b58 n).Num:=by
 have h1:Nat.gcd n 100 ∣ n:=Nat.gcd_dvd_left _ _
 have h2:=Nat.div_pos (Nat.le_of_dvd h h1) (c84 n)
 show (0:Int)<((n/Nat.gcd n 100:Nat):Int)
 omega
theorem d7h (n:Nat):(b58 n).Den≠0:=by
 have h1:Nat.gcd n 100 ∣ 100:=Nat.gcd_dvd_right _ _
 have h2:=Nat.div_pos (Nat.le_of_dvd (by decide) h1) (c84 n)
 show ((100/Nat.gcd n 100:Nat):Int)≠0
 omega
theorem d3i {n:Nat} (h:n<1000):u9 (n:Int)=some ⟨(c6v n).toArray⟩:=by
 unfold u9
 have q1:b7a (n:Int) 100=some ((n/100:Nat):Int):=by unfold b7a;rw [if_neg (by decide),Int.tdiv_eq_ediv_of_nonneg (by omega),j8 (by omega) (by omega)];congr 1
 have q2:b7a (n:Int) 10=some ((n/10:Nat):Int):=by unfold b7a;rw [if_neg (by decide),Int.tdiv_eq_ediv_of_nonneg (by omega),j8 (by omega) (by omega)];congr 1
 have r1:b46 ((n/10:Nat):Int) 10=some ((n/10%10:Nat):Int):=by unfold b46;rw [if_neg (by decide),Int.tmod_eq_emod_of_nonneg (by omega)];congr 1
 have r2:b46 (n:Int) 10=some ((n%10:Nat):Int):=by unfold b46;rw [if_neg (by decide),Int.tmod_eq_emod_of_nonneg (by omega)];congr 1
 have l0: ∀m,m<10 -> (a8a 20 m).length <= 1:=fun m hm=>c15 20 m 0 (by omega)
 have a0:=l0 (n/100) (by omega)
 have a1:=l0 (n/10%10) (by omega)
 have a2:=l0 (n%10) (by omega)
 have c1:a4l ⟨(a8a 20 (n/100)).toArray⟩ a9m=some ⟨(a8a 20 (n/100)++[46]).toArray⟩:=d0w (b:=[46]) (by simp;omega)
 have c2:a4l ⟨(a8a 20 (n/100)++[46]).toArray⟩ ⟨(a8a 20 (n/10%10)).toArray⟩=some ⟨(a8a 20 (n/100)++[46]++a8a 20 (n/10%10)).toArray⟩:=d0w (by simp;omega)
 have c3:a4l ⟨(a8a 20 (n/100)++[46]++a8a 20 (n/10%10)).toArray⟩ ⟨(a8a 20 (n%10)).toArray⟩=some ⟨(a8a 20 (n/100)++[46]++a8a 20 (n/10%10)++a8a 20 (n%10)).toArray⟩:=d0w (by simp;omega)
 simp only [q1,q2,r1,r2,Option.bind_some,b6d (show n/100<1000000 by omega),b6d (show n/10%10<1000000 by omega),b6d (show n%10<1000000 by omega),c1,c2,c3]
 unfold c6v
 simp
end Go.PL
namespace Go.PL
open Go Go.SX
structure Ps where
 day:Int
 date:List UInt8
 m:Int
 mx:ByteArray
 u:Nat
 l7:Nat
 l10:Nat
 c1:Bool
 c2:Bool
 c3:Bool
 c4:Bool
 c5:Bool
 na:Nat
 nb:Nat
 np:Nat
 yr:Nat
 g1a:Nat
 g1i:Nat
 g1m:Nat
 g2i:Nat
 nd:Nat
 g4i:Nat
 g4m:Nat
 g5i:Nat
 nr:Nat
structure PsOK (P:Ps):Prop where
 dt:c8m (64::P.date) P.day=true
 d0:0 <= P.day
 d1:P.day <= 73048
 mw:d4y P.mx=true
 mo:ofW P.mx 3=some P.m
 m0:1 <= P.m
 m1:P.m <= 4
 mS:nz (a1l d6e P.m)=true
 u0:1 <= P.u
 u1:P.u <= 100000
 l70:1 <= P.l7
 l71:P.l7 <= 73049
 l100:1 <= P.l10
 l101:P.l10 <= 73049
 na0:1 <= P.na
 na1:P.na<700
 nb0:1 <= P.nb
 nb1:P.nb<700
 np1:P.np<700
 nd1:P.nd<700
 nr1:P.nr<700
 yr1:P.yr <= 100000
 a1:P.g1a <= 100000
 a2:P.g1i <= 100000
 a3:P.g1m <= 100000
 a4:P.g2i <= 100000
 a5:P.g4i <= 100000
 a6:P.g4m <= 100000
 a7:P.g5i <= 100000
def Ps.prs (P:Ps):List (List Lx×Cl):=
 [(lC6,.credit 6 0),(lC7 P.l7,.credit 7 P.l7)]++((if P.c1 then [(f4y P.l10,.credit 10 P.l10)] else [])++((if P.c2 then [(lC5,.credit 5 0)] else [])++
 ([(lI0,.index 1960 ⟨1,1⟩),(lI1 (c6v P.na) (b58 P.na),.index 1980 (b58 P.na)),(lI2 (c6v P.nb) (b58 P.nb),.index 1995 (b58 P.nb)),(lL1 P.yr,.lett a6h (aL1 P.yr)),(lL2 (c6v P.np) (b58 P.np),.lett b07 (aL2 (b58 P.np))),
   (lG1 P.g1a P.g1i P.g1m,.grant 1 (f8a P.g1a P.g1i) (f9f P.g1m)),(lG2 P.g2i (c6v P.nd) (b58 P.nd),.grant 2 (d9r P.g2i) (f8m (b58 P.nd)))]++
 ((if P.c3 then [(lG3,.grant 3 f3l f3s)] else [])++([(lG4 P.g4i P.g4m,.grant 4 (d9r P.g4i) (f9z P.g4m)),(lG5 P.g5i,.grant 5 (d9r P.g5i) f6v)]++
 ((if P.c4 then [(lR1 (c6v P.nr) (b58 P.nr),.reduce 1 (aR1 (b58 P.nr)))] else [])++(if P.c5 then [(lR2,.reduce 2 aR2)] else [])))))))
def d8q (P:Ps):List Lx:=[W b3z,⟨.d P.day,64::P.date,true⟩,Sg b3b,W b1l,W P.mx,num P.u [] 2 false,Sg a0j]
def Ps.cls (P:Ps):List Cl:=P.prs.map (·.2)
def fl (l:List (List Lx×Cl)):List Lx:=l.flatMap (·.1)
def lxV (P:Ps):List Lx:=d8q P++(fl P.prs++[Sg a34])
structure PrOK (p:List Lx×Cl):Prop where
 k:c24 p.1=true
 n:d1n p.1
 r: ∀ts,ClR (tk p.1 ts) p.2 ts
theorem b8z {α:Type} {b:Bool} {x:α} {l:List α} (h:x∈(if b=true then l else [])):x∈l:=by cases b with | false=>cases h | true=>exact h
theorem f07 {P:Ps} (h:PsOK P): ∀p∈P.prs,PrOK p:=by
 have w2: ∀{n:Nat},n <= 100000 -> NumX (a8a 20 n++[]) ⟨(n:Int),1⟩ 2:=fun hn=> .whole hn (.inl ⟨rfl,rfl⟩)
 have w3: ∀{n:Nat},n <= 100000 -> NumX (a8a 20 n++[100]) ⟨(n:Int),1⟩ 3:=fun hn=> .whole hn (.inr (.inl ⟨rfl,rfl⟩))
 have w4: ∀{n:Nat},n <= 100000 -> NumX (a8a 20 n++[109]) ⟨(n:Int),1⟩ 4:=fun hn=> .whole hn (.inr (.inr ⟨rfl,rfl⟩))
 have h1:=h.l71
 have h2:=h.l101
 have t:=trivial
 intro p hp
 unfold Ps.prs at hp
 rcases List.mem_append.1 hp with hp | hp
 ·simp only [List.mem_cons,List.not_mem_nil,or_false] at hp
  rcases hp with rfl | rfl
  ·exact ⟨kC6,⟨t,t,t,t⟩,rC6⟩
  ·exact ⟨kC7 _,⟨t,t,t,w2 (by omega),t,t⟩,rC7 h.l70 h.l71⟩
 rcases List.mem_append.1 hp with hp | hp
 ·have hp:=b8z hp
  rw [List.mem_singleton] at hp;subst hp
  exact ⟨kC10 _,⟨t,t,t,w2 (by omega),t,t⟩,rC10 h.l100 h.l101⟩
 rcases List.mem_append.1 hp with hp | hp
 ·have hp:=b8z hp
  rw [List.mem_singleton] at hp;subst hp
  exact ⟨kC5,⟨t,t,t,t⟩,rC5⟩
 rcases List.mem_append.1 hp with hp | hp
 ·simp only [List.mem_cons,List.not_mem_nil,or_false] at hp
  rcases hp with rfl | rfl | rfl | rfl | rfl | rfl | rfl
  ·exact ⟨kI0,⟨t,g22,x1,t,t⟩,rI0⟩
  ·exact ⟨kI1 _ _,⟨t,g34,c2i h.na1,t,t⟩,rI1 (c41 h.na0) (d7h _)⟩
  ·exact ⟨kI2 _ _,⟨t,g41,c2i h.nb1,t,t⟩,rI2 (c41 h.nb0) (d7h _)⟩
  ·exact ⟨kL1 _,⟨t,t,t,t,t,w3 h.yr1,t,t⟩,rL1 _⟩
  ·exact ⟨kL2 _ _,⟨t,t,t,t,t,t,t,c2i h.np1,t,g2a,t,t,t⟩,rL2 _ _⟩
  ·exact ⟨kG1 _ _ _,⟨t,t,t,t,t,w2 h.a1,t,t,t,w3 h.a2,t,t,t,t,t,t,t,w4 h.a3,t,t,t⟩,rG1 _ _ _⟩
  ·exact ⟨kG2 _ _ _,⟨t,t,t,t,t,w3 h.a4,t,t,t,c2i h.nd1,t,t⟩,rG2 _ _ _⟩
 rcases List.mem_append.1 hp with hp | hp
 ·have hp:=b8z hp
  rw [List.mem_singleton] at hp;subst hp
  exact ⟨kG3,⟨t,t,t,t,t,t,t,x30d,t,t,t,t,t,xp60,t,t⟩,rG3⟩
 rcases List.mem_append.1 hp with hp | hp
 ·simp only [List.mem_cons,List.not_mem_nil,or_false] at hp
  rcases hp with rfl | rfl
  ·exact ⟨kG4 _ _,⟨t,t,t,t,t,w3 h.a5,t,w4 h.a6,t,t,t,t⟩,rG4 _ _⟩
  ·exact ⟨kG5 _,⟨t,t,t,t,t,w3 h.a7,t,t,t,x3,t,t,x12,t,xp70,t,t⟩,rG5 _⟩
 rcases List.mem_append.1 hp with hp | hp
 ·have hp:=b8z hp
  rw [List.mem_singleton] at hp;subst hp
  exact ⟨kR1 _ _,⟨t,t,t,c2i h.nr1,t,t⟩,rR1 _ _⟩
 ·have hp:=b8z hp
  rw [List.mem_singleton] at hp;subst hp
  exact ⟨kR2,⟨t,t,t,t,t,t,x60,t,xp50,t,x1,t,t⟩,rR2⟩
theorem e9v: ∀(l:List (List Lx×Cl)),(∀p∈l,PrOK p) -> ∀rest,okA (fl l) rest
 | [],_,_=>trivial
 | p::l,h,rest=>a95 p.1 (fl l) rest (c20 p.1 (h p (by simp)).k (h p (by simp)).n _) (e9v l (fun q hq=>h q (by simp [hq])) rest)
theorem f0d: ∀(l:List (List Lx×Cl)),(∀p∈l,PrOK p) -> ∀ts,ClsR (tk (fl l++[Sg a34]) ts) (l.map (·.2)) ts
 | [],_,ts=>ClsR.nil
 | p::l,h,ts=>by
   have h1:=(h p (by simp)).r (tk (fl l++[Sg a34]) ts)
   have h2:=f0d l (fun q hq=>h q (by simp [hq])) ts
   have e:tk (fl (p::l)++[Sg a34]) ts=tk p.1 (tk (fl l++[Sg a34]) ts):=by
    unfold tk fl
    simp
   rw [e]
   exact ClsR.cons h1 h2
theorem f3p (P:Ps):P.cls.length <= 900:=by
 unfold Ps.cls Ps.prs
 simp only [List.length_map,List.length_append,List.length_cons,List.length_nil]
 have e: ∀(b:Bool) (x:List Lx×Cl),(if b=true then [x] else []).length <= 1:=fun b x=>by cases b<;>simp
 have e1:=e P.c1 (f4y P.l10,.credit 10 P.l10)
 have e2:=e P.c2 (lC5,.credit 5 0)
 have e3:=e P.c3 (lG3,.grant 3 f3l f3s)
 have e4:=e P.c4 (lR1 (c6v P.nr) (b58 P.nr),.reduce 1 (aR1 (b58 P.nr)))
 have e5:=e P.c5 (lR2,.reduce 2 aR2)
 omega
def Ps.ver (P:Ps):Version:=f9j P.day P.m P.u P.cls
theorem g08 {P:Ps} (h:PsOK P) (ts:List Tk):VerR (tk (lxV P) ts) P.ver ts:=by
 refine ⟨⟨P.day,P.m,P.u,P.mx,P.cls,tk (fl P.prs++[Sg a34]) ts,?_,h.mo,by have:=h.m0;omega,by have:=h.u0;omega,by have:=h.u1;omega,f0d P.prs (f07 h) ts,f3p P,rfl⟩⟩
 unfold lxV tk
 rw [List.map_append,List.append_assoc]
 rfl
theorem e0h {P:Ps} (h:PsOK P) (rest:List UInt8):okA (lxV P) rest:=by
 have k0:c24 (d8q P)=true:=by
  unfold d8q
  simp only [c24,W,Sg,num,N,BEq.rfl,nx,h.dt,h.mw,Bool.true_and,Bool.and_true,Bool.true_or]
  kernel_rfl
 have n0:d1n (d8q P):=⟨trivial,trivial,trivial,trivial,trivial,.whole h.u1 (.inl ⟨rfl,rfl⟩),trivial,trivial⟩
 refine a95 _ _ _ (c20 _ k0 n0 _) (a95 _ _ _ (e9v _ (f07 h) _) (c20 [Sg a34] (by kernel_rfl) ⟨trivial,trivial⟩ _))
end Go.PL
namespace Go.PL
open Go Go.SX
def d28:List Binding:=[⟨a6h,2⟩,⟨b07,2⟩]
def Ps.crs (P:Ps):List Credit:=[⟨6,0⟩,⟨7,P.l7⟩]++((if P.c1 then [⟨10,P.l10⟩] else [])++(if P.c2 then [⟨5,0⟩] else []))
def Ps.ixs (P:Ps):List Index:=[⟨1960,⟨1,1⟩⟩,⟨1980,b58 P.na⟩,⟨1995,b58 P.nb⟩]
def Ps.lts (P:Ps):List Let:=[⟨a6h,(aL1 P.yr).e⟩,⟨b07,(aL2 (b58 P.np)).e⟩]
def Ps.grs (P:Ps):List Grant:=[⟨1,(f8a P.g1a P.g1i).e,(f9f P.g1m).e⟩,⟨2,(d9r P.g2i).e,(f8m (b58 P.nd)).e⟩]++((if P.c3 then [⟨3,f3l.e,f3s.e⟩] else [])++[⟨4,(d9r P.g4i).e,(f9z P.g4m).e⟩,⟨5,(d9r P.g5i).e,f6v.e⟩])
def Ps.rds (P:Ps):List Reduce:=(if P.c4 then [⟨1,(aR1 (b58 P.nr)).e⟩] else [])++(if P.c5 then [⟨2,aR2.e⟩] else [])
theorem f1y (P:Ps):P.ver=⟨P.day,⟨P.m,P.u⟩,P.crs,P.ixs,P.lts,P.grs,P.rds⟩:=by
 obtain ⟨day,date,m,mx,u,l7,l10,c1,c2,c3,c4,c5,na,nb,np,yr,g1a,g1i,g1m,g2i,nd,g4i,g4m,g5i,nr⟩:=P
 cases c1<;>cases c2<;>cases c3<;>cases c4<;>cases c5<;>rfl
theorem b1q {w:List UInt8} {v:Fraction} {d:Int} (h:NumX w v d):(AE.lit v d).ok:= .mk ⟨h.f5,h.fS⟩ fun b hb=>by cases hb
theorem c6d {s:ByteArray} (h:(match w9 s,a50 s with | some true,some true=>true | _,_=>false)=true):(AE.nm s).ok:=by
 refine .mk ?_ fun b hb=>by cases hb
 split at h
 ·rename_i h1 h2;exact ⟨h1,h2⟩
 ·cases h
theorem f3d {k:Int} (h0:1 <= k) (h1:k <= 45):(AE.best k).ok:= .mk ⟨h0,h1⟩ fun b hb=>by cases hb
theorem a8e {op:Int} {a b:AE} (h0:7 <= op) (h1:op <= 20) (ha:a.ok) (hb:b.ok):(AE.bin op a b).ok:= .mk ⟨h0,h1⟩ fun x hx=>by simp [AE.args] at hx;rcases hx with rfl | rfl<;>assumption
theorem f6x {a b c:AE} (ha:a.ok) (hb:b.ok) (hc:c.ok):(AE.ite a b c).ok:= .mk trivial fun x hx=>by simp [AE.args] at hx;rcases hx with rfl | rfl | rfl<;>assumption
theorem g01:(AE.nm b9x).ok:=c6d (by kernel_rfl)
theorem e8y:(AE.nm a4m).ok:=c6d (by kernel_rfl)
theorem e1n:(AE.nm a9r).ok:=c6d (by kernel_rfl)
theorem d2z:(AE.nm b07).ok:=c6d (by kernel_rfl)
theorem c4l:(AE.nm a6h).ok:=c6d (by kernel_rfl)
theorem e70:(AE.nm b5g).ok:=c6d (by kernel_rfl)
theorem g44:(AE.nm b31).ok:=c6d (by kernel_rfl)
theorem g36:(AE.nm b1y).ok:=c6d (by kernel_rfl)
theorem env0:d2c []:=⟨by simp,fun b hb=>by cases hb⟩
theorem env1:d2c [⟨a6h,2⟩]:=⟨by simp,fun b hb=>by rw [List.mem_singleton] at hb;subst hb;exact ⟨by show (1:Int) <= 2;decide,by show (2:Int) <= 4;decide⟩⟩
theorem env2:d2c d28:=⟨by simp [d28],fun b hb=>by
 simp only [d28,List.mem_cons,List.not_mem_nil,or_false] at hb
 rcases hb with rfl | rfl<;>exact ⟨by show (1:Int) <= 2;decide,by show (2:Int) <= 4;decide⟩⟩
theorem e5l {env:List Binding} {a:AE} {d:Int} (h:a.ok) (hd:Nat.ble a.dep 10=true) (hs:Nat.ble a.sz 60=true) (hi:a.inf env=some d):ExOK env a.e d:=⟨a,rfl,h,Nat.le_of_ble_eq_true hd,Nat.le_of_ble_eq_true hs,hi⟩
theorem f02 {s:ByteArray} (h:(AE.nm s).ok):b2s s=some true:=by
 unfold b2s
 rw [show (⟨2,⟨0,0⟩,0,s,[]⟩:Expr)=(AE.nm s).e from rfl,b7d h (show 1 <= 10 by decide) (show 1 <= 60 by decide)]
 rfl
theorem g0z {P:Ps} (h:PsOK P):b3a P.lts=some (d28,0):=by
 have k1:(aL1 P.yr).ok:=a8e (by decide) (by decide) e8y (b1q (.whole h.yr1 (.inr (.inl ⟨rfl,rfl⟩))))
 have k2:(aL2 (b58 P.np)).ok:=a8e (by decide) (by decide) (a8e (by decide) (by decide) c4l (b1q (c2i h.np1))) (b1q g2a)
 have i1:=d05 env0 k1 (Nat.le_of_ble_eq_true (by kernel_rfl)) (Nat.le_of_ble_eq_true (by kernel_rfl)) (d:=2) (by kernel_rfl)
 have i2:=d05 env1 k2 (Nat.le_of_ble_eq_true (by kernel_rfl)) (Nat.le_of_ble_eq_true (by kernel_rfl)) (d:=2) (by kernel_rfl)
 unfold b3a
 have hlen:P.lts.length=2:=rfl
 rw [if_neg (by rw [hlen];decide)]
 obtain ⟨m,hm⟩:=d5x
 rw [hm,i8]
 generalize hA:d8 (m+1+1) (a6f P.lts)=A
 unfold a6f
 have g0:i7 P.lts 0=some ⟨a6h,(aL1 P.yr).e⟩:=rfl
 have g1:i7 P.lts 1=some ⟨b07,(aL2 (b58 P.np)).e⟩:=rfl
 have c0:p9 [] ⟨a6h,(aL1 P.yr).e⟩=some false:=by kernel_rfl
 have c1:p9 [⟨a6h,2⟩] ⟨b07,(aL2 (b58 P.np)).e⟩=some false:=by kernel_rfl
 have n0:a76 a6h=some (0,false):=by kernel_rfl
 have n1:a76 b07=some (0,false):=by kernel_rfl
 have a0:a8q 24 ([]:List Binding) [⟨a6h,2⟩]=some [⟨a6h,2⟩]:=b2d (by simp) (by decide)
 have a1:a8q 24 ([⟨a6h,2⟩]:List Binding) [⟨b07,2⟩]=some d28:=b2d (by simp) (by decide)
 simp only [hlen,show decide ((0:Int)<((2:Nat):Int))=true from rfl,if_true,g0,Option.bind_some,n0,Bool.false_eq_true,if_false,f02 c4l,Bool.not_true,c0,i1,show ((0:Int) != 0)=false from rfl,a0]
 rw [<- hA,i8]
 generalize hB:d8 (m+1) (a6f P.lts)=B
 unfold a6f
 simp only [hlen,show i64 (0+1)=1 from rfl,show decide ((1:Int)<((2:Nat):Int))=true from rfl,if_true,g1,Option.bind_some,n1,Bool.false_eq_true,if_false,f02 d2z,Bool.not_true,c1,i2,show ((0:Int) != 0)=false from rfl,a1]
 rw [<- hB,i8]
 unfold a6f
 simp only [hlen,show i64 (1+1)=2 from rfl,show decide ((2:Int)<((2:Nat):Int))=false from rfl,Bool.false_eq_true,if_false]
theorem e0b {P:Ps} (h:PsOK P):VOK d28 P.ver:=by
 have hl7:=h.l71
 have w2: ∀{n:Nat},n <= 100000 -> (AE.lit ⟨(n:Int),1⟩ 2).ok:=fun hn=>b1q (.whole hn (.inl ⟨rfl,rfl⟩))
 have w3: ∀{n:Nat},n <= 100000 -> (AE.lit ⟨(n:Int),1⟩ 3).ok:=fun hn=>b1q (.whole hn (.inr (.inl ⟨rfl,rfl⟩)))
 have w4: ∀{n:Nat},n <= 100000 -> (AE.lit ⟨(n:Int),1⟩ 4).ok:=fun hn=>b1q (.whole hn (.inr (.inr ⟨rfl,rfl⟩)))
 have kIns: ∀{i:Nat},i <= 100000 -> ExOK d28 (d9r i).e 1:=fun hi=>e5l (a8e (by decide) (by decide) e8y (w3 hi)) (by kernel_rfl) (by kernel_rfl) (by kernel_rfl)
 have k1i:ExOK d28 (f8a P.g1a P.g1i).e 1:=e5l (a8e (by decide) (by decide) (a8e (by decide) (by decide) g01 (w2 h.a1)) (a8e (by decide) (by decide) e8y (w3 h.a2))) (by kernel_rfl) (by kernel_rfl) (by kernel_rfl)
 have k1p:ExOK d28 (f9f P.g1m).e 4:=e5l (a8e (by decide) (by decide) (a8e (by decide) (by decide) e1n d2z) (w4 h.a3)) (by kernel_rfl) (by kernel_rfl) (by kernel_rfl)
 have k2p:ExOK d28 (f8m (b58 P.nd)).e 4:=e5l (a8e (by decide) (by decide) e1n (b1q (c2i h.nd1))) (by kernel_rfl) (by kernel_rfl) (by kernel_rfl)
 have k3i:ExOK d28 f3l.e 1:=e5l (a8e (by decide) (by decide) (a8e (by decide) (by decide) e70 g44) (b1q x30d)) (by kernel_rfl) (by kernel_rfl) (by kernel_rfl)
 have k3p:ExOK d28 f3s.e 4:=e5l (a8e (by decide) (by decide) (a8e (by decide) (by decide) e1n d2z) (b1q xp60)) (by kernel_rfl) (by kernel_rfl) (by kernel_rfl)
 have k4p:ExOK d28 (f9z P.g4m).e 4:=e5l (a8e (by decide) (by decide) (w4 h.a6) g36) (by kernel_rfl) (by kernel_rfl) (by kernel_rfl)
 have k5p:ExOK d28 f6v.e 4:=e5l (a8e (by decide) (by decide) (a8e (by decide) (by decide) (f3d (by decide) (by decide)) (b1q x12)) (b1q xp70)) (by kernel_rfl) (by kernel_rfl) (by kernel_rfl)
 have kr1:ExOK d28 (aR1 (b58 P.nr)).e 2:=e5l (b1q (c2i h.nr1)) (by kernel_rfl) (by kernel_rfl) (by kernel_rfl)
 have kr2:ExOK d28 aR2.e 2:=e5l (f6x (a8e (by decide) (by decide) g01 (b1q x60)) (b1q xp50) (b1q x1)) (by kernel_rfl) (by kernel_rfl) (by kernel_rfl)
 have b1:BnOK 1:=⟨by kernel_rfl,by kernel_rfl⟩
 have b2:BnOK 2:=⟨by kernel_rfl,by kernel_rfl⟩
 have b3:BnOK 3:=⟨by kernel_rfl,by kernel_rfl⟩
 have b4:BnOK 4:=⟨by kernel_rfl,by kernel_rfl⟩
 have b5:BnOK 5:=⟨by kernel_rfl,by kernel_rfl⟩
 have e1: ∀{α:Type} (b:Bool) (x:α),(if b=true then [x] else []).length <= 1:=fun b x=>by cases b<;>simp
 have ls:=g0z h
 have hu:=h.u0
 have hu1:=h.u1
 have hl10:=h.l101
 rw [f1y]
 refine ⟨h.d0,h.d1,h.m0,h.m1,h.mS,by show (1:Int) <= (P.u:Int);omega,by show (P.u:Int) <= 100000;omega,?_,by show (3:Nat) <= 20;decide,by show (2:Nat) <= 10;decide,?_,?_,?_,?_,?_,?_,?_,ls,env2,?_,?_,?_,?_⟩
 ·show P.crs.length <= 6
  unfold Ps.crs
  have:=e1 P.c1 (⟨10,P.l10⟩:Credit);have:=e1 P.c2 (⟨5,0⟩:Credit)
  simp only [List.length_append,List.length_cons,List.length_nil];omega
 ·show P.grs.length <= 5
  unfold Ps.grs
  have:=e1 P.c3 (⟨3,f3l.e,f3s.e⟩:Grant)
  simp only [List.length_append,List.length_cons,List.length_nil];omega
 ·show P.rds.length <= 5
  unfold Ps.rds
  have:=e1 P.c4 (⟨1,(aR1 (b58 P.nr)).e⟩:Reduce);have:=e1 P.c5 (⟨2,aR2.e⟩:Reduce)
  simp only [List.length_append];omega
 ·intro c hc
  have hc:c∈P.crs:=hc
  unfold Ps.crs at hc
  rcases List.mem_append.1 hc with hc | hc
  ·simp only [List.mem_cons,List.not_mem_nil,or_false] at hc
   rcases hc with rfl | rfl
   ·exact ⟨by kernel_rfl,by kernel_rfl,by show (0:Int) <= 0;decide,by show (0:Int) <= 73049;decide⟩
   ·exact ⟨by kernel_rfl,by kernel_rfl,by show (0:Int) <= (P.l7:Int);omega,by show (P.l7:Int) <= 73049;omega⟩
  rcases List.mem_append.1 hc with hc | hc
  ·have hc:=b8z hc
   rw [List.mem_singleton] at hc;subst hc
   exact ⟨by kernel_rfl,by kernel_rfl,by show (0:Int) <= (P.l10:Int);omega,by show (P.l10:Int) <= 73049;omega⟩
  ·have hc:=b8z hc
   rw [List.mem_singleton] at hc;subst hc
   exact ⟨by kernel_rfl,by kernel_rfl,by show (0:Int) <= 0;decide,by show (0:Int) <= 73049;decide⟩
 ·show P.crs.Pairwise _
  unfold Ps.crs
  cases P.c1<;>cases P.c2<;>simp
 ·intro x hx
  have hx:x∈P.ixs:=hx
  unfold Ps.ixs at hx
  simp only [List.mem_cons,List.not_mem_nil,or_false] at hx
  rcases hx with rfl | rfl | rfl
  ·exact ⟨by show (1900:Int) <= 1960;decide,by show (1960:Int) <= 2099;decide,by show (1:Int) <= 1;decide,x1.f5,x1.fS⟩
  ·exact ⟨by show (1900:Int) <= 1980;decide,by show (1980:Int) <= 2099;decide,c41 h.na0,(c2i h.na1).f5,(c2i h.na1).fS⟩
  ·exact ⟨by show (1900:Int) <= 1995;decide,by show (1995:Int) <= 2099;decide,c41 h.nb0,(c2i h.nb1).f5,(c2i h.nb1).fS⟩
 ·show P.ixs.Pairwise _
  unfold Ps.ixs
  simp
 ·intro x hx
  have hx:x∈P.lts:=hx
  unfold Ps.lts at hx
  simp only [List.mem_cons,List.not_mem_nil,or_false] at hx
  have k1:(aL1 P.yr).ok:=a8e (by decide) (by decide) e8y (w3 h.yr1)
  have k2:(aL2 (b58 P.np)).ok:=a8e (by decide) (by decide) (a8e (by decide) (by decide) c4l (b1q (c2i h.np1))) (b1q g2a)
  rcases hx with rfl | rfl
  ·exact ⟨c4l.leaf.1,c4l.leaf.2,c8s k1 (Nat.le_of_ble_eq_true (by kernel_rfl)) (Nat.le_of_ble_eq_true (by kernel_rfl)),b7d k1 (Nat.le_of_ble_eq_true (by kernel_rfl)) (Nat.le_of_ble_eq_true (by kernel_rfl))⟩
  ·exact ⟨d2z.leaf.1,d2z.leaf.2,c8s k2 (Nat.le_of_ble_eq_true (by kernel_rfl)) (Nat.le_of_ble_eq_true (by kernel_rfl)),b7d k2 (Nat.le_of_ble_eq_true (by kernel_rfl)) (Nat.le_of_ble_eq_true (by kernel_rfl))⟩
 ·intro g hg
  have hg:g∈P.grs:=hg
  unfold Ps.grs at hg
  rcases List.mem_append.1 hg with hg | hg
  ·simp only [List.mem_cons,List.not_mem_nil,or_false] at hg
   rcases hg with rfl | rfl
   ·exact ⟨b1,k1i,k1p⟩
   ·exact ⟨b2,kIns h.a4,k2p⟩
  rcases List.mem_append.1 hg with hg | hg
  ·have hg:=b8z hg
   rw [List.mem_singleton] at hg;subst hg
   exact ⟨b3,k3i,k3p⟩
  ·simp only [List.mem_cons,List.not_mem_nil,or_false] at hg
   rcases hg with rfl | rfl
   ·exact ⟨b4,kIns h.a5,k4p⟩
   ·exact ⟨b5,kIns h.a7,k5p⟩
 ·show P.grs.Pairwise _
  unfold Ps.grs
  cases P.c3<;>simp
 ·intro r hr
  have hr:r∈P.rds:=hr
  unfold Ps.rds at hr
  rcases List.mem_append.1 hr with hr | hr
  ·have hr:=b8z hr
   rw [List.mem_singleton] at hr;subst hr
   exact ⟨b1,kr1⟩
  ·have hr:=b8z hr
   rw [List.mem_singleton] at hr;subst hr
   exact ⟨b2,kr2⟩
 ·show P.rds.Pairwise _
  unfold Ps.rds
  cases P.c4<;>cases P.c5<;>simp
end Go.PL
namespace Go.PL
open Go Go.SX
theorem a00 {a b c:ByteArray} (h:a4l a b=some c):bl c=bl a++bl b:=by
 unfold a4l at h
 split at h
 ·have h:=Option.some.inj h
  subst h
  unfold bl
  rw [ByteArray.data_append,Array.toList_append]
 ·cases h
theorem a4k {a n v:Int} (h:b6 a n=some v) (hn:0<n) (h1:n <= 9223372036854775807):0 <= v /\ v<n:=by
 obtain ⟨r,hr,h2⟩:=a0z (a:=a) hn h1
 rw [hr] at h
 have h:=Option.some.inj h
 subst h
 exact h2
theorem c62 {x:Int} {s:ByteArray} (h:k6 x=some s) {n:Nat} (e:x=(n:Int)) (hn:n<1000000):bl s=a8a 20 n:=by
 subst e
 rw [b6d hn] at h
 have h:=Option.some.inj h
 subst h
 rfl
theorem e2s {x:Int} {s:ByteArray} (h:u9 x=some s) {n:Nat} (e:x=(n:Int)) (hn:n<1000):bl s=c6v n:=by
 subst e
 rw [d3i hn] at h
 have h:=Option.some.inj h
 subst h
 rfl
def T (l:List (List Lx×Cl)):List UInt8:=a0a (fl l)
theorem c3f (p:List Lx×Cl) (l:List (List Lx×Cl)):T (p::l)=a0a p.1++T l:=by
 unfold T fl
 rw [List.flatMap_cons,a4c]
theorem d21:T []=[]:=rfl
theorem b63 (a b:List (List Lx×Cl)):T (a++b)=T a++T b:=by
 unfold T fl
 rw [List.flatMap_append,a4c]
theorem tEnd:a0a [Sg a34]=bl b14:=rfl
theorem tC67 (n:Nat):a0a lC6++a0a (lC7 n)=bl b9c++(a8a 20 n++bl a45):=by
 simp only [a0a,lC6,lC7,W,Sg,Wn,Sh,num,N,blk,cond_true,cond_false,List.append_assoc,List.nil_append];rfl
theorem tC10 (n:Nat):a0a (f4y n)=bl b9j++(a8a 20 n++bl a45):=by
 simp only [a0a,f4y,W,Sg,Wn,Sh,num,N,blk,cond_true,cond_false,List.append_assoc,List.nil_append];rfl
theorem tC5:a0a lC5=bl b9k:=by kernel_rfl
theorem tI (w1 w2:List UInt8) (v1 v2:Fraction):a0a lI0++(a0a (lI1 w1 v1)++a0a (lI2 w2 v2))=bl c07++(w1++(bl b9d++(w2++bl a45))):=by
 simp only [a0a,lI0,lI1,lI2,W,Sg,Wn,Sh,num,N,blk,cond_true,cond_false,List.append_assoc,List.nil_append];rfl
theorem tL (n:Nat) (w:List UInt8) (v:Fraction):a0a (lL1 n)++a0a (lL2 w v)=bl b9w++(a8a 20 n++(bl b98++(w++bl b9y))):=by
 simp only [a0a,lL1,lL2,W,Sg,Wn,Sh,num,N,blk,cond_true,cond_false,List.append_assoc,List.nil_append];rfl
theorem tG1 (a i m:Nat):a0a (lG1 a i m)=bl b94++(a8a 20 a++(bl c02++(a8a 20 i++(bl c04++(a8a 20 m++bl b7h))))):=by
 simp only [a0a,lG1,W,Sg,Wn,Sh,num,N,blk,cond_true,cond_false,List.append_assoc,List.nil_append];rfl
theorem tG2 (i:Nat) (w:List UInt8) (v:Fraction):a0a (lG2 i w v)=bl b9g++(a8a 20 i++(bl c08++(w++bl a45))):=by
 simp only [a0a,lG2,W,Sg,Wn,Sh,num,N,blk,cond_true,cond_false,List.append_assoc,List.nil_append];rfl
theorem tG3:a0a lG3=bl b96:=by kernel_rfl
theorem tG4 (i m:Nat):a0a (lG4 i m)=bl b9l++(a8a 20 i++(bl c2f++(a8a 20 m++bl b93))):=by
 simp only [a0a,lG4,W,Sg,Wn,Sh,num,N,blk,cond_true,cond_false,List.append_assoc,List.nil_append];rfl
theorem tG5 (i:Nat):a0a (lG5 i)=bl c05++(a8a 20 i++bl b9r):=by
 simp only [a0a,lG5,W,Sg,Wn,Sh,num,N,blk,cond_true,cond_false,List.append_assoc,List.nil_append];rfl
theorem tR1 (w:List UInt8) (v:Fraction):a0a (lR1 w v)=bl a9v++(w++bl a45):=by
 simp only [a0a,lR1,W,Sg,Wn,Sh,num,N,blk,cond_true,cond_false,List.append_assoc,List.nil_append];rfl
theorem tR2:a0a lR2=bl b6f:=by kernel_rfl
def q5 (c5:Bool):List (List Lx×Cl):=if c5 then [(lR2,.reduce 2 aR2)] else []
def q4 (g4i g4m g5i nr:Nat) (c4 c5:Bool):List (List Lx×Cl):=[(lG4 g4i g4m,.grant 4 (d9r g4i) (f9z g4m)),(lG5 g5i,.grant 5 (d9r g5i) f6v)]++((if c4 then [(lR1 (c6v nr) (b58 nr),.reduce 1 (aR1 (b58 nr)))] else [])++q5 c5)
def q3 (na nb np yr g1a g1i g1m g2i nd g4i g4m g5i nr:Nat) (c3 c4 c5:Bool):List (List Lx×Cl):=
 [(lI0,.index 1960 ⟨1,1⟩),(lI1 (c6v na) (b58 na),.index 1980 (b58 na)),(lI2 (c6v nb) (b58 nb),.index 1995 (b58 nb)),(lL1 yr,.lett a6h (aL1 yr)),(lL2 (c6v np) (b58 np),.lett b07 (aL2 (b58 np))),
   (lG1 g1a g1i g1m,.grant 1 (f8a g1a g1i) (f9f g1m)),(lG2 g2i (c6v nd) (b58 nd),.grant 2 (d9r g2i) (f8m (b58 nd)))]++
 ((if c3 then [(lG3,.grant 3 f3l f3s)] else [])++q4 g4i g4m g5i nr c4 c5)
structure Q4OK (g4i g4m g5i nr:Nat):Prop where
 h1:g4i <= 100000
 h2:g4m <= 100000
 h3:g5i <= 100000
 h4:nr<700
structure Q3OK (na nb np g1a g1i g1m g2i nd:Nat):Prop where
 h1:1 <= na
 h2:na<700
 h3:1 <= nb
 h4:nb<700
 h5:np<700
 h6:nd<700
 h7:g1a <= 100000
 h8:g1i <= 100000
 h9:g1m <= 100000
 h10:g2i <= 100000
section
variable {n:List Int} {k:Int} {pre r:ByteArray}
theorem e3y (hr:joinC a1g (n,k,pre)=some r): ∃c5,bl r=bl pre++(T (q5 c5)++bl b14):=by
 unfold joinC a1g at hr
 dsimp only at hr
 obtain ⟨v105,h105,hr⟩:=Option.bind_eq_some_iff.1 hr
 obtain ⟨v106,h106,hr⟩:=Option.bind_eq_some_iff.1 hr
 have b106:=a4k h106 (by decide) (by decide)
 obtain ⟨v106,rfl⟩:=Int.eq_ofNat_of_zero_le b106.1
 split at hr
 ·refine ⟨true,?_⟩
  obtain ⟨v107,h107,hr⟩:=Option.bind_eq_some_iff.1 hr
  have t107:=a00 h107
  obtain ⟨v108,h108,hr⟩:=Option.bind_eq_some_iff.1 hr
  have t108:=a00 h108
  have hr:=Option.some.inj hr
  subst hr
  have e5:T (q5 true)=bl b6f:=by
   unfold q5
   rw [if_pos rfl,c3f,d21,List.append_nil]
   exact tR2
  rw [t108,t107,List.append_assoc,e5]
 ·refine ⟨false,?_⟩
  obtain ⟨v109,h109,hr⟩:=Option.bind_eq_some_iff.1 hr
  have t109:=a00 h109
  have hr:=Option.some.inj hr
  subst hr
  rw [t109]
  rfl
theorem e0o (hr:joinC a1i (n,k,pre)=some r): ∃g4i g4m g5i nr c4 c5,Q4OK g4i g4m g5i nr /\ bl r=bl pre++(T (q4 g4i g4m g5i nr c4 c5)++bl b14):=by
 unfold joinC a1i at hr
 dsimp only at hr
 obtain ⟨v79,h79,hr⟩:=Option.bind_eq_some_iff.1 hr
 obtain ⟨v80,h80,hr⟩:=Option.bind_eq_some_iff.1 hr
 have b80:=a4k h80 (by decide) (by decide)
 obtain ⟨v80,rfl⟩:=Int.eq_ofNat_of_zero_le b80.1
 obtain ⟨v81,h81,hr⟩:=Option.bind_eq_some_iff.1 hr
 have t81:=c62 h81 (n:=v80) rfl (by omega)
 obtain ⟨v82,h82,hr⟩:=Option.bind_eq_some_iff.1 hr
 have t82:=a00 h82
 obtain ⟨v83,h83,hr⟩:=Option.bind_eq_some_iff.1 hr
 have t83:=a00 h83
 obtain ⟨v84,h84,hr⟩:=Option.bind_eq_some_iff.1 hr
 obtain ⟨v85,h85,hr⟩:=Option.bind_eq_some_iff.1 hr
 have b85:=a4k h85 (by decide) (by decide)
 obtain ⟨v85,rfl⟩:=Int.eq_ofNat_of_zero_le b85.1
 obtain ⟨v86,h86,hr⟩:=Option.bind_eq_some_iff.1 hr
 have t86:=c62 h86 (n:=10+v85) (by rw [j8 (by omega) (by omega)];omega) (by omega)
 obtain ⟨v87,h87,hr⟩:=Option.bind_eq_some_iff.1 hr
 have t87:=a00 h87
 obtain ⟨v88,h88,hr⟩:=Option.bind_eq_some_iff.1 hr
 have t88:=a00 h88
 obtain ⟨v89,h89,hr⟩:=Option.bind_eq_some_iff.1 hr
 have t89:=a00 h89
 obtain ⟨v90,h90,hr⟩:=Option.bind_eq_some_iff.1 hr
 obtain ⟨v91,h91,hr⟩:=Option.bind_eq_some_iff.1 hr
 have b91:=a4k h91 (by decide) (by decide)
 obtain ⟨v91,rfl⟩:=Int.eq_ofNat_of_zero_le b91.1
 obtain ⟨v92,h92,hr⟩:=Option.bind_eq_some_iff.1 hr
 have t92:=c62 h92 (n:=v91) rfl (by omega)
 obtain ⟨v93,h93,hr⟩:=Option.bind_eq_some_iff.1 hr
 have t93:=a00 h93
 obtain ⟨v94,h94,hr⟩:=Option.bind_eq_some_iff.1 hr
 have t94:=a00 h94
 obtain ⟨v95,h95,hr⟩:=Option.bind_eq_some_iff.1 hr
 have t95:=a00 h95
 obtain ⟨v96,h96,hr⟩:=Option.bind_eq_some_iff.1 hr
 obtain ⟨v97,h97,hr⟩:=Option.bind_eq_some_iff.1 hr
 have b97:=a4k h97 (by decide) (by decide)
 obtain ⟨v97,rfl⟩:=Int.eq_ofNat_of_zero_le b97.1
 split at hr
 ·have hr0:=hr
  obtain ⟨v98,h98,hr⟩:=Option.bind_eq_some_iff.1 hr
  obtain ⟨v99,h99,hr⟩:=Option.bind_eq_some_iff.1 hr
  have b99:=a4k h99 (by decide) (by decide)
  obtain ⟨v99,rfl⟩:=Int.eq_ofNat_of_zero_le b99.1
  obtain ⟨v100,h100,hr⟩:=Option.bind_eq_some_iff.1 hr
  have t100:=e2s h100 (n:=10*v99) (by rw [j8 (by omega) (by omega)];omega) (by omega)
  obtain ⟨v101,h101,hr⟩:=Option.bind_eq_some_iff.1 hr
  have t101:=a00 h101
  obtain ⟨v102,h102,hr⟩:=Option.bind_eq_some_iff.1 hr
  have t102:=a00 h102
  obtain ⟨v103,h103,hr⟩:=Option.bind_eq_some_iff.1 hr
  have t103:=a00 h103
  obtain ⟨c5,e⟩:=e3y hr
  refine ⟨v80,10+v85,v91,10*v99,true,c5,⟨by omega,by omega,by omega,by omega⟩,?_⟩
  rw [e,t103,t102,t101,t100,t95,t94,t93,t92,t89,t88,t87,t86,t83,t82,t81]
  simp only [q4,if_true,b63,c3f,d21,tG4,tG5,tR1,List.append_assoc,List.append_nil,List.nil_append]
 ·obtain ⟨c5,e⟩:=e3y hr
  refine ⟨v80,10+v85,v91,0,false,c5,⟨by omega,by omega,by omega,by omega⟩,?_⟩
  rw [e,t95,t94,t93,t92,t89,t88,t87,t86,t83,t82,t81]
  simp only [q4,Bool.false_eq_true,if_false,b63,c3f,d21,tG4,tG5,List.append_assoc,List.append_nil,List.nil_append]
theorem e57 {yt:ByteArray} {yr:Nat} (hy:bl yt=a8a 20 yr) (hr:joinC a1j (n,k,yt,pre)=some r): ∃na nb np g1a g1i g1m g2i nd g4i g4m g5i nr c3 c4 c5,Q3OK na nb np g1a g1i g1m g2i nd /\ Q4OK g4i g4m g5i nr /\ bl r=bl pre++(T (q3 na nb np yr g1a g1i g1m g2i nd g4i g4m g5i nr c3 c4 c5)++bl b14):=by
 unfold joinC a1j at hr
 dsimp only at hr
 obtain ⟨v29,h29,hr⟩:=Option.bind_eq_some_iff.1 hr
 obtain ⟨v30,h30,hr⟩:=Option.bind_eq_some_iff.1 hr
 have b30:=a4k h30 (by decide) (by decide)
 obtain ⟨v30,rfl⟩:=Int.eq_ofNat_of_zero_le b30.1
 obtain ⟨v31,h31,hr⟩:=Option.bind_eq_some_iff.1 hr
 have t31:=e2s h31 (n:=100+v30) (by rw [j8 (by omega) (by omega)];omega) (by omega)
 obtain ⟨v32,h32,hr⟩:=Option.bind_eq_some_iff.1 hr
 have t32:=a00 h32
 obtain ⟨v33,h33,hr⟩:=Option.bind_eq_some_iff.1 hr
 have t33:=a00 h33
 obtain ⟨v34,h34,hr⟩:=Option.bind_eq_some_iff.1 hr
 obtain ⟨v35,h35,hr⟩:=Option.bind_eq_some_iff.1 hr
 have b35:=a4k h35 (by decide) (by decide)
 obtain ⟨v35,rfl⟩:=Int.eq_ofNat_of_zero_le b35.1
 obtain ⟨v36,h36,hr⟩:=Option.bind_eq_some_iff.1 hr
 have t36:=e2s h36 (n:=400+v35) (by rw [j8 (by omega) (by omega)];omega) (by omega)
 obtain ⟨v37,h37,hr⟩:=Option.bind_eq_some_iff.1 hr
 have t37:=a00 h37
 obtain ⟨v38,h38,hr⟩:=Option.bind_eq_some_iff.1 hr
 have t38:=a00 h38
 obtain ⟨v39,h39,hr⟩:=Option.bind_eq_some_iff.1 hr
 have t39:=a00 h39
 obtain ⟨v40,h40,hr⟩:=Option.bind_eq_some_iff.1 hr
 have t40:=a00 h40
 obtain ⟨v41,h41,hr⟩:=Option.bind_eq_some_iff.1 hr
 have t41:=a00 h41
 obtain ⟨v42,h42,hr⟩:=Option.bind_eq_some_iff.1 hr
 obtain ⟨v43,h43,hr⟩:=Option.bind_eq_some_iff.1 hr
 have b43:=a4k h43 (by decide) (by decide)
 obtain ⟨v43,rfl⟩:=Int.eq_ofNat_of_zero_le b43.1
 obtain ⟨v44,h44,hr⟩:=Option.bind_eq_some_iff.1 hr
 have t44:=e2s h44 (n:=1+v43) (by rw [j8 (by omega) (by omega)];omega) (by omega)
 obtain ⟨v45,h45,hr⟩:=Option.bind_eq_some_iff.1 hr
 have t45:=a00 h45
 obtain ⟨v46,h46,hr⟩:=Option.bind_eq_some_iff.1 hr
 have t46:=a00 h46
 obtain ⟨v47,h47,hr⟩:=Option.bind_eq_some_iff.1 hr
 have t47:=a00 h47
 obtain ⟨v48,h48,hr⟩:=Option.bind_eq_some_iff.1 hr
 obtain ⟨v49,h49,hr⟩:=Option.bind_eq_some_iff.1 hr
 have b49:=a4k h49 (by decide) (by decide)
 obtain ⟨v49,rfl⟩:=Int.eq_ofNat_of_zero_le b49.1
 obtain ⟨v50,h50,hr⟩:=Option.bind_eq_some_iff.1 hr
 have t50:=c62 h50 (n:=50+v49) (by rw [j8 (by omega) (by omega)];omega) (by omega)
 obtain ⟨v51,h51,hr⟩:=Option.bind_eq_some_iff.1 hr
 have t51:=a00 h51
 obtain ⟨v52,h52,hr⟩:=Option.bind_eq_some_iff.1 hr
 have t52:=a00 h52
 obtain ⟨v53,h53,hr⟩:=Option.bind_eq_some_iff.1 hr
 obtain ⟨v54,h54,hr⟩:=Option.bind_eq_some_iff.1 hr
 have b54:=a4k h54 (by decide) (by decide)
 obtain ⟨v54,rfl⟩:=Int.eq_ofNat_of_zero_le b54.1
 obtain ⟨v55,h55,hr⟩:=Option.bind_eq_some_iff.1 hr
 have t55:=c62 h55 (n:=v54) rfl (by omega)
 obtain ⟨v56,h56,hr⟩:=Option.bind_eq_some_iff.1 hr
 have t56:=a00 h56
 obtain ⟨v57,h57,hr⟩:=Option.bind_eq_some_iff.1 hr
 have t57:=a00 h57
 obtain ⟨v58,h58,hr⟩:=Option.bind_eq_some_iff.1 hr
 obtain ⟨v59,h59,hr⟩:=Option.bind_eq_some_iff.1 hr
 have b59:=a4k h59 (by decide) (by decide)
 obtain ⟨v59,rfl⟩:=Int.eq_ofNat_of_zero_le b59.1
 obtain ⟨v60,h60,hr⟩:=Option.bind_eq_some_iff.1 hr
 have t60:=c62 h60 (n:=v59) rfl (by omega)
 obtain ⟨v61,h61,hr⟩:=Option.bind_eq_some_iff.1 hr
 have t61:=a00 h61
 obtain ⟨v62,h62,hr⟩:=Option.bind_eq_some_iff.1 hr
 have t62:=a00 h62
 obtain ⟨v63,h63,hr⟩:=Option.bind_eq_some_iff.1 hr
 have t63:=a00 h63
 obtain ⟨v64,h64,hr⟩:=Option.bind_eq_some_iff.1 hr
 obtain ⟨v65,h65,hr⟩:=Option.bind_eq_some_iff.1 hr
 have b65:=a4k h65 (by decide) (by decide)
 obtain ⟨v65,rfl⟩:=Int.eq_ofNat_of_zero_le b65.1
 obtain ⟨v66,h66,hr⟩:=Option.bind_eq_some_iff.1 hr
 have t66:=c62 h66 (n:=v65) rfl (by omega)
 obtain ⟨v67,h67,hr⟩:=Option.bind_eq_some_iff.1 hr
 have t67:=a00 h67
 obtain ⟨v68,h68,hr⟩:=Option.bind_eq_some_iff.1 hr
 have t68:=a00 h68
 obtain ⟨v69,h69,hr⟩:=Option.bind_eq_some_iff.1 hr
 obtain ⟨v70,h70,hr⟩:=Option.bind_eq_some_iff.1 hr
 have b70:=a4k h70 (by decide) (by decide)
 obtain ⟨v70,rfl⟩:=Int.eq_ofNat_of_zero_le b70.1
 obtain ⟨v71,h71,hr⟩:=Option.bind_eq_some_iff.1 hr
 have t71:=e2s h71 (n:=20+v70) (by rw [j8 (by omega) (by omega)];omega) (by omega)
 obtain ⟨v72,h72,hr⟩:=Option.bind_eq_some_iff.1 hr
 have t72:=a00 h72
 obtain ⟨v73,h73,hr⟩:=Option.bind_eq_some_iff.1 hr
 have t73:=a00 h73
 obtain ⟨v74,h74,hr⟩:=Option.bind_eq_some_iff.1 hr
 have t74:=a00 h74
 obtain ⟨v75,h75,hr⟩:=Option.bind_eq_some_iff.1 hr
 obtain ⟨v76,h76,hr⟩:=Option.bind_eq_some_iff.1 hr
 have b76:=a4k h76 (by decide) (by decide)
 obtain ⟨v76,rfl⟩:=Int.eq_ofNat_of_zero_le b76.1
 have eI:=tI (c6v (100+v30)) (c6v (400+v35)) (b58 (100+v30)) (b58 (400+v35))
 have eL:=tL yr (c6v (1+v43)) (b58 (1+v43))
 split at hr
 ·have hr0:=hr
  obtain ⟨v77,h77,hr⟩:=Option.bind_eq_some_iff.1 hr
  have t77:=a00 h77
  obtain ⟨g4i,g4m,g5i,nr,c4,c5,hq,e⟩:=e0o hr
  refine ⟨100+v30,400+v35,1+v43,50+v49,v54,v59,v65,20+v70,g4i,g4m,g5i,nr,true,c4,c5,⟨by omega,by omega,by omega,by omega,by omega,by omega,by omega,by omega,by omega,by omega⟩,hq,?_⟩
  rw [e,t77,t74,t73,t72,t71,t68,t67,t66,t63,t62,t61,t60,t57,t56,t55,t52,t51,t50,t47,t46,t45,t44,t41,t40,t39,t38,t37,t36,t33,t32,t31,hy]
  simp only [q3,if_true,b63,c3f,d21,tG1,tG2,tG3,List.append_assoc,List.append_nil,List.nil_append]
  rw [<- List.append_assoc (a0a lI0),<- List.append_assoc _ (a0a (lI2 _ _)),List.append_assoc (a0a lI0),eI,<- List.append_assoc (a0a (lL1 yr)),eL]
  simp only [List.append_assoc]
 ·obtain ⟨g4i,g4m,g5i,nr,c4,c5,hq,e⟩:=e0o hr
  refine ⟨100+v30,400+v35,1+v43,50+v49,v54,v59,v65,20+v70,g4i,g4m,g5i,nr,false,c4,c5,⟨by omega,by omega,by omega,by omega,by omega,by omega,by omega,by omega,by omega,by omega⟩,hq,?_⟩
  rw [e,t74,t73,t72,t71,t68,t67,t66,t63,t62,t61,t60,t57,t56,t55,t52,t51,t50,t47,t46,t45,t44,t41,t40,t39,t38,t37,t36,t33,t32,t31,hy]
  simp only [q3,Bool.false_eq_true,if_false,b63,c3f,d21,tG1,tG2,List.append_assoc,List.append_nil,List.nil_append]
  rw [<- List.append_assoc (a0a lI0),<- List.append_assoc _ (a0a (lI2 _ _)),List.append_assoc (a0a lI0),eI,<- List.append_assoc (a0a (lL1 yr)),eL]
  simp only [List.append_assoc]
end
end Go.PL
namespace Go.PL
open Go Go.SX
def f5w (yr:Nat) (l:List (List Lx×Cl)):Prop:= ∃na nb np g1a g1i g1m g2i nd g4i g4m g5i nr c3 c4 c5,Q3OK na nb np g1a g1i g1m g2i nd /\ Q4OK g4i g4m g5i nr /\ l=q3 na nb np yr g1a g1i g1m g2i nd g4i g4m g5i nr c3 c4 c5
def q2 (c2:Bool) (l:List (List Lx×Cl)):List (List Lx×Cl):=(if c2 then [(lC5,.credit 5 0)] else [])++l
def q1 (l7 l10:Nat) (c1 c2:Bool) (l:List (List Lx×Cl)):List (List Lx×Cl):=[(lC6,.credit 6 0),(lC7 l7,.credit 7 l7)]++((if c1 then [(f4y l10,.credit 10 l10)] else [])++q2 c2 l)
section
variable {n:List Int} {k:Int} {pre r:ByteArray}
theorem e27 {yt:ByteArray} {yr:Nat} (hy:bl yt=a8a 20 yr) (hr:joinC a1h (n,k,yt,pre)=some r): ∃c2 l,f5w yr l /\ bl r=bl pre++(T (q2 c2 l)++bl b14):=by
 unfold joinC a1h at hr
 dsimp only at hr
 obtain ⟨v25,h25,hr⟩:=Option.bind_eq_some_iff.1 hr
 obtain ⟨v26,h26,hr⟩:=Option.bind_eq_some_iff.1 hr
 have b26:=a4k h26 (by decide) (by decide)
 obtain ⟨v26,rfl⟩:=Int.eq_ofNat_of_zero_le b26.1
 split at hr
 ·have hr0:=hr
  obtain ⟨v27,h27,hr⟩:=Option.bind_eq_some_iff.1 hr
  have t27:=a00 h27
  obtain ⟨na,nb,np,g1a,g1i,g1m,g2i,nd,g4i,g4m,g5i,nr,c3,c4,c5,h3,h4,e⟩:=e57 hy hr
  refine ⟨true,_,⟨na,nb,np,g1a,g1i,g1m,g2i,nd,g4i,g4m,g5i,nr,c3,c4,c5,h3,h4,rfl⟩,?_⟩
  rw [e,t27]
  simp only [q2,if_true,b63,c3f,d21,tC5,List.append_assoc,List.append_nil,List.nil_append]
 ·obtain ⟨na,nb,np,g1a,g1i,g1m,g2i,nd,g4i,g4m,g5i,nr,c3,c4,c5,h3,h4,e⟩:=e57 hy hr
  refine ⟨false,_,⟨na,nb,np,g1a,g1i,g1m,g2i,nd,g4i,g4m,g5i,nr,c3,c4,c5,h3,h4,rfl⟩,?_⟩
  rw [e]
  rfl
theorem c8c {yt:ByteArray} {yr:Nat} (hy:bl yt=a8a 20 yr) (hr:joinC a09 (n,k,yt,pre)=some r): ∃l7 l10 c1 c2 l,(1 <= l7 /\ l7 <= 73049 /\ 1 <= l10 /\ l10 <= 73049) /\ f5w yr l /\ bl r=bl pre++(T (q1 l7 l10 c1 c2 l)++bl b14):=by
 unfold joinC a09 at hr
 dsimp only at hr
 obtain ⟨v10,h10,hr⟩:=Option.bind_eq_some_iff.1 hr
 obtain ⟨v11,h11,hr⟩:=Option.bind_eq_some_iff.1 hr
 have b11:=a4k h11 (by decide) (by decide)
 obtain ⟨v11,rfl⟩:=Int.eq_ofNat_of_zero_le b11.1
 obtain ⟨v12,h12,hr⟩:=Option.bind_eq_some_iff.1 hr
 have t12:=c62 h12 (n:=1+v11) (by rw [j8 (by omega) (by omega)];omega) (by omega)
 obtain ⟨v13,h13,hr⟩:=Option.bind_eq_some_iff.1 hr
 have t13:=a00 h13
 obtain ⟨v14,h14,hr⟩:=Option.bind_eq_some_iff.1 hr
 have t14:=a00 h14
 obtain ⟨v15,h15,hr⟩:=Option.bind_eq_some_iff.1 hr
 have t15:=a00 h15
 obtain ⟨v16,h16,hr⟩:=Option.bind_eq_some_iff.1 hr
 obtain ⟨v17,h17,hr⟩:=Option.bind_eq_some_iff.1 hr
 have b17:=a4k h17 (by decide) (by decide)
 obtain ⟨v17,rfl⟩:=Int.eq_ofNat_of_zero_le b17.1
 have eC:=tC67 (1+v11)
 split at hr
 ·have hr0:=hr
  obtain ⟨v18,h18,hr⟩:=Option.bind_eq_some_iff.1 hr
  obtain ⟨v19,h19,hr⟩:=Option.bind_eq_some_iff.1 hr
  have b19:=a4k h19 (by decide) (by decide)
  obtain ⟨v19,rfl⟩:=Int.eq_ofNat_of_zero_le b19.1
  obtain ⟨v20,h20,hr⟩:=Option.bind_eq_some_iff.1 hr
  have t20:=c62 h20 (n:=100+v19) (by rw [j8 (by omega) (by omega)];omega) (by omega)
  obtain ⟨v21,h21,hr⟩:=Option.bind_eq_some_iff.1 hr
  have t21:=a00 h21
  obtain ⟨v22,h22,hr⟩:=Option.bind_eq_some_iff.1 hr
  have t22:=a00 h22
  obtain ⟨v23,h23,hr⟩:=Option.bind_eq_some_iff.1 hr
  have t23:=a00 h23
  obtain ⟨c2,l,hl,e⟩:=e27 hy hr
  refine ⟨1+v11,100+v19,true,c2,l,⟨by omega,by omega,by omega,by omega⟩,hl,?_⟩
  rw [e,t23,t22,t21,t20,t15,t14,t13,t12]
  simp only [q1,if_true,b63,c3f,d21,tC10,List.append_assoc,List.append_nil,List.nil_append]
  rw [<- List.append_assoc (a0a lC6),eC]
  simp only [List.append_assoc]
 ·obtain ⟨c2,l,hl,e⟩:=e27 hy hr
  refine ⟨1+v11,1,false,c2,l,⟨by omega,by omega,by omega,by omega⟩,hl,?_⟩
  rw [e,t15,t14,t13,t12]
  simp only [q1,Bool.false_eq_true,if_false,b63,c3f,d21,List.append_assoc,List.append_nil,List.nil_append]
  rw [<- List.append_assoc (a0a lC6),eC]
  simp only [List.append_assoc]
theorem g27 (P:Ps):a0a (d8q P)=bl b44++(P.date++(bl a9k++(bl P.mx++(32::(a8a 20 P.u++bl a45))))):=by
 simp only [a0a,d8q,W,Sg,Wn,Sh,num,N,blk,cond_true,cond_false,List.append_assoc,List.nil_append];rfl
structure MdOK (m:Int) (mx:ByteArray) (u:Nat):Prop where
 mw:d4y mx=true
 mo:ofW mx 3=some m
 m0:1 <= m
 m1:m <= 4
 mS:nz (a1l d6e m)=true
 u0:1 <= u
 u1:u <= 100000
theorem d7r {day:Int} {date:List UInt8} {m:Int} {mx:ByteArray} {u yr l7 l10:Nat} {c1 c2:Bool} {l:List (List Lx×Cl)} (hdt:c8m (64::date) day=true) (hd0:0 <= day) (hd1:day <= 73048) (hm:MdOK m mx u) (hyr:yr <= 100000)
  (hc:1 <= l7 /\ l7 <= 73049 /\ 1 <= l10 /\ l10 <= 73049) (hl:f5w yr l): ∃P:Ps,PsOK P /\ P.day=day /\ a0a (lxV P)=bl b44++(date++(bl a9k++(bl mx++(32::(a8a 20 u++bl a45)))))++(T (q1 l7 l10 c1 c2 l)++bl b14):=by
 obtain ⟨na,nb,np,g1a,g1i,g1m,g2i,nd,g4i,g4m,g5i,nr,c3,c4,c5,h3,h4,rfl⟩:=hl
 refine ⟨⟨day,date,m,mx,u,l7,l10,c1,c2,c3,c4,c5,na,nb,np,yr,g1a,g1i,g1m,g2i,nd,g4i,g4m,g5i,nr⟩,⟨hdt,hd0,hd1,hm.mw,hm.mo,hm.m0,hm.m1,hm.mS,hm.u0,hm.u1,hc.1,hc.2.1,hc.2.2.1,hc.2.2.2,h3.h1,h3.h2,h3.h3,h3.h4,h3.h5,h3.h6,h4.h4,hyr,h3.h7,h3.h8,h3.h9,h3.h10,h4.h1,h4.h2,h4.h3⟩,rfl,?_⟩
 unfold lxV
 rw [a4c,a4c,g27,tEnd]
 rfl
theorem c9c {a:ByteArray} {day:Int} (hdt:c8m (64::bl a) day=true) (hd0:0 <= day) (hd1:day <= 73048) (hr:a16 a n k=some r): ∃P:Ps,PsOK P /\ P.day=day /\ bl r=a0a (lxV P):=by
 unfold a16 at hr
 obtain ⟨v1,h1,hr⟩:=Option.bind_eq_some_iff.1 hr
 obtain ⟨v2,h2,hr⟩:=Option.bind_eq_some_iff.1 hr
 have b2:=a4k h2 (by decide) (by decide)
 obtain ⟨v2,rfl⟩:=Int.eq_ofNat_of_zero_le b2.1
 obtain ⟨v3,h3,hr⟩:=Option.bind_eq_some_iff.1 hr
 have t3:=c62 h3 (n:=300+v2) (by rw [j8 (by omega) (by omega)];omega) (by omega)
 obtain ⟨v4,h4,hr⟩:=Option.bind_eq_some_iff.1 hr
 have t4:=a00 h4
 obtain ⟨v5,h5,hr⟩:=Option.bind_eq_some_iff.1 hr
 have t5:=a00 h5
 obtain ⟨v6,h6,hr⟩:=Option.bind_eq_some_iff.1 hr
 obtain ⟨v7,h7,hr⟩:=Option.bind_eq_some_iff.1 hr
 have b7:=a4k h7 (by decide) (by decide)
 obtain ⟨v7,rfl⟩:=Int.eq_ofNat_of_zero_le b7.1
 split at hr
 ·have hr0:=hr
  obtain ⟨v8,h8,hr⟩:=Option.bind_eq_some_iff.1 hr
  have t8:=a00 h8
  obtain ⟨l7,l10,c1,c2,l,hc,hl,e⟩:=c8c t3 hr
  obtain ⟨P,hP,hd,ht⟩:=d7r (c1:=c1) (c2:=c2) hdt hd0 hd1 (m:=1) (mx:=c1u) (u:=1) ⟨by kernel_rfl,by kernel_rfl,by decide,by decide,by kernel_rfl,by decide,by decide⟩ (by omega) hc hl
  refine ⟨P,hP,hd,?_⟩
  rw [ht,e,t8,t5,t4,show bl b57=bl c1u++(32::(a8a 20 1++bl a45)) from by kernel_rfl]
  simp only [List.append_assoc]
 split at hr
 ·have hr0:=hr
  obtain ⟨v110,h110,hr⟩:=Option.bind_eq_some_iff.1 hr
  have t110:=a00 h110
  obtain ⟨l7,l10,c1,c2,l,hc,hl,e⟩:=c8c t3 hr
  obtain ⟨P,hP,hd,ht⟩:=d7r (c1:=c1) (c2:=c2) hdt hd0 hd1 (m:=3) (mx:=c1n) (u:=5) ⟨by kernel_rfl,by kernel_rfl,by decide,by decide,by kernel_rfl,by decide,by decide⟩ (by omega) hc hl
  refine ⟨P,hP,hd,?_⟩
  rw [ht,e,t110,t5,t4,show bl b4t=bl c1n++(32::(a8a 20 5++bl a45)) from by kernel_rfl]
  simp only [List.append_assoc]
 split at hr
 ·have hr0:=hr
  obtain ⟨v111,h111,hr⟩:=Option.bind_eq_some_iff.1 hr
  have t111:=a00 h111
  obtain ⟨l7,l10,c1,c2,l,hc,hl,e⟩:=c8c t3 hr
  obtain ⟨P,hP,hd,ht⟩:=d7r (c1:=c1) (c2:=c2) hdt hd0 hd1 (m:=2) (mx:=d0l) (u:=1) ⟨by kernel_rfl,by kernel_rfl,by decide,by decide,by kernel_rfl,by decide,by decide⟩ (by omega) hc hl
  refine ⟨P,hP,hd,?_⟩
  rw [ht,e,t111,t5,t4,show bl b87=bl d0l++(32::(a8a 20 1++bl a45)) from by kernel_rfl]
  simp only [List.append_assoc]
 obtain ⟨v112,h112,hr⟩:=Option.bind_eq_some_iff.1 hr
 have t112:=a00 h112
 obtain ⟨l7,l10,c1,c2,l,hc,hl,e⟩:=c8c t3 hr
 obtain ⟨P,hP,hd,ht⟩:=d7r (c1:=c1) (c2:=c2) hdt hd0 hd1 (m:=4) (mx:=c14) (u:=10) ⟨by kernel_rfl,by kernel_rfl,by decide,by decide,by kernel_rfl,by decide,by decide⟩ (by omega) hc hl
 refine ⟨P,hP,hd,?_⟩
 rw [ht,e,t112,t5,t4,show bl b3c=bl c14++(32::(a8a 20 10++bl a45)) from by kernel_rfl]
 simp only [List.append_assoc]
end
end Go.PL
namespace Go.PL
open Go Go.SX
theorem e16: ∀(ls:List Lx) (rest:List UInt8),okA ls rest -> ls.length <= (a0a ls).length
 | [],_,_=>Nat.le_refl _
 | ⟨t,w,sp⟩::ls,rest,h=>by
   have h2:=e16 ls rest h.2
   have h1:1 <= w.length:=by
    have h1:LxOK t w (blk sp++(a0a ls++rest)):=h.1
    cases h1<;>simp
   show ls.length+1 <= (w++(blk sp++a0a ls)).length
   rw [List.length_append,List.length_append]
   omega
def c9m (o:Option Ps):List Lx:=match o with | some P=>lxV P | none=>[]
def c40 (o:Option Ps):List Version:=match o with | some P=>[P.ver] | none=>[]
def c9j (o:Option Ps) (day:Int):Prop:=match o with | some P=>PsOK P /\ P.day=day | none=>True
def lxS (nm:ByteArray) (cur:Nat) (P:Ps) (o1 o2:Option Ps):List Lx:=[W a3v,W nm,W a2m,num cur [] 2 true,Sg b3b]++(lxV P++(c9m o1++(c9m o2++[Sh a34])))
def stS (nm:ByteArray) (cur:Nat) (P:Ps) (o1 o2:Option Ps):Statute:=⟨nm,cur,P.ver::(c40 o1++c40 o2)⟩
theorem d7p {o:Option Ps} {day:Int} (h:c9j o day) (rest:List UInt8):okA (c9m o) rest:=by
 cases o with
 | none=>trivial
 | some P=>exact e0h h.1 rest
theorem d60 {o:Option Ps} {day:Int} (h:c9j o day) {ts:List Tk} {vs:List Version} (hv:VersR ts vs):VersR (tk (c9m o) ts) (c40 o++vs):=by
 cases o with
 | none=>exact hv
 | some P=>exact VersR.cons (g08 h.1 ts) hv
theorem c9u (P:Ps):P.ver.From=P.day:=by rw [f1y]
theorem e9k {nm:ByteArray} (hn:(AE.nm nm).ok) {cur:Nat} (h0:1 <= cur) (h1:cur <= 999) {P:Ps} {o1 o2:Option Ps} (hP:PsOK P) (hd:P.day=0) (hq1:c9j o1 35245) (hq2:c9j o2 36890):SOK (stS nm cur P o1 o2):=by
 have l1: ∀o:Option Ps,(c40 o).length <= 1:=fun o=>by cases o<;>simp [c40]
 have a1:=l1 o1
 have a2:=l1 o2
 have hv:=e0b hP
 refine ⟨hn.leaf.1,hn.leaf.2,by show (1:Int) <= (cur:Int);omega,by show (cur:Int) <= 999;omega,?_,?_,?_,?_⟩
 ·show 1 <= (P.ver::(c40 o1++c40 o2)).length
  simp
 ·show (P.ver::(c40 o1++c40 o2)).length <= 6
  simp only [List.length_cons,List.length_append];omega
 ·intro v hv2
  refine ⟨d28,?_⟩
  have hv2:v∈P.ver::(c40 o1++c40 o2):=hv2
  rcases List.mem_cons.1 hv2 with rfl | hv2
  ·exact hv
  rcases List.mem_append.1 hv2 with hv2 | hv2
  ·cases o1 with
   | none=>cases hv2
   | some Q=>rw [show c40 (some Q)=[Q.ver] from rfl,List.mem_singleton] at hv2;subst hv2;exact e0b hq1.1
  ·cases o2 with
   | none=>cases hv2
   | some Q=>rw [show c40 (some Q)=[Q.ver] from rfl,List.mem_singleton] at hv2;subst hv2;exact e0b hq2.1
 ·show (P.ver::(c40 o1++c40 o2)).Pairwise _
  cases o1 with
  | none=>
    cases o2 with
    | none=>simp [c40]
    | some R=>have:=hq2.2;simp [c40,c9u];omega
  | some Q=>
    have h3:=hq1.2
    cases o2 with
    | none=>simp [c40,c9u];omega
    | some R=>have h4:=hq2.2;simp [c40,c9u];omega
theorem e84 {nm:ByteArray} (hw:d4y nm=true) (hn:(AE.nm nm).ok) {cur:Nat} (h0:1 <= cur) (h1:cur <= 999) {P:Ps} {o1 o2:Option Ps} (hP:PsOK P) (hd:P.day=0) (hq1:c9j o1 35245) (hq2:c9j o2 36890)
  {s:ByteArray} (hs:s.size <= 8000) (ht:bl s=a0a (lxS nm cur P o1 o2)):a2z s=some (stS nm cur P o1 o2,0,0):=by
 have hA:okA (lxS nm cur P o1 o2) []:=by
  have hk:c24 [W a3v,W nm,W a2m,num cur [] 2 true,Sg b3b]=true:=by
   simp only [c24,W,Sg,num,N,BEq.rfl,nx,hw,Bool.true_and,Bool.and_true,Bool.true_or]
   kernel_rfl
  have hnn:d1n [W a3v,W nm,W a2m,num cur [] 2 true,Sg b3b]:=⟨trivial,trivial,trivial,.whole (by omega) (.inl ⟨rfl,rfl⟩),trivial,trivial⟩
  refine a95 _ _ _ (c20 _ hk hnn _) ?_
  ·exact a95 _ _ _ (e0h hP _) (a95 _ _ _ (d7p hq1 _) (a95 _ _ _ (d7p hq2 _) (c20 [Sh a34] (by kernel_rfl) ⟨trivial,trivial⟩ _)))
 have hlen:=e16 _ _ hA
 have hsz:s.size=(a0a (lxS nm cur P o1 o2)).length:=by rw [c0k,<- ht];rfl
 obtain ⟨toks,hall,hrel,htl⟩:=e35 hs (lxS nm cur P o1 o2) ht (e9b _ hA) (by omega)
 have hv:VersR (tk (lxV P) (tk (c9m o1) (tk (c9m o2) [.s a34]))) (P.ver::(c40 o1++c40 o2)):=by
  have h2:VersR (tk (c9m o2) [.s a34]) (c40 o2++[]):=d60 hq2 VersR.nil
  rw [List.append_nil] at h2
  exact VersR.cons (g08 hP _) (d60 hq1 h2)
 have e:(lxS nm cur P o1 o2).map (·.t)= .w a3v:: .w nm:: .w a2m:: .n ⟨(cur:Int),1⟩ 2:: .s b3b::tk (lxV P) (tk (c9m o1) (tk (c9m o2) [.s a34])):=by
  unfold lxS tk
  simp only [List.map_append,List.map_cons,List.map_nil,List.cons_append,List.nil_append,W,Sg,Sh,num,N]
 rw [e] at hrel
 have hl1: ∀o:Option Ps,(c40 o).length <= 1:=fun o=>by cases o<;>simp [c40]
 have a1:=hl1 o1
 have a2:=hl1 o2
 have hnm:e9s nm=true:=by unfold e9s;rw [hn.leaf.1]
 exact e67 hall htl hrel hnm (by omega) (by omega) hv (by simp) (by simp only [List.length_cons,List.length_append];omega) (f2p (e9k hn h0 h1 hP hd hq1 hq2))
theorem tSt (nm:ByteArray) (cur:Nat) (P:Ps) (o1 o2:Option Ps):a0a (lxS nm cur P o1 o2)=bl b4o++(bl nm++(bl b18++(a8a 20 cur++(bl c0e++(a0a (lxV P)++(a0a (c9m o1)++(a0a (c9m o2)++bl a34))))))):=by
 unfold lxS
 rw [a4c,a4c,a4c,a4c]
 simp only [a0a,W,Sg,Wn,Sh,num,N,blk,cond_true,cond_false,List.append_assoc,List.nil_append];rfl
theorem g23:c8m (64::bl a70) 0=true:=by kernel_rfl
theorem g3c:c8m (64::bl a6w) 35245=true:=by kernel_rfl
theorem g31:c8m (64::bl a6v) 36890=true:=by kernel_rfl
theorem c9x (s:ByteArray):s.size=(bl s).length:=c0k s
theorem d1i (P:Ps):a0a (c9m (some P))=a0a (lxV P):=rfl
theorem c0u:a0a (c9m none)=[]:=rfl
section
variable {n:List Int} {pre r:ByteArray}
theorem e4k {k:Int} (hl:n.length <= 9223372036854775807) (hr:joinC a33 (k,n,pre)=some r): ∃o2,c9j o2 36890 /\ bl r=bl pre++(a0a (c9m o2)++bl a34) /\ (a0a (c9m o2)).length <= 2500:=by
 unfold joinC a33 at hr
 dsimp only at hr
 obtain ⟨v15,h15,hr⟩:=Option.bind_eq_some_iff.1 hr
 obtain ⟨v16,h16,hr⟩:=Option.bind_eq_some_iff.1 hr
 have b16:=a4k h16 (by decide) (by decide)
 obtain ⟨v16,rfl⟩:=Int.eq_ofNat_of_zero_le b16.1
 split at hr
 ·have hr0:=hr
  obtain ⟨v17,h17,hr⟩:=Option.bind_eq_some_iff.1 hr
  obtain ⟨v18,h18,hr⟩:=Option.bind_eq_some_iff.1 hr
  have t18:=a00 h18
  obtain ⟨v19,h19,hr⟩:=Option.bind_eq_some_iff.1 hr
  have t19:=a00 h19
  have hr:=Option.some.inj hr
  subst hr
  obtain ⟨P,hP,hd,ht⟩:=c9c g31 (by decide) (by decide) h17
  have hsz:=a1e a6v n (i64 ((i64 (7*k))+5)) hl (by decide)
  obtain ⟨z,hz,hz2⟩:=hsz
  rw [h17] at hz
  have hz:=Option.some.inj hz
  subst hz
  rw [c9x,ht] at hz2
  exact ⟨some P,⟨hP,hd⟩,by rw [t19,t18,ht,d1i,List.append_assoc],hz2⟩
 ·have hr0:=hr
  obtain ⟨v20,h20,hr⟩:=Option.bind_eq_some_iff.1 hr
  have t20:=a00 h20
  have hr:=Option.some.inj hr
  subst hr
  exact ⟨none,trivial,by rw [t20,c0u];rfl,by rw [c0u];simp⟩
end
theorem c2s {k:Nat} (hk:k<3) (n:List Int) (hl:n.length <= 9223372036854775807): ∃s x,a18 (k:Int) n=some s /\ a2z s=some (x,0,0) /\ SOK x:=by
 obtain ⟨s,hs,_⟩:=b8o (k:=(k:Int)) n hl (by omega) (by omega)
 have hr:=hs
 unfold a18 at hr
 obtain ⟨nm,hnm,hr⟩:=Option.bind_eq_some_iff.1 hr
 have hN:d4y nm=true /\ (AE.nm nm).ok /\ (bl nm).length <= 5:=by
  match k,hk,hnm with
  | 0,_,hnm=>have e:b61=nm:=Option.some.inj hnm;subst e;exact ⟨by kernel_rfl,c6d (by kernel_rfl),by decide⟩
  | 1,_,hnm=>have e:b6h=nm:=Option.some.inj hnm;subst e;exact ⟨by kernel_rfl,c6d (by kernel_rfl),by decide⟩
  | 2,_,hnm=>have e:b32=nm:=Option.some.inj hnm;subst e;exact ⟨by kernel_rfl,c6d (by kernel_rfl),by decide⟩
 rw [hnm] at hr
 rw [Option.bind_some] at hr
 obtain ⟨v3,h3,hr⟩:=Option.bind_eq_some_iff.1 hr
 have t3:=a00 h3
 obtain ⟨v4,h4,hr⟩:=Option.bind_eq_some_iff.1 hr
 have t4:=a00 h4
 obtain ⟨v5,h5,hr⟩:=Option.bind_eq_some_iff.1 hr
 have t5:=c62 h5 (n:=1+k) (by rw [j8 (by omega) (by omega)];omega) (by omega)
 obtain ⟨v6,h6,hr⟩:=Option.bind_eq_some_iff.1 hr
 have t6:=a00 h6
 obtain ⟨v7,h7,hr⟩:=Option.bind_eq_some_iff.1 hr
 have t7:=a00 h7
 obtain ⟨v8,h8,hr⟩:=Option.bind_eq_some_iff.1 hr
 obtain ⟨v9,h9,hr⟩:=Option.bind_eq_some_iff.1 hr
 have t9:=a00 h9
 obtain ⟨v10,h10,hr⟩:=Option.bind_eq_some_iff.1 hr
 obtain ⟨v11,h11,hr⟩:=Option.bind_eq_some_iff.1 hr
 have b11:=a4k h11 (by decide) (by decide)
 obtain ⟨v11,rfl⟩:=Int.eq_ofNat_of_zero_le b11.1
 obtain ⟨P,hP,hd,ht⟩:=c9c g23 (by decide) (by decide) h8
 have hsz:(a0a (lxV P)).length <= 2500:=by
  obtain ⟨z,hz,hz2⟩:=a1e a70 n (i64 (7*(k:Int))) hl (by decide)
  rw [h8] at hz
  have hz:=Option.some.inj hz
  subst hz
  rw [c9x,ht] at hz2
  exact hz2
 have hdl:=c15 20 (1+k) 0 (by omega)
 have fin: ∀o1 o2,c9j o1 35245 -> c9j o2 36890 -> bl s=bl v9++(a0a (c9m o1)++(a0a (c9m o2)++bl a34)) -> (a0a (c9m o1)).length <= 2500 -> (a0a (c9m o2)).length <= 2500 -> ∃s x,a18 (k:Int) n=some s /\ a2z s=some (x,0,0) /\ SOK x:=by
  intro o1 o2 hq1 hq2 e g1 g2
  have e2:bl s=a0a (lxS nm (1+k) P o1 o2):=by
   rw [tSt,e,t9,t7,t6,t5,t4,t3,ht]
   simp only [List.append_assoc]
  have hsz2:s.size <= 8000:=by
   rw [c9x,e2,tSt]
   simp only [List.length_append]
   have q1:(bl b4o).length=8:=by decide
   have q2:(bl b18).length=10:=by decide
   have q3:(bl c0e).length=3:=by decide
   have q4:(bl a34).length=1:=by decide
   have:=hN.2.2
   omega
  exact ⟨s,_,hs,e84 hN.1 hN.2.1 (by omega) (by omega) hP hd hq1 hq2 hsz2 e2,e9k hN.2.1 (by omega) (by omega) hP hd hq1 hq2⟩
 split at hr
 ·have hr0:=hr
  obtain ⟨v12,h12,hr⟩:=Option.bind_eq_some_iff.1 hr
  obtain ⟨v13,h13,hr⟩:=Option.bind_eq_some_iff.1 hr
  have t13:=a00 h13
  obtain ⟨Q,hQ,hdQ,htQ⟩:=c9c g3c (by decide) (by decide) h12
  have hszQ:(a0a (lxV Q)).length <= 2500:=by
   obtain ⟨z,hz,hz2⟩:=a1e a6w n (i64 ((i64 (7*(k:Int)))+3)) hl (by decide)
   rw [h12] at hz
   have hz:=Option.some.inj hz
   subst hz
   rw [c9x,htQ] at hz2
   exact hz2
  obtain ⟨o2,ho2,e,hlen2⟩:=e4k hl hr
  exact fin (some Q) o2 ⟨hQ,hdQ⟩ ho2 (by rw [e,t13,htQ,d1i,List.append_assoc]) hszQ hlen2
 ·obtain ⟨o2,ho2,e,hlen2⟩:=e4k hl hr
  exact fin none o2 trivial ho2 (by rw [e,c0u];rfl) (by rw [c0u];simp) hlen2
end Go.PL
namespace Go.PL
open Go Go.SX
def c1p:List Rate:=[(⟨1,0,(⟨1,1⟩:Fraction)⟩:Rate),(⟨2,0,(⟨3,2⟩:Fraction)⟩:Rate),(⟨3,0,(⟨1,7⟩:Fraction)⟩:Rate),(⟨3,1150,(⟨1,9⟩:Fraction)⟩:Rate)]
def c3u (t:List Rules):Prop:= ∃few:Int,0 <= few /\ few <= 450 /\
 (t=[⟨0,few,730,25,[0,1,2]⟩] \/ t=[⟨0,few,730,25,[0,1]⟩,⟨35000,few,365,30,[0,1,2]⟩] \/ t=[⟨0,few,730,25,[0,1,2]⟩,⟨36000,few,730,25,[0,1]⟩])
structure LwOK (x:Laws):Prop where
 st: ∃t0 t1 t2,x.States=[⟨0,t0⟩,⟨1,t1⟩,⟨2,t2⟩] /\ SOK t0 /\ SOK t1 /\ SOK t2
 tr:c3u x.Treaty
 ra:x.Rates=c1p
theorem e3d: ∃m,FU=m+1+1+1+1:=⟨FU-4,by have:=a2s;omega⟩
theorem f4j {n:List Int} (hl:n.length <= 9223372036854775807): ∃x,a8o n=some x /\ LwOK x:=by
 obtain ⟨s0,t0,h0,p0,k0⟩:=c2s (k:=0) (by decide) n hl
 obtain ⟨s1,t1,h1,p1,k1⟩:=c2s (k:=1) (by decide) n hl
 obtain ⟨s2,t2,h2,p2,k2⟩:=c2s (k:=2) (by decide) n hl
 have h0:a18 0 n=some s0:=h0
 have h1:a18 1 n=some s1:=h1
 have h2:a18 2 n=some s2:=h2
 unfold a8o
 obtain ⟨m,hm⟩:=e3d
 rw [hm,i8]
 generalize hA:d8 (m+1+1+1) (a17 n)=A
 unfold a17
 have a0:a8q 56 ([]:List State) [⟨0,t0⟩]=some [⟨0,t0⟩]:=b2d (by simp) (by decide)
 have a1:a8q 56 ([⟨0,t0⟩]:List State) [⟨1,t1⟩]=some [⟨0,t0⟩,⟨1,t1⟩]:=b2d (by simp) (by decide)
 have a2:a8q 56 ([⟨0,t0⟩,⟨1,t1⟩]:List State) [⟨2,t2⟩]=some [⟨0,t0⟩,⟨1,t1⟩,⟨2,t2⟩]:=b2d (by simp) (by decide)
 simp only [show decide ((0:Int)<3)=true from rfl,if_true,h0,Option.bind_some,p0,BEq.rfl,a0,show i64 (0+1)=1 from rfl]
 rw [<- hA,i8]
 generalize hB:d8 (m+1+1) (a17 n)=B
 unfold a17
 simp only [show decide ((1:Int)<3)=true from rfl,if_true,h1,Option.bind_some,p1,BEq.rfl,a1,show i64 (1+1)=2 from rfl]
 rw [<- hB,i8]
 generalize hC:d8 (m+1) (a17 n)=C
 unfold a17
 simp only [show decide ((2:Int)<3)=true from rfl,if_true,h2,Option.bind_some,p2,BEq.rfl,a2,show i64 (2+1)=3 from rfl]
 rw [<- hC,i8]
 unfold a17
 simp only [show decide ((3:Int)<3)=false from rfl,Bool.false_eq_true,if_false]
 obtain ⟨v6,h6,_⟩:=a1d n 2 hl
 obtain ⟨v7,h7,b7⟩:=a0z (a:=v6) (n:=6) (by decide) (by decide)
 obtain ⟨v8,h8,_⟩:=a1d n 5 hl
 obtain ⟨v9,h9,b9⟩:=a0z (a:=v8) (n:=3) (by decide) (by decide)
 have e90:i64 (90*v7)=90*v7:=j8 (by omega) (by omega)
 simp only [h6,h7,h8,h9,Option.bind_some,e90]
 have fin: ∀t:List Rules,c3u t -> ∃x,some (⟨[⟨0,t0⟩,⟨1,t1⟩,⟨2,t2⟩],t,c1p⟩:Laws)=some x /\ LwOK x:=fun t ht=>⟨_,rfl,⟨⟨t0,t1,t2,rfl,k0,k1,k2⟩,ht,rfl⟩⟩
 split
 ·exact fin _ ⟨90*v7,by omega,by omega,.inl rfl⟩
 ·split
  ·rw [show a8q 56 [(⟨0,90*v7,730,25,[0,1]⟩:Rules)] [(⟨35000,90*v7,365,30,[0,1,2]⟩:Rules)]=some ([(⟨0,90*v7,730,25,[0,1]⟩:Rules)]++[(⟨35000,90*v7,365,30,[0,1,2]⟩:Rules)]) from b2d (by simp) (by decide),Option.bind_some]
   exact fin _ ⟨90*v7,by omega,by omega,.inr (.inl rfl)⟩
  ·simp only [show i7 [(⟨0,90*v7,730,25,[0,1]⟩:Rules)] 0=some (⟨0,90*v7,730,25,[0,1]⟩:Rules) from rfl,Option.bind_some]
   rw [show a8q 56 (a8b [(⟨0,90*v7,730,25,[0,1]⟩:Rules)] 0 (⟨0,90*v7,730,25,[0,1,2]⟩:Rules)) [(⟨36000,90*v7,730,25,[0,1]⟩:Rules)]=some ((a8b [(⟨0,90*v7,730,25,[0,1]⟩:Rules)] 0 (⟨0,90*v7,730,25,[0,1,2]⟩:Rules))++[(⟨36000,90*v7,730,25,[0,1]⟩:Rules)]) from b2d (by simp [a8b]) (by decide),Option.bind_some]
   exact fin _ ⟨90*v7,by omega,by omega,.inr (.inr rfl)⟩
theorem e4g {t:List Rules} (h:c3u t):b1n t=some 0:=by
 obtain ⟨few,h0,h1,h⟩:=h
 have d1:decide (few >= 0)=true:=by simp;omega
 have d2:decide (few <= 73049)=true:=by simp;omega
 have val: ∀(f p s:Int) (l:List Int),decide (f >= 0)=true -> decide (f <= 73048)=true -> decide (p >= 0)=true -> decide (p <= 73049)=true -> decide (s >= 0)=true -> decide (s <= 100)=true -> l=[0,1] \/ l=[0,1,2] -> a54 ⟨f,few,p,s,l⟩=some true:=by
  intro f p s l e1 e2 e3 e4 e5 e6 hl
  unfold a54 a4f a7u
  simp only [d1,d2,e1,e2,e3,e4,e5,e6,if_true,Option.bind_some,Bool.not_true,Bool.false_eq_true,if_false]
  obtain ⟨m,hm⟩:=e3d
  have h3:3<FU:=by have:=a2s;omega
  rcases hl with rfl | rfl
  ·have:=q9 (f:=b3f ⟨f,few,p,s,[0,1]⟩) (fun i=>((⟨f,few,p,s,[0,1]⟩:Rules),(i:Int))) 2 (x:=some true) (fun i hi r=>by
    match i,hi with
    | 0,_=>rfl
    | 1,_=>rfl) (fun r=>rfl) (by omega:2<FU)
   exact this
  ·have:=q9 (f:=b3f ⟨f,few,p,s,[0,1,2]⟩) (fun i=>((⟨f,few,p,s,[0,1,2]⟩:Rules),(i:Int))) 3 (x:=some true) (fun i hi r=>by
    match i,hi with
    | 0,_=>rfl
    | 1,_=>rfl
    | 2,_=>rfl) (fun r=>rfl) h3
   exact this
 have h3:3<FU:=by have:=a2s;omega
 have v1:=val 0 730 25 [0,1,2] rfl rfl rfl rfl rfl rfl (.inr rfl)
 have v2:=val 0 730 25 [0,1] rfl rfl rfl rfl rfl rfl (.inl rfl)
 have v3:=val 35000 365 30 [0,1,2] rfl rfl rfl rfl rfl rfl (.inr rfl)
 have v4:=val 36000 730 25 [0,1] rfl rfl rfl rfl rfl rfl (.inl rfl)
 rcases h with rfl | rfl | rfl
 ·have:=q9 (f:=a2c [⟨0,few,730,25,[0,1,2]⟩]) (fun i=>(i:Int)) 1 (x:=some 0) (fun i hi r=>by
   match i,hi with
   | 0,_=>
     unfold a2c
     show ((a54 _).bind _)=_
     rw [v1];rfl) (fun r=>rfl) (by omega:1<FU)
  exact this
 ·have:=q9 (f:=a2c [⟨0,few,730,25,[0,1]⟩,⟨35000,few,365,30,[0,1,2]⟩]) (fun i=>(i:Int)) 2 (x:=some 0) (fun i hi r=>by
   match i,hi with
   | 0,_=>
     unfold a2c
     show ((a54 _).bind _)=_
     rw [v2];rfl
   | 1,_=>
     unfold a2c
     show ((a54 _).bind _)=_
     rw [v3];rfl) (fun r=>rfl) (by omega:2<FU)
  exact this
 ·have:=q9 (f:=a2c [⟨0,few,730,25,[0,1,2]⟩,⟨36000,few,730,25,[0,1]⟩]) (fun i=>(i:Int)) 2 (x:=some 0) (fun i hi r=>by
   match i,hi with
   | 0,_=>
     unfold a2c
     show ((a54 _).bind _)=_
     rw [v1];rfl
   | 1,_=>
     unfold a2c
     show ((a54 _).bind _)=_
     rw [v4];rfl) (fun r=>rfl) (by omega:2<FU)
  exact this
theorem d70:a6b c1p=some 0:=by kernel_rfl
theorem d7y:b1n []=some 1:=by kernel_rfl
theorem c56 {t0 t1 t2:Statute} (k0:SOK t0) (k1:SOK t1) (k2:SOK t2) (t:List Rules) (ra:List Rate) {c:Int} (hc:((b1n t).bind fun v12=>if (v12 != 0) then some v12 else (a6b ra).bind fun v13=>some v13)=some c):
  b0z ⟨[⟨0,t0⟩,⟨1,t1⟩,⟨2,t2⟩],t,ra⟩=some c:=by
 have h3:3<FU:=by have:=a2s;omega
 have l2: ∀v1:Laws×Int,v1.1=⟨[⟨0,t0⟩,⟨1,t1⟩,⟨2,t2⟩],t,ra⟩ -> d8 FU (a8d v1) (v1.1,0)=some c:=by
  intro v1 hv
  rw [hv]
  have:=q9 (f:=a8d v1) (fun i=>((⟨[⟨0,t0⟩,⟨1,t1⟩,⟨2,t2⟩],t,ra⟩:Laws),(i:Int))) 3 (x:=some c) (fun i hi r=>by
   unfold a8d
   rw [hv]
   match i,hi with
   | 0,_=>show ((a5c t0).bind _)=_;rw [c8o k0];rfl
   | 1,_=>show ((a5c t1).bind _)=_;rw [c8o k1];rfl
   | 2,_=>show ((a5c t2).bind _)=_;rw [c8o k2];rfl) (fun r=>by
   unfold a8d
   rw [hv]
   exact hc) h3
  exact this
 unfold b0z
 have:=q9 (f:=b4z ⟨[⟨0,t0⟩,⟨1,t1⟩,⟨2,t2⟩],t,ra⟩) (fun i=>((⟨[⟨0,t0⟩,⟨1,t1⟩,⟨2,t2⟩],t,ra⟩:Laws),(i:Int))) 3 (x:=some c) (fun i hi r=>by
  match i,hi with
  | 0,_=>rfl
  | 1,_=>rfl
  | 2,_=>rfl) (fun r=>by
  unfold b4z
  exact l2 _ rfl) h3
 exact this
theorem e7d {x:Laws} (h:LwOK x):b0z x=some 0 /\ b0z ⟨x.States,[],x.Rates⟩=some 1:=by
 obtain ⟨⟨t0,t1,t2,hs,k0,k1,k2⟩,htr,hra⟩:=h
 obtain ⟨st,tr,ra⟩:=x
 have hs:st=[⟨0,t0⟩,⟨1,t1⟩,⟨2,t2⟩]:=hs
 have htr:c3u tr:=htr
 have hra:ra=c1p:=hra
 subst hs;subst hra
 refine ⟨c56 k0 k1 k2 tr c1p ?_,c56 k0 k1 k2 [] c1p ?_⟩
 ·rw [e4g htr,d70];rfl
 ·rw [d7y];rfl
end Go.PL
namespace Go.PL
open Go Go.SX
theorem f5s {s:pensionlaw26_Seeds} (h:s.Laws.length <= 9223372036854775807 /\ s.Lives.length <= 9223372036854775807 /\ s.Facts.length <= 9223372036854775807 /\ s.Claims.length <= 9223372036854775807):Tot (a7q s) fun r=>LwOK r.1 /\ r.2.1.length <= 27 /\ r.2.2.length <= 12 /\ (∀c∈r.2.2,b4d c) /\ ∃c∈r.2.2,c.Person=1:=by
 unfold a7q
 refine Tot.bind (e52 h.2.1) fun a ha=>Tot.bind (e0y _) fun b hb=>Tot.bind (b8e (by omega)) fun c hc=> ?_
 subst hc
 obtain ⟨x,hx,hok⟩:=f4j h.1
 rw [hx,Option.bind_some]
 have hA: ∃z,a5l s.Day=some z /\ z.length=6 /\ (∀c∈z,b4d c) /\ ∃c∈z,c.Person=1:=by
  obtain ⟨z,hz,z1,z2⟩:=f7k s.Day
  refine ⟨z,hz,z1,z2,?_⟩
  unfold a5l at hz
  rw [c4e (by decide) (by decide),Option.bind_some] at hz
  have hz:=Option.some.inj hz
  subst hz
  exact ⟨_,List.mem_cons_self,rfl⟩
 obtain ⟨z,hz,z1,z2,c1,hc1,hcp⟩:=hA
 refine Tot.bind (e15 _) fun y hy=> ?_
 rw [hz,Option.bind_some]
 refine Tot.bind (b8e (by omega)) fun w hw=> ?_
 subst hw
 refine Tot.some ⟨hok,by simp;omega,by simp;omega,fun c hc=> ?_,c1,by simp [hc1],hcp⟩
 rcases List.mem_append.1 hc with hc | hc
 ·exact hy.2 c hc
 ·exact z2 c hc
theorem f8e:b00=some true:=by kernel_rfl
end Go.PL
namespace Go.PL
open Go Go.SX
theorem g0y (l:List api_Fact) (p:Int):(ofP (b2z l) p).filter cur=ofP (fs l) p:=e2a _ _
theorem g0h (l:List api_Fact) (p:Int):(ofP (fs l) p).filter cur=ofP (fs l) p:=by
 rw [e2a]
 unfold fs
 rw [List.filter_filter]
 simp only [Bool.and_self]
theorem e26 (l:List api_Fact) (p d:Int):b6s (ofP (b2z l) p) d=b6s (ofP (fs l) p) d:=by
 unfold b6s b9z
 rw [g0y,g0h]
theorem c4x (g:decision_file) (r:List Claim) (b m:Int) (hr:a0d g.claims g.person m=some r) (hl:r.length <= 1000):a1f g b m=some (r.filter fun c=>c.Benefit==b):=by
 unfold a1f
 rw [hr,Option.bind_some]
 refine a9s (f:=a36 r b) r (fun s i=>(s,r,i)) (fun s i=>s=(r.take i).filter fun c=>c.Benefit==b) (fun o=>o=some (r.filter fun c=>c.Benefit==b)) (by omega) ?_ ?_ [] (by simp)
 ·rintro rec s i y hi hy rfl
  right
  unfold a36
  dsimp only
  rw [if_pos (c5w hi)]
  simp only [b50 hy,Option.bind_some]
  rw [b7e hy,List.filter_append,b40 (by omega)]
  have hlen:((r.take i).filter fun c=>c.Benefit==b).length <= 1000:=by
   have:=List.length_filter_le (fun c:Claim=>c.Benefit==b) (r.take i);rw [List.length_take] at this;omega
  by_cases hc:(y.Benefit==b)=true
  ·rw [if_pos hc,a85 (by simp only [List.length_cons,List.length_nil];omega),Option.bind_some]
   exact ⟨_,rfl,by simp [hc]⟩
  ·rw [if_neg hc]
   rw [Bool.not_eq_true] at hc
   exact ⟨_,rfl,by simp [hc]⟩
 ·rintro rec s rfl
  unfold a36
  dsimp only
  rw [if_neg (b9s _),List.take_length]
theorem e3p {l:List api_Fact} (hl:l.length <= 2^20) (x:Laws) (own:List api_Fact) (q:List Claim) (p c d:Int):
  a0r ⟨x,b2z l,own,q,p⟩ c d=some ((f6f (fs l) c d).any fun y=>p==y):=by
 unfold a0r
 rw [d52 hl,Option.bind_some,d2k _ _ (by have:=f4k (fs l) c d;omega)];rfl
theorem e3f (g:decision_file) (d:Int) (hl:g.own.length <= 2^30):a0w g d=some (b6s g.own d):=by
 unfold a0w
 rw [c65 _ hl,Option.bind_some]
 unfold b6s
 cases h:(b9z g.own).2<;>simp
section
variable {g:decision_file} {r:List Claim} {m d:Int}
theorem d7l (hr:a0d g.claims g.person m=some r) (hl:r.length <= 1000) (ha:a0w g d=some false) (b:Int):s4 g b m d=some false:=by
 unfold s4
 rw [c4x g r b m hr hl,Option.bind_some]
 by_cases h0:(((r.filter fun c=>c.Benefit==b).length:Int)==0)=true
 ·rw [if_pos h0];rfl
 ·rw [if_neg h0,ha];rfl
theorem d8r (hr:a0d g.claims g.person m=some r) (hl:r.length <= 1000) (ha:a0w g d=some false):a5u g m d=some []:=by
 unfold a5u
 refine q9 (f:=b0f g m d) (fun i=>(([]:List decision_item),([1,2,3]:List Int),(i:Int))) 3 (fun i hi r2=> ?_) (fun r2=>rfl) (by have:=a2s;omega)
 have key: ∀b:Int,(s4 g b m d)=some false:=fun b=>d7l hr hl ha b
 match i,hi with
 | 0,_=>show ((s4 g 1 m d).bind _)=_;rw [key];rfl
 | 1,_=>show ((s4 g 2 m d).bind _)=_;rw [key];rfl
 | 2,_=>show ((s4 g 3 m d).bind _)=_;rw [key];rfl
theorem c8r (hr:a0d g.claims g.person m=some r) (hl:r.length <= 1000) (hp: ∀c,a0r g c d=some false):a2u g m d=some []:=by
 unfold a2u
 rw [c4x g r 4 m hr hl,Option.bind_some]
 have hlen:(r.filter fun c=>c.Benefit==4).length <= 1000:=Nat.le_trans (List.length_filter_le _ _) hl
 generalize (r.filter fun c=>c.Benefit==4)=q at hlen
 refine q9 (f:=a35 q g d) (fun i=>(([]:List Net),q,(i:Int))) q.length (fun i hi r2=> ?_) (fun r2=> ?_) (by have:=a2s;omega)
 ·unfold a35
  simp only [c1m hi,if_true,a4j hi,Option.bind_some,hp,Bool.not_false,a8s (show i <= 1000000 by omega)]
 ·unfold a35
  simp only [b01,Bool.false_eq_true,if_false]
theorem e5f:b4w []=some []:=by kernel_rfl
theorem d9h:b3n []=some true:=by kernel_rfl
theorem f2h (v:List (List Int)):d8 FU (a96 []) (v,0)=some ([],0):=by
 rw [show FU=FU-1+1 from by have:=a2s;omega,i8]
 show d8 FU (a9a []) (v,[],0)=_
 rw [show FU=FU-1+1 from by have:=a2s;omega,i8]
 rfl
theorem d9w:((mkI 56 (⟨0,0,0,0,0,0,0⟩:Net) (([]:List Gross).length:Int) (([]:List Gross).length:Int)).bind fun v2=>d8 FU (b4b []) ([],v2,0))=some ([],0):=by kernel_rfl
theorem e0k (hm:0 <= m /\ m <= 2399):a9q [] c1p m=some ([],0):=by
 have hd:a5e [] c1p m=some ([],0):=by
  unfold a5e
  rw [d9h,Option.bind_some,d70]
  have h1:decide (m<0)=false:=decide_eq_false (by omega)
  have h2:decide (m>2399)=false:=decide_eq_false (by omega)
  simp only [Bool.not_true,Bool.false_eq_true,if_false,h1,h2,Option.bind_some,show ((0:Int) != 0)=false from rfl]
  show (some ([]:List (List Int))).bind _=_
  rw [Option.bind_some]
  exact f2h _
 unfold a9q
 rw [hd,Option.bind_some]
 exact d9w
theorem d4k:a6u []=some []:=by kernel_rfl
theorem f2z:o5 []=some []:=by kernel_rfl
theorem e8s:m8 []=some []:=by kernel_rfl
theorem d9p (hr:a0d g.claims g.person m=some r) (hl:r.length <= 1000) (ha:a0w g d=some false) (hp: ∀c,a0r g c d=some false) (hx:g.x.Rates=c1p) (hm:0 <= m /\ m <= 2399):
  a5w g m d=some []:=by
 unfold a5w
 rw [d8r hr hl ha,Option.bind_some,e5f,Option.bind_some,hx,e0k hm,Option.bind_some]
 show a4t (g,m,d,[])=_
 unfold a4t
 show ((a6u []).bind _)=_
 rw [d4k,Option.bind_some]
 show ((a2u g m d).bind _)=_
 rw [c8r hr hl hp,Option.bind_some]
 show (some ([]:List Net)).bind _=_
 rw [Option.bind_some]
 show ((s4 g 5 m d).bind _)=_
 rw [d7l hr hl ha,Option.bind_some,if_neg (by decide),f2z,Option.bind_some,e8s];rfl
end
end Go.PL
