/- Texts of the proof, joined. -/
import Derived.Test.YtaadmpfcifegdaaGreatDoorP4
import Derived.KernelRfl
set_option linter.unusedVariables false
set_option linter.unusedSimpArgs false
set_option maxRecDepth 100000
namespace Go.PL
open Go Go.SX
def d1b (a b:api_Fact):Prop:=a.Issuer<b.Issuer \/ (a.Issuer=b.Issuer /\ a.Number<b.Number)
instance (a b:api_Fact):Decidable (d1b a b):=by unfold d1b;exact inferInstance
def d5p:List api_Fact -> api_Fact -> List api_Fact
 | [],f=>[f]
 | a::t,f=>if d1b a f then a::d5p t f else if d1b f a then f::a::t else (if f0t a f=true then f else a)::t
theorem d9q (f:api_Fact): ∀l,(d5p l f).length <= l.length+1
 | []=>Nat.le_refl _
 | a::t=>by
   have:=d9q f t
   unfold d5p
   split
   ·simp;omega
   ·split<;>simp
theorem d2k {f u:api_Fact}: ∀{l:List api_Fact},u∈d5p l f -> u∈l \/ u=f
 | [],h=>by rw [d5p,List.mem_singleton] at h;exact .inr h
 | a::t,h=>by
   unfold d5p at h
   split at h
   ·rcases List.mem_cons.1 h with h | h
    ·exact .inl (h▸List.mem_cons_self ..)
    ·exact (d2k h).imp (List.mem_cons_of_mem _) id
   ·split at h
    ·rcases List.mem_cons.1 h with h | h
     ·exact .inr h
     ·exact .inl h
    ·rcases List.mem_cons.1 h with h | h
     ·split at h
      ·exact .inr h
      ·exact .inl (h▸List.mem_cons_self ..)
     ·exact .inl (List.mem_cons_of_mem _ h)
theorem e2h {a b c:api_Fact} (h1:d1b a b) (h2:d1b b c):d1b a c:=by unfold d1b at *; omega
theorem d8j {f:api_Fact}: ∀{l:List api_Fact},l.Pairwise d1b -> (d5p l f).Pairwise d1b
 | [],_=>List.pairwise_singleton _ _
 | a::t,h=>by
   obtain ⟨h1,h2⟩:=List.pairwise_cons.1 h
   unfold d5p
   split
   ·rename_i hc
    refine List.pairwise_cons.2 ⟨fun u hu=> ?_,d8j h2⟩
    rcases d2k hu with h | h
    ·exact h1 u h
    ·rw [h];exact hc
   ·rename_i hn
    split
    ·rename_i hc
     refine List.pairwise_cons.2 ⟨fun u hu=> ?_,h⟩
     rcases List.mem_cons.1 hu with h | h
     ·rw [h];exact hc
     ·exact e2h hc (h1 u h)
    ·rename_i hm
     refine List.pairwise_cons.2 ⟨fun u hu=> ?_,h2⟩
     have:=h1 u hu
     split
     ·unfold d1b at *; omega
     ·exact this
theorem f3z (x y:Int):k6 x y=some (if x<y then-1 else if y<x then 1 else 0):=by
 unfold k6 a3t
 simp only [bne_self_eq_false,Option.bind_some,Bool.false_eq_true,if_false,decide_eq_true_eq]
 split
 ·rfl
 ·split<;>rfl
theorem f8q (a b:api_Fact):a8g a b=some (if d1b a b then-1 else if d1b b a then 1 else 0):=by
 have hor: ∀x y:Int,a3c [x,y]=some (if x≠0 then x else y):=by
  intro x y
  unfold a3c
  refine b9s (f:=a55 [x,y]) [x,y] (fun (_:Unit) i=>i) (fun _ i=>(1 <= i -> x=0) /\ (2 <= i -> y=0)) (fun o=>o=some (if x≠0 then x else y)) (by simp) ?_ ?_ () ⟨fun h=>by omega,fun h=>by omega⟩
  ·rintro rec _ i v hi hv ⟨h1,h2⟩
   unfold a55
   rw [if_pos (by simp at hi ⊢; omega),c76 hv,Option.bind_some,c42 (by simp at hi;omega)]
   simp at hi
   have:i=0 \/ i=1:=by omega
   rcases this with rfl | rfl
   ·simp at hv;subst hv
    by_cases hx:x=0
    ·right;rw [if_neg (by simp [hx])];exact ⟨(),rfl,fun _=>hx,fun h=>by omega⟩
    ·left;rw [if_pos (by simp [hx]),if_pos hx]
   ·simp at hv;subst hv
    have hx:=h1 (Nat.le_refl _)
    by_cases hy:y=0
    ·right;rw [if_neg (by simp [hy])];exact ⟨(),rfl,fun _=>hx,fun _=>hy⟩
    ·left;rw [if_pos (by simp [hy]),if_neg (by simp [hx])]
  ·rintro rec _ ⟨h1,h2⟩
   have hx:=h1 (by simp)
   have hy:=h2 (by simp)
   unfold a55
   rw [if_neg (by simp),hx,hy];rfl
 unfold a8g
 rw [f3z,Option.bind_some,f3z,Option.bind_some,hor,Option.bind_some]
 congr 1
 unfold d1b
 by_cases h1:a.Issuer<b.Issuer
 ·simp [h1]
 ·by_cases h2:b.Issuer<a.Issuer
  ·have: ¬a.Issuer=b.Issuer:=by omega
   have: ¬b.Issuer=a.Issuer:=by omega
   simp [*]
  ·have e:a.Issuer=b.Issuer:=by omega
   simp [e]
theorem e2g {a b:api_Fact} (ha:vld a=true) (hb:vld b=true):b22 a b=some (if f0t a b=true then b else a):=by
 unfold b22
 rw [e4g ha hb,Option.bind_some]
 split<;>rfl
def e2l:=g9
theorem d6o (k:Nat) (d x:List api_Fact) (hl:x.length+d.length <= 2^30):d8 (k+1) e2l (d,[],x)=some (x++d):=by
 show e2l (d8 k e2l) (d,[],x)=_
 unfold e2l g9
 dsimp only
 rw [a8r,Option.bind_some,if_neg (by simp),b1t (by omega),Option.bind_some,b1t (by simp;omega),Option.bind_some,List.append_nil]
theorem e4t {f:api_Fact} (hf:vld f=true): ∀(d x:List api_Fact) (k:Nat),(∀u∈d,vld u=true) -> x.length+d.length <= 2^29 -> d.length+2 <= k -> d8 k e2l (d,[f],x)=some (x++d5p d f)
 | [],x,k,_,hl,hk=>by
   obtain ⟨k,rfl⟩: ∃j,k=j+1:=⟨k-1,by omega⟩
   show e2l (d8 k e2l) ([],[f],x)=_
   unfold e2l g9
   dsimp only
   rw [a8r,Option.bind_some,if_neg (by simp),b1t (by simp at hl ⊢; omega),Option.bind_some,b1t (by simp at hl ⊢; omega),Option.bind_some,List.append_nil];rfl
 | a::d,x,k,hd,hl,hk=>by
   obtain ⟨k,rfl⟩: ∃j,k=j+1:=⟨k-1,by omega⟩
   simp only [List.length_cons] at hl hk
   have ha:=hd a (List.mem_cons_self ..)
   have hd': ∀u∈d,vld u=true:=fun u hu=>hd u (List.mem_cons_of_mem _ hu)
   have s1:a1q (a::d) 1 ((a::d).length:Int)=some d:=by
    rw [b6u (by omega) (by simp;omega) (Int.le_refl _)];simp
   have s2:a1q [f] 1 (([f]:List api_Fact).length:Int)=some []:=by
    rw [b6u (by omega) (by simp) (Int.le_refl _)];rfl
   have ih:=e4t hf d (x++[a]) k hd' (by simp;omega) (by omega)
   show e2l (d8 k e2l) (a::d,[f],x)=_
   generalize hLP:d8 k e2l=LP at ih
   unfold e2l g9
   dsimp only
   have g1:c8 (a::d) 0=some a:=rfl
   have g2:c8 [f] 0=some f:=rfl
   rw [a8r,Option.bind_some,if_pos (by simp)]
   simp only [g1,g2,Option.bind_some,f8q]
   unfold d5p
   by_cases h1:d1b a f
   ·rw [if_pos h1,if_pos h1,if_pos (by decide),b1t (by simp;omega),Option.bind_some,s1,Option.bind_some,ih];simp
   ·rw [if_neg h1,if_neg h1]
    by_cases h2:d1b f a
    ·rw [if_pos h2,if_pos h2,if_neg (by decide),if_pos (by decide),b1t (by simp;omega),Option.bind_some,s2,Option.bind_some,<- hLP]
     obtain ⟨k,rfl⟩: ∃j,k=j+1:=⟨k-1,by omega⟩
     rw [d6o k (a::d) (x++[f]) (by simp;omega)];simp
    ·rw [if_neg h2,if_neg h2,if_neg (by decide),if_neg (by decide)]
     rw [e2g ha hf,Option.bind_some,b1t (by simp;omega),Option.bind_some,s1,Option.bind_some,s2,Option.bind_some,<- hLP]
     obtain ⟨k,rfl⟩: ∃j,k=j+1:=⟨k-1,by omega⟩
     rw [d6o k d _ (by simp;omega)];simp
def c5z (l:List api_Fact):List api_Fact:=(l.filter vld).foldl d5p []
theorem c94: ∀(l out:List api_Fact),(∀u∈l,vld u=true) -> (∀u∈out,vld u=true) -> out.Pairwise d1b -> (∀u∈l.foldl d5p out,vld u=true) /\ (l.foldl d5p out).Pairwise d1b /\ (l.foldl d5p out).length <= out.length+l.length
 | [],out,_,h2,h3=>⟨h2,h3,by simp⟩
 | f::l,out,h1,h2,h3=>by
   have:=c94 l (d5p out f) (fun u hu=>h1 u (List.mem_cons_of_mem _ hu)) (fun u hu=>(d2k hu).elim (h2 u) (fun e=>e▸h1 f (List.mem_cons_self ..))) (d8j h3)
   have hl:=d9q f out
   refine ⟨this.1,this.2.1,?_⟩
   have:=this.2.2
   simp only [List.foldl_cons,List.length_cons] at this ⊢; omega
theorem e7q (l:List api_Fact):(∀u∈c5z l,vld u=true) /\ (c5z l).Pairwise d1b /\ (c5z l).length <= l.length:=by
 have:=c94 (l.filter vld) [] (fun u hu=>(List.mem_filter.1 hu).2) (fun u h=>(by cases h)) .nil
 refine ⟨this.1,this.2.1,?_⟩
 have h2:=List.length_filter_le vld l
 have:=this.2.2
 simp only [List.length_nil] at this
 unfold c5z;omega
theorem e2s (l:List api_Fact) (y:api_Fact):c5z (l++[y])=if vld y=true then d5p (c5z l) y else c5z l:=by
 unfold c5z
 rw [List.filter_append,List.foldl_append]
 cases h:vld y<;>simp [h]
theorem c5r (l:List api_Fact) (hl:l.length <= 2^20):a6x l=some (c5z l):=by
 unfold a6x
 refine b9s (f:=a6p l) l (fun s i=>(s,i)) (fun s i=>s=c5z (l.take i)) (fun o=>o=some (c5z l)) (by omega) ?_ ?_ [] (by simp [c5z])
 ·rintro rec s i y hi hy rfl
  right
  refine ⟨_,?_,rfl⟩
  have ho:=e7q (l.take i)
  rw [List.length_take] at ho
  unfold a6p
  dsimp only
  rw [if_pos (by simp;omega),c76 hy,Option.bind_some,c0d,Option.bind_some,c42 (by omega),d22 hy,e2s]
  cases hv:vld y with
  | false=>rw [if_neg (by simp),if_neg (by simp)]
  | true=>
    rw [if_pos rfl,if_pos rfl]
    have hm:i6 (c5z (l.take i)) [y]=some (d5p (c5z (l.take i)) y):=by
     have:=e4t hv (c5z (l.take i)) [] FU ho.1 (by simp;omega) (by unfold FU;omega)
     rw [List.nil_append] at this;exact this
    rw [hm,Option.bind_some]
 ·rintro rec s rfl
  unfold a6p
  dsimp only
  rw [if_neg (by simp),List.take_length]
theorem e0o (l:List api_Fact) (hl:l.length <= 2^20):b2o l []=some (c5z l):=by
 have ho:=e7q l
 unfold b2o
 rw [c5r l hl,Option.bind_some,c5r [] (by simp),Option.bind_some]
 have hm:i6 (c5z l) (c5z [])=some (c5z l):=by
  have e:FU=1180591620717411303423+1:=rfl
  have:=d6o 1180591620717411303423 (c5z l) [] (by simp;omega)
  rw [<- e] at this
  exact this
 rw [hm];rfl
end Go.PL
namespace Go.PL
open Go Go.SX
theorem q_nn {a b:Int} (h0:0 <= a) (h1:a <= 4611686018427387904) (hb:0<b):b55 a b=some (a/b):=by
 obtain ⟨r,e,h,_⟩:=c43 h0 (by omega) hb
 rw [e,h]
theorem g4e {a b:Int} (h0:0 <= a) (hb:0<b):b5l a b=some (a%b):=by
 obtain ⟨r,e,h,_⟩:=b57 h0 hb
 rw [e,h]
theorem c7l {n m:Int} (h0:0<m) (h1:m <= 4611686018427387904):b6 n m=some (n%m):=by
 unfold b6
 rw [c4p (by omega),Option.bind_some]
 have h6:=Int.emod_nonneg n (by omega:m≠0)
 have h7:=Int.emod_lt_of_pos n h0
 have h4:n.tmod m=n%m \/ n.tmod m=n%m-m:=by
  rw [Int.tmod_eq_emod]
  split
  ·left;simp
  ·right;omega
 by_cases h:n.tmod m<0
 ·rw [if_pos (by simpa using h),j6 (by omega) (by omega)]
  congr 1;omega
 ·rw [if_neg (by simpa using h)]
  congr 1;omega
def f9y (y mo:Int):Int:=if mo=2 then (if (y%4=0 /\ y%100≠0) \/ y%400=0 then 29 else 28) else if mo=4 \/ mo=6 \/ mo=9 \/ mo=11 then 30 else 31
theorem e0a (y mo:Int):28 <= f9y y mo /\ f9y y mo <= 31:=by unfold f9y;split<;>split<;>omega
def c65 (m:Nat):Int:=f9y (1900+((m/12:Nat):Int)) (((m%12:Nat):Int)+1)
def S:Nat -> Int
 | 0=>0
 | m+1=>S m+c65 m
theorem b1w (m:Nat):28 <= c65 m /\ c65 m <= 31:=e0a _ _
theorem g4c {a b:Nat} (h:a <= b):S a+28*((b:Int)-a) <= S b:=by
 induction b with
 | zero=>have:a=0:=by omega
         subst this;simp
 | succ b ih=>
   by_cases hab:a <= b
   ·have:=ih hab;have:=b1w b;simp only [S];omega
   ·have:a=b+1:=by omega
    subst this;simp
theorem d9c {a b:Nat} (h:a <= b):S a <= S b:=by have:=g4c h;omega
theorem S_lt {a b:Nat} (h:a<b):S a<S b:=by have:=g4c (Nat.le_of_lt h);omega
theorem c4r: ∀m:Nat,0 <= S m /\ S m <= 31*(m:Int)
 | 0=>by simp [S]
 | m+1=>by have:=c4r m;have:=b1w m;simp only [S];omega
theorem c87 {y mo:Int} (hy:0 <= y /\ y <= 100000) (hm:1 <= mo /\ mo <= 12):a04 y mo=some (f9y y mo):=by
 unfold a04 b3v f9y
 simp only [g4e hy.1 (by decide:(0:Int)<4),g4e hy.1 (by decide:(0:Int)<100),g4e hy.1 (by decide:(0:Int)<400),Option.bind_some,a8r,b3n]
 rw [j6 (by omega) (by omega)]
 by_cases h2:mo=2
 ·subst h2
  simp only [beq_self_eq_true,if_true,Option.bind_some,Bool.true_and]
  by_cases hl:(y%4=0 /\ y%100≠0) \/ y%400=0
  ·rw [if_pos hl,if_pos (by simp;simpa using hl)]
  ·rw [if_neg hl,if_neg (by simp;simpa using hl)];rfl
 ·have:(mo==2)=false:=by simpa using h2
  rw [this,Bool.false_and,if_neg (by simp),if_neg h2]
  have hc:mo=1 \/ mo=3 \/ mo=4 \/ mo=5 \/ mo=6 \/ mo=7 \/ mo=8 \/ mo=9 \/ mo=10 \/ mo=11 \/ mo=12:=by omega
  rcases hc with h | h | h | h | h | h | h | h | h | h | h<;>subst h<;>rfl
theorem d7y (m:Nat) (hm:m <= 100000):i64 (1900+(m:Int)/12)=1900+((m/12:Nat):Int) /\ i64 ((m:Int)%12+1)=((m%12:Nat):Int)+1:=by
 rw [j6 (by omega) (by omega),j6 (by omega) (by omega)]
 omega
theorem qm (m:Nat) (hm:m <= 100000):b55 (m:Int) 12=some ((m:Int)/12):=q_nn (by omega) (by omega) (by omega)
theorem rm (m:Nat):b5l (m:Int) 12=some ((m:Int)%12):=g4e (by omega) (by omega)
theorem d88: ∀(n:Nat) {d:Int},0 <= d -> d<S n -> ∃m:Nat,m<n /\ S m <= d /\ d<S (m+1)
 | 0,d,h0,h1=>by simp [S] at h1;omega
 | n+1,d,h0,h1=>by
   by_cases h:d<S n
   ·obtain ⟨m,a,b,c⟩:=d88 n h0 h;exact ⟨m,by omega,b,c⟩
   ·exact ⟨n,by omega,by omega,h1⟩
def y12 (n:Nat):Int:=c65 (12*n)+c65 (12*n+1)+c65 (12*n+2)+c65 (12*n+3)+c65 (12*n+4)+c65 (12*n+5)+c65 (12*n+6)+c65 (12*n+7)+c65 (12*n+8)+c65 (12*n+9)+c65 (12*n+10)+c65 (12*n+11)
theorem c8g (n:Nat):S (12*(n+1))=S (12*n)+y12 n:=by
 rw [show 12*(n+1)=12*n+12 by omega]
 simp only [S,y12]
 omega
def g3x:Nat -> Nat -> Int -> Bool
 | 0,_,_=>true
 | k+1,n,s=>(a26 (1900+(n:Int))==some s)&&(a4r (1900+(n:Int))==some (y12 n))&&g3x k (n+1) (s+y12 n)
theorem e5n: ∀(k n:Nat),g3x k n (S (12*n))=true -> ∀j,n <= j -> j<n+k -> a26 (1900+(j:Int))=some (S (12*j)) /\ a4r (1900+(j:Int))=some (y12 j)
 | 0,n,_,j,h1,h2=>by omega
 | k+1,n,h,j,h1,h2=>by
   simp only [g3x,Bool.and_eq_true,beq_iff_eq] at h
   by_cases hj:j=n
   ·subst hj;exact h.1
   ·rw [<- c8g] at h
    exact e5n k (n+1) h.2 j (by omega) (by omega)
theorem e21:g3x 201 0 0=true:=by kernel_rfl
theorem d1w {n:Nat} (hn:n <= 200):a26 (1900+(n:Int))=some (S (12*n)) /\ a4r (1900+(n:Int))=some (y12 n):=e5n 201 0 e21 n (Nat.zero_le _) (by omega)
theorem e6r (n:Nat):336 <= y12 n /\ y12 n <= 372:=by
 have:=g4c (show 12*n <= 12*(n+1) by omega)
 have h:=c8g n
 have e: ∀k,c65 k <= 31:=fun k=>(b1w k).2
 have:=e (12*n);have:=e (12*n+1);have:=e (12*n+2);have:=e (12*n+3);have:=e (12*n+4);have:=e (12*n+5)
 have:=e (12*n+6);have:=e (12*n+7);have:=e (12*n+8);have:=e (12*n+9);have:=e (12*n+10);have:=e (12*n+11)
 unfold y12 at*
 omega
def sumY:Nat -> Int
 | 0=>0
 | n+1=>sumY n+y12 n
theorem f5s: ∀n,S (12*n)=sumY n
 | 0=>rfl
 | n+1=>by rw [c8g,f5s n];rfl
theorem e65:S 2400=73049:=by
 have h:=f5s 200
 rw [show 12*200=2400 from rfl] at h
 exact h.trans (by kernel_rfl)
def f1l:Nat -> Nat -> Int -> Bool
 | 0,_,_=>true
 | k+1,n,s=>decide (s <= 366*(n:Int))&&f1l k (n+1) (s+y12 n)
theorem d9h: ∀(k n:Nat),f1l k n (S (12*n))=true -> ∀j,n <= j -> j<n+k -> S (12*j) <= 366*(j:Int)
 | 0,n,_,j,h1,h2=>by omega
 | k+1,n,h,j,h1,h2=>by
   simp only [f1l,Bool.and_eq_true,decide_eq_true_eq] at h
   by_cases hj:j=n
   ·subst hj;exact h.1
   ·rw [<- c8g] at h
    exact d9h k (n+1) h.2 j (by omega) (by omega)
theorem d69:f1l 201 0 0=true:=by kernel_rfl
theorem g6n {n:Nat} (hn:n <= 200):S (12*n) <= 366*(n:Int):=d9h 201 0 d69 n (Nat.zero_le _) (by omega)
theorem d0s {n k:Nat} (hn:n <= 1000) (hk:k<12):a04 (1900+(n:Int)) ((k:Int)+1)=some (c65 (12*n+k)):=by
 rw [c87 (by omega) (by omega)]
 unfold c65
 rw [show (12*n+k)/12=n by omega,show (12*n+k)%12=k by omega]
theorem f7x {n k:Nat} (hn:n<200) (hk:k<12):a9t (1900+(n:Int)) ((k:Int)+1) 1=some (S (12*n+k),true):=by
 unfold a9t
 have hb:=c4r (12*n)
 have hl:=b1w (12*n+k)
 rw [d0s (by omega) hk,(d1w (n:=n) (by omega)).1]
 have e1:(((((decide (1900+(n:Int)<1900)||decide (1900+(n:Int)>2099))||decide ((k:Int)+1<1))||decide ((k:Int)+1>12))||decide ((1:Int)<1))||decide ((1:Int)>c65 (12*n+k)))=false:=by
  simp only [Bool.or_eq_false_iff,decide_eq_false_iff_not];omega
 simp only [Option.bind_some,b3n,e1,Bool.false_eq_true,if_false]
 rw [j6 (n:=S (12*n)+1) (by omega) (by omega),j6 (by omega) (by omega)]
 obtain ⟨r,h1,h2⟩:=b5o (f:=b4k ((k:Int)+1) (1900+(n:Int))) (fun s=> ∃x:Nat,s=(S (12*n+x),(x:Int)+1) /\ x <= k) (fun s=>k+1-s.2.toNat) (fun r=>r=(S (12*n+k),true)) (s:=(S (12*n)+1-1,1)) ⟨0,by simp,Nat.zero_le _⟩ (by show k+1-_<_;omega) (by
  rintro s rec ⟨x,rfl,hx⟩
  unfold b4k
  dsimp only
  by_cases h:x<k
  ·right
   have hb:=c4r (12*n+x)
   have hl:=b1w (12*n+x)
   rw [if_pos (by simp;omega),d0s (by omega) (by omega),Option.bind_some,j6 (n:=S (12*n+x)+c65 (12*n+x)) (by omega) (by omega),j6 (n:=(x:Int)+1+1) (by omega) (by omega)]
   exact ⟨(S (12*n+(x+1)),((x+1:Nat):Int)+1),rfl,⟨x+1,rfl,h⟩,by simp only [];omega⟩
  ·left
   have:x=k:=by omega
   subst this
   rw [if_neg (by simp)]
   exact ⟨_,rfl,rfl⟩)
 rw [h1,h2]
theorem e9i {m:Nat} (hm:m<2400):a9t (1900+((m/12:Nat):Int)) (((m%12:Nat):Int)+1) 1=some (S m,true):=by
 have hd:=f7x (n:=m/12) (k:=m%12) (by omega) (Nat.mod_lt _ (by omega))
 rwa [Nat.div_add_mod] at hd
theorem g5a {m:Nat} (hm:m<2400):a4q (m:Int)=some true:=by
 unfold a4q
 have e1:(decide ((m:Int) >= 0)&&decide ((m:Int) <= 2399))=true:=by rw [Bool.and_eq_true];exact ⟨decide_eq_true (by omega),decide_eq_true (by omega)⟩
 rw [a8r,e1];rfl
theorem c8u {m:Nat} (hm:m<2400):a35 (m:Int)=some (S m,true):=by
 have hd:=e9i hm
 obtain ⟨h1,h2⟩:=d7y m (by omega)
 rw [<- h1,<- h2] at hd
 unfold a35
 rw [g5a hm,qm m (by omega),rm]
 show (a9t _ _ 1).bind _=_
 rw [hd];rfl
theorem f1j {d:Int} {m:Nat} (hm:m<2400) (h1:S m <= d) (h2:d<S (m+1)):b07 d=some (1900+((m/12:Nat):Int),((m%12:Nat):Int)+1,d-S m+1,true):=by
 have hS:=d9c (show m+1 <= 2400 by omega)
 have h24:=e65
 have hb0:=c4r m
 have hv:(decide (d >= 0)&&decide (d <= 73048))=true:=by rw [Bool.and_eq_true];exact ⟨decide_eq_true (by omega),decide_eq_true (by omega)⟩
 unfold b07 a4h
 simp only [a8r,hv,Option.bind_some,Bool.not_true,Bool.false_eq_true,if_false]
 rw [q_nn (by omega) (by omega) (by omega),Option.bind_some,j6 (by omega) (by omega)]
 have hn0:(d/366).toNat <= 199:=by omega
 have hs0:=g6n (n:=(d/366).toNat) (by omega)
 obtain ⟨r,h3,h4⟩:=b5o (f:=b32 d) (fun s=> ∃n:Nat,s=1900+(n:Int) /\ n <= 199 /\ S (12*n) <= d) (fun s=>3000-s.toNat) (fun r=>r=(1900+((m/12:Nat):Int),((m%12:Nat):Int)+1,d-S m+1,true)) (s:=1900+d/366) ⟨(d/366).toNat,by omega,hn0,by omega⟩ (by show 3000-_<_;omega) (by
  rintro s rec ⟨n,rfl,hn,hsn⟩
  have hb:=c4r (12*n)
  have hy:=e6r n
  unfold b32
  rw [(d1w (n:=n) (by omega)).1,(d1w (n:=n) (by omega)).2]
  simp only [Option.bind_some]
  rw [j6 (n:=S (12*n)+y12 n) (by omega) (by omega)]
  by_cases h:S (12*n)+y12 n <= d
  ·right
   have hlt:n<199:=by
    by_cases h9:n=199
    ·subst h9
     have:=c8g 199
     rw [show 12*(199+1)=2400 from rfl] at this
     omega
    ·omega
   rw [if_pos (by simpa using h),j6 (n:=1900+(n:Int)+1) (by omega) (by omega)]
   have e4:1900+(n:Int)+1=1900+((n+1:Nat):Int):=by omega
   rw [e4]
   exact ⟨_,rfl,⟨n+1,rfl,by omega,by rw [c8g];exact h⟩,by omega⟩
  ·left
   rw [if_neg (by simpa using h),j6 (n:=d-S (12*n)) (by omega) (by omega)]
   have hnm:m/12=n:=by
    have h5:12*n <= m:=by
     rcases Nat.lt_or_ge m (12*n) with h6 | h6
     ·have:=d9c (show m+1 <= 12*n by omega);omega
     ·exact h6
    have h7:m<12*(n+1):=by
     rcases Nat.lt_or_ge m (12*(n+1)) with h6 | h6
     ·exact h6
     ·have:=d9c h6;rw [c8g] at this;omega
    omega
   refine b5o (f:=b2w (1900+(n:Int))) (fun s=> ∃x:Nat,s=((x:Int)+1,d-S (12*n+x)) /\ x <= m%12) (fun s=>13-s.1.toNat) _ ⟨0,rfl,Nat.zero_le _⟩ (by show 13-_<_;omega) ?_
   rintro s rec2 ⟨x,rfl,hx⟩
   unfold b2w
   dsimp only
   have hb2:=c4r (12*n+x)
   have hl:=b1w (12*n+x)
   rw [d0s (by omega) (by omega)]
   simp only [Option.bind_some]
   have e:S (12*n+x+1)=S (12*n+x)+c65 (12*n+x):=rfl
   by_cases h8:x<m%12
   ·right
    have:=d9c (show 12*n+x+1 <= m by omega)
    rw [if_pos (by simp;omega),j6 (n:=(x:Int)+1+1) (by omega) (by omega),j6 (n:=d-S (12*n+x)-c65 (12*n+x)) (by omega) (by omega)]
    have e3:d-S (12*n+x)-c65 (12*n+x)=d-S (12*n+x+1):=by rw [e];omega
    have e4:(x:Int)+1+1=((x+1:Nat):Int)+1:=by omega
    rw [e3,e4]
    exact ⟨_,rfl,⟨x+1,by rw [Nat.add_assoc],h8⟩,by simp only [];omega⟩
   ·left
    have hxm:12*n+x=m:=by omega
    have hx12:m%12=x:=by omega
    rw [hxm] at e hl hb2⊢
    rw [if_neg (by simp;omega),j6 (n:=d-S m+1) (by omega) (by omega)]
    exact ⟨_,rfl,by rw [hnm,hx12]⟩)
 rw [h3,h4]
theorem e7f {d:Int} {m:Nat} (hm:m<2400) (h1:S m <= d) (h2:d<S (m+1)):a70 d=some (m:Int):=by
 unfold a70
 rw [f1j hm h1 h2]
 simp only [Option.bind_some,Bool.not_true,Bool.false_eq_true,if_false]
 rw [j6 (n:=1900+((m/12:Nat):Int)-1900) (by omega) (by omega),j6 (n:=12*(1900+((m/12:Nat):Int)-1900)) (by omega) (by omega),j6 (n:=12*(1900+((m/12:Nat):Int)-1900)+(((m%12:Nat):Int)+1)) (by omega) (by omega),j6 (by omega) (by omega)]
 congr 1;omega
theorem d2h {d:Int} (hd: ¬(0 <= d /\ d <= 73048)):a70 d=some (-1):=by
 unfold a70 b07 a4h
 have e1:(decide (d >= 0)&&decide (d <= 73048))=false:=by
  rw [Bool.and_eq_false_iff,decide_eq_false_iff_not,decide_eq_false_iff_not];omega
 simp only [a8r,e1,Option.bind_some,Bool.not_false,if_true]
end Go.PL
namespace Go.PL
open Go Go.SX
def e3q (d:Int) (r:Int×Bool):Prop:=
 (r=(0,false) /\ (¬(0 <= d /\ d <= 73048) \/ S 2399<d)) \/ ∃m:Nat,m<2400 /\ r=((m:Int),true) /\ 0 <= d /\ d <= 73048 /\ d <= S m /\ (m=0 \/ S (m-1)<d)
theorem d72 (c:Claim): ∃r,a1j c=some r /\ e3q c.Day r:=by
 by_cases hd:0 <= c.Day /\ c.Day <= 73048
 ·have h24:=e65
  obtain ⟨m,hm,h1,h2⟩:=d88 2400 hd.1 (by omega)
  have e1: ¬(decide ((m:Int)<0))=true:=by simp
  unfold a1j
  rw [e7f hm h1 h2,Option.bind_some,if_neg e1,c8u hm,Option.bind_some]
  dsimp only
  rw [b7f,b7f]
  unfold b1v
  by_cases h3:S m<c.Day
  ·rw [if_pos (decide_eq_true h3),j6 (n:=(m:Int)+1) (by omega) (by omega)]
   by_cases h4:m=2399
   ·subst h4
    exact ⟨(0,false),rfl,.inl ⟨rfl,.inr h3⟩⟩
   ·have e2:decide ((m:Int)+1>2399)=false:=by rw [decide_eq_false_iff_not];omega
    have e3:(decide ((m:Int)+1 >= 0)&&decide ((m:Int)+1 <= 2399))=true:=by rw [Bool.and_eq_true];exact ⟨decide_eq_true (by omega),decide_eq_true (by omega)⟩
    simp only [e2,Bool.false_eq_true,if_false]
    exact ⟨_,rfl,.inr ⟨m+1,by omega,by simp,hd.1,hd.2,by omega,.inr (by simpa using h3)⟩⟩
  ·have e9: ¬(decide (S m<c.Day))=true:=by simpa using h3
   rw [if_neg e9]
   have e2:decide ((m:Int)>2399)=false:=by rw [decide_eq_false_iff_not];omega
   have hvm:(decide ((m:Int) >= 0)&&decide ((m:Int) <= 2399))=true:=by rw [Bool.and_eq_true];exact ⟨decide_eq_true (by omega),decide_eq_true (by omega)⟩
   simp only [e2,Bool.false_eq_true,if_false]
   refine ⟨_,rfl,.inr ⟨m,hm,rfl,hd.1,hd.2,by omega,?_⟩⟩
   by_cases h0:m=0
   ·exact .inl h0
   ·right
    have:=S_lt (show m-1<m by omega)
    omega
 ·unfold a1j
  rw [d2h hd]
  exact ⟨(0,false),rfl,.inl ⟨rfl,.inl hd⟩⟩
def b4s (c:Claim):Prop:=(0 <= c.Issuer /\ c.Issuer <= 5) /\ (1 <= c.Number /\ c.Number <= 999) /\ (1 <= c.Person /\ c.Person <= 99) /\
 (((c.Benefit=3 \/ c.Benefit=4) /\ 1 <= c.Ref /\ c.Ref <= 99 /\ c.Ref≠c.Person) \/ ((c.Benefit=1 \/ c.Benefit=2 \/ c.Benefit=5) /\ c.Ref=0))
instance (c:Claim):Decidable (b4s c):=by unfold b4s;infer_instance
theorem d5a (c:Claim): ∃r,a1j c=some r /\ a5m c=some (decide (b4s c)&&r.2):=by
 obtain ⟨r,h1,_⟩:=d72 c
 refine ⟨r,h1,?_⟩
 unfold a5m
 simp only [b7f,b3n,Option.bind_some]
 unfold b20
 simp only [b7f,b3n,Option.bind_some]
 unfold a8j
 simp only [b7f]
 unfold b1y
 rw [h1]
 simp only [Option.bind_some]
 by_cases a1:0 <= c.Issuer /\ c.Issuer <= 5 /\ 1 <= c.Number /\ c.Number <= 999 /\ 1 <= c.Person /\ c.Person <= 99
 ·rw [if_neg (by simp;omega)]
  by_cases b:c.Benefit=3 \/ c.Benefit=4
  ·by_cases a2:1 <= c.Ref /\ c.Ref <= 99 /\ c.Ref≠c.Person
   ·have hok:b4s c:=⟨⟨a1.1,a1.2.1⟩,⟨a1.2.2.1,a1.2.2.2.1⟩,⟨a1.2.2.2.2.1,a1.2.2.2.2.2⟩,.inl ⟨b,a2⟩⟩
    have e2:((decide (c.Ref<1)||decide (c.Ref>99))||(c.Ref==c.Person))=false:=by
     simp only [Bool.or_eq_false_iff,decide_eq_false_iff_not,beq_eq_false_iff_ne];exact ⟨⟨by omega,by omega⟩,a2.2.2⟩
    rcases b with b | b<;>simp [b,e2,hok]
   ·have hok: ¬b4s c:=by
     rintro ⟨_,_,_,h | h⟩
     ·exact a2 h.2
     ·omega
    have e2:((decide (c.Ref<1)||decide (c.Ref>99))||(c.Ref==c.Person))=true:=by
     simp only [Bool.or_eq_true,decide_eq_true_eq,beq_iff_eq];omega
    rcases b with b | b<;>simp [b,e2,hok]
  ·have b3:(c.Benefit==3)=false:=by simp;omega
   have b4:(c.Benefit==4)=false:=by simp;omega
   simp only [b3,b4,Bool.false_eq_true,if_false]
   by_cases b':c.Benefit=1 \/ c.Benefit=2 \/ c.Benefit=5
   ·by_cases a2:c.Ref=0
    ·have hok:b4s c:=⟨⟨a1.1,a1.2.1⟩,⟨a1.2.2.1,a1.2.2.2.1⟩,⟨a1.2.2.2.2.1,a1.2.2.2.2.2⟩,.inr ⟨b',a2⟩⟩
     rcases b' with b' | b' | b'<;>simp [b',a2,hok]
    ·have hok: ¬b4s c:=by
      rintro ⟨_,_,_,h | h⟩
      ·omega
      ·exact a2 h.2
     rcases b' with b' | b' | b'<;>simp [b',a2,hok]
   ·have hok: ¬b4s c:=by rintro ⟨_,_,_,h | h⟩<;>omega
    have b1:(c.Benefit==1)=false:=by simp;omega
    have b2:(c.Benefit==2)=false:=by simp;omega
    have b5:(c.Benefit==5)=false:=by simp;omega
    simp [b1,b2,b5,hok]
 ·have hok: ¬b4s c:=by rintro ⟨h1,h2,h3,_⟩;omega
  rw [if_pos (by simp;omega)]
  simp [hok]
def c0z (c:Claim):Prop:=b4s c /\ 35150 <= c.Day /\ c.Day <= 36049
theorem f3r:73000 <= S 2399:=by
 have h:=e65
 have:S 2400=S 2399+c65 2399:=rfl
 have:=b1w 2399
 omega
theorem e95 {c:Claim} (h:0 <= c.Day /\ c.Day <= 72000): ∃m,a1j c=some (m,true) /\ 0 <= m /\ m <= 2399:=by
 obtain ⟨r,h1,h2⟩:=d72 c
 have h3:=f3r
 rcases h2 with ⟨_,h2 | h2⟩ | ⟨m,hm,h2,_⟩
 ·omega
 ·omega
 ·subst h2;exact ⟨_,h1,by omega,by omega⟩
theorem e0y {c:Claim} (h:c0z c):a5m c=some true:=by
 obtain ⟨m,h1,_⟩:=e95 (c:=c) (by have:=h.2;omega)
 obtain ⟨r,h2,h3⟩:=d5a c
 rw [h1] at h2;cases h2
 rw [h3,decide_eq_true h.1];rfl
theorem e4n (d:List pensionhand_Claim):Tot (a7k d) fun r=>r.length <= 6 /\ ∀c∈r,c0z c:=by
 have h3: ∀n,b6 n 3=some (n%3):=fun n=>c7l (by decide) (by decide)
 have h9: ∀n,b6 n 9=some (n%9):=fun n=>c7l (by decide) (by decide)
 have h4: ∀n,b6 n 4=some (n%4):=fun n=>c7l (by decide) (by decide)
 have h5: ∀n,b6 n 5=some (n%5):=fun n=>c7l (by decide) (by decide)
 have h900: ∀n,b6 n 900=some (n%900):=fun n=>c7l (by decide) (by decide)
 unfold a7k
 refine Tot.loop (I:=fun v:List Claim×Int=>0 <= v.2 /\ v.2 <= 6 /\ (v.1.length:Int)=v.2 /\ ∀c∈v.1,c0z c) (μ:=fun v=>(6-v.2).toNat) ⟨Int.le_refl _,by show (0:Int) <= 6;omega,rfl,by simp⟩ (by show (6-0:Int).toNat<_;omega) ?_
 intro r v hI ih
 obtain ⟨g1,g2,g3,g4⟩:=hI
 unfold b2c
 rw [a8r,Option.bind_some]
 refine Tot.ite (fun hc=> ?_) fun _=>Tot.some ⟨by omega,g4⟩
 simp at hc
 have nx: ∀(c:Claim),c0z c -> Tot (Option.bind (a9h 48 v.1 [c]) fun a=>r (a,i64 (v.2+1))) fun r=>r.length <= 6 /\ ∀c∈r,c0z c:=fun c hc=>by
  refine Tot.bind (c07 (by simp;omega)) fun a ha=> ?_
  subst ha
  rw [b69 g1 (by omega)]
  refine ih _ ⟨by show 0 <= v.2+1;omega,by show v.2+1 <= 6;omega,by simp;omega,fun x hx=> ?_⟩ (by show (6-(v.2+1)).toNat<(6-v.2).toNat;omega)
  rcases List.mem_append.1 hx with hx | hx
  ·exact g4 x hx
  ·rw [List.mem_singleton.1 hx];exact hc
 obtain ⟨y,hg,_⟩:=b04 g1 (show v.2<(d.length:Int) by omega)
 simp only [hg,h3,h9,h4,h5,h900,b3n,Option.bind_some]
 rw [j6 (n:=1+y.Number%9) (by omega) (by omega),j6 (n:=1+y.Person%4) (by omega) (by omega),j6 (n:=1+y.Benefit%5) (by omega) (by omega),j6 (n:=35150+y.Day%900) (by omega) (by omega),
  j6 (n:=1+y.Ref%4) (by omega) (by omega),j6 (n:=1+(1+y.Person%4)%4) (by omega) (by omega)]
 split
 ·rename_i hb
  simp only [Bool.or_eq_true,beq_iff_eq] at hb
  split
  ·exact nx _ ⟨⟨⟨by simp only [];omega,by simp only [];omega⟩,⟨by simp only [];omega,by simp only [];omega⟩,⟨by simp only [];omega,by simp only [];omega⟩,.inl ⟨hb,by simp only [];omega,by simp only [];omega,by simp only [];omega⟩⟩,by simp only [];omega,by simp only [];omega⟩
  ·rename_i hr
   simp only [beq_iff_eq] at hr
   exact nx _ ⟨⟨⟨by simp only [];omega,by simp only [];omega⟩,⟨by simp only [];omega,by simp only [];omega⟩,⟨by simp only [];omega,by simp only [];omega⟩,.inl ⟨hb,by simp only [];omega,by simp only [];omega,hr⟩⟩,by simp only [];omega,by simp only [];omega⟩
 ·rename_i hb
  simp only [Bool.or_eq_true,beq_iff_eq,not_or] at hb
  exact nx _ ⟨⟨⟨by simp only [];omega,by simp only [];omega⟩,⟨by simp only [];omega,by simp only [];omega⟩,⟨by simp only [];omega,by simp only [];omega⟩,.inr ⟨by simp only [];omega,rfl⟩⟩,by simp only [];omega,by simp only [];omega⟩
theorem g0q (n:Int):Tot (b0a n) fun r=>r.length=6 /\ ∀c∈r,c0z c:=by
 unfold b0a
 rw [c7l (by decide) (by decide),Option.bind_some]
 have h:0 <= n%400 /\ n%400<400:=by omega
 generalize n%400=z at h
 rw [j6 (n:=35150+z) (by omega) (by omega)]
 refine Tot.some ⟨rfl,fun c hc=> ?_⟩
 simp only [List.mem_cons,List.not_mem_nil,or_false] at hc
 rcases hc with rfl | rfl | rfl | rfl | rfl | rfl<;>exact ⟨by unfold b4s;simp,by simp only [];omega,by simp only [];omega⟩
end Go.PL
namespace Go.PL
open Go Go.SX
theorem e74 {A T:List Claim} {x y:Claim}:a1c (a1c (A++y::x::T) ((A.length:Int)+1) y) (A.length:Int) x=A++x::y::T:=by
 have e1:((A.length:Int)+1).toNat=A.length+1:=by omega
 unfold a1c
 rw [if_pos (by omega),if_pos (by omega),e1,Int.toNat_natCast]
 rw [List.set_append_right _ _ (by omega),List.set_append_right _ _ (by omega)]
 simp
theorem d7t {A T:List Claim} {x:Claim}:c8 (A++x::T) (A.length:Int)=some x:=by
 rw [b5w];simp
theorem f5z {A T:List Claim} {x y:Claim}:a1c (A++y::x::T) ((A.length:Int)+1) y=A++y::y::T:=by
 have e1:((A.length:Int)+1).toNat=A.length+1:=by omega
 unfold a1c
 rw [if_pos (by omega),e1,List.set_append_right _ _ (by omega)]
 simp
def f6w (cmp:Claim -> Claim -> Option Int) (a1:Int) (r2:((List Claim)×Int) -> Option (List Claim)) (v1:(List Claim)×Int) (r4:((List Claim)×Int) -> Option (List Claim)) (v3:(List Claim)×Int):Option (List Claim):=
 (if (decide (v3.2>a1)) then (c8 v3.1 v3.2).bind fun v5=>(c8 v3.1 v3.2).bind fun v6=>(c8 v3.1 (i64 (v3.2-1))).bind fun v7=>(c8 v3.1 (i64 (v3.2-1))).bind fun v8=>(cmp v6 v8).bind fun v9=>some (decide (v9<0)) else some false).bind fun v10=>
 if v10 then (c8 v3.1 (i64 (v3.2-1))).bind fun v11=>(c8 v3.1 (i64 (v3.2-1))).bind fun v12=>(c8 v3.1 v3.2).bind fun v13=>(c8 v3.1 v3.2).bind fun v14=>(c8 v3.1 v3.2).bind fun v15=>(c8 v3.1 v3.2).bind fun v16=>
  (c8 (a1c v3.1 v3.2 v12) (i64 (v3.2-1))).bind fun v17=>(c8 (a1c v3.1 v3.2 v12) (i64 (v3.2-1))).bind fun v18=>r4 (a1c (a1c v3.1 v3.2 v12) (i64 (v3.2-1)) v14,i64 (v3.2-1))
 else r2 (v3.1,i64 (v1.2+1))
def e4a (cmp:Claim -> Claim -> Option Int) (a2:Int) (a1:Int) (r2:((List Claim)×Int) -> Option (List Claim)) (v1:(List Claim)×Int):Option (List Claim):=
 if (decide (v1.2<a2)) then d8 FU (f6w cmp a1 r2 v1) (v1.1,v1.2) else some v1.1
def g4a (cmp:Claim -> Claim -> Option Int) (a0:List Claim) (a1:Int) (a2:Int):Option (List Claim):=d8 FU (e4a cmp a2 a1) (a0,i64 (a1+1))
theorem d7s:q0=g4a a3x:=rfl
section
variable {c:Claim -> Claim -> Int} {cmp:Claim -> Claim -> Option Int} {S:Claim -> Prop}
structure Ordered (c:Claim -> Claim -> Int) (S:Claim -> Prop):Prop where
 asymm: ∀x y,S x -> S y -> c x y<0 -> ¬c y x<0
 trans: ∀x y z,S x -> S y -> S z -> ¬c y x<0 -> ¬c z y<0 -> ¬c z x<0
def Le (c:Claim -> Claim -> Int) (x y:Claim):Prop:= ¬c y x<0
theorem c8n (hO:Ordered c S) (hc: ∀x y,S x -> S y -> cmp x y=some (c x y)) (orig:List Claim) (hS: ∀x∈orig,S x) (hlen:orig.length <= 1000) (i:Nat) (rec:List Claim×Int -> Option (List Claim))
  (A:List Claim) (x:Claim) (C:List Claim) (hi:A.length=i) (hp:(A++x::C).Perm orig) (hs:A.Pairwise (Le c)):
  ∃A':List Claim,A'.length=i+1 /\ (A'++C).Perm orig /\ A'.Pairwise (Le c) /\
   d8 FU (f6w cmp 0 rec (A++x::C,(i:Int))) (A++x::C,(i:Int))=rec (A'++C,((i+1:Nat):Int)):=by
 have hil:i<1000:=by have:=hp.length_eq;simp at this;omega
 refine c47 (fun s=> ∃(A1 B:List Claim),s=(A1++x::(B++C),(A1.length:Int)) /\ A1.length+B.length=i /\ (A1++x::(B++C)).Perm orig /\ (A1++B).Pairwise (Le c) /\ ∀b∈B,Le c x b) (fun s=>s.2.toNat)
  (fun o=> ∃A':List Claim,A'.length=i+1 /\ (A'++C).Perm orig /\ A'.Pairwise (Le c) /\ o=rec (A'++C,((i+1:Nat):Int))) ⟨A,[],by simp [hi],by simpa using hi,by simpa using hp,by simpa using hs,by simp⟩ (by show ((i:Int)).toNat<_;omega) ?_
 rintro s rec2 ⟨A1,B,rfl,hl,hp1,hs1,hb⟩
 have hmem: ∀y∈A1++x::(B++C),S y:=fun y hy=>hS y (hp1.subset hy)
 have hSx:S x:=hmem x (by simp)
 have stop: ∀o:Option (List Claim),o=rec (A1++x::(B++C),i64 ((i:Int)+1)) -> (∀a∈A1,Le c a x) ->
   ∃A':List Claim,A'.length=i+1 /\ (A'++C).Perm orig /\ A'.Pairwise (Le c) /\ o=rec (A'++C,((i+1:Nat):Int)):=by
  intro o ho ha
  refine ⟨A1++x::B,by simp;omega,by simpa using hp1,?_,?_⟩
  ·rw [List.pairwise_append] at hs1⊢
   refine ⟨hs1.1,List.pairwise_cons.2 ⟨hb,hs1.2.1⟩,fun a h1 b h2=> ?_⟩
   rcases List.mem_cons.1 h2 with h2 | h2
   ·rw [h2];exact ha a h1
   ·exact hs1.2.2 a h1 b h2
  ·rw [ho,j6 (by omega) (by omega)];simp
 unfold f6w
 rcases List.eq_nil_or_concat A1 with h0 | ⟨A2,y,h0⟩
 ·subst h0
  left
  have:decide ((([]:List Claim).length:Int)>(0:Int))=false:=by simp
  simp only [this,Bool.false_eq_true,if_false,Option.bind_some]
  exact stop _ rfl (by simp)
 ·have h0:A1=A2++[y]:=by simpa using h0
  subst h0
  have e0:(((A2++[y]).length:Nat):Int)=(A2.length:Int)+1:=by simp
  have hd:decide ((((A2++[y]).length:Nat):Int)>(0:Int))=true:=by rw [e0,decide_eq_true_eq];omega
  have hA2:A2.length<1000:=by simp at hl;omega
  have e1:i64 ((((A2++[y]).length:Nat):Int)-1)=(A2.length:Int):=by rw [e0,j6 (by omega) (by omega)];omega
  have eL:A2++[y]++x::(B++C)=A2++y::x::(B++C):=by simp
  have g1:c8 (A2++[y]++x::(B++C)) (((A2++[y]).length:Nat):Int)=some x:=d7t
  have g2:c8 (A2++[y]++x::(B++C)) (A2.length:Int)=some y:=by rw [eL];exact d7t
  have g3:c8 (a1c (A2++[y]++x::(B++C)) (((A2++[y]).length:Nat):Int) y) (A2.length:Int)=some y:=by rw [eL,e0,f5z];exact d7t
  have hSy:S y:=hmem y (by simp)
  simp only [hd,if_true,g1,e1,g2,g3,hc x y hSx hSy,Option.bind_some]
  by_cases hlt:c x y<0
  ·right
   simp only [hlt,decide_true,if_true]
   refine ⟨_,rfl,⟨A2,y::B,?_,by simp at hl ⊢; omega,?_,by simpa using hs1,?_⟩,by simp only [e0,Int.toNat_natCast];omega⟩
   ·rw [eL,e0,e74];simp
   ·refine List.Perm.trans ?_ hp1
    rw [eL]
    exact List.Perm.append_left A2 (List.Perm.swap y x (B++C))
   ·intro b hbm
    rcases List.mem_cons.1 hbm with hbm | hbm
    ·rw [hbm];exact hO.asymm x y hSx hSy hlt
    ·exact hb b hbm
  ·left
   simp only [hlt,decide_false,Bool.false_eq_true,if_false]
   refine stop _ rfl (fun a ha=> ?_)
   rw [List.mem_append,List.mem_singleton] at ha
   rcases ha with ha | ha
   ·have hay:Le c a y:=by
     rw [List.append_assoc,List.pairwise_append] at hs1
     exact hs1.2.2 a ha y (by simp)
    exact hO.trans a y x (hmem a (by simp [ha])) hSy hSx hay hlt
   ·rw [ha];exact hlt
theorem d40 (hO:Ordered c S) (hc: ∀x y,S x -> S y -> cmp x y=some (c x y)) (orig:List Claim) (hS: ∀x∈orig,S x) (hlen:orig.length <= 1000):
  ∃r,g4a cmp orig 0 (orig.length:Int)=some r /\ r.Perm orig /\ r.Pairwise (Le c):=by
 unfold g4a
 by_cases hne:orig=[]
 ·subst hne
  refine ⟨[],?_,List.Perm.refl _,List.Pairwise.nil⟩
  have: ∀k,0<k -> d8 k (e4a cmp (([]:List Claim).length:Int) 0) ([],i64 (0+1))=some []:=by
   intro k hk
   cases k with
   | zero=>exact absurd hk (Nat.lt_irrefl 0)
   | succ k=>show e4a _ _ _ _ _=_;unfold e4a;dsimp only;rw [if_neg (by rw [j6 (by omega) (by omega)];simp)]
  exact this FU (by unfold FU;omega)
 have hpos:0<orig.length:=List.length_pos_iff.2 hne
 have e1:i64 (0+1)=((1:Nat):Int):=by rw [j6 (by omega) (by omega)];rfl
 rw [e1]
 refine b5o (fun s=> ∃(A C:List Claim),s=(A++C,(A.length:Int)) /\ 1 <= A.length /\ (A++C).Perm orig /\ A.Pairwise (Le c)) (fun s=>orig.length-s.2.toNat) _ ?_ (by show orig.length-_<_;omega) ?_
 ·cases orig with
  | nil=>exact absurd rfl hne
  | cons x r=>exact ⟨[x],r,rfl,by simp,List.Perm.refl _,List.pairwise_singleton _ _⟩
 ·rintro s rec ⟨A,C,rfl,hA,hp,hs⟩
  unfold e4a
  dsimp only
  have hle:=hp.length_eq
  rw [List.length_append] at hle
  cases C with
  | nil=>
    left
    rw [if_neg (by simp at hle ⊢; omega)]
    exact ⟨A++[],rfl,hp,by simpa using hs⟩
  | cons x C=>
    right
    rw [List.length_cons] at hle
    rw [if_pos (by simp;omega)]
    obtain ⟨A',h1,h2,h3,h4⟩:=c8n hO hc orig hS hlen A.length rec A x C rfl hp hs
    refine ⟨_,h4,⟨A',C,by rw [h1],by omega,h2,h3⟩,by simp only [Int.toNat_natCast];omega⟩
end
def sgn (p q:Int):Int:=if p<q then-1 else if q<p then 1 else 0
theorem d68 (x y:Int):k6 x y=some (sgn x y):=by
 unfold k6 a3t sgn
 simp only [bne_self_eq_false,Option.bind_some,Bool.false_eq_true,if_false,decide_eq_true_eq,gt_iff_lt]
 split
 ·rfl
 ·split<;>rfl
def orI:List Int -> Int
 | []=>0
 | x::r=>if x=0 then orI r else x
theorem f7c (p q:Int):sgn p q<0↔p<q:=by
 unfold sgn;split
 ·omega
 ·split<;>omega
theorem f0w (p q:Int):sgn p q=0↔p=q:=by
 unfold sgn;split
 ·omega
 ·split<;>omega
theorem e9y (x:Int) (r:List Int):orI (x::r)<0↔x<0 \/ x=0 /\ orI r<0:=by
 simp only [orI];split<;>omega
def d2n (a b:Claim):Int:=orI [sgn a.Issuer b.Issuer,sgn a.Number b.Number,sgn a.Day b.Day,sgn a.Person b.Person,sgn a.Benefit b.Benefit,sgn a.Ref b.Ref]
theorem b7k (a b:Claim):d2n a b<0↔a.Issuer<b.Issuer \/ a.Issuer=b.Issuer /\ (a.Number<b.Number \/ a.Number=b.Number /\ (a.Day<b.Day \/ a.Day=b.Day /\ (a.Person<b.Person \/ a.Person=b.Person /\ (a.Benefit<b.Benefit \/ a.Benefit=b.Benefit /\ a.Ref<b.Ref)))):=by
 unfold d2n
 simp only [e9y,f7c,f0w]
 simp [orI]
theorem d3n {a b:Claim} (h1:a.Issuer=b.Issuer) (h2:a.Number=b.Number) (h3:a.Person=b.Person) (h4:a.Benefit=b.Benefit) (h5:a.Ref=b.Ref) (h6:a.Day=b.Day):a=b:=by
 cases a;cases b;simp_all
theorem e7i {a b:Claim} (h1: ¬d2n a b<0) (h2: ¬d2n b a<0):a=b:=by
 rw [b7k] at h1 h2
 exact d3n (by omega) (by omega) (by omega) (by omega) (by omega) (by omega)
theorem e0x {a b c:Claim} (h1:d2n a b<0) (h2:d2n b c<0):d2n a c<0:=by
 rw [b7k] at *; omega
theorem d5k (S:Claim -> Prop):Ordered d2n S:=by
 constructor
 ·intro x y _ _;rw [b7k,b7k];omega
 ·intro x y z _ _ _;rw [b7k,b7k,b7k];omega
theorem g4u (l:List Int) (hl:l.length <= 1000):a3c l=some (orI l):=by
 unfold a3c
 obtain ⟨r,h1,h2⟩:=b5o (f:=a55 l) (fun s=> ∃A B,l=A++B /\ s=(A.length:Int) /\ orI l=orI B) (fun s=>l.length-s.toNat) (fun r=>r=orI l) (s:=0) ⟨[],l,rfl,rfl,rfl⟩ (by show l.length-_<_;omega) (by
  rintro s rec ⟨A,B,hAB,rfl,ho⟩
  unfold a55
  have hlen:l.length=A.length+B.length:=by rw [hAB];simp
  cases B with
  | nil=>
    left
    rw [if_neg (by simp at hlen ⊢; omega)]
    exact ⟨_,rfl,by rw [ho];rfl⟩
  | cons y B=>
    rw [List.length_cons] at hlen
    have hg:c8 l (A.length:Int)=some y:=by rw [hAB,b5w];simp
    rw [if_pos (by simp;omega),hg,Option.bind_some]
    by_cases hy:y=0
    ·right
     rw [if_neg (by simp [hy]),j6 (n:=(A.length:Int)+1) (by omega) (by omega)]
     exact ⟨((A++[y]).length:Int),by simp,⟨A++[y],B,by rw [hAB];simp,rfl,by rw [ho,hy];rfl⟩,by simp;omega⟩
    ·left
     rw [if_pos (by simpa using hy)]
     exact ⟨_,rfl,by rw [ho];simp [orI,hy]⟩)
 rw [h1,h2]
theorem d6s (a b:Claim):a3x a b=some (d2n a b):=by
 unfold a3x
 simp only [d68,Option.bind_some]
 rw [g4u _ (by simp)];rfl
def eqF (a b:Claim):Bool:=(a.Issuer==b.Issuer)&&((a.Number==b.Number)&&((a.Person==b.Person)&&((a.Benefit==b.Benefit)&&((a.Ref==b.Ref)&&((a.Day==b.Day)&&(true))))))
theorem e49 (a b:Claim):eqF a b=true↔a=b:=by
 unfold eqF
 simp only [Bool.and_eq_true,beq_iff_eq,Bool.and_true]
 constructor
 ·rintro ⟨h1,h2,h3,h4,h5,h6⟩;exact d3n h1 h2 h3 h4 h5 h6
 ·rintro rfl;simp
instance:DecidableEq Claim:=fun a b=>decidable_of_iff _ (e49 a b)
theorem e3i (a b:Claim):((a.Issuer==b.Issuer)&&((a.Number==b.Number)&&((a.Person==b.Person)&&((a.Benefit==b.Benefit)&&((a.Ref==b.Ref)&&((a.Day==b.Day)&&(true)))))))=decide (a=b):=by
 rw [Bool.eq_iff_iff,decide_eq_true_eq];exact e49 a b
def ddF (p:Claim):List Claim -> List Claim
 | []=>[]
 | y::r=>if y=p then ddF p r else y::ddF y r
def dd:List Claim -> List Claim
 | []=>[]
 | x::r=>x::ddF x r
theorem d1e: ∀(A:List Claim) (p y z:Claim),ddF p (A++[y,z])=if z=y then ddF p (A++[y]) else ddF p (A++[y])++[z]
 | [],p,y,z=>by
   simp only [List.nil_append,ddF]
   by_cases h1:y=p<;>by_cases h2:z=y<;>simp_all
 | x::A,p,y,z=>by
   simp only [List.cons_append,ddF]
   split
   ·exact d1e A p y z
   ·rw [d1e A x y z];split<;>simp
theorem f8v (A:List Claim) (y z:Claim):dd (A++[y,z])=if z=y then dd (A++[y]) else dd (A++[y])++[z]:=by
 cases A with
 | nil=>simp only [List.nil_append,dd,ddF];split<;>simp
 | cons x A=>simp only [List.cons_append,dd];rw [d1e];split<;>simp
theorem e6u {l:List Claim} {m:Nat} (h0:0<m) {y z:Claim} (hy:l[m-1]? =some y) (hz:l[m]? =some z):dd (l.take (m+1))=if z=y then dd (l.take m) else dd (l.take m)++[z]:=by
 obtain ⟨hm,hz'⟩:=List.getElem?_eq_some_iff.1 hz
 obtain ⟨hm1,hy'⟩:=List.getElem?_eq_some_iff.1 hy
 have e1:l.take m=l.take (m-1)++[y]:=by
  have:=List.take_succ_eq_append_getElem (l:=l) (i:=m-1) hm1
  rw [show m-1+1=m by omega,hy'] at this
  exact this
 have e2:l.take (m+1)=l.take (m-1)++[y,z]:=by
  rw [List.take_succ_eq_append_getElem hm,hz',e1];simp
 rw [e2,e1,f8v]
theorem d67: ∀(r:List Claim) (p x:Claim),x∈p::ddF p r↔x∈p::r
 | [],p,x=>Iff.rfl
 | y::r,p,x=>by
   simp only [ddF]
   split
   ·rename_i h
    rw [d67 r p x,h];simp
   ·have:=d67 r y x
    simp only [List.mem_cons] at this⊢
    constructor
    ·rintro (h | h)
     ·exact .inl h
     ·exact .inr (this.1 h)
    ·rintro (h | h)
     ·exact .inl h
     ·exact .inr (this.2 h)
theorem g16 (l:List Claim) (x:Claim):x∈dd l↔x∈l:=by
 cases l with
 | nil=>exact Iff.rfl
 | cons y r=>exact d67 r y x
theorem c4b: ∀(r:List Claim) (p:Claim),(p::r).Pairwise (Le d2n) -> (p::ddF p r).Pairwise (fun a b=>d2n a b<0)
 | [],p,_=>List.pairwise_singleton _ _
 | y::r,p,h=>by
   obtain ⟨h1,h2⟩:=List.pairwise_cons.1 h
   simp only [ddF]
   split
   ·rename_i hy
    subst hy
    exact c4b r y h2
   ·rename_i hy
    have h3:=c4b r y h2
    have hpy:d2n p y<0:=by
     by_cases h4:d2n p y<0
     ·exact h4
     ·exact absurd (e7i h4 (h1 y (by simp))).symm hy
    refine List.pairwise_cons.2 ⟨fun b hb=> ?_,h3⟩
    rcases List.mem_cons.1 hb with hb | hb
    ·rw [hb];exact hpy
    ·exact e0x hpy ((List.pairwise_cons.1 h3).1 b hb)
theorem e4z {l:List Claim} (h:l.Pairwise (Le d2n)):(dd l).Pairwise (fun a b=>d2n a b<0):=by
 cases l with
 | nil=>exact List.Pairwise.nil
 | cons y r=>exact c4b r y h
theorem d1o (l:List Claim) (hl:l.length <= 1000) (k:Nat) (hk1:1 <= k) (h:k<l.length) (htk:dd (l.take (k+1))=l.take k) (m:Nat) (hsl:m=l.length-k):
  ∃r,d8 FU a08 (l,(k:Int),1,((k:Int),m))=some r /\ r=dd l:=by
 refine b5o (f:=a08) (fun s=> ∃(k3 k2:Nat) (cur:List Claim),s=(cur,(k3:Int),(k2:Int),((k:Int),m)) /\ 1 <= k2 /\ k+k2 <= l.length /\ k <= k3 /\ k3+1 <= k+k2 /\ cur.length=l.length /\ cur.take k3=dd (l.take (k+k2)) /\ ∀j,k+k2-1 <= j -> cur[j]? =l[j]?)
  (fun s=>l.length-s.2.2.1.toNat) _ ⟨k,1,l,rfl,by omega,by omega,by omega,by omega,rfl,htk.symm,fun _ _=>rfl⟩ (by show l.length-_<_;omega) ?_
 rintro s rec2 ⟨k3,k2,cur,rfl,a1,a2,a3,a4,hcl,hct,hcj⟩
 unfold a08
 dsimp only
 by_cases hlt:k+k2<l.length
 ·right
  have hz2:l[k+k2]? =some l[k+k2]:=List.getElem?_eq_getElem hlt
  have hy2:l[k+k2-1]? =some l[k+k2-1]:=List.getElem?_eq_getElem (by omega)
  have w1:c8 cur ((k:Int)+(k2:Int))=some l[k+k2]:=by rw [<- Int.natCast_add,b5w,hcj _ (by omega),hz2]
  have v1:c1h cur (k:Int) (k2:Int)=some l[k+k2]:=by unfold c1h;rw [if_pos (by omega),w1]
  have e2:i64 ((k2:Int)-1)=((k2-1:Nat):Int):=by rw [j6 (by omega) (by omega)];omega
  have w2:c8 cur ((k:Int)+((k2-1:Nat):Int))=some l[k+k2-1]:=by rw [<- Int.natCast_add,b5w,show k+(k2-1)=k+k2-1 by omega,hcj _ (Nat.le_refl _),hy2]
  have v2:c1h cur (k:Int) ((k2-1:Nat):Int)=some l[k+k2-1]:=by unfold c1h;rw [if_pos (by omega),w2]
  have v3:c8 cur (k3:Int)=some (cur[k3]'(by omega)):=by rw [b5w];exact List.getElem?_eq_getElem _
  have ht2:=e6u (by omega) hy2 hz2
  have e3:i64 ((k2:Int)+1)=((k2+1:Nat):Int):=by rw [j6 (by omega) (by omega)];simp
  have e4:i64 ((k3:Int)+1)=((k3+1:Nat):Int):=by rw [j6 (by omega) (by omega)];simp
  have hd0:decide ((k2:Int)<(m:Int))=true:=decide_eq_true (by omega)
  simp only [hd0,if_true,v1,w1,e2,v2,w2,Option.bind_some,e3i,v3,e3,e4]
  by_cases hq:l[k+k2]=l[k+k2-1]
  ·rw [if_neg (by simpa using hq)]
   rw [if_pos hq] at ht2
   exact ⟨_,rfl,⟨k3,k2+1,cur,rfl,by omega,by omega,a3,by omega,hcl,by rw [hct,<- ht2];rfl,fun j hj=>hcj j (by omega)⟩,by simp only [Int.toNat_natCast];omega⟩
  ·rw [if_pos (by simpa using hq)]
   rw [if_neg hq] at ht2
   refine ⟨_,rfl,⟨k3+1,k2+1,a1c cur (k3:Int) l[k+k2],rfl,by omega,by omega,by omega,by omega,by rw [c6w];exact hcl,?_,fun j hj=> ?_⟩,by simp only [Int.toNat_natCast];omega⟩
   ·have:a1c cur (k3:Int) l[k+k2]=cur.set k3 l[k+k2]:=by unfold a1c;rw [if_pos (by omega),Int.toNat_natCast]
    rw [this,List.take_succ_eq_append_getElem (by rw [List.length_set];omega)]
    have h5:(cur.set k3 l[k+k2]).take k3=cur.take k3:=by rw [List.take_set,List.set_eq_of_length_le (by rw [List.length_take];omega)]
    rw [h5,hct,show k+(k2+1)=k+k2+1 by omega,ht2]
    simp
   ·have:a1c cur (k3:Int) l[k+k2]=cur.set k3 l[k+k2]:=by unfold a1c;rw [if_pos (by omega),Int.toNat_natCast]
    rw [this,List.getElem?_set_ne (by omega)]
    exact hcj j (by omega)
 ·left
  have hd0:decide ((k2:Int)<(m:Int))=false:=decide_eq_false (by omega)
  simp only [hd0,Bool.false_eq_true,if_false]
  have hcc:(b2l (⟨0,0,0,0,0,0⟩:Claim) cur (k3:Int)).length=cur.length:=by unfold b2l;simp;omega
  rw [b6u (by omega) (by omega) (by omega),Option.bind_some]
  unfold f9m
  rw [if_pos (by simp;omega),Option.bind_some,b6u (by omega) (by omega) (by rw [hcc];omega),Option.bind_some]
  refine ⟨_,rfl,?_⟩
  have hkk:k+k2=l.length:=by omega
  rw [hkk,List.take_length] at hct
  rw [<- hct]
  unfold b2l
  simp only [Int.toNat_natCast,Int.toNat_zero,List.drop_zero,Nat.sub_zero]
  rw [List.take_append_of_le_length (by rw [List.length_take];omega),List.take_take,Nat.min_self]
theorem d4v (l:List Claim) (hl:l.length <= 1000) (rec:List Claim×Int -> Option (List Claim)) (k:Nat) (hk1:1 <= k) (h:k<l.length):
  w7 rec (l,(k:Int))=if l[k]=l[k-1] then d8 FU a08 (l,(k:Int),1,((k:Int),((l.drop k).take (l.length-k)).length)) else rec (l,((k+1:Nat):Int)):=by
 have hz:c8 l (k:Int)=some l[k]:=by rw [b5w];exact List.getElem?_eq_getElem h
 have e1:i64 ((k:Int)-1)=((k-1:Nat):Int):=by rw [j6 (by omega) (by omega)];omega
 have hy:c8 l (i64 ((k:Int)-1))=some l[k-1]:=by rw [e1,b5w];exact List.getElem?_eq_getElem (by omega)
 have hs:a1q l (k:Int) (l.length:Int)=some ((l.drop k).take (l.length-k)):=by rw [b6u (by omega) (by omega) (by omega)];simp
 have e2:i64 ((k:Int)+1)=((k+1:Nat):Int):=by rw [j6 (by omega) (by omega)];simp
 have hd0:decide ((k:Int)<(l.length:Int))=true:=decide_eq_true (by omega)
 unfold w7
 generalize d8 FU=LP
 simp only [hd0,if_true,hz,hy,hs,e2,Option.bind_some,e3i,decide_eq_true_eq]
theorem d76 (l:List Claim) (rec:List Claim×Int -> Option (List Claim)):w7 rec (l,(l.length:Int))=some l:=by
 have hd0:decide ((l.length:Int)<(l.length:Int))=false:=decide_eq_false (by omega)
 unfold w7
 generalize d8 FU=LP
 simp only [hd0,Bool.false_eq_true,if_false]
theorem e1f (l:List Claim) (hl:l.length <= 1000):a28 l=some (dd l):=by
 unfold a28
 by_cases h2:l.length<2
 ·rw [if_pos (by simp;omega)]
  cases l with
  | nil=>rfl
  | cons x r=>
    cases r with
    | nil=>rfl
    | cons y r=>exact absurd h2 (by simp)
 ·rw [if_neg (by simp;omega)]
  obtain ⟨r,h1,h3⟩:=b5o (f:=w7) (fun s=> ∃k:Nat,s=(l,(k:Int)) /\ 1 <= k /\ k <= l.length /\ dd (l.take k)=l.take k) (fun s=>l.length-s.2.toNat) (fun r=>r=dd l) (s:=(l,1)) ⟨1,rfl,by omega,by omega,by
    cases l with
    | nil=>rfl
    | cons x r=>rfl⟩ (Nat.lt_of_le_of_lt (Nat.sub_le _ _) (Nat.lt_of_le_of_lt hl (by decide))) (by
   rintro s rec ⟨k,rfl,hk1,hk,hd⟩
   by_cases h:k<l.length
   ·have htk:=e6u (l:=l) (m:=k) (by omega) (List.getElem?_eq_getElem (by omega)) (List.getElem?_eq_getElem h)
    rw [d4v l hl rec k hk1 h]
    by_cases heq:l[k]=l[k-1]
    ·left
     rw [if_pos heq]
     rw [if_pos heq,hd] at htk
     exact d1o l hl k hk1 h htk _ (by rw [List.length_take,List.length_drop];omega)
    ·right
     rw [if_neg heq]
     rw [if_neg heq,hd] at htk
     refine ⟨_,rfl,⟨k+1,rfl,by omega,h,?_⟩,by simp only [Int.toNat_natCast];omega⟩
     rw [htk,List.take_succ_eq_append_getElem h]
   ·left
    have:k=l.length:=by omega
    subst this
    rw [d76]
    rw [List.take_length] at hd
    exact ⟨l,rfl,hd.symm⟩)
  rw [h1,h3]
def vB (c:Claim):Bool:=(a5m c).getD false
theorem g60 (c:Claim):a5m c=some (vB c):=by
 obtain ⟨r,_,h⟩:=d5a c
 unfold vB;rw [h];rfl
theorem f8o {c:Claim} (h:c0z c):vB c=true:=by unfold vB;rw [e0y h];rfl
def d8n:Nat -> Bool
 | 0=>true
 | n+1=>(c0j (u64 (n:Int))).isSome&&d8n n
theorem e32:d8n 13=true:=by kernel_rfl
theorem d42: ∀(k n:Nat),d8n k=true -> n<k -> (c0j (u64 (n:Int))).isSome=true
 | 0,n,_,h=>by omega
 | k+1,n,h,hn=>by
   simp only [d8n,Bool.and_eq_true] at h
   by_cases e:n=k
   ·rw [e];exact h.1
   ·exact d42 k n h.2 (by omega)
theorem d5l (l:List Claim) (hl:l.length <= 12) (r:List Claim) (h1:g4a a3x l 0 (l.length:Int)=some r):m5 l=some r:=by
 rw [<- d7s] at h1
 obtain ⟨n,hn⟩:=Option.isSome_iff_exists.1 (d42 13 l.length e32 (by omega))
 unfold m5 a0o
 rw [hn,Option.bind_some]
 have key: ∀k,0<k -> ((c9 k).f_slices_pdqsortCmpFunc_of_api_Claim l 0 (l.length:Int) n)=some r:=by
  intro k hk
  cases k with
  | zero=>exact absurd hk (Nat.lt_irrefl 0)
  | succ k=>
    show m6 _ _ _ _ _=_
    unfold m6
    generalize c9 k=R
    have key2: ∀k,0<k -> d8 k (m4 R) (l,0,(l.length:Int),n,true,true)=some r:=by
     intro k hk
     cases k with
     | zero=>exact absurd hk (Nat.lt_irrefl 0)
     | succ k=>
       show m4 _ _ _=_
       unfold m4
       dsimp only
       rw [j6 (by omega) (by omega),if_pos (by simp;omega),h1,Option.bind_some]
    exact key2 FU (by unfold FU;omega)
 rw [key FU (by unfold FU;omega),Option.bind_some]
theorem d7c (l:List Claim) (hl:l.length <= 12): ∃r,m5 l=some r /\ r.Perm l /\ r.Pairwise (Le d2n):=by
 obtain ⟨r,h1,h2,h3⟩:=d40 (c:=d2n) (S:=fun _=>True) (cmp:=a3x) (d5k _) (fun x y _ _=>d6s x y) l (fun _ _=>trivial) (by omega)
 exact ⟨r,d5l l hl r h1,h2,h3⟩
theorem f9g: ∀(r:List Claim) (p:Claim),(ddF p r).length <= r.length:=by
 intro r
 induction r with
 | nil=>intro p;exact Nat.le_refl _
 | cons y r ih=>
   intro p;simp only [ddF];split
   ·exact Nat.le_succ_of_le (ih p)
   ·simp only [List.length_cons];exact Nat.succ_le_succ (ih y)
theorem g3k (s:List Claim):(dd s).length <= s.length:=by
 cases s with
 | nil=>simp [dd]
 | cons x r=>have:=f9g r x;simp only [dd,List.length_cons] at *; omega
theorem e4w (l:List Claim) (hl:l.length <= 12) (hok: ∀c∈l,c0z c): ∃q,b0q l=some q /\ q.Pairwise (fun a b=>d2n a b<0) /\ (∀c,c∈q↔c∈l) /\ q.length <= 12:=by
 obtain ⟨r,h1,h2,h3⟩:=d7c l hl
 have hr:r.length=l.length:=h2.length_eq
 refine ⟨dd r,?_,e4z h3,fun c=>by rw [g16,h2.mem_iff],by have:=g3k r;omega⟩
 unfold b0q
 refine b9s (f:=a7n l) l (fun s i=>(s,i)) (fun s i=>s=l.take i) (fun o=>o=some (dd r)) (by omega) ?_ ?_ [] (by simp)
 ·rintro rec s i y hi hy rfl
  right
  unfold a7n
  rw [if_pos (f2o hi)]
  simp only [c76 hy,Option.bind_some,g60,f8o (hok y (List.mem_of_getElem? hy)),if_true]
  rw [b1t (by simp only [List.length_cons,List.length_nil,List.length_take];omega),Option.bind_some,c42 (by omega)]
  exact ⟨_,rfl,(d22 hy).symm⟩
 ·rintro rec s rfl
  unfold a7n
  dsimp only
  rw [if_neg (e66 _),List.take_length,h1,Option.bind_some,e1f r (by omega),Option.bind_some]
end Go.PL
namespace Go.PL
open Go Go.SX
inductive Tk where
 | w (s:ByteArray)
 | s (s:ByteArray)
 | n (v:Fraction) (d:Int)
 | d (day:Int)
def a48 (s:ByteArray):Bool:=match s.toList with | c::_=> !(48 <= c.toNat&&c.toNat <= 57)&& !c.toNat==64 | []=>false
def TkR (t:Token):Tk -> Prop
 | .w x=>t.Kind=1 /\ t.Text=x
 | .s x=>t.Kind=4 /\ t.Text=x
 | .n v d=>t.Kind=2 /\ w6 t.Text=some (v,d,true) /\ a48 t.Text=false
 | .d day=>t.Kind=3 /\ a5z t.Text=some day /\ a48 t.Text=false
def isT (t:Tk) (s:ByteArray):Bool:=match t with | .w x=>x.toList==s.toList | .s x=>x.toList==s.toList | _=>false
def kdT:Tk -> Int | .w _=>1 | .s _=>4 | .n _ _=>2 | .d _=>3
structure RdrA (r:pensionref5_reader) (ts:List Tk):Prop where
 bad:r.bad=false
 nn:0 <= r.at_
 len:r.l.length <= 8000
 all:p9 TkR (r.l.drop r.at_.toNat) ts
def adv (r:pensionref5_reader):pensionref5_reader:=⟨r.l,r.at_+1,r.end_,r.bad⟩
section
variable {r:pensionref5_reader} {t:Tk} {ts:List Tk} {s:ByteArray}
theorem RdrA.cons (h:RdrA r (t::ts)): ∃x,c8 r.l r.at_=some x /\ TkR x t /\ r.at_<(r.l.length:Int) /\ RdrA (adv r) ts /\ i64 (r.at_+1)=r.at_+1:=by
 obtain ⟨h1,h2,h3,h4⟩:=h
 cases hd:r.l.drop r.at_.toNat with
 | nil=>rw [hd] at h4;exact h4.elim
 | cons x rest=>
   rw [hd] at h4
   have hlt:r.at_.toNat<r.l.length:=by
    have:=congrArg List.length hd
    simp at this;omega
   have hx:r.l[r.at_.toNat]? =some x:=by
    have:=congrArg List.head? hd
    simpa [List.head?_drop] using this
   refine ⟨x,e7x h2 hx,h4.1,by omega,⟨h1,by show 0 <= r.at_+1;omega,h3,?_⟩,b69 h2 (by omega)⟩
   show p9 TkR (r.l.drop (r.at_+1).toNat) ts
   rw [show (r.at_+1).toNat=r.at_.toNat+1 by omega,<- List.drop_drop,hd]
   exact h4.2
theorem TkR.eq {x:Token} (h:TkR x t) (hs:a48 s=true):(x.Text.toList==s.toList)=isT t s:=by
 have no:a48 x.Text=false -> (x.Text.toList==s.toList)=false:=fun hw=>by
  cases he:(x.Text.toList==s.toList) with
  | false=>rfl
  | true=>
    have he:=eq_of_beq he
    unfold a48 at hw hs
    rw [he,hs] at hw
    cases hw
 cases t with
 | w y=>rw [h.2];rfl
 | s y=>rw [h.2];rfl
 | n v d=>exact no h.2.2
 | d day=>exact no h.2.2
theorem TkR.kd {x:Token} (h:TkR x t):x.Kind=kdT t:=by cases t<;>exact h.1
theorem e5p (h:RdrA r (t::ts)) (hs:a48 s=true):a09 r s=some (isT t s):=by
 obtain ⟨x,hx,hk,hlt,_,_⟩:=h.cons
 unfold a09
 rw [h.bad]
 simp only [Bool.not_false,if_true,Option.bind_some,decide_eq_true hlt,hx,hk.eq hs]
theorem b64 (h:RdrA r (t::ts)) (k:Int):u5 r k=some (kdT t==k):=by
 obtain ⟨x,hx,hk,hlt,_,_⟩:=h.cons
 unfold u5
 rw [h.bad]
 simp only [Bool.not_false,if_true,Option.bind_some,decide_eq_true hlt,hx,hk.kd]
theorem b4p (h:RdrA r (t::ts)) (hs:a48 s=true):g8 r s=some (isT t s,if isT t s then adv r else r):=by
 obtain ⟨x,hx,hk,hlt,_,hi⟩:=h.cons
 unfold g8
 rw [e5p h hs,Option.bind_some]
 cases hb:isT t s with
 | true=>rw [hi];rfl
 | false=>rfl
theorem d65 (h:RdrA r (t::ts)) (hs:a48 s=true) (ht:isT t s=true):c6 r s=some (adv r):=by
 unfold c6
 rw [b4p h hs,Option.bind_some,ht]
 rfl
theorem d71 {x:ByteArray} (h:RdrA r (.w x::ts)) (hn:u9 x=some true):a1a r=some (x,adv r):=by
 obtain ⟨y,hy,hk,hlt,_,hi⟩:=h.cons
 have hx:y.Text=x:=hk.2
 have h1:=h.nn
 have h2:=h.len
 unfold a1a
 rw [b64 h,Option.bind_some]
 simp only [kdT,hy,Option.bind_some,hx,hn,hi,show i64 (r.at_+1-1)=r.at_ from by rw [j6 (by omega) (by omega)];omega]
 rfl
theorem c2j {v a b:Int} (h:RdrA r (.n ⟨v,1⟩ 2::ts)) (h1:a <= v) (h2:v <= b):w8 r a b=some (v,adv r):=by
 obtain ⟨y,hy,hk,hlt,_,hi⟩:=h.cons
 unfold w8
 rw [b64 h,Option.bind_some]
 simp only [kdT,hy,Option.bind_some,hk.2.1,hi,decide_eq_true h1,decide_eq_true h2,ge_iff_le]
 rfl
end
inductive AE where
 | lit (v:Fraction) (d:Int)
 | nm (s:ByteArray)
 | best (k:Int)
 | bin (op:Int) (a b:AE)
 | ite (a b c:AE)
def AE.e:AE -> Expr
 | .lit v d=>⟨1,v,d,a1v,[]⟩
 | .nm s=>⟨2,⟨0,0⟩,0,s,[]⟩
 | .best k=>⟨3,⟨k,1⟩,0,a1v,[]⟩
 | .bin op a b=>⟨op,⟨0,0⟩,0,a1v,[a.e,b.e]⟩
 | .ite a b c=>⟨21,⟨0,0⟩,0,a1v,[a.e,b.e,c.e]⟩
def g3u:List (Int×Int×ByteArray):=[(7,5,d17),(8,5,b93),(9,6,a8u),(10,6,c1b),(11,4,d2e),(12,4,b6p),(13,4,b9a),(14,4,b6w),(15,4,d6r),(16,4,a5w),(17,2,c00),(18,1,c72)]
def g0u (lvl:Int) (t:Tk):List (Int×Int×ByteArray) -> Int
 | []=>0
 | (op,l,s)::q=>bif (l==lvl)&&isT t s then op else g0u lvl t q
def f3u (s:ByteArray):Bool:=match u9 s with | some true=>true | _=>false
inductive Md where
 | E (lvl:Nat)
 | L (lvl:Nat) (e:AE)
 | F
 | C (op:Int)
def eat (s:ByteArray):List Tk -> Option (List Tk)
 | t::r=>bif isT t s then some r else none
 | []=>none
def pX:Nat -> Md -> List Tk -> Option (AE×List Tk)
 | 0,_,_=>none
 | k+1,.E 0,t::r=>bif isT t b1f then
    (pX k (.E 0) r).bind fun a=>(eat c0b a.2).bind fun r1=>(pX k (.E 0) r1).bind fun b=>(eat b5h b.2).bind fun r2=>(pX k (.E 0) r2).bind fun c=>some (.ite a.1 b.1 c.1,c.2)
   else pX k (.E 1) (t::r)
 | k+1,.E 3,t::r=>bif isT t b9u then none else pX k (.E 4) (t::r)
 | k+1,.E 7,t::r=>pX k .F (t::r)
 | k+1,.E lvl,t::r=>(pX k (.E (lvl+1)) (t::r)).bind fun a=>pX k (.L lvl a.1) a.2
 | k+1,.L lvl e,t::r=>match g0u lvl t g3u with
   | 0=>some (e,t::r)
   | op=>(pX k (.E (lvl+1)) r).bind fun a=>bif Nat.beq lvl 4 then some (.bin op e a.1,a.2) else pX k (.L lvl (.bin op e a.1)) a.2
 | k+1,.F,t::r=>match t with
   | .n v d=>some (.lit v d,r)
   | .w x=>bif isT t b93 then none else bif isT t a9f then none else bif isT t b23 then (eat a9f r).bind fun r1=>match r1 with | .n ⟨v,1⟩ 2::r2=>(bif decide (1 <= v)&&decide (v <= 45) then (eat b1p r2).bind fun r3=>some (.best v,r3) else none) | _=>none
     else bif isT t b2t then none
     else bif isT t b87 then pX k (.C 19) (t::r)
     else bif isT t b6h then pX k (.C 20) (t::r)
     else bif f3u x then some (.nm x,r) else none
   | _=>none
 | k+1,.C op,t::r=>match a15 op with
   | some 2=>(eat a9f r).bind fun r1=>(pX k (.E 0) r1).bind fun a=>(eat c52 a.2).bind fun r2=>(pX k (.E 0) r2).bind fun b=>(eat b1p b.2).bind fun r3=>some (.bin op a.1 b.1,r3)
   | _=>none
 | _,_,[]=>none
end Go.PL
namespace Go.PL
open Go Go.SX
theorem d8g (n:Nat) (h:n <= 1000): ∃m,FU=m+n:=⟨FU-n,by
 have:1000 <= FU:=by unfold FU;decide
 omega⟩
section
variable {r:pensionref5_reader} {t:Tk} {ts:List Tk}
theorem a9b (h:RdrA r (t::ts)) (lvl:Int) (k:Nat) {op l:Int} {s:ByteArray} (h0:0 <= op) (h1:op <= 18) (hl:b1l op=some l) (hs:b0s op=some s) (hw:a48 s=true):
  d8 (k+1) (a00 lvl r) op=bif (l==lvl)&&isT t s then some op else d8 k (a00 lvl r) (op+1):=by
 rw [j8]
 unfold a00
 rw [if_pos (by simpa using h1),hl,Option.bind_some]
 cases hb:(l==lvl) with
 | false=>
   simp only [Bool.false_and,cond_false,Bool.false_eq_true,if_false,Option.bind_some]
   rw [b69 h0 (by omega)]
 | true=>
   simp only [if_true,hs,Option.bind_some,e5p h hw,Bool.true_and]
   cases isT t s with
   | true=>rfl
   | false=>
     simp only [Bool.false_eq_true,if_false,cond_false]
     rw [b69 h0 (by omega)]
theorem e70 {α:Type} {b:Bool} {x y:α}:(bif b then some x else some y)=some (bif b then x else y):=by cases b<;>rfl
theorem c84 (h:RdrA r (t::ts)) (lvl:Int):a36 r lvl=some (g0u lvl t g3u):=by
 unfold a36
 obtain ⟨m,hm⟩:=d8g 13 (by decide)
 rw [hm]
 rw [show m+13=(m+12)+1 from rfl,a9b h lvl (m+12) (op:=7) (l:=5) (s:=d17) (by decide) (by decide) (by kernel_rfl) (by kernel_rfl) (by kernel_rfl)]
 rw [show m+12=(m+11)+1 from rfl,show (7:Int)+1=8 from rfl,a9b h lvl (m+11) (op:=8) (l:=5) (s:=b93) (by decide) (by decide) (by kernel_rfl) (by kernel_rfl) (by kernel_rfl)]
 rw [show m+11=(m+10)+1 from rfl,show (8:Int)+1=9 from rfl,a9b h lvl (m+10) (op:=9) (l:=6) (s:=a8u) (by decide) (by decide) (by kernel_rfl) (by kernel_rfl) (by kernel_rfl)]
 rw [show m+10=(m+9)+1 from rfl,show (9:Int)+1=10 from rfl,a9b h lvl (m+9) (op:=10) (l:=6) (s:=c1b) (by decide) (by decide) (by kernel_rfl) (by kernel_rfl) (by kernel_rfl)]
 rw [show m+9=(m+8)+1 from rfl,show (10:Int)+1=11 from rfl,a9b h lvl (m+8) (op:=11) (l:=4) (s:=d2e) (by decide) (by decide) (by kernel_rfl) (by kernel_rfl) (by kernel_rfl)]
 rw [show m+8=(m+7)+1 from rfl,show (11:Int)+1=12 from rfl,a9b h lvl (m+7) (op:=12) (l:=4) (s:=b6p) (by decide) (by decide) (by kernel_rfl) (by kernel_rfl) (by kernel_rfl)]
 rw [show m+7=(m+6)+1 from rfl,show (12:Int)+1=13 from rfl,a9b h lvl (m+6) (op:=13) (l:=4) (s:=b9a) (by decide) (by decide) (by kernel_rfl) (by kernel_rfl) (by kernel_rfl)]
 rw [show m+6=(m+5)+1 from rfl,show (13:Int)+1=14 from rfl,a9b h lvl (m+5) (op:=14) (l:=4) (s:=b6w) (by decide) (by decide) (by kernel_rfl) (by kernel_rfl) (by kernel_rfl)]
 rw [show m+5=(m+4)+1 from rfl,show (14:Int)+1=15 from rfl,a9b h lvl (m+4) (op:=15) (l:=4) (s:=d6r) (by decide) (by decide) (by kernel_rfl) (by kernel_rfl) (by kernel_rfl)]
 rw [show m+4=(m+3)+1 from rfl,show (15:Int)+1=16 from rfl,a9b h lvl (m+3) (op:=16) (l:=4) (s:=a5w) (by decide) (by decide) (by kernel_rfl) (by kernel_rfl) (by kernel_rfl)]
 rw [show m+3=(m+2)+1 from rfl,show (16:Int)+1=17 from rfl,a9b h lvl (m+2) (op:=17) (l:=2) (s:=c00) (by decide) (by decide) (by kernel_rfl) (by kernel_rfl) (by kernel_rfl)]
 rw [show m+2=(m+1)+1 from rfl,show (17:Int)+1=18 from rfl,a9b h lvl (m+1) (op:=18) (l:=1) (s:=c72) (by decide) (by decide) (by kernel_rfl) (by kernel_rfl) (by kernel_rfl)]
 have e:d8 (m+1) (a00 lvl r) (18+1)=some 0:=by
  rw [j8]
  unfold a00
  rw [if_neg (by simp)]
 rw [e]
 unfold g3u
 simp only [g0u]
 simp only [e70]
theorem c6r {s:ByteArray} {us:List Tk} (h:RdrA r ts) (hs:a48 s=true) (he:eat s ts=some us):c6 r s=some (adv r) /\ RdrA (adv r) us:=by
 cases ts with
 | nil=>cases he
 | cons t ts=>
   simp only [eat] at he
   cases ht:isT t s with
   | false=>rw [ht] at he;cases he
   | true=>
     rw [ht] at he
     obtain rfl:=Option.some.inj he
     exact ⟨d65 h hs ht,h.cons.choose_spec.2.2.2.1⟩
end
abbrev rgE (m:Nat):=d9 m
def Snd (k:Nat) (md:Md) (r:pensionref5_reader) (out:AE×List Tk):Prop:= ∃r',RdrA r' out.2 /\ match md with
 | .E lvl=> ∀m,k <= m -> (rgE m).f_pensionref5_reader_expr r lvl=some (out.1.e,r')
 | .F=> ∀m,k <= m -> (rgE m).f_pensionref5_reader_factor r=some (out.1.e,r')
 | .C op=> ∀m,k <= m -> (rgE m).f_pensionref5_reader_call r op=some (out.1.e,r')
 | .L lvl e=> ∀m j jl je,k <= m -> k <= j -> d8 j (w9 (rgE m) lvl) (r,jl,je,e.e)=some (out.1.e,r')
def g5f:Md -> Nat | .E l=>l | .L l _=>l | .F=>0 | .C _=>0
theorem d6v {s:ByteArray} (h:f3u s=true):u9 s=some true:=by
 unfold f3u at h
 split at h
 ·assumption
 ·cases h
theorem f0k {k:Nat} (h:k <= 1000):k <= FU:=by obtain ⟨m,hm⟩:=d8g k h;omega
theorem f05: ∀(k:Nat),k <= 1000 -> ∀(md:Md) (ts:List Tk) (out:AE×List Tk) (r:pensionref5_reader),pX k md ts=some out -> g5f md <= 7 -> RdrA r ts -> Snd k md r out:=by
 intro k
 induction k with
 | zero=>intro _ md ts out r h;cases md<;>cases ts<;>simp [pX] at h
 | succ k ih=>
   intro hkk md ts out r h hl hr
   have ih:=ih (by omega)
   cases ts with
   | nil=>cases md<;>simp [pX] at h
   | cons t ts=>
     have hbad:=hr.bad
     have hsucc: ∀{m:Nat},k+1 <= m -> ∃m',m=m'+1 /\ k <= m':=fun {m} h=>⟨m-1,by omega,by omega⟩
     have gen: ∀lvl:Nat,lvl <= 6 -> lvl≠0 -> lvl≠3 -> ((pX k (.E (lvl+1)) (t::ts)).bind fun a=>pX k (.L lvl a.1) a.2)=some out -> Snd (k+1) (.E lvl) r out:=by
      intro lvl h6 h0 h3 h
      obtain ⟨a,ha,h⟩:=Option.bind_eq_some_iff.1 h
      obtain ⟨r1,hr1,e1⟩:=ih _ _ _ r ha (by show lvl+1 <= 7;omega) hr
      obtain ⟨r2,hr2,e2⟩:=ih _ _ _ r1 h (by show lvl <= 7;omega) hr1
      refine ⟨r2,hr2,fun m hm=> ?_⟩
      obtain ⟨m,rfl,hm2⟩:=hsucc hm
      show l8 (rgE m) r lvl=_
      unfold l8
      have n0:((lvl:Int)==0)=false:=by simpa using h0
      have n3:((lvl:Int)==3)=false:=by simp;omega
      have n7:((lvl:Int)==7)=false:=by simp;omega
      have e1:=e1 m hm2
      have hi:i64 ((lvl:Int)+1)=((lvl+1:Nat):Int):=by rw [b69 (by omega) (by omega)];omega
      simp only [hbad,n0,n3,n7,Bool.false_eq_true,if_false,hi,e1,Option.bind_some]
      exact e2 m FU _ _ hm2 (f0k (by omega))
     cases md with
     | E lvl=>
       match lvl,hl with
       | 0,_=>
         simp only [pX] at h
         cases hi:isT t b1f with
         | false=>
           rw [hi,cond_false] at h
           obtain ⟨r1,hr1,e1⟩:=ih _ _ _ r h (by decide) hr
           refine ⟨r1,hr1,fun m hm=> ?_⟩
           obtain ⟨m,rfl,hm2⟩:=hsucc hm
           show l8 (rgE m) r 0=_
           unfold l8
           have e1:(rgE m).f_pensionref5_reader_expr r 1=_:=e1 m hm2
           simp only [hbad,Bool.false_eq_true,if_false,b4p hr (show a48 b1f=true by kernel_rfl),hi,Option.bind_some,Bool.not_false,if_true,e1,BEq.rfl]
         | true=>
           rw [hi,cond_true] at h
           have hr':=hr.cons.choose_spec.2.2.2.1
           obtain ⟨a,ha,h⟩:=Option.bind_eq_some_iff.1 h
           obtain ⟨u1,hu1,h⟩:=Option.bind_eq_some_iff.1 h
           obtain ⟨b,hb,h⟩:=Option.bind_eq_some_iff.1 h
           obtain ⟨u2,hu2,h⟩:=Option.bind_eq_some_iff.1 h
           obtain ⟨c,hc,h⟩:=Option.bind_eq_some_iff.1 h
           obtain rfl:=Option.some.inj h
           obtain ⟨r1,hr1,e1⟩:=ih _ _ _ _ ha (by decide) hr'
           obtain ⟨w1,hw1⟩:=c6r hr1 (show a48 c0b=true by kernel_rfl) hu1
           obtain ⟨r2,hr2,e2⟩:=ih _ _ _ _ hb (by decide) hw1
           obtain ⟨w2,hw2⟩:=c6r hr2 (show a48 b5h=true by kernel_rfl) hu2
           obtain ⟨r3,hr3,e3⟩:=ih _ _ _ _ hc (by decide) hw2
           refine ⟨r3,hr3,fun m hm=> ?_⟩
           obtain ⟨m,rfl,hm2⟩:=hsucc hm
           show l8 (rgE m) r 0=_
           unfold l8
           have e1:(rgE m).f_pensionref5_reader_expr (adv r) 0=_:=e1 m hm2
           have e2:(rgE m).f_pensionref5_reader_expr _ 0=_:=e2 m hm2
           have e3:(rgE m).f_pensionref5_reader_expr _ 0=_:=e3 m hm2
           simp only [hbad,Bool.false_eq_true,if_false,b4p hr (show a48 b1f=true by kernel_rfl),hi,Option.bind_some,Bool.not_true,if_true,e1,w1,e2,w2,e3,BEq.rfl]
           rfl
       | 1,_=>exact gen 1 (by decide) (by decide) (by decide) h
       | 2,_=>exact gen 2 (by decide) (by decide) (by decide) h
       | 3,_=>
         simp only [pX] at h
         cases hi:isT t b9u with
         | true=>rw [hi] at h;cases h
         | false=>
           rw [hi,cond_false] at h
           obtain ⟨r1,hr1,e1⟩:=ih _ _ _ r h (by decide) hr
           refine ⟨r1,hr1,fun m hm=> ?_⟩
           obtain ⟨m,rfl,hm2⟩:=hsucc hm
           show l8 (rgE m) r 3=_
           unfold l8
           have e1:(rgE m).f_pensionref5_reader_expr r 4=_:=e1 m hm2
           simp only [hbad,Bool.false_eq_true,if_false,b4p hr (show a48 b9u=true by kernel_rfl),hi,Option.bind_some,if_true,e1,BEq.rfl,show ((3:Int)==0)=false from rfl]
       | 4,_=>exact gen 4 (by decide) (by decide) (by decide) h
       | 5,_=>exact gen 5 (by decide) (by decide) (by decide) h
       | 6,_=>exact gen 6 (by decide) (by decide) (by decide) h
       | 7,_=>
         simp only [pX] at h
         obtain ⟨r1,hr1,e1⟩:=ih _ _ _ r h (by decide) hr
         refine ⟨r1,hr1,fun m hm=> ?_⟩
         obtain ⟨m,rfl,hm2⟩:=hsucc hm
         show l8 (rgE m) r 7=_
         unfold l8
         have e1:(rgE m).f_pensionref5_reader_factor r=_:=e1 m hm2
         simp only [hbad,Bool.false_eq_true,if_false,Option.bind_some,if_true,e1,BEq.rfl,show ((7:Int)==0)=false from rfl,show ((7:Int)==3)=false from rfl]
     | L lvl e=>
       have hl:lvl <= 7:=hl
       have hi:i64 ((lvl:Int)+1)=((lvl+1:Nat):Int):=by rw [b69 (by omega) (by omega)];omega
       have hadv:=hr.cons.choose_spec.2.2.2
       have hav:(⟨r.l,i64 (r.at_+1),r.end_,r.bad⟩:pensionref5_reader)=adv r:=by rw [hadv.2];rfl
       have havf:(⟨r.l,i64 (r.at_+1),r.end_,false⟩:pensionref5_reader)=adv r:=by rw [hadv.2];unfold adv;rw [hbad]
       simp only [pX] at h
       cases hb:(g0u lvl t g3u==0) with
       | true=>
         have hb:=eq_of_beq hb
         rw [hb] at h
         obtain rfl:=Option.some.inj h
         refine ⟨r,hr,fun m j jl je hm hj=> ?_⟩
         obtain ⟨j,rfl,hj2⟩:=hsucc hj
         rw [j8]
         unfold w9
         simp only [hbad,Bool.not_false,if_true,c84 hr,Option.bind_some,hb,BEq.rfl]
       | false=>
         split at h
         ·rename_i h0;rw [h0] at hb;cases hb
         ·rename_i op h0
          obtain ⟨a,ha,h⟩:=Option.bind_eq_some_iff.1 h
          have h67:lvl <= 6:=by
           refine Classical.byContradiction fun hc=>h0 ?_
           have:lvl=7:=by omega
           subst this
           rfl
          obtain ⟨r1,hr1,e1⟩:=ih _ _ _ (adv r) ha (by show lvl+1 <= 7;omega) hadv.1
          cases h4:Nat.beq lvl 4 with
          | true=>
            rw [h4,cond_true] at h
            obtain rfl:=Option.some.inj h
            refine ⟨r1,hr1,fun m j jl je hm hj=> ?_⟩
            obtain ⟨j,rfl,hj2⟩:=hsucc hj
            have e1:=e1 m (by omega)
            rw [j8]
            generalize hLP:d8 j (w9 (rgE m) (lvl:Int))=LP
            unfold w9
            have h44:((lvl:Int)==4)=true:=by have:=Nat.eq_of_beq_eq_true h4;subst this;rfl
            simp only [hbad,Bool.not_false,if_true,c84 hr,Option.bind_some,hb,Bool.false_eq_true,if_false,havf,hi,e1,h44]
            rfl
          | false=>
            rw [h4,cond_false] at h
            obtain ⟨r2,hr2,e2⟩:=ih _ _ _ _ h hl hr1
            refine ⟨r2,hr2,fun m j jl je hm hj=> ?_⟩
            obtain ⟨j,rfl,hj2⟩:=hsucc hj
            have e1:=e1 m (by omega)
            rw [j8]
            generalize hLP:d8 j (w9 (rgE m) (lvl:Int))=LP
            unfold w9
            have h44:((lvl:Int)==4)=false:=by have:=Nat.ne_of_beq_eq_false h4;simp;omega
            simp only [hbad,Bool.not_false,if_true,c84 hr,Option.bind_some,hb,Bool.false_eq_true,if_false,havf,hi,e1,h44]
            rw [<- hLP]
            exact e2 m j _ _ (by omega) hj2
     | F=>
       have hadv:=hr.cons.choose_spec.2.2.2
       have hav:(⟨r.l,i64 (r.at_+1),r.end_,r.bad⟩:pensionref5_reader)=adv r:=by rw [hadv.2];rfl
       have havf:(⟨r.l,i64 (r.at_+1),r.end_,false⟩:pensionref5_reader)=adv r:=by rw [hadv.2];unfold adv;rw [hbad]
       cases t with
       | s x=>simp [pX] at h
       | d x=>simp [pX] at h
       | n v d=>
         simp only [pX] at h
         obtain rfl:=Option.some.inj h
         refine ⟨adv r,hadv.1,fun m hm=> ?_⟩
         obtain ⟨m,rfl,hm2⟩:=hsucc hm
         show k8 (rgE m) r=_
         unfold k8
         obtain ⟨y,hy,hk,_⟩:=hr.cons
         simp only [b64 hr,kdT,Option.bind_some,BEq.rfl,if_true,hy,hk.2.1,hav]
         rfl
       | w x=>
         simp only [pX] at h
         have hk2:((kdT (.w x):Int)==2)=false:=rfl
         cases hm1:isT (.w x) b93 with
         | true=>rw [hm1] at h;cases h
         | false=>
         rw [hm1,cond_false] at h
         cases hm2:isT (.w x) a9f with
         | true=>rw [hm2] at h;cases h
         | false=>
         rw [hm2,cond_false] at h
         have t1:=b4p hr (show a48 b93=true by kernel_rfl)
         have t2:=b4p hr (show a48 a9f=true by kernel_rfl)
         have t3:=b4p hr (show a48 b23=true by kernel_rfl)
         rw [hm1] at t1;rw [hm2] at t2
         cases hm3:isT (.w x) b23 with
         | true=>
           rw [hm3,cond_true] at h
           rw [hm3] at t3
           obtain ⟨u1,hu1,h⟩:=Option.bind_eq_some_iff.1 h
           split at h
           ·rename_i v r2
            cases hv:(decide (1 <= v)&&decide (v <= 45)) with
            | false=>rw [hv] at h;cases h
            | true=>
              rw [hv,cond_true] at h
              obtain ⟨u3,hu3,h⟩:=Option.bind_eq_some_iff.1 h
              obtain rfl:=Option.some.inj h
              simp at hv
              obtain ⟨w1,hw1⟩:=c6r hadv.1 (show a48 a9f=true by kernel_rfl) hu1
              have w2:=c2j hw1 hv.1 hv.2
              obtain ⟨w3,hw3⟩:=c6r hw1.cons.choose_spec.2.2.2.1 (show a48 b1p=true by kernel_rfl) hu3
              refine ⟨_,hw3,fun m hm=> ?_⟩
              obtain ⟨m,rfl,hm2⟩:=hsucc hm
              show k8 (rgE m) r=_
              unfold k8
              simp only [b64 hr,hk2,Option.bind_some,Bool.false_eq_true,if_false,if_true,t1,t2,t3,w1,w2,w3]
              rfl
           ·cases h
         | false=>
         rw [hm3,cond_false] at h
         rw [hm3] at t3
         have i1:=e5p hr (show a48 b2t=true by kernel_rfl)
         have i2:=e5p hr (show a48 b87=true by kernel_rfl)
         have i3:=e5p hr (show a48 b6h=true by kernel_rfl)
         cases hm4:isT (.w x) b2t with
         | true=>rw [hm4] at h;cases h
         | false=>
         rw [hm4,cond_false] at h
         rw [hm4] at i1
         cases hm5:isT (.w x) b87 with
         | true=>
           rw [hm5,cond_true] at h
           rw [hm5] at i2
           obtain ⟨r1,hr1,e1⟩:=ih _ _ _ _ h (by decide) hr
           refine ⟨r1,hr1,fun m hm=> ?_⟩
           obtain ⟨m,rfl,hm2⟩:=hsucc hm
           show k8 (rgE m) r=_
           unfold k8
           have e1:(rgE m).f_pensionref5_reader_call r 19=_:=e1 m hm2
           simp only [b64 hr,hk2,Option.bind_some,Bool.false_eq_true,if_false,if_true,t1,t2,t3,i1,i2,e1]
         | false=>
         rw [hm5,cond_false] at h
         rw [hm5] at i2
         cases hm6:isT (.w x) b6h with
         | true=>
           rw [hm6,cond_true] at h
           rw [hm6] at i3
           obtain ⟨r1,hr1,e1⟩:=ih _ _ _ _ h (by decide) hr
           refine ⟨r1,hr1,fun m hm=> ?_⟩
           obtain ⟨m,rfl,hm2⟩:=hsucc hm
           show k8 (rgE m) r=_
           unfold k8
           have e1:(rgE m).f_pensionref5_reader_call r 20=_:=e1 m hm2
           simp only [b64 hr,hk2,Option.bind_some,Bool.false_eq_true,if_false,if_true,t1,t2,t3,i1,i2,i3,e1]
         | false=>
         rw [hm6,cond_false] at h
         rw [hm6] at i3
         cases hn:f3u x with
         | false=>rw [hn] at h;cases h
         | true=>
           rw [hn,cond_true] at h
           obtain rfl:=Option.some.inj h
           have n1:=d71 hr (d6v hn)
           refine ⟨_,hadv.1,fun m hm=> ?_⟩
           obtain ⟨m,rfl,hm2⟩:=hsucc hm
           show k8 (rgE m) r=_
           unfold k8
           simp only [b64 hr,hk2,Option.bind_some,Bool.false_eq_true,if_false,if_true,t1,t2,t3,i1,i2,i3,n1]
           rfl
     | C op=>
       have hadv:=hr.cons.choose_spec.2.2.2
       have hav:(⟨r.l,i64 (r.at_+1),r.end_,r.bad⟩:pensionref5_reader)=adv r:=by rw [hadv.2];rfl
       simp only [pX] at h
       split at h
       ·rename_i hop
        obtain ⟨u1,h1,h⟩:=Option.bind_eq_some_iff.1 h
        obtain ⟨a,h2,h⟩:=Option.bind_eq_some_iff.1 h
        obtain ⟨r2,h3,h⟩:=Option.bind_eq_some_iff.1 h
        obtain ⟨b,h4,h⟩:=Option.bind_eq_some_iff.1 h
        obtain ⟨u2,h5,h⟩:=Option.bind_eq_some_iff.1 h
        obtain rfl:=Option.some.inj h
        obtain ⟨w1,hw1⟩:=c6r hadv.1 (show a48 a9f=true by kernel_rfl) h1
        obtain ⟨q1,hq1,e1⟩:=ih _ _ _ _ h2 (by decide) hw1
        obtain ⟨w2,hw2⟩:=c6r hq1 (show a48 c52=true by kernel_rfl) h3
        obtain ⟨q2,hq2,e2⟩:=ih _ _ _ _ h4 (by decide) hw2
        obtain ⟨w3,hw3⟩:=c6r hq2 (show a48 b1p=true by kernel_rfl) h5
        refine ⟨_,hw3,fun m hm=> ?_⟩
        obtain ⟨m,rfl,hm2⟩:=hsucc hm
        show a3a (rgE m) r op=_
        unfold a3a
        have e1:(rgE m).f_pensionref5_reader_expr _ 0=_:=e1 m hm2
        have e2:(rgE m).f_pensionref5_reader_expr _ 0=_:=e2 m hm2
        simp only [hav,w1,Option.bind_some,e1,hop,BEq.rfl,if_true,w2,e2,w3]
        rfl
       ·cases h
theorem c0a {k:Nat} (hk:k <= 1000) {ts:List Tk} {out:AE×List Tk} {r:pensionref5_reader} (h:pX k (.E 0) ts=some out) (hr:RdrA r ts): ∃r',RdrA r' out.2 /\ a25 r 0=some (out.1.e,r'):=by
 obtain ⟨r',h1,h2⟩:=f05 k hk _ _ _ r h (by decide) hr
 exact ⟨r',h1,h2 FU (f0k hk)⟩
end Go.PL
namespace Go.PL
open Go Go.SX
def ofW (x:ByteArray) (what:Int):Option Int:=(a9e x).bind fun k=>(a6g x).bind fun b=>(a98 x).bind fun m=>c8 [k,b,m] (i64 (what-1))
theorem e5q {r:pensionref5_reader} {ts:List Tk} {x:ByteArray} {what n:Int} (h:RdrA r (.w x::ts)) (hw:ofW x what=some n) (hn:0<n):a0x r what=some (n,adv r):=by
 obtain ⟨y,hy,hk,hlt,_,hi⟩:=h.cons
 have hx:y.Text=x:=hk.2
 unfold ofW at hw
 obtain ⟨k,h1,hw⟩:=Option.bind_eq_some_iff.1 hw
 obtain ⟨b,h2,hw⟩:=Option.bind_eq_some_iff.1 hw
 obtain ⟨m,h3,hw⟩:=Option.bind_eq_some_iff.1 hw
 unfold a0x
 rw [b64 h,Option.bind_some]
 simp only [kdT,hy,Option.bind_some,hx,h1,h2,h3,hw,hi,decide_eq_true hn,gt_iff_lt,BEq.rfl,if_true]
 rfl
inductive Cl where
 | credit (k l:Int)
 | index (y:Int) (f:Fraction)
 | lett (x:ByteArray) (a:AE)
 | grant (b:Int) (i p:AE)
 | reduce (b:Int) (a:AE)
abbrev Acc:=List Credit×List Index×List Let×List Grant×List Reduce
def Cl.app:Cl -> Acc -> Acc
 | .credit k l,A=>(A.1++[⟨k,l⟩],A.2)
 | .index y f,A=>(A.1,A.2.1++[⟨y,f⟩],A.2.2)
 | .lett x a,A=>(A.1,A.2.1,A.2.2.1++[⟨x,a.e⟩],A.2.2.2)
 | .grant b i p,A=>(A.1,A.2.1,A.2.2.1,A.2.2.2.1++[⟨b,i.e,p.e⟩],A.2.2.2.2)
 | .reduce b a,A=>(A.1,A.2.1,A.2.2.1,A.2.2.2.1,A.2.2.2.2++[⟨b,a.e⟩])
def Acc.len (A:Acc):Nat:=A.1.length+A.2.1.length+A.2.2.1.length+A.2.2.2.1.length+A.2.2.2.2.length
inductive ClR:List Tk -> Cl -> List Tk -> Prop
 | credit0 {x:ByteArray} {n:Int} {ts:List Tk}:ofW x 1=some n -> 0<n -> ClR (.w a2h:: .w x:: .s a0k::ts) (.credit n 0) ts
 | credit {x:ByteArray} {n v:Int} {ts:List Tk}:ofW x 1=some n -> 0<n -> 1 <= v -> v <= 73049 -> ClR (.w a2h:: .w x:: .w a94:: .n ⟨v,1⟩ 2:: .s a0k::ts) (.credit n v) ts
 | index {y:Int} {f:Fraction} {ts:List Tk}:1900 <= y -> y <= 2099 -> 0<f.Num -> f.Den≠0 -> ClR (.w a59:: .n ⟨y,1⟩ 2:: .n f 2:: .s a0k::ts) (.index y f) ts
 | lett {x:ByteArray} {a:AE} {us ts:List Tk}:f3u x=true -> pX 60 (.E 0) us=some (a,.s a0k::ts) -> ClR (.w b1r:: .w x:: .s b9a::us) (.lett x a) ts
 | grant {x:ByteArray} {n:Int} {a b:AE} {us vs ts:List Tk}:ofW x 2=some n -> 0<n -> pX 60 (.E 0) us=some (a,.w b33::vs) -> pX 60 (.E 0) vs=some (b,.s a0k::ts) -> ClR (.w a3z:: .w x:: .w b1f::us) (.grant n a b) ts
 | reduce {x:ByteArray} {n:Int} {a:AE} {us ts:List Tk}:ofW x 2=some n -> 0<n -> pX 60 (.E 0) us=some (a,.s a0k::ts) -> ClR (.w a4j:: .w x:: .w c3o::us) (.reduce n a) ts
theorem b6t:a48 a2h=true:=by kernel_rfl
theorem c63:a48 a59=true:=by kernel_rfl
theorem e5v:a48 b1r=true:=by kernel_rfl
theorem d94:a48 a3z=true:=by kernel_rfl
theorem e7k:a48 a4j=true:=by kernel_rfl
theorem e07:a48 a94=true:=by kernel_rfl
theorem c1o:a48 a0k=true:=by kernel_rfl
theorem g4k:a48 b9a=true:=by kernel_rfl
theorem g5d:a48 b1f=true:=by kernel_rfl
theorem g2n:a48 b33=true:=by kernel_rfl
theorem g56:a48 c3o=true:=by kernel_rfl
theorem c6h:a48 a2w=true:=by kernel_rfl
theorem d8e (x:ByteArray):isT (.w x) x=true:=by show (x.toList==x.toList)=true;exact BEq.rfl
theorem c8i (x:ByteArray):isT (.s x) x=true:=by show (x.toList==x.toList)=true;exact BEq.rfl
theorem a6f {r:pensionref5_reader} {t:Tk} {ts:List Tk} (h:RdrA r (t::ts)):RdrA (adv r) ts:=h.cons.choose_spec.2.2.2.1
section
variable {r:pensionref5_reader} {t:Tk} {ts us:List Tk} {s:ByteArray}
theorem c7j (h:RdrA r (.w s::ts)) (hs:a48 s=true):g8 r s=some (true,adv r):=by rw [b4p h hs,d8e];rfl
theorem b7c (h:RdrA r (t::ts)) (hs:a48 s=true) (hn:isT t s=false):g8 r s=some (false,r):=by rw [b4p h hs,hn];rfl
theorem c6o (h:RdrA r (.w s::ts)) (hs:a48 s=true):c6 r s=some (adv r):=d65 h hs (d8e s)
theorem c10 (h:RdrA r (.s s::ts)) (hs:a48 s=true):c6 r s=some (adv r):=d65 h hs (c8i s)
theorem b3k {α:Type} {k:Nat} {l:List α} {x:α} (h:l.length <= 1000) (hk:k <= 1000):a9h k l [x]=some (l++[x]):=by
 refine b1t ?_
 have:(l.length+[x].length)*k <= 1001*1000:=Nat.mul_le_mul (by simp;omega) hk
 omega
end
theorem e4m {ts ts':List Tk} {c:Cl} (h:ClR ts c ts') {r:pensionref5_reader} (hr:RdrA r ts) (v:Version) (A:Acc) (hA:A.len <= 1000):
  ∃r',RdrA r' ts' /\ a38 r v A.1 A.2.1 A.2.2.1 A.2.2.2.1 A.2.2.2.2=some (r',⟨v.From,v.Rounding,[],[],[],[],[]⟩,c.app A):=by
 obtain ⟨cs,is,ls,gs,rs⟩:=A
 have hA:cs.length+is.length+ls.length+gs.length+rs.length <= 1000:=hA
 unfold a38
 cases h with
 | credit0 h1 h2=>
   have a1:=a6f hr;have a2:=a6f a1;have a3:=a6f a2
   refine ⟨_,a3,?_⟩
   simp only [c7j hr b6t,Option.bind_some,if_true,e5q a1 h1 h2,b7c a2 e07 (show isT (.s a0k) a94=false by kernel_rfl),Bool.false_eq_true,if_false,joinC,a1t,b3k (show cs.length <= 1000 by omega) (show 16 <= 1000 by decide),c10 a2 c1o]
   rfl
 | credit h1 h2 h3 h4=>
   have a1:=a6f hr;have a2:=a6f a1;have a3:=a6f a2;have a4:=a6f a3;have a5:=a6f a4
   refine ⟨_,a5,?_⟩
   simp only [c7j hr b6t,Option.bind_some,if_true,e5q a1 h1 h2,c7j a2 e07,c2j a3 h3 h4,joinC,a1t,b3k (show cs.length <= 1000 by omega) (show 16 <= 1000 by decide),c10 a4 c1o]
   rfl
 | @index y f ts h1 h2 h3 h4=>
   have a1:=a6f hr;have a2:=a6f a1;have a3:=a6f a2;have a4:=a6f a3
   refine ⟨_,a4,?_⟩
   obtain ⟨z,hz,hk,_,_,hi⟩:=a2.cons
   have hi2:(⟨(adv (adv r)).l,i64 ((adv (adv r)).at_+1),(adv (adv r)).end_,(adv (adv r)).bad⟩:pensionref5_reader)=adv (adv (adv r)):=by rw [hi];rfl
   have h4':(f.Den==0)=false:=by simpa using h4
   simp only [b7c hr b6t (show isT (.w a59) a2h=false by kernel_rfl),c7j hr c63,Option.bind_some,Bool.false_eq_true,if_true,if_false,c2j a1 h1 h2,b64 a2,kdT,BEq.rfl,hz,hk.2.1,decide_eq_true h3,gt_iff_lt,hi2,joinC,a1s,h4',a4a,b3k (show is.length <= 1000 by omega) (show 24 <= 1000 by decide),c10 a3 c1o]
   rfl
 | lett h1 h2=>
   have a1:=a6f hr;have a2:=a6f a1;have a3:=a6f a2
   obtain ⟨q,hq,e⟩:=c0a (by decide) h2 a3
   have a4:=a6f hq
   refine ⟨_,a4,?_⟩
   simp only [b7c hr b6t (show isT (.w b1r) a2h=false by kernel_rfl),b7c hr c63 (show isT (.w b1r) a59=false by kernel_rfl),c7j hr e5v,Option.bind_some,Bool.false_eq_true,if_true,if_false,d71 a1 (d6v h1),c10 a2 g4k,e,b3k (show ls.length <= 1000 by omega) (show 88 <= 1000 by decide),c10 hq c1o]
   rfl
 | grant h1 h2 h3 h4=>
   have a1:=a6f hr;have a2:=a6f a1;have a3:=a6f a2
   obtain ⟨q,hq,e⟩:=c0a (by decide) h3 a3
   have a4:=a6f hq
   obtain ⟨q2,hq2,e2⟩:=c0a (by decide) h4 a4
   have a5:=a6f hq2
   refine ⟨_,a5,?_⟩
   simp only [b7c hr b6t (show isT (.w a3z) a2h=false by kernel_rfl),b7c hr c63 (show isT (.w a3z) a59=false by kernel_rfl),b7c hr e5v (show isT (.w a3z) b1r=false by kernel_rfl),c7j hr d94,Option.bind_some,Bool.false_eq_true,if_true,if_false,e5q a1 h1 h2,c6o a2 g5d,e,c6o hq g2n,e2,b3k (show gs.length <= 1000 by omega) (show 152 <= 1000 by decide),c10 hq2 c1o]
   rfl
 | reduce h1 h2 h3=>
   have a1:=a6f hr;have a2:=a6f a1;have a3:=a6f a2
   obtain ⟨q,hq,e⟩:=c0a (by decide) h3 a3
   have a4:=a6f hq
   refine ⟨_,a4,?_⟩
   simp only [b7c hr b6t (show isT (.w a4j) a2h=false by kernel_rfl),b7c hr c63 (show isT (.w a4j) a59=false by kernel_rfl),b7c hr e5v (show isT (.w a4j) b1r=false by kernel_rfl),b7c hr d94 (show isT (.w a4j) a3z=false by kernel_rfl),c7j hr e7k,Option.bind_some,Bool.false_eq_true,if_true,if_false,e5q a1 h1 h2,c6o a2 g56,e,b3k (show rs.length <= 1000 by omega) (show 80 <= 1000 by decide),c10 hq c1o]
   rfl
end Go.PL
namespace Go.PL
open Go Go.SX
inductive ClsR:List Tk -> List Cl -> List Tk -> Prop
 | nil {ts:List Tk}:ClsR (.s a2w::ts) [] ts
 | cons {ts us vs:List Tk} {c:Cl} {cs:List Cl}:ClR ts c us -> ClsR us cs vs -> ClsR ts (c::cs) vs
theorem ClR.head {ts us:List Tk} {c:Cl} (h:ClR ts c us): ∃t ts1,ts=t::ts1 /\ isT t a2w=false:=by
 cases h<;>exact ⟨_,_,rfl,by kernel_rfl⟩
theorem Cl.app_len (c:Cl) (A:Acc):(c.app A).len=A.len+1:=by
 cases c<;>simp only [Cl.app,Acc.len,List.length_append,List.length_cons,List.length_nil]<;>omega
theorem e0l {ts ts':List Tk} {cs:List Cl} (h:ClsR ts cs ts'): ∀(r:pensionref5_reader),RdrA r ts -> ∀(A:Acc) (v:Version),A.len+cs.length <= 1000 ->
  ∃r',RdrA r' ts' /\ ∀(k:Nat) j1 j2 j3 j4 j5 jv,cs.length<k -> d8 k a0i (r,j1,j2,j3,j4,j5,jv,A.1,A.2.1,A.2.2.1,A.2.2.2.1,A.2.2.2.2,v)=
   some (⟨v.From,v.Rounding,(cs.foldl (fun A c=>c.app A) A).1,(cs.foldl (fun A c=>c.app A) A).2.1,(cs.foldl (fun A c=>c.app A) A).2.2.1,(cs.foldl (fun A c=>c.app A) A).2.2.2.1,(cs.foldl (fun A c=>c.app A) A).2.2.2.2⟩,r'):=by
 induction h with
 | nil=>
   intro r hr A v _
   refine ⟨_,a6f hr,fun k j1 j2 j3 j4 j5 jv hk=> ?_⟩
   obtain ⟨k,rfl⟩: ∃m,k=m+1:=⟨k-1,by omega⟩
   rw [j8]
   unfold a0i
   simp only [hr.bad,Bool.not_false,if_true,b4p hr c6h,c8i,Option.bind_some,Bool.not_true,Bool.false_eq_true,if_false]
   rfl
 | cons hc hcs ih=>
   rename_i ts0 us vs c cs
   intro r hr A v hA
   have hA:A.len+(cs.length+1) <= 1000:=hA
   obtain ⟨r1,hr1,e1⟩:=e4m hc hr (⟨v.From,v.Rounding,[],[],[],[],[]⟩:Version) A (by omega)
   obtain ⟨r2,hr2,e2⟩:=ih r1 hr1 (c.app A) ⟨v.From,v.Rounding,[],[],[],[],[]⟩ (by rw [Cl.app_len];omega)
   refine ⟨r2,hr2,fun k j1 j2 j3 j4 j5 jv hk=> ?_⟩
   have hk:cs.length+1<k:=hk
   obtain ⟨k,rfl⟩: ∃m,k=m+1:=⟨k-1,by omega⟩
   obtain ⟨t,ts1,rfl,ht⟩:=hc.head
   rw [j8]
   generalize hLP:d8 k a0i=LP
   unfold a0i
   simp only [hr.bad,Bool.not_false,if_true,b7c hr c6h ht,Option.bind_some,e1]
   rw [<- hLP]
   exact e2 k _ _ _ _ _ _ (by omega)
def f5k:Acc:=([],[],[],[],[])
def Cls.acc (cs:List Cl):Acc:=cs.foldl (fun A c=>c.app A) f5k
def g3e (day m u:Int) (cs:List Cl):Version:=⟨day,⟨m,u⟩,(Cls.acc cs).1,(Cls.acc cs).2.1,(Cls.acc cs).2.2.1,(Cls.acc cs).2.2.2.1,(Cls.acc cs).2.2.2.2⟩
theorem f9q:a48 b5c=true:=by kernel_rfl
theorem e56:a48 b50=true:=by kernel_rfl
theorem f0d:a48 b2d=true:=by kernel_rfl
theorem e0u:a48 a3s=true:=by kernel_rfl
theorem d63:a48 a2l=true:=by kernel_rfl
structure VerR (ts:List Tk) (v:Version) (ts':List Tk):Prop where
 ex: ∃(day m u:Int) (x:ByteArray) (cs:List Cl) (us:List Tk),ts= .w b5c:: .d day:: .s b50:: .w b2d:: .w x:: .n ⟨u,1⟩ 2:: .s a0k::us /\ ofW x 3=some m /\ 0<m /\ 1 <= u /\ u <= 100000 /\ ClsR us cs ts' /\ cs.length <= 900 /\ v=g3e day m u cs
theorem e0c {ts ts':List Tk} {v:Version} (h:VerR ts v ts') {r:pensionref5_reader} (hr:RdrA r ts): ∃r',RdrA r' ts' /\ a2q r=some (v,r'):=by
 obtain ⟨day,m,u,x,cs,us,rfl,h1,h2,h3,h4,h5,h6,rfl⟩:=h.ex
 have a1:=a6f hr;have a2:=a6f a1;have a3:=a6f a2;have a4:=a6f a3;have a5:=a6f a4;have a6:=a6f a5;have a7:=a6f a6
 obtain ⟨r',hr',e⟩:=e0l h5 _ a7 f5k ⟨day,⟨m,u⟩,[],[],[],[],[]⟩ (by show 0+0+0+0+0+cs.length <= 1000;omega)
 refine ⟨r',hr',?_⟩
 obtain ⟨z,hz,hk,_,_,hi⟩:=a1.cons
 have hi2:(⟨(adv r).l,i64 ((adv r).at_+1),(adv r).end_,(adv r).bad⟩:pensionref5_reader)=adv (adv r):=by rw [hi];rfl
 unfold a2q
 simp only [c6o hr f9q,Option.bind_some,b64 a1,kdT,BEq.rfl,if_true,hz,hk.2.1,hi2,joinC,a3w,c10 a2 e56,c6o a3 f0d,e5q a4 h1 h2,c2j a5 h3 h4,c10 a6 c1o]
 exact e FU _ _ _ _ _ _ (by have:=f0k (k:=1000) (by decide);omega)
inductive VersR:List Tk -> List Version -> Prop
 | nil:VersR [.s a2w] []
 | cons {ts us:List Tk} {v:Version} {vs:List Version}:VerR ts v us -> VersR us vs -> VersR ts (v::vs)
theorem VerR.head {ts us:List Tk} {v:Version} (h:VerR ts v us): ∃t ts1,ts=t::ts1 /\ isT t a2w=false:=by
 obtain ⟨day,m,u,x,cs,vs,rfl,_⟩:=h.ex
 exact ⟨_,_,rfl,by kernel_rfl⟩
theorem e0h {nm:ByteArray} {cur:Int}: ∀(vs:List Version) (ts:List Tk) (ws:List Version) (r:pensionref5_reader),VersR ts vs -> RdrA r ts -> ws.length+vs.length <= 1000 -> a4k ⟨nm,cur,ws++vs⟩=some true ->
  ∀(k:Nat) jv js b st,(b=true -> vs≠[]) -> st.Name=nm -> st.Currency=cur -> vs.length<k -> d8 k a3y (jv,js,r,ws,st,b)=some (⟨nm,cur,ws++vs⟩,0,0):=by
 intro vs
 induction vs with
 | nil=>
   intro ts ws r h hr _ hv k jv js b st hb hn hc hk
   cases h
   obtain ⟨k,rfl⟩: ∃m,k=m+1:=⟨k-1,by omega⟩
   have hb:b=false:=by cases b with | false=>rfl | true=>exact absurd rfl (hb rfl)
   subst hb
   rw [j8]
   unfold a3y
   have a1:=a6f hr
   have hend: ¬(adv r).at_<((adv r).l.length:Int):=by
    have:=a1.all
    intro hlt
    have h2:=a1.nn
    cases hd:(adv r).l.drop (adv r).at_.toNat with
    | nil=>
      have:=congrArg List.length hd
      simp at this;omega
    | cons x y=>rw [hd] at this;exact this
   simp only [List.append_nil] at hv⊢
   simp only [hr.bad,Bool.not_false,if_true,b4p hr c6h,c8i,Option.bind_some,Bool.not_true,Bool.false_eq_true,if_false,joinC,a8x,a1.bad,decide_eq_false hend,hn,hc,hv]
 | cons v vs ih=>
   intro ts ws r h hr hl hv k jv js b st hb hn hc hk
   have hl:ws.length+(vs.length+1) <= 1000:=hl
   have hk:vs.length+1<k:=hk
   cases h
   rename_i us hvr hvs
   obtain ⟨k,rfl⟩: ∃m,k=m+1:=⟨k-1,by omega⟩
   obtain ⟨r1,hr1,e1⟩:=e0c hvr hr
   obtain ⟨t,ts1,rfl,ht⟩:=hvr.head
   have ih2:=ih us (ws++[v]) r1 hvs hr1 (by simp;omega) (by rw [List.append_assoc];exact hv) k
   rw [j8]
   generalize hLP:d8 k a3y=LP at ih2⊢
   have ih3: ∀jv js st,st.Name=nm -> st.Currency=cur -> LP (jv,js,r1,ws++[v],st,false)=some (⟨nm,cur,ws++v::vs⟩,0,0):=fun jv js st h1 h2=>by
    have:=ih2 jv js false st (fun h=>by cases h) h1 h2 (by omega)
    rw [List.append_assoc] at this
    exact this
   unfold a3y
   cases b with
   | true=>
     simp only [hr.bad,Bool.not_false,if_true,joinC,a5q,e1,Option.bind_some,b3k (show ws.length <= 1000 by omega) (show 144 <= 1000 by decide)]
     exact ih3 _ _ _ hn hc
   | false=>
     simp only [hr.bad,Bool.not_false,if_true,b7c hr c6h ht,Bool.false_eq_true,if_false,joinC,a5q,e1,Option.bind_some,b3k (show ws.length <= 1000 by omega) (show 144 <= 1000 by decide)]
     exact ih3 _ _ _ hn hc
theorem e8r {s nm:ByteArray} {cur:Int} {toks:List Token} {us:List Tk} {vs:List Version} (hall:a7v s=some (toks,0,0)) (hl:toks.length <= 8000) (hrel:p9 TkR toks (.w a3s:: .w nm:: .w a2l:: .n ⟨cur,1⟩ 2:: .s b50::us))
  (hn:f3u nm=true) (h1:1 <= cur) (h2:cur <= 999) (hvs:VersR us vs) (hne:vs≠[]) (hlen:vs.length <= 900) (hv:a4k ⟨nm,cur,vs⟩=some true):a32 s=some (⟨nm,cur,vs⟩,0,0):=by
 unfold a32 b1q
 rw [hall,Option.bind_some]
 have hr:RdrA ⟨toks,0,(s.size:Int),false⟩ (.w a3s:: .w nm:: .w a2l:: .n ⟨cur,1⟩ 2:: .s b50::us):=⟨rfl,Int.le_refl _,hl,hrel⟩
 have a1:=a6f hr;have a2:=a6f a1;have a3:=a6f a2;have a4:=a6f a3;have a5:=a6f a4
 simp only [show ((0:Int) != 0)=false from rfl,Bool.false_eq_true,if_false,Option.bind_some,optC,c6o hr e0u,d71 a1 (d6v hn),c6o a2 d63,c2j a3 h1 h2,c10 a4 e56]
 exact e0h vs us [] _ hvs a5 (by simp;omega) hv FU _ _ true _ (fun _=>hne) rfl rfl (by have:=f0k (k:=1000) (by decide);omega)
end Go.PL
namespace Go.PL
open Go Go.SX
theorem e4j: ∃m,FU=m+1+1:=⟨FU-2,by
 have:1000000 <= FU:=by unfold FU;decide
 omega⟩
theorem a2m:100000 <= FU:=by unfold FU;decide
def rmn (s:ByteArray) (p:Nat):List UInt8:=s.data.toList.drop p
theorem c2s (s:ByteArray):s.size=s.data.toList.length:=by rw [Array.length_toList];rfl
section
variable {s:ByteArray} {p:Nat} {c:UInt8} {rest w:List UInt8}
theorem d2b (h:rmn s p=c::rest):p<s.size:=by
 have:=congrArg List.length h
 unfold rmn at this
 rw [c2s];simp at this ⊢; omega
theorem d9u:rmn s p=[]↔s.size <= p:=by unfold rmn;rw [List.drop_eq_nil_iff,c2s]
theorem d4t {a:List UInt8} (h:rmn s p=a++rest):rmn s (p+a.length)=rest:=by
 unfold rmn at*
 rw [<- List.drop_drop,h,List.drop_left]
theorem c75 (h:rmn s p=c::rest):rmn s (p+1)=rest:=d4t (a:=[c]) h
theorem c4w {a:List UInt8} (h:rmn s p=a++rest) (hp:p <= s.size):p+a.length <= s.size:=by
 have:=congrArg List.length h
 unfold rmn at this
 rw [c2s] at *; simp at this hp ⊢; omega
theorem c51 (h:rmn s p=c::rest):b0v s (p:Int)=some (c.toNat:Int):=by
 unfold b0v
 rw [if_pos (by omega)]
 have hlt:=d2b h
 have hg:s[p]? =some c:=by
  rw [getElem?_pos s p hlt]
  have h2:s.data.toList[p]? =some c:=by
   have:=congrArg List.head? h
   unfold rmn at this
   simpa [List.head?_drop] using this
  rw [List.getElem?_eq_some_iff] at h2
  obtain ⟨_,h3⟩:=h2
  rw [<- h3];rfl
 rw [Int.toNat_natCast,hg];rfl
theorem c21 {a:List UInt8} (h:rmn s p=a++rest) (hp:p <= s.size):b8d s (p:Int) ((p:Int)+(a.length:Int))=some ⟨a.toArray⟩:=by
 unfold b8d
 have:=c4w h hp
 rw [if_pos ⟨by omega,by omega,by omega⟩]
 congr 1
 apply ByteArray.ext
 apply Array.ext'
 rw [ByteArray.data_extract,Array.toList_extract,List.extract_eq_take_drop,Int.toNat_natCast,show ((p:Int)+(a.length:Int)).toNat=p+a.length by omega]
 unfold rmn at h
 rw [h,show p+a.length-p=a.length by omega,List.take_left]
end
def iv (c:UInt8):Int:=(c.toNat:Int)
def d5f (b:Bool) (c:UInt8):Bool:=e1s (iv c)||d10 (iv c)||(iv c==95)||(b&&(iv c==46))
theorem g2s {s:ByteArray} (hs:s.size <= 8000) (p:Nat) (b:Bool) (rest:List UInt8) (hr: ∀c r,rest=c::r -> d5f b c=false):
  ∀(w:List UInt8) (n k:Nat),rmn s (p+n)=w++rest -> p+n <= s.size -> (∀c∈w,d5f b c=true) -> w.length<k -> d8 k (a5h (p:Int) s b) (n:Int)=some ((n+w.length:Nat):Int):=by
 have one: ∀(n:Nat) (c:UInt8) (r:List UInt8) (rec:Int -> Option Int),rmn s (p+n)=c::r -> a5h (p:Int) s b rec (n:Int)=if d5f b c=true then rec ((n+1:Nat):Int) else some (n:Int):=by
  intro n c r rec h
  have hlt:=d2b h
  have hi:i64 ((p:Int)+(n:Int))=((p+n:Nat):Int):=by rw [j6 (by omega) (by omega)];omega
  unfold a5h
  rw [hi]
  have h3:b0v s ((p+n:Nat):Int)=some (iv c):=c51 h
  rw [if_pos (by simp;omega)]
  simp only [h3,Option.bind_some,d3a,d18,b3n,a8r]
  rw [show i64 ((n:Int)+1)=((n+1:Nat):Int) by rw [b69 (by omega) (by omega)];omega]
  rfl
 intro w
 induction w with
 | nil=>
   intro n k h hp _ hk
   obtain ⟨k,rfl⟩: ∃m,k=m+1:=⟨k-1,by simp at hk;omega⟩
   rw [j8]
   cases rest with
   | nil=>
     have h0:=d9u.1 h
     unfold a5h
     have hi:i64 ((p:Int)+(n:Int))=((p+n:Nat):Int):=by rw [j6 (by omega) (by omega)];omega
     rw [hi,if_neg (by simp;omega)]
     rfl
   | cons c r=>rw [one n c r _ h,if_neg (by rw [hr c r rfl];decide)];rfl
 | cons c w ih=>
   intro n k h hp hw hk
   have hk:w.length+1<k:=hk
   obtain ⟨k,rfl⟩: ∃m,k=m+1:=⟨k-1,by omega⟩
   have hlt:=d2b h
   rw [j8,one n c (w++rest) _ h,if_pos (hw c (by simp)),ih (n+1) k (c75 h) (by omega) (fun c hc=>hw c (List.mem_cons_of_mem _ hc)) (by omega)]
   congr 2
   simp;omega
theorem f2f {s:ByteArray} (hs:s.size <= 8000) {p:Nat} {b:Bool} {w rest:List UInt8} (h:rmn s p=w++rest) (hp:p <= s.size) (hr: ∀c r,rest=c::r -> d5f b c=false) (hw: ∀c∈w,d5f b c=true):a4v s (p:Int) b=some (w.length:Int):=by
 have hl:=c4w h hp
 have:=g2s hs p b rest hr w 0 FU h (by omega) hw (by have:=a2m;omega)
 unfold a4v
 simpa using this
def blk (b:Bool):List UInt8:=bif b then [32] else []
def e0w (c:UInt8):Bool:= !(iv c==10)&& !(iv c==35)&&(iv c != 9)&&(iv c != 13)&&(iv c != 32)
theorem e5z {s:ByteArray} (hs:s.size <= 8000) {p:Nat} {b:Bool} {w:List UInt8} (h:rmn s p=blk b++w) (hp:p <= s.size) (hw: ∀c r,w=c::r -> e0w c=true):a6u s (p:Int)=some ((p+(blk b).length:Nat):Int):=by
 have one: ∀(q k:Nat),rmn s q=w -> q <= s.size -> d8 (k+1) (a4s s) ((q:Int),false)=some (q:Int):=by
  intro q k h hq
  rw [j8]
  unfold a4s
  cases w with
  | nil=>
    have:=d9u.1 h
    rw [if_neg (by simp;omega)]
  | cons c r=>
    have hlt:=d2b h
    have h3:b0v s (q:Int)=some (iv c):=c51 h
    have hc:=hw c r rfl
    unfold e0w at hc
    simp only [Bool.and_eq_true,Bool.not_eq_true'] at hc
    obtain ⟨⟨⟨⟨h1,h2⟩,h4⟩,h5⟩,h6⟩:=hc
    rw [if_pos (by simp;omega)]
    simp only [h3,Option.bind_some,h1,h2,h4,h5,h6,Bool.false_eq_true,if_false,Bool.not_false,if_true]
 unfold a6u
 obtain ⟨m,hm⟩:=e4j
 rw [hm]
 cases b with
 | false=>exact one p (m+1) h hp
 | true=>
   have h:rmn s p=32::w:=h
   have hlt:=d2b h
   have h3:b0v s (p:Int)=some (32:Int):=c51 h
   rw [j8]
   generalize hLP:d8 (m+1) (a4s s)=LP
   unfold a4s
   rw [if_pos (by simp;omega)]
   simp only [h3,Option.bind_some,show ((32:Int)==10)=false from rfl,show ((32:Int)==35)=false from rfl,show ((32:Int) != 9)=true from rfl,show ((32:Int) != 13)=true from rfl,show ((32:Int) != 32)=false from rfl,Bool.false_eq_true,if_false,Bool.not_false,if_true]
   rw [b69 (by omega) (by omega),<- hLP,show (p:Int)+1=((p+1:Nat):Int) by omega]
   exact one (p+1) m (c75 h) (by omega)
end Go.PL
namespace Go.PL
open Go Go.SX
def c1j (p:UInt8 -> Bool) (rest:List UInt8):Prop:= ∀c r,rest=c::r -> p c=false
def e3h (c:UInt8):Bool:=[60,62,61,43,45,42,47,40,41,123,125,44,59].any fun n=>iv c==n
inductive LxOK:Tk -> List UInt8 -> List UInt8 -> Prop
 | w {c:UInt8} {w rest:List UInt8}:e1s (iv c)=true -> (∀x∈c::w,d5f false x=true) -> (c::w).length <= 12 -> c1j (d5f false) rest -> LxOK (.w ⟨(c::w).toArray⟩) (c::w) rest
 | n {c:UInt8} {w rest:List UInt8} {v:Fraction} {d:Int} {x y:ByteArray}:d10 (iv c)=true -> e1s (iv c)=false -> (∀x∈c::w,d5f true x=true) -> c1j (d5f true) rest -> a0m ⟨(c::w).toArray⟩=some (x,y,d,true) -> w6 ⟨(c::w).toArray⟩=some (v,d,true) -> LxOK (.n v d) (c::w) rest
 | d {w rest:List UInt8} {day:Int}:w.length=10 -> a2e ⟨w.toArray⟩=some (day,true) -> LxOK (.d day) (64::w) rest
 | s1 {c:UInt8} {rest:List UInt8}:e3h c=true -> (((iv c==60)=false /\ (iv c==62)=false) \/ c1j (fun c=>iv c==61||iv c==62) rest) -> LxOK (.s ⟨#[c]⟩) [c] rest
 | s2 {c c2:UInt8} {rest:List UInt8}:(c,c2)=(60,61) \/ (c,c2)=(62,61) \/ (c,c2)=(60,62) -> LxOK (.s ⟨#[c,c2]⟩) [c,c2] rest
theorem e6b {c:UInt8} {w:List UInt8}:a48 ⟨(c::w).toArray⟩=(!(48 <= c.toNat&&c.toNat <= 57)&& !c.toNat==64):=by
 unfold a48
 rw [ByteArray.toList_eq]
theorem e5d {s:ByteArray} (hs:s.size <= 8000) {q:Nat} {w rest:List UInt8} (h:rmn s q=w++rest) (hq:q <= s.size) (k:Int) (t0:Token):
  s8 (s,(q:Int),t0,k,(w.length:Int),true)=some (⟨k,⟨w.toArray⟩,(q:Int)⟩,((q+w.length:Nat):Int),0):=by
 have hl:=c4w h hq
 unfold s8
 have hi:i64 ((q:Int)+(w.length:Int))=(q:Int)+(w.length:Int):=j6 (by omega) (by omega)
 simp only [Bool.not_true,Bool.false_eq_true,if_false,hi,c21 h hq,Option.bind_some]
 rfl
theorem f0y {s:ByteArray} (hs:s.size <= 8000) {q:Nat} {c:UInt8} {rest:List UInt8} (h:rmn s q=c::rest) (h1:e3h c=true) (h2:((iv c==60)=false /\ (iv c==62)=false) \/ c1j (fun c=>iv c==61||iv c==62) rest):a3o s (q:Int)=some 1:=by
 have hlt:=d2b h
 have h3:b0v s (q:Int)=some (iv c):=c51 h
 have hj:joinC a6i (s,(q:Int))=some 1:=by
  unfold joinC a6i
  simp only [h3,Option.bind_some]
  unfold e3h at h1
  simp only [List.any_cons,List.any_nil,Bool.or_false,Bool.or_eq_true] at h1
  rcases h1 with h1 | h1 | h1 | h1 | h1 | h1 | h1 | h1 | h1 | h1 | h1 | h1 | h1<;>(rw [eq_of_beq h1];rfl)
 unfold a3o
 have hi:i64 ((q:Int)+1)=((q+1:Nat):Int):=by rw [b69 (by omega) (by omega)];omega
 rw [hi]
 by_cases hlt2:q+1<s.size
 ·rw [if_pos (by simp;omega)]
  cases rest with
  | nil=>exact absurd (d9u.1 (c75 h)) (by omega)
  | cons c2 r=>
    have hs2:b8d s (q:Int) (i64 ((q:Int)+2))=some ⟨#[c,c2]⟩:=by
     have:=c21 (s:=s) (p:=q) (a:=[c,c2]) (rest:=r) h (by omega)
     rw [j6 (by omega) (by omega)]
     exact this
    simp only [hs2,Option.bind_some,b3n]
    have key: ∀(a b:UInt8) (x:ByteArray),x=⟨#[a,b]⟩ -> (iv a==60||iv a==62)=true -> (iv b==61||iv b==62)=true -> (((⟨#[c,c2]⟩:ByteArray).toList==x.toList))=false:=by
     intro a b x hx ha hb
     subst hx
     cases he:((⟨#[c,c2]⟩:ByteArray).toList==(⟨#[a,b]⟩:ByteArray).toList) with
     | false=>rfl
     | true=>
       have he:=eq_of_beq he
       rw [ByteArray.toList_eq,ByteArray.toList_eq] at he
       have he:[c,c2]=[a,b]:=he
       injection he with e1 e2
       injection e2 with e2 _
       subst e1;subst e2
       rcases h2 with ⟨g1,g2⟩ | g
       ·rw [g1,g2] at ha;cases ha
       ·have g:=g c2 r rfl
        have g:(iv c2==61||iv c2==62)=false:=g
        rw [g] at hb;cases hb
    rw [key 60 61 b6p rfl (by decide) (by decide),key 62 61 a5w rfl (by decide) (by decide),key 60 62 b6w rfl (by decide) (by decide)]
    exact hj
 ·rw [if_neg (by simp;omega)]
  exact hj
theorem f1e {s:ByteArray} (hs:s.size <= 8000) {q:Nat} {c c2:UInt8} {rest:List UInt8} (h:rmn s q=c::c2::rest) (h1:(c,c2)=(60,61) \/ (c,c2)=(62,61) \/ (c,c2)=(60,62)):a3o s (q:Int)=some 2:=by
 have hlt:=d2b h
 have hlt2:=d2b (c75 h)
 unfold a3o
 have hi:i64 ((q:Int)+1)=((q+1:Nat):Int):=by rw [b69 (by omega) (by omega)];omega
 rw [hi,if_pos (by simp;omega)]
 have hs2:b8d s (q:Int) (i64 ((q:Int)+2))=some ⟨#[c,c2]⟩:=by
  have:=c21 (s:=s) (p:=q) (a:=[c,c2]) (rest:=rest) h (by omega)
  rw [j6 (by omega) (by omega)]
  exact this
 simp only [hs2,Option.bind_some,b3n,ByteArray.toList_eq]
 rcases h1 with h1 | h1 | h1<;>(injection h1 with e1 e2;subst e1;subst e2;rfl)
theorem f6l {s:ByteArray} (hs:s.size <= 8000) {p:Nat} {b:Bool} {t:Tk} {w rest:List UInt8} (h:rmn s p=blk b++(w++rest)) (hp:p <= s.size) (hl:LxOK t w rest):
  ∃tok,TkR tok t /\ (tok.Kind==0)=false /\ a56 s (p:Int)=some (tok,((p+(blk b).length+w.length:Nat):Int),0) /\ p+(blk b).length+w.length <= s.size /\ 1 <= w.length:=by
 have hq:rmn s (p+(blk b).length)=w++rest:=d4t h
 have hqs:=c4w h hp
 obtain ⟨q,hqe⟩: ∃q,p+(blk b).length=q:=⟨_,rfl⟩
 have hsk:(∀c r,w++rest=c::r -> e0w c=true) -> a6u s (p:Int)=some (q:Int):=fun hh=>by rw [<- hqe];exact e5z hs h hp hh
 rw [hqe] at hq hqs⊢
 have hws:=c4w hq hqs
 have head: ∀(c:UInt8) (r:List UInt8),w++rest=c::r -> e0w c=true -> ∀o,(∀v3,v3=iv c -> q<s.size -> (if e1s v3=true then
   (a4v s (q:Int) false).bind fun v5=>joinC s8 (s,(q:Int),(⟨0,a1v,0⟩:Token),1,v5,decide (v5 <= 12))
  else if d10 v3=true then
   (a4v s (q:Int) true).bind fun v10=>(b8d s (q:Int) (i64 ((q:Int)+v10))).bind fun v11=>(a0m v11).bind fun v12=>joinC s8 (s,(q:Int),(⟨0,a1v,0⟩:Token),2,v10,v12.2.2.2)
  else if (v3==64)=true then
   (if decide ((i64 ((s.size:Int)-(q:Int))) >= 11)=true then (b8d s (i64 ((q:Int)+1)) (i64 ((q:Int)+11))).bind fun v14=>(a2e v14).bind fun v15=>joinC s8 (s,(q:Int),(⟨0,a1v,0⟩:Token),3,11,v15.2)
    else joinC s8 (s,(q:Int),(⟨0,a1v,0⟩:Token),3,11,decide ((i64 ((s.size:Int)-(q:Int))) >= 11)))
  else (a3o s (q:Int)).bind fun v16=>joinC s8 (s,(q:Int),(⟨0,a1v,0⟩:Token),4,v16,decide (v16>0)))=o) -> a56 s (p:Int)=o:=by
  intro c r hw hsol o ho
  have hc:rmn s q=c::r:=by rw [hq,hw]
  have hlt:=d2b hc
  have h3:b0v s (q:Int)=some (iv c):=c51 hc
  unfold a56
  have e1:(decide ((p:Int)<0))=false:=by simp
  have e2:(decide ((p:Int)>(s.size:Int)))=false:=by simp;omega
  have e3:((q:Int)==(s.size:Int))=false:=by simp;omega
  simp only [e1,e2,b3n,Bool.or_false,Bool.false_eq_true,if_false,Option.bind_some,hsk (fun c' r' h'=>by rw [hw] at h';injection h' with a _;rw [<- a];exact hsol),e3,h3,d3a,d18]
  exact ho _ rfl hlt
 have ns: ∀c:UInt8,e0w c=true↔ ¬(iv c=10 \/ iv c=35 \/ iv c=9 \/ iv c=13 \/ iv c=32):=fun c=>by unfold e0w;simp;omega
 cases hl with
 | w h1 h2 h3 h4=>
   rename_i c w
   have hr:=f2f hs (b:=false) hq (by omega) h4 h2
   refine ⟨⟨1,⟨(c::w).toArray⟩,(q:Int)⟩,⟨rfl,rfl⟩,rfl,?_,by omega,by simp⟩
   refine head c (w++rest) rfl ((ns c).2 (by unfold e1s at h1;simp at h1;omega)) _ fun v3 hv _=> ?_
   subst hv
   rw [if_pos h1,hr,Option.bind_some,decide_eq_true (show ((c::w).length:Int) <= 12 by omega)]
   exact e5d hs hq (by omega) 1 _
 | n h1 h2 h3 h4 h5 h6=>
   rename_i c w v d x y
   have hr:=f2f hs (b:=true) hq (by omega) h4 h3
   refine ⟨⟨2,⟨(c::w).toArray⟩,(q:Int)⟩,⟨rfl,h6,?_⟩,rfl,?_,by omega,by simp⟩
   ·rw [e6b]
    unfold d10 iv at h1
    simp at h1⊢
    omega
   ·refine head c (w++rest) rfl ((ns c).2 (by unfold d10 at h1;simp at h1;omega)) _ fun v3 hv _=> ?_
    subst hv
    have hss:=c21 (s:=s) (p:=q) (a:=c::w) (rest:=rest) hq (by omega)
    rw [if_neg (by rw [h2];decide),if_pos h1,hr,Option.bind_some,j6 (by omega) (by omega),hss,Option.bind_some,h5,Option.bind_some]
    exact e5d hs hq (by omega) 2 _
 | d h1 h2=>
   rename_i w day
   have hs1:=c21 (s:=s) (p:=q+1) (a:=w) (rest:=rest) (c75 hq) (by simp at hws;omega)
   have hl11:((64:UInt8)::w).length=11:=by simp [h1]
   refine ⟨⟨3,⟨(64::w).toArray⟩,(q:Int)⟩,⟨rfl,?_,?_⟩,rfl,?_,by omega,by simp⟩
   ·show a5z ⟨(64::w).toArray⟩=some day
    unfold a5z
    have hsz:(⟨(64::w).toArray⟩:ByteArray).size=11:=by rw [c2s];exact hl11
    have h4:=c21 (s:=⟨(64::w).toArray⟩) (p:=1) (a:=w) (rest:=[]) (by simp [rmn]) (by omega)
    have h4:b8d (⟨(64::w).toArray⟩:ByteArray) 1 ((⟨(64::w).toArray⟩:ByteArray).size:Int)=some ⟨w.toArray⟩:=by
     rw [hsz]
     rw [h1] at h4
     exact h4
    rw [h4,Option.bind_some,h2]
    rfl
   ·rw [e6b];rfl
   ·refine head 64 (w++rest) rfl rfl _ fun v3 hv hlt=> ?_
    subst hv
    rw [if_neg (by decide),if_neg (by decide),if_pos (by decide),if_pos (by rw [j6 (by omega) (by omega)];simp;omega)]
    rw [b69 (by omega) (by omega),j6 (n:=(q:Int)+11) (by omega) (by omega)]
    have hs1:b8d s ((q:Int)+1) ((q:Int)+11)=some ⟨w.toArray⟩:=by
     rw [h1] at hs1
     rw [show (q:Int)+1=((q+1:Nat):Int) by omega,show (q:Int)+11=((q+1:Nat):Int)+((10:Nat):Int) by omega]
     exact hs1
    rw [hs1,Option.bind_some,h2,Option.bind_some]
    have:=e5d hs hq (by omega) 3 ⟨0,a1v,0⟩
    rw [hl11] at this⊢
    exact this
 | s1 h1 h2=>
   rename_i c
   have hs1:=f0y hs (rest:=rest) hq h1 h2
   have h10:iv c=60 \/ iv c=62 \/ iv c=61 \/ iv c=43 \/ iv c=45 \/ iv c=42 \/ iv c=47 \/ iv c=40 \/ iv c=41 \/ iv c=123 \/ iv c=125 \/ iv c=44 \/ iv c=59:=by
    unfold e3h at h1
    simpa using h1
   refine ⟨⟨4,⟨#[c]⟩,(q:Int)⟩,⟨rfl,rfl⟩,rfl,?_,by omega,by simp⟩
   refine head c rest rfl ((ns c).2 (by omega)) _ fun v3 hv _=> ?_
   subst hv
   rw [if_neg (by unfold e1s;simp;omega),if_neg (by unfold d10;simp;omega),if_neg (by simp;omega),hs1,Option.bind_some]
   exact e5d hs hq (by omega) 4 _
 | s2 h1=>
   rename_i c c2
   have hs1:=f1e hs (rest:=rest) hq h1
   have h10:iv c=60 \/ iv c=62:=by rcases h1 with h1 | h1 | h1<;>(injection h1 with e1 e2;subst e1;subst e2;decide)
   refine ⟨⟨4,⟨#[c,c2]⟩,(q:Int)⟩,⟨rfl,rfl⟩,rfl,?_,by omega,by simp⟩
   refine head c (c2::rest) rfl ((ns c).2 (by omega)) _ fun v3 hv _=> ?_
   subst hv
   rw [if_neg (by unfold e1s;simp;omega),if_neg (by unfold d10;simp;omega),if_neg (by simp;omega),hs1,Option.bind_some]
   exact e5d hs hq (by omega) 4 _
structure Lx where
 t:Tk
 w:List UInt8
 sp:Bool
def a05:List Lx -> List UInt8
 | []=>[]
 | l::ls=>l.w++(blk l.sp++a05 ls)
def okL:List Lx -> Prop
 | []=>True
 | l::ls=>LxOK l.t l.w (blk l.sp++a05 ls) /\ okL ls
theorem g2v {s:ByteArray} (hs:s.size <= 8000): ∀(ls:List Lx) (p:Nat) (b:Bool) (acc:List Token) (k:Nat),rmn s p=blk b++a05 ls -> p <= s.size -> okL ls -> acc.length <= p -> ls.length<k ->
  ∃toks,d8 k (a5c s) (acc,(p:Int))=some (acc++toks,0,0) /\ p9 TkR toks (ls.map (·.t)) /\ acc.length+toks.length <= s.size:=by
 intro ls
 induction ls with
 | nil=>
   intro p b acc k h hp _ ha hk
   obtain ⟨k,rfl⟩: ∃m,k=m+1:=⟨k-1,by simp at hk;omega⟩
   have hsk:=e5z (w:=[]) hs h hp (fun _ _ h=>by cases h)
   have hq:rmn s (p+(blk b).length)=[]:=d4t (rest:=[]) h
   have hq2:=c4w (rest:=[]) h hp
   have hq1:=d9u.1 hq
   refine ⟨[],?_,trivial,by simp;omega⟩
   rw [j8]
   unfold a5c a56
   have e1:(decide ((p:Int)<0))=false:=by simp
   have e2:(decide ((p:Int)>(s.size:Int)))=false:=by simp;omega
   have e3:(((p+(blk b).length:Nat):Int)==(s.size:Int))=true:=by simp;omega
   simp only [e1,e2,b3n,Bool.or_false,Bool.false_eq_true,if_false,Option.bind_some,hsk,e3,if_true,List.append_nil,show ((0:Int) != 0)=false from rfl,BEq.rfl]
 | cons l ls ih=>
   intro p b acc k h hp hok ha hk
   have hk:ls.length+1<k:=hk
   obtain ⟨k,rfl⟩: ∃m,k=m+1:=⟨k-1,by omega⟩
   obtain ⟨tok,ht,hkd,hn,hle,h1⟩:=f6l hs h hp hok.1
   have hrm:rmn s (p+(blk b).length+l.w.length)=blk l.sp++a05 ls:=d4t (d4t h)
   obtain ⟨toks,e,hrel,hlen⟩:=ih (p+(blk b).length+l.w.length) l.sp (acc++[tok]) k hrm hle hok.2 (by simp;omega) (by omega)
   refine ⟨tok::toks,?_,⟨ht,hrel⟩,by simp at hlen ⊢; omega⟩
   rw [j8]
   generalize hLP:d8 k (a5c s)=LP at e⊢
   unfold a5c
   simp only [hn,Option.bind_some,show ((0:Int) != 0)=false from rfl,Bool.false_eq_true,if_false,hkd]
   rw [show a9h 32 acc [tok]=some (acc++[tok]) from b1t (by simp;omega),Option.bind_some,e,List.append_assoc]
   rfl
theorem e2y {s:ByteArray} (hs:s.size <= 8000) (ls:List Lx) (h:s.data.toList=a05 ls) (hok:okL ls) (hl:ls.length <= 8000): ∃toks,a7v s=some (toks,0,0) /\ p9 TkR toks (ls.map (·.t)) /\ toks.length <= 8000:=by
 obtain ⟨toks,e,h1,h2⟩:=g2v hs ls 0 false [] FU h (Nat.zero_le _) hok (Nat.zero_le _) (by have:=a2m;omega)
 refine ⟨toks,?_,h1,by simp at h2;omega⟩
 unfold a7v
 rw [if_neg (by simp;omega)]
 exact e
end Go.PL
namespace Go.PL
open Go Go.SX
def e0v (l:List UInt8):Int:=l.foldl (fun x c=>x*10+(iv c-48)) 0
theorem c7k (l:List UInt8) (c:UInt8):e0v (l++[c])=e0v l*10+(iv c-48):=by simp [e0v]
theorem f5u {d:Nat} (h:d<10):iv (UInt8.ofNat (48+d))=48+(d:Int):=by
 have:d=0 \/ d=1 \/ d=2 \/ d=3 \/ d=4 \/ d=5 \/ d=6 \/ d=7 \/ d=8 \/ d=9:=by omega
 rcases this with rfl | rfl | rfl | rfl | rfl | rfl | rfl | rfl | rfl | rfl<;>rfl
structure Dg (n:Nat) (l:List UInt8):Prop where
 dig: ∀c∈l,d10 (iv c)=true
 val:e0v l=(n:Int)
 ne:l≠[]
 hd:1<l.length -> ∀c r,l=c::r -> iv c≠48
theorem e53: ∀(k u:Nat),u<10^(k+1) -> Dg u (a8z k u):=by
 have one: ∀u,u<10 -> Dg u [UInt8.ofNat (48+u)]:=fun u hu=>by
  have h:=f5u hu
  exact ⟨fun c hc=>by rw [List.mem_singleton] at hc;subst hc;rw [h];unfold d10;simp;omega,by show (0:Int)*10+(iv (UInt8.ofNat (48+u))-48)=_;rw [h];omega,by simp,fun h=>by simp at h⟩
 intro k
 induction k with
 | zero=>intro u h;exact one u (by simpa using h)
 | succ k ih=>
   intro u h
   unfold a8z
   split
   ·exact one u (by assumption)
   ·rename_i hu
    have hq:=ih (u/10) (by rw [Nat.pow_succ] at h;omega)
    have h:=f5u (d:=u%10) (by omega)
    refine ⟨fun c hc=> ?_,?_,by simp,fun hl c r he=> ?_⟩
    ·rcases List.mem_append.1 hc with hc | hc
     ·exact hq.dig c hc
     ·rw [List.mem_singleton] at hc;subst hc;rw [h];unfold d10;simp;omega
    ·rw [c7k,hq.val,h];omega
    ·cases hb:a8z k (u/10) with
     | nil=>exact absurd hb hq.ne
     | cons x y=>
       rw [hb] at he
       have hx:x=c:=by injection he
       subst hx
       cases y with
       | nil=>
         have:=hq.val
         rw [hb] at this
         simp [e0v] at this
         omega
       | cons z t=>exact hq.hd (by rw [hb];simp) x (z::t) hb
theorem c2g: ∀(k u m:Nat),u<10^(m+1) -> (a8z k u).length <= m+1
 | 0,u,m,h=>by simp [a8z]
 | k+1,u,m,h=>by
   unfold a8z
   split
   ·simp
   ·rename_i hu
    cases m with
    | zero=>simp at h;omega
    | succ m=>
      have:=c2g k (u/10) m (by rw [Nat.pow_succ] at h;omega)
      simp;omega
theorem e7l {d:Nat} (h:d<10):b8d a4f (d:Int) (i64 ((d:Int)+1))=some ⟨#[UInt8.ofNat (48+d)]⟩:=by
 have:d=0 \/ d=1 \/ d=2 \/ d=3 \/ d=4 \/ d=5 \/ d=6 \/ d=7 \/ d=8 \/ d=9:=by omega
 rcases this with rfl | rfl | rfl | rfl | rfl | rfl | rfl | rfl | rfl | rfl<;>rfl
theorem d3t {a b:List UInt8} (h:a.length+b.length <= 100000):a4o ⟨a.toArray⟩ ⟨b.toArray⟩=some ⟨(a++b).toArray⟩:=by
 unfold a4o
 rw [if_pos (by rw [c2s,c2s];simp;omega)]
 congr 1
theorem e7p: ∀(k u:Nat) (acc:List UInt8) (j:Nat),u<10^(k+1) -> u<1000000 -> acc.length+k <= 1000 -> k<j -> d8 j a0w ((u:Int),⟨acc.toArray⟩)=some ⟨(a8z k u++acc).toArray⟩:=by
 have last: ∀(u:Nat) (acc:List UInt8) (r:(Int×ByteArray) -> Option ByteArray),u<10 -> acc.length <= 1000 -> a0w r ((u:Int),⟨acc.toArray⟩)=some ⟨([UInt8.ofNat (48+u)]++acc).toArray⟩:=by
  intro u acc r hu ha
  unfold a0w
  rw [if_neg (by simp;omega)]
  show (b8d a4f (u:Int) (i64 ((u:Int)+1))).bind _=_
  rw [e7l hu,Option.bind_some]
  have:=d3t (a:=[UInt8.ofNat (48+u)]) (b:=acc) (by simp;omega)
  show (a4o ⟨#[UInt8.ofNat (48+u)]⟩ ⟨acc.toArray⟩).bind _=_
  rw [show (⟨#[UInt8.ofNat (48+u)]⟩:ByteArray)=⟨[UInt8.ofNat (48+u)].toArray⟩ from rfl,this,Option.bind_some]
 intro k
 induction k with
 | zero=>
   intro u acc j h _ ha hj
   obtain ⟨j,rfl⟩: ∃m,j=m+1:=⟨j-1,by omega⟩
   rw [j8]
   exact last u acc _ (by simpa using h) (by omega)
 | succ k ih=>
   intro u acc j h h6 ha hj
   obtain ⟨j,rfl⟩: ∃m,j=m+1:=⟨j-1,by omega⟩
   rw [j8]
   unfold a8z
   split
   ·exact last u acc _ (by assumption) (by omega)
   ·rename_i hu
    have ih:=ih (u/10) (UInt8.ofNat (48+u%10)::acc) j (by rw [Nat.pow_succ] at h;omega) (by omega) (by simp;omega) (by omega)
    generalize d8 j a0w=LP at ih⊢
    unfold a0w
    rw [if_pos (by simp;omega)]
    have hr:b5l (u:Int) 10=some ((u%10:Nat):Int):=by unfold b5l;rw [if_neg (by decide),Int.tmod_eq_emod_of_nonneg (by omega)];congr 1
    have hq:b55 (u:Int) 10=some ((u/10:Nat):Int):=by unfold b55;rw [if_neg (by decide),Int.tdiv_eq_ediv_of_nonneg (by omega),j6 (by omega) (by omega)];congr 1
    simp only [hr,hq,Option.bind_some,e7l (show u%10<10 by omega)]
    have:=d3t (a:=[UInt8.ofNat (48+u%10)]) (b:=acc) (by simp;omega)
    rw [show (⟨#[UInt8.ofNat (48+u%10)]⟩:ByteArray)=⟨[UInt8.ofNat (48+u%10)].toArray⟩ from rfl,this,Option.bind_some,List.append_assoc]
    exact ih
theorem b7t {u:Nat} (h:u<1000000):k7 (u:Int)=some ⟨(a8z 20 u).toArray⟩:=by
 have:=e7p 20 u [] FU (by omega) h (by decide) (by have:=a2m;omega)
 rw [List.append_nil] at this
 exact this
end Go.PL
namespace Go.PL
open Go Go.SX
theorem d41 (l:List UInt8):(⟨l.toArray⟩:ByteArray).size=l.length:=by rw [c2s]
theorem b8h {l:List UInt8} {i:Nat} {c:UInt8} (h:l[i]? =some c):b0v ⟨l.toArray⟩ (i:Int)=some (iv c):=by
 refine c51 (rest:=l.drop (i+1)) ?_
 unfold rmn
 have hlt:=(List.getElem?_eq_some_iff.1 h).1
 show l.drop i=_
 rw [List.drop_eq_getElem_cons hlt,(List.getElem?_eq_some_iff.1 h).2]
theorem d51 {a b:List UInt8}:b8d ⟨(a++b).toArray⟩ 0 (a.length:Int)=some ⟨a.toArray⟩:=by
 have:=c21 (s:=⟨(a++b).toArray⟩) (p:=0) (a:=a) (rest:=b) rfl (Nat.zero_le _)
 simpa using this
theorem b90 {c:UInt8} (h:d10 (iv c)=true):48 <= iv c /\ iv c <= 57:=by unfold d10 at h;simpa using h
section
variable {n:Nat} {l:List UInt8}
theorem c4s (h:Dg n l) (hl:l.length <= 9) (d:Int):joinC a41 (⟨l.toArray⟩,d)=some (⟨l.toArray⟩,a1v,d,true):=by
 have hpos:1 <= l.length:=by cases l with | nil=>exact absurd rfl h.ne | cons _ _=>simp
 have j2: ∀(m i k:Nat),i+m=l.length -> m<k -> d8 k (a42 (d,⟨l.toArray⟩,a1v)) (i:Int)=some (⟨l.toArray⟩,a1v,d,true):=by
  intro m
  induction m with
  | zero=>
    intro i k hi hk
    obtain ⟨k,rfl⟩: ∃m,k=m+1:=⟨k-1,by omega⟩
    rw [j8]
    unfold a42
    have hz:i64 ((l.length:Int)+(a1v.size:Int))=(l.length:Int):=by
     have h0:(l.length:Int)+(a1v.size:Int)=(l.length:Int):=by rw [show a1v.size=0 from rfl];simp
     rw [h0,j6 (by omega) (by omega)]
    simp only [d41,hz]
    rw [if_neg (by simp;omega)]
    have e1:decide ((l.length:Int)<1)=false:=by simp;omega
    have e2:decide ((l.length:Int)>9)=false:=by simp;omega
    simp only [e1,e2,Bool.false_eq_true,if_false,Option.bind_some]
    by_cases h1:1<l.length
    ·cases hc:l with
     | nil=>exact absurd hc h.ne
     | cons c r=>
       have hc0:=h.hd h1 c r hc
       rw [hc] at h1
       have e3:decide (((c::r).length:Int)>1)=true:=by simp at h1 ⊢; omega
       have h0:b0v ⟨(c::r).toArray⟩ 0=some (iv c):=b8h (i:=0) rfl
       have e4:(iv c==48)=false:=by simpa using hc0
       simp only [e3,if_true,h0,Option.bind_some,e4,Bool.false_eq_true,if_false]
    ·have e3:decide ((l.length:Int)>1)=false:=by simp;omega
     simp only [e3,Bool.false_eq_true,if_false,Option.bind_some]
  | succ m ih=>
    intro i k hi hk
    obtain ⟨k,rfl⟩: ∃m,k=m+1:=⟨k-1,by omega⟩
    have ih:=ih (i+1) k (by omega) (by omega)
    rw [j8]
    generalize d8 k (a42 (d,⟨l.toArray⟩,a1v))=LP at ih⊢
    unfold a42
    have hz:i64 ((l.length:Int)+(a1v.size:Int))=(l.length:Int):=by
     have h0:(l.length:Int)+(a1v.size:Int)=(l.length:Int):=by rw [show a1v.size=0 from rfl];simp
     rw [h0,j6 (by omega) (by omega)]
    have hc:a4o ⟨l.toArray⟩ a1v=some ⟨l.toArray⟩:=by have:=d3t (a:=l) (b:=[]) (by simp;omega);rw [List.append_nil] at this;exact this
    obtain ⟨c,hcc⟩: ∃c,l[i]? =some c:=⟨l[i]'(by omega),List.getElem?_eq_getElem (by omega)⟩
    simp only [d41,hz]
    rw [if_pos (by simp;omega)]
    simp only [hc,Option.bind_some,b8h hcc,d18,h.dig c (List.mem_of_getElem? hcc),Bool.not_true,Bool.false_eq_true,if_false]
    rw [b69 (by omega) (by omega)]
    exact ih
 have j1: ∀(m k:Nat),m <= l.length -> m<k -> d8 k (a43 (⟨l.toArray⟩,d)) (((⟨l.toArray⟩:ByteArray).size:Int),(m:Int)-1)=some (⟨l.toArray⟩,a1v,d,true):=by
  intro m
  induction m with
  | zero=>
    intro k _ hk
    obtain ⟨k,rfl⟩: ∃m,k=m+1:=⟨k-1,by omega⟩
    rw [j8]
    unfold a43
    have hs:b8d ⟨l.toArray⟩ 0 (l.length:Int)=some ⟨l.toArray⟩:=by have:=d51 (a:=l) (b:=[]);rw [List.append_nil] at this;exact this
    rw [if_neg (by simp)]
    simp only [d41,hs,Option.bind_some,decide_eq_false (show¬(l.length:Int)<(l.length:Int) by omega),Bool.false_eq_true,if_false]
    exact j2 l.length 0 FU (by omega) (by have:=a2m;omega)
  | succ m ih=>
    intro k hm hk
    obtain ⟨k,rfl⟩: ∃m,k=m+1:=⟨k-1,by omega⟩
    have ih:=ih k (by omega) (by omega)
    rw [j8]
    generalize d8 k (a43 (⟨l.toArray⟩,d))=LP at ih⊢
    unfold a43
    obtain ⟨c,hcc⟩: ∃c,l[m]? =some c:=⟨l[m]'(by omega),List.getElem?_eq_getElem (by omega)⟩
    have hr:=b90 (h.dig c (List.mem_of_getElem? hcc))
    have e:((m+1:Nat):Int)-1=(m:Int):=by omega
    simp only [e]
    rw [if_pos (by simp)]
    have e46:(iv c==46)=false:=by simp;omega
    simp only [b8h hcc,Option.bind_some,e46,Bool.false_eq_true,if_false]
    rw [j6 (by omega) (by omega)]
    exact ih
 unfold joinC a41
 have:=j1 l.length FU (Nat.le_refl _) (by have:=a2m;omega)
 rw [d41] at this⊢
 rw [j6 (by omega) (by omega)]
 exact this
def g2t:List UInt8 -> Int -> Prop:=fun s d=>(s=[] /\ d=2) \/ (s=[100] /\ d=3) \/ (s=[109] /\ d=4)
theorem c85 (h:Dg n l) (hl:l.length <= 9) {s:List UInt8} {d:Int} (hs:g2t s d):a0m ⟨(l++s).toArray⟩=some (⟨l.toArray⟩,a1v,d,true):=by
 obtain ⟨m,c,rfl⟩: ∃m c,l=m++[c]:=by
  rcases List.eq_nil_or_concat l with h0 | ⟨m,c,h0⟩
  ·exact absurd h0 h.ne
  ·exact ⟨m,c,by simpa using h0⟩
 have hr:=b90 (h.dig c (by simp))
 have hlen:(m++[c]).length=m.length+1:=by simp
 unfold a0m
 rcases hs with ⟨rfl,rfl⟩ | ⟨rfl,rfl⟩ | ⟨rfl,rfl⟩
 ·simp only [List.append_nil]
  have hz:((⟨(m++[c]).toArray⟩:ByteArray).size:Int)=(m.length:Int)+1:=by rw [d41,hlen];rfl
  have e0:decide ((m.length:Int)+1>0)=true:=by simp
  have e1:b0v ⟨(m++[c]).toArray⟩ (i64 ((m.length:Int)+1-1))=some (iv c):=by
   rw [j6 (by omega) (by omega),show (m.length:Int)+1-1=(m.length:Int) by omega]
   exact b8h (by simp)
  have e2:(iv c==100)=false:=by simp;omega
  have e3:(iv c==109)=false:=by simp;omega
  simp only [hz,e0,if_true,e1,Option.bind_some,e2,e3,Bool.false_eq_true,if_false]
  exact c4s h hl 2
 ·have hz:((⟨(m++[c]++[100]).toArray⟩:ByteArray).size:Int)=(m.length:Int)+2:=by rw [d41];simp
  have e0:decide ((m.length:Int)+2>0)=true:=by simp;omega
  have e9:i64 ((m.length:Int)+2-1)=((m++[c]).length:Int):=by rw [j6 (by omega) (by omega),hlen];omega
  have e1:b0v ⟨(m++[c]++[100]).toArray⟩ ((m++[c]).length:Int)=some 100:=b8h (c:=100) (by simp)
  simp only [hz,e0,if_true,e9,e1,Option.bind_some,BEq.rfl,d51]
  exact c4s h hl 3
 ·have hz:((⟨(m++[c]++[109]).toArray⟩:ByteArray).size:Int)=(m.length:Int)+2:=by rw [d41];simp
  have e0:decide ((m.length:Int)+2>0)=true:=by simp;omega
  have e9:i64 ((m.length:Int)+2-1)=((m++[c]).length:Int):=by rw [j6 (by omega) (by omega),hlen];omega
  have e1:b0v ⟨(m++[c]++[109]).toArray⟩ ((m++[c]).length:Int)=some 109:=b8h (c:=109) (by simp)
  simp only [hz,e0,if_true,e9,e1,Option.bind_some,BEq.rfl,d51,show ((109:Int)==100)=false from rfl,Bool.false_eq_true,if_false]
  exact c4s h hl 4
theorem f9l: ∀(l:List UInt8) (x:Int) (N:Nat),(∀c∈l,d10 (iv c)=true) -> 0 <= x -> x<10^N ->
  0 <= l.foldl (fun x c=>x*10+(iv c-48)) x /\ l.foldl (fun x c=>x*10+(iv c-48)) x<10^(N+l.length):=by
 intro l
 induction l with
 | nil=>intro x N _ h0 h1;exact ⟨h0,h1⟩
 | cons c l ih=>
   intro x N hd h0 h1
   have h2:=b90 (hd c (by simp))
   have:=ih (x*10+(iv c-48)) (N+1) (fun y hy=>hd y (by simp [hy])) (by omega) (by rw [Int.pow_succ];omega)
   rw [List.foldl_cons,List.length_cons,show N+(l.length+1)=N+1+l.length by omega]
   exact this
theorem c4g (l:List UInt8) (h: ∀c∈l,d10 (iv c)=true):0 <= e0v l /\ e0v l<10^l.length:=by
 have:=f9l l 0 0 h (by decide) (by decide)
 rw [Nat.zero_add] at this
 exact this
end
end Go.PL
namespace Go.PL
open Go Go.SX
theorem c9i: ∃m,FU=m+1+1:=⟨FU-2,by have:=a2m;omega⟩
theorem g51 {n:Int} (h:0 <= n):b5l n 1=some 0:=by rw [c4p (by decide),c89 h];simp
theorem quo1 {n:Int} (h:0 <= n) (h1:n <= 9223372036854775807):b55 n 1=some n:=by rw [d6f (by decide),Int.tdiv_one,j6 (by omega) h1]
theorem g6m {n:Int} (h0:0 <= n) (h1:n <= 1000000000000000):a3i ⟨0,n⟩ 1=some (⟨0,n⟩,0):=by
 unfold a3i
 simp only [show b5l 0 1=some 0 from rfl,Option.bind_some]
 have hD:c0i 0 n 1=some (n,0):=by
  unfold c0i joinC c32 joinC c2m
  simp only [show ((1:Int)==0)=false from rfl,show decide ((1:Int) <= 0)=false from rfl,Bool.false_eq_true,if_false,BEq.rfl,if_true,show¬((1:Int)=0) by decide,Int.tdiv_one,g51 h0,Option.bind_some,e55 h0 (show n <= 18446744073709551615 by omega)]
 simp only [hD,Option.bind_some,show¬((1:Int)=0) by decide,if_false]
 rfl
theorem g6c {n:Int} (h0:0 <= n):a2b n 1=some 1:=by
 unfold a2b
 obtain ⟨m,hm⟩:=c9i
 rw [hm,j8]
 unfold b0e
 simp only [show ((1:Int) != 0)=true from rfl,if_true,g51 h0,Option.bind_some]
 rw [j8]
 simp only [show ((0:Int) != 0)=false from rfl,Bool.false_eq_true,if_false]
theorem g0h:a2b 1 0=some 1:=by
 unfold a2b
 obtain ⟨m,hm⟩:=c9i
 rw [hm,j8]
 rfl
theorem g6l {n:Int} (h0:0 <= n) (h1:n <= 1000000000000000):a3k n 1=some (⟨n,1⟩,0):=by
 unfold a3k
 obtain ⟨x,hx,_,_,e⟩:=c6i n
 have e:=e h0 (by omega)
 subst e
 unfold b09
 have hd:decide (x<0)=false:=by simp;omega
 have hd2:decide (x>1000000000000000)=false:=by simp;omega
 simp only [show ((1:Int)==0)=false from rfl,Bool.false_eq_true,if_false,hx,show a2k 1=some 1 from rfl,Option.bind_some,g6m h0 h1,g0h,show¬((1:Int)=0) by decide,hd,hd2,show u64 (Int.tdiv 1 1)=1 from rfl,show ((0:Int) != 0)=false from rfl,show decide ((1:Int)>1000000000)=false from rfl,show decide ((1:Int)<0)=false from rfl,bne_self_eq_false,j6 (show-9223372036854775808 <= x by omega) (show x <= 9223372036854775807 by omega),show i64 1=1 from rfl]
theorem g39 {n:Int} (h0:0 <= n) (h1:n <= 1000000000000000):y8 ⟨n,1⟩=some true:=by
 unfold y8
 obtain ⟨x,hx,_,_,e⟩:=c6i n
 have e:=e h0 (by omega)
 subst e
 have hd:decide (x >= -1000000000000000)=true:=by simp;omega
 have hd2:decide (x <= 1000000000000000)=true:=by simp;omega
 simp only [show decide ((1:Int) >= 1)=true from rfl,show decide ((1:Int) <= 1000000000)=true from rfl,if_true,Option.bind_some,hd,hd2,hx,show u64 1=1 from rfl,g6c h0,BEq.rfl]
section
variable {n:Nat} {l:List UInt8}
theorem e3u (h:Dg n l) (hl:l.length <= 9) {s:List UInt8} {d:Int} (hs:g2t s d):w6 ⟨(l++s).toArray⟩=some (⟨(n:Int),1⟩,d,true):=by
 unfold w6
 rw [c85 h hl hs,Option.bind_some]
 simp only [Bool.not_true,Bool.false_eq_true,if_false]
 have hv:=c4g l h.dig
 have hp:(10:Int)^l.length <= 1000000000:=by
  have:(10:Nat)^l.length <= 10^9:=Nat.pow_le_pow_right (by decide) hl
  have h2:((10^l.length:Nat):Int) <= ((10^9:Nat):Int):=by exact_mod_cast this
  simpa using h2
 have go: ∀(b a:List UInt8) (k:Nat),a++b=l -> b.length<k -> d8 k (a2t (⟨l.toArray⟩,a1v,d,true)) ((⟨0,0⟩:Fraction),e0v a,1,(a.length:Int))=some (⟨(n:Int),1⟩,d,true):=by
  intro b
  induction b with
  | nil=>
    intro a k ha hk
    obtain ⟨k,rfl⟩: ∃m,k=m+1:=⟨k-1,by omega⟩
    rw [List.append_nil] at ha
    subst ha
    rw [j8]
    unfold a2t
    have hz:i64 ((a.length:Int)+(a1v.size:Int))=(a.length:Int):=by
     have h0:(a.length:Int)+(a1v.size:Int)=(a.length:Int):=by rw [show a1v.size=0 from rfl];simp
     rw [h0,j6 (by omega) (by omega)]
    simp only [d41,hz]
    rw [if_neg (by simp),h.val,g6l (by omega) (by rw [<- h.val];omega)]
    rfl
  | cons c b ih=>
    intro a k ha hk
    have hk:b.length+1<k:=hk
    obtain ⟨k,rfl⟩: ∃m,k=m+1:=⟨k-1,by omega⟩
    have ih:=ih (a++[c]) k (by rw [List.append_assoc];exact ha) (by omega)
    have hlen:a.length+1+b.length=l.length:=by rw [<- ha];simp;omega
    have hc:c∈l:=by rw [<- ha];simp
    have hcd:=b90 (h.dig c hc)
    have hva:=c4g (a++[c]) fun x hx=>h.dig x (by rw [<- ha];simp at hx ⊢; rcases hx with hx | hx<;>simp [hx])
    have hpa:(10:Int)^(a++[c]).length <= 1000000000:=by
     have:(10:Nat)^(a++[c]).length <= 10^9:=Nat.pow_le_pow_right (by decide) (by simp;omega)
     have h2:((10^(a++[c]).length:Nat):Int) <= ((10^9:Nat):Int):=by exact_mod_cast this
     simpa using h2
    have hva0:=c4g a fun x hx=>h.dig x (by rw [<- ha];simp [hx])
    rw [c7k] at ih hva
    rw [j8]
    generalize d8 k (a2t (⟨l.toArray⟩,a1v,d,true))=LP at ih⊢
    unfold a2t
    have hz:i64 ((l.length:Int)+(a1v.size:Int))=(l.length:Int):=by
     have h0:(l.length:Int)+(a1v.size:Int)=(l.length:Int):=by rw [show a1v.size=0 from rfl];simp
     rw [h0,j6 (by omega) (by omega)]
    have hct:a4o ⟨l.toArray⟩ a1v=some ⟨l.toArray⟩:=by have:=d3t (a:=l) (b:=[]) (by simp;omega);rw [List.append_nil] at this;exact this
    have hget:l[a.length]? =some c:=by rw [<- ha];simp
    simp only [d41,hz]
    rw [if_pos (by simp;omega)]
    simp only [hct,Option.bind_some,b8h hget]
    rw [if_neg (by simp;omega)]
    have e1:i64 (e0v a*10)=e0v a*10:=j6 (by omega) (by omega)
    have e2:i64 (IntKind.u8.wrap (iv c-48))=iv c-48:=by
     have:IntKind.u8.wrap (iv c-48)=iv c-48:=by
      unfold IntKind.wrap
      simp [IntKind.bits,IntKind.signed]
      omega
     rw [this,j6 (by omega) (by omega)]
    rw [e1,e2,j6 (by omega) (by omega),b69 (by omega) (by omega)]
    have hl2:((a++[c]).length:Int)=(a.length:Int)+1:=by simp
    rw [hl2] at ih
    exact ih
 exact go l [] FU rfl (by have:=a2m;omega)
theorem e1w {n:Int} (h0:0 <= n) (h1:n <= 100000) {d:Int} (h2:2 <= d) (h3:d <= 4): ∃s,s4 ⟨n,1⟩ d=some (s,true):=by
 unfold s4
 obtain ⟨x,hx,hxs⟩:=c1r (n:=n) h0 (by omega)
 have d1:decide (n<0)=false:=by simp;omega
 have d2:decide (d<2)=false:=by simp;omega
 have d3:decide (d>4)=false:=by simp;omega
 have d4:decide (n>999999999)=false:=by simp;omega
 have e1:i64 (n*1)=n:=by rw [Int.mul_one];exact j6 (by omega) (by omega)
 have e2:i64 (i64 (n-n)*10000)=0:=by rw [show n-n=0 by omega];rfl
 simp only [g39 h0 (show n <= 1000000000000000 by omega),Option.bind_some,Bool.not_true,Bool.false_eq_true,if_false,d1,show b5l 10000 1=some 0 from rfl,bne_self_eq_false,d2,d3,quo1 h0 (show n <= 9223372036854775807 by omega),d4,hx,show b55 10000 1=some 10000 from rfl,e1,e2,show decide ((0:Int)>0)=false from rfl]
 unfold joinC a47
 obtain ⟨m,hm⟩:=c9i
 rw [hm,j8]
 unfold a7m
 simp only [show decide ((0:Int)>0)=false from rfl,Bool.false_eq_true,if_false]
 rw [show i64 (d-2)=d-2 from j6 (by omega) (by omega)]
 obtain ⟨y,hy,hm⟩:=b04 (l:=[a1v,f1c,f1t]) (i:=d-2) (by omega) (by simp;omega)
 have hx1:y.size <= 1:=by
  simp at hm
  rcases hm with rfl | rfl | rfl<;>decide
 obtain ⟨z,hz,_⟩:=i8 (a:=x) (b:=y) (by omega)
 simp only [hy,hz,Option.bind_some]
 exact ⟨_,rfl⟩
end
end Go.PL
namespace Go.PL
open Go Go.SX
theorem e6c {l:List UInt8} (h: ∀c∈l,c≠46):f7f ⟨l.toArray⟩ 46= -1:=by
 unfold f7f
 have:(List.range (⟨l.toArray⟩:ByteArray).size).find? (fun i=>(⟨l.toArray⟩:ByteArray)[i]! ==(46:Int).toNat.toUInt8)=none:=by
  rw [List.find?_eq_none]
  intro i hi
  rw [List.mem_range,d41] at hi
  have e:(⟨l.toArray⟩:ByteArray)[i]! =l[i]:=by
   rw [getElem!_pos _ i (by rw [d41];exact hi)]
   rfl
  rw [e]
  have:=h l[i] (List.getElem_mem hi)
  simpa using this
 rw [this]
section
variable {n:Nat} {l:List UInt8}
theorem Dg.no46 (h:Dg n l): ∀c∈l,c≠46:=by
 intro c hc he
 have:=b90 (h.dig c hc)
 subst he
 revert this
 decide
theorem e4u (h:Dg n l) (hl:l.length <= 9):a6k ⟨l.toArray⟩=some ((n:Int),true):=by
 unfold a6k
 have go: ∀(b a:List UInt8) (k:Nat),a++b=l -> b.length<k -> d8 k (a6z ⟨l.toArray⟩) (e0v a,(a.length:Int))=some ((n:Int),true):=by
  intro b
  induction b with
  | nil=>
    intro a k ha hk
    obtain ⟨k,rfl⟩: ∃m,k=m+1:=⟨k-1,by omega⟩
    rw [List.append_nil] at ha
    subst ha
    rw [j8]
    unfold a6z
    simp only [d41]
    rw [if_neg (by simp),h.val]
  | cons c b ih=>
    intro a k ha hk
    have hk:b.length+1<k:=hk
    obtain ⟨k,rfl⟩: ∃m,k=m+1:=⟨k-1,by omega⟩
    have ih:=ih (a++[c]) k (by rw [List.append_assoc];exact ha) (by omega)
    have hlen:a.length+1+b.length=l.length:=by rw [<- ha];simp;omega
    have hc:c∈l:=by rw [<- ha];simp
    have hcd:=b90 (h.dig c hc)
    have hva:=c4g (a++[c]) fun x hx=>h.dig x (by rw [<- ha];simp at hx ⊢; rcases hx with hx | hx<;>simp [hx])
    have hpa:(10:Int)^(a++[c]).length <= 1000000000:=by
     have:(10:Nat)^(a++[c]).length <= 10^9:=Nat.pow_le_pow_right (by decide) (by simp;omega)
     have h2:((10^(a++[c]).length:Nat):Int) <= ((10^9:Nat):Int):=by exact_mod_cast this
     simpa using h2
    have hva0:=c4g a fun x hx=>h.dig x (by rw [<- ha];simp [hx])
    rw [c7k] at ih hva
    rw [j8]
    generalize d8 k (a6z ⟨l.toArray⟩)=LP at ih⊢
    unfold a6z b88
    have hget:l[a.length]? =some c:=by rw [<- ha];simp
    have d1:decide (iv c >= 48)=true:=by simp;omega
    have d2:decide (iv c <= 57)=true:=by simp;omega
    simp only [d41]
    rw [if_pos (by simp;omega)]
    simp only [Option.bind_some,b8h hget,d1,d2,if_true,Bool.not_true,Bool.false_eq_true,if_false]
    have e1:i64 (10*e0v a)=e0v a*10:=by rw [Int.mul_comm];exact j6 (by omega) (by omega)
    have e2:i64 (IntKind.u8.wrap (iv c-48))=iv c-48:=by
     have:IntKind.u8.wrap (iv c-48)=iv c-48:=by
      unfold IntKind.wrap
      simp [IntKind.bits,IntKind.signed]
      omega
     rw [this,j6 (by omega) (by omega)]
    rw [e1,e2,j6 (by omega) (by omega),b69 (by omega) (by omega)]
    have hl2:((a++[c]).length:Int)=(a.length:Int)+1:=by simp
    rw [hl2] at ih
    exact ih
 exact go l [] FU rfl (by have:=a2m;omega)
theorem e6n (h:Dg n l) (hl:l.length <= 9):b7m ⟨l.toArray⟩ a9z=some (⟨l.toArray⟩,a1v,false):=by
 have hi:a5v ⟨l.toArray⟩ a9z=some (-1):=by
  unfold a5v a7t a6n
  have ne:(a9z.toList==(⟨l.toArray⟩:ByteArray).toList)=false:=by
   cases hb:(a9z.toList==(⟨l.toArray⟩:ByteArray).toList) with
   | false=>rfl
   | true=>
     have e:=eq_of_beq hb
     have e2:(a9z:ByteArray).data.toList=l:=by
      rw [ByteArray.toList_eq,ByteArray.toList_eq] at e
      exact e
     exact absurd rfl (h.no46 46 (by rw [<- e2];decide))
  simp only [show ((a9z.size:Int)==0)=false from rfl,show ((a9z.size:Int)==1)=true from rfl,Bool.false_eq_true,if_false,if_true,Option.bind_some,ne,show b0v a9z 0=some 46 from rfl,e6c h.no46]
 unfold b7m b4y
 rw [hi,Option.bind_some]
 rfl
theorem d7z: ∃m,FU=m+1+1+1:=⟨FU-3,by have:=a2m;omega⟩
theorem c7i (h:Dg n l) (hl:l.length <= 9) (d:Int):joinC a6w (⟨l.toArray⟩,(⟨0,0⟩:Fraction),d)=some (⟨(n:Int),1⟩,d,true):=by
 have hpos:1 <= l.length:=by cases l with | nil=>exact absurd rfl h.ne | cons _ _=>simp
 have hn:(n:Int) <= 1000000000:=by
  have hv:=c4g l h.dig
  have:(10:Nat)^l.length <= 10^9:=Nat.pow_le_pow_right (by decide) hl
  have h2:((10^l.length:Nat):Int) <= ((10^9:Nat):Int):=by exact_mod_cast this
  rw [h.val] at hv
  have h3:(10:Int)^l.length <= 1000000000:=by simpa using h2
  omega
 unfold joinC a6w
 have e1:decide ((l.length:Int)<1)=false:=by simp;omega
 have e2:decide ((l.length:Int)>9)=false:=by simp;omega
 have e3:(if (decide ((l.length:Int)>1)) then (b0v ⟨l.toArray⟩ 0).bind fun v7=>some (v7==48) else some false)=some false:=by
  by_cases h1:1<l.length
  ·cases hc:l with
   | nil=>exact absurd hc h.ne
   | cons c r=>
     have hc0:=h.hd h1 c r hc
     rw [hc] at h1
     have e3:decide (((c::r).length:Int)>1)=true:=by simp at h1 ⊢; omega
     have h0:b0v ⟨(c::r).toArray⟩ 0=some (iv c):=b8h (i:=0) rfl
     have e4:(iv c==48)=false:=by simpa using hc0
     simp only [e3,if_true,h0,Option.bind_some,e4]
  ·have e3:decide ((l.length:Int)>1)=false:=by simp;omega
   simp only [e3,Bool.false_eq_true,if_false]
 have en:a6k a1v=some (0,true):=by
  unfold a6k
  obtain ⟨m,hm⟩:=c9i
  rw [hm,j8]
  rfl
 simp only [e6n h hl,Option.bind_some,d41,e1,e2,e3,Bool.false_eq_true,if_false,e4u h hl,en,Bool.not_true]
 have l3: ∀(v23:Int) (r22:(Fraction×Int) -> Option (Fraction×Int×Bool)) (v21:Fraction×Int),v23=2 \/ v23=5 -> v21.1=⟨(n:Int),1⟩ -> d8 FU (b34 v23 r22 v21) v21.1=r22 (v21.1,i64 (v21.2+1)):=by
  intro v23 r22 v21 hv he
  obtain ⟨m,hm⟩:=c9i
  rw [hm,j8]
  unfold b34
  rw [he]
  have hr:b5l 1 v23=some 1:=by rcases hv with rfl | rfl<;>rfl
  have hr2: ∃x,b5l (n:Int) v23=some x:=by rcases hv with rfl | rfl<;>exact ⟨_,c4p (by decide)⟩
  obtain ⟨x,hx⟩:=hr2
  simp only [hx,hr,Option.bind_some]
  cases (x==0)<;>rfl
 obtain ⟨m,hm⟩:=d7z
 have l2: ∀v20:Fraction×Int×Int×Int,v20.2.1=d -> d8 FU (a1l v20) ((⟨(n:Int),1⟩:Fraction),0)=some (⟨(n:Int),1⟩,d,true):=by
  intro v20 hd
  rw [show d8 FU (a1l v20)=d8 (m+1+1+1) (a1l v20) by rw [<- hm]]
  rw [j8]
  generalize hA:d8 (m+1+1) (a1l v20)=A
  unfold a1l
  simp only [show decide ((0:Int)<2)=true from rfl,if_true,show c8 (⟨[2,5],rfl⟩:Ar 2 Int).l 0=some 2 from rfl,Option.bind_some]
  rw [l3 2 A (_,0) (.inl rfl) rfl,<- hA,j8]
  generalize hB:d8 (m+1) (a1l v20)=B
  unfold a1l
  simp only [show i64 (0+1)=1 from rfl,show decide ((1:Int)<2)=true from rfl,if_true,show c8 (⟨[2,5],rfl⟩:Ar 2 Int).l 1=some 5 from rfl,Option.bind_some]
  rw [l3 5 B (_,1) (.inr rfl) rfl,<- hB,j8]
  unfold a1l
  simp only [show i64 (1+1)=2 from rfl,show decide ((2:Int)<2)=false from rfl,Bool.false_eq_true,if_false,hd]
 rw [hm,j8]
 unfold b8c
 simp only [show c6q a1v 0=none from rfl,optC]
 unfold joinC b8m
 simp only [Int.add_zero,j6 (show-9223372036854775808 <= (n:Int) by omega) (show (n:Int) <= 9223372036854775807 by omega)]
 exact l2 _ rfl
theorem e0r (h:Dg n l) (hl:l.length <= 9) {s:List UInt8} {d:Int} (hs:g2t s d):b3u ⟨(l++s).toArray⟩=some (⟨(n:Int),1⟩,d,true):=by
 obtain ⟨m,c,rfl⟩: ∃m c,l=m++[c]:=by
  rcases List.eq_nil_or_concat l with h0 | ⟨m,c,h0⟩
  ·exact absurd h0 h.ne
  ·exact ⟨m,c,by simpa using h0⟩
 have hr:=b90 (h.dig c (by simp))
 have hlen:(m++[c]).length=m.length+1:=by simp
 unfold b3u
 rcases hs with ⟨rfl,rfl⟩ | ⟨rfl,rfl⟩ | ⟨rfl,rfl⟩
 ·simp only [List.append_nil]
  have hz:((⟨(m++[c]).toArray⟩:ByteArray).size:Int)=(m.length:Int)+1:=by rw [d41,hlen];rfl
  have e0:decide ((m.length:Int)+1>0)=true:=by simp
  have e1:b0v ⟨(m++[c]).toArray⟩ (i64 ((m.length:Int)+1-1))=some (iv c):=by
   rw [j6 (by omega) (by omega),show (m.length:Int)+1-1=(m.length:Int) by omega]
   exact b8h (by simp)
  have e2:(iv c==100)=false:=by simp;omega
  have e3:(iv c==109)=false:=by simp;omega
  simp only [hz,e0,if_true,e1,Option.bind_some,e2,e3,Bool.false_eq_true,if_false]
  exact c7i h hl 2
 ·have hz:((⟨(m++[c]++[100]).toArray⟩:ByteArray).size:Int)=(m.length:Int)+2:=by rw [d41];simp
  have e0:decide ((m.length:Int)+2>0)=true:=by simp;omega
  have e9:i64 ((m.length:Int)+2-1)=((m++[c]).length:Int):=by rw [j6 (by omega) (by omega),hlen];omega
  have e1:b0v ⟨(m++[c]++[100]).toArray⟩ ((m++[c]).length:Int)=some 100:=b8h (c:=100) (by simp)
  simp only [hz,e0,if_true,e9,e1,Option.bind_some,BEq.rfl,d51]
  exact c7i h hl 3
 ·have hz:((⟨(m++[c]++[109]).toArray⟩:ByteArray).size:Int)=(m.length:Int)+2:=by rw [d41];simp
  have e0:decide ((m.length:Int)+2>0)=true:=by simp;omega
  have e9:i64 ((m.length:Int)+2-1)=((m++[c]).length:Int):=by rw [j6 (by omega) (by omega),hlen];omega
  have e1:b0v ⟨(m++[c]++[109]).toArray⟩ ((m++[c]).length:Int)=some 109:=b8h (c:=109) (by simp)
  simp only [hz,e0,if_true,e9,e1,Option.bind_some,BEq.rfl,d51,show ((109:Int)==100)=false from rfl,Bool.false_eq_true,if_false]
  exact c7i h hl 4
end
theorem e29 {n:Nat} (h1:n <= 100000) {d:Int} (h2:2 <= d) (h3:d <= 4): ∃s,a0c ⟨(n:Int),1⟩ d=some (s,true):=by
 have hd:=e53 20 n (Nat.lt_of_le_of_lt h1 (by decide))
 have hdl:=c2g 20 n 5 (Nat.lt_of_le_of_lt h1 (by decide))
 unfold a0c
 have d1:decide ((n:Int)<0)=false:=by simp
 have d2:decide ((n:Int)>1000000000000000)=false:=by simp;omega
 have hI:strconv_Itoa (n:Int)=some ⟨(a8z 20 n).toArray⟩:=by unfold strconv_Itoa;rw [if_pos (by omega)];simp
 simp only [show decide ((1:Int)<1)=false from rfl,show decide ((1:Int)>10000)=false from rfl,Bool.false_eq_true,if_false,Option.bind_some,d1,d2,quo1 (show 0 <= (n:Int) by omega) (show (n:Int) <= 9223372036854775807 by omega),g51 (show 0 <= (n:Int) by omega),hI]
 obtain ⟨m,hm⟩:=c9i
 rw [hm,j8]
 unfold b10
 simp only [show decide ((0:Int)>0)=false from rfl,Bool.false_eq_true,if_false]
 have fin: ∀s,g2t s d -> joinC a2u (d,(⟨(n:Int),1⟩:Fraction),⟨(a8z 20 n++s).toArray⟩)=some (⟨(a8z 20 n++s).toArray⟩,true):=by
  intro s hs
  unfold joinC a2u
  simp only [e0r hd (by omega) hs,Option.bind_some,Bool.not_true,Bool.false_eq_true,if_false,BEq.rfl,Bool.and_true,bne_self_eq_false]
 have hcat: ∀s:List UInt8,s.length <= 1 -> a4o ⟨(a8z 20 n).toArray⟩ ⟨s.toArray⟩=some ⟨(a8z 20 n++s).toArray⟩:=fun s hs=>d3t (by omega)
 have hc:d=2 \/ d=3 \/ d=4:=by omega
 rcases hc with rfl | rfl | rfl
 ·have:=fin [] (.inl ⟨rfl,rfl⟩)
  rw [List.append_nil] at this
  exact ⟨_,this⟩
 ·have e:=hcat [100] (by simp)
  have f:=fin [100] (.inr (.inl ⟨rfl,rfl⟩))
  refine ⟨⟨(a8z 20 n++[100]).toArray⟩,?_⟩
  show (a4o ⟨(a8z 20 n).toArray⟩ ⟨[100].toArray⟩).bind _=_
  rw [e,Option.bind_some]
  exact f
 ·have e:=hcat [109] (by simp)
  have f:=fin [109] (.inr (.inr ⟨rfl,rfl⟩))
  refine ⟨⟨(a8z 20 n++[109]).toArray⟩,?_⟩
  show (a4o ⟨(a8z 20 n).toArray⟩ ⟨[109].toArray⟩).bind _=_
  rw [e,Option.bind_some]
  exact f
end Go.PL
namespace Go.PL
open Go Go.SX
theorem p7 {σ β:Type} {f:(σ -> Option β) -> σ -> Option β} (st:Nat -> σ) (N:Nat) {x:Option β} (hstep: ∀i,i<N -> ∀r,f r (st i)=r (st (i+1))) (hend: ∀r,f r (st N)=x) {k:Nat} (hk:N<k):d8 k f (st 0)=x:=by
 have go: ∀m i k,i+m=N -> m<k -> d8 k f (st i)=x:=by
  intro m
  induction m with
  | zero=>
    intro i k hi hk
    obtain ⟨k,rfl⟩: ∃m,k=m+1:=⟨k-1,by omega⟩
    obtain rfl:i=N:=by omega
    rw [j8]
    exact hend _
  | succ m ih=>
    intro i k hi hk
    obtain ⟨k,rfl⟩: ∃m,k=m+1:=⟨k-1,by omega⟩
    rw [j8,hstep i (by omega)]
    exact ih (i+1) k (by omega) (by omega)
 exact go N 0 k (by omega) hk
theorem a4n {α:Type} {l:List α} {i:Nat} (h:i<l.length):c8 l (i:Int)=some l[i]:=e7x (by omega) (by simp [h])
theorem a92 {i:Nat} (h:i <= 1000000):i64 ((i:Int)+1)=((i+1:Nat):Int):=by rw [j6 (by omega) (by omega)];omega
theorem c36 {i n:Nat} (h:i<n):decide ((i:Int)<(n:Int))=true:=by simp;omega
theorem b0f (n:Nat):decide ((n:Int)<(n:Int))=false:=by simp
def AE.dep:AE -> Nat
 | .bin _ a b=>max (max 0 a.dep) b.dep+1
 | .ite a b c=>max (max (max 0 a.dep) b.dep) c.dep+1
 | _=>1
def AE.sz:AE -> Nat
 | .bin _ a b=>1+a.sz+b.sz
 | .ite a b c=>1+a.sz+b.sz+c.sz
 | _=>1
theorem c1m (a:AE):1 <= a.dep:=by cases a<;>simp [AE.dep]
def AE.args:AE -> List AE
 | .bin _ a b=>[a,b]
 | .ite a b c=>[a,b,c]
 | _=>[]
theorem AE.ind {P:AE -> Prop} (h: ∀a:AE,(∀b∈a.args,P b) -> P a): ∀a,P a:=by
 intro a
 induction a with
 | lit v d=>exact h _ fun b hb=>by cases hb
 | nm s=>exact h _ fun b hb=>by cases hb
 | best k=>exact h _ fun b hb=>by cases hb
 | bin op a b iha ihb=>exact h _ fun x hx=>by simp [AE.args] at hx;rcases hx with rfl | rfl<;>assumption
 | ite a b c iha ihb ihc=>exact h _ fun x hx=>by simp [AE.args] at hx;rcases hx with rfl | rfl | rfl<;>assumption
theorem d0l (a:AE):a.e.Args=a.args.map AE.e:=by cases a<;>rfl
theorem c06 (a:AE):a.args.length <= 3:=by cases a<;>simp [AE.args]
theorem f4w (a:AE):a.dep=a.args.foldl (fun m b=>max m b.dep) 0+1:=by cases a<;>rfl
theorem f1z (a:AE):a.sz=a.args.foldl (fun m b=>m+b.sz) 1:=by cases a<;>rfl
theorem b4l {a b:AE} (h:b∈a.args):b.dep<a.dep:=by
 cases a with
 | bin op x y=>simp [AE.args] at h;show b.dep<max (max 0 x.dep) y.dep+1;rcases h with rfl | rfl<;>omega
 | ite x y z=>simp [AE.args] at h;show b.dep<max (max (max 0 x.dep) y.dep) z.dep+1;rcases h with rfl | rfl | rfl<;>omega
 | _=>cases h
theorem f4m {a b:AE} (h:b∈a.args):b.sz<a.sz:=by
 cases a with
 | bin op x y=>simp [AE.args] at h;show b.sz<1+x.sz+y.sz;rcases h with rfl | rfl<;>omega
 | ite x y z=>simp [AE.args] at h;show b.sz<1+x.sz+y.sz+z.sz;rcases h with rfl | rfl | rfl<;>omega
 | _=>cases h
theorem e1m (R:Ring_pensionref5_Depth) (L:List AE) (hR: ∀a∈L,R.f_pensionref5_Depth a.e=some (a.dep:Int)) (e:Expr) (he:e.Args=L.map AE.e) (hl:L.length <= 3) (hd: ∀a∈L,a.dep <= 1000):
  a6o R e=some ((L.foldl (fun m a=>max m a.dep) 0+1:Nat):Int):=by
 unfold a6o
 have hb: ∀(L:List AE) (m:Nat),m <= 1000 -> (∀a∈L,a.dep <= 1000) -> L.foldl (fun m a=>max m a.dep) m <= 1000:=by
  intro L
  induction L with
  | nil=>intro m h _;exact h
  | cons a L ih=>intro m h h2;exact ih (max m a.dep) (by have:=h2 a (by simp);omega) fun x hx=>h2 x (by simp [hx])
 refine p7 (fun i=>(e,(((L.take i).foldl (fun m a=>max m a.dep) 0:Nat):Int),(i:Int))) L.length ?_ ?_ (by have:=a2m;omega)
 ·intro i hi r
  unfold a8q
  have hlen:e.Args.length=L.length:=by rw [he];simp
  have hg:c8 e.Args (i:Int)=some (L[i].e):=by rw [a4n (by omega)];simp [he]
  simp only [hlen,c36 hi,if_true,hg,Option.bind_some,hR _ (List.getElem_mem hi),a92 (show i <= 1000000 by omega)]
  rw [List.take_succ_eq_append_getElem hi,List.foldl_append]
  simp only [List.foldl_cons,List.foldl_nil]
  congr 3
  omega
 ·intro r
  unfold a8q
  have hlen:e.Args.length=L.length:=by rw [he];simp
  simp only [hlen,b0f,Bool.false_eq_true,if_false,List.take_length]
  have:=hb L 0 (by omega) hd
  rw [a92 (by omega)]
theorem e9n: ∀(a:AE),a.dep <= 1000 -> ∀m,a.dep <= m -> (a03 m).f_pensionref5_Depth a.e=some (a.dep:Int):=by
 refine AE.ind fun a ih hd m hm=> ?_
 obtain ⟨m,rfl⟩: ∃k,m=k+1:=⟨m-1,by have:=c1m a;omega⟩
 rw [f4w a]
 exact e1m _ a.args (fun b hb=>ih b hb (by have:=b4l hb;omega) m (by have:=b4l hb;omega)) a.e (d0l a) (c06 a) fun b hb=>by have:=b4l hb;omega
theorem d0i: ∀(L:List AE) (m:Nat),m <= L.foldl (fun m b=>m+b.sz) m:=by
 intro L
 induction L with
 | nil=>intro m;exact Nat.le_refl _
 | cons a L ih=>intro m;have:=ih (m+a.sz);simp only [List.foldl_cons];omega
theorem e2v (R:Ring_pensionref5_Size) (L:List AE) (hR: ∀a∈L,R.f_pensionref5_Size a.e=some (a.sz:Int)) (e:Expr) (he:e.Args=L.map AE.e) (hl:L.length <= 3) (hd:L.foldl (fun m b=>m+b.sz) 1 <= 1000):
  a7j R e=some ((L.foldl (fun m a=>m+a.sz) 1:Nat):Int):=by
 unfold a7j
 refine p7 (fun i=>(e,(((L.take i).foldl (fun m a=>m+a.sz) 1:Nat):Int),(i:Int))) L.length ?_ ?_ (by have:=a2m;omega)
 ·intro i hi r
  unfold a9j
  have hlen:e.Args.length=L.length:=by rw [he];simp
  have hg:c8 e.Args (i:Int)=some (L[i].e):=by rw [a4n (by omega)];simp [he]
  simp only [hlen,c36 hi,if_true,hg,Option.bind_some,hR _ (List.getElem_mem hi),a92 (show i <= 1000000 by omega)]
  have e0:(L.take (i+1)).foldl (fun m a=>m+a.sz) 1=(L.take i).foldl (fun m a=>m+a.sz) 1+L[i].sz:=by
   rw [List.take_succ_eq_append_getElem hi,List.foldl_append];rfl
  have hb:(L.take (i+1)).foldl (fun m a=>m+a.sz) 1 <= 1000:=by
   have h1:L.foldl (fun m b=>m+b.sz) 1=(L.drop (i+1)).foldl (fun m b=>m+b.sz) ((L.take (i+1)).foldl (fun m b=>m+b.sz) 1):=by
    rw [<- List.foldl_append,List.take_append_drop]
   have:=d0i (L.drop (i+1)) ((L.take (i+1)).foldl (fun m b=>m+b.sz) 1)
   omega
  rw [e0] at hb⊢
  rw [j6 (by omega) (by omega)]
  congr 3
 ·intro r
  unfold a9j
  have hlen:e.Args.length=L.length:=by rw [he];simp
  simp only [hlen,b0f,Bool.false_eq_true,if_false,List.take_length]
theorem f8g: ∀(a:AE),a.sz <= 1000 -> ∀m,a.dep <= m -> (a07 m).f_pensionref5_Size a.e=some (a.sz:Int):=by
 refine AE.ind fun a ih hd m hm=> ?_
 obtain ⟨m,rfl⟩: ∃k,m=k+1:=⟨m-1,by have:=c1m a;omega⟩
 rw [f1z a] at hd⊢
 exact e2v _ a.args (fun b hb=>ih b hb (by have:=f4m hb;rw [f1z a] at this;omega) m (by have:=b4l hb;omega)) a.e (d0l a) (c06 a) hd
theorem d7e (R:Ring_syntax_Depth) (L:List AE) (hR: ∀a∈L,R.f_syntax_Depth a.e=some (a.dep:Int)) (e:Expr) (he:e.Args=L.map AE.e) (hl:L.length <= 3) (hd: ∀a∈L,a.dep <= 1000):
  b21 R e=some ((L.foldl (fun m a=>max m a.dep) 0+1:Nat):Int):=by
 unfold b21
 have hb: ∀(L:List AE) (m:Nat),m <= 1000 -> (∀a∈L,a.dep <= 1000) -> L.foldl (fun m a=>max m a.dep) m <= 1000:=by
  intro L
  induction L with
  | nil=>intro m h _;exact h
  | cons a L ih=>intro m h h2;exact ih (max m a.dep) (by have:=h2 a (by simp);omega) fun x hx=>h2 x (by simp [hx])
 refine p7 (fun i=>((((L.take i).foldl (fun m a=>max m a.dep) 0:Nat):Int),(i:Int))) L.length ?_ ?_ (by have:=a2m;omega)
 ·intro i hi r
  unfold b53
  have hlen:e.Args.length=L.length:=by rw [he];simp
  have hg:c8 e.Args (i:Int)=some (L[i].e):=by rw [a4n (by omega)];simp [he]
  simp only [hlen,c36 hi,if_true,hg,Option.bind_some,hR _ (List.getElem_mem hi),a92 (show i <= 1000000 by omega)]
  rw [List.take_succ_eq_append_getElem hi,List.foldl_append]
  simp only [List.foldl_cons,List.foldl_nil]
  congr 2
  omega
 ·intro r
  unfold b53
  have hlen:e.Args.length=L.length:=by rw [he];simp
  simp only [hlen,b0f,Bool.false_eq_true,if_false,List.take_length]
  have:=hb L 0 (by omega) hd
  rw [a92 (by omega)]
theorem e31: ∀(a:AE),a.dep <= 1000 -> ∀m,a.dep <= m -> (a1r m).f_syntax_Depth a.e=some (a.dep:Int):=by
 refine AE.ind fun a ih hd m hm=> ?_
 obtain ⟨m,rfl⟩: ∃k,m=k+1:=⟨m-1,by have:=c1m a;omega⟩
 rw [f4w a]
 exact d7e _ a.args (fun b hb=>ih b hb (by have:=b4l hb;omega) m (by have:=b4l hb;omega)) a.e (d0l a) (c06 a) fun b hb=>by have:=b4l hb;omega
theorem e12 (R:Ring_syntax_Size) (L:List AE) (hR: ∀a∈L,R.f_syntax_Size a.e=some (a.sz:Int)) (e:Expr) (he:e.Args=L.map AE.e) (hl:L.length <= 3) (hd:L.foldl (fun m b=>m+b.sz) 1 <= 1000):
  b3x R e=some ((L.foldl (fun m a=>m+a.sz) 1:Nat):Int):=by
 unfold b3x
 refine p7 (fun i=>((((L.take i).foldl (fun m a=>m+a.sz) 1:Nat):Int),(i:Int))) L.length ?_ ?_ (by have:=a2m;omega)
 ·intro i hi r
  unfold b6b
  have hlen:e.Args.length=L.length:=by rw [he];simp
  have hg:c8 e.Args (i:Int)=some (L[i].e):=by rw [a4n (by omega)];simp [he]
  simp only [hlen,c36 hi,if_true,hg,Option.bind_some,hR _ (List.getElem_mem hi),a92 (show i <= 1000000 by omega)]
  have e0:(L.take (i+1)).foldl (fun m a=>m+a.sz) 1=(L.take i).foldl (fun m a=>m+a.sz) 1+L[i].sz:=by
   rw [List.take_succ_eq_append_getElem hi,List.foldl_append];rfl
  have hb:(L.take (i+1)).foldl (fun m a=>m+a.sz) 1 <= 1000:=by
   have h1:L.foldl (fun m b=>m+b.sz) 1=(L.drop (i+1)).foldl (fun m b=>m+b.sz) ((L.take (i+1)).foldl (fun m b=>m+b.sz) 1):=by
    rw [<- List.foldl_append,List.take_append_drop]
   have:=d0i (L.drop (i+1)) ((L.take (i+1)).foldl (fun m b=>m+b.sz) 1)
   omega
  rw [e0] at hb⊢
  rw [j6 (by omega) (by omega)]
  congr 2
 ·intro r
  unfold b6b
  have hlen:e.Args.length=L.length:=by rw [he];simp
  simp only [hlen,b0f,Bool.false_eq_true,if_false,List.take_length]
theorem e9b: ∀(a:AE),a.sz <= 1000 -> ∀m,a.dep <= m -> (a2n m).f_syntax_Size a.e=some (a.sz:Int):=by
 refine AE.ind fun a ih hd m hm=> ?_
 obtain ⟨m,rfl⟩: ∃k,m=k+1:=⟨m-1,by have:=c1m a;omega⟩
 rw [f1z a] at hd⊢
 exact e12 _ a.args (fun b hb=>ih b hb (by have:=f4m hb;rw [f1z a] at this;omega) m (by have:=b4l hb;omega)) a.e (d0l a) (c06 a) hd
def AE.leafOK:AE -> Prop
 | .lit v d=>(∃s,s4 v d=some (s,true)) /\ ∃s,a0c v d=some (s,true)
 | .nm s=>u9 s=some true /\ a5d s=some true
 | .best k=>1 <= k /\ k <= 45
 | .bin op _ _=>7 <= op /\ op <= 20
 | .ite _ _ _=>True
inductive AE.ok:AE -> Prop
 | mk {a:AE}:a.leafOK -> (∀b∈a.args,b.ok) -> a.ok
theorem AE.ok.leaf {a:AE} (h:a.ok):a.leafOK:=by cases h;assumption
theorem AE.ok.arg {a b:AE} (h:a.ok) (hb:b∈a.args):b.ok:=by cases h;rename_i h1 h2;exact h2 b hb
theorem d75 (R:Ring_pensionref5_formed) (L:List AE) (hR: ∀a∈L,R.f_pensionref5_formed a.e=some true) (e:Expr) (he:e.Args=L.map AE.e) (hl:L.length <= 3):d8 FU (a5f R true) (e,0)=some true:=by
 refine p7 (fun i=>(e,(i:Int))) L.length ?_ ?_ (by have:=a2m;omega)
 ·intro i hi r
  unfold a5f
  have hlen:e.Args.length=L.length:=by rw [he];simp
  have hg:c8 e.Args (i:Int)=some (L[i].e):=by rw [a4n (by omega)];simp [he]
  simp only [hlen,c36 hi,if_true,hg,Option.bind_some,hR _ (List.getElem_mem hi),a92 (show i <= 1000000 by omega),Bool.not_true,Bool.false_eq_true,if_false]
 ·intro r
  unfold a5f
  have hlen:e.Args.length=L.length:=by rw [he];simp
  simp only [hlen,b0f,Bool.false_eq_true,if_false]
theorem e4y {op:Int} (h1:7 <= op) (h2:op <= 20):a15 op=some 2:=by
 unfold a15
 have e1:decide (op >= 1)=true:=by simp;omega
 have e2:decide (op <= 3)=false:=by simp;omega
 have e3:decide (op >= 4)=true:=by simp;omega
 have e4:decide (op <= 6)=false:=by simp;omega
 have e5:decide (op >= 7)=true:=by simp;omega
 have e6:decide (op <= 20)=true:=by simp;omega
 simp only [e1,e2,e3,e4,e5,e6,if_true,Option.bind_some,Bool.false_eq_true,if_false]
theorem e3f {op:Int} (h1:7 <= op) (h2:op <= 20):a6d op=some 2:=by
 unfold a6d
 have e1:(op==1)=false:=by simp;omega
 have e2:(op==2)=false:=by simp;omega
 have e3:(op==3)=false:=by simp;omega
 have e4:(op==4)=false:=by simp;omega
 have e5:(op==5)=false:=by simp;omega
 have e6:(op==6)=false:=by simp;omega
 have e7:decide (op >= 7)=true:=by simp;omega
 have e8:decide (op <= 20)=true:=by simp;omega
 simp only [e1,e2,e3,e4,e5,e6,e7,e8,if_true,Option.bind_some,Bool.false_eq_true,if_false]
theorem g4g {c:Bool} {x:Bool}: ∃b,(if c=true then some x else some false)=some b:=by cases c<;>exact ⟨_,rfl⟩
theorem e7a: ∀(a:AE),a.ok -> ∀m,a.dep <= m -> (i7 m).f_pensionref5_formed a.e=some true:=by
 refine AE.ind fun a ih hok m hm=> ?_
 obtain ⟨m,rfl⟩: ∃k,m=k+1:=⟨m-1,by have:=c1m a;omega⟩
 have hR: ∀b∈a.args,(i7 m).f_pensionref5_formed b.e=some true:=fun b hb=>ih b hb (hok.arg hb) m (by have:=b4l hb;omega)
 have hlf:=hok.leaf
 show p4 (i7 m) a.e=some true
 have hfin:=d75 (i7 m) a.args hR a.e (d0l a) (c06 a)
 cases a with
 | lit v d=>
   show p4 (i7 m) ⟨1,v,d,a1v,[]⟩=some true
   unfold p4
   obtain ⟨⟨s,hs⟩,_⟩:=hlf
   obtain ⟨b1,h1⟩:=g4g (c:=(v.Num==0)&&((v.Den==0)&&true)) (x:=d==0)
   simp only [show a15 1=some 0 from by kernel_rfl,Option.bind_some,List.length_nil,hs,BEq.rfl,if_true,show (((0:Nat):Int) != 0)=false from rfl,Bool.false_eq_true,if_false]
   rw [h1,Option.bind_some]
   cases b1<;>rfl
 | nm s=>
   show p4 (i7 m) ⟨2,⟨0,0⟩,0,s,[]⟩=some true
   unfold p4
   simp only [show a15 2=some 0 from by kernel_rfl,Option.bind_some,List.length_nil,BEq.rfl,Bool.and_true,if_true,hlf.1,show ((2:Int)==1)=false from rfl,Bool.false_eq_true,if_false]
   rfl
 | best k=>
   show p4 (i7 m) ⟨3,⟨k,1⟩,0,a1v,[]⟩=some true
   unfold p4
   have e1:decide (k >= 1)=true:=by simp;exact hlf.1
   have e2:decide (k <= 45)=true:=by simp;exact hlf.2
   simp only [show (((0:Nat):Int) != 0)=false from rfl,show a15 3=some 0 from by kernel_rfl,Option.bind_some,List.length_nil,BEq.rfl,Bool.and_true,if_true,show ((3:Int)==1)=false from rfl,show ((3:Int)==2)=false from rfl,show ((1:Int)==0)=false from rfl,Bool.and_false,Bool.false_and,Bool.false_eq_true,if_false,e1,e2]
 | bin op x y=>
   show p4 (i7 m) ⟨op,⟨0,0⟩,0,a1v,[x.e,y.e]⟩=some true
   unfold p4
   have o1:(op==1)=false:=by have:=hlf.1;simp;omega
   have o2:(op==2)=false:=by have:=hlf.1;simp;omega
   have o3:(op==3)=false:=by have:=hlf.1;simp;omega
   simp only [e4y hlf.1 hlf.2,Option.bind_some,List.length_cons,List.length_nil,BEq.rfl,Bool.and_true,if_true,o1,o2,o3,Bool.false_eq_true,if_false]
   exact hfin
 | ite x y z=>
   show p4 (i7 m) ⟨21,⟨0,0⟩,0,a1v,[x.e,y.e,z.e]⟩=some true
   unfold p4
   simp only [show a15 21=some 3 from by kernel_rfl,Option.bind_some,List.length_cons,List.length_nil,BEq.rfl,Bool.and_true,if_true,show ((21:Int)==1)=false from rfl,show ((21:Int)==2)=false from rfl,show ((21:Int)==3)=false from rfl,Bool.false_eq_true,if_false]
   exact hfin
end Go.PL
namespace Go.PL
open Go Go.SX
theorem f8z {a:AE} (h:a.leafOK):a30 a.e=some true:=by
 cases a with
 | lit v d=>
   show a30 ⟨1,v,d,a1v,[]⟩=some true
   unfold a30
   obtain ⟨_,s,hs⟩:=h
   simp only [show a6d 1=some 0 from by kernel_rfl,Option.bind_some,List.length_nil,hs,BEq.rfl,if_true,show (((0:Nat):Int) != 0)=false from rfl,Bool.false_eq_true,if_false]
 | nm s=>
   show a30 ⟨2,⟨0,0⟩,0,s,[]⟩=some true
   unfold a30
   simp only [show a6d 2=some 0 from by kernel_rfl,Option.bind_some,List.length_nil,h.2,BEq.rfl,Bool.and_true,if_true,show (((0:Nat):Int) != 0)=false from rfl,show ((2:Int)==1)=false from rfl,Bool.false_eq_true,if_false]
 | best k=>
   show a30 ⟨3,⟨k,1⟩,0,a1v,[]⟩=some true
   unfold a30
   have e1:decide (k >= 1)=true:=by simp;exact h.1
   have e2:decide (k <= 45)=true:=by simp;exact h.2
   simp only [show a6d 3=some 0 from by kernel_rfl,Option.bind_some,List.length_nil,BEq.rfl,if_true,show (((0:Nat):Int) != 0)=false from rfl,show ((3:Int)==1)=false from rfl,show ((3:Int)==2)=false from rfl,Bool.false_eq_true,if_false,e1,e2]
 | bin op x y=>
   show a30 ⟨op,⟨0,0⟩,0,a1v,[x.e,y.e]⟩=some true
   unfold a30
   have o1:(op==1)=false:=by have:=h.1;simp;omega
   have o2:(op==2)=false:=by have:=h.1;simp;omega
   have o3:(op==3)=false:=by have:=h.1;simp;omega
   simp only [e3f h.1 h.2,Option.bind_some,List.length_cons,List.length_nil,BEq.rfl,Bool.and_true,if_true,o1,o2,o3,Bool.false_eq_true,if_false]
   rfl
 | ite x y z=>
   show a30 ⟨21,⟨0,0⟩,0,a1v,[x.e,y.e,z.e]⟩=some true
   unfold a30
   simp only [show a6d 21=some 3 from by kernel_rfl,Option.bind_some,List.length_cons,List.length_nil,BEq.rfl,Bool.and_true,if_true,show ((21:Int)==1)=false from rfl,show ((21:Int)==2)=false from rfl,show ((21:Int)==3)=false from rfl,Bool.false_eq_true,if_false]
   rfl
theorem e6f (R:Ring_syntax_form) (L:List AE) (hR: ∀a∈L,R.f_syntax_form_1 a.e=some false) (hl:L.length <= 3):m7 R (L.map AE.e)=some (-1):=by
 unfold m7
 refine p7 (fun i=>(i:Int)) L.length ?_ ?_ (by have:=a2m;omega)
 ·intro i hi r
  unfold y9
  have hg:c8 (L.map AE.e) (i:Int)=some (L[i].e):=by rw [a4n (by simpa using hi)];simp
  simp only [List.length_map,c36 hi,if_true,hg,Option.bind_some,hR _ (List.getElem_mem hi),a92 (show i <= 1000000 by omega),Bool.false_eq_true,if_false]
 ·intro r
  unfold y9
  simp only [List.length_map,b0f,Bool.false_eq_true,if_false]
theorem f7h: ∀(a:AE),a.ok -> ∀m,4*a.dep <= m -> (g7 m).f_syntax_form a.e=some true:=by
 refine AE.ind fun a ih hok m hm=> ?_
 obtain ⟨m,rfl⟩: ∃k,m=k+1+1+1+1:=⟨m-4,by have:=c1m a;omega⟩
 have hR: ∀b∈a.args,(g7 (m+1)).f_syntax_form_1 b.e=some false:=fun b hb=>by
  show b01 (g7 m) b.e=some false
  unfold b01
  rw [ih b hb (hok.arg hb) m (by have:=b4l hb;omega)]
  rfl
 have hloop:=e6f (g7 (m+1)) a.args hR (c06 a)
 have hC:(g7 (m+1+1+1)).f_slices_ContainsFunc_of_api_Expr a.e.Args=some false:=by
  show p8 (g7 (m+1+1)) a.e.Args=some false
  unfold p8
  show (m7 (g7 (m+1)) a.e.Args).bind _=_
  rw [d0l,hloop]
  rfl
 show b3t (g7 (m+1+1+1)) a.e=some true
 unfold b3t
 rw [f8z hok.leaf,Option.bind_some]
 simp only [if_true,hC,Option.bind_some,Bool.not_false]
theorem d1c {a:AE} (h:a.ok) (hd:a.dep <= 10) (hs:a.sz <= 60):y4 a.e=some true:=by
 unfold y4 b6m b8g b60
 have hf:=a2m
 rw [e9n a (by omega) FU (by omega),f8g a (by omega) FU (by omega),e7a a h FU (by omega),Option.bind_some]
 have e1:decide ((a.dep:Int) <= 10)=true:=by simp;omega
 have e2:decide ((a.sz:Int) <= 60)=true:=by simp;omega
 simp only [e1,e2,if_true,Option.bind_some]
theorem c04 {a:AE} (h:a.ok) (hd:a.dep <= 10) (hs:a.sz <= 60):a0j a.e=some true:=by
 unfold a0j c5v c7e c7w
 have hf:=a2m
 rw [e31 a (by omega) FU (by omega),e9b a (by omega) FU (by omega),f7h a h FU (by omega),Option.bind_some]
 have e1:decide ((a.dep:Int) <= 10)=true:=by simp;omega
 have e2:decide ((a.sz:Int) <= 60)=true:=by simp;omega
 simp only [e1,e2,if_true,Option.bind_some]
def okD (o:Option (Int×Bool)):Option Int:=o.bind fun x=>if x.2 then some x.1 else none
theorem f5g {o:Option (Int×Bool)} {d:Int} (h:okD o=some d):o=some (d,true):=by
 cases o with
 | none=>cases h
 | some x=>
   obtain ⟨y,b⟩:=x
   cases b with
   | false=>cases h
   | true=>injection h with h;subst h;rfl
def AE.inf (env:List Binding):AE -> Option Int
 | .lit _ d=>some d
 | .best _=>some 4
 | .nm s=>okD (a6e s env)
 | .bin op a b=>(a.inf env).bind fun x=>(b.inf env).bind fun y=>okD (b0k op [x,y])
 | .ite a b c=>(a.inf env).bind fun x=>(b.inf env).bind fun y=>(c.inf env).bind fun z=>okD (b0k 21 [x,y,z])
theorem c9d (R:Ring_typing_infer) (env:List Binding) (e:Expr) (L:List AE) (ds:List Int) (he:e.Args=L.map AE.e) (hl:L.length <= 3) (hds:ds.length=L.length) {d:Int} (ht:okD (b0k e.Op ds)=some d)
  (hR: ∀i (h:i<L.length),R.f_typing_infer L[i].e env=some (ds[i]'(by omega),0)):d8 FU (b0c R e env) (e,[],0)=some (d,0):=by
 refine p7 (fun i=>(e,ds.take i,(i:Int))) L.length ?_ ?_ (by have:=a2m;omega)
 ·intro i hi r
  unfold b0c
  have hlen:e.Args.length=L.length:=by rw [he];simp
  have hg:c8 e.Args (i:Int)=some (L[i].e):=by rw [a4n (by omega)];simp [he]
  simp only [hlen,c36 hi,if_true,hg,Option.bind_some,hR i hi,show ((0:Int) != 0)=false from rfl,Bool.false_eq_true,if_false,b3k (show (ds.take i).length <= 1000 by simp;omega) (show 8 <= 1000 by decide),a92 (show i <= 1000000 by omega)]
  rw [List.take_succ_eq_append_getElem (by omega)]
 ·intro r
  unfold b0c
  have hlen:e.Args.length=L.length:=by rw [he];simp
  simp only [hlen,b0f,Bool.false_eq_true,if_false]
  rw [show ds.take L.length=ds by rw [<- hds,List.take_length],f5g ht]
  rfl
theorem e8e (env:List Binding): ∀(a:AE),a.ok -> ∀d,a.inf env=some d -> ∀m,a.dep <= m -> (u7 m).f_typing_infer a.e env=some (d,0):=by
 refine AE.ind fun a ih hok d hd m hm=> ?_
 obtain ⟨m,rfl⟩: ∃k,m=k+1:=⟨m-1,by have:=c1m a;omega⟩
 have hR: ∀b∈a.args,∀d,b.inf env=some d -> (u7 m).f_typing_infer b.e env=some (d,0):=fun b hb d hd=>ih b hb (hok.arg hb) d hd m (by have:=b4l hb;omega)
 show a3b (u7 m) a.e env=some (d,0)
 have hlf:=hok.leaf
 cases a with
 | lit v d2=>injection hd with hd;subst hd;rfl
 | nm s=>
   have hd:okD (a6e s env)=some d:=hd
   show a3b (u7 m) ⟨2,⟨0,0⟩,0,s,[]⟩ env=some (d,0)
   unfold a3b
   simp only [show ((2:Int)==1)=false from rfl,show ((2:Int)==3)=false from rfl,Bool.false_eq_true,if_false,BEq.rfl,if_true,f5g hd,Option.bind_some,Bool.not_true]
 | best k=>injection hd with hd;subst hd;rfl
 | bin op x y=>
   obtain ⟨dx,hx,hd⟩:=Option.bind_eq_some_iff.1 hd
   obtain ⟨dy,hy,hd⟩:=Option.bind_eq_some_iff.1 hd
   show a3b (u7 m) ⟨op,⟨0,0⟩,0,a1v,[x.e,y.e]⟩ env=some (d,0)
   unfold a3b
   have o1:(op==1)=false:=by have:=hlf.1;simp;omega
   have o2:(op==2)=false:=by have:=hlf.1;simp;omega
   have o3:(op==3)=false:=by have:=hlf.1;simp;omega
   simp only [o1,o2,o3,Bool.false_eq_true,if_false]
   refine c9d _ env _ [x,y] [dx,dy] rfl (by simp) rfl hd fun i hi=> ?_
   have hi:i<2:=hi
   match i,hi with
   | 0,_=>exact hR x (by simp [AE.args]) dx hx
   | 1,_=>exact hR y (by simp [AE.args]) dy hy
 | ite x y z=>
   obtain ⟨dx,hx,hd⟩:=Option.bind_eq_some_iff.1 hd
   obtain ⟨dy,hy,hd⟩:=Option.bind_eq_some_iff.1 hd
   obtain ⟨dz,hz,hd⟩:=Option.bind_eq_some_iff.1 hd
   show a3b (u7 m) ⟨21,⟨0,0⟩,0,a1v,[x.e,y.e,z.e]⟩ env=some (d,0)
   unfold a3b
   simp only [show ((21:Int)==1)=false from rfl,show ((21:Int)==2)=false from rfl,show ((21:Int)==3)=false from rfl,Bool.false_eq_true,if_false]
   refine c9d _ env _ [x,y,z] [dx,dy,dz] rfl (by simp) rfl hd fun i hi=> ?_
   have hi:i<3:=hi
   match i,hi with
   | 0,_=>exact hR x (by simp [AE.args]) dx hx
   | 1,_=>exact hR y (by simp [AE.args]) dy hy
   | 2,_=>exact hR z (by simp [AE.args]) dz hz
def d3p (env:List Binding):Prop:=env.length <= 1000 /\ ∀b∈env,1 <= b.Dim /\ b.Dim <= 4
theorem d61 {env:List Binding} (h:d3p env):p3 env=some false:=by
 unfold p3 y5
 have:d8 FU (o6 env) ((0:Nat):Int)=some (-1):=by
  refine p7 (fun i=>(i:Int)) env.length ?_ ?_ (by have:=a2m;have:=h.1;omega)
  ·intro i hi r
   unfold o6 b6c
   have hb:=h.2 _ (List.getElem_mem hi)
   have e1:decide (env[i].Dim<1)=false:=by simp;omega
   have e2:decide (env[i].Dim>4)=false:=by simp;omega
   have:=h.1
   simp only [c36 hi,if_true,a4n hi,Option.bind_some,e1,e2,Bool.false_eq_true,if_false,a92 (show i <= 1000000 by omega)]
  ·intro r
   unfold o6
   simp only [b0f,Bool.false_eq_true,if_false]
 rw [show (0:Int)=((0:Nat):Int) from rfl,this]
 rfl
theorem d1t {env:List Binding} (henv:d3p env) {a:AE} (h:a.ok) (hd:a.dep <= 10) (hs:a.sz <= 60) {d:Int} (hi:a.inf env=some d):b2q a.e env=some (d,0):=by
 unfold b2q
 have hf:=a2m
 simp only [c04 h hd hs,Option.bind_some,Bool.not_true,Bool.false_eq_true,if_false,d61 henv,show c59 a.e env=some (d,0) from e8e env a h d hi FU (by omega)]
theorem g5p {env:List Binding} (henv:d3p env) {a:AE} (h:a.ok) (hd:a.dep <= 10) (hs:a.sz <= 60) {d:Int} (hi:a.inf env=some d):b4b a.e env d=some 0:=by
 unfold b4b
 simp only [d1t henv h hd hs hi,Option.bind_some,show ((0:Int) != 0)=false from rfl,Bool.false_eq_true,if_false,bne_self_eq_false]
end Go.PL
namespace Go.PL
open Go Go.SX
def nz (o:Option ByteArray):Bool:=match o with | some w=> !(w.toList==a1v.toList) | none=>false
theorem d6m {o:Option ByteArray} (h:nz o=true): ∃w,o=some w /\ (w.toList==a1v.toList)=false:=by
 cases o with
 | none=>cases h
 | some w=>exact ⟨w,rfl,by simpa [nz] using h⟩
def f2c:List syntax_entry:=(b5v).getD []
def d4b:List syntax_entry:=(a7r).getD []
def d8l:List syntax_entry:=(b56).getD []
theorem f0s:b5v=some f2c:=rfl
theorem c6z:a7r=some d4b:=rfl
theorem f1o:b56=some d8l:=rfl
structure CrOK (c:Credit):Prop where
 w5:nz (a3n c.Kind 1)=true
 wS:nz (a1h f2c c.Kind)=true
 l0:0 <= c.Limit
 l1:c.Limit <= 73049
structure IxOK (x:Index):Prop where
 y0:1900 <= x.Year
 y1:x.Year <= 2099
 n:1 <= x.Factor.Num
 f5: ∃s,s4 x.Factor 2=some (s,true)
 fS: ∃s,a0c x.Factor 2=some (s,true)
structure ExOK (env:List Binding) (e:Expr) (d:Int):Prop where
 ex: ∃a:AE,e=a.e /\ a.ok /\ a.dep <= 10 /\ a.sz <= 60 /\ a.inf env=some d
structure BnOK (b:Int):Prop where
 w5:nz (a3n b 2)=true
 wS:nz (a1h d4b b)=true
structure VOK (env:List Binding) (v:Version):Prop where
 f0:0 <= v.From
 f1:v.From <= 73048
 m0:1 <= v.Rounding.Mode
 m1:v.Rounding.Mode <= 4
 mS:nz (a1h d8l v.Rounding.Mode)=true
 u0:1 <= v.Rounding.Unit
 u1:v.Rounding.Unit <= 100000
 cl:v.Credits.length <= 6
 sl:v.Series.length <= 20
 ll:v.Lets.length <= 10
 gl:v.Grants.length <= 5
 rl:v.Reduces.length <= 5
 cr: ∀c∈v.Credits,CrOK c
 crp:v.Credits.Pairwise fun a b=>a.Kind≠b.Kind
 ix: ∀x∈v.Series,IxOK x
 ixp:v.Series.Pairwise fun a b=>a.Year<b.Year
 lt: ∀x∈v.Lets,u9 x.Name=some true /\ a5d x.Name=some true /\ y4 x.Body=some true /\ a0j x.Body=some true
 ls:b4e v.Lets=some (env,0)
 en:d3p env
 gr: ∀g∈v.Grants,BnOK g.Benefit /\ ExOK env g.If 1 /\ ExOK env g.Pay 4
 grp:v.Grants.Pairwise fun a b=>a.Benefit≠b.Benefit
 rd: ∀r∈v.Reduces,BnOK r.Benefit /\ ExOK env r.By 2
 rdp:v.Reduces.Pairwise fun a b=>a.Benefit≠b.Benefit
theorem ExOK.v5 {env:List Binding} {e:Expr} {d:Int} (h:ExOK env e d):y4 e=some true:=by
 obtain ⟨a,rfl,h1,h2,h3,_⟩:=h.ex
 exact d1c h1 h2 h3
theorem ExOK.vS {env:List Binding} {e:Expr} {d:Int} (h:ExOK env e d):a0j e=some true:=by
 obtain ⟨a,rfl,h1,h2,h3,_⟩:=h.ex
 exact c04 h1 h2 h3
theorem ExOK.of {env:List Binding} (hen:d3p env) {e:Expr} {d:Int} (h:ExOK env e d):b4b e env d=some 0:=by
 obtain ⟨a,rfl,h1,h2,h3,h4⟩:=h.ex
 exact g5p hen h1 h2 h3 h4
section
variable {env:List Binding} {v:Version}
theorem e9j (h:VOK env v):a3l v=some true:=by
 have hf:=a2m
 have l5:d8 FU a21 (v,0)=some true:=by
  refine p7 (fun i=>(v,(i:Int))) v.Reduces.length ?_ ?_ (by have:=h.rl;omega)
  ·intro i hi r
   have hc:=h.rd _ (List.getElem_mem hi)
   obtain ⟨w,h1,h2⟩:=d6m hc.1.w5
   have:=h.rl
   unfold a21
   simp only [c36 hi,if_true,a4n hi,Option.bind_some,h1,h2,hc.2.v5,Bool.not_true,Bool.false_eq_true,if_false,a92 (show i <= 1000000 by omega)]
  ·intro r
   unfold a21
   simp only [b0f,Bool.false_eq_true,if_false]
 have l4:d8 FU a22 (v,0)=some true:=by
  refine p7 (fun i=>(v,(i:Int))) v.Grants.length ?_ ?_ (by have:=h.gl;omega)
  ·intro i hi r
   have hc:=h.gr _ (List.getElem_mem hi)
   obtain ⟨w,h1,h2⟩:=d6m hc.1.w5
   have:=h.gl
   unfold a22
   simp only [c36 hi,if_true,a4n hi,Option.bind_some,h1,h2,hc.2.1.v5,hc.2.2.v5,Bool.not_true,Bool.false_eq_true,if_false,a92 (show i <= 1000000 by omega)]
  ·intro r
   unfold a22
   simp only [b0f,Bool.false_eq_true,if_false]
   exact l5
 have l3:d8 FU a2d (v,0)=some true:=by
  refine p7 (fun i=>(v,(i:Int))) v.Lets.length ?_ ?_ (by have:=h.ll;omega)
  ·intro i hi r
   have hc:=h.lt _ (List.getElem_mem hi)
   have:=h.ll
   unfold a2d
   simp only [c36 hi,if_true,a4n hi,Option.bind_some,hc.1,hc.2.2.1,Bool.not_true,Bool.false_eq_true,if_false,a92 (show i <= 1000000 by omega)]
  ·intro r
   unfold a2d
   simp only [b0f,Bool.false_eq_true,if_false]
   exact l4
 have l2:d8 FU a29 (v,0)=some true:=by
  refine p7 (fun i=>(v,(i:Int))) v.Series.length ?_ ?_ (by have:=h.sl;omega)
  ·intro i hi r
   have hc:=h.ix _ (List.getElem_mem hi)
   obtain ⟨s,hs⟩:=hc.f5
   have:=h.sl
   have e1:decide (v.Series[i].Year<1900)=false:=by have:=hc.y0;simp;omega
   have e2:decide (v.Series[i].Year>2099)=false:=by have:=hc.y1;simp;omega
   have e3:decide (v.Series[i].Factor.Num<1)=false:=by have:=hc.n;simp;omega
   unfold a29
   simp only [c36 hi,if_true,a4n hi,Option.bind_some,hs,e1,e2,e3,Bool.not_true,Bool.false_eq_true,if_false,a92 (show i <= 1000000 by omega)]
  ·intro r
   unfold a29
   simp only [b0f,Bool.false_eq_true,if_false]
   exact l3
 have l1:d8 FU a27 (v,0)=some true:=by
  refine p7 (fun i=>(v,(i:Int))) v.Credits.length ?_ ?_ (by have:=h.cl;omega)
  ·intro i hi r
   have hc:=h.cr _ (List.getElem_mem hi)
   obtain ⟨w,h1,h2⟩:=d6m hc.w5
   have:=h.cl
   have e1:decide (v.Credits[i].Limit<0)=false:=by have:=hc.l0;simp;omega
   have e2:decide (v.Credits[i].Limit>73049)=false:=by have:=hc.l1;simp;omega
   unfold a27
   simp only [c36 hi,if_true,a4n hi,Option.bind_some,h1,h2,e1,e2,Bool.not_true,Bool.false_eq_true,if_false,a92 (show i <= 1000000 by omega)]
  ·intro r
   unfold a27
   simp only [b0f,Bool.false_eq_true,if_false]
   exact l2
 unfold a3l a8p a5l
 have d1:decide (v.From >= 0)=true:=by have:=h.f0;simp;omega
 have d2:decide (v.From <= 73048)=true:=by have:=h.f1;simp;omega
 have d3:decide (v.Rounding.Mode >= 1)=true:=by have:=h.m0;simp;omega
 have d4:decide (v.Rounding.Mode <= 4)=true:=by have:=h.m1;simp;omega
 have d5:decide (v.Rounding.Unit >= 1)=true:=by have:=h.u0;simp;omega
 have d6:decide (v.Rounding.Unit <= 100000)=true:=by have:=h.u1;simp;omega
 have n1:decide ((v.Credits.length:Int)>6)=false:=by have:=h.cl;simp;omega
 have n2:decide ((v.Series.length:Int)>20)=false:=by have:=h.sl;simp;omega
 have n3:decide ((v.Lets.length:Int)>10)=false:=by have:=h.ll;simp;omega
 have n4:decide ((v.Grants.length:Int)>5)=false:=by have:=h.gl;simp;omega
 have n5:decide ((v.Reduces.length:Int)>5)=false:=by have:=h.rl;simp;omega
 simp only [d1,d2,d3,d4,d5,d6,n1,n2,n3,n4,n5,if_true,Option.bind_some,Bool.not_true,Bool.false_eq_true,if_false]
 exact l1
theorem e99 (h:VOK env v):a6h v=some true:=by
 have hf:=a2m
 have l5:joinC a7c v=some true:=by
  unfold joinC a7c
  refine p7 (fun i=>(i:Int)) v.Reduces.length ?_ ?_ (by have:=h.rl;omega)
  ·intro i hi r
   have hc:=h.rd _ (List.getElem_mem hi)
   obtain ⟨w,h1,h2⟩:=d6m hc.1.wS
   have:=h.rl
   unfold a7e
   simp only [c36 hi,if_true,a4n hi,Option.bind_some,c6z,h1,h2,hc.2.vS,Bool.not_true,Bool.false_eq_true,if_false,a92 (show i <= 1000000 by omega)]
  ·intro r
   unfold a7e
   simp only [b0f,Bool.false_eq_true,if_false]
 have l4:joinC a7a v=some true:=by
  unfold joinC a7a
  refine p7 (fun i=>(v,(i:Int))) v.Grants.length ?_ ?_ (by have:=h.gl;omega)
  ·intro i hi r
   have hc:=h.gr _ (List.getElem_mem hi)
   obtain ⟨w,h1,h2⟩:=d6m hc.1.wS
   have:=h.gl
   unfold a77
   simp only [c36 hi,if_true,a4n hi,Option.bind_some,c6z,h1,h2,hc.2.1.vS,hc.2.2.vS,Bool.not_true,Bool.false_eq_true,if_false,a92 (show i <= 1000000 by omega)]
  ·intro r
   unfold a77
   simp only [b0f,Bool.false_eq_true,if_false]
   exact l5
 have l3:joinC a78 v=some true:=by
  unfold joinC a78
  refine p7 (fun i=>(v,(i:Int))) v.Lets.length ?_ ?_ (by have:=h.ll;omega)
  ·intro i hi r
   have hc:=h.lt _ (List.getElem_mem hi)
   have:=h.ll
   unfold a7b
   simp only [c36 hi,if_true,a4n hi,Option.bind_some,hc.2.1,hc.2.2.2,Bool.not_true,Bool.false_eq_true,if_false,a92 (show i <= 1000000 by omega)]
  ·intro r
   unfold a7b
   simp only [b0f,Bool.false_eq_true,if_false]
   exact l4
 have l2:joinC a75 v=some true:=by
  unfold joinC a75
  refine p7 (fun i=>(v,(i:Int))) v.Series.length ?_ ?_ (by have:=h.sl;omega)
  ·intro i hi r
   have hc:=h.ix _ (List.getElem_mem hi)
   obtain ⟨s,hs⟩:=hc.fS
   have:=h.sl
   have e1:decide (v.Series[i].Year >= 1900)=true:=by have:=hc.y0;simp;omega
   have e2:decide (v.Series[i].Year <= 2099)=true:=by have:=hc.y1;simp;omega
   have e3:decide (v.Series[i].Factor.Num>0)=true:=by have:=hc.n;simp;omega
   unfold a74 b1x b2x
   simp only [c36 hi,if_true,a4n hi,Option.bind_some,hs,e1,e2,e3,Bool.not_true,Bool.false_eq_true,if_false,a92 (show i <= 1000000 by omega)]
  ·intro r
   unfold a74
   simp only [b0f,Bool.false_eq_true,if_false]
   exact l3
 have l1:d8 FU (a4y v) (v,0)=some true:=by
  refine p7 (fun i=>(v,(i:Int))) v.Credits.length ?_ ?_ (by have:=h.cl;omega)
  ·intro i hi r
   have hc:=h.cr _ (List.getElem_mem hi)
   obtain ⟨w,h1,h2⟩:=d6m hc.wS
   have:=h.cl
   have e1:decide (v.Credits[i].Limit<0)=false:=by have:=hc.l0;simp;omega
   have e2:decide (v.Credits[i].Limit>73049)=false:=by have:=hc.l1;simp;omega
   unfold a4y
   simp only [c36 hi,if_true,a4n hi,Option.bind_some,f0s,h1,h2,e1,e2,Bool.not_true,Bool.false_eq_true,if_false,a92 (show i <= 1000000 by omega)]
  ·intro r
   unfold a4y
   simp only [b0f,Bool.false_eq_true,if_false]
   exact l2
 unfold a6h a4h
 have d1:decide (v.From >= 0)=true:=by have:=h.f0;simp;omega
 have d2:decide (v.From <= 73048)=true:=by have:=h.f1;simp;omega
 have d5:decide (v.Rounding.Unit<1)=false:=by have:=h.u0;simp;omega
 have d6:decide (v.Rounding.Unit>100000)=false:=by have:=h.u1;simp;omega
 have n1:decide ((v.Credits.length:Int)>6)=false:=by have:=h.cl;simp;omega
 have n2:decide ((v.Series.length:Int)>20)=false:=by have:=h.sl;simp;omega
 have n3:decide ((v.Lets.length:Int)>10)=false:=by have:=h.ll;simp;omega
 have n4:decide ((v.Grants.length:Int)>5)=false:=by have:=h.gl;simp;omega
 have n5:decide ((v.Reduces.length:Int)>5)=false:=by have:=h.rl;simp;omega
 obtain ⟨w,h1,h2⟩:=d6m h.mS
 simp only [d1,d2,d5,d6,f1o,h1,h2,if_true,Option.bind_some,Bool.not_true,Bool.false_eq_true,if_false]
 unfold joinC a73
 simp only [n1,n2,n3,n4,n5,if_true,Option.bind_some,Bool.not_true,Bool.false_eq_true,if_false]
 exact l1
theorem c70 {l:List Credit} {c:Credit} (hl:l.length <= 1000) (h: ∀x∈l,x.Kind≠c.Kind):n6 l c=some false:=by
 unfold n6 y3
 have:d8 FU (o4 l c) ((0:Nat):Int)=some (-1):=by
  refine p7 (fun i=>(i:Int)) l.length ?_ ?_ (by have:=a2m;omega)
  ·intro i hi r
   have hb:=h _ (List.getElem_mem hi)
   have e1:(l[i].Kind==c.Kind)=false:=by simpa using hb
   unfold o4 b37
   simp only [c36 hi,if_true,a4n hi,Option.bind_some,e1,Bool.false_eq_true,if_false,a92 (show i <= 1000000 by omega)]
  ·intro r
   unfold o4
   simp only [b0f,Bool.false_eq_true,if_false]
 rw [show (0:Int)=((0:Nat):Int) from rfl,this]
 rfl
theorem c8p {l:List Grant} {c:Grant} (hl:l.length <= 1000) (h: ∀x∈l,x.Benefit≠c.Benefit):o7 l c=some false:=by
 unfold o7 y6
 have:d8 FU (o8 l c) ((0:Nat):Int)=some (-1):=by
  refine p7 (fun i=>(i:Int)) l.length ?_ ?_ (by have:=a2m;omega)
  ·intro i hi r
   have hb:=h _ (List.getElem_mem hi)
   have e1:(l[i].Benefit==c.Benefit)=false:=by simpa using hb
   unfold o8 b3a
   simp only [c36 hi,if_true,a4n hi,Option.bind_some,e1,Bool.false_eq_true,if_false,a92 (show i <= 1000000 by omega)]
  ·intro r
   unfold o8
   simp only [b0f,Bool.false_eq_true,if_false]
 rw [show (0:Int)=((0:Nat):Int) from rfl,this]
 rfl
theorem c79 {l:List Reduce} {c:Reduce} (hl:l.length <= 1000) (h: ∀x∈l,x.Benefit≠c.Benefit):n9 l c=some false:=by
 unfold n9 y2
 have:d8 FU (n8 l c) ((0:Nat):Int)=some (-1):=by
  refine p7 (fun i=>(i:Int)) l.length ?_ ?_ (by have:=a2m;omega)
  ·intro i hi r
   have hb:=h _ (List.getElem_mem hi)
   have e1:(l[i].Benefit==c.Benefit)=false:=by simpa using hb
   unfold n8 b39
   simp only [c36 hi,if_true,a4n hi,Option.bind_some,e1,Bool.false_eq_true,if_false,a92 (show i <= 1000000 by omega)]
  ·intro r
   unfold n8
   simp only [b0f,Bool.false_eq_true,if_false]
 rw [show (0:Int)=((0:Nat):Int) from rfl,this]
 rfl
theorem d7u {α:Type} {l:List α} {i:Nat} (h:i<l.length):a1q l 0 (i:Int)=some (l.take i):=by
 rw [b6u (Int.le_refl _) (by omega) (by omega)]
 simp
theorem c7s {α:Type} {R:α -> α -> Prop} {l:List α} (h:l.Pairwise R) {i:Nat} (hi:i<l.length): ∀x∈l.take i,R x l[i]:=by
 intro x hx
 obtain ⟨j,hj,rfl⟩:=List.getElem_of_mem hx
 have hj2:j<i:=by simp at hj;omega
 rw [List.getElem_take]
 exact List.pairwise_iff_getElem.1 h j i (by omega) hi hj2
theorem f0h (h:VOK env v):b25 v=some 0:=by
 have hf:=a2m
 have l4: ∀v12:Version×List Binding×Int,v12.1=v -> d8 FU (a8h v12) (v,env,0)=some 0:=by
  intro v12 hv
  refine p7 (fun i=>(v,env,(i:Int))) v.Reduces.length ?_ ?_ (by have:=h.rl;omega)
  ·intro i hi r
   have hc:=h.rd _ (List.getElem_mem hi)
   have:=h.rl
   unfold a8h
   simp only [hv,c36 hi,if_true,a4n hi,Option.bind_some,d7u hi,c79 (l:=v.Reduces.take i) (by simp;omega) (c7s h.rdp hi),hc.2.of h.en,show ((0:Int) != 0)=false from rfl,Bool.false_eq_true,if_false,a92 (show i <= 1000000 by omega)]
  ·intro r
   unfold a8h
   simp only [hv,b0f,Bool.false_eq_true,if_false]
 have l3: ∀v12:Version×List Binding×Int,v12.1=v -> d8 FU (a82 v12) (v,env,0)=some 0:=by
  intro v12 hv
  refine p7 (fun i=>(v,env,(i:Int))) v.Grants.length ?_ ?_ (by have:=h.gl;omega)
  ·intro i hi r
   have hc:=h.gr _ (List.getElem_mem hi)
   have:=h.gl
   unfold a82
   simp only [hv,c36 hi,if_true,a4n hi,Option.bind_some,d7u hi,c8p (l:=v.Grants.take i) (by simp;omega) (c7s h.grp hi),hc.2.1.of h.en,hc.2.2.of h.en,show ((0:Int) != 0)=false from rfl,Bool.false_eq_true,if_false,a92 (show i <= 1000000 by omega)]
  ·intro r
   unfold a82
   simp only [hv,b0f,Bool.false_eq_true,if_false]
   exact l4 _ rfl
 have l2: ∀v12:Version×List Binding×Int,v12.1=v -> d8 FU (a86 v12) (v,env,0)=some 0:=by
  intro v12 hv
  refine p7 (fun i=>(v,env,(i:Int))) v.Series.length ?_ ?_ (by have:=h.sl;omega)
  ·intro i hi r
   have:=h.sl
   unfold a86
   simp only [hv,c36 hi,if_true,a4n hi,Option.bind_some]
   have e:((if decide ((i:Int)>0) then (c8 v.Series (i64 ((i:Int)-1))).bind fun v10=>some (decide (v.Series[i].Year <= v10.Year)) else some false):Option Bool)=some false:=by
    cases i with
    | zero=>rfl
    | succ i=>
      have hlt:=List.pairwise_iff_getElem.1 h.ixp i (i+1) (by omega) hi (by omega)
      have e1:decide (((i+1:Nat):Int)>0)=true:=by simp
      have e2:i64 (((i+1:Nat):Int)-1)=(i:Int):=by rw [j6 (by omega) (by omega)];omega
      have e3:decide (v.Series[i+1].Year <= v.Series[i].Year)=false:=by simp;omega
      simp only [e1,if_true,e2,a4n (show i<v.Series.length by omega),Option.bind_some,e3]
   rw [e,Option.bind_some]
   simp only [Bool.false_eq_true,if_false,a92 (show i <= 1000000 by omega)]
  ·intro r
   unfold a86
   simp only [hv,b0f,Bool.false_eq_true,if_false]
   exact l3 _ rfl
 have l1:d8 FU (a8d v) (v,env,0)=some 0:=by
  refine p7 (fun i=>(v,env,(i:Int))) v.Credits.length ?_ ?_ (by have:=h.cl;omega)
  ·intro i hi r
   have:=h.cl
   unfold a8d
   simp only [c36 hi,if_true,a4n hi,Option.bind_some,d7u hi,c70 (l:=v.Credits.take i) (by simp;omega) (c7s h.crp hi),Bool.false_eq_true,if_false,a92 (show i <= 1000000 by omega)]
  ·intro r
   unfold a8d
   simp only [b0f,Bool.false_eq_true,if_false]
   exact l2 _ rfl
 unfold b25
 simp only [h.ls,Option.bind_some,show ((0:Int) != 0)=false from rfl,Bool.false_eq_true,if_false]
 exact l1
end
structure SOK (x:Statute):Prop where
 n5:u9 x.Name=some true
 nS:a5d x.Name=some true
 c0:1 <= x.Currency
 c1:x.Currency <= 999
 l0:1 <= x.Versions.length
 l1:x.Versions.length <= 6
 vs: ∀v∈x.Versions,∃env,VOK env v
 vp:x.Versions.Pairwise fun a b=>a.From<b.From
theorem f6e {x:Statute} (h:SOK x):a4k x=some true:=by
 have hf:=a2m
 have l1:d8 FU a5p (x,0)=some true:=by
  refine p7 (fun i=>(x,(i:Int))) x.Versions.length ?_ ?_ (by have:=h.l1;omega)
  ·intro i hi r
   obtain ⟨env,hv⟩:=h.vs _ (List.getElem_mem hi)
   have:=h.l1
   unfold a5p
   simp only [c36 hi,if_true,a4n hi,Option.bind_some,e9j hv,Bool.not_true,Bool.false_eq_true,if_false,a92 (show i <= 1000000 by omega)]
  ·intro r
   unfold a5p
   simp only [b0f,Bool.false_eq_true,if_false]
 unfold a4k
 have d1:decide (x.Currency<1)=false:=by have:=h.c0;simp;omega
 have d2:decide (x.Currency>999)=false:=by have:=h.c1;simp;omega
 have d3:decide ((x.Versions.length:Int)<1)=false:=by have:=h.l0;simp;omega
 have d4:decide ((x.Versions.length:Int)>6)=false:=by have:=h.l1;simp;omega
 simp only [h.n5,d1,d2,d3,d4,Option.bind_some,Bool.not_true,Bool.false_eq_true,if_false]
 exact l1
theorem e8a {x:Statute} (h:SOK x):b5q x=some true:=by
 have hf:=a2m
 have l1:d8 FU (b00 x) 0=some true:=by
  refine p7 (fun i=>(i:Int)) x.Versions.length ?_ ?_ (by have:=h.l1;omega)
  ·intro i hi r
   obtain ⟨env,hv⟩:=h.vs _ (List.getElem_mem hi)
   have:=h.l1
   unfold b00
   simp only [c36 hi,if_true,a4n hi,Option.bind_some,e99 hv,Bool.not_true,Bool.false_eq_true,if_false,a92 (show i <= 1000000 by omega)]
  ·intro r
   unfold b00
   simp only [b0f,Bool.false_eq_true,if_false]
 unfold b5q
 have d1:decide (x.Currency<1)=false:=by have:=h.c0;simp;omega
 have d2:decide (x.Currency>999)=false:=by have:=h.c1;simp;omega
 have d3:decide ((x.Versions.length:Int)<1)=false:=by have:=h.l0;simp;omega
 have d4:decide ((x.Versions.length:Int)>6)=false:=by have:=h.l1;simp;omega
 simp only [h.nS,d1,d2,d3,d4,Option.bind_some,Bool.not_true,Bool.false_eq_true,if_false]
 exact l1
theorem d1n {x:Statute} (h:SOK x):a5j x=some (0,0):=by
 have hf:=a2m
 unfold a5j
 simp only [e8a h,Option.bind_some,Bool.not_true,Bool.false_eq_true,if_false]
 refine p7 (fun i=>(x,(i:Int))) x.Versions.length ?_ ?_ (by have:=h.l1;omega)
 ·intro i hi r
  obtain ⟨env,hv⟩:=h.vs _ (List.getElem_mem hi)
  have:=h.l1
  unfold b1k
  simp only [c36 hi,if_true,a4n hi,Option.bind_some]
  have e:((if decide ((i:Int)>0) then (c8 x.Versions (i64 ((i:Int)-1))).bind fun v5=>some (decide (x.Versions[i].From <= v5.From)) else some false):Option Bool)=some false:=by
   cases i with
   | zero=>rfl
   | succ i=>
     have hlt:=List.pairwise_iff_getElem.1 h.vp i (i+1) (by omega) hi (by omega)
     have e1:decide (((i+1:Nat):Int)>0)=true:=by simp
     have e2:i64 (((i+1:Nat):Int)-1)=(i:Int):=by rw [j6 (by omega) (by omega)];omega
     have e3:decide (x.Versions[i+1].From <= x.Versions[i].From)=false:=by simp;omega
     simp only [e1,if_true,e2,a4n (show i<x.Versions.length by omega),Option.bind_some,e3]
  rw [e,Option.bind_some]
  simp only [Bool.false_eq_true,if_false,f0h hv,Option.bind_some,show ((0:Int) != 0)=false from rfl,a92 (show i <= 1000000 by omega)]
 ·intro r
  unfold b1k
  simp only [b0f,Bool.false_eq_true,if_false]
end Go.PL
namespace Go.PL
open Go Go.SX
structure NumX (w:List UInt8) (v:Fraction) (d:Int):Prop where
 st: ∃c r,w=c::r /\ d10 (iv c)=true /\ e1s (iv c)=false
 rc: ∀x∈w,d5f true x=true
 pt: ∃x y,a0m ⟨w.toArray⟩=some (x,y,d,true)
 de:w6 ⟨w.toArray⟩=some (v,d,true)
 f5: ∃s,s4 v d=some (s,true)
 fS: ∃s,a0c v d=some (s,true)
theorem f8w {c:UInt8} (h:d10 (iv c)=true):d5f true c=true:=by unfold d5f;rw [h];simp
theorem NumX.whole {n:Nat} (hn:n <= 100000) {s:List UInt8} {d:Int} (hs:g2t s d):NumX (a8z 20 n++s) ⟨(n:Int),1⟩ d:=by
 have hd:=e53 20 n (Nat.lt_of_le_of_lt hn (by decide))
 have hdl:=c2g 20 n 5 (Nat.lt_of_le_of_lt hn (by decide))
 have hd2:2 <= d /\ d <= 4:=by rcases hs with ⟨_,rfl⟩ | ⟨_,rfl⟩ | ⟨_,rfl⟩<;>decide
 refine ⟨?_,?_,⟨_,_,c85 hd (by omega) hs⟩,e3u hd (by omega) hs,e1w (by omega) (by omega) hd2.1 hd2.2,e29 (by omega) hd2.1 hd2.2⟩
 ·cases hb:a8z 20 n with
  | nil=>exact absurd hb hd.ne
  | cons c r=>
    have hc:=hd.dig c (by rw [hb];simp)
    have hr:=b90 hc
    exact ⟨c,r++s,rfl,hc,by unfold e1s;simp;omega⟩
 ·intro x hx
  rcases List.mem_append.1 hx with hx | hx
  ·exact f8w (hd.dig x hx)
  ·rcases hs with ⟨rfl,_⟩ | ⟨rfl,_⟩ | ⟨rfl,_⟩
   ·cases hx
   ·rw [List.mem_singleton] at hx;subst hx;rfl
   ·rw [List.mem_singleton] at hx;subst hx;rfl
def g6u (o:Option (ByteArray×Bool)):Bool:=match o with | some (_,b)=>b | none=>false
theorem e3l {o:Option (ByteArray×Bool)} (h:g6u o=true): ∃s,o=some (s,true):=by
 cases o with
 | none=>cases h
 | some x=>obtain ⟨s,b⟩:=x;cases b with | false=>cases h | true=>exact ⟨s,rfl⟩
def okP (w:List UInt8) (d:Int):Bool:=match a0m ⟨w.toArray⟩ with | some (_,_,d2,b)=>b&&d2==d | none=>false
theorem g1p {w:List UInt8} {d:Int} (h:okP w d=true): ∃x y,a0m ⟨w.toArray⟩=some (x,y,d,true):=by
 unfold okP at h
 split at h
 ·rename_i x y d2 b he
  simp at h
  obtain ⟨rfl,rfl⟩:=h
  exact ⟨x,y,he⟩
 ·cases h
def okV (w:List UInt8) (d:Int) (v:Fraction):Bool:=match w6 ⟨w.toArray⟩ with | some (u,d2,b)=>b&&(d2==d&&(u.Num==v.Num&&u.Den==v.Den)) | none=>false
theorem g2o {w:List UInt8} {d:Int} {v:Fraction} (h:okV w d v=true):w6 ⟨w.toArray⟩=some (v,d,true):=by
 unfold okV at h
 split at h
 ·rename_i u d2 b he
  simp at h
  obtain ⟨rfl,rfl,h1,h2⟩:=h
  rw [he]
  cases u;cases v
  simp at h1 h2
  subst h1;subst h2
  rfl
 ·cases h
def f7w (w:List UInt8) (v:Fraction) (d:Int):Bool:=(match w with | c::_=>d10 (iv c)&& !e1s (iv c) | []=>false)&&(w.all (d5f true)&&(okP w d&&(okV w d v&&(g6u (s4 v d)&&g6u (a0c v d)))))
theorem NumX.chk {w:List UInt8} {v:Fraction} {d:Int} (h:f7w w v d=true):NumX w v d:=by
 unfold f7w at h
 simp only [Bool.and_eq_true] at h
 obtain ⟨h1,h2,h3,h4,h5,h6⟩:=h
 refine ⟨?_,fun x hx=>List.all_eq_true.1 h2 x hx,g1p h3,g2o h4,e3l h5,e3l h6⟩
 cases w with
 | nil=>cases h1
 | cons c r=>simp at h1;exact ⟨c,r,rfl,h1.1,h1.2⟩
def okA:List Lx -> List UInt8 -> Prop
 | [],_=>True
 | l::ls,rest=>LxOK l.t l.w (blk l.sp++(a05 ls++rest)) /\ okA ls rest
theorem a4i: ∀(a b:List Lx),a05 (a++b)=a05 a++a05 b
 | [],b=>rfl
 | l::a,b=>by
   show l.w++(blk l.sp++a05 (a++b))=l.w++(blk l.sp++a05 a)++a05 b
   rw [a4i a b];simp
theorem a9r: ∀(a b:List Lx) (rest:List UInt8),okA a (a05 b++rest) -> okA b rest -> okA (a++b) rest
 | [],b,rest,_,h=>h
 | l::a,b,rest,h1,h2=>⟨by
    have:=h1.1
    show LxOK l.t l.w (blk l.sp++(a05 (a++b)++rest))
    rw [a4i,List.append_assoc]
    exact this,a9r a b rest h1.2 h2⟩
theorem f3s: ∀(a:List Lx),okA a [] -> okL a
 | [],_=>trivial
 | l::a,h=>⟨by have:=h.1;rw [List.append_nil] at this;exact this,f3s a h.2⟩
def bl (s:ByteArray):List UInt8:=s.data.toList
def d6i (s:ByteArray):Bool:=match bl s with | c::w=>e1s (iv c)&&((c::w).all (d5f false)&&decide ((c::w).length <= 12)) | []=>false
theorem LxOK.word {s:ByteArray} {rest:List UInt8} (h:d6i s=true) (hr:c1j (d5f false) rest):LxOK (.w s) (bl s) rest:=by
 obtain ⟨⟨l⟩⟩:=s
 have hb:bl ⟨⟨l⟩⟩=l:=rfl
 unfold d6i at h
 rw [hb] at h⊢
 cases l with
 | nil=>cases h
 | cons c w=>
   simp only [Bool.and_eq_true,decide_eq_true_eq] at h
   exact LxOK.w (c:=c) (w:=w) h.1 (fun x hx=>List.all_eq_true.1 h.2.1 x hx) h.2.2 hr
def d2f (w:List UInt8) (day:Int):Bool:=match w with | c::r=>c==64&&(decide (r.length=10)&&(match a2e ⟨r.toArray⟩ with | some (x,b)=>b&&x==day | none=>false)) | []=>false
theorem LxOK.date {w rest:List UInt8} {day:Int} (h:d2f w day=true):LxOK (.d day) w rest:=by
 cases w with
 | nil=>cases h
 | cons c r=>
   unfold d2f at h
   simp only [Bool.and_eq_true,decide_eq_true_eq,beq_iff_eq] at h
   obtain ⟨rfl,h2,h3⟩:=h
   split at h3
   ·rename_i x b he
    simp at h3
    obtain ⟨rfl,rfl⟩:=h3
    exact LxOK.d h2 he
   ·cases h3
def g20 (s:ByteArray):Bool:=match bl s with
 | [c]=>e3h c
 | [c,c2]=>(c==60&&c2==61)||((c==62&&c2==61)||(c==60&&c2==62))
 | _=>false
def g6s (s:ByteArray):Bool:=match bl s with | [c]=>iv c != 60&&iv c != 62 | _=>false
def nx (p:UInt8 -> Bool) (sp:Bool) (ls:List Lx):Bool:=sp||(match ls with | m::_=>(match m.t with | .s s=>(match bl s with | c::_=> !p c | []=>false) | _=>false) | []=>false)
theorem f60 {p:UInt8 -> Bool} {sp:Bool} {ls:List Lx} {rest:List UInt8} (hp:p 32=false) (h:nx p sp ls=true) (hw: ∀m∈ls,∀s,m.t= .s s -> m.w=bl s):c1j p (blk sp++(a05 ls++rest)):=by
 intro c r he
 cases sp with
 | true=>
   have he:32::(a05 ls++rest)=c::r:=he
   injection he with h1 h2
   subst h1;exact hp
 | false=>
   have he:a05 ls++rest=c::r:=he
   cases ls with
   | nil=>cases h
   | cons m ls=>
     have h:(match m.t with | .s s=>(match bl s with | c::_=> !p c | []=>false) | _=>false)=true:=h
     have hm:=hw m (by simp)
     have he:m.w++(blk m.sp++a05 ls)++rest=c::r:=he
     cases ht:m.t with
     | s s=>
       rw [ht] at h
       have h:(match bl s with | c::_=> !p c | []=>false)=true:=h
       rw [hm s ht] at he
       cases hb:bl s with
       | nil=>rw [hb] at h;cases h
       | cons c2 r2=>
         rw [hb] at h he
         have:c2=c:=by injection he
         subst this
         simpa using h
     | w s=>rw [ht] at h;cases h
     | n v d=>rw [ht] at h;cases h
     | d day=>rw [ht] at h;cases h
def c4i:List Lx -> Bool
 | []=>true
 | l::ls=>(match l.t with
    | .w s=>l.w==bl s&&(d6i s&&nx (d5f false) l.sp ls)
    | .s s=>l.w==bl s&&(g20 s&&(g6s s||nx (fun c=>iv c==61||iv c==62) l.sp ls))
    | .n _ _=>nx (d5f true) l.sp ls
    | .d day=>d2f l.w day)&&c4i ls
def d2z:List Lx -> Prop
 | []=>True
 | l::ls=>(match l.t with | .n v d=>NumX l.w v d | _=>True) /\ d2z ls
theorem d09: ∀(ls:List Lx),c4i ls=true -> ∀m∈ls,∀s,m.t= .s s -> m.w=bl s
 | [],_,m,hm,_,_=>by cases hm
 | l::ls,h,m,hm,s,hs=>by
   unfold c4i at h
   rw [Bool.and_eq_true] at h
   rcases List.mem_cons.1 hm with rfl | hm
   ·rw [hs] at h
    simp only [Bool.and_eq_true,beq_iff_eq] at h
    exact h.1.1
   ·exact d09 ls h.2 m hm s hs
theorem c4c: ∀(ls:List Lx),c4i ls=true -> d2z ls -> ∀rest,okA ls rest
 | [],_,_,_=>trivial
 | l::ls,h,hn,rest=>by
   have hsg:=d09 ls (by unfold c4i at h;rw [Bool.and_eq_true] at h;exact h.2)
   obtain ⟨t,w,sp⟩:=l
   unfold c4i at h
   rw [Bool.and_eq_true] at h
   refine ⟨?_,c4c ls h.2 hn.2 rest⟩
   have h1:=h.1
   show LxOK t w (blk sp++(a05 ls++rest))
   cases t with
   | w s=>
     simp only [Bool.and_eq_true,beq_iff_eq] at h1
     obtain ⟨rfl,h2,h3⟩:=h1
     exact LxOK.word h2 (f60 rfl h3 hsg)
   | s s=>
     simp only [Bool.and_eq_true,beq_iff_eq] at h1
     obtain ⟨rfl,h2,h3⟩:=h1
     have h4:g6s s=true \/ c1j (fun c=>iv c==61||iv c==62) (blk sp++(a05 ls++rest)):=by
      rcases Bool.or_eq_true _ _ |>.mp h3 with h3 | h3
      ·exact .inl h3
      ·exact .inr (f60 (rest:=rest) (p:=fun c=>iv c==61||iv c==62) rfl h3 hsg)
     obtain ⟨⟨l⟩⟩:=s
     have hb:bl ⟨⟨l⟩⟩=l:=rfl
     unfold g20 at h2
     unfold g6s at h4
     rw [hb] at h2 h4⊢
     match l,h2,h4 with
     | [c],h2,h4=>
       refine LxOK.s1 h2 ?_
       rcases h4 with h4 | h4
       ·exact .inl (by simpa using h4)
       ·exact .inr h4
     | [c,c2],h2,_=>
       refine LxOK.s2 ?_
       simp only [Bool.or_eq_true,Bool.and_eq_true,beq_iff_eq] at h2
       rcases h2 with ⟨rfl,rfl⟩ | ⟨rfl,rfl⟩ | ⟨rfl,rfl⟩
       ·exact .inl rfl
       ·exact .inr (.inl rfl)
       ·exact .inr (.inr rfl)
   | n v d=>
     have hx:NumX w v d:=hn.1
     obtain ⟨c,r,rfl,hc1,hc2⟩:=hx.st
     obtain ⟨x,y,hp⟩:=hx.pt
     exact LxOK.n hc1 hc2 hx.rc (f60 rfl h1 hsg) hp hx.de
   | d day=>exact LxOK.date h1
end Go.PL
namespace Go.PL
open Go Go.SX
def W (s:ByteArray):Lx:=⟨.w s,bl s,true⟩
def Wn (s:ByteArray):Lx:=⟨.w s,bl s,false⟩
def Sg (s:ByteArray):Lx:=⟨.s s,bl s,true⟩
def Sh (s:ByteArray):Lx:=⟨.s s,bl s,false⟩
def N (w:List UInt8) (v:Fraction) (d:Int) (sp:Bool):Lx:=⟨.n v d,w,sp⟩
def num (n:Nat) (s:List UInt8) (d:Int) (sp:Bool):Lx:=N (a8z 20 n++s) ⟨(n:Int),1⟩ d sp
def a76:ByteArray:=⟨#[115,112,101,110,116]⟩
def b1a:ByteArray:=⟨#[112,97,114,116]⟩
def g0k:List UInt8:=[49,57,54,48]
def g1w:List UInt8:=[49,57,56,48]
def g0f:List UInt8:=[49,57,57,53]
def n1:List UInt8:=[49]
def n3:List UInt8:=[51]
def n12:List UInt8:=[49,50]
def n60:List UInt8:=[54,48]
def n30d:List UInt8:=[51,48,100]
def p50:List UInt8:=[48,46,53,48]
def p60:List UInt8:=[48,46,54,48]
def p70:List UInt8:=[48,46,55,48]
def p80:List UInt8:=[48,46,56,48]
theorem g4j:NumX g0k ⟨1960,1⟩ 2:= .chk (by kernel_rfl)
theorem g6j:NumX g1w ⟨1980,1⟩ 2:= .chk (by kernel_rfl)
theorem g6h:NumX g0f ⟨1995,1⟩ 2:= .chk (by kernel_rfl)
theorem x1:NumX n1 ⟨1,1⟩ 2:= .chk (by kernel_rfl)
theorem x3:NumX n3 ⟨3,1⟩ 2:= .chk (by kernel_rfl)
theorem x12:NumX n12 ⟨12,1⟩ 2:= .chk (by kernel_rfl)
theorem x60:NumX n60 ⟨60,1⟩ 2:= .chk (by kernel_rfl)
theorem x30d:NumX n30d ⟨30,1⟩ 3:= .chk (by kernel_rfl)
theorem xp50:NumX p50 ⟨1,2⟩ 2:= .chk (by kernel_rfl)
theorem xp60:NumX p60 ⟨3,5⟩ 2:= .chk (by kernel_rfl)
theorem xp70:NumX p70 ⟨7,10⟩ 2:= .chk (by kernel_rfl)
theorem g4p:NumX p80 ⟨4,5⟩ 2:= .chk (by kernel_rfl)
def lC6:List Lx:=[W a2h,Wn a6l,Sg a0k]
def lC7 (n:Nat):List Lx:=[W a2h,W a93,W a94,num n [] 2 false,Sg a0k]
def f8c (n:Nat):List Lx:=[W a2h,W b95,W a94,num n [] 2 false,Sg a0k]
def lC5:List Lx:=[W a2h,Wn b05,Sg a0k]
def lI0:List Lx:=[W a59,N g0k ⟨1960,1⟩ 2 true,N n1 ⟨1,1⟩ 2 false,Sg a0k]
def lI1 (w:List UInt8) (v:Fraction):List Lx:=[W a59,N g1w ⟨1980,1⟩ 2 true,N w v 2 false,Sg a0k]
def lI2 (w:List UInt8) (v:Fraction):List Lx:=[W a59,N g0f ⟨1995,1⟩ 2 true,N w v 2 false,Sg a0k]
def lL1 (n:Nat):List Lx:=[W b1r,W a76,Sg b9a,W a4l,Sg c1b,num n [100] 3 false,Sg a0k]
def lL2 (w:List UInt8) (v:Fraction):List Lx:=[W b1r,W b1a,Sg b9a,Wn b87,Sh a9f,W a76,Sg a8u,N w v 2 false,Sg c52,N p80 ⟨4,5⟩ 2 false,Sh b1p,Sg a0k]
def lG1 (a i m:Nat):List Lx:=[W a3z,W c1e,W b1f,W c27,Sg a5w,num a [] 2 true,W c00,W a4l,Sg a5w,num i [100] 3 true,W b33,Wn b6h,Sh a9f,W a9v,Sg a8u,Wn b1a,Sg c52,num m [109] 4 false,Sh b1p,Sg a0k]
def lG2 (i:Nat) (w:List UInt8) (v:Fraction):List Lx:=[W a3z,W a5k,W b1f,W a4l,Sg a5w,num i [100] 3 true,W b33,W a9v,Sg a8u,N w v 2 false,Sg a0k]
def lG3:List Lx:=[W a3z,W b2g,W b1f,W b6s,Sg d17,W b47,Sg a5w,N n30d ⟨30,1⟩ 3 true,W b33,W a9v,Sg a8u,W b1a,Sg a8u,N p60 ⟨3,5⟩ 2 false,Sg a0k]
def lG4 (i m:Nat):List Lx:=[W a3z,W b6o,W b1f,W a4l,Sg a5w,num i [100] 3 true,W b33,num m [109] 4 true,Sg a8u,Wn b2a,Sg a0k]
def lG5 (i:Nat):List Lx:=[W a3z,W b2m,W b1f,W a4l,Sg a5w,num i [100] 3 true,W b33,Wn b23,Sh a9f,N n3 ⟨3,1⟩ 2 false,Sg b1p,Sg c1b,N n12 ⟨12,1⟩ 2 true,Sg a8u,N p70 ⟨7,10⟩ 2 false,Sg a0k]
def lR1 (w:List UInt8) (v:Fraction):List Lx:=[W a4j,W c1e,W c3o,N w v 2 false,Sg a0k]
def lR2:List Lx:=[W a4j,W a5k,W c3o,W b1f,W c27,Sg d2e,N n60 ⟨60,1⟩ 2 true,W c0b,N p50 ⟨1,2⟩ 2 true,W b5h,N n1 ⟨1,1⟩ 2 false,Sg a0k]
def aL1 (n:Nat):AE:= .bin 10 (.nm a4l) (.lit ⟨(n:Int),1⟩ 3)
def aL2 (v:Fraction):AE:= .bin 19 (.bin 9 (.nm a76) (.lit v 2)) (.lit ⟨4,5⟩ 2)
def g1x (a i:Nat):AE:= .bin 17 (.bin 16 (.nm c27) (.lit ⟨(a:Int),1⟩ 2)) (.bin 16 (.nm a4l) (.lit ⟨(i:Int),1⟩ 3))
def g3s (m:Nat):AE:= .bin 20 (.bin 9 (.nm a9v) (.nm b1a)) (.lit ⟨(m:Int),1⟩ 4)
def e2b (i:Nat):AE:= .bin 16 (.nm a4l) (.lit ⟨(i:Int),1⟩ 3)
def g2a (v:Fraction):AE:= .bin 9 (.nm a9v) (.lit v 2)
def f7s:AE:= .bin 16 (.bin 7 (.nm b6s) (.nm b47)) (.lit ⟨30,1⟩ 3)
def f6x:AE:= .bin 9 (.bin 9 (.nm a9v) (.nm b1a)) (.lit ⟨3,5⟩ 2)
def g3m (m:Nat):AE:= .bin 9 (.lit ⟨(m:Int),1⟩ 4) (.nm b2a)
def g14:AE:= .bin 9 (.bin 10 (.best 3) (.lit ⟨12,1⟩ 2)) (.lit ⟨7,10⟩ 2)
def aR1 (v:Fraction):AE:= .lit v 2
def aR2:AE:= .ite (.bin 11 (.nm c27) (.lit ⟨60,1⟩ 2)) (.lit ⟨1,2⟩ 2) (.lit ⟨1,1⟩ 2)
def tk (l:List Lx) (ts:List Tk):List Tk:=l.map (·.t)++ts
theorem rC6 (ts:List Tk):ClR (tk lC6 ts) (.credit 6 0) ts:= .credit0 (x:=a6l) (by kernel_rfl) (by decide)
theorem rC5 (ts:List Tk):ClR (tk lC5 ts) (.credit 5 0) ts:= .credit0 (x:=b05) (by kernel_rfl) (by decide)
theorem rC7 {n:Nat} (h0:1 <= n) (h1:n <= 73049) (ts:List Tk):ClR (tk (lC7 n) ts) (.credit 7 n) ts:= .credit (x:=a93) (by kernel_rfl) (by decide) (by omega) (by omega)
theorem rC10 {n:Nat} (h0:1 <= n) (h1:n <= 73049) (ts:List Tk):ClR (tk (f8c n) ts) (.credit 10 n) ts:= .credit (x:=b95) (by kernel_rfl) (by decide) (by omega) (by omega)
theorem rI0 (ts:List Tk):ClR (tk lI0 ts) (.index 1960 ⟨1,1⟩) ts:= .index (by decide) (by decide) (by decide) (by decide)
theorem rI1 {w:List UInt8} {v:Fraction} (h:0<v.Num) (hd:v.Den≠0) (ts:List Tk):ClR (tk (lI1 w v) ts) (.index 1980 v) ts:= .index (by decide) (by decide) h hd
theorem rI2 {w:List UInt8} {v:Fraction} (h:0<v.Num) (hd:v.Den≠0) (ts:List Tk):ClR (tk (lI2 w v) ts) (.index 1995 v) ts:= .index (by decide) (by decide) h hd
theorem rL1 (n:Nat) (ts:List Tk):ClR (tk (lL1 n) ts) (.lett a76 (aL1 n)) ts:= .lett (x:=a76) (by kernel_rfl) (by kernel_rfl)
theorem rL2 (w:List UInt8) (v:Fraction) (ts:List Tk):ClR (tk (lL2 w v) ts) (.lett b1a (aL2 v)) ts:= .lett (x:=b1a) (by kernel_rfl) (by kernel_rfl)
theorem rG1 (a i m:Nat) (ts:List Tk):ClR (tk (lG1 a i m) ts) (.grant 1 (g1x a i) (g3s m)) ts:= .grant (x:=c1e) (vs:=([Wn b6h,Sh a9f,W a9v,Sg a8u,Wn b1a,Sg c52,num m [109] 4 false,Sh b1p,Sg a0k]:List Lx).map (·.t)++ts) (by kernel_rfl) (by decide) (by kernel_rfl) (by kernel_rfl)
theorem rG2 (i:Nat) (w:List UInt8) (v:Fraction) (ts:List Tk):ClR (tk (lG2 i w v) ts) (.grant 2 (e2b i) (g2a v)) ts:= .grant (x:=a5k) (vs:=([W a9v,Sg a8u,N w v 2 false,Sg a0k]:List Lx).map (·.t)++ts) (by kernel_rfl) (by decide) (by kernel_rfl) (by kernel_rfl)
theorem rG3 (ts:List Tk):ClR (tk lG3 ts) (.grant 3 f7s f6x) ts:= .grant (x:=b2g) (vs:=([W a9v,Sg a8u,W b1a,Sg a8u,N p60 ⟨3,5⟩ 2 false,Sg a0k]:List Lx).map (·.t)++ts) (by kernel_rfl) (by decide) (by kernel_rfl) (by kernel_rfl)
theorem rG4 (i m:Nat) (ts:List Tk):ClR (tk (lG4 i m) ts) (.grant 4 (e2b i) (g3m m)) ts:= .grant (x:=b6o) (vs:=([num m [109] 4 true,Sg a8u,Wn b2a,Sg a0k]:List Lx).map (·.t)++ts) (by kernel_rfl) (by decide) (by kernel_rfl) (by kernel_rfl)
theorem rG5 (i:Nat) (ts:List Tk):ClR (tk (lG5 i) ts) (.grant 5 (e2b i) g14) ts:= .grant (x:=b2m) (vs:=([Wn b23,Sh a9f,N n3 ⟨3,1⟩ 2 false,Sg b1p,Sg c1b,N n12 ⟨12,1⟩ 2 true,Sg a8u,N p70 ⟨7,10⟩ 2 false,Sg a0k]:List Lx).map (·.t)++ts) (by kernel_rfl) (by decide) (by kernel_rfl) (by kernel_rfl)
theorem rR1 (w:List UInt8) (v:Fraction) (ts:List Tk):ClR (tk (lR1 w v) ts) (.reduce 1 (aR1 v)) ts:= .reduce (x:=c1e) (by kernel_rfl) (by decide) (by kernel_rfl)
theorem rR2 (ts:List Tk):ClR (tk lR2 ts) (.reduce 2 aR2) ts:= .reduce (x:=a5k) (by kernel_rfl) (by decide) (by kernel_rfl)
theorem kC6:c4i lC6=true:=by kernel_rfl
theorem kC5:c4i lC5=true:=by kernel_rfl
theorem kC7 (n:Nat):c4i (lC7 n)=true:=by kernel_rfl
theorem kC10 (n:Nat):c4i (f8c n)=true:=by kernel_rfl
theorem kI0:c4i lI0=true:=by kernel_rfl
theorem kI1 (w:List UInt8) (v:Fraction):c4i (lI1 w v)=true:=by kernel_rfl
theorem kI2 (w:List UInt8) (v:Fraction):c4i (lI2 w v)=true:=by kernel_rfl
theorem kL1 (n:Nat):c4i (lL1 n)=true:=by kernel_rfl
theorem kL2 (w:List UInt8) (v:Fraction):c4i (lL2 w v)=true:=by kernel_rfl
theorem kG1 (a i m:Nat):c4i (lG1 a i m)=true:=by kernel_rfl
theorem kG2 (i:Nat) (w:List UInt8) (v:Fraction):c4i (lG2 i w v)=true:=by kernel_rfl
theorem kG3:c4i lG3=true:=by kernel_rfl
theorem kG4 (i m:Nat):c4i (lG4 i m)=true:=by kernel_rfl
theorem kG5 (i:Nat):c4i (lG5 i)=true:=by kernel_rfl
theorem kR1 (w:List UInt8) (v:Fraction):c4i (lR1 w v)=true:=by kernel_rfl
theorem kR2:c4i lR2=true:=by kernel_rfl
end Go.PL
namespace Go.PL
open Go Go.SX
def c9w (n:Nat):List UInt8:=a8z 20 (n/100)++(46::(a8z 20 (n/10%10)++a8z 20 (n%10)))
def b6j (n:Nat):Fraction:=⟨((n/Nat.gcd n 100:Nat):Int),((100/Nat.gcd n 100:Nat):Int)⟩
def c5h (a k:Nat):Bool:=(List.range k).all fun i=>f7w (c9w (a+i)) (b6j (a+i)) 2
theorem pc0:c5h 0 100=true:=by kernel_rfl
theorem pc1:c5h 100 100=true:=by kernel_rfl
theorem pc2:c5h 200 100=true:=by kernel_rfl
theorem pc3:c5h 300 100=true:=by kernel_rfl
theorem pc4:c5h 400 100=true:=by kernel_rfl
theorem pc5:c5h 500 100=true:=by kernel_rfl
theorem pc6:c5h 600 100=true:=by kernel_rfl
theorem c7f {a k n:Nat} (h:c5h a k=true) (h0:a <= n) (h1:n<a+k):NumX (c9w n) (b6j n) 2:=by
 have:=List.all_eq_true.1 h (n-a) (by simp;omega)
 rw [show a+(n-a)=n by omega] at this
 exact .chk this
theorem c4u {n:Nat} (h:n<700):NumX (c9w n) (b6j n) 2:=by
 rcases Nat.lt_or_ge n 100 with h0 | h0
 ·exact c7f pc0 (by omega) (by omega)
 rcases Nat.lt_or_ge n 200 with h1 | h1
 ·exact c7f pc1 h0 (by omega)
 rcases Nat.lt_or_ge n 300 with h2 | h2
 ·exact c7f pc2 h1 (by omega)
 rcases Nat.lt_or_ge n 400 with h3 | h3
 ·exact c7f pc3 h2 (by omega)
 rcases Nat.lt_or_ge n 500 with h4 | h4
 ·exact c7f pc4 h3 (by omega)
 rcases Nat.lt_or_ge n 600 with h5 | h5
 ·exact c7f pc5 h4 (by omega)
 ·exact c7f pc6 h5 (by omega)
theorem d00 (n:Nat):0<Nat.gcd n 100:=Nat.gcd_pos_of_pos_right _ (by decide)
theorem c6d {n:Nat} (h:0<n):0<(b6j n).Num:=by
 have h1:Nat.gcd n 100 ∣ n:=Nat.gcd_dvd_left _ _
 have h2:=Nat.div_pos (Nat.le_of_dvd h h1) (d00 n)
 show (0:Int)<((n/Nat.gcd n 100:Nat):Int)
 omega
theorem d9s (n:Nat):(b6j n).Den≠0:=by
 have h1:Nat.gcd n 100 ∣ 100:=Nat.gcd_dvd_right _ _
 have h2:=Nat.div_pos (Nat.le_of_dvd (by decide) h1) (d00 n)
 show ((100/Nat.gcd n 100:Nat):Int)≠0
 omega
theorem d4s {n:Nat} (h:n<1000):s7 (n:Int)=some ⟨(c9w n).toArray⟩:=by
 unfold s7
 have q1:b55 (n:Int) 100=some ((n/100:Nat):Int):=by unfold b55;rw [if_neg (by decide),Int.tdiv_eq_ediv_of_nonneg (by omega),j6 (by omega) (by omega)];congr 1
 have q2:b55 (n:Int) 10=some ((n/10:Nat):Int):=by unfold b55;rw [if_neg (by decide),Int.tdiv_eq_ediv_of_nonneg (by omega),j6 (by omega) (by omega)];congr 1
 have r1:b5l ((n/10:Nat):Int) 10=some ((n/10%10:Nat):Int):=by unfold b5l;rw [if_neg (by decide),Int.tmod_eq_emod_of_nonneg (by omega)];congr 1
 have r2:b5l (n:Int) 10=some ((n%10:Nat):Int):=by unfold b5l;rw [if_neg (by decide),Int.tmod_eq_emod_of_nonneg (by omega)];congr 1
 have l0: ∀m,m<10 -> (a8z 20 m).length <= 1:=fun m hm=>c2g 20 m 0 (by omega)
 have a0:=l0 (n/100) (by omega)
 have a1:=l0 (n/10%10) (by omega)
 have a2:=l0 (n%10) (by omega)
 have c1:a4o ⟨(a8z 20 (n/100)).toArray⟩ a9z=some ⟨(a8z 20 (n/100)++[46]).toArray⟩:=d3t (b:=[46]) (by simp;omega)
 have c2:a4o ⟨(a8z 20 (n/100)++[46]).toArray⟩ ⟨(a8z 20 (n/10%10)).toArray⟩=some ⟨(a8z 20 (n/100)++[46]++a8z 20 (n/10%10)).toArray⟩:=d3t (by simp;omega)
 have c3:a4o ⟨(a8z 20 (n/100)++[46]++a8z 20 (n/10%10)).toArray⟩ ⟨(a8z 20 (n%10)).toArray⟩=some ⟨(a8z 20 (n/100)++[46]++a8z 20 (n/10%10)++a8z 20 (n%10)).toArray⟩:=d3t (by simp;omega)
 simp only [q1,q2,r1,r2,Option.bind_some,b7t (show n/100<1000000 by omega),b7t (show n/10%10<1000000 by omega),b7t (show n%10<1000000 by omega),c1,c2,c3]
 unfold c9w
 simp
end Go.PL
namespace Go.PL
open Go Go.SX
structure Ps where
 day:Int
 date:List UInt8
 m:Int
 mx:ByteArray
 u:Nat
 l7:Nat
 l10:Nat
 c1:Bool
 c2:Bool
 c3:Bool
 c4:Bool
 c5:Bool
 na:Nat
 nb:Nat
 np:Nat
 yr:Nat
 g1a:Nat
 g1i:Nat
 g1m:Nat
 g2i:Nat
 nd:Nat
 g4i:Nat
 g4m:Nat
 g5i:Nat
 nr:Nat
structure PsOK (P:Ps):Prop where
 dt:d2f (64::P.date) P.day=true
 d0:0 <= P.day
 d1:P.day <= 73048
 mw:d6i P.mx=true
 mo:ofW P.mx 3=some P.m
 m0:1 <= P.m
 m1:P.m <= 4
 mS:nz (a1h d8l P.m)=true
 u0:1 <= P.u
 u1:P.u <= 100000
 l70:1 <= P.l7
 l71:P.l7 <= 73049
 l100:1 <= P.l10
 l101:P.l10 <= 73049
 na0:1 <= P.na
 na1:P.na<700
 nb0:1 <= P.nb
 nb1:P.nb<700
 np1:P.np<700
 nd1:P.nd<700
 nr1:P.nr<700
 yr1:P.yr <= 100000
 a1:P.g1a <= 100000
 a2:P.g1i <= 100000
 a3:P.g1m <= 100000
 a4:P.g2i <= 100000
 a5:P.g4i <= 100000
 a6:P.g4m <= 100000
 a7:P.g5i <= 100000
def Ps.prs (P:Ps):List (List Lx×Cl):=
 [(lC6,.credit 6 0),(lC7 P.l7,.credit 7 P.l7)]++((if P.c1 then [(f8c P.l10,.credit 10 P.l10)] else [])++((if P.c2 then [(lC5,.credit 5 0)] else [])++
 ([(lI0,.index 1960 ⟨1,1⟩),(lI1 (c9w P.na) (b6j P.na),.index 1980 (b6j P.na)),(lI2 (c9w P.nb) (b6j P.nb),.index 1995 (b6j P.nb)),(lL1 P.yr,.lett a76 (aL1 P.yr)),(lL2 (c9w P.np) (b6j P.np),.lett b1a (aL2 (b6j P.np))),
   (lG1 P.g1a P.g1i P.g1m,.grant 1 (g1x P.g1a P.g1i) (g3s P.g1m)),(lG2 P.g2i (c9w P.nd) (b6j P.nd),.grant 2 (e2b P.g2i) (g2a (b6j P.nd)))]++
 ((if P.c3 then [(lG3,.grant 3 f7s f6x)] else [])++([(lG4 P.g4i P.g4m,.grant 4 (e2b P.g4i) (g3m P.g4m)),(lG5 P.g5i,.grant 5 (e2b P.g5i) g14)]++
 ((if P.c4 then [(lR1 (c9w P.nr) (b6j P.nr),.reduce 1 (aR1 (b6j P.nr)))] else [])++(if P.c5 then [(lR2,.reduce 2 aR2)] else [])))))))
def e1h (P:Ps):List Lx:=[W b5c,⟨.d P.day,64::P.date,true⟩,Sg b50,W b2d,W P.mx,num P.u [] 2 false,Sg a0k]
def Ps.cls (P:Ps):List Cl:=P.prs.map (·.2)
def fl (l:List (List Lx×Cl)):List Lx:=l.flatMap (·.1)
def lxV (P:Ps):List Lx:=e1h P++(fl P.prs++[Sg a2w])
structure PrOK (p:List Lx×Cl):Prop where
 k:c4i p.1=true
 n:d2z p.1
 r: ∀ts,ClR (tk p.1 ts) p.2 ts
theorem c13 {α:Type} {b:Bool} {x:α} {l:List α} (h:x∈(if b=true then l else [])):x∈l:=by cases b with | false=>cases h | true=>exact h
theorem f4e {P:Ps} (h:PsOK P): ∀p∈P.prs,PrOK p:=by
 have w2: ∀{n:Nat},n <= 100000 -> NumX (a8z 20 n++[]) ⟨(n:Int),1⟩ 2:=fun hn=> .whole hn (.inl ⟨rfl,rfl⟩)
 have w3: ∀{n:Nat},n <= 100000 -> NumX (a8z 20 n++[100]) ⟨(n:Int),1⟩ 3:=fun hn=> .whole hn (.inr (.inl ⟨rfl,rfl⟩))
 have w4: ∀{n:Nat},n <= 100000 -> NumX (a8z 20 n++[109]) ⟨(n:Int),1⟩ 4:=fun hn=> .whole hn (.inr (.inr ⟨rfl,rfl⟩))
 have h1:=h.l71
 have h2:=h.l101
 have t:=trivial
 intro p hp
 unfold Ps.prs at hp
 rcases List.mem_append.1 hp with hp | hp
 ·simp only [List.mem_cons,List.not_mem_nil,or_false] at hp
  rcases hp with rfl | rfl
  ·exact ⟨kC6,⟨t,t,t,t⟩,rC6⟩
  ·exact ⟨kC7 _,⟨t,t,t,w2 (by omega),t,t⟩,rC7 h.l70 h.l71⟩
 rcases List.mem_append.1 hp with hp | hp
 ·have hp:=c13 hp
  rw [List.mem_singleton] at hp;subst hp
  exact ⟨kC10 _,⟨t,t,t,w2 (by omega),t,t⟩,rC10 h.l100 h.l101⟩
 rcases List.mem_append.1 hp with hp | hp
 ·have hp:=c13 hp
  rw [List.mem_singleton] at hp;subst hp
  exact ⟨kC5,⟨t,t,t,t⟩,rC5⟩
 rcases List.mem_append.1 hp with hp | hp
 ·simp only [List.mem_cons,List.not_mem_nil,or_false] at hp
  rcases hp with rfl | rfl | rfl | rfl | rfl | rfl | rfl
  ·exact ⟨kI0,⟨t,g4j,x1,t,t⟩,rI0⟩
  ·exact ⟨kI1 _ _,⟨t,g6j,c4u h.na1,t,t⟩,rI1 (c6d h.na0) (d9s _)⟩
  ·exact ⟨kI2 _ _,⟨t,g6h,c4u h.nb1,t,t⟩,rI2 (c6d h.nb0) (d9s _)⟩
  ·exact ⟨kL1 _,⟨t,t,t,t,t,w3 h.yr1,t,t⟩,rL1 _⟩
  ·exact ⟨kL2 _ _,⟨t,t,t,t,t,t,t,c4u h.np1,t,g4p,t,t,t⟩,rL2 _ _⟩
  ·exact ⟨kG1 _ _ _,⟨t,t,t,t,t,w2 h.a1,t,t,t,w3 h.a2,t,t,t,t,t,t,t,w4 h.a3,t,t,t⟩,rG1 _ _ _⟩
  ·exact ⟨kG2 _ _ _,⟨t,t,t,t,t,w3 h.a4,t,t,t,c4u h.nd1,t,t⟩,rG2 _ _ _⟩
 rcases List.mem_append.1 hp with hp | hp
 ·have hp:=c13 hp
  rw [List.mem_singleton] at hp;subst hp
  exact ⟨kG3,⟨t,t,t,t,t,t,t,x30d,t,t,t,t,t,xp60,t,t⟩,rG3⟩
 rcases List.mem_append.1 hp with hp | hp
 ·simp only [List.mem_cons,List.not_mem_nil,or_false] at hp
  rcases hp with rfl | rfl
  ·exact ⟨kG4 _ _,⟨t,t,t,t,t,w3 h.a5,t,w4 h.a6,t,t,t,t⟩,rG4 _ _⟩
  ·exact ⟨kG5 _,⟨t,t,t,t,t,w3 h.a7,t,t,t,x3,t,t,x12,t,xp70,t,t⟩,rG5 _⟩
 rcases List.mem_append.1 hp with hp | hp
 ·have hp:=c13 hp
  rw [List.mem_singleton] at hp;subst hp
  exact ⟨kR1 _ _,⟨t,t,t,c4u h.nr1,t,t⟩,rR1 _ _⟩
 ·have hp:=c13 hp
  rw [List.mem_singleton] at hp;subst hp
  exact ⟨kR2,⟨t,t,t,t,t,t,x60,t,xp50,t,x1,t,t⟩,rR2⟩
theorem f3a: ∀(l:List (List Lx×Cl)),(∀p∈l,PrOK p) -> ∀rest,okA (fl l) rest
 | [],_,_=>trivial
 | p::l,h,rest=>a9r p.1 (fl l) rest (c4c p.1 (h p (by simp)).k (h p (by simp)).n _) (f3a l (fun q hq=>h q (by simp [hq])) rest)
theorem f2z: ∀(l:List (List Lx×Cl)),(∀p∈l,PrOK p) -> ∀ts,ClsR (tk (fl l++[Sg a2w]) ts) (l.map (·.2)) ts
 | [],_,ts=>ClsR.nil
 | p::l,h,ts=>by
   have h1:=(h p (by simp)).r (tk (fl l++[Sg a2w]) ts)
   have h2:=f2z l (fun q hq=>h q (by simp [hq])) ts
   have e:tk (fl (p::l)++[Sg a2w]) ts=tk p.1 (tk (fl l++[Sg a2w]) ts):=by
    unfold tk fl
    simp
   rw [e]
   exact ClsR.cons h1 h2
theorem f9j (P:Ps):P.cls.length <= 900:=by
 unfold Ps.cls Ps.prs
 simp only [List.length_map,List.length_append,List.length_cons,List.length_nil]
 have e: ∀(b:Bool) (x:List Lx×Cl),(if b=true then [x] else []).length <= 1:=fun b x=>by cases b<;>simp
 have e1:=e P.c1 (f8c P.l10,.credit 10 P.l10)
 have e2:=e P.c2 (lC5,.credit 5 0)
 have e3:=e P.c3 (lG3,.grant 3 f7s f6x)
 have e4:=e P.c4 (lR1 (c9w P.nr) (b6j P.nr),.reduce 1 (aR1 (b6j P.nr)))
 have e5:=e P.c5 (lR2,.reduce 2 aR2)
 omega
def Ps.ver (P:Ps):Version:=g3e P.day P.m P.u P.cls
theorem g1c {P:Ps} (h:PsOK P) (ts:List Tk):VerR (tk (lxV P) ts) P.ver ts:=by
 refine ⟨⟨P.day,P.m,P.u,P.mx,P.cls,tk (fl P.prs++[Sg a2w]) ts,?_,h.mo,by have:=h.m0;omega,by have:=h.u0;omega,by have:=h.u1;omega,f2z P.prs (f4e h) ts,f9j P,rfl⟩⟩
 unfold lxV tk
 rw [List.map_append,List.append_assoc]
 rfl
theorem e7v {P:Ps} (h:PsOK P) (rest:List UInt8):okA (lxV P) rest:=by
 have k0:c4i (e1h P)=true:=by
  unfold e1h
  simp only [c4i,W,Sg,num,N,BEq.rfl,nx,h.dt,h.mw,Bool.true_and,Bool.and_true,Bool.true_or]
  kernel_rfl
 have n0:d2z (e1h P):=⟨trivial,trivial,trivial,trivial,trivial,.whole h.u1 (.inl ⟨rfl,rfl⟩),trivial,trivial⟩
 refine a9r _ _ _ (c4c _ k0 n0 _) (a9r _ _ _ (f3a _ (f4e h) _) (c4c [Sg a2w] (by kernel_rfl) ⟨trivial,trivial⟩ _))
end Go.PL
namespace Go.PL
open Go Go.SX
def d5m:List Binding:=[⟨a76,2⟩,⟨b1a,2⟩]
def Ps.crs (P:Ps):List Credit:=[⟨6,0⟩,⟨7,P.l7⟩]++((if P.c1 then [⟨10,P.l10⟩] else [])++(if P.c2 then [⟨5,0⟩] else []))
def Ps.ixs (P:Ps):List Index:=[⟨1960,⟨1,1⟩⟩,⟨1980,b6j P.na⟩,⟨1995,b6j P.nb⟩]
def Ps.lts (P:Ps):List Let:=[⟨a76,(aL1 P.yr).e⟩,⟨b1a,(aL2 (b6j P.np)).e⟩]
def Ps.grs (P:Ps):List Grant:=[⟨1,(g1x P.g1a P.g1i).e,(g3s P.g1m).e⟩,⟨2,(e2b P.g2i).e,(g2a (b6j P.nd)).e⟩]++((if P.c3 then [⟨3,f7s.e,f6x.e⟩] else [])++[⟨4,(e2b P.g4i).e,(g3m P.g4m).e⟩,⟨5,(e2b P.g5i).e,g14.e⟩])
def Ps.rds (P:Ps):List Reduce:=(if P.c4 then [⟨1,(aR1 (b6j P.nr)).e⟩] else [])++(if P.c5 then [⟨2,aR2.e⟩] else [])
theorem f3y (P:Ps):P.ver=⟨P.day,⟨P.m,P.u⟩,P.crs,P.ixs,P.lts,P.grs,P.rds⟩:=by
 obtain ⟨day,date,m,mx,u,l7,l10,c1,c2,c3,c4,c5,na,nb,np,yr,g1a,g1i,g1m,g2i,nd,g4i,g4m,g5i,nr⟩:=P
 cases c1<;>cases c2<;>cases c3<;>cases c4<;>cases c5<;>rfl
theorem b2k {w:List UInt8} {v:Fraction} {d:Int} (h:NumX w v d):(AE.lit v d).ok:= .mk ⟨h.f5,h.fS⟩ fun b hb=>by cases hb
theorem c8k {s:ByteArray} (h:(match u9 s,a5d s with | some true,some true=>true | _,_=>false)=true):(AE.nm s).ok:=by
 refine .mk ?_ fun b hb=>by cases hb
 split at h
 ·rename_i h1 h2;exact ⟨h1,h2⟩
 ·cases h
theorem f61 {k:Int} (h0:1 <= k) (h1:k <= 45):(AE.best k).ok:= .mk ⟨h0,h1⟩ fun b hb=>by cases hb
theorem a96 {op:Int} {a b:AE} (h0:7 <= op) (h1:op <= 20) (ha:a.ok) (hb:b.ok):(AE.bin op a b).ok:= .mk ⟨h0,h1⟩ fun x hx=>by simp [AE.args] at hx;rcases hx with rfl | rfl<;>assumption
theorem g2f {a b c:AE} (ha:a.ok) (hb:b.ok) (hc:c.ok):(AE.ite a b c).ok:= .mk trivial fun x hx=>by simp [AE.args] at hx;rcases hx with rfl | rfl | rfl<;>assumption
theorem g23:(AE.nm c27).ok:=c8k (by kernel_rfl)
theorem e8g:(AE.nm a4l).ok:=c8k (by kernel_rfl)
theorem e5l:(AE.nm a9v).ok:=c8k (by kernel_rfl)
theorem d3b:(AE.nm b1a).ok:=c8k (by kernel_rfl)
theorem c6t:(AE.nm a76).ok:=c8k (by kernel_rfl)
theorem f01:(AE.nm b6s).ok:=c8k (by kernel_rfl)
theorem g5s:(AE.nm b47).ok:=c8k (by kernel_rfl)
theorem g6w:(AE.nm b2a).ok:=c8k (by kernel_rfl)
theorem env0:d3p []:=⟨by simp,fun b hb=>by cases hb⟩
theorem env1:d3p [⟨a76,2⟩]:=⟨by simp,fun b hb=>by rw [List.mem_singleton] at hb;subst hb;exact ⟨by show (1:Int) <= 2;decide,by show (2:Int) <= 4;decide⟩⟩
theorem env2:d3p d5m:=⟨by simp [d5m],fun b hb=>by
 simp only [d5m,List.mem_cons,List.not_mem_nil,or_false] at hb
 rcases hb with rfl | rfl<;>exact ⟨by show (1:Int) <= 2;decide,by show (2:Int) <= 4;decide⟩⟩
theorem e80 {env:List Binding} {a:AE} {d:Int} (h:a.ok) (hd:Nat.ble a.dep 10=true) (hs:Nat.ble a.sz 60=true) (hi:a.inf env=some d):ExOK env a.e d:=⟨a,rfl,h,Nat.le_of_ble_eq_true hd,Nat.le_of_ble_eq_true hs,hi⟩
theorem f5c {s:ByteArray} (h:(AE.nm s).ok):b3z s=some true:=by
 unfold b3z
 rw [show (⟨2,⟨0,0⟩,0,s,[]⟩:Expr)=(AE.nm s).e from rfl,c04 h (show 1 <= 10 by decide) (show 1 <= 60 by decide)]
 rfl
theorem g0v {P:Ps} (h:PsOK P):b4e P.lts=some (d5m,0):=by
 have k1:(aL1 P.yr).ok:=a96 (by decide) (by decide) e8g (b2k (.whole h.yr1 (.inr (.inl ⟨rfl,rfl⟩))))
 have k2:(aL2 (b6j P.np)).ok:=a96 (by decide) (by decide) (a96 (by decide) (by decide) c6t (b2k (c4u h.np1))) (b2k g4p)
 have i1:=d1t env0 k1 (Nat.le_of_ble_eq_true (by kernel_rfl)) (Nat.le_of_ble_eq_true (by kernel_rfl)) (d:=2) (by kernel_rfl)
 have i2:=d1t env1 k2 (Nat.le_of_ble_eq_true (by kernel_rfl)) (Nat.le_of_ble_eq_true (by kernel_rfl)) (d:=2) (by kernel_rfl)
 unfold b4e
 have hlen:P.lts.length=2:=rfl
 rw [if_neg (by rw [hlen];decide)]
 obtain ⟨m,hm⟩:=d7z
 rw [hm,j8]
 generalize hA:d8 (m+1+1) (a72 P.lts)=A
 unfold a72
 have g0:c8 P.lts 0=some ⟨a76,(aL1 P.yr).e⟩:=rfl
 have g1:c8 P.lts 1=some ⟨b1a,(aL2 (b6j P.np)).e⟩:=rfl
 have c0:p6 [] ⟨a76,(aL1 P.yr).e⟩=some false:=by kernel_rfl
 have c1:p6 [⟨a76,2⟩] ⟨b1a,(aL2 (b6j P.np)).e⟩=some false:=by kernel_rfl
 have n0:a7w a76=some (0,false):=by kernel_rfl
 have n1:a7w b1a=some (0,false):=by kernel_rfl
 have a0:a9h 24 ([]:List Binding) [⟨a76,2⟩]=some [⟨a76,2⟩]:=b3k (by simp) (by decide)
 have a1:a9h 24 ([⟨a76,2⟩]:List Binding) [⟨b1a,2⟩]=some d5m:=b3k (by simp) (by decide)
 simp only [hlen,show decide ((0:Int)<((2:Nat):Int))=true from rfl,if_true,g0,Option.bind_some,n0,Bool.false_eq_true,if_false,f5c c6t,Bool.not_true,c0,i1,show ((0:Int) != 0)=false from rfl,a0]
 rw [<- hA,j8]
 generalize hB:d8 (m+1) (a72 P.lts)=B
 unfold a72
 simp only [hlen,show i64 (0+1)=1 from rfl,show decide ((1:Int)<((2:Nat):Int))=true from rfl,if_true,g1,Option.bind_some,n1,Bool.false_eq_true,if_false,f5c d3b,Bool.not_true,c1,i2,show ((0:Int) != 0)=false from rfl,a1]
 rw [<- hB,j8]
 unfold a72
 simp only [hlen,show i64 (1+1)=2 from rfl,show decide ((2:Int)<((2:Nat):Int))=false from rfl,Bool.false_eq_true,if_false]
theorem e6x {P:Ps} (h:PsOK P):VOK d5m P.ver:=by
 have hl7:=h.l71
 have w2: ∀{n:Nat},n <= 100000 -> (AE.lit ⟨(n:Int),1⟩ 2).ok:=fun hn=>b2k (.whole hn (.inl ⟨rfl,rfl⟩))
 have w3: ∀{n:Nat},n <= 100000 -> (AE.lit ⟨(n:Int),1⟩ 3).ok:=fun hn=>b2k (.whole hn (.inr (.inl ⟨rfl,rfl⟩)))
 have w4: ∀{n:Nat},n <= 100000 -> (AE.lit ⟨(n:Int),1⟩ 4).ok:=fun hn=>b2k (.whole hn (.inr (.inr ⟨rfl,rfl⟩)))
 have kIns: ∀{i:Nat},i <= 100000 -> ExOK d5m (e2b i).e 1:=fun hi=>e80 (a96 (by decide) (by decide) e8g (w3 hi)) (by kernel_rfl) (by kernel_rfl) (by kernel_rfl)
 have k1i:ExOK d5m (g1x P.g1a P.g1i).e 1:=e80 (a96 (by decide) (by decide) (a96 (by decide) (by decide) g23 (w2 h.a1)) (a96 (by decide) (by decide) e8g (w3 h.a2))) (by kernel_rfl) (by kernel_rfl) (by kernel_rfl)
 have k1p:ExOK d5m (g3s P.g1m).e 4:=e80 (a96 (by decide) (by decide) (a96 (by decide) (by decide) e5l d3b) (w4 h.a3)) (by kernel_rfl) (by kernel_rfl) (by kernel_rfl)
 have k2p:ExOK d5m (g2a (b6j P.nd)).e 4:=e80 (a96 (by decide) (by decide) e5l (b2k (c4u h.nd1))) (by kernel_rfl) (by kernel_rfl) (by kernel_rfl)
 have k3i:ExOK d5m f7s.e 1:=e80 (a96 (by decide) (by decide) (a96 (by decide) (by decide) f01 g5s) (b2k x30d)) (by kernel_rfl) (by kernel_rfl) (by kernel_rfl)
 have k3p:ExOK d5m f6x.e 4:=e80 (a96 (by decide) (by decide) (a96 (by decide) (by decide) e5l d3b) (b2k xp60)) (by kernel_rfl) (by kernel_rfl) (by kernel_rfl)
 have k4p:ExOK d5m (g3m P.g4m).e 4:=e80 (a96 (by decide) (by decide) (w4 h.a6) g6w) (by kernel_rfl) (by kernel_rfl) (by kernel_rfl)
 have k5p:ExOK d5m g14.e 4:=e80 (a96 (by decide) (by decide) (a96 (by decide) (by decide) (f61 (by decide) (by decide)) (b2k x12)) (b2k xp70)) (by kernel_rfl) (by kernel_rfl) (by kernel_rfl)
 have kr1:ExOK d5m (aR1 (b6j P.nr)).e 2:=e80 (b2k (c4u h.nr1)) (by kernel_rfl) (by kernel_rfl) (by kernel_rfl)
 have kr2:ExOK d5m aR2.e 2:=e80 (g2f (a96 (by decide) (by decide) g23 (b2k x60)) (b2k xp50) (b2k x1)) (by kernel_rfl) (by kernel_rfl) (by kernel_rfl)
 have b1:BnOK 1:=⟨by kernel_rfl,by kernel_rfl⟩
 have b2:BnOK 2:=⟨by kernel_rfl,by kernel_rfl⟩
 have b3:BnOK 3:=⟨by kernel_rfl,by kernel_rfl⟩
 have b4:BnOK 4:=⟨by kernel_rfl,by kernel_rfl⟩
 have b5:BnOK 5:=⟨by kernel_rfl,by kernel_rfl⟩
 have e1: ∀{α:Type} (b:Bool) (x:α),(if b=true then [x] else []).length <= 1:=fun b x=>by cases b<;>simp
 have ls:=g0v h
 have hu:=h.u0
 have hu1:=h.u1
 have hl10:=h.l101
 rw [f3y]
 refine ⟨h.d0,h.d1,h.m0,h.m1,h.mS,by show (1:Int) <= (P.u:Int);omega,by show (P.u:Int) <= 100000;omega,?_,by show (3:Nat) <= 20;decide,by show (2:Nat) <= 10;decide,?_,?_,?_,?_,?_,?_,?_,ls,env2,?_,?_,?_,?_⟩
 ·show P.crs.length <= 6
  unfold Ps.crs
  have:=e1 P.c1 (⟨10,P.l10⟩:Credit);have:=e1 P.c2 (⟨5,0⟩:Credit)
  simp only [List.length_append,List.length_cons,List.length_nil];omega
 ·show P.grs.length <= 5
  unfold Ps.grs
  have:=e1 P.c3 (⟨3,f7s.e,f6x.e⟩:Grant)
  simp only [List.length_append,List.length_cons,List.length_nil];omega
 ·show P.rds.length <= 5
  unfold Ps.rds
  have:=e1 P.c4 (⟨1,(aR1 (b6j P.nr)).e⟩:Reduce);have:=e1 P.c5 (⟨2,aR2.e⟩:Reduce)
  simp only [List.length_append];omega
 ·intro c hc
  have hc:c∈P.crs:=hc
  unfold Ps.crs at hc
  rcases List.mem_append.1 hc with hc | hc
  ·simp only [List.mem_cons,List.not_mem_nil,or_false] at hc
   rcases hc with rfl | rfl
   ·exact ⟨by kernel_rfl,by kernel_rfl,by show (0:Int) <= 0;decide,by show (0:Int) <= 73049;decide⟩
   ·exact ⟨by kernel_rfl,by kernel_rfl,by show (0:Int) <= (P.l7:Int);omega,by show (P.l7:Int) <= 73049;omega⟩
  rcases List.mem_append.1 hc with hc | hc
  ·have hc:=c13 hc
   rw [List.mem_singleton] at hc;subst hc
   exact ⟨by kernel_rfl,by kernel_rfl,by show (0:Int) <= (P.l10:Int);omega,by show (P.l10:Int) <= 73049;omega⟩
  ·have hc:=c13 hc
   rw [List.mem_singleton] at hc;subst hc
   exact ⟨by kernel_rfl,by kernel_rfl,by show (0:Int) <= 0;decide,by show (0:Int) <= 73049;decide⟩
 ·show P.crs.Pairwise _
  unfold Ps.crs
  cases P.c1<;>cases P.c2<;>simp
 ·intro x hx
  have hx:x∈P.ixs:=hx
  unfold Ps.ixs at hx
  simp only [List.mem_cons,List.not_mem_nil,or_false] at hx
  rcases hx with rfl | rfl | rfl
  ·exact ⟨by show (1900:Int) <= 1960;decide,by show (1960:Int) <= 2099;decide,by show (1:Int) <= 1;decide,x1.f5,x1.fS⟩
  ·exact ⟨by show (1900:Int) <= 1980;decide,by show (1980:Int) <= 2099;decide,c6d h.na0,(c4u h.na1).f5,(c4u h.na1).fS⟩
  ·exact ⟨by show (1900:Int) <= 1995;decide,by show (1995:Int) <= 2099;decide,c6d h.nb0,(c4u h.nb1).f5,(c4u h.nb1).fS⟩
 ·show P.ixs.Pairwise _
  unfold Ps.ixs
  simp
 ·intro x hx
  have hx:x∈P.lts:=hx
  unfold Ps.lts at hx
  simp only [List.mem_cons,List.not_mem_nil,or_false] at hx
  have k1:(aL1 P.yr).ok:=a96 (by decide) (by decide) e8g (w3 h.yr1)
  have k2:(aL2 (b6j P.np)).ok:=a96 (by decide) (by decide) (a96 (by decide) (by decide) c6t (b2k (c4u h.np1))) (b2k g4p)
  rcases hx with rfl | rfl
  ·exact ⟨c6t.leaf.1,c6t.leaf.2,d1c k1 (Nat.le_of_ble_eq_true (by kernel_rfl)) (Nat.le_of_ble_eq_true (by kernel_rfl)),c04 k1 (Nat.le_of_ble_eq_true (by kernel_rfl)) (Nat.le_of_ble_eq_true (by kernel_rfl))⟩
  ·exact ⟨d3b.leaf.1,d3b.leaf.2,d1c k2 (Nat.le_of_ble_eq_true (by kernel_rfl)) (Nat.le_of_ble_eq_true (by kernel_rfl)),c04 k2 (Nat.le_of_ble_eq_true (by kernel_rfl)) (Nat.le_of_ble_eq_true (by kernel_rfl))⟩
 ·intro g hg
  have hg:g∈P.grs:=hg
  unfold Ps.grs at hg
  rcases List.mem_append.1 hg with hg | hg
  ·simp only [List.mem_cons,List.not_mem_nil,or_false] at hg
   rcases hg with rfl | rfl
   ·exact ⟨b1,k1i,k1p⟩
   ·exact ⟨b2,kIns h.a4,k2p⟩
  rcases List.mem_append.1 hg with hg | hg
  ·have hg:=c13 hg
   rw [List.mem_singleton] at hg;subst hg
   exact ⟨b3,k3i,k3p⟩
  ·simp only [List.mem_cons,List.not_mem_nil,or_false] at hg
   rcases hg with rfl | rfl
   ·exact ⟨b4,kIns h.a5,k4p⟩
   ·exact ⟨b5,kIns h.a7,k5p⟩
 ·show P.grs.Pairwise _
  unfold Ps.grs
  cases P.c3<;>simp
 ·intro r hr
  have hr:r∈P.rds:=hr
  unfold Ps.rds at hr
  rcases List.mem_append.1 hr with hr | hr
  ·have hr:=c13 hr
   rw [List.mem_singleton] at hr;subst hr
   exact ⟨b1,kr1⟩
  ·have hr:=c13 hr
   rw [List.mem_singleton] at hr;subst hr
   exact ⟨b2,kr2⟩
 ·show P.rds.Pairwise _
  unfold Ps.rds
  cases P.c4<;>cases P.c5<;>simp
end Go.PL
namespace Go.PL
open Go Go.SX
theorem y7 {a b c:ByteArray} (h:a4o a b=some c):bl c=bl a++bl b:=by
 unfold a4o at h
 split at h
 ·have h:=Option.some.inj h
  subst h
  unfold bl
  rw [ByteArray.data_append,Array.toList_append]
 ·cases h
theorem a4u {a n v:Int} (h:b6 a n=some v) (hn:0<n) (h1:n <= 9223372036854775807):0 <= v /\ v<n:=by
 obtain ⟨r,hr,h2⟩:=a0r (a:=a) hn h1
 rw [hr] at h
 have h:=Option.some.inj h
 subst h
 exact h2
theorem c7m {x:Int} {s:ByteArray} (h:k7 x=some s) {n:Nat} (e:x=(n:Int)) (hn:n<1000000):bl s=a8z 20 n:=by
 subst e
 rw [b7t hn] at h
 have h:=Option.some.inj h
 subst h
 rfl
theorem e2t {x:Int} {s:ByteArray} (h:s7 x=some s) {n:Nat} (e:x=(n:Int)) (hn:n<1000):bl s=c9w n:=by
 subst e
 rw [d4s hn] at h
 have h:=Option.some.inj h
 subst h
 rfl
def T (l:List (List Lx×Cl)):List UInt8:=a05 (fl l)
theorem c5a (p:List Lx×Cl) (l:List (List Lx×Cl)):T (p::l)=a05 p.1++T l:=by
 unfold T fl
 rw [List.flatMap_cons,a4i]
theorem d45:T []=[]:=rfl
theorem b7u (a b:List (List Lx×Cl)):T (a++b)=T a++T b:=by
 unfold T fl
 rw [List.flatMap_append,a4i]
theorem tEnd:a05 [Sg a2w]=bl b29:=rfl
theorem tC67 (n:Nat):a05 lC6++a05 (lC7 n)=bl c1u++(a8z 20 n++bl a4d):=by
 simp only [a05,lC6,lC7,W,Sg,Wn,Sh,num,N,blk,cond_true,cond_false,List.append_assoc,List.nil_append];rfl
theorem tC10 (n:Nat):a05 (f8c n)=bl c23++(a8z 20 n++bl a4d):=by
 simp only [a05,f8c,W,Sg,Wn,Sh,num,N,blk,cond_true,cond_false,List.append_assoc,List.nil_append];rfl
theorem tC5:a05 lC5=bl c1a:=by kernel_rfl
theorem tI (w1 w2:List UInt8) (v1 v2:Fraction):a05 lI0++(a05 (lI1 w1 v1)++a05 (lI2 w2 v2))=bl c1c++(w1++(bl c1i++(w2++bl a4d))):=by
 simp only [a05,lI0,lI1,lI2,W,Sg,Wn,Sh,num,N,blk,cond_true,cond_false,List.append_assoc,List.nil_append];rfl
theorem tL (n:Nat) (w:List UInt8) (v:Fraction):a05 (lL1 n)++a05 (lL2 w v)=bl c1f++(a8z 20 n++(bl c2b++(w++bl c29))):=by
 simp only [a05,lL1,lL2,W,Sg,Wn,Sh,num,N,blk,cond_true,cond_false,List.append_assoc,List.nil_append];rfl
theorem tG1 (a i m:Nat):a05 (lG1 a i m)=bl c1g++(a8z 20 a++(bl c1t++(a8z 20 i++(bl c1y++(a8z 20 m++bl c02))))):=by
 simp only [a05,lG1,W,Sg,Wn,Sh,num,N,blk,cond_true,cond_false,List.append_assoc,List.nil_append];rfl
theorem tG2 (i:Nat) (w:List UInt8) (v:Fraction):a05 (lG2 i w v)=bl c1k++(a8z 20 i++(bl c2e++(w++bl a4d))):=by
 simp only [a05,lG2,W,Sg,Wn,Sh,num,N,blk,cond_true,cond_false,List.append_assoc,List.nil_append];rfl
theorem tG3:a05 lG3=bl c24:=by kernel_rfl
theorem tG4 (i m:Nat):a05 (lG4 i m)=bl c1n++(a8z 20 i++(bl c4e++(a8z 20 m++bl c2a))):=by
 simp only [a05,lG4,W,Sg,Wn,Sh,num,N,blk,cond_true,cond_false,List.append_assoc,List.nil_append];rfl
theorem tG5 (i:Nat):a05 (lG5 i)=bl c1q++(a8z 20 i++bl c2f):=by
 simp only [a05,lG5,W,Sg,Wn,Sh,num,N,blk,cond_true,cond_false,List.append_assoc,List.nil_append];rfl
theorem tR1 (w:List UInt8) (v:Fraction):a05 (lR1 w v)=bl b0n++(w++bl a4d):=by
 simp only [a05,lR1,W,Sg,Wn,Sh,num,N,blk,cond_true,cond_false,List.append_assoc,List.nil_append];rfl
theorem tR2:a05 lR2=bl b7s:=by kernel_rfl
def q5 (c5:Bool):List (List Lx×Cl):=if c5 then [(lR2,.reduce 2 aR2)] else []
def q4 (g4i g4m g5i nr:Nat) (c4 c5:Bool):List (List Lx×Cl):=[(lG4 g4i g4m,.grant 4 (e2b g4i) (g3m g4m)),(lG5 g5i,.grant 5 (e2b g5i) g14)]++((if c4 then [(lR1 (c9w nr) (b6j nr),.reduce 1 (aR1 (b6j nr)))] else [])++q5 c5)
def q3 (na nb np yr g1a g1i g1m g2i nd g4i g4m g5i nr:Nat) (c3 c4 c5:Bool):List (List Lx×Cl):=
 [(lI0,.index 1960 ⟨1,1⟩),(lI1 (c9w na) (b6j na),.index 1980 (b6j na)),(lI2 (c9w nb) (b6j nb),.index 1995 (b6j nb)),(lL1 yr,.lett a76 (aL1 yr)),(lL2 (c9w np) (b6j np),.lett b1a (aL2 (b6j np))),
   (lG1 g1a g1i g1m,.grant 1 (g1x g1a g1i) (g3s g1m)),(lG2 g2i (c9w nd) (b6j nd),.grant 2 (e2b g2i) (g2a (b6j nd)))]++
 ((if c3 then [(lG3,.grant 3 f7s f6x)] else [])++q4 g4i g4m g5i nr c4 c5)
structure Q4OK (g4i g4m g5i nr:Nat):Prop where
 h1:g4i <= 100000
 h2:g4m <= 100000
 h3:g5i <= 100000
 h4:nr<700
structure Q3OK (na nb np g1a g1i g1m g2i nd:Nat):Prop where
 h1:1 <= na
 h2:na<700
 h3:1 <= nb
 h4:nb<700
 h5:np<700
 h6:nd<700
 h7:g1a <= 100000
 h8:g1i <= 100000
 h9:g1m <= 100000
 h10:g2i <= 100000
section
variable {n:List Int} {k:Int} {pre r:ByteArray}
theorem e52 (hr:joinC a1e (n,k,pre)=some r): ∃c5,bl r=bl pre++(T (q5 c5)++bl b29):=by
 unfold joinC a1e at hr
 dsimp only at hr
 obtain ⟨v105,h105,hr⟩:=Option.bind_eq_some_iff.1 hr
 obtain ⟨v106,h106,hr⟩:=Option.bind_eq_some_iff.1 hr
 have b106:=a4u h106 (by decide) (by decide)
 obtain ⟨v106,rfl⟩:=Int.eq_ofNat_of_zero_le b106.1
 split at hr
 ·refine ⟨true,?_⟩
  obtain ⟨v107,h107,hr⟩:=Option.bind_eq_some_iff.1 hr
  have t107:=y7 h107
  obtain ⟨v108,h108,hr⟩:=Option.bind_eq_some_iff.1 hr
  have t108:=y7 h108
  have hr:=Option.some.inj hr
  subst hr
  have e5:T (q5 true)=bl b7s:=by
   unfold q5
   rw [if_pos rfl,c5a,d45,List.append_nil]
   exact tR2
  rw [t108,t107,List.append_assoc,e5]
 ·refine ⟨false,?_⟩
  obtain ⟨v109,h109,hr⟩:=Option.bind_eq_some_iff.1 hr
  have t109:=y7 h109
  have hr:=Option.some.inj hr
  subst hr
  rw [t109]
  rfl
theorem e2u (hr:joinC a1g (n,k,pre)=some r): ∃g4i g4m g5i nr c4 c5,Q4OK g4i g4m g5i nr /\ bl r=bl pre++(T (q4 g4i g4m g5i nr c4 c5)++bl b29):=by
 unfold joinC a1g at hr
 dsimp only at hr
 obtain ⟨v79,h79,hr⟩:=Option.bind_eq_some_iff.1 hr
 obtain ⟨v80,h80,hr⟩:=Option.bind_eq_some_iff.1 hr
 have b80:=a4u h80 (by decide) (by decide)
 obtain ⟨v80,rfl⟩:=Int.eq_ofNat_of_zero_le b80.1
 obtain ⟨v81,h81,hr⟩:=Option.bind_eq_some_iff.1 hr
 have t81:=c7m h81 (n:=v80) rfl (by omega)
 obtain ⟨v82,h82,hr⟩:=Option.bind_eq_some_iff.1 hr
 have t82:=y7 h82
 obtain ⟨v83,h83,hr⟩:=Option.bind_eq_some_iff.1 hr
 have t83:=y7 h83
 obtain ⟨v84,h84,hr⟩:=Option.bind_eq_some_iff.1 hr
 obtain ⟨v85,h85,hr⟩:=Option.bind_eq_some_iff.1 hr
 have b85:=a4u h85 (by decide) (by decide)
 obtain ⟨v85,rfl⟩:=Int.eq_ofNat_of_zero_le b85.1
 obtain ⟨v86,h86,hr⟩:=Option.bind_eq_some_iff.1 hr
 have t86:=c7m h86 (n:=10+v85) (by rw [j6 (by omega) (by omega)];omega) (by omega)
 obtain ⟨v87,h87,hr⟩:=Option.bind_eq_some_iff.1 hr
 have t87:=y7 h87
 obtain ⟨v88,h88,hr⟩:=Option.bind_eq_some_iff.1 hr
 have t88:=y7 h88
 obtain ⟨v89,h89,hr⟩:=Option.bind_eq_some_iff.1 hr
 have t89:=y7 h89
 obtain ⟨v90,h90,hr⟩:=Option.bind_eq_some_iff.1 hr
 obtain ⟨v91,h91,hr⟩:=Option.bind_eq_some_iff.1 hr
 have b91:=a4u h91 (by decide) (by decide)
 obtain ⟨v91,rfl⟩:=Int.eq_ofNat_of_zero_le b91.1
 obtain ⟨v92,h92,hr⟩:=Option.bind_eq_some_iff.1 hr
 have t92:=c7m h92 (n:=v91) rfl (by omega)
 obtain ⟨v93,h93,hr⟩:=Option.bind_eq_some_iff.1 hr
 have t93:=y7 h93
 obtain ⟨v94,h94,hr⟩:=Option.bind_eq_some_iff.1 hr
 have t94:=y7 h94
 obtain ⟨v95,h95,hr⟩:=Option.bind_eq_some_iff.1 hr
 have t95:=y7 h95
 obtain ⟨v96,h96,hr⟩:=Option.bind_eq_some_iff.1 hr
 obtain ⟨v97,h97,hr⟩:=Option.bind_eq_some_iff.1 hr
 have b97:=a4u h97 (by decide) (by decide)
 obtain ⟨v97,rfl⟩:=Int.eq_ofNat_of_zero_le b97.1
 split at hr
 ·have hr0:=hr
  obtain ⟨v98,h98,hr⟩:=Option.bind_eq_some_iff.1 hr
  obtain ⟨v99,h99,hr⟩:=Option.bind_eq_some_iff.1 hr
  have b99:=a4u h99 (by decide) (by decide)
  obtain ⟨v99,rfl⟩:=Int.eq_ofNat_of_zero_le b99.1
  obtain ⟨v100,h100,hr⟩:=Option.bind_eq_some_iff.1 hr
  have t100:=e2t h100 (n:=10*v99) (by rw [j6 (by omega) (by omega)];omega) (by omega)
  obtain ⟨v101,h101,hr⟩:=Option.bind_eq_some_iff.1 hr
  have t101:=y7 h101
  obtain ⟨v102,h102,hr⟩:=Option.bind_eq_some_iff.1 hr
  have t102:=y7 h102
  obtain ⟨v103,h103,hr⟩:=Option.bind_eq_some_iff.1 hr
  have t103:=y7 h103
  obtain ⟨c5,e⟩:=e52 hr
  refine ⟨v80,10+v85,v91,10*v99,true,c5,⟨by omega,by omega,by omega,by omega⟩,?_⟩
  rw [e,t103,t102,t101,t100,t95,t94,t93,t92,t89,t88,t87,t86,t83,t82,t81]
  simp only [q4,if_true,b7u,c5a,d45,tG4,tG5,tR1,List.append_assoc,List.append_nil,List.nil_append]
 ·obtain ⟨c5,e⟩:=e52 hr
  refine ⟨v80,10+v85,v91,0,false,c5,⟨by omega,by omega,by omega,by omega⟩,?_⟩
  rw [e,t95,t94,t93,t92,t89,t88,t87,t86,t83,t82,t81]
  simp only [q4,Bool.false_eq_true,if_false,b7u,c5a,d45,tG4,tG5,List.append_assoc,List.append_nil,List.nil_append]
theorem e44 {yt:ByteArray} {yr:Nat} (hy:bl yt=a8z 20 yr) (hr:joinC a1f (n,k,yt,pre)=some r): ∃na nb np g1a g1i g1m g2i nd g4i g4m g5i nr c3 c4 c5,Q3OK na nb np g1a g1i g1m g2i nd /\ Q4OK g4i g4m g5i nr /\ bl r=bl pre++(T (q3 na nb np yr g1a g1i g1m g2i nd g4i g4m g5i nr c3 c4 c5)++bl b29):=by
 unfold joinC a1f at hr
 dsimp only at hr
 obtain ⟨v29,h29,hr⟩:=Option.bind_eq_some_iff.1 hr
 obtain ⟨v30,h30,hr⟩:=Option.bind_eq_some_iff.1 hr
 have b30:=a4u h30 (by decide) (by decide)
 obtain ⟨v30,rfl⟩:=Int.eq_ofNat_of_zero_le b30.1
 obtain ⟨v31,h31,hr⟩:=Option.bind_eq_some_iff.1 hr
 have t31:=e2t h31 (n:=100+v30) (by rw [j6 (by omega) (by omega)];omega) (by omega)
 obtain ⟨v32,h32,hr⟩:=Option.bind_eq_some_iff.1 hr
 have t32:=y7 h32
 obtain ⟨v33,h33,hr⟩:=Option.bind_eq_some_iff.1 hr
 have t33:=y7 h33
 obtain ⟨v34,h34,hr⟩:=Option.bind_eq_some_iff.1 hr
 obtain ⟨v35,h35,hr⟩:=Option.bind_eq_some_iff.1 hr
 have b35:=a4u h35 (by decide) (by decide)
 obtain ⟨v35,rfl⟩:=Int.eq_ofNat_of_zero_le b35.1
 obtain ⟨v36,h36,hr⟩:=Option.bind_eq_some_iff.1 hr
 have t36:=e2t h36 (n:=400+v35) (by rw [j6 (by omega) (by omega)];omega) (by omega)
 obtain ⟨v37,h37,hr⟩:=Option.bind_eq_some_iff.1 hr
 have t37:=y7 h37
 obtain ⟨v38,h38,hr⟩:=Option.bind_eq_some_iff.1 hr
 have t38:=y7 h38
 obtain ⟨v39,h39,hr⟩:=Option.bind_eq_some_iff.1 hr
 have t39:=y7 h39
 obtain ⟨v40,h40,hr⟩:=Option.bind_eq_some_iff.1 hr
 have t40:=y7 h40
 obtain ⟨v41,h41,hr⟩:=Option.bind_eq_some_iff.1 hr
 have t41:=y7 h41
 obtain ⟨v42,h42,hr⟩:=Option.bind_eq_some_iff.1 hr
 obtain ⟨v43,h43,hr⟩:=Option.bind_eq_some_iff.1 hr
 have b43:=a4u h43 (by decide) (by decide)
 obtain ⟨v43,rfl⟩:=Int.eq_ofNat_of_zero_le b43.1
 obtain ⟨v44,h44,hr⟩:=Option.bind_eq_some_iff.1 hr
 have t44:=e2t h44 (n:=1+v43) (by rw [j6 (by omega) (by omega)];omega) (by omega)
 obtain ⟨v45,h45,hr⟩:=Option.bind_eq_some_iff.1 hr
 have t45:=y7 h45
 obtain ⟨v46,h46,hr⟩:=Option.bind_eq_some_iff.1 hr
 have t46:=y7 h46
 obtain ⟨v47,h47,hr⟩:=Option.bind_eq_some_iff.1 hr
 have t47:=y7 h47
 obtain ⟨v48,h48,hr⟩:=Option.bind_eq_some_iff.1 hr
 obtain ⟨v49,h49,hr⟩:=Option.bind_eq_some_iff.1 hr
 have b49:=a4u h49 (by decide) (by decide)
 obtain ⟨v49,rfl⟩:=Int.eq_ofNat_of_zero_le b49.1
 obtain ⟨v50,h50,hr⟩:=Option.bind_eq_some_iff.1 hr
 have t50:=c7m h50 (n:=50+v49) (by rw [j6 (by omega) (by omega)];omega) (by omega)
 obtain ⟨v51,h51,hr⟩:=Option.bind_eq_some_iff.1 hr
 have t51:=y7 h51
 obtain ⟨v52,h52,hr⟩:=Option.bind_eq_some_iff.1 hr
 have t52:=y7 h52
 obtain ⟨v53,h53,hr⟩:=Option.bind_eq_some_iff.1 hr
 obtain ⟨v54,h54,hr⟩:=Option.bind_eq_some_iff.1 hr
 have b54:=a4u h54 (by decide) (by decide)
 obtain ⟨v54,rfl⟩:=Int.eq_ofNat_of_zero_le b54.1
 obtain ⟨v55,h55,hr⟩:=Option.bind_eq_some_iff.1 hr
 have t55:=c7m h55 (n:=v54) rfl (by omega)
 obtain ⟨v56,h56,hr⟩:=Option.bind_eq_some_iff.1 hr
 have t56:=y7 h56
 obtain ⟨v57,h57,hr⟩:=Option.bind_eq_some_iff.1 hr
 have t57:=y7 h57
 obtain ⟨v58,h58,hr⟩:=Option.bind_eq_some_iff.1 hr
 obtain ⟨v59,h59,hr⟩:=Option.bind_eq_some_iff.1 hr
 have b59:=a4u h59 (by decide) (by decide)
 obtain ⟨v59,rfl⟩:=Int.eq_ofNat_of_zero_le b59.1
 obtain ⟨v60,h60,hr⟩:=Option.bind_eq_some_iff.1 hr
 have t60:=c7m h60 (n:=v59) rfl (by omega)
 obtain ⟨v61,h61,hr⟩:=Option.bind_eq_some_iff.1 hr
 have t61:=y7 h61
 obtain ⟨v62,h62,hr⟩:=Option.bind_eq_some_iff.1 hr
 have t62:=y7 h62
 obtain ⟨v63,h63,hr⟩:=Option.bind_eq_some_iff.1 hr
 have t63:=y7 h63
 obtain ⟨v64,h64,hr⟩:=Option.bind_eq_some_iff.1 hr
 obtain ⟨v65,h65,hr⟩:=Option.bind_eq_some_iff.1 hr
 have b65:=a4u h65 (by decide) (by decide)
 obtain ⟨v65,rfl⟩:=Int.eq_ofNat_of_zero_le b65.1
 obtain ⟨v66,h66,hr⟩:=Option.bind_eq_some_iff.1 hr
 have t66:=c7m h66 (n:=v65) rfl (by omega)
 obtain ⟨v67,h67,hr⟩:=Option.bind_eq_some_iff.1 hr
 have t67:=y7 h67
 obtain ⟨v68,h68,hr⟩:=Option.bind_eq_some_iff.1 hr
 have t68:=y7 h68
 obtain ⟨v69,h69,hr⟩:=Option.bind_eq_some_iff.1 hr
 obtain ⟨v70,h70,hr⟩:=Option.bind_eq_some_iff.1 hr
 have b70:=a4u h70 (by decide) (by decide)
 obtain ⟨v70,rfl⟩:=Int.eq_ofNat_of_zero_le b70.1
 obtain ⟨v71,h71,hr⟩:=Option.bind_eq_some_iff.1 hr
 have t71:=e2t h71 (n:=20+v70) (by rw [j6 (by omega) (by omega)];omega) (by omega)
 obtain ⟨v72,h72,hr⟩:=Option.bind_eq_some_iff.1 hr
 have t72:=y7 h72
 obtain ⟨v73,h73,hr⟩:=Option.bind_eq_some_iff.1 hr
 have t73:=y7 h73
 obtain ⟨v74,h74,hr⟩:=Option.bind_eq_some_iff.1 hr
 have t74:=y7 h74
 obtain ⟨v75,h75,hr⟩:=Option.bind_eq_some_iff.1 hr
 obtain ⟨v76,h76,hr⟩:=Option.bind_eq_some_iff.1 hr
 have b76:=a4u h76 (by decide) (by decide)
 obtain ⟨v76,rfl⟩:=Int.eq_ofNat_of_zero_le b76.1
 have eI:=tI (c9w (100+v30)) (c9w (400+v35)) (b6j (100+v30)) (b6j (400+v35))
 have eL:=tL yr (c9w (1+v43)) (b6j (1+v43))
 split at hr
 ·have hr0:=hr
  obtain ⟨v77,h77,hr⟩:=Option.bind_eq_some_iff.1 hr
  have t77:=y7 h77
  obtain ⟨g4i,g4m,g5i,nr,c4,c5,hq,e⟩:=e2u hr
  refine ⟨100+v30,400+v35,1+v43,50+v49,v54,v59,v65,20+v70,g4i,g4m,g5i,nr,true,c4,c5,⟨by omega,by omega,by omega,by omega,by omega,by omega,by omega,by omega,by omega,by omega⟩,hq,?_⟩
  rw [e,t77,t74,t73,t72,t71,t68,t67,t66,t63,t62,t61,t60,t57,t56,t55,t52,t51,t50,t47,t46,t45,t44,t41,t40,t39,t38,t37,t36,t33,t32,t31,hy]
  simp only [q3,if_true,b7u,c5a,d45,tG1,tG2,tG3,List.append_assoc,List.append_nil,List.nil_append]
  rw [<- List.append_assoc (a05 lI0),<- List.append_assoc _ (a05 (lI2 _ _)),List.append_assoc (a05 lI0),eI,<- List.append_assoc (a05 (lL1 yr)),eL]
  simp only [List.append_assoc]
 ·obtain ⟨g4i,g4m,g5i,nr,c4,c5,hq,e⟩:=e2u hr
  refine ⟨100+v30,400+v35,1+v43,50+v49,v54,v59,v65,20+v70,g4i,g4m,g5i,nr,false,c4,c5,⟨by omega,by omega,by omega,by omega,by omega,by omega,by omega,by omega,by omega,by omega⟩,hq,?_⟩
  rw [e,t74,t73,t72,t71,t68,t67,t66,t63,t62,t61,t60,t57,t56,t55,t52,t51,t50,t47,t46,t45,t44,t41,t40,t39,t38,t37,t36,t33,t32,t31,hy]
  simp only [q3,Bool.false_eq_true,if_false,b7u,c5a,d45,tG1,tG2,List.append_assoc,List.append_nil,List.nil_append]
  rw [<- List.append_assoc (a05 lI0),<- List.append_assoc _ (a05 (lI2 _ _)),List.append_assoc (a05 lI0),eI,<- List.append_assoc (a05 (lL1 yr)),eL]
  simp only [List.append_assoc]
end
end Go.PL
namespace Go.PL
open Go Go.SX
def f6c (yr:Nat) (l:List (List Lx×Cl)):Prop:= ∃na nb np g1a g1i g1m g2i nd g4i g4m g5i nr c3 c4 c5,Q3OK na nb np g1a g1i g1m g2i nd /\ Q4OK g4i g4m g5i nr /\ l=q3 na nb np yr g1a g1i g1m g2i nd g4i g4m g5i nr c3 c4 c5
def q2 (c2:Bool) (l:List (List Lx×Cl)):List (List Lx×Cl):=(if c2 then [(lC5,.credit 5 0)] else [])++l
def q1 (l7 l10:Nat) (c1 c2:Bool) (l:List (List Lx×Cl)):List (List Lx×Cl):=[(lC6,.credit 6 0),(lC7 l7,.credit 7 l7)]++((if c1 then [(f8c l10,.credit 10 l10)] else [])++q2 c2 l)
section
variable {n:List Int} {k:Int} {pre r:ByteArray}
theorem e4s {yt:ByteArray} {yr:Nat} (hy:bl yt=a8z 20 yr) (hr:joinC a1d (n,k,yt,pre)=some r): ∃c2 l,f6c yr l /\ bl r=bl pre++(T (q2 c2 l)++bl b29):=by
 unfold joinC a1d at hr
 dsimp only at hr
 obtain ⟨v25,h25,hr⟩:=Option.bind_eq_some_iff.1 hr
 obtain ⟨v26,h26,hr⟩:=Option.bind_eq_some_iff.1 hr
 have b26:=a4u h26 (by decide) (by decide)
 obtain ⟨v26,rfl⟩:=Int.eq_ofNat_of_zero_le b26.1
 split at hr
 ·have hr0:=hr
  obtain ⟨v27,h27,hr⟩:=Option.bind_eq_some_iff.1 hr
  have t27:=y7 h27
  obtain ⟨na,nb,np,g1a,g1i,g1m,g2i,nd,g4i,g4m,g5i,nr,c3,c4,c5,h3,h4,e⟩:=e44 hy hr
  refine ⟨true,_,⟨na,nb,np,g1a,g1i,g1m,g2i,nd,g4i,g4m,g5i,nr,c3,c4,c5,h3,h4,rfl⟩,?_⟩
  rw [e,t27]
  simp only [q2,if_true,b7u,c5a,d45,tC5,List.append_assoc,List.append_nil,List.nil_append]
 ·obtain ⟨na,nb,np,g1a,g1i,g1m,g2i,nd,g4i,g4m,g5i,nr,c3,c4,c5,h3,h4,e⟩:=e44 hy hr
  refine ⟨false,_,⟨na,nb,np,g1a,g1i,g1m,g2i,nd,g4i,g4m,g5i,nr,c3,c4,c5,h3,h4,rfl⟩,?_⟩
  rw [e]
  rfl
theorem d0o {yt:ByteArray} {yr:Nat} (hy:bl yt=a8z 20 yr) (hr:joinC a02 (n,k,yt,pre)=some r): ∃l7 l10 c1 c2 l,(1 <= l7 /\ l7 <= 73049 /\ 1 <= l10 /\ l10 <= 73049) /\ f6c yr l /\ bl r=bl pre++(T (q1 l7 l10 c1 c2 l)++bl b29):=by
 unfold joinC a02 at hr
 dsimp only at hr
 obtain ⟨v10,h10,hr⟩:=Option.bind_eq_some_iff.1 hr
 obtain ⟨v11,h11,hr⟩:=Option.bind_eq_some_iff.1 hr
 have b11:=a4u h11 (by decide) (by decide)
 obtain ⟨v11,rfl⟩:=Int.eq_ofNat_of_zero_le b11.1
 obtain ⟨v12,h12,hr⟩:=Option.bind_eq_some_iff.1 hr
 have t12:=c7m h12 (n:=1+v11) (by rw [j6 (by omega) (by omega)];omega) (by omega)
 obtain ⟨v13,h13,hr⟩:=Option.bind_eq_some_iff.1 hr
 have t13:=y7 h13
 obtain ⟨v14,h14,hr⟩:=Option.bind_eq_some_iff.1 hr
 have t14:=y7 h14
 obtain ⟨v15,h15,hr⟩:=Option.bind_eq_some_iff.1 hr
 have t15:=y7 h15
 obtain ⟨v16,h16,hr⟩:=Option.bind_eq_some_iff.1 hr
 obtain ⟨v17,h17,hr⟩:=Option.bind_eq_some_iff.1 hr
 have b17:=a4u h17 (by decide) (by decide)
 obtain ⟨v17,rfl⟩:=Int.eq_ofNat_of_zero_le b17.1
 have eC:=tC67 (1+v11)
 split at hr
 ·have hr0:=hr
  obtain ⟨v18,h18,hr⟩:=Option.bind_eq_some_iff.1 hr
  obtain ⟨v19,h19,hr⟩:=Option.bind_eq_some_iff.1 hr
  have b19:=a4u h19 (by decide) (by decide)
  obtain ⟨v19,rfl⟩:=Int.eq_ofNat_of_zero_le b19.1
  obtain ⟨v20,h20,hr⟩:=Option.bind_eq_some_iff.1 hr
  have t20:=c7m h20 (n:=100+v19) (by rw [j6 (by omega) (by omega)];omega) (by omega)
  obtain ⟨v21,h21,hr⟩:=Option.bind_eq_some_iff.1 hr
  have t21:=y7 h21
  obtain ⟨v22,h22,hr⟩:=Option.bind_eq_some_iff.1 hr
  have t22:=y7 h22
  obtain ⟨v23,h23,hr⟩:=Option.bind_eq_some_iff.1 hr
  have t23:=y7 h23
  obtain ⟨c2,l,hl,e⟩:=e4s hy hr
  refine ⟨1+v11,100+v19,true,c2,l,⟨by omega,by omega,by omega,by omega⟩,hl,?_⟩
  rw [e,t23,t22,t21,t20,t15,t14,t13,t12]
  simp only [q1,if_true,b7u,c5a,d45,tC10,List.append_assoc,List.append_nil,List.nil_append]
  rw [<- List.append_assoc (a05 lC6),eC]
  simp only [List.append_assoc]
 ·obtain ⟨c2,l,hl,e⟩:=e4s hy hr
  refine ⟨1+v11,1,false,c2,l,⟨by omega,by omega,by omega,by omega⟩,hl,?_⟩
  rw [e,t15,t14,t13,t12]
  simp only [q1,Bool.false_eq_true,if_false,b7u,c5a,d45,List.append_assoc,List.append_nil,List.nil_append]
  rw [<- List.append_assoc (a05 lC6),eC]
  simp only [List.append_assoc]
theorem g4r (P:Ps):a05 (e1h P)=bl b5j++(P.date++(bl b0h++(bl P.mx++(32::(a8z 20 P.u++bl a4d))))):=by
 simp only [a05,e1h,W,Sg,Wn,Sh,num,N,blk,cond_true,cond_false,List.append_assoc,List.nil_append];rfl
structure MdOK (m:Int) (mx:ByteArray) (u:Nat):Prop where
 mw:d6i mx=true
 mo:ofW mx 3=some m
 m0:1 <= m
 m1:m <= 4
 mS:nz (a1h d8l m)=true
 u0:1 <= u
 u1:u <= 100000
theorem d8f {day:Int} {date:List UInt8} {m:Int} {mx:ByteArray} {u yr l7 l10:Nat} {c1 c2:Bool} {l:List (List Lx×Cl)} (hdt:d2f (64::date) day=true) (hd0:0 <= day) (hd1:day <= 73048) (hm:MdOK m mx u) (hyr:yr <= 100000)
  (hc:1 <= l7 /\ l7 <= 73049 /\ 1 <= l10 /\ l10 <= 73049) (hl:f6c yr l): ∃P:Ps,PsOK P /\ P.day=day /\ a05 (lxV P)=bl b5j++(date++(bl b0h++(bl mx++(32::(a8z 20 u++bl a4d)))))++(T (q1 l7 l10 c1 c2 l)++bl b29):=by
 obtain ⟨na,nb,np,g1a,g1i,g1m,g2i,nd,g4i,g4m,g5i,nr,c3,c4,c5,h3,h4,rfl⟩:=hl
 refine ⟨⟨day,date,m,mx,u,l7,l10,c1,c2,c3,c4,c5,na,nb,np,yr,g1a,g1i,g1m,g2i,nd,g4i,g4m,g5i,nr⟩,⟨hdt,hd0,hd1,hm.mw,hm.mo,hm.m0,hm.m1,hm.mS,hm.u0,hm.u1,hc.1,hc.2.1,hc.2.2.1,hc.2.2.2,h3.h1,h3.h2,h3.h3,h3.h4,h3.h5,h3.h6,h4.h4,hyr,h3.h7,h3.h8,h3.h9,h3.h10,h4.h1,h4.h2,h4.h3⟩,rfl,?_⟩
 unfold lxV
 rw [a4i,a4i,g4r,tEnd]
 rfl
theorem d0u {a:ByteArray} {day:Int} (hdt:d2f (64::bl a) day=true) (hd0:0 <= day) (hd1:day <= 73048) (hr:a0z a n k=some r): ∃P:Ps,PsOK P /\ P.day=day /\ bl r=a05 (lxV P):=by
 unfold a0z at hr
 obtain ⟨v1,h1,hr⟩:=Option.bind_eq_some_iff.1 hr
 obtain ⟨v2,h2,hr⟩:=Option.bind_eq_some_iff.1 hr
 have b2:=a4u h2 (by decide) (by decide)
 obtain ⟨v2,rfl⟩:=Int.eq_ofNat_of_zero_le b2.1
 obtain ⟨v3,h3,hr⟩:=Option.bind_eq_some_iff.1 hr
 have t3:=c7m h3 (n:=300+v2) (by rw [j6 (by omega) (by omega)];omega) (by omega)
 obtain ⟨v4,h4,hr⟩:=Option.bind_eq_some_iff.1 hr
 have t4:=y7 h4
 obtain ⟨v5,h5,hr⟩:=Option.bind_eq_some_iff.1 hr
 have t5:=y7 h5
 obtain ⟨v6,h6,hr⟩:=Option.bind_eq_some_iff.1 hr
 obtain ⟨v7,h7,hr⟩:=Option.bind_eq_some_iff.1 hr
 have b7:=a4u h7 (by decide) (by decide)
 obtain ⟨v7,rfl⟩:=Int.eq_ofNat_of_zero_le b7.1
 split at hr
 ·have hr0:=hr
  obtain ⟨v8,h8,hr⟩:=Option.bind_eq_some_iff.1 hr
  have t8:=y7 h8
  obtain ⟨l7,l10,c1,c2,l,hc,hl,e⟩:=d0o t3 hr
  obtain ⟨P,hP,hd,ht⟩:=d8f (c1:=c1) (c2:=c2) hdt hd0 hd1 (m:=1) (mx:=c45) (u:=1) ⟨by kernel_rfl,by kernel_rfl,by decide,by decide,by kernel_rfl,by decide,by decide⟩ (by omega) hc hl
  refine ⟨P,hP,hd,?_⟩
  rw [ht,e,t8,t5,t4,show bl b66=bl c45++(32::(a8z 20 1++bl a4d)) from by kernel_rfl]
  simp only [List.append_assoc]
 split at hr
 ·have hr0:=hr
  obtain ⟨v110,h110,hr⟩:=Option.bind_eq_some_iff.1 hr
  have t110:=y7 h110
  obtain ⟨l7,l10,c1,c2,l,hc,hl,e⟩:=d0o t3 hr
  obtain ⟨P,hP,hd,ht⟩:=d8f (c1:=c1) (c2:=c2) hdt hd0 hd1 (m:=3) (mx:=c40) (u:=5) ⟨by kernel_rfl,by kernel_rfl,by decide,by decide,by kernel_rfl,by decide,by decide⟩ (by omega) hc hl
  refine ⟨P,hP,hd,?_⟩
  rw [ht,e,t110,t5,t4,show bl b62=bl c40++(32::(a8z 20 5++bl a4d)) from by kernel_rfl]
  simp only [List.append_assoc]
 split at hr
 ·have hr0:=hr
  obtain ⟨v111,h111,hr⟩:=Option.bind_eq_some_iff.1 hr
  have t111:=y7 h111
  obtain ⟨l7,l10,c1,c2,l,hc,hl,e⟩:=d0o t3 hr
  obtain ⟨P,hP,hd,ht⟩:=d8f (c1:=c1) (c2:=c2) hdt hd0 hd1 (m:=2) (mx:=d2w) (u:=1) ⟨by kernel_rfl,by kernel_rfl,by decide,by decide,by kernel_rfl,by decide,by decide⟩ (by omega) hc hl
  refine ⟨P,hP,hd,?_⟩
  rw [ht,e,t111,t5,t4,show bl b96=bl d2w++(32::(a8z 20 1++bl a4d)) from by kernel_rfl]
  simp only [List.append_assoc]
 obtain ⟨v112,h112,hr⟩:=Option.bind_eq_some_iff.1 hr
 have t112:=y7 h112
 obtain ⟨l7,l10,c1,c2,l,hc,hl,e⟩:=d0o t3 hr
 obtain ⟨P,hP,hd,ht⟩:=d8f (c1:=c1) (c2:=c2) hdt hd0 hd1 (m:=4) (mx:=c2q) (u:=10) ⟨by kernel_rfl,by kernel_rfl,by decide,by decide,by kernel_rfl,by decide,by decide⟩ (by omega) hc hl
 refine ⟨P,hP,hd,?_⟩
 rw [ht,e,t112,t5,t4,show bl b4a=bl c2q++(32::(a8z 20 10++bl a4d)) from by kernel_rfl]
 simp only [List.append_assoc]
end
end Go.PL
namespace Go.PL
open Go Go.SX
theorem e3z: ∀(ls:List Lx) (rest:List UInt8),okA ls rest -> ls.length <= (a05 ls).length
 | [],_,_=>Nat.le_refl _
 | ⟨t,w,sp⟩::ls,rest,h=>by
   have h2:=e3z ls rest h.2
   have h1:1 <= w.length:=by
    have h1:LxOK t w (blk sp++(a05 ls++rest)):=h.1
    cases h1<;>simp
   show ls.length+1 <= (w++(blk sp++a05 ls)).length
   rw [List.length_append,List.length_append]
   omega
def d1l (o:Option Ps):List Lx:=match o with | some P=>lxV P | none=>[]
def c6c (o:Option Ps):List Version:=match o with | some P=>[P.ver] | none=>[]
def d2d (o:Option Ps) (day:Int):Prop:=match o with | some P=>PsOK P /\ P.day=day | none=>True
def lxS (nm:ByteArray) (cur:Nat) (P:Ps) (o1 o2:Option Ps):List Lx:=[W a3s,W nm,W a2l,num cur [] 2 true,Sg b50]++(lxV P++(d1l o1++(d1l o2++[Sh a2w])))
def stS (nm:ByteArray) (cur:Nat) (P:Ps) (o1 o2:Option Ps):Statute:=⟨nm,cur,P.ver::(c6c o1++c6c o2)⟩
theorem d8i {o:Option Ps} {day:Int} (h:d2d o day) (rest:List UInt8):okA (d1l o) rest:=by
 cases o with
 | none=>trivial
 | some P=>exact e7v h.1 rest
theorem d9p {o:Option Ps} {day:Int} (h:d2d o day) {ts:List Tk} {vs:List Version} (hv:VersR ts vs):VersR (tk (d1l o) ts) (c6c o++vs):=by
 cases o with
 | none=>exact hv
 | some P=>exact VersR.cons (g1c h.1 ts) hv
theorem d1r (P:Ps):P.ver.From=P.day:=by rw [f3y]
theorem f4z {nm:ByteArray} (hn:(AE.nm nm).ok) {cur:Nat} (h0:1 <= cur) (h1:cur <= 999) {P:Ps} {o1 o2:Option Ps} (hP:PsOK P) (hd:P.day=0) (hq1:d2d o1 35245) (hq2:d2d o2 36890):SOK (stS nm cur P o1 o2):=by
 have l1: ∀o:Option Ps,(c6c o).length <= 1:=fun o=>by cases o<;>simp [c6c]
 have a1:=l1 o1
 have a2:=l1 o2
 have hv:=e6x hP
 refine ⟨hn.leaf.1,hn.leaf.2,by show (1:Int) <= (cur:Int);omega,by show (cur:Int) <= 999;omega,?_,?_,?_,?_⟩
 ·show 1 <= (P.ver::(c6c o1++c6c o2)).length
  simp
 ·show (P.ver::(c6c o1++c6c o2)).length <= 6
  simp only [List.length_cons,List.length_append];omega
 ·intro v hv2
  refine ⟨d5m,?_⟩
  have hv2:v∈P.ver::(c6c o1++c6c o2):=hv2
  rcases List.mem_cons.1 hv2 with rfl | hv2
  ·exact hv
  rcases List.mem_append.1 hv2 with hv2 | hv2
  ·cases o1 with
   | none=>cases hv2
   | some Q=>rw [show c6c (some Q)=[Q.ver] from rfl,List.mem_singleton] at hv2;subst hv2;exact e6x hq1.1
  ·cases o2 with
   | none=>cases hv2
   | some Q=>rw [show c6c (some Q)=[Q.ver] from rfl,List.mem_singleton] at hv2;subst hv2;exact e6x hq2.1
 ·show (P.ver::(c6c o1++c6c o2)).Pairwise _
  cases o1 with
  | none=>
    cases o2 with
    | none=>simp [c6c]
    | some R=>have:=hq2.2;simp [c6c,d1r];omega
  | some Q=>
    have h3:=hq1.2
    cases o2 with
    | none=>simp [c6c,d1r];omega
    | some R=>have h4:=hq2.2;simp [c6c,d1r];omega
theorem f0c {nm:ByteArray} (hw:d6i nm=true) (hn:(AE.nm nm).ok) {cur:Nat} (h0:1 <= cur) (h1:cur <= 999) {P:Ps} {o1 o2:Option Ps} (hP:PsOK P) (hd:P.day=0) (hq1:d2d o1 35245) (hq2:d2d o2 36890)
  {s:ByteArray} (hs:s.size <= 8000) (ht:bl s=a05 (lxS nm cur P o1 o2)):a32 s=some (stS nm cur P o1 o2,0,0):=by
 have hA:okA (lxS nm cur P o1 o2) []:=by
  have hk:c4i [W a3s,W nm,W a2l,num cur [] 2 true,Sg b50]=true:=by
   simp only [c4i,W,Sg,num,N,BEq.rfl,nx,hw,Bool.true_and,Bool.and_true,Bool.true_or]
   kernel_rfl
  have hnn:d2z [W a3s,W nm,W a2l,num cur [] 2 true,Sg b50]:=⟨trivial,trivial,trivial,.whole (by omega) (.inl ⟨rfl,rfl⟩),trivial,trivial⟩
  refine a9r _ _ _ (c4c _ hk hnn _) ?_
  ·exact a9r _ _ _ (e7v hP _) (a9r _ _ _ (d8i hq1 _) (a9r _ _ _ (d8i hq2 _) (c4c [Sh a2w] (by kernel_rfl) ⟨trivial,trivial⟩ _)))
 have hlen:=e3z _ _ hA
 have hsz:s.size=(a05 (lxS nm cur P o1 o2)).length:=by rw [c2s,<- ht];rfl
 obtain ⟨toks,hall,hrel,htl⟩:=e2y hs (lxS nm cur P o1 o2) ht (f3s _ hA) (by omega)
 have hv:VersR (tk (lxV P) (tk (d1l o1) (tk (d1l o2) [.s a2w]))) (P.ver::(c6c o1++c6c o2)):=by
  have h2:VersR (tk (d1l o2) [.s a2w]) (c6c o2++[]):=d9p hq2 VersR.nil
  rw [List.append_nil] at h2
  exact VersR.cons (g1c hP _) (d9p hq1 h2)
 have e:(lxS nm cur P o1 o2).map (·.t)= .w a3s:: .w nm:: .w a2l:: .n ⟨(cur:Int),1⟩ 2:: .s b50::tk (lxV P) (tk (d1l o1) (tk (d1l o2) [.s a2w])):=by
  unfold lxS tk
  simp only [List.map_append,List.map_cons,List.map_nil,List.cons_append,List.nil_append,W,Sg,Sh,num,N]
 rw [e] at hrel
 have hl1: ∀o:Option Ps,(c6c o).length <= 1:=fun o=>by cases o<;>simp [c6c]
 have a1:=hl1 o1
 have a2:=hl1 o2
 have hnm:f3u nm=true:=by unfold f3u;rw [hn.leaf.1]
 exact e8r hall htl hrel hnm (by omega) (by omega) hv (by simp) (by simp only [List.length_cons,List.length_append];omega) (f6e (f4z hn h0 h1 hP hd hq1 hq2))
theorem tSt (nm:ByteArray) (cur:Nat) (P:Ps) (o1 o2:Option Ps):a05 (lxS nm cur P o1 o2)=bl b5p++(bl nm++(bl b24++(a8z 20 cur++(bl c2x++(a05 (lxV P)++(a05 (d1l o1)++(a05 (d1l o2)++bl a2w))))))):=by
 unfold lxS
 rw [a4i,a4i,a4i,a4i]
 simp only [a05,W,Sg,Wn,Sh,num,N,blk,cond_true,cond_false,List.append_assoc,List.nil_append];rfl
theorem g54:d2f (64::bl a7f) 0=true:=by kernel_rfl
theorem g4s:d2f (64::bl a7o) 35245=true:=by kernel_rfl
theorem g6t:d2f (64::bl a7h) 36890=true:=by kernel_rfl
theorem d1a (s:ByteArray):s.size=(bl s).length:=c2s s
theorem d2v (P:Ps):a05 (d1l (some P))=a05 (lxV P):=rfl
theorem c3k:a05 (d1l none)=[]:=rfl
section
variable {n:List Int} {pre r:ByteArray}
theorem e7z {k:Int} (hl:n.length <= 9223372036854775807) (hr:joinC a33 (k,n,pre)=some r): ∃o2,d2d o2 36890 /\ bl r=bl pre++(a05 (d1l o2)++bl a2w) /\ (a05 (d1l o2)).length <= 2500:=by
 unfold joinC a33 at hr
 dsimp only at hr
 obtain ⟨v15,h15,hr⟩:=Option.bind_eq_some_iff.1 hr
 obtain ⟨v16,h16,hr⟩:=Option.bind_eq_some_iff.1 hr
 have b16:=a4u h16 (by decide) (by decide)
 obtain ⟨v16,rfl⟩:=Int.eq_ofNat_of_zero_le b16.1
 split at hr
 ·have hr0:=hr
  obtain ⟨v17,h17,hr⟩:=Option.bind_eq_some_iff.1 hr
  obtain ⟨v18,h18,hr⟩:=Option.bind_eq_some_iff.1 hr
  have t18:=y7 h18
  obtain ⟨v19,h19,hr⟩:=Option.bind_eq_some_iff.1 hr
  have t19:=y7 h19
  have hr:=Option.some.inj hr
  subst hr
  obtain ⟨P,hP,hd,ht⟩:=d0u g6t (by decide) (by decide) h17
  have hsz:=a18 a7h n (i64 ((i64 (7*k))+5)) hl (by decide)
  obtain ⟨z,hz,hz2⟩:=hsz
  rw [h17] at hz
  have hz:=Option.some.inj hz
  subst hz
  rw [d1a,ht] at hz2
  exact ⟨some P,⟨hP,hd⟩,by rw [t19,t18,ht,d2v,List.append_assoc],hz2⟩
 ·have hr0:=hr
  obtain ⟨v20,h20,hr⟩:=Option.bind_eq_some_iff.1 hr
  have t20:=y7 h20
  have hr:=Option.some.inj hr
  subst hr
  exact ⟨none,trivial,by rw [t20,c3k];rfl,by rw [c3k];simp⟩
end
theorem c4v {k:Nat} (hk:k<3) (n:List Int) (hl:n.length <= 9223372036854775807): ∃s x,a14 (k:Int) n=some s /\ a32 s=some (x,0,0) /\ SOK x:=by
 obtain ⟨s,hs,_⟩:=c0t (k:=(k:Int)) n hl (by omega) (by omega)
 have hr:=hs
 unfold a14 at hr
 obtain ⟨nm,hnm,hr⟩:=Option.bind_eq_some_iff.1 hr
 have hN:d6i nm=true /\ (AE.nm nm).ok /\ (bl nm).length <= 5:=by
  match k,hk,hnm with
  | 0,_,hnm=>have e:b7y=nm:=Option.some.inj hnm;subst e;exact ⟨by kernel_rfl,c8k (by kernel_rfl),by decide⟩
  | 1,_,hnm=>have e:b7i=nm:=Option.some.inj hnm;subst e;exact ⟨by kernel_rfl,c8k (by kernel_rfl),by decide⟩
  | 2,_,hnm=>have e:b4r=nm:=Option.some.inj hnm;subst e;exact ⟨by kernel_rfl,c8k (by kernel_rfl),by decide⟩
 rw [hnm] at hr
 rw [Option.bind_some] at hr
 obtain ⟨v3,h3,hr⟩:=Option.bind_eq_some_iff.1 hr
 have t3:=y7 h3
 obtain ⟨v4,h4,hr⟩:=Option.bind_eq_some_iff.1 hr
 have t4:=y7 h4
 obtain ⟨v5,h5,hr⟩:=Option.bind_eq_some_iff.1 hr
 have t5:=c7m h5 (n:=1+k) (by rw [j6 (by omega) (by omega)];omega) (by omega)
 obtain ⟨v6,h6,hr⟩:=Option.bind_eq_some_iff.1 hr
 have t6:=y7 h6
 obtain ⟨v7,h7,hr⟩:=Option.bind_eq_some_iff.1 hr
 have t7:=y7 h7
 obtain ⟨v8,h8,hr⟩:=Option.bind_eq_some_iff.1 hr
 obtain ⟨v9,h9,hr⟩:=Option.bind_eq_some_iff.1 hr
 have t9:=y7 h9
 obtain ⟨v10,h10,hr⟩:=Option.bind_eq_some_iff.1 hr
 obtain ⟨v11,h11,hr⟩:=Option.bind_eq_some_iff.1 hr
 have b11:=a4u h11 (by decide) (by decide)
 obtain ⟨v11,rfl⟩:=Int.eq_ofNat_of_zero_le b11.1
 obtain ⟨P,hP,hd,ht⟩:=d0u g54 (by decide) (by decide) h8
 have hsz:(a05 (lxV P)).length <= 2500:=by
  obtain ⟨z,hz,hz2⟩:=a18 a7f n (i64 (7*(k:Int))) hl (by decide)
  rw [h8] at hz
  have hz:=Option.some.inj hz
  subst hz
  rw [d1a,ht] at hz2
  exact hz2
 have hdl:=c2g 20 (1+k) 0 (by omega)
 have fin: ∀o1 o2,d2d o1 35245 -> d2d o2 36890 -> bl s=bl v9++(a05 (d1l o1)++(a05 (d1l o2)++bl a2w)) -> (a05 (d1l o1)).length <= 2500 -> (a05 (d1l o2)).length <= 2500 -> ∃s x,a14 (k:Int) n=some s /\ a32 s=some (x,0,0) /\ SOK x:=by
  intro o1 o2 hq1 hq2 e g1 g2
  have e2:bl s=a05 (lxS nm (1+k) P o1 o2):=by
   rw [tSt,e,t9,t7,t6,t5,t4,t3,ht]
   simp only [List.append_assoc]
  have hsz2:s.size <= 8000:=by
   rw [d1a,e2,tSt]
   simp only [List.length_append]
   have q1:(bl b5p).length=8:=by decide
   have q2:(bl b24).length=10:=by decide
   have q3:(bl c2x).length=3:=by decide
   have q4:(bl a2w).length=1:=by decide
   have:=hN.2.2
   omega
  exact ⟨s,_,hs,f0c hN.1 hN.2.1 (by omega) (by omega) hP hd hq1 hq2 hsz2 e2,f4z hN.2.1 (by omega) (by omega) hP hd hq1 hq2⟩
 split at hr
 ·have hr0:=hr
  obtain ⟨v12,h12,hr⟩:=Option.bind_eq_some_iff.1 hr
  obtain ⟨v13,h13,hr⟩:=Option.bind_eq_some_iff.1 hr
  have t13:=y7 h13
  obtain ⟨Q,hQ,hdQ,htQ⟩:=d0u g4s (by decide) (by decide) h12
  have hszQ:(a05 (lxV Q)).length <= 2500:=by
   obtain ⟨z,hz,hz2⟩:=a18 a7o n (i64 ((i64 (7*(k:Int)))+3)) hl (by decide)
   rw [h12] at hz
   have hz:=Option.some.inj hz
   subst hz
   rw [d1a,htQ] at hz2
   exact hz2
  obtain ⟨o2,ho2,e,hlen2⟩:=e7z hl hr
  exact fin (some Q) o2 ⟨hQ,hdQ⟩ ho2 (by rw [e,t13,htQ,d2v,List.append_assoc]) hszQ hlen2
 ·obtain ⟨o2,ho2,e,hlen2⟩:=e7z hl hr
  exact fin none o2 trivial ho2 (by rw [e,c3k];rfl) (by rw [c3k];simp) hlen2
end Go.PL
