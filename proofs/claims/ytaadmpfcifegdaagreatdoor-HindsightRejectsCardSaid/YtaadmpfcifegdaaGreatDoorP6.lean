/- Texts of the proof, joined. -/
import Derived.Test.YtaadmpfcifegdaaGreatDoorP5
import Derived.KernelRfl
set_option linter.unusedVariables false
set_option linter.unusedSimpArgs false
set_option maxRecDepth 100000
namespace Go.PL
open Go Go.SX
def c9z:List Rate:=[(⟨1,0,(⟨1,1⟩:Fraction)⟩:Rate),(⟨2,0,(⟨3,2⟩:Fraction)⟩:Rate),(⟨3,0,(⟨1,7⟩:Fraction)⟩:Rate),(⟨3,1150,(⟨1,9⟩:Fraction)⟩:Rate)]
def c66 (t:List Rules):Prop:= ∃few:Int,0 <= few /\ few <= 450 /\
 (t=[⟨0,few,730,25,[0,1,2]⟩] \/ t=[⟨0,few,730,25,[0,1]⟩,⟨35000,few,365,30,[0,1,2]⟩] \/ t=[⟨0,few,730,25,[0,1,2]⟩,⟨36000,few,730,25,[0,1]⟩])
structure LwOK (x:Laws):Prop where
 st: ∃t0 t1 t2,x.States=[⟨0,t0⟩,⟨1,t1⟩,⟨2,t2⟩] /\ SOK t0 /\ SOK t1 /\ SOK t2
 tr:c66 x.Treaty
 ra:x.Rates=c9z
theorem e51: ∃m,FU=m+1+1+1+1:=⟨FU-4,by have:=a2m;omega⟩
theorem f9k {n:List Int} (hl:n.length <= 9223372036854775807): ∃x,a9a n=some x /\ LwOK x:=by
 obtain ⟨s0,t0,h0,p0,k0⟩:=c4v (k:=0) (by decide) n hl
 obtain ⟨s1,t1,h1,p1,k1⟩:=c4v (k:=1) (by decide) n hl
 obtain ⟨s2,t2,h2,p2,k2⟩:=c4v (k:=2) (by decide) n hl
 have h0:a14 0 n=some s0:=h0
 have h1:a14 1 n=some s1:=h1
 have h2:a14 2 n=some s2:=h2
 unfold a9a
 obtain ⟨m,hm⟩:=e51
 rw [hm,j8]
 generalize hA:d8 (m+1+1+1) (a0t n)=A
 unfold a0t
 have a0:a9h 56 ([]:List State) [⟨0,t0⟩]=some [⟨0,t0⟩]:=b3k (by simp) (by decide)
 have a1:a9h 56 ([⟨0,t0⟩]:List State) [⟨1,t1⟩]=some [⟨0,t0⟩,⟨1,t1⟩]:=b3k (by simp) (by decide)
 have a2:a9h 56 ([⟨0,t0⟩,⟨1,t1⟩]:List State) [⟨2,t2⟩]=some [⟨0,t0⟩,⟨1,t1⟩,⟨2,t2⟩]:=b3k (by simp) (by decide)
 simp only [show decide ((0:Int)<3)=true from rfl,if_true,h0,Option.bind_some,p0,BEq.rfl,a0,show i64 (0+1)=1 from rfl]
 rw [<- hA,j8]
 generalize hB:d8 (m+1+1) (a0t n)=B
 unfold a0t
 simp only [show decide ((1:Int)<3)=true from rfl,if_true,h1,Option.bind_some,p1,BEq.rfl,a1,show i64 (1+1)=2 from rfl]
 rw [<- hB,j8]
 generalize hC:d8 (m+1) (a0t n)=C
 unfold a0t
 simp only [show decide ((2:Int)<3)=true from rfl,if_true,h2,Option.bind_some,p2,BEq.rfl,a2,show i64 (2+1)=3 from rfl]
 rw [<- hC,j8]
 unfold a0t
 simp only [show decide ((3:Int)<3)=false from rfl,Bool.false_eq_true,if_false]
 obtain ⟨v6,h6,_⟩:=a19 n 2 hl
 obtain ⟨v7,h7,b7⟩:=a0r (a:=v6) (n:=6) (by decide) (by decide)
 obtain ⟨v8,h8,_⟩:=a19 n 5 hl
 obtain ⟨v9,h9,b9⟩:=a0r (a:=v8) (n:=3) (by decide) (by decide)
 have e90:i64 (90*v7)=90*v7:=j6 (by omega) (by omega)
 simp only [h6,h7,h8,h9,Option.bind_some,e90]
 have fin: ∀t:List Rules,c66 t -> ∃x,some (⟨[⟨0,t0⟩,⟨1,t1⟩,⟨2,t2⟩],t,c9z⟩:Laws)=some x /\ LwOK x:=fun t ht=>⟨_,rfl,⟨⟨t0,t1,t2,rfl,k0,k1,k2⟩,ht,rfl⟩⟩
 split
 ·exact fin _ ⟨90*v7,by omega,by omega,.inl rfl⟩
 ·split
  ·rw [show a9h 56 [(⟨0,90*v7,730,25,[0,1]⟩:Rules)] [(⟨35000,90*v7,365,30,[0,1,2]⟩:Rules)]=some ([(⟨0,90*v7,730,25,[0,1]⟩:Rules)]++[(⟨35000,90*v7,365,30,[0,1,2]⟩:Rules)]) from b3k (by simp) (by decide),Option.bind_some]
   exact fin _ ⟨90*v7,by omega,by omega,.inr (.inl rfl)⟩
  ·simp only [show c8 [(⟨0,90*v7,730,25,[0,1]⟩:Rules)] 0=some (⟨0,90*v7,730,25,[0,1]⟩:Rules) from rfl,Option.bind_some]
   rw [show a9h 56 (a1c [(⟨0,90*v7,730,25,[0,1]⟩:Rules)] 0 (⟨0,90*v7,730,25,[0,1,2]⟩:Rules)) [(⟨36000,90*v7,730,25,[0,1]⟩:Rules)]=some ((a1c [(⟨0,90*v7,730,25,[0,1]⟩:Rules)] 0 (⟨0,90*v7,730,25,[0,1,2]⟩:Rules))++[(⟨36000,90*v7,730,25,[0,1]⟩:Rules)]) from b3k (by simp [a1c]) (by decide),Option.bind_some]
   exact fin _ ⟨90*v7,by omega,by omega,.inr (.inr rfl)⟩
theorem e7w {t:List Rules} (h:c66 t):b2i t=some 0:=by
 obtain ⟨few,h0,h1,h⟩:=h
 have d1:decide (few >= 0)=true:=by simp;omega
 have d2:decide (few <= 73049)=true:=by simp;omega
 have val: ∀(f p s:Int) (l:List Int),decide (f >= 0)=true -> decide (f <= 73048)=true -> decide (p >= 0)=true -> decide (p <= 73049)=true -> decide (s >= 0)=true -> decide (s <= 100)=true -> l=[0,1] \/ l=[0,1,2] -> a5b ⟨f,few,p,s,l⟩=some true:=by
  intro f p s l e1 e2 e3 e4 e5 e6 hl
  unfold a5b a4h a8a
  simp only [d1,d2,e1,e2,e3,e4,e5,e6,if_true,Option.bind_some,Bool.not_true,Bool.false_eq_true,if_false]
  obtain ⟨m,hm⟩:=e51
  have h3:3<FU:=by have:=a2m;omega
  rcases hl with rfl | rfl
  ·have:=p7 (f:=b4x ⟨f,few,p,s,[0,1]⟩) (fun i=>((⟨f,few,p,s,[0,1]⟩:Rules),(i:Int))) 2 (x:=some true) (fun i hi r=>by
    match i,hi with
    | 0,_=>rfl
    | 1,_=>rfl) (fun r=>rfl) (by omega:2<FU)
   exact this
  ·have:=p7 (f:=b4x ⟨f,few,p,s,[0,1,2]⟩) (fun i=>((⟨f,few,p,s,[0,1,2]⟩:Rules),(i:Int))) 3 (x:=some true) (fun i hi r=>by
    match i,hi with
    | 0,_=>rfl
    | 1,_=>rfl
    | 2,_=>rfl) (fun r=>rfl) h3
   exact this
 have h3:3<FU:=by have:=a2m;omega
 have v1:=val 0 730 25 [0,1,2] rfl rfl rfl rfl rfl rfl (.inr rfl)
 have v2:=val 0 730 25 [0,1] rfl rfl rfl rfl rfl rfl (.inl rfl)
 have v3:=val 35000 365 30 [0,1,2] rfl rfl rfl rfl rfl rfl (.inr rfl)
 have v4:=val 36000 730 25 [0,1] rfl rfl rfl rfl rfl rfl (.inl rfl)
 rcases h with rfl | rfl | rfl
 ·have:=p7 (f:=a1z [⟨0,few,730,25,[0,1,2]⟩]) (fun i=>(i:Int)) 1 (x:=some 0) (fun i hi r=>by
   match i,hi with
   | 0,_=>
     unfold a1z
     show ((a5b _).bind _)=_
     rw [v1];rfl) (fun r=>rfl) (by omega:1<FU)
  exact this
 ·have:=p7 (f:=a1z [⟨0,few,730,25,[0,1]⟩,⟨35000,few,365,30,[0,1,2]⟩]) (fun i=>(i:Int)) 2 (x:=some 0) (fun i hi r=>by
   match i,hi with
   | 0,_=>
     unfold a1z
     show ((a5b _).bind _)=_
     rw [v2];rfl
   | 1,_=>
     unfold a1z
     show ((a5b _).bind _)=_
     rw [v3];rfl) (fun r=>rfl) (by omega:2<FU)
  exact this
 ·have:=p7 (f:=a1z [⟨0,few,730,25,[0,1,2]⟩,⟨36000,few,730,25,[0,1]⟩]) (fun i=>(i:Int)) 2 (x:=some 0) (fun i hi r=>by
   match i,hi with
   | 0,_=>
     unfold a1z
     show ((a5b _).bind _)=_
     rw [v1];rfl
   | 1,_=>
     unfold a1z
     show ((a5b _).bind _)=_
     rw [v4];rfl) (fun r=>rfl) (by omega:2<FU)
  exact this
theorem e9u:a6t c9z=some 0:=by kernel_rfl
theorem e2a:b2i []=some 1:=by kernel_rfl
theorem c6k {t0 t1 t2:Statute} (k0:SOK t0) (k1:SOK t1) (k2:SOK t2) (t:List Rules) (ra:List Rate) {c:Int} (hc:((b2i t).bind fun v12=>if (v12 != 0) then some v12 else (a6t ra).bind fun v13=>some v13)=some c):
  a9l ⟨[⟨0,t0⟩,⟨1,t1⟩,⟨2,t2⟩],t,ra⟩=some c:=by
 have h3:3<FU:=by have:=a2m;omega
 have l2: ∀v1:Laws×Int,v1.1=⟨[⟨0,t0⟩,⟨1,t1⟩,⟨2,t2⟩],t,ra⟩ -> d8 FU (a90 v1) (v1.1,0)=some c:=by
  intro v1 hv
  rw [hv]
  have:=p7 (f:=a90 v1) (fun i=>((⟨[⟨0,t0⟩,⟨1,t1⟩,⟨2,t2⟩],t,ra⟩:Laws),(i:Int))) 3 (x:=some c) (fun i hi r=>by
   unfold a90
   rw [hv]
   match i,hi with
   | 0,_=>show ((a5j t0).bind _)=_;rw [d1n k0];rfl
   | 1,_=>show ((a5j t1).bind _)=_;rw [d1n k1];rfl
   | 2,_=>show ((a5j t2).bind _)=_;rw [d1n k2];rfl) (fun r=>by
   unfold a90
   rw [hv]
   exact hc) h3
  exact this
 unfold a9l
 have:=p7 (f:=b68 ⟨[⟨0,t0⟩,⟨1,t1⟩,⟨2,t2⟩],t,ra⟩) (fun i=>((⟨[⟨0,t0⟩,⟨1,t1⟩,⟨2,t2⟩],t,ra⟩:Laws),(i:Int))) 3 (x:=some c) (fun i hi r=>by
  match i,hi with
  | 0,_=>rfl
  | 1,_=>rfl
  | 2,_=>rfl) (fun r=>by
  unfold b68
  exact l2 _ rfl) h3
 exact this
theorem c68 {x:Laws} (h:LwOK x):a9l x=some 0 /\ a9l ⟨x.States,[],x.Rates⟩=some 1:=by
 obtain ⟨⟨t0,t1,t2,hs,k0,k1,k2⟩,htr,hra⟩:=h
 obtain ⟨st,tr,ra⟩:=x
 have hs:st=[⟨0,t0⟩,⟨1,t1⟩,⟨2,t2⟩]:=hs
 have htr:c66 tr:=htr
 have hra:ra=c9z:=hra
 subst hs;subst hra
 refine ⟨c6k k0 k1 k2 tr c9z ?_,c6k k0 k1 k2 [] c9z ?_⟩
 ·rw [e7w htr,e9u];rfl
 ·rw [e2a];rfl
end Go.PL
namespace Go.PL
open Go Go.SX
def sta (c:Claim):Int:=match a1j c with | some (m,_)=>m | none=>0
theorem g4l {c:Claim} (h:c0z c):a1j c=some (sta c,true) /\ 0 <= sta c /\ sta c <= 1300:=by
 obtain ⟨r,h1,h3⟩:=d72 c
 have hs:=f3r
 have hd:=h.2
 rcases h3 with ⟨_,h3 | h3⟩ | ⟨m,hm,rfl,_,_,_,h4⟩
 ·omega
 ·omega
 ·have e:sta c=(m:Int):=by unfold sta;rw [h1]
  rw [e]
  refine ⟨h1,by omega,?_⟩
  rcases h4 with rfl | h4
  ·decide
  ·have:=g4c (show 0 <= m-1 by omega)
   have e0:S 0=0:=rfl
   omega
def f3b (s:Int×Bool) (c:Claim):Int×Bool:=if c.Person=1 /\ (s.2=false \/ sta c<s.1) then (sta c,true) else s
def fstF (l:List Claim):Int×Bool:=l.foldl f3b (0,false)
theorem e79 {l:List Claim} {i:Nat} (hi:i<l.length):(l.take (i+1)).foldl f3b (0,false)=f3b ((l.take i).foldl f3b (0,false)) l[i]:=by
 rw [List.take_succ_eq_append_getElem hi,List.foldl_append];rfl
theorem e76 (g:decision_file) (hp:g.person=1) (hl:g.claims.length <= 1000) (hok: ∀c∈g.claims,c0z c):a6r g=some (fstF g.claims):=by
 unfold a6r
 refine p7 (fun i=>(((g.claims.take i).foldl f3b (0,false)).1,((g.claims.take i).foldl f3b (0,false)).2,(i:Int))) g.claims.length ?_ ?_ (by have:=a2m;omega)
 ·intro i hi r
  obtain ⟨h1,_⟩:=g4l (hok _ (List.getElem_mem hi))
  unfold a7d
  simp only [c36 hi,if_true,a4n hi,Option.bind_some,hp,a92 (show i <= 1000000 by omega),e79 hi]
  generalize (g.claims.take i).foldl f3b (0,false)=s
  obtain ⟨m,ok⟩:=s
  unfold f3b
  by_cases hp1:g.claims[i].Person=1
  ·have e1:(g.claims[i].Person != 1)=false:=by simpa using hp1
   simp only [e1,Bool.false_eq_true,if_false,h1,Option.bind_some,hp1,true_and]
   cases ok with
   | false=>simp
   | true=>
     by_cases hlt:sta g.claims[i]<m
     ·simp [hlt]
     ·simp [hlt]
  ·have e1:(g.claims[i].Person != 1)=true:=by simpa using hp1
   simp only [e1,if_true,hp1,false_and,if_false]
 ·intro r
  unfold a7d
  simp only [b0f,Bool.false_eq_true,if_false,List.take_length]
  rfl
section
variable {x:Laws} {f:List api_Fact} {c:List Claim} {p m:Int}
theorem d80 (h:LwOK x) (hb:p<1 \/ 99<p \/ m<0 \/ 2399<m):a4e x f c p m=some ([],1):=by
 unfold a4e
 rw [(c68 h).1,Option.bind_some]
 simp only [show ((0:Int) != 0)=false from rfl,Bool.false_eq_true,if_false,b3n,Option.bind_some]
 rw [if_pos (by simp;omega)]
theorem d7i (h:LwOK x):a4e ⟨x.States,[],x.Rates⟩ f c p m=some ([],1):=by
 unfold a4e
 rw [(c68 h).2,Option.bind_some]
 rfl
end
end Go.PL
namespace Go.PL
open Go Go.SX
theorem d83 {s:pensionlaw26_Seeds} (h:s.Laws.length <= 9223372036854775807 /\ s.Lives.length <= 9223372036854775807 /\ s.Facts.length <= 9223372036854775807 /\ s.Claims.length <= 9223372036854775807):Tot (a60 s) fun r=>LwOK r.1 /\ 6 <= r.2.2.length /\ r.2.2.length <= 12:=by
 unfold a60
 refine Tot.bind (e7m h.2.1) fun a ha=>Tot.bind (e47 _) fun b hb=>Tot.bind (c07 (by omega)) fun c hc=> ?_
 subst hc
 obtain ⟨x,hx,hok⟩:=f9k h.1
 rw [hx,Option.bind_some]
 refine Tot.bind (e4n _) fun y hy=>Tot.bind (g0q s.Day) fun z hz=>Tot.bind (c07 (by omega)) fun w hw=> ?_
 subst hw
 exact Tot.some ⟨hok,by simp;omega,by simp;omega⟩
theorem g1j {v1:Laws×List api_Fact×List Claim} (hv:LwOK v1.1) (hn:6 <= v1.2.2.length /\ v1.2.2.length <= 12) (s:pensionlaw26_Seeds) (hs:s.Lives.length <= 9223372036854775807):
  Tot (d8 FU (a7u v1) (s,[],[],[],(⟨[],[],[]⟩:Laws),v1.1,v1.2.1,v1.2.2,0)) fun r=>LwOK r.1:=by
 refine Tot.loop (I:=fun v=>v.2.2.2.2.2.1=v1.1 /\ v.2.2.2.2.2.2.2.1.length=v1.2.2.length /\ v.1=s /\ 0 <= v.2.2.2.2.2.2.2.2 /\ v.2.2.2.2.2.2.2.2 <= (v1.2.2.length:Int)) (μ:=fun v=>((v1.2.2.length:Int)-v.2.2.2.2.2.2.2.2).toNat) ⟨rfl,rfl,rfl,Int.le_refl _,by simp⟩ (by simp only [];have:=a2m;omega) ?_
 rintro r ⟨s',a1,a2,a3,a4,lw,fs,c,i⟩ ⟨h1,h2,h3,h4,h5⟩ ih
 have h1:lw=v1.1:=h1
 have h2:c.length=v1.2.2.length:=h2
 have h3:s'=s:=h3
 have h4:0 <= i:=h4
 have h5:i <= (v1.2.2.length:Int):=h5
 subst h3
 unfold a7u
 dsimp only
 refine Tot.ite (fun hc=> ?_) fun hc=> ?_
 ·have hc:i<(v1.2.2.length:Int):=by simpa using hc
  obtain ⟨y,hy,_⟩:=b04 h4 (show i<(c.length:Int) by omega)
  simp only [hy,Option.bind_some]
  refine Tot.bind (a0r (by omega) (by omega)) fun z hz=> ?_
  rw [b69 h4 (by omega)]
  exact ih _ ⟨h1,by show (a1c c i _).length=_;rw [e00];exact h2,rfl,by show 0 <= i+1;omega,by show i+1 <= _;omega⟩ (by show ((v1.2.2.length:Int)-(i+1)).toNat<((v1.2.2.length:Int)-i).toNat;omega)
 ·refine Tot.bind (a0r (by omega) (by omega)) fun a ha=>Tot.bind (e02 (by decide)) fun b _=>Tot.bind (a0r (by omega) (by omega)) fun k hk=> ?_
  have e1:i64 ((c.length:Int)-6)=(c.length:Int)-6:=j6 (by omega) (by omega)
  have e2:i64 ((c.length:Int)-6+a)=(c.length:Int)-6+a:=j6 (by omega) (by omega)
  have e3:i64 ((c.length:Int)-6+a+1)=(c.length:Int)-6+a+1:=j6 (by omega) (by omega)
  rw [e1,e2,e3]
  refine Tot.ite (fun _=> ?_) fun _=> ?_
  ·have hsl: ∃q,b7g c ((c.length:Int)-6+a) ((c.length:Int)-6+a+1) ((c.length:Int)-6+a+1)=some q:=by
    unfold b7g
    rw [if_pos ⟨Int.le_refl _,by omega⟩]
    unfold a1q
    rw [if_pos ⟨by omega,by omega,by omega⟩]
    exact ⟨_,rfl⟩
   obtain ⟨q,hq⟩:=hsl
   rw [hq,Option.bind_some]
   exact Tot.some (by show LwOK lw;rw [h1];exact hv)
  ·obtain ⟨y,hy,_⟩:=b04 (l:=c) (show 0 <= (c.length:Int)-6+a by omega) (show (c.length:Int)-6+a<(c.length:Int) by omega)
   obtain ⟨z,hz,_⟩:=b04 (l:=c) hk.1 (show k<(c.length:Int) by omega)
   simp only [hy,hz,Option.bind_some]
   exact Tot.some (by show LwOK lw;rw [h1];exact hv)
theorem e4o {s:pensionlaw26_Seeds} (h:s.Laws.length <= 9223372036854775807 /\ s.Lives.length <= 9223372036854775807 /\ s.Facts.length <= 9223372036854775807 /\ s.Claims.length <= 9223372036854775807):Tot (a7l s) fun r=>LwOK r.1:=by
 unfold a7l
 exact Tot.bind (d83 h) fun v hv=>g1j hv.1 hv.2 s h.2.1
section
variable {x:Laws} {f:List api_Fact} {c:List Claim} {p t m:Int}
theorem f6a (h:LwOK x) (hb:p<1 \/ 99<p \/ m<0 \/ 2399<m):a6j x f c p t m=some (0,1):=by
 unfold a6j
 rw [d80 h hb];rfl
theorem e3t (h:LwOK x) (hb:p<1 \/ 99<p \/ m<0 \/ 2399<m):a0u x f c p t m=some (0,1):=by
 unfold a0u
 rw [d80 h hb];rfl
theorem d48 (h:LwOK x):a0u ⟨x.States,[],x.Rates⟩ f c p t m=some (0,1):=by
 unfold a0u
 rw [d7i h];rfl
theorem d27 (h:LwOK x) {k:List Knowledge}:a99 ⟨x.States,[],x.Rates⟩ k p t=some ([],1):=by
 unfold a99 b38
 rw [(c68 h).2];rfl
theorem e04 (h:LwOK x) (hm:0 <= m /\ m <= 2399):a4e x [] [] 1 m=some ([],0):=by
 unfold a4e
 rw [(c68 h).1,Option.bind_some]
 simp only [show ((0:Int) != 0)=false from rfl,Bool.false_eq_true,if_false,b3n,Option.bind_some]
 rw [if_neg (by simp;omega)]
 obtain ⟨q,hq,_,hq2,hq3⟩:=e4w [] (by simp) (fun c hc=>by cases hc)
 have hqn:q=[]:=List.eq_nil_iff_forall_not_mem.2 fun d hd=>by have:=(hq2 d).1 hd;cases this
 subst hqn
 have ho:b3y x [] [] 1=some (some ⟨x,c5z [],ofP (c5z []) 1,[],1⟩):=by
  unfold b3y
  rw [e0o [] (by simp),Option.bind_some,g3o _ _ (by simp [c5z]),Option.bind_some,hq,Option.bind_some]
 rw [ho,Option.bind_some]
 have hfi:=e76 ⟨x,c5z [],ofP (c5z []) 1,[],1⟩ rfl (by simp) (fun d hd=>by cases hd)
 simp only [optC,hfi,Option.bind_some]
 rfl
theorem e6e:b6i [] 0 0 1200=some (0,0):=by kernel_rfl
theorem f9s (m:Int):b2n [] 0 m=some 0:=by
 have hA: ∀b,b4u [] 0 b m=some 0:=fun b=>by kernel_rfl
 unfold b2n
 show d8 FU (b0o [] 0 m) ((fun i:Nat=>((0:Int),(i:Int)+1)) 0)=_
 refine p7 (f:=b0o [] 0 m) (fun i=>((0:Int),(i:Int)+1)) 5 (fun i hi r=> ?_) (fun r=>rfl) (by have:=a2m;omega)
 unfold b0o
 dsimp only
 rw [if_pos (by simp;omega),hA,Option.bind_some]
 have e:i64 ((i:Int)+1+1)=((i+1:Nat):Int)+1:=by rw [j6 (by omega) (by omega)];omega
 rw [e];rfl
theorem e75:b27 []=some true:=by kernel_rfl
theorem f6d (hm:0 <= m /\ m <= 2399) (h:LwOK x):a6j x [] [] 1 0 m=some (0,0):=by
 unfold a6j
 rw [e04 h hm,Option.bind_some]
 have hs:b5e [] 0 m=some (0,0):=by
  unfold b5e a58
  rw [e75,Option.bind_some,f9s]
  have h1:decide (m >= 0)=true:=decide_eq_true hm.1
  have h2:decide (m <= 2399)=true:=decide_eq_true hm.2
  simp only [Bool.not_true,Bool.false_eq_true,if_false,h1,if_true,h2,Option.bind_some]
  rfl
 simp only [show ((0:Int) != 0)=false from rfl,Bool.false_eq_true,if_false,hs,Option.bind_some]
theorem e6s (h:LwOK x):a0u x [] [] 1 0 1200=some (0,0):=by
 unfold a0u
 rw [e04 h (by omega),Option.bind_some]
 simp only [show ((0:Int) != 0)=false from rfl,Bool.false_eq_true,if_false,e6e,Option.bind_some]
theorem pay5:b31 (i64 ((-5:Int)+0)) 0=some (0,0):=by kernel_rfl
theorem f8t (h:LwOK x):a24 x [] [] 1 0 1200 (-5)=some (0,9):=by
 unfold a24
 show d8 FU (a5i 1200 [] [] 1 0) (-5,x,0)=_
 refine p7 (f:=a5i 1200 [] [] 1 0) (fun i=>((-5:Int),x,(i:Int))) 120 (fun i hi r=> ?_) (fun r=>rfl) (by have:=a2m;omega)
 unfold a5i
 dsimp only
 rw [if_neg (show¬decide ((-5:Int) >= 0)=true from by decide)]
 have e1:(((i:Int))==120)=false:=by simp;omega
 have e2:i64 (1200+(i:Int))=1200+(i:Int):=j6 (by omega) (by omega)
 have e3:i64 (1200+(i:Int)+1)=1200+(i:Int)+1:=j6 (by omega) (by omega)
 have e4:decide (1200+(i:Int)+1>2399)=false:=decide_eq_false (by omega)
 simp only [e1,e2,e3,e4,Bool.false_eq_true,if_false,Option.bind_some]
 rw [f6d (by omega) h,Option.bind_some]
 simp only [show ((0:Int) != 0)=false from rfl,Bool.false_eq_true,if_false]
 rw [pay5,Option.bind_some,a92 (show i <= 1000000 by omega)]
 rfl
end
theorem f8d:a7g=some true:=by
 obtain ⟨⟨x,f,c⟩,hx,k,_⟩:=d83 (s:=⟨[],[],[],[],0⟩) (by simp)
 have k:LwOK x:=k
 unfold a7g
 rw [hx,Option.bind_some]
 show (a0u x [] [] 1 0 1200).bind _=_
 rw [e6s k,Option.bind_some]
 have u0:a24 x [] [] 1 0 1200 0=some (0,0):=by
  unfold a24
  show d8 FU (a5i 1200 [] [] 1 0) (0,x,0)=_
  rw [show FU=FU-1+1 from by have:=a2m;omega,j8]
  rfl
 have u2:a24 x [] [] 1 0 2400 0=some (0,1):=rfl
 simp only [u0,f8t k,u2,Option.bind_some]
 rfl
theorem b9v (s:pensionlaw26_Seeds) (b:Int) (h:s.Laws.length <= 9223372036854775807 /\ s.Lives.length <= 9223372036854775807 /\ s.Facts.length <= 9223372036854775807 /\ s.Claims.length <= 9223372036854775807):a3r s b=some true:=by
 obtain ⟨⟨x,f,c⟩,hx,k⟩:=e4o h
 have k:LwOK x:=k
 unfold a3r
 rw [hx,Option.bind_some,c7l (by decide) (by decide),Option.bind_some]
 have b0:0 <= b%1000 /\ b%1000<1000:=by omega
 generalize b%1000=d at b0
 have i1:i64 (1+d)=1+d:=j6 (by omega) (by omega)
 have i2:i64 (99+(1+d))=99+(1+d):=j6 (by omega) (by omega)
 have i4:i64 (-(1+d))= -(1+d):=j6 (by omega) (by omega)
 simp only [i1,i2,i4]
 rw [f6a k (by omega),Option.bind_some,e3t k (by omega),Option.bind_some,d48 k,Option.bind_some,d27 k,Option.bind_some,f8d]
 rfl
end Go.PL
