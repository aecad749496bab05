/- Texts of the proof, joined. -/
import Derived.Test.YtkjalpallcedmaaGreatDoorP6
import Derived.Sort.AssemblyPlain
import Derived.KernelRfl
set_option linter.defProp false
set_option linter.unusedVariables false
set_option linter.unusedSimpArgs false
set_option maxRecDepth 100000
open List
namespace Go.PL
open Go Go.SX
def j82(p:Nat)(l:O (O Lx×Cl)):Prop:=∃j h i b f a c m d e g k o n q,Q3OK j h i b f a c m/\Q4OK d e g k/\l=q3 j h i p b f a c m d e g k o n q
def q2(c2:Bool)(l:O (O Lx×Cl)):O (O Lx×Cl):=(if c2 then[(lC5,.credit 5 0)]else[])++l
def q1(b a:Nat)(c1 c2:Bool)(l:O (O Lx×Cl)):O (O Lx×Cl):=[(lC6,.credit 6 0),(lC7 b,.credit 7 b)]++((if c1 then[(j83 a,.credit 10 a)]else[])++q2 c2 l)
section
variable {n:O Int} {k:Int} {pre r:A4}
def j2c{C:A4}{D:Nat}(E:bl C=g4v 20 D)(a:joinC a5k (n,k,C,pre)=some r):∃c2 l,j82 D l/\bl r=bl pre++(T (q2 c2 l)++bl d3i):=by
 unfold joinC a5k at a;let ⟨H,F,a⟩:=qP.1 a;let ⟨v,u,a⟩:=qP.1 a;split at a;.let ⟨I,z,a⟩:=qP.1 a;let ⟨q,o,p,f,b,d,c,B,h,i,g,x,s,j,m,t,A,e⟩:=j3c E a;refine⟨true,_,⟨q,o,p,f,b,d,c,B,h,i,g,x,s,j,m,t,A,rfl⟩,?_⟩;rw[e,(i3y z)];simp [q2,if_true,i5m,i6y,i9h,tC5,qQ,List.append_nil,List.nil_append]
 .let ⟨q,o,p,f,b,d,c,B,h,i,g,x,s,j,m,t,A,e⟩:=j3c E a;refine⟨false,_,⟨q,o,p,f,b,d,c,B,h,i,g,x,s,j,m,t,A,rfl⟩,?_⟩;rw[e];rfl
def i8p{J:A4}{I:Nat}(K:bl J=g4v 20 I)(a:joinC a1a (n,k,J,pre)=some r):∃m d c1 c2 l,(1<=m/\m<=73049/\1<=d/\d<=73049)/\j82 I l/\bl r=bl pre++(T (q1 m d c1 c2 l)++bl d3i):=by
 unfold joinC a1a at a;dsimp only at a;obtain⟨Y,Q,a⟩:=qP.1 a;obtain⟨b,y,a⟩:=qP.1 a;have B:=i48 y (by decide) (by decide);obtain⟨b,rfl⟩:=qT B.1;obtain⟨M,z,a⟩:=qP.1 a;have h:=i7c z (n:=1+b) (by rw[e9 (by omega) (by omega)];omega) (by omega);obtain⟨Z,x,a⟩:=qP.1 a;have i:=i3y x;obtain⟨v14,G,a⟩:=qP.1 a;have g:=i3y G;obtain⟨v15,C,a⟩:=qP.1 a;have f:=i3y C;obtain⟨N,X,a⟩:=qP.1 a;obtain⟨p,o,a⟩:=qP.1 a;have F:=i48 o (by decide) (by decide);obtain⟨p,rfl⟩:=qT F.1;have L:=tC67 (1+b);split at a;.have hr0:=a;obtain⟨U,S,a⟩:=qP.1 a;obtain⟨c,E,a⟩:=qP.1 a;have s:=i48 E (by decide) (by decide);obtain⟨c,rfl⟩:=qT s.1;obtain⟨W,u,a⟩:=qP.1 a;have D:=i7c u (n:=100+c) (by rw[e9 (by omega) (by omega)];omega) (by omega);obtain⟨V,H,a⟩:=qP.1 a;have j:=i3y H;obtain⟨P,w,a⟩:=qP.1 a;have v:=i3y w;obtain⟨R,q,a⟩:=qP.1 a;have t:=i3y q;obtain⟨c2,l,A,e⟩:=j2c K a;refine⟨1+b,100+c,true,c2,l,⟨by omega,by omega,by omega,by omega⟩,A,?_⟩;rw[e,t,v,j,D,f,g,i,h];simp only[q1,if_true,i5m,i6y,i9h,tC10,qQ,List.append_nil,List.nil_append];rw[<-qQ (i40 lC6),L];simp only[qQ]
 .obtain⟨c2,l,A,e⟩:=j2c K a;refine⟨1+b,1,false,c2,l,⟨by omega,by omega,by omega,by omega⟩,A,?_⟩;rw[e,f,g,i,h];simp only[q1,qM,if_false,i5m,i6y,i9h,qQ,List.append_nil,List.nil_append];rw[<-qQ (i40 lC6),L];simp only[qQ]
def k1z(P:Ps):i40 (j1p P)=bl c6e++(P.date++(bl c1g++(bl P.mx++(32::(g4v 20 P.u++bl b7x))))):=by simp [i40,j1p,W,Sg,Wn,Sh,num,N,blk,cond_true,cond_false,qQ,List.nil_append];rfl
structure MdOK(m:Int)(mx:ByteArray)(u:Nat):Prop where
 mw:j0q mx=true
 mo:ofW mx 3=some m
 m0:1<=m
 m1:m<=4mS:nz (a4u j0t m)=true
 u0:1<=u
 u1:u<=100000
def j0w{a:Int}{b:O UInt8}{m:Int}{mx:A4}{u x f d:Nat}{c1 c2:Bool}{l:O (O Lx×Cl)}(q:i8v (64::b) a=true)(p:0<=a)(t:a<=73048)(e:MdOK m mx u)(v:x<=100000)(g:1<=f/\f<=73049/\1<=d/\d<=73049)(H:j82 x l):∃P:Ps,PsOK P/\P.day=a/\i40 (lxV P)=bl c6e++(b++(bl c1g++(bl mx++(32::(g4v 20 u++bl b7x)))))++(T (q1 f d c1 c2 l)++bl d3i):=by obtain⟨B,D,E,z,j,s,o,G,i,y,w,F,I,A,C,c,h,rfl⟩:=H;refine⟨⟨a,b,m,mx,u,f,d,c1,c2,I,A,C,B,D,E,x,z,j,s,o,G,i,y,w,F⟩,⟨q,p,t,e.mw,e.mo,e.m0,e.m1,e.mS,e.u0,e.u1,g.1,g.2.1,g.2.2.1,g.2.2.2,c.h1,c.h2,c.h3,c.h4,c.h5,c.h6,h.h4,v,c.h7,c.h8,c.h9,c.h10,h.h1,h.h2,h.h3⟩,rfl,?_⟩;unfold lxV;rw[i47,i47,k1z];rfl
def i91{a:A4}{g:Int}(d:i8v (64::bl a) g=true)(f:0<=g)(c:g<=73048)(b:a38 a n k=some r):∃P:Ps,PsOK P/\P.day=g/\bl r=i40 (lxV P):=by
 obtain⟨Z,W,b⟩:=qP.1 b;obtain⟨G,U,b⟩:=qP.1 b;have Q:=i48 U (by decide) (by decide);obtain⟨G,rfl⟩:=qT Q.1;obtain⟨v3,N,b⟩:=qP.1 b;have D:=i7c N (n:=300+G) (by rw[e9 (by omega) (by omega)];omega) (by omega);obtain⟨v4,L,b⟩:=qP.1 b;have C:=i3y L;obtain⟨Y,K,b⟩:=qP.1 b;have E:=i3y K;obtain⟨v6,h6,b⟩:=qP.1 b;obtain⟨S,R,b⟩:=qP.1 b;have M:=i48 R (by decide) (by decide);split at b;.have A:=b;obtain⟨X,T,b⟩:=qP.1 b;have V:=i3y T;obtain⟨F,q,s,h,l,t,j,e⟩:=i8p D b;obtain⟨P,o,i,p⟩:=j0w (c1:=s) (c2:=h) d f c (m:=1) (mx:=d4s) (u:=1) ⟨ rfl,by kernel_rfl,by decide,by decide,by kernel_rfl,by decide,by decide⟩ (by omega) t j;refine⟨P,o,i,?_⟩;rw[p,e,V,E,C,show bl c33=bl d4s++(32::(g4v 20 1++bl b7x))from by kernel_rfl];simp only[qQ]
 split at b;.have A:=b;obtain⟨H,z,b⟩:=qP.1 b;have B:=i3y z;obtain⟨F,q,s,h,l,t,j,e⟩:=i8p D b;obtain⟨P,o,i,p⟩:=j0w (c1:=s) (c2:=h) d f c (m:=3) (mx:=d3b) (u:=5) ⟨ rfl,by kernel_rfl,by decide,by decide,by kernel_rfl,by decide,by decide⟩ (by omega) t j;refine⟨P,o,i,?_⟩;rw[p,e,B,E,C,show bl c32=bl d3b++(32::(g4v 20 5++bl b7x))from rfl];simp only[qQ]
 split at b;.have A:=b;obtain⟨J,x,b⟩:=qP.1 b;have v:=i3y x;obtain⟨F,q,s,h,l,t,j,e⟩:=i8p D b;obtain⟨P,o,i,p⟩:=j0w (c1:=s) (c2:=h) d f c (m:=2) (mx:=f1e) (u:=1) ⟨by kernel_rfl,by kernel_rfl,by decide,by decide,by kernel_rfl,by decide,by decide⟩ (by omega) t j;refine⟨P,o,i,?_⟩;rw[p,e,v,E,C,show bl c6d=bl f1e++(32::(g4v 20 1++bl b7x))from by kernel_rfl];simp only[qQ]
 obtain⟨I,y,b⟩:=qP.1 b;have w:=i3y y;obtain⟨F,q,s,h,l,t,j,e⟩:=i8p D b;obtain⟨P,o,i,p⟩:=j0w (c1:=s) (c2:=h) d f c (m:=4) (mx:=d3z) (u:=10) ⟨by kernel_rfl,by kernel_rfl,by decide,by decide,by kernel_rfl,by decide,by decide⟩ (by omega) t j;refine⟨P,o,i,?_⟩;rw[p,e,w,E,C,show bl c19=bl d3z++(32::(g4v 20 10++bl b7x))from by kernel_rfl];simp only[qQ]
end
def j2o:∀(a:O Lx)(rest:O UInt8),okA a rest->a.length<=(i40 a).length
 |[],_,_=>Nat.le_refl _|⟨t,w,b⟩::a,rest,h=>by
   have e:=j2o a _ h.2;have c:1<=w.length:=by cases (h.1)<;>simp
   show a.length+1<=(w++(blk b++i40 a)).length;rw[qL,qL];omega
def i8u(o:A3 Ps):O Lx:=match o with|some P=>lxV P|none=>[]
def i71(o:A3 Ps):O Version:=match o with|some P=>[P.ver]|none=>[]
def i8z(o:A3 Ps)(a:Int):Prop:=match o with|some P=>PsOK P/\P.day=a|none=>True
def lxS(b:A4)(cur:Nat)(P:Ps)(c a:A3 Ps):O Lx:=[W b76,W b,W b4x,num cur [] 2 true,Sg e8b]++(lxV P++(i8u c++(i8u a++[Sh d0a])))
def stS(b:A4)(cur:Nat)(P:Ps)(c a:A3 Ps):Statute:=⟨b,cur,P.ver::(i71 c++i71 a)⟩
def j1b{o:A3 Ps}{a:Int}(h:i8z o a)(rest:O UInt8):okA (i8u o) rest:=by cases o with|none=>trivial|some P=>exact j32 h.1 _
def j0s{o:A3 Ps}{a:Int}(h:i8z o a){ts:O Tk}{vs:O Version}(b:VersR ts vs):VersR (tk (i8u o) ts) (i71 o++vs):=by cases o with|none=>exact b|some P=>exact VersR.cons (j9a h.1 ts) b
def i90(P:Ps):P.ver.From=P.day:=by rw[j73]
def j60{f:A4}(hn:(AE.nm f).ok){cur:Nat}(q:1<=cur)(m:cur<=999){P:Ps}{c b:A3 Ps}(i:PsOK P)(n:P.day=0)(e:i8z c 35245)(d:i8z b 36890):SOK (stS f cur P c b):=by
 have g:∀o,(i71 o).length<=1:=λo=>by cases o<;>simp[i71]
 have p:=g c;have l:=g b;refine⟨hn.leaf.1,hn.leaf.2,by show(1)<=(cur:Int);omega,by show(cur:Int)<=999;omega,?_,?_,?_,?_⟩;.show 1<=(P.ver::(i71 c++i71 b)).length;simp
 .show(P.ver::(i71 c++i71 b)).length<=6;simp [qR,qL];omega
 .intro v a;refine⟨i9c,?_⟩;rcases qO.1 a with rfl|a;.exact (j2t i)
  rcases qK.1 a with a|a;.cases c with|none=>cases a|some Q=>rw[show i71 _=[Q.ver]from rfl,qF]at a;subst a;exact j2t e.1
  .cases b with|none=>cases a|some Q=>rw[show i71 _=[Q.ver]from rfl,qF]at a;subst a;exact j2t d.1
 .show(P.ver::(i71 c++i71 b)).Pairwise _;cases c with
  |none=>cases b with|none=>simp[i71]|some R=>have:=d.2;simp[i71,i90];omega
  |some Q=>have j:=e.2;cases b with|none=>simp[i71,i90];omega|some R=>have k:=d.2;simp[i71,i90];omega
def j3z{b:A4}(A:j0q b=true)(hn:(AE.nm b).ok){cur:Nat}(E:1<=cur)(B:cur<=999){P:Ps}{c a:A3 Ps}(m:PsOK P)(z:P.day=0)(f:i8z c 35245)(g:i8z a 36890){s:A4}(y:s.size<=8000)(r:bl s=i40 (lxS b cur P c a)):a9z s=some (stS b cur P c a,0,0):=by
 have p:okA (lxS b cur P c a) []:=by
  have l:i9o [W b76,W b,W b4x,num cur [] 2 true,Sg e8b]:=⟨trivial,trivial,trivial,.whole (by omega) (.inl ⟨rfl,rfl⟩),trivial,trivial⟩;refine i4u _ _ _ (i6s _ (by simp only[i6u,W,Sg,num,N,BEq.rfl,nx,A,Bool.true_and,Bool.and_true,Bool.true_or];kernel_rfl) l _) ?_;.exact i4u _ _ _ (j32 m _) (i4u _ _ _ (j1b f _) (i4u _ _ _ (j1b g _) (i6s [Sh d0a] (rfl) ⟨trivial,trivial⟩ _)))
 have v:=j2o _ _ p;have D:s.size=(i40 (lxS b cur P c a)).length:=by rw[<-r];rfl
 let ⟨q,i,d,k⟩:=j3m y _ r (j7a _ p) (by omega);have e:(lxS b cur P c a).map (·.t)=.w b76::.w b::.w b4x::.n ⟨(cur),1⟩ 2::.s e8b::tk (lxV P) (tk (i8u c) (tk (i8u a) [.s d0a])):=by unfold lxS tk;simp [List.map_append,List.map_cons,List.map_nil,List.cons_append,List.nil_append,W,Sg,Sh,num,N]
 rw[e]at d;have h:∀o,(i71 o).length<=1:=λo=>by cases o<;>simp[i71]
 have F:=h c;have G:=h a;exact j46 i k d (by unfold j67;rw[hn.leaf.1]) (by omega) (by omega) (by have u:=j0s g VersR.nil;rw[List.append_nil]at u;exact VersR.cons (j9a m _) (j0s f u)) (by simp) (by simp [qR,qL];omega) (j7t (j60 hn E B m z f g))
def tSt(b:A4)(cur:Nat)(P:Ps)(c a:A3 Ps):i40 (lxS b cur P c a)=bl c70++(bl b++(bl c2x++(g4v 20 cur++(bl d8i++(i40 (lxV P)++(i40 (i8u c)++(i40 (i8u a)++bl d0a))))))):=by unfold lxS;rw[i47,i47,i47,i47];simp [i40,W,Sg,Wn,Sh,num,N,blk,cond_true,cond_false,qQ,List.nil_append];rfl
def k1g:i8v (64::bl b7u) 0=true:=rfl
def k2c:i8v (64::bl b7v) 35245=true:=by kernel_rfl
def k1m:i8v (64::bl b80) 36890=true:=by kernel_rfl
def i8w(s:A4):s.size=(bl s).length:=i6n s
def i9y(P:Ps):i40 (i8u (some P))=i40 (lxV P):=rfl
def i6h:i40 (i8u none)=[]:=rfl
section
variable {n:O Int} {pre r:A4}
def j3a{k:Int}(u:n.length<=9223372036854775807)(a:joinC a7x (k,n,pre)=some r):∃e,i8z e 36890/\bl r=bl pre++(i40 (i8u e)++bl d0a)/\(i40 (i8u e)).length<=2500:=by
 unfold joinC a7x at a;let ⟨x,y,a⟩:=qP.1 a;let ⟨o,m,a⟩:=qP.1 a;split at a;.let ⟨B,c,a⟩:=qP.1 a;let ⟨A,f,a⟩:=qP.1 a;let ⟨D,j,a⟩:=qP.1 a;have a:=qH a;subst a;let ⟨P,w,v,t⟩:=i91 k1m (by decide) (by decide) c;let ⟨z,d,b⟩:=(a8b b80 n (i64 ((i64 (7*k))+5)) u (by decide));rw[c]at d;have d:=qH d;subst d;rw[i8w,t]at b;exact⟨some P,⟨w,v⟩,by rw[(i3y j),(i3y f),t,i9y,qQ],b⟩
 .let ⟨C,g,a⟩:=qP.1 a;have a:=qH a;subst a;exact⟨none,trivial,by rw[(i3y g)];rfl,by rw[i6h];simp⟩
end
def j1x{k:Nat}(Z:k<3)(n:O Int)(t:n.length<=9223372036854775807):∃s x,b10 (k:Int) n=some s/\a9z s=some (x,0,0)/\SOK x:=by
 obtain⟨s,J,_⟩:=c2w (k:=(k:Int)) n t (by omega) (by omega);have a:=J;unfold b10 at a;obtain⟨i,b,a⟩:=qP.1 a;have v:j0q i=true/\(AE.nm i).ok/\(bl i).length<=5:=by match k,Z,b with|0,_,b=>have e:c2c=i:=qH b;subst e;exact⟨by kernel_rfl,i7r (by kernel_rfl),by decide⟩|1,_,b=>have e:c24=i:=qH b;subst e;exact⟨by kernel_rfl,i7r (by kernel_rfl),by decide⟩|2,_,b=>have e:b8j=i:=qH b;subst e;exact⟨by kernel_rfl,i7r (by kernel_rfl),by decide⟩
 rw[b]at a;rw[qA]at a;obtain⟨v3,h3,a⟩:=qP.1 a;have K:=i3y h3;obtain⟨v4,S,a⟩:=qP.1 a;have W:=i3y S;obtain⟨v5,N,a⟩:=qP.1 a;have V:=i7c N (n:=1+k) (by rw[e9 (by omega) (by omega)];omega) (by omega);obtain⟨v6,h6,a⟩:=qP.1 a;have L:=i3y h6;obtain⟨v7,h7,a⟩:=qP.1 a;have t7:=i3y h7;obtain⟨v8,H,a⟩:=qP.1 a;obtain⟨T,R,a⟩:=qP.1 a;have X:=i3y R;obtain⟨v10,h10,a⟩:=qP.1 a;obtain⟨A,y,a⟩:=qP.1 a;have D:=i48 y (by decide) (by decide);obtain⟨A,rfl⟩:=qT D.1;obtain⟨P,F,G,I⟩:=i91 k1g (by decide) (by decide) H;have U:(i40 (lxV P)).length<=2500:=by obtain⟨z,f,d⟩:=a8b b7u n (i64 (7*(k:Int))) t (by decide);rw[H]at f;have f:=qH f;subst f;rw[i8w,I]at d;exact d
 have hdl:=i6e 20 (1+k) 0 (by omega);have l:∀u g,i8z u 35245->i8z g 36890->bl s=bl T++(i40 (i8u u)++(i40 (i8u g)++bl d0a))->(i40 (i8u u)).length<=2500->(i40 (i8u g)).length<=2500->∃s x,b10 (k:Int) n=some s/\a9z s=some (x,0,0)/\SOK x:=by
  intro u g o q e g1 g2;have E:bl s=i40 (lxS i (1+k) P u g):=by rw[tSt,e,X,t7,L,V,W,K,I];simp only[qQ]
  have r:s.size<=8000:=by
   rw[i8w,E,tSt];simp only[qL];have q1:(bl c70).length=8:=by decide
   have q2:(bl c2x).length=10:=by decide
   have q3:(bl d8i).length=3:=by decide
   have q4:(bl d0a).length=1:=by decide
   have:=v.2.2;omega
  exact⟨s,_,J,j3z v.1 v.2.1 (by omega) (by omega) F G o q r E,j60 v.2.1 (by omega) (by omega) F G o q⟩
 split at a
 .have hr0:=a;obtain⟨Y,p,a⟩:=qP.1 a;obtain⟨M,w,a⟩:=qP.1 a;have C:=i3y w;obtain⟨Q,hQ,B,m⟩:=i91 k2c (by decide) (by decide) p;obtain⟨g,h,e,c⟩:=j3a t a;exact l (some Q) g ⟨hQ,B⟩ h (by rw[e,C,m,i9y,qQ]) (by obtain⟨z,f,d⟩:=a8b b7v n (i64 ((i64 (7*(k:Int)))+3)) t (by decide);rw[p]at f;have f:=qH f;subst f;rw[i8w,m]at d;exact d) c
 .obtain⟨g,h,e,c⟩:=j3a t a;exact l none g trivial h (by rw[e,i6h];rfl) (by rw[i6h];simp) c
def vld(f:aQ):Bool:=(m8 f).getD false
def cur(f:aQ):Bool:=vld f&&!f.Withdrawn
def b52(f:aQ):m8 f=some (vld f):=by let ⟨b,a,c,_⟩:=b9h f;unfold vld;simp_all
def d1t(f:aQ):b3k f=some (vld f):=by let ⟨b,a,c,_⟩:=b9h f;unfold vld;simp_all
def b6f(f:aQ):a4e f=some (cur f):=by unfold a4e cur;rw[d1t,qA,o4,qA]
def f4a{f:aQ}(h:cur f=true):0<=f.Span.From/\f.Span.From<f.Span.To/\f.Span.To<=73049:=by let ⟨b,a,d,c⟩:=b9h f;unfold cur vld at h;simp_all
def b9a(l:O aQ)(c:l.length<=2^30):a4f l=some (l.filter cur):=by
 unfold a4f a3f;rw[c38 (k:=112) l cur c (by omega) (λa s i y b=>?_) λa s=>?_,qA];.unfold a2b;rw[if_pos (o6 ((qD.1 b).1))];simp [e7 b,qA,b6f]
 .unfold a2b;simp_all
def ofP(l:O aQ)(p:Int):O aQ:=l.filter λf=>f.Person==p
def g5h(l:O aQ)(p:Int):(ofP l p).length<=l.length:=length_filter_le _ _
def g9t(l:O aQ)(p:Int)(c:l.length<=2^30):b2c l p=some (ofP l p):=by
 refine c38 (k:=112) l _ c (by omega) (λa s i y b=>?_) λa s=>?_;.unfold b29;rw[if_pos (o6 ((qD.1 b).1))];simp [e7 b,qA]
 .unfold b29;simp_all
def c9p(a:Int)(s:Int×Bool)(y:aQ):Int×Bool:=if(y.Kind==a)&&(!s.2||decide (y.Span.From<s.1))then(y.Span.From,true)else s
def d4x(l:O aQ)(a:Int)(d:l.length<=2^30):b4r l a=some ((l.filter cur).foldl (c9p a) (0,false)):=by
 rw[foldl_filter];refine e7o  l (λ(s:Int×Bool)i=>(s.1,s.2,i)) _ _ d (0,false) (λ_ _=>True) trivial (λb s i y c _=>⟨trivial,?_⟩) λb s _=>?_
 .unfold b21;rw[if_pos (o6 ((qD.1 c).1))];simp [e7 c,qA,b6f,y3,o4];unfold c9p;cases cur y;.simp
  grind
 .unfold b21;simp_all
def d3m(l:O aQ):Int×Bool:=(l.filter cur).foldl (c9p 12) (0,false)
def e8l(l:O aQ)(a:l.length<=2^30):b7l l=some (d3m l):=by unfold b7l;rw[d4x l 12 a];rfl
def b46(n:Int):Nat->O Int|0=>[]|k+1=>IntKind.u8.wrap (c8u .i64 n (8*k))::b46 n k
def b2u(n:Int):∀k,(b46 n k).length=k|0=>rfl|k+1=>by simp[b46,b2u n k]
def d2d(b:O Int)(n:Int)(k:Nat)(l:k<=8)(i:b.length<=1000000):g7 b n (k:Int)=some (b++b46 n k):=by
 unfold g7;have:=b9s (f:=b1g n) (λa=>∃(q:O Int)(j:Nat),a=(q,(j:Int)-1)/\j<=k/\q++b46 n j=b++b46 n k) (λa=>(a.2+1).toNat) (λr=>r=b++b46 n k) (s:=(b,i64 ((k)-1))) ⟨b,k,by rw[e9 (by omega) (by omega)],Nat.le_refl _,rfl⟩ (by rw[e9 (by omega) (by omega)];omega) ?_;.simp_all
 .rintro a d⟨q,j,rfl,h,c⟩;unfold b1g;cases j with|zero=>simpa[b46]using c|succ j=>
    right;have g:((j+1:Nat))-1=(j:Int):=by omega
    have e:=by have:=congrArg List.length c;rw[qL,qL,b2u,b2u]at this;omega
    rw[g,if_pos (by simp),e9  (by omega) (by omega),b83 (by omega) (by omega)];unfold d0l;rw[if_neg (by omega),qA,p6 (by grind),e9  (by omega) (by omega)];refine⟨_,rfl,⟨_,j,rfl,by omega,?_⟩,by omega⟩;rw[<-c,qQ];rfl
def e6z(d:aQ)(c:Int):O Int:=if c=83then b46 d.State 1 else if c=80then b46 d.Span.From 3++b46 d.Span.To 3 else if c=84then b46 d.Seat 1 else if c=72then b46 d.Share 1 else if c=67then b46 d.Currency 2 else if c=65then b46 d.Amount 4 else if c=82then b46 d.Ref 1 else[]
def f4v(d:aQ)(c:Int):(e6z d c).length<=6:=by
 unfold e6z;repeat' split
 all_goals simp[b2u]
def d13(s:A4):Prop:=s.size<=10/\∀i:Nat,i<s.size->b3c s (i:Int)=some ((s.get! i).toNat:Int)/\(s.get! i).toNat<128
def d9w(s:A4)(i:Nat):O Int:=(List.range i).map λj=>((s.get! j).toNat:Int)
def f2o(s:A4)(i:Nat):d9w s (i+1)=d9w s i++[((s.get! i).toNat:Int)]:=by unfold d9w;rw[range_succ,List.map_append];rfl
def c4y(d:aQ):∀l:O Int,(l.flatMap (e6z d)).length<=6*l.length|[]=>by simp|c::l=>by have:=c4y d l;have h:=f4v d c;grind
set_option maxHeartbeats 1000000 in
def f5u (d:aQ)(s:A4)(g:d13 s)(b:O Int)(z:b.length <= 1000):d9 FU (a6a s) (d,b,0)=some (b++(d9w s s.size).flatMap (e6z d)):=by
 have:=b9s (f:=a6a s) (λ e=> ∃i:Nat,e=(d,b++(d9w s i).flatMap (e6z d),(i:Int)) /\ i <= s.size) (λ e=>s.size-e.2.2.toNat) (λ r=>r=b++(d9w s s.size).flatMap (e6z d))
  (s:=(d,b,0)) ⟨0,by simp [d9w],Nat.zero_le _⟩ (by dsimp only;have:=g.1;omega) ?_
 ·obtain ⟨r,j,p⟩:=this;rw [j,p]
 ·rintro e u ⟨i,rfl,v⟩
  have l:=g.1
  have a:(b++(d9w s i).flatMap (e6z d)).length <= 2000:=by
   have:=c4y d (d9w s i)
   have w:(d9w s i).length=i:=by simp [d9w]
   rw [qL];omega
  unfold a6a
  dsimp only
  by_cases h:i<s.size
  ·right
   obtain ⟨j,_⟩:=g.2 i h
   rw [if_pos (by simpa using h),j,qA,a5g (by omega)]
   refine ⟨(d,b++(d9w s (i+1)).flatMap (e6z d),((i+1:Nat):Int)),?_,⟨i+1,rfl,h⟩,by simp only [Int.toNat_natCast];omega⟩
   rw [f2o,List.flatMap_append,<- qQ]
   generalize b++(d9w s i).flatMap (e6z d)=q at a⊢
   generalize ((s.get! i).toNat:Int)=c
   simp only [List.flatMap_cons,flatMap_nil,List.append_nil]
   have n: ∀x,g7 q x 1=some (q++b46 x 1):=λ x=>d2d q x 1 (by omega) (by omega)
   have m: ∀x,g7 q x 2=some (q++b46 x 2):=λ x=>d2d q x 2 (by omega) (by omega)
   have k: ∀x,g7 q x 4=some (q++b46 x 4):=λ x=>d2d q x 4 (by omega) (by omega)
   have o: ∀x,g7 q x 3=some (q++b46 x 3):=λ x=>d2d q x 3 (by omega) (by omega)
   have t: ∀x y,g7 (q++b46 x 3) y 3=some (q++(b46 x 3++b46 y 3)):=λ x y=>by
    rw [<- qQ];exact d2d _ y 3 (by omega) (by rw [qL,b2u];omega)
   unfold e6z
   simp only [n,m,o,k,t,qA,beq_iff_eq]
   repeat' split
   all_goals first | rfl | simp
  ·left
   have:i=s.size:=by omega
   subst this
   rw [if_neg (by simp)]
   exact ⟨_,rfl,rfl⟩
def e4n:d13 b1y:=⟨by decide,by decide⟩
def d7g:d13 a6w:=⟨by decide,by decide⟩
def g5j:d13 c0p:=⟨by decide,by decide⟩
def e47:d13 a9l:=⟨by decide,by decide⟩
def f8e:d13 b82:=⟨by decide,by decide⟩
def g42:d13 c1r:=⟨by decide,by decide⟩
def g6d:d13 c0e:=⟨by decide,by decide⟩
def g92:d13 c6f:=⟨by decide,by decide⟩
def e2s{k:Int}(a:1<=k)(b:k<=14):∃s,b2r k=some s/\u4 k=some s/\d13 s:=by
 have:k=1\/k=2\/k=3\/k=4\/k=5\/k=6\/k=7\/k=8\/k=9\/k=10\/k=11\/k=12\/k=13\/k=14:=by omega
 rcases this with rfl|rfl|rfl|rfl|rfl|rfl|rfl|rfl|rfl|rfl|rfl|rfl|rfl|rfl;exact⟨b1y,rfl,rfl,e4n⟩;exact⟨a6w,rfl,rfl,d7g⟩;exact⟨a6w,rfl,rfl,d7g⟩;exact⟨c0p,rfl,rfl,g5j⟩;exact⟨a9l,rfl,rfl,e47⟩;exact⟨b82,rfl,rfl,f8e⟩;exact⟨a9l,rfl,rfl,e47⟩;exact⟨a9l,rfl,rfl,e47⟩;exact⟨a9l,rfl,rfl,e47⟩;exact⟨c1r,rfl,rfl,g42⟩;exact⟨c0e,rfl,rfl,g6d⟩;exact⟨c0e,rfl,rfl,g6d⟩;exact⟨c0e,rfl,rfl,g6d⟩;exact⟨c6f,rfl,rfl,g92⟩
def d39{d:aQ}(h:vld d=true):1<=d.Kind/\d.Kind<=14:=by
 by_cases c:1<=d.Kind/\d.Kind<=14;.omega
 .have a:=b52 d;unfold m8 at a;simp only[y3,qA,((d4q (k:=d.Kind) (by omega)).2)]at a;simp_all
def f3s(d:aQ):O Int:=[if d.Withdrawn=true then(1:Int)else 0,d.Person,d.Kind].flatMap (λn=>b46 n 1)++((d9w ((b2r d.Kind).getD a3j) ((b2r d.Kind).getD a3j).size).flatMap (e6z d))
def d5g(d:aQ):O Int:=b46 d.Issuer 1++(b46 d.Number 2++(b46 d.Version 1++f3s d))
def d8k(d:aQ)(h:vld d=true):a5z d=some (d5g d):=by
 let ⟨o,p⟩:=d39 h;let ⟨s,r,t,m⟩:=e2s o p;have a:∀x,a65 (d,x)=some (b46 d.Issuer 1++(b46 d.Number 2++(b46 d.Version 1++([x,d.Person,d.Kind].flatMap (λn=>b46 n 1)++(d9w s s.size).flatMap (e6z d))))):=by intro x;unfold a65;have B:=λb n k v q=>d2d b n k v q;have i:=B [] d.Issuer 1 (by omega) (by simp);have f:=B ([]++b46 d.Issuer 1) d.Number 2 (by omega) (by simp[b2u]);have g:=B ([]++b46 d.Issuer 1++b46 d.Number 2) d.Version 1 (by omega) (by simp[b2u]);have j:=B ([]++b46 d.Issuer 1++b46 d.Number 2++b46 d.Version 1) x 1 (by omega) (by simp[b2u]);have c:=B ([]++b46 d.Issuer 1++b46 d.Number 2++b46 d.Version 1++b46 x 1) d.Person 1 (by omega) (by simp[b2u]);have e:=B ([]++b46 d.Issuer 1++b46 d.Number 2++b46 d.Version 1++b46 x 1++b46 d.Person 1) d.Kind 1 (by omega) (by simp[b2u]);have u:((1:Nat):Int)=1:=rfl;have l:((2:Nat):Int)=2:=rfl;rw[u]at i g j c e;rw[l]at f;rw[i,qA,f,qA,g,qA,j,qA,c,qA,e,qA,t,qA,f5u d s m _ (by simp[b2u])];simp
 unfold a5z d5g f3s;rw[b52,h,qA,if_neg (by simp),r];cases w:d.Withdrawn;.rw[if_neg (by simp)];rw[b7k,a];simp
 .rw[b7k,a];simp
def e21(p x y:O UInt8):Op.bytesLess (p++x) (p++y)=Op.bytesLess x y:=by induction p with|nil=>rfl|cons a p b=>show(decide _||(a==a&&Op.bytesLess _ _))=_;simp_all
def b3n(x y:O Int):Lib.bytesOf (x++y)=Lib.bytesOf x++Lib.bytesOf y:=by unfold Lib.bytesOf;simp
def c8v(l:O Int):(c6i l).toList=Lib.bytesOf l:=by unfold c6i;simp_all
def b9w{d:aQ}(h:vld d=true):(0<=d.Issuer/\d.Issuer<=5)/\(1<=d.Number/\d.Number<=999)/\1<=d.Version/\d.Version<=99/\1<=d.Person/\d.Person<=99:=by
 have a:=b52 d;let ⟨s,e,b,_⟩:=e2s (d39 h).1 (d39 h).2;unfold m8 at a;simp only[y3,qA,b]at a;by_cases c:(((((((decide (d.Issuer<0)||decide (6<=d.Issuer))||decide (d.Number<1))||decide (999<d.Number))||decide (d.Version<1))||decide (99<d.Version))||decide (d.Person<1))||decide (99<d.Person))=true;.simp_all
 .simp at c;omega
def e26{v:Int}(a:1<=v)(b:v<=99):b46 v 1=[v]:=by
 unfold b46 b46 c8u;have e:IntKind.u8.wrap (v.fdiv (2^(min (8*0:Int).toNat IntKind.i64.bits)))=v:=by
  have:(2^(min (8*0:Int).toNat IntKind.i64.bits):Int)=1:=by decide
  rw[this,Int.fdiv_one,IntKind.wrap_u8];omega
 simp_all
def d5u(a b:aQ):Bool:=Op.bytesLess (Lib.bytesOf (d5g a)) (Lib.bytesOf (d5g b))
def f7s{a b:aQ}(d:vld a=true)(e:vld b=true)(l:a.Issuer=b.Issuer)(f:a.Number=b.Number):b0f a b=some (d5u a b):=by
 have h:=(b9w d).2.2;have g:=(b9w e).2.2;unfold b0f a4v;rw[b52,b52,d,e];simp only[qA,qU,qM,if_false];rw[if_neg (by grind),f,Int.sub_self,qA,if_neg (by decide)];have c:d5u a b=Op.bytesLess (Lib.bytesOf (b46 a.Version 1++f3s a)) (Lib.bytesOf (b46 b.Version 1++f3s b)):=by unfold d5u d5g;rw[l,f,b3n,b3n,b3n (b46 b.Issuer 1),b3n (b46 _ 2),e21,e21]
 by_cases n:a.Version=b.Version;.rw[if_neg (by grind),d8k a d,qA,d8k b e,qA,c8v,c8v];simp[d5u]
 .rw[if_pos (by simp_all),c,e26 h.1 h.2.1,e26 g.1 g.2.1];congr 1;show _=Op.bytesLess (a.Version.toNat.toUInt8::_) (b.Version.toNat.toUInt8::_);unfold Op.bytesLess;have k:(a.Version.toNat.toUInt8).toNat=a.Version.toNat:=by rw[UInt8.toNat_ofNat'];omega
  have m:(b.Version.toNat.toUInt8).toNat=b.Version.toNat:=by rw[UInt8.toNat_ofNat'];omega
  have i:(a.Version.toNat.toUInt8==b.Version.toNat.toUInt8)=false:=by grind
  rw[i];have j:(a.Version.toNat.toUInt8<b.Version.toNat.toUInt8)↔a.Version<b.Version:=by rw[UInt8.lt_iff_toNat_lt,k,m];omega
  simp[j]
def c2y(a b:aQ):Prop:=a.Issuer<b.Issuer\/(a.Issuer=b.Issuer/\a.Number<b.Number)
instance(a b:aQ):Decidable (c2y a b):=by unfold c2y;exact inferInstance
def c4o:O aQ->aQ->O aQ|[],f=>[f]|a::t,f=>if c2y a f then a::c4o t f else if c2y f a then f::a::t else(if d5u a f=true then f else a)::t
def e3n(f:aQ):∀l,(c4o l f).length<=l.length+1|[]=>Nat.le_refl _|a::t=>by have:=e3n f t;unfold c4o;grind
def d3d{f u:aQ}:∀{l:O aQ},u∈c4o l f->u∈l\/u=f
 |[],h=>by rw[c4o]at h;simp_all|a::t,h=>by
   unfold c4o at h;split at h
   .rcases qO.1 h with h|h;.simp_all
    .exact(d3d h).imp (qJ _) id
   grind
def d1g{a b c:aQ}(d:c2y a b)(e:c2y b c):c2y a c:=by unfold c2y at*;omega
def e28{f:aQ}:∀{l:O aQ},l.Pairwise c2y->(c4o l f).Pairwise c2y
 |[],_=>pairwise_singleton _ _|a::t,h=>by
   let ⟨d,c⟩:=List.pairwise_cons.1 h;unfold c4o;split;.refine List.pairwise_cons.2 ⟨λu b=>?_,e28 c⟩;rcases d3d b with h|h;all_goals simp_all
   .split
    .rename_i g;refine List.pairwise_cons.2 ⟨λu b=>?_,h⟩;rcases qO.1 b with h|h;.simp_all
     .exact d1g g (d u h)
    .refine List.pairwise_cons.2 ⟨λu b=>?_,c⟩;have:=d u b;split;.unfold c2y at*;omega
     omega
def d4c{f:aQ}{q:O aQ}:∀{p:O aQ},(∀u∈p,c2y u f)->c4o (p++q) f=p++c4o q f|[],_=>rfl|a::p,h=>by rw[List.cons_append,List.cons_append,<-d4c  λu c=>h u (qJ _ c)];show(if c2y a f then _ else _)=_;simp_all
def g5b{f:aQ}{q:O aQ}(h:∀u∈q,c2y f u):c4o q f=f::q:=by cases q with|nil=>rfl|cons a t=>have:=h a (qI ..);unfold c4o;rw[if_neg (by unfold c2y at*;omega),if_pos this]
def g6b{f a:aQ}{q:O aQ}(b:a.Issuer=f.Issuer)(c:a.Number=f.Number):c4o (a::q) f=(if d5u a f=true then f else a)::q:=by unfold c4o;rw[if_neg (by unfold c2y;omega),if_neg (by unfold c2y;omega)]
def e16(l:O aQ):O aQ:=(l.filter vld).foldl c4o []
def d2h:∀(l out:O aQ),(∀u∈l,vld u=true)->(∀u∈out,vld u=true)->out.Pairwise c2y->(∀u∈l.foldl c4o out,vld u=true)/\(l.foldl c4o out).Pairwise c2y/\(l.foldl c4o out).length<=out.length+l.length|[],out,_,a,b=>⟨a,b,by simp⟩|f::l,out,d,a,b=>by have:=d2h l _ (λu c=>d u (qJ _ c)) (λu c=>(d3d c).elim (a u) (λe=>e▸d f (qI ..))) (e28 b);have h:=e3n f out;grind
def e9u(l:O aQ):(∀u∈e16 l,vld u=true)/\(e16 l).Pairwise c2y/\(e16 l).length<=l.length:=by have:=d2h (l.filter vld) [] (λu a=>(List.mem_filter.1 a).2) (λu h=>(by grind)) .nil;refine⟨this.1,this.2.1,?_⟩;have b:=length_filter_le vld l;simp [qS]at this;unfold e16;omega
def e8t(l:O aQ)(y:aQ):e16 (l++[y])=if vld y=true then c4o (e16 l) y else e16 l:=by unfold e16;grind
def h2y{a b:aQ}(d:vld a=true)(e:vld b=true):∃c,a4v a b=some c/\(0<c↔c2y b a)/\(c=0↔a.Issuer=b.Issuer/\a.Number=b.Number):=by
 have f:=b9w d;have g:=b9w e;unfold a4v;by_cases h:a.Issuer=b.Issuer
 .rw[if_neg (by grind),e9 (by omega) (by omega)];refine⟨_,rfl,?_,?_⟩;.unfold c2y;omega
  omega
 .rw[if_pos (by simp_all),e9 (by omega) (by omega)];refine⟨_,rfl,?_,?_⟩;.unfold c2y;omega
  omega
set_option maxHeartbeats 1000000 in
def insR (A F x:O aQ)(i:Int)(a:((O aQ)×Int) -> A3 (O aQ))(v:aQ)(I:vld v=true)(N: ∀u∈x,vld u=true)(T:x.Pairwise c2y)(W:x.length <= 2^20):
  d9 FU (a5t a (A,F,x,i,v)) (x,v,(x.length:Int))=a (c4o x v,i64 (i+1)):=by
 refine c4u (f:=a5t a (A,F,x,i,v)) (λ w=> ∃k:Nat,w=(x,v,(k:Int)) /\ k <= x.length /\ ∀u∈x.drop k,c2y v u) (λ w=>w.2.2.toNat) (λ o=>o=a (c4o x v,i64 (i+1))) ⟨x.length,rfl,Nat.le_refl _,by simp⟩ (by simp only [Int.toNat_natCast];omega) ?_
 rintro w G ⟨k,rfl,V,E⟩
 unfold a5t
 dsimp only
 have m:(∀u∈x.take k,c2y u v) -> (Option.bind (a1x x 0 (k:Int)) λ s=>Option.bind (a4n 112 [] s) λ l=>Option.bind (a4n 112 l [v]) λ L=>Option.bind (a1x x (k:Int) (x.length:Int)) λ R=>Option.bind (a4n 112 L R) λ S=>a (S,i64 (i+1)))=a (c4o x v,i64 (i+1)):=by
  intro g
  have Q:(x.drop k).take (x.length-k)=x.drop k:=List.take_of_length_le (by simp)
  have j:c4o x v=x.take k++v::x.drop k:=by
   have:=d4c (p:=x.take k) (q:=x.drop k) g
   rw [List.take_append_drop,g5b E] at this
   exact this
  rw [b26 (by omega) (by omega) (by omega),qA,p6 (by simp;omega),qA,p6 (by simp;omega),qA,b26 (by omega) (by omega) (by omega),qA,p6 (by simp;omega),qA,j]
  simp only [Int.toNat_natCast,List.nil_append,Int.toNat_zero,Nat.sub_zero,List.drop_zero]
  rw [Q]
  simp
 cases k with
 | zero=>
   left
   exact m (by simp)
 | succ k=>
   obtain ⟨y,e⟩: ∃y,x[k]? =some y:=⟨_,qG (by omega)⟩
   have j:i64 (((k+1:Nat):Int)-1)=(k:Int):=by rw [e9 (by omega) (by omega)];omega
   have n:=N y (qE e)
   obtain ⟨c,M,D,K⟩:=h2y n I
   have d: ∀u∈x.take k,c2y u y:=by
    have:=T.sublist (take_sublist (k+1) x)
    rw [a9h e,pairwise_append] at this
    exact λ u b=>this.2.2 u b y (qF.2 rfl)
   rw [if_pos (by simp),if_pos (by simp),j,e7 e]
   simp only [qA]
   rw [M]
   simp only [qA]
   by_cases z:0<c
   ·right
    rw [if_pos (by simpa using z)]
    refine ⟨_,rfl,⟨k,rfl,by omega,λ u b=> ?_⟩,by simp only [Int.toNat_natCast];omega⟩
    rw [d36 e] at b
    rcases qO.1 b with h | h
    ·rw [h];exact D.1 z
    ·exact E u h
   ·left
    rw [if_neg (by simpa using z)]
    by_cases t:c=0
    ·rw [if_pos (by simpa using t)]
     obtain ⟨C,B⟩:=K.1 t
     rw [f7s n I C B,qA]
     have g: ∀u∈x.take k,c2y u v:=λ u b=>by have:=d u b;unfold c2y at *; omega
     have H:x=x.take k++y::x.drop (k+1):=by
      have:=(List.take_append_drop k x).symm
      rwa [d36 e] at this
     have j:=by
      have:=d4c (p:=x.take k) (q:=y::x.drop (k+1)) g
      rw [<- H,g6b C B] at this
      exact this
     cases J:d5u y v with
     | true=>
       rw [if_pos rfl,j,J,if_pos rfl]
       congr 2
       unfold a8h
       rw [if_pos (Int.natCast_nonneg _),Int.toNat_natCast]
       rw [set_eq_take_append_cons_drop,if_pos (by omega)]
     | false=>
       rw [if_neg (by simp),j,J,if_neg (by simp),<- H]
    ·rw [if_neg (by simpa using t)]
     refine m λ u b=> ?_
     have r:c2y y v:=by
      have U: ¬c2y v y:=λ h=>z (D.2 h)
      unfold c2y at *; omega
     rw [a9h e] at b
     rcases qK.1 b with h | h
     ·exact d1g (d u h) r
     ·rw [qF] at h;rw [h];exact r
def d8r(l:O aQ)(e:l.length<=2^20):a6c l []=some (e16 l):=by
 refine a9k  l _ (λs i=>s=e16 (l.take i)) (λo=>o=some _) (by omega) ?_ ?_ [] (by simp[e16]);.rintro b s i y g c rfl;right;refine⟨_,?_,rfl⟩;have a:=e9u (l.take i);rw[List.length_take]at a;unfold a5y;rw[qS,e9 (by omega) (by omega),if_pos (by simp_all),if_pos (by simp_all),e7 c,qA,b7k];unfold a9j;rw[b52,qA,a9h c,e8t];cases d:vld y with|false=>rw[if_pos (by rfl),if_neg (by simp),a5g (by omega)]|true=>rw[if_neg (by simp),if_pos rfl,insR _ _ _ _ _ _ d a.1 a.2.1 (by omega),a5g (by omega)]
 .rintro b s rfl;unfold a5y;rw[qS,e9 (by omega) (by omega),if_neg (by simp),List.take_length]
end Go.PL
namespace Go.PL
open Go Go.Sort
def InS(l:O Span)(x:Int):Prop:=∃s∈l,s.From<=x/\x<s.To
def d0f{x:Int}:¬InS [] x:=by rintro⟨s,h,_⟩;grind
def b6n{a b:O Span}{x:Int}:InS (a++b) x↔InS a x\/InS b x:=by
 constructor
 .rintro⟨s,h,c⟩;rcases qK.1 h with h|h;.exact .inl ⟨s,h,c⟩
  .exact .inr ⟨s,h,c⟩
 .rintro(⟨s,h,c⟩|⟨s,h,c⟩);.exact⟨s,List.mem_append_left _ h,c⟩
  .exact⟨s,List.mem_append_right _ h,c⟩
def b9k{s:Span}{x:Int}:InS [s] x↔s.From<=x/\x<s.To:=by
 constructor;.rintro⟨t,h,a⟩;simp_all
 .intro h;exact⟨s,qF.2 rfl,h⟩
def c7i{s:Span}{b:O Span}{x:Int}:InS (s::b) x↔(s.From<=x/\x<s.To)\/InS b x:=by have:=@b6n [s] b x;rw[b9k]at this;simp_all
def f6z{a b:O Span}(h:a.Perm b){x:Int}:InS a x↔InS b x:=by
 constructor;.rintro⟨s,c,d⟩;exact⟨s,h.mem_iff.1 c,d⟩
 .rintro⟨s,c,d⟩;exact⟨s,h.mem_iff.2 c,d⟩
def Nrm(l:O Span):Prop:=(∀s∈l,0<=s.From/\s.From<s.To/\s.To<=73049)/\l.Pairwise (λa b=>a.To<b.From)
def d9x:Nrm []:=⟨λ_ h=>(by grind),List.Pairwise.nil⟩
def b9y{a:O Span}{s:Span}:Nrm (a++[s])↔Nrm a/\(∀t∈a,t.To<s.From)/\0<=s.From/\s.From<s.To/\s.To<=73049:=by
 unfold Nrm;rw[pairwise_append];constructor;.rintro⟨d,c,f,e⟩;exact⟨⟨λt b=>d t (List.mem_append_left _ b),c⟩,λt b=>e t b s (qF.2 rfl),d s (List.mem_append_right _ (qF.2 rfl))⟩
 .rintro⟨⟨d,c⟩,f,e⟩;refine⟨λt b=>?_,c,pairwise_singleton _ _,λt b u g=>?_⟩;.rcases qK.1 b with h|h;all_goals simp_all
  simp_all
def d4p{a:O Span}{s:Span}:Nrm (s::a)↔Nrm a/\(∀t∈a,s.To<t.From)/\0<=s.From/\s.From<s.To/\s.To<=73049:=by
 unfold Nrm;constructor;.simp_all
 simp_all
def l1t:∀{a b:O Span},Nrm a->Nrm b->(∀x,InS a x↔InS b x)->a=b
 |[],[],_,_,_=>rfl|[],s::b,_,p,h=>by have:=(d4p.1 p).2.2;exact absurd ((h s.From).2 (c7i.2 (.inl ⟨Int.le_refl _,this.2.1⟩))) d0f|s::a,[],l,_,h=>by have:=(d4p.1 l).2.2;exact absurd ((h s.From).1 (c7i.2 (.inl ⟨Int.le_refl _,this.2.1⟩))) d0f|s::a,t::b,l,p,h=>by
   obtain⟨n,i,o⟩:=d4p.1 l;obtain⟨k,g,m⟩:=d4p.1 p;have d:∀{c:O Span}{u:Span},(∀t∈c,u.To<t.From)->∀{x},InS c x->u.To<x:=by rintro c u w x⟨v,y,e⟩;have:=w v y;omega
   have z:t.From<=s.From:=by
    rcases c7i.1 ((h s.From).1 (c7i.2 (.inl ⟨Int.le_refl _,o.2.1⟩)))with e|e;.omega
    .have:=d g e;omega
   have A:s.From<=t.From:=by
    rcases c7i.1 ((h t.From).2 (c7i.2 (.inl ⟨Int.le_refl _,m.2.1⟩)))with e|e;.omega
    .have:=d i e;omega
   have B:¬s.To<t.To:=by
    intro e;rcases c7i.1 ((h s.To).2 (c7i.2 (.inl ⟨by omega,e⟩)))with f|f;.omega
    .have:=d i f;omega
   have C:¬t.To<s.To:=by
    intro e;rcases c7i.1 ((h t.To).1 (c7i.2 (.inl ⟨by omega,e⟩)))with f|f;.omega
    .have:=d g f;omega
   have r:s=t:=by cases s;cases t;simp only[Span.mk.injEq]at*;omega
   congr 1;refine l1t n k λx=>?_;constructor;.intro j;have:=d i j;rcases c7i.1 ((h x).1 (c7i.2 (.inr j)))with f|f;all_goals omega
   .intro j;have:=d g j;rcases c7i.1 ((h x).2 (c7i.2 (.inr j)))with f|f;all_goals omega
def c3n{l:O Span}(h:Nrm l):l.length<=73049:=by
 have d:∀(l:O _),Nrm l->∀s∈l.getLast?,(l.length)<=s.To:=by
  intro l;have:∀(r:O _),Nrm r.reverse->∀s∈r.head?,(r.length)<=s.To:=by intro r;induction r with|nil=>simp_all|cons u r j=>intro c s e;rw[reverse_cons]at c;let ⟨g,f,i⟩:=b9y.1 c;cases r with|nil=>grind|cons v r=>have b:=f v (by simp);grind
  intro c s e;have:=this l.reverse (by simp_all) s (by simp_all);simp_all
 rcases h1f l with rfl|⟨a,t,rfl⟩;.simp_all
 .have a:=d _ h t (by simp);have b:=(b9y.1 h).2.2;omega
def g7w:SWO (λx y:Span=>decide (x.From<y.From)):=by constructor;all_goals grind
def e7s(l:O Span)(h:l.length<4611686018427387904):∃r,b3w l=some r/\r.Perm l/\r.Pairwise (λa b=>a.From<=b.From):=by
 unfold b3w f0f;by_cases g:l.length<=1;.match l,g with|[],_=>simp_all|[x],_=>simp_all
 .rw[if_neg g,if_pos h];have c:=pdq_sorts _ g7w l.toArray 0 _ (Lib.bitLen l.toArray.size) true true (Nat.zero_le _) (Nat.le_refl _) (Or.inl rfl);rw[List.size_toArray]at c;generalize pdq _ l.toArray 0 _ _ _ _=d at c⊢;let ⟨⟨v,t,q⟩,n⟩:=c;have e:d.size=l.length:=by omega
  have p:d.extract 0 l.length=d:=by rw[<-e];simp
  have o:l.toArray.extract 0 l.length=l.toArray:=by simp
  rw[p,o]at q;refine⟨d.toList,rfl,by omega,?_⟩;rw[pairwise_iff_getElem];intro i j u s f;have:=n i j (Nat.zero_le _) f (by grind);simp [decide_eq_false_iff_not]at this;rw[getElem!_pos d j _,getElem!_pos d i _]at this;simp [Array.getElem_toList];omega
set_option maxHeartbeats 1000000 in
def e6o (l:O Span)(M:l.length <= 2^40)(E:l.Pairwise (λ a b=>a.From <= b.From))(I: ∀s∈l,0 <= s.From /\ s.From<s.To /\ s.To <= 73049)(Q:A3 (O Span) -> Prop)
  (J: ∀r,Nrm r -> (∀x,InS r x↔InS l x) -> r.length <= l.length -> Q (some r)):Q (d9 FU (b2e l) ([],l,0)):=by
 refine a9k (f:=b2e l) l (λ s i=>(s,l,i)) (λ s i=>Nrm s /\ (∀x,InS s x↔InS (l.take i) x) /\ s.length <= i /\ ∀t∈s,∃u∈l.take i,u.From=t.From) Q (by omega) ?_ ?_ [] ⟨d9x,λ x=>by simp,Nat.le_refl _,λ t h=>by cases h⟩
 ·rintro C s i y G w ⟨z,k,j,A⟩
  right
  have B:y∈l:=qE w
  have p:=I y B
  unfold b2e
  dsimp only
  rw [if_pos (by simp;omega),e7 w,qA,qA,a5g (by omega),a9h w]
  have q: ∀u∈l.take i,u.From <= y.From:=by
   intro u d
   have o:=qG G
   rw [w] at o
   rw [((List.take_append_drop i l).symm),pairwise_append] at E
   refine E.2.2 u d y ?_
   rw [qH o,List.drop_eq_getElem_cons G];exact qI ..
  rcases h1f s with rfl | ⟨a,t,rfl⟩
  ·simp only [qS,Int.natCast_zero,Int.lt_irrefl,decide_false,qM,if_false,qA]
   rw [p6 (by simp),qA]
   refine ⟨[y],rfl,?_,λ x=> ?_,by simp,?_⟩
   ·have:=b9y (a:=[]) (s:=y);simp only [List.nil_append] at this;rw [this];exact ⟨d9x,λ t h=>(by cases h),p⟩
   ·have:=k x
    rw [b6n,<- this];simp [d0f]
   ·intro t F;rw [qF] at F;subst F;exact ⟨t,by simp,rfl⟩
  ·obtain ⟨K,D,N⟩:=b9y.1 z
   have g:a.length<2^62:=by rw [qL] at j;simp at j;omega
   have L:t.From <= y.From:=by
    obtain ⟨u,d,m⟩:=A t (by simp)
    have:=q u d;omega
   rw [if_pos (by rw [qL];simp),d3s a t g,qA,qA,qA]
   by_cases H:y.From <= t.To
   ·rw [if_pos (by simpa using H),qA,qA,qA,qA,d3y a t _ g]
    refine ⟨a++[(⟨t.From,max t.To y.To⟩:Span)],rfl,?_,λ x=> ?_,by simp at j ⊢; omega,?_⟩
    ·rw [b9y];exact ⟨K,D,by dsimp only;omega,by dsimp only;omega,by dsimp only;omega⟩
    ·have:=k x
     rw [b6n,b9k] at this
     rw [b6n,b6n,<- this,b9k,b9k]
     dsimp only
     by_cases n:InS a x
     ·simp [n]
     ·simp only [n,false_or];omega
    ·intro v c
     rcases qK.1 c with c | c
     ·obtain ⟨u,d,m⟩:=A v (List.mem_append_left _ c);exact ⟨u,List.mem_append_left _ d,m⟩
     ·rw [qF] at c;subst c
      obtain ⟨u,d,m⟩:=A t (by simp);exact ⟨u,List.mem_append_left _ d,m⟩
   ·rw [if_neg (by simpa using H),p6 (by simp at j ⊢; omega),qA]
    refine ⟨a++[t]++[y],rfl,?_,λ x=> ?_,by simp at j ⊢; omega,?_⟩
    ·rw [b9y]
     refine ⟨z,λ v c=> ?_,p⟩
     rcases qK.1 c with c | c
     ·have:=D v c;omega
     ·rw [qF] at c;subst c;omega
    ·have:=k x
     rw [b6n (a:=a++[t]),b6n (a:=l.take i),this]
    ·intro v c
     rcases qK.1 c with c | c
     ·obtain ⟨u,d,m⟩:=A v c;exact ⟨u,List.mem_append_left _ d,m⟩
     ·rw [qF] at c;subst c
      exact ⟨v,by simp,rfl⟩
 ·rintro C s ⟨z,k,j,_⟩
  rw [List.take_length] at k
  unfold b2e
  dsimp only
  rw [if_neg (by simp)]
  exact J s z k j
set_option maxHeartbeats 1000000 in
def c1p (d:O Span)(A:d.length <= 2^40): ∃r,a2w d=some r /\ Nrm r /\ (∀x,InS r x↔InS d x /\ 0 <= x /\ x<73049) /\ r.length <= d.length:=by
 refine a9k  d (λ s i=>(s,[],i)) (λ s i=>(∀u∈s,0 <= u.From /\ u.From<u.To /\ u.To <= 73049) /\ (∀x,InS s x↔InS (d.take i) x /\ 0 <= x /\ x<73049) /\ s.length <= i)
  (λ o=> ∃r,o=some r /\ Nrm r /\ (∀x,InS r x↔InS d x /\ 0 <= x /\ x<73049) /\ r.length <= d.length) (by omega) ?_ ?_ [] ⟨λ u h=>(by cases h),λ x=>by simp [d0f],Nat.le_refl _⟩
 ·rintro n s i y B p ⟨l,k,z⟩
  right
  unfold b5z c3q
  rw [if_pos (by simp;omega),e7 p,qA,a5g (by omega),qA,a9h p]
  by_cases t:max y.From 0<min y.To 73049
  ·rw [if_pos (by simpa using t),p6 (by simp;omega),qA]
   refine ⟨s++[(⟨max y.From 0,min y.To 73049⟩:Span)],rfl,λ u j=> ?_,λ x=> ?_,by simp;omega⟩
   ·rcases qK.1 j with j | j
    ·exact l u j
    ·rw [qF] at j;subst j;dsimp only;omega
   ·rw [b6n,b6n,k x,b9k,b9k]
    by_cases g:InS (d.take i) x
    ·simp only [g,true_and,true_or];omega
    ·simp only [g,false_and,false_or];omega
  ·rw [if_neg (by simpa using t)]
   refine ⟨s,rfl,l,λ x=> ?_,by omega⟩
   rw [b6n,k x,b9k]
   by_cases g:InS (d.take i) x
   ·simp only [g,true_and,true_or]
   ·simp only [g,false_and,false_or]
    refine ⟨λ h=>h.elim,λ h=> ?_⟩
    omega
 ·rintro n s ⟨l,k,z⟩
  rw [List.take_length] at k
  unfold b5z
  rw [if_neg (by simp)]
  obtain ⟨q,e,m,v⟩:=e7s s (by omega)
  rw [e,qA]
  have w:=m.length_eq
  refine e6o q (by omega) v (λ u j=>l u (m.mem_iff.1 j)) (λ o=> ∃r,o=some r /\ Nrm r /\ (∀x,InS r x↔InS d x /\ 0 <= x /\ x<73049) /\ r.length <= d.length) λ r a b c=>⟨r,rfl,a,λ x=> ?_,by omega⟩
  rw [b x,f6z m,k x]
def e20{l:O Span}(h:Nrm l)(i:Nat):Nrm (l.drop i):=⟨λs a=>h.1 s (mem_of_mem_drop a),h.2.sublist (drop_sublist i l)⟩
def d6x{l:O Span}{s:Span}(h:Nrm (s::l)){x:Int}(b:InS l x):s.To<x:=by let ⟨v,a,c⟩:=b;have:=(d4p.1 h).2.1 v a;omega
set_option maxHeartbeats 2000000 in
def d0q (a b:O Span)(ha:a.length <= 2^40)(hb:b.length <= 2^40):
  ∃r,b2g a b=some r /\ Nrm r /\ ∀x,InS r x↔InS a x /\ InS b x /\ 0 <= x /\ x<73049:=by
 obtain ⟨z,hz,nz,mz,lz⟩:=c1p a ha
 obtain ⟨w,hw,nw,Z,lw⟩:=c1p b hb
 unfold b2g
 rw [hz,qA,hw,qA]
 refine b9s (f:=b2h)
  (λ A=> ∃(x:O Span)(i j:Nat),A=(z,w,x,(i:Int),(j:Int)) /\ i <= z.length /\ j <= w.length /\ Nrm x /\ (∀d,InS x d -> InS z d /\ InS w d) /\ (∀d,InS z d -> InS w d -> InS x d \/ (InS (z.drop i) d /\ InS (w.drop j) d)) /\
   (∀t∈x,∀e∈z.drop i,∀c∈w.drop j,t.To<max e.From c.From) /\ x.length <= i+j)
  (λ A=>z.length+w.length-A.2.2.2.1.toNat-A.2.2.2.2.toNat) _ ⟨[],0,0,rfl,Nat.zero_le _,Nat.zero_le _,d9x,λ d h=>absurd h d0f,λ d l k=> .inr (by simpa using ⟨l,k⟩),λ t h=>(by cases h),Nat.zero_le _⟩ (by dsimp only;omega) ?_
 rintro A F ⟨x,i,j,rfl,hi,hj,n,W,M,R,hl⟩
 unfold b2h
 dsimp only
 rw [o4,qA]
 by_cases hc:i<z.length /\ j<w.length
 ·right
  obtain ⟨y,T⟩:=hc
  rw [if_pos (by simp;omega)]
  obtain ⟨e,Q⟩: ∃e,z[i]? =some e:=⟨_,qG y⟩
  obtain ⟨c,G⟩: ∃c,w[j]? =some c:=⟨_,qG T⟩
  have L:=d36 Q
  have H:=d36 G
  have v:Nrm (e::z.drop (i+1)):=L▸e20 nz i
  have C:Nrm (c::w.drop (j+1)):=H▸e20 nw j
  rw [L,H] at M R
  have i1:InS z=InS z:=rfl
  have z1: ∀d,e.From <= d /\ d<e.To -> InS z d:=λ d h=>⟨e,qE Q,h⟩
  have z2: ∀d,c.From <= d /\ d<c.To -> InS w d:=λ d h=>⟨c,qE G,h⟩
  have b1:=(d4p.1 v).2
  have b2:=(d4p.1 C).2
  have s: ∀p:O Span,Nrm p -> (∀d,InS p d↔InS x d \/ ((e.From <= d /\ d<e.To) /\ (c.From <= d /\ d<c.To))) -> (∀t∈p,t∈x \/ t.To=min e.To c.To) -> p.length <= i+j+1 ->
    ∃J,Go.SX.joinC (a92 F) (z,w,p,(i:Int),(j:Int))=F J /\ (∃(x:O Span)(i j:Nat),J=(z,w,x,(i:Int),(j:Int)) /\ i <= z.length /\ j <= w.length /\ Nrm x /\ (∀d,InS x d -> InS z d /\ InS w d) /\ (∀d,InS z d -> InS w d -> InS x d \/ (InS (z.drop i) d /\ InS (w.drop j) d)) /\
     (∀t∈x,∀e∈z.drop i,∀c∈w.drop j,t.To<max e.From c.From) /\ x.length <= i+j) /\ z.length+w.length-J.2.2.2.1.toNat-J.2.2.2.2.toNat<z.length+w.length-(i:Int).toNat-(j:Int).toNat:=by
   intro p X D V q3
   rw [b7k];unfold a92;dsimp only
   simp only [e7 Q,e7 G,qA]
   rw [a5g (by omega),a5g (by omega)]
   have U: ∀d,InS p d -> InS z d /\ InS w d:=by
    intro d hd
    rcases (D d).1 hd with h | h
    ·exact W d h
    ·exact ⟨z1 d h.1,z2 d h.2⟩
   by_cases B:e.To<c.To
   ·rw [if_pos (by simpa using B)]
    refine ⟨_,rfl,⟨p,i+1,j,rfl,by omega,by omega,X,U,λ d l k=> ?_,λ t q P o N m=> ?_,by omega⟩,by simp only [Int.toNat_natCast];omega⟩
    ·rcases M d l k with h | ⟨h,K⟩
     ·exact .inl ((D d).2 (.inl h))
     ·rcases c7i.1 h with g | g
      ·rcases c7i.1 K with u | u
       ·exact .inl ((D d).2 (.inr ⟨g,u⟩))
       ·have:=d6x C u;omega
      ·right;rw [H];exact ⟨g,K⟩
    ·rw [H] at m
     rcases V t q with h | h
     ·exact R t h P (qJ _ o) N m
     ·have:=b1.1 P o;omega
   ·rw [if_neg (by simpa using B)]
    refine ⟨_,rfl,⟨p,i,j+1,rfl,by omega,by omega,X,U,λ d l k=> ?_,λ t q P o N m=> ?_,by omega⟩,by simp only [Int.toNat_natCast];omega⟩
    ·rcases M d l k with h | ⟨h,K⟩
     ·exact .inl ((D d).2 (.inl h))
     ·rcases c7i.1 K with u | u
      ·rcases c7i.1 h with g | g
       ·exact .inl ((D d).2 (.inr ⟨g,u⟩))
       ·have:=d6x v g;omega
      ·right;rw [L];exact ⟨h,u⟩
    ·rw [L] at o
     rcases V t q with h | h
     ·exact R t h P o N (qJ _ m)
     ·have:=b2.1 N m;omega
  simp only [e7 Q,e7 G,qA]
  by_cases Y:max e.From c.From<min e.To c.To
  ·rw [if_pos (by simpa using Y),p6 (by simp;omega),qA]
   refine s _ (b9y.2 ⟨n,λ t q=>R t q e (qI ..) c (qI ..),by dsimp only;omega,by dsimp only;omega,by dsimp only;omega⟩) (λ d=> ?_) (λ t q=> ?_) (by simp;omega)
   ·rw [b6n,b9k];dsimp only
    by_cases E:InS x d
    ·simp [E]
    ·simp only [E,false_or];omega
   ·rcases qK.1 q with h | h
    ·exact .inl h
    ·rw [qF] at h;subst h;exact .inr rfl
  ·rw [if_neg (by simpa using Y)]
   refine s _ n (λ d=> ?_) (λ t q=> .inl q) (by omega)
   by_cases E:InS x d
   ·simp [E]
   ·simp only [E,false_or]
    refine ⟨λ h=>h.elim,λ h=> ?_⟩
    omega
 ·left
  rw [if_neg (by simp;omega)]
  refine ⟨x,rfl,n,λ d=> ?_⟩
  have:InS x d↔InS z d /\ InS w d:=by
   refine ⟨W d,λ h=> ?_⟩
   rcases M d h.1 h.2 with h | ⟨l,k⟩
   ·exact h
   ·exfalso
    by_cases y:i<z.length
    ·rw [List.drop_eq_nil_of_le (by omega)] at k;exact d0f k
    ·rw [List.drop_eq_nil_of_le (by omega)] at l;exact d0f l
  rw [this,mz,Z]
  constructor
  ·rintro ⟨⟨l,k,I⟩,S,_⟩;exact ⟨l,S,k,I⟩
  ·rintro ⟨l,S,k,I⟩;exact ⟨⟨l,k,I⟩,S,k,I⟩
def c95(a:O Span)(s:Span)(b:a.length<=2^40):∃r,s6 a s=some r/\Nrm r/\∀x,InS r x↔InS a x/\(s.From<=x/\x<s.To)/\0<=x/\x<73049:=by let ⟨r,e,d,c⟩:=d0q a [s] b (by simp);refine⟨r,by unfold s6;simp_all,d,λx=>?_⟩;rw[c,b9k]
def inB(l:O Span)(x:Int):Bool:=l.any λs=>decide (s.From<=x)&&decide (x<s.To)
end Go.PL
namespace Go.PL
open Go Go.SX
def c03(l:O Span)(d:Int)(c:l.length<=2^30):a8r l d=some ((decide (0<=d)&&decide (d<=73048))&&inB l d):=by
 unfold a8r;rw[y3];let ⟨n,h,g⟩:=c5d (f:=o5 l d) l (λs=>decide (s.From<=d)&&decide (d<s.To)) c (λa i y b=>by unfold o5 b5c;rw[if_pos (o6 ((qD.1 b).1))];simp only[e7 b,qA,o4]) λa=>by unfold o5;simp_all
 have e:(decide (d<0)||decide (d>=73049))=!(decide (0<=d)&&decide (d<=73048)):=by grind
 rw[e];cases k:(decide (0<=d)&&decide (d<=73048));.rfl
 .unfold s8 y4;rw[h,qA,qA,g];rfl
def h3z{x:Int}(a:0<=x):c8u .u64 x 32=x/4294967296:=Int.fdiv_eq_ediv_of_nonneg _ (by decide)
def g84{x n:Int}(b:0<=x):0<=c8u .u64 x n/\c8u .u64 x n<=x:=by unfold c8u;have a:(0:Int)<2^(min n.toNat IntKind.u64.bits):=Int.pow_pos (by decide);rw[Int.fdiv_eq_ediv_of_nonneg _ (Int.le_of_lt a)];exact⟨Int.ediv_nonneg b (Int.le_of_lt a),Int.ediv_le_self _ b⟩
def c5u{k:IntKind}{x n:Int}(h:0<=n):d0l k x n=some (c8u k x n):=by unfold d0l;simp_all
def e1w{k:IntKind}{x n:Int}(h:0<=n):g2a k x n=some (e70 k x n):=by unfold g2a;simp_all
def g53{x n:Int}{j:Nat}(b:0<=x)(hn:n=(j:Int))(c:j<=64):c8u .u64 x n=x/(2^j:Int):=by
 unfold c8u;have a:min ((j:Int).toNat) IntKind.u64.bits=j:=by simp [Int.toNat_natCast,IntKind.bits];omega
 grind
def g3r{x n:Int}{j:Nat}(hn:n=(j:Int))(b:j<=64):e70 .u64 x n=u64 (x*2^j):=by
 subst hn;unfold e70;have a:min ((j:Int).toNat) IntKind.u64.bits=j:=by simp [Int.toNat_natCast,IntKind.bits];omega
 rw[a];rfl
def f6s:(List.range 256).all (λk=>(b3c b3u (k:Int))==some ((if k=0then 0 else Nat.log2 k+1:Nat):Int))=true:=by kernel_rfl
def g4q{k:Nat}(a:k<256):b3c b3u (k:Int)=some ((if k=0then 0 else Nat.log2 k+1:Nat):Int):=by have:=qX.1 f6s k (List.mem_range.2 a);simp_all
def f5x{k:Nat}(b:0<k)(a:k<256):∃z:Nat,b3c b3u (k:Int)=some (z:Int)/\1<=z/\z<=8/\2^(z-1)<=k/\k<2^z:=by
 refine⟨Nat.log2 k+1,?_,by omega,?_,?_,Nat.lt_log2_self⟩;.rw[g4q a,if_neg (by omega)]
 .have:Nat.log2 k<8:=(Nat.log2_lt (by omega)).2 a;omega
 .exact Nat.log2_self_le (by omega)
def f3q{x:Nat}(t:0<x)(m:x<18446744073709551616):∃z:Nat,b8x (x:Int)=some (z:Int)/\1<=z/\z<=64/\2^(z-1)<=x/\x<2^z:=by
 have k:∀(y j:Nat),j<=64->d0l .u64 (y:Int) (j:Int)=some ((y/2^j:Nat):Int):=by intro y j u;rw[c5u (by omega),g53 (Int.natCast_nonneg y) rfl u];simp
 have g:∀(y j z:Nat),1<=z->2^(z-1)<=y/2^j->y/2^j<2^z->2^(j+z-1)<=y/\y<2^(j+z):=by
  intro y j z c m w;have A:2^(j+z-1)=2^(z-1)*2^j:=by rw[<-Nat.pow_add];congr 1;omega
  have s:2^(j+z)=2^z*2^j:=by rw[<-Nat.pow_add,Nat.add_comm]
  have l:0<2^j:=Nat.pos_of_ne_zero (by simp);exact⟨by rw[A];exact(Nat.le_div_iff_mul_le l).1 m,by rw[s];exact(Nat.div_lt_iff_lt_mul l).1 w⟩
 have q:∀(y n:Nat),0<y->y<256->n<=56->∃z:Nat,(Option.bind (b3c b3u (IntKind.u8.wrap (y:Int))) λv=>some (i64 ((n:Int)+i64 v)))=some ((n+z:Nat):Int)/\1<=z/\z<=8/\2^(z-1)<=y/\y<2^z:=by
  intro y n e i p;obtain⟨z,c,b,f,a,d⟩:=f5x e i;refine⟨z,?_,b,f,a,d⟩;have:(IntKind.u8.wrap) (y:Int)=(y:Int):=by rw[IntKind.wrap_u8];omega
  rw[this,c,qA,e9 (n:=(z:Int)) (by omega) (by omega),e9 (by omega) (by omega)];rfl
 have r:∀(y n:Nat),0<y->y<65536->n<=48->∃z:Nat,b62 ((y:Int),(n:Int))=some ((n+z:Nat):Int)/\1<=z/\z<=16/\2^(z-1)<=y/\y<2^z:=by
  intro y n e i p;unfold b62;by_cases h:256<=y;.rw[if_pos (by simp;omega),show(8:Int)=((8:Nat):Int)from rfl,k y 8 (by decide),qA,e9 (n:=(n:Int)+((8:Nat):Int)) (by omega) (by omega)];obtain⟨z,c,b,f,a,d⟩:=q (y/2^8) (n+8) (by omega) (by omega) (by omega);have:=g y 8 z b a d;refine⟨8+z,?_,by omega,by omega,this.1,this.2⟩;rw[show((n:Int)+((8:Nat):Int))=((n+8:Nat):Int)by simp,c];congr 2;omega
  .rw[if_neg (by simp;omega)];obtain⟨z,c,b,f,a,d⟩:=q y n e (by omega) (by omega);exact⟨z,c,b,by omega,a,d⟩
 have o:∀(y n:Nat),0<y->y<4294967296->n<=32->∃z:Nat,b65 ((y:Int),(n:Int))=some ((n+z:Nat):Int)/\1<=z/\z<=32/\2^(z-1)<=y/\y<2^z:=by
  intro y n e i p;unfold b65;simp only[b7k];by_cases h:65536<=y;.rw[if_pos (by simp;omega),show(16:Int)=((16:Nat):Int)from rfl,k y 16 (by decide),qA,e9 (n:=(n:Int)+((16:Nat):Int)) (by omega) (by omega)];obtain⟨z,c,b,f,a,d⟩:=r (y/2^16) (n+16) (by omega) (by omega) (by omega);have:=g y 16 z b a d;refine⟨16+z,?_,by omega,by omega,this.1,this.2⟩;rw[show((n:Int)+((16:Nat):Int))=((n+16:Nat):Int)by simp,c];congr 2;omega
  .rw[if_neg (by simp;omega)];obtain⟨z,c,b,f,a,d⟩:=r y n e (by omega) (by omega);exact⟨z,c,b,by omega,a,d⟩
 unfold b8x;simp only[b7k];by_cases h:4294967296<=x;.rw[if_pos (by simp;omega),show(32:Int)=((32:Nat):Int)from rfl,k x 32 (by decide),qA];obtain⟨z,c,b,f,a,d⟩:=o (x/2^32) 32 (by omega) (by omega) (by omega);have:=g x 32 z b a d;exact⟨32+z,c,by omega,by omega,this.1,this.2⟩
 .rw[if_neg (by simp;omega)];obtain⟨z,c,b,f,a,d⟩:=o x 0 t (by omega) (by omega);exact⟨z,by rw[<-Nat.zero_add z];omega,b,by omega,a,d⟩
def lead{p:Int}(i:0<p)(h:p<18446744073709551616):∃z:Nat,a7n p=some (z:Int)/\z<=63/\9223372036854775808<=p*2^z/\p*2^z<18446744073709551616:=by
 let ⟨z,b,f,g,e,d⟩:=f3q (x:=p.toNat) (by omega) (by omega);have c:((p.toNat))=p:=by omega
 rw[c]at b;refine⟨64-z,?_,by omega,?_,?_⟩;.unfold a7n;rw[b,qA,e9 (by omega) (by omega)];grind
 .have a:2^(z-1)*2^(64-z)<=p.toNat*2^(64-z):=Nat.mul_le_mul_right _ e;rw[<-Nat.pow_add]at a;grind
 .have a:p.toNat*2^(64-z)<2^z*2^(64-z):=Nat.mul_lt_mul_of_pos_right d (Nat.pos_of_ne_zero (by simp));rw[<-Nat.pow_add]at a;grind
def e3h(v:Int×Int×Int×Int×Int×Int)(h:0<=v.2.1):Tot (b5x v) λr=>0<=r.2/\r.2<18446744073709551616:=by unfold b5x;rw[c5u h];have a:=b51 (u64 (u64 (v.2.2.2.2.1*4294967296)+v.2.2.1)-u64 (v.2.2.2.2.2*v.1));have b:=g84 (n:=v.2.1) a.1;exact tC ⟨b.1,by omega⟩
def e8v(a b:Int):0<=orK .u64 a b/\orK .u64 a b<=18446744073709551615:=b51 _
def d6u{A y:Int}(a:0<=A)(j:A<=18446744073709551615)(f:2147483648<=y)(c:y<4294967296):0<=u64 (A-u64 (u64 (A.tdiv y)*y))/\u64 (A-u64 (u64 (A.tdiv y)*y))<4294967296:=by
 have e:0<=A/y:=Int.ediv_nonneg a (by omega);have h:A/y<=A:=Int.ediv_le_self _ a;have k:0<=A/y*y:=Int.mul_nonneg e (by omega);have d:A-A/y*y=A%y:=by rw[Int.mul_comm];exact(Int.emod_def A y).symm
 have i:=Int.emod_nonneg A (by omega:y≠0);have g:=Int.emod_lt_of_pos A (by omega:0<y);rw[(c7w a),b83 (n:=A/y) (by omega) (by omega),b83 (n:=A/y*y) (by omega) (by omega),b83 (by omega) (by omega)];omega
def f7r(v:Int×Int×Int×Int×Int×Int×Int×Int)(d:0<=v.2.1)(e:2147483648<=v.2.2.1)(b:v.2.2.1<4294967296):Tot (b31 v) λr=>0<=r.2/\r.2<18446744073709551616:=by unfold b31;have c:=b51 ((u64 ((u64 (v.2.2.2.2.1*4294967296))+v.2.2.2.2.2.1))-(u64 (v.2.2.2.2.2.2.2*v.1)));rw[if_neg (by omega),qA];let ⟨f,i⟩:=d6u c.1 c.2 e b;refine tO (I:=λs=>0<=s.1/\s.1<4294967296) (μ:=λs=>(4294967296-s.1).toNat) ⟨f,i⟩ (by omega) ?_;rintro j⟨h,k⟩⟨l,m⟩g;unfold c4t;rw[a1z];refine tD (λ_=>tD (λ_=>tJ (e3h _ d)) λa=>?_) λ_=>tJ (e3h _ d);simp [decide_eq_true_eq]at a;rw[b83  (by omega) (by omega)]at a⊢;exact g _ ⟨by omega,by omega⟩ (by omega)
def c4l{d i p:Int}(H:0<=d)(hi:0<=i)(v:i<18446744073709551616)(l:d<p)(j:p<18446744073709551616):Tot (a8o d i p) λr=>0<=r.2/\r.2<18446744073709551616:=by
 unfold a8o;rw[if_neg (by grind)];refine tJ ?_;unfold b9j;rw[if_neg (by simp_all)];refine tJ ?_;unfold b9t;dsimp only;refine tD (λ_=>?_) λF=>?_;.rw[if_neg (by omega),qA];exact tA (a3p hi (by omega)) λ_ h=>tC ⟨h.2.1,by omega⟩
 .obtain⟨z,t,C,k,u⟩:=lead (p:=p) (by omega) j;have A:u64 (z:Int)=(z:Int):=b83 (by omega) (by omega);have c:u64 (64-(z:Int))=((64-z:Nat):Int):=by rw[b83 (by omega) (by omega)];omega
  rw[t,qA,A,c,e1w (by omega),qA,c5u (by decide),qA,e1w (by omega),qA,c5u (by omega),qA,e1w (by omega),qA,c5u (by decide),qA];have m:e70 .u64 p (z:Int)=p*2^z:=by rw[g3r rfl (by omega),b83 (by omega) (by omega)]
  have J:c8u .u64 (p*2^z) 32=p*2^z/4294967296:=h3z (by omega);rw[m];have e:2147483648<=c8u .u64 (p*2^z) 32:=by omega
  have a:c8u .u64 (p*2^z) 32<4294967296:=by omega
  have g:=e8v (e70 .u64 d (z:Int)) (c8u .u64 i ((64-z:Nat):Int));rw[if_neg (by omega),qA];obtain⟨w,B⟩:=d6u g.1 g.2 e a;refine tO (I:=λs:Int×Int=>0<=s.2/\s.2<4294967296) (μ:=λs=>(4294967296-s.2).toNat) ⟨w,B⟩ (by omega) ?_;rintro y⟨G,x⟩⟨E,D⟩o;unfold c4k;rw[a1z,qA];have f:∀q,Tot (b31 (p*2^z,u64 (z:Int),c8u .u64 (p*2^z) 32,d5y .u64 (p*2^z) 4294967295,orK .u64 (e70 .u64 d (z:Int)) (c8u .u64 i ((64-z:Nat):Int)),c8u .u64 (e70 .u64 i (z:Int)) 32,d5y .u64 (e70 .u64 i (z:Int)) 4294967295,q)) _:=λq=>f7r _ (by dsimp only;omega) e a;refine tD (λ_=>tD (λ_=>tJ (f _)) λb=>?_) λ_=>tJ (f _);simp only[decide_eq_true_eq]at b;rw[b83 (n:=x+c8u .u64 (p*2^z) 32) (by omega) (by omega)]at b⊢;exact o _ ⟨by omega,by omega⟩ (by omega)
def U64(x:Int):Prop:=0<=x/\x<=18446744073709551615
def I64(x:Int):Prop:=-9223372036854775808<=x/\x<=9223372036854775807
def a3l{a:Int}(h:I64 a):Tot (j5 a) λr=>U64 r/\(a≠0->0<r):=by
 let ⟨d,c⟩:=h;unfold j5 U64;simp [g2l];refine tD (λb=>tC ?_) λb=>tC ?_;.omega
 omega
def c87{a b:Int}(f:U64 a)(d:U64 b):Tot (a7g a b) λg=>U64 g/\(0<a+b->0<g):=by
 unfold a7g lpC;refine tO (I:=λv=>U64 v.1/\U64 v.2/\(0<a+b->0<v.1+v.2)) (μ:=λv=>v.2.toNat) ⟨f,d,id⟩ (by have:=d.2;omega) ?_;rintro r⟨x,y⟩⟨e,i,l⟩j;unfold U64 at*;refine tD (λc=>?_) λc=>tC ⟨e,λh=>?_⟩
 .have m:=by simpa using c
  refine tA (a3p e.1 (by omega)) λz k=>?_;exact j _ ⟨i,⟨k.2.1,by omega⟩,λh=>(by omega)⟩ (by omega)
 .simp at c;omega
def FOK(f:fQ):Prop:=1<=f.Den/\f.Den<=1000000000/\-1000000000000000<=f.Num/\f.Num<=1000000000000000
def FOK.i{f:fQ}(h:FOK f):I64 f.Num/\I64 f.Den/\f.Den≠0:=by unfold FOK I64 at*;omega
def b2t(f:fQ):Tot (o7 f) λb=>b=true->FOK f:=by
 unfold o7;simp only[a7h,qA,o4];by_cases h:FOK f;.let ⟨d,e,j⟩:=h.i;rw[if_pos (by unfold FOK at h;simp_all)];refine tA (Q:=λ_=>True) (tA (a3l d) λa c=>tA (a3l e) λb i=>tA (c87 c.1 i.1) λg _=>tC trivial) λb _=>tC λ_=>h
 .rw[if_neg (by unfold FOK at h;grind)];exact tC λh=>by grind
def c5x(a:Bool)(b c:rational_wide):Tot (a70 a b c) λ_=>True:=by unfold a70;simp only[y3,qA];exact tD (λ_=>tC trivial) λ_=>tD (λ_=>tC trivial) λ_=>tC trivial
def g0a{a b:Int}(c:0<b):(if b=0then none else some (u64 (Int.tdiv a b)))=some (u64 (Int.tdiv a b)):=if_neg (by omega)
def e6c(x:Int):U64 (u64 x):=b51 x
def d7p{a d:Int}(f:I64 a)(j:I64 d):Tot (b32 a d) λ_=>True:=by
 refine tD (λ_=>tC trivial) λl=>?_;have l:d≠0:=by simp_all
 refine tA (a3l f) λx e=>tA (a3l j) λy h=>tA (c87 e.1 h.1) λg k=>?_;have i:=e.1.1;have c:=k.2 (by omega);refine tA (Q:=λ_=>True) (tD (λ_=>tC trivial) λ_=>tC trivial) λb _=>?_;rw[g0a c,qA,g0a c,qA];exact tA (c5x _ _ _) λ_ _=>tC trivial
def WW(w:rational_wide):Prop:=U64 w.hi/\U64 w.lo
def c3x(a b:Int):Tot (b3s a b) λr=>U64 r.1/\U64 r.2:=tC ⟨e6c _,e6c _⟩
def b8l(a b:Int):Tot (a4g a b) WW:=tA (c3x a b) λr h=>tC h
def d3r(a b:rational_wide):Tot (a3u a b) λ_=>True:=by unfold a3u;simp only[o4,a1z,qA];exact tC trivial
def f4i{a b:rational_wide}(c:WW a)(d:WW b):Tot (a98 a b) WW:=by unfold WW U64 at*;unfold a98 c23 g7y;rw[if_pos (by omega),qA];rw[if_pos (by omega)];exact tC ⟨by grind,by grind⟩
def d7w{a b:rational_wide}(c:WW a)(d:WW b):Tot (a4w a b) WW:=by unfold WW U64 at*;unfold a4w c1u g8x;rw[if_pos (by omega),qA];rw[if_pos (by omega)];exact tC ⟨by grind,by grind⟩
def f0p{h l d:Int}(c:U64 h)(f:U64 l)(g:U64 d)(b:0<d):Tot (c25 h l d) U64:=by unfold U64 at*;refine tA (a3p c.1 b) λz a=>tA (c4l a.2.1 f.1 (by omega) a.2.2.1 (by omega)) λq e=>tC ⟨e.1,by omega⟩
def e8g{w:rational_wide}{d:Int}(a:WW w)(e:U64 d)(b:0<d):Tot (a8z w d) λ_=>True:=by unfold WW U64 at*;unfold a8z;rw[g0a b,qA];refine tA (a3p a.1.1 b) λz c=>tA (c4l c.2.1 a.2.1 (by omega) c.2.2.1 (by omega)) λq f=>tC trivial
def d3c(v:fQ×fQ×fQ×rational_wide×Bool)(k:FOK v.1)(i:FOK v.2.1)(b:WW v.2.2.2.1):Tot (a9g v) λ_=>True:=by unfold a9g j5;unfold FOK at k i;rw[if_neg (by grind),if_neg (by grind)];refine tD (λ_=>tC trivial) λ_=>?_;rw[b83 (n:=v.1.Den) (by omega) (by omega),b83 (n:=v.2.1.Den) (by omega) (by omega)];have f:0<v.1.Den*v.2.1.Den:=Int.mul_pos (by omega) (by omega);have m:v.1.Den*v.2.1.Den<=1000000000*1000000000:=Int.mul_le_mul (by omega) (by omega) (by omega) (by omega);rw[b83  (by omega) (by omega)];generalize v.1.Den*v.2.1.Den=p at*;have c:U64 p:=⟨by omega,by omega⟩;refine tA (f0p b.1 b.2 c f) λz e=>tA (c87 c e) λg d=>?_;have l:=e.1;have a:=d.2 (by omega);refine tA (e8g b d.1 a) λw _=>?_;rw[g0a a,qA];exact tA (c5x _ _ _) λ_ _=>tC trivial
def f5v(a b:fQ):Tot (Option.bind (o7 a) λf=>(if(!f)=true then some true else Option.bind (o7 b) λc=>some (!c))) λr=>r=false->FOK a/\FOK b:=by refine tA (b2t a) λx e=>tD (λ_=>tC λh=>by grind) λh=>tA (b2t b) λy d=>tC λg=>⟨e (by simp_all),d (by simp_all)⟩
def f1j(a b:fQ):Tot (b4q a b) λ_=>True:=by unfold b4q;rw[b73];refine tA (f5v a b) λc p=>tD (λ_=>tC trivial) λh=>?_;let ⟨e,f⟩:=p (by simp_all);let ⟨r,k,v⟩:=e.i;let ⟨j,m,t⟩:=f.i;refine tA (a3l r) λo _=>tA (a3l m) λq _=>tA (b8l o q) λw g=>tA (a3l j) λn _=>tA (a3l k) λl _=>tA (b8l n l) λu i=>?_;refine tD (λ_=>tA (f4i g i) λs d=>tJ (d3c _ e f d)) λ_=>tA (d3r _ _) λ_ _=>tD (λ_=>tA (d7w i g) λs d=>tJ (d3c _ e f d)) λ_=>tA (d7w g i) λs d=>tJ (d3c _ e f d)
def f1i(a:fQ):Tot (b4p a) λ_=>True:=tA (b2t a) λ_ _=>tD (λ_=>tC trivial) λ_=>tC trivial
def g4i(a b:fQ):Tot (b7d a b) λ_=>True:=tA (f1i b) λ_ _=>tD (λ_=>tC trivial) λ_=>tA (f1j _ _) λ_ _=>tC trivial
def c6m(n:Bool){a b c d:Int}(o:U64 a)(i:U64 b)(k:U64 c)(l:U64 d)(q:0<a+d)(p:0<c+b):Tot (a73 n a b c d) λ_=>True:=by refine tA (c87 o l) λg m=>tA (c87 k i) λh j=>?_;have f:=m.2 q;have e:=j.2 p;rw[g0a f,qA,g0a e,qA];refine tA (b8l _ _) λ_ _=>?_;rw[g0a e,qA,g0a f,qA];exact tA (b8l _ _) λ_ _=>tA (c5x _ _ _) λ_ _=>tC trivial
def g31(a b:fQ):Tot (b7j a b) λ_=>True:=by unfold b7j;rw[b73];refine tA (f5v a b) λc n=>tD (λ_=>tC trivial) λh=>?_;let ⟨f,g⟩:=n (by simp_all);let ⟨o,k,u⟩:=f.i;let ⟨i,m,t⟩:=g.i;simp [a7h,y3,qA];refine tA (a3l o) λs d=>tA (a3l k) λr j=>tA (a3l i) λp e=>tA (a3l m) λq l=>?_;have:=d.1.1;have:=e.1.1;exact tA (c6m _ d.1 j.1 e.1 l.1 (by omega) (by omega)) λ_ _=>tC trivial
def g4a(a b:fQ):Tot (b7o a b) λ_=>True:=by unfold b7o;rw[b73];refine tA (f5v a b) λc m=>tD (λ_=>tC trivial) λh=>tD (λ_=>tC trivial) λr=>?_;let ⟨f,g⟩:=m (by simp_all);let ⟨o,k,v⟩:=f.i;let ⟨i,j,u⟩:=g.i;simp [a7h,y3,qA];refine tA (a3l o) λt d=>tA (a3l k) λs l=>tA (a3l j) λp n=>tA (a3l i) λq e=>?_;have:=e.2 (by simp_all);have:=d.1.1;exact tA (c6m _ d.1 l.1 n.1 e.1 (by omega) (by omega)) λ_ _=>tC trivial
def g2q(v:rational_wide×rational_wide):Tot (a83 v) λ_=>True:=tA (d3r _ _) λ_ _=>tD (λ_=>tC trivial) λ_=>tA (d3r _ _) λ_ _=>tD (λ_=>tC trivial) λ_=>tC trivial
def c8o(a b:fQ):Tot (a8g a b) λ_=>True:=by unfold a8g;rw[b73];refine tA (f5v a b) λc i=>tD (λ_=>tC trivial) λh=>tD (λ_=>tD (λ_=>tC trivial) λ_=>tC trivial) λ_=>?_;let ⟨d,f⟩:=i (by simp_all);let ⟨k,j,m⟩:=d.i;let ⟨g,e,l⟩:=f.i;exact tA (a3l k) λ_ _=>tA (a3l e) λ_ _=>tA (b8l _ _) λ_ _=>tA (a3l g) λ_ _=>tA (a3l j) λ_ _=>tA (b8l _ _) λ_ _=>tD (λ_=>tJ (g2q _)) λ_=>tJ (g2q _)
def e89(a:fQ):Tot (b4e a) λ_=>True:=by refine tA (b2t a) λx c=>tD (λ_=>tC trivial) λh=>?_;let ⟨_,_,b⟩:=(c (by simp_all)).i;exact tA (b7s b) λ_ _=>tA (b4f b) λ_ _=>tD (λ_=>tC trivial) λ_=>tC trivial
def q_nn{a b:Int}(d:0<=a)(f:a<=4611686018427387904)(c:0<b):c2t a b=some (a/b):=by let ⟨r,e,h,_⟩:=a7t d (by omega) c;grind
def g4m{a b:Int}(d:0<=a)(c:0<b):b8t a b=some (a%b):=by let ⟨r,e,h,_⟩:=a3p d c;grind
def c6s(y a:Int):Int:=if a=2then(if(y%4=0/\y%100≠0)\/y%400=0then 29 else 28)else if a=4\/a=6\/a=9\/a=11then 30 else 31
def d2e(y a:Int):28<=c6s y a/\c6s y a<=31:=by unfold c6s;omega
def b2z{y a:Int}(b:0<=y/\y<=100000)(f:1<=a/\a<=12):a05 y a=some (c6s y a):=by
 unfold a05 a7l c6s;simp only[g4m b.1 (by decide:(0:Int)<4),g4m b.1 (by decide:(0:Int)<100),g4m b.1 (by decide:(0:Int)<400),qA,o4,y3];by_cases c:a=2
 .subst c;by_cases d:(y%4=0/\y%100≠0)\/y%400=0;.simp_all
  .rw[if_neg d,if_neg (by simp_all)];rfl
 .have e:a=1\/a=3\/a=4\/a=5\/a=6\/a=7\/a=8\/a=9\/a=10\/a=11\/a=12:=by omega
  rcases e with h|h|h|h|h|h|h|h|h|h|h<;>subst h<;>rfl
def d4z(a:Int):Tot (a90 a) λr=>0<=r/\r<=31:=by unfold a90 b1k;simp only[a7h,qA];refine tD (λ_=>tC (by omega)) λh=>?_;simp at h;rw[q_nn h.1 (by omega) (by omega),qA,g4m h.1 (by omega),qA,e9  (by omega) (by omega),e9  (by omega) (by omega),b2z (by omega) (by omega)];have:=d2e (1900+a/12) (a%12+1);exact tC (by omega)
def d6y(a:Int):Tot (b9g a) λ_=>True:=tA (d4z a) λ_ _=>tC trivial
def orT{b:Bool}{o:A3 Bool}(h:Tot o λ_=>True):Tot (if b=true then some true else o) λ_=>True:=tD (λ_=>tC trivial) λ_=>h
def e4o{o:A3 Bool}{Q:Bool->Prop}(h:Tot o Q):Tot (Option.bind o λv=>some (!v)) λ_=>True:=tA h λ_ _=>tC trivial
def b8a(t:O Rate):Tot (a5r t) λr=>r=0->t.length<=40:=by
 refine tD (λ_=>tC λh=>by omega) λa=>?_;simp at a;refine tO (I:=λv:Int=>0<=v/\v<=(t.length)) (μ:=λv=>((t.length)-v).toNat) ⟨by omega,by omega⟩ (by omega) ?_;rintro r v⟨b,f⟩e;refine tD (λc=>?_) λ_=>tC λ_=>(by omega);simp at c;refine tA (c6 b c) λx _=>?_;unfold a8n b9l;simp only[a7h,qA];refine tA (orT (e4o (d6y _))) λ_ _=>tA (orT (e4o (b2t _))) λ_ _=>tA (orT (tC trivial)) λ_ _=>tA (orT (tC trivial)) λ_ _=>tD (λ_=>tC λ_=>(by omega)) λ_=>?_;refine tA (Q:=λ_=>True) (tD (λd=>?_) λ_=>tC trivial) λ_ _=>tD (λ_=>tC λ_=>(by omega)) λ_=>?_;.simp at d;rw[e9  (by omega) (by omega)];refine tA (c6 (by omega) (by omega)) λy _=>tA  (tD (λ_=>tC trivial) λ_=>tA (c6 (by omega) (by omega)) λz _=>tA (Q:=λ_=>True) (tD (λ_=>tA (c6 (by omega) (by omega)) λ_ _=>tC trivial) λ_=>tC trivial) λ_ _=>tC trivial) λ_ _=>tC trivial
 .rw[a42 b (by omega)];exact e _ ⟨by omega,by omega⟩ (by omega)
def d9a(r:Rounding):Tot (a2y r) λb=>b=true->1<=r.Unit/\r.Unit<=100000:=by
 have j:∀b,Tot (a1c (r,b)) λb=>b=true->1<=r.Unit/\r.Unit<=100000:=λb=>by unfold a1c;simp [a7h,qA];exact tC λh=>(by simp_all)
 exact tD (λ_=>tJ (j _)) λ_=>tD (λ_=>tJ (j _)) λ_=>tD (λ_=>tJ (j _)) λ_=>tJ (j _)
def c1v(n:Bool){hi lo:Int}(d:Int)(r:Rounding)(j:U64 hi)(l:U64 lo)(i:r.Unit≠0):Tot (a9o n hi lo d r) λ_=>True:=by
 have g:∀k,Tot (b2f (r,k)) λ_=>True:=λk=>tA (b7s i) λ_ _=>tA (orT (tA (b7s i) λ_ _=>tC trivial)) λ_ _=>tD (λ_=>tC trivial) λ_=>tC trivial
 have e:∀k b,Tot (a7a (r,k,b)) _:=λk b=>tD (λ_=>tJ (g _)) λ_=>tJ (g _)
 have f:∀a b c,Tot (a9e (r,a,b,c)) _:=λa b c=>tD (λ_=>tJ (e _ _)) λ_=>tD (λ_=>tJ (e _ _)) λ_=>tD (λ_=>tA (orT (tA (Q:=λ_=>True) (tD (λ_=>tA (b4f (by decide)) λ_ _=>tC trivial) λ_=>tC trivial) λ_ _=>tC trivial)) λ_ _=>tJ (e _ _)) λ_=>tJ (e _ _)
 have m:=e6c (d*u64 r.Unit);unfold U64 at*;refine tD (λ_=>tC trivial) λh=>?_;simp at h;exact tA (c4l j.1 l.1 (by omega) h (by omega)) λ_ _=>tD (λ_=>tC trivial) λ_=>tD (λ_=>tD (λ_=>tJ (f _ _ _)) λ_=>tJ (f _ _ _)) λ_=>tJ (f _ _ _)
def c3w(x:Int):Tot (b3x x) U64:=tD (λ_=>tC (e6c _)) λ_=>tC (e6c _)
def f2v(f:fQ)(r:Rounding):Tot (b9q f r) λ_=>True:=by refine tA (b2t f) λx e=>tA (Q:=λb=>b=false->1<=r.Unit) (tD (λ_=>tC λh=>by grind) λ_=>tA (d9a r) λy c=>tC λh=>(c (by simp_all)).1) λb d=>tD (λ_=>tC trivial) λh=>?_;have:=d (by simp_all);exact tA (c3w _) λs a=>tA (c1v _ _ _ ⟨by omega,by omega⟩ a (by omega)) λ_ _=>tC trivial
def d6o(t:O Rate)(c m:Int)(k:t.length<=40):Tot (b6m t c m) λ_=>True:=by
 unfold b6m lpC;refine tO (I:=λv=>0<=v.2.2/\v.2.2<=(t.length:Int)/\-1<=v.2.1/\v.2.1<v.2.2) (μ:=λv=>((t.length:Int)-v.2.2).toNat) ⟨by simp_all,by simp_all,Int.le_refl _,by simp_all⟩ (by grind) ?_;rintro r⟨f,b,v⟩⟨d,j,g,i⟩e;dsimp only at d j g i⊢;refine tD (λa=>?_) λa=>tD (λ_=>tC trivial) λh=>?_
 .simp at a;refine tA (c6 d a) λx _=>?_;simp only[o4,qA];refine tA  (tD (λ_=>tA (Q:=λ_=>True) (tD (λ_=>tC trivial) λh=>?_) λ_ _=>tC trivial) λ_=>tC trivial) λ_ _=>?_;.simp at h;exact tA (c6 h (by omega)) λ_ _=>tC trivial
  .rw[a42 d (by omega)];exact tD (λ_=>e _ ⟨by dsimp only;omega,by dsimp only;omega,by dsimp only;omega,by dsimp only;omega⟩ (by dsimp only;omega)) λ_=>e _ ⟨by dsimp only;omega,by dsimp only;omega,by omega,by dsimp only;omega⟩ (by dsimp only;omega)
 .simp at h;exact tA (c6 h (by omega)) λ_ _=>tC trivial
def e1v(y:Int):Prop:=(y%4=0/\y%100≠0)\/y%400=0
instance(y:Int):Decidable (e1v y):=by unfold e1v;exact inferInstance
def f0m{y:Int}(a:0<=y/\y<=100000):a7l y=some (decide (e1v y)):=by unfold a7l e1v;rw[g4m a.1 (by omega),g4m a.1 (by omega),g4m a.1 (by omega)];simp only[qA,o4,y3];congr 1;rw[Bool.eq_iff_iff];simp;exact⟨λh=>decide_eq_true h,of_decide_eq_true⟩
def g8k(y:Int):c6s y 2=if e1v y then 29 else 28:=by unfold c6s e1v;rw[if_pos rfl]
def e6b{y:Int}(a:0<=y/\y<=100000):a7i y=some (337+c6s y 2):=by unfold a7i;rw[f0m a,g8k];by_cases h:e1v y<;>simp[h]
def c50{y:Int}(b:1900<=y/\y<=2200):Tot (a3o y) λr=>365*(y-1900)<=r/\r<=366*(y-1900):=by unfold a3o;rw[e9  (by omega) (by omega),e9 (n:=365*(y-1900)) (by omega) (by omega)];refine tD (λh=>?_) λh=>tC (by omega);simp at h;rw[e9  (by omega) (by omega)];refine tA (a7t (by omega) (by omega) (by omega)) λq a=>tC ?_;rw[e9 (by omega) (by omega)];omega
def h1v(f m d:Int):Prop:=(m=1/\d<337+f)\/(m=2/\d<306+f)\/(m=3/\d<306)\/(m=4/\d<275)\/(m=5/\d<245)\/(m=6/\d<214)\/(m=7/\d<184)\/(m=8/\d<153)\/(m=9/\d<122)\/(m=10/\d<92)\/(m=11/\d<61)\/(m=12/\d<31)
def g4e(y:Int):c6s y 1=31/\c6s y 3=31/\c6s y 4=30/\c6s y 5=31/\c6s y 6=30/\c6s y 7=31/\c6s y 8=31/\c6s y 9=30/\c6s y 10=31/\c6s y 11=30/\c6s y 12=31:=by unfold c6s;simp
def c2d(a:Int):Tot (a4d a) λr=>(0<=r.1/\r.1<=2100)/\(r.2.2.2=true->(1900<=r.1/\r.1<=2100)/\(1<=r.2.1/\r.2.1<=12)/\r.2.2.1<=c6s r.1 r.2.1):=by
 unfold a4d m7;simp only[a7h,qA];refine tD (λ_=>tC ⟨by decide,λh=>by cases h⟩) λh=>?_;simp at h;refine tA (a7t h.1 (by omega) (by omega)) λq K=>?_;have p:q<=199:=by omega
 rw[e9 (n:=1900+q) (by omega) (by omega)];unfold lpC;refine tO (I:=λv:Int=>1900<=v/\v<=2100) (μ:=λv=>(2200-v).toNat) ⟨by omega,by omega⟩ (by show(2200-(1900+q)).toNat<_;omega) ?_;rintro r y⟨w,t⟩u;obtain⟨s,x,P⟩:=c50 (y:=y) (by omega);have G:28<=c6s y 2/\c6s y 2<=29:=by rw[g8k];split<;>omega
 rw[x,qA,e6b (by omega),qA,e9 (n:=s+(337+c6s y 2)) (by omega) (by omega)];refine tD (λf=>?_) λf=>?_;.simp at f;rw[a42 (by omega) (by omega)];exact u _ ⟨by omega,by omega⟩ (by omega)
 .simp at f;rw[qA,e9 (n:=a-s) (by omega) (by omega)];obtain⟨L,B,M,J,H,F,A,N,z,j,l⟩:=g4e y;refine tO (I:=λv:Int×Int=>h1v (c6s y 2) v.1 v.2/\-100000<=v.2) (μ:=λv=>(13-v.1).toNat) ⟨.inl ⟨rfl,by dsimp only;omega⟩,by dsimp only;omega⟩ (by show(13-1:Int).toNat<_;omega) ?_;rintro E⟨m,d⟩⟨b,o⟩g;dsimp only at b o⊢;have i:1<=m/\m<=12:=by unfold h1v at b;omega
  have C:d<=366:=by unfold h1v at b;omega
  have D:=d2e y m;rw[b2z (by omega) i,qA];refine tD (λc=>?_) λc=>?_;.simp at c;rw[qA,a42 (by omega) (by omega),e9 (n:=d-c6s y m) (by omega) (by omega)];refine g _ ⟨?_,by dsimp only;omega⟩ (by dsimp only;omega);dsimp only;unfold h1v at b⊢;rcases b with⟨e,k⟩|⟨e,k⟩|⟨e,k⟩|⟨e,k⟩|⟨e,k⟩|⟨e,k⟩|⟨e,k⟩|⟨e,k⟩|⟨e,k⟩|⟨e,k⟩|⟨e,k⟩|⟨e,k⟩<;>subst e<;>omega
  .simp at c;refine tC ⟨by dsimp only;omega,λ_=>⟨⟨w,t⟩,i,?_⟩⟩;dsimp only;rw[e9 (by omega) (by omega)];omega
def e1r(y m d:Int):Tot (b1r y m d) λ_=>True:=by
 unfold b1r lpC;simp only[a1z,y3,qA];by_cases g:1900<=y/\y<=2099/\1<=m/\m<=12
 .refine tA (Q:=λ_=>True) (tD (λ_=>tC trivial) λ_=>?_) λ_ _=>tD (λ_=>tC trivial) λ_=>?_;.rw[b2z (by omega) (by omega)];exact tC trivial
  .refine tA (c50 (by omega)) λs _=>?_;refine tO (I:=λv=>1<=v.2/\v.2<=12) (μ:=λv=>(13-v.2).toNat) ⟨Int.le_refl _,by omega⟩ (by omega) ?_;rintro r⟨a,k⟩⟨b,c⟩f;refine tD (λe=>?_) λ_=>tC trivial;simp at e;rw[b2z (by omega) (by omega),a42 (by omega) (by omega)];exact f _ ⟨by omega,by omega⟩ (by omega)
 .rw[if_pos (by simp;omega)];exact tC trivial
def d8b(a n:Int):Tot (b03 a n) λ_=>True:=by
 have j:∀a b c,Tot (a6q (a,b,c)) λ_=>True:=λa b c=>tA (e1r _ _ _) λ_ _=>tC trivial
 refine tA (c2d a) λr d=>?_;simp [a1z,y3,qA];refine tD (λ_=>tC trivial) λh=>?_;simp at h;have e:=by have:=h.2;rw[e9 (by omega) (by omega)]at this;omega
 refine tA (Q:=λ_=>True) (tD (λ_=>tC trivial) λ_=>tC trivial) λb _=>?_;refine tA (Q:=λ_=>True) (tD (λ_=>?_) λ_=>tC trivial) λ_ _=>tD (λ_=>tJ (j _ _ _)) λ_=>tJ (j _ _ _);rw[e9  (by omega) (by omega),f0m (by omega)];exact tC trivial
def g4s(a b:Int):Tot (b7r a b) λ_=>True:=by unfold b7r m7;simp [a7h,a1z,y3,qA];exact tD (λ_=>tC trivial) λ_=>tA (c2d a) λ_ _=>tA (c2d b) λ_ _=>tA (d8b _ _) λ_ _=>tD (λ_=>tC trivial) λ_=>tC trivial
def d9v(x a b m:Int)(t:O Rate)(r:Rounding)(e:r.Unit≠0)(d:t.length<=40):Tot (b68 x a b m t r) λ_=>True:=by
 unfold b68 c17 a8n;simp only[a7h,a1z,y3,qA];refine tA (orT (e4o (d6y _))) λ_ _=>tA (orT (e4o (d9a _))) λ_ _=>tA (orT (tA (b8a t) λ_ _=>tC trivial)) λ_ _=>tD (λ_=>tC trivial) λ_=>tD (λ_=>?_) λ_=>?_;.exact tA (c3w _) λs f=>tA (c1v _ _ _ ⟨by omega,by omega⟩ f e) λ_ _=>tC trivial
 .exact tA (d6o t _ _ d) λ_ _=>tA (d6o t _ _ d) λ_ _=>tD (λ_=>tC trivial) λ_=>tA (c3w _) λs _=>tA (c3x _ _) λq c=>tA (c1v _ _ _ c.1 c.2 e) λ_ _=>tC trivial
def e9s(f:fQ)(n d:Int)(r:Rounding):Tot (b97 f n d r) λ_=>True:=by unfold b97;simp [a1z,y3,qA];refine tA (b2t f) λx g=>tA (Q:=λb=>b=false->1<=r.Unit) (tD (λ_=>tC λh=>by grind) λ_=>tA (d9a r) λy e=>tC λh=>(e (by simp_all)).1) λb c=>tD (λ_=>tC trivial) λh=>?_;have:=c (by simp_all);exact tA (c3w _) λs _=>tA (c3x _ _) λq a=>tA (c1v _ _ _ a.1 a.2 (by omega)) λ_ _=>tC trivial
def tH{σ ρ S n:Type}{f:(σ->A3 ρ)->σ->A3 ρ}{Q:ρ->Prop}(l:O n)(e:S->Int->σ)(I:S->Nat->Prop)(t:l.length<=2^40)(b:∀a s(i:Nat)y,i<l.length->l[i]?=Option.some y->I s i->(∀c,I c (i+1)->Tot (a (e c (i64 ((i:Int)+1)))) Q)->Tot (f a (e s (i:Int))) Q)(j:∀a s,I s l.length->Tot (f a (e s (l.length:Int))) Q)(s:S)(p:I s 0):Tot (d9 FU f (e s 0)) Q:=by
 have g:∀(k:Nat)(s:S)(i:Nat),i<=l.length->I s i->l.length-i<k->Tot (d9 k f (e s (i))) Q:=by intro k;induction k with|zero=>omega|succ k o=>
    intro s i r m q;by_cases h:i<l.length;.exact b _ s i _ h (qG h) m λc d=>by rw[a5g (by omega)];exact o c _ (by omega) d (by omega)
    .have:i=l.length:=by omega
     subst this;exact j _ s m
 exact g FU s 0 (Nat.zero_le _) p (by unfold FU;omega)
def b2p{l:O Span}(a:l.length<=2^40):Tot (a2w l) λr=>Nrm r/\r.length<=l.length:=by let ⟨r,d,c,_,b⟩:=c1p l a;exact⟨r,d,c,b⟩
def d4t{l:O Span}(s:Span)(b:l.length<=2^40):Tot (s6 l s) λr=>Nrm r/\r.length<=73049:=by let ⟨r,c,a,_⟩:=c95 l s b;exact⟨r,c,a,c3n a⟩
def d4h{l:O Span}(b:l.length<=2^40):Tot (b6h l) λ_=>True:=by
 refine tA (Q:=λ_=>True) (tA (b2p b) λz e=>?_) λ_ _=>tC trivial;refine tH z (λ(s)i=>(s,z,i)) (λ_ _=>True) (by omega) (λa s i y f c _ d=>?_) (λa s _=>?_) 0 trivial;.simp [e7 c,qA];grind
 .dsimp only;rw[if_neg (g9 _)];exact tC trivial
def e41{l:O Span}(a:l.length<=2^40):Tot (b90 l) λ_=>True:=by
 refine tA (b2p a) λz b=>tD (λ_=>tC trivial) λh=>?_;have:z.length≠0:=by simp_all
 rw[e9  (by omega) (by omega)];exact tA (c6 (by omega) (by omega)) λ_ _=>tA (c6 (by omega) (by omega)) λ_ _=>tC trivial
def g3h{l:O Span}(n:Int)(b:l.length<=2^40):Tot (c4p l n) λ_=>True:=by
 refine tD (λ_=>tC trivial) λ_=>tA (b2p b) λz f=>?_;refine tH z (λ(s)i=>(s,z,i)) (λ_ _=>True) (by omega) (λa s i y d e _ c=>?_) (λa s _=>?_) n trivial;.dsimp only;rw[if_pos (o6 d)];simp [e7 e,qA];exact tD (λ_=>tC trivial) λ_=>c _ trivial
 .dsimp only;rw[if_neg (g9 _)];exact tC trivial
def d18{l:O Span}(n:Int)(b:l.length<=2^40):Tot (b4k l n) λr=>r.length<=l.length:=by
 refine tA (b2p b) λz g=>?_;refine tH z (λ(s:Int×O _)i=>(s.1,s.2,z,i)) (λs i=>s.2.length<=i) (by omega) (λa s i y e c f d=>?_) (λa s f=>?_) (n,[]) (by simp)
 .dsimp only;rw[if_pos (o6 e)];simp [e7 c,qA];have j:∀q k,Tot (b2y a (s.1,s.2,q,z,k,(i))) _:=λq k=>by unfold b2y;rw[p6 (by simp [qR,qS];omega)];exact d (_,_) (by simp;omega)
  exact tD (λ_=>tC (by omega)) λ_=>tD (λ_=>tJ (j _ _)) λ_=>tJ (j _ _)
 .dsimp only;rw[if_neg (g9 _)];exact tC (by omega)
def f1y(l:O nQ)(a:Int)(c:O Int)(o:l.length<=2^30)(k:c.length<=2^30):Tot (a8q l a c) λ_=>True:=by
 unfold a8q;refine tH l _ (λs i=>s.length<=i) (by omega) (λb s i y d h m j=>?_) (λb s m=>?_) [] (by simp)
 .dsimp only;rw[if_pos (o6 d)];simp [e7 h,qA,a1z];refine tA (Q:=λ_=>True) (tD (λ_=>?_) λ_=>tC trivial) λ_ _=>tD (λ_=>?_) λ_=>j _ (by omega)
  .let ⟨n,g,_⟩:=c5d (f:=a06 c y.Rank) c (λz=>y.Rank==z) k (λb i z e=>by unfold a06;rw[if_pos (o6 ((qD.1 e).1))];simp [e7 e,qA]) λb=>by unfold a06;simp_all
   unfold q9 a4p;rw[g];exact tC trivial
  .rw[p6 (by grind)];simp_all
 .dsimp only;rw[if_neg (g9 _)];exact tA (d4h (by omega)) λ_ _=>tC trivial
def e0f(l:O nQ)(a b:Int)(j:l.length<=2^30):Tot (b6i l a b) λr=>Nrm r/\r.length<=l.length:=by
 unfold b6i;refine tH l _ (λs i=>s.length<=i) (by omega) (λc s i y d g h f=>?_) (λc s h=>?_) [] (by simp);.dsimp only;rw[if_pos (o6 d)];simp only[e7 g,qA,y3,o4];refine tD (λ_=>?_) λ_=>f s (by omega);rw[p6 (by simp [qR,qS];omega)];simp_all
 .dsimp only;rw[if_neg (g9 _)];exact tA (b2p (by omega)) λr e=>tC ⟨e.1,by omega⟩
def d31(v:Version)(y:Int)(d:v.Series.length<=2^40):Tot (b0w v y) λ_=>True:=by
 unfold b0w;refine tH _ (λ(s)i=>(v,(⟨0,0⟩:fQ),s,i)) (λs i=>-1<=s/\s<(i:Int)) d (λa s i x f e b c=>?_) (λa s b=>?_) _ ⟨by omega,by omega⟩;.dsimp only;rw[if_pos (o6 f)];simp only[e7 e,qA];refine tA  (tD (λ_=>tA (Q:=λ_=>True) (tD (λ_=>tC trivial) λh=>?_) λ_ _=>tC trivial) λ_=>tC trivial) λ_ _=>tD (λ_=>c _ ⟨by omega,by omega⟩) λ_=>c s ⟨b.1,by omega⟩;simp at h;exact tA (c6 h (by omega)) λ_ _=>tC trivial
 .dsimp only;rw[if_neg (g9 _)];refine tD (λ_=>tC trivial) λh=>?_;simp at h;exact tA (c6 h b.2) λ_ _=>tC trivial
def d1v(f:fQ):Tot (b0x f) λ_=>True:=by unfold b0x;simp [o4,qA];exact tA (b2t f) λ_ _=>tC trivial
def d7q(v:Version)(a b c:Int)(e:v.Series.length<=2^40):Tot (b2s v a b c) λ_=>True:=by refine tA (d31 v _ e) λf _=>tA (d31 v _ e) λg _=>?_;simp only[a1z,qA];refine tA (orT (e4o (d1v _))) λ_ _=>tA (orT (e4o (d1v _))) λ_ _=>tD (λ_=>tC trivial) λ_=>tA (c3x _ _) λq d=>tD (λ_=>tC trivial) λh=>?_;simp at h;have i:=e6c (u64 f.Den*u64 g.Num);unfold U64 at d i;exact tA (c4l d.1.1 d.2.1 (by omega) h (by omega)) λ_ _=>tD (λ_=>tC trivial) λ_=>tC trivial
def d70(l:O Earning)(v:Version)(r:Int)(f:l.length<=2^30)(c:v.Series.length<=2^40):Tot (b14 l v r) λq=>q.1.length<=2^30:=by
 unfold b14;refine tH l (λ(s)i=>(v,s,i)) (λs i=>s.length<=i) (by omega) (λa s i x b e d g=>?_) (λa s d=>?_) [] (by simp);.dsimp only;rw[if_pos (o6 b)];simp only[e7 e,qA];refine tA (d7q v _ _ _ c) λq _=>tD (λ_=>tC (by simp)) λ_=>?_;rw[p6 (by simp [qR,qS];omega)];simp_all
 .dsimp only;rw[if_neg (g9 _)];exact tC (by grind)
def e74(l:O Int):Tot (b6e l) λ_=>True:=by
 refine tD (λ_=>tC trivial) λh=>?_;simp at h;refine tH l (λ(s)i=>((⟨0,0⟩:fQ),s,i)) (λs _=>I64 s) (by omega) (λa s i x d c b e=>?_) (λa s b=>?_) 0 ⟨by decide,by decide⟩;.dsimp only;rw[if_pos (o6 d)];simp [e7 c,qA,a1z];exact tD (λ_=>tC trivial) λ_=>e _ (d5z _)
 .dsimp only;rw[if_neg (g9 _)];exact tD (λ_=>tC trivial) λ_=>tA (d7p b ⟨by omega,by omega⟩) λ_ _=>tC trivial
def f4c(f:aQ)(n:Int):Tot (b6a f n) λ_=>True:=by
 unfold b6a;rw[d1t];simp only[a1z,y3,qA];refine tD (λ_=>tC trivial) λh=>?_;have a:vld f=true:=by simp_all
 let ⟨b,g,d,c⟩:=b9h f;have:=c (by rw[b52]at d;simp_all);rw[e9 (n:=f.Span.To-f.Span.From) (by omega) (by omega)];exact tA (b7s (by omega)) λ_ _=>tC trivial
def f3y(y:Int):Tot (b5y y) λ_=>True:=tA (e1r _ _ _) λ_ _=>tA (e1r _ _ _) λ_ _=>tC trivial
def TrF(T:O Rules):Prop:=∃m:Int,0<=m/\m<=450/\(T=[⟨0,m,730,25,[0,1,2]⟩]\/T=[⟨0,m,730,25,[0,1]⟩,⟨35000,m,365,30,[0,1,2]⟩]\/T=[⟨0,m,730,25,[0,1,2]⟩,⟨36000,m,730,25,[0,1]⟩])
def f7m{l:O Int}(c:l.length<=9223372036854775807):Tot (b04 l) λr=>r.length=15/\∀u∈r,u.Kind≠4:=by
 refine tO (I:=λv:O aQ×Int=>1<=v.2/\v.2<=3/\(v.1.length:Int)=6*(v.2-1)/\∀u∈v.1,u.Kind≠4) (μ:=λv=>(3-v.2).toNat) ⟨Int.le_refl _,by omega,rfl,λu h=>by grind⟩ (by omega) ?_;intro r v f e;obtain⟨i,j,g,d⟩:=f;refine tD (λb=>?_) λb=>?_
 .simp at b;rw[a42 (by omega) (by omega)];repeat' first|(refine tA (a0t _ _ c) λ_ _=>?_)|(refine tA (a1i (by omega) (by omega)) λ_ _=>?_)|(refine tA (b24 (by simp;omega)) λ_ h=>?_;subst h)
  refine e _ ⟨by omega,by omega,by simp;omega,λu a=>?_⟩ (by omega);simp only[qK,qF]at a;rcases a with(((((a|rfl)|rfl)|rfl)|rfl)|rfl)|rfl<;>first|exact d u a|(dsimp only;decide)
 .simp at b;repeat' first|(refine tA (a0t _ _ c) λ_ _=>?_)|(refine tA (a1i (by omega) (by omega)) λ_ _=>?_)|(refine tA (b24 (by simp;omega)) λ_ h=>?_;subst h)
  refine tC ⟨by simp;omega,λu a=>?_⟩;simp only[qK,qF]at a;rcases a with((a|rfl)|rfl)|rfl<;>first|exact d u a|(dsimp only;decide)
def c30(u:aQ):Bool:=u.Kind==4
structure a48(f:List aQ):Prop where
 val:∀u∈f,vld u=true
 len:f.length<=28pos:(f.filter c30).length<=12
def e2g(g:aQ):∀l:O aQ,((c4o l g).filter c30).length<=(l.filter c30).length+(if c30 g=true then 1 else 0)
 |[]=>by show(([g]).filter c30).length<=_;grind|a::t=>by
   have c:=e2g g t;unfold c4o;split;.grind
   grind
def d00:∀(l out:O aQ),((l.foldl c4o out).filter c30).length<=(out.filter c30).length+(l.filter c30).length|[],out=>by simp|g::l,out=>by have c:=d00 l (c4o out g);have b:=e2g g out;grind
def f1t{A T:O Posting}{x y:Posting}:a8h (a8h (A++y::x::T) ((A.length:Int)+1) y) (A.length:Int) x=A++x::y::T:=by
 have a:((A.length:Int)+1).toNat=A.length+1:=by omega
 unfold a8h;rw[if_pos (by omega),if_pos (by omega)];simp_all
def d9h{A T:O Posting}{x:Posting}:c7 (A++x::T) (A.length:Int)=some x:=by rw[b4c];simp
def g67{A T:O Posting}{x y:Posting}:a8h (A++y::x::T) ((A.length:Int)+1) y=A++y::y::T:=by
 have a:((A.length:Int)+1).toNat=A.length+1:=by omega
 unfold a8h;rw[if_pos (by omega)];simp
def g64(cmp:Posting->Posting->A3 Int)(l:Int)(k:((O Posting)×Int)->A3 (O Posting))(m:(O Posting)×Int)(f:((O Posting)×Int)->A3 (O Posting))(a:(O Posting)×Int):A3 (O Posting):=(if(decide (a.2>l))then(c7 a.1 a.2).bind λs=>(c7 a.1 a.2).bind λj=>(c7 a.1 (i64 (a.2-1))).bind λr=>(c7 a.1 (i64 (a.2-1))).bind λq=>(cmp j q).bind λo=>some (decide (o<0))else some false).bind λc=>if c then(c7 a.1 (i64 (a.2-1))).bind λe=>(c7 a.1 (i64 (a.2-1))).bind λb=>(c7 a.1 a.2).bind λg=>(c7 a.1 a.2).bind λd=>(c7 a.1 a.2).bind λp=>(c7 a.1 a.2).bind λn=>(c7 (a8h a.1 a.2 b) (i64 (a.2-1))).bind λi=>(c7 (a8h a.1 a.2 b) (i64 (a.2-1))).bind λh=>f (a8h (a8h a.1 a.2 b) (i64 (a.2-1)) d,i64 (a.2-1))else k (a.1,i64 (m.2+1))
def e7g(cmp:Posting->Posting->A3 Int)(d c:Int)(b:((O Posting)×Int)->A3 (O Posting))(a:(O Posting)×Int):A3 (O Posting):=if(decide (a.2<d))then d9 FU (g64 cmp c b a) (a.1,a.2)else some a.1
def h24(cmp:Posting->Posting->A3 Int)(c:O Posting)(a b:Int):A3 (O Posting):=d9 FU (e7g cmp b a) (c,i64 (a+1))
section
variable {c:Posting -> Posting -> Int} {cmp:Posting -> Posting -> A3 Int} {S:Posting -> Prop}
structure Ordered(c:Posting->Posting->Int)(S:Posting->Prop):Prop where asymm:∀x y,S x->S y->c x y<0->¬c y x<0trans:∀x y z,S x->S y->S z->¬c y x<0->¬c z y<0->¬c z x<0
def Le(c:Posting->Posting->Int)(x y:Posting):Prop:=¬c y x<0
def c8i(E:Ordered c S)(H:∀x y,S x->S y->cmp x y=some (c x y))(d:O Posting)(K:∀x∈d,S x)(G:d.length<=1000)(i:Nat)(m:O Posting×Int->A3 (O Posting))(A:O Posting)(x:Posting)(C:O Posting)(hi:A.length=i)(T:(A++x::C).Perm d)(W:A.Pairwise (Le c)):∃f:O Posting,f.length=i+1/\(f++C).Perm d/\f.Pairwise (Le c)/\d9 FU (g64 cmp 0 m (A++x::C,(i:Int))) (A++x::C,(i:Int))=m (f++C,((i+1:Nat):Int)):=by
 have N:i<1000:=by have:=T.length_eq;grind
 refine c4u (λs=>∃(h B:O Posting),s=(h++x::(B++C),(h.length:Int))/\h.length+B.length=i/\(h++x::(B++C)).Perm d/\(h++B).Pairwise (Le c)/\∀b∈B,Le c x b) (λs=>s.2.toNat) (λo=>∃f:O Posting,f.length=i+1/\(f++C).Perm d/\f.Pairwise (Le c)/\o=m (f++C,((i+1:Nat):Int))) ⟨A,[],by grind,by omega,by simp_all,by simp_all,by simp⟩ (by omega) ?_;rintro s D⟨h,B,rfl,J,t,g,F⟩;have l:∀y∈h++x::(B++C),S y:=λy M=>K y (t.subset M);have q:S x:=l x (by simp);have n:∀o:A3 (O Posting),o=m (h++x::(B++C),i64 ((i:Int)+1))->(∀a∈h,Le c a x)->∃f:O Posting,f.length=i+1/\(f++C).Perm d/\f.Pairwise (Le c)/\o=m (f++C,((i+1:Nat):Int)):=by
  intro o I p;refine⟨h++x::B,by grind,by grind,?_,?_⟩;.rw[pairwise_append]at g⊢;refine⟨g.1,List.pairwise_cons.2 ⟨F,g.2.1⟩,λa V b X=>?_⟩;grind
  .rw[I,e9 (by omega) (by omega)];simp
 unfold g64;rcases eq_nil_or_concat h with u|⟨e,y,u⟩
 .subst u;left;exact n _ rfl (by simp)
 .have u:h=e++[y]:=by simpa using u
  subst u;have v:(((e++[y]).length:Nat):Int)=(e.length:Int)+1:=by simp
  have L:decide ((((e++[y]).length:Nat):Int)>(0:Int))=true:=by rw[v,decide_eq_true_eq];omega
  have P:i64 ((((e++[y]).length:Nat):Int)-1)=(e.length:Int):=by rw[v,e9 (by omega) (by omega)];omega
  have w:e++[y]++x::(B++C)=e++y::x::(B++C):=by simp
  have R:c7 (e++[y]++x::(B++C)) (e.length:Int)=some y:=by rw[w];exact d9h
  have Q:c7 (a8h (e++[y]++x::(B++C)) (((e++[y]).length:Nat):Int) y) (e.length:Int)=some y:=by rw[w,v,g67];exact d9h
  have r:S y:=l y (by simp);simp only[L,if_true,d9h,P,R,Q,H x y q r,qA];by_cases k:c x y<0
  .right;simp only[k,decide_true,if_true];refine⟨_,rfl,⟨e,y::B,?_,by simp at J⊢;omega,?_,by simpa using g,?_⟩,by omega⟩;.rw[w,v,f1t];simp
   .refine List.Perm.trans ?_ t;rw[w];exact List.Perm.append_left e (List.Perm.swap y x (B++C))
   .intro b j;rcases qO.1 j with j|j;.rw[j];exact E.asymm x y q r k
    .exact F b j
  .left;simp only[k,decide_false,qM,if_false];refine n _ rfl (λa p=>?_);rw[qK,qF]at p;rcases p with p|p
   .have z:Le c a y:=by rw[qQ,pairwise_append]at g;exact g.2.2 a p y (by simp)
    exact E.trans a y x (l a (by simp[p])) r q z k
   .rw[p];exact k
def d86(m:Ordered c S)(h:∀x y,S x->S y->cmp x y=some (c x y))(a:O Posting)(j:∀x∈a,S x)(d:a.length<=1000):∃r,h24 cmp a 0 (a.length:Int)=some r/\r.Perm a/\r.Pairwise (Le c):=by
 by_cases e:a=[]
 .subst e;refine⟨[],?_,List.Perm.refl _,List.Pairwise.nil⟩;have:∀k,0<k->d9 k (e7g cmp (([]:O Posting).length) 0) ([],i64 (0+1))=some []:=by intro k t;cases k with|zero=>omega|succ k=>show e7g _ _ _ _ _=_;unfold e7g;rw[if_neg (by rw[e9 (by omega) (by omega)];simp)]
  exact this FU (by unfold FU;omega)
 refine b9s (λs=>∃(A C:O _),s=(A++C,(A.length:Int))/\1<=A.length/\(A++C).Perm a/\A.Pairwise (Le c)) (λs=>a.length-s.2.toNat) _ ?_ (by omega) ?_;.cases a with|nil=>simp_all|cons x r=>exact⟨[x],r,rfl,by simp,List.Perm.refl _,pairwise_singleton _ _⟩
 .rintro s f⟨A,C,rfl,u,g,i⟩;unfold e7g;have b:=g.length_eq;rw[qL]at b;cases C with|nil=>simp_all|cons x C=>right;rw[qR]at b;rw[if_pos (by grind)];let ⟨n,q,o,l,p⟩:=c8i m h a j d _ f A x C rfl g i;refine⟨_,p,⟨n,C,by grind,by omega,o,l⟩,by omega⟩
end
def sgn(p q:Int):Int:=if p<q then-1 else if q<p then 1 else 0
def c8a(x y:Int):a2c x y=some (sgn x y):=by unfold a2c b1d sgn;grind
def orI:O Int->Int|[]=>0|x::r=>if x=0then orI r else x
def g6c(p q:Int):sgn p q<0↔p<q:=by unfold sgn;omega
def f8x(p q:Int):sgn p q=0↔p=q:=by unfold sgn;omega
def f9a(x:Int)(r:O Int):orI (x::r)<0↔x<0\/x=0/\orI r<0:=by simp [orI];omega
def h3n(l:O Int)(j:l.length<=1000):b67 l=some (orI l):=by unfold b67;let ⟨r,i,h⟩:=b9s (f:=b58 l) (λs=>∃A B,l=A++B/\s=(A.length)/\orI l=orI B) (λs=>l.length-s.toNat) (λr=>r=orI l)  ⟨[],l,rfl,rfl,rfl⟩ (by omega) (by
  rintro s g⟨A,B,b,rfl,c⟩;unfold b58;have a:l.length=A.length+B.length:=by simp_all
  cases B with|nil=>left;rw[if_neg (by simp_all)];exact⟨_,rfl,by rw[c];rfl⟩|cons y B=>
    rw[qR]at a;have e:c7 l (A.length)=some y:=by rw[b,b4c];simp
    rw[if_pos (by grind),e,qA];by_cases d:y=0;.right;rw[if_neg (by grind),e9  (by omega) (by omega)];exact⟨((A++[y]).length),by simp,⟨A++[y],B,by simp_all,rfl,by rw[c,d];rfl⟩,by simp;omega⟩
    .left;rw[if_pos (by simp_all)];exact⟨_,rfl,by rw[c];simp[orI,d]⟩);simp_all
def g4l:m6=h24 a0j:=rfl
def f9z(a b:Posting):Int:=orI [sgn a.Span.From b.Span.From,sgn a.Seat b.Seat,sgn a.State b.State]
def c2f(a b:Posting):f9z a b<0↔a.Span.From<b.Span.From\/a.Span.From=b.Span.From/\(a.Seat<b.Seat\/a.Seat=b.Seat/\a.State<b.State):=by unfold f9z;simp [f9a,g6c,f8x];simp[orI]
def f1s{a b:Posting}(c:¬f9z a b<0)(d:¬f9z b a<0):a.Span.From=b.Span.From/\a.Seat=b.Seat/\a.State=b.State:=by rw[c2f]at c d;grind
def d8y(S:Posting->Prop):Ordered f9z S:=by
 constructor;.intro x y _ _;rw[c2f,c2f];omega
 .intro x y z _ _ _;rw[c2f,c2f,c2f];omega
def g3d(a b:Posting):a0j a b=some (f9z a b):=by unfold a0j;simp only[c8a,qA];rw[h3n _ (by simp)];rfl
def e34:Nat->Bool|0=>true|n+1=>(c7q (u64 (n:Int))).isSome&&e34 n
def e85:e34 13=true:=rfl
def d7j:∀(k n:Nat),e34 k=true->n<k->(c7q (u64 (n:Int))).isSome=true
 |0,n,_,h=>by omega|k+1,n,h,b=>by
   simp [e34,qB]at h;by_cases e:n=k;.simp_all
   .exact d7j k n h.2 (by omega)
def d6k(l:O Posting)(f:l.length<=12)(r:O Posting)(c:h24 a0j l 0 (l.length:Int)=some r):c9 l=some r:=by
 rw[<-g4l]at c;let ⟨n,d⟩:=Option.isSome_iff_exists.1 (d7j 13 l.length e85 (by omega));unfold c9 y6;rw[d,qA];have b:∀k,0<k->((c3 k).f_slices_pdqsortCmpFunc_of_api_Posting l 0 (l.length) n)=some r:=by intro k e;cases k with|zero=>omega|succ k=>
    generalize c3 k=R;have a:∀k,0<k->d9 k (i6 R) (l,0,(l.length),n,true,true)=some r:=by intro k e;cases k with|zero=>omega|succ k=>show i6 _ _ _=_;unfold i6;dsimp only;rw[e9 (by omega) (by omega),if_pos (by grind),c,qA]
    exact a FU (by unfold FU;omega)
 rw[b FU (by unfold FU;omega),qA]
def c9r(l:O Posting)(a:l.length<=12):∃r,c9 l=some r/\r.Perm l/\r.Pairwise (Le f9z):=by let ⟨r,e,d,b⟩:=d86    (d8y _) (λx y _ _=>g3d x y) l (λ_ _=>trivial) (by omega);exact⟨r,d6k l a r e,d,b⟩
def e1z{d:Type}{R:d->d->Prop}:∀{a b:O d},a.Perm b->(∀x∈a,∀y∈a,R x y->R y x->x=y)->a.Pairwise R->b.Pairwise R->a=b
 |[],b,c,_,_,_=>by simp_all|x::a,[],c,_,_,_=>absurd c (by simp)|x::a,y::b,c,f,i,g=>by
   let ⟨n,j⟩:=List.pairwise_cons.1 i;let ⟨p,h⟩:=List.pairwise_cons.1 g;have e:x=y:=by have l:x∈y::b:=c.subset (by simp);grind
   subst e;rw[e1z (perm_cons x|>.1 c) (λu m v o=>f u (by grind) v (by grind)) j h]
def g57{f:aQ}(h:vld f=true):m8 f=some true:=by rw[b52,h]
set_option maxHeartbeats 4000000 in
def c3d {f:aQ}(h:vld f=true):(1 <= f.Kind /\ f.Kind <= 14) /\ (0 <= f.State /\ f.State <= 5) /\ (0 <= f.Seat /\ f.Seat <= 5) /\ (0 <= f.Share /\ f.Share <= 100) /\ (f.Kind=1 \/ f.Kind=2 \/ f.Kind=3 -> 1 <= f.Share):=by
 have a:=g57 h
 by_cases d:1 <= f.Kind /\ f.Kind <= 14
 ·obtain ⟨s,m,n,g,L,C,v,J,i,T,z,D,p,A,B,F⟩:=f1g d.1 d.2
  obtain ⟨_,l⟩:=a3w (x:=f.State) (lo:=0) (hi:=5) z
  obtain ⟨_,o⟩:=a3w (x:=f.Seat) (lo:=0) (hi:=5) D
  obtain ⟨_,q⟩:=a3w (x:=f.Share) (lo:=1) (hi:=100) p
  obtain ⟨_,j⟩:=a3w (x:=f.Currency) (lo:=1) (hi:=999) A
  obtain ⟨_,t⟩:=a3w (x:=f.Amount) (lo:=0) (hi:=1000000000) B
  obtain ⟨_,r⟩:=a3w (x:=f.Ref) (lo:=1) (hi:=99) F
  have P:f.Kind=1 \/ f.Kind=2 \/ f.Kind=3 -> g=true:=by
   have G:j6 1 72=some true:=by kernel_rfl
   have I:j6 2 72=some true:=by kernel_rfl
   have y:j6 3 72=some true:=by kernel_rfl
   have:=p.2
   rintro (e | e | e)<;>rw [e] at this
   ·exact (qH (G.symm.trans this)).symm
   ·exact (qH (I.symm.trans this)).symm
   ·exact (qH (y.symm.trans this)).symm
  generalize Q:(if m=true then decide (0 <= f.State)&&decide (f.State <= 5) else f.State==0)=N at l
  generalize M:(if n=true then decide (0 <= f.Seat)&&decide (f.Seat <= 5) else f.Seat==0)=u at o
  generalize b:(if g=true then decide (1 <= f.Share)&&decide (f.Share <= 100) else f.Share==0)=w at q
  unfold m8 at a
  simp only [i,l,o,q,j,t,r,qA,y3,o4] at a
  have c:N=true /\ u=true /\ w=true:=by
   split at a
   ·cases a
   ·split at a
    ·cases a
    ·split at a
     ·cases a
     ·have:=qH a
      simp only [qB] at this
      exact ⟨this.1.1.1.1.1,this.1.1.1.1.2,this.1.1.1.2⟩
  obtain ⟨E,K,H⟩:=c
  subst E;subst K;subst H
  refine ⟨d,?_,?_,?_,λ e=> ?_⟩
  ·cases m<;>simp at Q<;>omega
  ·cases n<;>simp at M<;>omega
  ·cases g<;>simp at b<;>omega
  ·rw [P e] at b;simp at b;omega
 ·obtain ⟨J,i⟩:=d4q (k:=f.Kind) (by omega)
  exfalso
  unfold m8 at a
  simp only [y3,qA] at a
  simp [i] at a
def g4z{f:aQ}(h:cur f=true):vld f=true:=by unfold cur at h;simp_all
def f1a{l:O aQ}{f:aQ}(h:f∈l.filter cur):vld f=true:=g4z (by simp_all)
def c3l{β:Type}:O ((Int×Int)×O β)->Int×Int->β->O ((Int×Int)×O β)|[],k,x=>[(k,[x])]|q::r,k,x=>if q.1=k then(k,q.2++[x])::r else q::c3l r k x
def f0j{β:Type}:∀(L:O ((Int×Int)×O β))(k:Int×Int)(x:β),f7i L k x=c3l L k x
 |[],k,x=>rfl|q::r,k,x=>by
   have b:=f0j r k x;unfold f7i c3v at b⊢;unfold c3l;by_cases a:q.1=k;.simp[ixK,a]
   .rw[<-b];simp [ixK,a,if_false,qR];by_cases h:ixK r k<r.length;.simp_all
    .rw[if_neg (by omega),if_neg h];simp [List.cons_append,List.getElem?_cons_succ];cases(r++[(k,([]))])[ixK r k]?<;>simp
structure GpI(M:List ((Int×Int)×List Span))(c:List aQ):Prop where
 nd:(M.map (·.1)).Nodup
 val:∀q∈M,q.2=(c.filter λf=>(f.Kind==4)&&(f.Seat==q.1.1)&&(f.State==q.1.2)).map (·.Span)key:∀k:Int×Int,k∈M.map (·.1)↔∃f∈c,f.Kind=4/\(f.Seat,f.State)=k
 tot:(M.map (·.2.length)).sum=(c.filter c30).length
def c5r{β:Type}:∀(L:O ((Int×Int)×O β))(k:Int×Int)(x:β)(j:Int×Int),j∈(c3l L k x).map (·.1)↔j=k\/j∈L.map (·.1)
 |[],k,x,j=>by simp[c3l]|q::r,k,x,j=>by
   unfold c3l;by_cases c:q.1=k;.simp_all
   .have b:=c5r r k x j;grind
def e29{β:Type}:∀(L:O ((Int×Int)×O β))(k:Int×Int)(x:β),(L.map (·.1)).Nodup->((c3l L k x).map (·.1)).Nodup
 |[],k,x,_=>by simp[c3l]|q::r,k,x,h=>by
   rw[List.map_cons,List.nodup_cons]at h;unfold c3l;by_cases b:q.1=k;.simp_all
   .rw[if_neg b,List.map_cons,List.nodup_cons];refine⟨λc=>?_,e29 r k x h.2⟩;rcases(c5r r k x q.1).1 c with e|e;all_goals simp_all
def d89{β:Type}:∀(L:O ((Int×Int)×O β))(k:Int×Int)(x:β),((c3l L k x).map (·.2.length)).sum=(L.map (·.2.length)).sum+1
 |[],k,x=>by simp[c3l]|q::r,k,x=>by
   unfold c3l;by_cases b:q.1=k;.grind
   .have:=d89 r k x;grind
def d7n{β:Type}:∀(L:O ((Int×Int)×O β))(k:Int×Int)(x:β)(q:(Int×Int)×O β),(L.map (·.1)).Nodup->q∈c3l L k x->(q.1≠k/\q∈L)\/(q.1=k/\((∃p∈L,p.1=k/\q.2=p.2++[x])\/(k∉L.map (·.1)/\q.2=[x])))
 |[],k,x,q,_,h=>by simp[c3l]at h;simp_all|p::r,k,x,q,f,h=>by
   rw[List.map_cons,List.nodup_cons]at f;unfold c3l at h;by_cases g:p.1=k
   .rw[if_pos g]at h;rcases qO.1 h with e|e;.grind
    .grind
   .rw[if_neg g]at h;rcases qO.1 h with e|e;.grind
    .rcases d7n r k x q f.2 e with⟨a,b⟩|⟨a,⟨j,b,c,d⟩|⟨b,c⟩⟩;.grind
     .exact .inr ⟨a,.inl ⟨j,by grind,c,d⟩⟩
     .exact .inr ⟨a,.inr ⟨by grind,c⟩⟩
def f7j{M:O ((Int×Int)×O Span)}{c:O aQ}(f:aQ)(h:GpI M c):GpI (b6k M f) (c++[f]):=by
 unfold b6k;by_cases j:f.Kind=4
 .rw[if_pos j,f0j];have d:(f.Kind==4)=true:=by grind
  refine⟨e29 M _ _ h.nd,λq i=>?_,λk=>?_,?_⟩
  .rw[filter_append,List.map_append];rcases d7n M _ _ q h.nd i with⟨a,b⟩|⟨a,⟨p,b,e,g⟩|⟨b,e⟩⟩;.rw[<-h.val q b];grind
   .rw[(a.trans e.symm),<-h.val p b,g];simp_all
   .have o:(c.filter λu=>(u.Kind==4)&&(u.Seat==(f.Seat,f.State).1)&&(u.State==(f.Seat,f.State).2))=[]:=by rw[List.filter_eq_nil_iff];intro u m l;simp at l;exact b ((h.key _).2 ⟨u,m,l.1.1,by simp_all⟩)
    grind
  .rw[c5r,h.key];constructor;.grind
   grind
  .rw[d89,h.tot];have:c30 f=true:=d;simp_all
 .rw[if_neg j];have d:(f.Kind==4)=false:=by simp_all
  refine⟨h.nd,λq i=>?_,λk=>?_,?_⟩;.rw[h.val q i,filter_append];simp_all
  .rw[h.key];simp_all
  .rw[h.tot];have:c30 f=false:=d;simp_all
def e3k:∀(l:O aQ){M:O ((Int×Int)×O Span)}{c:O aQ},GpI M c->GpI (l.foldl b6k M) (c++l)|[],M,c,h=>by simp_all|f::l,M,c,h=>by have:=e3k l (f7j f h);simp_all
def g51(l:O aQ):GpI (l.foldl b6k []) l:=e3k l (c:=[]) ⟨by simp,λq a=>(by grind),λk=>(by simp),(by simp)⟩
def f4j{M b:O ((Int×Int)×O Span)}{c:O aQ}(h:GpI M c)(a:b.Perm M):GpI b c:=⟨(a.map _).nodup_iff.2 h.nd,λq d=>h.val q (a.subset d),λk=>by rw[<-h.key];grind,by rw[<-h.tot];grind⟩
def e2y(k:Int):∀(l:O aQ)(s:Int×Bool),(∀u∈l,cur u=true)->0<=s.1/\s.1<=73048->0<=(l.foldl (c9p k) s).1/\(l.foldl (c9p k) s).1<=73048|[],s,_,h=>h|u::l,s,a,h=>by refine e2y k l _ (λv c=>a v (by grind)) ?_;have:=f4a (a u (by simp));unfold c9p;grind
def g41(k:Int)(l:O aQ):0<=((l.filter cur).foldl (c9p k) (0,false)).1/\((l.filter cur).foldl (c9p k) (0,false)).1<=73048:=e2y k _ _ (λu a=>by simp_all) (by decide)
def c3g(l:O aQ):Int×Bool:=(l.filter cur).foldl (c9p 11) (0,false)
def d2r(l:O aQ):Int:=if(d3m l).2=true then(d3m l).1else 73048
def a4q(l:O aQ):Span:=if d2r l<(c3g l).1then⟨0,0⟩else⟨(c3g l).1,d2r l+1⟩
def f6l(l:O aQ):0<=d2r l/\d2r l<=73048:=by
 unfold d2r;split;.exact g41 12 l
 omega
def c27(l:O aQ)(a:l.length<=2^30):a2i l=some (a4q l):=by
 have c:=f6l l;unfold a2i b4t;rw[d4x l 11 a,e8l l a,show(l.filter cur).foldl _ _=c3g l from rfl];have e:∀t,t<=73048->0<=t->joinC b48 ((⟨0,0⟩),(c3g l).1,t)=some (if t<(c3g l).1then⟨0,0⟩else⟨(c3g l).1,t+1⟩):=by intro t f d;rw[b7k];unfold b48;dsimp only;rw[e9 (by omega) (by omega)];grind
 unfold a4q d2r at*;by_cases b:(d3m l).2=true;.simp_all
 simp_all
def d35{c:Type}:∀{a b:O c},a.Nodup->(∀x∈a,x∈b)->a.length<=b.length
 |[],b,_,_=>Nat.zero_le _|x::a,b,i,g=>by
   let ⟨k,h⟩:=List.nodup_cons.1 i;obtain⟨f,d,rfl⟩:=append_of_mem (g x (by simp));have:=d35  (b:=f++d) h λy j=>by grind
   grind
def f2n{c:Type}{R:c->c->Prop}:∀{l:O c},l.Pairwise R->∀{a b:c},a∈l->b∈l->a=b\/R a b\/R b a
 |x::l,h,a,b,d,e=>by
   let ⟨i,g⟩:=List.pairwise_cons.1 h;rcases qO.1 d with d|d<;>rcases qO.1 e with e|e;.simp_all
   .simp_all
   .simp_all
   .exact f2n g d e
def g2z{r:O Span}(h:Nrm r){a:Span}(b:a∈r):¬InS r a.To:=by rintro⟨c,e,g,f⟩;have i:=h.1 a b;rcases f2n h.2 b e with rfl|d|d<;>omega
def d80{r z:O Span}(s:Span)(c:Nrm r)(h:∀x,InS r x↔InS z x/\s.From<=x/\x<s.To):r.length<=z.length:=by
 let g:Span->Span:=λt=>(z.find? λu=>decide (u.From<=t.From)&&decide (t.From<u.To)).getD ⟨0,0⟩;have k:∀t∈r,g t∈z/\(g t).From<=t.From/\t.From<(g t).To:=by intro t f;have j:=c.1 t f;let ⟨u,l,D,C⟩:=((h _).1 ⟨t,f,Int.le_refl _,j.2.1⟩).1;cases o:z.find? λu=>decide (u.From<=t.From)&&decide (t.From<u.To)with|none=>have:=List.find?_eq_none.1 o u l;simp_all|some v=>grind
 have m:(r.map g).Nodup:=by unfold List.Nodup;rw[pairwise_map];refine c.2.imp_of_mem λ{a b}d i y e=>?_;have j:=c.1 a d;have n:=k a d;have p:=k b i;rw[<-e]at p;have B:=(h _).1 ⟨a,d,Int.le_refl _,j.2.1⟩;have A:=(h _).1 ⟨b,i,Int.le_refl _,(c.1 b i).2.1⟩;exact g2z c d ((h _).2 ⟨⟨g a,n.1,by omega,by omega⟩,by omega,by omega⟩)
 have:=d35 m (b:=z) λx w=>by obtain⟨t,f,rfl⟩:=List.mem_map.1 w;simp_all
 simp_all
def d4o(a:O Span)(s:Span):O Span:=(s6 a s).getD []
def b8o(a:O Span)(s:Span)(c:a.length<=2^40):s6 a s=some (d4o a s)/\Nrm (d4o a s)/\(∀x,InS (d4o a s) x↔InS a x/\(s.From<=x/\x<s.To)/\0<=x/\x<73049)/\(d4o a s).length<=a.length:=by
 let ⟨r,g,b,d⟩:=c95 a s c;let ⟨z,j,h,i,f⟩:=c1p a c;have e:d4o a s=r:=by unfold d4o;simp_all
 rw[e];refine⟨g,b,d,Nat.le_trans (d80 s b  λx=>?_) f⟩;constructor;.simp_all
 simp_all
def pmk(s:Span)(M:O ((Int×Int)×O Span)):O Posting:=M.flatMap λq=>(d4o q.2 s).map λx=>⟨q.1.1,q.1.2,x⟩
def e8q(s:Span):∀M:O ((Int×Int)×O Span),(∀q∈M,q.2.length<=2^40)->(pmk s M).length<=(M.map (·.2.length)).sum|[],_=>Nat.le_refl _|q::M,h=>by have b:=e8q s M λp c=>h p (by grind);have d:=(b8o q.2 s (h q (by simp))).2.2.2;unfold pmk at b⊢;simp only[List.flatMap_cons,qL,List.length_map,List.map_cons,List.sum_cons];omega
def d82(l:O aQ)(b:l.length<=2^30):∀(M:O ((Int×Int)×O Span))(out:O Posting),(∀q∈M,q.2.length<=2^40)->out.length+(M.map (·.2.length)).sum<=100000->b4v l M out=some (out++pmk (a4q l) M)|[],out,_,_=>by simp[b4v,pmk]|q::M,out,a,d=>by obtain⟨e,_,_,h⟩:=b8o q.2 _ (a q (by simp));simp [List.map_cons,List.sum_cons]at d;show(Option.bind _ _)=_;rw[c27 l b,qA,e,qA,if_pos (by omega)];rw[d82 l b M _ (λp g=>a p (by simp[g])) (by rw[qL,List.length_map];omega)];simp[pmk]
def f3b(f:O aQ)(a b:Int):O Span:=((f.filter cur).filter λu=>(u.Kind==4)&&(u.Seat==a)&&(u.State==b)).map (·.Span)
def PM(f:O aQ)(p:Posting):Prop:=p.Span∈d4o (f3b f p.Seat p.State) (a4q f)
def d4g(f:O aQ)(a b:Int):(f3b f a b).length<=f.length:=by unfold f3b;grind
def e1c{f:O aQ}(l:f.length<=2^30){M:O ((Int×Int)×O Span)}(h:GpI M (f.filter cur))(p:Posting):p∈pmk (a4q f) M↔PM f p:=by
 unfold pmk PM;rw[mem_flatMap];constructor;.rintro⟨q,b,a⟩;obtain⟨x,g,rfl⟩:=List.mem_map.1 a;rw[h.val q b]at g;exact g
 .intro a;obtain⟨_,j,k,_⟩:=b8o (f3b f p.Seat p.State) _ (by have:=d4g f p.Seat p.State;omega);obtain⟨⟨s,i,_⟩,_⟩:=(k _).1 ⟨p.Span,a,Int.le_refl _,(j.1 _ a).2.1⟩;obtain⟨u,d,_⟩:=List.mem_map.1 i;rw[mem_filter]at d;have c:=d.2;simp at c;obtain⟨q,b,e⟩:=List.mem_map.1 ((h.key _).2 ⟨u,d.1,c.1.1,by rw[c.1.2,c.2]⟩);refine⟨q,b,List.mem_map.2 ⟨p.Span,?_,?_⟩⟩;.rw[h.val q b,e];exact a
  .rw[e]
def g4c{f:O aQ}(i:f.length<=2^30){x y:Posting}(b:PM f x)(a:PM f y)(l:x.Span.From=y.Span.From)(d:x.Seat=y.Seat)(g:x.State=y.State):x=y:=by
 unfold PM at b a;rw[<-d,<-g]at a;obtain⟨_,c,_,_⟩:=b8o (f3b f x.Seat x.State) _ (by have:=d4g f x.Seat x.State;omega);have k:=c.1 _ b;have j:=c.1 _ a;have e:x.Span=y.Span:=by rcases f2n c.2 b a with h|h|h;all_goals omega
 cases x;simp_all
def c90{f:O aQ}(k:a48 f):∃P,competence_Postings f=some P/\(∀p,p∈P↔PM f p)/\P.length<=12:=by
 have i:f.length<=2^30:=by have:=k.len;omega
 have E:(f.filter cur).length<=28:=by have:=length_filter_le cur f;have:=k.len;omega
 have n:((f.filter cur).filter c30).length<=12:=by
  have:((f.filter cur).filter c30).length<=(f.filter c30).length:=by rw[filter_filter,show(λa=>c30 a&&cur a)=λa=>cur a&&c30 a from funext λa=>Bool.and_comm _ _,<-filter_filter];grind
  have:=k.pos;omega
 have e:=g51 (f.filter cur);have d:∀{M:O _},GpI M (f.filter cur)->∀q∈M,q.2.length<=2^40:=by intro M h q H;rw[h.val q H];grind
 have c:∀{M:O _},GpI M (f.filter cur)->(pmk (a4q f) M).length<=12:=by intro M h;have:=e8q (a4q f) M (d h);rw[h.tot]at this;omega
 obtain⟨P,t,g,m⟩:=c9r _ (c e);refine⟨P,?_,λp=>?_,?_⟩
 .unfold competence_Postings;rw[b9a f i,qA,if_pos];.refine g33 (λM s=>?_) (List.Perm.refl _);have b:=f4j e s;rw[d82 f i M [] (d b) (by rw[b.tot,qS];omega),qA,List.nil_append];obtain⟨D,F,j,G⟩:=c9r _ (c b);rw[F];have l:D.Perm P:=j.trans ((show(pmk (a4q f) M).Perm _ from s.flatMap_right _).trans g.symm);refine congrArg some (e1z l (λx w y v o r=>?_) G m);obtain⟨B,z,A⟩:=f1s r o;exact g4c i ((e1c i b x).1 (j.subset w)) ((e1c i b y).1 (j.subset v)) B z A
  .refine⟨by omega,?_⟩;rw[qX];intro u C;obtain⟨_,o,r,_⟩:=c3d (f1a C);unfold c4v;simp only[qB,decide_eq_true_eq];omega
 .rw[g.mem_iff,e1c i e]
 .rw[g.length_eq];grind
def b08{σ ρ:Type}{f:(σ->A3 ρ)->σ->A3 ρ}{k:Nat}{s:σ}(h:0<k):d9 k f s=f (d9 (k-1) f) s:=by cases k with|zero=>omega|succ k=>rfl
def tin{m n:Int}(a:0<=m)(b:m<=n):a7u m n=some true:=by unfold a7u;simp_all
def f0c(F m L S:Int)(M:O Int)(f:0<=F/\F<=73048)(a:0<=m/\m<=73049)(c:0<=L/\L<=73049)(b:0<=S/\S<=100)(d:d9 FU (b2n (⟨F,m,L,S,M⟩:Rules)) (⟨F,m,L,S,M⟩,0)=some true):a5x ⟨F,m,L,S,M⟩=some true:=by
 unfold a5x m7;have e:(if decide (F>=0)=true then some (decide (F<=73048))else some false)=some true:=by simp_all
 rw[e];simp [qA,tin a.1 a.2,tin c.1 c.2,tin b.1 b.2,qU,qM,if_false];omega
def tvA(F m L S:Int):d9 FU (b2n (⟨F,m,L,S,[0,1,2]⟩:Rules)) (⟨F,m,L,S,[0,1,2]⟩,0)=some true:=rfl
def tvB(F m L S:Int):d9 FU (b2n (⟨F,m,L,S,[0,1]⟩:Rules)) (⟨F,m,L,S,[0,1]⟩,0)=some true:=rfl
def d5j{T:O Rules}(h:TrF T):a9n T=some 0:=by
 obtain⟨m,a,i,rfl|rfl|rfl⟩:=h;.have b:a5x (⟨0,m,730,25,[0,1,2]⟩:Rules)=some true:=f0c _ _ _ _ _ (by decide) ⟨a,by omega⟩ (by decide) (by decide) (tvA _ _ _ _);unfold a9n;have e:((([(⟨0,m,730,25,[0,1,2]⟩:Rules)]:O Rules).length:Int)==0)=false:=rfl;have g:c7 [(⟨0,m,730,25,[0,1,2]⟩:Rules)] 0=some _:=rfl;rw[b08 (by unfold FU;omega)];unfold b27;simp only[g,qA,b];rfl
 .have b:a5x (⟨0,m,730,25,[0,1]⟩:Rules)=some true:=f0c _ _ _ _ _ (by decide) ⟨a,by omega⟩ (by decide) (by decide) (tvB _ _ _ _);have d:a5x (⟨35000,m,365,30,[0,1,2]⟩:Rules)=some true:=f0c _ _ _ _ _ (by decide) ⟨a,by omega⟩ (by decide) (by decide) (tvA _ _ _ _);unfold a9n;have e:((([(⟨0,m,730,25,[0,1]⟩:Rules),⟨35000,m,365,30,[0,1,2]⟩]:O Rules).length:Int)==0)=false:=rfl;have g:c7 [(⟨0,m,730,25,[0,1]⟩:Rules),⟨35000,m,365,30,[0,1,2]⟩] 0=some _:=rfl;have f:c7 [(⟨0,m,730,25,[0,1]⟩:Rules),⟨35000,m,365,30,[0,1,2]⟩] (i64 (0+1))=some _:=rfl;have c:c7 [(⟨0,m,730,25,[0,1]⟩:Rules),⟨35000,m,365,30,[0,1,2]⟩] (i64 (i64 (0+1)-1))=some _:=rfl;rw[b08 (by unfold FU;omega)];unfold b27;simp only[g,qA,b];rw[b08 (by unfold FU;omega)];simp only[f,c,qA,d];rfl
 .have b:a5x (⟨0,m,730,25,[0,1,2]⟩:Rules)=some true:=f0c _ _ _ _ _ (by decide) ⟨a,by omega⟩ (by decide) (by decide) (tvA _ _ _ _);have d:a5x (⟨36000,m,730,25,[0,1]⟩:Rules)=some true:=f0c _ _ _ _ _ (by decide) ⟨a,by omega⟩ (by decide) (by decide) (tvB _ _ _ _);unfold a9n;have e:((([(⟨0,m,730,25,[0,1,2]⟩:Rules),⟨36000,m,730,25,[0,1]⟩]:O Rules).length:Int)==0)=false:=rfl;have g:c7 [(⟨0,m,730,25,[0,1,2]⟩:Rules),⟨36000,m,730,25,[0,1]⟩] 0=some _:=rfl;have f:c7 [(⟨0,m,730,25,[0,1,2]⟩:Rules),⟨36000,m,730,25,[0,1]⟩] (i64 (0+1))=some _:=rfl;have c:c7 [(⟨0,m,730,25,[0,1,2]⟩:Rules),⟨36000,m,730,25,[0,1]⟩] (i64 (i64 (0+1)-1))=some _:=rfl;rw[b08 (by unfold FU;omega)];unfold b27;simp only[g,qA,b];rw[b08 (by unfold FU;omega)];simp only[f,c,qA,d];rfl
def b7n:O Rules->Int->Rules|[a],_=>a|[a,b],d=>if b.From<=d then b else a|_,_=>⟨0,0,0,0,[]⟩
def e30{T:O Rules}(h:TrF T)(d:Int):0<=(b7n T d).PostingLimit/\(b7n T d).PostingLimit<=730/\0<=(b7n T d).Substantial/\(b7n T d).Substantial<=100/\b7n T d∈T:=by
 obtain⟨m,a,b,rfl|rfl|rfl⟩:=h;.simp[b7n]
 .simp [b7n];grind
 .simp [b7n];grind
def g97{T:O Rules}(h:TrF T):T.length<=2/\∀r∈T,0<=r.From/\r.From<=73048/\0<=r.PostingLimit/\r.PostingLimit<=730:=by obtain⟨m,a,b,rfl|rfl|rfl⟩:=h<;>simp
def clA:a7z [0,1,2]=some [0,1,2]:=rfl
def clB:a7z [0,1]=some [0,1]:=rfl
def g09{d:Int}(a:0<=d)(b:d<=73048):m7 d=some true:=by unfold m7;simp_all
def g2p{T:O Rules}(h:TrF T){d:Int}(i:0<=d)(e:d<=73048):b2q T d=some (b7n T d,true):=by
 have c:m7 d=some true:=g09 i e;obtain⟨m,k,j,rfl|rfl|rfl⟩:=h;.have g:c7 [(⟨0,m,730,25,[0,1,2]⟩:Rules)] 0=some _:=rfl;have b:((([(⟨0,m,730,25,[0,1,2]⟩:Rules)]:O Rules).length:Int)-1)=0:=rfl;unfold b2q b7n;rw[c,qA];simp only[qU,qM,if_false,b];rw[b08 (by unfold FU;omega)];unfold b81;rw[if_neg (by simp)];simp only[g,qA];rw[if_pos (by simp_all)];simp only[clA,qA]
 .have g:c7 [(⟨0,m,730,25,[0,1]⟩:Rules),⟨35000,m,365,30,[0,1,2]⟩] 0=some _:=rfl;have f:c7 [(⟨0,m,730,25,[0,1]⟩:Rules),⟨35000,m,365,30,[0,1,2]⟩] 1=some _:=rfl;have b:((([(⟨0,m,730,25,[0,1]⟩:Rules),⟨35000,m,365,30,[0,1,2]⟩]:O Rules).length:Int)-1)=1:=rfl;unfold b2q b7n;rw[c,qA];simp only[qU,qM,if_false,b];rw[b08 (by unfold FU;omega)];unfold b81;rw[if_neg (by simp)];simp only[f,qA];by_cases a:(35000:Int)<=d;.rw[if_pos (by simp_all),if_pos a];simp only[clA,qA]
  .rw[if_neg (by simp_all),if_neg a,b08 (by unfold FU;omega)];simp only[show(1:Int)-1=0from rfl];rw[if_neg (by simp)];simp only[g,qA];rw[if_pos (by simp_all)];simp only[clB,qA]
 .have g:c7 [(⟨0,m,730,25,[0,1,2]⟩:Rules),⟨36000,m,730,25,[0,1]⟩] 0=some _:=rfl;have f:c7 [(⟨0,m,730,25,[0,1,2]⟩:Rules),⟨36000,m,730,25,[0,1]⟩] 1=some _:=rfl;have b:((([(⟨0,m,730,25,[0,1,2]⟩:Rules),⟨36000,m,730,25,[0,1]⟩]:O Rules).length:Int)-1)=1:=rfl;unfold b2q b7n;rw[c,qA];simp only[qU,qM,if_false,b];rw[b08 (by unfold FU;omega)];unfold b81;rw[if_neg (by simp)];simp only[f,qA];by_cases a:(36000:Int)<=d;.rw[if_pos (by simp_all),if_pos a];simp only[clB,qA]
  .rw[if_neg (by simp_all),if_neg a,b08 (by unfold FU;omega)];simp only[show(1:Int)-1=0from rfl];rw[if_neg (by simp)];simp only[g,qA];rw[if_pos (by simp_all)];simp only[clA,qA]
def f5d(f:aQ)(s:Int):Tot (b63 f s) λ_=>True:=by unfold b63;simp only[y3,o4,qA];exact tD (λ_=>tC trivial) λ_=>tD (λ_=>tC trivial) λ_=>tC trivial
def g8l(x:earnings_income):Prop:=Nrm x.days
def e0j(l:O aQ)(c:O nQ)(s:Int)(w:l.length<=1000)(n:c.length<=2^30):Tot (b13 l c s) λr=>r.length<=1000/\∀x∈r,g8l x:=by
 unfold b13;rw[b9a l (by omega),qA];have d:=length_filter_le cur l;generalize l.filter cur=q at d;refine tH q (λ(t)i=>(t,q,i)) (λt i=>t.length<=i/\∀x∈t,g8l x) (by omega) (λe t i x o m b g=>?_) (λe t b=>?_) [] ⟨by simp,by simp⟩
 .dsimp only;rw[if_pos (o6 o)];simp [e7 m,qA];have a:=g t ⟨by omega,b.2⟩;refine tA (f5d x s) λr _=>tD (λ_=>a) λ_=>tA (e0f c _ _ n) λz p=>tA (d4t _ (by omega)) λv k=>?_;rw[c27 l (by omega),qA];refine tA (d4t _ (by omega)) λu f=>tD (λ_=>?_) λ_=>a;rw[p6 (by simp [qR,qS];omega)];refine g _ ⟨by simp;omega,λy j=>?_⟩;rcases qK.1 j with h|h;.exact b.2 y h
  .rw[qF]at h;subst h;exact f.1
 .dsimp only;rw[if_neg (g9 _)];exact tC ⟨by omega,b.2⟩
def c8k:∀(l:O (Int×Int))(k v j:Int),j∈(a62 l k v).map (·.1)↔j=k\/j∈l.map (·.1)
 |[],k,v,j=>by simp[a62]|q::r,k,v,j=>by
   unfold a62;by_cases b:q.1=k;.simp_all
   .have c:=c8k r k v j;grind
def d5v:∀(l:O (Int×Int))(k v:Int),(l.map (·.1)).Nodup->((a62 l k v).map (·.1)).Nodup
 |[],k,v,_=>by simp[a62]|q::r,k,v,h=>by
   rw[List.map_cons,List.nodup_cons]at h;unfold a62;by_cases b:q.1=k;.simp_all
   .rw[if_neg b,List.map_cons,List.nodup_cons];refine⟨λa=>?_,d5v r k v h.2⟩;rcases(c8k r k v q.1).1 a with e|e;all_goals simp_all
def YrM(m:O (Int×Int)):Prop:=(m.map (·.1)).Nodup/\∀k∈m.map (·.1),0<=k/\k<=2100
def YrM.set{m:O (Int×Int)}(h:YrM m){k:Int}(b:0<=k/\k<=2100)(v:Int):YrM (a62 m k v):=⟨d5v m k v h.1,λj a=>by
 rcases(c8k m k v j).1 a with e|e;.omega
 .exact h.2 j e⟩
def YrM.len{m:O (Int×Int)}(h:YrM m):m.length<=2101:=by
 have:=d35 h.1 (b:=(List.range 2101).map λ(k:Nat)=>(k:Int)) λx a=>by have:=h.2 x a;exact List.mem_map.2 ⟨x.toNat,by grind,by omega⟩
 simp_all
def YrM.keys{m:O (Int×Int)}(h:YrM m):Tot (c8c m) λr=>r.length<=2101/\∀k∈r,0<=k/\k<=2100:=by have c:=h.len;unfold c8c;rw[if_pos ⟨by rw[qX];intro p a;have:=h.2 p.1 (List.mem_map.2 ⟨p,a,rfl⟩);unfold c4v;grind,by omega⟩];have a:(b89 (m.map (·.1))).Perm _:=a8p _;exact tC ⟨by rw[a.length_eq,List.length_map];omega,λk b=>h.2 k (a.subset b)⟩
def e8n(l:O aQ)(c:O nQ)(s X:Int)(t:O Rate)(T:l.length<=1000)(F:c.length<=2^30):Tot (b4h l c s X t) λr=>r.1.length<=2101:=by
 unfold b4h;simp only[a1z,y3,qA];refine tA (Q:=λb=>b=false->t.length<=40) (tD (λ_=>tC λh=>by grind) λ_=>tA (b8a t) λr Z=>tC λh=>Z (by simp_all)) λb N=>tD (λ_=>tC (by simp)) λh=>?_;have U:=N (by simp_all);refine tA (e0j l c s T F) λa u=>?_;obtain⟨W,u⟩:=u;refine tH a (λ(m:O (Int×Int))i=>(a,m,i)) (λm _=>YrM m) (by omega) (λg m i x C j E L=>?_) (λg m E=>?_) [] ⟨by simp,by simp⟩
 .rw[if_pos (o6 C)];simp only[e7 j,qA];have V:Nrm x.days:=u x (qE j);have B:=c3n V;refine tH x.days (λ(m:O (Int×Int))k=>(a,m,k)) (λm _=>YrM m) (by omega) (λd m k y o D e f=>?_) (λd m e=>?_) m E;.rw[if_pos (o6 o)];simp only[e7 D,qA];refine tA (c2d _) λK P=>tA (c2d _) λd2 h2=>?_;obtain⟨Y,_⟩:=P;refine tO (I:=λv=>v.1=a/\YrM v.2.1/\0<=v.2.2/\v.2.2<=2101) (μ:=λv=>(2200-v.2.2).toNat) ⟨rfl,e,Y.1,by show K.1<=2101;omega⟩ (by show(2200-K.1).toNat<_;omega) ?_;rintro r3⟨w,M,R⟩⟨rfl,G,H,S⟩J;dsimp only at G H S⊢;refine tD (λF=>?_) λ_=>f M G;simp at F;rw[a42 H (by omega)];exact J _ ⟨rfl,G.set ⟨H,by omega⟩ 0,by dsimp only;omega,by dsimp only;omega⟩ (by dsimp only;omega)
  simp_all
 .rw[if_neg (g9 _)];refine tA E.keys λA o=>?_;simp only[map_id'];refine tH A (λ(q:O (Int×Int)×O Earning)i=>(a,q.1,q.2,A,i)) (λq i=>q.2.length<=i) (by omega) (λg q i y C D e L=>?_) (λg q e=>?_) (m,[]) (by simp)
  .rw[if_pos (o6 C)];simp only[e7 D,qA];refine tH a (λ(m:O (Int×Int))k=>(a,m,q.2,A,k)) (λ_ _=>True) (by omega) (λd m k x o j _ f=>?_) (λd m _=>?_) q.1 trivial;.rw[if_pos (o6 o)];simp only[e7 j,qA];have B:=c3n (show Nrm x.days from u x (qE j));refine tA (f3y _) λR _=>tA (d4t _ (by omega)) λz hz=>tA (d4h (by omega)) λn _=>tD (λ_=>f m trivial) λ_=>tA (f4c _ _) λp _=>tA (d9v _ _ _ _ t _ (by decide) U) λw _=>tD (λ_=>tC (by simp)) λ_=>f _ trivial
   .rw[if_neg (g9 _)];refine tD (λ_=>tC (by simp)) λ_=>?_;rw[p6 (by simp only[qR,qS];omega),qA];exact L (m,_) (by simp;omega)
  .rw[if_neg (g9 _)];exact tC (by grind)
def b6y{l:O Span}(s:Span)(a:l.length<=2^40):Tot (s6 l s) λr=>Nrm r/\r.length<=l.length:=by let ⟨r,c,b,f⟩:=c95 l s a;let ⟨z,g,e,h,d⟩:=c1p l a;refine⟨r,c,b,Nat.le_trans (d80 s b  λx=>?_) d⟩;constructor;all_goals simp_all
def e5e(g:O gQ)(a b:Int)(k:g.length<=2^30):Tot (b1e g a b) λr=>r.length<=g.length:=by
 refine tH g _ (λs i=>s.length<=i) (by omega) (λc s i y f h d e=>?_) (λc s d=>?_) [] (by simp);.unfold b1h;rw[if_pos (o6 f)];simp only[e7 h,qA,o4];refine tD (λ_=>?_) λ_=>e s (by omega);rw[p6 (by simp [qR,qS];omega)];simp_all
 .unfold b1h;dsimp only;rw[if_neg (g9 _)];exact tA (b2p (by omega)) λr j=>tC (by omega)
def e9q(k:Int)(d:O Span)(x:O Period)(b:Scheme)(o:O Period)(m:d.length<=2^30)(l:o.length<=2^30):Tot (a1s k d x b o) λr=>r.2.length=o.length+d.length/\∀p∈r.2,p∈o\/p.State=b.State:=by
 unfold a1s;refine tH d (λ(s)i=>(s,([]),i)) (λs i=>s.length=o.length+i/\∀p∈s,p∈o\/p.State=b.State) (by omega) (λa s i y g j c h=>?_) (λa s c=>?_) o ⟨by simp,λp f=>.inl f⟩;.dsimp only;rw[if_pos (o6 g)];simp [e7 j,qA];rw[p6 (by simp [qR,qS];omega)];exact h _ ⟨by simp;omega,λp f=>(b4a f).elim (c.2 p) λe=>.inr (e▸rfl)⟩
 .dsimp only;rw[if_neg (g9 _)];exact tC c
def e53(v:Version)(k:Int)(f:v.Credits.length<=2^30):Tot (b43 v k) λ_=>True:=by
 refine tA (Q:=λn=>n<(v.Credits.length:Int)) ?_ λn c=>tD (λ_=>tC trivial) λh=>?_
 .refine tH v.Credits (λ(_)i=>i) (λ_ _=>True) (by omega) (λa s i y e b _ d=>?_) (λa s _=>?_) () trivial;.unfold q0 b56;rw[if_pos (o6 e)];simp [e7 b,qA];exact tD (λ_=>tC (by omega)) λ_=>d () trivial
  .unfold q0;rw[if_neg (g9 _)];exact tC (by omega)
 .simp at h;exact tA (c6 h c) λ_ _=>tC trivial
def e59(l:O aQ)(a b:Int)(h:l.length<=1000):Tot (b7p l a b) λr=>r.length<=l.length:=by
 refine tH l _ (λs i=>s.length<=i) (by omega) (λc s i y d e f g=>?_) (λc s f=>?_) [] (by simp);.unfold b6o;rw[if_pos (o6 d)];simp [e7 e,qA,b6f,o4];refine tD (λ_=>?_) λ_=>g s (by omega);rw[p6 (by simp [qR,qS];omega)];simp_all
 .unfold b6o;dsimp only;rw[if_neg (g9 _),c27 l (by omega),qA];exact tA (b6y _ (by omega)) λr j=>tC (by omega)
def g6g(l:O Period)(a b:Int)(m:l.length<=2^30):Tot (b9z l a b) λr=>Nrm r/\r.length<=l.length/\(r≠[]->∃p∈l,p.State=a):=by
 unfold b9z;refine tH l _ (λs i=>s.length<=i/\(s≠[]->∃p∈l,p.State=a)) (by omega) (λc s i y k j f g=>?_) (λc s f=>?_) [] ⟨by simp,λh=>absurd rfl h⟩;.dsimp only;rw[if_pos (o6 k)];simp only[e7 j,qA,y3,o4];refine tD (λh=>?_) λ_=>g s ⟨by omega,f.2⟩;rw[p6 (by simp [qR,qS];omega)];exact g _ ⟨by simp;omega,λ_=>⟨y,qE j,by simp at h;exact h.1⟩⟩
 .dsimp only;rw[if_neg (g9 _)];exact tA (b2p (by omega)) λr d=>tC ⟨d.1,by omega,λh=>f.2 λe=>h (List.length_eq_zero_iff.1 (by rw[e]at d;simpa using d.2))⟩
def d8s:∀(l:O aQ)(k:Int),l.countP (λu=>decide (u.Ref<k))+l.countP (λu=>u.Ref==k)=l.countP (λu=>decide (u.Ref<k+1))|[],_=>rfl|u::l,k=>by have b:=d8s l k;grind
def e0n(l:O aQ)(s:Int)(b:Span)(m:Int)(N:l.length<=1000):Tot (b1c l s b m) λr=>r.length<=l.length:=by
 have D:=length_filter_le cur l;unfold b1c lpC;refine tO (I:=λv:Span×O Span×Int=>1<=v.2.2/\v.2.2<=100/\v.2.1.length<=(l.filter cur).countP (λu=>decide (u.Ref<v.2.2))) (μ:=λv=>(100-v.2.2).toNat) ⟨Int.le_refl _,by simp_all,Nat.zero_le _⟩ (by simp_all) ?_;rintro r⟨k,e,c⟩⟨E,F,B⟩C;dsimp only at E F B⊢;have w:e.length<=l.length:=by have:=countP_le_length (p:=λu:aQ=>decide (u.Ref<c)) (l:=l.filter cur);omega
 refine tD (λx=>?_) λ_=>tA (b2p (by omega)) λz M=>tC (by omega);simp at x;rw[b9a l (by omega),qA];have A:=d8s (l.filter cur) c;have j:∀o:O Span,o.length<=e.length+(l.filter cur).countP (λu=>u.Ref==c)->Tot (r (k,o,i64 (c+1))) _:=λo K=>by rw[a42 (by omega) (by omega)];exact C _ ⟨by dsimp only;omega,by dsimp only;omega,by dsimp only;omega⟩ (by dsimp only;omega)
 generalize l.filter cur=q at*;refine tH q (λ(d:O Span)i=>(k,e,d,q,i)) (λd i=>d.length<=(q.take i).countP (λu=>u.Ref==c)) (by omega) (λh d i y G t n f=>?_) (λh d n=>?_) [] (by simp)
 .have g:d.length<=1000:=by have:=countP_le_length (p:=λu:aQ=>u.Ref==c) (l:=q.take i);rw[List.length_take]at this;omega
  rw[if_pos (o6 G)];simp only[e7 t,qA,o4];rw[a9h t,countP_append]at f;by_cases a:((y.Kind==10&&y.State==s)&&y.Ref==c)=true;.rw[if_pos a,p6 (by simp only[qR,qS];omega),qA];simp only[qB]at a;exact f _ (by simp[a.2];omega)
  .rw[if_neg a];exact f d (by omega)
 .rw[List.take_length]at n;have g:d.length<=1000:=by have:=countP_le_length (p:=λu:aQ=>u.Ref==c) (l:=q);omega
  dsimp only;rw[if_neg (g9 _)];refine tD (λ_=>?_) λ_=>j e (by omega);rw[c27 l (by omega),qA];refine tA (b6y _ (by omega)) λP H=>tA (b6y _ (by omega)) λL J=>tA (d18 _ (by omega)) λQ R=>?_;rw[p6 (by omega),qA];exact j _ (by rw[qL];omega)
def e4v(l:O aQ)(g:O gQ)(a:O Scheme)(b:Int)(G:l.length<=1000)(hg:g.length<=1000)(hs:a.length<=10)(H:∀x∈a,x.Version.Credits.length<=2^30):Tot (a7e l g a b) λr=>r.1.length<=a.length*(g.length+6*l.length)/\∀p∈r.1,∃x∈a,p.State=x.State:=by
 unfold a7e;simp only[a1z,qA];refine tD (λ_=>tC (by simp)) λ_=>?_;refine tO (I:=λv:Int=>0<=v/\v<=(a.length:Int)) (μ:=λv=>((a.length:Int)-v).toNat) ⟨by omega,by omega⟩ (by omega) ?_;rintro r v⟨N,g2⟩T;refine tD (λE=>?_) λ_=>?_
 .simp at E;refine tA (c6 N E) λx _=>?_;refine tA (Q:=λ_=>True) (orT (tA (Q:=λ_=>True) (tD (λH=>?_) λ_=>tC trivial) λ_ _=>tC trivial)) λ_ _=>tD (λ_=>tC (by simp)) λ_=>?_;.simp at H;rw[e9 (n:=v-1) (by omega) (by omega)];exact tA (c6 (by omega) (by omega)) λ_ _=>tC trivial
  .rw[a42 N (by omega)];exact T _ ⟨by omega,by omega⟩ (by omega)
 .refine tH a (λ(o:O Period)i=>(o,([]:O Period),(⟨0,b⟩:Span),i)) (λo i=>o.length<=i*(g.length+6*l.length)/\∀p∈o,∃x∈a,p.State=x.State) (by omega) (λL o i x U J C D=>?_) (λL o C=>?_) [] (by simp)
  .obtain⟨C,X⟩:=C;have w:=qE J;have hB:i*(g.length+6*l.length)<=10*7000:=Nat.mul_le_mul (by omega) (by omega);rw[if_pos (o6 U)];simp only[e7 J,qA];refine tA (e5e g _ _ (by omega)) λu hu=>tA (b6y _ (by omega)) λc E=>tA (e9q _ _ _ _ _ (by omega) (by omega)) λK h=>?_;unfold b3o;rw[qA];refine tH [(⟨6,2⟩:Anon195),(⟨9,3⟩:Anon195),(⟨7,4⟩:Anon195),(⟨8,5⟩:Anon195),(⟨10,6⟩:Anon195),(⟨5,7⟩:Anon195)] (λ(o:O Period)k=>(o,([]:O Period),(⟨0,b⟩:Span),x,[(⟨6,2⟩:Anon195),(⟨9,3⟩:Anon195),(⟨7,4⟩:Anon195),(⟨8,5⟩:Anon195),(⟨10,6⟩:Anon195),(⟨5,7⟩:Anon195)],k,())) (λo k=>o.length<=K.2.length+k*l.length/\∀p∈o,∃x∈a,p.State=x.State) (by simp) (λm q k y V S j B=>?_) (λm q j=>?_) K.2 ⟨by simp,λp M=>(h.2 p M).elim (X p) λe=>⟨x,w,e⟩⟩
   .have Z:k<6:=by omega
    have hkl:k*l.length<=6*1000:=Nat.mul_le_mul (by omega) G;have W:(k+1)*l.length=k*l.length+l.length:=Nat.succ_mul _ _;rw[if_pos (o6 V)];simp only[e7 S,qA];obtain⟨j,A⟩:=j;have h:=h.1;have t:=B q ⟨by omega,A⟩;have s:∀d:O Span,d.length<=l.length->Tot (Option.bind (a1s y.rank d [] x q) λF=>m _) _:=λd Y=>tA (e9q _ _ _ _ _ (by omega) (by omega)) λz R=>B z.2 ⟨by omega,λp M=>(R.2 p M).elim (A p) λe=>⟨x,w,e⟩⟩;refine tA (e53 _ _ (H x (qE J))) λcr _=>tD (λ_=>t) λ_=>tA (e59 l _ _ G) λd Y=>tA (b6y _ (by omega)) λe he=>tA (Q:=λ_=>True) (tD (λ_=>tC trivial) λ_=>tC trivial) λ_ _=>tD (λ_=>tA (e0n l _ _ _ G) λf P=>s f P) λ_=>tD (λ_=>tA (d18 _ (by omega)) λf P=>s f (by omega)) λ_=>s e (by omega)
   .refine D q ⟨?_,j.2⟩;have h6:q.length<=K.2.length+6*l.length:=j.1;have h:=h.1;rw[Nat.succ_mul];omega
  .rw[if_neg (g9 _)];exact tC C
abbrev Bd:=Ar 6 (Ar 7 (O Span))
def f3g(b:Bd)(n:Nat):Prop:=∀r∈b.l,∀x∈r.l,x.length<=n
def b6b{a:Type}{l:O a}{i:Int}{y x:a}(h:x∈a8h l i y):x=y\/x∈l:=by unfold a8h at h;grind
def c47{n:Nat}{b:Type}(a:Ar n b){i:Int}(c:0<=i)(d:i<(n:Int)):Tot (c7 a.l i) λx=>x∈a.l:=c6 c (by rw[a.h];omega)
def k59{n:Nat}{b:Type}(a:Ar n b){i:Int}(d:0<=i)(c:i<(n:Int)):∃x,c7 a.l i=some x/\x∈a.l:=by let ⟨x,h,e⟩:=c47 a d c;exact⟨x,h,e⟩
def k4t{a:Type}{l:O a}{i j:Int}{y z:a}(hi:0<=i)(h:c7 (a8h l i y) j=some z):(j=i/\z=y)\/c7 l j=some z:=by
 unfold c7 a8h at*;split at h
 .by_cases e:j=i;.subst e;exact .inl ⟨rfl,by grind⟩
  .rw[List.getElem?_set_ne (by omega)]at h;simp_all
 .cases h
def BdS(b:Bd)(c:O Period):Prop:=∀(s k:Int)(a:Ar 7 (O Span))(x:O Span),c7 b.l s=some a->c7 a.l k=some x->x≠[]->∃p∈c,p.State=s
def e1u(c:O Period)(R:c.length<=2^20):Tot (b2x c) λo=>∃b:Bd,o=some b/\f3g b c.length/\BdS b c:=by
 unfold b2x lpC;refine tO (I:=λv=>(f3g v.1 c.length/\BdS v.1 c)/\0<=v.2/\v.2<=6) (μ:=λv=>(6-v.2).toNat) ⟨⟨(λr t x h=>by have m:r=arZ 7 []:=eq_of_mem_replicate t;subst m;have l:x=[]:=eq_of_mem_replicate h;simp_all),(λs k a x g f h=>by
  unfold c7 at g f;split at g
  .split at f;.have m:a=arZ 7 []:=eq_of_mem_replicate (qE g);subst m;exact absurd (eq_of_mem_replicate (qE f)) h
   .cases f
  .cases g)⟩,Int.le_refl _,by omega⟩ (by omega) ?_;rintro r⟨b,s⟩⟨F,u,P⟩G;refine tD (λA=>?_) λ_=>tC ⟨b,rfl,F⟩;simp at A;refine tO (I:=λv=>(f3g v.1 c.length/\BdS v.1 c)/\0<=v.2/\v.2<=7) (μ:=λv=>(7-v.2).toNat) ⟨F,Int.le_refl _,by omega⟩ (by omega) ?_;rintro N⟨p,k⟩⟨i,C,Q⟩n;refine tD (λL=>?_) λ_=>?_
 .simp at L;refine tA (g6g c _ _ (by omega)) λx h=>?_;obtain⟨a,D,t⟩:=k59 p u A;simp only[D,qA];have w:d0n 7 k=some ():=by unfold d0n;rw[if_pos (by omega)]
  rw[w,qA,a42 C (by omega)];refine n _ ⟨⟨λE q y B=>?_,λH K j J g f d=>?_⟩,by omega,by omega⟩ (by omega);rotate_left
  .rcases k4t u (show c7 _ H=some j from g)with⟨e,l⟩|e
   .subst e l;rcases k4t C (show c7 _ K=some J from f)with⟨e,l⟩|e;.subst e l;exact h.2.2 d
    .exact i.2 _ _ _ _ D e d
   .exact i.2 _ _ _ _ e f d
  rcases b6b (show E∈a8h p.l s _ from q)with e|e
  .subst e;rcases b6b (show y∈a8h a.l k x from B)with e|e;.subst e;omega
   .exact i.1 a t y e
  .exact i.1 E e y B
 .rw[a42 u (by omega)];exact G _ ⟨i,by omega,by omega⟩ (by omega)
section
variable {b:Bd} {n:Nat} {c:O Period}
def d3v(L:f3g b n)(H:BdS b c)(hn:n<=2^20)(d:Int):Tot (a4a b d) λr=>r.1≠0->r.2≠[]/\r.2.length<=100/\∀x∈r.2,(0<=x/\x<6)/\∃p∈c,p.State=x:=by
 unfold a4a lpC;refine tO (I:=λv:O Int×Int=>0<=v.2/\v.2<=7/\(v.1.length:Int)<=6*v.2/\∀x∈v.1,(0<=x/\x<6)/\∃p∈c,p.State=x) (μ:=λv=>(7-v.2).toNat) ⟨Int.le_refl _,by omega,by simp_all,by simp⟩ (by omega) ?_;rintro r⟨o,k⟩⟨q,J,F,z⟩B;dsimp only at q J F z⊢;refine tD (λt=>?_) λ_=>tC λh=>absurd rfl h;simp at t;refine tO (I:=λv:O Int×Int=>0<=v.2/\v.2<=6/\(v.1.length:Int)<=6*k+v.2/\∀x∈v.1,(0<=x/\x<6)/\∃p∈c,p.State=x) (μ:=λv=>(6-v.2).toNat) ⟨Int.le_refl _,by omega,by show(o.length:Int)<=6*k+0;omega,z⟩ (by omega) ?_;rintro M⟨K,s⟩⟨i,A,G,a⟩g;dsimp only at i A G a⊢;refine tD (λm=>?_) λ_=>?_
 .simp at m;obtain⟨f,u,E⟩:=k59 b i m;obtain⟨x,w,D⟩:=k59 f q t;rw[u,qA,w,qA];have:=L f E x D;rw[c03 x d (by omega),qA,a42 i (by omega)];refine tD (λj=>?_) λ_=>g _ ⟨by omega,by omega,by dsimp only;omega,a⟩ (by omega);rw[p6 (by simp only[qR,qS];omega),qA];refine g _ ⟨by omega,by omega,by simp;omega,λy C=>?_⟩ (by omega);rcases qK.1 C with h|h;.exact a y h
  .rw[qF]at h;subst h;exact⟨⟨i,m⟩,H _ _ _ _ u w (by rintro rfl;simp[inB]at j)⟩
 .refine tD (λh=>tC λ_=>⟨?_,?_,a⟩) λ_=>?_;.intro e;have e:K=[]:=e;rw[e]at h;simp at h
  .dsimp only;omega
  .rw[a42 q (by omega)];exact B _ ⟨by omega,by omega,by dsimp only;omega,a⟩ (by omega)
def c1n(i:f3g b n)(hn:n<=2^20){s:Int}(g:0<=s)(h:s<6)(d:Int):Tot (a1b b s d) λ_=>True:=by refine tA (c47 b g h) λa f=>tA (c47 a (by omega) (by omega)) λx e=>?_;have:=i a f x e;exact tA (b6y _ (by omega)) λz j=>tA (e41 (by omega)) λ_ _=>tD (λ_=>tC trivial) λ_=>tC trivial
def c54(i:f3g b n)(hn:n<=2^20){s:Int}(g:0<=s)(h:s<6)(d:Int):Tot (a2f b s d) λ_=>True:=by refine tA (c47 b g h) λa f=>tA (c47 a (by omega) (by omega)) λx e=>?_;have:=i a f x e;exact tA (b6y _ (by omega)) λz j=>tA (g3h _ (by omega)) λ_ _=>tD (λ_=>tC trivial) λ_=>tC trivial
def d9b(m:f3g b n)(hn:n<=2^20)(l:O Int)(w:l≠[])(B:l.length<=100)(j:∀x∈l,0<=x/\x<6)(d:Int):Tot (a69 b l d) λr=>r∈l:=by
 have D:=List.length_pos_iff.2 w;refine tA (c6 (by omega) (by omega)) λz A=>?_;rw[b26 (by omega) (by omega) (by omega),qA];have h:∀x∈(l.drop (1:Int).toNat).take ((l.length:Int).toNat-(1:Int).toNat),x∈l:=λx v=>mem_of_mem_drop (mem_of_mem_take v);have C:((l.drop (1:Int).toNat).take ((l.length:Int).toNat-(1:Int).toNat)).length<=100:=by rw[List.length_take];omega
 generalize(l.drop _).take _=q at h C;refine tH q _ (λs _=>s∈l) (by omega) (λt s i y u k g p=>?_) (λt s g=>?_) z A;.dsimp only;rw[if_pos (o6 u)];simp [e7 k,qA];have e:=h y (qE k);have f:=j y e;have a:=j s g;exact tA (c1n m hn f.1 f.2 d) λ_ _=>tA (c1n m hn a.1 a.2 d) λ_ _=>tD (λ_=>p y e) λ_=>p s g
 .dsimp only;rw[if_neg (g9 _)];have a:=j s g;refine tA (c1n m hn a.1 a.2 d) λ_ _=>tD (λ_=>tC g) λ_=>?_;refine tH l _ (λs _=>s∈l) (by omega) (λo s i y u k g p=>?_) (λo s g=>?_) s g;.rw[if_pos (o6 u)];simp [e7 k,qA];have e:=qE k;have f:=j y e;have a:=j s g;exact tA (c54 m hn f.1 f.2 d) λ_ _=>tA (c54 m hn a.1 a.2 d) λ_ _=>tD (λ_=>p y e) λ_=>p s g
  .rw[if_neg (g9 _)];exact tC g
def g5z(a:f3g b n)(f:BdS b c)(hn:n<=2^20)(d:Int):Tot (b17 b d) λr=>r.2.2=true->∃p∈c,p.State=r.1:=by refine tA (d3v a f hn d) λr i=>tD (λ_=>tC λh=>by cases h) λh=>?_;let ⟨k,j,e⟩:=i (by simp_all);exact tA (d9b a hn _ k j (λx g=>(e x g).1) d) λq l=>tC λ_=>(e q l).2
def CoS(c:O Period)(u:nQ):Prop:=(0<=u.Span.From/\u.Span.From<u.Span.To/\u.Span.To<=73049)/\∃p∈c,p.State=u.State
def g1x(D:f3g b n)(w:BdS b c)(hn:n<=2^20)(f t:Int)(k:f<t->0<=f/\t<=73049)(z o:O nQ)(E:o.length<=2^30)(d:∀u∈o,CoS c u):Tot (a72 f t b z o) λr=>r.2.length<=o.length+1/\∀u∈r.2,CoS c u:=by
 refine tA (g5z D w hn f) λq i=>?_;simp only[a1z,qA];refine tD (λ_=>tC ⟨by simp,d⟩) λg=>?_;simp at g;have i:=i g.1;have h:=k g.2;rcases h1f o with e|⟨A,y,e⟩;.subst e;exact tC ⟨by simp,λu a=>by simp at a;subst a;exact⟨⟨h.1,g.2,h.2⟩,i⟩⟩
 .subst e;have v:=d y (by simp);have p:(A++[y]).length=A.length+1:=by simp
  have s:A.length<2^62:=by omega
  have m:decide (((A++[y]).length:Int)>0)=true:=by simp
  simp only[m,if_true,(d3s A y s),qA];have B:i64 (((A++[y]).length:Int)-1)=(A.length:Int):=by rw[qL];simp only[qR,qS];rw[e9 (by omega) (by omega)];omega
  refine tD (λj=>?_) λ_=>?_
  .simp at j;rw[B,b26 (by omega) (by omega) (by omega),qA];have:(((A++[y]).drop (0:Int).toNat).take ((A.length:Int).toNat-(0:Int).toNat)).length<=A.length:=by rw[List.length_take];omega
   rw[p6 (by simp only[qR,qS];omega),qA];refine tC ⟨by simp,λu a=>(b4a a).elim (λa=>d u (by simp at a;simp[a])) λe=>?_⟩;subst e;have l:=v.1;have C:=g.2;exact⟨⟨l.1,by dsimp only;omega,h.2⟩,i⟩
  .rw[p6 (by grind),qA];refine tC ⟨by simp,λu a=>(b4a a).elim (d u) λe=>?_⟩;subst e;exact⟨⟨h.1,g.2,h.2⟩,i⟩
end
def deF(p:Int):O Int->O Int|[]=>[]|y::r=>if y=p then deF p r else y::deF y r
def de:O Int->O Int|[]=>[]|x::r=>x::deF x r
def d55:∀(A:O Int)(p y z:Int),deF p (A++[y,z])=if z=y then deF p (A++[y])else deF p (A++[y])++[z]
 |[],p,y,z=>by simp [List.nil_append,deF];grind|x::A,p,y,z=>by
   simp [List.cons_append,deF];split;.exact d55 A p y z
   .rw[d55 A x y z];grind
def g5p(A:O Int)(y z:Int):de (A++[y,z])=if z=y then de (A++[y])else de (A++[y])++[z]:=by cases A with|nil=>simp [List.nil_append,de,deF];grind|cons x A=>simp [List.cons_append,de];rw[d55];grind
def e9i{l:O Int}{m:Nat}(j:0<m){y z:Int}(d:l[m-1]?=some y)(g:l[m]?=some z):de (l.take (m+1))=if z=y then de (l.take m)else de (l.take m)++[z]:=by
 let ⟨h,b⟩:=qD.1 g;let ⟨a,f⟩:=qD.1 d;have c:l.take m=l.take (m-1)++[y]:=by have:=List.take_succ_eq_append_getElem   a;grind
 have e:l.take (m+1)=l.take (m-1)++[y,z]:=by rw[List.take_succ_eq_append_getElem h,b,c];simp
 rw[e,c,g5p]
def e13:∀(r:O Int)(p x:Int),x∈p::deF p r↔x∈p::r
 |[],p,x=>Iff.rfl|y::r,p,x=>by
   simp only[deF];split;.rename_i h;rw[e13 r p x,h];simp
   .have:=e13 r y x;simp_all
def h0k(l:O Int)(x:Int):x∈de l↔x∈l:=by cases l with|nil=>exact Iff.rfl|cons y r=>exact e13 r y x
def d15(l:O Int)(N:l.length<=1073741824)(k:Nat)(z:1<=k)(h:k<l.length)(v:de (l.take (k+1))=l.take k)(m:Nat)(F:m=l.length-k):∃r,d9 FU a1r (l,(k:Int),1,((k:Int),m))=some r/\r=de l:=by
 refine b9s (f:=a1r) (λs=>∃(c b:Nat)(a:O Int),s=(a,(c:Int),(b:Int),((k:Int),m))/\1<=b/\k+b<=l.length/\k<=c/\c+1<=k+b/\a.length=l.length/\a.take c=de (l.take (k+b))/\∀j,k+b-1<=j->a[j]?=l[j]?) (λs=>l.length-s.2.2.1.toNat) _ ⟨k,1,l,rfl,by omega,by omega,by omega,by omega,rfl,v.symm,λ_ _=>rfl⟩ (by omega) ?_;rintro s w⟨c,b,a,rfl,M,L,B,P,t,e,g⟩;unfold a1r;by_cases q:k+b<l.length
 .right;have o:l[k+b]?=some l[k+b]:=qG q;have n:l[k+b-1]?=some l[k+b-1]:=qG (by omega);have G:c7 a ((k:Int)+(b:Int))=some l[k+b]:=by rw[<-Int.natCast_add,b4c,g _ (by omega),o]
  have I:c72 a (k:Int) (b:Int)=some l[k+b]:=by unfold c72;grind
  have A:i64 ((b:Int)-1)=((b-1:Nat):Int):=by rw[e9 (by omega) (by omega)];omega
  have x:c7 a ((k:Int)+((b-1:Nat):Int))=some l[k+b-1]:=by rw[<-Int.natCast_add,b4c,show k+(b-1)=k+b-1by omega,g _ (Nat.le_refl _),n]
  have H:c72 a (k:Int) ((b-1:Nat):Int)=some l[k+b-1]:=by unfold c72;rw[if_pos (by omega),x]
  have J:c7 a (c:Int)=some (a[c]'(by omega)):=by exact qG _
  have d:=e9i (by omega) n o;have C:i64 ((b:Int)+1)=((b+1:Nat):Int):=by rw[e9 (by omega) (by omega)];simp
  have y:i64 ((c:Int)+1)=((c+1:Nat):Int):=by rw[e9 (by omega) (by omega)];simp
  have i:decide ((b:Int)<(m:Int))=true:=decide_eq_true (by omega);simp only[i,if_true,I,G,A,H,x,qA,J,C,y];by_cases p:l[k+b]=l[k+b-1];.rw[if_neg (by simpa using p)];rw[if_pos p]at d;exact⟨_,rfl,⟨c,b+1,a,rfl,by omega,by omega,B,by omega,t,by rw[e,<-d];rfl,λj E=>g j (by omega)⟩,by simp only[Int.toNat_natCast];omega⟩
  .rw[if_pos (by simpa using p)];rw[if_neg p]at d;refine⟨_,rfl,⟨c+1,b+1,a8h a (c:Int) l[k+b],rfl,by omega,by omega,by omega,by omega,by rw[a34];omega,?_,λj E=>?_⟩,by simp only[Int.toNat_natCast];omega⟩
   .have:a8h a (c:Int) l[k+b]=a.set c l[k+b]:=by unfold a8h;rw[if_pos (by omega),Int.toNat_natCast]
    rw[this,List.take_succ_eq_append_getElem (by rw[length_set];omega)];have K:(a.set c l[k+b]).take c=a.take c:=by rw[List.take_set,set_eq_of_length_le (by rw[List.length_take];omega)]
    rw[K,e,show k+(b+1)=k+b+1by omega,d];simp
   .have:a8h a (c:Int) l[k+b]=a.set c l[k+b]:=by unfold a8h;rw[if_pos (by omega),Int.toNat_natCast]
    rw[this,List.getElem?_set_ne (by omega)];exact g j (by omega)
 .left;have i:decide ((b:Int)<(m:Int))=false:=decide_eq_false (by omega);simp only[i,qM,if_false];have D:(b5l 0 a (c:Int)).length=a.length:=by unfold b5l;simp;omega
  rw[b26 (by omega) (by omega) (by omega),qA];unfold h1h;rw[if_pos (by simp;omega),qA,b26 (by omega) (by omega) (by omega),qA];refine⟨_,rfl,?_⟩;have u:k+b=l.length:=by omega
  rw[u,List.take_length]at e;rw[<-e];unfold b5l;simp only[Int.toNat_natCast,Int.toNat_zero,List.drop_zero,Nat.sub_zero];rw[List.take_append_of_le_length (by rw[List.length_take];omega),List.take_take,Nat.min_self]
def d4m(l:O Int)(e:l.length<=1073741824)(a:O Int×Int->A3 (O Int))(k:Nat)(b:1<=k)(h:k<l.length):a0c a (l,(k:Int))=if l[k]=l[k-1]then d9 FU a1r (l,(k:Int),1,((k:Int),((l.drop k).take (l.length-k)).length))else a (l,((k+1:Nat):Int)):=by
 have f:c7 l (k)=some l[k]:=by rw[b4c];simp_all
 have d:i64 ((k)-1)=((k-1:Nat)):=by rw[e9 (by omega) (by omega)];omega
 have i:c7 l (i64 ((k)-1))=some l[k-1]:=by rw[d,b4c];simp_all
 have g:a1x l (k) (l.length)=some ((l.drop k).take (l.length-k)):=by rw[b26 (by omega) (by omega) (by omega)];simp
 have j:i64 ((k)+1)=((k+1:Nat)):=by rw[e9 (by omega) (by omega)];simp
 unfold a0c;grind
def d7l(l:O Int)(a:O Int×Int->A3 (O Int)):a0c a (l,(l.length:Int))=some l:=by unfold a0c;simp_all
def b98(l:O Int)(d:l.length<=1073741824):a0n l=some (de l):=by
 unfold a0n;by_cases o:l.length<2;.cases l with|nil=>rfl|cons x r=>cases r with|nil=>rfl|cons y r=>grind
 .rw[if_neg (by grind)];obtain⟨r,j,i⟩:=b9s (f:=a0c) (λs=>∃k:Nat,s=(l,(k:Int))/\1<=k/\k<=l.length/\de (l.take k)=l.take k) (λs=>l.length-s.2.toNat) _  ⟨1,rfl,by omega,by omega,by cases l with|nil=>rfl|cons x r=>rfl⟩ (Nat.lt_of_le_of_lt (Nat.sub_le _ _) (Nat.lt_of_le_of_lt d (by decide))) (by
   rintro s e⟨k,rfl,b,n,g⟩;by_cases h:k<l.length
   .have c:=e9i   (by omega) (qG (by omega)) (qG h);rw[d4m l d e k b h];by_cases a:l[k]=l[k-1];.left;rw[if_pos a];rw[if_pos a,g]at c;exact d15 l d k b h c _ (by simp_all)
    .right;rw[if_neg a];refine⟨_,rfl,⟨k+1,rfl,by omega,h,?_⟩,by omega⟩;simp_all
   .have:k=l.length:=by omega
    subst this;rw[d7l];simp_all);simp_all
def e9n(a b:O Int)(g:a.length<=2^30):Tot (a88 a b) λ_=>True:=by
 refine tD (λ_=>tC trivial) λh=>?_;have j:(a.length:Int)=b.length:=by simp_all
 refine tH a (λ(_)i=>i) (λ_ _=>True) (by omega) (λc s i y d f _ e=>?_) (λc s _=>?_) () trivial;.unfold a8x;rw[if_pos (o6 d),e7 f,qA];exact tA (c6 (by omega) (by omega)) λ_ _=>tD (λ_=>tC trivial) λ_=>e () trivial
 .unfold a8x;rw[if_neg (g9 _)];exact tC trivial
def g0g(s:O Int):(de s).length<=s.length:=by
 have a:∀(r:O Int)(p:Int),(deF p r).length<=r.length:=by intro r;induction r with|nil=>intro p;exact Nat.le_refl _|cons y r b=>simp [deF];grind
 cases s with|nil=>simp[de]|cons x r=>have:=a r x;simp [de,qR]at*;omega
def k4k:∀{r:O Int}{p:Int},(p::r).Pairwise (.<=.)->(p::deF p r).Pairwise (.<.)
 |[],p,_=>by simp[deF]|y::r,p,h=>by
   let ⟨f,d⟩:=List.pairwise_cons.1 h;simp only[deF];split;.rename_i e;subst e;exact k4k d
   .have c:=k4k d;refine List.pairwise_cons.2 ⟨λx b=>?_,c⟩;have:=f y (by simp);rcases qO.1 b with rfl|b;.omega
    .have:=(List.pairwise_cons.1 c).1 x b;omega
def l0a{l:O Int}(h:l.Pairwise (.<=.)):(de l).Pairwise (.<.):=by cases l with|nil=>simp[de]|cons x r=>exact k4k h
def SpI(s:Span):Prop:=0<=s.From/\s.From<s.To/\s.To<=73049
def e5k(a:O (O Span))(n:Nat)(ha:a.length<=42)(hn:n<=10000)(g:∀x∈a,x.length<=n):Tot (b7w a) λr=>r.length<=1000000/\∀p∈r,SpI p.Span:=by
 unfold b7w mkI;rw[if_pos ⟨by omega,rfl,by omega,by omega⟩,qA];refine tH a (λ(q:O (O Span)×O Int)i=>(q.1,q.2,i)) (λq i=>q.1.length=a.length/\(∀x∈q.1,x.length<=n/\Nrm x)/\q.2.length<=i*(2*n)/\∀x∈q.2,0<=x/\x<=73049) (by omega) (λrec q i y X D Z V=>?_) (λrec q Z=>?_) (List.replicate (a.length:Int).toNat [],[]) ⟨by simp,λx g=>by rw[eq_of_mem_replicate g];exact⟨Nat.zero_le _,d9x⟩,by simp,by simp⟩
 .obtain⟨i1,i2,i3,N⟩:=Z;dsimp only;rw[if_pos (o6 X)];simp only[e7 D,qA];refine tA (b2p (by have:=g y (qE D);omega)) λz hz=>tA (c6 (by omega) (by omega)) λ_ _=>tA (c6 (by omega) (by omega)) λ_ _=>?_;have E:(a8h q.1 (i:Int) z).length=q.1.length:=a34 ..;have t:∀x∈a8h q.1 (i:Int) z,x.length<=n/\Nrm x:=λx hxx=>by
   rcases b6b hxx with e|e;.rw[e];have:=g y (qE D);exact⟨by omega,hz.1⟩
   .exact i2 x e
  refine tA (c6 (by omega) (by omega)) λ_ _=>tA (c6 (by omega) (by omega)) λw hw=>?_;have hwn:=(t w hw).2.1;have hwl:=(t w hw).1;have hB:i*(2*n)<=42*20000:=Nat.mul_le_mul (by omega) (by omega);refine tH w (λ(s:O Int)k=>(a8h q.1 (i:Int) z,s,k)) (λs k=>s.length<=i*(2*n)+2*k/\∀x∈s,0<=x/\x<=73049) (by omega) (λK s k u hk hu B S=>?_) (λK s B=>?_) q.2 ⟨by omega,N⟩;.rw[if_pos (o6 hk)];simp only[e7 hu,qA];rw[p6 (by simp only[qR,qS];omega),qA];have hu2:=hwn u (qE hu);exact S _ ⟨by simp;omega,λx g=>by simp at g;rcases g with g|rfl|rfl<;>first|exact B.2 x g|omega⟩
  .rw[if_neg (g9 _)];exact V (a8h q.1 (i:Int) z,s) ⟨E.trans i1,t,by dsimp only;rw[Nat.succ_mul];omega,B.2⟩
 .obtain⟨i1,i2,i3,N⟩:=Z;have hB:a.length*(2*n)<=42*20000:=Nat.mul_le_mul (by omega) (by omega);dsimp only;rw[if_neg (g9 _)];unfold b8s;rw[if_pos (by omega),qA];have l:(b89 q.2).Perm q.2:=a8p _;have E:=l.length_eq;rw[b98 _ (by omega),qA];have U:=g0g (b89 q.2);have F:=l0a (e2r q.2);have m:∀x∈de (b89 q.2),0<=x/\x<=73049:=λx g=>N x (l.mem_iff.1 ((h0k _ _).1 g));generalize de (b89 q.2)=c at U F m;refine tO (I:=λv:O (O Span)×O Int×O Piece×Int=>v.1=q.1/\v.2.1=c/\0<=v.2.2.2/\v.2.2.2<=(c.length:Int)/\(v.2.2.1.length:Int)<=v.2.2.2/\∀p∈v.2.2.1,p.Members.length<=42/\SpI p.Span) (μ:=λv=>((c.length:Int)-v.2.2.2).toNat) ⟨rfl,rfl,Int.le_refl _,by simp_all,Int.le_refl _,by simp⟩ (by grind) ?_;rintro r⟨v20,d,j,k⟩⟨e1,e2,R,k2,k3,C⟩V;dsimp only at e1 e2 R k2 k3 C⊢;subst e1 e2;rw[a42 (x:=k) R (by omega)];refine tD (λhc=>?_) λ_=>tC ⟨by omega,λp l=>(C p l).2⟩;simp at hc;obtain⟨k,rfl⟩:=qT R;have g1:d[k]?=some d[k]:=qG (by omega);have g2:d[k+1]?=some d[k+1]:=qG (by omega);have W:=m _ (qE g1);have G:=m _ (qE g2);have J:d[k]<d[k+1]:=List.pairwise_iff_getElem.1 F k (k+1) (by omega) (by omega) (by omega);have g3:c7 d ((k:Int)+1)=some d[k+1]:=by rw[<-g2,<-b4c];rfl
  rw[e7 g1,qA,qA,g3,qA,qA];generalize d[k]=T at*;generalize d[k+1]=x2 at*;have M:∀o:O Piece,(o.length:Int)<=k+1->(∀p∈o,p.Members.length<=42/\SpI p.Span)->Tot (r (q.1,d,o,(k:Int)+1)) λr=>r.length<=1000000/\∀p∈r,SpI p.Span:=λo ho hm=>V _ ⟨rfl,rfl,by dsimp only;omega,by dsimp only;omega,ho,hm⟩ (by dsimp only;omega);refine tH q.1 (λ(s:O Int×Piece)i=>(q.1,d,j,s.1,s.2,i)) (λs i=>s.1.length<=i/\s.2.Span=⟨T,x2⟩) (by omega) (λH s i y X D f L=>?_) (λH s f=>?_) ([],(⟨(⟨T,x2⟩:Span),[]⟩:Piece)) ⟨by simp,rfl⟩;.rw[if_pos (o6 X)];simp only[e7 D,qA];rw[c03 y _ (by have:=(i2 y (qE D)).1;omega),qA];refine tD (λ_=>?_) λ_=>L (s.1,(⟨s.2.Span,[]⟩:Piece)) ⟨by dsimp only;omega,f.2⟩;rw[p6 (by simp only[qR,qS];omega),qA];exact L (s.1++[(i:Int)],(⟨s.2.Span,[]⟩:Piece)) ⟨by simp;omega,f.2⟩
  .rw[if_neg (g9 _)];refine tD (λ_=>M j (by omega) C) λ_=>?_;have P:Tot (Option.bind (a4n 40 j [(⟨s.2.Span,s.1⟩:Piece)]) λv49=>r (q.1,d,v49,(k:Int)+1)) λr=>r.length<=1000000/\∀p∈r,SpI p.Span:=by
    rw[p6 (by simp only[qR,qS];omega),qA];refine M _ (by simp;omega) λp l=>?_;rcases qK.1 l with h|h;.exact C p h
    .rw[qF]at h;subst h;exact⟨by dsimp only;omega,by show SpI s.2.Span;rw[f.2];exact⟨W.1,J,G.2⟩⟩
   rcases h1f j with e|⟨A,y,e⟩;.subst e;have e0:decide ((([]:O Piece).length:Int)>0)=false:=rfl;simp only[e0,qM,if_false,qA];omega
   .subst e;have hA2:(A++[y]).length=A.length+1:=by simp
    have hA:A.length<2^62:=by omega
    have e0:decide (((A++[y]).length:Int)>0)=true:=by simp
    have gl:c7 (A++[y]) (i64 (((A++[y]).length:Int)-1))=some y:=d3s A y hA;simp only[e0,if_true,gl,qA];refine tA (Q:=λb=>b=true->y.Span.To=T) (tD (λh=>?_) λ_=>tC λh=>by cases h) λb hb=>tD (λY=>?_) λ_=>P;.exact tA (e9n _ _ (by have:=(C y (by simp)).1;omega)) λ_ _=>tC λ_=>by simp at h;rw[f.2]at h;exact h
    .rw[d3y A y _ hA];refine M _ (by simp at k3⊢;omega) λp l=>?_;rcases qK.1 l with h|h;.exact C p (by simp[h])
     .rw[qF]at h;subst h;obtain⟨m1,m2⟩:=C y (by simp);have m3:=hb Y;unfold SpI at m2;refine⟨m1,?_⟩;show SpI ⟨y.Span.From,s.2.Span.To⟩;rw[f.2];exact⟨m2.1,by dsimp only;omega,G.2⟩
def e1m(c:O Period)(K:c.length<=10000):Tot (a71 c) λr=>r.length<=2000000/\∀u∈r,CoS c u:=by
 refine tA (e1u c (by omega)) λo Q=>?_;obtain⟨b,rfl,n,C⟩:=Q;refine tO (I:=λv=>v.1=b/\0<=v.2.2/\v.2.2<=6/\(v.2.1.length:Int)<=7*v.2.2/\∀x∈v.2.1,x.length<=c.length) (μ:=λv=>(6-v.2.2).toNat) ⟨rfl,Int.le_refl _,by simp_all,by simp_all,by simp⟩ (by simp_all) ?_;rintro r⟨z,l,k⟩⟨rfl,f,M,H,g⟩R;dsimp only at f M H g⊢;refine tD (λB=>?_) λ_=>?_
 .simp at B;refine tA (c47 z f B) λa G=>?_;have T:=a.h;rw[p6 (by omega),qA,a42 f (by omega)];refine R _ ⟨rfl,by dsimp only;omega,by dsimp only;omega,by dsimp only;rw[qL];omega,λx F=>?_⟩ (by dsimp only;omega);rcases qK.1 F with h|h;.exact g x h
  .exact n a G x h
 .refine tA (e5k l c.length (by omega) K g) λp w=>?_;refine tH p (λ(s:O nQ)i=>(z,s,([]:O nQ),p,i,())) (λs i=>s.length<=2*i/\∀u∈s,CoS c u) (by omega) (λm s i y S A e j=>?_) (λm s e=>?_) [] (by simp);.rw[if_pos (o6 S)];simp only[e7 A,qA];have t:=w.2 y (qE A);unfold SpI at t;rw[(e9 (by omega) (by omega))];refine tA (g1x n C (by omega) _ _ (λ_=>by omega) _ _ (by omega) e.2) λq D=>?_;exact tA (g1x n C (by omega) _ _ (λ_=>by omega) _ _ (by omega) D.2) λP d=>j P.2 ⟨by have:=d.1;omega,d.2⟩
  .dsimp only;rw[if_neg (g9 _)];exact tC ⟨by have:=w.1;have:=e.1;omega,e.2⟩
def c7f(s:Span)(d:Int):Bool:=decide (s.From<=d)&&decide (d<s.To)
def c9s(s:Span)(d:Int):a4l s d=some (c7f s d):=by unfold a4l c7f;grind
def c6g(l:O Int)(x:Int)(c:l.length<=2^30):q9 l x=some (l.any λy=>x==y):=by
 let ⟨n,e,g⟩:=c5d (f:=a06 l x) l (λy=>x==y) c (λa i y b=>by unfold a06;rw[if_pos (o6 ((qD.1 b).1))];simp [e7 b,qA]) λa=>by unfold a06;simp_all
 unfold q9 a4p;simp_all
def d5w{d σ ρ:Type}{f:(σ->A3 ρ)->σ->A3 ρ}(l:O d)(p:d->Bool)(e:d×Bool->Int->σ)(out:d×Bool->A3 ρ)(z:d)(v:l.length<=2^30)(q:∀(c:σ->A3 ρ)(s:d×Bool)(i:Nat)(y:d),l[i]?=some y->p y=false->f c (e s (i:Int))=c (e s (i64 ((i:Int)+1))))(r:∀(c:σ->A3 ρ)(s:d×Bool)(i:Nat)(y:d),l[i]?=some y->p y=true->f c (e s (i:Int))=c (e (y,true) (i64 ((i:Int)+1)))\/(s.2=true/\f c (e s (i:Int))=c (e s (i64 ((i:Int)+1)))))(m:∀(c:σ->A3 ρ)(s:d×Bool),f c (e s (l.length:Int))=out s):∃s,d9 FU f (e (z,false) 0)=out s/\(s.2=true↔∃y∈l,p y=true)/\(s.2=true->s.1∈l/\p s.1=true):=by
 refine a9k  l e (λs i=>(s.2=true↔∃y∈l.take i,p y=true)/\(s.2=true->s.1∈l/\p s.1=true)) (λo=>∃s,o=out s/\(s.2=true↔∃y∈l,p y=true)/\(s.2=true->s.1∈l/\p s.1=true)) (by omega) ?_ ?_ _ ⟨by simp,by simp⟩
 .rintro c s i y t k⟨a,b⟩
  right;cases n:p y with|false=>
    rw[q c s i y k n,a5g (by omega)];refine⟨s,rfl,?_,b⟩;rw[a,a9h k];constructor;.rintro⟨u,h,g⟩;exact⟨u,by simp[h],g⟩
    .rintro⟨u,h,g⟩;rcases qK.1 h with h|h;.exact⟨u,h,g⟩
     .rw[qF]at h;subst h;rw[n]at g;cases g|true=>
    have j:∃u∈l.take _,p u=true:=⟨y,by rw[a9h k];simp,n⟩;rcases r c s i y k n with h|⟨h,g⟩;.rw[h,a5g (by omega)];exact⟨(y,true),rfl,⟨λ_=>j,λ_=>rfl⟩,λ_=>⟨qE k,n⟩⟩
    .rw[g,a5g (by omega)];exact⟨s,rfl,⟨λ_=>j,λ_=>h⟩,b⟩
 .rintro c s⟨a,b⟩;rw[List.take_length]at a;exact⟨s,m c s,a,b⟩
def f8v(L:lQ)(d:Int)(a:O Int)(e:L.facts.length<=2^30)(f:a.length<=2^30):a2j L d a=some (L.facts.filter λu=>(a.any λy=>u.Kind==y)&&c7f u.Span d):=by
 refine c38 (k:=112) _ _ e (by omega) (λb s i y c=>?_) λb s=>?_;.unfold a9u;rw[if_pos (o6 ((qD.1 c).1))];simp [e7 c,qA,c6g a _ f,c9s,o4]
 .unfold a9u;simp_all
def Ans(b:Prop)(r:Int×Bool):Prop:=(r.2=true↔b)/\(r.2=true->0<=r.1/\r.1<=5)
def f6n(l:O aQ):Prop:=(∀u∈l,vld u=true)/\l.length<=28
def d4i{l:O aQ}(h:f6n l)(p:aQ->Bool):f6n (l.filter p):=⟨λu a=>h.1 u (List.mem_filter.1 a).1,Nat.le_trans (length_filter_le _ _) h.2⟩
def h19{b:Type}{l:O b}:(∃y∈l,true=true)↔l≠[]:=by cases l with|nil=>simp|cons a l=>simp_all
def e7h(L:lQ)(d:Int)(h:f6n L.facts):Tot (a5v L d) (Ans (L.facts.filter (λu=>([3].any λy=>u.Kind==y)&&c7f u.Span d)≠[])):=by
 unfold a5v;rw[f8v L d [3] (by have:=h.2;omega) (by simp)];have b:=d4i h (λu=>([3].any λy=>u.Kind==y)&&c7f u.Span d);generalize L.facts.filter _=q at b;obtain⟨s,k,g,l⟩:=d5w (f:=a3m q) q (λ_=>true) (λ(s)i=>(s.1,s.2,q,i)) (λs=>some (s.1.State,s.2)) _ (by have:=b.2;omega) (λa s i y c e=>by grind) (λa s i y c e=>by unfold a3m;simp [e7 c,qA,y3,o4,qA];grind) (λa s=>by unfold a3m;simp_all);refine⟨_,k,?_,λj=>?_⟩;.rw[g];exact h19
 .exact(c3d (b.1 _ (l j).1)).2.1
def f2c(l:O aQ)(d:Int)(h:f6n l)(p:0<=d)(m:d<=73048):Tot (a8j l d) (Ans (c7f (a4q l) d=true/\∃u∈l,cur u=true/\u.Kind=5/\c7f u.Span d=true)):=by
 have t:=h.2;unfold a8j;rw[g09 p m,qA];rw[c27 l (by omega),qA,c03 [a4q l] d (by simp),qA];have j:(decide (0<=d)&&decide (d<=73048))=true:=by simp_all
 have e:inB [a4q l] d=c7f (a4q l) d:=by simp[inB,c7f]
 rw[j,e];cases r:c7f (a4q l) d with|false=>exact tC ⟨by simp,by simp⟩|true=>
   obtain⟨s,n,q,k⟩:=d5w (f:=a4t l d) l (λu=>(cur u&&(u.Kind==5))&&c7f u.Span d) (λ(s)i=>(s.1,s.2,i)) (λs=>some (s.1.State,s.2)) _ (by omega) (λa s i y b g=>by
     have c:=(qD.1 b).1;unfold a4t;rw[if_pos (o6 c)];simp only[e7 b,qA,b6f,y3,o4];have:(((!cur y)||(y.Kind !=5))||decide (d<y.Span.From)||decide (d>=y.Span.To))=!((cur y&&(y.Kind==5))&&c7f y.Span d):=by unfold c7f;grind
     grind) (λa s i y b g=>by
     have c:=(qD.1 b).1;unfold a4t;rw[if_pos (o6 c)];simp only[e7 b,qA,b6f,y3,o4];rw[if_neg]
     .split;.simp_all
      simp_all
     .unfold c7f at g;simp_all) (λa s=>by unfold a4t;simp_all);refine⟨_,n,?_,λo=>?_⟩;.grind
   .exact(c3d (h.1 _ (k o).1)).2.1
def d06:∀(l:O (Int×Int))(k v j:Int),j∈(a62 l k v).map (·.1)↔j=k\/j∈l.map (·.1)
 |[],k,v,j=>by simp[a62]|q::r,k,v,j=>by
   unfold a62;by_cases b:q.1=k;.simp_all
   .have c:=d06 r k v j;grind
def d2p:∀(l:O (Int×Int))(k v:Int),(a62 l k v).length<=l.length+1
 |[],k,v=>by simp[a62]|q::r,k,v=>by
   unfold a62;split;.simp
   .have:=d2p r k v;simp_all
def e8d(l:O aQ)(h:f6n l):Tot (b12 l) λr=>(∀x∈r,0<=x/\x<=5)/\r.length<=28:=by
 have n:=h.2;refine a9k  l _ (λs i=>s=(l.take i).map (·.Seat)) (λo=>Tot o _) (by omega) ?_ ?_ [] (by simp);.rintro a s i y k d rfl;right;unfold a7p;rw[if_pos (o6 k)];simp only[e7 d,qA];rw[p6 (by grind),a5g (by omega)];exact⟨_,rfl,by rw[a9h d,List.map_append];rfl⟩
 .rintro a s rfl;unfold a7p;dsimp only;rw[if_neg (g9 _),List.take_length];unfold b8s;rw[if_pos (by grind),qA];have b:=a8p (l.map (·.Seat));have e:(b89 (l.map (·.Seat))).length=l.length:=by rw[b.length_eq,List.length_map]
  rw[b98 _ (by omega)];refine tC ⟨λx c=>?_,?_⟩;.rw[h0k,b.mem_iff,mem_map]at c;obtain⟨u,j,rfl⟩:=c;exact(c3d (h.1 u j)).2.2.1
  .have g:∀(r:O Int)(p:Int),(deF p r).length<=r.length:=by intro r;induction r with|nil=>intro p;exact Nat.le_refl _|cons y r m=>simp [deF];grind
   have:∀s,(de s).length<=s.length:=by intro s;cases s with|nil=>simp[de]|cons x r=>have:=g r x;simp [de,qR]at*;omega
   grind
def g8h(k:O Int)(h:k.length<=1000)(d:∀x∈k,0<=x/\x<=5)(m:O (Int×Int))(z:Int)(e:z∈k):Tot (d9 FU (a0f k) (m,z,k,0)) λr=>r.2=true/\0<=r.1/\r.1<=5:=by
 refine a9k  k (λ(s)i=>(m,s,k,i)) (λs i=>s∈k) (λo=>Tot o _) (by omega) ?_ ?_ z e
 .rintro a s i y g b c;right;unfold a0f;simp only[map_id',o6 g,if_true,e7 b,qA];rw[a5g (by omega)];split;.exact⟨y,rfl,qE b⟩
  grind
 .rintro a s c;unfold a0f;simp only[map_id'];rw[if_neg (g9 _)];exact tC ⟨rfl,d s c⟩
def d8d(L:lQ)(d a:Int)(h:f6n L.facts)(h0:0<=d)(h1:d<=73048):Tot (a3v L d a) (Ans (L.facts.filter (λu=>([1,2].any λy=>u.Kind==y)&&c7f u.Span d)≠[])):=by
 unfold a3v;rw[f8v L d [1,2] (by have:=h.2;omega) (by simp),qA];have U:=d4i h (λu=>([1,2].any λy=>u.Kind==y)&&c7f u.Span d);generalize L.facts.filter (λu=>([1,2].any λy=>u.Kind==y)&&c7f u.Span d)=q at U;have hl:=U.2;refine a9k (f:=a2g q d a) q (λ(s:O (Int×Int)×Int)i=>(L,s.1,s.2,q,i)) (λs i=>(∀k,k∈s.1.map (·.1)↔∃y∈q.take i,y.State=k)/\s.1.length<=i) (λo=>Tot o _) (by omega) ?_ ?_ ([],0) ⟨by simp,by simp⟩
 .rintro R s i y Z c⟨v,Y⟩;right;unfold a2g;rw[if_pos (o6 Z)];simp only[e7 c,qA];rw[a5g (by omega)];refine⟨(_,_),rfl,λk=>?_,?_⟩
  .rw[d06,v,a9h c];constructor
   .rintro(e|⟨u,P,e⟩);.grind
    grind
   .rintro⟨u,P,e⟩;rcases qK.1 P with P|P;.grind
    .grind
  .exact Nat.le_trans (d2p _ _ _) (by omega)
 .rintro R⟨m,tt⟩⟨v,Y⟩;rw[List.take_length]at v;dsimp only at v Y;have I:∀k∈m.map (·.1),0<=k/\k<=5:=λk T=>by obtain⟨y,c,rfl⟩:=(v k).1 T;exact(c3d (U.1 y c)).2.1
  unfold a2g;dsimp only;rw[if_neg (g9 _)];unfold c8c;rw[if_pos ⟨by rw[qX];intro p C;have:=I p.1 (List.mem_map.2 ⟨p,C,rfl⟩);unfold c4v;grind,by omega⟩,qA];have C:=a8p (m.map (·.1));generalize b89 (m.map (·.1))=B at C;have M:∀k∈B,0<=k/\k<=5:=λk T=>I k (C.subset T);have D:B.length=m.length:=by rw[C.length_eq,List.length_map]
  simp only[map_id'];refine tD (λK=>?_) λK=>?_;.simp at K;refine tC ⟨⟨λh=>(by grind),λt=>?_⟩,by simp⟩;rw[K]at D;have hm:m=[]:=List.length_eq_zero_iff.1 D.symm;cases q with|nil=>simp_all|cons u q=>have:=(v u.State).2 ⟨u,by simp,rfl⟩;rw[hm]at this;simp at this
  .have g:B≠[]:=by intro e;rw[e]at K;simp at K
   have t:q≠[]:=by intro e;obtain⟨x,l⟩:=exists_mem_of_ne_nil B g;obtain⟨y,c,_⟩:=(v x).1 (C.subset l);rw[e]at c;cases c
   have b:∀x:Int,0<=x/\x<=5->Ans (q≠[]) (x,true):=λx l=>⟨⟨λ_=>t,λ_=>rfl⟩,λ_=>l⟩;have Q:0<B.length:=List.length_pos_iff.2 g;refine tD (λS=>?_) λS=>?_;.refine tA (c6 (by omega) (by omega)) λx l=>tA (c6 (by omega) (by omega)) λy c=>?_;exact tC (b y (M y c))
   .refine tA (f2c L.facts d h h0 h1) λX G=>?_;simp only[o4,qA];refine tD (λz=>?_) λz=>?_;.simp only[qB]at z;exact tC (b _ (G.2 z.1.1))
    .rw[f8v L d [1] (by have:=h.2;omega) (by simp),qA];refine tA (e8d _ (d4i h _)) λE N=>?_;obtain⟨J,W⟩:=N;refine tD (λF=>?_) λF=>?_;.simp at F;refine tA (c6 (by omega) (by omega)) λx l=>tA (c6 (by omega) (by omega)) λy c=>?_;exact tC (b y (J y c))
     .rw[c6g E _ (by omega)];simp only[o4,qA];refine tD (λA=>?_) λA=>?_;.simp only[qB]at A;obtain⟨⟨hb,w⟩,j⟩:=A;match E,w,j,J with
       |[x,y],_,j,J=>
         have e0:c7 [x,y] 0=some x:=rfl;have e1:c7 [x,y] 1=some y:=rfl;have l:=J x (by simp);have c:=J y (by simp);have hz:X.1=x\/X.1=y:=by simpa using j
         refine tC (b _ ?_);rw[e9 (n:=x+y) (by omega) (by omega)];rcases hz with e|e;.rw[e,show x+y-x=y by omega,e9 (by omega) (by omega)];omega
         .rw[e,show x+y-y=x by omega,e9 (by omega) (by omega)];omega|[],w,_,_=>simp at w|[_],w,_,_=>simp at w|_::_::_::_,w,_,_=>simp at w;omega
      .refine tD (λH=>tC (b _ (G.2 H))) λH=>?_;refine tA (c6 (by omega) (by omega)) λx l=>tA (c6 (by omega) (by omega)) λy c=>?_;have:=g8h B (by omega) M m y c;exact this.mono λr V=>⟨⟨λ_=>t,λ_=>V.1⟩,λ_=>V.2⟩
def e0d(q:O aQ)(h:f6n q)(d:q≠[]):Tot (m5 q) λr=>r∈q:=by
 have n:=h.2;have o:=List.length_pos_iff.2 d;unfold m5;rw[if_neg (by grind),b7k];unfold a00;dsimp only;refine tA (c6 (by omega) (by omega)) λl b=>?_;refine tO (I:=λv=>1<=v.2.2/\v.2.2<=(q.length:Int)/\v.2.1∈q) (μ:=λv=>((q.length:Int)-v.2.2).toNat) ⟨by simp_all,by grind,b⟩ (by grind) ?_;rintro r⟨w,v,i⟩⟨j,g,c⟩f;dsimp only at j g c;unfold y9;dsimp only;refine tD (λa=>?_) λa=>tC c;simp at a;refine tA (c6 (by omega) a) λm k=>?_;unfold a6j;rw[c8a,a42 (by omega) (by omega)];refine tD (λ_=>?_) λ_=>?_;.refine tA (c6 (by omega) a) λp e=>?_;exact f _ ⟨by show 1<=i+1;omega,by show i+1<=_;omega,e⟩ (by show((q.length)-(i+1)).toNat<((q.length)-i).toNat;omega)
 .exact f _ ⟨by show 1<=i+1;omega,by show i+1<=_;omega,c⟩ (by show((q.length)-(i+1)).toNat<((q.length)-i).toNat;omega)
def e1n(L:lQ)(d:Int)(h:f6n L.facts):Tot (a4b L d) (Ans (L.facts.filter (λu=>([7,8].any λy=>u.Kind==y)&&c7f u.Span d)≠[])):=by
 unfold a4b;rw[f8v L d _ (by have:=h.2;omega) (by simp)];have b:=d4i h (λu=>([7,8].any λy=>u.Kind==y)&&c7f u.Span d);generalize L.facts.filter _=q at b;refine tD (λc=>?_) λc=>?_;.simp at c;exact tC ⟨by grind,by simp⟩
 .have a:q≠[]:=by simp_all
  refine tA (e0d q b a) λu e=>?_;exact tC ⟨⟨λ_=>a,λ_=>rfl⟩,λ_=>(c3d (b.1 u e)).2.1⟩
def g8c{f:O aQ}(i:f.length<=2^30){p:Posting}(h:PM f p):0<=p.Span.From/\p.Span.From<p.Span.To/\p.Span.To<=73049/\(0<=p.Seat/\p.Seat<=5)/\0<=p.State/\p.State<=5:=by obtain⟨_,e,g,_⟩:=b8o (f3b f p.Seat p.State) _ (by have:=d4g f p.Seat p.State;omega);have b:=e.1 _ h;let ⟨⟨s,d,_⟩,_⟩:=(g _).1 ⟨p.Span,h,Int.le_refl _,b.2.1⟩;let ⟨u,a,_⟩:=List.mem_map.1 d;rw[mem_filter]at a;have c:=a.2;simp at c;let ⟨_,j,k,_⟩:=c3d (f1a a.1);omega
def e1f{f:O aQ}(k:f.length<=2^30)(L:lQ)(d a:Int)(r:∀p,p∈L.postings↔PM f p)(j:L.postings.length<=12)(t:0<=a)(x:a<=730):Tot (a4c L d a) (Ans (∃p,PM f p/\c7f p.Span d=true/\d<p.Span.From+a)):=by
 refine a9k  L.postings (λ(_)i=>i) (λ_ i=>∀p∈L.postings.take i,¬(c7f p.Span d=true/\d<p.Span.From+a)) (λo=>Tot o _) (by omega) ?_ ?_ () (by simp)
 .rintro g s i y q e h;have c:=(r y).1 (qE e);let ⟨v,w,u,l,_⟩:=g8c k c;unfold a2q;rw[if_pos (o6 q)];simp only[e7 e,qA,c9s,o4];rw[e9  (by omega) (by omega),a5g (by omega)];by_cases m:c7f y.Span d=true/\d<y.Span.From+a;.left;rw[if_pos (by grind)];exact tC ⟨⟨λ_=>⟨y,c,m⟩,λ_=>rfl⟩,λ_=>l⟩
  .right;rw[if_neg (by grind)];refine⟨(),rfl,λp b=>?_⟩;rw[a9h e]at b;rcases qK.1 b with b|b;.exact h p b
   .grind
 .intro g s h;unfold a2q;rw[if_neg (g9 _)];refine tC ⟨⟨λh=>(by grind),?_⟩,by simp⟩;simp_all
def f8b{f:O aQ}{T:O Rules}(h:a48 f)(g:TrF T){P:O Posting}(c:∀p,p∈P↔PM f p)(e:P.length<=12)(d:Int):Tot (a7m (⟨f.filter cur,a4q f,P,T⟩:lQ) d) λ_=>True:=by
 have b:f6n (f.filter cur):=⟨λu l=>f1a l,by have:=length_filter_le cur f;have:=h.len;omega⟩;unfold a7m;by_cases a:0<=d/\d<=73048;.let ⟨m,i,r,o,n⟩:=e30 g d;rw[g2p g a.1 a.2];simp [qU,qM,if_false,c9s,qA];refine tD (λ_=>tC trivial) λ_=>?_;refine tA (e1f (by have:=h.len;omega) _ d _ c e m i) λs _=>tD (λ_=>tC trivial) λ_=>?_;refine tA (e7h _ d b) λv _=>tD (λ_=>tC trivial) λ_=>?_;refine tA (d8d _ d _ b a.1 a.2) λw _=>tD (λ_=>tC trivial) λ_=>?_;refine tA (e1n _ d b) λt _=>tD (λ_=>tC trivial) λ_=>?_;exact tA (f2c _ d b a.1 a.2) λq _=>tD (λ_=>tC trivial) λ_=>tC trivial
 .have j:m7 d=some false:=by unfold m7;simp_all
  unfold b2q;rw[j];exact tC trivial
def f5m(L:lQ)(t:L.facts.length<=28)(v:L.postings.length<=12)(u:L.rules.length<=2):Tot (a6t L) λr=>r.length<=100:=by
 refine tH L.facts (λ(s:O Int)i=>(L,s,i)) (λs i=>s.length<=4+2*i) (by omega) (λj s i y d c o p=>?_) (λj s o=>?_) _ (by simp);.unfold a8a;rw[if_pos (o6 d)];simp only[e7 c,qA];rw[p6 (by simp only[qR,qS];omega),qA];exact p _ (by simp;omega)
 .unfold a8a;rw[if_neg (g9 _)];refine tH L.rules (λ(s:O Int)i=>(L,s,i)) (λs i=>s.length<=60+13*i) (by omega) (λa s i y d c e f=>?_) (λa s e=>?_) s (by omega)
  .unfold a89;rw[if_pos (o6 d)];simp only[e7 c,qA];rw[p6 (by simp only[qR,qS];omega),qA];refine tH L.postings (λ(q:O Int)k=>(L,q,y,k)) (λq k=>q.length<=s.length+1+k) (by omega) (λb q k z n l g h=>?_) (λb q g=>?_) _ (by simp);.unfold a81;rw[if_pos (o6 n)];simp only[e7 l,qA];rw[p6 (by simp only[qR,qS];omega),qA];exact h _ (by simp;omega)
   .unfold a81;rw[if_neg (g9 _)];exact f q (by omega)
  .unfold a89;dsimp only;rw[if_neg (g9 _)];unfold b8s;rw[if_pos (by omega),qA];have m:=(a8p s).length_eq;rw[b98 _ (by omega),qA];have:=g0g (b89 s);exact tC (by omega)
def f4q{f:O aQ}{T:O Rules}(i:a48 f)(m:TrF T):Tot (a4h f T) λr=>r.length<=100:=by
 have D:f.length<=2^30:=by have:=i.len;omega
 have z:(f.filter cur).length<=28:=by have:=length_filter_le cur f;have:=i.len;omega
 obtain⟨P,J,p,g⟩:=c90 i;unfold a4h a9c;rw[b9a f D,qA,c27 f D,qA,J,qA,d5j m,qA,qA];refine tA (f5m _ z g (g97 m).1) λc S=>?_;refine tO (I:=λv:lQ×O gQ×O Int×Int=>v.1=(⟨f.filter cur,a4q f,P,T⟩:lQ)/\v.2.2.1=c/\0<=v.2.2.2/\v.2.2.2<=(c.length:Int)/\(v.2.1.length:Int)<=v.2.2.2) (μ:=λv=>((c.length:Int)-v.2.2.2).toNat) ⟨rfl,rfl,Int.le_refl _,by simp_all,Int.le_refl _⟩ (by grind) ?_;rintro r⟨L,s,d,k⟩⟨rfl,C,b,G,B⟩K;dsimp only at C b G B;subst C;unfold b8r;dsimp only;rw[a42 (x:=k) b (by omega)];refine tD (λh=>?_) λ_=>tC (by omega);simp at h;have w:∀o:O gQ,(o.length:Int)<=k+1->Tot (r ((⟨f.filter cur,a4q f,P,T⟩:lQ),o,d,k+1)) λr=>r.length<=100:=λo H=>K _ ⟨rfl,rfl,by dsimp only;omega,by dsimp only;omega,H⟩ (by dsimp only;omega);refine tA (c6 b (by omega)) λ_ _=>tA (c6 b (by omega)) λa _=>tA (f8b i m p g a) λq _=>tD (λ_=>w s (by omega)) λ_=>?_;have t:Tot (Option.bind (c7 d k) λF=>Option.bind (c7 d k) λn=>Option.bind (c7 d (k+1)) λN=>Option.bind (c7 d (k+1)) λl=>Option.bind (a4n 32 s [(⟨(⟨n,l⟩:Span),q.1,q.2⟩:gQ)]) λj=>r ((⟨f.filter cur,a4q f,P,T⟩:lQ),j,d,k+1)) λr=>r.length<=100:=by refine tA (c6 b (by omega)) λ_ _=>tA (c6 b (by omega)) λ_ _=>tA (c6 (by omega) h) λ_ _=>tA (c6 (by omega) h) λ_ _=>?_;rw[p6 (by simp only[qR,qS];omega),qA];exact w _ (by simp;omega)
 rcases h1f s with e|⟨A,y,e⟩;.subst e;have u:decide ((([]:O gQ).length:Int)>0)=false:=rfl;simp only[u,qM,if_false,qA];omega
 .subst e;have R:(A++[y]).length=A.length+1:=by simp
  have E:A.length<2^62:=by omega
  have u:decide (((A++[y]).length:Int)>0)=true:=by simp
  simp only[u,if_true,(d3s A y E),qA];refine tA (Q:=λ_=>True) (tA (c6 b (by omega)) λ_ _=>tA (c6 b (by omega)) λ_ _=>tC trivial) λ_ _=>tA (Q:=λ_=>True) (tD (λ_=>tC trivial) λ_=>tC trivial) λ_ _=>tA (Q:=λ_=>True) (tD (λ_=>tC trivial) λ_=>tC trivial) λ_ _=>tD (λ_=>?_) λ_=>t;refine tA (c6 (by omega) h) λ_ _=>tA (c6 (by omega) h) λ_ _=>?_;rw[d3y A y _ E];exact w _ (by simp at B⊢;omega)
def ixF{c:Type}(l:O c)(g:c->A3 Bool)(a:Int->A3 Int)(i:Int):A3 Int:=if(decide (i<(l.length:Int)))then(c7 l i).bind λy=>(g y).bind λb=>if b then some i else a (i64 (i+1))else some (-1)
def d3e{c:Type}(l:O c)(g:c->A3 Bool)(N:c->Prop)(o:l.length<=2^30)(j:∀y∈l,Tot (g y) λb=>b=false->N y):Tot (d9 FU (ixF l g) 0) λr=>-1<=r/\r<(l.length:Int)/\(r<0->∀y∈l,N y):=by
 refine tH l (λ(_)i=>i) (λ_ i=>∀y∈l.take i,N y) (by omega) (λf s i y k e d m=>?_) (λf s d=>?_) () (by simp)
 .unfold ixF;rw[if_pos (o6 k),e7 e,qA];refine tA (j y (qE e)) λb n=>tD (λ_=>tC ⟨by omega,by omega,λh=>by omega⟩) λh=>m () λz a=>?_;rw[a9h e]at a;rcases qK.1 a with a|a;.simp_all
  simp_all
 .unfold ixF;rw[if_neg (g9 _)];rw[List.take_length]at d;exact tC ⟨by omega,by omega,λ_=>d⟩
def c12{a:Type}(l:O a)(g:a->A3 Bool)(N:a->Prop)(c:l.length<=2^30)(d:∀y∈l,Tot (g y) λb=>b=false->N y):Tot (Option.bind (d9 FU (ixF l g) 0) λv=>some (decide (v>=0))) λb=>b=false->∀y∈l,N y:=tA (d3e l g N c d) λv e=>tC λh=>e.2.2 (by simp_all)
def aOK(o:Int)(k:Nat):Prop:=1<=o/\o<=21/\(4<=o->1<=k)/\(7<=o->2<=k)/\(o=21->3<=k)
def AR:Nat->Expr->Prop|0,_=>False|n+1,e=>aOK e.Op e.Args.length/\∀a∈e.Args,AR n a
def c5e(s:A4):Tot (b4n s) λ_=>True:=by
 have a:∀v,Tot (a9q v) λ_=>True:=λv=>by repeat' first|exact tC trivial|exact j2 _|refine tD (λ_=>?_) λ_=>?_
 exact tD (λ_=>a _) λ_=>tD (λ_=>a _) λ_=>a _
def VArg(v:Version):Prop:=v.Lets.length<=10/\(∀x∈v.Lets,AR 8001 x.Body)/\∀x∈v.Grants,AR 8001 x.If/\AR 8001 x.Pay
structure VE(v:Version):Prop where
 vg:VG v
 ty:Tot (b0q v) λr=>r=0->VArg v
def SE(s:Statute):Prop:=s.Versions.length<=6/\∀v∈s.Versions,VE v
def i9z{s:A4}:∀(k:Nat)(v:Int),d9 k (b4m s) v=some true->s.size<=12
 |0,v,h=>by cases h|k+1,v,h=>by
   have h:b4m s _ v=some _:=h;unfold b4m at h;split at h
   .let ⟨_,_,h⟩:=qP.1 h;let ⟨_,_,h⟩:=qP.1 h;let ⟨_,_,h⟩:=qP.1 h;split at h;.cases h
    .exact i9z k _ h
   .simp only[o4,qA]at h;simp at h;omega
def j2l{s:A4}(h:a2e s=some true):s.size<=8000:=by
 let ⟨b,a,h⟩:=qP.1 h;cases b;.simp at h
 .have:=i9z _ _ a;omega
def j7y:∀(n:Nat)(a:AE),a.ok->a.dep<=n->EB n a.e/\AR n a.e
 |0,a,_,p=>by have:=i5s a;omega|n+1,a,h,p=>by
   have i:=h.leaf;have c:=λb m=>j7y n b (h.arg m) (by have:=i55 m;omega)
   cases a with|lit v d=>exact⟨EB.leaf (by decide),by show aOK 1 0;unfold aOK;omega,λx f=>by cases f⟩|nm s=>exact⟨EB.leaf (j2l i.1),by show aOK 2 0;unfold aOK;omega,λx f=>by cases f⟩|best k=>exact⟨EB.leaf (by decide),by show aOK 3 0;unfold aOK;omega,λx f=>by cases f⟩|bin r x y=>
     have e:=c x (by simp[AE.args]);have g:=c y (by simp[AE.args]);refine⟨EB.two e.1 g.1,?_,λz l=>?_⟩;.show aOK r 2;have:=i.1;have:=i.2;unfold aOK;omega
     .simp[AE.e]at l;rcases l with rfl|rfl;.exact e.2
      .exact g.2|ite x y z=>
     have e:=c x (by simp[AE.args]);have g:=c y (by simp[AE.args]);have j:=c z (by simp[AE.args]);refine⟨EB.three e.1 g.1 j.1,by show aOK 21 3;unfold aOK;omega,λu o=>?_⟩;simp[AE.e]at o;rcases o with rfl|rfl|rfl;.exact e.2
     .exact g.2
     .exact j.2
def k2b{c:O iQ}{v:Version}(h:VOK c v):VE v:=by
 have x:∀{e:Expr}{d:Int},ExOK c e d->EB _ e/\AR 8001 e:=λh=>by obtain⟨a,rfl,f,g,_⟩:=h.ex;exact j7y _ a f (by omega)
 have l:∀y∈v.Lets,EB _ y.Body/\AR 8001 y.Body:=λy b=>by let ⟨a,e,f,g⟩:=h.la y b;rw[e];exact j7y _ a f (by omega)
 have f:=h.cl;have g:=h.sl;have i:=h.ll;have j:=h.gl;have k:=h.rl;refine⟨⟨by omega,by omega,by omega,by omega,by omega,λy b=>⟨j2l (h.lt y b).1,(l y b).1⟩,λy b=>⟨(x (h.gr y b).2.1).1,(x (h.gr y b).2.2).1⟩,λy b=>(x (h.rd y b).2).1⟩,0,j1d h,λ_=>⟨i,λy b=>(l y b).2,λy b=>⟨(x (h.gr y b).2.1).2,(x (h.gr y b).2.2).2⟩⟩⟩
def k29{s:Statute}(h:SOK s):SE s:=⟨h.l1,λv a=>let⟨_,g⟩:=h.vs v a;k2b g⟩
def j14:∀(n m:Nat)(e:Expr),n<=m->EB n e->Tot ((s4 m).f_statute_cloneExpr e) λr=>r=e
 |0,_,_,_,h=>h.elim|n+1,0,_,d,_=>by omega|n+1,m+1,e,d,h=>by
   show Tot (a7s _ e) _;unfold a7s;have l:=h.1;refine tH e.Args (λ(s)i=>(s,(⟨e.Op,e.Value,e.Dim,e.Name,[]⟩:Expr),([]),(⟨0,(⟨0,0⟩),0,a3j,[]⟩:Expr),i)) (λs i=>s=e.Args.take i) (by omega) (λc s i y g b a f=>?_) (λc s a=>?_) [] rfl
   .dsimp only;rw[if_pos (o6 g),e7 b,qA];refine tA (j14 n m y (by omega) (h.2.2 y (qE b))) λz k=>?_;have:s.length<=3:=by rw[a,List.length_take];omega
    rw[p6 (by simp [qR,qS];omega)];exact f _ (by rw[k,a,a9h b])
   .dsimp only;rw[if_neg (g9 _),a,List.take_length];exact tC (by cases e;rfl)
def i7q{a:Type}{l:O a}{i:Nat}{x:a}(h:l[i]?=some x):a8h l (i:Int) x=l:=by unfold a8h;let ⟨c,b⟩:=qD.1 h;subst b;simp
def j2j{v:Version}(o:VG v):Tot (a6r v) λr=>r=v:=by
 obtain⟨B,A,s,q,C,p,u,x⟩:=o;have f:∀{m:Type}(k:Nat)(l:O m),k<=1000->(l.length:Int)<=8000->a4n k [] l=some l:=λk l n D=>by rw[p6 (by simp only[qS,Nat.zero_add];exact Nat.le_trans (Nat.mul_le_mul (by omega:l.length<=8000) n) (by decide))];rfl
 have g:∀{e:Expr},EB 8001 e->a6x e=some e:=λh=>by obtain⟨r,t,e⟩:=j14 8001 FU _ (by unfold FU;omega) h;exact e▸t
 unfold a6r a5m a6e a86 a6f a5p;simp only[f _ _ (by decide:16<=1000) B,f _ _ (by decide:24<=1000) A,f _ _ (by decide:88<=1000) s,f _ _ (by decide:152<=1000) q,f _ _ (by decide:80<=1000) C,qA];let w:Version:=⟨v.From,v.Rounding,[],[],[],[],[]⟩;let z:Version:=⟨0,⟨0,0⟩,[],[],[],[],[]⟩;refine tH v.Lets (λ(_:Unit)i=>(v.Credits,v.Series,v.Lets,v.Grants,v.Reduces,w,[],[],[],[],[],z,i)) (λ_ _=>True) (by omega) (λa _ i y c b _ d=>?_) (λa _ _=>?_) () trivial;.rw[if_pos (o6 c)];simp only[e7 b,g (p y (qE b)).2,qA,i7q b];exact d () trivial
 rw[if_neg (g9 _)];refine tH v.Grants (λ(_:Unit)i=>(v.Credits,v.Series,v.Lets,v.Grants,v.Reduces,w,[],[],[],[],[],z,i)) (λ_ _=>True) (by omega) (λa _ i y c b _ d=>?_) (λa _ _=>?_) () trivial;.rw[if_pos (o6 c)];have j:=u y (qE b);simp only[e7 b,g j.1,g j.2,qA,i7q b];exact d () trivial
 rw[if_neg (g9 _)];refine tH v.Reduces (λ(_:Unit)i=>(v.Credits,v.Series,v.Lets,v.Grants,v.Reduces,w,[],[],[],[],[],z,i)) (λ_ _=>True) (by omega) (λa _ i y c b _ d=>?_) (λa _ _=>?_) () trivial;.rw[if_pos (o6 c)];simp only[e7 b,g (x y (qE b)),qA,i7q b];exact d () trivial
 rw[if_neg (g9 _)];exact tC rfl
def V0:Version:=⟨0,⟨0,0⟩,[],[],[],[],[]⟩
def g3t:VE V0:=by refine⟨⟨by decide,by decide,by decide,by decide,by decide,?_,?_,?_⟩,0,rfl,λ_=>⟨by decide,?_,?_⟩⟩<;>intro x h<;>cases h
def g1l{s:Statute}(a:SE s)(d:Int):Tot (b1v s d) λr=>VE r.1:=by unfold b1v m7;simp only[o4,qA];refine tD (λ_=>tC g3t) λ_=>?_;have i:=a.1;refine tO (I:=λv=>-1<=v.2/\v.2<(s.Versions.length:Int)) (μ:=λv=>(v.2+1).toNat) ⟨by omega,by omega⟩ (by omega) ?_;rintro r⟨q,k⟩⟨g,c⟩f;refine tD (λ_=>tC g3t) λh=>?_;simp at h;exact tA (c6 h c) λv b=>tD (λ_=>tA (j2j (a.2 v b).vg) λ_ e=>tC (e▸a.2 v b)) λ_=>f _ ⟨by omega,by omega⟩ (by omega)
end Go.PL
