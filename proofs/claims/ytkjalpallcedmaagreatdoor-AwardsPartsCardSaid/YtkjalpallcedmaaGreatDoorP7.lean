/- Texts of the proof, joined. -/
import Derived.Test.YtkjalpallcedmaaGreatDoorP6
import Derived.Sort.AssemblyPlain
import Derived.KernelRfl
set_option linter.defProp false
set_option linter.unusedVariables false
set_option linter.unusedSimpArgs false
set_option maxRecDepth 100000
open List
namespace Go.PL
open Go Go.SX
def j82(yr:Nat)(l:O (O Lx×Cl)):Prop:=∃na nb np g1a g1i g1m g2i nd g4i g4m g5i nr c3 c4 c5,Q3OK na nb np g1a g1i g1m g2i nd/\Q4OK g4i g4m g5i nr/\l=q3 na nb np yr g1a g1i g1m g2i nd g4i g4m g5i nr c3 c4 c5
def q2(c2:Bool)(l:O (O Lx×Cl)):O (O Lx×Cl):=(if c2 then[(lC5,.credit 5 0)]else[])++l
def q1(l7 l10:Nat)(c1 c2:Bool)(l:O (O Lx×Cl)):O (O Lx×Cl):=[(lC6,.credit 6 0),(lC7 l7,.credit 7 l7)]++((if c1 then[(j83 l10,.credit 10 l10)]else[])++q2 c2 l)
section
variable {n:O Int} {k:Int} {pre r:A4}
def j2c{yt:A4}{yr:Nat}(hy:bl yt=g4v 20 yr)(hr:joinC a5k (n,k,yt,pre)=some r):∃c2 l,j82 yr l/\bl r=bl pre++(T (q2 c2 l)++bl d3i):=by
 unfold joinC a5k at hr;dsimp only at hr;obtain⟨v25,h25,hr⟩:=qP.1 hr;obtain⟨v26,h26,hr⟩:=qP.1 hr;have b26:=i48 h26 (by decide) (by decide);obtain⟨v26,rfl⟩:=qT b26.1;split at hr;.have hr0:=hr;obtain⟨v27,h27,hr⟩:=qP.1 hr;have t27:=i3y h27;obtain⟨na,nb,np,g1a,g1i,g1m,g2i,nd,g4i,g4m,g5i,nr,c3,c4,c5,h3,h4,e⟩:=j3c hy hr;refine⟨true,_,⟨na,nb,np,g1a,g1i,g1m,g2i,nd,g4i,g4m,g5i,nr,c3,c4,c5,h3,h4,rfl⟩,?_⟩;rw[e,t27];simp only[q2,if_true,i5m,i6y,i9h,tC5,qQ,List.append_nil,List.nil_append]
 .obtain⟨na,nb,np,g1a,g1i,g1m,g2i,nd,g4i,g4m,g5i,nr,c3,c4,c5,h3,h4,e⟩:=j3c hy hr;refine⟨false,_,⟨na,nb,np,g1a,g1i,g1m,g2i,nd,g4i,g4m,g5i,nr,c3,c4,c5,h3,h4,rfl⟩,?_⟩;rw[e];rfl
def i8p{yt:A4}{yr:Nat}(hy:bl yt=g4v 20 yr)(hr:joinC a1a (n,k,yt,pre)=some r):∃l7 l10 c1 c2 l,(1<=l7/\l7<=73049/\1<=l10/\l10<=73049)/\j82 yr l/\bl r=bl pre++(T (q1 l7 l10 c1 c2 l)++bl d3i):=by
 unfold joinC a1a at hr;dsimp only at hr;obtain⟨v10,h10,hr⟩:=qP.1 hr;obtain⟨v11,h11,hr⟩:=qP.1 hr;have b11:=i48 h11 (by decide) (by decide);obtain⟨v11,rfl⟩:=qT b11.1;obtain⟨v12,h12,hr⟩:=qP.1 hr;have t12:=i7c h12 (n:=1+v11) (by rw[e9 (by omega) (by omega)];omega) (by omega);obtain⟨v13,h13,hr⟩:=qP.1 hr;have t13:=i3y h13;obtain⟨v14,h14,hr⟩:=qP.1 hr;have t14:=i3y h14;obtain⟨v15,h15,hr⟩:=qP.1 hr;have t15:=i3y h15;obtain⟨v16,h16,hr⟩:=qP.1 hr;obtain⟨v17,h17,hr⟩:=qP.1 hr;have b17:=i48 h17 (by decide) (by decide);obtain⟨v17,rfl⟩:=qT b17.1;have eC:=tC67 (1+v11);split at hr;.have hr0:=hr;obtain⟨v18,h18,hr⟩:=qP.1 hr;obtain⟨v19,h19,hr⟩:=qP.1 hr;have b19:=i48 h19 (by decide) (by decide);obtain⟨v19,rfl⟩:=qT b19.1;obtain⟨v20,h20,hr⟩:=qP.1 hr;have t20:=i7c h20 (n:=100+v19) (by rw[e9 (by omega) (by omega)];omega) (by omega);obtain⟨v21,h21,hr⟩:=qP.1 hr;have t21:=i3y h21;obtain⟨v22,h22,hr⟩:=qP.1 hr;have t22:=i3y h22;obtain⟨v23,h23,hr⟩:=qP.1 hr;have t23:=i3y h23;obtain⟨c2,l,hl,e⟩:=j2c hy hr;refine⟨1+v11,100+v19,true,c2,l,⟨by omega,by omega,by omega,by omega⟩,hl,?_⟩;rw[e,t23,t22,t21,t20,t15,t14,t13,t12];simp only[q1,if_true,i5m,i6y,i9h,tC10,qQ,List.append_nil,List.nil_append];rw[<-qQ (i40 lC6),eC];simp only[qQ]
 .obtain⟨c2,l,hl,e⟩:=j2c hy hr;refine⟨1+v11,1,false,c2,l,⟨by omega,by omega,by omega,by omega⟩,hl,?_⟩;rw[e,t15,t14,t13,t12];simp only[q1,qM,if_false,i5m,i6y,i9h,qQ,List.append_nil,List.nil_append];rw[<-qQ (i40 lC6),eC];simp only[qQ]
def k1z(P:Ps):i40 (j1p P)=bl c6e++(P.date++(bl c1g++(bl P.mx++(32::(g4v 20 P.u++bl b7x))))):=by simp only[i40,j1p,W,Sg,Wn,Sh,num,N,blk,cond_true,cond_false,qQ,List.nil_append];rfl
structure MdOK(m:Int)(mx:ByteArray)(u:Nat):Prop where
 mw:j0q mx=true
 mo:ofW mx 3=some m
 m0:1<=m
 m1:m<=4mS:nz (a4u j0t m)=true
 u0:1<=u
 u1:u<=100000
def j0w{day:Int}{date:O UInt8}{m:Int}{mx:A4}{u yr l7 l10:Nat}{c1 c2:Bool}{l:O (O Lx×Cl)}(hdt:i8v (64::date) day=true)(hd0:0<=day)(hd1:day<=73048)(hm:MdOK m mx u)(hyr:yr<=100000)(hc:1<=l7/\l7<=73049/\1<=l10/\l10<=73049)(hl:j82 yr l):∃P:Ps,PsOK P/\P.day=day/\i40 (lxV P)=bl c6e++(date++(bl c1g++(bl mx++(32::(g4v 20 u++bl b7x)))))++(T (q1 l7 l10 c1 c2 l)++bl d3i):=by obtain⟨na,nb,np,g1a,g1i,g1m,g2i,nd,g4i,g4m,g5i,nr,c3,c4,c5,h3,h4,rfl⟩:=hl;refine⟨⟨day,date,m,mx,u,l7,l10,c1,c2,c3,c4,c5,na,nb,np,yr,g1a,g1i,g1m,g2i,nd,g4i,g4m,g5i,nr⟩,⟨hdt,hd0,hd1,hm.mw,hm.mo,hm.m0,hm.m1,hm.mS,hm.u0,hm.u1,hc.1,hc.2.1,hc.2.2.1,hc.2.2.2,h3.h1,h3.h2,h3.h3,h3.h4,h3.h5,h3.h6,h4.h4,hyr,h3.h7,h3.h8,h3.h9,h3.h10,h4.h1,h4.h2,h4.h3⟩,rfl,?_⟩;unfold lxV;rw[i47,i47,k1z,tEnd];rfl
def i91{a:A4}{day:Int}(hdt:i8v (64::bl a) day=true)(hd0:0<=day)(hd1:day<=73048)(hr:a38 a n k=some r):∃P:Ps,PsOK P/\P.day=day/\bl r=i40 (lxV P):=by
 unfold a38 at hr;obtain⟨v1,h1,hr⟩:=qP.1 hr;obtain⟨v2,h2,hr⟩:=qP.1 hr;have b2:=i48 h2 (by decide) (by decide);obtain⟨v2,rfl⟩:=qT b2.1;obtain⟨v3,h3,hr⟩:=qP.1 hr;have t3:=i7c h3 (n:=300+v2) (by rw[e9 (by omega) (by omega)];omega) (by omega);obtain⟨v4,h4,hr⟩:=qP.1 hr;have t4:=i3y h4;obtain⟨v5,h5,hr⟩:=qP.1 hr;have t5:=i3y h5;obtain⟨v6,h6,hr⟩:=qP.1 hr;obtain⟨v7,h7,hr⟩:=qP.1 hr;have b7:=i48 h7 (by decide) (by decide);obtain⟨v7,rfl⟩:=qT b7.1;split at hr;.have hr0:=hr;obtain⟨v8,h8,hr⟩:=qP.1 hr;have t8:=i3y h8;obtain⟨l7,l10,c1,c2,l,hc,hl,e⟩:=i8p t3 hr;obtain⟨P,hP,hd,ht⟩:=j0w (c1:=c1) (c2:=c2) hdt hd0 hd1 (m:=1) (mx:=d4s) (u:=1) ⟨by kernel_rfl,by kernel_rfl,by decide,by decide,by kernel_rfl,by decide,by decide⟩ (by omega) hc hl;refine⟨P,hP,hd,?_⟩;rw[ht,e,t8,t5,t4,show bl c33=bl d4s++(32::(g4v 20 1++bl b7x))from by kernel_rfl];simp only[qQ]
 split at hr;.have hr0:=hr;obtain⟨v110,h110,hr⟩:=qP.1 hr;have t110:=i3y h110;obtain⟨l7,l10,c1,c2,l,hc,hl,e⟩:=i8p t3 hr;obtain⟨P,hP,hd,ht⟩:=j0w (c1:=c1) (c2:=c2) hdt hd0 hd1 (m:=3) (mx:=d3b) (u:=5) ⟨by kernel_rfl,by kernel_rfl,by decide,by decide,by kernel_rfl,by decide,by decide⟩ (by omega) hc hl;refine⟨P,hP,hd,?_⟩;rw[ht,e,t110,t5,t4,show bl c32=bl d3b++(32::(g4v 20 5++bl b7x))from by kernel_rfl];simp only[qQ]
 split at hr;.have hr0:=hr;obtain⟨v111,h111,hr⟩:=qP.1 hr;have t111:=i3y h111;obtain⟨l7,l10,c1,c2,l,hc,hl,e⟩:=i8p t3 hr;obtain⟨P,hP,hd,ht⟩:=j0w (c1:=c1) (c2:=c2) hdt hd0 hd1 (m:=2) (mx:=f1e) (u:=1) ⟨by kernel_rfl,by kernel_rfl,by decide,by decide,by kernel_rfl,by decide,by decide⟩ (by omega) hc hl;refine⟨P,hP,hd,?_⟩;rw[ht,e,t111,t5,t4,show bl c6d=bl f1e++(32::(g4v 20 1++bl b7x))from by kernel_rfl];simp only[qQ]
 obtain⟨v112,h112,hr⟩:=qP.1 hr;have t112:=i3y h112;obtain⟨l7,l10,c1,c2,l,hc,hl,e⟩:=i8p t3 hr;obtain⟨P,hP,hd,ht⟩:=j0w (c1:=c1) (c2:=c2) hdt hd0 hd1 (m:=4) (mx:=d3z) (u:=10) ⟨by kernel_rfl,by kernel_rfl,by decide,by decide,by kernel_rfl,by decide,by decide⟩ (by omega) hc hl;refine⟨P,hP,hd,?_⟩;rw[ht,e,t112,t5,t4,show bl c19=bl d3z++(32::(g4v 20 10++bl b7x))from by kernel_rfl];simp only[qQ]
end
def j2o:∀(ls:O Lx)(rest:O UInt8),okA ls rest->ls.length<=(i40 ls).length
 |[],_,_=>Nat.le_refl _|⟨t,w,sp⟩::ls,rest,h=>by
   have h2:=j2o ls rest h.2;have h1:1<=w.length:=by have h1:LxOK t w (blk sp++(i40 ls++rest)):=h.1;cases h1<;>simp
   show ls.length+1<=(w++(blk sp++i40 ls)).length;rw[qL,qL];omega
def i8u(o:A3 Ps):O Lx:=match o with|some P=>lxV P|none=>[]
def i71(o:A3 Ps):O Version:=match o with|some P=>[P.ver]|none=>[]
def i8z(o:A3 Ps)(day:Int):Prop:=match o with|some P=>PsOK P/\P.day=day|none=>True
def lxS(nm:A4)(cur:Nat)(P:Ps)(o1 o2:A3 Ps):O Lx:=[W b76,W nm,W b4x,num cur [] 2 true,Sg e8b]++(lxV P++(i8u o1++(i8u o2++[Sh d0a])))
def stS(nm:A4)(cur:Nat)(P:Ps)(o1 o2:A3 Ps):Statute:=⟨nm,cur,P.ver::(i71 o1++i71 o2)⟩
def j1b{o:A3 Ps}{day:Int}(h:i8z o day)(rest:O UInt8):okA (i8u o) rest:=by cases o with|none=>trivial|some P=>exact j32 h.1 rest
def j0s{o:A3 Ps}{day:Int}(h:i8z o day){ts:O Tk}{vs:O Version}(hv:VersR ts vs):VersR (tk (i8u o) ts) (i71 o++vs):=by cases o with|none=>exact hv|some P=>exact VersR.cons (j9a h.1 ts) hv
def i90(P:Ps):P.ver.From=P.day:=by rw[j73]
def j60{nm:A4}(hn:(AE.nm nm).ok){cur:Nat}(h0:1<=cur)(h1:cur<=999){P:Ps}{o1 o2:A3 Ps}(hP:PsOK P)(hd:P.day=0)(hq1:i8z o1 35245)(hq2:i8z o2 36890):SOK (stS nm cur P o1 o2):=by
 have l1:∀o:A3 Ps,(i71 o).length<=1:=λo=>by cases o<;>simp[i71]
 have a1:=l1 o1;have a2:=l1 o2;have hv:=j2t hP;refine⟨hn.leaf.1,hn.leaf.2,by show(1:Int)<=(cur:Int);omega,by show(cur:Int)<=999;omega,?_,?_,?_,?_⟩;.show 1<=(P.ver::(i71 o1++i71 o2)).length;simp
 .show(P.ver::(i71 o1++i71 o2)).length<=6;simp only[qR,qL];omega
 .intro v hv2;refine⟨i9c,?_⟩;have hv2:v∈P.ver::(i71 o1++i71 o2):=hv2;rcases qO.1 hv2 with rfl|hv2;.exact hv
  rcases qK.1 hv2 with hv2|hv2;.cases o1 with|none=>cases hv2|some Q=>rw[show i71 (some Q)=[Q.ver]from rfl,qF]at hv2;subst hv2;exact j2t hq1.1
  .cases o2 with|none=>cases hv2|some Q=>rw[show i71 (some Q)=[Q.ver]from rfl,qF]at hv2;subst hv2;exact j2t hq2.1
 .show(P.ver::(i71 o1++i71 o2)).Pairwise _;cases o1 with
  |none=>cases o2 with|none=>simp[i71]|some R=>have:=hq2.2;simp[i71,i90];omega
  |some Q=>have h3:=hq1.2;cases o2 with|none=>simp[i71,i90];omega|some R=>have h4:=hq2.2;simp[i71,i90];omega
def j3z{nm:A4}(hw:j0q nm=true)(hn:(AE.nm nm).ok){cur:Nat}(h0:1<=cur)(h1:cur<=999){P:Ps}{o1 o2:A3 Ps}(hP:PsOK P)(hd:P.day=0)(hq1:i8z o1 35245)(hq2:i8z o2 36890){s:A4}(hs:s.size<=8000)(ht:bl s=i40 (lxS nm cur P o1 o2)):a9z s=some (stS nm cur P o1 o2,0,0):=by
 have hA:okA (lxS nm cur P o1 o2) []:=by
  have hk:i6u [W b76,W nm,W b4x,num cur [] 2 true,Sg e8b]=true:=by simp only[i6u,W,Sg,num,N,BEq.rfl,nx,hw,Bool.true_and,Bool.and_true,Bool.true_or];kernel_rfl
  have hnn:i9o [W b76,W nm,W b4x,num cur [] 2 true,Sg e8b]:=⟨trivial,trivial,trivial,.whole (by omega) (.inl ⟨rfl,rfl⟩),trivial,trivial⟩;refine i4u _ _ _ (i6s _ hk hnn _) ?_;.exact i4u _ _ _ (j32 hP _) (i4u _ _ _ (j1b hq1 _) (i4u _ _ _ (j1b hq2 _) (i6s [Sh d0a] (by kernel_rfl) ⟨trivial,trivial⟩ _)))
 have hlen:=j2o _ _ hA;have hsz:s.size=(i40 (lxS nm cur P o1 o2)).length:=by rw[i6n,<-ht];rfl
 obtain⟨toks,hall,hrel,htl⟩:=j3m hs (lxS nm cur P o1 o2) ht (j7a _ hA) (by omega);have hv:VersR (tk (lxV P) (tk (i8u o1) (tk (i8u o2) [.s d0a]))) (P.ver::(i71 o1++i71 o2)):=by have h2:VersR (tk (i8u o2) [.s d0a]) (i71 o2++[]):=j0s hq2 VersR.nil;rw[List.append_nil]at h2;exact VersR.cons (j9a hP _) (j0s hq1 h2)
 have e:(lxS nm cur P o1 o2).map (·.t)=.w b76::.w nm::.w b4x::.n ⟨(cur:Int),1⟩ 2::.s e8b::tk (lxV P) (tk (i8u o1) (tk (i8u o2) [.s d0a])):=by unfold lxS tk;simp only[List.map_append,List.map_cons,List.map_nil,List.cons_append,List.nil_append,W,Sg,Sh,num,N]
 rw[e]at hrel;have hl1:∀o:A3 Ps,(i71 o).length<=1:=λo=>by cases o<;>simp[i71]
 have a1:=hl1 o1;have a2:=hl1 o2;have hnm:j67 nm=true:=by unfold j67;rw[hn.leaf.1]
 exact j46 hall htl hrel hnm (by omega) (by omega) hv (by simp) (by simp only[qR,qL];omega) (j7t (j60 hn h0 h1 hP hd hq1 hq2))
def tSt(nm:A4)(cur:Nat)(P:Ps)(o1 o2:A3 Ps):i40 (lxS nm cur P o1 o2)=bl c70++(bl nm++(bl c2x++(g4v 20 cur++(bl d8i++(i40 (lxV P)++(i40 (i8u o1)++(i40 (i8u o2)++bl d0a))))))):=by unfold lxS;rw[i47,i47,i47,i47];simp only[i40,W,Sg,Wn,Sh,num,N,blk,cond_true,cond_false,qQ,List.nil_append];rfl
def k1g:i8v (64::bl b7u) 0=true:=by kernel_rfl
def k2c:i8v (64::bl b7v) 35245=true:=by kernel_rfl
def k1m:i8v (64::bl b80) 36890=true:=by kernel_rfl
def i8w(s:A4):s.size=(bl s).length:=i6n s
def i9y(P:Ps):i40 (i8u (some P))=i40 (lxV P):=rfl
def i6h:i40 (i8u none)=[]:=rfl
section
variable {n:O Int} {pre r:A4}
def j3a{k:Int}(hl:n.length<=9223372036854775807)(hr:joinC a7x (k,n,pre)=some r):∃o2,i8z o2 36890/\bl r=bl pre++(i40 (i8u o2)++bl d0a)/\(i40 (i8u o2)).length<=2500:=by
 unfold joinC a7x at hr;dsimp only at hr;obtain⟨v15,h15,hr⟩:=qP.1 hr;obtain⟨v16,h16,hr⟩:=qP.1 hr;have b16:=i48 h16 (by decide) (by decide);obtain⟨v16,rfl⟩:=qT b16.1;split at hr;.have hr0:=hr;obtain⟨v17,h17,hr⟩:=qP.1 hr;obtain⟨v18,h18,hr⟩:=qP.1 hr;have t18:=i3y h18;obtain⟨v19,h19,hr⟩:=qP.1 hr;have t19:=i3y h19;have hr:=qH hr;subst hr;obtain⟨P,hP,hd,ht⟩:=i91 k1m (by decide) (by decide) h17;have hsz:=a8b b80 n (i64 ((i64 (7*k))+5)) hl (by decide);obtain⟨z,hz,hz2⟩:=hsz;rw[h17]at hz;have hz:=qH hz;subst hz;rw[i8w,ht]at hz2;exact⟨some P,⟨hP,hd⟩,by rw[t19,t18,ht,i9y,qQ],hz2⟩
 .have hr0:=hr;obtain⟨v20,h20,hr⟩:=qP.1 hr;have t20:=i3y h20;have hr:=qH hr;subst hr;exact⟨none,trivial,by rw[t20,i6h];rfl,by rw[i6h];simp⟩
end
def j1x{k:Nat}(hk:k<3)(n:O Int)(hl:n.length<=9223372036854775807):∃s x,b10 (k:Int) n=some s/\a9z s=some (x,0,0)/\SOK x:=by
 obtain⟨s,hs,_⟩:=c2w (k:=(k:Int)) n hl (by omega) (by omega);have hr:=hs;unfold b10 at hr;obtain⟨nm,hnm,hr⟩:=qP.1 hr;have hN:j0q nm=true/\(AE.nm nm).ok/\(bl nm).length<=5:=by match k,hk,hnm with|0,_,hnm=>have e:c2c=nm:=qH hnm;subst e;exact⟨by kernel_rfl,i7r (by kernel_rfl),by decide⟩|1,_,hnm=>have e:c24=nm:=qH hnm;subst e;exact⟨by kernel_rfl,i7r (by kernel_rfl),by decide⟩|2,_,hnm=>have e:b8j=nm:=qH hnm;subst e;exact⟨by kernel_rfl,i7r (by kernel_rfl),by decide⟩
 rw[hnm]at hr;rw[qA]at hr;obtain⟨v3,h3,hr⟩:=qP.1 hr;have t3:=i3y h3;obtain⟨v4,h4,hr⟩:=qP.1 hr;have t4:=i3y h4;obtain⟨v5,h5,hr⟩:=qP.1 hr;have t5:=i7c h5 (n:=1+k) (by rw[e9 (by omega) (by omega)];omega) (by omega);obtain⟨v6,h6,hr⟩:=qP.1 hr;have t6:=i3y h6;obtain⟨v7,h7,hr⟩:=qP.1 hr;have t7:=i3y h7;obtain⟨v8,h8,hr⟩:=qP.1 hr;obtain⟨v9,h9,hr⟩:=qP.1 hr;have t9:=i3y h9;obtain⟨v10,h10,hr⟩:=qP.1 hr;obtain⟨v11,h11,hr⟩:=qP.1 hr;have b11:=i48 h11 (by decide) (by decide);obtain⟨v11,rfl⟩:=qT b11.1;obtain⟨P,hP,hd,ht⟩:=i91 k1g (by decide) (by decide) h8;have hsz:(i40 (lxV P)).length<=2500:=by obtain⟨z,hz,hz2⟩:=a8b b7u n (i64 (7*(k:Int))) hl (by decide);rw[h8]at hz;have hz:=qH hz;subst hz;rw[i8w,ht]at hz2;exact hz2
 have hdl:=i6e 20 (1+k) 0 (by omega);have fin:∀o1 o2,i8z o1 35245->i8z o2 36890->bl s=bl v9++(i40 (i8u o1)++(i40 (i8u o2)++bl d0a))->(i40 (i8u o1)).length<=2500->(i40 (i8u o2)).length<=2500->∃s x,b10 (k:Int) n=some s/\a9z s=some (x,0,0)/\SOK x:=by
  intro o1 o2 hq1 hq2 e g1 g2;have e2:bl s=i40 (lxS nm (1+k) P o1 o2):=by rw[tSt,e,t9,t7,t6,t5,t4,t3,ht];simp only[qQ]
  have hsz2:s.size<=8000:=by
   rw[i8w,e2,tSt];simp only[qL];have q1:(bl c70).length=8:=by decide
   have q2:(bl c2x).length=10:=by decide
   have q3:(bl d8i).length=3:=by decide
   have q4:(bl d0a).length=1:=by decide
   have:=hN.2.2;omega
  exact⟨s,_,hs,j3z hN.1 hN.2.1 (by omega) (by omega) hP hd hq1 hq2 hsz2 e2,j60 hN.2.1 (by omega) (by omega) hP hd hq1 hq2⟩
 split at hr
 .have hr0:=hr;obtain⟨v12,h12,hr⟩:=qP.1 hr;obtain⟨v13,h13,hr⟩:=qP.1 hr;have t13:=i3y h13;obtain⟨Q,hQ,hdQ,htQ⟩:=i91 k2c (by decide) (by decide) h12;have hszQ:(i40 (lxV Q)).length<=2500:=by obtain⟨z,hz,hz2⟩:=a8b b7v n (i64 ((i64 (7*(k:Int)))+3)) hl (by decide);rw[h12]at hz;have hz:=qH hz;subst hz;rw[i8w,htQ]at hz2;exact hz2
  obtain⟨o2,ho2,e,hlen2⟩:=j3a hl hr;exact fin (some Q) o2 ⟨hQ,hdQ⟩ ho2 (by rw[e,t13,htQ,i9y,qQ]) hszQ hlen2
 .obtain⟨o2,ho2,e,hlen2⟩:=j3a hl hr;exact fin none o2 trivial ho2 (by rw[e,i6h];rfl) (by rw[i6h];simp) hlen2
def vld(f:aQ):Bool:=(m8 f).getD false
def cur(f:aQ):Bool:=vld f&&!f.Withdrawn
def b52(f:aQ):m8 f=some (vld f):=by obtain⟨b,h1,h2,_⟩:=b9h f;unfold vld;simp_all
def d1t(f:aQ):b3k f=some (vld f):=by obtain⟨b,h1,h2,_⟩:=b9h f;unfold vld;simp_all
def b6f(f:aQ):a4e f=some (cur f):=by unfold a4e cur;rw[d1t,qA,o4,qA]
def f4a{f:aQ}(h:cur f=true):0<=f.Span.From/\f.Span.From<f.Span.To/\f.Span.To<=73049:=by obtain⟨b,h1,h2,h3⟩:=b9h f;unfold cur vld at h;simp_all
def b9a(l:O aQ)(hl:l.length<=2^30):a4f l=some (l.filter cur):=by
 unfold a4f a3f;rw[c38 (k:=112) l cur hl (by omega) (λrec s i y hy=>?_) λrec s=>?_,qA];.have hi:=(qD.1 hy).1;unfold a2b;rw[if_pos (o6 hi)];simp only[e7 hy,qA,b6f]
 .unfold a2b;simp_all
def ofP(l:O aQ)(p:Int):O aQ:=l.filter λf=>f.Person==p
def g5h(l:O aQ)(p:Int):(ofP l p).length<=l.length:=length_filter_le _ _
def g9t(l:O aQ)(p:Int)(hl:l.length<=2^30):b2c l p=some (ofP l p):=by
 refine c38 (k:=112) l (λf=>f.Person==p) hl (by omega) (λrec s i y hy=>?_) λrec s=>?_;.have hi:=(qD.1 hy).1;unfold b29;rw[if_pos (o6 hi)];simp only[e7 hy,qA]
 .unfold b29;simp_all
def c9p(kind:Int)(s:Int×Bool)(y:aQ):Int×Bool:=if(y.Kind==kind)&&(!s.2||decide (y.Span.From<s.1))then(y.Span.From,true)else s
def d4x(l:O aQ)(kind:Int)(hl:l.length<=2^30):b4r l kind=some ((l.filter cur).foldl (c9p kind) (0,false)):=by
 rw[foldl_filter];refine e7o (f:=b21 l kind) l (λ(s:Int×Bool)i=>(s.1,s.2,i)) (λx y=>if cur y=true then c9p kind x y else x) (λs=>some s) hl (0,false) (λ_ _=>True) trivial (λrec s i y hy _=>⟨trivial,?_⟩) λrec s _=>?_
 .have hi:=(qD.1 hy).1;unfold b21;rw[if_pos (o6 hi)];simp only[e7 hy,qA,b6f,y3,o4];unfold c9p;cases cur y;.simp
  grind
 .unfold b21;simp_all
def d3m(l:O aQ):Int×Bool:=(l.filter cur).foldl (c9p 12) (0,false)
def e8l(l:O aQ)(hl:l.length<=2^30):b7l l=some (d3m l):=by unfold b7l;rw[d4x l 12 hl];rfl
def b46(n:Int):Nat->O Int|0=>[]|k+1=>IntKind.u8.wrap (c8u .i64 n (8*k))::b46 n k
def b2u(n:Int):∀k,(b46 n k).length=k|0=>rfl|k+1=>by simp[b46,b2u n k]
def d2d(b:O Int)(n:Int)(k:Nat)(hk:k<=8)(hb:b.length<=1000000):g7 b n (k:Int)=some (b++b46 n k):=by
 unfold g7;have:=b9s (f:=b1g n) (λst=>∃(q:O Int)(j:Nat),st=(q,(j:Int)-1)/\j<=k/\q++b46 n j=b++b46 n k) (λst=>(st.2+1).toNat) (λr=>r=b++b46 n k) (s:=(b,i64 ((k:Int)-1))) ⟨b,k,by rw[e9 (by omega) (by omega)],Nat.le_refl _,rfl⟩ (by rw[e9 (by omega) (by omega)];omega) ?_;.simp_all
 .rintro st rec⟨q,j,rfl,hj,hq⟩;unfold b1g;cases j with|zero=>left;simpa[b46]using hq|succ j=>
    right;have e1:((j+1:Nat):Int)-1=(j:Int):=by omega
    have hql:q.length<=1000008:=by have:=congrArg List.length hq;rw[qL,qL,b2u,b2u]at this;omega
    rw[e1,if_pos (by simp),e9 (n:=8*(j:Int)) (by omega) (by omega),b83 (by omega) (by omega)];unfold d0l;rw[if_neg (by omega),qA,p6 (by grind),qA,e9 (n:=(j:Int)-1) (by omega) (by omega)];refine⟨_,rfl,⟨_,j,rfl,by omega,?_⟩,by omega⟩;rw[<-hq,qQ];rfl
def e6z(d:aQ)(c:Int):O Int:=if c=83then b46 d.State 1 else if c=80then b46 d.Span.From 3++b46 d.Span.To 3 else if c=84then b46 d.Seat 1 else if c=72then b46 d.Share 1 else if c=67then b46 d.Currency 2 else if c=65then b46 d.Amount 4 else if c=82then b46 d.Ref 1 else[]
def f4v(d:aQ)(c:Int):(e6z d c).length<=6:=by
 unfold e6z;repeat' split
 all_goals simp[b2u]
def d13(s:A4):Prop:=s.size<=10/\∀i:Nat,i<s.size->b3c s (i:Int)=some ((s.get! i).toNat:Int)/\(s.get! i).toNat<128
def d9w(s:A4)(i:Nat):O Int:=(List.range i).map λj=>((s.get! j).toNat:Int)
def f2o(s:A4)(i:Nat):d9w s (i+1)=d9w s i++[((s.get! i).toNat:Int)]:=by unfold d9w;rw[range_succ,List.map_append];rfl
def c4y(d:aQ):∀l:O Int,(l.flatMap (e6z d)).length<=6*l.length|[]=>by simp|c::l=>by have:=c4y d l;have h:=f4v d c;grind
set_option maxHeartbeats 1000000 in
def f5u (d:aQ)(s:A4)(hs:d13 s)(b:O Int)(hb:b.length <= 1000):d9 FU (a6a s) (d,b,0)=some (b++(d9w s s.size).flatMap (e6z d)):=by
 have:=b9s (f:=a6a s) (λ st=> ∃i:Nat,st=(d,b++(d9w s i).flatMap (e6z d),(i:Int)) /\ i <= s.size) (λ st=>s.size-st.2.2.toNat) (λ r=>r=b++(d9w s s.size).flatMap (e6z d))
  (s:=(d,b,0)) ⟨0,by simp [d9w],Nat.zero_le _⟩ (by dsimp only;have:=hs.1;omega) ?_
 ·obtain ⟨r,h1,h2⟩:=this;rw [h1,h2]
 ·rintro st rec ⟨i,rfl,hi⟩
  have hs1:=hs.1
  have hlen:(b++(d9w s i).flatMap (e6z d)).length <= 2000:=by
   have:=c4y d (d9w s i)
   have hl:(d9w s i).length=i:=by simp [d9w]
   rw [qL];omega
  unfold a6a
  dsimp only
  by_cases h:i<s.size
  ·right
   obtain ⟨h1,_⟩:=hs.2 i h
   rw [if_pos (by simpa using h),h1,qA,a5g (by omega)]
   refine ⟨(d,b++(d9w s (i+1)).flatMap (e6z d),((i+1:Nat):Int)),?_,⟨i+1,rfl,h⟩,by simp only [Int.toNat_natCast];omega⟩
   rw [f2o,List.flatMap_append,<- qQ]
   generalize b++(d9w s i).flatMap (e6z d)=q at hlen⊢
   generalize ((s.get! i).toNat:Int)=c
   simp only [List.flatMap_cons,flatMap_nil,List.append_nil]
   have a1: ∀x,g7 q x 1=some (q++b46 x 1):=λ x=>d2d q x 1 (by omega) (by omega)
   have a2: ∀x,g7 q x 2=some (q++b46 x 2):=λ x=>d2d q x 2 (by omega) (by omega)
   have a4: ∀x,g7 q x 4=some (q++b46 x 4):=λ x=>d2d q x 4 (by omega) (by omega)
   have a3: ∀x,g7 q x 3=some (q++b46 x 3):=λ x=>d2d q x 3 (by omega) (by omega)
   have b3: ∀x y,g7 (q++b46 x 3) y 3=some (q++(b46 x 3++b46 y 3)):=λ x y=>by
    rw [<- qQ];exact d2d _ y 3 (by omega) (by rw [qL,b2u];omega)
   unfold e6z
   simp only [a1,a2,a3,a4,b3,qA,beq_iff_eq]
   repeat' split
   all_goals first | rfl | simp
  ·left
   have:i=s.size:=by omega
   subst this
   rw [if_neg (by simp)]
   exact ⟨_,rfl,rfl⟩
def e4n:d13 b1y:=⟨by decide,by decide⟩
def d7g:d13 a6w:=⟨by decide,by decide⟩
def g5j:d13 c0p:=⟨by decide,by decide⟩
def e47:d13 a9l:=⟨by decide,by decide⟩
def f8e:d13 b82:=⟨by decide,by decide⟩
def g42:d13 c1r:=⟨by decide,by decide⟩
def g6d:d13 c0e:=⟨by decide,by decide⟩
def g92:d13 c6f:=⟨by decide,by decide⟩
def e2s{k:Int}(h0:1<=k)(h1:k<=14):∃s,b2r k=some s/\u4 k=some s/\d13 s:=by
 have:k=1\/k=2\/k=3\/k=4\/k=5\/k=6\/k=7\/k=8\/k=9\/k=10\/k=11\/k=12\/k=13\/k=14:=by omega
 rcases this with rfl|rfl|rfl|rfl|rfl|rfl|rfl|rfl|rfl|rfl|rfl|rfl|rfl|rfl;exact⟨b1y,by kernel_rfl,by kernel_rfl,e4n⟩;exact⟨a6w,by kernel_rfl,by kernel_rfl,d7g⟩;exact⟨a6w,by kernel_rfl,by kernel_rfl,d7g⟩;exact⟨c0p,by kernel_rfl,by kernel_rfl,g5j⟩;exact⟨a9l,by kernel_rfl,by kernel_rfl,e47⟩;exact⟨b82,by kernel_rfl,by kernel_rfl,f8e⟩;exact⟨a9l,by kernel_rfl,by kernel_rfl,e47⟩;exact⟨a9l,by kernel_rfl,by kernel_rfl,e47⟩;exact⟨a9l,by kernel_rfl,by kernel_rfl,e47⟩;exact⟨c1r,by kernel_rfl,by kernel_rfl,g42⟩;exact⟨c0e,by kernel_rfl,by kernel_rfl,g6d⟩;exact⟨c0e,by kernel_rfl,by kernel_rfl,g6d⟩;exact⟨c0e,by kernel_rfl,by kernel_rfl,g6d⟩;exact⟨c6f,by kernel_rfl,by kernel_rfl,g92⟩
def d39{d:aQ}(h:vld d=true):1<=d.Kind/\d.Kind<=14:=by
 by_cases hk:1<=d.Kind/\d.Kind<=14;.omega
 .have h2:=(d4q (k:=d.Kind) (by omega)).2;have hv:=b52 d;unfold m8 at hv;simp only[y3,qA,h2]at hv;simp_all
def f3s(d:aQ):O Int:=[if d.Withdrawn=true then(1:Int)else 0,d.Person,d.Kind].flatMap (λn=>b46 n 1)++((d9w ((b2r d.Kind).getD a3j) ((b2r d.Kind).getD a3j).size).flatMap (e6z d))
def d5g(d:aQ):O Int:=b46 d.Issuer 1++(b46 d.Number 2++(b46 d.Version 1++f3s d))
def d8k(d:aQ)(h:vld d=true):a5z d=some (d5g d):=by
 obtain⟨k0,k1⟩:=d39 h;obtain⟨s,e1,e2,hs⟩:=e2s k0 k1;have key:∀x:Int,a65 (d,x)=some (b46 d.Issuer 1++(b46 d.Number 2++(b46 d.Version 1++([x,d.Person,d.Kind].flatMap (λn=>b46 n 1)++(d9w s s.size).flatMap (e6z d))))):=by intro x;unfold a65;have B:∀(b:O Int)(n:Int)(k:Nat),k<=8->b.length<=1000000->g7 b n (k:Int)=some (b++b46 n k):=λb n k h1 h2=>d2d b n k h1 h2;have a1:=B [] d.Issuer 1 (by omega) (by simp);have a2:=B ([]++b46 d.Issuer 1) d.Number 2 (by omega) (by simp[b2u]);have a3:=B ([]++b46 d.Issuer 1++b46 d.Number 2) d.Version 1 (by omega) (by simp[b2u]);have a4:=B ([]++b46 d.Issuer 1++b46 d.Number 2++b46 d.Version 1) x 1 (by omega) (by simp[b2u]);have a5:=B ([]++b46 d.Issuer 1++b46 d.Number 2++b46 d.Version 1++b46 x 1) d.Person 1 (by omega) (by simp[b2u]);have a6:=B ([]++b46 d.Issuer 1++b46 d.Number 2++b46 d.Version 1++b46 x 1++b46 d.Person 1) d.Kind 1 (by omega) (by simp[b2u]);have c1:((1:Nat):Int)=1:=rfl;have c2:((2:Nat):Int)=2:=rfl;rw[c1]at a1 a3 a4 a5 a6;rw[c2]at a2;rw[a1,qA,a2,qA,a3,qA,a4,qA,a5,qA,a6,qA,e2,qA,f5u d s hs _ (by simp[b2u])];simp
 unfold a5z d5g f3s;rw[b52,h,qA,if_neg (by simp),e1];cases hw:d.Withdrawn;.rw[if_neg (by simp)];rw[b7k,key];simp
 .rw[b7k,key];simp
def e21(p x y:O UInt8):Op.bytesLess (p++x) (p++y)=Op.bytesLess x y:=by induction p with|nil=>rfl|cons a p ih=>show(decide (a<a)||(a==a&&Op.bytesLess (p++x) (p++y)))=_;simp_all
def b3n(x y:O Int):Lib.bytesOf (x++y)=Lib.bytesOf x++Lib.bytesOf y:=by unfold Lib.bytesOf;simp
def c8v(l:O Int):(c6i l).toList=Lib.bytesOf l:=by unfold c6i;simp_all
def b9w{d:aQ}(h:vld d=true):(0<=d.Issuer/\d.Issuer<=5)/\(1<=d.Number/\d.Number<=999)/\1<=d.Version/\d.Version<=99/\1<=d.Person/\d.Person<=99:=by
 have hv:=b52 d;obtain⟨s,e1,e2,_⟩:=e2s (d39 h).1 (d39 h).2;unfold m8 at hv;simp only[y3,qA,e2]at hv;by_cases hb:(((((((decide (d.Issuer<0)||decide (6<=d.Issuer))||decide (d.Number<1))||decide (999<d.Number))||decide (d.Version<1))||decide (99<d.Version))||decide (d.Person<1))||decide (99<d.Person))=true;.simp_all
 .simp at hb;omega
def e26{v:Int}(h0:1<=v)(h1:v<=99):b46 v 1=[v]:=by
 unfold b46 b46 c8u;have e:IntKind.u8.wrap (v.fdiv (2^(min (8*0:Int).toNat IntKind.i64.bits)))=v:=by
  have:(2^(min (8*0:Int).toNat IntKind.i64.bits):Int)=1:=by decide
  rw[this,Int.fdiv_one,IntKind.wrap_u8];omega
 simp_all
def d5u(a b:aQ):Bool:=Op.bytesLess (Lib.bytesOf (d5g a)) (Lib.bytesOf (d5g b))
def f7s{a b:aQ}(ha:vld a=true)(hb:vld b=true)(h1:a.Issuer=b.Issuer)(h2:a.Number=b.Number):b0f a b=some (d5u a b):=by
 have va:=(b9w ha).2.2;have vb:=(b9w hb).2.2;unfold b0f a4v;rw[b52,b52,ha,hb];simp only[qA,qU,qM,if_false];rw[if_neg (by grind),h2,Int.sub_self,qA,if_neg (by decide)];have hpre:d5u a b=Op.bytesLess (Lib.bytesOf (b46 a.Version 1++f3s a)) (Lib.bytesOf (b46 b.Version 1++f3s b)):=by unfold d5u d5g;rw[h1,h2,b3n,b3n,b3n (b46 b.Issuer 1),b3n (b46 b.Number 2),e21,e21]
 by_cases hv:a.Version=b.Version;.rw[if_neg (by grind),d8k a ha,qA,d8k b hb,qA,c8v,c8v];simp[d5u]
 .rw[if_pos (by simp_all),hpre,e26 va.1 va.2.1,e26 vb.1 vb.2.1];congr 1;show _=Op.bytesLess (a.Version.toNat.toUInt8::_) (b.Version.toNat.toUInt8::_);unfold Op.bytesLess;have e1:(a.Version.toNat.toUInt8).toNat=a.Version.toNat:=by rw[Nat.toUInt8_eq,UInt8.toNat_ofNat'];omega
  have e2:(b.Version.toNat.toUInt8).toNat=b.Version.toNat:=by rw[Nat.toUInt8_eq,UInt8.toNat_ofNat'];omega
  have h3:(a.Version.toNat.toUInt8==b.Version.toNat.toUInt8)=false:=by grind
  rw[h3];have h4:(a.Version.toNat.toUInt8<b.Version.toNat.toUInt8)↔a.Version<b.Version:=by rw[UInt8.lt_iff_toNat_lt,e1,e2];omega
  simp[h4]
def c2y(a b:aQ):Prop:=a.Issuer<b.Issuer\/(a.Issuer=b.Issuer/\a.Number<b.Number)
instance(a b:aQ):Decidable (c2y a b):=by unfold c2y;exact inferInstance
def c4o:O aQ->aQ->O aQ|[],f=>[f]|a::t,f=>if c2y a f then a::c4o t f else if c2y f a then f::a::t else(if d5u a f=true then f else a)::t
def e3n(f:aQ):∀l,(c4o l f).length<=l.length+1|[]=>Nat.le_refl _|a::t=>by have:=e3n f t;unfold c4o;grind
def d3d{f u:aQ}:∀{l:O aQ},u∈c4o l f->u∈l\/u=f
 |[],h=>by rw[c4o,qF]at h;simp_all|a::t,h=>by
   unfold c4o at h;split at h
   .rcases qO.1 h with h|h;.simp_all
    .exact(d3d h).imp (qJ _) id
   grind
def d1g{a b c:aQ}(h1:c2y a b)(h2:c2y b c):c2y a c:=by unfold c2y at*;omega
def e28{f:aQ}:∀{l:O aQ},l.Pairwise c2y->(c4o l f).Pairwise c2y
 |[],_=>pairwise_singleton _ _|a::t,h=>by
   obtain⟨h1,h2⟩:=List.pairwise_cons.1 h;unfold c4o;split;.refine List.pairwise_cons.2 ⟨λu hu=>?_,e28 h2⟩;rcases d3d hu with h|h;all_goals simp_all
   .split
    .rename_i hc;refine List.pairwise_cons.2 ⟨λu hu=>?_,h⟩;rcases qO.1 hu with h|h;.simp_all
     .exact d1g hc (h1 u h)
    .refine List.pairwise_cons.2 ⟨λu hu=>?_,h2⟩;have:=h1 u hu;split;.unfold c2y at*;omega
     omega
def d4c{f:aQ}{q:O aQ}:∀{p:O aQ},(∀u∈p,c2y u f)->c4o (p++q) f=p++c4o q f|[],_=>rfl|a::p,h=>by rw[List.cons_append,List.cons_append,<-d4c (p:=p) λu hu=>h u (qJ _ hu)];show(if c2y a f then _ else _)=_;simp_all
def g5b{f:aQ}{q:O aQ}(h:∀u∈q,c2y f u):c4o q f=f::q:=by cases q with|nil=>rfl|cons a t=>have:=h a (qI ..);unfold c4o;rw[if_neg (by unfold c2y at*;omega),if_pos this]
def g6b{f a:aQ}{q:O aQ}(h1:a.Issuer=f.Issuer)(h2:a.Number=f.Number):c4o (a::q) f=(if d5u a f=true then f else a)::q:=by unfold c4o;rw[if_neg (by unfold c2y;omega),if_neg (by unfold c2y;omega)]
def e16(l:O aQ):O aQ:=(l.filter vld).foldl c4o []
def d2h:∀(l out:O aQ),(∀u∈l,vld u=true)->(∀u∈out,vld u=true)->out.Pairwise c2y->(∀u∈l.foldl c4o out,vld u=true)/\(l.foldl c4o out).Pairwise c2y/\(l.foldl c4o out).length<=out.length+l.length|[],out,_,h2,h3=>⟨h2,h3,by simp⟩|f::l,out,h1,h2,h3=>by have:=d2h l (c4o out f) (λu hu=>h1 u (qJ _ hu)) (λu hu=>(d3d hu).elim (h2 u) (λe=>e▸h1 f (qI ..))) (e28 h3);have hl:=e3n f out;grind
def e9u(l:O aQ):(∀u∈e16 l,vld u=true)/\(e16 l).Pairwise c2y/\(e16 l).length<=l.length:=by have:=d2h (l.filter vld) [] (λu hu=>(List.mem_filter.1 hu).2) (λu h=>(by grind)) .nil;refine⟨this.1,this.2.1,?_⟩;have h2:=length_filter_le vld l;simp only[qS]at this;unfold e16;omega
def e8t(l:O aQ)(y:aQ):e16 (l++[y])=if vld y=true then c4o (e16 l) y else e16 l:=by unfold e16;grind
def h2y{a b:aQ}(ha:vld a=true)(hb:vld b=true):∃c,a4v a b=some c/\(0<c↔c2y b a)/\(c=0↔a.Issuer=b.Issuer/\a.Number=b.Number):=by
 have va:=b9w ha;have vb:=b9w hb;unfold a4v;by_cases h:a.Issuer=b.Issuer
 .rw[if_neg (by grind),e9 (by omega) (by omega)];refine⟨_,rfl,?_,?_⟩;.unfold c2y;omega
  omega
 .rw[if_pos (by simp_all),e9 (by omega) (by omega)];refine⟨_,rfl,?_,?_⟩;.unfold c2y;omega
  omega
set_option maxHeartbeats 1000000 in
def insR (a0 a1 x:O aQ)(x2:Int)(rec:((O aQ)×Int) -> A3 (O aQ))(v:aQ)(hv:vld v=true)(hx: ∀u∈x,vld u=true)(hs:x.Pairwise c2y)(hl:x.length <= 2^20):
  d9 FU (a5t rec (a0,a1,x,x2,v)) (x,v,(x.length:Int))=rec (c4o x v,i64 (x2+1)):=by
 refine c4u (f:=a5t rec (a0,a1,x,x2,v)) (λ st=> ∃k:Nat,st=(x,v,(k:Int)) /\ k <= x.length /\ ∀u∈x.drop k,c2y v u) (λ st=>st.2.2.toNat) (λ o=>o=rec (c4o x v,i64 (x2+1))) ⟨x.length,rfl,Nat.le_refl _,by simp⟩ (by simp only [Int.toNat_natCast];omega) ?_
 rintro st rec2 ⟨k,rfl,hk,hd⟩
 unfold a5t
 dsimp only
 have put:(∀u∈x.take k,c2y u v) -> (Option.bind (a1x x 0 (k:Int)) λ s=>Option.bind (a4n 112 [] s) λ l=>Option.bind (a4n 112 l [v]) λ l2=>Option.bind (a1x x (k:Int) (x.length:Int)) λ s2=>Option.bind (a4n 112 l2 s2) λ l3=>rec (l3,i64 (x2+1)))=rec (c4o x v,i64 (x2+1)):=by
  intro hlo
  have ed:(x.drop k).take (x.length-k)=x.drop k:=List.take_of_length_le (by simp)
  have ei:c4o x v=x.take k++v::x.drop k:=by
   have:=d4c (p:=x.take k) (q:=x.drop k) hlo
   rw [List.take_append_drop,g5b hd] at this
   exact this
  rw [b26 (by omega) (by omega) (by omega),qA,p6 (by simp;omega),qA,p6 (by simp;omega),qA,b26 (by omega) (by omega) (by omega),qA,p6 (by simp;omega),qA,ei]
  simp only [Int.toNat_natCast,List.nil_append,Int.toNat_zero,Nat.sub_zero,List.drop_zero]
  rw [ed]
  simp
 cases k with
 | zero=>
   left
   rw [if_neg (by simp),qA,if_neg (by simp),if_neg (by simp),qA,if_neg (by simp)]
   exact put (by simp)
 | succ k=>
   obtain ⟨y,e⟩: ∃y,x[k]? =some y:=⟨_,qG (by omega)⟩
   have ei:i64 (((k+1:Nat):Int)-1)=(k:Int):=by rw [e9 (by omega) (by omega)];omega
   have hyv:=hx y (qE e)
   obtain ⟨c,hc,c1,c2⟩:=h2y hyv hv
   have hlow: ∀u∈x.take k,c2y u y:=by
    have:=hs.sublist (take_sublist (k+1) x)
    rw [a9h e,pairwise_append] at this
    exact λ u hu=>this.2.2 u hu y (qF.2 rfl)
   rw [if_pos (by simp),if_pos (by simp),ei,e7 e]
   simp only [qA]
   rw [hc]
   simp only [qA]
   by_cases h1:0<c
   ·right
    rw [if_pos (by simpa using h1)]
    refine ⟨_,rfl,⟨k,rfl,by omega,λ u hu=> ?_⟩,by simp only [Int.toNat_natCast];omega⟩
    rw [d36 e] at hu
    rcases qO.1 hu with h | h
    ·rw [h];exact c1.1 h1
    ·exact hd u h
   ·left
    rw [if_neg (by simpa using h1)]
    by_cases h2:c=0
    ·rw [if_pos (by simpa using h2)]
     obtain ⟨i1,i2⟩:=c2.1 h2
     rw [f7s hyv hv i1 i2,qA]
     have hlo: ∀u∈x.take k,c2y u v:=λ u hu=>by have:=hlow u hu;unfold c2y at *; omega
     have ex:x=x.take k++y::x.drop (k+1):=by
      have:=(List.take_append_drop k x).symm
      rwa [d36 e] at this
     have ei:c4o x v=x.take k++(if d5u y v=true then v else y)::x.drop (k+1):=by
      have:=d4c (p:=x.take k) (q:=y::x.drop (k+1)) hlo
      rw [<- ex,g6b i1 i2] at this
      exact this
     cases hb:d5u y v with
     | true=>
       rw [if_pos rfl,ei,hb,if_pos rfl]
       congr 2
       unfold a8h
       rw [if_pos (Int.natCast_nonneg _),Int.toNat_natCast]
       have hk':(x.take k).length=k:=by rw [List.length_take];omega
       rw [set_eq_take_append_cons_drop,if_pos (by omega)]
     | false=>
       rw [if_neg (by simp),ei,hb,if_neg (by simp),<- ex]
    ·rw [if_neg (by simpa using h2)]
     refine put λ u hu=> ?_
     have hyl:c2y y v:=by
      have n1: ¬c2y v y:=λ h=>h1 (c1.2 h)
      have n2: ¬(y.Issuer=v.Issuer /\ y.Number=v.Number):=λ h=>h2 (c2.2 h)
      unfold c2y at *; omega
     rw [a9h e] at hu
     rcases qK.1 hu with h | h
     ·exact d1g (hlow u h) hyl
     ·rw [qF] at h;rw [h];exact hyl
def d8r(l:O aQ)(hl:l.length<=2^20):a6c l []=some (e16 l):=by
 refine a9k (f:=a5y l []) l (λs i=>(s,i)) (λs i=>s=e16 (l.take i)) (λo=>o=some (e16 l)) (by omega) ?_ ?_ [] (by simp[e16]);.rintro rec s i y hi hy rfl;right;refine⟨_,?_,rfl⟩;have ho:=e9u (l.take i);rw[List.length_take]at ho;unfold a5y;rw[qS,e9 (by omega) (by omega),if_pos (by simp_all),if_pos (by simp_all),e7 hy,qA,b7k];unfold a9j;rw[b52,qA,a9h hy,e8t];cases hv:vld y with|false=>rw[if_pos (by rfl),if_neg (by simp),a5g (by omega)]|true=>rw[if_neg (by simp),if_pos rfl,insR _ _ _ _ _ _ hv ho.1 ho.2.1 (by omega),a5g (by omega)]
 .rintro rec s rfl;unfold a5y;rw[qS,e9 (by omega) (by omega),if_neg (by simp),List.take_length]
end Go.PL
namespace Go.PL
open Go Go.Sort
def InS(l:O Span)(x:Int):Prop:=∃s∈l,s.From<=x/\x<s.To
def d0f{x:Int}:¬InS [] x:=by rintro⟨s,h,_⟩;grind
def b6n{a b:O Span}{x:Int}:InS (a++b) x↔InS a x\/InS b x:=by
 constructor
 .rintro⟨s,h,h1⟩;rcases qK.1 h with h|h;.exact .inl ⟨s,h,h1⟩
  .exact .inr ⟨s,h,h1⟩
 .rintro(⟨s,h,h1⟩|⟨s,h,h1⟩);.exact⟨s,List.mem_append_left _ h,h1⟩
  .exact⟨s,List.mem_append_right _ h,h1⟩
def b9k{s:Span}{x:Int}:InS [s] x↔s.From<=x/\x<s.To:=by
 constructor;.rintro⟨t,h,h1⟩;simp_all
 .intro h;exact⟨s,qF.2 rfl,h⟩
def c7i{s:Span}{b:O Span}{x:Int}:InS (s::b) x↔(s.From<=x/\x<s.To)\/InS b x:=by have:=@b6n [s] b x;rw[b9k]at this;simp_all
def f6z{a b:O Span}(h:a.Perm b){x:Int}:InS a x↔InS b x:=by
 constructor;.rintro⟨s,hs,h1⟩;exact⟨s,h.mem_iff.1 hs,h1⟩
 .rintro⟨s,hs,h1⟩;exact⟨s,h.mem_iff.2 hs,h1⟩
def Nrm(l:O Span):Prop:=(∀s∈l,0<=s.From/\s.From<s.To/\s.To<=73049)/\l.Pairwise (λa b=>a.To<b.From)
def d9x:Nrm []:=⟨λ_ h=>(by grind),List.Pairwise.nil⟩
def b9y{a:O Span}{s:Span}:Nrm (a++[s])↔Nrm a/\(∀t∈a,t.To<s.From)/\0<=s.From/\s.From<s.To/\s.To<=73049:=by
 unfold Nrm;rw[pairwise_append];constructor;.rintro⟨h1,h2,h3,h4⟩;exact⟨⟨λt ht=>h1 t (List.mem_append_left _ ht),h2⟩,λt ht=>h4 t ht s (qF.2 rfl),h1 s (List.mem_append_right _ (qF.2 rfl))⟩
 .rintro⟨⟨h1,h2⟩,h3,h4⟩;refine⟨λt ht=>?_,h2,pairwise_singleton _ _,λt ht u hu=>?_⟩;.rcases qK.1 ht with h|h;all_goals simp_all
  simp_all
def d4p{a:O Span}{s:Span}:Nrm (s::a)↔Nrm a/\(∀t∈a,s.To<t.From)/\0<=s.From/\s.From<s.To/\s.To<=73049:=by
 unfold Nrm;constructor;.simp_all
 simp_all
def c3n{l:O Span}(h:Nrm l):l.length<=73049:=by
 have key:∀(l:O Span),Nrm l->∀s∈l.getLast?,(l.length:Int)<=s.To:=by
  intro l;have:∀(r:O Span),Nrm r.reverse->∀s∈r.head?,(r.length:Int)<=s.To:=by intro r;induction r with|nil=>simp_all|cons u r ih=>intro hn s hs;rw[reverse_cons]at hn;obtain⟨h1,h2,h3⟩:=b9y.1 hn;cases r with|nil=>grind|cons v r=>have b:=h2 v (by simp);grind
  intro hn s hs;have:=this l.reverse (by simp_all) s (by simp_all);simp_all
 rcases h1f l with rfl|⟨a,t,rfl⟩;.simp_all
 .have a:=key _ h t (by simp);have b:=(b9y.1 h).2.2;omega
def g7w:SWO (λx y:Span=>decide (x.From<y.From)):=by constructor;all_goals grind
def e7s(l:O Span)(h:l.length<4611686018427387904):∃r,b3w l=some r/\r.Perm l/\r.Pairwise (λa b=>a.From<=b.From):=by
 unfold b3w f0f;by_cases h1:l.length<=1;.rw[if_pos h1];match l,h1 with|[],_=>simp_all|[x],_=>simp_all
 .rw[if_neg h1,if_pos h];have hp:=pdq_sorts (λx y:Span=>decide (x.From<y.From)) g7w l.toArray 0 l.toArray.size (Lib.bitLen l.toArray.size) true true (Nat.zero_le _) (Nat.le_refl _) (Or.inl rfl);rw[List.size_toArray]at hp;generalize pdq (λx y:Span=>decide (x.From<y.From)) l.toArray 0 l.length (Lib.bitLen l.length) true true=d at hp⊢;obtain⟨⟨p1,p2,p3⟩,p4⟩:=hp;have p1':d.size=l.length:=by omega
  have e1:d.extract 0 l.length=d:=by rw[<-p1'];simp
  have e2:l.toArray.extract 0 l.length=l.toArray:=by simp
  rw[e1,e2]at p3;refine⟨d.toList,rfl,by omega,?_⟩;rw[pairwise_iff_getElem];intro i j hi hj hij;have:=p4 i j (Nat.zero_le _) hij (by grind);have hi':i<d.size:=by omega
  have hj':j<d.size:=by omega
  simp only[decide_eq_false_iff_not]at this;rw[getElem!_pos d j hj',getElem!_pos d i hi']at this;simp only[Array.getElem_toList];omega
set_option maxHeartbeats 1000000 in
def e6o (l:O Span)(hl:l.length <= 2^40)(hs:l.Pairwise (λ a b=>a.From <= b.From))(hr: ∀s∈l,0 <= s.From /\ s.From<s.To /\ s.To <= 73049)(Q:A3 (O Span) -> Prop)
  (hQ: ∀r,Nrm r -> (∀x,InS r x↔InS l x) -> r.length <= l.length -> Q (some r)):Q (d9 FU (b2e l) ([],l,0)):=by
 refine a9k (f:=b2e l) l (λ s i=>(s,l,i)) (λ s i=>Nrm s /\ (∀x,InS s x↔InS (l.take i) x) /\ s.length <= i /\ ∀t∈s,∃u∈l.take i,u.From=t.From) Q (by omega) ?_ ?_ [] ⟨d9x,λ x=>by simp,Nat.le_refl _,λ t h=>by cases h⟩
 ·rintro rec s i y hi hy ⟨h1,h2,h3,h4⟩
  right
  have hyl:y∈l:=qE hy
  have hyr:=hr y hyl
  unfold b2e
  dsimp only
  rw [if_pos (by simp;omega),e7 hy,qA,qA,a5g (by omega),a9h hy]
  have hord: ∀u∈l.take i,u.From <= y.From:=by
   intro u hu
   have hi':=qG hi
   rw [hy] at hi'
   have e:l=l.take i++l.drop i:=(List.take_append_drop i l).symm
   rw [e,pairwise_append] at hs
   refine hs.2.2 u hu y ?_
   rw [qH hi',List.drop_eq_getElem_cons hi];exact qI ..
  rcases h1f s with rfl | ⟨a,t,rfl⟩
  ·simp only [qS,Int.natCast_zero,Int.lt_irrefl,decide_false,qM,if_false,qA]
   rw [p6 (by simp),qA]
   refine ⟨[y],rfl,?_,λ x=> ?_,by simp,?_⟩
   ·have:=b9y (a:=[]) (s:=y);simp only [List.nil_append] at this;rw [this];exact ⟨d9x,λ t h=>(by cases h),hyr⟩
   ·have:=h2 x
    rw [b6n,<- this];simp [d0f]
   ·intro t ht;rw [qF] at ht;subst ht;exact ⟨t,by simp,rfl⟩
  ·obtain ⟨n1,n2,n3⟩:=b9y.1 h1
   have hlen:a.length<2^62:=by rw [qL] at h3;simp at h3;omega
   have htf:t.From <= y.From:=by
    obtain ⟨u,hu,he⟩:=h4 t (by simp)
    have:=hord u hu;omega
   rw [if_pos (by rw [qL];simp),d3s a t hlen,qA,qA,qA]
   by_cases hc:y.From <= t.To
   ·rw [if_pos (by simpa using hc),qA,qA,qA,qA,d3y a t _ hlen]
    refine ⟨a++[(⟨t.From,max t.To y.To⟩:Span)],rfl,?_,λ x=> ?_,by simp at h3 ⊢; omega,?_⟩
    ·rw [b9y];exact ⟨n1,n2,by dsimp only;omega,by dsimp only;omega,by dsimp only;omega⟩
    ·have:=h2 x
     rw [b6n,b9k] at this
     rw [b6n,b6n,<- this,b9k,b9k]
     dsimp only
     by_cases hax:InS a x
     ·simp [hax]
     ·simp only [hax,false_or];omega
    ·intro v hv
     rcases qK.1 hv with hv | hv
     ·obtain ⟨u,hu,he⟩:=h4 v (List.mem_append_left _ hv);exact ⟨u,List.mem_append_left _ hu,he⟩
     ·rw [qF] at hv;subst hv
      obtain ⟨u,hu,he⟩:=h4 t (by simp);exact ⟨u,List.mem_append_left _ hu,he⟩
   ·rw [if_neg (by simpa using hc),p6 (by simp at h3 ⊢; omega),qA]
    refine ⟨a++[t]++[y],rfl,?_,λ x=> ?_,by simp at h3 ⊢; omega,?_⟩
    ·rw [b9y]
     refine ⟨h1,λ v hv=> ?_,hyr⟩
     rcases qK.1 hv with hv | hv
     ·have:=n2 v hv;omega
     ·rw [qF] at hv;subst hv;omega
    ·have:=h2 x
     rw [b6n (a:=a++[t]),b6n (a:=l.take i),this]
    ·intro v hv
     rcases qK.1 hv with hv | hv
     ·obtain ⟨u,hu,he⟩:=h4 v hv;exact ⟨u,List.mem_append_left _ hu,he⟩
     ·rw [qF] at hv;subst hv
      exact ⟨v,by simp,rfl⟩
 ·rintro rec s ⟨h1,h2,h3,_⟩
  rw [List.take_length] at h2
  unfold b2e
  dsimp only
  rw [if_neg (by simp)]
  exact hQ s h1 h2 h3
set_option maxHeartbeats 1000000 in
def c1p (d:O Span)(hd:d.length <= 2^40): ∃r,a2w d=some r /\ Nrm r /\ (∀x,InS r x↔InS d x /\ 0 <= x /\ x<73049) /\ r.length <= d.length:=by
 unfold a2w
 refine a9k (f:=b5z d) d (λ s i=>(s,[],i)) (λ s i=>(∀u∈s,0 <= u.From /\ u.From<u.To /\ u.To <= 73049) /\ (∀x,InS s x↔InS (d.take i) x /\ 0 <= x /\ x<73049) /\ s.length <= i)
  (λ o=> ∃r,o=some r /\ Nrm r /\ (∀x,InS r x↔InS d x /\ 0 <= x /\ x<73049) /\ r.length <= d.length) (by omega) ?_ ?_ [] ⟨λ u h=>(by cases h),λ x=>by simp [d0f],Nat.le_refl _⟩
 ·rintro rec s i y hi hy ⟨h1,h2,h3⟩
  right
  unfold b5z c3q
  dsimp only
  rw [if_pos (by simp;omega),e7 hy,qA,a5g (by omega),qA,a9h hy]
  dsimp only
  by_cases hc:max y.From 0<min y.To 73049
  ·rw [if_pos (by simpa using hc),p6 (by simp;omega),qA]
   refine ⟨s++[(⟨max y.From 0,min y.To 73049⟩:Span)],rfl,λ u hu=> ?_,λ x=> ?_,by simp;omega⟩
   ·rcases qK.1 hu with hu | hu
    ·exact h1 u hu
    ·rw [qF] at hu;subst hu;dsimp only;omega
   ·rw [b6n,b6n,h2 x,b9k,b9k]
    dsimp only
    by_cases hax:InS (d.take i) x
    ·simp only [hax,true_and,true_or];omega
    ·simp only [hax,false_and,false_or];omega
  ·rw [if_neg (by simpa using hc)]
   refine ⟨s,rfl,h1,λ x=> ?_,by omega⟩
   rw [b6n,h2 x,b9k]
   by_cases hax:InS (d.take i) x
   ·simp only [hax,true_and,true_or]
   ·simp only [hax,false_and,false_or]
    refine ⟨λ h=>h.elim,λ h=> ?_⟩
    omega
 ·rintro rec s ⟨h1,h2,h3⟩
  rw [List.take_length] at h2
  unfold b5z
  dsimp only
  rw [if_neg (by simp)]
  obtain ⟨q,e,hp,hq⟩:=e7s s (by omega)
  rw [e,qA]
  have hql:=hp.length_eq
  refine e6o q (by omega) hq (λ u hu=>h1 u (hp.mem_iff.1 hu)) (λ o=> ∃r,o=some r /\ Nrm r /\ (∀x,InS r x↔InS d x /\ 0 <= x /\ x<73049) /\ r.length <= d.length) λ r a b c=>⟨r,rfl,a,λ x=> ?_,by omega⟩
  rw [b x,f6z hp,h2 x]
def e20{l:O Span}(h:Nrm l)(i:Nat):Nrm (l.drop i):=⟨λs hs=>h.1 s (mem_of_mem_drop hs),h.2.sublist (drop_sublist i l)⟩
def d6x{l:O Span}{s:Span}(h:Nrm (s::l)){x:Int}(hx:InS l x):s.To<x:=by obtain⟨v,hv,h1⟩:=hx;have:=(d4p.1 h).2.1 v hv;omega
set_option maxHeartbeats 2000000 in
def d0q (a b:O Span)(ha:a.length <= 2^40)(hb:b.length <= 2^40):
  ∃r,b2g a b=some r /\ Nrm r /\ ∀x,InS r x↔InS a x /\ InS b x /\ 0 <= x /\ x<73049:=by
 obtain ⟨z,hz,nz,mz,lz⟩:=c1p a ha
 obtain ⟨w,hw,nw,mw,lw⟩:=c1p b hb
 unfold b2g
 rw [hz,qA,hw,qA]
 refine b9s (f:=b2h)
  (λ st=> ∃(x:O Span)(i j:Nat),st=(z,w,x,(i:Int),(j:Int)) /\ i <= z.length /\ j <= w.length /\ Nrm x /\ (∀d,InS x d -> InS z d /\ InS w d) /\ (∀d,InS z d -> InS w d -> InS x d \/ (InS (z.drop i) d /\ InS (w.drop j) d)) /\
   (∀t∈x,∀y1∈z.drop i,∀y2∈w.drop j,t.To<max y1.From y2.From) /\ x.length <= i+j)
  (λ st=>z.length+w.length-st.2.2.2.1.toNat-st.2.2.2.2.toNat) _ ⟨[],0,0,rfl,Nat.zero_le _,Nat.zero_le _,d9x,λ d h=>absurd h d0f,λ d h1 h2=> .inr (by simpa using ⟨h1,h2⟩),λ t h=>(by cases h),Nat.zero_le _⟩ (by dsimp only;omega) ?_
 rintro st rec ⟨x,i,j,rfl,hi,hj,n,m1,m2,m3,hl⟩
 unfold b2h
 dsimp only
 rw [o4,qA]
 by_cases hc:i<z.length /\ j<w.length
 ·right
  obtain ⟨hi',hj'⟩:=hc
  rw [if_pos (by simp;omega)]
  obtain ⟨y1,e1⟩: ∃y1,z[i]? =some y1:=⟨_,qG hi'⟩
  obtain ⟨y2,e2⟩: ∃y2,w[j]? =some y2:=⟨_,qG hj'⟩
  have d1:=d36 e1
  have d2:=d36 e2
  have nd1:Nrm (y1::z.drop (i+1)):=d1▸e20 nz i
  have nd2:Nrm (y2::w.drop (j+1)):=d2▸e20 nw j
  rw [d1,d2] at m2 m3
  have i1:InS z=InS z:=rfl
  have z1: ∀d,y1.From <= d /\ d<y1.To -> InS z d:=λ d h=>⟨y1,qE e1,h⟩
  have z2: ∀d,y2.From <= d /\ d<y2.To -> InS w d:=λ d h=>⟨y2,qE e2,h⟩
  have b1:=(d4p.1 nd1).2
  have b2:=(d4p.1 nd2).2
  have next: ∀x':O Span,Nrm x' -> (∀d,InS x' d↔InS x d \/ ((y1.From <= d /\ d<y1.To) /\ (y2.From <= d /\ d<y2.To))) -> (∀t∈x',t∈x \/ t.To=min y1.To y2.To) -> x'.length <= i+j+1 ->
    ∃s',Go.SX.joinC (a92 rec) (z,w,x',(i:Int),(j:Int))=rec s' /\ (∃(x:O Span)(i j:Nat),s'=(z,w,x,(i:Int),(j:Int)) /\ i <= z.length /\ j <= w.length /\ Nrm x /\ (∀d,InS x d -> InS z d /\ InS w d) /\ (∀d,InS z d -> InS w d -> InS x d \/ (InS (z.drop i) d /\ InS (w.drop j) d)) /\
     (∀t∈x,∀y1∈z.drop i,∀y2∈w.drop j,t.To<max y1.From y2.From) /\ x.length <= i+j) /\ z.length+w.length-s'.2.2.2.1.toNat-s'.2.2.2.2.toNat<z.length+w.length-(i:Int).toNat-(j:Int).toNat:=by
   intro x' n' q1 q2 q3
   rw [b7k];unfold a92;dsimp only
   simp only [e7 e1,e7 e2,qA]
   rw [a5g (by omega),a5g (by omega)]
   have q4: ∀d,InS x' d -> InS z d /\ InS w d:=by
    intro d hd
    rcases (q1 d).1 hd with h | h
    ·exact m1 d h
    ·exact ⟨z1 d h.1,z2 d h.2⟩
   by_cases hlt:y1.To<y2.To
   ·rw [if_pos (by simpa using hlt)]
    refine ⟨_,rfl,⟨x',i+1,j,rfl,by omega,by omega,n',q4,λ d h1 h2=> ?_,λ t ht v1 hv1 v2 hv2=> ?_,by omega⟩,by simp only [Int.toNat_natCast];omega⟩
    ·rcases m2 d h1 h2 with h | ⟨h,h'⟩
     ·exact .inl ((q1 d).2 (.inl h))
     ·rcases c7i.1 h with g | g
      ·rcases c7i.1 h' with g' | g'
       ·exact .inl ((q1 d).2 (.inr ⟨g,g'⟩))
       ·have:=d6x nd2 g';omega
      ·right;rw [d2];exact ⟨g,h'⟩
    ·rw [d2] at hv2
     rcases q2 t ht with h | h
     ·exact m3 t h v1 (qJ _ hv1) v2 hv2
     ·have:=b1.1 v1 hv1;omega
   ·rw [if_neg (by simpa using hlt)]
    refine ⟨_,rfl,⟨x',i,j+1,rfl,by omega,by omega,n',q4,λ d h1 h2=> ?_,λ t ht v1 hv1 v2 hv2=> ?_,by omega⟩,by simp only [Int.toNat_natCast];omega⟩
    ·rcases m2 d h1 h2 with h | ⟨h,h'⟩
     ·exact .inl ((q1 d).2 (.inl h))
     ·rcases c7i.1 h' with g' | g'
      ·rcases c7i.1 h with g | g
       ·exact .inl ((q1 d).2 (.inr ⟨g,g'⟩))
       ·have:=d6x nd1 g;omega
      ·right;rw [d1];exact ⟨h,g'⟩
    ·rw [d1] at hv1
     rcases q2 t ht with h | h
     ·exact m3 t h v1 hv1 v2 (qJ _ hv2)
     ·have:=b2.1 v2 hv2;omega
  simp only [e7 e1,e7 e2,qA]
  by_cases ho:max y1.From y2.From<min y1.To y2.To
  ·rw [if_pos (by simpa using ho),p6 (by simp;omega),qA]
   refine next _ (b9y.2 ⟨n,λ t ht=>m3 t ht y1 (qI ..) y2 (qI ..),by dsimp only;omega,by dsimp only;omega,by dsimp only;omega⟩) (λ d=> ?_) (λ t ht=> ?_) (by simp;omega)
   ·rw [b6n,b9k];dsimp only
    by_cases hx:InS x d
    ·simp [hx]
    ·simp only [hx,false_or];omega
   ·rcases qK.1 ht with h | h
    ·exact .inl h
    ·rw [qF] at h;subst h;exact .inr rfl
  ·rw [if_neg (by simpa using ho)]
   refine next _ n (λ d=> ?_) (λ t ht=> .inl ht) (by omega)
   by_cases hx:InS x d
   ·simp [hx]
   ·simp only [hx,false_or]
    refine ⟨λ h=>h.elim,λ h=> ?_⟩
    omega
 ·left
  rw [if_neg (by simp;omega)]
  refine ⟨x,rfl,n,λ d=> ?_⟩
  have:InS x d↔InS z d /\ InS w d:=by
   refine ⟨m1 d,λ h=> ?_⟩
   rcases m2 d h.1 h.2 with h | ⟨h1,h2⟩
   ·exact h
   ·exfalso
    by_cases hi':i<z.length
    ·rw [List.drop_eq_nil_of_le (by omega)] at h2;exact d0f h2
    ·rw [List.drop_eq_nil_of_le (by omega)] at h1;exact d0f h1
  rw [this,mz,mw]
  constructor
  ·rintro ⟨⟨h1,h2,h3⟩,h4,_⟩;exact ⟨h1,h4,h2,h3⟩
  ·rintro ⟨h1,h4,h2,h3⟩;exact ⟨⟨h1,h2,h3⟩,h4,h2,h3⟩
def c95(a:O Span)(s:Span)(ha:a.length<=2^40):∃r,s6 a s=some r/\Nrm r/\∀x,InS r x↔InS a x/\(s.From<=x/\x<s.To)/\0<=x/\x<73049:=by obtain⟨r,h1,h2,h3⟩:=d0q a [s] ha (by simp);refine⟨r,by unfold s6;simp_all,h2,λx=>?_⟩;rw[h3,b9k]
def inB(l:O Span)(x:Int):Bool:=l.any λs=>decide (s.From<=x)&&decide (x<s.To)
end Go.PL
namespace Go.PL
open Go Go.SX
def c03(l:O Span)(d:Int)(hl:l.length<=2^30):a8r l d=some ((decide (0<=d)&&decide (d<=73048))&&inB l d):=by
 unfold a8r;rw[y3,qA];obtain⟨n,h1,h2⟩:=c5d (f:=o5 l d) l (λs=>decide (s.From<=d)&&decide (d<s.To)) hl (λrec i y hy=>by have hi:=(qD.1 hy).1;unfold o5 b5c;rw[if_pos (o6 hi)];simp only[e7 hy,qA,o4]) λrec=>by unfold o5;simp_all
 have e:(decide (d<0)||decide (d>=73049))=!(decide (0<=d)&&decide (d<=73048)):=by grind
 rw[e];cases hc:(decide (0<=d)&&decide (d<=73048));.rfl
 .unfold s8 y4;rw[h1,qA,qA,h2];rfl
def h3z{x:Int}(h0:0<=x):c8u .u64 x 32=x/4294967296:=by exact Int.fdiv_eq_ediv_of_nonneg _ (by decide)
def g84{x n:Int}(h0:0<=x):0<=c8u .u64 x n/\c8u .u64 x n<=x:=by unfold c8u;have hp:(0:Int)<2^(min n.toNat IntKind.u64.bits):=Int.pow_pos (by decide);rw[Int.fdiv_eq_ediv_of_nonneg _ (Int.le_of_lt hp)];exact⟨Int.ediv_nonneg h0 (Int.le_of_lt hp),Int.ediv_le_self _ h0⟩
def c5u{k:IntKind}{x n:Int}(h:0<=n):d0l k x n=some (c8u k x n):=by unfold d0l;simp_all
def e1w{k:IntKind}{x n:Int}(h:0<=n):g2a k x n=some (e70 k x n):=by unfold g2a;simp_all
def g53{x n:Int}{j:Nat}(h0:0<=x)(hn:n=(j:Int))(hj:j<=64):c8u .u64 x n=x/(2^j:Int):=by
 unfold c8u;have e1:min ((j:Int).toNat) IntKind.u64.bits=j:=by simp only[Int.toNat_natCast,IntKind.bits];omega
 grind
def g3r{x n:Int}{j:Nat}(hn:n=(j:Int))(hj:j<=64):e70 .u64 x n=u64 (x*2^j):=by
 subst hn;unfold e70;have e1:min ((j:Int).toNat) IntKind.u64.bits=j:=by simp only[Int.toNat_natCast,IntKind.bits];omega
 rw[e1];rfl
def f6s:(List.range 256).all (λk=>(b3c b3u (k:Int))==some ((if k=0then 0 else Nat.log2 k+1:Nat):Int))=true:=by kernel_rfl
def g4q{k:Nat}(hk:k<256):b3c b3u (k:Int)=some ((if k=0then 0 else Nat.log2 k+1:Nat):Int):=by have:=qX.1 f6s k (List.mem_range.2 hk);simp_all
def f5x{k:Nat}(h0:0<k)(hk:k<256):∃z:Nat,b3c b3u (k:Int)=some (z:Int)/\1<=z/\z<=8/\2^(z-1)<=k/\k<2^z:=by
 refine⟨Nat.log2 k+1,?_,by omega,?_,?_,Nat.lt_log2_self⟩;.rw[g4q hk,if_neg (by omega)]
 .have:Nat.log2 k<8:=(Nat.log2_lt (by omega)).2 hk;omega
 .exact Nat.log2_self_le (by omega)
def f3q{x:Nat}(h0:0<x)(h1:x<18446744073709551616):∃z:Nat,b8x (x:Int)=some (z:Int)/\1<=z/\z<=64/\2^(z-1)<=x/\x<2^z:=by
 have sh:∀(y j:Nat),j<=64->d0l .u64 (y:Int) (j:Int)=some ((y/2^j:Nat):Int):=by intro y j hj;rw[c5u (by omega),g53 (Int.natCast_nonneg y) rfl hj];simp
 have up:∀(y j z:Nat),1<=z->2^(z-1)<=y/2^j->y/2^j<2^z->2^(j+z-1)<=y/\y<2^(j+z):=by
  intro y j z hz h1 h2;have e1:2^(j+z-1)=2^(z-1)*2^j:=by rw[<-Nat.pow_add];congr 1;omega
  have e2:2^(j+z)=2^z*2^j:=by rw[<-Nat.pow_add,Nat.add_comm]
  have hp:0<2^j:=Nat.pos_of_ne_zero (by simp);exact⟨by rw[e1];exact(Nat.le_div_iff_mul_le hp).1 h1,by rw[e2];exact(Nat.div_lt_iff_lt_mul hp).1 h2⟩
 have j3:∀(y n:Nat),0<y->y<256->n<=56->∃z:Nat,(Option.bind (b3c b3u (IntKind.u8.wrap (y:Int))) λv=>some (i64 ((n:Int)+i64 v)))=some ((n+z:Nat):Int)/\1<=z/\z<=8/\2^(z-1)<=y/\y<2^z:=by
  intro y n hy0 hy hn;obtain⟨z,hz,a1,a2,a3,a4⟩:=f5x hy0 hy;refine⟨z,?_,a1,a2,a3,a4⟩;have:(IntKind.u8.wrap) (y:Int)=(y:Int):=by rw[IntKind.wrap_u8];omega
  rw[this,hz,qA,e9 (n:=(z:Int)) (by omega) (by omega),e9 (by omega) (by omega)];rfl
 have j2:∀(y n:Nat),0<y->y<65536->n<=48->∃z:Nat,b62 ((y:Int),(n:Int))=some ((n+z:Nat):Int)/\1<=z/\z<=16/\2^(z-1)<=y/\y<2^z:=by
  intro y n hy0 hy hn;unfold b62;by_cases h:256<=y;.rw[if_pos (by simp;omega),show(8:Int)=((8:Nat):Int)from rfl,sh y 8 (by decide),qA,e9 (n:=(n:Int)+((8:Nat):Int)) (by omega) (by omega)];obtain⟨z,hz,a1,a2,a3,a4⟩:=j3 (y/2^8) (n+8) (by omega) (by omega) (by omega);have:=up y 8 z a1 a3 a4;refine⟨8+z,?_,by omega,by omega,this.1,this.2⟩;rw[show((n:Int)+((8:Nat):Int))=((n+8:Nat):Int)by simp,hz];congr 2;omega
  .rw[if_neg (by simp;omega)];obtain⟨z,hz,a1,a2,a3,a4⟩:=j3 y n hy0 (by omega) (by omega);exact⟨z,hz,a1,by omega,a3,a4⟩
 have j1:∀(y n:Nat),0<y->y<4294967296->n<=32->∃z:Nat,b65 ((y:Int),(n:Int))=some ((n+z:Nat):Int)/\1<=z/\z<=32/\2^(z-1)<=y/\y<2^z:=by
  intro y n hy0 hy hn;unfold b65;simp only[b7k];by_cases h:65536<=y;.rw[if_pos (by simp;omega),show(16:Int)=((16:Nat):Int)from rfl,sh y 16 (by decide),qA,e9 (n:=(n:Int)+((16:Nat):Int)) (by omega) (by omega)];obtain⟨z,hz,a1,a2,a3,a4⟩:=j2 (y/2^16) (n+16) (by omega) (by omega) (by omega);have:=up y 16 z a1 a3 a4;refine⟨16+z,?_,by omega,by omega,this.1,this.2⟩;rw[show((n:Int)+((16:Nat):Int))=((n+16:Nat):Int)by simp,hz];congr 2;omega
  .rw[if_neg (by simp;omega)];obtain⟨z,hz,a1,a2,a3,a4⟩:=j2 y n hy0 (by omega) (by omega);exact⟨z,hz,a1,by omega,a3,a4⟩
 unfold b8x;simp only[b7k];by_cases h:4294967296<=x;.rw[if_pos (by simp;omega),show(32:Int)=((32:Nat):Int)from rfl,sh x 32 (by decide),qA];obtain⟨z,hz,a1,a2,a3,a4⟩:=j1 (x/2^32) 32 (by omega) (by omega) (by omega);have:=up x 32 z a1 a3 a4;exact⟨32+z,hz,by omega,by omega,this.1,this.2⟩
 .rw[if_neg (by simp;omega)];obtain⟨z,hz,a1,a2,a3,a4⟩:=j1 x 0 h0 (by omega) (by omega);exact⟨z,by rw[<-Nat.zero_add z];omega,a1,by omega,a3,a4⟩
def lead{p:Int}(h0:0<p)(h1:p<18446744073709551616):∃z:Nat,a7n p=some (z:Int)/\z<=63/\9223372036854775808<=p*2^z/\p*2^z<18446744073709551616:=by
 obtain⟨z,hz,a1,a2,a3,a4⟩:=f3q (x:=p.toNat) (by omega) (by omega);have hp:((p.toNat:Nat):Int)=p:=by omega
 rw[hp]at hz;refine⟨64-z,?_,by omega,?_,?_⟩;.unfold a7n;rw[hz,qA,e9 (by omega) (by omega)];grind
 .have h2:2^(z-1)*2^(64-z)<=p.toNat*2^(64-z):=Nat.mul_le_mul_right _ a3;rw[<-Nat.pow_add,show z-1+(64-z)=63by omega]at h2;grind
 .have h2:p.toNat*2^(64-z)<2^z*2^(64-z):=Nat.mul_lt_mul_of_pos_right a4 (Nat.pos_of_ne_zero (by simp));rw[<-Nat.pow_add,show z+(64-z)=64by omega]at h2;grind
def e3h(v:Int×Int×Int×Int×Int×Int)(h:0<=v.2.1):Tot (b5x v) λr=>0<=r.2/\r.2<18446744073709551616:=by unfold b5x;rw[c5u h,qA];have h2:=b51 (u64 (u64 (v.2.2.2.2.1*4294967296)+v.2.2.1)-u64 (v.2.2.2.2.2*v.1));have h3:=g84 (n:=v.2.1) h2.1;exact tC ⟨h3.1,by omega⟩
def e8v(a b:Int):0<=orK .u64 a b/\orK .u64 a b<=18446744073709551615:=b51 _
def d6u{A y:Int}(h0:0<=A)(h1:A<=18446744073709551615)(hy:2147483648<=y)(hy2:y<4294967296):0<=u64 (A-u64 (u64 (A.tdiv y)*y))/\u64 (A-u64 (u64 (A.tdiv y)*y))<4294967296:=by
 have e1:A.tdiv y=A/y:=c7w h0;have h2:0<=A/y:=Int.ediv_nonneg h0 (by omega);have h4:A/y<=A:=Int.ediv_le_self _ h0;have h5:0<=A/y*y:=Int.mul_nonneg h2 (by omega);have h6:A-A/y*y=A%y:=by rw[Int.mul_comm];exact(Int.emod_def A y).symm
 have h7:=Int.emod_nonneg A (by omega:y≠0);have h8:=Int.emod_lt_of_pos A (by omega:0<y);rw[e1,b83 (n:=A/y) (by omega) (by omega),b83 (n:=A/y*y) (by omega) (by omega),h6,b83 (by omega) (by omega)];omega
def f7r(v:Int×Int×Int×Int×Int×Int×Int×Int)(hz:0<=v.2.1)(hq:2147483648<=v.2.2.1)(hq2:v.2.2.1<4294967296):Tot (b31 v) λr=>0<=r.2/\r.2<18446744073709551616:=by unfold b31;have hA:=b51 ((u64 ((u64 (v.2.2.2.2.1*4294967296))+v.2.2.2.2.2.1))-(u64 (v.2.2.2.2.2.2.2*v.1)));rw[if_neg (by omega),qA];obtain⟨r2,r3⟩:=d6u hA.1 hA.2 hq hq2;refine tO (I:=λs:Int×Int=>0<=s.1/\s.1<4294967296) (μ:=λs=>(4294967296-s.1).toNat) ⟨r2,r3⟩ (by omega) ?_;rintro rec⟨x3,x4⟩⟨h3,h4⟩ih;unfold c4t;rw[a1z,qA];refine tD (λ_=>tD (λ_=>tJ (e3h _ hz)) λhlt=>?_) λ_=>tJ (e3h _ hz);simp only[decide_eq_true_eq]at hlt;rw[b83 (n:=x3+v.2.2.1) (by omega) (by omega)]at hlt⊢;exact ih _ ⟨by omega,by omega⟩ (by omega)
def c4l{d i p:Int}(hd:0<=d)(hi:0<=i)(hi1:i<18446744073709551616)(hp0:d<p)(hp:p<18446744073709551616):Tot (a8o d i p) λr=>0<=r.2/\r.2<18446744073709551616:=by
 unfold a8o;rw[if_neg (by grind)];refine tJ ?_;unfold b9j;rw[if_neg (by simp_all)];refine tJ ?_;unfold b9t;dsimp only;refine tD (λ_=>?_) λh0=>?_;.rw[if_neg (by omega),qA];exact tA (a3p hi (by omega)) λ_ h=>tC ⟨h.2.1,by omega⟩
 .obtain⟨z,hz,hz1,hz2,hz3⟩:=lead (p:=p) (by omega) hp;have uz:u64 (z:Int)=(z:Int):=b83 (by omega) (by omega);have uz2:u64 (64-(z:Int))=((64-z:Nat):Int):=by rw[b83 (by omega) (by omega)];omega
  rw[hz,qA,uz,uz2,e1w (by omega),qA,c5u (by decide),qA,e1w (by omega),qA,c5u (by omega),qA,e1w (by omega),qA,c5u (by decide),qA];have e3:e70 .u64 p (z:Int)=p*2^z:=by rw[g3r rfl (by omega),b83 (by omega) (by omega)]
  have y1:c8u .u64 (p*2^z) 32=p*2^z/4294967296:=h3z (by omega);rw[e3];have hq:2147483648<=c8u .u64 (p*2^z) 32:=by omega
  have hq2:c8u .u64 (p*2^z) 32<4294967296:=by omega
  have hA:=e8v (e70 .u64 d (z:Int)) (c8u .u64 i ((64-z:Nat):Int));rw[if_neg (by omega),qA];obtain⟨r2,r3⟩:=d6u hA.1 hA.2 hq hq2;refine tO (I:=λs:Int×Int=>0<=s.2/\s.2<4294967296) (μ:=λs=>(4294967296-s.2).toNat) ⟨r2,r3⟩ (by omega) ?_;rintro rec⟨x3,x4⟩⟨h3,h4⟩ih;unfold c4k;rw[a1z,qA];have jj:∀q,Tot (b31 (p*2^z,u64 (z:Int),c8u .u64 (p*2^z) 32,d5y .u64 (p*2^z) 4294967295,orK .u64 (e70 .u64 d (z:Int)) (c8u .u64 i ((64-z:Nat):Int)),c8u .u64 (e70 .u64 i (z:Int)) 32,d5y .u64 (e70 .u64 i (z:Int)) 4294967295,q)) λr=>0<=r.2/\r.2<18446744073709551616:=λq=>f7r _ (by dsimp only;omega) hq hq2;refine tD (λ_=>tD (λ_=>tJ (jj _)) λhlt=>?_) λ_=>tJ (jj _);simp only[decide_eq_true_eq]at hlt;rw[b83 (n:=x4+c8u .u64 (p*2^z) 32) (by omega) (by omega)]at hlt⊢;exact ih _ ⟨by omega,by omega⟩ (by omega)
def U64(x:Int):Prop:=0<=x/\x<=18446744073709551615
def I64(x:Int):Prop:=-9223372036854775808<=x/\x<=9223372036854775807
def a3l{a:Int}(h:I64 a):Tot (j5 a) λr=>U64 r/\(a≠0->0<r):=by
 obtain⟨h0,h1⟩:=h;unfold j5 U64;simp only[g2l];refine tD (λhc=>tC ?_) λhc=>tC ?_;.omega
 omega
def c87{a b:Int}(ha:U64 a)(hb:U64 b):Tot (a7g a b) λg=>U64 g/\(0<a+b->0<g):=by
 unfold a7g lpC;refine tO (I:=λv:Int×Int=>U64 v.1/\U64 v.2/\(0<a+b->0<v.1+v.2)) (μ:=λv=>v.2.toNat) ⟨ha,hb,id⟩ (by have:=hb.2;omega) ?_;rintro r⟨x,y⟩⟨g1,g2,g3⟩ih;unfold U64 at*;refine tD (λhc=>?_) λhc=>tC ⟨g1,λh=>?_⟩
 .have hy:y≠0:=by simpa using hc
  refine tA (a3p g1.1 (by omega)) λz hz=>?_;exact ih (y,z) ⟨g2,⟨hz.2.1,by omega⟩,λh=>(by omega)⟩ (by omega)
 .simp at hc;omega
def FOK(f:fQ):Prop:=1<=f.Den/\f.Den<=1000000000/\-1000000000000000<=f.Num/\f.Num<=1000000000000000
def FOK.i{f:fQ}(h:FOK f):I64 f.Num/\I64 f.Den/\f.Den≠0:=by unfold FOK I64 at*;omega
def b2t(f:fQ):Tot (o7 f) λb=>b=true->FOK f:=by
 unfold o7;simp only[a7h,qA,o4];by_cases h:FOK f;.obtain⟨h1,h2,h3⟩:=h.i;rw[if_pos (by unfold FOK at h;simp_all)];refine tA (Q:=λ_=>True) (tA (a3l h1) λa ha=>tA (a3l h2) λb hb=>tA (c87 ha.1 hb.1) λg _=>tC trivial) λb _=>tC λ_=>h
 .rw[if_neg (by unfold FOK at h;grind),qA];exact tC λh=>by grind
def c5x(a:Bool)(b c:rational_wide):Tot (a70 a b c) λ_=>True:=by unfold a70;simp only[y3,qA];exact tD (λ_=>tC trivial) λ_=>tD (λ_=>tC trivial) λ_=>tC trivial
def g0a{a b:Int}(hb:0<b):(if b=0then none else some (u64 (Int.tdiv a b)))=some (u64 (Int.tdiv a b)):=if_neg (by omega)
def e6c(x:Int):U64 (u64 x):=b51 x
def d7p{a d:Int}(ha:I64 a)(hd:I64 d):Tot (b32 a d) λ_=>True:=by
 refine tD (λ_=>tC trivial) λhn=>?_;have hn:d≠0:=by simp_all
 refine tA (a3l ha) λx hx=>tA (a3l hd) λy hy=>tA (c87 hx.1 hy.1) λg hg=>?_;have hx0:=hx.1.1;have hg0:=hg.2 (by omega);refine tA (Q:=λ_=>True) (tD (λ_=>tC trivial) λ_=>tC trivial) λb _=>?_;rw[g0a hg0,qA,g0a hg0,qA];exact tA (c5x _ _ _) λ_ _=>tC trivial
def WW(w:rational_wide):Prop:=U64 w.hi/\U64 w.lo
def c3x(a b:Int):Tot (b3s a b) λr=>U64 r.1/\U64 r.2:=by unfold b3s;exact tC ⟨e6c _,e6c _⟩
def b8l(a b:Int):Tot (a4g a b) WW:=tA (c3x a b) λr h=>tC h
def d3r(a b:rational_wide):Tot (a3u a b) λ_=>True:=by unfold a3u;simp only[o4,a1z,qA];exact tC trivial
def f4i{a b:rational_wide}(ha:WW a)(hb:WW b):Tot (a98 a b) WW:=by unfold WW U64 at*;unfold a98 c23 g7y;rw[if_pos (by omega),qA];rw[if_pos (by omega),qA];exact tC ⟨by grind,by grind⟩
def d7w{a b:rational_wide}(ha:WW a)(hb:WW b):Tot (a4w a b) WW:=by unfold WW U64 at*;unfold a4w c1u g8x;rw[if_pos (by omega),qA];rw[if_pos (by omega),qA];exact tC ⟨by grind,by grind⟩
def f0p{h l d:Int}(hh:U64 h)(hl:U64 l)(hd:U64 d)(h0:0<d):Tot (c25 h l d) U64:=by unfold U64 at*;refine tA (a3p hh.1 h0) λz hz=>tA (c4l hz.2.1 hl.1 (by omega) hz.2.2.1 (by omega)) λq hq=>tC ⟨hq.1,by omega⟩
def e8g{w:rational_wide}{d:Int}(hw:WW w)(hd:U64 d)(h0:0<d):Tot (a8z w d) λ_=>True:=by unfold WW U64 at*;unfold a8z;rw[g0a h0,qA];refine tA (a3p hw.1.1 h0) λz hz=>tA (c4l hz.2.1 hw.2.1 (by omega) hz.2.2.1 (by omega)) λq hq=>tC trivial
def d3c(v:fQ×fQ×fQ×rational_wide×Bool)(h1:FOK v.1)(h2:FOK v.2.1)(hw:WW v.2.2.2.1):Tot (a9g v) λ_=>True:=by unfold a9g j5;have d1:=h1;have d2:=h2;unfold FOK at d1 d2;rw[if_neg (by grind),qA,if_neg (by grind),qA];refine tD (λ_=>tC trivial) λ_=>?_;rw[b83 (n:=v.1.Den) (by omega) (by omega),b83 (n:=v.2.1.Den) (by omega) (by omega)];have p0:0<v.1.Den*v.2.1.Den:=Int.mul_pos (by omega) (by omega);have p1:v.1.Den*v.2.1.Den<=1000000000*1000000000:=Int.mul_le_mul (by omega) (by omega) (by omega) (by omega);rw[b83 (n:=v.1.Den*v.2.1.Den) (by omega) (by omega)];generalize v.1.Den*v.2.1.Den=p at*;have hp:U64 p:=⟨by omega,by omega⟩;refine tA (f0p hw.1 hw.2 hp p0) λz hz=>tA (c87 hp hz) λg hg=>?_;have hz0:=hz.1;have hg0:=hg.2 (by omega);refine tA (e8g hw hg.1 hg0) λw _=>?_;rw[g0a hg0,qA];exact tA (c5x _ _ _) λ_ _=>tC trivial
def f5v(a b:fQ):Tot (Option.bind (o7 a) λv1=>(if(!v1)=true then some true else Option.bind (o7 b) λv2=>some (!v2))) λr=>r=false->FOK a/\FOK b:=by refine tA (b2t a) λx hx=>tD (λ_=>tC λh=>by grind) λh=>tA (b2t b) λy hy=>tC λh2=>⟨hx (by simp_all),hy (by simp_all)⟩
def f1j(a b:fQ):Tot (b4q a b) λ_=>True:=by unfold b4q;rw[b73];refine tA (f5v a b) λc hc=>tD (λ_=>tC trivial) λh=>?_;obtain⟨hA,hB⟩:=hc (by simp_all);obtain⟨a1,a2,a3⟩:=hA.i;obtain⟨b1,b2,b3⟩:=hB.i;refine tA (a3l a1) λx1 _=>tA (a3l b2) λx2 _=>tA (b8l x1 x2) λw hw=>tA (a3l b1) λx3 _=>tA (a3l a2) λx4 _=>tA (b8l x3 x4) λu hu=>?_;refine tD (λ_=>tA (f4i hw hu) λs hs=>tJ (d3c _ hA hB hs)) λ_=>tA (d3r _ _) λ_ _=>tD (λ_=>tA (d7w hu hw) λs hs=>tJ (d3c _ hA hB hs)) λ_=>tA (d7w hw hu) λs hs=>tJ (d3c _ hA hB hs)
def f1i(a:fQ):Tot (b4p a) λ_=>True:=by exact tA (b2t a) λ_ _=>tD (λ_=>tC trivial) λ_=>tC trivial
def g4i(a b:fQ):Tot (b7d a b) λ_=>True:=by exact tA (f1i b) λ_ _=>tD (λ_=>tC trivial) λ_=>tA (f1j _ _) λ_ _=>tC trivial
def c6m(n:Bool){a b c d:Int}(ha:U64 a)(hb:U64 b)(hc:U64 c)(hd:U64 d)(h1:0<a+d)(h2:0<c+b):Tot (a73 n a b c d) λ_=>True:=by refine tA (c87 ha hd) λg hg=>tA (c87 hc hb) λh hh=>?_;have g0:=hg.2 h1;have h0:=hh.2 h2;rw[g0a g0,qA,g0a h0,qA];refine tA (b8l _ _) λ_ _=>?_;rw[g0a h0,qA,g0a g0,qA];exact tA (b8l _ _) λ_ _=>tA (c5x _ _ _) λ_ _=>tC trivial
def g31(a b:fQ):Tot (b7j a b) λ_=>True:=by unfold b7j;rw[b73];refine tA (f5v a b) λc hc=>tD (λ_=>tC trivial) λh=>?_;obtain⟨hA,hB⟩:=hc (by simp_all);obtain⟨a1,a2,a3⟩:=hA.i;obtain⟨b1,b2,b3⟩:=hB.i;simp only[a7h,y3,qA];refine tA (a3l a1) λx1 h1=>tA (a3l a2) λx2 h2=>tA (a3l b1) λx3 h3=>tA (a3l b2) λx4 h4=>?_;have:=h1.1.1;have:=h3.1.1;exact tA (c6m _ h1.1 h2.1 h3.1 h4.1 (by omega) (by omega)) λ_ _=>tC trivial
def g4a(a b:fQ):Tot (b7o a b) λ_=>True:=by unfold b7o;rw[b73];refine tA (f5v a b) λc hc=>tD (λ_=>tC trivial) λh=>tD (λ_=>tC trivial) λhz=>?_;obtain⟨hA,hB⟩:=hc (by simp_all);obtain⟨a1,a2,a3⟩:=hA.i;obtain⟨b1,b2,b3⟩:=hB.i;simp only[a7h,y3,qA];refine tA (a3l a1) λx1 h1=>tA (a3l a2) λx2 h2=>tA (a3l b2) λx3 h3=>tA (a3l b1) λx4 h4=>?_;have:=h4.2 (by simp_all);have:=h1.1.1;exact tA (c6m _ h1.1 h2.1 h3.1 h4.1 (by omega) (by omega)) λ_ _=>tC trivial
def g2q(v:rational_wide×rational_wide):Tot (a83 v) λ_=>True:=by exact tA (d3r _ _) λ_ _=>tD (λ_=>tC trivial) λ_=>tA (d3r _ _) λ_ _=>tD (λ_=>tC trivial) λ_=>tC trivial
def c8o(a b:fQ):Tot (a8g a b) λ_=>True:=by unfold a8g;rw[b73];refine tA (f5v a b) λc hc=>tD (λ_=>tC trivial) λh=>tD (λ_=>tD (λ_=>tC trivial) λ_=>tC trivial) λ_=>?_;obtain⟨hA,hB⟩:=hc (by simp_all);obtain⟨a1,a2,a3⟩:=hA.i;obtain⟨b1,b2,b3⟩:=hB.i;exact tA (a3l a1) λ_ _=>tA (a3l b2) λ_ _=>tA (b8l _ _) λ_ _=>tA (a3l b1) λ_ _=>tA (a3l a2) λ_ _=>tA (b8l _ _) λ_ _=>tD (λ_=>tJ (g2q _)) λ_=>tJ (g2q _)
def e89(a:fQ):Tot (b4e a) λ_=>True:=by refine tA (b2t a) λx hx=>tD (λ_=>tC trivial) λh=>?_;obtain⟨_,_,h3⟩:=(hx (by simp_all)).i;exact tA (b7s h3) λ_ _=>tA (b4f h3) λ_ _=>tD (λ_=>tC trivial) λ_=>tC trivial
def q_nn{a b:Int}(h0:0<=a)(h1:a<=4611686018427387904)(hb:0<b):c2t a b=some (a/b):=by obtain⟨r,e,h,_⟩:=a7t h0 (by omega) hb;grind
def g4m{a b:Int}(h0:0<=a)(hb:0<b):b8t a b=some (a%b):=by obtain⟨r,e,h,_⟩:=a3p h0 hb;grind
def c6s(y mo:Int):Int:=if mo=2then(if(y%4=0/\y%100≠0)\/y%400=0then 29 else 28)else if mo=4\/mo=6\/mo=9\/mo=11then 30 else 31
def d2e(y mo:Int):28<=c6s y mo/\c6s y mo<=31:=by unfold c6s;omega
def b2z{y mo:Int}(hy:0<=y/\y<=100000)(hm:1<=mo/\mo<=12):a05 y mo=some (c6s y mo):=by
 unfold a05 a7l c6s;simp only[g4m hy.1 (by decide:(0:Int)<4),g4m hy.1 (by decide:(0:Int)<100),g4m hy.1 (by decide:(0:Int)<400),qA,o4,y3];by_cases h2:mo=2
 .subst h2;by_cases hl:(y%4=0/\y%100≠0)\/y%400=0;.simp_all
  .rw[if_neg hl,if_neg (by simp_all)];rfl
 .have:(mo==2)=false:=by simp_all
  have hc:mo=1\/mo=3\/mo=4\/mo=5\/mo=6\/mo=7\/mo=8\/mo=9\/mo=10\/mo=11\/mo=12:=by omega
  rcases hc with h|h|h|h|h|h|h|h|h|h|h<;>subst h<;>rfl
def d4z(a:Int):Tot (a90 a) λr=>0<=r/\r<=31:=by unfold a90 b1k;simp only[a7h,qA];refine tD (λ_=>tC (by omega)) λh=>?_;simp at h;rw[q_nn h.1 (by omega) (by omega),qA,g4m h.1 (by omega),qA,e9 (n:=1900+a/12) (by omega) (by omega),e9 (n:=a%12+1) (by omega) (by omega),b2z (by omega) (by omega),qA];have:=d2e (1900+a/12) (a%12+1);exact tC (by omega)
def d6y(a:Int):Tot (b9g a) λ_=>True:=tA (d4z a) λ_ _=>tC trivial
def orT{b:Bool}{o:A3 Bool}(h:Tot o λ_=>True):Tot (if b=true then some true else o) λ_=>True:=tD (λ_=>tC trivial) λ_=>h
def e4o{o:A3 Bool}{Q:Bool->Prop}(h:Tot o Q):Tot (Option.bind o λv=>some (!v)) λ_=>True:=tA h λ_ _=>tC trivial
def b8a(t:O Rate):Tot (a5r t) λr=>r=0->t.length<=40:=by
 refine tD (λ_=>tC λh=>by omega) λh40=>?_;simp at h40;refine tO (I:=λv:Int=>0<=v/\v<=(t.length:Int)) (μ:=λv=>((t.length:Int)-v).toNat) ⟨by omega,by omega⟩ (by omega) ?_;rintro r v⟨g1,g2⟩ih;refine tD (λhc=>?_) λ_=>tC λ_=>(by omega);simp at hc;refine tA (c6 g1 hc) λx _=>?_;unfold a8n b9l;simp only[a7h,qA];refine tA (orT (e4o (d6y _))) λ_ _=>tA (orT (e4o (b2t _))) λ_ _=>tA (orT (tC trivial)) λ_ _=>tA (orT (tC trivial)) λ_ _=>tD (λ_=>tC λ_=>(by omega)) λ_=>?_;refine tA (Q:=λ_=>True) (tD (λhv=>?_) λ_=>tC trivial) λ_ _=>tD (λ_=>tC λ_=>(by omega)) λ_=>?_;.simp at hv;rw[e9 (n:=v-1) (by omega) (by omega)];refine tA (c6 (by omega) (by omega)) λy _=>tA (Q:=λ_=>True) (tD (λ_=>tC trivial) λ_=>tA (c6 (by omega) (by omega)) λz _=>tA (Q:=λ_=>True) (tD (λ_=>tA (c6 (by omega) (by omega)) λ_ _=>tC trivial) λ_=>tC trivial) λ_ _=>tC trivial) λ_ _=>tC trivial
 .rw[a42 g1 (by omega)];exact ih _ ⟨by omega,by omega⟩ (by omega)
def d9a(r:Rounding):Tot (a2y r) λb=>b=true->1<=r.Unit/\r.Unit<=100000:=by
 have j:∀b,Tot (a1c (r,b)) λb=>b=true->1<=r.Unit/\r.Unit<=100000:=λb=>by unfold a1c;simp only[a7h,qA];exact tC λh=>(by simp_all)
 exact tD (λ_=>tJ (j _)) λ_=>tD (λ_=>tJ (j _)) λ_=>tD (λ_=>tJ (j _)) λ_=>tJ (j _)
def c1v(n:Bool){hi lo:Int}(d:Int)(r:Rounding)(h0:U64 hi)(h1:U64 lo)(hr:r.Unit≠0):Tot (a9o n hi lo d r) λ_=>True:=by
 have j3:∀k,Tot (b2f (r,k)) λ_=>True:=λk=>by exact tA (b7s hr) λ_ _=>tA (orT (tA (b7s hr) λ_ _=>tC trivial)) λ_ _=>tD (λ_=>tC trivial) λ_=>tC trivial
 have j2:∀k b,Tot (a7a (r,k,b)) λ_=>True:=λk b=>by exact tD (λ_=>tJ (j3 _)) λ_=>tJ (j3 _)
 have j1:∀a b c,Tot (a9e (r,a,b,c)) λ_=>True:=λa b c=>by exact tD (λ_=>tJ (j2 _ _)) λ_=>tD (λ_=>tJ (j2 _ _)) λ_=>tD (λ_=>tA (orT (tA (Q:=λ_=>True) (tD (λ_=>tA (b4f (by decide)) λ_ _=>tC trivial) λ_=>tC trivial) λ_ _=>tC trivial)) λ_ _=>tJ (j2 _ _)) λ_=>tJ (j2 _ _)
 have hD:=e6c (d*u64 r.Unit);unfold U64 at*;refine tD (λ_=>tC trivial) λh=>?_;simp at h;exact tA (c4l h0.1 h1.1 (by omega) h (by omega)) λ_ _=>tD (λ_=>tC trivial) λ_=>tD (λ_=>tD (λ_=>tJ (j1 _ _ _)) λ_=>tJ (j1 _ _ _)) λ_=>tJ (j1 _ _ _)
def c3w(x:Int):Tot (b3x x) U64:=by exact tD (λ_=>tC (e6c _)) λ_=>tC (e6c _)
def f2v(f:fQ)(r:Rounding):Tot (b9q f r) λ_=>True:=by refine tA (b2t f) λx hx=>tA (Q:=λb=>b=false->1<=r.Unit) (tD (λ_=>tC λh=>by grind) λ_=>tA (d9a r) λy hy=>tC λh=>(hy (by simp_all)).1) λb hb=>tD (λ_=>tC trivial) λh=>?_;have:=hb (by simp_all);exact tA (c3w _) λs hs=>tA (c1v _ _ _ ⟨by omega,by omega⟩ hs (by omega)) λ_ _=>tC trivial
def d6o(t:O Rate)(c m:Int)(ht:t.length<=40):Tot (b6m t c m) λ_=>True:=by
 unfold b6m lpC;refine tO (I:=λv:fQ×Int×Int=>0<=v.2.2/\v.2.2<=(t.length:Int)/\-1<=v.2.1/\v.2.1<v.2.2) (μ:=λv=>((t.length:Int)-v.2.2).toNat) ⟨by simp_all,by simp_all,Int.le_refl _,by simp_all⟩ (by grind) ?_;rintro r⟨f,b,v⟩⟨g1,g2,g3,g4⟩ih;dsimp only at g1 g2 g3 g4⊢;refine tD (λhc=>?_) λhc=>tD (λ_=>tC trivial) λh=>?_
 .simp at hc;refine tA (c6 g1 hc) λx _=>?_;simp only[o4,qA];refine tA (Q:=λ_=>True) (tD (λ_=>tA (Q:=λ_=>True) (tD (λ_=>tC trivial) λh=>?_) λ_ _=>tC trivial) λ_=>tC trivial) λ_ _=>?_;.simp at h;exact tA (c6 h (by omega)) λ_ _=>tC trivial
  .rw[a42 g1 (by omega)];exact tD (λ_=>ih _ ⟨by dsimp only;omega,by dsimp only;omega,by dsimp only;omega,by dsimp only;omega⟩ (by dsimp only;omega)) λ_=>ih _ ⟨by dsimp only;omega,by dsimp only;omega,by omega,by dsimp only;omega⟩ (by dsimp only;omega)
 .simp at h;exact tA (c6 h (by omega)) λ_ _=>tC trivial
def e1v(y:Int):Prop:=(y%4=0/\y%100≠0)\/y%400=0
instance(y:Int):Decidable (e1v y):=by unfold e1v;exact inferInstance
def f0m{y:Int}(hy:0<=y/\y<=100000):a7l y=some (decide (e1v y)):=by unfold a7l e1v;rw[g4m hy.1 (by omega),qA,g4m hy.1 (by omega),g4m hy.1 (by omega)];simp only[qA,o4,y3];congr 1;rw[Bool.eq_iff_iff];simp;exact⟨λh=>decide_eq_true h,of_decide_eq_true⟩
def g8k(y:Int):c6s y 2=if e1v y then 29 else 28:=by unfold c6s e1v;rw[if_pos rfl]
def e6b{y:Int}(hy:0<=y/\y<=100000):a7i y=some (337+c6s y 2):=by unfold a7i;rw[f0m hy,qA,g8k];by_cases h:e1v y<;>simp[h]
def c50{y:Int}(hy:1900<=y/\y<=2200):Tot (a3o y) λr=>365*(y-1900)<=r/\r<=366*(y-1900):=by unfold a3o;rw[e9 (n:=y-1900) (by omega) (by omega),e9 (n:=365*(y-1900)) (by omega) (by omega)];refine tD (λh=>?_) λh=>tC (by simp at h;omega);simp at h;rw[e9 (n:=y-1900-1) (by omega) (by omega)];refine tA (a7t (by omega) (by omega) (by omega)) λq hq=>tC ?_;rw[e9 (by omega) (by omega)];omega
def h1v(f m d:Int):Prop:=(m=1/\d<337+f)\/(m=2/\d<306+f)\/(m=3/\d<306)\/(m=4/\d<275)\/(m=5/\d<245)\/(m=6/\d<214)\/(m=7/\d<184)\/(m=8/\d<153)\/(m=9/\d<122)\/(m=10/\d<92)\/(m=11/\d<61)\/(m=12/\d<31)
def g4e(y:Int):c6s y 1=31/\c6s y 3=31/\c6s y 4=30/\c6s y 5=31/\c6s y 6=30/\c6s y 7=31/\c6s y 8=31/\c6s y 9=30/\c6s y 10=31/\c6s y 11=30/\c6s y 12=31:=by unfold c6s;simp
def c2d(a:Int):Tot (a4d a) λr=>(0<=r.1/\r.1<=2100)/\(r.2.2.2=true->(1900<=r.1/\r.1<=2100)/\(1<=r.2.1/\r.2.1<=12)/\r.2.2.1<=c6s r.1 r.2.1):=by
 unfold a4d m7;simp only[a7h,qA];refine tD (λ_=>tC ⟨by decide,λh=>by cases h⟩) λh=>?_;simp at h;refine tA (a7t h.1 (by omega) (by omega)) λq hq=>?_;have hq2:q<=199:=by omega
 rw[e9 (n:=1900+q) (by omega) (by omega)];unfold lpC;refine tO (I:=λv:Int=>1900<=v/\v<=2100) (μ:=λv=>(2200-v).toNat) ⟨by omega,by omega⟩ (by show(2200-(1900+q)).toNat<_;omega) ?_;rintro r y⟨g1,g2⟩ih;obtain⟨s,es,hs⟩:=c50 (y:=y) (by omega);have hf:28<=c6s y 2/\c6s y 2<=29:=by rw[g8k];split<;>omega
 rw[es,qA,e6b (by omega),qA,e9 (n:=s+(337+c6s y 2)) (by omega) (by omega)];refine tD (λhc=>?_) λhc=>?_;.simp at hc;rw[a42 (by omega) (by omega)];exact ih _ ⟨by omega,by omega⟩ (by omega)
 .simp at hc;rw[qA,e9 (n:=a-s) (by omega) (by omega)];obtain⟨l1,l3,l4,l5,l6,l7,l8,l9,l10,l11,l12⟩:=g4e y;refine tO (I:=λv:Int×Int=>h1v (c6s y 2) v.1 v.2/\-100000<=v.2) (μ:=λv=>(13-v.1).toNat) ⟨.inl ⟨rfl,by dsimp only;omega⟩,by dsimp only;omega⟩ (by show(13-1:Int).toNat<_;omega) ?_;rintro r2⟨m,d⟩⟨k1,k2⟩ih2;dsimp only at k1 k2⊢;have hm:1<=m/\m<=12:=by unfold h1v at k1;omega
  have hd:d<=366:=by unfold h1v at k1;omega
  have hl:=d2e y m;rw[b2z (by omega) hm,qA];refine tD (λh2=>?_) λh2=>?_;.simp at h2;rw[qA,a42 (by omega) (by omega),e9 (n:=d-c6s y m) (by omega) (by omega)];refine ih2 _ ⟨?_,by dsimp only;omega⟩ (by dsimp only;omega);dsimp only;unfold h1v at k1⊢;rcases k1 with⟨e,k⟩|⟨e,k⟩|⟨e,k⟩|⟨e,k⟩|⟨e,k⟩|⟨e,k⟩|⟨e,k⟩|⟨e,k⟩|⟨e,k⟩|⟨e,k⟩|⟨e,k⟩|⟨e,k⟩<;>subst e<;>omega
  .simp at h2;refine tC ⟨by dsimp only;omega,λ_=>⟨⟨g1,g2⟩,hm,?_⟩⟩;dsimp only;rw[e9 (by omega) (by omega)];omega
def e1r(y m d:Int):Tot (b1r y m d) λ_=>True:=by
 unfold b1r lpC;simp only[a1z,y3,qA];by_cases hy:1900<=y/\y<=2099/\1<=m/\m<=12
 .refine tA (Q:=λ_=>True) (tD (λ_=>tC trivial) λ_=>?_) λ_ _=>tD (λ_=>tC trivial) λ_=>?_;.rw[b2z (by omega) (by omega),qA];exact tC trivial
  .refine tA (c50 (by omega)) λs _=>?_;refine tO (I:=λv:Int×Int=>1<=v.2/\v.2<=12) (μ:=λv=>(13-v.2).toNat) ⟨Int.le_refl _,by show(1:Int)<=12;omega⟩ (by show(13-1:Int).toNat<_;omega) ?_;rintro r⟨a,k⟩⟨g1,g2⟩ih;dsimp only at g1 g2⊢;refine tD (λhc=>?_) λ_=>tC trivial;simp at hc;rw[b2z (by omega) (by omega),qA,a42 (by omega) (by omega)];exact ih _ ⟨by dsimp only;omega,by dsimp only;omega⟩ (by dsimp only;omega)
 .rw[if_pos (by simp;omega),qA,if_pos rfl];exact tC trivial
def d8b(a n:Int):Tot (b03 a n) λ_=>True:=by
 have j:∀a b c,Tot (a6q (a,b,c)) λ_=>True:=λa b c=>by unfold a6q;exact tA (e1r _ _ _) λ_ _=>tC trivial
 unfold b03;refine tA (c2d a) λr hr=>?_;simp only[a1z,y3,qA];refine tD (λ_=>tC trivial) λh=>?_;simp at h;obtain⟨⟨g1,g2⟩,_⟩:=hr.2 h.1.1;have hn:0<=n/\n<=2099-r.1:=by have:=h.2;rw[e9 (by omega) (by omega)]at this;omega
 refine tA (Q:=λ_=>True) (tD (λ_=>tC trivial) λ_=>tC trivial) λb _=>?_;refine tA (Q:=λ_=>True) (tD (λ_=>?_) λ_=>tC trivial) λ_ _=>tD (λ_=>tJ (j _ _ _)) λ_=>tJ (j _ _ _);rw[e9 (n:=r.1+n) (by omega) (by omega),f0m (by omega),qA];exact tC trivial
def g4s(a b:Int):Tot (b7r a b) λ_=>True:=by unfold b7r m7;simp only[a7h,a1z,y3,qA];exact tD (λ_=>tC trivial) λ_=>tA (c2d a) λ_ _=>tA (c2d b) λ_ _=>tA (d8b _ _) λ_ _=>tD (λ_=>tC trivial) λ_=>tC trivial
def d9v(x a b m:Int)(t:O Rate)(r:Rounding)(hr:r.Unit≠0)(ht:t.length<=40):Tot (b68 x a b m t r) λ_=>True:=by
 unfold b68 c17 a8n;simp only[a7h,a1z,y3,qA];refine tA (orT (e4o (d6y _))) λ_ _=>tA (orT (e4o (d9a _))) λ_ _=>tA (orT (tA (b8a t) λ_ _=>tC trivial)) λ_ _=>tD (λ_=>tC trivial) λ_=>tD (λ_=>?_) λ_=>?_;.exact tA (c3w _) λs hs=>tA (c1v _ _ _ ⟨by omega,by omega⟩ hs hr) λ_ _=>tC trivial
 .exact tA (d6o t _ _ ht) λ_ _=>tA (d6o t _ _ ht) λ_ _=>tD (λ_=>tC trivial) λ_=>tA (c3w _) λs _=>tA (c3x _ _) λq hq=>tA (c1v _ _ _ hq.1 hq.2 hr) λ_ _=>tC trivial
def e9s(f:fQ)(n d:Int)(r:Rounding):Tot (b97 f n d r) λ_=>True:=by unfold b97;simp only[a1z,y3,qA];refine tA (b2t f) λx hx=>tA (Q:=λb=>b=false->1<=r.Unit) (tD (λ_=>tC λh=>by grind) λ_=>tA (d9a r) λy hy=>tC λh=>(hy (by simp_all)).1) λb hb=>tD (λ_=>tC trivial) λh=>?_;have:=hb (by simp_all);exact tA (c3w _) λs _=>tA (c3x _ _) λq hq=>tA (c1v _ _ _ hq.1 hq.2 (by omega)) λ_ _=>tC trivial
def tH{σ ρ S α:Type}{f:(σ->A3 ρ)->σ->A3 ρ}{Q:ρ->Prop}(l:O α)(e:S->Int->σ)(I:S->Nat->Prop)(hl:l.length<=2^40)(step:∀rec s(i:Nat)y,i<l.length->l[i]?=Option.some y->I s i->(∀s',I s' (i+1)->Tot (rec (e s' (i64 ((i:Int)+1)))) Q)->Tot (f rec (e s (i:Int))) Q)(fin:∀rec s,I s l.length->Tot (f rec (e s (l.length:Int))) Q)(s:S)(h0:I s 0):Tot (d9 FU f (e s 0)) Q:=by
 have key:∀(k:Nat)(s:S)(i:Nat),i<=l.length->I s i->l.length-i<k->Tot (d9 k f (e s (i:Int))) Q:=by intro k;induction k with|zero=>omega|succ k ih=>
    intro s i hi hI hk;by_cases h:i<l.length;.exact step _ s i l[i] h (qG h) hI λs' hs'=>by rw[a5g (by omega)];exact ih s' (i+1) (by omega) hs' (by omega)
    .have:i=l.length:=by omega
     subst this;exact fin _ s hI
 exact key FU s 0 (Nat.zero_le _) h0 (by unfold FU;omega)
def b2p{l:O Span}(hl:l.length<=2^40):Tot (a2w l) λr=>Nrm r/\r.length<=l.length:=by obtain⟨r,h1,h2,_,h4⟩:=c1p l hl;exact⟨r,h1,h2,h4⟩
def d4t{l:O Span}(s:Span)(hl:l.length<=2^40):Tot (s6 l s) λr=>Nrm r/\r.length<=73049:=by obtain⟨r,h1,h2,_⟩:=c95 l s hl;exact⟨r,h1,h2,c3n h2⟩
def d4h{l:O Span}(hl:l.length<=2^40):Tot (b6h l) λ_=>True:=by
 refine tA (Q:=λ_=>True) (tA (b2p hl) λz hz=>?_) λ_ _=>tC trivial;refine tH z (λ(s:Int)i=>(s,z,i)) (λ_ _=>True) (by omega) (λrec s i y hi hy _ ih=>?_) (λrec s _=>?_) 0 trivial;.dsimp only;simp only[e7 hy,qA];grind
 .dsimp only;rw[if_neg (g9 _)];exact tC trivial
def e41{l:O Span}(hl:l.length<=2^40):Tot (b90 l) λ_=>True:=by
 refine tA (b2p hl) λz hz=>tD (λ_=>tC trivial) λh=>?_;have:z.length≠0:=by simp_all
 rw[e9 (n:=(z.length:Int)-1) (by omega) (by omega)];exact tA (c6 (by omega) (by omega)) λ_ _=>tA (c6 (by omega) (by omega)) λ_ _=>tC trivial
def g3h{l:O Span}(n:Int)(hl:l.length<=2^40):Tot (c4p l n) λ_=>True:=by
 refine tD (λ_=>tC trivial) λ_=>tA (b2p hl) λz hz=>?_;refine tH z (λ(s:Int)i=>(s,z,i)) (λ_ _=>True) (by omega) (λrec s i y hi hy _ ih=>?_) (λrec s _=>?_) n trivial;.dsimp only;rw[if_pos (o6 hi)];simp only[e7 hy,qA];exact tD (λ_=>tC trivial) λ_=>ih _ trivial
 .dsimp only;rw[if_neg (g9 _)];exact tC trivial
def d18{l:O Span}(n:Int)(hl:l.length<=2^40):Tot (b4k l n) λr=>r.length<=l.length:=by
 refine tA (b2p hl) λz hz=>?_;refine tH z (λ(s:Int×O Span)i=>(s.1,s.2,z,i)) (λs i=>s.2.length<=i) (by omega) (λrec s i y hi hy hI ih=>?_) (λrec s hI=>?_) (n,[]) (by simp)
 .dsimp only;rw[if_pos (o6 hi)];simp only[e7 hy,qA];have j:∀q k,Tot (b2y rec (s.1,s.2,q,z,k,(i:Int))) λr=>r.length<=l.length:=λq k=>by unfold b2y;rw[p6 (by simp only[qR,qS];omega),qA];exact ih (_,_) (by simp;omega)
  exact tD (λ_=>tC (by omega)) λ_=>tD (λ_=>tJ (j _ _)) λ_=>tJ (j _ _)
 .dsimp only;rw[if_neg (g9 _)];exact tC (by omega)
def f1y(l:O nQ)(a:Int)(ks:O Int)(hl:l.length<=2^30)(hk:ks.length<=2^30):Tot (a8q l a ks) λ_=>True:=by
 unfold a8q;refine tH l (λ(s:O Span)i=>(s,i)) (λs i=>s.length<=i) (by omega) (λrec s i y hi hy hI ih=>?_) (λrec s hI=>?_) [] (by simp)
 .dsimp only;rw[if_pos (o6 hi)];simp only[e7 hy,qA,a1z];refine tA (Q:=λ_=>True) (tD (λ_=>?_) λ_=>tC trivial) λ_ _=>tD (λ_=>?_) λ_=>ih _ (by omega)
  .obtain⟨n,h1,_⟩:=c5d (f:=a06 ks y.Rank) ks (λz=>y.Rank==z) hk (λrec i z hz=>by have hi:=(qD.1 hz).1;unfold a06;rw[if_pos (o6 hi)];simp only[e7 hz,qA]) λrec=>by unfold a06;simp_all
   unfold q9 a4p;rw[h1];exact tC trivial
  .rw[p6 (by grind),qA];simp_all
 .dsimp only;rw[if_neg (g9 _)];exact tA (d4h (by omega)) λ_ _=>tC trivial
def e0f(l:O nQ)(a b:Int)(hl:l.length<=2^30):Tot (b6i l a b) λr=>Nrm r/\r.length<=l.length:=by
 unfold b6i;refine tH l (λ(s:O Span)i=>(s,i)) (λs i=>s.length<=i) (by omega) (λrec s i y hi hy hI ih=>?_) (λrec s hI=>?_) [] (by simp);.dsimp only;rw[if_pos (o6 hi)];simp only[e7 hy,qA,y3,o4];refine tD (λ_=>?_) λ_=>ih s (by omega);rw[p6 (by simp only[qR,qS];omega),qA];simp_all
 .dsimp only;rw[if_neg (g9 _)];exact tA (b2p (by omega)) λr hr=>tC ⟨hr.1,by omega⟩
def d31(v:Version)(y:Int)(hv:v.Series.length<=2^40):Tot (b0w v y) λ_=>True:=by
 unfold b0w;refine tH v.Series (λ(s:Int)i=>(v,(⟨0,0⟩:fQ),s,i)) (λs i=>-1<=s/\s<(i:Int)) hv (λrec s i x hi hx hI ih=>?_) (λrec s hI=>?_) (-1) ⟨by omega,by omega⟩;.dsimp only;rw[if_pos (o6 hi)];simp only[e7 hx,qA];refine tA (Q:=λ_=>True) (tD (λ_=>tA (Q:=λ_=>True) (tD (λ_=>tC trivial) λh=>?_) λ_ _=>tC trivial) λ_=>tC trivial) λ_ _=>tD (λ_=>ih (i:Int) ⟨by omega,by omega⟩) λ_=>ih s ⟨hI.1,by omega⟩;simp at h;exact tA (c6 h (by omega)) λ_ _=>tC trivial
 .dsimp only;rw[if_neg (g9 _)];refine tD (λ_=>tC trivial) λh=>?_;simp at h;exact tA (c6 h hI.2) λ_ _=>tC trivial
def d1v(f:fQ):Tot (b0x f) λ_=>True:=by unfold b0x;simp only[o4,qA];exact tA (b2t f) λ_ _=>tC trivial
def d7q(v:Version)(a b c:Int)(hv:v.Series.length<=2^40):Tot (b2s v a b c) λ_=>True:=by refine tA (d31 v _ hv) λf _=>tA (d31 v _ hv) λg _=>?_;simp only[a1z,qA];refine tA (orT (e4o (d1v _))) λ_ _=>tA (orT (e4o (d1v _))) λ_ _=>tD (λ_=>tC trivial) λ_=>tA (c3x _ _) λq hq=>tD (λ_=>tC trivial) λh=>?_;simp at h;have hD:=e6c (u64 f.Den*u64 g.Num);unfold U64 at hq hD;exact tA (c4l hq.1.1 hq.2.1 (by omega) h (by omega)) λ_ _=>tD (λ_=>tC trivial) λ_=>tC trivial
def d70(l:O Earning)(v:Version)(r:Int)(hl:l.length<=2^30)(hv:v.Series.length<=2^40):Tot (b14 l v r) λq=>q.1.length<=2^30:=by
 unfold b14;refine tH l (λ(s:O Int)i=>(v,s,i)) (λs i=>s.length<=i) (by omega) (λrec s i x hi hx hI ih=>?_) (λrec s hI=>?_) [] (by simp);.dsimp only;rw[if_pos (o6 hi)];simp only[e7 hx,qA];refine tA (d7q v _ _ _ hv) λq _=>tD (λ_=>tC (by simp)) λ_=>?_;rw[p6 (by simp only[qR,qS];omega),qA];simp_all
 .dsimp only;rw[if_neg (g9 _)];exact tC (by grind)
def e74(l:O Int):Tot (b6e l) λ_=>True:=by
 refine tD (λ_=>tC trivial) λh=>?_;simp at h;refine tH l (λ(s:Int)i=>((⟨0,0⟩:fQ),s,i)) (λs _=>I64 s) (by omega) (λrec s i x hi hx hI ih=>?_) (λrec s hI=>?_) 0 ⟨by decide,by decide⟩;.dsimp only;rw[if_pos (o6 hi)];simp only[e7 hx,qA,a1z];exact tD (λ_=>tC trivial) λ_=>ih _ (d5z _)
 .dsimp only;rw[if_neg (g9 _)];exact tD (λ_=>tC trivial) λ_=>tA (d7p hI ⟨by omega,by omega⟩) λ_ _=>tC trivial
def f4c(f:aQ)(n:Int):Tot (b6a f n) λ_=>True:=by
 unfold b6a;rw[d1t,qA];simp only[a1z,y3,qA];refine tD (λ_=>tC trivial) λh=>?_;have hv:vld f=true:=by simp_all
 obtain⟨b,h1,h2,h3⟩:=b9h f;have hb:b=true:=by rw[b52,hv]at h2;simp_all
 have:=h3 hb;rw[e9 (n:=f.Span.To-f.Span.From) (by omega) (by omega)];exact tA (b7s (by omega)) λ_ _=>tC trivial
def f3y(y:Int):Tot (b5y y) λ_=>True:=by exact tA (e1r _ _ _) λ_ _=>tA (e1r _ _ _) λ_ _=>tC trivial
def TrF(T:O Rules):Prop:=∃m:Int,0<=m/\m<=450/\(T=[⟨0,m,730,25,[0,1,2]⟩]\/T=[⟨0,m,730,25,[0,1]⟩,⟨35000,m,365,30,[0,1,2]⟩]\/T=[⟨0,m,730,25,[0,1,2]⟩,⟨36000,m,730,25,[0,1]⟩])
def f7m{l:O Int}(hl:l.length<=9223372036854775807):Tot (b04 l) λr=>r.length=15/\∀u∈r,u.Kind≠4:=by
 refine tO (I:=λv:O aQ×Int=>1<=v.2/\v.2<=3/\(v.1.length:Int)=6*(v.2-1)/\∀u∈v.1,u.Kind≠4) (μ:=λv=>(3-v.2).toNat) ⟨Int.le_refl _,by omega,rfl,λu h=>by grind⟩ (by omega) ?_;intro r v hI ih;obtain⟨g1,g2,g3,g4⟩:=hI;refine tD (λhc=>?_) λhc=>?_
 .simp at hc;rw[a42 (by omega) (by omega)];repeat' first|(refine tA (a0t _ _ hl) λ_ _=>?_)|(refine tA (a1i (by omega) (by omega)) λ_ _=>?_)|(refine tA (b24 (by simp;omega)) λ_ h=>?_;subst h)
  refine ih _ ⟨by omega,by omega,by simp;omega,λu hu=>?_⟩ (by omega);simp only[qK,qF]at hu;rcases hu with(((((hu|rfl)|rfl)|rfl)|rfl)|rfl)|rfl<;>first|exact g4 u hu|(dsimp only;decide)
 .simp at hc;repeat' first|(refine tA (a0t _ _ hl) λ_ _=>?_)|(refine tA (a1i (by omega) (by omega)) λ_ _=>?_)|(refine tA (b24 (by simp;omega)) λ_ h=>?_;subst h)
  refine tC ⟨by simp;omega,λu hu=>?_⟩;simp only[qK,qF]at hu;rcases hu with((hu|rfl)|rfl)|rfl<;>first|exact g4 u hu|(dsimp only;decide)
def c30(u:aQ):Bool:=u.Kind==4
structure a48(f:List aQ):Prop where
 val:∀u∈f,vld u=true
 len:f.length<=27pos:(f.filter c30).length<=12
def e2g(g:aQ):∀l:O aQ,((c4o l g).filter c30).length<=(l.filter c30).length+(if c30 g=true then 1 else 0)
 |[]=>by show(([g]:O aQ).filter c30).length<=_;grind|a::t=>by
   have ih:=e2g g t;unfold c4o;split;.grind
   grind
def d00:∀(l out:O aQ),((l.foldl c4o out).filter c30).length<=(out.filter c30).length+(l.filter c30).length|[],out=>by simp|g::l,out=>by have h1:=d00 l (c4o out g);have h2:=e2g g out;grind
def f1t{A T:O Posting}{x y:Posting}:a8h (a8h (A++y::x::T) ((A.length:Int)+1) y) (A.length:Int) x=A++x::y::T:=by
 have e1:((A.length:Int)+1).toNat=A.length+1:=by omega
 unfold a8h;rw[if_pos (by omega),if_pos (by omega),e1,Int.toNat_natCast];simp_all
def d9h{A T:O Posting}{x:Posting}:c7 (A++x::T) (A.length:Int)=some x:=by rw[b4c];simp
def g67{A T:O Posting}{x y:Posting}:a8h (A++y::x::T) ((A.length:Int)+1) y=A++y::y::T:=by
 have e1:((A.length:Int)+1).toNat=A.length+1:=by omega
 unfold a8h;rw[if_pos (by omega),e1,set_append_right _ _ (by omega)];simp
def g64(cmp:Posting->Posting->A3 Int)(a1:Int)(r2:((O Posting)×Int)->A3 (O Posting))(v1:(O Posting)×Int)(r4:((O Posting)×Int)->A3 (O Posting))(v3:(O Posting)×Int):A3 (O Posting):=(if(decide (v3.2>a1))then(c7 v3.1 v3.2).bind λv5=>(c7 v3.1 v3.2).bind λv6=>(c7 v3.1 (i64 (v3.2-1))).bind λv7=>(c7 v3.1 (i64 (v3.2-1))).bind λv8=>(cmp v6 v8).bind λv9=>some (decide (v9<0))else some false).bind λv10=>if v10 then(c7 v3.1 (i64 (v3.2-1))).bind λv11=>(c7 v3.1 (i64 (v3.2-1))).bind λv12=>(c7 v3.1 v3.2).bind λv13=>(c7 v3.1 v3.2).bind λv14=>(c7 v3.1 v3.2).bind λv15=>(c7 v3.1 v3.2).bind λv16=>(c7 (a8h v3.1 v3.2 v12) (i64 (v3.2-1))).bind λv17=>(c7 (a8h v3.1 v3.2 v12) (i64 (v3.2-1))).bind λv18=>r4 (a8h (a8h v3.1 v3.2 v12) (i64 (v3.2-1)) v14,i64 (v3.2-1))else r2 (v3.1,i64 (v1.2+1))
def e7g(cmp:Posting->Posting->A3 Int)(a2 a1:Int)(r2:((O Posting)×Int)->A3 (O Posting))(v1:(O Posting)×Int):A3 (O Posting):=if(decide (v1.2<a2))then d9 FU (g64 cmp a1 r2 v1) (v1.1,v1.2)else some v1.1
def h24(cmp:Posting->Posting->A3 Int)(a0:O Posting)(a1 a2:Int):A3 (O Posting):=d9 FU (e7g cmp a2 a1) (a0,i64 (a1+1))
section
variable {c:Posting -> Posting -> Int} {cmp:Posting -> Posting -> A3 Int} {S:Posting -> Prop}
structure Ordered(c:Posting->Posting->Int)(S:Posting->Prop):Prop where asymm:∀x y,S x->S y->c x y<0->¬c y x<0trans:∀x y z,S x->S y->S z->¬c y x<0->¬c z y<0->¬c z x<0
def Le(c:Posting->Posting->Int)(x y:Posting):Prop:=¬c y x<0
def c8i(hO:Ordered c S)(hc:∀x y,S x->S y->cmp x y=some (c x y))(orig:O Posting)(hS:∀x∈orig,S x)(hlen:orig.length<=1000)(i:Nat)(rec:O Posting×Int->A3 (O Posting))(A:O Posting)(x:Posting)(C:O Posting)(hi:A.length=i)(hp:(A++x::C).Perm orig)(hs:A.Pairwise (Le c)):∃A':O Posting,A'.length=i+1/\(A'++C).Perm orig/\A'.Pairwise (Le c)/\d9 FU (g64 cmp 0 rec (A++x::C,(i:Int))) (A++x::C,(i:Int))=rec (A'++C,((i+1:Nat):Int)):=by
 have hil:i<1000:=by have:=hp.length_eq;grind
 refine c4u (λs=>∃(A1 B:O Posting),s=(A1++x::(B++C),(A1.length:Int))/\A1.length+B.length=i/\(A1++x::(B++C)).Perm orig/\(A1++B).Pairwise (Le c)/\∀b∈B,Le c x b) (λs=>s.2.toNat) (λo=>∃A':O Posting,A'.length=i+1/\(A'++C).Perm orig/\A'.Pairwise (Le c)/\o=rec (A'++C,((i+1:Nat):Int))) ⟨A,[],by grind,by omega,by simp_all,by simp_all,by simp⟩ (by omega) ?_;rintro s rec2⟨A1,B,rfl,hl,hp1,hs1,hb⟩;have hmem:∀y∈A1++x::(B++C),S y:=λy hy=>hS y (hp1.subset hy);have hSx:S x:=hmem x (by simp);have stop:∀o:A3 (O Posting),o=rec (A1++x::(B++C),i64 ((i:Int)+1))->(∀a∈A1,Le c a x)->∃A':O Posting,A'.length=i+1/\(A'++C).Perm orig/\A'.Pairwise (Le c)/\o=rec (A'++C,((i+1:Nat):Int)):=by
  intro o ho ha;refine⟨A1++x::B,by grind,by grind,?_,?_⟩;.rw[pairwise_append]at hs1⊢;refine⟨hs1.1,List.pairwise_cons.2 ⟨hb,hs1.2.1⟩,λa h1 b h2=>?_⟩;grind
  .rw[ho,e9 (by omega) (by omega)];simp
 unfold g64;rcases eq_nil_or_concat A1 with h0|⟨A2,y,h0⟩
 .subst h0;left;have:decide ((([]:O Posting).length:Int)>(0:Int))=false:=by simp
  exact stop _ rfl (by simp)
 .have h0:A1=A2++[y]:=by simpa using h0
  subst h0;have e0:(((A2++[y]).length:Nat):Int)=(A2.length:Int)+1:=by simp
  have hd:decide ((((A2++[y]).length:Nat):Int)>(0:Int))=true:=by rw[e0,decide_eq_true_eq];omega
  have e1:i64 ((((A2++[y]).length:Nat):Int)-1)=(A2.length:Int):=by rw[e0,e9 (by omega) (by omega)];omega
  have eL:A2++[y]++x::(B++C)=A2++y::x::(B++C):=by simp
  have g1:c7 (A2++[y]++x::(B++C)) (((A2++[y]).length:Nat):Int)=some x:=d9h;have g2:c7 (A2++[y]++x::(B++C)) (A2.length:Int)=some y:=by rw[eL];exact d9h
  have g3:c7 (a8h (A2++[y]++x::(B++C)) (((A2++[y]).length:Nat):Int) y) (A2.length:Int)=some y:=by rw[eL,e0,g67];exact d9h
  have hSy:S y:=hmem y (by simp);simp only[hd,if_true,g1,e1,g2,g3,hc x y hSx hSy,qA];by_cases hlt:c x y<0
  .right;simp only[hlt,decide_true,if_true];refine⟨_,rfl,⟨A2,y::B,?_,by simp at hl⊢;omega,?_,by simpa using hs1,?_⟩,by omega⟩;.rw[eL,e0,f1t];simp
   .refine List.Perm.trans ?_ hp1;rw[eL];exact List.Perm.append_left A2 (List.Perm.swap y x (B++C))
   .intro b hbm;rcases qO.1 hbm with hbm|hbm;.rw[hbm];exact hO.asymm x y hSx hSy hlt
    .exact hb b hbm
  .left;simp only[hlt,decide_false,qM,if_false];refine stop _ rfl (λa ha=>?_);rw[qK,qF]at ha;rcases ha with ha|ha
   .have hay:Le c a y:=by rw[qQ,pairwise_append]at hs1;exact hs1.2.2 a ha y (by simp)
    exact hO.trans a y x (hmem a (by simp[ha])) hSy hSx hay hlt
   .rw[ha];exact hlt
def d86(hO:Ordered c S)(hc:∀x y,S x->S y->cmp x y=some (c x y))(orig:O Posting)(hS:∀x∈orig,S x)(hlen:orig.length<=1000):∃r,h24 cmp orig 0 (orig.length:Int)=some r/\r.Perm orig/\r.Pairwise (Le c):=by
 unfold h24;by_cases hne:orig=[]
 .subst hne;refine⟨[],?_,List.Perm.refl _,List.Pairwise.nil⟩;have:∀k,0<k->d9 k (e7g cmp (([]:O Posting).length:Int) 0) ([],i64 (0+1))=some []:=by intro k hk;cases k with|zero=>omega|succ k=>show e7g _ _ _ _ _=_;unfold e7g;rw[if_neg (by rw[e9 (by omega) (by omega)];simp)]
  exact this FU (by unfold FU;omega)
 have e1:i64 (0+1)=((1:Nat):Int):=by rfl
 refine b9s (λs=>∃(A C:O Posting),s=(A++C,(A.length:Int))/\1<=A.length/\(A++C).Perm orig/\A.Pairwise (Le c)) (λs=>orig.length-s.2.toNat) _ ?_ (by omega) ?_;.cases orig with|nil=>simp_all|cons x r=>exact⟨[x],r,rfl,by simp,List.Perm.refl _,pairwise_singleton _ _⟩
 .rintro s rec⟨A,C,rfl,hA,hp,hs⟩;unfold e7g;have hle:=hp.length_eq;rw[qL]at hle;cases C with|nil=>simp_all|cons x C=>right;rw[qR]at hle;rw[if_pos (by grind)];obtain⟨A',h1,h2,h3,h4⟩:=c8i hO hc orig hS hlen A.length rec A x C rfl hp hs;refine⟨_,h4,⟨A',C,by grind,by omega,h2,h3⟩,by omega⟩
end
def sgn(p q:Int):Int:=if p<q then-1 else if q<p then 1 else 0
def c8a(x y:Int):a2c x y=some (sgn x y):=by unfold a2c b1d sgn;grind
def orI:O Int->Int|[]=>0|x::r=>if x=0then orI r else x
def g6c(p q:Int):sgn p q<0↔p<q:=by unfold sgn;omega
def f8x(p q:Int):sgn p q=0↔p=q:=by unfold sgn;omega
def f9a(x:Int)(r:O Int):orI (x::r)<0↔x<0\/x=0/\orI r<0:=by simp only[orI];omega
def h3n(l:O Int)(hl:l.length<=1000):b67 l=some (orI l):=by unfold b67;obtain⟨r,h1,h2⟩:=b9s (f:=b58 l) (λs=>∃A B,l=A++B/\s=(A.length:Int)/\orI l=orI B) (λs=>l.length-s.toNat) (λr=>r=orI l) (s:=0) ⟨[],l,rfl,rfl,rfl⟩ (by omega) (by
  rintro s rec⟨A,B,hAB,rfl,ho⟩;unfold b58;have hlen:l.length=A.length+B.length:=by simp_all
  cases B with|nil=>left;rw[if_neg (by simp_all)];exact⟨_,rfl,by rw[ho];rfl⟩|cons y B=>
    rw[qR]at hlen;have hg:c7 l (A.length:Int)=some y:=by rw[hAB,b4c];simp
    rw[if_pos (by grind),hg,qA];by_cases hy:y=0;.right;rw[if_neg (by grind),e9 (n:=(A.length:Int)+1) (by omega) (by omega)];exact⟨((A++[y]).length:Int),by simp,⟨A++[y],B,by simp_all,rfl,by rw[ho,hy];rfl⟩,by simp;omega⟩
    .left;rw[if_pos (by simp_all)];exact⟨_,rfl,by rw[ho];simp[orI,hy]⟩);simp_all
def g4l:m6=h24 a0j:=rfl
def f9z(a b:Posting):Int:=orI [sgn a.Span.From b.Span.From,sgn a.Seat b.Seat,sgn a.State b.State]
def c2f(a b:Posting):f9z a b<0↔a.Span.From<b.Span.From\/a.Span.From=b.Span.From/\(a.Seat<b.Seat\/a.Seat=b.Seat/\a.State<b.State):=by unfold f9z;simp only[f9a,g6c,f8x];simp[orI]
def f1s{a b:Posting}(h1:¬f9z a b<0)(h2:¬f9z b a<0):a.Span.From=b.Span.From/\a.Seat=b.Seat/\a.State=b.State:=by rw[c2f]at h1 h2;grind
def d8y(S:Posting->Prop):Ordered f9z S:=by
 constructor;.intro x y _ _;rw[c2f,c2f];omega
 .intro x y z _ _ _;rw[c2f,c2f,c2f];omega
def g3d(a b:Posting):a0j a b=some (f9z a b):=by unfold a0j;simp only[c8a,qA];rw[h3n _ (by simp)];rfl
def e34:Nat->Bool|0=>true|n+1=>(c7q (u64 (n:Int))).isSome&&e34 n
def e85:e34 13=true:=by kernel_rfl
def d7j:∀(k n:Nat),e34 k=true->n<k->(c7q (u64 (n:Int))).isSome=true
 |0,n,_,h=>by omega|k+1,n,h,hn=>by
   simp only[e34,qB]at h;by_cases e:n=k;.simp_all
   .exact d7j k n h.2 (by omega)
def d6k(l:O Posting)(hl:l.length<=12)(r:O Posting)(h1:h24 a0j l 0 (l.length:Int)=some r):c9 l=some r:=by
 rw[<-g4l]at h1;obtain⟨n,hn⟩:=Option.isSome_iff_exists.1 (d7j 13 l.length e85 (by omega));unfold c9 y6;rw[hn,qA];have key:∀k,0<k->((c3 k).f_slices_pdqsortCmpFunc_of_api_Posting l 0 (l.length:Int) n)=some r:=by intro k hk;cases k with|zero=>omega|succ k=>
    show i7 _ _ _ _ _=_;generalize c3 k=R;have key2:∀k,0<k->d9 k (i6 R) (l,0,(l.length:Int),n,true,true)=some r:=by intro k hk;cases k with|zero=>omega|succ k=>show i6 _ _ _=_;unfold i6;dsimp only;rw[e9 (by omega) (by omega),if_pos (by grind),h1,qA]
    exact key2 FU (by unfold FU;omega)
 rw[key FU (by unfold FU;omega),qA]
def c9r(l:O Posting)(hl:l.length<=12):∃r,c9 l=some r/\r.Perm l/\r.Pairwise (Le f9z):=by obtain⟨r,h1,h2,h3⟩:=d86 (c:=f9z) (S:=λ_=>True) (cmp:=a0j) (d8y _) (λx y _ _=>g3d x y) l (λ_ _=>trivial) (by omega);exact⟨r,d6k l hl r h1,h2,h3⟩
def e1z{α:Type}{R:α->α->Prop}:∀{a b:O α},a.Perm b->(∀x∈a,∀y∈a,R x y->R y x->x=y)->a.Pairwise R->b.Pairwise R->a=b
 |[],b,hp,_,_,_=>by simp_all|x::a,[],hp,_,_,_=>absurd hp (by simp)|x::a,y::b,hp,hx,h1,h2=>by
   obtain⟨g1,g2⟩:=List.pairwise_cons.1 h1;obtain⟨g3,g4⟩:=List.pairwise_cons.1 h2;have e:x=y:=by have m1:x∈y::b:=hp.subset (by simp);grind
   subst e;rw[e1z (perm_cons x|>.1 hp) (λu hu v hv=>hx u (by grind) v (by grind)) g2 g4]
def g57{f:aQ}(h:vld f=true):m8 f=some true:=by rw[b52,h]
set_option maxHeartbeats 4000000 in
def c3d {f:aQ}(h:vld f=true):(1 <= f.Kind /\ f.Kind <= 14) /\ (0 <= f.State /\ f.State <= 5) /\ (0 <= f.Seat /\ f.Seat <= 5) /\ (0 <= f.Share /\ f.Share <= 100) /\ (f.Kind=1 \/ f.Kind=2 \/ f.Kind=3 -> 1 <= f.Share):=by
 have hv:=g57 h
 by_cases hk:1 <= f.Kind /\ f.Kind <= 14
 ·obtain ⟨s,bS,bT,bH,bC,bA,bR,h1,h2,h3,hS,hT,hH,hC,hA,hR⟩:=f1g hk.1 hk.2
  obtain ⟨_,rS⟩:=a3w (x:=f.State) (lo:=0) (hi:=5) hS
  obtain ⟨_,rT⟩:=a3w (x:=f.Seat) (lo:=0) (hi:=5) hT
  obtain ⟨_,rH⟩:=a3w (x:=f.Share) (lo:=1) (hi:=100) hH
  obtain ⟨_,rC⟩:=a3w (x:=f.Currency) (lo:=1) (hi:=999) hC
  obtain ⟨_,rA⟩:=a3w (x:=f.Amount) (lo:=0) (hi:=1000000000) hA
  obtain ⟨_,rR⟩:=a3w (x:=f.Ref) (lo:=1) (hi:=99) hR
  have hb:f.Kind=1 \/ f.Kind=2 \/ f.Kind=3 -> bH=true:=by
   have u1:j6 1 72=some true:=by kernel_rfl
   have u2:j6 2 72=some true:=by kernel_rfl
   have u3:j6 3 72=some true:=by kernel_rfl
   have:=hH.2
   rintro (e | e | e)<;>rw [e] at this
   ·exact (qH (u1.symm.trans this)).symm
   ·exact (qH (u2.symm.trans this)).symm
   ·exact (qH (u3.symm.trans this)).symm
  generalize eS:(if bS=true then decide (0 <= f.State)&&decide (f.State <= 5) else f.State==0)=vS at rS
  generalize eT:(if bT=true then decide (0 <= f.Seat)&&decide (f.Seat <= 5) else f.Seat==0)=vT at rT
  generalize eH:(if bH=true then decide (1 <= f.Share)&&decide (f.Share <= 100) else f.Share==0)=vH at rH
  generalize (if bC=true then decide (1 <= f.Currency)&&decide (f.Currency <= 999) else f.Currency==0)=vC at rC
  generalize (if bA=true then decide (0 <= f.Amount)&&decide (f.Amount <= 1000000000) else f.Amount==0)=vA at rA
  generalize (if bR=true then decide (1 <= f.Ref)&&decide (f.Ref <= 99) else f.Ref==0)=vR at rR
  unfold m8 at hv
  simp only [h2,rS,rT,rH,rC,rA,rR,qA,y3,o4] at hv
  have hv2:vS=true /\ vT=true /\ vH=true:=by
   split at hv
   ·cases hv
   ·split at hv
    ·cases hv
    ·split at hv
     ·cases hv
     ·have:=qH hv
      simp only [qB] at this
      exact ⟨this.1.1.1.1.1,this.1.1.1.1.2,this.1.1.1.2⟩
  obtain ⟨g1,g2,g3⟩:=hv2
  subst g1;subst g2;subst g3
  refine ⟨hk,?_,?_,?_,λ e=> ?_⟩
  ·cases bS<;>simp at eS<;>omega
  ·cases bT<;>simp at eT<;>omega
  ·cases bH<;>simp at eH<;>omega
  ·rw [hb e] at eH;simp at eH;omega
 ·obtain ⟨h1,h2⟩:=d4q (k:=f.Kind) (by omega)
  exfalso
  unfold m8 at hv
  simp only [y3,qA] at hv
  simp [h2] at hv
def g4z{f:aQ}(h:cur f=true):vld f=true:=by unfold cur at h;simp_all
def f1a{l:O aQ}{f:aQ}(h:f∈l.filter cur):vld f=true:=g4z (by simp_all)
def c3l{β:Type}:O ((Int×Int)×O β)->Int×Int->β->O ((Int×Int)×O β)|[],k,x=>[(k,[x])]|q::r,k,x=>if q.1=k then(k,q.2++[x])::r else q::c3l r k x
def f0j{β:Type}:∀(L:O ((Int×Int)×O β))(k:Int×Int)(x:β),f7i L k x=c3l L k x
 |[],k,x=>rfl|q::r,k,x=>by
   have ih:=f0j r k x;unfold f7i c3v at ih⊢;unfold c3l;by_cases hq:q.1=k;.simp[ixK,hq]
   .rw[if_neg hq,<-ih];simp only[ixK,hq,if_false,qR];by_cases h:ixK r k<r.length;.simp_all
    .rw[if_neg (by omega),if_neg h];simp only[List.cons_append,List.getElem?_cons_succ];cases(r++[(k,([]:O β))])[ixK r k]?<;>simp
structure GpI(M:List ((Int×Int)×List Span))(c:List aQ):Prop where
 nd:(M.map (·.1)).Nodup
 val:∀q∈M,q.2=(c.filter λf=>(f.Kind==4)&&(f.Seat==q.1.1)&&(f.State==q.1.2)).map (·.Span)key:∀k:Int×Int,k∈M.map (·.1)↔∃f∈c,f.Kind=4/\(f.Seat,f.State)=k
 tot:(M.map (·.2.length)).sum=(c.filter c30).length
def c5r{β:Type}:∀(L:O ((Int×Int)×O β))(k:Int×Int)(x:β)(j:Int×Int),j∈(c3l L k x).map (·.1)↔j=k\/j∈L.map (·.1)
 |[],k,x,j=>by simp[c3l]|q::r,k,x,j=>by
   unfold c3l;by_cases hq:q.1=k;.simp_all
   .have ih:=c5r r k x j;grind
def e29{β:Type}:∀(L:O ((Int×Int)×O β))(k:Int×Int)(x:β),(L.map (·.1)).Nodup->((c3l L k x).map (·.1)).Nodup
 |[],k,x,_=>by simp[c3l]|q::r,k,x,h=>by
   rw[List.map_cons,List.nodup_cons]at h;unfold c3l;by_cases hq:q.1=k;.simp_all
   .rw[if_neg hq,List.map_cons,List.nodup_cons];refine⟨λhm=>?_,e29 r k x h.2⟩;rcases(c5r r k x q.1).1 hm with e|e;all_goals simp_all
def d89{β:Type}:∀(L:O ((Int×Int)×O β))(k:Int×Int)(x:β),((c3l L k x).map (·.2.length)).sum=(L.map (·.2.length)).sum+1
 |[],k,x=>by simp[c3l]|q::r,k,x=>by
   unfold c3l;by_cases hq:q.1=k;.grind
   .have:=d89 r k x;grind
def d7n{β:Type}:∀(L:O ((Int×Int)×O β))(k:Int×Int)(x:β)(q:(Int×Int)×O β),(L.map (·.1)).Nodup->q∈c3l L k x->(q.1≠k/\q∈L)\/(q.1=k/\((∃p∈L,p.1=k/\q.2=p.2++[x])\/(k∉L.map (·.1)/\q.2=[x])))
 |[],k,x,q,_,h=>by simp[c3l]at h;simp_all|p::r,k,x,q,hn,h=>by
   rw[List.map_cons,List.nodup_cons]at hn;unfold c3l at h;by_cases hq:p.1=k
   .rw[if_pos hq]at h;rcases qO.1 h with e|e;.grind
    .grind
   .rw[if_neg hq]at h;rcases qO.1 h with e|e;.grind
    .rcases d7n r k x q hn.2 e with⟨a,b⟩|⟨a,⟨p',b,c,d⟩|⟨b,c⟩⟩;.grind
     .exact .inr ⟨a,.inl ⟨p',by grind,c,d⟩⟩
     .exact .inr ⟨a,.inr ⟨by grind,c⟩⟩
def f7j{M:O ((Int×Int)×O Span)}{c:O aQ}(f:aQ)(h:GpI M c):GpI (b6k M f) (c++[f]):=by
 unfold b6k;by_cases hk:f.Kind=4
 .rw[if_pos hk,f0j];have hk':(f.Kind==4)=true:=by grind
  refine⟨e29 M _ _ h.nd,λq hq=>?_,λk=>?_,?_⟩
  .rw[filter_append,List.map_append];rcases d7n M _ _ q h.nd hq with⟨a,b⟩|⟨a,⟨p,b,e,g⟩|⟨b,e⟩⟩;.rw[<-h.val q b];grind
   .have e1:q.1=p.1:=a.trans e.symm;rw[e1,<-h.val p b,g];simp_all
   .have h0:(c.filter λu=>(u.Kind==4)&&(u.Seat==(f.Seat,f.State).1)&&(u.State==(f.Seat,f.State).2))=[]:=by rw[List.filter_eq_nil_iff];intro u hu hh;simp at hh;exact b ((h.key _).2 ⟨u,hu,hh.1.1,by simp_all⟩)
    grind
  .rw[c5r,h.key];constructor;.grind
   grind
  .rw[d89,h.tot,filter_append];have:c30 f=true:=hk';simp_all
 .rw[if_neg hk];have hk':(f.Kind==4)=false:=by simp_all
  refine⟨h.nd,λq hq=>?_,λk=>?_,?_⟩;.rw[h.val q hq,filter_append,List.map_append];simp_all
  .rw[h.key];simp_all
  .rw[h.tot,filter_append];have:c30 f=false:=hk';simp_all
def e3k:∀(l:O aQ){M:O ((Int×Int)×O Span)}{c:O aQ},GpI M c->GpI (l.foldl b6k M) (c++l)|[],M,c,h=>by simp_all|f::l,M,c,h=>by have:=e3k l (f7j f h);simp_all
def g51(l:O aQ):GpI (l.foldl b6k []) l:=e3k l (c:=[]) ⟨by simp,λq hq=>(by grind),λk=>(by simp),(by simp)⟩
def f4j{M M':O ((Int×Int)×O Span)}{c:O aQ}(h:GpI M c)(hp:M'.Perm M):GpI M' c:=⟨(hp.map _).nodup_iff.2 h.nd,λq hq=>h.val q (hp.subset hq),λk=>by rw[<-h.key];grind,by rw[<-h.tot];grind⟩
def e2y(k:Int):∀(l:O aQ)(s:Int×Bool),(∀u∈l,cur u=true)->0<=s.1/\s.1<=73048->0<=(l.foldl (c9p k) s).1/\(l.foldl (c9p k) s).1<=73048|[],s,_,h=>h|u::l,s,hl,h=>by refine e2y k l _ (λv hv=>hl v (by grind)) ?_;have:=f4a (hl u (by simp));unfold c9p;grind
def g41(k:Int)(l:O aQ):0<=((l.filter cur).foldl (c9p k) (0,false)).1/\((l.filter cur).foldl (c9p k) (0,false)).1<=73048:=e2y k _ _ (λu hu=>by simp_all) (by decide)
def c3g(l:O aQ):Int×Bool:=(l.filter cur).foldl (c9p 11) (0,false)
def d2r(l:O aQ):Int:=if(d3m l).2=true then(d3m l).1else 73048
def a4q(l:O aQ):Span:=if d2r l<(c3g l).1then⟨0,0⟩else⟨(c3g l).1,d2r l+1⟩
def f6l(l:O aQ):0<=d2r l/\d2r l<=73048:=by
 unfold d2r;split;.exact g41 12 l
 omega
def c27(l:O aQ)(hl:l.length<=2^30):a2i l=some (a4q l):=by
 have h1:=f6l l;unfold a2i b4t;rw[d4x l 11 hl,qA,qA,e8l l hl,qA,show(l.filter cur).foldl (c9p 11) (0,false)=c3g l from rfl];have e:∀t:Int,t<=73048->0<=t->joinC b48 ((⟨0,0⟩:Span),(c3g l).1,t)=some (if t<(c3g l).1then⟨0,0⟩else⟨(c3g l).1,t+1⟩):=by intro t ht h0;rw[b7k];unfold b48;dsimp only;rw[e9 (by omega) (by omega)];grind
 unfold a4q d2r at*;by_cases hd:(d3m l).2=true;.simp_all
 simp_all
def d35{α:Type}:∀{a b:O α},a.Nodup->(∀x∈a,x∈b)->a.length<=b.length
 |[],b,_,_=>Nat.zero_le _|x::a,b,hn,hs=>by
   obtain⟨h1,h2⟩:=List.nodup_cons.1 hn;obtain⟨b1,b2,rfl⟩:=append_of_mem (hs x (by simp));have:=d35 (a:=a) (b:=b1++b2) h2 λy hy=>by grind
   grind
def f2n{α:Type}{R:α->α->Prop}:∀{l:O α},l.Pairwise R->∀{a b:α},a∈l->b∈l->a=b\/R a b\/R b a
 |x::l,h,a,b,ha,hb=>by
   obtain⟨h1,h2⟩:=List.pairwise_cons.1 h;rcases qO.1 ha with ha|ha<;>rcases qO.1 hb with hb|hb;.simp_all
   .simp_all
   .simp_all
   .exact f2n h2 ha hb
def g2z{r:O Span}(h:Nrm r){a:Span}(ha:a∈r):¬InS r a.To:=by rintro⟨c,hc,h1,h2⟩;have g1:=h.1 a ha;rcases f2n h.2 ha hc with rfl|h3|h3<;>omega
def d80{r z:O Span}(s:Span)(hr:Nrm r)(h:∀x,InS r x↔InS z x/\s.From<=x/\x<s.To):r.length<=z.length:=by
 let g:Span->Span:=λt=>(z.find? λu=>decide (u.From<=t.From)&&decide (t.From<u.To)).getD ⟨0,0⟩;have hg:∀t∈r,g t∈z/\(g t).From<=t.From/\t.From<(g t).To:=by intro t ht;have g1:=hr.1 t ht;obtain⟨u,hu,h1,h2⟩:=((h t.From).1 ⟨t,ht,Int.le_refl _,g1.2.1⟩).1;cases hf:z.find? λu=>decide (u.From<=t.From)&&decide (t.From<u.To)with|none=>have:=List.find?_eq_none.1 hf u hu;simp_all|some v=>grind
 have hn:(r.map g).Nodup:=by unfold List.Nodup;rw[pairwise_map];refine hr.2.imp_of_mem λ{a b}ha hb hab e=>?_;have g1:=hr.1 a ha;have g2:=hr.1 b hb;have k1:=hg a ha;have k2:=hg b hb;rw[<-e]at k2;have l1:=(h a.From).1 ⟨a,ha,Int.le_refl _,g1.2.1⟩;have l2:=(h b.From).1 ⟨b,hb,Int.le_refl _,g2.2.1⟩;exact g2z hr ha ((h a.To).2 ⟨⟨g a,k1.1,by omega,by omega⟩,by omega,by omega⟩)
 have:=d35 hn (b:=z) λx hx=>by obtain⟨t,ht,rfl⟩:=List.mem_map.1 hx;simp_all
 simp_all
def d4o(a:O Span)(s:Span):O Span:=(s6 a s).getD []
def b8o(a:O Span)(s:Span)(ha:a.length<=2^40):s6 a s=some (d4o a s)/\Nrm (d4o a s)/\(∀x,InS (d4o a s) x↔InS a x/\(s.From<=x/\x<s.To)/\0<=x/\x<73049)/\(d4o a s).length<=a.length:=by
 obtain⟨r,h1,h2,h3⟩:=c95 a s ha;obtain⟨z,m1,m2,m3,m4⟩:=c1p a ha;have e2:d4o a s=r:=by unfold d4o;simp_all
 rw[e2];refine⟨h1,h2,h3,Nat.le_trans (d80 s h2 (z:=z) λx=>?_) m4⟩;constructor;.simp_all
 simp_all
def pmk(s:Span)(M:O ((Int×Int)×O Span)):O Posting:=M.flatMap λq=>(d4o q.2 s).map λx=>⟨q.1.1,q.1.2,x⟩
def e8q(s:Span):∀M:O ((Int×Int)×O Span),(∀q∈M,q.2.length<=2^40)->(pmk s M).length<=(M.map (·.2.length)).sum|[],_=>Nat.le_refl _|q::M,h=>by have ih:=e8q s M λp hp=>h p (by grind);have h1:=(b8o q.2 s (h q (by simp))).2.2.2;unfold pmk at ih⊢;simp only[List.flatMap_cons,qL,List.length_map,List.map_cons,List.sum_cons];omega
def d82(l:O aQ)(hl:l.length<=2^30):∀(M:O ((Int×Int)×O Span))(out:O Posting),(∀q∈M,q.2.length<=2^40)->out.length+(M.map (·.2.length)).sum<=100000->b4v l M out=some (out++pmk (a4q l) M)|[],out,_,_=>by simp[b4v,pmk]|q::M,out,hM,ho=>by obtain⟨h1,_,_,h5⟩:=b8o q.2 (a4q l) (hM q (by simp));simp only[List.map_cons,List.sum_cons]at ho;show(Option.bind (a2i l) λs=>Option.bind (s6 q.2 s) λc=>if out.length+c.length<=100000then b4v l M (out++c.map λx=>⟨q.1.1,q.1.2,x⟩)else none)=_;rw[c27 l hl,qA,h1,qA,if_pos (by omega)];rw[d82 l hl M _ (λp hp=>hM p (by simp[hp])) (by rw[qL,List.length_map];omega)];simp[pmk]
def f3b(f:O aQ)(a b:Int):O Span:=((f.filter cur).filter λu=>(u.Kind==4)&&(u.Seat==a)&&(u.State==b)).map (·.Span)
def PM(f:O aQ)(p:Posting):Prop:=p.Span∈d4o (f3b f p.Seat p.State) (a4q f)
def d4g(f:O aQ)(a b:Int):(f3b f a b).length<=f.length:=by unfold f3b;grind
def e1c{f:O aQ}(hf:f.length<=2^30){M:O ((Int×Int)×O Span)}(h:GpI M (f.filter cur))(p:Posting):p∈pmk (a4q f) M↔PM f p:=by
 unfold pmk PM;rw[mem_flatMap];constructor;.rintro⟨q,hq,hp⟩;obtain⟨x,hx,rfl⟩:=List.mem_map.1 hp;rw[h.val q hq]at hx;exact hx
 .intro hp;obtain⟨_,h3,h4,_⟩:=b8o (f3b f p.Seat p.State) (a4q f) (by have:=d4g f p.Seat p.State;omega);obtain⟨⟨s,hs,_⟩,_⟩:=(h4 p.Span.From).1 ⟨p.Span,hp,Int.le_refl _,(h3.1 _ hp).2.1⟩;obtain⟨u,hu,_⟩:=List.mem_map.1 hs;rw[mem_filter]at hu;have hh:=hu.2;simp at hh;obtain⟨q,hq,e⟩:=List.mem_map.1 ((h.key (p.Seat,p.State)).2 ⟨u,hu.1,hh.1.1,by rw[hh.1.2,hh.2]⟩);refine⟨q,hq,List.mem_map.2 ⟨p.Span,?_,?_⟩⟩;.rw[h.val q hq,e];exact hp
  .rw[e]
def g4c{f:O aQ}(hf:f.length<=2^30){x y:Posting}(hx:PM f x)(hy:PM f y)(h1:x.Span.From=y.Span.From)(h2:x.Seat=y.Seat)(h3:x.State=y.State):x=y:=by
 unfold PM at hx hy;rw[<-h2,<-h3]at hy;obtain⟨_,k3,_,_⟩:=b8o (f3b f x.Seat x.State) (a4q f) (by have:=d4g f x.Seat x.State;omega);have g1:=k3.1 _ hx;have g2:=k3.1 _ hy;have e:x.Span=y.Span:=by rcases f2n k3.2 hx hy with h|h|h;all_goals omega
 cases x;simp_all
def c90{f:O aQ}(hG:a48 f):∃P,competence_Postings f=some P/\(∀p,p∈P↔PM f p)/\P.length<=12:=by
 have hf:f.length<=2^30:=by have:=hG.len;omega
 have hcl:(f.filter cur).length<=27:=by have:=length_filter_le cur f;have:=hG.len;omega
 have hpos:((f.filter cur).filter c30).length<=12:=by
  have:((f.filter cur).filter c30).length<=(f.filter c30).length:=by rw[filter_filter,show(λa=>c30 a&&cur a)=λa=>cur a&&c30 a from funext λa=>Bool.and_comm _ _,<-filter_filter];grind
  have:=hG.pos;omega
 have hG0:=g51 (f.filter cur);have hlen:∀{M:O ((Int×Int)×O Span)},GpI M (f.filter cur)->∀q∈M,q.2.length<=2^40:=by intro M h q hq;rw[h.val q hq,List.length_map];grind
 have hl12:∀{M:O ((Int×Int)×O Span)},GpI M (f.filter cur)->(pmk (a4q f) M).length<=12:=by intro M h;have:=e8q (a4q f) M (hlen h);rw[h.tot]at this;omega
 obtain⟨P,hP1,hP2,hP3⟩:=c9r (pmk (a4q f) ((f.filter cur).foldl b6k [])) (hl12 hG0);refine⟨P,?_,λp=>?_,?_⟩
 .unfold competence_Postings;rw[b9a f hf,qA,if_pos];.refine g33 (λM hM=>?_) (List.Perm.refl _);have hM':=f4j hG0 hM;rw[d82 f hf M [] (hlen hM') (by rw[hM'.tot,qS];omega),qA,List.nil_append];obtain⟨P',k1,k2,k3⟩:=c9r (pmk (a4q f) M) (hl12 hM');rw[k1];have hpp:P'.Perm P:=k2.trans ((show(pmk (a4q f) M).Perm (pmk (a4q f) ((f.filter cur).foldl b6k []))from hM.flatMap_right _).trans hP2.symm);refine congrArg some (e1z hpp (λx hx y hy g1 g2=>?_) k3 hP3);obtain⟨e1,e2,e3⟩:=f1s g2 g1;exact g4c hf ((e1c hf hM' x).1 (k2.subset hx)) ((e1c hf hM' y).1 (k2.subset hy)) e1 e2 e3
  .refine⟨by omega,?_⟩;rw[qX];intro u hu;obtain⟨_,g1,g2,_⟩:=c3d (f1a hu);unfold c4v;simp only[qB,decide_eq_true_eq];omega
 .rw[hP2.mem_iff,e1c hf hG0]
 .rw[hP2.length_eq];grind
def b08{σ ρ:Type}{f:(σ->A3 ρ)->σ->A3 ρ}{k:Nat}{s:σ}(h:0<k):d9 k f s=f (d9 (k-1) f) s:=by cases k with|zero=>omega|succ k=>rfl
def tin{m n:Int}(h0:0<=m)(h1:m<=n):a7u m n=some true:=by unfold a7u;simp_all
def f0c(F m L S:Int)(M:O Int)(h1:0<=F/\F<=73048)(h2:0<=m/\m<=73049)(h3:0<=L/\L<=73049)(h4:0<=S/\S<=100)(h5:d9 FU (b2n (⟨F,m,L,S,M⟩:Rules)) (⟨F,m,L,S,M⟩,0)=some true):a5x ⟨F,m,L,S,M⟩=some true:=by
 unfold a5x m7;have e:(if decide (F>=0)=true then some (decide (F<=73048))else some false)=some true:=by simp_all
 rw[e];simp only[qA,tin h2.1 h2.2,tin h3.1 h3.2,tin h4.1 h4.2,qU,qM,if_false];omega
def tvA(F m L S:Int):d9 FU (b2n (⟨F,m,L,S,[0,1,2]⟩:Rules)) (⟨F,m,L,S,[0,1,2]⟩,0)=some true:=by kernel_rfl
def tvB(F m L S:Int):d9 FU (b2n (⟨F,m,L,S,[0,1]⟩:Rules)) (⟨F,m,L,S,[0,1]⟩,0)=some true:=by kernel_rfl
def d5j{T:O Rules}(h:TrF T):a9n T=some 0:=by
 obtain⟨m,h0,h1,rfl|rfl|rfl⟩:=h;.have v0:a5x (⟨0,m,730,25,[0,1,2]⟩:Rules)=some true:=f0c _ _ _ _ _ (by decide) ⟨h0,by omega⟩ (by decide) (by decide) (tvA _ _ _ _);unfold a9n;rw[if_neg (by simp)];have e:((([(⟨0,m,730,25,[0,1,2]⟩:Rules)]:O Rules).length:Int)==0)=false:=rfl;simp only[e,qM,if_false];have g:c7 [(⟨0,m,730,25,[0,1,2]⟩:Rules)] 0=some ⟨0,m,730,25,[0,1,2]⟩:=rfl;rw[b08 (by unfold FU;omega)];unfold b27;simp only[g,qA,v0];rfl
 .have v0:a5x (⟨0,m,730,25,[0,1]⟩:Rules)=some true:=f0c _ _ _ _ _ (by decide) ⟨h0,by omega⟩ (by decide) (by decide) (tvB _ _ _ _);have v1:a5x (⟨35000,m,365,30,[0,1,2]⟩:Rules)=some true:=f0c _ _ _ _ _ (by decide) ⟨h0,by omega⟩ (by decide) (by decide) (tvA _ _ _ _);unfold a9n;rw[if_neg (by simp)];have e:((([(⟨0,m,730,25,[0,1]⟩:Rules),⟨35000,m,365,30,[0,1,2]⟩]:O Rules).length:Int)==0)=false:=rfl;simp only[e,qM,if_false];have g:c7 [(⟨0,m,730,25,[0,1]⟩:Rules),⟨35000,m,365,30,[0,1,2]⟩] 0=some ⟨0,m,730,25,[0,1]⟩:=rfl;have g1:c7 [(⟨0,m,730,25,[0,1]⟩:Rules),⟨35000,m,365,30,[0,1,2]⟩] (i64 (0+1))=some ⟨35000,m,365,30,[0,1,2]⟩:=rfl;have g2:c7 [(⟨0,m,730,25,[0,1]⟩:Rules),⟨35000,m,365,30,[0,1,2]⟩] (i64 (i64 (0+1)-1))=some ⟨0,m,730,25,[0,1]⟩:=rfl;rw[b08 (by unfold FU;omega)];unfold b27;simp only[g,qA,v0];rw[b08 (by unfold FU;omega)];simp only[g1,g2,qA,v1];rfl
 .have v0:a5x (⟨0,m,730,25,[0,1,2]⟩:Rules)=some true:=f0c _ _ _ _ _ (by decide) ⟨h0,by omega⟩ (by decide) (by decide) (tvA _ _ _ _);have v1:a5x (⟨36000,m,730,25,[0,1]⟩:Rules)=some true:=f0c _ _ _ _ _ (by decide) ⟨h0,by omega⟩ (by decide) (by decide) (tvB _ _ _ _);unfold a9n;rw[if_neg (by simp)];have e:((([(⟨0,m,730,25,[0,1,2]⟩:Rules),⟨36000,m,730,25,[0,1]⟩]:O Rules).length:Int)==0)=false:=rfl;simp only[e,qM,if_false];have g:c7 [(⟨0,m,730,25,[0,1,2]⟩:Rules),⟨36000,m,730,25,[0,1]⟩] 0=some ⟨0,m,730,25,[0,1,2]⟩:=rfl;have g1:c7 [(⟨0,m,730,25,[0,1,2]⟩:Rules),⟨36000,m,730,25,[0,1]⟩] (i64 (0+1))=some ⟨36000,m,730,25,[0,1]⟩:=rfl;have g2:c7 [(⟨0,m,730,25,[0,1,2]⟩:Rules),⟨36000,m,730,25,[0,1]⟩] (i64 (i64 (0+1)-1))=some ⟨0,m,730,25,[0,1,2]⟩:=rfl;rw[b08 (by unfold FU;omega)];unfold b27;simp only[g,qA,v0];rw[b08 (by unfold FU;omega)];simp only[g1,g2,qA,v1];rfl
def b7n:O Rules->Int->Rules|[a],_=>a|[a,b],d=>if b.From<=d then b else a|_,_=>⟨0,0,0,0,[]⟩
def e30{T:O Rules}(h:TrF T)(d:Int):0<=(b7n T d).PostingLimit/\(b7n T d).PostingLimit<=730/\0<=(b7n T d).Substantial/\(b7n T d).Substantial<=100/\b7n T d∈T:=by
 obtain⟨m,h0,h1,rfl|rfl|rfl⟩:=h;.simp[b7n]
 .simp only[b7n];grind
 .simp only[b7n];grind
def g97{T:O Rules}(h:TrF T):T.length<=2/\∀r∈T,0<=r.From/\r.From<=73048/\0<=r.PostingLimit/\r.PostingLimit<=730:=by obtain⟨m,h0,h1,rfl|rfl|rfl⟩:=h<;>simp
def clA:a7z [0,1,2]=some [0,1,2]:=by kernel_rfl
def clB:a7z [0,1]=some [0,1]:=by kernel_rfl
def g09{d:Int}(h0:0<=d)(h1:d<=73048):m7 d=some true:=by unfold m7;simp_all
def g2p{T:O Rules}(h:TrF T){d:Int}(hd:0<=d)(hd2:d<=73048):b2q T d=some (b7n T d,true):=by
 have hv:m7 d=some true:=g09 hd hd2;obtain⟨m,h0,h1,rfl|rfl|rfl⟩:=h;.have g:c7 [(⟨0,m,730,25,[0,1,2]⟩:Rules)] 0=some ⟨0,m,730,25,[0,1,2]⟩:=rfl;have e0:((([(⟨0,m,730,25,[0,1,2]⟩:Rules)]:O Rules).length:Int)-1)=0:=rfl;unfold b2q b7n;rw[hv,qA];simp only[qU,qM,if_false,e0];rw[b08 (by unfold FU;omega)];unfold b81;rw[if_neg (by simp)];simp only[g,qA];rw[if_pos (by simp_all)];simp only[clA,qA]
 .have g:c7 [(⟨0,m,730,25,[0,1]⟩:Rules),⟨35000,m,365,30,[0,1,2]⟩] 0=some ⟨0,m,730,25,[0,1]⟩:=rfl;have g1:c7 [(⟨0,m,730,25,[0,1]⟩:Rules),⟨35000,m,365,30,[0,1,2]⟩] 1=some ⟨35000,m,365,30,[0,1,2]⟩:=rfl;have e0:((([(⟨0,m,730,25,[0,1]⟩:Rules),⟨35000,m,365,30,[0,1,2]⟩]:O Rules).length:Int)-1)=1:=rfl;unfold b2q b7n;rw[hv,qA];simp only[qU,qM,if_false,e0];rw[b08 (by unfold FU;omega)];unfold b81;rw[if_neg (by simp)];simp only[g1,qA];by_cases hc:(35000:Int)<=d;.rw[if_pos (by simp_all),if_pos hc];simp only[clA,qA]
  .rw[if_neg (by simp_all),if_neg hc,b08 (by unfold FU;omega)];simp only[show(1:Int)-1=0from rfl];rw[if_neg (by simp)];simp only[g,qA];rw[if_pos (by simp_all)];simp only[clB,qA]
 .have g:c7 [(⟨0,m,730,25,[0,1,2]⟩:Rules),⟨36000,m,730,25,[0,1]⟩] 0=some ⟨0,m,730,25,[0,1,2]⟩:=rfl;have g1:c7 [(⟨0,m,730,25,[0,1,2]⟩:Rules),⟨36000,m,730,25,[0,1]⟩] 1=some ⟨36000,m,730,25,[0,1]⟩:=rfl;have e0:((([(⟨0,m,730,25,[0,1,2]⟩:Rules),⟨36000,m,730,25,[0,1]⟩]:O Rules).length:Int)-1)=1:=rfl;unfold b2q b7n;rw[hv,qA];simp only[qU,qM,if_false,e0];rw[b08 (by unfold FU;omega)];unfold b81;rw[if_neg (by simp)];simp only[g1,qA];by_cases hc:(36000:Int)<=d;.rw[if_pos (by simp_all),if_pos hc];simp only[clB,qA]
  .rw[if_neg (by simp_all),if_neg hc,b08 (by unfold FU;omega)];simp only[show(1:Int)-1=0from rfl];rw[if_neg (by simp)];simp only[g,qA];rw[if_pos (by simp_all)];simp only[clA,qA]
def f5d(f:aQ)(s:Int):Tot (b63 f s) λ_=>True:=by unfold b63;simp only[y3,o4,qA];exact tD (λ_=>tC trivial) λ_=>tD (λ_=>tC trivial) λ_=>tC trivial
def g8l(x:earnings_income):Prop:=Nrm x.days
def e0j(l:O aQ)(c:O nQ)(s:Int)(hl:l.length<=1000)(hc:c.length<=2^30):Tot (b13 l c s) λr=>r.length<=1000/\∀x∈r,g8l x:=by
 unfold b13;rw[b9a l (by omega),qA];have hcl:=length_filter_le cur l;generalize l.filter cur=q at hcl;refine tH q (λ(t:O earnings_income)i=>(t,q,i)) (λt i=>t.length<=i/\∀x∈t,g8l x) (by omega) (λrec t i x hi hx hI ih=>?_) (λrec t hI=>?_) [] ⟨by simp,by simp⟩
 .dsimp only;rw[if_pos (o6 hi)];simp only[e7 hx,qA];have keep:=ih t ⟨by omega,hI.2⟩;refine tA (f5d x s) λr _=>tD (λ_=>keep) λ_=>tA (e0f c _ _ hc) λz hz=>tA (d4t _ (by omega)) λz2 hz2=>?_;rw[c27 l (by omega),qA];refine tA (d4t _ (by omega)) λz3 hz3=>tD (λ_=>?_) λ_=>keep;rw[p6 (by simp only[qR,qS];omega),qA];refine ih _ ⟨by simp;omega,λy hy=>?_⟩;rcases qK.1 hy with h|h;.exact hI.2 y h
  .rw[qF]at h;subst h;exact hz3.1
 .dsimp only;rw[if_neg (g9 _)];exact tC ⟨by omega,hI.2⟩
def c8k:∀(l:O (Int×Int))(k v j:Int),j∈(a62 l k v).map (·.1)↔j=k\/j∈l.map (·.1)
 |[],k,v,j=>by simp[a62]|q::r,k,v,j=>by
   unfold a62;by_cases hq:q.1=k;.simp_all
   .have ih:=c8k r k v j;grind
def d5v:∀(l:O (Int×Int))(k v:Int),(l.map (·.1)).Nodup->((a62 l k v).map (·.1)).Nodup
 |[],k,v,_=>by simp[a62]|q::r,k,v,h=>by
   rw[List.map_cons,List.nodup_cons]at h;unfold a62;by_cases hq:q.1=k;.simp_all
   .rw[if_neg hq,List.map_cons,List.nodup_cons];refine⟨λhm=>?_,d5v r k v h.2⟩;rcases(c8k r k v q.1).1 hm with e|e;all_goals simp_all
def YrM(m:O (Int×Int)):Prop:=(m.map (·.1)).Nodup/\∀k∈m.map (·.1),0<=k/\k<=2100
def YrM.set{m:O (Int×Int)}(h:YrM m){k:Int}(hk:0<=k/\k<=2100)(v:Int):YrM (a62 m k v):=⟨d5v m k v h.1,λj hj=>by
 rcases(c8k m k v j).1 hj with e|e;.omega
 .exact h.2 j e⟩
def YrM.len{m:O (Int×Int)}(h:YrM m):m.length<=2101:=by
 have:=d35 h.1 (b:=(List.range 2101).map λ(k:Nat)=>(k:Int)) λx hx=>by have:=h.2 x hx;exact List.mem_map.2 ⟨x.toNat,by grind,by omega⟩
 simp_all
def YrM.keys{m:O (Int×Int)}(h:YrM m):Tot (c8c m) λr=>r.length<=2101/\∀k∈r,0<=k/\k<=2100:=by have hl:=h.len;unfold c8c;rw[if_pos ⟨by rw[qX];intro p hp;have:=h.2 p.1 (List.mem_map.2 ⟨p,hp,rfl⟩);unfold c4v;grind,by omega⟩];have hp:(b89 (m.map (·.1))).Perm (m.map (·.1)):=a8p _;exact tC ⟨by rw[hp.length_eq,List.length_map];omega,λk hk=>h.2 k (hp.subset hk)⟩
def e8n(l:O aQ)(c:O nQ)(s cu:Int)(t:O Rate)(hl:l.length<=1000)(hc:c.length<=2^30):Tot (b4h l c s cu t) λr=>r.1.length<=2101:=by
 unfold b4h;simp only[a1z,y3,qA];refine tA (Q:=λb=>b=false->t.length<=40) (tD (λ_=>tC λh=>by grind) λ_=>tA (b8a t) λr hr=>tC λh=>hr (by simp_all)) λb hb=>tD (λ_=>tC (by simp)) λh=>?_;have ht:=hb (by simp_all);refine tA (e0j l c s hl hc) λall ha=>?_;obtain⟨hal,ha⟩:=ha;refine tH all (λ(m:O (Int×Int))i=>(all,m,i)) (λm _=>YrM m) (by omega) (λrec m i x hi hx hI ih=>?_) (λrec m hI=>?_) [] ⟨by simp,by simp⟩
 .rw[if_pos (o6 hi)];simp only[e7 hx,qA];have hn:Nrm x.days:=ha x (qE hx);have hnl:=c3n hn;refine tH x.days (λ(m:O (Int×Int))k=>(all,m,k)) (λm _=>YrM m) (by omega) (λrec2 m k y hk hy hI2 ih2=>?_) (λrec2 m hI2=>?_) m hI;.rw[if_pos (o6 hk)];simp only[e7 hy,qA];refine tA (c2d _) λd1 h1=>tA (c2d _) λd2 h2=>?_;obtain⟨a1,_⟩:=h1;refine tO (I:=λv:O earnings_income×O (Int×Int)×Int=>v.1=all/\YrM v.2.1/\0<=v.2.2/\v.2.2<=2101) (μ:=λv=>(2200-v.2.2).toNat) ⟨rfl,hI2,a1.1,by show d1.1<=2101;omega⟩ (by show(2200-d1.1).toNat<_;omega) ?_;rintro r3⟨w,m3,yy⟩⟨rfl,b2,b3,b4⟩ih3;dsimp only at b2 b3 b4⊢;refine tD (λhc=>?_) λ_=>ih2 m3 b2;simp at hc;rw[a42 b3 (by omega)];exact ih3 _ ⟨rfl,b2.set ⟨b3,by omega⟩ 0,by dsimp only;omega,by dsimp only;omega⟩ (by dsimp only;omega)
  simp_all
 .rw[if_neg (g9 _)];refine tA hI.keys λks hk=>?_;simp only[map_id'];refine tH ks (λ(q:O (Int×Int)×O Earning)i=>(all,q.1,q.2,ks,i)) (λq i=>q.2.length<=i) (by omega) (λrec q i y hi hy hI2 ih=>?_) (λrec q hI2=>?_) (m,[]) (by simp)
  .rw[if_pos (o6 hi)];simp only[e7 hy,qA];refine tH all (λ(m:O (Int×Int))k=>(all,m,q.2,ks,k)) (λ_ _=>True) (by omega) (λrec2 m k x hk hx _ ih2=>?_) (λrec2 m _=>?_) q.1 trivial;.rw[if_pos (o6 hk)];simp only[e7 hx,qA];have hnl:=c3n (show Nrm x.days from ha x (qE hx));refine tA (f3y _) λyy _=>tA (d4t _ (by omega)) λz hz=>tA (d4h (by omega)) λn _=>tD (λ_=>ih2 m trivial) λ_=>tA (f4c _ _) λp _=>tA (d9v _ _ _ _ t _ (by decide) ht) λw _=>tD (λ_=>tC (by simp)) λ_=>ih2 _ trivial
   .rw[if_neg (g9 _)];refine tD (λ_=>tC (by simp)) λ_=>?_;rw[p6 (by simp only[qR,qS];omega),qA];exact ih (m,_) (by simp;omega)
  .rw[if_neg (g9 _)];exact tC (by grind)
def b6y{l:O Span}(s:Span)(hl:l.length<=2^40):Tot (s6 l s) λr=>Nrm r/\r.length<=l.length:=by obtain⟨r,h1,h2,h3⟩:=c95 l s hl;obtain⟨z,m1,m2,m3,m4⟩:=c1p l hl;refine⟨r,h1,h2,Nat.le_trans (d80 s h2 (z:=z) λx=>?_) m4⟩;constructor;all_goals simp_all
def e5e(g:O gQ)(a b:Int)(hg:g.length<=2^30):Tot (b1e g a b) λr=>r.length<=g.length:=by
 refine tH g (λ(s:O Span)i=>(s,i)) (λs i=>s.length<=i) (by omega) (λrec s i y hi hy hI ih=>?_) (λrec s hI=>?_) [] (by simp);.unfold b1h;rw[if_pos (o6 hi)];simp only[e7 hy,qA,o4];refine tD (λ_=>?_) λ_=>ih s (by omega);rw[p6 (by simp only[qR,qS];omega),qA];simp_all
 .unfold b1h;dsimp only;rw[if_neg (g9 _)];exact tA (b2p (by omega)) λr hr=>tC (by omega)
def e9q(k:Int)(d:O Span)(x:O Period)(sc:Scheme)(o:O Period)(hd:d.length<=2^30)(ho:o.length<=2^30):Tot (a1s k d x sc o) λr=>r.2.length=o.length+d.length/\∀p∈r.2,p∈o\/p.State=sc.State:=by
 unfold a1s;refine tH d (λ(s:O Period)i=>(s,([]:O Period),i)) (λs i=>s.length=o.length+i/\∀p∈s,p∈o\/p.State=sc.State) (by omega) (λrec s i y hi hy hI ih=>?_) (λrec s hI=>?_) o ⟨by simp,λp hp=>.inl hp⟩;.dsimp only;rw[if_pos (o6 hi)];simp only[e7 hy,qA];rw[p6 (by simp only[qR,qS];omega),qA];exact ih _ ⟨by simp;omega,λp hp=>(b4a hp).elim (hI.2 p) λe=>.inr (e▸rfl)⟩
 .dsimp only;rw[if_neg (g9 _)];exact tC hI
def e53(v:Version)(k:Int)(hv:v.Credits.length<=2^30):Tot (b43 v k) λ_=>True:=by
 refine tA (Q:=λn=>n<(v.Credits.length:Int)) ?_ λn hn=>tD (λ_=>tC trivial) λh=>?_
 .refine tH v.Credits (λ(_:Unit)i=>i) (λ_ _=>True) (by omega) (λrec s i y hi hy _ ih=>?_) (λrec s _=>?_) () trivial;.unfold q0 b56;rw[if_pos (o6 hi)];simp only[e7 hy,qA];exact tD (λ_=>tC (by omega)) λ_=>ih () trivial
  .unfold q0;rw[if_neg (g9 _)];exact tC (by omega)
 .simp at h;exact tA (c6 h hn) λ_ _=>tC trivial
def e59(l:O aQ)(a b:Int)(hl:l.length<=1000):Tot (b7p l a b) λr=>r.length<=l.length:=by
 refine tH l (λ(s:O Span)i=>(s,i)) (λs i=>s.length<=i) (by omega) (λrec s i y hi hy hI ih=>?_) (λrec s hI=>?_) [] (by simp);.unfold b6o;rw[if_pos (o6 hi)];simp only[e7 hy,qA,b6f,o4];refine tD (λ_=>?_) λ_=>ih s (by omega);rw[p6 (by simp only[qR,qS];omega),qA];simp_all
 .unfold b6o;dsimp only;rw[if_neg (g9 _),c27 l (by omega),qA];exact tA (b6y _ (by omega)) λr hr=>tC (by omega)
def g6g(l:O Period)(a b:Int)(hl:l.length<=2^30):Tot (b9z l a b) λr=>Nrm r/\r.length<=l.length/\(r≠[]->∃p∈l,p.State=a):=by
 unfold b9z;refine tH l (λ(s:O Span)i=>(s,i)) (λs i=>s.length<=i/\(s≠[]->∃p∈l,p.State=a)) (by omega) (λrec s i y hi hy hI ih=>?_) (λrec s hI=>?_) [] ⟨by simp,λh=>absurd rfl h⟩;.dsimp only;rw[if_pos (o6 hi)];simp only[e7 hy,qA,y3,o4];refine tD (λh=>?_) λ_=>ih s ⟨by omega,hI.2⟩;rw[p6 (by simp only[qR,qS];omega),qA];exact ih _ ⟨by simp;omega,λ_=>⟨y,qE hy,by simp at h;exact h.1⟩⟩
 .dsimp only;rw[if_neg (g9 _)];exact tA (b2p (by omega)) λr hr=>tC ⟨hr.1,by omega,λh=>hI.2 λe=>h (List.length_eq_zero_iff.1 (by rw[e]at hr;simpa using hr.2))⟩
def d8s:∀(l:O aQ)(k:Int),l.countP (λu=>decide (u.Ref<k))+l.countP (λu=>u.Ref==k)=l.countP (λu=>decide (u.Ref<k+1))|[],_=>rfl|u::l,k=>by have ih:=d8s l k;grind
def e0n(l:O aQ)(s:Int)(b:Span)(m:Int)(hl:l.length<=1000):Tot (b1c l s b m) λr=>r.length<=l.length:=by
 have hcl:=length_filter_le cur l;unfold b1c lpC;refine tO (I:=λv:Span×O Span×Int=>1<=v.2.2/\v.2.2<=100/\v.2.1.length<=(l.filter cur).countP (λu=>decide (u.Ref<v.2.2))) (μ:=λv=>(100-v.2.2).toNat) ⟨Int.le_refl _,by simp_all,Nat.zero_le _⟩ (by simp_all) ?_;rintro r⟨v1,out,c⟩⟨g1,g2,g3⟩ih;dsimp only at g1 g2 g3⊢;have hout:out.length<=l.length:=by have:=countP_le_length (p:=λu:aQ=>decide (u.Ref<c)) (l:=l.filter cur);omega
 refine tD (λhc=>?_) λ_=>tA (b2p (by omega)) λz hz=>tC (by omega);simp at hc;rw[b9a l (by omega),qA];have hsp:=d8s (l.filter cur) c;have go:∀o:O Span,o.length<=out.length+(l.filter cur).countP (λu=>u.Ref==c)->Tot (r (v1,o,i64 (c+1))) λr=>r.length<=l.length:=λo ho=>by rw[a42 (by omega) (by omega)];exact ih _ ⟨by dsimp only;omega,by dsimp only;omega,by dsimp only;omega⟩ (by dsimp only;omega)
 generalize l.filter cur=q at*;refine tH q (λ(d:O Span)i=>(v1,out,d,q,i)) (λd i=>d.length<=(q.take i).countP (λu=>u.Ref==c)) (by omega) (λrec d i y hi hy hI ih2=>?_) (λrec d hI=>?_) [] (by simp)
 .have hdl:d.length<=1000:=by have:=countP_le_length (p:=λu:aQ=>u.Ref==c) (l:=q.take i);rw[List.length_take]at this;omega
  rw[if_pos (o6 hi)];simp only[e7 hy,qA,o4];rw[a9h hy,countP_append]at ih2;by_cases hc2:((y.Kind==10&&y.State==s)&&y.Ref==c)=true;.rw[if_pos hc2,p6 (by simp only[qR,qS];omega),qA];simp only[qB]at hc2;exact ih2 _ (by simp[hc2.2];omega)
  .rw[if_neg hc2];exact ih2 d (by omega)
 .rw[List.take_length]at hI;have hdl:d.length<=1000:=by have:=countP_le_length (p:=λu:aQ=>u.Ref==c) (l:=q);omega
  dsimp only;rw[if_neg (g9 _)];refine tD (λ_=>?_) λ_=>go out (by omega);rw[c27 l (by omega),qA];refine tA (b6y _ (by omega)) λz1 h1=>tA (b6y _ (by omega)) λz2 h2=>tA (d18 _ (by omega)) λz3 h3=>?_;rw[p6 (by omega),qA];exact go _ (by rw[qL];omega)
def e4v(l:O aQ)(g:O gQ)(sc:O Scheme)(b:Int)(hl:l.length<=1000)(hg:g.length<=1000)(hs:sc.length<=10)(hv:∀x∈sc,x.Version.Credits.length<=2^30):Tot (a7e l g sc b) λr=>r.1.length<=sc.length*(g.length+6*l.length)/\∀p∈r.1,∃x∈sc,p.State=x.State:=by
 unfold a7e;simp only[a1z,qA];refine tD (λ_=>tC (by simp)) λ_=>?_;refine tO (I:=λv:Int=>0<=v/\v<=(sc.length:Int)) (μ:=λv=>((sc.length:Int)-v).toNat) ⟨by omega,by omega⟩ (by omega) ?_;rintro r v⟨g1,g2⟩ih;refine tD (λhc=>?_) λ_=>?_
 .simp at hc;refine tA (c6 g1 hc) λx _=>?_;refine tA (Q:=λ_=>True) (orT (tA (Q:=λ_=>True) (tD (λhv=>?_) λ_=>tC trivial) λ_ _=>tC trivial)) λ_ _=>tD (λ_=>tC (by simp)) λ_=>?_;.simp at hv;rw[e9 (n:=v-1) (by omega) (by omega)];exact tA (c6 (by omega) (by omega)) λ_ _=>tC trivial
  .rw[a42 g1 (by omega)];exact ih _ ⟨by omega,by omega⟩ (by omega)
 .refine tH sc (λ(o:O Period)i=>(o,([]:O Period),(⟨0,b⟩:Span),i)) (λo i=>o.length<=i*(g.length+6*l.length)/\∀p∈o,∃x∈sc,p.State=x.State) (by omega) (λrec o i x hi hx hI ih2=>?_) (λrec o hI=>?_) [] (by simp)
  .obtain⟨hI,hS⟩:=hI;have hxm:=qE hx;have hB:i*(g.length+6*l.length)<=10*7000:=Nat.mul_le_mul (by omega) (by omega);rw[if_pos (o6 hi)];simp only[e7 hx,qA];refine tA (e5e g _ _ (by omega)) λu hu=>tA (b6y _ (by omega)) λc hc=>tA (e9q _ _ _ _ _ (by omega) (by omega)) λo1 ho1=>?_;unfold b3o;rw[qA];refine tH [(⟨6,2⟩:Anon195),(⟨9,3⟩:Anon195),(⟨7,4⟩:Anon195),(⟨8,5⟩:Anon195),(⟨10,6⟩:Anon195),(⟨5,7⟩:Anon195)] (λ(o:O Period)k=>(o,([]:O Period),(⟨0,b⟩:Span),x,[(⟨6,2⟩:Anon195),(⟨9,3⟩:Anon195),(⟨7,4⟩:Anon195),(⟨8,5⟩:Anon195),(⟨10,6⟩:Anon195),(⟨5,7⟩:Anon195)],k,())) (λo k=>o.length<=o1.2.length+k*l.length/\∀p∈o,∃x∈sc,p.State=x.State) (by simp) (λrec3 q k y hk hy hI3 ih3=>?_) (λrec3 q hI3=>?_) o1.2 ⟨by simp,λp hp=>(ho1.2 p hp).elim (hS p) λe=>⟨x,hxm,e⟩⟩
   .have hk6:k<6:=by omega
    have hkl:k*l.length<=6*1000:=Nat.mul_le_mul (by omega) hl;have hks:(k+1)*l.length=k*l.length+l.length:=Nat.succ_mul _ _;rw[if_pos (o6 hk)];simp only[e7 hy,qA];obtain⟨hI3,hS3⟩:=hI3;have ho1:=ho1.1;have keep:=ih3 q ⟨by omega,hS3⟩;have put:∀d:O Span,d.length<=l.length->Tot (Option.bind (a1s y.rank d [] x q) λv34=>rec3 (v34.2,[],(⟨0,b⟩:Span),x,[(⟨6,2⟩:Anon195),(⟨9,3⟩:Anon195),(⟨7,4⟩:Anon195),(⟨8,5⟩:Anon195),(⟨10,6⟩:Anon195),(⟨5,7⟩:Anon195)],i64 ((k:Int)+1),())) λr=>r.1.length<=sc.length*(g.length+6*l.length)/\∀p∈r.1,∃x∈sc,p.State=x.State:=λd hd=>tA (e9q _ _ _ _ _ (by omega) (by omega)) λz hz=>ih3 z.2 ⟨by omega,λp hp=>(hz.2 p hp).elim (hS3 p) λe=>⟨x,hxm,e⟩⟩;refine tA (e53 _ _ (hv x (qE hx))) λcr _=>tD (λ_=>keep) λ_=>tA (e59 l _ _ hl) λd hd=>tA (b6y _ (by omega)) λe he=>tA (Q:=λ_=>True) (tD (λ_=>tC trivial) λ_=>tC trivial) λ_ _=>tD (λ_=>tA (e0n l _ _ _ hl) λf hf=>put f hf) λ_=>tD (λ_=>tA (d18 _ (by omega)) λf hf=>put f (by omega)) λ_=>put e (by omega)
   .refine ih2 q ⟨?_,hI3.2⟩;have h6:q.length<=o1.2.length+6*l.length:=hI3.1;have ho1:=ho1.1;rw[Nat.succ_mul];omega
  .rw[if_neg (g9 _)];exact tC hI
abbrev Bd:=Ar 6 (Ar 7 (O Span))
def f3g(b:Bd)(n:Nat):Prop:=∀r∈b.l,∀x∈r.l,x.length<=n
def b6b{α:Type}{l:O α}{i:Int}{y x:α}(h:x∈a8h l i y):x=y\/x∈l:=by unfold a8h at h;grind
def c47{n:Nat}{α:Type}(a:Ar n α){i:Int}(h0:0<=i)(h1:i<(n:Int)):Tot (c7 a.l i) λx=>x∈a.l:=c6 h0 (by rw[a.h];omega)
def k59{n:Nat}{α:Type}(a:Ar n α){i:Int}(h0:0<=i)(h1:i<(n:Int)):∃x,c7 a.l i=some x/\x∈a.l:=by obtain⟨x,h,hm⟩:=c47 a h0 h1;exact⟨x,h,hm⟩
def k4t{α:Type}{l:O α}{i j:Int}{y z:α}(hi:0<=i)(h:c7 (a8h l i y) j=some z):(j=i/\z=y)\/c7 l j=some z:=by
 unfold c7 a8h at*;split at h
 .rename_i hj;by_cases e:j=i;.subst e;rw[List.getElem?_set]at h;simp at h;exact .inl ⟨rfl,by grind⟩
  .rw[List.getElem?_set_ne (by omega)]at h;simp_all
 .cases h
def BdS(b:Bd)(c:O Period):Prop:=∀(s k:Int)(row:Ar 7 (O Span))(x:O Span),c7 b.l s=some row->c7 row.l k=some x->x≠[]->∃p∈c,p.State=s
def e1u(c:O Period)(hc:c.length<=2^20):Tot (b2x c) λo=>∃b:Bd,o=some b/\f3g b c.length/\BdS b c:=by
 unfold b2x lpC;have z:f3g (arZ 6 (arZ 7 []:Ar 7 (O Span))) c.length:=λr hr x hx=>by have e1:r=arZ 7 []:=eq_of_mem_replicate hr;subst e1;have e2:x=[]:=eq_of_mem_replicate hx;simp_all
 have zs:BdS (arZ 6 (arZ 7 []:Ar 7 (O Span))) c:=λs k row x h1 h2 hx=>by
  unfold c7 at h1 h2;split at h1
  .split at h2;.have e1:row=arZ 7 []:=eq_of_mem_replicate (qE h1);subst e1;exact absurd (eq_of_mem_replicate (qE h2)) hx
   .cases h2
  .cases h1
 refine tO (I:=λv:Bd×Int=>(f3g v.1 c.length/\BdS v.1 c)/\0<=v.2/\v.2<=6) (μ:=λv=>(6-v.2).toNat) ⟨⟨z,zs⟩,Int.le_refl _,by omega⟩ (by omega) ?_;rintro r⟨b,s⟩⟨g0,g1,g2⟩ih;refine tD (λhs=>?_) λ_=>tC ⟨b,rfl,g0⟩;simp at hs;refine tO (I:=λv:Bd×Int=>(f3g v.1 c.length/\BdS v.1 c)/\0<=v.2/\v.2<=7) (μ:=λv=>(7-v.2).toNat) ⟨g0,Int.le_refl _,by omega⟩ (by omega) ?_;rintro r2⟨b2,k⟩⟨k0,k1,k2⟩ih2;refine tD (λhk=>?_) λ_=>?_
 .simp at hk;refine tA (g6g c _ _ (by omega)) λx hx=>?_;obtain⟨row,er,hr⟩:=k59 b2 g1 hs;simp only[er,qA];have hin:d0n 7 k=some ():=by unfold d0n;rw[if_pos (by omega)]
  rw[hin,qA,a42 k1 (by omega)];refine ih2 _ ⟨⟨λr3 hr3 y hy=>?_,λs' k' row' x' h1 h2 hne=>?_⟩,by omega,by omega⟩ (by omega);rotate_left
  .rcases k4t g1 (show c7 (a8h b2.l s (Ar.set row k x)) s'=some row' from h1)with⟨e,e2⟩|e
   .subst e e2;rcases k4t k1 (show c7 (a8h row.l k x) k'=some x' from h2)with⟨e,e2⟩|e;.subst e e2;exact hx.2.2 hne
    .exact k0.2 _ _ _ _ er e hne
   .exact k0.2 _ _ _ _ e h2 hne
  rcases b6b (show r3∈a8h b2.l s (Ar.set row k x)from hr3)with e|e
  .subst e;rcases b6b (show y∈a8h row.l k x from hy)with e|e;.subst e;omega
   .exact k0.1 row hr y e
  .exact k0.1 r3 e y hy
 .rw[a42 g1 (by omega)];exact ih _ ⟨k0,by omega,by omega⟩ (by omega)
section
variable {b:Bd} {n:Nat} {c:O Period}
def d3v(hb:f3g b n)(hS:BdS b c)(hn:n<=2^20)(d:Int):Tot (a4a b d) λr=>r.1≠0->r.2≠[]/\r.2.length<=100/\∀x∈r.2,(0<=x/\x<6)/\∃p∈c,p.State=x:=by
 unfold a4a lpC;refine tO (I:=λv:O Int×Int=>0<=v.2/\v.2<=7/\(v.1.length:Int)<=6*v.2/\∀x∈v.1,(0<=x/\x<6)/\∃p∈c,p.State=x) (μ:=λv=>(7-v.2).toNat) ⟨Int.le_refl _,by omega,by simp_all,by simp⟩ (by omega) ?_;rintro r⟨o,k⟩⟨g1,g2,g3,g4⟩ih;dsimp only at g1 g2 g3 g4⊢;refine tD (λhk=>?_) λ_=>tC λh=>absurd rfl h;simp at hk;refine tO (I:=λv:O Int×Int=>0<=v.2/\v.2<=6/\(v.1.length:Int)<=6*k+v.2/\∀x∈v.1,(0<=x/\x<6)/\∃p∈c,p.State=x) (μ:=λv=>(6-v.2).toNat) ⟨Int.le_refl _,by omega,by show(o.length:Int)<=6*k+0;omega,g4⟩ (by omega) ?_;rintro r2⟨o2,s⟩⟨k1,k2,k3,k4⟩ih2;dsimp only at k1 k2 k3 k4⊢;refine tD (λhs=>?_) λ_=>?_
 .simp at hs;obtain⟨row,er,hr⟩:=k59 b k1 hs;obtain⟨x,ex,hx⟩:=k59 row g1 hk;rw[er,qA,ex,qA];have:=hb row hr x hx;rw[c03 x d (by omega),qA,a42 k1 (by omega)];refine tD (λhcn=>?_) λ_=>ih2 _ ⟨by omega,by omega,by dsimp only;omega,k4⟩ (by omega);have hne:x≠[]:=by rintro rfl;simp[inB]at hcn
  rw[p6 (by simp only[qR,qS];omega),qA];refine ih2 _ ⟨by omega,by omega,by simp;omega,λy hy=>?_⟩ (by omega);rcases qK.1 hy with h|h;.exact k4 y h
  .rw[qF]at h;subst h;exact⟨⟨k1,hs⟩,hS _ _ _ _ er ex hne⟩
 .refine tD (λh=>tC λ_=>⟨?_,?_,k4⟩) λ_=>?_;.intro e;have e:o2=[]:=e;rw[e]at h;simp at h
  .dsimp only;omega
  .rw[a42 g1 (by omega)];exact ih _ ⟨by omega,by omega,by dsimp only;omega,k4⟩ (by omega)
def c1n(hb:f3g b n)(hn:n<=2^20){s:Int}(h0:0<=s)(h1:s<6)(d:Int):Tot (a1b b s d) λ_=>True:=by refine tA (c47 b h0 h1) λrow hr=>tA (c47 row (by omega) (by omega)) λx hx=>?_;have:=hb row hr x hx;exact tA (b6y _ (by omega)) λz hz=>tA (e41 (by omega)) λ_ _=>tD (λ_=>tC trivial) λ_=>tC trivial
def c54(hb:f3g b n)(hn:n<=2^20){s:Int}(h0:0<=s)(h1:s<6)(d:Int):Tot (a2f b s d) λ_=>True:=by refine tA (c47 b h0 h1) λrow hr=>tA (c47 row (by omega) (by omega)) λx hx=>?_;have:=hb row hr x hx;exact tA (b6y _ (by omega)) λz hz=>tA (g3h _ (by omega)) λ_ _=>tD (λ_=>tC trivial) λ_=>tC trivial
def d9b(hb:f3g b n)(hn:n<=2^20)(l:O Int)(hl:l≠[])(hll:l.length<=100)(hr:∀x∈l,0<=x/\x<6)(d:Int):Tot (a69 b l d) λr=>r∈l:=by
 have hp:0<l.length:=List.length_pos_iff.2 hl;refine tA (c6 (by omega) (by omega)) λz hz=>?_;rw[b26 (by omega) (by omega) (by omega),qA];have hsub:∀x∈(l.drop (1:Int).toNat).take ((l.length:Int).toNat-(1:Int).toNat),x∈l:=λx hx=>mem_of_mem_drop (mem_of_mem_take hx);have hq:((l.drop (1:Int).toNat).take ((l.length:Int).toNat-(1:Int).toNat)).length<=100:=by rw[List.length_take,List.length_drop];omega
 generalize(l.drop (1:Int).toNat).take ((l.length:Int).toNat-(1:Int).toNat)=q at hsub hq;refine tH q (λ(s:Int)i=>(s,i)) (λs _=>s∈l) (by omega) (λrec s i y hi hy hI ih=>?_) (λrec s hI=>?_) z hz;.dsimp only;rw[if_pos (o6 hi)];simp only[e7 hy,qA];have hy1:=hsub y (qE hy);have hy2:=hr y hy1;have hI2:=hr s hI;exact tA (c1n hb hn hy2.1 hy2.2 d) λ_ _=>tA (c1n hb hn hI2.1 hI2.2 d) λ_ _=>tD (λ_=>ih y hy1) λ_=>ih s hI
 .dsimp only;rw[if_neg (g9 _)];have hI2:=hr s hI;refine tA (c1n hb hn hI2.1 hI2.2 d) λ_ _=>tD (λ_=>tC hI) λ_=>?_;refine tH l (λ(s:Int)i=>(s,i)) (λs _=>s∈l) (by omega) (λrec2 s i y hi hy hI ih=>?_) (λrec2 s hI=>?_) s hI;.rw[if_pos (o6 hi)];simp only[e7 hy,qA];have hy1:=qE hy;have hy2:=hr y hy1;have hI2:=hr s hI;exact tA (c54 hb hn hy2.1 hy2.2 d) λ_ _=>tA (c54 hb hn hI2.1 hI2.2 d) λ_ _=>tD (λ_=>ih y hy1) λ_=>ih s hI
  .rw[if_neg (g9 _)];exact tC hI
def g5z(hb:f3g b n)(hS:BdS b c)(hn:n<=2^20)(d:Int):Tot (b17 b d) λr=>r.2.2=true->∃p∈c,p.State=r.1:=by refine tA (d3v hb hS hn d) λr hr=>tD (λ_=>tC λh=>by cases h) λh=>?_;obtain⟨h1,h2,h3⟩:=hr (by simp_all);exact tA (d9b hb hn _ h1 h2 (λx hx=>(h3 x hx).1) d) λq hq=>tC λ_=>(h3 q hq).2
def CoS(c:O Period)(u:nQ):Prop:=(0<=u.Span.From/\u.Span.From<u.Span.To/\u.Span.To<=73049)/\∃p∈c,p.State=u.State
def g1x(hb:f3g b n)(hS:BdS b c)(hn:n<=2^20)(f t:Int)(hft:f<t->0<=f/\t<=73049)(z o:O nQ)(ho:o.length<=2^30)(hoS:∀u∈o,CoS c u):Tot (a72 f t b z o) λr=>r.2.length<=o.length+1/\∀u∈r.2,CoS c u:=by
 refine tA (g5z hb hS hn f) λq hq=>?_;simp only[a1z,qA];refine tD (λ_=>tC ⟨by simp,hoS⟩) λhc=>?_;simp at hc;have hq:=hq hc.1;have h0:=hft hc.2;rcases h1f o with e|⟨A,y,e⟩;.subst e;have e0:decide ((([]:O nQ).length:Int)>0)=false:=rfl;exact tC ⟨by simp,λu hu=>by simp at hu;subst hu;exact⟨⟨h0.1,hc.2,h0.2⟩,hq⟩⟩
 .subst e;have hy:=hoS y (by simp);have hA2:(A++[y]).length=A.length+1:=by simp
  have hA:A.length<2^62:=by omega
  have e0:decide (((A++[y]).length:Int)>0)=true:=by simp
  have gl:c7 (A++[y]) (i64 (((A++[y]).length:Int)-1))=some y:=d3s A y hA;simp only[e0,if_true,gl,qA];have el:i64 (((A++[y]).length:Int)-1)=(A.length:Int):=by rw[qL];simp only[qR,qS];rw[e9 (by omega) (by omega)];omega
  refine tD (λhcn=>?_) λ_=>?_
  .simp at hcn;rw[el,b26 (by omega) (by omega) (by omega),qA];have:(((A++[y]).drop (0:Int).toNat).take ((A.length:Int).toNat-(0:Int).toNat)).length<=A.length:=by rw[List.length_take];omega
   rw[p6 (by simp only[qR,qS];omega),qA];refine tC ⟨by simp,λu hu=>(b4a hu).elim (λhu=>hoS u (by simp at hu;simp[hu])) λe=>?_⟩;subst e;have hy1:=hy.1;have hc2:=hc.2;exact⟨⟨hy1.1,by dsimp only;omega,h0.2⟩,hq⟩
  .rw[p6 (by grind),qA];refine tC ⟨by simp,λu hu=>(b4a hu).elim (hoS u) λe=>?_⟩;subst e;exact⟨⟨h0.1,hc.2,h0.2⟩,hq⟩
end
def deF(p:Int):O Int->O Int|[]=>[]|y::r=>if y=p then deF p r else y::deF y r
def de:O Int->O Int|[]=>[]|x::r=>x::deF x r
def d55:∀(A:O Int)(p y z:Int),deF p (A++[y,z])=if z=y then deF p (A++[y])else deF p (A++[y])++[z]
 |[],p,y,z=>by simp only[List.nil_append,deF];grind|x::A,p,y,z=>by
   simp only[List.cons_append,deF];split;.exact d55 A p y z
   .rw[d55 A x y z];grind
def g5p(A:O Int)(y z:Int):de (A++[y,z])=if z=y then de (A++[y])else de (A++[y])++[z]:=by cases A with|nil=>simp only[List.nil_append,de,deF];grind|cons x A=>simp only[List.cons_append,de];rw[d55];grind
def e9i{l:O Int}{m:Nat}(h0:0<m){y z:Int}(hy:l[m-1]?=some y)(hz:l[m]?=some z):de (l.take (m+1))=if z=y then de (l.take m)else de (l.take m)++[z]:=by
 obtain⟨hm,hz'⟩:=qD.1 hz;obtain⟨hm1,hy'⟩:=qD.1 hy;have e1:l.take m=l.take (m-1)++[y]:=by have:=List.take_succ_eq_append_getElem (l:=l) (i:=m-1) hm1;grind
 have e2:l.take (m+1)=l.take (m-1)++[y,z]:=by rw[List.take_succ_eq_append_getElem hm,hz',e1];simp
 rw[e2,e1,g5p]
def e13:∀(r:O Int)(p x:Int),x∈p::deF p r↔x∈p::r
 |[],p,x=>Iff.rfl|y::r,p,x=>by
   simp only[deF];split;.rename_i h;rw[e13 r p x,h];simp
   .have:=e13 r y x;simp_all
def h0k(l:O Int)(x:Int):x∈de l↔x∈l:=by cases l with|nil=>exact Iff.rfl|cons y r=>exact e13 r y x
def d15(l:O Int)(hl:l.length<=1073741824)(k:Nat)(hk1:1<=k)(h:k<l.length)(htk:de (l.take (k+1))=l.take k)(m:Nat)(hsl:m=l.length-k):∃r,d9 FU a1r (l,(k:Int),1,((k:Int),m))=some r/\r=de l:=by
 refine b9s (f:=a1r) (λs=>∃(k3 k2:Nat)(cur:O Int),s=(cur,(k3:Int),(k2:Int),((k:Int),m))/\1<=k2/\k+k2<=l.length/\k<=k3/\k3+1<=k+k2/\cur.length=l.length/\cur.take k3=de (l.take (k+k2))/\∀j,k+k2-1<=j->cur[j]?=l[j]?) (λs=>l.length-s.2.2.1.toNat) _ ⟨k,1,l,rfl,by omega,by omega,by omega,by omega,rfl,htk.symm,λ_ _=>rfl⟩ (by omega) ?_;rintro s rec2⟨k3,k2,cur,rfl,a1,a2,a3,a4,hcl,hct,hcj⟩;unfold a1r;by_cases hlt:k+k2<l.length
 .right;have hz2:l[k+k2]?=some l[k+k2]:=qG hlt;have hy2:l[k+k2-1]?=some l[k+k2-1]:=qG (by omega);have w1:c7 cur ((k:Int)+(k2:Int))=some l[k+k2]:=by rw[<-Int.natCast_add,b4c,hcj _ (by omega),hz2]
  have v1:c72 cur (k:Int) (k2:Int)=some l[k+k2]:=by unfold c72;grind
  have e2:i64 ((k2:Int)-1)=((k2-1:Nat):Int):=by rw[e9 (by omega) (by omega)];omega
  have w2:c7 cur ((k:Int)+((k2-1:Nat):Int))=some l[k+k2-1]:=by rw[<-Int.natCast_add,b4c,show k+(k2-1)=k+k2-1by omega,hcj _ (Nat.le_refl _),hy2]
  have v2:c72 cur (k:Int) ((k2-1:Nat):Int)=some l[k+k2-1]:=by unfold c72;rw[if_pos (by omega),w2]
  have v3:c7 cur (k3:Int)=some (cur[k3]'(by omega)):=by exact qG _
  have ht2:=e9i (by omega) hy2 hz2;have e3:i64 ((k2:Int)+1)=((k2+1:Nat):Int):=by rw[e9 (by omega) (by omega)];simp
  have e4:i64 ((k3:Int)+1)=((k3+1:Nat):Int):=by rw[e9 (by omega) (by omega)];simp
  have hd0:decide ((k2:Int)<(m:Int))=true:=decide_eq_true (by omega);simp only[hd0,if_true,v1,w1,e2,v2,w2,qA,v3,e3,e4];by_cases hq:l[k+k2]=l[k+k2-1];.rw[if_neg (by simpa using hq)];rw[if_pos hq]at ht2;exact⟨_,rfl,⟨k3,k2+1,cur,rfl,by omega,by omega,a3,by omega,hcl,by rw[hct,<-ht2];rfl,λj hj=>hcj j (by omega)⟩,by simp only[Int.toNat_natCast];omega⟩
  .rw[if_pos (by simpa using hq)];rw[if_neg hq]at ht2;refine⟨_,rfl,⟨k3+1,k2+1,a8h cur (k3:Int) l[k+k2],rfl,by omega,by omega,by omega,by omega,by rw[a34];omega,?_,λj hj=>?_⟩,by simp only[Int.toNat_natCast];omega⟩
   .have:a8h cur (k3:Int) l[k+k2]=cur.set k3 l[k+k2]:=by unfold a8h;rw[if_pos (by omega),Int.toNat_natCast]
    rw[this,List.take_succ_eq_append_getElem (by rw[length_set];omega)];have h5:(cur.set k3 l[k+k2]).take k3=cur.take k3:=by rw[List.take_set,set_eq_of_length_le (by rw[List.length_take];omega)]
    rw[h5,hct,show k+(k2+1)=k+k2+1by omega,ht2];simp
   .have:a8h cur (k3:Int) l[k+k2]=cur.set k3 l[k+k2]:=by unfold a8h;rw[if_pos (by omega),Int.toNat_natCast]
    rw[this,List.getElem?_set_ne (by omega)];exact hcj j (by omega)
 .left;have hd0:decide ((k2:Int)<(m:Int))=false:=decide_eq_false (by omega);simp only[hd0,qM,if_false];have hcc:(b5l 0 cur (k3:Int)).length=cur.length:=by unfold b5l;simp;omega
  rw[b26 (by omega) (by omega) (by omega),qA];unfold h1h;rw[if_pos (by simp;omega),qA,b26 (by omega) (by omega) (by omega),qA];refine⟨_,rfl,?_⟩;have hkk:k+k2=l.length:=by omega
  rw[hkk,List.take_length]at hct;rw[<-hct];unfold b5l;simp only[Int.toNat_natCast,Int.toNat_zero,List.drop_zero,Nat.sub_zero];rw[List.take_append_of_le_length (by rw[List.length_take];omega),List.take_take,Nat.min_self]
def d4m(l:O Int)(hl:l.length<=1073741824)(rec:O Int×Int->A3 (O Int))(k:Nat)(hk1:1<=k)(h:k<l.length):a0c rec (l,(k:Int))=if l[k]=l[k-1]then d9 FU a1r (l,(k:Int),1,((k:Int),((l.drop k).take (l.length-k)).length))else rec (l,((k+1:Nat):Int)):=by
 have hz:c7 l (k:Int)=some l[k]:=by rw[b4c];simp_all
 have e1:i64 ((k:Int)-1)=((k-1:Nat):Int):=by rw[e9 (by omega) (by omega)];omega
 have hy:c7 l (i64 ((k:Int)-1))=some l[k-1]:=by rw[e1,b4c];simp_all
 have hs:a1x l (k:Int) (l.length:Int)=some ((l.drop k).take (l.length-k)):=by rw[b26 (by omega) (by omega) (by omega)];simp
 have e2:i64 ((k:Int)+1)=((k+1:Nat):Int):=by rw[e9 (by omega) (by omega)];simp
 have hd0:decide ((k:Int)<(l.length:Int))=true:=decide_eq_true (by omega);unfold a0c;grind
def d7l(l:O Int)(rec:O Int×Int->A3 (O Int)):a0c rec (l,(l.length:Int))=some l:=by unfold a0c;simp_all
def b98(l:O Int)(hl:l.length<=1073741824):a0n l=some (de l):=by
 unfold a0n;by_cases h2:l.length<2;.cases l with|nil=>rfl|cons x r=>cases r with|nil=>rfl|cons y r=>grind
 .rw[if_neg (by grind)];obtain⟨r,h1,h3⟩:=b9s (f:=a0c) (λs=>∃k:Nat,s=(l,(k:Int))/\1<=k/\k<=l.length/\de (l.take k)=l.take k) (λs=>l.length-s.2.toNat) (λr=>r=de l) (s:=(l,1)) ⟨1,rfl,by omega,by omega,by cases l with|nil=>rfl|cons x r=>rfl⟩ (Nat.lt_of_le_of_lt (Nat.sub_le _ _) (Nat.lt_of_le_of_lt hl (by decide))) (by
   rintro s rec⟨k,rfl,hk1,hk,hd⟩;by_cases h:k<l.length
   .have htk:=e9i (l:=l) (m:=k) (by omega) (qG (by omega)) (qG h);rw[d4m l hl rec k hk1 h];by_cases heq:l[k]=l[k-1];.left;rw[if_pos heq];rw[if_pos heq,hd]at htk;exact d15 l hl k hk1 h htk _ (by simp_all)
    .right;rw[if_neg heq];refine⟨_,rfl,⟨k+1,rfl,by omega,h,?_⟩,by omega⟩;simp_all
   .have:k=l.length:=by omega
    subst this;rw[d7l];simp_all);simp_all
def e9n(a b:O Int)(ha:a.length<=2^30):Tot (a88 a b) λ_=>True:=by
 refine tD (λ_=>tC trivial) λh=>?_;have hl:(a.length:Int)=b.length:=by simp_all
 refine tH a (λ(_:Unit)i=>i) (λ_ _=>True) (by omega) (λrec s i y hi hy _ ih=>?_) (λrec s _=>?_) () trivial;.unfold a8x;rw[if_pos (o6 hi),e7 hy,qA];exact tA (c6 (by omega) (by omega)) λ_ _=>tD (λ_=>tC trivial) λ_=>ih () trivial
 .unfold a8x;rw[if_neg (g9 _)];exact tC trivial
def g0g(s:O Int):(de s).length<=s.length:=by
 have hd:∀(r:O Int)(p:Int),(deF p r).length<=r.length:=by intro r;induction r with|nil=>intro p;exact Nat.le_refl _|cons y r ih=>simp only[deF];grind
 cases s with|nil=>simp[de]|cons x r=>have:=hd r x;simp only[de,qR]at*;omega
def k4k:∀{r:O Int}{p:Int},(p::r).Pairwise (.<=.)->(p::deF p r).Pairwise (.<.)
 |[],p,_=>by simp[deF]|y::r,p,h=>by
   obtain⟨h1,h2⟩:=List.pairwise_cons.1 h;simp only[deF];split;.rename_i e;subst e;exact k4k h2
   .rename_i e;have h3:=k4k h2;refine List.pairwise_cons.2 ⟨λx hx=>?_,h3⟩;have:=h1 y (by simp);rcases qO.1 hx with rfl|hx;.omega
    .have:=(List.pairwise_cons.1 h3).1 x hx;omega
def l0a{l:O Int}(h:l.Pairwise (.<=.)):(de l).Pairwise (.<.):=by cases l with|nil=>simp[de]|cons x r=>exact k4k h
def SpI(s:Span):Prop:=0<=s.From/\s.From<s.To/\s.To<=73049
def e5k(a:O (O Span))(n:Nat)(ha:a.length<=42)(hn:n<=10000)(hx:∀x∈a,x.length<=n):Tot (b7w a) λr=>r.length<=1000000/\∀p∈r,SpI p.Span:=by
 unfold b7w mkI;rw[if_pos ⟨by omega,rfl,by omega,by omega⟩,qA];refine tH a (λ(q:O (O Span)×O Int)i=>(q.1,q.2,i)) (λq i=>q.1.length=a.length/\(∀x∈q.1,x.length<=n/\Nrm x)/\q.2.length<=i*(2*n)/\∀x∈q.2,0<=x/\x<=73049) (by omega) (λrec q i y hi hy hI ih=>?_) (λrec q hI=>?_) (List.replicate (a.length:Int).toNat [],[]) ⟨by simp,λx hx=>by rw[eq_of_mem_replicate hx];exact⟨Nat.zero_le _,d9x⟩,by simp,by simp⟩
 .obtain⟨i1,i2,i3,i4⟩:=hI;dsimp only;rw[if_pos (o6 hi)];simp only[e7 hy,qA];refine tA (b2p (by have:=hx y (qE hy);omega)) λz hz=>tA (c6 (by omega) (by omega)) λ_ _=>tA (c6 (by omega) (by omega)) λ_ _=>?_;have hsl:(a8h q.1 (i:Int) z).length=q.1.length:=a34 ..;have hsm:∀x∈a8h q.1 (i:Int) z,x.length<=n/\Nrm x:=λx hxx=>by
   rcases b6b hxx with e|e;.rw[e];have:=hx y (qE hy);exact⟨by omega,hz.1⟩
   .exact i2 x e
  refine tA (c6 (by omega) (by omega)) λ_ _=>tA (c6 (by omega) (by omega)) λw hw=>?_;have hwn:=(hsm w hw).2.1;have hwl:=(hsm w hw).1;have hB:i*(2*n)<=42*20000:=Nat.mul_le_mul (by omega) (by omega);refine tH w (λ(s:O Int)k=>(a8h q.1 (i:Int) z,s,k)) (λs k=>s.length<=i*(2*n)+2*k/\∀x∈s,0<=x/\x<=73049) (by omega) (λrec2 s k u hk hu hI2 ih2=>?_) (λrec2 s hI2=>?_) q.2 ⟨by omega,i4⟩;.rw[if_pos (o6 hk)];simp only[e7 hu,qA];rw[p6 (by simp only[qR,qS];omega),qA];have hu2:=hwn u (qE hu);exact ih2 _ ⟨by simp;omega,λx hx=>by simp at hx;rcases hx with hx|rfl|rfl<;>first|exact hI2.2 x hx|omega⟩
  .rw[if_neg (g9 _)];exact ih (a8h q.1 (i:Int) z,s) ⟨hsl.trans i1,hsm,by dsimp only;rw[Nat.succ_mul];omega,hI2.2⟩
 .obtain⟨i1,i2,i3,i4⟩:=hI;have hB:a.length*(2*n)<=42*20000:=Nat.mul_le_mul (by omega) (by omega);dsimp only;rw[if_neg (g9 _)];unfold b8s;rw[if_pos (by omega),qA];have hp:(b89 q.2).Perm q.2:=a8p _;have hsl:=hp.length_eq;rw[b98 _ (by omega),qA];have hcl:=g0g (b89 q.2);have hca:=l0a (e2r q.2);have hcr:∀x∈de (b89 q.2),0<=x/\x<=73049:=λx hx=>i4 x (hp.mem_iff.1 ((h0k _ _).1 hx));generalize de (b89 q.2)=c at hcl hca hcr;refine tO (I:=λv:O (O Span)×O Int×O Piece×Int=>v.1=q.1/\v.2.1=c/\0<=v.2.2.2/\v.2.2.2<=(c.length:Int)/\(v.2.2.1.length:Int)<=v.2.2.2/\∀p∈v.2.2.1,p.Members.length<=42/\SpI p.Span) (μ:=λv=>((c.length:Int)-v.2.2.2).toNat) ⟨rfl,rfl,Int.le_refl _,by simp_all,Int.le_refl _,by simp⟩ (by grind) ?_;rintro r⟨v20,v21,v22,k⟩⟨e1,e2,k1,k2,k3,k4⟩ih;dsimp only at e1 e2 k1 k2 k3 k4⊢;subst e1 e2;rw[a42 (x:=k) k1 (by omega)];refine tD (λhc=>?_) λ_=>tC ⟨by omega,λp hp=>(k4 p hp).2⟩;simp at hc;obtain⟨k,rfl⟩:=qT k1;have g1:v21[k]?=some v21[k]:=qG (by omega);have g2:v21[k+1]?=some v21[k+1]:=qG (by omega);have hx1:=hcr _ (qE g1);have hx2:=hcr _ (qE g2);have hx12:v21[k]<v21[k+1]:=List.pairwise_iff_getElem.1 hca k (k+1) (by omega) (by omega) (by omega);have g3:c7 v21 ((k:Int)+1)=some v21[k+1]:=by rw[<-g2,<-b4c];rfl
  rw[e7 g1,qA,qA,g3,qA,qA];generalize v21[k]=x1 at*;generalize v21[k+1]=x2 at*;have go:∀o:O Piece,(o.length:Int)<=k+1->(∀p∈o,p.Members.length<=42/\SpI p.Span)->Tot (r (q.1,v21,o,(k:Int)+1)) λr=>r.length<=1000000/\∀p∈r,SpI p.Span:=λo ho hm=>ih _ ⟨rfl,rfl,by dsimp only;omega,by dsimp only;omega,ho,hm⟩ (by dsimp only;omega);refine tH q.1 (λ(s:O Int×Piece)i=>(q.1,v21,v22,s.1,s.2,i)) (λs i=>s.1.length<=i/\s.2.Span=⟨x1,x2⟩) (by omega) (λrec3 s i y hi hy hI3 ih3=>?_) (λrec3 s hI3=>?_) ([],(⟨(⟨x1,x2⟩:Span),[]⟩:Piece)) ⟨by simp,rfl⟩;.rw[if_pos (o6 hi)];simp only[e7 hy,qA];rw[c03 y _ (by have:=(i2 y (qE hy)).1;omega),qA];refine tD (λ_=>?_) λ_=>ih3 (s.1,(⟨s.2.Span,[]⟩:Piece)) ⟨by dsimp only;omega,hI3.2⟩;rw[p6 (by simp only[qR,qS];omega),qA];exact ih3 (s.1++[(i:Int)],(⟨s.2.Span,[]⟩:Piece)) ⟨by simp;omega,hI3.2⟩
  .rw[if_neg (g9 _)];refine tD (λ_=>go v22 (by omega) k4) λ_=>?_;have put:Tot (Option.bind (a4n 40 v22 [(⟨s.2.Span,s.1⟩:Piece)]) λv49=>r (q.1,v21,v49,(k:Int)+1)) λr=>r.length<=1000000/\∀p∈r,SpI p.Span:=by
    rw[p6 (by simp only[qR,qS];omega),qA];refine go _ (by simp;omega) λp hp=>?_;rcases qK.1 hp with h|h;.exact k4 p h
    .rw[qF]at h;subst h;exact⟨by dsimp only;omega,by show SpI s.2.Span;rw[hI3.2];exact⟨hx1.1,hx12,hx2.2⟩⟩
   rcases h1f v22 with e|⟨A,y,e⟩;.subst e;have e0:decide ((([]:O Piece).length:Int)>0)=false:=rfl;simp only[e0,qM,if_false,qA];omega
   .subst e;have hA2:(A++[y]).length=A.length+1:=by simp
    have hA:A.length<2^62:=by omega
    have e0:decide (((A++[y]).length:Int)>0)=true:=by simp
    have gl:c7 (A++[y]) (i64 (((A++[y]).length:Int)-1))=some y:=d3s A y hA;simp only[e0,if_true,gl,qA];refine tA (Q:=λb=>b=true->y.Span.To=x1) (tD (λh=>?_) λ_=>tC λh=>by cases h) λb hb=>tD (λhbt=>?_) λ_=>put;.exact tA (e9n _ _ (by have:=(k4 y (by simp)).1;omega)) λ_ _=>tC λ_=>by simp at h;rw[hI3.2]at h;exact h
    .rw[d3y A y _ hA];refine go _ (by simp at k3⊢;omega) λp hp=>?_;rcases qK.1 hp with h|h;.exact k4 p (by simp[h])
     .rw[qF]at h;subst h;obtain⟨m1,m2⟩:=k4 y (by simp);have m3:=hb hbt;unfold SpI at m2;refine⟨m1,?_⟩;show SpI ⟨y.Span.From,s.2.Span.To⟩;rw[hI3.2];exact⟨m2.1,by dsimp only;omega,hx2.2⟩
def e1m(c:O Period)(hc:c.length<=10000):Tot (a71 c) λr=>r.length<=2000000/\∀u∈r,CoS c u:=by
 refine tA (e1u c (by omega)) λo ho=>?_;obtain⟨b,rfl,hb,hS⟩:=ho;refine tO (I:=λv:Bd×O (O Span)×Int=>v.1=b/\0<=v.2.2/\v.2.2<=6/\(v.2.1.length:Int)<=7*v.2.2/\∀x∈v.2.1,x.length<=c.length) (μ:=λv=>(6-v.2.2).toNat) ⟨rfl,Int.le_refl _,by simp_all,by simp_all,by simp⟩ (by simp_all) ?_;rintro r⟨b2,l,k⟩⟨rfl,g1,g2,g3,g4⟩ih;dsimp only at g1 g2 g3 g4⊢;refine tD (λhk=>?_) λ_=>?_
 .simp at hk;refine tA (c47 b2 g1 hk) λrow hr=>?_;have h7:row.l.length=7:=row.h;rw[p6 (by omega),qA,a42 g1 (by omega)];refine ih _ ⟨rfl,by dsimp only;omega,by dsimp only;omega,by dsimp only;rw[qL];omega,λx hx=>?_⟩ (by dsimp only;omega);rcases qK.1 hx with h|h;.exact g4 x h
  .exact hb row hr x h
 .refine tA (e5k l c.length (by omega) hc g4) λp hp=>?_;refine tH p (λ(s:O nQ)i=>(b2,s,([]:O nQ),p,i,())) (λs i=>s.length<=2*i/\∀u∈s,CoS c u) (by omega) (λrec s i y hi hy hI ih2=>?_) (λrec s hI=>?_) [] (by simp);.rw[if_pos (o6 hi)];simp only[e7 hy,qA];have hy2:=hp.2 y (qE hy);unfold SpI at hy2;have hpl:=hp.1;have hI1:=hI.1;have e1:i64 (y.Span.From+1)=y.Span.From+1:=e9 (by omega) (by omega);rw[e1];refine tA (g1x hb hS (by omega) _ _ (λ_=>by omega) _ _ (by omega) hI.2) λq hq=>?_;have hq1:=hq.1;exact tA (g1x hb hS (by omega) _ _ (λ_=>by omega) _ _ (by omega) hq.2) λq2 hq2=>ih2 q2.2 ⟨by have:=hq2.1;omega,hq2.2⟩
  .dsimp only;rw[if_neg (g9 _)];exact tC ⟨by have:=hp.1;have:=hI.1;omega,hI.2⟩
def c7f(s:Span)(d:Int):Bool:=decide (s.From<=d)&&decide (d<s.To)
def c9s(s:Span)(d:Int):a4l s d=some (c7f s d):=by unfold a4l c7f;grind
def c6g(l:O Int)(x:Int)(hl:l.length<=2^30):q9 l x=some (l.any λy=>x==y):=by
 obtain⟨n,h1,h2⟩:=c5d (f:=a06 l x) l (λy=>x==y) hl (λrec i y hy=>by have hi:=(qD.1 hy).1;unfold a06;rw[if_pos (o6 hi)];simp only[e7 hy,qA]) λrec=>by unfold a06;simp_all
 unfold q9 a4p;simp_all
def d5w{α σ ρ:Type}{f:(σ->A3 ρ)->σ->A3 ρ}(l:O α)(p:α->Bool)(e:α×Bool->Int->σ)(out:α×Bool->A3 ρ)(z:α)(hl:l.length<=2^30)(h0:∀(rec:σ->A3 ρ)(s:α×Bool)(i:Nat)(y:α),l[i]?=some y->p y=false->f rec (e s (i:Int))=rec (e s (i64 ((i:Int)+1))))(h1:∀(rec:σ->A3 ρ)(s:α×Bool)(i:Nat)(y:α),l[i]?=some y->p y=true->f rec (e s (i:Int))=rec (e (y,true) (i64 ((i:Int)+1)))\/(s.2=true/\f rec (e s (i:Int))=rec (e s (i64 ((i:Int)+1)))))(hfin:∀(rec:σ->A3 ρ)(s:α×Bool),f rec (e s (l.length:Int))=out s):∃s,d9 FU f (e (z,false) 0)=out s/\(s.2=true↔∃y∈l,p y=true)/\(s.2=true->s.1∈l/\p s.1=true):=by
 refine a9k (f:=f) l e (λs i=>(s.2=true↔∃y∈l.take i,p y=true)/\(s.2=true->s.1∈l/\p s.1=true)) (λo=>∃s,o=out s/\(s.2=true↔∃y∈l,p y=true)/\(s.2=true->s.1∈l/\p s.1=true)) (by omega) ?_ ?_ (z,false) ⟨by simp,by simp⟩
 .rintro rec s i y hi hy⟨a,b⟩
  right;cases hp:p y with|false=>
    rw[h0 rec s i y hy hp,a5g (by omega)];refine⟨s,rfl,?_,b⟩;rw[a,a9h hy];constructor;.rintro⟨u,h,h'⟩;exact⟨u,by simp[h],h'⟩
    .rintro⟨u,h,h'⟩;rcases qK.1 h with h|h;.exact⟨u,h,h'⟩
     .rw[qF]at h;subst h;rw[hp]at h';cases h'|true=>
    have hex:∃u∈l.take (i+1),p u=true:=⟨y,by rw[a9h hy];simp,hp⟩;rcases h1 rec s i y hy hp with h|⟨h,h'⟩;.rw[h,a5g (by omega)];exact⟨(y,true),rfl,⟨λ_=>hex,λ_=>rfl⟩,λ_=>⟨qE hy,hp⟩⟩
    .rw[h',a5g (by omega)];exact⟨s,rfl,⟨λ_=>hex,λ_=>h⟩,b⟩
 .rintro rec s⟨a,b⟩;rw[List.take_length]at a;exact⟨s,hfin rec s,a,b⟩
def f8v(L:lQ)(d:Int)(ks:O Int)(hl:L.facts.length<=2^30)(hk:ks.length<=2^30):a2j L d ks=some (L.facts.filter λu=>(ks.any λy=>u.Kind==y)&&c7f u.Span d):=by
 refine c38 (k:=112) L.facts _ hl (by omega) (λrec s i y hy=>?_) λrec s=>?_;.have hi:=(qD.1 hy).1;unfold a9u;rw[if_pos (o6 hi)];simp only[e7 hy,qA,c6g ks _ hk,c9s,o4]
 .unfold a9u;simp_all
def Ans(b:Prop)(r:Int×Bool):Prop:=(r.2=true↔b)/\(r.2=true->0<=r.1/\r.1<=5)
def f6n(l:O aQ):Prop:=(∀u∈l,vld u=true)/\l.length<=27
def d4i{l:O aQ}(h:f6n l)(p:aQ->Bool):f6n (l.filter p):=⟨λu hu=>h.1 u (List.mem_filter.1 hu).1,Nat.le_trans (length_filter_le _ _) h.2⟩
def h19{α:Type}{l:O α}:(∃y∈l,true=true)↔l≠[]:=by cases l with|nil=>simp|cons a l=>simp_all
def e7h(L:lQ)(d:Int)(h:f6n L.facts):Tot (a5v L d) (Ans (L.facts.filter (λu=>([3].any λy=>u.Kind==y)&&c7f u.Span d)≠[])):=by
 unfold a5v;rw[f8v L d [3] (by have:=h.2;omega) (by simp),qA];have hq:=d4i h (λu=>([3].any λy=>u.Kind==y)&&c7f u.Span d);generalize L.facts.filter (λu=>([3].any λy=>u.Kind==y)&&c7f u.Span d)=q at hq;obtain⟨s,h1,h2,h3⟩:=d5w (f:=a3m q) q (λ_=>true) (λ(s:aQ×Bool)i=>(s.1,s.2,q,i)) (λs=>some (s.1.State,s.2)) (⟨0,0,0,false,0,0,0,(⟨0,0⟩:Span),0,0,0,0,0⟩:aQ) (by have:=hq.2;omega) (λrec s i y hy hp=>by grind) (λrec s i y hy hp=>by have hi:=(qD.1 hy).1;unfold a3m;simp only[e7 hy,qA,y3,o4,qA];grind) (λrec s=>by unfold a3m;simp_all);refine⟨_,h1,?_,λhb=>?_⟩;.rw[h2];exact h19
 .exact(c3d (hq.1 _ (h3 hb).1)).2.1
def f2c(l:O aQ)(d:Int)(h:f6n l)(h0:0<=d)(h1:d<=73048):Tot (a8j l d) (Ans (c7f (a4q l) d=true/\∃u∈l,cur u=true/\u.Kind=5/\c7f u.Span d=true)):=by
 have hl:=h.2;unfold a8j;rw[g09 h0 h1,qA];rw[c27 l (by omega),qA,c03 [a4q l] d (by simp),qA];have hd:(decide (0<=d)&&decide (d<=73048))=true:=by simp_all
 have hin:inB [a4q l] d=c7f (a4q l) d:=by simp[inB,c7f]
 rw[hd,hin,Bool.true_and];cases hc:c7f (a4q l) d with|false=>exact tC ⟨by simp,by simp⟩|true=>
   obtain⟨s,g1,g2,g3⟩:=d5w (f:=a4t l d) l (λu=>(cur u&&(u.Kind==5))&&c7f u.Span d) (λ(s:aQ×Bool)i=>(s.1,s.2,i)) (λs=>some (s.1.State,s.2)) (⟨0,0,0,false,0,0,0,(⟨0,0⟩:Span),0,0,0,0,0⟩:aQ) (by omega) (λrec s i y hy hp=>by
     have hi:=(qD.1 hy).1;unfold a4t;rw[if_pos (o6 hi)];simp only[e7 hy,qA,b6f,y3,o4];have:(((!cur y)||(y.Kind !=5))||decide (d<y.Span.From)||decide (d>=y.Span.To))=!((cur y&&(y.Kind==5))&&c7f y.Span d):=by unfold c7f;rw[Bool.eq_iff_iff];grind
     grind) (λrec s i y hy hp=>by
     have hi:=(qD.1 hy).1;unfold a4t;rw[if_pos (o6 hi)];simp only[e7 hy,qA,b6f,y3,o4];rw[if_neg]
     .split;.simp_all
      simp_all
     .unfold c7f at hp;simp_all) (λrec s=>by unfold a4t;simp_all);refine⟨_,g1,?_,λhb=>?_⟩;.grind
   .exact(c3d (h.1 _ (g3 hb).1)).2.1
def d06:∀(l:O (Int×Int))(k v j:Int),j∈(a62 l k v).map (·.1)↔j=k\/j∈l.map (·.1)
 |[],k,v,j=>by simp[a62]|q::r,k,v,j=>by
   unfold a62;by_cases hq:q.1=k;.simp_all
   .have ih:=d06 r k v j;grind
def d2p:∀(l:O (Int×Int))(k v:Int),(a62 l k v).length<=l.length+1
 |[],k,v=>by simp[a62]|q::r,k,v=>by
   unfold a62;split;.simp
   .have:=d2p r k v;simp_all
def e8d(l:O aQ)(h:f6n l):Tot (b12 l) λr=>(∀x∈r,0<=x/\x<=5)/\r.length<=27:=by
 have hl:=h.2;refine a9k (f:=a7p l) l (λs i=>(s,i)) (λs i=>s=(l.take i).map (·.Seat)) (λo=>Tot o _) (by omega) ?_ ?_ [] (by simp);.rintro rec s i y hi hy rfl;right;unfold a7p;rw[if_pos (o6 hi)];simp only[e7 hy,qA];rw[p6 (by grind),qA,a5g (by omega)];exact⟨_,rfl,by rw[a9h hy,List.map_append];rfl⟩
 .rintro rec s rfl;unfold a7p;dsimp only;rw[if_neg (g9 _),List.take_length];unfold b8s;rw[if_pos (by grind),qA];have hp:=a8p (l.map (·.Seat));have hle:(b89 (l.map (·.Seat))).length=l.length:=by rw[hp.length_eq,List.length_map]
  rw[b98 _ (by omega),qA];refine tC ⟨λx hx=>?_,?_⟩;.rw[h0k,hp.mem_iff,mem_map]at hx;obtain⟨u,hu,rfl⟩:=hx;exact(c3d (h.1 u hu)).2.2.1
  .have hd:∀(r:O Int)(p:Int),(deF p r).length<=r.length:=by intro r;induction r with|nil=>intro p;exact Nat.le_refl _|cons y r ih=>simp only[deF];grind
   have:∀s:O Int,(de s).length<=s.length:=by intro s;cases s with|nil=>simp[de]|cons x r=>have:=hd r x;simp only[de,qR]at*;omega
   grind
def g8h(k:O Int)(hk:k.length<=1000)(hr:∀x∈k,0<=x/\x<=5)(m:O (Int×Int))(z:Int)(hz:z∈k):Tot (d9 FU (a0f k) (m,z,k,0)) λr=>r.2=true/\0<=r.1/\r.1<=5:=by
 refine a9k (f:=a0f k) k (λ(s:Int)i=>(m,s,k,i)) (λs i=>s∈k) (λo=>Tot o _) (by omega) ?_ ?_ z hz
 .rintro rec s i y hi hy hs;right;unfold a0f;simp only[map_id',o6 hi,if_true,e7 hy,qA];rw[a5g (by omega)];split;.exact⟨y,rfl,qE hy⟩
  grind
 .rintro rec s hs;unfold a0f;simp only[map_id'];rw[if_neg (g9 _)];exact tC ⟨rfl,hr s hs⟩
def d8d(L:lQ)(d a:Int)(h:f6n L.facts)(h0:0<=d)(h1:d<=73048):Tot (a3v L d a) (Ans (L.facts.filter (λu=>([1,2].any λy=>u.Kind==y)&&c7f u.Span d)≠[])):=by
 unfold a3v;rw[f8v L d [1,2] (by have:=h.2;omega) (by simp),qA];have hq:=d4i h (λu=>([1,2].any λy=>u.Kind==y)&&c7f u.Span d);generalize L.facts.filter (λu=>([1,2].any λy=>u.Kind==y)&&c7f u.Span d)=q at hq;have hl:=hq.2;refine a9k (f:=a2g q d a) q (λ(s:O (Int×Int)×Int)i=>(L,s.1,s.2,q,i)) (λs i=>(∀k,k∈s.1.map (·.1)↔∃y∈q.take i,y.State=k)/\s.1.length<=i) (λo=>Tot o _) (by omega) ?_ ?_ ([],0) ⟨by simp,by simp⟩
 .rintro rec s i y hi hy⟨g1,g2⟩;right;unfold a2g;rw[if_pos (o6 hi)];simp only[e7 hy,qA];rw[a5g (by omega)];refine⟨(_,_),rfl,λk=>?_,?_⟩
  .rw[d06,g1,a9h hy];constructor
   .rintro(e|⟨u,hu,e⟩);.grind
    grind
   .rintro⟨u,hu,e⟩;rcases qK.1 hu with hu|hu;.grind
    .grind
  .exact Nat.le_trans (d2p _ _ _) (by omega)
 .rintro rec⟨m,tt⟩⟨g1,g2⟩;rw[List.take_length]at g1;dsimp only at g1 g2;have hst:∀k∈m.map (·.1),0<=k/\k<=5:=λk hk=>by obtain⟨y,hy,rfl⟩:=(g1 k).1 hk;exact(c3d (hq.1 y hy)).2.1
  unfold a2g;dsimp only;rw[if_neg (g9 _)];unfold c8c;rw[if_pos ⟨by rw[qX];intro p hp;have:=hst p.1 (List.mem_map.2 ⟨p,hp,rfl⟩);unfold c4v;grind,by omega⟩,qA];have hp:=a8p (m.map (·.1));generalize b89 (m.map (·.1))=ks at hp;have hks:∀k∈ks,0<=k/\k<=5:=λk hk=>hst k (hp.subset hk);have hkl:ks.length=m.length:=by rw[hp.length_eq,List.length_map]
  simp only[map_id'];refine tD (λhc=>?_) λhc=>?_;.simp at hc;refine tC ⟨⟨λh=>(by grind),λhne=>?_⟩,by simp⟩;rw[hc]at hkl;have hm:m=[]:=List.length_eq_zero_iff.1 hkl.symm;cases q with|nil=>simp_all|cons u q=>have:=(g1 u.State).2 ⟨u,by simp,rfl⟩;rw[hm]at this;simp at this
  .have hks0:ks≠[]:=by intro e;rw[e]at hc;simp at hc
   have hne:q≠[]:=by intro e;obtain⟨x,hx⟩:=exists_mem_of_ne_nil ks hks0;obtain⟨y,hy,_⟩:=(g1 x).1 (hp.subset hx);rw[e]at hy;cases hy
   have good:∀x:Int,0<=x/\x<=5->Ans (q≠[]) (x,true):=λx hx=>⟨⟨λ_=>hne,λ_=>rfl⟩,λ_=>hx⟩;have hlen0:0<ks.length:=List.length_pos_iff.2 hks0;refine tD (λhc1=>?_) λhc1=>?_;.refine tA (c6 (by omega) (by omega)) λx hx=>tA (c6 (by omega) (by omega)) λy hy=>?_;exact tC (good y (hks y hy))
   .refine tA (f2c L.facts d h h0 h1) λv9 hv9=>?_;simp only[o4,qA];refine tD (λhc2=>?_) λhc2=>?_;.simp only[qB]at hc2;exact tC (good _ (hv9.2 hc2.1.1))
    .rw[f8v L d [1] (by have:=h.2;omega) (by simp),qA];refine tA (e8d _ (d4i h _)) λv13 hv13=>?_;obtain⟨hs,hs27⟩:=hv13;refine tD (λhc3=>?_) λhc3=>?_;.simp at hc3;refine tA (c6 (by omega) (by omega)) λx hx=>tA (c6 (by omega) (by omega)) λy hy=>?_;exact tC (good y (hs y hy))
     .rw[c6g v13 _ (by omega)];simp only[o4,qA];refine tD (λhc4=>?_) λhc4=>?_;.simp only[qB]at hc4;obtain⟨⟨hb,h2⟩,hin⟩:=hc4;match v13,h2,hin,hs with
       |[x,y],_,hin,hs=>
         have e0:c7 [x,y] 0=some x:=rfl;have e1:c7 [x,y] 1=some y:=rfl;have hx:=hs x (by simp);have hy:=hs y (by simp);have hz:v9.1=x\/v9.1=y:=by simpa using hin
         refine tC (good _ ?_);rw[e9 (n:=x+y) (by omega) (by omega)];rcases hz with e|e;.rw[e,show x+y-x=y by omega,e9 (by omega) (by omega)];omega
         .rw[e,show x+y-y=x by omega,e9 (by omega) (by omega)];omega|[],h2,_,_=>simp at h2|[_],h2,_,_=>simp at h2|_::_::_::_,h2,_,_=>simp at h2;omega
      .refine tD (λhc5=>tC (good _ (hv9.2 hc5))) λhc5=>?_;refine tA (c6 (by omega) (by omega)) λx hx=>tA (c6 (by omega) (by omega)) λy hy=>?_;have:=g8h ks (by omega) hks m y hy;exact this.mono λr hr=>⟨⟨λ_=>hne,λ_=>hr.1⟩,λ_=>hr.2⟩
def e0d(q:O aQ)(h:f6n q)(hne:q≠[]):Tot (m5 q) λr=>r∈q:=by
 have hl:=h.2;have hp:0<q.length:=List.length_pos_iff.2 hne;unfold m5;rw[if_neg (by grind),b7k];unfold a00;dsimp only;refine tA (c6 (by omega) (by omega)) λv2 hv2=>?_;refine tO (I:=λv:aQ×aQ×Int=>1<=v.2.2/\v.2.2<=(q.length:Int)/\v.2.1∈q) (μ:=λv=>((q.length:Int)-v.2.2).toNat) ⟨by simp_all,by grind,hv2⟩ (by grind) ?_;rintro r⟨w,v,i⟩⟨g1,g2,g3⟩ih;dsimp only at g1 g2 g3;unfold y9;dsimp only;refine tD (λhc=>?_) λhc=>tC g3;simp at hc;refine tA (c6 (by omega) hc) λv5 hv5=>?_;unfold a6j;rw[c8a,qA,qA,a42 (by omega) (by omega)];refine tD (λ_=>?_) λ_=>?_;.refine tA (c6 (by omega) hc) λv7 hv7=>?_;exact ih _ ⟨by show 1<=i+1;omega,by show i+1<=_;omega,hv7⟩ (by show((q.length:Int)-(i+1)).toNat<((q.length:Int)-i).toNat;omega)
 .exact ih _ ⟨by show 1<=i+1;omega,by show i+1<=_;omega,g3⟩ (by show((q.length:Int)-(i+1)).toNat<((q.length:Int)-i).toNat;omega)
def e1n(L:lQ)(d:Int)(h:f6n L.facts):Tot (a4b L d) (Ans (L.facts.filter (λu=>([7,8].any λy=>u.Kind==y)&&c7f u.Span d)≠[])):=by
 unfold a4b;rw[f8v L d [7,8] (by have:=h.2;omega) (by simp),qA];have hq:=d4i h (λu=>([7,8].any λy=>u.Kind==y)&&c7f u.Span d);generalize L.facts.filter (λu=>([7,8].any λy=>u.Kind==y)&&c7f u.Span d)=q at hq;refine tD (λhc=>?_) λhc=>?_;.simp at hc;exact tC ⟨by grind,by simp⟩
 .have hne:q≠[]:=by simp_all
  refine tA (e0d q hq hne) λu hu=>?_;exact tC ⟨⟨λ_=>hne,λ_=>rfl⟩,λ_=>(c3d (hq.1 u hu)).2.1⟩
def g8c{f:O aQ}(hf:f.length<=2^30){p:Posting}(h:PM f p):0<=p.Span.From/\p.Span.From<p.Span.To/\p.Span.To<=73049/\(0<=p.Seat/\p.Seat<=5)/\0<=p.State/\p.State<=5:=by obtain⟨_,h3,h4,_⟩:=b8o (f3b f p.Seat p.State) (a4q f) (by have:=d4g f p.Seat p.State;omega);have g1:=h3.1 _ h;obtain⟨⟨s,hs,_⟩,_⟩:=(h4 p.Span.From).1 ⟨p.Span,h,Int.le_refl _,g1.2.1⟩;obtain⟨u,hu,_⟩:=List.mem_map.1 hs;rw[mem_filter]at hu;have hh:=hu.2;simp at hh;obtain⟨_,r1,r2,_⟩:=c3d (f1a hu.1);omega
def e1f{f:O aQ}(hf:f.length<=2^30)(L:lQ)(d lim:Int)(hm:∀p,p∈L.postings↔PM f p)(hlen:L.postings.length<=12)(h0:0<=lim)(h1:lim<=730):Tot (a4c L d lim) (Ans (∃p,PM f p/\c7f p.Span d=true/\d<p.Span.From+lim)):=by
 refine a9k (f:=a2q L d lim) L.postings (λ(_:Unit)i=>i) (λ_ i=>∀p∈L.postings.take i,¬(c7f p.Span d=true/\d<p.Span.From+lim)) (λo=>Tot o _) (by omega) ?_ ?_ () (by simp)
 .rintro rec s i y hi hy h;have hy':=(hm y).1 (qE hy);obtain⟨r1,r2,r3,r4,_⟩:=g8c hf hy';unfold a2q;rw[if_pos (o6 hi)];simp only[e7 hy,qA,c9s,o4];rw[e9 (n:=y.Span.From+lim) (by omega) (by omega),a5g (by omega)];by_cases hc:c7f y.Span d=true/\d<y.Span.From+lim;.left;rw[if_pos (by grind)];exact tC ⟨⟨λ_=>⟨y,hy',hc⟩,λ_=>rfl⟩,λ_=>r4⟩
  .right;rw[if_neg (by grind)];refine⟨(),rfl,λp hp=>?_⟩;rw[a9h hy]at hp;rcases qK.1 hp with hp|hp;.exact h p hp
   .grind
 .intro rec s h;unfold a2q;rw[if_neg (g9 _)];refine tC ⟨⟨λh=>(by grind),?_⟩,by simp⟩;simp_all
def f8b{f:O aQ}{T:O Rules}(hG:a48 f)(hT:TrF T){P:O Posting}(hPm:∀p,p∈P↔PM f p)(hPl:P.length<=12)(d:Int):Tot (a7m (⟨f.filter cur,a4q f,P,T⟩:lQ) d) λ_=>True:=by
 have hf:f.length<=2^30:=by have:=hG.len;omega
 have hv:f6n (f.filter cur):=⟨λu hu=>f1a hu,by have:=length_filter_le cur f;have:=hG.len;omega⟩;unfold a7m;by_cases hd:0<=d/\d<=73048;.obtain⟨t1,t2,t3,t4,t5⟩:=e30 hT d;rw[g2p hT hd.1 hd.2,qA];simp only[qU,qM,if_false,c9s,qA];refine tD (λ_=>tC trivial) λ_=>?_;refine tA (e1f hf (⟨f.filter cur,a4q f,P,T⟩:lQ) d _ hPm hPl t1 t2) λr1 _=>tD (λ_=>tC trivial) λ_=>?_;refine tA (e7h (⟨f.filter cur,a4q f,P,T⟩:lQ) d hv) λr2 _=>tD (λ_=>tC trivial) λ_=>?_;refine tA (d8d (⟨f.filter cur,a4q f,P,T⟩:lQ) d _ hv hd.1 hd.2) λr3 _=>tD (λ_=>tC trivial) λ_=>?_;refine tA (e1n (⟨f.filter cur,a4q f,P,T⟩:lQ) d hv) λr4 _=>tD (λ_=>tC trivial) λ_=>?_;exact tA (f2c (f.filter cur) d hv hd.1 hd.2) λr5 _=>tD (λ_=>tC trivial) λ_=>tC trivial
 .have hc:m7 d=some false:=by unfold m7;simp_all
  unfold b2q;rw[hc,qA];exact tC trivial
def f5m(L:lQ)(hf:L.facts.length<=27)(hp:L.postings.length<=12)(hr:L.rules.length<=2):Tot (a6t L) λr=>r.length<=100:=by
 refine tH L.facts (λ(s:O Int)i=>(L,s,i)) (λs i=>s.length<=4+2*i) (by omega) (λrec s i y hi hy hI ih=>?_) (λrec s hI=>?_) [0,73049,L.span.From,L.span.To] (by simp);.unfold a8a;rw[if_pos (o6 hi)];simp only[e7 hy,qA];rw[p6 (by simp only[qR,qS];omega),qA];exact ih _ (by simp;omega)
 .unfold a8a;rw[if_neg (g9 _)];refine tH L.rules (λ(s:O Int)i=>(L,s,i)) (λs i=>s.length<=58+13*i) (by omega) (λrec2 s i y hi hy hI2 ih2=>?_) (λrec2 s hI2=>?_) s (by omega)
  .unfold a89;rw[if_pos (o6 hi)];simp only[e7 hy,qA];rw[p6 (by simp only[qR,qS];omega),qA];refine tH L.postings (λ(q:O Int)k=>(L,q,y,k)) (λq k=>q.length<=s.length+1+k) (by omega) (λrec3 q k z hk hz hI3 ih3=>?_) (λrec3 q hI3=>?_) (s++[y.From]) (by simp);.unfold a81;rw[if_pos (o6 hk)];simp only[e7 hz,qA];rw[p6 (by simp only[qR,qS];omega),qA];exact ih3 _ (by simp;omega)
   .unfold a81;rw[if_neg (g9 _)];exact ih2 q (by omega)
  .unfold a89;dsimp only;rw[if_neg (g9 _)];unfold b8s;rw[if_pos (by omega),qA];have hsl:=(a8p s).length_eq;rw[b98 _ (by omega),qA];have:=g0g (b89 s);exact tC (by omega)
def f4q{f:O aQ}{T:O Rules}(hG:a48 f)(hT:TrF T):Tot (a4h f T) λr=>r.length<=100:=by
 have hf:f.length<=2^30:=by have:=hG.len;omega
 have hfl:(f.filter cur).length<=27:=by have:=length_filter_le cur f;have:=hG.len;omega
 obtain⟨P,hP,hPm,hPl⟩:=c90 hG;unfold a4h a9c;rw[b9a f hf,qA,c27 f hf,qA,hP,qA,d5j hT,qA,qA];refine tA (f5m (⟨f.filter cur,a4q f,P,T⟩:lQ) hfl hPl (g97 hT).1) λc hc=>?_;refine tO (I:=λv:lQ×O gQ×O Int×Int=>v.1=(⟨f.filter cur,a4q f,P,T⟩:lQ)/\v.2.2.1=c/\0<=v.2.2.2/\v.2.2.2<=(c.length:Int)/\(v.2.1.length:Int)<=v.2.2.2) (μ:=λv=>((c.length:Int)-v.2.2.2).toNat) ⟨rfl,rfl,Int.le_refl _,by simp_all,Int.le_refl _⟩ (by grind) ?_;rintro r⟨L,s,c2,k⟩⟨rfl,e2,g1,g2,g3⟩ih;dsimp only at e2 g1 g2 g3;subst e2;unfold b8r;dsimp only;rw[a42 (x:=k) g1 (by omega)];refine tD (λh=>?_) λ_=>tC (by omega);simp at h;have go:∀o:O gQ,(o.length:Int)<=k+1->Tot (r ((⟨f.filter cur,a4q f,P,T⟩:lQ),o,c2,k+1)) λr=>r.length<=100:=λo ho=>ih _ ⟨rfl,rfl,by dsimp only;omega,by dsimp only;omega,ho⟩ (by dsimp only;omega);refine tA (c6 g1 (by omega)) λ_ _=>tA (c6 g1 (by omega)) λa _=>tA (f8b hG hT hPm hPl a) λq _=>tD (λ_=>go s (by omega)) λ_=>?_;have put:Tot (Option.bind (c7 c2 k) λv23=>Option.bind (c7 c2 k) λv24=>Option.bind (c7 c2 (k+1)) λv25=>Option.bind (c7 c2 (k+1)) λv26=>Option.bind (a4n 32 s [(⟨(⟨v24,v26⟩:Span),q.1,q.2⟩:gQ)]) λv27=>r ((⟨f.filter cur,a4q f,P,T⟩:lQ),v27,c2,k+1)) λr=>r.length<=100:=by refine tA (c6 g1 (by omega)) λ_ _=>tA (c6 g1 (by omega)) λ_ _=>tA (c6 (by omega) h) λ_ _=>tA (c6 (by omega) h) λ_ _=>?_;rw[p6 (by simp only[qR,qS];omega),qA];exact go _ (by simp;omega)
 rcases h1f s with e|⟨A,y,e⟩;.subst e;have e0:decide ((([]:O gQ).length:Int)>0)=false:=rfl;simp only[e0,qM,if_false,qA];omega
 .subst e;have hA2:(A++[y]).length=A.length+1:=by simp
  have hA:A.length<2^62:=by omega
  have e0:decide (((A++[y]).length:Int)>0)=true:=by simp
  have gl:c7 (A++[y]) (i64 (((A++[y]).length:Int)-1))=some y:=d3s A y hA;simp only[e0,if_true,gl,qA];refine tA (Q:=λ_=>True) (tA (c6 g1 (by omega)) λ_ _=>tA (c6 g1 (by omega)) λ_ _=>tC trivial) λ_ _=>tA (Q:=λ_=>True) (tD (λ_=>tC trivial) λ_=>tC trivial) λ_ _=>tA (Q:=λ_=>True) (tD (λ_=>tC trivial) λ_=>tC trivial) λ_ _=>tD (λ_=>?_) λ_=>put;refine tA (c6 (by omega) h) λ_ _=>tA (c6 (by omega) h) λ_ _=>?_;rw[d3y A y _ hA];exact go _ (by simp at g3⊢;omega)
def ixF{α:Type}(l:O α)(g:α->A3 Bool)(rec:Int->A3 Int)(i:Int):A3 Int:=if(decide (i<(l.length:Int)))then(c7 l i).bind λy=>(g y).bind λb=>if b then some i else rec (i64 (i+1))else some (-1)
def d3e{α:Type}(l:O α)(g:α->A3 Bool)(N:α->Prop)(hl:l.length<=2^30)(hg:∀y∈l,Tot (g y) λb=>b=false->N y):Tot (d9 FU (ixF l g) 0) λr=>-1<=r/\r<(l.length:Int)/\(r<0->∀y∈l,N y):=by
 refine tH l (λ(_:Unit)i=>i) (λ_ i=>∀y∈l.take i,N y) (by omega) (λrec s i y hi hy hI ih=>?_) (λrec s hI=>?_) () (by simp)
 .unfold ixF;rw[if_pos (o6 hi),e7 hy,qA];refine tA (hg y (qE hy)) λb hb=>tD (λ_=>tC ⟨by omega,by omega,λh=>by omega⟩) λh=>ih () λz hz=>?_;rw[a9h hy]at hz;rcases qK.1 hz with hz|hz;.simp_all
  simp_all
 .unfold ixF;rw[if_neg (g9 _)];rw[List.take_length]at hI;exact tC ⟨by omega,by omega,λ_=>hI⟩
def c12{α:Type}(l:O α)(g:α->A3 Bool)(N:α->Prop)(hl:l.length<=2^30)(hg:∀y∈l,Tot (g y) λb=>b=false->N y):Tot (Option.bind (d9 FU (ixF l g) 0) λv=>some (decide (v>=0))) λb=>b=false->∀y∈l,N y:=tA (d3e l g N hl hg) λv hv=>tC λh=>hv.2.2 (by simp_all)
def aOK(o:Int)(k:Nat):Prop:=1<=o/\o<=21/\(4<=o->1<=k)/\(7<=o->2<=k)/\(o=21->3<=k)
def AR:Nat->Expr->Prop|0,_=>False|n+1,e=>aOK e.Op e.Args.length/\∀a∈e.Args,AR n a
def c5e(s:A4):Tot (b4n s) λ_=>True:=by
 have j1:∀v,Tot (a9q v) λ_=>True:=λv=>by repeat' first|exact tC trivial|exact j2 _|refine tD (λ_=>?_) λ_=>?_
 exact tD (λ_=>j1 _) λ_=>tD (λ_=>j1 _) λ_=>j1 _
def VArg(v:Version):Prop:=v.Lets.length<=10/\(∀x∈v.Lets,AR 8001 x.Body)/\∀x∈v.Grants,AR 8001 x.If/\AR 8001 x.Pay
structure VE(v:Version):Prop where
 vg:VG v
 ty:Tot (b0q v) λr=>r=0->VArg v
def SE(s:Statute):Prop:=s.Versions.length<=6/\∀v∈s.Versions,VE v
def i9z{s:A4}:∀(k:Nat)(v:Int),d9 k (b4m s) v=some true->s.size<=12
 |0,v,h=>by cases h|k+1,v,h=>by
   have h:b4m s (d9 k (b4m s)) v=some true:=h;unfold b4m at h;split at h
   .obtain⟨_,_,h⟩:=qP.1 h;obtain⟨_,_,h⟩:=qP.1 h;obtain⟨_,_,h⟩:=qP.1 h;split at h;.cases h
    .exact i9z k _ h
   .simp only[o4,qA]at h;simp at h;omega
def j2l{s:A4}(h:a2e s=some true):s.size<=8000:=by
 unfold a2e at h;obtain⟨b,hb,h⟩:=qP.1 h;cases b;.simp at h
 .have:=i9z _ _ hb;omega
def j7y:∀(n:Nat)(a:AE),a.ok->a.dep<=n->EB n a.e/\AR n a.e
 |0,a,_,hd=>by have:=i5s a;omega|n+1,a,h,hd=>by
   have hl:=h.leaf;have hA:∀b∈a.args,EB n b.e/\AR n b.e:=λb hb=>j7y n b (h.arg hb) (by have:=i55 hb;omega)
   cases a with|lit v d=>exact⟨EB.leaf (by decide),by show aOK 1 0;unfold aOK;omega,λx hx=>by cases hx⟩|nm s=>exact⟨EB.leaf (j2l hl.1),by show aOK 2 0;unfold aOK;omega,λx hx=>by cases hx⟩|best k=>exact⟨EB.leaf (by decide),by show aOK 3 0;unfold aOK;omega,λx hx=>by cases hx⟩|bin op x y=>
     have a1:=hA x (by simp[AE.args]);have a2:=hA y (by simp[AE.args]);refine⟨EB.two a1.1 a2.1,?_,λz hz=>?_⟩;.show aOK op 2;have:=hl.1;have:=hl.2;unfold aOK;omega
     .simp[AE.e]at hz;rcases hz with rfl|rfl;.exact a1.2
      .exact a2.2|ite x y z=>
     have a1:=hA x (by simp[AE.args]);have a2:=hA y (by simp[AE.args]);have a3:=hA z (by simp[AE.args]);refine⟨EB.three a1.1 a2.1 a3.1,by show aOK 21 3;unfold aOK;omega,λu hu=>?_⟩;simp[AE.e]at hu;rcases hu with rfl|rfl|rfl;.exact a1.2
     .exact a2.2
     .exact a3.2
def k2b{env:O iQ}{v:Version}(h:VOK env v):VE v:=by
 have x:∀{e:Expr}{d:Int},ExOK env e d->EB 8001 e/\AR 8001 e:=λh=>by obtain⟨a,rfl,h1,h2,_⟩:=h.ex;exact j7y 8001 a h1 (by omega)
 have l:∀y∈v.Lets,EB 8001 y.Body/\AR 8001 y.Body:=λy hy=>by obtain⟨a,e,h1,h2⟩:=h.la y hy;rw[e];exact j7y 8001 a h1 (by omega)
 have h1:=h.cl;have h2:=h.sl;have h3:=h.ll;have h4:=h.gl;have h5:=h.rl;refine⟨⟨by omega,by omega,by omega,by omega,by omega,λy hy=>⟨j2l (h.lt y hy).1,(l y hy).1⟩,λy hy=>⟨(x (h.gr y hy).2.1).1,(x (h.gr y hy).2.2).1⟩,λy hy=>(x (h.rd y hy).2).1⟩,0,j1d h,λ_=>⟨h3,λy hy=>(l y hy).2,λy hy=>⟨(x (h.gr y hy).2.1).2,(x (h.gr y hy).2.2).2⟩⟩⟩
def k29{s:Statute}(h:SOK s):SE s:=⟨h.l1,λv hv=>let⟨_,g⟩:=h.vs v hv;k2b g⟩
def j14:∀(n m:Nat)(e:Expr),n<=m->EB n e->Tot ((s4 m).f_statute_cloneExpr e) λr=>r=e
 |0,_,_,_,h=>h.elim|n+1,0,_,hm,_=>by omega|n+1,m+1,e,hm,h=>by
   show Tot (a7s (s4 m) e) _;unfold a7s;have hl:=h.1;refine tH e.Args (λ(s:O Expr)i=>(s,(⟨e.Op,e.Value,e.Dim,e.Name,[]⟩:Expr),([]:O Expr),(⟨0,(⟨0,0⟩:fQ),0,a3j,[]⟩:Expr),i)) (λs i=>s=e.Args.take i) (by omega) (λrec s i y hi hy hI ih=>?_) (λrec s hI=>?_) [] rfl
   .dsimp only;rw[if_pos (o6 hi),e7 hy,qA];refine tA (j14 n m y (by omega) (h.2.2 y (qE hy))) λz hz=>?_;have:s.length<=3:=by rw[hI,List.length_take];omega
    rw[p6 (by simp only[qR,qS];omega),qA];exact ih _ (by rw[hz,hI,a9h hy])
   .dsimp only;rw[if_neg (g9 _),hI,List.take_length];exact tC (by cases e;rfl)
def i7q{α:Type}{l:O α}{i:Nat}{x:α}(h:l[i]?=some x):a8h l (i:Int) x=l:=by unfold a8h;obtain⟨h1,h2⟩:=qD.1 h;subst h2;simp
def j2j{v:Version}(hv:VG v):Tot (a6r v) λr=>r=v:=by
 obtain⟨h1,h2,h3,h4,h5,h6,h7,h8⟩:=hv;have cl:∀{α:Type}(k:Nat)(l:O α),k<=1000->(l.length:Int)<=8000->a4n k [] l=some l:=λk l hk hl=>by rw[p6 (by simp only[qS,Nat.zero_add];exact Nat.le_trans (Nat.mul_le_mul (by omega:l.length<=8000) hk) (by decide))];rfl
 have ce:∀{e:Expr},EB 8001 e->a6x e=some e:=λh=>by obtain⟨r,hr,e⟩:=j14 8001 FU _ (by unfold FU;omega) h;exact e▸hr
 unfold a6r a5m a6e a86 a6f a5p;simp only[cl _ _ (by decide:16<=1000) h1,cl _ _ (by decide:24<=1000) h2,cl _ _ (by decide:88<=1000) h3,cl _ _ (by decide:152<=1000) h4,cl _ _ (by decide:80<=1000) h5,qA];let w:Version:=⟨v.From,v.Rounding,[],[],[],[],[]⟩;let z:Version:=⟨0,⟨0,0⟩,[],[],[],[],[]⟩;refine tH v.Lets (λ(_:Unit)i=>(v.Credits,v.Series,v.Lets,v.Grants,v.Reduces,w,[],[],[],[],[],z,i)) (λ_ _=>True) (by omega) (λrec _ i y hi hy _ ih=>?_) (λrec _ _=>?_) () trivial;.dsimp only;rw[if_pos (o6 hi)];simp only[e7 hy,ce (h6 y (qE hy)).2,qA,i7q hy];exact ih () trivial
 dsimp only;rw[if_neg (g9 _)];refine tH v.Grants (λ(_:Unit)i=>(v.Credits,v.Series,v.Lets,v.Grants,v.Reduces,w,[],[],[],[],[],z,i)) (λ_ _=>True) (by omega) (λrec _ i y hi hy _ ih=>?_) (λrec _ _=>?_) () trivial;.dsimp only;rw[if_pos (o6 hi)];have hg:=h7 y (qE hy);simp only[e7 hy,ce hg.1,ce hg.2,qA,i7q hy];exact ih () trivial
 dsimp only;rw[if_neg (g9 _)];refine tH v.Reduces (λ(_:Unit)i=>(v.Credits,v.Series,v.Lets,v.Grants,v.Reduces,w,[],[],[],[],[],z,i)) (λ_ _=>True) (by omega) (λrec _ i y hi hy _ ih=>?_) (λrec _ _=>?_) () trivial;.dsimp only;rw[if_pos (o6 hi)];simp only[e7 hy,ce (h8 y (qE hy)),qA,i7q hy];exact ih () trivial
 dsimp only;rw[if_neg (g9 _)];exact tC rfl
def V0:Version:=⟨0,⟨0,0⟩,[],[],[],[],[]⟩
def g3t:VE V0:=by refine⟨⟨by decide,by decide,by decide,by decide,by decide,?_,?_,?_⟩,0,by kernel_rfl,λ_=>⟨by decide,?_,?_⟩⟩<;>intro x h<;>cases h
def g1l{s:Statute}(hs:SE s)(d:Int):Tot (b1v s d) λr=>VE r.1:=by unfold b1v m7;simp only[o4,qA];refine tD (λ_=>tC g3t) λ_=>?_;have hl:=hs.1;refine tO (I:=λv:(Int×Version×Bool)×Int=>-1<=v.2/\v.2<(s.Versions.length:Int)) (μ:=λv=>(v.2+1).toNat) ⟨by dsimp only;omega,by dsimp only;omega⟩ (by dsimp only;omega) ?_;rintro r⟨q,k⟩⟨g1,g2⟩ih;unfold c41;dsimp only at g1 g2⊢;refine tD (λ_=>tC g3t) λh=>?_;simp at h;exact tA (c6 h g2) λv hm=>tD (λ_=>tA (j2j (hs.2 v hm).vg) λ_ hw=>tC (hw▸hs.2 v hm)) λ_=>ih _ ⟨by dsimp only;omega,by dsimp only;omega⟩ (by dsimp only;omega)
def d5e(l:O Int):Tot (a9p l) λb=>b=true->l.length<=200:=by
 refine tA (Q:=λb=>b=true->l.length<=200) (tD (λh=>?_) λ_=>tC λh=>by grind) λb hb=>tC hb;simp at h;refine tA (c12 l b0a (λ_=>True) (by omega) λy _=>?_) λ_ _=>tC λ_=>by omega
 unfold b0a;rw[a1z,qA];exact tC λ_=>trivial
def c58(w:View):Tot (b0s w) λ_=>True:=by
 unfold b0s;simp only[a1z,y3,o4,qA];refine tA (orT (e4o (d5e _))) λ_ _=>tD (λ_=>tC trivial) λ_=>?_;refine tO (I:=λv:View×Int=>v.1=w/\0<=v.2) (μ:=λv=>(7-v.2).toNat) ⟨rfl,Int.le_refl _⟩ (by omega) ?_;rintro r⟨v,k⟩⟨g1,g2⟩ih;subst g1;refine tD (λh=>?_) λ_=>tA (b2t _) λa ha=>?_;.simp at h;rw[a42 g2 (by omega)];exact tA (c6 g2 h) λ_ _=>tD (λ_=>tC trivial) λ_=>ih _ ⟨rfl,by omega⟩ (by omega)
 .have d:∀b:Bool,(a&&b)=true->v.Base.Den≠0:=λb h=>by
   have:a=true:=by grind
   exact(ha this).i.2.2
  refine tA (Q:=λb=>b=true->v.Base.Den≠0) (tD (λh=>tA (b7s (d _ h)) λ_ _=>tC λ_=>d _ h) λ_=>tC λh=>by grind) λb hb=>tA (Q:=λ_=>True) (tD (λh=>tA (b7s (hb h)) λ_ _=>tA (Q:=λ_=>True) (tD (λ_=>tC trivial) λ_=>tA (b4f (hb h)) λ_ _=>tC trivial) λ_ _=>tC trivial) λ_=>tC trivial) λ_ _=>tC trivial
def g3i(w:View)(s:A4):Tot (c2b w s) λ_=>True:=by unfold c2b t6;refine tA (c5e s) λ_ _=>tA (orT (e4o (c58 w))) λ_ _=>?_;repeat' first|exact tC trivial|refine tD (λ_=>?_) λ_=>?_
def f2d(x:vQ)(s:A4)(hx:x.steps.length<=2^30):Tot (a84 x s) λ_=>True:=by refine tA (g3i _ _) λ_ _=>tD (λ_=>tC trivial) λ_=>?_;refine tO (I:=λv:(A4×Value)×Int=>-1<=v.2/\v.2<(x.steps.length:Int)) (μ:=λv=>(v.2+1).toNat) ⟨by omega,by omega⟩ (by omega) ?_;rintro r⟨q,k⟩⟨g1,g2⟩ih;refine tD (λ_=>tC trivial) λh=>?_;simp at h;exact tA (c6 h g2) λ_ _=>tD (λ_=>tC trivial) λ_=>ih _ ⟨by omega,by omega⟩ (by omega)
def e67(l:O Int)(hl:l.length<=1000000):Tot (o9 l) λr=>r.length=l.length:=by
 refine tA (Q:=λr:O Int=>r.length=l.length) (tA (Q:=λr:O Int=>r.length=l.length) (tO (I:=λv:(O Int×O Int)×Int=>v.1.2=[]/\0<=v.2/\v.2<=(l.length:Int)/\(v.1.1.length:Int)=v.2) (μ:=λv=>((l.length:Int)-v.2).toNat) ⟨rfl,Int.le_refl _,by omega,rfl⟩ (by omega) ?_) λr hr=>tC hr) λr hr=>?_;.rintro r⟨⟨a,b⟩,k⟩⟨g1,g2,g3,g4⟩ih;unfold a0l;dsimp only at g1 g2 g3 g4⊢;refine tD (λh=>tC (by simp at h;omega)) λh=>?_;simp at h;refine tA (c6 g2 h) λx _=>?_;rw[p6 (by simp only[qR,qS];omega),qA];exact ih _ ⟨rfl,by omega,by omega,by simp;omega⟩ (by omega)
 .unfold b8s;rw[if_pos (by omega),qA];have:(b89 r).length=r.length:=(a8p r).length_eq;exact tC (by omega)
def f6i(l:O Int)(n:Int):Tot (c4b l n) λ_=>True:=by
 unfold c4b;simp only[a1z,qA];refine tA (Q:=λb=>b=false->l.length<=200/\1<=n/\n<=45) (tD (λ_=>tC λh=>by grind) λh=>tA (d5e l) λb hb=>tC λh2=>⟨hb (by simp_all),by simp_all⟩) λb hb=>tD (λ_=>tC trivial) λh=>?_;obtain⟨h1,h2,h3⟩:=hb (by simp_all);refine tA (e67 l (by omega)) λs hs=>?_;rw[e9 (by omega) (by omega)];obtain⟨q,hq,hql⟩:∃q,a1x s (max 0 ((s.length:Int)-n)) (s.length:Int)=some q/\q.length<=200:=⟨_,b26 (by omega) (by omega) (by omega),by rw[List.length_take,List.length_drop];omega⟩;rw[hq,qA];refine tH q (λ(s:Int)i=>((⟨0,0⟩:fQ),s,i)) (λs _=>I64 s) (by omega) (λrec s i y hi hy _ ih=>?_) (λrec s hI=>?_) 0 ⟨by decide,by decide⟩;.rw[if_pos (o6 hi),e7 hy,qA];exact ih _ (d5z _)
 .rw[if_neg (g9 _)];exact tA (d7p hI ⟨by omega,by omega⟩) λ_ _=>tC trivial
def g5g(o:Int)(a b:fQ):Tot (b7z o a b) λ_=>True:=by refine tA (c8o a b) λ_ _=>?_;repeat' first|exact tC trivial|refine tD (λ_=>?_) λ_=>?_
def e95(o:Int)(a b:fQ):Tot (b2w o a b) λ_=>True:=by exact tD (λ_=>tA (f1j a b) λ_ _=>tC trivial) λ_=>tD (λ_=>tA (g4i a b) λ_ _=>tC trivial) λ_=>tD (λ_=>tA (g31 a b) λ_ _=>tC trivial) λ_=>tD (λ_=>tA (g4a a b) λ_ _=>tC trivial) λ_=>tA (c8o a b) λ_ _=>tD (λ_=>tC trivial) λ_=>tC trivial
def c8e(x:vQ)(hx:x.steps.length<=2^30):∀(n m:Nat)(e:Expr),2*n<=m->AR n e->Tot ((c4 m).f_eval_evaluator_expr x e) λ_=>True
 |0,_,_,_,h=>h.elim|n+1,m,e,hm,h=>by
   obtain⟨m,rfl⟩:∃k,m=k+1+1:=⟨m-2,by omega⟩;obtain⟨⟨a1,a2,a3,a4,a5⟩,hA⟩:=h;have g:∀i:Int,0<=i->i<(e.Args.length:Int)->Tot (c7 e.Args i) λy=>AR n y:=λi h0 h1=>(c6 h0 h1).mono λy hy=>hA y hy;have r1:∀y,AR n y->Tot ((c4 (m+1)).f_eval_evaluator_expr x y) λ_=>True:=λy hy=>c8e x hx n (m+1) y (by omega) hy;have r0:∀y,AR n y->Tot ((c4 m).f_eval_evaluator_expr x y) λ_=>True:=λy hy=>c8e x hx n m y (by omega) hy;have un:4<=e.Op->Tot ((c4 (m+1)).f_eval_evaluator_unary x e) λ_=>True:=λh=>by show Tot (a5i (c4 m) x e) _;exact tA (g 0 (by omega) (by omega)) λy hy=>tA (r0 y hy) λ_ _=>tD (λ_=>tC trivial) λ_=>tD (λ_=>tC trivial) λ_=>tD (λ_=>tA (e89 _) λ_ _=>tC trivial) λ_=>tA (f1i _) λ_ _=>tC trivial
   have lo:7<=e.Op->Tot ((c4 (m+1)).f_eval_evaluator_logic x e) λ_=>True:=λh=>by show Tot (a5d (c4 m) x e) _;unfold a5d;simp only[o4,y3,qA];refine tA (g 0 (by omega) (by omega)) λy hy=>tA (r0 y hy) λ_ _=>tD (λ_=>tC trivial) λ_=>tD (λ_=>tC trivial) λ_=>tD (λhc=>?_) λ_=>tA (g 1 (by omega) (by omega)) λy hy=>tA (r0 y hy) λ_ _=>tC trivial;have:=a5 (by simp at hc;omega);exact tA (g 2 (by omega) (by omega)) λy hy=>tA (r0 y hy) λ_ _=>tC trivial
   have j2:7<=e.Op->∀v b,Tot (a2t (c4 (m+1)) (x,e,v,b)) λ_=>True:=λh v b=>by unfold a2t b8n t6 b8c;simp only[o4,qA];refine tD (λ_=>tA (lo h) λ_ _=>tC trivial) λ_=>tA (g 0 (by omega) (by omega)) λy hy=>tA (r1 y hy) λ_ _=>tD (λ_=>tC trivial) λ_=>tA (g 1 (by omega) (by omega)) λy hy=>tA (r1 y hy) λ_ _=>tD (λ_=>tC trivial) λ_=>tD (λ_=>tA (g5g _ _ _) λ_ _=>tC trivial) λ_=>tA (e95 _ _ _) λ_ _=>tD (λ_=>tC trivial) λ_=>tA (Q:=λ_=>True) (tD (λ_=>tC trivial) λ_=>tD (λ_=>tC trivial) λ_=>tC trivial) λ_ _=>tC trivial
   have j1:4<=e.Op->∀v b,(b=false->7<=e.Op)->Tot (a2s (c4 (m+1)) (x,e,v,e.Op,b)) λ_=>True:=λh v b hb=>by refine tD (λ_=>tA (un h) λ_ _=>tC trivial) λh'=>?_;have h7:=hb (by simpa using h');exact tD (λ_=>j2 h7 _ _) λ_=>tD (λ_=>j2 h7 _ _) λ_=>j2 h7 _ _
   show Tot (a5u (c4 (m+1)) x e) _;refine tD (λ_=>tC trivial) λh1=>tD (λ_=>tA (f2d x _ hx) λ_ _=>tC trivial) λh2=>tD (λ_=>tA (f6i _ _) λ_ _=>tC trivial) λh3=>?_;simp at h1 h2 h3;have h4:4<=e.Op:=by omega
   exact tD (λh=>j1 h4 _ _ λe=>by rw[h]at e;cases e) λh5=>tD (λh=>j1 h4 _ _ λe=>by rw[h]at e;cases e) λh6=>j1 h4 _ _ λe=>by simp at h5 h6 e;omega
def c6z(s:A4):∀(n m:Nat)(e:Expr),4*n<=m->EB n e->Tot ((d5 m).f_eval_mentions e s) λ_=>True|0,_,_,_,h=>h.elim|n+1,m,e,hm,h=>by obtain⟨m,rfl⟩:∃k,m=k+1+1+1+1:=⟨m-4,by omega⟩;show Tot (b2a (d5 (m+1+1+1)) e s) _;unfold b2a;simp only[o4,qA];refine tA (Q:=λ_=>True) (orT (tA (c12 e.Args (λy=>(d5 (m+1)).f_eval_mentions_1 y s) (λ_=>True) (by have:=h.1;omega) λy hy=>?_) λ_ _=>tC trivial)) λ_ _=>tC trivial;exact tA (c6z s n m y (by omega) (h.2.2 y hy)) λ_ _=>tC λ_=>trivial
def f1d{e:Expr}(s:A4)(h:EB 8001 e):Tot (b95 e s) λ_=>True:=c6z s 8001 FU e (by unfold FU;omega) h
def g3e(l:O Int)(P:Int->Prop)(h:∀x∈l,P x)(hl:l.length<=2^30):Tot (a68 l) λr=>r.length=l.length/\∀x∈r,P x:=by
 refine tO (I:=λv:O Int×Int×Int=>(v.1.length=l.length/\∀x∈v.1,P x)/\0<=v.2.1/\v.2.2<(l.length:Int)/\v.2.1<=2^31/\-2^31<=v.2.2) (μ:=λv=>(v.2.2-v.2.1).toNat) ⟨⟨rfl,h⟩,Int.le_refl _,by rw[e9 (by omega) (by omega)];grind,by simp_all,by rw[e9 (by omega) (by omega)];grind⟩ (by rw[e9 (by omega) (by omega)];grind) ?_;rintro r⟨q,i,j⟩⟨⟨g1,g2⟩,g3,g4,g5,g6⟩ih;dsimp only at g1 g2 g3 g4 g5 g6⊢;refine tD (λhc=>?_) λ_=>tC ⟨g1,g2⟩;simp at hc;obtain⟨a,ha,ma⟩:=c6 (l:=q) (i:=j) (by omega) (by omega);obtain⟨b,hb,mb⟩:=c6 (l:=q) (i:=i) (by omega) (by omega);simp only[ha,hb,qA];refine tA (c6 (by omega) (by rw[a34];omega)) λ_ _=>tA (c6 (by omega) (by rw[a34];omega)) λ_ _=>?_;rw[e9 (n:=i+1) (by omega) (by omega),e9 (n:=j-1) (by omega) (by omega)];refine ih _ ⟨⟨by rw[a34,a34];omega,λx hx=>?_⟩,by dsimp only;omega,by dsimp only;omega,by dsimp only;omega,by dsimp only;omega⟩ (by dsimp only;omega);rcases b6b hx with rfl|hx;.exact g2 _ mb
 .rcases b6b hx with rfl|hx;.exact g2 _ ma
  .exact g2 x hx
def f8t{e:Expr}(l:O Let)(he:EB 8001 e)(hl:l.length<=10)(h:∀x∈l,EB 8001 x.Body):Tot (c4e e l) λr=>r.length<=10/\∀x∈r,0<=x/\x<(l.length:Int):=by
 unfold c4e;refine tO (I:=λv:Expr×O Int×Int=>v.1=e/\(-1<=v.2.2/\v.2.2<(l.length:Int))/\(v.2.1.length:Int)+v.2.2+1<=10/\∀x∈v.2.1,0<=x/\x<(l.length:Int)) (μ:=λv=>(v.2.2+1).toNat) ⟨rfl,⟨by rw[e9 (by omega) (by omega)];grind,by rw[e9 (by omega) (by omega)];grind⟩,by rw[e9 (by omega) (by omega)];grind,by simp⟩ (by rw[e9 (by omega) (by omega)];grind) ?_;rintro r⟨e',u,k⟩⟨g1,⟨g2,g3⟩,g4,g5⟩ih;dsimp only at g1 g2 g3 g4 g5⊢;subst g1;refine tD (λhk=>?_) λ_=>tA (g3e u _ g5 (by omega)) λq hq=>tC ⟨by omega,hq.2⟩;simp at hk;obtain⟨y,hy,my⟩:=c6 (l:=l) (i:=k) hk g3;simp only[hy,qA];refine tA (f1d _ he) λb _=>?_;refine tH u (λ(b:Bool)i=>(e',u,b,i)) (λ_ _=>True) (by omega) (λrec b i z hi hz _ ih2=>?_) (λrec b _=>?_) b trivial;.rw[if_pos (o6 hi)];simp only[e7 hz,qA];have hz5:=g5 z (qE hz);exact tA (Q:=λ_=>True) (orT (tA (c6 hz5.1 hz5.2) λt ht=>tA (f1d _ (h t ht)) λ_ _=>tC trivial)) λ_ _=>ih2 _ trivial
 .rw[if_neg (g9 _),e9 (n:=k-1) (by omega) (by omega)];refine tD (λ_=>?_) λ_=>ih _ ⟨rfl,⟨by dsimp only;omega,by dsimp only;omega⟩,by dsimp only;omega,g5⟩ (by dsimp only;omega);rw[p6 (by simp only[qR,qS];omega),qA];exact ih _ ⟨rfl,⟨by dsimp only;omega,by dsimp only;omega⟩,by simp;omega,λx hx=>(b4a hx).elim (g5 x) λe=>by omega⟩ (by dsimp only;omega)
def d17(x:vQ){e:Expr}(l:O Let)(o:O Bool)(s:A4)(t:O Step)(he:EB 8001 e/\AR 8001 e)(hl:l.length<=10)(h:∀y∈l,EB 8001 y.Body/\AR 8001 y.Body)(ho:o.length=l.length)(ht:t.length<=1000):Tot (a3e x e l o s t) λr=>r.2.2.1.length=l.length/\r.2.2.2.length<=t.length+11/\(r.1=0->1<=r.2.2.2.length):=by
 have ev:∀(t:O Step)(e:Expr),t.length<=2000->AR 8001 e->Tot (b1n (⟨x.view,t⟩:vQ) e) λ_=>True:=λt e ht h=>c8e _ (by grind) 8001 FU e (by unfold FU;omega) h;have nz:∀k:Int,(k !=0)=true->k≠0:=λk h e=>by simp_all
 refine tA (f8t l he.1 hl λy hy=>(h y hy).1) λu hu=>?_;refine tH u (λ(q:O Step×O Bool)i=>(q.1,(⟨x.view,[]⟩:vQ),q.2,e,u,i)) (λq i=>q.1.length<=t.length+i/\q.2.length=l.length) (by omega) (λrec q i z hi hz hI ih=>?_) (λrec q hI=>?_) (t,o) ⟨Nat.le_refl _,ho⟩;.dsimp only;rw[if_pos (o6 hi)];simp only[e7 hz,qA];have hz2:=hu.2 z (qE hz);obtain⟨b,hb,_⟩:=c6 (l:=q.2) (i:=z) hz2.1 (by omega);obtain⟨y,hy,my⟩:=c6 (l:=l) (i:=z) hz2.1 hz2.2;simp only[hb,hy,qA];refine tD (λ_=>ih q ⟨by omega,hI.2⟩) λ_=>tA (ev q.1 y.Body (by omega) (h y my).2) λa _=>tD (λhn=>tC ⟨hI.2,by dsimp only;omega,λe=>absurd e (nz _ hn)⟩) λ_=>?_;rw[p6 (by simp only[qR,qS];omega),qA];exact ih (_,_) ⟨by simp;omega,(a34 ..).trans hI.2⟩
 .dsimp only;rw[if_neg (g9 _)];refine tA (ev q.1 e (by omega) he.2) λa _=>tD (λhn=>tC ⟨hI.2,by grind,λe=>absurd e (nz _ hn)⟩) λ_=>?_;rw[p6 (by simp only[qR,qS];omega),qA];exact tC ⟨hI.2,by simp;omega,λ_=>by simp⟩
def e2h(x:vQ)(h:1<=x.steps.length)(h2:x.steps.length<=2^30):Tot (a55 x) λ_=>True:=by unfold a55;rw[e9 (by omega) (by omega)];exact tA (c6 (by omega) (by omega)) λ_ _=>tC trivial
def e7p{v:Version}(hv:VE v)(b:Int)(w:View):Tot (c2a v b w) λr=>r.1.Steps.length<=22:=by
 refine tA (Q:=λr=>r=0->VArg v) ?_ λr hr=>tD (λ_=>tC (Nat.zero_le _)) λh0=>?_;.exact tA (c58 w) λ_ _=>tD (λ_=>tC λh=>by omega) λ_=>tA (hv.ty) λr hr=>tC hr
 obtain⟨a1,a2,a3⟩:=hr (by simp_all);obtain⟨h1,h2,h3,h4,h5,h6,h7,h8⟩:=hv.vg;refine tA (d3e v.Grants (λy=>c1o y b) (λ_=>True) (by omega) λ_ _=>tC λ_=>trivial) λi hi=>tD (λ_=>tC (Nat.zero_le _)) λhn=>?_;simp at hn;have hm:mkI 1 false (v.Lets.length:Int) (v.Lets.length:Int)=some (List.replicate v.Lets.length false):=by unfold mkI;rw[if_pos ⟨by omega,rfl,by omega,by omega⟩,Int.toNat_natCast]
 rw[hm,qA];have hb:∀y∈v.Lets,EB 8001 y.Body/\AR 8001 y.Body:=λy hy=>⟨(h6 y hy).2,a2 y hy⟩;refine tA (c6 hn hi.2.1) λg hg=>tA (d17 _ v.Lets _ _ [] ⟨(h7 g hg).1,(a3 g hg).1⟩ a1 hb (by simp) (by simp)) λq hq=>tD (λ_=>tC (Nat.zero_le _)) λhz=>?_;have l1:=hq.2.2 (by simpa using hz);have l2:=hq.2.1;simp only[qS]at l2;refine tA (e2h _ l1 (by dsimp only;omega)) λz _=>tD (λ_=>?_) λ_=>tC (by dsimp only;omega);refine tA (c6 hn hi.2.1) λg hg=>tA (d17 _ v.Lets _ _ _ ⟨(h7 g hg).2,(a3 g hg).2⟩ a1 hb hq.1 (by omega)) λp hp=>tD (λ_=>tC (Nat.zero_le _)) λhz=>?_;have l3:=hp.2.2 (by simpa using hz);exact tA (e2h _ l3 (by dsimp only;omega)) λ_ _=>tD (λ_=>tC (by dsimp only;omega)) λ_=>tC (by dsimp only;omega)
end Go.PL
