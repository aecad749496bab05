/- Texts of the proof, joined. -/
import Derived.Test.YtpiclagiijpbkaaGreatDoorP7
import Derived.KernelRfl
set_option linter.defProp false
set_option linter.unusedVariables false
set_option linter.unusedSimpArgs false
set_option maxRecDepth 100000
open List
namespace Go.PL
open Go Go.SX
def m12 (a b:Int):a7g a b=a9s a b:=rfl
def h8c {a:Int}(h:I64 a):j5 a=some (a.natAbs:Int):=by
 unfold j5 I64 at*
 split
 ·rename_i hc;simp at hc;simp only [g2l];congr 1;omega
 ·rename_i hc;simp at hc;simp only [g2l];congr 1;omega
def h8n {a:Int}(h:I64 a):a43 a=some (a.natAbs:Int):=by
 unfold a43 I64 at*
 split
 ·rename_i hc;simp at hc;rw [e9 (n:=a+1) (by omega) (by omega),e9 (by omega) (by omega)];simp only [g2l];congr 1;omega
 ·rename_i hc;simp at hc;simp only [g2l];congr 1;omega
def FOK.u {f:fQ}(h:FOK f):u64 f.Den=(f.Den.natAbs:Int):=by unfold FOK at h;rw [b83 (by omega) (by omega)];omega
def h6k (f:fQ):o7 f=a1h f:=by
 unfold o7 a1h
 simp only [a7h,qA,o4]
 by_cases h:FOK f
 ·have hu:=h.u
  obtain ⟨h1,h2,h3⟩:=h.i
  rw [h8c h1,h8c h2,h8n h1,hu]
  rfl
 ·rw [if_neg (by unfold FOK at h;grind),if_neg (by unfold FOK at h;grind)]
def vOK {f:fQ}(h:a1h f=some true):FOK f:=by
 obtain ⟨b,e,hb⟩:=b2t f
 rw [h6k,h] at e
 exact hb (qH e).symm
def toP (w:pensionref1_wide):rational_wide:=⟨w.hi,w.lo⟩
def i22 {n m:Bool}{a b c d:Int}(h:n=m \/ a=0 \/ c=0):a73 n a b c d=h5b m a b c d:=by
 unfold a73 h5b a4g k2g a70
 simp only [m12]
 cases a9s a d with
 | none=>rfl
 | some g=>
   cases a9s c b with
   | none=>rfl
   | some k=>
     simp only [qA]
     by_cases hg:g=0
     ·simp only [hg,if_true];rfl
     by_cases hk:k=0
     ·simp only [hg,hk,if_true,if_false];rfl
     simp only [if_neg hg,if_neg hk,qA]
     obtain ⟨y,hy,-⟩:=c3x (u64 (b.tdiv k)) (u64 (d.tdiv g))
     have r1:=b51 (a.tdiv g)
     have r2:=b51 (c.tdiv k)
     rw [k5m r1.1 (by omega) r2.1 (by omega)]
     simp only [hy,qA,y3]
     rcases h with rfl | h
     ·split
      ·rfl
      ·split<;>rfl
     ·have e0:u64 (a.tdiv g)*u64 (c.tdiv k)=0:=by
       rcases h with rfl | rfl
       ·rw [Int.zero_tdiv,show u64 0=0 from rfl,Int.zero_mul]
       ·rw [Int.zero_tdiv,show u64 0=0 from rfl,Int.mul_zero]
      rw [e0]
      split
      ·rfl
      ·cases n<;>cases m<;>rfl
def sgn (a b:Int):((a<0 /\ b>0 \/ a>0 /\ b<0:Bool)=((decide (a<0)) != (decide (b<0)))) \/ (a.natAbs:Int)=0 \/ (b.natAbs:Int)=0:=by
 by_cases h1:a=0
 ·right;left;omega
 by_cases h2:b=0
 ·right;right;omega
 left
 by_cases h3:a<0<;>by_cases h4:b<0<;>simp [h3,h4]<;>omega
def d9f (a b:fQ): ∃c:Bool,(∀(γ:Type)(k:Bool -> A3 γ),((a1h a).bind fun v1=>(if (!v1)=true then some true else (a1h b).bind fun v2=>some (!v2)).bind k)=k c) /\ (c=false -> (a1h a=some true /\ FOK a) /\ a1h b=some true /\ FOK b):=by
 obtain ⟨x,hx,hA⟩:=b2t a
 obtain ⟨y,hy,hB⟩:=b2t b
 rw [h6k] at hx hy
 refine ⟨!(x&&y),fun γ k=> ?_,fun h=> ?_⟩
 ·rw [hx,hy];cases x<;>cases y<;>rfl
 ·cases x<;>cases y<;>simp at h
  exact ⟨⟨hx,hA rfl⟩,hy,hB rfl⟩
def l3w (a b:fQ):b7j a b=h4v a b:=by
 unfold b7j h4v
 obtain ⟨c,hc,h⟩:=d9f a b
 rw [h6k,h6k,hc,hc]
 cases c
 ·obtain ⟨⟨_,hA⟩,_,hB⟩:=h rfl
  obtain ⟨a1,a2,a3⟩:=hA.i
  obtain ⟨b1,b2,b3⟩:=hB.i
  simp only [qM,if_false]
  simp only [a7h,y3,a1z,qA,h8c a1,h8c a2,h8c b1,h8c b2,h8n a1,h8n b1,hA.u,hB.u]
  rw [i22 (m:=(decide (a.Num<0)) != (decide (b.Num<0)))]
  have:=sgn a.Num b.Num
  grind
 ·rfl
def l43 (a b:fQ):b7o a b=h4u a b:=by
 unfold b7o h4u
 obtain ⟨c,hc,h⟩:=d9f a b
 rw [h6k,h6k,hc,hc]
 cases c
 ·obtain ⟨⟨_,hA⟩,_,hB⟩:=h rfl
  obtain ⟨a1,a2,a3⟩:=hA.i
  obtain ⟨b1,b2,b3⟩:=hB.i
  simp only [qM,if_false]
  by_cases hz:(b.Num==0)=true
  ·rw [if_pos hz,if_pos hz]
  rw [if_neg hz,if_neg hz]
  simp only [a7h,y3,a1z,qA,h8c a1,h8c a2,h8c b1,h8c b2,h8n a1,h8n b1,hA.u,hB.u]
  rw [i22 (m:=(decide (a.Num<0)) != (decide (b.Num<0)))]
  have:=sgn a.Num b.Num
  simp at hz
  have:(b.Den.natAbs:Int)≠0:=by omega
  grind
 ·rfl
def k70 {a b:Nat}(hb:b≠0):((b:Int) != 0)=true /\ b8t (a:Int) (b:Int)=some ((a%b:Nat):Int):=by
 refine ⟨by simpa using hb,?_⟩
 rw [d04 (by exact_mod_cast hb),Int.tmod_eq_emod_of_nonneg (Int.natCast_nonneg a)]
 rfl
def k5e (a b:Nat)(h:b<2^64):a9s a b=some (Nat.gcd a b:Int):=by
 obtain ⟨r,h1,h2⟩:Tot (a9s a b) fun r=>r=(Nat.gcd a b:Int):=by
  refine tO (I:=fun s:Int×Int=> ∃x y:Nat,s=((x:Int),(y:Int)) /\ Nat.gcd x y=Nat.gcd a b) (μ:=fun s=>s.2.toNat) ⟨a,b,rfl,rfl⟩ (by dsimp only;omega) ?_
  rintro r s ⟨x,y,rfl,hg⟩ ih
  unfold b7e
  dsimp only
  by_cases h0:y=0
  ·subst h0
   rw [if_neg (by simp)]
   exact tC (by rw [<- hg];simp)
  ·obtain ⟨e1,e2⟩:=k70 (a:=x) h0
   rw [if_pos e1,e2,qA]
   refine ih _ ⟨y,x%y,rfl,?_⟩ ?_
   ·rw [<- hg,Nat.gcd_comm x y,Nat.gcd_rec y x,Nat.gcd_comm]
   ·have:=Nat.mod_lt x (Nat.pos_of_ne_zero h0)
    simp only [Int.toNat_natCast];exact this
 rw [h1,h2]
def l4e {n d:Nat}(hn:n<2^63):u64 (Int.tdiv (n:Int) (d:Int))=((n/d:Nat):Int):=by
 have h:=Nat.div_le_self n d
 rw [Int.tdiv_eq_ediv_of_nonneg (Int.natCast_nonneg n),show (n:Int)/(d:Int)=((n/d:Nat):Int) from rfl]
 generalize n/d=q at h⊢
 exact b83 (by omega) (by omega)
def k5b {n d:Nat}(hd:0<d)(hd1:d<2^63)(hn:n<2^63):a3h ⟨0,n⟩ d=some (⟨0,(n/d:Nat)⟩,((n%d:Nat):Int)):=by
 have h0:(d:Int)≠0:=by omega
 have hd':d≠0:=by omega
 unfold a3h
 have e1:b8t 0 (d:Int)=some 0:=by rw [d04 h0];simp
 have e2:a8o 0 (n:Int) (d:Int)=some (((n/d:Nat):Int),((n%d:Nat):Int)):=by
  unfold a8o joinC b9j joinC b9t
  rw [if_neg (by simpa using hd'),if_neg (by simp;omega),if_pos (by simp)]
  simp only [if_neg h0,qA]
  simp only [l4e hn,(k70 (a:=n) hd').2,qA]
 simp only [e1,e2,qA,if_neg h0]
 have e3:u64 (Int.tdiv 0 (d:Int))=0:=by simp;rfl
 rw [e3]
def k41 {m:Bool}{n d:Nat}(hd:0<d)(hd1:d<2^63)(hn:n<2^63)(h1:n/Nat.gcd n d <= 1000000000000000)(h2:d/Nat.gcd n d <= 1000000000):
  b2l m ⟨0,n⟩ d=some (⟨if m then-((n/Nat.gcd n d:Nat):Int) else ((n/Nat.gcd n d:Nat):Int),(d/Nat.gcd n d:Nat)⟩,0):=by
 have hg:Nat.gcd d (n%d)=Nat.gcd n d:=by rw [Nat.gcd_comm n d,Nat.gcd_rec d n,Nat.gcd_comm]
 have hp:0<Nat.gcd n d:=Nat.gcd_pos_of_pos_right _ hd
 have hl:Nat.gcd n d <= d:=Nat.gcd_le_right _ hd
 unfold b2l
 rw [k5b hd hd1 hn,qA,k5e d (n%d) (by have:=Nat.mod_lt n hd;omega),hg,qA,k5b hp (by omega) hn,qA,if_neg (by omega),qA]
 rw [l4e hd1]
 generalize n/Nat.gcd n d=a at*
 generalize d/Nat.gcd n d=b at*
 have c1:decide ((a:Int)>1000000000000000)=false:=by simp;omega
 have c2:decide ((b:Int)>1000000000)=false:=by simp;omega
 simp only [c1,c2,bne_self_eq_false,qM,if_false,qA]
 rw [e9 (n:=(a:Int)) (by omega) (by omega),e9 (n:=(b:Int)) (by omega) (by omega),e9 (n:= -(a:Int)) (by omega) (by omega)]
 cases m<;>rfl
def i2q {a b:pensionref1_wide}(ha:WW (toP a))(hb:WW (toP b)): ∃c,k2f a b=some c /\ a98 (toP a) (toP b)=some (toP c):=by
 obtain ⟨⟨a1,a2⟩,a3,a4⟩:=ha
 obtain ⟨⟨b1,b2⟩,b3,b4⟩:=hb
 unfold a98 k2f c23 g7y toP at*
 dsimp only at*
 rw [if_pos (by omega)]
 simp only [qA]
 rw [if_pos (by omega)]
 refine ⟨_,rfl,?_⟩
 simp only [qA,g2l]
 congr 2
 omega
def i00 {a b:pensionref1_wide}(ha:WW (toP a))(hb:WW (toP b)): ∃c,k2i a b=some c /\ a4w (toP a) (toP b)=some (toP c):=by
 obtain ⟨⟨a1,a2⟩,a3,a4⟩:=ha
 obtain ⟨⟨b1,b2⟩,b3,b4⟩:=hb
 unfold a4w k2i c1u g8x toP at*
 dsimp only at*
 rw [if_pos (by omega)]
 simp only [qA]
 by_cases h:a.lo<b.lo+0
 all_goals
  simp only [h,if_true,if_false]
  rw [if_pos (by omega)]
  refine ⟨_,rfl,?_⟩
  simp only [qA,g2l]
  congr 2
  omega
def i0g (a b z:fQ)(hA:FOK a)(hB:FOK b){w:pensionref1_wide}(hw:WW (toP w)){n m:Bool}(hn:n=m \/ w=⟨0,0⟩):a9g (a,b,z,toP w,n)=(b2l m w (u64 ((u64 a.Den)*(u64 b.Den)))).bind fun v=>some (v.1,v.2):=by
 obtain ⟨a1,a2,a3⟩:=hA.i
 obtain ⟨b1,b2,b3⟩:=hB.i
 unfold a9g
 dsimp only
 simp only [h8c a2,h8c b2,qA,hA.u,hB.u]
 unfold FOK at hA hB
 have p0:0<(a.Den.natAbs:Int)*(b.Den.natAbs:Int):=Int.mul_pos (by omega) (by omega)
 have p1:(a.Den.natAbs:Int)*(b.Den.natAbs:Int) <= 1000000000*1000000000:=Int.mul_le_mul (by omega) (by omega) (by omega) (by omega)
 rw [b83 (by omega) (by omega)]
 generalize (a.Den.natAbs:Int)*(b.Den.natAbs:Int)=d at*
 by_cases h0:w=⟨0,0⟩
 ·subst h0
  obtain ⟨e,rfl⟩:=qT (show 0 <= d by omega)
  have:=k41 (m:=m) (n:=0) (d:=e) (by omega) (by omega) (by decide) (by simp) (by rw [Nat.gcd_zero_left,Nat.div_self (by omega)];decide)
  rw [show ((0:Nat):Int)=0 from rfl] at this
  rw [this]
  simp only [toP,BEq.rfl,Bool.and_true,if_true,qA,Nat.gcd_zero_left,Nat.zero_div,Nat.div_self (show 0<e by omega)]
  cases m<;>rfl
 have hn:n=m:=hn.resolve_right h0
 subst hn
 have hz: ¬(((toP w).hi==0)&&(((toP w).lo==0)&&true))=true:=by
  intro h
  simp [toP] at h
  exact h0 (by obtain ⟨x,y⟩:=w;simp at h;rw [h.1,h.2])
 rw [if_neg hz]
 unfold c25 b2l a3h a8z
 simp only [d04 (show d≠0 by omega),qA,if_neg (show¬d=0 by omega)]
 show (Option.bind (Option.bind (a8o (w.hi.tmod d) w.lo d) _) _)=_
 cases a8o (w.hi.tmod d) w.lo d with
 | none=>rfl
 | some q=>
   simp only [qA,m12]
   cases a9s d q.2 with
   | none=>rfl
   | some g=>
     simp only [qA]
     by_cases hg:g=0
     ·subst hg
      simp only [if_true,Option.bind_none]
      rfl
     simp only [if_neg hg,qA,d04 hg]
     show (Option.bind (Option.bind (a8o (w.hi.tmod g) w.lo g) _) _)=_
     cases a8o (w.hi.tmod g) w.lo g with
     | none=>rfl
     | some y=>
       unfold a70
       simp only [qA,y3,toP,bne_self_eq_false,Bool.or_false]
def l48 (a b:fQ):b4q a b=k2d a b:=by
 unfold b4q k2d
 obtain ⟨c,hc,h⟩:=d9f a b
 rw [h6k,h6k,hc,hc]
 cases c
 ·obtain ⟨⟨_,hA⟩,_,hB⟩:=h rfl
  obtain ⟨a1,a2,a3⟩:=hA.i
  obtain ⟨b1,b2,b3⟩:=hB.i
  have uA:=hA.u
  have uB:=hB.u
  simp only [qM,if_false,h8c a1,h8c a2,h8c b1,h8c b2,h8n a1,h8n b1,qA]
  rw [<- uA,<- uB]
  unfold a4g k2g
  obtain ⟨x,hx,hx2⟩:=c3x (a.Num.natAbs:Int) (u64 b.Den)
  obtain ⟨y,hy,hy2⟩:=c3x (b.Num.natAbs:Int) (u64 a.Den)
  simp only [hx,hy,qA]
  have wx:WW (toP ⟨x.1,x.2⟩):=hx2
  have wy:WW (toP ⟨y.1,y.2⟩):=hy2
  obtain ⟨p,p1,p2⟩:=i2q wx wy
  obtain ⟨q,q1,q2⟩:=i00 wx wy
  obtain ⟨r,r1,r2⟩:=i00 wy wx
  have wp:WW (toP p):=by obtain ⟨z,e,hz⟩:=f4i wx wy;rw [p2] at e;exact qH e▸hz
  have wq:WW (toP q):=by obtain ⟨z,e,hz⟩:=d7w wx wy;rw [q2] at e;exact qH e▸hz
  have wr:WW (toP r):=by obtain ⟨z,e,hz⟩:=d7w wy wx;rw [r2] at e;exact qH e▸hz
  have p3:a98 ⟨x.1,x.2⟩ ⟨y.1,y.2⟩=some (toP p):=p2
  have q3:a4w ⟨x.1,x.2⟩ ⟨y.1,y.2⟩=some (toP q):=q2
  have r3:a4w ⟨y.1,y.2⟩ ⟨x.1,x.2⟩=some (toP r):=r2
  have l3:a3u ⟨x.1,x.2⟩ ⟨y.1,y.2⟩=k2j ⟨x.1,x.2⟩ ⟨y.1,y.2⟩:=rfl
  simp only [p1,p3,q1,q3,r1,r3,l3,qA,joinC]
  by_cases hs:(decide (a.Num<0)==decide (b.Num<0))=true
  ·rw [if_pos hs,if_pos hs];exact i0g a b _ hA hB wp (.inl rfl)
  ·rw [if_neg hs,if_neg hs]
   refine congrArg (Option.bind _) (funext fun v=> ?_)
   cases v
   ·simp only [qM,if_false];exact i0g a b _ hA hB wq (.inl rfl)
   ·simp only [if_true];exact i0g a b _ hA hB wr (.inl (by cases ha:decide (a.Num<0)<;>cases hb:decide (b.Num<0)<;>simp_all))
 ·rfl
def h7o {f:fQ}:a1h f=some true↔FOK f /\ Nat.gcd f.Num.natAbs f.Den.natAbs=1:=by
 constructor
 ·intro h
  have hF:=vOK h
  refine ⟨hF,?_⟩
  have hu:=hF.u
  obtain ⟨h1,h2,h3⟩:=hF.i
  unfold a1h at h
  simp only [a7h,qA,o4] at h
  rw [if_pos (by unfold FOK at hF;simp_all),h8n h1,hu,qA,k5e _ _ (by unfold FOK at hF;omega)] at h
  simp at h
  omega
 ·rintro ⟨hF,hg⟩
  have hu:=hF.u
  obtain ⟨h1,h2,h3⟩:=hF.i
  unfold a1h
  simp only [a7h,qA,o4]
  rw [if_pos (by unfold FOK at hF;simp_all),h8n h1,hu,qA,k5e _ _ (by unfold FOK at hF;omega),hg]
  rfl
abbrev VF (f:fQ):Prop:=a1h f=some true
def VF.n {f:fQ}(h:VF f):o7 f=some true:=(h6k f).trans h
def l95 {a b c d:Nat}(hb:Nat.gcd a b=1)(hd:Nat.gcd c d=1)(h:a*d=c*b)(hb0:0<b):a=c /\ b=d:=by
 have h1:b ∣ d:=Nat.Coprime.dvd_of_dvd_mul_left (Nat.Coprime.symm hb) ⟨c,by rw [h,Nat.mul_comm]⟩
 have h2:d ∣ b:=Nat.Coprime.dvd_of_dvd_mul_left (Nat.Coprime.symm hd) ⟨a,by rw [<- h,Nat.mul_comm]⟩
 have h3:=Nat.dvd_antisymm h1 h2
 subst h3
 exact ⟨Nat.eq_of_mul_eq_mul_right hb0 h,rfl⟩
def l44 {x y z t:Int}(hx:0 <= x /\ x<18446744073709551616)(hy:0 <= y /\ y<18446744073709551616)(hz:0 <= z /\ z<18446744073709551616)(ht:0 <= t /\ t<18446744073709551616): ∃v w,k2g x y=some v /\ k2g z t=some w /\ a4g x y=some (toP v) /\ a4g z t=some (toP w) /\ k2j v w=some (decide (x*y<z*t)) /\ k2j w v=some (decide (z*t<x*y)):=by
 unfold k2g a4g
 rw [k5m hx.1 hx.2 hy.1 hy.2,k5m hz.1 hz.2 ht.1 ht.2]
 refine ⟨_,_,rfl,rfl,rfl,rfl,?_,?_⟩
 all_goals
  unfold k2j
  generalize x*y=p
  generalize z*t=q
  simp only [a7h,a1z,qA,o4,y3]
  congr 1
  rw [Bool.eq_iff_iff]
  simp
  omega
def h6y (a b:fQ): ∃c e,a8g a b=some (c,e) /\ h4q a b=some (c,e) /\ (VF a -> VF b -> e=0 /\ (0 <= a.Num -> 0 <= b.Num -> (c <= 0↔a.Num*b.Den <= b.Num*a.Den)) /\ (c=0 -> a=b)):=by
 unfold a8g h4q
 obtain ⟨c,hc,h⟩:=d9f a b
 rw [h6k,h6k,hc,hc]
 cases c
 ·obtain ⟨⟨vA,hA⟩,vB,hB⟩:=h rfl
  obtain ⟨a1,a2,a3⟩:=hA.i
  obtain ⟨b1,b2,b3⟩:=hB.i
  have uA:=hA.u
  have uB:=hB.u
  obtain ⟨_,gA⟩:=h7o.1 vA
  obtain ⟨_,gB⟩:=h7o.1 vB
  unfold FOK at hA hB
  unfold h7p
  obtain ⟨v,w,e1,e2,e3,e4,e5,e6⟩:=l44 (x:=(a.Num.natAbs:Int)) (y:=(b.Den.natAbs:Int)) (z:=(b.Num.natAbs:Int)) (t:=(a.Den.natAbs:Int)) (by omega) (by omega) (by omega) (by omega)
  have e7:a3u (toP v) (toP w)=some (decide ((a.Num.natAbs:Int)*(b.Den.natAbs:Int)<(b.Num.natAbs:Int)*(a.Den.natAbs:Int))):=e5
  have e8:a3u (toP w) (toP v)=some (decide ((b.Num.natAbs:Int)*(a.Den.natAbs:Int)<(a.Num.natAbs:Int)*(b.Den.natAbs:Int))):=e6
  simp only [qM,if_false,h8c a1,h8c a2,h8c b1,h8c b2,h8n a1,h8n b1,uA,uB,e1,e2,e3,e4,e5,e6,e7,e8,qA,joinC,a83]
  by_cases hs:((decide (a.Num<0)) != (decide (b.Num<0)))=true
  ·have hne: ¬((a.Num==b.Num)&&((a.Den==b.Den)&&true))=true:=by
    intro h
    simp at h
    rw [h.1] at hs
    simp at hs
   rw [if_pos hs,if_neg hne,if_pos hs]
   split
   ·exact ⟨_,_,rfl,rfl,fun _ _=>⟨rfl,fun h1 h2=>(by rw [decide_eq_false (by omega),decide_eq_false (by omega)] at hs;cases hs),fun h=>by cases h⟩⟩
   ·exact ⟨_,_,rfl,rfl,fun _ _=>⟨rfl,fun h1 h2=>(by rw [decide_eq_false (by omega),decide_eq_false (by omega)] at hs;cases hs),fun h=>by cases h⟩⟩
  rw [if_neg hs,if_neg hs]
  by_cases he:((a.Num==b.Num)&&((a.Den==b.Den)&&true))=true
  ·simp at he
   obtain ⟨h1,h2⟩:=he
   simp only [h1,h2,BEq.rfl,Bool.and_true,if_true,Int.lt_irrefl,decide_false,qM,if_false,qA,ite_self]
   exact ⟨_,_,rfl,rfl,fun _ _=>⟨rfl,fun _ _=>by simp,fun _=>by cases a;cases b;simp_all⟩⟩
  ·rw [if_neg he]
   have hne:(a.Num.natAbs:Int)*(b.Den.natAbs:Int)≠(b.Num.natAbs:Int)*(a.Den.natAbs:Int):=by
    intro h
    obtain ⟨k1,k2⟩:=l95 gA gB (by exact_mod_cast h) (by omega)
    apply he
    have:decide (a.Num<0)=decide (b.Num<0):=by simpa using hs
    have:a.Num<0↔b.Num<0:=by simpa using this
    simp
    omega
   have hle:0 <= a.Num -> 0 <= b.Num -> a.Num*b.Den=(a.Num.natAbs:Int)*(b.Den.natAbs:Int) /\ b.Num*a.Den=(b.Num.natAbs:Int)*(a.Den.natAbs:Int):=fun h1 h2=>by
    rw [show (a.Num.natAbs:Int)=a.Num by omega,show (b.Num.natAbs:Int)=b.Num by omega,show (a.Den.natAbs:Int)=a.Den by omega,show (b.Den.natAbs:Int)=b.Den by omega];exact ⟨rfl,rfl⟩
   generalize (a.Num.natAbs:Int)*(b.Den.natAbs:Int)=p at*
   generalize (b.Num.natAbs:Int)*(a.Den.natAbs:Int)=q at*
   by_cases hn:a.Num<0<;>by_cases hp:p<q
   all_goals
    have hq:(q<p)↔ ¬(p<q):=by omega
    simp only [hn,hp,hq,not_true_eq_false,not_false_eq_true,decide_true,decide_false,if_true,if_false,qM,qA,BEq.rfl,show (true==false)=false from rfl,show (false==true)=false from rfl]
    exact ⟨_,_,rfl,rfl,fun _ _=>⟨rfl,fun h1 h2=>by have:=hle h1 h2;omega,fun h=>by cases h⟩⟩
 ·refine ⟨_,_,rfl,rfl,fun v w=> ?_⟩
  have:=hc Int fun b=>if b then some 1 else some 0
  rw [v,w] at this
  simp at this
def h6w {n:Int}(h0: -1000000000000000 <= n)(h1:n <= 1000000000000000):VF ⟨n,1⟩:=h7o.2 ⟨⟨Int.le_refl 1,show (1:Int) <= 1000000000 by decide,h0,h1⟩,by simp⟩
def i3j {n d m k:Nat}(h1:Nat.gcd n d=1)(h2:Nat.gcd m k=1)(hd:0<d)(hk:0<k):Nat.gcd (n/Nat.gcd n k*(m/Nat.gcd m d)) (d/Nat.gcd m d*(k/Nat.gcd n k))=1:=by
 have c1:Nat.Coprime (n/Nat.gcd n k) (k/Nat.gcd n k):=Nat.gcd_div_gcd_div_gcd_of_pos_right hk
 have c2:Nat.Coprime (m/Nat.gcd m d) (d/Nat.gcd m d):=Nat.gcd_div_gcd_div_gcd_of_pos_right hd
 have n1:n/Nat.gcd n k ∣ n:=Nat.div_dvd_of_dvd (Nat.gcd_dvd_left _ _)
 have k1:k/Nat.gcd n k ∣ k:=Nat.div_dvd_of_dvd (Nat.gcd_dvd_right _ _)
 have m1:m/Nat.gcd m d ∣ m:=Nat.div_dvd_of_dvd (Nat.gcd_dvd_left _ _)
 have d1:d/Nat.gcd m d ∣ d:=Nat.div_dvd_of_dvd (Nat.gcd_dvd_right _ _)
 have c3:Nat.Coprime (n/Nat.gcd n k) (d/Nat.gcd m d):=(Nat.Coprime.coprime_dvd_left n1 h1).coprime_dvd_right d1
 have c4:Nat.Coprime (m/Nat.gcd m d) (k/Nat.gcd n k):=(Nat.Coprime.coprime_dvd_left m1 h2).coprime_dvd_right k1
 exact (c3.mul_right c1).mul_left (c2.mul_right c4)
def h9f {m:Bool}{n d p k:Nat}(h1:Nat.gcd n d=1)(h2:Nat.gcd p k=1)(hd:0<d)(hk:0<k)(bn:n<2^62)(bd:d<2^62)(bp:p<2^62)(bk:k<2^62):Tot (h5b m n d p k) fun r=>r.2=0 -> VF r.1:=by
 have hg:0<Nat.gcd n k:=Nat.gcd_pos_of_pos_right _ hk
 have hh:0<Nat.gcd p d:=Nat.gcd_pos_of_pos_right _ hd
 unfold h5b k2g
 rw [k5e n k (by omega),qA,k5e p d (by omega),qA]
 simp only [if_neg (show¬((Nat.gcd n k:Nat):Int)=0 by omega),if_neg (show¬((Nat.gcd p d:Nat):Int)=0 by omega),qA,l4e (show n<2^63 by omega),l4e (show d<2^63 by omega),l4e (show p<2^63 by omega),l4e (show k<2^63 by omega)]
 have l1:=Nat.div_le_self n (Nat.gcd n k)
 have l2:=Nat.div_le_self p (Nat.gcd p d)
 have l3:=Nat.div_le_self d (Nat.gcd p d)
 have l4:=Nat.div_le_self k (Nat.gcd n k)
 have p1:0<d/Nat.gcd p d:=Nat.div_pos (Nat.gcd_le_right _ hd) hh
 have p2:0<k/Nat.gcd n k:=Nat.div_pos (Nat.gcd_le_right _ hk) hg
 have hc:=i3j h1 h2 hd hk
 have q1:(0:Int) <= ((n/Nat.gcd n k:Nat):Int):=Int.natCast_nonneg _
 have q2:(0:Int) <= ((p/Nat.gcd p d:Nat):Int):=Int.natCast_nonneg _
 rw [k5m (by omega) (by omega) (by omega) (by omega),qA,k5m (by omega) (by omega) (by omega) (by omega),qA]
 have p3:=Nat.mul_pos p1 p2
 rw [<- Int.natCast_mul,<- Int.natCast_mul]
 generalize n/Nat.gcd n k*(p/Nat.gcd p d)=a at*
 generalize d/Nat.gcd p d*(k/Nat.gcd n k)=b at*
 simp only [y3,qA]
 refine tD (fun _=>tC fun h=>by cases h) fun hc2=> ?_
 simp at hc2
 have ea:(a:Int)%18446744073709551616=(a:Int):=by omega
 have eb:(b:Int)%18446744073709551616=(b:Int):=by omega
 rw [ea,eb,e9 (n:=(a:Int)) (by omega) (by omega),e9 (n:=(b:Int)) (by omega) (by omega),e9 (n:= -(a:Int)) (by omega) (by omega)]
 refine tD (fun _=>tC fun _=>h7o.2 ⟨?_,?_⟩) fun _=>tC fun _=>h7o.2 ⟨?_,?_⟩
 ·unfold FOK;dsimp only;omega
 ·dsimp only;rw [Int.natAbs_neg];exact hc
 ·unfold FOK;dsimp only;omega
 ·exact hc
def i3c {a b:fQ}(hA:VF a)(hB:VF b):Tot (h4v a b) fun r=>r.2=0 -> VF r.1:=by
 obtain ⟨fA,gA⟩:=h7o.1 hA
 obtain ⟨fB,gB⟩:=h7o.1 hB
 obtain ⟨a1,a2,a3⟩:=fA.i
 obtain ⟨b1,b2,b3⟩:=fB.i
 unfold h4v
 rw [show a1h a=some true from hA,show a1h b=some true from hB]
 simp only [qA,qU,qM,if_false,h8n a1,h8n b1,fA.u,fB.u]
 unfold FOK at fA fB
 exact tA (h9f gA gB (by omega) (by omega) (by omega) (by omega) (by omega) (by omega)) fun r h=>tC h
def i3i {a b:fQ}(hA:VF a)(hB:VF b):Tot (h4u a b) fun r=>r.2=0 -> VF r.1:=by
 obtain ⟨fA,gA⟩:=h7o.1 hA
 obtain ⟨fB,gB⟩:=h7o.1 hB
 obtain ⟨a1,a2,a3⟩:=fA.i
 obtain ⟨b1,b2,b3⟩:=fB.i
 unfold h4u
 rw [show a1h a=some true from hA,show a1h b=some true from hB]
 simp only [qA,qU,qM,if_false,h8n a1,h8n b1,fA.u,fB.u]
 unfold FOK at fA fB
 refine tD (fun _=>tC fun h=>by cases h) fun hz=> ?_
 simp at hz
 exact tA (h9f gA (by rw [Nat.gcd_comm];exact gB) (by omega) (by omega) (by omega) (by omega) (by omega) (by omega)) fun r h=>tC h
def i36 {a b:Int}(h0:0 <= a)(h1:a <= 100000)(h2:0 <= b)(h3:b <= 100000):k2d ⟨a,1⟩ ⟨b,1⟩=some (⟨a+b,1⟩,0):=by
 obtain ⟨x,rfl⟩:=qT h0
 obtain ⟨y,rfl⟩:=qT h2
 unfold k2d
 rw [show a1h ⟨(x:Int),1⟩=some true from h6w (by omega) (by omega),show a1h ⟨(y:Int),1⟩=some true from h6w (by omega) (by omega)]
 simp only [qA,qU,qM,if_false,h8n (show I64 (x:Int) from ⟨by omega,by omega⟩),h8n (show I64 (y:Int) from ⟨by omega,by omega⟩),show u64 1=1 from rfl,Int.natAbs_natCast]
 have s1:decide ((x:Int)<0)=false:=by simp
 have s2:decide ((y:Int)<0)=false:=by simp
 unfold k2g
 rw [k5m (by omega) (by omega) (by omega) (by omega),k5m (by omega) (by omega) (by omega) (by omega)]
 simp only [Int.mul_one,qA,s1,s2,BEq.rfl,if_true]
 have e:k2f ⟨(x:Int)/18446744073709551616,(x:Int)%18446744073709551616⟩ ⟨(y:Int)/18446744073709551616,(y:Int)%18446744073709551616⟩=some ⟨0,((x+y:Nat):Int)⟩:=by
  unfold k2f c23 g7y
  dsimp only
  rw [if_pos (by omega),qA]
  simp only [g2l]
  congr 2<;>omega
 rw [e,qA,show (u64 1:Int)=((1:Nat):Int) from rfl,k41 (by decide) (by decide) (by omega) (by simp;omega) (by simp)]
 simp
def h9h {n d:Nat}(hd:0<d)(hd1:d <= 1000000)(hn:n <= 1000000000000000): ∃f,b32 n d=some (f,0) /\ a3r n d=some (f,0) /\ VF f /\ 0 <= f.Num /\ f.Num <= n:=by
 have hp:0<Nat.gcd n d:=Nat.gcd_pos_of_pos_right _ hd
 have h1:=Nat.div_le_self n (Nat.gcd n d)
 have h2:=Nat.div_le_self d (Nat.gcd n d)
 have h3:0<d/Nat.gcd n d:=Nat.div_pos (Nat.gcd_le_right _ hd) hp
 have hc:Nat.gcd (n/Nat.gcd n d) (d/Nat.gcd n d)=1:=Nat.gcd_div_gcd_div_gcd_of_pos_right hd
 have in1:I64 (n:Int):=⟨by omega,by omega⟩
 have id1:I64 (d:Int):=⟨by omega,by omega⟩
 have s1:decide ((n:Int)<0)=false:=by simp
 have s2:decide ((d:Int)<0)=false:=by simp
 have q1:(0:Int) <= ((n/Nat.gcd n d:Nat):Int):=Int.natCast_nonneg _
 have hz: ¬((d:Int)==0)=true:=by simp;omega
 refine ⟨⟨(n/Nat.gcd n d:Nat),(d/Nat.gcd n d:Nat)⟩,?_,?_,h7o.2 ⟨⟨by dsimp only;omega,by dsimp only;omega,by dsimp only;omega,by dsimp only;omega⟩,hc⟩,by dsimp only;omega,by dsimp only;omega⟩
 ·unfold b32 a70
  rw [if_neg hz,h8c in1,h8c id1]
  simp only [qA,Int.natAbs_natCast,m12]
  rw [k5e n d (by omega)]
  simp only [qA,s1,s2,bne_self_eq_false,qM,if_false,if_neg (show¬((Nat.gcd n d:Nat):Int)=0 by omega),l4e (show n<2^63 by omega),l4e (show d<2^63 by omega)]
  generalize n/Nat.gcd n d=a at*
  generalize d/Nat.gcd n d=b at*
  have c1:decide ((a:Int)>1000000000000000)=false:=by simp;omega
  have c2:decide ((b:Int)>1000000000)=false:=by simp;omega
  simp only [c1,c2,qM,if_false,qA,e9 (n:=(a:Int)) (by omega) (by omega),e9 (n:=(b:Int)) (by omega) (by omega)]
 ·unfold a3r
  rw [if_neg hz,h8n in1,h8n id1]
  simp only [qA,Int.natAbs_natCast,s1,s2,bne_self_eq_false]
  rw [k41 hd (by omega) (by omega) (by omega) (by omega)]
  rfl
structure VW (v:View):Prop where
 a:0 <= v.Age /\ v.Age <= 199
 y:1900 <= v.Year /\ v.Year <= 2099
 c:0 <= v.Children /\ v.Children <= 99
 d: ∀x∈[v.Insured,v.Worked,v.Voluntary,v.Service,v.Equated,v.Raising,v.Resident],0 <= x /\ x <= 73049
 b:VF v.Base /\ 0 <= v.Base.Num /\ v.Base.Num <= 1000000000000*v.Base.Den
 n:v.Years.length <= 200
 r: ∀x∈v.Years,0 <= x /\ x <= 1000000000000
def i0f {l:O Int}(hl:l.length <= 200)(h: ∀x∈l,0 <= x /\ x <= 1000000000000):a9p l=some true /\ h5y l=some true:=by
 constructor
 ·unfold a9p a1n a29
  obtain ⟨n,h1,h2⟩:=c5d (f:=a6k l) l (fun x=>decide (x<0)||decide (x>1000000000000)) (by omega) (fun rec i y hi=>by
   unfold a6k b0a
   rw [if_pos (o6 (qD.1 hi).1),e7 hi]
   simp only [y3,qA]) fun rec=>by
   unfold a6k
   rw [if_neg (g9 _)]
  rw [if_pos (by simp;omega),h1,qA,h2]
  have:l.any (fun x=>decide (x<0)||decide (x>1000000000000))=false:=by
   rw [any_eq_false]
   intro x hx
   have:=h x hx
   simp;omega
  rw [this];rfl
 ·unfold h5y
  rw [if_neg (by simp;omega)]
  obtain ⟨r,e,hr⟩:Tot (d9 FU (h6b l) 0) fun b=>b=true:=by
   refine tH l (fun (_:Unit) i=>i) (fun _ _=>True) (by omega) (fun rec _ i y hi hy _ ih=> ?_) (fun rec _ _=> ?_) () trivial
   ·have:=h y (qE hy)
    unfold h6b
    rw [if_pos (o6 hi)]
    simp only [e7 hy,qA,y3]
    rw [if_neg (by simp;omega)]
    exact ih () trivial
   ·unfold h6b
    rw [if_neg (g9 _)]
    exact tC rfl
  rw [e,hr]
def i0a {v:View}(h:VW v):b0s v=some true /\ h4r v=some true:=by
 obtain ⟨h1,h2,h3,h4,⟨hb,hb0,hb1⟩,h6,h7⟩:=h
 obtain ⟨e1,e2⟩:=i0f h6 h7
 have d1:decide (v.Age<0)=false:=decide_eq_false (by omega)
 have d2:decide (v.Age>199)=false:=decide_eq_false (by omega)
 have d3:decide (v.Year<1900)=false:=decide_eq_false (by omega)
 have d4:decide (v.Year>2099)=false:=decide_eq_false (by omega)
 have d5:decide (v.Children<0)=false:=decide_eq_false (by omega)
 have d6:decide (v.Children>99)=false:=decide_eq_false (by omega)
 obtain ⟨hF,_⟩:=h7o.1 hb
 unfold FOK at hF
 constructor
 ·obtain ⟨r,e,hr⟩:Tot (b0s v) fun b=>b=true:=by
   unfold b0s
   simp only [d1,d2,d3,d4,d5,d6,e1,qM,if_false,qA,qU]
   refine tH (⟨[v.Insured,v.Worked,v.Voluntary,v.Service,v.Equated,v.Raising,v.Resident],rfl⟩:Ar 7 Int).l (fun (_:Unit) i=>(v,i)) (fun _ _=>True) (by simp) (fun rec _ i y hi hy _ ih=> ?_) (fun rec _ _=> ?_) () trivial
   ·have:=h4 y (qE hy)
    have hi7:i<7:=hi
    dsimp only
    rw [if_pos (by simp;omega),e7 hy]
    simp only [y3,qA]
    rw [if_neg (by simp;omega)]
    exact ih () trivial
   ·dsimp only
    rw [if_neg (by simp),hb.n]
    simp only [qA,if_true]
    have g1:=Int.ediv_nonneg hb0 (show 0 <= v.Base.Den by omega)
    have g2:=Int.emod_add_mul_ediv v.Base.Num v.Base.Den
    have g3:=Int.emod_nonneg v.Base.Num (show v.Base.Den≠0 by omega)
    have g4:v.Base.Num/v.Base.Den <= 1000000000000:=by
     have:=Int.ediv_le_ediv (c:=v.Base.Den) (by omega) hb1
     rw [Int.mul_ediv_cancel _ (show v.Base.Den≠0 by omega)] at this
     exact this
    rw [decide_eq_true (show v.Base.Num >= 0 from hb0)]
    simp only [if_true,e9a (show v.Base.Den≠0 by omega),d04 (show v.Base.Den≠0 by omega),qA,c7w hb0,c9f hb0]
    rw [e9 (by omega) (by omega)]
    simp only [decide_eq_true g4,if_true]
    refine tA (Q:=fun b=>b=true) (tA (Q:=fun b=>b=true) (tD (fun _=>tC rfl) fun h=>tC ?_) fun b h=>tC h) fun b h=>tC h
    simp at h
    have:v.Base.Num/v.Base.Den=1000000000000:=by omega
    rw [this,Int.mul_comm] at g2
    simp;omega
  rw [e,hr]
 ·obtain ⟨r,e,hr⟩:Tot (h4r v) fun b=>b=true:=by
   unfold h4r h7g
   simp only [d1,d2,d3,d4,d5,d6,qM,if_false,qA]
   refine tH (⟨[v.Insured,v.Worked,v.Voluntary,v.Service,v.Equated,v.Raising,v.Resident],rfl⟩:Ar 7 Int).l (fun (_:Unit) i=>(v,(⟨[v.Insured,v.Worked,v.Voluntary,v.Service,v.Equated,v.Raising,v.Resident],rfl⟩:Ar 7 Int),i)) (fun _ _=>True) (by simp) (fun rec _ i y hi hy _ ih=> ?_) (fun rec _ _=> ?_) () trivial
   ·have:=h4 y (qE hy)
    have hi7:i<7:=hi
    unfold h6j
    dsimp only
    rw [if_pos (by simp;omega),e7 hy]
    simp only [y3,qA]
    rw [if_neg (by simp;omega)]
    exact ih () trivial
   ·unfold h6j
    dsimp only
    rw [if_neg (by simp)]
    obtain ⟨f,f1,f2,f3,f4,f5⟩:=h9h (n:=1000000000000) (d:=1) (by decide) (by decide) (by decide)
    have:f=⟨1000000000000,1⟩:=by
     have:a3r 1000000000000 1=some (⟨1000000000000,1⟩,0):=by kernel_rfl
     have f2:a3r 1000000000000 1=some (f,0):=f2
     rw [this] at f2
     exact (Prod.mk.inj (qH f2)).1.symm
    subst this
    obtain ⟨c,e,g1,g2,g3⟩:=h6y v.Base ⟨1000000000000,1⟩
    obtain ⟨g4,g5,-⟩:=g3 hb f3
    have g6:=(g5 hb0 (by decide)).2 (by dsimp only;omega)
    have f2:a3r 1000000000000 1=some (⟨1000000000000,1⟩,0):=f2
    rw [f2,qA,g2,qA]
    subst g4
    simp only [BEq.rfl,if_true,qA,decide_eq_true g6,decide_eq_true (show v.Base.Num >= 0 from hb0),e2]
    exact tC rfl
  rw [e,hr]
def VvD (x:Value)(d:Int):Prop:=x.Dim=d /\ ((d=1 /\ x.Num=⟨0,0⟩) \/ ((2 <= d /\ d <= 4) /\ x.Yes=false /\ VF x.Num))
def VvD.ref {x:Value}{d:Int}(h:VvD x d):h5i x=some true:=by
 obtain ⟨rfl,⟨h1,h2⟩ | ⟨⟨h1,h2⟩,h3,h4⟩⟩:=h
 ·unfold h5i
  rw [if_pos (by simp [h1]),h2];rfl
 ·unfold h5i
  rw [if_neg (by simp;omega)]
  simp only [decide_eq_true (show x.Dim >= 2 from h1),decide_eq_true h2,h3,if_true,qA,Bool.not_false]
  rw [show a1h x.Num=some true from h4];rfl
def i1z {v:View}(h:VW v):(∀p∈[(e0r,(⟨2,false,⟨v.Age,1⟩⟩:Value)),(c6q,⟨2,false,⟨v.Children,1⟩⟩),(b6u,⟨3,false,⟨v.Insured,1⟩⟩),(c5w,⟨3,false,⟨v.Worked,1⟩⟩),(c3c,⟨3,false,⟨v.Equated,1⟩⟩),(e39,⟨4,false,v.Base⟩)],c2b v p.1=some (p.2,true) /\ h5g v p.1=some (p.2,true)) /\ ∀s∈[i4l,i4z],c2b v s=some (⟨0,false,⟨0,0⟩⟩,false) /\ h5g v s=some (⟨0,false,⟨0,0⟩⟩,false):=by
 obtain ⟨e1,e2⟩:=i0a h
 constructor
 ·intro p hp
  simp only [qO,List.not_mem_nil,or_false] at hp
  unfold c2b h5g
  simp only [e1,e2,qA]
  rcases hp with rfl | rfl | rfl | rfl | rfl | rfl<;>exact ⟨by kernel_rfl,by kernel_rfl⟩
 ·intro s hs
  simp only [qO,List.not_mem_nil,or_false] at hs
  unfold c2b h5g
  simp only [e1,e2,qA]
  rcases hs with rfl | rfl<;>exact ⟨by kernel_rfl,by kernel_rfl⟩
def i3n {a b:O Int}(h:a.Perm b):a.sum=b.sum:=by
 induction h with
 | nil=>rfl
 | cons x _ ih=>simp [ih]
 | swap x y l=>simp;omega
 | trans _ _ h1 h2=>exact h1.trans h2
def i0c {l:O Int}(h: ∀x∈l,0 <= x /\ x <= 1000000000000):0 <= l.sum /\ l.sum <= 1000000000000*l.length:=by
 induction l with
 | nil=>simp
 | cons x l ih=>
   have h1:=h x (by simp)
   have h2:=ih fun y hy=>h y (by simp [hy])
   simp;omega
def i27 {l:O Int}{i:Nat}{y:Int}(h:l[i]? =some y):(l.take (i+1)).sum=(l.take i).sum+y:=by
 rw [a9h h];simp
def l49 {l:O Int}(h:l.Pairwise fun a b=>b <= a){x:Int}{k:Nat}(hk:k <= l.length)(h1: ∀y∈l.drop k,y<x)(h2: ∀y∈l.take k,x <= y):(l.take k++[x]++l.drop k).Pairwise (fun a b=>b <= a) /\ (l.take k++[x]++l.drop k).Perm (l++[x]):=by
 constructor
 ·rw [pairwise_append,pairwise_append]
  refine ⟨⟨h.sublist (take_sublist _ _),pairwise_singleton _ _,fun a ha b hb=> ?_⟩,h.sublist (drop_sublist _ _),fun a ha b hb=> ?_⟩
  ·simp at hb;subst hb;exact h2 a ha
  ·rcases qK.1 ha with ha | ha
   ·have:=h1 b hb;have:=h2 a ha;omega
   ·simp at ha;subst ha;have:=h1 b hb;omega
 ·rw [qQ]
  refine (List.Perm.append_left _ perm_append_comm).trans ?_
  rw [<- qQ,List.take_append_drop]
def l3x {l:O Int}{n:Int}(h0:1 <= n)(h1:n <= 45)(hl:l.length <= 200)(h: ∀x∈l,0 <= x /\ x <= 1000000000000):h5r l n=a3r ((b89 l).reverse.take n.toNat).sum n:=by
 obtain ⟨e1,e2⟩:=i0f hl h
 have key:Tot (h5r l n) fun r=>some r=a3r ((b89 l).reverse.take n.toNat).sum n:=by
  unfold h5r
  rw [e2,decide_eq_false (by omega: ¬n<1),decide_eq_false (by omega: ¬n>45)]
  simp only [qM,if_false,qA,qU]
  refine tH l (fun (d:O Int) i=>((⟨0,0⟩:fQ),d,i)) (fun d i=>d.Pairwise (fun a b=>b <= a) /\ d.Perm (l.take i)) (by omega) (fun rec d i y hi hy hI ih=> ?_) (fun rec d hI=> ?_) [] ⟨List.Pairwise.nil,by simp⟩
  ·obtain ⟨i1,i2⟩:=hI
   have hdl:d.length <= 200:=by rw [i2.length_eq,List.length_take];omega
   unfold h7i
   rw [if_pos (o6 hi)]
   refine tO (I:=fun v:fQ×O Int×Int=>v.1=⟨0,0⟩ /\ v.2.1=d /\ ∃k:Nat,v.2.2=k /\ k <= d.length /\ ∀z∈d.drop k,z<y) (μ:=fun v=>v.2.2.toNat) ⟨rfl,rfl,d.length,rfl,Nat.le_refl _,by simp⟩ (by dsimp only;omega) ?_
   rintro r ⟨v1,v2,v3⟩ ⟨rfl,g2,k,g3,g4,g5⟩ ih2
   dsimp only at g2 g3
   subst g2 g3
   have fin:(∀z∈v2.take k,y <= z) -> Tot (((a1x v2 0 (k:Int)).bind fun v12=>(a4n 8 [] v12).bind fun v13=>(a4n 8 v13 [y]).bind fun v15=>(a1x v2 (k:Int) (v2.length:Int)).bind fun v16=>(a4n 8 v15 v16).bind fun v17=>rec ((⟨0,0⟩:fQ),v17,i64 ((i:Int)+1)))) fun r=>some r=a3r ((b89 l).reverse.take n.toNat).sum n:=by
    intro hz
    rw [b26 (by omega) (by omega) (by omega),qA]
    have s1:((v2.drop (0:Int).toNat).take (((k:Int)).toNat-(0:Int).toNat))=v2.take k:=by simp
    rw [s1,p6 (by simp;omega),qA,p6 (by simp;omega),qA,b26 (by omega) (by omega) (by omega),qA]
    have s2:((v2.drop ((k:Int)).toNat).take ((v2.length:Int).toNat-((k:Int)).toNat))=v2.drop k:=by rw [Int.toNat_natCast,Int.toNat_natCast,List.take_of_length_le (by simp)]
    rw [s2,p6 (by simp;omega),qA]
    obtain ⟨q1,q2⟩:=l49 i1 g4 g5 hz
    refine ih _ ⟨q1,?_⟩
    rw [a9h hy]
    exact q2.trans (i2.append_right _)
   unfold h7z
   dsimp only
   by_cases hk:k=0
   ·subst hk
    have:decide (((0:Nat):Int)>0)=false:=by decide
    simp only [this,qM,if_false,qA,e7 hy]
    exact fin (by simp)
   ·have hp:v2[k-1]? =some v2[k-1]:=qG (by omega)
    have:decide ((k:Int)>0)=true:=by simp;omega
    have e3:i64 ((k:Int)-1)=((k-1:Nat):Int):=by rw [e9 (by omega) (by omega)];omega
    simp only [this,if_true,e3,e7 hp,e7 hy,qA]
    refine tD (fun hc=> ?_) fun hc=> ?_
    ·simp at hc
     refine ih2 _ ⟨rfl,rfl,k-1,rfl,by omega,fun z hz=> ?_⟩ (by dsimp only;omega)
     rw [List.drop_eq_getElem_cons (by omega)] at hz
     rcases qO.1 hz with rfl | hz
     ·exact hc
     ·exact g5 z (by rw [show k-1+1=k by omega] at hz;exact hz)
    ·simp at hc
     refine fin fun z hz=> ?_
     obtain ⟨j,hj,e⟩:=List.mem_iff_getElem.1 hz
     rw [List.length_take] at hj
     rw [getElem_take] at e
     subst e
     by_cases hjk:j=k-1
     ·subst hjk;exact hc
     ·have:=List.pairwise_iff_getElem.1 i1 j (k-1) (by omega) (by omega) (by omega)
      omega
  ·obtain ⟨i1,i2⟩:=hI
   rw [List.take_length] at i2
   have hD:d=(b89 l).reverse:=by
    refine List.Perm.eq_of_pairwise (le:=fun a b=>b <= a) (fun a b _ _ h1 h2=>by omega) i1 ?_ (i2.trans ((a8p l).symm.trans (reverse_perm _).symm))
    rw [pairwise_reverse];exact e2r l
   unfold h7i
   dsimp only
   rw [if_neg (g9 _),<- hD]
   have hdl:d.length <= 200:=by rw [i2.length_eq];omega
   have hm: ∀x∈d,0 <= x /\ x <= 1000000000000:=fun x hx=>h x (i2.mem_iff.1 hx)
   refine tO (I:=fun v:fQ×O Int×Int×Int=>v.1=⟨0,0⟩ /\ v.2.1=d /\ ∃k:Nat,v.2.2.2=k /\ k <= d.length /\ (k:Int) <= n /\ v.2.2.1=(d.take k).sum) (μ:=fun v=>(200-v.2.2.2).toNat) ⟨rfl,rfl,0,rfl,Nat.zero_le _,by omega,by simp⟩ (by dsimp only;omega) ?_
   rintro r ⟨v1,v2,v3,v4⟩ ⟨rfl,g2,k,g3,g4,g5,g6⟩ ih2
   dsimp only at g2 g3 g6
   subst g2 g3 g6
   unfold h8b
   dsimp only
   simp only [a7h,qA]
   refine tD (fun hc=> ?_) fun hc=> ?_
   ·simp at hc
    have hp:v2[k]? =some v2[k]:=qG (by omega)
    have hr:=i0c (l:=v2.take k) fun x hx=>hm x (mem_of_mem_take hx)
    have hx:=hm v2[k] (qV _)
    rw [List.length_take] at hr
    simp only [e7 hp,qA]
    rw [e9 (n:=(k:Int)+1) (by omega) (by omega),e9 (by omega) (by omega),<- i27 hp]
    exact ih2 _ ⟨rfl,rfl,k+1,by dsimp only;omega,by omega,by omega,rfl⟩ (by dsimp only;omega)
   ·have hk:v2.take k=v2.take n.toNat:=by
     simp at hc
     by_cases hlen:k<v2.length
     ·rw [show n.toNat=k by omega]
     ·rw [List.take_of_length_le (by omega),List.take_of_length_le (by omega)]
    have hr:=i0c (l:=v2.take k) fun x hx=>hm x (mem_of_mem_take hx)
    obtain ⟨s,hs⟩:=qT hr.1
    obtain ⟨m,rfl⟩:=qT (show 0 <= n by omega)
    rw [List.length_take] at hr
    obtain ⟨f,_,f2,_⟩:=h9h (n:=s) (d:=m) (by omega) (by omega) (by omega)
    rw [<- hk,hs,f2]
    exact tC rfl
 obtain ⟨r,e,hr⟩:=key
 rw [e,hr]
def i2y {l:O Int}{n:Int}(h0:1 <= n)(h1:n <= 45)(hl:l.length <= 200)(h: ∀x∈l,0 <= x /\ x <= 1000000000000): ∃f,c4b l n=some (f,0) /\ h5r l n=some (f,0) /\ VF f:=by
 obtain ⟨e1,e2⟩:=i0f hl h
 have hp:=a8p l
 have hm: ∀x∈(b89 l).reverse.take n.toNat,0 <= x /\ x <= 1000000000000:=fun x hx=>h x (hp.mem_iff.1 (List.mem_reverse.1 (mem_of_mem_take hx)))
 have hr:=i0c hm
 have hll:((b89 l).reverse.take n.toNat).length <= 200:=by rw [List.length_take,length_reverse,hp.length_eq];omega
 have hrev:(b89 l).reverse.take n.toNat=((b89 l).drop ((b89 l).length-n.toNat)).reverse:=by rw [take_reverse]
 have hs:((b89 l).drop ((b89 l).length-n.toNat)).sum=((b89 l).reverse.take n.toNat).sum:=by rw [hrev];exact i3n (reverse_perm _).symm
 rw [l3x h0 h1 hl h]
 obtain ⟨s,hsv⟩:=qT hr.1
 obtain ⟨m,rfl⟩:=qT (show 0 <= n by omega)
 obtain ⟨f,f1,f2,f3,_⟩:=h9h (n:=s) (d:=m) (by omega) (by omega) (by omega)
 refine ⟨f,?_,by rw [hsv];exact f2,f3⟩
 unfold c4b
 rw [e1,decide_eq_false (by omega: ¬(m:Int)<1),decide_eq_false (by omega: ¬(m:Int)>45)]
 simp only [qM,if_false,qA,qU]
 have hcoll:y5 l=some l:=by
  obtain ⟨r,e,hr⟩:Tot (y5 l) fun r=>r=l:=by
   refine tA (Q:=fun r=>r=l) (tO (I:=fun v:(O Int×O Int)×Int=> ∃k:Nat,v=((l.take k,[]),(k:Int)) /\ k <= l.length) (μ:=fun v=>((l.length:Int)-v.2).toNat) ⟨0,rfl,Nat.zero_le _⟩ (by dsimp only;omega) ?_) fun r hr=>tC hr
   rintro r v ⟨k,rfl,hk⟩ ih
   unfold a0l
   dsimp only
   refine tD (fun hc=>tC ?_) fun hc=> ?_
   ·simp at hc;rw [List.take_of_length_le (by omega)]
   ·simp at hc
    have hq:l[k]? =some l[k]:=qG (by omega)
    rw [e7 hq,qA,p6 (by simp;omega),qA]
    exact ih _ ⟨k+1,by rw [a9h hq];simp,by omega⟩ (by dsimp only;omega)
  rw [e,hr]
 unfold o9 b8s
 rw [hcoll,qA,if_pos (by omega)]
 simp only [qA]
 have hlen:=hp.length_eq
 rw [e9 (by omega) (by omega),b26 (by omega) (by omega) (by omega),qA]
 have e3:((b89 l).drop (max 0 (((b89 l).length:Int)-(m:Int))).toNat).take (((b89 l).length:Int).toNat-(max 0 (((b89 l).length:Int)-(m:Int))).toNat)=(b89 l).drop ((b89 l).length-(m:Int).toNat):=by
  rw [show (max 0 (((b89 l).length:Int)-(m:Int))).toNat=(b89 l).length-(m:Int).toNat by omega,List.take_of_length_le (by simp)]
 rw [e3]
 obtain ⟨r,e,hr2⟩:Tot (d9 FU (fun (r9:fQ×Int×Int -> A3 (fQ×Int)) (p:fQ×Int×Int)=>match p with | (v6,v7,v8)=>if decide (v8<(((b89 l).drop ((b89 l).length-(m:Int).toNat)).length:Int))=true then (c7 ((b89 l).drop ((b89 l).length-(m:Int).toNat)) v8).bind fun v10=>r9 (v6,i64 (v7+v10),i64 (v8+1)) else (b32 v7 (m:Int)).bind fun v11=>some (v11.1,v11.2)) ((⟨0,0⟩:fQ),0,0)) fun r=>r=(f,0):=by
  have hm2: ∀x∈(b89 l).drop ((b89 l).length-(m:Int).toNat),0 <= x /\ x <= 1000000000000:=fun x hx=>h x (hp.mem_iff.1 (mem_of_mem_drop hx))
  have hl2:((b89 l).drop ((b89 l).length-(m:Int).toNat)).length <= 200:=by rw [List.length_drop];omega
  generalize (b89 l).drop ((b89 l).length-(m:Int).toNat)=D at*
  refine tH D (fun (s:Int) i=>((⟨0,0⟩:fQ),s,i)) (fun s i=>s=(D.take i).sum) (by omega) (fun rec s i y hi hy hI ih=> ?_) (fun rec s hI=> ?_) 0 (by simp)
  ·dsimp only
   have hr:=i0c (l:=D.take i) fun x hx=>hm2 x (mem_of_mem_take hx)
   have hx:=hm2 y (qE hy)
   rw [List.length_take] at hr
   rw [if_pos (o6 hi),e7 hy,qA,hI,e9 (n:=(D.take i).sum+y) (by omega) (by omega)]
   exact ih _ (i27 hy).symm
  ·dsimp only
   rw [if_neg (g9 _),hI,List.take_length,hs,hsv,f1]
   exact tC rfl
 exact e.trans (congrArg some hr2)
abbrev Z0:Value:=⟨0,false,⟨0,0⟩⟩
def i25 {R:Ring_eval_evaluator_expr}{x:vQ}{op:Int}{a b:AE}(h:7 <= op)(h1:op <= 20)(h2:op≠17)(h3:op≠18):a5u R x (AE.bin op a b).e=
  (R.f_eval_evaluator_expr x a.e).bind fun p=>if (p.2 != 0)=true then some (Z0,p.2) else (R.f_eval_evaluator_expr x b.e).bind fun q=>if (q.2 != 0)=true then some (Z0,q.2) else
    if 11 <= op /\ op <= 16 then (b7z op p.1.Num q.1.Num).bind fun r=>some (⟨1,r.1,⟨0,0⟩⟩,r.2)
    else (b2w op p.1.Num q.1.Num).bind fun r=>if (r.2 != 0)=true then some (Z0,r.2) else (b8c op p.1.Dim q.1.Dim).bind fun d=>some (⟨d,false,r.1⟩,0):=by
 have e: ∀k:Int,k <= 6 -> (op==k)=false:=fun k hk=>by simp;omega
 show a5u R x ⟨op,⟨0,0⟩,0,a3j,[a.e,b.e]⟩=_
 unfold a5u
 rw [e 1 (by decide),e 2 (by decide),e 3 (by decide),e 4 (by decide),e 5 (by decide),e 6 (by decide)]
 simp only [qM,if_false]
 unfold joinC a2s
 have e17:(op==17)=false:=by simpa using h2
 have e18:(op==18)=false:=by simpa using h3
 have e21:(op==21)=false:=by simp;omega
 simp only [e17,e18,e21,qM,if_false]
 unfold joinC a2t
 simp only [qM,if_false,show c7 [a.e,b.e] 0=some a.e from rfl,show c7 [a.e,b.e] 1=some b.e from rfl,qA,a7h,b8n,t6]
 simp
def i10 {R:Ring_pensionref8_value}{v:View}{st:O Step}{op:Int}{a b:AE}(h:7 <= op)(h1:op <= 20)(h2:op≠17)(h3:op≠18):h4w R (AE.bin op a b).e v st=
  (R.f_pensionref8_value a.e v st).bind fun p=>if (p.2 != 0)=true then some (Z0,p.2) else (R.f_pensionref8_value b.e v st).bind fun q=>if (q.2 != 0)=true then some (Z0,q.2) else h4m op [p.1,q.1]:=by
 have e: ∀k:Int,k <= 3 -> (op==k)=false:=fun k hk=>by simp;omega
 have e17:(op==17)=false:=by simpa using h2
 have e18:(op==18)=false:=by simpa using h3
 have e21:(op==21)=false:=by simp;omega
 show h4w R ⟨op,⟨0,0⟩,0,a3j,[a.e,b.e]⟩ v st=_
 unfold h4w
 rw [e 1 (by decide),e 2 (by decide),e 3 (by decide),e17,e18]
 simp only [qM,if_false]
 unfold joinC h7a
 simp only [e21,qM,if_false]
 obtain ⟨m,hm⟩:=j17
 have st3: ∀(k:Nat)(w:(O Step)×Expr×View×Value×Int×Bool)(l:O Value),w.1=st -> d9 (k+1) (h4t R w) (⟨op,⟨0,0⟩,0,a3j,[a.e,b.e]⟩,v,Z0,l,2)=(h4m op l).bind fun r=>some (r.1,r.2):=fun k w l hw=>by rw [d24];rfl
 have st2: ∀(k:Nat)(w:(O Step)×Expr×View×Value×Int×Bool)(l:O Value),w.1=st -> l.length <= 1 -> d9 (k+1+1) (h4t R w) (⟨op,⟨0,0⟩,0,a3j,[a.e,b.e]⟩,v,Z0,l,1)=(R.f_pensionref8_value b.e v st).bind fun q=>if (q.2 != 0)=true then some (Z0,q.2) else (h4m op (l++[q.1])).bind fun r=>some (r.1,r.2):=fun k w l hw hl=>by
  rw [d24]
  generalize hB:d9 (k+1) (h4t R w)=B
  unfold h4t
  simp only [show decide ((1:Int)<(([a.e,b.e].length:Nat):Int))=true from rfl,if_true,show c7 [a.e,b.e] 1=some b.e from rfl,qA,hw,p6 (show (l.length+[_].length)*32 <= 140737488355328 by simp;omega),show i64 (1+1)=2 from rfl]
  rw [<- hB]
  simp only [st3 k w _ hw]
 have st1: ∀(k:Nat)(w:(O Step)×Expr×View×Value×Int×Bool),w.1=st -> d9 (k+1+1+1) (h4t R w) (⟨op,⟨0,0⟩,0,a3j,[a.e,b.e]⟩,v,Z0,[],0)=(R.f_pensionref8_value a.e v st).bind fun p=>if (p.2 != 0)=true then some (Z0,p.2) else (R.f_pensionref8_value b.e v st).bind fun q=>if (q.2 != 0)=true then some (Z0,q.2) else (h4m op [p.1,q.1]).bind fun r=>some (r.1,r.2):=fun k w hw=>by
  rw [d24]
  generalize hB:d9 (k+1+1) (h4t R w)=B
  unfold h4t
  simp only [show decide ((0:Int)<(([a.e,b.e].length:Nat):Int))=true from rfl,if_true,show c7 [a.e,b.e] 0=some a.e from rfl,qA,hw,p6 (show (([]:O Value).length+[_].length)*32 <= 140737488355328 by simp),show i64 (0+1)=1 from rfl]
  rw [<- hB]
  simp only [List.nil_append,st2 k w [_] hw (by simp)]
  rfl
 rw [hm,st1 m _ rfl]
 have: ∀o:A3 (Value×Int),(o.bind fun r=>some (r.1,r.2))=o:=fun o=>by cases o<;>rfl
 simp only [this]
def i1g (op:Int)(x y:Value):h4m op [x,y]=(h4i op [x.Dim,y.Dim]).bind fun d=>(h4q x.Num y.Num).bind fun c=>h4y (op,[x,y],Z0,⟨d,false,⟨0,0⟩⟩,0,c.1):=by
 unfold h4m
 obtain ⟨m,hm⟩:=j17
 rw [hm,d24]
 generalize hB:d9 (m+1+1) (h5v [x,y] op)=B
 unfold h5v
 simp only [show decide ((0:Int)<(([x,y].length:Nat):Int))=true from rfl,if_true,show c7 [x,y] 0=some x from rfl,qA,p6 (show (([]:O Int).length+[_].length)*8 <= 140737488355328 by simp),show i64 (0+1)=1 from rfl,List.nil_append]
 rw [<- hB,d24]
 generalize hB:d9 (m+1) (h5v [x,y] op)=B
 unfold h5v
 simp only [show decide ((1:Int)<(([x,y].length:Nat):Int))=true from rfl,if_true,show c7 [x,y] 1=some y from rfl,qA,p6 (show ([x.Dim].length+[_].length)*8 <= 140737488355328 by simp),show i64 (1+1)=2 from rfl]
 rw [<- hB,d24]
 rfl
def Rv (d:Int)(p q:Value×Int):Prop:=p.2=q.2 /\ (p.2=0 -> p.1=q.1 /\ VvD p.1 d)
def Rv.ok {x y:Value}{d:Int}(e:x=y)(h:VvD x d):Rv d (x,0) (y,0):=⟨rfl,fun _=>⟨e,h⟩⟩
def Rv.err {x y:Value}{d c:Int}(h:c≠0):Rv d (x,c) (y,c):=⟨rfl,fun e=>absurd e h⟩
def m0e {x y z:Int}{a1 a2 b1 b2:A3 (Value×Int)}(hA:Agr a1 b1 (Rv x))(hB:Agr a2 b2 (Rv y)){F G:Value -> Value -> A3 (Value×Int)}(h: ∀p q,VvD p x -> VvD q y -> Agr (F p q) (G p q) (Rv z)):
  Agr (a1.bind fun p=>if (p.2 != 0)=true then some (Z0,p.2) else a2.bind fun q=>if (q.2 != 0)=true then some (Z0,q.2) else F p.1 q.1) (b1.bind fun p=>if (p.2 != 0)=true then some (Z0,p.2) else b2.bind fun q=>if (q.2 != 0)=true then some (Z0,q.2) else G p.1 q.1) (Rv z):=by
 refine Agr.bind hA fun p p' hp=>Agr.ite (by rw [hp.1]) (fun h1 _=>Agr.some ?_) fun h1 _=>Agr.bind hB fun q q' hq=>Agr.ite (by rw [hq.1]) (fun h2 _=>Agr.some ?_) fun h2 _=> ?_
 ·rw [<- hp.1];exact Rv.err (by simpa using h1)
 ·rw [<- hq.1];exact Rv.err (by simpa using h2)
 ·obtain ⟨e1,v1⟩:=hp.2 (by simpa using h1)
  obtain ⟨e2,v2⟩:=hq.2 (by simpa using h2)
  rw [<- e1,<- e2]
  exact h _ _ v1 v2
def VvD.num {x:Value}{d:Int}(h:VvD x d)(hd:2 <= d):x.Dim=d /\ x.Yes=false /\ VF x.Num:=by
 obtain ⟨h1,⟨h2,_⟩ | ⟨h2,h3,h4⟩⟩:=h
 ·omega
 ·exact ⟨h1,h3,h4⟩
def VvD.mk' {f:fQ}{d:Int}(h:VF f)(h0:2 <= d)(h1:d <= 4):VvD ⟨d,false,f⟩ d:=⟨rfl,.inr ⟨⟨h0,h1⟩,rfl,h⟩⟩
def VvD.tr (b:Bool):VvD ⟨1,b,⟨0,0⟩⟩ 1:=⟨rfl,.inl ⟨rfl,rfl⟩⟩
def VvD.le {x:Value}{d:Int}(h:VvD x d):d <= 4:=by
 obtain ⟨h1,⟨h2,_⟩ | ⟨h2,h3,h4⟩⟩:=h<;>omega
section
variable {p q:Value}
def l7d {x y z:Int}(hp:VvD p x)(hq:VvD q y)(h:(x=2 /\ 2 <= y /\ z=y) \/ (x≠2 /\ 2 <= x /\ y=2 /\ z=x)):
  Agr ((b2w 9 p.Num q.Num).bind fun r=>if (r.2 != 0)=true then some (Z0,r.2) else (b8c 9 p.Dim q.Dim).bind fun d=>some (⟨d,false,r.1⟩,0)) (h4m 9 [p,q]) (Rv z):=by
 have hx:2 <= x:=by omega
 have hy:2 <= y:=by omega
 obtain ⟨p1,p2,p3⟩:=hp.num hx
 obtain ⟨q1,q2,q3⟩:=hq.num hy
 have hx4:=hp.le
 have hy4:=hq.le
 obtain ⟨r,e1,e2⟩:=i3c p3 q3
 obtain ⟨c,e,_,c2,_⟩:=h6y p.Num q.Num
 have hd:b8c 9 p.Dim q.Dim=some z /\ h4i 9 [p.Dim,q.Dim]=some z:=by
  rw [p1,q1]
  rcases h with ⟨rfl,h1,rfl⟩ | ⟨h0,h1,rfl,rfl⟩
  ·have:(z != 1)=true:=by simp;omega
   refine ⟨rfl,?_⟩
   unfold h4i
   simp only [show ((9:Int)==5)=false from rfl,show ((9:Int)==4)=false from rfl,show ((9:Int)==6)=false from rfl,show ((9:Int)==7)=false from rfl,show ((9:Int)==8)=false from rfl,show ((9:Int)==19)=false from rfl,show ((9:Int)==20)=false from rfl,qM,if_false,qA,BEq.rfl,if_true,show c7 [(2:Int),z] 0=some 2 from rfl,show c7 [(2:Int),z] 1=some z from rfl,this]
  ·have h2:(z==2)=false:=by simpa using h0
   have h3:(z != 1)=true:=by simp;omega
   refine ⟨?_,?_⟩
   ·unfold b8c
    simp only [BEq.rfl,if_true,h2,qA,qM,if_false,show ((9:Int)==10)=false from rfl]
   unfold h4i
   simp only [show ((9:Int)==5)=false from rfl,show ((9:Int)==4)=false from rfl,show ((9:Int)==6)=false from rfl,show ((9:Int)==7)=false from rfl,show ((9:Int)==8)=false from rfl,show ((9:Int)==19)=false from rfl,show ((9:Int)==20)=false from rfl,qM,if_false,qA,BEq.rfl,if_true,show c7 [z,(2:Int)] 0=some z from rfl,show c7 [z,(2:Int)] 1=some 2 from rfl,h2,h3]
 rw [i1g,hd.2,qA,c2,qA]
 unfold b2w h4y
 simp only [show ((9:Int)==7)=false from rfl,show ((9:Int)==8)=false from rfl,show ((9:Int)==5)=false from rfl,show ((9:Int)==4)=false from rfl,show ((9:Int)==6)=false from rfl,qM,if_false,BEq.rfl,if_true,show c7 [p,q] 0=some p from rfl,show c7 [p,q] 1=some q from rfl,qA,l3w,e1,hd.1,joinC,h4h]
 refine Agr.ite Iff.rfl (fun h1 _=>Agr.some (Rv.err (by simpa using h1))) fun h1 _=>Agr.some (Rv.ok rfl (.mk' (e2 (by simpa using h1)) (by omega) (by omega)))
def l93 {x y z:Int}(hp:VvD p x)(hq:VvD q y)(h:(y=2 /\ 2 <= x /\ z=x) \/ (y≠2 /\ 2 <= x /\ x=y /\ z=2)):
  Agr ((b2w 10 p.Num q.Num).bind fun r=>if (r.2 != 0)=true then some (Z0,r.2) else (b8c 10 p.Dim q.Dim).bind fun d=>some (⟨d,false,r.1⟩,0)) (h4m 10 [p,q]) (Rv z):=by
 have hx:2 <= x:=by omega
 have hy:2 <= y:=by omega
 obtain ⟨p1,p2,p3⟩:=hp.num hx
 obtain ⟨q1,q2,q3⟩:=hq.num hy
 have hx4:=hp.le
 have hy4:=hq.le
 obtain ⟨r,e1,e2⟩:=i3i p3 q3
 obtain ⟨c,e,_,c2,_⟩:=h6y p.Num q.Num
 have hd:b8c 10 p.Dim q.Dim=some z /\ h4i 10 [p.Dim,q.Dim]=some z:=by
  rw [p1,q1]
  rcases h with ⟨rfl,h1,rfl⟩ | ⟨h0,h1,rfl,rfl⟩
  ·have h3:(z != 1)=true:=by simp;omega
   refine ⟨rfl,?_⟩
   unfold h4i
   simp only [show ((10:Int)==5)=false from rfl,show ((10:Int)==4)=false from rfl,show ((10:Int)==6)=false from rfl,show ((10:Int)==7)=false from rfl,show ((10:Int)==8)=false from rfl,show ((10:Int)==19)=false from rfl,show ((10:Int)==20)=false from rfl,show ((10:Int)==9)=false from rfl,qM,if_false,qA,BEq.rfl,if_true,show c7 [z,(2:Int)] 0=some z from rfl,show c7 [z,(2:Int)] 1=some 2 from rfl,h3]
  ·have h2:(x==2)=false:=by simpa using h0
   have h3:(x != 1)=true:=by simp;omega
   have h4:(x != 2)=true:=by simpa using h0
   refine ⟨?_,?_⟩
   ·unfold b8c
    simp only [BEq.rfl,if_true,h4,qA,qM,if_false,show ((10:Int)==9)=false from rfl]
   unfold h4i
   simp only [show ((10:Int)==5)=false from rfl,show ((10:Int)==4)=false from rfl,show ((10:Int)==6)=false from rfl,show ((10:Int)==7)=false from rfl,show ((10:Int)==8)=false from rfl,show ((10:Int)==19)=false from rfl,show ((10:Int)==20)=false from rfl,show ((10:Int)==9)=false from rfl,qM,if_false,qA,BEq.rfl,if_true,show c7 [x,x] 0=some x from rfl,show c7 [x,x] 1=some x from rfl,h2,h3]
 rw [i1g,hd.2,qA,c2,qA]
 unfold b2w h4y
 simp only [show ((10:Int)==7)=false from rfl,show ((10:Int)==8)=false from rfl,show ((10:Int)==9)=false from rfl,show ((10:Int)==5)=false from rfl,show ((10:Int)==4)=false from rfl,show ((10:Int)==6)=false from rfl,qM,if_false,BEq.rfl,if_true,show c7 [p,q] 0=some p from rfl,show c7 [p,q] 1=some q from rfl,qA,l43,e1,hd.1,joinC,h4h]
 refine Agr.ite Iff.rfl (fun h1 _=>Agr.some (Rv.err (by simpa using h1))) fun h1 _=>Agr.some (Rv.ok rfl (.mk' (e2 (by simpa using h1)) (by omega) (by omega)))
def l7p {op x:Int}(h0:11 <= op)(h1:op <= 16)(hp:VvD p x)(hq:VvD q x)(hx:2 <= x):
  Agr ((b7z op p.Num q.Num).bind fun r=>some (⟨1,r.1,⟨0,0⟩⟩,r.2)) (h4m op [p,q]) (Rv 1):=by
 obtain ⟨p1,p2,p3⟩:=hp.num hx
 obtain ⟨q1,q2,q3⟩:=hq.num hx
 obtain ⟨c,e,c1,c2,c3⟩:=h6y p.Num q.Num
 obtain ⟨rfl,_,_⟩:=c3 p3 q3
 have h3:(x != 1)=true:=by simp;omega
 have hop:op=11 \/ op=12 \/ op=13 \/ op=14 \/ op=15 \/ op=16:=by omega
 rw [i1g,c2,p1,q1]
 unfold b7z
 rw [c1,qA]
 rcases hop with rfl | rfl | rfl | rfl | rfl | rfl
 all_goals
  have hd: ∀op:Int,(op=11 \/ op=12 \/ op=13 \/ op=14 \/ op=15 \/ op=16) -> h4i op [x,x]=some 1:=fun op h=>by
   rcases h with rfl | rfl | rfl | rfl | rfl | rfl<;>
   ·unfold h4i
    simp [show c7 [x,x] 0=some x from rfl,show c7 [x,x] 1=some x from rfl,h3]
  rw [hd _ (by decide)]
  exact Agr.some (Rv.ok rfl (.tr _))
def m11 {op x:Int}(h:op=19 \/ op=20)(hp:VvD p x)(hq:VvD q x)(hx:2 <= x):
  Agr ((b2w op p.Num q.Num).bind fun r=>if (r.2 != 0)=true then some (Z0,r.2) else (b8c op p.Dim q.Dim).bind fun d=>some (⟨d,false,r.1⟩,0)) (h4m op [p,q]) (Rv x):=by
 obtain ⟨p1,p2,p3⟩:=hp.num hx
 obtain ⟨q1,q2,q3⟩:=hq.num hx
 have hx4:=hp.le
 obtain ⟨c,e,c1,c2,c3⟩:=h6y p.Num q.Num
 obtain ⟨rfl,_,c4⟩:=c3 p3 q3
 have h3:(x != 1)=true:=by simp;omega
 have hd:h4i op [x,x]=some x /\ b8c op x x=some x:=by
  rcases h with rfl | rfl<;>refine ⟨?_,rfl⟩<;>
  ·unfold h4i
   simp [show c7 [x,x] 0=some x from rfl,show c7 [x,x] 1=some x from rfl,h3]
 have hv: ∀f,f=p.Num \/ f=q.Num -> VvD ⟨x,false,f⟩ x:=fun f hf=> .mk' (by rcases hf with rfl | rfl<;>assumption) hx hx4
 rw [i1g,c2,p1,q1,hd.1,hd.2]
 rcases h with rfl | rfl
 all_goals
  unfold b2w h4y joinC h7b joinC h4h
  simp [c1,show c7 [p,q] 0=some p from rfl,show c7 [p,q] 1=some q from rfl]
  by_cases hc:c<0
  ·simp [hc,show c≠0 by omega,show¬0 <= c by omega]
   first | exact Agr.some (Rv.ok rfl (hv _ (.inl rfl))) | exact Agr.some (Rv.ok rfl (hv _ (.inr rfl)))
  ·by_cases h0:c=0
   ·have:=c4 h0
    simp [hc,h0,this,show 0 <= c by omega]
    exact Agr.some (Rv.ok rfl (hv _ (.inr rfl)))
   ·simp [hc,h0,show 0 <= c by omega]
    first | exact Agr.some (Rv.ok rfl (hv _ (.inl rfl))) | exact Agr.some (Rv.ok rfl (hv _ (.inr rfl)))
def l97 {a b:Int}(h0:0 <= a)(h1:a <= 100000)(h2:0 <= b)(h3:b <= 100000)(hp:p=⟨3,false,⟨a,1⟩⟩)(hq:q=⟨3,false,⟨b,1⟩⟩):
  Agr ((b2w 7 p.Num q.Num).bind fun r=>if (r.2 != 0)=true then some (Z0,r.2) else (b8c 7 p.Dim q.Dim).bind fun d=>some (⟨d,false,r.1⟩,0)) (h4m 7 [p,q]) (Rv 3):=by
 subst hp hq
 obtain ⟨c,e,_,c2,_⟩:=h6y ⟨a,1⟩ ⟨b,1⟩
 have e1:=i36 h0 h1 h2 h3
 rw [i1g,c2]
 unfold b2w h4y joinC h4h
 rw [l48,e1]
 simp only [show ((7:Int)==5)=false from rfl,show ((7:Int)==4)=false from rfl,show ((7:Int)==6)=false from rfl,BEq.rfl,if_true,qM,if_false,qA,show c7 [(⟨3,false,⟨a,1⟩⟩:Value),⟨3,false,⟨b,1⟩⟩] 0=some ⟨3,false,⟨a,1⟩⟩ from rfl,show c7 [(⟨3,false,⟨a,1⟩⟩:Value),⟨3,false,⟨b,1⟩⟩] 1=some ⟨3,false,⟨b,1⟩⟩ from rfl,e1]
 exact Agr.some (Rv.ok rfl (.mk' (h6w (by omega) (by omega)) (by decide) (by decide)))
end
def NmV (v:View)(st:O Step)(s:A4)(x:Value):Prop:=a84 ⟨v,st⟩ s=some x /\ ∀R,h4w R (AE.nm s).e v st=some (x,0)
inductive EvT (v:View) (st:List Step):AE -> Int -> Prop where
 | lit {u d}:VF u -> 2 <= d -> d <= 4 -> EvT v st (.lit u d) d
 | nm {s d x}:NmV v st s x -> VvD x d -> EvT v st (.nm s) d
 | best {k}:1 <= k -> k <= 45 -> EvT v st (.best k) 4
 | mul {a b x y z}:EvT v st a x -> EvT v st b y -> (x=2 /\ 2 <= y /\ z=y) \/ (x≠2 /\ 2 <= x /\ y=2 /\ z=x) -> EvT v st (.bin 9 a b) z
 | div {a b x y z}:EvT v st a x -> EvT v st b y -> (y=2 /\ 2 <= x /\ z=x) \/ (y≠2 /\ 2 <= x /\ x=y /\ z=2) -> EvT v st (.bin 10 a b) z
 | cmp {op a b x}:11 <= op -> op <= 16 -> EvT v st a x -> EvT v st b x -> 2 <= x -> EvT v st (.bin op a b) 1
 | mm {op a b x}:op=19 \/ op=20 -> EvT v st a x -> EvT v st b x -> 2 <= x -> EvT v st (.bin op a b) x
 | and {a b}:EvT v st a 1 -> EvT v st b 1 -> EvT v st (.bin 17 a b) 1
 | add {s t a b}:NmV v st s ⟨3,false,⟨a,1⟩⟩ -> NmV v st t ⟨3,false,⟨b,1⟩⟩ -> 0 <= a /\ a <= 100000 -> 0 <= b /\ b <= 100000 -> EvT v st (.bin 7 (.nm s) (.nm t)) 3
 | ite {a b c x}:EvT v st a 1 -> EvT v st b x -> EvT v st c x -> EvT v st (.ite a b c) x
def l6v {v:View}(hv:VW v){st:O Step}{a:AE}{d:Int}(h:EvT v st a d): ∀m k,2*a.dep <= m -> a.dep <= k -> Agr ((c4 m).f_eval_evaluator_expr ⟨v,st⟩ a.e) ((h28 k).f_pensionref8_value a.e v st) (Rv d):=by
 have bin: ∀{a b:AE}{op x y z:Int},7 <= op -> op <= 20 -> op≠17 -> op≠18 ->
   (∀m k,2*a.dep <= m -> a.dep <= k -> Agr ((c4 m).f_eval_evaluator_expr ⟨v,st⟩ a.e) ((h28 k).f_pensionref8_value a.e v st) (Rv x)) ->
   (∀m k,2*b.dep <= m -> b.dep <= k -> Agr ((c4 m).f_eval_evaluator_expr ⟨v,st⟩ b.e) ((h28 k).f_pensionref8_value b.e v st) (Rv y)) ->
   (∀p q,VvD p x -> VvD q y -> Agr (if 11 <= op /\ op <= 16 then (b7z op p.Num q.Num).bind fun r=>some (⟨1,r.1,⟨0,0⟩⟩,r.2)
    else (b2w op p.Num q.Num).bind fun r=>if (r.2 != 0)=true then some (Z0,r.2) else (b8c op p.Dim q.Dim).bind fun d=>some (⟨d,false,r.1⟩,0)) (h4m op [p,q]) (Rv z)) ->
   ∀m k,2*(AE.bin op a b).dep <= m -> (AE.bin op a b).dep <= k -> Agr ((c4 m).f_eval_evaluator_expr ⟨v,st⟩ (AE.bin op a b).e) ((h28 k).f_pensionref8_value (AE.bin op a b).e v st) (Rv z):=by
  intro a b op x y z h0 h1 h2 h3 iA iB hop m k hm hk
  have da:=i55 (a:=AE.bin op a b) (b:=a) (by simp [AE.args])
  have db:=i55 (a:=AE.bin op a b) (b:=b) (by simp [AE.args])
  obtain ⟨m,rfl⟩: ∃q,m=q+1:=⟨m-1,by omega⟩
  obtain ⟨k,rfl⟩: ∃q,k=q+1:=⟨k-1,by omega⟩
  show Agr (a5u (c4 m) ⟨v,st⟩ (AE.bin op a b).e) (h4w (h28 k) (AE.bin op a b).e v st) _
  rw [i25 h0 h1 h2 h3,i10 h0 h1 h2 h3]
  exact m0e (iA m k (by omega) (by omega)) (iB m k (by omega) (by omega)) hop
 induction h with
 | @lit u d h1 h2 h3=>
   intro m k hm hk
   obtain ⟨m,rfl⟩: ∃q,m=q+1:=⟨m-1,by have:=i5s (.lit u d);omega⟩
   obtain ⟨k,rfl⟩: ∃q,k=q+1:=⟨k-1,by have:=i5s (.lit u d);omega⟩
   exact Agr.some (a:=(⟨d,false,u⟩,0)) (b:=(⟨d,false,u⟩,0)) (Rv.ok rfl (.mk' h1 h2 h3))
 | @nm s d x h1 h2=>
   intro m k hm hk
   obtain ⟨m,rfl⟩: ∃q,m=q+1:=⟨m-1,by have:=i5s (.nm s);omega⟩
   obtain ⟨k,rfl⟩: ∃q,k=q+1:=⟨k-1,by have:=i5s (.nm s);omega⟩
   refine ⟨(x,0),(x,0),?_,h1.2 _,Rv.ok rfl h2⟩
   show ((a84 ⟨v,st⟩ s).bind fun v2=>some (v2,0))=_
   rw [h1.1];rfl
 | @best k0 h1 h2=>
   intro m k hm hk
   obtain ⟨m,rfl⟩: ∃q,m=q+1:=⟨m-1,by have:=i5s (.best k0);omega⟩
   obtain ⟨k,rfl⟩: ∃q,k=q+1:=⟨k-1,by have:=i5s (.best k0);omega⟩
   obtain ⟨f,e1,e2,e3⟩:=i2y h1 h2 hv.n hv.r
   refine ⟨(⟨4,false,f⟩,0),(⟨4,false,f⟩,0),?_,?_,Rv.ok rfl (.mk' e3 (by decide) (by decide))⟩
   ·show ((c4b v.Years k0).bind fun v3=>(t6 4 v3.1).bind fun v4=>some (v4,v3.2))=_
    rw [e1];rfl
   ·show ((h5r v.Years k0).bind fun v1=>if (v1.2 != 0)=true then some (Z0,v1.2) else some (⟨4,false,v1.1⟩,0))=_
    rw [e2];rfl
 | mul _ _ h1 iA iB=>exact bin (by decide) (by decide) (by decide) (by decide) iA iB fun p q hp hq=>by rw [if_neg (by decide)];exact l7d hp hq h1
 | div _ _ h1 iA iB=>exact bin (by decide) (by decide) (by decide) (by decide) iA iB fun p q hp hq=>by rw [if_neg (by decide)];exact l93 hp hq h1
 | cmp h0 h1 _ _ h2 iA iB=>exact bin (by omega) (by omega) (by omega) (by omega) iA iB fun p q hp hq=>by rw [if_pos ⟨h0,h1⟩];exact l7p h0 h1 hp hq h2
 | mm h0 _ _ h2 iA iB=>exact bin (by omega) (by omega) (by omega) (by omega) iA iB fun p q hp hq=>by rw [if_neg (by omega)];exact m11 h0 hp hq h2
 | @and a b _ _ iA iB=>
   intro m k hm hk
   have da:=i55 (a:=AE.bin 17 a b) (b:=a) (by simp [AE.args])
   have db:=i55 (a:=AE.bin 17 a b) (b:=b) (by simp [AE.args])
   obtain ⟨m,rfl⟩: ∃q,m=q+1+1:=⟨m-2,by omega⟩
   obtain ⟨k,rfl⟩: ∃q,k=q+1:=⟨k-1,by omega⟩
   show Agr (((c7 [a.e,b.e] 0).bind fun v1=>((c4 m).f_eval_evaluator_expr ⟨v,st⟩ v1).bind fun v2=>if (v2.2 != 0)=true then some (Z0,v2.2) else
     (some (!v2.1.Yes)).bind fun v3=>(if v3=true then some true else (some false).bind fun v4=>some v4).bind fun v5=>if v5=true then some (v2.1,0) else
     (some false).bind fun v6=>if v6=true then (c7 [a.e,b.e] 2).bind fun v7=>((c4 m).f_eval_evaluator_expr ⟨v,st⟩ v7).bind fun v8=>some (v8.1,v8.2) else (c7 [a.e,b.e] 1).bind fun v9=>((c4 m).f_eval_evaluator_expr ⟨v,st⟩ v9).bind fun v10=>some (v10.1,v10.2)).bind fun v8=>some (v8.1,v8.2))
    ((c7 [a.e,b.e] 0).bind fun v8=>((h28 k).f_pensionref8_value v8 v st).bind fun v9=>(if (v9.2 != 0)=true then some true else some (v9.1.Yes==false)).bind fun v10=>if v10=true then some (v9.1,v9.2) else (c7 [a.e,b.e] 1).bind fun v11=>((h28 k).f_pensionref8_value v11 v st).bind fun v12=>some (v12.1,v12.2)) _
   obtain ⟨⟨p,c⟩,⟨p',c'⟩,e1,e2,h1,h2⟩:=iA m k (by omega) (by omega)
   obtain ⟨⟨q,d⟩,⟨q',d'⟩,e3,e4,h3,h4⟩:=iB m k (by omega) (by omega)
   dsimp only at h1 h2 h3 h4
   subst h1 h3
   simp only [show c7 [a.e,b.e] 0=some a.e from rfl,show c7 [a.e,b.e] 1=some b.e from rfl,qA,e1,e2,e3,e4]
   by_cases hc:c=0
   ·subst hc
    obtain ⟨rfl,vp⟩:=h2 rfl
    cases hy:p.Yes
    ·simp [hy]
     exact Agr.some (Rv.ok rfl vp)
    ·simp [hy]
     exact Agr.some ⟨rfl,h4⟩
   ·have:(c != 0)=true:=by simpa using hc
    simp [this,hc]
    exact Agr.some (Rv.err hc)
 | @add s t a b h1 h2 h3 h4=>
   have r: ∀{s:A4}{x:Value},NmV v st s x -> ∀m k,2*(AE.nm s).dep <= m -> (AE.nm s).dep <= k -> (c4 m).f_eval_evaluator_expr ⟨v,st⟩ (AE.nm s).e=some (x,0) /\ (h28 k).f_pensionref8_value (AE.nm s).e v st=some (x,0):=by
    intro s x h m k hm hk
    obtain ⟨m,rfl⟩: ∃q,m=q+1:=⟨m-1,by have:=i5s (.nm s);omega⟩
    obtain ⟨k,rfl⟩: ∃q,k=q+1:=⟨k-1,by have:=i5s (.nm s);omega⟩
    refine ⟨?_,h.2 _⟩
    show ((a84 ⟨v,st⟩ s).bind fun v2=>some (v2,0))=_
    rw [h.1];rfl
   intro m k hm hk
   obtain ⟨m,rfl⟩: ∃q,m=q+1:=⟨m-1,by have:=i5s (.bin 7 (.nm s) (.nm t));omega⟩
   obtain ⟨k,rfl⟩: ∃q,k=q+1:=⟨k-1,by have:=i5s (.bin 7 (.nm s) (.nm t));omega⟩
   have hd:(AE.bin 7 (.nm s) (.nm t)).dep=2:=rfl
   have hn: ∀s,(AE.nm s).dep=1:=fun s=>rfl
   show Agr (a5u (c4 m) ⟨v,st⟩ (AE.bin 7 (.nm s) (.nm t)).e) (h4w (h28 k) (AE.bin 7 (.nm s) (.nm t)).e v st) _
   obtain ⟨r1,r2⟩:=r h1 m k (by rw [hn];omega) (by rw [hn];omega)
   obtain ⟨r3,r4⟩:=r h2 m k (by rw [hn];omega) (by rw [hn];omega)
   rw [i25 (by decide) (by decide) (by decide) (by decide),i10 (by decide) (by decide) (by decide) (by decide),r1,r2,r3,r4]
   simp only [qA,bne_self_eq_false,qM,if_false]
   rw [if_neg (by decide)]
   exact l97 (p:=⟨3,false,⟨a,1⟩⟩) (q:=⟨3,false,⟨b,1⟩⟩) h3.1 h3.2 h4.1 h4.2 rfl rfl
 | @ite a b c x _ _ _ iA iB iC=>
   intro m k hm hk
   have da:=i55 (a:=AE.ite a b c) (b:=a) (by simp [AE.args])
   have db:=i55 (a:=AE.ite a b c) (b:=b) (by simp [AE.args])
   have dc:=i55 (a:=AE.ite a b c) (b:=c) (by simp [AE.args])
   obtain ⟨m,rfl⟩: ∃q,m=q+1+1:=⟨m-2,by omega⟩
   obtain ⟨k,rfl⟩: ∃q,k=q+1:=⟨k-1,by omega⟩
   show Agr (((c7 [a.e,b.e,c.e] 0).bind fun v1=>((c4 m).f_eval_evaluator_expr ⟨v,st⟩ v1).bind fun v2=>if (v2.2 != 0)=true then some (Z0,v2.2) else
     (some false).bind fun v3=>(if v3=true then some true else (some false).bind fun v4=>some v4).bind fun v5=>if v5=true then some (v2.1,0) else
     (some (!v2.1.Yes)).bind fun v6=>if v6=true then (c7 [a.e,b.e,c.e] 2).bind fun v7=>((c4 m).f_eval_evaluator_expr ⟨v,st⟩ v7).bind fun v8=>some (v8.1,v8.2) else (c7 [a.e,b.e,c.e] 1).bind fun v9=>((c4 m).f_eval_evaluator_expr ⟨v,st⟩ v9).bind fun v10=>some (v10.1,v10.2)).bind fun v8=>some (v8.1,v8.2))
    ((c7 [a.e,b.e,c.e] 0).bind fun v13=>((h28 k).f_pensionref8_value v13 v st).bind fun v14=>if (v14.2 != 0)=true then some (Z0,v14.2) else if v14.1.Yes=true then (c7 [a.e,b.e,c.e] 1).bind fun v15=>((h28 k).f_pensionref8_value v15 v st).bind fun v16=>some (v16.1,v16.2) else (c7 [a.e,b.e,c.e] 2).bind fun v17=>((h28 k).f_pensionref8_value v17 v st).bind fun v18=>some (v18.1,v18.2)) _
   obtain ⟨⟨p,e⟩,⟨p',e'⟩,e1,e2,h1,h2⟩:=iA m k (by omega) (by omega)
   obtain ⟨⟨q,d⟩,⟨q',d'⟩,e3,e4,h3,h4⟩:=iB m k (by omega) (by omega)
   obtain ⟨⟨r,f⟩,⟨r',f'⟩,e5,e6,h5,h6⟩:=iC m k (by omega) (by omega)
   dsimp only at h1 h2 h3 h4 h5 h6
   subst h1 h3 h5
   simp only [show c7 [a.e,b.e,c.e] 0=some a.e from rfl,show c7 [a.e,b.e,c.e] 1=some b.e from rfl,show c7 [a.e,b.e,c.e] 2=some c.e from rfl,qA,e1,e2,e3,e4,e5,e6]
   by_cases hc:e=0
   ·subst hc
    obtain ⟨rfl,vp⟩:=h2 rfl
    cases hy:p.Yes
    ·simp [hy]
     exact Agr.some ⟨rfl,h6⟩
    ·simp [hy]
     exact Agr.some ⟨rfl,h4⟩
   ·have:(e != 0)=true:=by simpa using hc
    simp [this,hc]
    exact Agr.some (Rv.err hc)
def i1k {v:View}(hv:VW v)(st:O Step){p:A4×Value}(hp:p∈[(e0r,(⟨2,false,⟨v.Age,1⟩⟩:Value)),(c6q,⟨2,false,⟨v.Children,1⟩⟩),(b6u,⟨3,false,⟨v.Insured,1⟩⟩),(c5w,⟨3,false,⟨v.Worked,1⟩⟩),(c3c,⟨3,false,⟨v.Equated,1⟩⟩),(e39,⟨4,false,v.Base⟩)]):NmV v st p.1 p.2:=by
 obtain ⟨e1,e2⟩:=(i1z hv).1 p hp
 constructor
 ·unfold a84
  rw [e1];rfl
 ·intro R
  show ((h5g v p.1).bind fun v2=>if v2.2=true then some (v2.1,0) else d9 FU (h5s R st) ((AE.nm p.1).e,Z0,i64 ((st.length:Int)-1)))=_
  rw [e2];rfl
def i2u {v:View}(hv:VW v){st:O Step}(hl:st.length <= 1000){s:A4}(hs:s∈[i4l,i4z])(x:Value):NmV v (st++[⟨s,x⟩]) s x:=by
 obtain ⟨e1,e2⟩:=(i1z hv).2 s hs
 have hq:(st++[(⟨s,x⟩:Step)])[st.length]? =some ⟨s,x⟩:=by simp
 obtain ⟨m,hm⟩:=j17
 constructor
 ·unfold a84
  rw [e1]
  rw [qA,if_neg (by simp),hm,d24]
  generalize d9 (m+1+1) (b38 ⟨v,st++[⟨s,x⟩]⟩)=B
  unfold b38
  dsimp only
  rw [show ((st++[(⟨s,x⟩:Step)]).length:Int)-1=(st.length:Int) by simp]
  rw [if_neg (by simp),e7 hq,qA,if_pos (by simp)]
 ·intro R
  show ((h5g v s).bind fun v2=>if v2.2=true then some (v2.1,0) else d9 FU (h5s R (st++[⟨s,x⟩])) ((AE.nm s).e,Z0,i64 (((st++[(⟨s,x⟩:Step)]).length:Int)-1)))=_
  rw [e2,qA,if_neg (by simp),hm,d24]
  generalize d9 (m+1+1) (h5s R (st++[⟨s,x⟩]))=B
  unfold h5s
  rw [show ((st++[(⟨s,x⟩:Step)]).length:Int)-1=(st.length:Int) by simp,e9 (by omega) (by omega)]
  dsimp only
  rw [if_pos (by simp),e7 hq,qA,if_pos (by show ((s.toList==s.toList)=true);simp),qA]
def bnd (st:O Step):O iQ:=st.map fun s=>⟨s.Name,s.Value.Dim⟩
def l12 {v:View}(hv:VW v){a:AE}(ok:a.ok)(hd:a.dep <= 10)(hs:a.sz <= 60){st:O Step}(hst: ∀s∈st,∃d,VvD s.Value d)(hl:st.length <= 10){d:Int}(h5:a.inf5 (bnd st)=some d):h4n a.e v st=h7q a.e v st:=by
 have hen:j01 (bnd st):=⟨by unfold bnd;simp;omega,fun b hb=>by
  unfold bnd at hb
  obtain ⟨s,hs,rfl⟩:=List.mem_map.1 hb
  obtain ⟨d,h1,h2⟩:=hst s hs
  dsimp only;rw [h1];omega⟩
 unfold h4n
 rw [(i0a hv).2,qA]
 simp only [qU,qM,if_false]
 refine i3z (fun i=>(a.e,v,Z0,bnd (st.take i),(i:Int))) st.length ?_ ?_ (by have:=i4b;omega)
 ·intro i hi r
  have hy:st[i]? =some st[i]:=qG hi
  obtain ⟨d,hd⟩:=hst st[i] (qV hi)
  unfold h7j
  simp only [i6p hi,if_true,e7 hy,qA,hd.ref,qU,qM,if_false,i4v (show i <= 1000000 by omega)]
  rw [p6 (by unfold bnd;simp;omega),qA,a9h hy]
  unfold bnd
  rw [List.map_append];rfl
 ·intro r
  unfold h7j
  simp only [i4y,qM,if_false,List.take_length]
  rw [h9g hen ok hd hs h5,qA]
  cases h7q a.e v st<;>rfl
def h9m {v:View}(hv:VW v){a:AE}(ok:a.ok)(hd:a.dep <= 10)(hs:a.sz <= 60){st:O Step}(hst: ∀s∈st,∃d,VvD s.Value d)(hl:st.length <= 10){d:Int}(h5:a.inf5 (bnd st)=some d)(h:EvT v st a d):Agr (b1n ⟨v,st⟩ a.e) (h4n a.e v st) (Rv d):=by
 rw [l12 hv ok hd hs hst hl h5]
 exact l6v hv h FU FU (by have:=i4b;omega) (by have:=i4b;omega)
def i3d {v:View}{w:Version}{L:O Int}{r3:(O Step×Version×View×O Int×Int) -> A3 (O Step×Int)}{v2:O Step×Version×View×O Int×Int}{st:O Step}{l:Let}(hl:st.length <= 10)(hn: ∀s∈st,(s.Name.toList==l.Name.toList)=false):
  d9 FU (h6n r3 v2) (st,w,v,L,l,false,0)=(h4n l.Body v st).bind fun v12=>if (v12.2 != 0)=true then some ([],v12.2) else (a4n 48 st [(⟨l.Name,v12.1⟩:Step)]).bind fun v13=>r3 (v13,w,v,L,i64 (v2.2.2.2.2+1)):=by
 refine i3z (fun i=>(st,w,v,L,l,false,(i:Int))) st.length ?_ ?_ (by have:=i4b;omega)
 ·intro i hi r
  have hy:st[i]? =some st[i]:=qG hi
  unfold h6n
  simp only [i6p hi,if_true,e7 hy,qA,hn st[i] (qV hi),qM,if_false,i4v (show i <= 1000000 by omega)]
 ·intro r
  unfold h6n
  simp only [i4y,qM,if_false]
def usL (u:Bool):O Int:=if u then [0,1] else []
structure CL (P:Ps) (a:AE) (d:Int) (u:Bool):Prop where
 u1:c4e a.e P.lts=some (usL u)
 u2:h7v a.e P.lts=some (usL u)
 ok:a.ok
 dp:a.dep <= 10
 sz:a.sz <= 60
 ev: ∀(v:View),VW v -> ∀st,(u=true -> ∃y st',st=st'++[⟨i4z,y⟩] /\ VvD y 2 /\ st'.length <= 10) -> EvT v st a d
inductive Out (v:View) (D:Option (Int×vQ×(List Bool)×(List Step))) (L:Option (List Step×Int)) (E:List Step -> Option (Value×Int)) (nm:ByteArray) (d:Int) (F:List Bool -> List Step -> Prop):Prop where
 | bad (c:Int) (h:c≠0) (q) (hD:D=some (c,q)) (hL:(∃l,L=some (l,c)) \/ ∃st x,L=some (st,0) /\ E st=some (x,c)):Out v D L E nm d F
 | good (st:List Step) (x:Value) (dn:List Bool) (hD:D=some (0,⟨v,[]⟩,dn,st++[⟨nm,x⟩])) (hL:L=some (st,0)) (hE:E st=some (x,0)) (hx:VvD x d) (hF:F dn st):Out v D L E nm d F
def h9p {v:View}(hv:VW v){a:AE}{d:Int}{st:O Step}{nm:A4}{dn:O Bool}{L:A3 (O Step×Int)}(hL:L=some (st,0))(hl:st.length <= 10)(hA:Agr (b1n ⟨v,st⟩ a.e) (h4n a.e v st) (Rv d)){F:O Bool -> O Step -> Prop}(hF:F dn st):
  Out v ((b1n ⟨v,st⟩ a.e).bind fun p=>if (p.2 != 0)=true then some (p.2,⟨v,[]⟩,dn,st) else (a4n 48 st [(⟨nm,p.1⟩:Step)]).bind fun q=>some (0,⟨v,[]⟩,dn,q)) L (fun st=>h4n a.e v st) nm d F:=by
 obtain ⟨⟨x,c⟩,⟨y,c'⟩,e1,e2,h1,h2⟩:=hA
 dsimp only at h1 h2
 subst h1
 by_cases hc:c=0
 ·subst hc
  obtain ⟨rfl,vx⟩:=h2 rfl
  refine .good st x dn ?_ hL e2 vx hF
  rw [e1]
  rw [qA,if_neg (by simp),p6 (by simp;omega)];rfl
 ·refine .bad c hc (⟨v,[]⟩,dn,st) ?_ (.inr ⟨st,y,hL,e2⟩)
  rw [e1]
  show (if (c != 0)=true then _ else _)=_
  rw [if_pos (by simpa using hc)]
def i0d: ∃m,FU=m+1+1+1+1:=⟨FU-4,by have:=i4b;omega⟩
def i3h {n:Nat}(h:n<700):VF (i5d n):=by
 have hp:0<Nat.gcd n 100:=Nat.gcd_pos_of_pos_right _ (by decide)
 have h1:=Nat.div_le_self n (Nat.gcd n 100)
 have h2:=Nat.div_le_self 100 (Nat.gcd n 100)
 have h3:0<100/Nat.gcd n 100:=Nat.div_pos (Nat.gcd_le_right _ (by decide)) hp
 have q1:(0:Int) <= ((n/Nat.gcd n 100:Nat):Int):=Int.natCast_nonneg _
 refine h7o.2 ⟨?_,Nat.gcd_div_gcd_div_gcd_of_pos_right (by decide)⟩
 unfold FOK i5d
 dsimp only
 omega
def i2k {st:O Step}(h:st.length <= 10)(x:Step):a4n 48 st [x]=some (st++[x]):=p6 (by simp;omega)
def l8p {v:View}{a:AE}{lts:O Let}{dn:O Bool}{nm:A4}{s0:O Step}{L:O Int}(h:c4e a.e lts=some L): ∃f:((O Step×vQ×O Bool×Expr×O Int×Int) -> A3 (Int×vQ×O Bool×O Step)) -> (O Step×vQ×O Bool×Expr×O Int×Int) -> A3 (Int×vQ×O Bool×O Step),
  a3e ⟨v,[]⟩ a.e lts dn nm s0=d9 FU f (s0,⟨v,[]⟩,dn,a.e,L,0) /\
  (∀r st d,f r (st,⟨v,[]⟩,d,a.e,L,(L.length:Int))=(b1n ⟨v,st⟩ a.e).bind fun p=>if (p.2 != 0)=true then some (p.2,⟨v,[]⟩,d,st) else (a4n 48 st [(⟨nm,p.1⟩:Step)]).bind fun q=>some (0,⟨v,[]⟩,d,q)) /\
  (∀r st d (i j:Nat) l,L[i]? =some (j:Int) -> d[j]? =some false -> lts[j]? =some l -> f r (st,⟨v,[]⟩,d,a.e,L,(i:Int))=(b1n ⟨v,st⟩ l.Body).bind fun p=>if (p.2 != 0)=true then some (p.2,⟨v,[]⟩,d,st) else (a4n 48 st [(⟨l.Name,p.1⟩:Step)]).bind fun q=>r (q,⟨v,[]⟩,a8h d j true,a.e,L,i64 ((i:Int)+1))):=by
 unfold a3e
 rw [h,qA]
 refine ⟨_,rfl,fun r st d=> ?_,fun r st d i j l h1 h2 h3=> ?_⟩
 ·dsimp only
  rw [if_neg (g9 _)]
 ·dsimp only
  rw [if_pos (o6 (qD.1 h1).1)]
  simp only [e7 h1,e7 h2,e7 h3,qA,qM,if_false]
section
variable {v:View} (hv:VW v) {P:Ps} (hP:PsOK P)
include hv hP
def i2x (st:O Step):EvT v st (aL1 P.yr) 2 /\ ∀st' x,st=st'++[⟨i4l,x⟩] -> st'.length <= 10 -> VvD x 2 -> EvT v st (aL2 (i5d P.np)) 2:=by
 have hi:NmV v st b6u ⟨3,false,⟨v.Insured,1⟩⟩:=i1k hv st (p:=(b6u,⟨3,false,⟨v.Insured,1⟩⟩)) (by simp)
 have d:=hv.d v.Insured (by simp)
 have y1:=hP.yr1
 refine ⟨.div (x:=3) (y:=3) (.nm hi (.mk' (h6w (by omega) (by omega)) (by decide) (by decide))) (.lit (h6w (by omega) (by omega)) (by decide) (by decide)) (.inr ⟨by decide,by decide,rfl,rfl⟩),fun st' x e hl hx=> ?_⟩
 subst e
 have hn:=i2u hv (by omega:st'.length <= 1000) (s:=i4l) (by simp) x
 have hp:=i3h hP.np1
 exact .mm (.inl rfl) (.mul (x:=2) (y:=2) (.nm hn hx) (.lit hp (by decide) (by decide)) (.inl ⟨rfl,by decide,rfl⟩)) (.lit (h7o.2 ⟨by unfold FOK;decide,by decide⟩) (by decide) (by decide)) (by decide)
def h9d {w:Version}(hw:w.Lets=P.lts){a:AE}{d:Int}{u:Bool}(hC:CL P a d u){nm:A4}{s0:O Step}(h0:s0=[] \/ ∃c,s0=[⟨d0k,c⟩] /\ VvD c 1)
  (h5:if u then (aL1 P.yr).inf5 (bnd s0)=some 2 /\ (aL2 (i5d P.np)).inf5 (bnd s0++[⟨i4l,2⟩])=some 2 /\ a.inf5 (bnd s0++[⟨i4l,2⟩,⟨i4z,2⟩])=some d else a.inf5 (bnd s0)=some d):
  Out v (a3e ⟨v,[]⟩ a.e P.lts [false,false] nm s0) (h4s a.e w v s0) (fun st=>h4n a.e v st) nm d fun dn st=>st.length <= 5 /\ (u=false -> dn=[false,false] /\ st=s0):=by
 have hs0:s0.length <= 1 /\ ∀s∈s0,(∃d,VvD s.Value d) /\ s.Name=d0k:=by
  rcases h0 with rfl | ⟨c,rfl,hc⟩
  ·simp
  ·exact ⟨by simp,fun s hs=>by rw [qF] at hs;subst hs;exact ⟨⟨1,hc⟩,rfl⟩⟩
 obtain ⟨m,hm⟩:=i0d
 obtain ⟨f,f1,f2,f3⟩:=l8p (v:=v) (dn:=[false,false]) (nm:=nm) (s0:=s0) hC.u1
 rw [f1]
 have hlets:h4s a.e w v s0=d9 FU h5m (s0,w,v,usL u,0):=by
  unfold h4s
  rw [hw,hC.u2,qA]
 cases u
 ·rw [hm,d24]
  have hL:h4s a.e w v s0=some (s0,0):=by
   rw [hlets,hm,d24];rfl
  have f2':=f2 (d9 (m+1+1+1) f) s0 [false,false]
  rw [show f (d9 (m+1+1+1) f) (s0,⟨v,[]⟩,[false,false],a.e,usL false,0)=_ from f2']
  exact h9p hv hL (by omega) (h9m hv hC.ok hC.dp hC.sz (fun s hs=>(hs0.2 s hs).1) (by omega) h5 (hC.ev v hv s0 (by simp))) ⟨by omega,fun _=>⟨rfl,rfl⟩⟩
 ·simp only [if_true] at h5
  obtain ⟨i1,i2,i3⟩:=h5
  obtain ⟨k1,k2⟩:=i2x hv hP s0
  have w3: ∀{n:Nat},n <= 100000 -> (AE.lit ⟨(n:Int),1⟩ 3).ok:=fun hn=>i4x (.whole hn (.inr (.inl ⟨rfl,rfl⟩)))
  have o1:(aL1 P.yr).ok:=i4m (by decide) (by decide) j31 (w3 hP.yr1)
  have o2:(aL2 (i5d P.np)).ok:=i4m (by decide) (by decide) (i4m (by decide) (by decide) i6r (i4x (i6l hP.np1))) (i4x k0y)
  have v0: ∀s∈s0,∃d,VvD s.Value d:=fun s hs=>(hs0.2 s hs).1
  have hlet: ∀(st:O Step)(i:Int)(l:Let),c7 [(0:Int),1] i=some i -> decide (i<2)=true -> c7 P.lts i=some l -> st.length <= 10 -> (∀s∈st,(s.Name.toList==l.Name.toList)=false) -> ∀k,d9 (k+1) h5m (st,w,v,usL true,i)=(h4n l.Body v st).bind fun v12=>if (v12.2 != 0)=true then some ([],v12.2) else (a4n 48 st [(⟨l.Name,v12.1⟩:Step)]).bind fun v13=>d9 k h5m (v13,w,v,usL true,i64 (i+1)):=by
   intro st i l g1 g2 g3 g4 g5 k
   rw [d24]
   generalize d9 k h5m=B
   unfold h5m
   simp only [usL,if_true,show (([(0:Int),1].length:Nat):Int)=2 from rfl,g2,g1,hw,g3,qA]
   exact i3d g4 g5
  have n1: ∀s∈s0,(s.Name.toList==i4l.toList)=false:=fun s hs=>by rw [(hs0.2 s hs).2];kernel_rfl
  have n2: ∀s∈s0,(s.Name.toList==i4z.toList)=false:=fun s hs=>by rw [(hs0.2 s hs).2];kernel_rfl
  obtain ⟨⟨x,c⟩,⟨x',c'⟩,e1,e2,g1,g2⟩:=h9m hv o1 (qW (by kernel_rfl)) (qW (by kernel_rfl)) v0 (by omega) i1 k1
  dsimp only at g1 g2
  subst g1
  have q0:=hlet s0 0 ⟨i4l,(aL1 P.yr).e⟩ rfl rfl rfl (by omega) n1 (m+1+1+1)
  have p0:=f3 (d9 (m+1+1+1) f) s0 [false,false] 0 0 ⟨i4l,(aL1 P.yr).e⟩ rfl rfl rfl
  have p0:f (d9 (m+1+1+1) f) (s0,⟨v,[]⟩,[false,false],a.e,usL true,0)=_:=p0
  rw [hm,d24,p0,e1]
  rw [<- hm,<- hlets,e2] at q0
  by_cases hc:c≠0
  ·have hc2:(c != 0)=true:=by simpa using hc
   refine .bad c hc (⟨v,[]⟩,[false,false],s0) ?_ (.inl ⟨[],?_⟩)
   ·rw [qA,if_pos hc2]
   ·rw [q0,qA,if_pos hc2]
  obtain rfl:c=0:=by omega
  obtain ⟨rfl,vx⟩:=g2 rfl
  rw [qA,if_neg (by simp),i2k (by omega),qA]
  rw [qA,if_neg (by simp),i2k (by omega),qA,show i64 (0+1)=1 from rfl] at q0
  dsimp only at q0
  have v1: ∀s∈s0++[(⟨i4l,x⟩:Step)],∃d,VvD s.Value d:=fun s hs=>(b4a hs).elim (v0 s) fun e=>by subst e;exact ⟨2,vx⟩
  have b1:bnd (s0++[(⟨i4l,x⟩:Step)])=bnd s0++[⟨i4l,2⟩]:=by unfold bnd;simp [vx.1]
  obtain ⟨⟨y,c⟩,⟨y',c'⟩,e3,e4,g3,g4⟩:=h9m hv o2 (qW (by kernel_rfl)) (qW (by kernel_rfl)) v1 (by simp;omega) (by rw [b1];exact i2) ((i2x hv hP (s0++[⟨i4l,x⟩])).2 s0 x rfl (by omega) vx)
  dsimp only at g3 g4
  subst g3
  have n3: ∀s∈s0++[(⟨i4l,x⟩:Step)],(s.Name.toList==i4z.toList)=false:=fun s hs=>(b4a hs).elim (n2 s) fun e=>by subst e;kernel_rfl
  rw [hlet (s0++[(⟨i4l,x⟩:Step)]) 1 ⟨i4z,(aL2 (i5d P.np)).e⟩ rfl rfl rfl (by simp;omega) n3 (m+1+1),e4] at q0
  have p1:f (d9 (m+1+1) f) (s0++[⟨i4l,x⟩],⟨v,[]⟩,[true,false],a.e,usL true,1)=_:=f3 (d9 (m+1+1) f) (s0++[⟨i4l,x⟩]) [true,false] 1 1 ⟨i4z,(aL2 (i5d P.np)).e⟩ rfl rfl rfl
  show Out v (d9 (m+1+1+1) f (s0++[⟨i4l,x⟩],⟨v,[]⟩,[true,false],a.e,usL true,1)) _ _ _ _ _
  rw [d24,p1,e3]
  by_cases hc:c≠0
  ·have hc2:(c != 0)=true:=by simpa using hc
   refine .bad c hc (⟨v,[]⟩,[true,false],s0++[⟨i4l,x⟩]) ?_ (.inl ⟨[],?_⟩)
   ·rw [qA,if_pos hc2]
   ·rw [q0,qA,if_pos hc2]
  obtain rfl:c=0:=by omega
  obtain ⟨rfl,vy⟩:=g4 rfl
  rw [qA,if_neg (by simp),i2k (by simp;omega),qA]
  rw [qA,if_neg (by simp),i2k (by simp;omega),qA,show i64 (1+1)=2 from rfl,d24] at q0
  dsimp only at q0
  have hL:h4s a.e w v s0=some (s0++[⟨i4l,x⟩]++[⟨i4z,y⟩],0):=q0
  show Out v (d9 (m+1+1) f (s0++[⟨i4l,x⟩]++[⟨i4z,y⟩],⟨v,[]⟩,[true,true],a.e,usL true,2)) _ _ _ _ _
  have p2:f (d9 (m+1) f) (s0++[⟨i4l,x⟩]++[⟨i4z,y⟩],⟨v,[]⟩,[true,true],a.e,usL true,2)=_:=f2 (d9 (m+1) f) (s0++[⟨i4l,x⟩]++[⟨i4z,y⟩]) [true,true]
  rw [d24,p2]
  have v2: ∀s∈s0++[(⟨i4l,x⟩:Step)]++[⟨i4z,y⟩],∃d,VvD s.Value d:=fun s hs=>(b4a hs).elim (v1 s) fun e=>by subst e;exact ⟨2,vy⟩
  have b2:bnd (s0++[(⟨i4l,x⟩:Step)]++[⟨i4z,y⟩])=bnd s0++[⟨i4l,2⟩,⟨i4z,2⟩]:=by unfold bnd;simp [vx.1,vy.1]
  exact h9p hv hL (by simp;omega) (h9m hv hC.ok hC.dp hC.sz v2 (by simp;omega) (by rw [b2];exact i3) (hC.ev v hv _ fun _=>⟨y,s0++[⟨i4l,x⟩],rfl,vy,by simp;omega⟩)) ⟨by simp;omega,fun h=>by cases h⟩
end
def bIf:O iQ:=[⟨d0k,1⟩]
def H5 (P:Ps)(a:AE)(d:Int)(u:Bool)(b:O iQ):Prop:=
 if u then (aL1 P.yr).inf5 b=some 2 /\ (aL2 (i5d P.np)).inf5 (b++[⟨i4l,2⟩])=some 2 /\ a.inf5 (b++[⟨i4l,2⟩,⟨i4z,2⟩])=some d else a.inf5 b=some d
def h5f {P:Ps}{a:AE}{d:Int}{b:O iQ}(h:a.inf5 b=some d):H5 P a d false b:=h
def h5t {P:Ps}{a:AE}{d:Int}{b:O iQ}(h1:(aL1 P.yr).inf5 b=some 2)(h2:(aL2 (i5d P.np)).inf5 (b++[⟨i4l,2⟩])=some 2)(h:a.inf5 (b++[⟨i4l,2⟩,⟨i4z,2⟩])=some d):H5 P a d true b:=⟨h1,h2,h⟩
structure GrC (P:Ps) (g:Grant):Prop where
 h: ∃ai ap u,g.If=ai.e /\ g.Pay=ap.e /\ CL P ai 1 false /\ H5 P ai 1 false [] /\ CL P ap 4 u /\ H5 P ap 4 u bIf
structure RdC (P:Ps) (r:Reduce):Prop where
 h: ∃a,r.By=a.e /\ CL P a 2 false /\ H5 P a 2 false []
section
variable {P:Ps} (hP:PsOK P)
include hP
def l4x:(∀g∈P.grs,GrC P g) /\ ∀r∈P.rds,RdC P r:=by
 have w2: ∀{n:Nat},n <= 100000 -> (AE.lit ⟨(n:Int),1⟩ 2).ok:=fun hn=>i4x (.whole hn (.inl ⟨rfl,rfl⟩))
 have w3: ∀{n:Nat},n <= 100000 -> (AE.lit ⟨(n:Int),1⟩ 3).ok:=fun hn=>i4x (.whole hn (.inr (.inl ⟨rfl,rfl⟩)))
 have w4: ∀{n:Nat},n <= 100000 -> (AE.lit ⟨(n:Int),1⟩ 4).ok:=fun hn=>i4x (.whole hn (.inr (.inr ⟨rfl,rfl⟩)))
 have W: ∀{n:Nat},n <= 100000 -> VF ⟨(n:Int),1⟩:=fun hn=>h6w (by omega) (by omega)
 have eAge: ∀{v:View}(hv:VW v) st,EvT v st (.nm e0r) 2:=fun {v} hv st=> .nm (i1k hv st (p:=(e0r,⟨2,false,⟨v.Age,1⟩⟩)) (by simp)) (.mk' (h6w (by have:=hv.a;omega) (by have:=hv.a;omega)) (by decide) (by decide))
 have eChi: ∀{v:View}(hv:VW v) st,EvT v st (.nm c6q) 2:=fun {v} hv st=> .nm (i1k hv st (p:=(c6q,⟨2,false,⟨v.Children,1⟩⟩)) (by simp)) (.mk' (h6w (by have:=hv.c;omega) (by have:=hv.c;omega)) (by decide) (by decide))
 have eIns: ∀{v:View}(hv:VW v) st,EvT v st (.nm b6u) 3:=fun {v} hv st=> .nm (i1k hv st (p:=(b6u,⟨3,false,⟨v.Insured,1⟩⟩)) (by simp)) (.mk' (h6w (by have:=hv.d v.Insured (by simp);omega) (by have:=hv.d v.Insured (by simp);omega)) (by decide) (by decide))
 have eBas: ∀{v:View}(hv:VW v) st,EvT v st (.nm e39) 4:=fun {v} hv st=> .nm (i1k hv st (p:=(e39,⟨4,false,v.Base⟩)) (by simp)) (.mk' hv.b.1 (by decide) (by decide))
 have ePar: ∀{v:View}(hv:VW v) st,(∃y st',st=st'++[(⟨i4z,y⟩:Step)] /\ VvD y 2 /\ st'.length <= 10) -> EvT v st (.nm i4z) 2:=fun hv st ⟨y,st',e,vy,hl⟩=>by
  subst e;exact .nm (i2u hv (by omega) (by simp) y) vy
 have cIns: ∀{i:Nat},i <= 100000 -> CL P (j1k i) 1 false:=fun hi=>⟨by kernel_rfl,by kernel_rfl,i4m (by decide) (by decide) j31 (w3 hi),qW (by kernel_rfl),qW (by kernel_rfl),fun v hv st _=> .cmp (by decide) (by decide) (eIns hv st) (.lit (W hi) (by decide) (by decide)) (by decide)⟩
 have c1i:CL P (j8j P.g1a P.g1i) 1 false:=⟨by kernel_rfl,by kernel_rfl,i4m (by decide) (by decide) (i4m (by decide) (by decide) j9e (w2 hP.a1)) (i4m (by decide) (by decide) j31 (w3 hP.a2)),qW (by kernel_rfl),qW (by kernel_rfl),fun v hv st _=> .and (.cmp (by decide) (by decide) (eAge hv st) (.lit (W hP.a1) (by decide) (by decide)) (by decide)) (.cmp (by decide) (by decide) (eIns hv st) (.lit (W hP.a2) (by decide) (by decide)) (by decide))⟩
 have c1p:CL P (j97 P.g1m) 4 true:=⟨by kernel_rfl,by kernel_rfl,i4m (by decide) (by decide) (i4m (by decide) (by decide) j2x i9m) (w4 hP.a3),qW (by kernel_rfl),qW (by kernel_rfl),fun v hv st hu=> .mm (.inr rfl) (.mul (x:=4) (y:=2) (eBas hv st) (ePar hv st (hu rfl)) (.inr ⟨by decide,by decide,rfl,rfl⟩)) (.lit (W hP.a3) (by decide) (by decide)) (by decide)⟩
 have c2p:CL P (k0i (i5d P.nd)) 4 false:=⟨by kernel_rfl,by kernel_rfl,i4m (by decide) (by decide) j2x (i4x (i6l hP.nd1)),qW (by kernel_rfl),qW (by kernel_rfl),fun v hv st _=> .mul (x:=4) (y:=2) (eBas hv st) (.lit (i3h hP.nd1) (by decide) (by decide)) (.inr ⟨by decide,by decide,rfl,rfl⟩)⟩
 have c3i:CL P j7n 1 false:=⟨by kernel_rfl,by kernel_rfl,i4m (by decide) (by decide) (i4m (by decide) (by decide) j3u k15) (i4x m0w),qW (by kernel_rfl),qW (by kernel_rfl),fun v hv st _=> .cmp (by decide) (by decide) (.add (i1k hv st (p:=(c5w,⟨3,false,⟨v.Worked,1⟩⟩)) (by simp)) (i1k hv st (p:=(c3c,⟨3,false,⟨v.Equated,1⟩⟩)) (by simp)) (by have:=hv.d v.Worked (by simp);omega) (by have:=hv.d v.Equated (by simp);omega)) (.lit (h6w (by decide) (by decide)) (by decide) (by decide)) (by decide)⟩
 have c3p:CL P j7q 4 true:=⟨by kernel_rfl,by kernel_rfl,i4m (by decide) (by decide) (i4m (by decide) (by decide) j2x i9m) (i4x m0f),qW (by kernel_rfl),qW (by kernel_rfl),fun v hv st hu=> .mul (x:=4) (y:=2) (.mul (x:=4) (y:=2) (eBas hv st) (ePar hv st (hu rfl)) (.inr ⟨by decide,by decide,rfl,rfl⟩)) (.lit (h7o.2 ⟨by unfold FOK;decide,by decide⟩) (by decide) (by decide)) (.inr ⟨by decide,by decide,rfl,rfl⟩)⟩
 have c4p:CL P (k0h P.g4m) 4 false:=⟨by kernel_rfl,by kernel_rfl,i4m (by decide) (by decide) (w4 hP.a6) k16,qW (by kernel_rfl),qW (by kernel_rfl),fun v hv st _=> .mul (x:=4) (y:=2) (.lit (W hP.a6) (by decide) (by decide)) (eChi hv st) (.inr ⟨by decide,by decide,rfl,rfl⟩)⟩
 have c5p:CL P k0a 4 false:=⟨by kernel_rfl,by kernel_rfl,i4m (by decide) (by decide) (i4m (by decide) (by decide) (j7g (by decide) (by decide)) (i4x x12)) (i4x m0y),qW (by kernel_rfl),qW (by kernel_rfl),fun v hv st _=> .mul (x:=4) (y:=2) (.div (x:=4) (y:=2) (.best (by decide) (by decide)) (.lit (h6w (by decide) (by decide)) (by decide) (by decide)) (.inl ⟨rfl,by decide,rfl⟩)) (.lit (h7o.2 ⟨by unfold FOK;decide,by decide⟩) (by decide) (by decide)) (.inr ⟨by decide,by decide,rfl,rfl⟩)⟩
 have r1:CL P (aR1 (i5d P.nr)) 2 false:=⟨by kernel_rfl,by kernel_rfl,i4x (i6l hP.nr1),qW (by kernel_rfl),qW (by kernel_rfl),fun v hv st _=> .lit (i3h hP.nr1) (by decide) (by decide)⟩
 have r2:CL P aR2 2 false:=⟨by kernel_rfl,by kernel_rfl,k0f (i4m (by decide) (by decide) j9e (i4x x60)) (i4x m0h) (i4x x1),qW (by kernel_rfl),qW (by kernel_rfl),fun v hv st _=> .ite (.cmp (by decide) (by decide) (eAge hv st) (.lit (h6w (by decide) (by decide)) (by decide) (by decide)) (by decide)) (.lit (h7o.2 ⟨by unfold FOK;decide,by decide⟩) (by decide) (by decide)) (.lit (h6w (by decide) (by decide)) (by decide) (by decide))⟩
 constructor
 ·intro g hg
  unfold Ps.grs at hg
  rcases qK.1 hg with hg | hg
  ·simp only [qO,List.not_mem_nil,or_false] at hg
   rcases hg with rfl | rfl
   ·exact ⟨_,_,true,rfl,rfl,c1i,h5f (by kernel_rfl),c1p,h5t (by kernel_rfl) (by kernel_rfl) (by kernel_rfl)⟩
   ·exact ⟨_,_,false,rfl,rfl,cIns hP.a4,h5f (by kernel_rfl),c2p,h5f (by kernel_rfl)⟩
  rcases qK.1 hg with hg | hg
  ·have hg:=i63 hg
   rw [qF] at hg;subst hg
   exact ⟨_,_,true,rfl,rfl,c3i,h5f (by kernel_rfl),c3p,h5t (by kernel_rfl) (by kernel_rfl) (by kernel_rfl)⟩
  ·simp only [qO,List.not_mem_nil,or_false] at hg
   rcases hg with rfl | rfl
   ·exact ⟨_,_,false,rfl,rfl,cIns hP.a5,h5f (by kernel_rfl),c4p,h5f (by kernel_rfl)⟩
   ·exact ⟨_,_,false,rfl,rfl,cIns hP.a7,h5f (by kernel_rfl),c5p,h5f (by kernel_rfl)⟩
 ·intro r hr
  unfold Ps.rds at hr
  rcases qK.1 hr with hr | hr
  ·have hr:=i63 hr
   rw [qF] at hr;subst hr
   exact ⟨_,rfl,r1,h5f (by kernel_rfl)⟩
  ·have hr:=i63 hr
   rw [qF] at hr;subst hr
   exact ⟨_,rfl,r2,h5f (by kernel_rfl)⟩
end
def i1x {α:Type}{f:(Int -> A3 Int) -> Int -> A3 Int}(l:O α)(p:α -> Bool)(hl:l.length <= 2^30)
  (hstep: ∀(rec:Int -> A3 Int)(i:Nat)(y:α),l[i]? =some y -> f rec (i:Int)=if p y=true then some (i:Int) else rec (i64 ((i:Int)+1)))
  (hfin: ∀rec:Int -> A3 Int,f rec (l.length:Int)=some (-1)):(d9 FU f 0=some (-1) /\ ∀y∈l,p y=false) \/ ∃(k:Nat)(y:α),d9 FU f 0=some (k:Int) /\ l[k]? =some y /\ p y=true /\ ∀y∈l.take k,p y=false:=by
 have h:Tot (d9 FU f 0) fun r=>(r= -1 /\ ∀y∈l,p y=false) \/ ∃(k:Nat)(y:α),r=k /\ l[k]? =some y /\ p y=true /\ ∀y∈l.take k,p y=false:=by
  refine tH l (fun (_:Unit) i=>i) (fun _ i=> ∀y∈l.take i,p y=false) (by omega) (fun rec s i y hi hy hI ih=> ?_) (fun rec s hI=> ?_) () (by simp)
  ·rw [hstep _ _ _ hy]
   refine tD (fun h=>tC (.inr ⟨i,y,rfl,hy,h,hI⟩)) fun h=>ih () fun z hz=> ?_
   rw [a9h hy] at hz
   exact (b4a hz).elim (hI z) fun e=>by subst e;simpa using h
  ·rw [hfin]
   exact tC (.inl ⟨rfl,by rwa [List.take_length] at hI⟩)
 obtain ⟨r,e,h⟩:=h
 rcases h with ⟨rfl,h⟩ | ⟨k,y,rfl,h⟩
 ·exact .inl ⟨e,h⟩
 ·exact .inr ⟨k,y,e,h⟩
structure PV (w:Version):Prop where
 p: ∃P,PsOK P /\ w.Lets=P.lts /\ w.Grants=P.grs /\ w.Reduces=P.rds
 t1:b0q w=some 0
 t2:h5c w=some 0
abbrev NoG:Result:=⟨false,⟨0,0⟩,[]⟩
section
variable {v:View} (hv:VW v) {w:Version} (hw:PV w)
include hv hw
def i2n (b:Int): ∃r,c2a w b v=some r /\ h6i w b v=some r /\ r.1.Steps.length <= 100:=by
 obtain ⟨⟨P,hP,h1,h2,h3⟩,t1,t2⟩:=hw
 obtain ⟨e1,e2⟩:=i0a hv
 have hlen:w.Grants.length <= 5:=by
  rw [h2];unfold Ps.grs
  cases P.c3<;>simp
 have ref:h6i w b v=d9 FU (h5h b) (w,v,[],NoG,0):=by
  unfold h6i
  rw [e2,qA,if_neg (by simp),t2,qA,if_neg (by decide)]
 have pro:c2a w b v=(a1y w.Grants b).bind fun v2=>if (decide (v2<0))=true then some (NoG,9) else
   (some [false,false]).bind fun v3=>(c7 w.Grants v2).bind fun v4=>(a3e ⟨v,[]⟩ v4.If w.Lets v3 d0k []).bind fun v5=>if (v5.1 != 0)=true then some (NoG,v5.1) else
   (a55 ⟨v5.2.1.view,v5.2.2.2⟩).bind fun v6=>if v6.Yes=true then (c7 w.Grants v2).bind fun v7=>(a3e ⟨v5.2.1.view,[]⟩ v7.Pay w.Lets v5.2.2.1 c60 v5.2.2.2).bind fun v8=>if (v8.1 != 0)=true then some (NoG,v8.1) else
   (a55 ⟨v8.2.1.view,v8.2.2.2⟩).bind fun v9=>if (decide (v9.Num.Num>0))=true then some (⟨v6.Yes,v9.Num,v8.2.2.2⟩,0) else some (⟨v6.Yes,⟨0,1⟩,v8.2.2.2⟩,0) else some (⟨v6.Yes,⟨0,1⟩,v5.2.2.2⟩,0):=by
  have hm:mkI 1 false ((P.lts.length:Nat):Int) ((P.lts.length:Nat):Int)=some [false,false]:=by kernel_rfl
  unfold c2a c5y
  rw [e1,qA,if_neg (by simp),t1,qA,qA,if_neg (by decide),h1,hm]
 rw [ref,pro]
 have stepR: ∀(i:Nat)(g:Grant)(r),w.Grants[i]? =some g -> h5h b r (w,v,[],NoG,(i:Int))=if (g.Benefit==b)=true then (h6m w g v).bind fun v7=>some (v7.1,v7.2) else r (w,v,[],NoG,((i+1:Nat):Int)):=by
  intro i g r hg
  have hi:=(qD.1 hg).1
  unfold h5h
  simp only [i6p hi,if_true,e7 hg,qA,i4v (show i <= 1000000 by omega)]
 have hix:=i1x (f:=a6d w.Grants b) w.Grants (fun g=>g.Benefit==b) (by omega) (fun rec i y hi=>by
  unfold a6d c1o
  rw [if_pos (o6 (qD.1 hi).1),e7 hi]
  rfl) fun rec=>by
  unfold a6d
  rw [if_neg (g9 _)]
 unfold a1y
 rcases hix with ⟨e,hno⟩ | ⟨k,g,e,hk,hb,hno⟩
 ·rw [e,qA,if_pos (by decide)]
  refine ⟨(NoG,9),rfl,?_,by decide⟩
  refine i3z (fun i=>(w,v,[],NoG,(i:Int))) w.Grants.length ?_ ?_ (by have:=i4b;omega)
  ·intro i hi r
   have hg:w.Grants[i]? =some w.Grants[i]:=qG hi
   rw [stepR i _ r hg,if_neg (by rw [hno _ (qV hi)];simp)]
  ·intro r
   unfold h5h
   simp only [i4y,qM,if_false]
 ·have hi:=(qD.1 hk).1
  have hR:d9 FU (h5h b) (w,v,[],NoG,0)=(h6m w g v).bind fun v7=>some (v7.1,v7.2):=by
   refine i3z (fun i=>(w,v,[],NoG,(i:Int))) k ?_ ?_ (by have:=i4b;omega)
   ·intro i hi r
    have hg:w.Grants[i]? =some w.Grants[i]:=qG (by omega)
    rw [stepR i _ r hg,if_neg (by rw [hno _ (List.mem_take_iff_getElem.2 ⟨i,by omega,rfl⟩)];simp)]
   ·intro r
    rw [stepR k g r hk,if_pos hb]
  rw [hR,e,qA,if_neg (by simp),e7 hk]
  obtain ⟨ai,ap,u,a1,a2,c1,k1,c2,k2⟩:=((l4x hP).1 g (by rw [<- h2];exact qE hk)).h
  unfold h6m
  simp only [qA,h1,a1,a2]
  have O1:=h9d hv hP h1 c1 (nm:=d0k) (s0:=[]) (.inl rfl) k1
  cases O1 with
  | bad c hc q hD hL=>
    have hc2:(c != 0)=true:=by simpa using hc
    rw [hD,qA,if_pos hc2]
    refine ⟨(NoG,c),rfl,?_,Nat.zero_le 100⟩
    rcases hL with ⟨l,hL⟩ | ⟨st,x,hL,hE⟩
    ·rw [hL,qA,if_pos hc2];rfl
    ·rw [hL,qA,if_neg (by simp)]
     dsimp only
     rw [hE,qA,if_pos hc2];rfl
  | good st x dn hD hL hE hx hF=>
    obtain ⟨rfl,rfl⟩:=hF.2 rfl
    rw [hD,hL]
    simp only [qA,bne_self_eq_false,qM,if_false,hE,List.nil_append]
    rw [show a4n 48 ([]:O Step) [⟨d0k,x⟩]=some [⟨d0k,x⟩] from i2k (by simp) _]
    have hlast:a55 ⟨v,[⟨d0k,x⟩]⟩=some x:=rfl
    simp only [hlast,qA]
    cases hy:x.Yes
    ·simp only [qM,if_false,Bool.not_false,if_true]
     exact ⟨_,rfl,rfl,by simp⟩
    ·simp only [qU,qM,if_false,if_true]
     have O2:=h9d hv hP h1 c2 (nm:=c60) (s0:=[⟨d0k,x⟩]) (.inr ⟨x,rfl,hx⟩) (by
      have:bnd [(⟨d0k,x⟩:Step)]=bIf:=by unfold bnd bIf;simp [hx.1]
      rw [this];exact k2)
     cases O2 with
     | bad c hc q hD hL=>
       have hc2:(c != 0)=true:=by simpa using hc
       rw [hD,qA,if_pos hc2]
       refine ⟨(NoG,c),rfl,?_,Nat.zero_le 100⟩
       rcases hL with ⟨l,hL⟩ | ⟨st,x,hL,hE⟩
       ·rw [hL,qA,if_pos hc2];rfl
       ·rw [hL,qA,if_neg (by simp)]
        dsimp only
        rw [hE,qA,if_pos hc2];rfl
     | good st y dn hD hL hE hy hF=>
       rw [hD,hL]
       simp only [qA,bne_self_eq_false,qM,if_false,hE]
       rw [i2k (by omega)]
       have hlast:a55 ⟨v,st++[⟨c60,y⟩]⟩=some y:=by
        unfold a55
        have:(st++[(⟨c60,y⟩:Step)])[st.length]? =some ⟨c60,y⟩:=by simp
        rw [show (((⟨v,st++[⟨c60,y⟩]⟩:vQ).steps.length:Nat):Int)-1=(st.length:Int) by simp,e9 (by omega) (by omega),e7 this];rfl
       simp only [hlast,qA]
       obtain ⟨y1,y2,y3⟩:=hy.num (by decide)
       obtain ⟨f1,f2⟩:=h7o.1 y3
       unfold h5n
       by_cases hp:y.Num.Num>0
       ·rw [if_pos (decide_eq_true hp),if_neg (by simp;omega)]
        exact ⟨_,rfl,rfl,by have:=hF.1;rw [qL];exact Nat.le_trans (Nat.add_le_add_right this 1) (by decide)⟩
       ·rw [if_neg (by simpa using hp)]
        refine ⟨_,rfl,?_,by have:=hF.1;rw [qL];exact Nat.le_trans (Nat.add_le_add_right this 1) (by decide)⟩
        by_cases hn:y.Num.Num<0
        ·rw [if_pos (decide_eq_true hn)];rfl
        ·rw [if_neg (by simpa using hn)]
         have h0:y.Num.Num=0:=by omega
         unfold FOK at f1
         rw [h0] at f2
         simp at f2
         have hd:y.Num.Den=1:=by omega
         have:y.Num=⟨0,1⟩:=by
          show (⟨y.Num.Num,y.Num.Den⟩:fQ)=_
          rw [h0,hd]
         rw [this];rfl
def i1q (b:Int): ∃r,h7y w b v=some r /\ h6f w b v=some r:=by
 obtain ⟨⟨P,hP,h1,h2,h3⟩,t1,t2⟩:=hw
 obtain ⟨e1,e2⟩:=i0a hv
 have hlen:w.Reduces.length <= 5:=by
  rw [h3];unfold Ps.rds
  cases P.c4<;>cases P.c5<;>simp
 have ref:h6f w b v=d9 FU (h5e b) (w,v,⟨0,0⟩,0):=by
  unfold h6f
  rw [e2,qA,if_neg (by simp),t2,qA,if_neg (by decide)]
 have pro:h7y w b v=(h4l w.Reduces b).bind fun v2=>if (decide (v2<0))=true then some (⟨0,0⟩,9) else
   (c7 w.Reduces v2).bind fun v3=>(some [false,false]).bind fun v4=>(a3e ⟨v,[]⟩ v3.By w.Lets v4 d69 []).bind fun v5=>if (v5.1 != 0)=true then some (⟨0,0⟩,v5.1) else
   (a55 ⟨v5.2.1.view,v5.2.2.2⟩).bind fun v6=>if (decide (v6.Num.Num<0))=true then some (⟨0,1⟩,0) else if (decide (v6.Num.Num>v6.Num.Den))=true then some (⟨1,1⟩,0) else some (v6.Num,0):=by
  have hm:mkI 1 false ((P.lts.length:Nat):Int) ((P.lts.length:Nat):Int)=some [false,false]:=by kernel_rfl
  unfold h7y c5y
  rw [e1,qA,if_neg (by simp),t1,qA,qA,if_neg (by decide),h1,hm]
 rw [ref,pro]
 have stepR: ∀(i:Nat)(g:Reduce)(r),w.Reduces[i]? =some g -> h5e b r (w,v,⟨0,0⟩,(i:Int))=if (g.Benefit != b)=true then r (w,v,⟨0,0⟩,((i+1:Nat):Int)) else
   (h4s g.By w v []).bind fun v7=>if (v7.2 != 0)=true then some (⟨0,0⟩,v7.2) else (h4n g.By v v7.1).bind fun v9=>if (v9.2 != 0)=true then some (⟨0,0⟩,v9.2) else (h5n v9.1.Num).bind fun v10=>(h4q v10 ⟨1,1⟩).bind fun v11=>if (decide (v11.1>0))=true then some (⟨1,1⟩,0) else some (v10,0):=by
  intro i g r hg
  have hi:=(qD.1 hg).1
  unfold h5e
  simp only [i6p hi,if_true,e7 hg,qA,i4v (show i <= 1000000 by omega)]
 have hix:=i1x (f:=h4k w.Reduces b) w.Reduces (fun g=>g.Benefit==b) (by omega) (fun rec i y hi=>by
  unfold h4k h8p
  rw [if_pos (o6 (qD.1 hi).1),e7 hi]
  rfl) fun rec=>by
  unfold h4k
  rw [if_neg (g9 _)]
 unfold h4l
 rcases hix with ⟨e,hno⟩ | ⟨k,g,e,hk,hb,hno⟩
 ·rw [e,qA,if_pos (by decide)]
  refine ⟨(⟨0,0⟩,9),rfl,?_⟩
  refine i3z (fun i=>(w,v,(⟨0,0⟩:fQ),(i:Int))) w.Reduces.length ?_ ?_ (by have:=i4b;omega)
  ·intro i hi r
   have hg:w.Reduces[i]? =some w.Reduces[i]:=qG hi
   rw [stepR i _ r hg,if_pos (by have:=hno _ (qV hi);simpa using this)]
  ·intro r
   unfold h5e
   simp only [i4y,qM,if_false]
 ·have hi:=(qD.1 hk).1
  have hR:d9 FU (h5e b) (w,v,⟨0,0⟩,0)=(h4s g.By w v []).bind fun v7=>if (v7.2 != 0)=true then some (⟨0,0⟩,v7.2) else (h4n g.By v v7.1).bind fun v9=>if (v9.2 != 0)=true then some (⟨0,0⟩,v9.2) else (h5n v9.1.Num).bind fun v10=>(h4q v10 ⟨1,1⟩).bind fun v11=>if (decide (v11.1>0))=true then some (⟨1,1⟩,0) else some (v10,0):=by
   refine i3z (fun i=>(w,v,(⟨0,0⟩:fQ),(i:Int))) k ?_ ?_ (by have:=i4b;omega)
   ·intro i hi r
    have hg:w.Reduces[i]? =some w.Reduces[i]:=qG (by omega)
    rw [stepR i _ r hg,if_pos (by have:=hno _ (List.mem_take_iff_getElem.2 ⟨i,by omega,rfl⟩);simpa using this)]
   ·intro r
    rw [stepR k g r hk,if_neg (by simpa using hb)]
  rw [hR,e,qA,if_neg (by simp),e7 hk]
  obtain ⟨a,a1,c1,k1⟩:=((l4x hP).2 g (by rw [<- h3];exact qE hk)).h
  simp only [qA,h1,a1]
  have O1:=h9d hv hP h1 c1 (nm:=d69) (s0:=[]) (.inl rfl) k1
  cases O1 with
  | bad c hc q hD hL=>
    have hc2:(c != 0)=true:=by simpa using hc
    rw [hD,qA,if_pos hc2]
    refine ⟨(⟨0,0⟩,c),rfl,?_⟩
    rcases hL with ⟨l,hL⟩ | ⟨st,x,hL,hE⟩
    ·rw [hL,qA,if_pos hc2]
    ·rw [hL,qA,if_neg (by simp)]
     dsimp only
     rw [hE,qA,if_pos hc2]
  | good st x dn hD hL hE hx hF=>
    obtain ⟨rfl,rfl⟩:=hF.2 rfl
    rw [hD,hL]
    simp only [qA,bne_self_eq_false,qM,if_false,hE,List.nil_append]
    have hlast:a55 ⟨v,[⟨d69,x⟩]⟩=some x:=rfl
    simp only [hlast,qA]
    obtain ⟨y1,y2,y3⟩:=hx.num (by decide)
    unfold h5n
    by_cases hn:x.Num.Num<0
    ·rw [if_pos (decide_eq_true hn),if_pos (decide_eq_true hn)]
     have:h4q ⟨0,1⟩ ⟨1,1⟩=some (-1,0):=by kernel_rfl
     rw [qA,this]
     exact ⟨_,rfl,rfl⟩
    ·simp only [decide_eq_false hn,qM,if_false,qA]
     obtain ⟨c,e,_,c2,c3⟩:=h6y x.Num ⟨1,1⟩
     obtain ⟨_,c4,_⟩:=c3 y3 (h6w (by decide) (by decide))
     have c4:=c4 (by omega) (by decide)
     dsimp only at c4
     rw [c2,qA]
     by_cases hg:x.Num.Num>x.Num.Den
     ·rw [if_pos (decide_eq_true hg),if_pos (by simp;omega)]
      exact ⟨_,rfl,rfl⟩
     ·rw [if_neg (by simpa using hg),if_neg (by simp;omega)]
      exact ⟨_,rfl,rfl⟩
end
def k58:O Rate:=[(⟨1,0,(⟨1,1⟩:fQ)⟩:Rate),(⟨2,0,(⟨3,2⟩:fQ)⟩:Rate),(⟨3,0,(⟨1,7⟩:fQ)⟩:Rate),(⟨3,1150,(⟨1,9⟩:fQ)⟩:Rate)]
def SK (t:Statute):Prop:=SOK t /\ ∀v∈t.Versions,∃P,PsOK P /\ v=P.ver
def h7x (t:O Rules):Prop:= ∃few:Int,0 <= few /\ few <= 450 /\
 (t=[⟨0,few,730,25,[0,1,2]⟩] \/ t=[⟨0,few,730,25,[0,1]⟩,⟨35000,few,365,30,[0,1,2]⟩] \/ t=[⟨0,few,730,25,[0,1,2]⟩,⟨36000,few,730,25,[0,1]⟩])
structure LwOK (x:Laws):Prop where
 st: ∃t0 t1 t2,x.States=[⟨0,t0⟩,⟨1,t1⟩,⟨2,t2⟩] /\ SK t0 /\ SK t1 /\ SK t2
 tr:h7x x.Treaty
 ra:x.Rates=k58
def lwOf (x:Laws×(O State)×(O Rules)×Unit):Laws:=⟨x.2.1,x.2.2.1,x.1.Rates⟩
def l6r {n:O Int}(hl:n.length <= 9223372036854775807): ∃x,b11 n=some x /\ LwOK (lwOf x):=by
 obtain ⟨s0,t0,h0,p0,k0⟩:=j1x (k:=0) (by decide) n hl
 obtain ⟨s1,t1,h1,p1,k1⟩:=j1x (k:=1) (by decide) n hl
 obtain ⟨s2,t2,h2,p2,k2⟩:=j1x (k:=2) (by decide) n hl
 have h0:b10 0 n=some s0:=h0
 have h1:b10 1 n=some s1:=h1
 have h2:b10 2 n=some s2:=h2
 unfold b11
 obtain ⟨m,hm⟩:=i0d
 rw [hm,d24]
 generalize hA:d9 (m+1+1+1) (b71 n)=A
 unfold b71
 have a0:a4n 56 ([]:O State) [⟨0,t0⟩]=some [⟨0,t0⟩]:=i5u (by simp) (by decide)
 have a1:a4n 56 ([⟨0,t0⟩]:O State) [⟨1,t1⟩]=some [⟨0,t0⟩,⟨1,t1⟩]:=i5u (by simp) (by decide)
 have a2:a4n 56 ([⟨0,t0⟩,⟨1,t1⟩]:O State) [⟨2,t2⟩]=some [⟨0,t0⟩,⟨1,t1⟩,⟨2,t2⟩]:=i5u (by simp) (by decide)
 simp only [show decide ((0:Int)<3)=true from rfl,if_true,h0,qA,p0,BEq.rfl,a0,show i64 (0+1)=1 from rfl]
 rw [<- hA,d24]
 generalize hB:d9 (m+1+1) (b71 n)=B
 unfold b71
 simp only [show decide ((1:Int)<3)=true from rfl,if_true,h1,qA,p1,BEq.rfl,a1,show i64 (1+1)=2 from rfl]
 rw [<- hB,d24]
 generalize hC:d9 (m+1) (b71 n)=C
 unfold b71
 simp only [show decide ((2:Int)<3)=true from rfl,if_true,h2,qA,p2,BEq.rfl,a2,show i64 (2+1)=3 from rfl]
 rw [<- hC,d24]
 unfold b71
 simp only [show decide ((3:Int)<3)=false from rfl,qM,if_false]
 obtain ⟨v6,h6,_⟩:=a0t n 2 hl
 obtain ⟨v7,h7,b7⟩:=a1i (a:=v6) (n:=6) (by decide) (by decide)
 obtain ⟨v8,h8,_⟩:=a0t n 5 hl
 obtain ⟨v9,h9,b9⟩:=a1i (a:=v8) (n:=3) (by decide) (by decide)
 have e90:i64 (90*v7)=90*v7:=e9 (by omega) (by omega)
 simp only [h6,h7,h8,h9,qA,e90]
 have fin: ∀t:O Rules,h7x t -> ∃x,some ((⟨[],[],k58⟩:Laws),([⟨0,t0⟩,⟨1,t1⟩,⟨2,t2⟩]:O State),t,())=some x /\ LwOK (lwOf x):=fun t ht=>⟨_,rfl,⟨⟨t0,t1,t2,rfl,k0,k1,k2⟩,ht,rfl⟩⟩
 split
 ·exact fin _ ⟨90*v7,by omega,by omega,.inl rfl⟩
 ·split
  ·rw [show a4n 56 [(⟨0,90*v7,730,25,[0,1]⟩:Rules)] [(⟨35000,90*v7,365,30,[0,1,2]⟩:Rules)]=some ([(⟨0,90*v7,730,25,[0,1]⟩:Rules)]++[(⟨35000,90*v7,365,30,[0,1,2]⟩:Rules)]) from i5u (by simp) (by decide),qA]
   exact fin _ ⟨90*v7,by omega,by omega,.inr (.inl rfl)⟩
  ·simp only [show c7 [(⟨0,90*v7,730,25,[0,1]⟩:Rules)] 0=some (⟨0,90*v7,730,25,[0,1]⟩:Rules) from rfl,qA]
   rw [show a4n 56 (a8h [(⟨0,90*v7,730,25,[0,1]⟩:Rules)] 0 (⟨0,90*v7,730,25,[0,1,2]⟩:Rules)) [(⟨36000,90*v7,730,25,[0,1]⟩:Rules)]=some ((a8h [(⟨0,90*v7,730,25,[0,1]⟩:Rules)] 0 (⟨0,90*v7,730,25,[0,1,2]⟩:Rules))++[(⟨36000,90*v7,730,25,[0,1]⟩:Rules)]) from i5u (by simp [a8h]) (by decide),qA]
   exact fin _ ⟨90*v7,by omega,by omega,.inr (.inr rfl)⟩
def i2v {t:O Rules}(h:h7x t):a9n t=some 0:=by
 obtain ⟨few,h0,h1,h⟩:=h
 have d1:decide (few >= 0)=true:=by simp;omega
 have d2:decide (few <= 73049)=true:=by simp;omega
 have val: ∀(f p s:Int)(l:O Int),decide (f >= 0)=true -> decide (f <= 73048)=true -> decide (p >= 0)=true -> decide (p <= 73049)=true -> decide (s >= 0)=true -> decide (s <= 100)=true -> l=[0,1] \/ l=[0,1,2] -> a5x ⟨f,few,p,s,l⟩=some true:=by
  intro f p s l e1 e2 e3 e4 e5 e6 hl
  unfold a5x m7 a7u
  simp only [d1,d2,e1,e2,e3,e4,e5,e6,if_true,qA,qU,qM,if_false]
  obtain ⟨m,hm⟩:=i0d
  have h3:3<FU:=by have:=i4b;omega
  rcases hl with rfl | rfl
  ·have:=i3z (f:=b2n ⟨f,few,p,s,[0,1]⟩) (fun i=>((⟨f,few,p,s,[0,1]⟩:Rules),(i:Int))) 2 (x:=some true) (fun i hi r=>by
    match i,hi with
    | 0,_=>rfl
    | 1,_=>rfl) (fun r=>rfl) (by omega:2<FU)
   exact this
  ·have:=i3z (f:=b2n ⟨f,few,p,s,[0,1,2]⟩) (fun i=>((⟨f,few,p,s,[0,1,2]⟩:Rules),(i:Int))) 3 (x:=some true) (fun i hi r=>by
    match i,hi with
    | 0,_=>rfl
    | 1,_=>rfl
    | 2,_=>rfl) (fun r=>rfl) h3
   exact this
 have h3:3<FU:=by have:=i4b;omega
 have v1:=val 0 730 25 [0,1,2] rfl rfl rfl rfl rfl rfl (.inr rfl)
 have v2:=val 0 730 25 [0,1] rfl rfl rfl rfl rfl rfl (.inl rfl)
 have v3:=val 35000 365 30 [0,1,2] rfl rfl rfl rfl rfl rfl (.inr rfl)
 have v4:=val 36000 730 25 [0,1] rfl rfl rfl rfl rfl rfl (.inl rfl)
 rcases h with rfl | rfl | rfl
 ·have:=i3z (f:=b27 [⟨0,few,730,25,[0,1,2]⟩]) (fun i=>(i:Int)) 1 (x:=some 0) (fun i hi r=>by
   match i,hi with
   | 0,_=>
     unfold b27
     show ((a5x _).bind _)=_
     rw [v1];rfl) (fun r=>rfl) (by omega:1<FU)
  exact this
 ·have:=i3z (f:=b27 [⟨0,few,730,25,[0,1]⟩,⟨35000,few,365,30,[0,1,2]⟩]) (fun i=>(i:Int)) 2 (x:=some 0) (fun i hi r=>by
   match i,hi with
   | 0,_=>
     unfold b27
     show ((a5x _).bind _)=_
     rw [v2];rfl
   | 1,_=>
     unfold b27
     show ((a5x _).bind _)=_
     rw [v3];rfl) (fun r=>rfl) (by omega:2<FU)
  exact this
 ·have:=i3z (f:=b27 [⟨0,few,730,25,[0,1,2]⟩,⟨36000,few,730,25,[0,1]⟩]) (fun i=>(i:Int)) 2 (x:=some 0) (fun i hi r=>by
   match i,hi with
   | 0,_=>
     unfold b27
     show ((a5x _).bind _)=_
     rw [v1];rfl
   | 1,_=>
     unfold b27
     show ((a5x _).bind _)=_
     rw [v4];rfl) (fun r=>rfl) (by omega:2<FU)
  exact this
def i2l:a9n []=some 1:=by kernel_rfl
def i3t: ∀(a:AE)(m:Nat),a.dep <= m -> (s4 m).f_statute_cloneExpr a.e=some a.e:=by
 refine AE.ind fun a ih m hm=> ?_
 obtain ⟨m,rfl⟩: ∃k,m=k+1:=⟨m-1,by have:=i5s a;omega⟩
 obtain ⟨r,e,hr⟩:Tot (a7s (s4 m) a.e) fun r=>r=a.e:=by
  unfold a7s
  have hl:a.e.Args.length <= 3:=by rw [i7y,List.length_map];exact i5z a
  refine tH a.e.Args (fun (s:O Expr) i=>(s,(⟨a.e.Op,a.e.Value,a.e.Dim,a.e.Name,[]⟩:Expr),([]:O Expr),(⟨0,(⟨0,0⟩:fQ),0,a3j,[]⟩:Expr),i)) (fun s i=>s=a.e.Args.take i) (by omega) (fun rec s i y hi hy hI ih2=> ?_) (fun rec s hI=> ?_) [] rfl
  ·dsimp only
   have hy2:=qE hy
   rw [i7y] at hy2
   obtain ⟨b,hb,rfl⟩:=List.mem_map.1 hy2
   have:s.length <= 3:=by rw [hI,List.length_take];omega
   rw [if_pos (o6 hi),e7 hy,qA,ih b hb m (by have:=i55 hb;omega),qA,p6 (by simp only [qR,qS];omega),qA]
   exact ih2 _ (by rw [hI,a9h hy])
  ·dsimp only
   rw [if_neg (g9 _),hI,List.take_length]
   exact tC (by generalize a.e=e;cases e;rfl)
 exact e.trans (congrArg some hr)
def i7q {α:Type}{l:O α}{i:Nat}{x:α}(h:l[i]? =some x):a8h l (i:Int) x=l:=by
 unfold a8h
 obtain ⟨h1,h2⟩:=qD.1 h
 subst h2
 simp
def j2j {env:O iQ}{v:Version}(hv:VOK env v):a6r v=some v:=by
 obtain ⟨r,e,hr⟩:Tot (a6r v) fun r=>r=v:=by
  have h1:=hv.cl;have h2:=hv.sl;have h3:=hv.ll;have h4:=hv.gl;have h5:=hv.rl
  have cl: ∀{α:Type}(k:Nat)(l:O α),k <= 1000 -> (l.length:Int) <= 8000 -> a4n k [] l=some l:=fun k l hk hl=>by
   rw [p6 (by simp only [qS,Nat.zero_add];exact Nat.le_trans (Nat.mul_le_mul (by omega:l.length <= 8000) hk) (by decide))];rfl
  have ce: ∀{a:AE},a.dep <= 10 -> a6x a.e=some a.e:=fun {a} h=>i3t a FU (by have:=i4b;omega)
  have cx: ∀{e:Expr}{d:Int},ExOK env e d -> a6x e=some e:=fun h=>by
   obtain ⟨a,rfl,_,h1,_⟩:=h.ex
   exact ce h1
  unfold a6r a5m a6e a86 a6f a5p
  simp only [cl 16 v.Credits (by decide) (by omega),cl 24 v.Series (by decide) (by omega),cl 88 v.Lets (by decide) (by omega),cl 152 v.Grants (by decide) (by omega),cl 80 v.Reduces (by decide) (by omega),qA]
  let w:Version:=⟨v.From,v.Rounding,[],[],[],[],[]⟩
  let z:Version:=⟨0,⟨0,0⟩,[],[],[],[],[]⟩
  refine tH v.Lets (fun (_:Unit) i=>(v.Credits,v.Series,v.Lets,v.Grants,v.Reduces,w,[],[],[],[],[],z,i)) (fun _ _=>True) (by omega) (fun rec _ i y hi hy _ ih=> ?_) (fun rec _ _=> ?_) () trivial
  ·obtain ⟨a,e,_,hd⟩:=hv.la y (qE hy)
   dsimp only
   rw [if_pos (o6 hi)]
   simp only [e7 hy,e,ce hd,qA]
   rw [show (⟨y.Name,a.e⟩:Let)=y by rw [<- e],i7q hy]
   exact ih () trivial
  dsimp only
  rw [if_neg (g9 _)]
  refine tH v.Grants (fun (_:Unit) i=>(v.Credits,v.Series,v.Lets,v.Grants,v.Reduces,w,[],[],[],[],[],z,i)) (fun _ _=>True) (by omega) (fun rec _ i y hi hy _ ih=> ?_) (fun rec _ _=> ?_) () trivial
  ·dsimp only
   rw [if_pos (o6 hi)]
   have hg:=hv.gr y (qE hy)
   simp only [e7 hy,cx hg.2.1,cx hg.2.2,qA,i7q hy]
   exact ih () trivial
  dsimp only
  rw [if_neg (g9 _)]
  refine tH v.Reduces (fun (_:Unit) i=>(v.Credits,v.Series,v.Lets,v.Grants,v.Reduces,w,[],[],[],[],[],z,i)) (fun _ _=>True) (by omega) (fun rec _ i y hi hy _ ih=> ?_) (fun rec _ _=> ?_) () trivial
  ·dsimp only
   rw [if_pos (o6 hi)]
   simp only [e7 hy,cx (hv.rd y (qE hy)).2,qA,i7q hy]
   exact ih () trivial
  dsimp only
  rw [if_neg (g9 _)]
  exact tC rfl
 exact e.trans (congrArg some hr)
def SP (s:Statute):Prop:=s.Versions.length <= 6 /\ ∀v∈s.Versions,PV v /\ a6r v=some v
def l7l {P:Ps}(hP:PsOK P){d:Int}(h0:0 <= d)(h1:d <= 73048): ∃v:Version,v=⟨d,P.ver.Rounding,P.ver.Credits,P.ver.Series,P.ver.Lets,P.ver.Grants,P.ver.Reduces⟩ /\ VOK i9c v /\ PV v /\ a6r v=some v:=by
 have k:=j2t hP
 have hv:VOK i9c ⟨d,P.ver.Rounding,P.ver.Credits,P.ver.Series,P.ver.Lets,P.ver.Grants,P.ver.Reduces⟩:=⟨h0,h1,k.m0,k.m1,k.mS,k.u0,k.u1,k.cl,k.sl,k.ll,k.gl,k.rl,k.cr,k.crp,k.ix,k.ixp,k.lt,k.ls,k.l5,k.la,k.en,k.gr,k.grp,k.rd,k.rdp⟩
 exact ⟨_,rfl,hv,⟨⟨P,hP,by rw [j73],by rw [j73],by rw [j73]⟩,j1d hv,h9y hv⟩,j2j hv⟩
def l6u {s:Statute}(h:SK s):SP s:=by
 refine ⟨h.1.l1,fun v hv=> ?_⟩
 obtain ⟨P,hP,rfl⟩:=h.2 v hv
 obtain ⟨w,e,_,h1,h2⟩:=l7l hP hP.d0 hP.d1
 have:w=P.ver:=by rw [e,j73]
 rw [<- this]
 exact ⟨h1,h2⟩
def i1h:h5p []=some 1:=by kernel_rfl
def mem5 (r4:Int -> A3 Int)(v f few p s:Int){l:O Int}(hl:l=[0,1] \/ l=[0,1,2]):d9 FU (h6g r4 v) ((⟨f,few,p,s,l⟩:Rules),0)=r4 (i64 (v+1)):=by
 have h3:3<FU:=by have:=i4b;omega
 rcases hl with rfl | rfl
 ·exact i3z (f:=h6g r4 v) (fun i=>((⟨f,few,p,s,[0,1]⟩:Rules),(i:Int))) 2 (fun i hi r=>by
   match i,hi with
   | 0,_=>rfl
   | 1,_=>rfl) (fun r=>rfl) (by omega:2<FU)
 ·exact i3z (f:=h6g r4 v) (fun i=>((⟨f,few,p,s,[0,1,2]⟩:Rules),(i:Int))) 3 (fun i hi r=>by
   match i,hi with
   | 0,_=>rfl
   | 1,_=>rfl
   | 2,_=>rfl) (fun r=>rfl) h3
def i2f {t:O Rules}(h:h7x t):h5p t=some 0:=by
 obtain ⟨few,h0,h1,h⟩:=h
 have d1:decide (few<0)=false:=by simp;omega
 have d2:decide (few>73049)=false:=by simp;omega
 obtain ⟨m,hm⟩:=i0d
 have one: ∀(r4:Int -> A3 Int)(f p s:Int)(l:O Int)(L:O Rules)(v:Int),decide (v<(L.length:Int))=true -> c7 L v=some ⟨f,few,p,s,l⟩ ->
   ((if decide (v>0) then (c7 L (i64 (v-1))).bind fun v7=>some (decide (f <= v7.From)) else some false):A3 Bool)=some false ->
   a6n f=some true -> decide (p<0)=false -> decide (p>73049)=false -> decide (s<0)=false -> decide (s>100)=false -> l=[0,1] \/ l=[0,1,2] -> h5d L r4 v=r4 (i64 (v+1)):=by
  intro r4 f p s l L v k1 k2 k3 k4 k5 k6 k7 k8 hl
  unfold h5d
  simp only [k1,if_true,k2,qA,k4,qU,qM,if_false,k3,d1,d2,k5,k6,k7,k8,mem5 r4 v f few p s hl]
 have v0:a6n 0=some true:=by kernel_rfl
 have v1:a6n 35000=some true:=by kernel_rfl
 have v2:a6n 36000=some true:=by kernel_rfl
 rcases h with rfl | rfl | rfl
 ·show d9 FU (h5d [⟨0,few,730,25,[0,1,2]⟩]) 0=some 0
  rw [hm,d24,one _ 0 730 25 [0,1,2] _ 0 rfl rfl rfl v0 rfl rfl rfl rfl (.inr rfl),d24]
  rfl
 ·show d9 FU (h5d [⟨0,few,730,25,[0,1]⟩,⟨35000,few,365,30,[0,1,2]⟩]) 0=some 0
  rw [hm,d24,one _ 0 730 25 [0,1] _ 0 rfl rfl rfl v0 rfl rfl rfl rfl (.inl rfl),d24,one _ 35000 365 30 [0,1,2] _ (i64 (0+1)) rfl rfl rfl v1 rfl rfl rfl rfl (.inr rfl),d24]
  rfl
 ·show d9 FU (h5d [⟨0,few,730,25,[0,1,2]⟩,⟨36000,few,730,25,[0,1]⟩]) 0=some 0
  rw [hm,d24,one _ 0 730 25 [0,1,2] _ 0 rfl rfl rfl v0 rfl rfl rfl rfl (.inr rfl),d24,one _ 36000 730 25 [0,1] _ (i64 (0+1)) rfl rfl rfl v2 rfl rfl rfl rfl (.inl rfl),d24]
  rfl
def i2j: ∀r∈[k58,k58++[(⟨1,0,(⟨1,1⟩:fQ)⟩:Rate)],k58.take 2],∃c,a5r r=some c /\ h6d r=some c:=by
 intro r hr
 simp only [qO,List.not_mem_nil,or_false] at hr
 rcases hr with rfl | rfl | rfl
 ·exact ⟨0,by kernel_rfl,by kernel_rfl⟩
 ·exact ⟨1,by kernel_rfl,by kernel_rfl⟩
 ·exact ⟨0,by kernel_rfl,by kernel_rfl⟩
def l8s (a:Int): ∃v,a40 a 24=some v:=by
 unfold a40
 rw [if_neg (by decide),d04 (by decide),qA,d04 (by decide),qA]
 exact ⟨_,rfl⟩
def h9j (s:Statute):Prop:= ∃p q,b4b s=some p /\ h5l s=some q /\ p.2=q.2
def i1t {x:Laws}(hN:x.States.length <= 1000)(hS: ∀s∈x.States,h9j s.Statute){c1 c2:Int}(hT:a9n x.Treaty=some c1)(hT5:h5p x.Treaty=some c1)(hR:a5r x.Rates=some c2)(hR5:h6d x.Rates=some c2):
  ∃c,c02 x=some c /\ h4z x=some c /\ (c=0 -> c1=0):=by
 have h:Agr (c02 x) (h4z x) fun a b=>a=b /\ (a=0 -> c1=0):=by
  unfold c02 h4z
  refine Agr.list x.States (fun (_:Unit) i=>(x,i)) (fun (_:Unit) i=>(x,i)) (fun _ _=>True) (by omega) (fun rec rec' _ i y hi hy _ ih=> ?_) (fun rec rec' _ _=> ?_) () trivial
  ·dsimp only
   rw [if_pos (o6 hi),if_pos (o6 hi),e7 hy,qA,qA]
   have ez: ∃b,((if decide ((i:Int)>0)=true then (c7 x.States (i64 ((i:Int)-1))).bind fun v5=>some (decide (y.State <= v5.State)) else some false):A3 Bool)=some b:=by
    cases i with
    | zero=>exact ⟨_,rfl⟩
    | succ i=>
      have e2:i64 (((i+1:Nat):Int)-1)=(i:Int):=by rw [e9 (by omega) (by omega)];omega
      rw [if_pos (by simp),e2,e7 (qG (by omega:i<x.States.length)),qA]
      exact ⟨_,rfl⟩
   obtain ⟨b,hb⟩:=ez
   simp only [hb,qA,a1z,y3]
   exact Agr.ite Iff.rfl (fun _ _=>Agr.some ⟨rfl,fun h=>by cases h⟩) fun _ _=>ih () trivial
  ·dsimp only
   rw [if_neg (g9 _),if_neg (g9 _)]
   refine Agr.list x.States (fun (_:Unit) i=>(x,i)) (fun (_:Unit) i=>(x,i)) (fun _ _=>True) (by omega) (fun rec rec' _ i y hi hy _ ih=> ?_) (fun rec rec' _ _=> ?_) () trivial
   ·dsimp only
    obtain ⟨p,q,h1,h2,h3⟩:=hS y (qE hy)
    rw [if_pos (o6 hi),if_pos (o6 hi),e7 hy,qA,qA,h1,h2,qA,qA,h3]
    exact Agr.ite Iff.rfl (fun h _=>Agr.some ⟨rfl,fun e=>by rw [e] at h;cases h⟩) fun _ _=>ih () trivial
   ·dsimp only
    rw [if_neg (g9 _),if_neg (g9 _),hT,hT5,hR,hR5]
    refine Agr.ite Iff.rfl (fun h _=>Agr.some ⟨rfl,fun e=>by rw [e] at h;cases h⟩) fun h _=>Agr.some ⟨rfl,fun _=>by simpa using h⟩
 obtain ⟨a,b,e1,e2,rfl,h⟩:=h
 exact ⟨a,e1,e2,h⟩
def i0e {s:Statute}(h:SOK s):h9j s:=⟨_,_,j4h h,i2i h,rfl⟩
def l40 {s:Statute}(h:SOK s):h9j ⟨s.Name,0,s.Versions⟩:=by
 refine ⟨(0,1),(0,1),?_,?_,rfl⟩
 ·unfold b4b b7h
  simp only [h.nS,show decide ((0:Int)<1)=true from rfl,qA,qU,Bool.not_false,qM,if_false,if_true]
 ·unfold h5l b00
  simp only [h.n5,show decide ((0:Int)<1)=true from rfl,qA,qU,Bool.not_false,qM,if_false,if_true]
def l96 {t:Statute}(h:SK t){v:Version}(hv:v∈t.Versions):SOK ⟨t.Name,t.Currency,[⟨36000,v.Rounding,v.Credits,v.Series,v.Lets,v.Grants,v.Reduces⟩]⟩ /\ SP ⟨t.Name,t.Currency,[⟨36000,v.Rounding,v.Credits,v.Series,v.Lets,v.Grants,v.Reduces⟩]⟩:=by
 obtain ⟨P,hP,rfl⟩:=h.2 v hv
 obtain ⟨w,e,k,h1,h2⟩:=l7l hP (d:=36000) (by decide) (by decide)
 rw [<- e]
 refine ⟨⟨h.1.n5,h.1.nS,h.1.c0,h.1.c1,by show 1 <= 1;decide,by show 1 <= 6;decide,fun u hu=>⟨i9c,?_⟩,by simp⟩,by show 1 <= 6;decide,fun u hu=> ?_⟩
 ·rw [qF] at hu;subst hu;exact k
 ·rw [qF] at hu;subst hu;exact ⟨h1,h2⟩
structure LX (x:Laws) (c:Int):Prop where
 p:c02 x=some c
 r:h4z x=some c
 n:x.States.length <= 3
 s: ∀s∈x.States,SP s.Statute
 t:c=0 -> h7x x.Treaty
def l98 {n:O Int}(bad:Int)(hn:n.length <= 9223372036854775807): ∃x c,b3p n bad=some x /\ LX x c:=by
 obtain ⟨⟨⟨s',t',ra⟩,st,tr,u⟩,hy,hL⟩:=l6r hn
 obtain ⟨⟨t0,t1,t2,hst,k0,k1,k2⟩,htr,hra⟩:=hL
 have hst:st=[⟨0,t0⟩,⟨1,t1⟩,⟨2,t2⟩]:=hst
 have htr:h7x tr:=htr
 have hra:ra=k58:=hra
 subst hst hra
 obtain ⟨v,hv⟩:=l8s bad
 have fin: ∀(l:O State)(t:O Rules)(r:O Rate),l.length <= 3 -> (∀s∈l,h9j s.Statute /\ SP s.Statute) -> (t=[] \/ h7x t) -> r∈[k58,k58++[(⟨1,0,(⟨1,1⟩:fQ)⟩:Rate)],k58.take 2] -> b3p n bad=some ⟨l,t,r⟩ ->
   ∃x c,b3p n bad=some x /\ LX x c:=by
  intro l t r hl hS ht hr hx
  obtain ⟨c2,hr1,hr2⟩:=i2j r hr
  have: ∃c1,a9n t=some c1 /\ h5p t=some c1 /\ (c1=0 -> h7x t):=by
   rcases ht with rfl | ht
   ·exact ⟨1,i2l,i1h,fun h=>by cases h⟩
   ·exact ⟨0,i2v ht,i2f ht,fun _=>ht⟩
  obtain ⟨c1,ht1,ht2,ht3⟩:=this
  obtain ⟨c,h1,h2,h3⟩:=i1t (x:=⟨l,t,r⟩) (by dsimp only;omega) (fun s hs=>(hS s hs).1) ht1 ht2 hr1 hr2
  exact ⟨_,c,hx,h1,h2,hl,fun s hs=>(hS s hs).2,fun e=>ht3 (h3 e)⟩
 have q0:h9j t0 /\ SP t0:=⟨i0e k0.1,l6u k0⟩
 have q1:h9j t1 /\ SP t1:=⟨i0e k1.1,l6u k1⟩
 have q2:h9j t2 /\ SP t2:=⟨i0e k2.1,l6u k2⟩
 have q6:SP ⟨t1.Name,0,t1.Versions⟩:=q1.2
 have m0:k58∈[k58,k58++[(⟨1,0,(⟨1,1⟩:fQ)⟩:Rate)],k58.take 2]:=qI
 unfold b3p at*
 simp only [hy,hv,qA] at fin⊢
 by_cases c0:(v==0)=true
 ·rw [if_pos c0] at fin⊢
  exact fin [⟨1,t1⟩,⟨2,t2⟩] tr k58 (by simp) (by simp;exact ⟨q1,q2⟩) (.inr htr) m0 rfl
 rw [if_neg c0] at fin⊢
 by_cases c1:(v==1)=true
 ·rw [if_pos c1] at fin⊢
  exact fin [⟨2,t0⟩,⟨1,t1⟩,⟨2,t2⟩] tr k58 (by simp) (by simp;exact ⟨q0,q1,q2⟩) (.inr htr) m0 rfl
 rw [if_neg c1] at fin⊢
 by_cases c2:(v==2)=true
 ·rw [if_pos c2] at fin⊢
  exact fin [⟨0,t0⟩,⟨1,t1⟩,⟨2,t2⟩] [] k58 (by simp) (by simp;exact ⟨q0,q1,q2⟩) (.inl rfl) m0 rfl
 rw [if_neg c2] at fin⊢
 by_cases c3:(v==3)=true
 ·rw [if_pos c3] at fin⊢
  exact fin [⟨0,t0⟩,⟨1,t1⟩,⟨2,t2⟩] tr (k58++[(⟨1,0,(⟨1,1⟩:fQ)⟩:Rate)]) (by simp) (by simp;exact ⟨q0,q1,q2⟩) (.inr htr) (by simp) (by kernel_rfl)
 rw [if_neg c3] at fin⊢
 by_cases c4:(v==4)=true
 ·rw [if_pos c4] at fin⊢
  exact fin [⟨0,t0⟩,⟨1,t1⟩,⟨2,t2⟩] tr (k58.take 2) (by simp) (by simp;exact ⟨q0,q1,q2⟩) (.inr htr) (by simp) rfl
 rw [if_neg c4] at fin⊢
 by_cases c5:(v==5)=true
 ·rw [if_pos c5] at fin⊢
  obtain ⟨w,ws,hw⟩: ∃w ws,t0.Versions=w::ws:=by
   have:=k0.1.l0
   cases h:t0.Versions with
   | nil=>rw [h] at this;simp at this
   | cons w ws=>exact ⟨w,ws,rfl⟩
  have o5:=l96 k0 (v:=w) (by rw [hw];exact qI)
  have q5:h9j _ /\ SP _:=⟨i0e o5.1,o5.2⟩
  have ha:a4n 144 ([]:O Version) t0.Versions=some (w::ws):=by
   have:=k0.1.l1
   rw [hw] at this⊢
   unfold a4n
   rw [if_pos]
   ·rfl
   ·simp at this ⊢; omega
  simp only [show c7 [(⟨0,t0⟩:State),⟨1,t1⟩,⟨2,t2⟩] 0=some ⟨0,t0⟩ from rfl,qA,ha,show c7 (w::ws) 0=some w from rfl] at fin⊢
  have hs: ∀w':Version,a1x (a8h (w::ws) 0 w') 0 1=some [w']:=fun w'=>by
   unfold a1x a8h
   simp
   omega
  simp only [hs,qA] at fin⊢
  exact fin [⟨0,⟨t0.Name,t0.Currency,[⟨36000,w.Rounding,w.Credits,w.Series,w.Lets,w.Grants,w.Reduces⟩]⟩⟩,⟨1,t1⟩,⟨2,t2⟩] tr k58 (by simp) (by simp;exact ⟨q5,q1,q2⟩) (.inr htr) m0 rfl
 rw [if_neg c5] at fin⊢
 by_cases c6:(v==6)=true
 ·rw [if_pos c6] at fin⊢
  exact fin [⟨0,t0⟩,⟨1,⟨t1.Name,0,t1.Versions⟩⟩,⟨2,t2⟩] tr k58 (by simp) (by simp;exact ⟨q0,⟨l40 k1.1,q6⟩,q2⟩) (.inr htr) m0 rfl
 rw [if_neg c6] at fin⊢
 exact fin [⟨0,t0⟩,⟨1,t1⟩,⟨2,t2⟩] tr k58 (by simp) (by simp;exact ⟨q0,q1,q2⟩) (.inr htr) m0 rfl
def i1j (d:Int):Bool:=decide (0 <= d)&&decide (d <= 73048)
def h9l (d:Int):m7 d=some (i1j d) /\ a6n d=some (i1j d):=by
 unfold m7 a6n i1j
 simp only [o4,a7h,qA,ge_iff_le,decide_eq_true_eq,Bool.decide_eq_true,and_self]
def i3a {t:O Rules}(h:h7x t)(d:Int): ∃r,b2q t d=some (r,i1j d):=by
 obtain ⟨few,_,_,h⟩:=h
 have h1:1 <= t.length /\ t.length <= 2 /\ (∀r∈t,r.Members.length <= 3) /\ ∀r,t[0]? =some r -> r.From=0:=by
  rcases h with rfl | rfl | rfl<;>simp
 obtain ⟨h1,h2,h3,h4⟩:=h1
 unfold b2q
 rw [(h9l d).1,qA]
 cases hd:i1j d
 ·exact ⟨_,rfl⟩
 ·unfold i1j at hd
  simp at hd
  obtain ⟨r,e,hr⟩:Tot (d9 FU (b81 t) ((d,(⟨0,0,0,0,[]⟩:Rules),false),(t.length:Int)-1)) fun r=>r.2=true:=by
   refine tO (I:=fun v:(Int×Rules×Bool)×Int=>v.1.1=d /\ 0 <= v.2 /\ v.2<(t.length:Int)) (μ:=fun v=>v.2.toNat) ⟨rfl,by dsimp only;omega,by dsimp only;omega⟩ (by dsimp only;omega) ?_
   rintro r ⟨⟨v1,v2⟩,k⟩ ⟨g1,g2,g3⟩ ih
   dsimp only at g1 g2 g3
   subst g1
   obtain ⟨k,rfl⟩:=qT g2
   have hq:t[k]? =some t[k]:=qG (by omega)
   have hm:=h3 t[k] (qV _)
   unfold b81 a7z
   dsimp only
   rw [if_neg (by simp),e7 hq,qA]
   refine tD (fun _=> ?_) fun hc=> ?_
   ·rw [p6 (by simp;omega)];exact tC rfl
   ·simp at hc
    have hk:k≠0:=fun e=>by subst e;have:=h4 _ hq;omega
    exact ih _ ⟨rfl,by dsimp only;omega,by dsimp only;omega⟩ (by dsimp only;omega)
  exact ⟨r.1,by rw [if_neg (by simp),e,<- hr]⟩
def i3g {s:Statute}(h:SP s)(d:Int):Agr (b1v s d) (h7r s d) fun p q=>p=q /\ (p.2=true -> PV p.1):=by
 have hl:=h.1
 unfold b1v h7r
 rw [(h9l d).1,(h9l d).2,qA,qA]
 refine Agr.ite Iff.rfl (fun _ _=>Agr.some ⟨rfl,fun e=>by cases e⟩) fun _ _=> ?_
 refine Agr.loop (fun (v:(Int×Version×Bool)×Int) (w:Statute×(O Credit)×(O Index)×(O Let)×(O Grant)×(O Reduce)×Version×Int)=>v.1.1=d /\ v.2=w.2.2.2.2.2.2.2 /\ w.1=s /\ -1 <= v.2 /\ v.2<(s.Versions.length:Int)) (fun v=>(v.2+1).toNat) ⟨rfl,by dsimp only;rw [e9 (by omega) (by omega)],rfl,by dsimp only;omega,by dsimp only;omega⟩ (by dsimp only;omega) ?_
 rintro r q ⟨⟨v1,v2⟩,k⟩ ⟨w1,w2,w3,w4,w5,w6,w7,w8⟩ ⟨g1,g2,g3,g4,g5⟩ ih
 dsimp only at g1 g2 g3 g4 g5
 subst g1 g2 g3
 unfold c41 h8l
 dsimp only
 by_cases hk:k<0
 ·rw [if_pos (decide_eq_true hk),if_neg (by simp;omega)]
  exact Agr.some ⟨rfl,fun e=>by cases e⟩
 ·obtain ⟨k,rfl⟩:=qT (show 0 <= k by omega)
  have hq:w1.Versions[k]? =some w1.Versions[k]:=qG (by omega)
  obtain ⟨p1,p2⟩:=h.2 w1.Versions[k] (qV _)
  rw [if_neg (by simp),if_pos (by simp),e7 hq,qA,qA]
  refine Agr.ite Iff.rfl (fun _ _=> ?_) fun _ _=> ?_
  ·rw [p2]
   exact Agr.some ⟨rfl,fun _=>p1⟩
  ·rw [e9 (by omega) (by omega)]
   exact ih _ _ ⟨rfl,rfl,rfl,by dsimp only;omega,by dsimp only;omega⟩ (by dsimp only;omega)
section
variable {x:Laws} {c:Int} (hx:LX x c)
include hx
def i2s (s d:Int)(r:Rules):Agr (a7y ⟨x,d,r⟩ s) (h6u x s) fun p k=>(p=(⟨a3j,0,[]⟩,false) /\ k= -1) \/ ∃(i:Nat)(y:State),k=i /\ x.States[i]? =some y /\ p=(y.Statute,true):=by
 have hn:=hx.n
 unfold a7y h6u
 refine Agr.list x.States (fun (_:Unit) i=>(([]:O Version),(⟨a3j,0,[]⟩:Statute),i)) (fun (_:Unit) i=>(x,i)) (fun _ _=>True) (by omega) (fun rec rec' _ i y hi hy _ ih=> ?_) (fun rec rec' _ _=> ?_) () trivial
 ·dsimp only
  rw [if_pos (o6 hi),if_pos (o6 hi),e7 hy,qA,qA]
  exact Agr.ite Iff.rfl (fun _ _=>Agr.some (.inr ⟨i,y,rfl,hy,rfl⟩)) fun _ _=>ih () trivial
 ·dsimp only
  rw [if_neg (g9 _),if_neg (g9 _)]
  exact Agr.some (.inl ⟨rfl,rfl⟩)
def i23 (s d:Int)(r:Rules):Agr (a2v ⟨x,d,r⟩ s) (h5u x s d) fun p q=>p.2.2=q.2.2 /\ (p.2.2=0 -> p.2.1=q.1 /\ PV q.1):=by
 unfold a2v h5u
 obtain ⟨p,k,e1,e2,h⟩:=i2s hx s d r
 rw [e1,e2,qA,qA]
 rcases h with ⟨rfl,rfl⟩ | ⟨i,y,rfl,hy,rfl⟩
 ·obtain ⟨a,b,f1,f2,f3⟩:=i3g (s:=⟨a3j,0,[]⟩) ⟨by show 0 <= 6;decide,fun v hv=>by cases hv⟩ d
  dsimp only
  rw [f1,qA,if_pos (by decide)]
  exact Agr.some ⟨rfl,fun e=>by cases e⟩
 ·obtain ⟨a,b,f1,f2,rfl,f4⟩:=i3g (hx.s y (qE hy)) d
  dsimp only
  have hi:decide ((i:Int)<0)=false:=by simp
  simp only [f1,f2,e7 hy,hi,qU,qM,if_false,qA]
  refine Agr.ite Iff.rfl (fun _ _=>Agr.some ⟨rfl,fun e=>by cases e⟩) fun h _=>Agr.some ⟨rfl,fun _=>⟨rfl,f4 (by simpa using h)⟩⟩
def i0m (d:Int):(∃b e,e≠0 /\ b8v x d=some (b,e) /\ h5q x d=some e) \/ ∃r,b8v x d=some (⟨x,d,r⟩,0) /\ h5q x d=some 0:=by
 unfold b8v h5q
 rw [hx.p,hx.r,qA,qA]
 by_cases hc:c=0
 ·obtain ⟨r,hr⟩:=i3a (hx.t hc) d
  subst hc
  rw [if_neg (by simp),if_neg (by simp),hr,(h9l d).2,qA,qA]
  cases i1j d
  ·exact .inl ⟨_,1,by decide,rfl,rfl⟩
  ·exact .inr ⟨r,rfl,rfl⟩
 ·have:(c != 0)=true:=by simpa using hc
  rw [if_pos this,if_pos this]
  exact .inl ⟨_,c,hc,rfl,rfl⟩
def i1o {v:View}(hv:VW v)(s b d:Int):Agr (h8m x s b d v) (h6x x s b d v) fun p q=>p=q /\ p.1.Steps.length <= 100:=by
 unfold h8m h6x h7c
 rcases i0m hx d with ⟨bb,e,he,h1,h2⟩ | ⟨r,h1,h2⟩
 ·have:(e != 0)=true:=by simpa using he
  rw [h1,h2,qA,if_pos this,qA,if_pos this,qA,if_pos this]
  exact Agr.some ⟨rfl,Nat.zero_le 100⟩
 ·rw [h1,h2,qA,if_neg (by simp),qA,if_neg (by simp)]
  obtain ⟨p,q,e1,e2,g1,g2⟩:=i23 hx s d r
  rw [e1,e2,qA,qA,qA]
  refine Agr.ite (by rw [g1]) (fun _ _=>Agr.some ⟨by rw [g1],Nat.zero_le 100⟩) fun h _=> ?_
  obtain ⟨k1,k2⟩:=g2 (by simpa using h)
  dsimp only
  rw [k1]
  obtain ⟨z,z1,z2,z3⟩:=i2n hv k2 b
  rw [z1,z2]
  exact Agr.some ⟨rfl,z3⟩
def i2t {v:View}(hv:VW v)(s b d:Int):Agr (h9e x s b d v) (h7h x s b d v) fun p q=>p=q:=by
 unfold h9e h7h h7l
 rcases i0m hx d with ⟨bb,e,he,h1,h2⟩ | ⟨r,h1,h2⟩
 ·have:(e != 0)=true:=by simpa using he
  rw [h1,h2,qA,if_pos this,qA,if_pos this]
  exact Agr.some rfl
 ·rw [h1,h2,qA,if_neg (by simp),qA,if_neg (by simp)]
  obtain ⟨p,q,e1,e2,g1,g2⟩:=i23 hx s d r
  rw [e1,e2,qA,qA]
  have e9: ∀o:A3 (fQ×Int),(o.bind fun v=>some (v.1,v.2))=o:=fun o=>by cases o<;>rfl
  rw [e9]
  refine Agr.ite (by rw [g1]) (fun _ _=>Agr.some (by rw [g1])) fun h _=> ?_
  obtain ⟨k1,k2⟩:=g2 (by simpa using h)
  rw [k1]
  obtain ⟨z,z1,z2⟩:=i1q hv k2 b
  rw [z1,z2,qA]
  exact Agr.ite Iff.rfl (fun _ _=>Agr.some rfl) fun _ _=>Agr.some rfl
end
def h7s (a:Int){n:Int}(h:0<n)(h1:n <= 1000000000):Tot (a40 a n) fun r=>0 <= r /\ r<n:=by
 unfold a40
 have h2:=Int.tmod_lt_of_pos a h
 have h3: -n<a.tmod n:=Int.lt_tmod_of_pos a h
 rw [if_neg (by simp;omega),d04 (by omega),qA,e9 (by omega) (by omega)]
 exact tA (a3p (by omega) h) fun r hr=>tC ⟨hr.2.1,hr.2.2.1⟩
def b6b {l:O Int}{i y x:Int}(h:x∈a8h l i y):x∈l \/ x=y:=by
 unfold a8h at h
 split at h
 ·exact mem_or_eq_of_mem_set h
 ·exact .inl h
def i3e (w:pensionmade_View):Tot (h6t w) VW:=by
 unfold h6t
 refine tO (I:=fun v:pensionmade_View×(O Int)×View×(Ar 7 Int)×Int=>0 <= v.2.2.2.2 /\ v.2.2.2.2 <= 7 /\ ∀x∈v.2.2.2.1.l,0 <= x /\ x <= 73049) (μ:=fun v=>(7-v.2.2.2.2).toNat) ⟨Int.le_refl _,by dsimp only;decide,fun x hx=>by
  have:x=0:=by have hx:x∈List.replicate 7 (0:Int):=hx;exact (List.mem_replicate.1 hx).2
  omega⟩ (by dsimp only;decide) ?_
 rintro r ⟨v1,v2,v3,v4,k⟩ ⟨g1,g2,g3⟩ ih
 dsimp only at g1 g2 g3
 unfold h7u
 dsimp only
 have hA:=v4.h
 simp only [a7h,qA]
 refine tD (fun hc=> ?_) fun hc=> ?_
 ·simp at hc
  refine tA (c6 g1 (by omega)) fun a _=>tA (h7s a (by decide) (by decide)) fun b hb=>tA (c6 g1 (by omega)) fun _ _=>tA (c6 g1 (by omega)) fun _ _=> ?_
  rw [a42 g1 (by omega)]
  exact ih _ ⟨by dsimp only;omega,by dsimp only;omega,fun x hx=>(b6b hx).elim (g3 x) fun e=>by subst e;omega⟩ (by dsimp only;omega)
 ·refine tA (h7s _ (by decide) (by decide)) fun p hp=>tA (h7s _ (by decide) (by decide)) fun q hq=> ?_
  rw [a42 hq.1 (by omega)]
  obtain ⟨p,rfl⟩:=qT hp.1
  obtain ⟨q,rfl⟩:=qT hq.1
  obtain ⟨f,_,f2,f3,f4,f5⟩:=h9h (n:=p) (d:=q+1) (by omega) (by omega) (by omega)
  have f2:a3r (p:Int) ((q:Int)+1)=some (f,0):=f2
  rw [f2,qA]
  refine tA (h7s _ (by decide) (by decide)) fun ag ha=>tA (h7s _ (by decide) (by decide)) fun yr hy=>tA (h7s _ (by decide) (by decide)) fun ch hc=> ?_
  have G: ∀i:Int,0 <= i -> i<7 -> Tot (c7 v4.l i) fun x=>0 <= x /\ x <= 73049:=fun i h0 h1=>(c6 h0 (by omega)).mono g3
  refine tA (G 0 (by decide) (by decide)) fun _ _=>tA (G 0 (by decide) (by decide)) fun d0 h0=>tA (G 1 (by decide) (by decide)) fun _ _=>tA (G 1 (by decide) (by decide)) fun d1 h1=>tA (G 2 (by decide) (by decide)) fun _ _=>tA (G 2 (by decide) (by decide)) fun d2 h2=>tA (G 3 (by decide) (by decide)) fun _ _=>tA (G 3 (by decide) (by decide)) fun d3 h3=>tA (G 4 (by decide) (by decide)) fun _ _=>tA (G 4 (by decide) (by decide)) fun d4 h4=>tA (G 5 (by decide) (by decide)) fun _ _=>tA (G 5 (by decide) (by decide)) fun d5 h5=>tA (G 6 (by decide) (by decide)) fun _ _=>tA (G 6 (by decide) (by decide)) fun d6 h6=> ?_
  have hF:=(h7o.1 f3).1
  unfold FOK at hF
  refine tO (I:=fun v:pensionmade_View×(O Int)×View×(O Int)×View×Int=>0 <= v.2.2.2.2.2 /\ v.2.2.2.2.2 <= 20 /\ (v.2.2.2.1.length:Int)=v.2.2.2.2.2 /\ (∀x∈v.2.2.2.1,0 <= x /\ x <= 1000000000000) /\ v.2.2.2.2.1=⟨ag,i64 (1900+yr),ch,d0,d1,d2,d3,d4,d5,d6,f,[]⟩) (μ:=fun v=>(20-v.2.2.2.2.2).toNat) ⟨Int.le_refl _,by dsimp only;decide,rfl,fun x hx=>(by cases hx),rfl⟩ (by dsimp only;decide) ?_
  rintro r ⟨u1,u2,u3,u4,u5,k⟩ ⟨e1,e2,e3,e4,e5⟩ ih2
  dsimp only at e1 e2 e3 e4 e5
  subst e5
  unfold h7t
  dsimp only
  simp only [a7h,qA]
  refine tD (fun hc=> ?_) fun hc=>tC ?_
  ·simp at hc
   refine tA (c6 e1 (by omega)) fun a _=>tA (h7s a (by decide) (by decide)) fun b hb=> ?_
   rw [p6 (by simp;omega),qA,a42 e1 (by omega)]
   exact ih2 _ ⟨by dsimp only;omega,by dsimp only;omega,by simp;omega,fun x hx=>(b4a hx).elim (e4 x) fun e=>by subst e;omega,rfl⟩ (by dsimp only;omega)
  ·rw [e9 (by omega) (by omega)]
   refine ⟨by dsimp only;omega,by dsimp only;omega,by dsimp only;omega,fun x hx=> ?_,⟨f3,f4,by dsimp only;omega⟩,by dsimp only;omega,e4⟩
   simp only [qO,List.not_mem_nil,or_false] at hx
   rcases hx with rfl | rfl | rfl | rfl | rfl | rfl | rfl<;>assumption
def i3o {r:Result}(h:r.Steps.length <= 100):h5z r r=some true:=by
 unfold h5z a61
 have:d9 FU (a3k r.Steps r.Steps) 0=some true:=by
  refine i3z (fun i=>(i:Int)) r.Steps.length ?_ ?_ (by have:=i4b;omega)
  ·intro i hi q
   have hy:r.Steps[i]? =some r.Steps[i]:=qG hi
   unfold a3k
   simp only [i6p hi,if_true,e7 hy,qA,BEq.rfl,Bool.and_true,qU,qM,if_false,i4v (show i <= 1000000 by omega)]
  ·intro q
   unfold a3k
   simp only [i4y,qM,if_false]
 simp only [BEq.rfl,bne_self_eq_false,qM,if_false,if_true,Bool.and_true,this,qA]
def l6f (a:Int):Tot (b5f a) fun _=>True:=by
 unfold b5f
 rw [d04 (by decide),qA]
 exact tD (fun _=>tC trivial) fun _=>tA (h7s _ (by decide) (by decide)) fun _ _=>tC trivial
def h9k (n:O Int)(bad at_ state benefit:Int)(w:pensionmade_View)(_:n.length <= 9223372036854775807)(_:w.Days.length <= 9223372036854775807 /\ w.Years.length <= 9223372036854775807):h6l n bad at_ state benefit w=some true:=by
 unfold h6l
 split
 ·rfl
 rename_i hn
 have hn:n.length <= 9223372036854775807:=by simp at hn;omega
 obtain ⟨x,c,h1,hx⟩:=l98 bad hn
 obtain ⟨d,h2,_⟩:=l6f at_
 obtain ⟨s,h3,_⟩:=h7s state (n:=4) (by decide) (by decide)
 obtain ⟨b,h4,_⟩:=h7s benefit (n:=7) (by decide) (by decide)
 obtain ⟨v,h5,hv⟩:=i3e w
 obtain ⟨p,q,e1,e2,rfl,hs⟩:=i1o hx hv s b d
 obtain ⟨r,t,e3,e4,rfl⟩:=i2t hx hv s b d
 rw [h1,qA,h2,qA,h3,qA,h4,qA,h5,qA,e1,qA,e2,qA,e3,qA,e4,qA]
 unfold b2m
 simp only [qA,if_true,BEq.rfl,i3o hs,Bool.and_true]
end Go.PL
