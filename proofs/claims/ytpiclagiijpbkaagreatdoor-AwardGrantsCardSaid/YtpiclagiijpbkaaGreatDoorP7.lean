/- Texts of the proof, joined. -/
import Derived.Test.YtpiclagiijpbkaaGreatDoorP6
import Derived.KernelRfl
set_option linter.defProp false
set_option linter.unusedVariables false
set_option linter.unusedSimpArgs false
set_option maxRecDepth 100000
open List
namespace Go.PL
open Go Go.SX
def i6b (p:UInt8 -> Bool)(rest:O UInt8):Prop:= ∀c r,rest=c::r -> p c=false
def j2w (c:UInt8):Bool:=[60,62,61,43,45,42,47,40,41,123,125,44,59].any fun n=>iv c==n
inductive LxOK:Tk -> List UInt8 -> List UInt8 -> Prop
 | w {c:UInt8} {w rest:List UInt8}:h2f (iv c)=true -> (∀x∈c::w,i9x false x=true) -> (c::w).length <= 12 -> i6b (i9x false) rest -> LxOK (.w ⟨(c::w).toArray⟩) (c::w) rest
 | n {c:UInt8} {w rest:List UInt8} {v:fQ} {d:Int} {x y:ByteArray}:h2u (iv c)=true -> h2f (iv c)=false -> (∀x∈c::w,i9x true x=true) -> i6b (i9x true) rest -> a6z ⟨(c::w).toArray⟩=some (x,y,d,true) -> a2x ⟨(c::w).toArray⟩=some (v,d,true) -> LxOK (.n v d) (c::w) rest
 | d {w rest:List UInt8} {day:Int}:w.length=10 -> a47 ⟨w.toArray⟩=some (day,true) -> LxOK (.d day) (64::w) rest
 | s1 {c:UInt8} {rest:List UInt8}:j2w c=true -> (((iv c==60)=false /\ (iv c==62)=false) \/ i6b (fun c=>iv c==61||iv c==62) rest) -> LxOK (.s ⟨#[c]⟩) [c] rest
 | s2 {c c2:UInt8} {rest:List UInt8}:(c,c2)=(60,61) \/ (c,c2)=(62,61) \/ (c,c2)=(60,62) -> LxOK (.s ⟨#[c,c2]⟩) [c,c2] rest
def j2n {c:UInt8}{w:O UInt8}:i45 ⟨(c::w).toArray⟩=(!(48 <= c.toNat&&c.toNat <= 57)&& !c.toNat==64):=by
 unfold i45
 rw [ByteArray.toList_eq]
def j34 {s:A4}(hs:s.size <= 8000){q:Nat}{w rest:O UInt8}(h:rmn s q=w++rest)(hq:q <= s.size)(k:Int)(t0:Token):
  a1o (s,(q:Int),t0,k,(w.length:Int),true)=some (⟨k,⟨w.toArray⟩,(q:Int)⟩,((q+w.length:Nat):Int),0):=by
 have hl:=i6t h hq
 unfold a1o
 have hi:i64 ((q:Int)+(w.length:Int))=(q:Int)+(w.length:Int):=e9 (by omega) (by omega)
 simp only [qU,qM,if_false,hi,i6c h hq,qA]
 rfl
def j44 {s:A4}(hs:s.size <= 8000){q:Nat}{c:UInt8}{rest:O UInt8}(h:rmn s q=c::rest)(h1:j2w c=true)(h2:((iv c==60)=false /\ (iv c==62)=false) \/ i6b (fun c=>iv c==61||iv c==62) rest):b1a s (q:Int)=some 1:=by
 have hlt:=i8x h
 have h3:b3c s (q:Int)=some (iv c):=i6v h
 have hj:joinC a7w (s,(q:Int))=some 1:=by
  unfold joinC a7w
  simp only [h3,qA]
  unfold j2w at h1
  simp only [any_cons,any_nil,Bool.or_false,Bool.or_eq_true] at h1
  rcases h1 with h1 | h1 | h1 | h1 | h1 | h1 | h1 | h1 | h1 | h1 | h1 | h1 | h1<;>(rw [eq_of_beq h1];rfl)
 unfold b1a
 have hi:i64 ((q:Int)+1)=((q+1:Nat):Int):=by rw [a42 (by omega) (by omega)];omega
 rw [hi]
 by_cases hlt2:q+1<s.size
 ·rw [if_pos (by simp;omega)]
  cases rest with
  | nil=>exact absurd (j16.1 (i7m h)) (by omega)
  | cons c2 r=>
    have hs2:c3u s (q:Int) (i64 ((q:Int)+2))=some ⟨#[c,c2]⟩:=by
     have:=i6c (s:=s) (p:=q) (a:=[c,c2]) (rest:=r) h (by omega)
     rw [e9 (by omega) (by omega)]
     exact this
    simp only [hs2,qA,y3]
    have key: ∀(a b:UInt8)(x:A4),x=⟨#[a,b]⟩ -> (iv a==60||iv a==62)=true -> (iv b==61||iv b==62)=true -> (((⟨#[c,c2]⟩:A4).toList==x.toList))=false:=by
     intro a b x hx ha hb
     subst hx
     cases he:((⟨#[c,c2]⟩:A4).toList==(⟨#[a,b]⟩:A4).toList) with
     | false=>rfl
     | true=>
       have he:=eq_of_beq he
       rw [ByteArray.toList_eq,ByteArray.toList_eq] at he
       have he:[c,c2]=[a,b]:=he
       injection he with e1 e2
       injection e2 with e2 _
       subst e1;subst e2
       rcases h2 with ⟨g1,g2⟩ | g
       ·rw [g1,g2] at ha;cases ha
       ·have g:=g c2 r rfl
        have g:(iv c2==61||iv c2==62)=false:=g
        rw [g] at hb;cases hb
    rw [key 60 61 d28 rfl (by decide) (by decide),key 62 61 d30 rfl (by decide) (by decide),key 60 62 d1k rfl (by decide) (by decide)]
    exact hj
 ·rw [if_neg (by simp;omega)]
  exact hj
def j4l {s:A4}(hs:s.size <= 8000){q:Nat}{c c2:UInt8}{rest:O UInt8}(h:rmn s q=c::c2::rest)(h1:(c,c2)=(60,61) \/ (c,c2)=(62,61) \/ (c,c2)=(60,62)):b1a s (q:Int)=some 2:=by
 have hlt:=i8x h
 have hlt2:=i8x (i7m h)
 unfold b1a
 have hi:i64 ((q:Int)+1)=((q+1:Nat):Int):=by rw [a42 (by omega) (by omega)];omega
 rw [hi,if_pos (by simp;omega)]
 have hs2:c3u s (q:Int) (i64 ((q:Int)+2))=some ⟨#[c,c2]⟩:=by
  have:=i6c (s:=s) (p:=q) (a:=[c,c2]) (rest:=rest) h (by omega)
  rw [e9 (by omega) (by omega)]
  exact this
 simp only [hs2,qA,y3,ByteArray.toList_eq]
 rcases h1 with h1 | h1 | h1<;>(injection h1 with e1 e2;subst e1;subst e2;rfl)
def j88 {s:A4}(hs:s.size <= 8000){p:Nat}{b:Bool}{t:Tk}{w rest:O UInt8}(h:rmn s p=blk b++(w++rest))(hp:p <= s.size)(hl:LxOK t w rest):
  ∃tok,TkR tok t /\ (tok.Kind==0)=false /\ b15 s (p:Int)=some (tok,((p+(blk b).length+w.length:Nat):Int),0) /\ p+(blk b).length+w.length <= s.size /\ 1 <= w.length:=by
 have hq:rmn s (p+(blk b).length)=w++rest:=i9k h
 have hqs:=i6t h hp
 obtain ⟨q,hqe⟩: ∃q,p+(blk b).length=q:=⟨_,rfl⟩
 have hsk:(∀c r,w++rest=c::r -> j1r c=true) -> b16 s (p:Int)=some (q:Int):=fun hh=>by rw [<- hqe];exact j3f hs h hp hh
 rw [hqe] at hq hqs⊢
 have hws:=i6t hq hqs
 have head: ∀(c:UInt8)(r:O UInt8),w++rest=c::r -> j1r c=true -> ∀o,(∀v3,v3=iv c -> q<s.size -> (if h2f v3=true then
   (a9f s (q:Int) false).bind fun v5=>joinC a1o (s,(q:Int),(⟨0,a3j,0⟩:Token),1,v5,decide (v5 <= 12))
  else if h2u v3=true then
   (a9f s (q:Int) true).bind fun v10=>(c3u s (q:Int) (i64 ((q:Int)+v10))).bind fun v11=>(a6z v11).bind fun v12=>joinC a1o (s,(q:Int),(⟨0,a3j,0⟩:Token),2,v10,v12.2.2.2)
  else if (v3==64)=true then
   (if decide ((i64 ((s.size:Int)-(q:Int))) >= 11)=true then (c3u s (i64 ((q:Int)+1)) (i64 ((q:Int)+11))).bind fun v14=>(a47 v14).bind fun v15=>joinC a1o (s,(q:Int),(⟨0,a3j,0⟩:Token),3,11,v15.2)
    else joinC a1o (s,(q:Int),(⟨0,a3j,0⟩:Token),3,11,decide ((i64 ((s.size:Int)-(q:Int))) >= 11)))
  else (b1a s (q:Int)).bind fun v16=>joinC a1o (s,(q:Int),(⟨0,a3j,0⟩:Token),4,v16,decide (v16>0)))=o) -> b15 s (p:Int)=o:=by
  intro c r hw hsol o ho
  have hc:rmn s q=c::r:=by rw [hq,hw]
  have hlt:=i8x hc
  have h3:b3c s (q:Int)=some (iv c):=i6v hc
  unfold b15
  have e1:(decide ((p:Int)<0))=false:=by simp
  have e2:(decide ((p:Int)>(s.size:Int)))=false:=by simp;omega
  have e3:((q:Int)==(s.size:Int))=false:=by simp;omega
  simp only [e1,e2,y3,Bool.or_false,qM,if_false,qA,hsk (fun c' r' h'=>by rw [hw] at h';injection h' with a _;rw [<- a];exact hsol),e3,h3,d0j,c7p]
  exact ho _ rfl hlt
 have ns: ∀c:UInt8,j1r c=true↔ ¬(iv c=10 \/ iv c=35 \/ iv c=9 \/ iv c=13 \/ iv c=32):=fun c=>by unfold j1r;simp;omega
 cases hl with
 | w h1 h2 h3 h4=>
   rename_i c w
   have hr:=j6p hs (b:=false) hq (by omega) h4 h2
   refine ⟨⟨1,⟨(c::w).toArray⟩,(q:Int)⟩,⟨rfl,rfl⟩,rfl,?_,by omega,by simp⟩
   refine head c (w++rest) rfl ((ns c).2 (by unfold h2f at h1;simp at h1;omega)) _ fun v3 hv _=> ?_
   subst hv
   rw [if_pos h1,hr,qA,decide_eq_true (show ((c::w).length:Int) <= 12 by omega)]
   exact j34 hs hq (by omega) 1 _
 | n h1 h2 h3 h4 h5 h6=>
   rename_i c w v d x y
   have hr:=j6p hs (b:=true) hq (by omega) h4 h3
   refine ⟨⟨2,⟨(c::w).toArray⟩,(q:Int)⟩,⟨rfl,h6,?_⟩,rfl,?_,by omega,by simp⟩
   ·rw [j2n]
    unfold h2u iv at h1
    simp at h1⊢
    omega
   ·refine head c (w++rest) rfl ((ns c).2 (by unfold h2u at h1;simp at h1;omega)) _ fun v3 hv _=> ?_
    subst hv
    have hss:=i6c (s:=s) (p:=q) (a:=c::w) (rest:=rest) hq (by omega)
    rw [if_neg (by rw [h2];decide),if_pos h1,hr,qA,e9 (by omega) (by omega),hss,qA,h5,qA]
    exact j34 hs hq (by omega) 2 _
 | d h1 h2=>
   rename_i w day
   have hs1:=i6c (s:=s) (p:=q+1) (a:=w) (rest:=rest) (i7m hq) (by simp at hws;omega)
   have hl11:((64:UInt8)::w).length=11:=by simp [h1]
   refine ⟨⟨3,⟨(64::w).toArray⟩,(q:Int)⟩,⟨rfl,?_,?_⟩,rfl,?_,by omega,by simp⟩
   ·show b09 ⟨(64::w).toArray⟩=some day
    unfold b09
    have hsz:(⟨(64::w).toArray⟩:A4).size=11:=by rw [i6n];exact hl11
    have h4:=i6c (s:=⟨(64::w).toArray⟩) (p:=1) (a:=w) (rest:=[]) (by simp [rmn]) (by omega)
    have h4:c3u (⟨(64::w).toArray⟩:A4) 1 ((⟨(64::w).toArray⟩:A4).size:Int)=some ⟨w.toArray⟩:=by
     rw [hsz]
     rw [h1] at h4
     exact h4
    rw [h4,qA,h2]
    rfl
   ·rw [j2n];rfl
   ·refine head 64 (w++rest) rfl rfl _ fun v3 hv hlt=> ?_
    subst hv
    rw [if_neg (by decide),if_neg (by decide),if_pos (by decide),if_pos (by rw [e9 (by omega) (by omega)];simp;omega)]
    rw [a42 (by omega) (by omega),e9 (n:=(q:Int)+11) (by omega) (by omega)]
    have hs1:c3u s ((q:Int)+1) ((q:Int)+11)=some ⟨w.toArray⟩:=by
     rw [h1] at hs1
     rw [show (q:Int)+1=((q+1:Nat):Int) by omega,show (q:Int)+11=((q+1:Nat):Int)+((10:Nat):Int) by omega]
     exact hs1
    rw [hs1,qA,h2,qA]
    have:=j34 hs hq (by omega) 3 ⟨0,a3j,0⟩
    rw [hl11] at this⊢
    exact this
 | s1 h1 h2=>
   rename_i c
   have hs1:=j44 hs (rest:=rest) hq h1 h2
   have h10:iv c=60 \/ iv c=62 \/ iv c=61 \/ iv c=43 \/ iv c=45 \/ iv c=42 \/ iv c=47 \/ iv c=40 \/ iv c=41 \/ iv c=123 \/ iv c=125 \/ iv c=44 \/ iv c=59:=by
    unfold j2w at h1
    simpa using h1
   refine ⟨⟨4,⟨#[c]⟩,(q:Int)⟩,⟨rfl,rfl⟩,rfl,?_,by omega,by simp⟩
   refine head c rest rfl ((ns c).2 (by omega)) _ fun v3 hv _=> ?_
   subst hv
   rw [if_neg (by unfold h2f;simp;omega),if_neg (by unfold h2u;simp;omega),if_neg (by simp;omega),hs1,qA]
   exact j34 hs hq (by omega) 4 _
 | s2 h1=>
   rename_i c c2
   have hs1:=j4l hs (rest:=rest) hq h1
   have h10:iv c=60 \/ iv c=62:=by rcases h1 with h1 | h1 | h1<;>(injection h1 with e1 e2;subst e1;subst e2;decide)
   refine ⟨⟨4,⟨#[c,c2]⟩,(q:Int)⟩,⟨rfl,rfl⟩,rfl,?_,by omega,by simp⟩
   refine head c (c2::rest) rfl ((ns c).2 (by omega)) _ fun v3 hv _=> ?_
   subst hv
   rw [if_neg (by unfold h2f;simp;omega),if_neg (by unfold h2u;simp;omega),if_neg (by simp;omega),hs1,qA]
   exact j34 hs hq (by omega) 4 _
structure Lx where
 t:Tk
 w:List UInt8
 sp:Bool
def i40:O Lx -> O UInt8
 | []=>[]
 | l::ls=>l.w++(blk l.sp++i40 ls)
def okL:O Lx -> Prop
 | []=>True
 | l::ls=>LxOK l.t l.w (blk l.sp++i40 ls) /\ okL ls
def k0l {s:A4}(hs:s.size <= 8000): ∀(ls:O Lx)(p:Nat)(b:Bool)(acc:O Token)(k:Nat),rmn s p=blk b++i40 ls -> p <= s.size -> okL ls -> acc.length <= p -> ls.length<k ->
  ∃toks,d9 k (b7c s) (acc,(p:Int))=some (acc++toks,0,0) /\ y7 TkR toks (ls.map (·.t)) /\ acc.length+toks.length <= s.size:=by
 intro ls
 induction ls with
 | nil=>
   intro p b acc k h hp _ ha hk
   obtain ⟨k,rfl⟩: ∃m,k=m+1:=⟨k-1,by simp at hk;omega⟩
   have hsk:=j3f (w:=[]) hs h hp (fun _ _ h=>by cases h)
   have hq:rmn s (p+(blk b).length)=[]:=i9k (rest:=[]) h
   have hq2:=i6t (rest:=[]) h hp
   have hq1:=j16.1 hq
   refine ⟨[],?_,trivial,by simp;omega⟩
   rw [d24]
   unfold b7c b15
   have e1:(decide ((p:Int)<0))=false:=by simp
   have e2:(decide ((p:Int)>(s.size:Int)))=false:=by simp;omega
   have e3:(((p+(blk b).length:Nat):Int)==(s.size:Int))=true:=by simp;omega
   simp only [e1,e2,y3,Bool.or_false,qM,if_false,qA,hsk,e3,if_true,List.append_nil,show ((0:Int) != 0)=false from rfl,BEq.rfl]
 | cons l ls ih=>
   intro p b acc k h hp hok ha hk
   have hk:ls.length+1<k:=hk
   obtain ⟨k,rfl⟩: ∃m,k=m+1:=⟨k-1,by omega⟩
   obtain ⟨tok,ht,hkd,hn,hle,h1⟩:=j88 hs h hp hok.1
   have hrm:rmn s (p+(blk b).length+l.w.length)=blk l.sp++i40 ls:=i9k (i9k h)
   obtain ⟨toks,e,hrel,hlen⟩:=ih (p+(blk b).length+l.w.length) l.sp (acc++[tok]) k hrm hle hok.2 (by simp;omega) (by omega)
   refine ⟨tok::toks,?_,⟨ht,hrel⟩,by simp at hlen ⊢; omega⟩
   rw [d24]
   generalize hLP:d9 k (b7c s)=LP at e⊢
   unfold b7c
   simp only [hn,qA,show ((0:Int) != 0)=false from rfl,qM,if_false,hkd]
   rw [show a4n 32 acc [tok]=some (acc++[tok]) from p6 (by simp;omega),qA,e,qQ]
   rfl
def j3m {s:A4}(hs:s.size <= 8000)(ls:O Lx)(h:s.data.toList=i40 ls)(hok:okL ls)(hl:ls.length <= 8000): ∃toks,b25 s=some (toks,0,0) /\ y7 TkR toks (ls.map (·.t)) /\ toks.length <= 8000:=by
 obtain ⟨toks,e,h1,h2⟩:=k0l hs ls 0 false [] FU h (Nat.zero_le _) hok (Nat.zero_le _) (by have:=i4b;omega)
 refine ⟨toks,?_,h1,by simp at h2;omega⟩
 unfold b25
 rw [if_neg (by simp;omega)]
 exact e
def j1s (l:O UInt8):Int:=l.foldl (fun x c=>x*10+(iv c-48)) 0
def i7i (l:O UInt8)(c:UInt8):j1s (l++[c])=j1s l*10+(iv c-48):=by simp [j1s]
def j66 {d:Nat}(h:d<10):iv (UInt8.ofNat (48+d))=48+(d:Int):=by
 have:d=0 \/ d=1 \/ d=2 \/ d=3 \/ d=4 \/ d=5 \/ d=6 \/ d=7 \/ d=8 \/ d=9:=by omega
 rcases this with rfl | rfl | rfl | rfl | rfl | rfl | rfl | rfl | rfl | rfl<;>rfl
structure Dg (n:Nat) (l:List UInt8):Prop where
 dig: ∀c∈l,h2u (iv c)=true
 val:j1s l=(n:Int)
 ne:l≠[]
 hd:1<l.length -> ∀c r,l=c::r -> iv c≠48
def j3o: ∀(k u:Nat),u<10^(k+1) -> Dg u (g4v k u):=by
 have one: ∀u,u<10 -> Dg u [UInt8.ofNat (48+u)]:=fun u hu=>by
  have h:=j66 hu
  exact ⟨fun c hc=>by rw [qF] at hc;subst hc;rw [h];unfold h2u;simp;omega,by show (0:Int)*10+(iv (UInt8.ofNat (48+u))-48)=_;rw [h];omega,by simp,fun h=>by simp at h⟩
 intro k
 induction k with
 | zero=>intro u h;exact one u (by simpa using h)
 | succ k ih=>
   intro u h
   unfold g4v
   split
   ·exact one u (by assumption)
   ·rename_i hu
    have hq:=ih (u/10) (by rw [Nat.pow_succ] at h;omega)
    have h:=j66 (d:=u%10) (by omega)
    refine ⟨fun c hc=> ?_,?_,by simp,fun hl c r he=> ?_⟩
    ·rcases qK.1 hc with hc | hc
     ·exact hq.dig c hc
     ·rw [qF] at hc;subst hc;rw [h];unfold h2u;simp;omega
    ·rw [i7i,hq.val,h];omega
    ·cases hb:g4v k (u/10) with
     | nil=>exact absurd hb hq.ne
     | cons x y=>
       rw [hb] at he
       have hx:x=c:=by injection he
       subst hx
       cases y with
       | nil=>
         have:=hq.val
         rw [hb] at this
         simp [j1s] at this
         omega
       | cons z t=>exact hq.hd (by rw [hb];simp) x (z::t) hb
def i6e: ∀(k u m:Nat),u<10^(m+1) -> (g4v k u).length <= m+1
 | 0,u,m,h=>by simp [g4v]
 | k+1,u,m,h=>by
   unfold g4v
   split
   ·simp
   ·rename_i hu
    cases m with
    | zero=>simp at h;omega
    | succ m=>
      have:=i6e k (u/10) m (by rw [Nat.pow_succ] at h;omega)
      simp;omega
def j2e {d:Nat}(h:d<10):c3u a6h (d:Int) (i64 ((d:Int)+1))=some ⟨#[UInt8.ofNat (48+d)]⟩:=by
 have:d=0 \/ d=1 \/ d=2 \/ d=3 \/ d=4 \/ d=5 \/ d=6 \/ d=7 \/ d=8 \/ d=9:=by omega
 rcases this with rfl | rfl | rfl | rfl | rfl | rfl | rfl | rfl | rfl | rfl<;>rfl
def i9w {a b:O UInt8}(h:a.length+b.length <= 100000):a7f ⟨a.toArray⟩ ⟨b.toArray⟩=some ⟨(a++b).toArray⟩:=by
 unfold a7f
 rw [if_pos (by rw [i6n,i6n];simp;omega)]
 congr 1
def j2p: ∀(k u:Nat)(acc:O UInt8)(j:Nat),u<10^(k+1) -> u<1000000 -> acc.length+k <= 1000 -> k<j -> d9 j b54 ((u:Int),⟨acc.toArray⟩)=some ⟨(g4v k u++acc).toArray⟩:=by
 have last: ∀(u:Nat)(acc:O UInt8)(r:(Int×A4) -> A3 A4),u<10 -> acc.length <= 1000 -> b54 r ((u:Int),⟨acc.toArray⟩)=some ⟨([UInt8.ofNat (48+u)]++acc).toArray⟩:=by
  intro u acc r hu ha
  unfold b54
  rw [if_neg (by simp;omega)]
  show (c3u a6h (u:Int) (i64 ((u:Int)+1))).bind _=_
  rw [j2e hu,qA]
  have:=i9w (a:=[UInt8.ofNat (48+u)]) (b:=acc) (by simp;omega)
  show (a7f ⟨#[UInt8.ofNat (48+u)]⟩ ⟨acc.toArray⟩).bind _=_
  rw [show (⟨#[UInt8.ofNat (48+u)]⟩:A4)=⟨[UInt8.ofNat (48+u)].toArray⟩ from rfl,this,qA]
 intro k
 induction k with
 | zero=>
   intro u acc j h _ ha hj
   obtain ⟨j,rfl⟩: ∃m,j=m+1:=⟨j-1,by omega⟩
   rw [d24]
   exact last u acc _ (by simpa using h) (by omega)
 | succ k ih=>
   intro u acc j h h6 ha hj
   obtain ⟨j,rfl⟩: ∃m,j=m+1:=⟨j-1,by omega⟩
   rw [d24]
   unfold g4v
   split
   ·exact last u acc _ (by assumption) (by omega)
   ·rename_i hu
    have ih:=ih (u/10) (UInt8.ofNat (48+u%10)::acc) j (by rw [Nat.pow_succ] at h;omega) (by omega) (by simp;omega) (by omega)
    generalize d9 j b54=LP at ih⊢
    unfold b54
    rw [if_pos (by simp;omega)]
    have hr:b8t (u:Int) 10=some ((u%10:Nat):Int):=by unfold b8t;rw [if_neg (by decide),Int.tmod_eq_emod_of_nonneg (by omega)];congr 1
    have hq:c2t (u:Int) 10=some ((u/10:Nat):Int):=by unfold c2t;rw [if_neg (by decide),Int.tdiv_eq_ediv_of_nonneg (by omega),e9 (by omega) (by omega)];congr 1
    simp only [hr,hq,qA,j2e (show u%10<10 by omega)]
    have:=i9w (a:=[UInt8.ofNat (48+u%10)]) (b:=acc) (by simp;omega)
    rw [show (⟨#[UInt8.ofNat (48+u%10)]⟩:A4)=⟨[UInt8.ofNat (48+u%10)].toArray⟩ from rfl,this,qA,qQ]
    exact ih
def i5o {u:Nat}(h:u<1000000):i8 (u:Int)=some ⟨(g4v 20 u).toArray⟩:=by
 have:=j2p 20 u [] FU (by omega) h (by decide) (by have:=i4b;omega)
 rw [List.append_nil] at this
 exact this
def i9b (l:O UInt8):(⟨l.toArray⟩:A4).size=l.length:=by rw [i6n]
def i5p {l:O UInt8}{i:Nat}{c:UInt8}(h:l[i]? =some c):b3c ⟨l.toArray⟩ (i:Int)=some (iv c):=by
 refine i6v (rest:=l.drop (i+1)) ?_
 unfold rmn
 have hlt:=(qD.1 h).1
 show l.drop i=_
 rw [List.drop_eq_getElem_cons hlt,(qD.1 h).2]
def i9q {a b:O UInt8}:c3u ⟨(a++b).toArray⟩ 0 (a.length:Int)=some ⟨a.toArray⟩:=by
 have:=i6c (s:=⟨(a++b).toArray⟩) (p:=0) (a:=a) (rest:=b) rfl (Nat.zero_le _)
 simpa using this
def i5q {c:UInt8}(h:h2u (iv c)=true):48 <= iv c /\ iv c <= 57:=by unfold h2u at h;simpa using h
section
variable {n:Nat} {l:O UInt8}
def i6q (h:Dg n l)(hl:l.length <= 9)(d:Int):joinC a45 (⟨l.toArray⟩,d)=some (⟨l.toArray⟩,a3j,d,true):=by
 have hpos:1 <= l.length:=by cases l with | nil=>exact absurd rfl h.ne | cons _ _=>simp
 have j2: ∀(m i k:Nat),i+m=l.length -> m<k -> d9 k (b5u (d,⟨l.toArray⟩,a3j)) (i:Int)=some (⟨l.toArray⟩,a3j,d,true):=by
  intro m
  induction m with
  | zero=>
    intro i k hi hk
    obtain ⟨k,rfl⟩: ∃m,k=m+1:=⟨k-1,by omega⟩
    rw [d24]
    unfold b5u
    have hz:i64 ((l.length:Int)+(a3j.size:Int))=(l.length:Int):=by
     have h0:(l.length:Int)+(a3j.size:Int)=(l.length:Int):=by rw [show a3j.size=0 from rfl];simp
     rw [h0,e9 (by omega) (by omega)]
    simp only [i9b,hz]
    rw [if_neg (by simp;omega)]
    have e1:decide ((l.length:Int)<1)=false:=by simp;omega
    have e2:decide ((l.length:Int)>9)=false:=by simp;omega
    simp only [e1,e2,qM,if_false,qA]
    by_cases h1:1<l.length
    ·cases hc:l with
     | nil=>exact absurd hc h.ne
     | cons c r=>
       have hc0:=h.hd h1 c r hc
       rw [hc] at h1
       have e3:decide (((c::r).length:Int)>1)=true:=by simp at h1 ⊢; omega
       have h0:b3c ⟨(c::r).toArray⟩ 0=some (iv c):=i5p (i:=0) rfl
       have e4:(iv c==48)=false:=by simpa using hc0
       simp only [e3,if_true,h0,qA,e4,qM,if_false]
    ·have e3:decide ((l.length:Int)>1)=false:=by simp;omega
     simp only [e3,qM,if_false,qA]
  | succ m ih=>
    intro i k hi hk
    obtain ⟨k,rfl⟩: ∃m,k=m+1:=⟨k-1,by omega⟩
    have ih:=ih (i+1) k (by omega) (by omega)
    rw [d24]
    generalize d9 k (b5u (d,⟨l.toArray⟩,a3j))=LP at ih⊢
    unfold b5u
    have hz:i64 ((l.length:Int)+(a3j.size:Int))=(l.length:Int):=by
     have h0:(l.length:Int)+(a3j.size:Int)=(l.length:Int):=by rw [show a3j.size=0 from rfl];simp
     rw [h0,e9 (by omega) (by omega)]
    have hc:a7f ⟨l.toArray⟩ a3j=some ⟨l.toArray⟩:=by have:=i9w (a:=l) (b:=[]) (by simp;omega);rw [List.append_nil] at this;exact this
    obtain ⟨c,hcc⟩: ∃c,l[i]? =some c:=⟨l[i]'(by omega),qG (by omega)⟩
    simp only [i9b,hz]
    rw [if_pos (by simp;omega)]
    simp only [hc,qA,i5p hcc,c7p,h.dig c (qE hcc),qU,qM,if_false]
    rw [a42 (by omega) (by omega)]
    exact ih
 have j1: ∀(m k:Nat),m <= l.length -> m<k -> d9 k (b5t (⟨l.toArray⟩,d)) (((⟨l.toArray⟩:A4).size:Int),(m:Int)-1)=some (⟨l.toArray⟩,a3j,d,true):=by
  intro m
  induction m with
  | zero=>
    intro k _ hk
    obtain ⟨k,rfl⟩: ∃m,k=m+1:=⟨k-1,by omega⟩
    rw [d24]
    unfold b5t
    have hs:c3u ⟨l.toArray⟩ 0 (l.length:Int)=some ⟨l.toArray⟩:=by have:=i9q (a:=l) (b:=[]);rw [List.append_nil] at this;exact this
    rw [if_neg (by simp)]
    simp only [i9b,hs,qA,decide_eq_false (show¬(l.length:Int)<(l.length:Int) by omega),qM,if_false]
    exact j2 l.length 0 FU (by omega) (by have:=i4b;omega)
  | succ m ih=>
    intro k hm hk
    obtain ⟨k,rfl⟩: ∃m,k=m+1:=⟨k-1,by omega⟩
    have ih:=ih k (by omega) (by omega)
    rw [d24]
    generalize d9 k (b5t (⟨l.toArray⟩,d))=LP at ih⊢
    unfold b5t
    obtain ⟨c,hcc⟩: ∃c,l[m]? =some c:=⟨l[m]'(by omega),qG (by omega)⟩
    have hr:=i5q (h.dig c (qE hcc))
    have e:((m+1:Nat):Int)-1=(m:Int):=by omega
    simp only [e]
    rw [if_pos (by simp)]
    have e46:(iv c==46)=false:=by simp;omega
    simp only [i5p hcc,qA,e46,qM,if_false]
    rw [e9 (by omega) (by omega)]
    exact ih
 unfold joinC a45
 have:=j1 l.length FU (Nat.le_refl _) (by have:=i4b;omega)
 rw [i9b] at this⊢
 rw [e9 (by omega) (by omega)]
 exact this
def j8o:O UInt8 -> Int -> Prop:=fun s d=>(s=[] /\ d=2) \/ (s=[100] /\ d=3) \/ (s=[109] /\ d=4)
def i7j (h:Dg n l)(hl:l.length <= 9){s:O UInt8}{d:Int}(hs:j8o s d):a6z ⟨(l++s).toArray⟩=some (⟨l.toArray⟩,a3j,d,true):=by
 obtain ⟨m,c,rfl⟩: ∃m c,l=m++[c]:=by
  rcases eq_nil_or_concat l with h0 | ⟨m,c,h0⟩
  ·exact absurd h0 h.ne
  ·exact ⟨m,c,by simpa using h0⟩
 have hr:=i5q (h.dig c (by simp))
 have hlen:(m++[c]).length=m.length+1:=by simp
 unfold a6z
 rcases hs with ⟨rfl,rfl⟩ | ⟨rfl,rfl⟩ | ⟨rfl,rfl⟩
 ·simp only [List.append_nil]
  have hz:((⟨(m++[c]).toArray⟩:A4).size:Int)=(m.length:Int)+1:=by rw [i9b,hlen];rfl
  have e0:decide ((m.length:Int)+1>0)=true:=by simp
  have e1:b3c ⟨(m++[c]).toArray⟩ (i64 ((m.length:Int)+1-1))=some (iv c):=by
   rw [e9 (by omega) (by omega),show (m.length:Int)+1-1=(m.length:Int) by omega]
   exact i5p (by simp)
  have e2:(iv c==100)=false:=by simp;omega
  have e3:(iv c==109)=false:=by simp;omega
  simp only [hz,e0,if_true,e1,qA,e2,e3,qM,if_false]
  exact i6q h hl 2
 ·have hz:((⟨(m++[c]++[100]).toArray⟩:A4).size:Int)=(m.length:Int)+2:=by rw [i9b];simp
  have e0:decide ((m.length:Int)+2>0)=true:=by simp;omega
  have e9:i64 ((m.length:Int)+2-1)=((m++[c]).length:Int):=by rw [e9 (by omega) (by omega),hlen];omega
  have e1:b3c ⟨(m++[c]++[100]).toArray⟩ ((m++[c]).length:Int)=some 100:=i5p (c:=100) (by simp)
  simp only [hz,e0,if_true,e9,e1,qA,BEq.rfl,i9q]
  exact i6q h hl 3
 ·have hz:((⟨(m++[c]++[109]).toArray⟩:A4).size:Int)=(m.length:Int)+2:=by rw [i9b];simp
  have e0:decide ((m.length:Int)+2>0)=true:=by simp;omega
  have e9:i64 ((m.length:Int)+2-1)=((m++[c]).length:Int):=by rw [e9 (by omega) (by omega),hlen];omega
  have e1:b3c ⟨(m++[c]++[109]).toArray⟩ ((m++[c]).length:Int)=some 109:=i5p (c:=109) (by simp)
  simp only [hz,e0,if_true,e9,e1,qA,BEq.rfl,i9q,show ((109:Int)==100)=false from rfl,qM,if_false]
  exact i6q h hl 4
def j7k: ∀(l:O UInt8)(x:Int)(N:Nat),(∀c∈l,h2u (iv c)=true) -> 0 <= x -> x<10^N ->
  0 <= l.foldl (fun x c=>x*10+(iv c-48)) x /\ l.foldl (fun x c=>x*10+(iv c-48)) x<10^(N+l.length):=by
 intro l
 induction l with
 | nil=>intro x N _ h0 h1;exact ⟨h0,h1⟩
 | cons c l ih=>
   intro x N hd h0 h1
   have h2:=i5q (hd c (by simp))
   have:=ih (x*10+(iv c-48)) (N+1) (fun y hy=>hd y (by simp [hy])) (by omega) (by rw [Int.pow_succ];omega)
   rw [List.foldl_cons,qR,show N+(l.length+1)=N+1+l.length by omega]
   exact this
def i6w (l:O UInt8)(h: ∀c∈l,h2u (iv c)=true):0 <= j1s l /\ j1s l<10^l.length:=by
 have:=j7k l 0 0 h (by decide) (by decide)
 rw [Nat.zero_add] at this
 exact this
end
def i7x: ∃m,FU=m+1+1:=⟨FU-2,by have:=i4b;omega⟩
def k1v {n:Int}(h:0 <= n):b8t n 1=some 0:=by rw [d04 (by decide),c9f h];simp
def quo1 {n:Int}(h:0 <= n)(h1:n <= 9223372036854775807):c2t n 1=some n:=by rw [e9a (by decide),Int.tdiv_one,e9 (by omega) h1]
def k1h {n:Int}(h0:0 <= n)(h1:n <= 1000000000000000):a3h ⟨0,n⟩ 1=some (⟨0,n⟩,0):=by
 unfold a3h
 simp only [show b8t 0 1=some 0 from rfl,qA]
 have hD:a8o 0 n 1=some (n,0):=by
  unfold a8o joinC b9j joinC b9t
  simp only [show ((1:Int)==0)=false from rfl,show decide ((1:Int) <= 0)=false from rfl,qM,if_false,BEq.rfl,if_true,show¬((1:Int)=0) by decide,Int.tdiv_one,k1v h0,qA,b83 h0 (show n <= 18446744073709551615 by omega)]
 simp only [hD,qA,show¬((1:Int)=0) by decide,if_false]
 rfl
def k1u {n:Int}(h0:0 <= n):a9s n 1=some 1:=by
 unfold a9s
 obtain ⟨m,hm⟩:=i7x
 rw [hm,d24]
 unfold b7e
 simp only [show ((1:Int) != 0)=true from rfl,if_true,k1v h0,qA]
 rw [d24]
 simp only [show ((0:Int) != 0)=false from rfl,qM,if_false]
def j9r:a9s 1 0=some 1:=by
 unfold a9s
 obtain ⟨m,hm⟩:=i7x
 rw [hm,d24]
 rfl
def k27 {n:Int}(h0:0 <= n)(h1:n <= 1000000000000000):a3r n 1=some (⟨n,1⟩,0):=by
 unfold a3r
 obtain ⟨x,hx,_,_,e⟩:=c7c n
 have e:=e h0 (by omega)
 subst e
 unfold b2l
 have hd:decide (x<0)=false:=by simp;omega
 have hd2:decide (x>1000000000000000)=false:=by simp;omega
 simp only [show ((1:Int)==0)=false from rfl,qM,if_false,hx,show a43 1=some 1 from rfl,qA,k1h h0 h1,j9r,show¬((1:Int)=0) by decide,hd,hd2,show u64 (Int.tdiv 1 1)=1 from rfl,show ((0:Int) != 0)=false from rfl,show decide ((1:Int)>1000000000)=false from rfl,show decide ((1:Int)<0)=false from rfl,bne_self_eq_false,e9 (show-9223372036854775808 <= x by omega) (show x <= 9223372036854775807 by omega),show i64 1=1 from rfl]
def k0j {n:Int}(h0:0 <= n)(h1:n <= 1000000000000000):a1h ⟨n,1⟩=some true:=by
 unfold a1h
 obtain ⟨x,hx,_,_,e⟩:=c7c n
 have e:=e h0 (by omega)
 subst e
 have hd:decide (x >= -1000000000000000)=true:=by simp;omega
 have hd2:decide (x <= 1000000000000000)=true:=by simp;omega
 simp only [show decide ((1:Int) >= 1)=true from rfl,show decide ((1:Int) <= 1000000000)=true from rfl,if_true,qA,hd,hd2,hx,show u64 1=1 from rfl,k1u h0,BEq.rfl]
section
variable {n:Nat} {l:O UInt8}
def j2d (h:Dg n l)(hl:l.length <= 9){s:O UInt8}{d:Int}(hs:j8o s d):a2x ⟨(l++s).toArray⟩=some (⟨(n:Int),1⟩,d,true):=by
 unfold a2x
 rw [i7j h hl hs,qA]
 simp only [qU,qM,if_false]
 have hv:=i6w l h.dig
 have hp:(10:Int)^l.length <= 1000000000:=by
  have:(10:Nat)^l.length <= 10^9:=Nat.pow_le_pow_right (by decide) hl
  have h2:((10^l.length:Nat):Int) <= ((10^9:Nat):Int):=by exact_mod_cast this
  simpa using h2
 have go: ∀(b a:O UInt8)(k:Nat),a++b=l -> b.length<k -> d9 k (b3f (⟨l.toArray⟩,a3j,d,true)) ((⟨0,0⟩:fQ),j1s a,1,(a.length:Int))=some (⟨(n:Int),1⟩,d,true):=by
  intro b
  induction b with
  | nil=>
    intro a k ha hk
    obtain ⟨k,rfl⟩: ∃m,k=m+1:=⟨k-1,by omega⟩
    rw [List.append_nil] at ha
    subst ha
    rw [d24]
    unfold b3f
    have hz:i64 ((a.length:Int)+(a3j.size:Int))=(a.length:Int):=by
     have h0:(a.length:Int)+(a3j.size:Int)=(a.length:Int):=by rw [show a3j.size=0 from rfl];simp
     rw [h0,e9 (by omega) (by omega)]
    simp only [i9b,hz]
    rw [if_neg (by simp),h.val,k27 (by omega) (by rw [<- h.val];omega)]
    rfl
  | cons c b ih=>
    intro a k ha hk
    have hk:b.length+1<k:=hk
    obtain ⟨k,rfl⟩: ∃m,k=m+1:=⟨k-1,by omega⟩
    have ih:=ih (a++[c]) k (by rw [qQ];exact ha) (by omega)
    have hlen:a.length+1+b.length=l.length:=by rw [<- ha];simp;omega
    have hc:c∈l:=by rw [<- ha];simp
    have hcd:=i5q (h.dig c hc)
    have hva:=i6w (a++[c]) fun x hx=>h.dig x (by rw [<- ha];simp at hx ⊢; rcases hx with hx | hx<;>simp [hx])
    have hpa:(10:Int)^(a++[c]).length <= 1000000000:=by
     have:(10:Nat)^(a++[c]).length <= 10^9:=Nat.pow_le_pow_right (by decide) (by simp;omega)
     have h2:((10^(a++[c]).length:Nat):Int) <= ((10^9:Nat):Int):=by exact_mod_cast this
     simpa using h2
    have hva0:=i6w a fun x hx=>h.dig x (by rw [<- ha];simp [hx])
    rw [i7i] at ih hva
    rw [d24]
    generalize d9 k (b3f (⟨l.toArray⟩,a3j,d,true))=LP at ih⊢
    unfold b3f
    have hz:i64 ((l.length:Int)+(a3j.size:Int))=(l.length:Int):=by
     have h0:(l.length:Int)+(a3j.size:Int)=(l.length:Int):=by rw [show a3j.size=0 from rfl];simp
     rw [h0,e9 (by omega) (by omega)]
    have hct:a7f ⟨l.toArray⟩ a3j=some ⟨l.toArray⟩:=by have:=i9w (a:=l) (b:=[]) (by simp;omega);rw [List.append_nil] at this;exact this
    have hget:l[a.length]? =some c:=by rw [<- ha];simp
    simp only [i9b,hz]
    rw [if_pos (by simp;omega)]
    simp only [hct,qA,i5p hget]
    rw [if_neg (by simp;omega)]
    have e1:i64 (j1s a*10)=j1s a*10:=e9 (by omega) (by omega)
    have e2:i64 (IntKind.u8.wrap (iv c-48))=iv c-48:=by
     have:IntKind.u8.wrap (iv c-48)=iv c-48:=by
      unfold IntKind.wrap
      simp [IntKind.bits,IntKind.signed]
      omega
     rw [this,e9 (by omega) (by omega)]
    rw [e1,e2,e9 (by omega) (by omega),a42 (by omega) (by omega)]
    have hl2:((a++[c]).length:Int)=(a.length:Int)+1:=by simp
    rw [hl2] at ih
    exact ih
 exact go l [] FU rfl (by have:=i4b;omega)
def j1z {n:Int}(h0:0 <= n)(h1:n <= 100000){d:Int}(h2:2 <= d)(h3:d <= 4): ∃s,a1g ⟨n,1⟩ d=some (s,true):=by
 unfold a1g
 obtain ⟨x,hx,hxs⟩:=c3m (n:=n) h0 (by omega)
 have d1:decide (n<0)=false:=by simp;omega
 have d2:decide (d<2)=false:=by simp;omega
 have d3:decide (d>4)=false:=by simp;omega
 have d4:decide (n>999999999)=false:=by simp;omega
 have e1:i64 (n*1)=n:=by rw [Int.mul_one];exact e9 (by omega) (by omega)
 have e2:i64 (i64 (n-n)*10000)=0:=by rw [show n-n=0 by omega];rfl
 simp only [k0j h0 (show n <= 1000000000000000 by omega),qA,qU,qM,if_false,d1,show b8t 10000 1=some 0 from rfl,bne_self_eq_false,d2,d3,quo1 h0 (show n <= 9223372036854775807 by omega),d4,hx,show c2t 10000 1=some 10000 from rfl,e1,e2,show decide ((0:Int)>0)=false from rfl]
 unfold joinC a1u
 obtain ⟨m,hm⟩:=i7x
 rw [hm,d24]
 unfold a93
 simp only [show decide ((0:Int)>0)=false from rfl,qM,if_false]
 rw [show i64 (d-2)=d-2 from e9 (by omega) (by omega)]
 obtain ⟨y,hy,hm⟩:=c6 (l:=[a3j,e4t,e6u]) (i:=d-2) (by omega) (by simp;omega)
 have hx1:y.size <= 1:=by
  simp at hm
  rcases hm with rfl | rfl | rfl<;>decide
 obtain ⟨z,hz,_⟩:=d6 (a:=x) (b:=y) (by omega)
 simp only [hy,hz,qA]
 exact ⟨_,rfl⟩
end
def j33 {l:O UInt8}(h: ∀c∈l,c≠46):g6v ⟨l.toArray⟩ 46= -1:=by
 unfold g6v
 have:(List.range (⟨l.toArray⟩:A4).size).find? (fun i=>(⟨l.toArray⟩:A4)[i]! ==(46:Int).toNat.toUInt8)=none:=by
  rw [find?_eq_none]
  intro i hi
  rw [mem_range,i9b] at hi
  have e:(⟨l.toArray⟩:A4)[i]! =l[i]:=by
   rw [getElem!_pos _ i (by rw [i9b];exact hi)]
   rfl
  rw [e]
  have:=h l[i] (qV hi)
  simpa using this
 rw [this]
section
variable {n:Nat} {l:O UInt8}
def Dg.no46 (h:Dg n l): ∀c∈l,c≠46:=by
 intro c hc he
 have:=i5q (h.dig c hc)
 subst he
 revert this
 decide
def j2m (h:Dg n l)(hl:l.length <= 9):b2i ⟨l.toArray⟩=some ((n:Int),true):=by
 unfold b2i
 have go: ∀(b a:O UInt8)(k:Nat),a++b=l -> b.length<k -> d9 k (c0d ⟨l.toArray⟩) (j1s a,(a.length:Int))=some ((n:Int),true):=by
  intro b
  induction b with
  | nil=>
    intro a k ha hk
    obtain ⟨k,rfl⟩: ∃m,k=m+1:=⟨k-1,by omega⟩
    rw [List.append_nil] at ha
    subst ha
    rw [d24]
    unfold c0d
    simp only [i9b]
    rw [if_neg (by simp),h.val]
  | cons c b ih=>
    intro a k ha hk
    have hk:b.length+1<k:=hk
    obtain ⟨k,rfl⟩: ∃m,k=m+1:=⟨k-1,by omega⟩
    have ih:=ih (a++[c]) k (by rw [qQ];exact ha) (by omega)
    have hlen:a.length+1+b.length=l.length:=by rw [<- ha];simp;omega
    have hc:c∈l:=by rw [<- ha];simp
    have hcd:=i5q (h.dig c hc)
    have hva:=i6w (a++[c]) fun x hx=>h.dig x (by rw [<- ha];simp at hx ⊢; rcases hx with hx | hx<;>simp [hx])
    have hpa:(10:Int)^(a++[c]).length <= 1000000000:=by
     have:(10:Nat)^(a++[c]).length <= 10^9:=Nat.pow_le_pow_right (by decide) (by simp;omega)
     have h2:((10^(a++[c]).length:Nat):Int) <= ((10^9:Nat):Int):=by exact_mod_cast this
     simpa using h2
    have hva0:=i6w a fun x hx=>h.dig x (by rw [<- ha];simp [hx])
    rw [i7i] at ih hva
    rw [d24]
    generalize d9 k (c0d ⟨l.toArray⟩)=LP at ih⊢
    unfold c0d b74
    have hget:l[a.length]? =some c:=by rw [<- ha];simp
    have d1:decide (iv c >= 48)=true:=by simp;omega
    have d2:decide (iv c <= 57)=true:=by simp;omega
    simp only [i9b]
    rw [if_pos (by simp;omega)]
    simp only [qA,i5p hget,d1,d2,if_true,qU,qM,if_false]
    have e1:i64 (10*j1s a)=j1s a*10:=by rw [Int.mul_comm];exact e9 (by omega) (by omega)
    have e2:i64 (IntKind.u8.wrap (iv c-48))=iv c-48:=by
     have:IntKind.u8.wrap (iv c-48)=iv c-48:=by
      unfold IntKind.wrap
      simp [IntKind.bits,IntKind.signed]
      omega
     rw [this,e9 (by omega) (by omega)]
    rw [e1,e2,e9 (by omega) (by omega),a42 (by omega) (by omega)]
    have hl2:((a++[c]).length:Int)=(a.length:Int)+1:=by simp
    rw [hl2] at ih
    exact ih
 exact go l [] FU rfl (by have:=i4b;omega)
def j2r (h:Dg n l)(hl:l.length <= 9):b9e ⟨l.toArray⟩ b1i=some (⟨l.toArray⟩,a3j,false):=by
 have hi:a6y ⟨l.toArray⟩ b1i=some (-1):=by
  unfold a6y a9d a7v
  have ne:(b1i.toList==(⟨l.toArray⟩:A4).toList)=false:=by
   cases hb:(b1i.toList==(⟨l.toArray⟩:A4).toList) with
   | false=>rfl
   | true=>
     have e:=eq_of_beq hb
     have e2:(b1i:A4).data.toList=l:=by
      rw [ByteArray.toList_eq,ByteArray.toList_eq] at e
      exact e
     exact absurd rfl (h.no46 46 (by rw [<- e2];decide))
  simp only [show ((b1i.size:Int)==0)=false from rfl,show ((b1i.size:Int)==1)=true from rfl,qM,if_false,if_true,qA,ne,show b3c b1i 0=some 46 from rfl,j33 h.no46]
 unfold b9e b72
 rw [hi,qA]
 rfl
def j17: ∃m,FU=m+1+1+1:=⟨FU-3,by have:=i4b;omega⟩
def i7a (h:Dg n l)(hl:l.length <= 9)(d:Int):joinC a5s (⟨l.toArray⟩,(⟨0,0⟩:fQ),d)=some (⟨(n:Int),1⟩,d,true):=by
 have hpos:1 <= l.length:=by cases l with | nil=>exact absurd rfl h.ne | cons _ _=>simp
 have hn:(n:Int) <= 1000000000:=by
  have hv:=i6w l h.dig
  have:(10:Nat)^l.length <= 10^9:=Nat.pow_le_pow_right (by decide) hl
  have h2:((10^l.length:Nat):Int) <= ((10^9:Nat):Int):=by exact_mod_cast this
  rw [h.val] at hv
  have h3:(10:Int)^l.length <= 1000000000:=by simpa using h2
  omega
 unfold joinC a5s
 have e1:decide ((l.length:Int)<1)=false:=by simp;omega
 have e2:decide ((l.length:Int)>9)=false:=by simp;omega
 have e3:(if (decide ((l.length:Int)>1)) then (b3c ⟨l.toArray⟩ 0).bind fun v7=>some (v7==48) else some false)=some false:=by
  by_cases h1:1<l.length
  ·cases hc:l with
   | nil=>exact absurd hc h.ne
   | cons c r=>
     have hc0:=h.hd h1 c r hc
     rw [hc] at h1
     have e3:decide (((c::r).length:Int)>1)=true:=by simp at h1 ⊢; omega
     have h0:b3c ⟨(c::r).toArray⟩ 0=some (iv c):=i5p (i:=0) rfl
     have e4:(iv c==48)=false:=by simpa using hc0
     simp only [e3,if_true,h0,qA,e4]
  ·have e3:decide ((l.length:Int)>1)=false:=by simp;omega
   simp only [e3,qM,if_false]
 have en:b2i a3j=some (0,true):=by
  unfold b2i
  obtain ⟨m,hm⟩:=i7x
  rw [hm,d24]
  rfl
 simp only [j2r h hl,qA,i9b,e1,e2,e3,qM,if_false,j2m h hl,en,qU]
 have l3: ∀(v23:Int)(r22:(fQ×Int) -> A3 (fQ×Int×Bool))(v21:fQ×Int),v23=2 \/ v23=5 -> v21.1=⟨(n:Int),1⟩ -> d9 FU (b5e v23 r22 v21) v21.1=r22 (v21.1,i64 (v21.2+1)):=by
  intro v23 r22 v21 hv he
  obtain ⟨m,hm⟩:=i7x
  rw [hm,d24]
  unfold b5e
  rw [he]
  have hr:b8t 1 v23=some 1:=by rcases hv with rfl | rfl<;>rfl
  have hr2: ∃x,b8t (n:Int) v23=some x:=by rcases hv with rfl | rfl<;>exact ⟨_,d04 (by decide)⟩
  obtain ⟨x,hx⟩:=hr2
  simp only [hx,hr,qA]
  cases (x==0)<;>rfl
 obtain ⟨m,hm⟩:=j17
 have l2: ∀v20:fQ×Int×Int×Int,v20.2.1=d -> d9 FU (c09 v20) ((⟨(n:Int),1⟩:fQ),0)=some (⟨(n:Int),1⟩,d,true):=by
  intro v20 hd
  rw [show d9 FU (c09 v20)=d9 (m+1+1+1) (c09 v20) by rw [<- hm]]
  rw [d24]
  generalize hA:d9 (m+1+1) (c09 v20)=A
  unfold c09
  simp only [show decide ((0:Int)<2)=true from rfl,if_true,show c7 (⟨[2,5],rfl⟩:Ar 2 Int).l 0=some 2 from rfl,qA]
  rw [l3 2 A (_,0) (.inl rfl) rfl,<- hA,d24]
  generalize hB:d9 (m+1) (c09 v20)=B
  unfold c09
  simp only [show i64 (0+1)=1 from rfl,show decide ((1:Int)<2)=true from rfl,if_true,show c7 (⟨[2,5],rfl⟩:Ar 2 Int).l 1=some 5 from rfl,qA]
  rw [l3 5 B (_,1) (.inr rfl) rfl,<- hB,d24]
  unfold c09
  simp only [show i64 (1+1)=2 from rfl,show decide ((2:Int)<2)=false from rfl,qM,if_false,hd]
 rw [hm,d24]
 unfold c0b
 simp only [show e6l a3j 0=none from rfl,optC]
 unfold joinC b5d
 simp only [Int.add_zero,e9 (show-9223372036854775808 <= (n:Int) by omega) (show (n:Int) <= 9223372036854775807 by omega)]
 exact l2 _ rfl
def j1t (h:Dg n l)(hl:l.length <= 9){s:O UInt8}{d:Int}(hs:j8o s d):b69 ⟨(l++s).toArray⟩=some (⟨(n:Int),1⟩,d,true):=by
 obtain ⟨m,c,rfl⟩: ∃m c,l=m++[c]:=by
  rcases eq_nil_or_concat l with h0 | ⟨m,c,h0⟩
  ·exact absurd h0 h.ne
  ·exact ⟨m,c,by simpa using h0⟩
 have hr:=i5q (h.dig c (by simp))
 have hlen:(m++[c]).length=m.length+1:=by simp
 unfold b69
 rcases hs with ⟨rfl,rfl⟩ | ⟨rfl,rfl⟩ | ⟨rfl,rfl⟩
 ·simp only [List.append_nil]
  have hz:((⟨(m++[c]).toArray⟩:A4).size:Int)=(m.length:Int)+1:=by rw [i9b,hlen];rfl
  have e0:decide ((m.length:Int)+1>0)=true:=by simp
  have e1:b3c ⟨(m++[c]).toArray⟩ (i64 ((m.length:Int)+1-1))=some (iv c):=by
   rw [e9 (by omega) (by omega),show (m.length:Int)+1-1=(m.length:Int) by omega]
   exact i5p (by simp)
  have e2:(iv c==100)=false:=by simp;omega
  have e3:(iv c==109)=false:=by simp;omega
  simp only [hz,e0,if_true,e1,qA,e2,e3,qM,if_false]
  exact i7a h hl 2
 ·have hz:((⟨(m++[c]++[100]).toArray⟩:A4).size:Int)=(m.length:Int)+2:=by rw [i9b];simp
  have e0:decide ((m.length:Int)+2>0)=true:=by simp;omega
  have e9:i64 ((m.length:Int)+2-1)=((m++[c]).length:Int):=by rw [e9 (by omega) (by omega),hlen];omega
  have e1:b3c ⟨(m++[c]++[100]).toArray⟩ ((m++[c]).length:Int)=some 100:=i5p (c:=100) (by simp)
  simp only [hz,e0,if_true,e9,e1,qA,BEq.rfl,i9q]
  exact i7a h hl 3
 ·have hz:((⟨(m++[c]++[109]).toArray⟩:A4).size:Int)=(m.length:Int)+2:=by rw [i9b];simp
  have e0:decide ((m.length:Int)+2>0)=true:=by simp;omega
  have e9:i64 ((m.length:Int)+2-1)=((m++[c]).length:Int):=by rw [e9 (by omega) (by omega),hlen];omega
  have e1:b3c ⟨(m++[c]++[109]).toArray⟩ ((m++[c]).length:Int)=some 109:=i5p (c:=109) (by simp)
  simp only [hz,e0,if_true,e9,e1,qA,BEq.rfl,i9q,show ((109:Int)==100)=false from rfl,qM,if_false]
  exact i7a h hl 4
end
def j1v {n:Nat}(h1:n <= 100000){d:Int}(h2:2 <= d)(h3:d <= 4): ∃s,a4y ⟨(n:Int),1⟩ d=some (s,true):=by
 have hd:=j3o 20 n (Nat.lt_of_le_of_lt h1 (by decide))
 have hdl:=i6e 20 n 5 (Nat.lt_of_le_of_lt h1 (by decide))
 unfold a4y
 have d1:decide ((n:Int)<0)=false:=by simp
 have d2:decide ((n:Int)>1000000000000000)=false:=by simp;omega
 have hI:strconv_Itoa (n:Int)=some ⟨(g4v 20 n).toArray⟩:=by unfold strconv_Itoa;rw [if_pos (by omega)];simp
 simp only [show decide ((1:Int)<1)=false from rfl,show decide ((1:Int)>10000)=false from rfl,qM,if_false,qA,d1,d2,quo1 (show 0 <= (n:Int) by omega) (show (n:Int) <= 9223372036854775807 by omega),k1v (show 0 <= (n:Int) by omega),hI]
 obtain ⟨m,hm⟩:=i7x
 rw [hm,d24]
 unfold b3h
 simp only [show decide ((0:Int)>0)=false from rfl,qM,if_false]
 have fin: ∀s,j8o s d -> joinC a2u (d,(⟨(n:Int),1⟩:fQ),⟨(g4v 20 n++s).toArray⟩)=some (⟨(g4v 20 n++s).toArray⟩,true):=by
  intro s hs
  unfold joinC a2u
  simp only [j1t hd (by omega) hs,qA,qU,qM,if_false,BEq.rfl,Bool.and_true,bne_self_eq_false]
 have hcat: ∀s:O UInt8,s.length <= 1 -> a7f ⟨(g4v 20 n).toArray⟩ ⟨s.toArray⟩=some ⟨(g4v 20 n++s).toArray⟩:=fun s hs=>i9w (by omega)
 have hc:d=2 \/ d=3 \/ d=4:=by omega
 rcases hc with rfl | rfl | rfl
 ·have:=fin [] (.inl ⟨rfl,rfl⟩)
  rw [List.append_nil] at this
  exact ⟨_,this⟩
 ·have e:=hcat [100] (by simp)
  have f:=fin [100] (.inr (.inl ⟨rfl,rfl⟩))
  refine ⟨⟨(g4v 20 n++[100]).toArray⟩,?_⟩
  show (a7f ⟨(g4v 20 n).toArray⟩ ⟨[100].toArray⟩).bind _=_
  rw [e,qA]
  exact f
 ·have e:=hcat [109] (by simp)
  have f:=fin [109] (.inr (.inr ⟨rfl,rfl⟩))
  refine ⟨⟨(g4v 20 n++[109]).toArray⟩,?_⟩
  show (a7f ⟨(g4v 20 n).toArray⟩ ⟨[109].toArray⟩).bind _=_
  rw [e,qA]
  exact f
def i3z {σ β:Type}{f:(σ -> A3 β) -> σ -> A3 β}(st:Nat -> σ)(N:Nat){x:A3 β}(hstep: ∀i,i<N -> ∀r,f r (st i)=r (st (i+1)))(hend: ∀r,f r (st N)=x){k:Nat}(hk:N<k):d9 k f (st 0)=x:=by
 have go: ∀m i k,i+m=N -> m<k -> d9 k f (st i)=x:=by
  intro m
  induction m with
  | zero=>
    intro i k hi hk
    obtain ⟨k,rfl⟩: ∃m,k=m+1:=⟨k-1,by omega⟩
    obtain rfl:i=N:=by omega
    rw [d24]
    exact hend _
  | succ m ih=>
    intro i k hi hk
    obtain ⟨k,rfl⟩: ∃m,k=m+1:=⟨k-1,by omega⟩
    rw [d24,hstep i (by omega)]
    exact ih (i+1) k (by omega) (by omega)
 exact go N 0 k (by omega) hk
def i4a {α:Type}{l:O α}{i:Nat}(h:i<l.length):c7 l (i:Int)=some l[i]:=j38 (by omega) (by simp [h])
def i4v {i:Nat}(h:i <= 1000000):i64 ((i:Int)+1)=((i+1:Nat):Int):=by rw [e9 (by omega) (by omega)];omega
def i6p {i n:Nat}(h:i<n):decide ((i:Int)<(n:Int))=true:=by simp;omega
def i4y (n:Nat):decide ((n:Int)<(n:Int))=false:=by simp
def AE.dep:AE -> Nat
 | .bin _ a b=>max (max 0 a.dep) b.dep+1
 | .ite a b c=>max (max (max 0 a.dep) b.dep) c.dep+1
 | _=>1
def AE.sz:AE -> Nat
 | .bin _ a b=>1+a.sz+b.sz
 | .ite a b c=>1+a.sz+b.sz+c.sz
 | _=>1
def i5s (a:AE):1 <= a.dep:=by cases a<;>simp [AE.dep]
def AE.args:AE -> O AE
 | .bin _ a b=>[a,b]
 | .ite a b c=>[a,b,c]
 | _=>[]
def AE.ind {P:AE -> Prop}(h: ∀a:AE,(∀b∈a.args,P b) -> P a): ∀a,P a:=by
 intro a
 induction a with
 | lit v d=>exact h _ fun b hb=>by cases hb
 | nm s=>exact h _ fun b hb=>by cases hb
 | best k=>exact h _ fun b hb=>by cases hb
 | bin op a b iha ihb=>exact h _ fun x hx=>by simp [AE.args] at hx;rcases hx with rfl | rfl<;>assumption
 | ite a b c iha ihb ihc=>exact h _ fun x hx=>by simp [AE.args] at hx;rcases hx with rfl | rfl | rfl<;>assumption
def i7y (a:AE):a.e.Args=a.args.map AE.e:=by cases a<;>rfl
def i5z (a:AE):a.args.length <= 3:=by cases a<;>simp [AE.args]
def j6y (a:AE):a.dep=a.args.foldl (fun m b=>max m b.dep) 0+1:=by cases a<;>rfl
def j4s (a:AE):a.sz=a.args.foldl (fun m b=>m+b.sz) 1:=by cases a<;>rfl
def i55 {a b:AE}(h:b∈a.args):b.dep<a.dep:=by
 cases a with
 | bin op x y=>simp [AE.args] at h;show b.dep<max (max 0 x.dep) y.dep+1;rcases h with rfl | rfl<;>omega
 | ite x y z=>simp [AE.args] at h;show b.dep<max (max (max 0 x.dep) y.dep) z.dep+1;rcases h with rfl | rfl | rfl<;>omega
 | _=>cases h
def j6m {a b:AE}(h:b∈a.args):b.sz<a.sz:=by
 cases a with
 | bin op x y=>simp [AE.args] at h;show b.sz<1+x.sz+y.sz;rcases h with rfl | rfl<;>omega
 | ite x y z=>simp [AE.args] at h;show b.sz<1+x.sz+y.sz+z.sz;rcases h with rfl | rfl | rfl<;>omega
 | _=>cases h
def j1y (R:Ring_pensionref5_Depth)(L:O AE)(hR: ∀a∈L,R.f_pensionref5_Depth a.e=some (a.dep:Int))(e:Expr)(he:e.Args=L.map AE.e)(hl:L.length <= 3)(hd: ∀a∈L,a.dep <= 1000):
  a7r R e=some ((L.foldl (fun m a=>max m a.dep) 0+1:Nat):Int):=by
 unfold a7r
 have hb: ∀(L:O AE)(m:Nat),m <= 1000 -> (∀a∈L,a.dep <= 1000) -> L.foldl (fun m a=>max m a.dep) m <= 1000:=by
  intro L
  induction L with
  | nil=>intro m h _;exact h
  | cons a L ih=>intro m h h2;exact ih (max m a.dep) (by have:=h2 a (by simp);omega) fun x hx=>h2 x (by simp [hx])
 refine i3z (fun i=>(e,(((L.take i).foldl (fun m a=>max m a.dep) 0:Nat):Int),(i:Int))) L.length ?_ ?_ (by have:=i4b;omega)
 ·intro i hi r
  unfold b5n
  have hlen:e.Args.length=L.length:=by rw [he];simp
  have hg:c7 e.Args (i:Int)=some (L[i].e):=by rw [i4a (by omega)];simp [he]
  simp only [hlen,i6p hi,if_true,hg,qA,hR _ (qV hi),i4v (show i <= 1000000 by omega)]
  rw [List.take_succ_eq_append_getElem hi,foldl_append]
  simp only [List.foldl_cons,foldl_nil]
  congr 3
  omega
 ·intro r
  unfold b5n
  have hlen:e.Args.length=L.length:=by rw [he];simp
  simp only [hlen,i4y,qM,if_false,List.take_length]
  have:=hb L 0 (by omega) hd
  rw [i4v (by omega)]
def j4p: ∀(a:AE),a.dep <= 1000 -> ∀m,a.dep <= m -> (s5 m).f_pensionref5_Depth a.e=some (a.dep:Int):=by
 refine AE.ind fun a ih hd m hm=> ?_
 obtain ⟨m,rfl⟩: ∃k,m=k+1:=⟨m-1,by have:=i5s a;omega⟩
 rw [j6y a]
 exact j1y _ a.args (fun b hb=>ih b hb (by have:=i55 hb;omega) m (by have:=i55 hb;omega)) a.e (i7y a) (i5z a) fun b hb=>by have:=i55 hb;omega
def i8n: ∀(L:O AE)(m:Nat),m <= L.foldl (fun m b=>m+b.sz) m:=by
 intro L
 induction L with
 | nil=>intro m;exact Nat.le_refl _
 | cons a L ih=>intro m;have:=ih (m+a.sz);simp only [List.foldl_cons];omega
def j3h (R:Ring_pensionref5_Size)(L:O AE)(hR: ∀a∈L,R.f_pensionref5_Size a.e=some (a.sz:Int))(e:Expr)(he:e.Args=L.map AE.e)(hl:L.length <= 3)(hd:L.foldl (fun m b=>m+b.sz) 1 <= 1000):
  a94 R e=some ((L.foldl (fun m a=>m+a.sz) 1:Nat):Int):=by
 unfold a94
 refine i3z (fun i=>(e,(((L.take i).foldl (fun m a=>m+a.sz) 1:Nat):Int),(i:Int))) L.length ?_ ?_ (by have:=i4b;omega)
 ·intro i hi r
  unfold b6r
  have hlen:e.Args.length=L.length:=by rw [he];simp
  have hg:c7 e.Args (i:Int)=some (L[i].e):=by rw [i4a (by omega)];simp [he]
  simp only [hlen,i6p hi,if_true,hg,qA,hR _ (qV hi),i4v (show i <= 1000000 by omega)]
  have e0:(L.take (i+1)).foldl (fun m a=>m+a.sz) 1=(L.take i).foldl (fun m a=>m+a.sz) 1+L[i].sz:=by
   rw [List.take_succ_eq_append_getElem hi,foldl_append];rfl
  have hb:(L.take (i+1)).foldl (fun m a=>m+a.sz) 1 <= 1000:=by
   have h1:L.foldl (fun m b=>m+b.sz) 1=(L.drop (i+1)).foldl (fun m b=>m+b.sz) ((L.take (i+1)).foldl (fun m b=>m+b.sz) 1):=by
    rw [<- foldl_append,List.take_append_drop]
   have:=i8n (L.drop (i+1)) ((L.take (i+1)).foldl (fun m b=>m+b.sz) 1)
   omega
  rw [e0] at hb⊢
  rw [e9 (by omega) (by omega)]
  congr 3
 ·intro r
  unfold b6r
  have hlen:e.Args.length=L.length:=by rw [he];simp
  simp only [hlen,i4y,qM,if_false,List.take_length]
def j7w: ∀(a:AE),a.sz <= 1000 -> ∀m,a.dep <= m -> (u7 m).f_pensionref5_Size a.e=some (a.sz:Int):=by
 refine AE.ind fun a ih hd m hm=> ?_
 obtain ⟨m,rfl⟩: ∃k,m=k+1:=⟨m-1,by have:=i5s a;omega⟩
 rw [j4s a] at hd⊢
 exact j3h _ a.args (fun b hb=>ih b hb (by have:=j6m hb;rw [j4s a] at this;omega) m (by have:=i55 hb;omega)) a.e (i7y a) (i5z a) hd
def j0r (R:Ring_syntax_Depth)(L:O AE)(hR: ∀a∈L,R.f_syntax_Depth a.e=some (a.dep:Int))(e:Expr)(he:e.Args=L.map AE.e)(hl:L.length <= 3)(hd: ∀a∈L,a.dep <= 1000):
  b86 R e=some ((L.foldl (fun m a=>max m a.dep) 0+1:Nat):Int):=by
 unfold b86
 have hb: ∀(L:O AE)(m:Nat),m <= 1000 -> (∀a∈L,a.dep <= 1000) -> L.foldl (fun m a=>max m a.dep) m <= 1000:=by
  intro L
  induction L with
  | nil=>intro m h _;exact h
  | cons a L ih=>intro m h h2;exact ih (max m a.dep) (by have:=h2 a (by simp);omega) fun x hx=>h2 x (by simp [hx])
 refine i3z (fun i=>((((L.take i).foldl (fun m a=>max m a.dep) 0:Nat):Int),(i:Int))) L.length ?_ ?_ (by have:=i4b;omega)
 ·intro i hi r
  unfold b6x
  have hlen:e.Args.length=L.length:=by rw [he];simp
  have hg:c7 e.Args (i:Int)=some (L[i].e):=by rw [i4a (by omega)];simp [he]
  simp only [hlen,i6p hi,if_true,hg,qA,hR _ (qV hi),i4v (show i <= 1000000 by omega)]
  rw [List.take_succ_eq_append_getElem hi,foldl_append]
  simp only [List.foldl_cons,foldl_nil]
  congr 2
  omega
 ·intro r
  unfold b6x
  have hlen:e.Args.length=L.length:=by rw [he];simp
  simp only [hlen,i4y,qM,if_false,List.take_length]
  have:=hb L 0 (by omega) hd
  rw [i4v (by omega)]
def j2u: ∀(a:AE),a.dep <= 1000 -> ∀m,a.dep <= m -> (a0r m).f_syntax_Depth a.e=some (a.dep:Int):=by
 refine AE.ind fun a ih hd m hm=> ?_
 obtain ⟨m,rfl⟩: ∃k,m=k+1:=⟨m-1,by have:=i5s a;omega⟩
 rw [j6y a]
 exact j0r _ a.args (fun b hb=>ih b hb (by have:=i55 hb;omega) m (by have:=i55 hb;omega)) a.e (i7y a) (i5z a) fun b hb=>by have:=i55 hb;omega
def j24 (R:Ring_syntax_Size)(L:O AE)(hR: ∀a∈L,R.f_syntax_Size a.e=some (a.sz:Int))(e:Expr)(he:e.Args=L.map AE.e)(hl:L.length <= 3)(hd:L.foldl (fun m b=>m+b.sz) 1 <= 1000):
  b9x R e=some ((L.foldl (fun m a=>m+a.sz) 1:Nat):Int):=by
 unfold b9x
 refine i3z (fun i=>((((L.take i).foldl (fun m a=>m+a.sz) 1:Nat):Int),(i:Int))) L.length ?_ ?_ (by have:=i4b;omega)
 ·intro i hi r
  unfold b8b
  have hlen:e.Args.length=L.length:=by rw [he];simp
  have hg:c7 e.Args (i:Int)=some (L[i].e):=by rw [i4a (by omega)];simp [he]
  simp only [hlen,i6p hi,if_true,hg,qA,hR _ (qV hi),i4v (show i <= 1000000 by omega)]
  have e0:(L.take (i+1)).foldl (fun m a=>m+a.sz) 1=(L.take i).foldl (fun m a=>m+a.sz) 1+L[i].sz:=by
   rw [List.take_succ_eq_append_getElem hi,foldl_append];rfl
  have hb:(L.take (i+1)).foldl (fun m a=>m+a.sz) 1 <= 1000:=by
   have h1:L.foldl (fun m b=>m+b.sz) 1=(L.drop (i+1)).foldl (fun m b=>m+b.sz) ((L.take (i+1)).foldl (fun m b=>m+b.sz) 1):=by
    rw [<- foldl_append,List.take_append_drop]
   have:=i8n (L.drop (i+1)) ((L.take (i+1)).foldl (fun m b=>m+b.sz) 1)
   omega
  rw [e0] at hb⊢
  rw [e9 (by omega) (by omega)]
  congr 2
 ·intro r
  unfold b8b
  have hlen:e.Args.length=L.length:=by rw [he];simp
  simp only [hlen,i4y,qM,if_false,List.take_length]
def j42: ∀(a:AE),a.sz <= 1000 -> ∀m,a.dep <= m -> (a1j m).f_syntax_Size a.e=some (a.sz:Int):=by
 refine AE.ind fun a ih hd m hm=> ?_
 obtain ⟨m,rfl⟩: ∃k,m=k+1:=⟨m-1,by have:=i5s a;omega⟩
 rw [j4s a] at hd⊢
 exact j24 _ a.args (fun b hb=>ih b hb (by have:=j6m hb;rw [j4s a] at this;omega) m (by have:=i55 hb;omega)) a.e (i7y a) (i5z a) hd
def AE.leafOK:AE -> Prop
 | .lit v d=>(∃s,a1g v d=some (s,true)) /\ ∃s,a4y v d=some (s,true)
 | .nm s=>a2e s=some true /\ b0e s=some true
 | .best k=>1 <= k /\ k <= 45
 | .bin op _ _=>7 <= op /\ op <= 20
 | .ite _ _ _=>True
inductive AE.ok:AE -> Prop
 | mk {a:AE}:a.leafOK -> (∀b∈a.args,b.ok) -> a.ok
def AE.ok.leaf {a:AE}(h:a.ok):a.leafOK:=by cases h;assumption
def AE.ok.arg {a b:AE}(h:a.ok)(hb:b∈a.args):b.ok:=by cases h;rename_i h1 h2;exact h2 b hb
def j0b (R:Ring_pensionref5_formed)(L:O AE)(hR: ∀a∈L,R.f_pensionref5_formed a.e=some true)(e:Expr)(he:e.Args=L.map AE.e)(hl:L.length <= 3):d9 FU (b4j R true) (e,0)=some true:=by
 refine i3z (fun i=>(e,(i:Int))) L.length ?_ ?_ (by have:=i4b;omega)
 ·intro i hi r
  unfold b4j
  have hlen:e.Args.length=L.length:=by rw [he];simp
  have hg:c7 e.Args (i:Int)=some (L[i].e):=by rw [i4a (by omega)];simp [he]
  simp only [hlen,i6p hi,if_true,hg,qA,hR _ (qV hi),i4v (show i <= 1000000 by omega),qU,qM,if_false]
 ·intro r
  unfold b4j
  have hlen:e.Args.length=L.length:=by rw [he];simp
  simp only [hlen,i4y,qM,if_false]
def j2f {op:Int}(h1:7 <= op)(h2:op <= 20):a8e op=some 2:=by
 unfold a8e
 have e1:decide (op >= 1)=true:=by simp;omega
 have e2:decide (op <= 3)=false:=by simp;omega
 have e3:decide (op >= 4)=true:=by simp;omega
 have e4:decide (op <= 6)=false:=by simp;omega
 have e5:decide (op >= 7)=true:=by simp;omega
 have e6:decide (op <= 20)=true:=by simp;omega
 simp only [e1,e2,e3,e4,e5,e6,if_true,qA,qM,if_false]
def j37 {op:Int}(h1:7 <= op)(h2:op <= 20):b84 op=some 2:=by
 unfold b84
 have e1:(op==1)=false:=by simp;omega
 have e2:(op==2)=false:=by simp;omega
 have e3:(op==3)=false:=by simp;omega
 have e4:(op==4)=false:=by simp;omega
 have e5:(op==5)=false:=by simp;omega
 have e6:(op==6)=false:=by simp;omega
 have e7:decide (op >= 7)=true:=by simp;omega
 have e8:decide (op <= 20)=true:=by simp;omega
 simp only [e1,e2,e3,e4,e5,e6,e7,e8,if_true,qA,qM,if_false]
def k1a {c x:Bool}: ∃b,(if c=true then some x else some false)=some b:=by cases c<;>exact ⟨_,rfl⟩
def j3e: ∀(a:AE),a.ok -> ∀m,a.dep <= m -> (p7 m).f_pensionref5_formed a.e=some true:=by
 refine AE.ind fun a ih hok m hm=> ?_
 obtain ⟨m,rfl⟩: ∃k,m=k+1:=⟨m-1,by have:=i5s a;omega⟩
 have hR: ∀b∈a.args,(p7 m).f_pensionref5_formed b.e=some true:=fun b hb=>ih b hb (hok.arg hb) m (by have:=i55 hb;omega)
 have hlf:=hok.leaf
 show a6s (p7 m) a.e=some true
 have hfin:=j0b (p7 m) a.args hR a.e (i7y a) (i5z a)
 cases a with
 | lit v d=>
   show a6s (p7 m) ⟨1,v,d,a3j,[]⟩=some true
   unfold a6s
   obtain ⟨⟨s,hs⟩,_⟩:=hlf
   obtain ⟨b1,h1⟩:=k1a (c:=(v.Num==0)&&((v.Den==0)&&true)) (x:=d==0)
   simp only [show a8e 1=some 0 from by kernel_rfl,qA,qS,hs,BEq.rfl,if_true,show (((0:Nat):Int) != 0)=false from rfl,qM,if_false]
   rw [h1,qA]
   cases b1<;>rfl
 | nm s=>
   show a6s (p7 m) ⟨2,⟨0,0⟩,0,s,[]⟩=some true
   unfold a6s
   simp only [show a8e 2=some 0 from by kernel_rfl,qA,qS,BEq.rfl,Bool.and_true,if_true,hlf.1,show ((2:Int)==1)=false from rfl,qM,if_false]
   rfl
 | best k=>
   show a6s (p7 m) ⟨3,⟨k,1⟩,0,a3j,[]⟩=some true
   unfold a6s
   have e1:decide (k >= 1)=true:=by simp;exact hlf.1
   have e2:decide (k <= 45)=true:=by simp;exact hlf.2
   simp only [show (((0:Nat):Int) != 0)=false from rfl,show a8e 3=some 0 from by kernel_rfl,qA,qS,BEq.rfl,Bool.and_true,if_true,show ((3:Int)==1)=false from rfl,show ((3:Int)==2)=false from rfl,show ((1:Int)==0)=false from rfl,Bool.and_false,Bool.false_and,qM,if_false,e1,e2]
 | bin op x y=>
   show a6s (p7 m) ⟨op,⟨0,0⟩,0,a3j,[x.e,y.e]⟩=some true
   unfold a6s
   have o1:(op==1)=false:=by have:=hlf.1;simp;omega
   have o2:(op==2)=false:=by have:=hlf.1;simp;omega
   have o3:(op==3)=false:=by have:=hlf.1;simp;omega
   simp only [j2f hlf.1 hlf.2,qA,qR,qS,BEq.rfl,Bool.and_true,if_true,o1,o2,o3,qM,if_false]
   exact hfin
 | ite x y z=>
   show a6s (p7 m) ⟨21,⟨0,0⟩,0,a3j,[x.e,y.e,z.e]⟩=some true
   unfold a6s
   simp only [show a8e 21=some 3 from by kernel_rfl,qA,qR,qS,BEq.rfl,Bool.and_true,if_true,show ((21:Int)==1)=false from rfl,show ((21:Int)==2)=false from rfl,show ((21:Int)==3)=false from rfl,qM,if_false]
   exact hfin
def j0u (n:Nat)(h:n <= 1000): ∃m,FU=m+n:=⟨FU-n,by
 have:1000 <= FU:=by unfold FU;decide
 omega⟩
section
variable {r:rQ} {t:Tk} {ts:O Tk}
def i4t (h:RdrA r (t::ts))(lvl:Int)(k:Nat){op l:Int}{s:A4}(h0:0 <= op)(h1:op <= 18)(hl:b05 op=some l)(hs:a96 op=some s)(hw:i45 s=true):
  d9 (k+1) (a9a lvl r) op=bif (l==lvl)&&isT t s then some op else d9 k (a9a lvl r) (op+1):=by
 rw [d24]
 unfold a9a
 rw [if_pos (by simpa using h1),hl,qA]
 cases hb:(l==lvl) with
 | false=>
   simp only [Bool.false_and,cond_false,qM,if_false,qA]
   rw [a42 h0 (by omega)]
 | true=>
   simp only [if_true,hs,qA,j2a h hw,Bool.true_and]
   cases isT t s with
   | true=>rfl
   | false=>
     simp only [qM,if_false,cond_false]
     rw [a42 h0 (by omega)]
def j36 {α:Type}{b:Bool}{x y:α}:(bif b then some x else some y)=some (bif b then x else y):=by cases b<;>rfl
def i7n (h:RdrA r (t::ts))(lvl:Int):a3a r lvl=some (j92 lvl t k0v):=by
 unfold a3a
 obtain ⟨m,hm⟩:=j0u 13 (by decide)
 rw [hm]
 rw [show m+13=(m+12)+1 from rfl,i4t h lvl (m+12) (op:=7) (l:=5) (s:=g5d) (by decide) (by decide) (by kernel_rfl) (by kernel_rfl) (by kernel_rfl)]
 rw [show m+12=(m+11)+1 from rfl,show (7:Int)+1=8 from rfl,i4t h lvl (m+11) (op:=8) (l:=5) (s:=e00) (by decide) (by decide) (by kernel_rfl) (by kernel_rfl) (by kernel_rfl)]
 rw [show m+11=(m+10)+1 from rfl,show (8:Int)+1=9 from rfl,i4t h lvl (m+10) (op:=9) (l:=6) (s:=g62) (by decide) (by decide) (by kernel_rfl) (by kernel_rfl) (by kernel_rfl)]
 rw [show m+10=(m+9)+1 from rfl,show (9:Int)+1=10 from rfl,i4t h lvl (m+9) (op:=10) (l:=6) (s:=e8f) (by decide) (by decide) (by kernel_rfl) (by kernel_rfl) (by kernel_rfl)]
 rw [show m+9=(m+8)+1 from rfl,show (10:Int)+1=11 from rfl,i4t h lvl (m+8) (op:=11) (l:=4) (s:=g4g) (by decide) (by decide) (by kernel_rfl) (by kernel_rfl) (by kernel_rfl)]
 rw [show m+8=(m+7)+1 from rfl,show (11:Int)+1=12 from rfl,i4t h lvl (m+7) (op:=12) (l:=4) (s:=d28) (by decide) (by decide) (by kernel_rfl) (by kernel_rfl) (by kernel_rfl)]
 rw [show m+7=(m+6)+1 from rfl,show (12:Int)+1=13 from rfl,i4t h lvl (m+6) (op:=13) (l:=4) (s:=e7j) (by decide) (by decide) (by kernel_rfl) (by kernel_rfl) (by kernel_rfl)]
 rw [show m+6=(m+5)+1 from rfl,show (13:Int)+1=14 from rfl,i4t h lvl (m+5) (op:=14) (l:=4) (s:=d1k) (by decide) (by decide) (by kernel_rfl) (by kernel_rfl) (by kernel_rfl)]
 rw [show m+5=(m+4)+1 from rfl,show (14:Int)+1=15 from rfl,i4t h lvl (m+4) (op:=15) (l:=4) (s:=g5n) (by decide) (by decide) (by kernel_rfl) (by kernel_rfl) (by kernel_rfl)]
 rw [show m+4=(m+3)+1 from rfl,show (15:Int)+1=16 from rfl,i4t h lvl (m+3) (op:=16) (l:=4) (s:=d30) (by decide) (by decide) (by kernel_rfl) (by kernel_rfl) (by kernel_rfl)]
 rw [show m+3=(m+2)+1 from rfl,show (16:Int)+1=17 from rfl,i4t h lvl (m+2) (op:=17) (l:=2) (s:=c9m) (by decide) (by decide) (by kernel_rfl) (by kernel_rfl) (by kernel_rfl)]
 rw [show m+2=(m+1)+1 from rfl,show (17:Int)+1=18 from rfl,i4t h lvl (m+1) (op:=18) (l:=1) (s:=d8p) (by decide) (by decide) (by kernel_rfl) (by kernel_rfl) (by kernel_rfl)]
 have e:d9 (m+1) (a9a lvl r) (18+1)=some 0:=by
  rw [d24]
  unfold a9a
  rw [if_neg (by simp)]
 rw [e]
 unfold k0v
 simp only [j92]
 simp only [j36]
def i7f {s:A4}{us:O Tk}(h:RdrA r ts)(hs:i45 s=true)(he:eat s ts=some us):b9 r s=some (adv r) /\ RdrA (adv r) us:=by
 cases ts with
 | nil=>cases he
 | cons t ts=>
   simp only [eat] at he
   cases ht:isT t s with
   | false=>rw [ht] at he;cases he
   | true=>
     rw [ht] at he
     obtain rfl:=qH he
     exact ⟨j0h h hs ht,h.cons.choose_spec.2.2.2.1⟩
end
abbrev rgE (m:Nat):=c8 m
def Snd (k:Nat)(md:Md)(r:rQ)(out:AE×O Tk):Prop:= ∃r',RdrA r' out.2 /\ match md with
 | .E lvl=> ∀m,k <= m -> (rgE m).f_pensionref5_reader_expr r lvl=some (out.1.e,r')
 | .F=> ∀m,k <= m -> (rgE m).f_pensionref5_reader_factor r=some (out.1.e,r')
 | .C op=> ∀m,k <= m -> (rgE m).f_pensionref5_reader_call r op=some (out.1.e,r')
 | .L lvl e=> ∀m j jl je,k <= m -> k <= j -> d9 j (b0l (rgE m) lvl) (r,jl,je,e.e)=some (out.1.e,r')
def k1t:Md -> Nat | .E l=>l | .L l _=>l | .F=>0 | .C _=>0
def j0d {s:A4}(h:j67 s=true):a2e s=some true:=by
 unfold j67 at h
 split at h
 ·assumption
 ·cases h
def j4i {k:Nat}(h:k <= 1000):k <= FU:=by obtain ⟨m,hm⟩:=j0u k h;omega
def j41: ∀(k:Nat),k <= 1000 -> ∀(md:Md)(ts:O Tk)(out:AE×O Tk)(r:rQ),pX k md ts=some out -> k1t md <= 7 -> RdrA r ts -> Snd k md r out:=by
 intro k
 induction k with
 | zero=>intro _ md ts out r h;cases md<;>cases ts<;>simp [pX] at h
 | succ k ih=>
   intro hkk md ts out r h hl hr
   have ih:=ih (by omega)
   cases ts with
   | nil=>cases md<;>simp [pX] at h
   | cons t ts=>
     have hbad:=hr.bad
     have hsucc: ∀{m:Nat},k+1 <= m -> ∃m',m=m'+1 /\ k <= m':=fun {m} h=>⟨m-1,by omega,by omega⟩
     have gen: ∀lvl:Nat,lvl <= 6 -> lvl≠0 -> lvl≠3 -> ((pX k (.E (lvl+1)) (t::ts)).bind fun a=>pX k (.L lvl a.1) a.2)=some out -> Snd (k+1) (.E lvl) r out:=by
      intro lvl h6 h0 h3 h
      obtain ⟨a,ha,h⟩:=qP.1 h
      obtain ⟨r1,hr1,e1⟩:=ih _ _ _ r ha (by show lvl+1 <= 7;omega) hr
      obtain ⟨r2,hr2,e2⟩:=ih _ _ _ r1 h (by show lvl <= 7;omega) hr1
      refine ⟨r2,hr2,fun m hm=> ?_⟩
      obtain ⟨m,rfl,hm2⟩:=hsucc hm
      show a3b (rgE m) r lvl=_
      unfold a3b
      have n0:((lvl:Int)==0)=false:=by simpa using h0
      have n3:((lvl:Int)==3)=false:=by simp;omega
      have n7:((lvl:Int)==7)=false:=by simp;omega
      have e1:=e1 m hm2
      have hi:i64 ((lvl:Int)+1)=((lvl+1:Nat):Int):=by rw [a42 (by omega) (by omega)];omega
      simp only [hbad,n0,n3,n7,qM,if_false,hi,e1,qA]
      exact e2 m FU _ _ hm2 (j4i (by omega))
     cases md with
     | E lvl=>
       match lvl,hl with
       | 0,_=>
         simp only [pX] at h
         cases hi:isT t d0k with
         | false=>
           rw [hi,cond_false] at h
           obtain ⟨r1,hr1,e1⟩:=ih _ _ _ r h (by decide) hr
           refine ⟨r1,hr1,fun m hm=> ?_⟩
           obtain ⟨m,rfl,hm2⟩:=hsucc hm
           show a3b (rgE m) r 0=_
           unfold a3b
           have e1:(rgE m).f_pensionref5_reader_expr r 1=_:=e1 m hm2
           simp only [hbad,qM,if_false,i5a hr (show i45 d0k=true by kernel_rfl),hi,qA,Bool.not_false,if_true,e1,BEq.rfl]
         | true=>
           rw [hi,cond_true] at h
           have hr':=hr.cons.choose_spec.2.2.2.1
           obtain ⟨a,ha,h⟩:=qP.1 h
           obtain ⟨u1,hu1,h⟩:=qP.1 h
           obtain ⟨b,hb,h⟩:=qP.1 h
           obtain ⟨u2,hu2,h⟩:=qP.1 h
           obtain ⟨c,hc,h⟩:=qP.1 h
           obtain rfl:=qH h
           obtain ⟨r1,hr1,e1⟩:=ih _ _ _ _ ha (by decide) hr'
           obtain ⟨w1,hw1⟩:=i7f hr1 (show i45 d3p=true by kernel_rfl) hu1
           obtain ⟨r2,hr2,e2⟩:=ih _ _ _ _ hb (by decide) hw1
           obtain ⟨w2,hw2⟩:=i7f hr2 (show i45 c53=true by kernel_rfl) hu2
           obtain ⟨r3,hr3,e3⟩:=ih _ _ _ _ hc (by decide) hw2
           refine ⟨r3,hr3,fun m hm=> ?_⟩
           obtain ⟨m,rfl,hm2⟩:=hsucc hm
           show a3b (rgE m) r 0=_
           unfold a3b
           have e1:(rgE m).f_pensionref5_reader_expr (adv r) 0=_:=e1 m hm2
           have e2:(rgE m).f_pensionref5_reader_expr _ 0=_:=e2 m hm2
           have e3:(rgE m).f_pensionref5_reader_expr _ 0=_:=e3 m hm2
           simp only [hbad,qM,if_false,i5a hr (show i45 d0k=true by kernel_rfl),hi,qA,qU,if_true,e1,w1,e2,w2,e3,BEq.rfl]
           rfl
       | 1,_=>exact gen 1 (by decide) (by decide) (by decide) h
       | 2,_=>exact gen 2 (by decide) (by decide) (by decide) h
       | 3,_=>
         simp only [pX] at h
         cases hi:isT t c92 with
         | true=>rw [hi] at h;cases h
         | false=>
           rw [hi,cond_false] at h
           obtain ⟨r1,hr1,e1⟩:=ih _ _ _ r h (by decide) hr
           refine ⟨r1,hr1,fun m hm=> ?_⟩
           obtain ⟨m,rfl,hm2⟩:=hsucc hm
           show a3b (rgE m) r 3=_
           unfold a3b
           have e1:(rgE m).f_pensionref5_reader_expr r 4=_:=e1 m hm2
           simp only [hbad,qM,if_false,i5a hr (show i45 c92=true by kernel_rfl),hi,qA,if_true,e1,BEq.rfl,show ((3:Int)==0)=false from rfl]
       | 4,_=>exact gen 4 (by decide) (by decide) (by decide) h
       | 5,_=>exact gen 5 (by decide) (by decide) (by decide) h
       | 6,_=>exact gen 6 (by decide) (by decide) (by decide) h
       | 7,_=>
         simp only [pX] at h
         obtain ⟨r1,hr1,e1⟩:=ih _ _ _ r h (by decide) hr
         refine ⟨r1,hr1,fun m hm=> ?_⟩
         obtain ⟨m,rfl,hm2⟩:=hsucc hm
         show a3b (rgE m) r 7=_
         unfold a3b
         have e1:(rgE m).f_pensionref5_reader_factor r=_:=e1 m hm2
         simp only [hbad,qM,if_false,qA,if_true,e1,BEq.rfl,show ((7:Int)==0)=false from rfl,show ((7:Int)==3)=false from rfl]
     | L lvl e=>
       have hl:lvl <= 7:=hl
       have hi:i64 ((lvl:Int)+1)=((lvl+1:Nat):Int):=by rw [a42 (by omega) (by omega)];omega
       have hadv:=hr.cons.choose_spec.2.2.2
       have hav:(⟨r.l,i64 (r.at_+1),r.end_,r.bad⟩:rQ)=adv r:=by rw [hadv.2];rfl
       have havf:(⟨r.l,i64 (r.at_+1),r.end_,false⟩:rQ)=adv r:=by rw [hadv.2];unfold adv;rw [hbad]
       simp only [pX] at h
       cases hb:(j92 lvl t k0v==0) with
       | true=>
         have hb:=eq_of_beq hb
         rw [hb] at h
         obtain rfl:=qH h
         refine ⟨r,hr,fun m j jl je hm hj=> ?_⟩
         obtain ⟨j,rfl,hj2⟩:=hsucc hj
         rw [d24]
         unfold b0l
         simp only [hbad,Bool.not_false,if_true,i7n hr,qA,hb,BEq.rfl]
       | false=>
         split at h
         ·rename_i h0;rw [h0] at hb;cases hb
         ·rename_i op h0
          obtain ⟨a,ha,h⟩:=qP.1 h
          have h67:lvl <= 6:=by
           refine Classical.byContradiction fun hc=>h0 ?_
           have:lvl=7:=by omega
           subst this
           rfl
          obtain ⟨r1,hr1,e1⟩:=ih _ _ _ (adv r) ha (by show lvl+1 <= 7;omega) hadv.1
          cases h4:Nat.beq lvl 4 with
          | true=>
            rw [h4,cond_true] at h
            obtain rfl:=qH h
            refine ⟨r1,hr1,fun m j jl je hm hj=> ?_⟩
            obtain ⟨j,rfl,hj2⟩:=hsucc hj
            have e1:=e1 m (by omega)
            rw [d24]
            generalize hLP:d9 j (b0l (rgE m) (lvl:Int))=LP
            unfold b0l
            have h44:((lvl:Int)==4)=true:=by have:=qC h4;subst this;rfl
            simp only [hbad,Bool.not_false,if_true,i7n hr,qA,hb,qM,if_false,havf,hi,e1,h44]
            rfl
          | false=>
            rw [h4,cond_false] at h
            obtain ⟨r2,hr2,e2⟩:=ih _ _ _ _ h hl hr1
            refine ⟨r2,hr2,fun m j jl je hm hj=> ?_⟩
            obtain ⟨j,rfl,hj2⟩:=hsucc hj
            have e1:=e1 m (by omega)
            rw [d24]
            generalize hLP:d9 j (b0l (rgE m) (lvl:Int))=LP
            unfold b0l
            have h44:((lvl:Int)==4)=false:=by have:=Nat.ne_of_beq_eq_false h4;simp;omega
            simp only [hbad,Bool.not_false,if_true,i7n hr,qA,hb,qM,if_false,havf,hi,e1,h44]
            rw [<- hLP]
            exact e2 m j _ _ (by omega) hj2
     | F=>
       have hadv:=hr.cons.choose_spec.2.2.2
       have hav:(⟨r.l,i64 (r.at_+1),r.end_,r.bad⟩:rQ)=adv r:=by rw [hadv.2];rfl
       have havf:(⟨r.l,i64 (r.at_+1),r.end_,false⟩:rQ)=adv r:=by rw [hadv.2];unfold adv;rw [hbad]
       cases t with
       | s x=>simp [pX] at h
       | d x=>simp [pX] at h
       | n v d=>
         simp only [pX] at h
         obtain rfl:=qH h
         refine ⟨adv r,hadv.1,fun m hm=> ?_⟩
         obtain ⟨m,rfl,hm2⟩:=hsucc hm
         show a2a (rgE m) r=_
         unfold a2a
         obtain ⟨y,hy,hk,_⟩:=hr.cons
         simp only [i5c hr,kdT,qA,BEq.rfl,if_true,hy,hk.2.1,hav]
         rfl
       | w x=>
         simp only [pX] at h
         have hk2:((kdT (.w x):Int)==2)=false:=rfl
         cases hm1:isT (.w x) e00 with
         | true=>rw [hm1] at h;cases h
         | false=>
         rw [hm1,cond_false] at h
         cases hm2:isT (.w x) e02 with
         | true=>rw [hm2] at h;cases h
         | false=>
         rw [hm2,cond_false] at h
         have t1:=i5a hr (show i45 e00=true by kernel_rfl)
         have t2:=i5a hr (show i45 e02=true by kernel_rfl)
         have t3:=i5a hr (show i45 c51=true by kernel_rfl)
         rw [hm1] at t1;rw [hm2] at t2
         cases hm3:isT (.w x) c51 with
         | true=>
           rw [hm3,cond_true] at h
           rw [hm3] at t3
           obtain ⟨u1,hu1,h⟩:=qP.1 h
           split at h
           ·rename_i v r2
            cases hv:(decide (1 <= v)&&decide (v <= 45)) with
            | false=>rw [hv] at h;cases h
            | true=>
              rw [hv,cond_true] at h
              obtain ⟨u3,hu3,h⟩:=qP.1 h
              obtain rfl:=qH h
              simp at hv
              obtain ⟨w1,hw1⟩:=i7f hadv.1 (show i45 e02=true by kernel_rfl) hu1
              have w2:=i6g hw1 hv.1 hv.2
              obtain ⟨w3,hw3⟩:=i7f hw1.cons.choose_spec.2.2.2.1 (show i45 d38=true by kernel_rfl) hu3
              refine ⟨_,hw3,fun m hm=> ?_⟩
              obtain ⟨m,rfl,hm2⟩:=hsucc hm
              show a2a (rgE m) r=_
              unfold a2a
              simp only [i5c hr,hk2,qA,qM,if_false,if_true,t1,t2,t3,w1,w2,w3]
              rfl
           ·cases h
         | false=>
         rw [hm3,cond_false] at h
         rw [hm3] at t3
         have i1:=j2a hr (show i45 c1a=true by kernel_rfl)
         have i2:=j2a hr (show i45 c8l=true by kernel_rfl)
         have i3:=j2a hr (show i45 c98=true by kernel_rfl)
         cases hm4:isT (.w x) c1a with
         | true=>rw [hm4] at h;cases h
         | false=>
         rw [hm4,cond_false] at h
         rw [hm4] at i1
         cases hm5:isT (.w x) c8l with
         | true=>
           rw [hm5,cond_true] at h
           rw [hm5] at i2
           obtain ⟨r1,hr1,e1⟩:=ih _ _ _ _ h (by decide) hr
           refine ⟨r1,hr1,fun m hm=> ?_⟩
           obtain ⟨m,rfl,hm2⟩:=hsucc hm
           show a2a (rgE m) r=_
           unfold a2a
           have e1:(rgE m).f_pensionref5_reader_call r 19=_:=e1 m hm2
           simp only [i5c hr,hk2,qA,qM,if_false,if_true,t1,t2,t3,i1,i2,e1]
         | false=>
         rw [hm5,cond_false] at h
         rw [hm5] at i2
         cases hm6:isT (.w x) c98 with
         | true=>
           rw [hm6,cond_true] at h
           rw [hm6] at i3
           obtain ⟨r1,hr1,e1⟩:=ih _ _ _ _ h (by decide) hr
           refine ⟨r1,hr1,fun m hm=> ?_⟩
           obtain ⟨m,rfl,hm2⟩:=hsucc hm
           show a2a (rgE m) r=_
           unfold a2a
           have e1:(rgE m).f_pensionref5_reader_call r 20=_:=e1 m hm2
           simp only [i5c hr,hk2,qA,qM,if_false,if_true,t1,t2,t3,i1,i2,i3,e1]
         | false=>
         rw [hm6,cond_false] at h
         rw [hm6] at i3
         cases hn:j67 x with
         | false=>rw [hn] at h;cases h
         | true=>
           rw [hn,cond_true] at h
           obtain rfl:=qH h
           have n1:=j0i hr (j0d hn)
           refine ⟨_,hadv.1,fun m hm=> ?_⟩
           obtain ⟨m,rfl,hm2⟩:=hsucc hm
           show a2a (rgE m) r=_
           unfold a2a
           simp only [i5c hr,hk2,qA,qM,if_false,if_true,t1,t2,t3,i1,i2,i3,n1]
           rfl
     | C op=>
       have hadv:=hr.cons.choose_spec.2.2.2
       have hav:(⟨r.l,i64 (r.at_+1),r.end_,r.bad⟩:rQ)=adv r:=by rw [hadv.2];rfl
       simp only [pX] at h
       split at h
       ·rename_i hop
        obtain ⟨u1,h1,h⟩:=qP.1 h
        obtain ⟨a,h2,h⟩:=qP.1 h
        obtain ⟨r2,h3,h⟩:=qP.1 h
        obtain ⟨b,h4,h⟩:=qP.1 h
        obtain ⟨u2,h5,h⟩:=qP.1 h
        obtain rfl:=qH h
        obtain ⟨w1,hw1⟩:=i7f hadv.1 (show i45 e02=true by kernel_rfl) h1
        obtain ⟨q1,hq1,e1⟩:=ih _ _ _ _ h2 (by decide) hw1
        obtain ⟨w2,hw2⟩:=i7f hq1 (show i45 g2w=true by kernel_rfl) h3
        obtain ⟨q2,hq2,e2⟩:=ih _ _ _ _ h4 (by decide) hw2
        obtain ⟨w3,hw3⟩:=i7f hq2 (show i45 d38=true by kernel_rfl) h5
        refine ⟨_,hw3,fun m hm=> ?_⟩
        obtain ⟨m,rfl,hm2⟩:=hsucc hm
        show a3d (rgE m) r op=_
        unfold a3d
        have e1:(rgE m).f_pensionref5_reader_expr _ 0=_:=e1 m hm2
        have e2:(rgE m).f_pensionref5_reader_expr _ 0=_:=e2 m hm2
        simp only [hav,w1,qA,e1,hop,BEq.rfl,if_true,w2,e2,w3]
        rfl
       ·cases h
def i5x {k:Nat}(hk:k <= 1000){ts:O Tk}{out:AE×O Tk}{r:rQ}(h:pX k (.E 0) ts=some out)(hr:RdrA r ts): ∃r',RdrA r' out.2 /\ a0u r 0=some (out.1.e,r'):=by
 obtain ⟨r',h1,h2⟩:=j41 k hk _ _ _ r h (by decide) hr
 exact ⟨r',h1,h2 FU (j4i hk)⟩
def ofW (x:A4)(what:Int):A3 Int:=(a8l x).bind fun k=>(a52 x).bind fun b=>(a8f x).bind fun m=>c7 [k,b,m] (i64 (what-1))
def j3j {r:rQ}{ts:O Tk}{x:A4}{what n:Int}(h:RdrA r (.w x::ts))(hw:ofW x what=some n)(hn:0<n):a0m r what=some (n,adv r):=by
 obtain ⟨y,hy,hk,hlt,_,hi⟩:=h.cons
 have hx:y.Text=x:=hk.2
 unfold ofW at hw
 obtain ⟨k,h1,hw⟩:=qP.1 hw
 obtain ⟨b,h2,hw⟩:=qP.1 hw
 obtain ⟨m,h3,hw⟩:=qP.1 hw
 unfold a0m
 rw [i5c h,qA]
 simp only [kdT,hy,qA,hx,h1,h2,h3,hw,hi,decide_eq_true hn,gt_iff_lt,BEq.rfl,if_true]
 rfl
inductive Cl where
 | credit (k l:Int)
 | index (y:Int) (f:fQ)
 | lett (x:ByteArray) (a:AE)
 | grant (b:Int) (i p:AE)
 | reduce (b:Int) (a:AE)
abbrev Acc:=O Credit×O Index×O Let×O Grant×O Reduce
def Cl.app:Cl -> Acc -> Acc
 | .credit k l,A=>(A.1++[⟨k,l⟩],A.2)
 | .index y f,A=>(A.1,A.2.1++[⟨y,f⟩],A.2.2)
 | .lett x a,A=>(A.1,A.2.1,A.2.2.1++[⟨x,a.e⟩],A.2.2.2)
 | .grant b i p,A=>(A.1,A.2.1,A.2.2.1,A.2.2.2.1++[⟨b,i.e,p.e⟩],A.2.2.2.2)
 | .reduce b a,A=>(A.1,A.2.1,A.2.2.1,A.2.2.2.1,A.2.2.2.2++[⟨b,a.e⟩])
def Acc.len (A:Acc):Nat:=A.1.length+A.2.1.length+A.2.2.1.length+A.2.2.2.1.length+A.2.2.2.2.length
inductive ClR:List Tk -> Cl -> List Tk -> Prop
 | credit0 {x:ByteArray} {n:Int} {ts:List Tk}:ofW x 1=some n -> 0<n -> ClR (.w b91:: .w x:: .s c3s::ts) (.credit n 0) ts
 | credit {x:ByteArray} {n v:Int} {ts:List Tk}:ofW x 1=some n -> 0<n -> 1 <= v -> v <= 73049 -> ClR (.w b91:: .w x:: .w c1c:: .n ⟨v,1⟩ 2:: .s c3s::ts) (.credit n v) ts
 | index {y:Int} {f:fQ} {ts:List Tk}:1900 <= y -> y <= 2099 -> 0<f.Num -> f.Den≠0 -> ClR (.w c1q:: .n ⟨y,1⟩ 2:: .n f 2:: .s c3s::ts) (.index y f) ts
 | lett {x:ByteArray} {a:AE} {us ts:List Tk}:j67 x=true -> pX 60 (.E 0) us=some (a,.s c3s::ts) -> ClR (.w d07:: .w x:: .s e7j::us) (.lett x a) ts
 | grant {x:ByteArray} {n:Int} {a b:AE} {us vs ts:List Tk}:ofW x 2=some n -> 0<n -> pX 60 (.E 0) us=some (a,.w c60::vs) -> pX 60 (.E 0) vs=some (b,.s c3s::ts) -> ClR (.w c10:: .w x:: .w d0k::us) (.grant n a b) ts
 | reduce {x:ByteArray} {n:Int} {a:AE} {us ts:List Tk}:ofW x 2=some n -> 0<n -> pX 60 (.E 0) us=some (a,.s c3s::ts) -> ClR (.w b94:: .w x:: .w d69::us) (.reduce n a) ts
def i5f:i45 b91=true:=by kernel_rfl
def i70:i45 c1q=true:=by kernel_rfl
def j30:i45 d07=true:=by kernel_rfl
def j0y:i45 c10=true:=by kernel_rfl
def j3i:i45 b94=true:=by kernel_rfl
def j1a:i45 c1c=true:=by kernel_rfl
def i68:i45 c3s=true:=by kernel_rfl
def k14:i45 e7j=true:=by kernel_rfl
def k23:i45 d0k=true:=by kernel_rfl
def j91:i45 c60=true:=by kernel_rfl
def k2a:i45 d69=true:=by kernel_rfl
def i73:i45 d0a=true:=by kernel_rfl
def j18 (x:A4):isT (.w x) x=true:=by show (x.toList==x.toList)=true;exact BEq.rfl
def i7e (x:A4):isT (.s x) x=true:=by show (x.toList==x.toList)=true;exact BEq.rfl
def i4e {r:rQ}{t:Tk}{ts:O Tk}(h:RdrA r (t::ts)):RdrA (adv r) ts:=h.cons.choose_spec.2.2.2.1
section
variable {r:rQ} {t:Tk} {ts us:O Tk} {s:A4}
def i7d (h:RdrA r (.w s::ts))(hs:i45 s=true):d7 r s=some (true,adv r):=by rw [i5a h hs,j18];rfl
def i5g (h:RdrA r (t::ts))(hs:i45 s=true)(hn:isT t s=false):d7 r s=some (false,r):=by rw [i5a h hs,hn];rfl
def i7l (h:RdrA r (.w s::ts))(hs:i45 s=true):b9 r s=some (adv r):=j0h h hs (j18 s)
def i65 (h:RdrA r (.s s::ts))(hs:i45 s=true):b9 r s=some (adv r):=j0h h hs (i7e s)
def i5u {α:Type}{k:Nat}{l:O α}{x:α}(h:l.length <= 1000)(hk:k <= 1000):a4n k l [x]=some (l++[x]):=by
 refine p6 ?_
 have:(l.length+[x].length)*k <= 1001*1000:=Nat.mul_le_mul (by simp;omega) hk
 omega
end
def j35 {ts ts':O Tk}{c:Cl}(h:ClR ts c ts'){r:rQ}(hr:RdrA r ts)(v:Version)(A:Acc)(hA:A.len <= 1000):
  ∃r',RdrA r' ts' /\ a39 r v A.1 A.2.1 A.2.2.1 A.2.2.2.1 A.2.2.2.2=some (r',⟨v.From,v.Rounding,[],[],[],[],[]⟩,c.app A):=by
 obtain ⟨cs,is,ls,gs,rs⟩:=A
 have hA:cs.length+is.length+ls.length+gs.length+rs.length <= 1000:=hA
 unfold a39
 cases h with
 | credit0 h1 h2=>
   have a1:=i4e hr;have a2:=i4e a1;have a3:=i4e a2
   refine ⟨_,a3,?_⟩
   simp only [i7d hr i5f,qA,if_true,j3j a1 h1 h2,i5g a2 j1a (show isT (.s c3s) c1c=false by kernel_rfl),qM,if_false,joinC,a1v,i5u (show cs.length <= 1000 by omega) (show 16 <= 1000 by decide),i65 a2 i68]
   rfl
 | credit h1 h2 h3 h4=>
   have a1:=i4e hr;have a2:=i4e a1;have a3:=i4e a2;have a4:=i4e a3;have a5:=i4e a4
   refine ⟨_,a5,?_⟩
   simp only [i7d hr i5f,qA,if_true,j3j a1 h1 h2,i7d a2 j1a,i6g a3 h3 h4,joinC,a1v,i5u (show cs.length <= 1000 by omega) (show 16 <= 1000 by decide),i65 a4 i68]
   rfl
 | @index y f ts h1 h2 h3 h4=>
   have a1:=i4e hr;have a2:=i4e a1;have a3:=i4e a2;have a4:=i4e a3
   refine ⟨_,a4,?_⟩
   obtain ⟨z,hz,hk,_,_,hi⟩:=a2.cons
   have hi2:(⟨(adv (adv r)).l,i64 ((adv (adv r)).at_+1),(adv (adv r)).end_,(adv (adv r)).bad⟩:rQ)=adv (adv (adv r)):=by rw [hi];rfl
   have h4':(f.Den==0)=false:=by simpa using h4
   simp only [i5g hr i5f (show isT (.w c1q) b91=false by kernel_rfl),i7d hr i70,qA,qM,if_true,if_false,i6g a1 h1 h2,i5c a2,kdT,BEq.rfl,hz,hk.2.1,decide_eq_true h3,gt_iff_lt,hi2,joinC,a0a,h4',a1t,i5u (show is.length <= 1000 by omega) (show 24 <= 1000 by decide),i65 a3 i68]
   rfl
 | lett h1 h2=>
   have a1:=i4e hr;have a2:=i4e a1;have a3:=i4e a2
   obtain ⟨q,hq,e⟩:=i5x (by decide) h2 a3
   have a4:=i4e hq
   refine ⟨_,a4,?_⟩
   simp only [i5g hr i5f (show isT (.w d07) b91=false by kernel_rfl),i5g hr i70 (show isT (.w d07) c1q=false by kernel_rfl),i7d hr j30,qA,qM,if_true,if_false,j0i a1 (j0d h1),i65 a2 k14,e,i5u (show ls.length <= 1000 by omega) (show 88 <= 1000 by decide),i65 hq i68]
   rfl
 | grant h1 h2 h3 h4=>
   have a1:=i4e hr;have a2:=i4e a1;have a3:=i4e a2
   obtain ⟨q,hq,e⟩:=i5x (by decide) h3 a3
   have a4:=i4e hq
   obtain ⟨q2,hq2,e2⟩:=i5x (by decide) h4 a4
   have a5:=i4e hq2
   refine ⟨_,a5,?_⟩
   simp only [i5g hr i5f (show isT (.w c10) b91=false by kernel_rfl),i5g hr i70 (show isT (.w c10) c1q=false by kernel_rfl),i5g hr j30 (show isT (.w c10) d07=false by kernel_rfl),i7d hr j0y,qA,qM,if_true,if_false,j3j a1 h1 h2,i7l a2 k23,e,i7l hq j91,e2,i5u (show gs.length <= 1000 by omega) (show 152 <= 1000 by decide),i65 hq2 i68]
   rfl
 | reduce h1 h2 h3=>
   have a1:=i4e hr;have a2:=i4e a1;have a3:=i4e a2
   obtain ⟨q,hq,e⟩:=i5x (by decide) h3 a3
   have a4:=i4e hq
   refine ⟨_,a4,?_⟩
   simp only [i5g hr i5f (show isT (.w b94) b91=false by kernel_rfl),i5g hr i70 (show isT (.w b94) c1q=false by kernel_rfl),i5g hr j30 (show isT (.w b94) d07=false by kernel_rfl),i5g hr j0y (show isT (.w b94) c10=false by kernel_rfl),i7d hr j3i,qA,qM,if_true,if_false,j3j a1 h1 h2,i7l a2 k2a,e,i5u (show rs.length <= 1000 by omega) (show 80 <= 1000 by decide),i65 hq i68]
   rfl
inductive ClsR:List Tk -> List Cl -> List Tk -> Prop
 | nil {ts:List Tk}:ClsR (.s d0a::ts) [] ts
 | cons {ts us vs:List Tk} {c:Cl} {cs:List Cl}:ClR ts c us -> ClsR us cs vs -> ClsR ts (c::cs) vs
def ClR.head {ts us:O Tk}{c:Cl}(h:ClR ts c us): ∃t ts1,ts=t::ts1 /\ isT t d0a=false:=by
 cases h<;>exact ⟨_,_,rfl,by kernel_rfl⟩
def Cl.app_len (c:Cl)(A:Acc):(c.app A).len=A.len+1:=by
 cases c<;>simp only [Cl.app,Acc.len,qL,qR,qS]<;>omega
def j1w {ts ts':O Tk}{cs:O Cl}(h:ClsR ts cs ts'): ∀(r:rQ),RdrA r ts -> ∀(A:Acc)(v:Version),A.len+cs.length <= 1000 ->
  ∃r',RdrA r' ts' /\ ∀(k:Nat) j1 j2 j3 j4 j5 jv,cs.length<k -> d9 k a8i (r,j1,j2,j3,j4,j5,jv,A.1,A.2.1,A.2.2.1,A.2.2.2.1,A.2.2.2.2,v)=
   some (⟨v.From,v.Rounding,(cs.foldl (fun A c=>c.app A) A).1,(cs.foldl (fun A c=>c.app A) A).2.1,(cs.foldl (fun A c=>c.app A) A).2.2.1,(cs.foldl (fun A c=>c.app A) A).2.2.2.1,(cs.foldl (fun A c=>c.app A) A).2.2.2.2⟩,r'):=by
 induction h with
 | nil=>
   intro r hr A v _
   refine ⟨_,i4e hr,fun k j1 j2 j3 j4 j5 jv hk=> ?_⟩
   obtain ⟨k,rfl⟩: ∃m,k=m+1:=⟨k-1,by omega⟩
   rw [d24]
   unfold a8i
   simp only [hr.bad,Bool.not_false,if_true,i5a hr i73,i7e,qA,qU,qM,if_false]
   rfl
 | cons hc hcs ih=>
   rename_i ts0 us vs c cs
   intro r hr A v hA
   have hA:A.len+(cs.length+1) <= 1000:=hA
   obtain ⟨r1,hr1,e1⟩:=j35 hc hr (⟨v.From,v.Rounding,[],[],[],[],[]⟩:Version) A (by omega)
   obtain ⟨r2,hr2,e2⟩:=ih r1 hr1 (c.app A) ⟨v.From,v.Rounding,[],[],[],[],[]⟩ (by rw [Cl.app_len];omega)
   refine ⟨r2,hr2,fun k j1 j2 j3 j4 j5 jv hk=> ?_⟩
   have hk:cs.length+1<k:=hk
   obtain ⟨k,rfl⟩: ∃m,k=m+1:=⟨k-1,by omega⟩
   obtain ⟨t,ts1,rfl,ht⟩:=hc.head
   rw [d24]
   generalize hLP:d9 k a8i=LP
   unfold a8i
   simp only [hr.bad,Bool.not_false,if_true,i5g hr i73 ht,qA,e1]
   rw [<- hLP]
   exact e2 k _ _ _ _ _ _ (by omega)
def j5z:Acc:=([],[],[],[],[])
def Cls.acc (cs:O Cl):Acc:=cs.foldl (fun A c=>c.app A) j5z
def j9i (day m u:Int)(cs:O Cl):Version:=⟨day,⟨m,u⟩,(Cls.acc cs).1,(Cls.acc cs).2.1,(Cls.acc cs).2.2.1,(Cls.acc cs).2.2.2.1,(Cls.acc cs).2.2.2.2⟩
def j80:i45 c4c=true:=by kernel_rfl
def j3d:i45 e8b=true:=by kernel_rfl
def j4m:i45 c14=true:=by kernel_rfl
def j26:i45 b76=true:=by kernel_rfl
def j0o:i45 b4x=true:=by kernel_rfl
structure VerR (ts:List Tk) (v:Version) (ts':List Tk):Prop where
 ex: ∃(day m u:Int)(x:ByteArray)(cs:List Cl)(us:List Tk),ts= .w c4c:: .d day:: .s e8b:: .w c14:: .w x:: .n ⟨u,1⟩ 2:: .s c3s::us /\ ofW x 3=some m /\ 0<m /\ 1 <= u /\ u <= 100000 /\ ClsR us cs ts' /\ cs.length <= 900 /\ v=j9i day m u cs
def j1l {ts ts':O Tk}{v:Version}(h:VerR ts v ts'){r:rQ}(hr:RdrA r ts): ∃r',RdrA r' ts' /\ a2o r=some (v,r'):=by
 obtain ⟨day,m,u,x,cs,us,rfl,h1,h2,h3,h4,h5,h6,rfl⟩:=h.ex
 have a1:=i4e hr;have a2:=i4e a1;have a3:=i4e a2;have a4:=i4e a3;have a5:=i4e a4;have a6:=i4e a5;have a7:=i4e a6
 obtain ⟨r',hr',e⟩:=j1w h5 _ a7 j5z ⟨day,⟨m,u⟩,[],[],[],[],[]⟩ (by show 0+0+0+0+0+cs.length <= 1000;omega)
 refine ⟨r',hr',?_⟩
 obtain ⟨z,hz,hk,_,_,hi⟩:=a1.cons
 have hi2:(⟨(adv r).l,i64 ((adv r).at_+1),(adv r).end_,(adv r).bad⟩:rQ)=adv (adv r):=by rw [hi];rfl
 unfold a2o
 simp only [i7l hr j80,qA,i5c a1,kdT,BEq.rfl,if_true,hz,hk.2.1,hi2,joinC,a1l,i65 a2 j3d,i7l a3 j4m,j3j a4 h1 h2,i6g a5 h3 h4,i65 a6 i68]
 exact e FU _ _ _ _ _ _ (by have:=j4i (k:=1000) (by decide);omega)
inductive VersR:List Tk -> List Version -> Prop
 | nil:VersR [.s d0a] []
 | cons {ts us:List Tk} {v:Version} {vs:List Version}:VerR ts v us -> VersR us vs -> VersR ts (v::vs)
def VerR.head {ts us:O Tk}{v:Version}(h:VerR ts v us): ∃t ts1,ts=t::ts1 /\ isT t d0a=false:=by
 obtain ⟨day,m,u,x,cs,vs,rfl,_⟩:=h.ex
 exact ⟨_,_,rfl,by kernel_rfl⟩
def j21 {nm:A4}{cur:Int}: ∀(vs:O Version)(ts:O Tk)(ws:O Version)(r:rQ),VersR ts vs -> RdrA r ts -> ws.length+vs.length <= 1000 -> b00 ⟨nm,cur,ws++vs⟩=some true ->
  ∀(k:Nat) jv js b st,(b=true -> vs≠[]) -> st.Name=nm -> st.Currency=cur -> vs.length<k -> d9 k b5m (jv,js,r,ws,st,b)=some (⟨nm,cur,ws++vs⟩,0,0):=by
 intro vs
 induction vs with
 | nil=>
   intro ts ws r h hr _ hv k jv js b st hb hn hc hk
   cases h
   obtain ⟨k,rfl⟩: ∃m,k=m+1:=⟨k-1,by omega⟩
   have hb:b=false:=by cases b with | false=>rfl | true=>exact absurd rfl (hb rfl)
   subst hb
   rw [d24]
   unfold b5m
   have a1:=i4e hr
   have hend: ¬(adv r).at_<((adv r).l.length:Int):=by
    have:=a1.all
    intro hlt
    have h2:=a1.nn
    cases hd:(adv r).l.drop (adv r).at_.toNat with
    | nil=>
      have:=congrArg List.length hd
      simp at this;omega
    | cons x y=>rw [hd] at this;exact this
   simp only [List.append_nil] at hv⊢
   simp only [hr.bad,Bool.not_false,if_true,i5a hr i73,i7e,qA,qU,qM,if_false,joinC,a6p,a1.bad,decide_eq_false hend,hn,hc,hv]
 | cons v vs ih=>
   intro ts ws r h hr hl hv k jv js b st hb hn hc hk
   have hl:ws.length+(vs.length+1) <= 1000:=hl
   have hk:vs.length+1<k:=hk
   cases h
   rename_i us hvr hvs
   obtain ⟨k,rfl⟩: ∃m,k=m+1:=⟨k-1,by omega⟩
   obtain ⟨r1,hr1,e1⟩:=j1l hvr hr
   obtain ⟨t,ts1,rfl,ht⟩:=hvr.head
   have ih2:=ih us (ws++[v]) r1 hvs hr1 (by simp;omega) (by rw [qQ];exact hv) k
   rw [d24]
   generalize hLP:d9 k b5m=LP at ih2⊢
   have ih3: ∀jv js st,st.Name=nm -> st.Currency=cur -> LP (jv,js,r1,ws++[v],st,false)=some (⟨nm,cur,ws++v::vs⟩,0,0):=fun jv js st h1 h2=>by
    have:=ih2 jv js false st (fun h=>by cases h) h1 h2 (by omega)
    rw [qQ] at this
    exact this
   unfold b5m
   cases b with
   | true=>
     simp only [hr.bad,Bool.not_false,if_true,joinC,a6u,e1,qA,i5u (show ws.length <= 1000 by omega) (show 144 <= 1000 by decide)]
     exact ih3 _ _ _ hn hc
   | false=>
     simp only [hr.bad,Bool.not_false,if_true,i5g hr i73 ht,qM,if_false,joinC,a6u,e1,qA,i5u (show ws.length <= 1000 by omega) (show 144 <= 1000 by decide)]
     exact ih3 _ _ _ hn hc
def j46 {s nm:A4}{cur:Int}{toks:O Token}{us:O Tk}{vs:O Version}(hall:b25 s=some (toks,0,0))(hl:toks.length <= 8000)(hrel:y7 TkR toks (.w b76:: .w nm:: .w b4x:: .n ⟨cur,1⟩ 2:: .s e8b::us))
  (hn:j67 nm=true) (h1:1 <= cur) (h2:cur <= 999) (hvs:VersR us vs) (hne:vs≠[]) (hlen:vs.length <= 900) (hv:b00 ⟨nm,cur,vs⟩=some true):a9z s=some (⟨nm,cur,vs⟩,0,0):=by
 unfold a9z b02
 rw [hall,qA]
 have hr:RdrA ⟨toks,0,(s.size:Int),false⟩ (.w b76:: .w nm:: .w b4x:: .n ⟨cur,1⟩ 2:: .s e8b::us):=⟨rfl,Int.le_refl _,hl,hrel⟩
 have a1:=i4e hr;have a2:=i4e a1;have a3:=i4e a2;have a4:=i4e a3;have a5:=i4e a4
 simp only [show ((0:Int) != 0)=false from rfl,qM,if_false,qA,optC,i7l hr j26,j0i a1 (j0d hn),i7l a2 j0o,i6g a3 h1 h2,i65 a4 j3d]
 exact j21 vs us [] _ hvs a5 (by simp;omega) hv FU _ _ true _ (fun _=>hne) rfl rfl (by have:=j4i (k:=1000) (by decide);omega)
def j7h {a:AE}(h:a.leafOK):c05 a.e=some true:=by
 cases a with
 | lit v d=>
   show c05 ⟨1,v,d,a3j,[]⟩=some true
   unfold c05
   obtain ⟨_,s,hs⟩:=h
   simp only [show b84 1=some 0 from by kernel_rfl,qA,qS,hs,BEq.rfl,if_true,show (((0:Nat):Int) != 0)=false from rfl,qM,if_false]
 | nm s=>
   show c05 ⟨2,⟨0,0⟩,0,s,[]⟩=some true
   unfold c05
   simp only [show b84 2=some 0 from by kernel_rfl,qA,qS,h.2,BEq.rfl,Bool.and_true,if_true,show (((0:Nat):Int) != 0)=false from rfl,show ((2:Int)==1)=false from rfl,qM,if_false]
 | best k=>
   show c05 ⟨3,⟨k,1⟩,0,a3j,[]⟩=some true
   unfold c05
   have e1:decide (k >= 1)=true:=by simp;exact h.1
   have e2:decide (k <= 45)=true:=by simp;exact h.2
   simp only [show b84 3=some 0 from by kernel_rfl,qA,qS,BEq.rfl,if_true,show (((0:Nat):Int) != 0)=false from rfl,show ((3:Int)==1)=false from rfl,show ((3:Int)==2)=false from rfl,qM,if_false,e1,e2]
 | bin op x y=>
   show c05 ⟨op,⟨0,0⟩,0,a3j,[x.e,y.e]⟩=some true
   unfold c05
   have o1:(op==1)=false:=by have:=h.1;simp;omega
   have o2:(op==2)=false:=by have:=h.1;simp;omega
   have o3:(op==3)=false:=by have:=h.1;simp;omega
   simp only [j37 h.1 h.2,qA,qR,qS,BEq.rfl,Bool.and_true,if_true,o1,o2,o3,qM,if_false]
   rfl
 | ite x y z=>
   show c05 ⟨21,⟨0,0⟩,0,a3j,[x.e,y.e,z.e]⟩=some true
   unfold c05
   simp only [show b84 21=some 3 from by kernel_rfl,qA,qR,qS,BEq.rfl,Bool.and_true,if_true,show ((21:Int)==1)=false from rfl,show ((21:Int)==2)=false from rfl,show ((21:Int)==3)=false from rfl,qM,if_false]
   rfl
def j29 (R:Ring_syntax_form)(L:O AE)(hR: ∀a∈L,R.f_syntax_form_1 a.e=some false)(hl:L.length <= 3):a1m R (L.map AE.e)=some (-1):=by
 unfold a1m
 refine i3z (fun i=>(i:Int)) L.length ?_ ?_ (by have:=i4b;omega)
 ·intro i hi r
  unfold a6i
  have hg:c7 (L.map AE.e) (i:Int)=some (L[i].e):=by rw [i4a (by simpa using hi)];simp
  simp only [List.length_map,i6p hi,if_true,hg,qA,hR _ (qV hi),i4v (show i <= 1000000 by omega),qM,if_false]
 ·intro r
  unfold a6i
  simp only [List.length_map,i4y,qM,if_false]
def j7l: ∀(a:AE),a.ok -> ∀m,4*a.dep <= m -> (e6 m).f_syntax_form a.e=some true:=by
 refine AE.ind fun a ih hok m hm=> ?_
 obtain ⟨m,rfl⟩: ∃k,m=k+1+1+1+1:=⟨m-4,by have:=i5s a;omega⟩
 have hR: ∀b∈a.args,(e6 (m+1)).f_syntax_form_1 b.e=some false:=fun b hb=>by
  show c0q (e6 m) b.e=some false
  unfold c0q
  rw [ih b hb (hok.arg hb) m (by have:=i55 hb;omega)]
  rfl
 have hloop:=j29 (e6 (m+1)) a.args hR (i5z a)
 have hC:(e6 (m+1+1+1)).f_slices_ContainsFunc_of_api_Expr a.e.Args=some false:=by
  show a0y (e6 (m+1+1)) a.e.Args=some false
  unfold a0y
  show (a1m (e6 (m+1)) a.e.Args).bind _=_
  rw [i7y,hloop]
  rfl
 show b60 (e6 (m+1+1+1)) a.e=some true
 unfold b60
 rw [j7h hok.leaf,qA]
 simp only [if_true,hC,qA,Bool.not_false]
def i8r {a:AE}(h:a.ok)(hd:a.dep <= 10)(hs:a.sz <= 60):a0g a.e=some true:=by
 unfold a0g c61 c76 c4h
 have hf:=i4b
 rw [j4p a (by omega) FU (by omega),j7w a (by omega) FU (by omega),j3e a h FU (by omega),qA]
 have e1:decide ((a.dep:Int) <= 10)=true:=by simp;omega
 have e2:decide ((a.sz:Int) <= 60)=true:=by simp;omega
 simp only [e1,e2,if_true,qA]
def i5t {a:AE}(h:a.ok)(hd:a.dep <= 10)(hs:a.sz <= 60):a1k a.e=some true:=by
 unfold a1k d57 e0h d9s
 have hf:=i4b
 rw [j2u a (by omega) FU (by omega),j42 a (by omega) FU (by omega),j7l a h FU (by omega),qA]
 have e1:decide ((a.dep:Int) <= 10)=true:=by simp;omega
 have e2:decide ((a.sz:Int) <= 60)=true:=by simp;omega
 simp only [e1,e2,if_true,qA]
def okD (o:A3 (Int×Bool)):A3 Int:=o.bind fun x=>if x.2 then some x.1 else none
def j57 {o:A3 (Int×Bool)}{d:Int}(h:okD o=some d):o=some (d,true):=by
 cases o with
 | none=>cases h
 | some x=>
   obtain ⟨y,b⟩:=x
   cases b with
   | false=>cases h
   | true=>injection h with h;subst h;rfl
def AE.inf (env:O iQ):AE -> A3 Int
 | .lit _ d=>some d
 | .best _=>some 4
 | .nm s=>okD (b6c s env)
 | .bin op a b=>(a.inf env).bind fun x=>(b.inf env).bind fun y=>okD (b9i op [x,y])
 | .ite a b c=>(a.inf env).bind fun x=>(b.inf env).bind fun y=>(c.inf env).bind fun z=>okD (b9i 21 [x,y,z])
def i8d (R:Ring_typing_infer)(env:O iQ)(e:Expr)(L:O AE)(ds:O Int)(he:e.Args=L.map AE.e)(hl:L.length <= 3)(hds:ds.length=L.length){d:Int}(ht:okD (b9i e.Op ds)=some d)
  (hR: ∀i (h:i<L.length),R.f_typing_infer L[i].e env=some (ds[i]'(by omega),0)):d9 FU (i4w R e env) (e,[],0)=some (d,0):=by
 refine i3z (fun i=>(e,ds.take i,(i:Int))) L.length ?_ ?_ (by have:=i4b;omega)
 ·intro i hi r
  unfold i4w
  have hlen:e.Args.length=L.length:=by rw [he];simp
  have hg:c7 e.Args (i:Int)=some (L[i].e):=by rw [i4a (by omega)];simp [he]
  simp only [hlen,i6p hi,if_true,hg,qA,hR i hi,show ((0:Int) != 0)=false from rfl,qM,if_false,i5u (show (ds.take i).length <= 1000 by simp;omega) (show 8 <= 1000 by decide),i4v (show i <= 1000000 by omega)]
  rw [List.take_succ_eq_append_getElem (by omega)]
 ·intro r
  unfold i4w
  have hlen:e.Args.length=L.length:=by rw [he];simp
  simp only [hlen,i4y,qM,if_false]
  rw [show ds.take L.length=ds by rw [<- hds,List.take_length],j57 ht]
  rfl
def j3w (env:O iQ): ∀(a:AE),a.ok -> ∀d,a.inf env=some d -> ∀m,a.dep <= m -> (a0v m).f_typing_infer a.e env=some (d,0):=by
 refine AE.ind fun a ih hok d hd m hm=> ?_
 obtain ⟨m,rfl⟩: ∃k,m=k+1:=⟨m-1,by have:=i5s a;omega⟩
 have hR: ∀b∈a.args,∀d,b.inf env=some d -> (a0v m).f_typing_infer b.e env=some (d,0):=fun b hb d hd=>ih b hb (hok.arg hb) d hd m (by have:=i55 hb;omega)
 show b4g (a0v m) a.e env=some (d,0)
 have hlf:=hok.leaf
 cases a with
 | lit v d2=>injection hd with hd;subst hd;rfl
 | nm s=>
   have hd:okD (b6c s env)=some d:=hd
   show b4g (a0v m) ⟨2,⟨0,0⟩,0,s,[]⟩ env=some (d,0)
   unfold b4g
   simp only [show ((2:Int)==1)=false from rfl,show ((2:Int)==3)=false from rfl,qM,if_false,BEq.rfl,if_true,j57 hd,qA,qU]
 | best k=>injection hd with hd;subst hd;rfl
 | bin op x y=>
   obtain ⟨dx,hx,hd⟩:=qP.1 hd
   obtain ⟨dy,hy,hd⟩:=qP.1 hd
   show b4g (a0v m) ⟨op,⟨0,0⟩,0,a3j,[x.e,y.e]⟩ env=some (d,0)
   unfold b4g
   have o1:(op==1)=false:=by have:=hlf.1;simp;omega
   have o2:(op==2)=false:=by have:=hlf.1;simp;omega
   have o3:(op==3)=false:=by have:=hlf.1;simp;omega
   simp only [o1,o2,o3,qM,if_false]
   refine i8d _ env _ [x,y] [dx,dy] rfl (by simp) rfl hd fun i hi=> ?_
   have hi:i<2:=hi
   match i,hi with
   | 0,_=>exact hR x (by simp [AE.args]) dx hx
   | 1,_=>exact hR y (by simp [AE.args]) dy hy
 | ite x y z=>
   obtain ⟨dx,hx,hd⟩:=qP.1 hd
   obtain ⟨dy,hy,hd⟩:=qP.1 hd
   obtain ⟨dz,hz,hd⟩:=qP.1 hd
   show b4g (a0v m) ⟨21,⟨0,0⟩,0,a3j,[x.e,y.e,z.e]⟩ env=some (d,0)
   unfold b4g
   simp only [show ((21:Int)==1)=false from rfl,show ((21:Int)==2)=false from rfl,show ((21:Int)==3)=false from rfl,qM,if_false]
   refine i8d _ env _ [x,y,z] [dx,dy,dz] rfl (by simp) rfl hd fun i hi=> ?_
   have hi:i<3:=hi
   match i,hi with
   | 0,_=>exact hR x (by simp [AE.args]) dx hx
   | 1,_=>exact hR y (by simp [AE.args]) dy hy
   | 2,_=>exact hR z (by simp [AE.args]) dz hz
def j01 (env:O iQ):Prop:=env.length <= 1000 /\ ∀b∈env,1 <= b.Dim /\ b.Dim <= 4
def j06 {env:O iQ}(h:j01 env):a0i env=some false:=by
 unfold a0i a19
 have:d9 FU (a50 env) ((0:Nat):Int)=some (-1):=by
  refine i3z (fun i=>(i:Int)) env.length ?_ ?_ (by have:=i4b;have:=h.1;omega)
  ·intro i hi r
   unfold a50 b42
   have hb:=h.2 _ (qV hi)
   have e1:decide (env[i].Dim<1)=false:=by simp;omega
   have e2:decide (env[i].Dim>4)=false:=by simp;omega
   have:=h.1
   simp only [i6p hi,if_true,i4a hi,qA,e1,e2,qM,if_false,i4v (show i <= 1000000 by omega)]
  ·intro r
   unfold a50
   simp only [i4y,qM,if_false]
 rw [show (0:Int)=((0:Nat):Int) from rfl,this]
 rfl
def i8s {env:O iQ}(henv:j01 env){a:AE}(h:a.ok)(hd:a.dep <= 10)(hs:a.sz <= 60){d:Int}(hi:a.inf env=some d):b4y a.e env=some (d,0):=by
 unfold b4y
 have hf:=i4b
 simp only [i5t h hd hs,qA,qU,qM,if_false,j06 henv,show d5q a.e env=some (d,0) from j3w env a h d hi FU (by omega)]
def k1b {env:O iQ}(henv:j01 env){a:AE}(h:a.ok)(hd:a.dep <= 10)(hs:a.sz <= 60){d:Int}(hi:a.inf env=some d):b8w a.e env d=some 0:=by
 unfold b8w
 simp only [i8s henv h hd hs hi,qA,show ((0:Int) != 0)=false from rfl,qM,if_false,bne_self_eq_false]
def okE (o:A3 (Int×Int)):A3 Int:=o.bind fun x=>if x.2=0 then some x.1 else none
def l85 {o:A3 (Int×Int)}{d:Int}(h:okE o=some d):o=some (d,0):=by
 cases o with
 | none=>cases h
 | some x=>
   obtain ⟨y,b⟩:=x
   have h:(if b=0 then some y else none)=some d:=h
   split at h
   ·rename_i hb;cases h;rw [hb]
   ·cases h
def nam5 (s:A4)(env:O iQ):A3 Int:=okE (h4p ⟨fun _ _=>none⟩ ⟨2,⟨0,0⟩,0,s,[]⟩ env)
def l1_R (R R':Ring_pensionref5_infer)(env:O iQ):h6z R env=h6z R' env:=rfl
def l6l {s:A4}{env:O iQ}{d:Int}(h:nam5 s env=some d)(R:Ring_pensionref5_infer):h4p R ⟨2,⟨0,0⟩,0,s,[]⟩ env=some (d,0):=by
 have h:=l85 h
 unfold h4p at h⊢
 simp only [show ((2:Int)==1)=false from rfl,show ((2:Int)==3)=false from rfl,qM,if_false,BEq.rfl,if_true] at h⊢
 rw [l1_R R ⟨fun _ _=>none⟩]
 exact h
def okZ (o:A3 Int):A3 Int:=o.bind fun x=>if (x==0)=true then none else some x
def l9y {o:A3 Int}{d:Int}(h:okZ o=some d):o=some d /\ (d==0)=false:=by
 cases o with
 | none=>cases h
 | some x=>
   have h:(if (x==0)=true then none else some x)=some d:=h
   split at h
   ·cases h
   ·rename_i hn;cases h;exact ⟨rfl,by simpa using hn⟩
def m03 (op:Int)(ds:O Int):A3 Int:=okZ (h4i op ds)
def i30 {op:Int}{ds:O Int}{d:Int}(h:m03 op ds=some d):h4i op ds=some d /\ (d==0)=false:=l9y h
def AE.inf5 (env:O iQ):AE -> A3 Int
 | .lit _ d=>some d
 | .best _=>some 4
 | .nm s=>nam5 s env
 | .bin op a b=>(a.inf5 env).bind fun x=>(b.inf5 env).bind fun y=>m03 op [x,y]
 | .ite a b c=>(a.inf5 env).bind fun x=>(b.inf5 env).bind fun y=>(c.inf5 env).bind fun z=>m03 21 [x,y,z]
def h9n (R:Ring_pensionref5_infer)(env:O iQ)(e:Expr)(L:O AE)(ds:O Int)(he:e.Args=L.map AE.e)(hl:L.length <= 3)(hds:ds.length=L.length){d:Int}(ht:m03 e.Op ds=some d)
  (hR: ∀i (h:i<L.length),R.f_pensionref5_infer L[i].e env=some (ds[i]'(by omega),0)):d9 FU (h6h R env) (e,[],0)=some (d,0):=by
 refine i3z (fun i=>(e,ds.take i,(i:Int))) L.length ?_ ?_ (by have:=i4b;omega)
 ·intro i hi r
  unfold h6h
  have hlen:e.Args.length=L.length:=by rw [he];simp
  have hg:c7 e.Args (i:Int)=some (L[i].e):=by rw [i4a (by omega)];simp [he]
  simp only [hlen,i6p hi,if_true,hg,qA,hR i hi,show ((0:Int) != 0)=false from rfl,qM,if_false,i5u (show (ds.take i).length <= 1000 by simp;omega) (show 8 <= 1000 by decide),i4v (show i <= 1000000 by omega)]
  rw [List.take_succ_eq_append_getElem (by omega)]
 ·intro r
  unfold h6h
  have hlen:e.Args.length=L.length:=by rw [he];simp
  simp only [hlen,i4y,qM,if_false]
  rw [show ds.take L.length=ds by rw [<- hds,List.take_length],(i30 ht).1,qA,if_neg (by rw [(i30 ht).2];exact Bool.false_ne_true)]
def i2r (env:O iQ): ∀(a:AE),a.ok -> ∀d,a.inf5 env=some d -> ∀m,a.dep <= m -> (h4j m).f_pensionref5_infer a.e env=some (d,0):=by
 refine AE.ind fun a ih hok d hd m hm=> ?_
 obtain ⟨m,rfl⟩: ∃k,m=k+1:=⟨m-1,by have:=i5s a;omega⟩
 have hR: ∀b∈a.args,∀d,b.inf5 env=some d -> (h4j m).f_pensionref5_infer b.e env=some (d,0):=fun b hb d hd=>ih b hb (hok.arg hb) d hd m (by have:=i55 hb;omega)
 show h4p (h4j m) a.e env=some (d,0)
 have hlf:=hok.leaf
 cases a with
 | lit v d2=>injection hd with hd;subst hd;rfl
 | nm s=>exact l6l hd _
 | best k=>injection hd with hd;subst hd;rfl
 | bin op x y=>
   obtain ⟨dx,hx,hd⟩:=qP.1 hd
   obtain ⟨dy,hy,hd⟩:=qP.1 hd
   show h4p (h4j m) ⟨op,⟨0,0⟩,0,a3j,[x.e,y.e]⟩ env=some (d,0)
   unfold h4p
   have o1:(op==1)=false:=by have:=hlf.1;simp;omega
   have o2:(op==2)=false:=by have:=hlf.1;simp;omega
   have o3:(op==3)=false:=by have:=hlf.1;simp;omega
   simp only [o1,o2,o3,qM,if_false]
   refine h9n _ env _ [x,y] [dx,dy] rfl (by simp) rfl hd fun i hi=> ?_
   have hi:i<2:=hi
   match i,hi with
   | 0,_=>exact hR x (by simp [AE.args]) dx hx
   | 1,_=>exact hR y (by simp [AE.args]) dy hy
 | ite x y z=>
   obtain ⟨dx,hx,hd⟩:=qP.1 hd
   obtain ⟨dy,hy,hd⟩:=qP.1 hd
   obtain ⟨dz,hz,hd⟩:=qP.1 hd
   show h4p (h4j m) ⟨21,⟨0,0⟩,0,a3j,[x.e,y.e,z.e]⟩ env=some (d,0)
   unfold h4p
   simp only [show ((21:Int)==1)=false from rfl,show ((21:Int)==2)=false from rfl,show ((21:Int)==3)=false from rfl,qM,if_false]
   refine h9n _ env _ [x,y,z] [dx,dy,dz] rfl (by simp) rfl hd fun i hi=> ?_
   have hi:i<3:=hi
   match i,hi with
   | 0,_=>exact hR x (by simp [AE.args]) dx hx
   | 1,_=>exact hR y (by simp [AE.args]) dy hy
   | 2,_=>exact hR z (by simp [AE.args]) dz hz
def h9g {env:O iQ}(henv:j01 env){a:AE}(h:a.ok)(hd:a.dep <= 10)(hs:a.sz <= 60){d:Int}(hi:a.inf5 env=some d):h5x a.e env=some (d,0):=by
 unfold h5x
 have hf:=i4b
 simp only [i8r h hd hs,qA,qU,qM,if_false]
 refine i3z (fun i=>(a.e,(i:Int))) env.length ?_ ?_ (by have:=henv.1;omega)
 ·intro i hi r
  unfold h7d
  have hb:=henv.2 _ (qV hi)
  have e1:decide (env[i].Dim<1)=false:=by simp;omega
  have e2:decide (env[i].Dim>4)=false:=by simp;omega
  have:=henv.1
  simp only [i6p hi,if_true,i4a hi,qA,e1,e2,qM,if_false,i4v (show i <= 1000000 by omega)]
 ·intro r
  unfold h7d
  simp only [i4y,qM,if_false,show h8e a.e env=some (d,0) from i2r env a h d hi FU (by omega),qA]
def i3q {env:O iQ}(henv:j01 env){a:AE}(h:a.ok)(hd:a.dep <= 10)(hs:a.sz <= 60){d:Int}(hi:a.inf5 env=some d):h5o a.e env d=some 0:=by
 unfold h5o
 simp only [h9g henv h hd hs hi,qA,BEq.rfl,if_true,bne_self_eq_false,qM,if_false]
def nz (o:A3 A4):Bool:=match o with | some w=> !(w.toList==a3j.toList) | none=>false
def j0j {o:A3 A4}(h:nz o=true): ∃w,o=some w /\ (w.toList==a3j.toList)=false:=by
 cases o with
 | none=>cases h
 | some w=>exact ⟨w,rfl,by simpa [nz] using h⟩
def j5e:O syntax_entry:=(c1i).getD []
def j09:O syntax_entry:=(b2d).getD []
def j0t:O syntax_entry:=(c0l).getD []
def j4a:c1i=some j5e:=rfl
def i7k:b2d=some j09:=rfl
def j4c:c0l=some j0t:=rfl
structure CrOK (c:Credit):Prop where
 w5:nz (a3t c.Kind 1)=true
 wS:nz (a4u j5e c.Kind)=true
 l0:0 <= c.Limit
 l1:c.Limit <= 73049
structure IxOK (x:Index):Prop where
 y0:1900 <= x.Year
 y1:x.Year <= 2099
 n:1 <= x.Factor.Num
 f5: ∃s,a1g x.Factor 2=some (s,true)
 fS: ∃s,a4y x.Factor 2=some (s,true)
structure ExOK (env:List iQ) (e:Expr) (d:Int):Prop where
 ex: ∃a:AE,e=a.e /\ a.ok /\ a.dep <= 10 /\ a.sz <= 60 /\ a.inf env=some d /\ a.inf5 env=some d
structure BnOK (b:Int):Prop where
 w5:nz (a3t b 2)=true
 wS:nz (a4u j09 b)=true
structure VOK (env:List iQ) (v:Version):Prop where
 f0:0 <= v.From
 f1:v.From <= 73048
 m0:1 <= v.Rounding.Mode
 m1:v.Rounding.Mode <= 4
 mS:nz (a4u j0t v.Rounding.Mode)=true
 u0:1 <= v.Rounding.Unit
 u1:v.Rounding.Unit <= 100000
 cl:v.Credits.length <= 6
 sl:v.Series.length <= 20
 ll:v.Lets.length <= 10
 gl:v.Grants.length <= 5
 rl:v.Reduces.length <= 5
 cr: ∀c∈v.Credits,CrOK c
 crp:v.Credits.Pairwise fun a b=>a.Kind≠b.Kind
 ix: ∀x∈v.Series,IxOK x
 ixp:v.Series.Pairwise fun a b=>a.Year<b.Year
 lt: ∀x∈v.Lets,a2e x.Name=some true /\ b0e x.Name=some true /\ a0g x.Body=some true /\ a1k x.Body=some true
 ls:b9n v.Lets=some (env,0)
 l5:h6o v.Lets=some (env,0)
 la: ∀x∈v.Lets,∃a:AE,x.Body=a.e /\ a.ok /\ a.dep <= 10
 en:j01 env
 gr: ∀g∈v.Grants,BnOK g.Benefit /\ ExOK env g.If 1 /\ ExOK env g.Pay 4
 grp:v.Grants.Pairwise fun a b=>a.Benefit≠b.Benefit
 rd: ∀r∈v.Reduces,BnOK r.Benefit /\ ExOK env r.By 2
 rdp:v.Reduces.Pairwise fun a b=>a.Benefit≠b.Benefit
def ExOK.v5 {env:O iQ}{e:Expr}{d:Int}(h:ExOK env e d):a0g e=some true:=by
 obtain ⟨a,rfl,h1,h2,h3,_⟩:=h.ex
 exact i8r h1 h2 h3
def ExOK.vS {env:O iQ}{e:Expr}{d:Int}(h:ExOK env e d):a1k e=some true:=by
 obtain ⟨a,rfl,h1,h2,h3,_⟩:=h.ex
 exact i5t h1 h2 h3
def ExOK.of {env:O iQ}(hen:j01 env){e:Expr}{d:Int}(h:ExOK env e d):b8w e env d=some 0:=by
 obtain ⟨a,rfl,h1,h2,h3,h4,_⟩:=h.ex
 exact k1b hen h1 h2 h3 h4
def ExOK.needs {env:O iQ}(hen:j01 env){e:Expr}{d:Int}(h:ExOK env e d):h5o e env d=some 0:=by
 obtain ⟨a,rfl,h1,h2,h3,_,h4⟩:=h.ex
 exact i3q hen h1 h2 h3 h4
section
variable {env:O iQ} {v:Version}
def j4e (h:VOK env v):a3n v=some true:=by
 have hf:=i4b
 have l5:d9 FU a4x (v,0)=some true:=by
  refine i3z (fun i=>(v,(i:Int))) v.Reduces.length ?_ ?_ (by have:=h.rl;omega)
  ·intro i hi r
   have hc:=h.rd _ (qV hi)
   obtain ⟨w,h1,h2⟩:=j0j hc.1.w5
   have:=h.rl
   unfold a4x
   simp only [i6p hi,if_true,i4a hi,qA,h1,h2,hc.2.v5,qU,qM,if_false,i4v (show i <= 1000000 by omega)]
  ·intro r
   unfold a4x
   simp only [i4y,qM,if_false]
 have l4:d9 FU a4o (v,0)=some true:=by
  refine i3z (fun i=>(v,(i:Int))) v.Grants.length ?_ ?_ (by have:=h.gl;omega)
  ·intro i hi r
   have hc:=h.gr _ (qV hi)
   obtain ⟨w,h1,h2⟩:=j0j hc.1.w5
   have:=h.gl
   unfold a4o
   simp only [i6p hi,if_true,i4a hi,qA,h1,h2,hc.2.1.v5,hc.2.2.v5,qU,qM,if_false,i4v (show i <= 1000000 by omega)]
  ·intro r
   unfold a4o
   simp only [i4y,qM,if_false]
   exact l5
 have l3:d9 FU a56 (v,0)=some true:=by
  refine i3z (fun i=>(v,(i:Int))) v.Lets.length ?_ ?_ (by have:=h.ll;omega)
  ·intro i hi r
   have hc:=h.lt _ (qV hi)
   have:=h.ll
   unfold a56
   simp only [i6p hi,if_true,i4a hi,qA,hc.1,hc.2.2.1,qU,qM,if_false,i4v (show i <= 1000000 by omega)]
  ·intro r
   unfold a56
   simp only [i4y,qM,if_false]
   exact l4
 have l2:d9 FU a4z (v,0)=some true:=by
  refine i3z (fun i=>(v,(i:Int))) v.Series.length ?_ ?_ (by have:=h.sl;omega)
  ·intro i hi r
   have hc:=h.ix _ (qV hi)
   obtain ⟨s,hs⟩:=hc.f5
   have:=h.sl
   have e1:decide (v.Series[i].Year<1900)=false:=by have:=hc.y0;simp;omega
   have e2:decide (v.Series[i].Year>2099)=false:=by have:=hc.y1;simp;omega
   have e3:decide (v.Series[i].Factor.Num<1)=false:=by have:=hc.n;simp;omega
   unfold a4z
   simp only [i6p hi,if_true,i4a hi,qA,hs,e1,e2,e3,qU,qM,if_false,i4v (show i <= 1000000 by omega)]
  ·intro r
   unfold a4z
   simp only [i4y,qM,if_false]
   exact l3
 have l1:d9 FU a4r (v,0)=some true:=by
  refine i3z (fun i=>(v,(i:Int))) v.Credits.length ?_ ?_ (by have:=h.cl;omega)
  ·intro i hi r
   have hc:=h.cr _ (qV hi)
   obtain ⟨w,h1,h2⟩:=j0j hc.w5
   have:=h.cl
   have e1:decide (v.Credits[i].Limit<0)=false:=by have:=hc.l0;simp;omega
   have e2:decide (v.Credits[i].Limit>73049)=false:=by have:=hc.l1;simp;omega
   unfold a4r
   simp only [i6p hi,if_true,i4a hi,qA,h1,h2,e1,e2,qU,qM,if_false,i4v (show i <= 1000000 by omega)]
  ·intro r
   unfold a4r
   simp only [i4y,qM,if_false]
   exact l2
 unfold a3n a6n a3c
 have d1:decide (v.From >= 0)=true:=by have:=h.f0;simp;omega
 have d2:decide (v.From <= 73048)=true:=by have:=h.f1;simp;omega
 have d3:decide (v.Rounding.Mode >= 1)=true:=by have:=h.m0;simp;omega
 have d4:decide (v.Rounding.Mode <= 4)=true:=by have:=h.m1;simp;omega
 have d5:decide (v.Rounding.Unit >= 1)=true:=by have:=h.u0;simp;omega
 have d6:decide (v.Rounding.Unit <= 100000)=true:=by have:=h.u1;simp;omega
 have n1:decide ((v.Credits.length:Int)>6)=false:=by have:=h.cl;simp;omega
 have n2:decide ((v.Series.length:Int)>20)=false:=by have:=h.sl;simp;omega
 have n3:decide ((v.Lets.length:Int)>10)=false:=by have:=h.ll;simp;omega
 have n4:decide ((v.Grants.length:Int)>5)=false:=by have:=h.gl;simp;omega
 have n5:decide ((v.Reduces.length:Int)>5)=false:=by have:=h.rl;simp;omega
 simp only [d1,d2,d3,d4,d5,d6,n1,n2,n3,n4,n5,if_true,qA,qU,qM,if_false]
 exact l1
def j40 (h:VOK env v):a7q v=some true:=by
 have hf:=i4b
 have l5:joinC b3e v=some true:=by
  unfold joinC b3e
  refine i3z (fun i=>(i:Int)) v.Reduces.length ?_ ?_ (by have:=h.rl;omega)
  ·intro i hi r
   have hc:=h.rd _ (qV hi)
   obtain ⟨w,h1,h2⟩:=j0j hc.1.wS
   have:=h.rl
   unfold a8y
   simp only [i6p hi,if_true,i4a hi,qA,i7k,h1,h2,hc.2.vS,qU,qM,if_false,i4v (show i <= 1000000 by omega)]
  ·intro r
   unfold a8y
   simp only [i4y,qM,if_false]
 have l4:joinC b3b v=some true:=by
  unfold joinC b3b
  refine i3z (fun i=>(v,(i:Int))) v.Grants.length ?_ ?_ (by have:=h.gl;omega)
  ·intro i hi r
   have hc:=h.gr _ (qV hi)
   obtain ⟨w,h1,h2⟩:=j0j hc.1.wS
   have:=h.gl
   unfold a8t
   simp only [i6p hi,if_true,i4a hi,qA,i7k,h1,h2,hc.2.1.vS,hc.2.2.vS,qU,qM,if_false,i4v (show i <= 1000000 by omega)]
  ·intro r
   unfold a8t
   simp only [i4y,qM,if_false]
   exact l5
 have l3:joinC b3i v=some true:=by
  unfold joinC b3i
  refine i3z (fun i=>(v,(i:Int))) v.Lets.length ?_ ?_ (by have:=h.ll;omega)
  ·intro i hi r
   have hc:=h.lt _ (qV hi)
   have:=h.ll
   unfold a8w
   simp only [i6p hi,if_true,i4a hi,qA,hc.2.1,hc.2.2.2,qU,qM,if_false,i4v (show i <= 1000000 by omega)]
  ·intro r
   unfold a8w
   simp only [i4y,qM,if_false]
   exact l4
 have l2:joinC b39 v=some true:=by
  unfold joinC b39
  refine i3z (fun i=>(v,(i:Int))) v.Series.length ?_ ?_ (by have:=h.sl;omega)
  ·intro i hi r
   have hc:=h.ix _ (qV hi)
   obtain ⟨s,hs⟩:=hc.fS
   have:=h.sl
   have e1:decide (v.Series[i].Year >= 1900)=true:=by have:=hc.y0;simp;omega
   have e2:decide (v.Series[i].Year <= 2099)=true:=by have:=hc.y1;simp;omega
   have e3:decide (v.Series[i].Factor.Num>0)=true:=by have:=hc.n;simp;omega
   unfold a8v b07 b59
   simp only [i6p hi,if_true,i4a hi,qA,hs,e1,e2,e3,qU,qM,if_false,i4v (show i <= 1000000 by omega)]
  ·intro r
   unfold a8v
   simp only [i4y,qM,if_false]
   exact l3
 have l1:d9 FU (a8u v) (v,0)=some true:=by
  refine i3z (fun i=>(v,(i:Int))) v.Credits.length ?_ ?_ (by have:=h.cl;omega)
  ·intro i hi r
   have hc:=h.cr _ (qV hi)
   obtain ⟨w,h1,h2⟩:=j0j hc.wS
   have:=h.cl
   have e1:decide (v.Credits[i].Limit<0)=false:=by have:=hc.l0;simp;omega
   have e2:decide (v.Credits[i].Limit>73049)=false:=by have:=hc.l1;simp;omega
   unfold a8u
   simp only [i6p hi,if_true,i4a hi,qA,j4a,h1,h2,e1,e2,qU,qM,if_false,i4v (show i <= 1000000 by omega)]
  ·intro r
   unfold a8u
   simp only [i4y,qM,if_false]
   exact l2
 unfold a7q m7
 have d1:decide (v.From >= 0)=true:=by have:=h.f0;simp;omega
 have d2:decide (v.From <= 73048)=true:=by have:=h.f1;simp;omega
 have d5:decide (v.Rounding.Unit<1)=false:=by have:=h.u0;simp;omega
 have d6:decide (v.Rounding.Unit>100000)=false:=by have:=h.u1;simp;omega
 have n1:decide ((v.Credits.length:Int)>6)=false:=by have:=h.cl;simp;omega
 have n2:decide ((v.Series.length:Int)>20)=false:=by have:=h.sl;simp;omega
 have n3:decide ((v.Lets.length:Int)>10)=false:=by have:=h.ll;simp;omega
 have n4:decide ((v.Grants.length:Int)>5)=false:=by have:=h.gl;simp;omega
 have n5:decide ((v.Reduces.length:Int)>5)=false:=by have:=h.rl;simp;omega
 obtain ⟨w,h1,h2⟩:=j0j h.mS
 simp only [d1,d2,d5,d6,j4c,h1,h2,if_true,qA,qU,qM,if_false]
 unfold joinC a5f
 simp only [n1,n2,n3,n4,n5,if_true,qA,qU,qM,if_false]
 exact l1
def i7o {l:O Credit}{c:Credit}(hl:l.length <= 1000)(h: ∀x∈l,x.Kind≠c.Kind):a0e l c=some false:=by
 unfold a0e a13
 have:d9 FU (a4i l c) ((0:Nat):Int)=some (-1):=by
  refine i3z (fun i=>(i:Int)) l.length ?_ ?_ (by have:=i4b;omega)
  ·intro i hi r
   have hb:=h _ (qV hi)
   have e1:(l[i].Kind==c.Kind)=false:=by simpa using hb
   unfold a4i b5a
   simp only [i6p hi,if_true,i4a hi,qA,e1,qM,if_false,i4v (show i <= 1000000 by omega)]
  ·intro r
   unfold a4i
   simp only [i4y,qM,if_false]
 rw [show (0:Int)=((0:Nat):Int) from rfl,this]
 rfl
def i7s {l:O Grant}{c:Grant}(hl:l.length <= 1000)(h: ∀x∈l,x.Benefit≠c.Benefit):a0h l c=some false:=by
 unfold a0h a15
 have:d9 FU (a4s l c) ((0:Nat):Int)=some (-1):=by
  refine i3z (fun i=>(i:Int)) l.length ?_ ?_ (by have:=i4b;omega)
  ·intro i hi r
   have hb:=h _ (qV hi)
   have e1:(l[i].Benefit==c.Benefit)=false:=by simpa using hb
   unfold a4s b57
   simp only [i6p hi,if_true,i4a hi,qA,e1,qM,if_false,i4v (show i <= 1000000 by omega)]
  ·intro r
   unfold a4s
   simp only [i4y,qM,if_false]
 rw [show (0:Int)=((0:Nat):Int) from rfl,this]
 rfl
def i7g {l:O Reduce}{c:Reduce}(hl:l.length <= 1000)(h: ∀x∈l,x.Benefit≠c.Benefit):a0d l c=some false:=by
 unfold a0d a0x
 have:d9 FU (a4k l c) ((0:Nat):Int)=some (-1):=by
  refine i3z (fun i=>(i:Int)) l.length ?_ ?_ (by have:=i4b;omega)
  ·intro i hi r
   have hb:=h _ (qV hi)
   have e1:(l[i].Benefit==c.Benefit)=false:=by simpa using hb
   unfold a4k b5b
   simp only [i6p hi,if_true,i4a hi,qA,e1,qM,if_false,i4v (show i <= 1000000 by omega)]
  ·intro r
   unfold a4k
   simp only [i4y,qM,if_false]
 rw [show (0:Int)=((0:Nat):Int) from rfl,this]
 rfl
def j0n {α:Type}{l:O α}{i:Nat}(h:i<l.length):a1x l 0 (i:Int)=some (l.take i):=by
 rw [b26 (Int.le_refl _) (by omega) (by omega)]
 simp
def i74 {α:Type}{R:α -> α -> Prop}{l:O α}(h:l.Pairwise R){i:Nat}(hi:i<l.length): ∀x∈l.take i,R x l[i]:=by
 intro x hx
 obtain ⟨j,hj,rfl⟩:=List.getElem_of_mem hx
 have hj2:j<i:=by simp at hj;omega
 rw [getElem_take]
 exact List.pairwise_iff_getElem.1 h j i (by omega) hi hj2
def j1d (h:VOK env v):b0q v=some 0:=by
 have hf:=i4b
 have l4: ∀v12:Version×O iQ×Int,v12.1=v -> d9 FU (i4s v12) (v,env,0)=some 0:=by
  intro v12 hv
  refine i3z (fun i=>(v,env,(i:Int))) v.Reduces.length ?_ ?_ (by have:=h.rl;omega)
  ·intro i hi r
   have hc:=h.rd _ (qV hi)
   have:=h.rl
   unfold i4s
   simp only [hv,i6p hi,if_true,i4a hi,qA,j0n hi,i7g (l:=v.Reduces.take i) (by simp;omega) (i74 h.rdp hi),hc.2.of h.en,show ((0:Int) != 0)=false from rfl,qM,if_false,i4v (show i <= 1000000 by omega)]
  ·intro r
   unfold i4s
   simp only [hv,i4y,qM,if_false]
 have l3: ∀v12:Version×O iQ×Int,v12.1=v -> d9 FU (i4o v12) (v,env,0)=some 0:=by
  intro v12 hv
  refine i3z (fun i=>(v,env,(i:Int))) v.Grants.length ?_ ?_ (by have:=h.gl;omega)
  ·intro i hi r
   have hc:=h.gr _ (qV hi)
   have:=h.gl
   unfold i4o
   simp only [hv,i6p hi,if_true,i4a hi,qA,j0n hi,i7s (l:=v.Grants.take i) (by simp;omega) (i74 h.grp hi),hc.2.1.of h.en,hc.2.2.of h.en,show ((0:Int) != 0)=false from rfl,qM,if_false,i4v (show i <= 1000000 by omega)]
  ·intro r
   unfold i4o
   simp only [hv,i4y,qM,if_false]
   exact l4 _ rfl
 have l2: ∀v12:Version×O iQ×Int,v12.1=v -> d9 FU (i4r v12) (v,env,0)=some 0:=by
  intro v12 hv
  refine i3z (fun i=>(v,env,(i:Int))) v.Series.length ?_ ?_ (by have:=h.sl;omega)
  ·intro i hi r
   have:=h.sl
   unfold i4r
   simp only [hv,i6p hi,if_true,i4a hi,qA]
   have e:((if decide ((i:Int)>0) then (c7 v.Series (i64 ((i:Int)-1))).bind fun v10=>some (decide (v.Series[i].Year <= v10.Year)) else some false):A3 Bool)=some false:=by
    cases i with
    | zero=>rfl
    | succ i=>
      have hlt:=List.pairwise_iff_getElem.1 h.ixp i (i+1) (by omega) hi (by omega)
      have e1:decide (((i+1:Nat):Int)>0)=true:=by simp
      have e2:i64 (((i+1:Nat):Int)-1)=(i:Int):=by rw [e9 (by omega) (by omega)];omega
      have e3:decide (v.Series[i+1].Year <= v.Series[i].Year)=false:=by simp;omega
      simp only [e1,if_true,e2,i4a (show i<v.Series.length by omega),qA,e3]
   rw [e,qA]
   simp only [qM,if_false,i4v (show i <= 1000000 by omega)]
  ·intro r
   unfold i4r
   simp only [hv,i4y,qM,if_false]
   exact l3 _ rfl
 have l1:d9 FU (i4p v) (v,env,0)=some 0:=by
  refine i3z (fun i=>(v,env,(i:Int))) v.Credits.length ?_ ?_ (by have:=h.cl;omega)
  ·intro i hi r
   have:=h.cl
   unfold i4p
   simp only [i6p hi,if_true,i4a hi,qA,j0n hi,i7o (l:=v.Credits.take i) (by simp;omega) (i74 h.crp hi),qM,if_false,i4v (show i <= 1000000 by omega)]
  ·intro r
   unfold i4p
   simp only [i4y,qM,if_false]
   exact l2 _ rfl
 unfold b0q
 simp only [h.ls,qA,show ((0:Int) != 0)=false from rfl,qM,if_false]
 exact l1
end
structure SOK (x:Statute):Prop where
 n5:a2e x.Name=some true
 nS:b0e x.Name=some true
 c0:1 <= x.Currency
 c1:x.Currency <= 999
 l0:1 <= x.Versions.length
 l1:x.Versions.length <= 6
 vs: ∀v∈x.Versions,∃env,VOK env v
 vp:x.Versions.Pairwise fun a b=>a.From<b.From
def j7t {x:Statute}(h:SOK x):b00 x=some true:=by
 have hf:=i4b
 have l1:d9 FU b5o (x,0)=some true:=by
  refine i3z (fun i=>(x,(i:Int))) x.Versions.length ?_ ?_ (by have:=h.l1;omega)
  ·intro i hi r
   obtain ⟨env,hv⟩:=h.vs _ (qV hi)
   have:=h.l1
   unfold b5o
   simp only [i6p hi,if_true,i4a hi,qA,j4e hv,qU,qM,if_false,i4v (show i <= 1000000 by omega)]
  ·intro r
   unfold b5o
   simp only [i4y,qM,if_false]
 unfold b00
 have d1:decide (x.Currency<1)=false:=by have:=h.c0;simp;omega
 have d2:decide (x.Currency>999)=false:=by have:=h.c1;simp;omega
 have d3:decide ((x.Versions.length:Int)<1)=false:=by have:=h.l0;simp;omega
 have d4:decide ((x.Versions.length:Int)>6)=false:=by have:=h.l1;simp;omega
 simp only [h.n5,d1,d2,d3,d4,qA,qU,qM,if_false]
 exact l1
def j3v {x:Statute}(h:SOK x):b7h x=some true:=by
 have hf:=i4b
 have l1:d9 FU (b77 x) 0=some true:=by
  refine i3z (fun i=>(i:Int)) x.Versions.length ?_ ?_ (by have:=h.l1;omega)
  ·intro i hi r
   obtain ⟨env,hv⟩:=h.vs _ (qV hi)
   have:=h.l1
   unfold b77
   simp only [i6p hi,if_true,i4a hi,qA,j40 hv,qU,qM,if_false,i4v (show i <= 1000000 by omega)]
  ·intro r
   unfold b77
   simp only [i4y,qM,if_false]
 unfold b7h
 have d1:decide (x.Currency<1)=false:=by have:=h.c0;simp;omega
 have d2:decide (x.Currency>999)=false:=by have:=h.c1;simp;omega
 have d3:decide ((x.Versions.length:Int)<1)=false:=by have:=h.l0;simp;omega
 have d4:decide ((x.Versions.length:Int)>6)=false:=by have:=h.l1;simp;omega
 simp only [h.nS,d1,d2,d3,d4,qA,qU,qM,if_false]
 exact l1
def j4h {x:Statute}(h:SOK x):b4b x=some (0,0):=by
 have hf:=i4b
 unfold b4b
 simp only [j3v h,qA,qU,qM,if_false]
 refine i3z (fun i=>(x,(i:Int))) x.Versions.length ?_ ?_ (by have:=h.l1;omega)
 ·intro i hi r
  obtain ⟨env,hv⟩:=h.vs _ (qV hi)
  have:=h.l1
  unfold i50
  simp only [i6p hi,if_true,i4a hi,qA]
  have e:((if decide ((i:Int)>0) then (c7 x.Versions (i64 ((i:Int)-1))).bind fun v5=>some (decide (x.Versions[i].From <= v5.From)) else some false):A3 Bool)=some false:=by
   cases i with
   | zero=>rfl
   | succ i=>
     have hlt:=List.pairwise_iff_getElem.1 h.vp i (i+1) (by omega) hi (by omega)
     have e1:decide (((i+1:Nat):Int)>0)=true:=by simp
     have e2:i64 (((i+1:Nat):Int)-1)=(i:Int):=by rw [e9 (by omega) (by omega)];omega
     have e3:decide (x.Versions[i+1].From <= x.Versions[i].From)=false:=by simp;omega
     simp only [e1,if_true,e2,i4a (show i<x.Versions.length by omega),qA,e3]
  rw [e,qA]
  simp only [qM,if_false,j1d hv,qA,show ((0:Int) != 0)=false from rfl,i4v (show i <= 1000000 by omega)]
 ·intro r
  unfold i50
  simp only [i4y,qM,if_false]
section
variable {env:O iQ} {v:Version}
def i1i {α β:Type} [DecidableEq β] {l:O α} {f:α -> β} (h:l.Pairwise fun a b=>f a≠f b) {i k:Nat} (hi:i<l.length) (hk:k<i):f l[k]≠f l[i]:=List.pairwise_iff_getElem.1 h k i (by omega) hi hk
def h9y (h:VOK env v):h5c v=some 0:=by
 have hf:=i4b
 have l6:d9 FU h6e (v,env,0)=some 0:=by
  refine i3z (fun i=>(v,env,(i:Int))) v.Reduces.length ?_ ?_ (by have:=h.rl;omega)
  ·intro i hi r
   have:=h.rl
   unfold h6e
   simp only [i6p hi,if_true]
   refine i3z (fun k=>(v,env,(k:Int))) i ?_ ?_ (by omega)
   ·intro k hk r'
    have e1:(v.Reduces[k].Benefit==v.Reduces[i].Benefit)=false:=by simpa using i1i h.rdp hi hk
    unfold h6s
    simp only [i6p hk,if_true,i4a (show k<v.Reduces.length by omega),i4a hi,qA,e1,qM,if_false,i4v (show k <= 1000000 by omega)]
   ·intro r'
    have hc:=h.rd _ (qV hi)
    unfold h6s
    simp only [i4y,qM,if_false,i4a hi,qA,hc.2.needs h.en,show ((0:Int) != 0)=false from rfl,i4v (show i <= 1000000 by omega)]
  ·intro r
   unfold h6e
   simp only [i4y,qM,if_false]
 have l4:d9 FU h6a (v,env,0)=some 0:=by
  refine i3z (fun i=>(v,env,(i:Int))) v.Grants.length ?_ ?_ (by have:=h.gl;omega)
  ·intro i hi r
   have:=h.gl
   unfold h6a
   simp only [i6p hi,if_true]
   refine i3z (fun k=>(v,env,(k:Int))) i ?_ ?_ (by omega)
   ·intro k hk r'
    have e1:(v.Grants[k].Benefit==v.Grants[i].Benefit)=false:=by simpa using i1i h.grp hi hk
    unfold h6p
    simp only [i6p hk,if_true,i4a (show k<v.Grants.length by omega),i4a hi,qA,e1,qM,if_false,i4v (show k <= 1000000 by omega)]
   ·intro r'
    have hc:=h.gr _ (qV hi)
    unfold h6p
    simp only [i4y,qM,if_false,i4a hi,qA,hc.2.1.needs h.en,hc.2.2.needs h.en,show ((0:Int) != 0)=false from rfl,i4v (show i <= 1000000 by omega)]
  ·intro r
   unfold h6a
   simp only [i4y,qM,if_false]
   exact l6
 have l3:d9 FU h5j (v,env,1)=some 0:=by
  have go: ∀n,n=v.Series.length-1 -> d9 FU h5j (v,env,(((0:Nat):Int)+1))=some 0:=by
   intro n hn
   refine i3z (fun i=>(v,env,(i:Int)+1)) n ?_ ?_ (by have:=h.sl;omega)
   ·intro i hi r
    have:=h.sl
    have hlt:=List.pairwise_iff_getElem.1 h.ixp i (i+1) (by omega) (by omega) (by omega)
    have e0:((i:Int)+1)=((i+1:Nat):Int):=by omega
    have e2:i64 (((i+1:Nat):Int)-1)=(i:Int):=by rw [e9 (by omega) (by omega)];omega
    have e3:decide (v.Series[i+1].Year <= v.Series[i].Year)=false:=by simp;omega
    unfold h5j
    simp only [e0,i6p (show i+1<v.Series.length by omega),if_true,i4a (show i+1<v.Series.length by omega),i4a (show i<v.Series.length by omega),e2,qA,e3,qM,if_false,i4v (show i+1 <= 1000000 by omega)]
    rfl
   ·intro r
    have e1:decide (((n:Int)+1)<(v.Series.length:Int))=false:=by simp;omega
    unfold h5j
    simp only [e1,qM,if_false]
    exact l4
  exact go _ rfl
 have l1:d9 FU h6c (v,env,0)=some 0:=by
  refine i3z (fun i=>(v,env,(i:Int))) v.Credits.length ?_ ?_ (by have:=h.cl;omega)
  ·intro i hi r
   have:=h.cl
   unfold h6c
   simp only [i6p hi,if_true]
   refine i3z (fun k=>(v,env,(k:Int))) i ?_ ?_ (by omega)
   ·intro k hk r'
    have e1:(v.Credits[k].Kind==v.Credits[i].Kind)=false:=by simpa using i1i h.crp hi hk
    unfold h6q
    simp only [i6p hk,if_true,i4a (show k<v.Credits.length by omega),i4a hi,qA,e1,qM,if_false,i4v (show k <= 1000000 by omega)]
   ·intro r'
    unfold h6q
    simp only [i4y,qM,if_false,i4v (show i <= 1000000 by omega)]
  ·intro r
   unfold h6c
   simp only [i4y,qM,if_false]
   exact l3
 unfold h5c
 simp only [h.l5,qA,show ((0:Int) != 0)=false from rfl,qM,if_false]
 exact l1
end
def i2i {x:Statute}(h:SOK x):h5l x=some (0,0):=by
 have hf:=i4b
 unfold h5l
 simp only [j7t h,qA,qU,qM,if_false]
 refine i3z (fun i=>(x,(i:Int))) x.Versions.length ?_ ?_ (by have:=h.l1;omega)
 ·intro i hi r
  obtain ⟨env,hv⟩:=h.vs _ (qV hi)
  have:=h.l1
  unfold h6r
  simp only [i6p hi,if_true,i4a hi,qA]
  have e:((if decide ((i:Int)>0) then (c7 x.Versions (i64 ((i:Int)-1))).bind fun v5=>some (decide (x.Versions[i].From <= v5.From)) else some false):A3 Bool)=some false:=by
   cases i with
   | zero=>rfl
   | succ i=>
     have hlt:=List.pairwise_iff_getElem.1 h.vp i (i+1) (by omega) hi (by omega)
     have e1:decide (((i+1:Nat):Int)>0)=true:=by simp
     have e2:i64 (((i+1:Nat):Int)-1)=(i:Int):=by rw [e9 (by omega) (by omega)];omega
     have e3:decide (x.Versions[i+1].From <= x.Versions[i].From)=false:=by simp;omega
     simp only [e1,if_true,e2,i4a (show i<x.Versions.length by omega),qA,e3]
  rw [e,qA]
  simp only [qM,if_false,h9y hv,qA,show ((0:Int) != 0)=false from rfl,i4v (show i <= 1000000 by omega)]
 ·intro r
  unfold h6r
  simp only [i4y,qM,if_false]
structure NumX (w:List UInt8) (v:fQ) (d:Int):Prop where
 st: ∃c r,w=c::r /\ h2u (iv c)=true /\ h2f (iv c)=false
 rc: ∀x∈w,i9x true x=true
 pt: ∃x y,a6z ⟨w.toArray⟩=some (x,y,d,true)
 de:a2x ⟨w.toArray⟩=some (v,d,true)
 f5: ∃s,a1g v d=some (s,true)
 fS: ∃s,a4y v d=some (s,true)
def j8d {c:UInt8}(h:h2u (iv c)=true):i9x true c=true:=by unfold i9x;rw [h];simp
def NumX.whole {n:Nat}(hn:n <= 100000){s:O UInt8}{d:Int}(hs:j8o s d):NumX (g4v 20 n++s) ⟨(n:Int),1⟩ d:=by
 have hd:=j3o 20 n (Nat.lt_of_le_of_lt hn (by decide))
 have hdl:=i6e 20 n 5 (Nat.lt_of_le_of_lt hn (by decide))
 have hd2:2 <= d /\ d <= 4:=by rcases hs with ⟨_,rfl⟩ | ⟨_,rfl⟩ | ⟨_,rfl⟩<;>decide
 refine ⟨?_,?_,⟨_,_,i7j hd (by omega) hs⟩,j2d hd (by omega) hs,j1z (by omega) (by omega) hd2.1 hd2.2,j1v (by omega) hd2.1 hd2.2⟩
 ·cases hb:g4v 20 n with
  | nil=>exact absurd hb hd.ne
  | cons c r=>
    have hc:=hd.dig c (by rw [hb];simp)
    have hr:=i5q hc
    exact ⟨c,r++s,rfl,hc,by unfold h2f;simp;omega⟩
 ·intro x hx
  rcases qK.1 hx with hx | hx
  ·exact j8d (hd.dig x hx)
  ·rcases hs with ⟨rfl,_⟩ | ⟨rfl,_⟩ | ⟨rfl,_⟩
   ·cases hx
   ·rw [qF] at hx;subst hx;rfl
   ·rw [qF] at hx;subst hx;rfl
def k1d (o:A3 (A4×Bool)):Bool:=match o with | some (_,b)=>b | none=>false
def j3k {o:A3 (A4×Bool)}(h:k1d o=true): ∃s,o=some (s,true):=by
 cases o with
 | none=>cases h
 | some x=>obtain ⟨s,b⟩:=x;cases b with | false=>cases h | true=>exact ⟨s,rfl⟩
def okP (w:O UInt8)(d:Int):Bool:=match a6z ⟨w.toArray⟩ with | some (_,_,d2,b)=>b&&d2==d | none=>false
def k03 {w:O UInt8}{d:Int}(h:okP w d=true): ∃x y,a6z ⟨w.toArray⟩=some (x,y,d,true):=by
 unfold okP at h
 split at h
 ·rename_i x y d2 b he
  simp at h
  obtain ⟨rfl,rfl⟩:=h
  exact ⟨x,y,he⟩
 ·cases h
def okV (w:O UInt8)(d:Int)(v:fQ):Bool:=match a2x ⟨w.toArray⟩ with | some (u,d2,b)=>b&&(d2==d&&(u.Num==v.Num&&u.Den==v.Den)) | none=>false
def j8u {w:O UInt8}{d:Int}{v:fQ}(h:okV w d v=true):a2x ⟨w.toArray⟩=some (v,d,true):=by
 unfold okV at h
 split at h
 ·rename_i u d2 b he
  simp at h
  obtain ⟨rfl,rfl,h1,h2⟩:=h
  rw [he]
  cases u;cases v
  simp at h1 h2
  subst h1;subst h2
  rfl
 ·cases h
def j7v (w:O UInt8)(v:fQ)(d:Int):Bool:=(match w with | c::_=>h2u (iv c)&& !h2f (iv c) | []=>false)&&(w.all (i9x true)&&(okP w d&&(okV w d v&&(k1d (a1g v d)&&k1d (a4y v d)))))
def NumX.chk {w:O UInt8}{v:fQ}{d:Int}(h:j7v w v d=true):NumX w v d:=by
 unfold j7v at h
 simp only [qB] at h
 obtain ⟨h1,h2,h3,h4,h5,h6⟩:=h
 refine ⟨?_,fun x hx=>qX.1 h2 x hx,k03 h3,j8u h4,j3k h5,j3k h6⟩
 cases w with
 | nil=>cases h1
 | cons c r=>simp at h1;exact ⟨c,r,rfl,h1.1,h1.2⟩
def okA:O Lx -> O UInt8 -> Prop
 | [],_=>True
 | l::ls,rest=>LxOK l.t l.w (blk l.sp++(i40 ls++rest)) /\ okA ls rest
def i47: ∀(a b:O Lx),i40 (a++b)=i40 a++i40 b
 | [],b=>rfl
 | l::a,b=>by
   show l.w++(blk l.sp++i40 (a++b))=l.w++(blk l.sp++i40 a)++i40 b
   rw [i47 a b];simp
def i4u: ∀(a b:O Lx)(rest:O UInt8),okA a (i40 b++rest) -> okA b rest -> okA (a++b) rest
 | [],b,rest,_,h=>h
 | l::a,b,rest,h1,h2=>⟨by
    have:=h1.1
    show LxOK l.t l.w (blk l.sp++(i40 (a++b)++rest))
    rw [i47,qQ]
    exact this,i4u a b rest h1.2 h2⟩
def j7a: ∀(a:O Lx),okA a [] -> okL a
 | [],_=>trivial
 | l::a,h=>⟨by have:=h.1;rw [List.append_nil] at this;exact this,j7a a h.2⟩
def bl (s:A4):O UInt8:=s.data.toList
def j0q (s:A4):Bool:=match bl s with | c::w=>h2f (iv c)&&((c::w).all (i9x false)&&decide ((c::w).length <= 12)) | []=>false
def LxOK.word {s:A4}{rest:O UInt8}(h:j0q s=true)(hr:i6b (i9x false) rest):LxOK (.w s) (bl s) rest:=by
 obtain ⟨⟨l⟩⟩:=s
 have hb:bl ⟨⟨l⟩⟩=l:=rfl
 unfold j0q at h
 rw [hb] at h⊢
 cases l with
 | nil=>cases h
 | cons c w=>
   simp only [qB,decide_eq_true_eq] at h
   exact LxOK.w (c:=c) (w:=w) h.1 (fun x hx=>qX.1 h.2.1 x hx) h.2.2 hr
def i8v (w:O UInt8)(day:Int):Bool:=match w with | c::r=>c==64&&(decide (r.length=10)&&(match a47 ⟨r.toArray⟩ with | some (x,b)=>b&&x==day | none=>false)) | []=>false
def LxOK.date {w rest:O UInt8}{day:Int}(h:i8v w day=true):LxOK (.d day) w rest:=by
 cases w with
 | nil=>cases h
 | cons c r=>
   unfold i8v at h
   simp only [qB,decide_eq_true_eq,beq_iff_eq] at h
   obtain ⟨rfl,h2,h3⟩:=h
   split at h3
   ·rename_i x b he
    simp at h3
    obtain ⟨rfl,rfl⟩:=h3
    exact LxOK.d h2 he
   ·cases h3
def k04 (s:A4):Bool:=match bl s with
 | [c]=>j2w c
 | [c,c2]=>(c==60&&c2==61)||((c==62&&c2==61)||(c==60&&c2==62))
 | _=>false
def k24 (s:A4):Bool:=match bl s with | [c]=>iv c != 60&&iv c != 62 | _=>false
def nx (p:UInt8 -> Bool)(sp:Bool)(ls:O Lx):Bool:=sp||(match ls with | m::_=>(match m.t with | .s s=>(match bl s with | c::_=> !p c | []=>false) | _=>false) | []=>false)
def j87 {p:UInt8 -> Bool}{sp:Bool}{ls:O Lx}{rest:O UInt8}(hp:p 32=false)(h:nx p sp ls=true)(hw: ∀m∈ls,∀s,m.t= .s s -> m.w=bl s):i6b p (blk sp++(i40 ls++rest)):=by
 intro c r he
 cases sp with
 | true=>
   have he:32::(i40 ls++rest)=c::r:=he
   injection he with h1 h2
   subst h1;exact hp
 | false=>
   have he:i40 ls++rest=c::r:=he
   cases ls with
   | nil=>cases h
   | cons m ls=>
     have h:(match m.t with | .s s=>(match bl s with | c::_=> !p c | []=>false) | _=>false)=true:=h
     have hm:=hw m (by simp)
     have he:m.w++(blk m.sp++i40 ls)++rest=c::r:=he
     cases ht:m.t with
     | s s=>
       rw [ht] at h
       have h:(match bl s with | c::_=> !p c | []=>false)=true:=h
       rw [hm s ht] at he
       cases hb:bl s with
       | nil=>rw [hb] at h;cases h
       | cons c2 r2=>
         rw [hb] at h he
         have:c2=c:=by injection he
         subst this
         simpa using h
     | w s=>rw [ht] at h;cases h
     | n v d=>rw [ht] at h;cases h
     | d day=>rw [ht] at h;cases h
def i6u:O Lx -> Bool
 | []=>true
 | l::ls=>(match l.t with
    | .w s=>l.w==bl s&&(j0q s&&nx (i9x false) l.sp ls)
    | .s s=>l.w==bl s&&(k04 s&&(k24 s||nx (fun c=>iv c==61||iv c==62) l.sp ls))
    | .n _ _=>nx (i9x true) l.sp ls
    | .d day=>i8v l.w day)&&i6u ls
def i9o:O Lx -> Prop
 | []=>True
 | l::ls=>(match l.t with | .n v d=>NumX l.w v d | _=>True) /\ i9o ls
def i8a: ∀(ls:O Lx),i6u ls=true -> ∀m∈ls,∀s,m.t= .s s -> m.w=bl s
 | [],_,m,hm,_,_=>by cases hm
 | l::ls,h,m,hm,s,hs=>by
   unfold i6u at h
   rw [qB] at h
   rcases qO.1 hm with rfl | hm
   ·rw [hs] at h
    simp only [qB,beq_iff_eq] at h
    exact h.1.1
   ·exact i8a ls h.2 m hm s hs
def i6s: ∀(ls:O Lx),i6u ls=true -> i9o ls -> ∀rest,okA ls rest
 | [],_,_,_=>trivial
 | l::ls,h,hn,rest=>by
   have hsg:=i8a ls (by unfold i6u at h;rw [qB] at h;exact h.2)
   obtain ⟨t,w,sp⟩:=l
   unfold i6u at h
   rw [qB] at h
   refine ⟨?_,i6s ls h.2 hn.2 rest⟩
   have h1:=h.1
   show LxOK t w (blk sp++(i40 ls++rest))
   cases t with
   | w s=>
     simp only [qB,beq_iff_eq] at h1
     obtain ⟨rfl,h2,h3⟩:=h1
     exact LxOK.word h2 (j87 rfl h3 hsg)
   | s s=>
     simp only [qB,beq_iff_eq] at h1
     obtain ⟨rfl,h2,h3⟩:=h1
     have h4:k24 s=true \/ i6b (fun c=>iv c==61||iv c==62) (blk sp++(i40 ls++rest)):=by
      rcases Bool.or_eq_true _ _ |>.mp h3 with h3 | h3
      ·exact .inl h3
      ·exact .inr (j87 (rest:=rest) (p:=fun c=>iv c==61||iv c==62) rfl h3 hsg)
     obtain ⟨⟨l⟩⟩:=s
     have hb:bl ⟨⟨l⟩⟩=l:=rfl
     unfold k04 at h2
     unfold k24 at h4
     rw [hb] at h2 h4⊢
     match l,h2,h4 with
     | [c],h2,h4=>
       refine LxOK.s1 h2 ?_
       rcases h4 with h4 | h4
       ·exact .inl (by simpa using h4)
       ·exact .inr h4
     | [c,c2],h2,_=>
       refine LxOK.s2 ?_
       simp only [Bool.or_eq_true,qB,beq_iff_eq] at h2
       rcases h2 with ⟨rfl,rfl⟩ | ⟨rfl,rfl⟩ | ⟨rfl,rfl⟩
       ·exact .inl rfl
       ·exact .inr (.inl rfl)
       ·exact .inr (.inr rfl)
   | n v d=>
     have hx:NumX w v d:=hn.1
     obtain ⟨c,r,rfl,hc1,hc2⟩:=hx.st
     obtain ⟨x,y,hp⟩:=hx.pt
     exact LxOK.n hc1 hc2 hx.rc (j87 rfl h1 hsg) hp hx.de
   | d day=>exact LxOK.date h1
def W (s:A4):Lx:=⟨.w s,bl s,true⟩
def Wn (s:A4):Lx:=⟨.w s,bl s,false⟩
def Sg (s:A4):Lx:=⟨.s s,bl s,true⟩
def Sh (s:A4):Lx:=⟨.s s,bl s,false⟩
def N (w:O UInt8)(v:fQ)(d:Int)(sp:Bool):Lx:=⟨.n v d,w,sp⟩
def num (n:Nat)(s:O UInt8)(d:Int)(sp:Bool):Lx:=N (g4v 20 n++s) ⟨(n:Int),1⟩ d sp
def i4l:A4:=⟨#[115,112,101,110,116]⟩
def i4z:A4:=⟨#[112,97,114,116]⟩
def j9n:O UInt8:=[49,57,54,48]
def k0k:O UInt8:=[49,57,56,48]
def k0p:O UInt8:=[49,57,57,53]
def n1:O UInt8:=[49]
def n3:O UInt8:=[51]
def n12:O UInt8:=[49,50]
def n60:O UInt8:=[54,48]
def n30d:O UInt8:=[51,48,100]
def p50:O UInt8:=[48,46,53,48]
def p60:O UInt8:=[48,46,54,48]
def p70:O UInt8:=[48,46,55,48]
def p80:O UInt8:=[48,46,56,48]
def k1l:NumX j9n ⟨1960,1⟩ 2:= .chk (by kernel_rfl)
def k28:NumX k0k ⟨1980,1⟩ 2:= .chk (by kernel_rfl)
def k1n:NumX k0p ⟨1995,1⟩ 2:= .chk (by kernel_rfl)
def x1:NumX n1 ⟨1,1⟩ 2:= .chk (by kernel_rfl)
def x3:NumX n3 ⟨3,1⟩ 2:= .chk (by kernel_rfl)
def x12:NumX n12 ⟨12,1⟩ 2:= .chk (by kernel_rfl)
def x60:NumX n60 ⟨60,1⟩ 2:= .chk (by kernel_rfl)
def m0w:NumX n30d ⟨30,1⟩ 3:= .chk (by kernel_rfl)
def m0h:NumX p50 ⟨1,2⟩ 2:= .chk (by kernel_rfl)
def m0f:NumX p60 ⟨3,5⟩ 2:= .chk (by kernel_rfl)
def m0y:NumX p70 ⟨7,10⟩ 2:= .chk (by kernel_rfl)
def k0y:NumX p80 ⟨4,5⟩ 2:= .chk (by kernel_rfl)
def lC6:O Lx:=[W b91,Wn b0b,Sg c3s]
def lC7 (n:Nat):O Lx:=[W b91,W b87,W c1c,num n [] 2 false,Sg c3s]
def j83 (n:Nat):O Lx:=[W b91,W c97,W c1c,num n [] 2 false,Sg c3s]
def lC5:O Lx:=[W b91,Wn c04,Sg c3s]
def lI0:O Lx:=[W c1q,N j9n ⟨1960,1⟩ 2 true,N n1 ⟨1,1⟩ 2 false,Sg c3s]
def lI1 (w:O UInt8)(v:fQ):O Lx:=[W c1q,N k0k ⟨1980,1⟩ 2 true,N w v 2 false,Sg c3s]
def lI2 (w:O UInt8)(v:fQ):O Lx:=[W c1q,N k0p ⟨1995,1⟩ 2 true,N w v 2 false,Sg c3s]
def lL1 (n:Nat):O Lx:=[W d07,W i4l,Sg e7j,W b6u,Sg e8f,num n [100] 3 false,Sg c3s]
def lL2 (w:O UInt8)(v:fQ):O Lx:=[W d07,W i4z,Sg e7j,Wn c8l,Sh e02,W i4l,Sg g62,N w v 2 false,Sg g2w,N p80 ⟨4,5⟩ 2 false,Sh d38,Sg c3s]
def lG1 (a i m:Nat):O Lx:=[W c10,W d9m,W d0k,W e0r,Sg d30,num a [] 2 true,W c9m,W b6u,Sg d30,num i [100] 3 true,W c60,Wn c98,Sh e02,W e39,Sg g62,Wn i4z,Sg g2w,num m [109] 4 false,Sh d38,Sg c3s]
def lG2 (i:Nat)(w:O UInt8)(v:fQ):O Lx:=[W c10,W b8e,W d0k,W b6u,Sg d30,num i [100] 3 true,W c60,W e39,Sg g62,N w v 2 false,Sg c3s]
def lG3:O Lx:=[W c10,W c0u,W d0k,W c5w,Sg g5d,W c3c,Sg d30,N n30d ⟨30,1⟩ 3 true,W c60,W e39,Sg g62,W i4z,Sg g62,N p60 ⟨3,5⟩ 2 false,Sg c3s]
def lG4 (i m:Nat):O Lx:=[W c10,W c66,W d0k,W b6u,Sg d30,num i [100] 3 true,W c60,num m [109] 4 true,Sg g62,Wn c6q,Sg c3s]
def lG5 (i:Nat):O Lx:=[W c10,W c0r,W d0k,W b6u,Sg d30,num i [100] 3 true,W c60,Wn c51,Sh e02,N n3 ⟨3,1⟩ 2 false,Sg d38,Sg e8f,N n12 ⟨12,1⟩ 2 true,Sg g62,N p70 ⟨7,10⟩ 2 false,Sg c3s]
def lR1 (w:O UInt8)(v:fQ):O Lx:=[W b94,W d9m,W d69,N w v 2 false,Sg c3s]
def lR2:O Lx:=[W b94,W b8e,W d69,W d0k,W e0r,Sg g4g,N n60 ⟨60,1⟩ 2 true,W d3p,N p50 ⟨1,2⟩ 2 true,W c53,N n1 ⟨1,1⟩ 2 false,Sg c3s]
def aL1 (n:Nat):AE:= .bin 10 (.nm b6u) (.lit ⟨(n:Int),1⟩ 3)
def aL2 (v:fQ):AE:= .bin 19 (.bin 9 (.nm i4l) (.lit v 2)) (.lit ⟨4,5⟩ 2)
def j8j (a i:Nat):AE:= .bin 17 (.bin 16 (.nm e0r) (.lit ⟨(a:Int),1⟩ 2)) (.bin 16 (.nm b6u) (.lit ⟨(i:Int),1⟩ 3))
def j97 (m:Nat):AE:= .bin 20 (.bin 9 (.nm e39) (.nm i4z)) (.lit ⟨(m:Int),1⟩ 4)
def j1k (i:Nat):AE:= .bin 16 (.nm b6u) (.lit ⟨(i:Int),1⟩ 3)
def k0i (v:fQ):AE:= .bin 9 (.nm e39) (.lit v 2)
def j7n:AE:= .bin 16 (.bin 7 (.nm c5w) (.nm c3c)) (.lit ⟨30,1⟩ 3)
def j7q:AE:= .bin 9 (.bin 9 (.nm e39) (.nm i4z)) (.lit ⟨3,5⟩ 2)
def k0h (m:Nat):AE:= .bin 9 (.lit ⟨(m:Int),1⟩ 4) (.nm c6q)
def k0a:AE:= .bin 9 (.bin 10 (.best 3) (.lit ⟨12,1⟩ 2)) (.lit ⟨7,10⟩ 2)
def aR1 (v:fQ):AE:= .lit v 2
def aR2:AE:= .ite (.bin 11 (.nm e0r) (.lit ⟨60,1⟩ 2)) (.lit ⟨1,2⟩ 2) (.lit ⟨1,1⟩ 2)
def tk (l:O Lx)(ts:O Tk):O Tk:=l.map (·.t)++ts
def rC6 (ts:O Tk):ClR (tk lC6 ts) (.credit 6 0) ts:= .credit0 (x:=b0b) (by kernel_rfl) (by decide)
def rC5 (ts:O Tk):ClR (tk lC5 ts) (.credit 5 0) ts:= .credit0 (x:=c04) (by kernel_rfl) (by decide)
def rC7 {n:Nat}(h0:1 <= n)(h1:n <= 73049)(ts:O Tk):ClR (tk (lC7 n) ts) (.credit 7 n) ts:= .credit (x:=b87) (by kernel_rfl) (by decide) (by omega) (by omega)
def rC10 {n:Nat}(h0:1 <= n)(h1:n <= 73049)(ts:O Tk):ClR (tk (j83 n) ts) (.credit 10 n) ts:= .credit (x:=c97) (by kernel_rfl) (by decide) (by omega) (by omega)
def rI0 (ts:O Tk):ClR (tk lI0 ts) (.index 1960 ⟨1,1⟩) ts:= .index (by decide) (by decide) (by decide) (by decide)
def rI1 {w:O UInt8}{v:fQ}(h:0<v.Num)(hd:v.Den≠0)(ts:O Tk):ClR (tk (lI1 w v) ts) (.index 1980 v) ts:= .index (by decide) (by decide) h hd
def rI2 {w:O UInt8}{v:fQ}(h:0<v.Num)(hd:v.Den≠0)(ts:O Tk):ClR (tk (lI2 w v) ts) (.index 1995 v) ts:= .index (by decide) (by decide) h hd
def rL1 (n:Nat)(ts:O Tk):ClR (tk (lL1 n) ts) (.lett i4l (aL1 n)) ts:= .lett (x:=i4l) (by kernel_rfl) (by kernel_rfl)
def rL2 (w:O UInt8)(v:fQ)(ts:O Tk):ClR (tk (lL2 w v) ts) (.lett i4z (aL2 v)) ts:= .lett (x:=i4z) (by kernel_rfl) (by kernel_rfl)
def rG1 (a i m:Nat)(ts:O Tk):ClR (tk (lG1 a i m) ts) (.grant 1 (j8j a i) (j97 m)) ts:= .grant (x:=d9m) (vs:=([Wn c98,Sh e02,W e39,Sg g62,Wn i4z,Sg g2w,num m [109] 4 false,Sh d38,Sg c3s]:O Lx).map (·.t)++ts) (by kernel_rfl) (by decide) (by kernel_rfl) (by kernel_rfl)
def rG2 (i:Nat)(w:O UInt8)(v:fQ)(ts:O Tk):ClR (tk (lG2 i w v) ts) (.grant 2 (j1k i) (k0i v)) ts:= .grant (x:=b8e) (vs:=([W e39,Sg g62,N w v 2 false,Sg c3s]:O Lx).map (·.t)++ts) (by kernel_rfl) (by decide) (by kernel_rfl) (by kernel_rfl)
def rG3 (ts:O Tk):ClR (tk lG3 ts) (.grant 3 j7n j7q) ts:= .grant (x:=c0u) (vs:=([W e39,Sg g62,W i4z,Sg g62,N p60 ⟨3,5⟩ 2 false,Sg c3s]:O Lx).map (·.t)++ts) (by kernel_rfl) (by decide) (by kernel_rfl) (by kernel_rfl)
def rG4 (i m:Nat)(ts:O Tk):ClR (tk (lG4 i m) ts) (.grant 4 (j1k i) (k0h m)) ts:= .grant (x:=c66) (vs:=([num m [109] 4 true,Sg g62,Wn c6q,Sg c3s]:O Lx).map (·.t)++ts) (by kernel_rfl) (by decide) (by kernel_rfl) (by kernel_rfl)
def rG5 (i:Nat)(ts:O Tk):ClR (tk (lG5 i) ts) (.grant 5 (j1k i) k0a) ts:= .grant (x:=c0r) (vs:=([Wn c51,Sh e02,N n3 ⟨3,1⟩ 2 false,Sg d38,Sg e8f,N n12 ⟨12,1⟩ 2 true,Sg g62,N p70 ⟨7,10⟩ 2 false,Sg c3s]:O Lx).map (·.t)++ts) (by kernel_rfl) (by decide) (by kernel_rfl) (by kernel_rfl)
def rR1 (w:O UInt8)(v:fQ)(ts:O Tk):ClR (tk (lR1 w v) ts) (.reduce 1 (aR1 v)) ts:= .reduce (x:=d9m) (by kernel_rfl) (by decide) (by kernel_rfl)
def rR2 (ts:O Tk):ClR (tk lR2 ts) (.reduce 2 aR2) ts:= .reduce (x:=b8e) (by kernel_rfl) (by decide) (by kernel_rfl)
def kC6:i6u lC6=true:=by kernel_rfl
def kC5:i6u lC5=true:=by kernel_rfl
def kC7 (n:Nat):i6u (lC7 n)=true:=by kernel_rfl
def kC10 (n:Nat):i6u (j83 n)=true:=by kernel_rfl
def kI0:i6u lI0=true:=by kernel_rfl
def kI1 (w:O UInt8)(v:fQ):i6u (lI1 w v)=true:=by kernel_rfl
def kI2 (w:O UInt8)(v:fQ):i6u (lI2 w v)=true:=by kernel_rfl
def kL1 (n:Nat):i6u (lL1 n)=true:=by kernel_rfl
def kL2 (w:O UInt8)(v:fQ):i6u (lL2 w v)=true:=by kernel_rfl
def kG1 (a i m:Nat):i6u (lG1 a i m)=true:=by kernel_rfl
def kG2 (i:Nat)(w:O UInt8)(v:fQ):i6u (lG2 i w v)=true:=by kernel_rfl
def kG3:i6u lG3=true:=by kernel_rfl
def kG4 (i m:Nat):i6u (lG4 i m)=true:=by kernel_rfl
def kG5 (i:Nat):i6u (lG5 i)=true:=by kernel_rfl
def kR1 (w:O UInt8)(v:fQ):i6u (lR1 w v)=true:=by kernel_rfl
def kR2:i6u lR2=true:=by kernel_rfl
def i7w (n:Nat):O UInt8:=g4v 20 (n/100)++(46::(g4v 20 (n/10%10)++g4v 20 (n%10)))
def i5d (n:Nat):fQ:=⟨((n/Nat.gcd n 100:Nat):Int),((100/Nat.gcd n 100:Nat):Int)⟩
def i6z (a k:Nat):Bool:=(List.range k).all fun i=>j7v (i7w (a+i)) (i5d (a+i)) 2
def pc0:i6z 0 100=true:=by kernel_rfl
def pc1:i6z 100 100=true:=by kernel_rfl
def pc2:i6z 200 100=true:=by kernel_rfl
def pc3:i6z 300 100=true:=by kernel_rfl
def pc4:i6z 400 100=true:=by kernel_rfl
def pc5:i6z 500 100=true:=by kernel_rfl
def pc6:i6z 600 100=true:=by kernel_rfl
def i7b {a k n:Nat}(h:i6z a k=true)(h0:a <= n)(h1:n<a+k):NumX (i7w n) (i5d n) 2:=by
 have:=qX.1 h (n-a) (by simp;omega)
 rw [show a+(n-a)=n by omega] at this
 exact .chk this
def i6l {n:Nat}(h:n<700):NumX (i7w n) (i5d n) 2:=by
 rcases Nat.lt_or_ge n 100 with h0 | h0
 ·exact i7b pc0 (by omega) (by omega)
 rcases Nat.lt_or_ge n 200 with h1 | h1
 ·exact i7b pc1 h0 (by omega)
 rcases Nat.lt_or_ge n 300 with h2 | h2
 ·exact i7b pc2 h1 (by omega)
 rcases Nat.lt_or_ge n 400 with h3 | h3
 ·exact i7b pc3 h2 (by omega)
 rcases Nat.lt_or_ge n 500 with h4 | h4
 ·exact i7b pc4 h3 (by omega)
 rcases Nat.lt_or_ge n 600 with h5 | h5
 ·exact i7b pc5 h4 (by omega)
 ·exact i7b pc6 h5 (by omega)
def i7v (n:Nat):0<Nat.gcd n 100:=Nat.gcd_pos_of_pos_right _ (by decide)
def i72 {n:Nat}(h:0<n):0<(i5d n).Num:=by
 have h1:Nat.gcd n 100 ∣ n:=Nat.gcd_dvd_left _ _
 have h2:=Nat.div_pos (Nat.le_of_dvd h h1) (i7v n)
 show (0:Int)<((n/Nat.gcd n 100:Nat):Int)
 omega
def j1g (n:Nat):(i5d n).Den≠0:=by
 have h1:Nat.gcd n 100 ∣ 100:=Nat.gcd_dvd_right _ _
 have h2:=Nat.div_pos (Nat.le_of_dvd (by decide) h1) (i7v n)
 show ((100/Nat.gcd n 100:Nat):Int)≠0
 omega
def i9r {n:Nat}(h:n<1000):a01 (n:Int)=some ⟨(i7w n).toArray⟩:=by
 unfold a01
 have q1:c2t (n:Int) 100=some ((n/100:Nat):Int):=by unfold c2t;rw [if_neg (by decide),Int.tdiv_eq_ediv_of_nonneg (by omega),e9 (by omega) (by omega)];congr 1
 have q2:c2t (n:Int) 10=some ((n/10:Nat):Int):=by unfold c2t;rw [if_neg (by decide),Int.tdiv_eq_ediv_of_nonneg (by omega),e9 (by omega) (by omega)];congr 1
 have r1:b8t ((n/10:Nat):Int) 10=some ((n/10%10:Nat):Int):=by unfold b8t;rw [if_neg (by decide),Int.tmod_eq_emod_of_nonneg (by omega)];congr 1
 have r2:b8t (n:Int) 10=some ((n%10:Nat):Int):=by unfold b8t;rw [if_neg (by decide),Int.tmod_eq_emod_of_nonneg (by omega)];congr 1
 have l0: ∀m,m<10 -> (g4v 20 m).length <= 1:=fun m hm=>i6e 20 m 0 (by omega)
 have a0:=l0 (n/100) (by omega)
 have a1:=l0 (n/10%10) (by omega)
 have a2:=l0 (n%10) (by omega)
 have c1:a7f ⟨(g4v 20 (n/100)).toArray⟩ b1i=some ⟨(g4v 20 (n/100)++[46]).toArray⟩:=i9w (b:=[46]) (by simp;omega)
 have c2:a7f ⟨(g4v 20 (n/100)++[46]).toArray⟩ ⟨(g4v 20 (n/10%10)).toArray⟩=some ⟨(g4v 20 (n/100)++[46]++g4v 20 (n/10%10)).toArray⟩:=i9w (by simp;omega)
 have c3:a7f ⟨(g4v 20 (n/100)++[46]++g4v 20 (n/10%10)).toArray⟩ ⟨(g4v 20 (n%10)).toArray⟩=some ⟨(g4v 20 (n/100)++[46]++g4v 20 (n/10%10)++g4v 20 (n%10)).toArray⟩:=i9w (by simp;omega)
 simp only [q1,q2,r1,r2,qA,i5o (show n/100<1000000 by omega),i5o (show n/10%10<1000000 by omega),i5o (show n%10<1000000 by omega),c1,c2,c3]
 unfold i7w
 simp
structure Ps where
 day:Int
 date:List UInt8
 m:Int
 mx:ByteArray
 u:Nat
 l7:Nat
 l10:Nat
 c1:Bool
 c2:Bool
 c3:Bool
 c4:Bool
 c5:Bool
 na:Nat
 nb:Nat
 np:Nat
 yr:Nat
 g1a:Nat
 g1i:Nat
 g1m:Nat
 g2i:Nat
 nd:Nat
 g4i:Nat
 g4m:Nat
 g5i:Nat
 nr:Nat
structure PsOK (P:Ps):Prop where
 dt:i8v (64::P.date) P.day=true
 d0:0 <= P.day
 d1:P.day <= 73048
 mw:j0q P.mx=true
 mo:ofW P.mx 3=some P.m
 m0:1 <= P.m
 m1:P.m <= 4
 mS:nz (a4u j0t P.m)=true
 u0:1 <= P.u
 u1:P.u <= 100000
 l70:1 <= P.l7
 l71:P.l7 <= 73049
 l100:1 <= P.l10
 l101:P.l10 <= 73049
 na0:1 <= P.na
 na1:P.na<700
 nb0:1 <= P.nb
 nb1:P.nb<700
 np1:P.np<700
 nd1:P.nd<700
 nr1:P.nr<700
 yr1:P.yr <= 100000
 a1:P.g1a <= 100000
 a2:P.g1i <= 100000
 a3:P.g1m <= 100000
 a4:P.g2i <= 100000
 a5:P.g4i <= 100000
 a6:P.g4m <= 100000
 a7:P.g5i <= 100000
def Ps.prs (P:Ps):O (O Lx×Cl):=
 [(lC6,.credit 6 0),(lC7 P.l7,.credit 7 P.l7)]++((if P.c1 then [(j83 P.l10,.credit 10 P.l10)] else [])++((if P.c2 then [(lC5,.credit 5 0)] else [])++
 ([(lI0,.index 1960 ⟨1,1⟩),(lI1 (i7w P.na) (i5d P.na),.index 1980 (i5d P.na)),(lI2 (i7w P.nb) (i5d P.nb),.index 1995 (i5d P.nb)),(lL1 P.yr,.lett i4l (aL1 P.yr)),(lL2 (i7w P.np) (i5d P.np),.lett i4z (aL2 (i5d P.np))),
   (lG1 P.g1a P.g1i P.g1m,.grant 1 (j8j P.g1a P.g1i) (j97 P.g1m)),(lG2 P.g2i (i7w P.nd) (i5d P.nd),.grant 2 (j1k P.g2i) (k0i (i5d P.nd)))]++
 ((if P.c3 then [(lG3,.grant 3 j7n j7q)] else [])++([(lG4 P.g4i P.g4m,.grant 4 (j1k P.g4i) (k0h P.g4m)),(lG5 P.g5i,.grant 5 (j1k P.g5i) k0a)]++
 ((if P.c4 then [(lR1 (i7w P.nr) (i5d P.nr),.reduce 1 (aR1 (i5d P.nr)))] else [])++(if P.c5 then [(lR2,.reduce 2 aR2)] else [])))))))
def j1p (P:Ps):O Lx:=[W c4c,⟨.d P.day,64::P.date,true⟩,Sg e8b,W c14,W P.mx,num P.u [] 2 false,Sg c3s]
def Ps.cls (P:Ps):O Cl:=P.prs.map (·.2)
def fl (l:O (O Lx×Cl)):O Lx:=l.flatMap (·.1)
def lxV (P:Ps):O Lx:=j1p P++(fl P.prs++[Sg d0a])
structure PrOK (p:List Lx×Cl):Prop where
 k:i6u p.1=true
 n:i9o p.1
 r: ∀ts,ClR (tk p.1 ts) p.2 ts
def i63 {α:Type}{b:Bool}{x:α}{l:O α}(h:x∈(if b=true then l else [])):x∈l:=by cases b with | false=>cases h | true=>exact h
def j5u {P:Ps}(h:PsOK P): ∀p∈P.prs,PrOK p:=by
 have w2: ∀{n:Nat},n <= 100000 -> NumX (g4v 20 n++[]) ⟨(n:Int),1⟩ 2:=fun hn=> .whole hn (.inl ⟨rfl,rfl⟩)
 have w3: ∀{n:Nat},n <= 100000 -> NumX (g4v 20 n++[100]) ⟨(n:Int),1⟩ 3:=fun hn=> .whole hn (.inr (.inl ⟨rfl,rfl⟩))
 have w4: ∀{n:Nat},n <= 100000 -> NumX (g4v 20 n++[109]) ⟨(n:Int),1⟩ 4:=fun hn=> .whole hn (.inr (.inr ⟨rfl,rfl⟩))
 have h1:=h.l71
 have h2:=h.l101
 have t:=trivial
 intro p hp
 unfold Ps.prs at hp
 rcases qK.1 hp with hp | hp
 ·simp only [qO,List.not_mem_nil,or_false] at hp
  rcases hp with rfl | rfl
  ·exact ⟨kC6,⟨t,t,t,t⟩,rC6⟩
  ·exact ⟨kC7 _,⟨t,t,t,w2 (by omega),t,t⟩,rC7 h.l70 h.l71⟩
 rcases qK.1 hp with hp | hp
 ·have hp:=i63 hp
  rw [qF] at hp;subst hp
  exact ⟨kC10 _,⟨t,t,t,w2 (by omega),t,t⟩,rC10 h.l100 h.l101⟩
 rcases qK.1 hp with hp | hp
 ·have hp:=i63 hp
  rw [qF] at hp;subst hp
  exact ⟨kC5,⟨t,t,t,t⟩,rC5⟩
 rcases qK.1 hp with hp | hp
 ·simp only [qO,List.not_mem_nil,or_false] at hp
  rcases hp with rfl | rfl | rfl | rfl | rfl | rfl | rfl
  ·exact ⟨kI0,⟨t,k1l,x1,t,t⟩,rI0⟩
  ·exact ⟨kI1 _ _,⟨t,k28,i6l h.na1,t,t⟩,rI1 (i72 h.na0) (j1g _)⟩
  ·exact ⟨kI2 _ _,⟨t,k1n,i6l h.nb1,t,t⟩,rI2 (i72 h.nb0) (j1g _)⟩
  ·exact ⟨kL1 _,⟨t,t,t,t,t,w3 h.yr1,t,t⟩,rL1 _⟩
  ·exact ⟨kL2 _ _,⟨t,t,t,t,t,t,t,i6l h.np1,t,k0y,t,t,t⟩,rL2 _ _⟩
  ·exact ⟨kG1 _ _ _,⟨t,t,t,t,t,w2 h.a1,t,t,t,w3 h.a2,t,t,t,t,t,t,t,w4 h.a3,t,t,t⟩,rG1 _ _ _⟩
  ·exact ⟨kG2 _ _ _,⟨t,t,t,t,t,w3 h.a4,t,t,t,i6l h.nd1,t,t⟩,rG2 _ _ _⟩
 rcases qK.1 hp with hp | hp
 ·have hp:=i63 hp
  rw [qF] at hp;subst hp
  exact ⟨kG3,⟨t,t,t,t,t,t,t,m0w,t,t,t,t,t,m0f,t,t⟩,rG3⟩
 rcases qK.1 hp with hp | hp
 ·simp only [qO,List.not_mem_nil,or_false] at hp
  rcases hp with rfl | rfl
  ·exact ⟨kG4 _ _,⟨t,t,t,t,t,w3 h.a5,t,w4 h.a6,t,t,t,t⟩,rG4 _ _⟩
  ·exact ⟨kG5 _,⟨t,t,t,t,t,w3 h.a7,t,t,t,x3,t,t,x12,t,m0y,t,t⟩,rG5 _⟩
 rcases qK.1 hp with hp | hp
 ·have hp:=i63 hp
  rw [qF] at hp;subst hp
  exact ⟨kR1 _ _,⟨t,t,t,i6l h.nr1,t,t⟩,rR1 _ _⟩
 ·have hp:=i63 hp
  rw [qF] at hp;subst hp
  exact ⟨kR2,⟨t,t,t,t,t,t,x60,t,m0h,t,x1,t,t⟩,rR2⟩
def j6w: ∀(l:O (O Lx×Cl)),(∀p∈l,PrOK p) -> ∀rest,okA (fl l) rest
 | [],_,_=>trivial
 | p::l,h,rest=>i4u p.1 (fl l) rest (i6s p.1 (h p (by simp)).k (h p (by simp)).n _) (j6w l (fun q hq=>h q (by simp [hq])) rest)
def j70: ∀(l:O (O Lx×Cl)),(∀p∈l,PrOK p) -> ∀ts,ClsR (tk (fl l++[Sg d0a]) ts) (l.map (·.2)) ts
 | [],_,ts=>ClsR.nil
 | p::l,h,ts=>by
   have h1:=(h p (by simp)).r (tk (fl l++[Sg d0a]) ts)
   have h2:=j70 l (fun q hq=>h q (by simp [hq])) ts
   have e:tk (fl (p::l)++[Sg d0a]) ts=tk p.1 (tk (fl l++[Sg d0a]) ts):=by
    unfold tk fl
    simp
   rw [e]
   exact ClsR.cons h1 h2
def j7u (P:Ps):P.cls.length <= 900:=by
 unfold Ps.cls Ps.prs
 simp only [List.length_map,qL,qR,qS]
 have e: ∀(b:Bool)(x:O Lx×Cl),(if b=true then [x] else []).length <= 1:=fun b x=>by cases b<;>simp
 have e1:=e P.c1 (j83 P.l10,.credit 10 P.l10)
 have e2:=e P.c2 (lC5,.credit 5 0)
 have e3:=e P.c3 (lG3,.grant 3 j7n j7q)
 have e4:=e P.c4 (lR1 (i7w P.nr) (i5d P.nr),.reduce 1 (aR1 (i5d P.nr)))
 have e5:=e P.c5 (lR2,.reduce 2 aR2)
 omega
def Ps.ver (P:Ps):Version:=j9i P.day P.m P.u P.cls
def j9a {P:Ps}(h:PsOK P)(ts:O Tk):VerR (tk (lxV P) ts) P.ver ts:=by
 refine ⟨⟨P.day,P.m,P.u,P.mx,P.cls,tk (fl P.prs++[Sg d0a]) ts,?_,h.mo,by have:=h.m0;omega,by have:=h.u0;omega,by have:=h.u1;omega,j70 P.prs (j5u h) ts,j7u P,rfl⟩⟩
 unfold lxV tk
 rw [List.map_append,qQ]
 rfl
def j32 {P:Ps}(h:PsOK P)(rest:O UInt8):okA (lxV P) rest:=by
 have k0:i6u (j1p P)=true:=by
  unfold j1p
  simp only [i6u,W,Sg,num,N,BEq.rfl,nx,h.dt,h.mw,Bool.true_and,Bool.and_true,Bool.true_or]
  kernel_rfl
 have n0:i9o (j1p P):=⟨trivial,trivial,trivial,trivial,trivial,.whole h.u1 (.inl ⟨rfl,rfl⟩),trivial,trivial⟩
 refine i4u _ _ _ (i6s _ k0 n0 _) (i4u _ _ _ (j6w _ (j5u h) _) (i6s [Sg d0a] (by kernel_rfl) ⟨trivial,trivial⟩ _))
def i9c:O iQ:=[⟨i4l,2⟩,⟨i4z,2⟩]
def Ps.crs (P:Ps):O Credit:=[⟨6,0⟩,⟨7,P.l7⟩]++((if P.c1 then [⟨10,P.l10⟩] else [])++(if P.c2 then [⟨5,0⟩] else []))
def Ps.ixs (P:Ps):O Index:=[⟨1960,⟨1,1⟩⟩,⟨1980,i5d P.na⟩,⟨1995,i5d P.nb⟩]
def Ps.lts (P:Ps):O Let:=[⟨i4l,(aL1 P.yr).e⟩,⟨i4z,(aL2 (i5d P.np)).e⟩]
def Ps.grs (P:Ps):O Grant:=[⟨1,(j8j P.g1a P.g1i).e,(j97 P.g1m).e⟩,⟨2,(j1k P.g2i).e,(k0i (i5d P.nd)).e⟩]++((if P.c3 then [⟨3,j7n.e,j7q.e⟩] else [])++[⟨4,(j1k P.g4i).e,(k0h P.g4m).e⟩,⟨5,(j1k P.g5i).e,k0a.e⟩])
def Ps.rds (P:Ps):O Reduce:=(if P.c4 then [⟨1,(aR1 (i5d P.nr)).e⟩] else [])++(if P.c5 then [⟨2,aR2.e⟩] else [])
def j73 (P:Ps):P.ver=⟨P.day,⟨P.m,P.u⟩,P.crs,P.ixs,P.lts,P.grs,P.rds⟩:=by
 obtain ⟨day,date,m,mx,u,l7,l10,c1,c2,c3,c4,c5,na,nb,np,yr,g1a,g1i,g1m,g2i,nd,g4i,g4m,g5i,nr⟩:=P
 cases c1<;>cases c2<;>cases c3<;>cases c4<;>cases c5<;>rfl
def i4x {w:O UInt8}{v:fQ}{d:Int}(h:NumX w v d):(AE.lit v d).ok:= .mk ⟨h.f5,h.fS⟩ fun b hb=>by cases hb
def i7r {s:A4}(h:(match a2e s,b0e s with | some true,some true=>true | _,_=>false)=true):(AE.nm s).ok:=by
 refine .mk ?_ fun b hb=>by cases hb
 split at h
 ·rename_i h1 h2;exact ⟨h1,h2⟩
 ·cases h
def j7g {k:Int}(h0:1 <= k)(h1:k <= 45):(AE.best k).ok:= .mk ⟨h0,h1⟩ fun b hb=>by cases hb
def i4m {op:Int}{a b:AE}(h0:7 <= op)(h1:op <= 20)(ha:a.ok)(hb:b.ok):(AE.bin op a b).ok:= .mk ⟨h0,h1⟩ fun x hx=>by simp [AE.args] at hx;rcases hx with rfl | rfl<;>assumption
def k0f {a b c:AE}(ha:a.ok)(hb:b.ok)(hc:c.ok):(AE.ite a b c).ok:= .mk trivial fun x hx=>by simp [AE.args] at hx;rcases hx with rfl | rfl | rfl<;>assumption
def j9e:(AE.nm e0r).ok:=i7r (by kernel_rfl)
def j31:(AE.nm b6u).ok:=i7r (by kernel_rfl)
def j2x:(AE.nm e39).ok:=i7r (by kernel_rfl)
def i9m:(AE.nm i4z).ok:=i7r (by kernel_rfl)
def i6r:(AE.nm i4l).ok:=i7r (by kernel_rfl)
def j3u:(AE.nm c5w).ok:=i7r (by kernel_rfl)
def k15:(AE.nm c3c).ok:=i7r (by kernel_rfl)
def k16:(AE.nm c6q).ok:=i7r (by kernel_rfl)
def env0:j01 []:=⟨by simp,fun b hb=>by cases hb⟩
def env1:j01 [⟨i4l,2⟩]:=⟨by simp,fun b hb=>by rw [qF] at hb;subst hb;exact ⟨by show (1:Int) <= 2;decide,by show (2:Int) <= 4;decide⟩⟩
def env2:j01 i9c:=⟨by simp [i9c],fun b hb=>by
 simp only [i9c,qO,List.not_mem_nil,or_false] at hb
 rcases hb with rfl | rfl<;>exact ⟨by show (1:Int) <= 2;decide,by show (2:Int) <= 4;decide⟩⟩
def j3p {env:O iQ}{a:AE}{d:Int}(h:a.ok)(hd:Nat.ble a.dep 10=true)(hs:Nat.ble a.sz 60=true)(hi:a.inf env=some d)(hj:a.inf5 env=some d):ExOK env a.e d:=⟨a,rfl,h,qW hd,qW hs,hi,hj⟩
def j6k {s:A4}(h:(AE.nm s).ok):b9o s=some true:=by
 unfold b9o
 rw [show (⟨2,⟨0,0⟩,0,s,[]⟩:Expr)=(AE.nm s).e from rfl,i5t h (show 1 <= 10 by decide) (show 1 <= 60 by decide)]
 rfl
def j9p {P:Ps}(h:PsOK P):b9n P.lts=some (i9c,0):=by
 have k1:(aL1 P.yr).ok:=i4m (by decide) (by decide) j31 (i4x (.whole h.yr1 (.inr (.inl ⟨rfl,rfl⟩))))
 have k2:(aL2 (i5d P.np)).ok:=i4m (by decide) (by decide) (i4m (by decide) (by decide) i6r (i4x (i6l h.np1))) (i4x k0y)
 have i1:=i8s env0 k1 (qW (by kernel_rfl)) (qW (by kernel_rfl)) (d:=2) (by kernel_rfl)
 have i2:=i8s env1 k2 (qW (by kernel_rfl)) (qW (by kernel_rfl)) (d:=2) (by kernel_rfl)
 unfold b9n
 have hlen:P.lts.length=2:=rfl
 rw [if_neg (by rw [hlen];decide)]
 obtain ⟨m,hm⟩:=j17
 rw [hm,d24]
 generalize hA:d9 (m+1+1) (i4k P.lts)=A
 unfold i4k
 have g0:c7 P.lts 0=some ⟨i4l,(aL1 P.yr).e⟩:=rfl
 have g1:c7 P.lts 1=some ⟨i4z,(aL2 (i5d P.np)).e⟩:=rfl
 have c0:a0q [] ⟨i4l,(aL1 P.yr).e⟩=some false:=by kernel_rfl
 have c1:a0q [⟨i4l,2⟩] ⟨i4z,(aL2 (i5d P.np)).e⟩=some false:=by kernel_rfl
 have n0:b4n i4l=some (0,false):=by kernel_rfl
 have n1:b4n i4z=some (0,false):=by kernel_rfl
 have a0:a4n 24 ([]:O iQ) [⟨i4l,2⟩]=some [⟨i4l,2⟩]:=i5u (by simp) (by decide)
 have a1:a4n 24 ([⟨i4l,2⟩]:O iQ) [⟨i4z,2⟩]=some i9c:=i5u (by simp) (by decide)
 simp only [hlen,show decide ((0:Int)<((2:Nat):Int))=true from rfl,if_true,g0,qA,n0,qM,if_false,j6k i6r,qU,c0,i1,show ((0:Int) != 0)=false from rfl,a0]
 rw [<- hA,d24]
 generalize hB:d9 (m+1) (i4k P.lts)=B
 unfold i4k
 simp only [hlen,show i64 (0+1)=1 from rfl,show decide ((1:Int)<((2:Nat):Int))=true from rfl,if_true,g1,qA,n1,qM,if_false,j6k i9m,qU,c1,i2,show ((0:Int) != 0)=false from rfl,a1]
 rw [<- hB,d24]
 unfold i4k
 simp only [hlen,show i64 (1+1)=2 from rfl,show decide ((2:Int)<((2:Nat):Int))=false from rfl,qM,if_false]
def l74 {P:Ps}(h:PsOK P):h6o P.lts=some (i9c,0):=by
 have k1:(aL1 P.yr).ok:=i4m (by decide) (by decide) j31 (i4x (.whole h.yr1 (.inr (.inl ⟨rfl,rfl⟩))))
 have k2:(aL2 (i5d P.np)).ok:=i4m (by decide) (by decide) (i4m (by decide) (by decide) i6r (i4x (i6l h.np1))) (i4x k0y)
 have i1:=h9g env0 k1 (qW (by kernel_rfl)) (qW (by kernel_rfl)) (d:=2) (by kernel_rfl)
 have i2:=h9g env1 k2 (qW (by kernel_rfl)) (qW (by kernel_rfl)) (d:=2) (by kernel_rfl)
 unfold h6o
 have hlen:P.lts.length=2:=rfl
 rw [if_neg (by rw [hlen];decide)]
 obtain ⟨m,hm⟩:=j17
 have g0:c7 P.lts 0=some ⟨i4l,(aL1 P.yr).e⟩:=rfl
 have g1:c7 P.lts 1=some ⟨i4z,(aL2 (i5d P.np)).e⟩:=rfl
 have n0:h5w i4l=some (0,false):=by kernel_rfl
 have n1:h5w i4z=some (0,false):=by kernel_rfl
 have a0:a4n 24 ([]:O iQ) [⟨i4l,2⟩]=some [⟨i4l,2⟩]:=i5u (by simp) (by decide)
 have a1:a4n 24 ([⟨i4l,2⟩]:O iQ) [⟨i4z,2⟩]=some i9c:=i5u (by simp) (by decide)
 have e1:(i4l.toList==i4z.toList)=false:=by kernel_rfl
 have inner0: ∀r2,d9 FU (h5a ([],0) P.lts r2) ([],0)=r2 ([⟨i4l,2⟩],1):=fun r2=>by
  rw [hm,d24]
  unfold h5a
  simp only [show decide ((0:Int)<0)=false from rfl,qM,if_false,g0,qA,i1,show ((0:Int) != 0)=false from rfl,a0,show i64 (0+1)=1 from rfl]
 have inner1: ∀r2,d9 FU (h5a ([⟨i4l,2⟩],1) P.lts r2) ([⟨i4l,2⟩],0)=r2 (i9c,2):=fun r2=>by
  rw [hm,d24]
  generalize hB:d9 (m+1+1) (h5a ([⟨i4l,2⟩],1) P.lts r2)=B
  unfold h5a
  simp only [show decide ((0:Int)<1)=true from rfl,if_true,g0,g1,qA,e1,qM,if_false,show i64 (0+1)=1 from rfl]
  rw [<- hB,d24]
  unfold h5a
  simp only [show decide ((1:Int)<1)=false from rfl,qM,if_false,g1,qA,i2,show ((0:Int) != 0)=false from rfl,a1,show i64 (1+1)=2 from rfl]
 rw [hm,d24]
 generalize hA:d9 (m+1+1) (h5k P.lts)=A
 unfold h5k
 simp only [hlen,show decide ((0:Int)<((2:Nat):Int))=true from rfl,if_true,g0,qA,n0,qM,if_false,i6r.leaf.1,qU]
 rw [inner0,<- hA,d24]
 generalize hB:d9 (m+1) (h5k P.lts)=B
 unfold h5k
 simp only [hlen,show decide ((1:Int)<((2:Nat):Int))=true from rfl,if_true,g1,qA,n1,qM,if_false,i9m.leaf.1,qU]
 rw [inner1,<- hB,d24]
 unfold h5k
 simp only [hlen,show decide ((2:Int)<((2:Nat):Int))=false from rfl,qM,if_false]
def j2t {P:Ps}(h:PsOK P):VOK i9c P.ver:=by
 have hl7:=h.l71
 have w2: ∀{n:Nat},n <= 100000 -> (AE.lit ⟨(n:Int),1⟩ 2).ok:=fun hn=>i4x (.whole hn (.inl ⟨rfl,rfl⟩))
 have w3: ∀{n:Nat},n <= 100000 -> (AE.lit ⟨(n:Int),1⟩ 3).ok:=fun hn=>i4x (.whole hn (.inr (.inl ⟨rfl,rfl⟩)))
 have w4: ∀{n:Nat},n <= 100000 -> (AE.lit ⟨(n:Int),1⟩ 4).ok:=fun hn=>i4x (.whole hn (.inr (.inr ⟨rfl,rfl⟩)))
 have kIns: ∀{i:Nat},i <= 100000 -> ExOK i9c (j1k i).e 1:=fun hi=>j3p (i4m (by decide) (by decide) j31 (w3 hi)) (by kernel_rfl) (by kernel_rfl) (by kernel_rfl) (by kernel_rfl)
 have k1i:ExOK i9c (j8j P.g1a P.g1i).e 1:=j3p (i4m (by decide) (by decide) (i4m (by decide) (by decide) j9e (w2 h.a1)) (i4m (by decide) (by decide) j31 (w3 h.a2))) (by kernel_rfl) (by kernel_rfl) (by kernel_rfl) (by kernel_rfl)
 have k1p:ExOK i9c (j97 P.g1m).e 4:=j3p (i4m (by decide) (by decide) (i4m (by decide) (by decide) j2x i9m) (w4 h.a3)) (by kernel_rfl) (by kernel_rfl) (by kernel_rfl) (by kernel_rfl)
 have k2p:ExOK i9c (k0i (i5d P.nd)).e 4:=j3p (i4m (by decide) (by decide) j2x (i4x (i6l h.nd1))) (by kernel_rfl) (by kernel_rfl) (by kernel_rfl) (by kernel_rfl)
 have k3i:ExOK i9c j7n.e 1:=j3p (i4m (by decide) (by decide) (i4m (by decide) (by decide) j3u k15) (i4x m0w)) (by kernel_rfl) (by kernel_rfl) (by kernel_rfl) (by kernel_rfl)
 have k3p:ExOK i9c j7q.e 4:=j3p (i4m (by decide) (by decide) (i4m (by decide) (by decide) j2x i9m) (i4x m0f)) (by kernel_rfl) (by kernel_rfl) (by kernel_rfl) (by kernel_rfl)
 have k4p:ExOK i9c (k0h P.g4m).e 4:=j3p (i4m (by decide) (by decide) (w4 h.a6) k16) (by kernel_rfl) (by kernel_rfl) (by kernel_rfl) (by kernel_rfl)
 have k5p:ExOK i9c k0a.e 4:=j3p (i4m (by decide) (by decide) (i4m (by decide) (by decide) (j7g (by decide) (by decide)) (i4x x12)) (i4x m0y)) (by kernel_rfl) (by kernel_rfl) (by kernel_rfl) (by kernel_rfl)
 have kr1:ExOK i9c (aR1 (i5d P.nr)).e 2:=j3p (i4x (i6l h.nr1)) (by kernel_rfl) (by kernel_rfl) (by kernel_rfl) (by kernel_rfl)
 have kr2:ExOK i9c aR2.e 2:=j3p (k0f (i4m (by decide) (by decide) j9e (i4x x60)) (i4x m0h) (i4x x1)) (by kernel_rfl) (by kernel_rfl) (by kernel_rfl) (by kernel_rfl)
 have b1:BnOK 1:=⟨by kernel_rfl,by kernel_rfl⟩
 have b2:BnOK 2:=⟨by kernel_rfl,by kernel_rfl⟩
 have b3:BnOK 3:=⟨by kernel_rfl,by kernel_rfl⟩
 have b4:BnOK 4:=⟨by kernel_rfl,by kernel_rfl⟩
 have b5:BnOK 5:=⟨by kernel_rfl,by kernel_rfl⟩
 have e1: ∀{α:Type}(b:Bool)(x:α),(if b=true then [x] else []).length <= 1:=fun b x=>by cases b<;>simp
 have ls:=j9p h
 have hu:=h.u0
 have hu1:=h.u1
 have hl10:=h.l101
 rw [j73]
 refine ⟨h.d0,h.d1,h.m0,h.m1,h.mS,by show (1:Int) <= (P.u:Int);omega,by show (P.u:Int) <= 100000;omega,?_,by show (3:Nat) <= 20;decide,by show (2:Nat) <= 10;decide,?_,?_,?_,?_,?_,?_,?_,ls,l74 h,?_,env2,?_,?_,?_,?_⟩
 ·show P.crs.length <= 6
  unfold Ps.crs
  have:=e1 P.c1 (⟨10,P.l10⟩:Credit);have:=e1 P.c2 (⟨5,0⟩:Credit)
  simp only [qL,qR,qS];omega
 ·show P.grs.length <= 5
  unfold Ps.grs
  have:=e1 P.c3 (⟨3,j7n.e,j7q.e⟩:Grant)
  simp only [qL,qR,qS];omega
 ·show P.rds.length <= 5
  unfold Ps.rds
  have:=e1 P.c4 (⟨1,(aR1 (i5d P.nr)).e⟩:Reduce);have:=e1 P.c5 (⟨2,aR2.e⟩:Reduce)
  simp only [qL];omega
 ·intro c hc
  have hc:c∈P.crs:=hc
  unfold Ps.crs at hc
  rcases qK.1 hc with hc | hc
  ·simp only [qO,List.not_mem_nil,or_false] at hc
   rcases hc with rfl | rfl
   ·exact ⟨by kernel_rfl,by kernel_rfl,by show (0:Int) <= 0;decide,by show (0:Int) <= 73049;decide⟩
   ·exact ⟨by kernel_rfl,by kernel_rfl,by show (0:Int) <= (P.l7:Int);omega,by show (P.l7:Int) <= 73049;omega⟩
  rcases qK.1 hc with hc | hc
  ·have hc:=i63 hc
   rw [qF] at hc;subst hc
   exact ⟨by kernel_rfl,by kernel_rfl,by show (0:Int) <= (P.l10:Int);omega,by show (P.l10:Int) <= 73049;omega⟩
  ·have hc:=i63 hc
   rw [qF] at hc;subst hc
   exact ⟨by kernel_rfl,by kernel_rfl,by show (0:Int) <= 0;decide,by show (0:Int) <= 73049;decide⟩
 ·show P.crs.Pairwise _
  unfold Ps.crs
  cases P.c1<;>cases P.c2<;>simp
 ·intro x hx
  have hx:x∈P.ixs:=hx
  unfold Ps.ixs at hx
  simp only [qO,List.not_mem_nil,or_false] at hx
  rcases hx with rfl | rfl | rfl
  ·exact ⟨by show (1900:Int) <= 1960;decide,by show (1960:Int) <= 2099;decide,by show (1:Int) <= 1;decide,x1.f5,x1.fS⟩
  ·exact ⟨by show (1900:Int) <= 1980;decide,by show (1980:Int) <= 2099;decide,i72 h.na0,(i6l h.na1).f5,(i6l h.na1).fS⟩
  ·exact ⟨by show (1900:Int) <= 1995;decide,by show (1995:Int) <= 2099;decide,i72 h.nb0,(i6l h.nb1).f5,(i6l h.nb1).fS⟩
 ·show P.ixs.Pairwise _
  unfold Ps.ixs
  simp
 ·intro x hx
  have hx:x∈P.lts:=hx
  unfold Ps.lts at hx
  simp only [qO,List.not_mem_nil,or_false] at hx
  have k1:(aL1 P.yr).ok:=i4m (by decide) (by decide) j31 (w3 h.yr1)
  have k2:(aL2 (i5d P.np)).ok:=i4m (by decide) (by decide) (i4m (by decide) (by decide) i6r (i4x (i6l h.np1))) (i4x k0y)
  rcases hx with rfl | rfl
  ·exact ⟨i6r.leaf.1,i6r.leaf.2,i8r k1 (qW (by kernel_rfl)) (qW (by kernel_rfl)),i5t k1 (qW (by kernel_rfl)) (qW (by kernel_rfl))⟩
  ·exact ⟨i9m.leaf.1,i9m.leaf.2,i8r k2 (qW (by kernel_rfl)) (qW (by kernel_rfl)),i5t k2 (qW (by kernel_rfl)) (qW (by kernel_rfl))⟩
 ·intro x hx
  have hx:x∈P.lts:=hx
  unfold Ps.lts at hx
  simp only [qO,List.not_mem_nil,or_false] at hx
  rcases hx with rfl | rfl
  ·exact ⟨_,rfl,i4m (by decide) (by decide) j31 (w3 h.yr1),qW (by kernel_rfl)⟩
  ·exact ⟨_,rfl,i4m (by decide) (by decide) (i4m (by decide) (by decide) i6r (i4x (i6l h.np1))) (i4x k0y),qW (by kernel_rfl)⟩
 ·intro g hg
  have hg:g∈P.grs:=hg
  unfold Ps.grs at hg
  rcases qK.1 hg with hg | hg
  ·simp only [qO,List.not_mem_nil,or_false] at hg
   rcases hg with rfl | rfl
   ·exact ⟨b1,k1i,k1p⟩
   ·exact ⟨b2,kIns h.a4,k2p⟩
  rcases qK.1 hg with hg | hg
  ·have hg:=i63 hg
   rw [qF] at hg;subst hg
   exact ⟨b3,k3i,k3p⟩
  ·simp only [qO,List.not_mem_nil,or_false] at hg
   rcases hg with rfl | rfl
   ·exact ⟨b4,kIns h.a5,k4p⟩
   ·exact ⟨b5,kIns h.a7,k5p⟩
 ·show P.grs.Pairwise _
  unfold Ps.grs
  cases P.c3<;>simp
 ·intro r hr
  have hr:r∈P.rds:=hr
  unfold Ps.rds at hr
  rcases qK.1 hr with hr | hr
  ·have hr:=i63 hr
   rw [qF] at hr;subst hr
   exact ⟨b1,kr1⟩
  ·have hr:=i63 hr
   rw [qF] at hr;subst hr
   exact ⟨b2,kr2⟩
 ·show P.rds.Pairwise _
  unfold Ps.rds
  cases P.c4<;>cases P.c5<;>simp
def i3y {a b c:A4}(h:a7f a b=some c):bl c=bl a++bl b:=by
 unfold a7f at h
 split at h
 ·have h:=qH h
  subst h
  unfold bl
  rw [ByteArray.data_append,Array.toList_append]
 ·cases h
def i48 {a n v:Int}(h:b7 a n=some v)(hn:0<n)(h1:n <= 9223372036854775807):0 <= v /\ v<n:=by
 obtain ⟨r,hr,h2⟩:=a1i (a:=a) hn h1
 rw [hr] at h
 have h:=qH h
 subst h
 exact h2
def i7c {x:Int}{s:A4}(h:i8 x=some s){n:Nat}(e:x=(n:Int))(hn:n<1000000):bl s=g4v 20 n:=by
 subst e
 rw [i5o hn] at h
 have h:=qH h
 subst h
 rfl
def j2v {x:Int}{s:A4}(h:a01 x=some s){n:Nat}(e:x=(n:Int))(hn:n<1000):bl s=i7w n:=by
 subst e
 rw [i9r hn] at h
 have h:=qH h
 subst h
 rfl
def T (l:O (O Lx×Cl)):O UInt8:=i40 (fl l)
def i6y (p:O Lx×Cl)(l:O (O Lx×Cl)):T (p::l)=i40 p.1++T l:=by
 unfold T fl
 rw [List.flatMap_cons,i47]
def i9h:T []=[]:=rfl
def i5m (a b:O (O Lx×Cl)):T (a++b)=T a++T b:=by
 unfold T fl
 rw [List.flatMap_append,i47]
def tEnd:i40 [Sg d0a]=bl d3i:=rfl
def tC67 (n:Nat):i40 lC6++i40 (lC7 n)=bl d01++(g4v 20 n++bl b7x):=by
 simp only [i40,lC6,lC7,W,Sg,Wn,Sh,num,N,blk,cond_true,cond_false,qQ,List.nil_append];rfl
def tC10 (n:Nat):i40 (j83 n)=bl c8s++(g4v 20 n++bl b7x):=by
 simp only [i40,j83,W,Sg,Wn,Sh,num,N,blk,cond_true,cond_false,qQ,List.nil_append];rfl
def tC5:i40 lC5=bl c9v:=by kernel_rfl
def tI (w1 w2:O UInt8)(v1 v2:fQ):i40 lI0++(i40 (lI1 w1 v1)++i40 (lI2 w2 v2))=bl c9k++(w1++(bl c9z++(w2++bl b7x))):=by
 simp only [i40,lI0,lI1,lI2,W,Sg,Wn,Sh,num,N,blk,cond_true,cond_false,qQ,List.nil_append];rfl
def tL (n:Nat)(w:O UInt8)(v:fQ):i40 (lL1 n)++i40 (lL2 w v)=bl c83++(g4v 20 n++(bl c8f++(w++bl d0e))):=by
 simp only [i40,lL1,lL2,W,Sg,Wn,Sh,num,N,blk,cond_true,cond_false,qQ,List.nil_append];rfl
def tG1 (a i m:Nat):i40 (lG1 a i m)=bl c8t++(g4v 20 a++(bl c8p++(g4v 20 i++(bl d02++(g4v 20 m++bl c6o))))):=by
 simp only [i40,lG1,W,Sg,Wn,Sh,num,N,blk,cond_true,cond_false,qQ,List.nil_append];rfl
def tG2 (i:Nat)(w:O UInt8)(v:fQ):i40 (lG2 i w v)=bl c8d++(g4v 20 i++(bl c80++(w++bl b7x))):=by
 simp only [i40,lG2,W,Sg,Wn,Sh,num,N,blk,cond_true,cond_false,qQ,List.nil_append];rfl
def tG3:i40 lG3=bl c9d:=by kernel_rfl
def tG4 (i m:Nat):i40 (lG4 i m)=bl c86++(g4v 20 i++(bl d1p++(g4v 20 m++bl c9u))):=by
 simp only [i40,lG4,W,Sg,Wn,Sh,num,N,blk,cond_true,cond_false,qQ,List.nil_append];rfl
def tG5 (i:Nat):i40 (lG5 i)=bl c9l++(g4v 20 i++bl c7y):=by
 simp only [i40,lG5,W,Sg,Wn,Sh,num,N,blk,cond_true,cond_false,qQ,List.nil_append];rfl
def tR1 (w:O UInt8)(v:fQ):i40 (lR1 w v)=bl b7g++(w++bl b7x):=by
 simp only [i40,lR1,W,Sg,Wn,Sh,num,N,blk,cond_true,cond_false,qQ,List.nil_append];rfl
def tR2:i40 lR2=bl c8b:=by kernel_rfl
def q5 (c5:Bool):O (O Lx×Cl):=if c5 then [(lR2,.reduce 2 aR2)] else []
def q4 (g4i g4m g5i nr:Nat)(c4 c5:Bool):O (O Lx×Cl):=[(lG4 g4i g4m,.grant 4 (j1k g4i) (k0h g4m)),(lG5 g5i,.grant 5 (j1k g5i) k0a)]++((if c4 then [(lR1 (i7w nr) (i5d nr),.reduce 1 (aR1 (i5d nr)))] else [])++q5 c5)
def q3 (na nb np yr g1a g1i g1m g2i nd g4i g4m g5i nr:Nat)(c3 c4 c5:Bool):O (O Lx×Cl):=
 [(lI0,.index 1960 ⟨1,1⟩),(lI1 (i7w na) (i5d na),.index 1980 (i5d na)),(lI2 (i7w nb) (i5d nb),.index 1995 (i5d nb)),(lL1 yr,.lett i4l (aL1 yr)),(lL2 (i7w np) (i5d np),.lett i4z (aL2 (i5d np))),
   (lG1 g1a g1i g1m,.grant 1 (j8j g1a g1i) (j97 g1m)),(lG2 g2i (i7w nd) (i5d nd),.grant 2 (j1k g2i) (k0i (i5d nd)))]++
 ((if c3 then [(lG3,.grant 3 j7n j7q)] else [])++q4 g4i g4m g5i nr c4 c5)
structure Q4OK (g4i g4m g5i nr:Nat):Prop where
 h1:g4i <= 100000
 h2:g4m <= 100000
 h3:g5i <= 100000
 h4:nr<700
structure Q3OK (na nb np g1a g1i g1m g2i nd:Nat):Prop where
 h1:1 <= na
 h2:na<700
 h3:1 <= nb
 h4:nb<700
 h5:np<700
 h6:nd<700
 h7:g1a <= 100000
 h8:g1i <= 100000
 h9:g1m <= 100000
 h10:g2i <= 100000
section
variable {n:O Int} {k:Int} {pre r:A4}
def j2z (hr:joinC a5b (n,k,pre)=some r): ∃c5,bl r=bl pre++(T (q5 c5)++bl d3i):=by
 unfold joinC a5b at hr
 dsimp only at hr
 obtain ⟨v105,h105,hr⟩:=qP.1 hr
 obtain ⟨v106,h106,hr⟩:=qP.1 hr
 have b106:=i48 h106 (by decide) (by decide)
 obtain ⟨v106,rfl⟩:=qT b106.1
 split at hr
 ·refine ⟨true,?_⟩
  obtain ⟨v107,h107,hr⟩:=qP.1 hr
  have t107:=i3y h107
  obtain ⟨v108,h108,hr⟩:=qP.1 hr
  have t108:=i3y h108
  have hr:=qH hr
  subst hr
  have e5:T (q5 true)=bl c8b:=by
   unfold q5
   rw [if_pos rfl,i6y,i9h,List.append_nil]
   exact tR2
  rw [t108,t107,qQ,e5]
 ·refine ⟨false,?_⟩
  obtain ⟨v109,h109,hr⟩:=qP.1 hr
  have t109:=i3y h109
  have hr:=qH hr
  subst hr
  rw [t109]
  rfl
def j2h (hr:joinC a5c (n,k,pre)=some r): ∃g4i g4m g5i nr c4 c5,Q4OK g4i g4m g5i nr /\ bl r=bl pre++(T (q4 g4i g4m g5i nr c4 c5)++bl d3i):=by
 unfold joinC a5c at hr
 dsimp only at hr
 obtain ⟨v79,h79,hr⟩:=qP.1 hr
 obtain ⟨v80,h80,hr⟩:=qP.1 hr
 have b80:=i48 h80 (by decide) (by decide)
 obtain ⟨v80,rfl⟩:=qT b80.1
 obtain ⟨v81,h81,hr⟩:=qP.1 hr
 have t81:=i7c h81 (n:=v80) rfl (by omega)
 obtain ⟨v82,h82,hr⟩:=qP.1 hr
 have t82:=i3y h82
 obtain ⟨v83,h83,hr⟩:=qP.1 hr
 have t83:=i3y h83
 obtain ⟨v84,h84,hr⟩:=qP.1 hr
 obtain ⟨v85,h85,hr⟩:=qP.1 hr
 have b85:=i48 h85 (by decide) (by decide)
 obtain ⟨v85,rfl⟩:=qT b85.1
 obtain ⟨v86,h86,hr⟩:=qP.1 hr
 have t86:=i7c h86 (n:=10+v85) (by rw [e9 (by omega) (by omega)];omega) (by omega)
 obtain ⟨v87,h87,hr⟩:=qP.1 hr
 have t87:=i3y h87
 obtain ⟨v88,h88,hr⟩:=qP.1 hr
 have t88:=i3y h88
 obtain ⟨v89,h89,hr⟩:=qP.1 hr
 have t89:=i3y h89
 obtain ⟨v90,h90,hr⟩:=qP.1 hr
 obtain ⟨v91,h91,hr⟩:=qP.1 hr
 have b91:=i48 h91 (by decide) (by decide)
 obtain ⟨v91,rfl⟩:=qT b91.1
 obtain ⟨v92,h92,hr⟩:=qP.1 hr
 have t92:=i7c h92 (n:=v91) rfl (by omega)
 obtain ⟨v93,h93,hr⟩:=qP.1 hr
 have t93:=i3y h93
 obtain ⟨v94,h94,hr⟩:=qP.1 hr
 have t94:=i3y h94
 obtain ⟨v95,h95,hr⟩:=qP.1 hr
 have t95:=i3y h95
 obtain ⟨v96,h96,hr⟩:=qP.1 hr
 obtain ⟨v97,h97,hr⟩:=qP.1 hr
 have b97:=i48 h97 (by decide) (by decide)
 obtain ⟨v97,rfl⟩:=qT b97.1
 split at hr
 ·have hr0:=hr
  obtain ⟨v98,h98,hr⟩:=qP.1 hr
  obtain ⟨v99,h99,hr⟩:=qP.1 hr
  have b99:=i48 h99 (by decide) (by decide)
  obtain ⟨v99,rfl⟩:=qT b99.1
  obtain ⟨v100,h100,hr⟩:=qP.1 hr
  have t100:=j2v h100 (n:=10*v99) (by rw [e9 (by omega) (by omega)];omega) (by omega)
  obtain ⟨v101,h101,hr⟩:=qP.1 hr
  have t101:=i3y h101
  obtain ⟨v102,h102,hr⟩:=qP.1 hr
  have t102:=i3y h102
  obtain ⟨v103,h103,hr⟩:=qP.1 hr
  have t103:=i3y h103
  obtain ⟨c5,e⟩:=j2z hr
  refine ⟨v80,10+v85,v91,10*v99,true,c5,⟨by omega,by omega,by omega,by omega⟩,?_⟩
  rw [e,t103,t102,t101,t100,t95,t94,t93,t92,t89,t88,t87,t86,t83,t82,t81]
  simp only [q4,if_true,i5m,i6y,i9h,tG4,tG5,tR1,qQ,List.append_nil,List.nil_append]
 ·obtain ⟨c5,e⟩:=j2z hr
  refine ⟨v80,10+v85,v91,0,false,c5,⟨by omega,by omega,by omega,by omega⟩,?_⟩
  rw [e,t95,t94,t93,t92,t89,t88,t87,t86,t83,t82,t81]
  simp only [q4,qM,if_false,i5m,i6y,i9h,tG4,tG5,qQ,List.append_nil,List.nil_append]
def j3c {yt:A4}{yr:Nat}(hy:bl yt=g4v 20 yr)(hr:joinC a5j (n,k,yt,pre)=some r): ∃na nb np g1a g1i g1m g2i nd g4i g4m g5i nr c3 c4 c5,Q3OK na nb np g1a g1i g1m g2i nd /\ Q4OK g4i g4m g5i nr /\ bl r=bl pre++(T (q3 na nb np yr g1a g1i g1m g2i nd g4i g4m g5i nr c3 c4 c5)++bl d3i):=by
 unfold joinC a5j at hr
 dsimp only at hr
 obtain ⟨v29,h29,hr⟩:=qP.1 hr
 obtain ⟨v30,h30,hr⟩:=qP.1 hr
 have b30:=i48 h30 (by decide) (by decide)
 obtain ⟨v30,rfl⟩:=qT b30.1
 obtain ⟨v31,h31,hr⟩:=qP.1 hr
 have t31:=j2v h31 (n:=100+v30) (by rw [e9 (by omega) (by omega)];omega) (by omega)
 obtain ⟨v32,h32,hr⟩:=qP.1 hr
 have t32:=i3y h32
 obtain ⟨v33,h33,hr⟩:=qP.1 hr
 have t33:=i3y h33
 obtain ⟨v34,h34,hr⟩:=qP.1 hr
 obtain ⟨v35,h35,hr⟩:=qP.1 hr
 have b35:=i48 h35 (by decide) (by decide)
 obtain ⟨v35,rfl⟩:=qT b35.1
 obtain ⟨v36,h36,hr⟩:=qP.1 hr
 have t36:=j2v h36 (n:=400+v35) (by rw [e9 (by omega) (by omega)];omega) (by omega)
 obtain ⟨v37,h37,hr⟩:=qP.1 hr
 have t37:=i3y h37
 obtain ⟨v38,h38,hr⟩:=qP.1 hr
 have t38:=i3y h38
 obtain ⟨v39,h39,hr⟩:=qP.1 hr
 have t39:=i3y h39
 obtain ⟨v40,h40,hr⟩:=qP.1 hr
 have t40:=i3y h40
 obtain ⟨v41,h41,hr⟩:=qP.1 hr
 have t41:=i3y h41
 obtain ⟨v42,h42,hr⟩:=qP.1 hr
 obtain ⟨v43,h43,hr⟩:=qP.1 hr
 have b43:=i48 h43 (by decide) (by decide)
 obtain ⟨v43,rfl⟩:=qT b43.1
 obtain ⟨v44,h44,hr⟩:=qP.1 hr
 have t44:=j2v h44 (n:=1+v43) (by rw [e9 (by omega) (by omega)];omega) (by omega)
 obtain ⟨v45,h45,hr⟩:=qP.1 hr
 have t45:=i3y h45
 obtain ⟨v46,h46,hr⟩:=qP.1 hr
 have t46:=i3y h46
 obtain ⟨v47,h47,hr⟩:=qP.1 hr
 have t47:=i3y h47
 obtain ⟨v48,h48,hr⟩:=qP.1 hr
 obtain ⟨v49,h49,hr⟩:=qP.1 hr
 have b49:=i48 h49 (by decide) (by decide)
 obtain ⟨v49,rfl⟩:=qT b49.1
 obtain ⟨v50,h50,hr⟩:=qP.1 hr
 have t50:=i7c h50 (n:=50+v49) (by rw [e9 (by omega) (by omega)];omega) (by omega)
 obtain ⟨v51,h51,hr⟩:=qP.1 hr
 have t51:=i3y h51
 obtain ⟨v52,h52,hr⟩:=qP.1 hr
 have t52:=i3y h52
 obtain ⟨v53,h53,hr⟩:=qP.1 hr
 obtain ⟨v54,h54,hr⟩:=qP.1 hr
 have b54:=i48 h54 (by decide) (by decide)
 obtain ⟨v54,rfl⟩:=qT b54.1
 obtain ⟨v55,h55,hr⟩:=qP.1 hr
 have t55:=i7c h55 (n:=v54) rfl (by omega)
 obtain ⟨v56,h56,hr⟩:=qP.1 hr
 have t56:=i3y h56
 obtain ⟨v57,h57,hr⟩:=qP.1 hr
 have t57:=i3y h57
 obtain ⟨v58,h58,hr⟩:=qP.1 hr
 obtain ⟨v59,h59,hr⟩:=qP.1 hr
 have b59:=i48 h59 (by decide) (by decide)
 obtain ⟨v59,rfl⟩:=qT b59.1
 obtain ⟨v60,h60,hr⟩:=qP.1 hr
 have t60:=i7c h60 (n:=v59) rfl (by omega)
 obtain ⟨v61,h61,hr⟩:=qP.1 hr
 have t61:=i3y h61
 obtain ⟨v62,h62,hr⟩:=qP.1 hr
 have t62:=i3y h62
 obtain ⟨v63,h63,hr⟩:=qP.1 hr
 have t63:=i3y h63
 obtain ⟨v64,h64,hr⟩:=qP.1 hr
 obtain ⟨v65,h65,hr⟩:=qP.1 hr
 have b65:=i48 h65 (by decide) (by decide)
 obtain ⟨v65,rfl⟩:=qT b65.1
 obtain ⟨v66,h66,hr⟩:=qP.1 hr
 have t66:=i7c h66 (n:=v65) rfl (by omega)
 obtain ⟨v67,h67,hr⟩:=qP.1 hr
 have t67:=i3y h67
 obtain ⟨v68,h68,hr⟩:=qP.1 hr
 have t68:=i3y h68
 obtain ⟨v69,h69,hr⟩:=qP.1 hr
 obtain ⟨v70,h70,hr⟩:=qP.1 hr
 have b70:=i48 h70 (by decide) (by decide)
 obtain ⟨v70,rfl⟩:=qT b70.1
 obtain ⟨v71,h71,hr⟩:=qP.1 hr
 have t71:=j2v h71 (n:=20+v70) (by rw [e9 (by omega) (by omega)];omega) (by omega)
 obtain ⟨v72,h72,hr⟩:=qP.1 hr
 have t72:=i3y h72
 obtain ⟨v73,h73,hr⟩:=qP.1 hr
 have t73:=i3y h73
 obtain ⟨v74,h74,hr⟩:=qP.1 hr
 have t74:=i3y h74
 obtain ⟨v75,h75,hr⟩:=qP.1 hr
 obtain ⟨v76,h76,hr⟩:=qP.1 hr
 have b76:=i48 h76 (by decide) (by decide)
 obtain ⟨v76,rfl⟩:=qT b76.1
 have eI:=tI (i7w (100+v30)) (i7w (400+v35)) (i5d (100+v30)) (i5d (400+v35))
 have eL:=tL yr (i7w (1+v43)) (i5d (1+v43))
 split at hr
 ·have hr0:=hr
  obtain ⟨v77,h77,hr⟩:=qP.1 hr
  have t77:=i3y h77
  obtain ⟨g4i,g4m,g5i,nr,c4,c5,hq,e⟩:=j2h hr
  refine ⟨100+v30,400+v35,1+v43,50+v49,v54,v59,v65,20+v70,g4i,g4m,g5i,nr,true,c4,c5,⟨by omega,by omega,by omega,by omega,by omega,by omega,by omega,by omega,by omega,by omega⟩,hq,?_⟩
  rw [e,t77,t74,t73,t72,t71,t68,t67,t66,t63,t62,t61,t60,t57,t56,t55,t52,t51,t50,t47,t46,t45,t44,t41,t40,t39,t38,t37,t36,t33,t32,t31,hy]
  simp only [q3,if_true,i5m,i6y,i9h,tG1,tG2,tG3,qQ,List.append_nil,List.nil_append]
  rw [<- qQ (i40 lI0),<- qQ _ (i40 (lI2 _ _)),qQ (i40 lI0),eI,<- qQ (i40 (lL1 yr)),eL]
  simp only [qQ]
 ·obtain ⟨g4i,g4m,g5i,nr,c4,c5,hq,e⟩:=j2h hr
  refine ⟨100+v30,400+v35,1+v43,50+v49,v54,v59,v65,20+v70,g4i,g4m,g5i,nr,false,c4,c5,⟨by omega,by omega,by omega,by omega,by omega,by omega,by omega,by omega,by omega,by omega⟩,hq,?_⟩
  rw [e,t74,t73,t72,t71,t68,t67,t66,t63,t62,t61,t60,t57,t56,t55,t52,t51,t50,t47,t46,t45,t44,t41,t40,t39,t38,t37,t36,t33,t32,t31,hy]
  simp only [q3,qM,if_false,i5m,i6y,i9h,tG1,tG2,qQ,List.append_nil,List.nil_append]
  rw [<- qQ (i40 lI0),<- qQ _ (i40 (lI2 _ _)),qQ (i40 lI0),eI,<- qQ (i40 (lL1 yr)),eL]
  simp only [qQ]
end
def j82 (yr:Nat)(l:O (O Lx×Cl)):Prop:= ∃na nb np g1a g1i g1m g2i nd g4i g4m g5i nr c3 c4 c5,Q3OK na nb np g1a g1i g1m g2i nd /\ Q4OK g4i g4m g5i nr /\ l=q3 na nb np yr g1a g1i g1m g2i nd g4i g4m g5i nr c3 c4 c5
def q2 (c2:Bool)(l:O (O Lx×Cl)):O (O Lx×Cl):=(if c2 then [(lC5,.credit 5 0)] else [])++l
def q1 (l7 l10:Nat)(c1 c2:Bool)(l:O (O Lx×Cl)):O (O Lx×Cl):=[(lC6,.credit 6 0),(lC7 l7,.credit 7 l7)]++((if c1 then [(j83 l10,.credit 10 l10)] else [])++q2 c2 l)
section
variable {n:O Int} {k:Int} {pre r:A4}
def j2c {yt:A4}{yr:Nat}(hy:bl yt=g4v 20 yr)(hr:joinC a5k (n,k,yt,pre)=some r): ∃c2 l,j82 yr l /\ bl r=bl pre++(T (q2 c2 l)++bl d3i):=by
 unfold joinC a5k at hr
 dsimp only at hr
 obtain ⟨v25,h25,hr⟩:=qP.1 hr
 obtain ⟨v26,h26,hr⟩:=qP.1 hr
 have b26:=i48 h26 (by decide) (by decide)
 obtain ⟨v26,rfl⟩:=qT b26.1
 split at hr
 ·have hr0:=hr
  obtain ⟨v27,h27,hr⟩:=qP.1 hr
  have t27:=i3y h27
  obtain ⟨na,nb,np,g1a,g1i,g1m,g2i,nd,g4i,g4m,g5i,nr,c3,c4,c5,h3,h4,e⟩:=j3c hy hr
  refine ⟨true,_,⟨na,nb,np,g1a,g1i,g1m,g2i,nd,g4i,g4m,g5i,nr,c3,c4,c5,h3,h4,rfl⟩,?_⟩
  rw [e,t27]
  simp only [q2,if_true,i5m,i6y,i9h,tC5,qQ,List.append_nil,List.nil_append]
 ·obtain ⟨na,nb,np,g1a,g1i,g1m,g2i,nd,g4i,g4m,g5i,nr,c3,c4,c5,h3,h4,e⟩:=j3c hy hr
  refine ⟨false,_,⟨na,nb,np,g1a,g1i,g1m,g2i,nd,g4i,g4m,g5i,nr,c3,c4,c5,h3,h4,rfl⟩,?_⟩
  rw [e]
  rfl
def i8p {yt:A4}{yr:Nat}(hy:bl yt=g4v 20 yr)(hr:joinC a1a (n,k,yt,pre)=some r): ∃l7 l10 c1 c2 l,(1 <= l7 /\ l7 <= 73049 /\ 1 <= l10 /\ l10 <= 73049) /\ j82 yr l /\ bl r=bl pre++(T (q1 l7 l10 c1 c2 l)++bl d3i):=by
 unfold joinC a1a at hr
 dsimp only at hr
 obtain ⟨v10,h10,hr⟩:=qP.1 hr
 obtain ⟨v11,h11,hr⟩:=qP.1 hr
 have b11:=i48 h11 (by decide) (by decide)
 obtain ⟨v11,rfl⟩:=qT b11.1
 obtain ⟨v12,h12,hr⟩:=qP.1 hr
 have t12:=i7c h12 (n:=1+v11) (by rw [e9 (by omega) (by omega)];omega) (by omega)
 obtain ⟨v13,h13,hr⟩:=qP.1 hr
 have t13:=i3y h13
 obtain ⟨v14,h14,hr⟩:=qP.1 hr
 have t14:=i3y h14
 obtain ⟨v15,h15,hr⟩:=qP.1 hr
 have t15:=i3y h15
 obtain ⟨v16,h16,hr⟩:=qP.1 hr
 obtain ⟨v17,h17,hr⟩:=qP.1 hr
 have b17:=i48 h17 (by decide) (by decide)
 obtain ⟨v17,rfl⟩:=qT b17.1
 have eC:=tC67 (1+v11)
 split at hr
 ·have hr0:=hr
  obtain ⟨v18,h18,hr⟩:=qP.1 hr
  obtain ⟨v19,h19,hr⟩:=qP.1 hr
  have b19:=i48 h19 (by decide) (by decide)
  obtain ⟨v19,rfl⟩:=qT b19.1
  obtain ⟨v20,h20,hr⟩:=qP.1 hr
  have t20:=i7c h20 (n:=100+v19) (by rw [e9 (by omega) (by omega)];omega) (by omega)
  obtain ⟨v21,h21,hr⟩:=qP.1 hr
  have t21:=i3y h21
  obtain ⟨v22,h22,hr⟩:=qP.1 hr
  have t22:=i3y h22
  obtain ⟨v23,h23,hr⟩:=qP.1 hr
  have t23:=i3y h23
  obtain ⟨c2,l,hl,e⟩:=j2c hy hr
  refine ⟨1+v11,100+v19,true,c2,l,⟨by omega,by omega,by omega,by omega⟩,hl,?_⟩
  rw [e,t23,t22,t21,t20,t15,t14,t13,t12]
  simp only [q1,if_true,i5m,i6y,i9h,tC10,qQ,List.append_nil,List.nil_append]
  rw [<- qQ (i40 lC6),eC]
  simp only [qQ]
 ·obtain ⟨c2,l,hl,e⟩:=j2c hy hr
  refine ⟨1+v11,1,false,c2,l,⟨by omega,by omega,by omega,by omega⟩,hl,?_⟩
  rw [e,t15,t14,t13,t12]
  simp only [q1,qM,if_false,i5m,i6y,i9h,qQ,List.append_nil,List.nil_append]
  rw [<- qQ (i40 lC6),eC]
  simp only [qQ]
def k1z (P:Ps):i40 (j1p P)=bl c6e++(P.date++(bl c1g++(bl P.mx++(32::(g4v 20 P.u++bl b7x))))):=by
 simp only [i40,j1p,W,Sg,Wn,Sh,num,N,blk,cond_true,cond_false,qQ,List.nil_append];rfl
structure MdOK (m:Int) (mx:ByteArray) (u:Nat):Prop where
 mw:j0q mx=true
 mo:ofW mx 3=some m
 m0:1 <= m
 m1:m <= 4
 mS:nz (a4u j0t m)=true
 u0:1 <= u
 u1:u <= 100000
def j0w {day:Int}{date:O UInt8}{m:Int}{mx:A4}{u yr l7 l10:Nat}{c1 c2:Bool}{l:O (O Lx×Cl)}(hdt:i8v (64::date) day=true)(hd0:0 <= day)(hd1:day <= 73048)(hm:MdOK m mx u)(hyr:yr <= 100000)
  (hc:1 <= l7 /\ l7 <= 73049 /\ 1 <= l10 /\ l10 <= 73049) (hl:j82 yr l): ∃P:Ps,PsOK P /\ P.day=day /\ i40 (lxV P)=bl c6e++(date++(bl c1g++(bl mx++(32::(g4v 20 u++bl b7x)))))++(T (q1 l7 l10 c1 c2 l)++bl d3i):=by
 obtain ⟨na,nb,np,g1a,g1i,g1m,g2i,nd,g4i,g4m,g5i,nr,c3,c4,c5,h3,h4,rfl⟩:=hl
 refine ⟨⟨day,date,m,mx,u,l7,l10,c1,c2,c3,c4,c5,na,nb,np,yr,g1a,g1i,g1m,g2i,nd,g4i,g4m,g5i,nr⟩,⟨hdt,hd0,hd1,hm.mw,hm.mo,hm.m0,hm.m1,hm.mS,hm.u0,hm.u1,hc.1,hc.2.1,hc.2.2.1,hc.2.2.2,h3.h1,h3.h2,h3.h3,h3.h4,h3.h5,h3.h6,h4.h4,hyr,h3.h7,h3.h8,h3.h9,h3.h10,h4.h1,h4.h2,h4.h3⟩,rfl,?_⟩
 unfold lxV
 rw [i47,i47,k1z,tEnd]
 rfl
def i91 {a:A4}{day:Int}(hdt:i8v (64::bl a) day=true)(hd0:0 <= day)(hd1:day <= 73048)(hr:a38 a n k=some r): ∃P:Ps,PsOK P /\ P.day=day /\ bl r=i40 (lxV P):=by
 unfold a38 at hr
 obtain ⟨v1,h1,hr⟩:=qP.1 hr
 obtain ⟨v2,h2,hr⟩:=qP.1 hr
 have b2:=i48 h2 (by decide) (by decide)
 obtain ⟨v2,rfl⟩:=qT b2.1
 obtain ⟨v3,h3,hr⟩:=qP.1 hr
 have t3:=i7c h3 (n:=300+v2) (by rw [e9 (by omega) (by omega)];omega) (by omega)
 obtain ⟨v4,h4,hr⟩:=qP.1 hr
 have t4:=i3y h4
 obtain ⟨v5,h5,hr⟩:=qP.1 hr
 have t5:=i3y h5
 obtain ⟨v6,h6,hr⟩:=qP.1 hr
 obtain ⟨v7,h7,hr⟩:=qP.1 hr
 have b7:=i48 h7 (by decide) (by decide)
 obtain ⟨v7,rfl⟩:=qT b7.1
 split at hr
 ·have hr0:=hr
  obtain ⟨v8,h8,hr⟩:=qP.1 hr
  have t8:=i3y h8
  obtain ⟨l7,l10,c1,c2,l,hc,hl,e⟩:=i8p t3 hr
  obtain ⟨P,hP,hd,ht⟩:=j0w (c1:=c1) (c2:=c2) hdt hd0 hd1 (m:=1) (mx:=d4s) (u:=1) ⟨by kernel_rfl,by kernel_rfl,by decide,by decide,by kernel_rfl,by decide,by decide⟩ (by omega) hc hl
  refine ⟨P,hP,hd,?_⟩
  rw [ht,e,t8,t5,t4,show bl c33=bl d4s++(32::(g4v 20 1++bl b7x)) from by kernel_rfl]
  simp only [qQ]
 split at hr
 ·have hr0:=hr
  obtain ⟨v110,h110,hr⟩:=qP.1 hr
  have t110:=i3y h110
  obtain ⟨l7,l10,c1,c2,l,hc,hl,e⟩:=i8p t3 hr
  obtain ⟨P,hP,hd,ht⟩:=j0w (c1:=c1) (c2:=c2) hdt hd0 hd1 (m:=3) (mx:=d3b) (u:=5) ⟨by kernel_rfl,by kernel_rfl,by decide,by decide,by kernel_rfl,by decide,by decide⟩ (by omega) hc hl
  refine ⟨P,hP,hd,?_⟩
  rw [ht,e,t110,t5,t4,show bl c32=bl d3b++(32::(g4v 20 5++bl b7x)) from by kernel_rfl]
  simp only [qQ]
 split at hr
 ·have hr0:=hr
  obtain ⟨v111,h111,hr⟩:=qP.1 hr
  have t111:=i3y h111
  obtain ⟨l7,l10,c1,c2,l,hc,hl,e⟩:=i8p t3 hr
  obtain ⟨P,hP,hd,ht⟩:=j0w (c1:=c1) (c2:=c2) hdt hd0 hd1 (m:=2) (mx:=f1e) (u:=1) ⟨by kernel_rfl,by kernel_rfl,by decide,by decide,by kernel_rfl,by decide,by decide⟩ (by omega) hc hl
  refine ⟨P,hP,hd,?_⟩
  rw [ht,e,t111,t5,t4,show bl c6d=bl f1e++(32::(g4v 20 1++bl b7x)) from by kernel_rfl]
  simp only [qQ]
 obtain ⟨v112,h112,hr⟩:=qP.1 hr
 have t112:=i3y h112
 obtain ⟨l7,l10,c1,c2,l,hc,hl,e⟩:=i8p t3 hr
 obtain ⟨P,hP,hd,ht⟩:=j0w (c1:=c1) (c2:=c2) hdt hd0 hd1 (m:=4) (mx:=d3z) (u:=10) ⟨by kernel_rfl,by kernel_rfl,by decide,by decide,by kernel_rfl,by decide,by decide⟩ (by omega) hc hl
 refine ⟨P,hP,hd,?_⟩
 rw [ht,e,t112,t5,t4,show bl c19=bl d3z++(32::(g4v 20 10++bl b7x)) from by kernel_rfl]
 simp only [qQ]
end
def j2o: ∀(ls:O Lx)(rest:O UInt8),okA ls rest -> ls.length <= (i40 ls).length
 | [],_,_=>Nat.le_refl _
 | ⟨t,w,sp⟩::ls,rest,h=>by
   have h2:=j2o ls rest h.2
   have h1:1 <= w.length:=by
    have h1:LxOK t w (blk sp++(i40 ls++rest)):=h.1
    cases h1<;>simp
   show ls.length+1 <= (w++(blk sp++i40 ls)).length
   rw [qL,qL]
   omega
def i8u (o:A3 Ps):O Lx:=match o with | some P=>lxV P | none=>[]
def i71 (o:A3 Ps):O Version:=match o with | some P=>[P.ver] | none=>[]
def i8z (o:A3 Ps)(day:Int):Prop:=match o with | some P=>PsOK P /\ P.day=day | none=>True
def lxS (nm:A4)(cur:Nat)(P:Ps)(o1 o2:A3 Ps):O Lx:=[W b76,W nm,W b4x,num cur [] 2 true,Sg e8b]++(lxV P++(i8u o1++(i8u o2++[Sh d0a])))
def stS (nm:A4)(cur:Nat)(P:Ps)(o1 o2:A3 Ps):Statute:=⟨nm,cur,P.ver::(i71 o1++i71 o2)⟩
def j1b {o:A3 Ps}{day:Int}(h:i8z o day)(rest:O UInt8):okA (i8u o) rest:=by
 cases o with
 | none=>trivial
 | some P=>exact j32 h.1 rest
def j0s {o:A3 Ps}{day:Int}(h:i8z o day){ts:O Tk}{vs:O Version}(hv:VersR ts vs):VersR (tk (i8u o) ts) (i71 o++vs):=by
 cases o with
 | none=>exact hv
 | some P=>exact VersR.cons (j9a h.1 ts) hv
def i90 (P:Ps):P.ver.From=P.day:=by rw [j73]
def j60 {nm:A4}(hn:(AE.nm nm).ok){cur:Nat}(h0:1 <= cur)(h1:cur <= 999){P:Ps}{o1 o2:A3 Ps}(hP:PsOK P)(hd:P.day=0)(hq1:i8z o1 35245)(hq2:i8z o2 36890):SOK (stS nm cur P o1 o2):=by
 have l1: ∀o:A3 Ps,(i71 o).length <= 1:=fun o=>by cases o<;>simp [i71]
 have a1:=l1 o1
 have a2:=l1 o2
 have hv:=j2t hP
 refine ⟨hn.leaf.1,hn.leaf.2,by show (1:Int) <= (cur:Int);omega,by show (cur:Int) <= 999;omega,?_,?_,?_,?_⟩
 ·show 1 <= (P.ver::(i71 o1++i71 o2)).length
  simp
 ·show (P.ver::(i71 o1++i71 o2)).length <= 6
  simp only [qR,qL];omega
 ·intro v hv2
  refine ⟨i9c,?_⟩
  have hv2:v∈P.ver::(i71 o1++i71 o2):=hv2
  rcases qO.1 hv2 with rfl | hv2
  ·exact hv
  rcases qK.1 hv2 with hv2 | hv2
  ·cases o1 with
   | none=>cases hv2
   | some Q=>rw [show i71 (some Q)=[Q.ver] from rfl,qF] at hv2;subst hv2;exact j2t hq1.1
  ·cases o2 with
   | none=>cases hv2
   | some Q=>rw [show i71 (some Q)=[Q.ver] from rfl,qF] at hv2;subst hv2;exact j2t hq2.1
 ·show (P.ver::(i71 o1++i71 o2)).Pairwise _
  cases o1 with
  | none=>
    cases o2 with
    | none=>simp [i71]
    | some R=>have:=hq2.2;simp [i71,i90];omega
  | some Q=>
    have h3:=hq1.2
    cases o2 with
    | none=>simp [i71,i90];omega
    | some R=>have h4:=hq2.2;simp [i71,i90];omega
def l8f {nm:A4}{cur:Nat}{P:Ps}{o1 o2:A3 Ps}(hP:PsOK P){d1 d2:Int}(hq1:i8z o1 d1)(hq2:i8z o2 d2): ∀v∈(stS nm cur P o1 o2).Versions,∃P,PsOK P /\ v=P.ver:=by
 intro v hv2
 have hv2:v∈P.ver::(i71 o1++i71 o2):=hv2
 have o: ∀{o:A3 Ps}{d:Int},i8z o d -> v∈i71 o -> ∃P,PsOK P /\ v=P.ver:=fun {o} {d} h hv=>by
  cases o with
  | none=>cases hv
  | some Q=>exact ⟨Q,h.1,qF.1 hv⟩
 rcases qO.1 hv2 with e | hv2
 ·exact ⟨P,hP,e⟩
 rcases qK.1 hv2 with hv2 | hv2
 ·exact o hq1 hv2
 ·exact o hq2 hv2
def j3z {nm:A4}(hw:j0q nm=true)(hn:(AE.nm nm).ok){cur:Nat}(h0:1 <= cur)(h1:cur <= 999){P:Ps}{o1 o2:A3 Ps}(hP:PsOK P)(hd:P.day=0)(hq1:i8z o1 35245)(hq2:i8z o2 36890)
  {s:A4} (hs:s.size <= 8000) (ht:bl s=i40 (lxS nm cur P o1 o2)):a9z s=some (stS nm cur P o1 o2,0,0):=by
 have hA:okA (lxS nm cur P o1 o2) []:=by
  have hk:i6u [W b76,W nm,W b4x,num cur [] 2 true,Sg e8b]=true:=by
   simp only [i6u,W,Sg,num,N,BEq.rfl,nx,hw,Bool.true_and,Bool.and_true,Bool.true_or]
   kernel_rfl
  have hnn:i9o [W b76,W nm,W b4x,num cur [] 2 true,Sg e8b]:=⟨trivial,trivial,trivial,.whole (by omega) (.inl ⟨rfl,rfl⟩),trivial,trivial⟩
  refine i4u _ _ _ (i6s _ hk hnn _) ?_
  ·exact i4u _ _ _ (j32 hP _) (i4u _ _ _ (j1b hq1 _) (i4u _ _ _ (j1b hq2 _) (i6s [Sh d0a] (by kernel_rfl) ⟨trivial,trivial⟩ _)))
 have hlen:=j2o _ _ hA
 have hsz:s.size=(i40 (lxS nm cur P o1 o2)).length:=by rw [i6n,<- ht];rfl
 obtain ⟨toks,hall,hrel,htl⟩:=j3m hs (lxS nm cur P o1 o2) ht (j7a _ hA) (by omega)
 have hv:VersR (tk (lxV P) (tk (i8u o1) (tk (i8u o2) [.s d0a]))) (P.ver::(i71 o1++i71 o2)):=by
  have h2:VersR (tk (i8u o2) [.s d0a]) (i71 o2++[]):=j0s hq2 VersR.nil
  rw [List.append_nil] at h2
  exact VersR.cons (j9a hP _) (j0s hq1 h2)
 have e:(lxS nm cur P o1 o2).map (·.t)= .w b76:: .w nm:: .w b4x:: .n ⟨(cur:Int),1⟩ 2:: .s e8b::tk (lxV P) (tk (i8u o1) (tk (i8u o2) [.s d0a])):=by
  unfold lxS tk
  simp only [List.map_append,List.map_cons,List.map_nil,List.cons_append,List.nil_append,W,Sg,Sh,num,N]
 rw [e] at hrel
 have hl1: ∀o:A3 Ps,(i71 o).length <= 1:=fun o=>by cases o<;>simp [i71]
 have a1:=hl1 o1
 have a2:=hl1 o2
 have hnm:j67 nm=true:=by unfold j67;rw [hn.leaf.1]
 exact j46 hall htl hrel hnm (by omega) (by omega) hv (by simp) (by simp only [qR,qL];omega) (j7t (j60 hn h0 h1 hP hd hq1 hq2))
def tSt (nm:A4)(cur:Nat)(P:Ps)(o1 o2:A3 Ps):i40 (lxS nm cur P o1 o2)=bl c70++(bl nm++(bl c2x++(g4v 20 cur++(bl d8i++(i40 (lxV P)++(i40 (i8u o1)++(i40 (i8u o2)++bl d0a))))))):=by
 unfold lxS
 rw [i47,i47,i47,i47]
 simp only [i40,W,Sg,Wn,Sh,num,N,blk,cond_true,cond_false,qQ,List.nil_append];rfl
def k1g:i8v (64::bl b7u) 0=true:=by kernel_rfl
def k2c:i8v (64::bl b7v) 35245=true:=by kernel_rfl
def k1m:i8v (64::bl b80) 36890=true:=by kernel_rfl
def i8w (s:A4):s.size=(bl s).length:=i6n s
def i9y (P:Ps):i40 (i8u (some P))=i40 (lxV P):=rfl
def i6h:i40 (i8u none)=[]:=rfl
section
variable {n:O Int} {pre r:A4}
def j3a {k:Int}(hl:n.length <= 9223372036854775807)(hr:joinC a7x (k,n,pre)=some r): ∃o2,i8z o2 36890 /\ bl r=bl pre++(i40 (i8u o2)++bl d0a) /\ (i40 (i8u o2)).length <= 2500:=by
 unfold joinC a7x at hr
 dsimp only at hr
 obtain ⟨v15,h15,hr⟩:=qP.1 hr
 obtain ⟨v16,h16,hr⟩:=qP.1 hr
 have b16:=i48 h16 (by decide) (by decide)
 obtain ⟨v16,rfl⟩:=qT b16.1
 split at hr
 ·have hr0:=hr
  obtain ⟨v17,h17,hr⟩:=qP.1 hr
  obtain ⟨v18,h18,hr⟩:=qP.1 hr
  have t18:=i3y h18
  obtain ⟨v19,h19,hr⟩:=qP.1 hr
  have t19:=i3y h19
  have hr:=qH hr
  subst hr
  obtain ⟨P,hP,hd,ht⟩:=i91 k1m (by decide) (by decide) h17
  have hsz:=a8b b80 n (i64 ((i64 (7*k))+5)) hl (by decide)
  obtain ⟨z,hz,hz2⟩:=hsz
  rw [h17] at hz
  have hz:=qH hz
  subst hz
  rw [i8w,ht] at hz2
  exact ⟨some P,⟨hP,hd⟩,by rw [t19,t18,ht,i9y,qQ],hz2⟩
 ·have hr0:=hr
  obtain ⟨v20,h20,hr⟩:=qP.1 hr
  have t20:=i3y h20
  have hr:=qH hr
  subst hr
  exact ⟨none,trivial,by rw [t20,i6h];rfl,by rw [i6h];simp⟩
end
def j1x {k:Nat}(hk:k<3)(n:O Int)(hl:n.length <= 9223372036854775807): ∃s x,b10 (k:Int) n=some s /\ a9z s=some (x,0,0) /\ SOK x /\ ∀v∈x.Versions,∃P,PsOK P /\ v=P.ver:=by
 obtain ⟨s,hs,_⟩:=c2w (k:=(k:Int)) n hl (by omega) (by omega)
 have hr:=hs
 unfold b10 at hr
 obtain ⟨nm,hnm,hr⟩:=qP.1 hr
 have hN:j0q nm=true /\ (AE.nm nm).ok /\ (bl nm).length <= 5:=by
  match k,hk,hnm with
  | 0,_,hnm=>have e:c2c=nm:=qH hnm;subst e;exact ⟨by kernel_rfl,i7r (by kernel_rfl),by decide⟩
  | 1,_,hnm=>have e:c24=nm:=qH hnm;subst e;exact ⟨by kernel_rfl,i7r (by kernel_rfl),by decide⟩
  | 2,_,hnm=>have e:b8j=nm:=qH hnm;subst e;exact ⟨by kernel_rfl,i7r (by kernel_rfl),by decide⟩
 rw [hnm] at hr
 rw [qA] at hr
 obtain ⟨v3,h3,hr⟩:=qP.1 hr
 have t3:=i3y h3
 obtain ⟨v4,h4,hr⟩:=qP.1 hr
 have t4:=i3y h4
 obtain ⟨v5,h5,hr⟩:=qP.1 hr
 have t5:=i7c h5 (n:=1+k) (by rw [e9 (by omega) (by omega)];omega) (by omega)
 obtain ⟨v6,h6,hr⟩:=qP.1 hr
 have t6:=i3y h6
 obtain ⟨v7,h7,hr⟩:=qP.1 hr
 have t7:=i3y h7
 obtain ⟨v8,h8,hr⟩:=qP.1 hr
 obtain ⟨v9,h9,hr⟩:=qP.1 hr
 have t9:=i3y h9
 obtain ⟨v10,h10,hr⟩:=qP.1 hr
 obtain ⟨v11,h11,hr⟩:=qP.1 hr
 have b11:=i48 h11 (by decide) (by decide)
 obtain ⟨v11,rfl⟩:=qT b11.1
 obtain ⟨P,hP,hd,ht⟩:=i91 k1g (by decide) (by decide) h8
 have hsz:(i40 (lxV P)).length <= 2500:=by
  obtain ⟨z,hz,hz2⟩:=a8b b7u n (i64 (7*(k:Int))) hl (by decide)
  rw [h8] at hz
  have hz:=qH hz
  subst hz
  rw [i8w,ht] at hz2
  exact hz2
 have hdl:=i6e 20 (1+k) 0 (by omega)
 have fin: ∀o1 o2,i8z o1 35245 -> i8z o2 36890 -> bl s=bl v9++(i40 (i8u o1)++(i40 (i8u o2)++bl d0a)) -> (i40 (i8u o1)).length <= 2500 -> (i40 (i8u o2)).length <= 2500 -> ∃s x,b10 (k:Int) n=some s /\ a9z s=some (x,0,0) /\ SOK x /\ ∀v∈x.Versions,∃P,PsOK P /\ v=P.ver:=by
  intro o1 o2 hq1 hq2 e g1 g2
  have e2:bl s=i40 (lxS nm (1+k) P o1 o2):=by
   rw [tSt,e,t9,t7,t6,t5,t4,t3,ht]
   simp only [qQ]
  have hsz2:s.size <= 8000:=by
   rw [i8w,e2,tSt]
   simp only [qL]
   have q1:(bl c70).length=8:=by decide
   have q2:(bl c2x).length=10:=by decide
   have q3:(bl d8i).length=3:=by decide
   have q4:(bl d0a).length=1:=by decide
   have:=hN.2.2
   omega
  exact ⟨s,_,hs,j3z hN.1 hN.2.1 (by omega) (by omega) hP hd hq1 hq2 hsz2 e2,j60 hN.2.1 (by omega) (by omega) hP hd hq1 hq2,l8f hP hq1 hq2⟩
 split at hr
 ·have hr0:=hr
  obtain ⟨v12,h12,hr⟩:=qP.1 hr
  obtain ⟨v13,h13,hr⟩:=qP.1 hr
  have t13:=i3y h13
  obtain ⟨Q,hQ,hdQ,htQ⟩:=i91 k2c (by decide) (by decide) h12
  have hszQ:(i40 (lxV Q)).length <= 2500:=by
   obtain ⟨z,hz,hz2⟩:=a8b b7v n (i64 ((i64 (7*(k:Int)))+3)) hl (by decide)
   rw [h12] at hz
   have hz:=qH hz
   subst hz
   rw [i8w,htQ] at hz2
   exact hz2
  obtain ⟨o2,ho2,e,hlen2⟩:=j3a hl hr
  exact fin (some Q) o2 ⟨hQ,hdQ⟩ ho2 (by rw [e,t13,htQ,i9y,qQ]) hszQ hlen2
 ·obtain ⟨o2,ho2,e,hlen2⟩:=j3a hl hr
  exact fin none o2 trivial ho2 (by rw [e,i6h];rfl) (by rw [i6h];simp) hlen2
def h3z {x:Int}(h0:0 <= x):c8u .u64 x 32=x/4294967296:=by
 exact Int.fdiv_eq_ediv_of_nonneg _ (by decide)
def c5u {k:IntKind}{x n:Int}(h:0 <= n):d0l k x n=some (c8u k x n):=by unfold d0l;simp_all
def U64 (x:Int):Prop:=0 <= x /\ x <= 18446744073709551615
def I64 (x:Int):Prop:= -9223372036854775808 <= x /\ x <= 9223372036854775807
def a3l {a:Int}(h:I64 a):Tot (j5 a) fun r=>U64 r /\ (a≠0 -> 0<r):=by
 obtain ⟨h0,h1⟩:=h
 unfold j5 U64
 simp only [g2l]
 refine tD (fun hc=>tC ?_) fun hc=>tC ?_
 ·omega
 omega
def c87 {a b:Int}(ha:U64 a)(hb:U64 b):Tot (a7g a b) fun g=>U64 g /\ (0<a+b -> 0<g):=by
 unfold a7g lpC
 refine tO (I:=fun v:Int×Int=>U64 v.1 /\ U64 v.2 /\ (0<a+b -> 0<v.1+v.2)) (μ:=fun v=>v.2.toNat) ⟨ha,hb,id⟩ (by have:=hb.2;omega) ?_
 rintro r ⟨x,y⟩ ⟨g1,g2,g3⟩ ih
 unfold U64 at*
 refine tD (fun hc=> ?_) fun hc=>tC ⟨g1,fun h=> ?_⟩
 ·have hy:y≠0:=by simpa using hc
  refine tA (a3p g1.1 (by omega)) fun z hz=> ?_
  exact ih (y,z) ⟨g2,⟨hz.2.1,by omega⟩,fun h=>(by omega)⟩ (by omega)
 ·simp at hc
  omega
def FOK (f:fQ):Prop:=1 <= f.Den /\ f.Den <= 1000000000 /\ -1000000000000000 <= f.Num /\ f.Num <= 1000000000000000
def FOK.i {f:fQ}(h:FOK f):I64 f.Num /\ I64 f.Den /\ f.Den≠0:=by unfold FOK I64 at *; omega
def b2t (f:fQ):Tot (o7 f) fun b=>b=true -> FOK f:=by
 unfold o7
 simp only [a7h,qA,o4]
 by_cases h:FOK f
 ·obtain ⟨h1,h2,h3⟩:=h.i
  rw [if_pos (by unfold FOK at h;simp_all)]
  refine tA (Q:=fun _=>True) (tA (a3l h1) fun a ha=>tA (a3l h2) fun b hb=>tA (c87 ha.1 hb.1) fun g _=>tC trivial) fun b _=>tC fun _=>h
 ·rw [if_neg (by unfold FOK at h;grind),qA]
  exact tC fun h=>by grind
def e6c (x:Int):U64 (u64 x):=b51 x
def WW (w:rational_wide):Prop:=U64 w.hi /\ U64 w.lo
def c3x (a b:Int):Tot (b3s a b) fun r=>U64 r.1 /\ U64 r.2:=by
 unfold b3s
 exact tC ⟨e6c _,e6c _⟩
def f4i {a b:rational_wide}(ha:WW a)(hb:WW b):Tot (a98 a b) WW:=by
 unfold WW U64 at*
 unfold a98 c23 g7y
 rw [if_pos (by omega),qA]
 rw [if_pos (by omega),qA]
 exact tC ⟨by grind,by grind⟩
def d7w {a b:rational_wide}(ha:WW a)(hb:WW b):Tot (a4w a b) WW:=by
 unfold WW U64 at*
 unfold a4w c1u g8x
 rw [if_pos (by omega),qA]
 rw [if_pos (by omega),qA]
 exact tC ⟨by grind,by grind⟩
def k8c {x:Int}(h0:0 <= x)(h1:x<18446744073709551616):d5y .u64 x 4294967295=x%4294967296:=by
 unfold d5y
 have e1:(BitVec.ofInt IntKind.u64.bits x &&& BitVec.ofInt IntKind.u64.bits 4294967295).toNat=x.toNat%4294967296:=by
  show (x%18446744073709551616).toNat &&& (4294967295%18446744073709551616:Int).toNat=_
  rw [Int.emod_eq_of_lt h0 h1]
  exact Nat.and_two_pow_sub_one_eq_mod x.toNat 32
 show u64 _=_
 rw [b83 (by omega) (by omega)]
 omega
def k5m {x y:Int}(hx0:0 <= x)(hx1:x<18446744073709551616)(hy0:0 <= y)(hy1:y<18446744073709551616):
  b3s x y=some (x*y/18446744073709551616,x*y%18446744073709551616):=by
 unfold b3s
 simp only [c5u (show (0:Int) <= 32 by decide),qA]
 rw [h3z hx0,h3z hy0,k8c hx0 hx1,k8c hy0 hy1]
 obtain ⟨x1,x0,hxe,hx2,hx3,hx4,hx5⟩: ∃x1 x0:Int,x=x1*4294967296+x0 /\ 0 <= x1 /\ x1 <= 4294967295 /\ 0 <= x0 /\ x0 <= 4294967295:=⟨x/4294967296,x%4294967296,by omega,by omega,by omega,by omega,by omega⟩
 obtain ⟨y1,y0,hye,hy2,hy3,hy4,hy5⟩: ∃y1 y0:Int,y=y1*4294967296+y0 /\ 0 <= y1 /\ y1 <= 4294967295 /\ 0 <= y0 /\ y0 <= 4294967295:=⟨y/4294967296,y%4294967296,by omega,by omega,by omega,by omega,by omega⟩
 have ex1:x/4294967296=x1:=by omega
 have ex0:x%4294967296=x0:=by omega
 have ey1:y/4294967296=y1:=by omega
 have ey0:y%4294967296=y0:=by omega
 rw [ex1,ex0,ey1,ey0]
 have bound: ∀p q:Int,0 <= p -> p <= 4294967295 -> 0 <= q -> q <= 4294967295 -> 0 <= p*q /\ p*q <= 18446744065119617025:=by
  intro p q h1 h2 h3 h4
  exact ⟨Int.mul_nonneg h1 h3,Int.le_trans (Int.mul_le_mul h2 h4 h3 (by decide)) (by decide)⟩
 have hxy:x*y=x1*y1*18446744073709551616+(x1*y0+x0*y1)*4294967296+x0*y0:=by
  rw [hxe,hye,Int.add_mul,Int.mul_add,Int.mul_add]
  have e1:x1*4294967296*(y1*4294967296)=x1*y1*18446744073709551616:=by
   rw [Int.mul_assoc,Int.mul_left_comm 4294967296 y1,<- Int.mul_assoc];rfl
  have e2:x1*4294967296*y0=x1*y0*4294967296:=by rw [Int.mul_assoc,Int.mul_comm 4294967296 y0,<- Int.mul_assoc]
  have e3:x0*(y1*4294967296)=x0*y1*4294967296:=by rw [<- Int.mul_assoc]
  omega
 have b1:=bound x0 y0 hx4 hx5 hy4 hy5
 have b2:=bound x1 y0 hx2 hx3 hy4 hy5
 have b3:=bound x0 y1 hx4 hx5 hy2 hy3
 have b4:=bound x1 y1 hx2 hx3 hy2 hy3
 generalize x0*y0=a at*
 generalize x1*y0=b at*
 generalize x0*y1=c at*
 generalize x1*y1=d at*
 rw [b83 (n:=a) (by omega) (by omega),h3z b1.1,b83 (n:=b) (by omega) (by omega)]
 rw [b83 (n:=b+a/4294967296) (by omega) (by omega),h3z (by omega),k8c (by omega) (by omega),b83 (n:=c) (by omega) (by omega)]
 rw [b83 (n:=(b+a/4294967296)%4294967296+c) (by omega) (by omega),h3z (by omega),b83 (n:=d) (by omega) (by omega)]
 rw [b83 (n:=d+(b+a/4294967296)/4294967296) (by omega) (by omega)]
 rw [b83 (n:=d+(b+a/4294967296)/4294967296+((b+a/4294967296)%4294967296+c)/4294967296) (by omega) (by omega),g2l]
 congr 1
 refine Prod.ext ?_ rfl
 omega
def Agr {α β:Type}(o:A3 α)(p:A3 β)(R:α -> β -> Prop):Prop:= ∃a b,o=some a /\ p=some b /\ R a b
section
variable {α β γ δ:Type} {o:A3 α} {p:A3 β} {R:α -> β -> Prop} {S:γ -> δ -> Prop} {f:α -> A3 γ} {g:β -> A3 δ} {q:A3 γ} {t:A3 δ}
def Agr.some {a:α}{b:β}(h:R a b):Agr (some a) (some b) R:=⟨a,b,rfl,rfl,h⟩
def Agr.bind (h:Agr o p R)(hf: ∀a b,R a b -> Agr (f a) (g b) S):Agr (Option.bind o f) (Option.bind p g) S:=by
 obtain ⟨a,b,rfl,rfl,h⟩:=h
 exact hf a b h
def Agr.ite {c d:Prop} [Decidable c] [Decidable d] (hcd:c↔d) {x y:A3 γ} {z w:A3 δ} (h1:c -> d -> Agr x z S) (h2: ¬c -> ¬d -> Agr y w S):Agr (if c then x else y) (if d then z else w) S:=by
 by_cases h:c
 ·rw [if_pos h,if_pos (hcd.1 h)];exact h1 h (hcd.1 h)
 ·rw [if_neg h,if_neg fun e=>h (hcd.2 e)];exact h2 h fun e=>h (hcd.2 e)
end
def tH {σ ρ S α:Type}{f:(σ -> A3 ρ) -> σ -> A3 ρ}{Q:ρ -> Prop}(l:O α)(e:S -> Int -> σ)(I:S -> Nat -> Prop)(hl:l.length <= 2^40)
  (step: ∀rec s (i:Nat) y,i<l.length -> l[i]? =Option.some y -> I s i -> (∀s',I s' (i+1) -> Tot (rec (e s' (i64 ((i:Int)+1)))) Q) -> Tot (f rec (e s (i:Int))) Q)
  (fin: ∀rec s,I s l.length -> Tot (f rec (e s (l.length:Int))) Q) (s:S) (h0:I s 0):Tot (d9 FU f (e s 0)) Q:=by
 have key: ∀(k:Nat)(s:S)(i:Nat),i <= l.length -> I s i -> l.length-i<k -> Tot (d9 k f (e s (i:Int))) Q:=by
  intro k
  induction k with
  | zero=>omega
  | succ k ih=>
    intro s i hi hI hk
    by_cases h:i<l.length
    ·exact step _ s i l[i] h (qG h) hI fun s' hs'=>by
      rw [a5g (by omega)];exact ih s' (i+1) (by omega) hs' (by omega)
    ·have:i=l.length:=by omega
     subst this;exact fin _ s hI
 exact key FU s 0 (Nat.zero_le _) h0 (by unfold FU;omega)
def Agr.list {σ τ ρ ρ' S α:Type}{f:(σ -> A3 ρ) -> σ -> A3 ρ}{g:(τ -> A3 ρ') -> τ -> A3 ρ'}{R:ρ -> ρ' -> Prop}(l:O α)(e:S -> Int -> σ)(d:S -> Int -> τ)(I:S -> Nat -> Prop)(hl:l.length <= 2^40)
  (step: ∀rec rec' s (i:Nat) y,i<l.length -> l[i]? =Option.some y -> I s i -> (∀s',I s' (i+1) -> Agr (rec (e s' (i64 ((i:Int)+1)))) (rec' (d s' (i64 ((i:Int)+1)))) R) -> Agr (f rec (e s (i:Int))) (g rec' (d s (i:Int))) R)
  (fin: ∀rec rec' s,I s l.length -> Agr (f rec (e s (l.length:Int))) (g rec' (d s (l.length:Int))) R) (s:S) (h0:I s 0):Agr (d9 FU f (e s 0)) (d9 FU g (d s 0)) R:=by
 have key: ∀(k:Nat)(s:S)(i:Nat),i <= l.length -> I s i -> l.length-i<k -> Agr (d9 k f (e s (i:Int))) (d9 k g (d s (i:Int))) R:=by
  intro k
  induction k with
  | zero=>omega
  | succ k ih=>
    intro s i hi hI hk
    by_cases h:i<l.length
    ·exact step _ _ s i l[i] h (qG h) hI fun s' hs'=>by
      rw [a5g (by omega)];exact ih s' (i+1) (by omega) hs' (by omega)
    ·have:i=l.length:=by omega
     subst this;exact fin _ _ s hI
 exact key FU s 0 (Nat.zero_le _) h0 (by unfold FU;omega)
def Agr.loop {σ τ ρ ρ':Type}{f:(σ -> A3 ρ) -> σ -> A3 ρ}{g:(τ -> A3 ρ') -> τ -> A3 ρ'}{R:ρ -> ρ' -> Prop}(I:σ -> τ -> Prop)(μ:σ -> Nat){s:σ}{t:τ}(h0:I s t)(hμ:μ s<2^70)
  (step: ∀(r:σ -> A3 ρ)(q:τ -> A3 ρ') s t,I s t -> (∀s' t',I s' t' -> μ s'<μ s -> Agr (r s') (q t') R) -> Agr (f r s) (g q t) R):Agr (d9 FU f s) (d9 FU g t) R:=by
 have key: ∀(k:Nat)(s:σ)(t:τ),I s t -> μ s<k -> Agr (d9 k f s) (d9 k g t) R:=by
  intro k
  induction k with
  | zero=>omega
  | succ k ih=>intro s t hI hk;exact step _ _ s t hI fun s' t' h1 h2=>ih s' t' h1 (by omega)
 exact key FU s t h0 (by unfold FU;omega)
end Go.PL
