/- Texts of the proof, joined. -/
import Derived.Test.YtmhkcgdchdkjcaaGreatDoorP5
set_option linter.unusedVariables false
set_option linter.unusedSimpArgs false
set_option maxRecDepth 100000
namespace Go.PL
open Go Go.SX
theorem g2q {α:Type}: ∀{r q:List α},r.Nodup -> (∀c∈r,c∈q) -> r.length <= q.length:=by
 classical
 intro r
 induction r with
 | nil=>intro q _ _;exact Nat.zero_le _
 | cons a r ih=>
   intro q hn hs
   have ha:=hs a List.mem_cons_self
   have h1:(q.erase a).length=q.length-1:=List.length_erase_of_mem ha
   have h2:=ih (q:=q.erase a) (List.nodup_cons.1 hn).2 fun c hc=>by
    have hne:c≠a:=fun e=>(List.nodup_cons.1 hn).1 (e▸hc)
    exact (List.mem_erase_of_ne hne).2 (hs c (List.mem_cons_of_mem _ hc))
   have h3:=List.length_pos_of_mem ha
   simp only [List.length_cons];omega
theorem c8u {x:Laws} (hx:LwOK x) {f:List api_Fact} (hf:f.length <= 27) {c:List Claim} (hc:c.length <= 12) (hok: ∀d∈c,b4d d) {p:Int} {m:Nat} (hm:m<2400) (ha:b6s (ofP (b2z f) p) (S m)=false):
  b13 x f c p (m:Int)=some []:=by
 have hml:=(c29 f).2.2
 obtain ⟨q,hq,hqs,hqm,hq12⟩:=e1t c hc hok
 obtain ⟨r,hr,hrn,hrm,_⟩:=d3c q hqs hq12 (fun d hd=>hok d ((hqm d).1 hd)) p (m:Int)
 have hrl:r.length <= 12:=Nat.le_trans (g2q hrn fun d hd=>((hrm d).1 hd).mem) hq12
 have ho:a9u x f c p=some (some ⟨x,b2z f,ofP (b2z f) p,q,p⟩):=by
  unfold a9u
  rw [c2q f (by omega),Option.bind_some,d7n _ _ (by omega),Option.bind_some,hq,Option.bind_some]
 have hal:a0w ⟨x,b2z f,ofP (b2z f) p,q,p⟩ (S m)=some false:=by
  rw [e3f _ _ (by have:=d03 (b2z f) p;show (ofP (b2z f) p).length <= 2^30;omega)]
  rw [<- ha]
 have hpar: ∀k,a0r ⟨x,b2z f,ofP (b2z f) p,q,p⟩ k (S m)=some false:=by
  intro k
  rw [e3p (l:=f) (by omega)]
  congr 1
  rw [List.any_eq_false]
  intro y hy h
  have hyp:p=y:=by simpa using h
  subst hyp
  unfold f6f at hy
  split at hy
  ·rw [List.mem_filter] at hy
   have h2:=hy.2
   unfold f6e at h2
   simp only [Bool.and_eq_true] at h2
   have h3:=h2.2
   rw [<- e26,ha] at h3
   cases h3
  ·cases hy
 have hmo:=d9p (g:=⟨x,b2z f,ofP (b2z f) p,q,p⟩) (m:=(m:Int)) (d:=S m) hr (by omega) hal hpar hx.ra ⟨by omega,by omega⟩
 unfold b13
 rw [b4y hm,Option.bind_some,(e7d hx).1]
 simp only [Bool.not_true,Bool.false_eq_true,if_false,Option.bind_some,show ((0:Int) != 0)=false from rfl]
 rw [ho,Option.bind_some]
 simp only [optC]
 rw [hmo,Option.bind_some]
theorem b3x (s:pensionlaw26_Seeds) (p m:Int) (h:s.Laws.length <= 9223372036854775807 /\ s.Lives.length <= 9223372036854775807 /\ s.Facts.length <= 9223372036854775807 /\ s.Claims.length <= 9223372036854775807):a1x s p m=some true:=by
 obtain ⟨⟨x,f,c⟩,hx,k1,k2,k3,k4,k5⟩:=f5s h
 have k1:LwOK x:=k1
 have k2:f.length <= 27:=k2
 have k3:c.length <= 12:=k3
 have k4: ∀d∈c,b4d d:=k4
 obtain ⟨q,hq,q1,q2⟩:=d1j p
 obtain ⟨n,hn,n1,n2⟩:=d4h m
 obtain ⟨i,rfl⟩: ∃i:Nat,n=(i:Int):=⟨n.toNat,by omega⟩
 have hml:=(c29 f).2.2
 have hol:=d03 (b2z f) q
 unfold a1x
 rw [hx,Option.bind_some,hq,Option.bind_some,hn,Option.bind_some]
 show ((a7h f []).bind _)=_
 rw [c2q f (by omega),Option.bind_some,d7n _ _ (by omega),Option.bind_some,c65 _ (by omega),Option.bind_some,b4y (by omega),Option.bind_some,f8e]
 simp only [Bool.not_true,Bool.false_eq_true,if_false,Option.bind_some]
 cases hd:(b9z (ofP (b2z f) q)).2 with
 | false=>simp
 | true=>
   simp only [Bool.not_true,Bool.false_eq_true,if_false,Option.bind_some]
   by_cases hge:(b9z (ofP (b2z f) q)).1 >= S i
   ·simp [hge]
   ·rw [if_neg (by simpa using hge)]
    have ha:b6s (ofP (b2z f) q) (S i)=false:=by
     unfold b6s
     rw [hd]
     simpa using hge
    rw [c8u k1 k2 k3 k4 (by omega) ha,Option.bind_some]
    rfl
end Go.PL
