/- Texts of the proof, joined. -/
import Derived.Test.YtkjnadkobjakoaaGreatP4
import Derived.Laws.BitsLemmas
import Derived.Laws.Bits64
import Derived.Sort.AssemblyPlain
set_option linter.unusedVariables false
set_option linter.unusedSimpArgs false
set_option maxRecDepth 100000
namespace Go.PL
open Go
theorem i7 {n:Int} (h0: -9223372036854775808 <= n) (h1:n <= 9223372036854775807):i64 n=n:=by
 unfold i64;rw [IntKind.wrap_i64];omega
theorem e11 {n:Int} (h0:0 <= n) (h1:n <= 18446744073709551615):u64 n=n:=by
 unfold u64;rw [IntKind.wrap_u64];omega
theorem f3n (n:Int):u64 n=n%18446744073709551616:=by unfold u64;rw [IntKind.wrap_u64]
theorem b7j (n:Int):0 <= u64 n /\ u64 n <= 18446744073709551615:=by rw [f3n];omega
theorem b2f {α:Type} (l:List α) (k:Nat):c8 l (k:Int)=l[k]? :=by unfold c8;rw [if_pos (Int.natCast_nonneg k),Int.toNat_natCast]
theorem a04 {b e:Bool}:(if b=true then some true else some e)=some (b||e):=by cases b<;>rfl
theorem m6 {b e:Bool}:(if b=true then some e else some false)=some (b&&e):=by cases b<;>rfl
theorem b8j {p:Prop} [Decidable p] {e:Bool}:(if p then some e else some false)=some (decide p&&e):=by by_cases h:p<;>simp [h]
theorem c2y {σ ρ:Type} {f:(σ -> Option ρ) -> σ -> Option ρ} (I:σ -> Prop) (μ:σ -> Nat) (Q:ρ -> Prop)
  (step: ∀s rec,I s -> (∃r,f rec s=some r /\ Q r) \/ ∃s',f rec s=rec s' /\ I s' /\ μ s'<μ s): ∀(k:Nat) (s:σ),I s -> μ s<k -> ∃r,d5 k f s=some r /\ Q r
 | 0,_,_,h=>absurd h (Nat.not_lt_zero _)
 | k+1,s,hs,hk=>by
   rcases step s (d5 k f) hs with ⟨r,h1,h2⟩ | ⟨s',h1,h2,h3⟩
   ·exact ⟨r,h1,h2⟩
   ·obtain ⟨r,h4,h5⟩:=c2y I μ Q step k s' h2 (by omega)
    exact ⟨r,by show f (d5 k f) s=_;rw [h1,h4],h5⟩
theorem a9s {σ ρ:Type} {f:(σ -> Option ρ) -> σ -> Option ρ} (I:σ -> Prop) (μ:σ -> Nat) (Q:ρ -> Prop) {s:σ} (h0:I s) (hμ:μ s<2^70)
  (step: ∀s rec,I s -> (∃r,f rec s=some r /\ Q r) \/ ∃s',f rec s=rec s' /\ I s' /\ μ s'<μ s): ∃r,d5 FU f s=some r /\ Q r:=
 c2y I μ Q step FU s h0 (by unfold FU;exact hμ)
theorem c1g {σ ρ:Type} {f:(σ -> Option ρ) -> σ -> Option ρ} (I:σ -> Prop) (μ:σ -> Nat) (Q:Option ρ -> Prop)
  (step: ∀s rec,I s -> Q (f rec s) \/ ∃s',f rec s=rec s' /\ I s' /\ μ s'<μ s): ∀(k:Nat) (s:σ),I s -> μ s<k -> Q (d5 k f s)
 | 0,_,_,h=>absurd h (Nat.not_lt_zero _)
 | k+1,s,hs,hk=>by
   rcases step s (d5 k f) hs with h1 | ⟨s',h1,h2,h3⟩
   ·exact h1
   ·show Q (f (d5 k f) s)
    rw [h1]
    exact c1g I μ Q step k s' h2 (by omega)
theorem b2h {σ ρ:Type} {f:(σ -> Option ρ) -> σ -> Option ρ} (I:σ -> Prop) (μ:σ -> Nat) (Q:Option ρ -> Prop) {s:σ} (h0:I s) (hμ:μ s<2^70)
  (step: ∀s rec,I s -> Q (f rec s) \/ ∃s',f rec s=rec s' /\ I s' /\ μ s'<μ s):Q (d5 FU f s):=
 c1g I μ Q step FU s h0 (by unfold FU;exact hμ)
theorem c2j {a b:Int} (h:b≠0):b7d a b=some (a.tmod b):=by unfold b7d;rw [if_neg h]
theorem e09 {a b:Int} (h:b≠0):c0i a b=some (i64 (a.tdiv b)):=by unfold c0i;rw [if_neg h]
theorem a0e {α:Type} {bytes:Nat} {l x:List α} (h:(l.length+x.length)*bytes <= 140737488355328):a4t bytes l x=some (l++x):=by unfold a4t;rw [if_pos h]
theorem a6a {α:Type} {l:List α} {lo hi:Int} (h0:0 <= lo) (h1:lo <= hi) (h2:hi <= (l.length:Int)):a0j l lo hi=some ((l.drop lo.toNat).take (hi.toNat-lo.toNat)):=by
 unfold a0j;rw [if_pos ⟨h0,h1,h2⟩]
theorem c1f {a b:Int} (h:0 <= a):a.tmod b=a%b:=Int.tmod_eq_emod_of_nonneg h
theorem d1o {a b:Int} (h:0 <= a):a.tdiv b=a/b:=Int.tdiv_eq_ediv_of_nonneg h
end Go.PL
namespace Go.PL
open Go Go.SX
structure Rules where
 From:Int
 MinDays:Int
 PostingLimit:Int
 Substantial:Int
 Members:List Int
structure Span where
 From:Int
 To:Int
structure Token where
 Kind:Int
 Text:ByteArray
 At:Int
structure rQ where
 l:List Token
 at_:Int
 end_:Int
 bad:Bool
structure pensionref1_wide where
 hi:Int
 lo:Int
structure Fraction where
 Num:Int
 Den:Int
structure Expr where
 Op:Int
 Value:Fraction
 Dim:Int
 Name:ByteArray
 Args:List Expr
structure Rounding where
 Mode:Int
 Unit:Int
structure Credit where
 Kind:Int
 Limit:Int
structure Index where
 Year:Int
 Factor:Fraction
structure Let where
 Name:ByteArray
 Body:Expr
structure Grant where
 Benefit:Int
 If:Expr
 Pay:Expr
structure Reduce where
 Benefit:Int
 By:Expr
structure Version where
 From:Int
 Rounding:Rounding
 Credits:List Credit
 Series:List Index
 Lets:List Let
 Grants:List Grant
 Reduces:List Reduce
structure Statute where
 Name:ByteArray
 Currency:Int
 Versions:List Version
structure State where
 State:Int
 Statute:Statute
structure Rate where
 Currency:Int
 Month:Int
 Value:Fraction
structure Laws where
 States:List State
 Treaty:List Rules
 Rates:List Rate
structure aQ where
 Issuer:Int
 Number:Int
 Version:Int
 Withdrawn:Bool
 Person:Int
 Kind:Int
 State:Int
 Span:Span
 Seat:Int
 Share:Int
 Currency:Int
 Amount:Int
 Ref:Int
structure pensionhand_Fact where
 Issuer:Int
 Number:Int
 Version:Int
 Withdrawn:Bool
 Person:Int
 Kind:Int
 State:Int
 Seat:Int
 From:Int
 Length:Int
 Share:Int
 Amount:Int
 Ref:Int
structure wQ where
 days:List Int
structure Posting where
 Seat:Int
 State:Int
 Span:Span
structure competence_route where
 seat:Int
 state:Int
structure lQ where
 facts:List aQ
 span:Span
 postings:List Posting
 rules:List Rules
structure Segment where
 Span:Span
 State:Int
 Rule:Int
def a5j:ByteArray:=⟨#[]⟩
def a4u:ByteArray:=⟨#[48,49,50,51,52,53,54,55,56,57]⟩
def c18:ByteArray:=⟨#[46]⟩
def b9m:ByteArray:=⟨#[102,114,111,109,32,64]⟩
def b5t:ByteArray:=⟨#[32,123,32,114,111,117,110,100,32]⟩
def b6p:ByteArray:=⟨#[100,111,119,110,32,49,59,32]⟩
def c36:ByteArray:=⟨#[99,114,101,100,105,116,32,118,111,108,117,110,116,97,114,121,59,32,99,114,101,100,105,116,32,117,110,101,109,112,108,111,121,101,100,32,108,105,109,105,116,32]⟩
def b3i:ByteArray:=⟨#[59,32]⟩
def c31:ByteArray:=⟨#[99,114,101,100,105,116,32,99,104,105,108,100,32,108,105,109,105,116,32]⟩
def c2c:ByteArray:=⟨#[99,114,101,100,105,116,32,114,101,115,105,100,101,110,99,101,59,32]⟩
def c3l:ByteArray:=⟨#[105,110,100,101,120,32,49,57,54,48,32,49,59,32,105,110,100,101,120,32,49,57,56,48,32]⟩
def c1l:ByteArray:=⟨#[59,32,105,110,100,101,120,32,49,57,57,53,32]⟩
def c3q:ByteArray:=⟨#[108,101,116,32,115,112,101,110,116,32,61,32,105,110,115,117,114,101,100,32,47,32]⟩
def c3r:ByteArray:=⟨#[100,59,32,108,101,116,32,112,97,114,116,32,61,32,109,105,110,40,115,112,101,110,116,32,42,32]⟩
def c1c:ByteArray:=⟨#[44,32,48,46,56,48,41,59,32]⟩
def c1u:ByteArray:=⟨#[103,114,97,110,116,32,111,108,100,32,105,102,32,97,103,101,32,62,61,32]⟩
def c2h:ByteArray:=⟨#[32,97,110,100,32,105,110,115,117,114,101,100,32,62,61,32]⟩
def c2i:ByteArray:=⟨#[100,32,112,97,121,32,109,97,120,40,98,97,115,101,32,42,32,112,97,114,116,44,32]⟩
def b9z:ByteArray:=⟨#[109,41,59,32]⟩
def c2b:ByteArray:=⟨#[103,114,97,110,116,32,100,105,115,97,98,105,108,105,116,121,32,105,102,32,105,110,115,117,114,101,100,32,62,61,32]⟩
def c1m:ByteArray:=⟨#[100,32,112,97,121,32,98,97,115,101,32,42,32]⟩
def c24:ByteArray:=⟨#[103,114,97,110,116,32,115,117,114,118,105,118,111,114,32,105,102,32,119,111,114,107,101,100,32,43,32,101,113,117,97,116,101,100,32,62,61,32,51,48,100,32,112,97,121,32,98,97,115,101,32,42,32,112,97,114,116,32,42,32,48,46,54,48,59,32]⟩
def c29:ByteArray:=⟨#[103,114,97,110,116,32,102,97,109,105,108,121,32,105,102,32,105,110,115,117,114,101,100,32,62,61,32]⟩
def c53:ByteArray:=⟨#[100,32,112,97,121,32]⟩
def c3x:ByteArray:=⟨#[109,32,42,32,99,104,105,108,100,114,101,110,59,32]⟩
def c3b:ByteArray:=⟨#[103,114,97,110,116,32,115,105,99,107,110,101,115,115,32,105,102,32,105,110,115,117,114,101,100,32,62,61,32]⟩
def c2d:ByteArray:=⟨#[100,32,112,97,121,32,98,101,115,116,40,51,41,32,47,32,49,50,32,42,32,48,46,55,48,59,32]⟩
def b3k:ByteArray:=⟨#[114,101,100,117,99,101,32,111,108,100,32,98,121,32]⟩
def c32:ByteArray:=⟨#[114,101,100,117,99,101,32,100,105,115,97,98,105,108,105,116,121,32,98,121,32,105,102,32,97,103,101,32,60,32,54,48,32,116,104,101,110,32,48,46,53,48,32,101,108,115,101,32,49,59,32]⟩
def c7v:ByteArray:=⟨#[125,32]⟩
def b6o:ByteArray:=⟨#[104,97,108,102,32,53,59,32]⟩
def c05:ByteArray:=⟨#[117,112,32,49,59,32]⟩
def b5d:ByteArray:=⟨#[101,118,101,110,32,49,48,59,32]⟩
def b5z:ByteArray:=⟨#[97,108,98,97]⟩
def b68:ByteArray:=⟨#[98,111,114,97]⟩
def b43:ByteArray:=⟨#[99,101,100,97,114]⟩
def b9l:ByteArray:=⟨#[115,116,97,116,117,116,101,32]⟩
def b6q:ByteArray:=⟨#[32,99,117,114,114,101,110,99,121,32]⟩
def c9w:ByteArray:=⟨#[32,123,32]⟩
def b3b:ByteArray:=⟨#[49,57,48,48,45,48,49,45,48,49]⟩
def b3p:ByteArray:=⟨#[49,57,57,54,45,48,55,45,48,49]⟩
def b3m:ByteArray:=⟨#[50,48,48,49,45,48,49,45,48,49]⟩
def c27:ByteArray:=⟨#[125]⟩
def c5p:ByteArray:=⟨#[60,61]⟩
def c4s:ByteArray:=⟨#[62,61]⟩
def c5i:ByteArray:=⟨#[60,62]⟩
def d2f:ByteArray:=⟨#[97,110,100]⟩
def c7d:ByteArray:=⟨#[98,101,115,116]⟩
def d9f:ByteArray:=⟨#[98,121]⟩
def b9h:ByteArray:=⟨#[99,114,101,100,105,116]⟩
def b5r:ByteArray:=⟨#[99,117,114,114,101,110,99,121]⟩
def c7c:ByteArray:=⟨#[101,108,115,101]⟩
def c2q:ByteArray:=⟨#[102,108,111,111,114]⟩
def c6e:ByteArray:=⟨#[102,114,111,109]⟩
def c3e:ByteArray:=⟨#[103,114,97,110,116]⟩
def d53:ByteArray:=⟨#[105,102]⟩
def c2s:ByteArray:=⟨#[105,110,100,101,120]⟩
def d2n:ByteArray:=⟨#[108,101,116]⟩
def c1e:ByteArray:=⟨#[108,105,109,105,116]⟩
def d2m:ByteArray:=⟨#[109,97,120]⟩
def d2b:ByteArray:=⟨#[109,105,110]⟩
def d1s:ByteArray:=⟨#[110,111,116]⟩
def e2b:ByteArray:=⟨#[111,114]⟩
def d2h:ByteArray:=⟨#[112,97,121]⟩
def b93:ByteArray:=⟨#[114,101,100,117,99,101]⟩
def c3c:ByteArray:=⟨#[114,111,117,110,100]⟩
def b7f:ByteArray:=⟨#[115,116,97,116,117,116,101]⟩
def d4g:ByteArray:=⟨#[116,104,101,110]⟩
def c3v:ByteArray:=⟨#[0,1,2,2,3,3,3,3,4,4,4,4,4,4,4,4,5,5,5,5,5,5,5,5,5,5,5,5,5,5,5,5,6,6,6,6,6,6,6,6,6,6,6,6,6,6,6,6,6,6,6,6,6,6,6,6,6,6,6,6,6,6,6,6,7,7,7,7,7,7,7,7,7,7,7,7,7,7,7,7,7,7,7,7,7,7,7,7,7,7,7,7,7,7,7,7,7,7,7,7,7,7,7,7,7,7,7,7,7,7,7,7,7,7,7,7,7,7,7,7,7,7,7,7,7,7,7,7,8,8,8,8,8,8,8,8,8,8,8,8,8,8,8,8,8,8,8,8,8,8,8,8,8,8,8,8,8,8,8,8,8,8,8,8,8,8,8,8,8,8,8,8,8,8,8,8,8,8,8,8,8,8,8,8,8,8,8,8,8,8,8,8,8,8,8,8,8,8,8,8,8,8,8,8,8,8,8,8,8,8,8,8,8,8,8,8,8,8,8,8,8,8,8,8,8,8,8,8,8,8,8,8,8,8,8,8,8,8,8,8,8,8,8,8,8,8,8,8,8,8,8,8,8,8,8,8]⟩
def b8c:ByteArray:=⟨#[118,111,108,117,110,116,97,114,121]⟩
def c1y:ByteArray:=⟨#[115,101,114,118,105,99,101]⟩
def b6u:ByteArray:=⟨#[117,110,101,109,112,108,111,121,101,100]⟩
def d4v:ByteArray:=⟨#[115,105,99,107]⟩
def d01:ByteArray:=⟨#[99,104,105,108,100]⟩
def b8b:ByteArray:=⟨#[114,101,115,105,100,101,110,99,101]⟩
def d9l:ByteArray:=⟨#[111,108,100]⟩
def b6m:ByteArray:=⟨#[100,105,115,97,98,105,108,105,116,121]⟩
def c03:ByteArray:=⟨#[115,117,114,118,105,118,111,114]⟩
def c5r:ByteArray:=⟨#[102,97,109,105,108,121]⟩
def c06:ByteArray:=⟨#[115,105,99,107,110,101,115,115]⟩
def d4l:ByteArray:=⟨#[100,111,119,110]⟩
def e74:ByteArray:=⟨#[117,112]⟩
def d52:ByteArray:=⟨#[104,97,108,102]⟩
def d4d:ByteArray:=⟨#[101,118,101,110]⟩
def e8q:ByteArray:=⟨#[43]⟩
def d22:ByteArray:=⟨#[45]⟩
def f0r:ByteArray:=⟨#[42]⟩
def e2l:ByteArray:=⟨#[47]⟩
def f0z:ByteArray:=⟨#[60]⟩
def d9q:ByteArray:=⟨#[61]⟩
def e9u:ByteArray:=⟨#[62]⟩
def d2o:ByteArray:=⟨#[40]⟩
def c6l:ByteArray:=⟨#[41]⟩
def e97:ByteArray:=⟨#[44]⟩
def b78:ByteArray:=⟨#[59]⟩
def e2g:ByteArray:=⟨#[123]⟩
def e50:ByteArray:=⟨#[100]⟩
def e3d:ByteArray:=⟨#[109]⟩
def a99:ByteArray:=⟨#[83,80,84,72,67,65]⟩
def a5a:ByteArray:=⟨#[83,80,72,67,65]⟩
def b56:ByteArray:=⟨#[83,80,84]⟩
def a7l:ByteArray:=⟨#[83,80]⟩
def b3h:ByteArray:=⟨#[83,80,67,65]⟩
def b5g:ByteArray:=⟨#[83,80,82]⟩
def b4y:ByteArray:=⟨#[80]⟩
def b9s:ByteArray:=⟨#[80,82]⟩
def f0v:ByteArray:=⟨#[83]⟩
def f02:ByteArray:=⟨#[84]⟩
def e8m:ByteArray:=⟨#[72]⟩
def e8k:ByteArray:=⟨#[67]⟩
def e9c:ByteArray:=⟨#[65]⟩
def f0d:ByteArray:=⟨#[82]⟩
def b04 (s:ByteArray) (c:Int):Option Int:=some (f5o s c)
def a61 (a0:List Int):Option (List Int):=a4t 8 [] a0
instance:Inhabited Span:=⟨⟨0,0⟩⟩
def b0v (l:List Span):Option (List Span):=d9u (fun x y=>decide (x.From<y.From)) l
def b1q (r2:(Int×ByteArray) -> Option ByteArray) (v1:Int×ByteArray):Option ByteArray:=
 if (decide (v1.1>9)) then
 (b7d v1.1 10).bind fun v3=>
 (b7d v1.1 10).bind fun v4=>
 (c0f a4u v3 (i64 (v4+1))).bind fun v5=>
 (a65 v5 v1.2).bind fun v6=>
 (c0i v1.1 10).bind fun v7=>
 r2 (v7,v6)
 else
 (c0f a4u v1.1 (i64 (v1.1+1))).bind fun v8=>
 (a65 v8 v1.2).bind fun v9=>
 some v9
def i6 (a0:Int):Option ByteArray:=
 d5 FU b1q (a0,a5j)
def b7 (a0:Int) (a1:Int):Option Int:=
 (b7d a0 a1).bind fun v1=>
 if (decide (v1<0)) then
 some (i64 (v1+a1))
 else
 some v1
def c6 (a0:List Int) (a1:Int):Option Int:=
 if ((a0.length:Int)==0) then
 some 0
 else
 (b7 a1 (a0.length:Int)).bind fun v1=>
 (c8 a0 v1).bind fun v2=>
 some v2
def u5 (a0:Int):Option ByteArray:=
 (c0i a0 100).bind fun v1=>
 (i6 v1).bind fun v2=>
 (a65 v2 c18).bind fun v3=>
 (c0i a0 10).bind fun v4=>
 (b7d v4 10).bind fun v5=>
 (i6 v5).bind fun v6=>
 (a65 v3 v6).bind fun v7=>
 (b7d a0 10).bind fun v8=>
 (i6 v8).bind fun v9=>
 (a65 v7 v9).bind fun v10=>
 some v10
def a3z (v104:(List Int)×Int×ByteArray):Option ByteArray:=
 (c6 v104.1 (i64 (v104.2.1+18))).bind fun v105=>
 (b7 v105 3).bind fun v106=>
 if (v106==0) then
 (a65 v104.2.2 c32).bind fun v107=>
 (a65 v107 c7v).bind fun v108=>
 some v108
 else
 (a65 v104.2.2 c7v).bind fun v109=>
 some v109
def a3v (v78:(List Int)×Int×ByteArray):Option ByteArray:=
 (c6 v78.1 (i64 (v78.2.1+14))).bind fun v79=>
 (b7 v79 800).bind fun v80=>
 (i6 v80).bind fun v81=>
 (a65 c29 v81).bind fun v82=>
 (a65 v82 c53).bind fun v83=>
 (c6 v78.1 (i64 (v78.2.1+15))).bind fun v84=>
 (b7 v84 300).bind fun v85=>
 (i6 (i64 (10+v85))).bind fun v86=>
 (a65 v83 v86).bind fun v87=>
 (a65 v87 c3x).bind fun v88=>
 (a65 v78.2.2 v88).bind fun v89=>
 (c6 v78.1 (i64 (v78.2.1+16))).bind fun v90=>
 (b7 v90 400).bind fun v91=>
 (i6 v91).bind fun v92=>
 (a65 c3b v92).bind fun v93=>
 (a65 v93 c2d).bind fun v94=>
 (a65 v89 v94).bind fun v95=>
 (c6 v78.1 (i64 (v78.2.1+17))).bind fun v96=>
 (b7 v96 3).bind fun v97=>
 if (decide (v97>0)) then
 (c6 v78.1 (i64 (v78.2.1+17))).bind fun v98=>
 (b7 v98 11).bind fun v99=>
 (u5 (i64 (10*v99))).bind fun v100=>
 (a65 b3k v100).bind fun v101=>
 (a65 v101 b3i).bind fun v102=>
 (a65 v95 v102).bind fun v103=>
 joinC a3z (v78.1,v78.2.1,v103)
 else
 joinC a3z (v78.1,v78.2.1,v95)
def a42 (v28:(List Int)×Int×ByteArray×ByteArray):Option ByteArray:=
 (c6 v28.1 (i64 (v28.2.1+5))).bind fun v29=>
 (b7 v29 300).bind fun v30=>
 (u5 (i64 (100+v30))).bind fun v31=>
 (a65 c3l v31).bind fun v32=>
 (a65 v32 c1l).bind fun v33=>
 (c6 v28.1 (i64 (v28.2.1+6))).bind fun v34=>
 (b7 v34 300).bind fun v35=>
 (u5 (i64 (400+v35))).bind fun v36=>
 (a65 v33 v36).bind fun v37=>
 (a65 v37 b3i).bind fun v38=>
 (a65 v28.2.2.2 v38).bind fun v39=>
 (a65 c3q v28.2.2.1).bind fun v40=>
 (a65 v40 c3r).bind fun v41=>
 (c6 v28.1 (i64 (v28.2.1+7))).bind fun v42=>
 (b7 v42 4).bind fun v43=>
 (u5 (i64 (1+v43))).bind fun v44=>
 (a65 v41 v44).bind fun v45=>
 (a65 v45 c1c).bind fun v46=>
 (a65 v39 v46).bind fun v47=>
 (c6 v28.1 (i64 (v28.2.1+8))).bind fun v48=>
 (b7 v48 12).bind fun v49=>
 (i6 (i64 (50+v49))).bind fun v50=>
 (a65 c1u v50).bind fun v51=>
 (a65 v51 c2h).bind fun v52=>
 (c6 v28.1 (i64 (v28.2.1+9))).bind fun v53=>
 (b7 v53 6000).bind fun v54=>
 (i6 v54).bind fun v55=>
 (a65 v52 v55).bind fun v56=>
 (a65 v56 c2i).bind fun v57=>
 (c6 v28.1 (i64 (v28.2.1+10))).bind fun v58=>
 (b7 v58 900).bind fun v59=>
 (i6 v59).bind fun v60=>
 (a65 v57 v60).bind fun v61=>
 (a65 v61 b9z).bind fun v62=>
 (a65 v47 v62).bind fun v63=>
 (c6 v28.1 (i64 (v28.2.1+11))).bind fun v64=>
 (b7 v64 2000).bind fun v65=>
 (i6 v65).bind fun v66=>
 (a65 c2b v66).bind fun v67=>
 (a65 v67 c1m).bind fun v68=>
 (c6 v28.1 (i64 (v28.2.1+12))).bind fun v69=>
 (b7 v69 60).bind fun v70=>
 (u5 (i64 (20+v70))).bind fun v71=>
 (a65 v68 v71).bind fun v72=>
 (a65 v72 b3i).bind fun v73=>
 (a65 v63 v73).bind fun v74=>
 (c6 v28.1 (i64 (v28.2.1+13))).bind fun v75=>
 (b7 v75 5).bind fun v76=>
 if (decide (v76>0)) then
 (a65 v74 c24).bind fun v77=>
 joinC a3v (v28.1,v28.2.1,v77)
 else
 joinC a3v (v28.1,v28.2.1,v74)
def a43 (v24:(List Int)×Int×ByteArray×ByteArray):Option ByteArray:=
 (c6 v24.1 (i64 (v24.2.1+4))).bind fun v25=>
 (b7 v25 4).bind fun v26=>
 if (v26==0) then
 (a65 v24.2.2.2 c2c).bind fun v27=>
 joinC a42 (v24.1,v24.2.1,v24.2.2.1,v27)
 else
 joinC a42 (v24.1,v24.2.1,v24.2.2.1,v24.2.2.2)
def a0l (v9:(List Int)×Int×ByteArray×ByteArray):Option ByteArray:=
 (c6 v9.1 (i64 (v9.2.1+2))).bind fun v10=>
 (b7 v10 900).bind fun v11=>
 (i6 (i64 (1+v11))).bind fun v12=>
 (a65 c36 v12).bind fun v13=>
 (a65 v13 b3i).bind fun v14=>
 (a65 v9.2.2.2 v14).bind fun v15=>
 (c6 v9.1 (i64 (v9.2.1+3))).bind fun v16=>
 (b7 v16 3).bind fun v17=>
 if (decide (v17>0)) then
 (c6 v9.1 (i64 (v9.2.1+3))).bind fun v18=>
 (b7 v18 1000).bind fun v19=>
 (i6 (i64 (100+v19))).bind fun v20=>
 (a65 c31 v20).bind fun v21=>
 (a65 v21 b3i).bind fun v22=>
 (a65 v15 v22).bind fun v23=>
 joinC a43 (v9.1,v9.2.1,v9.2.2.1,v23)
 else
 joinC a43 (v9.1,v9.2.1,v9.2.2.1,v15)
def a1w (a0:ByteArray) (a1:List Int) (a2:Int):Option ByteArray:=
 (c6 a1 a2).bind fun v1=>
 (b7 v1 90).bind fun v2=>
 (i6 (i64 (300+v2))).bind fun v3=>
 (a65 b9m a0).bind fun v4=>
 (a65 v4 b5t).bind fun v5=>
 (c6 a1 (i64 (a2+1))).bind fun v6=>
 (b7 v6 4).bind fun v7=>
 if (v7==0) then
 (a65 v5 b6p).bind fun v8=>
 joinC a0l (a1,a2,v3,v8)
 else
 if (v7==1) then
 (a65 v5 b6o).bind fun v110=>
 joinC a0l (a1,a2,v3,v110)
 else
 if (v7==2) then
 (a65 v5 c05).bind fun v111=>
 joinC a0l (a1,a2,v3,v111)
 else
 (a65 v5 b5d).bind fun v112=>
 joinC a0l (a1,a2,v3,v112)
def a5z (v14:Int×(List Int)×ByteArray):Option ByteArray:=
 (c6 v14.2.1 (i64 (37+v14.1))).bind fun v15=>
 (b7 v15 3).bind fun v16=>
 if (v16==0) then
 (a1w b3m v14.2.1 (i64 ((i64 (7*v14.1))+5))).bind fun v17=>
 (a65 v14.2.2 v17).bind fun v18=>
 (a65 v18 c27).bind fun v19=>
 some v19
 else
 (a65 v14.2.2 c27).bind fun v20=>
 some v20
def a8s (a0:Int) (a1:List Int):Option ByteArray:=
 (c8 (⟨[b5z,b68,b43],rfl⟩:Ar 3 ByteArray).l a0).bind fun v1=>
 (c8 (⟨[b5z,b68,b43],rfl⟩:Ar 3 ByteArray).l a0).bind fun v2=>
 (a65 b9l v2).bind fun v3=>
 (a65 v3 b6q).bind fun v4=>
 (i6 (i64 (1+a0))).bind fun v5=>
 (a65 v4 v5).bind fun v6=>
 (a65 v6 c9w).bind fun v7=>
 (a1w b3b a1 (i64 (7*a0))).bind fun v8=>
 (a65 v7 v8).bind fun v9=>
 (c6 a1 (i64 (31+a0))).bind fun v10=>
 (b7 v10 3).bind fun v11=>
 if (decide (v11>0)) then
 (a1w b3p a1 (i64 ((i64 (7*a0))+3))).bind fun v12=>
 (a65 v9 v12).bind fun v13=>
 joinC a5z (a0,a1,v13)
 else
 joinC a5z (a0,a1,v9)
def b2n (a0:ByteArray) (r2:(Int×Bool) -> Option Int) (v1:Int×Bool):Option Int:=
 if (decide (v1.1<(a0.size:Int))) then
 (b47 a0 v1.1).bind fun v3=>
 if (v3==10) then
 r2 (i64 (v1.1+1),false)
 else
 if (v3==35) then
 r2 (i64 (v1.1+1),true)
 else
 (if (!v1.2) then some (v3 != 9) else some false).bind fun v4=>
 (if v4 then some (v3 != 13) else some false).bind fun v5=>
 (if v5 then some (v3 != 32) else some false).bind fun v6=>
 if v6 then
 some v1.1
 else
 r2 (i64 (v1.1+1),v1.2)
 else
 some v1.1
def a8o (a0:ByteArray) (a1:Int):Option Int:=
 d5 FU (b2n a0) (a1,false)
def a2j (a0:Int):Option Bool:=
 (if (decide (a0 >= 97)) then some (decide (a0 <= 122)) else some false).bind fun v1=>
 some v1
def a1s (a0:Int):Option Bool:=
 (if (decide (a0 >= 48)) then some (decide (a0 <= 57)) else some false).bind fun v1=>
 some v1
def b3n (a1:Int) (a0:ByteArray) (a2:Bool) (r2:Int -> Option Int) (v1:Int):Option Int:=
 (if (decide ((i64 (a1+v1))<(a0.size:Int))) then (b47 a0 (i64 (a1+v1))).bind fun v3=>
 (a2j v3).bind fun v4=>
 (if v4 then some true else (b47 a0 (i64 (a1+v1))).bind fun v5=>
 (a1s v5).bind fun v6=>
 some v6).bind fun v7=>
 (if v7 then some true else (b47 a0 (i64 (a1+v1))).bind fun v8=>
 some (v8==95)).bind fun v9=>
 (if v9 then some true else (if a2 then (b47 a0 (i64 (a1+v1))).bind fun v10=>
 some (v10==46) else some false).bind fun v11=>
 some v11).bind fun v12=>
 some v12 else some false).bind fun v13=>
 if v13 then
 r2 (i64 (v1+1))
 else
 some v1
def a7f (a0:ByteArray) (a1:Int) (a2:Bool):Option Int:=
 d5 FU (b3n a1 a0 a2) 0
def b25 (v11:Int×ByteArray×ByteArray) (r13:Int -> Option (ByteArray×ByteArray×Int×Bool)) (v12:Int):Option (ByteArray×ByteArray×Int×Bool):=
 if (decide (v12<(i64 ((v11.2.1.size:Int)+(v11.2.2.size:Int))))) then
 (a65 v11.2.1 v11.2.2).bind fun v14=>
 (b47 v14 v12).bind fun v15=>
 (a1s v15).bind fun v16=>
 if (!v16) then
 some (a5j,a5j,0,false)
 else
 r13 (i64 (v12+1))
 else
 (if (decide ((v11.2.1.size:Int)<1)) then some true else some (decide ((v11.2.1.size:Int)>9))).bind fun v17=>
 (if v17 then some true else (if (decide ((v11.2.1.size:Int)>1)) then (b47 v11.2.1 0).bind fun v18=>
 some (v18==48) else some false).bind fun v19=>
 some v19).bind fun v20=>
 if v20 then
 some (a5j,a5j,0,false)
 else
 some (v11.2.1,v11.2.2,v11.1,true)
def a56 (v11:Int×ByteArray×ByteArray):Option (ByteArray×ByteArray×Int×Bool):=
 d5 FU (b25 v11) 0
def b27 (v4:ByteArray×Int) (r6:(Int×Int) -> Option (ByteArray×ByteArray×Int×Bool)) (v5:Int×Int):Option (ByteArray×ByteArray×Int×Bool):=
 if (decide (v5.2 >= 0)) then
 (b47 v4.1 v5.2).bind fun v7=>
 if (v7==46) then
 r6 (v5.2,i64 (v5.2-1))
 else
 r6 (v5.1,i64 (v5.2-1))
 else
 (c0f v4.1 0 v5.1).bind fun v8=>
 if (decide (v5.1<(v4.1.size:Int))) then
 (c0f v4.1 (i64 (v5.1+1)) (v4.1.size:Int)).bind fun v9=>
 (if (decide ((v9.size:Int)<1)) then some true else some (decide ((v9.size:Int)>4))).bind fun v10=>
 if v10 then
 some (a5j,a5j,0,false)
 else
 joinC a56 (v4.2,v8,v9)
 else
 joinC a56 (v4.2,v8,a5j)
def a2x (v4:ByteArray×Int):Option (ByteArray×ByteArray×Int×Bool):=
 d5 FU (b27 v4) ((v4.1.size:Int),i64 ((v4.1.size:Int)-1))
def a5b (a0:ByteArray):Option (ByteArray×ByteArray×Int×Bool):=
 (if (decide ((a0.size:Int)>0)) then (b47 a0 (i64 ((a0.size:Int)-1))).bind fun v1=>
 some (v1==100) else some false).bind fun v2=>
 if v2 then
 (c0f a0 0 (i64 ((a0.size:Int)-1))).bind fun v3=>
 joinC a2x (v3,3)
 else
 (if (decide ((a0.size:Int)>0)) then (b47 a0 (i64 ((a0.size:Int)-1))).bind fun v21=>
 some (v21==109) else some false).bind fun v22=>
 if v22 then
 (c0f a0 0 (i64 ((a0.size:Int)-1))).bind fun v23=>
 joinC a2x (v23,4)
 else
 joinC a2x (a0,2)
def b1v (a0:ByteArray) (r2:(Int×Int) -> Option (Int×Bool)) (v1:Int×Int):Option (Int×Bool):=
 if (decide (v1.2<(a0.size:Int))) then
 (b47 a0 v1.2).bind fun v3=>
 (if (decide (v3<48)) then some true else (b47 a0 v1.2).bind fun v4=>
 some (decide (v4>57))).bind fun v5=>
 if v5 then
 some (0,false)
 else
 (b47 a0 v1.2).bind fun v6=>
 r2 (i64 ((i64 (v1.1*10))+(i64 (IntKind.u8.wrap (v6-48)))),i64 (v1.2+1))
 else
 some (v1.1,decide ((a0.size:Int)>0))
def a3c (a0:ByteArray):Option (Int×Bool):=
 d5 FU (b1v a0) (0,0)
def a6b (a0:Int):Option Bool:=
 (b7d a0 4).bind fun v1=>
 (if (v1==0) then (b7d a0 100).bind fun v2=>
 (if (v2 != 0) then some true else (b7d a0 400).bind fun v3=>
 some (v3==0)).bind fun v4=>
 some v4 else some false).bind fun v5=>
 some v5
def y7 (a0:Int) (a1:Int):Option Int:=
 if (a1==2) then
 (a6b a0).bind fun v1=>
 if v1 then
 some 29
 else
 some 28
 else
 if (a1==4) then
 if (a1==4) then
 some 30
 else
 some 31
 else
 if (a1==6) then
 if (a1==6) then
 some 30
 else
 some 31
 else
 if (a1==9) then
 if (a1==9) then
 some 30
 else
 some 31
 else
 if (a1==11) then
 some 30
 else
 some 31
def a4x (a0:Int) (r2:(Int×Int) -> Option Int) (v1:Int×Int):Option Int:=
 if (decide (v1.2<a0)) then
 (c0i v1.2 12).bind fun v3=>
 (b7d v1.2 12).bind fun v4=>
 (y7 (i64 (1900+v3)) (i64 (v4+1))).bind fun v5=>
 r2 (i64 (v1.1+v5),i64 (v1.2+1))
 else
 some v1.1
def a1x (a0:Int):Option Int:=
 d5 FU (a4x a0) (0,0)
def b0d (a0:Int) (a1:Int) (a2:Int):Option (Int×Bool):=
 (if (decide (a0<1900)) then some true else some (decide (a0>2099))).bind fun v1=>
 (if v1 then some true else some (decide (a1<1))).bind fun v2=>
 (if v2 then some true else some (decide (a1>12))).bind fun v3=>
 (if v3 then some true else some (decide (a2<1))).bind fun v4=>
 (if v4 then some true else (y7 a0 a1).bind fun v5=>
 some (decide (a2>v5))).bind fun v6=>
 if v6 then
 some (0,false)
 else
 (a1x (i64 ((i64 ((i64 ((i64 (a0-1900))*12))+a1))-1))).bind fun v7=>
 some (i64 ((i64 (v7+a2))-1),true)
def a2y (a0:ByteArray):Option (Int×Bool):=
 (if ((a0.size:Int) != 10) then some true else (b47 a0 4).bind fun v1=>
 some (v1 != 45)).bind fun v2=>
 (if v2 then some true else (b47 a0 7).bind fun v3=>
 some (v3 != 45)).bind fun v4=>
 if v4 then
 some (0,false)
 else
 (c0f a0 0 4).bind fun v5=>
 (a3c v5).bind fun v6=>
 (c0f a0 5 7).bind fun v7=>
 (a3c v7).bind fun v8=>
 (c0f a0 8 (a0.size:Int)).bind fun v9=>
 (a3c v9).bind fun v10=>
 (if (!v6.2) then some true else some (!v8.2)).bind fun v11=>
 (if v11 then some true else some (!v10.2)).bind fun v12=>
 if v12 then
 some (0,false)
 else
 (b0d v6.1 v8.1 v10.1).bind fun v13=>
 some (v13.1,v13.2)
def a5w (v4:ByteArray×Int):Option Int:=
 (b47 v4.1 v4.2).bind fun v5=>
 if (v5==60) then
 if (v5==60) then
 some 1
 else
 some 0
 else
 if (v5==62) then
 if (v5==62) then
 some 1
 else
 some 0
 else
 if (v5==61) then
 if (v5==61) then
 some 1
 else
 some 0
 else
 if (v5==43) then
 if (v5==43) then
 some 1
 else
 some 0
 else
 if (v5==45) then
 if (v5==45) then
 some 1
 else
 some 0
 else
 if (v5==42) then
 if (v5==42) then
 some 1
 else
 some 0
 else
 if (v5==47) then
 if (v5==47) then
 some 1
 else
 some 0
 else
 if (v5==40) then
 if (v5==40) then
 some 1
 else
 some 0
 else
 if (v5==41) then
 if (v5==41) then
 some 1
 else
 some 0
 else
 if (v5==123) then
 if (v5==123) then
 some 1
 else
 some 0
 else
 if (v5==125) then
 if (v5==125) then
 some 1
 else
 some 0
 else
 if (v5==44) then
 if (v5==44) then
 some 1
 else
 some 0
 else
 if (v5==59) then
 some 1
 else
 some 0
def a8w (a0:ByteArray) (a1:Int):Option Int:=
 if (decide ((i64 (a1+1))<(a0.size:Int))) then
 (c0f a0 a1 (i64 (a1+2))).bind fun v1=>
 (if (v1.toList==c5p.toList) then some true else some (v1.toList==c4s.toList)).bind fun v2=>
 (if v2 then some true else some (v1.toList==c5i.toList)).bind fun v3=>
 if v3 then
 some 2
 else
 joinC a5w (a0,a1)
 else
 joinC a5w (a0,a1)
def a0t (v6:ByteArray×Int×Token×Int×Int×Bool):Option (Token×Int×Int):=
 if (!v6.2.2.2.2.2) then
 some ((⟨0,a5j,0⟩:Token),v6.2.1,4)
 else
 (c0f v6.1 v6.2.1 (i64 (v6.2.1+v6.2.2.2.2.1))).bind fun v7=>
 some ((⟨v6.2.2.2.1,v7,v6.2.1⟩:Token),i64 (v6.2.1+v6.2.2.2.2.1),0)
def a8l (a0:ByteArray) (a1:Int):Option (Token×Int×Int):=
 (if (decide (a1<0)) then some true else some (decide (a1>(a0.size:Int)))).bind fun v1=>
 if v1 then
 some ((⟨0,a5j,0⟩:Token),0,1)
 else
 (a8o a0 a1).bind fun v2=>
 if (v2==(a0.size:Int)) then
 some ((⟨0,a5j,v2⟩:Token),v2,0)
 else
 (b47 a0 v2).bind fun v3=>
 (a2j v3).bind fun v4=>
 if v4 then
 (a7f a0 v2 false).bind fun v5=>
 joinC a0t (a0,v2,(⟨0,a5j,0⟩:Token),1,v5,decide (v5 <= 12))
 else
 (b47 a0 v2).bind fun v8=>
 (a1s v8).bind fun v9=>
 if v9 then
 (a7f a0 v2 true).bind fun v10=>
 (c0f a0 v2 (i64 (v2+v10))).bind fun v11=>
 (a5b v11).bind fun v12=>
 joinC a0t (a0,v2,(⟨0,a5j,0⟩:Token),2,v10,v12.2.2.2)
 else
 (b47 a0 v2).bind fun v13=>
 if (v13==64) then
 if (decide ((i64 ((a0.size:Int)-v2)) >= 11)) then
 (c0f a0 (i64 (v2+1)) (i64 (v2+11))).bind fun v14=>
 (a2y v14).bind fun v15=>
 joinC a0t (a0,v2,(⟨0,a5j,0⟩:Token),3,11,v15.2)
 else
 joinC a0t (a0,v2,(⟨0,a5j,0⟩:Token),3,11,decide ((i64 ((a0.size:Int)-v2)) >= 11))
 else
 (a8w a0 v2).bind fun v16=>
 joinC a0t (a0,v2,(⟨0,a5j,0⟩:Token),4,v16,decide (v16>0))
def b3g (a0:ByteArray) (r2:((List Token)×Int) -> Option ((List Token)×Int×Int)) (v1:(List Token)×Int):Option ((List Token)×Int×Int):=
 (a8l a0 v1.2).bind fun v3=>
 if (v3.2.2 != 0) then
 some ([],v3.2.1,v3.2.2)
 else
 if (v3.1.Kind==0) then
 some (v1.1,0,0)
 else
 (a4t 32 v1.1 [v3.1]).bind fun v4=>
 r2 (v4,v3.2.1)
def a9q (a0:ByteArray):Option ((List Token)×Int×Int):=
 if (decide ((a0.size:Int)>8000)) then
 some ([],0,7)
 else
 d5 FU (b3g a0) ([],0)
def a7x (a0:ByteArray):Option ((Option rQ)×Int×Int):=
 (a9q a0).bind fun v1=>
 if (v1.2.2 != 0) then
 some (none,v1.2.1,v1.2.2)
 else
 some (some (⟨v1.1,0,(a0.size:Int),false⟩:rQ),0,0)
def s5 (a0:rQ) (a1:ByteArray):Option Bool:=
 (if (!a0.bad) then some (decide (a0.at_<(a0.l.length:Int))) else some false).bind fun v1=>
 (if v1 then (c8 a0.l a0.at_).bind fun v2=>
 some (v2.Text.toList==a1.toList) else some false).bind fun v3=>
 some v3
def d4 (a0:rQ) (a1:ByteArray):Option (Bool×rQ):=
 (s5 a0 a1).bind fun v1=>
 if (!v1) then
 some (false,a0)
 else
 some (true,(⟨a0.l,i64 (a0.at_+1),a0.end_,a0.bad⟩:rQ))
def j4 (a0:rQ):Option rQ:=
 some (⟨a0.l,a0.at_,a0.end_,true⟩:rQ)
def b9 (a0:rQ) (a1:ByteArray):Option rQ:=
 (d4 a0 a1).bind fun v1=>
 if (!v1.1) then
 (j4 v1.2).bind fun v2=>
 some v2
 else
 some v1.2
def o5 (a0:rQ) (a1:Int):Option Bool:=
 (if (!a0.bad) then some (decide (a0.at_<(a0.l.length:Int))) else some false).bind fun v1=>
 (if v1 then (c8 a0.l a0.at_).bind fun v2=>
 some (v2.Kind==a1) else some false).bind fun v3=>
 some v3
def b1n (a0:ByteArray) (r2:Int -> Option Bool) (v1:Int):Option Bool:=
 if (decide (v1<(a0.size:Int))) then
 (b47 a0 v1).bind fun v3=>
 (a2j v3).bind fun v4=>
 (if (!v4) then (if (v1==0) then some true else (b47 a0 v1).bind fun v5=>
 (a1s v5).bind fun v6=>
 (if (!v6) then (b47 a0 v1).bind fun v7=>
 some (v7 != 95) else some false).bind fun v8=>
 some v8).bind fun v9=>
 some v9 else some false).bind fun v10=>
 if v10 then
 some false
 else
 r2 (i64 (v1+1))
 else
 (if (decide ((a0.size:Int) >= 1)) then some (decide ((a0.size:Int) <= 12)) else some false).bind fun v11=>
 some v11
def a6x (a0:ByteArray):Option Bool:=
 d5 FU (b1n a0) 0
def a5k (a0:ByteArray):Option Bool:=
 if (a0.toList==d2f.toList) then
 if (a0.toList==d2f.toList) then
 some true
 else
 some false
 else
 if (a0.toList==c7d.toList) then
 if (a0.toList==c7d.toList) then
 some true
 else
 some false
 else
 if (a0.toList==d9f.toList) then
 if (a0.toList==d9f.toList) then
 some true
 else
 some false
 else
 if (a0.toList==b9h.toList) then
 if (a0.toList==b9h.toList) then
 some true
 else
 some false
 else
 if (a0.toList==b5r.toList) then
 if (a0.toList==b5r.toList) then
 some true
 else
 some false
 else
 if (a0.toList==c7c.toList) then
 if (a0.toList==c7c.toList) then
 some true
 else
 some false
 else
 if (a0.toList==c2q.toList) then
 if (a0.toList==c2q.toList) then
 some true
 else
 some false
 else
 if (a0.toList==c6e.toList) then
 if (a0.toList==c6e.toList) then
 some true
 else
 some false
 else
 if (a0.toList==c3e.toList) then
 if (a0.toList==c3e.toList) then
 some true
 else
 some false
 else
 if (a0.toList==d53.toList) then
 if (a0.toList==d53.toList) then
 some true
 else
 some false
 else
 if (a0.toList==c2s.toList) then
 if (a0.toList==c2s.toList) then
 some true
 else
 some false
 else
 if (a0.toList==d2n.toList) then
 if (a0.toList==d2n.toList) then
 some true
 else
 some false
 else
 if (a0.toList==c1e.toList) then
 if (a0.toList==c1e.toList) then
 some true
 else
 some false
 else
 if (a0.toList==d2m.toList) then
 if (a0.toList==d2m.toList) then
 some true
 else
 some false
 else
 if (a0.toList==d2b.toList) then
 if (a0.toList==d2b.toList) then
 some true
 else
 some false
 else
 if (a0.toList==d1s.toList) then
 if (a0.toList==d1s.toList) then
 some true
 else
 some false
 else
 if (a0.toList==e2b.toList) then
 if (a0.toList==e2b.toList) then
 some true
 else
 some false
 else
 if (a0.toList==d2h.toList) then
 if (a0.toList==d2h.toList) then
 some true
 else
 some false
 else
 if (a0.toList==b93.toList) then
 if (a0.toList==b93.toList) then
 some true
 else
 some false
 else
 if (a0.toList==c3c.toList) then
 if (a0.toList==c3c.toList) then
 some true
 else
 some false
 else
 if (a0.toList==b7f.toList) then
 if (a0.toList==b7f.toList) then
 some true
 else
 some false
 else
 if (a0.toList==d4g.toList) then
 some true
 else
 some false
def a1f (a0:ByteArray):Option Bool:=
 (a6x a0).bind fun v1=>
 (if v1 then (a5k a0).bind fun v2=>
 some (!v2) else some false).bind fun v3=>
 some v3
def a09 (a0:rQ):Option (ByteArray×rQ):=
 (o5 a0 1).bind fun v1=>
 (if (!v1) then some true else (c8 a0.l a0.at_).bind fun v2=>
 (a1f v2.Text).bind fun v3=>
 some (!v3)).bind fun v4=>
 if v4 then
 (j4 a0).bind fun v5=>
 some (a5j,v5)
 else
 (c8 a0.l (i64 ((i64 (a0.at_+1))-1))).bind fun v6=>
 some (v6.Text,(⟨a0.l,i64 (a0.at_+1),a0.end_,a0.bad⟩:rQ))
def a2r (a0:Int):Option Int:=
 if (decide (a0<0)) then
 some (u64 ((u64 (i64 (-(i64 (a0+1)))))+1))
 else
 some (u64 (a0))
def b8g (v4:Int×Int):Option Int:=
 if (decide (v4.1 >= 256)) then
 (d3f .u64 v4.1 8).bind fun v5=>
 (b47 c3v (IntKind.u8.wrap (v5))).bind fun v6=>
 some (i64 ((i64 (v4.2+8))+(i64 (v6))))
 else
 (b47 c3v (IntKind.u8.wrap (v4.1))).bind fun v7=>
 some (i64 (v4.2+(i64 (v7))))
def b7n (v2:Int×Int):Option Int:=
 if (decide (v2.1 >= 65536)) then
 (d3f .u64 v2.1 16).bind fun v3=>
 joinC b8g (v3,i64 (v2.2+16))
 else
 joinC b8g (v2.1,v2.2)
def b8o (a0:Int):Option Int:=
 if (decide (a0 >= 4294967296)) then
 (d3f .u64 a0 32).bind fun v1=>
 joinC b7n (v1,32)
 else
 joinC b7n (a0,0)
def b32 (a0:Int):Option Int:=
 (b8o a0).bind fun v1=>
 some (i64 (64-v1))
def b7q (v21:Int×Int×Int×Int×Int×Int):Option (Int×Int):=
 (d3f .u64 (u64 ((u64 ((u64 (v21.2.2.2.2.1*4294967296))+v21.2.2.1))-(u64 (v21.2.2.2.2.2*v21.1)))) v21.2.1).bind fun v22=>
 some (u64 ((u64 (v21.2.2.2.1*4294967296))+v21.2.2.2.2.2),v22)
def c75 (v16:Int×Int×Int×Int×Int×Int×Int×Int) (r19:(Int×Int) -> Option (Int×Int)) (v18:Int×Int):Option (Int×Int):=
 (if (decide (v18.2 >= 4294967296)) then some true else some (decide ((u64 (v18.2*v16.2.2.2.1))>(u64 ((u64 (4294967296*v18.1))+v16.2.2.2.2.2.2.1))))).bind fun v20=>
 if v20 then
 if (decide ((u64 (v18.1+v16.2.2.1)) >= 4294967296)) then
 joinC b7q (v16.1,v16.2.1,v16.2.2.2.2.2.2.1,v16.2.2.2.2.2.2.2,u64 ((u64 ((u64 (v16.2.2.2.2.1*4294967296))+v16.2.2.2.2.2.1))-(u64 (v16.2.2.2.2.2.2.2*v16.1))),u64 (v18.2-1))
 else
 r19 (u64 (v18.1+v16.2.2.1),u64 (v18.2-1))
 else
 joinC b7q (v16.1,v16.2.1,v16.2.2.2.2.2.2.1,v16.2.2.2.2.2.2.2,u64 ((u64 ((u64 (v16.2.2.2.2.1*4294967296))+v16.2.2.2.2.2.1))-(u64 (v16.2.2.2.2.2.2.2*v16.1))),v18.2)
def b88 (v16:Int×Int×Int×Int×Int×Int×Int×Int):Option (Int×Int):=
 (if v16.2.2.1=0 then none else some (u64 (Int.tdiv (u64 ((u64 ((u64 (v16.2.2.2.2.1*4294967296))+v16.2.2.2.2.2.1))-(u64 (v16.2.2.2.2.2.2.2*v16.1)))) v16.2.2.1))).bind fun v17=>
 d5 FU (c75 v16) (u64 ((u64 ((u64 ((u64 (v16.2.2.2.2.1*4294967296))+v16.2.2.2.2.2.1))-(u64 (v16.2.2.2.2.2.2.2*v16.1))))-(u64 (v17*v16.2.2.1))),v17)
def c6j (v6:Int) (v11:Int) (v7:Int) (v5:Int) (v8:Int) (v9:Int) (v10:Int) (r14:(Int×Int) -> Option (Int×Int)) (v13:Int×Int):Option (Int×Int):=
 (if (decide (v13.1 >= 4294967296)) then some true else some (decide ((u64 (v13.1*(e42 .u64 v6 4294967295)))>(u64 ((u64 (4294967296*v13.2))+v11))))).bind fun v15=>
 if v15 then
 if (decide ((u64 (v13.2+v7)) >= 4294967296)) then
 joinC b88 (v6,u64 (v5),v7,e42 .u64 v6 4294967295,orK .u64 v8 v9,v11,e42 .u64 v10 4294967295,u64 (v13.1-1))
 else
 r14 (u64 (v13.1-1),u64 (v13.2+v7))
 else
 joinC b88 (v6,u64 (v5),v7,e42 .u64 v6 4294967295,orK .u64 v8 v9,v11,e42 .u64 v10 4294967295,v13.1)
def b7y (v2:Int×Int×Int):Option (Int×Int):=
 if (v2.1==0) then
 (if v2.2.2=0 then none else some (u64 (Int.tdiv v2.2.1 v2.2.2))).bind fun v3=>
 (b7d v2.2.1 v2.2.2).bind fun v4=>
 some (v3,v4)
 else
 (b32 v2.2.2).bind fun v5=>
 (f1r .u64 v2.2.2 (u64 (v5))).bind fun v6=>
 (d3f .u64 v6 32).bind fun v7=>
 (f1r .u64 v2.1 (u64 (v5))).bind fun v8=>
 (d3f .u64 v2.2.1 (u64 (64-(u64 (v5))))).bind fun v9=>
 (f1r .u64 v2.2.1 (u64 (v5))).bind fun v10=>
 (d3f .u64 v10 32).bind fun v11=>
 (if v7=0 then none else some (u64 (Int.tdiv (orK .u64 v8 v9) v7))).bind fun v12=>
 d5 FU (c6j v6 v11 v7 v5 v8 v9 v10) (v12,u64 ((orK .u64 v8 v9)-(u64 (v12*v7))))
def b7r (v1:Int×Int×Int):Option (Int×Int):=
 if (decide (v1.2.2 <= v1.1)) then
 none
 else
 joinC b7y (v1.1,v1.2.1,v1.2.2)
def b60 (a0:Int) (a1:Int) (a2:Int):Option (Int×Int):=
 if (a2==0) then
 none
 else
 joinC b7r (a0,a1,a2)
def a2e (a0:pensionref1_wide) (a1:Int):Option (pensionref1_wide×Int):=
 (b7d a0.hi a1).bind fun v1=>
 (b60 v1 a0.lo a1).bind fun v2=>
 (if a1=0 then none else some (u64 (Int.tdiv a0.hi a1))).bind fun v3=>
 some ((⟨v3,v2.1⟩:pensionref1_wide),v2.2)
def b3r (r2:(Int×Int) -> Option Int) (v1:Int×Int):Option Int:=
 if (v1.2 != 0) then
 (b7d v1.1 v1.2).bind fun v3=>
 r2 (v1.2,v3)
 else
 some v1.1
def a7a (a0:Int) (a1:Int):Option Int:=
 d5 FU b3r (a0,a1)
def b00 (a0:Bool) (a1:pensionref1_wide) (a2:Int):Option (Fraction×Int):=
 (a2e a1 a2).bind fun v1=>
 (a7a a2 v1.2).bind fun v2=>
 (a2e a1 v2).bind fun v3=>
 (if v2=0 then none else some (u64 (Int.tdiv a2 v2))).bind fun v4=>
 (if (v3.1.hi != 0) then some true else some (decide (v3.1.lo>1000000000000000))).bind fun v5=>
 (if v5 then some true else some (decide (v4>1000000000))).bind fun v6=>
 if v6 then
 some ((⟨0,0⟩:Fraction),2)
 else
 if a0 then
 some ((⟨i64 (-(i64 (v3.1.lo))),i64 (v4)⟩:Fraction),0)
 else
 some ((⟨i64 (v3.1.lo),i64 (v4)⟩:Fraction),0)
def a2l (a0:Int) (a1:Int):Option (Fraction×Int):=
 if (a1==0) then
 some ((⟨0,0⟩:Fraction),3)
 else
 (a2r a0).bind fun v1=>
 (a2r a1).bind fun v2=>
 (b00 ((decide (a0<0)) != (decide (a1<0))) (⟨0,v1⟩:pensionref1_wide) v2).bind fun v3=>
 some (v3.1,v3.2)
def b0l (v1:ByteArray×ByteArray×Int×Bool) (r3:(Fraction×Int×Int×Int) -> Option (Fraction×Int×Bool)) (v2:Fraction×Int×Int×Int):Option (Fraction×Int×Bool):=
 if (decide (v2.2.2.2<(i64 ((v1.1.size:Int)+(v1.2.1.size:Int))))) then
 (a65 v1.1 v1.2.1).bind fun v4=>
 (b47 v4 v2.2.2.2).bind fun v5=>
 if (decide (v2.2.2.2 >= (v1.1.size:Int))) then
 r3 (v2.1,i64 ((i64 (v2.2.1*10))+(i64 (IntKind.u8.wrap (v5-48)))),i64 (v2.2.2.1*10),i64 (v2.2.2.2+1))
 else
 r3 (v2.1,i64 ((i64 (v2.2.1*10))+(i64 (IntKind.u8.wrap (v5-48)))),v2.2.2.1,i64 (v2.2.2.2+1))
 else
 (a2l v2.2.1 v2.2.2.1).bind fun v6=>
 some (v6.1,v1.2.2.1,true)
def a1t (a0:ByteArray):Option (Fraction×Int×Bool):=
 (a5b a0).bind fun v1=>
 if (!v1.2.2.2) then
 some ((⟨0,0⟩:Fraction),0,false)
 else
 d5 FU (b0l v1) ((⟨0,0⟩:Fraction),0,1,0)
def p6 (a0:rQ) (a1:Int) (a2:Int):Option (Int×rQ):=
 (o5 a0 2).bind fun v1=>
 if v1 then
 (c8 a0.l a0.at_).bind fun v2=>
 (a1t v2.Text).bind fun v3=>
 (if (v3.2.1==2) then some (v3.1.Den==1) else some false).bind fun v4=>
 (if v4 then some (decide (v3.1.Num >= a1)) else some false).bind fun v5=>
 (if v5 then some (decide (v3.1.Num <= a2)) else some false).bind fun v6=>
 if v6 then
 some (v3.1.Num,(⟨a0.l,i64 (a0.at_+1),a0.end_,a0.bad⟩:rQ))
 else
 (j4 a0).bind fun v7=>
 some (0,v7)
 else
 (j4 a0).bind fun v8=>
 some (0,v8)
def a7o (a0:ByteArray):Option Int:=
 (c0f a0 1 (a0.size:Int)).bind fun v1=>
 (a2y v1).bind fun v2=>
 some v2.1
def a6g (a0:ByteArray):Option Int:=
 if (a0.toList==b8c.toList) then
 some 6
 else
 if (a0.toList==c1y.toList) then
 some 9
 else
 if (a0.toList==b6u.toList) then
 some 7
 else
 if (a0.toList==d4v.toList) then
 some 8
 else
 if (a0.toList==d01.toList) then
 some 10
 else
 if (a0.toList==b8b.toList) then
 some 5
 else
 some 0
def a3q (a0:ByteArray):Option Int:=
 if (a0.toList==d9l.toList) then
 some 1
 else
 if (a0.toList==b6m.toList) then
 some 2
 else
 if (a0.toList==c03.toList) then
 some 3
 else
 if (a0.toList==c5r.toList) then
 some 4
 else
 if (a0.toList==c06.toList) then
 some 5
 else
 some 0
def a6e (a0:ByteArray):Option Int:=
 if (a0.toList==d4l.toList) then
 some 1
 else
 if (a0.toList==e74.toList) then
 some 2
 else
 if (a0.toList==d52.toList) then
 some 3
 else
 if (a0.toList==d4d.toList) then
 some 4
 else
 some 0
def a05 (a0:rQ) (a1:Int):Option (Int×rQ):=
 (o5 a0 1).bind fun v1=>
 if v1 then
 (c8 a0.l a0.at_).bind fun v2=>
 (a6g v2.Text).bind fun v3=>
 (a3q v2.Text).bind fun v4=>
 (a6e v2.Text).bind fun v5=>
 (c8 [v3,v4,v5] (i64 (a1-1))).bind fun v6=>
 (c8 [v3,v4,v5] (i64 (a1-1))).bind fun v7=>
 if (decide (v7>0)) then
 some (v7,(⟨a0.l,i64 (a0.at_+1),a0.end_,a0.bad⟩:rQ))
 else
 (j4 a0).bind fun v8=>
 some (0,v8)
 else
 (j4 a0).bind fun v9=>
 some (0,v9)
def a68 (a0:Int):Option Int:=
 (if (decide (a0 >= 1)) then some (decide (a0 <= 3)) else some false).bind fun v1=>
 if v1 then
 some 0
 else
 (if (decide (a0 >= 4)) then some (decide (a0 <= 6)) else some false).bind fun v2=>
 if v2 then
 some 1
 else
 (if (decide (a0 >= 7)) then some (decide (a0 <= 20)) else some false).bind fun v3=>
 if v3 then
 some 2
 else
 if (a0==21) then
 some 3
 else
 some (-1:Int)
def a55 (v2:Int×Bool):Option Int:=
 if v2.2 then
 some 5
 else
 if (v2.1==9) then
 if (v2.1==9) then
 some 6
 else
 some 7
 else
 if (v2.1==10) then
 some 6
 else
 some 7
def y3 (v1:Int×Bool):Option Int:=
 if v1.2 then
 some 4
 else
 if (v1.1==7) then
 joinC a55 (v1.1,v1.1==7)
 else
 joinC a55 (v1.1,v1.1==8)
def a7y (a0:Int):Option Int:=
 if (a0==21) then
 some 0
 else
 if (a0==18) then
 some 1
 else
 if (a0==17) then
 some 2
 else
 if (a0==5) then
 some 3
 else
 if (a0==11) then
 joinC y3 (a0,a0==11)
 else
 if (a0==12) then
 joinC y3 (a0,a0==12)
 else
 if (a0==13) then
 joinC y3 (a0,a0==13)
 else
 if (a0==14) then
 joinC y3 (a0,a0==14)
 else
 if (a0==15) then
 joinC y3 (a0,a0==15)
 else
 joinC y3 (a0,a0==16)
def a71 (a0:Int):Option ByteArray:=
 if (a0==7) then
 some e8q
 else
 if (a0==8) then
 some d22
 else
 if (a0==9) then
 some f0r
 else
 if (a0==10) then
 some e2l
 else
 if (a0==11) then
 some f0z
 else
 if (a0==12) then
 some c5p
 else
 if (a0==13) then
 some d9q
 else
 if (a0==14) then
 some c5i
 else
 if (a0==15) then
 some e9u
 else
 if (a0==16) then
 some c4s
 else
 if (a0==17) then
 some d2f
 else
 some e2b
def a6y (a1:Int) (a0:rQ) (r2:Int -> Option Int) (v1:Int):Option Int:=
 if (decide (v1 <= 18)) then
 (a7y v1).bind fun v3=>
 (if (v3==a1) then (a71 v1).bind fun v4=>
 (s5 a0 v4).bind fun v5=>
 some v5 else some false).bind fun v6=>
 if v6 then
 some v1
 else
 r2 (i64 (v1+1))
 else
 some 0
def a2a (a0:rQ) (a1:Int):Option Int:=
 d5 FU (a6y a1 a0) 7
structure eQ where
 f_pensionref5_reader_expr:rQ -> Int -> Option (Expr×rQ)
 f_pensionref5_reader_factor:rQ -> Option (Expr×rQ)
 f_pensionref5_reader_call:rQ -> Int -> Option (Expr×rQ)
def a89 (R:eQ) (a1:Int) (r14:(rQ×(List Expr)×Expr×Expr) -> Option (Expr×rQ)) (v13:rQ×(List Expr)×Expr×Expr):Option (Expr×rQ):=
 if (!v13.1.bad) then
 (a2a v13.1 a1).bind fun v15=>
 if (v15==0) then
 some (v13.2.2.2,v13.1)
 else
 (R.f_pensionref5_reader_expr (⟨v13.1.l,i64 (v13.1.at_+1),v13.1.end_,v13.1.bad⟩:rQ) (i64 (a1+1))).bind fun v16=>
 if (a1==4) then
 some ((⟨v15,(⟨0,0⟩:Fraction),0,a5j,[v13.2.2.2,v16.1]⟩:Expr),v16.2)
 else
 r14 (v16.2,v13.2.1,(⟨v13.2.2.1.Op,v13.2.2.1.Value,v13.2.2.1.Dim,v13.2.2.1.Name,[]⟩:Expr),(⟨v15,(⟨0,0⟩:Fraction),0,a5j,[v13.2.2.2,v16.1]⟩:Expr))
 else
 some (v13.2.2.2,v13.1)
def a1y (R:eQ) (a0:rQ) (a1:Int):Option (Expr×rQ):=
 if a0.bad then
 some ((⟨0,(⟨0,0⟩:Fraction),0,a5j,[]⟩:Expr),a0)
 else
 if (a1==0) then
 (d4 a0 d53).bind fun v1=>
 if (!v1.1) then
 (R.f_pensionref5_reader_expr v1.2 1).bind fun v2=>
 some (v2.1,v2.2)
 else
 (R.f_pensionref5_reader_expr v1.2 0).bind fun v3=>
 (b9 v3.2 d4g).bind fun v4=>
 (R.f_pensionref5_reader_expr v4 0).bind fun v5=>
 (b9 v5.2 c7c).bind fun v6=>
 (R.f_pensionref5_reader_expr v6 0).bind fun v7=>
 some ((⟨21,(⟨0,0⟩:Fraction),0,a5j,[v3.1,v5.1,v7.1]⟩:Expr),v7.2)
 else
 if (a1==3) then
 (d4 a0 d1s).bind fun v8=>
 if v8.1 then
 (R.f_pensionref5_reader_expr v8.2 3).bind fun v9=>
 some ((⟨5,(⟨0,0⟩:Fraction),0,a5j,[v9.1]⟩:Expr),v9.2)
 else
 (R.f_pensionref5_reader_expr v8.2 4).bind fun v10=>
 some (v10.1,v10.2)
 else
 if (a1==7) then
 (R.f_pensionref5_reader_factor a0).bind fun v11=>
 some (v11.1,v11.2)
 else
 (R.f_pensionref5_reader_expr a0 (i64 (a1+1))).bind fun v12=>
 d5 FU (a89 R a1) (v12.2,[],(⟨0,(⟨0,0⟩:Fraction),0,a5j,[]⟩:Expr),v12.1)
def a1e (R:eQ) (a0:rQ):Option (Expr×rQ):=
 (o5 a0 2).bind fun v1=>
 if v1 then
 (c8 a0.l a0.at_).bind fun v2=>
 (a1t v2.Text).bind fun v3=>
 some ((⟨1,v3.1,v3.2.1,a5j,[]⟩:Expr),(⟨a0.l,i64 (a0.at_+1),a0.end_,a0.bad⟩:rQ))
 else
 (d4 a0 d22).bind fun v4=>
 if v4.1 then
 (R.f_pensionref5_reader_expr v4.2 7).bind fun v5=>
 some ((⟨4,(⟨0,0⟩:Fraction),0,a5j,[v5.1]⟩:Expr),v5.2)
 else
 (d4 v4.2 d2o).bind fun v6=>
 if v6.1 then
 (R.f_pensionref5_reader_expr v6.2 0).bind fun v7=>
 (b9 v7.2 c6l).bind fun v8=>
 some (v7.1,v8)
 else
 (d4 v6.2 c7d).bind fun v9=>
 if v9.1 then
 (b9 v9.2 d2o).bind fun v10=>
 (p6 v10 1 45).bind fun v11=>
 (b9 v11.2 c6l).bind fun v12=>
 some ((⟨3,(⟨v11.1,1⟩:Fraction),0,a5j,[]⟩:Expr),v12)
 else
 (s5 v9.2 c2q).bind fun v13=>
 if v13 then
 (R.f_pensionref5_reader_call v9.2 6).bind fun v14=>
 some (v14.1,v14.2)
 else
 (s5 v9.2 d2b).bind fun v15=>
 if v15 then
 (R.f_pensionref5_reader_call v9.2 19).bind fun v16=>
 some (v16.1,v16.2)
 else
 (s5 v9.2 d2m).bind fun v17=>
 if v17 then
 (R.f_pensionref5_reader_call v9.2 20).bind fun v18=>
 some (v18.1,v18.2)
 else
 (a09 v9.2).bind fun v19=>
 some ((⟨2,(⟨0,0⟩:Fraction),0,v19.1,[]⟩:Expr),v19.2)
def a29 (R:eQ) (a0:rQ) (a1:Int):Option (Expr×rQ):=
 (b9 (⟨a0.l,i64 (a0.at_+1),a0.end_,a0.bad⟩:rQ) d2o).bind fun v1=>
 (R.f_pensionref5_reader_expr v1 0).bind fun v2=>
 (a68 a1).bind fun v3=>
 if (v3==2) then
 (b9 v2.2 e97).bind fun v4=>
 (c8 [v2.1] 0).bind fun v5=>
 (R.f_pensionref5_reader_expr v4 0).bind fun v6=>
 (b9 v6.2 c6l).bind fun v7=>
 some ((⟨a1,(⟨0,0⟩:Fraction),0,a5j,[v5,v6.1]⟩:Expr),v7)
 else
 (b9 v2.2 c6l).bind fun v8=>
 some ((⟨a1,(⟨0,0⟩:Fraction),0,a5j,[v2.1]⟩:Expr),v8)
def c7:Nat -> eQ
 | 0=>⟨fun _ _=>none,fun _=>none,fun _ _=>none⟩
 | n+1=>⟨a1y (c7 n),a1e (c7 n),a29 (c7 n)⟩
def a08 (a0:rQ) (a1:Int):Option (Expr×rQ):=(c7 FU).f_pensionref5_reader_expr a0 a1
def a13 (v5:rQ×(List Credit)×(List Index)×(List Let)×(List Grant)×(List Reduce)×Version×Credit):Option (rQ×Version×(List Credit)×(List Index)×(List Let)×(List Grant)×(List Reduce)):=
 (a4t 16 v5.2.1 [v5.2.2.2.2.2.2.2]).bind fun v6=>
 (b9 v5.1 b78).bind fun v7=>
 some (v7,(⟨v5.2.2.2.2.2.2.1.From,v5.2.2.2.2.2.2.1.Rounding,[],[],[],[],[]⟩:Version),v6,v5.2.2.1,v5.2.2.2.1,v5.2.2.2.2.1,v5.2.2.2.2.2.1)
def a14 (v16:rQ×(List Credit)×(List Index)×(List Let)×(List Grant)×(List Reduce)×Version×Index):Option (rQ×Version×(List Credit)×(List Index)×(List Let)×(List Grant)×(List Reduce)):=
 (a4t 24 v16.2.2.1 [v16.2.2.2.2.2.2.2]).bind fun v17=>
 (b9 v16.1 b78).bind fun v18=>
 some (v18,(⟨v16.2.2.2.2.2.2.1.From,v16.2.2.2.2.2.2.1.Rounding,[],[],[],[],[]⟩:Version),v16.2.1,v17,v16.2.2.2.1,v16.2.2.2.2.1,v16.2.2.2.2.2.1)
def y6 (v14:rQ×(List Credit)×(List Index)×(List Let)×(List Grant)×(List Reduce)×Version×Index):Option (rQ×Version×(List Credit)×(List Index)×(List Let)×(List Grant)×(List Reduce)):=
 if (v14.2.2.2.2.2.2.2.Factor.Den==0) then
 (j4 v14.1).bind fun v15=>
 joinC a14 (v15,v14.2.1,v14.2.2.1,v14.2.2.2.1,v14.2.2.2.2.1,v14.2.2.2.2.2.1,(⟨v14.2.2.2.2.2.2.1.From,v14.2.2.2.2.2.2.1.Rounding,[],[],[],[],[]⟩:Version),v14.2.2.2.2.2.2.2)
 else
 joinC a14 (v14.1,v14.2.1,v14.2.2.1,v14.2.2.2.1,v14.2.2.2.2.1,v14.2.2.2.2.2.1,(⟨v14.2.2.2.2.2.2.1.From,v14.2.2.2.2.2.2.1.Rounding,[],[],[],[],[]⟩:Version),v14.2.2.2.2.2.2.2)
def a1z (a0:rQ) (a1:Version) (a2:List Credit) (a3:List Index) (a4:List Let) (a5:List Grant) (a6:List Reduce):Option (rQ×Version×(List Credit)×(List Index)×(List Let)×(List Grant)×(List Reduce)):=
 (d4 a0 b9h).bind fun v1=>
 if v1.1 then
 (a05 v1.2 1).bind fun v2=>
 (d4 v2.2 c1e).bind fun v3=>
 if v3.1 then
 (p6 v3.2 1 73049).bind fun v4=>
 joinC a13 (v4.2,a2,a3,a4,a5,a6,(⟨a1.From,a1.Rounding,[],[],[],[],[]⟩:Version),(⟨v2.1,v4.1⟩:Credit))
 else
 joinC a13 (v3.2,a2,a3,a4,a5,a6,(⟨a1.From,a1.Rounding,[],[],[],[],[]⟩:Version),(⟨v2.1,0⟩:Credit))
 else
 (d4 v1.2 c2s).bind fun v8=>
 if v8.1 then
 (p6 v8.2 1900 2099).bind fun v9=>
 (o5 v9.2 2).bind fun v10=>
 if v10 then
 (c8 v9.2.l v9.2.at_).bind fun v11=>
 (a1t v11.Text).bind fun v12=>
 (if (v12.2.1==2) then some (decide (v12.1.Num>0)) else some false).bind fun v13=>
 if v13 then
 joinC y6 ((⟨v9.2.l,i64 (v9.2.at_+1),v9.2.end_,v9.2.bad⟩:rQ),a2,a3,a4,a5,a6,(⟨a1.From,a1.Rounding,[],[],[],[],[]⟩:Version),(⟨v9.1,v12.1⟩:Index))
 else
 joinC y6 (v9.2,a2,a3,a4,a5,a6,(⟨a1.From,a1.Rounding,[],[],[],[],[]⟩:Version),(⟨v9.1,(⟨0,0⟩:Fraction)⟩:Index))
 else
 joinC y6 (v9.2,a2,a3,a4,a5,a6,(⟨a1.From,a1.Rounding,[],[],[],[],[]⟩:Version),(⟨v9.1,(⟨0,0⟩:Fraction)⟩:Index))
 else
 (d4 v8.2 d2n).bind fun v19=>
 if v19.1 then
 (a09 v19.2).bind fun v20=>
 (b9 v20.2 d9q).bind fun v21=>
 (a08 v21 0).bind fun v22=>
 (a4t 88 a4 [(⟨v20.1,v22.1⟩:Let)]).bind fun v23=>
 (b9 v22.2 b78).bind fun v24=>
 some (v24,(⟨a1.From,a1.Rounding,[],[],[],[],[]⟩:Version),a2,a3,v23,a5,a6)
 else
 (d4 v19.2 c3e).bind fun v25=>
 if v25.1 then
 (a05 v25.2 2).bind fun v26=>
 (b9 v26.2 d53).bind fun v27=>
 (a08 v27 0).bind fun v28=>
 (b9 v28.2 d2h).bind fun v29=>
 (a08 v29 0).bind fun v30=>
 (a4t 152 a5 [(⟨v26.1,v28.1,v30.1⟩:Grant)]).bind fun v31=>
 (b9 v30.2 b78).bind fun v32=>
 some (v32,(⟨a1.From,a1.Rounding,[],[],[],[],[]⟩:Version),a2,a3,a4,v31,a6)
 else
 (d4 v25.2 b93).bind fun v33=>
 if v33.1 then
 (a05 v33.2 2).bind fun v34=>
 (b9 v34.2 d9f).bind fun v35=>
 (a08 v35 0).bind fun v36=>
 (a4t 80 a6 [(⟨v34.1,v36.1⟩:Reduce)]).bind fun v37=>
 (b9 v36.2 b78).bind fun v38=>
 some (v38,(⟨a1.From,a1.Rounding,[],[],[],[],[]⟩:Version),a2,a3,a4,a5,v37)
 else
 (j4 v33.2).bind fun v39=>
 (b9 v39 b78).bind fun v40=>
 some (v40,(⟨a1.From,a1.Rounding,[],[],[],[],[]⟩:Version),a2,a3,a4,a5,a6)
def a6f (r12:(rQ×(List Credit)×(List Index)×(List Let)×(List Grant)×(List Reduce)×Version×(List Credit)×(List Index)×(List Let)×(List Grant)×(List Reduce)×Version) -> Option (Version×rQ)) (v11:rQ×(List Credit)×(List Index)×(List Let)×(List Grant)×(List Reduce)×Version×(List Credit)×(List Index)×(List Let)×(List Grant)×(List Reduce)×Version):Option (Version×rQ):=
 if (!v11.1.bad) then
 (d4 v11.1 c27).bind fun v13=>
 if (!v13.1) then
 (a1z v13.2 (⟨v11.2.2.2.2.2.2.2.2.2.2.2.2.From,v11.2.2.2.2.2.2.2.2.2.2.2.2.Rounding,[],[],[],[],[]⟩:Version) v11.2.2.2.2.2.2.2.1 v11.2.2.2.2.2.2.2.2.1 v11.2.2.2.2.2.2.2.2.2.1 v11.2.2.2.2.2.2.2.2.2.2.1 v11.2.2.2.2.2.2.2.2.2.2.2.1).bind fun v14=>
 r12 (v14.1,v11.2.1,v11.2.2.1,v11.2.2.2.1,v11.2.2.2.2.1,v11.2.2.2.2.2.1,(⟨v11.2.2.2.2.2.2.1.From,v11.2.2.2.2.2.2.1.Rounding,[],[],[],[],[]⟩:Version),v14.2.2.1,v14.2.2.2.1,v14.2.2.2.2.1,v14.2.2.2.2.2.1,v14.2.2.2.2.2.2,(⟨v14.2.1.From,v14.2.1.Rounding,[],[],[],[],[]⟩:Version))
 else
 some ((⟨v11.2.2.2.2.2.2.2.2.2.2.2.2.From,v11.2.2.2.2.2.2.2.2.2.2.2.2.Rounding,v11.2.2.2.2.2.2.2.1,v11.2.2.2.2.2.2.2.2.1,v11.2.2.2.2.2.2.2.2.2.1,v11.2.2.2.2.2.2.2.2.2.2.1,v11.2.2.2.2.2.2.2.2.2.2.2.1⟩:Version),v13.2)
 else
 some ((⟨v11.2.2.2.2.2.2.2.2.2.2.2.2.From,v11.2.2.2.2.2.2.2.2.2.2.2.2.Rounding,v11.2.2.2.2.2.2.2.1,v11.2.2.2.2.2.2.2.2.1,v11.2.2.2.2.2.2.2.2.2.1,v11.2.2.2.2.2.2.2.2.2.2.1,v11.2.2.2.2.2.2.2.2.2.2.2.1⟩:Version),v11.1)
def a0s (v5:rQ×(List Credit)×(List Index)×(List Let)×(List Grant)×(List Reduce)×Version×(List Credit)×(List Index)×(List Let)×(List Grant)×(List Reduce)×Version):Option (Version×rQ):=
 (b9 v5.1 e2g).bind fun v6=>
 (b9 v6 c3c).bind fun v7=>
 (a05 v7 3).bind fun v8=>
 (p6 v8.2 1 100000).bind fun v9=>
 (b9 v9.2 b78).bind fun v10=>
 d5 FU a6f (v10,v5.2.1,v5.2.2.1,v5.2.2.2.1,v5.2.2.2.2.1,v5.2.2.2.2.2.1,(⟨v5.2.2.2.2.2.2.1.From,v5.2.2.2.2.2.2.1.Rounding,[],[],[],[],[]⟩:Version),v5.2.2.2.2.2.2.2.1,v5.2.2.2.2.2.2.2.2.1,v5.2.2.2.2.2.2.2.2.2.1,v5.2.2.2.2.2.2.2.2.2.2.1,v5.2.2.2.2.2.2.2.2.2.2.2.1,(⟨v5.2.2.2.2.2.2.2.2.2.2.2.2.From,(⟨v8.1,v9.1⟩:Rounding),[],[],[],[],[]⟩:Version))
def a1l (a0:rQ):Option (Version×rQ):=
 (b9 a0 c6e).bind fun v1=>
 (o5 v1 3).bind fun v2=>
 if v2 then
 (c8 v1.l v1.at_).bind fun v3=>
 (a7o v3.Text).bind fun v4=>
 joinC a0s ((⟨v1.l,i64 (v1.at_+1),v1.end_,v1.bad⟩:rQ),[],[],[],[],[],(⟨0,(⟨0,0⟩:Rounding),[],[],[],[],[]⟩:Version),[],[],[],[],[],(⟨v4,(⟨0,0⟩:Rounding),[],[],[],[],[]⟩:Version))
 else
 (j4 v1).bind fun v15=>
 joinC a0s (v15,[],[],[],[],[],(⟨0,(⟨0,0⟩:Rounding),[],[],[],[],[]⟩:Version),[],[],[],[],[],(⟨0,(⟨0,0⟩:Rounding),[],[],[],[],[]⟩:Version))
def a2m (a0:rQ):Option Int:=
 if (decide (a0.at_<(a0.l.length:Int))) then
 (c8 a0.l a0.at_).bind fun v1=>
 some v1.At
 else
 some a0.end_
def e7 (a0:Int):Option Bool:=
 (if (decide (a0 >= 0)) then some (decide (a0 <= 73048)) else some false).bind fun v1=>
 some v1
def a21 (a0:Rounding):Option Bool:=
 (if (decide (a0.Mode >= 1)) then some (decide (a0.Mode <= 4)) else some false).bind fun v1=>
 (if v1 then some (decide (a0.Unit >= 1)) else some false).bind fun v2=>
 (if v2 then some (decide (a0.Unit <= 100000)) else some false).bind fun v3=>
 some v3
def b1l (a0:Int) (a1:Int) (r2:((List ByteArray)×Int) -> Option ByteArray) (v1:(List ByteArray)×Int):Option ByteArray:=
 (if (decide (v1.2<(v1.1.length:Int))) then some (decide (a0>0)) else some false).bind fun v3=>
 if v3 then
 (if (a1==1) then (c8 v1.1 v1.2).bind fun v4=>
 (c8 v1.1 v1.2).bind fun v5=>
 (a6g v5).bind fun v6=>
 some (v6==a0) else some false).bind fun v7=>
 (if v7 then some true else (if (a1==2) then (c8 v1.1 v1.2).bind fun v8=>
 (c8 v1.1 v1.2).bind fun v9=>
 (a3q v9).bind fun v10=>
 some (v10==a0) else some false).bind fun v11=>
 some v11).bind fun v12=>
 (if v12 then some true else (if (a1==3) then (c8 v1.1 v1.2).bind fun v13=>
 (c8 v1.1 v1.2).bind fun v14=>
 (a6e v14).bind fun v15=>
 some (v15==a0) else some false).bind fun v16=>
 some v16).bind fun v17=>
 if v17 then
 (c8 v1.1 v1.2).bind fun v18=>
 (c8 v1.1 v1.2).bind fun v19=>
 some v19
 else
 r2 (v1.1,i64 (v1.2+1))
 else
 some a5j
def a2n (a0:Int) (a1:Int):Option ByteArray:=
 d5 FU (b1l a0 a1) ([b8c,c1y,b6u,d4v,d01,b8b,d9l,b6m,c03,c5r,c06,d4l,e74,d52,d4d],0)
def a0n (a0:Fraction):Option Bool:=
 (if (decide (a0.Den >= 1)) then some (decide (a0.Den <= 1000000000)) else some false).bind fun v1=>
 (if v1 then some (decide (a0.Num >= (-1000000000000000:Int))) else some false).bind fun v2=>
 (if v2 then some (decide (a0.Num <= 1000000000000000)) else some false).bind fun v3=>
 (if v3 then (a2r a0.Num).bind fun v4=>
 (a7a v4 (u64 (a0.Den))).bind fun v5=>
 some (v5==1) else some false).bind fun v6=>
 some v6
def b1h (a1:Int) (r2:(Int×ByteArray) -> Option ByteArray) (v1:Int×ByteArray):Option ByteArray:=
 (if (decide (v1.1>0)) then some true else some (decide ((v1.2.size:Int)<a1))).bind fun v3=>
 if v3 then
 (b7d v1.1 10).bind fun v4=>
 (b7d v1.1 10).bind fun v5=>
 (c0f a4u v4 (i64 (v5+1))).bind fun v6=>
 (a65 v6 v1.2).bind fun v7=>
 (c0i v1.1 10).bind fun v8=>
 r2 (v8,v7)
 else
 some v1.2
def a4a (a0:Int) (a1:Int):Option ByteArray:=
 d5 FU (b1h a1) (a0,a5j)
def a2t (v5:Fraction×ByteArray):Option ByteArray:=
 if (v5.1.Den != 1) then
 (a65 v5.2 e2l).bind fun v6=>
 (a4a v5.1.Den 1).bind fun v7=>
 (a65 v6 v7).bind fun v8=>
 some v8
 else
 some v5.2
def a1p (a0:Fraction):Option ByteArray:=
 (a0n a0).bind fun v1=>
 if (!v1) then
 some a5j
 else
 (a2r a0.Num).bind fun v2=>
 (a4a (i64 (v2)) 1).bind fun v3=>
 if (decide (a0.Num<0)) then
 (a65 d22 v3).bind fun v4=>
 joinC a2t (a0,v4)
 else
 joinC a2t (a0,v3)
def a6q (v11:Int×ByteArray×Int) (r13:(ByteArray×Int×Int) -> Option (ByteArray×Bool)) (v12:ByteArray×Int×Int):Option (ByteArray×Bool):=
 if (decide (v12.2.1>0)) then
 (c0i v12.2.1 v12.2.2).bind fun v14=>
 (c0i v12.2.1 v12.2.2).bind fun v15=>
 (c0f a4u v14 (i64 (v15+1))).bind fun v16=>
 (a65 v12.1 v16).bind fun v17=>
 (b7d v12.2.1 v12.2.2).bind fun v18=>
 (c0i v12.2.2 10).bind fun v19=>
 r13 (v17,v18,v19)
 else
 (c8 [a5j,e50,e3d] (i64 (v11.1-2))).bind fun v20=>
 (c8 [a5j,e50,e3d] (i64 (v11.1-2))).bind fun v21=>
 (a65 v12.1 v21).bind fun v22=>
 some (v22,true)
def a16 (v11:Int×ByteArray×Int):Option (ByteArray×Bool):=
 d5 FU (a6q v11) (v11.2.1,v11.2.2,1000)
def a0p (a0:Fraction) (a1:Int):Option (ByteArray×Bool):=
 (a0n a0).bind fun v1=>
 (if (!v1) then some true else some (decide (a0.Num<0))).bind fun v2=>
 (if v2 then some true else (b7d 10000 a0.Den).bind fun v3=>
 some (v3 != 0)).bind fun v4=>
 (if v4 then some true else some (decide (a1<2))).bind fun v5=>
 (if v5 then some true else some (decide (a1>4))).bind fun v6=>
 if v6 then
 some (a5j,false)
 else
 (c0i a0.Num a0.Den).bind fun v7=>
 if (decide (v7>999999999)) then
 some (a5j,false)
 else
 (a1p (⟨v7,1⟩:Fraction)).bind fun v8=>
 (c0i 10000 a0.Den).bind fun v9=>
 if (decide ((i64 ((i64 (a0.Num-(i64 (v7*a0.Den))))*v9))>0)) then
 (a65 v8 c18).bind fun v10=>
 joinC a16 (a1,v10,i64 ((i64 (a0.Num-(i64 (v7*a0.Den))))*v9))
 else
 joinC a16 (a1,v8,i64 ((i64 (a0.Num-(i64 (v7*a0.Den))))*v9))
structure Ring_pensionref5_Depth where
 f_pensionref5_Depth:Expr -> Option Int
def b2a (R:Ring_pensionref5_Depth) (r2:(Expr×Int×Int) -> Option Int) (v1:Expr×Int×Int):Option Int:=
 if (decide (v1.2.2<(v1.1.Args.length:Int))) then
 (c8 v1.1.Args v1.2.2).bind fun v3=>
 (R.f_pensionref5_Depth v3).bind fun v4=>
 r2 (v1.1,max v1.2.1 v4,i64 (v1.2.2+1))
 else
 some (i64 (v1.2.1+1))
def a5r (R:Ring_pensionref5_Depth) (a0:Expr):Option Int:=
 d5 FU (b2a R) (a0,0,0)
def p5:Nat -> Ring_pensionref5_Depth
 | 0=>⟨fun _=>none⟩
 | n+1=>⟨a5r (p5 n)⟩
def b9a (a0:Expr):Option Int:=(p5 FU).f_pensionref5_Depth a0
structure Ring_pensionref5_Size where
 f_pensionref5_Size:Expr -> Option Int
def b2x (R:Ring_pensionref5_Size) (r2:(Expr×Int×Int) -> Option Int) (v1:Expr×Int×Int):Option Int:=
 if (decide (v1.2.2<(v1.1.Args.length:Int))) then
 (c8 v1.1.Args v1.2.2).bind fun v3=>
 (R.f_pensionref5_Size v3).bind fun v4=>
 r2 (v1.1,i64 (v1.2.1+v4),i64 (v1.2.2+1))
 else
 some v1.2.1
def a6p (R:Ring_pensionref5_Size) (a0:Expr):Option Int:=
 d5 FU (b2x R) (a0,1,0)
def s4:Nat -> Ring_pensionref5_Size
 | 0=>⟨fun _=>none⟩
 | n+1=>⟨a6p (s4 n)⟩
def c0b (a0:Expr):Option Int:=(s4 FU).f_pensionref5_Size a0
structure Ring_pensionref5_formed where
 f_pensionref5_formed:Expr -> Option Bool
def b1b (R:Ring_pensionref5_formed) (v3:Bool) (r14:(Expr×Int) -> Option Bool) (v13:Expr×Int):Option Bool:=
 if (decide (v13.2<(v13.1.Args.length:Int))) then
 (c8 v13.1.Args v13.2).bind fun v15=>
 (R.f_pensionref5_formed v15).bind fun v16=>
 if (!v16) then
 some false
 else
 r14 (v13.1,i64 (v13.2+1))
 else
 some v3
def a4v (R:Ring_pensionref5_formed) (a0:Expr):Option Bool:=
 (a68 a0.Op).bind fun v1=>
 if ((a0.Args.length:Int) != v1) then
 some false
 else
 (if ((a0.Value.Num==0)&&((a0.Value.Den==0)&&(true))) then some (a0.Dim==0) else some false).bind fun v2=>
 (if v2 then some (a0.Name.toList==a5j.toList) else some false).bind fun v3=>
 if (a0.Op==1) then
 (a0p a0.Value a0.Dim).bind fun v4=>
 (if v4.2 then some (a0.Name.toList==a5j.toList) else some false).bind fun v5=>
 some v5
 else
 if (a0.Op==2) then
 (if ((a0.Value.Num==0)&&((a0.Value.Den==0)&&(true))) then some (a0.Dim==0) else some false).bind fun v6=>
 (if v6 then (a1f a0.Name).bind fun v7=>
 some v7 else some false).bind fun v8=>
 some v8
 else
 if (a0.Op==3) then
 (if (a0.Dim==0) then some (a0.Name.toList==a5j.toList) else some false).bind fun v9=>
 (if v9 then some (a0.Value.Den==1) else some false).bind fun v10=>
 (if v10 then some (decide (a0.Value.Num >= 1)) else some false).bind fun v11=>
 (if v11 then some (decide (a0.Value.Num <= 45)) else some false).bind fun v12=>
 some v12
 else
 d5 FU (b1b R v3) (a0,0)
def o4:Nat -> Ring_pensionref5_formed
 | 0=>⟨fun _=>none⟩
 | n+1=>⟨a4v (o4 n)⟩
def b8f (a0:Expr):Option Bool:=(o4 FU).f_pensionref5_formed a0
def a00 (a0:Expr):Option Bool:=
 (b9a a0).bind fun v1=>
 (if (decide (v1 <= 10)) then (c0b a0).bind fun v2=>
 some (decide (v2 <= 60)) else some false).bind fun v3=>
 (if v3 then (b8f a0).bind fun v4=>
 some v4 else some false).bind fun v5=>
 some v5
def a3f (r45:(Version×Int) -> Option Bool) (v44:Version×Int):Option Bool:=
 if (decide (v44.2<(v44.1.Reduces.length:Int))) then
 (c8 v44.1.Reduces v44.2).bind fun v46=>
 (a2n v46.Benefit 2).bind fun v47=>
 (if (v47.toList==a5j.toList) then some true else (c8 v44.1.Reduces v44.2).bind fun v48=>
 (a00 v48.By).bind fun v49=>
 some (!v49)).bind fun v50=>
 if v50 then
 some false
 else
 r45 (v44.1,i64 (v44.2+1))
 else
 some true
def a3k (r35:(Version×Int) -> Option Bool) (v34:Version×Int):Option Bool:=
 if (decide (v34.2<(v34.1.Grants.length:Int))) then
 (c8 v34.1.Grants v34.2).bind fun v36=>
 (a2n v36.Benefit 2).bind fun v37=>
 (if (v37.toList==a5j.toList) then some true else (c8 v34.1.Grants v34.2).bind fun v38=>
 (a00 v38.If).bind fun v39=>
 some (!v39)).bind fun v40=>
 (if v40 then some true else (c8 v34.1.Grants v34.2).bind fun v41=>
 (a00 v41.Pay).bind fun v42=>
 some (!v42)).bind fun v43=>
 if v43 then
 some false
 else
 r35 (v34.1,i64 (v34.2+1))
 else
 d5 FU a3f (v34.1,0)
def a3j (r28:(Version×Int) -> Option Bool) (v27:Version×Int):Option Bool:=
 if (decide (v27.2<(v27.1.Lets.length:Int))) then
 (c8 v27.1.Lets v27.2).bind fun v29=>
 (a1f v29.Name).bind fun v30=>
 (if (!v30) then some true else (c8 v27.1.Lets v27.2).bind fun v31=>
 (a00 v31.Body).bind fun v32=>
 some (!v32)).bind fun v33=>
 if v33 then
 some false
 else
 r28 (v27.1,i64 (v27.2+1))
 else
 d5 FU a3k (v27.1,0)
def a3e (r18:(Version×Int) -> Option Bool) (v17:Version×Int):Option Bool:=
 if (decide (v17.2<(v17.1.Series.length:Int))) then
 (c8 v17.1.Series v17.2).bind fun v19=>
 (a0p v19.Factor 2).bind fun v20=>
 (c8 v17.1.Series v17.2).bind fun v21=>
 (if (decide (v21.Year<1900)) then some true else (c8 v17.1.Series v17.2).bind fun v22=>
 some (decide (v22.Year>2099))).bind fun v23=>
 (if v23 then some true else some (!v20.2)).bind fun v24=>
 (if v24 then some true else (c8 v17.1.Series v17.2).bind fun v25=>
 some (decide (v25.Factor.Num<1))).bind fun v26=>
 if v26 then
 some false
 else
 r18 (v17.1,i64 (v17.2+1))
 else
 d5 FU a3j (v17.1,0)
def a3m (r10:(Version×Int) -> Option Bool) (v9:Version×Int):Option Bool:=
 if (decide (v9.2<(v9.1.Credits.length:Int))) then
 (c8 v9.1.Credits v9.2).bind fun v11=>
 (a2n v11.Kind 1).bind fun v12=>
 (if (v12.toList==a5j.toList) then some true else (c8 v9.1.Credits v9.2).bind fun v13=>
 some (decide (v13.Limit<0))).bind fun v14=>
 (if v14 then some true else (c8 v9.1.Credits v9.2).bind fun v15=>
 some (decide (v15.Limit>73049))).bind fun v16=>
 if v16 then
 some false
 else
 r10 (v9.1,i64 (v9.2+1))
 else
 d5 FU a3e (v9.1,0)
def a2i (a0:Version):Option Bool:=
 (e7 a0.From).bind fun v1=>
 (if (!v1) then some true else (a21 a0.Rounding).bind fun v2=>
 some (!v2)).bind fun v3=>
 (if v3 then some true else some (decide ((a0.Credits.length:Int)>6))).bind fun v4=>
 (if v4 then some true else some (decide ((a0.Series.length:Int)>20))).bind fun v5=>
 (if v5 then some true else some (decide ((a0.Lets.length:Int)>10))).bind fun v6=>
 (if v6 then some true else some (decide ((a0.Grants.length:Int)>5))).bind fun v7=>
 (if v7 then some true else some (decide ((a0.Reduces.length:Int)>5))).bind fun v8=>
 if v8 then
 some false
 else
 d5 FU a3m (a0,0)
def b29 (r7:(Statute×Int) -> Option Bool) (v6:Statute×Int):Option Bool:=
 if (decide (v6.2<(v6.1.Versions.length:Int))) then
 (c8 v6.1.Versions v6.2).bind fun v8=>
 (a2i v8).bind fun v9=>
 if (!v9) then
 some false
 else
 r7 (v6.1,i64 (v6.2+1))
 else
 some true
def a7z (a0:Statute):Option Bool:=
 (a1f a0.Name).bind fun v1=>
 (if (!v1) then some true else some (decide (a0.Currency<1))).bind fun v2=>
 (if v2 then some true else some (decide (a0.Currency>999))).bind fun v3=>
 (if v3 then some true else some (decide ((a0.Versions.length:Int)<1))).bind fun v4=>
 (if v4 then some true else some (decide ((a0.Versions.length:Int)>6))).bind fun v5=>
 if v5 then
 some false
 else
 d5 FU b29 (a0,0)
def a4y (r9:((List Version)×Statute×rQ×(List Version)×Statute×Bool) -> Option (Statute×Int×Int)) (v10:(List Version)×Statute×rQ×(List Version)×Statute):Option (Statute×Int×Int):=
 (a1l v10.2.2.1).bind fun v11=>
 (a4t 144 v10.2.2.2.1 [v11.1]).bind fun v12=>
 r9 (v10.1,(⟨v10.2.1.Name,v10.2.1.Currency,[]⟩:Statute),v11.2,v12,(⟨v10.2.2.2.2.Name,v10.2.2.2.2.Currency,[]⟩:Statute),false)
def a4z (v14:(List Version)×Statute×rQ×(List Version)×Statute):Option (Statute×Int×Int):=
 (if v14.2.2.1.bad then some true else some (decide (v14.2.2.1.at_<(v14.2.2.1.l.length:Int)))).bind fun v15=>
 if v15 then
 (a2m v14.2.2.1).bind fun v16=>
 some ((⟨a5j,0,[]⟩:Statute),v16,4)
 else
 (a7z (⟨v14.2.2.2.2.Name,v14.2.2.2.2.Currency,v14.2.2.2.1⟩:Statute)).bind fun v17=>
 if (!v17) then
 some ((⟨a5j,0,[]⟩:Statute),0,7)
 else
 some ((⟨v14.2.2.2.2.Name,v14.2.2.2.2.Currency,v14.2.2.2.1⟩:Statute),0,0)
def b20 (r9:((List Version)×Statute×rQ×(List Version)×Statute×Bool) -> Option (Statute×Int×Int)) (v8:(List Version)×Statute×rQ×(List Version)×Statute×Bool):Option (Statute×Int×Int):=
 if (!v8.2.2.1.bad) then
 if v8.2.2.2.2.2 then
 joinC (a4y r9) (v8.1,(⟨v8.2.1.Name,v8.2.1.Currency,[]⟩:Statute),v8.2.2.1,v8.2.2.2.1,(⟨v8.2.2.2.2.1.Name,v8.2.2.2.2.1.Currency,[]⟩:Statute))
 else
 (d4 v8.2.2.1 c27).bind fun v13=>
 if (!v13.1) then
 joinC (a4y r9) (v8.1,(⟨v8.2.1.Name,v8.2.1.Currency,[]⟩:Statute),v13.2,v8.2.2.2.1,(⟨v8.2.2.2.2.1.Name,v8.2.2.2.2.1.Currency,[]⟩:Statute))
 else
 joinC a4z (v8.1,(⟨v8.2.1.Name,v8.2.1.Currency,[]⟩:Statute),v13.2,v8.2.2.2.1,(⟨v8.2.2.2.2.1.Name,v8.2.2.2.2.1.Currency,[]⟩:Statute))
 else
 joinC a4z (v8.1,(⟨v8.2.1.Name,v8.2.1.Currency,[]⟩:Statute),v8.2.2.1,v8.2.2.2.1,(⟨v8.2.2.2.2.1.Name,v8.2.2.2.2.1.Currency,[]⟩:Statute))
def a7r (a0:ByteArray):Option (Statute×Int×Int):=
 (a7x a0).bind fun v1=>
 optC v1.1 (if (v1.2.2 != 0) then
 some ((⟨a5j,0,[]⟩:Statute),v1.2.1,v1.2.2)
 else
 none) fun v2=>
 if (v1.2.2 != 0) then
 some ((⟨a5j,0,[]⟩:Statute),v1.2.1,v1.2.2)
 else
 (b9 v2 b7f).bind fun v3=>
 (a09 v3).bind fun v4=>
 (b9 v4.2 b5r).bind fun v5=>
 (p6 v5 1 999).bind fun v6=>
 (b9 v6.2 e2g).bind fun v7=>
 d5 FU b20 ([],(⟨a5j,0,[]⟩:Statute),v7,[],(⟨v4.1,v6.1,[]⟩:Statute),true)
def b2p (a0:List Int) (r2:((List State)×(List Rules)×(List Rate)×Laws×(List State)×(List Rules)×Laws×Int) -> Option Laws) (v1:(List State)×(List Rules)×(List Rate)×Laws×(List State)×(List Rules)×Laws×Int):Option Laws:=
 if (decide (v1.2.2.2.2.2.2.2<3)) then
 (a8s v1.2.2.2.2.2.2.2 a0).bind fun v3=>
 (a7r v3).bind fun v4=>
 if (v4.2.2==0) then
 (a4t 56 v1.2.2.2.2.1 [(⟨v1.2.2.2.2.2.2.2,v4.1⟩:State)]).bind fun v5=>
 r2 (v1.1,v1.2.1,v1.2.2.1,(⟨[],[],[]⟩:Laws),v5,v1.2.2.2.2.2.1,(⟨[],[],v1.2.2.2.2.2.2.1.Rates⟩:Laws),i64 (v1.2.2.2.2.2.2.2+1))
 else
 r2 (v1.1,v1.2.1,v1.2.2.1,(⟨[],[],[]⟩:Laws),v1.2.2.2.2.1,v1.2.2.2.2.2.1,(⟨[],[],v1.2.2.2.2.2.2.1.Rates⟩:Laws),i64 (v1.2.2.2.2.2.2.2+1))
 else
 (c6 a0 2).bind fun v6=>
 (b7 v6 6).bind fun v7=>
 (c6 a0 5).bind fun v8=>
 (b7 v8 3).bind fun v9=>
 if (v9==0) then
 (c8 [(⟨0,i64 (90*v7),730,25,[0,1]⟩:Rules)] 0).bind fun v10=>
 (c8 [(⟨0,i64 (90*v7),730,25,[0,1]⟩:Rules)] 0).bind fun v11=>
 some (⟨v1.2.2.2.2.1,b0i [(⟨0,i64 (90*v7),730,25,[0,1]⟩:Rules)] 0 (⟨v11.From,v11.MinDays,v11.PostingLimit,v11.Substantial,[0,1,2]⟩:Rules),v1.2.2.2.2.2.2.1.Rates⟩:Laws)
 else
 if (v9==1) then
 (a4t 56 [(⟨0,i64 (90*v7),730,25,[0,1]⟩:Rules)] [(⟨35000,i64 (90*v7),365,30,[0,1,2]⟩:Rules)]).bind fun v12=>
 some (⟨v1.2.2.2.2.1,v12,v1.2.2.2.2.2.2.1.Rates⟩:Laws)
 else
 (c8 [(⟨0,i64 (90*v7),730,25,[0,1]⟩:Rules)] 0).bind fun v13=>
 (c8 [(⟨0,i64 (90*v7),730,25,[0,1]⟩:Rules)] 0).bind fun v14=>
 (a4t 56 (b0i [(⟨0,i64 (90*v7),730,25,[0,1]⟩:Rules)] 0 (⟨v14.From,v14.MinDays,v14.PostingLimit,v14.Substantial,[0,1,2]⟩:Rules)) [(⟨36000,i64 (90*v7),730,25,[0,1]⟩:Rules)]).bind fun v15=>
 some (⟨v1.2.2.2.2.1,v15,v1.2.2.2.2.2.2.1.Rates⟩:Laws)
def a8p (a0:List Int):Option Laws:=
 d5 FU (b2p a0) ([],[],[],(⟨[],[],[]⟩:Laws),[],[],(⟨[],[],[(⟨1,0,(⟨1,1⟩:Fraction)⟩:Rate),(⟨2,0,(⟨3,2⟩:Fraction)⟩:Rate),(⟨3,0,(⟨1,7⟩:Fraction)⟩:Rate),(⟨3,1150,(⟨1,9⟩:Fraction)⟩:Rate)]⟩:Laws),0)
def b1y (a0:List Int) (r2:((List aQ)×Int) -> Option (List aQ)) (v1:(List aQ)×Int):Option (List aQ):=
 if (decide (v1.2 <= 2)) then
 (c6 a0 v1.2).bind fun v3=>
 (b7 v3 3).bind fun v4=>
 (c6 a0 (i64 (v1.2+2))).bind fun v5=>
 (b7 v5 3).bind fun v6=>
 (c6 a0 (i64 (v1.2+4))).bind fun v7=>
 (b7 v7 6000).bind fun v8=>
 (c6 a0 (i64 (v1.2+6))).bind fun v9=>
 (b7 v9 3000).bind fun v10=>
 (a4t 112 v1.1 [(⟨v4,i64 (900+v1.2),1,false,v1.2,11,0,(⟨i64 (13000+v10),i64 ((i64 (13000+v10))+1)⟩:Span),0,0,0,0,0⟩:aQ)]).bind fun v11=>
 (a4t 112 v11 [(⟨v4,i64 (910+v1.2),1,false,v1.2,5,v4,(⟨20000,60000⟩:Span),0,0,0,0,0⟩:aQ)]).bind fun v12=>
 (c6 a0 (i64 (v1.2+8))).bind fun v13=>
 (b7 v13 900000).bind fun v14=>
 (a4t 112 v12 [(⟨v4,i64 (920+v1.2),1,false,v1.2,1,v4,(⟨22000,i64 (27000+v8)⟩:Span),v4,100,i64 (1+v4),i64 (900000+v14),0⟩:aQ)]).bind fun v15=>
 (c6 a0 (i64 (v1.2+10))).bind fun v16=>
 (b7 v16 3000).bind fun v17=>
 (c6 a0 (i64 (v1.2+12))).bind fun v18=>
 (b7 v18 900000).bind fun v19=>
 (a4t 112 v15 [(⟨v6,i64 (930+v1.2),1,false,v1.2,1,v6,(⟨i64 (27000+v8),i64 (34400+v17)⟩:Span),v6,50,i64 (1+v6),i64 (700000+v19),0⟩:aQ)]).bind fun v20=>
 (a4t 112 v20 [(⟨v4,i64 (940+v1.2),1,false,v1.2,10,v4,(⟨32000,38500⟩:Span),0,0,0,0,3⟩:aQ)]).bind fun v21=>
 (a4t 112 v21 [(⟨v4,i64 (950+v1.2),1,false,v1.2,14,0,(⟨26000,50000⟩:Span),0,0,0,0,i64 (3-v1.2)⟩:aQ)]).bind fun v22=>
 r2 (v22,i64 (v1.2+1))
 else
 (c6 a0 15).bind fun v23=>
 (b7 v23 2000).bind fun v24=>
 (c6 a0 16).bind fun v25=>
 (b7 v25 2000).bind fun v26=>
 (a4t 112 v1.1 [(⟨0,961,1,false,1,13,0,(⟨i64 (34000+v24),i64 (36500+v26)⟩:Span),0,0,0,0,0⟩:aQ)]).bind fun v27=>
 (c6 a0 17).bind fun v28=>
 (b7 v28 900).bind fun v29=>
 (c6 a0 17).bind fun v30=>
 (b7 v30 900).bind fun v31=>
 (a4t 112 v27 [(⟨1,962,1,false,2,12,0,(⟨i64 (35600+v29),i64 (35601+v31)⟩:Span),0,0,0,0,0⟩:aQ)]).bind fun v32=>
 (c6 a0 18).bind fun v33=>
 (b7 v33 1200).bind fun v34=>
 (c6 a0 19).bind fun v35=>
 (b7 v35 300).bind fun v36=>
 (a4t 112 v32 [(⟨0,963,1,false,1,8,0,(⟨i64 (35000+v34),i64 (36250+v36)⟩:Span),0,0,0,0,0⟩:aQ)]).bind fun v37=>
 some v37
def a87 (a0:List Int):Option (List aQ):=
 d5 FU (b1y a0) ([],1)
def a6z (a0:Int):Option Int:=
 (b7 a0 4).bind fun v1=>
 if (v1==0) then
 (c0i a0 4).bind fun v2=>
 (b7 v2 9000).bind fun v3=>
 some (i64 (1+v3))
 else
 if (v1==1) then
 (c0i a0 4).bind fun v4=>
 (b7 v4 1200).bind fun v5=>
 some (i64 (1+v5))
 else
 if (v1==2) then
 (c0i a0 4).bind fun v6=>
 (b7 v6 120).bind fun v7=>
 some (i64 (1+v7))
 else
 (c0i a0 4).bind fun v8=>
 (b7 v8 12).bind fun v9=>
 some (i64 (1+v9))
def q8 (a0:Int):Option ByteArray:=
 (if (decide (a0<1)) then some true else some (decide (a0 >= ([a5j,a99,a5a,a5a,b56,a7l,b3h,a7l,a7l,a7l,b5g,b4y,b4y,b4y,b9s].length:Int)))).bind fun v1=>
 if v1 then
 some a5j
 else
 (c8 [a5j,a99,a5a,a5a,b56,a7l,b3h,a7l,a7l,a7l,b5g,b4y,b4y,b4y,b9s] a0).bind fun v2=>
 (c8 [a5j,a99,a5a,a5a,b56,a7l,b3h,a7l,a7l,a7l,b5g,b4y,b4y,b4y,b9s] a0).bind fun v3=>
 some v3
def b2r (v10:ByteArray) (v9:pensionhand_Fact×aQ×aQ×Int×Int) (r12:(pensionhand_Fact×aQ×aQ×Int) -> Option aQ) (v11:pensionhand_Fact×aQ×aQ×Int):Option aQ:=
 if (decide (v11.2.2.2<(v10.size:Int))) then
 (b47 v10 v11.2.2.2).bind fun v13=>
 if (v13==83) then
 (b7 v11.1.State 3).bind fun v14=>
 r12 (v11.1,v11.2.1,(⟨v11.2.2.1.Issuer,v11.2.2.1.Number,v11.2.2.1.Version,v11.2.2.1.Withdrawn,v11.2.2.1.Person,v11.2.2.1.Kind,v14,v11.2.2.1.Span,v11.2.2.1.Seat,v11.2.2.1.Share,v11.2.2.1.Currency,v11.2.2.1.Amount,v11.2.2.1.Ref⟩:aQ),i64 (v11.2.2.2+1))
 else
 if (v13==80) then
 r12 (v11.1,v11.2.1,(⟨v11.2.2.1.Issuer,v11.2.2.1.Number,v11.2.2.1.Version,v11.2.2.1.Withdrawn,v11.2.2.1.Person,v11.2.2.1.Kind,v11.2.2.1.State,(⟨v9.2.2.2.1,v9.2.2.2.2⟩:Span),v11.2.2.1.Seat,v11.2.2.1.Share,v11.2.2.1.Currency,v11.2.2.1.Amount,v11.2.2.1.Ref⟩:aQ),i64 (v11.2.2.2+1))
 else
 if (v13==84) then
 (b7 v11.1.Seat 3).bind fun v15=>
 (if (v11.2.2.1.Kind==4) then some (v15==v11.2.2.1.State) else some false).bind fun v16=>
 if v16 then
 (b7 (i64 (v11.2.2.1.State+1)) 3).bind fun v17=>
 r12 (v11.1,v11.2.1,(⟨v11.2.2.1.Issuer,v11.2.2.1.Number,v11.2.2.1.Version,v11.2.2.1.Withdrawn,v11.2.2.1.Person,v11.2.2.1.Kind,v11.2.2.1.State,v11.2.2.1.Span,v17,v11.2.2.1.Share,v11.2.2.1.Currency,v11.2.2.1.Amount,v11.2.2.1.Ref⟩:aQ),i64 (v11.2.2.2+1))
 else
 r12 (v11.1,v11.2.1,(⟨v11.2.2.1.Issuer,v11.2.2.1.Number,v11.2.2.1.Version,v11.2.2.1.Withdrawn,v11.2.2.1.Person,v11.2.2.1.Kind,v11.2.2.1.State,v11.2.2.1.Span,v15,v11.2.2.1.Share,v11.2.2.1.Currency,v11.2.2.1.Amount,v11.2.2.1.Ref⟩:aQ),i64 (v11.2.2.2+1))
 else
 if (v13==72) then
 (b7 v11.1.Share 100).bind fun v18=>
 r12 (v11.1,v11.2.1,(⟨v11.2.2.1.Issuer,v11.2.2.1.Number,v11.2.2.1.Version,v11.2.2.1.Withdrawn,v11.2.2.1.Person,v11.2.2.1.Kind,v11.2.2.1.State,v11.2.2.1.Span,v11.2.2.1.Seat,i64 (1+v18),v11.2.2.1.Currency,v11.2.2.1.Amount,v11.2.2.1.Ref⟩:aQ),i64 (v11.2.2.2+1))
 else
 if (v13==67) then
 (b7d v11.1.State 3).bind fun v19=>
 (b7 (i64 (v11.1.Seat+v19)) 3).bind fun v20=>
 r12 (v11.1,v11.2.1,(⟨v11.2.2.1.Issuer,v11.2.2.1.Number,v11.2.2.1.Version,v11.2.2.1.Withdrawn,v11.2.2.1.Person,v11.2.2.1.Kind,v11.2.2.1.State,v11.2.2.1.Span,v11.2.2.1.Seat,v11.2.2.1.Share,i64 (1+v20),v11.2.2.1.Amount,v11.2.2.1.Ref⟩:aQ),i64 (v11.2.2.2+1))
 else
 if (v13==65) then
 (b7 v11.1.Amount 3000000).bind fun v21=>
 r12 (v11.1,v11.2.1,(⟨v11.2.2.1.Issuer,v11.2.2.1.Number,v11.2.2.1.Version,v11.2.2.1.Withdrawn,v11.2.2.1.Person,v11.2.2.1.Kind,v11.2.2.1.State,v11.2.2.1.Span,v11.2.2.1.Seat,v11.2.2.1.Share,v11.2.2.1.Currency,v21,v11.2.2.1.Ref⟩:aQ),i64 (v11.2.2.2+1))
 else
 (b7 v11.1.Ref 4).bind fun v22=>
 if ((i64 (1+v22))==v11.2.2.1.Person) then
 (b7 v11.2.2.1.Person 4).bind fun v23=>
 r12 (v11.1,v11.2.1,(⟨v11.2.2.1.Issuer,v11.2.2.1.Number,v11.2.2.1.Version,v11.2.2.1.Withdrawn,v11.2.2.1.Person,v11.2.2.1.Kind,v11.2.2.1.State,v11.2.2.1.Span,v11.2.2.1.Seat,v11.2.2.1.Share,v11.2.2.1.Currency,v11.2.2.1.Amount,i64 (1+v23)⟩:aQ),i64 (v11.2.2.2+1))
 else
 r12 (v11.1,v11.2.1,(⟨v11.2.2.1.Issuer,v11.2.2.1.Number,v11.2.2.1.Version,v11.2.2.1.Withdrawn,v11.2.2.1.Person,v11.2.2.1.Kind,v11.2.2.1.State,v11.2.2.1.Span,v11.2.2.1.Seat,v11.2.2.1.Share,v11.2.2.1.Currency,v11.2.2.1.Amount,i64 (1+v22)⟩:aQ),i64 (v11.2.2.2+1))
 else
 some v11.2.2.1
def a1u (v9:pensionhand_Fact×aQ×aQ×Int×Int):Option aQ:=
 (q8 v9.2.2.1.Kind).bind fun v10=>
 d5 FU (b2r v10 v9) (v9.1,v9.2.1,v9.2.2.1,0)
def a8k (a0:pensionhand_Fact):Option aQ:=
 (b7 a0.Issuer 3).bind fun v1=>
 (b7 a0.Number 20).bind fun v2=>
 (b7 a0.Version 3).bind fun v3=>
 (b7 a0.Person 4).bind fun v4=>
 (b7 a0.Kind 14).bind fun v5=>
 (b7 a0.From 16000).bind fun v6=>
 (a6z a0.Length).bind fun v7=>
 if ((i64 (1+v5))==11) then
 (b7 a0.From 5000).bind fun v8=>
 joinC a1u (a0,(⟨0,0,0,false,0,0,0,(⟨0,0⟩:Span),0,0,0,0,0⟩:aQ),(⟨v1,i64 (1+v2),i64 (1+v3),a0.Withdrawn,i64 (1+v4),i64 (1+v5),0,(⟨0,0⟩:Span),0,0,0,0,0⟩:aQ),i64 (12000+v8),i64 ((i64 (12000+v8))+1))
 else
 if ((i64 (1+v5))==12) then
 (b7 a0.From 6000).bind fun v24=>
 joinC a1u (a0,(⟨0,0,0,false,0,0,0,(⟨0,0⟩:Span),0,0,0,0,0⟩:aQ),(⟨v1,i64 (1+v2),i64 (1+v3),a0.Withdrawn,i64 (1+v4),i64 (1+v5),0,(⟨0,0⟩:Span),0,0,0,0,0⟩:aQ),i64 (34000+v24),i64 ((i64 (34000+v24))+1))
 else
 if ((i64 (1+v5))==8) then
 (b7 a0.From 4000).bind fun v25=>
 (b7 a0.Length 700).bind fun v26=>
 joinC a1u (a0,(⟨0,0,0,false,0,0,0,(⟨0,0⟩:Span),0,0,0,0,0⟩:aQ),(⟨v1,i64 (1+v2),i64 (1+v3),a0.Withdrawn,i64 (1+v4),i64 (1+v5),0,(⟨0,0⟩:Span),0,0,0,0,0⟩:aQ),i64 (34000+v25),i64 ((i64 ((i64 (34000+v25))+1))+v26))
 else
 joinC a1u (a0,(⟨0,0,0,false,0,0,0,(⟨0,0⟩:Span),0,0,0,0,0⟩:aQ),(⟨v1,i64 (1+v2),i64 (1+v3),a0.Withdrawn,i64 (1+v4),i64 (1+v5),0,(⟨0,0⟩:Span),0,0,0,0,0⟩:aQ),i64 (21900+v6),i64 ((i64 (21900+v6))+v7))
def b21 (a0:List pensionhand_Fact) (r2:((List aQ)×Int) -> Option (List aQ)) (v1:(List aQ)×Int):Option (List aQ):=
 (if (decide (v1.2<(a0.length:Int))) then some (decide (v1.2<12)) else some false).bind fun v3=>
 if v3 then
 (c8 a0 v1.2).bind fun v4=>
 (a8k v4).bind fun v5=>
 (a4t 112 v1.1 [v5]).bind fun v6=>
 r2 (v6,i64 (v1.2+1))
 else
 some v1.1
def a83 (a0:List pensionhand_Fact):Option (List aQ):=
 d5 FU (b21 a0) ([],0)
def b6j (v1:ByteArray) (a1:Int) (r3:Int -> Option Bool) (v2:Int):Option Bool:=
 if (decide (v2<(v1.size:Int))) then
 (b47 v1 v2).bind fun v4=>
 if (v4==a1) then
 some true
 else
 r3 (i64 (v2+1))
 else
 some false
def i8 (a0:Int) (a1:Int):Option Bool:=
 (q8 a0).bind fun v1=>
 d5 FU (b6j v1 a1) 0
def y5 (a0:Int) (a1:Int) (a2:Int) (a3:Int) (a4:Int):Option Bool:=
 (i8 a0 a1).bind fun v1=>
 if v1 then
 (if (decide (a2 >= a3)) then some (decide (a2 <= a4)) else some false).bind fun v2=>
 some v2
 else
 some (a2==0)
def j8 (a0:aQ):Option Bool:=
 (if (decide (a0.Issuer<0)) then some true else some (decide (a0.Issuer >= 6))).bind fun v1=>
 (if v1 then some true else some (decide (a0.Number<1))).bind fun v2=>
 (if v2 then some true else some (decide (a0.Number>999))).bind fun v3=>
 (if v3 then some true else some (decide (a0.Version<1))).bind fun v4=>
 (if v4 then some true else some (decide (a0.Version>99))).bind fun v5=>
 (if v5 then some true else some (decide (a0.Person<1))).bind fun v6=>
 (if v6 then some true else some (decide (a0.Person>99))).bind fun v7=>
 (if v7 then some true else (q8 a0.Kind).bind fun v8=>
 some (v8.toList==a5j.toList)).bind fun v9=>
 if v9 then
 some false
 else
 (if (decide (a0.Span.From<0)) then some true else some (decide (a0.Span.From >= a0.Span.To))).bind fun v10=>
 (if v10 then some true else some (decide (a0.Span.To>73049))).bind fun v11=>
 if v11 then
 some false
 else
 (if (a0.Kind==11) then some true else some (a0.Kind==12)).bind fun v12=>
 (if v12 then some ((i64 (a0.Span.To-a0.Span.From)) != 1) else some false).bind fun v13=>
 (if v13 then some true else (if (a0.Kind==4) then some (a0.Seat==a0.State) else some false).bind fun v14=>
 some v14).bind fun v15=>
 (if v15 then some true else (if (a0.Kind==10) then some true else some (a0.Kind==14)).bind fun v16=>
 (if v16 then some (a0.Ref==a0.Person) else some false).bind fun v17=>
 some v17).bind fun v18=>
 if v18 then
 some false
 else
 (y5 a0.Kind 83 a0.State 0 5).bind fun v19=>
 (if v19 then (y5 a0.Kind 84 a0.Seat 0 5).bind fun v20=>
 some v20 else some false).bind fun v21=>
 (if v21 then (y5 a0.Kind 72 a0.Share 1 100).bind fun v22=>
 some v22 else some false).bind fun v23=>
 (if v23 then (y5 a0.Kind 67 a0.Currency 1 999).bind fun v24=>
 some v24 else some false).bind fun v25=>
 (if v25 then (y5 a0.Kind 65 a0.Amount 0 1000000000).bind fun v26=>
 some v26 else some false).bind fun v27=>
 (if v27 then (y5 a0.Kind 82 a0.Ref 1 99).bind fun v28=>
 some v28 else some false).bind fun v29=>
 some v29
def a3s (a0:aQ) (a1:aQ):Option Int:=
 if (a0.Issuer != a1.Issuer) then
 some (i64 (a0.Issuer-a1.Issuer))
 else
 some (i64 (a0.Number-a1.Number))
def a8z (a1:Int) (r2:((List Int)×Int) -> Option (List Int)) (v1:(List Int)×Int):Option (List Int):=
 if (decide (v1.2 >= 0)) then
 (d3f .i64 a1 (u64 (i64 (8*v1.2)))).bind fun v3=>
 (a4t 1 v1.1 [IntKind.u8.wrap (v3)]).bind fun v4=>
 r2 (v4,i64 (v1.2-1))
 else
 some v1.1
def d8 (a0:List Int) (a1:Int) (a2:Int):Option (List Int):=
 d5 FU (a8z a1) (a0,i64 (a2-1))
def a4c (v9:ByteArray) (r11:(aQ×(List Int)×Int) -> Option (List Int)) (v10:aQ×(List Int)×Int):Option (List Int):=
 if (decide (v10.2.2<(v9.size:Int))) then
 (b47 v9 v10.2.2).bind fun v12=>
 if (v12==83) then
 (d8 v10.2.1 v10.1.State 1).bind fun v13=>
 r11 (v10.1,v13,i64 (v10.2.2+1))
 else
 if (v12==80) then
 (d8 v10.2.1 v10.1.Span.From 3).bind fun v14=>
 (d8 v14 v10.1.Span.To 3).bind fun v15=>
 r11 (v10.1,v15,i64 (v10.2.2+1))
 else
 if (v12==84) then
 (d8 v10.2.1 v10.1.Seat 1).bind fun v16=>
 r11 (v10.1,v16,i64 (v10.2.2+1))
 else
 if (v12==72) then
 (d8 v10.2.1 v10.1.Share 1).bind fun v17=>
 r11 (v10.1,v17,i64 (v10.2.2+1))
 else
 if (v12==67) then
 (d8 v10.2.1 v10.1.Currency 2).bind fun v18=>
 r11 (v10.1,v18,i64 (v10.2.2+1))
 else
 if (v12==65) then
 (d8 v10.2.1 v10.1.Amount 4).bind fun v19=>
 r11 (v10.1,v19,i64 (v10.2.2+1))
 else
 if (v12==82) then
 (d8 v10.2.1 v10.1.Ref 1).bind fun v20=>
 r11 (v10.1,v20,i64 (v10.2.2+1))
 else
 r11 (v10.1,v10.2.1,i64 (v10.2.2+1))
 else
 some v10.2.1
def a4p (v2:aQ×Int):Option (List Int):=
 (d8 [] v2.1.Issuer 1).bind fun v3=>
 (d8 v3 v2.1.Number 2).bind fun v4=>
 (d8 v4 v2.1.Version 1).bind fun v5=>
 (d8 v5 v2.2 1).bind fun v6=>
 (d8 v6 v2.1.Person 1).bind fun v7=>
 (d8 v7 v2.1.Kind 1).bind fun v8=>
 (q8 v2.1.Kind).bind fun v9=>
 d5 FU (a4c v9) (v2.1,v8,0)
def a4i (a0:aQ):Option (List Int):=
 (j8 a0).bind fun v1=>
 if (!v1) then
 some []
 else
 if a0.Withdrawn then
 joinC a4p (a0,1)
 else
 joinC a4p (a0,0)
def a7w (a0:aQ) (a1:aQ):Option Bool:=
 (j8 a0).bind fun v1=>
 (if (!v1) then some true else (j8 a1).bind fun v2=>
 some (!v2)).bind fun v3=>
 if v3 then
 some false
 else
 (a3s a0 a1).bind fun v4=>
 if (v4 != 0) then
 some (decide (v4<0))
 else
 if (a0.Version != a1.Version) then
 some (decide (a0.Version<a1.Version))
 else
 (a4i a0).bind fun v5=>
 (a4i a1).bind fun v6=>
 some (Op.bytesLess (b9o (v5.map fun x=>x)).toList (b9o (v6.map fun x=>x)).toList)
def a4b (r2:((List aQ)×Int) -> Option (List aQ)) (v4:(List aQ)×(List aQ)×(List aQ)×Int×aQ) (r7:((List aQ)×aQ×Int) -> Option (List aQ)) (v6:(List aQ)×aQ×Int):Option (List aQ):=
 (if (decide (v6.2.2>0)) then (c8 v6.1 (i64 (v6.2.2-1))).bind fun v8=>
 (c8 v6.1 (i64 (v6.2.2-1))).bind fun v9=>
 (a3s v9 v6.2.1).bind fun v10=>
 some (decide (v10>0)) else some false).bind fun v11=>
 if v11 then
 r7 (v6.1,v6.2.1,i64 (v6.2.2-1))
 else
 (if (decide (v6.2.2>0)) then (c8 v6.1 (i64 (v6.2.2-1))).bind fun v12=>
 (c8 v6.1 (i64 (v6.2.2-1))).bind fun v13=>
 (a3s v13 v6.2.1).bind fun v14=>
 some (v14==0) else some false).bind fun v15=>
 if v15 then
 (c8 v6.1 (i64 (v6.2.2-1))).bind fun v16=>
 (c8 v6.1 (i64 (v6.2.2-1))).bind fun v17=>
 (a7w v17 v6.2.1).bind fun v18=>
 if v18 then
 (c8 v6.1 (i64 (v6.2.2-1))).bind fun v19=>
 (c8 v6.1 (i64 (v6.2.2-1))).bind fun v20=>
 r2 (b0i v6.1 (i64 (v6.2.2-1)) v6.2.1,i64 (v4.2.2.2.1+1))
 else
 r2 (v6.1,i64 (v4.2.2.2.1+1))
 else
 (a0j v6.1 0 v6.2.2).bind fun v21=>
 (a4t 112 [] v21).bind fun v22=>
 (a4t 112 v22 [v6.2.1]).bind fun v23=>
 (a0j v6.1 v6.2.2 (v6.1.length:Int)).bind fun v24=>
 (a4t 112 v23 v24).bind fun v25=>
 r2 (v25,i64 (v4.2.2.2.1+1))
def a74 (r2:((List aQ)×Int) -> Option (List aQ)) (v4:(List aQ)×(List aQ)×(List aQ)×Int×aQ):Option (List aQ):=
 (j8 v4.2.2.2.2).bind fun v5=>
 if (!v5) then
 r2 (v4.2.2.1,i64 (v4.2.2.2.1+1))
 else
 d5 FU (a4b r2 v4) (v4.2.2.1,v4.2.2.2.2,(v4.2.2.1.length:Int))
def a4e (a0:List aQ) (a1:List aQ) (r2:((List aQ)×Int) -> Option (List aQ)) (v1:(List aQ)×Int):Option (List aQ):=
 if (decide (v1.2<(i64 ((a0.length:Int)+(a1.length:Int))))) then
 if (decide (v1.2<(a0.length:Int))) then
 (c8 a0 v1.2).bind fun v3=>
 joinC (a74 r2) (a0,a1,v1.1,v1.2,v3)
 else
 (c8 a1 (i64 (v1.2-(a0.length:Int)))).bind fun v26=>
 joinC (a74 r2) (a0,a1,v1.1,v1.2,v26)
 else
 some v1.1
def a70 (a0:List aQ) (a1:List aQ):Option (List aQ):=
 d5 FU (a4e a0 a1) ([],0)
def b05 (a0:List aQ) (a1:Int) (r2:((List aQ)×Int) -> Option (List aQ)) (v1:(List aQ)×Int):Option (List aQ):=
 if (decide (v1.2<(a0.length:Int))) then
 (c8 a0 v1.2).bind fun v3=>
 if (v3.Person==a1) then
 (c8 a0 v1.2).bind fun v4=>
 (a4t 112 v1.1 [v4]).bind fun v5=>
 r2 (v5,i64 (v1.2+1))
 else
 r2 (v1.1,i64 (v1.2+1))
 else
 some v1.1
def b09 (a0:List aQ) (a1:Int):Option (List aQ):=
 d5 FU (b05 a0 a1) ([],0)
def a7v (a0:Int):Option Int:=
 (b7 a0 72).bind fun v1=>
 some (i64 (1157+v1))
def a3y (a0:Int):Option Bool:=
 (if (decide (a0 >= 0)) then some (decide (a0 <= 2399)) else some false).bind fun v1=>
 some v1
def a3x (a0:Int):Option (Int×Bool):=
 (a3y a0).bind fun v1=>
 if (!v1) then
 some (0,false)
 else
 (a1x a0).bind fun v2=>
 some (v2,true)
def b3e (v3:Int×Bool):Option ByteArray:=
 if v3.2 then
 some b4y
 else
 if (v3.1==14) then
 some b9s
 else
 some a5j
def b1k (v2:Int×Bool):Option ByteArray:=
 if v2.2 then
 some a7l
 else
 if (v2.1==6) then
 some b3h
 else
 if (v2.1==10) then
 some b5g
 else
 if (v2.1==11) then
 joinC b3e (v2.1,v2.1==11)
 else
 if (v2.1==12) then
 joinC b3e (v2.1,v2.1==12)
 else
 joinC b3e (v2.1,v2.1==13)
def b5o (v1:Int×Bool):Option ByteArray:=
 if v1.2 then
 some a5a
 else
 if (v1.1==4) then
 some b56
 else
 if (v1.1==5) then
 joinC b1k (v1.1,v1.1==5)
 else
 if (v1.1==7) then
 joinC b1k (v1.1,v1.1==7)
 else
 if (v1.1==8) then
 joinC b1k (v1.1,v1.1==8)
 else
 joinC b1k (v1.1,v1.1==9)
def b0c (a0:Int):Option ByteArray:=
 if (a0==1) then
 some a99
 else
 if (a0==2) then
 joinC b5o (a0,a0==2)
 else
 joinC b5o (a0,a0==3)
def b1f (a0:ByteArray) (a1:Int):Option Int:=
 (b04 a0 a1).bind fun v1=>
 some v1
def b2i (v1:Int×Int) (r5:(Int×Int×Int) -> Option (Int×Int)) (v4:Int×Int×Int):Option (Int×Int):=
 if (decide (v4.2.2>0)) then
 if ((e42 .i64 v4.2.2 1) != 0) then
 (d3f .i64 v4.2.2 1).bind fun v6=>
 r5 (IntKind.u32.wrap (v4.1*v4.2.1),IntKind.u32.wrap (v4.2.1*v4.2.1),v6)
 else
 (d3f .i64 v4.2.2 1).bind fun v7=>
 r5 (v4.1,IntKind.u32.wrap (v4.2.1*v4.2.1),v7)
 else
 some (v1.1,v4.1)
def b2b (a0:ByteArray) (r2:(Int×Int) -> Option (Int×Int)) (v1:Int×Int):Option (Int×Int):=
 if (decide (v1.2<(a0.size:Int))) then
 (b47 a0 v1.2).bind fun v3=>
 r2 (IntKind.u32.wrap ((IntKind.u32.wrap (v1.1*16777619))+(IntKind.u32.wrap (v3))),i64 (v1.2+1))
 else
 d5 FU (b2i v1) (1,16777619,(a0.size:Int))
def a8h (a0:ByteArray):Option (Int×Int):=
 d5 FU (b2b a0) (0,0)
def a91 (a0:ByteArray) (a1:ByteArray) (v1:Int×Int) (r8:(Int×Int) -> Option Int) (v7:Int×Int):Option Int:=
 if (decide (v7.2<(a0.size:Int))) then
 (b47 a0 v7.2).bind fun v9=>
 (b47 a0 (i64 (v7.2-(a1.size:Int)))).bind fun v10=>
 (if ((IntKind.u32.wrap ((IntKind.u32.wrap ((IntKind.u32.wrap (v7.1*16777619))+(IntKind.u32.wrap (v9))))-(IntKind.u32.wrap (v1.2*(IntKind.u32.wrap (v10))))))==v1.1) then (c0f a0 (i64 ((i64 (v7.2+1))-(a1.size:Int))) (i64 (v7.2+1))).bind fun v11=>
 some (v11.toList==a1.toList) else some false).bind fun v12=>
 if v12 then
 some (i64 ((i64 (v7.2+1))-(a1.size:Int)))
 else
 r8 (IntKind.u32.wrap ((IntKind.u32.wrap ((IntKind.u32.wrap (v7.1*16777619))+(IntKind.u32.wrap (v9))))-(IntKind.u32.wrap (v1.2*(IntKind.u32.wrap (v10))))),i64 (v7.2+1))
 else
 some (-1:Int)
def a95 (a1:ByteArray) (a0:ByteArray) (v1:Int×Int) (r3:(Int×Int) -> Option Int) (v2:Int×Int):Option Int:=
 if (decide (v2.2<(a1.size:Int))) then
 (b47 a0 v2.2).bind fun v4=>
 r3 (IntKind.u32.wrap ((IntKind.u32.wrap (v2.1*16777619))+(IntKind.u32.wrap (v4))),i64 (v2.2+1))
 else
 (if (v2.1==v1.1) then (c0f a0 0 (a1.size:Int)).bind fun v5=>
 some (v5.toList==a1.toList) else some false).bind fun v6=>
 if v6 then
 some 0
 else
 d5 FU (a91 a0 a1 v1) (v2.1,(a1.size:Int))
def b0h (a0:ByteArray) (a1:ByteArray):Option Int:=
 (a8h a1).bind fun v1=>
 d5 FU (a95 a1 a0 v1) (0,0)
def b45 (a0:ByteArray) (a1:ByteArray):Option Int:=
 (if ((a1.size:Int)==0) then some true else some (a1.toList==a0.toList)).bind fun v1=>
 if v1 then
 some 0
 else
 if ((a1.size:Int)==1) then
 (b47 a1 0).bind fun v2=>
 (b1f a0 v2).bind fun v3=>
 some v3
 else
 if (decide ((a1.size:Int) >= (a0.size:Int))) then
 some (-1:Int)
 else
 none
def b7p (a0:ByteArray) (a1:ByteArray):Option Int:=
 (b45 a0 a1).bind fun v1=>
 some v1
def b4u (a0:ByteArray) (a1:ByteArray):Option Bool:=
 (b7p a0 a1).bind fun v1=>
 some (decide (v1 >= 0))
def o6 (a0:ByteArray) (a1:ByteArray):Option Bool:=
 (b4u a1 a0).bind fun v1=>
 some v1
def a7k (a0:Int) (a1:Int) (a2:Int):Option Bool:=
 (if (decide (a0 >= a1)) then some (decide (a0 <= a2)) else some false).bind fun v1=>
 some v1
def a7t (a0:Bool) (a1:Int) (a2:Int) (a3:Int):Option Bool:=
 (if a0 then (a7k a1 a2 a3).bind fun v1=>
 some v1 else some false).bind fun v2=>
 (if v2 then some true else (if (!a0) then some (a1==0) else some false).bind fun v3=>
 some v3).bind fun v4=>
 some v4
def b3s (a0:Span):Option Bool:=
 (if (decide (a0.From >= 0)) then some (decide (a0.From<a0.To)) else some false).bind fun v1=>
 (if v1 then some (decide (a0.To <= 73049)) else some false).bind fun v2=>
 some v2
def b4c (v29:aQ×Bool):Option Bool:=
 if v29.2 then
 some (v29.1.Ref != v29.1.Person)
 else
 some true
def b4k (v28:aQ×Int×Bool):Option Bool:=
 if v28.2.2 then
 some (v28.1.Span.To==(i64 (v28.1.Span.From+1)))
 else
 if (v28.2.1==10) then
 joinC b4c (v28.1,v28.2.1==10)
 else
 joinC b4c (v28.1,v28.2.1==14)
def b2l (a0:aQ):Option Bool:=
 (b0c a0.Kind).bind fun v1=>
 (if (v1.toList==a5j.toList) then some true else (a7k a0.Issuer 0 5).bind fun v2=>
 some (!v2)).bind fun v3=>
 (if v3 then some true else (a7k a0.Number 1 999).bind fun v4=>
 some (!v4)).bind fun v5=>
 (if v5 then some true else (a7k a0.Version 1 99).bind fun v6=>
 some (!v6)).bind fun v7=>
 (if v7 then some true else (a7k a0.Person 1 99).bind fun v8=>
 some (!v8)).bind fun v9=>
 if v9 then
 some false
 else
 (o6 f0v v1).bind fun v10=>
 (a7t v10 a0.State 0 5).bind fun v11=>
 (if (!v11) then some true else (o6 f02 v1).bind fun v12=>
 (a7t v12 a0.Seat 0 5).bind fun v13=>
 some (!v13)).bind fun v14=>
 (if v14 then some true else (b3s a0.Span).bind fun v15=>
 some (!v15)).bind fun v16=>
 if v16 then
 some false
 else
 (o6 e8m v1).bind fun v17=>
 (a7t v17 a0.Share 1 100).bind fun v18=>
 (if (!v18) then some true else (o6 e8k v1).bind fun v19=>
 (a7t v19 a0.Currency 1 999).bind fun v20=>
 some (!v20)).bind fun v21=>
 (if v21 then some true else (o6 e9c v1).bind fun v22=>
 (a7t v22 a0.Amount 0 1000000000).bind fun v23=>
 some (!v23)).bind fun v24=>
 (if v24 then some true else (o6 f0d v1).bind fun v25=>
 (a7t v25 a0.Ref 1 99).bind fun v26=>
 some (!v26)).bind fun v27=>
 if v27 then
 some false
 else
 if (a0.Kind==4) then
 some (a0.State != a0.Seat)
 else
 if (a0.Kind==11) then
 joinC b4k (a0,a0.Kind,a0.Kind==11)
 else
 joinC b4k (a0,a0.Kind,a0.Kind==12)
def a4s (a0:aQ):Option Bool:=
 (b2l a0).bind fun v1=>
 (if v1 then some (!a0.Withdrawn) else some false).bind fun v2=>
 some v2
def a9n (a0:List aQ) (a1:Int) (r2:(Int×Bool×Int) -> Option (Int×Bool)) (v1:Int×Bool×Int):Option (Int×Bool):=
 if (decide (v1.2.2<(a0.length:Int))) then
 (c8 a0 v1.2.2).bind fun v3=>
 (a4s v3).bind fun v4=>
 (if v4 then some (v3.Kind==a1) else some false).bind fun v5=>
 (if v5 then (if (!v1.2.1) then some true else some (decide (v3.Span.From<v1.1))).bind fun v6=>
 some v6 else some false).bind fun v7=>
 if v7 then
 r2 (v3.Span.From,true,i64 (v1.2.2+1))
 else
 r2 (v1.1,v1.2.1,i64 (v1.2.2+1))
 else
 some (v1.1,v1.2.1)
def b1a (a0:List aQ) (a1:Int):Option (Int×Bool):=
 d5 FU (a9n a0 a1) (0,false,0)
def b5w (a0:List aQ):Option (Int×Bool):=
 (b1a a0 11).bind fun v1=>
 some (v1.1,v1.2)
def b3l (a0:List aQ):Option (Int×Bool):=
 (b1a a0 12).bind fun v1=>
 some (v1.1,v1.2)
def b16 (v3:Span×Int×Int):Option Span:=
 if (decide (v3.2.2<v3.2.1)) then
 some (⟨0,0⟩:Span)
 else
 some (⟨v3.2.1,i64 (v3.2.2+1)⟩:Span)
def a2s (a0:List aQ):Option Span:=
 (b5w a0).bind fun v1=>
 (b3l a0).bind fun v2=>
 if (!v2.2) then
 joinC b16 ((⟨0,0⟩:Span),v1.1,73048)
 else
 joinC b16 ((⟨0,0⟩:Span),v1.1,v2.1)
def b79 (a0:Span):Option Span:=
 some (⟨max a0.From 0,min a0.To 73049⟩:Span)
def c0w (a0:Int):Option Int:=
 (b8o a0).bind fun v1=>
 some v1
def a9u (v6:List Span) (r8:((List Span)×(List Span)×Int) -> Option (List Span)) (v7:(List Span)×(List Span)×Int):Option (List Span):=
 if (decide (v7.2.2<(v6.length:Int))) then
 (c8 v7.2.1 v7.2.2).bind fun v9=>
 (c8 v7.2.1 v7.2.2).bind fun v10=>
 (if (decide ((v7.1.length:Int)>0)) then (c8 v7.1 (i64 ((v7.1.length:Int)-1))).bind fun v11=>
 (c8 v7.1 (i64 ((v7.1.length:Int)-1))).bind fun v12=>
 some (decide (v10.From <= v12.To)) else some false).bind fun v13=>
 if v13 then
 (c8 v7.1 (i64 ((v7.1.length:Int)-1))).bind fun v14=>
 (c8 v7.1 (i64 ((v7.1.length:Int)-1))).bind fun v15=>
 (c8 v7.1 (i64 ((v7.1.length:Int)-1))).bind fun v16=>
 (c8 v7.1 (i64 ((v7.1.length:Int)-1))).bind fun v17=>
 r8 (b0i v7.1 (i64 ((v7.1.length:Int)-1)) (⟨v17.From,max v15.To v10.To⟩:Span),v7.2.1,i64 (v7.2.2+1))
 else
 (a4t 16 v7.1 [v10]).bind fun v18=>
 r8 (v18,v7.2.1,i64 (v7.2.2+1))
 else
 some v7.1
def b2e (a0:List Span) (r2:((List Span)×(List Span)×Int) -> Option (List Span)) (v1:(List Span)×(List Span)×Int):Option (List Span):=
 if (decide (v1.2.2<(a0.length:Int))) then
 (c8 a0 v1.2.2).bind fun v3=>
 (b79 v3).bind fun v4=>
 if (decide (v4.From<v4.To)) then
 (a4t 16 v1.1 [v4]).bind fun v5=>
 r2 (v5,[],i64 (v1.2.2+1))
 else
 r2 (v1.1,[],i64 (v1.2.2+1))
 else
 (b0v v1.1).bind fun v6=>
 d5 FU (a9u v6) ([],v6,0)
def a9g (a0:List Span):Option (List Span):=
 d5 FU (b2e a0) ([],[],0)
def a6w (r4:((List Span)×(List Span)×(List Span)×Int×Int) -> Option (List Span)) (v15:(List Span)×(List Span)×(List Span)×Int×Int):Option (List Span):=
 (c8 v15.1 v15.2.2.2.1).bind fun v16=>
 (c8 v15.1 v15.2.2.2.1).bind fun v17=>
 (c8 v15.2.1 v15.2.2.2.2).bind fun v18=>
 (c8 v15.2.1 v15.2.2.2.2).bind fun v19=>
 if (decide (v17.To<v19.To)) then
 r4 (v15.1,v15.2.1,v15.2.2.1,i64 (v15.2.2.2.1+1),v15.2.2.2.2)
 else
 r4 (v15.1,v15.2.1,v15.2.2.1,v15.2.2.2.1,i64 (v15.2.2.2.2+1))
def a9l (r4:((List Span)×(List Span)×(List Span)×Int×Int) -> Option (List Span)) (v3:(List Span)×(List Span)×(List Span)×Int×Int):Option (List Span):=
 (if (decide (v3.2.2.2.1<(v3.1.length:Int))) then some (decide (v3.2.2.2.2<(v3.2.1.length:Int))) else some false).bind fun v5=>
 if v5 then
 (c8 v3.1 v3.2.2.2.1).bind fun v6=>
 (c8 v3.1 v3.2.2.2.1).bind fun v7=>
 (c8 v3.2.1 v3.2.2.2.2).bind fun v8=>
 (c8 v3.2.1 v3.2.2.2.2).bind fun v9=>
 (c8 v3.1 v3.2.2.2.1).bind fun v10=>
 (c8 v3.1 v3.2.2.2.1).bind fun v11=>
 (c8 v3.2.1 v3.2.2.2.2).bind fun v12=>
 (c8 v3.2.1 v3.2.2.2.2).bind fun v13=>
 if (decide ((max v7.From v9.From)<(min v11.To v13.To))) then
 (a4t 16 v3.2.2.1 [(⟨max v7.From v9.From,min v11.To v13.To⟩:Span)]).bind fun v14=>
 joinC (a6w r4) (v3.1,v3.2.1,v14,v3.2.2.2.1,v3.2.2.2.2)
 else
 joinC (a6w r4) (v3.1,v3.2.1,v3.2.2.1,v3.2.2.2.1,v3.2.2.2.2)
 else
 some v3.2.2.1
def a9t (a0:List Span) (a1:List Span):Option (List Span):=
 (a9g a0).bind fun v1=>
 (a9g a1).bind fun v2=>
 d5 FU a9l (v1,v2,[],0,0)
def a0m (a0:List Span) (a1:Span):Option (List Span):=
 (a9t a0 [a1]).bind fun v1=>
 some v1
def b03 (a0:List aQ) (a1:Int) (a2:Int) (r2:((List Span)×Int) -> Option (List Span)) (v1:(List Span)×Int):Option (List Span):=
 if (decide (v1.2<(a0.length:Int))) then
 (c8 a0 v1.2).bind fun v3=>
 (a4s v3).bind fun v4=>
 (if v4 then some (v3.Kind==a1) else some false).bind fun v5=>
 (if v5 then some (v3.State==a2) else some false).bind fun v6=>
 if v6 then
 (a4t 16 v1.1 [v3.Span]).bind fun v7=>
 r2 (v7,i64 (v1.2+1))
 else
 r2 (v1.1,i64 (v1.2+1))
 else
 (a2s a0).bind fun v8=>
 (a0m v1.1 v8).bind fun v9=>
 some v9
def b3c (a0:List aQ) (a1:Int) (a2:Int):Option (List Span):=
 d5 FU (b03 a0 a1 a2) ([],0)
def b4t (a0:List aQ) (r2:((List Span)×Int) -> Option (List Span)) (v1:(List Span)×Int):Option (List Span):=
 if (decide (v1.2<6)) then
 (b3c a0 8 v1.2).bind fun v3=>
 (a4t 16 v1.1 v3).bind fun v4=>
 r2 (v4,i64 (v1.2+1))
 else
 (a9g v1.1).bind fun v5=>
 some v5
def a86 (a0:List aQ):Option (List Span):=
 d5 FU (b4t a0) ([],0)
def a72 (v1:List Span) (r3:((List Span)×(List Span)×Int) -> Option (List Span)) (v2:(List Span)×(List Span)×Int):Option (List Span):=
 if (decide (v2.2.2<(v1.length:Int))) then
 (c8 v2.2.1 v2.2.2).bind fun v4=>
 (c8 v2.2.1 v2.2.2).bind fun v5=>
 (if (decide ((v2.1.length:Int)>0)) then (c8 v2.1 (i64 ((v2.1.length:Int)-1))).bind fun v6=>
 (c8 v2.1 (i64 ((v2.1.length:Int)-1))).bind fun v7=>
 some (decide ((i64 (v5.From-v7.To)) <= 56)) else some false).bind fun v8=>
 if v8 then
 (c8 v2.1 (i64 ((v2.1.length:Int)-1))).bind fun v9=>
 (c8 v2.1 (i64 ((v2.1.length:Int)-1))).bind fun v10=>
 r3 (b0i v2.1 (i64 ((v2.1.length:Int)-1)) (⟨v10.From,v5.To⟩:Span),v2.2.1,i64 (v2.2.2+1))
 else
 (a4t 16 v2.1 [v5]).bind fun v11=>
 r3 (v11,v2.2.1,i64 (v2.2.2+1))
 else
 some v2.1
def a7d (a0:List aQ):Option (List Span):=
 (a86 a0).bind fun v1=>
 d5 FU (a72 v1) ([],v1,0)
def a9o (a1:Int) (r2:((List Int)×wQ) -> Option (Bool×wQ×(List Int))) (v1:(List Int)×wQ):Option (Bool×wQ×(List Int)):=
 (if (decide ((v1.1.length:Int)>0)) then (c8 v1.1 0).bind fun v3=>
 (c8 v1.1 0).bind fun v4=>
 some (decide (v4<(i64 (a1-1094)))) else some false).bind fun v5=>
 if v5 then
 (a0j v1.1 1 (v1.1.length:Int)).bind fun v6=>
 r2 (v6,(⟨[]⟩:wQ))
 else
 some (decide ((v1.1.length:Int)<546),(⟨[]⟩:wQ),v1.1)
def a52 (a0:wQ) (a1:Int) (a2:List Int):Option (Bool×wQ×(List Int)):=
 d5 FU (a9o a1) (a2,(⟨[]⟩:wQ))
def a5y (r9:((List Int)×wQ×(List Span)×(List Span)×Int×(List Span)×(List Span)×Int) -> Option (List Span)) (v8:(List Int)×wQ×(List Span)×(List Span)×Int×(List Span)×(List Span)×Int) (r13:((List Int)×wQ×(List Span)×(List Span)×Int×Span×Int×(List Span)×(List Span)) -> Option (List Span)) (v12:(List Int)×wQ×(List Span)×(List Span)×Int×Span×Int×(List Span)×(List Span)):Option (List Span):=
 if (decide (v12.2.2.2.2.2.2.1<v12.2.2.2.2.2.1.To)) then
 if (decide (v12.2.2.2.2.1>0)) then
 r13 (v12.1,(⟨[]⟩:wQ),v12.2.2.1,v12.2.2.2.1,i64 (v12.2.2.2.2.1-1),v12.2.2.2.2.2.1,i64 (v12.2.2.2.2.2.2.1+1),v12.2.2.2.2.2.2.2.1,v12.2.2.2.2.2.2.2.2)
 else
 (a52 (⟨[]⟩:wQ) v12.2.2.2.2.2.2.1 v12.1).bind fun v14=>
 if v14.1 then
 (a4t 8 v14.2.2 [v12.2.2.2.2.2.2.1]).bind fun v15=>
 (a4t 16 v12.2.2.1 [(⟨v12.2.2.2.2.2.2.1,i64 (v12.2.2.2.2.2.2.1+1)⟩:Span)]).bind fun v16=>
 r13 (v15,(⟨[]⟩:wQ),v16,v12.2.2.2.1,v12.2.2.2.2.1,v12.2.2.2.2.2.1,i64 (v12.2.2.2.2.2.2.1+1),v12.2.2.2.2.2.2.2.1,v12.2.2.2.2.2.2.2.2)
 else
 r13 (v14.2.2,(⟨[]⟩:wQ),v12.2.2.1,v12.2.2.2.1,v12.2.2.2.2.1,v12.2.2.2.2.2.1,i64 (v12.2.2.2.2.2.2.1+1),v12.2.2.2.2.2.2.2.1,v12.2.2.2.2.2.2.2.2)
 else
 r9 (v12.1,(⟨[]⟩:wQ),v12.2.2.1,v12.2.2.2.1,v12.2.2.2.2.1,v12.2.2.2.2.2.2.2.1,v12.2.2.2.2.2.2.2.2,i64 (v8.2.2.2.2.2.2.2+1))
def a5s (v7:List Span) (r4:((List Int)×wQ×(List Span)×(List Span)×(List Span)×Int) -> Option (List Span)) (v3:(List Int)×wQ×(List Span)×(List Span)×(List Span)×Int) (r9:((List Int)×wQ×(List Span)×(List Span)×Int×(List Span)×(List Span)×Int) -> Option (List Span)) (v8:(List Int)×wQ×(List Span)×(List Span)×Int×(List Span)×(List Span)×Int):Option (List Span):=
 if (decide (v8.2.2.2.2.2.2.2<(v7.length:Int))) then
 (c8 v8.2.2.2.2.2.2.1 v8.2.2.2.2.2.2.2).bind fun v10=>
 (c8 v8.2.2.2.2.2.2.1 v8.2.2.2.2.2.2.2).bind fun v11=>
 d5 FU (a5y r9 v8) (v8.1,(⟨[]⟩:wQ),v8.2.2.1,v8.2.2.2.1,v8.2.2.2.2.1,v11,v11.From,v8.2.2.2.2.2.1,v8.2.2.2.2.2.2.1)
 else
 r4 (v8.1,(⟨[]⟩:wQ),v8.2.2.1,v8.2.2.2.1,v8.2.2.2.2.2.1,i64 (v3.2.2.2.2.2+1))
def a5u (v2:List Span) (r4:((List Int)×wQ×(List Span)×(List Span)×(List Span)×Int) -> Option (List Span)) (v3:(List Int)×wQ×(List Span)×(List Span)×(List Span)×Int):Option (List Span):=
 if (decide (v3.2.2.2.2.2<(v2.length:Int))) then
 (c8 v3.2.2.2.2.1 v3.2.2.2.2.2).bind fun v5=>
 (c8 v3.2.2.2.2.1 v3.2.2.2.2.2).bind fun v6=>
 (a0m v3.2.2.2.1 v6).bind fun v7=>
 d5 FU (a5s v7 r4 v3) (v3.1,(⟨[]⟩:wQ),v3.2.2.1,v3.2.2.2.1,3,v3.2.2.2.2.1,v7,0)
 else
 (a9g v3.2.2.1).bind fun v17=>
 some v17
def a2u (a0:List aQ):Option (List Span):=
 (a86 a0).bind fun v1=>
 (a7d a0).bind fun v2=>
 d5 FU (a5u v2) ([],(⟨[]⟩:wQ),[],v1,v2,0)
def a9m:Option Bool:=
 (a2u [(⟨0,1,1,false,1,8,0,(⟨100,110⟩:Span),0,0,0,0,0⟩:aQ)]).bind fun v1=>
 (if ((v1.length:Int)==1) then (c8 v1 0).bind fun v2=>
 (c8 v1 0).bind fun v3=>
 some ((v3.From==103)&&((v3.To==110)&&(true))) else some false).bind fun v4=>
 if v4 then
 (a86 [(⟨0,1,1,false,1,8,0,(⟨100,110⟩:Span),0,0,0,0,0⟩:aQ)]).bind fun v5=>
 if ((v5.length:Int)==1) then
 (a7d [(⟨0,1,1,false,1,8,0,(⟨100,110⟩:Span),0,0,0,0,0⟩:aQ)]).bind fun v6=>
 some ((v6.length:Int)==1)
 else
 some false
 else
 some false
def a3h (a0:Int):Option Bool:=
 (if (decide (a0 >= 0)) then some (decide (a0 <= 2399)) else some false).bind fun v1=>
 some v1
def b49 (a0:Int):Option Bool:=
 (b7d a0 4).bind fun v1=>
 (if (v1==0) then (b7d a0 100).bind fun v2=>
 some (v2 != 0) else some false).bind fun v3=>
 (if v3 then some true else (b7d a0 400).bind fun v4=>
 some (v4==0)).bind fun v5=>
 some v5
def a0f (a0:Int) (a1:Int):Option Int:=
 (if (a1==2) then (b49 a0).bind fun v1=>
 some v1 else some false).bind fun v2=>
 if v2 then
 some 29
 else
 (c8 (⟨[31,28,31,30,31,30,31,31,30,31,30,31],rfl⟩:Ar 12 Int).l (i64 (a1-1))).bind fun v3=>
 (c8 (⟨[31,28,31,30,31,30,31,31,30,31,30,31],rfl⟩:Ar 12 Int).l (i64 (a1-1))).bind fun v4=>
 some v4
def a4d (a0:Int):Option Int:=
 if (decide ((i64 (a0-1900))>0)) then
 (c0i (i64 ((i64 (a0-1900))-1)) 4).bind fun v1=>
 some (i64 ((i64 (365*(i64 (a0-1900))))+v1))
 else
 some (i64 (365*(i64 (a0-1900))))
def b2o (a1:Int) (a0:Int) (r9:(Int×Int) -> Option (Int×Bool)) (v8:Int×Int):Option (Int×Bool):=
 if (decide (v8.2<a1)) then
 (a0f a0 v8.2).bind fun v10=>
 r9 (i64 (v8.1+v10),i64 (v8.2+1))
 else
 some (v8.1,true)
def a9i (a0:Int) (a1:Int) (a2:Int):Option (Int×Bool):=
 (if (decide (a0<1900)) then some true else some (decide (a0>2099))).bind fun v1=>
 (if v1 then some true else some (decide (a1<1))).bind fun v2=>
 (if v2 then some true else some (decide (a1>12))).bind fun v3=>
 (if v3 then some true else some (decide (a2<1))).bind fun v4=>
 (if v4 then some true else (a0f a0 a1).bind fun v5=>
 some (decide (a2>v5))).bind fun v6=>
 if v6 then
 some (0,false)
 else
 (a4d a0).bind fun v7=>
 d5 FU (b2o a1 a0) (i64 ((i64 (v7+a2))-1),1)
def a5x (a0:Int):Option (Int×Bool):=
 (a3h a0).bind fun v1=>
 if (!v1) then
 some (0,false)
 else
 (c0i a0 12).bind fun v2=>
 (b7d a0 12).bind fun v3=>
 (a9i (i64 (1900+v2)) (i64 (v3+1)) 1).bind fun v4=>
 some (v4.1,v4.2)
def a9z (a0:Int):Option Int:=
 (a3h a0).bind fun v1=>
 if (!v1) then
 some 0
 else
 (c0i a0 12).bind fun v2=>
 (b7d a0 12).bind fun v3=>
 (a0f (i64 (1900+v2)) (i64 (v3+1))).bind fun v4=>
 some v4
def a6h (a0:Int):Option (Span×Bool):=
 (a5x a0).bind fun v1=>
 (a9z a0).bind fun v2=>
 some ((⟨v1.1,i64 (v1.1+v2)⟩:Span),v1.2)
def a1h (a0:List aQ) (r2:((List aQ)×Int) -> Option (List aQ)) (v1:(List aQ)×Int):Option (List aQ):=
 if (decide (v1.2<(a0.length:Int))) then
 (c8 a0 v1.2).bind fun v3=>
 (a4s v3).bind fun v4=>
 if v4 then
 (a4t 112 v1.1 [v3]).bind fun v5=>
 r2 (v5,i64 (v1.2+1))
 else
 r2 (v1.1,i64 (v1.2+1))
 else
 some v1.1
def a2g (a0:List aQ):Option (List aQ):=
 d5 FU (a1h a0) ([],0)
def a6j (a0:List aQ):Option (List aQ):=
 (a2g a0).bind fun v1=>
 some v1
def a8u (a0:Int):Option Bool:=
 some (a0 != a0)
def a19 (a0:Int) (a1:Int):Option Int:=
 (a8u a0).bind fun v1=>
 (a8u a1).bind fun v2=>
 if v1 then
 if v2 then
 some 0
 else
 some (-1:Int)
 else
 if v2 then
 some 1
 else
 if (decide (a0<a1)) then
 some (-1:Int)
 else
 if (decide (a0>a1)) then
 some 1
 else
 some 0
def b1t (a0:List Int) (r2:Int -> Option Int) (v1:Int):Option Int:=
 if (decide (v1<(a0.length:Int))) then
 (c8 a0 v1).bind fun v3=>
 if (v3 != 0) then
 some v3
 else
 r2 (i64 (v1+1))
 else
 some 0
def b2c (a0:List Int):Option Int:=
 d5 FU (b1t a0) 0
def a02 (a0:Posting) (a1:Posting):Option Int:=
 (a19 a0.Span.From a1.Span.From).bind fun v1=>
 (a19 a0.Seat a1.Seat).bind fun v2=>
 (a19 a0.State a1.State).bind fun v3=>
 (b2c [v1,v2,v3]).bind fun v4=>
 some v4
def a0q (a1:Int) (r2:((List Posting)×Int) -> Option (List Posting)) (v1:(List Posting)×Int) (r4:((List Posting)×Int) -> Option (List Posting)) (v3:(List Posting)×Int):Option (List Posting):=
 (if (decide (v3.2>a1)) then (c8 v3.1 v3.2).bind fun v5=>
 (c8 v3.1 v3.2).bind fun v6=>
 (c8 v3.1 (i64 (v3.2-1))).bind fun v7=>
 (c8 v3.1 (i64 (v3.2-1))).bind fun v8=>
 (a02 v6 v8).bind fun v9=>
 some (decide (v9<0)) else some false).bind fun v10=>
 if v10 then
 (c8 v3.1 (i64 (v3.2-1))).bind fun v11=>
 (c8 v3.1 (i64 (v3.2-1))).bind fun v12=>
 (c8 v3.1 v3.2).bind fun v13=>
 (c8 v3.1 v3.2).bind fun v14=>
 (c8 v3.1 v3.2).bind fun v15=>
 (c8 v3.1 v3.2).bind fun v16=>
 (c8 (b0i v3.1 v3.2 v12) (i64 (v3.2-1))).bind fun v17=>
 (c8 (b0i v3.1 v3.2 v12) (i64 (v3.2-1))).bind fun v18=>
 r4 (b0i (b0i v3.1 v3.2 v12) (i64 (v3.2-1)) v14,i64 (v3.2-1))
 else
 r2 (v3.1,i64 (v1.2+1))
def a0o (a2:Int) (a1:Int) (r2:((List Posting)×Int) -> Option (List Posting)) (v1:(List Posting)×Int):Option (List Posting):=
 if (decide (v1.2<a2)) then
 d5 FU (a0q a1 r2 v1) (v1.1,v1.2)
 else
 some v1.1
def k9 (a0:List Posting) (a1:Int) (a2:Int):Option (List Posting):=
 d5 FU (a0o a2 a1) (a0,i64 (a1+1))
structure oQ where
 f_slices_pdqsortCmpFunc_of_api_Posting:(List Posting) -> Int -> Int -> Int -> Option (List Posting)
def a1g (R:oQ) (v4:(List Posting)×Int×Int×Int×Unit×Bool×Bool×Int):Option (List Posting):=
 none
def g8 (R:oQ) (r2:((List Posting)×Int×Int×Int×Bool×Bool) -> Option (List Posting)) (v1:(List Posting)×Int×Int×Int×Bool×Bool):Option (List Posting):=
 if (decide ((i64 (v1.2.2.1-v1.2.1)) <= 12)) then
 (k9 v1.1 v1.2.1 v1.2.2.1).bind fun v3=>
 some v3
 else
 if (v1.2.2.2.1==0) then
 none
 else
 if (!v1.2.2.2.2.1) then
 none
 else
 joinC (a1g R) (v1.1,v1.2.1,v1.2.2.1,v1.2.2.2.1,(),v1.2.2.2.2.1,v1.2.2.2.2.2,i64 (v1.2.2.1-v1.2.1))
def g9 (R:oQ) (a0:List Posting) (a1:Int) (a2:Int) (a3:Int):Option (List Posting):=
 d5 FU (g8 R) (a0,a1,a2,a3,true,true)
def c3:Nat -> oQ
 | 0=>⟨fun _ _ _ _=>none⟩
 | n+1=>⟨g9 (c3 n)⟩
def s7 (a0:List Posting) (a1:Int) (a2:Int) (a3:Int):Option (List Posting):=(c3 FU).f_slices_pdqsortCmpFunc_of_api_Posting a0 a1 a2 a3
def c9 (a0:List Posting):Option (List Posting):=
 (c0w (u64 ((a0.length:Int)))).bind fun v1=>
 (s7 a0 0 (a0.length:Int) v1).bind fun v2=>
 some v2
def b35 (L:List ((Int×Int)×List Span)) (f:aQ):List ((Int×Int)×List Span):=if f.Kind=4 then e5n L (f.Seat,f.State) f.Span else L
def b1j (l:List aQ):List ((Int×Int)×List Span) -> List Posting -> Option (List Posting)
 | [],out=>some out
 | q::M,out=>Option.bind (a2s l) fun s=>Option.bind (a0m q.2 s) fun c=>if out.length+c.length <= 100000 then b1j l M (out++c.map fun x=>⟨q.1.1,q.1.2,x⟩) else none
noncomputable def competence_Postings (a0:List aQ):Option (List Posting):=Option.bind (a6j a0) fun cur=>if cur.length <= 1000 /\ (cur.all fun f=>b8x f.Seat&&b8x f.State)=true then allP (fun M=>M.Perm (cur.foldl b35 [])) (fun M=>Option.bind (b1j a0 M []) fun out=>c9 out) else none
def a34 (a0:Int):Option Bool:=
 (if (decide (a0 >= 0)) then some (decide (a0 <= 73048)) else some false).bind fun v1=>
 some v1
def a5l (a0:Int) (a1:Int):Option Bool:=
 (if (decide (a0 >= 0)) then some (decide (a0 <= a1)) else some false).bind fun v1=>
 some v1
def a9k (a0:Rules) (r9:(Rules×Int) -> Option Bool) (v8:Rules×Int):Option Bool:=
 if (decide (v8.2<(a0.Members.length:Int))) then
 (c8 a0.Members v8.2).bind fun v10=>
 (a5l v10 5).bind fun v11=>
 (if (!v11) then some true else (if (decide (v8.2>0)) then (c8 v8.1.Members (i64 (v8.2-1))).bind fun v12=>
 some (decide (v10 <= v12)) else some false).bind fun v13=>
 some v13).bind fun v14=>
 if v14 then
 some false
 else
 r9 (v8.1,i64 (v8.2+1))
 else
 some true
def a4l (a0:Rules):Option Bool:=
 (a34 a0.From).bind fun v1=>
 (if (!v1) then some true else (a5l a0.MinDays 73049).bind fun v2=>
 some (!v2)).bind fun v3=>
 (if v3 then some true else (a5l a0.PostingLimit 73049).bind fun v4=>
 some (!v4)).bind fun v5=>
 (if v5 then some true else (a5l a0.Substantial 100).bind fun v6=>
 some (!v6)).bind fun v7=>
 if v7 then
 some false
 else
 d5 FU (a9k a0) (a0,0)
def b08 (a0:List Rules) (r4:Int -> Option Int) (v3:Int):Option Int:=
 if (decide (v3<(a0.length:Int))) then
 (c8 a0 v3).bind fun v5=>
 (a4l v5).bind fun v6=>
 (if (!v6) then some true else (if (decide (v3>0)) then (c8 a0 (i64 (v3-1))).bind fun v7=>
 some (decide (v5.From <= v7.From)) else some false).bind fun v8=>
 some v8).bind fun v9=>
 if v9 then
 some 1
 else
 r4 (i64 (v3+1))
 else
 some 0
def a9e (a0:List Rules):Option Int:=
 if (decide ((a0.length:Int)>8)) then
 some 7
 else
 (if ((a0.length:Int)==0) then some true else (c8 a0 0).bind fun v1=>
 some (v1.From != 0)).bind fun v2=>
 if v2 then
 some 1
 else
 d5 FU (b08 a0) 0
noncomputable def b01 (a0:List aQ) (a1:List Rules):Option (lQ×Bool):=
 (a6j a0).bind fun v1=>
 (a2s a0).bind fun v2=>
 (competence_Postings a0).bind fun v3=>
 (a9e a1).bind fun v4=>
 some ((⟨v1,v2,v3,a1⟩:lQ),v4==0)
def b3j (a0:List Rules) (r3:((Int×Rules×Bool)×Int) -> Option (Rules×Bool)) (v2:(Int×Rules×Bool)×Int):Option (Rules×Bool):=
 if decide (v2.2<0) then
 some ((⟨0,0,0,0,[]⟩:Rules),false)
 else
 (c8 a0 v2.2).bind fun v4=>
 if (decide (v4.From <= v2.1.1)) then
 (a61 v4.Members).bind fun v5=>
 some ((v2.1.1,(⟨v4.From,v4.MinDays,v4.PostingLimit,v4.Substantial,v5⟩:Rules),true).2.1,(v2.1.1,(⟨v4.From,v4.MinDays,v4.PostingLimit,v4.Substantial,v5⟩:Rules),true).2.2)
 else
 r3 ((v2.1.1,v2.1.2.1,v2.1.2.2),v2.2-1)
def b3y (a0:List Rules) (a1:Int):Option (Rules×Bool):=
 (a34 a1).bind fun v1=>
 if (!v1) then
 some ((⟨0,0,0,0,[]⟩:Rules),false)
 else
 d5 FU (b3j a0) ((a1,(⟨0,0,0,0,[]⟩:Rules),false),(a0.length:Int)-1)
def a3a (a0:Span) (a1:Int):Option Bool:=
 (if (decide (a0.From <= a1)) then some (decide (a1<a0.To)) else some false).bind fun v1=>
 some v1
def a1m (a0:lQ) (a1:Int) (a2:Int) (r2:Int -> Option (Int×Bool)) (v1:Int):Option (Int×Bool):=
 if (decide (v1<(a0.postings.length:Int))) then
 (c8 a0.postings v1).bind fun v3=>
 (a3a v3.Span a1).bind fun v4=>
 (if v4 then some (decide (a1<(i64 (v3.Span.From+a2)))) else some false).bind fun v5=>
 if v5 then
 some (v3.Seat,true)
 else
 r2 (i64 (v1+1))
 else
 some (0,false)
def a31 (a0:lQ) (a1:Int) (a2:Int):Option (Int×Bool):=
 d5 FU (a1m a0 a1 a2) 0
def a40 (a0:List Int) (a1:Int) (r2:Int -> Option Int) (v1:Int):Option Int:=
 if (decide (v1<(a0.length:Int))) then
 (c8 a0 v1).bind fun v3=>
 if (a1==v3) then
 some v1
 else
 r2 (i64 (v1+1))
 else
 some (-1:Int)
def a94 (a0:List Int) (a1:Int):Option Int:=
 d5 FU (a40 a0 a1) 0
def a1r (a0:List Int) (a1:Int):Option Bool:=
 (a94 a0 a1).bind fun v1=>
 some (decide (v1 >= 0))
def a7c (a0:lQ) (a2:List Int) (a1:Int) (r2:((List aQ)×Int) -> Option (List aQ)) (v1:(List aQ)×Int):Option (List aQ):=
 if (decide (v1.2<(a0.facts.length:Int))) then
 (c8 a0.facts v1.2).bind fun v3=>
 (a1r a2 v3.Kind).bind fun v4=>
 (if v4 then (a3a v3.Span a1).bind fun v5=>
 some v5 else some false).bind fun v6=>
 if v6 then
 (a4t 112 v1.1 [v3]).bind fun v7=>
 r2 (v7,i64 (v1.2+1))
 else
 r2 (v1.1,i64 (v1.2+1))
 else
 some v1.1
def a1a (a0:lQ) (a1:Int) (a2:List Int):Option (List aQ):=
 d5 FU (a7c a0 a2 a1) ([],0)
def a2p (v1:List aQ) (r3:(aQ×Bool×(List aQ)×Int) -> Option (Int×Bool)) (v2:aQ×Bool×(List aQ)×Int):Option (Int×Bool):=
 if (decide (v2.2.2.2<(v1.length:Int))) then
 (c8 v2.2.2.1 v2.2.2.2).bind fun v4=>
 (c8 v2.2.2.1 v2.2.2.2).bind fun v5=>
 (if (!v2.2.1) then some true else some (decide (v5.Share>v2.1.Share))).bind fun v6=>
 (if v6 then some true else (if (v5.Share==v2.1.Share) then some (decide (v5.State<v2.1.State)) else some false).bind fun v7=>
 some v7).bind fun v8=>
 if v8 then
 r3 (v5,true,v2.2.2.1,i64 (v2.2.2.2+1))
 else
 r3 (v2.1,v2.2.1,v2.2.2.1,i64 (v2.2.2.2+1))
 else
 some (v2.1.State,v2.2.1)
def a48 (a0:lQ) (a1:Int):Option (Int×Bool):=
 (a1a a0 a1 [3]).bind fun v1=>
 d5 FU (a2p v1) ((⟨0,0,0,false,0,0,0,(⟨0,0⟩:Span),0,0,0,0,0⟩:aQ),false,v1,0)
def b1s (a0:Span) (a1:Int):Option Bool:=
 (if (decide (a0.From <= a1)) then some (decide (a1<a0.To)) else some false).bind fun v1=>
 some v1
def l8 (a0:List Span) (a1_0:Int) (r2:Int -> Option Int) (v1:Int):Option Int:=
 if (decide (v1<(a0.length:Int))) then
 (c8 a0 v1).bind fun v3=>
 (b1s v3 a1_0).bind fun v4=>
 if v4 then
 some v1
 else
 r2 (i64 (v1+1))
 else
 some (-1:Int)
def s6 (a0:List Span) (a1_0:Int):Option Int:=
 d5 FU (l8 a0 a1_0) 0
def p8 (a0:List Span) (a1_0:Int):Option Bool:=
 (s6 a0 a1_0).bind fun v1=>
 some (decide (v1 >= 0))
def b17 (a0:List Span) (a1:Int):Option Bool:=
 (if (decide (a1<0)) then some true else some (decide (a1 >= 73049))).bind fun v1=>
 if v1 then
 some false
 else
 (p8 a0 a1).bind fun v2=>
 some v2
def a3r (a0:List aQ) (a1:Int) (r5:(aQ×Bool×Int) -> Option (Int×Bool)) (v4:aQ×Bool×Int):Option (Int×Bool):=
 if (decide (v4.2.2<(a0.length:Int))) then
 (c8 a0 v4.2.2).bind fun v6=>
 (a4s v6).bind fun v7=>
 (if (!v7) then some true else some (v6.Kind != 5)).bind fun v8=>
 (if v8 then some true else some (decide (a1<v6.Span.From))).bind fun v9=>
 (if v9 then some true else some (decide (a1 >= v6.Span.To))).bind fun v10=>
 if v10 then
 r5 (v4.1,v4.2.1,i64 (v4.2.2+1))
 else
 (if (!v4.2.1) then some true else some (decide (v6.Span.From>v4.1.Span.From))).bind fun v11=>
 (if v11 then some true else (if (v6.Span.From==v4.1.Span.From) then some (decide (v6.State<v4.1.State)) else some false).bind fun v12=>
 some v12).bind fun v13=>
 if v13 then
 r5 (v6,true,i64 (v4.2.2+1))
 else
 r5 (v4.1,v4.2.1,i64 (v4.2.2+1))
 else
 some (v4.1.State,v4.2.1)
def a6d (a0:List aQ) (a1:Int):Option (Int×Bool):=
 (a34 a1).bind fun v1=>
 if (!v1) then
 some (0,false)
 else
 (a2s a0).bind fun v2=>
 (b17 [v2] a1).bind fun v3=>
 if (!v3) then
 some (0,false)
 else
 d5 FU (a3r a0 a1) ((⟨0,0,0,false,0,0,0,(⟨0,0⟩:Span),0,0,0,0,0⟩:aQ),false,0)
def a0w (r9:((List Int)×Int×Int×(Int×Nat)) -> Option (List Int)) (v8:(List Int)×Int×Int×(Int×Nat)):Option (List Int):=
 if (decide (v8.2.2.1<(v8.2.2.2.2:Int))) then
 (c0h v8.1 v8.2.2.2.1 v8.2.2.1).bind fun v10=>
 (c8 v8.1 (v8.2.2.2.1+v8.2.2.1)).bind fun v11=>
 (c0h v8.1 v8.2.2.2.1 (i64 (v8.2.2.1-1))).bind fun v12=>
 (c8 v8.1 (v8.2.2.2.1+(i64 (v8.2.2.1-1)))).bind fun v13=>
 if (v11 != v13) then
 (c0h v8.1 v8.2.2.2.1 v8.2.2.1).bind fun v14=>
 (c8 v8.1 (v8.2.2.2.1+v8.2.2.1)).bind fun v15=>
 (c8 v8.1 v8.2.1).bind fun v16=>
 (c8 v8.1 v8.2.1).bind fun v17=>
 r9 (b0i v8.1 v8.2.1 v15,i64 (v8.2.1+1),i64 (v8.2.2.1+1),(v8.2.2.2.1,v8.2.2.2.2))
 else
 r9 (v8.1,v8.2.1,i64 (v8.2.2.1+1),(v8.2.2.2.1,v8.2.2.2.2))
 else
 (a0j v8.1 v8.2.1 (v8.1.length:Int)).bind fun v18=>
 (f2g 0 v8.1 v8.2.1 v18.length).bind fun v19=>
 (a0j v19 0 v8.2.1).bind fun v20=>
 some v20
def y8 (r2:((List Int)×Int) -> Option (List Int)) (v1:(List Int)×Int):Option (List Int):=
 if (decide (v1.2<(v1.1.length:Int))) then
 (c8 v1.1 v1.2).bind fun v3=>
 (c8 v1.1 v1.2).bind fun v4=>
 (c8 v1.1 (i64 (v1.2-1))).bind fun v5=>
 (c8 v1.1 (i64 (v1.2-1))).bind fun v6=>
 if (v4==v6) then
 (a0j v1.1 v1.2 (v1.1.length:Int)).bind fun v7=>
 d5 FU a0w (v1.1,v1.2,1,(v1.2,v7.length))
 else
 r2 (v1.1,i64 (v1.2+1))
 else
 some v1.1
def a4f (a0:List Int):Option (List Int):=
 if (decide ((a0.length:Int)<2)) then
 some a0
 else
 d5 FU y8 (a0,1)
def a62 (a0:List aQ) (r2:((List Int)×Int) -> Option (List Int)) (v1:(List Int)×Int):Option (List Int):=
 if (decide (v1.2<(a0.length:Int))) then
 (c8 a0 v1.2).bind fun v3=>
 (a4t 8 v1.1 [v3.Seat]).bind fun v4=>
 r2 (v4,i64 (v1.2+1))
 else
 (c88 v1.1).bind fun v5=>
 (a4f v5).bind fun v6=>
 some v6
def a8n (a0:List aQ):Option (List Int):=
 d5 FU (a62 a0) ([],0)
def a06 (v6:List Int) (r26:((List (Int×Int))×Int×(List Int)×Int) -> Option (Int×Bool)) (v25:(List (Int×Int))×Int×(List Int)×Int):Option (Int×Bool):=
 if (decide (v25.2.2.2<((List.map (fun x=>x) v6).length:Int))) then
 (c8 v25.2.2.1 v25.2.2.2).bind fun v27=>
 (c8 v25.2.2.1 v25.2.2.2).bind fun v28=>
 if (decide ((b3x v25.1 v28)>(b3x v25.1 v25.2.1))) then
 r26 (v25.1,v28,v25.2.2.1,i64 (v25.2.2.2+1))
 else
 r26 (v25.1,v25.2.1,v25.2.2.1,i64 (v25.2.2.2+1))
 else
 some (v25.2.1,true)
def a1b (v1:List aQ) (a1:Int) (a2:Int) (r3:(lQ×(List (Int×Int))×Int×(List aQ)×Int) -> Option (Int×Bool)) (v2:lQ×(List (Int×Int))×Int×(List aQ)×Int):Option (Int×Bool):=
 if (decide (v2.2.2.2.2<(v1.length:Int))) then
 (c8 v2.2.2.2.1 v2.2.2.2.2).bind fun v4=>
 (c8 v2.2.2.2.1 v2.2.2.2.2).bind fun v5=>
 r3 (v2.1,a9f v2.2.1 v5.State (i64 ((b3x v2.2.1 v5.State)+v5.Share)),i64 (v2.2.2.1+v5.Share),v2.2.2.2.1,i64 (v2.2.2.2.2+1))
 else
 (c83 v2.2.1).bind fun v6=>
 if (((List.map (fun x=>x) v6).length:Int)==0) then
 some (0,false)
 else
 if (((List.map (fun x=>x) v6).length:Int)==1) then
 (c8 (List.map (fun x=>x) v6) 0).bind fun v7=>
 (c8 (List.map (fun x=>x) v6) 0).bind fun v8=>
 some (v8,true)
 else
 (a6d v2.1.facts a1).bind fun v9=>
 (if v9.2 then some (c38 v2.2.1 v9.1) else some false).bind fun v10=>
 (if v10 then some (decide ((i64 (100*(b3x v2.2.1 v9.1))) >= (i64 (a2*v2.2.2.1)))) else some false).bind fun v11=>
 if v11 then
 some (v9.1,true)
 else
 (a1a v2.1 a1 [1]).bind fun v12=>
 (a8n v12).bind fun v13=>
 if ((v13.length:Int)==1) then
 (c8 v13 0).bind fun v14=>
 (c8 v13 0).bind fun v15=>
 some (v15,true)
 else
 (if v9.2 then some ((v13.length:Int)==2) else some false).bind fun v16=>
 (if v16 then (a1r v13 v9.1).bind fun v17=>
 some v17 else some false).bind fun v18=>
 if v18 then
 (c8 v13 0).bind fun v19=>
 (c8 v13 0).bind fun v20=>
 (c8 v13 1).bind fun v21=>
 (c8 v13 1).bind fun v22=>
 some (i64 ((i64 (v20+v22))-v9.1),true)
 else
 if v9.2 then
 some (v9.1,true)
 else
 (c8 (List.map (fun x=>x) v6) 0).bind fun v23=>
 (c8 (List.map (fun x=>x) v6) 0).bind fun v24=>
 d5 FU (a06 v6) (v2.2.1,v24,(List.map (fun x=>x) v6),0)
def a2o (a0:lQ) (a1:Int) (a2:Int):Option (Int×Bool):=
 (a1a a0 a1 [1,2]).bind fun v1=>
 d5 FU (a1b v1 a1 a2) (a0,[],0,v1,0)
def a4r (a0:aQ) (a1:aQ):Option Int:=
 (a19 a0.State a1.State).bind fun v1=>
 some v1
def s8 (v1:(List aQ)×Unit×aQ) (r4:(aQ×aQ×Int) -> Option aQ) (v3:aQ×aQ×Int):Option aQ:=
 if (decide (v3.2.2<(v1.1.length:Int))) then
 (c8 v1.1 v3.2.2).bind fun v5=>
 (a4r v5 v3.2.1).bind fun v6=>
 if (decide (v6<0)) then
 (c8 v1.1 v3.2.2).bind fun v7=>
 r4 (v3.1,v7,i64 (v3.2.2+1))
 else
 r4 (v3.1,v3.2.1,i64 (v3.2.2+1))
 else
 some v3.2.1
def t6 (v1:(List aQ)×Unit×aQ):Option aQ:=
 (c8 v1.1 0).bind fun v2=>
 d5 FU (s8 v1) (v1.2.2,v2,1)
def j6 (a0:List aQ):Option aQ:=
 if (decide ((a0.length:Int)<1)) then
 none
 else
 joinC t6 (a0,(),(⟨0,0,0,false,0,0,0,(⟨0,0⟩:Span),0,0,0,0,0⟩:aQ))
def a30 (a0:lQ) (a1:Int):Option (Int×Bool):=
 (a1a a0 a1 [7,8]).bind fun v1=>
 if ((v1.length:Int)==0) then
 some (0,false)
 else
 (j6 v1).bind fun v2=>
 some (v2.State,true)
def a5t (a0:lQ) (a1:Int):Option (Int×Int):=
 (b3y a0.rules a1).bind fun v1=>
 (if (!v1.2) then some true else (a3a a0.span a1).bind fun v2=>
 some (!v2)).bind fun v3=>
 if v3 then
 some ((-1:Int),0)
 else
 (a31 a0 a1 v1.1.PostingLimit).bind fun v4=>
 if v4.2 then
 some (v4.1,1)
 else
 (a48 a0 a1).bind fun v5=>
 if v5.2 then
 some (v5.1,2)
 else
 (a2o a0 a1 v1.1.Substantial).bind fun v6=>
 if v6.2 then
 some (v6.1,3)
 else
 (a30 a0 a1).bind fun v7=>
 if v7.2 then
 some (v7.1,4)
 else
 (a6d a0.facts a1).bind fun v8=>
 if v8.2 then
 some (v8.1,5)
 else
 some ((-1:Int),0)
noncomputable def a85 (a0:List aQ) (a1:List Rules) (a2:Int):Option (Int×Int):=
 (b01 a0 a1).bind fun v1=>
 if (!v1.2) then
 some ((-1:Int),0)
 else
 (a5t v1.1 a2).bind fun v2=>
 some (v2.1,v2.2)
noncomputable def a8t (a1:List aQ) (a2:Int) (r5:(Laws×Int×(List Span)×Int) -> Option Int) (v4:Laws×Int×(List Span)×Int) (r9:(Laws×Int×Span×Int×(List Span)) -> Option Int) (v8:Laws×Int×Span×Int×(List Span)):Option Int:=
 if (decide (v8.2.2.2.1<v8.2.2.1.To)) then
 (a85 a1 v8.1.Treaty v8.2.2.2.1).bind fun v10=>
 (if (v10.2 != 0) then some (v10.1==a2) else some false).bind fun v11=>
 if v11 then
 r9 (v8.1,i64 (v8.2.1+1),v8.2.2.1,i64 (v8.2.2.2.1+1),v8.2.2.2.2)
 else
 r9 (v8.1,v8.2.1,v8.2.2.1,i64 (v8.2.2.2.1+1),v8.2.2.2.2)
 else
 r5 (v8.1,v8.2.1,v8.2.2.2.2,i64 (v4.2.2.2+1))
noncomputable def a8r (v3:List Span) (a1:List aQ) (a2:Int) (r5:(Laws×Int×(List Span)×Int) -> Option Int) (v4:Laws×Int×(List Span)×Int):Option Int:=
 if (decide (v4.2.2.2<(v3.length:Int))) then
 (c8 v4.2.2.1 v4.2.2.2).bind fun v6=>
 (c8 v4.2.2.1 v4.2.2.2).bind fun v7=>
 d5 FU (a8t a1 a2 r5 v4) (v4.1,v4.2.1,v7,v7.From,v4.2.2.1)
 else
 some v4.2.1
noncomputable def a9v (a0:Laws) (a1:List aQ) (a2:Int) (a3:Int):Option Int:=
 (a6h a3).bind fun v1=>
 if (!v1.2) then
 some 0
 else
 (a2u a1).bind fun v2=>
 (a0m v2 v1.1).bind fun v3=>
 d5 FU (a8r v3 a1 a2) (a0,0,v3,0)
def a2f (a0:Int):Option Int:=
 (a3y a0).bind fun v1=>
 if (!v1) then
 some 0
 else
 (c0i a0 12).bind fun v2=>
 (b7d a0 12).bind fun v3=>
 (y7 (i64 (1900+v2)) (i64 (v3+1))).bind fun v4=>
 some v4
def a92 (a0:Span):Option (Span×Bool):=
 some ((⟨max a0.From 0,min a0.To 73049⟩:Span),decide ((max a0.From 0)<(min a0.To 73049)))
def a6o (a0:List Int) (a1:Int) (r2:Int -> Option (List Int)) (v1:Int):Option (List Int):=
 (if (decide (v1>0)) then (c8 a0 (i64 (v1-1))).bind fun v3=>
 some (decide (v3 >= a1)) else some false).bind fun v4=>
 if v4 then
 r2 (i64 (v1-1))
 else
 (if (decide (v1<(a0.length:Int))) then (c8 a0 v1).bind fun v5=>
 some (v5==a1) else some false).bind fun v6=>
 if v6 then
 some a0
 else
 (a0j a0 0 v1).bind fun v7=>
 (a4t 8 [] v7).bind fun v8=>
 (a4t 8 v8 [a1]).bind fun v9=>
 (a0j a0 v1 (a0.length:Int)).bind fun v10=>
 (a4t 8 v9 v10).bind fun v11=>
 some v11
def o9 (a0:List Int) (a1:Int):Option (List Int):=
 d5 FU (a6o a0 a1) (a0.length:Int)
def a50 (a0:List (List Span)) (v1:(List Int)×Int) (r2:((List Int)×Int) -> Option (List Int)) (r4:((List Int)×Int) -> Option (List Int)) (v3:(List Int)×Int):Option (List Int):=
 (c8 a0 v1.2).bind fun v5=>
 if (decide (v3.2<(v5.length:Int))) then
 (c8 a0 v1.2).bind fun v6=>
 (c8 v6 v3.2).bind fun v7=>
 (a92 v7).bind fun v8=>
 if v8.2 then
 (o9 v3.1 v8.1.From).bind fun v9=>
 (o9 v9 v8.1.To).bind fun v10=>
 r4 (v10,i64 (v3.2+1))
 else
 r4 (v3.1,i64 (v3.2+1))
 else
 r2 (v3.1,i64 (v1.2+1))
def a59 (a0:List (List Span)) (r2:((List Int)×Int) -> Option (List Int)) (v1:(List Int)×Int):Option (List Int):=
 if (decide (v1.2<(a0.length:Int))) then
 d5 FU (a50 a0 v1 r2) (v1.1,0)
 else
 some v1.1
def a7p (a0:List (List Span)):Option (List Int):=
 d5 FU (a59 a0) ([],0)
def a2z (a0:List Span) (a1:Int) (r2:Int -> Option Bool) (v1:Int):Option Bool:=
 if (decide (v1<(a0.length:Int))) then
 (c8 a0 v1).bind fun v3=>
 (if (decide (a1 >= v3.From)) then (c8 a0 v1).bind fun v4=>
 some (decide (a1<v4.To)) else some false).bind fun v5=>
 (if v5 then (e7 a1).bind fun v6=>
 some v6 else some false).bind fun v7=>
 if v7 then
 some true
 else
 r2 (i64 (v1+1))
 else
 some false
def a2w (a0:List Span) (a1:Int):Option Bool:=
 d5 FU (a2z a0 a1) 0
def b07 (a0:List Span) (a1:Span):Option (List Span):=
 (if (decide ((a0.length:Int)>0)) then (c8 a0 (i64 ((a0.length:Int)-1))).bind fun v1=>
 some (v1.To==a1.From) else some false).bind fun v2=>
 if v2 then
 (a4t 16 [] a0).bind fun v3=>
 (c8 v3 (i64 ((a0.length:Int)-1))).bind fun v4=>
 (c8 v3 (i64 ((a0.length:Int)-1))).bind fun v5=>
 some (b0i v3 (i64 ((a0.length:Int)-1)) (⟨v5.From,a1.To⟩:Span))
 else
 (a4t 16 [] a0).bind fun v6=>
 (a4t 16 v6 [a1]).bind fun v7=>
 some v7
def a6m (v1:List Int) (a0:List Span) (a1:List Span) (a2:Int) (r3:((List Span)×Int) -> Option (List Span)) (v2:(List Span)×Int):Option (List Span):=
 if (decide ((i64 (v2.2+1))<(v1.length:Int))) then
 (c8 v1 v2.2).bind fun v4=>
 (a2w a0 v4).bind fun v5=>
 (c8 v1 v2.2).bind fun v6=>
 (a2w a1 v6).bind fun v7=>
 (if (a2==1) then some v5 else some false).bind fun v8=>
 (if v8 then some v7 else some false).bind fun v9=>
 (if v9 then some true else (if (a2==2) then (if v5 then some true else some v7).bind fun v10=>
 some v10 else some false).bind fun v11=>
 some v11).bind fun v12=>
 (if v12 then some true else (if (a2==3) then some v5 else some false).bind fun v13=>
 (if v13 then some (!v7) else some false).bind fun v14=>
 some v14).bind fun v15=>
 if v15 then
 (c8 v1 v2.2).bind fun v16=>
 (c8 v1 (i64 (v2.2+1))).bind fun v17=>
 (b07 v2.1 (⟨v16,v17⟩:Span)).bind fun v18=>
 r3 (v18,i64 (v2.2+1))
 else
 r3 (v2.1,i64 (v2.2+1))
 else
 some v2.1
def a0v (a0:List Span) (a1:List Span) (a2:Int):Option (List Span):=
 (a7p [a0,a1]).bind fun v1=>
 d5 FU (a6m v1 a0 a1 a2) ([],0)
def a47 (a0:List Span) (a1:Span):Option (List Span):=
 (a0v a0 [a1] 1).bind fun v1=>
 some v1
def a7m (r4:Int -> Option Int) (v3:Int) (r17:(Rules×Int) -> Option Int) (v16:Rules×Int):Option Int:=
 if (decide (v16.2<(v16.1.Members.length:Int))) then
 (c8 v16.1.Members v16.2).bind fun v18=>
 (if (decide (v18<0)) then some true else (c8 v16.1.Members v16.2).bind fun v19=>
 some (decide (v19 >= 6))).bind fun v20=>
 (if v20 then some true else (if (decide (v16.2>0)) then (c8 v16.1.Members v16.2).bind fun v21=>
 (c8 v16.1.Members (i64 (v16.2-1))).bind fun v22=>
 some (decide (v21 <= v22)) else some false).bind fun v23=>
 some v23).bind fun v24=>
 if v24 then
 some 1
 else
 r17 (v16.1,i64 (v16.2+1))
 else
 r4 (i64 (v3+1))
def a4h (a0:List Rules) (r4:Int -> Option Int) (v3:Int):Option Int:=
 if (decide (v3<(a0.length:Int))) then
 (c8 a0 v3).bind fun v5=>
 (e7 v5.From).bind fun v6=>
 (if (!v6) then some true else (if (decide (v3>0)) then (c8 a0 (i64 (v3-1))).bind fun v7=>
 some (decide (v5.From <= v7.From)) else some false).bind fun v8=>
 some v8).bind fun v9=>
 (if v9 then some true else some (decide (v5.MinDays<0))).bind fun v10=>
 (if v10 then some true else some (decide (v5.MinDays>73049))).bind fun v11=>
 (if v11 then some true else some (decide (v5.PostingLimit<0))).bind fun v12=>
 (if v12 then some true else some (decide (v5.PostingLimit>73049))).bind fun v13=>
 (if v13 then some true else some (decide (v5.Substantial<0))).bind fun v14=>
 (if v14 then some true else some (decide (v5.Substantial>100))).bind fun v15=>
 if v15 then
 some 1
 else
 d5 FU (a7m r4 v3) (v5,0)
 else
 some 0
def a2h (a0:List Rules):Option Int:=
 if (decide ((a0.length:Int)>8)) then
 some 7
 else
 (if ((a0.length:Int)==0) then some true else (c8 a0 0).bind fun v1=>
 some (v1.From != 0)).bind fun v2=>
 if v2 then
 some 1
 else
 d5 FU (a4h a0) 0
def a5o (a0:List aQ) (r2:((List aQ)×Int) -> Option (List aQ)) (v1:(List aQ)×Int):Option (List aQ):=
 if (decide (v1.2<(a0.length:Int))) then
 (c8 a0 v1.2).bind fun v3=>
 (j8 v3).bind fun v4=>
 (if v4 then (c8 a0 v1.2).bind fun v5=>
 some (!v5.Withdrawn) else some false).bind fun v6=>
 if v6 then
 (c8 a0 v1.2).bind fun v7=>
 (a4t 112 v1.1 [v7]).bind fun v8=>
 r2 (v8,i64 (v1.2+1))
 else
 r2 (v1.1,i64 (v1.2+1))
 else
 some v1.1
def a0h (a0:List aQ):Option (List aQ):=
 d5 FU (a5o a0) ([],0)
def a4k (a1:Int) (r3:((List aQ)×Int×Bool×Int) -> Option (Int×Bool)) (v2:(List aQ)×Int×Bool×Int):Option (Int×Bool):=
 if (decide (v2.2.2.2<(v2.1.length:Int))) then
 (c8 v2.1 v2.2.2.2).bind fun v4=>
 (c8 v2.1 v2.2.2.2).bind fun v5=>
 (if (v5.Kind==a1) then (if (!v2.2.2.1) then some true else (c8 v2.1 v2.2.2.2).bind fun v6=>
 (c8 v2.1 v2.2.2.2).bind fun v7=>
 some (decide (v7.Span.From<v2.2.1))).bind fun v8=>
 some v8 else some false).bind fun v9=>
 if v9 then
 (c8 v2.1 v2.2.2.2).bind fun v10=>
 (c8 v2.1 v2.2.2.2).bind fun v11=>
 r3 (v2.1,v11.Span.From,true,i64 (v2.2.2.2+1))
 else
 r3 (v2.1,v2.2.1,v2.2.2.1,i64 (v2.2.2.2+1))
 else
 some (v2.2.1,v2.2.2.1)
def a4g (a0:List aQ) (a1:Int):Option (Int×Bool):=
 (a0h a0).bind fun v1=>
 d5 FU (a4k a1) (v1,0,false,0)
def a9x (a0:List aQ):Option (Int×Bool):=
 (a4g a0 11).bind fun v1=>
 some (v1.1,v1.2)
def a6u (a0:List aQ):Option (Int×Bool):=
 (a4g a0 12).bind fun v1=>
 some (v1.1,v1.2)
def a4w (v3:Span×Int×Int):Option Span:=
 if (decide (v3.2.2<v3.2.1)) then
 some (⟨0,0⟩:Span)
 else
 some (⟨v3.2.1,i64 (v3.2.2+1)⟩:Span)
def a3b (a0:List aQ):Option Span:=
 (a9x a0).bind fun v1=>
 (a6u a0).bind fun v2=>
 if (!v2.2) then
 joinC a4w ((⟨0,0⟩:Span),v1.1,73048)
 else
 joinC a4w ((⟨0,0⟩:Span),v1.1,v2.1)
def b0o (a0:List Posting) (r2:(Posting×Int) -> Option (List Posting)) (v1:Posting×Int):Option (List Posting):=
 (if (decide (v1.2>0)) then (c8 a0 (i64 (v1.2-1))).bind fun v3=>
 some (decide (v3.Span.From>v1.1.Span.From)) else some false).bind fun v4=>
 if v4 then
 r2 (v1.1,i64 (v1.2-1))
 else
 (a0j a0 0 v1.2).bind fun v5=>
 (a4t 32 [] v5).bind fun v6=>
 (a4t 32 v6 [v1.1]).bind fun v7=>
 (a0j a0 v1.2 (a0.length:Int)).bind fun v8=>
 (a4t 32 v7 v8).bind fun v9=>
 some v9
def a5p (a0:List Posting) (a1:Posting):Option (List Posting):=
 d5 FU (b0o a0) (a1,(a0.length:Int))
def a0x (v2:(List aQ)×(List Posting)×Int) (v4:(List aQ)×(List Posting)×Int) (r5:((List aQ)×(List Posting)×Int) -> Option (List Posting)) (r22:((List aQ)×(List Posting)×(List Span)×Int) -> Option (List Posting)) (v21:(List aQ)×(List Posting)×(List Span)×Int):Option (List Posting):=
 if (decide (v21.2.2.2<(v21.2.2.1.length:Int))) then
 (c8 v21.2.2.1 v21.2.2.2).bind fun v23=>
 (c8 v21.2.2.1 v21.2.2.2).bind fun v24=>
 (a5p v21.2.1 (⟨v2.2.2,v4.2.2,v24⟩:Posting)).bind fun v25=>
 r22 (v21.1,v25,v21.2.2.1,i64 (v21.2.2.2+1))
 else
 r5 (v21.1,v21.2.1,i64 (v4.2.2+1))
def a0y (v2:(List aQ)×(List Posting)×Int) (v4:(List aQ)×(List Posting)×Int) (a0:List aQ) (r5:((List aQ)×(List Posting)×Int) -> Option (List Posting)) (r7:((List aQ)×(List Posting)×(List Span)×Int) -> Option (List Posting)) (v6:(List aQ)×(List Posting)×(List Span)×Int):Option (List Posting):=
 if (decide (v6.2.2.2<(v6.1.length:Int))) then
 (c8 v6.1 v6.2.2.2).bind fun v8=>
 (c8 v6.1 v6.2.2.2).bind fun v9=>
 (if (v9.Kind==4) then (c8 v6.1 v6.2.2.2).bind fun v10=>
 (c8 v6.1 v6.2.2.2).bind fun v11=>
 some (v11.Seat==v2.2.2) else some false).bind fun v12=>
 (if v12 then (c8 v6.1 v6.2.2.2).bind fun v13=>
 (c8 v6.1 v6.2.2.2).bind fun v14=>
 some (v14.State==v4.2.2) else some false).bind fun v15=>
 if v15 then
 (c8 v6.1 v6.2.2.2).bind fun v16=>
 (c8 v6.1 v6.2.2.2).bind fun v17=>
 (a4t 16 v6.2.2.1 [v17.Span]).bind fun v18=>
 r7 (v6.1,v6.2.1,v18,i64 (v6.2.2.2+1))
 else
 r7 (v6.1,v6.2.1,v6.2.2.1,i64 (v6.2.2.2+1))
 else
 (a3b a0).bind fun v19=>
 (a47 v6.2.2.1 v19).bind fun v20=>
 d5 FU (a0x v2 v4 r5) (v6.1,v6.2.1,v20,0)
def a9c (v2:(List aQ)×(List Posting)×Int) (a0:List aQ) (r3:((List aQ)×(List Posting)×Int) -> Option (List Posting)) (r5:((List aQ)×(List Posting)×Int) -> Option (List Posting)) (v4:(List aQ)×(List Posting)×Int):Option (List Posting):=
 if (decide (v4.2.2<6)) then
 d5 FU (a0y v2 v4 a0 r5) (v4.1,v4.2.1,[],0)
 else
 r3 (v4.1,v4.2.1,i64 (v2.2.2+1))
def a9b (a0:List aQ) (r3:((List aQ)×(List Posting)×Int) -> Option (List Posting)) (v2:(List aQ)×(List Posting)×Int):Option (List Posting):=
 if (decide (v2.2.2<6)) then
 d5 FU (a9c v2 a0 r3) (v2.1,v2.2.1,0)
 else
 some v2.2.1
def a4m (a0:List aQ):Option (List Posting):=
 (a0h a0).bind fun v1=>
 d5 FU (a9b a0) (v1,[],0)
def a1c (a1:Int) (a0:List Rules) (r2:((List Int)×Rules×Int) -> Option (Rules×Bool)) (v1:(List Int)×Rules×Int):Option (Rules×Bool):=
 (if (decide (v1.2.2 >= 0)) then (e7 a1).bind fun v3=>
 some v3 else some false).bind fun v4=>
 if v4 then
 (c8 a0 v1.2.2).bind fun v5=>
 if (decide (v5.From <= a1)) then
 (c8 a0 v1.2.2).bind fun v6=>
 (a4t 8 [] v6.Members).bind fun v7=>
 some ((⟨v6.From,v6.MinDays,v6.PostingLimit,v6.Substantial,v7⟩:Rules),true)
 else
 r2 (v1.1,(⟨v1.2.1.From,v1.2.1.MinDays,v1.2.1.PostingLimit,v1.2.1.Substantial,[]⟩:Rules),i64 (v1.2.2-1))
 else
 some ((⟨0,0,0,0,[]⟩:Rules),false)
def y4 (a0:List Rules) (a1:Int):Option (Rules×Bool):=
 d5 FU (a1c a1 a0) ([],(⟨0,0,0,0,[]⟩:Rules),i64 ((a0.length:Int)-1))
def a03 (a0:Span) (a1:Int):Option Bool:=
 (if (decide (a1 >= a0.From)) then some (decide (a1<a0.To)) else some false).bind fun v1=>
 some v1
def a3u (a0:List aQ) (a1:Int) (r2:((Ar 6 Int)×(Ar 6 Int)×Int) -> Option (Ar 6 Int)) (v1:(Ar 6 Int)×(Ar 6 Int)×Int):Option (Ar 6 Int):=
 if (decide (v1.2.2<(a0.length:Int))) then
 (c8 a0 v1.2.2).bind fun v3=>
 (if (v3.Kind==1) then some true else (c8 a0 v1.2.2).bind fun v4=>
 some (v4.Kind==2)).bind fun v5=>
 (if v5 then (c8 a0 v1.2.2).bind fun v6=>
 (a03 v6.Span a1).bind fun v7=>
 some v7 else some false).bind fun v8=>
 if v8 then
 (c8 a0 v1.2.2).bind fun v9=>
 (c8 v1.2.1.l v9.State).bind fun v10=>
 (c8 v1.2.1.l v9.State).bind fun v11=>
 (c8 a0 v1.2.2).bind fun v12=>
 (c8 v1.2.1.l v9.State).bind fun v13=>
 (c8 v1.2.1.l v9.State).bind fun v14=>
 r2 (v1.1,Ar.set v1.2.1 v9.State (i64 (v11+v12.Share)),i64 (v1.2.2+1))
 else
 r2 (v1.1,v1.2.1,i64 (v1.2.2+1))
 else
 some v1.2.1
def a5v (a0:List aQ) (a1:Int):Option (Ar 6 Int):=
 d5 FU (a3u a0 a1) ((arZ 6 0:Ar 6 Int),(arZ 6 0:Ar 6 Int),0)
def a0r (a0:List aQ) (a1:Int) (r3:((List aQ)×Int×Int) -> Option (Int×Bool)) (v2:(List aQ)×Int×Int):Option (Int×Bool):=
 (if (decide (v2.2.2<(v2.1.length:Int))) then (a3b a0).bind fun v4=>
 (a03 v4 a1).bind fun v5=>
 some v5 else some false).bind fun v6=>
 if v6 then
 (c8 v2.1 v2.2.2).bind fun v7=>
 (c8 v2.1 v2.2.2).bind fun v8=>
 (if (v8.Kind != 5) then some true else (c8 v2.1 v2.2.2).bind fun v9=>
 (c8 v2.1 v2.2.2).bind fun v10=>
 (a03 v10.Span a1).bind fun v11=>
 some (!v11)).bind fun v12=>
 if v12 then
 r3 (v2.1,v2.2.1,i64 (v2.2.2+1))
 else
 (if (decide (v2.2.1<0)) then some true else (c8 v2.1 v2.2.2).bind fun v13=>
 (c8 v2.1 v2.2.2).bind fun v14=>
 (c8 v2.1 v2.2.1).bind fun v15=>
 (c8 v2.1 v2.2.1).bind fun v16=>
 some (decide (v14.Span.From>v16.Span.From))).bind fun v17=>
 (if v17 then some true else (c8 v2.1 v2.2.2).bind fun v18=>
 (c8 v2.1 v2.2.2).bind fun v19=>
 (c8 v2.1 v2.2.1).bind fun v20=>
 (c8 v2.1 v2.2.1).bind fun v21=>
 (if (v19.Span.From==v21.Span.From) then (c8 v2.1 v2.2.2).bind fun v22=>
 (c8 v2.1 v2.2.2).bind fun v23=>
 (c8 v2.1 v2.2.1).bind fun v24=>
 (c8 v2.1 v2.2.1).bind fun v25=>
 some (decide (v23.State<v25.State)) else some false).bind fun v26=>
 some v26).bind fun v27=>
 if v27 then
 r3 (v2.1,v2.2.2,i64 (v2.2.2+1))
 else
 r3 (v2.1,v2.2.1,i64 (v2.2.2+1))
 else
 if (decide (v2.2.1<0)) then
 some (0,false)
 else
 (c8 v2.1 v2.2.1).bind fun v28=>
 (c8 v2.1 v2.2.1).bind fun v29=>
 some (v29.State,true)
def a1q (a0:List aQ) (a1:Int):Option (Int×Bool):=
 (a0h a0).bind fun v1=>
 d5 FU (a0r a0 a1) (v1,(-1:Int),0)
def a4q (a0:List aQ) (a1:Int) (r2:((List Int)×Int) -> Option (List Int)) (v1:(List Int)×Int):Option (List Int):=
 if (decide (v1.2<(a0.length:Int))) then
 (c8 a0 v1.2).bind fun v3=>
 (if (v3.Kind==1) then (c8 a0 v1.2).bind fun v4=>
 (a03 v4.Span a1).bind fun v5=>
 some v5 else some false).bind fun v6=>
 if v6 then
 (c8 a0 v1.2).bind fun v7=>
 (o9 v1.1 v7.Seat).bind fun v8=>
 r2 (v8,i64 (v1.2+1))
 else
 r2 (v1.1,i64 (v1.2+1))
 else
 some v1.1
def a6n (a0:List aQ) (a1:Int):Option (List Int):=
 d5 FU (a4q a0 a1) ([],0)
def a97 (a0:List aQ) (a3:Int) (a1:List aQ) (r3:(Rules×(Ar 6 Int)×Int×Int×Int×Int) -> Option (Int×Bool)) (v2:Rules×(Ar 6 Int)×Int×Int×Int×Int):Option (Int×Bool):=
 if (decide (v2.2.2.2.2.2<6)) then
 (c8 v2.2.1.l v2.2.2.2.2.2).bind fun v4=>
 (c8 v2.2.1.l v2.2.2.2.2.2).bind fun v5=>
 (c8 v2.2.1.l v2.2.2.2.2.2).bind fun v6=>
 (c8 v2.2.1.l v2.2.2.2.2.2).bind fun v7=>
 if (decide (v7>0)) then
 (if (decide (v2.2.2.2.2.1<0)) then some true else (c8 v2.2.1.l v2.2.2.2.2.2).bind fun v8=>
 (c8 v2.2.1.l v2.2.2.2.2.2).bind fun v9=>
 (c8 v2.2.1.l v2.2.2.2.2.1).bind fun v10=>
 (c8 v2.2.1.l v2.2.2.2.2.1).bind fun v11=>
 some (decide (v9>v11))).bind fun v12=>
 if v12 then
 r3 (v2.1,v2.2.1,i64 (v2.2.2.1+v5),i64 (v2.2.2.2.1+1),v2.2.2.2.2.2,i64 (v2.2.2.2.2.2+1))
 else
 r3 (v2.1,v2.2.1,i64 (v2.2.2.1+v5),i64 (v2.2.2.2.1+1),v2.2.2.2.2.1,i64 (v2.2.2.2.2.2+1))
 else
 r3 (v2.1,v2.2.1,i64 (v2.2.2.1+v5),v2.2.2.2.1,v2.2.2.2.2.1,i64 (v2.2.2.2.2.2+1))
 else
 (a1q a0 a3).bind fun v13=>
 (a6n a1 a3).bind fun v14=>
 if (v2.2.2.2.1==0) then
 some (0,false)
 else
 if (v2.2.2.2.1==1) then
 some (v2.2.2.2.2.1,true)
 else
 (if v13.2 then (c8 v2.2.1.l v13.1).bind fun v15=>
 (c8 v2.2.1.l v13.1).bind fun v16=>
 some (decide (v16>0)) else some false).bind fun v17=>
 (if v17 then (c8 v2.2.1.l v13.1).bind fun v18=>
 (c8 v2.2.1.l v13.1).bind fun v19=>
 some (decide ((i64 (100*v19)) >= (i64 (v2.1.Substantial*v2.2.2.1)))) else some false).bind fun v20=>
 if v20 then
 some (v13.1,true)
 else
 if ((v14.length:Int)==1) then
 (c8 v14 0).bind fun v21=>
 some (v21,true)
 else
 (if v13.2 then some ((v14.length:Int)==2) else some false).bind fun v22=>
 (if v22 then (c8 v14 0).bind fun v23=>
 some (v23==v13.1) else some false).bind fun v24=>
 if v24 then
 (c8 v14 1).bind fun v25=>
 some (v25,true)
 else
 (if v13.2 then some ((v14.length:Int)==2) else some false).bind fun v26=>
 (if v26 then (c8 v14 1).bind fun v27=>
 some (v27==v13.1) else some false).bind fun v28=>
 if v28 then
 (c8 v14 0).bind fun v29=>
 some (v29,true)
 else
 if v13.2 then
 some (v13.1,true)
 else
 some (v2.2.2.2.2.1,true)
def a2c (a0:List aQ) (a1:List aQ) (a2:Rules) (a3:Int):Option (Int×Bool):=
 (a5v a1 a3).bind fun v1=>
 d5 FU (a97 a0 a3 a1) (a2,v1,0,0,(-1:Int),0)
def a3p (a1:List aQ) (a4:Int) (a0:List aQ) (r33:(Int×Int) -> Option (Int×Int)) (v32:Int×Int):Option (Int×Int):=
 if (decide (v32.2<(a1.length:Int))) then
 (c8 a1 v32.2).bind fun v34=>
 (if (v34.Kind==7) then some true else (c8 a1 v32.2).bind fun v35=>
 some (v35.Kind==8)).bind fun v36=>
 (if v36 then (c8 a1 v32.2).bind fun v37=>
 (a03 v37.Span a4).bind fun v38=>
 some v38 else some false).bind fun v39=>
 (if v39 then (if (decide (v32.1<0)) then some true else (c8 a1 v32.2).bind fun v40=>
 some (decide (v40.State<v32.1))).bind fun v41=>
 some v41 else some false).bind fun v42=>
 if v42 then
 (c8 a1 v32.2).bind fun v43=>
 r33 (v43.State,i64 (v32.2+1))
 else
 r33 (v32.1,i64 (v32.2+1))
 else
 if (decide (v32.1 >= 0)) then
 some (v32.1,4)
 else
 (a1q a0 a4).bind fun v44=>
 if v44.2 then
 some (v44.1,5)
 else
 some ((-1:Int),0)
def a1v (a1:List aQ) (a4:Int) (a0:List aQ) (r15:(Rules×Int×Int) -> Option (Int×Int)) (v14:Rules×Int×Int):Option (Int×Int):=
 if (decide (v14.2.2<(a1.length:Int))) then
 (c8 a1 v14.2.2).bind fun v16=>
 (if (v16.Kind==3) then (c8 a1 v14.2.2).bind fun v17=>
 (a03 v17.Span a4).bind fun v18=>
 some v18 else some false).bind fun v19=>
 (if v19 then (if (decide (v14.2.1<0)) then some true else (c8 a1 v14.2.2).bind fun v20=>
 (c8 a1 v14.2.1).bind fun v21=>
 some (decide (v20.Share>v21.Share))).bind fun v22=>
 (if v22 then some true else (c8 a1 v14.2.2).bind fun v23=>
 (c8 a1 v14.2.1).bind fun v24=>
 (if (v23.Share==v24.Share) then (c8 a1 v14.2.2).bind fun v25=>
 (c8 a1 v14.2.1).bind fun v26=>
 some (decide (v25.State<v26.State)) else some false).bind fun v27=>
 some v27).bind fun v28=>
 some v28 else some false).bind fun v29=>
 if v29 then
 r15 (v14.1,v14.2.2,i64 (v14.2.2+1))
 else
 r15 (v14.1,v14.2.1,i64 (v14.2.2+1))
 else
 if (decide (v14.2.1 >= 0)) then
 (c8 a1 v14.2.1).bind fun v30=>
 some (v30.State,2)
 else
 (a2c a0 a1 v14.1 a4).bind fun v31=>
 if v31.2 then
 some (v31.1,3)
 else
 d5 FU (a3p a1 a4 a0) (v14.2.1,0)
def a3l (a2:List Posting) (a4:Int) (a1:List aQ) (a0:List aQ) (r2:(Rules×Int×Int) -> Option (Int×Int)) (v1:Rules×Int×Int):Option (Int×Int):=
 if (decide (v1.2.2<(a2.length:Int))) then
 (c8 a2 v1.2.2).bind fun v3=>
 (a03 v3.Span a4).bind fun v4=>
 (if (!v4) then some true else (c8 a2 v1.2.2).bind fun v5=>
 some (decide ((i64 (a4-v5.Span.From)) >= v1.1.PostingLimit))).bind fun v6=>
 if v6 then
 r2 (v1.1,v1.2.1,i64 (v1.2.2+1))
 else
 (if (decide (v1.2.1<0)) then some true else (c8 a2 v1.2.2).bind fun v7=>
 (c8 a2 v1.2.1).bind fun v8=>
 (if (v7.Span.From==v8.Span.From) then (c8 a2 v1.2.2).bind fun v9=>
 (c8 a2 v1.2.1).bind fun v10=>
 some (decide (v9.Seat<v10.Seat)) else some false).bind fun v11=>
 some v11).bind fun v12=>
 if v12 then
 r2 (v1.1,v1.2.2,i64 (v1.2.2+1))
 else
 r2 (v1.1,v1.2.1,i64 (v1.2.2+1))
 else
 if (decide (v1.2.1 >= 0)) then
 (c8 a2 v1.2.1).bind fun v13=>
 some (v13.Seat,1)
 else
 d5 FU (a1v a1 a4 a0) (v1.1,v1.2.1,0)
def a8v (a0:List aQ) (a1:List aQ) (a2:List Posting) (a3:Rules) (a4:Int):Option (Int×Int):=
 d5 FU (a3l a2 a4 a1 a0) (a3,(-1:Int),0)
def a3i (a1:List Rules) (v13:(List aQ)×(List Posting)×Span×(List Int)×Int) (r14:((List aQ)×(List Posting)×Span×(List Int)×Int) -> Option (List Segment)) (r18:((List aQ)×(List Posting)×Span×(List Int)×Int) -> Option (List Segment)) (v17:(List aQ)×(List Posting)×Span×(List Int)×Int):Option (List Segment):=
 if (decide (v17.2.2.2.2<(v17.2.1.length:Int))) then
 (c8 v17.2.1 v17.2.2.2.2).bind fun v19=>
 (c8 v17.2.1 v17.2.2.2.2).bind fun v20=>
 (c8 a1 v13.2.2.2.2).bind fun v21=>
 (o9 v17.2.2.2.1 (min (i64 (v20.Span.From+v21.PostingLimit)) 73049)).bind fun v22=>
 r18 (v17.1,v17.2.1,v17.2.2.1,v22,i64 (v17.2.2.2.2+1))
 else
 r14 (v17.1,v17.2.1,v17.2.2.1,v17.2.2.2.1,i64 (v13.2.2.2.2+1))
def a01 (v23:(List aQ)×(List Posting)×Span×(List Int)×Int) (a1:List Rules) (a0:List aQ) (r32:((List aQ)×(List Posting)×Span×(List Segment)×Int) -> Option (List Segment)) (v31:(List aQ)×(List Posting)×Span×(List Segment)×Int):Option (List Segment):=
 if (decide ((i64 (v31.2.2.2.2+1))<(v23.2.2.2.1.length:Int))) then
 (c8 v23.2.2.2.1 v31.2.2.2.2).bind fun v33=>
 (y4 a1 v33).bind fun v34=>
 (if (!v34.2) then some true else (c8 v23.2.2.2.1 v31.2.2.2.2).bind fun v35=>
 (a03 v31.2.2.1 v35).bind fun v36=>
 some (!v36)).bind fun v37=>
 if v37 then
 r32 (v31.1,v31.2.1,v31.2.2.1,v31.2.2.2.1,i64 (v31.2.2.2.2+1))
 else
 (c8 v23.2.2.2.1 v31.2.2.2.2).bind fun v38=>
 (a8v a0 v31.1 v31.2.1 v34.1 v38).bind fun v39=>
 if (v39.2==0) then
 r32 (v31.1,v31.2.1,v31.2.2.1,v31.2.2.2.1,i64 (v31.2.2.2.2+1))
 else
 (if (decide ((v31.2.2.2.1.length:Int)>0)) then (c8 v31.2.2.2.1 (i64 ((v31.2.2.2.1.length:Int)-1))).bind fun v40=>
 (c8 v31.2.2.2.1 (i64 ((v31.2.2.2.1.length:Int)-1))).bind fun v41=>
 (c8 v23.2.2.2.1 v31.2.2.2.2).bind fun v42=>
 some (v41.Span.To==v42) else some false).bind fun v43=>
 (if v43 then (c8 v31.2.2.2.1 (i64 ((v31.2.2.2.1.length:Int)-1))).bind fun v44=>
 (c8 v31.2.2.2.1 (i64 ((v31.2.2.2.1.length:Int)-1))).bind fun v45=>
 some (v45.State==v39.1) else some false).bind fun v46=>
 (if v46 then (c8 v31.2.2.2.1 (i64 ((v31.2.2.2.1.length:Int)-1))).bind fun v47=>
 (c8 v31.2.2.2.1 (i64 ((v31.2.2.2.1.length:Int)-1))).bind fun v48=>
 some (v48.Rule==v39.2) else some false).bind fun v49=>
 if v49 then
 (c8 v31.2.2.2.1 (i64 ((v31.2.2.2.1.length:Int)-1))).bind fun v50=>
 (c8 v31.2.2.2.1 (i64 ((v31.2.2.2.1.length:Int)-1))).bind fun v51=>
 (c8 v23.2.2.2.1 (i64 (v31.2.2.2.2+1))).bind fun v52=>
 (c8 v31.2.2.2.1 (i64 ((v31.2.2.2.1.length:Int)-1))).bind fun v53=>
 (c8 v31.2.2.2.1 (i64 ((v31.2.2.2.1.length:Int)-1))).bind fun v54=>
 r32 (v31.1,v31.2.1,v31.2.2.1,b0i v31.2.2.2.1 (i64 ((v31.2.2.2.1.length:Int)-1)) (⟨(⟨v51.Span.From,v52⟩:Span),v51.State,v51.Rule⟩:Segment),i64 (v31.2.2.2.2+1))
 else
 (c8 v23.2.2.2.1 v31.2.2.2.2).bind fun v55=>
 (c8 v23.2.2.2.1 (i64 (v31.2.2.2.2+1))).bind fun v56=>
 (a4t 32 v31.2.2.2.1 [(⟨(⟨v55,v56⟩:Span),v39.1,v39.2⟩:Segment)]).bind fun v57=>
 r32 (v31.1,v31.2.1,v31.2.2.1,v57,i64 (v31.2.2.2.2+1))
 else
 some v31.2.2.2.1
def a3o (a1:List Rules) (a0:List aQ) (r24:((List aQ)×(List Posting)×Span×(List Int)×Int) -> Option (List Segment)) (v23:(List aQ)×(List Posting)×Span×(List Int)×Int):Option (List Segment):=
 if (decide (v23.2.2.2.2<(v23.2.1.length:Int))) then
 (c8 v23.2.1 v23.2.2.2.2).bind fun v25=>
 (c8 v23.2.1 v23.2.2.2.2).bind fun v26=>
 (o9 v23.2.2.2.1 v26.Span.From).bind fun v27=>
 (c8 v23.2.1 v23.2.2.2.2).bind fun v28=>
 (c8 v23.2.1 v23.2.2.2.2).bind fun v29=>
 (o9 v27 v29.Span.To).bind fun v30=>
 r24 (v23.1,v23.2.1,v23.2.2.1,v30,i64 (v23.2.2.2.2+1))
 else
 d5 FU (a01 v23 a1 a0) (v23.1,v23.2.1,v23.2.2.1,[],0)
def a3g (a1:List Rules) (a0:List aQ) (r14:((List aQ)×(List Posting)×Span×(List Int)×Int) -> Option (List Segment)) (v13:(List aQ)×(List Posting)×Span×(List Int)×Int):Option (List Segment):=
 if (decide (v13.2.2.2.2<(a1.length:Int))) then
 (c8 a1 v13.2.2.2.2).bind fun v15=>
 (o9 v13.2.2.2.1 v15.From).bind fun v16=>
 d5 FU (a3i a1 v13 r14) (v13.1,v13.2.1,v13.2.2.1,v16,0)
 else
 d5 FU (a3o a1 a0) (v13.1,v13.2.1,v13.2.2.1,v13.2.2.2.1,0)
def a3n (a1:List Rules) (a0:List aQ) (r6:((List aQ)×(List Posting)×Span×(List Int)×Int) -> Option (List Segment)) (v5:(List aQ)×(List Posting)×Span×(List Int)×Int):Option (List Segment):=
 if (decide (v5.2.2.2.2<(v5.1.length:Int))) then
 (c8 v5.1 v5.2.2.2.2).bind fun v7=>
 (c8 v5.1 v5.2.2.2.2).bind fun v8=>
 (o9 v5.2.2.2.1 v8.Span.From).bind fun v9=>
 (c8 v5.1 v5.2.2.2.2).bind fun v10=>
 (c8 v5.1 v5.2.2.2.2).bind fun v11=>
 (o9 v9 v11.Span.To).bind fun v12=>
 r6 (v5.1,v5.2.1,v5.2.2.1,v12,i64 (v5.2.2.2.2+1))
 else
 d5 FU (a3g a1 a0) (v5.1,v5.2.1,v5.2.2.1,v5.2.2.2.1,0)
def a69 (a0:List aQ) (a1:List Rules):Option (List Segment):=
 (a2h a1).bind fun v1=>
 if (v1 != 0) then
 some []
 else
 (a0h a0).bind fun v2=>
 (a4m a0).bind fun v3=>
 (a3b a0).bind fun v4=>
 d5 FU (a3n a1 a0) (v2,v3,v4,[v4.From,v4.To],0)
def a2d (a0:List Span):Option (List Span):=
 (a0v a0 [] 2).bind fun v1=>
 some v1
def a4n (a0:List Segment) (a1:Int) (a2:Int) (r2:((List Span)×Int) -> Option (List Span)) (v1:(List Span)×Int):Option (List Span):=
 if (decide (v1.2<(a0.length:Int))) then
 (c8 a0 v1.2).bind fun v3=>
 (if (v3.State==a1) then (c8 a0 v1.2).bind fun v4=>
 some (decide (v4.Rule <= a2)) else some false).bind fun v5=>
 if v5 then
 (c8 a0 v1.2).bind fun v6=>
 (a4t 16 v1.1 [v6.Span]).bind fun v7=>
 r2 (v7,i64 (v1.2+1))
 else
 r2 (v1.1,i64 (v1.2+1))
 else
 (a2d v1.1).bind fun v8=>
 some v8
def a4o (a0:List Segment) (a1:Int) (a2:Int):Option (List Span):=
 d5 FU (a4n a0 a1 a2) ([],0)
def a7s (a0:List Span) (a1:List Span):Option (List Span):=
 (a0v a0 a1 2).bind fun v1=>
 some v1
def a4j (a0:List Span) (a1:List Span):Option (List Span):=
 (a0v a0 a1 1).bind fun v1=>
 some v1
def a5n (r3:(Int×(List Span)×Int) -> Option Int) (v2:Int×(List Span)×Int):Option Int:=
 if (decide (v2.2.2<(v2.2.1.length:Int))) then
 (c8 v2.2.1 v2.2.2).bind fun v4=>
 (c8 v2.2.1 v2.2.2).bind fun v5=>
 (c8 v2.2.1 v2.2.2).bind fun v6=>
 (c8 v2.2.1 v2.2.2).bind fun v7=>
 r3 (i64 (v2.1+(i64 (v5.To-v7.From))),v2.2.1,i64 (v2.2.2+1))
 else
 some v2.1
def a8q (a0:List Span):Option Int:=
 (a2d a0).bind fun v1=>
 d5 FU a5n (0,v1,0)
def a3t (v11:Laws×(List aQ)×Int×Int) (r21:(Laws×(List aQ)×(List Span)×(List Span)×Int) -> Option Bool) (v20:Laws×(List aQ)×(List Span)×(List Span)×Int):Option Bool:=
 if (decide (v20.2.2.2.2<6)) then
 (a69 v20.2.1 v20.1.Treaty).bind fun v22=>
 (a4o v22 v20.2.2.2.2 5).bind fun v23=>
 (a7s v20.2.2.2.1 v23).bind fun v24=>
 r21 (v20.1,v20.2.1,v20.2.2.1,v24,i64 (v20.2.2.2.2+1))
 else
 (a4j v20.2.2.1 v20.2.2.2.1).bind fun v25=>
 (a8q v25).bind fun v26=>
 some (v11.2.2.1==v26)
noncomputable def u4 (v7:Int) (v8:Int×Bool) (r12:(Laws×(List aQ)×Int×Int) -> Option Bool) (v11:Laws×(List aQ)×Int×Int):Option Bool:=
 if (decide (v11.2.2.2<6)) then
 (a9v v11.1 v11.2.1 v11.2.2.2 v7).bind fun v13=>
 (if (decide (v13<0)) then some true else some (decide (v13>31))).bind fun v14=>
 if v14 then
 some false
 else
 r12 (v11.1,v11.2.1,i64 (v11.2.2.1+v13),i64 (v11.2.2.2+1))
 else
 (a2u v11.2.1).bind fun v15=>
 (a2f v7).bind fun v16=>
 (a47 v15 (⟨v8.1,i64 (v8.1+v16)⟩:Span)).bind fun v17=>
 (a69 v11.2.1 v11.1.Treaty).bind fun v18=>
 (a4o v18 0 5).bind fun v19=>
 d5 FU (a3t v11) (v11.1,v11.2.1,v17,v19,1)
noncomputable def a1k (a0:List Int) (a1:List Int) (a2:List pensionhand_Fact) (a3:Int):Option Bool:=
 (a8p a0).bind fun v1=>
 (a87 a1).bind fun v2=>
 (a83 a2).bind fun v3=>
 (a4t 112 v2 v3).bind fun v4=>
 (a70 v4 []).bind fun v5=>
 (b09 v5 1).bind fun v6=>
 (a7v a3).bind fun v7=>
 (a3x v7).bind fun v8=>
 (a9m).bind fun v9=>
 (if (!v9) then some true else some (!v8.2)).bind fun v10=>
 if v10 then
 some false
 else
 d5 FU (u4 v7 v8) (v1,v6,0,0)
end Go.PL
namespace Go.PL
open Go
theorem o8 {σ ρ S α:Type} {f:(σ -> Option ρ) -> σ -> Option ρ} (l:List α) (e:S -> Int -> σ) (I:S -> Nat -> Prop) (Q:Option ρ -> Prop) (hl:l.length<2^62)
  (hstep: ∀rec s (i:Nat) y,i<l.length -> l[i]? =some y -> I s i -> Q (f rec (e s (i:Int))) \/ ∃s',f rec (e s (i:Int))=rec (e s' ((i+1:Nat):Int)) /\ I s' (i+1))
  (hfin: ∀rec s,I s l.length -> Q (f rec (e s (l.length:Int)))) (s:S) (h0:I s 0):Q (d5 FU f (e s 0)):=by
 have key: ∀(k:Nat) (s:S) (i:Nat),i <= l.length -> I s i -> l.length-i<k -> Q (d5 k f (e s (i:Int))):=by
  intro k
  induction k with
  | zero=>intro s i _ _ h;omega
  | succ k ih=>
    intro s i hi hI hk
    show Q (f (d5 k f) (e s (i:Int)))
    by_cases h:i<l.length
    ·rcases hstep (d5 k f) s i l[i] h (qG h) hI with h1 | ⟨s',h1,h2⟩
     ·exact h1
     ·rw [h1];exact ih s' (i+1) (by omega) h2 (by omega)
    ·have:i=l.length:=by omega
     subst this
     exact hfin _ _ hI
 have:(0:Int)=((0:Nat):Int):=rfl
 rw [this]
 exact key FU s 0 (Nat.zero_le _) h0 (by unfold FU;omega)
theorem l9 {x:Nat} (h:x<2^62):i64 ((x:Int)+1)=((x+1:Nat):Int):=by rw [i7 (by omega) (by omega)];simp
theorem l6 {α:Type} {l:List α} {i:Nat} {y:α} (h:l[i]? =some y):c8 l (i:Int)=some y:=by rw [b2f];exact h
theorem a0c {α:Type} {l:List α} {i:Nat} {y:α} (h:l[i]? =some y):l.take (i+1)=l.take i++[y]:=by
 have hi:i<l.length:=by
  rcases Nat.lt_or_ge i l.length with h1 | h1
  ·exact h1
  ·rw [List.getElem?_eq_none h1] at h;cases h
 rw [List.take_succ_eq_append_getElem hi]
 rw [qG hi] at h
 rw [qH h]
theorem c3i {α:Type} (a:List α) (t:α) (h:a.length<2^62):c8 (a++[t]) (i64 (((a++[t]).length:Int)-1))=some t:=by
 have:i64 (((a++[t]).length:Int)-1)=((a.length:Nat):Int):=by rw [qL];simp only [List.length_cons,List.length_nil];rw [i7 (by omega) (by omega)];omega
 rw [this,b2f];simp
theorem c11 {α:Type} (a:List α) (t u:α) (h:a.length<2^62):b0i (a++[t]) (i64 (((a++[t]).length:Int)-1)) u=a++[u]:=by
 have:i64 (((a++[t]).length:Int)-1)=((a.length:Nat):Int):=by rw [qL];simp only [List.length_cons,List.length_nil];rw [i7 (by omega) (by omega)];omega
 rw [this];unfold b0i;rw [if_pos (Int.natCast_nonneg _)];simp
theorem f4y {α:Type} (l:List α):l=[] \/ ∃a t,l=a++[t]:=by
 rcases List.eq_nil_or_concat l with h | ⟨a,t,h⟩
 ·exact .inl h
 ·exact .inr ⟨a,t,by simpa using h⟩
theorem b4h {α:Type} {l:List α} {i:Nat} {y:α} (h:l[i]? =some y):l.drop i=y::l.drop (i+1):=by
 have hi:i<l.length:=by
  rcases Nat.lt_or_ge i l.length with h1 | h1
  ·exact h1
  ·rw [List.getElem?_eq_none h1] at h;cases h
 rw [qG hi] at h
 rw [List.drop_eq_getElem_cons hi,qH h]
theorem d5z {α β:Type} {g:β -> α -> β} {l:List α} {i:Nat} {y:α} {b:β} (h:l[i]? =some y):(l.take (i+1)).foldl g b=g ((l.take i).foldl g b) y:=by
 rw [a0c h,List.foldl_append];rfl
end Go.PL
namespace Go.PL
open Go Go.SX
def Tot {α:Type} (o:Option α) (Q:α -> Prop):Prop:= ∃a,o=some a /\ Q a
section
variable {α β:Type} {o:Option α} {Q R:α -> Prop} {S:β -> Prop} {f:α -> Option β} {a:α}
theorem Tot.some (h:Q a):Tot (some a) Q:=⟨a,rfl,h⟩
theorem Tot.bind (h:Tot o Q) (hf: ∀a,Q a -> Tot (f a) S):Tot (Option.bind o f) S:=by
 obtain ⟨a,rfl,hq⟩:=h
 exact hf a hq
theorem Tot.ite {c:Prop} [Decidable c] {x y:Option α} (h1:c -> Tot x Q) (h2: ¬c -> Tot y Q):Tot (if c then x else y) Q:=by
 split
 ·exact h1 (by assumption)
 ·exact h2 (by assumption)
theorem Tot.mono (h:Tot o Q) (hq: ∀a,Q a -> R a):Tot o R:=by
 obtain ⟨a,e,h⟩:=h
 exact ⟨a,e,hq a h⟩
theorem Tot.join (h:Tot (f a) S):Tot (joinC f a) S:=h
end
theorem Tot.loop {σ ρ:Type} {f:(σ -> Option ρ) -> σ -> Option ρ} (I:σ -> Prop) (μ:σ -> Nat) {Q:ρ -> Prop} {s:σ} (h0:I s) (hμ:μ s<2^70) (step: ∀(r:σ -> Option ρ) (s:σ),I s -> (∀s',I s' -> μ s'<μ s -> Tot (r s') Q) -> Tot (f r s) Q):Tot (d5 FU f s) Q:=by
 have key: ∀(k:Nat) (s:σ),I s -> μ s<k -> Tot (d5 k f s) Q:=by
  intro k
  induction k with
  | zero=>intro s _ h;omega
  | succ k ih=>
    intro s hI hk
    exact step (d5 k f) s hI fun s' h1 h2=>ih s' h1 (by omega)
 exact key FU s h0 (by unfold FU;exact hμ)
theorem a6s {s:ByteArray} {i:Int} (h0:0 <= i) (h1:i<(s.size:Int)):Tot (b47 s i) fun b=>0 <= b /\ b <= 255:=by
 unfold b47
 rw [if_pos h0]
 have hlt:i.toNat<s.size:=by omega
 rw [getElem?_pos s i.toNat hlt]
 refine ⟨_,rfl,?_⟩
 have:=(s[i.toNat]'hlt).toNat_lt
 exact ⟨Int.natCast_nonneg _,by show (((s[i.toNat]'hlt).toNat:Nat):Int) <= 255;omega⟩
theorem a5i {s:ByteArray} {a b:Int} (h0:0 <= a) (h1:a <= b) (h2:b <= (s.size:Int)):Tot (c0f s a b) fun r=>(r.size:Int)=b-a:=by
 unfold c0f
 rw [if_pos ⟨h0,h1,h2⟩]
 refine ⟨_,rfl,?_⟩
 show ((s.extract a.toNat b.toNat).size:Int)=b-a
 rw [ByteArray.size_extract]
 omega
theorem d6 {a b:ByteArray} (h:a.size+b.size <= 9223372036854775807):Tot (a65 a b) fun r=>r.size=a.size+b.size:=by
 unfold a65
 rw [if_pos h]
 exact ⟨_,rfl,ByteArray.size_append⟩
theorem l7 {α:Type} {l:List α} {i:Int} (h0:0 <= i) (h1:i<(l.length:Int)):Tot (c8 l i) fun x=>x∈l:=by
 unfold c8
 rw [if_pos h0]
 have hlt:i.toNat<l.length:=by omega
 rw [qG hlt]
 exact ⟨_,rfl,List.getElem_mem hlt⟩
theorem a6v {α:Type} {k:Nat} {l x:List α} (h:(l.length+x.length)*k <= 140737488355328):Tot (a4t k l x) fun r=>r=l++x:=⟨_,a0e h,rfl⟩
theorem a81 {a b:Int} (h0:0 <= a) (hb:0<b):Tot (b7d a b) fun r=>r=a%b /\ 0 <= r /\ r<b /\ r <= a:=by
 rw [c2j (by omega),c1f h0]
 have h1:=Int.emod_nonneg a (show b≠0 by omega)
 have h2:=Int.emod_lt_of_pos a hb
 have h3:a%b <= a:=by
  have:=Int.emod_add_mul_ediv a b
  have h5:0 <= b*(a/b):=Int.mul_nonneg (by omega) (Int.ediv_nonneg h0 (by omega))
  omega
 exact ⟨_,rfl,rfl,h1,h2,h3⟩
theorem b15 {a b:Int} (h0:0 <= a) (h1:a <= 9223372036854775807) (hb:0<b):Tot (c0i a b) fun r=>r=a/b /\ 0 <= r /\ r <= a:=by
 rw [e09 (by omega),d1o h0]
 have g1:=Int.ediv_nonneg h0 (show 0 <= b by omega)
 have g2:a/b <= a:=Int.ediv_le_self b h0
 rw [i7 (by omega) (by omega)]
 exact ⟨_,rfl,rfl,g1,g2⟩
theorem a6l {x:Int} (h0:0 <= x) (h1:x <= 4611686018427387904):i64 (x+1)=x+1:=i7 (by omega) (by omega)
theorem a0g {a n:Int} (hn:0<n) (h1:n <= 9223372036854775807):Tot (b7 a n) fun r=>0 <= r /\ r<n:=by
 unfold b7
 rw [c2j (by omega),qA]
 have h2:=Int.tmod_lt_of_pos a hn
 have h3: -n<a.tmod n:=Int.lt_tmod_of_pos a hn
 refine Tot.ite (fun h=> ?_) fun h=> ?_
 ·simp at h
  rw [i7 (by omega) (by omega)]
  exact Tot.some (by omega)
 ·simp at h
  exact Tot.some (by omega)
theorem a0a (l:List Int) (i:Int) (hl:l.length <= 9223372036854775807):Tot (c6 l i) fun _=>True:=by
 unfold c6
 refine Tot.ite (fun h=>Tot.some trivial) fun h=> ?_
 have hp:0<l.length:=by
  rcases Nat.eq_zero_or_pos l.length with h0 | h0
  ·rw [h0] at h;exact absurd rfl h
  ·exact h0
 refine Tot.bind (a0g (by omega) (by omega)) fun v hv=> ?_
 exact Tot.bind (l7 (by omega) (by omega)) fun x _=>Tot.some trivial
theorem a7u {n:Int} (h0:0 <= n) (h1:n <= 9999999):Tot (i6 n) fun r=>1 <= r.size /\ r.size <= 8:=by
 unfold i6
 have hs:a4u.size=10:=by decide
 refine Tot.loop (I:=fun v:Int×ByteArray=>0 <= v.1 /\ ((v.1 <= 9 /\ v.2.size <= 6) \/ (v.1 <= 99 /\ v.2.size <= 5) \/ (v.1 <= 999 /\ v.2.size <= 4) \/ (v.1 <= 9999 /\ v.2.size <= 3) \/ (v.1 <= 99999 /\ v.2.size <= 2) \/ (v.1 <= 999999 /\ v.2.size <= 1) \/ (v.1 <= 9999999 /\ v.2.size <= 0))) (μ:=fun v=>v.1.toNat) (s:=(n,a5j)) ⟨h0,.inr (.inr (.inr (.inr (.inr (.inr ⟨h1,(by decide:a5j.size <= 0)⟩)))))⟩ (by show n.toNat<_;omega) ?_
 intro r v hI ih
 obtain ⟨g1,g2⟩:=hI
 unfold b1q
 refine Tot.ite (fun h=> ?_) fun h=> ?_
 ·simp at h
  refine Tot.bind (a81 g1 (by omega)) fun a ha=> ?_
  refine Tot.bind (a81 g1 (by omega)) fun b hb=> ?_
  have hab:a=b:=by omega
  subst hab
  rw [a6l (by omega) (by omega)]
  refine Tot.bind (a5i (by omega) (by omega) (by rw [hs];omega)) fun c hc=> ?_
  refine Tot.bind (d6 (by omega)) fun d hd=> ?_
  refine Tot.bind (b15 g1 (by omega) (by omega)) fun e he=> ?_
  refine ih (e,d) ⟨he.2.1,?_⟩ (by show e.toNat<v.1.toNat;omega)
  show (e <= 9 /\ d.size <= 6) \/ (e <= 99 /\ d.size <= 5) \/ (e <= 999 /\ d.size <= 4) \/ (e <= 9999 /\ d.size <= 3) \/ (e <= 99999 /\ d.size <= 2) \/ (e <= 999999 /\ d.size <= 1) \/ (e <= 9999999 /\ d.size <= 0)
  omega
 ·simp at h
  rw [a6l (by omega) (by omega)]
  refine Tot.bind (a5i (by omega) (by omega) (by rw [hs];omega)) fun c hc=> ?_
  exact Tot.bind (d6 (by omega)) fun d hd=>Tot.some (by omega)
theorem d1t {n:Int} (h0:0 <= n) (h1:n <= 999999):Tot (u5 n) fun r=>r.size <= 25:=by
 unfold u5
 have hs:c18.size=1:=by decide
 refine Tot.bind (b15 h0 (by omega) (by omega)) fun a ha=> ?_
 refine Tot.bind (a7u (by omega) (by omega)) fun b hb=> ?_
 refine Tot.bind (d6 (by omega)) fun c hc=> ?_
 refine Tot.bind (b15 h0 (by omega) (by omega)) fun d hd=> ?_
 refine Tot.bind (a81 (by omega) (by omega)) fun e he=> ?_
 refine Tot.bind (a7u (by omega) (by omega)) fun g hg=> ?_
 refine Tot.bind (d6 (by omega)) fun i hi=> ?_
 refine Tot.bind (a81 h0 (by omega)) fun j hj=> ?_
 refine Tot.bind (a7u (by omega) (by omega)) fun k hk=> ?_
 exact Tot.bind (d6 (by omega)) fun l hl=>Tot.some (by omega)
theorem b66 {x:Int} (h0:0 <= x) (h1:x <= 9999999):Tot (i6 (i64 x)) fun r=>1 <= r.size /\ r.size <= 8:=by
 rw [i7 (by omega) (by omega)];exact a7u h0 h1
theorem b5v {x:Int} (h0:0 <= x) (h1:x <= 999999):Tot (u5 (i64 x)) fun r=>r.size <= 25:=by
 rw [i7 (by omega) (by omega)];exact d1t h0 h1
theorem e4d {a b:Int} (hb:b≠0):Tot (c0i a b) fun _=>True:=⟨_,e09 hb,trivial⟩
theorem e48 {a b:Int} (hb:b≠0):Tot (b7d a b) fun _=>True:=⟨_,c2j hb,trivial⟩
end Go.PL
namespace Go.PL
open Go Go.SX
def f8i (b:Int):Bool:=decide (b >= 97)&&decide (b <= 122)
def f7m (b:Int):Bool:=decide (b >= 48)&&decide (b <= 57)
theorem c39 (b:Int):a2j b=some (f8i b):=by
 unfold a2j f8i
 rw [m6,qA]
theorem c0x (b:Int):a1s b=some (f7m b):=by
 unfold a1s f7m
 rw [m6,qA]
theorem e58 {s:ByteArray} (hs:s.size <= 8000) {a:Int} (h0:0 <= a) (h1:a <= (s.size:Int)):Tot (a8o s a) fun r=>a <= r /\ r <= (s.size:Int):=by
 unfold a8o
 refine Tot.loop (I:=fun v:Int×Bool=>a <= v.1 /\ v.1 <= (s.size:Int)) (μ:=fun v=>((s.size:Int)-v.1).toNat) ⟨Int.le_refl _,h1⟩ (by show ((s.size:Int)-a).toNat<_;omega) ?_
 intro r v hI ih
 obtain ⟨g1,g2⟩:=hI
 have nxt:v.1<(s.size:Int) -> ∀b:Bool,Tot (r (i64 (v.1+1),b)) fun r=>a <= r /\ r <= (s.size:Int):=fun h b=>by
  rw [a6l (by omega) (by omega)]
  exact ih (v.1+1,b) ⟨by show a <= v.1+1;omega,by show v.1+1 <= _;omega⟩ (by show ((s.size:Int)-(v.1+1)).toNat<((s.size:Int)-v.1).toNat;omega)
 unfold b2n
 refine Tot.ite (fun h=> ?_) fun h=>Tot.some ⟨g1,g2⟩
 simp at h
 refine Tot.bind (a6s (by omega) h) fun b hb=> ?_
 refine Tot.ite (fun _=>nxt h _) fun _=>Tot.ite (fun _=>nxt h _) fun _=> ?_
 simp only [m6,qA]
 exact Tot.ite (fun _=>Tot.some ⟨g1,g2⟩) fun _=>nxt h _
theorem e03 {s:ByteArray} (hs:s.size <= 8000) {a:Int} (h0:0 <= a) (h1:a<(s.size:Int)) {c:Int} (hc:b47 s a=some c) (hld:(f8i c||f7m c)=true) (dot:Bool):Tot (a7f s a dot) fun r=>1 <= r /\ a+r <= (s.size:Int):=by
 unfold a7f
 refine Tot.loop (I:=fun v:Int=>0 <= v /\ a+v <= (s.size:Int)) (μ:=fun v=>((s.size:Int)-a-v).toNat) ⟨Int.le_refl _,by omega⟩ (by omega) ?_
 intro r v hI ih
 obtain ⟨g1,g2⟩:=hI
 unfold b3n
 have e0:i64 (a+v)=a+v:=i7 (by omega) (by omega)
 rw [e0]
 have hgo:a+v<(s.size:Int) -> Tot (r (i64 (v+1))) fun r=>1 <= r /\ a+r <= (s.size:Int):=fun h=>by
  rw [a6l (by omega) (by omega)]
  exact ih (v+1) ⟨by omega,by omega⟩ (by omega)
 by_cases hlt:a+v<(s.size:Int)
 ·obtain ⟨b,hb,_⟩:=a6s (s:=s) (i:=a+v) (by omega) hlt
  rw [if_pos (by simpa using hlt)]
  simp only [hb,qA,c39,c0x,a04,m6]
  refine Tot.ite (fun _=>hgo hlt) fun hn=>Tot.some ⟨?_,by omega⟩
  by_cases hv:v=0
  ·subst hv
   rw [Int.add_zero,hc] at hb
   cases hb
   exfalso
   apply hn
   simp only [Bool.or_eq_true] at hld⊢
   rcases hld with hld | hld<;>simp [hld]
  ·omega
 ·rw [if_neg (by simpa using hlt),qA,if_neg (by simp)]
  refine Tot.some ⟨?_,by omega⟩
  by_cases hv:v=0
  ·omega
  ·omega
theorem c7y {s:ByteArray} (hs:s.size <= 8000):Tot (a5b s) fun r=>r.2.2.2=true -> r.1.size <= 9 /\ r.2.1.size <= 4:=by
 have fin: ∀q:Int×ByteArray×ByteArray,q.2.1.size <= 8000 -> q.2.2.size <= 4 -> Tot (a56 q) fun r=>r.2.2.2=true -> r.1.size <= 9 /\ r.2.1.size <= 4:=by
  intro q hq1 hq2
  unfold a56
  have e1:i64 ((q.2.1.size:Int)+(q.2.2.size:Int))=(q.2.1.size:Int)+(q.2.2.size:Int):=i7 (by omega) (by omega)
  refine Tot.loop (I:=fun v:Int=>0 <= v) (μ:=fun v=>((q.2.1.size:Int)+(q.2.2.size:Int)-v).toNat) (Int.le_refl _) (by omega) ?_
  intro r v g1 ih
  unfold b25
  rw [e1]
  refine Tot.ite (fun h=> ?_) fun h=> ?_
  ·simp at h
   refine Tot.bind (d6 (by omega)) fun c hc=> ?_
   refine Tot.bind (a6s g1 (by omega)) fun b _=> ?_
   rw [c0x,qA]
   refine Tot.ite (fun _=>Tot.some fun h=>by cases h) fun _=> ?_
   rw [a6l (by omega) (by omega)]
   exact ih (v+1) (by omega) (by omega)
  ·simp only [a04,qA]
   by_cases hz:(q.2.1.size:Int)<1
   ·refine Tot.bind (Q:=fun b=>b=true) (Tot.ite (fun _=>Tot.some rfl) fun hn=>absurd (by simpa using Or.inl hz) hn) fun b hb=> ?_
    rw [if_pos hb]
    exact Tot.some fun h=>by cases h
   ·by_cases hg:(q.2.1.size:Int)>9
    ·refine Tot.bind (Q:=fun b=>b=true) (Tot.ite (fun _=>Tot.some rfl) fun hn=>absurd (by simpa using Or.inr hg) hn) fun b hb=> ?_
     rw [if_pos hb]
     exact Tot.some fun h=>by cases h
    ·refine Tot.bind (Q:=fun b=>True) (Tot.ite (fun _=>Tot.some trivial) fun hn=> ?_) fun b _=> ?_
     ·refine Tot.bind (Q:=fun _=>True) (Tot.ite (fun _=>Tot.bind (a6s (by omega) (by omega)) fun _ _=>Tot.some trivial) fun _=>Tot.some trivial) fun _ _=>Tot.some trivial
     ·exact Tot.ite (fun _=>Tot.some fun h=>by cases h) fun _=>Tot.some fun _=>⟨by show q.2.1.size <= 9;omega,hq2⟩
 have j1: ∀q:ByteArray×Int,q.1.size <= 8000 -> Tot (a2x q) fun r=>r.2.2.2=true -> r.1.size <= 9 /\ r.2.1.size <= 4:=by
  intro q hq
  unfold a2x
  have e1:i64 ((q.1.size:Int)-1)=(q.1.size:Int)-1:=i7 (by omega) (by omega)
  rw [e1]
  refine Tot.loop (I:=fun v:Int×Int=> -1 <= v.2 /\ v.2<(q.1.size:Int) /\ 0 <= v.1 /\ v.1 <= (q.1.size:Int)) (μ:=fun v=>(v.2+1).toNat) (s:=((q.1.size:Int),(q.1.size:Int)-1)) ⟨by show (-1:Int) <= (q.1.size:Int)-1;omega,by show (q.1.size:Int)-1<_;omega,by show (0:Int) <= (q.1.size:Int);omega,Int.le_refl _⟩ (by show ((q.1.size:Int)-1+1).toNat<_;omega) ?_
  intro r v hI ih
  obtain ⟨g1,g2,g3,g4⟩:=hI
  unfold b27
  refine Tot.ite (fun h=> ?_) fun h=> ?_
  ·simp at h
   have e2:i64 (v.2-1)=v.2-1:=i7 (by omega) (by omega)
   rw [e2]
   refine Tot.bind (a6s h g2) fun b _=>Tot.ite (fun _=> ?_) fun _=> ?_
   ·exact ih (v.2,v.2-1) ⟨by show-1 <= v.2-1;omega,by show v.2-1<_;omega,h,by show v.2 <= _;omega⟩ (by show (v.2-1+1).toNat<(v.2+1).toNat;omega)
   ·exact ih (v.1,v.2-1) ⟨by show-1 <= v.2-1;omega,by show v.2-1<_;omega,g3,g4⟩ (by show (v.2-1+1).toNat<(v.2+1).toNat;omega)
  ·refine Tot.bind (a5i (by omega) g3 g4) fun a ha=>Tot.ite (fun h2=> ?_) fun h2=>fin _ (by show a.size <= _;omega) (by show a5j.size <= 4;decide)
   simp at h2
   rw [a6l (by omega) (by omega)]
   refine Tot.bind (a5i (by omega) (by omega) (by omega)) fun b hb=> ?_
   simp only [a04,qA]
   refine Tot.ite (fun _=>Tot.some fun h=>by cases h) fun h3=>fin _ (by show a.size <= _;omega) ?_
   simp at h3
   show b.size <= 4
   omega
 unfold a5b
 have last: ∀c:Int,0<(s.size:Int) -> Tot (b47 s (i64 ((s.size:Int)-1))) fun b=>0 <= b /\ b <= 255:=fun c h=>by
  rw [i7 (by omega) (by omega)]
  exact a6s (by omega) (by omega)
 have cut:0<(s.size:Int) -> Tot (c0f s 0 (i64 ((s.size:Int)-1))) fun r=>(r.size:Int)=(s.size:Int)-1-0:=fun h=>by
  rw [i7 (by omega) (by omega)]
  exact a5i (by omega) (by omega) (by omega)
 refine Tot.bind (Q:=fun b=>b=true -> 0<(s.size:Int)) (Tot.ite (fun h=> ?_) fun _=>Tot.some fun h=>by cases h) fun b hb=> ?_
 ·simp at h
  exact Tot.bind (last 0 (by omega)) fun _ _=>Tot.some fun _=>by omega
 refine Tot.ite (fun h=> ?_) fun _=> ?_
 ·exact Tot.bind (cut (hb h)) fun c hc=>j1 _ (by show c.size <= 8000;omega)
 refine Tot.bind (Q:=fun b=>b=true -> 0<(s.size:Int)) (Tot.ite (fun h=> ?_) fun _=>Tot.some fun h=>by cases h) fun b hb=> ?_
 ·simp at h
  exact Tot.bind (last 0 (by omega)) fun _ _=>Tot.some fun _=>by omega
 refine Tot.ite (fun h=> ?_) fun _=>j1 _ hs
 exact Tot.bind (cut (hb h)) fun c hc=>j1 _ (by show c.size <= 8000;omega)
end Go.PL
namespace Go.PL
open Go Go.SX
theorem b95 {s:ByteArray} (hs:s.size <= 8000):Tot (a3c s) fun r=>True:=by
 unfold a3c
 refine Tot.loop (I:=fun v:Int×Int=>0 <= v.2) (μ:=fun v=>((s.size:Int)-v.2).toNat) (Int.le_refl _) (by show ((s.size:Int)-0).toNat<_;omega) ?_
 intro r v g1 ih
 unfold b1v
 refine Tot.ite (fun h=> ?_) fun _=>Tot.some trivial
 simp at h
 obtain ⟨b,hb,_⟩:=a6s (s:=s) g1 h
 simp only [hb,qA,a04]
 refine Tot.ite (fun _=>Tot.some trivial) fun _=> ?_
 rw [a6l (by omega) (by omega)]
 exact ih (_,v.2+1) (by show 0 <= v.2+1;omega) (by show ((s.size:Int)-(v.2+1)).toNat<((s.size:Int)-v.2).toNat;omega)
theorem e22 (a:Int):Tot (a6b a) fun _=>True:=by
 unfold a6b
 have h: ∀k:Int,k≠0 -> Tot (b7d a k) fun _=>True:=fun k hk=>⟨_,c2j hk,trivial⟩
 refine Tot.bind (h 4 (by decide)) fun b _=> ?_
 refine Tot.bind (Q:=fun _=>True) (Tot.ite (fun _=> ?_) fun _=>Tot.some trivial) fun _ _=>Tot.some trivial
 refine Tot.bind (h 100 (by decide)) fun c _=> ?_
 exact Tot.bind (Q:=fun _=>True) (Tot.ite (fun _=>Tot.some trivial) fun _=>Tot.bind (h 400 (by decide)) fun _ _=>Tot.some trivial) fun _ _=>Tot.some trivial
theorem c1o (a b:Int):Tot (y7 a b) fun r=>True:=by
 unfold y7
 refine Tot.ite (fun _=>Tot.bind (e22 a) fun _ _=>Tot.ite (fun _=>Tot.some trivial) fun _=>Tot.some trivial) fun _=> ?_
 repeat' first
  | exact Tot.some trivial
  | (refine Tot.ite (fun _=> ?_) fun _=> ?_)
theorem d5n (a:Int) (h0:a <= 100000):Tot (a1x a) fun r=>True:=by
 unfold a1x
 refine Tot.loop (I:=fun v:Int×Int=>0 <= v.2) (μ:=fun v=>(a-v.2).toNat) (Int.le_refl _) (by show (a-0).toNat<_;omega) ?_
 intro r v g1 ih
 unfold a4x
 refine Tot.ite (fun h=> ?_) fun _=>Tot.some trivial
 simp at h
 refine Tot.bind (b15 g1 (by omega) (by omega)) fun _ _=>Tot.bind (a81 g1 (by omega)) fun _ _=>Tot.bind (c1o _ _) fun _ _=> ?_
 rw [a6l (by omega) (by omega)]
 exact ih (_,v.2+1) (by show 0 <= v.2+1;omega) (by show (a-(v.2+1)).toNat<(a-v.2).toNat;omega)
theorem e3v (a b c:Int):Tot (b0d a b c) fun _=>True:=by
 unfold b0d
 simp only [a04,qA]
 obtain ⟨l,hl,_⟩:=c1o a b
 simp only [hl,qA,a04]
 refine Tot.ite (fun _=>Tot.some trivial) fun h=> ?_
 simp at h
 have e1:i64 ((i64 ((i64 ((i64 (a-1900))*12))+b))-1)=(a-1900)*12+b-1:=by
  rw [i7 (n:=a-1900) (by omega) (by omega),i7 (n:=(a-1900)*12) (by omega) (by omega),i7 (n:=(a-1900)*12+b) (by omega) (by omega),i7 (by omega) (by omega)]
 rw [e1]
 exact Tot.bind (d5n _ (by omega)) fun _ _=>Tot.some trivial
theorem b7l {s:ByteArray} (hs:s.size <= 8000):Tot (a2y s) fun _=>True:=by
 unfold a2y
 by_cases h10:s.size=10
 ·obtain ⟨b,hb,_⟩:=a6s (s:=s) (i:=4) (by omega) (by omega)
  obtain ⟨c,hc,_⟩:=a6s (s:=s) (i:=7) (by omega) (by omega)
  simp only [hb,hc,qA,a04]
  refine Tot.ite (fun _=>Tot.some trivial) fun _=> ?_
  refine Tot.bind (a5i (s:=s) (a:=0) (b:=4) (by omega) (by omega) (by omega)) fun d hd=>Tot.bind (b95 (by omega)) fun e _=> ?_
  refine Tot.bind (a5i (s:=s) (a:=5) (b:=7) (by omega) (by omega) (by omega)) fun f hf=>Tot.bind (b95 (by omega)) fun g _=> ?_
  refine Tot.bind (a5i (s:=s) (a:=8) (b:=s.size) (by omega) (by omega) (by omega)) fun h hh=>Tot.bind (b95 (by omega)) fun i _=> ?_
  refine Tot.ite (fun _=>Tot.some trivial) fun _=> ?_
  exact Tot.bind (e3v _ _ _) fun _ _=>Tot.some trivial
 ·have h1:(((s.size:Int) != 10)=true):=by simp;omega
  rw [if_pos h1,qA,if_pos rfl,qA,if_pos rfl]
  exact Tot.some trivial
theorem e34 {s:ByteArray} (hs:s.size <= 8000) {a:Int} (h0:0 <= a) (h1:a<(s.size:Int)):Tot (a8w s a) fun r=>0 <= r /\ a+r <= (s.size:Int):=by
 have j:Tot (a5w (s,a)) fun r=>0 <= r /\ a+r <= (s.size:Int):=by
  unfold a5w
  refine Tot.bind (a6s h0 h1) fun b _=> ?_
  repeat' first
   | (refine Tot.ite (fun _=> ?_) fun _=> ?_)
   | exact Tot.some ⟨by omega,by omega⟩
 unfold a8w
 have e1:i64 (a+1)=a+1:=i7 (by omega) (by omega)
 have e2:i64 (a+2)=a+2:=i7 (by omega) (by omega)
 rw [e1,e2]
 refine Tot.ite (fun h=> ?_) fun _=>j
 simp at h
 refine Tot.bind (a5i h0 (by omega) (by omega)) fun c _=> ?_
 simp only [a04,qA]
 exact Tot.ite (fun _=>Tot.some ⟨by omega,by omega⟩) fun _=>j
def TG (t:Token):Prop:=1 <= t.Text.size /\ t.Text.size <= 8000
theorem e32 {s:ByteArray} (hs:s.size <= 8000) {a:Int} (h0:0 <= a) (h1:a <= (s.size:Int)):Tot (a8l s a) fun r=>(r.2.2 != 0)=true \/ (r.1.Kind==0)=true \/ (TG r.1 /\ a<r.2.1 /\ r.2.1 <= (s.size:Int)):=by
 have j: ∀(p:Int) (t:Token) (k n:Int) (ok:Bool),a <= p -> (ok=true -> 1 <= n /\ p+n <= (s.size:Int)) -> Tot (a0t (s,p,t,k,n,ok)) fun r=>(r.2.2 != 0)=true \/ (r.1.Kind==0)=true \/ (TG r.1 /\ a<r.2.1 /\ r.2.1 <= (s.size:Int)):=by
  intro p t k n ok hp hn
  unfold a0t
  refine Tot.ite (fun h=>Tot.some (.inl rfl)) fun h=> ?_
  simp at h
  obtain ⟨g1,g2⟩:=hn h
  have e1:i64 (p+n)=p+n:=i7 (by omega) (by omega)
  simp only [e1]
  refine Tot.bind (a5i (by omega) (by omega) (by omega)) fun c hc=>Tot.some (.inr (.inr ⟨⟨?_,?_⟩,?_,?_⟩))
  ·show 1 <= c.size;omega
  ·show c.size <= 8000;omega
  ·show a<p+n;omega
  ·show p+n <= _;omega
 unfold a8l
 have hc:(decide (a<0)||decide (a>(s.size:Int)))=false:=by simp;omega
 rw [a04,qA,hc,if_neg (by simp)]
 refine Tot.bind (e58 hs h0 h1) fun p hp=> ?_
 refine Tot.ite (fun _=>Tot.some (.inr (.inl rfl))) fun hne=> ?_
 have hlt:p<(s.size:Int):=by
  have:p≠(s.size:Int):=by simpa using hne
  omega
 obtain ⟨b,hb,_⟩:=a6s (s:=s) (i:=p) (by omega) hlt
 simp only [hb,qA,c39,c0x]
 refine Tot.ite (fun hl=> ?_) fun hl=>Tot.ite (fun hd=> ?_) fun hd=>Tot.ite (fun h=> ?_) fun h=> ?_
 ·refine Tot.bind (e03 hs (by omega) hlt hb (by rw [hl];rfl) false) fun n hn=> ?_
  exact Tot.join (j _ _ _ _ _ hp.1 fun _=>hn)
 ·refine Tot.bind (e03 hs (by omega) hlt hb (by rw [hd];simp) true) fun n hn=> ?_
  have e1:i64 (p+n)=p+n:=i7 (by omega) (by omega)
  rw [e1]
  refine Tot.bind (a5i (by omega) (by omega) (by omega)) fun c hc=> ?_
  refine Tot.bind (c7y (by omega)) fun q _=> ?_
  exact Tot.join (j _ _ _ _ _ hp.1 fun _=>hn)
 ·have e0:i64 ((s.size:Int)-p)=(s.size:Int)-p:=i7 (by omega) (by omega)
  rw [e0]
  refine Tot.ite (fun h=> ?_) fun h=> ?_
  ·simp at h
   have e1:i64 (p+1)=p+1:=i7 (by omega) (by omega)
   have e2:i64 (p+11)=p+11:=i7 (by omega) (by omega)
   rw [e1,e2]
   refine Tot.bind (a5i (by omega) (by omega) (by omega)) fun c hc=>Tot.bind (b7l (by omega)) fun d _=> ?_
   exact Tot.join (j _ _ _ _ _ hp.1 fun _=>⟨by omega,by omega⟩)
  ·exact Tot.join (j _ _ _ _ _ hp.1 fun hh=>by simp at hh;omega)
 ·refine Tot.bind (e34 hs (by omega) hlt) fun n hn=> ?_
  exact Tot.join (j _ _ _ _ _ hp.1 fun hh=>by simp at hh;omega)
theorem f08 (s:ByteArray):Tot (a9q s) fun r=>(∀t∈r.1,TG t) /\ r.1.length <= 8000 /\ ((r.2.2 != 0)=true \/ s.size <= 8000):=by
 unfold a9q
 refine Tot.ite (fun _=>Tot.some ⟨(fun t ht=>by cases ht),by simp,.inl rfl⟩) fun h=> ?_
 have hs:s.size <= 8000:=by simp at h;omega
 refine Tot.loop (I:=fun v:List Token×Int=>0 <= v.2 /\ v.2 <= (s.size:Int) /\ (v.1.length:Int) <= v.2 /\ ∀t∈v.1,TG t) (μ:=fun v=>((s.size:Int)-v.2).toNat) (s:=([],0)) ⟨Int.le_refl _,by show (0:Int) <= (s.size:Int);omega,by simp,fun t ht=>by cases ht⟩ (by show ((s.size:Int)-0).toNat<_;omega) ?_
 intro r v hI ih
 obtain ⟨g1,g2,g3,g4⟩:=hI
 unfold b3g
 refine Tot.bind (e32 hs g1 g2) fun q hq=> ?_
 refine Tot.ite (fun h=>Tot.some ⟨(fun t ht=>by cases ht),by simp,.inl h⟩) fun hn=>Tot.ite (fun h=>Tot.some ⟨g4,by show v.1.length <= 8000;omega,.inr hs⟩) fun hk=> ?_
 rcases hq with hq | hq | ⟨q1,q2,q3⟩
 ·exact absurd hq hn
 ·exact absurd hq hk
 ·refine Tot.bind (a6v (by simp;omega)) fun l hl=> ?_
  subst hl
  refine ih (v.1++[q.1],q.2.1) ⟨by show 0 <= q.2.1;omega,q3,by simp;omega,fun t ht=> ?_⟩ (by show ((s.size:Int)-q.2.1).toNat<((s.size:Int)-v.2).toNat;omega)
  rcases qK.1 ht with ht | ht
  ·exact g4 t ht
  ·rw [qF] at ht;rw [ht];exact q1
end Go.PL
namespace Go.PL
open Go Go.SX
def RI (r:rQ):Prop:=0 <= r.at_ /\ r.at_ <= (r.l.length:Int) /\ r.l.length <= 8000 /\ ∀t∈r.l,TG t
def RS (r q:rQ):Prop:=q.l=r.l /\ r.at_ <= q.at_ /\ q.at_ <= (r.l.length:Int) /\ (r.bad=true -> q.bad=true)
theorem RS.ri {r q:rQ} (h:RI r) (hs:RS r q):RI q:=by
 obtain ⟨h1,h2,h3,h4⟩:=h
 obtain ⟨e,g1,g2,_⟩:=hs
 exact ⟨by omega,by rw [e];exact g2,by rw [e];exact h3,by rw [e];exact h4⟩
theorem RS.refl {r:rQ} (h:RI r):RS r r:=⟨rfl,Int.le_refl _,h.2.1,id⟩
theorem RS.trans {r q s:rQ} (h:RS r q) (g:RS q s):RS r s:=by
 obtain ⟨e,g1,g2,g3⟩:=h
 obtain ⟨e',g1',g2',g3'⟩:=g
 exact ⟨e'.trans e,by omega,by rw [e] at g2';exact g2',fun h=>g3' (g3 h)⟩
theorem RS.bad {r:rQ} (h:RI r):RS r ⟨r.l,r.at_,r.end_,true⟩:=⟨rfl,Int.le_refl _,h.2.1,fun _=>rfl⟩
theorem RS.next {r:rQ} (h:RI r) (hlt:r.at_<(r.l.length:Int)):i64 (r.at_+1)=r.at_+1 /\ RS r ⟨r.l,r.at_+1,r.end_,r.bad⟩:=by
 obtain ⟨h1,h2,h3,h4⟩:=h
 exact ⟨a6l h1 (by omega),rfl,by show r.at_ <= r.at_+1;omega,by show r.at_+1 <= _;omega,id⟩
theorem d9a {r:rQ} (h:RI r) (s:ByteArray):Tot (s5 r s) fun b=>b=true -> r.bad=false /\ r.at_<(r.l.length:Int):=by
 unfold s5
 rw [m6,qA]
 refine Tot.bind (Q:=fun b=>b=true -> r.bad=false /\ r.at_<(r.l.length:Int)) (Tot.ite (fun hc=> ?_) fun _=>Tot.some fun h=>by cases h) fun b hb=>Tot.some hb
 simp at hc
 exact Tot.bind (l7 h.1 hc.2) fun _ _=>Tot.some fun _=>hc
theorem b64 {r:rQ} (h:RI r) (k:Int):Tot (o5 r k) fun b=>b=true -> r.bad=false /\ r.at_<(r.l.length:Int):=by
 unfold o5
 rw [m6,qA]
 refine Tot.bind (Q:=fun b=>b=true -> r.bad=false /\ r.at_<(r.l.length:Int)) (Tot.ite (fun hc=> ?_) fun _=>Tot.some fun h=>by cases h) fun b hb=>Tot.some hb
 simp at hc
 exact Tot.bind (l7 h.1 hc.2) fun _ _=>Tot.some fun _=>hc
theorem a6r {r:rQ} (h:RI r) (s:ByteArray):Tot (d4 r s) fun q=>RS r q.2 /\ (q.1=true -> r.at_<q.2.at_) /\ q.2.bad=r.bad /\ (q.1=false -> q.2=r):=by
 unfold d4
 refine Tot.bind (d9a h s) fun b hb=>Tot.ite (fun hn=>Tot.some ⟨RS.refl h,fun h=>(by cases h),rfl,fun _=>rfl⟩) fun hn=> ?_
 simp at hn
 obtain ⟨e,hs⟩:=RS.next h (hb hn).2
 rw [e]
 exact Tot.some ⟨hs,fun _=>(by show r.at_<r.at_+1;omega),rfl,fun h=>by cases h⟩
theorem a1n {r:rQ} (h:RI r) (s:ByteArray):Tot (b9 r s) fun q=>RS r q /\ (r.at_<q.at_ \/ q.bad=true):=by
 unfold b9
 refine Tot.bind (a6r h s) fun q hq=>Tot.ite (fun hn=> ?_) fun hn=>Tot.some ⟨hq.1,.inl (hq.2.1 (by simpa using hn))⟩
 unfold j4
 rw [qA]
 exact Tot.some ⟨hq.1.trans (RS.bad (hq.1.ri h)),.inr rfl⟩
theorem b9c (r:rQ):j4 r=some ⟨r.l,r.at_,r.end_,true⟩:=rfl
theorem d64 {s:ByteArray} (hs:s.size <= 8000):Tot (a6x s) fun _=>True:=by
 unfold a6x
 refine Tot.loop (I:=fun v:Int=>0 <= v) (μ:=fun v=>((s.size:Int)-v).toNat) (Int.le_refl _) (by omega) ?_
 intro r v g1 ih
 unfold b1n
 refine Tot.ite (fun h=> ?_) fun _=> ?_
 ·simp at h
  obtain ⟨b,hb,_⟩:=a6s (s:=s) g1 h
  simp only [hb,qA,c39,c0x,a04,m6]
  refine Tot.ite (fun _=>Tot.some trivial) fun _=> ?_
  rw [a6l (by omega) (by omega)]
  exact ih (v+1) (by omega) (by omega)
 ·rw [m6,qA]
  exact Tot.some trivial
theorem d2d (s:ByteArray):Tot (a5k s) fun _=>True:=by
 unfold a5k
 repeat' first
  | exact Tot.some trivial
  | (refine Tot.ite (fun _=> ?_) fun _=> ?_)
theorem b6c {s:ByteArray} (hs:s.size <= 8000):Tot (a1f s) fun _=>True:=by
 unfold a1f
 refine Tot.bind (d64 hs) fun b _=> ?_
 exact Tot.bind (Q:=fun _=>True) (Tot.ite (fun _=>Tot.bind (d2d s) fun _ _=>Tot.some trivial) fun _=>Tot.some trivial) fun _ _=>Tot.some trivial
theorem c62 {r:rQ} (h:RI r):Tot (a09 r) fun q=>RS r q.2 /\ q.1.size <= 8000 /\ (r.at_<q.2.at_ \/ q.2.bad=true):=by
 unfold a09
 refine Tot.bind (b64 h 1) fun b hb=> ?_
 refine Tot.bind (Q:=fun c=>c=false -> r.at_<(r.l.length:Int)) (Tot.ite (fun _=>Tot.some fun h=>by cases h) fun hn=> ?_) fun c hc=> ?_
 ·have hlt:=(hb (by simpa using hn)).2
  obtain ⟨t,ht,hm⟩:=l7 h.1 hlt
  rw [ht,qA]
  exact Tot.bind (b6c (h.2.2.2 t hm).2) fun _ _=>Tot.some fun _=>hlt
 ·refine Tot.ite (fun _=> ?_) fun hn=> ?_
  ·rw [b9c,qA]
   exact Tot.some ⟨RS.bad h,(by show a5j.size <= 8000;decide),.inr rfl⟩
  ·have hlt:=hc (by simpa using hn)
   obtain ⟨e,hs⟩:=RS.next h hlt
   have h1:=h.1
   have h3:=h.2.2.1
   have e2:i64 (r.at_+1-1)=r.at_:=by rw [i7 (by omega) (by omega)];omega
   rw [e,e2]
   obtain ⟨t,ht,hm⟩:=l7 h.1 hlt
   rw [ht,qA]
   exact Tot.some ⟨hs,(h.2.2.2 t hm).2,.inl (by show r.at_<r.at_+1;omega)⟩
theorem c0p (a:Int): ∃v,a2r a=some v /\ 0 <= v /\ v <= 18446744073709551615 /\ (0 <= a -> a <= 18446744073709551615 -> v=a):=by
 unfold a2r
 split
 ·rename_i h
  simp at h
  exact ⟨_,rfl,(b7j _).1,(b7j _).2,fun h0=>by omega⟩
 ·exact ⟨_,rfl,(b7j _).1,(b7j _).2,fun h0 h1=>e11 h0 h1⟩
theorem d3j {a b:Int} (ha:0 <= a) (hb:0 <= b) (h:0<a+b) (hma:a <= 18446744073709551615) (hm:b <= 18446744073709551615):Tot (a7a a b) fun g=>0<g /\ g <= 18446744073709551615:=by
 unfold a7a
 refine Tot.loop (I:=fun v:Int×Int=>0 <= v.1 /\ 0 <= v.2 /\ 0<v.1+v.2 /\ v.1 <= 18446744073709551615 /\ v.2 <= 18446744073709551615) (μ:=fun v=>v.2.toNat) ⟨ha,hb,h,hma,hm⟩ (by show b.toNat<_;omega) ?_
 intro r v hI ih
 obtain ⟨g1,g2,g3,g4,g5⟩:=hI
 unfold b3r
 refine Tot.ite (fun hc=> ?_) fun hc=>Tot.some ⟨by simp at hc;omega,g4⟩
 have hv:0<v.2:=by
  have:v.2≠0:=by simpa using hc
  omega
 refine Tot.bind (a81 g1 hv) fun c hcc=>ih (v.2,c) ⟨g2,hcc.2.1,by show 0<v.2+c;omega,g5,by show c <= _;omega⟩ (by show c.toNat<v.2.toNat;omega)
theorem d3e {lo d:Int} (h0:0 <= lo) (h1:lo <= 18446744073709551615) (hd:0<d) (hd1:d <= 18446744073709551615):Tot (a2e ⟨0,lo⟩ d) fun q=>0 <= q.2 /\ q.2<d:=by
 unfold a2e
 dsimp only
 refine Tot.bind (a81 (Int.le_refl 0) hd) fun z hz=> ?_
 have hz0:z=0:=by omega
 subst hz0
 have hD:Tot (b60 0 lo d) fun q=>0 <= q.2 /\ q.2<d:=by
  unfold b60 b7r b7y
  rw [if_neg (by simp;omega)]
  refine Tot.join ?_
  dsimp only
  rw [if_neg (by simp;omega)]
  refine Tot.join ?_
  dsimp only
  refine Tot.ite (fun _=> ?_) fun hn=>absurd rfl hn
  rw [if_neg (by omega),qA]
  exact Tot.bind (a81 h0 hd) fun r hr=>Tot.some ⟨hr.2.1,hr.2.2.1⟩
 refine Tot.bind hD fun q hq=> ?_
 rw [if_neg (by omega),qA]
 exact Tot.some hq
theorem b9e (a:Int) {d:Int} (hd:0<d) (hd1:d <= 100000):Tot (a2l a d) fun _=>True:=by
 unfold a2l
 rw [if_neg (by simp;omega)]
 obtain ⟨x,hx,x0,x1,_⟩:=c0p a
 obtain ⟨y,hy,y0,y1,y2⟩:=c0p d
 have hyd:=y2 (by omega) (by omega)
 subst hyd
 rw [hx,hy,qA,qA]
 refine Tot.bind (Q:=fun _=>True) ?_ fun _ _=>Tot.some trivial
 unfold b00
 refine Tot.bind (d3e x0 x1 hd (by omega)) fun q hq=> ?_
 refine Tot.bind (d3j (a:=y) (b:=q.2) (by omega) hq.1 (by omega) (by omega) (by omega)) fun g hg=> ?_
 refine Tot.bind (d3e x0 x1 hg.1 hg.2) fun w _=> ?_
 rw [if_neg (by omega),qA]
 simp only [a04,qA]
 exact Tot.ite (fun _=>Tot.some trivial) fun _=>Tot.ite (fun _=>Tot.some trivial) fun _=>Tot.some trivial
theorem b70 {s:ByteArray} (hs:s.size <= 8000):Tot (a1t s) fun _=>True:=by
 unfold a1t
 refine Tot.bind (c7y hs) fun p hp=>Tot.ite (fun _=>Tot.some trivial) fun hn=> ?_
 obtain ⟨p1,p2⟩:=hp (by simpa using hn)
 have e1:i64 ((p.1.size:Int)+(p.2.1.size:Int))=(p.1.size:Int)+(p.2.1.size:Int):=i7 (by omega) (by omega)
 refine Tot.loop (I:=fun v:Fraction×Int×Int×Int=>0 <= v.2.2.2 /\ v.2.2.2 <= (p.1.size:Int)+(p.2.1.size:Int) /\ ((v.2.2.2 <= (p.1.size:Int) /\ v.2.2.1=1) \/ (v.2.2.2=(p.1.size:Int)+1 /\ v.2.2.1=10) \/ (v.2.2.2=(p.1.size:Int)+2 /\ v.2.2.1=100) \/ (v.2.2.2=(p.1.size:Int)+3 /\ v.2.2.1=1000) \/ (v.2.2.2=(p.1.size:Int)+4 /\ v.2.2.1=10000)))
  (μ:=fun v=>((p.1.size:Int)+(p.2.1.size:Int)-v.2.2.2).toNat) ⟨Int.le_refl _,by show (0:Int) <= (p.1.size:Int)+(p.2.1.size:Int);omega,.inl ⟨by show (0:Int) <= (p.1.size:Int);omega,rfl⟩⟩ (by show ((p.1.size:Int)+(p.2.1.size:Int)-0).toNat<_;omega) ?_
 intro r v hI ih
 obtain ⟨g1,g2,g3⟩:=hI
 unfold b0l
 rw [e1]
 refine Tot.ite (fun h=> ?_) fun h=> ?_
 ·simp at h
  refine Tot.bind (d6 (by omega)) fun c hc=>Tot.bind (a6s g1 (by omega)) fun b _=> ?_
  rw [a6l g1 (by omega)]
  refine Tot.ite (fun h2=> ?_) fun h2=> ?_
  ·simp at h2
   have e2:i64 (v.2.2.1*10)=v.2.2.1*10:=i7 (by omega) (by omega)
   rw [e2]
   exact ih (_,_,v.2.2.1*10,v.2.2.2+1) ⟨by show 0 <= v.2.2.2+1;omega,by show v.2.2.2+1 <= _;omega,by
    show (v.2.2.2+1 <= (p.1.size:Int) /\ v.2.2.1*10=1) \/ (v.2.2.2+1=(p.1.size:Int)+1 /\ v.2.2.1*10=10) \/ (v.2.2.2+1=(p.1.size:Int)+2 /\ v.2.2.1*10=100) \/ (v.2.2.2+1=(p.1.size:Int)+3 /\ v.2.2.1*10=1000) \/ (v.2.2.2+1=(p.1.size:Int)+4 /\ v.2.2.1*10=10000)
    omega⟩ (by show ((p.1.size:Int)+(p.2.1.size:Int)-(v.2.2.2+1)).toNat<((p.1.size:Int)+(p.2.1.size:Int)-v.2.2.2).toNat;omega)
  ·simp at h2
   exact ih (_,_,v.2.2.1,v.2.2.2+1) ⟨by show 0 <= v.2.2.2+1;omega,by show v.2.2.2+1 <= _;omega,by
    show (v.2.2.2+1 <= (p.1.size:Int) /\ v.2.2.1=1) \/ (v.2.2.2+1=(p.1.size:Int)+1 /\ v.2.2.1=10) \/ (v.2.2.2+1=(p.1.size:Int)+2 /\ v.2.2.1=100) \/ (v.2.2.2+1=(p.1.size:Int)+3 /\ v.2.2.1=1000) \/ (v.2.2.2+1=(p.1.size:Int)+4 /\ v.2.2.1=10000)
    omega⟩ (by show ((p.1.size:Int)+(p.2.1.size:Int)-(v.2.2.2+1)).toNat<((p.1.size:Int)+(p.2.1.size:Int)-v.2.2.2).toNat;omega)
 ·exact Tot.bind (b9e _ (by omega) (by omega)) fun _ _=>Tot.some trivial
theorem b5u {r:rQ} (h:RI r) (a b:Int):Tot (p6 r a b) fun q=>RS r q.2 /\ (r.at_<q.2.at_ \/ q.2.bad=true):=by
 unfold p6
 simp only [b9c,qA]
 refine Tot.bind (b64 h 2) fun c hc=>Tot.ite (fun hp=> ?_) fun _=>Tot.some ⟨RS.bad h,.inr rfl⟩
 have hlt:=(hc hp).2
 refine Tot.bind (l7 h.1 hlt) fun t ht=>Tot.bind (b70 (h.2.2.2 t ht).2) fun d _=> ?_
 simp only [m6,qA]
 obtain ⟨e,hs⟩:=RS.next h hlt
 rw [e]
 exact Tot.ite (fun _=>Tot.some ⟨hs,.inl (by show r.at_<r.at_+1;omega)⟩) fun _=>Tot.some ⟨RS.bad h,.inr rfl⟩
theorem d94 {s:ByteArray} (h1:1 <= s.size) (h2:s.size <= 8000):Tot (a7o s) fun _=>True:=by
 unfold a7o
 exact Tot.bind (a5i (by omega) (by omega) (by omega)) fun c hc=>Tot.bind (b7l (by omega)) fun _ _=>Tot.some trivial
theorem d4p (s:ByteArray):Tot (a6g s) fun _=>True:=by
 unfold a6g
 repeat' first
  | exact Tot.some trivial
  | (refine Tot.ite (fun _=> ?_) fun _=> ?_)
theorem c1s (s:ByteArray):Tot (a3q s) fun _=>True:=by
 unfold a3q
 repeat' first
  | exact Tot.some trivial
  | (refine Tot.ite (fun _=> ?_) fun _=> ?_)
theorem d3n (s:ByteArray):Tot (a6e s) fun _=>True:=by
 unfold a6e
 repeat' first
  | exact Tot.some trivial
  | (refine Tot.ite (fun _=> ?_) fun _=> ?_)
theorem d4m {r:rQ} (h:RI r) {a:Int} (h1:1 <= a) (h3:a <= 3):Tot (a05 r a) fun q=>RS r q.2 /\ (r.at_<q.2.at_ \/ q.2.bad=true):=by
 unfold a05
 simp only [b9c,qA]
 refine Tot.bind (b64 h 1) fun c hc=>Tot.ite (fun hp=> ?_) fun _=>Tot.some ⟨RS.bad h,.inr rfl⟩
 have hlt:=(hc hp).2
 refine Tot.bind (l7 h.1 hlt) fun t ht=>Tot.bind (d4p _) fun k _=>Tot.bind (c1s _) fun b _=>Tot.bind (d3n _) fun m _=> ?_
 have e1:i64 (a-1)=a-1:=i7 (by omega) (by omega)
 rw [e1]
 obtain ⟨e,hs⟩:=RS.next h hlt
 rw [e]
 obtain ⟨x,hx,_⟩:=l7 (l:=[k,b,m]) (i:=a-1) (by omega) (by simp;omega)
 rw [hx,qA,qA]
 exact Tot.ite (fun _=>Tot.some ⟨hs,.inl (by show r.at_<r.at_+1;omega)⟩) fun _=>Tot.some ⟨RS.bad h,.inr rfl⟩
end Go.PL
namespace Go.PL
open Go Go.SX
theorem d4b (a:Int):Tot (a68 a) fun _=>True:=by
 unfold a68
 simp only [m6,qA]
 repeat' first
  | exact Tot.some trivial
  | (refine Tot.ite (fun _=> ?_) fun _=> ?_)
theorem e0j (a:Int):Tot (a7y a) fun _=>True:=by
 have j2: ∀q:Int×Bool,Tot (a55 q) fun _=>True:=by
  intro q
  unfold a55
  repeat' first
   | exact Tot.some trivial
   | (refine Tot.ite (fun _=> ?_) fun _=> ?_)
 have j1: ∀q:Int×Bool,Tot (y3 q) fun _=>True:=by
  intro q
  unfold y3
  repeat' first
   | exact Tot.some trivial
   | exact Tot.join (j2 _)
   | (refine Tot.ite (fun _=> ?_) fun _=> ?_)
 unfold a7y
 repeat' first
  | exact Tot.some trivial
  | exact Tot.join (j1 _)
  | (refine Tot.ite (fun _=> ?_) fun _=> ?_)
theorem d5l (a:Int):Tot (a71 a) fun _=>True:=by
 unfold a71
 repeat' first
  | exact Tot.some trivial
  | (refine Tot.ite (fun _=> ?_) fun _=> ?_)
theorem d5u {r:rQ} (h:RI r) (k:Int):Tot (a2a r k) fun o=>(o==0)=true \/ r.at_<(r.l.length:Int):=by
 unfold a2a
 refine Tot.loop (I:=fun v:Int=>0 <= v /\ v <= 19) (μ:=fun v=>(19-v).toNat) ⟨by omega,by omega⟩ (by decide) ?_
 intro rc v hI ih
 obtain ⟨g1,g2⟩:=hI
 unfold a6y
 refine Tot.ite (fun hv=> ?_) fun _=>Tot.some (.inl rfl)
 simp at hv
 refine Tot.bind (e0j v) fun l _=> ?_
 refine Tot.bind (Q:=fun b=>b=true -> r.at_<(r.l.length:Int)) (Tot.ite (fun _=> ?_) fun _=>Tot.some fun h=>by cases h) fun b hb=> ?_
 ·exact Tot.bind (d5l v) fun s _=>Tot.bind (d9a h s) fun b hb=>Tot.some fun hh=>(hb hh).2
 refine Tot.ite (fun hp=>Tot.some (.inr (hb hp))) fun _=> ?_
 rw [a6l g1 (by omega)]
 exact ih (v+1) ⟨by omega,by omega⟩ (by omega)
def EB:Nat -> Expr -> Prop
 | 0,_=>False
 | n+1,e=>e.Args.length <= 3 /\ e.Name.size <= 8000 /\ ∀a∈e.Args,EB n a
theorem EB.succ: ∀{n:Nat} {e:Expr},EB n e -> EB (n+1) e
 | 0,_,h=>h.elim
 | n+1,e,h=>⟨h.1,h.2.1,fun a ha=>(h.2.2 a ha).succ⟩
theorem EB.mono {n m:Nat} {e:Expr} (h:EB n e) (hm:n <= m):EB m e:=by
 induction hm with
 | refl=>exact h
 | step _ ih=>exact ih.succ
theorem EB.leaf {n:Nat} {o:Int} {f:Fraction} {d:Int} {s:ByteArray} (hs:s.size <= 8000):EB (n+1) ⟨o,f,d,s,[]⟩:=⟨by simp,hs,fun a ha=>by cases ha⟩
theorem EB.one {n:Nat} {o:Int} {f:Fraction} {d:Int} {a:Expr} (h:EB n a):EB (n+1) ⟨o,f,d,a5j,[a]⟩:=⟨by simp,(by decide:a5j.size <= 8000),fun x hx=>by
 have hx:x∈[a]:=hx
 rw [qF] at hx;subst hx;exact h⟩
theorem EB.two {n:Nat} {o:Int} {f:Fraction} {d:Int} {a b:Expr} (h:EB n a) (hb:EB n b):EB (n+1) ⟨o,f,d,a5j,[a,b]⟩:=⟨by simp,(by decide:a5j.size <= 8000),fun x hx=>by
 have hx:x∈[a,b]:=hx
 rcases qO.1 hx with rfl | hx
 ·exact h
 ·rw [qF] at hx;subst hx;exact hb⟩
theorem EB.three {n:Nat} {o:Int} {f:Fraction} {d:Int} {a b c:Expr} (h:EB n a) (hb:EB n b) (hc:EB n c):EB (n+1) ⟨o,f,d,a5j,[a,b,c]⟩:=⟨by simp,(by decide:a5j.size <= 8000),fun x hx=>by
 have hx:x∈[a,b,c]:=hx
 rcases qO.1 hx with rfl | hx
 ·exact h
 ·rcases qO.1 hx with rfl | hx
  ·exact hb
  ·rw [qF] at hx;subst hx;exact hc⟩
def EQ (r:rQ) (q:Expr×rQ):Prop:=RS r q.2 /\ EB ((q.2.at_-r.at_).toNat+1) q.1
def left (r:rQ):Nat:=((r.l.length:Int)-r.at_).toNat
theorem b0z {r q:rQ} (h:RS r q):left q <= left r:=by
 unfold left;rw [h.1];have:=h.2.1;omega
theorem b5h {r q:rQ} (hr:RI r) (h:RS r q) (hlt:r.at_<q.at_):left q<left r:=by
 have h2:=h.2.2.1
 unfold left;rw [h.1];omega
structure RB (R:eQ) (n:Nat):Prop where
 e: ∀r k,RI r -> 0 <= k -> k <= 7 -> 10*left r+(9-k.toNat)<n -> Tot (R.f_pensionref5_reader_expr r k) (EQ r)
 f: ∀r,RI r -> 10*left r+1<n -> Tot (R.f_pensionref5_reader_factor r) (EQ r)
 c: ∀r k,RI r -> r.at_<(r.l.length:Int) -> 10*left r<n -> Tot (R.f_pensionref5_reader_call r k) (EQ r)
section
variable {R:eQ} {n:Nat}
theorem e1x (hR:RB R n) {r:rQ} (hr:RI r) (hlt:r.at_<(r.l.length:Int)) (k:Int) (hn:10*left r<n+1):Tot (a29 R r k) (EQ r):=by
 unfold a29
 obtain ⟨e0,hs0⟩:=RS.next hr hlt
 rw [e0]
 have hr0:=hs0.ri hr
 have hl0:left ⟨r.l,r.at_+1,r.end_,r.bad⟩<left r:=b5h hr hs0 (by show r.at_<r.at_+1;omega)
 refine Tot.bind (a1n hr0 _) fun q1 h1=> ?_
 have hs1:=hs0.trans h1.1
 have hl1:=b0z h1.1
 have ha1:r.at_+1 <= q1.at_:=h1.1.2.1
 refine Tot.bind (hR.e q1 0 (hs1.ri hr) (by omega) (by omega) (by omega)) fun x1 g1=> ?_
 have hs2:=hs1.trans g1.1
 have hl2:=b0z g1.1
 have ha2:=g1.1.2.1
 refine Tot.bind (d4b k) fun m _=>Tot.ite (fun _=> ?_) fun _=> ?_
 ·refine Tot.bind (a1n (hs2.ri hr) _) fun q2 h2=> ?_
  have hs3:=hs2.trans h2.1
  have hl3:=b0z h2.1
  have ha3:=h2.1.2.1
  have e5:c8 [x1.1] 0=some x1.1:=rfl
  rw [e5,qA]
  refine Tot.bind (hR.e q2 0 (hs3.ri hr) (by omega) (by omega) (by omega)) fun x2 g2=> ?_
  have hs4:=hs3.trans g2.1
  have ha4:=g2.1.2.1
  refine Tot.bind (a1n (hs4.ri hr) _) fun q3 h3=> ?_
  have hs5:=hs4.trans h3.1
  have ha5:=h3.1.2.1
  exact Tot.some ⟨hs5,(EB.two (g1.2.mono (by omega)) (g2.2.mono (by omega)):EB ((q3.at_-r.at_).toNat+1) _)⟩
 ·refine Tot.bind (a1n (hs2.ri hr) _) fun q2 h2=> ?_
  have ha3:=h2.1.2.1
  exact Tot.some ⟨hs2.trans h2.1,(EB.one (g1.2.mono (by omega)):EB ((q2.at_-r.at_).toNat+1) _)⟩
theorem d0w (hR:RB R n) {r:rQ} (hr:RI r) (hn:10*left r+1<n+1):Tot (a1e R r) (EQ r):=by
 unfold a1e
 refine Tot.bind (b64 hr 2) fun c hc=>Tot.ite (fun hp=> ?_) fun _=> ?_
 ·have hlt:=(hc hp).2
  refine Tot.bind (l7 hr.1 hlt) fun t ht=>Tot.bind (b70 (hr.2.2.2 t ht).2) fun d _=> ?_
  obtain ⟨e,hs⟩:=RS.next hr hlt
  rw [e]
  exact Tot.some ⟨hs,EB.leaf (by decide)⟩
 refine Tot.bind (a6r hr _) fun t1 h1=>Tot.ite (fun hp=> ?_) fun hp=> ?_
 ·have hl:=b5h hr h1.1 (h1.2.1 hp)
  have ha:=h1.2.1 hp
  refine Tot.bind (hR.e t1.2 7 (h1.1.ri hr) (by omega) (by omega) (by omega)) fun x g=> ?_
  have ha2:=g.1.2.1
  exact Tot.some ⟨h1.1.trans g.1,(EB.one (g.2.mono (by omega)):EB ((x.2.at_-r.at_).toNat+1) _)⟩
 have e1:t1.2=r:=h1.2.2.2 (by simpa using hp)
 rw [e1]
 refine Tot.bind (a6r hr _) fun t2 h2=>Tot.ite (fun hp=> ?_) fun hp=> ?_
 ·have hl:=b5h hr h2.1 (h2.2.1 hp)
  have ha:=h2.2.1 hp
  refine Tot.bind (hR.e t2.2 0 (h2.1.ri hr) (by omega) (by omega) (by omega)) fun x g=> ?_
  have hs:=h2.1.trans g.1
  have ha2:=g.1.2.1
  refine Tot.bind (a1n (hs.ri hr) _) fun q hq=> ?_
  have ha3:=hq.1.2.1
  exact Tot.some ⟨hs.trans hq.1,g.2.mono (by show _ <= (q.at_-r.at_).toNat+1;omega)⟩
 have e2:t2.2=r:=h2.2.2.2 (by simpa using hp)
 rw [e2]
 refine Tot.bind (a6r hr _) fun t3 h3=>Tot.ite (fun hp=> ?_) fun hp=> ?_
 ·refine Tot.bind (a1n (h3.1.ri hr) _) fun q1 g1=> ?_
  have hs1:=h3.1.trans g1.1
  refine Tot.bind (b5u (hs1.ri hr) 1 45) fun q2 g2=> ?_
  have hs2:=hs1.trans g2.1
  refine Tot.bind (a1n (hs2.ri hr) _) fun q3 g3=> ?_
  exact Tot.some ⟨hs2.trans g3.1,EB.leaf (by decide)⟩
 have e3:t3.2=r:=h3.2.2.2 (by simpa using hp)
 rw [e3]
 have cl: ∀(s:ByteArray) (k:Int) (o:Option (Expr×rQ)),Tot o (EQ r) -> Tot (Option.bind (s5 r s) fun b=>if b=true then Option.bind (R.f_pensionref5_reader_call r k) fun v=>some (v.1,v.2) else o) (EQ r):=by
  intro s k o ho
  refine Tot.bind (d9a hr s) fun b hb=>Tot.ite (fun hp=> ?_) fun _=>ho
  exact Tot.bind (hR.c r k hr (hb hp).2 (by omega)) fun v hv=>Tot.some hv
 refine cl _ _ _ (cl _ _ _ (cl _ _ _ ?_))
 refine Tot.bind (c62 hr) fun q hq=>Tot.some ⟨hq.1,EB.leaf hq.2.1⟩
theorem e0k (hR:RB R n) {r:rQ} (hr:RI r) {k:Int} (h0:0 <= k) (h7:k <= 7) (hn:10*left r+(9-k.toNat)<n+1):Tot (a1y R r k) (EQ r):=by
 unfold a1y
 refine Tot.ite (fun _=>Tot.some ⟨RS.refl hr,EB.leaf (by decide)⟩) fun hbad=> ?_
 refine Tot.ite (fun hk=> ?_) fun hk=> ?_
 ·simp at hk
  subst hk
  refine Tot.bind (a6r hr _) fun t ht=>Tot.ite (fun hp=> ?_) fun hp=> ?_
  ·have e1:t.2=r:=ht.2.2.2 (by simpa using hp)
   rw [e1]
   exact Tot.bind (hR.e r 1 hr (by omega) (by omega) (by omega)) fun v hv=>Tot.some hv
  ·have hc:=ht.2.1 (by simpa using hp)
   have hl:=b5h hr ht.1 hc
   refine Tot.bind (hR.e t.2 0 (ht.1.ri hr) (by omega) (by omega) (by omega)) fun x1 g1=> ?_
   have hs1:=ht.1.trans g1.1
   have hl1:=b0z g1.1
   have ha1:=g1.1.2.1
   refine Tot.bind (a1n (hs1.ri hr) _) fun q1 w1=> ?_
   have hs2:=hs1.trans w1.1
   have hl2:=b0z w1.1
   have ha2:=w1.1.2.1
   refine Tot.bind (hR.e q1 0 (hs2.ri hr) (by omega) (by omega) (by omega)) fun x2 g2=> ?_
   have hs3:=hs2.trans g2.1
   have hl3:=b0z g2.1
   have ha3:=g2.1.2.1
   refine Tot.bind (a1n (hs3.ri hr) _) fun q2 w2=> ?_
   have hs4:=hs3.trans w2.1
   have hl4:=b0z w2.1
   have ha4:=w2.1.2.1
   refine Tot.bind (hR.e q2 0 (hs4.ri hr) (by omega) (by omega) (by omega)) fun x3 g3=> ?_
   have ha5:=g3.1.2.1
   exact Tot.some ⟨hs4.trans g3.1,(EB.three (g1.2.mono (by omega)) (g2.2.mono (by omega)) (g3.2.mono (by omega)):EB ((x3.2.at_-r.at_).toNat+1) _)⟩
 have hk0:k≠0:=by simpa using hk
 refine Tot.ite (fun hk3=> ?_) fun _=> ?_
 ·simp at hk3
  subst hk3
  refine Tot.bind (a6r hr _) fun t ht=>Tot.ite (fun hp=> ?_) fun hp=> ?_
  ·have hc:=ht.2.1 hp
   have hl:=b5h hr ht.1 hc
   refine Tot.bind (hR.e t.2 3 (ht.1.ri hr) (by omega) (by omega) (by omega)) fun x g=> ?_
   have ha:=g.1.2.1
   exact Tot.some ⟨ht.1.trans g.1,(EB.one (g.2.mono (by omega)):EB ((x.2.at_-r.at_).toNat+1) _)⟩
  ·have e1:t.2=r:=ht.2.2.2 (by simpa using hp)
   rw [e1]
   exact Tot.bind (hR.e r 4 hr (by omega) (by omega) (by omega)) fun v hv=>Tot.some hv
 refine Tot.ite (fun hk7=> ?_) fun hk7=> ?_
 ·simp at hk7
  subst hk7
  exact Tot.bind (hR.f r hr (by omega)) fun v hv=>Tot.some hv
 have hk7:k≠7:=by simpa using hk7
 have ek:i64 (k+1)=k+1:=a6l h0 (by omega)
 rw [ek]
 refine Tot.bind (hR.e r (k+1) hr (by omega) (by omega) (by omega)) fun x g=> ?_
 refine Tot.loop (I:=fun v:rQ×(List Expr)×Expr×Expr=>RS r v.1 /\ EB ((v.1.at_-r.at_).toNat+1) v.2.2.2) (μ:=fun v=>left v.1) (s:=(x.2,[],(⟨0,(⟨0,0⟩:Fraction),0,a5j,[]⟩:Expr),x.1)) g (by
  show left x.2<_
  have:=b0z g.1
  have h8:=hr.2.2.1
  have h9:left r <= 8000:=by unfold left;have:=hr.1;omega
  omega) ?_
 intro rc v hI ih
 obtain ⟨g1,g2⟩:=hI
 have hv:=g1.ri hr
 have hlv:=b0z g1
 unfold a89
 refine Tot.ite (fun _=> ?_) fun _=>Tot.some ⟨g1,g2⟩
 rw [ek]
 refine Tot.bind (d5u hv k) fun o ho=>Tot.ite (fun _=>Tot.some ⟨g1,g2⟩) fun hno=> ?_
 have hlt:v.1.at_<(v.1.l.length:Int):=ho.resolve_left hno
 obtain ⟨e,hs⟩:=RS.next hv hlt
 rw [e]
 have hs1:=g1.trans hs
 have hl1:left ⟨v.1.l,v.1.at_+1,v.1.end_,v.1.bad⟩<left v.1:=b5h hv hs (by show v.1.at_<v.1.at_+1;omega)
 refine Tot.bind (hR.e _ (k+1) (hs1.ri hr) (by omega) (by omega) (by omega)) fun y gy=> ?_
 have hs2:=hs1.trans gy.1
 have ha:v.1.at_+1 <= y.2.at_:=gy.1.2.1
 have ha0:=g1.2.1
 have hb:=gy.2
 have hb:EB ((y.2.at_-(v.1.at_+1)).toNat+1) y.1:=hb
 have hE:EB ((y.2.at_-r.at_).toNat+1) (⟨o,(⟨0,0⟩:Fraction),0,a5j,[v.2.2.2,y.1]⟩:Expr):=EB.two (g2.mono (by omega)) (hb.mono (by omega))
 refine Tot.ite (fun _=>Tot.some ⟨hs2,hE⟩) fun _=> ?_
 exact ih _ ⟨hs2,hE⟩ (by
  show left y.2<left v.1
  have:=b0z gy.1
  omega)
end
theorem b82: ∀n,RB (c7 n) n
 | 0=>⟨fun _ _ _ _ _ h=>by omega,fun _ _ h=>by omega,fun _ _ _ _ h=>by omega⟩
 | n+1=>⟨fun r k hr h0 h7 hn=>e0k (b82 n) hr h0 h7 hn,fun r hr hn=>d0w (b82 n) hr hn,fun r k hr hlt hn=>e1x (b82 n) hr hlt k hn⟩
theorem c0l {r:rQ} (hr:RI r):Tot (a08 r 0) fun q=>RS r q.2 /\ EB 8001 q.1:=by
 have h8:=hr.2.2.1
 have h0:=hr.1
 have h9:left r <= 8000:=by unfold left;omega
 unfold a08
 refine ((b82 FU).e r 0 hr (by omega) (by omega) (by unfold FU;omega)).mono fun q hq=>⟨hq.1,hq.2.mono ?_⟩
 have:=hq.1.2.2.1
 omega
end Go.PL
namespace Go.PL
open Go Go.SX
def LG (k:Int) (c:List Credit) (i:List Index) (l:List Let) (g:List Grant) (d:List Reduce):Prop:=
 (c.length:Int) <= k /\ (i.length:Int) <= k /\ (l.length:Int) <= k /\ (g.length:Int) <= k /\ (d.length:Int) <= k /\
 (∀x∈l,x.Name.size <= 8000 /\ EB 8001 x.Body) /\ (∀x∈g,EB 8001 x.If /\ EB 8001 x.Pay) /\ ∀x∈d,EB 8001 x.By
theorem LG.up {k m:Int} {c:List Credit} {i:List Index} {l:List Let} {g:List Grant} {d:List Reduce} (h:LG k c i l g d) (hm:k <= m):LG m c i l g d:=by
 obtain ⟨h1,h2,h3,h4,h5,r⟩:=h
 exact ⟨by omega,by omega,by omega,by omega,by omega,r⟩
theorem c16 {α:Type} {l:List α} {a x:α} (h:x∈l++[a]):x∈l \/ x=a:=by
 rcases qK.1 h with h | h
 ·exact .inl h
 ·exact .inr (qF.1 h)
def CQ (r:rQ) (q:rQ×Version×(List Credit)×(List Index)×(List Let)×(List Grant)×(List Reduce)):Prop:=RS r q.1 /\ (r.at_<q.1.at_ \/ q.1.bad=true) /\ LG q.1.at_ q.2.2.1 q.2.2.2.1 q.2.2.2.2.1 q.2.2.2.2.2.1 q.2.2.2.2.2.2
section
variable {r p:rQ} {c:List Credit} {i:List Index} {l:List Let} {g:List Grant} {d:List Reduce}
theorem d00 (hr:RI r) (hs:RS r p):p.at_ <= 8000:=by
 have:=hs.2.2.1
 have:=hr.2.2.1
 omega
theorem b3w (hr:RI r) (hs:RS r p) {k:Int} (hk:r.at_ <= k) (hp:k<p.at_) {v:Version} {c':List Credit} {i':List Index} {l':List Let} {g':List Grant} {d':List Reduce} (hL:LG (k+1) c' i' l' g' d') (s:ByteArray):
  Tot (Option.bind (b9 p s) fun q=>some (q,v,c',i',l',g',d')) (CQ r):=by
 refine Tot.bind (a1n (hs.ri hr) s) fun q hq=>Tot.some ⟨hs.trans hq.1,.inl ?_,hL.up ?_⟩
 ·have:=hq.1.2.1
  show r.at_<q.at_
  omega
 ·have:=hq.1.2.1
  show k+1 <= q.at_
  omega
theorem c9g (hr:RI r) (hs:RS r p) (hp:r.at_<p.at_) (hL:LG r.at_ c i l g d) (v:Version) (x:Credit):Tot (a13 (p,c,i,l,g,d,v,x)) (CQ r):=by
 have h8:=d00 hr hs
 obtain ⟨h1,h2,h3,h4,h5,hR⟩:=hL
 unfold a13
 refine Tot.bind (a6v (by simp;omega)) fun a ha=> ?_
 subst ha
 exact b3w hr hs (Int.le_refl _) hp ⟨by simp;omega,by show (i.length:Int) <= _;omega,by show (l.length:Int) <= _;omega,by show (g.length:Int) <= _;omega,by show (d.length:Int) <= _;omega,hR⟩ _
theorem c8k (hr:RI r) (hs:RS r p) (hp:r.at_<p.at_) (hL:LG r.at_ c i l g d) (v:Version) (x:Index):Tot (a14 (p,c,i,l,g,d,v,x)) (CQ r):=by
 have h8:=d00 hr hs
 obtain ⟨h1,h2,h3,h4,h5,hR⟩:=hL
 unfold a14
 refine Tot.bind (a6v (by simp;omega)) fun a ha=> ?_
 subst ha
 exact b3w hr hs (Int.le_refl _) hp ⟨by show (c.length:Int) <= _;omega,by simp;omega,by show (l.length:Int) <= _;omega,by show (g.length:Int) <= _;omega,by show (d.length:Int) <= _;omega,hR⟩ _
theorem c1j (hr:RI r) (hs:RS r p) (hp:r.at_<p.at_) (hL:LG r.at_ c i l g d) (v:Version) (x:Index):Tot (y6 (p,c,i,l,g,d,v,x)) (CQ r):=by
 unfold y6
 refine Tot.ite (fun _=> ?_) fun _=>Tot.join (c8k hr hs hp hL _ _)
 rw [b9c,qA]
 exact Tot.join (c8k hr (hs.trans (RS.bad (hs.ri hr))) hp hL _ _)
theorem d73 (hr:RI r) (hL:LG r.at_ c i l g d) (v:Version):Tot (a1z r v c i l g d) (CQ r):=by
 unfold a1z
 have h0:=hr.1
 refine Tot.bind (a6r hr _) fun t1 h1=>Tot.ite (fun hp=> ?_) fun hp=> ?_
 ·have hc:=h1.2.1 hp
  refine Tot.bind (d4m (h1.1.ri hr) (by omega) (by omega)) fun q1 g1=> ?_
  have hs1:=h1.1.trans g1.1
  have ha1:=g1.1.2.1
  refine Tot.bind (a6r (hs1.ri hr) _) fun t2 h2=> ?_
  have hs2:=hs1.trans h2.1
  have ha2:=h2.1.2.1
  refine Tot.ite (fun _=> ?_) fun _=>Tot.join (c9g hr hs2 (by omega) hL _ _)
  refine Tot.bind (b5u (hs2.ri hr) _ _) fun q2 g2=> ?_
  have ha3:=g2.1.2.1
  exact Tot.join (c9g hr (hs2.trans g2.1) (by omega) hL _ _)
 have e1:t1.2=r:=h1.2.2.2 (by simpa using hp)
 rw [e1]
 refine Tot.bind (a6r hr _) fun t2 h2=>Tot.ite (fun hp=> ?_) fun hp=> ?_
 ·have hc:=h2.2.1 hp
  refine Tot.bind (b5u (h2.1.ri hr) _ _) fun q1 g1=> ?_
  have hs1:=h2.1.trans g1.1
  have ha1:=g1.1.2.1
  have hr1:=hs1.ri hr
  refine Tot.bind (b64 hr1 2) fun b hb=>Tot.ite (fun hp=> ?_) fun _=>Tot.join (c1j hr hs1 (by omega) hL _ _)
  have hlt:=(hb hp).2
  refine Tot.bind (l7 hr1.1 hlt) fun x hx=>Tot.bind (b70 (hr1.2.2.2 x hx).2) fun f _=> ?_
  simp only [m6,qA]
  refine Tot.ite (fun _=> ?_) fun _=>Tot.join (c1j hr hs1 (by omega) hL _ _)
  obtain ⟨e,hs⟩:=RS.next hr1 hlt
  rw [e]
  exact Tot.join (c1j hr (hs1.trans hs) (by show r.at_<q1.2.at_+1;omega) hL _ _)
 have e2:t2.2=r:=h2.2.2.2 (by simpa using hp)
 rw [e2]
 refine Tot.bind (a6r hr _) fun t3 h3=>Tot.ite (fun hp=> ?_) fun hp=> ?_
 ·have hc:=h3.2.1 hp
  refine Tot.bind (c62 (h3.1.ri hr)) fun q1 g1=> ?_
  have hs1:=h3.1.trans g1.1
  have ha1:=g1.1.2.1
  refine Tot.bind (a1n (hs1.ri hr) _) fun q2 g2=> ?_
  have hs2:=hs1.trans g2.1
  have ha2:=g2.1.2.1
  refine Tot.bind (c0l (hs2.ri hr)) fun q3 g3=> ?_
  have hs3:=hs2.trans g3.1
  have ha3:=g3.1.2.1
  obtain ⟨k1,k2,k3,k4,k5,k6,k7,k8⟩:=hL
  have h8:=d00 hr hs3
  refine Tot.bind (a6v (by simp;omega)) fun a ha=> ?_
  subst ha
  exact b3w hr hs3 (Int.le_refl _) (by omega) ⟨by omega,by omega,by simp;omega,by omega,by omega,fun x hx=>(c16 hx).elim (k6 x) fun e=>by subst e;exact ⟨g1.2.1,g3.2⟩,k7,k8⟩ _
 have e3:t3.2=r:=h3.2.2.2 (by simpa using hp)
 rw [e3]
 refine Tot.bind (a6r hr _) fun t4 h4=>Tot.ite (fun hp=> ?_) fun hp=> ?_
 ·have hc:=h4.2.1 hp
  refine Tot.bind (d4m (h4.1.ri hr) (by omega) (by omega)) fun q1 g1=> ?_
  have hs1:=h4.1.trans g1.1
  have ha1:=g1.1.2.1
  refine Tot.bind (a1n (hs1.ri hr) _) fun q2 g2=> ?_
  have hs2:=hs1.trans g2.1
  have ha2:=g2.1.2.1
  refine Tot.bind (c0l (hs2.ri hr)) fun q3 g3=> ?_
  have hs3:=hs2.trans g3.1
  have ha3:=g3.1.2.1
  refine Tot.bind (a1n (hs3.ri hr) _) fun q4 g4=> ?_
  have hs4:=hs3.trans g4.1
  have ha4:=g4.1.2.1
  refine Tot.bind (c0l (hs4.ri hr)) fun q5 g5=> ?_
  have hs5:=hs4.trans g5.1
  have ha5:=g5.1.2.1
  obtain ⟨k1,k2,k3,k4,k5,k6,k7,k8⟩:=hL
  have h8:=d00 hr hs5
  refine Tot.bind (a6v (by simp;omega)) fun a ha=> ?_
  subst ha
  exact b3w hr hs5 (Int.le_refl _) (by omega) ⟨by omega,by omega,by omega,by simp;omega,by omega,k6,fun x hx=>(c16 hx).elim (k7 x) fun e=>by subst e;exact ⟨g3.2,g5.2⟩,k8⟩ _
 have e4:t4.2=r:=h4.2.2.2 (by simpa using hp)
 rw [e4]
 refine Tot.bind (a6r hr _) fun t5 h5=>Tot.ite (fun hp=> ?_) fun hp=> ?_
 ·have hc:=h5.2.1 hp
  refine Tot.bind (d4m (h5.1.ri hr) (by omega) (by omega)) fun q1 g1=> ?_
  have hs1:=h5.1.trans g1.1
  have ha1:=g1.1.2.1
  refine Tot.bind (a1n (hs1.ri hr) _) fun q2 g2=> ?_
  have hs2:=hs1.trans g2.1
  have ha2:=g2.1.2.1
  refine Tot.bind (c0l (hs2.ri hr)) fun q3 g3=> ?_
  have hs3:=hs2.trans g3.1
  have ha3:=g3.1.2.1
  obtain ⟨k1,k2,k3,k4,k5,k6,k7,k8⟩:=hL
  have h8:=d00 hr hs3
  refine Tot.bind (a6v (by simp;omega)) fun a ha=> ?_
  subst ha
  exact b3w hr hs3 (Int.le_refl _) (by omega) ⟨by omega,by omega,by omega,by omega,by simp;omega,k6,k7,fun x hx=>(c16 hx).elim (k8 x) fun e=>by subst e;exact g3.2⟩ _
 have e5:t5.2=r:=h5.2.2.2 (by simpa using hp)
 rw [e5,b9c,qA]
 have hsb:=RS.bad hr
 refine Tot.bind (a1n (hsb.ri hr) _) fun q hq=>Tot.some ⟨hsb.trans hq.1,.inr (hq.1.2.2.2 rfl),hL.up ?_⟩
 exact (hsb.trans hq.1).2.1
end
def VG (v:Version):Prop:=LG 8000 v.Credits v.Series v.Lets v.Grants v.Reduces
theorem d1r {r:rQ} (hr:RI r):Tot (a1l r) fun q=>RS r q.2 /\ (r.at_<q.2.at_ \/ q.2.bad=true) /\ VG q.1:=by
 have j: ∀(p:rQ) (v w:Version),RS r p -> (r.at_<p.at_ \/ p.bad=true) -> Tot (a0s (p,[],[],[],[],[],v,[],[],[],[],[],w)) fun q=>RS r q.2 /\ (r.at_<q.2.at_ \/ q.2.bad=true) /\ VG q.1:=by
  intro p v w hs hpr
  have tr: ∀{x y:rQ},(r.at_<x.at_ \/ x.bad=true) -> RS x y -> (r.at_<y.at_ \/ y.bad=true):=fun h hxy=>h.imp (fun h=>by have:=hxy.2.1;omega) hxy.2.2.2
  unfold a0s
  refine Tot.bind (a1n (hs.ri hr) _) fun q1 g1=> ?_
  have hs1:=hs.trans g1.1
  refine Tot.bind (a1n (hs1.ri hr) _) fun q2 g2=> ?_
  have hs2:=hs1.trans g2.1
  refine Tot.bind (d4m (hs2.ri hr) (by omega) (by omega)) fun q3 g3=> ?_
  have hs3:=hs2.trans g3.1
  refine Tot.bind (b5u (hs3.ri hr) _ _) fun q4 g4=> ?_
  have hs4:=hs3.trans g4.1
  refine Tot.bind (a1n (hs4.ri hr) _) fun q5 g5=> ?_
  have hs5:=hs4.trans g5.1
  have hp5:=tr (tr (tr (tr (tr hpr g1.1) g2.1) g3.1) g4.1) g5.1
  have h0:=(hs5.ri hr).1
  refine Tot.loop (σ:=rQ×(List Credit)×(List Index)×(List Let)×(List Grant)×(List Reduce)×Version×(List Credit)×(List Index)×(List Let)×(List Grant)×(List Reduce)×Version)
   (I:=fun v=>RS r v.1 /\ (r.at_<v.1.at_ \/ v.1.bad=true) /\ LG v.1.at_ v.2.2.2.2.2.2.2.1 v.2.2.2.2.2.2.2.2.1 v.2.2.2.2.2.2.2.2.2.1 v.2.2.2.2.2.2.2.2.2.2.1 v.2.2.2.2.2.2.2.2.2.2.2.1) (μ:=fun v=>2*left v.1+(if v.1.bad=true then 0 else 1))
   ⟨hs5,hp5,h0,h0,h0,h0,h0,(fun x hx=>by cases hx),(fun x hx=>by cases hx),fun x hx=>by cases hx⟩ (by
    show 2*left q5+(if q5.bad=true then 0 else 1)<_
    have h9:=b0z hs5
    have h8:=hr.2.2.1
    have h10:left r <= 8000:=by unfold left;have:=hr.1;omega
    split<;>omega) ?_
  intro rc v hI ih
  obtain ⟨i1,i2,i3⟩:=hI
  have hv:=i1.ri hr
  unfold a6f
  refine Tot.ite (fun hb=> ?_) fun hb=>Tot.some ⟨i1,i2,i3.up (d00 hr i1)⟩
  have hb:v.1.bad=false:=by simpa using hb
  refine Tot.bind (a6r hv _) fun t ht=>Tot.ite (fun hp=> ?_) fun hp=>Tot.some ⟨i1.trans ht.1,tr i2 ht.1,i3.up (d00 hr i1)⟩
  have e1:t.2=v.1:=ht.2.2.2 (by simpa using hp)
  rw [e1]
  refine Tot.bind (d73 hv i3 _) fun q hq=> ?_
  refine ih _ ⟨i1.trans hq.1,tr i2 hq.1,hq.2.2⟩ ?_
  show 2*left q.1+(if q.1.bad=true then 0 else 1)<2*left v.1+(if v.1.bad=true then 0 else 1)
  rw [hb]
  rcases hq.2.1 with h | h
  ·have:=b5h hv hq.1 h
   split<;>simp<;>omega
  ·have:=b0z hq.1
   rw [h]
   simp
   omega
 unfold a1l
 refine Tot.bind (a1n hr _) fun q1 g1=> ?_
 have hr1:=g1.1.ri hr
 refine Tot.bind (b64 hr1 3) fun b hb=>Tot.ite (fun hp=> ?_) fun _=> ?_
 ·have hlt:=(hb hp).2
  refine Tot.bind (l7 hr1.1 hlt) fun t ht=>Tot.bind (d94 (hr1.2.2.2 t ht).1 (hr1.2.2.2 t ht).2) fun y _=> ?_
  obtain ⟨e,hs⟩:=RS.next hr1 hlt
  rw [e]
  exact Tot.join (j _ _ _ (g1.1.trans hs) (.inl (by show r.at_<q1.at_+1;have:=g1.1.2.1;omega)))
 ·rw [b9c,qA]
  exact Tot.join (j _ _ _ (g1.1.trans (RS.bad hr1)) (.inr rfl))
end Go.PL
namespace Go.PL
open Go Go.SX
theorem c64 (a:Int):Tot (e7 a) fun _=>True:=by
 unfold e7
 rw [m6,qA]
 exact Tot.some trivial
theorem b7s (a:Rounding):Tot (a21 a) fun _=>True:=by
 unfold a21
 simp only [m6,qA]
 exact Tot.some trivial
theorem b8z (a b:Int):Tot (a2n a b) fun _=>True:=by
 unfold a2n
 refine Tot.loop (I:=fun v:List ByteArray×Int=>v.1.length=15 /\ 0 <= v.2) (μ:=fun v=>(15-v.2).toNat) ⟨rfl,Int.le_refl _⟩ (by decide) ?_
 intro r v hI ih
 obtain ⟨g1,g2⟩:=hI
 unfold b1l
 rw [m6,qA]
 refine Tot.ite (fun h=> ?_) fun _=>Tot.some trivial
 simp at h
 obtain ⟨x,hx,_⟩:=l7 (l:=v.1) g2 h.1
 simp only [hx,qA]
 refine Tot.bind (Q:=fun _=>True) (Tot.ite (fun _=>Tot.bind (d4p x) fun _ _=>Tot.some trivial) fun _=>Tot.some trivial) fun p1 _=> ?_
 refine Tot.bind (Q:=fun _=>True) (Tot.ite (fun _=>Tot.some trivial) fun _=>Tot.bind (Q:=fun _=>True) (Tot.ite (fun _=>Tot.bind (c1s x) fun _ _=>Tot.some trivial) fun _=>Tot.some trivial) fun _ _=>Tot.some trivial) fun p2 _=> ?_
 refine Tot.bind (Q:=fun _=>True) (Tot.ite (fun _=>Tot.some trivial) fun _=>Tot.bind (Q:=fun _=>True) (Tot.ite (fun _=>Tot.bind (d3n x) fun _ _=>Tot.some trivial) fun _=>Tot.some trivial) fun _ _=>Tot.some trivial) fun p3 _=> ?_
 refine Tot.ite (fun _=>Tot.some trivial) fun _=> ?_
 rw [a6l g2 (by omega)]
 exact ih (v.1,v.2+1) ⟨g1,by show 0 <= v.2+1;omega⟩ (by show (15-(v.2+1)).toNat<(15-v.2).toNat;omega)
theorem b3f (f:Fraction):Tot (a0n f) fun b=>b=true -> 1 <= f.Den /\ f.Den <= 1000000000 /\ -1000000000000000 <= f.Num /\ f.Num <= 1000000000000000:=by
 unfold a0n
 simp only [m6,qA]
 refine Tot.bind (Q:=fun b=>b=true -> 1 <= f.Den /\ f.Den <= 1000000000 /\ -1000000000000000 <= f.Num /\ f.Num <= 1000000000000000) (Tot.ite (fun h=> ?_) fun _=>Tot.some fun h=>by cases h) fun b hb=>Tot.some hb
 simp at h
 obtain ⟨x,hx,x0,x1,_⟩:=c0p f.Num
 rw [hx,qA,e11 (by omega) (by omega)]
 exact Tot.bind (d3j x0 (by omega) (by omega) x1 (by omega)) fun _ _=>Tot.some fun _=>⟨by omega,by omega,by omega,by omega⟩
theorem d1x {n:Int} (h0:0 <= n) (h1:n <= 1000000000000000):Tot (a4a n 1) fun r=>(r.size:Int) <= n+1:=by
 unfold a4a
 have hs:a4u.size=10:=by decide
 refine Tot.loop (I:=fun v:Int×ByteArray=>0 <= v.1 /\ v.1 <= n /\ v.1+(v.2.size:Int) <= n+1) (μ:=fun v=>2*v.1.toNat+(1-v.2.size)) (s:=(n,a5j)) ⟨h0,Int.le_refl _,by show n+(a5j.size:Int) <= n+1;rw [show a5j.size=0 from rfl];omega⟩ (by show 2*n.toNat+(1-a5j.size)<_;omega) ?_
 intro r v hI ih
 obtain ⟨g1,g2,g3⟩:=hI
 unfold b1h
 rw [a04,qA]
 refine Tot.ite (fun h=> ?_) fun _=>Tot.some (by omega)
 simp at h
 refine Tot.bind (a81 g1 (by omega)) fun a ha=>Tot.bind (a81 g1 (by omega)) fun b hb=> ?_
 have hab:a=b:=by omega
 subst hab
 rw [a6l (by omega) (by omega)]
 refine Tot.bind (a5i (by omega) (by omega) (by rw [hs];omega)) fun c hc=>Tot.bind (d6 (by omega)) fun d hd=>Tot.bind (b15 g1 (by omega) (by omega)) fun e he=> ?_
 refine ih (e,d) ⟨he.2.1,by show e <= n;omega,by show e+(d.size:Int) <= n+1;omega⟩ (by show 2*e.toNat+(1-d.size)<2*v.1.toNat+(1-v.2.size);omega)
theorem b6y {n:Int} (h0:0 <= n) (h1:n <= 999999999):Tot (a1p ⟨n,1⟩) fun r=>r.size <= 1000000000:=by
 unfold a1p
 refine Tot.bind (b3f _) fun b _=>Tot.ite (fun _=>Tot.some (by decide)) fun _=> ?_
 obtain ⟨x,hx,x0,x1,x2⟩:=c0p n
 have:=x2 h0 (by omega)
 subst this
 dsimp only
 rw [hx,qA,i7 (by omega) (by omega)]
 refine Tot.bind (d1x h0 (by omega)) fun d hd=> ?_
 rw [if_neg (by simp;omega)]
 refine Tot.join ?_
 unfold a2t
 rw [if_neg (by simp)]
 exact Tot.some (by show d.size <= _;omega)
theorem b46 (f:Fraction) (k:Int):Tot (a0p f k) fun _=>True:=by
 have fin: ∀(s:ByteArray) (m:Int),s.size <= 1000000010 -> 0 <= m -> m<10000 -> 2 <= k -> k <= 4 -> Tot (a16 (k,s,m)) fun _=>True:=by
  intro s m hs m0 m1 k0 k1
  unfold a16
  have h9:a4u.size=10:=by decide
  refine Tot.loop (I:=fun v:ByteArray×Int×Int=>0 <= v.2.1 /\ 0 <= v.2.2 /\ (v.1.size:Int)+v.2.2 <= 1000001010 /\ ((v.2.2=1000 /\ v.2.1<10000) \/ (v.2.2=100 /\ v.2.1<1000) \/ (v.2.2=10 /\ v.2.1<100) \/ (v.2.2=1 /\ v.2.1<10) \/ v.2.1=0)) (μ:=fun v=>v.2.2.toNat) (s:=(s,m,1000)) ⟨m0,by show (0:Int) <= 1000;omega,by show (s.size:Int)+1000 <= _;omega,.inl ⟨rfl,m1⟩⟩ (by show (1000:Int).toNat<_;omega) ?_
  intro r v hI ih
  obtain ⟨g1,g2,g3,g4⟩:=hI
  unfold a6q
  refine Tot.ite (fun h=> ?_) fun _=> ?_
  ·simp at h
   have hp:0<v.2.2:=by omega
   have hq:v.2.1/v.2.2 <= 9:=by
    rcases g4 with ⟨e,_⟩ | ⟨e,_⟩ | ⟨e,_⟩ | ⟨e,_⟩ | e
    ·rw [e];omega
    ·rw [e];omega
    ·rw [e];omega
    ·rw [e];omega
    ·omega
   obtain ⟨q,hq0,hq1,hq2,_⟩:=b15 (a:=v.2.1) (b:=v.2.2) g1 (by omega) hp
   simp only [hq0,qA]
   rw [a6l hq2 (by omega)]
   refine Tot.bind (a5i hq2 (by omega) (by rw [h9];omega)) fun c hc=>Tot.bind (d6 (by omega)) fun d hd=>Tot.bind (a81 g1 hp) fun e he=>Tot.bind (b15 (a:=v.2.2) (b:=10) g2 (by omega) (by omega)) fun z hz=> ?_
   refine ih (d,e,z) ⟨he.2.1,hz.2.1,by show (d.size:Int)+z <= _;omega,?_⟩ (by show z.toNat<v.2.2.toNat;omega)
   show (z=1000 /\ e<10000) \/ (z=100 /\ e<1000) \/ (z=10 /\ e<100) \/ (z=1 /\ e<10) \/ e=0
   omega
  ·have e1:i64 (k-2)=k-2:=i7 (by omega) (by omega)
   rw [e1]
   refine Tot.bind (l7 (l:=[a5j,e50,e3d]) (by omega) (by simp;omega)) fun _ _=>Tot.bind (l7 (l:=[a5j,e50,e3d]) (by omega) (by simp;omega)) fun x hx=> ?_
   have hx1:x.size <= 1:=by
    simp at hx
    rcases hx with rfl | rfl | rfl<;>decide
   exact Tot.bind (d6 (by omega)) fun _ _=>Tot.some trivial
 unfold a0p
 refine Tot.bind (b3f f) fun b hb=> ?_
 rw [a04,qA]
 refine Tot.bind (Q:=fun c=>c=false -> b=true /\ 0 <= f.Num /\ ∃x,b7d 10000 f.Den=some x /\ x=0) (Tot.ite (fun _=>Tot.some fun h=>by cases h) fun hn=> ?_) fun c hc=> ?_
 ·have hn:b=true /\ 0 <= f.Num:=by simpa using hn
  have hd:=hb hn.1
  obtain ⟨x,hx,_⟩:=a81 (a:=10000) (b:=f.Den) (by omega) (by omega)
  rw [hx,qA]
  exact Tot.some fun hh=>⟨hn.1,hn.2,x,rfl,by simpa using hh⟩
 simp only [a04,qA]
 refine Tot.ite (fun _=>Tot.some trivial) fun hn=> ?_
 simp at hn
 obtain ⟨⟨hc1,hk0⟩,hk1⟩:=hn
 obtain ⟨b1,n0,x,hx,x0⟩:=hc hc1
 obtain ⟨d0,d1,_,n1⟩:=hb b1
 have hmod:10000%f.Den=0:=by
  rw [c2j (by omega),c1f (by omega)] at hx
  rw [<- x0];exact qH hx
 refine Tot.bind (b15 n0 (by omega) (by omega)) fun q hq=>Tot.ite (fun _=>Tot.some trivial) fun hn=> ?_
 have hq9:q <= 999999999:=by simp at hn;omega
 refine Tot.bind (b6y hq.2.1 hq9) fun s hs=>Tot.bind (b15 (a:=10000) (b:=f.Den) (by omega) (by omega) (by omega)) fun z hz=> ?_
 have hqd:q*f.Den <= f.Num:=by rw [hq.1];exact Int.ediv_mul_le _ (by omega)
 have hqd0:0 <= q*f.Den:=Int.mul_nonneg hq.2.1 (by omega)
 have hrd:f.Num-q*f.Den<f.Den:=by
  have:=Int.lt_ediv_add_one_mul_self f.Num (b:=f.Den) (by omega)
  rw [hq.1]
  rw [Int.add_mul,Int.one_mul] at this
  omega
 have hzd:f.Den*z=10000:=by
  rw [hz.1]
  have:=Int.emod_add_mul_ediv 10000 f.Den
  omega
 have hr0:0 <= f.Num-q*f.Den:=by omega
 have hX0:0 <= (f.Num-q*f.Den)*z:=Int.mul_nonneg hr0 hz.2.1
 have hX1:(f.Num-q*f.Den)*z<10000:=by
  rw [<- hzd]
  have hz1:0<z:=by
   rcases Int.lt_or_eq_of_le hz.2.1 with h | h
   ·exact h
   ·rw [<- h] at hzd;simp at hzd
  exact Int.mul_lt_mul_of_pos_right hrd hz1
 have e1:i64 (q*f.Den)=q*f.Den:=i7 (by omega) (by omega)
 have e2:i64 (f.Num-q*f.Den)=f.Num-q*f.Den:=i7 (by omega) (by omega)
 have e3:i64 ((f.Num-q*f.Den)*z)=(f.Num-q*f.Den)*z:=i7 (by omega) (by omega)
 rw [e1,e2,e3]
 refine Tot.ite (fun _=> ?_) fun _=>Tot.join (fin _ _ (by omega) hX0 hX1 (by omega) (by omega))
 refine Tot.bind (d6 (by rw [show c18.size=1 from rfl];omega)) fun d hd=>Tot.join (fin _ _ (by rw [show c18.size=1 from rfl] at hd;omega) hX0 hX1 (by omega) (by omega))
theorem c90: ∀(n m:Nat) (e:Expr),n <= m -> EB n e -> Tot ((p5 m).f_pensionref5_Depth e) fun _=>True
 | 0,_,_,_,h=>h.elim
 | n+1,0,_,hm,_=>by omega
 | n+1,m+1,e,hm,h=>by
   show Tot (a5r (p5 m) e) _
   unfold a5r
   refine Tot.loop (I:=fun v:Expr×Int×Int=>v.1=e /\ 0 <= v.2.2) (μ:=fun v=>(3-v.2.2).toNat) ⟨rfl,Int.le_refl _⟩ (by show (3-0:Int).toNat<_;omega) ?_
   intro r v hI ih
   obtain ⟨g1,g2⟩:=hI
   have hl:=h.1
   unfold b2a
   rw [g1]
   refine Tot.ite (fun hc=> ?_) fun _=>Tot.some trivial
   simp at hc
   refine Tot.bind (l7 g2 hc) fun x hx=>Tot.bind (c90 n m x (by omega) (h.2.2 x hx)) fun _ _=> ?_
   rw [a6l g2 (by omega)]
   exact ih (e,_,v.2.2+1) ⟨rfl,by show 0 <= v.2.2+1;omega⟩ (by show (3-(v.2.2+1)).toNat<(3-v.2.2).toNat;omega)
theorem d40: ∀(n m:Nat) (e:Expr),n <= m -> EB n e -> Tot ((s4 m).f_pensionref5_Size e) fun _=>True
 | 0,_,_,_,h=>h.elim
 | n+1,0,_,hm,_=>by omega
 | n+1,m+1,e,hm,h=>by
   show Tot (a6p (s4 m) e) _
   unfold a6p
   refine Tot.loop (I:=fun v:Expr×Int×Int=>v.1=e /\ 0 <= v.2.2) (μ:=fun v=>(3-v.2.2).toNat) ⟨rfl,Int.le_refl _⟩ (by show (3-0:Int).toNat<_;omega) ?_
   intro r v hI ih
   obtain ⟨g1,g2⟩:=hI
   have hl:=h.1
   unfold b2x
   rw [g1]
   refine Tot.ite (fun hc=> ?_) fun _=>Tot.some trivial
   simp at hc
   refine Tot.bind (l7 g2 hc) fun x hx=>Tot.bind (d40 n m x (by omega) (h.2.2 x hx)) fun _ _=> ?_
   rw [a6l g2 (by omega)]
   exact ih (e,_,v.2.2+1) ⟨rfl,by show 0 <= v.2.2+1;omega⟩ (by show (3-(v.2.2+1)).toNat<(3-v.2.2).toNat;omega)
theorem c5k: ∀(n m:Nat) (e:Expr),n <= m -> EB n e -> Tot ((o4 m).f_pensionref5_formed e) fun _=>True
 | 0,_,_,_,h=>h.elim
 | n+1,0,_,hm,_=>by omega
 | n+1,m+1,e,hm,h=>by
   show Tot (a4v (o4 m) e) _
   unfold a4v
   simp only [m6,qA]
   refine Tot.bind (d4b _) fun k _=>Tot.ite (fun _=>Tot.some trivial) fun _=>Tot.ite (fun _=> ?_) fun _=>Tot.ite (fun _=> ?_) fun _=>Tot.ite (fun _=>Tot.some trivial) fun _=> ?_
   ·exact Tot.bind (b46 _ _) fun q _=>Tot.some trivial
   ·exact Tot.bind (Q:=fun _=>True) (Tot.ite (fun _=>Tot.bind (b6c h.2.1) fun _ _=>Tot.some trivial) fun _=>Tot.some trivial) fun _ _=>Tot.some trivial
   refine Tot.loop (I:=fun v:Expr×Int=>v.1=e /\ 0 <= v.2) (μ:=fun v=>(3-v.2).toNat) ⟨rfl,Int.le_refl _⟩ (by show (3-0:Int).toNat<_;omega) ?_
   intro r v hI ih
   obtain ⟨g1,g2⟩:=hI
   have hl:=h.1
   unfold b1b
   rw [g1]
   refine Tot.ite (fun hc=> ?_) fun _=>Tot.some trivial
   simp at hc
   refine Tot.bind (l7 g2 hc) fun x hx=>Tot.bind (c5k n m x (by omega) (h.2.2 x hx)) fun _ _=>Tot.ite (fun _=>Tot.some trivial) fun _=> ?_
   rw [a6l g2 (by omega)]
   exact ih (e,v.2+1) ⟨rfl,by show 0 <= v.2+1;omega⟩ (by show (3-(v.2+1)).toNat<(3-v.2).toNat;omega)
theorem b2g {e:Expr} (h:EB 8001 e):Tot (a00 e) fun _=>True:=by
 unfold a00
 have hF:8001 <= FU:=by unfold FU;omega
 refine Tot.bind (c90 _ _ e hF h) fun d _=> ?_
 refine Tot.bind (Q:=fun _=>True) (Tot.ite (fun _=>Tot.bind (d40 _ _ e hF h) fun _ _=>Tot.some trivial) fun _=>Tot.some trivial) fun _ _=> ?_
 exact Tot.bind (Q:=fun _=>True) (Tot.ite (fun _=>Tot.bind (c5k _ _ e hF h) fun _ _=>Tot.some trivial) fun _=>Tot.some trivial) fun _ _=>Tot.some trivial
end Go.PL
namespace Go.PL
open Go Go.SX
theorem c0j {v:Version} (hv:VG v):Tot (a2i v) fun _=>True:=by
 obtain ⟨k1,k2,k3,k4,k5,kL,kG,kR⟩:=hv
 have l5:Tot (d5 FU a3f (v,0)) fun _=>True:=by
  refine Tot.loop (I:=fun s:Version×Int=>s.1=v /\ 0 <= s.2) (μ:=fun s=>((v.Reduces.length:Int)-s.2).toNat) ⟨rfl,Int.le_refl _⟩ (by show ((v.Reduces.length:Int)-0).toNat<_;omega) ?_
  intro r s hI ih
  obtain ⟨g1,g2⟩:=hI
  unfold a3f
  rw [g1]
  refine Tot.ite (fun hc=> ?_) fun _=>Tot.some trivial
  simp at hc
  obtain ⟨x,hx,hm⟩:=l7 g2 hc
  simp only [hx,qA]
  refine Tot.bind (b8z _ _) fun w _=> ?_
  refine Tot.bind (Q:=fun _=>True) (Tot.ite (fun _=>Tot.some trivial) fun _=>Tot.bind (b2g (kR x hm)) fun _ _=>Tot.some trivial) fun b _=>Tot.ite (fun _=>Tot.some trivial) fun _=> ?_
  rw [a6l g2 (by omega)]
  exact ih (v,s.2+1) ⟨rfl,by show 0 <= s.2+1;omega⟩ (by show ((v.Reduces.length:Int)-(s.2+1)).toNat<((v.Reduces.length:Int)-s.2).toNat;omega)
 have l4:Tot (d5 FU a3k (v,0)) fun _=>True:=by
  refine Tot.loop (I:=fun s:Version×Int=>s.1=v /\ 0 <= s.2) (μ:=fun s=>((v.Grants.length:Int)-s.2).toNat) ⟨rfl,Int.le_refl _⟩ (by show ((v.Grants.length:Int)-0).toNat<_;omega) ?_
  intro r s hI ih
  obtain ⟨g1,g2⟩:=hI
  unfold a3k
  rw [g1]
  refine Tot.ite (fun hc=> ?_) fun _=>l5
  simp at hc
  obtain ⟨x,hx,hm⟩:=l7 g2 hc
  simp only [hx,qA]
  refine Tot.bind (b8z _ _) fun w _=> ?_
  refine Tot.bind (Q:=fun _=>True) (Tot.ite (fun _=>Tot.some trivial) fun _=>Tot.bind (b2g (kG x hm).1) fun _ _=>Tot.some trivial) fun b _=> ?_
  refine Tot.bind (Q:=fun _=>True) (Tot.ite (fun _=>Tot.some trivial) fun _=>Tot.bind (b2g (kG x hm).2) fun _ _=>Tot.some trivial) fun b _=>Tot.ite (fun _=>Tot.some trivial) fun _=> ?_
  rw [a6l g2 (by omega)]
  exact ih (v,s.2+1) ⟨rfl,by show 0 <= s.2+1;omega⟩ (by show ((v.Grants.length:Int)-(s.2+1)).toNat<((v.Grants.length:Int)-s.2).toNat;omega)
 have l3:Tot (d5 FU a3j (v,0)) fun _=>True:=by
  refine Tot.loop (I:=fun s:Version×Int=>s.1=v /\ 0 <= s.2) (μ:=fun s=>((v.Lets.length:Int)-s.2).toNat) ⟨rfl,Int.le_refl _⟩ (by show ((v.Lets.length:Int)-0).toNat<_;omega) ?_
  intro r s hI ih
  obtain ⟨g1,g2⟩:=hI
  unfold a3j
  rw [g1]
  refine Tot.ite (fun hc=> ?_) fun _=>l4
  simp at hc
  obtain ⟨x,hx,hm⟩:=l7 g2 hc
  simp only [hx,qA]
  refine Tot.bind (b6c (kL x hm).1) fun w _=> ?_
  refine Tot.bind (Q:=fun _=>True) (Tot.ite (fun _=>Tot.some trivial) fun _=>Tot.bind (b2g (kL x hm).2) fun _ _=>Tot.some trivial) fun b _=>Tot.ite (fun _=>Tot.some trivial) fun _=> ?_
  rw [a6l g2 (by omega)]
  exact ih (v,s.2+1) ⟨rfl,by show 0 <= s.2+1;omega⟩ (by show ((v.Lets.length:Int)-(s.2+1)).toNat<((v.Lets.length:Int)-s.2).toNat;omega)
 have l2:Tot (d5 FU a3e (v,0)) fun _=>True:=by
  refine Tot.loop (I:=fun s:Version×Int=>s.1=v /\ 0 <= s.2) (μ:=fun s=>((v.Series.length:Int)-s.2).toNat) ⟨rfl,Int.le_refl _⟩ (by show ((v.Series.length:Int)-0).toNat<_;omega) ?_
  intro r s hI ih
  obtain ⟨g1,g2⟩:=hI
  unfold a3e
  rw [g1]
  refine Tot.ite (fun hc=> ?_) fun _=>l3
  simp at hc
  obtain ⟨x,hx,hm⟩:=l7 g2 hc
  simp only [hx,qA]
  refine Tot.bind (b46 _ _) fun w _=> ?_
  simp only [a04,qA]
  refine Tot.ite (fun _=>Tot.some trivial) fun _=> ?_
  rw [a6l g2 (by omega)]
  exact ih (v,s.2+1) ⟨rfl,by show 0 <= s.2+1;omega⟩ (by show ((v.Series.length:Int)-(s.2+1)).toNat<((v.Series.length:Int)-s.2).toNat;omega)
 have l1:Tot (d5 FU a3m (v,0)) fun _=>True:=by
  refine Tot.loop (I:=fun s:Version×Int=>s.1=v /\ 0 <= s.2) (μ:=fun s=>((v.Credits.length:Int)-s.2).toNat) ⟨rfl,Int.le_refl _⟩ (by show ((v.Credits.length:Int)-0).toNat<_;omega) ?_
  intro r s hI ih
  obtain ⟨g1,g2⟩:=hI
  unfold a3m
  rw [g1]
  refine Tot.ite (fun hc=> ?_) fun _=>l2
  simp at hc
  obtain ⟨x,hx,hm⟩:=l7 g2 hc
  simp only [hx,qA]
  refine Tot.bind (b8z _ _) fun w _=> ?_
  simp only [a04,qA]
  refine Tot.ite (fun _=>Tot.some trivial) fun _=> ?_
  rw [a6l g2 (by omega)]
  exact ih (v,s.2+1) ⟨rfl,by show 0 <= s.2+1;omega⟩ (by show ((v.Credits.length:Int)-(s.2+1)).toNat<((v.Credits.length:Int)-s.2).toNat;omega)
 unfold a2i
 refine Tot.bind (c64 _) fun b _=> ?_
 refine Tot.bind (Q:=fun _=>True) (Tot.ite (fun _=>Tot.some trivial) fun _=>Tot.bind (b7s _) fun _ _=>Tot.some trivial) fun b _=> ?_
 simp only [a04,qA]
 exact Tot.ite (fun _=>Tot.some trivial) fun _=>l1
theorem d5h {s:Statute} (hn:s.Name.size <= 8000) (hl:s.Versions.length <= 8001) (hv: ∀v∈s.Versions,VG v):Tot (a7z s) fun _=>True:=by
 unfold a7z
 refine Tot.bind (b6c hn) fun b _=> ?_
 simp only [a04,qA]
 refine Tot.ite (fun _=>Tot.some trivial) fun _=> ?_
 refine Tot.loop (I:=fun x:Statute×Int=>x.1=s /\ 0 <= x.2) (μ:=fun x=>((s.Versions.length:Int)-x.2).toNat) ⟨rfl,Int.le_refl _⟩ (by show ((s.Versions.length:Int)-0).toNat<_;omega) ?_
 intro r x hI ih
 obtain ⟨g1,g2⟩:=hI
 unfold b29
 rw [g1]
 refine Tot.ite (fun hc=> ?_) fun _=>Tot.some trivial
 simp at hc
 refine Tot.bind (l7 g2 hc) fun v hm=>Tot.bind (c0j (hv v hm)) fun _ _=>Tot.ite (fun _=>Tot.some trivial) fun _=> ?_
 rw [a6l g2 (by omega)]
 exact ih (s,x.2+1) ⟨rfl,by show 0 <= x.2+1;omega⟩ (by show ((s.Versions.length:Int)-(x.2+1)).toNat<((s.Versions.length:Int)-x.2).toNat;omega)
theorem d8r (s:ByteArray):Tot (a7x s) fun q=>(∃r,q.1=some r /\ RI r) \/ (q.1=none /\ (q.2.2 != 0)=true):=by
 unfold a7x
 refine Tot.bind (f08 s) fun q hq=>Tot.ite (fun h=>Tot.some (.inr ⟨rfl,h⟩)) fun _=>Tot.some (.inl ⟨_,rfl,?_⟩)
 exact ⟨Int.le_refl 0,by show (0:Int) <= (q.1.length:Int);omega,hq.2.1,hq.1⟩
theorem e1a {r:rQ} (h:RI r):Tot (a2m r) fun _=>True:=by
 unfold a2m
 refine Tot.ite (fun hc=> ?_) fun _=>Tot.some trivial
 simp at hc
 exact Tot.bind (l7 h.1 hc) fun _ _=>Tot.some trivial
theorem d8v (s:ByteArray):Tot (a7r s) fun _=>True:=by
 unfold a7r
 refine Tot.bind (d8r s) fun q hq=> ?_
 rcases hq with ⟨r,hr,hI⟩ | ⟨hn,hc⟩
 case inr=>
  rw [hn]
  show Tot (if (q.2.2 != 0)=true then _ else _) _
  rw [if_pos hc]
  exact Tot.some trivial
 rw [hr]
 show Tot (if (q.2.2 != 0)=true then _ else _) _
 refine Tot.ite (fun _=>Tot.some trivial) fun _=> ?_
 refine Tot.bind (a1n hI _) fun q1 g1=> ?_
 have r1:=g1.1.ri hI
 refine Tot.bind (c62 r1) fun q2 g2=> ?_
 have r2:=g2.1.ri r1
 refine Tot.bind (a1n r2 _) fun q3 g3=> ?_
 have r3:=g3.1.ri r2
 refine Tot.bind (b5u r3 _ _) fun q4 g4=> ?_
 have r4:=g4.1.ri r3
 refine Tot.bind (a1n r4 _) fun q5 g5=> ?_
 have r5:=g5.1.ri r4
 refine Tot.loop (σ:=(List Version)×Statute×rQ×(List Version)×Statute×Bool) (I:=fun v=>RS q5 v.2.2.1 /\ ((v.2.2.2.1.length:Int) <= v.2.2.1.at_ \/ (v.2.2.1.bad=true /\ (v.2.2.2.1.length:Int) <= v.2.2.1.at_+1)) /\ (∀x∈v.2.2.2.1,VG x) /\ v.2.2.2.2.1.Name.size <= 8000) (μ:=fun v=>2*left v.2.2.1+(if v.2.2.1.bad=true then 0 else 1))
  (s:=([],(⟨a5j,0,[]⟩:Statute),q5,[],(⟨q2.1,q4.1,[]⟩:Statute),true)) ⟨RS.refl r5,.inl r5.1,(fun x hx=>by cases hx),g2.2.1⟩ (by
   show 2*left q5+(if q5.bad=true then 0 else 1)<_
   have h8:=r5.2.2.1
   have h10:left q5 <= 8000:=by unfold left;have:=r5.1;omega
   split<;>omega) ?_
 intro rc v hv ih
 obtain ⟨i1,i2,i3,i4⟩:=hv
 have rv:=i1.ri r5
 have h8:=d00 r5 i1
 have fin: ∀(p:rQ),RI p -> Tot (a4z (v.1,(⟨v.2.1.Name,v.2.1.Currency,[]⟩:Statute),p,v.2.2.2.1,(⟨v.2.2.2.2.1.Name,v.2.2.2.2.1.Currency,[]⟩:Statute))) fun _=>True:=by
  intro p hp
  unfold a4z
  rw [a04,qA]
  refine Tot.ite (fun _=>Tot.bind (e1a hp) fun _ _=>Tot.some trivial) fun _=> ?_
  exact Tot.bind (d5h i4 (by show v.2.2.2.1.length <= 8001;omega) i3) fun _ _=>Tot.ite (fun _=>Tot.some trivial) fun _=>Tot.some trivial
 have nxt: ∀(p:rQ),p=v.2.2.1 -> v.2.2.1.bad=false -> Tot (a4y rc (v.1,(⟨v.2.1.Name,v.2.1.Currency,[]⟩:Statute),p,v.2.2.2.1,(⟨v.2.2.2.2.1.Name,v.2.2.2.2.1.Currency,[]⟩:Statute))) fun _=>True:=by
  intro p hp hb
  subst hp
  unfold a4y
  have hlen:(v.2.2.2.1.length:Int) <= v.2.2.1.at_:=by
   rcases i2 with h | h
   ·exact h
   ·rw [hb] at h;cases h.1
  refine Tot.bind (d1r rv) fun x gx=>Tot.bind (a6v (by simp;omega)) fun l hl=> ?_
  subst hl
  have gx:(RS v.2.2.1 x.2 /\ (v.2.2.1.at_<x.2.at_ \/ x.2.bad=true) /\ VG x.1):=gx
  have ha:=gx.1.2.1
  refine ih _ ⟨i1.trans gx.1,?_,fun y hy=>(c16 hy).elim (i3 y) fun e=>by subst e;exact gx.2.2,i4⟩ ?_
  ·show ((v.2.2.2.1++[x.1]).length:Int) <= x.2.at_ \/ (x.2.bad=true /\ ((v.2.2.2.1++[x.1]).length:Int) <= x.2.at_+1)
   rw [qL]
   simp only [List.length_cons,List.length_nil]
   rcases gx.2.1 with h | h
   ·left;omega
   ·right;exact ⟨h,by omega⟩
  ·show 2*left x.2+(if x.2.bad=true then 0 else 1)<2*left v.2.2.1+(if v.2.2.1.bad=true then 0 else 1)
   rw [hb]
   rcases gx.2.1 with h | h
   ·have:=b5h rv gx.1 h
    split<;>simp<;>omega
   ·have:=b0z gx.1
    rw [h]
    simp
    omega
 unfold b20
 refine Tot.ite (fun hb=> ?_) fun _=>Tot.join (fin _ rv)
 have hb:v.2.2.1.bad=false:=by simpa using hb
 refine Tot.ite (fun _=>Tot.join (nxt _ rfl hb)) fun _=> ?_
 refine Tot.bind (a6r rv _) fun t ht=>Tot.ite (fun hp=>Tot.join (nxt _ (ht.2.2.2 (by simpa using hp)) hb)) fun _=>Tot.join (fin _ (ht.1.ri rv))
end Go.PL
namespace Go.PL
open Go Go.SX
theorem a8c (l:List Int) (k:Int) (s:ByteArray) (hl:l.length <= 9223372036854775807) (hs:s.size <= 2400):Tot (a3z (l,k,s)) fun r=>r.size <= 2500:=by
 unfold a3z
 try dsimp only
 have hstr__7d_:c7v.size=2:=by decide
 have hstrh_a41f67:c32.size=51:=by decide
 refine Tot.bind (a0a _ _ hl) fun v105 hv105=> ?_
 refine Tot.bind (a0g (by omega) (by omega)) fun v106 hv106=> ?_
 refine Tot.ite (fun hc=> ?_) fun hc=> ?_
 ·skip
  refine Tot.bind (d6 (by omega)) fun v107 hv107=> ?_
  refine Tot.bind (d6 (by omega)) fun v108 hv108=> ?_
  exact Tot.some (by first | exact trivial | omega)
 ·skip
  refine Tot.bind (d6 (by omega)) fun v109 hv109=> ?_
  exact Tot.some (by first | exact trivial | omega)
theorem a8a (l:List Int) (k:Int) (s:ByteArray) (hl:l.length <= 9223372036854775807) (hs:s.size <= 1900):Tot (a3v (l,k,s)) fun r=>r.size <= 2500:=by
 unfold a3v
 try dsimp only
 have hstr__3b_:b3i.size=2:=by decide
 have hstr_d_pay_:c53.size=6:=by decide
 have hstr_reduce_old_by_:b3k.size=14:=by decide
 have hstrh_635cfa:c3x.size=14:=by decide
 have hstrh_a54acb:c2d.size=27:=by decide
 have hstrh_af57c7:c29.size=27:=by decide
 have hstrh_bfa283:c3b.size=29:=by decide
 refine Tot.bind (a0a _ _ hl) fun v79 hv79=> ?_
 refine Tot.bind (a0g (by omega) (by omega)) fun v80 hv80=> ?_
 refine Tot.bind (a7u (by omega) (by omega)) fun v81 hv81=> ?_
 refine Tot.bind (d6 (by omega)) fun v82 hv82=> ?_
 refine Tot.bind (d6 (by omega)) fun v83 hv83=> ?_
 refine Tot.bind (a0a _ _ hl) fun v84 hv84=> ?_
 refine Tot.bind (a0g (by omega) (by omega)) fun v85 hv85=> ?_
 refine Tot.bind (b66 (by omega) (by omega)) fun v86 hv86=> ?_
 refine Tot.bind (d6 (by omega)) fun v87 hv87=> ?_
 refine Tot.bind (d6 (by omega)) fun v88 hv88=> ?_
 refine Tot.bind (d6 (by omega)) fun v89 hv89=> ?_
 refine Tot.bind (a0a _ _ hl) fun v90 hv90=> ?_
 refine Tot.bind (a0g (by omega) (by omega)) fun v91 hv91=> ?_
 refine Tot.bind (a7u (by omega) (by omega)) fun v92 hv92=> ?_
 refine Tot.bind (d6 (by omega)) fun v93 hv93=> ?_
 refine Tot.bind (d6 (by omega)) fun v94 hv94=> ?_
 refine Tot.bind (d6 (by omega)) fun v95 hv95=> ?_
 refine Tot.bind (a0a _ _ hl) fun v96 hv96=> ?_
 refine Tot.bind (a0g (by omega) (by omega)) fun v97 hv97=> ?_
 refine Tot.ite (fun hc=> ?_) fun hc=> ?_
 ·skip
  refine Tot.bind (a0a _ _ hl) fun v98 hv98=> ?_
  refine Tot.bind (a0g (by omega) (by omega)) fun v99 hv99=> ?_
  refine Tot.bind (b5v (by omega) (by omega)) fun v100 hv100=> ?_
  refine Tot.bind (d6 (by omega)) fun v101 hv101=> ?_
  refine Tot.bind (d6 (by omega)) fun v102 hv102=> ?_
  refine Tot.bind (d6 (by omega)) fun v103 hv103=> ?_
  exact Tot.join (a8c _ _ _ hl (by omega))
 ·skip
  exact Tot.join (a8c _ _ _ hl (by omega))
theorem a88 (l:List Int) (k:Int) (t s:ByteArray) (hl:l.length <= 9223372036854775807) (ht:t.size <= 8) (hs:s.size <= 900):Tot (a42 (l,k,t,s)) fun r=>r.size <= 2500:=by
 unfold a42
 try dsimp only
 have hstr__3b_:b3i.size=2:=by decide
 have hstr_m_29_3b_:b9z.size=4:=by decide
 have hstrh_196854:c3q.size=22:=by decide
 have hstrh_34ba8d:c1c.size=9:=by decide
 have hstrh_4d1f9b:c1m.size=13:=by decide
 have hstrh_58c487:c2h.size=16:=by decide
 have hstrh_7bee7c:c2b.size=31:=by decide
 have hstrh_7ff122:c3l.size=25:=by decide
 have hstrh_85bf07:c1l.size=13:=by decide
 have hstrh_98dd23:c1u.size=20:=by decide
 have hstrh_b388fe:c24.size=66:=by decide
 have hstrh_d82640:c2i.size=23:=by decide
 have hstrh_da8d59:c3r.size=26:=by decide
 refine Tot.bind (a0a _ _ hl) fun v29 hv29=> ?_
 refine Tot.bind (a0g (by omega) (by omega)) fun v30 hv30=> ?_
 refine Tot.bind (b5v (by omega) (by omega)) fun v31 hv31=> ?_
 refine Tot.bind (d6 (by omega)) fun v32 hv32=> ?_
 refine Tot.bind (d6 (by omega)) fun v33 hv33=> ?_
 refine Tot.bind (a0a _ _ hl) fun v34 hv34=> ?_
 refine Tot.bind (a0g (by omega) (by omega)) fun v35 hv35=> ?_
 refine Tot.bind (b5v (by omega) (by omega)) fun v36 hv36=> ?_
 refine Tot.bind (d6 (by omega)) fun v37 hv37=> ?_
 refine Tot.bind (d6 (by omega)) fun v38 hv38=> ?_
 refine Tot.bind (d6 (by omega)) fun v39 hv39=> ?_
 refine Tot.bind (d6 (by omega)) fun v40 hv40=> ?_
 refine Tot.bind (d6 (by omega)) fun v41 hv41=> ?_
 refine Tot.bind (a0a _ _ hl) fun v42 hv42=> ?_
 refine Tot.bind (a0g (by omega) (by omega)) fun v43 hv43=> ?_
 refine Tot.bind (b5v (by omega) (by omega)) fun v44 hv44=> ?_
 refine Tot.bind (d6 (by omega)) fun v45 hv45=> ?_
 refine Tot.bind (d6 (by omega)) fun v46 hv46=> ?_
 refine Tot.bind (d6 (by omega)) fun v47 hv47=> ?_
 refine Tot.bind (a0a _ _ hl) fun v48 hv48=> ?_
 refine Tot.bind (a0g (by omega) (by omega)) fun v49 hv49=> ?_
 refine Tot.bind (b66 (by omega) (by omega)) fun v50 hv50=> ?_
 refine Tot.bind (d6 (by omega)) fun v51 hv51=> ?_
 refine Tot.bind (d6 (by omega)) fun v52 hv52=> ?_
 refine Tot.bind (a0a _ _ hl) fun v53 hv53=> ?_
 refine Tot.bind (a0g (by omega) (by omega)) fun v54 hv54=> ?_
 refine Tot.bind (a7u (by omega) (by omega)) fun v55 hv55=> ?_
 refine Tot.bind (d6 (by omega)) fun v56 hv56=> ?_
 refine Tot.bind (d6 (by omega)) fun v57 hv57=> ?_
 refine Tot.bind (a0a _ _ hl) fun v58 hv58=> ?_
 refine Tot.bind (a0g (by omega) (by omega)) fun v59 hv59=> ?_
 refine Tot.bind (a7u (by omega) (by omega)) fun v60 hv60=> ?_
 refine Tot.bind (d6 (by omega)) fun v61 hv61=> ?_
 refine Tot.bind (d6 (by omega)) fun v62 hv62=> ?_
 refine Tot.bind (d6 (by omega)) fun v63 hv63=> ?_
 refine Tot.bind (a0a _ _ hl) fun v64 hv64=> ?_
 refine Tot.bind (a0g (by omega) (by omega)) fun v65 hv65=> ?_
 refine Tot.bind (a7u (by omega) (by omega)) fun v66 hv66=> ?_
 refine Tot.bind (d6 (by omega)) fun v67 hv67=> ?_
 refine Tot.bind (d6 (by omega)) fun v68 hv68=> ?_
 refine Tot.bind (a0a _ _ hl) fun v69 hv69=> ?_
 refine Tot.bind (a0g (by omega) (by omega)) fun v70 hv70=> ?_
 refine Tot.bind (b5v (by omega) (by omega)) fun v71 hv71=> ?_
 refine Tot.bind (d6 (by omega)) fun v72 hv72=> ?_
 refine Tot.bind (d6 (by omega)) fun v73 hv73=> ?_
 refine Tot.bind (d6 (by omega)) fun v74 hv74=> ?_
 refine Tot.bind (a0a _ _ hl) fun v75 hv75=> ?_
 refine Tot.bind (a0g (by omega) (by omega)) fun v76 hv76=> ?_
 refine Tot.ite (fun hc=> ?_) fun hc=> ?_
 ·skip
  refine Tot.bind (d6 (by omega)) fun v77 hv77=> ?_
  exact Tot.join (a8a _ _ _ hl (by omega))
 ·skip
  exact Tot.join (a8a _ _ _ hl (by omega))
theorem a8b (l:List Int) (k:Int) (t s:ByteArray) (hl:l.length <= 9223372036854775807) (ht:t.size <= 8) (hs:s.size <= 800):Tot (a43 (l,k,t,s)) fun r=>r.size <= 2500:=by
 unfold a43
 try dsimp only
 have hstrh_2afe9d:c2c.size=18:=by decide
 refine Tot.bind (a0a _ _ hl) fun v25 hv25=> ?_
 refine Tot.bind (a0g (by omega) (by omega)) fun v26 hv26=> ?_
 refine Tot.ite (fun hc=> ?_) fun hc=> ?_
 ·skip
  refine Tot.bind (d6 (by omega)) fun v27 hv27=> ?_
  exact Tot.join (a88 _ _ _ _ hl ht (by omega))
 ·skip
  exact Tot.join (a88 _ _ _ _ hl ht (by omega))
theorem a1o (l:List Int) (k:Int) (t s:ByteArray) (hl:l.length <= 9223372036854775807) (ht:t.size <= 8) (hs:s.size <= 400):Tot (a0l (l,k,t,s)) fun r=>r.size <= 2500:=by
 unfold a0l
 try dsimp only
 have hstr__3b_:b3i.size=2:=by decide
 have hstrh_405077:c31.size=19:=by decide
 have hstrh_f7dc2d:c36.size=42:=by decide
 refine Tot.bind (a0a _ _ hl) fun v10 hv10=> ?_
 refine Tot.bind (a0g (by omega) (by omega)) fun v11 hv11=> ?_
 refine Tot.bind (b66 (by omega) (by omega)) fun v12 hv12=> ?_
 refine Tot.bind (d6 (by omega)) fun v13 hv13=> ?_
 refine Tot.bind (d6 (by omega)) fun v14 hv14=> ?_
 refine Tot.bind (d6 (by omega)) fun v15 hv15=> ?_
 refine Tot.bind (a0a _ _ hl) fun v16 hv16=> ?_
 refine Tot.bind (a0g (by omega) (by omega)) fun v17 hv17=> ?_
 refine Tot.ite (fun hc=> ?_) fun hc=> ?_
 ·skip
  refine Tot.bind (a0a _ _ hl) fun v18 hv18=> ?_
  refine Tot.bind (a0g (by omega) (by omega)) fun v19 hv19=> ?_
  refine Tot.bind (b66 (by omega) (by omega)) fun v20 hv20=> ?_
  refine Tot.bind (d6 (by omega)) fun v21 hv21=> ?_
  refine Tot.bind (d6 (by omega)) fun v22 hv22=> ?_
  refine Tot.bind (d6 (by omega)) fun v23 hv23=> ?_
  exact Tot.join (a8b _ _ _ _ hl ht (by omega))
 ·skip
  exact Tot.join (a8b _ _ _ _ hl ht (by omega))
theorem a5m (a:ByteArray) (l:List Int) (k:Int) (hl:l.length <= 9223372036854775807) (ha:a.size <= 20):Tot (a1w a l k) fun r=>r.size <= 2500:=by
 unfold a1w
 try dsimp only
 have hstr___7b_round_:b5t.size=9:=by decide
 have hstr_down_1_3b_:b6p.size=8:=by decide
 have hstr_even_10_3b_:b5d.size=9:=by decide
 have hstr_from__40:b9m.size=6:=by decide
 have hstr_half_5_3b_:b6o.size=8:=by decide
 have hstr_up_1_3b_:c05.size=6:=by decide
 refine Tot.bind (a0a _ _ hl) fun v1 hv1=> ?_
 refine Tot.bind (a0g (by omega) (by omega)) fun v2 hv2=> ?_
 refine Tot.bind (b66 (by omega) (by omega)) fun v3 hv3=> ?_
 refine Tot.bind (d6 (by omega)) fun v4 hv4=> ?_
 refine Tot.bind (d6 (by omega)) fun v5 hv5=> ?_
 refine Tot.bind (a0a _ _ hl) fun v6 hv6=> ?_
 refine Tot.bind (a0g (by omega) (by omega)) fun v7 hv7=> ?_
 refine Tot.ite (fun hc=> ?_) fun hc=> ?_
 ·skip
  refine Tot.bind (d6 (by omega)) fun v8 hv8=> ?_
  exact Tot.join (a1o _ _ _ _ hl (by omega) (by omega))
 ·skip
  refine Tot.ite (fun hc=> ?_) fun hc=> ?_
  ·skip
   refine Tot.bind (d6 (by omega)) fun v110 hv110=> ?_
   exact Tot.join (a1o _ _ _ _ hl (by omega) (by omega))
  ·skip
   refine Tot.ite (fun hc=> ?_) fun hc=> ?_
   ·skip
    refine Tot.bind (d6 (by omega)) fun v111 hv111=> ?_
    exact Tot.join (a1o _ _ _ _ hl (by omega) (by omega))
   ·skip
    refine Tot.bind (d6 (by omega)) fun v112 hv112=> ?_
    exact Tot.join (a1o _ _ _ _ hl (by omega) (by omega))
theorem b06 (k:Int) (l:List Int) (s:ByteArray) (hl:l.length <= 9223372036854775807) (hs:s.size <= 6000):Tot (a5z (k,l,s)) fun r=>True:=by
 unfold a5z
 try dsimp only
 have hstr_2001_2d01_2d01:b3m.size=10:=by decide
 have hstr__7d:c27.size=1:=by decide
 refine Tot.bind (a0a _ _ hl) fun v15 hv15=> ?_
 refine Tot.bind (a0g (by omega) (by omega)) fun v16 hv16=> ?_
 refine Tot.ite (fun hc=> ?_) fun hc=> ?_
 ·skip
  refine Tot.bind (a5m _ _ _ hl (by decide)) fun v17 hv17=> ?_
  refine Tot.bind (d6 (by omega)) fun v18 hv18=> ?_
  refine Tot.bind (d6 (by omega)) fun v19 hv19=> ?_
  exact Tot.some (by first | exact trivial | omega)
 ·skip
  refine Tot.bind (d6 (by omega)) fun v20 hv20=> ?_
  exact Tot.some (by first | exact trivial | omega)
theorem b6l {k:Int} (l:List Int) (hl:l.length <= 9223372036854775807) (h0:0 <= k) (h3:k<3):Tot (a8s k l) fun r=>True:=by
 unfold a8s
 try dsimp only
 have hstr_1900_2d01_2d01:b3b.size=10:=by decide
 have hstr_1996_2d07_2d01:b3p.size=10:=by decide
 have hstr___7b_:c9w.size=3:=by decide
 have hstr__currency_:b6q.size=10:=by decide
 have hstr_alba:b5z.size=4:=by decide
 have hstr_bora:b68.size=4:=by decide
 have hstr_cedar:b43.size=5:=by decide
 have hstr_statute_:b9l.size=8:=by decide
 have hn: ∀x∈[b5z,b68,b43],x.size <= 10:=by decide
 refine Tot.bind (l7 (l:=[b5z,b68,b43]) h0 h3) fun v1 hv1=> ?_
 refine Tot.bind (l7 (l:=[b5z,b68,b43]) h0 h3) fun v2 hv2=> ?_
 have hv2:=hn v2 hv2
 refine Tot.bind (d6 (by omega)) fun v3 hv3=> ?_
 refine Tot.bind (d6 (by omega)) fun v4 hv4=> ?_
 refine Tot.bind (b66 (by omega) (by omega)) fun v5 hv5=> ?_
 refine Tot.bind (d6 (by omega)) fun v6 hv6=> ?_
 refine Tot.bind (d6 (by omega)) fun v7 hv7=> ?_
 refine Tot.bind (a5m _ _ _ hl (by decide)) fun v8 hv8=> ?_
 refine Tot.bind (d6 (by omega)) fun v9 hv9=> ?_
 refine Tot.bind (a0a _ _ hl) fun v10 hv10=> ?_
 refine Tot.bind (a0g (by omega) (by omega)) fun v11 hv11=> ?_
 refine Tot.ite (fun hc=> ?_) fun hc=> ?_
 ·skip
  refine Tot.bind (a5m _ _ _ hl (by decide)) fun v12 hv12=> ?_
  refine Tot.bind (d6 (by omega)) fun v13 hv13=> ?_
  exact Tot.join (b06 _ _ _ hl (by omega))
 ·skip
  exact Tot.join (b06 _ _ _ hl (by omega))
end Go.PL
namespace Go.PL
open Go Go.SX
theorem d1y (a:Int):Tot (a6z a) fun _=>True:=by
 unfold a6z
 have h: ∀k:Int,0<k -> k <= 9000 -> Tot (Option.bind (c0i a 4) fun v=>Option.bind (b7 v k) fun w=>some (i64 (1+w))) fun _=>True:=fun k h0 h1=>Tot.bind (e4d (by decide)) fun _ _=>Tot.bind (a0g h0 (by omega)) fun _ _=>Tot.some trivial
 refine Tot.bind (a0g (by omega) (by omega)) fun m _=>Tot.ite (fun _=>h _ (by omega) (by omega)) fun _=>Tot.ite (fun _=>h _ (by omega) (by omega)) fun _=>Tot.ite (fun _=>h _ (by omega) (by omega)) fun _=>h _ (by omega) (by omega)
theorem d5k (k:Int):Tot (q8 k) fun s=>s.size <= 10:=by
 unfold q8
 rw [a04,qA]
 refine Tot.ite (fun _=>Tot.some (by decide)) fun h=> ?_
 simp at h
 have hs: ∀x∈[a5j,a99,a5a,a5a,b56,a7l,b3h,a7l,a7l,a7l,b5g,b4y,b4y,b4y,b9s],x.size <= 10:=by decide
 exact Tot.bind (l7 (by omega) (by simp;omega)) fun _ _=>Tot.bind (l7 (by omega) (by simp;omega)) fun x hx=>Tot.some (hs x hx)
theorem e5s (a:pensionhand_Fact):Tot (a8k a) fun _=>True:=by
 have j: ∀q,Tot (a1u q) fun _=>True:=by
  intro q
  unfold a1u
  refine Tot.bind (d5k _) fun s hs=> ?_
  refine Tot.loop (σ:=pensionhand_Fact×aQ×aQ×Int) (I:=fun v=>0 <= v.2.2.2) (μ:=fun v=>((s.size:Int)-v.2.2.2).toNat) (Int.le_refl _) (by show ((s.size:Int)-0).toNat<_;omega) ?_
  intro r v g1 ih
  unfold b2r
  refine Tot.ite (fun hc=> ?_) fun _=>Tot.some trivial
  simp at hc
  have nx: ∀(x:pensionhand_Fact) (y z:aQ),Tot (r (x,y,z,i64 (v.2.2.2+1))) fun _=>True:=fun x y z=>by
   rw [a6l g1 (by omega)]
   exact ih _ (by show 0 <= v.2.2.2+1;omega) (by show ((s.size:Int)-(v.2.2.2+1)).toNat<((s.size:Int)-v.2.2.2).toNat;omega)
  refine Tot.bind (a6s g1 hc) fun b _=> ?_
  simp only [m6,qA]
  repeat' first
   | exact nx _ _ _
   | (refine Tot.ite (fun _=> ?_) fun _=> ?_)
   | (refine Tot.bind (a0g (by omega) (by omega)) fun _ _=> ?_)
   | (refine Tot.bind (e48 (by decide)) fun _ _=> ?_)
 unfold a8k
 repeat' first
  | exact Tot.join (j _)
  | (refine Tot.ite (fun _=> ?_) fun _=> ?_)
  | (refine Tot.bind (a0g (by omega) (by omega)) fun _ _=> ?_)
  | (refine Tot.bind (d1y _) fun _ _=> ?_)
theorem e20 (l:List pensionhand_Fact):Tot (a83 l) fun r=>r.length <= 12:=by
 unfold a83
 refine Tot.loop (I:=fun v:List aQ×Int=>0 <= v.2 /\ v.2 <= 12 /\ (v.1.length:Int)=v.2) (μ:=fun v=>(12-v.2).toNat) ⟨Int.le_refl _,by show (0:Int) <= 12;omega,rfl⟩ (by show (12-0:Int).toNat<_;omega) ?_
 intro r v hI ih
 obtain ⟨g1,g2,g3⟩:=hI
 unfold b21
 rw [m6,qA]
 refine Tot.ite (fun hc=> ?_) fun _=>Tot.some (by omega)
 simp at hc
 refine Tot.bind (l7 g1 (by omega)) fun x _=>Tot.bind (e5s x) fun f _=>Tot.bind (a6v (by simp;omega)) fun a ha=> ?_
 subst ha
 rw [a6l g1 (by omega)]
 exact ih _ ⟨by show 0 <= v.2+1;omega,by show v.2+1 <= 12;omega,by simp;omega⟩ (by show (12-(v.2+1)).toNat<(12-v.2).toNat;omega)
end Go.PL
namespace Go.PL
open Go
theorem b4a {α β:Type} (f:α -> Option β) (a:α):Go.SX.joinC f a=f a:=rfl
theorem a1j {i n:Nat} (h:i<n):(decide ((i:Int)<(n:Int)))=true:=by simp;omega
theorem a0i (n:Nat): ¬(decide ((n:Int)<(n:Int)))=true:=by simp
theorem b4n {α:Type} {f:(List α×Int -> Option (List α)) -> List α×Int -> Option (List α)} {k:Nat} (l:List α) (p:α -> Bool) (hl:l.length <= 2^30) (hk:k <= 1000)
  (hstep: ∀(rec:List α×Int -> Option (List α)) (s:List α) (i:Nat) (y:α),l[i]? =some y -> f rec (s,(i:Int))=if p y=true then Option.bind (a4t k s [y]) (fun a=>rec (a,i64 ((i:Int)+1))) else rec (s,i64 ((i:Int)+1)))
  (hfin: ∀(rec:List α×Int -> Option (List α)) (s:List α),f rec (s,(l.length:Int))=some s):d5 FU f ([],0)=some (l.filter p):=by
 refine o8 (f:=f) l (fun s i=>(s,i)) (fun s i=>s=(l.take i).filter p) (fun o=>o=some (l.filter p)) (by omega) ?_ ?_ [] (by simp)
 ·rintro rec s i y hi hy rfl
  right
  have hlen:((l.take i).filter p).length <= i:=by
   have:=List.length_filter_le p (l.take i);rw [List.length_take] at this;omega
  rw [hstep _ _ _ _ hy,l9 (by omega),a0c hy,List.filter_append]
  by_cases hc:p y=true
  ·rw [if_pos hc,a0e (by
    simp only [List.length_cons,List.length_nil]
    calc (((l.take i).filter p).length+1)*k <= (2^30+1)*1000:=Nat.mul_le_mul (by omega) hk
     _ <= _:=by omega),qA]
   exact ⟨_,rfl,by simp [hc]⟩
  ·rw [if_neg hc]
   rw [Bool.not_eq_true] at hc
   exact ⟨_,rfl,by simp [hc]⟩
 ·rintro rec s rfl
  rw [hfin,List.take_length]
theorem c4v {α:Type} {f:(Int -> Option Int) -> Int -> Option Int} (l:List α) (p:α -> Bool) (hl:l.length <= 2^30)
  (hstep: ∀(rec:Int -> Option Int) (i:Nat) (y:α),l[i]? =some y -> f rec (i:Int)=if p y=true then some (i:Int) else rec (i64 ((i:Int)+1)))
  (hfin: ∀rec:Int -> Option Int,f rec (l.length:Int)=some (-1)): ∃n,d5 FU f 0=some n /\ decide (n >= 0)=l.any p:=by
 refine o8 (f:=f) l (fun (_:Unit) i=>i) (fun _ i=> ∀y∈l.take i,p y=false) (fun o=> ∃n,o=some n /\ decide (n >= 0)=l.any p) (by omega) ?_ ?_ () (by simp)
 ·rintro rec s i y hi hy h
  rw [hstep _ _ _ hy,l9 (by omega)]
  by_cases hc:p y=true
  ·left
   rw [if_pos hc]
   exact ⟨_,rfl,by rw [List.any_eq_true.2 ⟨y,qE hy,hc⟩];simp⟩
  ·right
   rw [if_neg hc]
   refine ⟨(),rfl,fun z hz=> ?_⟩
   rw [a0c hy] at hz
   rcases qK.1 hz with hz | hz
   ·exact h z hz
   ·rw [qF] at hz;subst hz;simpa using hc
 ·intro rec s h
  rw [List.take_length] at h
  rw [hfin]
  refine ⟨-1,rfl,?_⟩
  have:l.any p=false:=by rw [List.any_eq_false];intro y hy;simp [h y hy]
  rw [this];decide
theorem c2x {α σ ρ τ:Type} {f:(σ -> Option ρ) -> σ -> Option ρ} (l:List α) (e:τ -> Int -> σ) (g:τ -> α -> τ) (out:τ -> Option ρ) (hl:l.length <= 2^30) (s0:τ) (J:τ -> Nat -> Prop) (h0:J s0 0)
  (hstep: ∀(rec:σ -> Option ρ) (s:τ) (i:Nat) (y:α),l[i]? =some y -> J s i -> J (g s y) (i+1) /\ f rec (e s (i:Int))=rec (e (g s y) (i64 ((i:Int)+1))))
  (hfin: ∀(rec:σ -> Option ρ) (s:τ),J s l.length -> f rec (e s (l.length:Int))=out s):d5 FU f (e s0 0)=out (l.foldl g s0):=by
 refine o8 (f:=f) l e (fun s i=>s=(l.take i).foldl g s0 /\ J s i) (fun o=>o=out (l.foldl g s0)) (by omega) ?_ ?_ s0 ⟨by simp,h0⟩
 ·rintro rec s i y hi hy ⟨rfl,hJ⟩
  right
  obtain ⟨h1,h2⟩:=hstep rec _ i y hy hJ
  rw [h2,l9 (by omega)]
  exact ⟨_,rfl,(d5z hy).symm,h1⟩
 ·rintro rec s ⟨rfl,hJ⟩
  rw [hfin _ _ hJ,List.take_length]
end Go.PL
namespace Go.PL
open Go Go.Sort
def InS (l:List Span) (x:Int):Prop:= ∃s∈l,s.From <= x /\ x<s.To
theorem b59 {x:Int}: ¬InS [] x:=by rintro ⟨s,h,_⟩;cases h
theorem a93 {a b:List Span} {x:Int}:InS (a++b) x↔InS a x \/ InS b x:=by
 constructor
 ·rintro ⟨s,h,h1⟩
  rcases qK.1 h with h | h
  ·exact .inl ⟨s,h,h1⟩
  ·exact .inr ⟨s,h,h1⟩
 ·rintro (⟨s,h,h1⟩ | ⟨s,h,h1⟩)
  ·exact ⟨s,List.mem_append_left _ h,h1⟩
  ·exact ⟨s,List.mem_append_right _ h,h1⟩
theorem b0q {s:Span} {x:Int}:InS [s] x↔s.From <= x /\ x<s.To:=by
 constructor
 ·rintro ⟨t,h,h1⟩;rw [qF] at h;subst h;exact h1
 ·intro h;exact ⟨s,qF.2 rfl,h⟩
theorem a3w {s:Span} {b:List Span} {x:Int}:InS (s::b) x↔(s.From <= x /\ x<s.To) \/ InS b x:=by
 have:= @a93 [s] b x
 rw [b0q] at this;exact this
theorem e3t {a b:List Span} (h:a.Perm b) {x:Int}:InS a x↔InS b x:=by
 constructor
 ·rintro ⟨s,hs,h1⟩;exact ⟨s,h.mem_iff.1 hs,h1⟩
 ·rintro ⟨s,hs,h1⟩;exact ⟨s,h.mem_iff.2 hs,h1⟩
def Nrm (l:List Span):Prop:=(∀s∈l,0 <= s.From /\ s.From<s.To /\ s.To <= 73049) /\ l.Pairwise (fun a b=>a.To<b.From)
theorem c3d:Nrm []:=⟨fun _ h=>(by cases h),List.Pairwise.nil⟩
theorem a9w {a:List Span} {s:Span}:Nrm (a++[s])↔Nrm a /\ (∀t∈a,t.To<s.From) /\ 0 <= s.From /\ s.From<s.To /\ s.To <= 73049:=by
 unfold Nrm
 rw [List.pairwise_append]
 constructor
 ·rintro ⟨h1,h2,h3,h4⟩
  exact ⟨⟨fun t ht=>h1 t (List.mem_append_left _ ht),h2⟩,fun t ht=>h4 t ht s (qF.2 rfl),h1 s (List.mem_append_right _ (qF.2 rfl))⟩
 ·rintro ⟨⟨h1,h2⟩,h3,h4⟩
  refine ⟨fun t ht=> ?_,h2,List.pairwise_singleton _ _,fun t ht u hu=> ?_⟩
  ·rcases qK.1 ht with h | h
   ·exact h1 t h
   ·rw [qF] at h;subst h;exact h4
  ·rw [qF] at hu;subst hu;exact h3 t ht
theorem b2j {a:List Span} {s:Span}:Nrm (s::a)↔Nrm a /\ (∀t∈a,s.To<t.From) /\ 0 <= s.From /\ s.From<s.To /\ s.To <= 73049:=by
 unfold Nrm
 rw [List.pairwise_cons]
 constructor
 ·rintro ⟨h1,h2,h3⟩
  exact ⟨⟨fun t ht=>h1 t (qJ _ ht),h3⟩,h2,h1 s (qI ..)⟩
 ·rintro ⟨⟨h1,h2⟩,h3,h4⟩
  refine ⟨fun t ht=> ?_,h3,h2⟩
  rcases qO.1 ht with h | h
  ·subst h;exact h4
  ·exact h1 t h
theorem c6c {l:List Span} (h:Nrm l) {x:Int} (hx:InS l x):0 <= x /\ x<73049:=by
 obtain ⟨s,hs,h1⟩:=hx
 have:=h.1 s hs
 omega
theorem c0q: ∀{a b:List Span},Nrm a -> Nrm b -> (∀x,InS a x↔InS b x) -> a=b
 | [],[],_,_,_=>rfl
 | [],s::b,_,hb,h=>by
   have:=(b2j.1 hb).2.2
   exact absurd ((h s.From).2 (a3w.2 (.inl ⟨Int.le_refl _,this.2.1⟩))) b59
 | s::a,[],ha,_,h=>by
   have:=(b2j.1 ha).2.2
   exact absurd ((h s.From).1 (a3w.2 (.inl ⟨Int.le_refl _,this.2.1⟩))) b59
 | s::a,t::b,ha,hb,h=>by
   obtain ⟨ha1,ha2,ha3⟩:=b2j.1 ha
   obtain ⟨hb1,hb2,hb3⟩:=b2j.1 hb
   have low: ∀{c:List Span} {u:Span},(∀t∈c,u.To<t.From) -> ∀{x},InS c x -> u.To<x:=by
    rintro c u hc x ⟨v,hv,h1⟩;have:=hc v hv;omega
   have f1:t.From <= s.From:=by
    rcases a3w.1 ((h s.From).1 (a3w.2 (.inl ⟨Int.le_refl _,ha3.2.1⟩))) with h1 | h1
    ·exact h1.1
    ·have:=low hb2 h1;omega
   have f2:s.From <= t.From:=by
    rcases a3w.1 ((h t.From).2 (a3w.2 (.inl ⟨Int.le_refl _,hb3.2.1⟩))) with h1 | h1
    ·exact h1.1
    ·have:=low ha2 h1;omega
   have t1: ¬s.To<t.To:=by
    intro h1
    rcases a3w.1 ((h s.To).2 (a3w.2 (.inl ⟨by omega,h1⟩))) with h2 | h2
    ·omega
    ·have:=low ha2 h2;omega
   have t2: ¬t.To<s.To:=by
    intro h1
    rcases a3w.1 ((h t.To).1 (a3w.2 (.inl ⟨by omega,h1⟩))) with h2 | h2
    ·omega
    ·have:=low hb2 h2;omega
   have hst:s=t:=by cases s;cases t;simp only [Span.mk.injEq] at *; omega
   subst hst
   congr 1
   refine c0q ha1 hb1 fun x=> ?_
   constructor
   ·intro hx
    have:=low ha2 hx
    rcases a3w.1 ((h x).1 (a3w.2 (.inr hx))) with h2 | h2
    ·omega
    ·exact h2
   ·intro hx
    have:=low hb2 hx
    rcases a3w.1 ((h x).2 (a3w.2 (.inr hx))) with h2 | h2
    ·omega
    ·exact h2
theorem b7b {l:List Span} (h:Nrm l):l.length <= 73049:=by
 have key: ∀(l:List Span),Nrm l -> ∀s∈l.getLast?,(l.length:Int) <= s.To:=by
  intro l
  have: ∀(r:List Span),Nrm r.reverse -> ∀s∈r.head?,(r.length:Int) <= s.To:=by
   intro r
   induction r with
   | nil=>intro _ s hs;cases hs
   | cons u r ih=>
     intro hn s hs
     cases hs
     rw [List.reverse_cons] at hn
     obtain ⟨h1,h2,h3⟩:=a9w.1 hn
     cases r with
     | nil=>simp only [List.length_cons,List.length_nil];omega
     | cons v r=>
       have a:=ih h1 v rfl
       have b:=h2 v (by simp)
       simp only [List.length_cons] at a ⊢; omega
  intro hn s hs
  have:=this l.reverse (by rw [List.reverse_reverse];exact hn) s (by rw [List.head?_reverse];exact hs)
  rwa [List.length_reverse] at this
 rcases f4y l with rfl | ⟨a,t,rfl⟩
 ·exact Nat.zero_le _
 ·have a:=key _ h t (by simp)
  have b:=(a9w.1 h).2.2
  omega
theorem f2w:SWO (fun x y:Span=>decide (x.From<y.From)):=by
 constructor
 ·intro x;simp
 ·intro x y z;simp only [decide_eq_true_eq];omega
 ·intro x y z;simp only [decide_eq_false_iff_not];omega
theorem e2h (l:List Span) (h:l.length<4611686018427387904): ∃r,b0v l=some r /\ r.Perm l /\ r.Pairwise (fun a b=>a.From <= b.From):=by
 unfold b0v d9u
 by_cases h1:l.length <= 1
 ·rw [if_pos h1]
  refine ⟨l,rfl,.refl _,?_⟩
  match l,h1 with
  | [],_=>exact .nil
  | [x],_=>exact List.pairwise_singleton _ _
 ·rw [if_neg h1,if_pos h]
  have hp:=pdq_sorts (fun x y:Span=>decide (x.From<y.From)) f2w l.toArray 0 l.toArray.size (Lib.bitLen l.toArray.size) true true (Nat.zero_le _) (Nat.le_refl _) (Or.inl rfl)
  rw [List.size_toArray] at hp
  generalize pdq (fun x y:Span=>decide (x.From<y.From)) l.toArray 0 l.length (Lib.bitLen l.length) true true=d at hp⊢
  obtain ⟨⟨p1,p2,p3⟩,p4⟩:=hp
  have p1':d.size=l.length:=by simpa using p1
  have e1:d.extract 0 l.length=d:=by rw [<- p1'];simp
  have e2:l.toArray.extract 0 l.length=l.toArray:=by simp
  rw [e1,e2] at p3
  refine ⟨d.toList,rfl,by simpa using p3,?_⟩
  rw [List.pairwise_iff_getElem]
  intro i j hi hj hij
  have:=p4 i j (Nat.zero_le _) hij (by simpa [p1'] using hj)
  have hi':i<d.size:=by simpa using hi
  have hj':j<d.size:=by simpa using hj
  simp only [decide_eq_false_iff_not] at this
  rw [getElem!_pos d j hj',getElem!_pos d i hi'] at this
  simp only [Array.getElem_toList];omega
set_option maxHeartbeats 1000000 in
theorem d76 (l:List Span) (hl:l.length <= 2^40) (hs:l.Pairwise (fun a b=>a.From <= b.From)) (hr: ∀s∈l,0 <= s.From /\ s.From<s.To /\ s.To <= 73049) (Q:Option (List Span) -> Prop)
  (hQ: ∀r,Nrm r -> (∀x,InS r x↔InS l x) -> r.length <= l.length -> Q (some r)):Q (d5 FU (a9u l) ([],l,0)):=by
 refine o8 (f:=a9u l) l (fun s i=>(s,l,i)) (fun s i=>Nrm s /\ (∀x,InS s x↔InS (l.take i) x) /\ s.length <= i /\ ∀t∈s,∃u∈l.take i,u.From=t.From) Q (by omega) ?_ ?_ [] ⟨c3d,fun x=>by simp,Nat.le_refl _,fun t h=>by cases h⟩
 ·rintro rec s i y hi hy ⟨h1,h2,h3,h4⟩
  right
  have hyl:y∈l:=qE hy
  have hyr:=hr y hyl
  unfold a9u
  dsimp only
  rw [if_pos (by simp;omega),l6 hy,qA,qA,l9 (by omega),a0c hy]
  have hord: ∀u∈l.take i,u.From <= y.From:=by
   intro u hu
   have hi':=qG hi
   rw [hy] at hi'
   have e:l=l.take i++l.drop i:=(List.take_append_drop i l).symm
   rw [e,List.pairwise_append] at hs
   refine hs.2.2 u hu y ?_
   rw [qH hi',List.drop_eq_getElem_cons hi];exact qI ..
  rcases f4y s with rfl | ⟨a,t,rfl⟩
  ·simp only [List.length_nil,Int.natCast_zero,Int.lt_irrefl,decide_false,qM,if_false,qA]
   rw [a0e (by simp),qA]
   refine ⟨[y],rfl,?_,fun x=> ?_,by simp,?_⟩
   ·have:=a9w (a:=[]) (s:=y);simp only [List.nil_append] at this;rw [this];exact ⟨c3d,fun t h=>(by cases h),hyr⟩
   ·have:=h2 x
    rw [a93,<- this];simp [b59]
   ·intro t ht;rw [qF] at ht;subst ht;exact ⟨t,by simp,rfl⟩
  ·obtain ⟨n1,n2,n3⟩:=a9w.1 h1
   have hlen:a.length<2^62:=by rw [qL] at h3;simp at h3;omega
   have htf:t.From <= y.From:=by
    obtain ⟨u,hu,he⟩:=h4 t (by simp)
    have:=hord u hu;omega
   rw [if_pos (by rw [qL];simp),c3i a t hlen,qA,qA,qA]
   by_cases hc:y.From <= t.To
   ·rw [if_pos (by simpa using hc),qA,qA,qA,qA,c11 a t _ hlen]
    refine ⟨a++[(⟨t.From,max t.To y.To⟩:Span)],rfl,?_,fun x=> ?_,by simp at h3 ⊢; omega,?_⟩
    ·rw [a9w];exact ⟨n1,n2,by dsimp only;omega,by dsimp only;omega,by dsimp only;omega⟩
    ·have:=h2 x
     rw [a93,b0q] at this
     rw [a93,a93,<- this,b0q,b0q]
     dsimp only
     by_cases hax:InS a x
     ·simp [hax]
     ·simp only [hax,false_or];omega
    ·intro v hv
     rcases qK.1 hv with hv | hv
     ·obtain ⟨u,hu,he⟩:=h4 v (List.mem_append_left _ hv);exact ⟨u,List.mem_append_left _ hu,he⟩
     ·rw [qF] at hv;subst hv
      obtain ⟨u,hu,he⟩:=h4 t (by simp);exact ⟨u,List.mem_append_left _ hu,he⟩
   ·rw [if_neg (by simpa using hc),a0e (by simp at h3 ⊢; omega),qA]
    refine ⟨a++[t]++[y],rfl,?_,fun x=> ?_,by simp at h3 ⊢; omega,?_⟩
    ·rw [a9w]
     refine ⟨h1,fun v hv=> ?_,hyr⟩
     rcases qK.1 hv with hv | hv
     ·have:=n2 v hv;omega
     ·rw [qF] at hv;subst hv;omega
    ·have:=h2 x
     rw [a93 (a:=a++[t]),a93 (a:=l.take i),this]
    ·intro v hv
     rcases qK.1 hv with hv | hv
     ·obtain ⟨u,hu,he⟩:=h4 v hv;exact ⟨u,List.mem_append_left _ hu,he⟩
     ·rw [qF] at hv;subst hv
      exact ⟨v,by simp,rfl⟩
 ·rintro rec s ⟨h1,h2,h3,_⟩
  rw [List.take_length] at h2
  unfold a9u
  dsimp only
  rw [if_neg (by simp)]
  exact hQ s h1 h2 h3
set_option maxHeartbeats 1000000 in
theorem b1e (d:List Span) (hd:d.length <= 2^40): ∃r,a9g d=some r /\ Nrm r /\ (∀x,InS r x↔InS d x /\ 0 <= x /\ x<73049) /\ r.length <= d.length:=by
 unfold a9g
 refine o8 (f:=b2e d) d (fun s i=>(s,[],i)) (fun s i=>(∀u∈s,0 <= u.From /\ u.From<u.To /\ u.To <= 73049) /\ (∀x,InS s x↔InS (d.take i) x /\ 0 <= x /\ x<73049) /\ s.length <= i)
  (fun o=> ∃r,o=some r /\ Nrm r /\ (∀x,InS r x↔InS d x /\ 0 <= x /\ x<73049) /\ r.length <= d.length) (by omega) ?_ ?_ [] ⟨fun u h=>(by cases h),fun x=>by simp [b59],Nat.le_refl _⟩
 ·rintro rec s i y hi hy ⟨h1,h2,h3⟩
  right
  unfold b2e b79
  dsimp only
  rw [if_pos (by simp;omega),l6 hy,qA,l9 (by omega),qA,a0c hy]
  dsimp only
  by_cases hc:max y.From 0<min y.To 73049
  ·rw [if_pos (by simpa using hc),a0e (by simp;omega),qA]
   refine ⟨s++[(⟨max y.From 0,min y.To 73049⟩:Span)],rfl,fun u hu=> ?_,fun x=> ?_,by simp;omega⟩
   ·rcases qK.1 hu with hu | hu
    ·exact h1 u hu
    ·rw [qF] at hu;subst hu;dsimp only;omega
   ·rw [a93,a93,h2 x,b0q,b0q]
    dsimp only
    by_cases hax:InS (d.take i) x
    ·simp only [hax,true_and,true_or];omega
    ·simp only [hax,false_and,false_or];omega
  ·rw [if_neg (by simpa using hc)]
   refine ⟨s,rfl,h1,fun x=> ?_,by omega⟩
   rw [a93,h2 x,b0q]
   by_cases hax:InS (d.take i) x
   ·simp only [hax,true_and,true_or]
   ·simp only [hax,false_and,false_or]
    refine ⟨fun h=>h.elim,fun h=> ?_⟩
    omega
 ·rintro rec s ⟨h1,h2,h3⟩
  rw [List.take_length] at h2
  unfold b2e
  dsimp only
  rw [if_neg (by simp)]
  obtain ⟨q,e,hp,hq⟩:=e2h s (by omega)
  rw [e,qA]
  have hql:=hp.length_eq
  refine d76 q (by omega) hq (fun u hu=>h1 u (hp.mem_iff.1 hu)) (fun o=> ∃r,o=some r /\ Nrm r /\ (∀x,InS r x↔InS d x /\ 0 <= x /\ x<73049) /\ r.length <= d.length) fun r a b c=>⟨r,rfl,a,fun x=> ?_,by omega⟩
  rw [b x,e3t hp,h2 x]
end Go.PL
