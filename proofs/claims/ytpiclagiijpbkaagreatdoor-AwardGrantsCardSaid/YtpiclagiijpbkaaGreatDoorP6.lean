/- Texts of the proof, joined. -/
import Derived.Test.YtpiclagiijpbkaaGreatDoorP5
import Derived.Laws.BitsLemmas
import Derived.Laws.Bits64
import Derived.Shelf.Strconv.Itoa3
import Derived.Lib.LaidTab
set_option linter.defProp false
set_option linter.unusedVariables false
set_option linter.unusedSimpArgs false
set_option maxRecDepth 100000
open List
namespace Go.PL
open Go
def e9 {n:Int}(h0: -9223372036854775808 <= n)(h1:n <= 9223372036854775807):i64 n=n:=by
 unfold i64;rw [IntKind.wrap_i64];omega
def b83 {n:Int}(h0:0 <= n)(h1:n <= 18446744073709551615):u64 n=n:=by
 unfold u64;rw [IntKind.wrap_u64];omega
def g2l (n:Int):u64 n=n%18446744073709551616:=by unfold u64;rw [IntKind.wrap_u64]
def b51 (n:Int):0 <= u64 n /\ u64 n <= 18446744073709551615:=by rw [g2l];omega
def b4c {α:Type}(l:O α)(k:Nat):c7 l (k:Int)=l[k]? :=by unfold c7;rw [if_pos (Int.natCast_nonneg k),Int.toNat_natCast]
def j38 {α:Type}{l:O α}{i:Int}{x:α}(h0:0 <= i)(h:l[i.toNat]? =some x):c7 l i=some x:=by unfold c7;rw [if_pos h0];exact h
def y3 {b e:Bool}:(if b=true then some true else some e)=some (b||e):=by cases b<;>rfl
def o4 {b e:Bool}:(if b=true then some e else some false)=some (b&&e):=by cases b<;>rfl
def a1z {p:Prop} [Decidable p] {e:Bool}:(if p then some true else some e)=some (decide p||e):=by by_cases h:p<;>simp [h]
def a7h {p:Prop} [Decidable p] {e:Bool}:(if p then some e else some false)=some (decide p&&e):=by by_cases h:p<;>simp [h]
def d04 {a b:Int}(h:b≠0):b8t a b=some (a.tmod b):=by unfold b8t;rw [if_neg h]
def e9a {a b:Int}(h:b≠0):c2t a b=some (i64 (a.tdiv b)):=by unfold c2t;rw [if_neg h]
def p6 {α:Type}{bytes:Nat}{l x:O α}(h:(l.length+x.length)*bytes <= 140737488355328):a4n bytes l x=some (l++x):=by unfold a4n;rw [if_pos h]
def b26 {α:Type}{l:O α}{lo hi:Int}(h0:0 <= lo)(h1:lo <= hi)(h2:hi <= (l.length:Int)):a1x l lo hi=some ((l.drop lo.toNat).take (hi.toNat-lo.toNat)):=by
 unfold a1x;rw [if_pos ⟨h0,h1,h2⟩]
def c9f {a b:Int}(h:0 <= a):a.tmod b=a%b:=Int.tmod_eq_emod_of_nonneg h
def c7w {a b:Int}(h:0 <= a):a.tdiv b=a/b:=Int.tdiv_eq_ediv_of_nonneg h
def g4v:Nat -> Nat -> O UInt8
 | 0,u=>[UInt8.ofNat (48+u)]
 | k+1,u=>if u<10 then [UInt8.ofNat (48+u)] else g4v k (u/10)++[UInt8.ofNat (48+u%10)]
def e9y: ∀(k u:Nat),u<10^(k+1) -> g4v k u=Lib.decDigits u
 | 0,u,h=>by rw [Lib.decDigits,dif_pos (by simpa using h)];rfl
 | k+1,u,h=>by
   rw [Lib.decDigits]
   unfold g4v
   by_cases hu:u<10
   ·rw [if_pos hu,dif_pos hu]
   ·rw [if_neg hu,dif_neg hu,e9y k (u/10) (by rw [Nat.pow_succ] at h;omega)]
def strconv_Itoa (a:Int):A3 A4:=if 0 <= a /\ a <= 9223372036854775807 then some ⟨(g4v 20 a.toNat).toArray⟩ else none
end Go.PL
namespace Go.SX
open Go Go.PL Go.Proofs Go.Shelf
def f8r {P:Program}{nm:String}{k:IntKind}{zs:O Int}{g:Nat}(hg:P.globalNamed nm=some g){w w':World}(h:Lib.TabIs P w nm k zs)(hb:w'.heap[g]? =w.heap[g]?):Lib.TabIs P w' nm k zs:=by
 unfold Lib.TabIs World.var? at*
 rw [hg] at*
 simpa [hb] using h
def g7m {P:Program}{nm:String}{k:IntKind}{zs:O Int}{g:Nat}(hg:P.globalNamed nm=some g){w:World}(h:Lib.TabIs P w nm k zs):g<w.heap.size:=by
 unfold Lib.TabIs World.var? at h
 rw [hg] at h
 cases hh:w.heap[g]? with
 | none=>simp [hh] at h
 | some o=>exact (qN.1 hh).1
def f3k (G:Nat -> Prop)(w:World)(k:Nat)(os:Array Obj):Ext G w (Sort.grow (w.drewN k) os):=
 ⟨rfl,rfl,rfl,by simp [Sort.grow,World.drewN],fun b hb _=>by simp [Sort.grow,World.drewN,Array.getElem?_append_left hb]⟩
section
variable {P:Program} {U:Uni}
def e8o {ρ:Ren}(L:LaysM.n171 P ρ)(ht: ∀w,U.tab w -> Lib.TabIs P w "internal/strconv.uint64pow10" .u64 Lib.pow10Tab){a c:U.C}(fa:U.T a -> Int)(ha: ∀x,(inj a x:U.AV)= .int .i64 (fa x))(fc:A4 -> U.T c)(hc: ∀s,(inj c (fc s):U.AV)= .str s):
  Spec P (ρ.f 171) (⟨⟨[.v a],[.v c]⟩,A4,fun x=>strconv_Itoa (fa x.1),fun b=>((fc b,()),()),none⟩:Fent U):=by
 intro xs r hr Z G w us hl hR
 match us,hl with
 | [u1],_=>
   have s0:AVR _ (inj a xs.1) u1:=hR.slot 0
   rw [ha] at s0
   have s0:u1= .int .i64 (fa xs.1):=s0
   have hr:strconv_Itoa (fa xs.1)=some r:=hr
   unfold strconv_Itoa at hr
   split at hr
   ·rename_i hb
    have hr:=(qH hr).symm
    have e:Lib.itoa (fa xs.1)=g4v 20 (fa xs.1).toNat:=by
     unfold Lib.itoa
     rw [if_neg (by omega),e9y 20 _ (by omega)]
    have hC:=Any.strconv_Itoa L (fa xs.1) (by omega) hb.2 w (ht w hR.tab.1)
    subst s0
    show Calls P (ρ.f 171) #[Value.int .i64 (fa xs.1)] w _
    refine hC.mono ?_
    rintro e' w' ⟨he,k,os,hw⟩
    subst hw
    refine ⟨_,he,⟨Z,[_],[.int .i64 (fa xs.1)],rfl,fun _ h=>h,fun _ h=> .inl h,f3k _ _ _ _,rfl,fun _ _ _ _=>rfl,⟨?_,trivial⟩,trivial,?_,?_⟩⟩
    ·show a1p _ (inj c (fc r)) _
     rw [hc,hr,<- e];rfl
    ·intro v hv;cases hv
    ·intro i j v v' b _ hv;cases hv
   ·cases hr
end
end Go.SX
namespace Go.PL
open Go Go.SX
structure Rules where
 From:Int
 MinDays:Int
 PostingLimit:Int
 Substantial:Int
 Members:List Int
structure Rounding where
 Mode:Int
 Unit:Int
structure Credit where
 Kind:Int
 Limit:Int
structure fQ where
 Num:Int
 Den:Int
structure Index where
 Year:Int
 Factor:fQ
structure Expr where
 Op:Int
 Value:fQ
 Dim:Int
 Name:ByteArray
 Args:List Expr
structure Let where
 Name:ByteArray
 Body:Expr
structure Grant where
 Benefit:Int
 If:Expr
 Pay:Expr
structure Reduce where
 Benefit:Int
 By:Expr
structure Version where
 From:Int
 Rounding:Rounding
 Credits:List Credit
 Series:List Index
 Lets:List Let
 Grants:List Grant
 Reduces:List Reduce
structure Value where
 Dim:Int
 Yes:Bool
 Num:fQ
structure Step where
 Name:ByteArray
 Value:Value
structure iQ where
 Name:ByteArray
 Dim:Int
structure Span where
 From:Int
 To:Int
structure Token where
 Kind:Int
 Text:ByteArray
 At:Int
structure rQ where
 l:List Token
 at_:Int
 end_:Int
 bad:Bool
structure pensionref1_wide where
 hi:Int
 lo:Int
structure Statute where
 Name:ByteArray
 Currency:Int
 Versions:List Version
structure State where
 State:Int
 Statute:Statute
structure Rate where
 Currency:Int
 Month:Int
 Value:fQ
structure Laws where
 States:List State
 Treaty:List Rules
 Rates:List Rate
structure pensionmade_View where
 Age:Int
 Year:Int
 Children:Int
 Base:Int
 Den:Int
 Days:List Int
 Years:List Int
structure View where
 Age:Int
 Year:Int
 Children:Int
 Insured:Int
 Worked:Int
 Voluntary:Int
 Service:Int
 Equated:Int
 Raising:Int
 Resident:Int
 Base:fQ
 Years:List Int
structure syntax_entry where
 name:ByteArray
 number:Int
structure bQ where
 laws:Laws
 day:Int
 rules:Rules
structure vQ where
 view:View
 steps:List Step
structure rational_wide where
 hi:Int
 lo:Int
structure Result where
 Holds:Bool
 Pay:fQ
 Steps:List Step
structure aQ where
 Issuer:Int
 Number:Int
 Version:Int
 Withdrawn:Bool
 Person:Int
 Kind:Int
 State:Int
 Span:Span
 Seat:Int
 Share:Int
 Currency:Int
 Amount:Int
 Ref:Int
structure Award where
 State:Int
 Benefit:Int
 Day:Int
 Code:Int
 Few:Bool
 Independent:Int
 Theoretical:Int
 ProRata:Int
 Num:Int
 Den:Int
 Amount:Int
 Steps:List Step
structure nQ where
 Span:Span
 State:Int
 Rank:Int
structure Total where
 Own:Ar 6 Int
 Few:Ar 6 Bool
 Sum:Int
 Base:Int
 Last:Int
structure Earning where
 Year:Int
 Amount:Int
structure earnings_income where
 fact:aQ
 days:List Span
structure Scheme where
 State:Int
 Version:Version
structure gQ where
 Span:Span
 State:Int
 Rule:Int
structure Period where
 State:Int
 Rank:Int
 Span:Span
structure Piece where
 Span:Span
 Members:List Int
structure Posting where
 Seat:Int
 State:Int
 Span:Span
structure lQ where
 facts:List aQ
 span:Span
 postings:List Posting
 rules:List Rules
structure uQ where
 seat:Int
 state:Int
structure Anon360 where
 kind:Int
 rank:Int
def a3j:A4:=⟨#[]⟩
def a6h:A4:=⟨#[48,49,50,51,52,53,54,55,56,57]⟩
def b1i:A4:=⟨#[46]⟩
def c6e:A4:=⟨#[102,114,111,109,32,64]⟩
def c1g:A4:=⟨#[32,123,32,114,111,117,110,100,32]⟩
def c33:A4:=⟨#[100,111,119,110,32,49,59,32]⟩
def d01:A4:=⟨#[99,114,101,100,105,116,32,118,111,108,117,110,116,97,114,121,59,32,99,114,101,100,105,116,32,117,110,101,109,112,108,111,121,101,100,32,108,105,109,105,116,32]⟩
def b7x:A4:=⟨#[59,32]⟩
def c8s:A4:=⟨#[99,114,101,100,105,116,32,99,104,105,108,100,32,108,105,109,105,116,32]⟩
def c9v:A4:=⟨#[99,114,101,100,105,116,32,114,101,115,105,100,101,110,99,101,59,32]⟩
def c9k:A4:=⟨#[105,110,100,101,120,32,49,57,54,48,32,49,59,32,105,110,100,101,120,32,49,57,56,48,32]⟩
def c9z:A4:=⟨#[59,32,105,110,100,101,120,32,49,57,57,53,32]⟩
def c83:A4:=⟨#[108,101,116,32,115,112,101,110,116,32,61,32,105,110,115,117,114,101,100,32,47,32]⟩
def c8f:A4:=⟨#[100,59,32,108,101,116,32,112,97,114,116,32,61,32,109,105,110,40,115,112,101,110,116,32,42,32]⟩
def d0e:A4:=⟨#[44,32,48,46,56,48,41,59,32]⟩
def c8t:A4:=⟨#[103,114,97,110,116,32,111,108,100,32,105,102,32,97,103,101,32,62,61,32]⟩
def c8p:A4:=⟨#[32,97,110,100,32,105,110,115,117,114,101,100,32,62,61,32]⟩
def d02:A4:=⟨#[100,32,112,97,121,32,109,97,120,40,98,97,115,101,32,42,32,112,97,114,116,44,32]⟩
def c6o:A4:=⟨#[109,41,59,32]⟩
def c8d:A4:=⟨#[103,114,97,110,116,32,100,105,115,97,98,105,108,105,116,121,32,105,102,32,105,110,115,117,114,101,100,32,62,61,32]⟩
def c80:A4:=⟨#[100,32,112,97,121,32,98,97,115,101,32,42,32]⟩
def c9d:A4:=⟨#[103,114,97,110,116,32,115,117,114,118,105,118,111,114,32,105,102,32,119,111,114,107,101,100,32,43,32,101,113,117,97,116,101,100,32,62,61,32,51,48,100,32,112,97,121,32,98,97,115,101,32,42,32,112,97,114,116,32,42,32,48,46,54,48,59,32]⟩
def c86:A4:=⟨#[103,114,97,110,116,32,102,97,109,105,108,121,32,105,102,32,105,110,115,117,114,101,100,32,62,61,32]⟩
def d1p:A4:=⟨#[100,32,112,97,121,32]⟩
def c9u:A4:=⟨#[109,32,42,32,99,104,105,108,100,114,101,110,59,32]⟩
def c9l:A4:=⟨#[103,114,97,110,116,32,115,105,99,107,110,101,115,115,32,105,102,32,105,110,115,117,114,101,100,32,62,61,32]⟩
def c7y:A4:=⟨#[100,32,112,97,121,32,98,101,115,116,40,51,41,32,47,32,49,50,32,42,32,48,46,55,48,59,32]⟩
def b7g:A4:=⟨#[114,101,100,117,99,101,32,111,108,100,32,98,121,32]⟩
def c8b:A4:=⟨#[114,101,100,117,99,101,32,100,105,115,97,98,105,108,105,116,121,32,98,121,32,105,102,32,97,103,101,32,60,32,54,48,32,116,104,101,110,32,48,46,53,48,32,101,108,115,101,32,49,59,32]⟩
def d3i:A4:=⟨#[125,32]⟩
def c32:A4:=⟨#[104,97,108,102,32,53,59,32]⟩
def c6d:A4:=⟨#[117,112,32,49,59,32]⟩
def c19:A4:=⟨#[101,118,101,110,32,49,48,59,32]⟩
def c2c:A4:=⟨#[97,108,98,97]⟩
def c24:A4:=⟨#[98,111,114,97]⟩
def b8j:A4:=⟨#[99,101,100,97,114]⟩
def c70:A4:=⟨#[115,116,97,116,117,116,101,32]⟩
def c2x:A4:=⟨#[32,99,117,114,114,101,110,99,121,32]⟩
def d8i:A4:=⟨#[32,123,32]⟩
def b7u:A4:=⟨#[49,57,48,48,45,48,49,45,48,49]⟩
def b7v:A4:=⟨#[49,57,57,54,45,48,55,45,48,49]⟩
def b80:A4:=⟨#[50,48,48,49,45,48,49,45,48,49]⟩
def d0a:A4:=⟨#[125]⟩
def d28:A4:=⟨#[60,61]⟩
def d30:A4:=⟨#[62,61]⟩
def d1k:A4:=⟨#[60,62]⟩
def c9m:A4:=⟨#[97,110,100]⟩
def c51:A4:=⟨#[98,101,115,116]⟩
def d69:A4:=⟨#[98,121]⟩
def b91:A4:=⟨#[99,114,101,100,105,116]⟩
def b4x:A4:=⟨#[99,117,114,114,101,110,99,121]⟩
def c53:A4:=⟨#[101,108,115,101]⟩
def c1a:A4:=⟨#[102,108,111,111,114]⟩
def c4c:A4:=⟨#[102,114,111,109]⟩
def c10:A4:=⟨#[103,114,97,110,116]⟩
def d0k:A4:=⟨#[105,102]⟩
def c1q:A4:=⟨#[105,110,100,101,120]⟩
def d07:A4:=⟨#[108,101,116]⟩
def c1c:A4:=⟨#[108,105,109,105,116]⟩
def c98:A4:=⟨#[109,97,120]⟩
def c8l:A4:=⟨#[109,105,110]⟩
def c92:A4:=⟨#[110,111,116]⟩
def d8p:A4:=⟨#[111,114]⟩
def c60:A4:=⟨#[112,97,121]⟩
def b94:A4:=⟨#[114,101,100,117,99,101]⟩
def c14:A4:=⟨#[114,111,117,110,100]⟩
def b76:A4:=⟨#[115,116,97,116,117,116,101]⟩
def d3p:A4:=⟨#[116,104,101,110]⟩
def b3u:A4:=⟨#[0,1,2,2,3,3,3,3,4,4,4,4,4,4,4,4,5,5,5,5,5,5,5,5,5,5,5,5,5,5,5,5,6,6,6,6,6,6,6,6,6,6,6,6,6,6,6,6,6,6,6,6,6,6,6,6,6,6,6,6,6,6,6,6,7,7,7,7,7,7,7,7,7,7,7,7,7,7,7,7,7,7,7,7,7,7,7,7,7,7,7,7,7,7,7,7,7,7,7,7,7,7,7,7,7,7,7,7,7,7,7,7,7,7,7,7,7,7,7,7,7,7,7,7,7,7,7,7,8,8,8,8,8,8,8,8,8,8,8,8,8,8,8,8,8,8,8,8,8,8,8,8,8,8,8,8,8,8,8,8,8,8,8,8,8,8,8,8,8,8,8,8,8,8,8,8,8,8,8,8,8,8,8,8,8,8,8,8,8,8,8,8,8,8,8,8,8,8,8,8,8,8,8,8,8,8,8,8,8,8,8,8,8,8,8,8,8,8,8,8,8,8,8,8,8,8,8,8,8,8,8,8,8,8,8,8,8,8,8,8,8,8,8,8,8,8,8,8,8,8,8,8,8,8,8,8]⟩
def b0b:A4:=⟨#[118,111,108,117,110,116,97,114,121]⟩
def b3z:A4:=⟨#[115,101,114,118,105,99,101]⟩
def b87:A4:=⟨#[117,110,101,109,112,108,111,121,101,100]⟩
def d54:A4:=⟨#[115,105,99,107]⟩
def c97:A4:=⟨#[99,104,105,108,100]⟩
def c04:A4:=⟨#[114,101,115,105,100,101,110,99,101]⟩
def d9m:A4:=⟨#[111,108,100]⟩
def b8e:A4:=⟨#[100,105,115,97,98,105,108,105,116,121]⟩
def c0u:A4:=⟨#[115,117,114,118,105,118,111,114]⟩
def c66:A4:=⟨#[102,97,109,105,108,121]⟩
def c0r:A4:=⟨#[115,105,99,107,110,101,115,115]⟩
def d4s:A4:=⟨#[100,111,119,110]⟩
def f1e:A4:=⟨#[117,112]⟩
def d3b:A4:=⟨#[104,97,108,102]⟩
def d3z:A4:=⟨#[101,118,101,110]⟩
def g5d:A4:=⟨#[43]⟩
def e00:A4:=⟨#[45]⟩
def g62:A4:=⟨#[42]⟩
def e8f:A4:=⟨#[47]⟩
def g4g:A4:=⟨#[60]⟩
def e7j:A4:=⟨#[61]⟩
def g5n:A4:=⟨#[62]⟩
def e02:A4:=⟨#[40]⟩
def d38:A4:=⟨#[41]⟩
def g2w:A4:=⟨#[44]⟩
def c3s:A4:=⟨#[59]⟩
def e8b:A4:=⟨#[123]⟩
def e4t:A4:=⟨#[100]⟩
def e6u:A4:=⟨#[109]⟩
def e0r:A4:=⟨#[97,103,101]⟩
def b6u:A4:=⟨#[105,110,115,117,114,101,100]⟩
def e39:A4:=⟨#[98,97,115,101]⟩
def c5w:A4:=⟨#[119,111,114,107,101,100]⟩
def c3c:A4:=⟨#[101,113,117,97,116,101,100]⟩
def c3j:A4:=⟨#[114,97,105,115,105,110,103]⟩
def c6v:A4:=⟨#[114,101,115,105,100,101,110,116]⟩
def d3o:A4:=⟨#[121,101,97,114]⟩
def c6q:A4:=⟨#[99,104,105,108,100,114,101,110]⟩
abbrev lpC {σ ρ:Type}(s:σ)(f:(σ -> A3 ρ) -> σ -> A3 ρ):A3 ρ:=d9 FU f s
noncomputable section
def c23 (x y c:Int):A3 (Int×Int):=g7y x y c
def c1u (x y c:Int):A3 (Int×Int):=g8x x y c
def a7v (s:A4)(c:Int):A3 Int:=some (g6v s c)
def b2m:A3 Bool:=some true
def a7z (a:O Int):A3 (O Int):=a4n 8 [] a
def a5m (a:O Credit):A3 (O Credit):=a4n 16 [] a
def a6e (a:O Index):A3 (O Index):=a4n 24 [] a
def a86 (a:O Let):A3 (O Let):=a4n 88 [] a
def a6f (a:O Grant):A3 (O Grant):=a4n 152 [] a
def a5p (a:O Reduce):A3 (O Reduce):=a4n 80 [] a
instance:Inhabited Span:=⟨⟨0,0⟩⟩
def b3w (l:O Span):A3 (O Span):=f0f (fun x y=>decide (x.From<y.From)) l
def b54 (e:(Int×A4) -> A3 A4)(a:Int×A4):A3 A4:=
 if (decide (a.1>9)) then
 (b8t a.1 10).bind fun i=>
 (b8t a.1 10).bind fun g=>
 (c3u a6h i (i64 (g+1))).bind fun d=>
 (a7f d a.2).bind fun c=>
 (c2t a.1 10).bind fun h=>
 e (h,c)
 else
 (c3u a6h a.1 (i64 (a.1+1))).bind fun b=>
 (a7f b a.2).bind fun f=>
 some f
def i8 (a:Int):A3 A4:=
 d9 FU b54 (a,a3j)
def b7 (c b:Int):A3 Int:=
 (b8t c b).bind fun a=>
 if (decide (a<0)) then
 some (i64 (a+b))
 else
 some a
def c5 (a:O Int)(d:Int):A3 Int:=
 if ((a.length:Int)==0) then
 some 0
 else
 (b7 d (a.length:Int)).bind fun b=>
 (c7 a b).bind fun c=>
 some c
def a01 (b:Int):A3 A4:=
 (c2t b 100).bind fun k=>
 (i8 k).bind fun c=>
 (a7f c b1i).bind fun j=>
 (c2t b 10).bind fun h=>
 (b8t h 10).bind fun f=>
 (i8 f).bind fun e=>
 (a7f j e).bind fun i=>
 (b8t b 10).bind fun d=>
 (i8 d).bind fun g=>
 (a7f i g).bind fun a=>
 some a
def a5b (a:(O Int)×Int×A4):A3 A4:=
 (c5 a.1 (i64 (a.2.1+18))).bind fun b=>
 (b7 b 3).bind fun f=>
 if (f==0) then
 (a7f a.2.2 c8b).bind fun c=>
 (a7f c d3i).bind fun d=>
 some d
 else
 (a7f a.2.2 d3i).bind fun e=>
 some e
def a5c (a:(O Int)×Int×A4):A3 A4:=
 (c5 a.1 (i64 (a.2.1+14))).bind fun s=>
 (b7 s 800).bind fun x=>
 (i8 x).bind fun w=>
 (a7f c86 w).bind fun t=>
 (a7f t d1p).bind fun o=>
 (c5 a.1 (i64 (a.2.1+15))).bind fun q=>
 (b7 q 300).bind fun z=>
 (i8 (i64 (10+z))).bind fun y=>
 (a7f o y).bind fun l=>
 (a7f l c9u).bind fun i=>
 (a7f a.2.2 i).bind fun j=>
 (c5 a.1 (i64 (a.2.1+16))).bind fun v=>
 (b7 v 400).bind fun g=>
 (i8 g).bind fun m=>
 (a7f c9l m).bind fun u=>
 (a7f u c7y).bind fun p=>
 (a7f j p).bind fun f=>
 (c5 a.1 (i64 (a.2.1+17))).bind fun h=>
 (b7 h 3).bind fun r=>
 if (decide (r>0)) then
 (c5 a.1 (i64 (a.2.1+17))).bind fun k=>
 (b7 k 11).bind fun n=>
 (a01 (i64 (10*n))).bind fun b=>
 (a7f b7g b).bind fun e=>
 (a7f e b7x).bind fun c=>
 (a7f f c).bind fun d=>
 joinC a5b (a.1,a.2.1,d)
 else
 joinC a5b (a.1,a.2.1,f)
def a5j (a:(O Int)×Int×A4×A4):A3 A4:=
 (c5 a.1 (i64 (a.2.1+5))).bind fun X=>
 (b7 X 300).bind fun t=>
 (a01 (i64 (100+t))).bind fun k=>
 (a7f c9k k).bind fun K=>
 (a7f K c9z).bind fun W=>
 (c5 a.1 (i64 (a.2.1+6))).bind fun A=>
 (b7 A 300).bind fun l=>
 (a01 (i64 (400+l))).bind fun y=>
 (a7f W y).bind fun z=>
 (a7f z b7x).bind fun I=>
 (a7f a.2.2.2 I).bind fun N=>
 (a7f c83 a.2.2.1).bind fun p=>
 (a7f p c8f).bind fun R=>
 (c5 a.1 (i64 (a.2.1+7))).bind fun L=>
 (b7 L 4).bind fun w=>
 (a01 (i64 (1+w))).bind fun q=>
 (a7f R q).bind fun S=>
 (a7f S d0e).bind fun h=>
 (a7f N h).bind fun J=>
 (c5 a.1 (i64 (a.2.1+8))).bind fun M=>
 (b7 M 12).bind fun f=>
 (i8 (i64 (50+f))).bind fun e=>
 (a7f c8t e).bind fun E=>
 (a7f E c8p).bind fun Y=>
 (c5 a.1 (i64 (a.2.1+9))).bind fun m=>
 (b7 m 6000).bind fun c=>
 (i8 c).bind fun V=>
 (a7f Y V).bind fun T=>
 (a7f T d02).bind fun v=>
 (c5 a.1 (i64 (a.2.1+10))).bind fun P=>
 (b7 P 900).bind fun B=>
 (i8 B).bind fun U=>
 (a7f v U).bind fun F=>
 (a7f F c6o).bind fun i=>
 (a7f J i).bind fun G=>
 (c5 a.1 (i64 (a.2.1+11))).bind fun D=>
 (b7 D 2000).bind fun g=>
 (i8 g).bind fun x=>
 (a7f c8d x).bind fun u=>
 (a7f u c80).bind fun Q=>
 (c5 a.1 (i64 (a.2.1+12))).bind fun C=>
 (b7 C 60).bind fun s=>
 (a01 (i64 (20+s))).bind fun d=>
 (a7f Q d).bind fun o=>
 (a7f o b7x).bind fun n=>
 (a7f G n).bind fun b=>
 (c5 a.1 (i64 (a.2.1+13))).bind fun H=>
 (b7 H 5).bind fun j=>
 if (decide (j>0)) then
 (a7f b c9d).bind fun r=>
 joinC a5c (a.1,a.2.1,r)
 else
 joinC a5c (a.1,a.2.1,b)
def a5k (a:(O Int)×Int×A4×A4):A3 A4:=
 (c5 a.1 (i64 (a.2.1+4))).bind fun b=>
 (b7 b 4).bind fun c=>
 if (c==0) then
 (a7f a.2.2.2 c9v).bind fun d=>
 joinC a5j (a.1,a.2.1,a.2.2.1,d)
 else
 joinC a5j (a.1,a.2.1,a.2.2.1,a.2.2.2)
def a1a (a:(O Int)×Int×A4×A4):A3 A4:=
 (c5 a.1 (i64 (a.2.1+2))).bind fun h=>
 (b7 h 900).bind fun e=>
 (i8 (i64 (1+e))).bind fun j=>
 (a7f d01 j).bind fun k=>
 (a7f k b7x).bind fun c=>
 (a7f a.2.2.2 c).bind fun b=>
 (c5 a.1 (i64 (a.2.1+3))).bind fun m=>
 (b7 m 3).bind fun g=>
 if (decide (g>0)) then
 (c5 a.1 (i64 (a.2.1+3))).bind fun d=>
 (b7 d 1000).bind fun f=>
 (i8 (i64 (100+f))).bind fun l=>
 (a7f c8s l).bind fun n=>
 (a7f n b7x).bind fun o=>
 (a7f b o).bind fun i=>
 joinC a5k (a.1,a.2.1,a.2.2.1,i)
 else
 joinC a5k (a.1,a.2.1,a.2.2.1,b)
def a38 (n:A4)(a:O Int)(b:Int):A3 A4:=
 (c5 a b).bind fun i=>
 (b7 i 90).bind fun j=>
 (i8 (i64 (300+j))).bind fun g=>
 (a7f c6e n).bind fun m=>
 (a7f m c1g).bind fun f=>
 (c5 a (i64 (b+1))).bind fun l=>
 (b7 l 4).bind fun h=>
 if (h==0) then
 (a7f f c33).bind fun k=>
 joinC a1a (a,b,g,k)
 else
 if (h==1) then
 (a7f f c32).bind fun e=>
 joinC a1a (a,b,g,e)
 else
 if (h==2) then
 (a7f f c6d).bind fun d=>
 joinC a1a (a,b,g,d)
 else
 (a7f f c19).bind fun c=>
 joinC a1a (a,b,g,c)
def a7x (a:Int×(O Int)×A4):A3 A4:=
 (c5 a.2.1 (i64 (37+a.1))).bind fun b=>
 (b7 b 3).bind fun f=>
 if (f==0) then
 (a38 b80 a.2.1 (i64 ((i64 (7*a.1))+5))).bind fun g=>
 (a7f a.2.2 g).bind fun e=>
 (a7f e d0a).bind fun c=>
 some c
 else
 (a7f a.2.2 d0a).bind fun d=>
 some d
def b10 (a:Int)(b:O Int):A3 A4:=
 (c7 (⟨[c2c,c24,b8j],rfl⟩:Ar 3 A4).l a).bind fun o=>
 (c7 (⟨[c2c,c24,b8j],rfl⟩:Ar 3 A4).l a).bind fun h=>
 (a7f c70 h).bind fun n=>
 (a7f n c2x).bind fun l=>
 (i8 (i64 (1+a))).bind fun k=>
 (a7f l k).bind fun i=>
 (a7f i d8i).bind fun m=>
 (a38 b7u b (i64 (7*a))).bind fun j=>
 (a7f m j).bind fun g=>
 (c5 b (i64 (31+a))).bind fun d=>
 (b7 d 3).bind fun c=>
 if (decide (c>0)) then
 (a38 b7v b (i64 ((i64 (7*a))+3))).bind fun e=>
 (a7f g e).bind fun f=>
 joinC a7x (a,b,f)
 else
 joinC a7x (a,b,g)
def b78 (d:A4)(c:(Int×Bool) -> A3 Int)(a:Int×Bool):A3 Int:=
 if (decide (a.1<(d.size:Int))) then
 (b3c d a.1).bind fun b=>
 if (b==10) then
 c (i64 (a.1+1),false)
 else
 if (b==35) then
 c (i64 (a.1+1),true)
 else
 (if (!a.2) then some (b != 9) else some false).bind fun g=>
 (if g then some (b != 13) else some false).bind fun f=>
 (if f then some (b != 32) else some false).bind fun e=>
 if e then
 some a.1
 else
 c (i64 (a.1+1),a.2)
 else
 some a.1
def b16 (a:A4)(b:Int):A3 Int:=
 d9 FU (b78 a) (b,false)
def a3q (a:Int):A3 Bool:=
 (if (decide (a >= 97)) then some (decide (a <= 122)) else some false).bind fun b=>
 some b
def a30 (a:Int):A3 Bool:=
 (if (decide (a >= 48)) then some (decide (a <= 57)) else some false).bind fun b=>
 some b
def b7b (b:Int)(c:A4)(k:Bool)(l:Int -> A3 Int)(a:Int):A3 Int:=
 (if (decide ((i64 (b+a))<(c.size:Int))) then (b3c c (i64 (b+a))).bind fun p=>
 (a3q p).bind fun n=>
 (if n then some true else (b3c c (i64 (b+a))).bind fun j=>
 (a30 j).bind fun h=>
 some h).bind fun o=>
 (if o then some true else (b3c c (i64 (b+a))).bind fun i=>
 some (i==95)).bind fun m=>
 (if m then some true else (if k then (b3c c (i64 (b+a))).bind fun e=>
 some (e==46) else some false).bind fun d=>
 some d).bind fun f=>
 some f else some false).bind fun g=>
 if g then
 l (i64 (a+1))
 else
 some a
def a9f (a:A4)(b:Int)(c:Bool):A3 Int:=
 d9 FU (b7b b a c) 0
def b5u (a:Int×A4×A4)(g:Int -> A3 (A4×A4×Int×Bool))(b:Int):A3 (A4×A4×Int×Bool):=
 if (decide (b<(i64 ((a.2.1.size:Int)+(a.2.2.size:Int))))) then
 (a7f a.2.1 a.2.2).bind fun d=>
 (b3c d b).bind fun c=>
 (a30 c).bind fun i=>
 if (!i) then
 some (a3j,a3j,0,false)
 else
 g (i64 (b+1))
 else
 (if (decide ((a.2.1.size:Int)<1)) then some true else some (decide ((a.2.1.size:Int)>9))).bind fun j=>
 (if j then some true else (if (decide ((a.2.1.size:Int)>1)) then (b3c a.2.1 0).bind fun e=>
 some (e==48) else some false).bind fun f=>
 some f).bind fun h=>
 if h then
 some (a3j,a3j,0,false)
 else
 some (a.2.1,a.2.2,a.1,true)
def a6o (a:Int×A4×A4):A3 (A4×A4×Int×Bool):=
 d9 FU (b5u a) 0
def b5t (b:A4×Int)(f:(Int×Int) -> A3 (A4×A4×Int×Bool))(a:Int×Int):A3 (A4×A4×Int×Bool):=
 if (decide (a.2 >= 0)) then
 (b3c b.1 a.2).bind fun g=>
 if (g==46) then
 f (a.2,i64 (a.2-1))
 else
 f (a.1,i64 (a.2-1))
 else
 (c3u b.1 0 a.1).bind fun e=>
 if (decide (a.1<(b.1.size:Int))) then
 (c3u b.1 (i64 (a.1+1)) (b.1.size:Int)).bind fun d=>
 (if (decide ((d.size:Int)<1)) then some true else some (decide ((d.size:Int)>4))).bind fun c=>
 if c then
 some (a3j,a3j,0,false)
 else
 joinC a6o (b.2,e,d)
 else
 joinC a6o (b.2,e,a3j)
def a45 (a:A4×Int):A3 (A4×A4×Int×Bool):=
 d9 FU (b5t a) ((a.1.size:Int),i64 ((a.1.size:Int)-1))
def a6z (a:A4):A3 (A4×A4×Int×Bool):=
 (if (decide ((a.size:Int)>0)) then (b3c a (i64 ((a.size:Int)-1))).bind fun e=>
 some (e==100) else some false).bind fun f=>
 if f then
 (c3u a 0 (i64 ((a.size:Int)-1))).bind fun g=>
 joinC a45 (g,3)
 else
 (if (decide ((a.size:Int)>0)) then (b3c a (i64 ((a.size:Int)-1))).bind fun c=>
 some (c==109) else some false).bind fun d=>
 if d then
 (c3u a 0 (i64 ((a.size:Int)-1))).bind fun b=>
 joinC a45 (b,4)
 else
 joinC a45 (a,2)
def b5p (b:A4)(e:(Int×Int) -> A3 (Int×Bool))(a:Int×Int):A3 (Int×Bool):=
 if (decide (a.2<(b.size:Int))) then
 (b3c b a.2).bind fun g=>
 (if (decide (g<48)) then some true else (b3c b a.2).bind fun f=>
 some (decide (f>57))).bind fun d=>
 if d then
 some (0,false)
 else
 (b3c b a.2).bind fun c=>
 e (i64 ((i64 (a.1*10))+(i64 (IntKind.u8.wrap (c-48)))),i64 (a.2+1))
 else
 some (a.1,decide ((b.size:Int)>0))
def a4m (a:A4):A3 (Int×Bool):=
 d9 FU (b5p a) (0,0)
def b18 (a:Int):A3 Bool:=
 (b8t a 4).bind fun f=>
 (if (f==0) then (b8t a 100).bind fun b=>
 (if (b != 0) then some true else (b8t a 400).bind fun e=>
 some (e==0)).bind fun d=>
 some d else some false).bind fun c=>
 some c
def a6b (b a:Int):A3 Int:=
 if (a==2) then
 (b18 b).bind fun c=>
 if c then
 some 29
 else
 some 28
 else
 if (a==4) then
 if (a==4) then
 some 30
 else
 some 31
 else
 if (a==6) then
 if (a==6) then
 some 30
 else
 some 31
 else
 if (a==9) then
 if (a==9) then
 some 30
 else
 some 31
 else
 if (a==11) then
 some 30
 else
 some 31
def b5s (f:Int)(c:(Int×Int) -> A3 Int)(a:Int×Int):A3 Int:=
 if (decide (a.2<f)) then
 (c2t a.2 12).bind fun e=>
 (b8t a.2 12).bind fun d=>
 (a6b (i64 (1900+e)) (i64 (d+1))).bind fun b=>
 c (i64 (a.1+b),i64 (a.2+1))
 else
 some a.1
def a9y (a:Int):A3 Int:=
 d9 FU (b5s a) (0,0)
def b22 (b a c:Int):A3 (Int×Bool):=
 (if (decide (b<1900)) then some true else some (decide (b>2099))).bind fun j=>
 (if j then some true else some (decide (a<1))).bind fun d=>
 (if d then some true else some (decide (a>12))).bind fun i=>
 (if i then some true else some (decide (c<1))).bind fun g=>
 (if g then some true else (a6b b a).bind fun f=>
 some (decide (c>f))).bind fun e=>
 if e then
 some (0,false)
 else
 (a9y (i64 ((i64 ((i64 ((i64 (b-1900))*12))+a))-1))).bind fun h=>
 some (i64 ((i64 (h+c))-1),true)
def a47 (a:A4):A3 (Int×Bool):=
 (if ((a.size:Int) != 10) then some true else (b3c a 4).bind fun n=>
 some (n != 45)).bind fun h=>
 (if h then some true else (b3c a 7).bind fun m=>
 some (m != 45)).bind fun k=>
 if k then
 some (0,false)
 else
 (c3u a 0 4).bind fun i=>
 (a4m i).bind fun f=>
 (c3u a 5 7).bind fun l=>
 (a4m l).bind fun g=>
 (c3u a 8 (a.size:Int)).bind fun j=>
 (a4m j).bind fun b=>
 (if (!f.2) then some true else some (!g.2)).bind fun d=>
 (if d then some true else some (!b.2)).bind fun e=>
 if e then
 some (0,false)
 else
 (b22 f.1 g.1 b.1).bind fun c=>
 some (c.1,c.2)
def a7w (b:A4×Int):A3 Int:=
 (b3c b.1 b.2).bind fun a=>
 if (a==60) then
 if (a==60) then
 some 1
 else
 some 0
 else
 if (a==62) then
 if (a==62) then
 some 1
 else
 some 0
 else
 if (a==61) then
 if (a==61) then
 some 1
 else
 some 0
 else
 if (a==43) then
 if (a==43) then
 some 1
 else
 some 0
 else
 if (a==45) then
 if (a==45) then
 some 1
 else
 some 0
 else
 if (a==42) then
 if (a==42) then
 some 1
 else
 some 0
 else
 if (a==47) then
 if (a==47) then
 some 1
 else
 some 0
 else
 if (a==40) then
 if (a==40) then
 some 1
 else
 some 0
 else
 if (a==41) then
 if (a==41) then
 some 1
 else
 some 0
 else
 if (a==123) then
 if (a==123) then
 some 1
 else
 some 0
 else
 if (a==125) then
 if (a==125) then
 some 1
 else
 some 0
 else
 if (a==44) then
 if (a==44) then
 some 1
 else
 some 0
 else
 if (a==59) then
 some 1
 else
 some 0
def b1a (b:A4)(a:Int):A3 Int:=
 if (decide ((i64 (a+1))<(b.size:Int))) then
 (c3u b a (i64 (a+2))).bind fun c=>
 (if (c.toList==d28.toList) then some true else some (c.toList==d30.toList)).bind fun d=>
 (if d then some true else some (c.toList==d1k.toList)).bind fun e=>
 if e then
 some 2
 else
 joinC a7w (b,a)
 else
 joinC a7w (b,a)
def a1o (a:A4×Int×Token×Int×Int×Bool):A3 (Token×Int×Int):=
 if (!a.2.2.2.2.2) then
 some ((⟨0,a3j,0⟩:Token),a.2.1,4)
 else
 (c3u a.1 a.2.1 (i64 (a.2.1+a.2.2.2.2.1))).bind fun b=>
 some ((⟨a.2.2.2.1,b,a.2.1⟩:Token),i64 (a.2.1+a.2.2.2.2.1),0)
def b15 (b:A4)(g:Int):A3 (Token×Int×Int):=
 (if (decide (g<0)) then some true else some (decide (g>(b.size:Int)))).bind fun p=>
 if p then
 some ((⟨0,a3j,0⟩:Token),0,1)
 else
 (b16 b g).bind fun a=>
 if (a==(b.size:Int)) then
 some ((⟨0,a3j,a⟩:Token),a,0)
 else
 (b3c b a).bind fun o=>
 (a3q o).bind fun n=>
 if n then
 (a9f b a false).bind fun k=>
 joinC a1o (b,a,(⟨0,a3j,0⟩:Token),1,k,decide (k <= 12))
 else
 (b3c b a).bind fun l=>
 (a30 l).bind fun m=>
 if m then
 (a9f b a true).bind fun c=>
 (c3u b a (i64 (a+c))).bind fun h=>
 (a6z h).bind fun i=>
 joinC a1o (b,a,(⟨0,a3j,0⟩:Token),2,c,i.2.2.2)
 else
 (b3c b a).bind fun j=>
 if (j==64) then
 if (decide ((i64 ((b.size:Int)-a)) >= 11)) then
 (c3u b (i64 (a+1)) (i64 (a+11))).bind fun f=>
 (a47 f).bind fun e=>
 joinC a1o (b,a,(⟨0,a3j,0⟩:Token),3,11,e.2)
 else
 joinC a1o (b,a,(⟨0,a3j,0⟩:Token),3,11,decide ((i64 ((b.size:Int)-a)) >= 11))
 else
 (b1a b a).bind fun d=>
 joinC a1o (b,a,(⟨0,a3j,0⟩:Token),4,d,decide (d>0))
def b7c (e:A4)(c:((O Token)×Int) -> A3 ((O Token)×Int×Int))(b:(O Token)×Int):A3 ((O Token)×Int×Int):=
 (b15 e b.2).bind fun a=>
 if (a.2.2 != 0) then
 some ([],a.2.1,a.2.2)
 else
 if (a.1.Kind==0) then
 some (b.1,0,0)
 else
 (a4n 32 b.1 [a.1]).bind fun d=>
 c (d,a.2.1)
def b25 (a:A4):A3 ((O Token)×Int×Int):=
 if (decide ((a.size:Int)>8000)) then
 some ([],0,7)
 else
 d9 FU (b7c a) ([],0)
def b02 (b:A4):A3 ((A3 rQ)×Int×Int):=
 (b25 b).bind fun a=>
 if (a.2.2 != 0) then
 some (none,a.2.1,a.2.2)
 else
 some (some (⟨a.1,0,(b.size:Int),false⟩:rQ),0,0)
def u9 (a:rQ)(c:A4):A3 Bool:=
 (if (!a.bad) then some (decide (a.at_<(a.l.length:Int))) else some false).bind fun e=>
 (if e then (c7 a.l a.at_).bind fun b=>
 some (b.Text.toList==c.toList) else some false).bind fun d=>
 some d
def d7 (a:rQ)(c:A4):A3 (Bool×rQ):=
 (u9 a c).bind fun b=>
 if (!b) then
 some (false,a)
 else
 some (true,(⟨a.l,i64 (a.at_+1),a.end_,a.bad⟩:rQ))
def j8 (a:rQ):A3 rQ:=
 some (⟨a.l,a.at_,a.end_,true⟩:rQ)
def b9 (b:rQ)(d:A4):A3 rQ:=
 (d7 b d).bind fun a=>
 if (!a.1) then
 (j8 a.2).bind fun c=>
 some c
 else
 some a.2
def p8 (a:rQ)(c:Int):A3 Bool:=
 (if (!a.bad) then some (decide (a.at_<(a.l.length:Int))) else some false).bind fun e=>
 (if e then (c7 a.l a.at_).bind fun b=>
 some (b.Kind==c) else some false).bind fun d=>
 some d
def b4m (a:A4)(h:Int -> A3 Bool)(b:Int):A3 Bool:=
 if (decide (b<(a.size:Int))) then
 (b3c a b).bind fun l=>
 (a3q l).bind fun j=>
 (if (!j) then (if (b==0) then some true else (b3c a b).bind fun g=>
 (a30 g).bind fun e=>
 (if (!e) then (b3c a b).bind fun k=>
 some (k != 95) else some false).bind fun f=>
 some f).bind fun i=>
 some i else some false).bind fun d=>
 if d then
 some false
 else
 h (i64 (b+1))
 else
 (if (decide ((a.size:Int) >= 1)) then some (decide ((a.size:Int) <= 12)) else some false).bind fun c=>
 some c
def a99 (a:A4):A3 Bool:=
 d9 FU (b4m a) 0
def a7o (a:A4):A3 Bool:=
 if (a.toList==c9m.toList) then
 if (a.toList==c9m.toList) then
 some true
 else
 some false
 else
 if (a.toList==c51.toList) then
 if (a.toList==c51.toList) then
 some true
 else
 some false
 else
 if (a.toList==d69.toList) then
 if (a.toList==d69.toList) then
 some true
 else
 some false
 else
 if (a.toList==b91.toList) then
 if (a.toList==b91.toList) then
 some true
 else
 some false
 else
 if (a.toList==b4x.toList) then
 if (a.toList==b4x.toList) then
 some true
 else
 some false
 else
 if (a.toList==c53.toList) then
 if (a.toList==c53.toList) then
 some true
 else
 some false
 else
 if (a.toList==c1a.toList) then
 if (a.toList==c1a.toList) then
 some true
 else
 some false
 else
 if (a.toList==c4c.toList) then
 if (a.toList==c4c.toList) then
 some true
 else
 some false
 else
 if (a.toList==c10.toList) then
 if (a.toList==c10.toList) then
 some true
 else
 some false
 else
 if (a.toList==d0k.toList) then
 if (a.toList==d0k.toList) then
 some true
 else
 some false
 else
 if (a.toList==c1q.toList) then
 if (a.toList==c1q.toList) then
 some true
 else
 some false
 else
 if (a.toList==d07.toList) then
 if (a.toList==d07.toList) then
 some true
 else
 some false
 else
 if (a.toList==c1c.toList) then
 if (a.toList==c1c.toList) then
 some true
 else
 some false
 else
 if (a.toList==c98.toList) then
 if (a.toList==c98.toList) then
 some true
 else
 some false
 else
 if (a.toList==c8l.toList) then
 if (a.toList==c8l.toList) then
 some true
 else
 some false
 else
 if (a.toList==c92.toList) then
 if (a.toList==c92.toList) then
 some true
 else
 some false
 else
 if (a.toList==d8p.toList) then
 if (a.toList==d8p.toList) then
 some true
 else
 some false
 else
 if (a.toList==c60.toList) then
 if (a.toList==c60.toList) then
 some true
 else
 some false
 else
 if (a.toList==b94.toList) then
 if (a.toList==b94.toList) then
 some true
 else
 some false
 else
 if (a.toList==c14.toList) then
 if (a.toList==c14.toList) then
 some true
 else
 some false
 else
 if (a.toList==b76.toList) then
 if (a.toList==b76.toList) then
 some true
 else
 some false
 else
 if (a.toList==d3p.toList) then
 some true
 else
 some false
def a2e (a:A4):A3 Bool:=
 (a99 a).bind fun b=>
 (if b then (a7o a).bind fun c=>
 some (!c) else some false).bind fun d=>
 some d
def a0w (a:rQ):A3 (A4×rQ):=
 (p8 a 1).bind fun g=>
 (if (!g) then some true else (c7 a.l a.at_).bind fun b=>
 (a2e b.Text).bind fun f=>
 some (!f)).bind fun e=>
 if e then
 (j8 a).bind fun d=>
 some (a3j,d)
 else
 (c7 a.l (i64 ((i64 (a.at_+1))-1))).bind fun c=>
 some (c.Text,(⟨a.l,i64 (a.at_+1),a.end_,a.bad⟩:rQ))
def a43 (a:Int):A3 Int:=
 if (decide (a<0)) then
 some (u64 ((u64 (i64 (-(i64 (a+1)))))+1))
 else
 some (u64 (a))
def b62 (a:Int×Int):A3 Int:=
 if (decide (a.1 >= 256)) then
 (d0l .u64 a.1 8).bind fun d=>
 (b3c b3u (IntKind.u8.wrap (d))).bind fun b=>
 some (i64 ((i64 (a.2+8))+(i64 (b))))
 else
 (b3c b3u (IntKind.u8.wrap (a.1))).bind fun c=>
 some (i64 (a.2+(i64 (c))))
def b65 (a:Int×Int):A3 Int:=
 if (decide (a.1 >= 65536)) then
 (d0l .u64 a.1 16).bind fun b=>
 joinC b62 (b,i64 (a.2+16))
 else
 joinC b62 (a.1,a.2)
def b8x (a:Int):A3 Int:=
 if (decide (a >= 4294967296)) then
 (d0l .u64 a 32).bind fun b=>
 joinC b65 (b,32)
 else
 joinC b65 (a,0)
def a7n (a:Int):A3 Int:=
 (b8x a).bind fun b=>
 some (i64 (64-b))
def b5x (a:Int×Int×Int×Int×Int×Int):A3 (Int×Int):=
 (d0l .u64 (u64 ((u64 ((u64 (a.2.2.2.2.1*4294967296))+a.2.2.1))-(u64 (a.2.2.2.2.2*a.1)))) a.2.1).bind fun b=>
 some (u64 ((u64 (a.2.2.2.1*4294967296))+a.2.2.2.2.2),b)
def c4t (a:Int×Int×Int×Int×Int×Int×Int×Int)(d:(Int×Int) -> A3 (Int×Int))(b:Int×Int):A3 (Int×Int):=
 (if (decide (b.2 >= 4294967296)) then some true else some (decide ((u64 (b.2*a.2.2.2.1))>(u64 ((u64 (4294967296*b.1))+a.2.2.2.2.2.2.1))))).bind fun c=>
 if c then
 if (decide ((u64 (b.1+a.2.2.1)) >= 4294967296)) then
 joinC b5x (a.1,a.2.1,a.2.2.2.2.2.2.1,a.2.2.2.2.2.2.2,u64 ((u64 ((u64 (a.2.2.2.2.1*4294967296))+a.2.2.2.2.2.1))-(u64 (a.2.2.2.2.2.2.2*a.1))),u64 (b.2-1))
 else
 d (u64 (b.1+a.2.2.1),u64 (b.2-1))
 else
 joinC b5x (a.1,a.2.1,a.2.2.2.2.2.2.1,a.2.2.2.2.2.2.2,u64 ((u64 ((u64 (a.2.2.2.2.1*4294967296))+a.2.2.2.2.2.1))-(u64 (a.2.2.2.2.2.2.2*a.1))),b.2)
def b31 (a:Int×Int×Int×Int×Int×Int×Int×Int):A3 (Int×Int):=
 (if a.2.2.1=0 then none else some (u64 (Int.tdiv (u64 ((u64 ((u64 (a.2.2.2.2.1*4294967296))+a.2.2.2.2.2.1))-(u64 (a.2.2.2.2.2.2.2*a.1)))) a.2.2.1))).bind fun b=>
 d9 FU (c4t a) (u64 ((u64 ((u64 ((u64 (a.2.2.2.2.1*4294967296))+a.2.2.2.2.2.1))-(u64 (a.2.2.2.2.2.2.2*a.1))))-(u64 (b*a.2.2.1))),b)
def c4k (c b e i h j d:Int)(g:(Int×Int) -> A3 (Int×Int))(a:Int×Int):A3 (Int×Int):=
 (if (decide (a.1 >= 4294967296)) then some true else some (decide ((u64 (a.1*(d5y .u64 c 4294967295)))>(u64 ((u64 (4294967296*a.2))+b))))).bind fun f=>
 if f then
 if (decide ((u64 (a.2+e)) >= 4294967296)) then
 joinC b31 (c,u64 (i),e,d5y .u64 c 4294967295,orK .u64 h j,b,d5y .u64 d 4294967295,u64 (a.1-1))
 else
 g (u64 (a.1-1),u64 (a.2+e))
 else
 joinC b31 (c,u64 (i),e,d5y .u64 c 4294967295,orK .u64 h j,b,d5y .u64 d 4294967295,a.1)
def b9t (a:Int×Int×Int):A3 (Int×Int):=
 if (a.1==0) then
 (if a.2.2=0 then none else some (u64 (Int.tdiv a.2.1 a.2.2))).bind fun k=>
 (b8t a.2.1 a.2.2).bind fun j=>
 some (k,j)
 else
 (a7n a.2.2).bind fun c=>
 (g2a .u64 a.2.2 (u64 (c))).bind fun i=>
 (d0l .u64 i 32).bind fun e=>
 (g2a .u64 a.1 (u64 (c))).bind fun g=>
 (d0l .u64 a.2.1 (u64 (64-(u64 (c))))).bind fun h=>
 (g2a .u64 a.2.1 (u64 (c))).bind fun b=>
 (d0l .u64 b 32).bind fun f=>
 (if e=0 then none else some (u64 (Int.tdiv (orK .u64 g h) e))).bind fun d=>
 d9 FU (c4k i f e c g h b) (d,u64 ((orK .u64 g h)-(u64 (d*e))))
def b9j (a:Int×Int×Int):A3 (Int×Int):=
 if (decide (a.2.2 <= a.1)) then
 none
 else
 joinC b9t (a.1,a.2.1,a.2.2)
def a8o (b c a:Int):A3 (Int×Int):=
 if (a==0) then
 none
 else
 joinC b9j (b,c,a)
def a3h (b:pensionref1_wide)(a:Int):A3 (pensionref1_wide×Int):=
 (b8t b.hi a).bind fun e=>
 (a8o e b.lo a).bind fun c=>
 (if a=0 then none else some (u64 (Int.tdiv b.hi a))).bind fun d=>
 some ((⟨d,c.1⟩:pensionref1_wide),c.2)
def b7e (b:(Int×Int) -> A3 Int)(a:Int×Int):A3 Int:=
 if (a.2 != 0) then
 (b8t a.1 a.2).bind fun c=>
 b (a.2,c)
 else
 some a.1
def a9s (a b:Int):A3 Int:=
 d9 FU b7e (a,b)
def b2l (h:Bool)(e:pensionref1_wide)(c:Int):A3 (fQ×Int):=
 (a3h e c).bind fun i=>
 (a9s c i.2).bind fun b=>
 (a3h e b).bind fun a=>
 (if b=0 then none else some (u64 (Int.tdiv c b))).bind fun d=>
 (if (a.1.hi != 0) then some true else some (decide (a.1.lo>1000000000000000))).bind fun g=>
 (if g then some true else some (decide (d>1000000000))).bind fun f=>
 if f then
 some ((⟨0,0⟩:fQ),2)
 else
 if h then
 some ((⟨i64 (-(i64 (a.1.lo))),i64 (d)⟩:fQ),0)
 else
 some ((⟨i64 (a.1.lo),i64 (d)⟩:fQ),0)
def a3r (c a:Int):A3 (fQ×Int):=
 if (a==0) then
 some ((⟨0,0⟩:fQ),3)
 else
 (a43 c).bind fun e=>
 (a43 a).bind fun d=>
 (b2l ((decide (c<0)) != (decide (a<0))) (⟨0,e⟩:pensionref1_wide) d).bind fun b=>
 some (b.1,b.2)
def b3f (b:A4×A4×Int×Bool)(c:(fQ×Int×Int×Int) -> A3 (fQ×Int×Bool))(a:fQ×Int×Int×Int):A3 (fQ×Int×Bool):=
 if (decide (a.2.2.2<(i64 ((b.1.size:Int)+(b.2.1.size:Int))))) then
 (a7f b.1 b.2.1).bind fun f=>
 (b3c f a.2.2.2).bind fun d=>
 if (decide (a.2.2.2 >= (b.1.size:Int))) then
 c (a.1,i64 ((i64 (a.2.1*10))+(i64 (IntKind.u8.wrap (d-48)))),i64 (a.2.2.1*10),i64 (a.2.2.2+1))
 else
 c (a.1,i64 ((i64 (a.2.1*10))+(i64 (IntKind.u8.wrap (d-48)))),a.2.2.1,i64 (a.2.2.2+1))
 else
 (a3r a.2.1 a.2.2.1).bind fun e=>
 some (e.1,b.2.2.1,true)
def a2x (b:A4):A3 (fQ×Int×Bool):=
 (a6z b).bind fun a=>
 if (!a.2.2.2) then
 some ((⟨0,0⟩:fQ),0,false)
 else
 d9 FU (b3f a) ((⟨0,0⟩:fQ),0,1,0)
def s7 (a:rQ)(d h:Int):A3 (Int×rQ):=
 (p8 a 2).bind fun k=>
 if k then
 (c7 a.l a.at_).bind fun c=>
 (a2x c.Text).bind fun b=>
 (if (b.2.1==2) then some (b.1.Den==1) else some false).bind fun i=>
 (if i then some (decide (b.1.Num >= d)) else some false).bind fun g=>
 (if g then some (decide (b.1.Num <= h)) else some false).bind fun f=>
 if f then
 some (b.1.Num,(⟨a.l,i64 (a.at_+1),a.end_,a.bad⟩:rQ))
 else
 (j8 a).bind fun j=>
 some (0,j)
 else
 (j8 a).bind fun e=>
 some (0,e)
def b09 (a:A4):A3 Int:=
 (c3u a 1 (a.size:Int)).bind fun b=>
 (a47 b).bind fun c=>
 some c.1
def a8l (a:A4):A3 Int:=
 if (a.toList==b0b.toList) then
 some 6
 else
 if (a.toList==b3z.toList) then
 some 9
 else
 if (a.toList==b87.toList) then
 some 7
 else
 if (a.toList==d54.toList) then
 some 8
 else
 if (a.toList==c97.toList) then
 some 10
 else
 if (a.toList==c04.toList) then
 some 5
 else
 some 0
def a52 (a:A4):A3 Int:=
 if (a.toList==d9m.toList) then
 some 1
 else
 if (a.toList==b8e.toList) then
 some 2
 else
 if (a.toList==c0u.toList) then
 some 3
 else
 if (a.toList==c66.toList) then
 some 4
 else
 if (a.toList==c0r.toList) then
 some 5
 else
 some 0
def a8f (a:A4):A3 Int:=
 if (a.toList==d4s.toList) then
 some 1
 else
 if (a.toList==f1e.toList) then
 some 2
 else
 if (a.toList==d3b.toList) then
 some 3
 else
 if (a.toList==d3z.toList) then
 some 4
 else
 some 0
def a0m (a:rQ)(c:Int):A3 (Int×rQ):=
 (p8 a 1).bind fun j=>
 if j then
 (c7 a.l a.at_).bind fun b=>
 (a8l b.Text).bind fun g=>
 (a52 b.Text).bind fun e=>
 (a8f b.Text).bind fun d=>
 (c7 [g,e,d] (i64 (c-1))).bind fun k=>
 (c7 [g,e,d] (i64 (c-1))).bind fun f=>
 if (decide (f>0)) then
 some (f,(⟨a.l,i64 (a.at_+1),a.end_,a.bad⟩:rQ))
 else
 (j8 a).bind fun h=>
 some (0,h)
 else
 (j8 a).bind fun i=>
 some (0,i)
def a8e (a:Int):A3 Int:=
 (if (decide (a >= 1)) then some (decide (a <= 3)) else some false).bind fun b=>
 if b then
 some 0
 else
 (if (decide (a >= 4)) then some (decide (a <= 6)) else some false).bind fun c=>
 if c then
 some 1
 else
 (if (decide (a >= 7)) then some (decide (a <= 20)) else some false).bind fun d=>
 if d then
 some 2
 else
 if (a==21) then
 some 3
 else
 some (-1:Int)
def a6m (a:Int×Bool):A3 Int:=
 if a.2 then
 some 5
 else
 if (a.1==9) then
 if (a.1==9) then
 some 6
 else
 some 7
 else
 if (a.1==10) then
 some 6
 else
 some 7
def a04 (a:Int×Bool):A3 Int:=
 if a.2 then
 some 4
 else
 if (a.1==7) then
 joinC a6m (a.1,a.1==7)
 else
 joinC a6m (a.1,a.1==8)
def b05 (a:Int):A3 Int:=
 if (a==21) then
 some 0
 else
 if (a==18) then
 some 1
 else
 if (a==17) then
 some 2
 else
 if (a==5) then
 some 3
 else
 if (a==11) then
 joinC a04 (a,a==11)
 else
 if (a==12) then
 joinC a04 (a,a==12)
 else
 if (a==13) then
 joinC a04 (a,a==13)
 else
 if (a==14) then
 joinC a04 (a,a==14)
 else
 if (a==15) then
 joinC a04 (a,a==15)
 else
 joinC a04 (a,a==16)
def a96 (a:Int):A3 A4:=
 if (a==7) then
 some g5d
 else
 if (a==8) then
 some e00
 else
 if (a==9) then
 some g62
 else
 if (a==10) then
 some e8f
 else
 if (a==11) then
 some g4g
 else
 if (a==12) then
 some d28
 else
 if (a==13) then
 some e7j
 else
 if (a==14) then
 some d1k
 else
 if (a==15) then
 some g5n
 else
 if (a==16) then
 some d30
 else
 if (a==17) then
 some c9m
 else
 some d8p
def a9a (b:Int)(h:rQ)(e:Int -> A3 Int)(a:Int):A3 Int:=
 if (decide (a <= 18)) then
 (b05 a).bind fun g=>
 (if (g==b) then (a96 a).bind fun f=>
 (u9 h f).bind fun d=>
 some d else some false).bind fun c=>
 if c then
 some a
 else
 e (i64 (a+1))
 else
 some 0
def a3a (a:rQ)(b:Int):A3 Int:=
 d9 FU (a9a b a) 7
structure eQ where
 f_pensionref5_reader_expr:rQ -> Int -> Option (Expr×rQ)
 f_pensionref5_reader_factor:rQ -> Option (Expr×rQ)
 f_pensionref5_reader_call:rQ -> Int -> Option (Expr×rQ)
def b0l (R:eQ)(d:Int)(e:(rQ×(O Expr)×Expr×Expr) -> A3 (Expr×rQ))(a:rQ×(O Expr)×Expr×Expr):A3 (Expr×rQ):=
 if (!a.1.bad) then
 (a3a a.1 d).bind fun c=>
 if (c==0) then
 some (a.2.2.2,a.1)
 else
 (R.f_pensionref5_reader_expr (⟨a.1.l,i64 (a.1.at_+1),a.1.end_,a.1.bad⟩:rQ) (i64 (d+1))).bind fun b=>
 if (d==4) then
 some ((⟨c,(⟨0,0⟩:fQ),0,a3j,[a.2.2.2,b.1]⟩:Expr),b.2)
 else
 e (b.2,a.2.1,(⟨a.2.2.1.Op,a.2.2.1.Value,a.2.2.1.Dim,a.2.2.1.Name,[]⟩:Expr),(⟨c,(⟨0,0⟩:fQ),0,a3j,[a.2.2.2,b.1]⟩:Expr))
 else
 some (a.2.2.2,a.1)
def a3b (R:eQ)(a:rQ)(b:Int):A3 (Expr×rQ):=
 if a.bad then
 some ((⟨0,(⟨0,0⟩:fQ),0,a3j,[]⟩:Expr),a)
 else
 if (b==0) then
 (d7 a d0k).bind fun g=>
 if (!g.1) then
 (R.f_pensionref5_reader_expr g.2 1).bind fun h=>
 some (h.1,h.2)
 else
 (R.f_pensionref5_reader_expr g.2 0).bind fun l=>
 (b9 l.2 d3p).bind fun n=>
 (R.f_pensionref5_reader_expr n 0).bind fun i=>
 (b9 i.2 c53).bind fun m=>
 (R.f_pensionref5_reader_expr m 0).bind fun k=>
 some ((⟨21,(⟨0,0⟩:fQ),0,a3j,[l.1,i.1,k.1]⟩:Expr),k.2)
 else
 if (b==3) then
 (d7 a c92).bind fun f=>
 if f.1 then
 (R.f_pensionref5_reader_expr f.2 3).bind fun j=>
 some ((⟨5,(⟨0,0⟩:fQ),0,a3j,[j.1]⟩:Expr),j.2)
 else
 (R.f_pensionref5_reader_expr f.2 4).bind fun d=>
 some (d.1,d.2)
 else
 if (b==7) then
 (R.f_pensionref5_reader_factor a).bind fun c=>
 some (c.1,c.2)
 else
 (R.f_pensionref5_reader_expr a (i64 (b+1))).bind fun e=>
 d9 FU (b0l R b) (e.2,[],(⟨0,(⟨0,0⟩:fQ),0,a3j,[]⟩:Expr),e.1)
def a2a (R:eQ)(b:rQ):A3 (Expr×rQ):=
 (p8 b 2).bind fun t=>
 if t then
 (c7 b.l b.at_).bind fun r=>
 (a2x r.Text).bind fun p=>
 some ((⟨1,p.1,p.2.1,a3j,[]⟩:Expr),(⟨b.l,i64 (b.at_+1),b.end_,b.bad⟩:rQ))
 else
 (d7 b e00).bind fun m=>
 if m.1 then
 (R.f_pensionref5_reader_expr m.2 7).bind fun q=>
 some ((⟨4,(⟨0,0⟩:fQ),0,a3j,[q.1]⟩:Expr),q.2)
 else
 (d7 m.2 e02).bind fun h=>
 if h.1 then
 (R.f_pensionref5_reader_expr h.2 0).bind fun o=>
 (b9 o.2 d38).bind fun s=>
 some (o.1,s)
 else
 (d7 h.2 c51).bind fun a=>
 if a.1 then
 (b9 a.2 e02).bind fun j=>
 (s7 j 1 45).bind fun d=>
 (b9 d.2 d38).bind fun l=>
 some ((⟨3,(⟨d.1,1⟩:fQ),0,a3j,[]⟩:Expr),l)
 else
 (u9 a.2 c1a).bind fun n=>
 if n then
 (R.f_pensionref5_reader_call a.2 6).bind fun c=>
 some (c.1,c.2)
 else
 (u9 a.2 c8l).bind fun i=>
 if i then
 (R.f_pensionref5_reader_call a.2 19).bind fun e=>
 some (e.1,e.2)
 else
 (u9 a.2 c98).bind fun k=>
 if k then
 (R.f_pensionref5_reader_call a.2 20).bind fun g=>
 some (g.1,g.2)
 else
 (a0w a.2).bind fun f=>
 some ((⟨2,(⟨0,0⟩:fQ),0,f.1,[]⟩:Expr),f.2)
def a3d (R:eQ)(b:rQ)(c:Int):A3 (Expr×rQ):=
 (b9 (⟨b.l,i64 (b.at_+1),b.end_,b.bad⟩:rQ) e02).bind fun j=>
 (R.f_pensionref5_reader_expr j 0).bind fun a=>
 (a8e c).bind fun i=>
 if (i==2) then
 (b9 a.2 g2w).bind fun g=>
 (c7 [a.1] 0).bind fun f=>
 (R.f_pensionref5_reader_expr g 0).bind fun d=>
 (b9 d.2 d38).bind fun h=>
 some ((⟨c,(⟨0,0⟩:fQ),0,a3j,[f,d.1]⟩:Expr),h)
 else
 (b9 a.2 d38).bind fun e=>
 some ((⟨c,(⟨0,0⟩:fQ),0,a3j,[a.1]⟩:Expr),e)
def c8:Nat -> eQ
 | 0=>⟨fun _ _=>none,fun _=>none,fun _ _=>none⟩
 | n+1=>⟨a3b (c8 n),a2a (c8 n),a3d (c8 n)⟩
def a0u (a:rQ)(b:Int):A3 (Expr×rQ):=(c8 FU).f_pensionref5_reader_expr a b
def a1v (a:rQ×(O Credit)×(O Index)×(O Let)×(O Grant)×(O Reduce)×Version×Credit):A3 (rQ×Version×(O Credit)×(O Index)×(O Let)×(O Grant)×(O Reduce)):=
 (a4n 16 a.2.1 [a.2.2.2.2.2.2.2]).bind fun b=>
 (b9 a.1 c3s).bind fun c=>
 some (c,(⟨a.2.2.2.2.2.2.1.From,a.2.2.2.2.2.2.1.Rounding,[],[],[],[],[]⟩:Version),b,a.2.2.1,a.2.2.2.1,a.2.2.2.2.1,a.2.2.2.2.2.1)
def a1t (a:rQ×(O Credit)×(O Index)×(O Let)×(O Grant)×(O Reduce)×Version×Index):A3 (rQ×Version×(O Credit)×(O Index)×(O Let)×(O Grant)×(O Reduce)):=
 (a4n 24 a.2.2.1 [a.2.2.2.2.2.2.2]).bind fun c=>
 (b9 a.1 c3s).bind fun b=>
 some (b,(⟨a.2.2.2.2.2.2.1.From,a.2.2.2.2.2.2.1.Rounding,[],[],[],[],[]⟩:Version),a.2.1,c,a.2.2.2.1,a.2.2.2.2.1,a.2.2.2.2.2.1)
def a0a (a:rQ×(O Credit)×(O Index)×(O Let)×(O Grant)×(O Reduce)×Version×Index):A3 (rQ×Version×(O Credit)×(O Index)×(O Let)×(O Grant)×(O Reduce)):=
 if (a.2.2.2.2.2.2.2.Factor.Den==0) then
 (j8 a.1).bind fun b=>
 joinC a1t (b,a.2.1,a.2.2.1,a.2.2.2.1,a.2.2.2.2.1,a.2.2.2.2.2.1,(⟨a.2.2.2.2.2.2.1.From,a.2.2.2.2.2.2.1.Rounding,[],[],[],[],[]⟩:Version),a.2.2.2.2.2.2.2)
 else
 joinC a1t (a.1,a.2.1,a.2.2.1,a.2.2.2.1,a.2.2.2.2.1,a.2.2.2.2.2.1,(⟨a.2.2.2.2.2.2.1.From,a.2.2.2.2.2.2.1.Rounding,[],[],[],[],[]⟩:Version),a.2.2.2.2.2.2.2)
def a39 (M:rQ)(a:Version)(d:O Credit)(c:O Index)(e:O Let)(g:O Grant)(f:O Reduce):A3 (rQ×Version×(O Credit)×(O Index)×(O Let)×(O Grant)×(O Reduce)):=
 (d7 M b91).bind fun J=>
 if J.1 then
 (a0m J.2 1).bind fun s=>
 (d7 s.2 c1c).bind fun D=>
 if D.1 then
 (s7 D.2 1 73049).bind fun L=>
 joinC a1v (L.2,d,c,e,g,f,(⟨a.From,a.Rounding,[],[],[],[],[]⟩:Version),(⟨s.1,L.1⟩:Credit))
 else
 joinC a1v (D.2,d,c,e,g,f,(⟨a.From,a.Rounding,[],[],[],[],[]⟩:Version),(⟨s.1,0⟩:Credit))
 else
 (d7 J.2 c1q).bind fun C=>
 if C.1 then
 (s7 C.2 1900 2099).bind fun b=>
 (p8 b.2 2).bind fun y=>
 if y then
 (c7 b.2.l b.2.at_).bind fun t=>
 (a2x t.Text).bind fun j=>
 (if (j.2.1==2) then some (decide (j.1.Num>0)) else some false).bind fun I=>
 if I then
 joinC a0a ((⟨b.2.l,i64 (b.2.at_+1),b.2.end_,b.2.bad⟩:rQ),d,c,e,g,f,(⟨a.From,a.Rounding,[],[],[],[],[]⟩:Version),(⟨b.1,j.1⟩:Index))
 else
 joinC a0a (b.2,d,c,e,g,f,(⟨a.From,a.Rounding,[],[],[],[],[]⟩:Version),(⟨b.1,(⟨0,0⟩:fQ)⟩:Index))
 else
 joinC a0a (b.2,d,c,e,g,f,(⟨a.From,a.Rounding,[],[],[],[],[]⟩:Version),(⟨b.1,(⟨0,0⟩:fQ)⟩:Index))
 else
 (d7 C.2 d07).bind fun h=>
 if h.1 then
 (a0w h.2).bind fun r=>
 (b9 r.2 e7j).bind fun A=>
 (a0u A 0).bind fun p=>
 (a4n 88 e [(⟨r.1,p.1⟩:Let)]).bind fun u=>
 (b9 p.2 c3s).bind fun H=>
 some (H,(⟨a.From,a.Rounding,[],[],[],[],[]⟩:Version),d,c,u,g,f)
 else
 (d7 h.2 c10).bind fun i=>
 if i.1 then
 (a0m i.2 2).bind fun q=>
 (b9 q.2 d0k).bind fun x=>
 (a0u x 0).bind fun l=>
 (b9 l.2 c60).bind fun K=>
 (a0u K 0).bind fun m=>
 (a4n 152 g [(⟨q.1,l.1,m.1⟩:Grant)]).bind fun v=>
 (b9 m.2 c3s).bind fun F=>
 some (F,(⟨a.From,a.Rounding,[],[],[],[],[]⟩:Version),d,c,e,v,f)
 else
 (d7 i.2 b94).bind fun k=>
 if k.1 then
 (a0m k.2 2).bind fun o=>
 (b9 o.2 d69).bind fun w=>
 (a0u w 0).bind fun n=>
 (a4n 80 f [(⟨o.1,n.1⟩:Reduce)]).bind fun B=>
 (b9 n.2 c3s).bind fun E=>
 some (E,(⟨a.From,a.Rounding,[],[],[],[],[]⟩:Version),d,c,e,g,B)
 else
 (j8 k.2).bind fun G=>
 (b9 G c3s).bind fun z=>
 some (z,(⟨a.From,a.Rounding,[],[],[],[],[]⟩:Version),d,c,e,g,f)
def a8i (d:(rQ×(O Credit)×(O Index)×(O Let)×(O Grant)×(O Reduce)×Version×(O Credit)×(O Index)×(O Let)×(O Grant)×(O Reduce)×Version) -> A3 (Version×rQ))(a:rQ×(O Credit)×(O Index)×(O Let)×(O Grant)×(O Reduce)×Version×(O Credit)×(O Index)×(O Let)×(O Grant)×(O Reduce)×Version):A3 (Version×rQ):=
 if (!a.1.bad) then
 (d7 a.1 d0a).bind fun c=>
 if (!c.1) then
 (a39 c.2 (⟨a.2.2.2.2.2.2.2.2.2.2.2.2.From,a.2.2.2.2.2.2.2.2.2.2.2.2.Rounding,[],[],[],[],[]⟩:Version) a.2.2.2.2.2.2.2.1 a.2.2.2.2.2.2.2.2.1 a.2.2.2.2.2.2.2.2.2.1 a.2.2.2.2.2.2.2.2.2.2.1 a.2.2.2.2.2.2.2.2.2.2.2.1).bind fun b=>
 d (b.1,a.2.1,a.2.2.1,a.2.2.2.1,a.2.2.2.2.1,a.2.2.2.2.2.1,(⟨a.2.2.2.2.2.2.1.From,a.2.2.2.2.2.2.1.Rounding,[],[],[],[],[]⟩:Version),b.2.2.1,b.2.2.2.1,b.2.2.2.2.1,b.2.2.2.2.2.1,b.2.2.2.2.2.2,(⟨b.2.1.From,b.2.1.Rounding,[],[],[],[],[]⟩:Version))
 else
 some ((⟨a.2.2.2.2.2.2.2.2.2.2.2.2.From,a.2.2.2.2.2.2.2.2.2.2.2.2.Rounding,a.2.2.2.2.2.2.2.1,a.2.2.2.2.2.2.2.2.1,a.2.2.2.2.2.2.2.2.2.1,a.2.2.2.2.2.2.2.2.2.2.1,a.2.2.2.2.2.2.2.2.2.2.2.1⟩:Version),c.2)
 else
 some ((⟨a.2.2.2.2.2.2.2.2.2.2.2.2.From,a.2.2.2.2.2.2.2.2.2.2.2.2.Rounding,a.2.2.2.2.2.2.2.1,a.2.2.2.2.2.2.2.2.1,a.2.2.2.2.2.2.2.2.2.1,a.2.2.2.2.2.2.2.2.2.2.1,a.2.2.2.2.2.2.2.2.2.2.2.1⟩:Version),a.1)
def a1l (a:rQ×(O Credit)×(O Index)×(O Let)×(O Grant)×(O Reduce)×Version×(O Credit)×(O Index)×(O Let)×(O Grant)×(O Reduce)×Version):A3 (Version×rQ):=
 (b9 a.1 e8b).bind fun e=>
 (b9 e c14).bind fun f=>
 (a0m f 3).bind fun c=>
 (s7 c.2 1 100000).bind fun d=>
 (b9 d.2 c3s).bind fun b=>
 d9 FU a8i (b,a.2.1,a.2.2.1,a.2.2.2.1,a.2.2.2.2.1,a.2.2.2.2.2.1,(⟨a.2.2.2.2.2.2.1.From,a.2.2.2.2.2.2.1.Rounding,[],[],[],[],[]⟩:Version),a.2.2.2.2.2.2.2.1,a.2.2.2.2.2.2.2.2.1,a.2.2.2.2.2.2.2.2.2.1,a.2.2.2.2.2.2.2.2.2.2.1,a.2.2.2.2.2.2.2.2.2.2.2.1,(⟨a.2.2.2.2.2.2.2.2.2.2.2.2.From,(⟨c.1,d.1⟩:Rounding),[],[],[],[],[]⟩:Version))
def a2o (f:rQ):A3 (Version×rQ):=
 (b9 f c4c).bind fun a=>
 (p8 a 3).bind fun c=>
 if c then
 (c7 a.l a.at_).bind fun e=>
 (b09 e.Text).bind fun d=>
 joinC a1l ((⟨a.l,i64 (a.at_+1),a.end_,a.bad⟩:rQ),[],[],[],[],[],(⟨0,(⟨0,0⟩:Rounding),[],[],[],[],[]⟩:Version),[],[],[],[],[],(⟨d,(⟨0,0⟩:Rounding),[],[],[],[],[]⟩:Version))
 else
 (j8 a).bind fun b=>
 joinC a1l (b,[],[],[],[],[],(⟨0,(⟨0,0⟩:Rounding),[],[],[],[],[]⟩:Version),[],[],[],[],[],(⟨0,(⟨0,0⟩:Rounding),[],[],[],[],[]⟩:Version))
def a3s (a:rQ):A3 Int:=
 if (decide (a.at_<(a.l.length:Int))) then
 (c7 a.l a.at_).bind fun b=>
 some b.At
 else
 some a.end_
def a6n (a:Int):A3 Bool:=
 (if (decide (a >= 0)) then some (decide (a <= 73048)) else some false).bind fun b=>
 some b
def a3c (a:Rounding):A3 Bool:=
 (if (decide (a.Mode >= 1)) then some (decide (a.Mode <= 4)) else some false).bind fun b=>
 (if b then some (decide (a.Unit >= 1)) else some false).bind fun c=>
 (if c then some (decide (a.Unit <= 100000)) else some false).bind fun d=>
 some d
def b53 (b k:Int)(n:((O A4)×Int) -> A3 A4)(a:(O A4)×Int):A3 A4:=
 (if (decide (a.2<(a.1.length:Int))) then some (decide (b>0)) else some false).bind fun p=>
 if p then
 (if (k==1) then (c7 a.1 a.2).bind fun u=>
 (c7 a.1 a.2).bind fun q=>
 (a8l q).bind fun l=>
 some (l==b) else some false).bind fun o=>
 (if o then some true else (if (k==2) then (c7 a.1 a.2).bind fun t=>
 (c7 a.1 a.2).bind fun m=>
 (a52 m).bind fun g=>
 some (g==b) else some false).bind fun d=>
 some d).bind fun j=>
 (if j then some true else (if (k==3) then (c7 a.1 a.2).bind fun r=>
 (c7 a.1 a.2).bind fun c=>
 (a8f c).bind fun f=>
 some (f==b) else some false).bind fun e=>
 some e).bind fun h=>
 if h then
 (c7 a.1 a.2).bind fun s=>
 (c7 a.1 a.2).bind fun i=>
 some i
 else
 n (a.1,i64 (a.2+1))
 else
 some a3j
def a3t (a b:Int):A3 A4:=
 d9 FU (b53 a b) ([b0b,b3z,b87,d54,c97,c04,d9m,b8e,c0u,c66,c0r,d4s,f1e,d3b,d3z],0)
def a1h (a:fQ):A3 Bool:=
 (if (decide (a.Den >= 1)) then some (decide (a.Den <= 1000000000)) else some false).bind fun g=>
 (if g then some (decide (a.Num >= (-1000000000000000:Int))) else some false).bind fun b=>
 (if b then some (decide (a.Num <= 1000000000000000)) else some false).bind fun f=>
 (if f then (a43 a.Num).bind fun e=>
 (a9s e (u64 (a.Den))).bind fun d=>
 some (d==1) else some false).bind fun c=>
 some c
def b4s (b:Int)(f:(Int×A4) -> A3 A4)(a:Int×A4):A3 A4:=
 (if (decide (a.1>0)) then some true else some (decide ((a.2.size:Int)<b))).bind fun i=>
 if i then
 (b8t a.1 10).bind fun g=>
 (b8t a.1 10).bind fun e=>
 (c3u a6h g (i64 (e+1))).bind fun d=>
 (a7f d a.2).bind fun h=>
 (c2t a.1 10).bind fun c=>
 f (c,h)
 else
 some a.2
def a5w (a b:Int):A3 A4:=
 d9 FU (b4s b) (a,a3j)
def a3x (a:fQ×A4):A3 A4:=
 if (a.1.Den != 1) then
 (a7f a.2 e8f).bind fun d=>
 (a5w a.1.Den 1).bind fun c=>
 (a7f d c).bind fun b=>
 some b
 else
 some a.2
def a2n (a:fQ):A3 A4:=
 (a1h a).bind fun e=>
 if (!e) then
 some a3j
 else
 (a43 a.Num).bind fun c=>
 (a5w (i64 (c)) 1).bind fun b=>
 if (decide (a.Num<0)) then
 (a7f e00 b).bind fun d=>
 joinC a3x (a,d)
 else
 joinC a3x (a,b)
def a93 (b:Int×A4×Int)(h:(A4×Int×Int) -> A3 (A4×Bool))(a:A4×Int×Int):A3 (A4×Bool):=
 if (decide (a.2.1>0)) then
 (c2t a.2.1 a.2.2).bind fun d=>
 (c2t a.2.1 a.2.2).bind fun c=>
 (c3u a6h d (i64 (c+1))).bind fun i=>
 (a7f a.1 i).bind fun g=>
 (b8t a.2.1 a.2.2).bind fun e=>
 (c2t a.2.2 10).bind fun f=>
 h (g,e,f)
 else
 (c7 [a3j,e4t,e6u] (i64 (b.1-2))).bind fun l=>
 (c7 [a3j,e4t,e6u] (i64 (b.1-2))).bind fun j=>
 (a7f a.1 j).bind fun k=>
 some (k,true)
def a1u (a:Int×A4×Int):A3 (A4×Bool):=
 d9 FU (a93 a) (a.2.1,a.2.2,1000)
def a1g (a:fQ)(c:Int):A3 (A4×Bool):=
 (a1h a).bind fun l=>
 (if (!l) then some true else some (decide (a.Num<0))).bind fun g=>
 (if g then some true else (b8t 10000 a.Den).bind fun k=>
 some (k != 0)).bind fun j=>
 (if j then some true else some (decide (c<2))).bind fun i=>
 (if i then some true else some (decide (c>4))).bind fun h=>
 if h then
 some (a3j,false)
 else
 (c2t a.Num a.Den).bind fun b=>
 if (decide (b>999999999)) then
 some (a3j,false)
 else
 (a2n (⟨b,1⟩:fQ)).bind fun f=>
 (c2t 10000 a.Den).bind fun e=>
 if (decide ((i64 ((i64 (a.Num-(i64 (b*a.Den))))*e))>0)) then
 (a7f f b1i).bind fun d=>
 joinC a1u (c,d,i64 ((i64 (a.Num-(i64 (b*a.Den))))*e))
 else
 joinC a1u (c,f,i64 ((i64 (a.Num-(i64 (b*a.Den))))*e))
structure Ring_pensionref5_Depth where
 f_pensionref5_Depth:Expr -> Option Int
def b5n (R:Ring_pensionref5_Depth)(b:(Expr×Int×Int) -> A3 Int)(a:Expr×Int×Int):A3 Int:=
 if (decide (a.2.2<(a.1.Args.length:Int))) then
 (c7 a.1.Args a.2.2).bind fun d=>
 (R.f_pensionref5_Depth d).bind fun c=>
 b (a.1,max a.2.1 c,i64 (a.2.2+1))
 else
 some (i64 (a.2.1+1))
def a7r (R:Ring_pensionref5_Depth)(a:Expr):A3 Int:=
 d9 FU (b5n R) (a,0,0)
def s5:Nat -> Ring_pensionref5_Depth
 | 0=>⟨fun _=>none⟩
 | n+1=>⟨a7r (s5 n)⟩
def c61 (a:Expr):A3 Int:=(s5 FU).f_pensionref5_Depth a
structure Ring_pensionref5_Size where
 f_pensionref5_Size:Expr -> Option Int
def b6r (R:Ring_pensionref5_Size)(b:(Expr×Int×Int) -> A3 Int)(a:Expr×Int×Int):A3 Int:=
 if (decide (a.2.2<(a.1.Args.length:Int))) then
 (c7 a.1.Args a.2.2).bind fun d=>
 (R.f_pensionref5_Size d).bind fun c=>
 b (a.1,i64 (a.2.1+c),i64 (a.2.2+1))
 else
 some a.2.1
def a94 (R:Ring_pensionref5_Size)(a:Expr):A3 Int:=
 d9 FU (b6r R) (a,1,0)
def u7:Nat -> Ring_pensionref5_Size
 | 0=>⟨fun _=>none⟩
 | n+1=>⟨a94 (u7 n)⟩
def c76 (a:Expr):A3 Int:=(u7 FU).f_pensionref5_Size a
structure Ring_pensionref5_formed where
 f_pensionref5_formed:Expr -> Option Bool
def b4j (R:Ring_pensionref5_formed)(e:Bool)(c:(Expr×Int) -> A3 Bool)(a:Expr×Int):A3 Bool:=
 if (decide (a.2<(a.1.Args.length:Int))) then
 (c7 a.1.Args a.2).bind fun b=>
 (R.f_pensionref5_formed b).bind fun d=>
 if (!d) then
 some false
 else
 c (a.1,i64 (a.2+1))
 else
 some e
def a6s (R:Ring_pensionref5_formed)(a:Expr):A3 Bool:=
 (a8e a.Op).bind fun m=>
 if ((a.Args.length:Int) != m) then
 some false
 else
 (if ((a.Value.Num==0)&&((a.Value.Den==0)&&(true))) then some (a.Dim==0) else some false).bind fun e=>
 (if e then some (a.Name.toList==a3j.toList) else some false).bind fun l=>
 if (a.Op==1) then
 (a1g a.Value a.Dim).bind fun j=>
 (if j.2 then some (a.Name.toList==a3j.toList) else some false).bind fun h=>
 some h
 else
 if (a.Op==2) then
 (if ((a.Value.Num==0)&&((a.Value.Den==0)&&(true))) then some (a.Dim==0) else some false).bind fun f=>
 (if f then (a2e a.Name).bind fun k=>
 some k else some false).bind fun g=>
 some g
 else
 if (a.Op==3) then
 (if (a.Dim==0) then some (a.Name.toList==a3j.toList) else some false).bind fun i=>
 (if i then some (a.Value.Den==1) else some false).bind fun c=>
 (if c then some (decide (a.Value.Num >= 1)) else some false).bind fun b=>
 (if b then some (decide (a.Value.Num <= 45)) else some false).bind fun d=>
 some d
 else
 d9 FU (b4j R l) (a,0)
def p7:Nat -> Ring_pensionref5_formed
 | 0=>⟨fun _=>none⟩
 | n+1=>⟨a6s (p7 n)⟩
def c4h (a:Expr):A3 Bool:=(p7 FU).f_pensionref5_formed a
def a0g (a:Expr):A3 Bool:=
 (c61 a).bind fun f=>
 (if (decide (f <= 10)) then (c76 a).bind fun b=>
 some (decide (b <= 60)) else some false).bind fun e=>
 (if e then (c4h a).bind fun d=>
 some d else some false).bind fun c=>
 some c
def a4x (g:(Version×Int) -> A3 Bool)(a:Version×Int):A3 Bool:=
 if (decide (a.2<(a.1.Reduces.length:Int))) then
 (c7 a.1.Reduces a.2).bind fun f=>
 (a3t f.Benefit 2).bind fun b=>
 (if (b.toList==a3j.toList) then some true else (c7 a.1.Reduces a.2).bind fun d=>
 (a0g d.By).bind fun e=>
 some (!e)).bind fun c=>
 if c then
 some false
 else
 g (a.1,i64 (a.2+1))
 else
 some true
def a4o (g:(Version×Int) -> A3 Bool)(a:Version×Int):A3 Bool:=
 if (decide (a.2<(a.1.Grants.length:Int))) then
 (c7 a.1.Grants a.2).bind fun c=>
 (a3t c.Benefit 2).bind fun d=>
 (if (d.toList==a3j.toList) then some true else (c7 a.1.Grants a.2).bind fun j=>
 (a0g j.If).bind fun f=>
 some (!f)).bind fun h=>
 (if h then some true else (c7 a.1.Grants a.2).bind fun i=>
 (a0g i.Pay).bind fun e=>
 some (!e)).bind fun b=>
 if b then
 some false
 else
 g (a.1,i64 (a.2+1))
 else
 d9 FU a4x (a.1,0)
def a56 (c:(Version×Int) -> A3 Bool)(a:Version×Int):A3 Bool:=
 if (decide (a.2<(a.1.Lets.length:Int))) then
 (c7 a.1.Lets a.2).bind fun g=>
 (a2e g.Name).bind fun f=>
 (if (!f) then some true else (c7 a.1.Lets a.2).bind fun d=>
 (a0g d.Body).bind fun b=>
 some (!b)).bind fun e=>
 if e then
 some false
 else
 c (a.1,i64 (a.2+1))
 else
 d9 FU a4o (a.1,0)
def a4z (e:(Version×Int) -> A3 Bool)(a:Version×Int):A3 Bool:=
 if (decide (a.2<(a.1.Series.length:Int))) then
 (c7 a.1.Series a.2).bind fun c=>
 (a1g c.Factor 2).bind fun i=>
 (c7 a.1.Series a.2).bind fun j=>
 (if (decide (j.Year<1900)) then some true else (c7 a.1.Series a.2).bind fun h=>
 some (decide (h.Year>2099))).bind fun d=>
 (if d then some true else some (!i.2)).bind fun f=>
 (if f then some true else (c7 a.1.Series a.2).bind fun g=>
 some (decide (g.Factor.Num<1))).bind fun b=>
 if b then
 some false
 else
 e (a.1,i64 (a.2+1))
 else
 d9 FU a56 (a.1,0)
def a4r (e:(Version×Int) -> A3 Bool)(a:Version×Int):A3 Bool:=
 if (decide (a.2<(a.1.Credits.length:Int))) then
 (c7 a.1.Credits a.2).bind fun d=>
 (a3t d.Kind 1).bind fun f=>
 (if (f.toList==a3j.toList) then some true else (c7 a.1.Credits a.2).bind fun g=>
 some (decide (g.Limit<0))).bind fun c=>
 (if c then some true else (c7 a.1.Credits a.2).bind fun b=>
 some (decide (b.Limit>73049))).bind fun h=>
 if h then
 some false
 else
 e (a.1,i64 (a.2+1))
 else
 d9 FU a4z (a.1,0)
def a3n (a:Version):A3 Bool:=
 (a6n a.From).bind fun i=>
 (if (!i) then some true else (a3c a.Rounding).bind fun b=>
 some (!b)).bind fun h=>
 (if h then some true else some (decide ((a.Credits.length:Int)>6))).bind fun f=>
 (if f then some true else some (decide ((a.Series.length:Int)>20))).bind fun e=>
 (if e then some true else some (decide ((a.Lets.length:Int)>10))).bind fun d=>
 (if d then some true else some (decide ((a.Grants.length:Int)>5))).bind fun g=>
 (if g then some true else some (decide ((a.Reduces.length:Int)>5))).bind fun c=>
 if c then
 some false
 else
 d9 FU a4r (a,0)
def b5o (d:(Statute×Int) -> A3 Bool)(a:Statute×Int):A3 Bool:=
 if (decide (a.2<(a.1.Versions.length:Int))) then
 (c7 a.1.Versions a.2).bind fun c=>
 (a3n c).bind fun b=>
 if (!b) then
 some false
 else
 d (a.1,i64 (a.2+1))
 else
 some true
def b00 (a:Statute):A3 Bool:=
 (a2e a.Name).bind fun f=>
 (if (!f) then some true else some (decide (a.Currency<1))).bind fun b=>
 (if b then some true else some (decide (a.Currency>999))).bind fun e=>
 (if e then some true else some (decide ((a.Versions.length:Int)<1))).bind fun d=>
 (if d then some true else some (decide ((a.Versions.length:Int)>6))).bind fun c=>
 if c then
 some false
 else
 d9 FU b5o (a,0)
def a6u (d:((O Version)×Statute×rQ×(O Version)×Statute×Bool) -> A3 (Statute×Int×Int))(a:(O Version)×Statute×rQ×(O Version)×Statute):A3 (Statute×Int×Int):=
 (a2o a.2.2.1).bind fun b=>
 (a4n 144 a.2.2.2.1 [b.1]).bind fun c=>
 d (a.1,(⟨a.2.1.Name,a.2.1.Currency,[]⟩:Statute),b.2,c,(⟨a.2.2.2.2.Name,a.2.2.2.2.Currency,[]⟩:Statute),false)
def a6p (a:(O Version)×Statute×rQ×(O Version)×Statute):A3 (Statute×Int×Int):=
 (if a.2.2.1.bad then some true else some (decide (a.2.2.1.at_<(a.2.2.1.l.length:Int)))).bind fun c=>
 if c then
 (a3s a.2.2.1).bind fun b=>
 some ((⟨a3j,0,[]⟩:Statute),b,4)
 else
 (b00 (⟨a.2.2.2.2.Name,a.2.2.2.2.Currency,a.2.2.2.1⟩:Statute)).bind fun d=>
 if (!d) then
 some ((⟨a3j,0,[]⟩:Statute),0,7)
 else
 some ((⟨a.2.2.2.2.Name,a.2.2.2.2.Currency,a.2.2.2.1⟩:Statute),0,0)
def b5m (c:((O Version)×Statute×rQ×(O Version)×Statute×Bool) -> A3 (Statute×Int×Int))(a:(O Version)×Statute×rQ×(O Version)×Statute×Bool):A3 (Statute×Int×Int):=
 if (!a.2.2.1.bad) then
 if a.2.2.2.2.2 then
 joinC (a6u c) (a.1,(⟨a.2.1.Name,a.2.1.Currency,[]⟩:Statute),a.2.2.1,a.2.2.2.1,(⟨a.2.2.2.2.1.Name,a.2.2.2.2.1.Currency,[]⟩:Statute))
 else
 (d7 a.2.2.1 d0a).bind fun b=>
 if (!b.1) then
 joinC (a6u c) (a.1,(⟨a.2.1.Name,a.2.1.Currency,[]⟩:Statute),b.2,a.2.2.2.1,(⟨a.2.2.2.2.1.Name,a.2.2.2.2.1.Currency,[]⟩:Statute))
 else
 joinC a6p (a.1,(⟨a.2.1.Name,a.2.1.Currency,[]⟩:Statute),b.2,a.2.2.2.1,(⟨a.2.2.2.2.1.Name,a.2.2.2.2.1.Currency,[]⟩:Statute))
 else
 joinC a6p (a.1,(⟨a.2.1.Name,a.2.1.Currency,[]⟩:Statute),a.2.2.1,a.2.2.2.1,(⟨a.2.2.2.2.1.Name,a.2.2.2.2.1.Currency,[]⟩:Statute))
def a9z (h:A4):A3 (Statute×Int×Int):=
 (b02 h).bind fun a=>
 optC a.1 (if (a.2.2 != 0) then
 some ((⟨a3j,0,[]⟩:Statute),a.2.1,a.2.2)
 else
 none) fun d=>
 if (a.2.2 != 0) then
 some ((⟨a3j,0,[]⟩:Statute),a.2.1,a.2.2)
 else
 (b9 d b76).bind fun g=>
 (a0w g).bind fun c=>
 (b9 c.2 b4x).bind fun e=>
 (s7 e 1 999).bind fun b=>
 (b9 b.2 e8b).bind fun f=>
 d9 FU b5m ([],(⟨a3j,0,[]⟩:Statute),f,[],(⟨c.1,b.1,[]⟩:Statute),true)
def b71 (g:O Int)(h:((O State)×(O Rules)×(O Rate)×Laws×(O State)×(O Rules)×Laws×Int) -> A3 (Laws×(O State)×(O Rules)×Unit))(a:(O State)×(O Rules)×(O Rate)×Laws×(O State)×(O Rules)×Laws×Int):A3 (Laws×(O State)×(O Rules)×Unit):=
 if (decide (a.2.2.2.2.2.2.2<3)) then
 (b10 a.2.2.2.2.2.2.2 g).bind fun p=>
 (a9z p).bind fun j=>
 if (j.2.2==0) then
 (a4n 56 a.2.2.2.2.1 [(⟨a.2.2.2.2.2.2.2,j.1⟩:State)]).bind fun n=>
 h (a.1,a.2.1,a.2.2.1,(⟨[],[],[]⟩:Laws),n,a.2.2.2.2.2.1,(⟨[],[],a.2.2.2.2.2.2.1.Rates⟩:Laws),i64 (a.2.2.2.2.2.2.2+1))
 else
 h (a.1,a.2.1,a.2.2.1,(⟨[],[],[]⟩:Laws),a.2.2.2.2.1,a.2.2.2.2.2.1,(⟨[],[],a.2.2.2.2.2.2.1.Rates⟩:Laws),i64 (a.2.2.2.2.2.2.2+1))
 else
 (c5 g 2).bind fun k=>
 (b7 k 6).bind fun d=>
 (c5 g 5).bind fun l=>
 (b7 l 3).bind fun i=>
 if (i==0) then
 (c7 [(⟨0,i64 (90*d),730,25,[0,1]⟩:Rules)] 0).bind fun m=>
 (c7 [(⟨0,i64 (90*d),730,25,[0,1]⟩:Rules)] 0).bind fun c=>
 some ((⟨[],[],a.2.2.2.2.2.2.1.Rates⟩:Laws),a.2.2.2.2.1,a8h [(⟨0,i64 (90*d),730,25,[0,1]⟩:Rules)] 0 (⟨c.From,c.MinDays,c.PostingLimit,c.Substantial,[0,1,2]⟩:Rules),())
 else
 if (i==1) then
 (a4n 56 [(⟨0,i64 (90*d),730,25,[0,1]⟩:Rules)] [(⟨35000,i64 (90*d),365,30,[0,1,2]⟩:Rules)]).bind fun f=>
 some ((⟨[],[],a.2.2.2.2.2.2.1.Rates⟩:Laws),a.2.2.2.2.1,f,())
 else
 (c7 [(⟨0,i64 (90*d),730,25,[0,1]⟩:Rules)] 0).bind fun o=>
 (c7 [(⟨0,i64 (90*d),730,25,[0,1]⟩:Rules)] 0).bind fun b=>
 (a4n 56 (a8h [(⟨0,i64 (90*d),730,25,[0,1]⟩:Rules)] 0 (⟨b.From,b.MinDays,b.PostingLimit,b.Substantial,[0,1,2]⟩:Rules)) [(⟨36000,i64 (90*d),730,25,[0,1]⟩:Rules)]).bind fun e=>
 some ((⟨[],[],a.2.2.2.2.2.2.1.Rates⟩:Laws),a.2.2.2.2.1,e,())
def b11 (a:O Int):A3 (Laws×(O State)×(O Rules)×Unit):=
 d9 FU (b71 a) ([],[],[],(⟨[],[],[]⟩:Laws),[],[],(⟨[],[],[(⟨1,0,(⟨1,1⟩:fQ)⟩:Rate),(⟨2,0,(⟨3,2⟩:fQ)⟩:Rate),(⟨3,0,(⟨1,7⟩:fQ)⟩:Rate),(⟨3,1150,(⟨1,9⟩:fQ)⟩:Rate)]⟩:Laws),0)
def a40 (b a:Int):A3 Int:=
 if (decide (a<1)) then
 some 0
 else
 (b8t b a).bind fun c=>
 (b8t (i64 (c+a)) a).bind fun d=>
 some d
def b3p (k:O Int)(q:Int):A3 Laws:=
 (b11 k).bind fun a=>
 (a40 q 24).bind fun c=>
 if (c==0) then
 (a1x a.2.1 1 (a.2.1.length:Int)).bind fun p=>
 some (⟨p,a.2.2.1,a.1.Rates⟩:Laws)
 else
 if (c==1) then
 (c7 a.2.1 0).bind fun u=>
 (c7 a.2.1 0).bind fun r=>
 some (⟨a8h a.2.1 0 (⟨2,r.Statute⟩:State),a.2.2.1,a.1.Rates⟩:Laws)
 else
 if (c==2) then
 some (⟨a.2.1,[],a.1.Rates⟩:Laws)
 else
 if (c==3) then
 (a4n 32 [] a.1.Rates).bind fun i=>
 (c7 a.1.Rates 0).bind fun o=>
 (a4n 32 i [o]).bind fun n=>
 some (⟨a.2.1,a.2.2.1,n⟩:Laws)
 else
 if (c==4) then
 (a1x a.1.Rates 0 2).bind fun j=>
 some (⟨a.2.1,a.2.2.1,j⟩:Laws)
 else
 if (c==5) then
 (c7 a.2.1 0).bind fun m=>
 (c7 a.2.1 0).bind fun d=>
 (a4n 144 [] d.Statute.Versions).bind fun f=>
 (c7 f 0).bind fun s=>
 (c7 f 0).bind fun b=>
 (a1x (a8h f 0 (⟨36000,b.Rounding,b.Credits,b.Series,b.Lets,b.Grants,b.Reduces⟩:Version)) 0 1).bind fun g=>
 (c7 a.2.1 0).bind fun l=>
 (c7 a.2.1 0).bind fun h=>
 some (⟨a8h a.2.1 0 (⟨h.State,(⟨d.Statute.Name,d.Statute.Currency,g⟩:Statute)⟩:State),a.2.2.1,a.1.Rates⟩:Laws)
 else
 if (c==6) then
 (c7 a.2.1 1).bind fun t=>
 (c7 a.2.1 1).bind fun e=>
 some (⟨a8h a.2.1 1 (⟨e.State,(⟨e.Statute.Name,0,e.Statute.Versions⟩:Statute)⟩:State),a.2.2.1,a.1.Rates⟩:Laws)
 else
 some (⟨a.2.1,a.2.2.1,a.1.Rates⟩:Laws)
def b5f (a:Int):A3 Int:=
 (b8t a 16).bind fun b=>
 if (b==0) then
 some a
 else
 (a40 a 9000).bind fun c=>
 some (i64 (33000+c))
def h7t (c:(pensionmade_View×(O Int)×View×(O Int)×View×Int) -> A3 View)(a:pensionmade_View×(O Int)×View×(O Int)×View×Int):A3 View:=
 (if (decide (a.2.2.2.2.2<(a.1.Years.length:Int))) then some (decide (a.2.2.2.2.2<20)) else some false).bind fun f=>
 if f then
 (c7 a.1.Years a.2.2.2.2.2).bind fun d=>
 (a40 d 5000000).bind fun b=>
 (a4n 8 a.2.2.2.1 [b]).bind fun e=>
 c (a.1,a.2.1,(⟨a.2.2.1.Age,a.2.2.1.Year,a.2.2.1.Children,a.2.2.1.Insured,a.2.2.1.Worked,a.2.2.1.Voluntary,a.2.2.1.Service,a.2.2.1.Equated,a.2.2.1.Raising,a.2.2.1.Resident,a.2.2.1.Base,[]⟩:View),e,(⟨a.2.2.2.2.1.Age,a.2.2.2.2.1.Year,a.2.2.2.2.1.Children,a.2.2.2.2.1.Insured,a.2.2.2.2.1.Worked,a.2.2.2.2.1.Voluntary,a.2.2.2.2.1.Service,a.2.2.2.2.1.Equated,a.2.2.2.2.1.Raising,a.2.2.2.2.1.Resident,a.2.2.2.2.1.Base,[]⟩:View),i64 (a.2.2.2.2.2+1))
 else
 some (⟨a.2.2.2.2.1.Age,a.2.2.2.2.1.Year,a.2.2.2.2.1.Children,a.2.2.2.2.1.Insured,a.2.2.2.2.1.Worked,a.2.2.2.2.1.Voluntary,a.2.2.2.2.1.Service,a.2.2.2.2.1.Equated,a.2.2.2.2.1.Raising,a.2.2.2.2.1.Resident,a.2.2.2.2.1.Base,a.2.2.2.1⟩:View)
def h7u (r:(pensionmade_View×(O Int)×View×(Ar 7 Int)×Int) -> A3 View)(a:pensionmade_View×(O Int)×View×(Ar 7 Int)×Int):A3 View:=
 (if (decide (a.2.2.2.2<7)) then some (decide (a.2.2.2.2<(a.1.Days.length:Int))) else some false).bind fun s=>
 if s then
 (c7 a.1.Days a.2.2.2.2).bind fun x=>
 (a40 x 20000).bind fun v=>
 (c7 a.2.2.2.1.l a.2.2.2.2).bind fun z=>
 (c7 a.2.2.2.1.l a.2.2.2.2).bind fun A=>
 r (a.1,a.2.1,(⟨a.2.2.1.Age,a.2.2.1.Year,a.2.2.1.Children,a.2.2.1.Insured,a.2.2.1.Worked,a.2.2.1.Voluntary,a.2.2.1.Service,a.2.2.1.Equated,a.2.2.1.Raising,a.2.2.1.Resident,a.2.2.1.Base,[]⟩:View),Ar.set a.2.2.2.1 a.2.2.2.2 v,i64 (a.2.2.2.2+1))
 else
 (a40 a.1.Base 1000000).bind fun q=>
 (a40 a.1.Den 12).bind fun n=>
 (a3r q (i64 (n+1))).bind fun f=>
 (a40 a.1.Age 110).bind fun b=>
 (a40 a.1.Year 200).bind fun j=>
 (a40 a.1.Children 8).bind fun k=>
 (c7 a.2.2.2.1.l 0).bind fun m=>
 (c7 a.2.2.2.1.l 0).bind fun d=>
 (c7 a.2.2.2.1.l 1).bind fun o=>
 (c7 a.2.2.2.1.l 1).bind fun g=>
 (c7 a.2.2.2.1.l 2).bind fun p=>
 (c7 a.2.2.2.1.l 2).bind fun h=>
 (c7 a.2.2.2.1.l 3).bind fun y=>
 (c7 a.2.2.2.1.l 3).bind fun l=>
 (c7 a.2.2.2.1.l 4).bind fun t=>
 (c7 a.2.2.2.1.l 4).bind fun c=>
 (c7 a.2.2.2.1.l 5).bind fun w=>
 (c7 a.2.2.2.1.l 5).bind fun i=>
 (c7 a.2.2.2.1.l 6).bind fun u=>
 (c7 a.2.2.2.1.l 6).bind fun e=>
 d9 FU h7t (a.1,a.2.1,(⟨a.2.2.1.Age,a.2.2.1.Year,a.2.2.1.Children,a.2.2.1.Insured,a.2.2.1.Worked,a.2.2.1.Voluntary,a.2.2.1.Service,a.2.2.1.Equated,a.2.2.1.Raising,a.2.2.1.Resident,a.2.2.1.Base,[]⟩:View),[],(⟨b,i64 (1900+j),k,d,g,h,l,c,i,e,f.1,[]⟩:View),0)
def h6t (a:pensionmade_View):A3 View:=
 d9 FU h7u (a,[],(⟨0,0,0,0,0,0,0,0,0,0,(⟨0,0⟩:fQ),[]⟩:View),(arZ 7 0:Ar 7 Int),0)
def b6l (a:Int):A3 Bool:=
 (if (decide (a >= 97)) then some (decide (a <= 122)) else some false).bind fun b=>
 some b
def b74 (a:Int):A3 Bool:=
 (if (decide (a >= 48)) then some (decide (a <= 57)) else some false).bind fun b=>
 some b
def c1b (a:Int):A3 Bool:=
 (b6l a).bind fun e=>
 (if e then some true else (b74 a).bind fun b=>
 some b).bind fun d=>
 (if d then some true else some (a==95)).bind fun c=>
 some c
def c1f (b:A4)(e:Int -> A3 Bool)(a:Int):A3 Bool:=
 if (decide (a<(b.size:Int))) then
 (b3c b a).bind fun d=>
 (c1b d).bind fun c=>
 if (!c) then
 some false
 else
 e (i64 (a+1))
 else
 some true
def b7f (a:A4):A3 Bool:=
 (if (decide ((a.size:Int)<1)) then some true else some (decide ((a.size:Int)>12))).bind fun e=>
 (if e then some true else (b3c a 0).bind fun b=>
 (b6l b).bind fun d=>
 some (!d)).bind fun c=>
 if c then
 some false
 else
 d9 FU (c1f a) 0
def b49 (a:A4):A3 Bool:=
 if (a.toList==c9m.toList) then
 if (a.toList==c9m.toList) then
 some true
 else
 some false
 else
 if (a.toList==c51.toList) then
 if (a.toList==c51.toList) then
 some true
 else
 some false
 else
 if (a.toList==d69.toList) then
 if (a.toList==d69.toList) then
 some true
 else
 some false
 else
 if (a.toList==b91.toList) then
 if (a.toList==b91.toList) then
 some true
 else
 some false
 else
 if (a.toList==b4x.toList) then
 if (a.toList==b4x.toList) then
 some true
 else
 some false
 else
 if (a.toList==c53.toList) then
 if (a.toList==c53.toList) then
 some true
 else
 some false
 else
 if (a.toList==c1a.toList) then
 if (a.toList==c1a.toList) then
 some true
 else
 some false
 else
 if (a.toList==c4c.toList) then
 if (a.toList==c4c.toList) then
 some true
 else
 some false
 else
 if (a.toList==c10.toList) then
 if (a.toList==c10.toList) then
 some true
 else
 some false
 else
 if (a.toList==d0k.toList) then
 if (a.toList==d0k.toList) then
 some true
 else
 some false
 else
 if (a.toList==c1q.toList) then
 if (a.toList==c1q.toList) then
 some true
 else
 some false
 else
 if (a.toList==d07.toList) then
 if (a.toList==d07.toList) then
 some true
 else
 some false
 else
 if (a.toList==c1c.toList) then
 if (a.toList==c1c.toList) then
 some true
 else
 some false
 else
 if (a.toList==c98.toList) then
 if (a.toList==c98.toList) then
 some true
 else
 some false
 else
 if (a.toList==c8l.toList) then
 if (a.toList==c8l.toList) then
 some true
 else
 some false
 else
 if (a.toList==c92.toList) then
 if (a.toList==c92.toList) then
 some true
 else
 some false
 else
 if (a.toList==d8p.toList) then
 if (a.toList==d8p.toList) then
 some true
 else
 some false
 else
 if (a.toList==c60.toList) then
 if (a.toList==c60.toList) then
 some true
 else
 some false
 else
 if (a.toList==b94.toList) then
 if (a.toList==b94.toList) then
 some true
 else
 some false
 else
 if (a.toList==c14.toList) then
 if (a.toList==c14.toList) then
 some true
 else
 some false
 else
 if (a.toList==b76.toList) then
 if (a.toList==b76.toList) then
 some true
 else
 some false
 else
 if (a.toList==d3p.toList) then
 some true
 else
 some false
def b0e (a:A4):A3 Bool:=
 (b7f a).bind fun b=>
 (if b then (b49 a).bind fun c=>
 some (!c) else some false).bind fun d=>
 some d
def m7 (a:Int):A3 Bool:=
 (if (decide (a >= 0)) then some (decide (a <= 73048)) else some false).bind fun b=>
 some b
def c0l:A3 (O syntax_entry):=
 some [(⟨d4s,1⟩:syntax_entry),(⟨f1e,2⟩:syntax_entry),(⟨d3b,3⟩:syntax_entry),(⟨d3z,4⟩:syntax_entry)]
def b3q (a:syntax_entry)(b:Int):A3 Bool:=
 some (a.number==b)
def a3y (c:O syntax_entry)(a:Int)(d:Int -> A3 Int)(b:Int):A3 Int:=
 if (decide (b<(c.length:Int))) then
 (c7 c b).bind fun f=>
 (b3q f a).bind fun e=>
 if e then
 some b
 else
 d (i64 (b+1))
 else
 some (-1:Int)
def a0b (b:O syntax_entry)(a:Int):A3 Int:=
 d9 FU (a3y b a) 0
def a4u (a:O syntax_entry)(d:Int):A3 A4:=
 (a0b a d).bind fun b=>
 if (decide (b<0)) then
 some a3j
 else
 (c7 a b).bind fun c=>
 some c.name
def c1i:A3 (O syntax_entry):=
 some [(⟨b0b,6⟩:syntax_entry),(⟨b3z,9⟩:syntax_entry),(⟨b87,7⟩:syntax_entry),(⟨d54,8⟩:syntax_entry),(⟨c97,10⟩:syntax_entry),(⟨c04,5⟩:syntax_entry)]
def a9d (a:A4)(c:Int):A3 Int:=
 (a7v a c).bind fun b=>
 some b
def b61 (e:Int×Int)(b:(Int×Int×Int) -> A3 (Int×Int))(a:Int×Int×Int):A3 (Int×Int):=
 if (decide (a.2.2>0)) then
 if ((d5y .i64 a.2.2 1) != 0) then
 (d0l .i64 a.2.2 1).bind fun c=>
 b (IntKind.u32.wrap (a.1*a.2.1),IntKind.u32.wrap (a.2.1*a.2.1),c)
 else
 (d0l .i64 a.2.2 1).bind fun d=>
 b (a.1,IntKind.u32.wrap (a.2.1*a.2.1),d)
 else
 some (e.1,a.1)
def b5w (b:A4)(c:(Int×Int) -> A3 (Int×Int))(a:Int×Int):A3 (Int×Int):=
 if (decide (a.2<(b.size:Int))) then
 (b3c b a.2).bind fun d=>
 c (IntKind.u32.wrap ((IntKind.u32.wrap (a.1*16777619))+(IntKind.u32.wrap (d))),i64 (a.2+1))
 else
 d9 FU (b61 a) (1,16777619,(b.size:Int))
def b0t (a:A4):A3 (Int×Int):=
 d9 FU (b5w a) (0,0)
def b1o (d c:A4)(g:Int×Int)(i:(Int×Int) -> A3 Int)(a:Int×Int):A3 Int:=
 if (decide (a.2<(d.size:Int))) then
 (b3c d a.2).bind fun h=>
 (b3c d (i64 (a.2-(c.size:Int)))).bind fun b=>
 (if ((IntKind.u32.wrap ((IntKind.u32.wrap ((IntKind.u32.wrap (a.1*16777619))+(IntKind.u32.wrap (h))))-(IntKind.u32.wrap (g.2*(IntKind.u32.wrap (b))))))==g.1) then (c3u d (i64 ((i64 (a.2+1))-(c.size:Int))) (i64 (a.2+1))).bind fun e=>
 some (e.toList==c.toList) else some false).bind fun f=>
 if f then
 some (i64 ((i64 (a.2+1))-(c.size:Int)))
 else
 i (IntKind.u32.wrap ((IntKind.u32.wrap ((IntKind.u32.wrap (a.1*16777619))+(IntKind.u32.wrap (h))))-(IntKind.u32.wrap (g.2*(IntKind.u32.wrap (b))))),i64 (a.2+1))
 else
 some (-1:Int)
def b1f (b c:A4)(d:Int×Int)(e:(Int×Int) -> A3 Int)(a:Int×Int):A3 Int:=
 if (decide (a.2<(b.size:Int))) then
 (b3c c a.2).bind fun h=>
 e (IntKind.u32.wrap ((IntKind.u32.wrap (a.1*16777619))+(IntKind.u32.wrap (h))),i64 (a.2+1))
 else
 (if (a.1==d.1) then (c3u c 0 (b.size:Int)).bind fun g=>
 some (g.toList==b.toList) else some false).bind fun f=>
 if f then
 some 0
 else
 d9 FU (b1o c b d) (a.1,(b.size:Int))
def b36 (b a:A4):A3 Int:=
 (b0t a).bind fun c=>
 d9 FU (b1f a b c) (0,0)
def a6y (b a:A4):A3 Int:=
 (if ((a.size:Int)==0) then some true else some (a.toList==b.toList)).bind fun e=>
 if e then
 some 0
 else
 if ((a.size:Int)==1) then
 (b3c a 0).bind fun c=>
 (a9d b c).bind fun d=>
 some d
 else
 if (decide ((a.size:Int) >= (b.size:Int))) then
 some (-1:Int)
 else
 none
def b72 (a c:A4):A3 (A4×A4×Bool):=
 (a6y a c).bind fun b=>
 if (decide (b >= 0)) then
 (c3u a 0 b).bind fun d=>
 (c3u a (i64 (b+(c.size:Int))) (a.size:Int)).bind fun e=>
 some (d,e,true)
 else
 some (a,a3j,false)
def b9e (b c:A4):A3 (A4×A4×Bool):=
 (b72 b c).bind fun a=>
 some (a.1,a.2.1,a.2.2)
def c0d (b:A4)(d:(Int×Int) -> A3 (Int×Bool))(a:Int×Int):A3 (Int×Bool):=
 if (decide (a.2<(b.size:Int))) then
 (b3c b a.2).bind fun f=>
 (b74 f).bind fun e=>
 if (!e) then
 some (0,false)
 else
 (b3c b a.2).bind fun c=>
 d (i64 ((i64 (10*a.1))+(i64 (IntKind.u8.wrap (c-48)))),i64 (a.2+1))
 else
 some (a.1,true)
def b2i (a:A4):A3 (Int×Bool):=
 d9 FU (c0d a) (0,0)
def b5e (b:Int)(f:(fQ×Int) -> A3 (fQ×Int×Bool))(h:fQ×Int)(e:fQ -> A3 (fQ×Int×Bool))(a:fQ):A3 (fQ×Int×Bool):=
 (b8t a.Num b).bind fun d=>
 (if (d==0) then (b8t a.Den b).bind fun c=>
 some (c==0) else some false).bind fun j=>
 if j then
 (c2t a.Num b).bind fun i=>
 (c2t a.Den b).bind fun g=>
 e (⟨i,g⟩:fQ)
 else
 f (a,i64 (h.2+1))
def c09 (b:fQ×Int×Int×Int)(c:(fQ×Int) -> A3 (fQ×Int×Bool))(a:fQ×Int):A3 (fQ×Int×Bool):=
 if (decide (a.2<2)) then
 (c7 (⟨[2,5],rfl⟩:Ar 2 Int).l a.2).bind fun d=>
 d9 FU (b5e d c a) a.1
 else
 some (a.1,b.2.1,true)
def b5d (a:fQ×Int×Int×Int):A3 (fQ×Int×Bool):=
 d9 FU (c09 a) ((⟨i64 (a.2.2.1+a.2.2.2),a.1.Den⟩:fQ),0)
def c0b (f:A4×fQ×Int)(b:Int×Bool)(d:(fQ×Int×(A4×Int)) -> A3 (fQ×Int×Bool))(a:fQ×Int×(A4×Int)):A3 (fQ×Int×Bool):=
 optC (e6l a.2.2.1 a.2.2.2) (joinC b5d (a.1,f.2.2,a.2.1,b.1)) fun c=>
 (c).bind fun e=>
 d ((⟨a.1.Num,i64 (10*a.1.Den)⟩:fQ),i64 (10*a.2.1),(a.2.2.1,a.2.2.2+1))
def a5s (h:A4×fQ×Int):A3 (fQ×Int×Bool):=
 (b9e h.1 b1i).bind fun a=>
 (if (decide ((a.1.size:Int)<1)) then some true else some (decide ((a.1.size:Int)>9))).bind fun j=>
 (if j then some true else (if (decide ((a.1.size:Int)>1)) then (b3c a.1 0).bind fun l=>
 some (l==48) else some false).bind fun i=>
 some i).bind fun k=>
 (if k then some true else (if a.2.2 then (if (decide ((a.2.1.size:Int)<1)) then some true else some (decide ((a.2.1.size:Int)>4))).bind fun f=>
 some f else some false).bind fun e=>
 some e).bind fun g=>
 if g then
 some ((⟨0,0⟩:fQ),0,false)
 else
 (b2i a.1).bind fun c=>
 (b2i a.2.1).bind fun b=>
 (if (!c.2) then some true else some (!b.2)).bind fun d=>
 if d then
 some ((⟨0,0⟩:fQ),0,false)
 else
 d9 FU (c0b h b) ((⟨h.2.1.Num,1⟩:fQ),c.1,(a.2.1,0))
def b69 (a:A4):A3 (fQ×Int×Bool):=
 (if (decide ((a.size:Int)>0)) then (b3c a (i64 ((a.size:Int)-1))).bind fun e=>
 some (e==100) else some false).bind fun f=>
 if f then
 (c3u a 0 (i64 ((a.size:Int)-1))).bind fun g=>
 joinC a5s (g,(⟨0,0⟩:fQ),3)
 else
 (if (decide ((a.size:Int)>0)) then (b3c a (i64 ((a.size:Int)-1))).bind fun d=>
 some (d==109) else some false).bind fun b=>
 if b then
 (c3u a 0 (i64 ((a.size:Int)-1))).bind fun c=>
 joinC a5s (c,(⟨0,0⟩:fQ),4)
 else
 joinC a5s (a,(⟨0,0⟩:fQ),2)
def a5e (f:(fQ×A4×Int×Int) -> A3 (A4×Bool))(a:Int×fQ×A4×Int×Int):A3 (A4×Bool):=
 if (a.2.2.2.2==4) then
 some (a3j,false)
 else
 (c2t (i64 (a.2.2.2.1*10)) a.2.1.Den).bind fun c=>
 (strconv_Itoa c).bind fun d=>
 (a7f a.2.2.1 d).bind fun e=>
 (b8t (i64 (a.2.2.2.1*10)) a.2.1.Den).bind fun b=>
 f (a.2.1,e,b,i64 (a.2.2.2.2+1))
def a2u (a:Int×fQ×A4):A3 (A4×Bool):=
 (b69 a.2.2).bind fun b=>
 (if (!b.2.2) then some true else some (!((b.1.Num==a.2.1.Num)&&((b.1.Den==a.2.1.Den)&&(true))))).bind fun c=>
 (if c then some true else some (b.2.1 != a.1)).bind fun d=>
 if d then
 some (a3j,false)
 else
 some (a.2.2,true)
def b3h (b:Int)(e:(fQ×A4×Int×Int) -> A3 (A4×Bool))(a:fQ×A4×Int×Int):A3 (A4×Bool):=
 if (decide (a.2.2.1>0)) then
 if (a.2.2.2==0) then
 (a7f a.2.1 b1i).bind fun f=>
 joinC (a5e e) (b,a.1,f,a.2.2.1,a.2.2.2)
 else
 joinC (a5e e) (b,a.1,a.2.1,a.2.2.1,a.2.2.2)
 else
 if (b==3) then
 (a7f a.2.1 e4t).bind fun c=>
 joinC a2u (b,a.1,c)
 else
 if (b==4) then
 (a7f a.2.1 e6u).bind fun d=>
 joinC a2u (b,a.1,d)
 else
 joinC a2u (b,a.1,a.2.1)
def a4y (a:fQ)(c:Int):A3 (A4×Bool):=
 (if (decide (a.Den<1)) then some true else some (decide (a.Den>10000))).bind fun h=>
 (if h then some true else some (decide (a.Num<0))).bind fun b=>
 (if b then some true else some (decide (a.Num>1000000000000000))).bind fun g=>
 if g then
 some (a3j,false)
 else
 (c2t a.Num a.Den).bind fun f=>
 (strconv_Itoa f).bind fun e=>
 (b8t a.Num a.Den).bind fun d=>
 d9 FU (b3h c) (a,e,d,0)
def b59 (a:Int):A3 Bool:=
 (if (decide (a >= 1900)) then some (decide (a <= 2099)) else some false).bind fun b=>
 some b
def b07 (a:Index):A3 Bool:=
 (a4y a.Factor 2).bind fun e=>
 (if e.2 then some (decide (a.Factor.Num>0)) else some false).bind fun b=>
 (if b then (b59 a.Year).bind fun d=>
 some d else some false).bind fun c=>
 some c
structure Ring_syntax_Depth where
 f_syntax_Depth:Expr -> Option Int
def b6x (R:Ring_syntax_Depth)(b:Expr)(c:(Int×Int) -> A3 Int)(a:Int×Int):A3 Int:=
 if (decide (a.2<(b.Args.length:Int))) then
 (c7 b.Args a.2).bind fun e=>
 (R.f_syntax_Depth e).bind fun d=>
 c (max a.1 d,i64 (a.2+1))
 else
 some (i64 (a.1+1))
def b86 (R:Ring_syntax_Depth)(a:Expr):A3 Int:=
 d9 FU (b6x R a) (0,0)
def a0r:Nat -> Ring_syntax_Depth
 | 0=>⟨fun _=>none⟩
 | n+1=>⟨b86 (a0r n)⟩
def d57 (a:Expr):A3 Int:=(a0r FU).f_syntax_Depth a
structure Ring_syntax_Size where
 f_syntax_Size:Expr -> Option Int
def b8b (R:Ring_syntax_Size)(b:Expr)(c:(Int×Int) -> A3 Int)(a:Int×Int):A3 Int:=
 if (decide (a.2<(b.Args.length:Int))) then
 (c7 b.Args a.2).bind fun e=>
 (R.f_syntax_Size e).bind fun d=>
 c (i64 (a.1+d),i64 (a.2+1))
 else
 some a.1
def b9x (R:Ring_syntax_Size)(a:Expr):A3 Int:=
 d9 FU (b8b R a) (1,0)
def a1j:Nat -> Ring_syntax_Size
 | 0=>⟨fun _=>none⟩
 | n+1=>⟨b9x (a1j n)⟩
def e0h (a:Expr):A3 Int:=(a1j FU).f_syntax_Size a
def b84 (a:Int):A3 Int:=
 (if (a==1) then some true else some (a==2)).bind fun f=>
 (if f then some true else some (a==3)).bind fun b=>
 if b then
 some 0
 else
 (if (a==4) then some true else some (a==5)).bind fun e=>
 (if e then some true else some (a==6)).bind fun d=>
 if d then
 some 1
 else
 (if (decide (a >= 7)) then some (decide (a <= 20)) else some false).bind fun c=>
 if c then
 some 2
 else
 if (a==21) then
 some 3
 else
 some (-1:Int)
def c05 (a:Expr):A3 Bool:=
 (b84 a.Op).bind fun m=>
 if ((a.Args.length:Int) != m) then
 some false
 else
 if (a.Op==1) then
 (a4y a.Value a.Dim).bind fun e=>
 (if e.2 then some (a.Name.toList==a3j.toList) else some false).bind fun l=>
 some l
 else
 if (a.Op==2) then
 (b0e a.Name).bind fun j=>
 (if j then some ((a.Value.Num==0)&&((a.Value.Den==0)&&(true))) else some false).bind fun h=>
 (if h then some (a.Dim==0) else some false).bind fun f=>
 some f
 else
 if (a.Op==3) then
 (if (a.Value.Den==1) then some (decide (a.Value.Num >= 1)) else some false).bind fun k=>
 (if k then some (decide (a.Value.Num <= 45)) else some false).bind fun g=>
 (if g then some (a.Dim==0) else some false).bind fun i=>
 (if i then some (a.Name.toList==a3j.toList) else some false).bind fun c=>
 some c
 else
 (if ((a.Value.Num==0)&&((a.Value.Den==0)&&(true))) then some (a.Dim==0) else some false).bind fun b=>
 (if b then some (a.Name.toList==a3j.toList) else some false).bind fun d=>
 some d
structure Ring_syntax_form where
 f_syntax_form:Expr -> Option Bool
 f_syntax_form_1:Expr -> Option Bool
 f_slices_ContainsFunc_of_api_Expr:(List Expr) -> Option Bool
 f_slices_IndexFunc_of_api_Expr:(List Expr) -> Option Int
def b60 (R:Ring_syntax_form)(a:Expr):A3 Bool:=
 (c05 a).bind fun b=>
 (if b then (R.f_slices_ContainsFunc_of_api_Expr a.Args).bind fun c=>
 some (!c) else some false).bind fun d=>
 some d
def c0q (R:Ring_syntax_form)(a:Expr):A3 Bool:=
 (R.f_syntax_form a).bind fun b=>
 some (!b)
def a0y (R:Ring_syntax_form)(a:O Expr):A3 Bool:=
 (R.f_slices_IndexFunc_of_api_Expr a).bind fun b=>
 some (decide (b >= 0))
def a6i (R:Ring_syntax_form)(b:O Expr)(c:Int -> A3 Int)(a:Int):A3 Int:=
 if (decide (a<(b.length:Int))) then
 (c7 b a).bind fun e=>
 (R.f_syntax_form_1 e).bind fun d=>
 if d then
 some a
 else
 c (i64 (a+1))
 else
 some (-1:Int)
def a1m (R:Ring_syntax_form)(a:O Expr):A3 Int:=
 d9 FU (a6i R a) 0
def e6:Nat -> Ring_syntax_form
 | 0=>⟨fun _=>none,fun _=>none,fun _=>none,fun _=>none⟩
 | n+1=>⟨b60 (e6 n),c0q (e6 n),a0y (e6 n),a1m (e6 n)⟩
def d9s (a:Expr):A3 Bool:=(e6 FU).f_syntax_form a
def a1k (a:Expr):A3 Bool:=
 (d57 a).bind fun f=>
 (if (decide (f <= 10)) then (e0h a).bind fun b=>
 some (decide (b <= 60)) else some false).bind fun e=>
 (if e then (d9s a).bind fun d=>
 some d else some false).bind fun c=>
 some c
def b2d:A3 (O syntax_entry):=
 some [(⟨d9m,1⟩:syntax_entry),(⟨b8e,2⟩:syntax_entry),(⟨c0u,3⟩:syntax_entry),(⟨c66,4⟩:syntax_entry),(⟨c0r,5⟩:syntax_entry)]
def a8y (c:Version)(f:Int -> A3 Bool)(a:Int):A3 Bool:=
 if (decide (a<(c.Reduces.length:Int))) then
 (c7 c.Reduces a).bind fun b=>
 (b2d).bind fun e=>
 (a4u e b.Benefit).bind fun d=>
 (if (d.toList==a3j.toList) then some true else (a1k b.By).bind fun g=>
 some (!g)).bind fun h=>
 if h then
 some false
 else
 f (i64 (a+1))
 else
 some true
def b3e (a:Version):A3 Bool:=
 d9 FU (a8y a) 0
def a8t (c:Version)(i:(Version×Int) -> A3 Bool)(a:Version×Int):A3 Bool:=
 if (decide (a.2<(c.Grants.length:Int))) then
 (c7 c.Grants a.2).bind fun b=>
 (b2d).bind fun e=>
 (a4u e b.Benefit).bind fun j=>
 (if (j.toList==a3j.toList) then some true else (a1k b.If).bind fun h=>
 some (!h)).bind fun d=>
 (if d then some true else (a1k b.Pay).bind fun f=>
 some (!f)).bind fun g=>
 if g then
 some false
 else
 i (a.1,i64 (a.2+1))
 else
 joinC b3e a.1
def b3b (a:Version):A3 Bool:=
 d9 FU (a8t a) (a,0)
def a8w (c:Version)(g:(Version×Int) -> A3 Bool)(a:Version×Int):A3 Bool:=
 if (decide (a.2<(c.Lets.length:Int))) then
 (c7 c.Lets a.2).bind fun b=>
 (b0e b.Name).bind fun f=>
 (if (!f) then some true else (a1k b.Body).bind fun e=>
 some (!e)).bind fun d=>
 if d then
 some false
 else
 g (a.1,i64 (a.2+1))
 else
 joinC b3b a.1
def b3i (a:Version):A3 Bool:=
 d9 FU (a8w a) (a,0)
def a8v (b:Version)(d:(Version×Int) -> A3 Bool)(a:Version×Int):A3 Bool:=
 if (decide (a.2<(b.Series.length:Int))) then
 (c7 b.Series a.2).bind fun c=>
 (b07 c).bind fun e=>
 if (!e) then
 some false
 else
 d (a.1,i64 (a.2+1))
 else
 joinC b3i a.1
def b39 (a:Version):A3 Bool:=
 d9 FU (a8v a) (a,0)
def a8u (h:Version)(e:(Version×Int) -> A3 Bool)(b:Version×Int):A3 Bool:=
 if (decide (b.2<(h.Credits.length:Int))) then
 (c7 h.Credits b.2).bind fun a=>
 (c1i).bind fun f=>
 (a4u f a.Kind).bind fun g=>
 (if (g.toList==a3j.toList) then some true else some (decide (a.Limit<0))).bind fun d=>
 (if d then some true else some (decide (a.Limit>73049))).bind fun c=>
 if c then
 some false
 else
 e (b.1,i64 (b.2+1))
 else
 joinC b39 b.1
def a5f (a:Version):A3 Bool:=
 (if (decide ((a.Credits.length:Int)>6)) then some true else some (decide ((a.Series.length:Int)>20))).bind fun d=>
 (if d then some true else some (decide ((a.Lets.length:Int)>10))).bind fun c=>
 (if c then some true else some (decide ((a.Grants.length:Int)>5))).bind fun e=>
 (if e then some true else some (decide ((a.Reduces.length:Int)>5))).bind fun b=>
 if b then
 some false
 else
 d9 FU (a8u a) (a,0)
def a7q (a:Version):A3 Bool:=
 (m7 a.From).bind fun h=>
 if (!h) then
 (if true then some true else some (decide (a.Rounding.Unit<1))).bind fun f=>
 (if f then some true else some (decide (a.Rounding.Unit>100000))).bind fun g=>
 if g then
 some false
 else
 joinC a5f a
 else
 (c0l).bind fun e=>
 (a4u e a.Rounding.Mode).bind fun b=>
 (if (b.toList==a3j.toList) then some true else some (decide (a.Rounding.Unit<1))).bind fun c=>
 (if c then some true else some (decide (a.Rounding.Unit>100000))).bind fun d=>
 if d then
 some false
 else
 joinC a5f a
def b77 (b:Statute)(e:Int -> A3 Bool)(a:Int):A3 Bool:=
 if (decide (a<(b.Versions.length:Int))) then
 (c7 b.Versions a).bind fun c=>
 (a7q c).bind fun d=>
 if (!d) then
 some false
 else
 e (i64 (a+1))
 else
 some true
def b7h (a:Statute):A3 Bool:=
 (b0e a.Name).bind fun f=>
 (if (!f) then some true else some (decide (a.Currency<1))).bind fun b=>
 (if b then some true else some (decide (a.Currency>999))).bind fun e=>
 (if e then some true else some (decide ((a.Versions.length:Int)<1))).bind fun d=>
 (if d then some true else some (decide ((a.Versions.length:Int)>6))).bind fun c=>
 if c then
 some false
 else
 d9 FU (b77 a) 0
def a21 (a:A4×Bool):A3 (Int×Bool):=
 if a.2 then
 some (3,true)
 else
 if (a.1.toList==e39.toList) then
 some (4,true)
 else
 some (0,false)
def a9q (a:A4×Bool):A3 (Int×Bool):=
 if a.2 then
 some (2,true)
 else
 if (a.1.toList==b6u.toList) then
 joinC a21 (a.1,a.1.toList==b6u.toList)
 else
 if (a.1.toList==c5w.toList) then
 joinC a21 (a.1,a.1.toList==c5w.toList)
 else
 if (a.1.toList==b0b.toList) then
 joinC a21 (a.1,a.1.toList==b0b.toList)
 else
 if (a.1.toList==b3z.toList) then
 joinC a21 (a.1,a.1.toList==b3z.toList)
 else
 if (a.1.toList==c3c.toList) then
 joinC a21 (a.1,a.1.toList==c3c.toList)
 else
 if (a.1.toList==c3j.toList) then
 joinC a21 (a.1,a.1.toList==c3j.toList)
 else
 joinC a21 (a.1,a.1.toList==c6v.toList)
def b4n (a:A4):A3 (Int×Bool):=
 if (a.toList==e0r.toList) then
 joinC a9q (a,a.toList==e0r.toList)
 else
 if (a.toList==d3o.toList) then
 joinC a9q (a,a.toList==d3o.toList)
 else
 joinC a9q (a,a.toList==c6q.toList)
def b9o (a:A4):A3 Bool:=
 (a1k (⟨2,(⟨0,0⟩:fQ),0,a,[]⟩:Expr)).bind fun b=>
 some b
def b9r (a:iQ)(b:Let):A3 Bool:=
 some (a.Name.toList==b.Name.toList)
def b42 (a:iQ):A3 Bool:=
 (if (decide (a.Dim<1)) then some true else some (decide (a.Dim>4))).bind fun b=>
 some b
def c07 (c:O iQ)(d:((A4×Int×Bool)×Int) -> A3 (Int×Bool))(a:(A4×Int×Bool)×Int):A3 (Int×Bool):=
 if decide (a.2<0) then
 some (0,false)
 else
 (c7 c a.2).bind fun b=>
 if (b.Name.toList==a.1.1.toList) then
 some ((a.1.1,b.Dim,true).2.1,(a.1.1,b.Dim,true).2.2)
 else
 d ((a.1.1,a.1.2.1,a.1.2.2),a.2-1)
def b6c (a:A4)(c:O iQ):A3 (Int×Bool):=
 (b4n a).bind fun b=>
 if b.2 then
 some (b.1,true)
 else
 d9 FU (c07 c) ((a,0,false),(c.length:Int)-1)
def b19 (a:(O Int)×Int×Bool):A3 (Int×Bool):=
 if a.2.2 then
 (c7 a.1 0).bind fun g=>
 (if (g==1) then (c7 a.1 1).bind fun c=>
 some (c==1) else some false).bind fun h=>
 some (1,h)
 else
 if (a.2.1==21) then
 (c7 a.1 1).bind fun f=>
 (c7 a.1 0).bind fun b=>
 (if (b==1) then (c7 a.1 1).bind fun d=>
 (c7 a.1 2).bind fun e=>
 some (d==e) else some false).bind fun i=>
 some (f,i)
 else
 some (0,false)
def a2l (a:(O Int)×Int×Bool):A3 (Int×Bool):=
 if a.2.2 then
 (c7 a.1 0).bind fun c=>
 (c7 a.1 1).bind fun b=>
 (if (c==b) then (c7 a.1 0).bind fun e=>
 some (e != 1) else some false).bind fun d=>
 some (1,d)
 else
 if (a.2.1==17) then
 joinC b19 (a.1,a.2.1,a.2.1==17)
 else
 joinC b19 (a.1,a.2.1,a.2.1==18)
def a5q (a:(O Int)×Int×Bool):A3 (Int×Bool):=
 if a.2.2 then
 (c7 a.1 0).bind fun q=>
 (c7 a.1 0).bind fun t=>
 (c7 a.1 1).bind fun s=>
 (if (t==s) then (c7 a.1 0).bind fun r=>
 some (r != 1) else some false).bind fun g=>
 some (q,g)
 else
 if (a.2.1==9) then
 (c7 a.1 0).bind fun c=>
 if (c==2) then
 (c7 a.1 1).bind fun k=>
 (c7 a.1 1).bind fun n=>
 some (k,n != 1)
 else
 (c7 a.1 0).bind fun b=>
 (c7 a.1 1).bind fun f=>
 (if (f==2) then (c7 a.1 0).bind fun e=>
 some (e != 1) else some false).bind fun h=>
 some (b,h)
 else
 if (a.2.1==10) then
 (c7 a.1 1).bind fun i=>
 if (i==2) then
 (c7 a.1 0).bind fun j=>
 (c7 a.1 0).bind fun o=>
 some (j,o != 1)
 else
 (c7 a.1 0).bind fun p=>
 (c7 a.1 1).bind fun l=>
 (if (p==l) then (c7 a.1 0).bind fun d=>
 some (d != 1) else some false).bind fun m=>
 some (2,m)
 else
 if (a.2.1==11) then
 joinC a2l (a.1,a.2.1,a.2.1==11)
 else
 if (a.2.1==12) then
 joinC a2l (a.1,a.2.1,a.2.1==12)
 else
 if (a.2.1==13) then
 joinC a2l (a.1,a.2.1,a.2.1==13)
 else
 if (a.2.1==14) then
 joinC a2l (a.1,a.2.1,a.2.1==14)
 else
 if (a.2.1==15) then
 joinC a2l (a.1,a.2.1,a.2.1==15)
 else
 joinC a2l (a.1,a.2.1,a.2.1==16)
def b0y (a:(O Int)×Int×Bool):A3 (Int×Bool):=
 if a.2.2 then
 (c7 a.1 0).bind fun d=>
 (c7 a.1 0).bind fun b=>
 some (d,b != 1)
 else
 if (a.2.1==5) then
 (c7 a.1 0).bind fun c=>
 some (1,c==1)
 else
 if (a.2.1==7) then
 joinC a5q (a.1,a.2.1,a.2.1==7)
 else
 if (a.2.1==8) then
 joinC a5q (a.1,a.2.1,a.2.1==8)
 else
 if (a.2.1==19) then
 joinC a5q (a.1,a.2.1,a.2.1==19)
 else
 joinC a5q (a.1,a.2.1,a.2.1==20)
def b9i (a:Int)(b:O Int):A3 (Int×Bool):=
 if (a==4) then
 joinC b0y (b,a,a==4)
 else
 joinC b0y (b,a,a==6)
structure Ring_typing_infer where
 f_typing_infer:Expr -> (List iQ) -> Option (Int×Int)
def i4w (R:Ring_typing_infer)(d:Expr)(f:O iQ)(e:(Expr×(O Int)×Int) -> A3 (Int×Int))(a:Expr×(O Int)×Int):A3 (Int×Int):=
 if (decide (a.2.2<(d.Args.length:Int))) then
 (c7 d.Args a.2.2).bind fun h=>
 (R.f_typing_infer h f).bind fun b=>
 if (b.2 != 0) then
 some (0,b.2)
 else
 (a4n 8 a.2.1 [b.1]).bind fun g=>
 e (a.1,g,i64 (a.2.2+1))
 else
 (b9i a.1.Op a.2.1).bind fun c=>
 if (!c.2) then
 some (0,6)
 else
 some (c.1,0)
def b4g (R:Ring_typing_infer)(a:Expr)(c:O iQ):A3 (Int×Int):=
 if (a.Op==1) then
 some (a.Dim,0)
 else
 if (a.Op==3) then
 some (4,0)
 else
 if (a.Op==2) then
 (b6c a.Name c).bind fun b=>
 if (!b.2) then
 some (0,5)
 else
 some (b.1,0)
 else
 d9 FU (i4w R a c) (a,[],0)
def a0v:Nat -> Ring_typing_infer
 | 0=>⟨fun _ _=>none⟩
 | n+1=>⟨b4g (a0v n)⟩
def d5q (a:Expr)(b:O iQ):A3 (Int×Int):=(a0v FU).f_typing_infer a b
def a50 (b:O iQ)(c:Int -> A3 Int)(a:Int):A3 Int:=
 if (decide (a<(b.length:Int))) then
 (c7 b a).bind fun e=>
 (b42 e).bind fun d=>
 if d then
 some a
 else
 c (i64 (a+1))
 else
 some (-1:Int)
def a19 (a:O iQ):A3 Int:=
 d9 FU (a50 a) 0
def a0i (a:O iQ):A3 Bool:=
 (a19 a).bind fun b=>
 some (decide (b >= 0))
def b4y (c:Expr)(a:O iQ):A3 (Int×Int):=
 (a1k c).bind fun f=>
 (if (!f) then some true else (a0i a).bind fun d=>
 some d).bind fun e=>
 if e then
 some (0,1)
 else
 (d5q c a).bind fun b=>
 some (b.1,b.2)
def a5l (c:O iQ)(a:Let)(d:Int -> A3 Int)(b:Int):A3 Int:=
 if (decide (b<(c.length:Int))) then
 (c7 c b).bind fun f=>
 (b9r f a).bind fun e=>
 if e then
 some b
 else
 d (i64 (b+1))
 else
 some (-1:Int)
def a1e (b:O iQ)(a:Let):A3 Int:=
 d9 FU (a5l b a) 0
def a0q (b:O iQ)(a:Let):A3 Bool:=
 (a1e b a).bind fun c=>
 some (decide (c >= 0))
def i4k (d:O Let)(g:((O iQ)×Int) -> A3 ((O iQ)×Int))(a:(O iQ)×Int):A3 ((O iQ)×Int):=
 if (decide (a.2<(d.length:Int))) then
 (c7 d a.2).bind fun b=>
 (b4n b.Name).bind fun i=>
 (if i.2 then some true else (b9o b.Name).bind fun f=>
 some (!f)).bind fun e=>
 if e then
 some ([],5)
 else
 (a0q a.1 b).bind fun j=>
 if j then
 some ([],10)
 else
 (b4y b.Body a.1).bind fun c=>
 if (c.2 != 0) then
 some ([],c.2)
 else
 (a4n 24 a.1 [(⟨b.Name,c.1⟩:iQ)]).bind fun h=>
 g (h,i64 (a.2+1))
 else
 some (a.1,0)
def b9n (a:O Let):A3 ((O iQ)×Int):=
 if (decide ((a.length:Int)>10)) then
 some ([],7)
 else
 d9 FU (i4k a) ([],0)
def b5a (a b:Credit):A3 Bool:=
 some (a.Kind==b.Kind)
def b57 (a b:Grant):A3 Bool:=
 some (a.Benefit==b.Benefit)
def b8w (b:Expr)(c:O iQ)(d:Int):A3 Int:=
 (b4y b c).bind fun a=>
 if (a.2 != 0) then
 some a.2
 else
 if (a.1 != d) then
 some 6
 else
 some 0
def b5b (a b:Reduce):A3 Bool:=
 some (a.Benefit==b.Benefit)
def a4i (c:O Credit)(a:Credit)(d:Int -> A3 Int)(b:Int):A3 Int:=
 if (decide (b<(c.length:Int))) then
 (c7 c b).bind fun f=>
 (b5a f a).bind fun e=>
 if e then
 some b
 else
 d (i64 (b+1))
 else
 some (-1:Int)
def a13 (b:O Credit)(a:Credit):A3 Int:=
 d9 FU (a4i b a) 0
def a0e (b:O Credit)(a:Credit):A3 Bool:=
 (a13 b a).bind fun c=>
 some (decide (c >= 0))
def a4s (c:O Grant)(a:Grant)(d:Int -> A3 Int)(b:Int):A3 Int:=
 if (decide (b<(c.length:Int))) then
 (c7 c b).bind fun f=>
 (b57 f a).bind fun e=>
 if e then
 some b
 else
 d (i64 (b+1))
 else
 some (-1:Int)
def a15 (b:O Grant)(a:Grant):A3 Int:=
 d9 FU (a4s b a) 0
def a0h (b:O Grant)(a:Grant):A3 Bool:=
 (a15 b a).bind fun c=>
 some (decide (c >= 0))
def a4k (c:O Reduce)(a:Reduce)(d:Int -> A3 Int)(b:Int):A3 Int:=
 if (decide (b<(c.length:Int))) then
 (c7 c b).bind fun f=>
 (b5b f a).bind fun e=>
 if e then
 some b
 else
 d (i64 (b+1))
 else
 some (-1:Int)
def a0x (b:O Reduce)(a:Reduce):A3 Int:=
 d9 FU (a4k b a) 0
def a0d (b:O Reduce)(a:Reduce):A3 Bool:=
 (a0x b a).bind fun c=>
 some (decide (c >= 0))
def i4s (c:Version×(O iQ)×Int)(e:(Version×(O iQ)×Int) -> A3 Int)(a:Version×(O iQ)×Int):A3 Int:=
 if (decide (a.2.2<(c.1.Reduces.length:Int))) then
 (c7 c.1.Reduces a.2.2).bind fun d=>
 (a1x a.1.Reduces 0 a.2.2).bind fun g=>
 (a0d g d).bind fun f=>
 if f then
 some 10
 else
 (b8w d.By a.2.1 2).bind fun b=>
 if (b != 0) then
 some b
 else
 e (a.1,a.2.1,i64 (a.2.2+1))
 else
 some 0
def i4o (h:Version×(O iQ)×Int)(f:(Version×(O iQ)×Int) -> A3 Int)(a:Version×(O iQ)×Int):A3 Int:=
 if (decide (a.2.2<(h.1.Grants.length:Int))) then
 (c7 h.1.Grants a.2.2).bind fun b=>
 (a1x a.1.Grants 0 a.2.2).bind fun e=>
 (a0h e b).bind fun g=>
 if g then
 some 10
 else
 (b8w b.If a.2.1 1).bind fun d=>
 if (d != 0) then
 some d
 else
 (b8w b.Pay a.2.1 4).bind fun c=>
 if (c != 0) then
 some c
 else
 f (a.1,a.2.1,i64 (a.2.2+1))
 else
 d9 FU (i4s a) (a.1,a.2.1,0)
def i4r (d:Version×(O iQ)×Int)(e:(Version×(O iQ)×Int) -> A3 Int)(a:Version×(O iQ)×Int):A3 Int:=
 if (decide (a.2.2<(d.1.Series.length:Int))) then
 (c7 d.1.Series a.2.2).bind fun f=>
 (if (decide (a.2.2>0)) then (c7 a.1.Series (i64 (a.2.2-1))).bind fun c=>
 some (decide (f.Year <= c.Year)) else some false).bind fun b=>
 if b then
 some 1
 else
 e (a.1,a.2.1,i64 (a.2.2+1))
 else
 d9 FU (i4o a) (a.1,a.2.1,0)
def i4p (b:Version)(c:(Version×(O iQ)×Int) -> A3 Int)(a:Version×(O iQ)×Int):A3 Int:=
 if (decide (a.2.2<(b.Credits.length:Int))) then
 (c7 b.Credits a.2.2).bind fun f=>
 (a1x a.1.Credits 0 a.2.2).bind fun e=>
 (a0e e f).bind fun d=>
 if d then
 some 10
 else
 c (a.1,a.2.1,i64 (a.2.2+1))
 else
 d9 FU (i4r a) (a.1,a.2.1,0)
def b0q (a:Version):A3 Int:=
 (b9n a.Lets).bind fun b=>
 if (b.2 != 0) then
 some b.2
 else
 d9 FU (i4p a) (a,b.1,0)
def i50 (d:Statute)(e:(Statute×Int) -> A3 (Int×Int))(a:Statute×Int):A3 (Int×Int):=
 if (decide (a.2<(d.Versions.length:Int))) then
 (c7 d.Versions a.2).bind fun b=>
 (if (decide (a.2>0)) then (c7 a.1.Versions (i64 (a.2-1))).bind fun g=>
 some (decide (b.From <= g.From)) else some false).bind fun f=>
 if f then
 some (a.2,1)
 else
 (b0q b).bind fun c=>
 if (c != 0) then
 some (a.2,c)
 else
 e (a.1,i64 (a.2+1))
 else
 some (0,0)
def b4b (a:Statute):A3 (Int×Int):=
 (b7h a).bind fun b=>
 if (!b) then
 some (0,1)
 else
 d9 FU (i50 a) (a,0)
def a7u (a c:Int):A3 Bool:=
 (if (decide (a >= 0)) then some (decide (a <= c)) else some false).bind fun b=>
 some b
def b2n (g:Rules)(h:(Rules×Int) -> A3 Bool)(a:Rules×Int):A3 Bool:=
 if (decide (a.2<(g.Members.length:Int))) then
 (c7 g.Members a.2).bind fun b=>
 (a7u b 5).bind fun d=>
 (if (!d) then some true else (if (decide (a.2>0)) then (c7 a.1.Members (i64 (a.2-1))).bind fun e=>
 some (decide (b <= e)) else some false).bind fun f=>
 some f).bind fun c=>
 if c then
 some false
 else
 h (a.1,i64 (a.2+1))
 else
 some true
def a5x (a:Rules):A3 Bool:=
 (m7 a.From).bind fun h=>
 (if (!h) then some true else (a7u a.MinDays 73049).bind fun b=>
 some (!b)).bind fun g=>
 (if g then some true else (a7u a.PostingLimit 73049).bind fun e=>
 some (!e)).bind fun d=>
 (if d then some true else (a7u a.Substantial 100).bind fun c=>
 some (!c)).bind fun f=>
 if f then
 some false
 else
 d9 FU (b2n a) (a,0)
def b27 (b:O Rules)(d:Int -> A3 Int)(a:Int):A3 Int:=
 if (decide (a<(b.length:Int))) then
 (c7 b a).bind fun c=>
 (a5x c).bind fun f=>
 (if (!f) then some true else (if (decide (a>0)) then (c7 b (i64 (a-1))).bind fun h=>
 some (decide (c.From <= h.From)) else some false).bind fun e=>
 some e).bind fun g=>
 if g then
 some 1
 else
 d (i64 (a+1))
 else
 some 0
def a9n (a:O Rules):A3 Int:=
 if (decide ((a.length:Int)>8)) then
 some 7
 else
 (if ((a.length:Int)==0) then some true else (c7 a 0).bind fun b=>
 some (b.From != 0)).bind fun c=>
 if c then
 some 1
 else
 d9 FU (b27 a) 0
def a8n (a:Int):A3 Bool:=
 (if (decide (a >= 1)) then some (decide (a <= 999)) else some false).bind fun b=>
 some b
def b1k (a:Int):A3 Bool:=
 (if (decide (a >= 0)) then some (decide (a <= 2399)) else some false).bind fun b=>
 some b
def a7l (a:Int):A3 Bool:=
 (b8t a 4).bind fun f=>
 (if (f==0) then (b8t a 100).bind fun b=>
 some (b != 0) else some false).bind fun e=>
 (if e then some true else (b8t a 400).bind fun d=>
 some (d==0)).bind fun c=>
 some c
def a05 (d a:Int):A3 Int:=
 (if (a==2) then (a7l d).bind fun e=>
 some e else some false).bind fun b=>
 if b then
 some 29
 else
 (c7 (⟨[31,28,31,30,31,30,31,31,30,31,30,31],rfl⟩:Ar 12 Int).l (i64 (a-1))).bind fun f=>
 (c7 (⟨[31,28,31,30,31,30,31,31,30,31,30,31],rfl⟩:Ar 12 Int).l (i64 (a-1))).bind fun c=>
 some c
def a90 (a:Int):A3 Int:=
 (b1k a).bind fun e=>
 if (!e) then
 some 0
 else
 (c2t a 12).bind fun b=>
 (b8t a 12).bind fun d=>
 (a05 (i64 (1900+b)) (i64 (d+1))).bind fun c=>
 some c
def b9g (a:Int):A3 Bool:=
 (a90 a).bind fun b=>
 some (decide (b>0))
def j5 (a:Int):A3 Int:=
 if (decide (a<0)) then
 some (u64 (-(u64 (a))))
 else
 some (u64 (a))
def a7g (f d:Int):A3 Int:=
 lpC (f,d) fun c ⟨b,a⟩=>
 if (a != 0) then
 (b8t b a).bind fun e=>
 c (a,e)
 else
 some b
def o7 (a:fQ):A3 Bool:=
 (if (decide (a.Den >= 1)) then some (decide (a.Den <= 1000000000)) else some false).bind fun h=>
 (if h then some (decide (a.Num >= (-1000000000000000:Int))) else some false).bind fun b=>
 (if b then some (decide (a.Num <= 1000000000000000)) else some false).bind fun g=>
 (if g then (j5 a.Num).bind fun e=>
 (j5 a.Den).bind fun d=>
 (a7g e d).bind fun c=>
 some (c==1) else some false).bind fun f=>
 some f
def b9l (a:Int):A3 Bool:=
 (if (decide (a >= 1)) then some (decide (a <= 1000000)) else some false).bind fun b=>
 some b
def a5r (c:O Rate):A3 Int:=
 if (decide ((c.length:Int)>40)) then
 some 7
 else
 lpC (0:Int) fun p b=>
 if (decide (b<(c.length:Int))) then
 (c7 c b).bind fun a=>
 (a8n a.Currency).bind fun s=>
 (if (!s) then some true else (b9g a.Month).bind fun r=>
 some (!r)).bind fun m=>
 (if m then some true else (o7 a.Value).bind fun q=>
 some (!q)).bind fun o=>
 (if o then some true else (b9l a.Value.Num).bind fun n=>
 some (!n)).bind fun h=>
 (if h then some true else (b9l a.Value.Den).bind fun e=>
 some (!e)).bind fun j=>
 if j then
 some 1
 else
 (if (decide (b>0)) then (c7 c (i64 (b-1))).bind fun k=>
 (if (decide (k.Currency>a.Currency)) then some true else (c7 c (i64 (b-1))).bind fun d=>
 (if (d.Currency==a.Currency) then (c7 c (i64 (b-1))).bind fun g=>
 some (decide (g.Month >= a.Month)) else some false).bind fun f=>
 some f).bind fun i=>
 some i else some false).bind fun l=>
 if l then
 some 1
 else
 p (i64 (b+1))
 else
 some 0
def c02 (k:Laws):A3 Int:=
 lpC (k,(0:Int)) fun l ⟨e,b⟩=>
 if (decide (b<(k.States.length:Int))) then
 (c7 k.States b).bind fun j=>
 (if (decide (j.State<0)) then some true else some (decide (j.State >= 6))).bind fun o=>
 (if o then some true else (if (decide (b>0)) then (c7 e.States (i64 (b-1))).bind fun m=>
 some (decide (j.State <= m.State)) else some false).bind fun p=>
 some p).bind fun n=>
 if n then
 some 1
 else
 l (e,i64 (b+1))
 else
 lpC (e,(0:Int)) fun g ⟨h,a⟩=>
 if (decide (a<(e.States.length:Int))) then
 (c7 e.States a).bind fun i=>
 (b4b i.Statute).bind fun d=>
 if (d.2 != 0) then
 some d.2
 else
 g (h,i64 (a+1))
 else
 (a9n h.Treaty).bind fun c=>
 if (c != 0) then
 some c
 else
 (a5r h.Rates).bind fun f=>
 some f
def b81 (e:O Rules)(d:((Int×Rules×Bool)×Int) -> A3 (Rules×Bool))(b:(Int×Rules×Bool)×Int):A3 (Rules×Bool):=
 if decide (b.2<0) then
 some ((⟨0,0,0,0,[]⟩:Rules),false)
 else
 (c7 e b.2).bind fun a=>
 if (decide (a.From <= b.1.1)) then
 (a7z a.Members).bind fun c=>
 some ((b.1.1,(⟨a.From,a.MinDays,a.PostingLimit,a.Substantial,c⟩:Rules),true).2.1,(b.1.1,(⟨a.From,a.MinDays,a.PostingLimit,a.Substantial,c⟩:Rules),true).2.2)
 else
 d ((b.1.1,b.1.2.1,b.1.2.2),b.2-1)
def b2q (a:O Rules)(b:Int):A3 (Rules×Bool):=
 (m7 b).bind fun c=>
 if (!c) then
 some ((⟨0,0,0,0,[]⟩:Rules),false)
 else
 d9 FU (b81 a) ((b,(⟨0,0,0,0,[]⟩:Rules),false),(a.length:Int)-1)
def b8v (a:Laws)(d:Int):A3 (bQ×Int):=
 (c02 a).bind fun b=>
 if (b != 0) then
 some ((⟨(⟨[],[],[]⟩:Laws),0,(⟨0,0,0,0,[]⟩:Rules)⟩:bQ),b)
 else
 (b2q a.Treaty d).bind fun c=>
 if (!c.2) then
 some ((⟨(⟨[],[],[]⟩:Laws),0,(⟨0,0,0,0,[]⟩:Rules)⟩:bQ),1)
 else
 some ((⟨a,d,c.1⟩:bQ),0)
def a7y (d:bQ)(f:Int):A3 (Statute×Bool):=
 lpC (([]:O Version),(⟨a3j,0,[]⟩:Statute),(0:Int)) fun e ⟨g,b,a⟩=>
 if (decide (a<(d.laws.States.length:Int))) then
 (c7 d.laws.States a).bind fun c=>
 if (c.State==f) then
 some (c.Statute,true)
 else
 e (g,(⟨b.Name,b.Currency,[]⟩:Statute),i64 (a+1))
 else
 some ((⟨a3j,0,[]⟩:Statute),false)
structure Ring_statute_cloneExpr where
 f_statute_cloneExpr:Expr -> Option Expr
def a7s (R:Ring_statute_cloneExpr)(b:Expr):A3 Expr:=
 lpC (([]:O Expr),(⟨b.Op,b.Value,b.Dim,b.Name,[]⟩:Expr),([]:O Expr),(⟨0,(⟨0,0⟩:fQ),0,a3j,[]⟩:Expr),(0:Int)) fun j ⟨e,a,i,c,d⟩=>
 if (decide (d<(b.Args.length:Int))) then
 (c7 b.Args d).bind fun h=>
 (R.f_statute_cloneExpr h).bind fun f=>
 (a4n 72 e [f]).bind fun g=>
 j (g,(⟨a.Op,a.Value,a.Dim,a.Name,[]⟩:Expr),i,(⟨c.Op,c.Value,c.Dim,c.Name,[]⟩:Expr),i64 (d+1))
 else
 some (⟨a.Op,a.Value,a.Dim,a.Name,e⟩:Expr)
def s4:Nat -> Ring_statute_cloneExpr
 | 0=>⟨fun _=>none⟩
 | n+1=>⟨a7s (s4 n)⟩
def a6x (a:Expr):A3 Expr:=(s4 FU).f_statute_cloneExpr a
def a6r (l:Version):A3 Version:=
 (a5m l.Credits).bind fun v1=>
 (a6e l.Series).bind fun v2=>
 (a86 l.Lets).bind fun v3=>
 (a6f l.Grants).bind fun v4=>
 (a5p l.Reduces).bind fun v5=>
 lpC (v1,v2,v3,v4,v5,(⟨l.From,l.Rounding,[],[],[],[],[]⟩:Version),([]:O Credit),([]:O Index),([]:O Let),([]:O Grant),([]:O Reduce),(⟨0,(⟨0,0⟩:Rounding),[],[],[],[],[]⟩:Version),(0:Int)) fun J ⟨v6,v7,o,K,x,h,A,G,p,v,t,j,d⟩=>
 if (decide (d<(v3.length:Int))) then
 (c7 o d).bind fun ah=>
 (c7 o d).bind fun Q=>
 (a6x Q.Body).bind fun W=>
 (c7 o d).bind fun ag=>
 (c7 o d).bind fun Z=>
 J (v6,v7,a8h o d (⟨Z.Name,W⟩:Let),K,x,(⟨h.From,h.Rounding,[],[],[],[],[]⟩:Version),A,G,p,v,t,(⟨j.From,j.Rounding,[],[],[],[],[]⟩:Version),i64 (d+1))
 else
 lpC (v6,v7,o,K,x,(⟨h.From,h.Rounding,[],[],[],[],[]⟩:Version),A,G,p,v,t,(⟨j.From,j.Rounding,[],[],[],[],[]⟩:Version),(0:Int)) fun M ⟨z,E,w,b,n,i,s,D,B,y,u,k,a⟩=>
 if (decide (a<(K.length:Int))) then
 (c7 b a).bind fun am=>
 (c7 b a).bind fun N=>
 (a6x N.If).bind fun m=>
 (c7 b a).bind fun al=>
 (c7 b a).bind fun T=>
 (a6x T.Pay).bind fun P=>
 (c7 b a).bind fun ap=>
 (c7 b a).bind fun e=>
 (c7 (a8h b a (⟨e.Benefit,m,e.Pay⟩:Grant)) a).bind fun ak=>
 (c7 (a8h b a (⟨e.Benefit,m,e.Pay⟩:Grant)) a).bind fun F=>
 M (z,E,w,a8h (a8h b a (⟨e.Benefit,m,e.Pay⟩:Grant)) a (⟨F.Benefit,F.If,P⟩:Grant),n,(⟨i.From,i.Rounding,[],[],[],[],[]⟩:Version),s,D,B,y,u,(⟨k.From,k.Rounding,[],[],[],[],[]⟩:Version),i64 (a+1))
 else
 lpC (z,E,w,b,n,(⟨i.From,i.Rounding,[],[],[],[],[]⟩:Version),s,D,B,y,u,(⟨k.From,k.Rounding,[],[],[],[],[]⟩:Version),(0:Int)) fun X ⟨r,q,C,I,f,g,aa,ab,S,Y,U,H,c⟩=>
 if (decide (c<(n.length:Int))) then
 (c7 f c).bind fun aj=>
 (c7 f c).bind fun V=>
 (a6x V.By).bind fun L=>
 (c7 f c).bind fun ai=>
 (c7 f c).bind fun R=>
 X (r,q,C,I,a8h f c (⟨R.Benefit,L⟩:Reduce),(⟨g.From,g.Rounding,[],[],[],[],[]⟩:Version),aa,ab,S,Y,U,(⟨H.From,H.Rounding,[],[],[],[],[]⟩:Version),i64 (c+1))
 else
 some (⟨g.From,g.Rounding,r,q,C,I,f⟩:Version)
def c41 (e:Statute)(d:((Int×Version×Bool)×Int) -> A3 (Version×Bool))(a:(Int×Version×Bool)×Int):A3 (Version×Bool):=
 if decide (a.2<0) then
 some ((⟨0,(⟨0,0⟩:Rounding),[],[],[],[],[]⟩:Version),false)
 else
 (c7 e.Versions a.2).bind fun c=>
 if (decide (c.From <= a.1.1)) then
 (a6r c).bind fun b=>
 some ((a.1.1,b,true).2.1,(a.1.1,b,true).2.2)
 else
 d ((a.1.1,a.1.2.1,a.1.2.2),a.2-1)
def b1v (a:Statute)(b:Int):A3 (Version×Bool):=
 (m7 b).bind fun c=>
 if (!c) then
 some ((⟨0,(⟨0,0⟩:Rounding),[],[],[],[],[]⟩:Version),false)
 else
 d9 FU (c41 a) ((b,(⟨0,(⟨0,0⟩:Rounding),[],[],[],[],[]⟩:Version),false),(a.Versions.length:Int)-1)
def a2v (c:bQ)(d:Int):A3 (Statute×Version×Int):=
 (a7y c d).bind fun a=>
 (b1v a.1 c.day).bind fun b=>
 (if (!a.2) then some true else some (!b.2)).bind fun e=>
 if e then
 some ((⟨a3j,0,[]⟩:Statute),(⟨0,(⟨0,0⟩:Rounding),[],[],[],[],[]⟩:Version),9)
 else
 some (a.1,b.1,0)
def b0a (a:Int):A3 Bool:=
 (if (decide (a<0)) then some true else some (decide (a>1000000000000))).bind fun b=>
 some b
def a6k (b:O Int)(c:Int -> A3 Int)(a:Int):A3 Int:=
 if (decide (a<(b.length:Int))) then
 (c7 b a).bind fun e=>
 (b0a e).bind fun d=>
 if d then
 some a
 else
 c (i64 (a+1))
 else
 some (-1:Int)
def a29 (a:O Int):A3 Int:=
 d9 FU (a6k a) 0
def a1n (a:O Int):A3 Bool:=
 (a29 a).bind fun b=>
 some (decide (b >= 0))
def a9p (a:O Int):A3 Bool:=
 (if (decide ((a.length:Int) <= 200)) then (a1n a).bind fun b=>
 some (!b) else some false).bind fun c=>
 some c
def b0s (a:View):A3 Bool:=
 (if (decide (a.Age<0)) then some true else some (decide (a.Age>199))).bind fun u=>
 (if u then some true else some (decide (a.Year<1900))).bind fun o=>
 (if o then some true else some (decide (a.Year>2099))).bind fun r=>
 (if r then some true else some (decide (a.Children<0))).bind fun t=>
 (if t then some true else some (decide (a.Children>99))).bind fun s=>
 (if s then some true else (a9p a.Years).bind fun p=>
 some (!p)).bind fun q=>
 if q then
 some false
 else
 lpC (a,(0:Int)) fun i ⟨b,e⟩=>
 if (decide (e<7)) then
 (c7 (⟨[a.Insured,a.Worked,a.Voluntary,a.Service,a.Equated,a.Raising,a.Resident],rfl⟩:Ar 7 Int).l e).bind fun c=>
 (if (decide (c<0)) then some true else some (decide (c>73049))).bind fun l=>
 if l then
 some false
 else
 i (b,i64 (e+1))
 else
 (o7 b.Base).bind fun m=>
 (if m then some (decide (b.Base.Num >= 0)) else some false).bind fun d=>
 (if d then (c2t b.Base.Num b.Base.Den).bind fun g=>
 some (decide (g <= 1000000000000)) else some false).bind fun f=>
 (if f then (c2t b.Base.Num b.Base.Den).bind fun j=>
 (if (decide (j<1000000000000)) then some true else (b8t b.Base.Num b.Base.Den).bind fun n=>
 some (n==0)).bind fun k=>
 some k else some false).bind fun h=>
 some h
def c5y (a:Version)(d:View):A3 Int:=
 (b0s d).bind fun b=>
 if (!b) then
 some 1
 else
 (b0q a).bind fun c=>
 some c
def c1o (a:Grant)(b:Int):A3 Bool:=
 some (a.Benefit==b)
structure Ring_eval_mentions where
 f_eval_mentions:Expr -> ByteArray -> Option Bool
 f_eval_mentions_1:Expr -> ByteArray -> Option Bool
 f_slices_ContainsFunc_of_api_Expr:(List Expr) -> ByteArray -> Option Bool
 f_slices_IndexFunc_of_api_Expr:(List Expr) -> ByteArray -> Option Int
def b2a (R:Ring_eval_mentions)(a:Expr)(b:A4):A3 Bool:=
 (if (a.Op==2) then some (a.Name.toList==b.toList) else some false).bind fun e=>
 (if e then some true else (R.f_slices_ContainsFunc_of_api_Expr a.Args b).bind fun c=>
 some c).bind fun d=>
 some d
def b93 (R:Ring_eval_mentions)(a:Expr)(c:A4):A3 Bool:=
 (R.f_eval_mentions a c).bind fun b=>
 some b
def a0o (R:Ring_eval_mentions)(b:O Expr)(a:A4):A3 Bool:=
 (R.f_slices_IndexFunc_of_api_Expr b a).bind fun c=>
 some (decide (c >= 0))
def a5n (R:Ring_eval_mentions)(c:O Expr)(a:A4)(d:Int -> A3 Int)(b:Int):A3 Int:=
 if (decide (b<(c.length:Int))) then
 (c7 c b).bind fun f=>
 (R.f_eval_mentions_1 f a).bind fun e=>
 if e then
 some b
 else
 d (i64 (b+1))
 else
 some (-1:Int)
def a16 (R:Ring_eval_mentions)(b:O Expr)(a:A4):A3 Int:=
 d9 FU (a5n R b a) 0
def d5:Nat -> Ring_eval_mentions
 | 0=>⟨fun _ _=>none,fun _ _=>none,fun _ _=>none,fun _ _=>none⟩
 | n+1=>⟨b2a (d5 n),b93 (d5 n),a0o (d5 n),a16 (d5 n)⟩
def b95 (a:Expr)(b:A4):A3 Bool:=(d5 FU).f_eval_mentions a b
def b1z (e:((O Int)×Int×Int) -> A3 (O Int))(a:(O Int)×Int×Int):A3 (O Int):=
 if (decide (a.2.1<a.2.2)) then
 (c7 a.1 a.2.2).bind fun j=>
 (c7 a.1 a.2.2).bind fun b=>
 (c7 a.1 a.2.1).bind fun g=>
 (c7 a.1 a.2.1).bind fun c=>
 (c7 a.1 a.2.1).bind fun i=>
 (c7 a.1 a.2.1).bind fun f=>
 (c7 (a8h a.1 a.2.1 b) a.2.2).bind fun h=>
 (c7 (a8h a.1 a.2.1 b) a.2.2).bind fun d=>
 e (a8h (a8h a.1 a.2.1 b) a.2.2 c,i64 (a.2.1+1),i64 (a.2.2-1))
 else
 some a.1
def a68 (a:O Int):A3 (O Int):=
 d9 FU b1z (a,0,i64 ((a.length:Int)-1))
def c4e (s:Expr)(d:O Let):A3 (O Int):=
 lpC (s,([]:O Int),i64 ((d.length:Int)-1)) fun p ⟨q,e,b⟩=>
 if (decide (b >= 0)) then
 (c7 d b).bind fun u=>
 (b95 q u.Name).bind fun r=>
 lpC (q,e,r,(0:Int)) fun k ⟨l,c,o,a⟩=>
 if (decide (a<(e.length:Int))) then
 (c7 c a).bind fun t=>
 (c7 c a).bind fun m=>
 (if o then some true else (c7 d m).bind fun f=>
 (c7 d b).bind fun h=>
 (b95 f.Body h.Name).bind fun g=>
 some g).bind fun i=>
 k (l,c,i,i64 (a+1))
 else
 if o then
 (a4n 8 c [b]).bind fun n=>
 p (l,n,i64 (b-1))
 else
 p (l,c,i64 (b-1))
 else
 (a68 e).bind fun j=>
 some j
def t6 (a:Int)(b:fQ):A3 Value:=
 some (⟨a,false,b⟩:Value)
def c2b (c:View)(b:A4):A3 (Value×Bool):=
 (b4n b).bind fun a=>
 (if (!a.2) then some true else (b0s c).bind fun j=>
 some (!j)).bind fun q=>
 if q then
 some ((⟨0,false,(⟨0,0⟩:fQ)⟩:Value),false)
 else
 if (b.toList==e39.toList) then
 (t6 a.1 c.Base).bind fun o=>
 some (o,true)
 else
 if (b.toList==e0r.toList) then
 (t6 a.1 (⟨c.Age,1⟩:fQ)).bind fun m=>
 some (m,true)
 else
 if (b.toList==d3o.toList) then
 (t6 a.1 (⟨c.Year,1⟩:fQ)).bind fun k=>
 some (k,true)
 else
 if (b.toList==c6q.toList) then
 (t6 a.1 (⟨c.Children,1⟩:fQ)).bind fun p=>
 some (p,true)
 else
 if (b.toList==b6u.toList) then
 (t6 a.1 (⟨c.Insured,1⟩:fQ)).bind fun l=>
 some (l,true)
 else
 if (b.toList==c5w.toList) then
 (t6 a.1 (⟨c.Worked,1⟩:fQ)).bind fun n=>
 some (n,true)
 else
 if (b.toList==b0b.toList) then
 (t6 a.1 (⟨c.Voluntary,1⟩:fQ)).bind fun g=>
 some (g,true)
 else
 if (b.toList==b3z.toList) then
 (t6 a.1 (⟨c.Service,1⟩:fQ)).bind fun f=>
 some (f,true)
 else
 if (b.toList==c3c.toList) then
 (t6 a.1 (⟨c.Equated,1⟩:fQ)).bind fun h=>
 some (h,true)
 else
 if (b.toList==c3j.toList) then
 (t6 a.1 (⟨c.Raising,1⟩:fQ)).bind fun i=>
 some (i,true)
 else
 if (b.toList==c6v.toList) then
 (t6 a.1 (⟨c.Resident,1⟩:fQ)).bind fun e=>
 some (e,true)
 else
 (t6 a.1 (⟨0,1⟩:fQ)).bind fun d=>
 some (d,true)
def b38 (c:vQ)(d:((A4×Value)×Int) -> A3 Value)(a:(A4×Value)×Int):A3 Value:=
 if decide (a.2<0) then
 some (⟨0,false,(⟨0,0⟩:fQ)⟩:Value)
 else
 (c7 c.steps a.2).bind fun b=>
 if (b.Name.toList==a.1.1.toList) then
 some ((a.1.1,b.Value).2)
 else
 d ((a.1.1,a.1.2),a.2-1)
def a84 (a:vQ)(c:A4):A3 Value:=
 (c2b a.view c).bind fun b=>
 if b.2 then
 some b.1
 else
 d9 FU (b38 a) ((c,(⟨0,false,(⟨0,0⟩:fQ)⟩:Value)),(a.steps.length:Int)-1)
def c7q (a:Int):A3 Int:=
 (b8x a).bind fun b=>
 some b
def b1d (a:Int):A3 Bool:=
 some (a != a)
def h8q (a:Int):A3 Int:=
 (c7q (u64 (a))).bind fun b=>
 (g2a .u64 1 b).bind fun c=>
 some c
def h8x (a:Int):A3 (Int×Int):=
 (g2a .u64 a 13).bind fun b=>
 (d0l .u64 (h2r .u64 a b) 7).bind fun c=>
 (g2a .u64 (h2r .u64 (h2r .u64 a b) c) 17).bind fun d=>
 some (h2r .u64 (h2r .u64 (h2r .u64 a b) c) d,h2r .u64 (h2r .u64 (h2r .u64 a b) c) d)
def a70 (e:Bool)(a b:rational_wide):A3 (fQ×Int):=
 (if (a.hi != 0) then some true else some (decide (a.lo>1000000000000000))).bind fun f=>
 (if f then some true else some (b.hi != 0)).bind fun c=>
 (if c then some true else some (decide (b.lo>1000000000))).bind fun d=>
 if d then
 some ((⟨0,0⟩:fQ),2)
 else
 if e then
 some ((⟨i64 (-(i64 (a.lo))),i64 (b.lo)⟩:fQ),0)
 else
 some ((⟨i64 (a.lo),i64 (b.lo)⟩:fQ),0)
def b32 (c b:Int):A3 (fQ×Int):=
 if (b==0) then
 some ((⟨0,0⟩:fQ),3)
 else
 (j5 c).bind fun f=>
 (j5 b).bind fun d=>
 (a7g f d).bind fun a=>
 (if ((decide (c<0)) != (decide (b<0))) then some (c != 0) else some false).bind fun i=>
 (if a=0 then none else some (u64 (Int.tdiv f a))).bind fun h=>
 (if a=0 then none else some (u64 (Int.tdiv d a))).bind fun g=>
 (a70 i (⟨0,h⟩:rational_wide) (⟨0,g⟩:rational_wide)).bind fun e=>
 some (e.1,e.2)
def a0l (b:O Int)(c:(((O Int)×(O Int))×Int) -> A3 (O Int))(a:((O Int)×(O Int))×Int):A3 (O Int):=
 if decide (a.2 >= (b.length:Int)) then
 some a.1.1
 else
 (c7 b a.2).bind fun e=>
 (a4n 8 a.1.1 [e]).bind fun d=>
 c ((d,[]),a.2+1)
def u5 (a b:O Int):A3 (O Int):=
 d9 FU (a0l b) ((a,[]),(0:Int))
def y5 (a:O Int):A3 (O Int):=
 (u5 [] a).bind fun b=>
 some b
def o9 (a:O Int):A3 (O Int):=
 (y5 a).bind fun b=>
 (b8s b).bind fun c=>
 some c
def c4b (h:O Int)(b:Int):A3 (fQ×Int):=
 (if (decide (b<1)) then some true else some (decide (b>45))).bind fun m=>
 (if m then some true else (a9p h).bind fun i=>
 some (!i)).bind fun l=>
 if l then
 some ((⟨0,0⟩:fQ),1)
 else
 (o9 h).bind fun e=>
 (a1x e (max 0 (i64 ((e.length:Int)-b))) (e.length:Int)).bind fun f=>
 lpC ((⟨0,0⟩:fQ),(0:Int),(0:Int)) fun k ⟨j,g,c⟩=>
 if (decide (c<(f.length:Int))) then
 (c7 f c).bind fun d=>
 k (j,i64 (g+d),i64 (c+1))
 else
 (b32 g b).bind fun a=>
 some (a.1,a.2)
def b8n (a:Bool):A3 Value:=
 some (⟨1,a,(⟨0,0⟩:fQ)⟩:Value)
def b4e (a:fQ):A3 (Int×Int):=
 (o7 a).bind fun c=>
 if (!c) then
 some (0,1)
 else
 (c2t a.Num a.Den).bind fun b=>
 (b8t a.Num a.Den).bind fun d=>
 if (decide (d<0)) then
 some (i64 (b-1),0)
 else
 some (b,0)
def b4p (a:fQ):A3 (fQ×Int):=
 (o7 a).bind fun b=>
 if (!b) then
 some ((⟨0,0⟩:fQ),1)
 else
 some ((⟨i64 (-a.Num),a.Den⟩:fQ),0)
def b3s (b a:Int):A3 (Int×Int):=
 (d0l .u64 b 32).bind fun c=>
 (d0l .u64 a 32).bind fun d=>
 (d0l .u64 (u64 ((d5y .u64 b 4294967295)*(d5y .u64 a 4294967295))) 32).bind fun e=>
 (d0l .u64 (u64 ((u64 (c*(d5y .u64 a 4294967295)))+e)) 32).bind fun g=>
 (d0l .u64 (u64 ((d5y .u64 (u64 ((u64 (c*(d5y .u64 a 4294967295)))+e)) 4294967295)+(u64 ((d5y .u64 b 4294967295)*d)))) 32).bind fun f=>
 some (u64 ((u64 ((u64 (c*d))+g))+f),u64 (b*a))
def a4g (b c:Int):A3 rational_wide:=
 (b3s b c).bind fun a=>
 some (⟨a.1,a.2⟩:rational_wide)
def a3u (a b:rational_wide):A3 Bool:=
 (if (decide (a.hi<b.hi)) then some true else (if (a.hi==b.hi) then some (decide (a.lo<b.lo)) else some false).bind fun c=>
 some c).bind fun d=>
 some d
def a83 (a:rational_wide×rational_wide):A3 (Int×Int):=
 (a3u a.1 a.2).bind fun c=>
 if c then
 some ((-1:Int),0)
 else
 (a3u a.2 a.1).bind fun b=>
 if b then
 some (1,0)
 else
 some (0,0)
def a8g (a b:fQ):A3 (Int×Int):=
 (o7 a).bind fun k=>
 (if (!k) then some true else (o7 b).bind fun e=>
 some (!e)).bind fun j=>
 if j then
 some (0,1)
 else
 if ((decide (a.Num<0)) != (decide (b.Num<0))) then
 if (decide (a.Num<0)) then
 some ((-1:Int),0)
 else
 some (1,0)
 else
 (j5 a.Num).bind fun h=>
 (j5 b.Den).bind fun g=>
 (a4g h g).bind fun c=>
 (j5 b.Num).bind fun i=>
 (j5 a.Den).bind fun f=>
 (a4g i f).bind fun d=>
 if (decide (a.Num<0)) then
 joinC a83 (d,c)
 else
 joinC a83 (c,d)
def b7z (b:Int)(c d:fQ):A3 (Bool×Int):=
 (a8g c d).bind fun a=>
 if (b==11) then
 some (decide (a.1<0),a.2)
 else
 if (b==12) then
 some (decide (a.1 <= 0),a.2)
 else
 if (b==13) then
 some (a.1==0,a.2)
 else
 if (b==14) then
 some (a.1 != 0,a.2)
 else
 if (b==15) then
 some (decide (a.1>0),a.2)
 else
 some (decide (a.1 >= 0),a.2)
def a98 (a c:rational_wide):A3 rational_wide:=
 (c23 a.lo c.lo 0).bind fun b=>
 (c23 a.hi c.hi b.2).bind fun d=>
 some (⟨d.1,b.1⟩:rational_wide)
def a4w (a c:rational_wide):A3 rational_wide:=
 (c1u a.lo c.lo 0).bind fun b=>
 (c1u a.hi c.hi b.2).bind fun d=>
 some (⟨d.1,b.1⟩:rational_wide)
def c25 (d c a:Int):A3 Int:=
 (b8t d a).bind fun e=>
 (a8o e c a).bind fun b=>
 some b.2
def a8z (b:rational_wide)(a:Int):A3 rational_wide:=
 (if a=0 then none else some (u64 (Int.tdiv b.hi a))).bind fun e=>
 (b8t b.hi a).bind fun c=>
 (a8o c b.lo a).bind fun d=>
 some (⟨e,d.1⟩:rational_wide)
def a9g (a:fQ×fQ×fQ×rational_wide×Bool):A3 (fQ×Int):=
 (j5 a.1.Den).bind fun c=>
 (j5 a.2.1.Den).bind fun d=>
 if ((a.2.2.2.1.hi==0)&&((a.2.2.2.1.lo==0)&&(true))) then
 some ((⟨0,1⟩:fQ),0)
 else
 (c25 a.2.2.2.1.hi a.2.2.2.1.lo (u64 (c*d))).bind fun f=>
 (a7g (u64 (c*d)) f).bind fun b=>
 (a8z a.2.2.2.1 b).bind fun g=>
 (if b=0 then none else some (u64 (Int.tdiv (u64 (c*d)) b))).bind fun h=>
 (a70 a.2.2.2.2 g (⟨0,h⟩:rational_wide)).bind fun e=>
 some (e.1,e.2)
def b4q (a b:fQ):A3 (fQ×Int):=
 (o7 a).bind fun i=>
 (if (!i) then some true else (o7 b).bind fun j=>
 some (!j)).bind fun o=>
 if o then
 some ((⟨0,0⟩:fQ),1)
 else
 (j5 a.Num).bind fun m=>
 (j5 b.Den).bind fun l=>
 (a4g m l).bind fun c=>
 (j5 b.Num).bind fun n=>
 (j5 a.Den).bind fun k=>
 (a4g n k).bind fun d=>
 if ((decide (a.Num<0))==(decide (b.Num<0))) then
 (a98 c d).bind fun f=>
 joinC a9g (a,b,(⟨0,0⟩:fQ),f,decide (a.Num<0))
 else
 (a3u c d).bind fun e=>
 if e then
 (a4w d c).bind fun g=>
 joinC a9g (a,b,(⟨0,0⟩:fQ),g,!(decide (a.Num<0)))
 else
 (a4w c d).bind fun h=>
 joinC a9g (a,b,(⟨0,0⟩:fQ),h,decide (a.Num<0))
def b7d (c d:fQ):A3 (fQ×Int):=
 (b4p d).bind fun a=>
 if (a.2 != 0) then
 some ((⟨0,0⟩:fQ),a.2)
 else
 (b4q c a.1).bind fun b=>
 some (b.1,b.2)
def a73 (n:Bool)(c d e g:Int):A3 (fQ×Int):=
 (a7g c g).bind fun b=>
 (a7g e d).bind fun a=>
 (if b=0 then none else some (u64 (Int.tdiv c b))).bind fun m=>
 (if a=0 then none else some (u64 (Int.tdiv e a))).bind fun k=>
 (a4g m k).bind fun j=>
 (if a=0 then none else some (u64 (Int.tdiv d a))).bind fun i=>
 (if b=0 then none else some (u64 (Int.tdiv g b))).bind fun l=>
 (a4g i l).bind fun h=>
 (a70 n j h).bind fun f=>
 some (f.1,f.2)
def b7j (c a:fQ):A3 (fQ×Int):=
 (o7 c).bind fun m=>
 (if (!m) then some true else (o7 a).bind fun e=>
 some (!e)).bind fun l=>
 if l then
 some ((⟨0,0⟩:fQ),1)
 else
 (if (decide (c.Num<0)) then some (decide (a.Num>0)) else some false).bind fun j=>
 (if j then some true else (if (decide (c.Num>0)) then some (decide (a.Num<0)) else some false).bind fun h=>
 some h).bind fun f=>
 (j5 c.Num).bind fun k=>
 (j5 c.Den).bind fun g=>
 (j5 a.Num).bind fun i=>
 (j5 a.Den).bind fun d=>
 (a73 f k g i d).bind fun b=>
 some (b.1,b.2)
def b7o (c a:fQ):A3 (fQ×Int):=
 (o7 c).bind fun m=>
 (if (!m) then some true else (o7 a).bind fun e=>
 some (!e)).bind fun l=>
 if l then
 some ((⟨0,0⟩:fQ),1)
 else
 if (a.Num==0) then
 some ((⟨0,0⟩:fQ),3)
 else
 (if (decide (c.Num<0)) then some (decide (a.Num>0)) else some false).bind fun j=>
 (if j then some true else (if (decide (c.Num>0)) then some (decide (a.Num<0)) else some false).bind fun h=>
 some h).bind fun f=>
 (j5 c.Num).bind fun k=>
 (j5 c.Den).bind fun g=>
 (j5 a.Den).bind fun i=>
 (j5 a.Num).bind fun d=>
 (a73 f k g i d).bind fun b=>
 some (b.1,b.2)
def b2w (c:Int)(a b:fQ):A3 (fQ×Int):=
 if (c==7) then
 (b4q a b).bind fun h=>
 some (h.1,h.2)
 else
 if (c==8) then
 (b7d a b).bind fun e=>
 some (e.1,e.2)
 else
 if (c==9) then
 (b7j a b).bind fun g=>
 some (g.1,g.2)
 else
 if (c==10) then
 (b7o a b).bind fun f=>
 some (f.1,f.2)
 else
 (a8g a b).bind fun d=>
 if ((c==19)==(decide (d.1<0))) then
 some (a,d.2)
 else
 some (b,d.2)
def b8c (c a b:Int):A3 Int:=
 (if (c==9) then some (a==2) else some false).bind fun e=>
 if e then
 some b
 else
 (if (c==10) then some (b != 2) else some false).bind fun d=>
 if d then
 some 2
 else
 some a
structure Ring_eval_evaluator_expr where
 f_eval_evaluator_expr:vQ -> Expr -> Option (Value×Int)
 f_eval_evaluator_unary:vQ -> Expr -> Option (Value×Int)
 f_eval_evaluator_logic:vQ -> Expr -> Option (Value×Int)
def a2t (R:Ring_eval_evaluator_expr)(a:vQ×Expr×Value×Bool):A3 (Value×Int):=
 if a.2.2.2 then
 (R.f_eval_evaluator_logic a.1 a.2.1).bind fun k=>
 some (k.1,k.2)
 else
 (c7 a.2.1.Args 0).bind fun l=>
 (R.f_eval_evaluator_expr a.1 l).bind fun b=>
 if (b.2 != 0) then
 some ((⟨0,false,(⟨0,0⟩:fQ)⟩:Value),b.2)
 else
 (c7 a.2.1.Args 1).bind fun g=>
 (R.f_eval_evaluator_expr a.1 g).bind fun c=>
 if (c.2 != 0) then
 some ((⟨0,false,(⟨0,0⟩:fQ)⟩:Value),c.2)
 else
 (if (decide (a.2.1.Op >= 11)) then some (decide (a.2.1.Op <= 16)) else some false).bind fun h=>
 if h then
 (b7z a.2.1.Op b.1.Num c.1.Num).bind fun e=>
 (b8n e.1).bind fun f=>
 some (f,e.2)
 else
 (b2w a.2.1.Op b.1.Num c.1.Num).bind fun d=>
 if (d.2 != 0) then
 some ((⟨0,false,(⟨0,0⟩:fQ)⟩:Value),d.2)
 else
 (b8c a.2.1.Op b.1.Dim c.1.Dim).bind fun j=>
 (t6 j d.1).bind fun i=>
 some (i,0)
def a2s (R:Ring_eval_evaluator_expr)(a:vQ×Expr×Value×Int×Bool):A3 (Value×Int):=
 if a.2.2.2.2 then
 (R.f_eval_evaluator_unary a.1 a.2.1).bind fun b=>
 some (b.1,b.2)
 else
 if (a.2.2.2.1==17) then
 joinC (a2t R) (a.1,a.2.1,a.2.2.1,a.2.2.2.1==17)
 else
 if (a.2.2.2.1==18) then
 joinC (a2t R) (a.1,a.2.1,a.2.2.1,a.2.2.2.1==18)
 else
 joinC (a2t R) (a.1,a.2.1,a.2.2.1,a.2.2.2.1==21)
def a5u (R:Ring_eval_evaluator_expr)(b:vQ)(a:Expr):A3 (Value×Int):=
 if (a.Op==1) then
 (t6 a.Dim a.Value).bind fun f=>
 some (f,0)
 else
 if (a.Op==2) then
 (a84 b a.Name).bind fun d=>
 some (d,0)
 else
 if (a.Op==3) then
 (c4b b.view.Years a.Value.Num).bind fun c=>
 (t6 4 c.1).bind fun e=>
 some (e,c.2)
 else
 if (a.Op==4) then
 joinC (a2s R) (b,a,(⟨0,false,(⟨0,0⟩:fQ)⟩:Value),a.Op,a.Op==4)
 else
 if (a.Op==5) then
 joinC (a2s R) (b,a,(⟨0,false,(⟨0,0⟩:fQ)⟩:Value),a.Op,a.Op==5)
 else
 joinC (a2s R) (b,a,(⟨0,false,(⟨0,0⟩:fQ)⟩:Value),a.Op,a.Op==6)
def a5i (R:Ring_eval_evaluator_expr)(h:vQ)(b:Expr):A3 (Value×Int):=
 (c7 b.Args 0).bind fun i=>
 (R.f_eval_evaluator_expr h i).bind fun a=>
 if (a.2 != 0) then
 some ((⟨0,false,(⟨0,0⟩:fQ)⟩:Value),a.2)
 else
 if (b.Op==5) then
 (b8n (!a.1.Yes)).bind fun g=>
 some (g,0)
 else
 if (b.Op==6) then
 (b4e a.1.Num).bind fun d=>
 (t6 a.1.Dim (⟨d.1,1⟩:fQ)).bind fun e=>
 some (e,d.2)
 else
 (b4p a.1.Num).bind fun c=>
 (t6 a.1.Dim c.1).bind fun f=>
 some (f,c.2)
def a5d (R:Ring_eval_evaluator_expr)(d:vQ)(b:Expr):A3 (Value×Int):=
 (c7 b.Args 0).bind fun l=>
 (R.f_eval_evaluator_expr d l).bind fun a=>
 if (a.2 != 0) then
 some ((⟨0,false,(⟨0,0⟩:fQ)⟩:Value),a.2)
 else
 (if (b.Op==17) then some (!a.1.Yes) else some false).bind fun k=>
 (if k then some true else (if (b.Op==18) then some a.1.Yes else some false).bind fun i=>
 some i).bind fun g=>
 if g then
 some (a.1,0)
 else
 (if (b.Op==21) then some (!a.1.Yes) else some false).bind fun f=>
 if f then
 (c7 b.Args 2).bind fun j=>
 (R.f_eval_evaluator_expr d j).bind fun e=>
 some (e.1,e.2)
 else
 (c7 b.Args 1).bind fun h=>
 (R.f_eval_evaluator_expr d h).bind fun c=>
 some (c.1,c.2)
def c4:Nat -> Ring_eval_evaluator_expr
 | 0=>⟨fun _ _=>none,fun _ _=>none,fun _ _=>none⟩
 | n+1=>⟨a5u (c4 n),a5i (c4 n),a5d (c4 n)⟩
def b1n (a:vQ)(b:Expr):A3 (Value×Int):=(c4 FU).f_eval_evaluator_expr a b
def a3e (u:vQ)(q:Expr)(k:O Let)(t:O Bool)(v:A4)(y:O Step):A3 (Int×vQ×(O Bool)×(O Step)):=
 (c4e q k).bind fun r=>
 lpC (y,(⟨u.view,[]⟩:vQ),t,q,r,(0:Int)) fun p ⟨c,f,b,m,h,g⟩=>
 if (decide (g<(r.length:Int))) then
 (c7 h g).bind fun z=>
 (c7 h g).bind fun a=>
 (c7 b a).bind fun s=>
 (c7 b a).bind fun l=>
 if l then
 p (c,(⟨f.view,[]⟩:vQ),b,m,h,i64 (g+1))
 else
 (c7 k a).bind fun n=>
 (b1n (⟨f.view,c⟩:vQ) n.Body).bind fun d=>
 if (d.2 != 0) then
 some (d.2,(⟨f.view,[]⟩:vQ),b,c)
 else
 (c7 k a).bind fun j=>
 (a4n 48 c [(⟨j.Name,d.1⟩:Step)]).bind fun i=>
 (c7 b a).bind fun w=>
 (c7 b a).bind fun x=>
 p (i,(⟨f.view,[]⟩:vQ),a8h b a true,m,h,i64 (g+1))
 else
 (b1n (⟨f.view,c⟩:vQ) m).bind fun e=>
 if (e.2 != 0) then
 some (e.2,(⟨f.view,[]⟩:vQ),b,c)
 else
 (a4n 48 c [(⟨v,e.1⟩:Step)]).bind fun o=>
 some (0,(⟨f.view,[]⟩:vQ),b,o)
def a55 (a:vQ):A3 Value:=
 (c7 a.steps (i64 ((a.steps.length:Int)-1))).bind fun b=>
 some b.Value
def a6d (c:O Grant)(a:Int)(d:Int -> A3 Int)(b:Int):A3 Int:=
 if (decide (b<(c.length:Int))) then
 (c7 c b).bind fun f=>
 (c1o f a).bind fun e=>
 if e then
 some b
 else
 d (i64 (b+1))
 else
 some (-1:Int)
def a1y (b:O Grant)(a:Int):A3 Int:=
 d9 FU (a6d b a) 0
def c2a (b:Version)(i:Int)(f:View):A3 (Result×Int):=
 (c5y b f).bind fun h=>
 if (h != 0) then
 some ((⟨false,(⟨0,0⟩:fQ),[]⟩:Result),h)
 else
 (a1y b.Grants i).bind fun e=>
 if (decide (e<0)) then
 some ((⟨false,(⟨0,0⟩:fQ),[]⟩:Result),9)
 else
 (mkI 1 (false:Bool) (b.Lets.length:Int) (b.Lets.length:Int)).bind fun l=>
 (c7 b.Grants e).bind fun j=>
 (a3e (⟨f,[]⟩:vQ) j.If b.Lets l d0k []).bind fun a=>
 if (a.1 != 0) then
 some ((⟨false,(⟨0,0⟩:fQ),[]⟩:Result),a.1)
 else
 (a55 (⟨a.2.1.view,a.2.2.2⟩:vQ)).bind fun d=>
 if d.Yes then
 (c7 b.Grants e).bind fun k=>
 (a3e (⟨a.2.1.view,[]⟩:vQ) k.Pay b.Lets a.2.2.1 c60 a.2.2.2).bind fun c=>
 if (c.1 != 0) then
 some ((⟨false,(⟨0,0⟩:fQ),[]⟩:Result),c.1)
 else
 (a55 (⟨c.2.1.view,c.2.2.2⟩:vQ)).bind fun g=>
 if (decide (g.Num.Num>0)) then
 some ((⟨d.Yes,g.Num,c.2.2.2⟩:Result),0)
 else
 some ((⟨d.Yes,(⟨0,1⟩:fQ),c.2.2.2⟩:Result),0)
 else
 some ((⟨d.Yes,(⟨0,1⟩:fQ),a.2.2.2⟩:Result),0)
def h8m (h:Laws)(d e f:Int)(g:View):A3 (Result×Int):=
 (b8v h f).bind fun b=>
 if (b.2 != 0) then
 some ((⟨false,(⟨0,0⟩:fQ),[]⟩:Result),b.2)
 else
 (a2v b.1 d).bind fun a=>
 if (a.2.2 != 0) then
 some ((⟨false,(⟨0,0⟩:fQ),[]⟩:Result),a.2.2)
 else
 (c2a a.2.1 e g).bind fun c=>
 some (c.1,c.2)
def h4x (a:A4×Bool):A3 (Int×Bool):=
 if a.2 then
 some (3,true)
 else
 if (a.1.toList==e39.toList) then
 some (4,true)
 else
 some (0,false)
def h78 (a:A4×Bool):A3 (Int×Bool):=
 if a.2 then
 some (2,true)
 else
 if (a.1.toList==b6u.toList) then
 joinC h4x (a.1,a.1.toList==b6u.toList)
 else
 if (a.1.toList==c5w.toList) then
 joinC h4x (a.1,a.1.toList==c5w.toList)
 else
 if (a.1.toList==b0b.toList) then
 joinC h4x (a.1,a.1.toList==b0b.toList)
 else
 if (a.1.toList==b3z.toList) then
 joinC h4x (a.1,a.1.toList==b3z.toList)
 else
 if (a.1.toList==c3c.toList) then
 joinC h4x (a.1,a.1.toList==c3c.toList)
 else
 if (a.1.toList==c3j.toList) then
 joinC h4x (a.1,a.1.toList==c3j.toList)
 else
 joinC h4x (a.1,a.1.toList==c6v.toList)
def h5w (a:A4):A3 (Int×Bool):=
 if (a.toList==e0r.toList) then
 joinC h78 (a,a.toList==e0r.toList)
 else
 if (a.toList==d3o.toList) then
 joinC h78 (a,a.toList==d3o.toList)
 else
 joinC h78 (a,a.toList==c6q.toList)
def h4i (b:Int)(a:O Int):A3 Int:=
 if (b==5) then
 (c7 a 0).bind fun R=>
 if (R==1) then
 some 1
 else
 some 0
 else
 (if (b==4) then some true else some (b==6)).bind fun I=>
 if I then
 (c7 a 0).bind fun N=>
 if (N != 1) then
 (c7 a 0).bind fun Q=>
 some Q
 else
 some 0
 else
 (if (b==7) then some true else some (b==8)).bind fun P=>
 (if P then some true else some (b==19)).bind fun J=>
 (if J then some true else some (b==20)).bind fun M=>
 if M then
 (c7 a 0).bind fun L=>
 (c7 a 1).bind fun K=>
 (if (L==K) then (c7 a 0).bind fun l=>
 some (l != 1) else some false).bind fun d=>
 if d then
 (c7 a 0).bind fun w=>
 some w
 else
 some 0
 else
 if (b==9) then
 (c7 a 0).bind fun F=>
 (if (F==2) then (c7 a 1).bind fun c=>
 some (c != 1) else some false).bind fun j=>
 if j then
 (c7 a 1).bind fun g=>
 some g
 else
 (c7 a 1).bind fun p=>
 (if (p==2) then (c7 a 0).bind fun r=>
 some (r != 1) else some false).bind fun t=>
 if t then
 (c7 a 0).bind fun G=>
 some G
 else
 some 0
 else
 if (b==10) then
 (c7 a 1).bind fun n=>
 (if (n==2) then (c7 a 0).bind fun y=>
 some (y != 1) else some false).bind fun e=>
 if e then
 (c7 a 0).bind fun D=>
 some D
 else
 (c7 a 0).bind fun v=>
 (c7 a 1).bind fun B=>
 (if (v==B) then (c7 a 0).bind fun k=>
 some (k != 1) else some false).bind fun h=>
 if h then
 some 2
 else
 some 0
 else
 (if (b==17) then some true else some (b==18)).bind fun H=>
 if H then
 (c7 a 0).bind fun o=>
 (if (o==1) then (c7 a 1).bind fun f=>
 some (f==1) else some false).bind fun A=>
 if A then
 some 1
 else
 some 0
 else
 if (b==21) then
 (c7 a 0).bind fun x=>
 (if (x==1) then (c7 a 1).bind fun u=>
 (c7 a 2).bind fun i=>
 some (u==i) else some false).bind fun q=>
 if q then
 (c7 a 1).bind fun s=>
 some s
 else
 some 0
 else
 (c7 a 0).bind fun z=>
 (c7 a 1).bind fun C=>
 (if (z==C) then (c7 a 0).bind fun m=>
 some (m != 1) else some false).bind fun E=>
 if E then
 some 1
 else
 some 0
structure Ring_pensionref5_infer where
 f_pensionref5_infer:Expr -> (List iQ) -> Option (Int×Int)
def h6z (R:Ring_pensionref5_infer)(b:O iQ)(c:(Expr×Int) -> A3 (Int×Int))(a:Expr×Int):A3 (Int×Int):=
 if (decide (a.2 >= 0)) then
 (c7 b a.2).bind fun e=>
 if (e.Name.toList==a.1.Name.toList) then
 (c7 b a.2).bind fun d=>
 some (d.Dim,0)
 else
 c (a.1,i64 (a.2-1))
 else
 some (0,5)
def h6h (R:Ring_pensionref5_infer)(e:O iQ)(g:(Expr×(O Int)×Int) -> A3 (Int×Int))(a:Expr×(O Int)×Int):A3 (Int×Int):=
 if (decide (a.2.2<(a.1.Args.length:Int))) then
 (c7 a.1.Args a.2.2).bind fun f=>
 (R.f_pensionref5_infer f e).bind fun d=>
 if (d.2 != 0) then
 some (0,d.2)
 else
 (a4n 8 a.2.1 [d.1]).bind fun c=>
 g (a.1,c,i64 (a.2.2+1))
 else
 (h4i a.1.Op a.2.1).bind fun b=>
 if (b==0) then
 some (0,6)
 else
 some (b,0)
def h4p (R:Ring_pensionref5_infer)(a:Expr)(b:O iQ):A3 (Int×Int):=
 if (a.Op==1) then
 some (a.Dim,0)
 else
 if (a.Op==3) then
 some (4,0)
 else
 if (a.Op==2) then
 (h5w a.Name).bind fun c=>
 if c.2 then
 some (c.1,0)
 else
 d9 FU (h6z R b) (a,i64 ((b.length:Int)-1))
 else
 d9 FU (h6h R b) (a,[],0)
def h4j:Nat -> Ring_pensionref5_infer
 | 0=>⟨fun _ _=>none⟩
 | n+1=>⟨h4p (h4j n)⟩
def h8e (a:Expr)(b:O iQ):A3 (Int×Int):=(h4j FU).f_pensionref5_infer a b
def h7d (b:O iQ)(d:(Expr×Int) -> A3 (Int×Int))(a:Expr×Int):A3 (Int×Int):=
 if (decide (a.2<(b.length:Int))) then
 (c7 b a.2).bind fun g=>
 (if (decide (g.Dim<1)) then some true else (c7 b a.2).bind fun f=>
 some (decide (f.Dim>4))).bind fun e=>
 if e then
 some (0,1)
 else
 d (a.1,i64 (a.2+1))
 else
 (h8e a.1 b).bind fun c=>
 some (c.1,c.2)
def h5x (a:Expr)(c:O iQ):A3 (Int×Int):=
 (a0g a).bind fun b=>
 if (!b) then
 some (0,1)
 else
 d9 FU (h7d c) (a,0)
def h5a (c:(O iQ)×Int)(d:O Let)(j k:((O iQ)×Int) -> A3 ((O iQ)×Int))(b:(O iQ)×Int):A3 ((O iQ)×Int):=
 if (decide (b.2<c.2)) then
 (c7 d b.2).bind fun h=>
 (c7 d c.2).bind fun g=>
 if (h.Name.toList==g.Name.toList) then
 some ([],10)
 else
 k (b.1,i64 (b.2+1))
 else
 (c7 d c.2).bind fun i=>
 (h5x i.Body b.1).bind fun a=>
 if (a.2 != 0) then
 some ([],a.2)
 else
 (c7 d c.2).bind fun f=>
 (a4n 24 b.1 [(⟨f.Name,a.1⟩:iQ)]).bind fun e=>
 j (e,i64 (c.2+1))
def h5k (b:O Let)(e:((O iQ)×Int) -> A3 ((O iQ)×Int))(a:(O iQ)×Int):A3 ((O iQ)×Int):=
 if (decide (a.2<(b.length:Int))) then
 (c7 b a.2).bind fun h=>
 (h5w h.Name).bind fun f=>
 (if f.2 then some true else (c7 b a.2).bind fun d=>
 (a2e d.Name).bind fun c=>
 some (!c)).bind fun g=>
 if g then
 some ([],5)
 else
 d9 FU (h5a a b e) (a.1,0)
 else
 some (a.1,0)
def h6o (a:O Let):A3 ((O iQ)×Int):=
 if (decide ((a.length:Int)>10)) then
 some ([],7)
 else
 d9 FU (h5k a) ([],0)
def h5o (e:Expr)(c:O iQ)(d:Int):A3 Int:=
 (h5x e c).bind fun a=>
 (if (a.2==0) then some (a.1 != d) else some false).bind fun b=>
 if b then
 some 6
 else
 some a.2
def h6q (b:Version×(O iQ)×Int)(c f:(Version×(O iQ)×Int) -> A3 Int)(a:Version×(O iQ)×Int):A3 Int:=
 if (decide (a.2.2<b.2.2)) then
 (c7 a.1.Credits a.2.2).bind fun d=>
 (c7 a.1.Credits b.2.2).bind fun e=>
 if (d.Kind==e.Kind) then
 some 10
 else
 f (a.1,a.2.1,i64 (a.2.2+1))
 else
 c (a.1,a.2.1,i64 (b.2.2+1))
def h6p (b:Version×(O iQ)×Int)(g e:(Version×(O iQ)×Int) -> A3 Int)(a:Version×(O iQ)×Int):A3 Int:=
 if (decide (a.2.2<b.2.2)) then
 (c7 a.1.Grants a.2.2).bind fun i=>
 (c7 a.1.Grants b.2.2).bind fun j=>
 if (i.Benefit==j.Benefit) then
 some 10
 else
 e (a.1,a.2.1,i64 (a.2.2+1))
 else
 (c7 a.1.Grants b.2.2).bind fun f=>
 (h5o f.If a.2.1 1).bind fun c=>
 if (c != 0) then
 some c
 else
 (c7 a.1.Grants b.2.2).bind fun h=>
 (h5o h.Pay a.2.1 4).bind fun d=>
 if (d != 0) then
 some d
 else
 g (a.1,a.2.1,i64 (b.2.2+1))
def h6s (b:Version×(O iQ)×Int)(g f:(Version×(O iQ)×Int) -> A3 Int)(a:Version×(O iQ)×Int):A3 Int:=
 if (decide (a.2.2<b.2.2)) then
 (c7 a.1.Reduces a.2.2).bind fun e=>
 (c7 a.1.Reduces b.2.2).bind fun d=>
 if (e.Benefit==d.Benefit) then
 some 10
 else
 f (a.1,a.2.1,i64 (a.2.2+1))
 else
 (c7 a.1.Reduces b.2.2).bind fun h=>
 (h5o h.By a.2.1 2).bind fun c=>
 if (c != 0) then
 some c
 else
 g (a.1,a.2.1,i64 (b.2.2+1))
def h6e (b:(Version×(O iQ)×Int) -> A3 Int)(a:Version×(O iQ)×Int):A3 Int:=
 if (decide (a.2.2<(a.1.Reduces.length:Int))) then
 d9 FU (h6s a b) (a.1,a.2.1,0)
 else
 some 0
def h6a (b:(Version×(O iQ)×Int) -> A3 Int)(a:Version×(O iQ)×Int):A3 Int:=
 if (decide (a.2.2<(a.1.Grants.length:Int))) then
 d9 FU (h6p a b) (a.1,a.2.1,0)
 else
 d9 FU h6e (a.1,a.2.1,0)
def h5j (d:(Version×(O iQ)×Int) -> A3 Int)(a:Version×(O iQ)×Int):A3 Int:=
 if (decide (a.2.2<(a.1.Series.length:Int))) then
 (c7 a.1.Series a.2.2).bind fun c=>
 (c7 a.1.Series (i64 (a.2.2-1))).bind fun b=>
 if (decide (c.Year <= b.Year)) then
 some 1
 else
 d (a.1,a.2.1,i64 (a.2.2+1))
 else
 d9 FU h6a (a.1,a.2.1,0)
def h6c (b:(Version×(O iQ)×Int) -> A3 Int)(a:Version×(O iQ)×Int):A3 Int:=
 if (decide (a.2.2<(a.1.Credits.length:Int))) then
 d9 FU (h6q a b) (a.1,a.2.1,0)
 else
 d9 FU h5j (a.1,a.2.1,1)
def h5c (b:Version):A3 Int:=
 (h6o b.Lets).bind fun a=>
 if (a.2 != 0) then
 some a.2
 else
 d9 FU h6c (b,a.1,0)
def h6r (c:(Statute×Int) -> A3 (Int×Int))(a:Statute×Int):A3 (Int×Int):=
 if (decide (a.2<(a.1.Versions.length:Int))) then
 (if (decide (a.2>0)) then (c7 a.1.Versions a.2).bind fun f=>
 (c7 a.1.Versions (i64 (a.2-1))).bind fun e=>
 some (decide (f.From <= e.From)) else some false).bind fun d=>
 if d then
 some (a.2,1)
 else
 (c7 a.1.Versions a.2).bind fun g=>
 (h5c g).bind fun b=>
 if (b != 0) then
 some (a.2,b)
 else
 c (a.1,i64 (a.2+1))
 else
 some (0,0)
def h5l (a:Statute):A3 (Int×Int):=
 (b00 a).bind fun b=>
 if (!b) then
 some (0,1)
 else
 d9 FU h6r (a,0)
def h6g (j:Int -> A3 Int)(k:Int)(h:(Rules×Int) -> A3 Int)(a:Rules×Int):A3 Int:=
 if (decide (a.2<(a.1.Members.length:Int))) then
 (c7 a.1.Members a.2).bind fun b=>
 (if (decide (b<0)) then some true else (c7 a.1.Members a.2).bind fun c=>
 some (decide (c >= 6))).bind fun f=>
 (if f then some true else (if (decide (a.2>0)) then (c7 a.1.Members a.2).bind fun g=>
 (c7 a.1.Members (i64 (a.2-1))).bind fun i=>
 some (decide (g <= i)) else some false).bind fun d=>
 some d).bind fun e=>
 if e then
 some 1
 else
 h (a.1,i64 (a.2+1))
 else
 j (i64 (k+1))
def h5d (i:O Rules)(j:Int -> A3 Int)(b:Int):A3 Int:=
 if (decide (b<(i.length:Int))) then
 (c7 i b).bind fun a=>
 (a6n a.From).bind fun l=>
 (if (!l) then some true else (if (decide (b>0)) then (c7 i (i64 (b-1))).bind fun n=>
 some (decide (a.From <= n.From)) else some false).bind fun k=>
 some k).bind fun m=>
 (if m then some true else some (decide (a.MinDays<0))).bind fun f=>
 (if f then some true else some (decide (a.MinDays>73049))).bind fun e=>
 (if e then some true else some (decide (a.PostingLimit<0))).bind fun g=>
 (if g then some true else some (decide (a.PostingLimit>73049))).bind fun h=>
 (if h then some true else some (decide (a.Substantial<0))).bind fun d=>
 (if d then some true else some (decide (a.Substantial>100))).bind fun c=>
 if c then
 some 1
 else
 d9 FU (h6g j b) (a,0)
 else
 some 0
def h5p (a:O Rules):A3 Int:=
 if (decide ((a.length:Int)>8)) then
 some 7
 else
 (if ((a.length:Int)==0) then some true else (c7 a 0).bind fun b=>
 some (b.From != 0)).bind fun c=>
 if c then
 some 1
 else
 d9 FU (h5d a) 0
def h7n (a:Int):A3 Bool:=
 (if (decide (a >= 0)) then some (decide (a <= 2399)) else some false).bind fun b=>
 some b
def h8d (b:O Rate)(u:Int -> A3 Int)(a:Int):A3 Int:=
 if (decide (a<(b.length:Int))) then
 (c7 b a).bind fun c=>
 (c7 b a).bind fun x=>
 (if (decide (x.Currency<1)) then some true else (c7 b a).bind fun w=>
 some (decide (w.Currency>999))).bind fun r=>
 (if r then some true else (c7 b a).bind fun v=>
 (h7n v.Month).bind fun t=>
 some (!t)).bind fun s=>
 (if s then some true else (a1h c.Value).bind fun i=>
 some (!i)).bind fun e=>
 (if e then some true else some (decide (c.Value.Num<1))).bind fun m=>
 (if m then some true else some (decide (c.Value.Num>1000000))).bind fun o=>
 (if o then some true else some (decide (c.Value.Den>1000000))).bind fun d=>
 if d then
 some 1
 else
 (if (decide (a>0)) then (c7 b (i64 (a-1))).bind fun h=>
 (c7 b a).bind fun g=>
 (if (decide (h.Currency>g.Currency)) then some true else (c7 b (i64 (a-1))).bind fun j=>
 (c7 b a).bind fun k=>
 (if (j.Currency==k.Currency) then (c7 b (i64 (a-1))).bind fun l=>
 (c7 b a).bind fun p=>
 some (decide (l.Month >= p.Month)) else some false).bind fun q=>
 some q).bind fun n=>
 some n else some false).bind fun f=>
 if f then
 some 1
 else
 u (i64 (a+1))
 else
 some 0
def h6d (a:O Rate):A3 Int:=
 if (decide ((a.length:Int)>40)) then
 some 7
 else
 d9 FU (h8d a) 0
def h4z (p:Laws):A3 Int:=
 lpC (p,(0:Int)) fun k ⟨f,b⟩=>
 if (decide (b<(f.States.length:Int))) then
 (c7 f.States b).bind fun j=>
 (if (decide (j.State<0)) then some true else some (decide (j.State >= 6))).bind fun n=>
 (if n then some true else (if (decide (b>0)) then (c7 f.States (i64 (b-1))).bind fun l=>
 some (decide (j.State <= l.State)) else some false).bind fun o=>
 some o).bind fun m=>
 if m then
 some 1
 else
 k (f,i64 (b+1))
 else
 lpC (f,(0:Int)) fun h ⟨d,a⟩=>
 if (decide (a<(d.States.length:Int))) then
 (c7 d.States a).bind fun i=>
 (h5l i.Statute).bind fun e=>
 if (e.2 != 0) then
 some e.2
 else
 h (d,i64 (a+1))
 else
 (h5p d.Treaty).bind fun c=>
 if (c != 0) then
 some c
 else
 (h6d d.Rates).bind fun g=>
 some g
def h5q (b:Laws)(d:Int):A3 Int:=
 (h4z b).bind fun a=>
 if (a != 0) then
 some a
 else
 (a6n d).bind fun c=>
 if (!c) then
 some 1
 else
 some 0
def h6u (f:Laws)(d:Int):A3 Int:=
 lpC (f,(0:Int)) fun c ⟨b,a⟩=>
 if (decide (a<(b.States.length:Int))) then
 (c7 b.States a).bind fun e=>
 if (e.State==d) then
 some a
 else
 c (b,i64 (a+1))
 else
 some (-1:Int)
def h8l (c:Int)(b:(Statute×(O Credit)×(O Index)×(O Let)×(O Grant)×(O Reduce)×Version×Int) -> A3 (Version×Bool))(a:Statute×(O Credit)×(O Index)×(O Let)×(O Grant)×(O Reduce)×Version×Int):A3 (Version×Bool):=
 if (decide (a.2.2.2.2.2.2.2 >= 0)) then
 (c7 a.1.Versions a.2.2.2.2.2.2.2).bind fun e=>
 if (decide (e.From <= c)) then
 (c7 a.1.Versions a.2.2.2.2.2.2.2).bind fun d=>
 some (d,true)
 else
 b (a.1,a.2.1,a.2.2.1,a.2.2.2.1,a.2.2.2.2.1,a.2.2.2.2.2.1,(⟨a.2.2.2.2.2.2.1.From,a.2.2.2.2.2.2.1.Rounding,[],[],[],[],[]⟩:Version),i64 (a.2.2.2.2.2.2.2-1))
 else
 some ((⟨0,(⟨0,0⟩:Rounding),[],[],[],[],[]⟩:Version),false)
def h7r (a:Statute)(b:Int):A3 (Version×Bool):=
 (a6n b).bind fun c=>
 if (!c) then
 some ((⟨0,(⟨0,0⟩:Rounding),[],[],[],[],[]⟩:Version),false)
 else
 d9 FU (h8l b) (a,[],[],[],[],[],(⟨0,(⟨0,0⟩:Rounding),[],[],[],[],[]⟩:Version),i64 ((a.Versions.length:Int)-1))
def h5u (a:Laws)(e f:Int):A3 (Version×Int×Int):=
 (h6u a e).bind fun b=>
 if (decide (b<0)) then
 some ((⟨0,(⟨0,0⟩:Rounding),[],[],[],[],[]⟩:Version),0,9)
 else
 (c7 a.States b).bind fun d=>
 (h7r d.Statute f).bind fun c=>
 if (!c.2) then
 some ((⟨0,(⟨0,0⟩:Rounding),[],[],[],[],[]⟩:Version),0,9)
 else
 (c7 a.States b).bind fun g=>
 some (c.1,g.Statute.Currency,0)
def h7c (c:Laws)(e b:Int):A3 (Version×Int×Int):=
 (h5q c b).bind fun d=>
 if (d != 0) then
 some ((⟨0,(⟨0,0⟩:Rounding),[],[],[],[],[]⟩:Version),0,d)
 else
 (h5u c e b).bind fun a=>
 some (a.1,a.2.1,a.2.2)
def h7g (a:View):A3 (Ar 7 Int):=
 some (⟨[a.Insured,a.Worked,a.Voluntary,a.Service,a.Equated,a.Raising,a.Resident],rfl⟩:Ar 7 Int)
def k2g (b c:Int):A3 pensionref1_wide:=
 (b3s b c).bind fun a=>
 some (⟨a.1,a.2⟩:pensionref1_wide)
def k2j (a b:pensionref1_wide):A3 Bool:=
 (if (decide (a.hi<b.hi)) then some true else (if (a.hi==b.hi) then some (decide (a.lo<b.lo)) else some false).bind fun c=>
 some c).bind fun d=>
 some d
def h7p (a b:fQ):A3 Int:=
 if ((a.Num==b.Num)&&((a.Den==b.Den)&&(true))) then
 some 0
 else
 if ((decide (a.Num<0)) != (decide (b.Num<0))) then
 if (decide (a.Num<0)) then
 some (-1:Int)
 else
 some 1
 else
 (a43 a.Num).bind fun g=>
 (k2g g (u64 (b.Den))).bind fun c=>
 (a43 b.Num).bind fun f=>
 (k2g f (u64 (a.Den))).bind fun e=>
 (k2j c e).bind fun d=>
 if (d==(decide (a.Num<0))) then
 some 1
 else
 some (-1:Int)
def h4q (b a:fQ):A3 (Int×Int):=
 (a1h b).bind fun f=>
 (if (!f) then some true else (a1h a).bind fun c=>
 some (!c)).bind fun e=>
 if e then
 some (0,1)
 else
 (h7p b a).bind fun d=>
 some (d,0)
def h6b (b:O Int)(d:Int -> A3 Bool)(a:Int):A3 Bool:=
 if (decide (a<(b.length:Int))) then
 (c7 b a).bind fun f=>
 (if (decide (f<0)) then some true else (c7 b a).bind fun e=>
 some (decide (e>1000000000000))).bind fun c=>
 if c then
 some false
 else
 d (i64 (a+1))
 else
 some true
def h5y (a:O Int):A3 Bool:=
 if (decide ((a.length:Int)>200)) then
 some false
 else
 d9 FU (h6b a) 0
def h6j (l:(View×(Ar 7 Int)×Int) -> A3 Bool)(a:View×(Ar 7 Int)×Int):A3 Bool:=
 if (decide (a.2.2<7)) then
 (c7 a.2.1.l a.2.2).bind fun m=>
 (c7 a.2.1.l a.2.2).bind fun e=>
 (if (decide (e<0)) then some true else (c7 a.2.1.l a.2.2).bind fun k=>
 (c7 a.2.1.l a.2.2).bind fun f=>
 some (decide (f>73049))).bind fun g=>
 if g then
 some false
 else
 l (a.1,a.2.1,i64 (a.2.2+1))
 else
 (a3r 1000000000000 1).bind fun c=>
 (h4q a.1.Base c.1).bind fun b=>
 (if (b.2==0) then some (decide (b.1 <= 0)) else some false).bind fun i=>
 (if i then some (decide (a.1.Base.Num >= 0)) else some false).bind fun j=>
 (if j then (h5y a.1.Years).bind fun h=>
 some h else some false).bind fun d=>
 some d
def h4r (a:View):A3 Bool:=
 (if (decide (a.Age<0)) then some true else some (decide (a.Age>199))).bind fun g=>
 (if g then some true else some (decide (a.Year<1900))).bind fun b=>
 (if b then some true else some (decide (a.Year>2099))).bind fun f=>
 (if f then some true else some (decide (a.Children<0))).bind fun e=>
 (if e then some true else some (decide (a.Children>99))).bind fun d=>
 if d then
 some false
 else
 (h7g a).bind fun c=>
 d9 FU h6j (a,c,0)
structure Ring_pensionref8_mentions where
 f_pensionref8_mentions:Expr -> ByteArray -> Option Bool
def h8o (R:Ring_pensionref8_mentions)(c:A4)(b:(Expr×Int) -> A3 Bool)(a:Expr×Int):A3 Bool:=
 if (decide (a.2<(a.1.Args.length:Int))) then
 (c7 a.1.Args a.2).bind fun e=>
 (R.f_pensionref8_mentions e c).bind fun d=>
 if d then
 some true
 else
 b (a.1,i64 (a.2+1))
 else
 some false
def h7m (R:Ring_pensionref8_mentions)(a:Expr)(b:A4):A3 Bool:=
 (if (a.Op==2) then some (a.Name.toList==b.toList) else some false).bind fun c=>
 if c then
 some true
 else
 d9 FU (h8o R b) (a,0)
def h4o:Nat -> Ring_pensionref8_mentions
 | 0=>⟨fun _ _=>none⟩
 | n+1=>⟨h7m (h4o n)⟩
def h7w (a:Expr)(b:A4):A3 Bool:=(h4o FU).f_pensionref8_mentions a b
def h9a (e:O Let)(b:Expr×(O Bool)×Int)(k n:(Expr×(O Bool)×Int) -> A3 (O Int))(a:Expr×(O Bool)×Int):A3 (O Int):=
 if (decide (a.2.2<(e.length:Int))) then
 (c7 a.2.1 b.2.2).bind fun m=>
 (c7 a.2.1 b.2.2).bind fun f=>
 (if f then some true else (c7 a.2.1 a.2.2).bind fun o=>
 (c7 a.2.1 a.2.2).bind fun h=>
 (if h then (c7 e a.2.2).bind fun d=>
 (c7 e b.2.2).bind fun c=>
 (h7w d.Body c.Name).bind fun i=>
 some i else some false).bind fun j=>
 some j).bind fun g=>
 (c7 a.2.1 b.2.2).bind fun l=>
 (c7 a.2.1 b.2.2).bind fun p=>
 n (a.1,a8h a.2.1 b.2.2 g,i64 (a.2.2+1))
 else
 k (a.1,a.2.1,i64 (b.2.2-1))
def h9c (b:((O Bool)×(O Int)×Int) -> A3 (O Int))(a:(O Bool)×(O Int)×Int):A3 (O Int):=
 if (decide (a.2.2<(a.1.length:Int))) then
 (c7 a.1 a.2.2).bind fun e=>
 (c7 a.1 a.2.2).bind fun d=>
 if d then
 (a4n 8 a.2.1 [a.2.2]).bind fun c=>
 b (a.1,c,i64 (a.2.2+1))
 else
 b (a.1,a.2.1,i64 (a.2.2+1))
 else
 some a.2.1
def h9b (b:O Let)(c:(Expr×(O Bool)×Int) -> A3 (O Int))(a:Expr×(O Bool)×Int):A3 (O Int):=
 if (decide (a.2.2 >= 0)) then
 (c7 b a.2.2).bind fun e=>
 (h7w a.1 e.Name).bind fun d=>
 (c7 a.2.1 a.2.2).bind fun f=>
 (c7 a.2.1 a.2.2).bind fun g=>
 d9 FU (h9a b a c) (a.1,a8h a.2.1 a.2.2 d,i64 (a.2.2+1))
 else
 d9 FU h9c (a.2.1,[],0)
def h7v (b:Expr)(a:O Let):A3 (O Int):=
 (mkI 1 (false:Bool) (a.length:Int) (a.length:Int)).bind fun c=>
 d9 FU (h9b a) (b,c,i64 ((a.length:Int)-1))
def h5i (a:Value):A3 Bool:=
 if (a.Dim==1) then
 some ((a.Num.Num==0)&&((a.Num.Den==0)&&(true)))
 else
 (if (decide (a.Dim >= 2)) then some (decide (a.Dim <= 4)) else some false).bind fun e=>
 (if e then some (!a.Yes) else some false).bind fun b=>
 (if b then (a1h a.Num).bind fun d=>
 some d else some false).bind fun c=>
 some c
def h7z (k:O Int)(g:fQ×(O Int)×Int)(l n:(fQ×(O Int)×Int) -> A3 (fQ×Int))(a:fQ×(O Int)×Int):A3 (fQ×Int):=
 (if (decide (a.2.2>0)) then (c7 a.2.1 (i64 (a.2.2-1))).bind fun o=>
 (c7 a.2.1 (i64 (a.2.2-1))).bind fun m=>
 (c7 k g.2.2).bind fun e=>
 some (decide (m<e)) else some false).bind fun d=>
 if d then
 n (a.1,a.2.1,i64 (a.2.2-1))
 else
 (a1x a.2.1 0 a.2.2).bind fun f=>
 (a4n 8 [] f).bind fun h=>
 (c7 k g.2.2).bind fun c=>
 (a4n 8 h [c]).bind fun b=>
 (a1x a.2.1 a.2.2 (a.2.1.length:Int)).bind fun i=>
 (a4n 8 b i).bind fun j=>
 l (a.1,j,i64 (g.2.2+1))
def h8b (f:Int)(d:(fQ×(O Int)×Int×Int) -> A3 (fQ×Int))(a:fQ×(O Int)×Int×Int):A3 (fQ×Int):=
 (if (decide (a.2.2.2<(a.2.1.length:Int))) then some (decide (a.2.2.2<f)) else some false).bind fun c=>
 if c then
 (c7 a.2.1 a.2.2.2).bind fun g=>
 (c7 a.2.1 a.2.2.2).bind fun e=>
 d (a.1,a.2.1,i64 (a.2.2.1+e),i64 (a.2.2.2+1))
 else
 (a3r a.2.2.1 f).bind fun b=>
 some (b.1,b.2)
def h7i (b:O Int)(d:Int)(c:(fQ×(O Int)×Int) -> A3 (fQ×Int))(a:fQ×(O Int)×Int):A3 (fQ×Int):=
 if (decide (a.2.2<(b.length:Int))) then
 d9 FU (h7z b a c) (a.1,a.2.1,(a.2.1.length:Int))
 else
 d9 FU (h8b d) (a.1,a.2.1,0,0)
def h5r (b:O Int)(a:Int):A3 (fQ×Int):=
 (if (decide (a<1)) then some true else some (decide (a>45))).bind fun e=>
 (if e then some true else (h5y b).bind fun c=>
 some (!c)).bind fun d=>
 if d then
 some ((⟨0,0⟩:fQ),1)
 else
 d9 FU (h7i b a) ((⟨0,0⟩:fQ),[],0)
def h8k:A3 (O A4):=
 some [e0r,d3o,c6q,b6u,c5w,b0b,b3z,c3c,c3j,c6v,e39]
def h8w (d:A4)(g:Int×Bool)(b:(View×Value×(O A4)×(Ar 7 Int)×Int×Int) -> A3 (Value×Bool))(a:View×Value×(O A4)×(Ar 7 Int)×Int×Int):A3 (Value×Bool):=
 if (decide (a.2.2.2.2.2<(a.2.2.1.length:Int))) then
 (c7 a.2.2.1 a.2.2.2.2.2).bind fun h=>
 (c7 a.2.2.1 a.2.2.2.2.2).bind fun f=>
 if (f.toList != d.toList) then
 b (a.1,a.2.1,a.2.2.1,a.2.2.2.1,a.2.2.2.2.1,i64 (a.2.2.2.2.2+1))
 else
 if (a.2.2.2.2.2==0) then
 b (a.1,a.2.1,a.2.2.1,a.2.2.2.1,a.1.Age,i64 (a.2.2.2.2.2+1))
 else
 if (a.2.2.2.2.2==1) then
 b (a.1,a.2.1,a.2.2.1,a.2.2.2.1,a.1.Year,i64 (a.2.2.2.2.2+1))
 else
 if (a.2.2.2.2.2==2) then
 b (a.1,a.2.1,a.2.2.1,a.2.2.2.1,a.1.Children,i64 (a.2.2.2.2.2+1))
 else
 (c7 a.2.2.2.1.l (i64 (a.2.2.2.2.2-3))).bind fun e=>
 (c7 a.2.2.2.1.l (i64 (a.2.2.2.2.2-3))).bind fun c=>
 b (a.1,a.2.1,a.2.2.1,a.2.2.2.1,c,i64 (a.2.2.2.2.2+1))
 else
 some ((⟨g.1,false,(⟨a.2.2.2.2.1,1⟩:fQ)⟩:Value),true)
def h5g (a:View)(b:A4):A3 (Value×Bool):=
 (h5w b).bind fun c=>
 (if (!c.2) then some true else (h4r a).bind fun d=>
 some (!d)).bind fun g=>
 if g then
 some ((⟨0,false,(⟨0,0⟩:fQ)⟩:Value),false)
 else
 if (b.toList==e39.toList) then
 some ((⟨c.1,false,a.Base⟩:Value),true)
 else
 (h8k).bind fun f=>
 (h7g a).bind fun e=>
 d9 FU (h8w b c) (a,(⟨0,false,(⟨0,0⟩:fQ)⟩:Value),f,e,0,0)
def h8a (a:fQ):A3 (fQ×Int):=
 (a1h a).bind fun b=>
 if (!b) then
 some ((⟨0,0⟩:fQ),1)
 else
 some ((⟨i64 (-a.Num),a.Den⟩:fQ),0)
def h8i (a:fQ):A3 (Int×Int):=
 (a1h a).bind fun c=>
 if (!c) then
 some (0,1)
 else
 (c2t a.Num a.Den).bind fun b=>
 if (decide ((i64 (b*a.Den))>a.Num)) then
 some (i64 (b-1),0)
 else
 some (b,0)
def k2f (a c:pensionref1_wide):A3 pensionref1_wide:=
 (c23 a.lo c.lo 0).bind fun b=>
 some (⟨u64 ((u64 (a.hi+c.hi))+b.2),b.1⟩:pensionref1_wide)
def k2i (a c:pensionref1_wide):A3 pensionref1_wide:=
 (c1u a.lo c.lo 0).bind fun b=>
 some (⟨u64 ((u64 (a.hi-c.hi))-b.2),b.1⟩:pensionref1_wide)
def k2d (a b:fQ):A3 (fQ×Int):=
 (a1h a).bind fun p=>
 (if (!p) then some true else (a1h b).bind fun k=>
 some (!k)).bind fun o=>
 if o then
 some ((⟨0,0⟩:fQ),1)
 else
 (a43 a.Num).bind fun n=>
 (k2g n (u64 (b.Den))).bind fun e=>
 (a43 b.Num).bind fun l=>
 (k2g l (u64 (a.Den))).bind fun f=>
 if ((decide (a.Num<0))==(decide (b.Num<0))) then
 (k2f e f).bind fun m=>
 (b2l (decide (a.Num<0)) m (u64 ((u64 (a.Den))*(u64 (b.Den))))).bind fun j=>
 some (j.1,j.2)
 else
 (k2j e f).bind fun h=>
 if h then
 (k2i f e).bind fun g=>
 (b2l (decide (b.Num<0)) g (u64 ((u64 (a.Den))*(u64 (b.Den))))).bind fun d=>
 some (d.1,d.2)
 else
 (k2i e f).bind fun i=>
 (b2l (decide (a.Num<0)) i (u64 ((u64 (a.Den))*(u64 (b.Den))))).bind fun c=>
 some (c.1,c.2)
def h7k (c d:fQ):A3 (fQ×Int):=
 (h8a d).bind fun a=>
 if (a.2 != 0) then
 some ((⟨0,0⟩:fQ),a.2)
 else
 (k2d c a.1).bind fun b=>
 some (b.1,b.2)
def h5b (p:Bool)(g h i j:Int):A3 (fQ×Int):=
 (a9s g j).bind fun d=>
 (a9s i h).bind fun a=>
 (if d=0 then none else some (u64 (Int.tdiv g d))).bind fun o=>
 (if a=0 then none else some (u64 (Int.tdiv i a))).bind fun m=>
 (k2g o m).bind fun c=>
 (if a=0 then none else some (u64 (Int.tdiv h a))).bind fun k=>
 (if d=0 then none else some (u64 (Int.tdiv j d))).bind fun n=>
 (k2g k n).bind fun b=>
 (if (c.hi != 0) then some true else some (decide (c.lo>1000000000000000))).bind fun l=>
 (if l then some true else some (b.hi != 0)).bind fun f=>
 (if f then some true else some (decide (b.lo>1000000000))).bind fun e=>
 if e then
 some ((⟨0,0⟩:fQ),2)
 else
 if p then
 some ((⟨i64 (-(i64 (c.lo))),i64 (b.lo)⟩:fQ),0)
 else
 some ((⟨i64 (c.lo),i64 (b.lo)⟩:fQ),0)
def h4v (b a:fQ):A3 (fQ×Int):=
 (a1h b).bind fun h=>
 (if (!h) then some true else (a1h a).bind fun d=>
 some (!d)).bind fun g=>
 if g then
 some ((⟨0,0⟩:fQ),1)
 else
 (a43 b.Num).bind fun f=>
 (a43 a.Num).bind fun e=>
 (h5b ((decide (b.Num<0)) != (decide (a.Num<0))) f (u64 (b.Den)) e (u64 (a.Den))).bind fun c=>
 some (c.1,c.2)
def h4u (b a:fQ):A3 (fQ×Int):=
 (a1h b).bind fun h=>
 (if (!h) then some true else (a1h a).bind fun d=>
 some (!d)).bind fun g=>
 if g then
 some ((⟨0,0⟩:fQ),1)
 else
 if (a.Num==0) then
 some ((⟨0,0⟩:fQ),3)
 else
 (a43 b.Num).bind fun f=>
 (a43 a.Num).bind fun e=>
 (h5b ((decide (b.Num<0)) != (decide (a.Num<0))) f (u64 (b.Den)) (u64 (a.Den)) e).bind fun c=>
 some (c.1,c.2)
def h4h (a:Value×Value×Int):A3 (Value×Int):=
 if (a.2.2 != 0) then
 some ((⟨0,false,(⟨0,0⟩:fQ)⟩:Value),a.2.2)
 else
 some (a.2.1,0)
def h7b (a:Int×(O Value)×Value×Value×Int×Int×Int×Bool):A3 (Value×Int):=
 if a.2.2.2.2.2.2.2 then
 (c7 a.2.1 0).bind fun c=>
 (if ((decide (a.2.2.2.2.2.1<0))==(a.1==20)) then some (a.2.2.2.2.2.1 != 0) else some false).bind fun b=>
 if b then
 (c7 a.2.1 1).bind fun d=>
 joinC h4h (a.2.2.1,(⟨a.2.2.2.1.Dim,a.2.2.2.1.Yes,d.Num⟩:Value),a.2.2.2.2.1)
 else
 joinC h4h (a.2.2.1,(⟨a.2.2.2.1.Dim,a.2.2.2.1.Yes,c.Num⟩:Value),a.2.2.2.2.1)
 else
 if (a.2.2.2.2.2.2.1==11) then
 joinC h4h (a.2.2.1,(⟨a.2.2.2.1.Dim,decide (a.2.2.2.2.2.1<0),a.2.2.2.1.Num⟩:Value),a.2.2.2.2.1)
 else
 if (a.2.2.2.2.2.2.1==12) then
 joinC h4h (a.2.2.1,(⟨a.2.2.2.1.Dim,decide (a.2.2.2.2.2.1 <= 0),a.2.2.2.1.Num⟩:Value),a.2.2.2.2.1)
 else
 if (a.2.2.2.2.2.2.1==13) then
 joinC h4h (a.2.2.1,(⟨a.2.2.2.1.Dim,a.2.2.2.2.2.1==0,a.2.2.2.1.Num⟩:Value),a.2.2.2.2.1)
 else
 if (a.2.2.2.2.2.2.1==14) then
 joinC h4h (a.2.2.1,(⟨a.2.2.2.1.Dim,a.2.2.2.2.2.1 != 0,a.2.2.2.1.Num⟩:Value),a.2.2.2.2.1)
 else
 if (a.2.2.2.2.2.2.1==15) then
 joinC h4h (a.2.2.1,(⟨a.2.2.2.1.Dim,decide (a.2.2.2.2.2.1>0),a.2.2.2.1.Num⟩:Value),a.2.2.2.2.1)
 else
 if (a.2.2.2.2.2.2.1==16) then
 joinC h4h (a.2.2.1,(⟨a.2.2.2.1.Dim,decide (a.2.2.2.2.2.1 >= 0),a.2.2.2.1.Num⟩:Value),a.2.2.2.2.1)
 else
 joinC h4h (a.2.2.1,a.2.2.2.1,a.2.2.2.2.1)
def h4y (a:Int×(O Value)×Value×Value×Int×Int):A3 (Value×Int):=
 if (a.1==5) then
 (c7 a.2.1 0).bind fun l=>
 joinC h4h (a.2.2.1,(⟨a.2.2.2.1.Dim,!l.Yes,a.2.2.2.1.Num⟩:Value),a.2.2.2.2.1)
 else
 if (a.1==4) then
 (c7 a.2.1 0).bind fun n=>
 (h8a n.Num).bind fun e=>
 joinC h4h (a.2.2.1,(⟨a.2.2.2.1.Dim,a.2.2.2.1.Yes,e.1⟩:Value),e.2)
 else
 if (a.1==6) then
 (c7 a.2.1 0).bind fun h=>
 (h8i h.Num).bind fun g=>
 joinC h4h (a.2.2.1,(⟨a.2.2.2.1.Dim,a.2.2.2.1.Yes,(⟨g.1,1⟩:fQ)⟩:Value),a.2.2.2.2.1)
 else
 if (a.1==7) then
 (c7 a.2.1 0).bind fun q=>
 (c7 a.2.1 1).bind fun k=>
 (k2d q.Num k.Num).bind fun c=>
 joinC h4h (a.2.2.1,(⟨a.2.2.2.1.Dim,a.2.2.2.1.Yes,c.1⟩:Value),c.2)
 else
 if (a.1==8) then
 (c7 a.2.1 0).bind fun j=>
 (c7 a.2.1 1).bind fun p=>
 (h7k j.Num p.Num).bind fun f=>
 joinC h4h (a.2.2.1,(⟨a.2.2.2.1.Dim,a.2.2.2.1.Yes,f.1⟩:Value),f.2)
 else
 if (a.1==9) then
 (c7 a.2.1 0).bind fun r=>
 (c7 a.2.1 1).bind fun m=>
 (h4v r.Num m.Num).bind fun d=>
 joinC h4h (a.2.2.1,(⟨a.2.2.2.1.Dim,a.2.2.2.1.Yes,d.1⟩:Value),d.2)
 else
 if (a.1==10) then
 (c7 a.2.1 0).bind fun o=>
 (c7 a.2.1 1).bind fun i=>
 (h4u o.Num i.Num).bind fun b=>
 joinC h4h (a.2.2.1,(⟨a.2.2.2.1.Dim,a.2.2.2.1.Yes,b.1⟩:Value),b.2)
 else
 if (a.1==19) then
 joinC h7b (a.1,a.2.1,a.2.2.1,a.2.2.2.1,a.2.2.2.2.1,a.2.2.2.2.2,a.1,a.1==19)
 else
 joinC h7b (a.1,a.2.1,a.2.2.1,a.2.2.2.1,a.2.2.2.2.1,a.2.2.2.2.2,a.1,a.1==20)
def h5v (b:O Value)(c:Int)(g:(Value×(O Int)×Int) -> A3 (Value×Int))(a:Value×(O Int)×Int):A3 (Value×Int):=
 if (decide (a.2.2<(b.length:Int))) then
 (c7 b a.2.2).bind fun j=>
 (a4n 8 a.2.1 [j.Dim]).bind fun h=>
 g (a.1,h,i64 (a.2.2+1))
 else
 (h4i c a.2.1).bind fun d=>
 if ((b.length:Int)==2) then
 (c7 b 0).bind fun f=>
 (c7 b 1).bind fun i=>
 (h4q f.Num i.Num).bind fun e=>
 joinC h4y (c,b,a.1,(⟨d,false,(⟨0,0⟩:fQ)⟩:Value),0,e.1)
 else
 joinC h4y (c,b,a.1,(⟨d,false,(⟨0,0⟩:fQ)⟩:Value),0,0)
def h4m (a:Int)(b:O Value):A3 (Value×Int):=
 d9 FU (h5v b a) ((⟨0,false,(⟨0,0⟩:fQ)⟩:Value),[],0)
structure Ring_pensionref8_value where
 f_pensionref8_value:Expr -> View -> (List Step) -> Option (Value×Int)
def h5s (R:Ring_pensionref8_value)(b:O Step)(c:(Expr×Value×Int) -> A3 (Value×Int))(a:Expr×Value×Int):A3 (Value×Int):=
 if (decide (a.2.2 >= 0)) then
 (c7 b a.2.2).bind fun e=>
 if (e.Name.toList==a.1.Name.toList) then
 (c7 b a.2.2).bind fun d=>
 some (d.Value,0)
 else
 c (a.1,a.2.1,i64 (a.2.2-1))
 else
 some ((⟨0,false,(⟨0,0⟩:fQ)⟩:Value),5)
def h4t (R:Ring_pensionref8_value)(g:(O Step)×Expr×View×Value×Int×Bool)(d:(Expr×View×Value×(O Value)×Int) -> A3 (Value×Int))(a:Expr×View×Value×(O Value)×Int):A3 (Value×Int):=
 if (decide (a.2.2.2.2<(a.1.Args.length:Int))) then
 (c7 a.1.Args a.2.2.2.2).bind fun f=>
 (R.f_pensionref8_value f a.2.1 g.1).bind fun b=>
 if (b.2 != 0) then
 some ((⟨0,false,(⟨0,0⟩:fQ)⟩:Value),b.2)
 else
 (a4n 32 a.2.2.2.1 [b.1]).bind fun e=>
 d (a.1,a.2.1,a.2.2.1,e,i64 (a.2.2.2.2+1))
 else
 (h4m a.1.Op a.2.2.2.1).bind fun c=>
 some (c.1,c.2)
def h7a (R:Ring_pensionref8_value)(a:(O Step)×Expr×View×Value×Int×Bool):A3 (Value×Int):=
 if a.2.2.2.2.2 then
 (c7 a.2.1.Args 0).bind fun l=>
 (R.f_pensionref8_value l a.2.2.1 a.1).bind fun f=>
 (if (f.2 != 0) then some true else some (f.1.Yes==(a.2.1.Op==18))).bind fun i=>
 if i then
 some (f.1,f.2)
 else
 (c7 a.2.1.Args 1).bind fun h=>
 (R.f_pensionref8_value h a.2.2.1 a.1).bind fun c=>
 some (c.1,c.2)
 else
 if (a.2.2.2.2.1==21) then
 (c7 a.2.1.Args 0).bind fun j=>
 (R.f_pensionref8_value j a.2.2.1 a.1).bind fun b=>
 if (b.2 != 0) then
 some ((⟨0,false,(⟨0,0⟩:fQ)⟩:Value),b.2)
 else
 if b.1.Yes then
 (c7 a.2.1.Args 1).bind fun g=>
 (R.f_pensionref8_value g a.2.2.1 a.1).bind fun e=>
 some (e.1,e.2)
 else
 (c7 a.2.1.Args 2).bind fun k=>
 (R.f_pensionref8_value k a.2.2.1 a.1).bind fun d=>
 some (d.1,d.2)
 else
 d9 FU (h4t R a) (a.2.1,a.2.2.1,a.2.2.2.1,[],0)
def h4w (R:Ring_pensionref8_value)(a:Expr)(b:View)(c:O Step):A3 (Value×Int):=
 if (a.Op==1) then
 some ((⟨a.Dim,false,a.Value⟩:Value),0)
 else
 if (a.Op==3) then
 (h5r b.Years a.Value.Num).bind fun d=>
 if (d.2 != 0) then
 some ((⟨0,false,(⟨0,0⟩:fQ)⟩:Value),d.2)
 else
 some ((⟨4,false,d.1⟩:Value),0)
 else
 if (a.Op==2) then
 (h5g b a.Name).bind fun e=>
 if e.2 then
 some (e.1,0)
 else
 d9 FU (h5s R c) (a,(⟨0,false,(⟨0,0⟩:fQ)⟩:Value),i64 ((c.length:Int)-1))
 else
 if (a.Op==17) then
 joinC (h7a R) (c,a,b,(⟨0,false,(⟨0,0⟩:fQ)⟩:Value),a.Op,a.Op==17)
 else
 joinC (h7a R) (c,a,b,(⟨0,false,(⟨0,0⟩:fQ)⟩:Value),a.Op,a.Op==18)
def h28:Nat -> Ring_pensionref8_value
 | 0=>⟨fun _ _ _=>none⟩
 | n+1=>⟨h4w (h28 n)⟩
def h7q (a:Expr)(b:View)(c:O Step):A3 (Value×Int):=(h28 FU).f_pensionref8_value a b c
def h7j (c:O Step)(e:(Expr×View×Value×(O iQ)×Int) -> A3 (Value×Int))(a:Expr×View×Value×(O iQ)×Int):A3 (Value×Int):=
 if (decide (a.2.2.2.2<(c.length:Int))) then
 (c7 c a.2.2.2.2).bind fun i=>
 (h5i i.Value).bind fun h=>
 if (!h) then
 some ((⟨0,false,(⟨0,0⟩:fQ)⟩:Value),1)
 else
 (c7 c a.2.2.2.2).bind fun g=>
 (c7 c a.2.2.2.2).bind fun j=>
 (a4n 24 a.2.2.2.1 [(⟨g.Name,j.Value.Dim⟩:iQ)]).bind fun f=>
 e (a.1,a.2.1,a.2.2.1,f,i64 (a.2.2.2.2+1))
 else
 (h5x a.1 a.2.2.2.1).bind fun d=>
 if (d.2 != 0) then
 some ((⟨0,false,(⟨0,0⟩:fQ)⟩:Value),d.2)
 else
 (h7q a.1 a.2.1 c).bind fun b=>
 some (b.1,b.2)
def h4n (b:Expr)(a:View)(d:O Step):A3 (Value×Int):=
 (h4r a).bind fun c=>
 if (!c) then
 some ((⟨0,false,(⟨0,0⟩:fQ)⟩:Value),1)
 else
 d9 FU (h7j d) (b,a,(⟨0,false,(⟨0,0⟩:fQ)⟩:Value),[],0)
def h6n (f:((O Step)×Version×View×(O Int)×Int) -> A3 ((O Step)×Int))(g:(O Step)×Version×View×(O Int)×Int)(h:((O Step)×Version×View×(O Int)×Let×Bool×Int) -> A3 ((O Step)×Int))(a:(O Step)×Version×View×(O Int)×Let×Bool×Int):A3 ((O Step)×Int):=
 if (decide (a.2.2.2.2.2.2<(a.1.length:Int))) then
 (if a.2.2.2.2.2.1 then some true else (c7 a.1 a.2.2.2.2.2.2).bind fun i=>
 (c7 a.1 a.2.2.2.2.2.2).bind fun d=>
 some (d.Name.toList==a.2.2.2.2.1.Name.toList)).bind fun c=>
 h (a.1,a.2.1,a.2.2.1,a.2.2.2.1,a.2.2.2.2.1,c,i64 (a.2.2.2.2.2.2+1))
 else
 if a.2.2.2.2.2.1 then
 f (a.1,a.2.1,a.2.2.1,a.2.2.2.1,i64 (g.2.2.2.2+1))
 else
 (h4n a.2.2.2.2.1.Body a.2.2.1 a.1).bind fun b=>
 if (b.2 != 0) then
 some ([],b.2)
 else
 (a4n 48 a.1 [(⟨a.2.2.2.2.1.Name,b.1⟩:Step)]).bind fun e=>
 f (e,a.2.1,a.2.2.1,a.2.2.2.1,i64 (g.2.2.2.2+1))
def h5m (b:((O Step)×Version×View×(O Int)×Int) -> A3 ((O Step)×Int))(a:(O Step)×Version×View×(O Int)×Int):A3 ((O Step)×Int):=
 if (decide (a.2.2.2.2<(a.2.2.2.1.length:Int))) then
 (c7 a.2.2.2.1 a.2.2.2.2).bind fun e=>
 (c7 a.2.2.2.1 a.2.2.2.2).bind fun d=>
 (c7 a.2.1.Lets d).bind fun c=>
 d9 FU (h6n b a) (a.1,a.2.1,a.2.2.1,a.2.2.2.1,c,false,0)
 else
 some (a.1,0)
def h4s (d:Expr)(a:Version)(b:View)(c:O Step):A3 ((O Step)×Int):=
 (h7v d a.Lets).bind fun e=>
 d9 FU h5m (c,a,b,e,0)
def h5n (a:fQ):A3 fQ:=
 if (decide (a.Num<0)) then
 some (⟨0,1⟩:fQ)
 else
 some a
def h6m (h:Version)(b:Grant)(d:View):A3 (Result×Int):=
 (h4s b.If h d []).bind fun f=>
 if (f.2 != 0) then
 some ((⟨false,(⟨0,0⟩:fQ),[]⟩:Result),f.2)
 else
 (h4n b.If d f.1).bind fun a=>
 if (a.2 != 0) then
 some ((⟨false,(⟨0,0⟩:fQ),[]⟩:Result),a.2)
 else
 (a4n 48 f.1 [(⟨d0k,a.1⟩:Step)]).bind fun g=>
 if (!a.1.Yes) then
 some ((⟨false,(⟨0,1⟩:fQ),g⟩:Result),0)
 else
 (h4s b.Pay h d g).bind fun e=>
 if (e.2 != 0) then
 some ((⟨false,(⟨0,0⟩:fQ),[]⟩:Result),e.2)
 else
 (h4n b.Pay d e.1).bind fun c=>
 if (c.2 != 0) then
 some ((⟨false,(⟨0,0⟩:fQ),[]⟩:Result),c.2)
 else
 (a4n 48 e.1 [(⟨c60,c.1⟩:Step)]).bind fun i=>
 (h5n c.1.Num).bind fun j=>
 some ((⟨true,j,i⟩:Result),0)
def h5h (d:Int)(c:(Version×View×(O Step)×Result×Int) -> A3 (Result×Int))(a:Version×View×(O Step)×Result×Int):A3 (Result×Int):=
 if (decide (a.2.2.2.2<(a.1.Grants.length:Int))) then
 (c7 a.1.Grants a.2.2.2.2).bind fun f=>
 if (f.Benefit==d) then
 (c7 a.1.Grants a.2.2.2.2).bind fun e=>
 (h6m a.1 e a.2.1).bind fun b=>
 some (b.1,b.2)
 else
 c (a.1,a.2.1,a.2.2.1,(⟨a.2.2.2.1.Holds,a.2.2.2.1.Pay,[]⟩:Result),i64 (a.2.2.2.2+1))
 else
 some ((⟨false,(⟨0,0⟩:fQ),[]⟩:Result),9)
def h6i (c:Version)(d:Int)(b:View):A3 (Result×Int):=
 (h4r b).bind fun e=>
 if (!e) then
 some ((⟨false,(⟨0,0⟩:fQ),[]⟩:Result),1)
 else
 (h5c c).bind fun a=>
 if (a != 0) then
 some ((⟨false,(⟨0,0⟩:fQ),[]⟩:Result),a)
 else
 d9 FU (h5h d) (c,b,[],(⟨false,(⟨0,0⟩:fQ),[]⟩:Result),0)
def h6x (g:Laws)(c d e:Int)(f:View):A3 (Result×Int):=
 (h7c g c e).bind fun a=>
 if (a.2.2 != 0) then
 some ((⟨false,(⟨0,0⟩:fQ),[]⟩:Result),a.2.2)
 else
 (h6i a.1 d f).bind fun b=>
 some (b.1,b.2)
def h8p (a:Reduce)(b:Int):A3 Bool:=
 some (a.Benefit==b)
def h4k (c:O Reduce)(a:Int)(d:Int -> A3 Int)(b:Int):A3 Int:=
 if (decide (b<(c.length:Int))) then
 (c7 c b).bind fun f=>
 (h8p f a).bind fun e=>
 if e then
 some b
 else
 d (i64 (b+1))
 else
 some (-1:Int)
def h4l (b:O Reduce)(a:Int):A3 Int:=
 d9 FU (h4k b a) 0
def h7y (a:Version)(g:Int)(e:View):A3 (fQ×Int):=
 (c5y a e).bind fun f=>
 if (f != 0) then
 some ((⟨0,0⟩:fQ),f)
 else
 (h4l a.Reduces g).bind fun d=>
 if (decide (d<0)) then
 some ((⟨0,0⟩:fQ),9)
 else
 (c7 a.Reduces d).bind fun i=>
 (mkI 1 (false:Bool) (a.Lets.length:Int) (a.Lets.length:Int)).bind fun h=>
 (a3e (⟨e,[]⟩:vQ) i.By a.Lets h d69 []).bind fun c=>
 if (c.1 != 0) then
 some ((⟨0,0⟩:fQ),c.1)
 else
 (a55 (⟨c.2.1.view,c.2.2.2⟩:vQ)).bind fun b=>
 if (decide (b.Num.Num<0)) then
 some ((⟨0,1⟩:fQ),0)
 else
 if (decide (b.Num.Num>b.Num.Den)) then
 some ((⟨1,1⟩:fQ),0)
 else
 some (b.Num,0)
def h9e (h:Laws)(d e f:Int)(g:View):A3 (fQ×Int):=
 (b8v h f).bind fun c=>
 if (c.2 != 0) then
 some ((⟨0,0⟩:fQ),c.2)
 else
 (a2v c.1 d).bind fun a=>
 if (a.2.2 != 0) then
 some ((⟨0,0⟩:fQ),a.2.2)
 else
 (h7y a.2.1 e g).bind fun b=>
 if (b.2==9) then
 some ((⟨0,1⟩:fQ),0)
 else
 some (b.1,b.2)
def h5e (g:Int)(f:(Version×View×fQ×Int) -> A3 (fQ×Int))(a:Version×View×fQ×Int):A3 (fQ×Int):=
 if (decide (a.2.2.2<(a.1.Reduces.length:Int))) then
 (c7 a.1.Reduces a.2.2.2).bind fun j=>
 if (j.Benefit != g) then
 f (a.1,a.2.1,a.2.2.1,i64 (a.2.2.2+1))
 else
 (c7 a.1.Reduces a.2.2.2).bind fun i=>
 (h4s i.By a.1 a.2.1 []).bind fun e=>
 if (e.2 != 0) then
 some ((⟨0,0⟩:fQ),e.2)
 else
 (c7 a.1.Reduces a.2.2.2).bind fun h=>
 (h4n h.By a.2.1 e.1).bind fun d=>
 if (d.2 != 0) then
 some ((⟨0,0⟩:fQ),d.2)
 else
 (h5n d.1.Num).bind fun b=>
 (h4q b (⟨1,1⟩:fQ)).bind fun c=>
 if (decide (c.1>0)) then
 some ((⟨1,1⟩:fQ),0)
 else
 some (b,0)
 else
 some ((⟨0,0⟩:fQ),9)
def h6f (c:Version)(d:Int)(b:View):A3 (fQ×Int):=
 (h4r b).bind fun e=>
 if (!e) then
 some ((⟨0,0⟩:fQ),1)
 else
 (h5c c).bind fun a=>
 if (a != 0) then
 some ((⟨0,0⟩:fQ),a)
 else
 d9 FU (h5e d) (c,b,(⟨0,0⟩:fQ),0)
def h7l (g:Laws)(c d e:Int)(f:View):A3 (fQ×Int):=
 (h5u g c e).bind fun b=>
 if (b.2.2 != 0) then
 some ((⟨0,0⟩:fQ),b.2.2)
 else
 (h6f b.1 d f).bind fun a=>
 if (a.2==9) then
 some ((⟨0,1⟩:fQ),0)
 else
 some (a.1,a.2)
def h7h (c:Laws)(e f b:Int)(g:View):A3 (fQ×Int):=
 (h5q c b).bind fun d=>
 if (d != 0) then
 some ((⟨0,0⟩:fQ),d)
 else
 (h7l c e f b g).bind fun a=>
 some (a.1,a.2)
def c3q (a:Span):A3 Span:=
 some (⟨max a.From 0,min a.To 73049⟩:Span)
def b2e (k:O Span)(h:((O Span)×(O Span)×Int) -> A3 (O Span))(a:(O Span)×(O Span)×Int):A3 (O Span):=
 if (decide (a.2.2<(k.length:Int))) then
 (c7 a.2.1 a.2.2).bind fun m=>
 (c7 a.2.1 a.2.2).bind fun b=>
 (if (decide ((a.1.length:Int)>0)) then (c7 a.1 (i64 ((a.1.length:Int)-1))).bind fun j=>
 (c7 a.1 (i64 ((a.1.length:Int)-1))).bind fun d=>
 some (decide (b.From <= d.To)) else some false).bind fun e=>
 if e then
 (c7 a.1 (i64 ((a.1.length:Int)-1))).bind fun i=>
 (c7 a.1 (i64 ((a.1.length:Int)-1))).bind fun c=>
 (c7 a.1 (i64 ((a.1.length:Int)-1))).bind fun l=>
 (c7 a.1 (i64 ((a.1.length:Int)-1))).bind fun g=>
 h (a8h a.1 (i64 ((a.1.length:Int)-1)) (⟨g.From,max c.To b.To⟩:Span),a.2.1,i64 (a.2.2+1))
 else
 (a4n 16 a.1 [b]).bind fun f=>
 h (f,a.2.1,i64 (a.2.2+1))
 else
 some a.1
def b5z (e:O Span)(d:((O Span)×(O Span)×Int) -> A3 (O Span))(a:(O Span)×(O Span)×Int):A3 (O Span):=
 if (decide (a.2.2<(e.length:Int))) then
 (c7 e a.2.2).bind fun g=>
 (c3q g).bind fun b=>
 if (decide (b.From<b.To)) then
 (a4n 16 a.1 [b]).bind fun f=>
 d (f,[],i64 (a.2.2+1))
 else
 d (a.1,[],i64 (a.2.2+1))
 else
 (b3w a.1).bind fun c=>
 d9 FU (b2e c) ([],c,0)
def a2w (a:O Span):A3 (O Span):=
 d9 FU (b5z a) ([],[],0)
def a3k (d e:O Step)(f:Int -> A3 Bool)(c:Int):A3 Bool:=
 if (decide (c<(d.length:Int))) then
 (c7 d c).bind fun b=>
 (c7 e c).bind fun a=>
 if (!((b.Name.toList==a.Name.toList)&&(((b.Value.Dim==a.Value.Dim)&&((b.Value.Yes==a.Value.Yes)&&(((b.Value.Num.Num==a.Value.Num.Num)&&((b.Value.Num.Den==a.Value.Num.Den)&&(true)))&&(true))))&&(true)))) then
 some false
 else
 f (i64 (c+1))
 else
 some true
def a61 (a b:O Step):A3 Bool:=
 if ((a.length:Int) != (b.length:Int)) then
 some false
 else
 d9 FU (a3k a b) 0
def h5z (b a:Result):A3 Bool:=
 (if (b.Holds==a.Holds) then some ((b.Pay.Num==a.Pay.Num)&&((b.Pay.Den==a.Pay.Den)&&(true))) else some false).bind fun e=>
 (if e then (a61 b.Steps a.Steps).bind fun c=>
 some c else some false).bind fun d=>
 some d
def h6l (o:O Int)(u r q s:Int)(t:pensionmade_View):A3 Bool:=
 if (decide ((o.length:Int)>60)) then
 some true
 else
 (b3p o u).bind fun e=>
 (b5f r).bind fun a=>
 (a40 q 4).bind fun b=>
 (a40 s 7).bind fun d=>
 (h6t t).bind fun c=>
 (h8m e b d a c).bind fun n=>
 (h6x e b d a c).bind fun p=>
 (h9e e b d a c).bind fun k=>
 (h7h e b d a c).bind fun h=>
 (b2m).bind fun j=>
 (if j then some (n.2==p.2) else some false).bind fun g=>
 (if g then (h5z n.1 p.1).bind fun l=>
 some l else some false).bind fun m=>
 (if m then some ((k.1.Num==h.1.Num)&&((k.1.Den==h.1.Den)&&(true))) else some false).bind fun f=>
 (if f then some (k.2==h.2) else some false).bind fun i=>
 some i
end
def a9k {σ ρ S α:Type}{f:(σ -> A3 ρ) -> σ -> A3 ρ}(l:O α)(e:S -> Int -> σ)(I:S -> Nat -> Prop)(Q:A3 ρ -> Prop)(hl:l.length<2^62)
  (hstep: ∀rec s (i:Nat) y,i<l.length -> l[i]? =some y -> I s i -> Q (f rec (e s (i:Int))) \/ ∃s',f rec (e s (i:Int))=rec (e s' ((i+1:Nat):Int)) /\ I s' (i+1))
  (hfin: ∀rec s,I s l.length -> Q (f rec (e s (l.length:Int)))) (s:S) (h0:I s 0):Q (d9 FU f (e s 0)):=by
 have key: ∀(k:Nat)(s:S)(i:Nat),i <= l.length -> I s i -> l.length-i<k -> Q (d9 k f (e s (i:Int))):=by
  intro k
  induction k with
  | zero=>omega
  | succ k ih=>
    intro s i hi hI hk
    show Q (f (d9 k f) (e s (i:Int)))
    by_cases h:i<l.length
    ·rcases hstep (d9 k f) s i l[i] h (qG h) hI with h1 | ⟨s',h1,h2⟩
     ·omega
     ·rw [h1];exact ih s' (i+1) (by omega) h2 (by omega)
    ·have:i=l.length:=by omega
     subst this
     exact hfin _ _ hI
 have:(0:Int)=((0:Nat):Int):=rfl
 exact key FU s 0 (Nat.zero_le _) h0 (by unfold FU;omega)
def a5g {x:Nat}(h:x<2^62):i64 ((x:Int)+1)=((x+1:Nat):Int):=by rw [e9 (by omega) (by omega)];simp
def e7 {α:Type}{l:O α}{i:Nat}{y:α}(h:l[i]? =some y):c7 l (i:Int)=some y:=by rw [b4c];omega
def a9h {α:Type}{l:O α}{i:Nat}{y:α}(h:l[i]? =some y):l.take (i+1)=l.take i++[y]:=by
 have hi:i<l.length:=by
  grind
 rw [List.take_succ_eq_append_getElem hi]
 simp_all
def Tot {α:Type}(o:A3 α)(Q:α -> Prop):Prop:= ∃a,o=some a /\ Q a
section
variable {α β:Type} {o:A3 α} {Q R:α -> Prop} {S:β -> Prop} {f:α -> A3 β} {a:α}
def tC (h:Q a):Tot (some a) Q:=⟨a,rfl,h⟩
def tA (h:Tot o Q)(hf: ∀a,Q a -> Tot (f a) S):Tot (Option.bind o f) S:=by
 obtain ⟨a,rfl,hq⟩:=h
 simp_all
def tD {c:Prop} [Decidable c] {x y:A3 α} (h1:c -> Tot x Q) (h2: ¬c -> Tot y Q):Tot (if c then x else y) Q:=by
 grind
def Tot.mono (h:Tot o Q)(hq: ∀a,Q a -> R a):Tot o R:=by
 obtain ⟨a,e,h⟩:=h
 exact ⟨a,e,hq a h⟩
def tJ (h:Tot (f a) S):Tot (joinC f a) S:=h
end
def tO {σ ρ:Type}{f:(σ -> A3 ρ) -> σ -> A3 ρ}(I:σ -> Prop)(μ:σ -> Nat){Q:ρ -> Prop}{s:σ}(h0:I s)(hμ:μ s<2^70)(step: ∀(r:σ -> A3 ρ) (s:σ),I s -> (∀s',I s' -> μ s'<μ s -> Tot (r s') Q) -> Tot (f r s) Q):Tot (d9 FU f s) Q:=by
 have key: ∀(k:Nat)(s:σ),I s -> μ s<k -> Tot (d9 k f s) Q:=by
  intro k
  induction k with
  | zero=>omega
  | succ k ih=>
    intro s hI hk
    exact step (d9 k f) s hI fun s' h1 h2=>ih s' h1 (by omega)
 exact key FU s h0 (by unfold FU;omega)
def a5a {s:A4}{a b:Int}(h0:0 <= a)(h1:a <= b)(h2:b <= (s.size:Int)):Tot (c3u s a b) fun r=>(r.size:Int)=b-a:=by
 unfold c3u
 rw [if_pos ⟨h0,h1,h2⟩]
 refine ⟨_,rfl,?_⟩
 show ((s.extract a.toNat b.toNat).size:Int)=b-a
 rw [ByteArray.size_extract]
 omega
def d6 {a b:A4}(h:a.size+b.size <= 9223372036854775807):Tot (a7f a b) fun r=>r.size=a.size+b.size:=by
 unfold a7f
 rw [if_pos h]
 exact ⟨_,rfl,ByteArray.size_append⟩
def c6 {α:Type}{l:O α}{i:Int}(h0:0 <= i)(h1:i<(l.length:Int)):Tot (c7 l i) fun x=>x∈l:=by
 unfold c7
 rw [if_pos h0]
 have hlt:i.toNat<l.length:=by omega
 rw [qG hlt]
 exact ⟨_,rfl,qV hlt⟩
def a3p {a b:Int}(h0:0 <= a)(hb:0<b):Tot (b8t a b) fun r=>r=a%b /\ 0 <= r /\ r<b /\ r <= a:=by
 rw [d04 (by omega),c9f h0]
 have h1:=Int.emod_nonneg a (show b≠0 by omega)
 have h2:=Int.emod_lt_of_pos a hb
 have h3:a%b <= a:=by
  have:=Int.emod_add_mul_ediv a b
  have h5:0 <= b*(a/b):=Int.mul_nonneg (by omega) (Int.ediv_nonneg h0 (by omega))
  omega
 exact ⟨_,rfl,rfl,h1,h2,h3⟩
def a7t {a b:Int}(h0:0 <= a)(h1:a <= 9223372036854775807)(hb:0<b):Tot (c2t a b) fun r=>r=a/b /\ 0 <= r /\ r <= a:=by
 rw [e9a (by omega),c7w h0]
 have g1:=Int.ediv_nonneg h0 (show 0 <= b by omega)
 have g2:a/b <= a:=Int.ediv_le_self b h0
 rw [e9 (by omega) (by omega)]
 exact ⟨_,rfl,rfl,g1,g2⟩
def a42 {x:Int}(h0:0 <= x)(h1:x <= 4611686018427387904):i64 (x+1)=x+1:=e9 (by omega) (by omega)
def a1i {a n:Int}(hn:0<n)(h1:n <= 9223372036854775807):Tot (b7 a n) fun r=>0 <= r /\ r<n:=by
 unfold b7
 rw [d04 (by omega),qA]
 have h2:=Int.tmod_lt_of_pos a hn
 have h3: -n<a.tmod n:=Int.lt_tmod_of_pos a hn
 refine tD (fun h=> ?_) fun h=> ?_
 ·simp at h
  rw [e9 (by omega) (by omega)]
  exact tC (by omega)
 ·simp at h
  exact tC (by omega)
def a0t (l:O Int)(i:Int)(hl:l.length <= 9223372036854775807):Tot (c5 l i) fun _=>True:=by
 refine tD (fun h=>tC trivial) fun h=> ?_
 have hp:0<l.length:=by
  grind
 refine tA (a1i (by omega) (by omega)) fun v hv=> ?_
 exact tA (c6 (by omega) (by omega)) fun x _=>tC trivial
def b01 {n:Int}(h0:0 <= n)(h1:n <= 9999999):Tot (i8 n) fun r=>1 <= r.size /\ r.size <= 8:=by
 have hs:a6h.size=10:=by decide
 refine tO (I:=fun v:Int×A4=>0 <= v.1 /\ ((v.1 <= 9 /\ v.2.size <= 6) \/ (v.1 <= 99 /\ v.2.size <= 5) \/ (v.1 <= 999 /\ v.2.size <= 4) \/ (v.1 <= 9999 /\ v.2.size <= 3) \/ (v.1 <= 99999 /\ v.2.size <= 2) \/ (v.1 <= 999999 /\ v.2.size <= 1) \/ (v.1 <= 9999999 /\ v.2.size <= 0))) (μ:=fun v=>v.1.toNat) (s:=(n,a3j)) ⟨h0,.inr (.inr (.inr (.inr (.inr (.inr ⟨h1,(by decide:a3j.size <= 0)⟩)))))⟩ (by omega) ?_
 intro r v hI ih
 obtain ⟨g1,g2⟩:=hI
 refine tD (fun h=> ?_) fun h=> ?_
 ·simp at h
  refine tA (a3p g1 (by omega)) fun a ha=> ?_
  refine tA (a3p g1 (by omega)) fun b hb=> ?_
  have hab:a=b:=by omega
  rw [a42 (by omega) (by omega)]
  refine tA (a5a (by omega) (by omega) (by omega)) fun c hc=> ?_
  refine tA (d6 (by omega)) fun d hd=> ?_
  refine tA (a7t g1 (by omega) (by omega)) fun e he=> ?_
  refine ih (e,d) ⟨he.2.1,?_⟩ (by omega)
  show (e <= 9 /\ d.size <= 6) \/ (e <= 99 /\ d.size <= 5) \/ (e <= 999 /\ d.size <= 4) \/ (e <= 9999 /\ d.size <= 3) \/ (e <= 99999 /\ d.size <= 2) \/ (e <= 999999 /\ d.size <= 1) \/ (e <= 9999999 /\ d.size <= 0)
  omega
 ·simp at h
  rw [a42 (by omega) (by omega)]
  refine tA (a5a (by omega) (by omega) (by omega)) fun c hc=> ?_
  exact tA (d6 (by omega)) fun d hd=>tC (by omega)
def e0e {n:Int}(h0:0 <= n)(h1:n <= 999999):Tot (a01 n) fun r=>r.size <= 25:=by
 have hs:b1i.size=1:=by decide
 refine tA (a7t h0 (by omega) (by omega)) fun a ha=> ?_
 refine tA (b01 (by omega) (by omega)) fun b hb=> ?_
 refine tA (d6 (by omega)) fun c hc=> ?_
 refine tA (a7t h0 (by omega) (by omega)) fun d hd=> ?_
 refine tA (a3p (by omega) (by omega)) fun e he=> ?_
 refine tA (b01 (by omega) (by omega)) fun g hg=> ?_
 refine tA (d6 (by omega)) fun i hi=> ?_
 refine tA (a3p h0 (by omega)) fun j hj=> ?_
 refine tA (b01 (by omega) (by omega)) fun k hk=> ?_
 exact tA (d6 (by omega)) fun l hl=>tC (by omega)
def c2e {x:Int}(h0:0 <= x)(h1:x <= 9999999):Tot (i8 (i64 x)) fun r=>1 <= r.size /\ r.size <= 8:=by
 rw [e9 (by omega) (by omega)];exact b01 h0 h1
def c1j {x:Int}(h0:0 <= x)(h1:x <= 999999):Tot (a01 (i64 x)) fun r=>r.size <= 25:=by
 rw [e9 (by omega) (by omega)];exact e0e h0 h1
def h2f (b:Int):Bool:=decide (b >= 97)&&decide (b <= 122)
def h2u (b:Int):Bool:=decide (b >= 48)&&decide (b <= 57)
def d0j (b:Int):a3q b=some (h2f b):=by
 unfold a3q h2f
 grind
def c7p (b:Int):a30 b=some (h2u b):=by
 unfold a30 h2u
 grind
def c7c (a:Int): ∃v,a43 a=some v /\ 0 <= v /\ v <= 18446744073709551615 /\ (0 <= a -> a <= 18446744073709551615 -> v=a):=by
 unfold a43
 split
 ·rename_i h
  simp at h
  exact ⟨_,rfl,(b51 _).1,(b51 _).2,fun h0=>by omega⟩
 ·exact ⟨_,rfl,(b51 _).1,(b51 _).2,fun h0 h1=>b83 h0 h1⟩
def e2f {a b:Int}(ha:0 <= a)(hb:0 <= b)(h:0<a+b)(hma:a <= 18446744073709551615)(hm:b <= 18446744073709551615):Tot (a9s a b) fun g=>0<g /\ g <= 18446744073709551615:=by
 refine tO (I:=fun v:Int×Int=>0 <= v.1 /\ 0 <= v.2 /\ 0<v.1+v.2 /\ v.1 <= 18446744073709551615 /\ v.2 <= 18446744073709551615) (μ:=fun v=>v.2.toNat) ⟨ha,hb,h,hma,hm⟩ (by omega) ?_
 intro r v hI ih
 obtain ⟨g1,g2,g3,g4,g5⟩:=hI
 refine tD (fun hc=> ?_) fun hc=>tC ⟨by simp at hc;omega,g4⟩
 have hv:0<v.2:=by
  have:v.2≠0:=by simpa using hc
  omega
 refine tA (a3p g1 hv) fun c hcc=>ih (v.2,c) ⟨g2,hcc.2.1,by omega,g5,by omega⟩ (by omega)
def b4a {α:Type}{l:O α}{a x:α}(h:x∈l++[a]):x∈l \/ x=a:=by
 simp_all
def b7i (f:fQ):Tot (a1h f) fun b=>b=true -> 1 <= f.Den /\ f.Den <= 1000000000 /\ -1000000000000000 <= f.Num /\ f.Num <= 1000000000000000:=by
 unfold a1h
 simp only [o4,qA]
 refine tA (Q:=fun b=>b=true -> 1 <= f.Den /\ f.Den <= 1000000000 /\ -1000000000000000 <= f.Num /\ f.Num <= 1000000000000000) (tD (fun h=> ?_) fun _=>tC fun h=>by grind) fun b hb=>tC hb
 simp at h
 obtain ⟨x,hx,x0,x1,_⟩:=c7c f.Num
 rw [hx,qA,b83 (by omega) (by omega)]
 exact tA (e2f x0 (by omega) (by omega) x1 (by omega)) fun _ _=>tC fun _=>⟨by omega,by omega,by omega,by omega⟩
def e17 {n:Int}(h0:0 <= n)(h1:n <= 1000000000000000):Tot (a5w n 1) fun r=>(r.size:Int) <= n+1:=by
 have hs:a6h.size=10:=by decide
 refine tO (I:=fun v:Int×A4=>0 <= v.1 /\ v.1 <= n /\ v.1+(v.2.size:Int) <= n+1) (μ:=fun v=>2*v.1.toNat+(1-v.2.size)) (s:=(n,a3j)) ⟨h0,Int.le_refl _,by rw [show a3j.size=0 from rfl];omega⟩ (by omega) ?_
 intro r v hI ih
 obtain ⟨g1,g2,g3⟩:=hI
 unfold b4s
 rw [y3,qA]
 refine tD (fun h=> ?_) fun _=>tC (by omega)
 simp at h
 refine tA (a3p g1 (by omega)) fun a ha=>tA (a3p g1 (by omega)) fun b hb=> ?_
 have hab:a=b:=by omega
 rw [a42 (by omega) (by omega)]
 refine tA (a5a (by omega) (by omega) (by omega)) fun c hc=>tA (d6 (by omega)) fun d hd=>tA (a7t g1 (by omega) (by omega)) fun e he=> ?_
 refine ih (e,d) ⟨he.2.1,by omega,by show e+(d.size:Int) <= n+1;omega⟩ (by show 2*e.toNat+(1-d.size)<2*v.1.toNat+(1-v.2.size);omega)
def c3m {n:Int}(h0:0 <= n)(h1:n <= 999999999):Tot (a2n ⟨n,1⟩) fun r=>r.size <= 1000000000:=by
 refine tA (b7i _) fun b _=>tD (fun _=>tC (by decide)) fun _=> ?_
 obtain ⟨x,hx,x0,x1,x2⟩:=c7c n
 have:=x2 h0 (by omega)
 subst this
 rw [hx,qA,e9 (by omega) (by omega)]
 refine tA (e17 h0 (by omega)) fun d hd=> ?_
 rw [if_neg (by grind)]
 refine tJ ?_
 unfold a3x
 exact tC (by grind)
def b0k (l:O Int)(k:Int)(s:A4)(hl:l.length <= 9223372036854775807)(hs:s.size <= 2400):Tot (a5b (l,k,s)) fun r=>r.size <= 2500:=by
 unfold a5b
 try dsimp only
 have hstr__7d_:d3i.size=2:=by decide
 have hstrh_a41f67:c8b.size=51:=by decide
 refine tA (a0t _ _ hl) fun v105 hv105=> ?_
 refine tA (a1i (by omega) (by omega)) fun v106 hv106=> ?_
 refine tD (fun hc=> ?_) fun hc=> ?_
 ·refine tA (d6 (by omega)) fun v107 hv107=> ?_
  refine tA (d6 (by omega)) fun v108 hv108=> ?_
  exact tC (by omega)
 ·refine tA (d6 (by omega)) fun v109 hv109=> ?_
  exact tC (by omega)
def b0m (l:O Int)(k:Int)(s:A4)(hl:l.length <= 9223372036854775807)(hs:s.size <= 1900):Tot (a5c (l,k,s)) fun r=>r.size <= 2500:=by
 unfold a5c
 try dsimp only
 have hstr__3b_:b7x.size=2:=by decide
 have hstr_d_pay_:d1p.size=6:=by decide
 have hstr_reduce_old_by_:b7g.size=14:=by decide
 have hstrh_635cfa:c9u.size=14:=by decide
 have hstrh_a54acb:c7y.size=27:=by decide
 have hstrh_af57c7:c86.size=27:=by decide
 have hstrh_bfa283:c9l.size=29:=by decide
 refine tA (a0t _ _ hl) fun v79 hv79=> ?_
 refine tA (a1i (by omega) (by omega)) fun v80 hv80=> ?_
 refine tA (b01 (by omega) (by omega)) fun v81 hv81=> ?_
 refine tA (d6 (by omega)) fun v82 hv82=> ?_
 refine tA (d6 (by omega)) fun v83 hv83=> ?_
 refine tA (a0t _ _ hl) fun v84 hv84=> ?_
 refine tA (a1i (by omega) (by omega)) fun v85 hv85=> ?_
 refine tA (c2e (by omega) (by omega)) fun v86 hv86=> ?_
 refine tA (d6 (by omega)) fun v87 hv87=> ?_
 refine tA (d6 (by omega)) fun v88 hv88=> ?_
 refine tA (d6 (by omega)) fun v89 hv89=> ?_
 refine tA (a0t _ _ hl) fun v90 hv90=> ?_
 refine tA (a1i (by omega) (by omega)) fun v91 hv91=> ?_
 refine tA (b01 (by omega) (by omega)) fun v92 hv92=> ?_
 refine tA (d6 (by omega)) fun v93 hv93=> ?_
 refine tA (d6 (by omega)) fun v94 hv94=> ?_
 refine tA (d6 (by omega)) fun v95 hv95=> ?_
 refine tA (a0t _ _ hl) fun v96 hv96=> ?_
 refine tA (a1i (by omega) (by omega)) fun v97 hv97=> ?_
 refine tD (fun hc=> ?_) fun hc=> ?_
 ·refine tA (a0t _ _ hl) fun v98 hv98=> ?_
  refine tA (a1i (by omega) (by omega)) fun v99 hv99=> ?_
  refine tA (c1j (by omega) (by omega)) fun v100 hv100=> ?_
  refine tA (d6 (by omega)) fun v101 hv101=> ?_
  refine tA (d6 (by omega)) fun v102 hv102=> ?_
  refine tA (d6 (by omega)) fun v103 hv103=> ?_
  exact tJ (b0k _ _ _ hl (by omega))
 ·exact tJ (b0k _ _ _ hl (by omega))
def b0i (l:O Int)(k:Int)(t s:A4)(hl:l.length <= 9223372036854775807)(ht:t.size <= 8)(hs:s.size <= 900):Tot (a5j (l,k,t,s)) fun r=>r.size <= 2500:=by
 unfold a5j
 try dsimp only
 have hstr__3b_:b7x.size=2:=by decide
 have hstr_m_29_3b_:c6o.size=4:=by decide
 have hstrh_196854:c83.size=22:=by decide
 have hstrh_34ba8d:d0e.size=9:=by decide
 have hstrh_4d1f9b:c80.size=13:=by decide
 have hstrh_58c487:c8p.size=16:=by decide
 have hstrh_7bee7c:c8d.size=31:=by decide
 have hstrh_7ff122:c9k.size=25:=by decide
 have hstrh_85bf07:c9z.size=13:=by decide
 have hstrh_98dd23:c8t.size=20:=by decide
 have hstrh_b388fe:c9d.size=66:=by decide
 have hstrh_d82640:d02.size=23:=by decide
 have hstrh_da8d59:c8f.size=26:=by decide
 refine tA (a0t _ _ hl) fun v29 hv29=> ?_
 refine tA (a1i (by omega) (by omega)) fun v30 hv30=> ?_
 refine tA (c1j (by omega) (by omega)) fun v31 hv31=> ?_
 refine tA (d6 (by omega)) fun v32 hv32=> ?_
 refine tA (d6 (by omega)) fun v33 hv33=> ?_
 refine tA (a0t _ _ hl) fun v34 hv34=> ?_
 refine tA (a1i (by omega) (by omega)) fun v35 hv35=> ?_
 refine tA (c1j (by omega) (by omega)) fun v36 hv36=> ?_
 refine tA (d6 (by omega)) fun v37 hv37=> ?_
 refine tA (d6 (by omega)) fun v38 hv38=> ?_
 refine tA (d6 (by omega)) fun v39 hv39=> ?_
 refine tA (d6 (by omega)) fun v40 hv40=> ?_
 refine tA (d6 (by omega)) fun v41 hv41=> ?_
 refine tA (a0t _ _ hl) fun v42 hv42=> ?_
 refine tA (a1i (by omega) (by omega)) fun v43 hv43=> ?_
 refine tA (c1j (by omega) (by omega)) fun v44 hv44=> ?_
 refine tA (d6 (by omega)) fun v45 hv45=> ?_
 refine tA (d6 (by omega)) fun v46 hv46=> ?_
 refine tA (d6 (by omega)) fun v47 hv47=> ?_
 refine tA (a0t _ _ hl) fun v48 hv48=> ?_
 refine tA (a1i (by omega) (by omega)) fun v49 hv49=> ?_
 refine tA (c2e (by omega) (by omega)) fun v50 hv50=> ?_
 refine tA (d6 (by omega)) fun v51 hv51=> ?_
 refine tA (d6 (by omega)) fun v52 hv52=> ?_
 refine tA (a0t _ _ hl) fun v53 hv53=> ?_
 refine tA (a1i (by omega) (by omega)) fun v54 hv54=> ?_
 refine tA (b01 (by omega) (by omega)) fun v55 hv55=> ?_
 refine tA (d6 (by omega)) fun v56 hv56=> ?_
 refine tA (d6 (by omega)) fun v57 hv57=> ?_
 refine tA (a0t _ _ hl) fun v58 hv58=> ?_
 refine tA (a1i (by omega) (by omega)) fun v59 hv59=> ?_
 refine tA (b01 (by omega) (by omega)) fun v60 hv60=> ?_
 refine tA (d6 (by omega)) fun v61 hv61=> ?_
 refine tA (d6 (by omega)) fun v62 hv62=> ?_
 refine tA (d6 (by omega)) fun v63 hv63=> ?_
 refine tA (a0t _ _ hl) fun v64 hv64=> ?_
 refine tA (a1i (by omega) (by omega)) fun v65 hv65=> ?_
 refine tA (b01 (by omega) (by omega)) fun v66 hv66=> ?_
 refine tA (d6 (by omega)) fun v67 hv67=> ?_
 refine tA (d6 (by omega)) fun v68 hv68=> ?_
 refine tA (a0t _ _ hl) fun v69 hv69=> ?_
 refine tA (a1i (by omega) (by omega)) fun v70 hv70=> ?_
 refine tA (c1j (by omega) (by omega)) fun v71 hv71=> ?_
 refine tA (d6 (by omega)) fun v72 hv72=> ?_
 refine tA (d6 (by omega)) fun v73 hv73=> ?_
 refine tA (d6 (by omega)) fun v74 hv74=> ?_
 refine tA (a0t _ _ hl) fun v75 hv75=> ?_
 refine tA (a1i (by omega) (by omega)) fun v76 hv76=> ?_
 refine tD (fun hc=> ?_) fun hc=> ?_
 ·refine tA (d6 (by omega)) fun v77 hv77=> ?_
  exact tJ (b0m _ _ _ hl (by omega))
 ·exact tJ (b0m _ _ _ hl (by omega))
def b0j (l:O Int)(k:Int)(t s:A4)(hl:l.length <= 9223372036854775807)(ht:t.size <= 8)(hs:s.size <= 800):Tot (a5k (l,k,t,s)) fun r=>r.size <= 2500:=by
 unfold a5k
 try dsimp only
 have hstrh_2afe9d:c9v.size=18:=by decide
 refine tA (a0t _ _ hl) fun v25 hv25=> ?_
 refine tA (a1i (by omega) (by omega)) fun v26 hv26=> ?_
 refine tD (fun hc=> ?_) fun hc=> ?_
 ·refine tA (d6 (by omega)) fun v27 hv27=> ?_
  exact tJ (b0i _ _ _ _ hl ht (by omega))
 ·exact tJ (b0i _ _ _ _ hl ht (by omega))
def a2r (l:O Int)(k:Int)(t s:A4)(hl:l.length <= 9223372036854775807)(ht:t.size <= 8)(hs:s.size <= 400):Tot (a1a (l,k,t,s)) fun r=>r.size <= 2500:=by
 unfold a1a
 try dsimp only
 have hstr__3b_:b7x.size=2:=by decide
 have hstrh_405077:c8s.size=19:=by decide
 have hstrh_f7dc2d:d01.size=42:=by decide
 refine tA (a0t _ _ hl) fun v10 hv10=> ?_
 refine tA (a1i (by omega) (by omega)) fun v11 hv11=> ?_
 refine tA (c2e (by omega) (by omega)) fun v12 hv12=> ?_
 refine tA (d6 (by omega)) fun v13 hv13=> ?_
 refine tA (d6 (by omega)) fun v14 hv14=> ?_
 refine tA (d6 (by omega)) fun v15 hv15=> ?_
 refine tA (a0t _ _ hl) fun v16 hv16=> ?_
 refine tA (a1i (by omega) (by omega)) fun v17 hv17=> ?_
 refine tD (fun hc=> ?_) fun hc=> ?_
 ·refine tA (a0t _ _ hl) fun v18 hv18=> ?_
  refine tA (a1i (by omega) (by omega)) fun v19 hv19=> ?_
  refine tA (c2e (by omega) (by omega)) fun v20 hv20=> ?_
  refine tA (d6 (by omega)) fun v21 hv21=> ?_
  refine tA (d6 (by omega)) fun v22 hv22=> ?_
  refine tA (d6 (by omega)) fun v23 hv23=> ?_
  exact tJ (b0j _ _ _ _ hl ht (by omega))
 ·exact tJ (b0j _ _ _ _ hl ht (by omega))
def a8b (a:A4)(l:O Int)(k:Int)(hl:l.length <= 9223372036854775807)(ha:a.size <= 20):Tot (a38 a l k) fun r=>r.size <= 2500:=by
 have hstr___7b_round_:c1g.size=9:=by decide
 have hstr_down_1_3b_:c33.size=8:=by decide
 have hstr_even_10_3b_:c19.size=9:=by decide
 have hstr_from__40:c6e.size=6:=by decide
 have hstr_half_5_3b_:c32.size=8:=by decide
 have hstr_up_1_3b_:c6d.size=6:=by decide
 refine tA (a0t _ _ hl) fun v1 hv1=> ?_
 refine tA (a1i (by omega) (by omega)) fun v2 hv2=> ?_
 refine tA (c2e (by omega) (by omega)) fun v3 hv3=> ?_
 refine tA (d6 (by omega)) fun v4 hv4=> ?_
 refine tA (d6 (by omega)) fun v5 hv5=> ?_
 refine tA (a0t _ _ hl) fun v6 hv6=> ?_
 refine tA (a1i (by omega) (by omega)) fun v7 hv7=> ?_
 refine tD (fun hc=> ?_) fun hc=> ?_
 ·refine tA (d6 (by omega)) fun v8 hv8=> ?_
  exact tJ (a2r _ _ _ _ hl (by omega) (by omega))
 ·refine tD (fun hc=> ?_) fun hc=> ?_
  ·refine tA (d6 (by omega)) fun v110 hv110=> ?_
   exact tJ (a2r _ _ _ _ hl (by omega) (by omega))
  ·refine tD (fun hc=> ?_) fun hc=> ?_
   ·refine tA (d6 (by omega)) fun v111 hv111=> ?_
    exact tJ (a2r _ _ _ _ hl (by omega) (by omega))
   ·refine tA (d6 (by omega)) fun v112 hv112=> ?_
    exact tJ (a2r _ _ _ _ hl (by omega) (by omega))
def b2j (k:Int)(l:O Int)(s:A4)(hl:l.length <= 9223372036854775807)(hs:s.size <= 6000):Tot (a7x (k,l,s)) fun r=>True:=by
 unfold a7x
 try dsimp only
 have hstr__7d:d0a.size=1:=by decide
 refine tA (a0t _ _ hl) fun v15 hv15=> ?_
 refine tA (a1i (by omega) (by omega)) fun v16 hv16=> ?_
 refine tD (fun hc=> ?_) fun hc=> ?_
 ·refine tA (a8b _ _ _ hl (by decide)) fun v17 hv17=> ?_
  refine tA (d6 (by omega)) fun v18 hv18=> ?_
  refine tA (d6 (by omega)) fun v19 hv19=> ?_
  exact tC (by omega)
 ·refine tA (d6 (by omega)) fun v20 hv20=> ?_
  exact tC (by omega)
def c2w {k:Int}(l:O Int)(hl:l.length <= 9223372036854775807)(h0:0 <= k)(h3:k<3):Tot (b10 k l) fun r=>True:=by
 have hstr___7b_:d8i.size=3:=by decide
 have hstr__currency_:c2x.size=10:=by decide
 have hstr_statute_:c70.size=8:=by decide
 have hn: ∀x∈[c2c,c24,b8j],x.size <= 10:=by decide
 refine tA (c6 (l:=[c2c,c24,b8j]) h0 h3) fun v1 hv1=> ?_
 refine tA (c6 (l:=[c2c,c24,b8j]) h0 h3) fun v2 hv2=> ?_
 have hv2:=hn v2 hv2
 refine tA (d6 (by omega)) fun v3 hv3=> ?_
 refine tA (d6 (by omega)) fun v4 hv4=> ?_
 refine tA (c2e (by omega) (by omega)) fun v5 hv5=> ?_
 refine tA (d6 (by omega)) fun v6 hv6=> ?_
 refine tA (d6 (by omega)) fun v7 hv7=> ?_
 refine tA (a8b _ _ _ hl (by decide)) fun v8 hv8=> ?_
 refine tA (d6 (by omega)) fun v9 hv9=> ?_
 refine tA (a0t _ _ hl) fun v10 hv10=> ?_
 refine tA (a1i (by omega) (by omega)) fun v11 hv11=> ?_
 refine tD (fun hc=> ?_) fun hc=> ?_
 ·refine tA (a8b _ _ _ hl (by decide)) fun v12 hv12=> ?_
  refine tA (d6 (by omega)) fun v13 hv13=> ?_
  exact tJ (b2j _ _ _ hl (by omega))
 ·exact tJ (b2j _ _ _ hl (by omega))
def b7k {α β:Type}(f:α -> A3 β)(a:α):Go.SX.joinC f a=f a:=rfl
def o6 {i n:Nat}(h:i<n):(decide ((i:Int)<(n:Int)))=true:=by simp_all
def g9 (n:Nat): ¬(decide ((n:Int)<(n:Int)))=true:=by simp
def c5d {α:Type}{f:(Int -> A3 Int) -> Int -> A3 Int}(l:O α)(p:α -> Bool)(hl:l.length <= 2^30)
  (hstep: ∀(rec:Int -> A3 Int)(i:Nat)(y:α),l[i]? =some y -> f rec (i:Int)=if p y=true then some (i:Int) else rec (i64 ((i:Int)+1)))
  (hfin: ∀rec:Int -> A3 Int,f rec (l.length:Int)=some (-1)): ∃n,d9 FU f 0=some n /\ decide (n >= 0)=l.any p:=by
 refine a9k (f:=f) l (fun (_:Unit) i=>i) (fun _ i=> ∀y∈l.take i,p y=false) (fun o=> ∃n,o=some n /\ decide (n >= 0)=l.any p) (by omega) ?_ ?_ () (by simp)
 ·rintro rec s i y hi hy h
  rw [hstep _ _ _ hy,a5g (by omega)]
  by_cases hc:p y=true
  ·left
   rw [if_pos hc]
   exact ⟨_,rfl,by rw [List.any_eq_true.2 ⟨y,qE hy,hc⟩];simp⟩
  ·right
   rw [if_neg hc]
   refine ⟨(),rfl,fun z hz=> ?_⟩
   rw [a9h hy] at hz
   rcases qK.1 hz with hz | hz
   ·simp_all
   simp_all
 simp_all
inductive Tk where
 | w (s:ByteArray)
 | s (s:ByteArray)
 | n (v:fQ) (d:Int)
 | d (day:Int)
def i45 (s:A4):Bool:=match s.toList with | c::_=> !(48 <= c.toNat&&c.toNat <= 57)&& !c.toNat==64 | []=>false
def TkR (t:Token):Tk -> Prop
 | .w x=>t.Kind=1 /\ t.Text=x
 | .s x=>t.Kind=4 /\ t.Text=x
 | .n v d=>t.Kind=2 /\ a2x t.Text=some (v,d,true) /\ i45 t.Text=false
 | .d day=>t.Kind=3 /\ b09 t.Text=some day /\ i45 t.Text=false
def isT (t:Tk)(s:A4):Bool:=match t with | .w x=>x.toList==s.toList | .s x=>x.toList==s.toList | _=>false
def kdT:Tk -> Int | .w _=>1 | .s _=>4 | .n _ _=>2 | .d _=>3
structure RdrA (r:rQ) (ts:List Tk):Prop where
 bad:r.bad=false
 nn:0 <= r.at_
 len:r.l.length <= 8000
 all:y7 TkR (r.l.drop r.at_.toNat) ts
def adv (r:rQ):rQ:=⟨r.l,r.at_+1,r.end_,r.bad⟩
section
variable {r:rQ} {t:Tk} {ts:O Tk} {s:A4}
def RdrA.cons (h:RdrA r (t::ts)): ∃x,c7 r.l r.at_=some x /\ TkR x t /\ r.at_<(r.l.length:Int) /\ RdrA (adv r) ts /\ i64 (r.at_+1)=r.at_+1:=by
 obtain ⟨h1,h2,h3,h4⟩:=h
 cases hd:r.l.drop r.at_.toNat with
 | nil=>rw [hd] at h4;exact h4.elim
 | cons x rest=>
   rw [hd] at h4
   have hlt:r.at_.toNat<r.l.length:=by
    have:=congrArg List.length hd
    simp at this;omega
   have hx:r.l[r.at_.toNat]? =some x:=by
    have:=congrArg head? hd
    simpa [head?_drop] using this
   refine ⟨x,j38 h2 hx,h4.1,by omega,⟨h1,by show 0 <= r.at_+1;omega,h3,?_⟩,a42 h2 (by omega)⟩
   show y7 TkR (r.l.drop (r.at_+1).toNat) ts
   rw [show (r.at_+1).toNat=r.at_.toNat+1 by omega,<- List.drop_drop,hd]
   exact h4.2
def TkR.eq {x:Token}(h:TkR x t)(hs:i45 s=true):(x.Text.toList==s.toList)=isT t s:=by
 have no:i45 x.Text=false -> (x.Text.toList==s.toList)=false:=fun hw=>by
  cases he:(x.Text.toList==s.toList) with
  | false=>rfl
  | true=>
    have he:=eq_of_beq he
    unfold i45 at hw hs
    rw [he,hs] at hw
    cases hw
 cases t with
 | w y=>rw [h.2];rfl
 | s y=>rw [h.2];rfl
 | n v d=>exact no h.2.2
 | d day=>exact no h.2.2
def TkR.kd {x:Token}(h:TkR x t):x.Kind=kdT t:=by cases t<;>exact h.1
def j2a (h:RdrA r (t::ts))(hs:i45 s=true):u9 r s=some (isT t s):=by
 obtain ⟨x,hx,hk,hlt,_,_⟩:=h.cons
 unfold u9
 rw [h.bad]
 simp only [Bool.not_false,if_true,qA,decide_eq_true hlt,hx,hk.eq hs]
def i5c (h:RdrA r (t::ts))(k:Int):p8 r k=some (kdT t==k):=by
 obtain ⟨x,hx,hk,hlt,_,_⟩:=h.cons
 unfold p8
 rw [h.bad]
 simp only [Bool.not_false,if_true,qA,decide_eq_true hlt,hx,hk.kd]
def i5a (h:RdrA r (t::ts))(hs:i45 s=true):d7 r s=some (isT t s,if isT t s then adv r else r):=by
 obtain ⟨x,hx,hk,hlt,_,hi⟩:=h.cons
 unfold d7
 rw [j2a h hs,qA]
 cases hb:isT t s with
 | true=>rw [hi];rfl
 | false=>rfl
def j0h (h:RdrA r (t::ts))(hs:i45 s=true)(ht:isT t s=true):b9 r s=some (adv r):=by
 unfold b9
 rw [i5a h hs,qA,ht]
 rfl
def j0i {x:A4}(h:RdrA r (.w x::ts))(hn:a2e x=some true):a0w r=some (x,adv r):=by
 obtain ⟨y,hy,hk,hlt,_,hi⟩:=h.cons
 have hx:y.Text=x:=hk.2
 have h1:=h.nn
 have h2:=h.len
 unfold a0w
 rw [i5c h,qA]
 simp only [kdT,hy,qA,hx,hn,hi,show i64 (r.at_+1-1)=r.at_ from by rw [e9 (by omega) (by omega)];omega]
 rfl
def i6g {v a b:Int}(h:RdrA r (.n ⟨v,1⟩ 2::ts))(h1:a <= v)(h2:v <= b):s7 r a b=some (v,adv r):=by
 obtain ⟨y,hy,hk,hlt,_,hi⟩:=h.cons
 unfold s7
 rw [i5c h,qA]
 simp only [kdT,hy,qA,hk.2.1,hi,decide_eq_true h1,decide_eq_true h2,ge_iff_le]
 rfl
end
inductive AE where
 | lit (v:fQ) (d:Int)
 | nm (s:ByteArray)
 | best (k:Int)
 | bin (op:Int) (a b:AE)
 | ite (a b c:AE)
def AE.e:AE -> Expr
 | .lit v d=>⟨1,v,d,a3j,[]⟩
 | .nm s=>⟨2,⟨0,0⟩,0,s,[]⟩
 | .best k=>⟨3,⟨k,1⟩,0,a3j,[]⟩
 | .bin op a b=>⟨op,⟨0,0⟩,0,a3j,[a.e,b.e]⟩
 | .ite a b c=>⟨21,⟨0,0⟩,0,a3j,[a.e,b.e,c.e]⟩
def k0v:O (Int×Int×A4):=[(7,5,g5d),(8,5,e00),(9,6,g62),(10,6,e8f),(11,4,g4g),(12,4,d28),(13,4,e7j),(14,4,d1k),(15,4,g5n),(16,4,d30),(17,2,c9m),(18,1,d8p)]
def j92 (lvl:Int)(t:Tk):O (Int×Int×A4) -> Int
 | []=>0
 | (op,l,s)::q=>bif (l==lvl)&&isT t s then op else j92 lvl t q
def j67 (s:A4):Bool:=match a2e s with | some true=>true | _=>false
inductive Md where
 | E (lvl:Nat)
 | L (lvl:Nat) (e:AE)
 | F
 | C (op:Int)
def eat (s:A4):O Tk -> A3 (O Tk)
 | t::r=>bif isT t s then some r else none
 | []=>none
def pX:Nat -> Md -> O Tk -> A3 (AE×O Tk)
 | 0,_,_=>none
 | k+1,.E 0,t::r=>bif isT t d0k then
    (pX k (.E 0) r).bind fun a=>(eat d3p a.2).bind fun r1=>(pX k (.E 0) r1).bind fun b=>(eat c53 b.2).bind fun r2=>(pX k (.E 0) r2).bind fun c=>some (.ite a.1 b.1 c.1,c.2)
   else pX k (.E 1) (t::r)
 | k+1,.E 3,t::r=>bif isT t c92 then none else pX k (.E 4) (t::r)
 | k+1,.E 7,t::r=>pX k .F (t::r)
 | k+1,.E lvl,t::r=>(pX k (.E (lvl+1)) (t::r)).bind fun a=>pX k (.L lvl a.1) a.2
 | k+1,.L lvl e,t::r=>match j92 lvl t k0v with
   | 0=>some (e,t::r)
   | op=>(pX k (.E (lvl+1)) r).bind fun a=>bif Nat.beq lvl 4 then some (.bin op e a.1,a.2) else pX k (.L lvl (.bin op e a.1)) a.2
 | k+1,.F,t::r=>match t with
   | .n v d=>some (.lit v d,r)
   | .w x=>bif isT t e00 then none else bif isT t e02 then none else bif isT t c51 then (eat e02 r).bind fun r1=>match r1 with | .n ⟨v,1⟩ 2::r2=>(bif decide (1 <= v)&&decide (v <= 45) then (eat d38 r2).bind fun r3=>some (.best v,r3) else none) | _=>none
     else bif isT t c1a then none
     else bif isT t c8l then pX k (.C 19) (t::r)
     else bif isT t c98 then pX k (.C 20) (t::r)
     else bif j67 x then some (.nm x,r) else none
   | _=>none
 | k+1,.C op,t::r=>match a8e op with
   | some 2=>(eat e02 r).bind fun r1=>(pX k (.E 0) r1).bind fun a=>(eat g2w a.2).bind fun r2=>(pX k (.E 0) r2).bind fun b=>(eat d38 b.2).bind fun r3=>some (.bin op a.1 b.1,r3)
   | _=>none
 | _,_,[]=>none
def j2s: ∃m,FU=m+1+1:=⟨FU-2,by
 have:1000000 <= FU:=by unfold FU;decide
 omega⟩
def i4b:100000 <= FU:=by unfold FU;decide
def rmn (s:A4)(p:Nat):O UInt8:=s.data.toList.drop p
def i6n (s:A4):s.size=s.data.toList.length:=by rw [Array.length_toList];rfl
section
variable {s:A4} {p:Nat} {c:UInt8} {rest w:O UInt8}
def i8x (h:rmn s p=c::rest):p<s.size:=by
 have:=congrArg List.length h
 unfold rmn at this
 rw [i6n];simp at this ⊢; omega
def j16:rmn s p=[]↔s.size <= p:=by unfold rmn;rw [drop_eq_nil_iff,i6n]
def i9k {a:O UInt8}(h:rmn s p=a++rest):rmn s (p+a.length)=rest:=by
 unfold rmn at*
 rw [<- List.drop_drop,h,List.drop_left]
def i7m (h:rmn s p=c::rest):rmn s (p+1)=rest:=i9k (a:=[c]) h
def i6t {a:O UInt8}(h:rmn s p=a++rest)(hp:p <= s.size):p+a.length <= s.size:=by
 have:=congrArg List.length h
 unfold rmn at this
 rw [i6n] at *; simp at this hp ⊢; omega
def i6v (h:rmn s p=c::rest):b3c s (p:Int)=some (c.toNat:Int):=by
 unfold b3c
 rw [if_pos (by omega)]
 have hlt:=i8x h
 have hg:s[p]? =some c:=by
  rw [getElem?_pos s p hlt]
  have h2:s.data.toList[p]? =some c:=by
   have:=congrArg head? h
   unfold rmn at this
   simpa [head?_drop] using this
  rw [qD] at h2
  obtain ⟨_,h3⟩:=h2
  rw [<- h3];rfl
 rw [Int.toNat_natCast,hg];rfl
def i6c {a:O UInt8}(h:rmn s p=a++rest)(hp:p <= s.size):c3u s (p:Int) ((p:Int)+(a.length:Int))=some ⟨a.toArray⟩:=by
 unfold c3u
 have:=i6t h hp
 rw [if_pos ⟨by omega,by omega,by omega⟩]
 congr 1
 apply ByteArray.ext
 apply Array.ext'
 rw [ByteArray.data_extract,Array.toList_extract,extract_eq_take_drop,Int.toNat_natCast,show ((p:Int)+(a.length:Int)).toNat=p+a.length by omega]
 unfold rmn at h
 rw [h,show p+a.length-p=a.length by omega,List.take_left]
end
def iv (c:UInt8):Int:=(c.toNat:Int)
def i9x (b:Bool)(c:UInt8):Bool:=h2f (iv c)||h2u (iv c)||(iv c==95)||(b&&(iv c==46))
def j8n {s:A4}(hs:s.size <= 8000)(p:Nat)(b:Bool)(rest:O UInt8)(hr: ∀c r,rest=c::r -> i9x b c=false):
  ∀(w:O UInt8)(n k:Nat),rmn s (p+n)=w++rest -> p+n <= s.size -> (∀c∈w,i9x b c=true) -> w.length<k -> d9 k (b7b (p:Int) s b) (n:Int)=some ((n+w.length:Nat):Int):=by
 have one: ∀(n:Nat)(c:UInt8)(r:O UInt8)(rec:Int -> A3 Int),rmn s (p+n)=c::r -> b7b (p:Int) s b rec (n:Int)=if i9x b c=true then rec ((n+1:Nat):Int) else some (n:Int):=by
  intro n c r rec h
  have hlt:=i8x h
  have hi:i64 ((p:Int)+(n:Int))=((p+n:Nat):Int):=by rw [e9 (by omega) (by omega)];omega
  unfold b7b
  rw [hi]
  have h3:b3c s ((p+n:Nat):Int)=some (iv c):=i6v h
  rw [if_pos (by simp;omega)]
  simp only [h3,qA,d0j,c7p,y3,o4]
  rw [show i64 ((n:Int)+1)=((n+1:Nat):Int) by rw [a42 (by omega) (by omega)];omega]
  rfl
 intro w
 induction w with
 | nil=>
   intro n k h hp _ hk
   obtain ⟨k,rfl⟩: ∃m,k=m+1:=⟨k-1,by simp at hk;omega⟩
   rw [d24]
   cases rest with
   | nil=>
     have h0:=j16.1 h
     unfold b7b
     have hi:i64 ((p:Int)+(n:Int))=((p+n:Nat):Int):=by rw [e9 (by omega) (by omega)];omega
     rw [hi,if_neg (by simp;omega)]
     rfl
   | cons c r=>rw [one n c r _ h,if_neg (by rw [hr c r rfl];decide)];rfl
 | cons c w ih=>
   intro n k h hp hw hk
   have hk:w.length+1<k:=hk
   obtain ⟨k,rfl⟩: ∃m,k=m+1:=⟨k-1,by omega⟩
   have hlt:=i8x h
   rw [d24,one n c (w++rest) _ h,if_pos (hw c (by simp)),ih (n+1) k (i7m h) (by omega) (fun c hc=>hw c (qJ _ hc)) (by omega)]
   congr 2
   simp;omega
def j6p {s:A4}(hs:s.size <= 8000){p:Nat}{b:Bool}{w rest:O UInt8}(h:rmn s p=w++rest)(hp:p <= s.size)(hr: ∀c r,rest=c::r -> i9x b c=false)(hw: ∀c∈w,i9x b c=true):a9f s (p:Int) b=some (w.length:Int):=by
 have hl:=i6t h hp
 have:=j8n hs p b rest hr w 0 FU h (by omega) hw (by have:=i4b;omega)
 unfold a9f
 simpa using this
def blk (b:Bool):O UInt8:=bif b then [32] else []
def j1r (c:UInt8):Bool:= !(iv c==10)&& !(iv c==35)&&(iv c != 9)&&(iv c != 13)&&(iv c != 32)
def j3f {s:A4}(hs:s.size <= 8000){p:Nat}{b:Bool}{w:O UInt8}(h:rmn s p=blk b++w)(hp:p <= s.size)(hw: ∀c r,w=c::r -> j1r c=true):b16 s (p:Int)=some ((p+(blk b).length:Nat):Int):=by
 have one: ∀(q k:Nat),rmn s q=w -> q <= s.size -> d9 (k+1) (b78 s) ((q:Int),false)=some (q:Int):=by
  intro q k h hq
  rw [d24]
  unfold b78
  cases w with
  | nil=>
    have:=j16.1 h
    rw [if_neg (by simp;omega)]
  | cons c r=>
    have hlt:=i8x h
    have h3:b3c s (q:Int)=some (iv c):=i6v h
    have hc:=hw c r rfl
    unfold j1r at hc
    simp only [qB,Bool.not_eq_true'] at hc
    obtain ⟨⟨⟨⟨h1,h2⟩,h4⟩,h5⟩,h6⟩:=hc
    rw [if_pos (by simp;omega)]
    simp only [h3,qA,h1,h2,h4,h5,h6,qM,if_false,Bool.not_false,if_true]
 unfold b16
 obtain ⟨m,hm⟩:=j2s
 rw [hm]
 cases b with
 | false=>exact one p (m+1) h hp
 | true=>
   have h:rmn s p=32::w:=h
   have hlt:=i8x h
   have h3:b3c s (p:Int)=some (32:Int):=i6v h
   rw [d24]
   generalize hLP:d9 (m+1) (b78 s)=LP
   unfold b78
   rw [if_pos (by simp;omega)]
   simp only [h3,qA,show ((32:Int)==10)=false from rfl,show ((32:Int)==35)=false from rfl,show ((32:Int) != 9)=true from rfl,show ((32:Int) != 13)=true from rfl,show ((32:Int) != 32)=false from rfl,qM,if_false,Bool.not_false,if_true]
   rw [a42 (by omega) (by omega),<- hLP,show (p:Int)+1=((p+1:Nat):Int) by omega]
   exact one (p+1) m (i7m h) (by omega)
end Go.PL
