/- Texts of the proof, joined. -/
import Derived.Test.YtllaeijbhadiiaaGreatDoorP6
import Derived.KernelRfl
set_option linter.unusedVariables false
set_option linter.unusedSimpArgs false
set_option maxRecDepth 100000
namespace Go.PL
open Go Go.SX
theorem e4v(l:List aQ)(g:List gQ)(sc:List Scheme)(b:Int)(hl:l.length<=1000)(hg:g.length<=1000)(hs:sc.length<=10)(hv:∀x∈sc,x.Version.Credits.length<=2^30):Tot (a7e l g sc b) λr=>r.1.length<=sc.length*(g.length+6*l.length):=by
 unfold a7e;simp only[a1z,qA];refine tD (λ_=>tC (by simp)) λ_=>?_;refine tO (I:=λv:Int=>0<=v/\v<=(sc.length:Int)) (μ:=λv=>((sc.length:Int)-v).toNat) ⟨by omega,by omega⟩ (by omega) ?_;rintro r v⟨g1,g2⟩ih;refine tD (λhc=>?_) λ_=>?_
 .simp at hc;refine tA (c6 g1 hc) λx _=>?_;refine tA (Q:=λ_=>True) (orT (tA (Q:=λ_=>True) (tD (λhv=>?_) λ_=>tC trivial) λ_ _=>tC trivial)) λ_ _=>tD (λ_=>tC (by simp)) λ_=>?_;.simp at hv;rw[e9 (n:=v-1) (by omega) (by omega)];exact tA (c6 (by omega) (by omega)) λ_ _=>tC trivial
  .rw[a42 g1 (by omega)];exact ih _ ⟨by omega,by omega⟩ (by omega)
 .refine tL sc (λ(o:List Period)i=>(o,([]:List Period),(⟨0,b⟩:Span),i)) (λo i=>o.length<=i*(g.length+6*l.length)) (by omega) (λrec o i x hi hx hI ih2=>?_) (λrec o hI=>?_) [] (by simp)
  .have hB:i*(g.length+6*l.length)<=10*7000:=Nat.mul_le_mul (by omega) (by omega);rw[if_pos (o6 hi)];simp only[e7 hx,qA];refine tA (e5e g _ _ (by omega)) λu hu=>tA (b6y _ (by omega)) λc hc=>tA (e9q _ _ _ _ _ (by omega) (by omega)) λo1 ho1=>?_;unfold b3o;rw[qA];refine tL [(⟨6,2⟩:Anon292),(⟨9,3⟩:Anon292),(⟨7,4⟩:Anon292),(⟨8,5⟩:Anon292),(⟨10,6⟩:Anon292),(⟨5,7⟩:Anon292)] (λ(o:List Period)k=>(o,([]:List Period),(⟨0,b⟩:Span),x,[(⟨6,2⟩:Anon292),(⟨9,3⟩:Anon292),(⟨7,4⟩:Anon292),(⟨8,5⟩:Anon292),(⟨10,6⟩:Anon292),(⟨5,7⟩:Anon292)],k,())) (λo k=>o.length<=o1.2.length+k*l.length) (by simp) (λrec3 q k y hk hy hI3 ih3=>?_) (λrec3 q hI3=>?_) o1.2 (by simp)
   .have hk6:k<6:=by omega
    have hkl:k*l.length<=6*1000:=Nat.mul_le_mul (by omega) hl;have hks:(k+1)*l.length=k*l.length+l.length:=Nat.succ_mul _ _;rw[if_pos (o6 hk)];simp only[e7 hy,qA];have keep:=ih3 q (by omega);have put:∀d:List Span,d.length<=l.length->Tot (Option.bind (a1s y.rank d [] x q) λv34=>rec3 (v34.2,[],(⟨0,b⟩:Span),x,[(⟨6,2⟩:Anon292),(⟨9,3⟩:Anon292),(⟨7,4⟩:Anon292),(⟨8,5⟩:Anon292),(⟨10,6⟩:Anon292),(⟨5,7⟩:Anon292)],i64 ((k:Int)+1),())) λr=>r.1.length<=sc.length*(g.length+6*l.length):=λd hd=>tA (e9q _ _ _ _ _ (by omega) (by omega)) λz hz=>ih3 z.2 (by omega);refine tA (e53 _ _ (hv x (qE hx))) λcr _=>tD (λ_=>keep) λ_=>tA (e59 l _ _ hl) λd hd=>tA (b6y _ (by omega)) λe he=>tA (Q:=λ_=>True) (tD (λ_=>tC trivial) λ_=>tC trivial) λ_ _=>tD (λ_=>tA (e0n l _ _ _ hl) λf hf=>put f hf) λ_=>tD (λ_=>tA (d18 _ (by omega)) λf hf=>put f (by omega)) λ_=>put e (by omega)
   .refine ih2 q ?_;have h6:q.length<=o1.2.length+6*l.length:=hI3;rw[Nat.succ_mul];omega
  .rw[if_neg (g9 _)];exact tC hI
end Go.PL
namespace Go.PL
open Go Go.SX
abbrev Bd:=Ar 6 (Ar 7 (List Span))
def f3g(b:Bd)(n:Nat):Prop:=∀r∈b.l,∀x∈r.l,x.length<=n
theorem b6b{α:Type}{l:List α}{i:Int}{y x:α}(h:x∈a8h l i y):x=y\/x∈l:=by unfold a8h at h;grind
theorem c47{n:Nat}{α:Type}(a:Ar n α){i:Int}(h0:0<=i)(h1:i<(n:Int)):Tot (c7 a.l i) λx=>x∈a.l:=c6 h0 (by rw[a.h];omega)
theorem e1u(c:List Period)(hc:c.length<=2^20):Tot (b2x c) λo=>∃b:Bd,o=some b/\f3g b c.length:=by
 unfold b2x lpC;have z:f3g (arZ 6 (arZ 7 []:Ar 7 (List Span))) c.length:=λr hr x hx=>by have e1:r=arZ 7 []:=List.eq_of_mem_replicate hr;subst e1;have e2:x=[]:=List.eq_of_mem_replicate hx;simp_all
 refine tO (I:=λv:Bd×Int=>f3g v.1 c.length/\0<=v.2/\v.2<=6) (μ:=λv=>(6-v.2).toNat) ⟨z,Int.le_refl _,by omega⟩ (by omega) ?_;rintro r⟨b,s⟩⟨g0,g1,g2⟩ih;refine tD (λhs=>?_) λ_=>tC ⟨b,rfl,g0⟩;simp at hs;refine tO (I:=λv:Bd×Int=>f3g v.1 c.length/\0<=v.2/\v.2<=7) (μ:=λv=>(7-v.2).toNat) ⟨g0,Int.le_refl _,by omega⟩ (by omega) ?_;rintro r2⟨b2,k⟩⟨k0,k1,k2⟩ih2;refine tD (λhk=>?_) λ_=>?_
 .simp at hk;refine tA (g6g c _ _ (by omega)) λx hx=>tA (c47 b2 g1 hs) λrow hr=>?_;have hin:d0n 7 k=some ():=by unfold d0n;rw[if_pos (by omega)]
  rw[hin,qA];refine tA (c47 b2 g1 hs) λrow hr=>?_;rw[a42 k1 (by omega)];refine ih2 _ ⟨λr3 hr3 y hy=>?_,by omega,by omega⟩ (by omega);rcases b6b (show r3∈a8h b2.l s (Ar.set row k x)from hr3)with e|e
  .subst e;rcases b6b (show y∈a8h row.l k x from hy)with e|e;.subst e;omega
   .exact k0 row hr y e
  .exact k0 r3 e y hy
 .rw[a42 g1 (by omega)];exact ih _ ⟨k0,by omega,by omega⟩ (by omega)
section
variable {b:Bd} {n:Nat}
theorem d3v(hb:f3g b n)(hn:n<=2^20)(d:Int):Tot (a4a b d) λr=>r.1≠0->r.2≠[]/\r.2.length<=100/\∀x∈r.2,0<=x/\x<6:=by
 unfold a4a lpC;refine tO (I:=λv:List Int×Int=>0<=v.2/\v.2<=7/\(v.1.length:Int)<=6*v.2/\∀x∈v.1,0<=x/\x<6) (μ:=λv=>(7-v.2).toNat) ⟨Int.le_refl _,by omega,by simp_all,by simp⟩ (by omega) ?_;rintro r⟨o,k⟩⟨g1,g2,g3,g4⟩ih;dsimp only at g1 g2 g3 g4⊢;refine tD (λhk=>?_) λ_=>tC λh=>absurd rfl h;simp at hk;refine tO (I:=λv:List Int×Int=>0<=v.2/\v.2<=6/\(v.1.length:Int)<=6*k+v.2/\∀x∈v.1,0<=x/\x<6) (μ:=λv=>(6-v.2).toNat) ⟨Int.le_refl _,by omega,by show(o.length:Int)<=6*k+0;omega,g4⟩ (by omega) ?_;rintro r2⟨o2,s⟩⟨k1,k2,k3,k4⟩ih2;dsimp only at k1 k2 k3 k4⊢;refine tD (λhs=>?_) λ_=>?_
 .simp at hs;refine tA (c47 b k1 hs) λrow hr=>tA (c47 row g1 hk) λx hx=>?_;have:=hb row hr x hx;rw[c03 x d (by omega),qA,a42 k1 (by omega)];refine tD (λ_=>?_) λ_=>ih2 _ ⟨by omega,by omega,by dsimp only;omega,k4⟩ (by omega);rw[p6 (by simp only[List.length_cons,List.length_nil];omega),qA];refine ih2 _ ⟨by omega,by omega,by simp;omega,λy hy=>?_⟩ (by omega);rcases qK.1 hy with h|h;.exact k4 y h
  .rw[qF]at h;omega
 .refine tD (λh=>tC λ_=>⟨?_,?_,k4⟩) λ_=>?_;.intro e;have e:o2=[]:=e;rw[e]at h;simp at h
  .dsimp only;omega
  .rw[a42 g1 (by omega)];exact ih _ ⟨by omega,by omega,by dsimp only;omega,k4⟩ (by omega)
theorem c1n(hb:f3g b n)(hn:n<=2^20){s:Int}(h0:0<=s)(h1:s<6)(d:Int):Tot (a1b b s d) λ_=>True:=by refine tA (c47 b h0 h1) λrow hr=>tA (c47 row (by omega) (by omega)) λx hx=>?_;have:=hb row hr x hx;exact tA (b6y _ (by omega)) λz hz=>tA (e41 (by omega)) λ_ _=>tD (λ_=>tC trivial) λ_=>tC trivial
theorem c54(hb:f3g b n)(hn:n<=2^20){s:Int}(h0:0<=s)(h1:s<6)(d:Int):Tot (a2f b s d) λ_=>True:=by refine tA (c47 b h0 h1) λrow hr=>tA (c47 row (by omega) (by omega)) λx hx=>?_;have:=hb row hr x hx;exact tA (b6y _ (by omega)) λz hz=>tA (g3h _ (by omega)) λ_ _=>tD (λ_=>tC trivial) λ_=>tC trivial
theorem d9b(hb:f3g b n)(hn:n<=2^20)(l:List Int)(hl:l≠[])(hll:l.length<=100)(hr:∀x∈l,0<=x/\x<6)(d:Int):Tot (a69 b l d) λ_=>True:=by
 have hp:0<l.length:=List.length_pos_iff.2 hl;refine tA (c6 (by omega) (by omega)) λz hz=>?_;rw[b26 (by omega) (by omega) (by omega),qA];have hsub:∀x∈(l.drop (1:Int).toNat).take ((l.length:Int).toNat-(1:Int).toNat),x∈l:=λx hx=>List.mem_of_mem_drop (List.mem_of_mem_take hx);have hq:((l.drop (1:Int).toNat).take ((l.length:Int).toNat-(1:Int).toNat)).length<=100:=by rw[List.length_take,List.length_drop];omega
 generalize(l.drop (1:Int).toNat).take ((l.length:Int).toNat-(1:Int).toNat)=q at hsub hq;refine tL q (λ(s:Int)i=>(s,i)) (λs _=>0<=s/\s<6) (by omega) (λrec s i y hi hy hI ih=>?_) (λrec s hI=>?_) z (hr z hz);.dsimp only;rw[if_pos (o6 hi)];simp only[e7 hy,qA];have hy2:=hr y (hsub y (qE hy));exact tA (c1n hb hn hy2.1 hy2.2 d) λ_ _=>tA (c1n hb hn hI.1 hI.2 d) λ_ _=>tD (λ_=>ih y hy2) λ_=>ih s hI
 .dsimp only;rw[if_neg (g9 _)];refine tA (c1n hb hn hI.1 hI.2 d) λ_ _=>tD (λ_=>tC trivial) λ_=>?_;refine tL l (λ(s:Int)i=>(s,i)) (λs _=>0<=s/\s<6) (by omega) (λrec2 s i y hi hy hI ih=>?_) (λrec2 s hI=>?_) s hI;.rw[if_pos (o6 hi)];simp only[e7 hy,qA];have hy2:=hr y (qE hy);exact tA (c54 hb hn hy2.1 hy2.2 d) λ_ _=>tA (c54 hb hn hI.1 hI.2 d) λ_ _=>tD (λ_=>ih y hy2) λ_=>ih s hI
  .rw[if_neg (g9 _)];exact tC trivial
theorem g5z(hb:f3g b n)(hn:n<=2^20)(d:Int):Tot (b17 b d) λ_=>True:=by refine tA (d3v hb hn d) λr hr=>tD (λ_=>tC trivial) λh=>?_;obtain⟨h1,h2,h3⟩:=hr (by simp_all);exact tA (d9b hb hn _ h1 h2 h3 d) λ_ _=>tC trivial
theorem g1x(hb:f3g b n)(hn:n<=2^20)(f t:Int)(z o:List nQ)(ho:o.length<=2^30):Tot (a72 f t b z o) λr=>r.2.length<=o.length+1:=by
 refine tA (g5z hb hn f) λq _=>?_;simp only[a1z,qA];refine tD (λ_=>tC (by simp)) λ_=>?_;rcases h1f o with e|⟨A,y,e⟩;.subst e;have e0:decide ((([]:List nQ).length:Int)>0)=false:=rfl;exact tC (by simp)
 .subst e;have hA2:(A++[y]).length=A.length+1:=by simp
  have hA:A.length<2^62:=by omega
  have e0:decide (((A++[y]).length:Int)>0)=true:=by simp
  have gl:c7 (A++[y]) (i64 (((A++[y]).length:Int)-1))=some y:=d3s A y hA;simp only[e0,if_true,gl,qA];have el:i64 (((A++[y]).length:Int)-1)=(A.length:Int):=by rw[qL];simp only[List.length_cons,List.length_nil];rw[e9 (by omega) (by omega)];omega
  refine tD (λ_=>?_) λ_=>?_
  .rw[el,b26 (by omega) (by omega) (by omega),qA];have:(((A++[y]).drop (0:Int).toNat).take ((A.length:Int).toNat-(0:Int).toNat)).length<=A.length:=by rw[List.length_take];omega
   rw[p6 (by simp only[List.length_cons,List.length_nil];omega),qA];exact tC (by simp)
  .rw[p6 (by grind),qA];exact tC (by simp)
end
end Go.PL
namespace Go.PL
open Go Go.SX
def deF(p:Int):List Int->List Int|[]=>[]|y::r=>if y=p then deF p r else y::deF y r
def de:List Int->List Int|[]=>[]|x::r=>x::deF x r
theorem d55:∀(A:List Int)(p y z:Int),deF p (A++[y,z])=if z=y then deF p (A++[y])else deF p (A++[y])++[z]
 |[],p,y,z=>by simp only[List.nil_append,deF];grind|x::A,p,y,z=>by
   simp only[List.cons_append,deF];split;.exact d55 A p y z
   .rw[d55 A x y z];grind
theorem g5p(A:List Int)(y z:Int):de (A++[y,z])=if z=y then de (A++[y])else de (A++[y])++[z]:=by cases A with|nil=>simp only[List.nil_append,de,deF];grind|cons x A=>simp only[List.cons_append,de];rw[d55];grind
theorem e9i{l:List Int}{m:Nat}(h0:0<m){y z:Int}(hy:l[m-1]?=some y)(hz:l[m]?=some z):de (l.take (m+1))=if z=y then de (l.take m)else de (l.take m)++[z]:=by
 obtain⟨hm,hz'⟩:=qD.1 hz;obtain⟨hm1,hy'⟩:=qD.1 hy;have e1:l.take m=l.take (m-1)++[y]:=by have:=List.take_succ_eq_append_getElem (l:=l) (i:=m-1) hm1;grind
 have e2:l.take (m+1)=l.take (m-1)++[y,z]:=by rw[List.take_succ_eq_append_getElem hm,hz',e1];simp
 rw[e2,e1,g5p]
theorem e13:∀(r:List Int)(p x:Int),x∈p::deF p r↔x∈p::r
 |[],p,x=>Iff.rfl|y::r,p,x=>by
   simp only[deF];split;.rename_i h;rw[e13 r p x,h];simp
   .have:=e13 r y x;simp_all
theorem h0k(l:List Int)(x:Int):x∈de l↔x∈l:=by cases l with|nil=>exact Iff.rfl|cons y r=>exact e13 r y x
theorem d15(l:List Int)(hl:l.length<=1073741824)(k:Nat)(hk1:1<=k)(h:k<l.length)(htk:de (l.take (k+1))=l.take k)(m:Nat)(hsl:m=l.length-k):∃r,d9 FU a1r (l,(k:Int),1,((k:Int),m))=some r/\r=de l:=by
 refine b9s (f:=a1r) (λs=>∃(k3 k2:Nat)(cur:List Int),s=(cur,(k3:Int),(k2:Int),((k:Int),m))/\1<=k2/\k+k2<=l.length/\k<=k3/\k3+1<=k+k2/\cur.length=l.length/\cur.take k3=de (l.take (k+k2))/\∀j,k+k2-1<=j->cur[j]?=l[j]?) (λs=>l.length-s.2.2.1.toNat) _ ⟨k,1,l,rfl,by omega,by omega,by omega,by omega,rfl,htk.symm,λ_ _=>rfl⟩ (by omega) ?_;rintro s rec2⟨k3,k2,cur,rfl,a1,a2,a3,a4,hcl,hct,hcj⟩;unfold a1r;by_cases hlt:k+k2<l.length
 .right;have hz2:l[k+k2]?=some l[k+k2]:=qG hlt;have hy2:l[k+k2-1]?=some l[k+k2-1]:=qG (by omega);have w1:c7 cur ((k:Int)+(k2:Int))=some l[k+k2]:=by rw[<-Int.natCast_add,b4c,hcj _ (by omega),hz2]
  have v1:c72 cur (k:Int) (k2:Int)=some l[k+k2]:=by unfold c72;grind
  have e2:i64 ((k2:Int)-1)=((k2-1:Nat):Int):=by rw[e9 (by omega) (by omega)];omega
  have w2:c7 cur ((k:Int)+((k2-1:Nat):Int))=some l[k+k2-1]:=by rw[<-Int.natCast_add,b4c,show k+(k2-1)=k+k2-1by omega,hcj _ (Nat.le_refl _),hy2]
  have v2:c72 cur (k:Int) ((k2-1:Nat):Int)=some l[k+k2-1]:=by unfold c72;rw[if_pos (by omega),w2]
  have v3:c7 cur (k3:Int)=some (cur[k3]'(by omega)):=by exact qG _
  have ht2:=e9i (by omega) hy2 hz2;have e3:i64 ((k2:Int)+1)=((k2+1:Nat):Int):=by rw[e9 (by omega) (by omega)];simp
  have e4:i64 ((k3:Int)+1)=((k3+1:Nat):Int):=by rw[e9 (by omega) (by omega)];simp
  have hd0:decide ((k2:Int)<(m:Int))=true:=decide_eq_true (by omega);simp only[hd0,if_true,v1,w1,e2,v2,w2,qA,v3,e3,e4];by_cases hq:l[k+k2]=l[k+k2-1];.rw[if_neg (by simpa using hq)];rw[if_pos hq]at ht2;exact⟨_,rfl,⟨k3,k2+1,cur,rfl,by omega,by omega,a3,by omega,hcl,by rw[hct,<-ht2];rfl,λj hj=>hcj j (by omega)⟩,by simp only[Int.toNat_natCast];omega⟩
  .rw[if_pos (by simpa using hq)];rw[if_neg hq]at ht2;refine⟨_,rfl,⟨k3+1,k2+1,a8h cur (k3:Int) l[k+k2],rfl,by omega,by omega,by omega,by omega,by rw[a34];omega,?_,λj hj=>?_⟩,by simp only[Int.toNat_natCast];omega⟩
   .have:a8h cur (k3:Int) l[k+k2]=cur.set k3 l[k+k2]:=by unfold a8h;rw[if_pos (by omega),Int.toNat_natCast]
    rw[this,List.take_succ_eq_append_getElem (by rw[List.length_set];omega)];have h5:(cur.set k3 l[k+k2]).take k3=cur.take k3:=by rw[List.take_set,List.set_eq_of_length_le (by rw[List.length_take];omega)]
    rw[h5,hct,show k+(k2+1)=k+k2+1by omega,ht2];simp
   .have:a8h cur (k3:Int) l[k+k2]=cur.set k3 l[k+k2]:=by unfold a8h;rw[if_pos (by omega),Int.toNat_natCast]
    rw[this,List.getElem?_set_ne (by omega)];exact hcj j (by omega)
 .left;have hd0:decide ((k2:Int)<(m:Int))=false:=decide_eq_false (by omega);simp only[hd0,qM,if_false];have hcc:(b5l 0 cur (k3:Int)).length=cur.length:=by unfold b5l;simp;omega
  rw[b26 (by omega) (by omega) (by omega),qA];unfold h1h;rw[if_pos (by simp;omega),qA,b26 (by omega) (by omega) (by omega),qA];refine⟨_,rfl,?_⟩;have hkk:k+k2=l.length:=by omega
  rw[hkk,List.take_length]at hct;rw[<-hct];unfold b5l;simp only[Int.toNat_natCast,Int.toNat_zero,List.drop_zero,Nat.sub_zero];rw[List.take_append_of_le_length (by rw[List.length_take];omega),List.take_take,Nat.min_self]
theorem d4m(l:List Int)(hl:l.length<=1073741824)(rec:List Int×Int->Option (List Int))(k:Nat)(hk1:1<=k)(h:k<l.length):a0c rec (l,(k:Int))=if l[k]=l[k-1]then d9 FU a1r (l,(k:Int),1,((k:Int),((l.drop k).take (l.length-k)).length))else rec (l,((k+1:Nat):Int)):=by
 have hz:c7 l (k:Int)=some l[k]:=by rw[b4c];simp_all
 have e1:i64 ((k:Int)-1)=((k-1:Nat):Int):=by rw[e9 (by omega) (by omega)];omega
 have hy:c7 l (i64 ((k:Int)-1))=some l[k-1]:=by rw[e1,b4c];simp_all
 have hs:a1x l (k:Int) (l.length:Int)=some ((l.drop k).take (l.length-k)):=by rw[b26 (by omega) (by omega) (by omega)];simp
 have e2:i64 ((k:Int)+1)=((k+1:Nat):Int):=by rw[e9 (by omega) (by omega)];simp
 have hd0:decide ((k:Int)<(l.length:Int))=true:=decide_eq_true (by omega);unfold a0c;grind
theorem d7l(l:List Int)(rec:List Int×Int->Option (List Int)):a0c rec (l,(l.length:Int))=some l:=by unfold a0c;simp_all
theorem b98(l:List Int)(hl:l.length<=1073741824):a0n l=some (de l):=by
 unfold a0n;by_cases h2:l.length<2;.cases l with|nil=>rfl|cons x r=>cases r with|nil=>rfl|cons y r=>grind
 .rw[if_neg (by grind)];obtain⟨r,h1,h3⟩:=b9s (f:=a0c) (λs=>∃k:Nat,s=(l,(k:Int))/\1<=k/\k<=l.length/\de (l.take k)=l.take k) (λs=>l.length-s.2.toNat) (λr=>r=de l) (s:=(l,1)) ⟨1,rfl,by omega,by omega,by cases l with|nil=>rfl|cons x r=>rfl⟩ (Nat.lt_of_le_of_lt (Nat.sub_le _ _) (Nat.lt_of_le_of_lt hl (by decide))) (by
   rintro s rec⟨k,rfl,hk1,hk,hd⟩;by_cases h:k<l.length
   .have htk:=e9i (l:=l) (m:=k) (by omega) (qG (by omega)) (qG h);rw[d4m l hl rec k hk1 h];by_cases heq:l[k]=l[k-1];.left;rw[if_pos heq];rw[if_pos heq,hd]at htk;exact d15 l hl k hk1 h htk _ (by simp_all)
    .right;rw[if_neg heq];refine⟨_,rfl,⟨k+1,rfl,by omega,h,?_⟩,by omega⟩;simp_all
   .have:k=l.length:=by omega
    subst this;rw[d7l];simp_all);simp_all
end Go.PL
namespace Go.PL
open Go Go.SX
theorem e9n(a b:List Int)(ha:a.length<=2^30):Tot (a88 a b) λ_=>True:=by
 refine tD (λ_=>tC trivial) λh=>?_;have hl:(a.length:Int)=b.length:=by simp_all
 refine tL a (λ(_:Unit)i=>i) (λ_ _=>True) (by omega) (λrec s i y hi hy _ ih=>?_) (λrec s _=>?_) () trivial;.unfold a8x;rw[if_pos (o6 hi),e7 hy,qA];exact tA (c6 (by omega) (by omega)) λ_ _=>tD (λ_=>tC trivial) λ_=>ih () trivial
 .unfold a8x;rw[if_neg (g9 _)];exact tC trivial
theorem g0g(s:List Int):(de s).length<=s.length:=by
 have hd:∀(r:List Int)(p:Int),(deF p r).length<=r.length:=by intro r;induction r with|nil=>intro p;exact Nat.le_refl _|cons y r ih=>simp only[deF];grind
 cases s with|nil=>simp[de]|cons x r=>have:=hd r x;simp only[de,List.length_cons]at*;omega
theorem e5k(a:List (List Span))(n:Nat)(ha:a.length<=42)(hn:n<=10000)(hx:∀x∈a,x.length<=n):Tot (b7w a) λr=>r.length<=1000000:=by
 unfold b7w mkI;rw[if_pos ⟨by omega,rfl,by omega,by omega⟩,qA];refine tL a (λ(q:List (List Span)×List Int)i=>(q.1,q.2,i)) (λq i=>q.1.length=a.length/\(∀x∈q.1,x.length<=n)/\q.2.length<=i*(2*n)) (by omega) (λrec q i y hi hy hI ih=>?_) (λrec q hI=>?_) (List.replicate (a.length:Int).toNat [],[]) ⟨by simp,λx hx=>by simp_all,by simp⟩
 .obtain⟨i1,i2,i3⟩:=hI;dsimp only;rw[if_pos (o6 hi)];simp only[e7 hy,qA];refine tA (b2p (by have:=hx y (qE hy);omega)) λz hz=>tA (c6 (by omega) (by omega)) λ_ _=>tA (c6 (by omega) (by omega)) λ_ _=>?_;have hsl:(a8h q.1 (i:Int) z).length=q.1.length:=a34 ..;have hsm:∀x∈a8h q.1 (i:Int) z,x.length<=n:=λx hxx=>by
   rcases b6b hxx with e|e;.rw[e];have:=hx y (qE hy);omega
   .exact i2 x e
  refine tA (c6 (by omega) (by omega)) λ_ _=>tA (c6 (by omega) (by omega)) λw hw=>?_;have hwl:=hsm w hw;have hB:i*(2*n)<=42*20000:=Nat.mul_le_mul (by omega) (by omega);refine tL w (λ(s:List Int)k=>(a8h q.1 (i:Int) z,s,k)) (λs k=>s.length<=i*(2*n)+2*k) (by omega) (λrec2 s k u hk hu hI2 ih2=>?_) (λrec2 s hI2=>?_) q.2 (by omega);.rw[if_pos (o6 hk)];simp only[e7 hu,qA];rw[p6 (by simp only[List.length_cons,List.length_nil];omega),qA];exact ih2 _ (by simp;omega)
  .rw[if_neg (g9 _)];exact ih (a8h q.1 (i:Int) z,s) ⟨hsl.trans i1,hsm,by dsimp only;rw[Nat.succ_mul];omega⟩
 .obtain⟨i1,i2,i3⟩:=hI;have hB:a.length*(2*n)<=42*20000:=Nat.mul_le_mul (by omega) (by omega);dsimp only;rw[if_neg (g9 _)];unfold b8s;rw[if_pos (by omega),qA];have hp:(b89 q.2).Perm q.2:=a8p _;have hsl:=hp.length_eq;rw[b98 _ (by omega),qA];have hcl:=g0g (b89 q.2);generalize de (b89 q.2)=c at hcl;refine tO (I:=λv:List (List Span)×List Int×List Piece×Int=>v.1=q.1/\v.2.1=c/\0<=v.2.2.2/\v.2.2.2<=(c.length:Int)/\(v.2.2.1.length:Int)<=v.2.2.2/\∀p∈v.2.2.1,p.Members.length<=42) (μ:=λv=>((c.length:Int)-v.2.2.2).toNat) ⟨rfl,rfl,Int.le_refl _,by simp_all,Int.le_refl _,by simp⟩ (by grind) ?_;rintro r⟨v20,v21,v22,k⟩⟨e1,e2,k1,k2,k3,k4⟩ih;dsimp only at e1 e2 k1 k2 k3 k4⊢;subst e1 e2;rw[a42 (x:=k) k1 (by omega)];refine tD (λhc=>?_) λ_=>tC (by omega);simp at hc;refine tA (c6 k1 (by omega)) λ_ _=>tA (c6 k1 (by omega)) λx1 _=>tA (c6 (by omega) hc) λ_ _=>tA (c6 (by omega) hc) λx2 _=>?_;have go:∀o:List Piece,(o.length:Int)<=k+1->(∀p∈o,p.Members.length<=42)->Tot (r (q.1,v21,o,k+1)) λr=>r.length<=1000000:=λo ho hm=>ih _ ⟨rfl,rfl,by dsimp only;omega,by dsimp only;omega,ho,hm⟩ (by dsimp only;omega);refine tL q.1 (λ(s:List Int×Piece)i=>(q.1,v21,v22,s.1,s.2,i)) (λs i=>s.1.length<=i) (by omega) (λrec3 s i y hi hy hI3 ih3=>?_) (λrec3 s hI3=>?_) ([],(⟨(⟨x1,x2⟩:Span),[]⟩:Piece)) (by simp);.rw[if_pos (o6 hi)];simp only[e7 hy,qA];rw[c03 y _ (by have:=i2 y (qE hy);omega),qA];refine tD (λ_=>?_) λ_=>ih3 (s.1,(⟨s.2.Span,[]⟩:Piece)) (by dsimp only;omega);rw[p6 (by simp only[List.length_cons,List.length_nil];omega),qA];exact ih3 (s.1++[(i:Int)],(⟨s.2.Span,[]⟩:Piece)) (by simp;omega)
  .rw[if_neg (g9 _)];refine tD (λ_=>go v22 (by omega) k4) λ_=>?_;have put:Tot (Option.bind (a4n 40 v22 [(⟨s.2.Span,s.1⟩:Piece)]) λv49=>r (q.1,v21,v49,k+1)) λr=>r.length<=1000000:=by
    rw[p6 (by simp only[List.length_cons,List.length_nil];omega),qA];refine go _ (by simp;omega) λp hp=>?_;rcases qK.1 hp with h|h;.exact k4 p h
    .rw[qF]at h;subst h;dsimp only;omega
   rcases h1f v22 with e|⟨A,y,e⟩;.subst e;have e0:decide ((([]:List Piece).length:Int)>0)=false:=rfl;simp only[e0,qM,if_false,qA];omega
   .subst e;have hA2:(A++[y]).length=A.length+1:=by simp
    have hA:A.length<2^62:=by omega
    have e0:decide (((A++[y]).length:Int)>0)=true:=by simp
    have gl:c7 (A++[y]) (i64 (((A++[y]).length:Int)-1))=some y:=d3s A y hA;simp only[e0,if_true,gl,qA];refine tA (Q:=λ_=>True) (tD (λ_=>?_) λ_=>tC trivial) λ_ _=>tD (λ_=>?_) λ_=>put;.exact tA (e9n _ _ (by have:=k4 y (by simp);omega)) λ_ _=>tC trivial
    .rw[d3y A y _ hA];refine go _ (by simp at k3⊢;omega) λp hp=>?_;rcases qK.1 hp with h|h;.exact k4 p (by simp[h])
     .rw[qF]at h;subst h;exact k4 y (by simp)
theorem e1m(c:List Period)(hc:c.length<=10000):Tot (a71 c) λr=>r.length<=2000000:=by
 refine tA (e1u c (by omega)) λo ho=>?_;obtain⟨b,rfl,hb⟩:=ho;refine tO (I:=λv:Bd×List (List Span)×Int=>v.1=b/\0<=v.2.2/\v.2.2<=6/\(v.2.1.length:Int)<=7*v.2.2/\∀x∈v.2.1,x.length<=c.length) (μ:=λv=>(6-v.2.2).toNat) ⟨rfl,Int.le_refl _,by simp_all,by simp_all,by simp⟩ (by simp_all) ?_;rintro r⟨b2,l,k⟩⟨rfl,g1,g2,g3,g4⟩ih;dsimp only at g1 g2 g3 g4⊢;refine tD (λhk=>?_) λ_=>?_
 .simp at hk;refine tA (c47 b2 g1 hk) λrow hr=>?_;have h7:row.l.length=7:=row.h;rw[p6 (by omega),qA,a42 g1 (by omega)];refine ih _ ⟨rfl,by dsimp only;omega,by dsimp only;omega,by dsimp only;rw[qL];omega,λx hx=>?_⟩ (by dsimp only;omega);rcases qK.1 hx with h|h;.exact g4 x h
  .exact hb row hr x h
 .refine tA (e5k l c.length (by omega) hc g4) λp hp=>?_;refine tL p (λ(s:List nQ)i=>(b2,s,([]:List nQ),p,i,())) (λs i=>s.length<=2*i) (by omega) (λrec s i y hi hy hI ih2=>?_) (λrec s hI=>?_) [] (by simp);.rw[if_pos (o6 hi)];simp only[e7 hy,qA];refine tA (g1x hb (by omega) _ _ _ _ (by omega)) λq hq=>tA (g1x hb (by omega) _ _ _ _ (by omega)) λq2 hq2=>ih2 q2.2 (by omega)
  .dsimp only;rw[if_neg (g9 _)];exact tC (by omega)
end Go.PL
namespace Go.PL
open Go Go.SX
def c7f(s:Span)(d:Int):Bool:=decide (s.From<=d)&&decide (d<s.To)
theorem c9s(s:Span)(d:Int):a4l s d=some (c7f s d):=by unfold a4l c7f;grind
theorem c6g(l:List Int)(x:Int)(hl:l.length<=2^30):q9 l x=some (l.any λy=>x==y):=by
 obtain⟨n,h1,h2⟩:=c5d (f:=a06 l x) l (λy=>x==y) hl (λrec i y hy=>by have hi:=(qD.1 hy).1;unfold a06;rw[if_pos (o6 hi)];simp only[e7 hy,qA]) λrec=>by unfold a06;simp_all
 unfold q9 a4p;simp_all
theorem d5w{α σ ρ:Type}{f:(σ->Option ρ)->σ->Option ρ}(l:List α)(p:α->Bool)(e:α×Bool->Int->σ)(out:α×Bool->Option ρ)(z:α)(hl:l.length<=2^30)(h0:∀(rec:σ->Option ρ)(s:α×Bool)(i:Nat)(y:α),l[i]?=some y->p y=false->f rec (e s (i:Int))=rec (e s (i64 ((i:Int)+1))))(h1:∀(rec:σ->Option ρ)(s:α×Bool)(i:Nat)(y:α),l[i]?=some y->p y=true->f rec (e s (i:Int))=rec (e (y,true) (i64 ((i:Int)+1)))\/(s.2=true/\f rec (e s (i:Int))=rec (e s (i64 ((i:Int)+1)))))(hfin:∀(rec:σ->Option ρ)(s:α×Bool),f rec (e s (l.length:Int))=out s):∃s,d9 FU f (e (z,false) 0)=out s/\(s.2=true↔∃y∈l,p y=true)/\(s.2=true->s.1∈l/\p s.1=true):=by
 refine a9k (f:=f) l e (λs i=>(s.2=true↔∃y∈l.take i,p y=true)/\(s.2=true->s.1∈l/\p s.1=true)) (λo=>∃s,o=out s/\(s.2=true↔∃y∈l,p y=true)/\(s.2=true->s.1∈l/\p s.1=true)) (by omega) ?_ ?_ (z,false) ⟨by simp,by simp⟩
 .rintro rec s i y hi hy⟨a,b⟩
  right;cases hp:p y with|false=>
    rw[h0 rec s i y hy hp,a5g (by omega)];refine⟨s,rfl,?_,b⟩;rw[a,a9h hy];constructor;.rintro⟨u,h,h'⟩;exact⟨u,by simp[h],h'⟩
    .rintro⟨u,h,h'⟩;rcases qK.1 h with h|h;.exact⟨u,h,h'⟩
     .rw[qF]at h;subst h;rw[hp]at h';cases h'|true=>
    have hex:∃u∈l.take (i+1),p u=true:=⟨y,by rw[a9h hy];simp,hp⟩;rcases h1 rec s i y hy hp with h|⟨h,h'⟩;.rw[h,a5g (by omega)];exact⟨(y,true),rfl,⟨λ_=>hex,λ_=>rfl⟩,λ_=>⟨qE hy,hp⟩⟩
    .rw[h',a5g (by omega)];exact⟨s,rfl,⟨λ_=>hex,λ_=>h⟩,b⟩
 .rintro rec s⟨a,b⟩;rw[List.take_length]at a;exact⟨s,hfin rec s,a,b⟩
theorem f8v(L:lQ)(d:Int)(ks:List Int)(hl:L.facts.length<=2^30)(hk:ks.length<=2^30):a2j L d ks=some (L.facts.filter λu=>(ks.any λy=>u.Kind==y)&&c7f u.Span d):=by
 refine c38 (k:=112) L.facts _ hl (by omega) (λrec s i y hy=>?_) λrec s=>?_;.have hi:=(qD.1 hy).1;unfold a9u;rw[if_pos (o6 hi)];simp only[e7 hy,qA,c6g ks _ hk,c9s,o4]
 .unfold a9u;simp_all
def Ans(b:Prop)(r:Int×Bool):Prop:=(r.2=true↔b)/\(r.2=true->0<=r.1/\r.1<=5)
def f6n(l:List aQ):Prop:=(∀u∈l,vld u=true)/\l.length<=27
theorem d4i{l:List aQ}(h:f6n l)(p:aQ->Bool):f6n (l.filter p):=⟨λu hu=>h.1 u (List.mem_filter.1 hu).1,Nat.le_trans (List.length_filter_le _ _) h.2⟩
theorem h19{α:Type}{l:List α}:(∃y∈l,true=true)↔l≠[]:=by cases l with|nil=>simp|cons a l=>simp_all
theorem e7h(L:lQ)(d:Int)(h:f6n L.facts):Tot (a5v L d) (Ans (L.facts.filter (λu=>([3].any λy=>u.Kind==y)&&c7f u.Span d)≠[])):=by
 unfold a5v;rw[f8v L d [3] (by have:=h.2;omega) (by simp),qA];have hq:=d4i h (λu=>([3].any λy=>u.Kind==y)&&c7f u.Span d);generalize L.facts.filter (λu=>([3].any λy=>u.Kind==y)&&c7f u.Span d)=q at hq;obtain⟨s,h1,h2,h3⟩:=d5w (f:=a3m q) q (λ_=>true) (λ(s:aQ×Bool)i=>(s.1,s.2,q,i)) (λs=>some (s.1.State,s.2)) (⟨0,0,0,false,0,0,0,(⟨0,0⟩:Span),0,0,0,0,0⟩:aQ) (by have:=hq.2;omega) (λrec s i y hy hp=>by grind) (λrec s i y hy hp=>by have hi:=(qD.1 hy).1;unfold a3m;simp only[e7 hy,qA,y3,o4,qA];grind) (λrec s=>by unfold a3m;simp_all);refine⟨_,h1,?_,λhb=>?_⟩;.rw[h2];exact h19
 .exact(c3d (hq.1 _ (h3 hb).1)).2.1
theorem f2c(l:List aQ)(d:Int)(h:f6n l)(h0:0<=d)(h1:d<=73048):Tot (a8j l d) (Ans (c7f (a4q l) d=true/\∃u∈l,cur u=true/\u.Kind=5/\c7f u.Span d=true)):=by
 have hl:=h.2;unfold a8j;rw[g09 h0 h1,qA];rw[c27 l (by omega),qA,c03 [a4q l] d (by simp),qA];have hd:(decide (0<=d)&&decide (d<=73048))=true:=by simp_all
 have hin:inB [a4q l] d=c7f (a4q l) d:=by simp[inB,c7f]
 rw[hd,hin,Bool.true_and];cases hc:c7f (a4q l) d with|false=>exact tC ⟨by simp,by simp⟩|true=>
   obtain⟨s,g1,g2,g3⟩:=d5w (f:=a4t l d) l (λu=>(cur u&&(u.Kind==5))&&c7f u.Span d) (λ(s:aQ×Bool)i=>(s.1,s.2,i)) (λs=>some (s.1.State,s.2)) (⟨0,0,0,false,0,0,0,(⟨0,0⟩:Span),0,0,0,0,0⟩:aQ) (by omega) (λrec s i y hy hp=>by
     have hi:=(qD.1 hy).1;unfold a4t;rw[if_pos (o6 hi)];simp only[e7 hy,qA,b6f,y3,o4];have:(((!cur y)||(y.Kind !=5))||decide (d<y.Span.From)||decide (d>=y.Span.To))=!((cur y&&(y.Kind==5))&&c7f y.Span d):=by unfold c7f;rw[Bool.eq_iff_iff];grind
     grind) (λrec s i y hy hp=>by
     have hi:=(qD.1 hy).1;unfold a4t;rw[if_pos (o6 hi)];simp only[e7 hy,qA,b6f,y3,o4];rw[if_neg]
     .split;.simp_all
      simp_all
     .unfold c7f at hp;simp_all) (λrec s=>by unfold a4t;simp_all);refine⟨_,g1,?_,λhb=>?_⟩;.grind
   .exact(c3d (h.1 _ (g3 hb).1)).2.1
end Go.PL
namespace Go.PL
open Go Go.SX
theorem d06:∀(l:List (Int×Int))(k v j:Int),j∈(a62 l k v).map (·.1)↔j=k\/j∈l.map (·.1)
 |[],k,v,j=>by simp[a62]|q::r,k,v,j=>by
   unfold a62;by_cases hq:q.1=k;.simp_all
   .have ih:=d06 r k v j;grind
theorem d2p:∀(l:List (Int×Int))(k v:Int),(a62 l k v).length<=l.length+1
 |[],k,v=>by simp[a62]|q::r,k,v=>by
   unfold a62;split;.simp
   .have:=d2p r k v;simp_all
theorem e8d(l:List aQ)(h:f6n l):Tot (b12 l) λr=>(∀x∈r,0<=x/\x<=5)/\r.length<=27:=by
 have hl:=h.2;refine a9k (f:=a7p l) l (λs i=>(s,i)) (λs i=>s=(l.take i).map (·.Seat)) (λo=>Tot o _) (by omega) ?_ ?_ [] (by simp);.rintro rec s i y hi hy rfl;right;unfold a7p;rw[if_pos (o6 hi)];simp only[e7 hy,qA];rw[p6 (by grind),qA,a5g (by omega)];exact⟨_,rfl,by rw[a9h hy,List.map_append];rfl⟩
 .rintro rec s rfl;unfold a7p;dsimp only;rw[if_neg (g9 _),List.take_length];unfold b8s;rw[if_pos (by grind),qA];have hp:=a8p (l.map (·.Seat));have hle:(b89 (l.map (·.Seat))).length=l.length:=by rw[hp.length_eq,List.length_map]
  rw[b98 _ (by omega),qA];refine tC ⟨λx hx=>?_,?_⟩;.rw[h0k,hp.mem_iff,List.mem_map]at hx;obtain⟨u,hu,rfl⟩:=hx;exact(c3d (h.1 u hu)).2.2.1
  .have hd:∀(r:List Int)(p:Int),(deF p r).length<=r.length:=by intro r;induction r with|nil=>intro p;exact Nat.le_refl _|cons y r ih=>simp only[deF];grind
   have:∀s:List Int,(de s).length<=s.length:=by intro s;cases s with|nil=>simp[de]|cons x r=>have:=hd r x;simp only[de,List.length_cons]at*;omega
   grind
theorem g8h(k:List Int)(hk:k.length<=1000)(hr:∀x∈k,0<=x/\x<=5)(m:List (Int×Int))(z:Int)(hz:z∈k):Tot (d9 FU (a0f k) (m,z,k,0)) λr=>r.2=true/\0<=r.1/\r.1<=5:=by
 refine a9k (f:=a0f k) k (λ(s:Int)i=>(m,s,k,i)) (λs i=>s∈k) (λo=>Tot o _) (by omega) ?_ ?_ z hz
 .rintro rec s i y hi hy hs;right;unfold a0f;simp only[List.map_id',o6 hi,if_true,e7 hy,qA];rw[a5g (by omega)];split;.exact⟨y,rfl,qE hy⟩
  grind
 .rintro rec s hs;unfold a0f;simp only[List.map_id'];rw[if_neg (g9 _)];exact tC ⟨rfl,hr s hs⟩
theorem d8d(L:lQ)(d a:Int)(h:f6n L.facts)(h0:0<=d)(h1:d<=73048):Tot (a3v L d a) (Ans (L.facts.filter (λu=>([1,2].any λy=>u.Kind==y)&&c7f u.Span d)≠[])):=by
 unfold a3v;rw[f8v L d [1,2] (by have:=h.2;omega) (by simp),qA];have hq:=d4i h (λu=>([1,2].any λy=>u.Kind==y)&&c7f u.Span d);generalize L.facts.filter (λu=>([1,2].any λy=>u.Kind==y)&&c7f u.Span d)=q at hq;have hl:=hq.2;refine a9k (f:=a2g q d a) q (λ(s:List (Int×Int)×Int)i=>(L,s.1,s.2,q,i)) (λs i=>(∀k,k∈s.1.map (·.1)↔∃y∈q.take i,y.State=k)/\s.1.length<=i) (λo=>Tot o _) (by omega) ?_ ?_ ([],0) ⟨by simp,by simp⟩
 .rintro rec s i y hi hy⟨g1,g2⟩;right;unfold a2g;rw[if_pos (o6 hi)];simp only[e7 hy,qA];rw[a5g (by omega)];refine⟨(_,_),rfl,λk=>?_,?_⟩
  .rw[d06,g1,a9h hy];constructor
   .rintro(e|⟨u,hu,e⟩);.grind
    grind
   .rintro⟨u,hu,e⟩;rcases qK.1 hu with hu|hu;.grind
    .grind
  .exact Nat.le_trans (d2p _ _ _) (by omega)
 .rintro rec⟨m,tt⟩⟨g1,g2⟩;rw[List.take_length]at g1;dsimp only at g1 g2;have hst:∀k∈m.map (·.1),0<=k/\k<=5:=λk hk=>by obtain⟨y,hy,rfl⟩:=(g1 k).1 hk;exact(c3d (hq.1 y hy)).2.1
  unfold a2g;dsimp only;rw[if_neg (g9 _)];unfold c8c;rw[if_pos ⟨by rw[List.all_eq_true];intro p hp;have:=hst p.1 (List.mem_map.2 ⟨p,hp,rfl⟩);unfold c4v;grind,by omega⟩,qA];have hp:=a8p (m.map (·.1));generalize b89 (m.map (·.1))=ks at hp;have hks:∀k∈ks,0<=k/\k<=5:=λk hk=>hst k (hp.subset hk);have hkl:ks.length=m.length:=by rw[hp.length_eq,List.length_map]
  simp only[List.map_id'];refine tD (λhc=>?_) λhc=>?_;.simp at hc;refine tC ⟨⟨λh=>(by grind),λhne=>?_⟩,by simp⟩;rw[hc]at hkl;have hm:m=[]:=List.length_eq_zero_iff.1 hkl.symm;cases q with|nil=>simp_all|cons u q=>have:=(g1 u.State).2 ⟨u,by simp,rfl⟩;rw[hm]at this;simp at this
  .have hks0:ks≠[]:=by intro e;rw[e]at hc;simp at hc
   have hne:q≠[]:=by intro e;obtain⟨x,hx⟩:=List.exists_mem_of_ne_nil ks hks0;obtain⟨y,hy,_⟩:=(g1 x).1 (hp.subset hx);rw[e]at hy;cases hy
   have good:∀x:Int,0<=x/\x<=5->Ans (q≠[]) (x,true):=λx hx=>⟨⟨λ_=>hne,λ_=>rfl⟩,λ_=>hx⟩;have hlen0:0<ks.length:=List.length_pos_iff.2 hks0;refine tD (λhc1=>?_) λhc1=>?_;.refine tA (c6 (by omega) (by omega)) λx hx=>tA (c6 (by omega) (by omega)) λy hy=>?_;exact tC (good y (hks y hy))
   .refine tA (f2c L.facts d h h0 h1) λv9 hv9=>?_;simp only[o4,qA];refine tD (λhc2=>?_) λhc2=>?_;.simp only[qB]at hc2;exact tC (good _ (hv9.2 hc2.1.1))
    .rw[f8v L d [1] (by have:=h.2;omega) (by simp),qA];refine tA (e8d _ (d4i h _)) λv13 hv13=>?_;obtain⟨hs,hs27⟩:=hv13;refine tD (λhc3=>?_) λhc3=>?_;.simp at hc3;refine tA (c6 (by omega) (by omega)) λx hx=>tA (c6 (by omega) (by omega)) λy hy=>?_;exact tC (good y (hs y hy))
     .rw[c6g v13 _ (by omega)];simp only[o4,qA];refine tD (λhc4=>?_) λhc4=>?_;.simp only[qB]at hc4;obtain⟨⟨hb,h2⟩,hin⟩:=hc4;match v13,h2,hin,hs with
       |[x,y],_,hin,hs=>
         have e0:c7 [x,y] 0=some x:=rfl;have e1:c7 [x,y] 1=some y:=rfl;have hx:=hs x (by simp);have hy:=hs y (by simp);have hz:v9.1=x\/v9.1=y:=by simpa using hin
         refine tC (good _ ?_);rw[e9 (n:=x+y) (by omega) (by omega)];rcases hz with e|e;.rw[e,show x+y-x=y by omega,e9 (by omega) (by omega)];omega
         .rw[e,show x+y-y=x by omega,e9 (by omega) (by omega)];omega|[],h2,_,_=>simp at h2|[_],h2,_,_=>simp at h2|_::_::_::_,h2,_,_=>simp at h2;omega
      .refine tD (λhc5=>tC (good _ (hv9.2 hc5))) λhc5=>?_;refine tA (c6 (by omega) (by omega)) λx hx=>tA (c6 (by omega) (by omega)) λy hy=>?_;have:=g8h ks (by omega) hks m y hy;exact this.mono λr hr=>⟨⟨λ_=>hne,λ_=>hr.1⟩,λ_=>hr.2⟩
theorem e0d(q:List aQ)(h:f6n q)(hne:q≠[]):Tot (m5 q) λr=>r∈q:=by
 have hl:=h.2;have hp:0<q.length:=List.length_pos_iff.2 hne;unfold m5;rw[if_neg (by grind),b7k];unfold a00;dsimp only;refine tA (c6 (by omega) (by omega)) λv2 hv2=>?_;refine tO (I:=λv:aQ×aQ×Int=>1<=v.2.2/\v.2.2<=(q.length:Int)/\v.2.1∈q) (μ:=λv=>((q.length:Int)-v.2.2).toNat) ⟨by simp_all,by grind,hv2⟩ (by grind) ?_;rintro r⟨w,v,i⟩⟨g1,g2,g3⟩ih;dsimp only at g1 g2 g3;unfold y9;dsimp only;refine tD (λhc=>?_) λhc=>tC g3;simp at hc;refine tA (c6 (by omega) hc) λv5 hv5=>?_;unfold a6j;rw[c8a,qA,qA,a42 (by omega) (by omega)];refine tD (λ_=>?_) λ_=>?_;.refine tA (c6 (by omega) hc) λv7 hv7=>?_;exact ih _ ⟨by show 1<=i+1;omega,by show i+1<=_;omega,hv7⟩ (by show((q.length:Int)-(i+1)).toNat<((q.length:Int)-i).toNat;omega)
 .exact ih _ ⟨by show 1<=i+1;omega,by show i+1<=_;omega,g3⟩ (by show((q.length:Int)-(i+1)).toNat<((q.length:Int)-i).toNat;omega)
theorem e1n(L:lQ)(d:Int)(h:f6n L.facts):Tot (a4b L d) (Ans (L.facts.filter (λu=>([7,8].any λy=>u.Kind==y)&&c7f u.Span d)≠[])):=by
 unfold a4b;rw[f8v L d [7,8] (by have:=h.2;omega) (by simp),qA];have hq:=d4i h (λu=>([7,8].any λy=>u.Kind==y)&&c7f u.Span d);generalize L.facts.filter (λu=>([7,8].any λy=>u.Kind==y)&&c7f u.Span d)=q at hq;refine tD (λhc=>?_) λhc=>?_;.simp at hc;exact tC ⟨by grind,by simp⟩
 .have hne:q≠[]:=by simp_all
  refine tA (e0d q hq hne) λu hu=>?_;exact tC ⟨⟨λ_=>hne,λ_=>rfl⟩,λ_=>(c3d (hq.1 u hu)).2.1⟩
end Go.PL
namespace Go.PL
open Go Go.SX
theorem g8c{f:List aQ}(hf:f.length<=2^30){p:Posting}(h:PM f p):0<=p.Span.From/\p.Span.From<p.Span.To/\p.Span.To<=73049/\(0<=p.Seat/\p.Seat<=5)/\0<=p.State/\p.State<=5:=by obtain⟨_,h3,h4,_⟩:=b8o (f3b f p.Seat p.State) (a4q f) (by have:=d4g f p.Seat p.State;omega);have g1:=h3.1 _ h;obtain⟨⟨s,hs,_⟩,_⟩:=(h4 p.Span.From).1 ⟨p.Span,h,Int.le_refl _,g1.2.1⟩;obtain⟨u,hu,_⟩:=List.mem_map.1 hs;rw[List.mem_filter]at hu;have hh:=hu.2;simp at hh;obtain⟨_,r1,r2,_⟩:=c3d (f1a hu.1);omega
theorem e1f{f:List aQ}(hf:f.length<=2^30)(L:lQ)(d lim:Int)(hm:∀p,p∈L.postings↔PM f p)(hlen:L.postings.length<=12)(h0:0<=lim)(h1:lim<=730):Tot (a4c L d lim) (Ans (∃p,PM f p/\c7f p.Span d=true/\d<p.Span.From+lim)):=by
 refine a9k (f:=a2q L d lim) L.postings (λ(_:Unit)i=>i) (λ_ i=>∀p∈L.postings.take i,¬(c7f p.Span d=true/\d<p.Span.From+lim)) (λo=>Tot o _) (by omega) ?_ ?_ () (by simp)
 .rintro rec s i y hi hy h;have hy':=(hm y).1 (qE hy);obtain⟨r1,r2,r3,r4,_⟩:=g8c hf hy';unfold a2q;rw[if_pos (o6 hi)];simp only[e7 hy,qA,c9s,o4];rw[e9 (n:=y.Span.From+lim) (by omega) (by omega),a5g (by omega)];by_cases hc:c7f y.Span d=true/\d<y.Span.From+lim;.left;rw[if_pos (by grind)];exact tC ⟨⟨λ_=>⟨y,hy',hc⟩,λ_=>rfl⟩,λ_=>r4⟩
  .right;rw[if_neg (by grind)];refine⟨(),rfl,λp hp=>?_⟩;rw[a9h hy]at hp;rcases qK.1 hp with hp|hp;.exact h p hp
   .grind
 .intro rec s h;unfold a2q;rw[if_neg (g9 _)];refine tC ⟨⟨λh=>(by grind),?_⟩,by simp⟩;simp_all
end Go.PL
namespace Go.PL
open Go Go.SX
theorem f8b{f:List aQ}{T:List Rules}(hG:a48 f)(hT:TrF T){P:List Posting}(hPm:∀p,p∈P↔PM f p)(hPl:P.length<=12)(d:Int):Tot (a7m (⟨f.filter cur,a4q f,P,T⟩:lQ) d) λ_=>True:=by
 have hf:f.length<=2^30:=by have:=hG.len;omega
 have hv:f6n (f.filter cur):=⟨λu hu=>f1a hu,by have:=List.length_filter_le cur f;have:=hG.len;omega⟩;unfold a7m;by_cases hd:0<=d/\d<=73048;.obtain⟨t1,t2,t3,t4,t5⟩:=e30 hT d;rw[g2p hT hd.1 hd.2,qA];simp only[Bool.not_true,qM,if_false,c9s,qA];refine tD (λ_=>tC trivial) λ_=>?_;refine tA (e1f hf (⟨f.filter cur,a4q f,P,T⟩:lQ) d _ hPm hPl t1 t2) λr1 _=>tD (λ_=>tC trivial) λ_=>?_;refine tA (e7h (⟨f.filter cur,a4q f,P,T⟩:lQ) d hv) λr2 _=>tD (λ_=>tC trivial) λ_=>?_;refine tA (d8d (⟨f.filter cur,a4q f,P,T⟩:lQ) d _ hv hd.1 hd.2) λr3 _=>tD (λ_=>tC trivial) λ_=>?_;refine tA (e1n (⟨f.filter cur,a4q f,P,T⟩:lQ) d hv) λr4 _=>tD (λ_=>tC trivial) λ_=>?_;exact tA (f2c (f.filter cur) d hv hd.1 hd.2) λr5 _=>tD (λ_=>tC trivial) λ_=>tC trivial
 .have hc:m7 d=some false:=by unfold m7;simp_all
  unfold b2q;rw[hc,qA];exact tC trivial
end Go.PL
namespace Go.PL
open Go Go.SX
theorem f5m(L:lQ)(hf:L.facts.length<=27)(hp:L.postings.length<=12)(hr:L.rules.length<=2):Tot (a6t L) λr=>r.length<=100:=by
 refine tL L.facts (λ(s:List Int)i=>(L,s,i)) (λs i=>s.length<=4+2*i) (by omega) (λrec s i y hi hy hI ih=>?_) (λrec s hI=>?_) [0,73049,L.span.From,L.span.To] (by simp);.unfold a8a;rw[if_pos (o6 hi)];simp only[e7 hy,qA];rw[p6 (by simp only[List.length_cons,List.length_nil];omega),qA];exact ih _ (by simp;omega)
 .unfold a8a;rw[if_neg (g9 _)];refine tL L.rules (λ(s:List Int)i=>(L,s,i)) (λs i=>s.length<=58+13*i) (by omega) (λrec2 s i y hi hy hI2 ih2=>?_) (λrec2 s hI2=>?_) s (by omega)
  .unfold a89;rw[if_pos (o6 hi)];simp only[e7 hy,qA];rw[p6 (by simp only[List.length_cons,List.length_nil];omega),qA];refine tL L.postings (λ(q:List Int)k=>(L,q,y,k)) (λq k=>q.length<=s.length+1+k) (by omega) (λrec3 q k z hk hz hI3 ih3=>?_) (λrec3 q hI3=>?_) (s++[y.From]) (by simp);.unfold a81;rw[if_pos (o6 hk)];simp only[e7 hz,qA];rw[p6 (by simp only[List.length_cons,List.length_nil];omega),qA];exact ih3 _ (by simp;omega)
   .unfold a81;rw[if_neg (g9 _)];exact ih2 q (by omega)
  .unfold a89;dsimp only;rw[if_neg (g9 _)];unfold b8s;rw[if_pos (by omega),qA];have hsl:=(a8p s).length_eq;rw[b98 _ (by omega),qA];have:=g0g (b89 s);exact tC (by omega)
theorem f4q{f:List aQ}{T:List Rules}(hG:a48 f)(hT:TrF T):Tot (a4h f T) λr=>r.length<=100:=by
 have hf:f.length<=2^30:=by have:=hG.len;omega
 have hfl:(f.filter cur).length<=27:=by have:=List.length_filter_le cur f;have:=hG.len;omega
 obtain⟨P,hP,hPm,hPl⟩:=c90 hG;unfold a4h a9c;rw[b9a f hf,qA,c27 f hf,qA,hP,qA,d5j hT,qA,qA];refine tA (f5m (⟨f.filter cur,a4q f,P,T⟩:lQ) hfl hPl (g97 hT).1) λc hc=>?_;refine tO (I:=λv:lQ×List gQ×List Int×Int=>v.1=(⟨f.filter cur,a4q f,P,T⟩:lQ)/\v.2.2.1=c/\0<=v.2.2.2/\v.2.2.2<=(c.length:Int)/\(v.2.1.length:Int)<=v.2.2.2) (μ:=λv=>((c.length:Int)-v.2.2.2).toNat) ⟨rfl,rfl,Int.le_refl _,by simp_all,Int.le_refl _⟩ (by grind) ?_;rintro r⟨L,s,c2,k⟩⟨rfl,e2,g1,g2,g3⟩ih;dsimp only at e2 g1 g2 g3;subst e2;unfold b8r;dsimp only;rw[a42 (x:=k) g1 (by omega)];refine tD (λh=>?_) λ_=>tC (by omega);simp at h;have go:∀o:List gQ,(o.length:Int)<=k+1->Tot (r ((⟨f.filter cur,a4q f,P,T⟩:lQ),o,c2,k+1)) λr=>r.length<=100:=λo ho=>ih _ ⟨rfl,rfl,by dsimp only;omega,by dsimp only;omega,ho⟩ (by dsimp only;omega);refine tA (c6 g1 (by omega)) λ_ _=>tA (c6 g1 (by omega)) λa _=>tA (f8b hG hT hPm hPl a) λq _=>tD (λ_=>go s (by omega)) λ_=>?_;have put:Tot (Option.bind (c7 c2 k) λv23=>Option.bind (c7 c2 k) λv24=>Option.bind (c7 c2 (k+1)) λv25=>Option.bind (c7 c2 (k+1)) λv26=>Option.bind (a4n 32 s [(⟨(⟨v24,v26⟩:Span),q.1,q.2⟩:gQ)]) λv27=>r ((⟨f.filter cur,a4q f,P,T⟩:lQ),v27,c2,k+1)) λr=>r.length<=100:=by refine tA (c6 g1 (by omega)) λ_ _=>tA (c6 g1 (by omega)) λ_ _=>tA (c6 (by omega) h) λ_ _=>tA (c6 (by omega) h) λ_ _=>?_;rw[p6 (by simp only[List.length_cons,List.length_nil];omega),qA];exact go _ (by simp;omega)
 rcases h1f s with e|⟨A,y,e⟩;.subst e;have e0:decide ((([]:List gQ).length:Int)>0)=false:=rfl;simp only[e0,qM,if_false,qA];omega
 .subst e;have hA2:(A++[y]).length=A.length+1:=by simp
  have hA:A.length<2^62:=by omega
  have e0:decide (((A++[y]).length:Int)>0)=true:=by simp
  have gl:c7 (A++[y]) (i64 (((A++[y]).length:Int)-1))=some y:=d3s A y hA;simp only[e0,if_true,gl,qA];refine tA (Q:=λ_=>True) (tA (c6 g1 (by omega)) λ_ _=>tA (c6 g1 (by omega)) λ_ _=>tC trivial) λ_ _=>tA (Q:=λ_=>True) (tD (λ_=>tC trivial) λ_=>tC trivial) λ_ _=>tA (Q:=λ_=>True) (tD (λ_=>tC trivial) λ_=>tC trivial) λ_ _=>tD (λ_=>?_) λ_=>put;refine tA (c6 (by omega) h) λ_ _=>tA (c6 (by omega) h) λ_ _=>?_;rw[d3y A y _ hA];exact go _ (by simp at g3⊢;omega)
end Go.PL
namespace Go.PL
open Go Go.SX
def ixF{α:Type}(l:List α)(g:α->Option Bool)(rec:Int->Option Int)(i:Int):Option Int:=if(decide (i<(l.length:Int)))then(c7 l i).bind λy=>(g y).bind λb=>if b then some i else rec (i64 (i+1))else some (-1)
theorem d3e{α:Type}(l:List α)(g:α->Option Bool)(N:α->Prop)(hl:l.length<=2^30)(hg:∀y∈l,Tot (g y) λb=>b=false->N y):Tot (d9 FU (ixF l g) 0) λr=>-1<=r/\r<(l.length:Int)/\(r<0->∀y∈l,N y):=by
 refine tL l (λ(_:Unit)i=>i) (λ_ i=>∀y∈l.take i,N y) (by omega) (λrec s i y hi hy hI ih=>?_) (λrec s hI=>?_) () (by simp)
 .unfold ixF;rw[if_pos (o6 hi),e7 hy,qA];refine tA (hg y (qE hy)) λb hb=>tD (λ_=>tC ⟨by omega,by omega,λh=>by omega⟩) λh=>ih () λz hz=>?_;rw[a9h hy]at hz;rcases qK.1 hz with hz|hz;.simp_all
  simp_all
 .unfold ixF;rw[if_neg (g9 _)];rw[List.take_length]at hI;exact tC ⟨by omega,by omega,λ_=>hI⟩
theorem c12{α:Type}(l:List α)(g:α->Option Bool)(N:α->Prop)(hl:l.length<=2^30)(hg:∀y∈l,Tot (g y) λb=>b=false->N y):Tot (Option.bind (d9 FU (ixF l g) 0) λv=>some (decide (v>=0))) λb=>b=false->∀y∈l,N y:=tA (d3e l g N hl hg) λv hv=>tC λh=>hv.2.2 (by simp_all)
theorem d3u{s:ByteArray}{i:Int}(h0:0<=i)(h1:i<(s.size:Int)):b3c s i=some ((s.get! i.toNat).toNat:Int):=by
 unfold b3c;have hlt:i.toNat<s.size:=by omega
 have:s.get! i.toNat=s[i.toNat]:=by show s.data[i.toNat]! =s.data[i.toNat];simp_all
 simp_all
theorem d7i(x:Int):b74 x=some (decide (48<=x)&&decide (x<=57)):=by unfold b74;grind
theorem e46(x:Int):b6l x=some (decide (97<=x)&&decide (x<=122)):=by unfold b6l;grind
theorem c9x{s:ByteArray}(hs:s.size<=2^40):Tot (b2i s) λr=>r.2=true->∀k:Nat,k<s.size->(s.get! k).toNat<128:=by
 refine tO (I:=λv:Int×Int=>0<=v.2/\v.2<=(s.size:Int)/\∀k:Nat,(k:Int)<v.2->(s.get! k).toNat<128) (μ:=λv=>((s.size:Int)-v.2).toNat) ⟨Int.le_refl _,by omega,λk hk=>absurd hk (by omega)⟩ (by omega) ?_;rintro r⟨a,k⟩⟨g1,g2,g3⟩ih;refine tD (λhc=>?_) λhc=>tC λ_ k hk=>g3 k (by simp at hc;omega);simp at hc;rw[d3u g1 hc,qA,d7i,qA];refine tD (λ_=>tC λh=>by cases h) λh=>?_;rw[qA,a42 g1 (by omega)];refine ih _ ⟨by omega,by omega,λj hj=>?_⟩ (by omega);by_cases e:(j:Int)=k
 .have:j=k.toNat:=by omega
  subst this;simp at h;omega
 .exact g3 j (by omega)
theorem e8p{s:ByteArray}(hs:s.size<=2^40):Tot (a6y s b1i) λr=>r<(s.size:Int):=by
 unfold a6y a9d a7v;refine tD (λh=>tC ?_) λ_=>tC ?_
 .have e:b1i.toList=s.toList:=by simp_all
  rw[ByteArray.toList_eq,ByteArray.toList_eq]at e;have:(1:Nat)=s.size:=congrArg List.length e;omega
 unfold g6v;split;.rename_i i hi;have:=List.mem_range.1 (List.mem_of_find?_eq_some hi);omega
 omega
theorem g6i{s:ByteArray}(hs:s.size<=2^40):Tot (b9e s b1i) λr=>r.1.size<=s.size/\r.2.1.size<=s.size/\(r.2.2=false->r.2.1=a3j):=by refine tA (Q:=λr=>r.1.size<=s.size/\r.2.1.size<=s.size/\(r.2.2=false->r.2.1=a3j)) (tA (e8p hs) λi hi=>tD (λh=>?_) λ_=>tC ⟨Nat.le_refl _,Nat.zero_le _,λ_=>rfl⟩) λr hr=>tC hr;simp at h;have h1:b1i.size=1:=rfl;rw[e9 (by omega) (by omega)];exact tA (a5a (by omega) h (by omega)) λa ha=>tA (a5a (by omega) (by omega) (by omega)) λb hb=>tC ⟨by grind,by grind,λh=>by grind⟩
theorem g8i{s:ByteArray}(hs:s.size<=2^40)(f:fQ)(d:Int):Tot (a5s (s,f,d)) λ_=>True:=by
 have red:∀(p:Int)(q:fQ)(r22:(fQ×Int)->Option (fQ×Int×Bool))(v:fQ×Int),2<=p->1<=q.Den->q.Den<=10000->(∀q':fQ,1<=q'.Den->q'.Den<=10000->Tot (r22 (q',i64 (v.2+1))) λ_=>True)->Tot (d9 FU (b5e p r22 v) q) λ_=>True:=by
  intro p q r22 v hp h1 h2 hr;refine tO (I:=λq:fQ=>1<=q.Den/\q.Den<=10000) (μ:=λq=>q.Den.toNat) ⟨h1,h2⟩ (by omega) ?_;rintro rec q⟨g1,g2⟩ih;refine tA (b4f (by omega)) λa _=>tA (Q:=λb=>b=true->p<=q.Den) (tD (λ_=>?_) λ_=>tC λh=>by grind) λb hb=>tD (λh=>?_) λ_=>hr q g1 g2
  .refine tA (a3p (by omega) (by omega)) λc hc=>tC λh=>?_;have h0:c=0:=by simpa using h
   by_cases hlt:q.Den<p;.have:=Int.emod_eq_of_lt (by omega) hlt;omega
   omega
  .have hq:=hb h;refine tA (b7s (by omega)) λc _=>tA (a7t (a:=q.Den) (by omega) (by omega) (by omega)) λe he=>ih (⟨c,e⟩:fQ) ?_ ?_;.have:=Int.le_ediv_of_mul_le (show 0<p by omega) (show 1*p<=q.Den by omega);exact⟨by dsimp only;omega,by dsimp only;omega⟩
   .have:q.Den/p<q.Den:=Int.ediv_lt_self_of_pos_of_ne_one (by omega) (by omega);dsimp only;omega
 have j2:∀v:fQ×Int×Int×Int,1<=v.1.Den->v.1.Den<=10000->Tot (b5d v) λ_=>True:=by
  intro v h1 h2;refine tO (I:=λx:fQ×Int=>(1<=x.1.Den/\x.1.Den<=10000)/\0<=x.2/\x.2<=2) (μ:=λx=>(2-x.2).toNat) ⟨⟨h1,h2⟩,Int.le_refl _,by omega⟩ (by omega) ?_;rintro rec⟨q,k⟩⟨⟨g1,g2⟩,g3,g4⟩ih;refine tD (λhc=>?_) λ_=>tC trivial;simp at hc;refine tA (c6 g3 hc) λp hp=>red p q rec (q,k) ?_ g1 g2 λq' a b=>?_
  .have:p=2\/p=5:=by simpa using hp
   omega
  .rw[a42 g3 (by omega)];exact ih _ ⟨⟨a,b⟩,by omega,by omega⟩ (by omega)
 unfold a5s;dsimp only;refine tA (g6i hs) λc hc=>?_;simp only[a1z,y3,o4,qA];refine tA (Q:=λ_=>True) (tD (λ_=>tC trivial) λh=>?_) λb1 _=>tD (λ_=>tC trivial) λhn=>?_;.refine tA (Q:=λ_=>True) (tD (λh1=>?_) λ_=>tC trivial) λ_ _=>tC trivial;simp at h1;exact tA (a6l (by omega) (by omega)) λ_ _=>tC trivial
 have h4:c.2.1.size<=4:=by
  simp at hn;cases h:c.2.2;.rw[hc.2.2 h];decide
  .have:=hn.2 h;omega
 refine tA (c9x (by omega)) λa _=>tA (c9x (by omega)) λn hN=>tD (λ_=>tC trivial) λh=>?_;have hA:=hN (by simp at h;exact h.2);have hp:∀k:Int,0<=k->k<4->(10:Int)^(k+1).toNat=10*10^k.toNat:=λk h0 h1=>by rw[show(k+1).toNat=k.toNat+1by omega,Int.pow_succ];omega
 have hq:∀k:Int,0<=k->k<=4->1<=(10:Int)^k.toNat/\(10:Int)^k.toNat<=10000:=λk h0 h1=>by
  have:k=0\/k=1\/k=2\/k=3\/k=4:=by omega
  rcases this with rfl|rfl|rfl|rfl|rfl<;>decide
 refine tO (I:=λv:fQ×Int×(ByteArray×Int)=>v.2.2.1=c.2.1/\0<=v.2.2.2/\v.2.2.2<=(c.2.1.size:Int)/\v.1.Den=10^v.2.2.2.toNat) (μ:=λv=>((c.2.1.size:Int)-v.2.2.2).toNat) ⟨rfl,Int.le_refl _,by show(0:Int)<=_;omega,rfl⟩ (by show((c.2.1.size:Int)-0).toNat<_;omega) ?_;rintro rec⟨q,w,t,k⟩⟨g1,g2,g3,g4⟩ih;dsimp only at g1 g2 g3 g4;subst g1;have hk:=hq k g2 (by omega);unfold c0b e6l;dsimp only;by_cases hlt:k<(c.2.1.size:Int);.rw[if_pos hlt,if_pos (hA _ (by omega))];refine ih _ ⟨rfl,by dsimp only;omega,by dsimp only;omega,?_⟩ (by dsimp only;omega);rw[g4,hp k g2 (by omega),e9 (by omega) (by omega)]
 .rw[if_neg hlt];exact j2 _ (by dsimp only;omega) (by dsimp only;omega)
theorem d7v{s:ByteArray}(hs:s.size<=2^40):Tot (b69 s) λ_=>True:=by
 have g:∀k,Tot (if decide ((s.size:Int)>0)=true then Option.bind (b3c s (i64 ((s.size:Int)-1))) λv=>some (v==k)else some false) λb=>b=true->0<s.size:=λk=>by
  refine tD (λh=>?_) λ_=>tC λh=>by grind
  simp at h;rw[e9 (by omega) (by omega)];exact tA (a6l (by omega) (by omega)) λ_ _=>tC λ_=>h
 have c:∀k,0<s.size->Tot (Option.bind (c3u s 0 (i64 ((s.size:Int)-1))) λv=>joinC a5s (v,(⟨0,0⟩:fQ),k)) λ_=>True:=λk h=>by rw[e9 (by omega) (by omega)];exact tA (a5a (by omega) (by omega) (by omega)) λt ht=>g8i (by omega) _ _
 exact tA (g _) λb hb=>tD (λh=>c _ (hb h)) λ_=>tA (g _) λb hb=>tD (λh=>c _ (hb h)) λ_=>g8i hs _ _
theorem f2f:∀(k u:Nat),(g4v k u).length<=k+1|0,u=>Nat.le_refl _|k+1,u=>by unfold g4v;have:=f2f k (u/10);grind
theorem e2t{a:Int}(h0:0<=a)(h1:a<=9223372036854775807):Tot (strconv_Itoa a) λr=>r.size<=21:=by unfold strconv_Itoa;rw[if_pos ⟨h0,h1⟩];exact tC (f2f 20 _)
theorem c9c(f:fQ)(d:Int):Tot (a4y f d) λ_=>True:=by
 have j2:∀v:Int×fQ×ByteArray,v.2.2.size<=2^40->Tot (a2u v) λ_=>True:=λv h=>by unfold a2u;simp only[y3,qA];exact tA (d7v h) λ_ _=>tD (λ_=>tC trivial) λ_=>tC trivial
 unfold a4y;simp only[a1z,qA];refine tD (λ_=>tC trivial) λh=>?_;simp at h;obtain⟨⟨⟨h1,h2⟩,h3⟩,h4⟩:=h;refine tA (a7t h3 (by omega) (by omega)) λa ha=>tA (e2t ha.2.1 (by omega)) λs hs=>tA (a3p h3 (by omega)) λr hr=>?_;refine tO (I:=λv:fQ×ByteArray×Int×Int=>v.1=f/\(v.2.1.size:Int)<=22+22*v.2.2.2/\(0<=v.2.2.1/\v.2.2.1<f.Den)/\0<=v.2.2.2/\v.2.2.2<=4) (μ:=λv=>(4-v.2.2.2).toNat) ⟨rfl,by grind,⟨hr.2.1,hr.2.2.1⟩,Int.le_refl _,by grind⟩ (by grind) ?_;rintro rec⟨q,t,m,k⟩⟨g1,g2,⟨g3,g4⟩,g5,g6⟩ih;dsimp only at g1 g2 g3 g4 g5 g6;subst g1;have j1:∀t:ByteArray,(t.size:Int)<=23+22*k->Tot (a5e rec (d,q,t,m,k)) λ_=>True:=λt ht=>by unfold a5e;dsimp only;refine tD (λ_=>tC trivial) λhk=>?_;simp at hk;rw[e9 (by omega) (by omega),a42 g5 (by omega)];exact tA (a7t (by omega) (by omega) (by omega)) λa ha=>tA (e2t ha.2.1 (by omega)) λu hu=>tA (d6 (by omega)) λx hx=>tA (a3p (by omega) (by omega)) λy hy=>ih _ ⟨rfl,by dsimp only;omega,⟨hy.2.1,hy.2.2.1⟩,by dsimp only;omega,by dsimp only;omega⟩ (by dsimp only;omega)
 have z1:b1i.size=1:=rfl;have z2:e4t.size=1:=rfl;have z3:e6u.size=1:=rfl;unfold b3h;dsimp only;exact tD (λ_=>tD (λh=>tA (d6 (by omega)) λx hx=>tJ (j1 _ (by omega))) λ_=>tJ (j1 _ (by omega))) λ_=>tD (λ_=>tA (d6 (by omega)) λx hx=>tJ (j2 _ (by dsimp only;omega))) λ_=>tD (λ_=>tA (d6 (by omega)) λx hx=>tJ (j2 _ (by dsimp only;omega))) λ_=>tJ (j2 _ (by dsimp only;omega))
end Go.PL
namespace Go.PL
open Go Go.SX
def aOK(o:Int)(k:Nat):Prop:=1<=o/\o<=21/\(4<=o->1<=k)/\(7<=o->2<=k)/\(o=21->3<=k)
def AR:Nat->Expr->Prop|0,_=>False|n+1,e=>aOK e.Op e.Args.length/\∀a∈e.Args,AR n a
theorem f1n(o:Int):Tot (b84 o) λr=>∀k:Nat,(k:Int)=r->aOK o k:=by
 unfold b84 aOK;simp only[y3,o4,qA];refine tD (λh=>tC λk hk=>?_) λh1=>tD (λh=>tC λk hk=>?_) λh2=>tD (λh=>tC λk hk=>?_) λh3=>tD (λh=>tC λk hk=>?_) λh4=>tC λk hk=>by omega
 all_goals grind
theorem e9p(s:ByteArray):Tot (b7f s) λ_=>True:=by
 unfold b7f;rw[a1z,qA];refine tA (Q:=λb=>b=false->s.size<=12) (tD (λ_=>tC λh=>by grind) λh=>?_) λb hb=>tD (λ_=>tC trivial) λh=>?_;.simp at h;rw[d3u (by omega) (by omega),qA,e46,qA];exact tC λ_=>by omega
 have hl:=hb (by simp_all);refine tO (I:=λv:Int=>0<=v) (μ:=λv=>((s.size:Int)-v).toNat) (Int.le_refl _) (by omega) λr v hv ih=>?_;unfold c1f c1b;refine tD (λhc=>?_) λ_=>tC trivial;simp at hc;simp only[d3u hv hc,qA,e46,d7i,y3];rw[a42 hv (by omega)];exact tD (λ_=>tC trivial) λ_=>ih _ (by omega) (by omega)
theorem c84(s:ByteArray):Tot (b0e s) λ_=>True:=by
 have hk:Tot (b49 s) λ_=>True:=by repeat' first|exact tC trivial|refine tD (λ_=>?_) λ_=>?_
 exact tA (e9p s) λ_ _=>tA (Q:=λ_=>True) (tD (λ_=>tA hk λ_ _=>tC trivial) λ_=>tC trivial) λ_ _=>tC trivial
theorem b7y(l:List syntax_entry)(k:Int)(hl:l.length<=2^30):Tot (a4u l k) λ_=>True:=by refine tA (d3e l (λy=>b3q y k) (λ_=>True) hl λy _=>tC λ_=>trivial) λv hv=>tD (λ_=>tC trivial) λh=>?_;simp at h;exact tA (c6 h hv.2.1) λ_ _=>tC trivial
theorem h01:Tot b2d λl=>l.length<=2^30:=⟨_,rfl,by decide⟩
theorem h34:Tot c1i λl=>l.length<=2^30:=⟨_,rfl,by decide⟩
theorem h2s:Tot c0l λl=>l.length<=2^30:=⟨_,rfl,by decide⟩
theorem d2t:∀(n m:Nat)(e:Expr),n<=m->EB n e->Tot ((a0r m).f_syntax_Depth e) λ_=>True
 |0,_,_,_,h=>h.elim|n+1,0,_,hm,_=>by omega|n+1,m+1,e,hm,h=>by
   show Tot (b86 (a0r m) e) _;refine tL e.Args (λ(s:Int)i=>(s,i)) (λ_ _=>True) (by have:=h.1;omega) (λrec s i y hi hy _ ih=>?_) (λrec s _=>?_) 0 trivial;.unfold b6x;rw[if_pos (o6 hi),e7 hy,qA];exact tA (d2t n m y (by omega) (h.2.2 y (qE hy))) λ_ _=>ih _ trivial
   .unfold b6x;rw[if_neg (g9 _)];exact tC trivial
theorem d5b:∀(n m:Nat)(e:Expr),n<=m->EB n e->Tot ((a1j m).f_syntax_Size e) λ_=>True
 |0,_,_,_,h=>h.elim|n+1,0,_,hm,_=>by omega|n+1,m+1,e,hm,h=>by
   show Tot (b9x (a1j m) e) _;refine tL e.Args (λ(s:Int)i=>(s,i)) (λ_ _=>True) (by have:=h.1;omega) (λrec s i y hi hy _ ih=>?_) (λrec s _=>?_) 1 trivial;.unfold b8b;rw[if_pos (o6 hi),e7 hy,qA];exact tA (d5b n m y (by omega) (h.2.2 y (qE hy))) λ_ _=>ih _ trivial
   .unfold b8b;rw[if_neg (g9 _)];exact tC trivial
theorem f5g(e:Expr):Tot (c05 e) λb=>b=true->aOK e.Op e.Args.length:=by refine tA (f1n _) λr hr=>tD (λ_=>tC λh=>by grind) λh=>?_;have ha:=hr _ (by simpa using h);have a:∀{o:Option Bool},Tot o (λ_=>True)->Tot o λb=>b=true->aOK e.Op e.Args.length:=λh=>h.mono λ_ _ _=>ha;simp only[o4,qA];exact a (tD (λ_=>tA (c9c _ _) λ_ _=>tC trivial) λ_=>tD (λ_=>tA (c84 _) λ_ _=>tC trivial) λ_=>tD (λ_=>tC trivial) λ_=>tC trivial)
theorem e3b:∀(n m:Nat)(e:Expr),4*n<=m->EB n e->Tot ((e6 m).f_syntax_form e) λb=>b=true->AR n e|0,_,_,_,h=>h.elim|n+1,m,e,hm,h=>by obtain⟨m,rfl⟩:∃k,m=k+1+1+1+1:=⟨m-4,by omega⟩;show Tot (b60 (e6 (m+1+1+1)) e) _;refine tA (f5g e) λb hb=>tA (Q:=λc=>c=true->AR (n+1) e) (tD (λh1=>?_) λ_=>tC λh=>by grind) λc hc=>tC hc;refine tA (c12 e.Args (λy=>(e6 (m+1)).f_syntax_form_1 y) (AR n) (by have:=h.1;omega) λy hy=>?_) λc hc=>tC λh2=>⟨hb h1,hc (by simp_all)⟩;exact tA (e3b n m y (by omega) (h.2.2 y hy)) λb hb=>tC λh=>hb (by simp_all)
theorem a8s{e:Expr}(h:EB 8001 e):Tot (a1k e) λb=>b=true->AR 8001 e:=by
 have hF:4*8001<=FU:=by unfold FU;omega
 exact tA (d2t _ _ e (by omega) h) λ_ _=>tA (Q:=λ_=>True) (tD (λ_=>tA (d5b _ _ e (by omega) h) λ_ _=>tC trivial) λ_=>tC trivial) λ_ _=>tA (Q:=λb=>b=true->AR 8001 e) (tD (λ_=>tA (e3b _ _ e hF h) λ_ hb=>tC hb) λ_=>tC λh=>by grind) λ_ hb=>tC hb
theorem e4e(x:Index):Tot (b07 x) λ_=>True:=by unfold b07 b59;simp only[o4,qA];exact tA (c9c _ _) λ_ _=>tC trivial
theorem d8a{v:Version}(hv:VG v):Tot (a7q v) λ_=>True:=by
 obtain⟨h1,h2,h3,h4,h5,h6,h7,h8⟩:=hv;have l5:Tot (b3e v) λ_=>True:=by
  refine tL v.Reduces (λ(_:Unit)i=>i) (λ_ _=>True) (by omega) (λrec s i y hi hy _ ih=>?_) (λrec s _=>?_) () trivial;.unfold a8y;rw[if_pos (o6 hi),e7 hy,qA];exact tA h01 λ_ hl=>tA (b7y _ _ hl) λ_ _=>tA (orT (e4o (a8s (h8 y (qE hy))))) λ_ _=>tD (λ_=>tC trivial) λ_=>ih () trivial
  .unfold a8y;rw[if_neg (g9 _)];exact tC trivial
 have l4:Tot (b3b v) λ_=>True:=by
  refine tL v.Grants (λ(_:Unit)i=>(v,i)) (λ_ _=>True) (by omega) (λrec s i y hi hy _ ih=>?_) (λrec s _=>?_) () trivial;.unfold a8t;rw[if_pos (o6 hi),e7 hy,qA];have:=h7 y (qE hy);exact tA h01 λ_ hl=>tA (b7y _ _ hl) λ_ _=>tA (orT (e4o (a8s this.1))) λ_ _=>tA (orT (e4o (a8s this.2))) λ_ _=>tD (λ_=>tC trivial) λ_=>ih () trivial
  .unfold a8t;dsimp only;rw[if_neg (g9 _)];exact l5
 have l3:Tot (b3i v) λ_=>True:=by
  refine tL v.Lets (λ(_:Unit)i=>(v,i)) (λ_ _=>True) (by omega) (λrec s i y hi hy _ ih=>?_) (λrec s _=>?_) () trivial;.unfold a8w;rw[if_pos (o6 hi),e7 hy,qA];exact tA (c84 _) λ_ _=>tA (orT (e4o (a8s (h6 y (qE hy)).2))) λ_ _=>tD (λ_=>tC trivial) λ_=>ih () trivial
  .unfold a8w;dsimp only;rw[if_neg (g9 _)];exact l4
 have l2:Tot (b39 v) λ_=>True:=by
  refine tL v.Series (λ(_:Unit)i=>(v,i)) (λ_ _=>True) (by omega) (λrec s i y hi hy _ ih=>?_) (λrec s _=>?_) () trivial;.unfold a8v;rw[if_pos (o6 hi),e7 hy,qA];exact tA (e4e y) λ_ _=>tD (λ_=>tC trivial) λ_=>ih () trivial
  .unfold a8v;dsimp only;rw[if_neg (g9 _)];exact l3
 have l1:Tot (a5f v) λ_=>True:=by
  unfold a5f;simp only[a1z,y3,qA];refine tD (λ_=>tC trivial) λ_=>tL v.Credits (λ(_:Unit)i=>(v,i)) (λ_ _=>True) (by omega) (λrec s i y hi hy _ ih=>?_) (λrec s _=>?_) () trivial;.unfold a8u;rw[if_pos (o6 hi),e7 hy,qA];simp only[a1z,y3,qA];exact tA h34 λ_ hl=>tA (b7y _ _ hl) λ_ _=>tD (λ_=>tC trivial) λ_=>ih () trivial
  .unfold a8u;dsimp only;rw[if_neg (g9 _)];exact l2
 unfold a7q m7;simp only[a1z,y3,o4,qA];exact tD (λ_=>tD (λ_=>tC trivial) λ_=>l1) λ_=>tA h2s λ_ hl=>tA (b7y _ _ hl) λ_ _=>tD (λ_=>tC trivial) λ_=>l1
theorem e68{s:Statute}(hs:SG s):Tot (b7h s) λ_=>True:=by
 unfold b7h;simp only[a1z,y3,qA];refine tA (c84 _) λ_ _=>tD (λ_=>tC trivial) λ_=>tL s.Versions (λ(_:Unit)i=>i) (λ_ _=>True) (by grind) (λrec _ i y hi hy _ ih=>?_) (λrec _ _=>?_) () trivial;.unfold b77;rw[if_pos (o6 hi),e7 hy,qA];exact tA (d8a (hs.2 y (qE hy))) λ_ _=>tD (λ_=>tC trivial) λ_=>ih () trivial
 .unfold b77;rw[if_neg (g9 _)];exact tC trivial
end Go.PL
namespace Go.PL
open Go Go.SX
theorem c5e(s:ByteArray):Tot (b4n s) λ_=>True:=by
 have j1:∀v,Tot (a9q v) λ_=>True:=λv=>by repeat' first|exact tC trivial|exact j2 _|refine tD (λ_=>?_) λ_=>?_
 exact tD (λ_=>j1 _) λ_=>tD (λ_=>j1 _) λ_=>j1 _
theorem e4p(s:ByteArray)(l:List iQ)(hl:l.length<=2^30):Tot (b6c s l) λ_=>True:=by refine tA (c5e s) λ_ _=>tD (λ_=>tC trivial) λ_=>?_;refine tO (I:=λv:(ByteArray×Int×Bool)×Int=>-1<=v.2/\v.2<(l.length:Int)) (μ:=λv=>(v.2+1).toNat) ⟨by omega,by omega⟩ (by omega) ?_;rintro r⟨q,k⟩⟨g1,g2⟩ih;refine tD (λ_=>tC trivial) λh=>?_;simp at h;exact tA (c6 h g2) λ_ _=>tD (λ_=>tC trivial) λ_=>ih _ ⟨by omega,by omega⟩ (by omega)
theorem e6f(o:Int)(l:List Int)(h:aOK o l.length)(h4:4<=o):Tot (b9i o l) λ_=>True:=by
 obtain⟨h1,h2,h3,h5,h6⟩:=h;have g:∀i:Int,0<=i->i<(l.length:Int)->Tot (c7 l i) λ_=>True:=λi a b=>(c6 a b).tr;have j4:7<=o->∀b,Tot (b19 (l,o,b)) λ_=>True:=λh b=>by
  unfold b19;refine tD (λ_=>?_) λ_=>tD (λh=>?_) λ_=>tC trivial;.repeat' first|exact tC trivial|refine tD (λ_=>?_) λ_=>?_|refine tA (g _ (by omega) (by omega)) λ_ _=>?_|refine tA (Q:=λ_=>True) ?_ λ_ _=>?_
  .have:=h6 (by simp_all);repeat' first|exact tC trivial|refine tD (λ_=>?_) λ_=>?_|refine tA (g _ (by omega) (by omega)) λ_ _=>?_|refine tA (Q:=λ_=>True) ?_ λ_ _=>?_
 have j3:7<=o->∀b,Tot (a2l (l,o,b)) λ_=>True:=λh b=>by unfold a2l;repeat' first|exact tC trivial|exact j4 h _|refine tD (λ_=>?_) λ_=>?_|refine tA (g _ (by omega) (by omega)) λ_ _=>?_|refine tA (Q:=λ_=>True) ?_ λ_ _=>?_
 have j2:7<=o->∀b,Tot (a5q (l,o,b)) λ_=>True:=λh b=>by unfold a5q;repeat' first|exact tC trivial|exact j3 h _|refine tD (λ_=>?_) λ_=>?_|refine tA (g _ (by omega) (by omega)) λ_ _=>?_|refine tA (Q:=λ_=>True) ?_ λ_ _=>?_
 have j1:∀b,(b=false->o≠4/\o≠6)->Tot (b0y (l,o,b)) λ_=>True:=λb hb=>by
  unfold b0y;refine tD (λ_=>tA (g _ (by omega) (by omega)) λ_ _=>tA (g _ (by omega) (by omega)) λ_ _=>tC trivial) λh=>tD (λ_=>tA (g _ (by omega) (by omega)) λ_ _=>tC trivial) λh'=>?_;have h7:7<=o:=by grind
  repeat' first|exact j2 h7 _|refine tD (λ_=>?_) λ_=>?_
 exact tD (λh=>j1 _ λe=>by grind) λh=>j1 _ λe=>by grind
theorem d5x(env:List iQ)(hl:env.length<=2^30):∀(n m:Nat)(e:Expr),n<=m->AR n e->e.Args.length<=1000000->EB n e->Tot ((a0v m).f_typing_infer e env) λ_=>True
 |0,_,_,_,h,_,_=>h.elim|n+1,0,_,hm,_,_,_=>by omega|n+1,m+1,e,hm,h,hk,hE=>by
   show Tot (b4g (a0v m) e env) _;refine tD (λ_=>tC trivial) λo1=>tD (λ_=>tC trivial) λo3=>tD (λ_=>tA (e4p _ _ hl) λ_ _=>tD (λ_=>tC trivial) λ_=>tC trivial) λo2=>?_;refine tL e.Args (λ(s:List Int)i=>(e,s,i)) (λs i=>s.length=i) (by omega) (λrec s i y hi hy hI ih=>?_) (λrec s hI=>?_) [] rfl;.dsimp only;rw[if_pos (o6 hi),e7 hy,qA];have hm':=qE hy;refine tA (d5x env hl n m y (by omega) (h.2 y hm') (by cases n with|zero=>exact(h.2 y hm').elim|succ n=>have:=(hE.2.2 y hm').1;omega) (hE.2.2 y hm')) λq _=>tD (λ_=>tC trivial) λ_=>?_;rw[p6 (by simp only[List.length_cons,List.length_nil];omega),qA];simp_all
   .dsimp only;rw[if_neg (g9 _)];have:=h.1;refine tA (e6f e.Op s (by simp_all) (by have:=this.1;grind)) λ_ _=>tD (λ_=>tC trivial) λ_=>tC trivial
theorem d7y{e:Expr}(env:List iQ)(hl:env.length<=2^30)(h:EB 8001 e):Tot (b4y e env) λr=>r.2=0->AR 8001 e:=by
 refine tA (a8s h) λb hb=>tA (Q:=λc=>c=false->b=true) (tD (λ_=>tC λh=>by grind) λhn=>tA (c12 env b42 (λ_=>True) hl λy _=>?_) λc _=>tC λ_=>by simp_all) λc hc=>tD (λ_=>tC λh=>by omega) λhn=>?_;.unfold b42;rw[a1z,qA];exact tC λ_=>trivial
 have hA:=hb (hc (by simp_all));exact tA (d5x env hl 8001 FU e (by unfold FU;omega) hA (by have:=h.1;omega) h) λ_ _=>tC λ_=>hA
theorem d99{e:Expr}(env:List iQ)(w:Int)(hl:env.length<=2^30)(h:EB 8001 e):Tot (b8w e env w) λr=>r=0->AR 8001 e:=by refine tA (d7y env hl h) λr hr=>tD (λhn=>tC λh=>by simp_all) λh0=>?_;have:=hr (by simp_all);exact tD (λ_=>tC λ_=>this) λ_=>tC λ_=>this
theorem f3x(l:List Let)(h:∀x∈l,x.Name.size<=8000/\EB 8001 x.Body):Tot (b9n l) λr=>r.1.length<=10/\(r.2=0->l.length<=10/\∀x∈l,AR 8001 x.Body):=by
 refine tD (λ_=>tC ⟨by simp,λh=>by omega⟩) λh0=>?_;simp at h0;refine tL l (λ(s:List iQ)i=>(s,i)) (λs i=>s.length=i/\∀x∈l.take i,AR 8001 x.Body) (by omega) (λrec s i y hi hy hI ih=>?_) (λrec s hI=>?_) [] ⟨rfl,by simp⟩
 .dsimp only;rw[if_pos (o6 hi),e7 hy,qA];have z:∀k:Int,k≠0->Tot (some (([]:List iQ),k)) λr=>r.1.length<=10/\(r.2=0->l.length<=10/\∀x∈l,AR 8001 x.Body):=λk hk=>tC ⟨by simp,λh=>absurd h hk⟩;have hm:=qE hy;have hn:Tot (b9o y.Name) λ_=>True:=by exact tA (Q:=λ_=>True) (Tot.tr (a8s (EB.leaf (n:=8000) (h y hm).1))) λ_ _=>tC trivial
  refine tA (c5e _) λv _=>tA (orT (e4o hn)) λ_ _=>tD (λ_=>z _ (by decide)) λ_=>tA (c12 s (λb=>b9r b y) (λ_=>True) (by omega) λ_ _=>tC λ_=>trivial) λ_ _=>tD (λ_=>z _ (by decide)) λ_=>tA (d7y s (by omega) (h y hm).2) λq hq=>tD (λhc=>z _ (by simpa using hc)) λhc=>?_;rw[p6 (by simp only[List.length_cons,List.length_nil];omega),qA];refine ih _ ⟨by simp[hI.1],λx hx=>?_⟩;rw[a9h hy]at hx;rcases b4a hx with hx|rfl;.exact hI.2 x hx
  .exact hq (by simpa using hc)
 .dsimp only;rw[if_neg (g9 _)];have:=hI.2;rw[List.take_length]at this;exact tC ⟨by grind,λ_=>⟨by omega,this⟩⟩
def VArg(v:Version):Prop:=v.Lets.length<=10/\(∀x∈v.Lets,AR 8001 x.Body)/\∀x∈v.Grants,AR 8001 x.If/\AR 8001 x.Pay
theorem c6l{v:Version}(hv:VG v):Tot (b0q v) λr=>r=0->VArg v:=by
 obtain⟨h1,h2,h3,h4,h5,h6,h7,h8⟩:=hv;refine tA (f3x v.Lets h6) λL hL=>tD (λhn=>tC λh=>by simp_all) λhn=>?_;have hA:=hL.2 (by simp_all);have nz:∀k:Int,(k !=0)=true->k≠0:=λk h e=>by simp_all
 have hs:∀{α:Type}(l:List α)(i:Nat),i<l.length->a1x l 0 (i:Int)=some (l.take i):=λl i h=>by rw[b26 (by omega) (by omega) (by omega)];simp
 refine tL v.Credits (λ(_:Unit)i=>(v,L.1,i)) (λ_ _=>True) (by omega) (λrec s i y hi hy _ ih=>?_) (λrec s _=>?_) () trivial;.dsimp only;rw[if_pos (o6 hi),e7 hy,qA,hs _ _ hi,qA];exact tA (c12 _ (λb=>b5a b y) (λ_=>True) (by rw[List.length_take];omega) λ_ _=>tC λ_=>trivial) λ_ _=>tD (λ_=>tC λh=>by omega) λ_=>ih () trivial
 dsimp only;rw[if_neg (g9 _)];refine tL v.Series (λ(_:Unit)i=>(v,L.1,i)) (λ_ _=>True) (by omega) (λrec s i y hi hy _ ih=>?_) (λrec s _=>?_) () trivial;.dsimp only;rw[if_pos (o6 hi),e7 hy,qA];refine tA (Q:=λ_=>True) (tD (λh=>?_) λ_=>tC trivial) λ_ _=>tD (λ_=>tC λh=>by omega) λ_=>ih () trivial;simp at h;rw[e9 (by omega) (by omega)];exact tA (c6 (by omega) (by omega)) λ_ _=>tC trivial
 rw[if_neg (g9 _)];refine tL v.Grants (λ(_:Unit)i=>(v,L.1,i)) (λ_ i=>∀x∈v.Grants.take i,AR 8001 x.If/\AR 8001 x.Pay) (by omega) (λrec s i y hi hy hI ih=>?_) (λrec s hI=>?_) () (by simp)
 .dsimp only;rw[if_pos (o6 hi),e7 hy,qA,hs _ _ hi,qA];have hm:=h7 y (qE hy);refine tA (c12 _ (λb=>b57 b y) (λ_=>True) (by rw[List.length_take];omega) λ_ _=>tC λ_=>trivial) λ_ _=>tD (λ_=>tC λh=>by omega) λ_=>tA (d99 _ _ (by omega) hm.1) λa ha=>tD (λh=>tC λe=>absurd e (nz _ h)) λh1=>tA (d99 _ _ (by omega) hm.2) λb hb=>tD (λh=>tC λe=>absurd e (nz _ h)) λh2=>ih () λx hx=>?_;rw[a9h hy]at hx;rcases b4a hx with hx|rfl;.exact hI x hx
  .exact⟨ha (by simpa using h1),hb (by simpa using h2)⟩
 rw[if_neg (g9 _)];rw[List.take_length]at hI;refine tL v.Reduces (λ(_:Unit)i=>(v,L.1,i)) (λ_ _=>True) (by omega) (λrec s i y hi hy _ ih=>?_) (λrec s _=>?_) () trivial;.dsimp only;rw[if_pos (o6 hi),e7 hy,qA,hs _ _ hi,qA];exact tA (c12 _ (λb=>b5b b y) (λ_=>True) (by rw[List.length_take];omega) λ_ _=>tC λ_=>trivial) λ_ _=>tD (λ_=>tC λh=>by omega) λ_=>tA (d99 _ _ (by omega) (h8 y (qE hy))) λa ha=>tD (λh=>tC λe=>absurd e (nz _ h)) λ_=>ih () trivial
 rw[if_neg (g9 _)];exact tC λ_=>⟨hA.1,hA.2,hI⟩
theorem d5t{s:Statute}(hs:SG s):Tot (b4b s) λ_=>True:=by
 refine tA (e68 hs) λ_ _=>tD (λ_=>tC trivial) λ_=>tL s.Versions (λ(_:Unit)i=>(s,i)) (λ_ _=>True) (by have:=hs.1;omega) (λrec _ i y hi hy _ ih=>?_) (λrec _ _=>?_) () trivial;.dsimp only;rw[if_pos (o6 hi),e7 hy,qA];refine tA (Q:=λ_=>True) (tD (λh=>?_) λ_=>tC trivial) λ_ _=>tD (λ_=>tC trivial) λ_=>tA (c6l (hs.2 y (qE hy))) λ_ _=>tD (λ_=>tC trivial) λ_=>ih () trivial;simp at h;have:=hs.1;rw[e9 (by omega) (by omega)];exact tA (c6 (by omega) (by omega)) λ_ _=>tC trivial
 .dsimp only;rw[if_neg (g9 _)];exact tC trivial
end Go.PL
namespace Go.PL
open Go Go.SX
theorem d73:∀(n m:Nat)(e:Expr),n<=m->EB n e->Tot ((s4 m).f_statute_cloneExpr e) (EB n)
 |0,_,_,_,h=>h.elim|n+1,0,_,hm,_=>by omega|n+1,m+1,e,hm,h=>by
   show Tot (a7s (s4 m) e) _;unfold a7s;have hl:=h.1;refine tL e.Args (λ(s:List Expr)i=>(s,(⟨e.Op,e.Value,e.Dim,e.Name,[]⟩:Expr),([]:List Expr),(⟨0,(⟨0,0⟩:fQ),0,a3j,[]⟩:Expr),i)) (λs i=>s.length=i/\∀x∈s,EB n x) (by omega) (λrec s i y hi hy hI ih=>?_) (λrec s hI=>?_) [] ⟨rfl,by simp⟩;.dsimp only;rw[if_pos (o6 hi),e7 hy,qA];refine tA (d73 n m y (by omega) (h.2.2 y (qE hy))) λz hz=>?_;rw[p6 (by simp only[List.length_cons,List.length_nil];omega),qA];exact ih _ ⟨by simp[hI.1],λx hx=>(b4a hx).elim (hI.2 x) λe=>by subst e;exact hz⟩
   .dsimp only;rw[if_neg (g9 _)];exact tC ⟨by dsimp only;omega,h.2.1,hI.2⟩
theorem c7e{e:Expr}(h:EB 8001 e):Tot (a6x e) (EB 8001):=d73 8001 FU e (by unfold FU;omega) h
theorem e5o{v:Version}(hv:VG v):Tot (a6r v) VG:=by
 obtain⟨h1,h2,h3,h4,h5,h6,h7,h8⟩:=hv;have cl:∀{α:Type}(k:Nat)(l:List α),k<=1000->(l.length:Int)<=8000->a4n k [] l=some l:=λk l hk hl=>by rw[p6 (by simp only[List.length_nil,Nat.zero_add];exact Nat.le_trans (Nat.mul_le_mul (by omega:l.length<=8000) hk) (by decide))];rfl
 have get:∀{α:Type}(l:List α)(i:Nat),i<l.length->∃x,c7 l (i:Int)=some x/\x∈l:=λl i h=>⟨l[i],by rw[b4c];simp[h],List.getElem_mem h⟩;unfold a6r a5m a6e a86 a6f a5p;simp only[cl _ _ (by decide:16<=1000) h1,cl _ _ (by decide:24<=1000) h2,cl _ _ (by decide:88<=1000) h3,cl _ _ (by decide:152<=1000) h4,cl _ _ (by decide:80<=1000) h5,qA];let w:Version:=⟨v.From,v.Rounding,[],[],[],[],[]⟩;let z:Version:=⟨0,⟨0,0⟩,[],[],[],[],[]⟩;refine tL v.Lets (λ(l:List Let)i=>(v.Credits,v.Series,l,v.Grants,v.Reduces,w,[],[],[],[],[],z,i)) (λl _=>l.length=v.Lets.length/\∀x∈l,x.Name.size<=8000/\EB 8001 x.Body) (by omega) (λrec l i y hi hy hI ih=>?_) (λrec l hI=>?_) v.Lets ⟨rfl,h6⟩
 .dsimp only;obtain⟨x,hx,hm⟩:=get l i (by omega);rw[if_pos (o6 hi)];simp only[hx,qA];refine tA (c7e (hI.2 x hm).2) λq hq=>ih _ ⟨by rw[a34];exact hI.1,λa ha=>?_⟩;rcases b6b ha with rfl|ha;.exact⟨(hI.2 x hm).1,hq⟩
  .exact hI.2 a ha
 dsimp only;rw[if_neg (g9 _)];refine tL v.Grants (λ(g:List Grant)i=>(v.Credits,v.Series,l,g,v.Reduces,w,[],[],[],[],[],z,i)) (λg _=>g.length=v.Grants.length/\∀x∈g,EB 8001 x.If/\EB 8001 x.Pay) (by omega) (λrec g i y hi hy hJ ih=>?_) (λrec g hJ=>?_) v.Grants ⟨rfl,h7⟩
 .dsimp only;obtain⟨x,hx,hm⟩:=get g i (by omega);rw[if_pos (o6 hi)];simp only[hx,qA];refine tA (c7e (hJ.2 x hm).1) λq hq=>tA (c7e (hJ.2 x hm).2) λr hr=>?_;have hg:∀a∈a8h g (i:Int) (⟨x.Benefit,q,x.Pay⟩:Grant),EB 8001 a.If/\EB 8001 a.Pay:=λa ha=>by
   rcases b6b ha with rfl|ha;.exact⟨hq,(hJ.2 x hm).2⟩
   .exact hJ.2 a ha
  obtain⟨u,hu,hn⟩:=get (a8h g (i:Int) (⟨x.Benefit,q,x.Pay⟩:Grant)) i (by rw[a34];omega);simp only[hu,qA];refine ih _ ⟨by rw[a34,a34];exact hJ.1,λa ha=>?_⟩;rcases b6b ha with rfl|ha;.exact⟨(hg u hn).1,hr⟩
  .exact hg a ha
 dsimp only;rw[if_neg (g9 _)];refine tL v.Reduces (λ(d:List Reduce)i=>(v.Credits,v.Series,l,g,d,w,[],[],[],[],[],z,i)) (λd _=>d.length=v.Reduces.length/\∀x∈d,EB 8001 x.By) (by omega) (λrec d i y hi hy hK ih=>?_) (λrec d hK=>?_) v.Reduces ⟨rfl,h8⟩
 .dsimp only;obtain⟨x,hx,hm⟩:=get d i (by omega);rw[if_pos (o6 hi)];simp only[hx,qA];refine tA (c7e (hK.2 x hm)) λq hq=>ih _ ⟨by rw[a34];exact hK.1,λa ha=>?_⟩;rcases b6b ha with rfl|ha;.exact hq
  .exact hK.2 a ha
 dsimp only;rw[if_neg (g9 _)];exact tC ⟨h1,h2,by dsimp only;omega,by dsimp only;omega,by dsimp only;omega,hI.2,hJ.2,hK.2⟩
def V0:Version:=⟨0,⟨0,0⟩,[],[],[],[],[]⟩
theorem g3t:VG V0:=by refine⟨by decide,by decide,by decide,by decide,by decide,?_,?_,?_⟩<;>intro x h<;>cases h
theorem g1l{s:Statute}(hs:SG s)(d:Int):Tot (b1v s d) λr=>VG r.1:=by unfold b1v m7;simp only[o4,qA];refine tD (λ_=>tC g3t) λ_=>?_;have hl:=hs.1;refine tO (I:=λv:(Int×Version×Bool)×Int=>-1<=v.2/\v.2<(s.Versions.length:Int)) (μ:=λv=>(v.2+1).toNat) ⟨by dsimp only;omega,by dsimp only;omega⟩ (by dsimp only;omega) ?_;rintro r⟨q,k⟩⟨g1,g2⟩ih;unfold c41;dsimp only at g1 g2⊢;refine tD (λ_=>tC g3t) λh=>?_;simp at h;exact tA (c6 h g2) λv hm=>tD (λ_=>tA (e5o (hs.2 v hm)) λ_ hw=>tC hw) λ_=>ih _ ⟨by dsimp only;omega,by dsimp only;omega⟩ (by dsimp only;omega)
end Go.PL
namespace Go.PL
open Go Go.SX
theorem d5e(l:List Int):Tot (a9p l) λb=>b=true->l.length<=200:=by
 refine tA (Q:=λb=>b=true->l.length<=200) (tD (λh=>?_) λ_=>tC λh=>by grind) λb hb=>tC hb;simp at h;refine tA (c12 l b0a (λ_=>True) (by omega) λy _=>?_) λ_ _=>tC λ_=>by omega
 unfold b0a;rw[a1z,qA];exact tC λ_=>trivial
theorem c58(w:View):Tot (b0s w) λ_=>True:=by
 unfold b0s;simp only[a1z,y3,o4,qA];refine tA (orT (e4o (d5e _))) λ_ _=>tD (λ_=>tC trivial) λ_=>?_;refine tO (I:=λv:View×Int=>v.1=w/\0<=v.2) (μ:=λv=>(7-v.2).toNat) ⟨rfl,Int.le_refl _⟩ (by omega) ?_;rintro r⟨v,k⟩⟨g1,g2⟩ih;subst g1;refine tD (λh=>?_) λ_=>tA (b2t _) λa ha=>?_;.simp at h;rw[a42 g2 (by omega)];exact tA (c6 g2 h) λ_ _=>tD (λ_=>tC trivial) λ_=>ih _ ⟨rfl,by omega⟩ (by omega)
 .have d:∀b:Bool,(a&&b)=true->v.Base.Den≠0:=λb h=>by
   have:a=true:=by grind
   exact(ha this).i.2.2
  refine tA (Q:=λb=>b=true->v.Base.Den≠0) (tD (λh=>tA (b7s (d _ h)) λ_ _=>tC λ_=>d _ h) λ_=>tC λh=>by grind) λb hb=>tA (Q:=λ_=>True) (tD (λh=>tA (b7s (hb h)) λ_ _=>tA (Q:=λ_=>True) (tD (λ_=>tC trivial) λ_=>tA (b4f (hb h)) λ_ _=>tC trivial) λ_ _=>tC trivial) λ_=>tC trivial) λ_ _=>tC trivial
theorem g3i(w:View)(s:ByteArray):Tot (c2b w s) λ_=>True:=by unfold c2b t6;refine tA (c5e s) λ_ _=>tA (orT (e4o (c58 w))) λ_ _=>?_;repeat' first|exact tC trivial|refine tD (λ_=>?_) λ_=>?_
theorem f2d(x:vQ)(s:ByteArray)(hx:x.steps.length<=2^30):Tot (a84 x s) λ_=>True:=by refine tA (g3i _ _) λ_ _=>tD (λ_=>tC trivial) λ_=>?_;refine tO (I:=λv:(ByteArray×Value)×Int=>-1<=v.2/\v.2<(x.steps.length:Int)) (μ:=λv=>(v.2+1).toNat) ⟨by omega,by omega⟩ (by omega) ?_;rintro r⟨q,k⟩⟨g1,g2⟩ih;refine tD (λ_=>tC trivial) λh=>?_;simp at h;exact tA (c6 h g2) λ_ _=>tD (λ_=>tC trivial) λ_=>ih _ ⟨by omega,by omega⟩ (by omega)
theorem e67(l:List Int)(hl:l.length<=1000000):Tot (o9 l) λr=>r.length=l.length:=by
 refine tA (Q:=λr:List Int=>r.length=l.length) (tA (Q:=λr:List Int=>r.length=l.length) (tO (I:=λv:(List Int×List Int)×Int=>v.1.2=[]/\0<=v.2/\v.2<=(l.length:Int)/\(v.1.1.length:Int)=v.2) (μ:=λv=>((l.length:Int)-v.2).toNat) ⟨rfl,Int.le_refl _,by omega,rfl⟩ (by omega) ?_) λr hr=>tC hr) λr hr=>?_;.rintro r⟨⟨a,b⟩,k⟩⟨g1,g2,g3,g4⟩ih;unfold a0l;dsimp only at g1 g2 g3 g4⊢;refine tD (λh=>tC (by simp at h;omega)) λh=>?_;simp at h;refine tA (c6 g2 h) λx _=>?_;rw[p6 (by simp only[List.length_cons,List.length_nil];omega),qA];exact ih _ ⟨rfl,by omega,by omega,by simp;omega⟩ (by omega)
 .unfold b8s;rw[if_pos (by omega),qA];have:(b89 r).length=r.length:=(a8p r).length_eq;exact tC (by omega)
theorem f6i(l:List Int)(n:Int):Tot (c4b l n) λ_=>True:=by
 unfold c4b;simp only[a1z,qA];refine tA (Q:=λb=>b=false->l.length<=200/\1<=n/\n<=45) (tD (λ_=>tC λh=>by grind) λh=>tA (d5e l) λb hb=>tC λh2=>⟨hb (by simp_all),by simp_all⟩) λb hb=>tD (λ_=>tC trivial) λh=>?_;obtain⟨h1,h2,h3⟩:=hb (by simp_all);refine tA (e67 l (by omega)) λs hs=>?_;rw[e9 (by omega) (by omega)];obtain⟨q,hq,hql⟩:∃q,a1x s (max 0 ((s.length:Int)-n)) (s.length:Int)=some q/\q.length<=200:=⟨_,b26 (by omega) (by omega) (by omega),by rw[List.length_take,List.length_drop];omega⟩;rw[hq,qA];refine tL q (λ(s:Int)i=>((⟨0,0⟩:fQ),s,i)) (λs _=>I64 s) (by omega) (λrec s i y hi hy _ ih=>?_) (λrec s hI=>?_) 0 ⟨by decide,by decide⟩;.rw[if_pos (o6 hi),e7 hy,qA];exact ih _ (d5z _)
 .rw[if_neg (g9 _)];exact tA (d7p hI ⟨by omega,by omega⟩) λ_ _=>tC trivial
theorem g5g(o:Int)(a b:fQ):Tot (b7z o a b) λ_=>True:=by refine tA (c8o a b) λ_ _=>?_;repeat' first|exact tC trivial|refine tD (λ_=>?_) λ_=>?_
theorem e95(o:Int)(a b:fQ):Tot (b2w o a b) λ_=>True:=by exact tD (λ_=>tA (f1j a b) λ_ _=>tC trivial) λ_=>tD (λ_=>tA (g4i a b) λ_ _=>tC trivial) λ_=>tD (λ_=>tA (g31 a b) λ_ _=>tC trivial) λ_=>tD (λ_=>tA (g4a a b) λ_ _=>tC trivial) λ_=>tA (c8o a b) λ_ _=>tD (λ_=>tC trivial) λ_=>tC trivial
theorem c8e(x:vQ)(hx:x.steps.length<=2^30):∀(n m:Nat)(e:Expr),2*n<=m->AR n e->Tot ((c4 m).f_eval_evaluator_expr x e) λ_=>True
 |0,_,_,_,h=>h.elim|n+1,m,e,hm,h=>by
   obtain⟨m,rfl⟩:∃k,m=k+1+1:=⟨m-2,by omega⟩;obtain⟨⟨a1,a2,a3,a4,a5⟩,hA⟩:=h;have g:∀i:Int,0<=i->i<(e.Args.length:Int)->Tot (c7 e.Args i) λy=>AR n y:=λi h0 h1=>(c6 h0 h1).mono λy hy=>hA y hy;have r1:∀y,AR n y->Tot ((c4 (m+1)).f_eval_evaluator_expr x y) λ_=>True:=λy hy=>c8e x hx n (m+1) y (by omega) hy;have r0:∀y,AR n y->Tot ((c4 m).f_eval_evaluator_expr x y) λ_=>True:=λy hy=>c8e x hx n m y (by omega) hy;have un:4<=e.Op->Tot ((c4 (m+1)).f_eval_evaluator_unary x e) λ_=>True:=λh=>by show Tot (a5i (c4 m) x e) _;exact tA (g 0 (by omega) (by omega)) λy hy=>tA (r0 y hy) λ_ _=>tD (λ_=>tC trivial) λ_=>tD (λ_=>tC trivial) λ_=>tD (λ_=>tA (e89 _) λ_ _=>tC trivial) λ_=>tA (f1i _) λ_ _=>tC trivial
   have lo:7<=e.Op->Tot ((c4 (m+1)).f_eval_evaluator_logic x e) λ_=>True:=λh=>by show Tot (a5d (c4 m) x e) _;unfold a5d;simp only[o4,y3,qA];refine tA (g 0 (by omega) (by omega)) λy hy=>tA (r0 y hy) λ_ _=>tD (λ_=>tC trivial) λ_=>tD (λ_=>tC trivial) λ_=>tD (λhc=>?_) λ_=>tA (g 1 (by omega) (by omega)) λy hy=>tA (r0 y hy) λ_ _=>tC trivial;have:=a5 (by simp at hc;omega);exact tA (g 2 (by omega) (by omega)) λy hy=>tA (r0 y hy) λ_ _=>tC trivial
   have j2:7<=e.Op->∀v b,Tot (a2t (c4 (m+1)) (x,e,v,b)) λ_=>True:=λh v b=>by unfold a2t b8n t6 b8c;simp only[o4,qA];refine tD (λ_=>tA (lo h) λ_ _=>tC trivial) λ_=>tA (g 0 (by omega) (by omega)) λy hy=>tA (r1 y hy) λ_ _=>tD (λ_=>tC trivial) λ_=>tA (g 1 (by omega) (by omega)) λy hy=>tA (r1 y hy) λ_ _=>tD (λ_=>tC trivial) λ_=>tD (λ_=>tA (g5g _ _ _) λ_ _=>tC trivial) λ_=>tA (e95 _ _ _) λ_ _=>tD (λ_=>tC trivial) λ_=>tA (Q:=λ_=>True) (tD (λ_=>tC trivial) λ_=>tD (λ_=>tC trivial) λ_=>tC trivial) λ_ _=>tC trivial
   have j1:4<=e.Op->∀v b,(b=false->7<=e.Op)->Tot (a2s (c4 (m+1)) (x,e,v,e.Op,b)) λ_=>True:=λh v b hb=>by refine tD (λ_=>tA (un h) λ_ _=>tC trivial) λh'=>?_;have h7:=hb (by simpa using h');exact tD (λ_=>j2 h7 _ _) λ_=>tD (λ_=>j2 h7 _ _) λ_=>j2 h7 _ _
   show Tot (a5u (c4 (m+1)) x e) _;refine tD (λ_=>tC trivial) λh1=>tD (λ_=>tA (f2d x _ hx) λ_ _=>tC trivial) λh2=>tD (λ_=>tA (f6i _ _) λ_ _=>tC trivial) λh3=>?_;simp at h1 h2 h3;have h4:4<=e.Op:=by omega
   exact tD (λh=>j1 h4 _ _ λe=>by rw[h]at e;cases e) λh5=>tD (λh=>j1 h4 _ _ λe=>by rw[h]at e;cases e) λh6=>j1 h4 _ _ λe=>by simp at h5 h6 e;omega
theorem c6z(s:ByteArray):∀(n m:Nat)(e:Expr),4*n<=m->EB n e->Tot ((d5 m).f_eval_mentions e s) λ_=>True|0,_,_,_,h=>h.elim|n+1,m,e,hm,h=>by obtain⟨m,rfl⟩:∃k,m=k+1+1+1+1:=⟨m-4,by omega⟩;show Tot (b2a (d5 (m+1+1+1)) e s) _;unfold b2a;simp only[o4,qA];refine tA (Q:=λ_=>True) (orT (tA (c12 e.Args (λy=>(d5 (m+1)).f_eval_mentions_1 y s) (λ_=>True) (by have:=h.1;omega) λy hy=>?_) λ_ _=>tC trivial)) λ_ _=>tC trivial;exact tA (c6z s n m y (by omega) (h.2.2 y hy)) λ_ _=>tC λ_=>trivial
theorem f1d{e:Expr}(s:ByteArray)(h:EB 8001 e):Tot (b95 e s) λ_=>True:=c6z s 8001 FU e (by unfold FU;omega) h
theorem g3e(l:List Int)(P:Int->Prop)(h:∀x∈l,P x)(hl:l.length<=2^30):Tot (a68 l) λr=>r.length=l.length/\∀x∈r,P x:=by
 refine tO (I:=λv:List Int×Int×Int=>(v.1.length=l.length/\∀x∈v.1,P x)/\0<=v.2.1/\v.2.2<(l.length:Int)/\v.2.1<=2^31/\-2^31<=v.2.2) (μ:=λv=>(v.2.2-v.2.1).toNat) ⟨⟨rfl,h⟩,Int.le_refl _,by rw[e9 (by omega) (by omega)];grind,by simp_all,by rw[e9 (by omega) (by omega)];grind⟩ (by rw[e9 (by omega) (by omega)];grind) ?_;rintro r⟨q,i,j⟩⟨⟨g1,g2⟩,g3,g4,g5,g6⟩ih;dsimp only at g1 g2 g3 g4 g5 g6⊢;refine tD (λhc=>?_) λ_=>tC ⟨g1,g2⟩;simp at hc;obtain⟨a,ha,ma⟩:=c6 (l:=q) (i:=j) (by omega) (by omega);obtain⟨b,hb,mb⟩:=c6 (l:=q) (i:=i) (by omega) (by omega);simp only[ha,hb,qA];refine tA (c6 (by omega) (by rw[a34];omega)) λ_ _=>tA (c6 (by omega) (by rw[a34];omega)) λ_ _=>?_;rw[e9 (n:=i+1) (by omega) (by omega),e9 (n:=j-1) (by omega) (by omega)];refine ih _ ⟨⟨by rw[a34,a34];omega,λx hx=>?_⟩,by dsimp only;omega,by dsimp only;omega,by dsimp only;omega,by dsimp only;omega⟩ (by dsimp only;omega);rcases b6b hx with rfl|hx;.exact g2 _ mb
 .rcases b6b hx with rfl|hx;.exact g2 _ ma
  .exact g2 x hx
theorem f8t{e:Expr}(l:List Let)(he:EB 8001 e)(hl:l.length<=10)(h:∀x∈l,EB 8001 x.Body):Tot (c4e e l) λr=>r.length<=10/\∀x∈r,0<=x/\x<(l.length:Int):=by
 unfold c4e;refine tO (I:=λv:Expr×List Int×Int=>v.1=e/\(-1<=v.2.2/\v.2.2<(l.length:Int))/\(v.2.1.length:Int)+v.2.2+1<=10/\∀x∈v.2.1,0<=x/\x<(l.length:Int)) (μ:=λv=>(v.2.2+1).toNat) ⟨rfl,⟨by rw[e9 (by omega) (by omega)];grind,by rw[e9 (by omega) (by omega)];grind⟩,by rw[e9 (by omega) (by omega)];grind,by simp⟩ (by rw[e9 (by omega) (by omega)];grind) ?_;rintro r⟨e',u,k⟩⟨g1,⟨g2,g3⟩,g4,g5⟩ih;dsimp only at g1 g2 g3 g4 g5⊢;subst g1;refine tD (λhk=>?_) λ_=>tA (g3e u _ g5 (by omega)) λq hq=>tC ⟨by omega,hq.2⟩;simp at hk;obtain⟨y,hy,my⟩:=c6 (l:=l) (i:=k) hk g3;simp only[hy,qA];refine tA (f1d _ he) λb _=>?_;refine tL u (λ(b:Bool)i=>(e',u,b,i)) (λ_ _=>True) (by omega) (λrec b i z hi hz _ ih2=>?_) (λrec b _=>?_) b trivial;.rw[if_pos (o6 hi)];simp only[e7 hz,qA];have hz5:=g5 z (qE hz);exact tA (Q:=λ_=>True) (orT (tA (c6 hz5.1 hz5.2) λt ht=>tA (f1d _ (h t ht)) λ_ _=>tC trivial)) λ_ _=>ih2 _ trivial
 .rw[if_neg (g9 _),e9 (n:=k-1) (by omega) (by omega)];refine tD (λ_=>?_) λ_=>ih _ ⟨rfl,⟨by dsimp only;omega,by dsimp only;omega⟩,by dsimp only;omega,g5⟩ (by dsimp only;omega);rw[p6 (by simp only[List.length_cons,List.length_nil];omega),qA];exact ih _ ⟨rfl,⟨by dsimp only;omega,by dsimp only;omega⟩,by simp;omega,λx hx=>(b4a hx).elim (g5 x) λe=>by omega⟩ (by dsimp only;omega)
theorem d17(x:vQ){e:Expr}(l:List Let)(o:List Bool)(s:ByteArray)(t:List Step)(he:EB 8001 e/\AR 8001 e)(hl:l.length<=10)(h:∀y∈l,EB 8001 y.Body/\AR 8001 y.Body)(ho:o.length=l.length)(ht:t.length<=1000):Tot (a3e x e l o s t) λr=>r.2.2.1.length=l.length/\r.2.2.2.length<=t.length+11/\(r.1=0->1<=r.2.2.2.length):=by
 have ev:∀(t:List Step)(e:Expr),t.length<=2000->AR 8001 e->Tot (b1n (⟨x.view,t⟩:vQ) e) λ_=>True:=λt e ht h=>c8e _ (by grind) 8001 FU e (by unfold FU;omega) h;have nz:∀k:Int,(k !=0)=true->k≠0:=λk h e=>by simp_all
 refine tA (f8t l he.1 hl λy hy=>(h y hy).1) λu hu=>?_;refine tL u (λ(q:List Step×List Bool)i=>(q.1,(⟨x.view,[]⟩:vQ),q.2,e,u,i)) (λq i=>q.1.length<=t.length+i/\q.2.length=l.length) (by omega) (λrec q i z hi hz hI ih=>?_) (λrec q hI=>?_) (t,o) ⟨Nat.le_refl _,ho⟩;.dsimp only;rw[if_pos (o6 hi)];simp only[e7 hz,qA];have hz2:=hu.2 z (qE hz);obtain⟨b,hb,_⟩:=c6 (l:=q.2) (i:=z) hz2.1 (by omega);obtain⟨y,hy,my⟩:=c6 (l:=l) (i:=z) hz2.1 hz2.2;simp only[hb,hy,qA];refine tD (λ_=>ih q ⟨by omega,hI.2⟩) λ_=>tA (ev q.1 y.Body (by omega) (h y my).2) λa _=>tD (λhn=>tC ⟨hI.2,by dsimp only;omega,λe=>absurd e (nz _ hn)⟩) λ_=>?_;rw[p6 (by simp only[List.length_cons,List.length_nil];omega),qA];exact ih (_,_) ⟨by simp;omega,(a34 ..).trans hI.2⟩
 .dsimp only;rw[if_neg (g9 _)];refine tA (ev q.1 e (by omega) he.2) λa _=>tD (λhn=>tC ⟨hI.2,by grind,λe=>absurd e (nz _ hn)⟩) λ_=>?_;rw[p6 (by simp only[List.length_cons,List.length_nil];omega),qA];exact tC ⟨hI.2,by simp;omega,λ_=>by simp⟩
theorem e2h(x:vQ)(h:1<=x.steps.length)(h2:x.steps.length<=2^30):Tot (a55 x) λ_=>True:=by unfold a55;rw[e9 (by omega) (by omega)];exact tA (c6 (by omega) (by omega)) λ_ _=>tC trivial
theorem e7p{v:Version}(hv:VG v)(b:Int)(w:View):Tot (c2a v b w) λr=>0<=r.1.Pay.Num:=by
 refine tA (Q:=λr=>r=0->VArg v) ?_ λr hr=>tD (λ_=>tC (Int.le_refl _)) λh0=>?_;.exact tA (c58 w) λ_ _=>tD (λ_=>tC λh=>by omega) λ_=>tA (c6l hv) λr hr=>tC hr
 obtain⟨a1,a2,a3⟩:=hr (by simp_all);obtain⟨h1,h2,h3,h4,h5,h6,h7,h8⟩:=hv;refine tA (d3e v.Grants (λy=>c1o y b) (λ_=>True) (by omega) λ_ _=>tC λ_=>trivial) λi hi=>tD (λ_=>tC (Int.le_refl _)) λhn=>?_;simp at hn;have hm:mkI 1 false (v.Lets.length:Int) (v.Lets.length:Int)=some (List.replicate v.Lets.length false):=by unfold mkI;rw[if_pos ⟨by omega,rfl,by omega,by omega⟩,Int.toNat_natCast]
 rw[hm,qA];have hb:∀y∈v.Lets,EB 8001 y.Body/\AR 8001 y.Body:=λy hy=>⟨(h6 y hy).2,a2 y hy⟩;refine tA (c6 hn hi.2.1) λg hg=>tA (d17 _ v.Lets _ _ [] ⟨(h7 g hg).1,(a3 g hg).1⟩ a1 hb (by simp) (by simp)) λq hq=>tD (λ_=>tC (Int.le_refl _)) λhz=>?_;have l1:=hq.2.2 (by simpa using hz);have l2:=hq.2.1;simp only[List.length_nil]at l2;refine tA (e2h _ l1 (by dsimp only;omega)) λz _=>tD (λ_=>?_) λ_=>tC (Int.le_refl _);refine tA (c6 hn hi.2.1) λg hg=>tA (d17 _ v.Lets _ _ _ ⟨(h7 g hg).2,(a3 g hg).2⟩ a1 hb hq.1 (by omega)) λp hp=>tD (λ_=>tC (Int.le_refl _)) λhz=>?_;have l3:=hp.2.2 (by simpa using hz);exact tA (e2h _ l3 (by dsimp only;omega)) λ_ _=>tD (λh=>tC (Int.le_of_lt (of_decide_eq_true h))) λ_=>tC (Int.le_refl _)
end Go.PL
namespace Go.PL
open Go Go.SX
theorem and32{x:Int}(h0:0<=x)(h1:x<18446744073709551616):d5y .u64 x 4294967295=x%4294967296:=by
 unfold d5y;have e1:(BitVec.ofInt IntKind.u64.bits x&&&BitVec.ofInt IntKind.u64.bits 4294967295).toNat=x.toNat%4294967296:=by show(x%18446744073709551616).toNat&&&(4294967295%18446744073709551616:Int).toNat=_;rw[Int.emod_eq_of_lt h0 h1];exact Nat.and_two_pow_sub_one_eq_mod x.toNat 32
 show u64 _=_;rw[b83 (by omega) (by omega)];omega
theorem or_add{a b:Int}{z:Nat}(ha:0<=a)(hb:0<=b)(hz:b<2^z)(hs:a*2^z+b<18446744073709551616):orK .u64 (a*2^z) b=a*2^z+b:=by
 have h0:0<=a*2^z:=Int.mul_nonneg ha (Int.le_of_lt (Int.pow_pos (by decide)));unfold orK;have e1:(BitVec.ofInt IntKind.u64.bits (a*2^z)|||BitVec.ofInt IntKind.u64.bits b).toNat=(a*2^z+b).toNat:=by
  show(a*2^z%18446744073709551616).toNat|||(b%18446744073709551616).toNat=_;rw[Int.emod_eq_of_lt h0 (by omega),Int.emod_eq_of_lt hb (by omega)];have e2:(a*2^z).toNat=2^z*a.toNat:=by grind
  have e3:b.toNat<2^z:=by simp_all
  rw[e2,<-Nat.two_pow_add_eq_or_of_lt e3];omega
 show u64 _=_;rw[b83 (by omega) (by omega)];omega
theorem mulY(q y1 y0:Int):q*(y1*4294967296+y0)=q*y1*4294967296+q*y0:=by grind
def Est(U W y1 y0 q r:Int):Prop:=q*y1+r=U/\0<=r/\r<4294967296/\0<=q/\U*4294967296+W<(q+1)*(y1*4294967296+y0)
theorem est_end{U W y1 y0 q r:Int}(h:Est U W y1 y0 q r)(hc:q<4294967296)(hd:q*y0<=4294967296*r+W):q*(y1*4294967296+y0)<=U*4294967296+W:=by obtain⟨a,b,c,d,e⟩:=h;grind
section
variable {U W y1 y0 q r:Int} (hW:0 <= W /\ W<4294967296) (hy:2147483648 <= y1 /\ y1<4294967296) (h0:0 <= y0 /\ y0<4294967296) (hU:0 <= U /\ U<y1*4294967296+y0)
include hW hy h0 hU
theorem est_ini:Est U W y1 y0 (U/y1) (U-U/y1*y1):=by have e:=Int.emod_add_mul_ediv U y1;rw[Int.mul_comm]at e;have e1:=Int.emod_nonneg U (by omega:y1≠0);have e2:=Int.emod_lt_of_pos U (by omega:0<y1);have e3:=Int.ediv_nonneg hU.1 (by omega:0<=y1);refine⟨by omega,by omega,by omega,e3,?_⟩;rw[mulY,Int.add_mul,Int.one_mul];have:=Int.mul_nonneg (show 0<=U/y1+1by omega) h0.1;omega
theorem est_go(h:Est U W y1 y0 q r)(hc:4294967296<=q\/4294967296*r+W<q*y0):1<=q/\U*4294967296+W<q*(y1*4294967296+y0)/\(r+y1<4294967296->Est U W y1 y0 (q-1) (r+y1))/\(4294967296<=r+y1->q-1<4294967296/\(q-1)*(y1*4294967296+y0)<=U*4294967296+W):=by
 obtain⟨a,b,c,d,e⟩:=h;have hq:1<=q:=by grind
 have up:U*4294967296+W<q*(y1*4294967296+y0):=by
  rcases hc with hc|hc;.have:=Int.mul_le_mul_of_nonneg_right hc (show 0<=y1*4294967296+y0 by omega);omega
  grind
 have e1:(q-1)*y1=q*y1-y1:=by grind
 refine⟨hq,up,λh=>⟨by omega,by omega,h,by omega,by simp_all⟩,λh=>?_⟩;have lt:q-1<4294967296:=by
  by_cases h':q-1<4294967296;.omega
  .have h':=Int.not_lt.1 h';have:=Int.mul_le_mul_of_nonneg_right h' (show 0<=y1 by omega);omega
 have:=Int.mul_le_mul_of_nonneg_right (show q-1<=4294967295by omega) h0.1;rw[mulY];omega
def IsQ(N Y q:Int):Prop:=0<=q/\q<4294967296/\q*Y<=N/\N<(q+1)*Y
theorem est_step{α:Type}{P:α->Prop}{J:Int->Option α}{rec:Int->Int->Option α}(hE:Est U W y1 y0 q r)(hJ:∀q,IsQ (U*4294967296+W) (y1*4294967296+y0) q->Tot (J q) P)(ih:Est U W y1 y0 (q-1) (r+y1)->Tot (rec (q-1) (r+y1)) P):Tot ((if(decide (q>=4294967296))then some true else some (decide ((u64 (q*y0))>(u64 ((u64 (4294967296*r))+W))))).bind λv=>if v then(if(decide ((u64 (r+y1))>=4294967296))then J (u64 (q-1))else rec (u64 (q-1)) (u64 (r+y1)))else J q) P:=by
 have hE':=hE;obtain⟨b1,b2,b3,b4,b5⟩:=hE';have bq:q<18446744073709551616:=by
  by_cases h:q<18446744073709551616;.omega
  .have:=Int.mul_le_mul_of_nonneg_right (Int.not_lt.1 h) (show 0<=y1 by omega);omega
 have eq0:q<4294967296->u64 (q*y0)=q*y0:=λh=>by have h1:=Int.mul_le_mul_of_nonneg_right (show q<=4294967295by omega) h0.1;have h2:=Int.mul_nonneg b4 h0.1;exact b83 (by omega) (by omega)
 have er:u64 (u64 (4294967296*r)+W)=4294967296*r+W:=by rw[b83 (n:=4294967296*r) (by omega) (by omega),b83 (by omega) (by omega)]
 have cond:(if(decide (q>=4294967296))=true then some true else some (decide ((u64 (q*y0))>(u64 ((u64 (4294967296*r))+W)))))=some (decide (4294967296<=q\/4294967296*r+W<q*y0)):=by
  by_cases h:q>=4294967296;.simp_all
  .rw[if_neg (by simp_all),eq0 (by omega),er];congr 1;exact decide_eq_decide.2 ⟨λhh=>Or.inr hh,λhh=>hh.resolve_left h⟩
 rw[cond,qA];by_cases hc:4294967296<=q\/4294967296*r+W<q*y0
 .rw[if_pos (decide_eq_true hc)];obtain⟨g1,g2,g3,g4⟩:=est_go hW hy h0 hU hE hc;rw[b83 (n:=r+y1) (by omega) (by omega),b83 (n:=q-1) (by omega) (by omega)];refine tD (λhb=>?_) λhb=>?_;.have h4:=g4 (of_decide_eq_true hb);exact hJ _ ⟨by omega,h4.1,h4.2,by rw[Int.sub_add_cancel];omega⟩
  .have hb':¬r+y1>=4294967296:=λh=>hb (decide_eq_true h);exact ih (g3 (by omega))
 .rw[if_neg (by simpa using hc)];have hc1:q<4294967296:=by omega
  exact hJ _ ⟨b4,hc1,est_end hE hc1 (Int.not_lt.1 λh=>hc (Or.inr h)),b5⟩
end
theorem est_u{U y1 y0:Int}(hy:2147483648<=y1/\y1<4294967296)(h0:0<=y0/\y0<4294967296)(hU:0<=U/\U<y1*4294967296+y0):u64 (Int.tdiv U y1)=U/y1/\u64 (U-u64 (U/y1*y1))=U-U/y1*y1:=by have e1:U.tdiv y1=U/y1:=c7w hU.1;have h2:0<=U/y1:=Int.ediv_nonneg hU.1 (by omega);have h4:U/y1<=U:=Int.ediv_le_self _ hU.1;have h5:0<=U/y1*y1:=Int.mul_nonneg h2 (by omega);have h6:=Int.emod_add_mul_ediv U y1;rw[Int.mul_comm]at h6;have h7:=Int.emod_nonneg U (by omega:y1≠0);rw[e1,b83 (n:=U/y1) (by omega) (by omega),b83 (n:=U/y1*y1) (by omega) (by omega),b83 (by omega) (by omega)];omega
theorem IsQ.rem{N Y q:Int}(h:IsQ N Y q):0<=N-q*Y/\N-q*Y<Y:=by obtain⟨_,_,h1,h2⟩:=h;grind
theorem u64_wrap{a b c:Int}(h0:0<=a*4294967296+b-c)(h1:a*4294967296+b-c<18446744073709551616):u64 (u64 (u64 (a*4294967296)+b)-u64 c)=a*4294967296+b-c:=by rw[g2l,g2l,g2l,g2l];omega
def R3(Y U V q1:Int)(z:Nat)(r:Int×Int):Prop:=∃q0,IsQ (U*4294967296+V) Y q0/\r.1=q1*4294967296+q0/\r.2=(U*4294967296+V-q0*Y)/2^z
theorem j4_eq{Y U V q1 q0:Int}{z:Nat}(hz:z<=63)(hY:9223372036854775808<=Y/\Y<18446744073709551616)(h1:0<=q1/\q1<4294967296)(hq:IsQ (U*4294967296+V) Y q0):Tot (b5x (Y,(z:Int),V,q1,U,q0)) (R3 Y U V q1 z):=by have h2:=hq.rem;have a3:=hq.1;have a4:=hq.2.1;unfold b5x;dsimp only;rw[u64_wrap h2.1 (by omega),c5u (by omega),qA,g53 h2.1 rfl (by omega),b83 (n:=q1*4294967296) (by omega) (by omega),b83 (by omega) (by omega)];exact tC ⟨q0,hq,rfl,rfl⟩
theorem j3_eq{Y U W V q1:Int}{z:Nat}(hz:z<=63)(hY:9223372036854775808<=Y/\Y<18446744073709551616)(hV:0<=V/\V<4294967296)(h1:IsQ (U*4294967296+W) Y q1):Tot (b31 (Y,(z:Int),Y/4294967296,Y%4294967296,U,W,V,q1)) (R3 Y (U*4294967296+W-q1*Y) V q1 z):=by
 have hr:=h1.rem;have a1:=h1.1;have a2:=h1.2.1;have eW:=u64_wrap hr.1 (by omega);generalize U*4294967296+W-q1*Y=U2 at*;unfold b31;rw[eW];have eY:Y/4294967296*4294967296+Y%4294967296=Y:=by omega
 have hy:2147483648<=Y/4294967296/\Y/4294967296<4294967296:=by omega
 have h0:0<=Y%4294967296/\Y%4294967296<4294967296:=by omega
 have fin:∀q0,IsQ (U2*4294967296+V) (Y/4294967296*4294967296+Y%4294967296) q0->Tot (b5x (Y,(z:Int),V,q1,U2,q0)) (R3 Y U2 V q1 z):=λq0 h=>j4_eq hz hY ⟨a1,a2⟩ (by simp_all);have hU:0<=U2/\U2<Y/4294967296*4294967296+Y%4294967296:=by omega
 have ei:(if Y/4294967296=0then none else some (u64 (U2.tdiv (Y/4294967296))))=some (U2/(Y/4294967296)):=by rw[if_neg (by omega),(est_u hy h0 hU).1]
 rw[ei,qA,(est_u hy h0 hU).2];generalize Y/4294967296=y1 at*;generalize Y%4294967296=y0 at*;refine tO (I:=λs:Int×Int=>Est U2 V y1 y0 s.2 s.1) (μ:=λs=>(4294967296-s.1).toNat) (est_ini hV hy h0 hU) ?_ ?_;.have:=(est_ini hV hy h0 hU).2.1;omega
 .rintro rec⟨r,q⟩hE ih;have b':=hE.2.2.1;unfold c4t;rw[eW];exact est_step hV hy h0 hU (J:=λq=>b5x (Y,(z:Int),V,q1,U2,q)) (rec:=λq r=>rec (r,q)) hE fin λh=>ih _ h (by omega)
def IsDiv(N p:Int)(r:Int×Int):Prop:=r.1*p+r.2=N/\0<=r.1/\0<=r.2/\r.2<p
theorem div_up{T d i p U v q1 q0:Int}(hT:0<T)(e:U*18446744073709551616+v=(d*18446744073709551616+i)*T)(h1:IsQ (U*4294967296+v/4294967296) (p*T) q1)(h0:IsQ ((U*4294967296+v/4294967296-q1*(p*T))*4294967296+v%4294967296) (p*T) q0):IsDiv (d*18446744073709551616+i) p (q1*4294967296+q0,((U*4294967296+v/4294967296-q1*(p*T))*4294967296+v%4294967296-q0*(p*T))/T):=by
 have hr:=h0.rem;have a1:=h1.1;have a0:=h0.1;generalize d*18446744073709551616+i=N at*;have e2:(U*4294967296+v/4294967296-q1*(p*T))*4294967296+v%4294967296-q0*(p*T)=(N-(q1*4294967296+q0)*p)*T:=by grind
 rw[e2]at hr⊢;rw[Int.mul_ediv_cancel _ (by omega)];refine⟨by grind,by omega,?_,?_⟩;.exact Int.le_of_mul_le_mul_right (by simp_all) hT
 simp_all
theorem split_up{i:Int}{z:Nat}(h0:0<=i)(h1:i<18446744073709551616)(hz:z<=63):i/2^(64-z)*18446744073709551616+u64 (i*2^z)=i*2^z/\0<=i/2^(64-z)/\i/2^(64-z)<2^z:=by
 have hT:(0:Int)<2^z:=Int.pow_pos (by decide);have e:(18446744073709551616:Int)=2^(64-z)*2^z:=by rw[<-Int.pow_add,show 64-z+z=64by omega];rfl
 have e1:i*2^z/18446744073709551616=i/2^(64-z):=by simp_all
 rw[g2l,<-e1];have hp:=Int.mul_nonneg h0 (Int.le_of_lt hT);have hl:i*2^z<2^z*18446744073709551616:=by rw[Int.mul_comm];simp_all
 omega
theorem Div64_eq{d i p:Int}(hd:0<=d)(hi:0<=i)(hi1:i<18446744073709551616)(hp0:d<p)(hp:p<18446744073709551616):Tot (a8o d i p) (IsDiv (d*18446744073709551616+i) p):=by
 unfold a8o;rw[if_neg (by grind)];refine tJ ?_;unfold b9j;rw[if_neg (by grind)];refine tJ ?_;unfold b9t;dsimp only;refine tD (λh0=>?_) λh0=>?_
 .have h0:d=0:=by simp_all
  have e1:i.tdiv p=i/p:=c7w hi;have h4:i/p<=i:=Int.ediv_le_self _ hi;have h2:0<=i/p:=Int.ediv_nonneg hi (by omega);rw[if_neg (by omega),qA,e1,b83 h2 (by omega),g4m hi (by omega),qA];have:=Int.emod_add_mul_ediv i p;exact tC ⟨by grind,h2,Int.emod_nonneg _ (by omega),Int.emod_lt_of_pos _ (by omega)⟩
 .obtain⟨z,hz,hz1,hz2,hz3⟩:=lead (p:=p) (by omega) hp;have uz:u64 (z:Int)=(z:Int):=b83 (by omega) (by omega);have uz2:u64 (64-(z:Int))=((64-z:Nat):Int):=by rw[b83 (by omega) (by omega)];omega
  have hT:(0:Int)<2^z:=Int.pow_pos (by decide);have hdT:d*2^z<p*2^z:=Int.mul_lt_mul_of_pos_right hp0 hT;have hd0:0<=d*2^z:=Int.mul_nonneg hd (Int.le_of_lt hT);have e3:e70 .u64 p (z:Int)=p*2^z:=by rw[g3r rfl (by omega),b83 (by omega) (by omega)]
  have e4:e70 .u64 d (z:Int)=d*2^z:=by rw[g3r rfl (by omega),b83 (by omega) (by omega)]
  have e5:e70 .u64 i (z:Int)=u64 (i*2^z):=g3r rfl (by omega);have e6:c8u .u64 i ((64-z:Nat):Int)=i/2^(64-z):=g53 hi rfl (by omega);obtain⟨s1,s2,s3⟩:=split_up hi hi1 hz1;have hv:=b51 (i*2^z);have eN:(d*2^z+i/2^(64-z))*18446744073709551616+u64 (i*2^z)=(d*18446744073709551616+i)*2^z:=by rw[Int.add_mul,Int.add_mul,Int.mul_right_comm d 18446744073709551616];omega
  have hU1:d*2^z+i/2^(64-z)<p*2^z:=by have:(d+1)*2^z<=p*2^z:=Int.mul_le_mul_of_nonneg_right (by omega) (Int.le_of_lt hT);rw[Int.add_mul,Int.one_mul]at this;omega
  have eo:orK .u64 (d*2^z) (i/2^(64-z))=d*2^z+i/2^(64-z):=or_add hd s2 s3 (by omega);rw[hz,qA,uz,uz2,e1w (by omega),qA,c5u (by decide),qA,e1w (by omega),qA,c5u (by omega),qA,e1w (by omega),qA,c5u (by decide),qA,e3,e4,e5,e6,eo,h3z (by omega),h3z hv.1];have dv:∀q1 q0,IsQ ((d*2^z+i/2^(64-z))*4294967296+u64 (i*2^z)/4294967296) (p*2^z) q1->IsQ (((d*2^z+i/2^(64-z))*4294967296+u64 (i*2^z)/4294967296-q1*(p*2^z))*4294967296+u64 (i*2^z)%4294967296) (p*2^z) q0->_:=λq1 q0 h1 h0=>div_up hT eN h1 h0;have hU:0<=d*2^z+i/2^(64-z):=by omega
  have a3:=and32 (x:=p*2^z) (by omega) hz3;have a4:=and32 (x:=u64 (i*2^z)) hv.1 (by omega);have hY:9223372036854775808<=p*2^z/\p*2^z<18446744073709551616:=⟨hz2,hz3⟩;generalize d*18446744073709551616+i=N at*;generalize hYY:p*2^z=Y at*;generalize u64 (i*2^z)=v at*;have jn:∀q1,IsQ ((d*2^z+i/2^(64-z))*4294967296+v/4294967296) Y q1->Tot (b31 (Y,(z:Int),Y/4294967296,Y%4294967296,d*2^z+i/2^(64-z),v/4294967296,v%4294967296,q1)) (IsDiv N p):=λq1 h1=>(j3_eq hz1 hY (by omega) h1).mono λr⟨q0,h0,hr1,hr2⟩=>by have:=dv q1 q0 h1 h0;rw[<-hr1,<-hr2]at this;omega
  generalize hUU:d*2^z+i/2^(64-z)=U at*;have eY:Y/4294967296*4294967296+Y%4294967296=Y:=by omega
  have hy:2147483648<=Y/4294967296/\Y/4294967296<4294967296:=by omega
  have h0:0<=Y%4294967296/\Y%4294967296<4294967296:=by omega
  have hU':0<=U/\U<Y/4294967296*4294967296+Y%4294967296:=by omega
  have hW:0<=v/4294967296/\v/4294967296<4294967296:=by omega
  have ei:(if Y/4294967296=0then none else some (u64 (U.tdiv (Y/4294967296))))=some (U/(Y/4294967296)):=by rw[if_neg (by omega),(est_u hy h0 hU').1]
  rw[ei,qA,(est_u hy h0 hU').2];rw[eY]at hU';have jn':∀q1,IsQ (U*4294967296+v/4294967296) (Y/4294967296*4294967296+Y%4294967296) q1->_:=λq1 h=>jn q1 (by rw[eY]at h;omega);rw[<-eY]at hU';generalize Y/4294967296=y1 at*;generalize Y%4294967296=y0 at*;refine tO (I:=λs:Int×Int=>Est U (v/4294967296) y1 y0 s.1 s.2) (μ:=λs=>(4294967296-s.2).toNat) (est_ini hW hy h0 hU') ?_ ?_;.have:=(est_ini hW hy h0 hU').2.1;omega
  .rintro rec⟨q,r⟩hE ih;have b':=hE.2.2.1;unfold c4k;rw[uz,eo,a3,a4];exact est_step hW hy h0 hU' (J:=λq=>b31 (Y,(z:Int),y1,y0,U,v/4294967296,v%4294967296,q)) (rec:=λq r=>rec (q,r)) hE jn' λh=>ih _ h (by omega)
end Go.PL
namespace Go.PL
open Go Go.SX
theorem Mul64_eq{x y:Int}(hx0:0<=x)(hx1:x<18446744073709551616)(hy0:0<=y)(hy1:y<18446744073709551616):b3s x y=some (x*y/18446744073709551616,x*y%18446744073709551616):=by
 unfold b3s;simp only[c5u (show(0:Int)<=32by decide),qA];rw[h3z hx0,h3z hy0,and32 hx0 hx1,and32 hy0 hy1];obtain⟨x1,x0,hxe,hx2,hx3,hx4,hx5⟩:∃x1 x0:Int,x=x1*4294967296+x0/\0<=x1/\x1<=4294967295/\0<=x0/\x0<=4294967295:=⟨x/4294967296,x%4294967296,by omega,by omega,by omega,by omega,by omega⟩;obtain⟨y1,y0,hye,hy2,hy3,hy4,hy5⟩:∃y1 y0:Int,y=y1*4294967296+y0/\0<=y1/\y1<=4294967295/\0<=y0/\y0<=4294967295:=⟨y/4294967296,y%4294967296,by omega,by omega,by omega,by omega,by omega⟩;have ex1:x/4294967296=x1:=by omega
 have ex0:x%4294967296=x0:=by omega
 have ey1:y/4294967296=y1:=by omega
 have ey0:y%4294967296=y0:=by omega
 rw[ex1,ex0,ey1,ey0];have bound:∀p q:Int,0<=p->p<=4294967295->0<=q->q<=4294967295->0<=p*q/\p*q<=18446744065119617025:=by intro p q h1 h2 h3 h4;exact⟨Int.mul_nonneg h1 h3,Int.le_trans (Int.mul_le_mul h2 h4 h3 (by decide)) (by decide)⟩
 have hxy:x*y=x1*y1*18446744073709551616+(x1*y0+x0*y1)*4294967296+x0*y0:=by
  rw[hxe,hye,Int.add_mul,Int.mul_add,Int.mul_add];have e1:x1*4294967296*(y1*4294967296)=x1*y1*18446744073709551616:=by rw[Int.mul_assoc,Int.mul_left_comm 4294967296 y1,<-Int.mul_assoc];rfl
  have e2:x1*4294967296*y0=x1*y0*4294967296:=by rw[Int.mul_assoc,Int.mul_comm 4294967296 y0,<-Int.mul_assoc]
  have e3:x0*(y1*4294967296)=x0*y1*4294967296:=by rw[<-Int.mul_assoc]
  omega
 have b1:=bound x0 y0 hx4 hx5 hy4 hy5;have b2:=bound x1 y0 hx2 hx3 hy4 hy5;have b3:=bound x0 y1 hx4 hx5 hy2 hy3;have b4:=bound x1 y1 hx2 hx3 hy2 hy3;generalize x0*y0=a at*;generalize x1*y0=b at*;generalize x0*y1=c at*;generalize x1*y1=d at*;rw[b83 (n:=a) (by omega) (by omega),h3z b1.1,b83 (n:=b) (by omega) (by omega)];rw[b83 (n:=b+a/4294967296) (by omega) (by omega),h3z (by omega),and32 (by omega) (by omega),b83 (n:=c) (by omega) (by omega)];rw[b83 (n:=(b+a/4294967296)%4294967296+c) (by omega) (by omega),h3z (by omega),b83 (n:=d) (by omega) (by omega)];rw[b83 (n:=d+(b+a/4294967296)/4294967296) (by omega) (by omega)];rw[b83 (n:=d+(b+a/4294967296)/4294967296+((b+a/4294967296)%4294967296+c)/4294967296) (by omega) (by omega),g2l];congr 1;refine Prod.ext ?_ rfl;omega
def Up(m q t D:Int):Prop:=(m=2/\0<t)\/(m=3/\D<=2*t)\/(m=4/\(D<2*t\/(2*t=D/\q%2≠0)))
def IsR(N D m u v:Int):Prop:=∃q t k,q*D+t=N/\0<=q/\0<=t/\t<D/\(Up m q t D->k=q+1)/\(¬Up m q t D->k=q)/\v=k*u
theorem IsR_le{N D m u v w n d:Int}(h1:IsR N D m u v)(h2:IsR (N*n) (D*d) m u w)(hn:0<=n)(hd:n<=d)(d1:1<=d)(hN:0<=N)(hu:0<=u):w<=v:=by
 obtain⟨q,t,k,a1,a2,a3,a4,a5,a6,rfl⟩:=h1;obtain⟨p,s,j,b1,b2,b3,b4,b5,b6,rfl⟩:=h2;refine Int.mul_le_mul_of_nonneg_right ?_ hu;have c1:N*n<=N*d:=Int.mul_le_mul_of_nonneg_left hd hN;have c2:N*d=q*(D*d)+t*d:=by grind
 have c3:t*d<D*d:=Int.mul_lt_mul_of_pos_right a4 (by omega);have k1:q<=k:=by
  by_cases h:Up m q t D;.grind
  simp_all
 have j1:j<=p+1:=by
  by_cases h:Up m p s (D*d);.grind
  grind
 rcases Int.lt_trichotomy p q with h|h|h;.omega
 .subst h;by_cases hu:Up m p s (D*d)
  .have:Up m p t D:=by
    rcases hu with⟨h,g⟩|⟨h,g⟩|⟨h,g⟩;.refine Or.inl ⟨h,?_⟩;grind
    .refine Or.inr (Or.inl ⟨h,Int.le_of_mul_le_mul_right (a:=d) ?_ (by omega)⟩);rw[Int.mul_assoc];omega
    .refine Or.inr (Or.inr ⟨h,?_⟩);rcases g with g|⟨g,g2⟩;.refine Or.inl (Int.lt_of_mul_lt_mul_right (a:=d) ?_ (by omega));rw[Int.mul_assoc];omega
     .have h3:D<=2*t:=Int.le_of_mul_le_mul_right (a:=d) (by rw[Int.mul_assoc];omega) (by omega);omega
   grind
  grind
 .have:(q+1)*(D*d)<=p*(D*d):=Int.mul_le_mul_of_nonneg_right (by omega) (by omega);rw[Int.add_mul,Int.one_mul]at this;omega
section
variable {r:Rounding} (hu:1 <= r.Unit /\ r.Unit <= 100000)
include hu
theorem dv3{k:Int}(h0:0<=k)(h1:k<=2000000000001):Tot (b2f (r,k)) λo=>o.2=0->o.1=k*r.Unit:=by
 unfold b2f;dsimp only;rw[q_nn (by decide) (by decide) (by omega),qA];by_cases hk:k>1000000000000/r.Unit;.rw[if_pos (decide_eq_true hk),qA,if_pos rfl];exact tC λh=>by omega
 .rw[if_neg (by simp_all)];refine tA (Q:=λ_=>True) (tA (b7s (by omega)) λ_ _=>tC trivial) λb _=>tD (λ_=>tC λh=>by omega) λ_=>tC λ_=>?_;have h2:k*r.Unit<=1000000000000/r.Unit*r.Unit:=Int.mul_le_mul_of_nonneg_right (by omega) (by omega);have h3:=Int.ediv_mul_le 1000000000000 (show r.Unit≠0 by omega);have h4:=Int.mul_nonneg h0 (show 0<=r.Unit by omega);exact e9 (by omega) (by omega)
theorem dv2{k:Int}(h0:0<=k)(h1:k<=2000000000000)(b:Bool):Tot (a7a (r,k,b)) λo=>o.2=0->o.1=(if b then k+1 else k)*r.Unit:=by
 unfold a7a;dsimp only;rw[a42 h0 (by omega)];cases b;.exact tJ (dv3 hu h0 (by omega))
 .exact tJ (dv3 hu (by omega) (by omega))
theorem dv1{q t D N:Int}(e:q*D+t=N)(h0:0<=q)(h1:q<=2000000000000)(ht:0<=t)(hD:t<D)(h2:D<9223372036854775808):Tot (a9e (r,D,t,q)) λo=>o.2=0->IsR N D r.Mode r.Unit o.1:=by
 have fin:∀b:Bool,(b=true↔Up r.Mode q t D)->Tot (joinC a7a (r,q,b)) λo=>o.2=0->IsR N D r.Mode r.Unit o.1:=λb hb=>(tJ (dv2 hu h0 h1 b)).mono λo ho hz=>⟨q,t,_,e,h0,ht,hD,λh=>if_pos (hb.2 h),λh=>if_neg λg=>h (hb.1 g),ho hz⟩;unfold a9e Up at*;rw[b83 (n:=D-t) (by omega) (by omega)];refine tD (λh=>fin _ ?_) λh2'=>tD (λh=>fin _ ?_) λh3'=>tD (λh=>?_) λh4'=>fin _ ?_;.simp only[beq_iff_eq]at h;rw[h];simp
 .simp only[beq_iff_eq]at h;simp;omega
 .simp only[beq_iff_eq]at h;have er:b8t q 2=some (q%2):=g4m h0 (by decide);rw[er,qA];by_cases g1:t>D-t;.rw[if_pos (decide_eq_true g1),qA];exact fin _ (by simp;omega)
  .rw[if_neg (by simpa using g1)];by_cases g2:t=D-t;.rw[if_pos (by simpa using g2),qA,qA];exact fin _ (by simp;omega)
   .rw[if_neg (by simpa using g2),qA,qA];exact fin _ (by simp;omega)
 .simp_all
theorem divide_eq{hi lo den:Int}(h0:U64 hi)(h1:U64 lo)(hd:1<=den)(hD:den*r.Unit<9223372036854775808):Tot (a9o false hi lo den r) λo=>o.2=0->IsR (hi*18446744073709551616+lo) (den*r.Unit) r.Mode r.Unit o.1:=by
 have hp:den<=den*r.Unit:=by have:=Int.mul_le_mul_of_nonneg_left hu.1 (show 0<=den by omega);omega
 unfold U64 at*;unfold a9o;rw[b83 (n:=r.Unit) (by omega) (by omega),b83 (n:=den*r.Unit) (by omega) (by omega)];refine tD (λ_=>tC λh=>by omega) λh=>?_;simp at h;refine tA (Div64_eq h0.1 h1.1 (by omega) h (by omega)) λw hw=>?_;obtain⟨e,a,b,c⟩:=hw;refine tD (λ_=>tC λh=>by omega) λhq=>?_;simp at hq;rw[if_neg (by decide),e9 (n:=w.1) (by omega) (by omega)];exact tJ (dv1 hu e a hq b c hD)
end
end Go.PL
namespace Go.PL
open Go Go.SX
def VF(f:fQ)(r:Rounding):Prop:=0<=f.Num/\f.Num<=1000000000000000/\1<=f.Den/\f.Den<=1000000000/\1<=r.Unit/\r.Unit<=100000
theorem vf_tot{f:fQ}{r:Rounding}(hn:0<=f.Num):Tot ((o7 f).bind λv1=>if(!v1)=true then some true else(a2y r).bind λv2=>some (!v2)) λb=>b=false->VF f r:=by refine tA (b2t f) λx hx=>tD (λ_=>tC λh=>by grind) λhb=>tA (d9a r) λy hy=>tC λh=>?_;have h1:=hx (by simp_all);have h2:=hy (by simp_all);exact⟨hn,h1.2.2.2,h1.1,h1.2.1,h2.1,h2.2⟩
theorem msize_eq{x:Int}(h0:0<=x)(h1:x<=1000000000000000):b3x x=some x:=by unfold b3x;rw[if_neg (by simp_all),b83 h0 (by omega)]
theorem Round_val{f:fQ}(r:Rounding)(hn:0<=f.Num):Tot (b9q f r) λo=>o.2=0->VF f r/\IsR f.Num (f.Den*r.Unit) r.Mode r.Unit o.1:=by unfold b9q;rw[<-Option.bind_assoc];refine tA (vf_tot hn) λb hb=>tD (λ_=>tC λh=>by omega) λh=>?_;have hv:=hb (by simp_all);obtain⟨a1,a2,a3,a4,a5,a6⟩:=hv;have h1:f.Den*r.Unit<=1000000000*100000:=Int.mul_le_mul a4 a6 (by omega) (by decide);rw[msize_eq a1 a2,qA,b83 (n:=f.Den) (by omega) (by omega),decide_eq_false (by omega)];refine tA (divide_eq ⟨a5,a6⟩ (hi:=0) (lo:=f.Num) ⟨by decide,by decide⟩ ⟨a1,by omega⟩ a3 (by omega)) λo ho=>tC λh=>⟨⟨a1,a2,a3,a4,a5,a6⟩,?_⟩;simp_all
theorem Share_val{f:fQ}(n d:Int)(r:Rounding)(hv:VF f r):Tot (b97 f n d r) λo=>o.2=0->0<=n/\1<=d/\IsR (f.Num*n) (f.Den*r.Unit*d) r.Mode r.Unit o.1:=by
 obtain⟨a1,a2,a3,a4,a5,a6⟩:=hv;unfold b97;rw[<-Option.bind_assoc];refine tA (tA (Q:=λ_=>True) (b2t f).tr λx hx=>tD (Q:=λ_=>True) (λ_=>tC trivial) λh=>tA (d9a r).tr λy hy=>tC trivial) λb _=>?_;simp only[a1z,y3,qA];refine tD (λ_=>tC λh=>by omega) λh=>?_;simp at h;have h1:f.Num*n<=1000000000000000*73049:=Int.mul_le_mul a2 (by omega) (by omega) (by decide);have h2:f.Den*d<=1000000000*73049:=Int.mul_le_mul a4 (by omega) (by omega) (by decide);have h3:1<=f.Den*d:=by have:=Int.mul_le_mul a3 (show 1<=d by omega) (by decide) (by omega);omega
 have h4:f.Den*d*r.Unit<=1000000000*73049*100000:=Int.mul_le_mul h2 a6 (by omega) (by decide);have h0:0<=f.Num*n:=Int.mul_nonneg a1 (by omega);rw[msize_eq a1 a2,qA,b83 (n:=n) (by omega) (by omega),Mul64_eq a1 (by omega) (by omega) (by omega),qA,b83 (n:=f.Den) (by omega) (by omega),b83 (n:=d) (by omega) (by omega),b83 (n:=f.Den*d) (by omega) (by omega),decide_eq_false (by omega)];refine tA (divide_eq ⟨a5,a6⟩ (hi:=f.Num*n/18446744073709551616) (lo:=f.Num*n%18446744073709551616) ⟨by omega,by omega⟩ ⟨by omega,by omega⟩ h3 (by omega)) λo ho=>tC λh=>⟨by omega,by omega,?_⟩;grind
theorem Days_rng{l:List Span}(hl:l.length<=2^40):Tot (b6h l) λr=>0<=r/\r<=10000000000:=by
 refine tA (Q:=λr=>0<=r/\r<=10000000000) (tA (b2p hl) λz hz=>?_) λ_ h=>tC h;have hn:=c3n hz.1;refine tL z (λ(s:Int)i=>(s,z,i)) (λs i=>0<=s/\s<=73049*i) (by omega) (λrec s i y hi hy hI ih=>?_) (λrec s hI=>?_) 0 ⟨Int.le_refl _,by omega⟩
 .have hy2:=hz.1.1 y (qE hy);dsimp only;rw[if_pos (o6 hi),e7 hy,qA,qA];refine tD (λ_=>?_) λ_=>ih _ ⟨hI.1,by omega⟩;have:min y.To 73049=y.To:=by omega
  rw[this,e9 (n:=y.To-y.From) (by omega) (by omega),e9 (n:=s+(y.To-y.From)) (by omega) (by omega)];exact ih _ ⟨by omega,by omega⟩
 .dsimp only;rw[if_neg (g9 _)];exact tC ⟨hI.1,by omega⟩
theorem gt_set{α:Type}(z:α)(x:Ar 6 α){i j:Int}(y:α)(hi:0<=i/\i<6)(hj:0<=j):Ar.gt z (Ar.set x i y) j=if j=i then y else Ar.gt z x j:=by
 have hx:=x.h;unfold Ar.gt Ar.set c7 a8h;by_cases h:j=i;.simp_all
 .have:i.toNat≠j.toNat:=by omega
  simp_all
def CT(t:Total)(k:Int):Prop:=0<=t.Base/\t.Base<=10000000000*k/\∀j,0<=j->j<k->Ar.gt false t.Few j=false->Ar.gt 0 t.Own j<=t.Base
theorem Compute_ct(l:List nQ)(m:Int)(hl:l.length<=2^30):Tot (b41 l m) λt=>CT t 6:=by
 unfold b41 lpC;refine tO (I:=λv:Total×Total×Int×Int=>0<=v.2.2.2/\v.2.2.2<=6/\CT v.2.1 v.2.2.2) (μ:=λv=>(6-v.2.2.2).toNat) ⟨Int.le_refl _,by decide,Int.le_refl _,Int.le_refl _,λj h0 h1=>by grind⟩ (by grind) ?_;rintro r⟨t0,t,la,k⟩⟨g1,g2,g3⟩ih;refine tD (λhc=>?_) λhc=>tC (by grind);simp at hc;dsimp only at g1 g2 g3;have hi:d0n 6 k=some ():=by unfold d0n;grind
 have j:∀a b c,CT b (k+1)->Tot (b06 r (l,a,c,b,la,k,k)) λt=>CT t 6:=λa b c hb=>by refine tA (e0f l _ _ hl) λz hz=>tA (e41 (by omega)) λq _=>?_;rw[a42 g1 (by omega)];have hs:∀x y z,CT y (k+1)->Tot (r (x,y,z,k+1)) λt=>CT t 6:=λx y z h=>ih _ ⟨by grind,by grind,h⟩ (by dsimp only;omega);exact tA (Q:=λ_=>True) (tD (λ_=>tC trivial) λ_=>tC trivial) λ_ _=>tD (λ_=>hs _ _ _ hb) λ_=>hs _ _ _ hb
 refine tA (Q:=λq=>0<=q/\q<=10000000000) (tA (e0f l _ _ hl) λz hz=>tA (Days_rng (by omega)) λ_ h=>tC h) λq hq=>?_;simp only[hi,qA];have e1:Ar.gt 0 (Ar.set t.Own k q) k=q:=by rw[gt_set _ _ _ ⟨g1,hc⟩ g1,if_pos rfl]
 rw[e1];obtain⟨c1,c2,c3⟩:=g3;refine tA (Q:=λ_=>True) (tD (λ_=>tC trivial) λ_=>tC trivial) λw _=>?_;have e2:Ar.gt false (Ar.set t.Few k w) k=w:=by rw[gt_set _ _ _ ⟨g1,hc⟩ g1,if_pos rfl]
 rw[e2];have up:∀B,t.Base<=B->(w=false->q<=B)->∀j,0<=j->j<k+1->Ar.gt false (Ar.set t.Few k w) j=false->Ar.gt 0 (Ar.set t.Own k q) j<=B:=λB hB hw j h0 h1 hf=>by
  rw[gt_set _ _ _ ⟨g1,hc⟩ h0]at hf⊢;by_cases hj:j=k;.rw[if_pos hj]at hf⊢;exact hw hf
  .rw[if_neg hj]at hf⊢;exact Int.le_trans (c3 j h0 (by omega) hf) hB
 refine tD (λh=>tJ (j _ _ _ ?_)) λh=>tJ (j _ _ _ ?_);.have e3:i64 (t.Base+q)=t.Base+q:=e9 (by omega) (by omega);exact⟨by dsimp only;omega,by dsimp only;omega,by dsimp only;exact up _ (by omega) λ_=>by omega⟩
 .exact⟨c1,by dsimp only;omega,up _ (Int.le_refl _) λhw=>by simp[hw]at h⟩
theorem Fraction_ct{t:Total}(ht:CT t 6)(s:Int):Tot (b2k t s) λo=>o.1<=o.2/\(Ar.gt false t.Few s=true->o.1≠o.2->o.1=0):=by
 unfold b2k;simp only[a1z,qA];refine tD (λ_=>tC ⟨by decide,λ_ _=>rfl⟩) λh=>?_;have hi:d0n 6 s=some ():=by unfold d0n;grind
 simp at h;simp only[hi,qA];refine tA (Q:=λb=>b=true->Ar.gt false t.Few s=false) (tD (λh=>tC λ_=>by simp_all) λ_=>tC λh=>by grind) λb hb=>tA (Q:=λc=>c=true->b=true) (tD (λh=>tC λ_=>h) λ_=>tC λh=>by grind) λc hc=>tD (λh2=>tC ?_) λ_=>?_;.have hf:=hb (hc h2);exact⟨ht.2.2 s h.1 h.2 hf,λh=>by simp_all⟩
 .exact tA (Q:=λ_=>True) (tD (λ_=>tC trivial) λ_=>tC trivial) λ_ _=>tA (Q:=λ_=>True) (tD (λ_=>tC trivial) λ_=>tC trivial) λ_ _=>tD (λ_=>tC ⟨by decide,λ_ h=>absurd rfl h⟩) λ_=>tC ⟨by decide,λ_ _=>rfl⟩
end Go.PL
namespace Go.PL
open Go Go.SX
def LW(x:Laws):Prop:=TrF x.Treaty/\x.States.length<=3/\∀s∈x.States,(0<=s.State/\s.State<6)/\SG s.Statute
theorem g3f{l:List Int}(hl:l.length<=9223372036854775807):Tot (b11 l) LW:=by
 refine tO (σ:=(List State)×(List Rules)×(List Rate)×Laws×(List State)×(List Rules)×Laws×Int) (I:=λv=>0<=v.2.2.2.2.2.2.2/\v.2.2.2.2.2.2.2<=3/\(v.2.2.2.2.1.length:Int)<=v.2.2.2.2.2.2.2/\∀s∈v.2.2.2.2.1,(0<=s.State/\s.State<6)/\SG s.Statute) (μ:=λv=>(3-v.2.2.2.2.2.2.2).toNat) ⟨Int.le_refl _,by grind,Int.le_refl _,λs h=>by grind⟩ (by grind) ?_;rintro r⟨v1,v2,v3,v4,s,v6,v7,k⟩⟨g1,g2,g3,g4⟩ih;dsimp only at g1 g2 g3 g4⊢;refine tD (λhc=>?_) λ_=>?_;.simp at hc;refine tA (c2w l hl g1 hc) λt _=>tA (e7z t) λq hq=>?_;rw[a42 g1 (by omega)];refine tD (λ_=>?_) λ_=>ih _ ⟨by dsimp only;omega,by dsimp only;omega,by dsimp only;omega,g4⟩ (by dsimp only;omega);rw[p6 (by simp;omega),qA];exact ih _ ⟨by dsimp only;omega,by dsimp only;omega,by simp;omega,λs hs=>(b4a hs).elim (g4 s) λe=>by subst e;exact⟨⟨g1,by dsimp only;omega⟩,hq⟩⟩ (by dsimp only;omega)
 .refine tA (a0t _ _ hl) λa _=>tA (a1i (by omega) (by omega)) λb hb=>tA (a0t _ _ hl) λc _=>tA (a1i (by omega) (by omega)) λd _=>?_;have e0:∀x:Rules,c7 [x] 0=some x:=λx=>rfl;have e1:∀x y:Rules,a8h [x] 0 y=[y]:=λx y=>rfl;have e2:i64 (90*b)=90*b:=e9 (by omega) (by omega);have f:∀T,TrF T->LW ⟨s,T,v7.Rates⟩:=λT hT=>⟨hT,by dsimp only;omega,g4⟩;simp only[e0,e1,e2,qA];refine tD (λ_=>tC (f _ ⟨90*b,by omega,by omega,.inl rfl⟩)) λ_=>tD (λ_=>?_) λ_=>?_;.exact tA (b24 (by simp)) λr hr=>tC (f _ ⟨90*b,by omega,by omega,.inr (.inl hr)⟩)
  .exact tA (b24 (by simp)) λr hr=>tC (f _ ⟨90*b,by omega,by omega,.inr (.inr hr)⟩)
theorem e6r{x:Laws}(h:LW x):Tot (c02 x) λ_=>True:=by
 obtain⟨hT,hl,hs⟩:=h;unfold c02;refine tL x.States (λ(_:Unit)i=>(x,i)) (λ_ _=>True) (by omega) (λrec _ i y hi hy _ ih=>?_) (λrec _ _=>?_) () trivial;.dsimp only;rw[if_pos (o6 hi),e7 hy];simp only[a1z,qA];refine tA (Q:=λ_=>True) (orT (tA (Q:=λ_=>True) (tD (λh=>?_) λ_=>tC trivial) λ_ _=>tC trivial)) λ_ _=>tD (λ_=>tC trivial) λ_=>ih () trivial;simp at h;rw[e9 (by omega) (by omega)];exact tA (c6 (by omega) (by omega)) λ_ _=>tC trivial
 dsimp only;rw[if_neg (g9 _)];refine tL x.States (λ(_:Unit)i=>(x,i)) (λ_ _=>True) (by omega) (λrec _ i y hi hy _ ih=>?_) (λrec _ _=>?_) () trivial;.rw[if_pos (o6 hi),e7 hy,qA];exact tA (d5t (hs y (qE hy)).2) λ_ _=>tD (λ_=>tC trivial) λ_=>ih () trivial
 rw[if_neg (g9 _),d5j hT,qA];exact tD (λ_=>tC trivial) λ_=>tA (b8a _) λ_ _=>tC trivial
def BO(b:bQ):Prop:=LW b.laws/\b.rules.Members.length<=3
theorem f6h{x:Laws}(h:LW x)(d:Int):Tot (b8v x d) λr=>r.2=0->BO r.1:=by
 refine tA (e6r h) λc _=>tD (λhn=>tC λe=>by grind) λ_=>?_;by_cases hd:0<=d/\d<=73048
 .rw[g2p h.1 hd.1 hd.2,qA];obtain⟨_,_,_,_,hm⟩:=e30 h.1 d;refine tD (λ_=>tC λe=>by omega) λ_=>tC λ_=>⟨h,?_⟩;obtain⟨m,_,_,e⟩:=h.1;rcases e with e|e|e<;>rw[e]at hm<;>simp at hm;.grind
  .grind
  grind
 .have hc:m7 d=some false:=by unfold m7;grind
  unfold b2q;rw[hc,qA];exact tC λe=>by omega
section
variable {b:bQ} (hb:BO b)
theorem e90(hb:BO b)(s:Int):Tot (a7y b s) λr=>SG r.1/\(r.2=true->0<=s/\s<6):=by
 obtain⟨⟨hT,hl,hs⟩,_⟩:=hb;unfold a7y;refine tL b.laws.States (λ(_:Unit)i=>(([]:List Version),(⟨a3j,0,[]⟩:Statute),i)) (λ_ _=>True) (by omega) (λrec _ i y hi hy _ ih=>?_) (λrec _ _=>?_) () trivial;.dsimp only;rw[if_pos (o6 hi),e7 hy,qA];have:=hs y (qE hy);exact tD (λh=>tC ⟨this.2,λ_=>by simp at h;omega⟩) λ_=>ih () trivial
 .dsimp only;rw[if_neg (g9 _)];exact tC ⟨SG0,λh=>by grind⟩
theorem e3r(hb:BO b)(s:Int):Tot (a2v b s) λr=>VG r.2.1/\(r.2.2=0->0<=s/\s<6):=by refine tA (e90 hb s) λq hq=>tA (g1l hq.1 _) λv hv=>?_;simp only[a1z,qA];exact tD (λ_=>tC ⟨g3t,λh=>by grind⟩) λh=>tC ⟨hv,λ_=>hq.2 (by grind)⟩
theorem d46(hb:BO b)(s:Int):Tot (a08 b s) λ_=>True:=by exact tA (Q:=λ_=>True) (tA (d3e b.rules.Members (λy=>some (s==y)) (λ_=>True) (by have:=hb.2;omega) λy _=>tC λ_=>trivial) λ_ _=>tC trivial) λ_ _=>tC trivial
theorem e8z(hb:BO b){f:List aQ}(hG:a48 f)(w:Int->Option Bool)(hw:∀s,Tot (w s) λ_=>True):Tot (lpC (b,([]:List Scheme),(0:Int)) λr4⟨v1,v2,v3⟩=>if decide (v3<(b.laws.States.length:Int))=true then Option.bind (c7 b.laws.States v3) λv5=>Option.bind (w v5.State) λv6=>if v6=true then Option.bind (b1v v5.Statute v1.day) λv7=>Option.bind (a4n 152 v2 [(⟨v5.State,v7.1⟩:Scheme)]) λv8=>r4 (v1,v8,i64 (v3+1))else r4 (v1,v2,i64 (v3+1))else Option.bind (a4h f v1.laws.Treaty) λv9=>Option.bind (a7e f v9 v2 v1.day) λv10=>Option.bind (a71 v10.1) λv11=>some v11) λr=>r.length<=2000000:=by
 obtain⟨⟨hT,hl,hs⟩,_⟩:=hb;refine tL b.laws.States (λ(q:List Scheme)i=>(b,q,i)) (λq i=>q.length<=i/\∀x∈q,x.Version.Credits.length<=2^30) (by omega) (λrec q i y hi hy hI ih=>?_) (λrec q hI=>?_) [] ⟨Nat.zero_le _,by simp⟩;.dsimp only;rw[if_pos (o6 hi),e7 hy,qA];refine tA (hw _) λ_ _=>tD (λ_=>tA (g1l (hs y (qE hy)).2 _) λv hv=>?_) λ_=>ih q ⟨by omega,hI.2⟩;rw[p6 (by simp only[List.length_cons,List.length_nil];omega),qA];exact ih _ ⟨by simp;omega,λx hx=>(b4a hx).elim (hI.2 x) λe=>by subst e;have:=hv.1;dsimp only;omega⟩
 .dsimp only;rw[if_neg (g9 _)];have hn:=hG.len;refine tA (f4q hG hT) λg hg=>tA (e4v f g q b.day (by omega) (by omega) (by omega) hI.2) λc hc=>tA (e1m c.1 ?_) λr hr=>tC hr;have:q.length*(g.length+6*f.length)<=3*(100+6*27):=Nat.mul_le_mul (by omega) (by omega);omega
theorem e01(hb:BO b){f:List aQ}(hG:a48 f)(s:Int):Tot (a2z b f s) λr=>r.length<=2000000:=by exact tA (d46 hb s) λ_ _=>tD (λ_=>tA (e8z hb hG (a08 b) (d46 hb)) λ_ h=>tC h) λ_=>tA (Q:=λr:List nQ=>r.length<=2000000) (tA (e8z hb hG (λy=>b1l y s) λ_=>tC trivial) λ_ h=>tC h) λ_ h=>tC h
theorem d7m(f:List aQ)(d:Int)(hf:f.length<=1000):Tot (b2v f d) λ_=>True:=by
 refine tL f (λ(s:List Int)i=>(s,i)) (λs i=>s.length<=i) (by omega) (λrec s i y hi hy hI ih=>?_) (λrec s hI=>?_) [] (by simp);.unfold b30;rw[if_pos (o6 hi),e7 hy];simp only[b6f,o4,qA];refine tD (λ_=>?_) λ_=>ih _ (by omega);rw[p6 (by simp only[List.length_cons,List.length_nil];omega),qA];simp_all
 .unfold b30 b8s;dsimp only;have:(b89 s).length=s.length:=(a8p s).length_eq;rw[if_neg (g9 _),if_pos (by omega),qA,b98 _ (by omega),qA];exact tC trivial
theorem e2l(hb:BO b){f:List aQ}(hG:a48 f)(c:List nQ)(hc:c.length<=2000000)(s:Int)(t:Bool):Tot (a8k b f c s t) λ_=>True:=by
 have hn:=hG.len;have days:∀(a:Int)(ks:List Int),ks.length<=2^30->Tot (a8q c a ks) λ_=>True:=λa ks h=>f1y c a ks (by omega) h;have j2:∀a1 a2 a3 a4 a5(v:Version)a6 a7 a8,VG v->Tot (a7j (f,c,a1,a2,a3,a4,a5,v,a6,a7,a8)) λ_=>True:=λa1 a2 a3 a4 a5 v a6 a7 a8 hv=>by have:=hv.2.1;exact tA (days _ _ (by simp)) λ_ _=>tA (days _ _ (by simp)) λ_ _=>tA (days _ _ (by simp)) λ_ _=>tA (days _ _ (by simp)) λ_ _=>tA (days _ _ (by simp)) λ_ _=>tA (days _ _ (by simp)) λ_ _=>tA (e8n f c _ _ _ (by omega) (by omega)) λy hy=>tD (λ_=>tC trivial) λ_=>tA (d70 _ v _ (by omega) (by omega)) λ_ _=>tD (λ_=>tC trivial) λ_=>tA (e74 _) λ_ _=>tD (λ_=>tC trivial) λ_=>tC trivial
 have j1:∀a1 a2 a3 a4 a5 a6(v:Version)a7 a8,VG v->Tot (a85 (f,c,a1,a2,a3,a4,a5,a6,v,a7,a8)) λ_=>True:=λa1 a2 a3 a4 a5 a6 v a7 a8 hv=>by exact tA (c2d _) λ_ _=>tD (λ_=>j2 _ _ _ _ _ v _ _ _ hv) λ_=>j2 _ _ _ _ _ v _ _ _ hv
 refine tA (e3r hb s) λv hv=>tD (λ_=>tC trivial) λ_=>tA (d7m f _ (by omega)) λ_ _=>?_;unfold b4t;rw[d4x f 11 (by omega)];simp only[o4,qA];exact tD (λ_=>tA (g4s _ _) λ_ _=>j1 _ _ _ _ _ _ v.2.1 _ _ hv.1) λ_=>j1 _ _ _ _ _ _ v.2.1 _ _ hv.1
theorem f0t{v:Version}(hv:VG v)(k:Int)(w:View):Tot (c1k v k w) λr=>r.2.2=0->VF r.1.Pay v.Rounding/\IsR r.1.Pay.Num (r.1.Pay.Den*v.Rounding.Unit) v.Rounding.Mode v.Rounding.Unit r.2.1:=by exact tA (e7p hv k w) λ_ h=>tD (λh=>tC λe=>by simp_all) λ_=>tA (Round_val _ h) λ_ h=>tC h
def PB(a:Award):Prop:=a.Code=0/\a.Num<=a.Den/\(a.Few=true->a.Independent=0/\(a.Num≠a.Den->a.Num=0))
def PA(a:Award):Prop:=PB a/\a.ProRata<=a.Theoretical/\(a.Num=0->a.ProRata=0)
def AG(a:Award):Prop:=a.Code=0/\a.Amount=max a.Independent a.ProRata/\a.ProRata<=a.Theoretical/\a.Num<=a.Den/\(a.Few=true->a.Independent=0/\(a.Num≠a.Den->a.Amount=0))
theorem f3t(hb:BO b){f:List aQ}(hG:a48 f)(s k d:Int):Tot (a8d b ⟨s,k,d,0,false,0,0,0,0,0,0,[]⟩ f) λr=>r.1=0->AG r.2:=by
 have j3:∀a,PA a->Tot (b1p a) λr=>r.1=0->AG r.2:=λa h=>tC λ_=>⟨h.1.1,rfl,h.2.1,h.1.2.1,λhf=>⟨(h.1.2.2 hf).1,λhn=>by rw[(h.1.2.2 hf).1,h.2.2 ((h.1.2.2 hf).2 hn)];rfl⟩⟩;have no:∀{c:Int}{a:Award},(c !=0)=true->Tot (some (c,a)) λr=>r.1=0->AG r.2:=λh=>tC λe=>by simp_all
 have j2:∀(a:Award)(v:Version)(c:List nQ),VG v->c.length<=2000000->PB a->a.ProRata=0->a.Theoretical=0->Tot (a8c (a,f,b,v,c)) λr=>r.1=0->AG r.2:=λa v c hv hc ha h0 h1=>by refine tD (λh=>tA (e2l hb hG c hc _ _) λ_ _=>tD (λh=>no h) λ_=>tA (f0t hv _ _) λp hp=>tD (λh=>no h) λhz=>?_) λh=>tJ (j3 _ ⟨ha,by simp_all,λ_=>h0⟩);have hp:=hp (by simp_all);refine tA (Share_val _ _ _ hp.1) λq hq=>tD (λh=>no h) λhz=>?_;have hq:=hq (by grind);have hle:=IsR_le hp.2 hq.2.2 hq.1 ha.2.1 hq.2.1 hp.1.1 (Int.le_trans (by decide) hp.1.2.2.2.2.1);exact tD (λ_=>tJ (j3 _ ⟨ha,hle,λe=>absurd e (by grind)⟩)) λ_=>tJ (j3 _ ⟨ha,hle,λe=>absurd e (by grind)⟩)
 have j1:∀(a:Award)(v:Version)(c:List nQ)w,VG v->c.length<=2000000->PB a->a.ProRata=0->a.Theoretical=0->Tot (a7k (a,f,b,v,c,w)) λr=>r.1=0->AG r.2:=λa v c w hv hc ha h0 h1=>by exact tD (λh=>tA (f0t hv _ _) λ_ hp=>tD (λh=>no h) λ_=>j2 _ _ _ hv hc ⟨ha.1,ha.2.1,λg=>by grind⟩ h0 h1) λ_=>j2 _ _ _ hv hc ha h0 h1
 refine tA (e3r hb _) λv hv=>tD (λh=>no h) λh0=>tA (e01 hb hG _) λc hc=>tA (e2l hb hG c hc _ _) λw _=>tD (λh=>no h) λ_=>tA (d46 hb _) λ_ _=>tD (λ_=>tA (Compute_ct c _ (by omega)) λt ht=>?_) λ_=>j1 _ _ _ _ hv.1 hc ⟨rfl,Int.zero_le_ofNat 1,λh=>by cases h⟩ rfl rfl;have hi:d0n 6 s=some ():=by unfold d0n;simp_all
 rw[hi,qA];exact tA (Fraction_ct ht _) λo ho=>j1 _ _ _ _ hv.1 hc ⟨rfl,ho.1,λh=>⟨rfl,ho.2 h⟩⟩ rfl rfl
end
def AW(a:Award):Prop:=(a.Code≠0->a.Amount=0/\a.Independent=0/\a.ProRata=0/\a.Steps=[])/\(a.Code=0->AG a)
theorem g48{x:Laws}(h:LW x){f:List aQ}(hG:a48 f)(s k d:Int):Tot (b47 x f s k d) AW:=by
 have j:∀a1 a2 a3 a4 a5 a c,(c=0->AG a)->Tot (c3h (a1,a2,a3,a4,a5,a,c)) AW:=λa1 a2 a3 a4 a5 a c ha=>tD (λh=>tC ⟨λ_=>⟨rfl,rfl,rfl,rfl⟩,λe=>by simp_all⟩) λh=>by have:=ha (by simp_all);exact tC ⟨λe=>absurd this.1 e,λ_=>this⟩
 refine tA (f6h h d) λq hq=>tD (λh0=>tA (f3t (hq (by grind)) hG _ _ _) λ_ hs=>j _ _ _ _ _ _ _ hs) λh0=>j _ _ _ _ _ _ _ λe=>absurd e (by simp_all)
end Go.PL
namespace Go.PL
open Go Go.SX
theorem e44{l:List aQ}(h:l.length<=27)(hp:(l.filter c30).length<=12):a48 (e16 l):=by
 obtain⟨h1,_,h3⟩:=e9u l;refine⟨h1,by omega,?_⟩;have e2:((e16 l).filter c30).length<=((l.filter vld).filter c30).length:=by unfold e16;simpa using d00 (l.filter vld) []
 have e3:((l.filter vld).filter c30).length<=(l.filter c30).length:=by rw[List.filter_filter,show(λa=>c30 a&&vld a)=λa=>vld a&&c30 a from funext λa=>Bool.and_comm _ _,<-List.filter_filter];grind
 omega
theorem f2u(l:List tH)(n:List Int)(b:Bool)(hl:l.length<=9223372036854775807)(hn:n.length<=9223372036854775807):Tot (b0g l n b) a48:=by
 refine tO (I:=λv:List aQ×Int=>0<=v.2/\v.2<=8/\(v.1.length:Int)=v.2) (μ:=λv=>(8-v.2).toNat) ⟨Int.le_refl _,by omega,rfl⟩ (by omega) ?_;rintro r⟨o,k⟩⟨g1,g2,g3⟩ih;unfold b5j;dsimp only at g1 g2 g3⊢;rw[a7h,qA];refine tD (λhc=>?_) λ_=>tD (λ_=>tA (f7m hn) λv hv=>?_) λ_=>?_;.simp at hc;refine tA (c6 g1 hc.1) λf _=>tA (f5k _) λm _=>?_;rw[p6 (by simp only[List.length_cons,List.length_nil];omega),qA,a42 g1 (by omega)];exact ih _ ⟨by omega,by omega,by simp;omega⟩ (by omega)
 .have hp:=g5h v 1;have hf:=List.length_filter_le c30 o;have hz:(ofP v 1).filter c30=[]:=by rw[List.filter_eq_nil_iff];intro u hu h;exact hv.2 u (List.mem_filter.1 hu).1 (by simpa[c30]using h)
  rw[g9t v 1 (by omega),qA,p6 (by omega),qA,d8r _ (by rw[qL];omega)];exact tC (e44 (by rw[qL];omega) (by rw[List.filter_append,hz,List.append_nil];omega))
 .have hf:=List.length_filter_le c30 o;rw[d8r _ (by omega)];exact tC (e44 (by omega) (by omega))
theorem All_aw{x:Laws}(h:LW x){f:List aQ}(hG:a48 f)(k d:Int):Tot (c4q x f k d) λr=>r.length=x.States.length/\∀a∈r,AW a:=by
 have hl:=h.2.1;unfold c4q;refine tL x.States (λ(o:List Award)i=>(x,o,i)) (λo i=>o.length=i/\∀a∈o,AW a) (by omega) (λrec o i y hi hy hI ih=>?_) (λrec o hI=>?_) [] ⟨rfl,λ_ h=>by grind⟩;.dsimp only;rw[if_pos (o6 hi),e7 hy,qA];obtain⟨a,ha,hs⟩:=g48 h hG y.State k d;rw[ha,qA,p6 (by simp only[List.length_cons,List.length_nil];omega),qA];exact ih _ ⟨by simp[hI.1],λb hb=>(b4a hb).elim (hI.2 b) λe=>by grind⟩
 .dsimp only;rw[if_neg (g9 _)];exact tC hI
end Go.PL
namespace Go.PL
open Go Go.SX
def aF:List aQ:=[(⟨0,1,1,false,1,1,0,(⟨30000,30010⟩:Span),0,100,1,500,0⟩:aQ)]
def aT:List Rules:=[(⟨0,0,0,0,[0]⟩:Rules)]
def aV:Version:=⟨0,(⟨1,1⟩:Rounding),[],[],[],[(⟨1,(⟨16,(⟨0,0⟩:fQ),0,a3j,[(⟨2,(⟨0,0⟩:fQ),0,b6u,[]⟩:Expr),(⟨1,(⟨5,1⟩:fQ),3,a3j,[]⟩:Expr)]⟩:Expr),(⟨1,(⟨77,1⟩:fQ),4,a3j,[]⟩:Expr)⟩:Grant)],[]⟩
def aB:bQ:=⟨⟨[⟨0,⟨c91,1,[aV]⟩⟩],aT,[]⟩,31000,⟨0,0,0,0,[0]⟩⟩
theorem aP:competence_Postings aF=some []:=by have hv:∀u∈aF,vld u=true:=List.forall_mem_singleton.2 (by kernel_rfl);obtain⟨P,hP,hm,_⟩:=c90 (⟨hv,by decide,by decide⟩:a48 aF);rw[hP];cases P with|nil=>rfl|cons p P=>
   have e:f3b aF p.Seat p.State=[]:=by kernel_rfl
   have h1:p.Span∈d4o (f3b aF p.Seat p.State) (a4q aF):=(hm p).1 (by simp);rw[e,List.length_eq_zero_iff.1 (Nat.le_zero.1 (b8o [] (a4q aF) (by decide)).2.2.2)]at h1;grind
theorem aLaw:a4h aF aT=some [(⟨(⟨30000,30010⟩:Span),0,3⟩:gQ)]:=by unfold a4h a9c;rw[aP];kernel_rfl
def aCn:List nQ:=[(⟨(⟨30000,30010⟩:Span),0,1⟩:nQ)]
theorem aCnt:a2z aB aF 0=some aCn:=by unfold a2z a0s lpC;rw[show a08 aB 0=some true from by kernel_rfl,qA,if_pos rfl,show FU=1180591620717411303422+1+1from rfl,d24];dsimp only;rw[if_pos (by decide),show c7 aB.laws.States 0=some ⟨0,⟨c91,1,[aV]⟩⟩from rfl,qA];rw[show a08 aB 0=some true from by kernel_rfl,qA,if_pos rfl,show b1v ⟨c91,1,[aV]⟩ aB.day=some (aV,true)from by kernel_rfl,qA,p6 (by decide),qA,d24];rw[if_neg (by decide),show aB.laws.Treaty=aT from rfl,aLaw,qA];kernel_rfl
theorem e4y:b2m=some true:=by show Option.bind (b47 aB.laws aF 0 1 31000) _=_;unfold b47;rw[show b8v aB.laws 31000=some (aB,0)from by kernel_rfl,qA,if_pos (by decide)];unfold a8d;rw[show a2v aB 0=some (⟨c91,1,[aV]⟩,aV,0)from by kernel_rfl,qA,if_neg (by decide),aCnt];kernel_rfl
theorem AwardsBetter_true(l:List tH)(n:List Int)(lives:Bool)(at_ benefit:Int)(hl:l.length<=9223372036854775807)(_:n.length<=9223372036854775807):pensionlaw20_AwardsBetter l n lives at_ benefit=some true:=by
 obtain⟨r,hr,h⟩:Tot (pensionlaw20_AwardsBetter l n lives at_ benefit) λr=>r=true:=by
  refine tD (λ_=>tC rfl) λhn=>?_;refine tA (Q:=LW) ?_ λx hx=>tA (f2u l n lives hl (by omega)) λf hG=>tA (Q:=λ_=>True) ?_ λd _=>tA (Q:=λ_=>True) ?_ λb _=>tA (All_aw hx hG _ d) λp hp=>?_;.refine tA (g3f (by omega)) λx hx=>?_;exact tC hx
  .refine tA (b4f (by decide)) λ_ _=>tD (λ_=>tC trivial) λ_=>tA (Q:=λ_=>True) ?_ λ_ _=>tC trivial;exact tD (λ_=>tC trivial) λ_=>tA (b4f (by decide)) λ_ _=>tA (b4f (by decide)) λ_ _=>tC trivial
  .exact tD (λ_=>tC trivial) λ_=>tA (b4f (by decide)) λ_ _=>tA (b4f (by decide)) λ_ _=>tC trivial
  have h3:=hx.2.1;refine tL p (λ(_:Unit)i=>(x,p,i)) (λ_ _=>True) (by omega) (λrec _ i y hi hy _ ih=>?_) (λrec _ _=>?_) () trivial
  .unfold pensionlaw20_AwardsBetter_l1;rw[if_pos (o6 hi)];obtain⟨w1,w2⟩:=hp.2 y (qE hy);simp only[e7 hy,qA];by_cases hc:y.Code=0
   .obtain⟨g1,g2,g3,g4,g5⟩:=w2 hc;rw[if_neg (by grind),if_neg (by grind),qA,decide_eq_false (by omega),if_neg (by decide),qA,decide_eq_false (by omega),if_neg (by decide)];by_cases hf:y.Few=true
    .obtain⟨k1,k2⟩:=g5 hf;rw[if_pos hf,if_neg (by grind)];by_cases he:y.Num=y.Den;.rw[if_neg (by grind)];exact ih () trivial
     .rw[if_pos (by grind),qA,k2 he];exact ih () trivial
    .rw[if_neg hf];exact ih () trivial
   .obtain⟨k1,k2,k3,k4⟩:=w1 hc;rw[if_pos (by simp_all),k1,k2,k3,k4];exact ih () trivial
  .unfold pensionlaw20_AwardsBetter_l1;rw[if_neg (g9 _),e4y,qA,if_pos rfl,qA,hp.1];exact tC (by simp)
 grind
end Go.PL
