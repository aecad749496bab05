/- Texts of the proof, joined. -/
import Derived.Test.YtnhmmgnpmjfjoaaGreatDoorP5
set_option linter.unusedVariables false
set_option linter.unusedSimpArgs false
set_option maxRecDepth 100000
namespace Go.PL
open Go Go.SX
theorem f2b {a:AE} (h:a.leafOK):a2g a.e=some true:=by
 cases a with
 | lit v d=>
   show a2g ⟨1,v,d,a1y,[]⟩=some true
   unfold a2g
   obtain ⟨_,s,hs⟩:=h
   simp only [show a4s 1=some 0 from by kernel_rfl,Option.bind_some,List.length_nil,hs,BEq.rfl,if_true,show (((0:Nat):Int) != 0)=false from rfl,Bool.false_eq_true,if_false]
 | nm s=>
   show a2g ⟨2,⟨0,0⟩,0,s,[]⟩=some true
   unfold a2g
   simp only [show a4s 2=some 0 from by kernel_rfl,Option.bind_some,List.length_nil,h.2,BEq.rfl,Bool.and_true,if_true,show (((0:Nat):Int) != 0)=false from rfl,show ((2:Int)==1)=false from rfl,Bool.false_eq_true,if_false]
 | best k=>
   show a2g ⟨3,⟨k,1⟩,0,a1y,[]⟩=some true
   unfold a2g
   have e1:decide (k >= 1)=true:=by simp;exact h.1
   have e2:decide (k <= 45)=true:=by simp;exact h.2
   simp only [show a4s 3=some 0 from by kernel_rfl,Option.bind_some,List.length_nil,BEq.rfl,if_true,show (((0:Nat):Int) != 0)=false from rfl,show ((3:Int)==1)=false from rfl,show ((3:Int)==2)=false from rfl,Bool.false_eq_true,if_false,e1,e2]
 | bin op x y=>
   show a2g ⟨op,⟨0,0⟩,0,a1y,[x.e,y.e]⟩=some true
   unfold a2g
   have o1:(op==1)=false:=by have:=h.1;simp;omega
   have o2:(op==2)=false:=by have:=h.1;simp;omega
   have o3:(op==3)=false:=by have:=h.1;simp;omega
   simp only [e03 h.1 h.2,Option.bind_some,List.length_cons,List.length_nil,BEq.rfl,Bool.and_true,if_true,o1,o2,o3,Bool.false_eq_true,if_false]
   rfl
 | ite x y z=>
   show a2g ⟨21,⟨0,0⟩,0,a1y,[x.e,y.e,z.e]⟩=some true
   unfold a2g
   simp only [show a4s 21=some 3 from by kernel_rfl,Option.bind_some,List.length_cons,List.length_nil,BEq.rfl,Bool.and_true,if_true,show ((21:Int)==1)=false from rfl,show ((21:Int)==2)=false from rfl,show ((21:Int)==3)=false from rfl,Bool.false_eq_true,if_false]
   rfl
theorem e0t (R:Ring_syntax_form) (L:List AE) (hR: ∀a∈L,R.f_syntax_form_1 a.e=some false) (hl:L.length <= 3):l8 R (L.map AE.e)=some (-1):=by
 unfold l8
 refine k9 (fun i=>(i:Int)) L.length ?_ ?_ (by have:=a1o;omega)
 ·intro i hi r
  unfold y3
  have hg:i7 (L.map AE.e) (i:Int)=some (L[i].e):=by rw [a0c (by simpa using hi)];simp
  simp only [List.length_map,b3u hi,if_true,hg,Option.bind_some,hR _ (List.getElem_mem hi),a4f (show i <= 1000000 by omega),Bool.false_eq_true,if_false]
 ·intro r
  unfold y3
  simp only [List.length_map,a4u,Bool.false_eq_true,if_false]
theorem e9z: ∀(a:AE),a.ok -> ∀m,4*a.dep <= m -> (d7 m).f_syntax_form a.e=some true:=by
 refine AE.ind fun a ih hok m hm=> ?_
 obtain ⟨m,rfl⟩: ∃k,m=k+1+1+1+1:=⟨m-4,by have:=b60 a;omega⟩
 have hR: ∀b∈a.args,(d7 (m+1)).f_syntax_form_1 b.e=some false:=fun b hb=>by
  show a94 (d7 m) b.e=some false
  unfold a94
  rw [ih b hb (hok.arg hb) m (by have:=b0j hb;omega)]
  rfl
 have hloop:=e0t (d7 (m+1)) a.args hR (b6e a)
 have hC:(d7 (m+1+1+1)).f_slices_ContainsFunc_of_api_Expr a.e.Args=some false:=by
  show o9 (d7 (m+1+1)) a.e.Args=some false
  unfold o9
  show (l8 (d7 (m+1)) a.e.Args).bind _=_
  rw [c5m,hloop]
  rfl
 show b12 (d7 (m+1+1+1)) a.e=some true
 unfold b12
 rw [f2b hok.leaf,Option.bind_some]
 simp only [if_true,hC,Option.bind_some,Bool.not_false]
theorem c20 {a:AE} (h:a.ok) (hd:a.dep <= 10) (hs:a.sz <= 60):s4 a.e=some true:=by
 unfold s4 b3g b4s b2d
 have hf:=a1o
 rw [e4d a (by omega) FU (by omega),f1b a (by omega) FU (by omega),e32 a h FU (by omega),Option.bind_some]
 have e1:decide ((a.dep:Int) <= 10)=true:=by simp;omega
 have e2:decide ((a.sz:Int) <= 60)=true:=by simp;omega
 simp only [e1,e2,if_true,Option.bind_some]
theorem b5x {a:AE} (h:a.ok) (hd:a.dep <= 10) (hs:a.sz <= 60):a06 a.e=some true:=by
 unfold a06 c14 c2s c42
 have hf:=a1o
 rw [d9k a (by omega) FU (by omega),e5g a (by omega) FU (by omega),e9z a h FU (by omega),Option.bind_some]
 have e1:decide ((a.dep:Int) <= 10)=true:=by simp;omega
 have e2:decide ((a.sz:Int) <= 60)=true:=by simp;omega
 simp only [e1,e2,if_true,Option.bind_some]
def okD (o:Option (Int×Bool)):Option Int:=o.bind fun x=>if x.2 then some x.1 else none
theorem e8v {o:Option (Int×Bool)} {d:Int} (h:okD o=some d):o=some (d,true):=by
 cases o with
 | none=>cases h
 | some x=>
   obtain ⟨y,b⟩:=x
   cases b with
   | false=>cases h
   | true=>injection h with h;subst h;rfl
def AE.inf (env:List Binding):AE -> Option Int
 | .lit _ d=>some d
 | .best _=>some 4
 | .nm s=>okD (b1a s env)
 | .bin op a b=>(a.inf env).bind fun x=>(b.inf env).bind fun y=>okD (a90 op [x,y])
 | .ite a b c=>(a.inf env).bind fun x=>(b.inf env).bind fun y=>(c.inf env).bind fun z=>okD (a90 21 [x,y,z])
theorem c5t (R:Ring_typing_infer) (env:List Binding) (e:Expr) (L:List AE) (ds:List Int) (he:e.Args=L.map AE.e) (hl:L.length <= 3) (hds:ds.length=L.length) {d:Int} (ht:okD (a90 e.Op ds)=some d)
  (hR: ∀i (h:i<L.length),R.f_typing_infer L[i].e env=some (ds[i]'(by omega),0)):f7 FU (a8x R e env) (e,[],0)=some (d,0):=by
 refine k9 (fun i=>(e,ds.take i,(i:Int))) L.length ?_ ?_ (by have:=a1o;omega)
 ·intro i hi r
  unfold a8x
  have hlen:e.Args.length=L.length:=by rw [he];simp
  have hg:i7 e.Args (i:Int)=some (L[i].e):=by rw [a0c (by omega)];simp [he]
  simp only [hlen,b3u hi,if_true,hg,Option.bind_some,hR i hi,show ((0:Int) != 0)=false from rfl,Bool.false_eq_true,if_false,a8o (show (ds.take i).length <= 1000 by simp;omega) (show 8 <= 1000 by decide),a4f (show i <= 1000000 by omega)]
  rw [List.take_succ_eq_append_getElem (by omega)]
 ·intro r
  unfold a8x
  have hlen:e.Args.length=L.length:=by rw [he];simp
  simp only [hlen,a4u,Bool.false_eq_true,if_false]
  rw [show ds.take L.length=ds by rw [<- hds,List.take_length],e8v ht]
  rfl
theorem e3m (env:List Binding): ∀(a:AE),a.ok -> ∀d,a.inf env=some d -> ∀m,a.dep <= m -> (s6 m).f_typing_infer a.e env=some (d,0):=by
 refine AE.ind fun a ih hok d hd m hm=> ?_
 obtain ⟨m,rfl⟩: ∃k,m=k+1:=⟨m-1,by have:=b60 a;omega⟩
 have hR: ∀b∈a.args,∀d,b.inf env=some d -> (s6 m).f_typing_infer b.e env=some (d,0):=fun b hb d hd=>ih b hb (hok.arg hb) d hd m (by have:=b0j hb;omega)
 show a2l (s6 m) a.e env=some (d,0)
 have hlf:=hok.leaf
 cases a with
 | lit v d2=>injection hd with hd;subst hd;rfl
 | nm s=>
   have hd:okD (b1a s env)=some d:=hd
   show a2l (s6 m) ⟨2,⟨0,0⟩,0,s,[]⟩ env=some (d,0)
   unfold a2l
   simp only [show ((2:Int)==1)=false from rfl,show ((2:Int)==3)=false from rfl,Bool.false_eq_true,if_false,BEq.rfl,if_true,e8v hd,Option.bind_some,Bool.not_true]
 | best k=>injection hd with hd;subst hd;rfl
 | bin op x y=>
   obtain ⟨dx,hx,hd⟩:=Option.bind_eq_some_iff.1 hd
   obtain ⟨dy,hy,hd⟩:=Option.bind_eq_some_iff.1 hd
   show a2l (s6 m) ⟨op,⟨0,0⟩,0,a1y,[x.e,y.e]⟩ env=some (d,0)
   unfold a2l
   have o1:(op==1)=false:=by have:=hlf.1;simp;omega
   have o2:(op==2)=false:=by have:=hlf.1;simp;omega
   have o3:(op==3)=false:=by have:=hlf.1;simp;omega
   simp only [o1,o2,o3,Bool.false_eq_true,if_false]
   refine c5t _ env _ [x,y] [dx,dy] rfl (by simp) rfl hd fun i hi=> ?_
   have hi:i<2:=hi
   match i,hi with
   | 0,_=>exact hR x (by simp [AE.args]) dx hx
   | 1,_=>exact hR y (by simp [AE.args]) dy hy
 | ite x y z=>
   obtain ⟨dx,hx,hd⟩:=Option.bind_eq_some_iff.1 hd
   obtain ⟨dy,hy,hd⟩:=Option.bind_eq_some_iff.1 hd
   obtain ⟨dz,hz,hd⟩:=Option.bind_eq_some_iff.1 hd
   show a2l (s6 m) ⟨21,⟨0,0⟩,0,a1y,[x.e,y.e,z.e]⟩ env=some (d,0)
   unfold a2l
   simp only [show ((21:Int)==1)=false from rfl,show ((21:Int)==2)=false from rfl,show ((21:Int)==3)=false from rfl,Bool.false_eq_true,if_false]
   refine c5t _ env _ [x,y,z] [dx,dy,dz] rfl (by simp) rfl hd fun i hi=> ?_
   have hi:i<3:=hi
   match i,hi with
   | 0,_=>exact hR x (by simp [AE.args]) dx hx
   | 1,_=>exact hR y (by simp [AE.args]) dy hy
   | 2,_=>exact hR z (by simp [AE.args]) dz hz
def c2f (env:List Binding):Prop:=env.length <= 1000 /\ ∀b∈env,1 <= b.Dim /\ b.Dim <= 4
theorem c96 {env:List Binding} (h:c2f env):n9 env=some false:=by
 unfold n9 w6
 have:f7 FU (n8 env) ((0:Nat):Int)=some (-1):=by
  refine k9 (fun i=>(i:Int)) env.length ?_ ?_ (by have:=a1o;have:=h.1;omega)
  ·intro i hi r
   unfold n8 b2y
   have hb:=h.2 _ (List.getElem_mem hi)
   have e1:decide (env[i].Dim<1)=false:=by simp;omega
   have e2:decide (env[i].Dim>4)=false:=by simp;omega
   have:=h.1
   simp only [b3u hi,if_true,a0c hi,Option.bind_some,e1,e2,Bool.false_eq_true,if_false,a4f (show i <= 1000000 by omega)]
  ·intro r
   unfold n8
   simp only [a4u,Bool.false_eq_true,if_false]
 rw [show (0:Int)=((0:Nat):Int) from rfl,this]
 rfl
theorem c8i {env:List Binding} (henv:c2f env) {a:AE} (h:a.ok) (hd:a.dep <= 10) (hs:a.sz <= 60) {d:Int} (hi:a.inf env=some d):b0d a.e env=some (d,0):=by
 unfold b0d
 have hf:=a1o
 simp only [b5x h hd hs,Option.bind_some,Bool.not_true,Bool.false_eq_true,if_false,c96 henv,show c1k a.e env=some (d,0) from e3m env a h d hi FU (by omega)]
theorem g05 {env:List Binding} (henv:c2f env) {a:AE} (h:a.ok) (hd:a.dep <= 10) (hs:a.sz <= 60) {d:Int} (hi:a.inf env=some d):b25 a.e env d=some 0:=by
 unfold b25
 simp only [c8i henv h hd hs hi,Option.bind_some,show ((0:Int) != 0)=false from rfl,Bool.false_eq_true,if_false,bne_self_eq_false]
end Go.PL
namespace Go.PL
open Go Go.SX
def okE (o:Option (Int×Int)):Option Int:=o.bind fun x=>if x.2=0 then some x.1 else none
theorem f6s {o:Option (Int×Int)} {d:Int} (h:okE o=some d):o=some (d,0):=by
 cases o with
 | none=>cases h
 | some x=>
   obtain ⟨y,b⟩:=x
   have h:(if b=0 then some y else none)=some d:=h
   split at h
   ·rename_i hb;cases h;rw [hb]
   ·cases h
def nam5 (s:ByteArray) (env:List Binding):Option Int:=okE (y2 ⟨fun _ _=>none⟩ ⟨2,⟨0,0⟩,0,s,[]⟩ env)
theorem l1_R (R R':Ring_pensionref5_infer) (env:List Binding):a7d R env=a7d R' env:=rfl
theorem e9s {s:ByteArray} {env:List Binding} {d:Int} (h:nam5 s env=some d) (R:Ring_pensionref5_infer):y2 R ⟨2,⟨0,0⟩,0,s,[]⟩ env=some (d,0):=by
 have h:=f6s h
 unfold y2 at h⊢
 simp only [show ((2:Int)==1)=false from rfl,show ((2:Int)==3)=false from rfl,Bool.false_eq_true,if_false,BEq.rfl,if_true] at h⊢
 rw [l1_R R ⟨fun _ _=>none⟩]
 exact h
def okZ (o:Option Int):Option Int:=o.bind fun x=>if (x==0)=true then none else some x
theorem f5t {o:Option Int} {d:Int} (h:okZ o=some d):o=some d /\ (d==0)=false:=by
 cases o with
 | none=>cases h
 | some x=>
   have h:(if (x==0)=true then none else some x)=some d:=h
   split at h
   ·cases h
   ·rename_i hn;cases h;exact ⟨rfl,by simpa using hn⟩
def f7v (op:Int) (ds:List Int):Option Int:=okZ (a63 op ds)
theorem e2k {op:Int} {ds:List Int} {d:Int} (h:f7v op ds=some d):a63 op ds=some d /\ (d==0)=false:=f5t h
def AE.inf5 (env:List Binding):AE -> Option Int
 | .lit _ d=>some d
 | .best _=>some 4
 | .nm s=>nam5 s env
 | .bin op a b=>(a.inf5 env).bind fun x=>(b.inf5 env).bind fun y=>f7v op [x,y]
 | .ite a b c=>(a.inf5 env).bind fun x=>(b.inf5 env).bind fun y=>(c.inf5 env).bind fun z=>f7v 21 [x,y,z]
theorem c38 (R:Ring_pensionref5_infer) (env:List Binding) (e:Expr) (L:List AE) (ds:List Int) (he:e.Args=L.map AE.e) (hl:L.length <= 3) (hds:ds.length=L.length) {d:Int} (ht:f7v e.Op ds=some d)
  (hR: ∀i (h:i<L.length),R.f_pensionref5_infer L[i].e env=some (ds[i]'(by omega),0)):f7 FU (a4h R env) (e,[],0)=some (d,0):=by
 refine k9 (fun i=>(e,ds.take i,(i:Int))) L.length ?_ ?_ (by have:=a1o;omega)
 ·intro i hi r
  unfold a4h
  have hlen:e.Args.length=L.length:=by rw [he];simp
  have hg:i7 e.Args (i:Int)=some (L[i].e):=by rw [a0c (by omega)];simp [he]
  simp only [hlen,b3u hi,if_true,hg,Option.bind_some,hR i hi,show ((0:Int) != 0)=false from rfl,Bool.false_eq_true,if_false,a8o (show (ds.take i).length <= 1000 by simp;omega) (show 8 <= 1000 by decide),a4f (show i <= 1000000 by omega)]
  rw [List.take_succ_eq_append_getElem (by omega)]
 ·intro r
  unfold a4h
  have hlen:e.Args.length=L.length:=by rw [he];simp
  simp only [hlen,a4u,Bool.false_eq_true,if_false]
  rw [show ds.take L.length=ds by rw [<- hds,List.take_length],(e2k ht).1,Option.bind_some,if_neg (by rw [(e2k ht).2];exact Bool.false_ne_true)]
theorem e31 (env:List Binding): ∀(a:AE),a.ok -> ∀d,a.inf5 env=some d -> ∀m,a.dep <= m -> (l9 m).f_pensionref5_infer a.e env=some (d,0):=by
 refine AE.ind fun a ih hok d hd m hm=> ?_
 obtain ⟨m,rfl⟩: ∃k,m=k+1:=⟨m-1,by have:=b60 a;omega⟩
 have hR: ∀b∈a.args,∀d,b.inf5 env=some d -> (l9 m).f_pensionref5_infer b.e env=some (d,0):=fun b hb d hd=>ih b hb (hok.arg hb) d hd m (by have:=b0j hb;omega)
 show y2 (l9 m) a.e env=some (d,0)
 have hlf:=hok.leaf
 cases a with
 | lit v d2=>injection hd with hd;subst hd;rfl
 | nm s=>exact e9s hd _
 | best k=>injection hd with hd;subst hd;rfl
 | bin op x y=>
   obtain ⟨dx,hx,hd⟩:=Option.bind_eq_some_iff.1 hd
   obtain ⟨dy,hy,hd⟩:=Option.bind_eq_some_iff.1 hd
   show y2 (l9 m) ⟨op,⟨0,0⟩,0,a1y,[x.e,y.e]⟩ env=some (d,0)
   unfold y2
   have o1:(op==1)=false:=by have:=hlf.1;simp;omega
   have o2:(op==2)=false:=by have:=hlf.1;simp;omega
   have o3:(op==3)=false:=by have:=hlf.1;simp;omega
   simp only [o1,o2,o3,Bool.false_eq_true,if_false]
   refine c38 _ env _ [x,y] [dx,dy] rfl (by simp) rfl hd fun i hi=> ?_
   have hi:i<2:=hi
   match i,hi with
   | 0,_=>exact hR x (by simp [AE.args]) dx hx
   | 1,_=>exact hR y (by simp [AE.args]) dy hy
 | ite x y z=>
   obtain ⟨dx,hx,hd⟩:=Option.bind_eq_some_iff.1 hd
   obtain ⟨dy,hy,hd⟩:=Option.bind_eq_some_iff.1 hd
   obtain ⟨dz,hz,hd⟩:=Option.bind_eq_some_iff.1 hd
   show y2 (l9 m) ⟨21,⟨0,0⟩,0,a1y,[x.e,y.e,z.e]⟩ env=some (d,0)
   unfold y2
   simp only [show ((21:Int)==1)=false from rfl,show ((21:Int)==2)=false from rfl,show ((21:Int)==3)=false from rfl,Bool.false_eq_true,if_false]
   refine c38 _ env _ [x,y,z] [dx,dy,dz] rfl (by simp) rfl hd fun i hi=> ?_
   have hi:i<3:=hi
   match i,hi with
   | 0,_=>exact hR x (by simp [AE.args]) dx hx
   | 1,_=>exact hR y (by simp [AE.args]) dy hy
   | 2,_=>exact hR z (by simp [AE.args]) dz hz
theorem c3u {env:List Binding} (henv:c2f env) {a:AE} (h:a.ok) (hd:a.dep <= 10) (hs:a.sz <= 60) {d:Int} (hi:a.inf5 env=some d):a4k a.e env=some (d,0):=by
 unfold a4k
 have hf:=a1o
 simp only [c20 h hd hs,Option.bind_some,Bool.not_true,Bool.false_eq_true,if_false]
 refine k9 (fun i=>(a.e,(i:Int))) env.length ?_ ?_ (by have:=henv.1;omega)
 ·intro i hi r
  unfold a7c
  have hb:=henv.2 _ (List.getElem_mem hi)
  have e1:decide (env[i].Dim<1)=false:=by simp;omega
  have e2:decide (env[i].Dim>4)=false:=by simp;omega
  have:=henv.1
  simp only [b3u hi,if_true,a0c hi,Option.bind_some,e1,e2,Bool.false_eq_true,if_false,a4f (show i <= 1000000 by omega)]
 ·intro r
  unfold a7c
  simp only [a4u,Bool.false_eq_true,if_false,show b3p a.e env=some (d,0) from e31 env a h d hi FU (by omega),Option.bind_some]
theorem e58 {env:List Binding} (henv:c2f env) {a:AE} (h:a.ok) (hd:a.dep <= 10) (hs:a.sz <= 60) {d:Int} (hi:a.inf5 env=some d):a2f a.e env d=some 0:=by
 unfold a2f
 simp only [c3u henv h hd hs hi,Option.bind_some,BEq.rfl,if_true,bne_self_eq_false,Bool.false_eq_true,if_false]
end Go.PL
namespace Go.PL
open Go Go.SX
def nz (o:Option ByteArray):Bool:=match o with | some w=> !(w.toList==a1y.toList) | none=>false
theorem d22 {o:Option ByteArray} (h:nz o=true): ∃w,o=some w /\ (w.toList==a1y.toList)=false:=by
 cases o with
 | none=>cases h
 | some w=>exact ⟨w,rfl,by simpa [nz] using h⟩
def e9a:List syntax_entry:=(b2o).getD []
def c9g:List syntax_entry:=(a6g).getD []
def d4d:List syntax_entry:=(b2s).getD []
theorem e4q:b2o=some e9a:=rfl
theorem c47:a6g=some c9g:=rfl
theorem e5b:b2s=some d4d:=rfl
structure CrOK (c:Credit):Prop where
 w5:nz (a2p c.Kind 1)=true
 wS:nz (a0y e9a c.Kind)=true
 l0:0 <= c.Limit
 l1:c.Limit <= 73049
structure IxOK (x:Index):Prop where
 y0:1900 <= x.Year
 y1:x.Year <= 2099
 n:1 <= x.Factor.Num
 f5: ∃s,p4 x.Factor 2=some (s,true)
 fS: ∃s,a02 x.Factor 2=some (s,true)
structure ExOK (env:List Binding) (e:Expr) (d:Int):Prop where
 ex: ∃a:AE,e=a.e /\ a.ok /\ a.dep <= 10 /\ a.sz <= 60 /\ a.inf env=some d /\ a.inf5 env=some d
structure BnOK (b:Int):Prop where
 w5:nz (a2p b 2)=true
 wS:nz (a0y c9g b)=true
structure VOK (env:List Binding) (v:Version):Prop where
 f0:0 <= v.From
 f1:v.From <= 73048
 m0:1 <= v.Rounding.Mode
 m1:v.Rounding.Mode <= 4
 mS:nz (a0y d4d v.Rounding.Mode)=true
 u0:1 <= v.Rounding.Unit
 u1:v.Rounding.Unit <= 100000
 cl:v.Credits.length <= 6
 sl:v.Series.length <= 20
 ll:v.Lets.length <= 10
 gl:v.Grants.length <= 5
 rl:v.Reduces.length <= 5
 cr: ∀c∈v.Credits,CrOK c
 crp:v.Credits.Pairwise fun a b=>a.Kind≠b.Kind
 ix: ∀x∈v.Series,IxOK x
 ixp:v.Series.Pairwise fun a b=>a.Year<b.Year
 lt: ∀x∈v.Lets,p7 x.Name=some true /\ a45 x.Name=some true /\ s4 x.Body=some true /\ a06 x.Body=some true
 ls:b1l v.Lets=some (env,0)
 l5:a5b v.Lets=some (env,0)
 en:c2f env
 gr: ∀g∈v.Grants,BnOK g.Benefit /\ ExOK env g.If 1 /\ ExOK env g.Pay 4
 grp:v.Grants.Pairwise fun a b=>a.Benefit≠b.Benefit
 rd: ∀r∈v.Reduces,BnOK r.Benefit /\ ExOK env r.By 2
 rdp:v.Reduces.Pairwise fun a b=>a.Benefit≠b.Benefit
theorem ExOK.v5 {env:List Binding} {e:Expr} {d:Int} (h:ExOK env e d):s4 e=some true:=by
 obtain ⟨a,rfl,h1,h2,h3,_⟩:=h.ex
 exact c20 h1 h2 h3
theorem ExOK.vS {env:List Binding} {e:Expr} {d:Int} (h:ExOK env e d):a06 e=some true:=by
 obtain ⟨a,rfl,h1,h2,h3,_⟩:=h.ex
 exact b5x h1 h2 h3
theorem ExOK.of {env:List Binding} (hen:c2f env) {e:Expr} {d:Int} (h:ExOK env e d):b25 e env d=some 0:=by
 obtain ⟨a,rfl,h1,h2,h3,h4,_⟩:=h.ex
 exact g05 hen h1 h2 h3 h4
theorem ExOK.needs {env:List Binding} (hen:c2f env) {e:Expr} {d:Int} (h:ExOK env e d):a2f e env d=some 0:=by
 obtain ⟨a,rfl,h1,h2,h3,_,h4⟩:=h.ex
 exact e58 hen h1 h2 h3 h4
section
variable {env:List Binding} {v:Version}
theorem e6e (h:VOK env v):a2q v=some true:=by
 have hf:=a1o
 have l5:f7 FU a1g (v,0)=some true:=by
  refine k9 (fun i=>(v,(i:Int))) v.Reduces.length ?_ ?_ (by have:=h.rl;omega)
  ·intro i hi r
   have hc:=h.rd _ (List.getElem_mem hi)
   obtain ⟨w,h1,h2⟩:=d22 hc.1.w5
   have:=h.rl
   unfold a1g
   simp only [b3u hi,if_true,a0c hi,Option.bind_some,h1,h2,hc.2.v5,Bool.not_true,Bool.false_eq_true,if_false,a4f (show i <= 1000000 by omega)]
  ·intro r
   unfold a1g
   simp only [a4u,Bool.false_eq_true,if_false]
 have l4:f7 FU a1f (v,0)=some true:=by
  refine k9 (fun i=>(v,(i:Int))) v.Grants.length ?_ ?_ (by have:=h.gl;omega)
  ·intro i hi r
   have hc:=h.gr _ (List.getElem_mem hi)
   obtain ⟨w,h1,h2⟩:=d22 hc.1.w5
   have:=h.gl
   unfold a1f
   simp only [b3u hi,if_true,a0c hi,Option.bind_some,h1,h2,hc.2.1.v5,hc.2.2.v5,Bool.not_true,Bool.false_eq_true,if_false,a4f (show i <= 1000000 by omega)]
  ·intro r
   unfold a1f
   simp only [a4u,Bool.false_eq_true,if_false]
   exact l5
 have l3:f7 FU a1e (v,0)=some true:=by
  refine k9 (fun i=>(v,(i:Int))) v.Lets.length ?_ ?_ (by have:=h.ll;omega)
  ·intro i hi r
   have hc:=h.lt _ (List.getElem_mem hi)
   have:=h.ll
   unfold a1e
   simp only [b3u hi,if_true,a0c hi,Option.bind_some,hc.1,hc.2.2.1,Bool.not_true,Bool.false_eq_true,if_false,a4f (show i <= 1000000 by omega)]
  ·intro r
   unfold a1e
   simp only [a4u,Bool.false_eq_true,if_false]
   exact l4
 have l2:f7 FU a1k (v,0)=some true:=by
  refine k9 (fun i=>(v,(i:Int))) v.Series.length ?_ ?_ (by have:=h.sl;omega)
  ·intro i hi r
   have hc:=h.ix _ (List.getElem_mem hi)
   obtain ⟨s,hs⟩:=hc.f5
   have:=h.sl
   have e1:decide (v.Series[i].Year<1900)=false:=by have:=hc.y0;simp;omega
   have e2:decide (v.Series[i].Year>2099)=false:=by have:=hc.y1;simp;omega
   have e3:decide (v.Series[i].Factor.Num<1)=false:=by have:=hc.n;simp;omega
   unfold a1k
   simp only [b3u hi,if_true,a0c hi,Option.bind_some,hs,e1,e2,e3,Bool.not_true,Bool.false_eq_true,if_false,a4f (show i <= 1000000 by omega)]
  ·intro r
   unfold a1k
   simp only [a4u,Bool.false_eq_true,if_false]
   exact l3
 have l1:f7 FU a1p (v,0)=some true:=by
  refine k9 (fun i=>(v,(i:Int))) v.Credits.length ?_ ?_ (by have:=h.cl;omega)
  ·intro i hi r
   have hc:=h.cr _ (List.getElem_mem hi)
   obtain ⟨w,h1,h2⟩:=d22 hc.w5
   have:=h.cl
   have e1:decide (v.Credits[i].Limit<0)=false:=by have:=hc.l0;simp;omega
   have e2:decide (v.Credits[i].Limit>73049)=false:=by have:=hc.l1;simp;omega
   unfold a1p
   simp only [b3u hi,if_true,a0c hi,Option.bind_some,h1,h2,e1,e2,Bool.not_true,Bool.false_eq_true,if_false,a4f (show i <= 1000000 by omega)]
  ·intro r
   unfold a1p
   simp only [a4u,Bool.false_eq_true,if_false]
   exact l2
 unfold a2q a08 a48
 have d1:decide (v.From >= 0)=true:=by have:=h.f0;simp;omega
 have d2:decide (v.From <= 73048)=true:=by have:=h.f1;simp;omega
 have d3:decide (v.Rounding.Mode >= 1)=true:=by have:=h.m0;simp;omega
 have d4:decide (v.Rounding.Mode <= 4)=true:=by have:=h.m1;simp;omega
 have d5:decide (v.Rounding.Unit >= 1)=true:=by have:=h.u0;simp;omega
 have d6:decide (v.Rounding.Unit <= 100000)=true:=by have:=h.u1;simp;omega
 have n1:decide ((v.Credits.length:Int)>6)=false:=by have:=h.cl;simp;omega
 have n2:decide ((v.Series.length:Int)>20)=false:=by have:=h.sl;simp;omega
 have n3:decide ((v.Lets.length:Int)>10)=false:=by have:=h.ll;simp;omega
 have n4:decide ((v.Grants.length:Int)>5)=false:=by have:=h.gl;simp;omega
 have n5:decide ((v.Reduces.length:Int)>5)=false:=by have:=h.rl;simp;omega
 simp only [d1,d2,d3,d4,d5,d6,n1,n2,n3,n4,n5,if_true,Option.bind_some,Bool.not_true,Bool.false_eq_true,if_false]
 exact l1
theorem e3r (h:VOK env v):a52 v=some true:=by
 have hf:=a1o
 have l5:g9 a5p v=some true:=by
  unfold g9 a5p
  refine k9 (fun i=>(i:Int)) v.Reduces.length ?_ ?_ (by have:=h.rl;omega)
  ·intro i hi r
   have hc:=h.rd _ (List.getElem_mem hi)
   obtain ⟨w,h1,h2⟩:=d22 hc.1.wS
   have:=h.rl
   unfold a5v
   simp only [b3u hi,if_true,a0c hi,Option.bind_some,c47,h1,h2,hc.2.vS,Bool.not_true,Bool.false_eq_true,if_false,a4f (show i <= 1000000 by omega)]
  ·intro r
   unfold a5v
   simp only [a4u,Bool.false_eq_true,if_false]
 have l4:g9 a5m v=some true:=by
  unfold g9 a5m
  refine k9 (fun i=>(v,(i:Int))) v.Grants.length ?_ ?_ (by have:=h.gl;omega)
  ·intro i hi r
   have hc:=h.gr _ (List.getElem_mem hi)
   obtain ⟨w,h1,h2⟩:=d22 hc.1.wS
   have:=h.gl
   unfold a5l
   simp only [b3u hi,if_true,a0c hi,Option.bind_some,c47,h1,h2,hc.2.1.vS,hc.2.2.vS,Bool.not_true,Bool.false_eq_true,if_false,a4f (show i <= 1000000 by omega)]
  ·intro r
   unfold a5l
   simp only [a4u,Bool.false_eq_true,if_false]
   exact l5
 have l3:g9 a5r v=some true:=by
  unfold g9 a5r
  refine k9 (fun i=>(v,(i:Int))) v.Lets.length ?_ ?_ (by have:=h.ll;omega)
  ·intro i hi r
   have hc:=h.lt _ (List.getElem_mem hi)
   have:=h.ll
   unfold a5u
   simp only [b3u hi,if_true,a0c hi,Option.bind_some,hc.2.1,hc.2.2.2,Bool.not_true,Bool.false_eq_true,if_false,a4f (show i <= 1000000 by omega)]
  ·intro r
   unfold a5u
   simp only [a4u,Bool.false_eq_true,if_false]
   exact l4
 have l2:g9 a5q v=some true:=by
  unfold g9 a5q
  refine k9 (fun i=>(v,(i:Int))) v.Series.length ?_ ?_ (by have:=h.sl;omega)
  ·intro i hi r
   have hc:=h.ix _ (List.getElem_mem hi)
   obtain ⟨s,hs⟩:=hc.fS
   have:=h.sl
   have e1:decide (v.Series[i].Year >= 1900)=true:=by have:=hc.y0;simp;omega
   have e2:decide (v.Series[i].Year <= 2099)=true:=by have:=hc.y1;simp;omega
   have e3:decide (v.Series[i].Factor.Num>0)=true:=by have:=hc.n;simp;omega
   unfold a5o a9i b0n
   simp only [b3u hi,if_true,a0c hi,Option.bind_some,hs,e1,e2,e3,Bool.not_true,Bool.false_eq_true,if_false,a4f (show i <= 1000000 by omega)]
  ·intro r
   unfold a5o
   simp only [a4u,Bool.false_eq_true,if_false]
   exact l3
 have l1:f7 FU (a3m v) (v,0)=some true:=by
  refine k9 (fun i=>(v,(i:Int))) v.Credits.length ?_ ?_ (by have:=h.cl;omega)
  ·intro i hi r
   have hc:=h.cr _ (List.getElem_mem hi)
   obtain ⟨w,h1,h2⟩:=d22 hc.wS
   have:=h.cl
   have e1:decide (v.Credits[i].Limit<0)=false:=by have:=hc.l0;simp;omega
   have e2:decide (v.Credits[i].Limit>73049)=false:=by have:=hc.l1;simp;omega
   unfold a3m
   simp only [b3u hi,if_true,a0c hi,Option.bind_some,e4q,h1,h2,e1,e2,Bool.not_true,Bool.false_eq_true,if_false,a4f (show i <= 1000000 by omega)]
  ·intro r
   unfold a3m
   simp only [a4u,Bool.false_eq_true,if_false]
   exact l2
 unfold a52 a4c
 have d1:decide (v.From >= 0)=true:=by have:=h.f0;simp;omega
 have d2:decide (v.From <= 73048)=true:=by have:=h.f1;simp;omega
 have d5:decide (v.Rounding.Unit<1)=false:=by have:=h.u0;simp;omega
 have d6:decide (v.Rounding.Unit>100000)=false:=by have:=h.u1;simp;omega
 have n1:decide ((v.Credits.length:Int)>6)=false:=by have:=h.cl;simp;omega
 have n2:decide ((v.Series.length:Int)>20)=false:=by have:=h.sl;simp;omega
 have n3:decide ((v.Lets.length:Int)>10)=false:=by have:=h.ll;simp;omega
 have n4:decide ((v.Grants.length:Int)>5)=false:=by have:=h.gl;simp;omega
 have n5:decide ((v.Reduces.length:Int)>5)=false:=by have:=h.rl;simp;omega
 obtain ⟨w,h1,h2⟩:=d22 h.mS
 simp only [d1,d2,d5,d6,e5b,h1,h2,if_true,Option.bind_some,Bool.not_true,Bool.false_eq_true,if_false]
 unfold g9 a5n
 simp only [n1,n2,n3,n4,n5,if_true,Option.bind_some,Bool.not_true,Bool.false_eq_true,if_false]
 exact l1
theorem c3t {l:List Credit} {c:Credit} (hl:l.length <= 1000) (h: ∀x∈l,x.Kind≠c.Kind):m7 l c=some false:=by
 unfold m7 u6
 have:f7 FU (m4 l c) ((0:Nat):Int)=some (-1):=by
  refine k9 (fun i=>(i:Int)) l.length ?_ ?_ (by have:=a1o;omega)
  ·intro i hi r
   have hb:=h _ (List.getElem_mem hi)
   have e1:(l[i].Kind==c.Kind)=false:=by simpa using hb
   unfold m4 b0k
   simp only [b3u hi,if_true,a0c hi,Option.bind_some,e1,Bool.false_eq_true,if_false,a4f (show i <= 1000000 by omega)]
  ·intro r
   unfold m4
   simp only [a4u,Bool.false_eq_true,if_false]
 rw [show (0:Int)=((0:Nat):Int) from rfl,this]
 rfl
theorem c4v {l:List Grant} {c:Grant} (hl:l.length <= 1000) (h: ∀x∈l,x.Benefit≠c.Benefit):o4 l c=some false:=by
 unfold o4 w8
 have:f7 FU (m8 l c) ((0:Nat):Int)=some (-1):=by
  refine k9 (fun i=>(i:Int)) l.length ?_ ?_ (by have:=a1o;omega)
  ·intro i hi r
   have hb:=h _ (List.getElem_mem hi)
   have e1:(l[i].Benefit==c.Benefit)=false:=by simpa using hb
   unfold m8 b0i
   simp only [b3u hi,if_true,a0c hi,Option.bind_some,e1,Bool.false_eq_true,if_false,a4f (show i <= 1000000 by omega)]
  ·intro r
   unfold m8
   simp only [a4u,Bool.false_eq_true,if_false]
 rw [show (0:Int)=((0:Nat):Int) from rfl,this]
 rfl
theorem c4j {l:List Reduce} {c:Reduce} (hl:l.length <= 1000) (h: ∀x∈l,x.Benefit≠c.Benefit):m5 l c=some false:=by
 unfold m5 u7
 have:f7 FU (m6 l c) ((0:Nat):Int)=some (-1):=by
  refine k9 (fun i=>(i:Int)) l.length ?_ ?_ (by have:=a1o;omega)
  ·intro i hi r
   have hb:=h _ (List.getElem_mem hi)
   have e1:(l[i].Benefit==c.Benefit)=false:=by simpa using hb
   unfold m6 b0f
   simp only [b3u hi,if_true,a0c hi,Option.bind_some,e1,Bool.false_eq_true,if_false,a4f (show i <= 1000000 by omega)]
  ·intro r
   unfold m6
   simp only [a4u,Bool.false_eq_true,if_false]
 rw [show (0:Int)=((0:Nat):Int) from rfl,this]
 rfl
theorem d38 {α:Type} {l:List α} {i:Nat} (h:i<l.length):a3q l 0 (i:Int)=some (l.take i):=by
 rw [e30 (Int.le_refl _) (by omega) (by omega)]
 simp
theorem c2x {α:Type} {R:α -> α -> Prop} {l:List α} (h:l.Pairwise R) {i:Nat} (hi:i<l.length): ∀x∈l.take i,R x l[i]:=by
 intro x hx
 obtain ⟨j,hj,rfl⟩:=List.getElem_of_mem hx
 have hj2:j<i:=by simp at hj;omega
 rw [List.getElem_take]
 exact List.pairwise_iff_getElem.1 h j i (by omega) hi hj2
theorem e5s (h:VOK env v):a9z v=some 0:=by
 have hf:=a1o
 have l4: ∀v12:Version×List Binding×Int,v12.1=v -> f7 FU (a6o v12) (v,env,0)=some 0:=by
  intro v12 hv
  refine k9 (fun i=>(v,env,(i:Int))) v.Reduces.length ?_ ?_ (by have:=h.rl;omega)
  ·intro i hi r
   have hc:=h.rd _ (List.getElem_mem hi)
   have:=h.rl
   unfold a6o
   simp only [hv,b3u hi,if_true,a0c hi,Option.bind_some,d38 hi,c4j (l:=v.Reduces.take i) (by simp;omega) (c2x h.rdp hi),hc.2.of h.en,show ((0:Int) != 0)=false from rfl,Bool.false_eq_true,if_false,a4f (show i <= 1000000 by omega)]
  ·intro r
   unfold a6o
   simp only [hv,a4u,Bool.false_eq_true,if_false]
 have l3: ∀v12:Version×List Binding×Int,v12.1=v -> f7 FU (a6q v12) (v,env,0)=some 0:=by
  intro v12 hv
  refine k9 (fun i=>(v,env,(i:Int))) v.Grants.length ?_ ?_ (by have:=h.gl;omega)
  ·intro i hi r
   have hc:=h.gr _ (List.getElem_mem hi)
   have:=h.gl
   unfold a6q
   simp only [hv,b3u hi,if_true,a0c hi,Option.bind_some,d38 hi,c4v (l:=v.Grants.take i) (by simp;omega) (c2x h.grp hi),hc.2.1.of h.en,hc.2.2.of h.en,show ((0:Int) != 0)=false from rfl,Bool.false_eq_true,if_false,a4f (show i <= 1000000 by omega)]
  ·intro r
   unfold a6q
   simp only [hv,a4u,Bool.false_eq_true,if_false]
   exact l4 _ rfl
 have l2: ∀v12:Version×List Binding×Int,v12.1=v -> f7 FU (a6t v12) (v,env,0)=some 0:=by
  intro v12 hv
  refine k9 (fun i=>(v,env,(i:Int))) v.Series.length ?_ ?_ (by have:=h.sl;omega)
  ·intro i hi r
   have:=h.sl
   unfold a6t
   simp only [hv,b3u hi,if_true,a0c hi,Option.bind_some]
   have e:((if decide ((i:Int)>0) then (i7 v.Series (i64 ((i:Int)-1))).bind fun v10=>some (decide (v.Series[i].Year <= v10.Year)) else some false):Option Bool)=some false:=by
    cases i with
    | zero=>rfl
    | succ i=>
      have hlt:=List.pairwise_iff_getElem.1 h.ixp i (i+1) (by omega) hi (by omega)
      have e1:decide (((i+1:Nat):Int)>0)=true:=by simp
      have e2:i64 (((i+1:Nat):Int)-1)=(i:Int):=by rw [u4 (by omega) (by omega)];omega
      have e3:decide (v.Series[i+1].Year <= v.Series[i].Year)=false:=by simp;omega
      simp only [e1,if_true,e2,a0c (show i<v.Series.length by omega),Option.bind_some,e3]
   rw [e,Option.bind_some]
   simp only [Bool.false_eq_true,if_false,a4f (show i <= 1000000 by omega)]
  ·intro r
   unfold a6t
   simp only [hv,a4u,Bool.false_eq_true,if_false]
   exact l3 _ rfl
 have l1:f7 FU (a6m v) (v,env,0)=some 0:=by
  refine k9 (fun i=>(v,env,(i:Int))) v.Credits.length ?_ ?_ (by have:=h.cl;omega)
  ·intro i hi r
   have:=h.cl
   unfold a6m
   simp only [b3u hi,if_true,a0c hi,Option.bind_some,d38 hi,c3t (l:=v.Credits.take i) (by simp;omega) (c2x h.crp hi),Bool.false_eq_true,if_false,a4f (show i <= 1000000 by omega)]
  ·intro r
   unfold a6m
   simp only [a4u,Bool.false_eq_true,if_false]
   exact l2 _ rfl
 unfold a9z
 simp only [h.ls,Option.bind_some,show ((0:Int) != 0)=false from rfl,Bool.false_eq_true,if_false]
 exact l1
end
structure SOK (x:Statute):Prop where
 n5:p7 x.Name=some true
 nS:a45 x.Name=some true
 c0:1 <= x.Currency
 c1:x.Currency <= 999
 l0:1 <= x.Versions.length
 l1:x.Versions.length <= 6
 vs: ∀v∈x.Versions,∃env,VOK env v
 vp:x.Versions.Pairwise fun a b=>a.From<b.From
theorem e2v {x:Statute} (h:SOK x):a19 x=some true:=by
 have hf:=a1o
 have l1:f7 FU a4i (x,0)=some true:=by
  refine k9 (fun i=>(x,(i:Int))) x.Versions.length ?_ ?_ (by have:=h.l1;omega)
  ·intro i hi r
   obtain ⟨env,hv⟩:=h.vs _ (List.getElem_mem hi)
   have:=h.l1
   unfold a4i
   simp only [b3u hi,if_true,a0c hi,Option.bind_some,e6e hv,Bool.not_true,Bool.false_eq_true,if_false,a4f (show i <= 1000000 by omega)]
  ·intro r
   unfold a4i
   simp only [a4u,Bool.false_eq_true,if_false]
 unfold a19
 have d1:decide (x.Currency<1)=false:=by have:=h.c0;simp;omega
 have d2:decide (x.Currency>999)=false:=by have:=h.c1;simp;omega
 have d3:decide ((x.Versions.length:Int)<1)=false:=by have:=h.l0;simp;omega
 have d4:decide ((x.Versions.length:Int)>6)=false:=by have:=h.l1;simp;omega
 simp only [h.n5,d1,d2,d3,d4,Option.bind_some,Bool.not_true,Bool.false_eq_true,if_false]
 exact l1
theorem e61 {x:Statute} (h:SOK x):b08 x=some true:=by
 have hf:=a1o
 have l1:f7 FU (a8u x) 0=some true:=by
  refine k9 (fun i=>(i:Int)) x.Versions.length ?_ ?_ (by have:=h.l1;omega)
  ·intro i hi r
   obtain ⟨env,hv⟩:=h.vs _ (List.getElem_mem hi)
   have:=h.l1
   unfold a8u
   simp only [b3u hi,if_true,a0c hi,Option.bind_some,e3r hv,Bool.not_true,Bool.false_eq_true,if_false,a4f (show i <= 1000000 by omega)]
  ·intro r
   unfold a8u
   simp only [a4u,Bool.false_eq_true,if_false]
 unfold b08
 have d1:decide (x.Currency<1)=false:=by have:=h.c0;simp;omega
 have d2:decide (x.Currency>999)=false:=by have:=h.c1;simp;omega
 have d3:decide ((x.Versions.length:Int)<1)=false:=by have:=h.l0;simp;omega
 have d4:decide ((x.Versions.length:Int)>6)=false:=by have:=h.l1;simp;omega
 simp only [h.nS,d1,d2,d3,d4,Option.bind_some,Bool.not_true,Bool.false_eq_true,if_false]
 exact l1
theorem e4w {x:Statute} (h:SOK x):a5j x=some (0,0):=by
 have hf:=a1o
 unfold a5j
 simp only [e61 h,Option.bind_some,Bool.not_true,Bool.false_eq_true,if_false]
 refine k9 (fun i=>(x,(i:Int))) x.Versions.length ?_ ?_ (by have:=h.l1;omega)
 ·intro i hi r
  obtain ⟨env,hv⟩:=h.vs _ (List.getElem_mem hi)
  have:=h.l1
  unfold a9p
  simp only [b3u hi,if_true,a0c hi,Option.bind_some]
  have e:((if decide ((i:Int)>0) then (i7 x.Versions (i64 ((i:Int)-1))).bind fun v5=>some (decide (x.Versions[i].From <= v5.From)) else some false):Option Bool)=some false:=by
   cases i with
   | zero=>rfl
   | succ i=>
     have hlt:=List.pairwise_iff_getElem.1 h.vp i (i+1) (by omega) hi (by omega)
     have e1:decide (((i+1:Nat):Int)>0)=true:=by simp
     have e2:i64 (((i+1:Nat):Int)-1)=(i:Int):=by rw [u4 (by omega) (by omega)];omega
     have e3:decide (x.Versions[i+1].From <= x.Versions[i].From)=false:=by simp;omega
     simp only [e1,if_true,e2,a0c (show i<x.Versions.length by omega),Option.bind_some,e3]
  rw [e,Option.bind_some]
  simp only [Bool.false_eq_true,if_false,e5s hv,Option.bind_some,show ((0:Int) != 0)=false from rfl,a4f (show i <= 1000000 by omega)]
 ·intro r
  unfold a9p
  simp only [a4u,Bool.false_eq_true,if_false]
end Go.PL
namespace Go.PL
open Go Go.SX
structure NumX (w:List UInt8) (v:Fraction) (d:Int):Prop where
 st: ∃c r,w=c::r /\ c82 (iv c)=true /\ d6g (iv c)=false
 rc: ∀x∈w,c9a true x=true
 pt: ∃x y,a07 ⟨w.toArray⟩=some (x,y,d,true)
 de:s7 ⟨w.toArray⟩=some (v,d,true)
 f5: ∃s,p4 v d=some (s,true)
 fS: ∃s,a02 v d=some (s,true)
theorem f0w {c:UInt8} (h:c82 (iv c)=true):c9a true c=true:=by unfold c9a;rw [h];simp
theorem NumX.whole {n:Nat} (hn:n <= 100000) {s:List UInt8} {d:Int} (hs:f5p s d):NumX (a7i 20 n++s) ⟨(n:Int),1⟩ d:=by
 have hd:=e2i 20 n (Nat.lt_of_le_of_lt hn (by decide))
 have hdl:=b8x 20 n 5 (Nat.lt_of_le_of_lt hn (by decide))
 have hd2:2 <= d /\ d <= 4:=by rcases hs with ⟨_,rfl⟩ | ⟨_,rfl⟩ | ⟨_,rfl⟩<;>decide
 refine ⟨?_,?_,⟨_,_,c3r hd (by omega) hs⟩,d8y hd (by omega) hs,d62 (by omega) (by omega) hd2.1 hd2.2,d6y (by omega) hd2.1 hd2.2⟩
 ·cases hb:a7i 20 n with
  | nil=>exact absurd hb hd.ne
  | cons c r=>
    have hc:=hd.dig c (by rw [hb];simp)
    have hr:=b5u hc
    exact ⟨c,r++s,rfl,hc,by unfold d6g;simp;omega⟩
 ·intro x hx
  rcases List.mem_append.1 hx with hx | hx
  ·exact f0w (hd.dig x hx)
  ·rcases hs with ⟨rfl,_⟩ | ⟨rfl,_⟩ | ⟨rfl,_⟩
   ·cases hx
   ·rw [List.mem_singleton] at hx;subst hx;rfl
   ·rw [List.mem_singleton] at hx;subst hx;rfl
def f8e (o:Option (ByteArray×Bool)):Bool:=match o with | some (_,b)=>b | none=>false
theorem e2b {o:Option (ByteArray×Bool)} (h:f8e o=true): ∃s,o=some (s,true):=by
 cases o with
 | none=>cases h
 | some x=>obtain ⟨s,b⟩:=x;cases b with | false=>cases h | true=>exact ⟨s,rfl⟩
def okP (w:List UInt8) (d:Int):Bool:=match a07 ⟨w.toArray⟩ with | some (_,_,d2,b)=>b&&d2==d | none=>false
theorem f6d {w:List UInt8} {d:Int} (h:okP w d=true): ∃x y,a07 ⟨w.toArray⟩=some (x,y,d,true):=by
 unfold okP at h
 split at h
 ·rename_i x y d2 b he
  simp at h
  obtain ⟨rfl,rfl⟩:=h
  exact ⟨x,y,he⟩
 ·cases h
def okV (w:List UInt8) (d:Int) (v:Fraction):Bool:=match s7 ⟨w.toArray⟩ with | some (u,d2,b)=>b&&(d2==d&&(u.Num==v.Num&&u.Den==v.Den)) | none=>false
theorem f6a {w:List UInt8} {d:Int} {v:Fraction} (h:okV w d v=true):s7 ⟨w.toArray⟩=some (v,d,true):=by
 unfold okV at h
 split at h
 ·rename_i u d2 b he
  simp at h
  obtain ⟨rfl,rfl,h1,h2⟩:=h
  rw [he]
  cases u;cases v
  simp at h1 h2
  subst h1;subst h2
  rfl
 ·cases h
def f0i (w:List UInt8) (v:Fraction) (d:Int):Bool:=(match w with | c::_=>c82 (iv c)&& !d6g (iv c) | []=>false)&&(w.all (c9a true)&&(okP w d&&(okV w d v&&(f8e (p4 v d)&&f8e (a02 v d)))))
theorem NumX.chk {w:List UInt8} {v:Fraction} {d:Int} (h:f0i w v d=true):NumX w v d:=by
 unfold f0i at h
 simp only [Bool.and_eq_true] at h
 obtain ⟨h1,h2,h3,h4,h5,h6⟩:=h
 refine ⟨?_,fun x hx=>List.all_eq_true.1 h2 x hx,f6d h3,f6a h4,e2b h5,e2b h6⟩
 cases w with
 | nil=>cases h1
 | cons c r=>simp at h1;exact ⟨c,r,rfl,h1.1,h1.2⟩
def okA:List Lx -> List UInt8 -> Prop
 | [],_=>True
 | l::ls,rest=>LxOK l.t l.w (blk l.sp++(y8 ls++rest)) /\ okA ls rest
theorem a3a: ∀(a b:List Lx),y8 (a++b)=y8 a++y8 b
 | [],b=>rfl
 | l::a,b=>by
   show l.w++(blk l.sp++y8 (a++b))=l.w++(blk l.sp++y8 a)++y8 b
   rw [a3a a b];simp
theorem a8h: ∀(a b:List Lx) (rest:List UInt8),okA a (y8 b++rest) -> okA b rest -> okA (a++b) rest
 | [],b,rest,_,h=>h
 | l::a,b,rest,h1,h2=>⟨by
    have:=h1.1
    show LxOK l.t l.w (blk l.sp++(y8 (a++b)++rest))
    rw [a3a,List.append_assoc]
    exact this,a8h a b rest h1.2 h2⟩
theorem e87: ∀(a:List Lx),okA a [] -> okL a
 | [],_=>trivial
 | l::a,h=>⟨by have:=h.1;rw [List.append_nil] at this;exact this,e87 a h.2⟩
def bl (s:ByteArray):List UInt8:=s.data.toList
def d2h (s:ByteArray):Bool:=match bl s with | c::w=>d6g (iv c)&&((c::w).all (c9a false)&&decide ((c::w).length <= 12)) | []=>false
theorem LxOK.word {s:ByteArray} {rest:List UInt8} (h:d2h s=true) (hr:b73 (c9a false) rest):LxOK (.w s) (bl s) rest:=by
 obtain ⟨⟨l⟩⟩:=s
 have hb:bl ⟨⟨l⟩⟩=l:=rfl
 unfold d2h at h
 rw [hb] at h⊢
 cases l with
 | nil=>cases h
 | cons c w=>
   simp only [Bool.and_eq_true,decide_eq_true_eq] at h
   exact LxOK.w (c:=c) (w:=w) h.1 (fun x hx=>List.all_eq_true.1 h.2.1 x hx) h.2.2 hr
def c7e (w:List UInt8) (day:Int):Bool:=match w with | c::r=>c==64&&(decide (r.length=10)&&(match a1r ⟨r.toArray⟩ with | some (x,b)=>b&&x==day | none=>false)) | []=>false
theorem LxOK.date {w rest:List UInt8} {day:Int} (h:c7e w day=true):LxOK (.d day) w rest:=by
 cases w with
 | nil=>cases h
 | cons c r=>
   unfold c7e at h
   simp only [Bool.and_eq_true,decide_eq_true_eq,beq_iff_eq] at h
   obtain ⟨rfl,h2,h3⟩:=h
   split at h3
   ·rename_i x b he
    simp at h3
    obtain ⟨rfl,rfl⟩:=h3
    exact LxOK.d h2 he
   ·cases h3
def f3q (s:ByteArray):Bool:=match bl s with
 | [c]=>e2s c
 | [c,c2]=>(c==60&&c2==61)||((c==62&&c2==61)||(c==60&&c2==62))
 | _=>false
def g0g (s:ByteArray):Bool:=match bl s with | [c]=>iv c != 60&&iv c != 62 | _=>false
def nx (p:UInt8 -> Bool) (sp:Bool) (ls:List Lx):Bool:=sp||(match ls with | m::_=>(match m.t with | .s s=>(match bl s with | c::_=> !p c | []=>false) | _=>false) | []=>false)
theorem f22 {p:UInt8 -> Bool} {sp:Bool} {ls:List Lx} {rest:List UInt8} (hp:p 32=false) (h:nx p sp ls=true) (hw: ∀m∈ls,∀s,m.t= .s s -> m.w=bl s):b73 p (blk sp++(y8 ls++rest)):=by
 intro c r he
 cases sp with
 | true=>
   have he:32::(y8 ls++rest)=c::r:=he
   injection he with h1 h2
   subst h1;exact hp
 | false=>
   have he:y8 ls++rest=c::r:=he
   cases ls with
   | nil=>cases h
   | cons m ls=>
     have h:(match m.t with | .s s=>(match bl s with | c::_=> !p c | []=>false) | _=>false)=true:=h
     have hm:=hw m (by simp)
     have he:m.w++(blk m.sp++y8 ls)++rest=c::r:=he
     cases ht:m.t with
     | s s=>
       rw [ht] at h
       have h:(match bl s with | c::_=> !p c | []=>false)=true:=h
       rw [hm s ht] at he
       cases hb:bl s with
       | nil=>rw [hb] at h;cases h
       | cons c2 r2=>
         rw [hb] at h he
         have:c2=c:=by injection he
         subst this
         simpa using h
     | w s=>rw [ht] at h;cases h
     | n v d=>rw [ht] at h;cases h
     | d day=>rw [ht] at h;cases h
def c0b:List Lx -> Bool
 | []=>true
 | l::ls=>(match l.t with
    | .w s=>l.w==bl s&&(d2h s&&nx (c9a false) l.sp ls)
    | .s s=>l.w==bl s&&(f3q s&&(g0g s||nx (fun c=>iv c==61||iv c==62) l.sp ls))
    | .n _ _=>nx (c9a true) l.sp ls
    | .d day=>c7e l.w day)&&c0b ls
def c9q:List Lx -> Prop
 | []=>True
 | l::ls=>(match l.t with | .n v d=>NumX l.w v d | _=>True) /\ c9q ls
theorem c65: ∀(ls:List Lx),c0b ls=true -> ∀m∈ls,∀s,m.t= .s s -> m.w=bl s
 | [],_,m,hm,_,_=>by cases hm
 | l::ls,h,m,hm,s,hs=>by
   unfold c0b at h
   rw [Bool.and_eq_true] at h
   rcases List.mem_cons.1 hm with rfl | hm
   ·rw [hs] at h
    simp only [Bool.and_eq_true,beq_iff_eq] at h
    exact h.1.1
   ·exact c65 ls h.2 m hm s hs
theorem b9u: ∀(ls:List Lx),c0b ls=true -> c9q ls -> ∀rest,okA ls rest
 | [],_,_,_=>trivial
 | l::ls,h,hn,rest=>by
   have hsg:=c65 ls (by unfold c0b at h;rw [Bool.and_eq_true] at h;exact h.2)
   obtain ⟨t,w,sp⟩:=l
   unfold c0b at h
   rw [Bool.and_eq_true] at h
   refine ⟨?_,b9u ls h.2 hn.2 rest⟩
   have h1:=h.1
   show LxOK t w (blk sp++(y8 ls++rest))
   cases t with
   | w s=>
     simp only [Bool.and_eq_true,beq_iff_eq] at h1
     obtain ⟨rfl,h2,h3⟩:=h1
     exact LxOK.word h2 (f22 rfl h3 hsg)
   | s s=>
     simp only [Bool.and_eq_true,beq_iff_eq] at h1
     obtain ⟨rfl,h2,h3⟩:=h1
     have h4:g0g s=true \/ b73 (fun c=>iv c==61||iv c==62) (blk sp++(y8 ls++rest)):=by
      rcases Bool.or_eq_true _ _ |>.mp h3 with h3 | h3
      ·exact .inl h3
      ·exact .inr (f22 (rest:=rest) (p:=fun c=>iv c==61||iv c==62) rfl h3 hsg)
     obtain ⟨⟨l⟩⟩:=s
     have hb:bl ⟨⟨l⟩⟩=l:=rfl
     unfold f3q at h2
     unfold g0g at h4
     rw [hb] at h2 h4⊢
     match l,h2,h4 with
     | [c],h2,h4=>
       refine LxOK.s1 h2 ?_
       rcases h4 with h4 | h4
       ·exact .inl (by simpa using h4)
       ·exact .inr h4
     | [c,c2],h2,_=>
       refine LxOK.s2 ?_
       simp only [Bool.or_eq_true,Bool.and_eq_true,beq_iff_eq] at h2
       rcases h2 with ⟨rfl,rfl⟩ | ⟨rfl,rfl⟩ | ⟨rfl,rfl⟩
       ·exact .inl rfl
       ·exact .inr (.inl rfl)
       ·exact .inr (.inr rfl)
   | n v d=>
     have hx:NumX w v d:=hn.1
     obtain ⟨c,r,rfl,hc1,hc2⟩:=hx.st
     obtain ⟨x,y,hp⟩:=hx.pt
     exact LxOK.n hc1 hc2 hx.rc (f22 rfl h1 hsg) hp hx.de
   | d day=>exact LxOK.date h1
end Go.PL
namespace Go.PL
open Go Go.SX
def W (s:ByteArray):Lx:=⟨.w s,bl s,true⟩
def Wn (s:ByteArray):Lx:=⟨.w s,bl s,false⟩
def Sg (s:ByteArray):Lx:=⟨.s s,bl s,true⟩
def Sh (s:ByteArray):Lx:=⟨.s s,bl s,false⟩
def N (w:List UInt8) (v:Fraction) (d:Int) (sp:Bool):Lx:=⟨.n v d,w,sp⟩
def num (n:Nat) (s:List UInt8) (d:Int) (sp:Bool):Lx:=N (a7i 20 n++s) ⟨(n:Int),1⟩ d sp
def a1x:ByteArray:=⟨#[115,112,101,110,116]⟩
def a6z:ByteArray:=⟨#[112,97,114,116]⟩
def f4f:List UInt8:=[49,57,54,48]
def f5v:List UInt8:=[49,57,56,48]
def f53:List UInt8:=[49,57,57,53]
def n1:List UInt8:=[49]
def n3:List UInt8:=[51]
def n12:List UInt8:=[49,50]
def n60:List UInt8:=[54,48]
def n30d:List UInt8:=[51,48,100]
def p50:List UInt8:=[48,46,53,48]
def p60:List UInt8:=[48,46,54,48]
def p70:List UInt8:=[48,46,55,48]
def p80:List UInt8:=[48,46,56,48]
theorem f8v:NumX f4f ⟨1960,1⟩ 2:= .chk (by kernel_rfl)
theorem g02:NumX f5v ⟨1980,1⟩ 2:= .chk (by kernel_rfl)
theorem g0c:NumX f53 ⟨1995,1⟩ 2:= .chk (by kernel_rfl)
theorem x1:NumX n1 ⟨1,1⟩ 2:= .chk (by kernel_rfl)
theorem x3:NumX n3 ⟨3,1⟩ 2:= .chk (by kernel_rfl)
theorem x12:NumX n12 ⟨12,1⟩ 2:= .chk (by kernel_rfl)
theorem x60:NumX n60 ⟨60,1⟩ 2:= .chk (by kernel_rfl)
theorem x30d:NumX n30d ⟨30,1⟩ 3:= .chk (by kernel_rfl)
theorem xp50:NumX p50 ⟨1,2⟩ 2:= .chk (by kernel_rfl)
theorem xp60:NumX p60 ⟨3,5⟩ 2:= .chk (by kernel_rfl)
theorem xp70:NumX p70 ⟨7,10⟩ 2:= .chk (by kernel_rfl)
theorem f7m:NumX p80 ⟨4,5⟩ 2:= .chk (by kernel_rfl)
def lC6:List Lx:=[W a1q,Wn a2i,Sg a05]
def lC7 (n:Nat):List Lx:=[W a1q,W a7p,W a7k,num n [] 2 false,Sg a05]
def f2f (n:Nat):List Lx:=[W a1q,W b5y,W a7k,num n [] 2 false,Sg a05]
def lC5:List Lx:=[W a1q,Wn a8n,Sg a05]
def lI0:List Lx:=[W a3x,N f4f ⟨1960,1⟩ 2 true,N n1 ⟨1,1⟩ 2 false,Sg a05]
def lI1 (w:List UInt8) (v:Fraction):List Lx:=[W a3x,N f5v ⟨1980,1⟩ 2 true,N w v 2 false,Sg a05]
def lI2 (w:List UInt8) (v:Fraction):List Lx:=[W a3x,N f53 ⟨1995,1⟩ 2 true,N w v 2 false,Sg a05]
def lL1 (n:Nat):List Lx:=[W a9j,W a1x,Sg b5g,W a1l,Sg b74,num n [100] 3 false,Sg a05]
def lL2 (w:List UInt8) (v:Fraction):List Lx:=[W a9j,W a6z,Sg b5g,Wn b4d,Sh a85,W a1x,Sg a7h,N w v 2 false,Sg c01,N p80 ⟨4,5⟩ 2 false,Sh a9n,Sg a05]
def lG1 (a i m:Nat):List Lx:=[W a2z,W b7y,W a9b,W b2v,Sg a4r,num a [] 2 true,W b5w,W a1l,Sg a4r,num i [100] 3 true,W b0h,Wn b34,Sh a85,W a6x,Sg a7h,Wn a6z,Sg c01,num m [109] 4 false,Sh a9n,Sg a05]
def lG2 (i:Nat) (w:List UInt8) (v:Fraction):List Lx:=[W a2z,W a4a,W a9b,W a1l,Sg a4r,num i [100] 3 true,W b0h,W a6x,Sg a7h,N w v 2 false,Sg a05]
def lG3:List Lx:=[W a2z,W b0a,W a9b,W a8j,Sg c8f,W a6c,Sg a4r,N n30d ⟨30,1⟩ 3 true,W b0h,W a6x,Sg a7h,W a6z,Sg a7h,N p60 ⟨3,5⟩ 2 false,Sg a05]
def lG4 (i m:Nat):List Lx:=[W a2z,W b3c,W a9b,W a1l,Sg a4r,num i [100] 3 true,W b0h,num m [109] 4 true,Sg a7h,Wn a6j,Sg a05]
def lG5 (i:Nat):List Lx:=[W a2z,W b05,W a9b,W a1l,Sg a4r,num i [100] 3 true,W b0h,Wn a9v,Sh a85,N n3 ⟨3,1⟩ 2 false,Sg a9n,Sg b74,N n12 ⟨12,1⟩ 2 true,Sg a7h,N p70 ⟨7,10⟩ 2 false,Sg a05]
def lR1 (w:List UInt8) (v:Fraction):List Lx:=[W a3d,W b7y,W b9d,N w v 2 false,Sg a05]
def lR2:List Lx:=[W a3d,W a4a,W b9d,W a9b,W b2v,Sg c87,N n60 ⟨60,1⟩ 2 true,W b6a,N p50 ⟨1,2⟩ 2 true,W b2e,N n1 ⟨1,1⟩ 2 false,Sg a05]
def aL1 (n:Nat):AE:= .bin 10 (.nm a1l) (.lit ⟨(n:Int),1⟩ 3)
def aL2 (v:Fraction):AE:= .bin 19 (.bin 9 (.nm a1x) (.lit v 2)) (.lit ⟨4,5⟩ 2)
def f6g (a i:Nat):AE:= .bin 17 (.bin 16 (.nm b2v) (.lit ⟨(a:Int),1⟩ 2)) (.bin 16 (.nm a1l) (.lit ⟨(i:Int),1⟩ 3))
def f4m (m:Nat):AE:= .bin 20 (.bin 9 (.nm a6x) (.nm a6z)) (.lit ⟨(m:Int),1⟩ 4)
def d6a (i:Nat):AE:= .bin 16 (.nm a1l) (.lit ⟨(i:Int),1⟩ 3)
def f69 (v:Fraction):AE:= .bin 9 (.nm a6x) (.lit v 2)
def f2g:AE:= .bin 16 (.bin 7 (.nm a8j) (.nm a6c)) (.lit ⟨30,1⟩ 3)
def f1o:AE:= .bin 9 (.bin 9 (.nm a6x) (.nm a6z)) (.lit ⟨3,5⟩ 2)
def f5f (m:Nat):AE:= .bin 9 (.lit ⟨(m:Int),1⟩ 4) (.nm a6j)
def f5s:AE:= .bin 9 (.bin 10 (.best 3) (.lit ⟨12,1⟩ 2)) (.lit ⟨7,10⟩ 2)
def aR1 (v:Fraction):AE:= .lit v 2
def aR2:AE:= .ite (.bin 11 (.nm b2v) (.lit ⟨60,1⟩ 2)) (.lit ⟨1,2⟩ 2) (.lit ⟨1,1⟩ 2)
def tk (l:List Lx) (ts:List Tk):List Tk:=l.map (·.t)++ts
theorem rC6 (ts:List Tk):ClR (tk lC6 ts) (.credit 6 0) ts:= .credit0 (x:=a2i) (by kernel_rfl) (by decide)
theorem rC5 (ts:List Tk):ClR (tk lC5 ts) (.credit 5 0) ts:= .credit0 (x:=a8n) (by kernel_rfl) (by decide)
theorem rC7 {n:Nat} (h0:1 <= n) (h1:n <= 73049) (ts:List Tk):ClR (tk (lC7 n) ts) (.credit 7 n) ts:= .credit (x:=a7p) (by kernel_rfl) (by decide) (by omega) (by omega)
theorem rC10 {n:Nat} (h0:1 <= n) (h1:n <= 73049) (ts:List Tk):ClR (tk (f2f n) ts) (.credit 10 n) ts:= .credit (x:=b5y) (by kernel_rfl) (by decide) (by omega) (by omega)
theorem rI0 (ts:List Tk):ClR (tk lI0 ts) (.index 1960 ⟨1,1⟩) ts:= .index (by decide) (by decide) (by decide) (by decide)
theorem rI1 {w:List UInt8} {v:Fraction} (h:0<v.Num) (hd:v.Den≠0) (ts:List Tk):ClR (tk (lI1 w v) ts) (.index 1980 v) ts:= .index (by decide) (by decide) h hd
theorem rI2 {w:List UInt8} {v:Fraction} (h:0<v.Num) (hd:v.Den≠0) (ts:List Tk):ClR (tk (lI2 w v) ts) (.index 1995 v) ts:= .index (by decide) (by decide) h hd
theorem rL1 (n:Nat) (ts:List Tk):ClR (tk (lL1 n) ts) (.lett a1x (aL1 n)) ts:= .lett (x:=a1x) (by kernel_rfl) (by kernel_rfl)
theorem rL2 (w:List UInt8) (v:Fraction) (ts:List Tk):ClR (tk (lL2 w v) ts) (.lett a6z (aL2 v)) ts:= .lett (x:=a6z) (by kernel_rfl) (by kernel_rfl)
theorem rG1 (a i m:Nat) (ts:List Tk):ClR (tk (lG1 a i m) ts) (.grant 1 (f6g a i) (f4m m)) ts:= .grant (x:=b7y) (vs:=([Wn b34,Sh a85,W a6x,Sg a7h,Wn a6z,Sg c01,num m [109] 4 false,Sh a9n,Sg a05]:List Lx).map (·.t)++ts) (by kernel_rfl) (by decide) (by kernel_rfl) (by kernel_rfl)
theorem rG2 (i:Nat) (w:List UInt8) (v:Fraction) (ts:List Tk):ClR (tk (lG2 i w v) ts) (.grant 2 (d6a i) (f69 v)) ts:= .grant (x:=a4a) (vs:=([W a6x,Sg a7h,N w v 2 false,Sg a05]:List Lx).map (·.t)++ts) (by kernel_rfl) (by decide) (by kernel_rfl) (by kernel_rfl)
theorem rG3 (ts:List Tk):ClR (tk lG3 ts) (.grant 3 f2g f1o) ts:= .grant (x:=b0a) (vs:=([W a6x,Sg a7h,W a6z,Sg a7h,N p60 ⟨3,5⟩ 2 false,Sg a05]:List Lx).map (·.t)++ts) (by kernel_rfl) (by decide) (by kernel_rfl) (by kernel_rfl)
theorem rG4 (i m:Nat) (ts:List Tk):ClR (tk (lG4 i m) ts) (.grant 4 (d6a i) (f5f m)) ts:= .grant (x:=b3c) (vs:=([num m [109] 4 true,Sg a7h,Wn a6j,Sg a05]:List Lx).map (·.t)++ts) (by kernel_rfl) (by decide) (by kernel_rfl) (by kernel_rfl)
theorem rG5 (i:Nat) (ts:List Tk):ClR (tk (lG5 i) ts) (.grant 5 (d6a i) f5s) ts:= .grant (x:=b05) (vs:=([Wn a9v,Sh a85,N n3 ⟨3,1⟩ 2 false,Sg a9n,Sg b74,N n12 ⟨12,1⟩ 2 true,Sg a7h,N p70 ⟨7,10⟩ 2 false,Sg a05]:List Lx).map (·.t)++ts) (by kernel_rfl) (by decide) (by kernel_rfl) (by kernel_rfl)
theorem rR1 (w:List UInt8) (v:Fraction) (ts:List Tk):ClR (tk (lR1 w v) ts) (.reduce 1 (aR1 v)) ts:= .reduce (x:=b7y) (by kernel_rfl) (by decide) (by kernel_rfl)
theorem rR2 (ts:List Tk):ClR (tk lR2 ts) (.reduce 2 aR2) ts:= .reduce (x:=a4a) (by kernel_rfl) (by decide) (by kernel_rfl)
theorem kC6:c0b lC6=true:=by kernel_rfl
theorem kC5:c0b lC5=true:=by kernel_rfl
theorem kC7 (n:Nat):c0b (lC7 n)=true:=by kernel_rfl
theorem kC10 (n:Nat):c0b (f2f n)=true:=by kernel_rfl
theorem kI0:c0b lI0=true:=by kernel_rfl
theorem kI1 (w:List UInt8) (v:Fraction):c0b (lI1 w v)=true:=by kernel_rfl
theorem kI2 (w:List UInt8) (v:Fraction):c0b (lI2 w v)=true:=by kernel_rfl
theorem kL1 (n:Nat):c0b (lL1 n)=true:=by kernel_rfl
theorem kL2 (w:List UInt8) (v:Fraction):c0b (lL2 w v)=true:=by kernel_rfl
theorem kG1 (a i m:Nat):c0b (lG1 a i m)=true:=by kernel_rfl
theorem kG2 (i:Nat) (w:List UInt8) (v:Fraction):c0b (lG2 i w v)=true:=by kernel_rfl
theorem kG3:c0b lG3=true:=by kernel_rfl
theorem kG4 (i m:Nat):c0b (lG4 i m)=true:=by kernel_rfl
theorem kG5 (i:Nat):c0b (lG5 i)=true:=by kernel_rfl
theorem kR1 (w:List UInt8) (v:Fraction):c0b (lR1 w v)=true:=by kernel_rfl
theorem kR2:c0b lR2=true:=by kernel_rfl
end Go.PL
namespace Go.PL
open Go Go.SX
def c6e (n:Nat):List UInt8:=a7i 20 (n/100)++(46::(a7i 20 (n/10%10)++a7i 20 (n%10)))
def b2f (n:Nat):Fraction:=⟨((n/Nat.gcd n 100:Nat):Int),((100/Nat.gcd n 100:Nat):Int)⟩
def c11 (a k:Nat):Bool:=(List.range k).all fun i=>f0i (c6e (a+i)) (b2f (a+i)) 2
theorem pc0:c11 0 100=true:=by kernel_rfl
theorem pc1:c11 100 100=true:=by kernel_rfl
theorem pc2:c11 200 100=true:=by kernel_rfl
theorem pc3:c11 300 100=true:=by kernel_rfl
theorem pc4:c11 400 100=true:=by kernel_rfl
theorem pc5:c11 500 100=true:=by kernel_rfl
theorem pc6:c11 600 100=true:=by kernel_rfl
theorem c2n {a k n:Nat} (h:c11 a k=true) (h0:a <= n) (h1:n<a+k):NumX (c6e n) (b2f n) 2:=by
 have:=List.all_eq_true.1 h (n-a) (by simp;omega)
 rw [show a+(n-a)=n by omega] at this
 exact .chk this
theorem b8f {n:Nat} (h:n<700):NumX (c6e n) (b2f n) 2:=by
 rcases Nat.lt_or_ge n 100 with h0 | h0
 ·exact c2n pc0 (by omega) (by omega)
 rcases Nat.lt_or_ge n 200 with h1 | h1
 ·exact c2n pc1 h0 (by omega)
 rcases Nat.lt_or_ge n 300 with h2 | h2
 ·exact c2n pc2 h1 (by omega)
 rcases Nat.lt_or_ge n 400 with h3 | h3
 ·exact c2n pc3 h2 (by omega)
 rcases Nat.lt_or_ge n 500 with h4 | h4
 ·exact c2n pc4 h3 (by omega)
 rcases Nat.lt_or_ge n 600 with h5 | h5
 ·exact c2n pc5 h4 (by omega)
 ·exact c2n pc6 h5 (by omega)
theorem c56 (n:Nat):0<Nat.gcd n 100:=Nat.gcd_pos_of_pos_right _ (by decide)
theorem c1t {n:Nat} (h:0<n):0<(b2f n).Num:=by
 have h1:Nat.gcd n 100 ∣ n:=Nat.gcd_dvd_left _ _
 have h2:=Nat.div_pos (Nat.le_of_dvd h h1) (c56 n)
 show (0:Int)<((n/Nat.gcd n 100:Nat):Int)
 omega
theorem d4j (n:Nat):(b2f n).Den≠0:=by
 have h1:Nat.gcd n 100 ∣ 100:=Nat.gcd_dvd_right _ _
 have h2:=Nat.div_pos (Nat.le_of_dvd (by decide) h1) (c56 n)
 show ((100/Nat.gcd n 100:Nat):Int)≠0
 omega
theorem d1f {n:Nat} (h:n<1000):p8 (n:Int)=some ⟨(c6e n).toArray⟩:=by
 unfold p8
 have q1:b9o (n:Int) 100=some ((n/100:Nat):Int):=by unfold b9o;rw [if_neg (by decide),Int.tdiv_eq_ediv_of_nonneg (by omega),u4 (by omega) (by omega)];congr 1
 have q2:b9o (n:Int) 10=some ((n/10:Nat):Int):=by unfold b9o;rw [if_neg (by decide),Int.tdiv_eq_ediv_of_nonneg (by omega),u4 (by omega) (by omega)];congr 1
 have r1:b36 ((n/10:Nat):Int) 10=some ((n/10%10:Nat):Int):=by unfold b36;rw [if_neg (by decide),Int.tmod_eq_emod_of_nonneg (by omega)];congr 1
 have r2:b36 (n:Int) 10=some ((n%10:Nat):Int):=by unfold b36;rw [if_neg (by decide),Int.tmod_eq_emod_of_nonneg (by omega)];congr 1
 have l0: ∀m,m<10 -> (a7i 20 m).length <= 1:=fun m hm=>b8x 20 m 0 (by omega)
 have a0:=l0 (n/100) (by omega)
 have a1:=l0 (n/10%10) (by omega)
 have a2:=l0 (n%10) (by omega)
 have c1:a3j ⟨(a7i 20 (n/100)).toArray⟩ a8m=some ⟨(a7i 20 (n/100)++[46]).toArray⟩:=d10 (b:=[46]) (by simp;omega)
 have c2:a3j ⟨(a7i 20 (n/100)++[46]).toArray⟩ ⟨(a7i 20 (n/10%10)).toArray⟩=some ⟨(a7i 20 (n/100)++[46]++a7i 20 (n/10%10)).toArray⟩:=d10 (by simp;omega)
 have c3:a3j ⟨(a7i 20 (n/100)++[46]++a7i 20 (n/10%10)).toArray⟩ ⟨(a7i 20 (n%10)).toArray⟩=some ⟨(a7i 20 (n/100)++[46]++a7i 20 (n/10%10)++a7i 20 (n%10)).toArray⟩:=d10 (by simp;omega)
 simp only [q1,q2,r1,r2,Option.bind_some,b4g (show n/100<1000000 by omega),b4g (show n/10%10<1000000 by omega),b4g (show n%10<1000000 by omega),c1,c2,c3]
 unfold c6e
 simp
end Go.PL
namespace Go.PL
open Go Go.SX
structure Ps where
 day:Int
 date:List UInt8
 m:Int
 mx:ByteArray
 u:Nat
 l7:Nat
 l10:Nat
 c1:Bool
 c2:Bool
 c3:Bool
 c4:Bool
 c5:Bool
 na:Nat
 nb:Nat
 np:Nat
 yr:Nat
 g1a:Nat
 g1i:Nat
 g1m:Nat
 g2i:Nat
 nd:Nat
 g4i:Nat
 g4m:Nat
 g5i:Nat
 nr:Nat
structure PsOK (P:Ps):Prop where
 dt:c7e (64::P.date) P.day=true
 d0:0 <= P.day
 d1:P.day <= 73048
 mw:d2h P.mx=true
 mo:ofW P.mx 3=some P.m
 m0:1 <= P.m
 m1:P.m <= 4
 mS:nz (a0y d4d P.m)=true
 u0:1 <= P.u
 u1:P.u <= 100000
 l70:1 <= P.l7
 l71:P.l7 <= 73049
 l100:1 <= P.l10
 l101:P.l10 <= 73049
 na0:1 <= P.na
 na1:P.na<700
 nb0:1 <= P.nb
 nb1:P.nb<700
 np1:P.np<700
 nd1:P.nd<700
 nr1:P.nr<700
 yr1:P.yr <= 100000
 a1:P.g1a <= 100000
 a2:P.g1i <= 100000
 a3:P.g1m <= 100000
 a4:P.g2i <= 100000
 a5:P.g4i <= 100000
 a6:P.g4m <= 100000
 a7:P.g5i <= 100000
def Ps.prs (P:Ps):List (List Lx×Cl):=
 [(lC6,.credit 6 0),(lC7 P.l7,.credit 7 P.l7)]++((if P.c1 then [(f2f P.l10,.credit 10 P.l10)] else [])++((if P.c2 then [(lC5,.credit 5 0)] else [])++
 ([(lI0,.index 1960 ⟨1,1⟩),(lI1 (c6e P.na) (b2f P.na),.index 1980 (b2f P.na)),(lI2 (c6e P.nb) (b2f P.nb),.index 1995 (b2f P.nb)),(lL1 P.yr,.lett a1x (aL1 P.yr)),(lL2 (c6e P.np) (b2f P.np),.lett a6z (aL2 (b2f P.np))),
   (lG1 P.g1a P.g1i P.g1m,.grant 1 (f6g P.g1a P.g1i) (f4m P.g1m)),(lG2 P.g2i (c6e P.nd) (b2f P.nd),.grant 2 (d6a P.g2i) (f69 (b2f P.nd)))]++
 ((if P.c3 then [(lG3,.grant 3 f2g f1o)] else [])++([(lG4 P.g4i P.g4m,.grant 4 (d6a P.g4i) (f5f P.g4m)),(lG5 P.g5i,.grant 5 (d6a P.g5i) f5s)]++
 ((if P.c4 then [(lR1 (c6e P.nr) (b2f P.nr),.reduce 1 (aR1 (b2f P.nr)))] else [])++(if P.c5 then [(lR2,.reduce 2 aR2)] else [])))))))
def d6t (P:Ps):List Lx:=[W b2m,⟨.d P.day,64::P.date,true⟩,Sg b1w,W b04,W P.mx,num P.u [] 2 false,Sg a05]
def Ps.cls (P:Ps):List Cl:=P.prs.map (·.2)
def fl (l:List (List Lx×Cl)):List Lx:=l.flatMap (·.1)
def lxV (P:Ps):List Lx:=d6t P++(fl P.prs++[Sg a2c])
structure PrOK (p:List Lx×Cl):Prop where
 k:c0b p.1=true
 n:c9q p.1
 r: ∀ts,ClR (tk p.1 ts) p.2 ts
theorem b6u {α:Type} {b:Bool} {x:α} {l:List α} (h:x∈(if b=true then l else [])):x∈l:=by cases b with | false=>cases h | true=>exact h
theorem e92 {P:Ps} (h:PsOK P): ∀p∈P.prs,PrOK p:=by
 have w2: ∀{n:Nat},n <= 100000 -> NumX (a7i 20 n++[]) ⟨(n:Int),1⟩ 2:=fun hn=> .whole hn (.inl ⟨rfl,rfl⟩)
 have w3: ∀{n:Nat},n <= 100000 -> NumX (a7i 20 n++[100]) ⟨(n:Int),1⟩ 3:=fun hn=> .whole hn (.inr (.inl ⟨rfl,rfl⟩))
 have w4: ∀{n:Nat},n <= 100000 -> NumX (a7i 20 n++[109]) ⟨(n:Int),1⟩ 4:=fun hn=> .whole hn (.inr (.inr ⟨rfl,rfl⟩))
 have h1:=h.l71
 have h2:=h.l101
 have t:=trivial
 intro p hp
 unfold Ps.prs at hp
 rcases List.mem_append.1 hp with hp | hp
 ·simp only [List.mem_cons,List.not_mem_nil,or_false] at hp
  rcases hp with rfl | rfl
  ·exact ⟨kC6,⟨t,t,t,t⟩,rC6⟩
  ·exact ⟨kC7 _,⟨t,t,t,w2 (by omega),t,t⟩,rC7 h.l70 h.l71⟩
 rcases List.mem_append.1 hp with hp | hp
 ·have hp:=b6u hp
  rw [List.mem_singleton] at hp;subst hp
  exact ⟨kC10 _,⟨t,t,t,w2 (by omega),t,t⟩,rC10 h.l100 h.l101⟩
 rcases List.mem_append.1 hp with hp | hp
 ·have hp:=b6u hp
  rw [List.mem_singleton] at hp;subst hp
  exact ⟨kC5,⟨t,t,t,t⟩,rC5⟩
 rcases List.mem_append.1 hp with hp | hp
 ·simp only [List.mem_cons,List.not_mem_nil,or_false] at hp
  rcases hp with rfl | rfl | rfl | rfl | rfl | rfl | rfl
  ·exact ⟨kI0,⟨t,f8v,x1,t,t⟩,rI0⟩
  ·exact ⟨kI1 _ _,⟨t,g02,b8f h.na1,t,t⟩,rI1 (c1t h.na0) (d4j _)⟩
  ·exact ⟨kI2 _ _,⟨t,g0c,b8f h.nb1,t,t⟩,rI2 (c1t h.nb0) (d4j _)⟩
  ·exact ⟨kL1 _,⟨t,t,t,t,t,w3 h.yr1,t,t⟩,rL1 _⟩
  ·exact ⟨kL2 _ _,⟨t,t,t,t,t,t,t,b8f h.np1,t,f7m,t,t,t⟩,rL2 _ _⟩
  ·exact ⟨kG1 _ _ _,⟨t,t,t,t,t,w2 h.a1,t,t,t,w3 h.a2,t,t,t,t,t,t,t,w4 h.a3,t,t,t⟩,rG1 _ _ _⟩
  ·exact ⟨kG2 _ _ _,⟨t,t,t,t,t,w3 h.a4,t,t,t,b8f h.nd1,t,t⟩,rG2 _ _ _⟩
 rcases List.mem_append.1 hp with hp | hp
 ·have hp:=b6u hp
  rw [List.mem_singleton] at hp;subst hp
  exact ⟨kG3,⟨t,t,t,t,t,t,t,x30d,t,t,t,t,t,xp60,t,t⟩,rG3⟩
 rcases List.mem_append.1 hp with hp | hp
 ·simp only [List.mem_cons,List.not_mem_nil,or_false] at hp
  rcases hp with rfl | rfl
  ·exact ⟨kG4 _ _,⟨t,t,t,t,t,w3 h.a5,t,w4 h.a6,t,t,t,t⟩,rG4 _ _⟩
  ·exact ⟨kG5 _,⟨t,t,t,t,t,w3 h.a7,t,t,t,x3,t,t,x12,t,xp70,t,t⟩,rG5 _⟩
 rcases List.mem_append.1 hp with hp | hp
 ·have hp:=b6u hp
  rw [List.mem_singleton] at hp;subst hp
  exact ⟨kR1 _ _,⟨t,t,t,b8f h.nr1,t,t⟩,rR1 _ _⟩
 ·have hp:=b6u hp
  rw [List.mem_singleton] at hp;subst hp
  exact ⟨kR2,⟨t,t,t,t,t,t,x60,t,xp50,t,x1,t,t⟩,rR2⟩
theorem e7r: ∀(l:List (List Lx×Cl)),(∀p∈l,PrOK p) -> ∀rest,okA (fl l) rest
 | [],_,_=>trivial
 | p::l,h,rest=>a8h p.1 (fl l) rest (b9u p.1 (h p (by simp)).k (h p (by simp)).n _) (e7r l (fun q hq=>h q (by simp [hq])) rest)
theorem e8j: ∀(l:List (List Lx×Cl)),(∀p∈l,PrOK p) -> ∀ts,ClsR (tk (fl l++[Sg a2c]) ts) (l.map (·.2)) ts
 | [],_,ts=>ClsR.nil
 | p::l,h,ts=>by
   have h1:=(h p (by simp)).r (tk (fl l++[Sg a2c]) ts)
   have h2:=e8j l (fun q hq=>h q (by simp [hq])) ts
   have e:tk (fl (p::l)++[Sg a2c]) ts=tk p.1 (tk (fl l++[Sg a2c]) ts):=by
    unfold tk fl
    simp
   rw [e]
   exact ClsR.cons h1 h2
theorem f06 (P:Ps):P.cls.length <= 900:=by
 unfold Ps.cls Ps.prs
 simp only [List.length_map,List.length_append,List.length_cons,List.length_nil]
 have e: ∀(b:Bool) (x:List Lx×Cl),(if b=true then [x] else []).length <= 1:=fun b x=>by cases b<;>simp
 have e1:=e P.c1 (f2f P.l10,.credit 10 P.l10)
 have e2:=e P.c2 (lC5,.credit 5 0)
 have e3:=e P.c3 (lG3,.grant 3 f2g f1o)
 have e4:=e P.c4 (lR1 (c6e P.nr) (b2f P.nr),.reduce 1 (aR1 (b2f P.nr)))
 have e5:=e P.c5 (lR2,.reduce 2 aR2)
 omega
def Ps.ver (P:Ps):Version:=f3k P.day P.m P.u P.cls
theorem f5u {P:Ps} (h:PsOK P) (ts:List Tk):VerR (tk (lxV P) ts) P.ver ts:=by
 refine ⟨⟨P.day,P.m,P.u,P.mx,P.cls,tk (fl P.prs++[Sg a2c]) ts,?_,h.mo,by have:=h.m0;omega,by have:=h.u0;omega,by have:=h.u1;omega,e8j P.prs (e92 h) ts,f06 P,rfl⟩⟩
 unfold lxV tk
 rw [List.map_append,List.append_assoc]
 rfl
theorem e2h {P:Ps} (h:PsOK P) (rest:List UInt8):okA (lxV P) rest:=by
 have k0:c0b (d6t P)=true:=by
  unfold d6t
  simp only [c0b,W,Sg,num,N,BEq.rfl,nx,h.dt,h.mw,Bool.true_and,Bool.and_true,Bool.true_or]
  kernel_rfl
 have n0:c9q (d6t P):=⟨trivial,trivial,trivial,trivial,trivial,.whole h.u1 (.inl ⟨rfl,rfl⟩),trivial,trivial⟩
 refine a8h _ _ _ (b9u _ k0 n0 _) (a8h _ _ _ (e7r _ (e92 h) _) (b9u [Sg a2c] (by kernel_rfl) ⟨trivial,trivial⟩ _))
end Go.PL
namespace Go.PL
open Go Go.SX
def c5b:List Binding:=[⟨a1x,2⟩,⟨a6z,2⟩]
def Ps.crs (P:Ps):List Credit:=[⟨6,0⟩,⟨7,P.l7⟩]++((if P.c1 then [⟨10,P.l10⟩] else [])++(if P.c2 then [⟨5,0⟩] else []))
def Ps.ixs (P:Ps):List Index:=[⟨1960,⟨1,1⟩⟩,⟨1980,b2f P.na⟩,⟨1995,b2f P.nb⟩]
def Ps.lts (P:Ps):List Let:=[⟨a1x,(aL1 P.yr).e⟩,⟨a6z,(aL2 (b2f P.np)).e⟩]
def Ps.grs (P:Ps):List Grant:=[⟨1,(f6g P.g1a P.g1i).e,(f4m P.g1m).e⟩,⟨2,(d6a P.g2i).e,(f69 (b2f P.nd)).e⟩]++((if P.c3 then [⟨3,f2g.e,f1o.e⟩] else [])++[⟨4,(d6a P.g4i).e,(f5f P.g4m).e⟩,⟨5,(d6a P.g5i).e,f5s.e⟩])
def Ps.rds (P:Ps):List Reduce:=(if P.c4 then [⟨1,(aR1 (b2f P.nr)).e⟩] else [])++(if P.c5 then [⟨2,aR2.e⟩] else [])
theorem e8p (P:Ps):P.ver=⟨P.day,⟨P.m,P.u⟩,P.crs,P.ixs,P.lts,P.grs,P.rds⟩:=by
 obtain ⟨day,date,m,mx,u,l7,l10,c1,c2,c3,c4,c5,na,nb,np,yr,g1a,g1i,g1m,g2i,nd,g4i,g4m,g5i,nr⟩:=P
 cases c1<;>cases c2<;>cases c3<;>cases c4<;>cases c5<;>rfl
theorem a8b {w:List UInt8} {v:Fraction} {d:Int} (h:NumX w v d):(AE.lit v d).ok:= .mk ⟨h.f5,h.fS⟩ fun b hb=>by cases hb
theorem c3l {s:ByteArray} (h:(match p7 s,a45 s with | some true,some true=>true | _,_=>false)=true):(AE.nm s).ok:=by
 refine .mk ?_ fun b hb=>by cases hb
 split at h
 ·rename_i h1 h2;exact ⟨h1,h2⟩
 ·cases h
theorem f01 {k:Int} (h0:1 <= k) (h1:k <= 45):(AE.best k).ok:= .mk ⟨h0,h1⟩ fun b hb=>by cases hb
theorem a62 {op:Int} {a b:AE} (h0:7 <= op) (h1:op <= 20) (ha:a.ok) (hb:b.ok):(AE.bin op a b).ok:= .mk ⟨h0,h1⟩ fun x hx=>by simp [AE.args] at hx;rcases hx with rfl | rfl<;>assumption
theorem f78 {a b c:AE} (ha:a.ok) (hb:b.ok) (hc:c.ok):(AE.ite a b c).ok:= .mk trivial fun x hx=>by simp [AE.args] at hx;rcases hx with rfl | rfl | rfl<;>assumption
theorem f3h:(AE.nm b2v).ok:=c3l (by kernel_rfl)
theorem d9l:(AE.nm a1l).ok:=c3l (by kernel_rfl)
theorem d98:(AE.nm a6x).ok:=c3l (by kernel_rfl)
theorem c5q:(AE.nm a6z).ok:=c3l (by kernel_rfl)
theorem b7w:(AE.nm a1x).ok:=c3l (by kernel_rfl)
theorem e3x:(AE.nm a8j).ok:=c3l (by kernel_rfl)
theorem f8u:(AE.nm a6c).ok:=c3l (by kernel_rfl)
theorem f8s:(AE.nm a6j).ok:=c3l (by kernel_rfl)
theorem env0:c2f []:=⟨by simp,fun b hb=>by cases hb⟩
theorem env1:c2f [⟨a1x,2⟩]:=⟨by simp,fun b hb=>by rw [List.mem_singleton] at hb;subst hb;exact ⟨by show (1:Int) <= 2;decide,by show (2:Int) <= 4;decide⟩⟩
theorem env2:c2f c5b:=⟨by simp [c5b],fun b hb=>by
 simp only [c5b,List.mem_cons,List.not_mem_nil,or_false] at hb
 rcases hb with rfl | rfl<;>exact ⟨by show (1:Int) <= 2;decide,by show (2:Int) <= 4;decide⟩⟩
theorem e3c {env:List Binding} {a:AE} {d:Int} (h:a.ok) (hd:Nat.ble a.dep 10=true) (hs:Nat.ble a.sz 60=true) (hi:a.inf env=some d) (hj:a.inf5 env=some d):ExOK env a.e d:=⟨a,rfl,h,Nat.le_of_ble_eq_true hd,Nat.le_of_ble_eq_true hs,hi,hj⟩
theorem e8w {s:ByteArray} (h:(AE.nm s).ok):b14 s=some true:=by
 unfold b14
 rw [show (⟨2,⟨0,0⟩,0,s,[]⟩:Expr)=(AE.nm s).e from rfl,b5x h (show 1 <= 10 by decide) (show 1 <= 60 by decide)]
 rfl
theorem f6m {P:Ps} (h:PsOK P):b1l P.lts=some (c5b,0):=by
 have k1:(aL1 P.yr).ok:=a62 (by decide) (by decide) d9l (a8b (.whole h.yr1 (.inr (.inl ⟨rfl,rfl⟩))))
 have k2:(aL2 (b2f P.np)).ok:=a62 (by decide) (by decide) (a62 (by decide) (by decide) b7w (a8b (b8f h.np1))) (a8b f7m)
 have i1:=c8i env0 k1 (Nat.le_of_ble_eq_true (by kernel_rfl)) (Nat.le_of_ble_eq_true (by kernel_rfl)) (d:=2) (by kernel_rfl)
 have i2:=c8i env1 k2 (Nat.le_of_ble_eq_true (by kernel_rfl)) (Nat.le_of_ble_eq_true (by kernel_rfl)) (d:=2) (by kernel_rfl)
 unfold b1l
 have hlen:P.lts.length=2:=rfl
 rw [if_neg (by rw [hlen];decide)]
 obtain ⟨m,hm⟩:=c6x
 rw [hm,c8]
 generalize hA:f7 (m+1+1) (a5f P.lts)=A
 unfold a5f
 have g0:i7 P.lts 0=some ⟨a1x,(aL1 P.yr).e⟩:=rfl
 have g1:i7 P.lts 1=some ⟨a6z,(aL2 (b2f P.np)).e⟩:=rfl
 have c0:o7 [] ⟨a1x,(aL1 P.yr).e⟩=some false:=by kernel_rfl
 have c1:o7 [⟨a1x,2⟩] ⟨a6z,(aL2 (b2f P.np)).e⟩=some false:=by kernel_rfl
 have n0:a8c a1x=some (0,false):=by kernel_rfl
 have n1:a8c a6z=some (0,false):=by kernel_rfl
 have a0:b1f 24 ([]:List Binding) [⟨a1x,2⟩]=some [⟨a1x,2⟩]:=a8o (by simp) (by decide)
 have a1:b1f 24 ([⟨a1x,2⟩]:List Binding) [⟨a6z,2⟩]=some c5b:=a8o (by simp) (by decide)
 simp only [hlen,show decide ((0:Int)<((2:Nat):Int))=true from rfl,if_true,g0,Option.bind_some,n0,Bool.false_eq_true,if_false,e8w b7w,Bool.not_true,c0,i1,show ((0:Int) != 0)=false from rfl,a0]
 rw [<- hA,c8]
 generalize hB:f7 (m+1) (a5f P.lts)=B
 unfold a5f
 simp only [hlen,show i64 (0+1)=1 from rfl,show decide ((1:Int)<((2:Nat):Int))=true from rfl,if_true,g1,Option.bind_some,n1,Bool.false_eq_true,if_false,e8w c5q,Bool.not_true,c1,i2,show ((0:Int) != 0)=false from rfl,a1]
 rw [<- hB,c8]
 unfold a5f
 simp only [hlen,show i64 (1+1)=2 from rfl,show decide ((2:Int)<((2:Nat):Int))=false from rfl,Bool.false_eq_true,if_false]
theorem f04 {P:Ps} (h:PsOK P):a5b P.lts=some (c5b,0):=by
 have k1:(aL1 P.yr).ok:=a62 (by decide) (by decide) d9l (a8b (.whole h.yr1 (.inr (.inl ⟨rfl,rfl⟩))))
 have k2:(aL2 (b2f P.np)).ok:=a62 (by decide) (by decide) (a62 (by decide) (by decide) b7w (a8b (b8f h.np1))) (a8b f7m)
 have i1:=c3u env0 k1 (Nat.le_of_ble_eq_true (by kernel_rfl)) (Nat.le_of_ble_eq_true (by kernel_rfl)) (d:=2) (by kernel_rfl)
 have i2:=c3u env1 k2 (Nat.le_of_ble_eq_true (by kernel_rfl)) (Nat.le_of_ble_eq_true (by kernel_rfl)) (d:=2) (by kernel_rfl)
 unfold a5b
 have hlen:P.lts.length=2:=rfl
 rw [if_neg (by rw [hlen];decide)]
 obtain ⟨m,hm⟩:=c6x
 have g0:i7 P.lts 0=some ⟨a1x,(aL1 P.yr).e⟩:=rfl
 have g1:i7 P.lts 1=some ⟨a6z,(aL2 (b2f P.np)).e⟩:=rfl
 have n0:a4l a1x=some (0,false):=by kernel_rfl
 have n1:a4l a6z=some (0,false):=by kernel_rfl
 have a0:b1f 24 ([]:List Binding) [⟨a1x,2⟩]=some [⟨a1x,2⟩]:=a8o (by simp) (by decide)
 have a1:b1f 24 ([⟨a1x,2⟩]:List Binding) [⟨a6z,2⟩]=some c5b:=a8o (by simp) (by decide)
 have e1:(a1x.toList==a6z.toList)=false:=by kernel_rfl
 have inner0: ∀r2,f7 FU (a15 ([],0) P.lts r2) ([],0)=r2 ([⟨a1x,2⟩],1):=fun r2=>by
  rw [hm,c8]
  unfold a15
  simp only [show decide ((0:Int)<0)=false from rfl,Bool.false_eq_true,if_false,g0,Option.bind_some,i1,show ((0:Int) != 0)=false from rfl,a0,show i64 (0+1)=1 from rfl]
 have inner1: ∀r2,f7 FU (a15 ([⟨a1x,2⟩],1) P.lts r2) ([⟨a1x,2⟩],0)=r2 (c5b,2):=fun r2=>by
  rw [hm,c8]
  generalize hB:f7 (m+1+1) (a15 ([⟨a1x,2⟩],1) P.lts r2)=B
  unfold a15
  simp only [show decide ((0:Int)<1)=true from rfl,if_true,g0,g1,Option.bind_some,e1,Bool.false_eq_true,if_false,show i64 (0+1)=1 from rfl]
  rw [<- hB,c8]
  unfold a15
  simp only [show decide ((1:Int)<1)=false from rfl,Bool.false_eq_true,if_false,g1,Option.bind_some,i2,show ((0:Int) != 0)=false from rfl,a1,show i64 (1+1)=2 from rfl]
 rw [hm,c8]
 generalize hA:f7 (m+1+1) (a2h P.lts)=A
 unfold a2h
 simp only [hlen,show decide ((0:Int)<((2:Nat):Int))=true from rfl,if_true,g0,Option.bind_some,n0,Bool.false_eq_true,if_false,b7w.leaf.1,Bool.not_true]
 rw [inner0,<- hA,c8]
 generalize hB:f7 (m+1) (a2h P.lts)=B
 unfold a2h
 simp only [hlen,show decide ((1:Int)<((2:Nat):Int))=true from rfl,if_true,g1,Option.bind_some,n1,Bool.false_eq_true,if_false,c5q.leaf.1,Bool.not_true]
 rw [inner1,<- hB,c8]
 unfold a2h
 simp only [hlen,show decide ((2:Int)<((2:Nat):Int))=false from rfl,Bool.false_eq_true,if_false]
theorem e0g {P:Ps} (h:PsOK P):VOK c5b P.ver:=by
 have hl7:=h.l71
 have w2: ∀{n:Nat},n <= 100000 -> (AE.lit ⟨(n:Int),1⟩ 2).ok:=fun hn=>a8b (.whole hn (.inl ⟨rfl,rfl⟩))
 have w3: ∀{n:Nat},n <= 100000 -> (AE.lit ⟨(n:Int),1⟩ 3).ok:=fun hn=>a8b (.whole hn (.inr (.inl ⟨rfl,rfl⟩)))
 have w4: ∀{n:Nat},n <= 100000 -> (AE.lit ⟨(n:Int),1⟩ 4).ok:=fun hn=>a8b (.whole hn (.inr (.inr ⟨rfl,rfl⟩)))
 have kIns: ∀{i:Nat},i <= 100000 -> ExOK c5b (d6a i).e 1:=fun hi=>e3c (a62 (by decide) (by decide) d9l (w3 hi)) (by kernel_rfl) (by kernel_rfl) (by kernel_rfl) (by kernel_rfl)
 have k1i:ExOK c5b (f6g P.g1a P.g1i).e 1:=e3c (a62 (by decide) (by decide) (a62 (by decide) (by decide) f3h (w2 h.a1)) (a62 (by decide) (by decide) d9l (w3 h.a2))) (by kernel_rfl) (by kernel_rfl) (by kernel_rfl) (by kernel_rfl)
 have k1p:ExOK c5b (f4m P.g1m).e 4:=e3c (a62 (by decide) (by decide) (a62 (by decide) (by decide) d98 c5q) (w4 h.a3)) (by kernel_rfl) (by kernel_rfl) (by kernel_rfl) (by kernel_rfl)
 have k2p:ExOK c5b (f69 (b2f P.nd)).e 4:=e3c (a62 (by decide) (by decide) d98 (a8b (b8f h.nd1))) (by kernel_rfl) (by kernel_rfl) (by kernel_rfl) (by kernel_rfl)
 have k3i:ExOK c5b f2g.e 1:=e3c (a62 (by decide) (by decide) (a62 (by decide) (by decide) e3x f8u) (a8b x30d)) (by kernel_rfl) (by kernel_rfl) (by kernel_rfl) (by kernel_rfl)
 have k3p:ExOK c5b f1o.e 4:=e3c (a62 (by decide) (by decide) (a62 (by decide) (by decide) d98 c5q) (a8b xp60)) (by kernel_rfl) (by kernel_rfl) (by kernel_rfl) (by kernel_rfl)
 have k4p:ExOK c5b (f5f P.g4m).e 4:=e3c (a62 (by decide) (by decide) (w4 h.a6) f8s) (by kernel_rfl) (by kernel_rfl) (by kernel_rfl) (by kernel_rfl)
 have k5p:ExOK c5b f5s.e 4:=e3c (a62 (by decide) (by decide) (a62 (by decide) (by decide) (f01 (by decide) (by decide)) (a8b x12)) (a8b xp70)) (by kernel_rfl) (by kernel_rfl) (by kernel_rfl) (by kernel_rfl)
 have kr1:ExOK c5b (aR1 (b2f P.nr)).e 2:=e3c (a8b (b8f h.nr1)) (by kernel_rfl) (by kernel_rfl) (by kernel_rfl) (by kernel_rfl)
 have kr2:ExOK c5b aR2.e 2:=e3c (f78 (a62 (by decide) (by decide) f3h (a8b x60)) (a8b xp50) (a8b x1)) (by kernel_rfl) (by kernel_rfl) (by kernel_rfl) (by kernel_rfl)
 have b1:BnOK 1:=⟨by kernel_rfl,by kernel_rfl⟩
 have b2:BnOK 2:=⟨by kernel_rfl,by kernel_rfl⟩
 have b3:BnOK 3:=⟨by kernel_rfl,by kernel_rfl⟩
 have b4:BnOK 4:=⟨by kernel_rfl,by kernel_rfl⟩
 have b5:BnOK 5:=⟨by kernel_rfl,by kernel_rfl⟩
 have e1: ∀{α:Type} (b:Bool) (x:α),(if b=true then [x] else []).length <= 1:=fun b x=>by cases b<;>simp
 have ls:=f6m h
 have hu:=h.u0
 have hu1:=h.u1
 have hl10:=h.l101
 rw [e8p]
 refine ⟨h.d0,h.d1,h.m0,h.m1,h.mS,by show (1:Int) <= (P.u:Int);omega,by show (P.u:Int) <= 100000;omega,?_,by show (3:Nat) <= 20;decide,by show (2:Nat) <= 10;decide,?_,?_,?_,?_,?_,?_,?_,ls,f04 h,env2,?_,?_,?_,?_⟩
 ·show P.crs.length <= 6
  unfold Ps.crs
  have:=e1 P.c1 (⟨10,P.l10⟩:Credit);have:=e1 P.c2 (⟨5,0⟩:Credit)
  simp only [List.length_append,List.length_cons,List.length_nil];omega
 ·show P.grs.length <= 5
  unfold Ps.grs
  have:=e1 P.c3 (⟨3,f2g.e,f1o.e⟩:Grant)
  simp only [List.length_append,List.length_cons,List.length_nil];omega
 ·show P.rds.length <= 5
  unfold Ps.rds
  have:=e1 P.c4 (⟨1,(aR1 (b2f P.nr)).e⟩:Reduce);have:=e1 P.c5 (⟨2,aR2.e⟩:Reduce)
  simp only [List.length_append];omega
 ·intro c hc
  have hc:c∈P.crs:=hc
  unfold Ps.crs at hc
  rcases List.mem_append.1 hc with hc | hc
  ·simp only [List.mem_cons,List.not_mem_nil,or_false] at hc
   rcases hc with rfl | rfl
   ·exact ⟨by kernel_rfl,by kernel_rfl,by show (0:Int) <= 0;decide,by show (0:Int) <= 73049;decide⟩
   ·exact ⟨by kernel_rfl,by kernel_rfl,by show (0:Int) <= (P.l7:Int);omega,by show (P.l7:Int) <= 73049;omega⟩
  rcases List.mem_append.1 hc with hc | hc
  ·have hc:=b6u hc
   rw [List.mem_singleton] at hc;subst hc
   exact ⟨by kernel_rfl,by kernel_rfl,by show (0:Int) <= (P.l10:Int);omega,by show (P.l10:Int) <= 73049;omega⟩
  ·have hc:=b6u hc
   rw [List.mem_singleton] at hc;subst hc
   exact ⟨by kernel_rfl,by kernel_rfl,by show (0:Int) <= 0;decide,by show (0:Int) <= 73049;decide⟩
 ·show P.crs.Pairwise _
  unfold Ps.crs
  cases P.c1<;>cases P.c2<;>simp
 ·intro x hx
  have hx:x∈P.ixs:=hx
  unfold Ps.ixs at hx
  simp only [List.mem_cons,List.not_mem_nil,or_false] at hx
  rcases hx with rfl | rfl | rfl
  ·exact ⟨by show (1900:Int) <= 1960;decide,by show (1960:Int) <= 2099;decide,by show (1:Int) <= 1;decide,x1.f5,x1.fS⟩
  ·exact ⟨by show (1900:Int) <= 1980;decide,by show (1980:Int) <= 2099;decide,c1t h.na0,(b8f h.na1).f5,(b8f h.na1).fS⟩
  ·exact ⟨by show (1900:Int) <= 1995;decide,by show (1995:Int) <= 2099;decide,c1t h.nb0,(b8f h.nb1).f5,(b8f h.nb1).fS⟩
 ·show P.ixs.Pairwise _
  unfold Ps.ixs
  simp
 ·intro x hx
  have hx:x∈P.lts:=hx
  unfold Ps.lts at hx
  simp only [List.mem_cons,List.not_mem_nil,or_false] at hx
  have k1:(aL1 P.yr).ok:=a62 (by decide) (by decide) d9l (w3 h.yr1)
  have k2:(aL2 (b2f P.np)).ok:=a62 (by decide) (by decide) (a62 (by decide) (by decide) b7w (a8b (b8f h.np1))) (a8b f7m)
  rcases hx with rfl | rfl
  ·exact ⟨b7w.leaf.1,b7w.leaf.2,c20 k1 (Nat.le_of_ble_eq_true (by kernel_rfl)) (Nat.le_of_ble_eq_true (by kernel_rfl)),b5x k1 (Nat.le_of_ble_eq_true (by kernel_rfl)) (Nat.le_of_ble_eq_true (by kernel_rfl))⟩
  ·exact ⟨c5q.leaf.1,c5q.leaf.2,c20 k2 (Nat.le_of_ble_eq_true (by kernel_rfl)) (Nat.le_of_ble_eq_true (by kernel_rfl)),b5x k2 (Nat.le_of_ble_eq_true (by kernel_rfl)) (Nat.le_of_ble_eq_true (by kernel_rfl))⟩
 ·intro g hg
  have hg:g∈P.grs:=hg
  unfold Ps.grs at hg
  rcases List.mem_append.1 hg with hg | hg
  ·simp only [List.mem_cons,List.not_mem_nil,or_false] at hg
   rcases hg with rfl | rfl
   ·exact ⟨b1,k1i,k1p⟩
   ·exact ⟨b2,kIns h.a4,k2p⟩
  rcases List.mem_append.1 hg with hg | hg
  ·have hg:=b6u hg
   rw [List.mem_singleton] at hg;subst hg
   exact ⟨b3,k3i,k3p⟩
  ·simp only [List.mem_cons,List.not_mem_nil,or_false] at hg
   rcases hg with rfl | rfl
   ·exact ⟨b4,kIns h.a5,k4p⟩
   ·exact ⟨b5,kIns h.a7,k5p⟩
 ·show P.grs.Pairwise _
  unfold Ps.grs
  cases P.c3<;>simp
 ·intro r hr
  have hr:r∈P.rds:=hr
  unfold Ps.rds at hr
  rcases List.mem_append.1 hr with hr | hr
  ·have hr:=b6u hr
   rw [List.mem_singleton] at hr;subst hr
   exact ⟨b1,kr1⟩
  ·have hr:=b6u hr
   rw [List.mem_singleton] at hr;subst hr
   exact ⟨b2,kr2⟩
 ·show P.rds.Pairwise _
  unfold Ps.rds
  cases P.c4<;>cases P.c5<;>simp
end Go.PL
namespace Go.PL
open Go Go.SX
section
variable {env:List Binding} {v:Version}
theorem d1x {α:Type} {β:Type} [DecidableEq β] {l:List α} {f:α -> β} (h:l.Pairwise fun a b=>f a≠f b) {i k:Nat} (hi:i<l.length) (hk:k<i):f l[k]≠f l[i]:=List.pairwise_iff_getElem.1 h k i (by omega) hi hk
theorem d5x (h:VOK env v):a55 v=some 0:=by
 have hf:=a1o
 have l6:f7 FU a3l (v,env,0)=some 0:=by
  refine k9 (fun i=>(v,env,(i:Int))) v.Reduces.length ?_ ?_ (by have:=h.rl;omega)
  ·intro i hi r
   have:=h.rl
   unfold a3l
   simp only [b3u hi,if_true]
   refine k9 (fun k=>(v,env,(k:Int))) i ?_ ?_ (by omega)
   ·intro k hk r'
    have e1:(v.Reduces[k].Benefit==v.Reduces[i].Benefit)=false:=by simpa using d1x h.rdp hi hk
    unfold a5t
    simp only [b3u hk,if_true,a0c (show k<v.Reduces.length by omega),a0c hi,Option.bind_some,e1,Bool.false_eq_true,if_false,a4f (show k <= 1000000 by omega)]
   ·intro r'
    have hc:=h.rd _ (List.getElem_mem hi)
    unfold a5t
    simp only [a4u,Bool.false_eq_true,if_false,a0c hi,Option.bind_some,hc.2.needs h.en,show ((0:Int) != 0)=false from rfl,a4f (show i <= 1000000 by omega)]
  ·intro r
   unfold a3l
   simp only [a4u,Bool.false_eq_true,if_false]
 have l4:f7 FU a3n (v,env,0)=some 0:=by
  refine k9 (fun i=>(v,env,(i:Int))) v.Grants.length ?_ ?_ (by have:=h.gl;omega)
  ·intro i hi r
   have:=h.gl
   unfold a3n
   simp only [b3u hi,if_true]
   refine k9 (fun k=>(v,env,(k:Int))) i ?_ ?_ (by omega)
   ·intro k hk r'
    have e1:(v.Grants[k].Benefit==v.Grants[i].Benefit)=false:=by simpa using d1x h.grp hi hk
    unfold a5k
    simp only [b3u hk,if_true,a0c (show k<v.Grants.length by omega),a0c hi,Option.bind_some,e1,Bool.false_eq_true,if_false,a4f (show k <= 1000000 by omega)]
   ·intro r'
    have hc:=h.gr _ (List.getElem_mem hi)
    unfold a5k
    simp only [a4u,Bool.false_eq_true,if_false,a0c hi,Option.bind_some,hc.2.1.needs h.en,hc.2.2.needs h.en,show ((0:Int) != 0)=false from rfl,a4f (show i <= 1000000 by omega)]
  ·intro r
   unfold a3n
   simp only [a4u,Bool.false_eq_true,if_false]
   exact l6
 have l3:f7 FU a24 (v,env,1)=some 0:=by
  have go: ∀n,n=v.Series.length-1 -> f7 FU a24 (v,env,(((0:Nat):Int)+1))=some 0:=by
   intro n hn
   refine k9 (fun i=>(v,env,(i:Int)+1)) n ?_ ?_ (by have:=h.sl;omega)
   ·intro i hi r
    have:=h.sl
    have hlt:=List.pairwise_iff_getElem.1 h.ixp i (i+1) (by omega) (by omega) (by omega)
    have e0:((i:Int)+1)=((i+1:Nat):Int):=by omega
    have e2:i64 (((i+1:Nat):Int)-1)=(i:Int):=by rw [u4 (by omega) (by omega)];omega
    have e3:decide (v.Series[i+1].Year <= v.Series[i].Year)=false:=by simp;omega
    unfold a24
    simp only [e0,b3u (show i+1<v.Series.length by omega),if_true,a0c (show i+1<v.Series.length by omega),a0c (show i<v.Series.length by omega),e2,Option.bind_some,e3,Bool.false_eq_true,if_false,a4f (show i+1 <= 1000000 by omega)]
    rfl
   ·intro r
    have e1:decide (((n:Int)+1)<(v.Series.length:Int))=false:=by simp;omega
    unfold a24
    simp only [e1,Bool.false_eq_true,if_false]
    exact l4
  exact go _ rfl
 have l1:f7 FU a3o (v,env,0)=some 0:=by
  refine k9 (fun i=>(v,env,(i:Int))) v.Credits.length ?_ ?_ (by have:=h.cl;omega)
  ·intro i hi r
   have:=h.cl
   unfold a3o
   simp only [b3u hi,if_true]
   refine k9 (fun k=>(v,env,(k:Int))) i ?_ ?_ (by omega)
   ·intro k hk r'
    have e1:(v.Credits[k].Kind==v.Credits[i].Kind)=false:=by simpa using d1x h.crp hi hk
    unfold a5w
    simp only [b3u hk,if_true,a0c (show k<v.Credits.length by omega),a0c hi,Option.bind_some,e1,Bool.false_eq_true,if_false,a4f (show k <= 1000000 by omega)]
   ·intro r'
    unfold a5w
    simp only [a4u,Bool.false_eq_true,if_false,a4f (show i <= 1000000 by omega)]
  ·intro r
   unfold a3o
   simp only [a4u,Bool.false_eq_true,if_false]
   exact l3
 unfold a55
 simp only [h.l5,Option.bind_some,show ((0:Int) != 0)=false from rfl,Bool.false_eq_true,if_false]
 exact l1
end
theorem d78 {x:Statute} (h:SOK x):a2d x=some (0,0):=by
 have hf:=a1o
 unfold a2d
 simp only [e2v h,Option.bind_some,Bool.not_true,Bool.false_eq_true,if_false]
 refine k9 (fun i=>(x,(i:Int))) x.Versions.length ?_ ?_ (by have:=h.l1;omega)
 ·intro i hi r
  obtain ⟨env,hv⟩:=h.vs _ (List.getElem_mem hi)
  have:=h.l1
  unfold a5s
  simp only [b3u hi,if_true,a0c hi,Option.bind_some]
  have e:((if decide ((i:Int)>0) then (i7 x.Versions (i64 ((i:Int)-1))).bind fun v5=>some (decide (x.Versions[i].From <= v5.From)) else some false):Option Bool)=some false:=by
   cases i with
   | zero=>rfl
   | succ i=>
     have hlt:=List.pairwise_iff_getElem.1 h.vp i (i+1) (by omega) hi (by omega)
     have e1:decide (((i+1:Nat):Int)>0)=true:=by simp
     have e2:i64 (((i+1:Nat):Int)-1)=(i:Int):=by rw [u4 (by omega) (by omega)];omega
     have e3:decide (x.Versions[i+1].From <= x.Versions[i].From)=false:=by simp;omega
     simp only [e1,if_true,e2,a0c (show i<x.Versions.length by omega),Option.bind_some,e3]
  rw [e,Option.bind_some]
  simp only [Bool.false_eq_true,if_false,d5x hv,Option.bind_some,show ((0:Int) != 0)=false from rfl,a4f (show i <= 1000000 by omega)]
 ·intro r
  unfold a5s
  simp only [a4u,Bool.false_eq_true,if_false]
end Go.PL
namespace Go.PL
open Go Go.SX
theorem a70 (l:List Int) (k:Int) (s:ByteArray) (hl:l.length <= 9223372036854775807) (hs:s.size <= 2400):Tot (a0u (l,k,s)) fun r=>r.size <= 2500:=by
 unfold a0u
 try dsimp only
 have hstr__7d_:b02.size=2:=by decide
 have hstrh_a41f67:b44.size=51:=by decide
 refine Tot.bind (a0z _ _ hl) fun v105 hv105=> ?_
 refine Tot.bind (a2b (by omega) (by omega)) fun v106 hv106=> ?_
 refine Tot.ite (fun hc=> ?_) fun hc=> ?_
 ·skip
  refine Tot.bind (g7 (by omega)) fun v107 hv107=> ?_
  refine Tot.bind (g7 (by omega)) fun v108 hv108=> ?_
  exact Tot.some (by first | exact trivial | omega)
 ·skip
  refine Tot.bind (g7 (by omega)) fun v109 hv109=> ?_
  exact Tot.some (by first | exact trivial | omega)
theorem a72 (l:List Int) (k:Int) (s:ByteArray) (hl:l.length <= 9223372036854775807) (hs:s.size <= 1900):Tot (a0t (l,k,s)) fun r=>r.size <= 2500:=by
 unfold a0t
 try dsimp only
 have hstr__3b_:a39.size=2:=by decide
 have hstr_d_pay_:c0j.size=6:=by decide
 have hstr_reduce_old_by_:a8z.size=14:=by decide
 have hstrh_635cfa:b72.size=14:=by decide
 have hstrh_a54acb:b7x.size=27:=by decide
 have hstrh_af57c7:b86.size=27:=by decide
 have hstrh_bfa283:b7s.size=29:=by decide
 refine Tot.bind (a0z _ _ hl) fun v79 hv79=> ?_
 refine Tot.bind (a2b (by omega) (by omega)) fun v80 hv80=> ?_
 refine Tot.bind (a6v (by omega) (by omega)) fun v81 hv81=> ?_
 refine Tot.bind (g7 (by omega)) fun v82 hv82=> ?_
 refine Tot.bind (g7 (by omega)) fun v83 hv83=> ?_
 refine Tot.bind (a0z _ _ hl) fun v84 hv84=> ?_
 refine Tot.bind (a2b (by omega) (by omega)) fun v85 hv85=> ?_
 refine Tot.bind (b6g (by omega) (by omega)) fun v86 hv86=> ?_
 refine Tot.bind (g7 (by omega)) fun v87 hv87=> ?_
 refine Tot.bind (g7 (by omega)) fun v88 hv88=> ?_
 refine Tot.bind (g7 (by omega)) fun v89 hv89=> ?_
 refine Tot.bind (a0z _ _ hl) fun v90 hv90=> ?_
 refine Tot.bind (a2b (by omega) (by omega)) fun v91 hv91=> ?_
 refine Tot.bind (a6v (by omega) (by omega)) fun v92 hv92=> ?_
 refine Tot.bind (g7 (by omega)) fun v93 hv93=> ?_
 refine Tot.bind (g7 (by omega)) fun v94 hv94=> ?_
 refine Tot.bind (g7 (by omega)) fun v95 hv95=> ?_
 refine Tot.bind (a0z _ _ hl) fun v96 hv96=> ?_
 refine Tot.bind (a2b (by omega) (by omega)) fun v97 hv97=> ?_
 refine Tot.ite (fun hc=> ?_) fun hc=> ?_
 ·skip
  refine Tot.bind (a0z _ _ hl) fun v98 hv98=> ?_
  refine Tot.bind (a2b (by omega) (by omega)) fun v99 hv99=> ?_
  refine Tot.bind (b58 (by omega) (by omega)) fun v100 hv100=> ?_
  refine Tot.bind (g7 (by omega)) fun v101 hv101=> ?_
  refine Tot.bind (g7 (by omega)) fun v102 hv102=> ?_
  refine Tot.bind (g7 (by omega)) fun v103 hv103=> ?_
  exact Tot.join (a70 _ _ _ hl (by omega))
 ·skip
  exact Tot.join (a70 _ _ _ hl (by omega))
theorem a6y (l:List Int) (k:Int) (t s:ByteArray) (hl:l.length <= 9223372036854775807) (ht:t.size <= 8) (hs:s.size <= 900):Tot (a0w (l,k,t,s)) fun r=>r.size <= 2500:=by
 unfold a0w
 try dsimp only
 have hstr__3b_:a39.size=2:=by decide
 have hstr_m_29_3b_:b5o.size=4:=by decide
 have hstrh_196854:b7o.size=22:=by decide
 have hstrh_34ba8d:b7l.size=9:=by decide
 have hstrh_4d1f9b:b7v.size=13:=by decide
 have hstrh_58c487:b78.size=16:=by decide
 have hstrh_7bee7c:b83.size=31:=by decide
 have hstrh_7ff122:b7j.size=25:=by decide
 have hstrh_85bf07:b71.size=13:=by decide
 have hstrh_98dd23:b7h.size=20:=by decide
 have hstrh_b388fe:b7u.size=66:=by decide
 have hstrh_d82640:b7p.size=23:=by decide
 have hstrh_da8d59:b7f.size=26:=by decide
 refine Tot.bind (a0z _ _ hl) fun v29 hv29=> ?_
 refine Tot.bind (a2b (by omega) (by omega)) fun v30 hv30=> ?_
 refine Tot.bind (b58 (by omega) (by omega)) fun v31 hv31=> ?_
 refine Tot.bind (g7 (by omega)) fun v32 hv32=> ?_
 refine Tot.bind (g7 (by omega)) fun v33 hv33=> ?_
 refine Tot.bind (a0z _ _ hl) fun v34 hv34=> ?_
 refine Tot.bind (a2b (by omega) (by omega)) fun v35 hv35=> ?_
 refine Tot.bind (b58 (by omega) (by omega)) fun v36 hv36=> ?_
 refine Tot.bind (g7 (by omega)) fun v37 hv37=> ?_
 refine Tot.bind (g7 (by omega)) fun v38 hv38=> ?_
 refine Tot.bind (g7 (by omega)) fun v39 hv39=> ?_
 refine Tot.bind (g7 (by omega)) fun v40 hv40=> ?_
 refine Tot.bind (g7 (by omega)) fun v41 hv41=> ?_
 refine Tot.bind (a0z _ _ hl) fun v42 hv42=> ?_
 refine Tot.bind (a2b (by omega) (by omega)) fun v43 hv43=> ?_
 refine Tot.bind (b58 (by omega) (by omega)) fun v44 hv44=> ?_
 refine Tot.bind (g7 (by omega)) fun v45 hv45=> ?_
 refine Tot.bind (g7 (by omega)) fun v46 hv46=> ?_
 refine Tot.bind (g7 (by omega)) fun v47 hv47=> ?_
 refine Tot.bind (a0z _ _ hl) fun v48 hv48=> ?_
 refine Tot.bind (a2b (by omega) (by omega)) fun v49 hv49=> ?_
 refine Tot.bind (b6g (by omega) (by omega)) fun v50 hv50=> ?_
 refine Tot.bind (g7 (by omega)) fun v51 hv51=> ?_
 refine Tot.bind (g7 (by omega)) fun v52 hv52=> ?_
 refine Tot.bind (a0z _ _ hl) fun v53 hv53=> ?_
 refine Tot.bind (a2b (by omega) (by omega)) fun v54 hv54=> ?_
 refine Tot.bind (a6v (by omega) (by omega)) fun v55 hv55=> ?_
 refine Tot.bind (g7 (by omega)) fun v56 hv56=> ?_
 refine Tot.bind (g7 (by omega)) fun v57 hv57=> ?_
 refine Tot.bind (a0z _ _ hl) fun v58 hv58=> ?_
 refine Tot.bind (a2b (by omega) (by omega)) fun v59 hv59=> ?_
 refine Tot.bind (a6v (by omega) (by omega)) fun v60 hv60=> ?_
 refine Tot.bind (g7 (by omega)) fun v61 hv61=> ?_
 refine Tot.bind (g7 (by omega)) fun v62 hv62=> ?_
 refine Tot.bind (g7 (by omega)) fun v63 hv63=> ?_
 refine Tot.bind (a0z _ _ hl) fun v64 hv64=> ?_
 refine Tot.bind (a2b (by omega) (by omega)) fun v65 hv65=> ?_
 refine Tot.bind (a6v (by omega) (by omega)) fun v66 hv66=> ?_
 refine Tot.bind (g7 (by omega)) fun v67 hv67=> ?_
 refine Tot.bind (g7 (by omega)) fun v68 hv68=> ?_
 refine Tot.bind (a0z _ _ hl) fun v69 hv69=> ?_
 refine Tot.bind (a2b (by omega) (by omega)) fun v70 hv70=> ?_
 refine Tot.bind (b58 (by omega) (by omega)) fun v71 hv71=> ?_
 refine Tot.bind (g7 (by omega)) fun v72 hv72=> ?_
 refine Tot.bind (g7 (by omega)) fun v73 hv73=> ?_
 refine Tot.bind (g7 (by omega)) fun v74 hv74=> ?_
 refine Tot.bind (a0z _ _ hl) fun v75 hv75=> ?_
 refine Tot.bind (a2b (by omega) (by omega)) fun v76 hv76=> ?_
 refine Tot.ite (fun hc=> ?_) fun hc=> ?_
 ·skip
  refine Tot.bind (g7 (by omega)) fun v77 hv77=> ?_
  exact Tot.join (a72 _ _ _ hl (by omega))
 ·skip
  exact Tot.join (a72 _ _ _ hl (by omega))
theorem a73 (l:List Int) (k:Int) (t s:ByteArray) (hl:l.length <= 9223372036854775807) (ht:t.size <= 8) (hs:s.size <= 800):Tot (a0s (l,k,t,s)) fun r=>r.size <= 2500:=by
 unfold a0s
 try dsimp only
 have hstrh_2afe9d:b7b.size=18:=by decide
 refine Tot.bind (a0z _ _ hl) fun v25 hv25=> ?_
 refine Tot.bind (a2b (by omega) (by omega)) fun v26 hv26=> ?_
 refine Tot.ite (fun hc=> ?_) fun hc=> ?_
 ·skip
  refine Tot.bind (g7 (by omega)) fun v27 hv27=> ?_
  exact Tot.join (a6y _ _ _ _ hl ht (by omega))
 ·skip
  exact Tot.join (a6y _ _ _ _ hl ht (by omega))
theorem a1z (l:List Int) (k:Int) (t s:ByteArray) (hl:l.length <= 9223372036854775807) (ht:t.size <= 8) (hs:s.size <= 400):Tot (y6 (l,k,t,s)) fun r=>r.size <= 2500:=by
 unfold y6
 try dsimp only
 have hstr__3b_:a39.size=2:=by decide
 have hstrh_405077:b87.size=19:=by decide
 have hstrh_f7dc2d:b84.size=42:=by decide
 refine Tot.bind (a0z _ _ hl) fun v10 hv10=> ?_
 refine Tot.bind (a2b (by omega) (by omega)) fun v11 hv11=> ?_
 refine Tot.bind (b6g (by omega) (by omega)) fun v12 hv12=> ?_
 refine Tot.bind (g7 (by omega)) fun v13 hv13=> ?_
 refine Tot.bind (g7 (by omega)) fun v14 hv14=> ?_
 refine Tot.bind (g7 (by omega)) fun v15 hv15=> ?_
 refine Tot.bind (a0z _ _ hl) fun v16 hv16=> ?_
 refine Tot.bind (a2b (by omega) (by omega)) fun v17 hv17=> ?_
 refine Tot.ite (fun hc=> ?_) fun hc=> ?_
 ·skip
  refine Tot.bind (a0z _ _ hl) fun v18 hv18=> ?_
  refine Tot.bind (a2b (by omega) (by omega)) fun v19 hv19=> ?_
  refine Tot.bind (b6g (by omega) (by omega)) fun v20 hv20=> ?_
  refine Tot.bind (g7 (by omega)) fun v21 hv21=> ?_
  refine Tot.bind (g7 (by omega)) fun v22 hv22=> ?_
  refine Tot.bind (g7 (by omega)) fun v23 hv23=> ?_
  exact Tot.join (a73 _ _ _ _ hl ht (by omega))
 ·skip
  exact Tot.join (a73 _ _ _ _ hl ht (by omega))
theorem a0l (a:ByteArray) (l:List Int) (k:Int) (hl:l.length <= 9223372036854775807) (ha:a.size <= 20):Tot (a0e a l k) fun r=>r.size <= 2500:=by
 unfold a0e
 try dsimp only
 have hstr___7b_round_:a8r.size=9:=by decide
 have hstr_down_1_3b_:b2w.size=8:=by decide
 have hstr_even_10_3b_:b1u.size=9:=by decide
 have hstr_from__40:b2h.size=6:=by decide
 have hstr_half_5_3b_:b2u.size=8:=by decide
 have hstr_up_1_3b_:b5k.size=6:=by decide
 refine Tot.bind (a0z _ _ hl) fun v1 hv1=> ?_
 refine Tot.bind (a2b (by omega) (by omega)) fun v2 hv2=> ?_
 refine Tot.bind (b6g (by omega) (by omega)) fun v3 hv3=> ?_
 refine Tot.bind (g7 (by omega)) fun v4 hv4=> ?_
 refine Tot.bind (g7 (by omega)) fun v5 hv5=> ?_
 refine Tot.bind (a0z _ _ hl) fun v6 hv6=> ?_
 refine Tot.bind (a2b (by omega) (by omega)) fun v7 hv7=> ?_
 refine Tot.ite (fun hc=> ?_) fun hc=> ?_
 ·skip
  refine Tot.bind (g7 (by omega)) fun v8 hv8=> ?_
  exact Tot.join (a1z _ _ _ _ hl (by omega) (by omega))
 ·skip
  refine Tot.ite (fun hc=> ?_) fun hc=> ?_
  ·skip
   refine Tot.bind (g7 (by omega)) fun v110 hv110=> ?_
   exact Tot.join (a1z _ _ _ _ hl (by omega) (by omega))
  ·skip
   refine Tot.ite (fun hc=> ?_) fun hc=> ?_
   ·skip
    refine Tot.bind (g7 (by omega)) fun v111 hv111=> ?_
    exact Tot.join (a1z _ _ _ _ hl (by omega) (by omega))
   ·skip
    refine Tot.bind (g7 (by omega)) fun v112 hv112=> ?_
    exact Tot.join (a1z _ _ _ _ hl (by omega) (by omega))
theorem a93 (k:Int) (l:List Int) (s:ByteArray) (hl:l.length <= 9223372036854775807) (hs:s.size <= 6000):Tot (a28 (k,l,s)) fun r=>True:=by
 unfold a28
 try dsimp only
 have hstr_2001_2d01_2d01:a5y.size=10:=by decide
 have hstr__7d:a2c.size=1:=by decide
 refine Tot.bind (a0z _ _ hl) fun v15 hv15=> ?_
 refine Tot.bind (a2b (by omega) (by omega)) fun v16 hv16=> ?_
 refine Tot.ite (fun hc=> ?_) fun hc=> ?_
 ·skip
  refine Tot.bind (a0l _ _ _ hl (by decide)) fun v17 hv17=> ?_
  refine Tot.bind (g7 (by omega)) fun v18 hv18=> ?_
  refine Tot.bind (g7 (by omega)) fun v19 hv19=> ?_
  exact Tot.some (by first | exact trivial | omega)
 ·skip
  refine Tot.bind (g7 (by omega)) fun v20 hv20=> ?_
  exact Tot.some (by first | exact trivial | omega)
theorem b6o {k:Int} (l:List Int) (hl:l.length <= 9223372036854775807) (h0:0 <= k) (h3:k<3):Tot (a0k k l) fun r=>True:=by
 unfold a0k
 try dsimp only
 have hstr_1900_2d01_2d01:a5z.size=10:=by decide
 have hstr_1996_2d07_2d01:a61.size=10:=by decide
 have hstr___7b_:b8j.size=3:=by decide
 have hstr__currency_:a9x.size=10:=by decide
 have hstr_alba:b4l.size=4:=by decide
 have hstr_bora:b4o.size=4:=by decide
 have hstr_cedar:b1p.size=5:=by decide
 have hstr_statute_:b2i.size=8:=by decide
 have hn: ∀x∈[b4l,b4o,b1p],x.size <= 10:=by decide
 refine Tot.bind (c25 (l:=[b4l,b4o,b1p]) h0 h3) fun v1 hv1=> ?_
 refine Tot.bind (c25 (l:=[b4l,b4o,b1p]) h0 h3) fun v2 hv2=> ?_
 have hv2:=hn v2 hv2
 refine Tot.bind (g7 (by omega)) fun v3 hv3=> ?_
 refine Tot.bind (g7 (by omega)) fun v4 hv4=> ?_
 refine Tot.bind (b6g (by omega) (by omega)) fun v5 hv5=> ?_
 refine Tot.bind (g7 (by omega)) fun v6 hv6=> ?_
 refine Tot.bind (g7 (by omega)) fun v7 hv7=> ?_
 refine Tot.bind (a0l _ _ _ hl (by decide)) fun v8 hv8=> ?_
 refine Tot.bind (g7 (by omega)) fun v9 hv9=> ?_
 refine Tot.bind (a0z _ _ hl) fun v10 hv10=> ?_
 refine Tot.bind (a2b (by omega) (by omega)) fun v11 hv11=> ?_
 refine Tot.ite (fun hc=> ?_) fun hc=> ?_
 ·skip
  refine Tot.bind (a0l _ _ _ hl (by decide)) fun v12 hv12=> ?_
  refine Tot.bind (g7 (by omega)) fun v13 hv13=> ?_
  exact Tot.join (a93 _ _ _ hl (by omega))
 ·skip
  exact Tot.join (a93 _ _ _ hl (by omega))
end Go.PL
namespace Go.PL
open Go Go.SX
theorem w9 {a b c:ByteArray} (h:a3j a b=some c):bl c=bl a++bl b:=by
 unfold a3j at h
 split at h
 ·have h:=Option.some.inj h
  subst h
  unfold bl
  rw [ByteArray.data_append,Array.toList_append]
 ·cases h
theorem a3g {a n v:Int} (h:d8 a n=some v) (hn:0<n) (h1:n <= 9223372036854775807):0 <= v /\ v<n:=by
 obtain ⟨r,hr,h2⟩:=a2b (a:=a) hn h1
 rw [hr] at h
 have h:=Option.some.inj h
 subst h
 exact h2
theorem c4k {x:Int} {s:ByteArray} (h:i6 x=some s) {n:Nat} (e:x=(n:Int)) (hn:n<1000000):bl s=a7i 20 n:=by
 subst e
 rw [b4g hn] at h
 have h:=Option.some.inj h
 subst h
 rfl
theorem e1b {x:Int} {s:ByteArray} (h:p8 x=some s) {n:Nat} (e:x=(n:Int)) (hn:n<1000):bl s=c6e n:=by
 subst e
 rw [d1f hn] at h
 have h:=Option.some.inj h
 subst h
 rfl
def T (l:List (List Lx×Cl)):List UInt8:=y8 (fl l)
theorem c0u (p:List Lx×Cl) (l:List (List Lx×Cl)):T (p::l)=y8 p.1++T l:=by
 unfold T fl
 rw [List.flatMap_cons,a3a]
theorem c92:T []=[]:=rfl
theorem b4m (a b:List (List Lx×Cl)):T (a++b)=T a++T b:=by
 unfold T fl
 rw [List.flatMap_append,a3a]
theorem tEnd:y8 [Sg a2c]=bl b02:=rfl
theorem tC67 (n:Nat):y8 lC6++y8 (lC7 n)=bl b84++(a7i 20 n++bl a39):=by
 simp only [y8,lC6,lC7,W,Sg,Wn,Sh,num,N,blk,cond_true,cond_false,List.append_assoc,List.nil_append];rfl
theorem tC10 (n:Nat):y8 (f2f n)=bl b87++(a7i 20 n++bl a39):=by
 simp only [y8,f2f,W,Sg,Wn,Sh,num,N,blk,cond_true,cond_false,List.append_assoc,List.nil_append];rfl
theorem tC5:y8 lC5=bl b7b:=by kernel_rfl
theorem tI (w1 w2:List UInt8) (v1 v2:Fraction):y8 lI0++(y8 (lI1 w1 v1)++y8 (lI2 w2 v2))=bl b7j++(w1++(bl b71++(w2++bl a39))):=by
 simp only [y8,lI0,lI1,lI2,W,Sg,Wn,Sh,num,N,blk,cond_true,cond_false,List.append_assoc,List.nil_append];rfl
theorem tL (n:Nat) (w:List UInt8) (v:Fraction):y8 (lL1 n)++y8 (lL2 w v)=bl b7o++(a7i 20 n++(bl b7f++(w++bl b7l))):=by
 simp only [y8,lL1,lL2,W,Sg,Wn,Sh,num,N,blk,cond_true,cond_false,List.append_assoc,List.nil_append];rfl
theorem tG1 (a i m:Nat):y8 (lG1 a i m)=bl b7h++(a7i 20 a++(bl b78++(a7i 20 i++(bl b7p++(a7i 20 m++bl b5o))))):=by
 simp only [y8,lG1,W,Sg,Wn,Sh,num,N,blk,cond_true,cond_false,List.append_assoc,List.nil_append];rfl
theorem tG2 (i:Nat) (w:List UInt8) (v:Fraction):y8 (lG2 i w v)=bl b83++(a7i 20 i++(bl b7v++(w++bl a39))):=by
 simp only [y8,lG2,W,Sg,Wn,Sh,num,N,blk,cond_true,cond_false,List.append_assoc,List.nil_append];rfl
theorem tG3:y8 lG3=bl b7u:=by kernel_rfl
theorem tG4 (i m:Nat):y8 (lG4 i m)=bl b86++(a7i 20 i++(bl c0j++(a7i 20 m++bl b72))):=by
 simp only [y8,lG4,W,Sg,Wn,Sh,num,N,blk,cond_true,cond_false,List.append_assoc,List.nil_append];rfl
theorem tG5 (i:Nat):y8 (lG5 i)=bl b7s++(a7i 20 i++bl b7x):=by
 simp only [y8,lG5,W,Sg,Wn,Sh,num,N,blk,cond_true,cond_false,List.append_assoc,List.nil_append];rfl
theorem tR1 (w:List UInt8) (v:Fraction):y8 (lR1 w v)=bl a8z++(w++bl a39):=by
 simp only [y8,lR1,W,Sg,Wn,Sh,num,N,blk,cond_true,cond_false,List.append_assoc,List.nil_append];rfl
theorem tR2:y8 lR2=bl b44:=by kernel_rfl
def q5 (c5:Bool):List (List Lx×Cl):=if c5 then [(lR2,.reduce 2 aR2)] else []
def q4 (g4i g4m g5i nr:Nat) (c4 c5:Bool):List (List Lx×Cl):=[(lG4 g4i g4m,.grant 4 (d6a g4i) (f5f g4m)),(lG5 g5i,.grant 5 (d6a g5i) f5s)]++((if c4 then [(lR1 (c6e nr) (b2f nr),.reduce 1 (aR1 (b2f nr)))] else [])++q5 c5)
def q3 (na nb np yr g1a g1i g1m g2i nd g4i g4m g5i nr:Nat) (c3 c4 c5:Bool):List (List Lx×Cl):=
 [(lI0,.index 1960 ⟨1,1⟩),(lI1 (c6e na) (b2f na),.index 1980 (b2f na)),(lI2 (c6e nb) (b2f nb),.index 1995 (b2f nb)),(lL1 yr,.lett a1x (aL1 yr)),(lL2 (c6e np) (b2f np),.lett a6z (aL2 (b2f np))),
   (lG1 g1a g1i g1m,.grant 1 (f6g g1a g1i) (f4m g1m)),(lG2 g2i (c6e nd) (b2f nd),.grant 2 (d6a g2i) (f69 (b2f nd)))]++
 ((if c3 then [(lG3,.grant 3 f2g f1o)] else [])++q4 g4i g4m g5i nr c4 c5)
structure Q4OK (g4i g4m g5i nr:Nat):Prop where
 h1:g4i <= 100000
 h2:g4m <= 100000
 h3:g5i <= 100000
 h4:nr<700
structure Q3OK (na nb np g1a g1i g1m g2i nd:Nat):Prop where
 h1:1 <= na
 h2:na<700
 h3:1 <= nb
 h4:nb<700
 h5:np<700
 h6:nd<700
 h7:g1a <= 100000
 h8:g1i <= 100000
 h9:g1m <= 100000
 h10:g2i <= 100000
section
variable {n:List Int} {k:Int} {pre r:ByteArray}
theorem d9g (hr:g9 a0u (n,k,pre)=some r): ∃c5,bl r=bl pre++(T (q5 c5)++bl b02):=by
 unfold g9 a0u at hr
 dsimp only at hr
 obtain ⟨v105,h105,hr⟩:=Option.bind_eq_some_iff.1 hr
 obtain ⟨v106,h106,hr⟩:=Option.bind_eq_some_iff.1 hr
 have b106:=a3g h106 (by decide) (by decide)
 obtain ⟨v106,rfl⟩:=Int.eq_ofNat_of_zero_le b106.1
 split at hr
 ·refine ⟨true,?_⟩
  obtain ⟨v107,h107,hr⟩:=Option.bind_eq_some_iff.1 hr
  have t107:=w9 h107
  obtain ⟨v108,h108,hr⟩:=Option.bind_eq_some_iff.1 hr
  have t108:=w9 h108
  have hr:=Option.some.inj hr
  subst hr
  have e5:T (q5 true)=bl b44:=by
   unfold q5
   rw [if_pos rfl,c0u,c92,List.append_nil]
   exact tR2
  rw [t108,t107,List.append_assoc,e5]
 ·refine ⟨false,?_⟩
  obtain ⟨v109,h109,hr⟩:=Option.bind_eq_some_iff.1 hr
  have t109:=w9 h109
  have hr:=Option.some.inj hr
  subst hr
  rw [t109]
  rfl
theorem e23 (hr:g9 a0t (n,k,pre)=some r): ∃g4i g4m g5i nr c4 c5,Q4OK g4i g4m g5i nr /\ bl r=bl pre++(T (q4 g4i g4m g5i nr c4 c5)++bl b02):=by
 unfold g9 a0t at hr
 dsimp only at hr
 obtain ⟨v79,h79,hr⟩:=Option.bind_eq_some_iff.1 hr
 obtain ⟨v80,h80,hr⟩:=Option.bind_eq_some_iff.1 hr
 have b80:=a3g h80 (by decide) (by decide)
 obtain ⟨v80,rfl⟩:=Int.eq_ofNat_of_zero_le b80.1
 obtain ⟨v81,h81,hr⟩:=Option.bind_eq_some_iff.1 hr
 have t81:=c4k h81 (n:=v80) rfl (by omega)
 obtain ⟨v82,h82,hr⟩:=Option.bind_eq_some_iff.1 hr
 have t82:=w9 h82
 obtain ⟨v83,h83,hr⟩:=Option.bind_eq_some_iff.1 hr
 have t83:=w9 h83
 obtain ⟨v84,h84,hr⟩:=Option.bind_eq_some_iff.1 hr
 obtain ⟨v85,h85,hr⟩:=Option.bind_eq_some_iff.1 hr
 have b85:=a3g h85 (by decide) (by decide)
 obtain ⟨v85,rfl⟩:=Int.eq_ofNat_of_zero_le b85.1
 obtain ⟨v86,h86,hr⟩:=Option.bind_eq_some_iff.1 hr
 have t86:=c4k h86 (n:=10+v85) (by rw [u4 (by omega) (by omega)];omega) (by omega)
 obtain ⟨v87,h87,hr⟩:=Option.bind_eq_some_iff.1 hr
 have t87:=w9 h87
 obtain ⟨v88,h88,hr⟩:=Option.bind_eq_some_iff.1 hr
 have t88:=w9 h88
 obtain ⟨v89,h89,hr⟩:=Option.bind_eq_some_iff.1 hr
 have t89:=w9 h89
 obtain ⟨v90,h90,hr⟩:=Option.bind_eq_some_iff.1 hr
 obtain ⟨v91,h91,hr⟩:=Option.bind_eq_some_iff.1 hr
 have b91:=a3g h91 (by decide) (by decide)
 obtain ⟨v91,rfl⟩:=Int.eq_ofNat_of_zero_le b91.1
 obtain ⟨v92,h92,hr⟩:=Option.bind_eq_some_iff.1 hr
 have t92:=c4k h92 (n:=v91) rfl (by omega)
 obtain ⟨v93,h93,hr⟩:=Option.bind_eq_some_iff.1 hr
 have t93:=w9 h93
 obtain ⟨v94,h94,hr⟩:=Option.bind_eq_some_iff.1 hr
 have t94:=w9 h94
 obtain ⟨v95,h95,hr⟩:=Option.bind_eq_some_iff.1 hr
 have t95:=w9 h95
 obtain ⟨v96,h96,hr⟩:=Option.bind_eq_some_iff.1 hr
 obtain ⟨v97,h97,hr⟩:=Option.bind_eq_some_iff.1 hr
 have b97:=a3g h97 (by decide) (by decide)
 obtain ⟨v97,rfl⟩:=Int.eq_ofNat_of_zero_le b97.1
 split at hr
 ·have hr0:=hr
  obtain ⟨v98,h98,hr⟩:=Option.bind_eq_some_iff.1 hr
  obtain ⟨v99,h99,hr⟩:=Option.bind_eq_some_iff.1 hr
  have b99:=a3g h99 (by decide) (by decide)
  obtain ⟨v99,rfl⟩:=Int.eq_ofNat_of_zero_le b99.1
  obtain ⟨v100,h100,hr⟩:=Option.bind_eq_some_iff.1 hr
  have t100:=e1b h100 (n:=10*v99) (by rw [u4 (by omega) (by omega)];omega) (by omega)
  obtain ⟨v101,h101,hr⟩:=Option.bind_eq_some_iff.1 hr
  have t101:=w9 h101
  obtain ⟨v102,h102,hr⟩:=Option.bind_eq_some_iff.1 hr
  have t102:=w9 h102
  obtain ⟨v103,h103,hr⟩:=Option.bind_eq_some_iff.1 hr
  have t103:=w9 h103
  obtain ⟨c5,e⟩:=d9g hr
  refine ⟨v80,10+v85,v91,10*v99,true,c5,⟨by omega,by omega,by omega,by omega⟩,?_⟩
  rw [e,t103,t102,t101,t100,t95,t94,t93,t92,t89,t88,t87,t86,t83,t82,t81]
  simp only [q4,if_true,b4m,c0u,c92,tG4,tG5,tR1,List.append_assoc,List.append_nil,List.nil_append]
 ·obtain ⟨c5,e⟩:=d9g hr
  refine ⟨v80,10+v85,v91,0,false,c5,⟨by omega,by omega,by omega,by omega⟩,?_⟩
  rw [e,t95,t94,t93,t92,t89,t88,t87,t86,t83,t82,t81]
  simp only [q4,Bool.false_eq_true,if_false,b4m,c0u,c92,tG4,tG5,List.append_assoc,List.append_nil,List.nil_append]
theorem e1j {yt:ByteArray} {yr:Nat} (hy:bl yt=a7i 20 yr) (hr:g9 a0w (n,k,yt,pre)=some r): ∃na nb np g1a g1i g1m g2i nd g4i g4m g5i nr c3 c4 c5,Q3OK na nb np g1a g1i g1m g2i nd /\ Q4OK g4i g4m g5i nr /\ bl r=bl pre++(T (q3 na nb np yr g1a g1i g1m g2i nd g4i g4m g5i nr c3 c4 c5)++bl b02):=by
 unfold g9 a0w at hr
 dsimp only at hr
 obtain ⟨v29,h29,hr⟩:=Option.bind_eq_some_iff.1 hr
 obtain ⟨v30,h30,hr⟩:=Option.bind_eq_some_iff.1 hr
 have b30:=a3g h30 (by decide) (by decide)
 obtain ⟨v30,rfl⟩:=Int.eq_ofNat_of_zero_le b30.1
 obtain ⟨v31,h31,hr⟩:=Option.bind_eq_some_iff.1 hr
 have t31:=e1b h31 (n:=100+v30) (by rw [u4 (by omega) (by omega)];omega) (by omega)
 obtain ⟨v32,h32,hr⟩:=Option.bind_eq_some_iff.1 hr
 have t32:=w9 h32
 obtain ⟨v33,h33,hr⟩:=Option.bind_eq_some_iff.1 hr
 have t33:=w9 h33
 obtain ⟨v34,h34,hr⟩:=Option.bind_eq_some_iff.1 hr
 obtain ⟨v35,h35,hr⟩:=Option.bind_eq_some_iff.1 hr
 have b35:=a3g h35 (by decide) (by decide)
 obtain ⟨v35,rfl⟩:=Int.eq_ofNat_of_zero_le b35.1
 obtain ⟨v36,h36,hr⟩:=Option.bind_eq_some_iff.1 hr
 have t36:=e1b h36 (n:=400+v35) (by rw [u4 (by omega) (by omega)];omega) (by omega)
 obtain ⟨v37,h37,hr⟩:=Option.bind_eq_some_iff.1 hr
 have t37:=w9 h37
 obtain ⟨v38,h38,hr⟩:=Option.bind_eq_some_iff.1 hr
 have t38:=w9 h38
 obtain ⟨v39,h39,hr⟩:=Option.bind_eq_some_iff.1 hr
 have t39:=w9 h39
 obtain ⟨v40,h40,hr⟩:=Option.bind_eq_some_iff.1 hr
 have t40:=w9 h40
 obtain ⟨v41,h41,hr⟩:=Option.bind_eq_some_iff.1 hr
 have t41:=w9 h41
 obtain ⟨v42,h42,hr⟩:=Option.bind_eq_some_iff.1 hr
 obtain ⟨v43,h43,hr⟩:=Option.bind_eq_some_iff.1 hr
 have b43:=a3g h43 (by decide) (by decide)
 obtain ⟨v43,rfl⟩:=Int.eq_ofNat_of_zero_le b43.1
 obtain ⟨v44,h44,hr⟩:=Option.bind_eq_some_iff.1 hr
 have t44:=e1b h44 (n:=1+v43) (by rw [u4 (by omega) (by omega)];omega) (by omega)
 obtain ⟨v45,h45,hr⟩:=Option.bind_eq_some_iff.1 hr
 have t45:=w9 h45
 obtain ⟨v46,h46,hr⟩:=Option.bind_eq_some_iff.1 hr
 have t46:=w9 h46
 obtain ⟨v47,h47,hr⟩:=Option.bind_eq_some_iff.1 hr
 have t47:=w9 h47
 obtain ⟨v48,h48,hr⟩:=Option.bind_eq_some_iff.1 hr
 obtain ⟨v49,h49,hr⟩:=Option.bind_eq_some_iff.1 hr
 have b49:=a3g h49 (by decide) (by decide)
 obtain ⟨v49,rfl⟩:=Int.eq_ofNat_of_zero_le b49.1
 obtain ⟨v50,h50,hr⟩:=Option.bind_eq_some_iff.1 hr
 have t50:=c4k h50 (n:=50+v49) (by rw [u4 (by omega) (by omega)];omega) (by omega)
 obtain ⟨v51,h51,hr⟩:=Option.bind_eq_some_iff.1 hr
 have t51:=w9 h51
 obtain ⟨v52,h52,hr⟩:=Option.bind_eq_some_iff.1 hr
 have t52:=w9 h52
 obtain ⟨v53,h53,hr⟩:=Option.bind_eq_some_iff.1 hr
 obtain ⟨v54,h54,hr⟩:=Option.bind_eq_some_iff.1 hr
 have b54:=a3g h54 (by decide) (by decide)
 obtain ⟨v54,rfl⟩:=Int.eq_ofNat_of_zero_le b54.1
 obtain ⟨v55,h55,hr⟩:=Option.bind_eq_some_iff.1 hr
 have t55:=c4k h55 (n:=v54) rfl (by omega)
 obtain ⟨v56,h56,hr⟩:=Option.bind_eq_some_iff.1 hr
 have t56:=w9 h56
 obtain ⟨v57,h57,hr⟩:=Option.bind_eq_some_iff.1 hr
 have t57:=w9 h57
 obtain ⟨v58,h58,hr⟩:=Option.bind_eq_some_iff.1 hr
 obtain ⟨v59,h59,hr⟩:=Option.bind_eq_some_iff.1 hr
 have b59:=a3g h59 (by decide) (by decide)
 obtain ⟨v59,rfl⟩:=Int.eq_ofNat_of_zero_le b59.1
 obtain ⟨v60,h60,hr⟩:=Option.bind_eq_some_iff.1 hr
 have t60:=c4k h60 (n:=v59) rfl (by omega)
 obtain ⟨v61,h61,hr⟩:=Option.bind_eq_some_iff.1 hr
 have t61:=w9 h61
 obtain ⟨v62,h62,hr⟩:=Option.bind_eq_some_iff.1 hr
 have t62:=w9 h62
 obtain ⟨v63,h63,hr⟩:=Option.bind_eq_some_iff.1 hr
 have t63:=w9 h63
 obtain ⟨v64,h64,hr⟩:=Option.bind_eq_some_iff.1 hr
 obtain ⟨v65,h65,hr⟩:=Option.bind_eq_some_iff.1 hr
 have b65:=a3g h65 (by decide) (by decide)
 obtain ⟨v65,rfl⟩:=Int.eq_ofNat_of_zero_le b65.1
 obtain ⟨v66,h66,hr⟩:=Option.bind_eq_some_iff.1 hr
 have t66:=c4k h66 (n:=v65) rfl (by omega)
 obtain ⟨v67,h67,hr⟩:=Option.bind_eq_some_iff.1 hr
 have t67:=w9 h67
 obtain ⟨v68,h68,hr⟩:=Option.bind_eq_some_iff.1 hr
 have t68:=w9 h68
 obtain ⟨v69,h69,hr⟩:=Option.bind_eq_some_iff.1 hr
 obtain ⟨v70,h70,hr⟩:=Option.bind_eq_some_iff.1 hr
 have b70:=a3g h70 (by decide) (by decide)
 obtain ⟨v70,rfl⟩:=Int.eq_ofNat_of_zero_le b70.1
 obtain ⟨v71,h71,hr⟩:=Option.bind_eq_some_iff.1 hr
 have t71:=e1b h71 (n:=20+v70) (by rw [u4 (by omega) (by omega)];omega) (by omega)
 obtain ⟨v72,h72,hr⟩:=Option.bind_eq_some_iff.1 hr
 have t72:=w9 h72
 obtain ⟨v73,h73,hr⟩:=Option.bind_eq_some_iff.1 hr
 have t73:=w9 h73
 obtain ⟨v74,h74,hr⟩:=Option.bind_eq_some_iff.1 hr
 have t74:=w9 h74
 obtain ⟨v75,h75,hr⟩:=Option.bind_eq_some_iff.1 hr
 obtain ⟨v76,h76,hr⟩:=Option.bind_eq_some_iff.1 hr
 have b76:=a3g h76 (by decide) (by decide)
 obtain ⟨v76,rfl⟩:=Int.eq_ofNat_of_zero_le b76.1
 have eI:=tI (c6e (100+v30)) (c6e (400+v35)) (b2f (100+v30)) (b2f (400+v35))
 have eL:=tL yr (c6e (1+v43)) (b2f (1+v43))
 split at hr
 ·have hr0:=hr
  obtain ⟨v77,h77,hr⟩:=Option.bind_eq_some_iff.1 hr
  have t77:=w9 h77
  obtain ⟨g4i,g4m,g5i,nr,c4,c5,hq,e⟩:=e23 hr
  refine ⟨100+v30,400+v35,1+v43,50+v49,v54,v59,v65,20+v70,g4i,g4m,g5i,nr,true,c4,c5,⟨by omega,by omega,by omega,by omega,by omega,by omega,by omega,by omega,by omega,by omega⟩,hq,?_⟩
  rw [e,t77,t74,t73,t72,t71,t68,t67,t66,t63,t62,t61,t60,t57,t56,t55,t52,t51,t50,t47,t46,t45,t44,t41,t40,t39,t38,t37,t36,t33,t32,t31,hy]
  simp only [q3,if_true,b4m,c0u,c92,tG1,tG2,tG3,List.append_assoc,List.append_nil,List.nil_append]
  rw [<- List.append_assoc (y8 lI0),<- List.append_assoc _ (y8 (lI2 _ _)),List.append_assoc (y8 lI0),eI,<- List.append_assoc (y8 (lL1 yr)),eL]
  simp only [List.append_assoc]
 ·obtain ⟨g4i,g4m,g5i,nr,c4,c5,hq,e⟩:=e23 hr
  refine ⟨100+v30,400+v35,1+v43,50+v49,v54,v59,v65,20+v70,g4i,g4m,g5i,nr,false,c4,c5,⟨by omega,by omega,by omega,by omega,by omega,by omega,by omega,by omega,by omega,by omega⟩,hq,?_⟩
  rw [e,t74,t73,t72,t71,t68,t67,t66,t63,t62,t61,t60,t57,t56,t55,t52,t51,t50,t47,t46,t45,t44,t41,t40,t39,t38,t37,t36,t33,t32,t31,hy]
  simp only [q3,Bool.false_eq_true,if_false,b4m,c0u,c92,tG1,tG2,List.append_assoc,List.append_nil,List.nil_append]
  rw [<- List.append_assoc (y8 lI0),<- List.append_assoc _ (y8 (lI2 _ _)),List.append_assoc (y8 lI0),eI,<- List.append_assoc (y8 (lL1 yr)),eL]
  simp only [List.append_assoc]
end
end Go.PL
namespace Go.PL
open Go Go.SX
def f0d (yr:Nat) (l:List (List Lx×Cl)):Prop:= ∃na nb np g1a g1i g1m g2i nd g4i g4m g5i nr c3 c4 c5,Q3OK na nb np g1a g1i g1m g2i nd /\ Q4OK g4i g4m g5i nr /\ l=q3 na nb np yr g1a g1i g1m g2i nd g4i g4m g5i nr c3 c4 c5
def q2 (c2:Bool) (l:List (List Lx×Cl)):List (List Lx×Cl):=(if c2 then [(lC5,.credit 5 0)] else [])++l
def q1 (l7 l10:Nat) (c1 c2:Bool) (l:List (List Lx×Cl)):List (List Lx×Cl):=[(lC6,.credit 6 0),(lC7 l7,.credit 7 l7)]++((if c1 then [(f2f l10,.credit 10 l10)] else [])++q2 c2 l)
section
variable {n:List Int} {k:Int} {pre r:ByteArray}
theorem d8q {yt:ByteArray} {yr:Nat} (hy:bl yt=a7i 20 yr) (hr:g9 a0s (n,k,yt,pre)=some r): ∃c2 l,f0d yr l /\ bl r=bl pre++(T (q2 c2 l)++bl b02):=by
 unfold g9 a0s at hr
 dsimp only at hr
 obtain ⟨v25,h25,hr⟩:=Option.bind_eq_some_iff.1 hr
 obtain ⟨v26,h26,hr⟩:=Option.bind_eq_some_iff.1 hr
 have b26:=a3g h26 (by decide) (by decide)
 obtain ⟨v26,rfl⟩:=Int.eq_ofNat_of_zero_le b26.1
 split at hr
 ·have hr0:=hr
  obtain ⟨v27,h27,hr⟩:=Option.bind_eq_some_iff.1 hr
  have t27:=w9 h27
  obtain ⟨na,nb,np,g1a,g1i,g1m,g2i,nd,g4i,g4m,g5i,nr,c3,c4,c5,h3,h4,e⟩:=e1j hy hr
  refine ⟨true,_,⟨na,nb,np,g1a,g1i,g1m,g2i,nd,g4i,g4m,g5i,nr,c3,c4,c5,h3,h4,rfl⟩,?_⟩
  rw [e,t27]
  simp only [q2,if_true,b4m,c0u,c92,tC5,List.append_assoc,List.append_nil,List.nil_append]
 ·obtain ⟨na,nb,np,g1a,g1i,g1m,g2i,nd,g4i,g4m,g5i,nr,c3,c4,c5,h3,h4,e⟩:=e1j hy hr
  refine ⟨false,_,⟨na,nb,np,g1a,g1i,g1m,g2i,nd,g4i,g4m,g5i,nr,c3,c4,c5,h3,h4,rfl⟩,?_⟩
  rw [e]
  rfl
theorem c7k {yt:ByteArray} {yr:Nat} (hy:bl yt=a7i 20 yr) (hr:g9 y6 (n,k,yt,pre)=some r): ∃l7 l10 c1 c2 l,(1 <= l7 /\ l7 <= 73049 /\ 1 <= l10 /\ l10 <= 73049) /\ f0d yr l /\ bl r=bl pre++(T (q1 l7 l10 c1 c2 l)++bl b02):=by
 unfold g9 y6 at hr
 dsimp only at hr
 obtain ⟨v10,h10,hr⟩:=Option.bind_eq_some_iff.1 hr
 obtain ⟨v11,h11,hr⟩:=Option.bind_eq_some_iff.1 hr
 have b11:=a3g h11 (by decide) (by decide)
 obtain ⟨v11,rfl⟩:=Int.eq_ofNat_of_zero_le b11.1
 obtain ⟨v12,h12,hr⟩:=Option.bind_eq_some_iff.1 hr
 have t12:=c4k h12 (n:=1+v11) (by rw [u4 (by omega) (by omega)];omega) (by omega)
 obtain ⟨v13,h13,hr⟩:=Option.bind_eq_some_iff.1 hr
 have t13:=w9 h13
 obtain ⟨v14,h14,hr⟩:=Option.bind_eq_some_iff.1 hr
 have t14:=w9 h14
 obtain ⟨v15,h15,hr⟩:=Option.bind_eq_some_iff.1 hr
 have t15:=w9 h15
 obtain ⟨v16,h16,hr⟩:=Option.bind_eq_some_iff.1 hr
 obtain ⟨v17,h17,hr⟩:=Option.bind_eq_some_iff.1 hr
 have b17:=a3g h17 (by decide) (by decide)
 obtain ⟨v17,rfl⟩:=Int.eq_ofNat_of_zero_le b17.1
 have eC:=tC67 (1+v11)
 split at hr
 ·have hr0:=hr
  obtain ⟨v18,h18,hr⟩:=Option.bind_eq_some_iff.1 hr
  obtain ⟨v19,h19,hr⟩:=Option.bind_eq_some_iff.1 hr
  have b19:=a3g h19 (by decide) (by decide)
  obtain ⟨v19,rfl⟩:=Int.eq_ofNat_of_zero_le b19.1
  obtain ⟨v20,h20,hr⟩:=Option.bind_eq_some_iff.1 hr
  have t20:=c4k h20 (n:=100+v19) (by rw [u4 (by omega) (by omega)];omega) (by omega)
  obtain ⟨v21,h21,hr⟩:=Option.bind_eq_some_iff.1 hr
  have t21:=w9 h21
  obtain ⟨v22,h22,hr⟩:=Option.bind_eq_some_iff.1 hr
  have t22:=w9 h22
  obtain ⟨v23,h23,hr⟩:=Option.bind_eq_some_iff.1 hr
  have t23:=w9 h23
  obtain ⟨c2,l,hl,e⟩:=d8q hy hr
  refine ⟨1+v11,100+v19,true,c2,l,⟨by omega,by omega,by omega,by omega⟩,hl,?_⟩
  rw [e,t23,t22,t21,t20,t15,t14,t13,t12]
  simp only [q1,if_true,b4m,c0u,c92,tC10,List.append_assoc,List.append_nil,List.nil_append]
  rw [<- List.append_assoc (y8 lC6),eC]
  simp only [List.append_assoc]
 ·obtain ⟨c2,l,hl,e⟩:=d8q hy hr
  refine ⟨1+v11,1,false,c2,l,⟨by omega,by omega,by omega,by omega⟩,hl,?_⟩
  rw [e,t15,t14,t13,t12]
  simp only [q1,Bool.false_eq_true,if_false,b4m,c0u,c92,List.append_assoc,List.append_nil,List.nil_append]
  rw [<- List.append_assoc (y8 lC6),eC]
  simp only [List.append_assoc]
theorem f8w (P:Ps):y8 (d6t P)=bl b2h++(P.date++(bl a8r++(bl P.mx++(32::(a7i 20 P.u++bl a39))))):=by
 simp only [y8,d6t,W,Sg,Wn,Sh,num,N,blk,cond_true,cond_false,List.append_assoc,List.nil_append];rfl
structure MdOK (m:Int) (mx:ByteArray) (u:Nat):Prop where
 mw:d2h mx=true
 mo:ofW mx 3=some m
 m0:1 <= m
 m1:m <= 4
 mS:nz (a0y d4d m)=true
 u0:1 <= u
 u1:u <= 100000
theorem d54 {day:Int} {date:List UInt8} {m:Int} {mx:ByteArray} {u yr l7 l10:Nat} {c1 c2:Bool} {l:List (List Lx×Cl)} (hdt:c7e (64::date) day=true) (hd0:0 <= day) (hd1:day <= 73048) (hm:MdOK m mx u) (hyr:yr <= 100000)
  (hc:1 <= l7 /\ l7 <= 73049 /\ 1 <= l10 /\ l10 <= 73049) (hl:f0d yr l): ∃P:Ps,PsOK P /\ P.day=day /\ y8 (lxV P)=bl b2h++(date++(bl a8r++(bl mx++(32::(a7i 20 u++bl a39)))))++(T (q1 l7 l10 c1 c2 l)++bl b02):=by
 obtain ⟨na,nb,np,g1a,g1i,g1m,g2i,nd,g4i,g4m,g5i,nr,c3,c4,c5,h3,h4,rfl⟩:=hl
 refine ⟨⟨day,date,m,mx,u,l7,l10,c1,c2,c3,c4,c5,na,nb,np,yr,g1a,g1i,g1m,g2i,nd,g4i,g4m,g5i,nr⟩,⟨hdt,hd0,hd1,hm.mw,hm.mo,hm.m0,hm.m1,hm.mS,hm.u0,hm.u1,hc.1,hc.2.1,hc.2.2.1,hc.2.2.2,h3.h1,h3.h2,h3.h3,h3.h4,h3.h5,h3.h6,h4.h4,hyr,h3.h7,h3.h8,h3.h9,h3.h10,h4.h1,h4.h2,h4.h3⟩,rfl,?_⟩
 unfold lxV
 rw [a3a,a3a,f8w,tEnd]
 rfl
theorem c8h {a:ByteArray} {day:Int} (hdt:c7e (64::bl a) day=true) (hd0:0 <= day) (hd1:day <= 73048) (hr:a0e a n k=some r): ∃P:Ps,PsOK P /\ P.day=day /\ bl r=y8 (lxV P):=by
 unfold a0e at hr
 obtain ⟨v1,h1,hr⟩:=Option.bind_eq_some_iff.1 hr
 obtain ⟨v2,h2,hr⟩:=Option.bind_eq_some_iff.1 hr
 have b2:=a3g h2 (by decide) (by decide)
 obtain ⟨v2,rfl⟩:=Int.eq_ofNat_of_zero_le b2.1
 obtain ⟨v3,h3,hr⟩:=Option.bind_eq_some_iff.1 hr
 have t3:=c4k h3 (n:=300+v2) (by rw [u4 (by omega) (by omega)];omega) (by omega)
 obtain ⟨v4,h4,hr⟩:=Option.bind_eq_some_iff.1 hr
 have t4:=w9 h4
 obtain ⟨v5,h5,hr⟩:=Option.bind_eq_some_iff.1 hr
 have t5:=w9 h5
 obtain ⟨v6,h6,hr⟩:=Option.bind_eq_some_iff.1 hr
 obtain ⟨v7,h7,hr⟩:=Option.bind_eq_some_iff.1 hr
 have b7:=a3g h7 (by decide) (by decide)
 obtain ⟨v7,rfl⟩:=Int.eq_ofNat_of_zero_le b7.1
 split at hr
 ·have hr0:=hr
  obtain ⟨v8,h8,hr⟩:=Option.bind_eq_some_iff.1 hr
  have t8:=w9 h8
  obtain ⟨l7,l10,c1,c2,l,hc,hl,e⟩:=c7k t3 hr
  obtain ⟨P,hP,hd,ht⟩:=d54 (c1:=c1) (c2:=c2) hdt hd0 hd1 (m:=1) (mx:=b9b) (u:=1) ⟨by kernel_rfl,by kernel_rfl,by decide,by decide,by kernel_rfl,by decide,by decide⟩ (by omega) hc hl
  refine ⟨P,hP,hd,?_⟩
  rw [ht,e,t8,t5,t4,show bl b2w=bl b9b++(32::(a7i 20 1++bl a39)) from by kernel_rfl]
  simp only [List.append_assoc]
 split at hr
 ·have hr0:=hr
  obtain ⟨v110,h110,hr⟩:=Option.bind_eq_some_iff.1 hr
  have t110:=w9 h110
  obtain ⟨l7,l10,c1,c2,l,hc,hl,e⟩:=c7k t3 hr
  obtain ⟨P,hP,hd,ht⟩:=d54 (c1:=c1) (c2:=c2) hdt hd0 hd1 (m:=3) (mx:=b8h) (u:=5) ⟨by kernel_rfl,by kernel_rfl,by decide,by decide,by kernel_rfl,by decide,by decide⟩ (by omega) hc hl
  refine ⟨P,hP,hd,?_⟩
  rw [ht,e,t110,t5,t4,show bl b2u=bl b8h++(32::(a7i 20 5++bl a39)) from by kernel_rfl]
  simp only [List.append_assoc]
 split at hr
 ·have hr0:=hr
  obtain ⟨v111,h111,hr⟩:=Option.bind_eq_some_iff.1 hr
  have t111:=w9 h111
  obtain ⟨l7,l10,c1,c2,l,hc,hl,e⟩:=c7k t3 hr
  obtain ⟨P,hP,hd,ht⟩:=d54 (c1:=c1) (c2:=c2) hdt hd0 hd1 (m:=2) (mx:=d0d) (u:=1) ⟨by kernel_rfl,by kernel_rfl,by decide,by decide,by kernel_rfl,by decide,by decide⟩ (by omega) hc hl
  refine ⟨P,hP,hd,?_⟩
  rw [ht,e,t111,t5,t4,show bl b5k=bl d0d++(32::(a7i 20 1++bl a39)) from by kernel_rfl]
  simp only [List.append_assoc]
 obtain ⟨v112,h112,hr⟩:=Option.bind_eq_some_iff.1 hr
 have t112:=w9 h112
 obtain ⟨l7,l10,c1,c2,l,hc,hl,e⟩:=c7k t3 hr
 obtain ⟨P,hP,hd,ht⟩:=d54 (c1:=c1) (c2:=c2) hdt hd0 hd1 (m:=4) (mx:=b8p) (u:=10) ⟨by kernel_rfl,by kernel_rfl,by decide,by decide,by kernel_rfl,by decide,by decide⟩ (by omega) hc hl
 refine ⟨P,hP,hd,?_⟩
 rw [ht,e,t112,t5,t4,show bl b1u=bl b8p++(32::(a7i 20 10++bl a39)) from by kernel_rfl]
 simp only [List.append_assoc]
end
end Go.PL
namespace Go.PL
open Go Go.SX
theorem e0y: ∀(ls:List Lx) (rest:List UInt8),okA ls rest -> ls.length <= (y8 ls).length
 | [],_,_=>Nat.le_refl _
 | ⟨t,w,sp⟩::ls,rest,h=>by
   have h2:=e0y ls rest h.2
   have h1:1 <= w.length:=by
    have h1:LxOK t w (blk sp++(y8 ls++rest)):=h.1
    cases h1<;>simp
   show ls.length+1 <= (w++(blk sp++y8 ls)).length
   rw [List.length_append,List.length_append]
   omega
def c7y (o:Option Ps):List Lx:=match o with | some P=>lxV P | none=>[]
def c1q (o:Option Ps):List Version:=match o with | some P=>[P.ver] | none=>[]
def c7d (o:Option Ps) (day:Int):Prop:=match o with | some P=>PsOK P /\ P.day=day | none=>True
def lxS (nm:ByteArray) (cur:Nat) (P:Ps) (o1 o2:Option Ps):List Lx:=[W a2w,W nm,W a1w,num cur [] 2 true,Sg b1w]++(lxV P++(c7y o1++(c7y o2++[Sh a2c])))
def stS (nm:ByteArray) (cur:Nat) (P:Ps) (o1 o2:Option Ps):Statute:=⟨nm,cur,P.ver::(c1q o1++c1q o2)⟩
theorem d5k {o:Option Ps} {day:Int} (h:c7d o day) (rest:List UInt8):okA (c7y o) rest:=by
 cases o with
 | none=>trivial
 | some P=>exact e2h h.1 rest
theorem d4s {o:Option Ps} {day:Int} (h:c7d o day) {ts:List Tk} {vs:List Version} (hv:VersR ts vs):VersR (tk (c7y o) ts) (c1q o++vs):=by
 cases o with
 | none=>exact hv
 | some P=>exact VersR.cons (f5u h.1 ts) hv
theorem c7w (P:Ps):P.ver.From=P.day:=by rw [e8p]
theorem e6t {nm:ByteArray} (hn:(AE.nm nm).ok) {cur:Nat} (h0:1 <= cur) (h1:cur <= 999) {P:Ps} {o1 o2:Option Ps} (hP:PsOK P) (hd:P.day=0) (hq1:c7d o1 35245) (hq2:c7d o2 36890):SOK (stS nm cur P o1 o2):=by
 have l1: ∀o:Option Ps,(c1q o).length <= 1:=fun o=>by cases o<;>simp [c1q]
 have a1:=l1 o1
 have a2:=l1 o2
 have hv:=e0g hP
 refine ⟨hn.leaf.1,hn.leaf.2,by show (1:Int) <= (cur:Int);omega,by show (cur:Int) <= 999;omega,?_,?_,?_,?_⟩
 ·show 1 <= (P.ver::(c1q o1++c1q o2)).length
  simp
 ·show (P.ver::(c1q o1++c1q o2)).length <= 6
  simp only [List.length_cons,List.length_append];omega
 ·intro v hv2
  refine ⟨c5b,?_⟩
  have hv2:v∈P.ver::(c1q o1++c1q o2):=hv2
  rcases List.mem_cons.1 hv2 with rfl | hv2
  ·exact hv
  rcases List.mem_append.1 hv2 with hv2 | hv2
  ·cases o1 with
   | none=>cases hv2
   | some Q=>rw [show c1q (some Q)=[Q.ver] from rfl,List.mem_singleton] at hv2;subst hv2;exact e0g hq1.1
  ·cases o2 with
   | none=>cases hv2
   | some Q=>rw [show c1q (some Q)=[Q.ver] from rfl,List.mem_singleton] at hv2;subst hv2;exact e0g hq2.1
 ·show (P.ver::(c1q o1++c1q o2)).Pairwise _
  cases o1 with
  | none=>
    cases o2 with
    | none=>simp [c1q]
    | some R=>have:=hq2.2;simp [c1q,c7w];omega
  | some Q=>
    have h3:=hq1.2
    cases o2 with
    | none=>simp [c1q,c7w];omega
    | some R=>have h4:=hq2.2;simp [c1q,c7w];omega
theorem e3z {nm:ByteArray} (hw:d2h nm=true) (hn:(AE.nm nm).ok) {cur:Nat} (h0:1 <= cur) (h1:cur <= 999) {P:Ps} {o1 o2:Option Ps} (hP:PsOK P) (hd:P.day=0) (hq1:c7d o1 35245) (hq2:c7d o2 36890)
  {s:ByteArray} (hs:s.size <= 8000) (ht:bl s=y8 (lxS nm cur P o1 o2)):a2a s=some (stS nm cur P o1 o2,0,0):=by
 have hA:okA (lxS nm cur P o1 o2) []:=by
  have hk:c0b [W a2w,W nm,W a1w,num cur [] 2 true,Sg b1w]=true:=by
   simp only [c0b,W,Sg,num,N,BEq.rfl,nx,hw,Bool.true_and,Bool.and_true,Bool.true_or]
   kernel_rfl
  have hnn:c9q [W a2w,W nm,W a1w,num cur [] 2 true,Sg b1w]:=⟨trivial,trivial,trivial,.whole (by omega) (.inl ⟨rfl,rfl⟩),trivial,trivial⟩
  refine a8h _ _ _ (b9u _ hk hnn _) ?_
  ·exact a8h _ _ _ (e2h hP _) (a8h _ _ _ (d5k hq1 _) (a8h _ _ _ (d5k hq2 _) (b9u [Sh a2c] (by kernel_rfl) ⟨trivial,trivial⟩ _)))
 have hlen:=e0y _ _ hA
 have hsz:s.size=(y8 (lxS nm cur P o1 o2)).length:=by rw [b9m,<- ht];rfl
 obtain ⟨toks,hall,hrel,htl⟩:=e08 hs (lxS nm cur P o1 o2) ht (e87 _ hA) (by omega)
 have hv:VersR (tk (lxV P) (tk (c7y o1) (tk (c7y o2) [.s a2c]))) (P.ver::(c1q o1++c1q o2)):=by
  have h2:VersR (tk (c7y o2) [.s a2c]) (c1q o2++[]):=d4s hq2 VersR.nil
  rw [List.append_nil] at h2
  exact VersR.cons (f5u hP _) (d4s hq1 h2)
 have e:(lxS nm cur P o1 o2).map (·.t)= .w a2w:: .w nm:: .w a1w:: .n ⟨(cur:Int),1⟩ 2:: .s b1w::tk (lxV P) (tk (c7y o1) (tk (c7y o2) [.s a2c])):=by
  unfold lxS tk
  simp only [List.map_append,List.map_cons,List.map_nil,List.cons_append,List.nil_append,W,Sg,Sh,num,N]
 rw [e] at hrel
 have hl1: ∀o:Option Ps,(c1q o).length <= 1:=fun o=>by cases o<;>simp [c1q]
 have a1:=hl1 o1
 have a2:=hl1 o2
 have hnm:e7z nm=true:=by unfold e7z;rw [hn.leaf.1]
 exact e5u hall htl hrel hnm (by omega) (by omega) hv (by simp) (by simp only [List.length_cons,List.length_append];omega) (e2v (e6t hn h0 h1 hP hd hq1 hq2))
theorem tSt (nm:ByteArray) (cur:Nat) (P:Ps) (o1 o2:Option Ps):y8 (lxS nm cur P o1 o2)=bl b2i++(bl nm++(bl a9x++(a7i 20 cur++(bl b8j++(y8 (lxV P)++(y8 (c7y o1)++(y8 (c7y o2)++bl a2c))))))):=by
 unfold lxS
 rw [a3a,a3a,a3a,a3a]
 simp only [y8,W,Sg,Wn,Sh,num,N,blk,cond_true,cond_false,List.append_assoc,List.nil_append];rfl
theorem f93:c7e (64::bl a5z) 0=true:=by kernel_rfl
theorem f9h:c7e (64::bl a61) 35245=true:=by kernel_rfl
theorem f9z:c7e (64::bl a5y) 36890=true:=by kernel_rfl
theorem c8c (s:ByteArray):s.size=(bl s).length:=b9m s
theorem d19 (P:Ps):y8 (c7y (some P))=y8 (lxV P):=rfl
theorem b9e:y8 (c7y none)=[]:=rfl
section
variable {n:List Int} {pre r:ByteArray}
theorem e0s {k:Int} (hl:n.length <= 9223372036854775807) (hr:g9 a28 (k,n,pre)=some r): ∃o2,c7d o2 36890 /\ bl r=bl pre++(y8 (c7y o2)++bl a2c) /\ (y8 (c7y o2)).length <= 2500:=by
 unfold g9 a28 at hr
 dsimp only at hr
 obtain ⟨v15,h15,hr⟩:=Option.bind_eq_some_iff.1 hr
 obtain ⟨v16,h16,hr⟩:=Option.bind_eq_some_iff.1 hr
 have b16:=a3g h16 (by decide) (by decide)
 obtain ⟨v16,rfl⟩:=Int.eq_ofNat_of_zero_le b16.1
 split at hr
 ·have hr0:=hr
  obtain ⟨v17,h17,hr⟩:=Option.bind_eq_some_iff.1 hr
  obtain ⟨v18,h18,hr⟩:=Option.bind_eq_some_iff.1 hr
  have t18:=w9 h18
  obtain ⟨v19,h19,hr⟩:=Option.bind_eq_some_iff.1 hr
  have t19:=w9 h19
  have hr:=Option.some.inj hr
  subst hr
  obtain ⟨P,hP,hd,ht⟩:=c8h f9z (by decide) (by decide) h17
  have hsz:=a0l a5y n (i64 ((i64 (7*k))+5)) hl (by decide)
  obtain ⟨z,hz,hz2⟩:=hsz
  rw [h17] at hz
  have hz:=Option.some.inj hz
  subst hz
  rw [c8c,ht] at hz2
  exact ⟨some P,⟨hP,hd⟩,by rw [t19,t18,ht,d19,List.append_assoc],hz2⟩
 ·have hr0:=hr
  obtain ⟨v20,h20,hr⟩:=Option.bind_eq_some_iff.1 hr
  have t20:=w9 h20
  have hr:=Option.some.inj hr
  subst hr
  exact ⟨none,trivial,by rw [t20,b9e];rfl,by rw [b9e];simp⟩
end
theorem c0p {k:Nat} (hk:k<3) (n:List Int) (hl:n.length <= 9223372036854775807): ∃s x,a0k (k:Int) n=some s /\ a2a s=some (x,0,0) /\ SOK x:=by
 obtain ⟨s,hs,_⟩:=b6o (k:=(k:Int)) n hl (by omega) (by omega)
 have hr:=hs
 unfold a0k at hr
 obtain ⟨nm,hnm,hr⟩:=Option.bind_eq_some_iff.1 hr
 have hN:d2h nm=true /\ (AE.nm nm).ok /\ (bl nm).length <= 5:=by
  match k,hk,hnm with
  | 0,_,hnm=>have e:b4l=nm:=Option.some.inj hnm;subst e;exact ⟨by kernel_rfl,c3l (by kernel_rfl),by decide⟩
  | 1,_,hnm=>have e:b4o=nm:=Option.some.inj hnm;subst e;exact ⟨by kernel_rfl,c3l (by kernel_rfl),by decide⟩
  | 2,_,hnm=>have e:b1p=nm:=Option.some.inj hnm;subst e;exact ⟨by kernel_rfl,c3l (by kernel_rfl),by decide⟩
 rw [hnm] at hr
 rw [Option.bind_some] at hr
 obtain ⟨v3,h3,hr⟩:=Option.bind_eq_some_iff.1 hr
 have t3:=w9 h3
 obtain ⟨v4,h4,hr⟩:=Option.bind_eq_some_iff.1 hr
 have t4:=w9 h4
 obtain ⟨v5,h5,hr⟩:=Option.bind_eq_some_iff.1 hr
 have t5:=c4k h5 (n:=1+k) (by rw [u4 (by omega) (by omega)];omega) (by omega)
 obtain ⟨v6,h6,hr⟩:=Option.bind_eq_some_iff.1 hr
 have t6:=w9 h6
 obtain ⟨v7,h7,hr⟩:=Option.bind_eq_some_iff.1 hr
 have t7:=w9 h7
 obtain ⟨v8,h8,hr⟩:=Option.bind_eq_some_iff.1 hr
 obtain ⟨v9,h9,hr⟩:=Option.bind_eq_some_iff.1 hr
 have t9:=w9 h9
 obtain ⟨v10,h10,hr⟩:=Option.bind_eq_some_iff.1 hr
 obtain ⟨v11,h11,hr⟩:=Option.bind_eq_some_iff.1 hr
 have b11:=a3g h11 (by decide) (by decide)
 obtain ⟨v11,rfl⟩:=Int.eq_ofNat_of_zero_le b11.1
 obtain ⟨P,hP,hd,ht⟩:=c8h f93 (by decide) (by decide) h8
 have hsz:(y8 (lxV P)).length <= 2500:=by
  obtain ⟨z,hz,hz2⟩:=a0l a5z n (i64 (7*(k:Int))) hl (by decide)
  rw [h8] at hz
  have hz:=Option.some.inj hz
  subst hz
  rw [c8c,ht] at hz2
  exact hz2
 have hdl:=b8x 20 (1+k) 0 (by omega)
 have fin: ∀o1 o2,c7d o1 35245 -> c7d o2 36890 -> bl s=bl v9++(y8 (c7y o1)++(y8 (c7y o2)++bl a2c)) -> (y8 (c7y o1)).length <= 2500 -> (y8 (c7y o2)).length <= 2500 -> ∃s x,a0k (k:Int) n=some s /\ a2a s=some (x,0,0) /\ SOK x:=by
  intro o1 o2 hq1 hq2 e g1 g2
  have e2:bl s=y8 (lxS nm (1+k) P o1 o2):=by
   rw [tSt,e,t9,t7,t6,t5,t4,t3,ht]
   simp only [List.append_assoc]
  have hsz2:s.size <= 8000:=by
   rw [c8c,e2,tSt]
   simp only [List.length_append]
   have q1:(bl b2i).length=8:=by decide
   have q2:(bl a9x).length=10:=by decide
   have q3:(bl b8j).length=3:=by decide
   have q4:(bl a2c).length=1:=by decide
   have:=hN.2.2
   omega
  exact ⟨s,_,hs,e3z hN.1 hN.2.1 (by omega) (by omega) hP hd hq1 hq2 hsz2 e2,e6t hN.2.1 (by omega) (by omega) hP hd hq1 hq2⟩
 split at hr
 ·have hr0:=hr
  obtain ⟨v12,h12,hr⟩:=Option.bind_eq_some_iff.1 hr
  obtain ⟨v13,h13,hr⟩:=Option.bind_eq_some_iff.1 hr
  have t13:=w9 h13
  obtain ⟨Q,hQ,hdQ,htQ⟩:=c8h f9h (by decide) (by decide) h12
  have hszQ:(y8 (lxV Q)).length <= 2500:=by
   obtain ⟨z,hz,hz2⟩:=a0l a61 n (i64 ((i64 (7*(k:Int)))+3)) hl (by decide)
   rw [h12] at hz
   have hz:=Option.some.inj hz
   subst hz
   rw [c8c,htQ] at hz2
   exact hz2
  obtain ⟨o2,ho2,e,hlen2⟩:=e0s hl hr
  exact fin (some Q) o2 ⟨hQ,hdQ⟩ ho2 (by rw [e,t13,htQ,d19,List.append_assoc]) hszQ hlen2
 ·obtain ⟨o2,ho2,e,hlen2⟩:=e0s hl hr
  exact fin none o2 trivial ho2 (by rw [e,b9e];rfl) (by rw [b9e];simp) hlen2
end Go.PL
namespace Go.PL
open Go Go.SX
def a7j:List Rate:=[(⟨1,0,(⟨1,1⟩:Fraction)⟩:Rate),(⟨2,0,(⟨3,2⟩:Fraction)⟩:Rate),(⟨3,0,(⟨1,7⟩:Fraction)⟩:Rate),(⟨3,1150,(⟨1,9⟩:Fraction)⟩:Rate)]
def b64 (t:List Rules):Prop:= ∃few:Int,0 <= few /\ few <= 450 /\
 (t=[⟨0,few,730,25,[0,1,2]⟩] \/ t=[⟨0,few,730,25,[0,1]⟩,⟨35000,few,365,30,[0,1,2]⟩] \/ t=[⟨0,few,730,25,[0,1,2]⟩,⟨36000,few,730,25,[0,1]⟩])
structure LwOK (x:Laws):Prop where
 st: ∃t0 t1 t2,x.States=[⟨0,t0⟩,⟨1,t1⟩,⟨2,t2⟩] /\ SOK t0 /\ SOK t1 /\ SOK t2
 tr:b64 x.Treaty
 ra:x.Rates=a7j
theorem d1v: ∃m,FU=m+1+1+1+1:=⟨FU-4,by have:=a1o;omega⟩
def lwOf (x:Laws×(List State)×(List Rules)×Unit):Laws:=⟨x.2.1,x.2.2.1,x.1.Rates⟩
theorem f0g {n:List Int} (hl:n.length <= 9223372036854775807): ∃x,a5a n=some x /\ LwOK (lwOf x):=by
 obtain ⟨s0,t0,h0,p0,k0⟩:=c0p (k:=0) (by decide) n hl
 obtain ⟨s1,t1,h1,p1,k1⟩:=c0p (k:=1) (by decide) n hl
 obtain ⟨s2,t2,h2,p2,k2⟩:=c0p (k:=2) (by decide) n hl
 have h0:a0k 0 n=some s0:=h0
 have h1:a0k 1 n=some s1:=h1
 have h2:a0k 2 n=some s2:=h2
 unfold a5a
 obtain ⟨m,hm⟩:=d1v
 rw [hm,c8]
 generalize hA:f7 (m+1+1+1) (a0g n)=A
 unfold a0g
 have a0:b1f 56 ([]:List State) [⟨0,t0⟩]=some [⟨0,t0⟩]:=a8o (by simp) (by decide)
 have a1:b1f 56 ([⟨0,t0⟩]:List State) [⟨1,t1⟩]=some [⟨0,t0⟩,⟨1,t1⟩]:=a8o (by simp) (by decide)
 have a2:b1f 56 ([⟨0,t0⟩,⟨1,t1⟩]:List State) [⟨2,t2⟩]=some [⟨0,t0⟩,⟨1,t1⟩,⟨2,t2⟩]:=a8o (by simp) (by decide)
 simp only [show decide ((0:Int)<3)=true from rfl,if_true,h0,Option.bind_some,p0,BEq.rfl,a0,show i64 (0+1)=1 from rfl]
 rw [<- hA,c8]
 generalize hB:f7 (m+1+1) (a0g n)=B
 unfold a0g
 simp only [show decide ((1:Int)<3)=true from rfl,if_true,h1,Option.bind_some,p1,BEq.rfl,a1,show i64 (1+1)=2 from rfl]
 rw [<- hB,c8]
 generalize hC:f7 (m+1) (a0g n)=C
 unfold a0g
 simp only [show decide ((2:Int)<3)=true from rfl,if_true,h2,Option.bind_some,p2,BEq.rfl,a2,show i64 (2+1)=3 from rfl]
 rw [<- hC,c8]
 unfold a0g
 simp only [show decide ((3:Int)<3)=false from rfl,Bool.false_eq_true,if_false]
 obtain ⟨v6,h6,_⟩:=a0z n 2 hl
 obtain ⟨v7,h7,b7⟩:=a2b (a:=v6) (n:=6) (by decide) (by decide)
 obtain ⟨v8,h8,_⟩:=a0z n 5 hl
 obtain ⟨v9,h9,b9⟩:=a2b (a:=v8) (n:=3) (by decide) (by decide)
 have e90:i64 (90*v7)=90*v7:=u4 (by omega) (by omega)
 simp only [h6,h7,h8,h9,Option.bind_some,e90]
 have fin: ∀t:List Rules,b64 t -> ∃x,some ((⟨[],[],a7j⟩:Laws),([⟨0,t0⟩,⟨1,t1⟩,⟨2,t2⟩]:List State),t,())=some x /\ LwOK (lwOf x):=fun t ht=>⟨_,rfl,⟨⟨t0,t1,t2,rfl,k0,k1,k2⟩,ht,rfl⟩⟩
 split
 ·exact fin _ ⟨90*v7,by omega,by omega,.inl rfl⟩
 ·split
  ·rw [show b1f 56 [(⟨0,90*v7,730,25,[0,1]⟩:Rules)] [(⟨35000,90*v7,365,30,[0,1,2]⟩:Rules)]=some ([(⟨0,90*v7,730,25,[0,1]⟩:Rules)]++[(⟨35000,90*v7,365,30,[0,1,2]⟩:Rules)]) from a8o (by simp) (by decide),Option.bind_some]
   exact fin _ ⟨90*v7,by omega,by omega,.inr (.inl rfl)⟩
  ·simp only [show i7 [(⟨0,90*v7,730,25,[0,1]⟩:Rules)] 0=some (⟨0,90*v7,730,25,[0,1]⟩:Rules) from rfl,Option.bind_some]
   rw [show b1f 56 (b3d [(⟨0,90*v7,730,25,[0,1]⟩:Rules)] 0 (⟨0,90*v7,730,25,[0,1,2]⟩:Rules)) [(⟨36000,90*v7,730,25,[0,1]⟩:Rules)]=some ((b3d [(⟨0,90*v7,730,25,[0,1]⟩:Rules)] 0 (⟨0,90*v7,730,25,[0,1,2]⟩:Rules))++[(⟨36000,90*v7,730,25,[0,1]⟩:Rules)]) from a8o (by simp [b3d]) (by decide),Option.bind_some]
   exact fin _ ⟨90*v7,by omega,by omega,.inr (.inr rfl)⟩
theorem e04 {t:List Rules} (h:b64 t):a3c t=some 0:=by
 obtain ⟨few,h0,h1,h⟩:=h
 have d1:decide (few >= 0)=true:=by simp;omega
 have d2:decide (few <= 73049)=true:=by simp;omega
 have val: ∀(f p s:Int) (l:List Int),decide (f >= 0)=true -> decide (f <= 73048)=true -> decide (p >= 0)=true -> decide (p <= 73049)=true -> decide (s >= 0)=true -> decide (s <= 100)=true -> l=[0,1] \/ l=[0,1,2] -> a40 ⟨f,few,p,s,l⟩=some true:=by
  intro f p s l e1 e2 e3 e4 e5 e6 hl
  unfold a40 a4c a6w
  simp only [d1,d2,e1,e2,e3,e4,e5,e6,if_true,Option.bind_some,Bool.not_true,Bool.false_eq_true,if_false]
  obtain ⟨m,hm⟩:=d1v
  have h3:3<FU:=by have:=a1o;omega
  rcases hl with rfl | rfl
  ·have:=k9 (f:=b1m ⟨f,few,p,s,[0,1]⟩) (fun i=>((⟨f,few,p,s,[0,1]⟩:Rules),(i:Int))) 2 (x:=some true) (fun i hi r=>by
    match i,hi with
    | 0,_=>rfl
    | 1,_=>rfl) (fun r=>rfl) (by omega:2<FU)
   exact this
  ·have:=k9 (f:=b1m ⟨f,few,p,s,[0,1,2]⟩) (fun i=>((⟨f,few,p,s,[0,1,2]⟩:Rules),(i:Int))) 3 (x:=some true) (fun i hi r=>by
    match i,hi with
    | 0,_=>rfl
    | 1,_=>rfl
    | 2,_=>rfl) (fun r=>rfl) h3
   exact this
 have h3:3<FU:=by have:=a1o;omega
 have v1:=val 0 730 25 [0,1,2] rfl rfl rfl rfl rfl rfl (.inr rfl)
 have v2:=val 0 730 25 [0,1] rfl rfl rfl rfl rfl rfl (.inl rfl)
 have v3:=val 35000 365 30 [0,1,2] rfl rfl rfl rfl rfl rfl (.inr rfl)
 have v4:=val 36000 730 25 [0,1] rfl rfl rfl rfl rfl rfl (.inl rfl)
 rcases h with rfl | rfl | rfl
 ·have:=k9 (f:=a1h [⟨0,few,730,25,[0,1,2]⟩]) (fun i=>(i:Int)) 1 (x:=some 0) (fun i hi r=>by
   match i,hi with
   | 0,_=>
     unfold a1h
     show ((a40 _).bind _)=_
     rw [v1];rfl) (fun r=>rfl) (by omega:1<FU)
  exact this
 ·have:=k9 (f:=a1h [⟨0,few,730,25,[0,1]⟩,⟨35000,few,365,30,[0,1,2]⟩]) (fun i=>(i:Int)) 2 (x:=some 0) (fun i hi r=>by
   match i,hi with
   | 0,_=>
     unfold a1h
     show ((a40 _).bind _)=_
     rw [v2];rfl
   | 1,_=>
     unfold a1h
     show ((a40 _).bind _)=_
     rw [v3];rfl) (fun r=>rfl) (by omega:2<FU)
  exact this
 ·have:=k9 (f:=a1h [⟨0,few,730,25,[0,1,2]⟩,⟨36000,few,730,25,[0,1]⟩]) (fun i=>(i:Int)) 2 (x:=some 0) (fun i hi r=>by
   match i,hi with
   | 0,_=>
     unfold a1h
     show ((a40 _).bind _)=_
     rw [v1];rfl
   | 1,_=>
     unfold a1h
     show ((a40 _).bind _)=_
     rw [v4];rfl) (fun r=>rfl) (by omega:2<FU)
  exact this
theorem d7z:a3c []=some 1:=by kernel_rfl
end Go.PL
namespace Go.PL
open Go Go.SX
theorem b9t {σ β:Type} {f g:(σ -> Option β) -> σ -> Option β} (P:σ -> Prop) (h: ∀r r' s,P s -> (∀s',P s' -> r s'=r' s') -> f r s=g r' s): ∀m s,P s -> f7 m f s=f7 m g s
 | 0,_,_=>rfl
 | m+1,s,hs=>by
   rw [c8,c8]
   exact h _ _ s hs fun s' h'=>b9t P h m s' h'
def b6y (s:Statute):Prop:= ∃p q,a5j s=some p /\ a2d s=some q /\ p.2=q.2
theorem g0l {x:Laws} (hS: ∀i s,i7 x.States i=some s -> b6y s.Statute) (hT:a3c x.Treaty=a0p x.Treaty) (hR:a1v x.Rates=a0v x.Rates) {v1:Laws×Int} (hv:v1.1=x) (i:Int):
  f7 FU (a4b v1) (x,i)=f7 FU a47 (x,i):=by
 refine b9t (fun s=>s.1=x) (fun r r' s hs hr=> ?_) FU (x,i) rfl
 obtain ⟨y,j⟩:=s
 obtain rfl:y=x:=hs
 unfold a4b a47
 simp only [hv]
 split
 ·cases hg:i7 y.States j with
  | none=>rfl
  | some s=>
    obtain ⟨p,q,h1,h2,h3⟩:=hS j s hg
    simp only [Option.bind_some,h1,h2,h3]
    split
    ·rfl
    ·exact hr _ rfl
 ·rw [hT,hR]
theorem e2z {x:Laws} (hS: ∀i s,i7 x.States i=some s -> b6y s.Statute) (hT:a3c x.Treaty=a0p x.Treaty) (hR:a1v x.Rates=a0v x.Rates):a4y x=y7 x:=by
 unfold a4y y7
 refine b9t (fun s=>s.1=x) (fun r r' s hs hr=> ?_) FU (x,0) rfl
 obtain ⟨y,j⟩:=s
 obtain rfl:y=x:=hs
 unfold a5i a7u
 have hl:=g0l hS hT hR (v1:=(y,j)) rfl 0
 simp only [hl]
 split
 ·cases hg:i7 y.States j with
  | none=>rfl
  | some s=>
    simp only [Option.bind_some]
    refine congrArg (Option.bind _) (funext fun z=>congrArg (Option.bind _) (funext fun b=> ?_))
    split
    ·rfl
    ·exact hr _ rfl
 ·rfl
theorem e7u {x:Laws} (hN:x.States.length <= 1000) (hS: ∀i s,i7 x.States i=some s -> b6y s.Statute) {c1 c2:Int} (hT:a3c x.Treaty=some c1) (hR:a1v x.Rates=some c2) {v1:Laws×Int} (hv:v1.1=x):
  ∀m i k,i+m=x.States.length -> m<k -> ∃c,f7 k (a4b v1) (x,(i:Int))=some c
 | 0,i,k,hi,hk=>by
   obtain ⟨k,rfl⟩: ∃q,k=q+1:=⟨k-1,by omega⟩
   obtain rfl:i=x.States.length:=by omega
   rw [c8]
   unfold a4b
   simp only [hv,a4u,Bool.false_eq_true,if_false,hT,Option.bind_some,hR]
   split<;>exact ⟨_,rfl⟩
 | m+1,i,k,hi,hk=>by
   obtain ⟨k,rfl⟩: ∃q,k=q+1:=⟨k-1,by omega⟩
   have hlt:i<x.States.length:=by omega
   obtain ⟨p,q,h1,_,_⟩:=hS i _ (a0c hlt)
   rw [c8]
   generalize hr:f7 k (a4b v1)=r
   unfold a4b
   simp only [hv,b3u hlt,if_true,a0c hlt,Option.bind_some,h1,a4f (show i <= 1000000 by omega)]
   split
   ·exact ⟨_,rfl⟩
   ·rw [<- hr];exact e7u hN hS hT hR hv m (i+1) k (by omega) (by omega)
theorem e8l {x:Laws} (hN:x.States.length <= 1000) (hS: ∀i s,i7 x.States i=some s -> b6y s.Statute) {c1 c2:Int} (hT:a3c x.Treaty=some c1) (hR:a1v x.Rates=some c2):
  ∀m i k,i+m=x.States.length -> m<k -> ∃c,f7 k (a5i x) (x,(i:Int))=some c
 | 0,i,k,hi,hk=>by
   obtain ⟨k,rfl⟩: ∃q,k=q+1:=⟨k-1,by omega⟩
   obtain rfl:i=x.States.length:=by omega
   rw [c8]
   unfold a5i
   simp only [a4u,Bool.false_eq_true,if_false]
   exact e7u hN hS hT hR rfl x.States.length 0 FU (by omega) (by have:=a1o;omega)
 | m+1,i,k,hi,hk=>by
   obtain ⟨k,rfl⟩: ∃q,k=q+1:=⟨k-1,by omega⟩
   have hlt:i<x.States.length:=by omega
   rw [c8]
   generalize hr:f7 k (a5i x)=r
   unfold a5i
   simp only [b3u hlt,if_true,a0c hlt,Option.bind_some,a4f (show i <= 1000000 by omega)]
   have ez: ∃b,((if decide ((i:Int)>0) then (i7 x.States (i64 ((i:Int)-1))).bind fun v5=>some (decide (x.States[i].State <= v5.State)) else some false):Option Bool)=some b:=by
    cases i with
    | zero=>exact ⟨_,rfl⟩
    | succ i=>
      have e1:decide (((i+1:Nat):Int)>0)=true:=by simp
      have e2:i64 (((i+1:Nat):Int)-1)=(i:Int):=by rw [u4 (by omega) (by omega)];omega
      simp only [e1,if_true,e2,a0c (show i<x.States.length by omega),Option.bind_some]
      exact ⟨_,rfl⟩
   obtain ⟨b,hb⟩:=ez
   simp only [hb,Option.bind_some]
   have ih:=e8l hN hS hT hR m (i+1) k (by omega) (by omega)
   rw [hr] at ih
   generalize hq:((if decide (x.States[i].State<0)=true then some true else some (decide (x.States[i].State >= 6))):Option Bool)=q
   have: ∃b,q=some b:=by rw [<- hq];split<;>exact ⟨_,rfl⟩
   obtain ⟨b1,rfl⟩:=this
   simp only [Option.bind_some]
   cases b1<;>cases b<;>simp only [if_true,Bool.false_eq_true,if_false,Option.bind_some]
   ·exact ih
   all_goals exact ⟨_,rfl⟩
theorem d2y {x:Laws} (hN:x.States.length <= 1000) (hS: ∀i s,i7 x.States i=some s -> b6y s.Statute) {c1 c2:Int} (hT:a3c x.Treaty=some c1) (hT5:a0p x.Treaty=some c1) (hR:a1v x.Rates=some c2) (hR5:a0v x.Rates=some c2):
  ∃c,a4y x=some c /\ y7 x=some c:=by
 obtain ⟨c,hc⟩:=e8l hN hS hT hR x.States.length 0 FU (by omega) (by have:=a1o;omega)
 have h1:a4y x=some c:=hc
 exact ⟨c,h1,(e2z hS (hT.trans hT5.symm) (hR.trans hR5.symm)).symm.trans h1⟩
theorem c85 {s:Statute} (h:SOK s):b6y s:=⟨_,_,e4w h,d78 h,rfl⟩
theorem e6b {s:Statute} (h:SOK s):b6y ⟨s.Name,0,s.Versions⟩:=by
 refine ⟨(0,1),(0,1),?_,?_,rfl⟩
 ·unfold a5j b08
  simp only [h.nS,show decide ((0:Int)<1)=true from rfl,Option.bind_some,Bool.not_true,Bool.not_false,Bool.false_eq_true,if_false,if_true]
 ·unfold a2d a19
  simp only [h.n5,show decide ((0:Int)<1)=true from rfl,Option.bind_some,Bool.not_true,Bool.not_false,Bool.false_eq_true,if_false,if_true]
end Go.PL
namespace Go.PL
open Go Go.SX
theorem d2t:a0p []=some 1:=by kernel_rfl
theorem mem5 (r4:Int -> Option Int) (v f few p s:Int) {l:List Int} (hl:l=[0,1] \/ l=[0,1,2]):f7 FU (a3z r4 v) ((⟨f,few,p,s,l⟩:Rules),0)=r4 (i64 (v+1)):=by
 have h3:3<FU:=by have:=a1o;omega
 rcases hl with rfl | rfl
 ·exact k9 (f:=a3z r4 v) (fun i=>((⟨f,few,p,s,[0,1]⟩:Rules),(i:Int))) 2 (fun i hi r=>by
   match i,hi with
   | 0,_=>rfl
   | 1,_=>rfl) (fun r=>rfl) (by omega:2<FU)
 ·exact k9 (f:=a3z r4 v) (fun i=>((⟨f,few,p,s,[0,1,2]⟩:Rules),(i:Int))) 3 (fun i hi r=>by
   match i,hi with
   | 0,_=>rfl
   | 1,_=>rfl
   | 2,_=>rfl) (fun r=>rfl) h3
theorem d6l {t:List Rules} (h:b64 t):a0p t=some 0:=by
 obtain ⟨few,h0,h1,h⟩:=h
 have d1:decide (few<0)=false:=by simp;omega
 have d2:decide (few>73049)=false:=by simp;omega
 obtain ⟨m,hm⟩:=d1v
 have one: ∀(r4:Int -> Option Int) (f p s:Int) (l:List Int) (L:List Rules) (v:Int),decide (v<(L.length:Int))=true -> i7 L v=some ⟨f,few,p,s,l⟩ ->
   ((if decide (v>0) then (i7 L (i64 (v-1))).bind fun v7=>some (decide (f <= v7.From)) else some false):Option Bool)=some false ->
   a08 f=some true -> decide (p<0)=false -> decide (p>73049)=false -> decide (s<0)=false -> decide (s>100)=false -> l=[0,1] \/ l=[0,1,2] -> a18 L r4 v=r4 (i64 (v+1)):=by
  intro r4 f p s l L v k1 k2 k3 k4 k5 k6 k7 k8 hl
  unfold a18
  simp only [k1,if_true,k2,Option.bind_some,k4,Bool.not_true,Bool.false_eq_true,if_false,k3,d1,d2,k5,k6,k7,k8,mem5 r4 v f few p s hl]
 have v0:a08 0=some true:=by kernel_rfl
 have v1:a08 35000=some true:=by kernel_rfl
 have v2:a08 36000=some true:=by kernel_rfl
 rcases h with rfl | rfl | rfl
 ·show f7 FU (a18 [⟨0,few,730,25,[0,1,2]⟩]) 0=some 0
  rw [hm,c8,one _ 0 730 25 [0,1,2] _ 0 rfl rfl rfl v0 rfl rfl rfl rfl (.inr rfl),c8]
  rfl
 ·show f7 FU (a18 [⟨0,few,730,25,[0,1]⟩,⟨35000,few,365,30,[0,1,2]⟩]) 0=some 0
  rw [hm,c8,one _ 0 730 25 [0,1] _ 0 rfl rfl rfl v0 rfl rfl rfl rfl (.inl rfl),c8,one _ 35000 365 30 [0,1,2] _ (i64 (0+1)) rfl rfl rfl v1 rfl rfl rfl rfl (.inr rfl),c8]
  rfl
 ·show f7 FU (a18 [⟨0,few,730,25,[0,1,2]⟩,⟨36000,few,730,25,[0,1]⟩]) 0=some 0
  rw [hm,c8,one _ 0 730 25 [0,1,2] _ 0 rfl rfl rfl v0 rfl rfl rfl rfl (.inr rfl),c8,one _ 36000 730 25 [0,1] _ (i64 (0+1)) rfl rfl rfl v2 rfl rfl rfl rfl (.inl rfl),c8]
  rfl
theorem d76: ∀r∈[a7j,a7j++[(⟨1,0,(⟨1,1⟩:Fraction)⟩:Rate)],a7j.take 2],∃c,a1v r=some c /\ a0v r=some c:=by
 intro r hr
 simp only [List.mem_cons,List.not_mem_nil,or_false] at hr
 rcases hr with rfl | rfl | rfl
 ·exact ⟨0,by kernel_rfl,by kernel_rfl⟩
 ·exact ⟨1,by kernel_rfl,by kernel_rfl⟩
 ·exact ⟨0,by kernel_rfl,by kernel_rfl⟩
theorem f60 (a:Int): ∃v,a84 a 24=some v:=by
 unfold a84
 rw [if_neg (by decide),c0g (by decide),Option.bind_some,c0g (by decide),Option.bind_some]
 exact ⟨_,rfl⟩
theorem f4w {t:Statute} (h:SOK t) {v:Version} (hv:v∈t.Versions):SOK ⟨t.Name,t.Currency,[⟨36000,v.Rounding,v.Credits,v.Series,v.Lets,v.Grants,v.Reduces⟩]⟩:=by
 obtain ⟨env,k⟩:=h.vs v hv
 refine ⟨h.n5,h.nS,h.c0,h.c1,by show 1 <= 1;decide,by show 1 <= 6;decide,fun w hw=>⟨env,?_⟩,by simp⟩
 rw [List.mem_singleton] at hw
 subst hw
 exact ⟨by show (0:Int) <= 36000;decide,by show (36000:Int) <= 73048;decide,k.m0,k.m1,k.mS,k.u0,k.u1,k.cl,k.sl,k.ll,k.gl,k.rl,k.cr,k.crp,k.ix,k.ixp,k.lt,k.ls,k.l5,k.en,k.gr,k.grp,k.rd,k.rdp⟩
theorem f9b {l:List State} (h: ∀s∈l,b6y s.Statute): ∀i s,i7 l i=some s -> b6y s.Statute:=by
 intro i s hs
 unfold i7 at hs
 split at hs
 ·exact h s (List.mem_of_getElem? hs)
 ·cases hs
theorem c1m (n:List Int) (bad:Int) (_:n.length <= 9223372036854775807):a4p n bad=some true:=by
 unfold a4p
 split
 ·rfl
 rename_i hn
 have hn:n.length <= 9223372036854775807:=by simp at hn;omega
 have key: ∃x c,a3f n bad=some x /\ a4y x=some c /\ y7 x=some c:=by
  obtain ⟨⟨⟨s',t',ra⟩,st,tr,u⟩,hy,hL⟩:=f0g hn
  obtain ⟨⟨t0,t1,t2,hst,k0,k1,k2⟩,htr,hra⟩:=hL
  have hst:st=[⟨0,t0⟩,⟨1,t1⟩,⟨2,t2⟩]:=hst
  have htr:b64 tr:=htr
  have hra:ra=a7j:=hra
  subst hst hra
  obtain ⟨v,hv⟩:=f60 bad
  have fin: ∀(l:List State) (t:List Rules) (r:List Rate),l.length <= 1000 -> (∀s∈l,b6y s.Statute) -> (t=[] \/ b64 t) -> r∈[a7j,a7j++[(⟨1,0,(⟨1,1⟩:Fraction)⟩:Rate)],a7j.take 2] -> a3f n bad=some ⟨l,t,r⟩ ->
    ∃x c,a3f n bad=some x /\ a4y x=some c /\ y7 x=some c:=by
   intro l t r hl hS ht hr hx
   obtain ⟨c2,hr1,hr2⟩:=d76 r hr
   have: ∃c1,a3c t=some c1 /\ a0p t=some c1:=by
    rcases ht with rfl | ht
    ·exact ⟨1,d7z,d2t⟩
    ·exact ⟨0,e04 ht,d6l ht⟩
   obtain ⟨c1,ht1,ht2⟩:=this
   obtain ⟨c,h1,h2⟩:=d2y (x:=⟨l,t,r⟩) hl (f9b hS) ht1 ht2 hr1 hr2
   exact ⟨_,c,hx,h1,h2⟩
  have q0:=c85 k0
  have q1:=c85 k1
  have q2:=c85 k2
  have m0:a7j∈[a7j,a7j++[(⟨1,0,(⟨1,1⟩:Fraction)⟩:Rate)],a7j.take 2]:=List.mem_cons_self
  unfold a3f at*
  simp only [hy,hv,Option.bind_some] at fin⊢
  by_cases c0:(v==0)=true
  ·rw [if_pos c0] at fin⊢
   exact fin [⟨1,t1⟩,⟨2,t2⟩] tr a7j (by simp) (by simp;exact ⟨q1,q2⟩) (.inr htr) m0 rfl
  rw [if_neg c0] at fin⊢
  by_cases c1:(v==1)=true
  ·rw [if_pos c1] at fin⊢
   exact fin [⟨2,t0⟩,⟨1,t1⟩,⟨2,t2⟩] tr a7j (by simp) (by simp;exact ⟨q0,q1,q2⟩) (.inr htr) m0 rfl
  rw [if_neg c1] at fin⊢
  by_cases c2:(v==2)=true
  ·rw [if_pos c2] at fin⊢
   exact fin [⟨0,t0⟩,⟨1,t1⟩,⟨2,t2⟩] [] a7j (by simp) (by simp;exact ⟨q0,q1,q2⟩) (.inl rfl) m0 rfl
  rw [if_neg c2] at fin⊢
  by_cases c3:(v==3)=true
  ·rw [if_pos c3] at fin⊢
   exact fin [⟨0,t0⟩,⟨1,t1⟩,⟨2,t2⟩] tr (a7j++[(⟨1,0,(⟨1,1⟩:Fraction)⟩:Rate)]) (by simp) (by simp;exact ⟨q0,q1,q2⟩) (.inr htr) (by simp) (by kernel_rfl)
  rw [if_neg c3] at fin⊢
  by_cases c4:(v==4)=true
  ·rw [if_pos c4] at fin⊢
   exact fin [⟨0,t0⟩,⟨1,t1⟩,⟨2,t2⟩] tr (a7j.take 2) (by simp) (by simp;exact ⟨q0,q1,q2⟩) (.inr htr) (by simp) rfl
  rw [if_neg c4] at fin⊢
  by_cases c5:(v==5)=true
  ·rw [if_pos c5] at fin⊢
   obtain ⟨w,ws,hw⟩: ∃w ws,t0.Versions=w::ws:=by
    have:=k0.l0
    cases h:t0.Versions with
    | nil=>rw [h] at this;simp at this
    | cons w ws=>exact ⟨w,ws,rfl⟩
   have q5:=c85 (f4w k0 (v:=w) (by rw [hw];exact List.mem_cons_self))
   have ha:b1f 144 ([]:List Version) t0.Versions=some (w::ws):=by
    have:=k0.l1
    rw [hw] at this⊢
    unfold b1f
    rw [if_pos]
    ·rfl
    ·simp at this ⊢; omega
   simp only [show i7 [(⟨0,t0⟩:State),⟨1,t1⟩,⟨2,t2⟩] 0=some ⟨0,t0⟩ from rfl,Option.bind_some,ha,show i7 (w::ws) 0=some w from rfl] at fin⊢
   have hs: ∀w':Version,a3q (b3d (w::ws) 0 w') 0 1=some [w']:=fun w'=>by
    unfold a3q b3d
    simp
    omega
   simp only [hs,Option.bind_some] at fin⊢
   exact fin [⟨0,⟨t0.Name,t0.Currency,[⟨36000,w.Rounding,w.Credits,w.Series,w.Lets,w.Grants,w.Reduces⟩]⟩⟩,⟨1,t1⟩,⟨2,t2⟩] tr a7j (by simp) (by simp;exact ⟨q5,q1,q2⟩) (.inr htr) m0 rfl
  rw [if_neg c5] at fin⊢
  by_cases c6:(v==6)=true
  ·rw [if_pos c6] at fin⊢
   exact fin [⟨0,t0⟩,⟨1,⟨t1.Name,0,t1.Versions⟩⟩,⟨2,t2⟩] tr a7j (by simp) (by simp;exact ⟨q0,e6b k1,q2⟩) (.inr htr) m0 rfl
  rw [if_neg c6] at fin⊢
  exact fin [⟨0,t0⟩,⟨1,t1⟩,⟨2,t2⟩] tr a7j (by simp) (by simp;exact ⟨q0,q1,q2⟩) (.inr htr) m0 rfl
 obtain ⟨x,c,h1,h2,h3⟩:=key
 rw [h1,Option.bind_some]
 show ((if true=true then (a4y x).bind fun v3=>(y7 x).bind fun v4=>some (v3==v4) else some false).bind fun v5=>some v5)=some true
 rw [if_pos rfl,h2,Option.bind_some,h3,Option.bind_some,Option.bind_some,BEq.rfl]
end Go.PL
