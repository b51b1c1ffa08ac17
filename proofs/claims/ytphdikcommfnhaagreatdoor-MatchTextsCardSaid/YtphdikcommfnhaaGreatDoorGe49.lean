/- A part of the framework and of the walks: W202 W203 C75 W43 W81. -/
import Derived.Test.YtphdikcommfnhaaGreatDoorGe45
import Derived.Test.YtphdikcommfnhaaGreatDoorGe44
import Derived.Test.YtphdikcommfnhaaGreatDoorGe48
import Derived.Test.YtphdikcommfnhaaGreatDoorGe36
import Derived.Test.YtphdikcommfnhaaGreatDoorGe20
import Derived.Test.YtphdikcommfnhaaGreatDoorGe47
import Derived.Test.YtphdikcommfnhaaGreatDoorGe27
set_option linter.unusedSimpArgs false
set_option linter.unusedVariables false
set_option linter.unusedSectionVars false
set_option maxRecDepth 100000
set_option maxHeartbeats 0

namespace Go.Gv
open Go.Proofs
open Cod (enc dec)
variable {S S0:Nat->Spc}
abbrev Vv(x:Glob):Prop:=∃lb m,GG lb m x
abbrev Wh:Spc:=aI (a1 Glob) Vv (enc (X:=Bool)) fun x y=>y=true
set_option maxHeartbeats 1000000 in
theorem LH:aq bD bC S (a1 Glob) Vv (enc (X:=Bool)) fun x y=>y=true:=by
 rintro x ⟨lb,m,h⟩
 cases h with
 | bound n a h=>simp[bD,bC,E0, -Bool.forall_bool, -Bool.exists_bool]
 | val n a v f h1 h2=>simp[bD,bC,E0, -Bool.forall_bool, -Bool.exists_bool]
 | same n a b g h1 h2 h3=>simp[bD,bC,E0, -Bool.forall_bool, -Bool.exists_bool]
 | dist n a b mn mx h1 h2 h3 h4 h5 h6=>simp[bD,bC,E0, -Bool.forall_bool, -Bool.exists_bool]
 | reg n a b t h1 h2 h3=>simp[bD,bC,E0, -Bool.forall_bool, -Bool.exists_bool]
 | path n a b l h1 h2 h3 h4=>simp[bD,bC,E0, -Bool.forall_bool, -Bool.exists_bool]
 | node n a b t h1 h2 h3=>simp[bD,bC,E0, -Bool.forall_bool, -Bool.exists_bool]
 | depth n a mn mx h1 h3 h4 h5 h6=>simp[bD,bC,E0, -Bool.forall_bool, -Bool.exists_bool]
 | head n op a b ho h1 h2=>rcases ho with rfl|rfl <;> simp[bD,bC,E0, -Bool.forall_bool, -Bool.exists_bool]
 | not n k h=>simp[bD,bC,E0, -Bool.forall_bool, -Bool.exists_bool]
 | two n op a b ho h1 h2=>rcases ho with rfl|rfl <;> simp[bD,bC,E0, -Bool.forall_bool, -Bool.exists_bool]
def qoE(n:Nat)(x:Glob×Int×Int):Prop:=lX x.1<=n/\0<=x.2.1/\x.2.1+CT x.1<=60/\0<=x.2.2/\x.2.2+lX x.1<=1000/\lX x.1<=60
abbrev QV(n:Nat):Spc:=aI (a3 Glob Int Int) (qoE n) (qW (Y:=Int) (Z:=Int)) fun x y=>y=(x.2.1+CT x.1,x.2.2+lX x.1 -1)
abbrev QW:Spc:=aI (a3 Glob Int Int) (fun x=>∃n,qoE n x) (qW (Y:=Int) (Z:=Int)) fun x y=>y=(x.2.1+CT x.1,x.2.2+lX x.1 -1)
theorem Fo(n:Nat)(h1:S il=QV n):aq pY pj S (a3 Glob Int Int) (qoE (n+1)) (qW (Y:=Int) (Z:=Int)) fun x y=>y=(x.2.1+CT x.1,x.2.2+lX x.1 -1):=by
 rintro⟨x,nodes,deep⟩ ⟨hn,h0,h2,h3,h4,h5⟩
 simp only at hn h0 h2 h3 h4 h5
 have hd1:=It x
 have hn1:=Ww x
 simp[pY,pj]
 refine⟨by simp only[InR];omega,fun hkl=>?_⟩
 refine ai (X:=Int×Int) [2,17] [] x.kids.length (fun k z=>z.1=nodes+1+ (mK (x.kids.take k):Int)/\z.2=deep+ (mN (x.kids.take k):Int)) (fun z=>[(1,enc z.1),(8,enc z.2)]) (fun _=>[]) (nodes+1,deep) (by simp) (by simp) (by omega) (by simp) (by simp) (by simp[mK,mN]) (by simp) (by simp) ?_ ?_
 ·rintro k ⟨m,d⟩ hk ⟨e1,e2⟩
  simp only at e1 e2
  obtain⟨y,hy⟩:=bJ hk
  obtain⟨_,hgy⟩:=qxz.1 hy
  have hm:=YP hy
  have hd:=Gc (bj hy)
  have hp:qoE n (y,m,deep+1):=⟨by show lX y<=n;omega,by show 0<=m;omega,by show m+CT y<=60;omega,by show 0<=deep+1;omega,by show deep+1+lX y<=1000;omega,by show lX y<=60;omega⟩
  have hm60:¬60 < m:=by have:=Ww y;omega
  simp[h1,hk,hy,hgy,hp,hm60]
  exact⟨by simp only[InR];omega,by omega,by rw[hm.2.1,e2];omega⟩
 ·rintro⟨m,d⟩ ⟨e1,e2⟩
  simp only at e1 e2
  rw[qx1]at e1 e2
  simp
  exact⟨by omega,by omega⟩
theorem qcJ(x:Glob):D.agg [D.v (Value.int IntKind.i64 x.op),D.v (Value.string x.a),D.v (Value.string x.b),D.v (Value.string x.name),D.v (Value.string x.arg),D.v (Value.string x.val),D.v (Value.bool x.fold),D.v (Value.int IntKind.i64 x.mn),D.v (Value.int IntKind.i64 x.mx),D.list 1 (List.map enc x.args),D.list 11 (List.map enc x.kids)]=enc x:=by simp
def Lj(S0:Nat->Spc)(x:List Glob×D×Unit):Prop:=FunOnP S0 x.2.1 x.1 fun _=>false
abbrev qbm(S0:Nat->Spc):Spc:=aI (aE (List Glob) (aD a0)) (Lj S0) (enc (X:=Int)) fun x y=>y= -1
theorem qG:aq dG dy S (aE (List Glob) (aD a0)) (Lj S) (enc (X:=Int)) fun x y=>y= -1:=by
 rintro⟨l,d,⟨⟩⟩ hp
 replace hp:FunOnP S d l fun _=>false:=hp
 simp[dG,dy, -Bool.forall_bool, -Bool.exists_bool]
 intro hkl
 refine ai (X:=Unit) [0,1] [] l.length (fun k _=>True) (fun _=>[]) (fun _=>[]) () (by simp) (by simp) (by omega) (by simp) (by simp) (by simp) (by simp) (by simp) ?_ ?_
 ·rintro k -hk -
  obtain⟨y,hy⟩:=bJ hk
  obtain⟨_,hgy⟩:=qxz.1 hy
  simp[hk,hy,hgy, -Bool.forall_bool, -Bool.exists_bool]
  rw[qcJ y]
  refine hp.useB y (bj hy) fun b hb=>?_
  obtain rfl:b=false:=hb _ hp
  simp
 ·rintro - -
  simp
abbrev qbp(S0:Nat->Spc):Spc:=aI (aE (List Glob) (aD a0)) (Lj S0) (enc (X:=Bool)) fun x y=>y=false
theorem mS(h1:S dV=qbm S0):aq cT cR S (aE (List Glob) (aD a0)) (Lj S0) (enc (X:=Bool)) fun x y=>y=false:=by
 rintro⟨l,d,⟨⟩⟩ hp
 simp[cT,cR,h1,hp, -Bool.forall_bool]
def qk0(n:Nat)(x:Glob):Prop:=lX x<=n/\Vv x
abbrev Q9(n:Nat):Spc:=aI (aE Glob (aD a0)) (fun x=>qk0 n x.1/\x.2.1= .clo dN []) (enc (X:=Bool)) fun x y=>y=true
abbrev Ra:Spc:=aI (aE Glob (aD a0)) (fun x=>(∃n,qk0 n x.1)/\x.2.1= .clo dN []) (enc (X:=Bool)) fun x y=>y=true
abbrev Ju(n:Nat):Spc:=aI (aE Glob (aD a0)) (fun x=>qk0 n x.1/\x.2.1= .cptr [.clo dN []] 0) (enc (X:=Bool)) fun x y=>y=false
theorem Hv(n:Nat)(h1:S lu=Q9 n):aq qb pn S (aE Glob (aD a0)) (fun x=>qk0 n x.1/\x.2.1= .cptr [.clo dN []] 0) (enc (X:=Bool)) fun x y=>y=false:=by
 rintro⟨x,d,⟨⟩⟩ ⟨hx,hd⟩
 simp only at hx hd
 subst hd
 simp[qb,pn,h1,hx, -Bool.forall_bool, -Bool.exists_bool]
theorem LG(n:Nat)(h0:S0 fb=Ju n)(h1:S cX=qbp S0)(h2:S dN=Wh):aq ud ti S (aE Glob (aD a0)) (fun x=>qk0 (n+1) x.1/\x.2.1= .clo dN []) (enc (X:=Bool)) fun x y=>y=true:=by
 rintro⟨x,d,⟨⟩⟩ ⟨⟨hn,hx⟩,hd⟩
 simp only at hn hx hd
 subst hd
 have hk:∀k∈x.kids,qk0 n k:=fun k hk=>by
  have:=R3 hk
  obtain⟨lb,m,h⟩:=hx
  obtain⟨m',_,h2⟩:=qcK h hk
  exact⟨by omega,lb,m',h2⟩
 have hO:FunOnP S0 (.clo fb [.cptr [.clo dN []] 0]) x.kids fun _=>false:=
  Gd h0 (fun k hk'=>⟨hk k hk',rfl⟩) (fun _ _ y hy=>hy)
 have hP:Lj S0 (x.kids, .clo fb [.cptr [.clo dN []] 0],()):=hO
 simp[ud,ti,h1,h2,hx,hP, -Bool.forall_bool, -Bool.exists_bool]
abbrev VT:Spc:=aI (a1 Glob) (fun g=>g=GlobE\/Vv g) (enc (X:=Bool)) fun x y=>y=decide (x.op=0)
set_option maxHeartbeats 1000000 in
theorem LC:aq iz ix S (a1 Glob) (fun g=>g=GlobE\/Vv g) (enc (X:=Bool)) fun x y=>y=decide (x.op=0):=by
 rintro x (rfl|⟨lb,m,h⟩)
 ·simp[iz,ix,GlobE,E0, -Bool.forall_bool]
 ·have:x.op≠0:=by cases h <;> simp <;> omega
  simp[iz,ix,this, -Bool.forall_bool, -Bool.exists_bool]
abbrev Rb:Spc:=aI (a1 Glob) (fun g=>g=GlobE\/ ∃lb,GG lb 2 g) (enc (X:=Bool)) fun x y=>y=true
theorem IK(h1:S nP=VT)(h2:S il=QW)(h3:S lu=Ra):aq gh fT S (a1 Glob) (fun g=>g=GlobE\/ ∃lb,GG lb 2 g) (enc (X:=Bool)) fun x y=>y=true:=by
 rintro x (rfl|⟨lb,h⟩)
 ·have p0:GlobE=GlobE\/Vv GlobE:= .inl rfl
  have e0:GlobE.op=0:=rfl
  simp[gh,fT,h1,p0,e0, -Bool.forall_bool, -Bool.exists_bool]
  exact .inl rfl
 ·have hnum:=qj5 h
  have p0:x=GlobE\/Vv x:= .inr ⟨lb,2,h⟩
  have hop:x.op≠0:=by cases h <;> simp <;> omega
  have p1:∃n,qoE n (x,0,1):=⟨lX x,qxI _,qy8 _,by show(0:Int) +CT x<=60;omega,by show(0:Int)<=1;omega,by show(1:Int) +lX x<=1000;omega,by show lX x<=60;omega⟩
  have p2:∃n,qk0 n x:=⟨lX x,qxI _,lb,2,h⟩
  have p5:(CT x:Int)<=60:=by omega
  have p6:(1:Int) +lX x -1<=20:=by omega
  simp[gh,fT,h1,h2,h3,p0,hop,p1,p2,p5,p6, -Bool.forall_bool, -Bool.exists_bool]
theorem EG{x:B} :(x∈Types\/x∈XI\/(x∈Th/\x≠ ⟨#[]⟩))->aZ x=true:=by
 have hv:∀b:B,(decide (1<=b.size) && decide (b.size<=32) && (b.data.toList.all fun c=>A6 c.toNat))=true->aZ b=true:=fun b h=>wu h
 rintro(h|h|⟨h,hn⟩)
 ·simp only[Types,qxD,qxY,or_false]at h
  rcases h with rfl|rfl|rfl <;> exact hv _ (by decide)
 ·simp only[XI,qxD,qxY,or_false]at h
  rcases h with rfl|rfl|rfl <;> exact hv _ (by decide)
 ·simp only[Th,qxD,qxY,or_false]at h
  rcases h with rfl|rfl|rfl
  ·exact hv _ (by decide)
  ·exact hv _ (by decide)
  ·exact absurd rfl hn
theorem UI{v:B}(h:v∈XK):∃r,nz v=some r:=by
 have e:∀v∈XK,(nz v).isSome=true:=by decide
 exact qyv.1 (e v h)
abbrev Uj:Spc:=aI (a1 B) (fun s=>s∈Th) (enc (X:=Bool)) fun _ y=>y=false
theorem qiJ(h1:S bw=zP):aq jM jm S (a1 B) (fun s=>s∈Th) (enc (X:=Bool)) fun _ y=>y=false:=by
 rintro s hs
 have hs:s∈Th:=hs
 have hv:s≠ ⟨#[]⟩->aZ s=true:=fun h=>EG (.inr (.inr ⟨hs,h⟩))
 simp[jM,jm,h1, -Bool.forall_bool, -Bool.exists_bool]
 exact hv
theorem Ks{X:Type}[Cod X]{S:Nat->Spc}{g:Nat}{l:List X}{pre:X->Prop}{q:X->Bool}{post:X->Bool->Prop}(h:S g=aI (a1 X) pre enc post)(hp:∀x∈l,pre x)(hq:∀x∈l,∀y,post x y->y=q x):FunOnP S (.clo g []) l q:=by
 refine⟨g, [],_,rfl,h,fun x hx=>⟨⟨x,by simp,hp x hx⟩,fun r hr=>?_⟩⟩
 obtain⟨y,rfl,hy⟩:=hr x (by simp) (hp x hx)
 rw[hq x hx y hy]
def Li(S0:Nat->Spc)(x:List B×D×Unit):Prop:=FunOnP S0 x.2.1 x.1 fun _=>false
abbrev qbl(S0:Nat->Spc):Spc:=aI (aE (List B) (aD a0)) (Li S0) (enc (X:=Int)) fun x y=>y= -1
theorem qiK:aq eQ eM S (aE (List B) (aD a0)) (Li S) (enc (X:=Int)) fun x y=>y= -1:=by
 rintro⟨l,d,⟨⟩⟩ hp
 replace hp:FunOnP S d l fun _=>false:=hp
 simp[eQ,eM, -Bool.forall_bool, -Bool.exists_bool]
 intro hkl
 refine ai (X:=Unit) [0,1] [] l.length (fun k _=>True) (fun _=>[]) (fun _=>[]) () (by simp) (by simp) (by omega) (by simp) (by simp) (by simp) (by simp) (by simp) ?_ ?_
 ·rintro k -hk -
  obtain⟨y,hy⟩:=bJ hk
  obtain⟨_,hgy⟩:=qxz.1 hy
  simp[hk,hy,hgy, -Bool.forall_bool, -Bool.exists_bool]
  refine hp.useB y (bj hy) fun b hb=>?_
  obtain rfl:b=false:=hb _ hp
  simp
 ·rintro - -
  simp
abbrev qbo(S0:Nat->Spc):Spc:=aI (aE (List B) (aD a0)) (Li S0) (enc (X:=Bool)) fun x y=>y=false
theorem qiL(h1:S eV=qbl S0):aq dZ dQ S (aE (List B) (aD a0)) (Li S0) (enc (X:=Bool)) fun x y=>y=false:=by
 rintro⟨l,d,⟨⟩⟩ hp
 simp[dZ,dQ,h1,hp, -Bool.forall_bool]
def Bv(S0:Nat->Spc)(x:List sD×D×Unit):Prop:=FunOnP S0 x.2.1 x.1 fun _=>false
abbrev Wn(S0:Nat->Spc):Spc:=aI (aE (List sD) (aD a0)) (Bv S0) (enc (X:=Int)) fun x y=>y= -1
theorem qcZ(x:sD):D.agg [D.v (Value.int IntKind.i64 x.op),D.v (Value.bool x.neg),D.v (Value.string x.reg)]=enc x:=by simp
theorem qe7:aq bW bO S (aE (List sD) (aD a0)) (Bv S) (enc (X:=Int)) fun x y=>y= -1:=by
 rintro⟨l,d,⟨⟩⟩ hp
 replace hp:FunOnP S d l fun _=>false:=hp
 simp[bW,bO, -Bool.forall_bool, -Bool.exists_bool]
 intro hkl
 refine ai (X:=Unit) [0,1] [] l.length (fun k _=>True) (fun _=>[]) (fun _=>[]) () (by simp) (by simp) (by omega) (by simp) (by simp) (by simp) (by simp) (by simp) ?_ ?_
 ·rintro k -hk -
  obtain⟨y,hy⟩:=bJ hk
  obtain⟨_,hgy⟩:=qxz.1 hy
  simp[hk,hy,hgy, -Bool.forall_bool, -Bool.exists_bool]
  rw[qcZ y]
  refine hp.useB y (bj hy) fun b hb=>?_
  obtain rfl:b=false:=hb _ hp
  simp
 ·rintro - -
  simp
abbrev Ow(S0:Nat->Spc):Spc:=aI (aE (List sD) (aD a0)) (Bv S0) (enc (X:=Bool)) fun x y=>y=false
theorem qe8(h1:S ck=Wn S0):aq bv br S (aE (List sD) (aD a0)) (Bv S0) (enc (X:=Bool)) fun x y=>y=false:=by
 rintro⟨l,d,⟨⟩⟩ hp
 simp[bv,br,h1,hp, -Bool.forall_bool]
abbrev Oo:Spc:=aI (a1 sD) GF (enc (X:=Bool)) fun _ y=>y=false
theorem qeY:aq wg vx S (a1 sD) GF (enc (X:=Bool)) fun _ y=>y=false:=by
 rintro f ⟨h,_⟩
 have h1:¬f.op < 1:=by omega
 have h2:¬3 < f.op:=by omega
 simp[wg,vx,h1,h2, -Bool.forall_bool, -Bool.exists_bool]
abbrev Ot:Spc:=aI (a1 sD) GF (enc (X:=Bool)) fun _ y=>y=false
theorem qe1(h1:S bw=zP):aq gg fS S (a1 sD) GF (enc (X:=Bool)) fun _ y=>y=false:=by
 rintro f ⟨_,h⟩
 have hv:=EG (.inl h)
 simp[gg,fS,h1,hv, -Bool.forall_bool, -Bool.exists_bool]
def Dk(x:Glob×List Attr×List B):Prop:=x.2.1=gj/\(x.1=GlobE\/ ∃n,GG x.2.2 n x.1)
abbrev Q4:Spc:=aI (a3 Glob (List Attr) (List B)) Dk (enc (X:=Int)) fun _ y=>y=0
theorem qdP{g:B}(h:g∈Attr2):0<=kG gj g:=by
 simp only[Attr2,qxD,qxY,or_false]at h
 rcases h with rfl|rfl <;> decide
theorem fM{l:List B}{x:B}(h:x∈l):qR l x=true:=by
 unfold qR
 simpa using h
set_option maxHeartbeats 4000000 in
theorem qae(h1:S aQ=Ui)(h2:S bG=Bg)(h3:S bw=zP)(h4:S ep=qbo S0)(h5:S qE=VZ)(h0:S0 ew=Uj):
 aq ay ax S (a3 Glob (List Attr) (List B)) Dk (enc (X:=Int)) fun _ y=>y=0:=by
 rintro⟨g,a,lb⟩ ⟨ha,hg⟩
 simp only at ha hg
 subst ha
 have hw:(0:Int)<=kG gj I1:=by decide
 rcases hg with rfl|⟨n,hg⟩
 ·simp[ay,ax,GlobE, -Bool.forall_bool, -Bool.exists_bool]
 cases hg with
 | bound n a h=>simp[ay,ax,h1,fM h, -Bool.forall_bool, -Bool.exists_bool]
 | val n a v f k1 k2=>
   have hx:=UI k2
   simp[ay,ax,h1,h2,h5,fM k1,hw,hx, -Bool.forall_bool, -Bool.exists_bool]
 | same n a b g k1 k2 k3=>simp[ay,ax,h1,h2,fM k1,fM k2,hw,qdP k3, -Bool.forall_bool, -Bool.exists_bool]
 | dist n a b mn mx k1 k2 k3 k4 k5 k6=>
   have e:¬mx < mn:=by omega
   simp[ay,ax,h1,fM k1,fM k2,e, -Bool.forall_bool, -Bool.exists_bool]
 | reg n a b t k1 k2 k3=>simp[ay,ax,h1,h3,fM k1,fM k2,EG (.inl k3), -Bool.forall_bool, -Bool.exists_bool]
 | path n a b l k1 k2 k3 k4=>
   have hP:Li S0 (l, .clo ew [],()):=Ks h0 (fun x hx=>k4 x hx) fun _ _ y hy=>hy
   simp[ay,ax,h1,h4,fM k1,fM k2,hP, -Bool.forall_bool, -Bool.exists_bool]
 | node n a b t k1 k2 k3=>simp[ay,ax,h1,h3,fM k1,fM k2,EG (.inr (.inl k3)), -Bool.forall_bool, -Bool.exists_bool]
 | depth n a mn mx k1 k3 k4 k5 k6=>
   have e1:¬mx < mn:=by omega
   have e2:¬mn < 0:=by omega
   simp[ay,ax,h1,fM k1,e1,e2, -Bool.forall_bool, -Bool.exists_bool]
 | head n op a b ho k1 k2=>rcases ho with rfl|rfl <;> simp[ay,ax,h1,fM k1,fM k2, -Bool.forall_bool, -Bool.exists_bool]
 | not n k h=>simp[ay,ax, -Bool.forall_bool, -Bool.exists_bool]
 | two n op a b ho k1 k2=>rcases ho with rfl|rfl <;> simp[ay,ax, -Bool.forall_bool, -Bool.exists_bool]
abbrev We(n:Nat):Spc:=aI (a3 Glob (List Attr) (List B)) (fun x=>lX x.1<=n/\Dk x) (enc (X:=Int)) fun _ y=>y=0
abbrev Q5:Spc:=aI (a3 Glob (List Attr) (List B)) Dk (enc (X:=Int)) fun _ y=>y=0
theorem qe3(n:Nat)(h1:S fu=Q4)(h2:S dE=We n):aq fB fk S (a3 Glob (List Attr) (List B)) (fun x=>lX x.1<=n+1/\Dk x) (enc (X:=Int)) fun _ y=>y=0:=by
 rintro⟨g,a,lb⟩ ⟨hn,hg⟩
 simp only at hn
 have hg':=hg
 obtain⟨ha,hgg⟩:=hg'
 simp only at ha hgg
 subst ha
 have hk:∀k∈g.kids,lX k<=n/\Dk (k,gj,lb):=fun k hk=>by
  have:=R3 hk
  rcases hgg with rfl|⟨m,h⟩
  ·cases hk
  ·obtain⟨m',_,h2⟩:=qcK h hk
   exact⟨by omega,rfl, .inr ⟨m',h2⟩⟩
 simp[fB,fk,h1,hg, -Bool.forall_bool, -Bool.exists_bool]
 intro hkl
 refine ai (X:=Unit) [1,2,19] [] g.kids.length (fun _ _=>True) (fun _=>[]) (fun _=>[]) () (by simp) (by simp) (by omega) (by simp) (by simp) trivial (by simp) (by simp) ?_ ?_
 ·rintro k ⟨⟩ hkk -
  obtain⟨y,hy⟩:=bJ hkk
  obtain⟨_,hgy⟩:=qxz.1 hy
  have hP:=hk y (bj hy)
  simp[hkk,hy,hgy,h2,hP, -Bool.forall_bool, -Bool.exists_bool]
 ·rintro⟨⟩ -
  simp
end Go.Gv

namespace Go.Gv
open Go.Proofs
open Cod (enc dec)
variable {S S0:Nat->Spc}
structure Vk (a:List Attr) (q:Qry):Prop where
 glob:q.glob=GlobE\/GG (aS q.pat []) 2 q.glob
 filts:∀f∈q.filts,GF f
 strat:0<=q.strat/\q.strat < 4
 pat:kP aZ q.pat=true
 size:kB q.pat<=256
 l3:(aS q.pat []).length<=3
 num:jg q.pat<=1000000
 att:a=gj
 lv:∀x∈aM q.pat,qhN a (aS q.pat []) x.cond=true/\∃n,HW n x.cond
structure qk4 (q:Qry):Prop where
 filts:∀f∈q.filts,GF f
 strat:0<=q.strat/\q.strat < 4
 pat:kP aZ q.pat=true
 size:kB q.pat<=256
 l3:(aS q.pat []).length<=3
 num:jg q.pat<=1000000
abbrev Wc:Spc:=aI (a1 Qry) qk4 (enc (X:=Int)) fun _ y=>y=0
theorem qe0{N N2:Nat->Spc}(h0:N cV=Bf)(h0':N cF=wB)(h0'':N2 cY=Ot)(h1:S lz=Il)(h2:S eG=zR N)(h3:S km=Ol)(h4:S bT=s_qlabels)(h5:S aL=Ow N2):
 aq du dn S (a1 Qry) qk4 (enc (X:=Int)) fun _ y=>y=0:=by
 rintro q hq
 have f1:FunIs N (.clo cV []) (uO aZ):=tA h0 fun _=>trivial
 have f2:FunIs N (.clo cF []) uB:=tA h0' fun _=>trivial
 have hF:Bv N2 (q.filts, .clo cY [],()):=Ks h0'' (fun x hx=>hq.filts x hx) fun _ _ y hy=>hy
 have hp:=hq.pat
 unfold kP at hp
 simp only[qxH]at hp
 obtain⟨⟨⟨p1,p2⟩,p3⟩,p4⟩:=hp
 have hsz:=hq.size
 have hsz2:¬256 < kB q.pat:=by omega
 have hl3:=hq.l3
 have s1:¬q.strat < 0:=by have:=hq.strat;omega
 have s2:¬3 < q.strat:=by have:=hq.strat;omega
 have hPb:XH q.pat []:=by show 0+jg q.pat<=1000000;have:=hq.num;omega
 simp[du,dn,h1,p1,p2,h2,s1,s2,h3,hq.pat,hsz,hsz2,h5,hF, -Bool.forall_bool, -Bool.exists_bool]
 refine⟨⟨_,f1⟩,fun y hy=>⟨fun _=>⟨⟨_,f2⟩,fun z hz=>⟨by rw[hz _ f2,p4],fun _=>?_⟩⟩,by rw[hy _ f1,p3]⟩⟩
 simp[h4, -Bool.forall_bool, -Bool.exists_bool]
 refine .inl ⟨hPb,fun l hl _=>?_⟩
 have hl:l=aS q.pat []:=hl
 subst hl
 omega
theorem qeP{N:Nat->Spc}(h0:N nQ=Oo)(h1:S dX=Wc)(h2:S bT=s_qlabels)(h3:S dW=s_leavesQ)(h4:S fw=Uk)(h5:S aL=Ow N)(h6:S lw=Rb)(h7:S dE=Q5):
 aq fC fl S (a2 Qry (List Attr)) (fun x=>Vk x.2 x.1) (enc (X:=Int)) fun _ y=>y=0:=by
 rintro⟨q,a⟩ hq
 have hq:Vk a q:=hq
 have hC:qk4 q:=⟨hq.filts,hq.strat,hq.pat,hq.size,hq.l3,hq.num⟩
 have hPb:XH q.pat []:=by show 0+jg q.pat<=1000000;have:=hq.num;omega
 have hlv:(aM q.pat).length<=jg q.pat:=Kj q.pat
 have hPq:qih q.pat []:=⟨by have:=hq.num;simp;omega,fun y hy=>(hq.lv y hy).2⟩
 have hF:Bv N (q.filts, .clo nQ [],()):=Ks h0 (fun x hx=>hq.filts x hx) fun _ _ y hy=>hy
 have hS:q.glob=GlobE\/ ∃lb,GG lb 2 q.glob:=hq.glob.imp id fun h=>⟨_,h⟩
 have hA:Dk (q.glob,a,aS q.pat []):=⟨hq.att,hq.glob.imp id fun h=>⟨_,h⟩⟩
 have hal:a.length<=1000:=by rw[hq.att];decide
 simp[fC,fl,h1,hC,h2, -Bool.forall_bool, -Bool.exists_bool]
 refine .inl ⟨hPb,fun l hl=>?_⟩
 have hl:l=aS q.pat []:=hl
 subst hl
 simp[h3, -Bool.forall_bool, -Bool.exists_bool]
 refine .inl ⟨hPq,?_⟩
 intro hll
 refine ai (X:=Unit) [1,2,6,20] [] (dg q.pat).length (fun _ _=>True) (fun _=>[]) (fun _=>[]) () (by simp) (by simp) (by omega) (by simp) (by simp) trivial (by simp) (by simp) ?_ ?_
 ·rintro k ⟨⟩ hk -
  obtain⟨x,hx⟩:∃x,(dg q.pat)[k]? =some x:=⟨_,qxA hk⟩
  obtain⟨_,hgx⟩:=qxz.1 hx
  have hxm:=qxC hx
  obtain⟨y,hy,rfl⟩:=qxL.1 hxm
  have hP:PP ((AS y).cond,a,aS q.pat []):=⟨(hq.lv y hy).1,hal⟩
  simp[hk,hx,hgx,h4,hP, -Bool.forall_bool, -Bool.exists_bool]
  exact hP
 ·rintro⟨⟩ -
  simp[h5,h6,h7,hF,hS,hA, -Bool.forall_bool, -Bool.exists_bool]
end Go.Gv

namespace Go.Gv
open Go.Proofs
def Gs:CC:=gq Tryz.f37 [] {} _
def FI:List aj:=[.cell 4 true 13]
theorem YG:ak Tryz.prog AL [] Gs FI 30:=fo
def yB:CC:=gq Tryz.f70 [] {} _
def xz:List aj:=[.cell 4 true 7]
theorem OT:ak Tryz.prog qU [] yB xz 45:=fo
def ui:CC:=gq Tryz.f36 [2] { bx:=[1,43],cu:=[1] } _
def tn:List aj:=[.tmp 4]
theorem J1:ak Tryz.prog pQ [2] ui tn 46:=fo
def jP:CC:=gq Tryz.f38 [2006006,2112011,1111111] { cu:=[2,5] } _
def jp:List aj:=[.cell 6 true 11]
theorem Al:ak Tryz.prog ez [2006006,2112011,1111111] jP jp 159:=fo
def qh:CC:=gq Tryz.f39 [] {} _
def pw:List aj:=[.cell 2 true 3]
theorem FX:ak Tryz.prog rG [] qh pw 13:=fo
def rY:CC:=gq Tryz.f14 [1049049,2050007] { bx:=[18],fz:=[(18,1)],cu:=[2,7,9] } _
def rB:List aj:=[.cell 4 true 26]
theorem HT:ak Tryz.prog tK [1049049,2050007] rY rB 52:=fo
end Go.Gv

namespace Go.Gv
open Cod (enc dec)
variable {S S0:Nat->Spc}
def qej(n:Nat)(x:Cond×List B):Prop:=0 < n/\CS (n -1) x.1
def Vq(n:Nat)(x:Pat×List B):Prop:=0 < n/\PD (n -1) x.1
def qii(x:Pat)(l:List B):Prop:=l.length+jg x<=1000000
def Lh(n:Nat)(x:List Int×Int×List B):Prop:=x.2.1.toNat < n/\ -10<=x.2.1/\x.2.1<=100/\1<=x.2.2.length/\x.2.2.length<=1000000
theorem ic{q:Glob->Prop}{H:ab}{op mn mx:Int}{a b n g v:B}{f:Bool}{d e:D}(ar:List B)(ks:List Glob)(hd:FrzTo H d (enc ar))(he:FrzTo H e (enc ks))(hq:q ⟨op,a,b,n,g,v,f,mn,mx,ar,ks⟩):
 Fin enc q (.agg [.v (.int .i64 op), .v (.string a), .v (.string b), .v (.string n), .v (.string g), .v (.string v), .v (.bool f), .v (.int .i64 mn), .v (.int .i64 mx),d,e]) H:=by
 refine cp (⟨op,a,b,n,g,v,f,mn,mx,ar,ks⟩:Glob) ?_ hq
 rw[KI]
 refine .agg rfl fun k x y hx hy=>?_
 rcases k with _|_|_|_|_|_|_|_|_|_|_|k
 ·cases hx;cases hy;exact .same _
 ·cases hx;cases hy;exact .same _
 ·cases hx;cases hy;exact .same _
 ·cases hx;cases hy;exact .same _
 ·cases hx;cases hy;exact .same _
 ·cases hx;cases hy;exact .same _
 ·cases hx;cases hy;exact .same _
 ·cases hx;cases hy;exact .same _
 ·cases hx;cases hy;exact .same _
 ·cases hx;cases hy;exact hd
 ·cases hx;cases hy;exact he
 ·simp at hx
end Go.Gv

namespace Go.Gv
open Cod (enc dec)
variable {S S0:Nat->Spc}
theorem SW(p:Pat):∀out,(iw p out).length<=out.length+jg p:=by
 induction p using fL with|_ p ih=>?_
 intro out
 rw[oR,nA]
 split
 ·unfold BP
  split
  ·omega
  ·simp
 ·have:∀ (ks:List Pat) (o:List B),(∀k∈ks,k∈p.kids)->(ks.foldl (fun o k=>iw k o) o).length<=o.length+cD ks:=by
   intro ks
   induction ks with
   | nil=>intro o _;simp[cD]
   | cons k ks ihk=>
     intro o hk
     rw[qyu,cD]
     have h1:=ihk (iw k o) fun z hz=>hk z (by simp[hz])
     have:=ih k (hk k (by simp)) o
     omega
  have:=this p.kids out fun _ h=>h
  omega
theorem E8(ks:List Pat)(k:Nat)(lb:List B):((ks.take k).foldl (fun o k=>iw k o) lb).length<=lb.length+cD (ks.take k):=by
 generalize ks.take k=l
 induction l generalizing lb with
 | nil=>simp[cD]
 | cons a l ih=>
   rw[qyu,cD]
   have h1:=ih (iw a lb)
   have h2:=SW a lb
   omega
def Vm(x:Cond×List B)(y:Cond):Prop:=y=wF x.2 x.1
abbrev D3(n:Nat):Spc:=aI (a2 Cond (List B)) (qej n) (enc (X:=Cond)) Vm
theorem NX(n:Nat)(h1:S qU=D3 n):aq yB xz S (a2 Cond (List B)) (qej (n+1)) (enc (X:=Cond)) Vm:=by
 rintro⟨c,lb⟩ ⟨_,hc⟩
 simp only at hc
 have hc:CS n c:=hc
 simp[yB,xz]
 intro b2 b4
 refine⟨fun ho _=>?_,fun ho hl=>?_⟩
 ·refine ai (X:=Unit) [2,4,13] [2,4] lb.length (fun k _=>∀z∈lb.take k,z≠c.lab) (fun _=>[]) (fun _=>[]) () (by simp) (by simp) (by omega) (by simp) (by simp) (by simp) (by simp) (by simp) ?_ ?_
  ·rintro k -hk hz
   obtain⟨x,hx⟩:=bJ hk
   obtain⟨_,hgx⟩:=qxz.1 hx
   simp[hk,hx,hgx]
   refine⟨fun hxl=>fp c.kids (.same _) ?_,fun hxl z hz'=>?_⟩
   ·show Cond.mk _ _ _ _ _ _ _=wF lb c
    rw[EQ,jX,if_pos ho,if_pos (hxl ▸bj hx)]
   ·rw[bc hx]at hz'
    rcases qxE.1 hz' with h|h
    ·exact hz z h
    ·simp at h;subst h;exact hxl
  ·rintro -hz
   rw[qx1]at hz
   simp
   refine fp [] (.nil _) ?_
   show _=wF lb c
   rw[jX,if_pos ho,if_neg (fun h=>hz _ h rfl)]
   rfl
 ·refine ai (X:=Value×List Cond) [1,2,4,29] [2,4] c.kids.length (fun k x=>x.2=(c.kids.take k).map (wF lb)) (fun x=>[(7, .own 40 x.1)]) (fun x=>[(40, .row x.1 DS 7 (x.2.map enc))]) (.slice none 0 0, []) (by simp) (by simp) (by omega) (by simp) (by simp) (by simp) (by simp) (by simp[isNilRow]) ?_ ?_
  ·rintro k ⟨v,ks⟩ hk hkl
   simp only at hkl
   obtain⟨x,hx⟩:=bJ hk
   obtain⟨_,hgx⟩:=qxz.1 hx
   obtain⟨m,hm,hx1⟩:=qkB hc (bj hx)
   have hp:qej n (x,lb):=⟨by omega,by rw[hm];exact hx1⟩
   simp[hk,hx,hgx,h1,hp]
   have:=qkA hc
   have hkl2:ks.length=k:=by rw[hkl,qym,qx4];omega
   refine fun y hy=>⟨by omega,by omega,fun v=> .inl ?_⟩
   obtain rfl:y=wF lb x:=hy
   rw[hkl,List.map_map,List.map_take,qy5]
   simp[hx]
  ·rintro⟨v,ks⟩ hkl
   simp only at hkl
   simp
   rw[qx1]at hkl
   refine fp ks (gl DS (by simp)) ?_
   show _=wF lb c
   rw[jX,if_neg ho,hkl]
abbrev BT:Spc:=aI (a2 Cond (List B)) (fun x=>∃n,CS n x.1) (enc (X:=Cond)) Vm
def PO(x:Pat×List B)(y:Pat):Prop:=y=lE x.2 x.1
abbrev MK(n:Nat):Spc:=aI (a2 Pat (List B)) (Vq n) (enc (X:=Pat)) PO
theorem XY(n:Nat)(h1:S qU=BT)(h2:S AL=MK n):aq Gs FI S (a2 Pat (List B)) (Vq (n+1)) (enc (X:=Pat)) PO:=by
 rintro⟨p,lb⟩ ⟨_,hp⟩
 simp only at hp
 have hp:PD n p:=hp
 have hcd:=qfI hp
 have hpl:=qjs hp
 simp[Gs,FI,h1]
 intro b2 b4
 refine⟨hcd,fun c hc _=>?_⟩
 refine ai (X:=Value×List Pat) [1,2,4,14] [2,4] p.kids.length (fun k x=>x.2=(p.kids.take k).map (lE lb)) (fun x=>[(5, .own 25 x.1)]) (fun x=>[(25, .row x.1 eL 13 (x.2.map enc))]) (.slice none 0 0, []) (by simp) (by simp) (by omega) (by simp) (by simp) (by simp) (by simp) (by simp[isNilRow]) ?_ ?_
 ·rintro k ⟨v,ks⟩ hk hkl
  simp only at hkl
  obtain⟨x,hx⟩:=bJ hk
  obtain⟨_,hgx⟩:=qxz.1 hx
  obtain⟨m,hm,hx1⟩:=qjt hp (bj hx)
  have hq:Vq n (x,lb):=⟨by omega,by rw[hm];exact hx1⟩
  have hkl2:ks.length=k:=by rw[hkl,qym,qx4];omega
  simp[hk,hx,hgx,h2,hq]
  refine fun y hy=>⟨by omega,by omega,fun v=> .inl ?_⟩
  obtain rfl:y=lE lb x:=hy
  rw[hkl,List.map_map,List.map_take,qy5]
  simp[hx]
 ·rintro⟨v,ks⟩ hkl
  simp only at hkl
  rw[qx1]at hkl
  simp
  refine Bn c.kids ks (.same _) (gl eL (by simp)) ?_
  show _=lE lb p
  rw[ra,<-show c=wF lb p.cond from hc,hkl,EQ]
abbrev Jo:Spc:=aI (a2 Pat (List B)) (fun x=>∃n,PD n x.1) (enc (X:=Pat)) PO
abbrev BU:Spc:=aI (aT (a2 Int (List B))) (fun x=> -10<=x.2.1/\x.2.1<=100/\x.2.2.length<=1000) (enc (X:=Pat)) Lf
def qeh(x:Pat)(l r:List B):Prop:=r=iw x l
abbrev RR(n:Nat):Spc:=qhY (X:=Pat) (Y:=B) (fun x l=>eD x<=n/\qii x l) qeh au 1
abbrev i_BoundA2:Spc:=qhY (X:=Pat) (Y:=B) qii qeh au 1
theorem Qk(n:Nat)(h1:S pQ=RR n):PL (X:=Pat) (Y:=B) ui tn S (fun x l=>eD x<=n+1/\qii x l) qeh au 1:=by
 rintro v lb p ⟨hd,hl⟩
 have hk:∀k∈p.kids,eD k<=n:=fun k h=>by have:=jv h;have:eD p<=n+1:=hd;omega
 have hl:lb.length+jg p<=1000000:=hl
 have hpn:=nA p
 simp[ui,tn]
 refine aR (X:=Unit) [1,2] [1] (fun _=>p.op=1->p.lab=E0) (fun _=>[]) (fun _=>[]) ?_ ?_
 ·simp
  refine⟨fun ho=>⟨fun hn _=>?_,fun h _=>h⟩,fun ho h=>absurd h ho⟩
  refine ai (X:=Unit) [1,2,17] [1] lb.length (fun k _=>∀z∈lb.take k,z≠p.lab) (fun _=>[]) (fun _=>[]) () (by simp) (by simp) (by omega) (by simp) (by simp) (by simp) (by simp) (by simp) ?_ ?_
  ·rintro k -hkk hz
   obtain⟨x,hx⟩:=bJ hkk
   obtain⟨_,hgx⟩:=qxz.1 hx
   simp[hkk,hx,hgx]
   refine⟨fun hxl=>kg lb (by simp) ?_,fun hxl z hz'=>?_⟩
   ·show lb=iw p lb
    rw[oR,if_pos ⟨ho,hn⟩,BP,if_pos (hxl ▸bj hx)]
   ·rw[bc hx]at hz'
    rcases qxE.1 hz' with h|h
    ·exact hz z h
    ·simp at h;subst h;exact hxl
  ·rintro -hz
   rw[qx1]at hz
   simp
   refine⟨by omega,by omega,fun v=>kg (lb++ [p.lab]) (by simp) ?_⟩
   show _=iw p lb
   rw[oR,if_pos ⟨ho,hn⟩,BP,if_neg fun h=>hz _ h rfl]
 ·rintro -hno
  simp
  intro hkl
  refine ai (X:=Value×List B) [35] [] p.kids.length (fun k x=>x.2=(p.kids.take k).foldl (fun o k=>iw k o) lb) (fun x=>[(1, .own 1 x.1)]) (fun x=>[(1, .row x.1 au 1 (x.2.map enc))]) (v,lb) (by simp) (by simp) (by omega) (by simp) (by simp) (by simp) (by simp) (by simp) ?_ ?_
  ·rintro k ⟨v,ls⟩ hkk hls
   simp only at hls
   obtain⟨x,hx⟩:=bJ hkk
   obtain⟨_,hgx⟩:=qxz.1 hx
   have hq:qii x ls:=by
    have h2:=E8 p.kids k lb
    have h3:=E8 (p.kids.drop k) 1 ls
    rw[<-hls]at h2
    have h4:cD (p.kids.take k) +cD (p.kids.drop k)=cD p.kids:=by rw[<-Bh,qyc]
    rw[gP hx,cD]at h4
    show ls.length+jg x<=_
    omega
   have hq2:=hk x (bj hx)
   simp[hkk,hx,hgx,h1,hq,hq2]
   intro v' l' hy
   obtain rfl:l'=iw x ls:=hy
   refine .inl ?_
   rw[bc hx,qzA,<-hls]
   rfl
  ·rintro⟨v,ls⟩ hls
   simp only at hls
   rw[qx1]at hls
   simp
   refine kg ls (by simp) ?_
   show ls=iw p lb
   rw[oR,if_neg fun h=>h.2 (hno h.1),hls]
abbrev qc1:Spc:=qlJ (Y:=B) (aE Pat (aD a0)) (fun x=>x.2.1= .v (.slice none 0 0)/\qii x.1 []) (fun x r=>qeh x.1 [] r) au 1
theorem Ql(h1:S pQ=i_BoundA2):Tg (Y:=B) ui tn S (aE Pat (aD a0)) (fun x=>x.2.1= .v (.slice none 0 0)/\qii x.1 []) (fun x r=>qeh x.1 [] r) au 1:=by
 rintro⟨p,d,⟨⟩⟩ ⟨hd,hl⟩
 have hd:d= .v (.slice none 0 0):=hd
 subst hd
 have hl:0+jg p<=1000000:=hl
 have hpn:=nA p
 simp[ui,tn]
 refine aR (X:=Unit) [1,2] [] (fun _=>p.op=1->p.lab=E0) (fun _=>[]) (fun _=>[]) ?_ ?_
 ·simp
  refine⟨fun ho=>⟨fun hn=>?_,fun h _=>h⟩,fun ho h=>absurd h ho⟩
  refine ai (X:=Unit) [1,2] [] 0 (fun _ _=>True) (fun _=>[]) (fun _=>[]) () (by simp) (by simp) (by omega) (by simp) (by simp) trivial (by simp) (by simp) ?_ ?_
  ·rintro k -hkk -
   exact absurd hkk (Nat.not_lt_zero _)
  ·rintro - -
   simp
   refine fun v=>kg [p.lab] (by simp) ?_
   show _=iw p []
   rw[oR,if_pos ⟨ho,hn⟩,BP,if_neg (by simp)]
   rfl
 ·rintro -hno
  simp
  intro hkl
  refine ai (X:=Value×List B) [35] [] p.kids.length (fun k x=>x.2=(p.kids.take k).foldl (fun o k=>iw k o) []) (fun x=>[(1, .own 1 x.1)]) (fun x=>[(1, .row x.1 au 1 (x.2.map enc))]) (.slice none 0 0, []) (by simp) (by simp) (by omega) (by simp) (by simp) (by simp) (by simp) (by simp[isNilRow]) ?_ ?_
  ·rintro k ⟨v,ls⟩ hkk hls
   simp only at hls
   obtain⟨x,hx⟩:=bJ hkk
   obtain⟨_,hgx⟩:=qxz.1 hx
   have hq:qii x ls:=by
    have h2:=E8 p.kids k []
    have h3:=E8 (p.kids.drop k) 1 ls
    rw[<-hls,qzG]at h2
    have h4:cD (p.kids.take k) +cD (p.kids.drop k)=cD p.kids:=by rw[<-Bh,qyc]
    rw[gP hx,cD]at h4
    show ls.length+jg x<=_
    omega
   simp[hkk,hx,hgx,h1,hq]
   intro v' l' hy
   obtain rfl:l'=iw x ls:=hy
   refine .inl ?_
   rw[bc hx,qzA,<-hls]
   rfl
  ·rintro⟨v,ls⟩ hls
   simp only at hls
   rw[qx1]at hls
   simp
   refine kg ls (by simp) ?_
   show ls=iw p []
   rw[oR,if_neg fun h=>h.2 (hno h.1),hls]
abbrev s_Bound2:Spc:=qlt qc1 i_BoundA2
end Go.Gv
