/- W202 -/
import Derived.Test.YtnffegdacbdhmaaGreatDoorGd24
set_option linter.all false
set_option maxRecDepth 100000
set_option maxHeartbeats 0
open Bool renaming forall_bool → fB', exists_bool → eB'
namespace Go.Gv
open Go.Proofs
open Cod (enc dec)
variable {S S0:Nat->Spc}
abbrev ZK(x:Glob):Prop:=∃lb m,GG lb m x
abbrev qag:Spc:=aL (a1 Glob) ZK (enc (X:=Bool)) λx y=>y=true
set_option maxHeartbeats 1000000 in
theorem Ov:am bQ bO S (a1 Glob) ZK (enc (X:=Bool)) λx y=>y=true:=by
 rintro x ⟨lb,m,h⟩;cases h with
 |bound n a h=>simp[bQ,bO,E0,-fB',-eB']
 |val n a v f h1 h2=>simp[bQ,bO,E0,-fB',-eB']
 |same n a b g h1 h2 h3=>simp[bQ,bO,E0,-fB',-eB']
 |dist n a b mn mx h1 h2 h3 h4 h5 h6=>simp[bQ,bO,E0,-fB',-eB']
 |reg n a b t h1 h2 h3=>simp[bQ,bO,E0,-fB',-eB']
 |path n a b l h1 h2 h3 h4=>simp[bQ,bO,E0,-fB',-eB']
 |node n a b t h1 h2 h3=>simp[bQ,bO,E0,-fB',-eB']
 |depth n a mn mx h1 h3 h4 h5 h6=>simp[bQ,bO,E0,-fB',-eB']
 |head n op a b ho h1 h2=>rcases ho with rfl|rfl<;>simp[bQ,bO,E0,-fB',-eB']
 |not n k h=>simp[bQ,bO,E0,-fB',-eB']
 |two n op a b ho h1 h2=>rcases ho with rfl|rfl<;>simp[bQ,bO,E0,-fB',-eB']
def qrh(n:Nat)(x:Glob×Int×Int):Prop:=nk x.1<=n/\0<=x.2.1/\x.2.1+Ev x.1<=60/\0<=x.2.2/\x.2.2+nk x.1<=1000/\nk x.1<=60
abbrev UZ(n:Nat):Spc:=aL (a3 Glob Int Int) (qrh n) (mj (Y:=Int) (Z:=Int)) λx y=>y=(x.2.1+Ev x.1,x.2.2+nk x.1 -1)
abbrev U0:Spc:=aL (a3 Glob Int Int) (λx=>∃n,qrh n x) (mj (Y:=Int) (Z:=Int)) λx y=>y=(x.2.1+Ev x.1,x.2.2+nk x.1 -1)
theorem Hy(n:Nat)(h1:S jp=UZ n):am qL qh S (a3 Glob Int Int) (qrh (n+1)) (mj (Y:=Int) (Z:=Int)) λx y=>y=(x.2.1+Ev x.1,x.2.2+nk x.1 -1):=by
 rintro⟨x,nodes,deep⟩ ⟨hn,h0,h2,h3,h4,h5⟩;simp only at hn h0 h2 h3 h4 h5;have hd1:=La x;have hn1:=qaz x;simp[qL,qh];refine⟨by simp only[InR];omega,λhkl=>?_⟩;refine ah (X:=Int×Int) [2,17] [] x.kids.length (λk z=>z.1=nodes+1+ (nI (x.kids.take k):Int)/\z.2=deep+ (nJ (x.kids.take k):Int)) (λz=>[(1,enc z.1),(8,enc z.2)]) (λ_=>[]) (nodes+1,deep) (by simp[nI,nJ]) ?_ ?_
 ·rintro k ⟨m,d⟩ hk ⟨e1,e2⟩;simp only at e1 e2;obtain⟨y,hy⟩:=aQ hk;obtain⟨_,hgy⟩:=qzV.1 hy;have hm:=qcg hy;have hd:=Is (aP hy);have hp:qrh n (y,m,deep+1):=⟨by show nk y<=n;omega,by show 0<=m;omega,by show m+Ev y<=60;omega,by show 0<=deep+1;omega,by show deep+1+nk y<=1000;omega,by show nk y<=60;omega⟩
  have hm60:¬60<m:=by have:=qaz y;omega
  simp[h1,hk,hy,hgy,hp,hm60];exact⟨by simp only[InR];omega,by omega,by rw[hm.2.1,e2];omega⟩
 ·rintro⟨m,d⟩ ⟨e1,e2⟩;simp only at e1 e2;rw[qAb]at e1 e2;simp;exact⟨by omega,by omega⟩
def qf4(x:Glob):D.agg [D.v (Value.int IntKind.i64 x.op),D.v (Value.string x.a),D.v (Value.string x.b),D.v (Value.string x.name),D.v (Value.string x.arg),D.v (Value.string x.val),D.v (Value.bool x.fold),D.v (Value.int IntKind.i64 x.mn),D.v (Value.int IntKind.i64 x.mx),D.list 1 (List.map enc x.args),D.list 11 (List.map enc x.kids)]=enc x:=by simp
def N5(S0:Nat->Spc)(x:List Glob×D×Unit):Prop:=FunOnP S0 x.2.1 x.1 λ_=>false
abbrev qeH(S0:Nat->Spc):Spc:=aL (aE (List Glob) (aD a0)) (N5 S0) (enc (X:=Int)) λx y=>y= -1
def rr:am dW dP S (aE (List Glob) (aD a0)) (N5 S) (enc (X:=Int)) λx y=>y= -1:=by
 rintro⟨l,d,⟨⟩⟩ hp;replace hp:FunOnP S d l λ_=>false:=hp
 simp[dW,dP,-fB',-eB'];intro hkl;refine ah (X:=Unit) [0,1] [] l.length (λk _=>True) (λ_=>[]) (λ_=>[]) () (by simp) ?_ ?_
 ·rintro k -hk -;obtain⟨y,hy⟩:=aQ hk;obtain⟨_,hgy⟩:=qzV.1 hy;simp[hk,hy,hgy,-fB',-eB'];rw[qf4 y];refine hp.useB y (aP hy) λb hb=>?_
  obtain rfl:b=false:=hb _ hp;simp
 ·rintro - -;simp
abbrev qeK(S0:Nat->Spc):Spc:=aL (aE (List Glob) (aD a0)) (N5 S0) (enc (X:=Bool)) λx y=>y=false
def nO(h1:S eD=qeH S0):am du dr S (aE (List Glob) (aD a0)) (N5 S0) (enc (X:=Bool)) λx y=>y=false:=by
 rintro⟨l,d,⟨⟩⟩ hp;simp[du,dr,h1,hp,-fB']
def qnL(n:Nat)(x:Glob):Prop:=nk x<=n/\ZK x
abbrev Vh(n:Nat):Spc:=aL (aE Glob (aD a0)) (λx=>qnL n x.1/\x.2.1= .clo ej []) (enc (X:=Bool)) λx y=>y=true
abbrev Vi:Spc:=aL (aE Glob (aD a0)) (λx=>(∃n,qnL n x.1)/\x.2.1= .clo ej []) (enc (X:=Bool)) λx y=>y=true
abbrev Mb(n:Nat):Spc:=aL (aE Glob (aD a0)) (λx=>qnL n x.1/\x.2.1= .cptr [.clo ej []] 0) (enc (X:=Bool)) λx y=>y=false
def JU(n:Nat)(h1:S mM=Vh n):am qN qj S (aE Glob (aD a0)) (λx=>qnL n x.1/\x.2.1= .cptr [.clo ej []] 0) (enc (X:=Bool)) λx y=>y=false:=by
 rintro⟨x,d,⟨⟩⟩ ⟨hx,hd⟩;simp only at hx hd;subst hd;simp[qN,qj,h1,hx,-fB',-eB']
def Ou(n:Nat)(h0:S0 fS=Mb n)(h1:S dx=qeK S0)(h2:S ej=qag):am vr uq S (aE Glob (aD a0)) (λx=>qnL (n+1) x.1/\x.2.1= .clo ej []) (enc (X:=Bool)) λx y=>y=true:=by
 rintro⟨x,d,⟨⟩⟩ ⟨⟨hn,hx⟩,hd⟩;simp only at hn hx hd;subst hd;have hk:∀k∈x.kids,qnL n k:=λk hk=>by
  have:=Wq hk;obtain⟨lb,m,h⟩:=hx;obtain⟨m',_,h2⟩:=qf6 h hk;exact⟨by omega,lb,m',h2⟩
 have hO:FunOnP S0 (.clo fS [.cptr [.clo ej []] 0]) x.kids λ_=>false:=
  It h0 (λk hk'=>⟨hk k hk',rfl⟩) (λ_ _ y hy=>hy)
 have hP:N5 S0 (x.kids, .clo fS [.cptr [.clo ej []] 0],()):=hO;simp[vr,uq,h1,h2,hx,hP,-fB',-eB']
abbrev Z1:Spc:=aL (a1 Glob) (λg=>g=GlobE\/ZK g) (enc (X:=Bool)) λx y=>y=decide (x.op=0)
set_option maxHeartbeats 1000000 in
def On:am jx jv S (a1 Glob) (λg=>g=GlobE\/ZK g) (enc (X:=Bool)) λx y=>y=decide (x.op=0):=by
 rintro x (rfl|⟨lb,m,h⟩)
 ·simp[jx,jv,GlobE,E0,-fB']
 ·have:x.op≠0:=by cases h<;>simp<;>omega
  simp[jx,jv,this,-fB',-eB']
abbrev Vj:Spc:=aL (a1 Glob) (λg=>g=GlobE\/ ∃lb,GG lb 2 g) (enc (X:=Bool)) λx y=>y=true
theorem Lq(h1:S pg=Z1)(h2:S jp=U0)(h3:S mM=Vi):am iq gW S (a1 Glob) (λg=>g=GlobE\/ ∃lb,GG lb 2 g) (enc (X:=Bool)) λx y=>y=true:=by
 rintro x (rfl|⟨lb,h⟩)
 ·have p0:GlobE=GlobE\/ZK GlobE:= .inl rfl;have e0:GlobE.op=0:=rfl;simp[iq,gW,h1,p0,e0,-fB',-eB'];exact .inl rfl
 ·have hnum:=qmM h;have p0:x=GlobE\/ZK x:= .inr ⟨lb,2,h⟩;have hop:x.op≠0:=by cases h<;>simp<;>omega
  have p1:∃n,qrh n (x,0,1):=⟨nk x,qz2 _,qBf _,by show(0:Int) +Ev x<=60;omega,by show(0:Int)<=1;omega,by show(1:Int) +nk x<=1000;omega,by show nk x<=60;omega⟩
  have p2:∃n,qnL n x:=⟨nk x,qz2 _,lb,2,h⟩
  have p5:(Ev x:Int)<=60:=by omega
  have p6:(1:Int) +nk x -1<=20:=by omega
  simp[iq,gW,h1,h2,h3,p0,hop,p1,p2,p5,p6,-fB',-eB']
def Gx{x:B} :(x∈Types\/x∈qbp\/(x∈Xz/\x≠ ⟨#[]⟩))->aJ x=true:=by
 have hv:∀b:B,(decide (1<=b.size) && decide (b.size<=32) && (b.data.toList.all λc=>KM c.toNat))=true->aJ b=true:=λb h=>xE h
 rintro(h|h|⟨h,hn⟩)
 ·simp only[Types,qAc,qAL,or_false]at h;rcases h with rfl|rfl|rfl<;>exact hv _ (by decide)
 ·simp only[qbp,qAc,qAL,or_false]at h;rcases h with rfl|rfl|rfl<;>exact hv _ (by decide)
 ·simp only[Xz,qAc,qAL,or_false]at h;rcases h with rfl|rfl|rfl
  ·exact hv _ (by decide)
  ·exact hv _ (by decide)
  ·exact absurd rfl hn
def Y4{v:B}(h:v∈qbs):∃r,ox v=some r:=by
 have e:∀v∈qbs,(ox v).isSome=true:=by decide
 exact qAW.1 (e v h)
abbrev YB:Spc:=aL (a1 B) (λs=>s∈Xz) (enc (X:=Bool)) λ_ y=>y=false
def qlv(h1:S bJ=uc):am ln kH S (a1 B) (λs=>s∈Xz) (enc (X:=Bool)) λ_ y=>y=false:=by
 rintro s hs;have hs:s∈Xz:=hs;have hv:s≠ ⟨#[]⟩->aJ s=true:=λh=>Gx (.inr (.inr ⟨hs,h⟩))
 simp[ln,kH,h1,-fB',-eB'];exact hv
def M8{X:Type}[Cod X]{S:Nat->Spc}{g:Nat}{l:List X}{pre:X->Prop}{q:X->Bool}{post:X->Bool->Prop}(h:S g=aL (a1 X) pre enc post)(hp:∀x∈l,pre x)(hq:∀x∈l,∀y,post x y->y=q x):FunOnP S (.clo g []) l q:=by
 refine⟨g, [],_,rfl,h,λx hx=>⟨⟨x,by simp,hp x hx⟩,λr hr=>?_⟩⟩;obtain⟨y,rfl,hy⟩:=hr x (by simp) (hp x hx);rw[hq x hx y hy]
def N4(S0:Nat->Spc)(x:List B×D×Unit):Prop:=FunOnP S0 x.2.1 x.1 λ_=>false
abbrev qeG(S0:Nat->Spc):Spc:=aL (aE (List B) (aD a0)) (N4 S0) (enc (X:=Int)) λx y=>y= -1
def qlw:am fB ft S (aE (List B) (aD a0)) (N4 S) (enc (X:=Int)) λx y=>y= -1:=by
 rintro⟨l,d,⟨⟩⟩ hp;replace hp:FunOnP S d l λ_=>false:=hp
 simp[fB,ft,-fB',-eB'];intro hkl;refine ah (X:=Unit) [0,1] [] l.length (λk _=>True) (λ_=>[]) (λ_=>[]) () (by simp) ?_ ?_
 ·rintro k -hk -;obtain⟨y,hy⟩:=aQ hk;obtain⟨_,hgy⟩:=qzV.1 hy;simp[hk,hy,hgy,-fB',-eB'];refine hp.useB y (aP hy) λb hb=>?_
  obtain rfl:b=false:=hb _ hp;simp
 ·rintro - -;simp
abbrev qeJ(S0:Nat->Spc):Spc:=aL (aE (List B) (aD a0)) (N4 S0) (enc (X:=Bool)) λx y=>y=false
def qlx(h1:S fK=qeG S0):am eG eu S (aE (List B) (aD a0)) (N4 S0) (enc (X:=Bool)) λx y=>y=false:=by
 rintro⟨l,d,⟨⟩⟩ hp;simp[eG,eu,h1,hp,-fB']
def CQ(S0:Nat->Spc)(x:List tM×D×Unit):Prop:=FunOnP S0 x.2.1 x.1 λ_=>false
abbrev qaj(S0:Nat->Spc):Spc:=aL (aE (List tM) (aD a0)) (CQ S0) (enc (X:=Int)) λx y=>y= -1
def qgm(x:tM):D.agg [D.v (Value.int IntKind.i64 x.op),D.v (Value.bool x.neg),D.v (Value.string x.reg)]=enc x:=by simp
def qii:am cm bZ S (aE (List tM) (aD a0)) (CQ S) (enc (X:=Int)) λx y=>y= -1:=by
 rintro⟨l,d,⟨⟩⟩ hp;replace hp:FunOnP S d l λ_=>false:=hp
 simp[cm,bZ,-fB',-eB'];intro hkl;refine ah (X:=Unit) [0,1] [] l.length (λk _=>True) (λ_=>[]) (λ_=>[]) () (by simp) ?_ ?_
 ·rintro k -hk -;obtain⟨y,hy⟩:=aQ hk;obtain⟨_,hgy⟩:=qzV.1 hy;simp[hk,hy,hgy,-fB',-eB'];rw[qgm y];refine hp.useB y (aP hy) λb hb=>?_
  obtain rfl:b=false:=hb _ hp;simp
 ·rintro - -;simp
abbrev RJ(S0:Nat->Spc):Spc:=aL (aE (List tM) (aD a0)) (CQ S0) (enc (X:=Bool)) λx y=>y=false
def qij(h1:S cD=qaj S0):am bI bH S (aE (List tM) (aD a0)) (CQ S0) (enc (X:=Bool)) λx y=>y=false:=by
 rintro⟨l,d,⟨⟩⟩ hp;simp[bI,bH,h1,hp,-fB']
abbrev RB:Spc:=aL (a1 tM) GF (enc (X:=Bool)) λ_ y=>y=false
def qia:am xo wH S (a1 tM) GF (enc (X:=Bool)) λ_ y=>y=false:=by
 rintro f ⟨h,_⟩;have h1:¬f.op< 1:=by omega
 have h2:¬3<f.op:=by omega
 simp[xo,wH,h1,h2,-fB',-eB']
abbrev RE:Spc:=aL (a1 tM) GF (enc (X:=Bool)) λ_ y=>y=false
def qid(h1:S bJ=uc):am ip gV S (a1 tM) GF (enc (X:=Bool)) λ_ y=>y=false:=by
 rintro f ⟨_,h⟩;have hv:=Gx (.inl h);simp[ip,gV,h1,hv,-fB',-eB']
def ET(x:Glob×List Attr×List B):Prop:=x.2.1=gJ/\(x.1=GlobE\/ ∃n,GG x.2.2 n x.1)
abbrev Vc:Spc:=aL (a3 Glob (List Attr) (List B)) ET (enc (X:=Int)) λ_ y=>y=0
def qhf{g:B}(h:g∈Attr2):0<=lR gJ g:=by
 simp only[Attr2,qAc,qAL,or_false]at h;rcases h with rfl|rfl<;>decide
def gN{l:List B}{x:B}(h:x∈l):As l x=true:=by
 unfold As;simpa using h
set_option maxHeartbeats 4000000 in
theorem qdA(h1:S aZ=YA)(h2:S bT=Cy)(h3:S bJ=uc)(h4:S eT=qeJ S0)(h5:S rq=Z6)(h0:S0 eY=YB):
 am aB aA S (a3 Glob (List Attr) (List B)) ET (enc (X:=Int)) λ_ y=>y=0:=by
 rintro⟨g,a,lb⟩ ⟨ha,hg⟩;simp only at ha hg;subst ha;have hw:(0:Int)<=lR gJ LH:=by decide
 rcases hg with rfl|⟨n,hg⟩
 ·simp[aB,aA,GlobE,-fB',-eB']
 cases hg with
 |bound n a h=>simp[aB,aA,h1,gN h,-fB',-eB']
 | val n a v f k1 k2=>
   have hx:=Y4 k2;simp[aB,aA,h1,h2,h5,gN k1,hw,hx,-fB',-eB']
 |same n a b g k1 k2 k3=>simp[aB,aA,h1,h2,gN k1,gN k2,hw,qhf k3,-fB',-eB']
 | dist n a b mn mx k1 k2 k3 k4 k5 k6=>
   have e:¬mx<mn:=by omega
   simp[aB,aA,h1,gN k1,gN k2,e,-fB',-eB']
 |reg n a b t k1 k2 k3=>simp[aB,aA,h1,h3,gN k1,gN k2,Gx (.inl k3),-fB',-eB']
 | path n a b l k1 k2 k3 k4=>
   have hP:N4 S0 (l, .clo eY [],()):=M8 h0 (λx hx=>k4 x hx) λ_ _ y hy=>hy
   simp[aB,aA,h1,h4,gN k1,gN k2,hP,-fB',-eB']
 |node n a b t k1 k2 k3=>simp[aB,aA,h1,h3,gN k1,gN k2,Gx (.inr (.inl k3)),-fB',-eB']
 | depth n a mn mx k1 k3 k4 k5 k6=>
   have e1:¬mx<mn:=by omega
   have e2:¬mn< 0:=by omega
   simp[aB,aA,h1,gN k1,e1,e2,-fB',-eB']
 |head n op a b ho k1 k2=>rcases ho with rfl|rfl<;>simp[aB,aA,h1,gN k1,gN k2,-fB',-eB']
 |not n k h=>simp[aB,aA,-fB',-eB']
 |two n op a b ho k1 k2=>rcases ho with rfl|rfl<;>simp[aB,aA,-fB',-eB']
abbrev qad(n:Nat):Spc:=aL (a3 Glob (List Attr) (List B)) (λx=>nk x.1<=n/\ET x) (enc (X:=Int)) λ_ y=>y=0
abbrev Vd:Spc:=aL (a3 Glob (List Attr) (List B)) ET (enc (X:=Int)) λ_ y=>y=0
theorem qif(n:Nat)(h1:S gi=Vc)(h2:S dT=qad n):am gm fW S (a3 Glob (List Attr) (List B)) (λx=>nk x.1<=n+1/\ET x) (enc (X:=Int)) λ_ y=>y=0:=by
 rintro⟨g,a,lb⟩ ⟨hn,hg⟩;simp only at hn;have hg':=hg;obtain⟨ha,hgg⟩:=hg';simp only at ha hgg;subst ha;have hk:∀k∈g.kids,nk k<=n/\ET (k,gJ,lb):=λk hk=>by
  have:=Wq hk;rcases hgg with rfl|⟨m,h⟩
  ·cases hk
  ·obtain⟨m',_,h2⟩:=qf6 h hk;exact⟨by omega,rfl, .inr ⟨m',h2⟩⟩
 simp[gm,fW,h1,hg,-fB',-eB'];intro hkl;refine ah (X:=Unit) [1,2,19] [] g.kids.length (λ_ _=>True) (λ_=>[]) (λ_=>[]) () trivial ?_ ?_
 ·rintro k ⟨⟩ hkk -;obtain⟨y,hy⟩:=aQ hkk;obtain⟨_,hgy⟩:=qzV.1 hy;have hP:=hk y (aP hy);simp[hkk,hy,hgy,h2,hP,-fB',-eB']
 ·rintro⟨⟩ -;simp
structure qdf (a:List Attr) (q:Qry):Prop where
 glob:q.glob=GlobE\/GG (bM q.pat []) 2 q.glob
 filts:∀f∈q.filts,GF f
 strat:0<=q.strat/\q.strat< 4
 pat:fJ aJ q.pat=true
 size:fj q.pat<=256
 l3:(bM q.pat []).length<=3
 num:da q.pat<=1000000
 att:a=gJ
 lv:∀x∈aq q.pat,qhW a (bM q.pat []) x.cond=true/\∃n,Kv n x.cond
structure qnQ (q:Qry):Prop where
 filts:∀f∈q.filts,GF f
 strat:0<=q.strat/\q.strat< 4
 pat:fJ aJ q.pat=true
 size:fj q.pat<=256
 l3:(bM q.pat []).length<=3
 num:da q.pat<=1000000
abbrev qab:Spc:=aL (a1 Qry) qnQ (enc (X:=Int)) λ_ y=>y=0
theorem qic{N N2:Nat->Spc}(h0:N dv=Cx)(h0':N cT=xO)(h0'':N2 dz=RE)(h1:S mO=K4)(h2:S fl=Bc N)(h3:S gg=Cw)(h4:S cU=s_qlabels)(h5:S aS=RJ N2):
 am dL dH S (a1 Qry) qnQ (enc (X:=Int)) λ_ y=>y=0:=by
 rintro q hq;have f1:FunIs N (.clo dv []) (mI aJ):=uI h0 λ_=>trivial
 have f2:FunIs N (.clo cT []) lJ:=uI h0' λ_=>trivial
 have hF:CQ N2 (q.filts, .clo dz [],()):=M8 h0'' (λx hx=>hq.filts x hx) λ_ _ y hy=>hy
 have hp:=hq.pat;unfold fJ at hp;simp only[qzZ]at hp;obtain⟨⟨⟨p1,p2⟩,p3⟩,p4⟩:=hp;have hsz:=hq.size;have hsz2:¬256<fj q.pat:=by omega
 have hl3:=hq.l3;have s1:¬q.strat< 0:=by have:=hq.strat;omega
 have s2:¬3<q.strat:=by have:=hq.strat;omega
 have hPb:qhK q.pat []:=by show 0+da q.pat<=1000000;have:=hq.num;omega
 simp[dL,dH,h1,p1,p2,h2,s1,s2,h3,hq.pat,hsz,hsz2,h5,hF,-fB',-eB'];refine⟨⟨_,f1⟩,λy hy=>⟨λ_=>⟨⟨_,f2⟩,λz hz=>⟨by rw[hz _ f2,p4],λ_=>?_⟩⟩,by rw[hy _ f1,p3]⟩⟩;simp[h4,-fB',-eB'];refine .inl ⟨hPb,λl hl _=>?_⟩;have hl:l=bM q.pat []:=hl;subst hl;omega
theorem qh6{N:Nat->Spc}(h0:N ph=RB)(h1:S eE=qab)(h2:S cU=s_qlabels)(h3:S dy=s_leavesQ)(h4:S dj=RG)(h5:S aS=RJ N)(h6:S mN=Vj)(h7:S dT=Vd):
 am gp fX S (a2 Qry (List Attr)) (λx=>qdf x.2 x.1) (enc (X:=Int)) λ_ y=>y=0:=by
 rintro⟨q,a⟩ hq;have hq:qdf a q:=hq;have hC:qnQ q:=⟨hq.filts,hq.strat,hq.pat,hq.size,hq.l3,hq.num⟩
 have hPb:qhK q.pat []:=by show 0+da q.pat<=1000000;have:=hq.num;omega
 have hlv:(aq q.pat).length<=da q.pat:=qx q.pat;have hPq:qdn q.pat []:=⟨by have:=hq.num;simp;omega,λy hy=>(hq.lv y hy).2⟩
 have hF:CQ N (q.filts, .clo ph [],()):=M8 h0 (λx hx=>hq.filts x hx) λ_ _ y hy=>hy
 have hS:q.glob=GlobE\/ ∃lb,GG lb 2 q.glob:=hq.glob.imp id λh=>⟨_,h⟩
 have hA:ET (q.glob,a,bM q.pat []):=⟨hq.att,hq.glob.imp id λh=>⟨_,h⟩⟩
 have hal:a.length<=1000:=by rw[hq.att];decide
 simp[gp,fX,h1,hC,h2,-fB',-eB'];refine .inl ⟨hPb,λl hl=>?_⟩;have hl:l=bM q.pat []:=hl;subst hl;simp[h3,-fB',-eB'];refine .inl ⟨hPq,?_⟩;intro hll;refine ah (X:=Unit) [1,2,6,20] [] (bz q.pat).length (λ_ _=>True) (λ_=>[]) (λ_=>[]) () trivial ?_ ?_
 ·rintro k ⟨⟩ hk -;obtain⟨x,hx⟩:∃x,(bz q.pat)[k]? =some x:=⟨_,qzX hk⟩
  obtain⟨_,hgx⟩:=qzV.1 hx;have hxm:=qzY hx;obtain⟨y,hy,rfl⟩:=qz1.1 hxm;have hP:Tt ((mq y).cond,a,bM q.pat []):=⟨(hq.lv y hy).1,hal⟩
  simp[hk,hx,hgx,h4,hP,-fB',-eB'];exact hP
 ·rintro⟨⟩ -;simp[h5,h6,h7,hF,hS,hA,-fB',-eB']
end Go.Gv
namespace Go.Gv
open Go.Proofs
def IS:CC:=gq Tryz.f21 [] {} _
def HX:List ak:=[.cell 4 true 13]
def qca:FO BZ [] IS HX 30:=fo
def Ad:CC:=gq Tryz.f53 [] {} _
def yU:List ak:=[.cell 4 true 7]
def Si:FO rO [] Ad yU 45:=fo
def vy:CC:=gq Tryz.f20 [2] { bx:=[1,43],cu:=[1] } _
def ux:List ak:=[.tmp 4]
def MI:FO qD [2] vy ux 46:=fo
def lu:CC:=gq Tryz.f22 [2006006,2112011,1111111] { cu:=[2,5] } _
def kK:List ak:=[.cell 6 true 11]
def BA:FO eZ [2006006,2112011,1111111] lu kK 159:=fo
def qS:CC:=gq Tryz.f23 [] {} _
def qo:List ak:=[.cell 2 true 3]
def If:FO sF [] qS qo 13:=fo
def sW:CC:=gq Tryz.f8 [1049049,2050007] { bx:=[18],fz:=[(18,1)],cu:=[2,7,9] } _
def sw:List ak:=[.cell 4 true 26]
def Kr:FO uV [1049049,2050007] sW sw 52:=fo
open Cod (enc dec)
variable {S S0:Nat->Spc}
def qhG(n:Nat)(x:Cond×List B):Prop:=0<n/\CS (n -1) x.1
def ZF(n:Nat)(x:Pat×List B):Prop:=0<n/\PD (n -1) x.1
def qlh(x:Pat)(l:List B):Prop:=l.length+da x<=1000000
def N3(n:Nat)(x:List Int×Int×List B):Prop:=x.2.1.toNat<n/\ -10<=x.2.1/\x.2.1<=100/\1<=x.2.2.length/\x.2.2.length<=1000000
theorem jn{q:Glob->Prop}{H:ab}{op mn mx:Int}{a b n g v:B}{f:Bool}{d e:D}(ar:List B)(ks:List Glob)(hd:FrzTo H d (enc ar))(he:FrzTo H e (enc ks))(hq:q ⟨op,a,b,n,g,v,f,mn,mx,ar,ks⟩):
 Fin enc q (.agg [.v (.int .i64 op), .v (.string a), .v (.string b), .v (.string n), .v (.string g), .v (.string v), .v (.bool f), .v (.int .i64 mn), .v (.int .i64 mx),d,e]) H:=by
 refine ba (⟨op,a,b,n,g,v,f,mn,mx,ar,ks⟩:Glob) ?_ hq;rw[Nj];refine .agg rfl λk x y hx hy=>?_
 rcases k with _|_|_|_|_|_|_|_|_|_|_|k
 ·cases hx;cases hy;exact .same _
 ·cases hx;cases hy;exact .same _
 ·cases hx;cases hy;exact .same _
 ·cases hx;cases hy;exact .same _
 ·cases hx;cases hy;exact .same _
 ·cases hx;cases hy;exact .same _
 ·cases hx;cases hy;exact .same _
 ·cases hx;cases hy;exact .same _
 ·cases hx;cases hy;exact .same _
 ·cases hx;cases hy;exact hd
 ·cases hx;cases hy;exact he
 ·simp at hx
def Xo(p:Pat):∀out,(ju p out).length<=out.length+da p:=by
 induction p using fZ with|_ p ih=>?_
 intro out;rw[pR,cw];split
 ·unfold Df;split
  ·omega
  ·simp
 ·have:∀(ks:List Pat) (o:List B),(∀k∈ks,k∈p.kids)->(ks.foldl (λo k=>ju k o) o).length<=o.length+bi ks:=by
   intro ks
   induction ks with
   |nil=>intro o _;simp[bi]
   | cons k ks ihk=>
     intro o hk;rw[qAU,bi];have h1:=ihk (ju k o) λz hz=>hk z (by simp[hz])
     have:=ih k (hk k (by simp)) o;omega
  have:=this p.kids out λ_ h=>h
  omega
def Hb(ks:List Pat)(k:Nat)(lb:List B):((ks.take k).foldl (λo k=>ju k o) lb).length<=lb.length+bi (ks.take k):=by
 generalize ks.take k=l
 induction l generalizing lb with
 |nil=>simp[bi]
 | cons a l ih=>
   rw[qAU,bi];have h1:=ih (ju a lb);have h2:=Xo a lb;omega
def Zz(x:Cond×List B)(y:Cond):Prop:=y=xU x.2 x.1
abbrev FU(n:Nat):Spc:=aL (a2 Cond (List B)) (qhG n) (enc (X:=Cond)) Zz
theorem Q1(n:Nat)(h1:S rO=FU n):am Ad yU S (a2 Cond (List B)) (qhG (n+1)) (enc (X:=Cond)) Zz:=by
 rintro⟨c,lb⟩ ⟨_,hc⟩;simp only at hc;have hc:CS n c:=hc;simp[Ad,yU];intro b2 b4;refine⟨λho _=>?_,λho hl=>?_⟩
 ·refine ah (X:=Unit) [2,4,13] [2,4] lb.length (λk _=>∀z∈lb.take k,z≠c.lab) (λ_=>[]) (λ_=>[]) () (by simp) ?_ ?_
  ·rintro k -hk hz;obtain⟨x,hx⟩:=aQ hk;obtain⟨_,hgx⟩:=qzV.1 hx;simp[hk,hx,hgx];refine⟨λhxl=>gc c.kids (.same _) ?_,λhxl z hz'=>?_⟩
   ·show Cond.mk _ _ _ _ _ _ _=xU lb c;rw[GW,lH,if_pos ho,if_pos (hxl ▸aP hx)]
   ·rw[au hx]at hz';rcases qz5.1 hz' with h|h
    ·exact hz z h
    ·simp at h;subst h;exact hxl
  ·rintro -hz;rw[qAb]at hz;simp;refine gc [] (.nil _) ?_;show _=xU lb c;rw[lH,if_pos ho,if_neg (λh=>hz _ h rfl)];rfl
 ·refine ah (X:=Value×List Cond) [1,2,4,29] [2,4] c.kids.length (λk x=>x.2=(c.kids.take k).map (xU lb)) (λx=>[(7, .own 40 x.1)]) (λx=>[(40, .row x.1 eJ 7 (x.2.map enc))]) (.slice none 0 0, []) (by simp) ?_ ?_ (hh:=by simp[isNilRow])
  ·rintro k ⟨v,ks⟩ hk hkl;simp only at hkl;obtain⟨x,hx⟩:=aQ hk;obtain⟨_,hgx⟩:=qzV.1 hx;obtain⟨m,hm,hx1⟩:=qnl hc (aP hx);have hp:qhG n (x,lb):=⟨by omega,by rw[hm];exact hx1⟩
   simp[hk,hx,hgx,h1,hp];have:=qnk hc;have hkl2:ks.length=k:=by rw[hkl,qAs,qAq];omega
   refineλy hy=>⟨by omega,by omega,λv=> .inl ?_⟩
   obtain rfl:y=xU lb x:=hy;rw[hkl,List.map_map,List.map_take,qA6];simp[hx]
  ·rintro⟨v,ks⟩ hkl;simp only at hkl;simp;rw[qAb]at hkl;refine gc ks (fG eJ (by simp)) ?_;show _=xU lb c;rw[lH,if_neg ho,hkl]
abbrev Dk:Spc:=aL (a2 Cond (List B)) (λx=>∃n,CS n x.1) (enc (X:=Cond)) Zz
def Tp(x:Pat×List B)(y:Pat):Prop:=y=mT x.2 x.1
abbrev PE(n:Nat):Spc:=aL (a2 Pat (List B)) (ZF n) (enc (X:=Pat)) Tp
theorem qbA(n:Nat)(h1:S rO=Dk)(h2:S BZ=PE n):am IS HX S (a2 Pat (List B)) (ZF (n+1)) (enc (X:=Pat)) Tp:=by
 rintro⟨p,lb⟩ ⟨_,hp⟩;simp only at hp;have hp:PD n p:=hp;have hcd:=qi3 hp;have hpl:=qmf hp;simp[IS,HX,h1];intro b2 b4;refine⟨hcd,λc hc _=>?_⟩;refine ah (X:=Value×List Pat) [1,2,4,14] [2,4] p.kids.length (λk x=>x.2=(p.kids.take k).map (mT lb)) (λx=>[(5, .own 25 x.1)]) (λx=>[(25, .row x.1 aK 13 (x.2.map enc))]) (.slice none 0 0, []) (by simp) ?_ ?_ (hh:=by simp[isNilRow])
 ·rintro k ⟨v,ks⟩ hk hkl;simp only at hkl;obtain⟨x,hx⟩:=aQ hk;obtain⟨_,hgx⟩:=qzV.1 hx;obtain⟨m,hm,hx1⟩:=qmg hp (aP hx);have hq:ZF n (x,lb):=⟨by omega,by rw[hm];exact hx1⟩
  have hkl2:ks.length=k:=by rw[hkl,qAs,qAq];omega
  simp[hk,hx,hgx,h2,hq];refineλy hy=>⟨by omega,by omega,λv=> .inl ?_⟩
  obtain rfl:y=mT lb x:=hy;rw[hkl,List.map_map,List.map_take,qA6];simp[hx]
 ·rintro⟨v,ks⟩ hkl;simp only at hkl;rw[qAb]at hkl;simp;refine CJ c.kids ks (.same _) (fG aK (by simp)) ?_;show _=mT lb p;rw[rU,<-show c=xU lb p.cond from hc,hkl,GW]
abbrev L5:Spc:=aL (a2 Pat (List B)) (λx=>∃n,PD n x.1) (enc (X:=Pat)) Tp
abbrev Dl:Spc:=aL (aT (a2 Int (List B))) (λx=> -10<=x.2.1/\x.2.1<=100/\x.2.2.length<=1000) (enc (X:=Pat)) N0
def qhF(x:Pat)(l r:List B):Prop:=r=ju x l
abbrev We(n:Nat):Spc:=qhX (X:=Pat) (Y:=B) (λx l=>db x<=n/\qlh x l) qhF av 1
abbrev i_BoundA2:Spc:=qhX (X:=Pat) (Y:=B) qlh qhF av 1
theorem T0(n:Nat)(h1:S qD=We n):NX (X:=Pat) (Y:=B) vy ux S (λx l=>db x<=n+1/\qlh x l) qhF av 1:=by
 rintro v lb p ⟨hd,hl⟩;have hk:∀k∈p.kids,db k<=n:=λk h=>by have:=kQ h;have:db p<=n+1:=hd;omega
 have hl:lb.length+da p<=1000000:=hl;have hpn:=cw p;simp[vy,ux];refine bj (X:=Unit) [1,2] [1] (λ_=>p.op=1->p.lab=E0) (λ_=>[]) (λ_=>[]) ?_ ?_
 ·simp;refine⟨λho=>⟨λhn _=>?_,λh _=>h⟩,λho h=>absurd h ho⟩;refine ah (X:=Unit) [1,2,17] [1] lb.length (λk _=>∀z∈lb.take k,z≠p.lab) (λ_=>[]) (λ_=>[]) () (by simp) ?_ ?_
  ·rintro k -hkk hz;obtain⟨x,hx⟩:=aQ hkk;obtain⟨_,hgx⟩:=qzV.1 hx;simp[hkk,hx,hgx];refine⟨λhxl=>dF lb (by simp) ?_,λhxl z hz'=>?_⟩
   ·show lb=ju p lb;rw[pR,if_pos ⟨ho,hn⟩,Df,if_pos (hxl ▸aP hx)]
   ·rw[au hx]at hz';rcases qz5.1 hz' with h|h
    ·exact hz z h
    ·simp at h;subst h;exact hxl
  ·rintro -hz;rw[qAb]at hz;simp;refine⟨by omega,by omega,λv=>dF (lb++ [p.lab]) (by simp) ?_⟩;show _=ju p lb;rw[pR,if_pos ⟨ho,hn⟩,Df,if_neg λh=>hz _ h rfl]
 ·rintro -hno;simp;intro hkl;refine ah (X:=Value×List B) [35] [] p.kids.length (λk x=>x.2=(p.kids.take k).foldl (λo k=>ju k o) lb) (λx=>[(1, .own 1 x.1)]) (λx=>[(1, .row x.1 av 1 (x.2.map enc))]) (v,lb) (by simp) ?_ ?_
  ·rintro k ⟨v,ls⟩ hkk hls;simp only at hls;obtain⟨x,hx⟩:=aQ hkk;obtain⟨_,hgx⟩:=qzV.1 hx;have hq:qlh x ls:=by
    have h2:=Hb p.kids k lb;have h3:=Hb (p.kids.drop k) 1 ls;rw[<-hls]at h2;have h4:bi (p.kids.take k) +bi (p.kids.drop k)=bi p.kids:=by rw[<-CD,qAz]
    rw[bB hx,bi]at h4;show ls.length+da x<=_;omega
   have hq2:=hk x (aP hx);simp[hkk,hx,hgx,h1,hq,hq2];intro v' l' hy;obtain rfl:l'=ju x ls:=hy;refine .inl ?_;rw[au hx,qBU,<-hls];rfl
  ·rintro⟨v,ls⟩ hls;simp only at hls;rw[qAb]at hls;simp;refine dF ls (by simp) ?_;show ls=ju p lb;rw[pR,if_neg λh=>h.2 (hno h.1),hls]
abbrev qgq:Spc:=qop (Y:=B) (aE Pat (aD a0)) (λx=>x.2.1= .v (.slice none 0 0)/\qlh x.1 []) (λx r=>qhF x.1 [] r) av 1
theorem Ua(h1:S qD=i_BoundA2):Xw (Y:=B) vy ux S (aE Pat (aD a0)) (λx=>x.2.1= .v (.slice none 0 0)/\qlh x.1 []) (λx r=>qhF x.1 [] r) av 1:=by
 rintro⟨p,d,⟨⟩⟩ ⟨hd,hl⟩;have hd:d= .v (.slice none 0 0):=hd;subst hd;have hl:0+da p<=1000000:=hl;have hpn:=cw p;simp[vy,ux];refine bj (X:=Unit) [1,2] [] (λ_=>p.op=1->p.lab=E0) (λ_=>[]) (λ_=>[]) ?_ ?_
 ·simp;refine⟨λho=>⟨λhn=>?_,λh _=>h⟩,λho h=>absurd h ho⟩;refine ah (X:=Unit) [1,2] [] 0 (λ_ _=>True) (λ_=>[]) (λ_=>[]) () trivial ?_ ?_
  ·rintro k -hkk -;exact absurd hkk (Nat.not_lt_zero _)
  ·rintro - -;simp;refineλv=>dF [p.lab] (by simp) ?_
   show _=ju p [];rw[pR,if_pos ⟨ho,hn⟩,Df,if_neg (by simp)];rfl
 ·rintro -hno;simp;intro hkl;refine ah (X:=Value×List B) [35] [] p.kids.length (λk x=>x.2=(p.kids.take k).foldl (λo k=>ju k o) []) (λx=>[(1, .own 1 x.1)]) (λx=>[(1, .row x.1 av 1 (x.2.map enc))]) (.slice none 0 0, []) (by simp) ?_ ?_ (hh:=by simp[isNilRow])
  ·rintro k ⟨v,ls⟩ hkk hls;simp only at hls;obtain⟨x,hx⟩:=aQ hkk;obtain⟨_,hgx⟩:=qzV.1 hx;have hq:qlh x ls:=by
    have h2:=Hb p.kids k [];have h3:=Hb (p.kids.drop k) 1 ls;rw[<-hls,qBP]at h2;have h4:bi (p.kids.take k) +bi (p.kids.drop k)=bi p.kids:=by rw[<-CD,qAz]
    rw[bB hx,bi]at h4;show ls.length+da x<=_;omega
   simp[hkk,hx,hgx,h1,hq];intro v' l' hy;obtain rfl:l'=ju x ls:=hy;refine .inl ?_;rw[au hx,qBU,<-hls];rfl
  ·rintro⟨v,ls⟩ hls;simp only at hls;rw[qAb]at hls;simp;refine dF ls (by simp) ?_;show ls=ju p [];rw[pR,if_neg λh=>h.2 (hno h.1),hls]
abbrev s_Bound2:Spc:=qmi qgq i_BoundA2
def ZB(x:List Int×Int×List B)(y:Glob):Prop:=GG x.2.2 x.2.1.toNat y
def qzO(l:List B)(g:Glob):Prop:=g=GlobE\/GG l 2 g
def qxw{i:Nat}{a:B}(h:[(⟨#[97]⟩:B),⟨#[98,124,99]⟩,⟨#[46]⟩][i]? =some a):a∈qbs:=aP h
def qxv{i:Nat}{a:B}(h:[(⟨#[83]⟩:B),⟨#[78,80]⟩,⟨#[86,80]⟩][i]? =some a):a∈qbp:=aP h
def qxu{i:Nat}{a:B}(h:[(⟨#[111,98,106]⟩:B),⟨#[100,101,116]⟩,⟨#[]⟩][i]? =some a):a∈Xz:=aP h
abbrev An(n:Nat):Spc:=aL (aT (a2 Int (List B))) (N3 n) (enc (X:=Glob)) ZB
theorem JZ(n:Nat)(h1:S bP=s_m_Next)(h2:S rP=xP)(h3:S eZ=An n):am lu kK S (aT (a2 Int (List B))) (N3 (n+1)) (enc (X:=Glob)) ZB:=by
 rintro⟨L,deep,lb⟩ ⟨hn,hd0,hd1,hlb0,hlb⟩;simp only at hn hd0 hd1 hlb0 hlb;simp[lu,kK,h1];intro b6 k0 hk0 hk1;refine bj (X:=Int) [0,1,2,6] [6] (λk=>0<=k/\k< 13/\(deep< 1->k< 10)) (λk=>[(7,enc k)]) (λ_=>[]) ?_ ?_
 ·simp;have:k0.tmod 10=k0 % 10:=Int.tmod_eq_emod_of_nonneg hk0;rw[this];omega
 rintro k ⟨q0,q1,q2⟩;simp[h1];refineλ_=>⟨by omega,λi hi=>⟨by omega,by omega,λa ha _=>⟨by omega,λj hj=>⟨by omega,by omega,λc hc=>?_⟩⟩⟩⟩
 refine bj (X:=Unit) [0,1,2,6,7] [6] (λ_=>11<=k) (λ_=>[]) (λ_=>[]) ?_ ?_
 ·have hrec:1<=deep->N3 n (L,deep -1,lb):=λh=>⟨by show(deep -1).toNat<n;omega,by show -10<=deep -1;omega,by show deep -1<=100;omega,hlb0,hlb⟩
  have ma:a∈lb:=aP ha;have mc:c∈lb:=aP hc;have hdn:1<=deep->deep.toNat=(deep -1).toNat+1:=λh=>by omega
  simp[h1,h2,h3,Pt,UG,mF,rc,-fB'];refine⟨λ_=>jn [] [] (.nil _) (.nil _) (.bound _ a ma),λ_=>⟨λ_ y y0 y1=>⟨y0,y1,λv hv z _ _=>jn [] [] (.nil _) (.nil _) (.val _ a v _ ma (qxw hv))⟩,λ_=>⟨λ_ y y0 y1=>⟨y0,y1,λg hg=>jn [] [] (.nil _) (.nil _) (.same _ a c g ma mc (qxz hg))⟩,λ_=>⟨λ_ y y0 y1=>⟨by simp only[InR];omega,λz z0 z1=>⟨by simp only[InR];omega,jn [] [] (.nil _) (.nil _) (.dist _ a c _ _ ma mc (by omega) (by omega) (by omega) (by omega))⟩⟩,λ_=>⟨λ_ y y0 y1=>⟨trivial,λt ht=>jn [] [] (.nil _) (.nil _) (.reg _ a c t ma mc ht)⟩,λ_=>⟨λ_=>jn [] [] (.nil _) (.nil _) (.head _ 6 a c (.inl rfl) ma mc),λ_=>⟨λ_=>jn [] [] (.nil _) (.nil _) (.head _ 7 a c (.inr rfl) ma mc),λ_=>⟨λ_ b11 y y0 y1=>?_,λ_=>⟨λ_ y y0 y1=>⟨y0,y1,λt ht=>jn [] [] (.nil _) (.nil _) (.node _ a c t ma mc (qxv ht))⟩,λ_=>⟨λ_ y y0 y1 z z0 z1=>⟨by simp only[InR];omega,jn [] [] (.nil _) (.nil _) (.depth _ a _ _ ma (by omega) (by omega) (by omega) (by omega))⟩,λ_=>⟨λhk10=>⟨by simp only[InR];omega,hrec (by omega),λg=>?_⟩,λ_=>by omega⟩⟩⟩⟩⟩⟩⟩⟩⟩⟩⟩
  ·refine tN (X:=Int×Value×List B) [0,6,11] [6] [] [] [] [] (λx=>(0<=x.1/\x.1+x.2.2.length<=2)/\∀z∈x.2.2,z∈Xz) (λx=>[(12,enc x.1)]) (λx=>[(11, .box b11 [.v (.int .i64 8), .v (.string a), .v (.string c), .v (.string ⟨#[]⟩), .v (.string ⟨#[]⟩), .v (.string ⟨#[]⟩), .v (.bool false), .v (.int .i64 0), .v (.int .i64 0), .own 111 x.2.1, .v (.slice none 0 0)]),(111, .row x.2.1 av 1 (x.2.2.map enc))]) (λx=>x.1.toNat) (y, .slice none 0 0, []) [11,111] (λ_=>rfl) (by decide) (by decide) ?_ ?_ ?_ ?_
   ·exact⟨⟨y0,by simp;omega⟩,by simp⟩
   ·simp
   ·simp[isNilRow];exact .nilown 111
   ·rintro⟨i,v,l⟩ ⟨⟨e1,e2⟩,e3⟩;simp only at e1 e2 e3;simp[h1,UG,mF,rc];exact⟨λhi z z0 z1=>⟨z0,z1,λw hw=>⟨by omega,by omega,λv=>⟨by simp only[InR];omega,i -1,v,l++ [w],⟨⟨by omega,by simp;omega⟩,λz hz=>(qz5.1 hz).elim (e3 z) λh=>by simp at h;subst h;exact qxu hw⟩,⟨rfl, .inl (.inl rfl), .inl (.inl (by simp))⟩,by omega⟩⟩⟩,λhi=>jn l [] (fG av (by simp)) (.nil _) (.path _ a c l ma mc (by omega) e3)⟩
  ·exactλhg=>jn [] [g] (.nil _) (by simp) (by show GG lb deep.toNat _;rw[hdn (by omega)];exact .not _ _ hg)
 ·rintro -hk;have hrec:N3 n (L,deep -1,lb):=⟨by show(deep -1).toNat<n;omega,by show -10<=deep -1;omega,by show deep -1<=100;omega,hlb0,hlb⟩
  have hdn:deep.toNat=(deep -1).toNat+1:=by omega
  simp[h3,hrec];exact⟨by simp only[InR];omega,by simp only[InR];omega,by simp only[InR];omega,λy hy=>⟨by simp only[InR];omega,λz hz=>jn [] [y,z] (.nil _) (by simp) (by show GG lb deep.toNat _;rw[hdn];exact .two _ _ _ _ (by omega) hy hz)⟩⟩
abbrev xQ:Spc:=aL (aT (a2 Int (List B))) (λx=>∃n,N3 n x) (enc (X:=Glob)) ZB
abbrev Jo:Spc:=aL (aT a0) bW (enc (X:=tM)) (λ_ y=>GF y)
def TZ(h1:S bP=s_m_Next)(h2:S rP=xP):am qS qo S (aT a0) bW (enc (X:=tM)) (λ_ y=>GF y):=by
 rintro⟨L,⟨⟩⟩ -;simp[qS,qo,h1,h2];refineλb y y0 y1=>⟨by simp only[InR];omega,λz z0 z1 u u0 u1=>⟨trivial,λt ht=>?_⟩⟩
 exact ba (⟨1+y,decide (z=2),t⟩:tM) (by simp) ⟨by show 1+y=1\/1+y=2\/1+y=3;omega,ht⟩
def NZ(x:List Int×Int)(q:Qry):Prop:=GQ x.2.toNat q
abbrev L6:Spc:=aL (aT (a1 Int)) (λx=>0<=x.2/\x.2<=5) (enc (X:=Qry)) NZ
theorem X1(h1:S bP=s_m_Next)(h2:S ia=Dl)(h3:S qD=s_Bound2)(h4:S BZ=L5)(h5:S eZ=xQ)(h6:S sF=Jo):
 am sW sw S (aT (a1 Int)) (λx=>0<=x.2/\x.2<=5) (enc (X:=Qry)) NZ:=by
 rintro⟨L,deep⟩ ⟨hd0,hd1⟩;simp only at hd0 hd1;simp[sW,sw,h1];intro b4;refine bj (X:=List B) [0,1,4] [4] (λl=>qhN l/\l.length<=2) (λl=>[(5,enc l)]) (λ_=>[]) ?_ ?_
 ·simp[h1];exactλ_ _ _=>⟨λ_=>⟨[qnw,qoz],⟨λl hl=>by simpa using hl,by simp⟩,by simp[qnw,qoz]⟩,λ_ l hl=>by simp at hl⟩
 rintro lb ⟨hlb,hll⟩;simp[h1,h2];refine⟨⟨by omega,by omega,by omega⟩,λy hy b=>?_⟩;have hw:WP lb deep.toNat y:=hy.1.1;have hpd:PD deep.toNat y:=hy.1.2;have hnum:da y<=1000000:=by
  have:=(ZL _ y hw (by omega)).2.2;have h2:2^ (deep.toNat+1)<=64:=Nat.pow_le_pow_right (n:=2) (by omega) (show deep.toNat+1<=6 by omega);omega
 have hB:qlh y []:=by show 0+da y<=_;omega
 have hbd:∃n,PD n y:=⟨_,hpd⟩
 simp[h3,hB];refine .inl λl hl=>?_
 have hlq:l=ju y []:=hl;have hlm:l.length<=0+da y:=by rw[hlq];exact Xo y []
 simp[h4,hbd];intro p hp z z0 z1 b7;have hp:p=mT l y:=hp;have hq:∀g fs s,(g=GlobE\/GG l 2 g)->(fs.length<=1/\∀f∈fs,GF f)->(0<=s/\s< 4)->NZ (L,deep) ⟨p,g,fs,s⟩:=by
  intro g fs s hg hfs hs;have hbl:ju p []=l:=by rw[hp,qhb,<-hlq]
  refine⟨⟨lb,hlb,by show WP lb deep.toNat p;rw[hp];exact qh3 _ _ hw⟩,?_,by show g=GlobE\/GG (ju p []) 2 g;rw[hbl];exact hg,hfs,hs⟩;show ∀y∈aq p,GC (ju p []) 1 y.cond;rw[hbl,hp,VX];intro x hx;obtain⟨u,hu,rfl⟩:=qz1.1 hx;rw[rU];exact qmN (hy.2 u hu)
 refine iB (X:=Glob) [0,4] [4] [] [] (qzO l) (λ_=>[(7, .bptr 7 b7 0)]) (λg=>[(7, .box b7 [.v (.int .i64 p.op), .v (.int .i64 p.cond.op), .v (.string p.cond.name), .v (.string p.cond.arg), .v (.string p.cond.val), .v (.string p.cond.lab), .v (.bool p.cond.fold),enc p.cond.kids, .v (.string p.lab), .v (.string p.reg), .v (.int .i64 p.mn), .v (.int .i64 p.mx),enc p.kids, .v (.int .i64 g.op), .v (.string g.a), .v (.string g.b), .v (.string g.name), .v (.string g.arg), .v (.string g.val), .v (.bool g.fold), .v (.int .i64 g.mn), .v (.int .i64 g.mx),enc g.args,enc g.kids, .v (.slice none 0 0), .v (.int .i64 z)])]) [7] (λ_=>rfl) (by decide) ?_ ?_
 ·simp[h1,h5,-fB'];refineλ_=>⟨λhl0 u u0 u1=>⟨λ_=>⟨⟨3,by show(2:Int).toNat< 3;decide,by show -10<=(2:Int);decide,by show(2:Int)<=100;decide,hl0,by show l.length<=1000000;omega⟩,λg hg=>⟨g, .inr hg, .inl (.inl ⟨rfl,rfl,rfl,rfl,rfl,rfl,rfl,rfl,rfl,rfl,rfl⟩)⟩⟩,λ_=>⟨⟨0,⟨#[]⟩,⟨#[]⟩,⟨#[]⟩,⟨#[]⟩,⟨#[]⟩,false,0,0, [], []⟩, .inl rfl, .inl ⟨rfl,rfl,rfl,rfl,rfl,rfl,rfl,rfl,rfl,rfl,rfl⟩⟩⟩,λ_=>⟨⟨0,⟨#[]⟩,⟨#[]⟩,⟨#[]⟩,⟨#[]⟩,⟨#[]⟩,false,0,0, [], []⟩, .inl rfl, .inl ⟨rfl,rfl,rfl,rfl,rfl,rfl,rfl,rfl,rfl,rfl,rfl⟩⟩⟩
 rintro g hg;refine iB (X:=List tM) [4] [4] [49] [] (λfs=>fs.length<=1/\∀f∈fs,GF f) (λ_=>[(7, .bptr 7 b7 0)]) (λfs=>[(7, .box b7 [.v (.int .i64 p.op), .v (.int .i64 p.cond.op), .v (.string p.cond.name), .v (.string p.cond.arg), .v (.string p.cond.val), .v (.string p.cond.lab), .v (.bool p.cond.fold),enc p.cond.kids, .v (.string p.lab), .v (.string p.reg), .v (.int .i64 p.mn), .v (.int .i64 p.mx),enc p.kids, .v (.int .i64 g.op), .v (.string g.a), .v (.string g.b), .v (.string g.name), .v (.string g.arg), .v (.string g.val), .v (.bool g.fold), .v (.int .i64 g.mn), .v (.int .i64 g.mx),enc g.args,enc g.kids,enc fs, .v (.int .i64 z)])]) [7] (λ_=>rfl) (by decide) ?_ ?_
 ·simp[h1];intro u u0 u1;have ut:u.tdiv 2=u/2:=Int.tdiv_eq_ediv_of_nonneg u0;rw[ut];refine⟨by simp only[InR];omega,?_⟩;refine tN (X:=Int×Value×List tM) [0,4,7] [4] [] [] [] [] (λx=>(0<=x.1/\x.1+x.2.2.length<=1)/\∀f∈x.2.2,GF f) (λx=>[(8,enc x.1)]) (λx=>[(7, .box b7 [.v (.int .i64 p.op), .v (.int .i64 p.cond.op), .v (.string p.cond.name), .v (.string p.cond.arg), .v (.string p.cond.val), .v (.string p.cond.lab), .v (.bool p.cond.fold),enc p.cond.kids, .v (.string p.lab), .v (.string p.reg), .v (.int .i64 p.mn), .v (.int .i64 p.mx),enc p.kids, .v (.int .i64 g.op), .v (.string g.a), .v (.string g.b), .v (.string g.name), .v (.string g.arg), .v (.string g.val), .v (.bool g.fold), .v (.int .i64 g.mn), .v (.int .i64 g.mx),enc g.args,enc g.kids, .own 49 x.2.1, .v (.int .i64 z)]),(49, .row x.2.1 Pr 3 (x.2.2.map enc))]) (λx=>x.1.toNat) (u/2, .slice none 0 0, []) [7,49] (λ_=>rfl) (by decide) (by decide) ?_ ?_ ?_ ?_
  ·exact⟨⟨by show 0<=u/2;omega,by simp;omega⟩,by simp⟩
  ·simp
  ·simp[isNilRow];exact .nilown 49
  ·rintro⟨i,v,fs⟩ ⟨⟨e1,e2⟩,e3⟩;simp only at e1 e2 e3;simp[h6];refine⟨λhi=>⟨trivial,λy hy=>⟨by omega,by omega,λv=>⟨by simp only[InR];omega,i -1,v,fs++ [y],⟨⟨by omega,by simp;omega⟩,λz hz=>(qz5.1 hz).elim (e3 z) λh=>by simp at h;subst h;exact hy⟩,⟨rfl, .inl (.inl rfl), .inl (.inl (by simp))⟩,by omega⟩⟩⟩,λhi=>⟨fs,⟨by omega,e3⟩, .inl (fG Pr (by simp[Qg]))⟩⟩
 ·rintro fs hfs;simp;exact ba (⟨p,g,fs,z⟩:Qry) (by simp) (hq _ _ _ hg hfs ⟨z0,z1⟩)
end Go.Gv
namespace Go.Gv
open Go.Proofs
theorem qjn{lb:List B} :∀n p,WP lb n p->∀out:List B,bM p out=ju p out:=by
 refine Ho λn p hp ih out=>?_
 have hk:∀ks:List Pat,(∀k∈ks,k∈p.kids)->∀o:List B,ks.foldl (λo k=>bM k o) o=ks.foldl (λo k=>ju k o) o:=by
  intro ks
  induction ks with
  |nil=>intro _ o;rfl
  | cons k ks ihk=>
    intro h o;obtain⟨m,_,_,hi⟩:=ih k (h k (by simp));rw[qAU,qAU,hi,ihk λz hz=>h z (by simp[hz])]
 have hno:p.op≠1->p.lab=E0->bM p out=ju p out:=λh1 h2=>by
  rw[rI,pR,qW,if_pos h2,if_neg (λh=>h1 h.1)];exact hk _ (λ_ h=>h) _
 rcases xw hp with(⟨h1,h2,h3,h4,h5,h6⟩|⟨h1,h2,h3,h4,h5,h6,h7⟩)|⟨m,rfl,(⟨h1,h2,h3,h4,h5,h6,a,b,h7,_⟩|⟨h1,h2,h3,h4,h5,a,h7,_⟩)⟩
 ·rw[rI,pR,h6,qW];by_cases h:p.lab=E0
  ·rw[if_pos h,if_neg (λx=>x.2 h)];rfl
  ·rw[if_neg h,if_pos ⟨h1,h⟩];rfl
 ·exact hno (by omega) h3
 ·exact hno (by omega) h3
 ·exact hno (by omega) h3
def qde{out:List B}{x y:B}(h:y∈out):y∈qW out x:=by
 unfold qW Df;split
 ·exact h
 ·split
  ·exact h
  ·simp[h]
def qdd{out:List B}{x:B}(h:x≠E0):x∈qW out x:=by
 unfold qW Df;rw[if_neg h];split
 ·assumption
 ·simp
def qkp{out:List B}{x:B}(h:out.Nodup):(qW out x).Nodup:=by
 unfold qW Df;split
 ·exact h
 ·split
  ·exact h
  ·rename_i hx;rw[qBT];exact⟨h,by simp,λa ha b hb=>by simp at hb;subst hb;exactλe=>hx (e ▸ha)⟩
def qcA(p:Pat):∀(out:List B) (y:B),y∈out->y∈bM p out:=by
 induction p using fZ with|_ p ih=>?_
 intro out y h;rw[rI];have:∀ks:List Pat,(∀k∈ks,k∈p.kids)->∀o:List B,y∈o->y∈ks.foldl (λo k=>bM k o) o:=by
  intro ks
  induction ks with
  |nil=>intro _ o h;exact h
  |cons k ks ihk=>intro hk o h;exact ihk (λz hz=>hk z (by simp[hz])) _ (ih k (hk k (by simp)) o y h)
 exact this _ (λ_ h=>h) _ (qde h)
def qjm(p:Pat):∀(out:List B),out.Nodup->(bM p out).Nodup:=by
 induction p using fZ with|_ p ih=>?_
 intro out h;rw[rI];have:∀ks:List Pat,(∀k∈ks,k∈p.kids)->∀o:List B,o.Nodup->(ks.foldl (λo k=>bM k o) o).Nodup:=by
  intro ks
  induction ks with
  |nil=>intro _ o h;exact h
  |cons k ks ihk=>intro hk o h;exact ihk (λz hz=>hk z (by simp[hz])) _ (ih k (hk k (by simp)) o h)
 exact this _ (λ_ h=>h) _ (qkp h)
theorem qcz(p:Pat):∀q∈sA p,q.lab≠E0->∀out:List B,q.lab∈bM p out:=by
 induction p using fZ with|_ p ih=>?_
 intro q hq hl out;rw[rI];have hm:∀ks:List Pat,∀o:List B,q.lab∈o->q.lab∈ks.foldl (λo k=>bM k o) o:=by
  intro ks
  induction ks with
  |nil=>intro o h;exact h
  |cons k ks ihk=>intro o h;exact ihk _ (qcA k o _ h)
 cases p with
 | mk op cond lab reg mn mx ks=>
   rw[sA]at hq;rcases qAc.1 hq with rfl|hq
   ·exact hm _ _ (qdd hl)
   ·obtain⟨k,hk,hq⟩:=wb hq;have:∀l:List Pat,k∈l->∀o:List B,q.lab∈l.foldl (λo k=>bM k o) o:=by
     intro l
     induction l with
     |nil=>intro h;cases h
     | cons z l ihl=>
       intro h o;rw[qAU];rcases qAc.1 h with rfl|h
       ·exact hm _ _ (ih k hk q hq hl _)
       ·exact ihl h _
    exact this _ hk _
def qjB{n:Nat}{q:Qry}(h:GQ n q):bM q.pat []=ju q.pat []/\(bM q.pat []).length<=2:=by
 obtain⟨lb,hl,hw⟩:=h.lab;have e:=qjn n q.pat hw [];refine⟨e,?_⟩;have hm:∀y∈bM q.pat [],y=qnw\/y=qoz:=λy hy=>by
  rw[e]at hy;rcases qkh n q.pat hw [] y hy with h|h
  ·cases h
  ·exact hl y h
 refine qcj (f:=λy=>if y=qnw then 0 else 1) (qjm q.pat [] qB7) (λy _=>by split<;>omega) λx hx y hy=>?_
 rcases hm x hx with rfl|rfl<;>rcases hm y hy with rfl|rfl
 ·exactλ_=>rfl
 ·rw[if_pos rfl,if_neg (by decide)];exactλh=>by cases h
 ·rw[if_neg (by decide),if_pos rfl];exactλh=>by cases h
 ·exactλ_=>rfl
theorem qfA{n:Nat}{c:Corpus}{q:Qry}(hc:qbr c)(hq:GQ n q)(hn:n<=5):qrk qdf c q:=by
 obtain⟨lb,hl,hw⟩:=hq.lab;have hpat:fJ aJ q.pat=true:=qh2 hl qlz n q.pat hw (by omega);obtain⟨hlab,hl2⟩:=qjB hq;obtain⟨_,hs1,hs2⟩:=ZL n q.pat hw hn;have h3:(3:Int) ^n<=243:=by
  rcases n with _|_|_|_|_|_|n
  all_goals first|decide|omega
 have h2:2^ (n+1)<=64:=by
  rcases n with _|_|_|_|_|_|n
  all_goals first|decide|omega
 have hpn:da q.pat<=1000000:=by omega
 have hl3:(bM q.pat []).length<=3:=by omega
 have he:ck oO q.pat=true/\ck lJ q.pat=true:=by
  unfold fJ at hpat;simp only[qzZ]at hpat;exact⟨hpat.1.1.2,hpat.2⟩
 have hN:Jd vG q.pat:=CB (Ng q.pat he.1) λq h=>(tR q).1 h
 refine⟨⟨by rw[hlab];exact hq.glob,hq.filts.2,hq.strat,hpat,by omega,hl3,hpn,hc.ok.1,λx hx=>?_⟩,⟨hc.ok.sz,by have:=hc.few;omega,hpat,hl3,hpn,λt ht=>?_⟩⟩
 ·have hg:=hq.cond x hx;rw[hlab,hc.ok.1];exact⟨qmn hg (by omega),qmt hg⟩
 ·intro z hz;refine⟨hN z hz,Ng q.pat he.2 z hz,λh=>gN (qcz q.pat z hz h []),λh1 s hs hlt=>?_⟩;have hg:=hq.cond z (qcl q.pat hN z hz h1);rw[<-hlab]at hg;have hen:(qeR c (bM q.pat []) t).en<=c.toks.length:=by show min t.e (c.toks.length:Int)<=_;omega
  exact qfT (E:=⟨(qeR c (bM q.pat []) t).c,s.p,(qeR c (bM q.pat []) t).lb,quj (qeR c (bM q.pat []) t) s⟩) ⟨hc.ok,hs.1,by show s.p<(c.toks.length:Int);omega,qkl _ s⟩ hg (by decide)
open Cod (enc dec)
variable {S S0:Nat->Spc}
end Go.Gv
namespace Go.Gv
open Go.Proofs
open Cod (enc dec)
variable {S S0:Nat->Spc}
end Go.Gv
namespace Go.Gv
open Go.Proofs Cod
variable {dq:Prop}
def ql8:TQ dq ph RB:=
 ac (ag ae) OX (qia)
def qiV:TQ dq dz RE:=
 ac (ag (aa iC ae)) ya (qid rfl)
def qrj:Nat->Spc:=Jh [(ph,RB),(dz,RE)]
def qi0:TQ dq cD (qaj qrj):=
 ac (S:=qrj) (ag (aa ql8 (aa qiV ae))) kR qii
def qaq:TQ dq aS (RJ qrj):=
 ac (ag (aa qi0 ae)) iw (qij rfl)
def ql9:TQ dq eY YB:=
 ac (ag (aa iC ae)) Bv (qlv rfl)
def quC:Nat->Spc:=Jh [(eY,YB)]
def qmb:TQ dq fK (qeG quC):=
 ac (S:=quC) (ag (aa ql9 ae)) uD qlw
def qmc:TQ dq eT (qeJ quC):=
 ac (ag (aa qmb ae)) rF (qlx rfl)
def qeY:TQ dq gi Vc:=
 ac (ag (aa mR (aa dM (aa iC (aa qmc (aa Dy ae)))))) uG (qdA (S0:=quC) rfl rfl rfl rfl rfl rfl)
def Vo:∀n,TQ dq dT (qad n)
 | 0=>bC λx h=>by have:=h.1;have:=La x.1;omega
 |n+1=>bY (ag (aa qeY (aa (Vo n) ae))) vZ (λ_=>qz0 rfl) (qif n rfl rfl)
def qiW:TQ dq dT Vd:=dw (λn=>Vo n) (fb (λx h=>⟨nk x.1,qz2 _,h⟩))
def ql6:TQ dq pg Z1:=
 ac (ag ae) Ds (On)
def qap:∀n,TQ dq jp (UZ n)
 | 0=>bC λx h=>by have:=h.1;have:=La x.1;omega
 |n+1=>bY (ag (aa (qap n) ae)) H8 (λ_=>qz0 rfl) (Hy n rfl)
def ql7:TQ dq jp U0:=dw (λn=>qap n) (fb (λx h=>h))
def qma:TQ dq ej qag:=
 ac (ag ae) OY (Ov)
def quB(n:Nat):Nat->Spc:=Jh [(fS,Mb n)]
def Vp:∀n,TQ dq mM (Vh n)
 | 0=>bC λx h=>by have:=h.1.1;have:=La x.1;omega
 | n+1=>
   have h1:TQ dq fS (Mb n):=ac (ag (aa (Vp n) ae)) Ia (JU n rfl);have h2:TQ dq eD (qeH (quB n)):=ac (S:=quB n) (ag (aa h1 ae)) qt rr;have h3:TQ dq dx (qeK (quB n)):=ac (ag (aa h2 ae)) nM (nO rfl)
   ac (ag (aa h3 (aa qma ae))) MC (Ou (S0:=quB n) n rfl rfl rfl)
def qiY:TQ dq mM Vi:=dw (λn=>Vp n) (fb (λx h=>by obtain⟨⟨n,h1⟩,h2⟩:=h;exact⟨n,h1,h2⟩))
def qiZ:TQ dq mN Vj:=
 ac (ag (aa ql6 (aa ql7 (aa qiY ae)))) Bw (Lq rfl rfl rfl)
def qiU:TQ dq eE qab:=
 ac (ag (aa wu (aa rb (aa yz (aa nP (aa qaq ae)))))) pX (qic (N:=qdg) (N2:=qrj) rfl rfl rfl rfl rfl rfl rfl rfl)
def YL:TQ dq fm (FT qdf):=
 ac (ag (aa qiU (aa nP (aa tY (aa lC (aa qaq (aa qiZ (aa qiW ae)))))))) wa (qh6 (N:=qrj) rfl rfl rfl rfl rfl rfl rfl rfl)
def FB:TQ dq ia Dl:=
 dw (λn=>yl n) (fb (λx h=>⟨x.2.1.toNat+1,Nat.lt_succ_self _,h⟩))
def Ju:∀n,TQ dq rO (FU n)
 | 0=>bC λx h=>absurd h.1 (Nat.not_lt_zero _)
 |n+1=>bY (ag (aa (Ju n) ae)) Si (λ_=>qz0 rfl) (Q1 n rfl)
def Uq:TQ dq rO Dk:=
 dw (λn=>Ju n) (fb (λx h=>by obtain⟨n,h⟩:=h;exact⟨n+1,Nat.succ_pos _,h⟩))
def Vn:∀n,TQ dq BZ (PE n)
 | 0=>bC λx h=>absurd h.1 (Nat.not_lt_zero _)
 |n+1=>bY (ag (aa Uq (aa (Vn n) ae))) qca (λ_=>qz0 rfl) (qbA n rfl rfl)
def qdJ:TQ dq BZ L5:=
 dw (λn=>Vn n) (fb (λx h=>by obtain⟨n,h⟩:=h;exact⟨n+1,Nat.succ_pos _,h⟩))
def PR:∀n,TQ dq qD (We n)
 | 0=>rA λd ds H K ⟨id,v,l,a,x,h1,h2,h3,h4,h5⟩=>YQ h4.1
 |n+1=>yB (ag (aa (PR n) ae)) MI (by decide) (T0 n rfl)
def Jf:Tri dq Tryz.prog qD i_BoundA2.pt:=dw (λn=>PR n) λd ds H K ⟨id,v,l,a,x,h1,h2,h3,h4,h5⟩=>⟨db x,id,v,l,a,x,h1,h2,h3,⟨qz2 _,h4⟩,h5⟩
def qbJ:Tri dq Tryz.prog qD s_Bound2.pt:=LD (Cv (ag (aa Jf ae)) MI (λ_=>qz0 rfl) (Ua rfl)) Jf
def tc:∀n,TQ dq eZ (An n)
 | 0=>bC λx h=>absurd h.1 (Nat.not_lt_zero _)
 |n+1=>bY (ag (aa cP (aa G2 (aa (tc n) ae)))) BA (λ_=>qz0 rfl) (JZ n rfl rfl rfl)
def CW:TQ dq eZ xQ:=
 dw (λn=>tc n) (fb (λx h=>h))
def Ka:TQ dq sF Jo:=
 ac (ag (aa cP (aa G2 ae))) If (TZ rfl rfl)
def LA:TQ dq uV L6:=
 ac (ag (aa cP (aa FB (aa qbJ (aa qdJ (aa CW (aa Ka ae))))))) Kr (X1 rfl rfl rfl rfl rfl rfl)
end Go.Gv
namespace Go.Gv
open Cod (enc dec)
variable {S S0:Nat->Spc}
def ZD(_:D×Unit)(l r:List Span):Prop:=r.length=l.length/\(∀x,x∈r↔x∈l)/\WS r
abbrev LZ:Spc:=aL (a2 (List Span) (List Span)) (λ_=>True) enc λx y=>y=decide (x.1=x.2)
def XO:am Ca Bd S (a2 (List Span) (List Span)) (λ_=>True) enc λx y=>y=decide (x.1=x.2):=by
 rintro⟨a,b⟩ -;simp[Ca,Bd];intro h1 h2;refine⟨λh3=>?_,λh3 _=>?_⟩
 ·intro e;subst e;omega
 ·have h3':a.length=b.length:=by omega
  refine ah (X:=Unit) [0,1] [] a.length (λk _=>a.take k=b.take k) (λ_=>[]) (λ_=>[]) () (by simp) ?_ ?_
  ·intro k _ hk hP;simp;refine⟨hk,λx hx=>⟨by omega,λy hy=>⟨λh=>?_,λh4 h5=>?_⟩⟩⟩
   ·intro e;subst e;rw[hx]at hy;cases hy;simp at h
   ·rw[au hx,au hy,hP,Span.ext' h4 h5]
  ·intro _ hP;simp;rw[qAT (by omega),qAT (by omega)]at hP;exact hP
abbrev L0:Spc:=aL (a2 Span Span) (λ_=>True) enc λx y=>y=decide (AP x.1 x.2)
def XP:am Cb Be S (a2 Span Span) (λ_=>True) enc λx y=>y=decide (AP x.1 x.2):=by
 rintro⟨a,b⟩ -;simp[Cb,Be];unfold AP;refine⟨λh=>⟨λe=>⟨λh1=>by omega,λh1=>by omega⟩,λe h1=>by omega⟩,λh=>by omega⟩
end Go.Gv
