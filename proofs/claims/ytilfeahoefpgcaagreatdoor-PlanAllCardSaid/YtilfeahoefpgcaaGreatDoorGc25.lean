/- W202 -/
import Derived.Test.YtilfeahoefpgcaaGreatDoorGc24
set_option linter.all false
set_option maxRecDepth 100000
set_option maxHeartbeats 0
open Bool renaming forall_bool → fB', exists_bool → eB'
namespace Go.Gv
open Go.Proofs
open Cod (enc dec)
variable {S S0:Nat->Spc}
abbrev ZJ(x:Glob):Prop:=∃lb m,GG lb m x
abbrev qad:Spc:=aL (a1 Glob) ZJ (enc (X:=Bool)) λx y=>y=true
set_option maxHeartbeats 1000000 in
theorem Ov:am bQ bO S (a1 Glob) ZJ (enc (X:=Bool)) λx y=>y=true:=by
 rintro x ⟨lb,m,h⟩;cases h with
 |bound n a h=>simp[bQ,bO,E0,-fB',-eB']
 |val n a v f h1 h2=>simp[bQ,bO,E0,-fB',-eB']
 |same n a b g h1 h2 h3=>simp[bQ,bO,E0,-fB',-eB']
 |dist n a b mn mx h1 h2 h3 h4 h5 h6=>simp[bQ,bO,E0,-fB',-eB']
 |reg n a b t h1 h2 h3=>simp[bQ,bO,E0,-fB',-eB']
 |path n a b l h1 h2 h3 h4=>simp[bQ,bO,E0,-fB',-eB']
 |node n a b t h1 h2 h3=>simp[bQ,bO,E0,-fB',-eB']
 |depth n a mn mx h1 h3 h4 h5 h6=>simp[bQ,bO,E0,-fB',-eB']
 |head n op a b ho h1 h2=>rcases ho with rfl|rfl<;>simp[bQ,bO,E0,-fB',-eB']
 |not n k h=>simp[bQ,bO,E0,-fB',-eB']
 |two n op a b ho h1 h2=>rcases ho with rfl|rfl<;>simp[bQ,bO,E0,-fB',-eB']
def qrh(n:Nat)(x:Glob×Int×Int):Prop:=ni x.1<=n/\0<=x.2.1/\x.2.1+Er x.1<=60/\0<=x.2.2/\x.2.2+ni x.1<=1000/\ni x.1<=60
abbrev UY(n:Nat):Spc:=aL (a3 Glob Int Int) (qrh n) (lL (Y:=Int) (Z:=Int)) λx y=>y=(x.2.1+Er x.1,x.2.2+ni x.1 -1)
abbrev UZ:Spc:=aL (a3 Glob Int Int) (λx=>∃n,qrh n x) (lL (Y:=Int) (Z:=Int)) λx y=>y=(x.2.1+Er x.1,x.2.2+ni x.1 -1)
theorem Hx(n:Nat)(h1:S jo=UY n):am qK qf S (a3 Glob Int Int) (qrh (n+1)) (lL (Y:=Int) (Z:=Int)) λx y=>y=(x.2.1+Er x.1,x.2.2+ni x.1 -1):=by
 rintro⟨x,nodes,deep⟩ ⟨hn,h0,h2,h3,h4,h5⟩;simp only at hn h0 h2 h3 h4 h5;have hd1:=Lb x;have hn1:=qav x;simp[qK,qf];refine⟨by simp only[InR];omega,λhkl=>?_⟩;refine ah (X:=Int×Int) [2,17] [] x.kids.length (λk z=>z.1=nodes+1+ (nG (x.kids.take k):Int)/\z.2=deep+ (nH (x.kids.take k):Int)) (λz=>[(1,enc z.1),(8,enc z.2)]) (λ_=>[]) (nodes+1,deep) (by simp[nG,nH]) ?_ ?_
 ·rintro k ⟨m,d⟩ hk ⟨e1,e2⟩;simp only at e1 e2;obtain⟨y,hy⟩:=aO hk;obtain⟨_,hgy⟩:=qzP.1 hy;have hm:=qcg hy;have hd:=Iu (aQ hy);have hp:qrh n (y,m,deep+1):=⟨by show ni y<=n;omega,by show 0<=m;omega,by show m+Er y<=60;omega,by show 0<=deep+1;omega,by show deep+1+ni y<=1000;omega,by show ni y<=60;omega⟩
  have hm60:¬60<m:=by have:=qav y;omega
  simp[h1,hk,hy,hgy,hp,hm60];exact⟨by simp only[InR];omega,by omega,by rw[hm.2.1,e2];omega⟩
 ·rintro⟨m,d⟩ ⟨e1,e2⟩;simp only at e1 e2;rw[qz8]at e1 e2;simp;exact⟨by omega,by omega⟩
def qf5(x:Glob):D.agg [D.v (Value.int IntKind.i64 x.op),D.v (Value.string x.a),D.v (Value.string x.b),D.v (Value.string x.name),D.v (Value.string x.arg),D.v (Value.string x.val),D.v (Value.bool x.fold),D.v (Value.int IntKind.i64 x.mn),D.v (Value.int IntKind.i64 x.mx),D.list 1 (List.map enc x.args),D.list 11 (List.map enc x.kids)]=enc x:=by simp
def N5(S0:Nat->Spc)(x:List Glob×D×Unit):Prop:=FunOnP S0 x.2.1 x.1 λ_=>false
abbrev qeI(S0:Nat->Spc):Spc:=aL (aE (List Glob) (aD a0)) (N5 S0) (enc (X:=Int)) λx y=>y= -1
def rr:am dW dP S (aE (List Glob) (aD a0)) (N5 S) (enc (X:=Int)) λx y=>y= -1:=by
 rintro⟨l,d,⟨⟩⟩ hp;replace hp:FunOnP S d l λ_=>false:=hp
 simp[dW,dP,-fB',-eB'];intro hkl;refine ah (X:=Unit) [0,1] [] l.length (λk _=>True) (λ_=>[]) (λ_=>[]) () (by simp) ?_ ?_
 ·rintro k -hk -;obtain⟨y,hy⟩:=aO hk;obtain⟨_,hgy⟩:=qzP.1 hy;simp[hk,hy,hgy,-fB',-eB'];rw[qf5 y];refine hp.useB y (aQ hy) λb hb=>?_
  obtain rfl:b=false:=hb _ hp;simp
 ·rintro - -;simp
abbrev qeL(S0:Nat->Spc):Spc:=aL (aE (List Glob) (aD a0)) (N5 S0) (enc (X:=Bool)) λx y=>y=false
def nM(h1:S eC=qeI S0):am dv dt S (aE (List Glob) (aD a0)) (N5 S0) (enc (X:=Bool)) λx y=>y=false:=by
 rintro⟨l,d,⟨⟩⟩ hp;simp[dv,dt,h1,hp,-fB']
def qnL(n:Nat)(x:Glob):Prop:=ni x<=n/\ZJ x
abbrev Vh(n:Nat):Spc:=aL (aE Glob (aD a0)) (λx=>qnL n x.1/\x.2.1= .clo ej []) (enc (X:=Bool)) λx y=>y=true
abbrev Vi:Spc:=aL (aE Glob (aD a0)) (λx=>(∃n,qnL n x.1)/\x.2.1= .clo ej []) (enc (X:=Bool)) λx y=>y=true
abbrev Mb(n:Nat):Spc:=aL (aE Glob (aD a0)) (λx=>qnL n x.1/\x.2.1= .cptr [.clo ej []] 0) (enc (X:=Bool)) λx y=>y=false
def JU(n:Nat)(h1:S mJ=Vh n):am qM qh S (aE Glob (aD a0)) (λx=>qnL n x.1/\x.2.1= .cptr [.clo ej []] 0) (enc (X:=Bool)) λx y=>y=false:=by
 rintro⟨x,d,⟨⟩⟩ ⟨hx,hd⟩;simp only at hx hd;subst hd;simp[qM,qh,h1,hx,-fB',-eB']
def Ou(n:Nat)(h0:S0 fR=Mb n)(h1:S dx=qeL S0)(h2:S ej=qad):am vu ur S (aE Glob (aD a0)) (λx=>qnL (n+1) x.1/\x.2.1= .clo ej []) (enc (X:=Bool)) λx y=>y=true:=by
 rintro⟨x,d,⟨⟩⟩ ⟨⟨hn,hx⟩,hd⟩;simp only at hn hx hd;subst hd;have hk:∀k∈x.kids,qnL n k:=λk hk=>by
  have:=Wn hk;obtain⟨lb,m,h⟩:=hx;obtain⟨m',_,h2⟩:=qf7 h hk;exact⟨by omega,lb,m',h2⟩
 have hO:FunOnP S0 (.clo fR [.cptr [.clo ej []] 0]) x.kids λ_=>false:=
  Iv h0 (λk hk'=>⟨hk k hk',rfl⟩) (λ_ _ y hy=>hy)
 have hP:N5 S0 (x.kids, .clo fR [.cptr [.clo ej []] 0],()):=hO;simp[vu,ur,h1,h2,hx,hP,-fB',-eB']
abbrev ZY:Spc:=aL (a1 Glob) (λg=>g=GlobE\/ZJ g) (enc (X:=Bool)) λx y=>y=decide (x.op=0)
set_option maxHeartbeats 1000000 in
def On:am jx jv S (a1 Glob) (λg=>g=GlobE\/ZJ g) (enc (X:=Bool)) λx y=>y=decide (x.op=0):=by
 rintro x (rfl|⟨lb,m,h⟩)
 ·simp[jx,jv,GlobE,E0,-fB']
 ·have:x.op≠0:=by cases h<;>simp<;>omega
  simp[jx,jv,this,-fB',-eB']
abbrev Vj:Spc:=aL (a1 Glob) (λg=>g=GlobE\/ ∃lb,GG lb 2 g) (enc (X:=Bool)) λx y=>y=true
theorem Lr(h1:S pb=ZY)(h2:S jo=UZ)(h3:S mJ=Vi):am ip gV S (a1 Glob) (λg=>g=GlobE\/ ∃lb,GG lb 2 g) (enc (X:=Bool)) λx y=>y=true:=by
 rintro x (rfl|⟨lb,h⟩)
 ·have p0:GlobE=GlobE\/ZJ GlobE:= .inl rfl;have e0:GlobE.op=0:=rfl;simp[ip,gV,h1,p0,e0,-fB',-eB'];exact .inl rfl
 ·have hnum:=qmO h;have p0:x=GlobE\/ZJ x:= .inr ⟨lb,2,h⟩;have hop:x.op≠0:=by cases h<;>simp<;>omega
  have p1:∃n,qrh n (x,0,1):=⟨ni x,qzX _,qA9 _,by show(0:Int) +Er x<=60;omega,by show(0:Int)<=1;omega,by show(1:Int) +ni x<=1000;omega,by show ni x<=60;omega⟩
  have p2:∃n,qnL n x:=⟨ni x,qzX _,lb,2,h⟩
  have p5:(Er x:Int)<=60:=by omega
  have p6:(1:Int) +ni x -1<=20:=by omega
  simp[ip,gV,h1,h2,h3,p0,hop,p1,p2,p5,p6,-fB',-eB']
def Gu{x:B} :(x∈Types\/x∈qbn\/(x∈Xw/\x≠ ⟨#[]⟩))->aI x=true:=by
 have hv:∀b:B,(decide (1<=b.size) && decide (b.size<=32) && (b.data.toList.all λc=>KN c.toNat))=true->aI b=true:=λb h=>xG h
 rintro(h|h|⟨h,hn⟩)
 ·simp only[Types,qz4,qAF,or_false]at h;rcases h with rfl|rfl|rfl<;>exact hv _ (by decide)
 ·simp only[qbn,qz4,qAF,or_false]at h;rcases h with rfl|rfl|rfl<;>exact hv _ (by decide)
 ·simp only[Xw,qz4,qAF,or_false]at h;rcases h with rfl|rfl|rfl
  ·exact hv _ (by decide)
  ·exact hv _ (by decide)
  ·exact absurd rfl hn
def Y3{v:B}(h:v∈qbq):∃r,ov v=some r:=by
 have e:∀v∈qbq,(ov v).isSome=true:=by decide
 exact qAQ.1 (e v h)
abbrev YB:Spc:=aL (a1 B) (λs=>s∈Xw) (enc (X:=Bool)) λ_ y=>y=false
def qly(h1:S bJ=ud):am lg kD S (a1 B) (λs=>s∈Xw) (enc (X:=Bool)) λ_ y=>y=false:=by
 rintro s hs;have hs:s∈Xw:=hs;have hv:s≠ ⟨#[]⟩->aI s=true:=λh=>Gu (.inr (.inr ⟨hs,h⟩))
 simp[lg,kD,h1,-fB',-eB'];exact hv
def M9{X:Type}[Cod X]{S:Nat->Spc}{g:Nat}{l:List X}{pre:X->Prop}{q:X->Bool}{post:X->Bool->Prop}(h:S g=aL (a1 X) pre enc post)(hp:∀x∈l,pre x)(hq:∀x∈l,∀y,post x y->y=q x):FunOnP S (.clo g []) l q:=by
 refine⟨g, [],_,rfl,h,λx hx=>⟨⟨x,by simp,hp x hx⟩,λr hr=>?_⟩⟩;obtain⟨y,rfl,hy⟩:=hr x (by simp) (hp x hx);rw[hq x hx y hy]
def N4(S0:Nat->Spc)(x:List B×D×Unit):Prop:=FunOnP S0 x.2.1 x.1 λ_=>false
abbrev qeH(S0:Nat->Spc):Spc:=aL (aE (List B) (aD a0)) (N4 S0) (enc (X:=Int)) λx y=>y= -1
def qlz:am fB ft S (aE (List B) (aD a0)) (N4 S) (enc (X:=Int)) λx y=>y= -1:=by
 rintro⟨l,d,⟨⟩⟩ hp;replace hp:FunOnP S d l λ_=>false:=hp
 simp[fB,ft,-fB',-eB'];intro hkl;refine ah (X:=Unit) [0,1] [] l.length (λk _=>True) (λ_=>[]) (λ_=>[]) () (by simp) ?_ ?_
 ·rintro k -hk -;obtain⟨y,hy⟩:=aO hk;obtain⟨_,hgy⟩:=qzP.1 hy;simp[hk,hy,hgy,-fB',-eB'];refine hp.useB y (aQ hy) λb hb=>?_
  obtain rfl:b=false:=hb _ hp;simp
 ·rintro - -;simp
abbrev qeK(S0:Nat->Spc):Spc:=aL (aE (List B) (aD a0)) (N4 S0) (enc (X:=Bool)) λx y=>y=false
def qlA(h1:S fJ=qeH S0):am eF eu S (aE (List B) (aD a0)) (N4 S0) (enc (X:=Bool)) λx y=>y=false:=by
 rintro⟨l,d,⟨⟩⟩ hp;simp[eF,eu,h1,hp,-fB']
def CQ(S0:Nat->Spc)(x:List tN×D×Unit):Prop:=FunOnP S0 x.2.1 x.1 λ_=>false
abbrev qag(S0:Nat->Spc):Spc:=aL (aE (List tN) (aD a0)) (CQ S0) (enc (X:=Int)) λx y=>y= -1
def qgo(x:tN):D.agg [D.v (Value.int IntKind.i64 x.op),D.v (Value.bool x.neg),D.v (Value.string x.reg)]=enc x:=by simp
def qil:am cn bZ S (aE (List tN) (aD a0)) (CQ S) (enc (X:=Int)) λx y=>y= -1:=by
 rintro⟨l,d,⟨⟩⟩ hp;replace hp:FunOnP S d l λ_=>false:=hp
 simp[cn,bZ,-fB',-eB'];intro hkl;refine ah (X:=Unit) [0,1] [] l.length (λk _=>True) (λ_=>[]) (λ_=>[]) () (by simp) ?_ ?_
 ·rintro k -hk -;obtain⟨y,hy⟩:=aO hk;obtain⟨_,hgy⟩:=qzP.1 hy;simp[hk,hy,hgy,-fB',-eB'];rw[qgo y];refine hp.useB y (aQ hy) λb hb=>?_
  obtain rfl:b=false:=hb _ hp;simp
 ·rintro - -;simp
abbrev RK(S0:Nat->Spc):Spc:=aL (aE (List tN) (aD a0)) (CQ S0) (enc (X:=Bool)) λx y=>y=false
def qim(h1:S cE=qag S0):am bI bH S (aE (List tN) (aD a0)) (CQ S0) (enc (X:=Bool)) λx y=>y=false:=by
 rintro⟨l,d,⟨⟩⟩ hp;simp[bI,bH,h1,hp,-fB']
abbrev RC:Spc:=aL (a1 tN) GF (enc (X:=Bool)) λ_ y=>y=false
def qid:am xq wK S (a1 tN) GF (enc (X:=Bool)) λ_ y=>y=false:=by
 rintro f ⟨h,_⟩;have h1:¬f.op< 1:=by omega
 have h2:¬3<f.op:=by omega
 simp[xq,wK,h1,h2,-fB',-eB']
abbrev RG:Spc:=aL (a1 tN) GF (enc (X:=Bool)) λ_ y=>y=false
def qig(h1:S bJ=ud):am io gU S (a1 tN) GF (enc (X:=Bool)) λ_ y=>y=false:=by
 rintro f ⟨_,h⟩;have hv:=Gu (.inl h);simp[io,gU,h1,hv,-fB',-eB']
def EQ(x:Glob×List Attr×List B):Prop:=x.2.1=gI/\(x.1=GlobE\/ ∃n,GG x.2.2 n x.1)
abbrev Vc:Spc:=aL (a3 Glob (List Attr) (List B)) EQ (enc (X:=Int)) λ_ y=>y=0
def qhh{g:B}(h:g∈Attr2):0<=lP gI g:=by
 simp only[Attr2,qz4,qAF,or_false]at h;rcases h with rfl|rfl<;>decide
def gM{l:List B}{x:B}(h:x∈l):Ap l x=true:=by
 unfold Ap;simpa using h
set_option maxHeartbeats 4000000 in
theorem qdA(h1:S aZ=YA)(h2:S bT=Cx)(h3:S bJ=ud)(h4:S eS=qeK S0)(h5:S rq=Z3)(h0:S0 eY=YB):
 am aB aA S (a3 Glob (List Attr) (List B)) EQ (enc (X:=Int)) λ_ y=>y=0:=by
 rintro⟨g,a,lb⟩ ⟨ha,hg⟩;simp only at ha hg;subst ha;have hw:(0:Int)<=lP gI LI:=by decide
 rcases hg with rfl|⟨n,hg⟩
 ·simp[aB,aA,GlobE,-fB',-eB']
 cases hg with
 |bound n a h=>simp[aB,aA,h1,gM h,-fB',-eB']
 | val n a v f k1 k2=>
   have hx:=Y3 k2;simp[aB,aA,h1,h2,h5,gM k1,hw,hx,-fB',-eB']
 |same n a b g k1 k2 k3=>simp[aB,aA,h1,h2,gM k1,gM k2,hw,qhh k3,-fB',-eB']
 | dist n a b mn mx k1 k2 k3 k4 k5 k6=>
   have e:¬mx<mn:=by omega
   simp[aB,aA,h1,gM k1,gM k2,e,-fB',-eB']
 |reg n a b t k1 k2 k3=>simp[aB,aA,h1,h3,gM k1,gM k2,Gu (.inl k3),-fB',-eB']
 | path n a b l k1 k2 k3 k4=>
   have hP:N4 S0 (l, .clo eY [],()):=M9 h0 (λx hx=>k4 x hx) λ_ _ y hy=>hy
   simp[aB,aA,h1,h4,gM k1,gM k2,hP,-fB',-eB']
 |node n a b t k1 k2 k3=>simp[aB,aA,h1,h3,gM k1,gM k2,Gu (.inr (.inl k3)),-fB',-eB']
 | depth n a mn mx k1 k3 k4 k5 k6=>
   have e1:¬mx<mn:=by omega
   have e2:¬mn< 0:=by omega
   simp[aB,aA,h1,gM k1,e1,e2,-fB',-eB']
 |head n op a b ho k1 k2=>rcases ho with rfl|rfl<;>simp[aB,aA,h1,gM k1,gM k2,-fB',-eB']
 |not n k h=>simp[aB,aA,-fB',-eB']
 |two n op a b ho k1 k2=>rcases ho with rfl|rfl<;>simp[aB,aA,-fB',-eB']
abbrev qaa(n:Nat):Spc:=aL (a3 Glob (List Attr) (List B)) (λx=>ni x.1<=n/\EQ x) (enc (X:=Int)) λ_ y=>y=0
abbrev Vd:Spc:=aL (a3 Glob (List Attr) (List B)) EQ (enc (X:=Int)) λ_ y=>y=0
theorem qii(n:Nat)(h1:S gi=Vc)(h2:S dT=qaa n):am gm fV S (a3 Glob (List Attr) (List B)) (λx=>ni x.1<=n+1/\EQ x) (enc (X:=Int)) λ_ y=>y=0:=by
 rintro⟨g,a,lb⟩ ⟨hn,hg⟩;simp only at hn;have hg':=hg;obtain⟨ha,hgg⟩:=hg';simp only at ha hgg;subst ha;have hk:∀k∈g.kids,ni k<=n/\EQ (k,gI,lb):=λk hk=>by
  have:=Wn hk;rcases hgg with rfl|⟨m,h⟩
  ·cases hk
  ·obtain⟨m',_,h2⟩:=qf7 h hk;exact⟨by omega,rfl, .inr ⟨m',h2⟩⟩
 simp[gm,fV,h1,hg,-fB',-eB'];intro hkl;refine ah (X:=Unit) [1,2,19] [] g.kids.length (λ_ _=>True) (λ_=>[]) (λ_=>[]) () trivial ?_ ?_
 ·rintro k ⟨⟩ hkk -;obtain⟨y,hy⟩:=aO hkk;obtain⟨_,hgy⟩:=qzP.1 hy;have hP:=hk y (aQ hy);simp[hkk,hy,hgy,h2,hP,-fB',-eB']
 ·rintro⟨⟩ -;simp
structure qdf (a:List Attr) (q:Qry):Prop where
 glob:q.glob=GlobE\/GG (bM q.pat []) 2 q.glob
 filts:∀f∈q.filts,GF f
 strat:0<=q.strat/\q.strat< 4
 pat:fI aI q.pat=true
 size:fj q.pat<=256
 l3:(bM q.pat []).length<=3
 num:cZ q.pat<=1000000
 att:a=gI
 lv:∀x∈aq q.pat,qhZ a (bM q.pat []) x.cond=true/\∃n,Kw n x.cond
structure qnQ (q:Qry):Prop where
 filts:∀f∈q.filts,GF f
 strat:0<=q.strat/\q.strat< 4
 pat:fI aI q.pat=true
 size:fj q.pat<=256
 l3:(bM q.pat []).length<=3
 num:cZ q.pat<=1000000
abbrev Z8:Spc:=aL (a1 Qry) qnQ (enc (X:=Int)) λ_ y=>y=0
theorem qif{N N2:Nat->Spc}(h0:N dw=Cw)(h0':N cU=xP)(h0'':N2 dz=RG)(h1:S mL=K5)(h2:S fl=A9 N)(h3:S gg=Cv)(h4:S cV=s_qlabels)(h5:S aS=RK N2):
 am dL dH S (a1 Qry) qnQ (enc (X:=Int)) λ_ y=>y=0:=by
 rintro q hq;have f1:FunIs N (.clo dw []) (mF aI):=uJ h0 λ_=>trivial
 have f2:FunIs N (.clo cU []) lG:=uJ h0' λ_=>trivial
 have hF:CQ N2 (q.filts, .clo dz [],()):=M9 h0'' (λx hx=>hq.filts x hx) λ_ _ y hy=>hy
 have hp:=hq.pat;unfold fI at hp;simp only[qzT]at hp;obtain⟨⟨⟨p1,p2⟩,p3⟩,p4⟩:=hp;have hsz:=hq.size;have hsz2:¬256<fj q.pat:=by omega
 have hl3:=hq.l3;have s1:¬q.strat< 0:=by have:=hq.strat;omega
 have s2:¬3<q.strat:=by have:=hq.strat;omega
 have hPb:qhN q.pat []:=by show 0+cZ q.pat<=1000000;have:=hq.num;omega
 simp[dL,dH,h1,p1,p2,h2,s1,s2,h3,hq.pat,hsz,hsz2,h5,hF,-fB',-eB'];refine⟨⟨_,f1⟩,λy hy=>⟨λ_=>⟨⟨_,f2⟩,λz hz=>⟨by rw[hz _ f2,p4],λ_=>?_⟩⟩,by rw[hy _ f1,p3]⟩⟩;simp[h4,-fB',-eB'];refine .inl ⟨hPb,λl hl _=>?_⟩;have hl:l=bM q.pat []:=hl;subst hl;omega
theorem qh9{N:Nat->Spc}(h0:N pd=RC)(h1:S eD=Z8)(h2:S cV=s_qlabels)(h3:S dy=s_leavesQ)(h4:S dm=RH)(h5:S aS=RK N)(h6:S mK=Vj)(h7:S dT=Vd):
 am gp fW S (a2 Qry (List Attr)) (λx=>qdf x.2 x.1) (enc (X:=Int)) λ_ y=>y=0:=by
 rintro⟨q,a⟩ hq;have hq:qdf a q:=hq;have hC:qnQ q:=⟨hq.filts,hq.strat,hq.pat,hq.size,hq.l3,hq.num⟩
 have hPb:qhN q.pat []:=by show 0+cZ q.pat<=1000000;have:=hq.num;omega
 have hlv:(aq q.pat).length<=cZ q.pat:=qw q.pat;have hPq:qdn q.pat []:=⟨by have:=hq.num;simp;omega,λy hy=>(hq.lv y hy).2⟩
 have hF:CQ N (q.filts, .clo pd [],()):=M9 h0 (λx hx=>hq.filts x hx) λ_ _ y hy=>hy
 have hS:q.glob=GlobE\/ ∃lb,GG lb 2 q.glob:=hq.glob.imp id λh=>⟨_,h⟩
 have hA:EQ (q.glob,a,bM q.pat []):=⟨hq.att,hq.glob.imp id λh=>⟨_,h⟩⟩
 have hal:a.length<=1000:=by rw[hq.att];decide
 simp[gp,fW,h1,hC,h2,-fB',-eB'];refine .inl ⟨hPb,λl hl=>?_⟩;have hl:l=bM q.pat []:=hl;subst hl;simp[h3,-fB',-eB'];refine .inl ⟨hPq,?_⟩;intro hll;refine ah (X:=Unit) [1,2,6,20] [] (bz q.pat).length (λ_ _=>True) (λ_=>[]) (λ_=>[]) () trivial ?_ ?_
 ·rintro k ⟨⟩ hk -;obtain⟨x,hx⟩:∃x,(bz q.pat)[k]? =some x:=⟨_,qzR hk⟩
  obtain⟨_,hgx⟩:=qzP.1 hx;have hxm:=qzS hx;obtain⟨y,hy,rfl⟩:=qzV.1 hxm;have hP:Tt ((mi y).cond,a,bM q.pat []):=⟨(hq.lv y hy).1,hal⟩
  simp[hk,hx,hgx,h4,hP,-fB',-eB'];exact hP
 ·rintro⟨⟩ -;simp[h5,h6,h7,hF,hS,hA,-fB',-eB']
end Go.Gv
namespace Go.Gv
open Go.Proofs
def IU:CC:=gq Tryz.f21 [] {} _
def HX:List ak:=[.cell 4 true 13]
def qca:FO BX [] IU HX 30:=fo
def Ab:CC:=gq Tryz.f53 [] {} _
def yU:List ak:=[.cell 4 true 7]
def Si:FO rO [] Ab yU 45:=fo
def vA:CC:=gq Tryz.f20 [2] { bx:=[1,43],cu:=[1] } _
def uy:List ak:=[.tmp 4]
def MI:FO qC [2] vA uy 46:=fo
def ll:CC:=gq Tryz.f22 [2006006,2112011,1111111] { cu:=[2,5] } _
def kG:List ak:=[.cell 6 true 11]
def By:FO eZ [2006006,2112011,1111111] ll kG 159:=fo
def qR:CC:=gq Tryz.f23 [] {} _
def qm:List ak:=[.cell 2 true 3]
def Ig:FO sF [] qR qm 13:=fo
def sW:CC:=gq Tryz.f8 [1049049,2050007] { bx:=[18],fz:=[(18,1)],cu:=[2,7,9] } _
def sv:List ak:=[.cell 4 true 26]
def Kr:FO uW [1049049,2050007] sW sv 52:=fo
open Cod (enc dec)
variable {S S0:Nat->Spc}
def qhI(n:Nat)(x:Cond×List B):Prop:=0<n/\CS (n -1) x.1
def ZF(n:Nat)(x:Pat×List B):Prop:=0<n/\PD (n -1) x.1
def qlk(x:Pat)(l:List B):Prop:=l.length+cZ x<=1000000
def N3(n:Nat)(x:List Int×Int×List B):Prop:=x.2.1.toNat<n/\ -10<=x.2.1/\x.2.1<=100/\1<=x.2.2.length/\x.2.2.length<=1000000
theorem jm{q:Glob->Prop}{H:ab}{op mn mx:Int}{a b n g v:B}{f:Bool}{d e:D}(ar:List B)(ks:List Glob)(hd:FrzTo H d (enc ar))(he:FrzTo H e (enc ks))(hq:q ⟨op,a,b,n,g,v,f,mn,mx,ar,ks⟩):
 Fin enc q (.agg [.v (.int .i64 op), .v (.string a), .v (.string b), .v (.string n), .v (.string g), .v (.string v), .v (.bool f), .v (.int .i64 mn), .v (.int .i64 mx),d,e]) H:=by
 refine aV (⟨op,a,b,n,g,v,f,mn,mx,ar,ks⟩:Glob) ?_ hq;rw[Nk];refine .agg rfl λk x y hx hy=>?_
 rcases k with _|_|_|_|_|_|_|_|_|_|_|k
 ·cases hx;cases hy;exact .same _
 ·cases hx;cases hy;exact .same _
 ·cases hx;cases hy;exact .same _
 ·cases hx;cases hy;exact .same _
 ·cases hx;cases hy;exact .same _
 ·cases hx;cases hy;exact .same _
 ·cases hx;cases hy;exact .same _
 ·cases hx;cases hy;exact .same _
 ·cases hx;cases hy;exact .same _
 ·cases hx;cases hy;exact hd
 ·cases hx;cases hy;exact he
 ·simp at hx
def Xk(p:Pat):∀out,(ju p out).length<=out.length+cZ p:=by
 induction p using fY with|_ p ih=>?_
 intro out;rw[pP,cx];split
 ·unfold De;split
  ·omega
  ·simp
 ·have:∀(ks:List Pat) (o:List B),(∀k∈ks,k∈p.kids)->(ks.foldl (λo k=>ju k o) o).length<=o.length+be ks:=by
   intro ks
   induction ks with
   |nil=>intro o _;simp[be]
   | cons k ks ihk=>
     intro o hk;rw[qAO,be];have h1:=ihk (ju k o) λz hz=>hk z (by simp[hz])
     have:=ih k (hk k (by simp)) o;omega
  have:=this p.kids out λ_ h=>h
  omega
def G9(ks:List Pat)(k:Nat)(lb:List B):((ks.take k).foldl (λo k=>ju k o) lb).length<=lb.length+be (ks.take k):=by
 generalize ks.take k=l
 induction l generalizing lb with
 |nil=>simp[be]
 | cons a l ih=>
   rw[qAO,be];have h1:=ih (ju a lb);have h2:=Xk a lb;omega
def Zz(x:Cond×List B)(y:Cond):Prop:=y=xV x.2 x.1
abbrev FT(n:Nat):Spc:=aL (a2 Cond (List B)) (qhI n) (enc (X:=Cond)) Zz
theorem Q0(n:Nat)(h1:S rO=FT n):am Ab yU S (a2 Cond (List B)) (qhI (n+1)) (enc (X:=Cond)) Zz:=by
 rintro⟨c,lb⟩ ⟨_,hc⟩;simp only at hc;have hc:CS n c:=hc;simp[Ab,yU];intro b2 b4;refine⟨λho _=>?_,λho hl=>?_⟩
 ·refine ah (X:=Unit) [2,4,13] [2,4] lb.length (λk _=>∀z∈lb.take k,z≠c.lab) (λ_=>[]) (λ_=>[]) () (by simp) ?_ ?_
  ·rintro k -hk hz;obtain⟨x,hx⟩:=aO hk;obtain⟨_,hgx⟩:=qzP.1 hx;simp[hk,hx,hgx];refine⟨λhxl=>gc c.kids (.same _) ?_,λhxl z hz'=>?_⟩
   ·show Cond.mk _ _ _ _ _ _ _=xV lb c;rw[GU,lE,if_pos ho,if_pos (hxl ▸aQ hx)]
   ·rw[av hx]at hz';rcases qzZ.1 hz' with h|h
    ·exact hz z h
    ·simp at h;subst h;exact hxl
  ·rintro -hz;rw[qz8]at hz;simp;refine gc [] (.nil _) ?_;show _=xV lb c;rw[lE,if_pos ho,if_neg (λh=>hz _ h rfl)];rfl
 ·refine ah (X:=Value×List Cond) [1,2,4,29] [2,4] c.kids.length (λk x=>x.2=(c.kids.take k).map (xV lb)) (λx=>[(7, .own 40 x.1)]) (λx=>[(40, .row x.1 eI 7 (x.2.map enc))]) (.slice none 0 0, []) (by simp) ?_ ?_ (hh:=by simp[isNilRow])
  ·rintro k ⟨v,ks⟩ hk hkl;simp only at hkl;obtain⟨x,hx⟩:=aO hk;obtain⟨_,hgx⟩:=qzP.1 hx;obtain⟨m,hm,hx1⟩:=qnm hc (aQ hx);have hp:qhI n (x,lb):=⟨by omega,by rw[hm];exact hx1⟩
   simp[hk,hx,hgx,h1,hp];have:=qnl hc;have hkl2:ks.length=k:=by rw[hkl,qAl,qAo];omega
   refineλy hy=>⟨by omega,by omega,λv=> .inl ?_⟩
   obtain rfl:y=xV lb x:=hy;rw[hkl,List.map_map,List.map_take,qAZ];simp[hx]
  ·rintro⟨v,ks⟩ hkl;simp only at hkl;simp;rw[qz8]at hkl;refine gc ks (ga eI (by simp)) ?_;show _=xV lb c;rw[lE,if_neg ho,hkl]
abbrev Di:Spc:=aL (a2 Cond (List B)) (λx=>∃n,CS n x.1) (enc (X:=Cond)) Zz
def Tp(x:Pat×List B)(y:Pat):Prop:=y=mQ x.2 x.1
abbrev PE(n:Nat):Spc:=aL (a2 Pat (List B)) (ZF n) (enc (X:=Pat)) Tp
theorem qbx(n:Nat)(h1:S rO=Di)(h2:S BX=PE n):am IU HX S (a2 Pat (List B)) (ZF (n+1)) (enc (X:=Pat)) Tp:=by
 rintro⟨p,lb⟩ ⟨_,hp⟩;simp only at hp;have hp:PD n p:=hp;have hcd:=qi8 hp;have hpl:=qmh hp;simp[IU,HX,h1];intro b2 b4;refine⟨hcd,λc hc _=>?_⟩;refine ah (X:=Value×List Pat) [1,2,4,14] [2,4] p.kids.length (λk x=>x.2=(p.kids.take k).map (mQ lb)) (λx=>[(5, .own 25 x.1)]) (λx=>[(25, .row x.1 aJ 13 (x.2.map enc))]) (.slice none 0 0, []) (by simp) ?_ ?_ (hh:=by simp[isNilRow])
 ·rintro k ⟨v,ks⟩ hk hkl;simp only at hkl;obtain⟨x,hx⟩:=aO hk;obtain⟨_,hgx⟩:=qzP.1 hx;obtain⟨m,hm,hx1⟩:=qmi hp (aQ hx);have hq:ZF n (x,lb):=⟨by omega,by rw[hm];exact hx1⟩
  have hkl2:ks.length=k:=by rw[hkl,qAl,qAo];omega
  simp[hk,hx,hgx,h2,hq];refineλy hy=>⟨by omega,by omega,λv=> .inl ?_⟩
  obtain rfl:y=mQ lb x:=hy;rw[hkl,List.map_map,List.map_take,qAZ];simp[hx]
 ·rintro⟨v,ks⟩ hkl;simp only at hkl;rw[qz8]at hkl;simp;refine CJ c.kids ks (.same _) (ga aJ (by simp)) ?_;show _=mQ lb p;rw[rT,<-show c=xV lb p.cond from hc,hkl,GU]
abbrev L5:Spc:=aL (a2 Pat (List B)) (λx=>∃n,PD n x.1) (enc (X:=Pat)) Tp
abbrev Dj:Spc:=aL (aT (a2 Int (List B))) (λx=> -10<=x.2.1/\x.2.1<=100/\x.2.2.length<=1000) (enc (X:=Pat)) N0
def qhH(x:Pat)(l r:List B):Prop:=r=ju x l
abbrev Wc(n:Nat):Spc:=qh0 (X:=Pat) (Y:=B) (λx l=>dc x<=n/\qlk x l) qhH au 1
abbrev i_BoundA2:Spc:=qh0 (X:=Pat) (Y:=B) qlk qhH au 1
theorem T0(n:Nat)(h1:S qC=Wc n):NX (X:=Pat) (Y:=B) vA uy S (λx l=>dc x<=n+1/\qlk x l) qhH au 1:=by
 rintro v lb p ⟨hd,hl⟩;have hk:∀k∈p.kids,dc k<=n:=λk h=>by have:=kM h;have:dc p<=n+1:=hd;omega
 have hl:lb.length+cZ p<=1000000:=hl;have hpn:=cx p;simp[vA,uy];refine bi (X:=Unit) [1,2] [1] (λ_=>p.op=1->p.lab=E0) (λ_=>[]) (λ_=>[]) ?_ ?_
 ·simp;refine⟨λho=>⟨λhn _=>?_,λh _=>h⟩,λho h=>absurd h ho⟩;refine ah (X:=Unit) [1,2,17] [1] lb.length (λk _=>∀z∈lb.take k,z≠p.lab) (λ_=>[]) (λ_=>[]) () (by simp) ?_ ?_
  ·rintro k -hkk hz;obtain⟨x,hx⟩:=aO hkk;obtain⟨_,hgx⟩:=qzP.1 hx;simp[hkk,hx,hgx];refine⟨λhxl=>dF lb (by simp) ?_,λhxl z hz'=>?_⟩
   ·show lb=ju p lb;rw[pP,if_pos ⟨ho,hn⟩,De,if_pos (hxl ▸aQ hx)]
   ·rw[av hx]at hz';rcases qzZ.1 hz' with h|h
    ·exact hz z h
    ·simp at h;subst h;exact hxl
  ·rintro -hz;rw[qz8]at hz;simp;refine⟨by omega,by omega,λv=>dF (lb++ [p.lab]) (by simp) ?_⟩;show _=ju p lb;rw[pP,if_pos ⟨ho,hn⟩,De,if_neg λh=>hz _ h rfl]
 ·rintro -hno;simp;intro hkl;refine ah (X:=Value×List B) [35] [] p.kids.length (λk x=>x.2=(p.kids.take k).foldl (λo k=>ju k o) lb) (λx=>[(1, .own 1 x.1)]) (λx=>[(1, .row x.1 au 1 (x.2.map enc))]) (v,lb) (by simp) ?_ ?_
  ·rintro k ⟨v,ls⟩ hkk hls;simp only at hls;obtain⟨x,hx⟩:=aO hkk;obtain⟨_,hgx⟩:=qzP.1 hx;have hq:qlk x ls:=by
    have h2:=G9 p.kids k lb;have h3:=G9 (p.kids.drop k) 1 ls;rw[<-hls]at h2;have h4:be (p.kids.take k) +be (p.kids.drop k)=be p.kids:=by rw[<-CD,qAs]
    rw[bB hx,be]at h4;show ls.length+cZ x<=_;omega
   have hq2:=hk x (aQ hx);simp[hkk,hx,hgx,h1,hq,hq2];intro v' l' hy;obtain rfl:l'=ju x ls:=hy;refine .inl ?_;rw[av hx,qBN,<-hls];rfl
  ·rintro⟨v,ls⟩ hls;simp only at hls;rw[qz8]at hls;simp;refine dF ls (by simp) ?_;show ls=ju p lb;rw[pP,if_neg λh=>h.2 (hno h.1),hls]
abbrev qgs:Spc:=qop (Y:=B) (aE Pat (aD a0)) (λx=>x.2.1= .v (.slice none 0 0)/\qlk x.1 []) (λx r=>qhH x.1 [] r) au 1
theorem Ua(h1:S qC=i_BoundA2):Xt (Y:=B) vA uy S (aE Pat (aD a0)) (λx=>x.2.1= .v (.slice none 0 0)/\qlk x.1 []) (λx r=>qhH x.1 [] r) au 1:=by
 rintro⟨p,d,⟨⟩⟩ ⟨hd,hl⟩;have hd:d= .v (.slice none 0 0):=hd;subst hd;have hl:0+cZ p<=1000000:=hl;have hpn:=cx p;simp[vA,uy];refine bi (X:=Unit) [1,2] [] (λ_=>p.op=1->p.lab=E0) (λ_=>[]) (λ_=>[]) ?_ ?_
 ·simp;refine⟨λho=>⟨λhn=>?_,λh _=>h⟩,λho h=>absurd h ho⟩;refine ah (X:=Unit) [1,2] [] 0 (λ_ _=>True) (λ_=>[]) (λ_=>[]) () trivial ?_ ?_
  ·rintro k -hkk -;exact absurd hkk (Nat.not_lt_zero _)
  ·rintro - -;simp;refineλv=>dF [p.lab] (by simp) ?_
   show _=ju p [];rw[pP,if_pos ⟨ho,hn⟩,De,if_neg (by simp)];rfl
 ·rintro -hno;simp;intro hkl;refine ah (X:=Value×List B) [35] [] p.kids.length (λk x=>x.2=(p.kids.take k).foldl (λo k=>ju k o) []) (λx=>[(1, .own 1 x.1)]) (λx=>[(1, .row x.1 au 1 (x.2.map enc))]) (.slice none 0 0, []) (by simp) ?_ ?_ (hh:=by simp[isNilRow])
  ·rintro k ⟨v,ls⟩ hkk hls;simp only at hls;obtain⟨x,hx⟩:=aO hkk;obtain⟨_,hgx⟩:=qzP.1 hx;have hq:qlk x ls:=by
    have h2:=G9 p.kids k [];have h3:=G9 (p.kids.drop k) 1 ls;rw[<-hls,qBJ]at h2;have h4:be (p.kids.take k) +be (p.kids.drop k)=be p.kids:=by rw[<-CD,qAs]
    rw[bB hx,be]at h4;show ls.length+cZ x<=_;omega
   simp[hkk,hx,hgx,h1,hq];intro v' l' hy;obtain rfl:l'=ju x ls:=hy;refine .inl ?_;rw[av hx,qBN,<-hls];rfl
  ·rintro⟨v,ls⟩ hls;simp only at hls;rw[qz8]at hls;simp;refine dF ls (by simp) ?_;show ls=ju p [];rw[pP,if_neg λh=>h.2 (hno h.1),hls]
abbrev s_Bound2:Spc:=qmk qgs i_BoundA2
def ZB(x:List Int×Int×List B)(y:Glob):Prop:=GG x.2.2 x.2.1.toNat y
def qzI(l:List B)(g:Glob):Prop:=g=GlobE\/GG l 2 g
def qxp{i:Nat}{a:B}(h:[(⟨#[97]⟩:B),⟨#[98,124,99]⟩,⟨#[46]⟩][i]? =some a):a∈qbq:=aQ h
def qxo{i:Nat}{a:B}(h:[(⟨#[83]⟩:B),⟨#[78,80]⟩,⟨#[86,80]⟩][i]? =some a):a∈qbn:=aQ h
def qxn{i:Nat}{a:B}(h:[(⟨#[111,98,106]⟩:B),⟨#[100,101,116]⟩,⟨#[]⟩][i]? =some a):a∈Xw:=aQ h
abbrev Ak(n:Nat):Spc:=aL (aT (a2 Int (List B))) (N3 n) (enc (X:=Glob)) ZB
theorem JZ(n:Nat)(h1:S bP=s_m_Next)(h2:S rP=xQ)(h3:S eZ=Ak n):am ll kG S (aT (a2 Int (List B))) (N3 (n+1)) (enc (X:=Glob)) ZB:=by
 rintro⟨L,deep,lb⟩ ⟨hn,hd0,hd1,hlb0,hlb⟩;simp only at hn hd0 hd1 hlb0 hlb;simp[ll,kG,h1];intro b6 k0 hk0 hk1;refine bi (X:=Int) [0,1,2,6] [6] (λk=>0<=k/\k< 13/\(deep< 1->k< 10)) (λk=>[(7,enc k)]) (λ_=>[]) ?_ ?_
 ·simp;have:k0.tmod 10=k0 % 10:=Int.tmod_eq_emod_of_nonneg hk0;rw[this];omega
 rintro k ⟨q0,q1,q2⟩;simp[h1];refineλ_=>⟨by omega,λi hi=>⟨by omega,by omega,λa ha _=>⟨by omega,λj hj=>⟨by omega,by omega,λc hc=>?_⟩⟩⟩⟩
 refine bi (X:=Unit) [0,1,2,6,7] [6] (λ_=>11<=k) (λ_=>[]) (λ_=>[]) ?_ ?_
 ·have hrec:1<=deep->N3 n (L,deep -1,lb):=λh=>⟨by show(deep -1).toNat<n;omega,by show -10<=deep -1;omega,by show deep -1<=100;omega,hlb0,hlb⟩
  have ma:a∈lb:=aQ ha;have mc:c∈lb:=aQ hc;have hdn:1<=deep->deep.toNat=(deep -1).toNat+1:=λh=>by omega
  simp[h1,h2,h3,Pt,UG,mC,rc,-fB'];refine⟨λ_=>jm [] [] (.nil _) (.nil _) (.bound _ a ma),λ_=>⟨λ_ y y0 y1=>⟨y0,y1,λv hv z _ _=>jm [] [] (.nil _) (.nil _) (.val _ a v _ ma (qxp hv))⟩,λ_=>⟨λ_ y y0 y1=>⟨y0,y1,λg hg=>jm [] [] (.nil _) (.nil _) (.same _ a c g ma mc (qxs hg))⟩,λ_=>⟨λ_ y y0 y1=>⟨by simp only[InR];omega,λz z0 z1=>⟨by simp only[InR];omega,jm [] [] (.nil _) (.nil _) (.dist _ a c _ _ ma mc (by omega) (by omega) (by omega) (by omega))⟩⟩,λ_=>⟨λ_ y y0 y1=>⟨trivial,λt ht=>jm [] [] (.nil _) (.nil _) (.reg _ a c t ma mc ht)⟩,λ_=>⟨λ_=>jm [] [] (.nil _) (.nil _) (.head _ 6 a c (.inl rfl) ma mc),λ_=>⟨λ_=>jm [] [] (.nil _) (.nil _) (.head _ 7 a c (.inr rfl) ma mc),λ_=>⟨λ_ b11 y y0 y1=>?_,λ_=>⟨λ_ y y0 y1=>⟨y0,y1,λt ht=>jm [] [] (.nil _) (.nil _) (.node _ a c t ma mc (qxo ht))⟩,λ_=>⟨λ_ y y0 y1 z z0 z1=>⟨by simp only[InR];omega,jm [] [] (.nil _) (.nil _) (.depth _ a _ _ ma (by omega) (by omega) (by omega) (by omega))⟩,λ_=>⟨λhk10=>⟨by simp only[InR];omega,hrec (by omega),λg=>?_⟩,λ_=>by omega⟩⟩⟩⟩⟩⟩⟩⟩⟩⟩⟩
  ·refine tO (X:=Int×Value×List B) [0,6,11] [6] [] [] [] [] (λx=>(0<=x.1/\x.1+x.2.2.length<=2)/\∀z∈x.2.2,z∈Xw) (λx=>[(12,enc x.1)]) (λx=>[(11, .box b11 [.v (.int .i64 8), .v (.string a), .v (.string c), .v (.string ⟨#[]⟩), .v (.string ⟨#[]⟩), .v (.string ⟨#[]⟩), .v (.bool false), .v (.int .i64 0), .v (.int .i64 0), .own 111 x.2.1, .v (.slice none 0 0)]),(111, .row x.2.1 au 1 (x.2.2.map enc))]) (λx=>x.1.toNat) (y, .slice none 0 0, []) [11,111] (λ_=>rfl) (by decide) (by decide) ?_ ?_ ?_ ?_
   ·exact⟨⟨y0,by simp;omega⟩,by simp⟩
   ·simp
   ·simp[isNilRow];exact .nilown 111
   ·rintro⟨i,v,l⟩ ⟨⟨e1,e2⟩,e3⟩;simp only at e1 e2 e3;simp[h1,UG,mC,rc];exact⟨λhi z z0 z1=>⟨z0,z1,λw hw=>⟨by omega,by omega,λv=>⟨by simp only[InR];omega,i -1,v,l++ [w],⟨⟨by omega,by simp;omega⟩,λz hz=>(qzZ.1 hz).elim (e3 z) λh=>by simp at h;subst h;exact qxn hw⟩,⟨rfl, .inl (.inl rfl), .inl (.inl (by simp))⟩,by omega⟩⟩⟩,λhi=>jm l [] (ga au (by simp)) (.nil _) (.path _ a c l ma mc (by omega) e3)⟩
  ·exactλhg=>jm [] [g] (.nil _) (by simp) (by show GG lb deep.toNat _;rw[hdn (by omega)];exact .not _ _ hg)
 ·rintro -hk;have hrec:N3 n (L,deep -1,lb):=⟨by show(deep -1).toNat<n;omega,by show -10<=deep -1;omega,by show deep -1<=100;omega,hlb0,hlb⟩
  have hdn:deep.toNat=(deep -1).toNat+1:=by omega
  simp[h3,hrec];exact⟨by simp only[InR];omega,by simp only[InR];omega,by simp only[InR];omega,λy hy=>⟨by simp only[InR];omega,λz hz=>jm [] [y,z] (.nil _) (by simp) (by show GG lb deep.toNat _;rw[hdn];exact .two _ _ _ _ (by omega) hy hz)⟩⟩
abbrev xR:Spc:=aL (aT (a2 Int (List B))) (λx=>∃n,N3 n x) (enc (X:=Glob)) ZB
abbrev Jo:Spc:=aL (aT a0) bW (enc (X:=tN)) (λ_ y=>GF y)
def TZ(h1:S bP=s_m_Next)(h2:S rP=xQ):am qR qm S (aT a0) bW (enc (X:=tN)) (λ_ y=>GF y):=by
 rintro⟨L,⟨⟩⟩ -;simp[qR,qm,h1,h2];refineλb y y0 y1=>⟨by simp only[InR];omega,λz z0 z1 u u0 u1=>⟨trivial,λt ht=>?_⟩⟩
 exact aV (⟨1+y,decide (z=2),t⟩:tN) (by simp) ⟨by show 1+y=1\/1+y=2\/1+y=3;omega,ht⟩
def NZ(x:List Int×Int)(q:Qry):Prop:=GQ x.2.toNat q
abbrev L6:Spc:=aL (aT (a1 Int)) (λx=>0<=x.2/\x.2<=5) (enc (X:=Qry)) NZ
theorem XZ(h1:S bP=s_m_Next)(h2:S hZ=Dj)(h3:S qC=s_Bound2)(h4:S BX=L5)(h5:S eZ=xR)(h6:S sF=Jo):
 am sW sv S (aT (a1 Int)) (λx=>0<=x.2/\x.2<=5) (enc (X:=Qry)) NZ:=by
 rintro⟨L,deep⟩ ⟨hd0,hd1⟩;simp only at hd0 hd1;simp[sW,sv,h1];intro b4;refine bi (X:=List B) [0,1,4] [4] (λl=>qhQ l/\l.length<=2) (λl=>[(5,enc l)]) (λ_=>[]) ?_ ?_
 ·simp[h1];exactλ_ _ _=>⟨λ_=>⟨[qnx,qoz],⟨λl hl=>by simpa using hl,by simp⟩,by simp[qnx,qoz]⟩,λ_ l hl=>by simp at hl⟩
 rintro lb ⟨hlb,hll⟩;simp[h1,h2];refine⟨⟨by omega,by omega,by omega⟩,λy hy b=>?_⟩;have hw:WP lb deep.toNat y:=hy.1.1;have hpd:PD deep.toNat y:=hy.1.2;have hnum:cZ y<=1000000:=by
  have:=(ZK _ y hw (by omega)).2.2;have h2:2^ (deep.toNat+1)<=64:=Nat.pow_le_pow_right (n:=2) (by omega) (show deep.toNat+1<=6 by omega);omega
 have hB:qlk y []:=by show 0+cZ y<=_;omega
 have hbd:∃n,PD n y:=⟨_,hpd⟩
 simp[h3,hB];refine .inl λl hl=>?_
 have hlq:l=ju y []:=hl;have hlm:l.length<=0+cZ y:=by rw[hlq];exact Xk y []
 simp[h4,hbd];intro p hp z z0 z1 b7;have hp:p=mQ l y:=hp;have hq:∀g fs s,(g=GlobE\/GG l 2 g)->(fs.length<=1/\∀f∈fs,GF f)->(0<=s/\s< 4)->NZ (L,deep) ⟨p,g,fs,s⟩:=by
  intro g fs s hg hfs hs;have hbl:ju p []=l:=by rw[hp,qhd,<-hlq]
  refine⟨⟨lb,hlb,by show WP lb deep.toNat p;rw[hp];exact qh6 _ _ hw⟩,?_,by show g=GlobE\/GG (ju p []) 2 g;rw[hbl];exact hg,hfs,hs⟩;show ∀y∈aq p,GC (ju p []) 1 y.cond;rw[hbl,hp,VU];intro x hx;obtain⟨u,hu,rfl⟩:=qzV.1 hx;rw[rT];exact qmP (hy.2 u hu)
 refine lB (X:=Glob) [0,4] [4] [] [] (qzI l) (λ_=>[(7, .bptr 7 b7 0)]) (λg=>[(7, .box b7 [.v (.int .i64 p.op), .v (.int .i64 p.cond.op), .v (.string p.cond.name), .v (.string p.cond.arg), .v (.string p.cond.val), .v (.string p.cond.lab), .v (.bool p.cond.fold),enc p.cond.kids, .v (.string p.lab), .v (.string p.reg), .v (.int .i64 p.mn), .v (.int .i64 p.mx),enc p.kids, .v (.int .i64 g.op), .v (.string g.a), .v (.string g.b), .v (.string g.name), .v (.string g.arg), .v (.string g.val), .v (.bool g.fold), .v (.int .i64 g.mn), .v (.int .i64 g.mx),enc g.args,enc g.kids, .v (.slice none 0 0), .v (.int .i64 z)])]) [7] (λ_=>rfl) (by decide) ?_ ?_
 ·simp[h1,h5,-fB'];refineλ_=>⟨λhl0 u u0 u1=>⟨λ_=>⟨⟨3,by show(2:Int).toNat< 3;decide,by show -10<=(2:Int);decide,by show(2:Int)<=100;decide,hl0,by show l.length<=1000000;omega⟩,λg hg=>⟨g, .inr hg, .inl (.inl ⟨rfl,rfl,rfl,rfl,rfl,rfl,rfl,rfl,rfl,rfl,rfl⟩)⟩⟩,λ_=>⟨⟨0,⟨#[]⟩,⟨#[]⟩,⟨#[]⟩,⟨#[]⟩,⟨#[]⟩,false,0,0, [], []⟩, .inl rfl, .inl ⟨rfl,rfl,rfl,rfl,rfl,rfl,rfl,rfl,rfl,rfl,rfl⟩⟩⟩,λ_=>⟨⟨0,⟨#[]⟩,⟨#[]⟩,⟨#[]⟩,⟨#[]⟩,⟨#[]⟩,false,0,0, [], []⟩, .inl rfl, .inl ⟨rfl,rfl,rfl,rfl,rfl,rfl,rfl,rfl,rfl,rfl,rfl⟩⟩⟩
 rintro g hg;refine lB (X:=List tN) [4] [4] [49] [] (λfs=>fs.length<=1/\∀f∈fs,GF f) (λ_=>[(7, .bptr 7 b7 0)]) (λfs=>[(7, .box b7 [.v (.int .i64 p.op), .v (.int .i64 p.cond.op), .v (.string p.cond.name), .v (.string p.cond.arg), .v (.string p.cond.val), .v (.string p.cond.lab), .v (.bool p.cond.fold),enc p.cond.kids, .v (.string p.lab), .v (.string p.reg), .v (.int .i64 p.mn), .v (.int .i64 p.mx),enc p.kids, .v (.int .i64 g.op), .v (.string g.a), .v (.string g.b), .v (.string g.name), .v (.string g.arg), .v (.string g.val), .v (.bool g.fold), .v (.int .i64 g.mn), .v (.int .i64 g.mx),enc g.args,enc g.kids,enc fs, .v (.int .i64 z)])]) [7] (λ_=>rfl) (by decide) ?_ ?_
 ·simp[h1];intro u u0 u1;have ut:u.tdiv 2=u/2:=Int.tdiv_eq_ediv_of_nonneg u0;rw[ut];refine⟨by simp only[InR];omega,?_⟩;refine tO (X:=Int×Value×List tN) [0,4,7] [4] [] [] [] [] (λx=>(0<=x.1/\x.1+x.2.2.length<=1)/\∀f∈x.2.2,GF f) (λx=>[(8,enc x.1)]) (λx=>[(7, .box b7 [.v (.int .i64 p.op), .v (.int .i64 p.cond.op), .v (.string p.cond.name), .v (.string p.cond.arg), .v (.string p.cond.val), .v (.string p.cond.lab), .v (.bool p.cond.fold),enc p.cond.kids, .v (.string p.lab), .v (.string p.reg), .v (.int .i64 p.mn), .v (.int .i64 p.mx),enc p.kids, .v (.int .i64 g.op), .v (.string g.a), .v (.string g.b), .v (.string g.name), .v (.string g.arg), .v (.string g.val), .v (.bool g.fold), .v (.int .i64 g.mn), .v (.int .i64 g.mx),enc g.args,enc g.kids, .own 49 x.2.1, .v (.int .i64 z)]),(49, .row x.2.1 Pr 3 (x.2.2.map enc))]) (λx=>x.1.toNat) (u/2, .slice none 0 0, []) [7,49] (λ_=>rfl) (by decide) (by decide) ?_ ?_ ?_ ?_
  ·exact⟨⟨by show 0<=u/2;omega,by simp;omega⟩,by simp⟩
  ·simp
  ·simp[isNilRow];exact .nilown 49
  ·rintro⟨i,v,fs⟩ ⟨⟨e1,e2⟩,e3⟩;simp only at e1 e2 e3;simp[h6];refine⟨λhi=>⟨trivial,λy hy=>⟨by omega,by omega,λv=>⟨by simp only[InR];omega,i -1,v,fs++ [y],⟨⟨by omega,by simp;omega⟩,λz hz=>(qzZ.1 hz).elim (e3 z) λh=>by simp at h;subst h;exact hy⟩,⟨rfl, .inl (.inl rfl), .inl (.inl (by simp))⟩,by omega⟩⟩⟩,λhi=>⟨fs,⟨by omega,e3⟩, .inl (ga Pr (by simp[XJ]))⟩⟩
 ·rintro fs hfs;simp;exact aV (⟨p,g,fs,z⟩:Qry) (by simp) (hq _ _ _ hg hfs ⟨z0,z1⟩)
end Go.Gv
namespace Go.Gv
open Go.Proofs
theorem qjs{lb:List B} :∀n p,WP lb n p->∀out:List B,bM p out=ju p out:=by
 refine Hm λn p hp ih out=>?_
 have hk:∀ks:List Pat,(∀k∈ks,k∈p.kids)->∀o:List B,ks.foldl (λo k=>bM k o) o=ks.foldl (λo k=>ju k o) o:=by
  intro ks
  induction ks with
  |nil=>intro _ o;rfl
  | cons k ks ihk=>
    intro h o;obtain⟨m,_,_,hi⟩:=ih k (h k (by simp));rw[qAO,qAO,hi,ihk λz hz=>h z (by simp[hz])]
 have hno:p.op≠1->p.lab=E0->bM p out=ju p out:=λh1 h2=>by
  rw[rI,pP,qW,if_pos h2,if_neg (λh=>h1 h.1)];exact hk _ (λ_ h=>h) _
 rcases xy hp with(⟨h1,h2,h3,h4,h5,h6⟩|⟨h1,h2,h3,h4,h5,h6,h7⟩)|⟨m,rfl,(⟨h1,h2,h3,h4,h5,h6,a,b,h7,_⟩|⟨h1,h2,h3,h4,h5,a,h7,_⟩)⟩
 ·rw[rI,pP,h6,qW];by_cases h:p.lab=E0
  ·rw[if_pos h,if_neg (λx=>x.2 h)];rfl
  ·rw[if_neg h,if_pos ⟨h1,h⟩];rfl
 ·exact hno (by omega) h3
 ·exact hno (by omega) h3
 ·exact hno (by omega) h3
def qde{out:List B}{x y:B}(h:y∈out):y∈qW out x:=by
 unfold qW De;split
 ·exact h
 ·split
  ·exact h
  ·simp[h]
def qdd{out:List B}{x:B}(h:x≠E0):x∈qW out x:=by
 unfold qW De;rw[if_neg h];split
 ·assumption
 ·simp
def qkr{out:List B}{x:B}(h:out.Nodup):(qW out x).Nodup:=by
 unfold qW De;split
 ·exact h
 ·split
  ·exact h
  ·rename_i hx;rw[qB6];exact⟨h,by simp,λa ha b hb=>by simp at hb;subst hb;exactλe=>hx (e ▸ha)⟩
def qcA(p:Pat):∀(out:List B) (y:B),y∈out->y∈bM p out:=by
 induction p using fY with|_ p ih=>?_
 intro out y h;rw[rI];have:∀ks:List Pat,(∀k∈ks,k∈p.kids)->∀o:List B,y∈o->y∈ks.foldl (λo k=>bM k o) o:=by
  intro ks
  induction ks with
  |nil=>intro _ o h;exact h
  |cons k ks ihk=>intro hk o h;exact ihk (λz hz=>hk z (by simp[hz])) _ (ih k (hk k (by simp)) o y h)
 exact this _ (λ_ h=>h) _ (qde h)
def qjr(p:Pat):∀(out:List B),out.Nodup->(bM p out).Nodup:=by
 induction p using fY with|_ p ih=>?_
 intro out h;rw[rI];have:∀ks:List Pat,(∀k∈ks,k∈p.kids)->∀o:List B,o.Nodup->(ks.foldl (λo k=>bM k o) o).Nodup:=by
  intro ks
  induction ks with
  |nil=>intro _ o h;exact h
  |cons k ks ihk=>intro hk o h;exact ihk (λz hz=>hk z (by simp[hz])) _ (ih k (hk k (by simp)) o h)
 exact this _ (λ_ h=>h) _ (qkr h)
theorem qcz(p:Pat):∀q∈sA p,q.lab≠E0->∀out:List B,q.lab∈bM p out:=by
 induction p using fY with|_ p ih=>?_
 intro q hq hl out;rw[rI];have hm:∀ks:List Pat,∀o:List B,q.lab∈o->q.lab∈ks.foldl (λo k=>bM k o) o:=by
  intro ks
  induction ks with
  |nil=>intro o h;exact h
  |cons k ks ihk=>intro o h;exact ihk _ (qcA k o _ h)
 cases p with
 | mk op cond lab reg mn mx ks=>
   rw[sA]at hq;rcases qz4.1 hq with rfl|hq
   ·exact hm _ _ (qdd hl)
   ·obtain⟨k,hk,hq⟩:=we hq;have:∀l:List Pat,k∈l->∀o:List B,q.lab∈l.foldl (λo k=>bM k o) o:=by
     intro l
     induction l with
     |nil=>intro h;cases h
     | cons z l ihl=>
       intro h o;rw[qAO];rcases qz4.1 h with rfl|h
       ·exact hm _ _ (ih k hk q hq hl _)
       ·exact ihl h _
    exact this _ hk _
def qjF{n:Nat}{q:Qry}(h:GQ n q):bM q.pat []=ju q.pat []/\(bM q.pat []).length<=2:=by
 obtain⟨lb,hl,hw⟩:=h.lab;have e:=qjs n q.pat hw [];refine⟨e,?_⟩;have hm:∀y∈bM q.pat [],y=qnx\/y=qoz:=λy hy=>by
  rw[e]at hy;rcases qkk n q.pat hw [] y hy with h|h
  ·cases h
  ·exact hl y h
 refine qcj (f:=λy=>if y=qnx then 0 else 1) (qjr q.pat [] qB0) (λy _=>by split<;>omega) λx hx y hy=>?_
 rcases hm x hx with rfl|rfl<;>rcases hm y hy with rfl|rfl
 ·exactλ_=>rfl
 ·rw[if_pos rfl,if_neg (by decide)];exactλh=>by cases h
 ·rw[if_neg (by decide),if_pos rfl];exactλh=>by cases h
 ·exactλ_=>rfl
theorem qfB{n:Nat}{c:Corpus}{q:Qry}(hc:qbp c)(hq:GQ n q)(hn:n<=5):qrj qdf c q:=by
 obtain⟨lb,hl,hw⟩:=hq.lab;have hpat:fI aI q.pat=true:=qh5 hl qlC n q.pat hw (by omega);obtain⟨hlab,hl2⟩:=qjF hq;obtain⟨_,hs1,hs2⟩:=ZK n q.pat hw hn;have h3:(3:Int) ^n<=243:=by
  rcases n with _|_|_|_|_|_|n
  all_goals first|decide|omega
 have h2:2^ (n+1)<=64:=by
  rcases n with _|_|_|_|_|_|n
  all_goals first|decide|omega
 have hpn:cZ q.pat<=1000000:=by omega
 have hl3:(bM q.pat []).length<=3:=by omega
 have he:cm oJ q.pat=true/\cm lG q.pat=true:=by
  unfold fI at hpat;simp only[qzT]at hpat;exact⟨hpat.1.1.2,hpat.2⟩
 have hN:PAll vI q.pat:=CB (Nh q.pat he.1) λq h=>(tS q).1 h
 refine⟨⟨by rw[hlab];exact hq.glob,hq.filts.2,hq.strat,hpat,by omega,hl3,hpn,hc.ok.1,λx hx=>?_⟩,⟨hc.ok.sz,by have:=hc.few;omega,hpat,hl3,hpn,λt ht=>?_⟩⟩
 ·have hg:=hq.cond x hx;rw[hlab,hc.ok.1];exact⟨qmp hg (by omega),qmv hg⟩
 ·intro z hz;refine⟨hN z hz,Nh q.pat he.2 z hz,λh=>gM (qcz q.pat z hz h []),λh1 s hs hlt=>?_⟩;have hg:=hq.cond z (qcl q.pat hN z hz h1);rw[<-hlab]at hg;have hen:(qeS c (bM q.pat []) t).en<=c.toks.length:=by show min t.e (c.toks.length:Int)<=_;omega
  exact qfU (E:=⟨(qeS c (bM q.pat []) t).c,s.p,(qeS c (bM q.pat []) t).lb,qug (qeS c (bM q.pat []) t) s⟩) ⟨hc.ok,hs.1,by show s.p<(c.toks.length:Int);omega,qko _ s⟩ hg (by decide)
open Cod (enc dec)
variable {S S0:Nat->Spc}
end Go.Gv
namespace Go.Gv
open Go.Proofs
open Cod (enc dec)
variable {S S0:Nat->Spc}
end Go.Gv
namespace Go.Gv
open Go.Proofs Cod
variable {dq:Prop}
def qma:TQ dq pd RC:=
 ac (ag ae) OX (qid)
def qi0:TQ dq dz RG:=
 ac (ag (aa iA ae)) yb (qig rfl)
def qri:Nat->Spc:=Jh [(pd,RC),(dz,RG)]
def qi5:TQ dq cE (qag qri):=
 ac (S:=qri) (ag (aa qma (aa qi0 ae))) kN qil
def qam:TQ dq aS (RK qri):=
 ac (ag (aa qi5 ae)) iv (qim rfl)
def qmb:TQ dq eY YB:=
 ac (ag (aa iA ae)) Bt (qly rfl)
def quz:Nat->Spc:=Jh [(eY,YB)]
def qmd:TQ dq fJ (qeH quz):=
 ac (S:=quz) (ag (aa qmb ae)) uE qlz
def qme:TQ dq eS (qeK quz):=
 ac (ag (aa qmd ae)) rF (qlA rfl)
def qeZ:TQ dq gi Vc:=
 ac (ag (aa mO (aa dM (aa iA (aa qme (aa Dw ae)))))) uH (qdA (S0:=quz) rfl rfl rfl rfl rfl rfl)
def Vm:∀n,TQ dq dT (qaa n)
 | 0=>bC λx h=>by have:=h.1;have:=Lb x.1;omega
 |n+1=>bY (ag (aa qeZ (aa (Vm n) ae))) wb (λ_=>qzU rfl) (qii n rfl rfl)
def qi1:TQ dq dT Vd:=tri_ex (λn=>Vm n) (fb (λx h=>⟨ni x.1,qzX _,h⟩))
def ql8:TQ dq pb ZY:=
 ac (ag ae) Dq (On)
def qal:∀n,TQ dq jo (UY n)
 | 0=>bC λx h=>by have:=h.1;have:=Lb x.1;omega
 |n+1=>bY (ag (aa (qal n) ae)) H9 (λ_=>qzU rfl) (Hx n rfl)
def ql9:TQ dq jo UZ:=tri_ex (λn=>qal n) (fb (λx h=>h))
def qmc:TQ dq ej qad:=
 ac (ag ae) OY (Ov)
def quy(n:Nat):Nat->Spc:=Jh [(fR,Mb n)]
def Vn:∀n,TQ dq mJ (Vh n)
 | 0=>bC λx h=>by have:=h.1.1;have:=Lb x.1;omega
 | n+1=>
   have h1:TQ dq fR (Mb n):=ac (ag (aa (Vn n) ae)) Ib (JU n rfl);have h2:TQ dq eC (qeI (quy n)):=ac (S:=quy n) (ag (aa h1 ae)) qs rr;have h3:TQ dq dx (qeL (quy n)):=ac (ag (aa h2 ae)) nK (nM rfl)
   ac (ag (aa h3 (aa qmc ae))) MC (Ou (S0:=quy n) n rfl rfl rfl)
def qi3:TQ dq mJ Vi:=tri_ex (λn=>Vn n) (fb (λx h=>by obtain⟨⟨n,h1⟩,h2⟩:=h;exact⟨n,h1,h2⟩))
def qi4:TQ dq mK Vj:=
 ac (ag (aa ql8 (aa ql9 (aa qi3 ae)))) Bu (Lr rfl rfl rfl)
def qiZ:TQ dq eD Z8:=
 ac (ag (aa ww (aa rb (aa yz (aa nN (aa qam ae)))))) pV (qif (N:=qdh) (N2:=qri) rfl rfl rfl rfl rfl rfl rfl rfl)
def YK:TQ dq fm (FS qdf):=
 ac (ag (aa qiZ (aa nN (aa tZ (aa lw (aa qam (aa qi4 (aa qi1 ae)))))))) wc (qh9 (N:=qri) rfl rfl rfl rfl rfl rfl rfl rfl)
def Fy:TQ dq hZ Dj:=
 tri_ex (λn=>ym n) (fb (λx h=>⟨x.2.1.toNat+1,Nat.lt_succ_self _,h⟩))
def Ju:∀n,TQ dq rO (FT n)
 | 0=>bC λx h=>absurd h.1 (Nat.not_lt_zero _)
 |n+1=>bY (ag (aa (Ju n) ae)) Si (λ_=>qzU rfl) (Q0 n rfl)
def Uq:TQ dq rO Di:=
 tri_ex (λn=>Ju n) (fb (λx h=>by obtain⟨n,h⟩:=h;exact⟨n+1,Nat.succ_pos _,h⟩))
def Vl:∀n,TQ dq BX (PE n)
 | 0=>bC λx h=>absurd h.1 (Nat.not_lt_zero _)
 |n+1=>bY (ag (aa Uq (aa (Vl n) ae))) qca (λ_=>qzU rfl) (qbx n rfl rfl)
def qdJ:TQ dq BX L5:=
 tri_ex (λn=>Vl n) (fb (λx h=>by obtain⟨n,h⟩:=h;exact⟨n+1,Nat.succ_pos _,h⟩))
def PR:∀n,TQ dq qC (Wc n)
 | 0=>rA λd ds H K ⟨id,v,l,a,x,h1,h2,h3,h4,h5⟩=>YP h4.1
 |n+1=>yB (ag (aa (PR n) ae)) MI (by decide) (T0 n rfl)
def Jf:Tri dq Tryz.prog qC i_BoundA2.pt:=tri_ex (λn=>PR n) λd ds H K ⟨id,v,l,a,x,h1,h2,h3,h4,h5⟩=>⟨dc x,id,v,l,a,x,h1,h2,h3,⟨qzX _,h4⟩,h5⟩
def qbH:Tri dq Tryz.prog qC s_Bound2.pt:=LE (Cu (ag (aa Jf ae)) MI (λ_=>qzU rfl) (Ua rfl)) Jf
def td:∀n,TQ dq eZ (Ak n)
 | 0=>bC λx h=>absurd h.1 (Nat.not_lt_zero _)
 |n+1=>bY (ag (aa cQ (aa G0 (aa (td n) ae)))) By (λ_=>qzU rfl) (JZ n rfl rfl rfl)
def CW:TQ dq eZ xR:=
 tri_ex (λn=>td n) (fb (λx h=>h))
def Ka:TQ dq sF Jo:=
 ac (ag (aa cQ (aa G0 ae))) Ig (TZ rfl rfl)
def LA:TQ dq uW L6:=
 ac (ag (aa cQ (aa Fy (aa qbH (aa qdJ (aa CW (aa Ka ae))))))) Kr (XZ rfl rfl rfl rfl rfl rfl)
end Go.Gv
namespace Go.Gv
open Cod (enc dec)
variable {S S0:Nat->Spc}
def ZD(_:D×Unit)(l r:List Span):Prop:=r.length=l.length/\(∀x,x∈r↔x∈l)/\WS r
abbrev LZ:Spc:=aL (a2 (List Span) (List Span)) (λ_=>True) enc λx y=>y=decide (x.1=x.2)
def XN:am B8 Ba S (a2 (List Span) (List Span)) (λ_=>True) enc λx y=>y=decide (x.1=x.2):=by
 rintro⟨a,b⟩ -;simp[B8,Ba];intro h1 h2;refine⟨λh3=>?_,λh3 _=>?_⟩
 ·intro e;subst e;omega
 ·have h3':a.length=b.length:=by omega
  refine ah (X:=Unit) [0,1] [] a.length (λk _=>a.take k=b.take k) (λ_=>[]) (λ_=>[]) () (by simp) ?_ ?_
  ·intro k _ hk hP;simp;refine⟨hk,λx hx=>⟨by omega,λy hy=>⟨λh=>?_,λh4 h5=>?_⟩⟩⟩
   ·intro e;subst e;rw[hx]at hy;cases hy;simp at h
   ·rw[av hx,av hy,hP,Span.ext' h4 h5]
  ·intro _ hP;simp;rw[qAN (by omega),qAN (by omega)]at hP;exact hP
abbrev L0:Spc:=aL (a2 Span Span) (λ_=>True) enc λx y=>y=decide (AP x.1 x.2)
def XO:am B9 Bb S (a2 Span Span) (λ_=>True) enc λx y=>y=decide (AP x.1 x.2):=by
 rintro⟨a,b⟩ -;simp[B9,Bb];unfold AP;refine⟨λh=>⟨λe=>⟨λh1=>by omega,λh1=>by omega⟩,λe h1=>by omega⟩,λh=>by omega⟩
end Go.Gv
