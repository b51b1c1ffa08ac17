/- W202 -/
import Derived.Test.YtnffegdacbdhmaaGreatDoorGe24
set_option linter.all false
set_option maxRecDepth 100000
set_option maxHeartbeats 0
open Bool renaming forall_bool → fB', exists_bool → eB'
namespace Go.Gv
section
open Go.Proofs
open Cod (enc dec)
variable {S S0:Nat->Spc}
abbrev qc4(x:Glob):Prop:=∃lb m,GG lb m x
abbrev qdL:Spc:=aG (a1 Glob) qc4 (enc (X:=Bool)) λx y=>y=true
set_option maxHeartbeats 1000000 in
theorem Rf:ak bV bT S (a1 Glob) qc4 (enc (X:=Bool)) λx y=>y=true:=by
 rintro x ⟨lb,m,h⟩;cases h with
 |bound n a h=>simp[bV,bT,E0,-fB',-eB']
 |val n a v f h1 h2=>simp[bV,bT,E0,-fB',-eB']
 |same n a b g h1 h2 h3=>simp[bV,bT,E0,-fB',-eB']
 |dist n a b mn mx h1 h2 h3 h4 h5 h6=>simp[bV,bT,E0,-fB',-eB']
 |reg n a b t h1 h2 h3=>simp[bV,bT,E0,-fB',-eB']
 |path n a b l h1 h2 h3 h4=>simp[bV,bT,E0,-fB',-eB']
 |node n a b t h1 h2 h3=>simp[bV,bT,E0,-fB',-eB']
 |depth n a mn mx h1 h3 h4 h5 h6=>simp[bV,bT,E0,-fB',-eB']
 |head n op a b ho h1 h2=>rcases ho with rfl|rfl<;>simp[bV,bT,E0,-fB',-eB']
 |not n k h=>simp[bV,bT,E0,-fB',-eB']
 |two n op a b ho h1 h2=>rcases ho with rfl|rfl<;>simp[bV,bT,E0,-fB',-eB']
def qwr(n:Nat)(x:Glob×Int×Int):Prop:=qI x.1<=n/\0<=x.2.1/\x.2.1+I5 x.1<=60/\0<=x.2.2/\x.2.2+qI x.1<=1000/\qI x.1<=60
abbrev Yt(n:Nat):Spc:=aG (a3 Glob Int Int) (qwr n) (kZ (Y:=Int) (Z:=Int)) λx y=>y=(x.2.1+I5 x.1,x.2.2+qI x.1 -1)
abbrev Yu:Spc:=aG (a3 Glob Int Int) (λx=>∃n,qwr n x) (kZ (Y:=Int) (Z:=Int)) λx y=>y=(x.2.1+I5 x.1,x.2.2+qI x.1 -1)
theorem JZ(n:Nat)(h1:S jP=Yt n):ak tb sq S (a3 Glob Int Int) (qwr (n+1)) (kZ (Y:=Int) (Z:=Int)) λx y=>y=(x.2.1+I5 x.1,x.2.2+qI x.1 -1):=by
 rintro⟨x,nodes,deep⟩ ⟨hn,h0,h2,h3,h4,h5⟩;simp only at hn h0 h2 h3 h4 h5;have j:=NF x;have l:=qdY x;simp[tb,sq];refine⟨by grind [Spc,InR],λp=>?_⟩;refine ah (X:=Int×Int) [2,17] [] x.kids.length (λk z=>z.1=nodes+1+ (pA (x.kids.take k):Int)/\z.2=deep+ (pB (x.kids.take k):Int)) (λz=>[(1,enc z.1),(8,enc z.2)]) (λ_=>[]) (nodes+1,deep) (by simp[pA,pB]) ?_ ?_
 ·rintro k ⟨m,d⟩ hk ⟨q,h⟩;simp only at q h;obtain⟨y,b⟩:=aQ hk;obtain⟨_,c⟩:=qFG.1 b;have hm:=qf8 b;have r:=K2 (aU b);have hp:qwr n (y,m,deep+1):=⟨by show qI y<=n;omega,by show 0<=m;omega,by show m+I5 y<=60;omega,by show 0<=deep+1;omega,by show deep+1+qI y<=1000;omega,by show qI y<=60;omega⟩
  have a:¬60<m:=by have:=qdY y;omega
  simp[h1,hk,b,c,hp,a];exact⟨by simp only[InR];omega,by omega,by rw[hm.2.1,h];omega⟩
 simp;omega
def qkh(x:Glob):D.agg [D.v (Value.int IntKind.i64 x.op),D.v (Value.string x.a),D.v (Value.string x.b),D.v (Value.string x.name),D.v (Value.string x.arg),D.v (Value.string x.val),D.v (Value.bool x.fold),D.v (Value.int IntKind.i64 x.mn),D.v (Value.int IntKind.i64 x.mx),D.list 1 (List.map enc x.args),D.list 11 (List.map enc x.kids)]=enc x:=by simp
def QP(S0:Nat->Spc)(x:List Glob×D×Unit):Prop:=FunOnP S0 x.2.1 x.1 λ_=>false
abbrev qiO(S0:Nat->Spc):Spc:=aG (aE (List Glob) (aD a0)) (QP S0) (enc (X:=Int)) λx y=>y= -1
def tN:ak eE ej S (aE (List Glob) (aD a0)) (QP S) (enc (X:=Int)) λx y=>y= -1:=by
 rintro⟨l,d,⟨⟩⟩ hp;replace hp:FunOnP S d l λ_=>false:=hp
 simp[eE,ej,-fB',-eB'];intro h;refine ah (X:=Unit) [0,1] [] l.length (λk _=>True) (λ_=>[]) (λ_=>[]) () (by simp) ?_ ?_
 ·rintro k -hk -;obtain⟨y,a⟩:=aQ hk;obtain⟨_,c⟩:=qFG.1 a;simp[hk,a,c,-fB',-eB'];rw[qkh y];refine hp.useB y (aU a) λb hb=>?_
  grind [RU]
 simp
abbrev qiR(S0:Nat->Spc):Spc:=aG (aE (List Glob) (aD a0)) (QP S0) (enc (X:=Bool)) λx y=>y=false
def pN(h1:S eW=qiO S0):ak dF dD S (aE (List Glob) (aD a0)) (QP S0) (enc (X:=Bool)) λx y=>y=false:=by
 rintro⟨l,d,⟨⟩⟩ hp;simp_all [dF,dD]
def qsN(n:Nat)(x:Glob):Prop:=qI x<=n/\qc4 x
abbrev YL(n:Nat):Spc:=aG (aE Glob (aD a0)) (λx=>qsN n x.1/\x.2.1= .clo eN []) (enc (X:=Bool)) λx y=>y=true
abbrev YM:Spc:=aG (aE Glob (aD a0)) (λx=>(∃n,qsN n x.1)/\x.2.1= .clo eN []) (enc (X:=Bool)) λx y=>y=true
abbrev OO(n:Nat):Spc:=aG (aE Glob (aD a0)) (λx=>qsN n x.1/\x.2.1= .cptr [.clo eN []] 0) (enc (X:=Bool)) λx y=>y=false
def Mr(n:Nat)(h1:S nN=YL n):ak td su S (aE Glob (aD a0)) (λx=>qsN n x.1/\x.2.1= .cptr [.clo eN []] 0) (enc (X:=Bool)) λx y=>y=false:=by
 rintro⟨x,d,⟨⟩⟩ ⟨a,b⟩;simp_all [td,su]
def Re(n:Nat)(h0:S0 gu=OO n)(h1:S dJ=qiR S0)(h2:S eN=qdL):ak xK wD S (aE Glob (aD a0)) (λx=>qsN (n+1) x.1/\x.2.1= .clo eN []) (enc (X:=Bool)) λx y=>y=true:=by
 rintro⟨x,d,⟨⟩⟩ ⟨⟨hn,b⟩,c⟩;simp only at hn b c;subst c;have hk:∀k∈x.kids,qsN n k:=λk hk=>by
  have:=ZO hk;obtain⟨lb,m,h⟩:=b;obtain⟨j,_,h2⟩:=qki h hk;exact⟨by omega,lb,j,h2⟩
 have hO:FunOnP S0 (.clo gu [.cptr [.clo eN []] 0]) x.kids λ_=>false:=
  K3 h0 (λk a=>⟨hk k a,rfl⟩) (λ_ _ y l=>l)
 have p:QP S0 (x.kids, .clo gu [.cptr [.clo eN []] 0],()):=hO;simp_all [xK,wD]
abbrev qdt:Spc:=aG (a1 Glob) (λg=>g=GlobE\/qc4 g) (enc (X:=Bool)) λx y=>y=decide (x.op=0)
set_option maxHeartbeats 1000000 in
def Ra:ak kb jY S (a1 Glob) (λg=>g=GlobE\/qc4 g) (enc (X:=Bool)) λx y=>y=decide (x.op=0):=by
 rintro x (rfl|⟨lb,m,h⟩);simp[kb,jY,GlobE,E0]
 ·have:x.op≠0:=by cases h<;>simp<;>omega
  simp[kb,jY,this,-fB',-eB']
abbrev YN:Spc:=aG (a1 Glob) (λg=>g=GlobE\/ ∃lb,GG lb 2 g) (enc (X:=Bool)) λx y=>y=true
def NU(h1:S qU=qdt)(h2:S jP=Yu)(h3:S nN=YM):ak iN iA S (a1 Glob) (λg=>g=GlobE\/ ∃lb,GG lb 2 g) (enc (X:=Bool)) λx y=>y=true:=by
 rintro x (rfl|⟨lb,h⟩)
 ·have a:GlobE=GlobE\/qc4 GlobE:= .inl rfl;have d:GlobE.op=0:=rfl;simp[iN,iA,h1,a,d,-fB',-eB'];exact .inl rfl
 ·have c:=qrP h;have a:x=GlobE\/qc4 x:= .inr ⟨lb,2,h⟩;have b:x.op≠0:=by cases h<;>simp<;>omega
  have j:∃n,qwr n (x,0,1):=⟨qI x,qFM _,qGI _,by grind,by simp,by grind,by grind⟩
  have k:∃n,qsN n x:=⟨qI x,qFM _,lb,2,h⟩
  have l:(I5 x:Int)<=60:=by omega
  have p:(1:Int) +qI x -1<=20:=by omega
  simp[iN,iA,h1,h2,h3,a,b,j,k,l,p,-fB',-eB']
def Jg{x:B} :(x∈Types\/x∈qe2\/(x∈qaK/\x≠ ⟨#[]⟩))->aB x=true:=by
 have a:∀b:B,(decide (1<=b.size) && decide (b.size<=32) && (b.data.toList.all λc=>AP c.toNat))=true->aB b=true:=λb h=>Af h
 rintro(h|h|⟨h,hn⟩)
 ·simp only[Types,qFP,qGi,or_false]at h;rcases h with rfl|rfl|rfl<;>exact a _ (by decide)
 ·simp only[qe2,qFP,qGi,or_false]at h;rcases h with rfl|rfl|rfl<;>exact a _ (by decide)
 ·simp only[qaK,qFP,qGi,or_false]at h;rcases h with rfl|rfl|rfl
  ·exact a _ (by decide)
  ·exact a _ (by decide)
  grind
def qcn{v:B}(h:v∈qe3):∃r,qw v=some r:=by
 have e:∀v∈qe3,(qw v).isSome=true:=by decide
 grind [Option.isSome_iff_exists]
abbrev qbT:Spc:=aG (a1 B) (λs=>s∈qaK) (enc (X:=Bool)) λ_ y=>y=false
def qqz(h1:S bO=wn):ak lV lm S (a1 B) (λs=>s∈qaK) (enc (X:=Bool)) λ_ y=>y=false:=by
 rintro s hs;have hs:s∈qaK:=hs;have a:s≠ ⟨#[]⟩->aB s=true:=λh=>Jg (.inr (.inr ⟨hs,h⟩))
 simp_all [lV,lm]
def PW{X:Type}[Cod X]{S:Nat->Spc}{g:Nat}{l:List X}{pre:X->Prop}{q:X->Bool}{post:X->Bool->Prop}(h:S g=aG (a1 X) pre enc post)(hp:∀x∈l,pre x)(c:∀x∈l,∀y,post x y->y=q x):FunOnP S (.clo g []) l q:=by
 refine⟨g, [],_,rfl,h,λx a=>⟨⟨x,by simp,hp x a⟩,λr b=>?_⟩⟩;obtain⟨y,rfl,d⟩:=b x (by simp) (hp x a);grind
def QO(S0:Nat->Spc)(x:List B×D×Unit):Prop:=FunOnP S0 x.2.1 x.1 λ_=>false
abbrev qiN(S0:Nat->Spc):Spc:=aG (aE (List B) (aD a0)) (QO S0) (enc (X:=Int)) λx y=>y= -1
def qqA:ak fW fP S (aE (List B) (aD a0)) (QO S) (enc (X:=Int)) λx y=>y= -1:=by
 rintro⟨l,d,⟨⟩⟩ hp;replace hp:FunOnP S d l λ_=>false:=hp
 simp[fW,fP,-fB',-eB'];intro h;refine ah (X:=Unit) [0,1] [] l.length (λk _=>True) (λ_=>[]) (λ_=>[]) () (by simp) ?_ ?_
 ·rintro k -hk -;obtain⟨y,a⟩:=aQ hk;obtain⟨_,c⟩:=qFG.1 a;simp[hk,a,c,-fB',-eB'];refine hp.useB y (aU a) λb hb=>?_
  obtain rfl:b=false:=hb _ hp;simp
 simp
abbrev qiQ(S0:Nat->Spc):Spc:=aG (aE (List B) (aD a0)) (QO S0) (enc (X:=Bool)) λx y=>y=false
def qqB(h1:S gi=qiN S0):ak eZ eR S (aE (List B) (aD a0)) (QO S0) (enc (X:=Bool)) λx y=>y=false:=by
 rintro⟨l,d,⟨⟩⟩ hp;simp_all [eZ,eR]
def Fk(S0:Nat->Spc)(x:List vR×D×Unit):Prop:=FunOnP S0 x.2.1 x.1 λ_=>false
abbrev qdO(S0:Nat->Spc):Spc:=aG (aE (List vR) (aD a0)) (Fk S0) (enc (X:=Int)) λx y=>y= -1
def qkB(x:vR):D.agg [D.v (Value.int IntKind.i64 x.op),D.v (Value.bool x.neg),D.v (Value.string x.reg)]=enc x:=by simp
def qmZ:ak cy cn S (aE (List vR) (aD a0)) (Fk S) (enc (X:=Int)) λx y=>y= -1:=by
 rintro⟨l,d,⟨⟩⟩ hp;replace hp:FunOnP S d l λ_=>false:=hp
 simp[cy,cn,-fB',-eB'];intro h;refine ah (X:=Unit) [0,1] [] l.length (λk _=>True) (λ_=>[]) (λ_=>[]) () (by simp) ?_ ?_
 ·rintro k -hk -;obtain⟨y,a⟩:=aQ hk;obtain⟨_,c⟩:=qFG.1 a;simp[hk,a,c,-fB',-eB'];rw[qkB y];refine hp.useB y (aU a) λb hb=>?_
  grind [RU]
 simp
abbrev U5(S0:Nat->Spc):Spc:=aG (aE (List vR) (aD a0)) (Fk S0) (enc (X:=Bool)) λx y=>y=false
def qm0(h1:S cN=qdO S0):ak bN bL S (aE (List vR) (aD a0)) (Fk S0) (enc (X:=Bool)) λx y=>y=false:=by
 rintro⟨l,d,⟨⟩⟩ hp;simp_all [bN,bL]
abbrev UZ:Spc:=aG (a1 vR) GF (enc (X:=Bool)) λ_ y=>y=false
def qmQ:ak zP yZ S (a1 vR) GF (enc (X:=Bool)) λ_ y=>y=false:=by
 rintro f ⟨h,_⟩;have h1:¬f.op< 1:=by omega
 have h2:¬3<f.op:=by omega
 simp_all [zP,yZ]
abbrev U1:Spc:=aG (a1 vR) GF (enc (X:=Bool)) λ_ y=>y=false
def qmT(h1:S bO=wn):ak iM iz S (a1 vR) GF (enc (X:=Bool)) λ_ y=>y=false:=by
 rintro f ⟨_,h⟩;simp_all [Jg,iM,iz]
def Ht(x:Glob×List Attr×List B):Prop:=x.2.1=ij/\(x.1=GlobE\/ ∃n,GG x.2.2 n x.1)
abbrev YG:Spc:=aG (a3 Glob (List Attr) (List B)) Ht (enc (X:=Int)) λ_ y=>y=0
def qlC{g:B}(h:g∈Attr2):0<=mN ij g:=by
 simp only[Attr2,qFP,qGi,or_false]at h;rcases h with rfl|rfl<;>decide
def iq{l:List B}{x:B}(h:x∈l):vw l x=true:=by
 grind [vw]
set_option maxHeartbeats 4000000 in
theorem qhu(h1:S bi=qbS)(h2:S bX=EX)(h3:S bO=wn)(h4:S fC=qiQ S0)(h5:S tL=qdB)(h0:S0 fF=qbT):
 ak az ay S (a3 Glob (List Attr) (List B)) Ht (enc (X:=Int)) λ_ y=>y=0:=by
 rintro⟨g,a,lb⟩ ⟨ha,hg⟩;simp only at ha hg;subst ha;have hw:(0:Int)<=mN ij Og:=by decide
 rcases hg with rfl|⟨n,hg⟩;simp[az,ay,GlobE];cases hg with
 |bound n a h=>simp[az,ay,h1,iq h,-fB',-eB']
 | val n a v f k1 k2=>
   have hx:=qcn k2;simp[az,ay,h1,h2,h5,iq k1,hw,hx,-fB',-eB']
 |same n a b g k1 k2 k3=>simp[az,ay,h1,h2,iq k1,iq k2,hw,qlC k3,-fB',-eB']
 | dist n a b mn mx k1 k2 k3 k4 k5 k6=>
   have e:¬mx<mn:=by omega
   simp[az,ay,h1,iq k1,iq k2,e,-fB',-eB']
 |reg n a b t k1 k2 k3=>simp[az,ay,h1,h3,iq k1,iq k2,Jg (.inl k3),-fB',-eB']
 | path n a b l k1 k2 k3 k4=>
   have hP:QO S0 (l, .clo fF [],()):=PW h0 (λx hx=>k4 x hx) λ_ _ y hy=>hy
   simp[az,ay,h1,h4,iq k1,iq k2,hP,-fB',-eB']
 |node n a b t k1 k2 k3=>simp[az,ay,h1,h3,iq k1,iq k2,Jg (.inr (.inl k3)),-fB',-eB']
 | depth n a mn mx k1 k3 k4 k5 k6=>
   have e1:¬mx<mn:=by omega
   have e2:¬mn< 0:=by omega
   simp[az,ay,h1,iq k1,e1,e2,-fB',-eB']
 |head n op a b ho k1 k2=>rcases ho with rfl|rfl<;>simp[az,ay,h1,iq k1,iq k2,-fB',-eB']
 |not n k h=>simp[az,ay,-fB',-eB']
 |two n op a b ho k1 k2=>rcases ho with rfl|rfl<;>simp[az,ay,-fB',-eB']
abbrev qdI(n:Nat):Spc:=aG (a3 Glob (List Attr) (List B)) (λx=>qI x.1<=n/\Ht x) (enc (X:=Int)) λ_ y=>y=0
abbrev YH:Spc:=aG (a3 Glob (List Attr) (List B)) Ht (enc (X:=Int)) λ_ y=>y=0
def qmV(n:Nat)(h1:S gM=YG)(h2:S eA=qdI n):ak gP gD S (a3 Glob (List Attr) (List B)) (λx=>qI x.1<=n+1/\Ht x) (enc (X:=Int)) λ_ y=>y=0:=by
 rintro⟨g,a,lb⟩ ⟨hn,d⟩;simp only at hn;have c:=d;obtain⟨j,b⟩:=c;simp only at j b;subst j;have hk:∀k∈g.kids,qI k<=n/\Ht (k,ij,lb):=λk hk=>by
  have:=ZO hk;rcases b with rfl|⟨m,h⟩
  ·cases hk
  ·obtain⟨l,_,h2⟩:=qki h hk;exact⟨by omega,rfl, .inr ⟨l,h2⟩⟩
 simp[gP,gD,h1,d,-fB',-eB'];intro p;refine ah (X:=Unit) [1,2,19] [] g.kids.length (λ_ _=>True) (λ_=>[]) (λ_=>[]) () trivial ?_ ?_;simp_all;simp
structure WK (a:List Attr) (q:Qry):Prop where
 glob:q.glob=GlobE\/GG (aZ q.pat []) 2 q.glob
 filts:∀f∈q.filts,GF f
 strat:0<=q.strat/\q.strat< 4
 pat:fy aB q.pat=true
 size:fM q.pat<=256
 l3:(aZ q.pat []).length<=3
 num:dm q.pat<=1000000
 att:a=ij
 lv:∀x∈aq q.pat,qmt a (aZ q.pat []) x.cond=true/\∃n,M2 n x.cond
structure qsS (q:Qry):Prop where
 filts:∀f∈q.filts,GF f
 strat:0<=q.strat/\q.strat< 4
 pat:fy aB q.pat=true
 size:fM q.pat<=256
 l3:(aZ q.pat []).length<=3
 num:dm q.pat<=1000000
abbrev qdG:Spc:=aG (a1 Qry) qsS (enc (X:=Int)) λ_ y=>y=0
theorem qmS{N N2:Nat->Spc}(h0:N dH=EW)(d:N dh=Aq)(b:N2 dL=U1)(h1:S nP=Nu)(h2:S fN=Du N)(h3:S gK=EU)(h4:S ct=s_qlabels)(h5:S aY=U5 N2):
 ak ed dW S (a1 Qry) qsS (enc (X:=Int)) λ_ y=>y=0:=by
 rintro q a;have f1:FunIs N (.clo dH []) (nI aB):=wR h0 λ_=>trivial
 have p:FunIs N (.clo dh []) lF:=wR d λ_=>trivial
 have r:Fk N2 (q.filts, .clo dL [],()):=PW b (λx s=>a.filts x s) λ_ _ y h=>h
 have hp:=a.pat;unfold fy at hp;simp only[qFO]at hp;obtain⟨⟨⟨t,u⟩,w⟩,A⟩:=hp;have j:=a.size;have c:¬256<fM q.pat:=by omega
 have C:=a.l3;have E:¬q.strat< 0:=by have:=a.strat;omega
 have F:¬3<q.strat:=by have:=a.strat;omega
 have k:qe1 q.pat []:=by show 0+dm q.pat<=1000000;have:=a.num;omega
 simp[ed,dW,h1,t,u,h2,E,F,h3,a.pat,j,c,h5,r,-fB',-eB'];refine⟨⟨_,f1⟩,λy h=>⟨λ_=>⟨⟨_,p⟩,λz hz=>⟨by rw[hz _ p,A],λ_=>?_⟩⟩,by rw[h _ f1,w]⟩⟩;simp[h4,-fB',-eB'];refine .inl ⟨k,λl hl _=>?_⟩;have hl:l=aZ q.pat []:=hl;subst hl;omega
theorem qmH{N:Nat->Spc}(h0:N qV=UZ)(h1:S eX=qdG)(h2:S ct=s_qlabels)(h3:S dK=s_leavesQ)(h4:S dz=U2)(h5:S aY=U5 N)(h6:S nO=YN)(w:S eA=YH):
 ak gQ gE S (a2 Qry (List Attr)) (λx=>WK x.2 x.1) (enc (X:=Int)) λ_ y=>y=0:=by
 rintro⟨q,a⟩ b;have b:WK a q:=b;have A:qsS q:=⟨b.filts,b.strat,b.pat,b.size,b.l3,b.num⟩
 have j:qe1 q.pat []:=by show 0+dm q.pat<=1000000;have:=b.num;omega
 have C:(aq q.pat).length<=dm q.pat:=sJ q.pat;have p:qhj q.pat []:=⟨by have:=b.num;simp;omega,λy c=>(b.lv y c).2⟩
 have E:Fk N (q.filts, .clo qV [],()):=PW h0 (λx d=>b.filts x d) λ_ _ y c=>c
 have F:q.glob=GlobE\/ ∃lb,GG lb 2 q.glob:=b.glob.imp id λh=>⟨_,h⟩
 have I:Ht (q.glob,a,aZ q.pat []):=⟨b.att,b.glob.imp id λh=>⟨_,h⟩⟩
 have r:a.length<=1000:=by rw[b.att];decide
 simp[gQ,gE,h1,A,h2,-fB',-eB'];refine .inl ⟨j,λl hl=>?_⟩;have hl:l=aZ q.pat []:=hl;subst hl;simp[h3,-fB',-eB'];refine .inl ⟨p,?_⟩;intro J;refine ah (X:=Unit) [1,2,6,20] [] (bF q.pat).length (λ_ _=>True) (λ_=>[]) (λ_=>[]) () trivial ?_ ?_
 ·rintro k ⟨⟩ hk -;obtain⟨x,d⟩:∃x,(bF q.pat)[k]? =some x:=⟨_,qFH hk⟩
  obtain⟨_,s⟩:=qFG.1 d;have t:=qFK d;obtain⟨y,c,rfl⟩:=qFQ.1 t;have u:WT ((nk y).cond,a,aZ q.pat []):=⟨(b.lv y c).1,r⟩
  simp[hk,d,s,h4,u,-fB',-eB'];exact u
 ·rintro⟨⟩ -;simp[h5,h6,w,E,F,I,-fB',-eB']
end
section
open Go.Proofs
def Lk:CC:=gq Tryz.f21 [] {} _
def Ks:List aj:=[.cell 4 true 13]
def qf1:FO Em [] Lk Ks 30:=fo
def Ck:CC:=gq Tryz.f53 [] {} _
def Bj:List aj:=[.cell 4 true 7]
def VB:FO ue [] Ck Bj 45:=fo
def xQ:CC:=gq Tryz.f20 [2] { bx:=[1,43],cu:=[1] } _
def wI:List aj:=[.tmp 4]
def Ps:FO sT [2] xQ wI 46:=fo
def lY:CC:=gq Tryz.f22 [2006006,2112011,1111111] { cu:=[2,5] } _
def lq:List aj:=[.cell 6 true 11]
def DT:FO fG [2006006,2112011,1111111] lY lq 159:=fo
def tk:CC:=gq Tryz.f23 [] {} _
def sC:List aj:=[.cell 2 true 3]
def KM:FO uP [] tk sC 13:=fo
def vm:CC:=gq Tryz.f8 [1049049,2050007] { bx:=[18],fz:=[(18,1)],cu:=[2,7,9] } _
def uG:List aj:=[.cell 4 true 26]
def MY:FO xg [1049049,2050007] vm uG 52:=fo
open Cod (enc dec)
variable {S S0:Nat->Spc}
def qma(n:Nat)(x:Cond×List B):Prop:=0<n/\CS (n -1) x.1
def qcZ(n:Nat)(x:Pat×List B):Prop:=0<n/\PD (n -1) x.1
def qp5(x:Pat)(l:List B):Prop:=l.length+dm x<=1000000
def QN(n:Nat)(x:List Int×Int×List B):Prop:=x.2.1.toNat<n/\ -10<=x.2.1/\x.2.1<=100/\1<=x.2.2.length/\x.2.2.length<=1000000
def jM{q:Glob->Prop}{H:ab}{op mn mx:Int}{a b n g v:B}{f:Bool}{d e:D}(c:List B)(ks:List Glob)(j:FrzTo H d (enc c))(he:FrzTo H e (enc ks))(h:q ⟨op,a,b,n,g,v,f,mn,mx,c,ks⟩):
 Fin enc q (.agg [.v (.int .i64 op), .v (.string a), .v (.string b), .v (.string n), .v (.string g), .v (.string v), .v (.bool f), .v (.int .i64 mn), .v (.int .i64 mx),d,e]) H:=by
 refine aL (⟨op,a,b,n,g,v,f,mn,mx,c,ks⟩:Glob) ?_ h;rw[P8];refine .agg rfl λk x y l p=>?_
 rcases k with _|_|_|_|_|_|_|_|_|_|_|k;simp_all;simp_all;simp_all;simp_all;simp_all;simp_all;simp_all;simp_all;simp_all;simp_all;simp_all;simp_all
def qaz(p:Pat):∀out,(jW p out).length<=out.length+dm p:=by
 induction p using fg with|_ p b=>?_
 intro out;rw[rQ,cI];split
 ·unfold FG;split
  ·omega
  ·simp
 ·have:∀(ks:List Pat) (o:List B),(∀k∈ks,k∈p.kids)->(ks.foldl (λo k=>jW k o) o).length<=o.length+bu ks:=by
   intro ks
   induction ks with
   |nil=>intro o _;simp[bu]
   | cons k ks a=>
     intro o hk;rw[qGH,bu];have h1:=a (jW k o) λz hz=>hk z (by simp[hz])
     have:=b k (hk k (by simp)) o;omega
  have:=this p.kids out λ_ h=>h
  omega
def JH(ks:List Pat)(k:Nat)(lb:List B):((ks.take k).foldl (λo k=>jW k o) lb).length<=lb.length+bu (ks.take k):=by
 generalize ks.take k=l
 induction l generalizing lb with
 |nil=>simp[bu]
 | cons a l b=>
   rw[qGH,bu];have h1:=b (jW a lb);have h2:=qaz a lb;omega
def qcT(x:Cond×List B)(y:Cond):Prop:=y=Av x.2 x.1
abbrev Io(n:Nat):Spc:=aG (a2 Cond (List B)) (qma n) (enc (X:=Cond)) qcT
theorem Uq(n:Nat)(h1:S ue=Io n):ak Ck Bj S (a2 Cond (List B)) (qma (n+1)) (enc (X:=Cond)) qcT:=by
 rintro⟨c,lb⟩ ⟨_,hc⟩;simp only at hc;have hc:CS n c:=hc;simp[Ck,Bj];intro b2 s;refine⟨λho _=>?_,λho hl=>?_⟩
 ·refine ah (X:=Unit) [2,4,13] [2,4] lb.length (λk _=>∀z∈lb.take k,z≠c.lab) (λ_=>[]) (λ_=>[]) () (by simp) ?_ ?_
  ·rintro k -hk hz;obtain⟨x,b⟩:=aQ hk;obtain⟨_,d⟩:=qFG.1 b;simp[hk,b,d];refine⟨λj=>gH c.kids (.same _) ?_,λj z l=>?_⟩
   ·show Cond.mk _ _ _ _ _ _ _=Av lb c;rw[Jp,my,if_pos ho,if_pos (j ▸aU b)]
   ·rw[av b]at l;rcases qFL.1 l with h|h
    ·exact hz z h
    ·simp at h;subst h;exact j
  ·rintro -hz;rw[qFY]at hz;simp;refine gH [] (.nil _) ?_;show _=Av lb c;rw[my,if_pos ho,if_neg (λh=>hz _ h rfl)];rfl
 ·refine ah (X:=Value×List Cond) [1,2,4,29] [2,4] c.kids.length (λk x=>x.2=(c.kids.take k).map (Av lb)) (λx=>[(7, .own 40 x.1)]) (λx=>[(40, .row x.1 ff 7 (x.2.map enc))]) (.slice none 0 0, []) (by simp) ?_ ?_ (hh:=by simp[isNilRow])
  ·rintro k ⟨v,ks⟩ hk a;simp only at a;obtain⟨x,b⟩:=aQ hk;obtain⟨_,d⟩:=qFG.1 b;obtain⟨m,hm,p⟩:=qsm hc (aU b);have hp:qma n (x,lb):=⟨by omega,by rw[hm];exact p⟩
   simp[hk,b,d,h1,hp];have:=qsl hc;have q:ks.length=k:=by rw[a,qGq,qGc];omega
   refineλy r=>⟨by omega,by omega,λv=> .inl ?_⟩
   obtain rfl:y=Av lb x:=r;rw[a,List.map_map,List.map_take,qGP];simp[b]
  ·rintro⟨v,ks⟩ a;simp only at a;simp;rw[qFY]at a;refine gH ks (fA ff (by simp)) ?_;show _=Av lb c;rw[my,if_neg ho,a]
abbrev FK:Spc:=aG (a2 Cond (List B)) (λx=>∃n,CS n x.1) (enc (X:=Cond)) qcT
def WO(x:Pat×List B)(y:Pat):Prop:=y=nV x.2 x.1
abbrev Sw(n:Nat):Spc:=aG (a2 Pat (List B)) (qcZ n) (enc (X:=Pat)) WO
theorem qfg(n:Nat)(h1:S ue=FK)(h2:S Em=Sw n):ak Lk Ks S (a2 Pat (List B)) (qcZ (n+1)) (enc (X:=Pat)) WO:=by
 rintro⟨p,lb⟩ ⟨_,hp⟩;simp only at hp;have hp:PD n p:=hp;have d:=qnA hp;have q:=qrk hp;simp[Lk,Ks,h1];intro b2 t;refine⟨d,λc hc _=>?_⟩;refine ah (X:=Value×List Pat) [1,2,4,14] [2,4] p.kids.length (λk x=>x.2=(p.kids.take k).map (nV lb)) (λx=>[(5, .own 25 x.1)]) (λx=>[(25, .row x.1 aC 13 (x.2.map enc))]) (.slice none 0 0, []) (by simp) ?_ ?_ (hh:=by simp[isNilRow])
 ·rintro k ⟨v,ks⟩ hk a;simp only at a;obtain⟨x,b⟩:=aQ hk;obtain⟨_,h⟩:=qFG.1 b;obtain⟨m,hm,j⟩:=qrl hp (aU b);have r:qcZ n (x,lb):=⟨by omega,by rw[hm];exact j⟩
  have l:ks.length=k:=by rw[a,qGq,qGc];omega
  simp[hk,b,h,h2,r];refineλy s=>⟨by omega,by omega,λv=> .inl ?_⟩
  obtain rfl:y=nV lb x:=s;rw[a,List.map_map,List.map_take,qGP];simp[b]
 ·rintro⟨v,ks⟩ a;simp only at a;rw[qFY]at a;simp;refine Fa c.kids ks (.same _) (fA aC (by simp)) ?_;show _=nV lb p;rw[ul,<-show c=Av lb p.cond from hc,a,Jp]
abbrev OI:Spc:=aG (a2 Pat (List B)) (λx=>∃n,PD n x.1) (enc (X:=Pat)) WO
abbrev FL:Spc:=aG (aT (a2 Int (List B))) (λx=> -10<=x.2.1/\x.2.1<=100/\x.2.2.length<=1000) (enc (X:=Pat)) QL
def ql8(x:Pat)(l r:List B):Prop:=r=jW x l
abbrev ZA(n:Nat):Spc:=qmu (X:=Pat) (Y:=B) (λx l=>cg x<=n/\qp5 x l) ql8 aw 1
abbrev i_BoundA2:Spc:=qmu (X:=Pat) (Y:=B) qp5 ql8 aw 1
theorem XB(n:Nat)(h1:S sT=ZA n):QI (X:=Pat) (Y:=B) xQ wI S (λx l=>cg x<=n+1/\qp5 x l) ql8 aw 1:=by
 rintro v lb p ⟨t,hl⟩;have hk:∀k∈p.kids,cg k<=n:=λk h=>by have:=fT h;have:cg p<=n+1:=t;omega
 have hl:lb.length+dm p<=1000000:=hl;have u:=cI p;simp[xQ,wI];refine aS (X:=Unit) [1,2] [1] (λ_=>p.op=1->p.lab=E0) (λ_=>[]) (λ_=>[]) ?_ ?_
 ·simp;refine⟨λho=>⟨λhn _=>?_,λh _=>h⟩,λho h=>absurd h ho⟩;refine ah (X:=Unit) [1,2,17] [1] lb.length (λk _=>∀z∈lb.take k,z≠p.lab) (λ_=>[]) (λ_=>[]) () (by simp) ?_ ?_
  ·rintro k -b hz;obtain⟨x,c⟩:=aQ b;obtain⟨_,d⟩:=qFG.1 c;simp[b,c,d];refine⟨λj=>dI lb (by simp) ?_,λj z q=>?_⟩
   ·show lb=jW p lb;rw[rQ,if_pos ⟨ho,hn⟩,FG,if_pos (j ▸aU c)]
   ·rw[av c]at q;rcases qFL.1 q with h|h
    ·exact hz z h
    ·simp at h;subst h;exact j
  ·rintro -hz;rw[qFY]at hz;simp;refine⟨by omega,by omega,λv=>dI (lb++ [p.lab]) (by simp) ?_⟩;show _=jW p lb;rw[rQ,if_pos ⟨ho,hn⟩,FG,if_neg λh=>hz _ h rfl]
 ·rintro -r;simp;intro w;refine ah (X:=Value×List B) [35] [] p.kids.length (λk x=>x.2=(p.kids.take k).foldl (λo k=>jW k o) lb) (λx=>[(1, .own 1 x.1)]) (λx=>[(1, .row x.1 aw 1 (x.2.map enc))]) (v,lb) (by simp) ?_ ?_
  ·rintro k ⟨v,ls⟩ b a;simp only at a;obtain⟨x,c⟩:=aQ b;obtain⟨_,d⟩:=qFG.1 c;have y:qp5 x ls:=by
    have h2:=JH p.kids k lb;have h3:=JH (p.kids.drop k) 1 ls;rw[<-a]at h2;have h4:bu (p.kids.take k) +bu (p.kids.drop k)=bu p.kids:=by rw[<-E1,qGf]
    rw[bw c,bu]at h4;show ls.length+dm x<=_;omega
   have s:=hk x (aU c);simp[b,c,d,h1,y,s];intro v' l' A;obtain rfl:l'=jW x ls:=A;refine .inl ?_;rw[av c,qHG,<-a];rfl
  ·rintro⟨v,ls⟩ a;simp only at a;rw[qFY]at a;simp;refine dI ls (by simp) ?_;show ls=jW p lb;rw[rQ,if_neg λh=>h.2 (r h.1),a]
abbrev qkE:Spc:=qrR (Y:=B) (aE Pat (aD a0)) (λx=>x.2.1= .v (.slice none 0 0)/\qp5 x.1 []) (λx r=>ql8 x.1 [] r) aw 1
theorem XC(h1:S sT=i_BoundA2):TN (Y:=B) xQ wI S (aE Pat (aD a0)) (λx=>x.2.1= .v (.slice none 0 0)/\qp5 x.1 []) (λx r=>ql8 x.1 [] r) aw 1:=by
 rintro⟨p,d,⟨⟩⟩ ⟨j,hl⟩;have j:d= .v (.slice none 0 0):=j;subst j;have hl:0+dm p<=1000000:=hl;have s:=cI p;simp[xQ,wI];refine aS (X:=Unit) [1,2] [] (λ_=>p.op=1->p.lab=E0) (λ_=>[]) (λ_=>[]) ?_ ?_
 ·simp;refine⟨λho=>⟨λhn=>?_,λh _=>h⟩,λho h=>absurd h ho⟩;refine ah (X:=Unit) [1,2] [] 0 (λ_ _=>True) (λ_=>[]) (λ_=>[]) () trivial ?_ ?_
  ·rintro k -b -;exact absurd b (Nat.not_lt_zero _)
  ·rintro - -;simp;refineλv=>dI [p.lab] (by simp) ?_
   show _=jW p [];rw[rQ,if_pos ⟨ho,hn⟩,FG,if_neg (by simp)];rfl
 ·rintro -l;simp;intro t;refine ah (X:=Value×List B) [35] [] p.kids.length (λk x=>x.2=(p.kids.take k).foldl (λo k=>jW k o) []) (λx=>[(1, .own 1 x.1)]) (λx=>[(1, .row x.1 aw 1 (x.2.map enc))]) (.slice none 0 0, []) (by simp) ?_ ?_ (hh:=by simp[isNilRow])
  ·rintro k ⟨v,ls⟩ b a;simp only at a;obtain⟨x,c⟩:=aQ b;obtain⟨_,q⟩:=qFG.1 c;have u:qp5 x ls:=by
    have h2:=JH p.kids k [];have h3:=JH (p.kids.drop k) 1 ls;rw[<-a,qHv]at h2;have h4:bu (p.kids.take k) +bu (p.kids.drop k)=bu p.kids:=by rw[<-E1,qGf]
    rw[bw c,bu]at h4;show ls.length+dm x<=_;omega
   simp[b,c,q,h1,u];intro v' l' w;obtain rfl:l'=jW x ls:=w;refine .inl ?_;rw[av c,qHG,<-a];rfl
  ·rintro⟨v,ls⟩ a;simp only at a;rw[qFY]at a;simp;refine dI ls (by simp) ?_;show ls=jW p [];rw[rQ,if_neg λh=>h.2 (l h.1),a]
abbrev s_Bound2:Spc:=qrn qkE i_BoundA2
def qcV(x:List Int×Int×List B)(y:Glob):Prop:=GG x.2.2 x.2.1.toNat y
def qFB(l:List B)(g:Glob):Prop:=g=GlobE\/GG l 2 g
def qDc{i:Nat}{a:B}(h:[(⟨#[97]⟩:B),⟨#[98,124,99]⟩,⟨#[46]⟩][i]? =some a):a∈qe3:=aU h
def qDb{i:Nat}{a:B}(h:[(⟨#[83]⟩:B),⟨#[78,80]⟩,⟨#[86,80]⟩][i]? =some a):a∈qe2:=aU h
def qDa{i:Nat}{a:B}(h:[(⟨#[111,98,106]⟩:B),⟨#[100,101,116]⟩,⟨#[]⟩][i]? =some a):a∈qaK:=aU h
abbrev Cw(n:Nat):Spc:=aG (aT (a2 Int (List B))) (QN n) (enc (X:=Glob)) qcV
theorem Mw(n:Nat)(h1:S bU=s_m_Next)(h2:S uf=Ar)(h3:S fG=Cw n):ak lY lq S (aT (a2 Int (List B))) (QN (n+1)) (enc (X:=Glob)) qcV:=by
 rintro⟨L,deep,lb⟩ ⟨hn,C,E,b,s⟩;simp only at hn C E b s;simp[lY,lq,h1];intro b6 Q F W;refine aS (X:=Int) [0,1,2,6] [6] (λk=>0<=k/\k< 13/\(deep< 1->k< 10)) (λk=>[(7,enc k)]) (λ_=>[]) ?_ ?_
 ·simp;have:Q.tmod 10=Q % 10:=Int.tmod_eq_emod_of_nonneg F;rw[this];omega
 rintro k ⟨q0,q1,q2⟩;simp[h1];refineλ_=>⟨by omega,λi hi=>⟨by omega,by omega,λa Y _=>⟨by omega,λj hj=>⟨by omega,by omega,λc hc=>?_⟩⟩⟩⟩
 refine aS (X:=Unit) [0,1,2,6,7] [6] (λ_=>11<=k) (λ_=>[]) (λ_=>[]) ?_ ?_
 ·have d:1<=deep->QN n (L,deep -1,lb):=λh=>⟨by show(deep -1).toNat<n;omega,by show -10<=deep -1;omega,by show deep -1<=100;omega,b,s⟩
  have p:a∈lb:=aU Y;have u:c∈lb:=aU hc;have A:1<=deep->deep.toNat=(deep -1).toNat+1:=λh=>by omega
  simp[h1,h2,h3,Sk,X7,nE,tz,-fB'];refine⟨λ_=>jM [] [] (.nil _) (.nil _) (.bound _ a p),λ_=>⟨λ_ y q r=>⟨q,r,λv Z z _ _=>jM [] [] (.nil _) (.nil _) (.val _ a v _ p (qDc Z))⟩,λ_=>⟨λ_ y q r=>⟨q,r,λg I=>jM [] [] (.nil _) (.nil _) (.same _ a c g p u (qo3 I))⟩,λ_=>⟨λ_ y q r=>⟨by simp only[InR];omega,λz J K=>⟨by simp only[InR];omega,jM [] [] (.nil _) (.nil _) (.dist _ a c _ _ p u (by omega) (by omega) (by omega) (by omega))⟩⟩,λ_=>⟨λ_ y q r=>⟨trivial,λt M=>jM [] [] (.nil _) (.nil _) (.reg _ a c t p u M)⟩,λ_=>⟨λ_=>jM [] [] (.nil _) (.nil _) (.head _ 6 a c (.inl rfl) p u),λ_=>⟨λ_=>jM [] [] (.nil _) (.nil _) (.head _ 7 a c (.inr rfl) p u),λ_=>⟨λ_ N y q r=>?_,λ_=>⟨λ_ y q r=>⟨q,r,λt M=>jM [] [] (.nil _) (.nil _) (.node _ a c t p u (qDb M))⟩,λ_=>⟨λ_ y q r z J K=>⟨by simp only[InR];omega,jM [] [] (.nil _) (.nil _) (.depth _ a _ _ p (by omega) (by omega) (by omega) (by omega))⟩,λ_=>⟨λU=>⟨by simp only[InR];omega,d (by omega),λg=>?_⟩,λ_=>by omega⟩⟩⟩⟩⟩⟩⟩⟩⟩⟩⟩
  ·refine rX (X:=Int×Value×List B) [0,6,11] [6] [] [] [] [] (λx=>(0<=x.1/\x.1+x.2.2.length<=2)/\∀z∈x.2.2,z∈qaK) (λx=>[(12,enc x.1)]) (λx=>[(11, .box N [.v (.int .i64 8), .v (.string a), .v (.string c), .v (.string ⟨#[]⟩), .v (.string ⟨#[]⟩), .v (.string ⟨#[]⟩), .v (.bool false), .v (.int .i64 0), .v (.int .i64 0), .own 111 x.2.1, .v (.slice none 0 0)]),(111, .row x.2.1 aw 1 (x.2.2.map enc))]) (λx=>x.1.toNat) (y, .slice none 0 0, []) [11,111] (λ_=>rfl) (by decide) (by decide) ?_ ?_ ?_ ?_
   ·exact⟨⟨q,by simp;omega⟩,by simp⟩
   ·simp
   ·simp[isNilRow];exact .nilown 111
   ·rintro⟨i,v,l⟩ ⟨⟨e1,e2⟩,O⟩;simp only at e1 e2 O;simp[h1,X7,nE,tz];exact⟨λhi z J K=>⟨J,K,λw hw=>⟨by omega,by omega,λv=>⟨by simp only[InR];omega,i -1,v,l++ [w],⟨⟨by omega,by simp;omega⟩,λz hz=>(qFL.1 hz).elim (O z) λh=>by simp at h;subst h;exact qDa hw⟩,⟨rfl, .inl (.inl rfl), .inl (.inl (by simp))⟩,by omega⟩⟩⟩,λhi=>jM l [] (fA aw (by simp)) (.nil _) (.path _ a c l p u (by omega) O)⟩
  ·exactλI=>jM [] [g] (.nil _) (by simp) (by show GG lb deep.toNat _;rw[A (by omega)];exact .not _ _ I)
 ·rintro -hk;have d:QN n (L,deep -1,lb):=⟨by show(deep -1).toNat<n;omega,by show -10<=deep -1;omega,by show deep -1<=100;omega,b,s⟩
  have A:deep.toNat=(deep -1).toNat+1:=by omega
  simp[h3,d];exact⟨by simp only[InR];omega,by simp only[InR];omega,by simp only[InR];omega,λy hy=>⟨by simp only[InR];omega,λz hz=>jM [] [y,z] (.nil _) (by simp) (by show GG lb deep.toNat _;rw[A];exact .two _ _ _ _ (by omega) hy hz)⟩⟩
abbrev As:Spc:=aG (aT (a2 Int (List B))) (λx=>∃n,QN n x) (enc (X:=Glob)) qcV
abbrev LP:Spc:=aG (aT a0) ca (enc (X:=vR)) (λ_ y=>GF y)
def XA(h1:S bU=s_m_Next)(h2:S uf=Ar):ak tk sC S (aT a0) ca (enc (X:=vR)) (λ_ y=>GF y):=by
 rintro⟨L,⟨⟩⟩ -;simp[tk,sC,h1,h2];refineλb y c d=>⟨by simp only[InR];omega,λz h j u k l=>⟨trivial,λt a=>?_⟩⟩
 exact aL (⟨1+y,decide (z=2),t⟩:vR) (by simp) ⟨by show 1+y=1\/1+y=2\/1+y=3;omega,a⟩
def QK(x:List Int×Int)(q:Qry):Prop:=GQ x.2.toNat q
abbrev OJ:Spc:=aG (aT (a1 Int)) (λx=>0<=x.2/\x.2<=5) (enc (X:=Qry)) QK
theorem qbb(h1:S bU=s_m_Next)(h2:S iF=FL)(h3:S sT=s_Bound2)(h4:S Em=OI)(h5:S fG=As)(h6:S uP=LP):
 ak vm uG S (aT (a1 Int)) (λx=>0<=x.2/\x.2<=5) (enc (X:=Qry)) QK:=by
 rintro⟨L,deep⟩ ⟨t,w⟩;simp only at t w;simp[vm,uG,h1];intro b4;refine aS (X:=List B) [0,1,4] [4] (λl=>qmk l/\l.length<=2) (λl=>[(5,enc l)]) (λ_=>[]) ?_ ?_
 ·simp[h1];exactλ_ _ _=>⟨λ_=>⟨[qsA,qtC],⟨λl hl=>by simpa using hl,by simp⟩,by simp[qsA,qtC]⟩,λ_ l hl=>by simp at hl⟩
 rintro lb ⟨A,N⟩;simp[h1,h2];refine⟨⟨by omega,by omega,by omega⟩,λy d b=>?_⟩;have J:WP lb deep.toNat y:=d.1.1;have C:PD deep.toNat y:=d.1.2;have K:dm y<=1000000:=by
  have:=(qc6 _ y J (by omega)).2.2;have h2:2^ (deep.toNat+1)<=64:=Nat.pow_le_pow_right (n:=2) (by omega) (show deep.toNat+1<=6 by omega);omega
 have O:qp5 y []:=by show 0+dm y<=_;omega
 have E:∃n,PD n y:=⟨_,C⟩
 simp[h3,O];refine .inl λl hl=>?_
 have j:l=jW y []:=hl;have Q:l.length<=0+dm y:=by rw[j];exact qaz y []
 simp[h4,E];intro p hp z U W k;have hp:p=nV l y:=hp;have Y:∀g fs s,(g=GlobE\/GG l 2 g)->(fs.length<=1/\∀f∈fs,GF f)->(0<=s/\s< 4)->QK (L,deep) ⟨p,g,fs,s⟩:=by
  intro g fs s q c hs;have r:jW p []=l:=by rw[hp,qls,<-j]
  refine⟨⟨lb,A,by show WP lb deep.toNat p;rw[hp];exact qmA _ _ J⟩,?_,by show g=GlobE\/GG (jW p []) 2 g;rw[r];exact q,c,hs⟩;show ∀y∈aq p,GC (jW p []) 1 y.cond;rw[r,hp,Zs];intro x Z;obtain⟨u,hu,rfl⟩:=qFQ.1 Z;rw[ul];exact qrQ (d.2 u hu)
 refine gc (X:=Glob) [0,4] [4] [] [] (qFB l) (λ_=>[(7, .bptr 7 k 0)]) (λg=>[(7, .box k [.v (.int .i64 p.op), .v (.int .i64 p.cond.op), .v (.string p.cond.name), .v (.string p.cond.arg), .v (.string p.cond.val), .v (.string p.cond.lab), .v (.bool p.cond.fold),enc p.cond.kids, .v (.string p.lab), .v (.string p.reg), .v (.int .i64 p.mn), .v (.int .i64 p.mx),enc p.kids, .v (.int .i64 g.op), .v (.string g.a), .v (.string g.b), .v (.string g.name), .v (.string g.arg), .v (.string g.val), .v (.bool g.fold), .v (.int .i64 g.mn), .v (.int .i64 g.mx),enc g.args,enc g.kids, .v (.slice none 0 0), .v (.int .i64 z)])]) [7] (λ_=>rfl) (by decide) ?_ ?_
 ·simp[h1,h5,-fB'];refineλ_=>⟨λF u M u1=>⟨λ_=>⟨⟨3,by show(2:Int).toNat< 3;decide,by show -10<=(2:Int);decide,by show(2:Int)<=100;decide,F,by show l.length<=1000000;omega⟩,λg q=>⟨g, .inr q, .inl (.inl ⟨rfl,rfl,rfl,rfl,rfl,rfl,rfl,rfl,rfl,rfl,rfl⟩)⟩⟩,λ_=>⟨⟨0,⟨#[]⟩,⟨#[]⟩,⟨#[]⟩,⟨#[]⟩,⟨#[]⟩,false,0,0, [], []⟩, .inl rfl, .inl ⟨rfl,rfl,rfl,rfl,rfl,rfl,rfl,rfl,rfl,rfl,rfl⟩⟩⟩,λ_=>⟨⟨0,⟨#[]⟩,⟨#[]⟩,⟨#[]⟩,⟨#[]⟩,⟨#[]⟩,false,0,0, [], []⟩, .inl rfl, .inl ⟨rfl,rfl,rfl,rfl,rfl,rfl,rfl,rfl,rfl,rfl,rfl⟩⟩⟩
 rintro g q;refine gc (X:=List vR) [4] [4] [49] [] (λfs=>fs.length<=1/\∀f∈fs,GF f) (λ_=>[(7, .bptr 7 k 0)]) (λfs=>[(7, .box k [.v (.int .i64 p.op), .v (.int .i64 p.cond.op), .v (.string p.cond.name), .v (.string p.cond.arg), .v (.string p.cond.val), .v (.string p.cond.lab), .v (.bool p.cond.fold),enc p.cond.kids, .v (.string p.lab), .v (.string p.reg), .v (.int .i64 p.mn), .v (.int .i64 p.mx),enc p.kids, .v (.int .i64 g.op), .v (.string g.a), .v (.string g.b), .v (.string g.name), .v (.string g.arg), .v (.string g.val), .v (.bool g.fold), .v (.int .i64 g.mn), .v (.int .i64 g.mx),enc g.args,enc g.kids,enc fs, .v (.int .i64 z)])]) [7] (λ_=>rfl) (by decide) ?_ ?_
 ·simp[h1];intro u M u1;have ut:u.tdiv 2=u/2:=Int.tdiv_eq_ediv_of_nonneg M;rw[ut];refine⟨by simp only[InR];omega,?_⟩;refine rX (X:=Int×Value×List vR) [0,4,7] [4] [] [] [] [] (λx=>(0<=x.1/\x.1+x.2.2.length<=1)/\∀f∈x.2.2,GF f) (λx=>[(8,enc x.1)]) (λx=>[(7, .box k [.v (.int .i64 p.op), .v (.int .i64 p.cond.op), .v (.string p.cond.name), .v (.string p.cond.arg), .v (.string p.cond.val), .v (.string p.cond.lab), .v (.bool p.cond.fold),enc p.cond.kids, .v (.string p.lab), .v (.string p.reg), .v (.int .i64 p.mn), .v (.int .i64 p.mx),enc p.kids, .v (.int .i64 g.op), .v (.string g.a), .v (.string g.b), .v (.string g.name), .v (.string g.arg), .v (.string g.val), .v (.bool g.fold), .v (.int .i64 g.mn), .v (.int .i64 g.mx),enc g.args,enc g.kids, .own 49 x.2.1, .v (.int .i64 z)]),(49, .row x.2.1 Si 3 (x.2.2.map enc))]) (λx=>x.1.toNat) (u/2, .slice none 0 0, []) [7,49] (λ_=>rfl) (by decide) (by decide) ?_ ?_ ?_ ?_
  ·exact⟨⟨by show 0<=u/2;omega,by simp;omega⟩,by simp⟩
  ·simp
  ·simp[isNilRow];exact .nilown 49
  ·rintro⟨i,v,fs⟩ ⟨⟨e1,e2⟩,I⟩;simp only at e1 e2 I;simp[h6];refine⟨λhi=>⟨trivial,λy d=>⟨by omega,by omega,λv=>⟨by simp only[InR];omega,i -1,v,fs++ [y],⟨⟨by omega,by simp;omega⟩,λz hz=>(qFL.1 hz).elim (I z) λh=>by simp at h;subst h;exact d⟩,⟨rfl, .inl (.inl rfl), .inl (.inl (by simp))⟩,by omega⟩⟩⟩,λhi=>⟨fs,⟨by omega,I⟩, .inl (fA Si (by simp[Mb]))⟩⟩
 ·rintro fs c;simp;exact aL (⟨p,g,fs,z⟩:Qry) (by simp) (Y _ _ _ q c ⟨U,W⟩)
end
section
open Go.Proofs
theorem qn0{lb:List B} :∀n p,WP lb n p->∀out:List B,aZ p out=jW p out:=by
 refine JP λn p hp l out=>?_
 have hk:∀ks:List Pat,(∀k∈ks,k∈p.kids)->∀o:List B,ks.foldl (λo k=>aZ k o) o=ks.foldl (λo k=>jW k o) o:=by
  intro ks
  induction ks with
  |nil=>intro _ o;rfl
  | cons k ks d=>
    intro h o;obtain⟨m,_,_,hi⟩:=l k (h k (by simp));rw[qGH,qGH,hi,d λz hz=>h z (by simp[hz])]
 have c:p.op≠1->p.lab=E0->aZ p out=jW p out:=λh1 h2=>by
  rw[tZ,rQ,tr,if_pos h2,if_neg (λh=>h1 h.1)];exact hk _ (λ_ h=>h) _
 rcases Aa hp with(⟨h1,h2,h3,h4,h5,h6⟩|⟨h1,h2,h3,h4,h5,h6,j⟩)|⟨m,rfl,(⟨h1,h2,h3,h4,h5,h6,a,b,j,_⟩|⟨h1,h2,h3,h4,h5,a,j,_⟩)⟩
 ·rw[tZ,rQ,h6,tr];by_cases h:p.lab=E0
  ·rw[if_pos h,if_neg (λx=>x.2 h)];rfl
  ·rw[if_neg h,if_pos ⟨h1,h⟩];rfl
 ·exact c (by omega) h3
 ·exact c (by omega) h3
 ·exact c (by omega) h3
def qg9{out:List B}{x y:B}(h:y∈out):y∈tr out x:=by
 unfold tr FG;split
 ·exact h
 ·split
  ·exact h
  ·simp[h]
def qg8{out:List B}{x:B}(h:x≠E0):x∈tr out x:=by
 unfold tr FG;rw[if_neg h];split
 ·assumption
 ·simp
def qo7{out:List B}{x:B}(h:out.Nodup):(tr out x).Nodup:=by
 unfold tr FG;split
 ·exact h
 ·split
  ·exact h
  ·rename_i c;rw[qHo];exact⟨h,by simp,λa d b hb=>by simp at hb;subst hb;exactλe=>c (e ▸d)⟩
def qgt(p:Pat):∀(out:List B) (y:B),y∈out->y∈aZ p out:=by
 induction p using fg with|_ p b=>?_
 intro out y h;rw[tZ];have:∀ks:List Pat,(∀k∈ks,k∈p.kids)->∀o:List B,y∈o->y∈ks.foldl (λo k=>aZ k o) o:=by
  intro ks
  induction ks with
  |nil=>intro _ o h;exact h
  |cons k ks a=>intro hk o h;exact a (λz hz=>hk z (by simp[hz])) _ (b k (hk k (by simp)) o y h)
 exact this _ (λ_ h=>h) _ (qg9 h)
def qnZ(p:Pat):∀(out:List B),out.Nodup->(aZ p out).Nodup:=by
 induction p using fg with|_ p b=>?_
 intro out h;rw[tZ];have:∀ks:List Pat,(∀k∈ks,k∈p.kids)->∀o:List B,o.Nodup->(ks.foldl (λo k=>aZ k o) o).Nodup:=by
  intro ks
  induction ks with
  |nil=>intro _ o h;exact h
  |cons k ks a=>intro hk o h;exact a (λz hz=>hk z (by simp[hz])) _ (b k (hk k (by simp)) o h)
 exact this _ (λ_ h=>h) _ (qo7 h)
theorem qgs(p:Pat):∀q∈uL p,q.lab≠E0->∀out:List B,q.lab∈aZ p out:=by
 induction p using fg with|_ p c=>?_
 intro q hq hl out;rw[tZ];have hm:∀ks:List Pat,∀o:List B,q.lab∈o->q.lab∈ks.foldl (λo k=>aZ k o) o:=by
  intro ks
  induction ks with
  |nil=>intro o h;exact h
  |cons k ks a=>intro o h;exact a _ (qgt k o _ h)
 cases p with
 | mk op cond lab reg mn mx ks=>
   rw[uL]at hq;rcases qFP.1 hq with rfl|hq
   ·exact hm _ _ (qg8 hl)
   ·obtain⟨k,hk,hq⟩:=yq hq;have:∀l:List Pat,k∈l->∀o:List B,q.lab∈l.foldl (λo k=>aZ k o) o:=by
     intro l
     induction l with
     |nil=>intro h;cases h
     | cons z l b=>
       intro h o;rw[qGH];rcases qFP.1 h with rfl|h
       ·exact hm _ _ (c k hk q hq hl _)
       ·exact b h _
    exact this _ hk _
def qeg{n:Nat}{q:Qry}(h:GQ n q):aZ q.pat []=jW q.pat []/\(aZ q.pat []).length<=2:=by
 obtain⟨lb,hl,b⟩:=h.lab;have e:=qn0 n q.pat b [];refine⟨e,?_⟩;have hm:∀y∈aZ q.pat [],y=qsA\/y=qtC:=λy a=>by
  rw[e]at a;rcases qoY n q.pat b [] y a with h|h
  ·cases h
  ·exact hl y h
 refine SW (f:=λy=>if y=qsA then 0 else 1) (qnZ q.pat [] qG7) (λy _=>by split<;>omega) λx c y a=>?_
 rcases hm x c with rfl|rfl<;>rcases hm y a with rfl|rfl
 ·exactλ_=>rfl
 ·rw[if_pos rfl,if_neg (by decide)];exactλh=>by cases h
 ·rw[if_neg (by decide),if_pos rfl];exactλh=>by cases h
 ·exactλ_=>rfl
theorem Zl{n:Nat}{c:Corpus}{q:Qry}(hc:TR c)(d:GQ n q)(hn:n<=5):qaT WK c q:=by
 obtain⟨lb,hl,r⟩:=d.lab;have a:fy aB q.pat=true:=qc7 hl qhz n q.pat r (by omega);obtain⟨b,w⟩:=qeg d;obtain⟨_,y,A⟩:=qc6 n q.pat r hn;have h3:(3:Int) ^n<=243:=by
  rcases n with _|_|_|_|_|_|n
  all_goals first|decide|omega
 have h2:2^ (n+1)<=64:=by
  rcases n with _|_|_|_|_|_|n
  all_goals first|decide|omega
 have j:dm q.pat<=1000000:=by omega
 have k:(aZ q.pat []).length<=3:=by omega
 have he:cx qC q.pat=true/\cx lF q.pat=true:=by
  unfold fy at a;simp only[qFO]at a;exact⟨a.1.1.2,a.2⟩
 have u:tt xY q.pat:=vW (P4 q.pat he.1) λq h=>(vX q).1 h
 refine⟨⟨by rw[b];exact d.glob,d.filts.2,d.strat,a,by omega,k,j,hc.ok.1,λx C=>?_⟩,⟨hc.ok.sz,by have:=hc.few;omega,a,k,j,λt J=>?_⟩⟩
 ·have l:=d.cond x C;rw[b,hc.ok.1];exact⟨qrs l (by omega),qry l⟩
 ·intro z hz;refine⟨u z hz,P4 q.pat he.2 z hz,λh=>iq (qgs q.pat z hz h []),λh1 s hs F=>?_⟩;have l:=d.cond z (qgc q.pat u z hz h1);rw[<-b]at l;have I:(Kt c (aZ q.pat []) t).en<=c.toks.length:=by show min t.e (c.toks.length:Int)<=_;omega
  exact qj7 (E:=⟨(Kt c (aZ q.pat []) t).c,s.p,(Kt c (aZ q.pat []) t).lb,WE (Kt c (aZ q.pat []) t) s⟩) ⟨hc.ok,hs.1,by show s.p<(c.toks.length:Int);omega,qeM _ s⟩ l (by decide)
open Cod (enc dec)
variable {S S0:Nat->Spc}
end
section
open Go.Proofs
open Cod (enc dec)
variable {S S0:Nat->Spc}
end
section
open Go.Proofs Cod
variable {dq:Prop}
def qra:TQ dq qV UZ:=
 ac (ag ae) RM (qmQ)
def qnt:TQ dq dL U1:=
 ac (ag (aa iW ae)) AB (qmT rfl)
def qwt:Nat->Spc:=JN [(qV,UZ),(dL,U1)]
def qny:TQ dq cN (qdO qwt):=
 ac (S:=qwt) (ag (aa qra (aa qnt ae))) lE qmZ
def qdR:TQ dq aY (U5 qwt):=
 ac (ag (aa qny ae)) iS (qm0 rfl)
def qrb:TQ dq fF qbT:=
 ac (ag (aa iW ae)) DP (qqz rfl)
def qz1:Nat->Spc:=JN [(fF,qbT)]
def qrd:TQ dq gi (qiN qz1):=
 ac (S:=qz1) (ag (aa qrb ae)) wN qqA
def qre:TQ dq fC (qiQ qz1):=
 ac (ag (aa qrd ae)) tW (qqB rfl)
def qi6:TQ dq gM YG:=
 ac (ag (aa nT (aa ee (aa iW (aa qre (aa FZ ae)))))) wP (qhu (S0:=qz1) rfl rfl rfl rfl rfl rfl)
def YS:∀n,TQ dq eA (qdI n)
 | 0=>bH λx h=>by have:=h.1;have:=NF x.1;omega
 |n+1=>ck (ag (aa qi6 (aa (YS n) ae))) yo (λ_=>qFJ rfl) (qmV n rfl rfl)
def qnu:TQ dq eA YH:=dC (λn=>YS n) (fH (λx h=>⟨qI x.1,qFM _,h⟩))
def qq8:TQ dq qU qdt:=
 ac (ag ae) FT (Ra)
def qdQ:∀n,TQ dq jP (Yt n)
 | 0=>bH λx h=>by have:=h.1;have:=NF x.1;omega
 |n+1=>ck (ag (aa (qdQ n) ae)) KB (λ_=>qFJ rfl) (JZ n rfl)
def qq9:TQ dq jP Yu:=dC (λn=>qdQ n) (fH (λx h=>h))
def qrc:TQ dq eN qdL:=
 ac (ag ae) RN (Rf)
def qz0(n:Nat):Nat->Spc:=JN [(gu,OO n)]
def YT:∀n,TQ dq nN (YL n)
 | 0=>bH λx h=>by have:=h.1.1;have:=NF x.1;omega
 | n+1=>
   have h1:TQ dq gu (OO n):=ac (ag (aa (YT n) ae)) KD (Mr n rfl);have h2:TQ dq eW (qiO (qz0 n)):=ac (S:=qz0 n) (ag (aa h1 ae)) sG tN;have h3:TQ dq dJ (qiR (qz0 n)):=ac (ag (aa h2 ae)) pI (pN rfl)
   ac (ag (aa h3 (aa qrc ae))) Pm (Re (S0:=qz0 n) n rfl rfl rfl)
def qnw:TQ dq nN YM:=dC (λn=>YT n) (fH (λx h=>by obtain⟨⟨n,h1⟩,h2⟩:=h;exact⟨n,h1,h2⟩))
def qnx:TQ dq nO YN:=
 ac (ag (aa qq8 (aa qq9 (aa qnw ae)))) DQ (NU rfl rfl rfl)
def qns:TQ dq eX qdG:=
 ac (ag (aa yL (aa tw (aa AX (aa lc (aa qdR ae)))))) rW (qmS (N:=qha) (N2:=qwt) rfl rfl rfl rfl rfl rfl rfl rfl)
def O0:TQ dq eB (EV WK):=
 ac (ag (aa qns (aa lc (aa wi (aa mi (aa qdR (aa qnx (aa qnu ae)))))))) yp (qmH (N:=qwt) rfl rfl rfl rfl rfl rfl rfl rfl)
def qfS:TQ dq uO (qiv WK):=
 ac (ag (aa O0 (aa UG ae))) KG (qt0 rfl rfl)
def H6:TQ dq iF FL:=
 dC (λn=>AN n) (fH (λx h=>⟨x.2.1.toNat+1,Nat.lt_succ_self _,h⟩))
def LV:∀n,TQ dq ue (Io n)
 | 0=>bH λx h=>absurd h.1 (Nat.not_lt_zero _)
 |n+1=>ck (ag (aa (LV n) ae)) VB (λ_=>qFJ rfl) (Uq n rfl)
def XR:TQ dq ue FK:=
 dC (λn=>LV n) (fH (λx h=>by obtain⟨n,h⟩:=h;exact⟨n+1,Nat.succ_pos _,h⟩))
def YR:∀n,TQ dq Em (Sw n)
 | 0=>bH λx h=>absurd h.1 (Nat.not_lt_zero _)
 |n+1=>ck (ag (aa XR (aa (YR n) ae))) qf1 (λ_=>qFJ rfl) (qfg n rfl rfl)
def qhG:TQ dq Em OI:=
 dC (λn=>YR n) (fH (λx h=>by obtain⟨n,h⟩:=h;exact⟨n+1,Nat.succ_pos _,h⟩))
def SL:∀n,TQ dq sT (ZA n)
 | 0=>pP λd ds H K ⟨id,v,l,a,x,h1,h2,h3,h4,h5⟩=>qb6 h4.1
 |n+1=>AY (ag (aa (SL n) ae)) Ps (by decide) (XB n rfl)
def LF:Tri dq Tryz.prog sT i_BoundA2.pt:=dC (λn=>SL n) λd ds H K ⟨id,v,l,a,x,h1,h2,h3,h4,h5⟩=>⟨cg x,id,v,l,a,x,h1,h2,h3,⟨qFM _,h4⟩,h5⟩
def qfs:Tri dq Tryz.prog sT s_Bound2.pt:=Ob (Ao (ag (aa LF ae)) Ps (λ_=>qFJ rfl) (XC rfl)) LF
def vv:∀n,TQ dq fG (Cw n)
 | 0=>bH λx h=>absurd h.1 (Nat.not_lt_zero _)
 |n+1=>ck (ag (aa de (aa Jz (aa (vv n) ae)))) DT (λ_=>qFJ rfl) (Mw n rfl rfl rfl)
def Fp:TQ dq fG As:=
 dC (λn=>vv n) (fH (λx h=>h))
def MH:TQ dq uP LP:=
 ac (ag (aa de (aa Jz ae))) KM (XA rfl rfl)
def N7:TQ dq xg OJ:=
 ac (ag (aa de (aa H6 (aa qfs (aa qhG (aa Fp (aa MH ae))))))) MY (qbb rfl rfl rfl rfl rfl rfl)
end
section
open Cod (enc dec)
variable {S S0:Nat->Spc}
def qcX(_:D×Unit)(l r:List Span):Prop:=r.length=l.length/\(∀x,x∈r↔x∈l)/\WS r
abbrev OC:Spc:=aG (a2 (List Span) (List Span)) (λ_=>True) enc λx y=>y=decide (x.1=x.2)
def qa0:ak Ey Dv S (a2 (List Span) (List Span)) (λ_=>True) enc λx y=>y=decide (x.1=x.2):=by
 rintro⟨a,b⟩ -;simp[Ey,Dv];intro h1 h2;refine⟨λh3=>?_,λh3 _=>?_⟩
 ·intro e;subst e;omega
 ·have l:a.length=b.length:=by omega
  refine ah (X:=Unit) [0,1] [] a.length (λk _=>a.take k=b.take k) (λ_=>[]) (λ_=>[]) () (by simp) ?_ ?_
  ·intro k _ hk c;simp;refine⟨hk,λx j=>⟨by omega,λy d=>⟨λh=>?_,λh4 h5=>?_⟩⟩⟩
   ·intro e;subst e;rw[j]at d;cases d;simp at h
   ·rw[av j,av d,c,Span.ext' h4 h5]
  ·intro _ c;simp;rw[qGD (by omega),qGD (by omega)]at c;exact c
abbrev OD:Spc:=aG (a2 Span Span) (λ_=>True) enc λx y=>y=decide (C9 x.1 x.2)
def qa1:ak Ez Dw S (a2 Span Span) (λ_=>True) enc λx y=>y=decide (C9 x.1 x.2):=by
 rintro⟨a,b⟩ -;simp[Ez,Dw];unfold C9;refine⟨λh=>⟨λe=>⟨λh1=>by omega,λh1=>by omega⟩,λe h1=>by omega⟩,λh=>by omega⟩
end
section
open Go.Proofs
def ny:CC:=oX [oB 2 (.box aK true (oT 0)),oB 3 (.box aK true (oT 1)),oB 4 (.mv (oN 0))] [2,3] [] (.seq (.regd [oE 5 0 2,oC 6 1 5,oE 7 0 3,oC 8 1 7,oZ 9 cW [oT 6,oT 8],oE 10 1 2,oC 11 1 10,oE 12 1 3,oC 13 1 12] [oZ 14 cW [oT 11,oT 13],oB 15 (.bslice bj 1 [oT 9,oT 14]),oZ 16 mF [oT 15],oA 4 16])
 (.keep [4] [] (.ret)))
def mW:List aj:=[.tmp 4]
def rK:CC:=oX [oB 4 (.mv (.const on))] [0,1] [] (oX [oB 5 (.mv (.const on))] [0,1,5] [19] (.seq (oX [oA 8 0,oB 9 (.len (oT 8)),oB 10 (.mv (oN 0))] [1,5,8,9,10] [19] (gd 0 10 9 11 1 (oX [oB 12 (.iaddr 1 (oT 8) (oT 10)),oC 13 1 12,oA 7 13] [1,5,7,8,9,10] [19] (.reg [oA 14 5,oA 15 7,oA 16 1,oB 17 (.arith .add (oT 15) (oT 16)),oB 18 (.bslice bj 1 [oT 17]),
 oB 19 (.append none bj 1 8 (oT 14) (oT 18)),oA 5 19])) 20)) (.keep [5] [19] (oX [oA 21 5,oA 4 21] [4] [19] (.ret)))))
def qq:List aj:=[.tmp 4]
def rJ:CC:=oX [oB 2 (.box aC true (oT 0)),oB 4 (.mv (.const on))] [1,2] [] (.seq (oX [oE 9 10 2,oC 10 1 9,oB 11 (.eql false false [.int] (oT 10) (oN 0))] [1,2,11] [] (.ite (oT 11) (oX [oB 4 (.mv (.const on))] [4] [35] (.ret)) (.skip))) (.keep [1,2] [] (oX [oE 13 12 2,oC 14 1 13,oB 15 (.iaddr 13 (oT 14) (oN 0)),oD 16 13 15,oZ 17 hU [oT 16],oA 12 17,
 oB 18 (.ext (oT 12) 0),oB 19 (.ext (oT 12) 1),oA 5 18,oA 6 19] [1,2,5,6] [] (.seq (oX [oA 20 5,oA 21 6,oB 22 (.eql true false [.int] (oT 20) (oT 21))] [1,2,5,22] [] (.ite (oT 22) (oX [oA 23 1,oA 4 23] [4] [35] (.ret)) (.skip))) (.keep [1,2,5] [] (oX [oB 7 (.mv (.const on))] [1,2,5,7] [35] (.seq (oX [oE 24 10 2,oC 25 1 24,
 oB 26 (.mv (oN 0))] [1,5,7,25,26] [35] (gd 0 26 25 27 1 (oX [oA 28 26,oA 8 28] [1,5,7,8,25,26] [35] (.reg [oA 29 7,oA 30 1,oA 31 8,oA 32 5,oB 33 (.arith .mul (oT 31) (oT 32)),oZ 34 eC [oT 30,oT 33],oB 35 (.append none bj 1 8 (oT 29) (oT 34)),oA 7 35])) 36)) (.keep [7] [35] (oX [oA 37 7,oZ 38 qK [oT 37]] [7] [35] (oX [oA 39 7,
 oZ 40 gI [oT 39],oA 4 40] [4] [35] (.ret)))))))))))
def qp:List aj:=[.tmp 4]
def bD:CC:=oX [oB 4 (.box aC true (oT 1))] [0,2,4] [0,47] (oX [oE 14 0 4,oC 15 1 14] [0,2,4,15] [0,47] (.block 0 (oX [oB 28 (.eql false false [.int] (oT 15) (oN 1)),oA 27 28] [0,2,4,15,27] [0,47] (.ite (oT 27) (.seq (oX [oA 29 2,oB 30 (.len (oT 29)),oB 31 (.mv (oN 0))] [0,29,30,31] [0,47] (gd 3 31 30 32 4 (oX [oB 33 (.iaddr 1 (oT 29) (oT 31)),
 oC 34 1 33,oA 7 34] [0,7,29,30,31] [0,47] (.regd [oA 35 0,oA 36 0,oG 37 36,oE 38 1 37,oC 39 1 38,oA 40 0,oG 41 40,oE 42 0 41,oC 43 1 42,oA 44 7,oB 45 (.build [oi,oi] [(0,1,oT 43),(1,1,oT 44)]),oB 46 (.bslice aK 2 [oT 45]),oB 47 (.append (some 47) aK 2 16 (oT 39) (oT 46))] [oG 48 35,oE 49 1 48,.op none none (.store (some 0) 1 (oT 49) (oT 47))])) 50))
 (.keep [0] [0,47] (.reg [oA 51 0,oG 52 51,oE 53 0 52,oC 54 1 53,oB 55 (.arith .add (oT 54) (oN 1)),oG 56 51,oE 57 0 56,oF 1 57 55]))) (oX [oB 59 (.eql false false [.int] (oT 15) (oN 4)),oA 58 59] [0,2,4,15,58] [0,47] (.ite (oT 58) (oX [oE 60 12 4,oC 61 1 60,oB 62 (.len (oT 61)),oB 63 (.mv (oN 0))] [0,2,61,62,63] [0,47] (gd 5 63 62 64 6 (oX [oB 65 (.iaddr 13 (oT 61) (oT 63)),
 oD 66 13 65,oB 9 (.alloc aC [oi,oi,oe,oe,oe,oe,ob,on,oe,oe,oi,oi,on]),oF 13 9 66] [0,2,9,61,62,63] [0,9,47] (oX [oA 67 0,oD 68 13 9,oA 69 2,oZ 70 aM [oT 67,oT 68,oT 69]] [0,2,9,61,62,63] [0,9,47] (oX [oD 72 13 9,oZ 73 hU [oT 72],oA 71 73,oB 74 (.ext (oT 71) 0),oB 75 (.ext (oT 71) 1),oA 10 74,oA 11 75] [0,2,10,11,61,62,63] [0,47] (.seq (oX [
 oA 76 10,oA 77 11,oB 78 (.eql true false [.int] (oT 76) (oT 77))] [0,2,10,61,62,63,78] [0,47] (.ite (oT 78) (.reg [oB 2 (.mv (.const on))]) (.skip))) (.keep [0,2,10,61,62,63] [0,47] (.reg [oA 79 2,oA 80 10,oZ 81 eC [oT 79,oT 80],oA 2 81])))))) 82)) (oX [oB 84 (.eql false false [.int] (oT 15) (oN 6)),oA 83 84] [0,2,4,83] [0,47] (.ite (oT 83) (.regd [oA 85 0,oE 86 12 4,
 oC 87 1 86,oB 88 (.iaddr 13 (oT 87) (oN 0)),oD 89 13 88,oD 90 13 4,oA 91 2,oZ 92 iG [oT 90,oT 91]] [oZ 93 aM [oT 85,oT 89,oT 92]]) (oX [oE 16 12 4,oC 17 1 16,oB 18 (.len (oT 17)),oB 19 (.mv (oN 0))] [0,17,18,19] [0,47] (gd 1 19 18 20 2 (oX [oB 21 (.iaddr 13 (oT 17) (oT 19)),oD 22 13 21,
 oB 13 (.alloc aC [oi,oi,oe,oe,oe,oe,ob,on,oe,oe,oi,oi,on]),oF 13 13 22] [0,13,17,18,19] [0,13,47] (.reg [oA 23 0,oD 24 13 13,oZ 25 aM [oT 23,oT 24,.const on]])) 26))))))))))
def bB:List aj:=[]
def rL:CC:=oX [oB 1 (.box aC true (oT 0)),oB 2 (.mv (.const on))] [1] [] (.seq (oX [oD 5 13 1,oZ 6 vN [oT 5],oA 3 6] [1,3] [] (oX [oA 7 3,oB 8 (.cmp .lss (oT 7) (oN 1)),oA 9 8,oI 10 9 (.mv (oT 3)),oI 11 9 (.cmp .gtr (oT 10) (oN 256)),oB 12 (.pick (oT 9) (.const (.bool true)) (oT 11))] [1,12] [] (.ite (oT 12) (oX [
 oB 2 (.mv (.const on))] [2] [] (.ret)) (.skip)))) (.keep [1] [] (MJ 5 (.reg [oB 13 (.build [oi,on] []),oB 14 (.box Ge false (oT 13)),oA 4 14]) (.keep [1,4] [14,47] (oX [oA 15 4,oD 16 13 1,oB 17 (.bslice bj 1 [oN 0]),oZ 18 aM [oT 15,oT 16,oT 17]] [4] [14,47] (oX [oA 19 4,oG 20 19,oE 21 1 20,oC 22 1 21,
 oZ 23 gX [oT 22,.func fV]] [4] [14,47] (oX [oA 24 4,oG 25 24,oE 26 1 25,oC 27 1 26,oZ 28 fl [oT 27],oA 2 28] [2] [47] (.ret))))))))
def qr:List aj:=[.tmp 2]
def kG:CC:=oX [oB 2 (.mv (.const on))] [0] [0] (.seq (oX [oA 6 0,oB 7 (.len (oT 6)),oB 8 (.cmp .lss (oT 7) (oN 2))] [0,8] [0] (.ite (oT 8) (oX [oA 9 0,oA 2 9] [2] [0] (.ret)) (.skip))) (.keep [0] [0] (.seq (oX [oB 3 (.mv (oN 1))] [0,3] [0] (.block 0 (.loop 1 (.seq (oX [oA 10 3,oA 11 0,oB 12 (.len (oT 11)),
 oB 13 (.cmp .lss (oT 10) (oT 12))] [0,3,13] [0] (.ite (oT 13) (.skip) (.exit 0))) (.keep [0,3] [0] (.seq (.block 1 (.seq (.regd [oA 16 0,oA 17 3,oB 18 (.iaddr 1 (oT 16) (oT 17)),oC 19 1 18,oA 20 0,oA 21 3,oB 22 (.arith .sub (oT 21) (oN 1)),oB 23 (.iaddr 1 (oT 20) (oT 22)),oC 24 1 23] [oB 25 (.eql false false [.int] (oT 19) (oT 24))]) (.keep [0,3,25] [0] (.ite (oT 25) (oX [oA 26 0,
 oA 27 3,oB 28 (.slice 1 (oT 26) (some (oT 27)) none),oA 4 28] [0,3,4] [0] (MJ 11 (oX [oB 5 (.mv (oN 1))] [0,3,4,5] [0] (.block 2 (.loop 2 (.seq (oX [oA 29 5,oA 30 4,oB 31 (.len (oT 30)),oB 32 (.cmp .lss (oT 29) (oT 31))] [0,3,4,5,32] [0] (.ite (oT 32) (.skip) (.exit 2))) (.keep [0,3,4,5] [0] (.seq (.block 3 (.seq (.regd [oA 35 4,oA 36 5,oB 37 (.iaddr 1 (oT 35) (oT 36)),oC 38 1 37,
 oA 39 4,oA 40 5,oB 41 (.arith .sub (oT 40) (oN 1)),oB 42 (.iaddr 1 (oT 39) (oT 41)),oC 43 1 42] [oB 44 (.eql true false [.int] (oT 38) (oT 43))]) (.keep [0,3,4,5,44] [0] (.ite (oT 44) (oX [oA 45 0,oA 46 3,oA 47 4,oA 48 5,oB 49 (.iaddr 1 (oT 47) (oT 48)),oC 50 1 49,oB 51 (.iaddr 1 (oT 45) (oT 46)),oF 1 51 50] [0,3,4,5] [0] (.reg [oA 52 3,oB 53 (.arith .add (oT 52) (oN 1)),
 oA 3 53])) (.skip))))) (.keep [0,3,4,5] [0] (.reg [oA 33 5,oB 34 (.arith .add (oT 33) (oN 1)),oA 5 34])))))))) (.keep [0,3] [0] (oX [oA 54 0,oA 55 3,oB 56 (.slice 1 (oT 54) (some (oT 55)) none),.op none none (.clear 1 false [oi] (oT 56))] [0,3] [0] (oX [oA 57 0,oA 58 3,oB 59 (.slice 1 (oT 57) none (some (oT 58))),.frz 59 0,oA 2 59] [2] [0] (.ret)))))) (.skip)))))
 (.keep [0,3] [0] (.reg [oA 14 3,oB 15 (.arith .add (oT 14) (oN 1)),oA 3 15])))))))) (.keep [0] [0] (oX [oA 60 0,oA 2 60] [2] [0] (.ret))))))
def kj:List aj:=[.tmp 2]
def ic:CC:=oX [oB 2 (.mv (.const on))] [0] [0] (.seq (oX [oA 6 0,oB 7 (.len (oT 6)),oB 8 (.cmp .lss (oT 7) (oN 2))] [0,8] [0] (.ite (oT 8) (oX [oA 9 0,oA 2 9] [2] [0] (.ret)) (.skip))) (.keep [0] [0] (.seq (oX [oB 3 (.mv (oN 1))] [0,3] [0] (.block 0 (.loop 1 (.seq (oX [oA 10 3,oA 11 0,oB 12 (.len (oT 11)),
 oB 13 (.cmp .lss (oT 10) (oT 12))] [0,3,13] [0] (.ite (oT 13) (.skip) (.exit 0))) (.keep [0,3] [0] (.seq (.block 1 (.seq (.regd [oA 16 0,oA 17 3,oB 18 (.iaddr 2 (oT 16) (oT 17)),oD 19 2 18,oA 20 0,oA 21 3,oB 22 (.arith .sub (oT 21) (oN 1)),oB 23 (.iaddr 2 (oT 20) (oT 22)),oD 24 2 23] [oB 25 (.eql false true [.int,.int] (oT 19) (oT 24))]) (.keep [0,3,25] [0] (.ite (oT 25) (oX [oA 26 0,
 oA 27 3,oB 28 (.slice 2 (oT 26) (some (oT 27)) none),oA 4 28] [0,3,4] [0] (MJ 11 (oX [oB 5 (.mv (oN 1))] [0,3,4,5] [0] (.block 2 (.loop 2 (.seq (oX [oA 29 5,oA 30 4,oB 31 (.len (oT 30)),oB 32 (.cmp .lss (oT 29) (oT 31))] [0,3,4,5,32] [0] (.ite (oT 32) (.skip) (.exit 2))) (.keep [0,3,4,5] [0] (.seq (.block 3 (.seq (.regd [oA 35 4,oA 36 5,oB 37 (.iaddr 2 (oT 35) (oT 36)),oD 38 2 37,
 oA 39 4,oA 40 5,oB 41 (.arith .sub (oT 40) (oN 1)),oB 42 (.iaddr 2 (oT 39) (oT 41)),oD 43 2 42] [oB 44 (.eql true true [.int,.int] (oT 38) (oT 43))]) (.keep [0,3,4,5,44] [0] (.ite (oT 44) (oX [oA 45 0,oA 46 3,oA 47 4,oA 48 5,oB 49 (.iaddr 2 (oT 47) (oT 48)),oD 50 2 49,oB 51 (.iaddr 2 (oT 45) (oT 46)),oF 2 51 50] [0,3,4,5] [0] (.reg [oA 52 3,oB 53 (.arith .add (oT 52) (oN 1)),
 oA 3 53])) (.skip))))) (.keep [0,3,4,5] [0] (.reg [oA 33 5,oB 34 (.arith .add (oT 33) (oN 1)),oA 5 34])))))))) (.keep [0,3] [0] (oX [oA 54 0,oA 55 3,oB 56 (.slice 2 (oT 54) (some (oT 55)) none),.op none none (.clear 2 true [oi,oi] (oT 56))] [0,3] [0] (oX [oA 57 0,oA 58 3,oB 59 (.slice 2 (oT 57) none (some (oT 58))),.frz 59 0,oA 2 59] [2] [0] (.ret)))))) (.skip)))))
 (.keep [0,3] [0] (.reg [oA 14 3,oB 15 (.arith .add (oT 14) (oN 1)),oA 3 15])))))))) (.keep [0] [0] (oX [oA 60 0,oA 2 60] [2] [0] (.ret))))))
def gV:List aj:=[.tmp 2]
def jz:CC:=oX [oB 4 (.box aC true (oT 0)),oB 8 (.mv (.const on))] [1,2,3,4] [] (.seq (oX [oE 16 0 4,oC 17 1 16] [1,2,3,4,17] [] (.block 0 (oX [oB 19 (.eql false false [.int] (oT 17) (oN 1)),oA 18 19] [1,2,3,4,17,18] [] (.ite (oT 18) (oX [oA 20 3,oA 21 2,oA 22 1,oB 23 (.build [oi,oi] [(0,1,oT 21),(1,1,oT 22)]),oZ 24 vK [oT 20,oT 23],
 oA 8 24] [8] [] (.ret)) (oX [oB 26 (.eql false false [.int] (oT 17) (oN 4)),oA 25 26] [1,2,3,4,17,25] [] (.ite (oT 25) (oX [oE 27 12 4,oC 28 1 27,oB 29 (.len (oT 28)),oB 30 (.mv (oN 0))] [1,2,3,28,29,30] [] (gd 1 30 29 31 2 (oX [oB 32 (.iaddr 13 (oT 28) (oT 30)),oD 33 13 32,oB 10 (.alloc aC [oi,oi,oe,oe,oe,oe,ob,on,oe,oe,oi,oi,on]),
 oF 13 10 33] [1,2,3,10,28,29,30] [10] (oX [oD 34 13 10,oA 35 1,oA 36 2,oA 37 3,oZ 38 iT [oT 34,oT 35,oT 36,oT 37],oA 3 38] [1,2,3,10,28,29,30] [10] (oX [oD 40 13 10,oZ 41 ud [oT 40],oA 39 41,oB 42 (.ext (oT 39) 0),oB 43 (.ext (oT 39) 1),oA 11 42,oA 12 43] [1,2,3,10,11,12,28,29,30] [10] (.seq (oX [oA 44 11,oA 45 12,
 oB 46 (.eql true false [.int] (oT 44) (oT 45))] [1,2,3,10,11,28,29,30,46] [10] (.ite (oT 46) (oX [oA 47 3,oA 8 47] [8] [] (.ret)) (.skip))) (.keep [1,2,3,10,11,28,29,30] [10] (.reg [oA 48 1,oA 49 11,oB 50 (.arith .add (oT 48) (oT 49)),oA 51 2,oD 52 13 10,oZ 53 vL [oT 52],oB 54 (.len (oT 53)),oB 55 (.arith .add (oT 51) (oT 54)),oA 1 50,oA 2 55])))))) 56)) (oX [
 oB 58 (.eql false false [.int] (oT 17) (oN 6)),oA 57 58] [1,2,3,4,57] [] (.ite (oT 57) (oX [oE 60 12 4,oC 61 1 60,oB 62 (.iaddr 13 (oT 61) (oN 0)),oD 63 13 62,oZ 64 ud [oT 63],oA 59 64,oB 65 (.ext (oT 59) 0),oB 66 (.ext (oT 59) 1),oA 13 65,oA 14 66] [1,2,3,4,13,14] [] (oX [oB 15 (.mv (oN 0))] [1,2,3,4,13,14,15] [] (.block 3 (.loop 1 (.seq (oX [oA 67 15,oE 68 10 4,
 oC 69 1 68,oB 70 (.cmp .lss (oT 67) (oT 69)),oA 71 70,oH 72 71 (.mv (oT 15)),oH 73 71 (.eql false false [.int] (oT 72) (oN 0)),oH 74 71 (.mv (oT 73)),oI 75 74 (.mv (oT 13)),oI 76 74 (.mv (oT 14)),oI 77 74 (.eql false false [.int] (oT 75) (oT 76)),oH 78 71 (.pick (oT 74) (.const (.bool true)) (oT 77)),
 oB 79 (.pick (oT 71) (oT 78) (.const ob))] [1,2,3,4,13,14,15,79] [] (.ite (oT 79) (.skip) (.exit 3))) (.keep [1,2,3,4,13,14,15] [] (.seq (.block 4 (.reg [oE 82 12 4,oC 83 1 82,oB 84 (.iaddr 13 (oT 83) (oN 0)),oD 85 13 84,oA 86 1,oA 87 15,oA 88 13,oB 89 (.arith .mul (oT 87) (oT 88)),oB 90 (.arith .add (oT 86) (oT 89)),oA 91 2,oA 92 3,oZ 93 iT [oT 85,oT 90,oT 91,oT 92],
 oA 3 93])) (.keep [1,2,3,4,13,14,15] [] (.reg [oA 80 15,oB 81 (.arith .add (oT 80) (oN 1)),oA 15 81]))))))))) (.skip))))))))) (.keep [3] [] (oX [oA 94 3,oA 8 94] [8] [] (.ret))))
def jg:List aj:=[.tmp 8]
def B2:CC:=oX [oB 1 (.box aC true (oT 0)),oB 2 (.mv (.const on))] [1] [] (.seq (oX [oD 3 13 1,oZ 4 dT [oT 3],oB 5 (.not (oT 4)),oA 6 5,oI 7 6 (.load true 13 (oT 1)),oI 8 6 (.call BP [oT 7]),oI 9 6 (.cmp .gtr (oT 8) (oN 256)),oB 10 (.pick (oT 6) (.const (.bool true)) (oT 9))] [1,10] [] (.ite (oT 10) (oX [oB 2 (.mv (.const on))] [2] [] (.ret))
 (.skip))) (.keep [1] [] (oX [oD 11 13 1,oZ 12 iT [oT 11,oN 0,oN 0,.const on],oA 2 12] [2] [] (.ret))))
def A2:List aj:=[.tmp 2]
def ok_estimate_compare:FO fV [2,3] ny mW 17:=fo
def IV:FO eC [] rK qq 22:=fo
def IU:FO iG [2] rJ qp 41:=fo
def zn:FO aM [4,1047047,2049000,1047047] bD bB 94:=fo
def IW:FO mE [1] rL qr 29:=fo
def CU:FO gI [] kG kj 61:=fo
def zj:FO fl [] ic gV 61:=fo
def Vj:FO iT [4] jz jg 95:=fo
def Vk:FO Ea [1] B2 A2 13:=fo
end
end Go.Gv
