/- W36 -/
import Derived.Test.YtmakafgajmnflaaGreatDoorGf21
set_option linter.all false
set_option maxRecDepth 100000
set_option maxHeartbeats 0
open Bool renaming forall_bool → fB', exists_bool → eB'
namespace Go.Gv
section
open Cod (enc dec)
variable {S S0:Nat->Spc}
theorem Rg(n:Nat)(h1:S iH=qe5 n):aq xn wE S (a1 Pat) (PPat (n+1)) (enc (X:=Int)) λx y=>y=kg x:=by
 rintro p hp;have hk:∀k∈p.kids,PPat n k:=λk=>hp.kid
 have hs:∀k∈p.kids,0<=kg k/\kg k<=1000:=λk h=>qcz (v:=aK) k (hk k h).2
 simp[xn,wE];intro _;refine ah (X:=Int) [1,7] [] p.kids.length (λk n=>n=fH (p.kids.take k) 0) (λn=>[(3,enc n)]) (λ_=>[]) 0 (by simp[fH]) ?_ ?_
 ·rintro k m b a;obtain⟨x,d⟩:=bh b;have c:=aY d;obtain⟨_,j⟩:=qCd.1 d;have hm:=yK (p.kids.take k) 0 (by omega) (by omega) (λy l=>(hs y (qCD l)).1);have h2:=hs x c;rw[<-a]at hm;have q:=hk x c;simp[h1,b,d,j,q];refine⟨by simp only[InR];omega,?_⟩;rw[aB d,YI,<-a,fH,fH]
 ·rintro m a;have hm:=yK (p.kids.take p.kids.length) 0 (by omega) (by omega) (λy l=>(hs y (qCD l)).1);rw[<-a]at hm;rw[qCx]at a;have hn:=(eJ hp.2).2.2;unfold nL at hn;rw[decide_eq_true_eq]at hn;rw[uj,FN,<-a];simp;intro _;refine⟨λh=>λr=>absurd h r,λh0=>⟨λh6=>?_,λh6=>by rw[if_neg h0,if_neg h6]⟩⟩;rw[if_neg h0,if_pos h6];have hn:=hn h6;refine⟨λe=>by rw[if_neg (by omega),if_pos e],λe=>⟨λs=>?_,λs=>?_⟩⟩
  ·have h2:=Cw hm.1 hm.2 (show 0<=p.mn+1 by omega) (show p.mn+1<=17 by omega);rw[if_pos (by omega)];exact⟨by simp only[InR];omega,by simp only[InR];omega,rfl⟩
  ·have h2:=Cw hm.1 hm.2 (show 0<=p.mx by omega) (show p.mx<=16 by omega);rw[if_neg (by omega),if_neg e];exact⟨by simp only[InR];omega,rfl⟩
def Ri(h1:S jk=fQ)(h2:S iH=RQ):aq xq wH S (a1 Pat) (λ_=>True) (enc (X:=Int)) λx y=>y=if fJ aK x then kg x else 0:=by
 rintro p -;simp[xq,wH,h1,h2,-fB'];exact⟨λh1 h2=>absurd (h1.symm.trans h2) (by simp),λh1=>⟨h1,λh2=>absurd (h2.symm.trans h1) (by simp)⟩⟩
def OH(h1:S jk=fQ)(h2:S mD=Vb):aq vz uB S (a1 Pat) (λ_=>True) (qR (Y:=Int) (Z:=Int)) λx y=>y=if fJ aK x then bG x else(0,0):=by
 rintro p -;simp[vz,uB,h1,h2,qR,-fB'];exact⟨λh1 h2=>absurd (h1.symm.trans h2) (by simp),λh1=>⟨h1,λh2=>absurd (h2.symm.trans h1) (by simp)⟩⟩
theorem Oz(n:Nat)(h1:S mD=qah n):aq ia gO S (a1 Pat) (PPat (n+1)) (qR (Y:=Int) (Z:=Int)) λx y=>y=bG x:=by
 rintro p hp;have hk:∀k∈p.kids,PPat n k:=λk=>hp.kid
 have hs:∀k∈p.kids,gG (bG k):=λk h=>vS (v:=aK) k (hk k h).2
 have hn:=(eJ hp.2).2.2;unfold nL at hn;rw[decide_eq_true_eq]at hn;rcases qF (eJ hp.2).1 with⟨ho,_⟩|⟨ho,_⟩|⟨ho,b,ks,a⟩|⟨ho,b,a⟩
 ·simp[ia,gO,h1,ho,Z0 ho]
 ·have:=qeg ho;rcases ho with ho|ho<;>simp[ia,gO,h1,ho,this]
 ·have hc:p.op≠1/\p.op≠2/\p.op≠3/\p.op≠6:=by omega
  have E:=hk b (by rw[a];simp);have c:=hs b (by rw[a];simp);simp[ia,gO,h1,hc,qR,a,E];refine⟨by omega,λ_=>?_⟩;refine ah (X:=Int×Int) [1,69] [] ks.length (λk w=>w=jZ (decide (p.op=4)) (ks.take k) (bG b)/\gG w) (λw=>[(6,enc w.1),(7,enc w.2)]) (λ_=>[]) (bG b) (by simp[jZ,c]) ?_ ?_
  ·rintro k w l ⟨q,d⟩;obtain⟨x,A⟩:=bh l;have s:x∈p.kids:=by rw[a];exact qDU _ (aY A)
   obtain⟨_,F⟩:=qCd.1 A;have L:=hk x s;have C:=hs x s;have key:∀r:Int×Int,r=Lv (decide (p.op=4)) w (bG x)->r=jZ (decide (p.op=4)) (ks.take (k+1)) (bG b)/\gG r:=by
    intro r I;rw[aB A,qca,jZ,jZ,<-q];exact⟨I,by rw[I];exact Z1 d C⟩
   simp[h1,l,A,F,L,qR];clear h1;generalize bG x=u at C key;obtain⟨N,O⟩:=u;obtain⟨Q,U⟩:=w;unfold gG at C d;simp only at C d;clear q;refine⟨λt=>⟨λh4=>⟨by simp only[InR];omega,by simp only[InR];omega,λj=>key _ ?_,λj=>key _ ?_⟩,λh4=>⟨λj=>key _ ?_,λj=>key _ ?_⟩⟩,λt=>⟨λh4=>⟨by simp only[InR];omega,by simp only[InR];omega,key _ ?_⟩,λh4=>key _ ?_⟩⟩
   all_goals clear key
   all_goals (try simp only at t)
   all_goals (try simp only at j)
   all_goals (unfold Lv;simp[h4];try omega)
  ·rintro w ⟨J,_⟩;simp[qR];rw[qef ho a];rw[qCx]at J;rw[<-J]
 ·have E:=hk b (by rw[a];simp);have c:=hs b (by rw[a];simp);have hn:=hn ho;simp[ia,gO,h1,ho,a,E,qR];rw[qee ho a];generalize bG b=w at c;unfold gG at c;have h2:=Cw c.1 c.2.1 hn.1 hn.2.1;refine⟨by simp only[InR];omega,λt=>⟨λj=>by rw[if_pos (.inr j)],λj=>⟨λM=>⟨λK=>?_,λK=>?_⟩,λM=>?_⟩⟩,λt=>by rw[if_pos (.inl t)]⟩
  ·rw[if_neg (by omega),if_pos (by omega)]
  ·have h3:=Cw K c.2.2.2 (show 0<=p.mx by omega) (show p.mx<=16 by omega);refine⟨by simp only[InR];omega,?_⟩;rw[if_neg (by omega),if_neg (by omega)]
  ·rw[if_neg (by omega),if_pos (by omega)]
def FunOnP{X Y:Type}[Cod X][Cod Y](S:Nat->Spc)(d:D)(l:List X)(p:X->Y):Prop:=
 ∃g caps a,d= .clo g caps/\S g= .pure a/\∀x∈l,a.pre (enc x::caps)/\∀r,a.post (enc x::caps) r->r=enc (p x)
def FunOnP.useB{X:Type}[Cod X]{S:Nat->Spc}{d:D}{l:List X}{p:X->Bool}(h:FunOnP S d l p)(x:X)(a:x∈l){k:Nat}{H:ab}{K:D->ab->Prop}(hk:∀y:Bool,(∀q,FunOnP S d l q->y=q x)->K (.v (.bool y)) H):Cb S d k [enc x] H K:=by
 obtain⟨g,caps,A,rfl,h1,h2⟩:=h;simp only[Cb,h1,Spc.pt];refine⟨(h2 x a).1,λr c=>?_⟩;have e:=(h2 x a).2 r c;rw[e];refine hk (p x) λq s=>?_
 obtain⟨C,b,t,u,j,w⟩:=s;cases u;rw[h1]at j;cases j;exact bi (e.symm.trans ((w x a).2 r c))
def FunIs.on{X Y:Type}[Cod X][Cod Y]{S:Nat->Spc}{d:D}{p:X->Y}(h:FunIs S d p)(l:List X):FunOnP S d l p:=by
 obtain⟨g,caps,a,h1,h2,h3⟩:=h;exact⟨g,caps,a,h1,h2,λx _=>h3 x⟩
def IE{X Y:Type}[Cod X][Cod Y]{S:Nat->Spc}{g:Nat}{c:D}{l:List X}{pre:X×D×Unit->Prop}{post:X×D×Unit->Y->Prop}{p:X->Y}(h:S g=aJ (aE X (aD a0)) pre enc post)(hp:∀x∈l,pre (x,c,()))(b:∀x∈l,∀y,post (x,c,()) y->y=p x):FunOnP S (.clo g [c]) l p:=by
 refine⟨g, [c],_,rfl,h,λx a=>⟨⟨(x,c,()),by simp,hp x a⟩,λr d=>?_⟩⟩;obtain⟨y,rfl,j⟩:=d (x,c,()) (by simp) (hp x a);rw[b x a y j]
def qaO(x:Pat):D.agg [D.v (Value.int IntKind.i64 x.op),D.v (Value.int IntKind.i64 x.cond.op),D.v (Value.string x.cond.name),D.v (Value.string x.cond.arg),D.v (Value.string x.cond.val),D.v (Value.string x.cond.lab),D.v (Value.bool x.cond.fold),D.list 7 (List.map enc x.cond.kids),D.v (Value.string x.lab),D.v (Value.string x.reg),D.v (Value.int IntKind.i64 x.mn),D.v (Value.int IntKind.i64 x.mx),D.list 13 (List.map enc x.kids)]=enc x:=by simp
def TT(S0:Nat->Spc)(x:List Pat×D×Unit):Prop:=∃p:Pat->Bool,FunOnP S0 x.2.1 x.1 p
def qiu(S0:Nat->Spc)(x:List Pat×D×Unit)(y:Int):Prop:=∀p:Pat->Bool,FunOnP S0 x.2.1 x.1 p->y=ij x.1 p
abbrev qnp(S0:Nat->Spc):Spc:=aJ (aE (List Pat) (aD a0)) (TT S0) enc (qiu S0)
def uf:aq fg fb S (aE (List Pat) (aD a0)) (TT S) enc (qiu S):=by
 rintro⟨l,d,⟨⟩⟩ ⟨p,hp⟩;simp at hp;simp[fg,fb];intro _;refine ah (X:=Unit) [0,1] [] l.length (λk _=>∀p:Pat->Bool,FunOnP S d l p->∀x∈l.take k,p x=false) (λ_=>[]) (λ_=>[]) () (by simp) ?_ ?_
 ·intro k _ hk c;simp;refine⟨hk,λx j=>?_⟩;rw[qaO x];refine hp.useB x (aY j) λy q=>?_
  simp;refine⟨λh=>?_,λh b a=>?_⟩
  ·intro b a;exact(vZ j (by rw[<-q b a,h]) (c b a)).symm
  ·rw[aB j];intro z hz;rcases qCk.1 hz with hz|hz
   ·exact c b a z hz
   ·simp at hz;subst hz;rw[<-q b a,h]
 ·intro _ c;simp;intro b a;exact(nE (by simpa using c b a)).symm
def qiv(S0:Nat->Spc)(x:List Pat×D×Unit)(y:Bool):Prop:=∀p:Pat->Bool,FunOnP S0 x.2.1 x.1 p->y=x.1.any p
abbrev RX(S0:Nat->Spc):Spc:=aJ (aE (List Pat) (aD a0)) (TT S0) enc (qiv S0)
def rM(h1:S kH=qnp S0):aq dX dQ S (aE (List Pat) (aD a0)) (TT S0) enc (qiv S0):=by
 rintro⟨l,d,⟨⟩⟩ hp;simp[dX,dQ,h1,-fB'];refine⟨hp,λy c b a=>?_⟩;rw[c b a];exact vY b l
abbrev PQ(n:Nat):Spc:=aJ (a2 Pat Int) (λx=>cM x.1<=n/\0<=x.2/\x.2<=101) (enc (X:=Bool)) λx y=>y=bZ x.1 x.2
def qmy(n:Nat)(x:Pat×D×Unit):Prop:=∃d:Int,x.2.1= .cptr [enc d] 0/\cM x.1<=n/\0<=d/\d<=100
def qin(x:Pat×D×Unit)(y:Bool):Prop:=∀d:Int,x.2.1= .cptr [enc d] 0->y=!bZ x.1 (d+1)
abbrev qe6(n:Nat):Spc:=aJ (aE Pat (aD a0)) (qmy n) enc qin
def Fh(n:Nat)(h1:S je=PQ n):aq nh mR S (aE Pat (aD a0)) (qmy n) enc qin:=by
 rintro⟨p,d,⟨⟩⟩ ⟨e,a,h2,h3,h4⟩;simp at a h2;subst a;simp[nh,mR,h1,qin,h2,-fB'];exact⟨by simp only[InR];omega,by omega⟩
def J4(n:Nat)(h0:S0 gd=qe6 n)(h1:S aM=RX S0):aq qU qj S (a2 Pat Int) (λx=>cM x.1<=n+1/\0<=x.2/\x.2<=101) (enc (X:=Bool)) λx y=>y=bZ x.1 x.2:=by
 rintro⟨p,d⟩ ⟨hn,a,b⟩;have hk:∀k∈p.kids,cM k<=n:=λk hk=>by have:=fq hk;have:cM p<=n+1:=hn;omega
 simp only at a b;simp[qU,qj,h1,-fB'];rw[ki];refine⟨λh=>?_,λh=>by rw[decide_eq_false (by omega)];rfl⟩;have j:FunOnP S0 (.clo gd [.cptr [.v (.int .i64 d)] 0]) p.kids λx=>!bZ x (d+1):=
  IE h0 (λx l=>⟨d,rfl,hk x l,a,h⟩) (λx _ y c=>c d rfl)
 refine⟨⟨_,j⟩,λy c=>?_⟩;rw[c _ j,decide_eq_true h,qDE];simp[qEs]
def qmz(S0:Nat->Spc)(n:Nat)(x:Pat×D×Unit):Prop:=∃(d:D) (f:Pat->Bool),x.2.1= .cptr [d] 0/\FunIs S0 d f/\cM x.1<=n
def qip(S0:Nat->Spc)(x:Pat×D×Unit)(y:Bool):Prop:=∀(d:D) (f:Pat->Bool),x.2.1= .cptr [d] 0->FunIs S0 d f->y=!cm f x.1
abbrev qau(S0:Nat->Spc)(n:Nat):Spc:=aJ (aE Pat (aD a0)) (λx=>∃f:Pat->Bool,FunIs S0 x.2.1 f/\cM x.1<=n) enc λx y=>∀f:Pat->Bool,FunIs S0 x.2.1 f->y=cm f x.1
abbrev qfk(S0:Nat->Spc)(n:Nat):Spc:=aJ (aE Pat (aD a0)) (qmz S0 n) enc (qip S0)
def J7(n:Nat)(h1:S gw=qau S0 n):aq qW ql S (aE Pat (aD a0)) (qmz S0 n) enc (qip S0):=by
 rintro⟨p,d,⟨⟩⟩ ⟨e,f,a,h2,h3⟩;simp at a h3;subst a;simp[qW,ql,h1,qip,h3,-fB'];exact⟨⟨f,h2⟩,λy b d g e c=>by subst e;exact b g c⟩
theorem OD{N:Nat->Spc}(n:Nat)(l:∀(d:D) (f:Pat->Bool),FunIs N d f->FunIs S d f)(h0:S0 jh=qfk N n)(h1:S aM=RX S0):aq vw uy S (aE Pat (aD a0)) (λx=>∃f:Pat->Bool,FunIs N x.2.1 f/\cM x.1<=n+1) enc λx y=>∀f:Pat->Bool,FunIs N x.2.1 f->y=cm f x.1:=by
 rintro⟨p,d,⟨⟩⟩ ⟨f,b,hn⟩;have hk:∀k∈p.kids,cM k<=n:=λk hk=>by have:=fq hk;have:cM p<=n+1:=hn;omega
 simp at b;have h:d.kn=true/\d.cells=[d]:=by obtain⟨g,caps,s,rfl,_⟩:=b;exact⟨rfl,rfl⟩
 simp[vw,uy,h1,h,-fB'];rw[qaO p];refine((l d f b).on [p]).useB p (by simp) λy c=>?_
 have c:∀f,FunIs N d f->y=f p:=λf b=>c f ((l d f b).on [p])
 simp[h1,-fB'];refine⟨λq=>?_,λj g a=>by rw[cP,<-c g a,j];rfl⟩;have hO:∀g,FunIs N d g->FunOnP S0 (.clo jh [.cptr [d] 0]) p.kids λx=>!cm g x:=λg a=>
  IE h0 (λx r=>⟨d,g,rfl,a,hk x r⟩) (λx _ y c=>c d g rfl a)
 refine⟨⟨_,hO f b⟩,λz hz g a=>?_⟩;rw[hz _ (hO g a),cP,<-c g a,q,qDE];simp[qEs]
abbrev Mc:Spc:=aJ (a2 Pat Int) (λx=>0<=x.2/\x.2<=101) (enc (X:=Bool)) λx y=>y=bZ x.1 x.2
abbrev FY(N:Nat->Spc):Spc:=aJ (aE Pat (aD a0)) (λx=>∃f:Pat->Bool,FunIs N x.2.1 f) enc λx y=>∀f:Pat->Bool,FunIs N x.2.1 f->y=cm f x.1
abbrev RW:Spc:=aJ (a1 Pat) (λ_=>True) (enc (X:=Bool)) λx y=>y=(bZ x 1 && cm oL x)
def BM{X:Type}[Cod X]{S:Nat->Spc}{g:Nat}{pre:X->Prop}{p:X->Bool}(h:S g=aJ (a1 X) pre enc λx y=>y=p x)(hp:∀x,pre x):FunIs S (.clo g []) p:=by
 refine⟨g, [],_,rfl,h,λx=>⟨⟨x,by simp,hp x⟩,λr a=>?_⟩⟩;obtain⟨y,rfl,b⟩:=a x (by simp) (hp x);rw[b]
def OI{N:Nat->Spc}(h0:N lz=RR)(h1:S je=Mc)(h2:S gw=FY N):aq vA uC S (a1 Pat) (λ_=>True) (enc (X:=Bool)) λx y=>y=(bZ x 1 && cm oL x):=by
 rintro p -;have f1:FunIs N (.clo lz []) oL:=BM h0 λ_=>trivial
 simp[vA,uC,h1,h2,-fB'];refine⟨λh=>⟨⟨_,f1⟩,λy a=>by rw[a _ f1,h];rfl⟩,λh b=>absurd (h.symm.trans b) (by simp)⟩
def OA{N:Nat->Spc}(h0:N fj=FT)(b:N eB=Bd)(h1:S rG=RW)(h2:S gw=FY N):aq vu uw S (a1 Pat) (λ_=>True) (enc (X:=Bool)) λx y=>y=fJ aK x:=by
 rintro p -;have f1:FunIs N (.clo fj []) (nD aK):=BM h0 λ_=>trivial
 have c:FunIs N (.clo eB []) nL:=BM b λ_=>trivial
 simp[vu,uw,h1,h2,-fB'];unfold fJ;refine⟨λh1 h2=>⟨⟨_,f1⟩,λy a=>?_⟩,λh=>?_⟩
 ·have a:=a _ f1;refine⟨λd=>⟨⟨_,c⟩,λz hz=>?_⟩,λj=>?_⟩
  ·rw[hz _ c,h1,h2,<-a,d];rfl
  ·rw[<-a,j];simp
 ·rcases hs:bZ p 1
  ·rfl
  ·rw[h hs];rfl
end
section
mutual
def vQ:Pat->Nat| .mk op _ _ _ mn _ ks=>if ks=[]then 1 else if op=6 then(max 1 mn).toNat*tr ks else tr ks
def tr:List Pat->Nat|[]=>0|k::ks=>vQ k+tr ks
end
def wj(p:Pat):vQ p=if p.kids=[]then 1 else if p.op=6 then(max 1 p.mn).toNat*tr p.kids else tr p.kids:=by cases p;unfold vQ;rfl
def Cu(a b:List Pat):bK (a++b)=bK a+bK b:=by
 induction a with
 |nil=>simp[bK]
 |cons k a c=>simp only[qC8,bK];omega
def Xu(p:Pat):1<=vQ p:=by
 induction p using eb with|_ p a=>?_
 rw[wj];split
 ·omega
 ·rename_i h;have:1<=tr p.kids:=by
   rcases hk:p.kids with _|⟨k,ks⟩
   ·exact absurd hk h
   ·rw[tr];have:=a k (by rw[hk];simp);omega
  split
  ·exact Nat.mul_pos (by omega) this
  ·exact this
theorem qmI{lb:List B} :∀n p,WP lb n p->vQ p<=2^n:=by
 refine Hw λn p hp h=>?_
 rw[wj];rcases xF hp with(⟨h1,h2,h3,h4,h5,h6⟩|⟨h1,h2,h3,h4,h5,h6,c⟩)|⟨m,rfl,(⟨h1,h2,h3,h4,h5,h6,a,b,c,_⟩|⟨h1,h2,h3,h4,h5,a,c,_⟩)⟩
 ·rw[if_pos h6];exact Nat.one_le_two_pow
 ·rw[if_pos c];exact Nat.one_le_two_pow
 ·obtain⟨j,d,_,a1⟩:=h a (by rw[c];simp);obtain⟨l,k,_,a2⟩:=h b (by rw[c];simp);have d:j=m:=by omega
  have k:l=m:=by omega
  subst d;subst k;rw[c,if_neg (by simp),if_neg (by omega),Nat.pow_succ];simp only[tr];omega
 ·obtain⟨j,d,_,a1⟩:=h a (by rw[c];simp);have d:j=m:=by omega
  subst d;rw[c,if_neg (by simp),if_pos h1,Nat.pow_succ];simp only[tr];have:(max 1 p.mn).toNat<=2:=by
   simp[XT]at h5;omega
  have:=qEj this a1;rw[qDC];omega
open Cod (enc dec)
variable {S S0:Nat->Spc}
def qb9{a:Sg}{H:ab}{k j b el n:Nat}{cs cs':List D}(l:j≠k)(hk:H k=some (.box b cs))(hl:cs.length=cs'.length)(hc:∀(m:Nat) (c c':D),cs[m]? =some c->cs'[m]? =some c'->FrzTo bV c c'):
 Wk a H a (ai (ai H k (some (.box b cs'))) j (some (.row (.slice none 0 0) el n []))):=by
 refine X8 (Hf:=bV) id (λt=> .same _) (λi r h=>?_) (λi j r s _ _ e=> .inl e) (λi r h=>by simp_all);by_cases e:i=j
 ·subst e;simp[ai]at h;subst h;exact .inr ⟨rfl,rfl⟩
 ·by_cases d:i=k
  ·subst d;simp[ai,e]at h;subst h;exact .inl ⟨_,hk, .inr ⟨rfl,hl,hc⟩⟩
  ·simp only[ai,e,d,if_false]at h;exact .inl ⟨r,h, .inl rfl⟩
def KB:Nat->Cond->Prop
 | 0,_=>False
 |n+1,x=>x.kids.length<=1000000/\∀k∈x.kids,KB n k
abbrev Vo(n:Nat):Spc:=aJ (a1 Cond) (KB n) (enc (X:=Cond)) λx y=>y=x
theorem LG(n:Nat)(h1:S kN=Vo n):aq sZ sB S (a1 Cond) (KB (n+1)) (enc (X:=Cond)) λx y=>y=x:=by
 rintro⟨op,name,arg,val,lab,fold,kids⟩ ⟨hlen,hk⟩;simp only at hlen hk;simp[sZ,sB];intro b2 p t;refine HR (qb9 (k:=3) (j:=20) (b:=p) (el:=eI) (n:=7) (cs':=[.v (.int .i64 op), .v (.string name), .v (.string arg), .v (.string val), .v (.string lab), .v (.bool fold), .own 20 (.slice none 0 0)]) (by decide) (by rfl) (by simp) ?_) ?_
 ·intro m c c' hc d
  match m with
  | 0|1|2|3|4|5=>simp_all
  | 6=>simp at hc d;subst hc;subst d;exact .nilown _
  |m+7=>simp at hc
 refine ah (X:=Value×List Cond) [2,9] [2] kids.length (λk x=>x.2=kids.take k) (λx=>[(3, .bptr 3 p 0)]) (λx=>[(3, .box p [.v (.int .i64 op), .v (.string name), .v (.string arg), .v (.string val), .v (.string lab), .v (.bool fold), .own 20 x.1]),(20, .row x.1 eI 7 (x.2.map enc))]) (.slice none 0 0, []) (by simp) ?_ ?_
 ·rintro k ⟨v,m⟩ a hm;simp only at hm;obtain⟨x,q⟩:=bh a;obtain⟨_,r⟩:=qCd.1 q;have s:=hk x (aY q);have u:m.length=k:=by grind
  simp[h1,a,q,r,s];refine⟨by omega,by omega,λv=> .inl (.inl ?_)⟩;simp_all [qDg]
 ·rintro⟨v,m⟩ hm;simp only at hm;rw[qCx]at hm;subst hm;simp;refine bF (Y:=Cond) ⟨op,name,arg,val,lab,fold,m⟩ ?_ rfl;simp;refine .agg (by simp) λi c c' h l=>?_
  match i with
  | 0|1|2|3|4|5=>simp at h l;subst h;subst l;exact .same _
  | 6=>simp at h l;subst h;subst l;exact gp eI (by simp)
  |i+7=>simp at h
def qB1{H:ab}{l l':List D}(h:FzL H l l'):FrzTo H (.agg l) (.agg l'):= .agg h.get.1 h.get.2
abbrev PZ:Spc:=aJ (a1 Cond) (λx=>∃n,KB n x) (enc (X:=Cond)) λx y=>y=x
def EO(p:Pat):Pat:=⟨p.op,p.cond,p.lab,⟨#[]⟩,0,0, []⟩
abbrev RT:Spc:=aJ (a1 Pat) (λp=>∃n,KB n p.cond) (enc (X:=Pat)) λx y=>y=EO x
def OE(h1:S kN=PZ):aq vx uz S (a1 Pat) (λp=>∃n,KB n p.cond) (enc (X:=Pat)) λx y=>y=EO x:=by
 rintro p hp;simp[vx,uz,h1,hp];intro b;refine bF (Y:=Pat) (EO p) ?_ rfl;simp[EO,qB1]
def eK(p:Pat):List Pat:=(am p).map EO
def zy(p:Pat):eK p=if p.op=1 then[EO p]else p.kids.flatMap eK:=by
 unfold eK;grind [aQ,List.map_flatMap]
def PLc(p:Pat):Prop:=∀y∈am p,∃n,KB n y.cond
def PLc.kid{p k:Pat}(h:PLc p)(a:¬p.op=1)(hk:k∈p.kids):PLc k:=λy b=>h y (by rw[aQ,if_neg a];grind)
theorem qgi{ks:List Pat}{k:Nat}{x:Pat}(l:List Pat)(a:ks[k]? =some x):(l++ (ks.take k).flatMap eK) ++eK x=l++ (ks.take (k+1)).flatMap eK:=by
 rw[aB a,qEi,List.flatMap_singleton,qDf]
def qlE(x:Pat)(l:List Pat):Prop:=l.length+ (am x).length<=100000000/\PLc x
theorem qn3(ks:List Pat):(ks.flatMap eK).length=(ks.flatMap am).length:=by
 simp[eK]
def qgh{ks:List Pat}{k:Nat}{x:Pat}{l:List Pat}(a:ks[k]? =some x)(h:l.length+ (ks.flatMap am).length<=100000000)(hc:PLc x):qlE x (l++ (ks.take k).flatMap eK):=by
 have:=Y8 a h;grind [qlE,qiE,qn3]
abbrev Qs(n:Nat):Spc:=qiT (X:=Pat) (Y:=Pat) (λx l=>cM x<=n/\qlE x l) (λx l r=>r=l++eK x) aW 13
abbrev i_leavesQA:Spc:=qiT (X:=Pat) (Y:=Pat) (λx l=>qlE x l) (λx l r=>r=l++eK x) aW 13
theorem LE(n:Nat)(h1:S fu=Qs n)(h2:S rF=RT):N6 (X:=Pat) (Y:=Pat) ji iV S (λx l=>cM x<=n+1/\qlE x l) (λx l r=>r=l++eK x) aW 13:=by
 rintro v l p ⟨hp,hl,hc⟩;have hk:∀k∈p.kids,cM k<=n:=λk hk=>by have:=fq hk;omega
 have a:=hl;rw[aQ]at a;simp[ji,iV,h2];refine⟨λh1=>?_,λb _=>?_⟩
 ·have j:∃n,KB n p.cond:=hc p (by simp_all [aQ]);simp[h1]at a;exact⟨j,by omega,by omega,λv=>dw (l++eK p) (by simp[zy,h1]) rfl⟩
 rw[if_neg b]at a;refine ah (X:=Value×List Pat) [16] [] p.kids.length (λk x=>x.2=l++ (p.kids.take k).flatMap eK) (λx=>[(1, .own 1 x.1)]) (λx=>[(1, .row x.1 aW 13 (x.2.map enc))]) (v,l) (by simp) ?_ ?_
 ·rintro k ⟨v,m⟩ c hm;simp only at hm;obtain⟨x,h⟩:=bh c;have d:=aY h;obtain⟨_,q⟩:=qCd.1 h;have s:=qgh h a (hc.kid b d);rw[<-hm]at s;have t:=hk x d;simp[h1,c,h,q,s,t];grind [qgi]
 ·rintro⟨v,m⟩ hm;simp only at hm;rw[qCx]at hm;simp;refine dw m (by simp) ?_;rw[hm,zy,if_neg b]
abbrev qdD:Spc:=qog (Y:=Pat) (aE Pat (aD a0)) (λx=>x.2.1=Qh/\qlE x.1 []) (λx r=>r=eK x.1) aW 13
theorem J5(h1:S fu=i_leavesQA)(h2:S rF=RT):QU (Y:=Pat) ji iV S (aE Pat (aD a0)) (λx=>x.2.1=Qh/\qlE x.1 []) (λx r=>r=eK x.1) aW 13:=by
 rintro⟨p,d,⟨⟩⟩ ⟨j,hl,hc⟩;have j:d=Qh:=j;subst j;have a:([]:List Pat).length+ (am p).length<=100000000:=hl;rw[aQ]at a;simp[ji,iV,h2];refine⟨λh1=>⟨hc p (by simp_all [aQ]),λv=>dw (eK p) (by simp[zy,h1]) rfl⟩,λb _=>?_⟩;rw[if_neg b]at a;refine ah (X:=Value×List Pat) [16] [] p.kids.length (λk x=>x.2=[] ++ (p.kids.take k).flatMap eK) (λx=>[(1, .own 1 x.1)]) (λx=>[(1, .row x.1 aW 13 (x.2.map enc))]) (.slice none 0 0, []) (by simp) ?_ ?_ (hh:=by simp[isNilRow])
 ·rintro k ⟨v,m⟩ c hm;simp only at hm;obtain⟨x,h⟩:=bh c;have l:=aY h;obtain⟨_,q⟩:=qCd.1 h;have s:=qgh h a (hc.kid b l);rw[<-hm]at s;simp[h1,c,h,q,s];grind [qgi]
 simp_all [dw,zy]
abbrev s_leavesQ:Spc:=qnK qdD i_leavesQA
def rk(out:List B)(x:B):List B:=if x=E0 then out else De out x
mutual
def be:Pat->List B->List B
 | .mk op c l r mn mx ks,out=>SI ks (rk out l)
def SI:List Pat->List B->List B
 | [],out=>out
 |k::ks,out=>SI ks (be k out)
end
def JP:∀(l:List Pat) (out:List B),SI l out=l.foldl (λo k=>be k o) out
 | [],out=>by rfl
 |k::l,out=>by rw[SI,JP l];rfl
def rY(p:Pat)(out:List B):be p out=p.kids.foldl (λo k=>be k o) (rk out p.lab):=by
 cases p;rw[be,JP]
def N5(out:List B)(x:B):(rk out x).length<=out.length+1:=by
 grind [rk,De]
theorem qdj(p:Pat):∀out,(be p out).length<=out.length+ff p:=by
 induction p using eb with|_ p a=>?_
 intro out;rw[rY,dv];have:∀(ks:List Pat) (o:List B),(∀k∈ks,k∈p.kids)->(ks.foldl (λo k=>be k o) o).length<=o.length+bK ks:=by
  intro ks
  induction ks<;>grind [bK]
 have h1:=this p.kids (rk out p.lab) λ_ h=>h
 have h2:=N5 out p.lab;omega
def Qp(ks:List Pat)(k:Nat)(lb:List B):((ks.take k).foldl (λo k=>be k o) lb).length<=lb.length+bK (ks.take k):=by
 generalize ks.take k=l
 induction l generalizing lb<;>grind [bK,qdj]
def qgz(l:List B)(x:B):Bool:=l.any λz=>decide (z=x)
theorem Ni{l:List B}{x:B} :qgz l x=true↔x∈l:=by
 unfold qgz;simp
abbrev s_hasE:Spc:=aJ (aE (List B) (a1 B)) (λ_=>True) (enc (X:=Bool)) λx y=>y=qgz x.1 x.2
abbrev qsI:Spc:=qv8 (Y:=B) (a1 B) (λ_=>True) (enc (X:=Bool)) (λx y=>y=qgz x.1 x.2) au 1
def DI(h1:S cO=Mi):aq cE cD S (aE (List B) (a1 B)) (λ_=>True) (enc (X:=Bool)) λx y=>y=qgz x.1 x.2:=by
 rintro⟨l,x⟩ -;simp[cE,cD,h1];exact vY _ l
abbrev s_has2:Spc:=qnK s_hasE qsI
def qd8(x:Pat)(l:List B):Prop:=l.length+ff x<=1000000
def qsV(x:Pat)(l r:List B):Prop:=r=be x l
abbrev Wr(n:Nat):Spc:=qiT (X:=Pat) (Y:=B) (λx l=>cM x<=n/\qd8 x l) qsV au 1
abbrev i_labelsA:Spc:=qiT (X:=Pat) (Y:=B) qd8 qsV au 1
theorem LF(n:Nat)(h0:S aU=s_has2)(h1:S dy=Wr n):N6 (X:=Pat) (Y:=B) jj iW S (λx l=>cM x<=n+1/\qd8 x l) qsV au 1:=by
 rintro v lb p ⟨w,hl⟩;have hk:∀k∈p.kids,cM k<=n:=λk h=>by have:=fq h;omega
 have hl:lb.length+ff p<=1000000:=hl;have q:=dv p;simp[jj,iW,h0];refine bc (X:=Value) [2] [] (λ_=>True) (λv=>[(1, .own 1 v)]) (λv=>[(1, .row v au 1 ((rk lb p.lab).map enc))]) ?_ ?_
 ·simp[h0,-fB'];refine⟨λhn=>?_,λhe=>?_⟩
  ·have hn:¬p.lab=E0:=hn;refine .inr ⟨λy=>⟨by omega,by omega,λv=> .inl ?_⟩,λA=> .inl ?_⟩
   ·rw[rk,if_neg hn,De,if_neg (λh=>by grind [Ni])];simp
   simp_all [rk,De,Ni]
  ·have he:p.lab=E0:=he;simp_all [rk]
 ·rintro v -;have r:=N5 lb p.lab;simp;intro s;refine ah (X:=Value×List B) [23] [] p.kids.length (λk x=>x.2=(p.kids.take k).foldl (λo k=>be k o) (rk lb p.lab)) (λx=>[(1, .own 1 x.1)]) (λx=>[(1, .row x.1 au 1 (x.2.map enc))]) (v,rk lb p.lab) (by simp) ?_ ?_
  ·rintro k ⟨v,ls⟩ b a;simp only at a;obtain⟨x,c⟩:=bh b;obtain⟨_,d⟩:=qCd.1 c;have t:qd8 x ls:=by
    have h2:=Qp p.kids k (rk lb p.lab);rw[<-a]at h2;have h4:bK (p.kids.take k) +bK (p.kids.drop k)=bK p.kids:=by rw[<-Cu,qCM]
    rw[cY c,bK]at h4;show ls.length+ff x<=_;omega
   have j:=hk x (aY c);simp[b,c,d,h1,t,j];intro v' l' u;obtain rfl:l'=be x ls:=u;simp_all [aB]
  ·rintro⟨v,ls⟩ a;simp only at a;rw[qCx]at a;simp;refine dw ls (by simp) ?_;show ls=be p lb;rw[rY,a]
abbrev qg2:Spc:=qog (Y:=B) (aE Pat (aD a0)) (λx=>x.2.1= .v (.slice none 0 0)/\qd8 x.1 []) (λx r=>qsV x.1 [] r) au 1
theorem J6(h0:S aU=s_has2)(h1:S dy=i_labelsA):QU (Y:=B) jj iW S (aE Pat (aD a0)) (λx=>x.2.1= .v (.slice none 0 0)/\qd8 x.1 []) (λx r=>qsV x.1 [] r) au 1:=by
 rintro⟨p,d,⟨⟩⟩ ⟨c,hl⟩;have c:d= .v (.slice none 0 0):=c;subst c;have hl:0+ff p<=1000000:=hl;have s:=dv p;simp[jj,iW,h0];refine bc (X:=Value) [2] [] (λ_=>True) (λv=>[(1, .own 21 v)]) (λv=>[(21, .row v au 1 ((rk [] p.lab).map enc))]) ?_ ?_
 ·simp[h0,-fB'];refine⟨λhn=>?_,λhe=>?_⟩
  ·have hn:¬p.lab=E0:=hn;simp_all [Ni,rk,De]
  ·have he:p.lab=E0:=he;simp_all [rk,isNilRow]
 ·rintro v -;have h:=N5 [] p.lab;simp;intro t;refine ah (X:=Value×List B) [23] [] p.kids.length (λk x=>x.2=(p.kids.take k).foldl (λo k=>be k o) (rk [] p.lab)) (λx=>[(1, .own 21 x.1)]) (λx=>[(21, .row x.1 au 1 (x.2.map enc))]) (v,rk [] p.lab) (by simp) ?_ ?_
  ·rintro k ⟨v,ls⟩ b a;simp only at a;obtain⟨x,j⟩:=bh b;obtain⟨_,l⟩:=qCd.1 j;have u:qd8 x ls:=by
    have h2:=Qp p.kids k (rk [] p.lab);rw[<-a]at h2;have q:(rk [] p.lab).length<=0+1:=h;have h4:bK (p.kids.take k) +bK (p.kids.drop k)=bK p.kids:=by rw[<-Cu,qCM]
    rw[cY j,bK]at h4;show ls.length+ff x<=_;omega
   simp[b,j,l,h1,u];intro v' l' w;obtain rfl:l'=be x ls:=w;simp_all [aB]
  ·rintro⟨v,ls⟩ a;simp only at a;rw[qCx]at a;simp;refine dw ls (by simp) ?_;show ls=be p [];rw[rY,a]
abbrev s_qlabels:Spc:=qnK qg2 i_labelsA
abbrev Be:Spc:=aJ (a1 Pat) (λx=>qd8 x []) (enc (X:=List B)) λx y=>y=if fJ aK x then be x []else[]
def LI(h1:S jk=fQ)(h2:S dy=s_qlabels):aq ta sC S (a1 Pat) (λx=>qd8 x []) (enc (X:=List B)) λx y=>y=if fJ aK x then be x []else[]:=by
 rintro p hp;simp[ta,sC,h1,h2,-fB'];clear h1 h2;exact⟨λh=>bF [] (by simp) (by grind),λh=> .inl ⟨hp,λv l hl=>bF l (gp au (by simp)) (by rw[h];exact hl)⟩⟩
end
section
open Go.Proofs
def Sf{T R:St3->St3->Prop}(h0:∀s,T s s)(h1:∀s t u,T s t->T t u->T s u)(c:∀s t,R s t->T s t):∀{n:Nat} {s t:St3},Pow R n s t->T s t
 | 0,s,t,h=>by cases h;exact h0 s
 |n+1,s,t,⟨u,a,b⟩=>h1 _ _ _ (c _ _ a) (Sf h0 h1 c b)
section
variable {T:St3->St3->Prop}(h0:∀s,T s s)(h1:∀s t u,T s t->T t u->T s u)(r:Rn)
include h0 h1
mutual
def Lr:∀p:Pat,qb (λq=>q.op=1->∀s,T s (Iu r q s)) p->∀s t,nM r p s t->T s t
 | .mk op cond lab reg mn mx ks,h,s,t,a=>by
   have hs:=nA h;have hk:∀k∈ks,qb (λq=>q.op=1->∀s,T s (Iu r q s)) k:=λk hk=>uJ h hk
   rw[nM]at a;split at a
   ·rename_i e;rw[a.2.2];exact hs e s
   ·split at a
    ·rw[a.2];exact h0 s
    ·split at a
     ·exact Xe ks hk s t a
     ·split at a
      ·exact Xf ks hk s t a
      ·exact qhm ks mn mx hk s t a
def Xe:∀ks:List Pat,(∀k∈ks,qb (λq=>q.op=1->∀s,T s (Iu r q s)) k)->∀s t,xE r ks s t->T s t
 | [],_,s,t,h=>by rw[vh]at h;rw[<-h];exact h0 s
 | k::ks,hk,s,t,h=>by
   rw[nH]at h;obtain⟨u,a,b⟩:=h;exact h1 _ _ _ (Lr k (hk k (by simp)) s u a) (Xe ks (λq c=>hk q (by simp[c])) u t b)
def Xf:∀ks:List Pat,(∀k∈ks,qb (λq=>q.op=1->∀s,T s (Iu r q s)) k)->∀s t,An r ks s t->T s t
 | [],_,s,t,h=>by rw[G4]at h;exact h.elim
 | k::ks,hk,s,t,h=>by
   rw[ue]at h;rcases h with h|h
   ·exact Lr k (hk k (by simp)) s t h
   ·exact Xf ks (λq a=>hk q (by simp[a])) s t h
def qhm:∀(ks:List Pat) (mn mx:Int),(∀k∈ks,qb (λq=>q.op=1->∀s,T s (Iu r q s)) k)->∀s t,Of r ks mn mx s t->T s t
 | [],_,_,_,s,t,h=>by rw[Of]at h;exact h.elim
 | k::ks,mn,mx,hk,s,t,h=>by
   rw[Of]at h;obtain⟨u,a,n,_,b⟩:=h;have c:=Lr k (hk k (by simp));exact h1 _ _ _ (Sf h0 h1 c a) (Sf h0 h1 (λs t q=>c s t q.1) b)
end
end
def Fx(n:Nat)(s t:St3):Prop:=∀i,n<=i->i< 3->t.get i=s.get i
def Zn(s:St3)(i j:Nat)(x:Int)(hi:i< 3)(a:j< 3)(h:i≠j):(s.set i x).get j=s.get j:=by
 rcases i with _|_|_|i<;>rcases j with _|_|_|j<;>first|rfl|omega
def qgO{r:Rn}{p:Pat}(hl:r.lb.length<=3)(h:qb (λq=>q.lab≠ll->tq r.lb q.lab=true) p){s t:St3}(j:nM r p s t):Fx r.lb.length s t:=by
 refine Lr (T:=Fx r.lb.length) (λs i _ _=>rfl) (λs t u a b i hi h3=>(b i hi h3).trans (a i hi h3)) r p (yf h λq k _ s i hi h3=>?_) s t j;unfold Iu;dsimp only;split
 ·rcases i with _|_|i<;>rfl
 ·rename_i c;have d:=k c;have h4:=BJ (λz=>decide (z=q.lab)) r.lb;have h5:decide (0<=ij r.lb λz=>decide (z=q.lab))=true:=(vY _ _).trans d;have h6:=of_decide_eq_true h5;have:((s.set (ij r.lb λz=>decide (z=q.lab)).toNat (s.p+1)).get i)=s.get i:=Zn _ _ _ _ (by omega) h3 (by omega);rcases i with _|_|i<;>exact this
def qbP(r:Rn)(s:St3){i:Nat}(hi:i<r.lb.length):(TF r s)[i]? =some (s.get i -1):=by
 unfold TF;rw[qCu,qDD hi];rfl
def qeL{s t:St3}(h:s.p=t.p)(j:∀i,i< 3->s.get i=t.get i):s=t:=by
 obtain⟨a,b,c,d⟩:=s;obtain⟨w,b',c',x⟩:=t;have k:=j 0 (by decide);have l:=j 1 (by decide);have q:=j 2 (by decide);simp only[St3.get]at k l q h;rw[h,k,l,q]
def qlw{r:Rn}{p:Pat}(hl:r.lb.length<=3)(h:qb (λq=>q.lab≠ll->tq r.lb q.lab=true) p){s t u:St3}(h1:nM r p s t)(h2:nM r p s u)(c:t.p=u.p)(d:TF r t=TF r u):t=u:=by
 refine qeL c λi hi=>?_
 by_cases hn:i<r.lb.length
 ·have a:=qbP r t hn;have b:=qbP r u hn;rw[d,b]at a;have:=qCr a;omega
 ·rw[qgO hl h h1 i (by omega) hi,qgO hl h h2 i (by omega) hi]
def qki{m:Nat}{s:St3}(h:X3 m s):qcZ (m+1) s<(m+1) * (m+1) * (m+1) * (m+1):=by
 obtain⟨h1,h2,h3⟩:=h;have a:=h3 0;have b:=h3 1;have c:=h3 2;simp only[St3.get]at a b c;unfold qcZ;have d:s.p.toNat<=m:=by omega
 have l:s.b0.toNat<=m:=by omega
 have q:s.b1.toNat<=m:=by omega
 have A:s.b2.toNat<=m:=by omega
 generalize s.p.toNat=x at*;generalize s.b0.toNat=y at*;generalize s.b1.toNat=z at*;generalize s.b2.toNat=w at*;have j:x* (m+1) +y<(m+1) * (m+1):=by
  have:=qCE (m+1) d;rw[qDj m (m+1)];omega
 have k:(x* (m+1) +y) * (m+1) +z<(m+1) * (m+1) * (m+1):=by
  have:=qCE (m+1) (qEL j);rw[qDj]at this;omega
 have:=qCE (m+1) (qEL k);rw[qDj]at this;omega
def ZA{m a b c d:Nat}(hb:b<m)(j:d<m)(h:a*m+b=c*m+d):a=c/\b=d:=by
 have h1:(a*m+b) /m=a:=by rw[qD2,Nat.mul_add_div (by omega),Nat.div_eq_of_lt hb];omega
 have h2:(c*m+d) /m=c:=by rw[qD2,Nat.mul_add_div (by omega),Nat.div_eq_of_lt j];omega
 rw[h]at h1;have e:a=c:=h1.symm.trans h2;subst e;exact⟨rfl,by omega⟩
def qf1{m:Nat}{s t:St3}(hs:X3 m s)(b:X3 m t)(h:qcZ (m+1) s=qcZ (m+1) t):s=t:=by
 obtain⟨h1,h2,h3⟩:=hs;obtain⟨c,d,a⟩:=b;have a0:=h3 0;have a1:=h3 1;have a2:=h3 2;have b0:=a 0;have b1:=a 1;have b2:=a 2;simp only[St3.get]at a0 a1 a2 b0 b1 b2;unfold qcZ at h;obtain⟨h,j⟩:=ZA (by omega) (by omega) h;obtain⟨h,k⟩:=ZA (by omega) (by omega) h;obtain⟨l,p⟩:=ZA (by omega) (by omega) h;refine qeL (by omega) λi hi=>?_
 rcases i with _|_|_|i
 ·show s.b0=t.b0;omega
 ·show s.b1=t.b1;omega
 ·show s.b2=t.b2;omega
 ·omega
def YF{m:Int}(hm:m<=170){l:List St3}(hn:l.Nodup)(h:∀s∈l,X3 m s):l.length<=1000000000:=by
 by_cases h0:0<=m
 ·obtain⟨k,rfl⟩:∃k:Nat,m=(k:Int):=⟨m.toNat,by omega⟩
  have h1:=Qg (f:=qcZ (k+1)) hn (λx c=>qki (h x c)) λx c y d e=>qf1 (h x c) (h y d) e
  have h2:(k+1) * (k+1)<=171*171:=qEj (by omega) (by omega);have h3:=qEj h2 (show k+1<=171 by omega);have h4:=qEj h3 (show k+1<=171 by omega);omega
 ·cases l with
  |nil=>exact qCC _
  |cons s l=>have:=(h s (by simp));have a:=this.1;have b:=this.2.1;omega
open Cod (enc dec)
variable {S S0:Nat->Spc}
def U3(p:Pat):∀d:Int,bZ p d=true->(cM p:Int) +d<=101:=by
 induction p using eb with|_ p b=>?_
 intro d h;rw[ki]at h;simp only[qCi,decide_eq_true_eq,qCl]at h;rw[Lf];have:∀ks:List Pat,(∀k∈ks,k∈p.kids)->(JI ks:Int) +d<=100:=by
  intro ks
  induction ks with
  |nil=>intro _;rw[JI];have:=h.1;simp;omega
  | cons k ks a=>
    intro hk;have h1:=a λz hz=>hk z (by simp[hz])
    have h2:=b k (hk k (by simp)) (d+1) (h.2 k (hk k (by simp)));rw[JI];omega
 have:=this p.kids λ_ h=>h
 omega
structure qiK (c:Corpus) (p:Pat):Prop where
 sz:qm6 c
 few:c.toks.length<=170
 pat:fJ aK p=true
 l3:(be p []).length<=3
 num:ff p<=1000000
 nd:∀t∈c.texts,qb (qmC (H8 c (be p []) t)) p
def qiA(x:Corpus×Qry×Int):Prop:=qiK x.1 x.2.1.pat/\0<=x.2.2/\x.2.2<x.1.toks.length
def qmv(x:Corpus×Qry×Int)(y:List bY):Prop:=qiI x.1 (be x.2.1.pat []) x.2.1.pat x.2.2 y/\y.length<=1000000000
abbrev qap:Spc:=aJ (a3 Corpus Qry Int) qiA (enc (X:=List bY)) qmv
abbrev b_masg:Spc:=qmq (a1 St3) QW (enc (X:=List Int)) XW
theorem qi6(h1:S sR=P0)(h2:S uW=Be)(h3:S dA=PR 101)(h4:S dB=b_masg)(h5:S nG=YK mO xT):aq rJ rz S (a3 Corpus Qry Int) qiA (enc (X:=List bY)) qmv:=by
 rintro⟨c,q,i⟩ ⟨w,C,M⟩;have w:qiK c q.pat:=w;have C:0<=i:=C;have M:i<c.toks.length:=M;have hPb:qd8 q.pat []:=by show 0+ff q.pat<=1000000;have:=w.num;omega
 have hfew:=w.few;have htl:(c.toks.length:Int)<=9223372036854775807:=by omega
 rcases qex (c:=c) (i:=i)with⟨N,A⟩|⟨k,t,N,A,k3⟩
 ·simp[rJ,rz,h1,N,-fB',-eB'];refine bF [] (.nil _) ⟨⟨List.Pairwise.nil,λm=>⟨λh=>(by cases h),?_⟩⟩,qCC _⟩;rintro⟨e,_,_,t,ht,_⟩;have e:m.b=i:=e;rw[e,A]at ht;cases ht
 ·have hkl:k<c.texts.length:=(qCd.1 A).1;obtain⟨_,O⟩:=qCd.1 A;have hkn:¬(k:Int)< 0:=by omega
  simp[rJ,rz,h1,N,hkn,hkl,A,O,h2,hPb,w.pat,htl,-fB',-eB'];intro b8;refine fE (X:=Nat×Value) [2,4] [] [] [(990,34)] (λ_=>True) (λx=>[(9, .bptr 36 x.1 0)]) (λx=>[(36, .box x.1 (mL (H8 c (be q.pat []) t) (.own 990 x.2))),(990, .mrow x.2 [])]) [36,990] (λ_=>rfl) (by decide) ?_ ?_
  ·simp[h2,hPb,w.pat,htl,-fB',-eB'];refineλx b=>⟨b, .same _,x, .inl (.inr ⟨rfl,rfl,λm y z h6 h7=>?_⟩), .inl (.inl rfl)⟩
   rcases m with _|_|_|_|_|_|_|_|_|_|_|m
   all_goals first|(cases h6;cases h7;exact .same _)|(cases h6;cases h7;exact .own _ _ _)|(simp at h6)
  rintro⟨b,v⟩ -;have htm:t∈c.texts:=qCg A;have htb:t.b<=i/\i<t.e:=by
   have:=List.find?_some k3;simpa using this
  generalize Q:H8 c (be q.pat []) t=r;have E:i<=r.en/\r.en<=170:=by
   rw[<-Q];show i<=min t.e (c.toks.length:Int)/\min t.e (c.toks.length:Int)<=170;omega
  have hlb:r.lb=be q.pat []:=by rw[<-Q];rfl
  have hnd:qb (qmC r) q.pat:=by rw[<-Q];exact w.nd t htm
  have U:r.lb.length<=3:=by rw[hlb];exact w.l3
  have W:X3 r.en (qcu i):=⟨C,E.1,λj=>by rcases j with _|_|j<;>exact⟨qDe _,by show(0:Int)<=r.en;omega⟩⟩
  have hRok:qlA r:=⟨U,by rw[<-Q];exact w.sz,by omega⟩
  have hdep:cM q.pat<=101:=by
   have hp:=w.pat;unfold fJ at hp;simp only[qCi]at hp;have:=U3 q.pat 1 hp.1.1.1;omega
  have hQ:∀m,m.b=i/\qiH c (be q.pat []) q.pat m↔ ∃s,nM r q.pat (qcu i) s/\i<s.p/\m=⟨i,s.p,TF r s⟩:=λm=>by
   constructor
   ·rintro⟨rfl,_,_,t',ht',s,hs,h1,h2,h3⟩;rw[k3]at ht';cases ht';rw[Q]at hs h3;refine⟨s,hs,h1,?_⟩;obtain⟨mb,me,ml⟩:=m;simp only at h2 h3 ⊢;rw[h2,h3]
   ·rintro⟨s,hs,h1,rfl⟩;exact⟨rfl,C,M,t,k3,s,by rw[Q];exact hs,h1,rfl,by rw[Q]⟩
  simp[h3,D4,F7,-fB',-eB'];refine⟨⟨hRok,λe he=>(by cases he),W,q.pat,⟨_,_,rfl,qCh rfl,by simp⟩,hdep,hnd⟩,λv2 es2 F Y b2=>?_⟩;have d:=Y.2.2 q.pat ⟨_,_,rfl,qCh rfl,by simp⟩;have J:=Y.2.1;clear Y;replace d:∀t,t∈F↔nM r q.pat (qcu i) t:=d;refine ms (X:=Value×List bY×List D×List St3) [2,9,42] [36,990] (λx=>x.2.1.Nodup/\(∀s∈x.2.2.2,s∈F)/\x.2.2.2.Nodup/\(∀m∈x.2.1,∃s∈F,s∉x.2.2.2/\i<s.p/\m=⟨i,s.p,TF r s⟩)/\(∀s∈F,s∈x.2.2.2\/(i<s.p->(⟨i,s.p,TF r s⟩:bY) ∈x.2.1))/\x.2.1.length+x.2.2.2.length<=F.length)
   (λx=>[(10, .own 60 x.1)]) (λx=>[(42, .miter b2 x.2.2.1 (bB x.2.2.2)),(60, .row x.1 xT 3 (x.2.1.map enc))]) (λx=>x.2.2.2.length) (.slice none 0 0, [], [],F)
   ⟨qDS,λ_ h=>h,J,λ_ h=>(by cases h),λ_ h=> .inl h,by simp⟩ (by simp) (by simp[isNilRow]) ?_
  rintro⟨v3,out,cur,left⟩ ⟨g1,g2,g3,g4,g5,g6⟩;simp only at g1 g2 g3 g4 g5 g6;have hyl:=YF E.2 J λs hs=>zz r q.pat _ _ ((d s).1 hs) W
  simp[-fB',-eB'];refine⟨λh0=>?_,λl1 x l2 hsp=>?_⟩
  ·have hlz:=fV h0;subst hlz;simp[h5,-fB',-eB'];refine⟨⟨rfl,by simp at g6;omega,g1⟩,λl' Z=>bF l' (gp xT (by simp[ai])) ⟨⟨Z.1,λm=>?_⟩,by rw[Z.2.1];show out.length<=_;simp at g6;omega⟩⟩;rw[Z.2.2 m,hQ];constructor
   ·intro hm;obtain⟨s,h1,_,h2,h3⟩:=g4 m hm;exact⟨s,(d s).1 h1,h2,h3⟩
   ·rintro⟨s,h1,h2,rfl⟩;exact(g5 s ((d s).2 h1)).elim (λh=>by cases h) λh=>h h2
  ·obtain⟨a,s,c2,rfl,rfl,rfl,rfl⟩:=ip hsp;simp[h4,VJ,-fB',-eB'];have hsy:s∈F:=g2 s (by simp);have K:∀x∈a++c2,x∈F:=λx h=>g2 x (by simp only[qCk,qCm]at h ⊢;rcases h with h|h<;>simp[h])
   have l:(a++c2).Nodup/\s∉a++c2:=by
    obtain⟨n1,n2,n3⟩:=qDP.1 g3;have n4:=qEv.1 n2;refine⟨qDP.2 ⟨n1,n4.2,λx hx y hy=>n3 x hx y (by simp[hy])⟩,λh=>?_⟩;rcases qCk.1 h with h|h
    ·exact n3 s h s (by simp) rfl
    ·exact n4.1 h
   have L:∀m∈out,∃u∈F,u∉a++c2/\i<u.p/\m=(⟨i,u.p,TF r u⟩:bY):=λm hm=>by
    obtain⟨u,N,A,k3,k4⟩:=g4 m hm;exact⟨u,N,λh=>A (by simp only[qCk,qCm]at h ⊢;rcases h with h|h<;>simp[h]),k3,k4⟩
   simp only[qCJ,qCZ]at g6;have I:=zz r q.pat _ _ ((d s).1 hsy) W;have hsOk:qs0 s:=⟨I.1,by have:=I.2.1;have:=E.2;omega,λj=>⟨(I.2.2 j).1,by have:=(I.2.2 j).2;have:=E.2;omega⟩⟩
   have hPa:QW (.cptr (mL r (.own 990 v2)) 0,s):=⟨⟨r,_,rfl,U⟩,hsOk⟩
   refine⟨λO=>⟨hPa,λz hz=>?_⟩,λhle=>?_⟩
   ·obtain rfl:=hz r _ rfl;refine⟨by omega,by omega,λv4=>⟨v4,out++ [⟨i,s.p,TF r s⟩],_,a++c2,⟨?_,K,l.1,λm hm=>?_,λu hu=>?_,by simp;omega⟩,⟨rfl, .inl ⟨rfl,(iT a c2).symm⟩, .inl ⟨rfl,by simp⟩⟩,by simp⟩⟩
    ·rw[qDP];refine⟨g1,by simp,λm hm m' hm' e=>?_⟩;simp at hm';subst hm';obtain⟨u,N,A,_,k4⟩:=g4 m hm;rw[e]at k4;injection k4 with _ e1 e2;have:s=u:=qlw U (yf hnd λq h=>h.lab) ((d s).1 hsy) ((d u).1 N) e1 e2;subst this;exact A (by simp)
    ·rcases qCk.1 hm with hm|hm
     ·exact L m hm
     ·simp at hm;exact⟨s,hsy,l.2,O,hm⟩
    ·rcases g5 u hu with h|h
     ·rcases qCk.1 h with h|h
      ·exact .inl (by simp[h])
      ·rcases qCm.1 h with rfl|h
       ·exact .inr λ_=>by simp
       ·exact .inl (by simp[h])
     ·exact .inr λhp=>List.mem_append_left _ (h hp)
   ·refine⟨v3,out,_,a++c2,⟨g1,K,l.1,L,λu hu=>?_,by simp;omega⟩,⟨rfl, .inl ⟨rfl,(iT a c2).symm⟩, .inl ⟨rfl,rfl⟩⟩,by simp⟩;rcases g5 u hu with h|h
    ·rcases qCk.1 h with h|h
     ·exact .inl (by simp[h])
     ·rcases qCm.1 h with rfl|h
      ·exact .inr λhp=>absurd hp (by omega)
      ·exact .inl (by simp[h])
    ·exact .inr h
structure qB6 (a:List Attr) (q:Qry):Prop where
 glob:q.glob=GlobE
 filts:q.filts=[]
 strat:q.strat=0
 pat:fJ aK q.pat=true
 size:kg q.pat<=256
 l3:(be q.pat []).length<=3
 num:ff q.pat<=1000000
 att:a.length<=1000
 lv:∀x∈am q.pat,qka a (be q.pat []) x.cond=true/\∃n,KB n x.cond
abbrev qal(V:List Attr->Qry->Prop):Spc:=aJ (a2 Qry (List Attr)) (λx=>V x.2 x.1) (enc (X:=Int)) λ_ y=>y=0
structure X1 (V:List Attr->Qry->Prop) (c:Corpus) (q:Qry):Prop where
 v:V c.attrs q
 f:qiK c q.pat
def qsU(x:Corpus×Qry)(y:List bY×Int):Prop:=(y.2=0/\qs6 x.1 (be x.2.pat []) x.2.pat y.1/\y.1.length<=4096)\/(y.2=2/\y.1=[]/\∃k l,qd0 x.1 (be x.2.pat []) x.2.pat k l/\4096<l.length)
abbrev qfe(V:List Attr->Qry->Prop):Spc:=aJ (a2 Corpus Qry) (λx=>X1 V x.1 x.2) (qR (Y:=List bY) (Z:=Int)) qsU
theorem qqv{V:List Attr->Qry->Prop}(h1:S qL=qal V)(h2:S zP=qap):aq qZ qq S (a2 Corpus Qry) (λx=>X1 V x.1 x.2) (qR (Y:=List bY) (Z:=Int)) qsU:=by
 rintro⟨c,q⟩ a;have a:X1 V c q:=a;have u:V c.attrs q:=a.v;have t:=a.f.few;have p:(c.toks.length:Int)<=9223372036854775807:=by omega
 simp[qZ,qq,h1,u,p,-fB',-eB'];refine ah (X:=Value×List bY) [2,3] [] c.toks.length (λk x=>qd0 c (be q.pat []) q.pat k x.2/\x.2.length<=4096) (λx=>[(7, .own 27 x.1)]) (λx=>[(27, .row x.1 xT 3 (x.2.map enc))]) (.slice none 0 0, []) ⟨qdl _ _ _,by simp⟩ ?_ ?_ (hh:=by simp[isNilRow])
 ·rintro k ⟨v,l⟩ hk ⟨b,j⟩;simp only at b j;have r:qiA (c,q,(k:Int)):=⟨a.f,by show(0:Int)<=k;omega,by show(k:Int)<c.toks.length;omega⟩
  simp[h2,r,-fB',-eB'];rintro y ⟨s,w⟩;have d:=qdm b s;exact⟨by omega,by omega,λv' A=>⟨λh=> .inr ⟨rfl,rfl,_,_,d,by simp;omega⟩,λh=>⟨v',l++y,⟨d,by simp;omega⟩,rfl, .inl ⟨rfl,by simp⟩⟩⟩⟩
 ·rintro⟨v,l⟩ ⟨b,j⟩;simp only at b j;simp[-fB',-eB'];exact⟨l,gp xT (by simp[ai]), .inl ⟨rfl,qgr b,j⟩⟩

end
section

open Go.Proofs
open Cod (enc dec)
variable {S S0:Nat->Spc}



end
section
open Go.Proofs
open Cod (enc dec)
variable {S S0:Nat->Spc}

end
section
open Cod (enc dec)
variable {dq:Prop}
def qgU{ds:List D}(h:∀d∈ds,X4 d):X4 (.agg ds):=λtp I b l w w' x j=>by
 cases j with
 |agg xs _ hl a hk=>exact .agg xs _ hl a λk y c h1 h2=>h c (qCg h2) _ _ _ _ _ _ _ (hk k y c h1 h2)
section
variable {X Y:Type}[Cod Y]
theorem UG{P:Program}{f:Nat}{A:dN X}{pre:D×X->Prop}{post:D×X->List Y->Prop}{el n:Nat}(hn:n=Cod.wd Y)(hf:Tri dq P f (qog (Y:=Y) (aD A) pre post el n).pt)(L:∀y:Y,∀c∈ (enc y).cells,X4 c):Tri dq P f (qmq A pre (enc (X:=List Y)) post).pt:=by
 intro O tp w vs ds H d K hO htl a hlen C hA;obtain⟨id,F,cells,U,x,rfl,hd,hid,hp,hK⟩:=hA;cases vs with
 |nil=>simp at hlen
 | cons v0 vs=>
   have hv0:v0= .pointer (some ⟨F,0,none⟩):=by
    have:=C 0 v0 (.bptr id F 0) rfl rfl;cases this;rfl
   subst hv0
   let W:Nat->Prop:=λb=>O b\/ ∃i r,i≠id/\H i=some r/\r.blk=some b
   have Z:∀b,aN O tp H w b->aN W tp bV w b:=λb hb=>⟨hb.1,λh=>h.elim hb.2.1 λ⟨i,r,_,h1,h2⟩=>hb.2.2.2 ⟨i,r,h1,h2⟩,hb.2.2.1,λ⟨i,r,h1,_⟩=>by simp at h1⟩
   have hmv:∀y e,R tp (aN O tp H w) w y e->R tp (aN W tp bV w) w y e:=λy e hr=>hr.mono (λ_ h=>h) (λb hb=>⟨Z b hb,rfl⟩) (λb _=> .refl _ _)
   have hl:R tp (aN W tp bV w) w (.pointer (some ⟨F,0,none⟩)) (.cptr cells 0):=by
    have M:(Res.box F cells).blk=some F:=rfl;have h1:=a.out id _ F hid M;have hI:aN W tp bV w F:=⟨(a.ok id _ hid).lt M,λh=>h.elim h1.1 λ⟨i,r,hne,h2,h3⟩=>hne (a.dis _ _ _ _ F h2 hid h3 M),h1.2,λ⟨i,r,h2,_⟩=>by simp at h2⟩
    obtain⟨xs,el,g1,g2,g3⟩:=(a.ok id _ hid).conv hmv (λ_ _=>rfl);obtain⟨f,k1,k2,k3⟩:=rj g1 g2 g3;have:=R.cptr (tp:=tp) F 0 cells 0 f hI (λ_=>⟨_,_,g1⟩) k1 k2 k3;simpa using this
   have hdec:(aD A).dec (.cptr cells 0::U)=some (.cptr cells 0,x):=by simp[hd]
   obtain⟨N,hc⟩:=hf W tp w (.pointer (some ⟨F,0,none⟩)::vs) (.cptr cells 0::U) bV d (λr H'=>∃v l,r= .own d v/\post (.cptr cells 0,x) l/\H'=ai bV d (some (.row v el n (l.map enc))))
    (λb hb=>hb.elim (hO b) λ⟨i,r,_,h1,h2⟩=>(a.ok i r h1).lt h2) (htl.mono λb ⟨i,r,h,_⟩=>by simp at h) ⟨λi j r s b h=>by simp at h,λi r b h=>by simp at h,λi r h=>by simp at h⟩ (by simpa using hlen)
    (λk y e h1 h2=>by
      cases k with
      |zero=>simp at h1 h2;subst h1;subst h2;exact hl
      |succ k=>simp at h1 h2;exact hmv _ _ (C (k+1) y e (by simpa using h1) (by simpa using h2)))
    (by rw[qgS,hdec];exact⟨hp,λv l hz=>⟨v,l,rfl,hz,rfl⟩⟩)
   refine⟨N,hc.mono ?_⟩;rintro e w' ⟨q,r,H',p,rfl,⟨v,l,rfl,hz,rfl⟩,t1,t2,t3,hs,ho,E,hR⟩;have t:∀b,b<w.heap.size->¬tp b->w'.heap[b]? =w.heap[b]?:=λb hb ht=>hs.same b hb (λ⟨i,r,h,_⟩=>by simp at h) ht
   have Q:∀y e,R tp (aN O tp H w) w y e->R p (aN O p H w') w' y e:=λy e hr=>hr.mono t1 (λb hb=>⟨⟨qCt hb.1 hs.size,hb.2.1,λh=>by
    rcases t2 b h with h|h
    ·exact hb.2.2.1 h
    ·have:=hb.1;omega,hb.2.2.2⟩,t b hb.1 hb.2.2.1⟩) hs.tapes
   have u:ai bV d (some (.row v el n (l.map enc))) d=some (.row v el n (l.map enc)):=by simp[ai]
   have hrk:=E.ok d _ u;have hrk':ResOk (R p (aN O p H w') w') w' (.row v el n (l.map enc)):=by
    obtain⟨xs,g1,g2,g3⟩:=hrk;refine⟨xs,g1,g2,λk y c h1 h2=>⟨(g3 k y c h1 h2).1,?_⟩⟩;have hm:c∈ba (l.map enc):=qCg h2;obtain⟨e,he,N⟩:=qDq.1 hm;obtain⟨y',_,rfl⟩:=qCo.1 he;exact L y' c N _ _ _ _ _ _ _ (g3 k y c h1 h2).2
   have I:∀b,(Res.row v el n (l.map enc)).blk=some b->aN O p H w' b:=λb hb=>by
    have h1:=ho b ⟨d,_,u,hb⟩;have h2:w.heap.size<=b:=h1.elim (λ⟨i,r,h,_⟩=>by simp at h) λh=>h
    refine⟨hrk.lt hb,λh=>?_,(E.out d _ b u hb).2,λ⟨i,r,h3,h4⟩=>?_⟩
    ·have:=hO b h;omega
    ·have:=(a.ok i r h3).lt h4;omega
   refine⟨q,enc l,H,p,rfl,hK l hz,t1,t2,t3,⟨hs.os,hs.tape,hs.output,hs.size,λb hb _ ht=>t b hb ht,hs.tapes,hs.drawn⟩,λb h=> .inl h,⟨a.dis,λi r b h1 h2=>?_,λi r h1=>?_⟩,?_⟩
   ·have:=a.out i r b h1 h2;refine⟨this.1,λh=>?_⟩;rcases t2 b h with h|h
    ·exact this.2 h
    ·have:=(a.ok i r h1).lt h2;omega
   ·exact(a.ok i r h1).conv Q λb hb=>t b ((a.ok i r h1).lt hb) (a.out i r b h1 hb).2
   ·have J:∀i r,ai bV d (some (.row v el n (l.map enc))) i=some r->r= .row v el n (l.map enc):=λi r h=>by
     unfold ai at h;split at h
     ·exact(qCr h).symm
     ·simp at h
    have hfz:FrzTo (ai bV d (some (.row v el n (l.map enc)))) (.own d v) (.list n (l.map enc)):=gp el u hn;have e1:(enc l:D)= .list n (l.map enc):=by subst hn;rfl
    have hRo:R p (aN O p H w') w' q (.own d v):=by
     cases hR with
     |own _ _ h=>exact .own _ _ h
    rw[e1];exact FrzTo.R (H:=H) hfz (λi r h=>by rw[J i r h];exact hrk') (λ_ h=>h) (λi r b h hb=>by rw[J i r h]at hb;exact I b hb) hRo
end
open Go.Proofs
variable {S:Nat->Spc}
set_option maxRecDepth 100000 in
theorem qi7:QU (Y:=Int) di de S (aD (a1 St3)) QW XW bE 1:=by
 rintro⟨d,s⟩ ⟨⟨r,k,hd,hl⟩,hs⟩;have hd:d= .cptr (mL r k) 0:=hd;subst hd;simp[di,de,mL,-fB',-eB'];intro hl1;refine⟨by omega,by omega,λv hl2=>?_⟩;refine ah (X:=List Int) [3,5] [] r.lb.length (λk z=>z.length=r.lb.length/\∀i,i<k->z[i]? =some (s.get i -1)) (λ_=>[]) (λz=>[(12, .row v bE 1 (z.map enc))]) (List.replicate r.lb.length 0) (by simp) ?_ ?_
 ·rintro j z hj ⟨hz1,hz2⟩;have hg:=WG s (k:=j) (by omega);have hb:0<=s.get j/\s.get j<=1000000:=hs.2.2 j;have hjz:j<z.length:=by omega
  simp[hj,hg,hjz,-fB',-eB'];refine⟨by omega,by omega,by simp only[InR];omega,z.set j (s.get j -1),⟨by simp[hz1],λi hi=>?_⟩, .inl (by rw[qEg];rfl)⟩;by_cases e:j=i
  ·subst e;rw[qDd (by omega)]
  ·rw[qEe e];exact hz2 i (by omega)
 ·rintro z ⟨hz1,hz2⟩;simp[-fB',-eB'];refine dw z (by simp[ai]) λr' k' e=>?_
  have e:D.cptr (mL r k) 0= .cptr (mL r' k') 0:=e;obtain rfl:=F2 e;refine qCP λi=>?_
  unfold TF;rw[qCu];by_cases hi:i<r.lb.length
  ·rw[hz2 i hi,qDD hi];rfl
  ·rw[qCz (by omega),qCz (by simp;omega)];rfl
end
end Go.Gv
