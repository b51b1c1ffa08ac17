/- V3 -/
import Derived.Test.YtnffegdacbdhmaaGreatDoorGe14
set_option linter.all false
set_option maxRecDepth 100000
set_option maxHeartbeats 0
open Bool renaming forall_bool → fB', exists_bool → eB'
namespace Go.Gv
section
instance:Inhabited Cond:=⟨⟨0,⟨#[]⟩,⟨#[]⟩,⟨#[]⟩,⟨#[]⟩,false, []⟩⟩
instance:Inhabited Pat:=⟨⟨0,default,⟨#[]⟩,⟨#[]⟩,0,0, []⟩⟩
def Cond0:Cond:=⟨0,⟨#[]⟩,⟨#[]⟩,⟨#[]⟩,⟨#[]⟩,false, []⟩
mutual
def cg:Pat->Nat| .mk _ _ _ _ _ _ ks=>LX ks+1
def LX:List Pat->Nat|[]=>0|k::ks=>max (cg k) (LX ks)
end
mutual
def dB:Cond->Nat| .mk _ _ _ _ _ _ ks=>iV ks+1
def iV:List Cond->Nat|[]=>0|k::ks=>max (dB k) (iV ks)
end
mutual
def dm:Pat->Nat| .mk _ _ _ _ _ _ ks=>bu ks+1
def bu:List Pat->Nat|[]=>0|k::ks=>dm k+bu ks
end
def Nv(p:Pat):cg p=LX p.kids+1:=by cases p;rw[cg]
def JG(p:Cond):dB p=iV p.kids+1:=by cases p;rw[dB]
def cI(p:Pat):dm p=bu p.kids+1:=by cases p;rw[dm]
def SO{k:Pat} :∀{ks:List Pat},k∈ks->cg k<=LX ks
 | a::ks,h=>by
   rw[LX];rcases qFP.1 h with rfl|h
   ·omega
   ·have:=SO h;omega
def Lx{k:Cond} :∀{ks:List Cond},k∈ks->dB k<=iV ks
 | a::ks,h=>by
   rw[iV];rcases qFP.1 h with rfl|h
   ·omega
   ·have:=Lx h;omega
def fT{p k:Pat}(h:k∈p.kids):cg k<cg p:=by have:=SO h;rw[Nv p];omega
def Qx{p k:Cond}(h:k∈p.kids):dB k<dB p:=by have:=Lx h;rw[JG p];omega
def fg{C:Pat->Prop}(h:∀p,(∀k∈p.kids,C k)->C p)(p:Pat):C p:=by
 generalize hn:cg p=n
 induction n using Nat.strongRecOn generalizing p with
 | _ n a=>exact h p λk hk=>a (cg k) (by rw[<-hn];exact fT hk) k rfl
mutual
def cx(f:Pat->Bool):Pat->Bool| .mk op c l r mn mx ks=>f ⟨op,c,l,r,mn,mx,ks⟩ && Jo f ks
def Jo(f:Pat->Bool):List Pat->Bool|[]=>true|k::ks=>cx f k && Jo f ks
end
def P5(f:Pat->Bool):∀ks:List Pat,Jo f ks=ks.all (cx f)
 | []=>by rw[Jo];rfl
 |k::ks=>by rw[Jo,P5 f ks,qHt]
def cZ(f:Pat->Bool)(p:Pat):cx f p=(f p && p.kids.all (cx f)):=by cases p;rw[cx,P5]
mutual
def cm:Pat->Int->Bool| .mk _ _ _ _ _ _ ks,d=>decide (d<=100) && Ap ks (d+1)
def Ap:List Pat->Int->Bool|[],_=>true|k::ks,d=>cm k d && Ap ks d
end
def Ie(d:Int):∀ks:List Pat,Ap ks d=ks.all (cm · d)
 | []=>by rw[Ap];rfl
 |k::ks=>by rw[Ap,Ie d ks,qHt]
def ld(p:Pat)(d:Int):cm p d=(decide (d<=100) && p.kids.all (cm · (d+1))):=by cases p;rw[cm,Ie]
def UT(p:Pat):∀d a:Int,a<=d->cm p d=true->cm p a=true:=by
 induction p using fg with|_ p b=>?_
 intro d a h;rw[ld,ld];simp only[qFO,decide_eq_true_eq,qFN];exactλ⟨h1,h2⟩=>⟨by omega,λk hk=>b k hk (d+1) (a+1) (by omega) (h2 k hk)⟩
def xY(p:Pat):Prop:=(p.op=1/\p.reg=⟨#[]⟩/\p.mn=0/\p.mx=0/\p.kids=[])\/
 ((p.op=2\/p.op=3)/\p.cond=Cond0/\p.lab=⟨#[]⟩/\p.mn=0/\p.mx=0/\p.kids=[])\/
 ((p.op=4\/p.op=5)/\p.cond=Cond0/\p.lab=⟨#[]⟩/\p.reg=⟨#[]⟩/\p.mn=0/\p.mx=0/\2<=p.kids.length)\/
 (p.op=6/\p.cond=Cond0/\p.lab=⟨#[]⟩/\p.reg=⟨#[]⟩/\p.kids.length=1)
noncomputable def qC(p:Pat):Bool:= @decide (xY p) (Classical.propDecidable _)
def vX(p:Pat):qC p=true↔xY p:= @decide_eq_true_iff (xY p) (Classical.propDecidable _)
def lF(p:Pat):Bool:=decide (p.op=6->0<=p.mn/\p.mn<=16/\(p.mx= -1\/p.mn<=p.mx/\p.mx<=16))
def nI(v:B->Bool)(p:Pat):Bool:=decide (((p.op=2\/p.op=3)->v p.reg=true)/\(p.lab≠ ⟨#[]⟩->v p.lab=true))
noncomputable def fy(v:B->Bool)(p:Pat):Bool:=cm p 1 && cx qC p && cx (nI v) p && cx lF p
def dX{v:B->Bool}{p k:Pat}(h:fy v p=true)(hk:k∈p.kids):fy v k=true:=by
 unfold fy at*;rw[cZ,cZ,cZ lF,ld]at h;simp only[qFO,qFN]at h;obtain⟨⟨⟨⟨_,h1⟩,_,h2⟩,_,h3⟩,_,h4⟩:=h;rw[h2 k hk,h3 k hk,h4 k hk,UT k _ 1 (by omega) (h1 k hk)];rfl
def cH{v:B->Bool}{p:Pat}(h:fy v p=true):qC p=true/\nI v p=true/\lF p=true:=by
 unfold fy at*;rw[cZ,cZ,cZ lF]at h;simp only[qFO]at h;exact⟨h.1.1.2.1,h.1.2.1,h.2.1⟩
def Dr(p:Pat)(n:Int):Int:=if p.kids=[]then 1 else if p.op=6 then(if p.mx= -1 then min (n* (p.mn+1)) 1000 else if p.mx=0 then n else min (n*p.mx) 1000)else n
mutual
def fM:Pat->Int| .mk op c l r mn mx ks=>Dr ⟨op,c,l,r,mn,mx,ks⟩ (eP ks 0)
def eP:List Pat->Int->Int|[],n=>n|k::ks,n=>eP ks (min (n+fM k) 1000)
end
def pR(p:Pat):fM p=Dr p (eP p.kids 0):=by cases p;rw[fM]
def Ow(a b:List Pat)(n:Int):eP (a++b) n=eP b (eP a n):=by
 induction a generalizing n with
 |nil=>rfl
 |cons k a c=>simp only[qGp,eP];exact c _
def Fl(seq:Bool)(a b:Int×Int):Int×Int:=
 if seq then(min (a.1+b.1) 10000,if a.2= -1\/b.2= -1 then -1 else min (a.2+b.2) 10000)else(min a.1 b.1,if a.2= -1\/b.2= -1 then -1 else max a.2 b.2)
mutual
def aO:Pat->Int×Int
 | .mk op _ _ _ mn mx ks=>if op=1 then(1,1)else if op=2\/op=3 then(0,0)else match ks with
   | []=>(0,0)
   |k::ks=>if op=6 then(min ((aO k).1*mn) 10000,if mx=0\/(aO k).2=0 then 0 else if mx= -1\/(aO k).2= -1 then -1 else min ((aO k).2*mx) 10000)else gw (decide (op=4)) ks (aO k)
def gw(seq:Bool):List Pat->Int×Int->Int×Int|[],w=>w|k::ks,w=>gw seq ks (Fl seq w (aO k))
end
def Sb(s:Bool)(a b:List Pat)(n:Int×Int):gw s (a++b) n=gw s b (gw s a n):=by
 induction a generalizing n with
 |nil=>rfl
 |cons k a c=>simp only[qGp,gw];exact c _
def Xf{p:Pat}(h:p.op=1):aO p=(1,1):=by cases p;simp only at h;unfold aO;rw[if_pos h]
def qda{p:Pat}(h:p.op=2\/p.op=3):aO p=(0,0):=by cases p;simp only at h;unfold aO;rw[if_neg (by omega),if_pos h]
def qc8{p k:Pat}(h:p.op=6){ks:List Pat}(hk:p.kids=k::ks):aO p=(min ((aO k).1*p.mn) 10000,if p.mx=0\/(aO k).2=0 then 0 else if p.mx= -1\/(aO k).2= -1 then -1 else min ((aO k).2*p.mx) 10000):=by
 cases p;simp only at h hk;subst hk;rw[aO,if_neg (by omega),if_neg (by omega)];simp only[h,if_true]
def qc9{p k:Pat}(h:p.op=4\/p.op=5){ks:List Pat}(hk:p.kids=k::ks):aO p=gw (decide (p.op=4)) ks (aO k):=by
 cases p;simp only at h hk;subst hk;rw[aO,if_neg (by omega),if_neg (by omega)];simp only;rw[if_neg (by omega)]
mutual
def aq:Pat->List Pat| .mk op c l r mn mx ks=>if op=1 then[⟨op,c,l,r,mn,mx,ks⟩]else D5 ks
def D5:List Pat->List Pat|[]=>[]|k::ks=>aq k++D5 ks
end
def L5:∀ks:List Pat,D5 ks=ks.flatMap aq
 | []=>by rw[D5];rfl
 |k::ks=>by rw[D5,L5 ks,qGk]
def bc(p:Pat):aq p=if p.op=1 then[p]else p.kids.flatMap aq:=by cases p;rw[aq,L5]
def sJ(p:Pat):(aq p).length<=dm p:=by
 induction p using fg with|_ p a=>?_
 rw[bc,cI];split
 ·simp
 ·have:∀ks:List Pat,(∀k∈ks,(aq k).length<=dm k)->(ks.flatMap aq).length<=bu ks:=by
   intro ks
   induction ks with
   |nil=>intro _;simp[bu]
   | cons k ks a=>
     intro h;rw[qGk,qGa,bu];have h1:=h k (by simp);have h2:=a λx b=>h x (by simp[b])
     omega
  have:=this p.kids a;omega
def mA{p:Pat}(h:qC p=true):(p.op=1/\p.kids=[])\/((p.op=2\/p.op=3)/\p.kids=[])\/((p.op=4\/p.op=5)/\∃k ks,p.kids=k::ks)\/(p.op=6/\∃k,p.kids=[k]):=by
 rw[vX]at h;unfold xY at h;rcases h with h|h|h|h
 ·exact .inl ⟨h.1,h.2.2.2.2⟩
 ·exact .inr (.inl ⟨h.1,h.2.2.2.2.2⟩)
 ·refine .inr (.inr (.inl ⟨h.1,?_⟩));rcases hk:p.kids with _|⟨k,ks⟩
  ·rw[hk]at h;simp at h
  ·exact⟨k,ks,rfl⟩
 ·refine .inr (.inr (.inr ⟨h.1,?_⟩));rcases hk:p.kids with _|⟨k,_|⟨a,ks⟩⟩
  ·rw[hk]at h;simp at h
  ·exact⟨k,rfl⟩
  ·rw[hk]at h;simp at h
def rZ:∀(ks:List Pat) (n:Int),0<=n->n<=1000->(∀k∈ks,0<=fM k)->0<=eP ks n/\eP ks n<=1000
 | [],n,h0,h1,_=>by rw[eP];exact⟨h0,h1⟩
 | k::ks,n,h0,h1,h=>by
   rw[eP];have:=h k (by simp);exact rZ ks _ (by omega) (by omega) λx a=>h x (by simp[a])
def Sn{v:B->Bool}(p:Pat):fy v p=true->0<=fM p/\fM p<=1000:=by
 induction p using fg with|_ p a=>?_
 intro h;have hk:=rZ p.kids 0 (by omega) (by omega) λk hk=>(a k hk (dX h hk)).1
 have hn:=(cH h).2.2;unfold lF at hn;rw[decide_eq_true_eq]at hn;rw[pR];generalize eP p.kids 0=n at hk;unfold Dr;split
 ·omega
 ·split
  ·rename_i h6;have hn:=hn h6;split
   ·have:0<=n* (p.mn+1):=qHh hk.1 (by omega);omega
   ·split
    ·exact hk
    ·have:0<=n*p.mx:=qHh hk.1 (by omega);omega
  ·exact hk
def dG(w:Int×Int):Prop:=0<=w.1/\w.1<=10000/\ -1<=w.2/\w.2<=10000
def TW{s:Bool}{a b:Int×Int}(c:dG a)(hb:dG b):dG (Fl s a b):=by
 unfold dG Fl at*;split<;>simp only<;>split<;>omega
def Xe(s:Bool):∀(ks:List Pat) (w:Int×Int),dG w->(∀k∈ks,dG (aO k))->dG (gw s ks w)
 | [],w,h,_=>by rw[gw];exact h
 | k::ks,w,h,hk=>by
   rw[gw];exact Xe s ks _ (TW h (hk k (by simp))) λx a=>hk x (by simp[a])
theorem tu{v:B->Bool}(p:Pat):fy v p=true->dG (aO p):=by
 induction p using fg with|_ p a=>?_
 intro h;obtain⟨h1,_,hn⟩:=cH h;unfold lF at hn;rw[decide_eq_true_eq]at hn;rcases mA h1 with⟨ho,_⟩|⟨ho,_⟩|⟨ho,k,ks,hk⟩|⟨ho,k,hk⟩
 ·rw[Xf ho];simp[dG]
 ·rw[qda ho];simp[dG]
 ·rw[qc9 ho hk];exact Xe _ _ _ (a k (by rw[hk];simp) (dX h (by rw[hk];simp))) λx b=>a x (by rw[hk];simp[b]) (dX h (by rw[hk];simp[b]))
 ·rw[qc8 ho hk];have c:=a k (by rw[hk];simp) (dX h (by rw[hk];simp));have hn:=hn ho;generalize aO k=w at c;unfold dG at*;have h1:0<=w.1*p.mn:=qHh c.1 hn.1;refine⟨by simp only;omega,by simp only;omega,?_⟩;simp only;split
  ·omega
  ·split
   ·omega
   ·have h2:0<=w.2*p.mx:=qHh (by omega) (by omega);omega
open Cod (enc dec)
mutual
def io:Cond->Nat| .mk _ _ _ _ _ _ ks=>fE ks+1
def fE:List Cond->Nat|[]=>0|k::ks=>io k+fE ks
end
def BC(x:Cond):io x=fE x.kids+1:=by cases x;rw[io]
def E4:∀(a b:List Cond),fE (a++b)=fE a+fE b
 | [],b=>by rw[qGE,fE];omega
 |k::a,b=>by rw[qGp,fE,fE,E4 a b];omega
def TL:∀(a b:List Cond),iV (a++b)=max (iV a) (iV b)
 | [],b=>by rw[qGE,iV];omega
 |k::a,b=>by rw[qGp,iV,iV,TL a b];omega
def KT:∀{ks:List Cond} {k:Cond},k∈ks->io k<=fE ks
 | x::ks,k,h=>by
   rw[fE];rcases qFP.1 h with rfl|h
   ·omega
   ·have:=KT h;omega
def qf9{ks:List Cond}{k:Nat}{x:Cond}(h:ks[k]? =some x):fE (ks.take (k+1))=fE (ks.take k) +io x/\iV (ks.take (k+1))=max (iV (ks.take k)) (dB x)/\fE (ks.take k) +io x<=fE ks:=by
 have e:=av h;refine⟨by rw[e,E4,fE,fE];omega,by rw[e,TL,iV,iV];omega,?_⟩
 conv=>rhs;rw[<-qGf (k+1) ks,E4]
 rw[e,E4,fE,fE];omega
def mq:B:=⟨#[]⟩
def mN(a:List Attr)(n:B):Int:=fe a λx=>decide (x.nm=n)
def BN(a:List Attr)(n:B):Int:=if n=mq then min 0 ((a.length:Int) -1)else mN a n
def qeJ(c:UInt8):Bool:=(decide (65<=c.toNat) && decide (c.toNat<=90))||(decide (97<=c.toNat) && decide (c.toNat<=122))||decide (c.toNat=95)
def qBS(c:UInt8):Bool:=qeJ c||(decide (48<=c.toNat) && decide (c.toNat<=57))||decide (c.toNat=45)
def KQ(s:B):Bool:=decide (1<=s.size/\s.size<=32) && (match s.data.toList with|c::_=>qeJ c|[]=>false) && s.data.toList.all qBS
def DZ(s:B):Bool:=decide (s.size<=120) && s.data.toList.all λc=>decide (32<=c.toNat/\c.toNat< 127)
def qqY(x:Cond):Bool:=
 if x.op=1 then decide (x.name=mq/\x.arg=mq/\x.val=mq/\x.lab=mq/\x.fold=false) && x.kids.isEmpty else
 if x.op=2 then decide (x.arg=mq/\x.lab=mq) && x.kids.isEmpty else
 if x.op=3 then decide (x.arg=mq/\x.lab=mq/\x.fold=false) && x.kids.isEmpty else
 if x.op=4 then decide (x.val=mq/\x.fold=false) && x.kids.isEmpty else
 if x.op=5 then decide (x.lab=mq/\x.fold=false/\(x.arg=mq->x.val=mq)) && x.kids.isEmpty else
 if x.op=6 then decide (x.name=mq/\x.arg=mq/\x.val=mq/\x.lab=mq/\x.fold=false) && decide (x.kids.length=1)else
 if x.op=7\/x.op=8 then decide (x.name=mq/\x.arg=mq/\x.val=mq/\x.lab=mq/\x.fold=false) && decide (2<=x.kids.length/\x.kids.length<=60)else false
def qpL(a:List Attr)(x:Cond):Bool:=
 if x.op=2 then decide (0<=BN a x.name)else
 if x.op=3 then decide (0<=mN a x.name)else
 if x.op=4 then decide (0<=mN a x.name/\0<=mN a x.arg)else
 if x.op=5 then KQ x.name && (decide (x.arg=mq)||KQ x.arg)else true
def qo1(s:B):Bool:=s.data.toList.any λc=>decide (c.toNat=124)
def qzi(a:List Attr)(lb:List B)(x:Cond):Bool:=
 if x.op=2 then(qw x.val).isSome else
 if x.op=3 then(match a[(mN a x.name).toNat]? with|some b=>b.st|none=>false) && decide (x.val≠mq) && !qo1 x.val && DZ x.val else
 if x.op=4 then lb.any λl=>decide (l=x.lab)else
 if x.op=5 then DZ x.val else true
def rV(a:List Attr)(lb:List B)(x:Cond):Bool:=qqY x && qpL a x && qzi a lb x
def tX(a:List Attr)(lb:List B):Nat->Cond->Bool
 | 0=>λ_=>false
 |n+1=>λx=>rV a lb x && x.kids.all (tX a lb n)
def qmt(a:List Attr)(lb:List B)(x:Cond):Bool:=decide (io x<=60/\dB x<=20) && tX a lb 20 x
variable {S S0:Nat->Spc}
def eK{X:Type}{l:List X}{k:Nat}(h:k<l.length):∃x,l[k]? =some x:=⟨_,qFH h⟩
def qtO(n:Nat)(x:Cond×Int×Int):Prop:=dB x.1<=n/\0<=x.2.1/\x.2.1+io x.1<=60/\0<=x.2.2/\x.2.2+dB x.1<=1000/\dB x.1<=60
abbrev YC(n:Nat):Spc:=aG (a3 Cond Int Int) (qtO n) (kZ (Y:=Int) (Z:=Int)) λx y=>y=(x.2.1+io x.1,x.2.2+dB x.1 -1)
abbrev OL:Spc:=aG (a3 Cond Int Int) (λx=>∃n,qtO n x) (kZ (Y:=Int) (Z:=Int)) λx y=>y=(x.2.1+io x.1,x.2.2+dB x.1 -1)
theorem De(n:Nat)(h1:S cR=YC n):ak mf lw S (a3 Cond Int Int) (qtO (n+1)) (kZ (Y:=Int) (Z:=Int)) λx y=>y=(x.2.1+io x.1,x.2.2+dB x.1 -1):=by
 rintro⟨x,nodes,deep⟩ ⟨hn,h0,h2,h3,h4,h5⟩;simp only at hn h0 h2 h3 h4 h5;have l:=JG x;have p:=BC x;simp[mf,lw];refine⟨by simp only[InR];omega,λq=>?_⟩;refine ah (X:=Int×Int) [2,17] [] x.kids.length (λk z=>z.1=nodes+1+ (fE (x.kids.take k):Int)/\z.2=deep+ (iV (x.kids.take k):Int)) (λz=>[(1,enc z.1),(8,enc z.2)]) (λ_=>[]) (nodes+1,deep) (by simp[fE,iV]) ?_ ?_
 ·rintro k ⟨m,d⟩ hk ⟨c,a⟩;simp only at c a;obtain⟨y,h⟩:=eK hk;obtain⟨_,j⟩:=qFG.1 h;have hm:=qf9 h;have r:=Lx (qFK h);have hp:qtO n (y,m,deep+1):=⟨by show dB y<=n;omega,by show 0<=m;omega,by show m+io y<=60;omega,by show 0<=deep+1;omega,by show deep+1+dB y<=1000;omega,by show dB y<=60;omega⟩
  have b:¬60<m:=by have:=BC y;omega
  simp[h1,hk,h,j,hp,b];exact⟨by simp only[InR];omega,by omega,by rw[hm.2.1,a];omega⟩
 ·rintro⟨m,d⟩ ⟨c,a⟩;simp only at c a;rw[qFY]at c a;simp;exact⟨by omega,by omega⟩
abbrev YE:Spc:=aG (a1 Cond) (λx=>io x<=60/\dB x<=60) (enc (X:=Bool)) λ_ y=>y=false
def HH(h1:S cR=OL):ak pk oz S (a1 Cond) (λx=>io x<=60/\dB x<=60) (enc (X:=Bool)) λ_ y=>y=false:=by
 rintro x ⟨hn,a⟩;have hp:∃n,qtO n (x,0,1):=⟨dB x,qFM _,qGI _,by show(0:Int) +io x<=60;omega,by show(0:Int)<=1;omega,by show(1:Int) +dB x<=1000;omega,a⟩
 simp[pk,oz,h1,hp,-fB',-eB'];omega
abbrev SE:Spc:=aG (a1 Cond) (λx=>qqY x=true) (enc (X:=Bool)) λ_ y=>y=true
set_option maxHeartbeats 1000000 in
theorem F7:ak bE bC S (a1 Cond) (λx=>qqY x=true) (enc (X:=Bool)) λ_ y=>y=true:=by
 rintro⟨op,name,arg,val,lab,fold,ks⟩ hx;have hx:qqY ⟨op,name,arg,val,lab,fold,ks⟩=true:=hx;unfold qqY at hx;simp only at hx;split at hx
 ·rename_i e;subst e;simp at hx;obtain⟨⟨rfl,rfl,rfl,rfl,rfl⟩,rfl⟩:=hx;simp[bE,bC,mq,-fB',-eB']
 split at hx
 ·rename_i e;subst e;simp at hx;obtain⟨⟨rfl,rfl⟩,rfl⟩:=hx;simp[bE,bC,mq,-fB',-eB']
 split at hx
 ·rename_i e;subst e;simp at hx;obtain⟨⟨rfl,rfl,rfl⟩,rfl⟩:=hx;simp[bE,bC,mq,-fB',-eB']
 split at hx
 ·rename_i e;subst e;simp at hx;obtain⟨⟨rfl,rfl⟩,rfl⟩:=hx;simp[bE,bC,mq,-fB',-eB']
 split at hx
 ·rename_i e;subst e;simp at hx;obtain⟨⟨rfl,rfl,hav⟩,rfl⟩:=hx;by_cases ha:arg=mq
  ·have hv:=hav.resolve_left λh=>h ha
   subst ha;subst hv;simp[bE,bC,mq,-fB',-eB']
  ·have ha':¬arg=⟨#[]⟩:=ha;simp[bE,bC,mq,ha',-fB',-eB']
 split at hx
 ·rename_i e;subst e;simp at hx;obtain⟨⟨rfl,rfl,rfl,rfl,rfl⟩,hk⟩:=hx;simp[bE,bC,mq,hk,-fB',-eB']
 split at hx
 ·rename_i e;simp at hx;obtain⟨⟨rfl,rfl,rfl,rfl,rfl⟩,hk1,hk2⟩:=hx;have q1:(2:Int)<=(ks.length:Int):=by omega
  have q2:(ks.length:Int)<=60:=by omega
  have q3:(ks.length:Int)<=9223372036854775807:=by omega
  rcases e with rfl|rfl<;>simp[bE,bC,mq,q1,q2,q3,-fB',-eB']
 ·cases hx
def D6{X:Type}(p:X->Bool):∀l:List X, -1<=fe l p/\fe l p<l.length
 | []=>⟨qGI _,by simp[fe]⟩
 | x::l=>by
   have:=D6 p l;rw[fe,qGn];split
   ·omega
   ·split<;>omega
open Classical in
noncomputable def aX{Z:Type}(v:Z->List D)(hi:∀z z',v z=v z'->z=z'):dP Z:=⟨λds=>if h:∃z,ds=v z then some h.choose else none,v,λds z h=>by
 split at h
 ·rename_i h';have e:h'.choose=z:=qFT h;rw[<-e,<-h'.choose_spec];exact⟨rfl,λk d d' h1 h2=>by rw[h1]at h2;cases h2;exact .same _⟩
 ·cases h⟩
open Classical in
def Hs{Z:Type}(v:Z->List D)(hi:∀z z',v z=v z'->z=z')(z:Z):(aX v hi).dec (v z)=some z:=by
 have h:∃z',v z=v z':=⟨z,rfl⟩
 show(if h:∃z',v z=v z' then some h.choose else none)=some z;rw[dif_pos h];exact congrArg some (hi _ _ h.choose_spec).symm
def Fg{Z:Type}(v:Z->List D)(hi:∀z a,v z=v a->z=a)(z:Z):(aX v hi).view z=v z:=rfl
def qfq(x:Attr×B):List D:=[enc x.1, .cptr [enc x.2] 0]
def XG(z b:Attr×B)(h:qfq z=qfq b):z=b:=by
 obtain⟨a,s⟩:=z;obtain⟨c,d⟩:=b;unfold qfq at h;simp only[qGd,D.cptr.injEq,and_true]at h;rw[aP h.1,aP h.2]
noncomputable abbrev qwk:dP (Attr×B):=aX qfq XG
noncomputable abbrev U3:Spc:=aG qwk (λ_=>True) (enc (X:=Bool)) λx y=>y=decide (x.1.nm=x.2)
def Ad:ak ig gW S qwk (λ_=>True) (enc (X:=Bool)) λx y=>y=decide (x.1.nm=x.2):=by
 rintro⟨a,s⟩ -;rw[Fg];simp[qfq,ig,gW,-fB',-eB']
abbrev EX:Spc:=aG (a2 (List Attr) B) (λ_=>True) (enc (X:=Int)) λx y=>y=mN x.1 x.2
def CP(h0:S0 ci=U3)(h1:S fB=YO Attr S0):ak jD jk S (a2 (List Attr) B) (λ_=>True) (enc (X:=Int)) λx y=>y=mN x.1 x.2:=by
 rintro⟨a,s⟩ -;have c:FunOn S0 (.clo ci [.cptr [enc s] 0]) a λx=>decide (x.nm=s):=
  wb (f:=λx=>(x,s)) h0 (λx _=>Hs qfq XG (x,s)) (λ_ _=>trivial) (λx _ y b=>b)
 simp[jD,jk,h1,-fB',-eB'];exact⟨⟨_,c⟩,λy b=>b _ c⟩
abbrev OM:Spc:=aG (a2 (List Attr) B) (λx=>x.1.length<=1000) (enc (X:=Int)) λx y=>y=BN x.1 x.2
def HI(h1:S bX=EX):ak jC jj S (a2 (List Attr) B) (λx=>x.1.length<=1000) (enc (X:=Int)) λx y=>y=BN x.1 x.2:=by
 rintro⟨a,s⟩ hl;have hl:a.length<=1000:=hl;have b:InR .i64 ((a.length:Int) -1):=by simp only[InR];omega
 have c:(a.length:Int)<=9223372036854775807:=by omega
 by_cases hs:s=mq
 ·subst hs;simp[jC,jj,mq,BN,b,c,-fB',-eB']
 ·have d:¬s=⟨#[]⟩:=hs;simp[jC,jj,mq,BN,h1,d,-fB',-eB']
def ya(t:List (List B))(i k:Int):B:=if i< 0\/k< 0 then mq else match t[i.toNat]? with
 |some r=>(match r[k.toNat]? with|some s=>s|none=>mq)
 |none=>mq
abbrev YJ:Spc:=aG (a3 Corpus Int Int) (λx=>x.1.toks.length<=100000/\∀r∈x.1.toks,r.length<=100000) (enc (X:=B)) λx y=>y=ya x.1.toks x.2.1 x.2.2
theorem HK:ak cA cq S (a3 Corpus Int Int) (λx=>x.1.toks.length<=100000/\∀r∈x.1.toks,r.length<=100000) (enc (X:=B)) λx y=>y=ya x.1.toks x.2.1 x.2.2:=by
 rintro⟨c,i,k⟩ ⟨hl,p⟩;simp only at hl p;have a:(c.toks.length:Int)<=9223372036854775807:=by omega
 by_cases h0:i< 0
 ·simp[cA,cq,h0,ya,-fB',-eB'];rfl
 by_cases h1:(c.toks.length:Int)<=i
 ·have hn:c.toks[i.toNat]? =none:=qF0 (by omega);by_cases h2:k< 0
  ·simp[cA,cq,h0,h1,h2,a,ya,-fB',-eB'];rfl
  ·simp[cA,cq,h0,h1,h2,a,hn,ya,-fB',-eB'];rfl
 by_cases h2:k< 0
 ·simp[cA,cq,h0,h1,h2,a,ya,-fB',-eB'];rfl
 obtain⟨r,b⟩:=eK (show i.toNat<c.toks.length by omega);obtain⟨_,h⟩:=qFG.1 b;have u:=p r (qFK b);have d:(r.length:Int)<=9223372036854775807:=by omega
 have q:0<=i:=by omega
 have t:i<(c.toks.length:Int):=by omega
 have w:0<=k:=by omega
 by_cases h3:(r.length:Int)<=k
 ·have hn:r[k.toNat]? =none:=qF0 (by omega);simp[cA,cq,h0,h1,h2,h3,a,d,hn,b,h,q,t,ya,-fB',-eB'];rfl
 obtain⟨s,j⟩:=eK (show k.toNat<r.length by omega);obtain⟨_,l⟩:=qFG.1 j;have A:k<(r.length:Int):=by omega
 simp[cA,cq,h0,h1,h2,h3,a,d,b,h,j,l,q,t,w,A,ya,-fB',-eB']
abbrev qdn:Spc:=aG (a1 B) (λs=>KQ s=true) (enc (X:=Bool)) λ_ y=>y=true
abbrev Kp:Spc:=aG (a1 B) (λs=>DZ s=true) (enc (X:=Int)) λ_ y=>y=0
abbrev s_sConB:Spc:=aG (a2 B B) (λx=>x.2=⟨#[124]⟩/\DZ x.1=true) (enc (X:=Bool)) λx y=>y=qo1 x.1
abbrev qiC:Spc:=aG (a1 B) (λs=>∃r,qw s=some r) (enc (X:=Int)) λ_ y=>y=0
def vw(l:List B)(s:B):Bool:=l.any λz=>decide (z=s)
abbrev qbS:Spc:=aG (a2 (List B) B) (λ_=>True) (enc (X:=Bool)) λx y=>y=vw x.1 x.2
abbrev OK:Spc:=aG (a2 (List B) B) (λ_=>True) (enc (X:=Int)) λx y=>y=fe x.1 λz=>decide (z=x.2)
theorem NY:ak jt iY S (a2 (List B) B) (λ_=>True) (enc (X:=Int)) λx y=>y=fe x.1 λz=>decide (z=x.2):=by
 rintro⟨l,s⟩ -;simp[jt,iY,-fB',-eB'];intro _;refine ah (X:=Unit) [0,1] [] l.length (λk _=>∀x∈l.take k,decide (x=s)=false) (λ_=>[]) (λ_=>[]) () (by simp) ?_ ?_
 ·intro k _ hk a;obtain⟨x,b⟩:=eK hk;obtain⟨_,c⟩:=qFG.1 b;simp[hk,b,c,-fB',-eB'];refine⟨λh=>?_,λh=>?_⟩
  ·exact(tE b (by simp[h]) a).symm
  ·rw[av b];intro z hz;rcases qFL.1 hz with hz|hz
   ·have:=a z hz;simpa using this
   ·simp at hz;subst hz;exactλe=>h e.symm
 ·intro _ a;simp[-fB',-eB'];exact(jZ (by simpa using a)).symm
def HN(h1:S cY=OK):ak cO cL S (a2 (List B) B) (λ_=>True) (enc (X:=Bool)) λx y=>y=vw x.1 x.2:=by
 rintro⟨l,s⟩ -;simp[cO,cL,h1,-fB',-eB'];exact vJ _ l
abbrev YB:Spc:=aG (a2 Cond (List Attr)) (λx=>qpL x.2 x.1=true/\x.2.length<=1000) (enc (X:=Bool)) λ_ y=>y=true
theorem HF(h1:S kU=OM)(h2:S bX=EX)(h3:S bO=qdn):ak cz cp S (a2 Cond (List Attr)) (λx=>qpL x.2 x.1=true/\x.2.length<=1000) (enc (X:=Bool)) λ_ y=>y=true:=by
 rintro⟨⟨op,name,arg,val,lab,fold,ks⟩,a⟩ ⟨b,hl⟩;have b:qpL a ⟨op,name,arg,val,lab,fold,ks⟩=true:=b;have hl:a.length<=1000:=hl;unfold qpL at b;simp only at b;split at b
 ·rename_i e;subst e;simp at b;simp[cz,cp,h1,hl,b,-fB',-eB']
 rename_i j;split at b
 ·rename_i e;subst e;simp at b;simp[cz,cp,h2,b,-fB',-eB']
 rename_i k;split at b
 ·rename_i e;subst e;simp at b;simp[cz,cp,h2,b.1,b.2,-fB',-eB']
 rename_i l;split at b
 ·rename_i e;subst e;simp at b;obtain⟨hn,p⟩:=b;by_cases c:arg=mq
  ·subst c;simp[cz,cp,h3,hn,mq,-fB',-eB']
  ·have h:=p.resolve_left c;have d:¬arg=⟨#[]⟩:=c;simp[cz,cp,h3,hn,h,d,-fB',-eB']
 rename_i q;simp[cz,cp,j,k,l,q,-fB',-eB']
abbrev YI:Spc:=aG (a3 Cond (List Attr) (List B)) (λx=>rV x.2.1 x.2.2 x.1=true/\x.2.1.length<=1000) (enc (X:=Int)) λ_ y=>y=0
theorem HJ(h1:S ra=SE)(h2:S rb=YB)(h3:S tL=qiC)(h4:S bX=EX)(h5:S wS=s_sConB)(h6:S cQ=Kp)(l:S bi=qbS):
 ak dr dn S (a3 Cond (List Attr) (List B)) (λx=>rV x.2.1 x.2.2 x.1=true/\x.2.1.length<=1000) (enc (X:=Int)) λ_ y=>y=0:=by
 rintro⟨x,a,lb⟩ ⟨c,hl⟩;have c:rV a lb x=true:=c;have hl:a.length<=1000:=hl;unfold rV at c;simp only[qFO]at c;obtain⟨⟨hs,hn⟩,hc⟩:=c;obtain⟨op,name,arg,val,lab,fold,ks⟩:=x;unfold qzi at hc;simp only at hc;have e:(Cond.mk op name arg val lab fold ks)=⟨op,name,arg,val,lab,fold,ks⟩:=rfl;split at hc
 ·rename_i e;subst e;obtain⟨r,p⟩:=qGG.1 hc;simp[dr,dn,h1,h2,h3,hs,hn,hl,p,-fB',-eB']
 rename_i q;split at hc
 ·rename_i e;subst e;simp only[qFO]at hc;obtain⟨⟨⟨c1,c2⟩,c3⟩,c4⟩:=hc;have d:0<=mN a name:=by simpa [qpL]using hn
  have h:=(D6 (λx:Attr=>decide (x.nm=name)) a).2;have j:mN a name<a.length:=h;obtain⟨b,hb⟩:=eK (show(mN a name).toNat<a.length by omega);obtain⟨_,k⟩:=qFG.1 hb;rw[hb]at c1;have c1:b.st=true:=c1;have c2:¬val=⟨#[]⟩:=of_decide_eq_true c2;have c3:qo1 val=false:=by simpa using c3
  simp[dr,dn,h1,h2,h4,h5,h6,hs,hn,hl,d,j,hb,k,c1,c2,c3,c4,-fB',-eB']
 rename_i s;split at hc
 ·rename_i e;subst e;have hc:vw lb lab=true:=hc;simp[dr,dn,h1,h2,l,hs,hn,hl,hc,-fB',-eB']
 rename_i t;split at hc
 ·rename_i e;subst e;simp[dr,dn,h1,h2,h6,hs,hn,hl,hc,-fB',-eB']
 rename_i u;simp[dr,dn,h1,h2,hs,hn,hl,q,s,t,u,-fB',-eB']
end
section
open Go.Proofs
def rF:CC:=oX [oB 2 (.mv (.const ob))] [0] [] (oX [oA 3 0,oB 4 (.cmp .geq (oT 3) (.const (.int .u8 65))),oA 5 4,oH 6 5 (.mv (oT 0)),oH 7 5 (.cmp .leq (oT 6) (.const (.int .u8 90))),oB 8 (.pick (oT 5) (oT 7) (.const ob)),oA 9 8,oI 10 9 (.mv (oT 0)),oI 11 9 (.cmp .geq (oT 10) (.const (.int .u8 97))),oI 12 9 (.mv (oT 11)),oH 13 12 (.mv (oT 0)),
 oH 14 12 (.cmp .leq (oT 13) (.const (.int .u8 122))),oI 15 9 (.pick (oT 12) (oT 14) (.const ob)),oB 16 (.pick (oT 9) (.const (.bool true)) (oT 15)),oA 17 16,oI 18 17 (.mv (oT 0)),oI 19 17 (.eql false false [.int] (oT 18) (.const (.int .u8 95))),oB 20 (.pick (oT 17) (.const (.bool true)) (oT 19)),oA 2 20] [2] [] (.ret))
def qj:List aj:=[.tmp 2]
def rE:CC:=oX [oB 2 (.mv (.const ob))] [0] [] (oX [oA 3 0,oZ 4 cE [oT 3],oA 5 4,oI 6 5 (.mv (oT 0)),oI 7 5 (.cmp .geq (oT 6) (.const (.int .u8 48))),oI 8 5 (.mv (oT 7)),oH 9 8 (.mv (oT 0)),oH 10 8 (.cmp .leq (oT 9) (.const (.int .u8 57))),oI 11 5 (.pick (oT 8) (oT 10) (.const ob)),oB 12 (.pick (oT 5) (.const (.bool true)) (oT 11)),oA 13 12,
 oI 14 13 (.mv (oT 0)),oI 15 13 (.eql false false [.int] (oT 14) (.const (.int .u8 45))),oB 16 (.pick (oT 13) (.const (.bool true)) (oT 15)),oA 2 16] [2] [] (.ret))
def qi:List aj:=[.tmp 2]
def lX:CC:=oX [oB 2 (.mv (.const ob))] [0] [] (.seq (oX [oA 4 0,oB 5 (.slen (oT 4)),oB 6 (.cmp .lss (oT 5) (oN 1)),oA 7 6,oI 8 7 (.mv (oT 0)),oI 9 7 (.slen (oT 8)),oI 10 7 (.cmp .gtr (oT 9) (oN 32)),oB 11 (.pick (oT 7) (.const (.bool true)) (oT 10)),oA 12 11,oI 13 12 (.mv (oT 0)),oI 14 12 (.sidx (oT 13) (oN 0)),oI 15 12 (.call cE [oT 14]),
 oI 16 12 (.not (oT 15)),oB 17 (.pick (oT 12) (.const (.bool true)) (oT 16))] [0,17] [] (.ite (oT 17) (oX [oB 2 (.mv (.const ob))] [2] [] (.ret)) (.skip))) (.keep [0] [] (.seq (oX [oA 18 0,oB 19 (.slen (oT 18)),oB 20 (.mv (oN 0))] [0,19,20] [] (gd 0 20 19 21 1 (oX [oA 22 20,oA 3 22] [0,3,19,20] [] (oX [oA 23 0,oA 24 3,oB 25 (.sidx (oT 23) (oT 24)),oZ 26 fD [oT 25],
 oB 27 (.not (oT 26))] [0,19,20,27] [] (.ite (oT 27) (oX [oB 2 (.mv (.const ob))] [2] [] (.ret)) (.skip)))) 28)) (.keep [] [] (oX [oB 2 (.mv (.const (.bool true)))] [2] [] (.ret))))))
def lp:List aj:=[.tmp 2]
def lW:CC:=gq Tryz.f183 [] {} _
def ln:List aj:=[.tmp 2]
def DR:FO cQ [] lW ln 24:=fo
def nw:CC:=gq Tryz.f196 [] {} _
def mV:List aj:=[.tmp 4]
def Fy:FO oQ [] nw mV 17:=fo
def xS:CC:=gq Tryz.f138 [] {} _
def wK:List aj:=[.tmp 4]
def Pu:FO zB [] xS wK 19:=fo
def cK:CC:=gq Tryz.f195 [] {} _
def cG:List aj:=[.tmp 2, .tmp 3]
def KO:FO uR [] cK cG 71:=fo
open Cod (enc dec)
variable {S S0:Nat->Spc}
def WA(c:Int):Bool:=(decide (65<=c) && decide (c<=90))||(decide (97<=c) && decide (c<=122))||decide (c=95)
def qtr(c:Int):Bool:=WA c||(decide (48<=c) && decide (c<=57))||decide (c=45)
abbrev qiJ:Spc:=aG (a1 U8) (λ_=>True) (enc (X:=Bool)) λc y=>y=WA c.val
def J1:ak rF qj S (a1 U8) (λ_=>True) (enc (X:=Bool)) λc y=>y=WA c.val:=by
 rintro⟨c⟩ -;by_cases h1:(65:Int)<=c<;>by_cases h2:c<=90<;>by_cases h3:(97:Int)<=c<;>by_cases h4:c<=122<;>by_cases h5:c=95<;>
  simp[rF,qj,WA,h1,h2,h3,h4,h5,-fB',-eB']
abbrev SA:Spc:=aG (a1 U8) (λ_=>True) (enc (X:=Bool)) λc y=>y=qtr c.val
def J0(h0:S cE=qiJ):ak rE qi S (a1 U8) (λ_=>True) (enc (X:=Bool)) λc y=>y=qtr c.val:=by
 rintro⟨c⟩ -;cases hb:WA c<;>by_cases h1:(48:Int)<=c<;>by_cases h2:c<=57<;>by_cases h3:c=45<;>
  simp[rE,qi,qtr,h0,hb,h1,h2,h3,-fB',-eB']
def qly(c:UInt8):qeJ c=WA (c.toNat:Int):=by
 unfold qeJ WA;rw[qGg];simp;omega
def qvh(c:UInt8):qBS c=qtr (c.toNat:Int):=by
 unfold qBS qtr;rw[qly];cases WA (c.toNat:Int)
 ·rw[qGg];simp;omega
 ·simp
theorem Fn(h1:S cE=qiJ)(h2:S fD=SA):ak lX lp S (a1 B) (λs=>KQ s=true) (enc (X:=Bool)) λ_ y=>y=true:=by
 rintro s hs;have hs:KQ s=true:=hs;unfold KQ at hs;simp only[qFO,decide_eq_true_eq]at hs;obtain⟨⟨⟨w,x⟩,j⟩,q⟩:=hs;simp[lX,lp,h1,h2,-fB',-eB'];have r:(1:Int)<=(s.size:Int):=by omega
 have t:(s.size:Int)<=32:=by omega
 have A:(s.size:Int)<=9223372036854775807:=by omega
 have hsl:s.data.toList.length=s.size:=qGr;refineλ_=>⟨λ_ _=>⟨λ_=>⟨by omega,λc hc=>?_⟩,t⟩,r⟩
 have a:s.data.toList[0]? =some c:=by rw[qF4];exact hc
 have hb:WA (c.toNat:Int)=true:=by
  rw[<-qly];cases hl:s.data.toList with
  |nil=>rw[hl]at a;cases a
  | cons d l=>
    rw[hl]at a j;cases a;exact j
 refine⟨hb,λ_ _=>?_⟩;refine ah (X:=Unit) [0] [] s.size (λ_ _=>True) (λ_=>[]) (λ_=>[]) () trivial ?_ ?_
 ·rintro k -hk -;obtain⟨d,p⟩:=eK (show k<s.data.toList.length by omega);have u:qtr (d.toNat:Int)=true:=by rw[<-qvh];exact qFN.1 q d (qFK p)
  have b:s.data[k]? =some d:=by rw[<-qF4];exact p
  obtain⟨_,h⟩:=qFS.1 b;simp[hk,b,h,u,h2,-fB',-eB']
 ·rintro - -;simp[-fB',-eB']
theorem Fm(h1:S rf=s_cpVal):ak lW ln S (a1 B) (λs=>DZ s=true) (enc (X:=Int)) λ_ y=>y=0:=by
 rintro s hs;have hs:DZ s=true:=hs;unfold DZ at hs;simp only[qFO,decide_eq_true_eq]at hs;obtain⟨C,l⟩:=hs;have q:Cq s=true:=by
  unfold Cq;refine qFN.2 λc hc=>?_
  have:=qFN.1 l c hc;simp at this;simp;omega
 have r:(s.size:Int)<=120:=by omega
 have t:(s.size:Int)<=9223372036854775807:=by omega
 have u:s.size<=1000:=by omega
 have w:¬(120:Int)<(s.size:Int):=by omega
 simp[lW,ln,h1,q,r,t,u,w,-fB',-eB'];intro b;refine au (X:=Nat) [] [] (λp=>p<=s.size) (λp=>[(14, .bptr 14 b 0)]) (λp=>[(14, .iter b s p)]) (λp=>s.size -p) 0 (qF3 _) ?_;rintro p hp;by_cases a:p<s.size
 ·obtain⟨c,hc,h,d⟩:=TM q a;have j:=qFN.1 l c (qFK hc);simp at j;have x:¬(c.toNat:Int)<=31:=by omega
  have A:¬(c.toNat:Int)=127:=by omega
  simp[a,d,x,A,-fB',-eB'];exact⟨p+1,by omega, .inl rfl,by omega⟩
 ·have k:p=s.size:=by omega
  subst k;simp[-fB',-eB']
def qpk(x:Cond×List Attr×List B):List D:=[enc x.1, .cptr [enc x.2.1] 0, .cptr [enc x.2.2] 0]
def qde(z b:Cond×List Attr×List B)(h:qpk z=qpk b):z=b:=by
 obtain⟨a,s,l⟩:=z;obtain⟨c,d,l'⟩:=b;unfold qpk at h;simp only[qGd,D.cptr.injEq,and_true]at h;rw[aP h.1,aP h.2.1,aP h.2.2]
noncomputable abbrev aVd:dP (Cond×List Attr×List B):=aX qpk qde
@[simp] theorem qwU(x:Cond)(a:List Attr)(lb:List B):aVd.dec [.agg [.v (.int .i64 x.op), .v (.string x.name), .v (.string x.arg), .v (.string x.val), .v (.string x.lab), .v (.bool x.fold), .list 7 (x.kids.map enc)], .cptr [.list 2 (a.map enc)] 0, .cptr [.list 1 (lb.map enc)] 0]=some (x,a,lb):=by
 have h:=Hs qpk qde (x,a,lb);have e:qpk (x,a,lb)=[.agg [.v (.int .i64 x.op), .v (.string x.name), .v (.string x.arg), .v (.string x.val), .v (.string x.lab), .v (.bool x.fold), .list 7 (x.kids.map enc)], .cptr [.list 2 (a.map enc)] 0, .cptr [.list 1 (lb.map enc)] 0]:=by simp[qpk]
 rw[<-e];exact h
noncomputable abbrev qdJ:Spc:=aG aVd (λx=>rV x.2.1 x.2.2 x.1=true/\x.2.1.length<=1000) (enc (X:=Int)) λ_ y=>y=0
def AU(h1:S rc=YI):ak iP iC S aVd (λx=>rV x.2.1 x.2.2 x.1=true/\x.2.1.length<=1000) (enc (X:=Int)) λ_ y=>y=0:=by
 rintro⟨x,a,lb⟩ ⟨b,hl⟩;simp only at b hl;rw[Fg];simp[qpk,iP,iC,h1,b,hl,-fB',-eB']
def qwq(n:Nat)(x:Cond×D×Unit):Prop:=∃(a:List Attr) (lb:List B),x.2.1= .clo cJ [.cptr [enc a] 0, .cptr [enc lb] 0]/\tX a lb n x.1=true/\a.length<=1000/\io x.1<=60
noncomputable abbrev Yy(n:Nat):Spc:=aG (aE Cond (aD a0)) (qwq n) (enc (X:=Int)) λx y=>y=0
noncomputable abbrev Yx:Spc:=aG (aE Cond (aD a0)) (λx=>∃n,qwq n x) (enc (X:=Int)) λx y=>y=0
theorem HE(n:Nat)(h1:S cJ=qdJ)(h2:S iH=Yy n):ak rN qt S (aE Cond (aD a0)) (qwq (n+1)) (enc (X:=Int)) λx y=>y=0:=by
 rintro⟨x,d,⟨⟩⟩ ⟨a,lb,p,b,hl,hn⟩;simp only at p b hn;subst p;simp only[tX,qFO]at b;obtain⟨c,h⟩:=b;simp[rN,qt,h1,c,hl,-fB',-eB'];intro q;refine ah (X:=Unit) [1,16] [] x.kids.length (λk _=>True) (λ_=>[]) (λ_=>[]) () (by simp) ?_ ?_
 ·rintro k -hk -;obtain⟨y,j⟩:=eK hk;obtain⟨_,l⟩:=qFG.1 j;have hm:=qFK j;have r:=KT hm;have s:=BC x;have hp:qwq n (y, .clo cJ [.cptr [.list 2 (a.map enc)] 0, .cptr [.list 1 (lb.map enc)] 0],()):=⟨a,lb,rfl,qFN.1 h y hm,hl,by show io y<=60;omega⟩
  simp[h2,hk,j,l,hp,-fB',-eB']
 ·rintro - -;simp[-fB',-eB']
abbrev WT(x:Cond×List Attr×List B):Prop:=qmt x.2.1 x.2.2 x.1=true/\x.2.1.length<=1000
abbrev U2:Spc:=aG (a3 Cond (List Attr) (List B)) WT (enc (X:=Int)) λ_ y=>y=0
def Df(h1:S cR=OL)(h2:S iH=Yx):ak kL kw S (a3 Cond (List Attr) (List B)) WT (enc (X:=Int)) λ_ y=>y=0:=by
 rintro⟨x,a,lb⟩ ⟨b,hl⟩;simp only at b hl;unfold qmt at b;simp at b;obtain⟨⟨hn,k⟩,c⟩:=b;have hp:∃n,qtO n (x,0,1):=⟨dB x,qFM _,qGI _,by show(0:Int) +io x<=60;omega,by show(0:Int)<=1;omega,by show(1:Int) +dB x<=1000;omega,by show dB x<=60;omega⟩
 have d:∃n,qwq n (x, .clo cJ [.cptr [.list 2 (a.map enc)] 0, .cptr [.list 1 (lb.map enc)] 0],()):=⟨20,a,lb,rfl,c,hl,hn⟩
 have h:¬(60:Int)<(io x:Int):=by omega
 have j:¬(20:Int)< 1+ (dB x:Int) -1:=by omega
 simp[kL,kw,h1,h2,hp,d,h,j,-fB',-eB']
def qj8(l:List Pair)(s:Pair):Bool:=l.any λz=>decide (z=s)
abbrev qdz:Spc:=aG (a2 (List Pair) Pair) (λ_=>True) (enc (X:=Int)) λx y=>y=fe x.1 λz=>decide (z=x.2)
abbrev qdE:Spc:=aG (a2 (List Pair) Pair) (λ_=>True) (enc (X:=Bool)) λx y=>y=qj8 x.1 x.2
theorem Ux:ak lS li S (a2 (List Pair) Pair) (λ_=>True) (enc (X:=Int)) λx y=>y=fe x.1 λz=>decide (z=x.2):=by
 rintro⟨l,s⟩ -;simp[lS,li,-fB',-eB'];intro _;refine ah (X:=Unit) [0,3] [] l.length (λk _=>∀x∈l.take k,decide (x=s)=false) (λ_=>[]) (λ_=>[]) () (by simp) ?_ ?_
 ·intro k _ hk c;obtain⟨x,d⟩:=eK hk;obtain⟨_,j⟩:=qFG.1 d;simp[hk,d,j,-fB',-eB'];have p:s.nm=x.nm->s.vl=x.vl->x=s:=λh1 h2=>by
   obtain⟨a,b⟩:=x;obtain⟨q,b'⟩:=s;simp only at h1 h2;rw[h1,h2]
  refine⟨λh1 h2=>(tE d (by simp[p h1 h2]) c).symm,λh=>?_⟩;rw[av d];intro z hz;rcases qFL.1 hz with hz|hz
  ·have:=c z hz;simpa using this
  ·simp at hz;subst hz;intro e;subst e;exact h rfl rfl
 ·intro _ c;simp[-fB',-eB'];exact(jZ (by simpa using c)).symm
def MA(h1:S nf=qdz):ak iJ iw S (a2 (List Pair) Pair) (λ_=>True) (enc (X:=Bool)) λx y=>y=qj8 x.1 x.2:=by
 rintro⟨l,s⟩ -;simp[iJ,iw,h1,-fB',-eB'];exact vJ _ l
def OV(x:Cond)(tok:Int)(r:Region):Bool:=decide (r.ty=x.name) && decide (r.b<=tok) && decide (tok<r.e) && (decide (x.arg=mq)||qj8 r.kv ⟨x.arg,x.val⟩)
def qhi(x:Cond):List D:=[.v (.int .i64 x.op), .v (.string x.name), .v (.string x.arg), .v (.string x.val), .v (.string x.lab), .v (.bool x.fold), .list 7 (x.kids.map enc)]
def qeF(x:Cond): .agg (qhi x)=enc x:=by simp[qhi]
def qoQ{x y:Cond}(h:qhi x=qhi y):x=y:=aP (by rw[<-qeF,<-qeF,h])
def qmq(x:Region×Cond×Int):List D:=[enc x.1, .cptr (qhi x.2.1) 0, .cptr [enc x.2.2] 0]
def qdf(z b:Region×Cond×Int)(h:qmq z=qmq b):z=b:=by
 obtain⟨a,s,l⟩:=z;obtain⟨c,d,l'⟩:=b;unfold qmq at h;simp only[qGd,D.cptr.injEq,and_true]at h;rw[aP h.1,qoQ h.2.1,aP h.2.2]
noncomputable abbrev qEU:dP (Region×Cond×Int):=aX qmq qdf
noncomputable abbrev Is:Spc:=aG qEU (λ_=>True) (enc (X:=Bool)) λx y=>y=OV x.2.1 x.2.2 x.1
def Dd(h1:S jn=qdE):ak bZ bW S qEU (λ_=>True) (enc (X:=Bool)) λx y=>y=OV x.2.1 x.2.2 x.1:=by
 rintro⟨r,x,tok⟩ -;rw[Fg];by_cases c:r.ty=x.name
 rotate_left
 ·simp[qmq,qhi,bZ,bW,OV,c,-fB',-eB']
 by_cases d:r.b<=tok
 rotate_left
 ·simp[qmq,qhi,bZ,bW,OV,c,d,-fB',-eB']
 by_cases j:tok<r.e
 rotate_left
 ·simp[qmq,qhi,bZ,bW,OV,c,d,j,-fB',-eB']
 by_cases h:x.arg=mq
 ·have a:x.arg=⟨#[]⟩:=h;simp[qmq,qhi,bZ,bW,OV,c,d,j,h,a,mq,-fB',-eB']
 ·have a:¬x.arg=⟨#[]⟩:=h;simp[qmq,qhi,bZ,bW,OV,h1,c,d,j,h,a,-fB',-eB']
abbrev qiE:Spc:=aG (a3 Corpus Cond Int) (λ_=>True) (enc (X:=Bool)) λx y=>y=x.1.regs.any (OV x.2.1 x.2.2)
def F8(h0:S0 cw=Is)(h1:S bQ=YP Region S0):ak nz mX S (a3 Corpus Cond Int) (λ_=>True) (enc (X:=Bool)) λx y=>y=x.1.regs.any (OV x.2.1 x.2.2):=by
 rintro⟨c,x,tok⟩ -;have a:FunOn S0 (.clo cw [.cptr (qhi x) 0, .cptr [enc tok] 0]) c.regs (OV x tok):=
  wb (f:=λr=>(r,x,tok)) h0 (λr _=>Hs qmq qdf (r,x,tok)) (λ_ _=>trivial) (λr _ y b=>b)
 unfold qhi at a;simp[nz,mX,h1,-fB',-eB'];exact⟨⟨_,a⟩,λy b=>b _ a⟩
mutual
def sa:Cond->Bool| .mk op _ _ _ _ _ ks=>decide (op=4)||Yn ks
def Yn:List Cond->Bool|[]=>false|k::ks=>sa k||Yn ks
end
def Sp:∀l:List Cond,Yn l=l.any sa
 | []=>by rw[Yn];rfl
 |k::l=>by rw[Yn,Sp l];rfl
def Np(x:Cond):sa x=(decide (x.op=4)||x.kids.any sa):=by cases x;rw[sa,Sp]
abbrev Ir(n:Nat):Spc:=aG (a1 Cond) (λx=>dB x<=n) (enc (X:=Bool)) λx y=>y=sa x
def J7(n:Nat)(h0:S0 bJ=Ir n)(h1:S bI=YP Cond S0):ak kW kO S (a1 Cond) (λx=>dB x<=n+1) (enc (X:=Bool)) λx y=>y=sa x:=by
 rintro x c;have c:dB x<=n+1:=c;have d:FunOn S0 (.clo bJ []) x.kids sa:=
  wb (f:=λk=>k) h0 (λk _=>by rw[qsD,Cod.dec_enc]) (λk hk=>by have:=Qx hk;show dB k<=n;omega) (λr _ y b=>b)
 have a:=Np x;by_cases e:x.op=4
 ·simp[kW,kO,h1,a,e,-fB',-eB']
 ·simp[kW,kO,h1,a,e,-fB',-eB'];exact⟨⟨_,d⟩,λy b=>b _ d⟩
end
section
open Cod (enc dec)
variable {dq:Prop}
@[simp] theorem qCd(s:Rp):Rp.mk s.s s.pos s.fault s.e=s:=by cases s;rfl
def uT(s:Rp):List D:=[enc s.s,enc s.pos,enc s.fault,enc s.e]
@[simp] theorem qzk(s:Rp):uT s=[enc s.s,enc s.pos,enc s.fault,enc s.e]:=i' rfl
section
variable {Y Z:Type}
def qq4:Nj Rp:=Nh uT
def qAw(A:dP Z)(er:Y->D)(pre:Rp->Z->Prop)(post:Rp->Z->Rp->Y->Prop):Spc:=qsw qq4 A er pre post
def qDP(er:Y->D)(pre:Rp->Z->Prop)(post:Rp->Z->Rp->Y->Prop)(id b:Nat)(r:Option Res)(o:Option Z)(H:ab)(K:D->ab->Prop):Prop:=
 ∃x,r=some (.box b (uT x))/\eL o λz=>pre x z/\∀a y,post x z a y->K (er y) (ai H id (some (.box b (uT a))))
def qlp{x y:Rp}(h:uT x=uT y):x=y:=by
 obtain⟨l,a,d,e⟩:=x;obtain⟨l',b,c,j⟩:=y;simp only[uT,qGd]at h;obtain⟨h1,h2,h3,h4,_⟩:=h;have h1:=aP h1;have h2:=aP h2;have h3:=aP h3;have h4:=aP h4;subst h1;subst h2;subst h3;subst h4;rfl
@[simp] theorem qq3(A:dP Z)(er:Y->D)(pre:Rp->Z->Prop)(post:Rp->Z->Rp->Y->Prop)(d i b:Nat)(ds:List D)(H:ab)(K:D->ab->Prop):(qAw A er pre post).pt d (.bptr i b 0::ds) H K=qDP er pre post i b (H i) (A.dec ds) H K:=by
 refine propext ⟨λh=>?_,λh=>?_⟩
 ·obtain⟨id,b',x,z,a,h1,h2,h3,h4,h5,h6,c⟩:=h;cases h1;refine⟨x,h3,?_⟩;rw[h2];exact⟨h6,c⟩
 ·obtain⟨x,h1,h2⟩:=h;cases hz:A.dec ds with
  |none=>rw[hz]at h2;exact h2.elim
  |some z=>rw[hz]at h2;exact⟨i,b,x,z,ds,rfl,hz,h1,λp hp=>by simp[qq4,Nh]at hp,by simp[qq4,Nh],h2.1,h2.2⟩
def JL(er:Y->D)(b:Nat)(post:Rp->Y->Prop)(r:D)(H:ab):Prop:=Mj qq4 er b post r H
def Jm{er:Y->D}{b:Nat}{post:Rp->Y->Prop}{r:D}{H:ab}(x:Rp)(y:Y)(a:FrzTo (λi=>if i=0 then none else H i) r (er y))(h0:H 0=some (.box b (uT x)))(c:post x y):JL er b post r H:=
 ⟨x,y,by simpa [qq4,Nh]using a,h0,λp hp=>by simp[qq4,Nh]at hp,c⟩
def xW(cc:CC)(rs:List aj)(S:Nat->Spc)(A:dP Z)(er:Y->D)(pre:Rp->Z->Prop)(post:Rp->Z->Rp->Y->Prop):Prop:=
 ∀b x z,pre x z->vc S cc (vE rs λr H'=>JL er b (post x z) r H') (dR (.bptr 0 b 0::A.view z)) (ai bS 0 (some (.box b (uT x))))
variable {P:Program}{S:Nat->Spc}{f:Nat}{im:List Nat}{cc:CC}{rs:List aj}{N:Nat}
def qbv{A:dP Z}{er:Y->D}{pre:Rp->Z->Prop}{post:Rp->Z->Rp->Y->Prop}(a:∀f,Tri dq P f (S f).pt)(h:zY P f im cc rs N)(c:∀z,(A.view z).length+1<=N)(d:xW cc rs S A er pre post):Tri dq P f (qAw A er pre post).pt:=
 wl (by simp[qq4,Nh]) a h c λb x z hp=>d b x z hp
end
section
variable {Y Z:Type}
def qhf(A:dP Z)(er:Y->D)(F:Rp->Z->Option (Rp×Y)):Spc:=qAw A er (λs z=>∃r,F s z=some r) (λs z a y=>F s z=some (a,y))
def qiT(er:Y->D)(F:Rp->Z->Option (Rp×Y))(id b:Nat)(r:Option Res)(o:Option Z)(H:ab)(K:D->ab->Prop):Prop:=
 ∃x,r=some (.box b (uT x))/\eL o λz=>eL (F x z) λq=>K (er q.2) (ai H id (some (.box b (uT q.1))))
@[congr] theorem qxf{er:Y->D}{F:Rp->Z->Option (Rp×Y)}{id b:Nat}{r r':Option Res}{o a:Option Z}{H:ab}{K:D->ab->Prop}(h1:r=r')(h2:o=a):qiT er F id b r o H K=qiT er F id b r' a H K:=by subst h1;subst h2;rfl
def qro{F:Option (Rp×Y)}{k:Rp->Y->Prop} :((∃r,F=some r)/\∀a y,F=some (a,y)->k a y)=eL F λq=>k q.1 q.2:=by
 cases F with
 | none=>
   refine propext (Iff.intro (λh=>?_) (λh=>?_))
   ·obtain⟨⟨r,h⟩,_⟩:=h;cases h
   ·exact False.elim h
 | some r=>
   refine propext (Iff.intro (λh=>h.2 _ _ rfl) (λh=>⟨⟨_,rfl⟩,λa y e=>?_⟩));cases e;exact h
@[simp] theorem qAu(A:dP Z)(er:Y->D)(F:Rp->Z->Option (Rp×Y))(d i b:Nat)(ds:List D)(H:ab)(K:D->ab->Prop):(qhf A er F).pt d (.bptr i b 0::ds) H K=qiT er F i b (H i) (A.dec ds) H K:=by
 unfold qhf qiT;rw[qq3];unfold qDP;refine propext (exists_congr λx=>and_congr_right λ_=>?_);cases A.dec ds with
 |none=>exact qG4
 |some z=>exact iff_of_eq qro
@[simp] theorem qAv(er:Y->D)(F:Rp->Z->Option (Rp×Y))(id b:Nat)(l:B)(p a e:Int)(o:Option Z)(H:ab)(K:D->ab->Prop):
 qiT er F id b (some (.box b [.v (.string l), .v (.int .i64 p), .v (.int .i64 a), .v (.int .i64 e)])) o H K=eL o λz=>eL (F ⟨l,p,a,e⟩ z) λq=>K (er q.2) (ai H id (some (.box b (uT q.1)))):=by
 refine propext ⟨λ⟨x,h1,h2⟩=>?_,λh=>⟨⟨l,p,a,e⟩,rfl,h⟩⟩;have c:uT ⟨l,p,a,e⟩=uT x:=by
  have:=qFT h1;exact(Res.box.inj this).2
 have:=qlp c;subst this;exact h2
variable {P:Program}{S:Nat->Spc}{f:Nat}{im:List Nat}{cc:CC}{rs:List aj}{N:Nat}
def gy{A:dP Z}{er:Y->D}{F:Rp->Z->Option (Rp×Y)}(a:∀f,Tri dq P f (S f).pt)(h:zY P f im cc rs N)(b:∀z,(A.view z).length+1<=N)
 (c:xW cc rs S A er (λs z=>∃r,F s z=some r) (λs z d y=>F s z=some (d,y))):Tri dq P f (qhf A er F).pt:=qbv a h b c
end
end
section
open Go.Proofs
def gN:CC:=gq Tryz.f286 [] { ke:=[0] } _
def gB:List aj:=[.tmp 2]
def DM:FO bG [] gN gB 29:=fo
def lU:CC:=gq Tryz.f333 [] { bx:=[0] } _
def ll:List aj:=[]
def DL:FO ng [] lU ll 25:=fo
def gl:CC:=gq Tryz.f325 [] { bx:=[0] } _
def gh:List aj:=[.tmp 4, .tmp 5]
def yd:FO eM [] gl gh 37:=fo
def jx:CC:=gq Tryz.f329 [] { bx:=[0] } _
def jd:List aj:=[.tmp 2, .tmp 3]
def Bv:FO kC [] jx jd 27:=fo
def B1:CC:=gq Tryz.f322 [] {} _
def A1:List aj:=[.cell 4 true 5]
def Vi:FO D9 [] B1 A1 10:=fo
def fb:CC:=gq Tryz.f314 [2002002] { bx:=[0] } _
def eT:List aj:=[.cell 2 true 5, .tmp 3]
def DN:FO nh [2002002] fb eT 72:=fo
def kI:CC:=gq Tryz.f323 [] { ke:=[0] } _
def ko:List aj:=[.cell 2 true 5, .tmp 3]
def CW:FO lK [] kI ko 108:=fo
def jw:CC:=gq Tryz.f305 [] { bx:=[0] } _
def jc:List aj:=[.cell 2 true 5, .tmp 3]
def Bu:FO kB [] jw jc 54:=fo
def jy:CC:=gq Tryz.f285 [] { ke:=[0] } _
def je:List aj:=[.cell 2 true 5, .tmp 3]
def Bw:FO kD [] jy je 49:=fo
def kH:CC:=gq Tryz.f253 [] { ke:=[0] } _
def km:List aj:=[.cell 2 true 5, .tmp 3]
def CV:FO lJ [] kH km 44:=fo
open Cod (enc dec)
variable {S S0:Nat->Spc}
abbrev s_decR:Spc:=aG (a1 B) (λs=>∃c,s.data[0]? =some c/\c.toNat< 128) (kZ (Y:=I32) (Z:=Int)) λs y=>∀c,s.data[0]? =some c->y=(⟨c.toNat⟩,1)
abbrev s_crune:Spc:=aG (a2 B I32) (λx=>0<=x.2.val/\x.2.val< 128) (enc (X:=Bool)) λx y=>y=qoc x.1 x.2.val
def EN{p:Rp}{c:Int}(h:Qy p=some c):p.s.size<=200/\((p.pos=p.s.size/\c= -1)\/(0<=p.pos/\p.pos<p.s.size/\p.pos≠p.s.size/\∃x:UInt8,p.s.data[p.pos.toNat]? =some x/\x.toNat< 128/\c=x.toNat)):=by
 unfold Qy at h;split at h
 ·cases h
 rename_i j;refine⟨by omega,?_⟩;split at h
 ·exact .inl ⟨by assumption,(qFT h).symm⟩
 ·rename_i a;split at h
  ·rename_i h0;split at h
   ·rename_i x d;split at h
    ·rename_i b;have k:=(qFS.1 d).1;refine .inr ⟨h0,?_,a,x,d,b,(qFT h).symm⟩;show p.pos<(p.s.data.size:Int);omega
    ·cases h
   ·cases h
  ·cases h
def qEs{s:B}{k:Nat}{x:UInt8}(h:s.data[k]? =some x):(s.extract k s.size).data[0]? =some x:=by
 obtain⟨h1,h2⟩:=qFS.1 h;rw[ByteArray.data_extract,qHI];have:0<min s.size s.data.size -k:=by
  have:s.size=s.data.size:=rfl;omega
 rw[if_pos this,qGS];exact h
abbrev ym:Spc:=qhf a0 (enc (X:=I32)) mM
theorem TZ(h1:S dE=s_decR):xW gN gB S a0 (enc (X:=I32)) (λs z=>∃r,mM s z=some r) (λs z d y=>mM s z=some (d,y)):=by
 rintro b s ⟨⟩ ⟨r,q⟩;obtain⟨c,hc,_⟩:=qFR.1 q;have fin:∀{H:ab},H 0=some (.box b (uT s))->JL (enc (X:=I32)) b (λd y=>mM s ()=some (d,y)) (.v (.int .i32 c)) H:=λh0=>Jm s ⟨c⟩ (.same _) h0 (by simp[mM,hc])
 obtain⟨t,j⟩:=EN hc;rcases j with⟨l,rfl⟩|⟨h0,h2,h3,x,u,k,rfl⟩
 ·simp[gN,gB,l,-fB',-eB'];exactλ_=>fin (by simp[l])
 ·have p:(s.s.data.extract s.pos.toNat s.s.size)[0]? =some x:=by rw[<-ByteArray.data_extract];exact qEs u
  simp[gN,gB,h1,h0,h2,h3,-fB',-eB'];refineλ_=>⟨by omega,⟨x,p,k⟩,λa b1 h=>?_⟩
  obtain⟨rfl,rfl⟩:=h x p;exact fin (by simp)
abbrev qdl:Spc:=qhf a0 Wh Sl
theorem TY(h1:S dE=s_decR):xW lU ll S a0 Wh (λs z=>∃r,Sl s z=some r) (λs z d y=>Sl s z=some (d,y)):=by
 rintro b s ⟨⟩ ⟨r,q⟩;obtain⟨c,hc,h⟩:=qFF.1 q;split at h
 ·rename_i j;have fin:∀{H:ab},H 0=some (.box b (uT s.bump))->JL Wh b (λd y=>Sl s ()=some (d,y)) (.tup []) H:=λh0=>Jm s.bump () (.same _) h0 (by simp[Sl,hc,j])
  obtain⟨t,k⟩:=EN hc;rcases k with⟨w,rfl⟩|⟨h0,h2,h3,x,u,l,rfl⟩
  ·omega
  ·have p:(s.s.data.extract s.pos.toNat s.s.size)[0]? =some x:=by rw[<-ByteArray.data_extract];exact qEs u
   simp[lU,ll,h1,h0,h2,h3,-fB',-eB'];refine⟨by omega,⟨x,p,l⟩,λa b1 h=>?_⟩;obtain⟨rfl,rfl⟩:=h x p;exact⟨by simp only[InR];omega,fin (by simp[Rp.bump])⟩
 ·cases h
abbrev qov:(I32×Bool)->D:=kZ (Y:=I32) (Z:=Bool)
abbrev UU:Spc:=qhf (a1 B) qov FW
def Hz(h1:S bG=ym)(h2:S ng=qdl):xW gl gh S (a1 B) qov (λs z=>∃r,FW s z=some r) (λs z a y=>FW s z=some (a,y)):=by
 rintro b s l ⟨r,d⟩;obtain⟨c,hc,h⟩:=qFF.1 d;split at h
 ·cases h
 ·rename_i hn;have j:0<=c:=by omega
  have k:c≠92:=λe=>hn (.inr e)
  simp[gl,gh,h1,h2,mM,Sl,hc,j,k,-fB',-eB'];exact Jm s.bump (⟨c⟩,true) (.same _) (by simp) (by simp[FW,hc,hn])
abbrev qic:Spc:=qhf a0 qov Zi
theorem NL(h1:S bG=ym)(h2:S jm=s_crune)(h3:S eM=UU):xW jx jd S a0 qov (λs z=>∃r,Zi s z=some r) (λs z d y=>Zi s z=some (d,y)):=by
 rintro b s ⟨⟩ ⟨r,k⟩;obtain⟨c,hc,h⟩:=qFF.1 k;split at h
 ·cases h
 ·rename_i hn;have l:¬c< 0:=λe=>hn (.inl e)
  have p:qoc qeD c=false:=by
   cases e:qoc qeD c with
   |false=>rfl
   |true=>exact absurd (.inr e) hn
  have j:=EN hc;have a:c< 128:=by
   rcases j.2 with⟨_,rfl⟩|⟨_,_,_,x,_,q,rfl⟩ <;>omega
  have t:qoc ⟨#[92,91,93,94,45]⟩ c=false:=p;have h4:FW s ⟨#[92,91,93,94,45]⟩=some r:=h;simp[jx,jd,h1,h2,h3,mM,hc,l,t,h4,a,-fB',-eB'];obtain⟨d,⟨c'⟩,t'⟩:=r;intro u;refine⟨λ_=>⟨u,Jm d (⟨c'⟩,t') (.same _) (by simp) (by simp[Zi,hc,hn,h])⟩,λ_=>Jm d (⟨c'⟩,t') (.same _) (by simp) (by simp[Zi,hc,hn,h])⟩
def VY{H:ab}{op mn mx:Int}{b d:D}(rs:List Rng)(ks:List Rx)(h3:FrzTo H b (enc rs))(h4:FrzTo H d (enc ks)):FrzTo H (.agg [.v (.int .i64 op), .v (.int .i64 mn), .v (.int .i64 mx),b,d]) (enc (Rx.mk op mn mx rs ks)):=by
 rw[qkH];refine .agg rfl λk c c' hc a=>?_
 match k with
 | 0=>cases hc;cases a;exact .same _
 | 1=>cases hc;cases a;exact .same _
 | 2=>cases hc;cases a;exact .same _
 | 3=>cases hc;cases a;exact h3
 | 4=>cases hc;cases a;exact h4
 |k+5=>simp at hc
abbrev qib:Spc:=aG (a2 I32 I32) (λ_=>True) (enc (X:=Rx)) λx y=>y=qh5 x.1.val x.2.val
def Xg:ak B1 A1 S (a2 I32 I32) (λ_=>True) (enc (X:=Rx)) λx y=>y=qh5 x.1.val x.2.val:=by
 rintro⟨x,y⟩ -;simp[B1,A1,qh5];exactλb=>aL (Y:=Rx) ⟨1,0,0, [⟨x,y⟩], []⟩ (VY [⟨x,y⟩] [] (.same _) (.nil _)) rfl
abbrev Hi:(Rx×Bool)->D:=kZ (Y:=Rx) (Z:=Bool)
abbrev qid:Spc:=qhf a0 Hi qoM
abbrev qdm:Spc:=qhf a0 Hi qeL
def qvs{b:Nat}{post:Rp->(Rx×Bool)->Prop}{x:Rx}{v:Bool}{H:ab}(s:Rp)(h0:H 0=some (.box b (uT s)))(a:post s (x,v)):JL Hi b post (.tup [enc x, .v (.bool v)]) H:=Jm s (x,v) (.same _) h0 a
def G9{b:Nat}{post:Rp->(Rx×Bool)->Prop}{x:Rx}{v:Bool}{H:ab}(s:Rp)(h0:H 0=some (.box b (uT s)))(a:post s (x,v)):JL Hi b post (.tup [.agg [.v (.int .i64 x.op), .v (.int .i64 x.mn), .v (.int .i64 x.mx), .list 2 (x.rs.map enc), .list 5 (x.kids.map enc)], .v (.bool v)]) H:=by
 have e:(D.agg [.v (.int .i64 x.op), .v (.int .i64 x.mn), .v (.int .i64 x.mx), .list 2 (x.rs.map enc), .list 5 (x.kids.map enc)])=enc x:=by simp
 rw[e];exact qvs s h0 a
set_option maxHeartbeats 1000000 in
theorem T0(h1:S bG=ym)(h2:S D9=qib)(h3:S lK=qid)(h4:S jm=s_crune)(h5:S eM=UU):xW fb eT S a0 Hi (λs z=>∃r,qeL s z=some r) (λs z s' y=>qeL s z=some (s',y)):=by
 rintro b s ⟨⟩ ⟨r,hr⟩;have hr0:=hr;obtain⟨c,hc,h⟩:=qFF.1 hr;have hsz:=EN hc;have h128:c< 128:=by
  rcases hsz.2 with⟨_,rfl⟩|⟨_,_,_,x,_,hlt,rfl⟩ <;>omega
 split at h
 ·cases h
 rename_i e40;split at h
 ·rename_i e46;subst e46;have hp:InR .i64 (s.pos+1):=by
   rcases hsz.2 with⟨_,e⟩|⟨_,_,_,x,_,hlt,e⟩
   ·cases e
   ·simp only[InR];omega
  cases h;simp[fb,eT,h1,h2,mM,hc,hp,-fB',-eB'];exactλ_=>G9 s.bump (by simp[Rp.bump]) hr0
 rename_i e46;split at h
 ·rename_i e91;subst e91;obtain⟨s',x',t'⟩:=r;simp[fb,eT,h1,h3,mM,hc,h,-fB',-eB'];exactλ_=>G9 s' (by simp) hr0
 rename_i e91;split at h
 ·cases h
 ·rename_i hn;obtain⟨q,hq,rfl⟩:=qFR.1 h;obtain⟨s',⟨c'⟩,t'⟩:=q;have hq':=hq;obtain⟨c2,hc2,h'⟩:=qFF.1 hq';rw[hc]at hc2;obtain rfl:=qFT hc2;split at h'
  ·cases h'
  rename_i hn2;have n0:0<=c:=by omega
  have n92:c≠92:=λe=>hn2 (.inr e)
  have nin:qoc ⟨#[92,46,91,93,40,41,123,125,124,42,43,63]⟩ c=false:=by
   cases e:qoc ⟨#[92,46,91,93,40,41,123,125,124,42,43,63]⟩ c with
   |false=>rfl
   |true=>exact absurd ⟨n92,e⟩ hn
  have hq2:FW s ⟨#[92,46,91,93,40,41,123,125,124,42,43,63]⟩=some (s',⟨c'⟩,t'):=hq;simp[fb,eT,h1,h2,h4,h5,mM,hc,e40,e46,e91,n0,n92,h128,nin,hq2,-fB',-eB'];exactλ_=>G9 s' (by simp) hr0
abbrev qia:Spc:=qhf a0 Hi qi0
def qeH{p:Rp}{c:Int}(h:Qy p=some c):c< 128/\ -1<=c/\(0<=c->InR .i64 (p.pos+1)):=by
 obtain⟨h1,h2⟩:=EN h;rcases h2 with⟨_,rfl⟩|⟨_,_,_,x,_,a,rfl⟩
 ·exact⟨by omega,by omega,λh=>absurd h (by omega)⟩
 ·exact⟨by omega,by omega,λ_=>by simp only[InR];omega⟩
def qfP{c:Int}{m:Int×Int}(h:Rz c=some m):c=42/\m=(0, -1)\/c=43/\m=(1, -1)\/c=63/\m=(0,1):=by
 unfold Rz at h;split at h
 ·exact .inl ⟨by assumption,(qFT h).symm⟩
 split at h
 ·exact .inr (.inl ⟨by assumption,(qFT h).symm⟩)
 split at h
 ·exact .inr (.inr ⟨by assumption,(qFT h).symm⟩)
 cases h
def SJ{c:Int}(h:Rz c=none):c≠42/\c≠43/\c≠63:=by
 unfold Rz at h;refine⟨λe=>?_,λe=>?_,λe=>?_⟩ <;>(subst e;simp at h)
def A0(o:Option (Int×Int))(x:Rx):List D:=match o with
 |none=>[.v (.int .i64 x.op), .v (.int .i64 x.mn), .v (.int .i64 x.mx), .list 2 (x.rs.map enc), .list 5 (x.kids.map enc)]
 |some m=>[.v (.int .i64 4), .v (.int .i64 m.1), .v (.int .i64 m.2), .v (.slice none 0 0), .list 5 [enc x]]
def qvr{b:Nat}{post:Rp->(Rx×Bool)->Prop}{m:Int×Int}{e:Rx}{H:ab}(s:Rp)(h0:H 0=some (.box b (uT s)))(d:post s (⟨4,m.1,m.2, [], [e]⟩,true)):JL Hi b post (.tup [.agg (A0 (some m) e), .v (.bool true)]) H:=by
 refine Jm s (⟨4,m.1,m.2, [], [e]⟩,true) (.tup rfl λk c c' hc a=>?_) h0 d
 match k with
 | 0=>cases hc;cases a;exact VY [] [e] (.nil _) (.same _)
 | 1=>cases hc;cases a;exact .same _
 |k+2=>simp at hc
set_option maxHeartbeats 2000000 in
theorem NJ(h1:S bG=ym)(h2:S nh=qdm):xW jw jc S a0 Hi (λs z=>∃r,qi0 s z=some r) (λs z s' y=>qi0 s z=some (s',y)):=by
 rintro b s ⟨⟩ ⟨r,hr⟩;have hr0:=hr;obtain⟨⟨s1,e,ok⟩,ha,h⟩:=qFF.1 hr;simp only at h;split at h
 rotate_left
 ·cases h
 rename_i hok;subst hok;obtain⟨c,hc,h⟩:=qFF.1 h;split at h
 ·cases h
 rename_i e123;have hcc:=qeH hc;simp[jw,jc,h2,ha,-fB',-eB'];intro b2 b4;refine au (X:=Option (Int×Int)) [0,2,4,5] [2] (λo=>∀m,o=some m->Rz c=some m) (λ_=>[]) (λo=>[(0, .box b (uT (match o with|none=>s1|some _=>s1.bump))),(4, .box b4 (A0 o e))]) (λo=>match o with|none=>1|some _=>0) none (λm h=>by cases h) ?_ (hh:=by simp[A0]);rintro(_|m) hP
 ·cases hm:Rz c with
  | none=>
    rw[hm]at h;cases h;obtain⟨n1,n2,n3⟩:=SJ hm;simp[A0,h1,mM,hc,n1,n2,n3,e123,-fB',-eB'];exact G9 s1 (by simp) hr0
  | some m=>
    rcases qfP hm with⟨rfl,rfl⟩|⟨rfl,rfl⟩|⟨rfl,rfl⟩
    all_goals
     have hin:=hcc.2.2 (by omega);simp[A0,h1,mM,hc,hin,-fB',-eB']
     first
      |exact⟨some (0, -1),by simp,⟨.inl ⟨rfl,rfl,rfl,rfl⟩, .inl rfl⟩,rfl⟩
      |exact⟨some (1, -1),by simp,⟨.inl ⟨rfl,rfl,rfl,rfl⟩, .inl rfl⟩,rfl⟩
      |exact⟨some (0,1),by simp,⟨.inl ⟨rfl,rfl,rfl,rfl⟩, .inl rfl⟩,rfl⟩
 ·have hm:=hP m rfl;rw[hm]at h;simp only at h;obtain⟨d,hd,h⟩:=qFF.1 h;split at h
  ·cases h
  rename_i hn;cases h;have hd':d≠123/\Rz d=none:=⟨λe=>hn (.inl e),by
   cases q:Rz d with
   |none=>rfl
   |some q'=>exact absurd (.inr (by rw[q];rfl)) hn⟩
  obtain⟨n1,n2,n3⟩:=SJ hd'.2;have n4:=hd'.1;simp[A0,h1,mM,hd,n1,n2,n3,n4,-fB',-eB'];simpa [A0,-fB',-eB']using qvr (e:=e) (m:=m) s1.bump (by simp) hr0
end
end Go.Gv
