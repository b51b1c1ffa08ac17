/- A part of the framework and of the walks: W150 V3 V55 W151 W152 W153. -/
import Derived.Test.YtphdikcommfnhaaGreatDoorGd21
import Derived.Test.YtphdikcommfnhaaGreatDoorGd19
import Derived.Test.YtphdikcommfnhaaGreatDoorGd26
import Derived.Test.YtphdikcommfnhaaGreatDoorGd20
import Derived.Test.YtphdikcommfnhaaGreatDoorGd28
set_option linter.unusedSimpArgs false
set_option linter.unusedVariables false
set_option linter.unusedSectionVars false
set_option maxRecDepth 100000

namespace Go.Gv
open Cod (enc dec)
variable {S S0:Nat->Spc}
def FunOn{X Y:Type}[Cod X][Cod Y](S:Nat->Spc)(d:D)(l:List X)(p:X->Y):Prop:=
 ∃g caps pc,d= .clo g caps/\S g= .pure pc/\∀x∈l,pc.pre (enc x::caps)/\∀r,pc.post (enc x::caps) r->r=enc (p x)
theorem FunOn.useB{X:Type}[Cod X]{S:Nat->Spc}{d:D}{l:List X}{p:X->Bool}(h:FunOn S d l p){x:X}(hx:x∈l){d':Nat}{H:ab}{K:D->ab->Prop}(hk:∀y:Bool,(∀q:X->Bool,FunOn S d l q->y=q x)->K (.v (.bool y)) H):zV S d d' [enc x] H K:=by
 obtain⟨g,caps,pc,rfl,h1,h2⟩:=h
 simp only[zV,h1,Spc.pt]
 refine⟨(h2 x hx).1,fun r hr=>?_⟩
 have e:=(h2 x hx).2 r hr
 rw[e]
 refine hk (p x) fun q hq=>?_
 obtain⟨g',caps',pc',e',k1,k2⟩:=hq
 cases e'
 rw[h1]at k1
 cases k1
 exact aL (e.symm.trans ((k2 x hx).2 r hr))
theorem vV{X Y Z:Type}[Cod X][Cod Y]{S:Nat->Spc}{g:Nat}{caps:List D}{A:df Z}{pre:Z->Prop}{post:Z->Y->Prop}{l:List X}{p:X->Y}{f:X->Z}(h:S g=bj A pre enc post)(hd:∀x∈l,A.dec (enc x::caps)=some (f x))(hp:∀x∈l,pre (f x))(hq:∀x∈l,∀y,post (f x) y->y=p x):FunOn S (.clo g caps) l p:=by
 refine⟨g,caps,_,rfl,h,fun x hx=>⟨⟨f x,hd x hx,hp x hx⟩,fun r hr=>?_⟩⟩
 obtain⟨y,h1,h2⟩:=hr (f x) (hd x hx) (hp x hx)
 rw[h1,hq x hx y h2]
def TW{X:Type}[Cod X](S0:Nat->Spc)(x:List X×D×Unit):Prop:=∃p:X->Bool,FunOn S0 x.2.1 x.1 p
def qei{X:Type}[Cod X](S0:Nat->Spc)(x:List X×D×Unit)(y:Int):Prop:=∀p:X->Bool,FunOn S0 x.2.1 x.1 p->y=gi x.1 p
def qhv{X:Type}[Cod X](S0:Nat->Spc)(x:List X×D×Unit)(y:Bool):Prop:=∀p:X->Bool,FunOn S0 x.2.1 x.1 p->y=x.1.any p
abbrev Ii(X:Type)[Cod X](S0:Nat->Spc):Spc:=bj (aE (List X) (aD a0)) (TW S0) (enc (X:=Int)) (qei S0)
abbrev Na(X:Type)[Cod X](S0:Nat->Spc):Spc:=bj (aE (List X) (aD a0)) (TW S0) (enc (X:=Bool)) (qhv S0)
theorem Hu:ar dO dG S (aE (List Attr) (aD a0)) (TW S) (enc (X:=Int)) (qei S):=by
 rintro⟨l,d,⟨⟩⟩ ⟨p,hp⟩
 simp only at hp
 simp[dO,dG, -Bool.forall_bool, -Bool.exists_bool]
 intro _
 refine aj (X:=Unit) [0,1] [] l.length (fun k _=>∀p:Attr->Bool,FunOn S d l p->∀x∈l.take k,p x=false) (fun _=>[]) (fun _=>[]) () (by simp) (by simp) (by omega) (by simp) (by simp) (by simp) (by simp) (by simp) ?_ ?_
 ·intro k _ hk hP
  obtain⟨x,hx⟩:∃x,l[k]? =some x:=⟨_,qtW hk⟩
  obtain⟨_,hgx⟩:=qtV.1 hx
  simp[hk,hx,hgx, -Bool.forall_bool, -Bool.exists_bool]
  refine hp.useB (x:=x) (qtY hx) fun y hy=>?_
  simp[-Bool.forall_bool, -Bool.exists_bool]
  refine⟨fun h=>?_,fun h p' hp'=>?_⟩
  ·intro p' hp'
   exact(tZ hx (by rw[<-hy p' hp',h]) (hP p' hp')).symm
  ·rw[bJ hx]
   intro z hz
   rcases qtZ.1 hz with hz|hz
   ·exact hP p' hp' z hz
   ·simp at hz;subst hz;rw[<-hy p' hp',h]
 ·intro _ hP
  simp[-Bool.forall_bool, -Bool.exists_bool]
  intro p' hp'
  exact(mz (by simpa using hP p' hp')).symm
theorem VR:ar fK fG S (aE (List Cond) (aD a0)) (TW S) (enc (X:=Int)) (qei S):=by
 rintro⟨l,d,⟨⟩⟩ ⟨p,hp⟩
 simp only at hp
 simp[fK,fG, -Bool.forall_bool, -Bool.exists_bool]
 intro _
 refine aj (X:=Unit) [0,1] [] l.length (fun k _=>∀p:Cond->Bool,FunOn S d l p->∀x∈l.take k,p x=false) (fun _=>[]) (fun _=>[]) () (by simp) (by simp) (by omega) (by simp) (by simp) (by simp) (by simp) (by simp) ?_ ?_
 ·intro k _ hk hP
  obtain⟨x,hx⟩:∃x,l[k]? =some x:=⟨_,qtW hk⟩
  obtain⟨_,hgx⟩:=qtV.1 hx
  simp[hk,hx,hgx, -Bool.forall_bool, -Bool.exists_bool]
  have e:D.agg [.v (.int .i64 x.op), .v (.string x.name), .v (.string x.arg), .v (.string x.val), .v (.string x.lab), .v (.bool x.fold), .list 7 (x.kids.map enc)]=enc x:=by simp
  rw[e]
  refine hp.useB (x:=x) (qtY hx) fun y hy=>?_
  simp[-Bool.forall_bool, -Bool.exists_bool]
  refine⟨fun h=>?_,fun h p' hp'=>?_⟩
  ·intro p' hp'
   exact(tZ hx (by rw[<-hy p' hp',h]) (hP p' hp')).symm
  ·rw[bJ hx]
   intro z hz
   rcases qtZ.1 hz with hz|hz
   ·exact hP p' hp' z hz
   ·simp at hz;subst hz;rw[<-hy p' hp',h]
 ·intro _ hP
  simp[-Bool.forall_bool, -Bool.exists_bool]
  intro p' hp'
  exact(mz (by simpa using hP p' hp')).symm
theorem VS(h1:S dT=Ii Cond S0):ar ek eh S (aE (List Cond) (aD a0)) (TW S0) (enc (X:=Bool)) (qhv S0):=by
 rintro⟨l,d,⟨⟩⟩ hp
 simp[ek,eh,h1, -Bool.forall_bool, -Bool.exists_bool]
 refine⟨hp,fun y hy p' hp'=>?_⟩
 rw[hy p' hp']
 exact tY p' l
theorem FC:ar eJ eC S (aE (List Region) (aD a0)) (TW S) (enc (X:=Int)) (qei S):=by
 rintro⟨l,d,⟨⟩⟩ ⟨p,hp⟩
 simp only at hp
 simp[eJ,eC, -Bool.forall_bool, -Bool.exists_bool]
 intro _
 refine aj (X:=Unit) [0,1] [] l.length (fun k _=>∀p:Region->Bool,FunOn S d l p->∀x∈l.take k,p x=false) (fun _=>[]) (fun _=>[]) () (by simp) (by simp) (by omega) (by simp) (by simp) (by simp) (by simp) (by simp) ?_ ?_
 ·intro k _ hk hP
  obtain⟨x,hx⟩:∃x,l[k]? =some x:=⟨_,qtW hk⟩
  obtain⟨_,hgx⟩:=qtV.1 hx
  simp[hk,hx,hgx, -Bool.forall_bool, -Bool.exists_bool]
  refine hp.useB (x:=x) (qtY hx) fun y hy=>?_
  simp[-Bool.forall_bool, -Bool.exists_bool]
  refine⟨fun h=>?_,fun h p' hp'=>?_⟩
  ·intro p' hp'
   exact(tZ hx (by rw[<-hy p' hp',h]) (hP p' hp')).symm
  ·rw[bJ hx]
   intro z hz
   rcases qtZ.1 hz with hz|hz
   ·exact hP p' hp' z hz
   ·simp at hz;subst hz;rw[<-hy p' hp',h]
 ·intro _ hP
  simp[-Bool.forall_bool, -Bool.exists_bool]
  intro p' hp'
  exact(mz (by simpa using hP p' hp')).symm
theorem FD(h1:S bK=Ii Region S0):ar dP dH S (aE (List Region) (aD a0)) (TW S0) (enc (X:=Bool)) (qhv S0):=by
 rintro⟨l,d,⟨⟩⟩ hp
 simp[dP,dH,h1, -Bool.forall_bool, -Bool.exists_bool]
 refine⟨hp,fun y hy p' hp'=>?_⟩
 rw[hy p' hp']
 exact tY p' l
end Go.Gv

namespace Go.Gv
instance:Inhabited Cond:=⟨⟨0,⟨#[]⟩,⟨#[]⟩,⟨#[]⟩,⟨#[]⟩,false, []⟩⟩
instance:Inhabited Pat:=⟨⟨0,default,⟨#[]⟩,⟨#[]⟩,0,0, []⟩⟩
def lj:Cond:=⟨0,⟨#[]⟩,⟨#[]⟩,⟨#[]⟩,⟨#[]⟩,false, []⟩
mutual
def fk:Pat->Nat| .mk _ _ _ _ _ _ ks=>FN ks+1
def FN:List Pat->Nat|[]=>0|k::ks=>max (fk k) (FN ks)
end
mutual
def mg:Cond->Nat| .mk _ _ _ _ _ _ ks=>kE ks+1
def kE:List Cond->Nat|[]=>0|k::ks=>max (mg k) (kE ks)
end
mutual
def tJ:Pat->Nat| .mk _ _ _ _ _ _ ks=>fj ks+1
def fj:List Pat->Nat|[]=>0|k::ks=>tJ k+fj ks
end
theorem GZ(p:Pat):fk p=FN p.kids+1:=by cases p;rw[fk]
theorem Oc(p:Cond):mg p=kE p.kids+1:=by cases p;rw[mg]
theorem tW(p:Pat):tJ p=fj p.kids+1:=by cases p;rw[tJ]
theorem Lw{k:Pat} :∀ {ks:List Pat},k∈ks->fk k<=FN ks
 | a::ks,h=>by
   rw[FN]
   rcases qt1.1 h with rfl|h
   ·omega
   ·have:=Lw h;omega
theorem L3{k:Cond} :∀ {ks:List Cond},k∈ks->mg k<=kE ks
 | a::ks,h=>by
   rw[kE]
   rcases qt1.1 h with rfl|h
   ·omega
   ·have:=L3 h;omega
theorem kZ{p k:Pat}(h:k∈p.kids):fk k < fk p:=by have:=Lw h;rw[GZ p];omega
theorem pH{C:Pat->Prop}(h:∀p,(∀k∈p.kids,C k)->C p)(p:Pat):C p:=by
 generalize hn:fk p=n
 induction n using Nat.strongRecOn generalizing p with
 | _ n ih=>exact h p fun k hk=>ih (fk k) (by rw[<-hn];exact kZ hk) k rfl
mutual
def eT(f:Pat->Bool):Pat->Bool| .mk op c l r mn mx ks=>f ⟨op,c,l,r,mn,mx,ks⟩ && DJ f ks
def DJ(f:Pat->Bool):List Pat->Bool|[]=>true|k::ks=>eT f k && DJ f ks
end
theorem Jv(f:Pat->Bool):∀ks:List Pat,DJ f ks=ks.all (eT f)
 | []=>by rw[DJ];rfl
 | k::ks=>by rw[DJ,Jv f ks,qvK]
theorem ez(f:Pat->Bool)(p:Pat):eT f p=(f p && p.kids.all (eT f)):=by cases p;rw[eT,Jv]
mutual
def di:Pat->Int->Bool| .mk _ _ _ _ _ _ ks,d=>decide (d<=100) && vF ks (d+1)
def vF:List Pat->Int->Bool|[],_=>true|k::ks,d=>di k d && vF ks d
end
theorem CP(d:Int):∀ks:List Pat,vF ks d=ks.all (di · d)
 | []=>by rw[vF];rfl
 | k::ks=>by rw[vF,CP d ks,qvK]
theorem mu(p:Pat)(d:Int):di p d=(decide (d<=100) && p.kids.all (di · (d+1))):=by cases p;rw[di,CP]
theorem ML(p:Pat):∀d d':Int,d'<=d->di p d=true->di p d'=true:=by
 induction p using pH with|_ p ih=>?_
 intro d d' h
 rw[mu,mu]
 simp only[qt2,decide_eq_true_eq,qt0]
 exact fun⟨h1,h2⟩=>⟨by omega,fun k hk=>ih k hk (d+1) (d'+1) (by omega) (h2 k hk)⟩
def tE(p:Pat):Prop:=(p.op=1/\p.reg=⟨#[]⟩/\p.mn=0/\p.mx=0/\p.kids=[])\/
 ((p.op=2\/p.op=3)/\p.cond=lj/\p.lab=⟨#[]⟩/\p.mn=0/\p.mx=0/\p.kids=[])\/
 ((p.op=4\/p.op=5)/\p.cond=lj/\p.lab=⟨#[]⟩/\p.reg=⟨#[]⟩/\p.mn=0/\p.mx=0/\2<=p.kids.length)\/
 (p.op=6/\p.cond=lj/\p.lab=⟨#[]⟩/\p.reg=⟨#[]⟩/\p.kids.length=1)
noncomputable def xV(p:Pat):Bool:= @decide (tE p) (Classical.propDecidable _)
theorem vQ(p:Pat):xV p=true↔tE p:= @decide_eq_true_iff (tE p) (Classical.propDecidable _)
def uT(p:Pat):Bool:=decide (p.op=6->0<=p.mn/\p.mn<=16/\(p.mx= -1\/p.mn<=p.mx/\p.mx<=16))
def vS(v:B->Bool)(p:Pat):Bool:=decide (((p.op=2\/p.op=3)->v p.reg=true)/\(p.lab≠ ⟨#[]⟩->v p.lab=true))
noncomputable def lO(v:B->Bool)(p:Pat):Bool:=di p 1 && eT xV p && eT (vS v) p && eT uT p
theorem qk{v:B->Bool}{p k:Pat}(h:lO v p=true)(hk:k∈p.kids):lO v k=true:=by
 unfold lO at*
 rw[ez,ez,ez uT,mu]at h
 simp only[qt2,qt0]at h
 obtain⟨⟨⟨⟨_,h1⟩,_,h2⟩,_,h3⟩,_,h4⟩:=h
 rw[h2 k hk,h3 k hk,h4 k hk,ML k _ 1 (by omega) (h1 k hk)]
 rfl
theorem rX{v:B->Bool}{p:Pat}(h:lO v p=true):xV p=true/\vS v p=true/\uT p=true:=by
 unfold lO at*
 rw[ez,ez,ez uT]at h
 simp only[qt2]at h
 exact⟨h.1.1.2.1,h.1.2.1,h.2.1⟩
def FI(p:Pat)(n:Int):Int:=if p.kids=[]then 1 else if p.op=6 then(if p.mx= -1 then min (n* (p.mn+1)) 1000 else if p.mx=0 then n else min (n*p.mx) 1000)else n
mutual
def ms:Pat->Int| .mk op c l r mn mx ks=>FI ⟨op,c,l,r,mn,mx,ks⟩ (iz ks 0)
def iz:List Pat->Int->Int|[],n=>n|k::ks,n=>iz ks (min (n+ms k) 1000)
end
theorem vE(p:Pat):ms p=FI p (iz p.kids 0):=by cases p;rw[ms]
theorem R3(a b:List Pat)(n:Int):iz (a++b) n=iz b (iz a n):=by
 induction a generalizing n with
 | nil=>rfl
 | cons k a ih=>simp only[quI,iz];exact ih _
def Hd(seq:Bool)(a b:Int×Int):Int×Int:=
 if seq then(min (a.1+b.1) 10000,if a.2= -1\/b.2= -1 then -1 else min (a.2+b.2) 10000)else(min a.1 b.1,if a.2= -1\/b.2= -1 then -1 else max a.2 b.2)
mutual
def gh:Pat->Int×Int
 | .mk op _ _ _ mn mx ks=>if op=1 then(1,1)else if op=2\/op=3 then(0,0)else match ks with
   | []=>(0,0)
   | k::ks=>if op=6 then(min ((gh k).1*mn) 10000,if mx=0\/(gh k).2=0 then 0 else if mx= -1\/(gh k).2= -1 then -1 else min ((gh k).2*mx) 10000)else jl (decide (op=4)) ks (gh k)
def jl(seq:Bool):List Pat->Int×Int->Int×Int|[],w=>w|k::ks,w=>jl seq ks (Hd seq w (gh k))
end
theorem VE(s:Bool)(a b:List Pat)(n:Int×Int):jl s (a++b) n=jl s b (jl s a n):=by
 induction a generalizing n with
 | nil=>rfl
 | cons k a ih=>simp only[quI,jl];exact ih _
theorem X6{p:Pat}(h:p.op=1):gh p=(1,1):=by cases p;simp only at h;unfold gh;rw[if_pos h]
theorem X5{p:Pat}(h:p.op=2\/p.op=3):gh p=(0,0):=by cases p;simp only at h;unfold gh;rw[if_neg (by omega),if_pos h]
theorem X3{p k:Pat}(h:p.op=6){ks:List Pat}(hk:p.kids=k::ks):gh p=(min ((gh k).1*p.mn) 10000,if p.mx=0\/(gh k).2=0 then 0 else if p.mx= -1\/(gh k).2= -1 then -1 else min ((gh k).2*p.mx) 10000):=by
 cases p;simp only at h hk;subst hk;rw[gh,if_neg (by omega),if_neg (by omega)];simp only[h,if_true]
theorem X4{p k:Pat}(h:p.op=4\/p.op=5){ks:List Pat}(hk:p.kids=k::ks):gh p=jl (decide (p.op=4)) ks (gh k):=by
 cases p;simp only at h hk;subst hk;rw[gh,if_neg (by omega),if_neg (by omega)];simp only;rw[if_neg (by omega)]
mutual
def bF:Pat->List Pat| .mk op c l r mn mx ks=>if op=1 then[⟨op,c,l,r,mn,mx,ks⟩]else zI ks
def zI:List Pat->List Pat|[]=>[]|k::ks=>bF k++zI ks
end
theorem FT:∀ks:List Pat,zI ks=ks.flatMap bF
 | []=>by rw[zI];rfl
 | k::ks=>by rw[zI,FT ks,quG]
theorem dw(p:Pat):bF p=if p.op=1 then[p]else p.kids.flatMap bF:=by cases p;rw[bF,FT]
theorem SZ(p:Pat):(bF p).length<=tJ p:=by
 induction p using pH with|_ p ih=>?_
 rw[dw,tW]
 split
 ·simp
 ·have:∀ks:List Pat,(∀k∈ks,(bF k).length<=tJ k)->(ks.flatMap bF).length<=fj ks:=by
   intro ks
   induction ks with
   | nil=>intro _;simp[fj]
   | cons k ks ih=>
     intro h
     rw[quG,quj,fj]
     have h1:=h k (by simp)
     have h2:=ih fun x hx=>h x (by simp[hx])
     omega
  have:=this p.kids ih
  omega
theorem EU{p:Pat}(h:xV p=true):(p.op=1/\p.kids=[])\/((p.op=2\/p.op=3)/\p.kids=[])\/((p.op=4\/p.op=5)/\∃k ks,p.kids=k::ks)\/(p.op=6/\∃k,p.kids=[k]):=by
 rw[vQ]at h
 unfold tE at h
 rcases h with h|h|h|h
 ·exact .inl ⟨h.1,h.2.2.2.2⟩
 ·exact .inr (.inl ⟨h.1,h.2.2.2.2.2⟩)
 ·refine .inr (.inr (.inl ⟨h.1,?_⟩))
  rcases hk:p.kids with _|⟨k,ks⟩
  ·rw[hk]at h;simp at h
  ·exact⟨k,ks,rfl⟩
 ·refine .inr (.inr (.inr ⟨h.1,?_⟩))
  rcases hk:p.kids with _|⟨k,_|⟨a,ks⟩⟩
  ·rw[hk]at h;simp at h
  ·exact⟨k,rfl⟩
  ·rw[hk]at h;simp at h
theorem wq:∀ (ks:List Pat) (n:Int),0<=n->n<=1000->(∀k∈ks,0<=ms k)->0<=iz ks n/\iz ks n<=1000
 | [],n,h0,h1,_=>by rw[iz];exact⟨h0,h1⟩
 | k::ks,n,h0,h1,h=>by
   rw[iz]
   have:=h k (by simp)
   exact wq ks _ (by omega) (by omega) fun x hx=>h x (by simp[hx])
theorem We{v:B->Bool}(p:Pat):lO v p=true->0<=ms p/\ms p<=1000:=by
 induction p using pH with|_ p ih=>?_
 intro h
 have hk:=wq p.kids 0 (by omega) (by omega) fun k hk=>(ih k hk (qk h hk)).1
 have hn:=(rX h).2.2
 unfold uT at hn
 rw[decide_eq_true_eq]at hn
 rw[vE]
 generalize iz p.kids 0=n at hk
 unfold FI
 split
 ·omega
 ·split
  ·rename_i h6
   have hn:=hn h6
   split
   ·have:0<=n* (p.mn+1):=qvF hk.1 (by omega)
    omega
   ·split
    ·exact hk
    ·have:0<=n*p.mx:=qvF hk.1 (by omega)
     omega
  ·exact hk
def qv(w:Int×Int):Prop:=0<=w.1/\w.1<=10000/\ -1<=w.2/\w.2<=10000
theorem Ua{s:Bool}{a b:Int×Int}(ha:qv a)(hb:qv b):qv (Hd s a b):=by
 unfold qv Hd at*
 split <;> simp only <;> split <;> omega
theorem OE(s:Bool):∀ (ks:List Pat) (w:Int×Int),qv w->(∀k∈ks,qv (gh k))->qv (jl s ks w)
 | [],w,h,_=>by rw[jl];exact h
 | k::ks,w,h,hk=>by
   rw[jl]
   exact OE s ks _ (Ua h (hk k (by simp))) fun x hx=>hk x (by simp[hx])
theorem GU{v:B->Bool}(p:Pat):lO v p=true->qv (gh p):=by
 induction p using pH with|_ p ih=>?_
 intro h
 obtain⟨h1,_,hn⟩:=rX h
 unfold uT at hn
 rw[decide_eq_true_eq]at hn
 rcases EU h1 with⟨ho,_⟩|⟨ho,_⟩|⟨ho,k,ks,hk⟩|⟨ho,k,hk⟩
 ·rw[X6 ho];simp[qv]
 ·rw[X5 ho];simp[qv]
 ·rw[X4 ho hk]
  exact OE _ _ _ (ih k (by rw[hk];simp) (qk h (by rw[hk];simp))) fun x hx=>ih x (by rw[hk];simp[hx]) (qk h (by rw[hk];simp[hx]))
 ·rw[X3 ho hk]
  have hw:=ih k (by rw[hk];simp) (qk h (by rw[hk];simp))
  have hn:=hn ho
  generalize gh k=w at hw
  unfold qv at*
  have h1:0<=w.1*p.mn:=qvF hw.1 hn.1
  refine⟨by simp only;omega,by simp only;omega,?_⟩
  simp only
  split
  ·omega
  ·split
   ·omega
   ·have h2:0<=w.2*p.mx:=qvF (by omega) (by omega)
    omega
end Go.Gv

namespace Go.Gv
open Cod (enc dec)
mutual
def pd:Cond->Nat| .mk _ _ _ _ _ _ ks=>gm ks+1
def gm:List Cond->Nat|[]=>0|k::ks=>pd k+gm ks
end
theorem G0(x:Cond):pd x=gm x.kids+1:=by cases x;rw[pd]
theorem Am:∀ (a b:List Cond),gm (a++b)=gm a+gm b
 | [],b=>by rw[quR,gm];omega
 | k::a,b=>by rw[quI,gm,gm,Am a b];omega
theorem L4:∀ (a b:List Cond),kE (a++b)=max (kE a) (kE b)
 | [],b=>by rw[quR,kE];omega
 | k::a,b=>by rw[quI,kE,kE,L4 a b];omega
theorem Lz:∀ {ks:List Cond} {k:Cond},k∈ks->pd k<=gm ks
 | x::ks,k,h=>by
   rw[gm]
   rcases qt1.1 h with rfl|h
   ·omega
   ·have:=Lz h;omega
theorem WH{ks:List Cond}{k:Nat}{x:Cond}(h:ks[k]? =some x):gm (ks.take (k+1))=gm (ks.take k) +pd x/\kE (ks.take (k+1))=max (kE (ks.take k)) (mg x)/\gm (ks.take k) +pd x<=gm ks:=by
 have e:=bJ h
 refine⟨by rw[e,Am,gm,gm];omega,by rw[e,L4,kE,kE];omega,?_⟩
 conv=>rhs;rw[<-quH (k+1) ks,Am]
 rw[e,Am,gm,gm]
 omega
def ri:B:=⟨#[]⟩
def mE(a:List Attr)(n:B):Int:=gi a fun x=>decide (x.nm=n)
def xg(a:List Attr)(n:B):Int:=if n=ri then min 0 ((a.length:Int) -1)else mE a n
def Vg(c:UInt8):Bool:=(decide (65<=c.toNat) && decide (c.toNat<=90))||(decide (97<=c.toNat) && decide (c.toNat<=122))||decide (c.toNat=95)
def qqb(c:UInt8):Bool:=Vg c||(decide (48<=c.toNat) && decide (c.toNat<=57))||decide (c.toNat=45)
def ET(s:B):Bool:=decide (1<=s.size/\s.size<=32) && (match s.data.toList with|c::_=>Vg c|[]=>false) && s.data.toList.all qqb
def zB(s:B):Bool:=decide (s.size<=120) && s.data.toList.all fun c=>decide (32<=c.toNat/\c.toNat < 127)
def qfQ(x:Cond):Bool:=
 if x.op=1 then decide (x.name=ri/\x.arg=ri/\x.val=ri/\x.lab=ri/\x.fold=false) && x.kids.isEmpty else
 if x.op=2 then decide (x.arg=ri/\x.lab=ri) && x.kids.isEmpty else
 if x.op=3 then decide (x.arg=ri/\x.lab=ri/\x.fold=false) && x.kids.isEmpty else
 if x.op=4 then decide (x.val=ri/\x.fold=false) && x.kids.isEmpty else
 if x.op=5 then decide (x.lab=ri/\x.fold=false/\(x.arg=ri->x.val=ri)) && x.kids.isEmpty else
 if x.op=6 then decide (x.name=ri/\x.arg=ri/\x.val=ri/\x.lab=ri/\x.fold=false) && decide (x.kids.length=1)else
 if x.op=7\/x.op=8 then decide (x.name=ri/\x.arg=ri/\x.val=ri/\x.lab=ri/\x.fold=false) && decide (2<=x.kids.length/\x.kids.length<=60)else false
def qeM(a:List Attr)(x:Cond):Bool:=
 if x.op=2 then decide (0<=xg a x.name)else
 if x.op=3 then decide (0<=mE a x.name)else
 if x.op=4 then decide (0<=mE a x.name/\0<=mE a x.arg)else
 if x.op=5 then ET x.name && (decide (x.arg=ri)||ET x.arg)else true
def qeb(s:B):Bool:=s.data.toList.any fun c=>decide (c.toNat=124)
def qnN(a:List Attr)(lb:List B)(x:Cond):Bool:=
 if x.op=2 then(qP x.val).isSome else
 if x.op=3 then(match a[(mE a x.name).toNat]? with|some b=>b.st|none=>false) && decide (x.val≠ri) && !qeb x.val && zB x.val else
 if x.op=4 then lb.any fun l=>decide (l=x.lab)else
 if x.op=5 then zB x.val else true
def ot(a:List Attr)(lb:List B)(x:Cond):Bool:=qfQ x && qeM a x && qnN a lb x
def rk(a:List Attr)(lb:List B):Nat->Cond->Bool
 | 0=>fun _=>false
 | n+1=>fun x=>ot a lb x && x.kids.all (rk a lb n)
def qgd(a:List Attr)(lb:List B)(x:Cond):Bool:=decide (pd x<=60/\mg x<=20) && rk a lb 20 x
end Go.Gv

namespace Go.Gv
open Cod (enc dec)
variable {S S0:Nat->Spc}
theorem xM{X:Type}{l:List X}{k:Nat}(h:k < l.length):∃x,l[k]? =some x:=⟨_,qtW h⟩
def qk8(n:Nat)(x:Cond×Int×Int):Prop:=mg x.1<=n/\0<=x.2.1/\x.2.1+pd x.1<=60/\0<=x.2.2/\x.2.2+mg x.1<=1000/\mg x.1<=60
abbrev Id(n:Nat):Spc:=bj (a3 Cond Int Int) (qk8 n) (ro (Y:=Int) (Z:=Int)) fun x y=>y=(x.2.1+pd x.1,x.2.2+mg x.1 -1)
abbrev Ie:Spc:=bj (a3 Cond Int Int) (fun x=>∃n,qk8 n x) (ro (Y:=Int) (Z:=Int)) fun x y=>y=(x.2.1+pd x.1,x.2.2+mg x.1 -1)
theorem yF(n:Nat)(h1:S cz=Id n):ar jI js S (a3 Cond Int Int) (qk8 (n+1)) (ro (Y:=Int) (Z:=Int)) fun x y=>y=(x.2.1+pd x.1,x.2.2+mg x.1 -1):=by
 rintro⟨x,nodes,deep⟩ ⟨hn,h0,h2,h3,h4,h5⟩
 simp only at hn h0 h2 h3 h4 h5
 have hd1:=Oc x
 have hn1:=G0 x
 simp[jI,js]
 refine⟨by simp only[InR];omega,fun hkl=>?_⟩
 refine aj (X:=Int×Int) [2,17] [] x.kids.length (fun k z=>z.1=nodes+1+ (gm (x.kids.take k):Int)/\z.2=deep+ (kE (x.kids.take k):Int)) (fun z=>[(1,enc z.1),(8,enc z.2)]) (fun _=>[]) (nodes+1,deep) (by simp) (by simp) (by omega) (by simp) (by simp) (by simp[gm,kE]) (by simp) (by simp) ?_ ?_
 ·rintro k ⟨m,d⟩ hk ⟨e1,e2⟩
  simp only at e1 e2
  obtain⟨y,hy⟩:=xM hk
  obtain⟨_,hgy⟩:=qtV.1 hy
  have hm:=WH hy
  have hd:=L3 (qtY hy)
  have hp:qk8 n (y,m,deep+1):=⟨by show mg y<=n;omega,by show 0<=m;omega,by show m+pd y<=60;omega,by show 0<=deep+1;omega,by show deep+1+mg y<=1000;omega,by show mg y<=60;omega⟩
  have hm60:¬60 < m:=by have:=G0 y;omega
  simp[h1,hk,hy,hgy,hp,hm60]
  exact⟨by simp only[InR];omega,by omega,by rw[hm.2.1,e2];omega⟩
 ·rintro⟨m,d⟩ ⟨e1,e2⟩
  simp only at e1 e2
  rw[quy]at e1 e2
  simp
  exact⟨by omega,by omega⟩
abbrev Ey:Spc:=bj (a1 Cond) (fun x=>qfQ x=true) (enc (X:=Bool)) fun _ y=>y=true
set_option maxHeartbeats 1000000 in
theorem A5:ar bB bA S (a1 Cond) (fun x=>qfQ x=true) (enc (X:=Bool)) fun _ y=>y=true:=by
 rintro⟨op,name,arg,val,lab,fold,ks⟩ hx
 have hx:qfQ ⟨op,name,arg,val,lab,fold,ks⟩=true:=hx
 unfold qfQ at hx
 simp only at hx
 split at hx
 ·rename_i e;subst e;simp at hx
  obtain⟨⟨rfl,rfl,rfl,rfl,rfl⟩,rfl⟩:=hx
  simp[bB,bA,ri, -Bool.forall_bool, -Bool.exists_bool]
 split at hx
 ·rename_i e;subst e;simp at hx
  obtain⟨⟨rfl,rfl⟩,rfl⟩:=hx
  simp[bB,bA,ri, -Bool.forall_bool, -Bool.exists_bool]
 split at hx
 ·rename_i e;subst e;simp at hx
  obtain⟨⟨rfl,rfl,rfl⟩,rfl⟩:=hx
  simp[bB,bA,ri, -Bool.forall_bool, -Bool.exists_bool]
 split at hx
 ·rename_i e;subst e;simp at hx
  obtain⟨⟨rfl,rfl⟩,rfl⟩:=hx
  simp[bB,bA,ri, -Bool.forall_bool, -Bool.exists_bool]
 split at hx
 ·rename_i e;subst e;simp at hx
  obtain⟨⟨rfl,rfl,hav⟩,rfl⟩:=hx
  by_cases ha:arg=ri
  ·have hv:=hav.resolve_left fun h=>h ha
   subst ha;subst hv
   simp[bB,bA,ri, -Bool.forall_bool, -Bool.exists_bool]
  ·have ha':¬arg=⟨#[]⟩:=ha
   simp[bB,bA,ri,ha', -Bool.forall_bool, -Bool.exists_bool]
 split at hx
 ·rename_i e;subst e;simp at hx
  obtain⟨⟨rfl,rfl,rfl,rfl,rfl⟩,hk⟩:=hx
  simp[bB,bA,ri,hk, -Bool.forall_bool, -Bool.exists_bool]
 split at hx
 ·rename_i e
  simp at hx
  obtain⟨⟨rfl,rfl,rfl,rfl,rfl⟩,hk1,hk2⟩:=hx
  have q1:(2:Int)<=(ks.length:Int):=by omega
  have q2:(ks.length:Int)<=60:=by omega
  have q3:(ks.length:Int)<=9223372036854775807:=by omega
  rcases e with rfl|rfl <;> simp[bB,bA,ri,q1,q2,q3, -Bool.forall_bool, -Bool.exists_bool]
 ·cases hx
end Go.Gv

namespace Go.Gv
open Cod (enc dec)
variable {S S0:Nat->Spc}
theorem zJ{X:Type}(p:X->Bool):∀l:List X, -1<=gi l p/\gi l p < l.length
 | []=>⟨qvA _,by simp[gi]⟩
 | x::l=>by
   have:=zJ p l
   rw[gi,quN]
   split
   ·omega
   ·split <;> omega
open Classical in
noncomputable def aX{Z:Type}(v:Z->List D)(hi:∀z z',v z=v z'->z=z'):df Z:=⟨fun ds=>if h:∃z,ds=v z then some h.choose else none,v,fun ds z h=>by
 split at h
 ·rename_i h'
  have e:h'.choose=z:=qua h
  rw[<-e,<-h'.choose_spec]
  exact⟨rfl,fun k d d' h1 h2=>by rw[h1]at h2;cases h2;exact .same _⟩
 ·cases h⟩
open Classical in
theorem B8{Z:Type}(v:Z->List D)(hi:∀z z',v z=v z'->z=z')(z:Z):(aX v hi).dec (v z)=some z:=by
 have h:∃z',v z=v z':=⟨z,rfl⟩
 show(if h:∃z',v z=v z' then some h.choose else none)=some z
 rw[dif_pos h]
 exact congrArg some (hi _ _ h.choose_spec).symm
theorem Au{Z:Type}(v:Z->List D)(hi:∀z z',v z=v z'->z=z')(z:Z):(aX v hi).view z=v z:=rfl
def VU(x:Attr×B):List D:=[enc x.1, .cptr [enc x.2] 0]
theorem OU(z z':Attr×B)(h:VU z=VU z'):z=z':=by
 obtain⟨a,s⟩:=z
 obtain⟨a',s'⟩:=z'
 unfold VU at h
 simp only[quk,D.cptr.injEq,and_true]at h
 rw[aL h.1,aL h.2]
noncomputable abbrev qk3:df (Attr×B):=aX VU OU
noncomputable abbrev EB:Spc:=bj qk3 (fun _=>True) (enc (X:=Bool)) fun x y=>y=decide (x.1.nm=x.2)
theorem vy:ar fL fH S qk3 (fun _=>True) (enc (X:=Bool)) fun x y=>y=decide (x.1.nm=x.2):=by
 rintro⟨a,s⟩ -
 rw[Au]
 simp[VU,fL,fH, -Bool.forall_bool, -Bool.exists_bool]
abbrev ru:Spc:=bj (a2 (List Attr) B) (fun _=>True) (enc (X:=Int)) fun x y=>y=mE x.1 x.2
theorem yj(h0:S0 bb=EB)(h1:S cL=Ii Attr S0):ar gU gD S (a2 (List Attr) B) (fun _=>True) (enc (X:=Int)) fun x y=>y=mE x.1 x.2:=by
 rintro⟨a,s⟩ -
 have hf:FunOn S0 (.clo bb [.cptr [enc s] 0]) a fun x=>decide (x.nm=s):=
  vV (f:=fun x=>(x,s)) h0 (fun x _=>B8 VU OU (x,s)) (fun _ _=>trivial) (fun x _ y hy=>hy)
 simp[gU,gD,h1, -Bool.forall_bool, -Bool.exists_bool]
 exact⟨⟨_,hf⟩,fun y hy=>hy _ hf⟩
abbrev yW:Spc:=bj (a2 (List Attr) B) (fun x=>x.1.length<=1000) (enc (X:=Int)) fun x y=>y=xg x.1 x.2
theorem Cn(h1:S aN=ru):ar gT gC S (a2 (List Attr) B) (fun x=>x.1.length<=1000) (enc (X:=Int)) fun x y=>y=xg x.1 x.2:=by
 rintro⟨a,s⟩ hl
 have hl:a.length<=1000:=hl
 have hin:InR .i64 ((a.length:Int) -1):=by simp only[InR];omega
 have hl':(a.length:Int)<=9223372036854775807:=by omega
 by_cases hs:s=ri
 ·subst hs
  simp[gT,gC,ri,xg,hin,hl', -Bool.forall_bool, -Bool.exists_bool]
 ·have hs':¬s=⟨#[]⟩:=hs
  simp[gT,gC,ri,xg,h1,hs', -Bool.forall_bool, -Bool.exists_bool]
def tI(t:List (List B))(i k:Int):B:=if i < 0\/k < 0 then ri else match t[i.toNat]? with
 | some r=>(match r[k.toNat]? with|some s=>s|none=>ri)
 | none=>ri
abbrev Ig:Spc:=bj (a3 Corpus Int Int) (fun x=>x.1.toks.length<=100000/\∀r∈x.1.toks,r.length<=100000) (enc (X:=B)) fun x y=>y=tI x.1.toks x.2.1 x.2.2
theorem Cp:ar cn ci S (a3 Corpus Int Int) (fun x=>x.1.toks.length<=100000/\∀r∈x.1.toks,r.length<=100000) (enc (X:=B)) fun x y=>y=tI x.1.toks x.2.1 x.2.2:=by
 rintro⟨c,i,k⟩ ⟨hl,hr⟩
 simp only at hl hr
 have hl':(c.toks.length:Int)<=9223372036854775807:=by omega
 by_cases h0:i < 0
 ·simp[cn,ci,h0,tI, -Bool.forall_bool, -Bool.exists_bool]
  rfl
 by_cases h1:(c.toks.length:Int)<=i
 ·have hn:c.toks[i.toNat]? =none:=qur (by omega)
  by_cases h2:k < 0
  ·simp[cn,ci,h0,h1,h2,hl',tI, -Bool.forall_bool, -Bool.exists_bool]
   rfl
  ·simp[cn,ci,h0,h1,h2,hl',hn,tI, -Bool.forall_bool, -Bool.exists_bool]
   rfl
 by_cases h2:k < 0
 ·simp[cn,ci,h0,h1,h2,hl',tI, -Bool.forall_bool, -Bool.exists_bool]
  rfl
 obtain⟨r,hri⟩:=xM (show i.toNat < c.toks.length by omega)
 obtain⟨_,hgr⟩:=qtV.1 hri
 have hrl:=hr r (qtY hri)
 have hrl':(r.length:Int)<=9223372036854775807:=by omega
 have i0:0<=i:=by omega
 have i1:i < (c.toks.length:Int):=by omega
 have k0:0<=k:=by omega
 by_cases h3:(r.length:Int)<=k
 ·have hn:r[k.toNat]? =none:=qur (by omega)
  simp[cn,ci,h0,h1,h2,h3,hl',hrl',hn,hri,hgr,i0,i1,tI, -Bool.forall_bool, -Bool.exists_bool]
  rfl
 obtain⟨s,hsk⟩:=xM (show k.toNat < r.length by omega)
 obtain⟨_,hgs⟩:=qtV.1 hsk
 have k1:k < (r.length:Int):=by omega
 simp[cn,ci,h0,h1,h2,h3,hl',hrl',hri,hgr,hsk,hgs,i0,i1,k0,k1,tI, -Bool.forall_bool, -Bool.exists_bool]
end Go.Gv

namespace Go.Gv
open Cod (enc dec)
variable {S S0:Nat->Spc}
abbrev MP:Spc:=bj (a1 B) (fun s=>ET s=true) (enc (X:=Bool)) fun _ y=>y=true
abbrev yR:Spc:=bj (a1 B) (fun s=>zB s=true) (enc (X:=Int)) fun _ y=>y=0
abbrev s_sConB:Spc:=bj (a2 B B) (fun x=>x.2=⟨#[124]⟩/\zB x.1=true) (enc (X:=Bool)) fun x y=>y=qeb x.1
abbrev Pr:Spc:=bj (a1 B) (fun s=>∃r,qP s=some r) (enc (X:=Int)) fun _ y=>y=0
def sU(l:List B)(s:B):Bool:=l.any fun z=>decide (z=s)
abbrev SA:Spc:=bj (a2 (List B) B) (fun _=>True) (enc (X:=Bool)) fun x y=>y=sU x.1 x.2
abbrev wu:Spc:=bj (a2 (List B) B) (fun _=>True) (enc (X:=Int)) fun x y=>y=gi x.1 fun z=>decide (z=x.2)
theorem Ht:ar gM gu S (a2 (List B) B) (fun _=>True) (enc (X:=Int)) fun x y=>y=gi x.1 fun z=>decide (z=x.2):=by
 rintro⟨l,s⟩ -
 simp[gM,gu, -Bool.forall_bool, -Bool.exists_bool]
 intro _
 refine aj (X:=Unit) [0,1] [] l.length (fun k _=>∀x∈l.take k,decide (x=s)=false) (fun _=>[]) (fun _=>[]) () (by simp) (by simp) (by omega) (by simp) (by simp) (by simp) (by simp) (by simp) ?_ ?_
 ·intro k _ hk hP
  obtain⟨x,hx⟩:=xM hk
  obtain⟨_,hgx⟩:=qtV.1 hx
  simp[hk,hx,hgx, -Bool.forall_bool, -Bool.exists_bool]
  refine⟨fun h=>?_,fun h=>?_⟩
  ·exact(tZ hx (by simp[h]) hP).symm
  ·rw[bJ hx]
   intro z hz
   rcases qtZ.1 hz with hz|hz
   ·have:=hP z hz
    simpa using this
   ·simp at hz;subst hz
    exact fun e=>h e.symm
 ·intro _ hP
  simp[-Bool.forall_bool, -Bool.exists_bool]
  exact(mz (by simpa using hP)).symm
theorem Cs(h1:S aM=wu):ar cx cw S (a2 (List B) B) (fun _=>True) (enc (X:=Bool)) fun x y=>y=sU x.1 x.2:=by
 rintro⟨l,s⟩ -
 simp[cx,cw,h1, -Bool.forall_bool, -Bool.exists_bool]
 exact tY _ l
abbrev Ic:Spc:=bj (a2 Cond (List Attr)) (fun x=>qeM x.2 x.1=true/\x.2.length<=1000) (enc (X:=Bool)) fun _ y=>y=true
theorem Cm(h1:S dW=yW)(h2:S aN=ru)(h3:S ck=MP):ar cm cg S (a2 Cond (List Attr)) (fun x=>qeM x.2 x.1=true/\x.2.length<=1000) (enc (X:=Bool)) fun _ y=>y=true:=by
 rintro⟨⟨op,name,arg,val,lab,fold,ks⟩,a⟩ ⟨hx,hl⟩
 have hx:qeM a ⟨op,name,arg,val,lab,fold,ks⟩=true:=hx
 have hl:a.length<=1000:=hl
 unfold qeM at hx
 simp only at hx
 split at hx
 ·rename_i e;subst e;simp at hx
  simp[cm,cg,h1,hl,hx, -Bool.forall_bool, -Bool.exists_bool]
 rename_i e2
 split at hx
 ·rename_i e;subst e;simp at hx
  simp[cm,cg,h2,hx, -Bool.forall_bool, -Bool.exists_bool]
 rename_i e3
 split at hx
 ·rename_i e;subst e;simp at hx
  simp[cm,cg,h2,hx.1,hx.2, -Bool.forall_bool, -Bool.exists_bool]
 rename_i e4
 split at hx
 ·rename_i e;subst e;simp at hx
  obtain⟨hn,ha⟩:=hx
  by_cases hae:arg=ri
  ·subst hae
   simp[cm,cg,h3,hn,ri, -Bool.forall_bool, -Bool.exists_bool]
  ·have ha':=ha.resolve_left hae
   have hae':¬arg=⟨#[]⟩:=hae
   simp[cm,cg,h3,hn,ha',hae', -Bool.forall_bool, -Bool.exists_bool]
 rename_i e5
 simp[cm,cg,e2,e3,e4,e5, -Bool.forall_bool, -Bool.exists_bool]
abbrev If:Spc:=bj (a3 Cond (List Attr) (List B)) (fun x=>ot x.2.1 x.2.2 x.1=true/\x.2.1.length<=1000) (enc (X:=Int)) fun _ y=>y=0
theorem Co(h1:S jd=Ey)(h2:S je=Ic)(h3:S qa=Pr)(h4:S aN=ru)(h5:S lP=s_sConB)(h6:S bG=yR)(h7:S aF=SA):
 ar cP cO S (a3 Cond (List Attr) (List B)) (fun x=>ot x.2.1 x.2.2 x.1=true/\x.2.1.length<=1000) (enc (X:=Int)) fun _ y=>y=0:=by
 rintro⟨x,a,lb⟩ ⟨hx,hl⟩
 have hx:ot a lb x=true:=hx
 have hl:a.length<=1000:=hl
 unfold ot at hx
 simp only[qt2]at hx
 obtain⟨⟨hs,hn⟩,hc⟩:=hx
 obtain⟨op,name,arg,val,lab,fold,ks⟩:=x
 unfold qnN at hc
 simp only at hc
 have e:(Cond.mk op name arg val lab fold ks)=⟨op,name,arg,val,lab,fold,ks⟩:=rfl
 split at hc
 ·rename_i e;subst e
  obtain⟨r,hr⟩:=quY.1 hc
  simp[cP,cO,h1,h2,h3,hs,hn,hl,hr, -Bool.forall_bool, -Bool.exists_bool]
 rename_i e2
 split at hc
 ·rename_i e;subst e
  simp only[qt2]at hc
  obtain⟨⟨⟨c1,c2⟩,c3⟩,c4⟩:=hc
  have hn':0<=mE a name:=by simpa [qeM]using hn
  have hrg:=(zJ (fun x:Attr=>decide (x.nm=name)) a).2
  have hlt:mE a name < a.length:=hrg
  obtain⟨b,hb⟩:=xM (show(mE a name).toNat < a.length by omega)
  obtain⟨_,hgb⟩:=qtV.1 hb
  rw[hb]at c1
  have c1:b.st=true:=c1
  have c2:¬val=⟨#[]⟩:=of_decide_eq_true c2
  have c3:qeb val=false:=by simpa using c3
  simp[cP,cO,h1,h2,h4,h5,h6,hs,hn,hl,hn',hlt,hb,hgb,c1,c2,c3,c4, -Bool.forall_bool, -Bool.exists_bool]
 rename_i e3
 split at hc
 ·rename_i e;subst e
  have hc:sU lb lab=true:=hc
  simp[cP,cO,h1,h2,h7,hs,hn,hl,hc, -Bool.forall_bool, -Bool.exists_bool]
 rename_i e4
 split at hc
 ·rename_i e;subst e
  simp[cP,cO,h1,h2,h6,hs,hn,hl,hc, -Bool.forall_bool, -Bool.exists_bool]
 rename_i e5
 simp[cP,cO,h1,h2,hs,hn,hl,e2,e3,e4,e5, -Bool.forall_bool, -Bool.exists_bool]
end Go.Gv
