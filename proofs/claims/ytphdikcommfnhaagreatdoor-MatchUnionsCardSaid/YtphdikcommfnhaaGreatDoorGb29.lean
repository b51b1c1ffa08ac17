/- A part of the framework and of the walks: W150 V3 V55 W151 W152 W153 C59. -/
import Derived.Test.YtphdikcommfnhaaGreatDoorGb21
import Derived.Test.YtphdikcommfnhaaGreatDoorGb19
import Derived.Test.YtphdikcommfnhaaGreatDoorGb26
import Derived.Test.YtphdikcommfnhaaGreatDoorGb20
import Derived.Test.YtphdikcommfnhaaGreatDoorGb28
set_option linter.unusedSimpArgs false
set_option linter.unusedVariables false
set_option maxRecDepth 100000
set_option maxHeartbeats 0

namespace Go.Gv
open Cod (enc dec)
variable {S S0:Nat->Spc}
def FunOn{X Y:Type}[Cod X][Cod Y](S:Nat->Spc)(d:D)(l:List X)(p:X->Y):Prop:=
 ∃g caps pc,d= .clo g caps/\S g= .pure pc/\∀x∈l,pc.pre (enc x::caps)/\∀r,pc.post (enc x::caps) r->r=enc (p x)
theorem FunOn.useB{X:Type}[Cod X]{S:Nat->Spc}{d:D}{l:List X}{p:X->Bool}(h:FunOn S d l p){x:X}(hx:x∈l){d':Nat}{H:ab}{K:D->ab->Prop}(hk:∀y:Bool,(∀q:X->Bool,FunOn S d l q->y=q x)->K (.v (.bool y)) H):zA S d d' [enc x] H K:=by
 obtain⟨g,caps,pc,rfl,h1,h2⟩:=h
 simp only[zA,h1,Spc.pt]
 refine⟨(h2 x hx).1,fun r hr=>?_⟩
 have e:=(h2 x hx).2 r hr
 rw[e]
 refine hk (p x) fun q hq=>?_
 obtain⟨g',caps',pc',e',k1,k2⟩:=hq
 cases e'
 rw[h1]at k1
 cases k1
 exact aL (e.symm.trans ((k2 x hx).2 r hr))
theorem vv{X Y Z:Type}[Cod X][Cod Y]{S:Nat->Spc}{g:Nat}{caps:List D}{A:dc Z}{pre:Z->Prop}{post:Z->Y->Prop}{l:List X}{p:X->Y}{f:X->Z}(h:S g=bp A pre enc post)(hd:∀x∈l,A.dec (enc x::caps)=some (f x))(hp:∀x∈l,pre (f x))(hq:∀x∈l,∀y,post (f x) y->y=p x):FunOn S (.clo g caps) l p:=by
 refine⟨g,caps,_,rfl,h,fun x hx=>⟨⟨f x,hd x hx,hp x hx⟩,fun r hr=>?_⟩⟩
 obtain⟨y,h1,h2⟩:=hr (f x) (hd x hx) (hp x hx)
 rw[h1,hq x hx y h2]
def Th{X:Type}[Cod X](S0:Nat->Spc)(x:List X×D×Unit):Prop:=∃p:X->Bool,FunOn S0 x.2.1 x.1 p
def qdi{X:Type}[Cod X](S0:Nat->Spc)(x:List X×D×Unit)(y:Int):Prop:=∀p:X->Bool,FunOn S0 x.2.1 x.1 p->y=gy x.1 p
def qgy{X:Type}[Cod X](S0:Nat->Spc)(x:List X×D×Unit)(y:Bool):Prop:=∀p:X->Bool,FunOn S0 x.2.1 x.1 p->y=x.1.any p
abbrev HL(X:Type)[Cod X](S0:Nat->Spc):Spc:=bp (aE (List X) (aD a0)) (Th S0) (enc (X:=Int)) (qdi S0)
abbrev My(X:Type)[Cod X](S0:Nat->Spc):Spc:=bp (aE (List X) (aD a0)) (Th S0) (enc (X:=Bool)) (qgy S0)
theorem GZ:ar dK dE S (aE (List Attr) (aD a0)) (Th S) (enc (X:=Int)) (qdi S):=by
 rintro⟨l,d,⟨⟩⟩ ⟨p,hp⟩
 simp only at hp
 simp[dK,dE, -Bool.forall_bool, -Bool.exists_bool]
 intro _
 refine ak (X:=Unit) [0,1] [] l.length (fun k _=>∀p:Attr->Bool,FunOn S d l p->∀x∈l.take k,p x=false) (fun _=>[]) (fun _=>[]) () (by simp) (by simp) (by omega) (by simp) (by simp) (by simp) (by simp) (by simp) ?_ ?_
 ·intro k _ hk hP
  obtain⟨x,hx⟩:∃x,l[k]? =some x:=⟨_,qsU hk⟩
  obtain⟨_,hgx⟩:=qsT.1 hx
  simp[hk,hx,hgx, -Bool.forall_bool, -Bool.exists_bool]
  refine hp.useB (x:=x) (qsW hx) fun y hy=>?_
  simp[-Bool.forall_bool, -Bool.exists_bool]
  refine⟨fun h=>?_,fun h p' hp'=>?_⟩
  ·intro p' hp'
   exact(tH hx (by rw[<-hy p' hp',h]) (hP p' hp')).symm
  ·rw[cO hx]
   intro z hz
   rcases qsZ.1 hz with hz|hz
   ·exact hP p' hp' z hz
   ·simp at hz;subst hz;rw[<-hy p' hp',h]
 ·intro _ hP
  simp[-Bool.forall_bool, -Bool.exists_bool]
  intro p' hp'
  exact(mf (by simpa using hP p' hp')).symm
theorem U1:ar fJ fF S (aE (List Cond) (aD a0)) (Th S) (enc (X:=Int)) (qdi S):=by
 rintro⟨l,d,⟨⟩⟩ ⟨p,hp⟩
 simp only at hp
 simp[fJ,fF, -Bool.forall_bool, -Bool.exists_bool]
 intro _
 refine ak (X:=Unit) [0,1] [] l.length (fun k _=>∀p:Cond->Bool,FunOn S d l p->∀x∈l.take k,p x=false) (fun _=>[]) (fun _=>[]) () (by simp) (by simp) (by omega) (by simp) (by simp) (by simp) (by simp) (by simp) ?_ ?_
 ·intro k _ hk hP
  obtain⟨x,hx⟩:∃x,l[k]? =some x:=⟨_,qsU hk⟩
  obtain⟨_,hgx⟩:=qsT.1 hx
  simp[hk,hx,hgx, -Bool.forall_bool, -Bool.exists_bool]
  have e:D.agg [.v (.int .i64 x.op), .v (.string x.name), .v (.string x.arg), .v (.string x.val), .v (.string x.lab), .v (.bool x.fold), .list 7 (x.kids.map enc)]=enc x:=by simp
  rw[e]
  refine hp.useB (x:=x) (qsW hx) fun y hy=>?_
  simp[-Bool.forall_bool, -Bool.exists_bool]
  refine⟨fun h=>?_,fun h p' hp'=>?_⟩
  ·intro p' hp'
   exact(tH hx (by rw[<-hy p' hp',h]) (hP p' hp')).symm
  ·rw[cO hx]
   intro z hz
   rcases qsZ.1 hz with hz|hz
   ·exact hP p' hp' z hz
   ·simp at hz;subst hz;rw[<-hy p' hp',h]
 ·intro _ hP
  simp[-Bool.forall_bool, -Bool.exists_bool]
  intro p' hp'
  exact(mf (by simpa using hP p' hp')).symm
theorem U2(h1:S dQ=HL Cond S0):ar ek eh S (aE (List Cond) (aD a0)) (Th S0) (enc (X:=Bool)) (qgy S0):=by
 rintro⟨l,d,⟨⟩⟩ hp
 simp[ek,eh,h1, -Bool.forall_bool, -Bool.exists_bool]
 refine⟨hp,fun y hy p' hp'=>?_⟩
 rw[hy p' hp']
 exact tG p' l
theorem Fg:ar eJ eC S (aE (List Region) (aD a0)) (Th S) (enc (X:=Int)) (qdi S):=by
 rintro⟨l,d,⟨⟩⟩ ⟨p,hp⟩
 simp only at hp
 simp[eJ,eC, -Bool.forall_bool, -Bool.exists_bool]
 intro _
 refine ak (X:=Unit) [0,1] [] l.length (fun k _=>∀p:Region->Bool,FunOn S d l p->∀x∈l.take k,p x=false) (fun _=>[]) (fun _=>[]) () (by simp) (by simp) (by omega) (by simp) (by simp) (by simp) (by simp) (by simp) ?_ ?_
 ·intro k _ hk hP
  obtain⟨x,hx⟩:∃x,l[k]? =some x:=⟨_,qsU hk⟩
  obtain⟨_,hgx⟩:=qsT.1 hx
  simp[hk,hx,hgx, -Bool.forall_bool, -Bool.exists_bool]
  refine hp.useB (x:=x) (qsW hx) fun y hy=>?_
  simp[-Bool.forall_bool, -Bool.exists_bool]
  refine⟨fun h=>?_,fun h p' hp'=>?_⟩
  ·intro p' hp'
   exact(tH hx (by rw[<-hy p' hp',h]) (hP p' hp')).symm
  ·rw[cO hx]
   intro z hz
   rcases qsZ.1 hz with hz|hz
   ·exact hP p' hp' z hz
   ·simp at hz;subst hz;rw[<-hy p' hp',h]
 ·intro _ hP
  simp[-Bool.forall_bool, -Bool.exists_bool]
  intro p' hp'
  exact(mf (by simpa using hP p' hp')).symm
theorem Fh(h1:S bI=HL Region S0):ar dL dF S (aE (List Region) (aD a0)) (Th S0) (enc (X:=Bool)) (qgy S0):=by
 rintro⟨l,d,⟨⟩⟩ hp
 simp[dL,dF,h1, -Bool.forall_bool, -Bool.exists_bool]
 refine⟨hp,fun y hy p' hp'=>?_⟩
 rw[hy p' hp']
 exact tG p' l
end Go.Gv

namespace Go.Gv
instance:Inhabited Cond:=⟨⟨0,⟨#[]⟩,⟨#[]⟩,⟨#[]⟩,⟨#[]⟩,false, []⟩⟩
instance:Inhabited Pat:=⟨⟨0,default,⟨#[]⟩,⟨#[]⟩,0,0, []⟩⟩
def kV:Cond:=⟨0,⟨#[]⟩,⟨#[]⟩,⟨#[]⟩,⟨#[]⟩,false, []⟩
mutual
def fH:Pat->Nat| .mk _ _ _ _ _ _ ks=>Fs ks+1
def Fs:List Pat->Nat|[]=>0|k::ks=>max (fH k) (Fs ks)
end
mutual
def lT:Cond->Nat| .mk _ _ _ _ _ _ ks=>kq ks+1
def kq:List Cond->Nat|[]=>0|k::ks=>max (lT k) (kq ks)
end
mutual
def tq:Pat->Nat| .mk _ _ _ _ _ _ ks=>fj ks+1
def fj:List Pat->Nat|[]=>0|k::ks=>tq k+fj ks
end
theorem Gw(p:Pat):fH p=Fs p.kids+1:=by cases p;rw[fH]
theorem NB(p:Cond):lT p=kq p.kids+1:=by cases p;rw[lT]
theorem tE(p:Pat):tq p=fj p.kids+1:=by cases p;rw[tq]
theorem KX{k:Pat} :∀ {ks:List Pat},k∈ks->fH k<=Fs ks
 | a::ks,h=>by
   rw[Fs]
   rcases qsY.1 h with rfl|h
   ·omega
   ·have:=KX h;omega
theorem Lu{k:Cond} :∀ {ks:List Cond},k∈ks->lT k<=kq ks
 | a::ks,h=>by
   rw[kq]
   rcases qsY.1 h with rfl|h
   ·omega
   ·have:=Lu h;omega
theorem kP{p k:Pat}(h:k∈p.kids):fH k < fH p:=by have:=KX h;rw[Gw p];omega
theorem tD{C:Pat->Prop}(h:∀p,(∀k∈p.kids,C k)->C p)(p:Pat):C p:=by
 generalize hn:fH p=n
 induction n using Nat.strongRecOn generalizing p with
 | _ n ih=>exact h p fun k hk=>ih (fH k) (by rw[<-hn];exact kP hk) k rfl
mutual
def eT(f:Pat->Bool):Pat->Bool| .mk op c l r mn mx ks=>f ⟨op,c,l,r,mn,mx,ks⟩ && Dq f ks
def Dq(f:Pat->Bool):List Pat->Bool|[]=>true|k::ks=>eT f k && Dq f ks
end
theorem IW(f:Pat->Bool):∀ks:List Pat,Dq f ks=ks.all (eT f)
 | []=>by rw[Dq];rfl
 | k::ks=>by rw[Dq,IW f ks,quG]
theorem ez(f:Pat->Bool)(p:Pat):eT f p=(f p && p.kids.all (eT f)):=by cases p;rw[eT,IW]
mutual
def dg:Pat->Int->Bool| .mk _ _ _ _ _ _ ks,d=>decide (d<=100) && vh ks (d+1)
def vh:List Pat->Int->Bool|[],_=>true|k::ks,d=>dg k d && vh ks d
end
theorem Cu(d:Int):∀ks:List Pat,vh ks d=ks.all (dg · d)
 | []=>by rw[vh];rfl
 | k::ks=>by rw[vh,Cu d ks,quG]
theorem lZ(p:Pat)(d:Int):dg p d=(decide (d<=100) && p.kids.all (dg · (d+1))):=by cases p;rw[dg,Cu]
theorem Mb(p:Pat):∀d d':Int,d'<=d->dg p d=true->dg p d'=true:=by
 induction p using tD with|_ p ih=>?_
 intro d d' h
 rw[lZ,lZ]
 simp only[qs1,decide_eq_true_eq,qsX]
 exact fun⟨h1,h2⟩=>⟨by omega,fun k hk=>ih k hk (d+1) (d'+1) (by omega) (h2 k hk)⟩
def uS(p:Pat):Prop:=(p.op=1/\p.reg=⟨#[]⟩/\p.mn=0/\p.mx=0/\p.kids=[])\/
 ((p.op=2\/p.op=3)/\p.cond=kV/\p.lab=⟨#[]⟩/\p.mn=0/\p.mx=0/\p.kids=[])\/
 ((p.op=4\/p.op=5)/\p.cond=kV/\p.lab=⟨#[]⟩/\p.reg=⟨#[]⟩/\p.mn=0/\p.mx=0/\2<=p.kids.length)\/
 (p.op=6/\p.cond=kV/\p.lab=⟨#[]⟩/\p.reg=⟨#[]⟩/\p.kids.length=1)
noncomputable def yZ(p:Pat):Bool:= @decide (uS p) (Classical.propDecidable _)
theorem zT(p:Pat):yZ p=true↔uS p:= @decide_eq_true_iff (uS p) (Classical.propDecidable _)
def xX(p:Pat):Bool:=decide (p.op=6->0<=p.mn/\p.mn<=16/\(p.mx= -1\/p.mn<=p.mx/\p.mx<=16))
def vr(v:B->Bool)(p:Pat):Bool:=decide (((p.op=2\/p.op=3)->v p.reg=true)/\(p.lab≠ ⟨#[]⟩->v p.lab=true))
noncomputable def qY(v:B->Bool)(p:Pat):Bool:=dg p 1 && eT yZ p && eT (vr v) p && eT xX p
theorem OP{v:B->Bool}{p k:Pat}(h:qY v p=true)(hk:k∈p.kids):qY v k=true:=by
 unfold qY at*
 rw[ez,ez,ez xX,lZ]at h
 simp only[qs1,qsX]at h
 obtain⟨⟨⟨⟨_,h1⟩,_,h2⟩,_,h3⟩,_,h4⟩:=h
 rw[h2 k hk,h3 k hk,h4 k hk,Mb k _ 1 (by omega) (h1 k hk)]
 rfl
theorem KV{v:B->Bool}{p:Pat}(h:qY v p=true):yZ p=true/\vr v p=true/\xX p=true:=by
 unfold qY at*
 rw[ez,ez,ez xX]at h
 simp only[qs1]at h
 exact⟨h.1.1.2.1,h.1.2.1,h.2.1⟩
def Fm(p:Pat)(n:Int):Int:=if p.kids=[]then 1 else if p.op=6 then(if p.mx= -1 then min (n* (p.mn+1)) 1000 else if p.mx=0 then n else min (n*p.mx) 1000)else n
mutual
def lY:Pat->Int| .mk op c l r mn mx ks=>Fm ⟨op,c,l,r,mn,mx,ks⟩ (il ks 0)
def il:List Pat->Int->Int|[],n=>n|k::ks,n=>il ks (min (n+lY k) 1000)
end
theorem vg(p:Pat):lY p=Fm p (il p.kids 0):=by cases p;rw[lY]
theorem Rk(a b:List Pat)(n:Int):il (a++b) n=il b (il a n):=by
 induction a generalizing n with
 | nil=>rfl
 | cons k a ih=>simp only[qtI,il];exact ih _
mutual
def bD:Pat->List Pat| .mk op c l r mn mx ks=>if op=1 then[⟨op,c,l,r,mn,mx,ks⟩]else zi ks
def zi:List Pat->List Pat|[]=>[]|k::ks=>bD k++zi ks
end
theorem Fy:∀ks:List Pat,zi ks=ks.flatMap bD
 | []=>by rw[zi];rfl
 | k::ks=>by rw[zi,Fy ks,qtE]
theorem du(p:Pat):bD p=if p.op=1 then[p]else p.kids.flatMap bD:=by cases p;rw[bD,Fy]
theorem Sk(p:Pat):(bD p).length<=tq p:=by
 induction p using tD with|_ p ih=>?_
 rw[du,tE]
 split
 ·simp
 ·have:∀ks:List Pat,(∀k∈ks,(bD k).length<=tq k)->(ks.flatMap bD).length<=fj ks:=by
   intro ks
   induction ks with
   | nil=>intro _;simp[fj]
   | cons k ks ih=>
     intro h
     rw[qtE,qtg,fj]
     have h1:=h k (by simp)
     have h2:=ih fun x hx=>h x (by simp[hx])
     omega
  have:=this p.kids ih
  omega
theorem vP:∀ (ks:List Pat) (n:Int),0<=n->n<=1000->(∀k∈ks,0<=lY k)->0<=il ks n/\il ks n<=1000
 | [],n,h0,h1,_=>by rw[il];exact⟨h0,h1⟩
 | k::ks,n,h0,h1,h=>by
   rw[il]
   have:=h k (by simp)
   exact vP ks _ (by omega) (by omega) fun x hx=>h x (by simp[hx])
theorem Vg{v:B->Bool}(p:Pat):qY v p=true->0<=lY p/\lY p<=1000:=by
 induction p using tD with|_ p ih=>?_
 intro h
 have hk:=vP p.kids 0 (by omega) (by omega) fun k hk=>(ih k hk (OP h hk)).1
 have hn:=(KV h).2.2
 unfold xX at hn
 rw[decide_eq_true_eq]at hn
 rw[vg]
 generalize il p.kids 0=n at hk
 unfold Fm
 split
 ·omega
 ·split
  ·rename_i h6
   have hn:=hn h6
   split
   ·have:0<=n* (p.mn+1):=qvf hk.1 (by omega)
    omega
   ·split
    ·exact hk
    ·have:0<=n*p.mx:=qvf hk.1 (by omega)
     omega
  ·exact hk
end Go.Gv

namespace Go.Gv
open Cod (enc dec)
mutual
def oz:Cond->Nat| .mk _ _ _ _ _ _ ks=>gg ks+1
def gg:List Cond->Nat|[]=>0|k::ks=>oz k+gg ks
end
theorem Gx(x:Cond):oz x=gg x.kids+1:=by cases x;rw[oz]
theorem zS:∀ (a b:List Cond),gg (a++b)=gg a+gg b
 | [],b=>by rw[qtO,gg];omega
 | k::a,b=>by rw[qtI,gg,gg,zS a b];omega
theorem Lv:∀ (a b:List Cond),kq (a++b)=max (kq a) (kq b)
 | [],b=>by rw[qtO,kq];omega
 | k::a,b=>by rw[qtI,kq,kq,Lv a b];omega
theorem K0:∀ {ks:List Cond} {k:Cond},k∈ks->oz k<=gg ks
 | x::ks,k,h=>by
   rw[gg]
   rcases qsY.1 h with rfl|h
   ·omega
   ·have:=K0 h;omega
theorem VG{ks:List Cond}{k:Nat}{x:Cond}(h:ks[k]? =some x):gg (ks.take (k+1))=gg (ks.take k) +oz x/\kq (ks.take (k+1))=max (kq (ks.take k)) (lT x)/\gg (ks.take k) +oz x<=gg ks:=by
 have e:=cO h
 refine⟨by rw[e,zS,gg,gg];omega,by rw[e,Lv,kq,kq];omega,?_⟩
 conv=>rhs;rw[<-qtx (k+1) ks,zS]
 rw[e,zS,gg,gg]
 omega
def qP:B:=⟨#[]⟩
def mq(a:List Attr)(n:B):Int:=gy a fun x=>decide (x.nm=n)
def wJ(a:List Attr)(n:B):Int:=if n=qP then min 0 ((a.length:Int) -1)else mq a n
def Uu(c:UInt8):Bool:=(decide (65<=c.toNat) && decide (c.toNat<=90))||(decide (97<=c.toNat) && decide (c.toNat<=122))||decide (c.toNat=95)
def qo9(c:UInt8):Bool:=Uu c||(decide (48<=c.toNat) && decide (c.toNat<=57))||decide (c.toNat=45)
def EA(s:B):Bool:=decide (1<=s.size/\s.size<=32) && (match s.data.toList with|c::_=>Uu c|[]=>false) && s.data.toList.all qo9
def yX(s:B):Bool:=decide (s.size<=120) && s.data.toList.all fun c=>decide (32<=c.toNat/\c.toNat < 127)
def qeU(x:Cond):Bool:=
 if x.op=1 then decide (x.name=qP/\x.arg=qP/\x.val=qP/\x.lab=qP/\x.fold=false) && x.kids.isEmpty else
 if x.op=2 then decide (x.arg=qP/\x.lab=qP) && x.kids.isEmpty else
 if x.op=3 then decide (x.arg=qP/\x.lab=qP/\x.fold=false) && x.kids.isEmpty else
 if x.op=4 then decide (x.val=qP/\x.fold=false) && x.kids.isEmpty else
 if x.op=5 then decide (x.lab=qP/\x.fold=false/\(x.arg=qP->x.val=qP)) && x.kids.isEmpty else
 if x.op=6 then decide (x.name=qP/\x.arg=qP/\x.val=qP/\x.lab=qP/\x.fold=false) && decide (x.kids.length=1)else
 if x.op=7\/x.op=8 then decide (x.name=qP/\x.arg=qP/\x.val=qP/\x.lab=qP/\x.fold=false) && decide (2<=x.kids.length/\x.kids.length<=60)else false
def qdM(a:List Attr)(x:Cond):Bool:=
 if x.op=2 then decide (0<=wJ a x.name)else
 if x.op=3 then decide (0<=mq a x.name)else
 if x.op=4 then decide (0<=mq a x.name/\0<=mq a x.arg)else
 if x.op=5 then EA x.name && (decide (x.arg=qP)||EA x.arg)else true
def qdb(s:B):Bool:=s.data.toList.any fun c=>decide (c.toNat=124)
def qmM(a:List Attr)(lb:List B)(x:Cond):Bool:=
 if x.op=2 then(qv x.val).isSome else
 if x.op=3 then(match a[(mq a x.name).toNat]? with|some b=>b.st|none=>false) && decide (x.val≠qP) && !qdb x.val && yX x.val else
 if x.op=4 then lb.any fun l=>decide (l=x.lab)else
 if x.op=5 then yX x.val else true
def nW(a:List Attr)(lb:List B)(x:Cond):Bool:=qeU x && qdM a x && qmM a lb x
def qR(a:List Attr)(lb:List B):Nat->Cond->Bool
 | 0=>fun _=>false
 | n+1=>fun x=>nW a lb x && x.kids.all (qR a lb n)
def qfg(a:List Attr)(lb:List B)(x:Cond):Bool:=decide (oz x<=60/\lT x<=20) && qR a lb 20 x
end Go.Gv

namespace Go.Gv
open Cod (enc dec)
variable {S S0:Nat->Spc}
theorem xm{X:Type}{l:List X}{k:Nat}(h:k < l.length):∃x,l[k]? =some x:=⟨_,qsU h⟩
def qj9(n:Nat)(x:Cond×Int×Int):Prop:=lT x.1<=n/\0<=x.2.1/\x.2.1+oz x.1<=60/\0<=x.2.2/\x.2.2+lT x.1<=1000/\lT x.1<=60
abbrev HG(n:Nat):Spc:=bp (a3 Cond Int Int) (qj9 n) (yd (Y:=Int) (Z:=Int)) fun x y=>y=(x.2.1+oz x.1,x.2.2+lT x.1 -1)
abbrev HH:Spc:=bp (a3 Cond Int Int) (fun x=>∃n,qj9 n x) (yd (Y:=Int) (Z:=Int)) fun x y=>y=(x.2.1+oz x.1,x.2.2+lT x.1 -1)
theorem yi(n:Nat)(h1:S cv=HG n):ar jA jj S (a3 Cond Int Int) (qj9 (n+1)) (yd (Y:=Int) (Z:=Int)) fun x y=>y=(x.2.1+oz x.1,x.2.2+lT x.1 -1):=by
 rintro⟨x,nodes,deep⟩ ⟨hn,h0,h2,h3,h4,h5⟩
 simp only at hn h0 h2 h3 h4 h5
 have hd1:=NB x
 have hn1:=Gx x
 simp[jA,jj]
 refine⟨by simp only[InR];omega,fun hkl=>?_⟩
 refine ak (X:=Int×Int) [2,17] [] x.kids.length (fun k z=>z.1=nodes+1+ (gg (x.kids.take k):Int)/\z.2=deep+ (kq (x.kids.take k):Int)) (fun z=>[(1,enc z.1),(8,enc z.2)]) (fun _=>[]) (nodes+1,deep) (by simp) (by simp) (by omega) (by simp) (by simp) (by simp[gg,kq]) (by simp) (by simp) ?_ ?_
 ·rintro k ⟨m,d⟩ hk ⟨e1,e2⟩
  simp only at e1 e2
  obtain⟨y,hy⟩:=xm hk
  obtain⟨_,hgy⟩:=qsT.1 hy
  have hm:=VG hy
  have hd:=Lu (qsW hy)
  have hp:qj9 n (y,m,deep+1):=⟨by show lT y<=n;omega,by show 0<=m;omega,by show m+oz y<=60;omega,by show 0<=deep+1;omega,by show deep+1+lT y<=1000;omega,by show lT y<=60;omega⟩
  have hm60:¬60 < m:=by have:=Gx y;omega
  simp[h1,hk,hy,hgy,hp,hm60]
  exact⟨by simp only[InR];omega,by omega,by rw[hm.2.1,e2];omega⟩
 ·rintro⟨m,d⟩ ⟨e1,e2⟩
  simp only at e1 e2
  rw[qtD]at e1 e2
  simp
  exact⟨by omega,by omega⟩
abbrev Ed:Spc:=bp (a1 Cond) (fun x=>qeU x=true) (enc (X:=Bool)) fun _ y=>y=true
set_option maxHeartbeats 1000000 in
theorem AM:ar bz bw S (a1 Cond) (fun x=>qeU x=true) (enc (X:=Bool)) fun _ y=>y=true:=by
 rintro⟨op,name,arg,val,lab,fold,ks⟩ hx
 have hx:qeU ⟨op,name,arg,val,lab,fold,ks⟩=true:=hx
 unfold qeU at hx
 simp only at hx
 split at hx
 ·rename_i e;subst e;simp at hx
  obtain⟨⟨rfl,rfl,rfl,rfl,rfl⟩,rfl⟩:=hx
  simp[bz,bw,qP, -Bool.forall_bool, -Bool.exists_bool]
 split at hx
 ·rename_i e;subst e;simp at hx
  obtain⟨⟨rfl,rfl⟩,rfl⟩:=hx
  simp[bz,bw,qP, -Bool.forall_bool, -Bool.exists_bool]
 split at hx
 ·rename_i e;subst e;simp at hx
  obtain⟨⟨rfl,rfl,rfl⟩,rfl⟩:=hx
  simp[bz,bw,qP, -Bool.forall_bool, -Bool.exists_bool]
 split at hx
 ·rename_i e;subst e;simp at hx
  obtain⟨⟨rfl,rfl⟩,rfl⟩:=hx
  simp[bz,bw,qP, -Bool.forall_bool, -Bool.exists_bool]
 split at hx
 ·rename_i e;subst e;simp at hx
  obtain⟨⟨rfl,rfl,hav⟩,rfl⟩:=hx
  by_cases ha:arg=qP
  ·have hv:=hav.resolve_left fun h=>h ha
   subst ha;subst hv
   simp[bz,bw,qP, -Bool.forall_bool, -Bool.exists_bool]
  ·have ha':¬arg=⟨#[]⟩:=ha
   simp[bz,bw,qP,ha', -Bool.forall_bool, -Bool.exists_bool]
 split at hx
 ·rename_i e;subst e;simp at hx
  obtain⟨⟨rfl,rfl,rfl,rfl,rfl⟩,hk⟩:=hx
  simp[bz,bw,qP,hk, -Bool.forall_bool, -Bool.exists_bool]
 split at hx
 ·rename_i e
  simp at hx
  obtain⟨⟨rfl,rfl,rfl,rfl,rfl⟩,hk1,hk2⟩:=hx
  have q1:(2:Int)<=(ks.length:Int):=by omega
  have q2:(ks.length:Int)<=60:=by omega
  have q3:(ks.length:Int)<=9223372036854775807:=by omega
  rcases e with rfl|rfl <;> simp[bz,bw,qP,q1,q2,q3, -Bool.forall_bool, -Bool.exists_bool]
 ·cases hx
end Go.Gv

namespace Go.Gv
open Cod (enc dec)
variable {S S0:Nat->Spc}
theorem zj{X:Type}(p:X->Bool):∀l:List X, -1<=gy l p/\gy l p < l.length
 | []=>⟨quI _,by simp[gy]⟩
 | x::l=>by
   have:=zj p l
   rw[gy,qtK]
   split
   ·omega
   ·split <;> omega
open Classical in
noncomputable def aX{Z:Type}(v:Z->List D)(hi:∀z z',v z=v z'->z=z'):dc Z:=⟨fun ds=>if h:∃z,ds=v z then some h.choose else none,v,fun ds z h=>by
 split at h
 ·rename_i h'
  have e:h'.choose=z:=qs8 h
  rw[<-e,<-h'.choose_spec]
  exact⟨rfl,fun k d d' h1 h2=>by rw[h1]at h2;cases h2;exact .same _⟩
 ·cases h⟩
open Classical in
theorem BO{Z:Type}(v:Z->List D)(hi:∀z z',v z=v z'->z=z')(z:Z):(aX v hi).dec (v z)=some z:=by
 have h:∃z',v z=v z':=⟨z,rfl⟩
 show(if h:∃z',v z=v z' then some h.choose else none)=some z
 rw[dif_pos h]
 exact congrArg some (hi _ _ h.choose_spec).symm
theorem Aa{Z:Type}(v:Z->List D)(hi:∀z z',v z=v z'->z=z')(z:Z):(aX v hi).view z=v z:=rfl
def U4(x:Attr×B):List D:=[enc x.1, .cptr [enc x.2] 0]
theorem Oe(z z':Attr×B)(h:U4 z=U4 z'):z=z':=by
 obtain⟨a,s⟩:=z
 obtain⟨a',s'⟩:=z'
 unfold U4 at h
 simp only[qti,D.cptr.injEq,and_true]at h
 rw[aL h.1,aL h.2]
noncomputable abbrev qj4:dc (Attr×B):=aX U4 Oe
noncomputable abbrev Eg:Spc:=bp qj4 (fun _=>True) (enc (X:=Bool)) fun x y=>y=decide (x.1.nm=x.2)
theorem uW:ar fK fG S qj4 (fun _=>True) (enc (X:=Bool)) fun x y=>y=decide (x.1.nm=x.2):=by
 rintro⟨a,s⟩ -
 rw[Aa]
 simp[U4,fK,fG, -Bool.forall_bool, -Bool.exists_bool]
abbrev qW:Spc:=bp (a2 (List Attr) B) (fun _=>True) (enc (X:=Int)) fun x y=>y=mq x.1 x.2
theorem xL(h0:S0 bb=Eg)(h1:S cI=HL Attr S0):ar gP gx S (a2 (List Attr) B) (fun _=>True) (enc (X:=Int)) fun x y=>y=mq x.1 x.2:=by
 rintro⟨a,s⟩ -
 have hf:FunOn S0 (.clo bb [.cptr [enc s] 0]) a fun x=>decide (x.nm=s):=
  vv (f:=fun x=>(x,s)) h0 (fun x _=>BO U4 Oe (x,s)) (fun _ _=>trivial) (fun x _ y hy=>hy)
 simp[gP,gx,h1, -Bool.forall_bool, -Bool.exists_bool]
 exact⟨⟨_,hf⟩,fun y hy=>hy _ hf⟩
abbrev yz:Spc:=bp (a2 (List Attr) B) (fun x=>x.1.length<=1000) (enc (X:=Int)) fun x y=>y=wJ x.1 x.2
theorem B3(h1:S aN=qW):ar gO gw S (a2 (List Attr) B) (fun x=>x.1.length<=1000) (enc (X:=Int)) fun x y=>y=wJ x.1 x.2:=by
 rintro⟨a,s⟩ hl
 have hl:a.length<=1000:=hl
 have hin:InR .i64 ((a.length:Int) -1):=by simp only[InR];omega
 have hl':(a.length:Int)<=9223372036854775807:=by omega
 by_cases hs:s=qP
 ·subst hs
  simp[gO,gw,qP,wJ,hin,hl', -Bool.forall_bool, -Bool.exists_bool]
 ·have hs':¬s=⟨#[]⟩:=hs
  simp[gO,gw,qP,wJ,h1,hs', -Bool.forall_bool, -Bool.exists_bool]
def tn(t:List (List B))(i k:Int):B:=if i < 0\/k < 0 then qP else match t[i.toNat]? with
 | some r=>(match r[k.toNat]? with|some s=>s|none=>qP)
 | none=>qP
abbrev HJ:Spc:=bp (a3 Corpus Int Int) (fun x=>x.1.toks.length<=100000/\∀r∈x.1.toks,r.length<=100000) (enc (X:=B)) fun x y=>y=tn x.1.toks x.2.1 x.2.2
theorem B5:ar ci bZ S (a3 Corpus Int Int) (fun x=>x.1.toks.length<=100000/\∀r∈x.1.toks,r.length<=100000) (enc (X:=B)) fun x y=>y=tn x.1.toks x.2.1 x.2.2:=by
 rintro⟨c,i,k⟩ ⟨hl,hr⟩
 simp only at hl hr
 have hl':(c.toks.length:Int)<=9223372036854775807:=by omega
 by_cases h0:i < 0
 ·simp[ci,bZ,h0,tn, -Bool.forall_bool, -Bool.exists_bool]
  rfl
 by_cases h1:(c.toks.length:Int)<=i
 ·have hn:c.toks[i.toNat]? =none:=qto (by omega)
  by_cases h2:k < 0
  ·simp[ci,bZ,h0,h1,h2,hl',tn, -Bool.forall_bool, -Bool.exists_bool]
   rfl
  ·simp[ci,bZ,h0,h1,h2,hl',hn,tn, -Bool.forall_bool, -Bool.exists_bool]
   rfl
 by_cases h2:k < 0
 ·simp[ci,bZ,h0,h1,h2,hl',tn, -Bool.forall_bool, -Bool.exists_bool]
  rfl
 obtain⟨r,hri⟩:=xm (show i.toNat < c.toks.length by omega)
 obtain⟨_,hgr⟩:=qsT.1 hri
 have hrl:=hr r (qsW hri)
 have hrl':(r.length:Int)<=9223372036854775807:=by omega
 have i0:0<=i:=by omega
 have i1:i < (c.toks.length:Int):=by omega
 have k0:0<=k:=by omega
 by_cases h3:(r.length:Int)<=k
 ·have hn:r[k.toNat]? =none:=qto (by omega)
  simp[ci,bZ,h0,h1,h2,h3,hl',hrl',hn,hri,hgr,i0,i1,tn, -Bool.forall_bool, -Bool.exists_bool]
  rfl
 obtain⟨s,hsk⟩:=xm (show k.toNat < r.length by omega)
 obtain⟨_,hgs⟩:=qsT.1 hsk
 have k1:k < (r.length:Int):=by omega
 simp[ci,bZ,h0,h1,h2,h3,hl',hrl',hri,hgr,hsk,hgs,i0,i1,k0,k1,tn, -Bool.forall_bool, -Bool.exists_bool]
end Go.Gv

namespace Go.Gv
open Cod (enc dec)
variable {S S0:Nat->Spc}
abbrev Me:Spc:=bp (a1 B) (fun s=>EA s=true) (enc (X:=Bool)) fun _ y=>y=true
abbrev yu:Spc:=bp (a1 B) (fun s=>yX s=true) (enc (X:=Int)) fun _ y=>y=0
abbrev s_sConB:Spc:=bp (a2 B B) (fun x=>x.2=⟨#[124]⟩/\yX x.1=true) (enc (X:=Bool)) fun x y=>y=qdb x.1
abbrev OM:Spc:=bp (a1 B) (fun s=>∃r,qv s=some r) (enc (X:=Int)) fun _ y=>y=0
def sC(l:List B)(s:B):Bool:=l.any fun z=>decide (z=s)
abbrev RT:Spc:=bp (a2 (List B) B) (fun _=>True) (enc (X:=Bool)) fun x y=>y=sC x.1 x.2
abbrev vS:Spc:=bp (a2 (List B) B) (fun _=>True) (enc (X:=Int)) fun x y=>y=gy x.1 fun z=>decide (z=x.2)
theorem GY:ar gH gk S (a2 (List B) B) (fun _=>True) (enc (X:=Int)) fun x y=>y=gy x.1 fun z=>decide (z=x.2):=by
 rintro⟨l,s⟩ -
 simp[gH,gk, -Bool.forall_bool, -Bool.exists_bool]
 intro _
 refine ak (X:=Unit) [0,1] [] l.length (fun k _=>∀x∈l.take k,decide (x=s)=false) (fun _=>[]) (fun _=>[]) () (by simp) (by simp) (by omega) (by simp) (by simp) (by simp) (by simp) (by simp) ?_ ?_
 ·intro k _ hk hP
  obtain⟨x,hx⟩:=xm hk
  obtain⟨_,hgx⟩:=qsT.1 hx
  simp[hk,hx,hgx, -Bool.forall_bool, -Bool.exists_bool]
  refine⟨fun h=>?_,fun h=>?_⟩
  ·exact(tH hx (by simp[h]) hP).symm
  ·rw[cO hx]
   intro z hz
   rcases qsZ.1 hz with hz|hz
   ·have:=hP z hz
    simpa using this
   ·simp at hz;subst hz
    exact fun e=>h e.symm
 ·intro _ hP
  simp[-Bool.forall_bool, -Bool.exists_bool]
  exact(mf (by simpa using hP)).symm
theorem B8(h1:S aM=vS):ar cq cp S (a2 (List B) B) (fun _=>True) (enc (X:=Bool)) fun x y=>y=sC x.1 x.2:=by
 rintro⟨l,s⟩ -
 simp[cq,cp,h1, -Bool.forall_bool, -Bool.exists_bool]
 exact tG _ l
abbrev HF:Spc:=bp (a2 Cond (List Attr)) (fun x=>qdM x.2 x.1=true/\x.2.length<=1000) (enc (X:=Bool)) fun _ y=>y=true
theorem B2(h1:S dT=yz)(h2:S aN=qW)(h3:S cb=Me):ar cg bY S (a2 Cond (List Attr)) (fun x=>qdM x.2 x.1=true/\x.2.length<=1000) (enc (X:=Bool)) fun _ y=>y=true:=by
 rintro⟨⟨op,name,arg,val,lab,fold,ks⟩,a⟩ ⟨hx,hl⟩
 have hx:qdM a ⟨op,name,arg,val,lab,fold,ks⟩=true:=hx
 have hl:a.length<=1000:=hl
 unfold qdM at hx
 simp only at hx
 split at hx
 ·rename_i e;subst e;simp at hx
  simp[cg,bY,h1,hl,hx, -Bool.forall_bool, -Bool.exists_bool]
 rename_i e2
 split at hx
 ·rename_i e;subst e;simp at hx
  simp[cg,bY,h2,hx, -Bool.forall_bool, -Bool.exists_bool]
 rename_i e3
 split at hx
 ·rename_i e;subst e;simp at hx
  simp[cg,bY,h2,hx.1,hx.2, -Bool.forall_bool, -Bool.exists_bool]
 rename_i e4
 split at hx
 ·rename_i e;subst e;simp at hx
  obtain⟨hn,ha⟩:=hx
  by_cases hae:arg=qP
  ·subst hae
   simp[cg,bY,h3,hn,qP, -Bool.forall_bool, -Bool.exists_bool]
  ·have ha':=ha.resolve_left hae
   have hae':¬arg=⟨#[]⟩:=hae
   simp[cg,bY,h3,hn,ha',hae', -Bool.forall_bool, -Bool.exists_bool]
 rename_i e5
 simp[cg,bY,e2,e3,e4,e5, -Bool.forall_bool, -Bool.exists_bool]
abbrev HI:Spc:=bp (a3 Cond (List Attr) (List B)) (fun x=>nW x.2.1 x.2.2 x.1=true/\x.2.1.length<=1000) (enc (X:=Int)) fun _ y=>y=0
theorem B4(h1:S iS=Ed)(h2:S iT=HF)(h3:S pI=OM)(h4:S aN=qW)(h5:S lF=s_sConB)(h6:S bE=yu)(h7:S aF=RT):
 ar cM cL S (a3 Cond (List Attr) (List B)) (fun x=>nW x.2.1 x.2.2 x.1=true/\x.2.1.length<=1000) (enc (X:=Int)) fun _ y=>y=0:=by
 rintro⟨x,a,lb⟩ ⟨hx,hl⟩
 have hx:nW a lb x=true:=hx
 have hl:a.length<=1000:=hl
 unfold nW at hx
 simp only[qs1]at hx
 obtain⟨⟨hs,hn⟩,hc⟩:=hx
 obtain⟨op,name,arg,val,lab,fold,ks⟩:=x
 unfold qmM at hc
 simp only at hc
 have e:(Cond.mk op name arg val lab fold ks)=⟨op,name,arg,val,lab,fold,ks⟩:=rfl
 split at hc
 ·rename_i e;subst e
  obtain⟨r,hr⟩:=qtV.1 hc
  simp[cM,cL,h1,h2,h3,hs,hn,hl,hr, -Bool.forall_bool, -Bool.exists_bool]
 rename_i e2
 split at hc
 ·rename_i e;subst e
  simp only[qs1]at hc
  obtain⟨⟨⟨c1,c2⟩,c3⟩,c4⟩:=hc
  have hn':0<=mq a name:=by simpa [qdM]using hn
  have hrg:=(zj (fun x:Attr=>decide (x.nm=name)) a).2
  have hlt:mq a name < a.length:=hrg
  obtain⟨b,hb⟩:=xm (show(mq a name).toNat < a.length by omega)
  obtain⟨_,hgb⟩:=qsT.1 hb
  rw[hb]at c1
  have c1:b.st=true:=c1
  have c2:¬val=⟨#[]⟩:=of_decide_eq_true c2
  have c3:qdb val=false:=by simpa using c3
  simp[cM,cL,h1,h2,h4,h5,h6,hs,hn,hl,hn',hlt,hb,hgb,c1,c2,c3,c4, -Bool.forall_bool, -Bool.exists_bool]
 rename_i e3
 split at hc
 ·rename_i e;subst e
  have hc:sC lb lab=true:=hc
  simp[cM,cL,h1,h2,h7,hs,hn,hl,hc, -Bool.forall_bool, -Bool.exists_bool]
 rename_i e4
 split at hc
 ·rename_i e;subst e
  simp[cM,cL,h1,h2,h6,hs,hn,hl,hc, -Bool.forall_bool, -Bool.exists_bool]
 rename_i e5
 simp[cM,cL,h1,h2,hs,hn,hl,e2,e3,e4,e5, -Bool.forall_bool, -Bool.exists_bool]
end Go.Gv

namespace Go.Gv
open Go.Proofs
def nL:CC:=oX [oB 2 (.mv (.const ob))] [0] [] (oX [oA 3 0,oB 4 (.cmp .geq (oT 3) (.const (.int .u8 65))),oA 5 4,oH 6 5 (.mv (oT 0)),oH 7 5 (.cmp .leq (oT 6) (.const (.int .u8 90))),oB 8 (.pick (oT 5) (oT 7) (.const ob)),oA 9 8,oI 10 9 (.mv (oT 0)),oI 11 9 (.cmp .geq (oT 10) (.const (.int .u8 97))),oI 12 9 (.mv (oT 11)),oH 13 12 (.mv (oT 0)),
 oH 14 12 (.cmp .leq (oT 13) (.const (.int .u8 122))),oI 15 9 (.pick (oT 12) (oT 14) (.const ob)),oB 16 (.pick (oT 9) (.const (.bool true)) (oT 15)),oA 17 16,oI 18 17 (.mv (oT 0)),oI 19 17 (.eql false false [.int] (oT 18) (.const (.int .u8 95))),oB 20 (.pick (oT 17) (.const (.bool true)) (oT 19)),oA 2 20] [2] [] (.ret))
def mO:List aj:=[.tmp 2]
def nK:CC:=oX [oB 2 (.mv (.const ob))] [0] [] (oX [oA 3 0,oZ 4 aY [oT 3],oA 5 4,oI 6 5 (.mv (oT 0)),oI 7 5 (.cmp .geq (oT 6) (.const (.int .u8 48))),oI 8 5 (.mv (oT 7)),oH 9 8 (.mv (oT 0)),oH 10 8 (.cmp .leq (oT 9) (.const (.int .u8 57))),oI 11 5 (.pick (oT 8) (oT 10) (.const ob)),oB 12 (.pick (oT 5) (.const (.bool true)) (oT 11)),oA 13 12,
 oI 14 13 (.mv (oT 0)),oI 15 13 (.eql false false [.int] (oT 14) (.const (.int .u8 45))),oB 16 (.pick (oT 13) (.const (.bool true)) (oT 15)),oA 2 16] [2] [] (.ret))
def mN:List aj:=[.tmp 2]
def jx:CC:=oX [oB 2 (.mv (.const ob))] [0] [] (.seq (oX [oA 4 0,oB 5 (.slen (oT 4)),oB 6 (.cmp .lss (oT 5) (oN 1)),oA 7 6,oI 8 7 (.mv (oT 0)),oI 9 7 (.slen (oT 8)),oI 10 7 (.cmp .gtr (oT 9) (oN 32)),oB 11 (.pick (oT 7) (.const (.bool true)) (oT 10)),oA 12 11,oI 13 12 (.mv (oT 0)),oI 14 12 (.sidx (oT 13) (oN 0)),oI 15 12 (.call aY [oT 14]),
 oI 16 12 (.not (oT 15)),oB 17 (.pick (oT 12) (.const (.bool true)) (oT 16))] [0,17] [] (.ite (oT 17) (oX [oB 2 (.mv (.const ob))] [2] [] (.ret)) (.skip))) (.keep [0] [] (.seq (oX [oA 18 0,oB 19 (.slen (oT 18)),oB 20 (.mv (oN 0))] [0,19,20] [] (wm 0 20 19 21 1 (oX [oA 22 20,oA 3 22] [0,3,19,20] [] (oX [oA 23 0,oA 24 3,oB 25 (.sidx (oT 23) (oT 24)),oZ 26 cK [oT 25],
 oB 27 (.not (oT 26))] [0,19,20,27] [] (.ite (oT 27) (oX [oB 2 (.mv (.const ob))] [2] [] (.ret)) (.skip)))) 28)) (.keep [] [] (oX [oB 2 (.mv (.const (.bool true)))] [2] [] (.ret))))))
def jg:List aj:=[.tmp 2]
def jw:CC:=by refine(fun(_:G.ap (G.gn Tryz.prog Tryz.f175 [] {})=?c)=>?c) ?h;case h=>conv=>lhs; (conv=>arg 1;reduce);dsimp only[G.ap]
def je:List aj:=[.tmp 2]
theorem yP:aq Tryz.prog bE [] jw je 24:=ai mixed (by kernel_rfl)
def kL:CC:=by refine(fun(_:G.ap (G.gn Tryz.prog Tryz.f288 [] {})=?c)=>?c) ?h;case h=>conv=>lhs; (conv=>arg 1;reduce);dsimp only[G.ap]
def kC:List aj:=[.tmp 4]
theorem Al:aq Tryz.prog gC [] kL kC 17:=ai mixed (by kernel_rfl)
def tc:CC:=by refine(fun(_:G.ap (G.gn Tryz.prog Tryz.f264 [] {})=?c)=>?c) ?h;case h=>conv=>lhs; (conv=>arg 1;reduce);dsimp only[G.ap]
def sw:List aj:=[.tmp 4]
theorem In:aq Tryz.prog pG [] tc sw 19:=ai mixed (by kernel_rfl)
def cn:CC:=by refine(fun(_:G.ap (G.gn Tryz.prog Tryz.f287 [] {})=?c)=>?c) ?h;case h=>conv=>lhs; (conv=>arg 1;reduce);dsimp only[G.ap]
def cj:List aj:=[.tmp 2, .tmp 3]
theorem Ew:aq Tryz.prog ld [] cn cj 71:=ai mixed (by kernel_rfl)
end Go.Gv
