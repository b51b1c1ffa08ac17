/- A part of the framework and of the walks: V3 V55 W151 W152 W153 C59 W159 W154. -/
import Derived.Test.YtphdikcommfnhaaGreatDoorGg26
import Derived.Test.YtphdikcommfnhaaGreatDoorGg20
import Derived.Test.YtphdikcommfnhaaGreatDoorGg28
set_option linter.unusedSimpArgs false
set_option linter.unusedVariables false
set_option linter.unusedSectionVars false
set_option maxRecDepth 100000
set_option maxHeartbeats 0

namespace Go.Gv
instance:Inhabited Cond:=⟨⟨0,⟨#[]⟩,⟨#[]⟩,⟨#[]⟩,⟨#[]⟩,false, []⟩⟩
instance:Inhabited Pat:=⟨⟨0,default,⟨#[]⟩,⟨#[]⟩,0,0, []⟩⟩
def jh:Cond:=⟨0,⟨#[]⟩,⟨#[]⟩,⟨#[]⟩,⟨#[]⟩,false, []⟩
mutual
def fe:Pat->Nat| .mk _ _ _ _ _ _ ks=>E7 ks+1
def E7:List Pat->Nat|[]=>0|k::ks=>max (fe k) (E7 ks)
end
mutual
def jd:Cond->Nat| .mk _ _ _ _ _ _ ks=>jz ks+1
def jz:List Cond->Nat|[]=>0|k::ks=>max (jd k) (jz ks)
end
mutual
def pY:Pat->Nat| .mk _ _ _ _ _ _ ks=>eP ks+1
def eP:List Pat->Nat|[]=>0|k::ks=>pY k+eP ks
end
theorem Gc(p:Pat):fe p=E7 p.kids+1:=by cases p;rw[fe]
theorem Nf(p:Cond):jd p=jz p.kids+1:=by cases p;rw[jd]
theorem sW(p:Pat):pY p=eP p.kids+1:=by cases p;rw[pY]
theorem KE{k:Pat} :∀ {ks:List Pat},k∈ks->fe k<=E7 ks
 | a::ks,h=>by
   rw[E7]
   rcases qtM.1 h with rfl|h
   ·omega
   ·have:=KE h;omega
theorem Li{k:Cond} :∀ {ks:List Cond},k∈ks->jd k<=jz ks
 | a::ks,h=>by
   rw[jz]
   rcases qtM.1 h with rfl|h
   ·omega
   ·have:=Li h;omega
theorem jZ{p k:Pat}(h:k∈p.kids):fe k < fe p:=by have:=KE h;rw[Gc p];omega
theorem kw{C:Pat->Prop}(h:∀p,(∀k∈p.kids,C k)->C p)(p:Pat):C p:=by
 generalize hn:fe p=n
 induction n using Nat.strongRecOn generalizing p with
 | _ n ih=>exact h p fun k hk=>ih (fe k) (by rw[<-hn];exact jZ hk) k rfl
mutual
def eC(f:Pat->Bool):Pat->Bool| .mk op c l r mn mx ks=>f ⟨op,c,l,r,mn,mx,ks⟩ && Dd f ks
def Dd(f:Pat->Bool):List Pat->Bool|[]=>true|k::ks=>eC f k && Dd f ks
end
theorem Io(f:Pat->Bool):∀ks:List Pat,Dd f ks=ks.all (eC f)
 | []=>by rw[Dd];rfl
 | k::ks=>by rw[Dd,Io f ks,qvt]
theorem eb(f:Pat->Bool)(p:Pat):eC f p=(f p && p.kids.all (eC f)):=by cases p;rw[eC,Io]
mutual
def cP:Pat->Int->Bool| .mk _ _ _ _ _ _ ks,d=>decide (d<=100) && uM ks (d+1)
def uM:List Pat->Int->Bool|[],_=>true|k::ks,d=>cP k d && uM ks d
end
theorem Cn(d:Int):∀ks:List Pat,uM ks d=ks.all (cP · d)
 | []=>by rw[uM];rfl
 | k::ks=>by rw[uM,Cn d ks,qvt]
theorem lC(p:Pat)(d:Int):cP p d=(decide (d<=100) && p.kids.all (cP · (d+1))):=by cases p;rw[cP,Cn]
theorem LY(p:Pat):∀d d':Int,d'<=d->cP p d=true->cP p d'=true:=by
 induction p using kw with|_ p ih=>?_
 intro d d' h
 rw[lC,lC]
 simp only[qtN,decide_eq_true_eq,qtL]
 exact fun⟨h1,h2⟩=>⟨by omega,fun k hk=>ih k hk (d+1) (d'+1) (by omega) (h2 k hk)⟩
def uA(p:Pat):Prop:=(p.op=1/\p.reg=⟨#[]⟩/\p.mn=0/\p.mx=0/\p.kids=[])\/
 ((p.op=2\/p.op=3)/\p.cond=jh/\p.lab=⟨#[]⟩/\p.mn=0/\p.mx=0/\p.kids=[])\/
 ((p.op=4\/p.op=5)/\p.cond=jh/\p.lab=⟨#[]⟩/\p.reg=⟨#[]⟩/\p.mn=0/\p.mx=0/\2<=p.kids.length)\/
 (p.op=6/\p.cond=jh/\p.lab=⟨#[]⟩/\p.reg=⟨#[]⟩/\p.kids.length=1)
noncomputable def yC(p:Pat):Bool:= @decide (uA p) (Classical.propDecidable _)
theorem zK(p:Pat):yC p=true↔uA p:= @decide_eq_true_iff (uA p) (Classical.propDecidable _)
def xG(p:Pat):Bool:=decide (p.op=6->0<=p.mn/\p.mn<=16/\(p.mx= -1\/p.mn<=p.mx/\p.mx<=16))
def uS(v:B->Bool)(p:Pat):Bool:=decide (((p.op=2\/p.op=3)->v p.reg=true)/\(p.lab≠ ⟨#[]⟩->v p.lab=true))
noncomputable def pW(v:B->Bool)(p:Pat):Bool:=cP p 1 && eC yC p && eC (uS v) p && eC xG p
theorem OF{v:B->Bool}{p k:Pat}(h:pW v p=true)(hk:k∈p.kids):pW v k=true:=by
 unfold pW at*
 rw[eb,eb,eb xG,lC]at h
 simp only[qtN,qtL]at h
 obtain⟨⟨⟨⟨_,h1⟩,_,h2⟩,_,h3⟩,_,h4⟩:=h
 rw[h2 k hk,h3 k hk,h4 k hk,LY k _ 1 (by omega) (h1 k hk)]
 rfl
theorem KC{v:B->Bool}{p:Pat}(h:pW v p=true):yC p=true/\uS v p=true/\xG p=true:=by
 unfold pW at*
 rw[eb,eb,eb xG]at h
 simp only[qtN]at h
 exact⟨h.1.1.2.1,h.1.2.1,h.2.1⟩
def EY(p:Pat)(n:Int):Int:=if p.kids=[]then 1 else if p.op=6 then(if p.mx= -1 then min (n* (p.mn+1)) 1000 else if p.mx=0 then n else min (n*p.mx) 1000)else n
mutual
def jX:Pat->Int| .mk op c l r mn mx ks=>EY ⟨op,c,l,r,mn,mx,ks⟩ (gG ks 0)
def gG:List Pat->Int->Int|[],n=>n|k::ks,n=>gG ks (min (n+jX k) 1000)
end
theorem uL(p:Pat):jX p=EY p (gG p.kids 0):=by cases p;rw[jX]
theorem Rc(a b:List Pat)(n:Int):gG (a++b) n=gG b (gG a n):=by
 induction a generalizing n with
 | nil=>rfl
 | cons k a ih=>simp only[quv,gG];exact ih _
mutual
def aC:Pat->List Pat| .mk op c l r mn mx ks=>if op=1 then[⟨op,c,l,r,mn,mx,ks⟩]else yH ks
def yH:List Pat->List Pat|[]=>[]|k::ks=>aC k++yH ks
end
theorem Fc:∀ks:List Pat,yH ks=ks.flatMap aC
 | []=>by rw[yH];rfl
 | k::ks=>by rw[yH,Fc ks,quq]
theorem cm(p:Pat):aC p=if p.op=1 then[p]else p.kids.flatMap aC:=by cases p;rw[aC,Fc]
theorem H5(p:Pat):(aC p).length<=pY p:=by
 induction p using kw with|_ p ih=>?_
 rw[cm,sW]
 split
 ·simp
 ·have:∀ks:List Pat,(∀k∈ks,(aC k).length<=pY k)->(ks.flatMap aC).length<=eP ks:=by
   intro ks
   induction ks with
   | nil=>intro _;simp[eP]
   | cons k ks ih=>
     intro h
     rw[quq,qt4,eP]
     have h1:=h k (by simp)
     have h2:=ih fun x hx=>h x (by simp[hx])
     omega
  have:=this p.kids ih
  omega
theorem vv:∀ (ks:List Pat) (n:Int),0<=n->n<=1000->(∀k∈ks,0<=jX k)->0<=gG ks n/\gG ks n<=1000
 | [],n,h0,h1,_=>by rw[gG];exact⟨h0,h1⟩
 | k::ks,n,h0,h1,h=>by
   rw[gG]
   have:=h k (by simp)
   exact vv ks _ (by omega) (by omega) fun x hx=>h x (by simp[hx])
theorem U6{v:B->Bool}(p:Pat):pW v p=true->0<=jX p/\jX p<=1000:=by
 induction p using kw with|_ p ih=>?_
 intro h
 have hk:=vv p.kids 0 (by omega) (by omega) fun k hk=>(ih k hk (OF h hk)).1
 have hn:=(KC h).2.2
 unfold xG at hn
 rw[decide_eq_true_eq]at hn
 rw[uL]
 generalize gG p.kids 0=n at hk
 unfold EY
 split
 ·omega
 ·split
  ·rename_i h6
   have hn:=hn h6
   split
   ·have:0<=n* (p.mn+1):=qv2 hk.1 (by omega)
    omega
   ·split
    ·exact hk
    ·have:0<=n*p.mx:=qv2 hk.1 (by omega)
     omega
  ·exact hk
end Go.Gv

namespace Go.Gv
open Cod (enc dec)
mutual
def kR:Cond->Nat| .mk _ _ _ _ _ _ ks=>fG ks+1
def fG:List Cond->Nat|[]=>0|k::ks=>kR k+fG ks
end
theorem CX(x:Cond):kR x=fG x.kids+1:=by cases x;rw[kR]
theorem zJ:∀ (a b:List Cond),fG (a++b)=fG a+fG b
 | [],b=>by rw[quD,fG];omega
 | k::a,b=>by rw[quv,fG,fG,zJ a b];omega
theorem Lj:∀ (a b:List Cond),jz (a++b)=max (jz a) (jz b)
 | [],b=>by rw[quD,jz];omega
 | k::a,b=>by rw[quv,jz,jz,Lj a b];omega
theorem Ee:∀ {ks:List Cond} {k:Cond},k∈ks->kR k<=fG ks
 | x::ks,k,h=>by
   rw[fG]
   rcases qtM.1 h with rfl|h
   ·omega
   ·have:=Ee h;omega
theorem Vz{ks:List Cond}{k:Nat}{x:Cond}(h:ks[k]? =some x):fG (ks.take (k+1))=fG (ks.take k) +kR x/\jz (ks.take (k+1))=max (jz (ks.take k)) (jd x)/\fG (ks.take k) +kR x<=fG ks:=by
 have e:=bM h
 refine⟨by rw[e,zJ,fG,fG];omega,by rw[e,Lj,jz,jz];omega,?_⟩
 conv=>rhs;rw[<-qus (k+1) ks,zJ]
 rw[e,zJ,fG,fG]
 omega
def qz:B:=⟨#[]⟩
def je(a:List Attr)(n:B):Int:=fS a fun x=>decide (x.nm=n)
def wk(a:List Attr)(n:B):Int:=if n=qz then min 0 ((a.length:Int) -1)else je a n
def Ui(c:UInt8):Bool:=(decide (65<=c.toNat) && decide (c.toNat<=90))||(decide (97<=c.toNat) && decide (c.toNat<=122))||decide (c.toNat=95)
def qpY(c:UInt8):Bool:=Ui c||(decide (48<=c.toNat) && decide (c.toNat<=57))||decide (c.toNat=45)
def Ec(s:B):Bool:=decide (1<=s.size/\s.size<=32) && (match s.data.toList with|c::_=>Ui c|[]=>false) && s.data.toList.all qpY
def yz(s:B):Bool:=decide (s.size<=120) && s.data.toList.all fun c=>decide (32<=c.toNat/\c.toNat < 127)
def qfC(x:Cond):Bool:=
 if x.op=1 then decide (x.name=qz/\x.arg=qz/\x.val=qz/\x.lab=qz/\x.fold=false) && x.kids.isEmpty else
 if x.op=2 then decide (x.arg=qz/\x.lab=qz) && x.kids.isEmpty else
 if x.op=3 then decide (x.arg=qz/\x.lab=qz/\x.fold=false) && x.kids.isEmpty else
 if x.op=4 then decide (x.val=qz/\x.fold=false) && x.kids.isEmpty else
 if x.op=5 then decide (x.lab=qz/\x.fold=false/\(x.arg=qz->x.val=qz)) && x.kids.isEmpty else
 if x.op=6 then decide (x.name=qz/\x.arg=qz/\x.val=qz/\x.lab=qz/\x.fold=false) && decide (x.kids.length=1)else
 if x.op=7\/x.op=8 then decide (x.name=qz/\x.arg=qz/\x.val=qz/\x.lab=qz/\x.fold=false) && decide (2<=x.kids.length/\x.kids.length<=60)else false
def qcy(a:List Attr)(x:Cond):Bool:=
 if x.op=2 then decide (0<=wk a x.name)else
 if x.op=3 then decide (0<=je a x.name)else
 if x.op=4 then decide (0<=je a x.name/\0<=je a x.arg)else
 if x.op=5 then Ec x.name && (decide (x.arg=qz)||Ec x.arg)else true
def qaD(s:B):Bool:=s.data.toList.any fun c=>decide (c.toNat=124)
def qkv(a:List Attr)(lb:List B)(x:Cond):Bool:=
 if x.op=2 then(pX x.val).isSome else
 if x.op=3 then(match a[(je a x.name).toNat]? with|some b=>b.st|none=>false) && decide (x.val≠qz) && !qaD x.val && yz x.val else
 if x.op=4 then lb.any fun l=>decide (l=x.lab)else
 if x.op=5 then yz x.val else true
def iH(a:List Attr)(lb:List B)(x:Cond):Bool:=qfC x && qcy a x && qkv a lb x
def nA(a:List Attr)(lb:List B):Nat->Cond->Bool
 | 0=>fun _=>false
 | n+1=>fun x=>iH a lb x && x.kids.all (nA a lb n)
def qbr(a:List Attr)(lb:List B)(x:Cond):Bool:=decide (kR x<=60/\jd x<=20) && nA a lb 20 x
end Go.Gv

namespace Go.Gv
open Cod (enc dec)
variable {S S0:Nat->Spc}
theorem sE{X:Type}{l:List X}{k:Nat}(h:k < l.length):∃x,l[k]? =some x:=⟨_,qtH h⟩
def qim(n:Nat)(x:Cond×Int×Int):Prop:=jd x.1<=n/\0<=x.2.1/\x.2.1+kR x.1<=60/\0<=x.2.2/\x.2.2+jd x.1<=1000/\jd x.1<=60
abbrev Oz(n:Nat):Spc:=aS (a3 Cond Int Int) (qim n) (xb (Y:=Int) (Z:=Int)) fun x y=>y=(x.2.1+kR x.1,x.2.2+jd x.1 -1)
abbrev Hb:Spc:=aS (a3 Cond Int Int) (fun x=>∃n,qim n x) (xb (Y:=Int) (Z:=Int)) fun x y=>y=(x.2.1+kR x.1,x.2.2+jd x.1 -1)
theorem xP(n:Nat)(h1:S cH=Oz n):aq iZ iB S (a3 Cond Int Int) (qim (n+1)) (xb (Y:=Int) (Z:=Int)) fun x y=>y=(x.2.1+kR x.1,x.2.2+jd x.1 -1):=by
 rintro⟨x,nodes,deep⟩ ⟨hn,h0,h2,h3,h4,h5⟩
 simp only at hn h0 h2 h3 h4 h5
 have hd1:=Nf x
 have hn1:=CX x
 simp[iZ,iB]
 refine⟨by simp only[InR];omega,fun hkl=>?_⟩
 refine ai (X:=Int×Int) [2,17] [] x.kids.length (fun k z=>z.1=nodes+1+ (fG (x.kids.take k):Int)/\z.2=deep+ (jz (x.kids.take k):Int)) (fun z=>[(1,enc z.1),(8,enc z.2)]) (fun _=>[]) (nodes+1,deep) (by simp) (by simp) (by omega) (by simp) (by simp) (by simp[fG,jz]) (by simp) (by simp) ?_ ?_
 ·rintro k ⟨m,d⟩ hk ⟨e1,e2⟩
  simp only at e1 e2
  obtain⟨y,hy⟩:=sE hk
  obtain⟨_,hgy⟩:=qtG.1 hy
  have hm:=Vz hy
  have hd:=Li (qtJ hy)
  have hp:qim n (y,m,deep+1):=⟨by show jd y<=n;omega,by show 0<=m;omega,by show m+kR y<=60;omega,by show 0<=deep+1;omega,by show deep+1+jd y<=1000;omega,by show jd y<=60;omega⟩
  have hm60:¬60 < m:=by have:=CX y;omega
  simp[h1,hk,hy,hgy,hp,hm60]
  exact⟨by simp only[InR];omega,by omega,by rw[hm.2.1,e2];omega⟩
 ·rintro⟨m,d⟩ ⟨e1,e2⟩
  simp only at e1 e2
  rw[quj]at e1 e2
  simp
  exact⟨by omega,by omega⟩
abbrev DV:Spc:=aS (a1 Cond) (fun x=>qfC x=true) (enc (X:=Bool)) fun _ y=>y=true
set_option maxHeartbeats 1000000 in
theorem AD:aq aY aW S (a1 Cond) (fun x=>qfC x=true) (enc (X:=Bool)) fun _ y=>y=true:=by
 rintro⟨op,name,arg,val,lab,fold,ks⟩ hx
 have hx:qfC ⟨op,name,arg,val,lab,fold,ks⟩=true:=hx
 unfold qfC at hx
 simp only at hx
 split at hx
 ·rename_i e;subst e;simp at hx
  obtain⟨⟨rfl,rfl,rfl,rfl,rfl⟩,rfl⟩:=hx
  simp[aY,aW,qz, -Bool.forall_bool, -Bool.exists_bool]
 split at hx
 ·rename_i e;subst e;simp at hx
  obtain⟨⟨rfl,rfl⟩,rfl⟩:=hx
  simp[aY,aW,qz, -Bool.forall_bool, -Bool.exists_bool]
 split at hx
 ·rename_i e;subst e;simp at hx
  obtain⟨⟨rfl,rfl,rfl⟩,rfl⟩:=hx
  simp[aY,aW,qz, -Bool.forall_bool, -Bool.exists_bool]
 split at hx
 ·rename_i e;subst e;simp at hx
  obtain⟨⟨rfl,rfl⟩,rfl⟩:=hx
  simp[aY,aW,qz, -Bool.forall_bool, -Bool.exists_bool]
 split at hx
 ·rename_i e;subst e;simp at hx
  obtain⟨⟨rfl,rfl,hav⟩,rfl⟩:=hx
  by_cases ha:arg=qz
  ·have hv:=hav.resolve_left fun h=>h ha
   subst ha;subst hv
   simp[aY,aW,qz, -Bool.forall_bool, -Bool.exists_bool]
  ·have ha':¬arg=⟨#[]⟩:=ha
   simp[aY,aW,qz,ha', -Bool.forall_bool, -Bool.exists_bool]
 split at hx
 ·rename_i e;subst e;simp at hx
  obtain⟨⟨rfl,rfl,rfl,rfl,rfl⟩,hk⟩:=hx
  simp[aY,aW,qz,hk, -Bool.forall_bool, -Bool.exists_bool]
 split at hx
 ·rename_i e
  simp at hx
  obtain⟨⟨rfl,rfl,rfl,rfl,rfl⟩,hk1,hk2⟩:=hx
  have q1:(2:Int)<=(ks.length:Int):=by omega
  have q2:(ks.length:Int)<=60:=by omega
  have q3:(ks.length:Int)<=9223372036854775807:=by omega
  rcases e with rfl|rfl <;> simp[aY,aW,qz,q1,q2,q3, -Bool.forall_bool, -Bool.exists_bool]
 ·cases hx
end Go.Gv

namespace Go.Gv
open Cod (enc dec)
variable {S S0:Nat->Spc}
theorem uU{X:Type}(p:X->Bool):∀l:List X, -1<=fS l p/\fS l p < l.length
 | []=>⟨qvv _,by simp[fS]⟩
 | x::l=>by
   have:=uU p l
   rw[fS,quy]
   split
   ·omega
   ·split <;> omega
open Classical in
noncomputable def aX{Z:Type}(v:Z->List D)(hi:∀z z',v z=v z'->z=z'):cM Z:=⟨fun ds=>if h:∃z,ds=v z then some h.choose else none,v,fun ds z h=>by
 split at h
 ·rename_i h'
  have e:h'.choose=z:=qtV h
  rw[<-e,<-h'.choose_spec]
  exact⟨rfl,fun k d d' h1 h2=>by rw[h1]at h2;cases h2;exact .same _⟩
 ·cases h⟩
open Classical in
theorem BH{Z:Type}(v:Z->List D)(hi:∀z z',v z=v z'->z=z')(z:Z):(aX v hi).dec (v z)=some z:=by
 have h:∃z',v z=v z':=⟨z,rfl⟩
 show(if h:∃z',v z=v z' then some h.choose else none)=some z
 rw[dif_pos h]
 exact congrArg some (hi _ _ h.choose_spec).symm
theorem wR{Z:Type}(v:Z->List D)(hi:∀z z',v z=v z'->z=z')(z:Z):(aX v hi).view z=v z:=rfl
def UV(x:Attr×B):List D:=[enc x.1, .cptr [enc x.2] 0]
theorem NU(z z':Attr×B)(h:UV z=UV z'):z=z':=by
 obtain⟨a,s⟩:=z
 obtain⟨a',s'⟩:=z'
 unfold UV at h
 simp only[qt5,D.cptr.injEq,and_true]at h
 rw[aL h.1,aL h.2]
noncomputable abbrev qkS:cM (Attr×B):=aX UV NU
noncomputable abbrev L6:Spc:=aS qkS (fun _=>True) (enc (X:=Bool)) fun x y=>y=decide (x.1.nm=x.2)
theorem uF:aq fk fb S qkS (fun _=>True) (enc (X:=Bool)) fun x y=>y=decide (x.1.nm=x.2):=by
 rintro⟨a,s⟩ -
 rw[wR]
 simp[UV,fk,fb, -Bool.forall_bool, -Bool.exists_bool]
abbrev zI:Spc:=aS (a2 (List Attr) B) (fun _=>True) (enc (X:=Int)) fun x y=>y=je x.1 x.2
theorem xp(h0:S0 bC=L6)(h1:S dP=Rm Attr S0):aq gj fR S (a2 (List Attr) B) (fun _=>True) (enc (X:=Int)) fun x y=>y=je x.1 x.2:=by
 rintro⟨a,s⟩ -
 have hf:FunOn S0 (.clo bC [.cptr [enc s] 0]) a fun x=>decide (x.nm=s):=
  uW (f:=fun x=>(x,s)) h0 (fun x _=>BH UV NU (x,s)) (fun _ _=>trivial) (fun x _ y hy=>hy)
 simp[gj,fR,h1, -Bool.forall_bool, -Bool.exists_bool]
 exact⟨⟨_,hf⟩,fun y hy=>hy _ hf⟩
abbrev He:Spc:=aS (a2 (List Attr) B) (fun x=>x.1.length<=1000) (enc (X:=Int)) fun x y=>y=wk x.1 x.2
theorem BU(h1:S bv=zI):aq gi fQ S (a2 (List Attr) B) (fun x=>x.1.length<=1000) (enc (X:=Int)) fun x y=>y=wk x.1 x.2:=by
 rintro⟨a,s⟩ hl
 have hl:a.length<=1000:=hl
 have hin:InR .i64 ((a.length:Int) -1):=by simp only[InR];omega
 have hl':(a.length:Int)<=9223372036854775807:=by omega
 by_cases hs:s=qz
 ·subst hs
  simp[gi,fQ,qz,wk,hin,hl', -Bool.forall_bool, -Bool.exists_bool]
 ·have hs':¬s=⟨#[]⟩:=hs
  simp[gi,fQ,qz,wk,h1,hs', -Bool.forall_bool, -Bool.exists_bool]
def sL(t:List (List B))(i k:Int):B:=if i < 0\/k < 0 then qz else match t[i.toNat]? with
 | some r=>(match r[k.toNat]? with|some s=>s|none=>qz)
 | none=>qz
abbrev OB:Spc:=aS (a3 Corpus Int Int) (fun x=>x.1.toks.length<=100000/\∀r∈x.1.toks,r.length<=100000) (enc (X:=B)) fun x y=>y=sL x.1.toks x.2.1 x.2.2
theorem BW:aq bK bF S (a3 Corpus Int Int) (fun x=>x.1.toks.length<=100000/\∀r∈x.1.toks,r.length<=100000) (enc (X:=B)) fun x y=>y=sL x.1.toks x.2.1 x.2.2:=by
 rintro⟨c,i,k⟩ ⟨hl,hr⟩
 simp only at hl hr
 have hl':(c.toks.length:Int)<=9223372036854775807:=by omega
 by_cases h0:i < 0
 ·simp[bK,bF,h0,sL, -Bool.forall_bool, -Bool.exists_bool]
  rfl
 by_cases h1:(c.toks.length:Int)<=i
 ·have hn:c.toks[i.toNat]? =none:=qua (by omega)
  by_cases h2:k < 0
  ·simp[bK,bF,h0,h1,h2,hl',sL, -Bool.forall_bool, -Bool.exists_bool]
   rfl
  ·simp[bK,bF,h0,h1,h2,hl',hn,sL, -Bool.forall_bool, -Bool.exists_bool]
   rfl
 by_cases h2:k < 0
 ·simp[bK,bF,h0,h1,h2,hl',sL, -Bool.forall_bool, -Bool.exists_bool]
  rfl
 obtain⟨r,hri⟩:=sE (show i.toNat < c.toks.length by omega)
 obtain⟨_,hgr⟩:=qtG.1 hri
 have hrl:=hr r (qtJ hri)
 have hrl':(r.length:Int)<=9223372036854775807:=by omega
 have i0:0<=i:=by omega
 have i1:i < (c.toks.length:Int):=by omega
 have k0:0<=k:=by omega
 by_cases h3:(r.length:Int)<=k
 ·have hn:r[k.toNat]? =none:=qua (by omega)
  simp[bK,bF,h0,h1,h2,h3,hl',hrl',hn,hri,hgr,i0,i1,sL, -Bool.forall_bool, -Bool.exists_bool]
  rfl
 obtain⟨s,hsk⟩:=sE (show k.toNat < r.length by omega)
 obtain⟨_,hgs⟩:=qtG.1 hsk
 have k1:k < (r.length:Int):=by omega
 simp[bK,bF,h0,h1,h2,h3,hl',hrl',hri,hgr,hsk,hgs,i0,i1,k0,k1,sL, -Bool.forall_bool, -Bool.exists_bool]
end Go.Gv

namespace Go.Gv
open Cod (enc dec)
variable {S S0:Nat->Spc}
abbrev SM:Spc:=aS (a1 B) (fun s=>Ec s=true) (enc (X:=Bool)) fun _ y=>y=true
abbrev AO:Spc:=aS (a1 B) (fun s=>yz s=true) (enc (X:=Int)) fun _ y=>y=0
abbrev s_sConB:Spc:=aS (a2 B B) (fun x=>x.2=⟨#[124]⟩/\yz x.1=true) (enc (X:=Bool)) fun x y=>y=qaD x.1
abbrev Ov:Spc:=aS (a1 B) (fun s=>∃r,pX s=some r) (enc (X:=Int)) fun _ y=>y=0
def kb(l:List B)(s:B):Bool:=l.any fun z=>decide (z=s)
abbrev Rj:Spc:=aS (a2 (List B) B) (fun _=>True) (enc (X:=Bool)) fun x y=>y=kb x.1 x.2
abbrev G9:Spc:=aS (a2 (List B) B) (fun _=>True) (enc (X:=Int)) fun x y=>y=fS x.1 fun z=>decide (z=x.2)
theorem GD:aq fZ fJ S (a2 (List B) B) (fun _=>True) (enc (X:=Int)) fun x y=>y=fS x.1 fun z=>decide (z=x.2):=by
 rintro⟨l,s⟩ -
 simp[fZ,fJ, -Bool.forall_bool, -Bool.exists_bool]
 intro _
 refine ai (X:=Unit) [0,1] [] l.length (fun k _=>∀x∈l.take k,decide (x=s)=false) (fun _=>[]) (fun _=>[]) () (by simp) (by simp) (by omega) (by simp) (by simp) (by simp) (by simp) (by simp) ?_ ?_
 ·intro k _ hk hP
  obtain⟨x,hx⟩:=sE hk
  obtain⟨_,hgx⟩:=qtG.1 hx
  simp[hk,hx,hgx, -Bool.forall_bool, -Bool.exists_bool]
  refine⟨fun h=>?_,fun h=>?_⟩
  ·exact(tc hx (by simp[h]) hP).symm
  ·rw[bM hx]
   intro z hz
   rcases qtK.1 hz with hz|hz
   ·have:=hP z hz
    simpa using this
   ·simp at hz;subst hz
    exact fun e=>h e.symm
 ·intro _ hP
  simp[-Bool.forall_bool, -Bool.exists_bool]
  exact(lG (by simpa using hP)).symm
theorem BZ(h1:S bZ=G9):aq bS bQ S (a2 (List B) B) (fun _=>True) (enc (X:=Bool)) fun x y=>y=kb x.1 x.2:=by
 rintro⟨l,s⟩ -
 simp[bS,bQ,h1, -Bool.forall_bool, -Bool.exists_bool]
 exact tb _ l
abbrev Ha:Spc:=aS (a2 Cond (List Attr)) (fun x=>qcy x.2 x.1=true/\x.2.length<=1000) (enc (X:=Bool)) fun _ y=>y=true
theorem BT(h1:S ip=He)(h2:S bv=zI)(h3:S de=SM):aq bJ bE S (a2 Cond (List Attr)) (fun x=>qcy x.2 x.1=true/\x.2.length<=1000) (enc (X:=Bool)) fun _ y=>y=true:=by
 rintro⟨⟨op,name,arg,val,lab,fold,ks⟩,a⟩ ⟨hx,hl⟩
 have hx:qcy a ⟨op,name,arg,val,lab,fold,ks⟩=true:=hx
 have hl:a.length<=1000:=hl
 unfold qcy at hx
 simp only at hx
 split at hx
 ·rename_i e;subst e;simp at hx
  simp[bJ,bE,h1,hl,hx, -Bool.forall_bool, -Bool.exists_bool]
 rename_i e2
 split at hx
 ·rename_i e;subst e;simp at hx
  simp[bJ,bE,h2,hx, -Bool.forall_bool, -Bool.exists_bool]
 rename_i e3
 split at hx
 ·rename_i e;subst e;simp at hx
  simp[bJ,bE,h2,hx.1,hx.2, -Bool.forall_bool, -Bool.exists_bool]
 rename_i e4
 split at hx
 ·rename_i e;subst e;simp at hx
  obtain⟨hn,ha⟩:=hx
  by_cases hae:arg=qz
  ·subst hae
   simp[bJ,bE,h3,hn,qz, -Bool.forall_bool, -Bool.exists_bool]
  ·have ha':=ha.resolve_left hae
   have hae':¬arg=⟨#[]⟩:=hae
   simp[bJ,bE,h3,hn,ha',hae', -Bool.forall_bool, -Bool.exists_bool]
 rename_i e5
 simp[bJ,bE,e2,e3,e4,e5, -Bool.forall_bool, -Bool.exists_bool]
abbrev OA:Spc:=aS (a3 Cond (List Attr) (List B)) (fun x=>iH x.2.1 x.2.2 x.1=true/\x.2.1.length<=1000) (enc (X:=Int)) fun _ y=>y=0
theorem BV(h1:S ij=DV)(h2:S il=Ha)(h3:S pd=Ov)(h4:S bv=zI)(h5:S kS=s_sConB)(h6:S br=AO)(h7:S aP=Rj):
 aq aI aG S (a3 Cond (List Attr) (List B)) (fun x=>iH x.2.1 x.2.2 x.1=true/\x.2.1.length<=1000) (enc (X:=Int)) fun _ y=>y=0:=by
 rintro⟨x,a,lb⟩ ⟨hx,hl⟩
 have hx:iH a lb x=true:=hx
 have hl:a.length<=1000:=hl
 unfold iH at hx
 simp only[qtN]at hx
 obtain⟨⟨hs,hn⟩,hc⟩:=hx
 obtain⟨op,name,arg,val,lab,fold,ks⟩:=x
 unfold qkv at hc
 simp only at hc
 have e:(Cond.mk op name arg val lab fold ks)=⟨op,name,arg,val,lab,fold,ks⟩:=rfl
 split at hc
 ·rename_i e;subst e
  obtain⟨r,hr⟩:=quB.1 hc
  simp[aI,aG,h1,h2,h3,hs,hn,hl,hr, -Bool.forall_bool, -Bool.exists_bool]
 rename_i e2
 split at hc
 ·rename_i e;subst e
  simp only[qtN]at hc
  obtain⟨⟨⟨c1,c2⟩,c3⟩,c4⟩:=hc
  have hn':0<=je a name:=by simpa [qcy]using hn
  have hrg:=(uU (fun x:Attr=>decide (x.nm=name)) a).2
  have hlt:je a name < a.length:=hrg
  obtain⟨b,hb⟩:=sE (show(je a name).toNat < a.length by omega)
  obtain⟨_,hgb⟩:=qtG.1 hb
  rw[hb]at c1
  have c1:b.st=true:=c1
  have c2:¬val=⟨#[]⟩:=of_decide_eq_true c2
  have c3:qaD val=false:=by simpa using c3
  simp[aI,aG,h1,h2,h4,h5,h6,hs,hn,hl,hn',hlt,hb,hgb,c1,c2,c3,c4, -Bool.forall_bool, -Bool.exists_bool]
 rename_i e3
 split at hc
 ·rename_i e;subst e
  have hc:kb lb lab=true:=hc
  simp[aI,aG,h1,h2,h7,hs,hn,hl,hc, -Bool.forall_bool, -Bool.exists_bool]
 rename_i e4
 split at hc
 ·rename_i e;subst e
  simp[aI,aG,h1,h2,h6,hs,hn,hl,hc, -Bool.forall_bool, -Bool.exists_bool]
 rename_i e5
 simp[aI,aG,h1,h2,hs,hn,hl,e2,e3,e4,e5, -Bool.forall_bool, -Bool.exists_bool]
end Go.Gv

namespace Go.Gv
open Go.Proofs
def ni:CC:=oX [oB 2 (.mv (.const ob))] [0] [] (oX [oA 3 0,oB 4 (.cmp .geq (oT 3) (.const (.int .u8 65))),oA 5 4,oH 6 5 (.mv (oT 0)),oH 7 5 (.cmp .leq (oT 6) (.const (.int .u8 90))),oB 8 (.pick (oT 5) (oT 7) (.const ob)),oA 9 8,oI 10 9 (.mv (oT 0)),oI 11 9 (.cmp .geq (oT 10) (.const (.int .u8 97))),oI 12 9 (.mv (oT 11)),oH 13 12 (.mv (oT 0)),
 oH 14 12 (.cmp .leq (oT 13) (.const (.int .u8 122))),oI 15 9 (.pick (oT 12) (oT 14) (.const ob)),oB 16 (.pick (oT 9) (.const (.bool true)) (oT 15)),oA 17 16,oI 18 17 (.mv (oT 0)),oI 19 17 (.eql false false [.int] (oT 18) (.const (.int .u8 95))),oB 20 (.pick (oT 17) (.const (.bool true)) (oT 19)),oA 2 20] [2] [] (.ret))
def mh:List aj:=[.tmp 2]
def nh:CC:=oX [oB 2 (.mv (.const ob))] [0] [] (oX [oA 3 0,oZ 4 bL [oT 3],oA 5 4,oI 6 5 (.mv (oT 0)),oI 7 5 (.cmp .geq (oT 6) (.const (.int .u8 48))),oI 8 5 (.mv (oT 7)),oH 9 8 (.mv (oT 0)),oH 10 8 (.cmp .leq (oT 9) (.const (.int .u8 57))),oI 11 5 (.pick (oT 8) (oT 10) (.const ob)),oB 12 (.pick (oT 5) (.const (.bool true)) (oT 11)),oA 13 12,
 oI 14 13 (.mv (oT 0)),oI 15 13 (.eql false false [.int] (oT 14) (.const (.int .u8 45))),oB 16 (.pick (oT 13) (.const (.bool true)) (oT 15)),oA 2 16] [2] [] (.ret))
def mg:List aj:=[.tmp 2]
def iX:CC:=oX [oB 2 (.mv (.const ob))] [0] [] (.seq (oX [oA 4 0,oB 5 (.slen (oT 4)),oB 6 (.cmp .lss (oT 5) (oN 1)),oA 7 6,oI 8 7 (.mv (oT 0)),oI 9 7 (.slen (oT 8)),oI 10 7 (.cmp .gtr (oT 9) (oN 32)),oB 11 (.pick (oT 7) (.const (.bool true)) (oT 10)),oA 12 11,oI 13 12 (.mv (oT 0)),oI 14 12 (.sidx (oT 13) (oN 0)),oI 15 12 (.call bL [oT 14]),
 oI 16 12 (.not (oT 15)),oB 17 (.pick (oT 12) (.const (.bool true)) (oT 16))] [0,17] [] (.ite (oT 17) (oX [oB 2 (.mv (.const ob))] [2] [] (.ret)) (.skip))) (.keep [0] [] (.seq (oX [oA 18 0,oB 19 (.slen (oT 18)),oB 20 (.mv (oN 0))] [0,19,20] [] (vM 0 20 19 21 1 (oX [oA 22 20,oA 3 22] [0,3,19,20] [] (oX [oA 23 0,oA 24 3,oB 25 (.sidx (oT 23) (oT 24)),oZ 26 dQ [oT 25],
 oB 27 (.not (oT 26))] [0,19,20,27] [] (.ite (oT 27) (oX [oB 2 (.mv (.const ob))] [2] [] (.ret)) (.skip)))) 28)) (.keep [] [] (oX [oB 2 (.mv (.const (.bool true)))] [2] [] (.ret))))))
def iz:List aj:=[.tmp 2]
def iW:CC:=gq Tryz.f175 [] {} _
def iy:List aj:=[.tmp 2]
theorem yr:am Tryz.prog br [] iW iy 24:=fo
def jS:CC:=gq Tryz.f288 [] {} _
def jE:List aj:=[.tmp 4]
theorem Aa:am Tryz.prog kU [] jS jE 17:=fo
def sA:CC:=gq Tryz.f264 [] {} _
def rE:List aj:=[.tmp 4]
theorem HO:am Tryz.prog ud [] sA rE 19:=fo
def bP:CC:=gq Tryz.f287 [] {} _
def bN:List aj:=[.tmp 2, .tmp 3]
theorem D9:am Tryz.prog qc [] bP bN 71:=fo
end Go.Gv

namespace Go.Gv
open Cod (enc dec)
variable {S S0:Nat->Spc}
def Ni(c:Int):Bool:=(decide (65<=c) && decide (c<=90))||(decide (97<=c) && decide (c<=122))||decide (c=95)
def qh0(c:Int):Bool:=Ni c||(decide (48<=c) && decide (c<=57))||decide (c=45)
abbrev Ym:Spc:=aS (a1 U8) (fun _=>True) (enc (X:=Bool)) fun c y=>y=Ni c.val
theorem DG:aq ni mh S (a1 U8) (fun _=>True) (enc (X:=Bool)) fun c y=>y=Ni c.val:=by
 rintro⟨c⟩ -
 by_cases h1:(65:Int)<=c <;> by_cases h2:c<=90 <;> by_cases h3:(97:Int)<=c <;> by_cases h4:c<=122 <;> by_cases h5:c=95 <;>
  simp[ni,mh,Ni,h1,h2,h3,h4,h5, -Bool.forall_bool, -Bool.exists_bool]
abbrev Kp:Spc:=aS (a1 U8) (fun _=>True) (enc (X:=Bool)) fun c y=>y=qh0 c.val
theorem DF(h0:S bL=Ym):aq nh mg S (a1 U8) (fun _=>True) (enc (X:=Bool)) fun c y=>y=qh0 c.val:=by
 rintro⟨c⟩ -
 cases hb:Ni c <;> by_cases h1:(48:Int)<=c <;> by_cases h2:c<=57 <;> by_cases h3:c=45 <;>
  simp[nh,mg,qh0,h0,hb,h1,h2,h3, -Bool.forall_bool, -Bool.exists_bool]
theorem qaA(c:UInt8):Ui c=Ni (c.toNat:Int):=by
 unfold Ui Ni
 rw[qum]
 simp
 omega
theorem qjR(c:UInt8):qpY c=qh0 (c.toNat:Int):=by
 unfold qpY qh0
 rw[qaA]
 cases Ni (c.toNat:Int)
 ·rw[qum]
  simp
  omega
 ·simp
theorem zT(h1:S bL=Ym)(h2:S dQ=Kp):aq iX iz S (a1 B) (fun s=>Ec s=true) (enc (X:=Bool)) fun _ y=>y=true:=by
 rintro s hs
 have hs:Ec s=true:=hs
 unfold Ec at hs
 simp only[qtN,decide_eq_true_eq]at hs
 obtain⟨⟨⟨q1,q2⟩,q3⟩,q4⟩:=hs
 simp[iX,iz,h1,h2, -Bool.forall_bool, -Bool.exists_bool]
 have r1:(1:Int)<=(s.size:Int):=by omega
 have r2:(s.size:Int)<=32:=by omega
 have r3:(s.size:Int)<=9223372036854775807:=by omega
 have hsl:s.data.toList.length=s.size:=qt6
 refine fun _=>⟨fun _ _=>⟨fun _=>⟨by omega,fun c hc=>?_⟩,r2⟩,r1⟩
 have hc':s.data.toList[0]? =some c:=by rw[qt9];exact hc
 have hb:Ni (c.toNat:Int)=true:=by
  rw[<-qaA]
  cases hl:s.data.toList with
  | nil=>rw[hl]at hc';cases hc'
  | cons d l=>
    rw[hl]at hc' q3
    cases hc'
    exact q3
 refine⟨hb,fun _ _=>?_⟩
 refine ai (X:=Unit) [0] [] s.size (fun _ _=>True) (fun _=>[]) (fun _=>[]) () (by simp) (by simp) (by omega) (by simp) (by simp) trivial (by simp) (by simp) ?_ ?_
 ·rintro k -hk -
  obtain⟨d,hd⟩:=sE (show k < s.data.toList.length by omega)
  have hg:qh0 (d.toNat:Int)=true:=by rw[<-qjR];exact qtL.1 q4 d (qtJ hd)
  have hd':s.data[k]? =some d:=by rw[<-qt9];exact hd
  obtain⟨_,hgd⟩:=qtO.1 hd'
  simp[hk,hd',hgd,hg,h2, -Bool.forall_bool, -Bool.exists_bool]
 ·rintro - -
  simp[-Bool.forall_bool, -Bool.exists_bool]
theorem zS(h1:S mP=s_cpVal):aq iW iy S (a1 B) (fun s=>yz s=true) (enc (X:=Int)) fun _ y=>y=0:=by
 rintro s hs
 have hs:yz s=true:=hs
 unfold yz at hs
 simp only[qtN,decide_eq_true_eq]at hs
 obtain⟨q1,q2⟩:=hs
 have ha:ux s=true:=by
  unfold ux
  refine qtL.2 fun c hc=>?_
  have:=qtL.1 q2 c hc
  simp at this
  simp
  omega
 have r1:(s.size:Int)<=120:=by omega
 have r2:(s.size:Int)<=9223372036854775807:=by omega
 have r3:s.size<=1000:=by omega
 have r4:¬ (120:Int) < (s.size:Int):=by omega
 simp[iW,iy,h1,ha,r1,r2,r3,r4, -Bool.forall_bool, -Bool.exists_bool]
 intro b
 refine ar (X:=Nat) [] [] (fun p=>p<=s.size) (fun p=>[(14, .bptr 14 b 0)]) (fun p=>[(14, .iter b s p)]) (fun p=>s.size -p) 0 (qub _) (by simp) (by simp) ?_
 rintro p hp
 by_cases hlt:p < s.size
 ·obtain⟨c,hc,hc128,hdec⟩:=EM ha hlt
  have hcm:=qtL.1 q2 c (qtJ hc)
  simp at hcm
  have n1:¬ (c.toNat:Int)<=31:=by omega
  have n2:¬ (c.toNat:Int)=127:=by omega
  simp[hlt,hdec,n1,n2, -Bool.forall_bool, -Bool.exists_bool]
  exact⟨p+1,by omega, .inl rfl,by omega⟩
 ·have hpe:p=s.size:=by omega
  subst hpe
  simp[-Bool.forall_bool, -Bool.exists_bool]
end Go.Gv

namespace Go.Gv
open Cod (enc dec)
variable {S S0:Nat->Spc}
def qbV(x:Cond×List Attr×List B):List D:=[enc x.1, .cptr [enc x.2.1] 0, .cptr [enc x.2.2] 0]
theorem SD(z z':Cond×List Attr×List B)(h:qbV z=qbV z'):z=z':=by
 obtain⟨a,s,l⟩:=z
 obtain⟨a',s',l'⟩:=z'
 unfold qbV at h
 simp only[qt5,D.cptr.injEq,and_true]at h
 rw[aL h.1,aL h.2.1,aL h.2.2]
noncomputable abbrev aVd:cM (Cond×List Attr×List B):=aX qbV SD
@[simp] theorem qlk(x:Cond)(a:List Attr)(lb:List B):aVd.dec [.agg [.v (.int .i64 x.op), .v (.string x.name), .v (.string x.arg), .v (.string x.val), .v (.string x.lab), .v (.bool x.fold), .list 7 (x.kids.map enc)], .cptr [.list 2 (a.map enc)] 0, .cptr [.list 1 (lb.map enc)] 0]=some (x,a,lb):=by
 have h:=BH qbV SD (x,a,lb)
 have e:qbV (x,a,lb)=[.agg [.v (.int .i64 x.op), .v (.string x.name), .v (.string x.arg), .v (.string x.val), .v (.string x.lab), .v (.bool x.fold), .list 7 (x.kids.map enc)], .cptr [.list 2 (a.map enc)] 0, .cptr [.list 1 (lb.map enc)] 0]:=by simp[qbV]
 rw[<-e]
 exact h
noncomputable abbrev Td:Spc:=aS aVd (fun x=>iH x.2.1 x.2.2 x.1=true/\x.2.1.length<=1000) (enc (X:=Int)) fun _ y=>y=0
theorem vo(h1:S eT=OA):aq cz cq S aVd (fun x=>iH x.2.1 x.2.2 x.1=true/\x.2.1.length<=1000) (enc (X:=Int)) fun _ y=>y=0:=by
 rintro⟨x,a,lb⟩ ⟨hx,hl⟩
 simp only at hx hl
 rw[wR]
 simp[qbV,cz,cq,h1,hx,hl, -Bool.forall_bool, -Bool.exists_bool]
def qkW(n:Nat)(x:Cond×D×Unit):Prop:=∃ (a:List Attr) (lb:List B),x.2.1= .clo au [.cptr [enc a] 0, .cptr [enc lb] 0]/\nA a lb n x.1=true/\a.length<=1000/\kR x.1<=60
noncomputable abbrev Ox(n:Nat):Spc:=aS (aE Cond (aD a0)) (qkW n) (enc (X:=Int)) fun x y=>y=0
noncomputable abbrev Ow:Spc:=aS (aE Cond (aD a0)) (fun x=>∃n,qkW n x) (enc (X:=Int)) fun x y=>y=0
theorem BS(n:Nat)(h1:S au=Td)(h2:S bO=Ox n):aq dL dG S (aE Cond (aD a0)) (qkW (n+1)) (enc (X:=Int)) fun x y=>y=0:=by
 rintro⟨x,d,⟨⟩⟩ ⟨a,lb,hd,hx,hl,hn⟩
 simp only at hd hx hn
 subst hd
 simp only[nA,qtN]at hx
 obtain⟨hx1,hx2⟩:=hx
 simp[dL,dG,h1,hx1,hl, -Bool.forall_bool, -Bool.exists_bool]
 intro hkl
 refine ai (X:=Unit) [1,16] [] x.kids.length (fun k _=>True) (fun _=>[]) (fun _=>[]) () (by simp) (by simp) (by omega) (by simp) (by simp) (by simp) (by simp) (by simp) ?_ ?_
 ·rintro k -hk -
  obtain⟨y,hy⟩:=sE hk
  obtain⟨_,hgy⟩:=qtG.1 hy
  have hm:=qtJ hy
  have hny:=Ee hm
  have hnx:=CX x
  have hp:qkW n (y, .clo au [.cptr [.list 2 (a.map enc)] 0, .cptr [.list 1 (lb.map enc)] 0],()):=⟨a,lb,rfl,qtL.1 hx2 y hm,hl,by show kR y<=60;omega⟩
  simp[h2,hk,hy,hgy,hp, -Bool.forall_bool, -Bool.exists_bool]
 ·rintro - -
  simp[-Bool.forall_bool, -Bool.exists_bool]
abbrev Sv(x:Cond×List Attr×List B):Prop:=qbr x.2.1 x.2.2 x.1=true/\x.2.1.length<=1000
abbrev Yl:Spc:=aS (a3 Cond (List Attr) (List B)) Sv (enc (X:=Int)) fun _ y=>y=0
theorem xQ(h1:S cH=Hb)(h2:S bO=Ow):aq cU cQ S (a3 Cond (List Attr) (List B)) Sv (enc (X:=Int)) fun _ y=>y=0:=by
 rintro⟨x,a,lb⟩ ⟨hx,hl⟩
 simp only at hx hl
 unfold qbr at hx
 simp at hx
 obtain⟨⟨hn,hd⟩,ha⟩:=hx
 have hp:∃n,qim n (x,0,1):=⟨jd x,qtP _,qvv _,by show(0:Int) +kR x<=60;omega,by show(0:Int)<=1;omega,by show(1:Int) +jd x<=1000;omega,by show jd x<=60;omega⟩
 have hw:∃n,qkW n (x, .clo au [.cptr [.list 2 (a.map enc)] 0, .cptr [.list 1 (lb.map enc)] 0],()):=⟨20,a,lb,rfl,ha,hl,hn⟩
 have q1:¬ (60:Int) < (kR x:Int):=by omega
 have q2:¬ (20:Int) < 1+ (jd x:Int) -1:=by omega
 simp[cU,cQ,h1,h2,hp,hw,q1,q2, -Bool.forall_bool, -Bool.exists_bool]
end Go.Gv
