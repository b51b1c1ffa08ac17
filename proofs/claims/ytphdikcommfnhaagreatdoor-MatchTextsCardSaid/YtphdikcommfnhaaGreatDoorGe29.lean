/- A part of the framework and of the walks: V3 V55 W151 W152 W153 C59 W159. -/
import Derived.Test.YtphdikcommfnhaaGreatDoorGe26
import Derived.Test.YtphdikcommfnhaaGreatDoorGe20
import Derived.Test.YtphdikcommfnhaaGreatDoorGe28
set_option linter.unusedSimpArgs false
set_option linter.unusedVariables false
set_option linter.unusedSectionVars false
set_option maxRecDepth 100000
set_option maxHeartbeats 0

namespace Go.Gv
instance:Inhabited Cond:=⟨⟨0,⟨#[]⟩,⟨#[]⟩,⟨#[]⟩,⟨#[]⟩,false, []⟩⟩
instance:Inhabited Pat:=⟨⟨0,default,⟨#[]⟩,⟨#[]⟩,0,0, []⟩⟩
def Cond0:Cond:=⟨0,⟨#[]⟩,⟨#[]⟩,⟨#[]⟩,⟨#[]⟩,false, []⟩
mutual
def eD:Pat->Nat| .mk _ _ _ _ _ _ ks=>G6 ks+1
def G6:List Pat->Nat|[]=>0|k::ks=>max (eD k) (G6 ks)
end
mutual
def mC:Cond->Nat| .mk _ _ _ _ _ _ ks=>kF ks+1
def kF:List Cond->Nat|[]=>0|k::ks=>max (mC k) (kF ks)
end
mutual
def jg:Pat->Nat| .mk _ _ _ _ _ _ ks=>cD ks+1
def cD:List Pat->Nat|[]=>0|k::ks=>jg k+cD ks
end
theorem Im(p:Pat):eD p=G6 p.kids+1:=by cases p;rw[eD]
theorem PB(p:Cond):mC p=kF p.kids+1:=by cases p;rw[mC]
theorem nA(p:Pat):jg p=cD p.kids+1:=by cases p;rw[jg]
theorem M0{k:Pat} :∀ {ks:List Pat},k∈ks->eD k<=G6 ks
 | a::ks,h=>by
   rw[G6]
   rcases qxD.1 h with rfl|h
   ·omega
   ·have:=M0 h;omega
theorem Nz{k:Cond} :∀ {ks:List Cond},k∈ks->mC k<=kF ks
 | a::ks,h=>by
   rw[kF]
   rcases qxD.1 h with rfl|h
   ·omega
   ·have:=Nz h;omega
theorem jv{p k:Pat}(h:k∈p.kids):eD k < eD p:=by have:=M0 h;rw[Im p];omega
theorem fL{C:Pat->Prop}(h:∀p,(∀k∈p.kids,C k)->C p)(p:Pat):C p:=by
 generalize hn:eD p=n
 induction n using Nat.strongRecOn generalizing p with
 | _ n ih=>exact h p fun k hk=>ih (eD k) (by rw[<-hn];exact jv hk) k rfl
mutual
def eW(f:Pat->Bool):Pat->Bool| .mk op c l r mn mx ks=>f ⟨op,c,l,r,mn,mx,ks⟩ && EP f ks
def EP(f:Pat->Bool):List Pat->Bool|[]=>true|k::ks=>eW f k && EP f ks
end
theorem KE(f:Pat->Bool):∀ks:List Pat,EP f ks=ks.all (eW f)
 | []=>by rw[EP];rfl
 | k::ks=>by rw[EP,KE f ks,qzo]
theorem eI(f:Pat->Bool)(p:Pat):eW f p=(f p && p.kids.all (eW f)):=by cases p;rw[eW,KE]
mutual
def dm:Pat->Int->Bool| .mk _ _ _ _ _ _ ks,d=>decide (d<=100) && wA ks (d+1)
def wA:List Pat->Int->Bool|[],_=>true|k::ks,d=>dm k d && wA ks d
end
theorem D1(d:Int):∀ks:List Pat,wA ks d=ks.all (dm · d)
 | []=>by rw[wA];rfl
 | k::ks=>by rw[wA,D1 d ks,qzo]
theorem mI(p:Pat)(d:Int):dm p d=(decide (d<=100) && p.kids.all (dm · (d+1))):=by cases p;rw[dm,D1]
theorem Oi(p:Pat):∀d d':Int,d'<=d->dm p d=true->dm p d'=true:=by
 induction p using fL with|_ p ih=>?_
 intro d d' h
 rw[mI,mI]
 simp only[qxH,decide_eq_true_eq,qxF]
 exact fun⟨h1,h2⟩=>⟨by omega,fun k hk=>ih k hk (d+1) (d'+1) (by omega) (h2 k hk)⟩
def uv(p:Pat):Prop:=(p.op=1/\p.reg=⟨#[]⟩/\p.mn=0/\p.mx=0/\p.kids=[])\/
 ((p.op=2\/p.op=3)/\p.cond=Cond0/\p.lab=⟨#[]⟩/\p.mn=0/\p.mx=0/\p.kids=[])\/
 ((p.op=4\/p.op=5)/\p.cond=Cond0/\p.lab=⟨#[]⟩/\p.reg=⟨#[]⟩/\p.mn=0/\p.mx=0/\2<=p.kids.length)\/
 (p.op=6/\p.cond=Cond0/\p.lab=⟨#[]⟩/\p.reg=⟨#[]⟩/\p.kids.length=1)
noncomputable def yQ(p:Pat):Bool:= @decide (uv p) (Classical.propDecidable _)
theorem wM(p:Pat):yQ p=true↔uv p:= @decide_eq_true_iff (uv p) (Classical.propDecidable _)
def uB(p:Pat):Bool:=decide (p.op=6->0<=p.mn/\p.mn<=16/\(p.mx= -1\/p.mn<=p.mx/\p.mx<=16))
def uO(v:B->Bool)(p:Pat):Bool:=decide (((p.op=2\/p.op=3)->v p.reg=true)/\(p.lab≠ ⟨#[]⟩->v p.lab=true))
noncomputable def kP(v:B->Bool)(p:Pat):Bool:=dm p 1 && eW yQ p && eW (uO v) p && eW uB p
theorem qL{v:B->Bool}{p k:Pat}(h:kP v p=true)(hk:k∈p.kids):kP v k=true:=by
 unfold kP at*
 rw[eI,eI,eI uB,mI]at h
 simp only[qxH,qxF]at h
 obtain⟨⟨⟨⟨_,h1⟩,_,h2⟩,_,h3⟩,_,h4⟩:=h
 rw[h2 k hk,h3 k hk,h4 k hk,Oi k _ 1 (by omega) (h1 k hk)]
 rfl
theorem sJ{v:B->Bool}{p:Pat}(h:kP v p=true):yQ p=true/\uO v p=true/\uB p=true:=by
 unfold kP at*
 rw[eI,eI,eI uB]at h
 simp only[qxH]at h
 exact⟨h.1.1.2.1,h.1.2.1,h.2.1⟩
def GY(p:Pat)(n:Int):Int:=if p.kids=[]then 1 else if p.op=6 then(if p.mx= -1 then min (n* (p.mn+1)) 1000 else if p.mx=0 then n else min (n*p.mx) 1000)else n
mutual
def kB:Pat->Int| .mk op c l r mn mx ks=>GY ⟨op,c,l,r,mn,mx,ks⟩ (iE ks 0)
def iE:List Pat->Int->Int|[],n=>n|k::ks,n=>iE ks (min (n+kB k) 1000)
end
theorem wz(p:Pat):kB p=GY p (iE p.kids 0):=by cases p;rw[kB]
theorem Ua(a b:List Pat)(n:Int):iE (a++b) n=iE b (iE a n):=by
 induction a generalizing n with
 | nil=>rfl
 | cons k a ih=>simp only[qyf,iE];exact ih _
def Iy(seq:Bool)(a b:Int×Int):Int×Int:=
 if seq then(min (a.1+b.1) 10000,if a.2= -1\/b.2= -1 then -1 else min (a.2+b.2) 10000)else(min a.1 b.1,if a.2= -1\/b.2= -1 then -1 else max a.2 b.2)
mutual
def gx:Pat->Int×Int
 | .mk op _ _ _ mn mx ks=>if op=1 then(1,1)else if op=2\/op=3 then(0,0)else match ks with
   | []=>(0,0)
   | k::ks=>if op=6 then(min ((gx k).1*mn) 10000,if mx=0\/(gx k).2=0 then 0 else if mx= -1\/(gx k).2= -1 then -1 else min ((gx k).2*mx) 10000)else jh (decide (op=4)) ks (gx k)
def jh(seq:Bool):List Pat->Int×Int->Int×Int|[],w=>w|k::ks,w=>jh seq ks (Iy seq w (gx k))
end
theorem XU(s:Bool)(a b:List Pat)(n:Int×Int):jh s (a++b) n=jh s b (jh s a n):=by
 induction a generalizing n with
 | nil=>rfl
 | cons k a ih=>simp only[qyf,jh];exact ih _
theorem Z7{p:Pat}(h:p.op=1):gx p=(1,1):=by cases p;simp only at h;unfold gx;rw[if_pos h]
theorem Z6{p:Pat}(h:p.op=2\/p.op=3):gx p=(0,0):=by cases p;simp only at h;unfold gx;rw[if_neg (by omega),if_pos h]
theorem Z4{p k:Pat}(h:p.op=6){ks:List Pat}(hk:p.kids=k::ks):gx p=(min ((gx k).1*p.mn) 10000,if p.mx=0\/(gx k).2=0 then 0 else if p.mx= -1\/(gx k).2= -1 then -1 else min ((gx k).2*p.mx) 10000):=by
 cases p;simp only at h hk;subst hk;rw[gx,if_neg (by omega),if_neg (by omega)];simp only[h,if_true]
theorem Z5{p k:Pat}(h:p.op=4\/p.op=5){ks:List Pat}(hk:p.kids=k::ks):gx p=jh (decide (p.op=4)) ks (gx k):=by
 cases p;simp only at h hk;subst hk;rw[gx,if_neg (by omega),if_neg (by omega)];simp only;rw[if_neg (by omega)]
mutual
def aM:Pat->List Pat| .mk op c l r mn mx ks=>if op=1 then[⟨op,c,l,r,mn,mx,ks⟩]else Aw ks
def Aw:List Pat->List Pat|[]=>[]|k::ks=>aM k++Aw ks
end
theorem Hb:∀ks:List Pat,Aw ks=ks.flatMap aM
 | []=>by rw[Aw];rfl
 | k::ks=>by rw[Aw,Hb ks,qyd]
theorem cW(p:Pat):aM p=if p.op=1 then[p]else p.kids.flatMap aM:=by cases p;rw[aM,Hb]
theorem Kj(p:Pat):(aM p).length<=jg p:=by
 induction p using fL with|_ p ih=>?_
 rw[cW,nA]
 split
 ·simp
 ·have:∀ks:List Pat,(∀k∈ks,(aM k).length<=jg k)->(ks.flatMap aM).length<=cD ks:=by
   intro ks
   induction ks with
   | nil=>intro _;simp[cD]
   | cons k ks ih=>
     intro h
     rw[qyd,qxX,cD]
     have h1:=h k (by simp)
     have h2:=ih fun x hx=>h x (by simp[hx])
     omega
  have:=this p.kids ih
  omega
theorem F4{p:Pat}(h:yQ p=true):(p.op=1/\p.kids=[])\/((p.op=2\/p.op=3)/\p.kids=[])\/((p.op=4\/p.op=5)/\∃k ks,p.kids=k::ks)\/(p.op=6/\∃k,p.kids=[k]):=by
 rw[wM]at h
 unfold uv at h
 rcases h with h|h|h|h
 ·exact .inl ⟨h.1,h.2.2.2.2⟩
 ·exact .inr (.inl ⟨h.1,h.2.2.2.2.2⟩)
 ·refine .inr (.inr (.inl ⟨h.1,?_⟩))
  rcases hk:p.kids with _|⟨k,ks⟩
  ·rw[hk]at h;simp at h
  ·exact⟨k,ks,rfl⟩
 ·refine .inr (.inr (.inr ⟨h.1,?_⟩))
  rcases hk:p.kids with _|⟨k,_|⟨a,ks⟩⟩
  ·rw[hk]at h;simp at h
  ·exact⟨k,rfl⟩
  ·rw[hk]at h;simp at h
theorem xh:∀ (ks:List Pat) (n:Int),0<=n->n<=1000->(∀k∈ks,0<=kB k)->0<=iE ks n/\iE ks n<=1000
 | [],n,h0,h1,_=>by rw[iE];exact⟨h0,h1⟩
 | k::ks,n,h0,h1,h=>by
   rw[iE]
   have:=h k (by simp)
   exact xh ks _ (by omega) (by omega) fun x hx=>h x (by simp[hx])
theorem Yl{v:B->Bool}(p:Pat):kP v p=true->0<=kB p/\kB p<=1000:=by
 induction p using fL with|_ p ih=>?_
 intro h
 have hk:=xh p.kids 0 (by omega) (by omega) fun k hk=>(ih k hk (qL h hk)).1
 have hn:=(sJ h).2.2
 unfold uB at hn
 rw[decide_eq_true_eq]at hn
 rw[wz]
 generalize iE p.kids 0=n at hk
 unfold GY
 split
 ·omega
 ·split
  ·rename_i h6
   have hn:=hn h6
   split
   ·have:0<=n* (p.mn+1):=qzj hk.1 (by omega)
    omega
   ·split
    ·exact hk
    ·have:0<=n*p.mx:=qzj hk.1 (by omega)
     omega
  ·exact hk
def rb(w:Int×Int):Prop:=0<=w.1/\w.1<=10000/\ -1<=w.2/\w.2<=10000
theorem Vz{s:Bool}{a b:Int×Int}(ha:rb a)(hb:rb b):rb (Iy s a b):=by
 unfold rb Iy at*
 split <;> simp only <;> split <;> omega
theorem P4(s:Bool):∀ (ks:List Pat) (w:Int×Int),rb w->(∀k∈ks,rb (gx k))->rb (jh s ks w)
 | [],w,h,_=>by rw[jh];exact h
 | k::ks,w,h,hk=>by
   rw[jh]
   exact P4 s ks _ (Vz h (hk k (by simp))) fun x hx=>hk x (by simp[hx])
theorem NJ{v:B->Bool}(p:Pat):kP v p=true->rb (gx p):=by
 induction p using fL with|_ p ih=>?_
 intro h
 obtain⟨h1,_,hn⟩:=sJ h
 unfold uB at hn
 rw[decide_eq_true_eq]at hn
 rcases F4 h1 with⟨ho,_⟩|⟨ho,_⟩|⟨ho,k,ks,hk⟩|⟨ho,k,hk⟩
 ·rw[Z7 ho];simp[rb]
 ·rw[Z6 ho];simp[rb]
 ·rw[Z5 ho hk]
  exact P4 _ _ _ (ih k (by rw[hk];simp) (qL h (by rw[hk];simp))) fun x hx=>ih x (by rw[hk];simp[hx]) (qL h (by rw[hk];simp[hx]))
 ·rw[Z4 ho hk]
  have hw:=ih k (by rw[hk];simp) (qL h (by rw[hk];simp))
  have hn:=hn ho
  generalize gx k=w at hw
  unfold rb at*
  have h1:0<=w.1*p.mn:=qzj hw.1 hn.1
  refine⟨by simp only;omega,by simp only;omega,?_⟩
  simp only
  split
  ·omega
  ·split
   ·omega
   ·have h2:0<=w.2*p.mx:=qzj (by omega) (by omega)
    omega
end Go.Gv

namespace Go.Gv
open Cod (enc dec)
mutual
def pF:Cond->Nat| .mk _ _ _ _ _ _ ks=>gw ks+1
def gw:List Cond->Nat|[]=>0|k::ks=>pF k+gw ks
end
theorem In(x:Cond):pF x=gw x.kids+1:=by cases x;rw[pF]
theorem Bj:∀ (a b:List Cond),gw (a++b)=gw a+gw b
 | [],b=>by rw[qyq,gw];omega
 | k::a,b=>by rw[qyf,gw,gw,Bj a b];omega
theorem NA:∀ (a b:List Cond),kF (a++b)=max (kF a) (kF b)
 | [],b=>by rw[qyq,kF];omega
 | k::a,b=>by rw[qyf,kF,kF,NA a b];omega
theorem M3:∀ {ks:List Cond} {k:Cond},k∈ks->pF k<=gw ks
 | x::ks,k,h=>by
   rw[gw]
   rcases qxD.1 h with rfl|h
   ·omega
   ·have:=M3 h;omega
theorem YQ{ks:List Cond}{k:Nat}{x:Cond}(h:ks[k]? =some x):gw (ks.take (k+1))=gw (ks.take k) +pF x/\kF (ks.take (k+1))=max (kF (ks.take k)) (mC x)/\gw (ks.take k) +pF x<=gw ks:=by
 have e:=bc h
 refine⟨by rw[e,Bj,gw,gw];omega,by rw[e,NA,kF,kF];omega,?_⟩
 conv=>rhs;rw[<-qyc (k+1) ks,Bj]
 rw[e,Bj,gw,gw]
 omega
def se:B:=⟨#[]⟩
def kG(a:List Attr)(n:B):Int:=fW a fun x=>decide (x.nm=n)
def xZ(a:List Attr)(n:B):Int:=if n=se then min 0 ((a.length:Int) -1)else kG a n
def Xt(c:UInt8):Bool:=(decide (65<=c.toNat) && decide (c.toNat<=90))||(decide (97<=c.toNat) && decide (c.toNat<=122))||decide (c.toNat=95)
def qtK(c:UInt8):Bool:=Xt c||(decide (48<=c.toNat) && decide (c.toNat<=57))||decide (c.toNat=45)
def F2(s:B):Bool:=decide (1<=s.size/\s.size<=32) && (match s.data.toList with|c::_=>Xt c|[]=>false) && s.data.toList.all qtK
def Ar(s:B):Bool:=decide (s.size<=120) && s.data.toList.all fun c=>decide (32<=c.toNat/\c.toNat < 127)
def qi5(x:Cond):Bool:=
 if x.op=1 then decide (x.name=se/\x.arg=se/\x.val=se/\x.lab=se/\x.fold=false) && x.kids.isEmpty else
 if x.op=2 then decide (x.arg=se/\x.lab=se) && x.kids.isEmpty else
 if x.op=3 then decide (x.arg=se/\x.lab=se/\x.fold=false) && x.kids.isEmpty else
 if x.op=4 then decide (x.val=se/\x.fold=false) && x.kids.isEmpty else
 if x.op=5 then decide (x.lab=se/\x.fold=false/\(x.arg=se->x.val=se)) && x.kids.isEmpty else
 if x.op=6 then decide (x.name=se/\x.arg=se/\x.val=se/\x.lab=se/\x.fold=false) && decide (x.kids.length=1)else
 if x.op=7\/x.op=8 then decide (x.name=se/\x.arg=se/\x.val=se/\x.lab=se/\x.fold=false) && decide (2<=x.kids.length/\x.kids.length<=60)else false
def qhU(a:List Attr)(x:Cond):Bool:=
 if x.op=2 then decide (0<=xZ a x.name)else
 if x.op=3 then decide (0<=kG a x.name)else
 if x.op=4 then decide (0<=kG a x.name/\0<=kG a x.arg)else
 if x.op=5 then F2 x.name && (decide (x.arg=se)||F2 x.arg)else true
def qg7(s:B):Bool:=s.data.toList.any fun c=>decide (c.toNat=124)
def qrk(a:List Attr)(lb:List B)(x:Cond):Bool:=
 if x.op=2 then(nz x.val).isSome else
 if x.op=3 then(match a[(kG a x.name).toNat]? with|some b=>b.st|none=>false) && decide (x.val≠se) && !qg7 x.val && Ar x.val else
 if x.op=4 then lb.any fun l=>decide (l=x.lab)else
 if x.op=5 then Ar x.val else true
def pb(a:List Attr)(lb:List B)(x:Cond):Bool:=qi5 x && qhU a x && qrk a lb x
def sk(a:List Attr)(lb:List B):Nat->Cond->Bool
 | 0=>fun _=>false
 | n+1=>fun x=>pb a lb x && x.kids.all (sk a lb n)
def qhN(a:List Attr)(lb:List B)(x:Cond):Bool:=decide (pF x<=60/\mC x<=20) && sk a lb 20 x
end Go.Gv

namespace Go.Gv
open Cod (enc dec)
variable {S S0:Nat->Spc}
theorem yG{X:Type}{l:List X}{k:Nat}(h:k < l.length):∃x,l[k]? =some x:=⟨_,qxA h⟩
def qoD(n:Nat)(x:Cond×Int×Int):Prop:=mC x.1<=n/\0<=x.2.1/\x.2.1+pF x.1<=60/\0<=x.2.2/\x.2.2+mC x.1<=1000/\mC x.1<=60
abbrev Q2(n:Nat):Spc:=aI (a3 Cond Int Int) (qoD n) (qW (Y:=Int) (Z:=Int)) fun x y=>y=(x.2.1+pF x.1,x.2.2+mC x.1 -1)
abbrev Q3:Spc:=aI (a3 Cond Int Int) (fun x=>∃n,qoD n x) (qW (Y:=Int) (Z:=Int)) fun x y=>y=(x.2.1+pF x.1,x.2.2+mC x.1 -1)
theorem zF(n:Nat)(h1:S eA=Q2 n):aq jR jr S (a3 Cond Int Int) (qoD (n+1)) (qW (Y:=Int) (Z:=Int)) fun x y=>y=(x.2.1+pF x.1,x.2.2+mC x.1 -1):=by
 rintro⟨x,nodes,deep⟩ ⟨hn,h0,h2,h3,h4,h5⟩
 simp only at hn h0 h2 h3 h4 h5
 have hd1:=PB x
 have hn1:=In x
 simp[jR,jr]
 refine⟨by simp only[InR];omega,fun hkl=>?_⟩
 refine ai (X:=Int×Int) [2,17] [] x.kids.length (fun k z=>z.1=nodes+1+ (gw (x.kids.take k):Int)/\z.2=deep+ (kF (x.kids.take k):Int)) (fun z=>[(1,enc z.1),(8,enc z.2)]) (fun _=>[]) (nodes+1,deep) (by simp) (by simp) (by omega) (by simp) (by simp) (by simp[gw,kF]) (by simp) (by simp) ?_ ?_
 ·rintro k ⟨m,d⟩ hk ⟨e1,e2⟩
  simp only at e1 e2
  obtain⟨y,hy⟩:=yG hk
  obtain⟨_,hgy⟩:=qxz.1 hy
  have hm:=YQ hy
  have hd:=Nz (qxC hy)
  have hp:qoD n (y,m,deep+1):=⟨by show mC y<=n;omega,by show 0<=m;omega,by show m+pF y<=60;omega,by show 0<=deep+1;omega,by show deep+1+mC y<=1000;omega,by show mC y<=60;omega⟩
  have hm60:¬60 < m:=by have:=In y;omega
  simp[h1,hk,hy,hgy,hp,hm60]
  exact⟨by simp only[InR];omega,by omega,by rw[hm.2.1,e2];omega⟩
 ·rintro⟨m,d⟩ ⟨e1,e2⟩
  simp only at e1 e2
  rw[qx1]at e1 e2
  simp
  exact⟨by omega,by omega⟩
abbrev MQ:Spc:=aI (a1 Cond) (fun x=>qi5 x=true) (enc (X:=Bool)) fun _ y=>y=true
set_option maxHeartbeats 1000000 in
theorem Ce:aq bb ba S (a1 Cond) (fun x=>qi5 x=true) (enc (X:=Bool)) fun _ y=>y=true:=by
 rintro⟨op,name,arg,val,lab,fold,ks⟩ hx
 have hx:qi5 ⟨op,name,arg,val,lab,fold,ks⟩=true:=hx
 unfold qi5 at hx
 simp only at hx
 split at hx
 ·rename_i e;subst e;simp at hx
  obtain⟨⟨rfl,rfl,rfl,rfl,rfl⟩,rfl⟩:=hx
  simp[bb,ba,se, -Bool.forall_bool, -Bool.exists_bool]
 split at hx
 ·rename_i e;subst e;simp at hx
  obtain⟨⟨rfl,rfl⟩,rfl⟩:=hx
  simp[bb,ba,se, -Bool.forall_bool, -Bool.exists_bool]
 split at hx
 ·rename_i e;subst e;simp at hx
  obtain⟨⟨rfl,rfl,rfl⟩,rfl⟩:=hx
  simp[bb,ba,se, -Bool.forall_bool, -Bool.exists_bool]
 split at hx
 ·rename_i e;subst e;simp at hx
  obtain⟨⟨rfl,rfl⟩,rfl⟩:=hx
  simp[bb,ba,se, -Bool.forall_bool, -Bool.exists_bool]
 split at hx
 ·rename_i e;subst e;simp at hx
  obtain⟨⟨rfl,rfl,hav⟩,rfl⟩:=hx
  by_cases ha:arg=se
  ·have hv:=hav.resolve_left fun h=>h ha
   subst ha;subst hv
   simp[bb,ba,se, -Bool.forall_bool, -Bool.exists_bool]
  ·have ha':¬arg=⟨#[]⟩:=ha
   simp[bb,ba,se,ha', -Bool.forall_bool, -Bool.exists_bool]
 split at hx
 ·rename_i e;subst e;simp at hx
  obtain⟨⟨rfl,rfl,rfl,rfl,rfl⟩,hk⟩:=hx
  simp[bb,ba,se,hk, -Bool.forall_bool, -Bool.exists_bool]
 split at hx
 ·rename_i e
  simp at hx
  obtain⟨⟨rfl,rfl,rfl,rfl,rfl⟩,hk1,hk2⟩:=hx
  have q1:(2:Int)<=(ks.length:Int):=by omega
  have q2:(ks.length:Int)<=60:=by omega
  have q3:(ks.length:Int)<=9223372036854775807:=by omega
  rcases e with rfl|rfl <;> simp[bb,ba,se,q1,q2,q3, -Bool.forall_bool, -Bool.exists_bool]
 ·cases hx
end Go.Gv

namespace Go.Gv
open Cod (enc dec)
variable {S S0:Nat->Spc}
theorem Ay{X:Type}(p:X->Bool):∀l:List X, -1<=fW l p/\fW l p < l.length
 | []=>⟨qy8 _,by simp[fW]⟩
 | x::l=>by
   have:=Ay p l
   rw[fW,qyr]
   split
   ·omega
   ·split <;> omega
open Classical in
noncomputable def aX{Z:Type}(v:Z->List D)(hi:∀z z',v z=v z'->z=z'):df Z:=⟨fun ds=>if h:∃z,ds=v z then some h.choose else none,v,fun ds z h=>by
 split at h
 ·rename_i h'
  have e:h'.choose=z:=qxO h
  rw[<-e,<-h'.choose_spec]
  exact⟨rfl,fun k d d' h1 h2=>by rw[h1]at h2;cases h2;exact .same _⟩
 ·cases h⟩
open Classical in
theorem Dj{Z:Type}(v:Z->List D)(hi:∀z z',v z=v z'->z=z')(z:Z):(aX v hi).dec (v z)=some z:=by
 have h:∃z',v z=v z':=⟨z,rfl⟩
 show(if h:∃z',v z=v z' then some h.choose else none)=some z
 rw[dif_pos h]
 exact congrArg some (hi _ _ h.choose_spec).symm
theorem Bt{Z:Type}(v:Z->List D)(hi:∀z z',v z=v z'->z=z')(z:Z):(aX v hi).view z=v z:=rfl
def Ya(x:Attr×B):List D:=[enc x.1, .cptr [enc x.2] 0]
theorem Qo(z z':Attr×B)(h:Ya z=Ya z'):z=z':=by
 obtain⟨a,s⟩:=z
 obtain⟨a',s'⟩:=z'
 unfold Ya at h
 simp only[qx0,D.cptr.injEq,and_true]at h
 rw[aK h.1,aK h.2]
noncomputable abbrev qox:df (Attr×B):=aX Ya Qo
noncomputable abbrev Ou:Spc:=aI qox (fun _=>True) (enc (X:=Bool)) fun x y=>y=decide (x.1.nm=x.2)
theorem ws:aq fK fG S qox (fun _=>True) (enc (X:=Bool)) fun x y=>y=decide (x.1.nm=x.2):=by
 rintro⟨a,s⟩ -
 rw[Bt]
 simp[Ya,fK,fG, -Bool.forall_bool, -Bool.exists_bool]
abbrev Bg:Spc:=aI (a2 (List Attr) B) (fun _=>True) (enc (X:=Int)) fun x y=>y=kG x.1 x.2
theorem zg(h0:S0 bN=Ou)(h1:S eo=Ul Attr S0):aq gZ gJ S (a2 (List Attr) B) (fun _=>True) (enc (X:=Int)) fun x y=>y=kG x.1 x.2:=by
 rintro⟨a,s⟩ -
 have hf:FunOn S0 (.clo bN [.cptr [enc s] 0]) a fun x=>decide (x.nm=s):=
  wP (f:=fun x=>(x,s)) h0 (fun x _=>Dj Ya Qo (x,s)) (fun _ _=>trivial) (fun x _ y hy=>hy)
 simp[gZ,gJ,h1, -Bool.forall_bool, -Bool.exists_bool]
 exact⟨⟨_,hf⟩,fun y hy=>hy _ hf⟩
abbrev Js:Spc:=aI (a2 (List Attr) B) (fun x=>x.1.length<=1000) (enc (X:=Int)) fun x y=>y=xZ x.1 x.2
theorem Dx(h1:S bG=Bg):aq gY gI S (a2 (List Attr) B) (fun x=>x.1.length<=1000) (enc (X:=Int)) fun x y=>y=xZ x.1 x.2:=by
 rintro⟨a,s⟩ hl
 have hl:a.length<=1000:=hl
 have hin:InR .i64 ((a.length:Int) -1):=by simp only[InR];omega
 have hl':(a.length:Int)<=9223372036854775807:=by omega
 by_cases hs:s=se
 ·subst hs
  simp[gY,gI,se,xZ,hin,hl', -Bool.forall_bool, -Bool.exists_bool]
 ·have hs':¬s=⟨#[]⟩:=hs
  simp[gY,gI,se,xZ,h1,hs', -Bool.forall_bool, -Bool.exists_bool]
def uz(t:List (List B))(i k:Int):B:=if i < 0\/k < 0 then se else match t[i.toNat]? with
 | some r=>(match r[k.toNat]? with|some s=>s|none=>se)
 | none=>se
abbrev Q7:Spc:=aI (a3 Corpus Int Int) (fun x=>x.1.toks.length<=100000/\∀r∈x.1.toks,r.length<=100000) (enc (X:=B)) fun x y=>y=uz x.1.toks x.2.1 x.2.2
theorem Dz:aq bY bQ S (a3 Corpus Int Int) (fun x=>x.1.toks.length<=100000/\∀r∈x.1.toks,r.length<=100000) (enc (X:=B)) fun x y=>y=uz x.1.toks x.2.1 x.2.2:=by
 rintro⟨c,i,k⟩ ⟨hl,hr⟩
 simp only at hl hr
 have hl':(c.toks.length:Int)<=9223372036854775807:=by omega
 by_cases h0:i < 0
 ·simp[bY,bQ,h0,uz, -Bool.forall_bool, -Bool.exists_bool]
  rfl
 by_cases h1:(c.toks.length:Int)<=i
 ·have hn:c.toks[i.toNat]? =none:=qx7 (by omega)
  by_cases h2:k < 0
  ·simp[bY,bQ,h0,h1,h2,hl',uz, -Bool.forall_bool, -Bool.exists_bool]
   rfl
  ·simp[bY,bQ,h0,h1,h2,hl',hn,uz, -Bool.forall_bool, -Bool.exists_bool]
   rfl
 by_cases h2:k < 0
 ·simp[bY,bQ,h0,h1,h2,hl',uz, -Bool.forall_bool, -Bool.exists_bool]
  rfl
 obtain⟨r,hri⟩:=yG (show i.toNat < c.toks.length by omega)
 obtain⟨_,hgr⟩:=qxz.1 hri
 have hrl:=hr r (qxC hri)
 have hrl':(r.length:Int)<=9223372036854775807:=by omega
 have i0:0<=i:=by omega
 have i1:i < (c.toks.length:Int):=by omega
 have k0:0<=k:=by omega
 by_cases h3:(r.length:Int)<=k
 ·have hn:r[k.toNat]? =none:=qx7 (by omega)
  simp[bY,bQ,h0,h1,h2,h3,hl',hrl',hn,hri,hgr,i0,i1,uz, -Bool.forall_bool, -Bool.exists_bool]
  rfl
 obtain⟨s,hsk⟩:=yG (show k.toNat < r.length by omega)
 obtain⟨_,hgs⟩:=qxz.1 hsk
 have k1:k < (r.length:Int):=by omega
 simp[bY,bQ,h0,h1,h2,h3,hl',hrl',hri,hgr,hsk,hgs,i0,i1,k0,k1,uz, -Bool.forall_bool, -Bool.exists_bool]
end Go.Gv

namespace Go.Gv
open Cod (enc dec)
variable {S S0:Nat->Spc}
abbrev VN:Spc:=aI (a1 B) (fun s=>F2 s=true) (enc (X:=Bool)) fun _ y=>y=true
abbrev FF:Spc:=aI (a1 B) (fun s=>Ar s=true) (enc (X:=Int)) fun _ y=>y=0
abbrev s_sConB:Spc:=aI (a2 B B) (fun x=>x.2=⟨#[124]⟩/\Ar x.1=true) (enc (X:=Bool)) fun x y=>y=qg7 x.1
abbrev qbd:Spc:=aI (a1 B) (fun s=>∃r,nz s=some r) (enc (X:=Int)) fun _ y=>y=0
def qR(l:List B)(s:B):Bool:=l.any fun z=>decide (z=s)
abbrev Ui:Spc:=aI (a2 (List B) B) (fun _=>True) (enc (X:=Bool)) fun x y=>y=qR x.1 x.2
abbrev Jq:Spc:=aI (a2 (List B) B) (fun _=>True) (enc (X:=Int)) fun x y=>y=fW x.1 fun z=>decide (z=x.2)
theorem IN:aq gR gB S (a2 (List B) B) (fun _=>True) (enc (X:=Int)) fun x y=>y=fW x.1 fun z=>decide (z=x.2):=by
 rintro⟨l,s⟩ -
 simp[gR,gB, -Bool.forall_bool, -Bool.exists_bool]
 intro _
 refine ai (X:=Unit) [0,1] [] l.length (fun k _=>∀x∈l.take k,decide (x=s)=false) (fun _=>[]) (fun _=>[]) () (by simp) (by simp) (by omega) (by simp) (by simp) (by simp) (by simp) (by simp) ?_ ?_
 ·intro k _ hk hP
  obtain⟨x,hx⟩:=yG hk
  obtain⟨_,hgx⟩:=qxz.1 hx
  simp[hk,hx,hgx, -Bool.forall_bool, -Bool.exists_bool]
  refine⟨fun h=>?_,fun h=>?_⟩
  ·exact(uR hx (by simp[h]) hP).symm
  ·rw[bc hx]
   intro z hz
   rcases qxE.1 hz with hz|hz
   ·have:=hP z hz
    simpa using this
   ·simp at hz;subst hz
    exact fun e=>h e.symm
 ·intro _ hP
  simp[-Bool.forall_bool, -Bool.exists_bool]
  exact(mM (by simpa using hP)).symm
theorem DD(h1:S cy=Jq):aq cm cj S (a2 (List B) B) (fun _=>True) (enc (X:=Bool)) fun x y=>y=qR x.1 x.2:=by
 rintro⟨l,s⟩ -
 simp[cm,cj,h1, -Bool.forall_bool, -Bool.exists_bool]
 exact uQ _ l
abbrev Q1:Spc:=aI (a2 Cond (List Attr)) (fun x=>qhU x.2 x.1=true/\x.2.length<=1000) (enc (X:=Bool)) fun _ y=>y=true
theorem Dw(h1:S jc=Js)(h2:S bG=Bg)(h3:S bw=VN):aq bX bP S (a2 Cond (List Attr)) (fun x=>qhU x.2 x.1=true/\x.2.length<=1000) (enc (X:=Bool)) fun _ y=>y=true:=by
 rintro⟨⟨op,name,arg,val,lab,fold,ks⟩,a⟩ ⟨hx,hl⟩
 have hx:qhU a ⟨op,name,arg,val,lab,fold,ks⟩=true:=hx
 have hl:a.length<=1000:=hl
 unfold qhU at hx
 simp only at hx
 split at hx
 ·rename_i e;subst e;simp at hx
  simp[bX,bP,h1,hl,hx, -Bool.forall_bool, -Bool.exists_bool]
 rename_i e2
 split at hx
 ·rename_i e;subst e;simp at hx
  simp[bX,bP,h2,hx, -Bool.forall_bool, -Bool.exists_bool]
 rename_i e3
 split at hx
 ·rename_i e;subst e;simp at hx
  simp[bX,bP,h2,hx.1,hx.2, -Bool.forall_bool, -Bool.exists_bool]
 rename_i e4
 split at hx
 ·rename_i e;subst e;simp at hx
  obtain⟨hn,ha⟩:=hx
  by_cases hae:arg=se
  ·subst hae
   simp[bX,bP,h3,hn,se, -Bool.forall_bool, -Bool.exists_bool]
  ·have ha':=ha.resolve_left hae
   have hae':¬arg=⟨#[]⟩:=hae
   simp[bX,bP,h3,hn,ha',hae', -Bool.forall_bool, -Bool.exists_bool]
 rename_i e5
 simp[bX,bP,e2,e3,e4,e5, -Bool.forall_bool, -Bool.exists_bool]
abbrev Q6:Spc:=aI (a3 Cond (List Attr) (List B)) (fun x=>pb x.2.1 x.2.2 x.1=true/\x.2.1.length<=1000) (enc (X:=Int)) fun _ y=>y=0
theorem Dy(h1:S nT=MQ)(h2:S nU=Q1)(h3:S qE=qbd)(h4:S bG=Bg)(h5:S tB=s_sConB)(h6:S cq=FF)(h7:S aQ=Ui):
 aq cI cH S (a3 Cond (List Attr) (List B)) (fun x=>pb x.2.1 x.2.2 x.1=true/\x.2.1.length<=1000) (enc (X:=Int)) fun _ y=>y=0:=by
 rintro⟨x,a,lb⟩ ⟨hx,hl⟩
 have hx:pb a lb x=true:=hx
 have hl:a.length<=1000:=hl
 unfold pb at hx
 simp only[qxH]at hx
 obtain⟨⟨hs,hn⟩,hc⟩:=hx
 obtain⟨op,name,arg,val,lab,fold,ks⟩:=x
 unfold qrk at hc
 simp only at hc
 have e:(Cond.mk op name arg val lab fold ks)=⟨op,name,arg,val,lab,fold,ks⟩:=rfl
 split at hc
 ·rename_i e;subst e
  obtain⟨r,hr⟩:=qyv.1 hc
  simp[cI,cH,h1,h2,h3,hs,hn,hl,hr, -Bool.forall_bool, -Bool.exists_bool]
 rename_i e2
 split at hc
 ·rename_i e;subst e
  simp only[qxH]at hc
  obtain⟨⟨⟨c1,c2⟩,c3⟩,c4⟩:=hc
  have hn':0<=kG a name:=by simpa [qhU]using hn
  have hrg:=(Ay (fun x:Attr=>decide (x.nm=name)) a).2
  have hlt:kG a name < a.length:=hrg
  obtain⟨b,hb⟩:=yG (show(kG a name).toNat < a.length by omega)
  obtain⟨_,hgb⟩:=qxz.1 hb
  rw[hb]at c1
  have c1:b.st=true:=c1
  have c2:¬val=⟨#[]⟩:=of_decide_eq_true c2
  have c3:qg7 val=false:=by simpa using c3
  simp[cI,cH,h1,h2,h4,h5,h6,hs,hn,hl,hn',hlt,hb,hgb,c1,c2,c3,c4, -Bool.forall_bool, -Bool.exists_bool]
 rename_i e3
 split at hc
 ·rename_i e;subst e
  have hc:qR lb lab=true:=hc
  simp[cI,cH,h1,h2,h7,hs,hn,hl,hc, -Bool.forall_bool, -Bool.exists_bool]
 rename_i e4
 split at hc
 ·rename_i e;subst e
  simp[cI,cH,h1,h2,h6,hs,hn,hl,hc, -Bool.forall_bool, -Bool.exists_bool]
 rename_i e5
 simp[cI,cH,h1,h2,hs,hn,hl,e2,e3,e4,e5, -Bool.forall_bool, -Bool.exists_bool]
end Go.Gv

namespace Go.Gv
open Go.Proofs
def ox:CC:=oX [oB 2 (.mv (.const ob))] [0] [] (oX [oA 3 0,oB 4 (.cmp .geq (oT 3) (.const (.int .u8 65))),oA 5 4,oH 6 5 (.mv (oT 0)),oH 7 5 (.cmp .leq (oT 6) (.const (.int .u8 90))),oB 8 (.pick (oT 5) (oT 7) (.const ob)),oA 9 8,oI 10 9 (.mv (oT 0)),oI 11 9 (.cmp .geq (oT 10) (.const (.int .u8 97))),oI 12 9 (.mv (oT 11)),oH 13 12 (.mv (oT 0)),
 oH 14 12 (.cmp .leq (oT 13) (.const (.int .u8 122))),oI 15 9 (.pick (oT 12) (oT 14) (.const ob)),oB 16 (.pick (oT 9) (.const (.bool true)) (oT 15)),oA 17 16,oI 18 17 (.mv (oT 0)),oI 19 17 (.eql false false [.int] (oT 18) (.const (.int .u8 95))),oB 20 (.pick (oT 17) (.const (.bool true)) (oT 19)),oA 2 20] [2] [] (.ret))
def nn:List aj:=[.tmp 2]
def ow:CC:=oX [oB 2 (.mv (.const ob))] [0] [] (oX [oA 3 0,oZ 4 bZ [oT 3],oA 5 4,oI 6 5 (.mv (oT 0)),oI 7 5 (.cmp .geq (oT 6) (.const (.int .u8 48))),oI 8 5 (.mv (oT 7)),oH 9 8 (.mv (oT 0)),oH 10 8 (.cmp .leq (oT 9) (.const (.int .u8 57))),oI 11 5 (.pick (oT 8) (oT 10) (.const ob)),oB 12 (.pick (oT 5) (.const (.bool true)) (oT 11)),oA 13 12,
 oI 14 13 (.mv (oT 0)),oI 15 13 (.eql false false [.int] (oT 14) (.const (.int .u8 45))),oB 16 (.pick (oT 13) (.const (.bool true)) (oT 15)),oA 2 16] [2] [] (.ret))
def nl:List aj:=[.tmp 2]
def jO:CC:=oX [oB 2 (.mv (.const ob))] [0] [] (.seq (oX [oA 4 0,oB 5 (.slen (oT 4)),oB 6 (.cmp .lss (oT 5) (oN 1)),oA 7 6,oI 8 7 (.mv (oT 0)),oI 9 7 (.slen (oT 8)),oI 10 7 (.cmp .gtr (oT 9) (oN 32)),oB 11 (.pick (oT 7) (.const (.bool true)) (oT 10)),oA 12 11,oI 13 12 (.mv (oT 0)),oI 14 12 (.sidx (oT 13) (oN 0)),oI 15 12 (.call bZ [oT 14]),
 oI 16 12 (.not (oT 15)),oB 17 (.pick (oT 12) (.const (.bool true)) (oT 16))] [0,17] [] (.ite (oT 17) (oX [oB 2 (.mv (.const ob))] [2] [] (.ret)) (.skip))) (.keep [0] [] (.seq (oX [oA 18 0,oB 19 (.slen (oT 18)),oB 20 (.mv (oN 0))] [0,19,20] [] (xE 0 20 19 21 1 (oX [oA 22 20,oA 3 22] [0,3,19,20] [] (oX [oA 23 0,oA 24 3,oB 25 (.sidx (oT 23) (oT 24)),oZ 26 eq [oT 25],
 oB 27 (.not (oT 26))] [0,19,20,27] [] (.ite (oT 27) (oX [oB 2 (.mv (.const ob))] [2] [] (.ret)) (.skip)))) 28)) (.keep [] [] (oX [oB 2 (.mv (.const (.bool true)))] [2] [] (.ret))))))
def jo:List aj:=[.tmp 2]
def jN:CC:=gq Tryz.f175 [] {} _
def jn:List aj:=[.tmp 2]
theorem Aj:ak Tryz.prog cq [] jN jn 24:=fo
def lg:CC:=gq Tryz.f288 [] {} _
def kM:List aj:=[.tmp 4]
theorem BH:ak Tryz.prog lZ [] lg kM 17:=fo
def um:CC:=gq Tryz.f264 [] {} _
def ts:List aj:=[.tmp 4]
theorem J4:ak Tryz.prog vQ [] um ts 19:=fo
def ci:CC:=gq Tryz.f287 [] {} _
def cb:List aj:=[.tmp 2, .tmp 3]
theorem FZ:ak Tryz.prog rI [] ci cb 71:=fo
end Go.Gv

namespace Go.Gv
open Cod (enc dec)
variable {S S0:Nat->Spc}
def PG(c:Int):Bool:=(decide (65<=c) && decide (c<=90))||(decide (97<=c) && decide (c<=122))||decide (c=95)
def qlI(c:Int):Bool:=PG c||(decide (48<=c) && decide (c<=57))||decide (c=45)
abbrev qbk:Spc:=aI (a1 U8) (fun _=>True) (enc (X:=Bool)) fun c y=>y=PG c.val
theorem Fq:aq ox nn S (a1 U8) (fun _=>True) (enc (X:=Bool)) fun c y=>y=PG c.val:=by
 rintro⟨c⟩ -
 by_cases h1:(65:Int)<=c <;> by_cases h2:c<=90 <;> by_cases h3:(97:Int)<=c <;> by_cases h4:c<=122 <;> by_cases h5:c=95 <;>
  simp[ox,nn,PG,h1,h2,h3,h4,h5, -Bool.forall_bool, -Bool.exists_bool]
abbrev MO:Spc:=aI (a1 U8) (fun _=>True) (enc (X:=Bool)) fun c y=>y=qlI c.val
theorem Fp(h0:S bZ=qbk):aq ow nl S (a1 U8) (fun _=>True) (enc (X:=Bool)) fun c y=>y=qlI c.val:=by
 rintro⟨c⟩ -
 cases hb:PG c <;> by_cases h1:(48:Int)<=c <;> by_cases h2:c<=57 <;> by_cases h3:c=45 <;>
  simp[ow,nl,qlI,h0,hb,h1,h2,h3, -Bool.forall_bool, -Bool.exists_bool]
theorem qdL(c:UInt8):Xt c=PG (c.toNat:Int):=by
 unfold Xt PG
 rw[qyi]
 simp
 omega
theorem qnA(c:UInt8):qtK c=qlI (c.toNat:Int):=by
 unfold qtK qlI
 rw[qdL]
 cases PG (c.toNat:Int)
 ·rw[qyi]
  simp
  omega
 ·simp
theorem By(h1:S bZ=qbk)(h2:S eq=MO):aq jO jo S (a1 B) (fun s=>F2 s=true) (enc (X:=Bool)) fun _ y=>y=true:=by
 rintro s hs
 have hs:F2 s=true:=hs
 unfold F2 at hs
 simp only[qxH,decide_eq_true_eq]at hs
 obtain⟨⟨⟨q1,q2⟩,q3⟩,q4⟩:=hs
 simp[jO,jo,h1,h2, -Bool.forall_bool, -Bool.exists_bool]
 have r1:(1:Int)<=(s.size:Int):=by omega
 have r2:(s.size:Int)<=32:=by omega
 have r3:(s.size:Int)<=9223372036854775807:=by omega
 have hsl:s.data.toList.length=s.size:=qx2
 refine fun _=>⟨fun _ _=>⟨fun _=>⟨by omega,fun c hc=>?_⟩,r2⟩,r1⟩
 have hc':s.data.toList[0]? =some c:=by rw[qx6];exact hc
 have hb:PG (c.toNat:Int)=true:=by
  rw[<-qdL]
  cases hl:s.data.toList with
  | nil=>rw[hl]at hc';cases hc'
  | cons d l=>
    rw[hl]at hc' q3
    cases hc'
    exact q3
 refine⟨hb,fun _ _=>?_⟩
 refine ai (X:=Unit) [0] [] s.size (fun _ _=>True) (fun _=>[]) (fun _=>[]) () (by simp) (by simp) (by omega) (by simp) (by simp) trivial (by simp) (by simp) ?_ ?_
 ·rintro k -hk -
  obtain⟨d,hd⟩:=yG (show k < s.data.toList.length by omega)
  have hg:qlI (d.toNat:Int)=true:=by rw[<-qnA];exact qxF.1 q4 d (qxC hd)
  have hd':s.data[k]? =some d:=by rw[<-qx6];exact hd
  obtain⟨_,hgd⟩:=qxG.1 hd'
  simp[hk,hd',hgd,hg,h2, -Bool.forall_bool, -Bool.exists_bool]
 ·rintro - -
  simp[-Bool.forall_bool, -Bool.exists_bool]
theorem Bw(h1:S nX=s_cpVal):aq jN jn S (a1 B) (fun s=>Ar s=true) (enc (X:=Int)) fun _ y=>y=0:=by
 rintro s hs
 have hs:Ar s=true:=hs
 unfold Ar at hs
 simp only[qxH,decide_eq_true_eq]at hs
 obtain⟨q1,q2⟩:=hs
 have ha:wm s=true:=by
  unfold wm
  refine qxF.2 fun c hc=>?_
  have:=qxF.1 q2 c hc
  simp at this
  simp
  omega
 have r1:(s.size:Int)<=120:=by omega
 have r2:(s.size:Int)<=9223372036854775807:=by omega
 have r3:s.size<=1000:=by omega
 have r4:¬ (120:Int) < (s.size:Int):=by omega
 simp[jN,jn,h1,ha,r1,r2,r3,r4, -Bool.forall_bool, -Bool.exists_bool]
 intro b
 refine av (X:=Nat) [] [] (fun p=>p<=s.size) (fun p=>[(14, .bptr 14 b 0)]) (fun p=>[(14, .iter b s p)]) (fun p=>s.size -p) 0 (qx3 _) (by simp) (by simp) ?_
 rintro p hp
 by_cases hlt:p < s.size
 ·obtain⟨c,hc,hc128,hdec⟩:=GL ha hlt
  have hcm:=qxF.1 q2 c (qxC hc)
  simp at hcm
  have n1:¬ (c.toNat:Int)<=31:=by omega
  have n2:¬ (c.toNat:Int)=127:=by omega
  simp[hlt,hdec,n1,n2, -Bool.forall_bool, -Bool.exists_bool]
  exact⟨p+1,by omega, .inl rfl,by omega⟩
 ·have hpe:p=s.size:=by omega
  subst hpe
  simp[-Bool.forall_bool, -Bool.exists_bool]
end Go.Gv
