/- C57 -/
import Derived.Test.YtilfeahoefpgcaaGreatDoorGc17
set_option linter.all false
set_option maxRecDepth 100000
set_option maxHeartbeats 0
open Bool renaming forall_bool → fB', exists_bool → eB'
namespace Go.Gv
open Go.Proofs
def eE:CC:=gq Tryz.f194 [] {} _
def ep:List ak:=[.tmp 4]
def rE:FO eR [] eE ep 19:=fo
def fh:CC:=gq Tryz.f137 [] {} _
def ff:List ak:=[.tmp 4]
def jZ:FO bE [] fh ff 9:=fo
def gF:CC:=gq Tryz.f199 [] {} _
def gy:List ak:=[.tmp 4]
def mE:FO eK [] gF gy 19:=fo
def eG:CC:=gq Tryz.f196 [] {} _
def ez:List ak:=[.tmp 4]
def rG:FO eT [] eG ez 9:=fo
def fC:CC:=gq Tryz.f259 [] {} _
def fu:List ak:=[.tmp 4]
def uF:FO fK [] fC fu 19:=fo
def ig:CC:=gq Tryz.f198 [3] {} _
def gQ:List ak:=[.tmp 4]
def xZ:FO iP [3] ig gQ 9:=fo
def kZ:CC:=gq Tryz.f260 [3] {} _
def kA:List ak:=[.tmp 4]
def Bn:FO lZ [3] kZ kA 19:=fo
def iU:CC:=gq Tryz.f135 [] {} _
def iB:List ak:=[.tmp 4]
def yZ:FO dJ [] iU iB 19:=fo
def cF:CC:=gq Tryz.f108 [] {} _
def cD:List ak:=[.tmp 4]
def lN:FO aZ [] cF cD 9:=fo
def lp:CC:=gq Tryz.f110 [3] {} _
def kI:List ak:=[.tmp 6, .tmp 7]
def BB:FO cI [3] lp kI 40:=fo
def nA:CC:=oX [oB 1 (.box eI true (oT 0)),oB 2 (.mv (.const ob))] [1] [] (oX [oD 6 7 1,oZ 7 cI [oT 6,oN 0,oN 1],oA 5 7,oB 8 (.ext (oT 5) 0),oB 9 (.ext (oT 5) 1),oA 3 8,oA 4 9] [3] [] (oX [oA 10 3,oB 11 (.cmp .gtr (oT 10) (oN 60)),oA 2 11] [2] [] (.ret)))
def nf:List ak:=[.tmp 2]
def pM:CC:=gq Tryz.f111 [2] {} _
def ot:List ak:=[.tmp 4]
def Gi:FO ib [2] pM ot 29:=fo
def bw:CC:=gq Tryz.f176 [1,2034005,2033005,2043005,2042005,2041005,2052005,2051005,2050005] {} _
def br:List ak:=[.tmp 2]
def Eg:FO pk [1,2034005,2033005,2043005,2042005,2041005,2052005,2051005,2050005] bw br 108:=fo
def jg:CC:=gq Tryz.f134 [3] {} _
def iL:List ak:=[.tmp 4]
def zl:FO bT [3] jg iL 8:=fo
def gH:CC:=gq Tryz.f195 [2] {} _
def gA:List ak:=[.tmp 3]
def wS:FO bX [2] gH gA 8:=fo
def je:CC:=gq Tryz.f132 [] {} _
def iK:List ak:=[.tmp 4]
def El:FO kj [] je iK 14:=fo
def cp:CC:=gq Tryz.f177 [2] {} _
def ca:List ak:=[.tmp 4]
def Eh:FO pm [2] cp ca 50:=fo
def de:CC:=gq Tryz.f113 [3] {} _
def db:List ak:=[.tmp 6]
def Em:FO pn [3] de db 59:=fo
def jP:CC:=gq Tryz.f57 [5,4,3] {} _
def jD:List ak:=[.tmp 6]
def AL:FO dm [5,4,3] jP jD 23:=fo
def iq:CC:=gq Tryz.f112 [3] {} _
def gW:List ak:=[.tmp 4]
def yc:FO cz [3] iq gW 9:=fo
def ko:CC:=oX [oB 1 (.box eI true (oT 0)),oB 2 (.mv (.const ob))] [1] [] (oX [oE 3 0 1,oC 4 1 3,oB 5 (.eql false false [.int] (oT 4) (oN 4)),oA 6 5,oI 7 6 (.faddr 6 (oT 1)),oI 8 6 (.load false 1 (oT 7)),oI 9 6 (.call bE [oT 8,.func bF]),oB 10 (.pick (oT 6) (.const (.bool true)) (oT 9)),oA 2 10] [2] [] (.ret))
def jX:List ak:=[.tmp 2]
def dZ:CC:=oX [oB 1 (.box eI true (oT 0)),oB 2 (.alloc eI [oi,oe,oe,oe,oe,ob,on])] [1,2] [2,33] (.seq (oX [oE 6 0 1,oC 7 1 6,oB 8 (.eql false false [.int] (oT 7) (oN 4)),oA 9 8,oI 10 9 (.faddr 0 (oT 1)),oI 11 9 (.load false 1 (oT 10)),oI 12 9 (.eql false false [.int] (oT 11) (oN 6)),oI 13 9 (.mv (oT 12)),oH 14 13 (.load true 7 (oT 1)),
 oH 15 13 (.call bF [oT 14]),oI 16 9 (.pick (oT 13) (oT 15) (.const ob)),oB 17 (.pick (oT 9) (.const (.bool true)) (oT 16))] [1,2,17] [2,33] (.ite (oT 17) (oX [oB 18 (.build [oi,oe,oe,oe,oe,ob,on] [(0,1,oN 1)]),oF 7 2 18] [2] [2,33] (.ret)) (.skip))) (.keep [1,2] [2,33] (oX [oD 19 7 1,oB 3 (.alloc eI [oi,oe,oe,oe,oe,ob,on]),oF 7 3 19] [1,2,3] [2,3,33] (Ke 5 (.reg [
 oE 20 6 3,.op none none (.store none 1 (oT 20) (.const on))]) (.keep [1,2,3] [2,3,33] (.seq (oX [oE 21 6 1,oC 22 1 21,oB 23 (.len (oT 22)),oB 24 (.mv (oN 0))] [2,3,22,23,24] [2,3,33] (fF 0 24 23 25 1 (oX [oB 26 (.iaddr 7 (oT 22) (oT 24)),oD 27 7 26,oB 5 (.alloc eI [oi,oe,oe,oe,oe,ob,on]),oF 7 5 27] [2,3,5,22,23,24] [2,3,5,33] (.regd [oE 28 6 3,oC 29 1 28,oD 30 7 5,
 oZ 31 dA [oT 30],oB 32 (.bslice eI 7 [oT 31])] [oB 33 (.append (some 33) eI 7 104 (oT 29) (oT 32)),oE 34 6 3,.op none none (.store (some 3) 1 (oT 34) (oT 33))])) 35)) (.keep [2,3] [2,3,33] (oX [oD 36 7 3,oF 7 2 36] [2] [2,33] (.ret)))))))))
def dS:List ak:=[.cell 2 true 7]
def cq:CC:=gq Tryz.f131 [3] {} _
def cb:List ak:=[.tmp 6]
def En:FO pp [3] cq cb 38:=fo
def mu:CC:=gq Tryz.f136 [5,4,3] {} _
def lV:List ak:=[.tmp 6]
def C1:FO nl [5,4,3] mu lV 11:=fo
def bV:CC:=gq Tryz.f197 [3] {} _
def bS:List ak:=[.tmp 4]
def AK:FO ck [3] bV bS 37:=fo
def Ej:FO ki [1] nA nf 12:=fo
def Gj:FO bF [1] ko jX 11:=fo
def Ei:FO dA [1,2034003,1033033] dZ dS 37:=fo
open Cod (enc dec)
variable {S S0:Nat->Spc}
def FunOn{X Y:Type}[Cod X][Cod Y](S:Nat->Spc)(d:D)(l:List X)(p:X->Y):Prop:=
 ∃g caps pc,d= .clo g caps/\S g= .pure pc/\∀x∈l,pc.pre (enc x::caps)/\∀r,pc.post (enc x::caps) r->r=enc (p x)
def FunOn.useB{X:Type}[Cod X]{S:Nat->Spc}{d:D}{l:List X}{p:X->Bool}(h:FunOn S d l p){x:X}(hx:x∈l){d':Nat}{H:ab}{K:D->ab->Prop}(hk:∀y:Bool,(∀q:X->Bool,FunOn S d l q->y=q x)->K (.v (.bool y)) H):Ch S d d' [enc x] H K:=by
 obtain⟨g,caps,pc,rfl,h1,h2⟩:=h;simp only[Ch,h1,Spc.pt];refine⟨(h2 x hx).1,λr hr=>?_⟩;have e:=(h2 x hx).2 r hr;rw[e];refine hk (p x) λq hq=>?_
 obtain⟨g',caps',pc',e',k1,k2⟩:=hq;cases e';rw[h1]at k1;cases k1;exact bK (e.symm.trans ((k2 x hx).2 r hr))
def yh{X Y Z:Type}[Cod X][Cod Y]{S:Nat->Spc}{g:Nat}{caps:List D}{A:fS Z}{pre:Z->Prop}{post:Z->Y->Prop}{l:List X}{p:X->Y}{f:X->Z}(h:S g=aL A pre enc post)(hd:∀x∈l,A.dec (enc x::caps)=some (f x))(hp:∀x∈l,pre (f x))(hq:∀x∈l,∀y,post (f x) y->y=p x):FunOn S (.clo g caps) l p:=by
 refine⟨g,caps,_,rfl,h,λx hx=>⟨⟨f x,hd x hx,hp x hx⟩,λr hr=>?_⟩⟩;obtain⟨y,h1,h2⟩:=hr (f x) (hd x hx) (hp x hx);rw[h1,hq x hx y h2]
def ZH{X:Type}[Cod X](S0:Nat->Spc)(x:List X×D×Unit):Prop:=∃p:X->Bool,FunOn S0 x.2.1 x.1 p
def qks{X:Type}[Cod X](S0:Nat->Spc)(x:List X×D×Unit)(y:Int):Prop:=∀p:X->Bool,FunOn S0 x.2.1 x.1 p->y=eX x.1 p
def qnI{X:Type}[Cod X](S0:Nat->Spc)(x:List X×D×Unit)(y:Bool):Prop:=∀p:X->Bool,FunOn S0 x.2.1 x.1 p->y=x.1.any p
abbrev YC(X:Type)[Cod X](S0:Nat->Spc):Spc:=aL (aE (List X) (aD a0)) (ZH S0) (enc (X:=Int)) (qks S0)
abbrev qbW(X:Type)[Cod X](S0:Nat->Spc):Spc:=aL (aE (List X) (aD a0)) (ZH S0) (enc (X:=Bool)) (qnI S0)
theorem Lw:am eE ep S (aE (List Attr) (aD a0)) (ZH S) (enc (X:=Int)) (qks S):=by
 rintro⟨l,d,⟨⟩⟩ ⟨p,hp⟩;simp only at hp;simp[eE,ep,-fB',-eB'];intro _;refine ah (X:=Unit) [0,1] [] l.length (λk _=>∀p:Attr->Bool,FunOn S d l p->∀x∈l.take k,p x=false) (λ_=>[]) (λ_=>[]) () (by simp) ?_ ?_
 ·intro k _ hk hP;obtain⟨x,hx⟩:∃x,l[k]? =some x:=⟨_,qzR hk⟩
  obtain⟨_,hgx⟩:=qzP.1 hx;simp[hk,hx,hgx,-fB',-eB'];refine hp.useB (x:=x) (qzS hx) λy hy=>?_
  simp[-fB',-eB'];refine⟨λh=>?_,λh p' hp'=>?_⟩
  ·intro p' hp';exact(tG hx (by rw[<-hy p' hp',h]) (hP p' hp')).symm
  ·rw[av hx];intro z hz;rcases qzZ.1 hz with hz|hz
   ·exact hP p' hp' z hz
   ·simp at hz;subst hz;rw[<-hy p' hp',h]
 ·intro _ hP;simp[-fB',-eB'];intro p' hp';exact(lH (by simpa using hP p' hp')).symm
theorem Pm:am gF gy S (aE (List Cond) (aD a0)) (ZH S) (enc (X:=Int)) (qks S):=by
 rintro⟨l,d,⟨⟩⟩ ⟨p,hp⟩;simp only at hp;simp[gF,gy,-fB',-eB'];intro _;refine ah (X:=Unit) [0,1] [] l.length (λk _=>∀p:Cond->Bool,FunOn S d l p->∀x∈l.take k,p x=false) (λ_=>[]) (λ_=>[]) () (by simp) ?_ ?_
 ·intro k _ hk hP;obtain⟨x,hx⟩:∃x,l[k]? =some x:=⟨_,qzR hk⟩
  obtain⟨_,hgx⟩:=qzP.1 hx;simp[hk,hx,hgx,-fB',-eB'];have e:D.agg [.v (.int .i64 x.op), .v (.string x.name), .v (.string x.arg), .v (.string x.val), .v (.string x.lab), .v (.bool x.fold), .list 7 (x.kids.map enc)]=enc x:=by simp
  rw[e];refine hp.useB (x:=x) (qzS hx) λy hy=>?_
  simp[-fB',-eB'];refine⟨λh=>?_,λh p' hp'=>?_⟩
  ·intro p' hp';exact(tG hx (by rw[<-hy p' hp',h]) (hP p' hp')).symm
  ·rw[av hx];intro z hz;rcases qzZ.1 hz with hz|hz
   ·exact hP p' hp' z hz
   ·simp at hz;subst hz;rw[<-hy p' hp',h]
 ·intro _ hP;simp[-fB',-eB'];intro p' hp';exact(lH (by simpa using hP p' hp')).symm
def Pn(h1:S eK=YC Cond S0):am fh ff S (aE (List Cond) (aD a0)) (ZH S0) (enc (X:=Bool)) (qnI S0):=by
 rintro⟨l,d,⟨⟩⟩ hp;simp[fh,ff,h1,-fB',-eB'];refine⟨hp,λy hy p' hp'=>?_⟩;rw[hy p' hp'];exact zw p' l
theorem Ub:am fC fu S (aE (List Region) (aD a0)) (ZH S) (enc (X:=Int)) (qks S):=by
 rintro⟨l,d,⟨⟩⟩ ⟨p,hp⟩;simp only at hp;simp[fC,fu,-fB',-eB'];intro _;refine ah (X:=Unit) [0,1] [] l.length (λk _=>∀p:Region->Bool,FunOn S d l p->∀x∈l.take k,p x=false) (λ_=>[]) (λ_=>[]) () (by simp) ?_ ?_
 ·intro k _ hk hP;obtain⟨x,hx⟩:∃x,l[k]? =some x:=⟨_,qzR hk⟩
  obtain⟨_,hgx⟩:=qzP.1 hx;simp[hk,hx,hgx,-fB',-eB'];refine hp.useB (x:=x) (qzS hx) λy hy=>?_
  simp[-fB',-eB'];refine⟨λh=>?_,λh p' hp'=>?_⟩
  ·intro p' hp';exact(tG hx (by rw[<-hy p' hp',h]) (hP p' hp')).symm
  ·rw[av hx];intro z hz;rcases qzZ.1 hz with hz|hz
   ·exact hP p' hp' z hz
   ·simp at hz;subst hz;rw[<-hy p' hp',h]
 ·intro _ hP;simp[-fB',-eB'];intro p' hp';exact(lH (by simpa using hP p' hp')).symm
def Uc(h1:S fK=YC Region S0):am eG ez S (aE (List Region) (aD a0)) (ZH S0) (enc (X:=Bool)) (qnI S0):=by
 rintro⟨l,d,⟨⟩⟩ hp;simp[eG,ez,h1,-fB',-eB'];refine⟨hp,λy hy p' hp'=>?_⟩;rw[hy p' hp'];exact zw p' l
end Go.Gv
namespace Go.Gv
instance:Inhabited Cond:=⟨⟨0,⟨#[]⟩,⟨#[]⟩,⟨#[]⟩,⟨#[]⟩,false, []⟩⟩
instance:Inhabited Pat:=⟨⟨0,default,⟨#[]⟩,⟨#[]⟩,0,0, []⟩⟩
def Cond0:Cond:=⟨0,⟨#[]⟩,⟨#[]⟩,⟨#[]⟩,⟨#[]⟩,false, []⟩
mutual
def dc:Pat->Nat| .mk _ _ _ _ _ _ ks=>Vr ks+1
def Vr:List Pat->Nat|[]=>0|k::ks=>max (dc k) (Vr ks)
end
mutual
def dn:Cond->Nat| .mk _ _ _ _ _ _ ks=>iz ks+1
def iz:List Cond->Nat|[]=>0|k::ks=>max (dn k) (iz ks)
end
mutual
def cZ:Pat->Nat| .mk _ _ _ _ _ _ ks=>be ks+1
def be:List Pat->Nat|[]=>0|k::ks=>cZ k+be ks
end
def qap(p:Pat):dc p=Vr p.kids+1:=by cases p;rw[dc]
def G8(p:Cond):dn p=iz p.kids+1:=by cases p;rw[dn]
def cx(p:Pat):cZ p=be p.kids+1:=by cases p;rw[cZ]
def PX{k:Pat} :∀{ks:List Pat},k∈ks->dc k<=Vr ks
 | a::ks,h=>by
   rw[Vr];rcases qz4.1 h with rfl|h
   ·omega
   ·have:=PX h;omega
def I5{k:Cond} :∀{ks:List Cond},k∈ks->dn k<=iz ks
 | a::ks,h=>by
   rw[iz];rcases qz4.1 h with rfl|h
   ·omega
   ·have:=I5 h;omega
def kM{p k:Pat}(h:k∈p.kids):dc k<dc p:=by have:=PX h;rw[qap p];omega
def NL{p k:Cond}(h:k∈p.kids):dn k<dn p:=by have:=I5 h;rw[G8 p];omega
def fY{C:Pat->Prop}(h:∀p,(∀k∈p.kids,C k)->C p)(p:Pat):C p:=by
 generalize hn:dc p=n
 induction n using Nat.strongRecOn generalizing p with
 | _ n ih=>exact h p λk hk=>ih (dc k) (by rw[<-hn];exact kM hk) k rfl
mutual
def cm(f:Pat->Bool):Pat->Bool| .mk op c l r mn mx ks=>f ⟨op,c,l,r,mn,mx,ks⟩ && GT f ks
def GT(f:Pat->Bool):List Pat->Bool|[]=>true|k::ks=>cm f k && GT f ks
end
def Ni(f:Pat->Bool):∀ks:List Pat,GT f ks=ks.all (cm f)
 | []=>by rw[GT];rfl
 |k::ks=>by rw[GT,Ni f ks,qBH]
def cN(f:Pat->Bool)(p:Pat):cm f p=(f p && p.kids.all (cm f)):=by cases p;rw[cm,Ni]
mutual
def cB:Pat->Int->Bool| .mk _ _ _ _ _ _ ks,d=>decide (d<=100) && xO ks (d+1)
def xO:List Pat->Int->Bool|[],_=>true|k::ks,d=>cB k d && xO ks d
end
def FI(d:Int):∀ks:List Pat,xO ks d=ks.all (cB · d)
 | []=>by rw[xO];rfl
 |k::ks=>by rw[xO,FI d ks,qBH]
def nF(p:Pat)(d:Int):cB p d=(decide (d<=100) && p.kids.all (cB · (d+1))):=by cases p;rw[cB,FI]
def Rt(p:Pat):∀d d':Int,d'<=d->cB p d=true->cB p d'=true:=by
 induction p using fY with|_ p ih=>?_
 intro d d' h;rw[nF,nF];simp only[qzT,decide_eq_true_eq,qzY];exactλ⟨h1,h2⟩=>⟨by omega,λk hk=>ih k hk (d+1) (d'+1) (by omega) (h2 k hk)⟩
def vI(p:Pat):Prop:=(p.op=1/\p.reg=⟨#[]⟩/\p.mn=0/\p.mx=0/\p.kids=[])\/
 ((p.op=2\/p.op=3)/\p.cond=Cond0/\p.lab=⟨#[]⟩/\p.mn=0/\p.mx=0/\p.kids=[])\/
 ((p.op=4\/p.op=5)/\p.cond=Cond0/\p.lab=⟨#[]⟩/\p.reg=⟨#[]⟩/\p.mn=0/\p.mx=0/\2<=p.kids.length)\/
 (p.op=6/\p.cond=Cond0/\p.lab=⟨#[]⟩/\p.reg=⟨#[]⟩/\p.kids.length=1)
noncomputable def oJ(p:Pat):Bool:= @decide (vI p) (Classical.propDecidable _)
def tS(p:Pat):oJ p=true↔vI p:= @decide_eq_true_iff (vI p) (Classical.propDecidable _)
def lG(p:Pat):Bool:=decide (p.op=6->0<=p.mn/\p.mn<=16/\(p.mx= -1\/p.mn<=p.mx/\p.mx<=16))
def mF(v:B->Bool)(p:Pat):Bool:=decide (((p.op=2\/p.op=3)->v p.reg=true)/\(p.lab≠ ⟨#[]⟩->v p.lab=true))
noncomputable def fI(v:B->Bool)(p:Pat):Bool:=cB p 1 && cm oJ p && cm (mF v) p && cm lG p
def kL{v:B->Bool}{p k:Pat}(h:fI v p=true)(hk:k∈p.kids):fI v k=true:=by
 unfold fI at*;rw[cN,cN,cN lG,nF]at h;simp only[qzT,qzY]at h;obtain⟨⟨⟨⟨_,h1⟩,_,h2⟩,_,h3⟩,_,h4⟩:=h;rw[h2 k hk,h3 k hk,h4 k hk,Rt k _ 1 (by omega) (h1 k hk)];rfl
def dg{v:B->Bool}{p:Pat}(h:fI v p=true):oJ p=true/\mF v p=true/\lG p=true:=by
 unfold fI at*;rw[cN,cN,cN lG]at h;simp only[qzT]at h;exact⟨h.1.1.2.1,h.1.2.1,h.2.1⟩
def A8(p:Pat)(n:Int):Int:=if p.kids=[]then 1 else if p.op=6 then(if p.mx= -1 then min (n* (p.mn+1)) 1000 else if p.mx=0 then n else min (n*p.mx) 1000)else n
mutual
def fj:Pat->Int| .mk op c l r mn mx ks=>A8 ⟨op,c,l,r,mn,mx,ks⟩ (eo ks 0)
def eo:List Pat->Int->Int|[],n=>n|k::ks,n=>eo ks (min (n+fj k) 1000)
end
def nP(p:Pat):fj p=A8 p (eo p.kids 0):=by cases p;rw[fj]
def LV(a b:List Pat)(n:Int):eo (a++b) n=eo b (eo a n):=by
 induction a generalizing n with
 |nil=>rfl
 |cons k a ih=>simp only[qAE,eo];exact ih _
def N8(seq:Bool)(a b:Int×Int):Int×Int:=
 if seq then(min (a.1+b.1) 10000,if a.2= -1\/b.2= -1 then -1 else min (a.2+b.2) 10000)else(min a.1 b.1,if a.2= -1\/b.2= -1 then -1 else max a.2 b.2)
mutual
def aU:Pat->Int×Int
 | .mk op _ _ _ mn mx ks=>if op=1 then(1,1)else if op=2\/op=3 then(0,0)else match ks with
   | []=>(0,0)
   |k::ks=>if op=6 then(min ((aU k).1*mn) 10000,if mx=0\/(aU k).2=0 then 0 else if mx= -1\/(aU k).2= -1 then -1 else min ((aU k).2*mx) 10000)else mB (decide (op=4)) ks (aU k)
def mB(seq:Bool):List Pat->Int×Int->Int×Int|[],w=>w|k::ks,w=>mB seq ks (N8 seq w (aU k))
end
def Pl(s:Bool)(a b:List Pat)(n:Int×Int):mB s (a++b) n=mB s b (mB s a n):=by
 induction a generalizing n with
 |nil=>rfl
 |cons k a ih=>simp only[qAE,mB];exact ih _
def qdu{p:Pat}(h:p.op=1):aU p=(1,1):=by cases p;simp only at h;unfold aU;rw[if_pos h]
def qdt{p:Pat}(h:p.op=2\/p.op=3):aU p=(0,0):=by cases p;simp only at h;unfold aU;rw[if_neg (by omega),if_pos h]
def qdr{p k:Pat}(h:p.op=6){ks:List Pat}(hk:p.kids=k::ks):aU p=(min ((aU k).1*p.mn) 10000,if p.mx=0\/(aU k).2=0 then 0 else if p.mx= -1\/(aU k).2= -1 then -1 else min ((aU k).2*p.mx) 10000):=by
 cases p;simp only at h hk;subst hk;rw[aU,if_neg (by omega),if_neg (by omega)];simp only[h,if_true]
def qds{p k:Pat}(h:p.op=4\/p.op=5){ks:List Pat}(hk:p.kids=k::ks):aU p=mB (decide (p.op=4)) ks (aU k):=by
 cases p;simp only at h hk;subst hk;rw[aU,if_neg (by omega),if_neg (by omega)];simp only;rw[if_neg (by omega)]
mutual
def aq:Pat->List Pat| .mk op c l r mn mx ks=>if op=1 then[⟨op,c,l,r,mn,mx,ks⟩]else BJ ks
def BJ:List Pat->List Pat|[]=>[]|k::ks=>aq k++BJ ks
end
def JC:∀ks:List Pat,BJ ks=ks.flatMap aq
 | []=>by rw[BJ];rfl
 |k::ks=>by rw[BJ,JC ks,qAq]
def ba(p:Pat):aq p=if p.op=1 then[p]else p.kids.flatMap aq:=by cases p;rw[aq,JC]
def qw(p:Pat):(aq p).length<=cZ p:=by
 induction p using fY with|_ p ih=>?_
 rw[ba,cx];split
 ·simp
 ·have:∀ks:List Pat,(∀k∈ks,(aq k).length<=cZ k)->(ks.flatMap aq).length<=be ks:=by
   intro ks
   induction ks with
   |nil=>intro _;simp[be]
   | cons k ks ih=>
     intro h;rw[qAq,qAh,be];have h1:=h k (by simp);have h2:=ih λx hx=>h x (by simp[hx])
     omega
  have:=this p.kids ih;omega
def qu{p:Pat}(h:oJ p=true):(p.op=1/\p.kids=[])\/((p.op=2\/p.op=3)/\p.kids=[])\/((p.op=4\/p.op=5)/\∃k ks,p.kids=k::ks)\/(p.op=6/\∃k,p.kids=[k]):=by
 rw[tS]at h;unfold vI at h;rcases h with h|h|h|h
 ·exact .inl ⟨h.1,h.2.2.2.2⟩
 ·exact .inr (.inl ⟨h.1,h.2.2.2.2.2⟩)
 ·refine .inr (.inr (.inl ⟨h.1,?_⟩));rcases hk:p.kids with _|⟨k,ks⟩
  ·rw[hk]at h;simp at h
  ·exact⟨k,ks,rfl⟩
 ·refine .inr (.inr (.inr ⟨h.1,?_⟩));rcases hk:p.kids with _|⟨k,_|⟨a,ks⟩⟩
  ·rw[hk]at h;simp at h
  ·exact⟨k,rfl⟩
  ·rw[hk]at h;simp at h
def pY:∀(ks:List Pat) (n:Int),0<=n->n<=1000->(∀k∈ks,0<=fj k)->0<=eo ks n/\eo ks n<=1000
 | [],n,h0,h1,_=>by rw[eo];exact⟨h0,h1⟩
 | k::ks,n,h0,h1,h=>by
   rw[eo];have:=h k (by simp);exact pY ks _ (by omega) (by omega) λx hx=>h x (by simp[hx])
def Pv{v:B->Bool}(p:Pat):fI v p=true->0<=fj p/\fj p<=1000:=by
 induction p using fY with|_ p ih=>?_
 intro h;have hk:=pY p.kids 0 (by omega) (by omega) λk hk=>(ih k hk (kL h hk)).1
 have hn:=(dg h).2.2;unfold lG at hn;rw[decide_eq_true_eq]at hn;rw[nP];generalize eo p.kids 0=n at hk;unfold A8;split
 ·omega
 ·split
  ·rename_i h6;have hn:=hn h6;split
   ·have:0<=n* (p.mn+1):=qBF hk.1 (by omega);omega
   ·split
    ·exact hk
    ·have:0<=n*p.mx:=qBF hk.1 (by omega);omega
  ·exact hk
def eh(w:Int×Int):Prop:=0<=w.1/\w.1<=10000/\ -1<=w.2/\w.2<=10000
def QF{s:Bool}{a b:Int×Int}(ha:eh a)(hb:eh b):eh (N8 s a b):=by
 unfold eh N8 at*;split<;>simp only<;>split<;>omega
def TD(s:Bool):∀(ks:List Pat) (w:Int×Int),eh w->(∀k∈ks,eh (aU k))->eh (mB s ks w)
 | [],w,h,_=>by rw[mB];exact h
 | k::ks,w,h,hk=>by
   rw[mB];exact TD s ks _ (QF h (hk k (by simp))) λx hx=>hk x (by simp[hx])
theorem yu{v:B->Bool}(p:Pat):fI v p=true->eh (aU p):=by
 induction p using fY with|_ p ih=>?_
 intro h;obtain⟨h1,_,hn⟩:=dg h;unfold lG at hn;rw[decide_eq_true_eq]at hn;rcases qu h1 with⟨ho,_⟩|⟨ho,_⟩|⟨ho,k,ks,hk⟩|⟨ho,k,hk⟩
 ·rw[qdu ho];simp[eh]
 ·rw[qdt ho];simp[eh]
 ·rw[qds ho hk];exact TD _ _ _ (ih k (by rw[hk];simp) (kL h (by rw[hk];simp))) λx hx=>ih x (by rw[hk];simp[hx]) (kL h (by rw[hk];simp[hx]))
 ·rw[qdr ho hk];have hw:=ih k (by rw[hk];simp) (kL h (by rw[hk];simp));have hn:=hn ho;generalize aU k=w at hw;unfold eh at*;have h1:0<=w.1*p.mn:=qBF hw.1 hn.1;refine⟨by simp only;omega,by simp only;omega,?_⟩;simp only;split
  ·omega
  ·split
   ·omega
   ·have h2:0<=w.2*p.mx:=qBF (by omega) (by omega);omega
open Cod (enc dec)
mutual
def gK:Cond->Nat| .mk _ _ _ _ _ _ ks=>eW ks+1
def eW:List Cond->Nat|[]=>0|k::ks=>gK k+eW ks
end
def zo(x:Cond):gK x=eW x.kids+1:=by cases x;rw[gK]
def CE:∀(a b:List Cond),eW (a++b)=eW a+eW b
 | [],b=>by rw[qAT,eW];omega
 |k::a,b=>by rw[qAE,eW,eW,CE a b];omega
def Qx:∀(a b:List Cond),iz (a++b)=max (iz a) (iz b)
 | [],b=>by rw[qAT,iz];omega
 |k::a,b=>by rw[qAE,iz,iz,Qx a b];omega
def Io:∀{ks:List Cond} {k:Cond},k∈ks->gK k<=eW ks
 | x::ks,k,h=>by
   rw[eW];rcases qz4.1 h with rfl|h
   ·omega
   ·have:=Io h;omega
def qch{ks:List Cond}{k:Nat}{x:Cond}(h:ks[k]? =some x):eW (ks.take (k+1))=eW (ks.take k) +gK x/\iz (ks.take (k+1))=max (iz (ks.take k)) (dn x)/\eW (ks.take k) +gK x<=eW ks:=by
 have e:=av h;refine⟨by rw[e,CE,eW,eW];omega,by rw[e,Qx,iz,iz];omega,?_⟩
 conv=>rhs;rw[<-qAs (k+1) ks,CE]
 rw[e,CE,eW,eW];omega
def mA:B:=⟨#[]⟩
def lP(a:List Attr)(n:B):Int:=eX a λx=>decide (x.nm=n)
def zz(a:List Attr)(n:B):Int:=if n=mA then min 0 ((a.length:Int) -1)else lP a n
def qbb(c:UInt8):Bool:=(decide (65<=c.toNat) && decide (c.toNat<=90))||(decide (97<=c.toNat) && decide (c.toNat<=122))||decide (c.toNat=95)
def qwc(c:UInt8):Bool:=qbb c||(decide (48<=c.toNat) && decide (c.toNat<=57))||decide (c.toNat=45)
def Im(s:B):Bool:=decide (1<=s.size/\s.size<=32) && (match s.data.toList with|c::_=>qbb c|[]=>false) && s.data.toList.all qwc
def BE(s:B):Bool:=decide (s.size<=120) && s.data.toList.all λc=>decide (32<=c.toNat/\c.toNat< 127)
def qlW(x:Cond):Bool:=
 if x.op=1 then decide (x.name=mA/\x.arg=mA/\x.val=mA/\x.lab=mA/\x.fold=false) && x.kids.isEmpty else
 if x.op=2 then decide (x.arg=mA/\x.lab=mA) && x.kids.isEmpty else
 if x.op=3 then decide (x.arg=mA/\x.lab=mA/\x.fold=false) && x.kids.isEmpty else
 if x.op=4 then decide (x.val=mA/\x.fold=false) && x.kids.isEmpty else
 if x.op=5 then decide (x.lab=mA/\x.fold=false/\(x.arg=mA->x.val=mA)) && x.kids.isEmpty else
 if x.op=6 then decide (x.name=mA/\x.arg=mA/\x.val=mA/\x.lab=mA/\x.fold=false) && decide (x.kids.length=1)else
 if x.op=7\/x.op=8 then decide (x.name=mA/\x.arg=mA/\x.val=mA/\x.lab=mA/\x.fold=false) && decide (2<=x.kids.length/\x.kids.length<=60)else false
def qk1(a:List Attr)(x:Cond):Bool:=
 if x.op=2 then decide (0<=zz a x.name)else
 if x.op=3 then decide (0<=lP a x.name)else
 if x.op=4 then decide (0<=lP a x.name/\0<=lP a x.arg)else
 if x.op=5 then Im x.name && (decide (x.arg=mA)||Im x.arg)else true
def qkm(s:B):Bool:=s.data.toList.any λc=>decide (c.toNat=124)
def qtS(a:List Attr)(lb:List B)(x:Cond):Bool:=
 if x.op=2 then(ov x.val).isSome else
 if x.op=3 then(match a[(lP a x.name).toNat]? with|some b=>b.st|none=>false) && decide (x.val≠mA) && !qkm x.val && BE x.val else
 if x.op=4 then lb.any λl=>decide (l=x.lab)else
 if x.op=5 then BE x.val else true
def pT(a:List Attr)(lb:List B)(x:Cond):Bool:=qlW x && qk1 a x && qtS a lb x
def rH(a:List Attr)(lb:List B):Nat->Cond->Bool
 | 0=>λ_=>false
 |n+1=>λx=>pT a lb x && x.kids.all (rH a lb n)
def qhZ(a:List Attr)(lb:List B)(x:Cond):Bool:=decide (gK x<=60/\dn x<=20) && rH a lb 20 x
variable {S S0:Nat->Spc}
def ed{X:Type}{l:List X}{k:Nat}(h:k<l.length):∃x,l[k]? =some x:=⟨_,qzR h⟩
def qoL(n:Nat)(x:Cond×Int×Int):Prop:=dn x.1<=n/\0<=x.2.1/\x.2.1+gK x.1<=60/\0<=x.2.2/\x.2.2+dn x.1<=1000/\dn x.1<=60
abbrev U7(n:Nat):Spc:=aL (a3 Cond Int Int) (qoL n) (lL (Y:=Int) (Z:=Int)) λx y=>y=(x.2.1+gK x.1,x.2.2+dn x.1 -1)
abbrev L8:Spc:=aL (a3 Cond Int Int) (λx=>∃n,qoL n x) (lL (Y:=Int) (Z:=Int)) λx y=>y=(x.2.1+gK x.1,x.2.2+dn x.1 -1)
theorem AX(n:Nat)(h1:S cI=U7 n):am lp kI S (a3 Cond Int Int) (qoL (n+1)) (lL (Y:=Int) (Z:=Int)) λx y=>y=(x.2.1+gK x.1,x.2.2+dn x.1 -1):=by
 rintro⟨x,nodes,deep⟩ ⟨hn,h0,h2,h3,h4,h5⟩;simp only at hn h0 h2 h3 h4 h5;have hd1:=G8 x;have hn1:=zo x;simp[lp,kI];refine⟨by simp only[InR];omega,λhkl=>?_⟩;refine ah (X:=Int×Int) [2,17] [] x.kids.length (λk z=>z.1=nodes+1+ (eW (x.kids.take k):Int)/\z.2=deep+ (iz (x.kids.take k):Int)) (λz=>[(1,enc z.1),(8,enc z.2)]) (λ_=>[]) (nodes+1,deep) (by simp[eW,iz]) ?_ ?_
 ·rintro k ⟨m,d⟩ hk ⟨e1,e2⟩;simp only at e1 e2;obtain⟨y,hy⟩:=ed hk;obtain⟨_,hgy⟩:=qzP.1 hy;have hm:=qch hy;have hd:=I5 (qzS hy);have hp:qoL n (y,m,deep+1):=⟨by show dn y<=n;omega,by show 0<=m;omega,by show m+gK y<=60;omega,by show 0<=deep+1;omega,by show deep+1+dn y<=1000;omega,by show dn y<=60;omega⟩
  have hm60:¬60<m:=by have:=zo y;omega
  simp[h1,hk,hy,hgy,hp,hm60];exact⟨by simp only[InR];omega,by omega,by rw[hm.2.1,e2];omega⟩
 ·rintro⟨m,d⟩ ⟨e1,e2⟩;simp only at e1 e2;rw[qz8]at e1 e2;simp;exact⟨by omega,by omega⟩
abbrev Va:Spc:=aL (a1 Cond) (λx=>gK x<=60/\dn x<=60) (enc (X:=Bool)) λ_ y=>y=false
def Fg(h1:S cI=L8):am nA nf S (a1 Cond) (λx=>gK x<=60/\dn x<=60) (enc (X:=Bool)) λ_ y=>y=false:=by
 rintro x ⟨hn,hd⟩;have hp:∃n,qoL n (x,0,1):=⟨dn x,qzX _,qA9 _,by show(0:Int) +gK x<=60;omega,by show(0:Int)<=1;omega,by show(1:Int) +dn x<=1000;omega,hd⟩
 simp[nA,nf,h1,hp,-fB',-eB'];omega
abbrev PK:Spc:=aL (a1 Cond) (λx=>qlW x=true) (enc (X:=Bool)) λ_ y=>y=true
set_option maxHeartbeats 1000000 in
theorem DO:am bw br S (a1 Cond) (λx=>qlW x=true) (enc (X:=Bool)) λ_ y=>y=true:=by
 rintro⟨op,name,arg,val,lab,fold,ks⟩ hx;have hx:qlW ⟨op,name,arg,val,lab,fold,ks⟩=true:=hx;unfold qlW at hx;simp only at hx;split at hx
 ·rename_i e;subst e;simp at hx;obtain⟨⟨rfl,rfl,rfl,rfl,rfl⟩,rfl⟩:=hx;simp[bw,br,mA,-fB',-eB']
 split at hx
 ·rename_i e;subst e;simp at hx;obtain⟨⟨rfl,rfl⟩,rfl⟩:=hx;simp[bw,br,mA,-fB',-eB']
 split at hx
 ·rename_i e;subst e;simp at hx;obtain⟨⟨rfl,rfl,rfl⟩,rfl⟩:=hx;simp[bw,br,mA,-fB',-eB']
 split at hx
 ·rename_i e;subst e;simp at hx;obtain⟨⟨rfl,rfl⟩,rfl⟩:=hx;simp[bw,br,mA,-fB',-eB']
 split at hx
 ·rename_i e;subst e;simp at hx;obtain⟨⟨rfl,rfl,hav⟩,rfl⟩:=hx;by_cases ha:arg=mA
  ·have hv:=hav.resolve_left λh=>h ha
   subst ha;subst hv;simp[bw,br,mA,-fB',-eB']
  ·have ha':¬arg=⟨#[]⟩:=ha;simp[bw,br,mA,ha',-fB',-eB']
 split at hx
 ·rename_i e;subst e;simp at hx;obtain⟨⟨rfl,rfl,rfl,rfl,rfl⟩,hk⟩:=hx;simp[bw,br,mA,hk,-fB',-eB']
 split at hx
 ·rename_i e;simp at hx;obtain⟨⟨rfl,rfl,rfl,rfl,rfl⟩,hk1,hk2⟩:=hx;have q1:(2:Int)<=(ks.length:Int):=by omega
  have q2:(ks.length:Int)<=60:=by omega
  have q3:(ks.length:Int)<=9223372036854775807:=by omega
  rcases e with rfl|rfl<;>simp[bw,br,mA,q1,q2,q3,-fB',-eB']
 ·cases hx
def M5{X:Type}(p:X->Bool):∀l:List X, -1<=eX l p/\eX l p<l.length
 | []=>⟨qA9 _,by simp[eX]⟩
 | x::l=>by
   have:=M5 p l;rw[eX,qAw];split
   ·omega
   ·split<;>omega
open Classical in
noncomputable def aX{Z:Type}(v:Z->List D)(hi:∀z z',v z=v z'->z=z'):fS Z:=⟨λds=>if h:∃z,ds=v z then some h.choose else none,v,λds z h=>by
 split at h
 ·rename_i h';have e:h'.choose=z:=qAa h;rw[<-e,<-h'.choose_spec];exact⟨rfl,λk d d' h1 h2=>by rw[h1]at h2;cases h2;exact .same _⟩
 ·cases h⟩
open Classical in
def Jc{Z:Type}(v:Z->List D)(hi:∀z z',v z=v z'->z=z')(z:Z):(aX v hi).dec (v z)=some z:=by
 have h:∃z',v z=v z':=⟨z,rfl⟩
 show(if h:∃z',v z=v z' then some h.choose else none)=some z;rw[dif_pos h];exact congrArg some (hi _ _ h.choose_spec).symm
def Ha{Z:Type}(v:Z->List D)(hi:∀z z',v z=v z'->z=z')(z:Z):(aX v hi).view z=v z:=rfl
def qbF(x:Attr×B):List D:=[enc x.1, .cptr [enc x.2] 0]
def Uh(z z':Attr×B)(h:qbF z=qbF z'):z=z':=by
 obtain⟨a,s⟩:=z;obtain⟨a',s'⟩:=z';unfold qbF at h;simp only[qAu,D.cptr.injEq,and_true]at h;rw[bK h.1,bK h.2]
noncomputable abbrev qra:fS (Attr×B):=aX qbF Uh
noncomputable abbrev RI:Spc:=aL qra (λ_=>True) (enc (X:=Bool)) λx y=>y=decide (x.1.nm=x.2)
def xE:am gH gA S qra (λ_=>True) (enc (X:=Bool)) λx y=>y=decide (x.1.nm=x.2):=by
 rintro⟨a,s⟩ -;rw[Ha];simp[qbF,gH,gA,-fB',-eB']
abbrev Cx:Spc:=aL (a2 (List Attr) B) (λ_=>True) (enc (X:=Int)) λx y=>y=lP x.1 x.2
def AC(h0:S0 bX=RI)(h1:S eR=YC Attr S0):am jg iL S (a2 (List Attr) B) (λ_=>True) (enc (X:=Int)) λx y=>y=lP x.1 x.2:=by
 rintro⟨a,s⟩ -;have hf:FunOn S0 (.clo bX [.cptr [enc s] 0]) a λx=>decide (x.nm=s):=
  yh (f:=λx=>(x,s)) h0 (λx _=>Jc qbF Uh (x,s)) (λ_ _=>trivial) (λx _ y hy=>hy)
 simp[jg,iL,h1,-fB',-eB'];exact⟨⟨_,hf⟩,λy hy=>hy _ hf⟩
abbrev Ma:Spc:=aL (a2 (List Attr) B) (λx=>x.1.length<=1000) (enc (X:=Int)) λx y=>y=zz x.1 x.2
def Fh(h1:S bT=Cx):am je iK S (a2 (List Attr) B) (λx=>x.1.length<=1000) (enc (X:=Int)) λx y=>y=zz x.1 x.2:=by
 rintro⟨a,s⟩ hl;have hl:a.length<=1000:=hl;have hin:InR .i64 ((a.length:Int) -1):=by simp only[InR];omega
 have hl':(a.length:Int)<=9223372036854775807:=by omega
 by_cases hs:s=mA
 ·subst hs;simp[je,iK,mA,zz,hin,hl',-fB',-eB']
 ·have hs':¬s=⟨#[]⟩:=hs;simp[je,iK,mA,zz,h1,hs',-fB',-eB']
def vM(t:List (List B))(i k:Int):B:=if i< 0\/k< 0 then mA else match t[i.toNat]? with
 |some r=>(match r[k.toNat]? with|some s=>s|none=>mA)
 |none=>mA
abbrev Vf:Spc:=aL (a3 Corpus Int Int) (λx=>x.1.toks.length<=100000/\∀r∈x.1.toks,r.length<=100000) (enc (X:=B)) λx y=>y=vM x.1.toks x.2.1 x.2.2
theorem Fj:am cq cb S (a3 Corpus Int Int) (λx=>x.1.toks.length<=100000/\∀r∈x.1.toks,r.length<=100000) (enc (X:=B)) λx y=>y=vM x.1.toks x.2.1 x.2.2:=by
 rintro⟨c,i,k⟩ ⟨hl,hr⟩;simp only at hl hr;have hl':(c.toks.length:Int)<=9223372036854775807:=by omega
 by_cases h0:i< 0
 ·simp[cq,cb,h0,vM,-fB',-eB'];rfl
 by_cases h1:(c.toks.length:Int)<=i
 ·have hn:c.toks[i.toNat]? =none:=qAm (by omega);by_cases h2:k< 0
  ·simp[cq,cb,h0,h1,h2,hl',vM,-fB',-eB'];rfl
  ·simp[cq,cb,h0,h1,h2,hl',hn,vM,-fB',-eB'];rfl
 by_cases h2:k< 0
 ·simp[cq,cb,h0,h1,h2,hl',vM,-fB',-eB'];rfl
 obtain⟨r,hri⟩:=ed (show i.toNat<c.toks.length by omega);obtain⟨_,hgr⟩:=qzP.1 hri;have hrl:=hr r (qzS hri);have hrl':(r.length:Int)<=9223372036854775807:=by omega
 have i0:0<=i:=by omega
 have i1:i<(c.toks.length:Int):=by omega
 have k0:0<=k:=by omega
 by_cases h3:(r.length:Int)<=k
 ·have hn:r[k.toNat]? =none:=qAm (by omega);simp[cq,cb,h0,h1,h2,h3,hl',hrl',hn,hri,hgr,i0,i1,vM,-fB',-eB'];rfl
 obtain⟨s,hsk⟩:=ed (show k.toNat<r.length by omega);obtain⟨_,hgs⟩:=qzP.1 hsk;have k1:k<(r.length:Int):=by omega
 simp[cq,cb,h0,h1,h2,h3,hl',hrl',hri,hgr,hsk,hgs,i0,i1,k0,k1,vM,-fB',-eB']
abbrev ZU:Spc:=aL (a1 B) (λs=>Im s=true) (enc (X:=Bool)) λ_ y=>y=true
abbrev HU:Spc:=aL (a1 B) (λs=>BE s=true) (enc (X:=Int)) λ_ y=>y=0
abbrev s_sConB:Spc:=aL (a2 B B) (λx=>x.2=⟨#[124]⟩/\BE x.1=true) (enc (X:=Bool)) λx y=>y=qkm x.1
abbrev qex:Spc:=aL (a1 B) (λs=>∃r,ov s=some r) (enc (X:=Int)) λ_ y=>y=0
def Ap(l:List B)(s:B):Bool:=l.any λz=>decide (z=s)
abbrev YA:Spc:=aL (a2 (List B) B) (λ_=>True) (enc (X:=Bool)) λx y=>y=Ap x.1 x.2
abbrev RD:Spc:=aL (a2 (List B) B) (λ_=>True) (enc (X:=Int)) λx y=>y=eX x.1 λz=>decide (z=x.2)
theorem Lu:am iU iB S (a2 (List B) B) (λ_=>True) (enc (X:=Int)) λx y=>y=eX x.1 λz=>decide (z=x.2):=by
 rintro⟨l,s⟩ -;simp[iU,iB,-fB',-eB'];intro _;refine ah (X:=Unit) [0,1] [] l.length (λk _=>∀x∈l.take k,decide (x=s)=false) (λ_=>[]) (λ_=>[]) () (by simp) ?_ ?_
 ·intro k _ hk hP;obtain⟨x,hx⟩:=ed hk;obtain⟨_,hgx⟩:=qzP.1 hx;simp[hk,hx,hgx,-fB',-eB'];refine⟨λh=>?_,λh=>?_⟩
  ·exact(tG hx (by simp[h]) hP).symm
  ·rw[av hx];intro z hz;rcases qzZ.1 hz with hz|hz
   ·have:=hP z hz;simpa using this
   ·simp at hz;subst hz;exactλe=>h e.symm
 ·intro _ hP;simp[-fB',-eB'];exact(lH (by simpa using hP)).symm
def Fm(h1:S dJ=RD):am cF cD S (a2 (List B) B) (λ_=>True) (enc (X:=Bool)) λx y=>y=Ap x.1 x.2:=by
 rintro⟨l,s⟩ -;simp[cF,cD,h1,-fB',-eB'];exact zw _ l
abbrev U6:Spc:=aL (a2 Cond (List Attr)) (λx=>qk1 x.2 x.1=true/\x.2.length<=1000) (enc (X:=Bool)) λ_ y=>y=true
theorem Fe(h1:S kj=Ma)(h2:S bT=Cx)(h3:S bJ=ZU):am cp ca S (a2 Cond (List Attr)) (λx=>qk1 x.2 x.1=true/\x.2.length<=1000) (enc (X:=Bool)) λ_ y=>y=true:=by
 rintro⟨⟨op,name,arg,val,lab,fold,ks⟩,a⟩ ⟨hx,hl⟩;have hx:qk1 a ⟨op,name,arg,val,lab,fold,ks⟩=true:=hx;have hl:a.length<=1000:=hl;unfold qk1 at hx;simp only at hx;split at hx
 ·rename_i e;subst e;simp at hx;simp[cp,ca,h1,hl,hx,-fB',-eB']
 rename_i e2;split at hx
 ·rename_i e;subst e;simp at hx;simp[cp,ca,h2,hx,-fB',-eB']
 rename_i e3;split at hx
 ·rename_i e;subst e;simp at hx;simp[cp,ca,h2,hx.1,hx.2,-fB',-eB']
 rename_i e4;split at hx
 ·rename_i e;subst e;simp at hx;obtain⟨hn,ha⟩:=hx;by_cases hae:arg=mA
  ·subst hae;simp[cp,ca,h3,hn,mA,-fB',-eB']
  ·have ha':=ha.resolve_left hae;have hae':¬arg=⟨#[]⟩:=hae;simp[cp,ca,h3,hn,ha',hae',-fB',-eB']
 rename_i e5;simp[cp,ca,e2,e3,e4,e5,-fB',-eB']
abbrev Ve:Spc:=aL (a3 Cond (List Attr) (List B)) (λx=>pT x.2.1 x.2.2 x.1=true/\x.2.1.length<=1000) (enc (X:=Int)) λ_ y=>y=0
theorem Fi(h1:S pk=PK)(h2:S pm=U6)(h3:S rq=qex)(h4:S bT=Cx)(h5:S uK=s_sConB)(h6:S cH=HU)(h7:S aZ=YA):
 am de db S (a3 Cond (List Attr) (List B)) (λx=>pT x.2.1 x.2.2 x.1=true/\x.2.1.length<=1000) (enc (X:=Int)) λ_ y=>y=0:=by
 rintro⟨x,a,lb⟩ ⟨hx,hl⟩;have hx:pT a lb x=true:=hx;have hl:a.length<=1000:=hl;unfold pT at hx;simp only[qzT]at hx;obtain⟨⟨hs,hn⟩,hc⟩:=hx;obtain⟨op,name,arg,val,lab,fold,ks⟩:=x;unfold qtS at hc;simp only at hc;have e:(Cond.mk op name arg val lab fold ks)=⟨op,name,arg,val,lab,fold,ks⟩:=rfl;split at hc
 ·rename_i e;subst e;obtain⟨r,hr⟩:=qAQ.1 hc;simp[de,db,h1,h2,h3,hs,hn,hl,hr,-fB',-eB']
 rename_i e2;split at hc
 ·rename_i e;subst e;simp only[qzT]at hc;obtain⟨⟨⟨c1,c2⟩,c3⟩,c4⟩:=hc;have hn':0<=lP a name:=by simpa [qk1]using hn
  have hrg:=(M5 (λx:Attr=>decide (x.nm=name)) a).2;have hlt:lP a name<a.length:=hrg;obtain⟨b,hb⟩:=ed (show(lP a name).toNat<a.length by omega);obtain⟨_,hgb⟩:=qzP.1 hb;rw[hb]at c1;have c1:b.st=true:=c1;have c2:¬val=⟨#[]⟩:=of_decide_eq_true c2;have c3:qkm val=false:=by simpa using c3
  simp[de,db,h1,h2,h4,h5,h6,hs,hn,hl,hn',hlt,hb,hgb,c1,c2,c3,c4,-fB',-eB']
 rename_i e3;split at hc
 ·rename_i e;subst e;have hc:Ap lb lab=true:=hc;simp[de,db,h1,h2,h7,hs,hn,hl,hc,-fB',-eB']
 rename_i e4;split at hc
 ·rename_i e;subst e;simp[de,db,h1,h2,h6,hs,hn,hl,hc,-fB',-eB']
 rename_i e5;simp[de,db,h1,h2,hs,hn,hl,e2,e3,e4,e5,-fB',-eB']
end Go.Gv
namespace Go.Gv
open Go.Proofs
def pE:CC:=oX [oB 2 (.mv (.const ob))] [0] [] (oX [oA 3 0,oB 4 (.cmp .geq (oT 3) (.const (.int .u8 65))),oA 5 4,oH 6 5 (.mv (oT 0)),oH 7 5 (.cmp .leq (oT 6) (.const (.int .u8 90))),oB 8 (.pick (oT 5) (oT 7) (.const ob)),oA 9 8,oI 10 9 (.mv (oT 0)),oI 11 9 (.cmp .geq (oT 10) (.const (.int .u8 97))),oI 12 9 (.mv (oT 11)),oH 13 12 (.mv (oT 0)),
 oH 14 12 (.cmp .leq (oT 13) (.const (.int .u8 122))),oI 15 9 (.pick (oT 12) (oT 14) (.const ob)),oB 16 (.pick (oT 9) (.const (.bool true)) (oT 15)),oA 17 16,oI 18 17 (.mv (oT 0)),oI 19 17 (.eql false false [.int] (oT 18) (.const (.int .u8 95))),oB 20 (.pick (oT 17) (.const (.bool true)) (oT 19)),oA 2 20] [2] [] (.ret))
def oc:List ak:=[.tmp 2]
def pD:CC:=oX [oB 2 (.mv (.const ob))] [0] [] (oX [oA 3 0,oZ 4 cv [oT 3],oA 5 4,oI 6 5 (.mv (oT 0)),oI 7 5 (.cmp .geq (oT 6) (.const (.int .u8 48))),oI 8 5 (.mv (oT 7)),oH 9 8 (.mv (oT 0)),oH 10 8 (.cmp .leq (oT 9) (.const (.int .u8 57))),oI 11 5 (.pick (oT 8) (oT 10) (.const ob)),oB 12 (.pick (oT 5) (.const (.bool true)) (oT 11)),oA 13 12,
 oI 14 13 (.mv (oT 0)),oI 15 13 (.eql false false [.int] (oT 14) (.const (.int .u8 45))),oB 16 (.pick (oT 13) (.const (.bool true)) (oT 15)),oA 2 16] [2] [] (.ret))
def oa:List ak:=[.tmp 2]
def lj:CC:=oX [oB 2 (.mv (.const ob))] [0] [] (.seq (oX [oA 4 0,oB 5 (.slen (oT 4)),oB 6 (.cmp .lss (oT 5) (oN 1)),oA 7 6,oI 8 7 (.mv (oT 0)),oI 9 7 (.slen (oT 8)),oI 10 7 (.cmp .gtr (oT 9) (oN 32)),oB 11 (.pick (oT 7) (.const (.bool true)) (oT 10)),oA 12 11,oI 13 12 (.mv (oT 0)),oI 14 12 (.sidx (oT 13) (oN 0)),oI 15 12 (.call cv [oT 14]),
 oI 16 12 (.not (oT 15)),oB 17 (.pick (oT 12) (.const (.bool true)) (oT 16))] [0,17] [] (.ite (oT 17) (oX [oB 2 (.mv (.const ob))] [2] [] (.ret)) (.skip))) (.keep [0] [] (.seq (oX [oA 18 0,oB 19 (.slen (oT 18)),oB 20 (.mv (oN 0))] [0,19,20] [] (fF 0 20 19 21 1 (oX [oA 22 20,oA 3 22] [0,3,19,20] [] (oX [oA 23 0,oA 24 3,oB 25 (.sidx (oT 23) (oT 24)),oZ 26 eU [oT 25],
 oB 27 (.not (oT 26))] [0,19,20,27] [] (.ite (oT 27) (oX [oB 2 (.mv (.const ob))] [2] [] (.ret)) (.skip)))) 28)) (.keep [] [] (oX [oB 2 (.mv (.const (.bool true)))] [2] [] (.ret))))))
def kF:List ak:=[.tmp 2]
def li:CC:=gq Tryz.f180 [] {} _
def kE:List ak:=[.tmp 2]
def Bv:FO cH [] li kE 24:=fo
def mr:CC:=gq Tryz.f193 [] {} _
def lT:List ak:=[.tmp 4]
def C0:FO nk [] mr lT 17:=fo
def vC:CC:=gq Tryz.f133 [] {} _
def uA:List ak:=[.tmp 4]
def MK:FO wZ [] vC uA 19:=fo
def cA:CC:=gq Tryz.f192 [] {} _
def cw:List ak:=[.tmp 2, .tmp 3]
def Ij:FO sH [] cA cw 71:=fo
open Cod (enc dec)
variable {S S0:Nat->Spc}
def Tg(c:Int):Bool:=(decide (65<=c) && decide (c<=90))||(decide (97<=c) && decide (c<=122))||decide (c=95)
def qoo(c:Int):Bool:=Tg c||(decide (48<=c) && decide (c<=57))||decide (c=45)
abbrev qeD:Spc:=aL (a1 U8) (λ_=>True) (enc (X:=Bool)) λc y=>y=Tg c.val
def Hz:am pE oc S (a1 U8) (λ_=>True) (enc (X:=Bool)) λc y=>y=Tg c.val:=by
 rintro⟨c⟩ -;by_cases h1:(65:Int)<=c<;>by_cases h2:c<=90<;>by_cases h3:(97:Int)<=c<;>by_cases h4:c<=122<;>by_cases h5:c=95<;>
  simp[pE,oc,Tg,h1,h2,h3,h4,h5,-fB',-eB']
abbrev PI:Spc:=aL (a1 U8) (λ_=>True) (enc (X:=Bool)) λc y=>y=qoo c.val
def Hy(h0:S cv=qeD):am pD oa S (a1 U8) (λ_=>True) (enc (X:=Bool)) λc y=>y=qoo c.val:=by
 rintro⟨c⟩ -;cases hb:Tg c<;>by_cases h1:(48:Int)<=c<;>by_cases h2:c<=57<;>by_cases h3:c=45<;>
  simp[pD,oa,qoo,h0,hb,h1,h2,h3,-fB',-eB']
def qhf(c:UInt8):qbb c=Tg (c.toNat:Int):=by
 unfold qbb Tg;rw[qAz];simp;omega
def qp6(c:UInt8):qwc c=qoo (c.toNat:Int):=by
 unfold qwc qoo;rw[qhf];cases Tg (c.toNat:Int)
 ·rw[qAz];simp;omega
 ·simp
theorem CV(h1:S cv=qeD)(h2:S eU=PI):am lj kF S (a1 B) (λs=>Im s=true) (enc (X:=Bool)) λ_ y=>y=true:=by
 rintro s hs;have hs:Im s=true:=hs;unfold Im at hs;simp only[qzT,decide_eq_true_eq]at hs;obtain⟨⟨⟨q1,q2⟩,q3⟩,q4⟩:=hs;simp[lj,kF,h1,h2,-fB',-eB'];have r1:(1:Int)<=(s.size:Int):=by omega
 have r2:(s.size:Int)<=32:=by omega
 have r3:(s.size:Int)<=9223372036854775807:=by omega
 have hsl:s.data.toList.length=s.size:=qAc;refineλ_=>⟨λ_ _=>⟨λ_=>⟨by omega,λc hc=>?_⟩,r2⟩,r1⟩
 have hc':s.data.toList[0]? =some c:=by rw[qAg];exact hc
 have hb:Tg (c.toNat:Int)=true:=by
  rw[<-qhf];cases hl:s.data.toList with
  |nil=>rw[hl]at hc';cases hc'
  | cons d l=>
    rw[hl]at hc' q3;cases hc';exact q3
 refine⟨hb,λ_ _=>?_⟩;refine ah (X:=Unit) [0] [] s.size (λ_ _=>True) (λ_=>[]) (λ_=>[]) () trivial ?_ ?_
 ·rintro k -hk -;obtain⟨d,hd⟩:=ed (show k<s.data.toList.length by omega);have hg:qoo (d.toNat:Int)=true:=by rw[<-qp6];exact qzY.1 q4 d (qzS hd)
  have hd':s.data[k]? =some d:=by rw[<-qAg];exact hd
  obtain⟨_,hgd⟩:=qzW.1 hd';simp[hk,hd',hgd,hg,h2,-fB',-eB']
 ·rintro - -;simp[-fB',-eB']
theorem CU(h1:S pq=s_cpVal):am li kE S (a1 B) (λs=>BE s=true) (enc (X:=Int)) λ_ y=>y=0:=by
 rintro s hs;have hs:BE s=true:=hs;unfold BE at hs;simp only[qzT,decide_eq_true_eq]at hs;obtain⟨q1,q2⟩:=hs;have ha:Af s=true:=by
  unfold Af;refine qzY.2 λc hc=>?_
  have:=qzY.1 q2 c hc;simp at this;simp;omega
 have r1:(s.size:Int)<=120:=by omega
 have r2:(s.size:Int)<=9223372036854775807:=by omega
 have r3:s.size<=1000:=by omega
 have r4:¬(120:Int)<(s.size:Int):=by omega
 simp[li,kE,h1,ha,r1,r2,r3,r4,-fB',-eB'];intro b;refine ay (X:=Nat) [] [] (λp=>p<=s.size) (λp=>[(14, .bptr 14 b 0)]) (λp=>[(14, .iter b s p)]) (λp=>s.size -p) 0 (qAk _) ?_;rintro p hp;by_cases hlt:p<s.size
 ·obtain⟨c,hc,hc128,hdec⟩:=Qz ha hlt;have hcm:=qzY.1 q2 c (qzS hc);simp at hcm;have n1:¬(c.toNat:Int)<=31:=by omega
  have n2:¬(c.toNat:Int)=127:=by omega
  simp[hlt,hdec,n1,n2,-fB',-eB'];exact⟨p+1,by omega, .inl rfl,by omega⟩
 ·have hpe:p=s.size:=by omega
  subst hpe;simp[-fB',-eB']
def qkG(x:Cond×List Attr×List B):List D:=[enc x.1, .cptr [enc x.2.1] 0, .cptr [enc x.2.2] 0]
def ZN(z z':Cond×List Attr×List B)(h:qkG z=qkG z'):z=z':=by
 obtain⟨a,s,l⟩:=z;obtain⟨a',s',l'⟩:=z';unfold qkG at h;simp only[qAu,D.cptr.injEq,and_true]at h;rw[bK h.1,bK h.2.1,bK h.2.2]
noncomputable abbrev aVd:fS (Cond×List Attr×List B):=aX qkG ZN
@[simp] theorem qrJ(x:Cond)(a:List Attr)(lb:List B):aVd.dec [.agg [.v (.int .i64 x.op), .v (.string x.name), .v (.string x.arg), .v (.string x.val), .v (.string x.lab), .v (.bool x.fold), .list 7 (x.kids.map enc)], .cptr [.list 2 (a.map enc)] 0, .cptr [.list 1 (lb.map enc)] 0]=some (x,a,lb):=by
 have h:=Jc qkG ZN (x,a,lb);have e:qkG (x,a,lb)=[.agg [.v (.int .i64 x.op), .v (.string x.name), .v (.string x.arg), .v (.string x.val), .v (.string x.lab), .v (.bool x.fold), .list 7 (x.kids.map enc)], .cptr [.list 2 (a.map enc)] 0, .cptr [.list 1 (lb.map enc)] 0]:=by simp[qkG]
 rw[<-e];exact h
noncomputable abbrev qab:Spc:=aL aVd (λx=>pT x.2.1 x.2.2 x.1=true/\x.2.1.length<=1000) (enc (X:=Int)) λ_ y=>y=0
def yv(h1:S pn=Ve):am iq gW S aVd (λx=>pT x.2.1 x.2.2 x.1=true/\x.2.1.length<=1000) (enc (X:=Int)) λ_ y=>y=0:=by
 rintro⟨x,a,lb⟩ ⟨hx,hl⟩;simp only at hx hl;rw[Ha];simp[qkG,iq,gW,h1,hx,hl,-fB',-eB']
def qrg(n:Nat)(x:Cond×D×Unit):Prop:=∃(a:List Attr) (lb:List B),x.2.1= .clo cz [.cptr [enc a] 0, .cptr [enc lb] 0]/\rH a lb n x.1=true/\a.length<=1000/\gK x.1<=60
noncomputable abbrev U3(n:Nat):Spc:=aL (aE Cond (aD a0)) (qrg n) (enc (X:=Int)) λx y=>y=0
noncomputable abbrev U2:Spc:=aL (aE Cond (aD a0)) (λx=>∃n,qrg n x) (enc (X:=Int)) λx y=>y=0
theorem Fd(n:Nat)(h1:S cz=qab)(h2:S ib=U3 n):am pM ot S (aE Cond (aD a0)) (qrg (n+1)) (enc (X:=Int)) λx y=>y=0:=by
 rintro⟨x,d,⟨⟩⟩ ⟨a,lb,hd,hx,hl,hn⟩;simp only at hd hx hn;subst hd;simp only[rH,qzT]at hx;obtain⟨hx1,hx2⟩:=hx;simp[pM,ot,h1,hx1,hl,-fB',-eB'];intro hkl;refine ah (X:=Unit) [1,16] [] x.kids.length (λk _=>True) (λ_=>[]) (λ_=>[]) () (by simp) ?_ ?_
 ·rintro k -hk -;obtain⟨y,hy⟩:=ed hk;obtain⟨_,hgy⟩:=qzP.1 hy;have hm:=qzS hy;have hny:=Io hm;have hnx:=zo x;have hp:qrg n (y, .clo cz [.cptr [.list 2 (a.map enc)] 0, .cptr [.list 1 (lb.map enc)] 0],()):=⟨a,lb,rfl,qzY.1 hx2 y hm,hl,by show gK y<=60;omega⟩
  simp[h2,hk,hy,hgy,hp,-fB',-eB']
 ·rintro - -;simp[-fB',-eB']
abbrev Tt(x:Cond×List Attr×List B):Prop:=qhZ x.2.1 x.2.2 x.1=true/\x.2.1.length<=1000
abbrev RH:Spc:=aL (a3 Cond (List Attr) (List B)) Tt (enc (X:=Int)) λ_ y=>y=0
def AY(h1:S cI=L8)(h2:S ib=U2):am jP jD S (a3 Cond (List Attr) (List B)) Tt (enc (X:=Int)) λ_ y=>y=0:=by
 rintro⟨x,a,lb⟩ ⟨hx,hl⟩;simp only at hx hl;unfold qhZ at hx;simp at hx;obtain⟨⟨hn,hd⟩,ha⟩:=hx;have hp:∃n,qoL n (x,0,1):=⟨dn x,qzX _,qA9 _,by show(0:Int) +gK x<=60;omega,by show(0:Int)<=1;omega,by show(1:Int) +dn x<=1000;omega,by show dn x<=60;omega⟩
 have hw:∃n,qrg n (x, .clo cz [.cptr [.list 2 (a.map enc)] 0, .cptr [.list 1 (lb.map enc)] 0],()):=⟨20,a,lb,rfl,ha,hl,hn⟩
 have q1:¬(60:Int)<(gK x:Int):=by omega
 have q2:¬(20:Int)< 1+ (dn x:Int) -1:=by omega
 simp[jP,jD,h1,h2,hp,hw,q1,q2,-fB',-eB']
def qfW(l:List Pair)(s:Pair):Bool:=l.any λz=>decide (z=s)
abbrev Z1:Spc:=aL (a2 (List Pair) Pair) (λ_=>True) (enc (X:=Int)) λx y=>y=eX x.1 λz=>decide (z=x.2)
abbrev Z6:Spc:=aL (a2 (List Pair) Pair) (λ_=>True) (enc (X:=Bool)) λx y=>y=qfW x.1 x.2
theorem Q6:am kZ kA S (a2 (List Pair) Pair) (λ_=>True) (enc (X:=Int)) λx y=>y=eX x.1 λz=>decide (z=x.2):=by
 rintro⟨l,s⟩ -;simp[kZ,kA,-fB',-eB'];intro _;refine ah (X:=Unit) [0,3] [] l.length (λk _=>∀x∈l.take k,decide (x=s)=false) (λ_=>[]) (λ_=>[]) () (by simp) ?_ ?_
 ·intro k _ hk hP;obtain⟨x,hx⟩:=ed hk;obtain⟨_,hgx⟩:=qzP.1 hx;simp[hk,hx,hgx,-fB',-eB'];have hpe:s.nm=x.nm->s.vl=x.vl->x=s:=λh1 h2=>by
   obtain⟨a,b⟩:=x;obtain⟨a',b'⟩:=s;simp only at h1 h2;rw[h1,h2]
  refine⟨λh1 h2=>(tG hx (by simp[hpe h1 h2]) hP).symm,λh=>?_⟩;rw[av hx];intro z hz;rcases qzZ.1 hz with hz|hz
  ·have:=hP z hz;simpa using this
  ·simp at hz;subst hz;intro e;subst e;exact h rfl rfl
 ·intro _ hP;simp[-fB',-eB'];exact(lH (by simpa using hP)).symm
def J3(h1:S lZ=Z1):am ig gQ S (a2 (List Pair) Pair) (λ_=>True) (enc (X:=Bool)) λx y=>y=qfW x.1 x.2:=by
 rintro⟨l,s⟩ -;simp[ig,gQ,h1,-fB',-eB'];exact zw _ l
def Mk(x:Cond)(tok:Int)(r:Region):Bool:=decide (r.ty=x.name) && decide (r.b<=tok) && decide (tok<r.e) && (decide (x.arg=mA)||qfW r.kv ⟨x.arg,x.val⟩)
def qdm(x:Cond):List D:=[.v (.int .i64 x.op), .v (.string x.name), .v (.string x.arg), .v (.string x.val), .v (.string x.lab), .v (.bool x.fold), .list 7 (x.kids.map enc)]
def qa8(x:Cond): .agg (qdm x)=enc x:=by simp[qdm]
def qkd{x y:Cond}(h:qdm x=qdm y):x=y:=bK (by rw[<-qa8,<-qa8,h])
def qhV(x:Region×Cond×Int):List D:=[enc x.1, .cptr (qdm x.2.1) 0, .cptr [enc x.2.2] 0]
def ZO(z z':Region×Cond×Int)(h:qhV z=qhV z'):z=z':=by
 obtain⟨a,s,l⟩:=z;obtain⟨a',s',l'⟩:=z';unfold qhV at h;simp only[qAu,D.cptr.injEq,and_true]at h;rw[bK h.1,qkd h.2.1,bK h.2.2]
noncomputable abbrev qyX:fS (Region×Cond×Int):=aX qhV ZO
noncomputable abbrev FX:Spc:=aL qyX (λ_=>True) (enc (X:=Bool)) λx y=>y=Mk x.2.1 x.2.2 x.1
def AW(h1:S iP=Z6):am bV bS S qyX (λ_=>True) (enc (X:=Bool)) λx y=>y=Mk x.2.1 x.2.2 x.1:=by
 rintro⟨r,x,tok⟩ -;rw[Ha];by_cases e1:r.ty=x.name
 rotate_left
 ·simp[qhV,qdm,bV,bS,Mk,e1,-fB',-eB']
 by_cases e2:r.b<=tok
 rotate_left
 ·simp[qhV,qdm,bV,bS,Mk,e1,e2,-fB',-eB']
 by_cases e3:tok<r.e
 rotate_left
 ·simp[qhV,qdm,bV,bS,Mk,e1,e2,e3,-fB',-eB']
 by_cases e4:x.arg=mA
 ·have e4':x.arg=⟨#[]⟩:=e4;simp[qhV,qdm,bV,bS,Mk,e1,e2,e3,e4,e4',mA,-fB',-eB']
 ·have e4':¬x.arg=⟨#[]⟩:=e4;simp[qhV,qdm,bV,bS,Mk,h1,e1,e2,e3,e4,e4',-fB',-eB']
abbrev qez:Spc:=aL (a3 Corpus Cond Int) (λ_=>True) (enc (X:=Bool)) λx y=>y=x.1.regs.any (Mk x.2.1 x.2.2)
def DP(h0:S0 ck=FX)(h1:S eT=qbW Region S0):am mu lV S (a3 Corpus Cond Int) (λ_=>True) (enc (X:=Bool)) λx y=>y=x.1.regs.any (Mk x.2.1 x.2.2):=by
 rintro⟨c,x,tok⟩ -;have hf:FunOn S0 (.clo ck [.cptr (qdm x) 0, .cptr [enc tok] 0]) c.regs (Mk x tok):=
  yh (f:=λr=>(r,x,tok)) h0 (λr _=>Jc qhV ZO (r,x,tok)) (λ_ _=>trivial) (λr _ y hy=>hy)
 unfold qdm at hf;simp[mu,lV,h1,-fB',-eB'];exact⟨⟨_,hf⟩,λy hy=>hy _ hf⟩
mutual
def tC:Cond->Bool| .mk op _ _ _ _ _ ks=>decide (op=4)||US ks
def US:List Cond->Bool|[]=>false|k::ks=>tC k||US ks
end
def Px:∀l:List Cond,US l=l.any tC
 | []=>by rw[US];rfl
 |k::l=>by rw[US,Px l];rfl
def Rv(x:Cond):tC x=(decide (x.op=4)||x.kids.any tC):=by cases x;rw[tC,Px]
abbrev FW(n:Nat):Spc:=aL (a1 Cond) (λx=>dn x<=n) (enc (X:=Bool)) λx y=>y=tC x
def HG(n:Nat)(h0:S0 bF=FW n)(h1:S bE=qbW Cond S0):am ko jX S (a1 Cond) (λx=>dn x<=n+1) (enc (X:=Bool)) λx y=>y=tC x:=by
 rintro x hd;have hd:dn x<=n+1:=hd;have hf:FunOn S0 (.clo bF []) x.kids tC:=
  yh (f:=λk=>k) h0 (λk _=>by rw[qnF,Cod.dec_enc]) (λk hk=>by have:=NL hk;show dn k<=n;omega) (λr _ y hy=>hy)
 have hsc:=Rv x;by_cases e:x.op=4
 ·simp[ko,jX,h1,hsc,e,-fB',-eB']
 ·simp[ko,jX,h1,hsc,e,-fB',-eB'];exact⟨⟨_,hf⟩,λy hy=>hy _ hf⟩
end Go.Gv
namespace Go.Gv
open Cod (enc dec)
variable {dq:Prop}
@[simp] theorem qwv(s:Rp):Rp.mk s.s s.pos s.fault s.e=s:=by cases s;rfl
def sJ(s:Rp):List D:=[enc s.s,enc s.pos,enc s.fault,enc s.e]
@[simp] theorem qtU(s:Rp):sJ s=[enc s.s,enc s.pos,enc s.fault,enc s.e]:=i' rfl
section
variable {Y Z:Type}
def ql1:Pk Rp:=qc6 sJ
def qu6(A:fS Z)(er:Y->D)(pre:Rp->Z->Prop)(post:Rp->Z->Rp->Y->Prop):Spc:=qqY ql1 A er pre post
def qx0(er:Y->D)(pre:Rp->Z->Prop)(post:Rp->Z->Rp->Y->Prop)(id b:Nat)(r:Option Res)(o:Option Z)(H:ab)(K:D->ab->Prop):Prop:=
 ∃x,r=some (.box b (sJ x))/\gX o λz=>pre x z/\∀x' y,post x z x' y->K (er y) (ai H id (some (.box b (sJ x'))))
def qha{x y:Rp}(h:sJ x=sJ y):x=y:=by
 obtain⟨l,a,d,e⟩:=x;obtain⟨l',a',d',e'⟩:=y;simp only[sJ,qAu]at h;obtain⟨h1,h2,h3,h4,_⟩:=h;have h1:=bK h1;have h2:=bK h2;have h3:=bK h3;have h4:=bK h4;subst h1;subst h2;subst h3;subst h4;rfl
@[simp] theorem ql0(A:fS Z)(er:Y->D)(pre:Rp->Z->Prop)(post:Rp->Z->Rp->Y->Prop)(d i b:Nat)(ds:List D)(H:ab)(K:D->ab->Prop):(qu6 A er pre post).pt d (.bptr i b 0::ds) H K=qx0 er pre post i b (H i) (A.dec ds) H K:=by
 refine propext ⟨λh=>?_,λh=>?_⟩
 ·obtain⟨id,b',x,z,ds',h1,h2,h3,h4,h5,h6,h7⟩:=h;cases h1;refine⟨x,h3,?_⟩;rw[h2];exact⟨h6,h7⟩
 ·obtain⟨x,h1,h2⟩:=h;cases hz:A.dec ds with
  |none=>rw[hz]at h2;exact h2.elim
  |some z=>rw[hz]at h2;exact⟨i,b,x,z,ds,rfl,hz,h1,λp hp=>by simp[ql1,qc6]at hp,by simp[ql1,qc6],h2.1,h2.2⟩
def Hh(er:Y->D)(b:Nat)(post:Rp->Y->Prop)(r:D)(H:ab):Prop:=QC ql1 er b post r H
def GE{er:Y->D}{b:Nat}{post:Rp->Y->Prop}{r:D}{H:ab}(x:Rp)(y:Y)(hr:FrzTo (λi=>if i=0 then none else H i) r (er y))(h0:H 0=some (.box b (sJ x)))(hq:post x y):Hh er b post r H:=
 ⟨x,y,by simpa [ql1,qc6]using hr,h0,λp hp=>by simp[ql1,qc6]at hp,hq⟩
def vH(cc:CC)(rs:List ak)(S:Nat->Spc)(A:fS Z)(er:Y->D)(pre:Rp->Z->Prop)(post:Rp->Z->Rp->Y->Prop):Prop:=
 ∀b x z,pre x z->vc S cc (vQ rs λr H'=>Hh er b (post x z) r H') (dC (.bptr 0 b 0::A.view z)) (ai da 0 (some (.box b (sJ x))))
variable {P:Program}{S:Nat->Spc}{f:Nat}{im:List Nat}{cc:CC}{rs:List ak}{N:Nat}
def Yh{A:fS Z}{er:Y->D}{pre:Rp->Z->Prop}{post:Rp->Z->Rp->Y->Prop}(hS:∀f,Tri dq P f (S f).pt)(h:Ah P f im cc rs N)(hN:∀z,(A.view z).length+1<=N)(hw:vH cc rs S A er pre post):Tri dq P f (qu6 A er pre post).pt:=
 DY (by simp[ql1,qc6]) hS h hN λb x z hp=>hw b x z hp
end
section
variable {Y Z:Type}
def qdj(A:fS Z)(er:Y->D)(F:Rp->Z->Option (Rp×Y)):Spc:=qu6 A er (λs z=>∃r,F s z=some r) (λs z s' y=>F s z=some (s',y))
def qeN(er:Y->D)(F:Rp->Z->Option (Rp×Y))(id b:Nat)(r:Option Res)(o:Option Z)(H:ab)(K:D->ab->Prop):Prop:=
 ∃x,r=some (.box b (sJ x))/\gX o λz=>gX (F x z) λq=>K (er q.2) (ai H id (some (.box b (sJ q.1))))
@[congr] theorem qr0{er:Y->D}{F:Rp->Z->Option (Rp×Y)}{id b:Nat}{r r':Option Res}{o o':Option Z}{H:ab}{K:D->ab->Prop}(h1:r=r')(h2:o=o'):qeN er F id b r o H K=qeN er F id b r' o' H K:=by subst h1;subst h2;rfl
def qml{F:Option (Rp×Y)}{k:Rp->Y->Prop} :((∃r,F=some r)/\∀x' y,F=some (x',y)->k x' y)=gX F λq=>k q.1 q.2:=by
 cases F with
 | none=>
   refine propext (Iff.intro (λh=>?_) (λh=>?_))
   ·obtain⟨⟨r,h⟩,_⟩:=h;cases h
   ·exact False.elim h
 | some r=>
   refine propext (Iff.intro (λh=>h.2 _ _ rfl) (λh=>⟨⟨_,rfl⟩,λx' y e=>?_⟩));cases e;exact h
@[simp] theorem qu4(A:fS Z)(er:Y->D)(F:Rp->Z->Option (Rp×Y))(d i b:Nat)(ds:List D)(H:ab)(K:D->ab->Prop):(qdj A er F).pt d (.bptr i b 0::ds) H K=qeN er F i b (H i) (A.dec ds) H K:=by
 unfold qdj qeN;rw[ql0];unfold qx0;refine propext (exists_congr λx=>and_congr_right λ_=>?_);cases A.dec ds with
 |none=>exact qAS
 |some z=>exact iff_of_eq qml
@[simp] theorem qu5(er:Y->D)(F:Rp->Z->Option (Rp×Y))(id b:Nat)(l:B)(p dp e:Int)(o:Option Z)(H:ab)(K:D->ab->Prop):
 qeN er F id b (some (.box b [.v (.string l), .v (.int .i64 p), .v (.int .i64 dp), .v (.int .i64 e)])) o H K=gX o λz=>gX (F ⟨l,p,dp,e⟩ z) λq=>K (er q.2) (ai H id (some (.box b (sJ q.1)))):=by
 refine propext ⟨λ⟨x,h1,h2⟩=>?_,λh=>⟨⟨l,p,dp,e⟩,rfl,h⟩⟩;have e1:sJ ⟨l,p,dp,e⟩=sJ x:=by
  have:=qAa h1;exact(Res.box.inj this).2
 have:=qha e1;subst this;exact h2
variable {P:Program}{S:Nat->Spc}{f:Nat}{im:List Nat}{cc:CC}{rs:List ak}{N:Nat}
def fT{A:fS Z}{er:Y->D}{F:Rp->Z->Option (Rp×Y)}(hS:∀f,Tri dq P f (S f).pt)(h:Ah P f im cc rs N)(hN:∀z,(A.view z).length+1<=N)
 (hw:vH cc rs S A er (λs z=>∃r,F s z=some r) (λs z s' y=>F s z=some (s',y))):Tri dq P f (qdj A er F).pt:=Yh hS h hN hw
end
end Go.Gv
namespace Go.Gv
open Go.Proofs
def gk:CC:=gq Tryz.f286 [] { ke:=[0] } _
def fU:List ak:=[.tmp 2]
def Bp:FO bA [] gk fU 29:=fo
def ld:CC:=gq Tryz.f333 [] { bx:=[0] } _
def kC:List ak:=[]
def Bo:FO me [] ld kC 25:=fo
def fN:CC:=gq Tryz.f325 [] { bx:=[0] } _
def fH:List ak:=[.tmp 4, .tmp 5]
def vS:FO ei [] fN fH 37:=fo
def iY:CC:=gq Tryz.f329 [] { bx:=[0] } _
def iF:List ak:=[.tmp 2, .tmp 3]
def zg:FO jH [] iY iF 27:=fo
def zM:CC:=gq Tryz.f322 [] {} _
def yF:List ak:=[.cell 4 true 5]
def RY:FO BL [] zM yF 10:=fo
def eH:CC:=gq Tryz.f314 [2002002] { bx:=[0] } _
def eA:List ak:=[.cell 2 true 5, .tmp 3]
def Bq:FO mf [2002002] eH eA 72:=fo
def jM:CC:=gq Tryz.f323 [] { ke:=[0] } _
def jA:List ak:=[.cell 2 true 5, .tmp 3]
def AG:FO kS [] jM jA 108:=fo
def iX:CC:=gq Tryz.f305 [] { bx:=[0] } _
def iE:List ak:=[.cell 2 true 5, .tmp 3]
def zd:FO jG [] iX iE 54:=fo
def iZ:CC:=gq Tryz.f285 [] { ke:=[0] } _
def iG:List ak:=[.cell 2 true 5, .tmp 3]
def zh:FO jI [] iZ iG 49:=fo
def jL:CC:=gq Tryz.f253 [] { ke:=[0] } _
def jz:List ak:=[.cell 2 true 5, .tmp 3]
def AF:FO kR [] jL jz 44:=fo
open Cod (enc dec)
variable {S S0:Nat->Spc}
abbrev s_decR:Spc:=aL (a1 B) (λs=>∃c,s.data[0]? =some c/\c.toNat< 128) (lL (Y:=I32) (Z:=Int)) λs y=>∀c,s.data[0]? =some c->y=(⟨c.toNat⟩,1)
abbrev s_crune:Spc:=aL (a2 B I32) (λx=>0<=x.2.val/\x.2.val< 128) (enc (X:=Bool)) λx y=>y=qjC x.1 x.2.val
def Cm{p:Rp}{c:Int}(h:NM p=some c):p.s.size<=200/\((p.pos=p.s.size/\c= -1)\/(0<=p.pos/\p.pos<p.s.size/\p.pos≠p.s.size/\∃x:UInt8,p.s.data[p.pos.toNat]? =some x/\x.toNat< 128/\c=x.toNat)):=by
 unfold NM at h;split at h
 ·cases h
 rename_i hsz;refine⟨by omega,?_⟩;split at h
 ·exact .inl ⟨by assumption,(qAa h).symm⟩
 ·rename_i hne;split at h
  ·rename_i h0;split at h
   ·rename_i x hx;split at h
    ·rename_i hlt;have hx2:=(qzW.1 hx).1;refine .inr ⟨h0,?_,hne,x,hx,hlt,(qAa h).symm⟩;show p.pos<(p.s.data.size:Int);omega
    ·cases h
   ·cases h
  ·cases h
def qyw{s:B}{k:Nat}{x:UInt8}(h:s.data[k]? =some x):(s.extract k s.size).data[0]? =some x:=by
 obtain⟨h1,h2⟩:=qzW.1 h;rw[ByteArray.data_extract,qCd];have:0<min s.size s.data.size -k:=by
  have:s.size=s.data.size:=rfl;omega
 rw[if_pos this,qAY];exact h
abbrev vZ:Spc:=qdj a0 (enc (X:=I32)) lO
theorem QH(h1:S du=s_decR):vH gk fU S a0 (enc (X:=I32)) (λs z=>∃r,lO s z=some r) (λs z s' y=>lO s z=some (s',y)):=by
 rintro b s ⟨⟩ ⟨r,hr⟩;obtain⟨c,hc,_⟩:=qz0.1 hr;have sC:∀{H:ab},H 0=some (.box b (sJ s))->Hh (enc (X:=I32)) b (λs' y=>lO s ()=some (s',y)) (.v (.int .i32 c)) H:=λh0=>GE s ⟨c⟩ (.same _) h0 (by simp[lO,hc])
 obtain⟨hsz,hc2⟩:=Cm hc;rcases hc2 with⟨e1,rfl⟩|⟨h0,h2,h3,x,hx,hlt,rfl⟩
 ·simp[gk,fU,e1,-fB',-eB'];exactλ_=>sC (by simp[e1])
 ·have hd:(s.s.data.extract s.pos.toNat s.s.size)[0]? =some x:=by rw[<-ByteArray.data_extract];exact qyw hx
  simp[gk,fU,h1,h0,h2,h3,-fB',-eB'];refineλ_=>⟨by omega,⟨x,hd,hlt⟩,λa b1 h=>?_⟩
  obtain⟨rfl,rfl⟩:=h x hd;exact sC (by simp)
abbrev ZS:Spc:=qdj a0 SQ Pu
theorem QG(h1:S du=s_decR):vH ld kC S a0 SQ (λs z=>∃r,Pu s z=some r) (λs z s' y=>Pu s z=some (s',y)):=by
 rintro b s ⟨⟩ ⟨r,hr⟩;obtain⟨c,hc,h⟩:=qzO.1 hr;split at h
 ·rename_i hc0;have sC:∀{H:ab},H 0=some (.box b (sJ s.bump))->Hh SQ b (λs' y=>Pu s ()=some (s',y)) (.tup []) H:=λh0=>GE s.bump () (.same _) h0 (by simp[Pu,hc,hc0])
  obtain⟨hsz,hc2⟩:=Cm hc;rcases hc2 with⟨e1,rfl⟩|⟨h0,h2,h3,x,hx,hlt,rfl⟩
  ·omega
  ·have hd:(s.s.data.extract s.pos.toNat s.s.size)[0]? =some x:=by rw[<-ByteArray.data_extract];exact qyw hx
   simp[ld,kC,h1,h0,h2,h3,-fB',-eB'];refine⟨by omega,⟨x,hd,hlt⟩,λa b1 h=>?_⟩;obtain⟨rfl,rfl⟩:=h x hd;exact⟨by simp only[InR];omega,sC (by simp[Rp.bump])⟩
 ·cases h
abbrev qjW:(I32×Bool)->D:=lL (Y:=I32) (Z:=Bool)
abbrev Rw:Spc:=qdj (a1 B) qjW Dt
def E8(h1:S bA=vZ)(h2:S me=ZS):vH fN fH S (a1 B) qjW (λs z=>∃r,Dt s z=some r) (λs z s' y=>Dt s z=some (s',y)):=by
 rintro b s sp ⟨r,hr⟩;obtain⟨c,hc,h⟩:=qzO.1 hr;split at h
 ·cases h
 ·rename_i hn;have n1:0<=c:=by omega
  have n2:c≠92:=λe=>hn (.inr e)
  simp[fN,fH,h1,h2,lO,Pu,hc,n1,n2,-fB',-eB'];exact GE s.bump (⟨c⟩,true) (.same _) (by simp) (by simp[Dt,hc,hn])
abbrev qeg:Spc:=qdj a0 qjW VM
theorem Li(h1:S bA=vZ)(h2:S iO=s_crune)(h3:S ei=Rw):vH iY iF S a0 qjW (λs z=>∃r,VM s z=some r) (λs z s' y=>VM s z=some (s',y)):=by
 rintro b s ⟨⟩ ⟨r,hr⟩;obtain⟨c,hc,h⟩:=qzO.1 hr;split at h
 ·cases h
 ·rename_i hn;have n1:¬c< 0:=λe=>hn (.inl e)
  have n2:qjC qa7 c=false:=by
   cases e:qjC qa7 c with
   |false=>rfl
   |true=>exact absurd (.inr e) hn
  have hsz:=Cm hc;have h128:c< 128:=by
   rcases hsz.2 with⟨_,rfl⟩|⟨_,_,_,x,_,hlt,rfl⟩ <;>omega
  have n3:qjC ⟨#[92,91,93,94,45]⟩ c=false:=n2;have h4:Dt s ⟨#[92,91,93,94,45]⟩=some r:=h;simp[iY,iF,h1,h2,h3,lO,hc,n1,n3,h4,h128,-fB',-eB'];obtain⟨s',⟨c'⟩,t'⟩:=r;intro n0;refine⟨λ_=>⟨n0,GE s' (⟨c'⟩,t') (.same _) (by simp) (by simp[VM,hc,hn,h])⟩,λ_=>GE s' (⟨c'⟩,t') (.same _) (by simp) (by simp[VM,hc,hn,h])⟩
def SG{H:ab}{op mn mx:Int}{d3 d4:D}(rs:List Rng)(ks:List Rx)(h3:FrzTo H d3 (enc rs))(h4:FrzTo H d4 (enc ks)):FrzTo H (.agg [.v (.int .i64 op), .v (.int .i64 mn), .v (.int .i64 mx),d3,d4]) (enc (Rx.mk op mn mx rs ks)):=by
 rw[qgy];refine .agg rfl λk c c' hc hc'=>?_
 match k with
 | 0=>cases hc;cases hc';exact .same _
 | 1=>cases hc;cases hc';exact .same _
 | 2=>cases hc;cases hc';exact .same _
 | 3=>cases hc;cases hc';exact h3
 | 4=>cases hc;cases hc';exact h4
 |k+5=>simp at hc
abbrev qef:Spc:=aL (a2 I32 I32) (λ_=>True) (enc (X:=Rx)) λx y=>y=qd8 x.1.val x.2.val
def TE:am zM yF S (a2 I32 I32) (λ_=>True) (enc (X:=Rx)) λx y=>y=qd8 x.1.val x.2.val:=by
 rintro⟨x,y⟩ -;simp[zM,yF,qd8];exactλb=>aV (Y:=Rx) ⟨1,0,0, [⟨x,y⟩], []⟩ (SG [⟨x,y⟩] [] (.same _) (.nil _)) rfl
end Go.Gv
