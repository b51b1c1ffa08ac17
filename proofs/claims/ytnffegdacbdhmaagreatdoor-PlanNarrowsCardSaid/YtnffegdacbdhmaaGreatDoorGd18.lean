/- C57 -/
import Derived.Test.YtnffegdacbdhmaaGreatDoorGd17
set_option linter.all false
set_option maxRecDepth 100000
set_option maxHeartbeats 0
open Bool renaming forall_bool → fB', exists_bool → eB'
namespace Go.Gv
open Go.Proofs
def eF:CC:=gq Tryz.f197 [] {} _
def ep:List ak:=[.tmp 4]
def rE:FO eS [] eF ep 19:=fo
def fh:CC:=gq Tryz.f142 [] {} _
def ff:List ak:=[.tmp 4]
def ki:FO bE [] fh ff 9:=fo
def gG:CC:=gq Tryz.f202 [] {} _
def gz:List ak:=[.tmp 4]
def mH:FO eL [] gG gz 19:=fo
def eH:CC:=gq Tryz.f199 [] {} _
def ez:List ak:=[.tmp 4]
def rG:FO eU [] eH ez 9:=fo
def fC:CC:=gq Tryz.f259 [] {} _
def fu:List ak:=[.tmp 4]
def uE:FO fL [] fC fu 19:=fo
def ij:CC:=gq Tryz.f201 [3] {} _
def gS:List ak:=[.tmp 4]
def xY:FO iR [3] ij gS 9:=fo
def li:CC:=gq Tryz.f260 [3] {} _
def kE:List ak:=[.tmp 4]
def Bp:FO mf [3] li kE 19:=fo
def iW:CC:=gq Tryz.f140 [] {} _
def iD:List ak:=[.tmp 4]
def zd:FO dJ [] iW iD 19:=fo
def cE:CC:=gq Tryz.f113 [] {} _
def cB:List ak:=[.tmp 4]
def lP:FO aZ [] cE cB 9:=fo
def lz:CC:=gq Tryz.f115 [3] {} _
def kM:List ak:=[.tmp 6, .tmp 7]
def BD:FO cH [3] lz kM 40:=fo
def nC:CC:=oX [oB 1 (.box eJ true (oT 0)),oB 2 (.mv (.const ob))] [1] [] (oX [oD 6 7 1,oZ 7 cH [oT 6,oN 0,oN 1],oA 5 7,oB 8 (.ext (oT 5) 0),oB 9 (.ext (oT 5) 1),oA 3 8,oA 4 9] [3] [] (oX [oA 10 3,oB 11 (.cmp .gtr (oT 10) (oN 60)),oA 2 11] [2] [] (.ret)))
def nh:List ak:=[.tmp 2]
def pP:CC:=gq Tryz.f116 [2] {} _
def ov:List ak:=[.tmp 4]
def Gj:FO ic [2] pP ov 29:=fo
def bw:CC:=gq Tryz.f179 [1,2034005,2033005,2043005,2042005,2041005,2052005,2051005,2050005] {} _
def bu:List ak:=[.tmp 2]
def Ek:FO pn [1,2034005,2033005,2043005,2042005,2041005,2052005,2051005,2050005] bw bu 108:=fo
def ji:CC:=gq Tryz.f139 [3] {} _
def iN:List ak:=[.tmp 4]
def zo:FO bT [3] ji iN 8:=fo
def gI:CC:=gq Tryz.f198 [2] {} _
def gB:List ak:=[.tmp 3]
def wP:FO bX [2] gI gB 8:=fo
def jh:CC:=gq Tryz.f137 [] {} _
def iM:List ak:=[.tmp 4]
def Ep:FO kp [] jh iM 14:=fo
def cn:CC:=gq Tryz.f180 [2] {} _
def ca:List ak:=[.tmp 4]
def El:FO pp [2] cn ca 50:=fo
def dc:CC:=gq Tryz.f118 [3] {} _
def cZ:List ak:=[.tmp 6]
def Er:FO pq [3] dc cZ 59:=fo
def jS:CC:=gq Tryz.f64 [5,4,3] {} _
def jE:List ak:=[.tmp 6]
def AO:FO dj [5,4,3] jS jE 23:=fo
def ir:CC:=gq Tryz.f117 [3] {} _
def gX:List ak:=[.tmp 4]
def yb:FO cx [3] ir gX 9:=fo
def ku:CC:=oX [oB 1 (.box eJ true (oT 0)),oB 2 (.mv (.const ob))] [1] [] (oX [oE 3 0 1,oC 4 1 3,oB 5 (.eql false false [.int] (oT 4) (oN 4)),oA 6 5,oI 7 6 (.faddr 6 (oT 1)),oI 8 6 (.load false 1 (oT 7)),oI 9 6 (.call bE [oT 8,.func bF]),oB 10 (.pick (oT 6) (.const (.bool true)) (oT 9)),oA 2 10] [2] [] (.ret))
def kb:List ak:=[.tmp 2]
def dZ:CC:=oX [oB 1 (.box eJ true (oT 0)),oB 2 (.alloc eJ [oi,oe,oe,oe,oe,ob,on])] [1,2] [2,33] (.seq (oX [oE 6 0 1,oC 7 1 6,oB 8 (.eql false false [.int] (oT 7) (oN 4)),oA 9 8,oI 10 9 (.faddr 0 (oT 1)),oI 11 9 (.load false 1 (oT 10)),oI 12 9 (.eql false false [.int] (oT 11) (oN 6)),oI 13 9 (.mv (oT 12)),oH 14 13 (.load true 7 (oT 1)),
 oH 15 13 (.call bF [oT 14]),oI 16 9 (.pick (oT 13) (oT 15) (.const ob)),oB 17 (.pick (oT 9) (.const (.bool true)) (oT 16))] [1,2,17] [2,33] (.ite (oT 17) (oX [oB 18 (.build [oi,oe,oe,oe,oe,ob,on] [(0,1,oN 1)]),oF 7 2 18] [2] [2,33] (.ret)) (.skip))) (.keep [1,2] [2,33] (oX [oD 19 7 1,oB 3 (.alloc eJ [oi,oe,oe,oe,oe,ob,on]),oF 7 3 19] [1,2,3] [2,3,33] (Ke 5 (.reg [
 oE 20 6 3,.op none none (.store none 1 (oT 20) (.const on))]) (.keep [1,2,3] [2,3,33] (.seq (oX [oE 21 6 1,oC 22 1 21,oB 23 (.len (oT 22)),oB 24 (.mv (oN 0))] [2,3,22,23,24] [2,3,33] (fF 0 24 23 25 1 (oX [oB 26 (.iaddr 7 (oT 22) (oT 24)),oD 27 7 26,oB 5 (.alloc eJ [oi,oe,oe,oe,oe,ob,on]),oF 7 5 27] [2,3,5,22,23,24] [2,3,5,33] (.regd [oE 28 6 3,oC 29 1 28,oD 30 7 5,
 oZ 31 dA [oT 30],oB 32 (.bslice eJ 7 [oT 31])] [oB 33 (.append (some 33) eJ 7 104 (oT 29) (oT 32)),oE 34 6 3,.op none none (.store (some 3) 1 (oT 34) (oT 33))])) 35)) (.keep [2,3] [2,3,33] (oX [oD 36 7 3,oF 7 2 36] [2] [2,33] (.ret)))))))))
def dS:List ak:=[.cell 2 true 7]
def cp:CC:=gq Tryz.f136 [3] {} _
def cb:List ak:=[.tmp 6]
def Es:FO pr [3] cp cb 38:=fo
def mz:CC:=gq Tryz.f141 [5,4,3] {} _
def lX:List ak:=[.tmp 6]
def C1:FO np [5,4,3] mz lX 11:=fo
def bV:CC:=gq Tryz.f200 [3] {} _
def bS:List ak:=[.tmp 4]
def AN:FO cj [3] bV bS 37:=fo
def En:FO ko [1] nC nh 12:=fo
def Gk:FO bF [1] ku kb 11:=fo
def Em:FO dA [1,2034003,1033033] dZ dS 37:=fo
open Cod (enc dec)
variable {S S0:Nat->Spc}
def FunOn{X Y:Type}[Cod X][Cod Y](S:Nat->Spc)(d:D)(l:List X)(p:X->Y):Prop:=
 ∃g caps pc,d= .clo g caps/\S g= .pure pc/\∀x∈l,pc.pre (enc x::caps)/\∀r,pc.post (enc x::caps) r->r=enc (p x)
def FunOn.useB{X:Type}[Cod X]{S:Nat->Spc}{d:D}{l:List X}{p:X->Bool}(h:FunOn S d l p){x:X}(hx:x∈l){d':Nat}{H:ab}{K:D->ab->Prop}(hk:∀y:Bool,(∀q:X->Bool,FunOn S d l q->y=q x)->K (.v (.bool y)) H):Cj S d d' [enc x] H K:=by
 obtain⟨g,caps,pc,rfl,h1,h2⟩:=h;simp only[Cj,h1,Spc.pt];refine⟨(h2 x hx).1,λr hr=>?_⟩;have e:=(h2 x hx).2 r hr;rw[e];refine hk (p x) λq hq=>?_
 obtain⟨g',caps',pc',e',k1,k2⟩:=hq;cases e';rw[h1]at k1;cases k1;exact bK (e.symm.trans ((k2 x hx).2 r hr))
def yg{X Y Z:Type}[Cod X][Cod Y]{S:Nat->Spc}{g:Nat}{caps:List D}{A:fT Z}{pre:Z->Prop}{post:Z->Y->Prop}{l:List X}{p:X->Y}{f:X->Z}(h:S g=aL A pre enc post)(hd:∀x∈l,A.dec (enc x::caps)=some (f x))(hp:∀x∈l,pre (f x))(hq:∀x∈l,∀y,post (f x) y->y=p x):FunOn S (.clo g caps) l p:=by
 refine⟨g,caps,_,rfl,h,λx hx=>⟨⟨f x,hd x hx,hp x hx⟩,λr hr=>?_⟩⟩;obtain⟨y,h1,h2⟩:=hr (f x) (hd x hx) (hp x hx);rw[h1,hq x hx y h2]
def ZH{X:Type}[Cod X](S0:Nat->Spc)(x:List X×D×Unit):Prop:=∃p:X->Bool,FunOn S0 x.2.1 x.1 p
def qkq{X:Type}[Cod X](S0:Nat->Spc)(x:List X×D×Unit)(y:Int):Prop:=∀p:X->Bool,FunOn S0 x.2.1 x.1 p->y=kB x.1 p
def qnI{X:Type}[Cod X](S0:Nat->Spc)(x:List X×D×Unit)(y:Bool):Prop:=∀p:X->Bool,FunOn S0 x.2.1 x.1 p->y=x.1.any p
abbrev YD(X:Type)[Cod X](S0:Nat->Spc):Spc:=aL (aE (List X) (aD a0)) (ZH S0) (enc (X:=Int)) (qkq S0)
abbrev qbX(X:Type)[Cod X](S0:Nat->Spc):Spc:=aL (aE (List X) (aD a0)) (ZH S0) (enc (X:=Bool)) (qnI S0)
theorem Lv:am eF ep S (aE (List Attr) (aD a0)) (ZH S) (enc (X:=Int)) (qkq S):=by
 rintro⟨l,d,⟨⟩⟩ ⟨p,hp⟩;simp only at hp;simp[eF,ep,-fB',-eB'];intro _;refine ah (X:=Unit) [0,1] [] l.length (λk _=>∀p:Attr->Bool,FunOn S d l p->∀x∈l.take k,p x=false) (λ_=>[]) (λ_=>[]) () (by simp) ?_ ?_
 ·intro k _ hk hP;obtain⟨x,hx⟩:∃x,l[k]? =some x:=⟨_,qzX hk⟩
  obtain⟨_,hgx⟩:=qzV.1 hx;simp[hk,hx,hgx,-fB',-eB'];refine hp.useB (x:=x) (qzY hx) λy hy=>?_
  simp[-fB',-eB'];refine⟨λh=>?_,λh p' hp'=>?_⟩
  ·intro p' hp';exact(tF hx (by rw[<-hy p' hp',h]) (hP p' hp')).symm
  ·rw[au hx];intro z hz;rcases qz5.1 hz with hz|hz
   ·exact hP p' hp' z hz
   ·simp at hz;subst hz;rw[<-hy p' hp',h]
 ·intro _ hP;simp[-fB',-eB'];intro p' hp';exact(lK (by simpa using hP p' hp')).symm
theorem Pm:am gG gz S (aE (List Cond) (aD a0)) (ZH S) (enc (X:=Int)) (qkq S):=by
 rintro⟨l,d,⟨⟩⟩ ⟨p,hp⟩;simp only at hp;simp[gG,gz,-fB',-eB'];intro _;refine ah (X:=Unit) [0,1] [] l.length (λk _=>∀p:Cond->Bool,FunOn S d l p->∀x∈l.take k,p x=false) (λ_=>[]) (λ_=>[]) () (by simp) ?_ ?_
 ·intro k _ hk hP;obtain⟨x,hx⟩:∃x,l[k]? =some x:=⟨_,qzX hk⟩
  obtain⟨_,hgx⟩:=qzV.1 hx;simp[hk,hx,hgx,-fB',-eB'];have e:D.agg [.v (.int .i64 x.op), .v (.string x.name), .v (.string x.arg), .v (.string x.val), .v (.string x.lab), .v (.bool x.fold), .list 7 (x.kids.map enc)]=enc x:=by simp
  rw[e];refine hp.useB (x:=x) (qzY hx) λy hy=>?_
  simp[-fB',-eB'];refine⟨λh=>?_,λh p' hp'=>?_⟩
  ·intro p' hp';exact(tF hx (by rw[<-hy p' hp',h]) (hP p' hp')).symm
  ·rw[au hx];intro z hz;rcases qz5.1 hz with hz|hz
   ·exact hP p' hp' z hz
   ·simp at hz;subst hz;rw[<-hy p' hp',h]
 ·intro _ hP;simp[-fB',-eB'];intro p' hp';exact(lK (by simpa using hP p' hp')).symm
def Pn(h1:S eL=YD Cond S0):am fh ff S (aE (List Cond) (aD a0)) (ZH S0) (enc (X:=Bool)) (qnI S0):=by
 rintro⟨l,d,⟨⟩⟩ hp;simp[fh,ff,h1,-fB',-eB'];refine⟨hp,λy hy p' hp'=>?_⟩;rw[hy p' hp'];exact zy p' l
theorem Ub:am fC fu S (aE (List Region) (aD a0)) (ZH S) (enc (X:=Int)) (qkq S):=by
 rintro⟨l,d,⟨⟩⟩ ⟨p,hp⟩;simp only at hp;simp[fC,fu,-fB',-eB'];intro _;refine ah (X:=Unit) [0,1] [] l.length (λk _=>∀p:Region->Bool,FunOn S d l p->∀x∈l.take k,p x=false) (λ_=>[]) (λ_=>[]) () (by simp) ?_ ?_
 ·intro k _ hk hP;obtain⟨x,hx⟩:∃x,l[k]? =some x:=⟨_,qzX hk⟩
  obtain⟨_,hgx⟩:=qzV.1 hx;simp[hk,hx,hgx,-fB',-eB'];refine hp.useB (x:=x) (qzY hx) λy hy=>?_
  simp[-fB',-eB'];refine⟨λh=>?_,λh p' hp'=>?_⟩
  ·intro p' hp';exact(tF hx (by rw[<-hy p' hp',h]) (hP p' hp')).symm
  ·rw[au hx];intro z hz;rcases qz5.1 hz with hz|hz
   ·exact hP p' hp' z hz
   ·simp at hz;subst hz;rw[<-hy p' hp',h]
 ·intro _ hP;simp[-fB',-eB'];intro p' hp';exact(lK (by simpa using hP p' hp')).symm
def Uc(h1:S fL=YD Region S0):am eH ez S (aE (List Region) (aD a0)) (ZH S0) (enc (X:=Bool)) (qnI S0):=by
 rintro⟨l,d,⟨⟩⟩ hp;simp[eH,ez,h1,-fB',-eB'];refine⟨hp,λy hy p' hp'=>?_⟩;rw[hy p' hp'];exact zy p' l
end Go.Gv
namespace Go.Gv
instance:Inhabited Cond:=⟨⟨0,⟨#[]⟩,⟨#[]⟩,⟨#[]⟩,⟨#[]⟩,false, []⟩⟩
instance:Inhabited Pat:=⟨⟨0,default,⟨#[]⟩,⟨#[]⟩,0,0, []⟩⟩
def Cond0:Cond:=⟨0,⟨#[]⟩,⟨#[]⟩,⟨#[]⟩,⟨#[]⟩,false, []⟩
mutual
def db:Pat->Nat| .mk _ _ _ _ _ _ ks=>Vt ks+1
def Vt:List Pat->Nat|[]=>0|k::ks=>max (db k) (Vt ks)
end
mutual
def dm:Cond->Nat| .mk _ _ _ _ _ _ ks=>iA ks+1
def iA:List Cond->Nat|[]=>0|k::ks=>max (dm k) (iA ks)
end
mutual
def da:Pat->Nat| .mk _ _ _ _ _ _ ks=>bi ks+1
def bi:List Pat->Nat|[]=>0|k::ks=>da k+bi ks
end
def qat(p:Pat):db p=Vt p.kids+1:=by cases p;rw[db]
def Ha(p:Cond):dm p=iA p.kids+1:=by cases p;rw[dm]
def cw(p:Pat):da p=bi p.kids+1:=by cases p;rw[da]
def PX{k:Pat} :∀{ks:List Pat},k∈ks->db k<=Vt ks
 | a::ks,h=>by
   rw[Vt];rcases qAc.1 h with rfl|h
   ·omega
   ·have:=PX h;omega
def I3{k:Cond} :∀{ks:List Cond},k∈ks->dm k<=iA ks
 | a::ks,h=>by
   rw[iA];rcases qAc.1 h with rfl|h
   ·omega
   ·have:=I3 h;omega
def kQ{p k:Pat}(h:k∈p.kids):db k<db p:=by have:=PX h;rw[qat p];omega
def NK{p k:Cond}(h:k∈p.kids):dm k<dm p:=by have:=I3 h;rw[Ha p];omega
def fZ{C:Pat->Prop}(h:∀p,(∀k∈p.kids,C k)->C p)(p:Pat):C p:=by
 generalize hn:db p=n
 induction n using Nat.strongRecOn generalizing p with
 | _ n ih=>exact h p λk hk=>ih (db k) (by rw[<-hn];exact kQ hk) k rfl
mutual
def ck(f:Pat->Bool):Pat->Bool| .mk op c l r mn mx ks=>f ⟨op,c,l,r,mn,mx,ks⟩ && GV f ks
def GV(f:Pat->Bool):List Pat->Bool|[]=>true|k::ks=>ck f k && GV f ks
end
def Nh(f:Pat->Bool):∀ks:List Pat,GV f ks=ks.all (ck f)
 | []=>by rw[GV];rfl
 |k::ks=>by rw[GV,Nh f ks,qBN]
def cM(f:Pat->Bool)(p:Pat):ck f p=(f p && p.kids.all (ck f)):=by cases p;rw[ck,Nh]
mutual
def cA:Pat->Int->Bool| .mk _ _ _ _ _ _ ks,d=>decide (d<=100) && xN ks (d+1)
def xN:List Pat->Int->Bool|[],_=>true|k::ks,d=>cA k d && xN ks d
end
def FL(d:Int):∀ks:List Pat,xN ks d=ks.all (cA · d)
 | []=>by rw[xN];rfl
 |k::ks=>by rw[xN,FL d ks,qBN]
def nH(p:Pat)(d:Int):cA p d=(decide (d<=100) && p.kids.all (cA · (d+1))):=by cases p;rw[cA,FL]
def Rs(p:Pat):∀d d':Int,d'<=d->cA p d=true->cA p d'=true:=by
 induction p using fZ with|_ p ih=>?_
 intro d d' h;rw[nH,nH];simp only[qzZ,decide_eq_true_eq,qz4];exactλ⟨h1,h2⟩=>⟨by omega,λk hk=>ih k hk (d+1) (d'+1) (by omega) (h2 k hk)⟩
def vG(p:Pat):Prop:=(p.op=1/\p.reg=⟨#[]⟩/\p.mn=0/\p.mx=0/\p.kids=[])\/
 ((p.op=2\/p.op=3)/\p.cond=Cond0/\p.lab=⟨#[]⟩/\p.mn=0/\p.mx=0/\p.kids=[])\/
 ((p.op=4\/p.op=5)/\p.cond=Cond0/\p.lab=⟨#[]⟩/\p.reg=⟨#[]⟩/\p.mn=0/\p.mx=0/\2<=p.kids.length)\/
 (p.op=6/\p.cond=Cond0/\p.lab=⟨#[]⟩/\p.reg=⟨#[]⟩/\p.kids.length=1)
noncomputable def oO(p:Pat):Bool:= @decide (vG p) (Classical.propDecidable _)
def tR(p:Pat):oO p=true↔vG p:= @decide_eq_true_iff (vG p) (Classical.propDecidable _)
def lJ(p:Pat):Bool:=decide (p.op=6->0<=p.mn/\p.mn<=16/\(p.mx= -1\/p.mn<=p.mx/\p.mx<=16))
def mI(v:B->Bool)(p:Pat):Bool:=decide (((p.op=2\/p.op=3)->v p.reg=true)/\(p.lab≠ ⟨#[]⟩->v p.lab=true))
noncomputable def fJ(v:B->Bool)(p:Pat):Bool:=cA p 1 && ck oO p && ck (mI v) p && ck lJ p
def kP{v:B->Bool}{p k:Pat}(h:fJ v p=true)(hk:k∈p.kids):fJ v k=true:=by
 unfold fJ at*;rw[cM,cM,cM lJ,nH]at h;simp only[qzZ,qz4]at h;obtain⟨⟨⟨⟨_,h1⟩,_,h2⟩,_,h3⟩,_,h4⟩:=h;rw[h2 k hk,h3 k hk,h4 k hk,Rs k _ 1 (by omega) (h1 k hk)];rfl
def df{v:B->Bool}{p:Pat}(h:fJ v p=true):oO p=true/\mI v p=true/\lJ p=true:=by
 unfold fJ at*;rw[cM,cM,cM lJ]at h;simp only[qzZ]at h;exact⟨h.1.1.2.1,h.1.2.1,h.2.1⟩
def Bb(p:Pat)(n:Int):Int:=if p.kids=[]then 1 else if p.op=6 then(if p.mx= -1 then min (n* (p.mn+1)) 1000 else if p.mx=0 then n else min (n*p.mx) 1000)else n
mutual
def fj:Pat->Int| .mk op c l r mn mx ks=>Bb ⟨op,c,l,r,mn,mx,ks⟩ (eo ks 0)
def eo:List Pat->Int->Int|[],n=>n|k::ks,n=>eo ks (min (n+fj k) 1000)
end
def nR(p:Pat):fj p=Bb p (eo p.kids 0):=by cases p;rw[fj]
def LV(a b:List Pat)(n:Int):eo (a++b) n=eo b (eo a n):=by
 induction a generalizing n with
 |nil=>rfl
 |cons k a ih=>simp only[qAK,eo];exact ih _
def N8(seq:Bool)(a b:Int×Int):Int×Int:=
 if seq then(min (a.1+b.1) 10000,if a.2= -1\/b.2= -1 then -1 else min (a.2+b.2) 10000)else(min a.1 b.1,if a.2= -1\/b.2= -1 then -1 else max a.2 b.2)
mutual
def aU:Pat->Int×Int
 | .mk op _ _ _ mn mx ks=>if op=1 then(1,1)else if op=2\/op=3 then(0,0)else match ks with
   | []=>(0,0)
   |k::ks=>if op=6 then(min ((aU k).1*mn) 10000,if mx=0\/(aU k).2=0 then 0 else if mx= -1\/(aU k).2= -1 then -1 else min ((aU k).2*mx) 10000)else mE (decide (op=4)) ks (aU k)
def mE(seq:Bool):List Pat->Int×Int->Int×Int|[],w=>w|k::ks,w=>mE seq ks (N8 seq w (aU k))
end
def Pl(s:Bool)(a b:List Pat)(n:Int×Int):mE s (a++b) n=mE s b (mE s a n):=by
 induction a generalizing n with
 |nil=>rfl
 |cons k a ih=>simp only[qAK,mE];exact ih _
def qdv{p:Pat}(h:p.op=1):aU p=(1,1):=by cases p;simp only at h;unfold aU;rw[if_pos h]
def qdu{p:Pat}(h:p.op=2\/p.op=3):aU p=(0,0):=by cases p;simp only at h;unfold aU;rw[if_neg (by omega),if_pos h]
def qds{p k:Pat}(h:p.op=6){ks:List Pat}(hk:p.kids=k::ks):aU p=(min ((aU k).1*p.mn) 10000,if p.mx=0\/(aU k).2=0 then 0 else if p.mx= -1\/(aU k).2= -1 then -1 else min ((aU k).2*p.mx) 10000):=by
 cases p;simp only at h hk;subst hk;rw[aU,if_neg (by omega),if_neg (by omega)];simp only[h,if_true]
def qdt{p k:Pat}(h:p.op=4\/p.op=5){ks:List Pat}(hk:p.kids=k::ks):aU p=mE (decide (p.op=4)) ks (aU k):=by
 cases p;simp only at h hk;subst hk;rw[aU,if_neg (by omega),if_neg (by omega)];simp only;rw[if_neg (by omega)]
mutual
def aq:Pat->List Pat| .mk op c l r mn mx ks=>if op=1 then[⟨op,c,l,r,mn,mx,ks⟩]else BL ks
def BL:List Pat->List Pat|[]=>[]|k::ks=>aq k++BL ks
end
def JC:∀ks:List Pat,BL ks=ks.flatMap aq
 | []=>by rw[BL];rfl
 |k::ks=>by rw[BL,JC ks,qAw]
def bc(p:Pat):aq p=if p.op=1 then[p]else p.kids.flatMap aq:=by cases p;rw[aq,JC]
def qx(p:Pat):(aq p).length<=da p:=by
 induction p using fZ with|_ p ih=>?_
 rw[bc,cw];split
 ·simp
 ·have:∀ks:List Pat,(∀k∈ks,(aq k).length<=da k)->(ks.flatMap aq).length<=bi ks:=by
   intro ks
   induction ks with
   |nil=>intro _;simp[bi]
   | cons k ks ih=>
     intro h;rw[qAw,qAm,bi];have h1:=h k (by simp);have h2:=ih λx hx=>h x (by simp[hx])
     omega
  have:=this p.kids ih;omega
def qv{p:Pat}(h:oO p=true):(p.op=1/\p.kids=[])\/((p.op=2\/p.op=3)/\p.kids=[])\/((p.op=4\/p.op=5)/\∃k ks,p.kids=k::ks)\/(p.op=6/\∃k,p.kids=[k]):=by
 rw[tR]at h;unfold vG at h;rcases h with h|h|h|h
 ·exact .inl ⟨h.1,h.2.2.2.2⟩
 ·exact .inr (.inl ⟨h.1,h.2.2.2.2.2⟩)
 ·refine .inr (.inr (.inl ⟨h.1,?_⟩));rcases hk:p.kids with _|⟨k,ks⟩
  ·rw[hk]at h;simp at h
  ·exact⟨k,ks,rfl⟩
 ·refine .inr (.inr (.inr ⟨h.1,?_⟩));rcases hk:p.kids with _|⟨k,_|⟨a,ks⟩⟩
  ·rw[hk]at h;simp at h
  ·exact⟨k,rfl⟩
  ·rw[hk]at h;simp at h
def qb:∀(ks:List Pat) (n:Int),0<=n->n<=1000->(∀k∈ks,0<=fj k)->0<=eo ks n/\eo ks n<=1000
 | [],n,h0,h1,_=>by rw[eo];exact⟨h0,h1⟩
 | k::ks,n,h0,h1,h=>by
   rw[eo];have:=h k (by simp);exact qb ks _ (by omega) (by omega) λx hx=>h x (by simp[hx])
def Pv{v:B->Bool}(p:Pat):fJ v p=true->0<=fj p/\fj p<=1000:=by
 induction p using fZ with|_ p ih=>?_
 intro h;have hk:=qb p.kids 0 (by omega) (by omega) λk hk=>(ih k hk (kP h hk)).1
 have hn:=(df h).2.2;unfold lJ at hn;rw[decide_eq_true_eq]at hn;rw[nR];generalize eo p.kids 0=n at hk;unfold Bb;split
 ·omega
 ·split
  ·rename_i h6;have hn:=hn h6;split
   ·have:0<=n* (p.mn+1):=qBL hk.1 (by omega);omega
   ·split
    ·exact hk
    ·have:0<=n*p.mx:=qBL hk.1 (by omega);omega
  ·exact hk
def eh(w:Int×Int):Prop:=0<=w.1/\w.1<=10000/\ -1<=w.2/\w.2<=10000
def QH{s:Bool}{a b:Int×Int}(ha:eh a)(hb:eh b):eh (N8 s a b):=by
 unfold eh N8 at*;split<;>simp only<;>split<;>omega
def TD(s:Bool):∀(ks:List Pat) (w:Int×Int),eh w->(∀k∈ks,eh (aU k))->eh (mE s ks w)
 | [],w,h,_=>by rw[mE];exact h
 | k::ks,w,h,hk=>by
   rw[mE];exact TD s ks _ (QH h (hk k (by simp))) λx hx=>hk x (by simp[hx])
theorem yu{v:B->Bool}(p:Pat):fJ v p=true->eh (aU p):=by
 induction p using fZ with|_ p ih=>?_
 intro h;obtain⟨h1,_,hn⟩:=df h;unfold lJ at hn;rw[decide_eq_true_eq]at hn;rcases qv h1 with⟨ho,_⟩|⟨ho,_⟩|⟨ho,k,ks,hk⟩|⟨ho,k,hk⟩
 ·rw[qdv ho];simp[eh]
 ·rw[qdu ho];simp[eh]
 ·rw[qdt ho hk];exact TD _ _ _ (ih k (by rw[hk];simp) (kP h (by rw[hk];simp))) λx hx=>ih x (by rw[hk];simp[hx]) (kP h (by rw[hk];simp[hx]))
 ·rw[qds ho hk];have hw:=ih k (by rw[hk];simp) (kP h (by rw[hk];simp));have hn:=hn ho;generalize aU k=w at hw;unfold eh at*;have h1:0<=w.1*p.mn:=qBL hw.1 hn.1;refine⟨by simp only;omega,by simp only;omega,?_⟩;simp only;split
  ·omega
  ·split
   ·omega
   ·have h2:0<=w.2*p.mx:=qBL (by omega) (by omega);omega
open Cod (enc dec)
mutual
def gL:Cond->Nat| .mk _ _ _ _ _ _ ks=>eX ks+1
def eX:List Cond->Nat|[]=>0|k::ks=>gL k+eX ks
end
def zr(x:Cond):gL x=eX x.kids+1:=by cases x;rw[gL]
def CE:∀(a b:List Cond),eX (a++b)=eX a+eX b
 | [],b=>by rw[qAZ,eX];omega
 |k::a,b=>by rw[qAK,eX,eX,CE a b];omega
def Qy:∀(a b:List Cond),iA (a++b)=max (iA a) (iA b)
 | [],b=>by rw[qAZ,iA];omega
 |k::a,b=>by rw[qAK,iA,iA,Qy a b];omega
def Im:∀{ks:List Cond} {k:Cond},k∈ks->gL k<=eX ks
 | x::ks,k,h=>by
   rw[eX];rcases qAc.1 h with rfl|h
   ·omega
   ·have:=Im h;omega
def qch{ks:List Cond}{k:Nat}{x:Cond}(h:ks[k]? =some x):eX (ks.take (k+1))=eX (ks.take k) +gL x/\iA (ks.take (k+1))=max (iA (ks.take k)) (dm x)/\eX (ks.take k) +gL x<=eX ks:=by
 have e:=au h;refine⟨by rw[e,CE,eX,eX];omega,by rw[e,Qy,iA,iA];omega,?_⟩
 conv=>rhs;rw[<-qAz (k+1) ks,CE]
 rw[e,CE,eX,eX];omega
def mD:B:=⟨#[]⟩
def lR(a:List Attr)(n:B):Int:=kB a λx=>decide (x.nm=n)
def zB(a:List Attr)(n:B):Int:=if n=mD then min 0 ((a.length:Int) -1)else lR a n
def qbd(c:UInt8):Bool:=(decide (65<=c.toNat) && decide (c.toNat<=90))||(decide (97<=c.toNat) && decide (c.toNat<=122))||decide (c.toNat=95)
def qwj(c:UInt8):Bool:=qbd c||(decide (48<=c.toNat) && decide (c.toNat<=57))||decide (c.toNat=45)
def Ik(s:B):Bool:=decide (1<=s.size/\s.size<=32) && (match s.data.toList with|c::_=>qbd c|[]=>false) && s.data.toList.all qwj
def BG(s:B):Bool:=decide (s.size<=120) && s.data.toList.all λc=>decide (32<=c.toNat/\c.toNat< 127)
def qlU(x:Cond):Bool:=
 if x.op=1 then decide (x.name=mD/\x.arg=mD/\x.val=mD/\x.lab=mD/\x.fold=false) && x.kids.isEmpty else
 if x.op=2 then decide (x.arg=mD/\x.lab=mD) && x.kids.isEmpty else
 if x.op=3 then decide (x.arg=mD/\x.lab=mD/\x.fold=false) && x.kids.isEmpty else
 if x.op=4 then decide (x.val=mD/\x.fold=false) && x.kids.isEmpty else
 if x.op=5 then decide (x.lab=mD/\x.fold=false/\(x.arg=mD->x.val=mD)) && x.kids.isEmpty else
 if x.op=6 then decide (x.name=mD/\x.arg=mD/\x.val=mD/\x.lab=mD/\x.fold=false) && decide (x.kids.length=1)else
 if x.op=7\/x.op=8 then decide (x.name=mD/\x.arg=mD/\x.val=mD/\x.lab=mD/\x.fold=false) && decide (2<=x.kids.length/\x.kids.length<=60)else false
def qkY(a:List Attr)(x:Cond):Bool:=
 if x.op=2 then decide (0<=zB a x.name)else
 if x.op=3 then decide (0<=lR a x.name)else
 if x.op=4 then decide (0<=lR a x.name/\0<=lR a x.arg)else
 if x.op=5 then Ik x.name && (decide (x.arg=mD)||Ik x.arg)else true
def qkj(s:B):Bool:=s.data.toList.any λc=>decide (c.toNat=124)
def qtV(a:List Attr)(lb:List B)(x:Cond):Bool:=
 if x.op=2 then(ox x.val).isSome else
 if x.op=3 then(match a[(lR a x.name).toNat]? with|some b=>b.st|none=>false) && decide (x.val≠mD) && !qkj x.val && BG x.val else
 if x.op=4 then lb.any λl=>decide (l=x.lab)else
 if x.op=5 then BG x.val else true
def pW(a:List Attr)(lb:List B)(x:Cond):Bool:=qlU x && qkY a x && qtV a lb x
def rH(a:List Attr)(lb:List B):Nat->Cond->Bool
 | 0=>λ_=>false
 |n+1=>λx=>pW a lb x && x.kids.all (rH a lb n)
def qhW(a:List Attr)(lb:List B)(x:Cond):Bool:=decide (gL x<=60/\dm x<=20) && rH a lb 20 x
variable {S S0:Nat->Spc}
def ed{X:Type}{l:List X}{k:Nat}(h:k<l.length):∃x,l[k]? =some x:=⟨_,qzX h⟩
def qoL(n:Nat)(x:Cond×Int×Int):Prop:=dm x.1<=n/\0<=x.2.1/\x.2.1+gL x.1<=60/\0<=x.2.2/\x.2.2+dm x.1<=1000/\dm x.1<=60
abbrev U9(n:Nat):Spc:=aL (a3 Cond Int Int) (qoL n) (mj (Y:=Int) (Z:=Int)) λx y=>y=(x.2.1+gL x.1,x.2.2+dm x.1 -1)
abbrev L8:Spc:=aL (a3 Cond Int Int) (λx=>∃n,qoL n x) (mj (Y:=Int) (Z:=Int)) λx y=>y=(x.2.1+gL x.1,x.2.2+dm x.1 -1)
theorem A0(n:Nat)(h1:S cH=U9 n):am lz kM S (a3 Cond Int Int) (qoL (n+1)) (mj (Y:=Int) (Z:=Int)) λx y=>y=(x.2.1+gL x.1,x.2.2+dm x.1 -1):=by
 rintro⟨x,nodes,deep⟩ ⟨hn,h0,h2,h3,h4,h5⟩;simp only at hn h0 h2 h3 h4 h5;have hd1:=Ha x;have hn1:=zr x;simp[lz,kM];refine⟨by simp only[InR];omega,λhkl=>?_⟩;refine ah (X:=Int×Int) [2,17] [] x.kids.length (λk z=>z.1=nodes+1+ (eX (x.kids.take k):Int)/\z.2=deep+ (iA (x.kids.take k):Int)) (λz=>[(1,enc z.1),(8,enc z.2)]) (λ_=>[]) (nodes+1,deep) (by simp[eX,iA]) ?_ ?_
 ·rintro k ⟨m,d⟩ hk ⟨e1,e2⟩;simp only at e1 e2;obtain⟨y,hy⟩:=ed hk;obtain⟨_,hgy⟩:=qzV.1 hy;have hm:=qch hy;have hd:=I3 (qzY hy);have hp:qoL n (y,m,deep+1):=⟨by show dm y<=n;omega,by show 0<=m;omega,by show m+gL y<=60;omega,by show 0<=deep+1;omega,by show deep+1+dm y<=1000;omega,by show dm y<=60;omega⟩
  have hm60:¬60<m:=by have:=zr y;omega
  simp[h1,hk,hy,hgy,hp,hm60];exact⟨by simp only[InR];omega,by omega,by rw[hm.2.1,e2];omega⟩
 ·rintro⟨m,d⟩ ⟨e1,e2⟩;simp only at e1 e2;rw[qAb]at e1 e2;simp;exact⟨by omega,by omega⟩
abbrev Vb:Spc:=aL (a1 Cond) (λx=>gL x<=60/\dm x<=60) (enc (X:=Bool)) λ_ y=>y=false
def Fj(h1:S cH=L8):am nC nh S (a1 Cond) (λx=>gL x<=60/\dm x<=60) (enc (X:=Bool)) λ_ y=>y=false:=by
 rintro x ⟨hn,hd⟩;have hp:∃n,qoL n (x,0,1):=⟨dm x,qz2 _,qBf _,by show(0:Int) +gL x<=60;omega,by show(0:Int)<=1;omega,by show(1:Int) +dm x<=1000;omega,hd⟩
 simp[nC,nh,h1,hp,-fB',-eB'];omega
abbrev PK:Spc:=aL (a1 Cond) (λx=>qlU x=true) (enc (X:=Bool)) λ_ y=>y=true
set_option maxHeartbeats 1000000 in
theorem DR:am bw bu S (a1 Cond) (λx=>qlU x=true) (enc (X:=Bool)) λ_ y=>y=true:=by
 rintro⟨op,name,arg,val,lab,fold,ks⟩ hx;have hx:qlU ⟨op,name,arg,val,lab,fold,ks⟩=true:=hx;unfold qlU at hx;simp only at hx;split at hx
 ·rename_i e;subst e;simp at hx;obtain⟨⟨rfl,rfl,rfl,rfl,rfl⟩,rfl⟩:=hx;simp[bw,bu,mD,-fB',-eB']
 split at hx
 ·rename_i e;subst e;simp at hx;obtain⟨⟨rfl,rfl⟩,rfl⟩:=hx;simp[bw,bu,mD,-fB',-eB']
 split at hx
 ·rename_i e;subst e;simp at hx;obtain⟨⟨rfl,rfl,rfl⟩,rfl⟩:=hx;simp[bw,bu,mD,-fB',-eB']
 split at hx
 ·rename_i e;subst e;simp at hx;obtain⟨⟨rfl,rfl⟩,rfl⟩:=hx;simp[bw,bu,mD,-fB',-eB']
 split at hx
 ·rename_i e;subst e;simp at hx;obtain⟨⟨rfl,rfl,hav⟩,rfl⟩:=hx;by_cases ha:arg=mD
  ·have hv:=hav.resolve_left λh=>h ha
   subst ha;subst hv;simp[bw,bu,mD,-fB',-eB']
  ·have ha':¬arg=⟨#[]⟩:=ha;simp[bw,bu,mD,ha',-fB',-eB']
 split at hx
 ·rename_i e;subst e;simp at hx;obtain⟨⟨rfl,rfl,rfl,rfl,rfl⟩,hk⟩:=hx;simp[bw,bu,mD,hk,-fB',-eB']
 split at hx
 ·rename_i e;simp at hx;obtain⟨⟨rfl,rfl,rfl,rfl,rfl⟩,hk1,hk2⟩:=hx;have q1:(2:Int)<=(ks.length:Int):=by omega
  have q2:(ks.length:Int)<=60:=by omega
  have q3:(ks.length:Int)<=9223372036854775807:=by omega
  rcases e with rfl|rfl<;>simp[bw,bu,mD,q1,q2,q3,-fB',-eB']
 ·cases hx
def M4{X:Type}(p:X->Bool):∀l:List X, -1<=kB l p/\kB l p<l.length
 | []=>⟨qBf _,by simp[kB]⟩
 | x::l=>by
   have:=M4 p l;rw[kB,qAD];split
   ·omega
   ·split<;>omega
open Classical in
noncomputable def aX{Z:Type}(v:Z->List D)(hi:∀z z',v z=v z'->z=z'):fT Z:=⟨λds=>if h:∃z,ds=v z then some h.choose else none,v,λds z h=>by
 split at h
 ·rename_i h';have e:h'.choose=z:=qAg h;rw[<-e,<-h'.choose_spec];exact⟨rfl,λk d d' h1 h2=>by rw[h1]at h2;cases h2;exact .same _⟩
 ·cases h⟩
open Classical in
def Jb{Z:Type}(v:Z->List D)(hi:∀z z',v z=v z'->z=z')(z:Z):(aX v hi).dec (v z)=some z:=by
 have h:∃z',v z=v z':=⟨z,rfl⟩
 show(if h:∃z',v z=v z' then some h.choose else none)=some z;rw[dif_pos h];exact congrArg some (hi _ _ h.choose_spec).symm
def Hd{Z:Type}(v:Z->List D)(hi:∀z z',v z=v z'->z=z')(z:Z):(aX v hi).view z=v z:=rfl
def qbH(x:Attr×B):List D:=[enc x.1, .cptr [enc x.2] 0]
def Uh(z z':Attr×B)(h:qbH z=qbH z'):z=z':=by
 obtain⟨a,s⟩:=z;obtain⟨a',s'⟩:=z';unfold qbH at h;simp only[qAA,D.cptr.injEq,and_true]at h;rw[bK h.1,bK h.2]
noncomputable abbrev qra:fT (Attr×B):=aX qbH Uh
noncomputable abbrev RH:Spc:=aL qra (λ_=>True) (enc (X:=Bool)) λx y=>y=decide (x.1.nm=x.2)
def xz:am gI gB S qra (λ_=>True) (enc (X:=Bool)) λx y=>y=decide (x.1.nm=x.2):=by
 rintro⟨a,s⟩ -;rw[Hd];simp[qbH,gI,gB,-fB',-eB']
abbrev Cy:Spc:=aL (a2 (List Attr) B) (λ_=>True) (enc (X:=Int)) λx y=>y=lR x.1 x.2
def AE(h0:S0 bX=RH)(h1:S eS=YD Attr S0):am ji iN S (a2 (List Attr) B) (λ_=>True) (enc (X:=Int)) λx y=>y=lR x.1 x.2:=by
 rintro⟨a,s⟩ -;have hf:FunOn S0 (.clo bX [.cptr [enc s] 0]) a λx=>decide (x.nm=s):=
  yg (f:=λx=>(x,s)) h0 (λx _=>Jb qbH Uh (x,s)) (λ_ _=>trivial) (λx _ y hy=>hy)
 simp[ji,iN,h1,-fB',-eB'];exact⟨⟨_,hf⟩,λy hy=>hy _ hf⟩
abbrev Ma:Spc:=aL (a2 (List Attr) B) (λx=>x.1.length<=1000) (enc (X:=Int)) λx y=>y=zB x.1 x.2
def Fk(h1:S bT=Cy):am jh iM S (a2 (List Attr) B) (λx=>x.1.length<=1000) (enc (X:=Int)) λx y=>y=zB x.1 x.2:=by
 rintro⟨a,s⟩ hl;have hl:a.length<=1000:=hl;have hin:InR .i64 ((a.length:Int) -1):=by simp only[InR];omega
 have hl':(a.length:Int)<=9223372036854775807:=by omega
 by_cases hs:s=mD
 ·subst hs;simp[jh,iM,mD,zB,hin,hl',-fB',-eB']
 ·have hs':¬s=⟨#[]⟩:=hs;simp[jh,iM,mD,zB,h1,hs',-fB',-eB']
def vK(t:List (List B))(i k:Int):B:=if i< 0\/k< 0 then mD else match t[i.toNat]? with
 |some r=>(match r[k.toNat]? with|some s=>s|none=>mD)
 |none=>mD
abbrev Vf:Spc:=aL (a3 Corpus Int Int) (λx=>x.1.toks.length<=100000/\∀r∈x.1.toks,r.length<=100000) (enc (X:=B)) λx y=>y=vK x.1.toks x.2.1 x.2.2
theorem Fm:am cp cb S (a3 Corpus Int Int) (λx=>x.1.toks.length<=100000/\∀r∈x.1.toks,r.length<=100000) (enc (X:=B)) λx y=>y=vK x.1.toks x.2.1 x.2.2:=by
 rintro⟨c,i,k⟩ ⟨hl,hr⟩;simp only at hl hr;have hl':(c.toks.length:Int)<=9223372036854775807:=by omega
 by_cases h0:i< 0
 ·simp[cp,cb,h0,vK,-fB',-eB'];rfl
 by_cases h1:(c.toks.length:Int)<=i
 ·have hn:c.toks[i.toNat]? =none:=qAt (by omega);by_cases h2:k< 0
  ·simp[cp,cb,h0,h1,h2,hl',vK,-fB',-eB'];rfl
  ·simp[cp,cb,h0,h1,h2,hl',hn,vK,-fB',-eB'];rfl
 by_cases h2:k< 0
 ·simp[cp,cb,h0,h1,h2,hl',vK,-fB',-eB'];rfl
 obtain⟨r,hri⟩:=ed (show i.toNat<c.toks.length by omega);obtain⟨_,hgr⟩:=qzV.1 hri;have hrl:=hr r (qzY hri);have hrl':(r.length:Int)<=9223372036854775807:=by omega
 have i0:0<=i:=by omega
 have i1:i<(c.toks.length:Int):=by omega
 have k0:0<=k:=by omega
 by_cases h3:(r.length:Int)<=k
 ·have hn:r[k.toNat]? =none:=qAt (by omega);simp[cp,cb,h0,h1,h2,h3,hl',hrl',hn,hri,hgr,i0,i1,vK,-fB',-eB'];rfl
 obtain⟨s,hsk⟩:=ed (show k.toNat<r.length by omega);obtain⟨_,hgs⟩:=qzV.1 hsk;have k1:k<(r.length:Int):=by omega
 simp[cp,cb,h0,h1,h2,h3,hl',hrl',hri,hgr,hsk,hgs,i0,i1,k0,k1,vK,-fB',-eB']
abbrev ZX:Spc:=aL (a1 B) (λs=>Ik s=true) (enc (X:=Bool)) λ_ y=>y=true
abbrev HU:Spc:=aL (a1 B) (λs=>BG s=true) (enc (X:=Int)) λ_ y=>y=0
abbrev s_sConB:Spc:=aL (a2 B B) (λx=>x.2=⟨#[124]⟩/\BG x.1=true) (enc (X:=Bool)) λx y=>y=qkj x.1
abbrev qex:Spc:=aL (a1 B) (λs=>∃r,ox s=some r) (enc (X:=Int)) λ_ y=>y=0
def As(l:List B)(s:B):Bool:=l.any λz=>decide (z=s)
abbrev YA:Spc:=aL (a2 (List B) B) (λ_=>True) (enc (X:=Bool)) λx y=>y=As x.1 x.2
abbrev RC:Spc:=aL (a2 (List B) B) (λ_=>True) (enc (X:=Int)) λx y=>y=kB x.1 λz=>decide (z=x.2)
theorem Lt:am iW iD S (a2 (List B) B) (λ_=>True) (enc (X:=Int)) λx y=>y=kB x.1 λz=>decide (z=x.2):=by
 rintro⟨l,s⟩ -;simp[iW,iD,-fB',-eB'];intro _;refine ah (X:=Unit) [0,1] [] l.length (λk _=>∀x∈l.take k,decide (x=s)=false) (λ_=>[]) (λ_=>[]) () (by simp) ?_ ?_
 ·intro k _ hk hP;obtain⟨x,hx⟩:=ed hk;obtain⟨_,hgx⟩:=qzV.1 hx;simp[hk,hx,hgx,-fB',-eB'];refine⟨λh=>?_,λh=>?_⟩
  ·exact(tF hx (by simp[h]) hP).symm
  ·rw[au hx];intro z hz;rcases qz5.1 hz with hz|hz
   ·have:=hP z hz;simpa using this
   ·simp at hz;subst hz;exactλe=>h e.symm
 ·intro _ hP;simp[-fB',-eB'];exact(lK (by simpa using hP)).symm
def Fq(h1:S dJ=RC):am cE cB S (a2 (List B) B) (λ_=>True) (enc (X:=Bool)) λx y=>y=As x.1 x.2:=by
 rintro⟨l,s⟩ -;simp[cE,cB,h1,-fB',-eB'];exact zy _ l
abbrev U7:Spc:=aL (a2 Cond (List Attr)) (λx=>qkY x.2 x.1=true/\x.2.length<=1000) (enc (X:=Bool)) λ_ y=>y=true
theorem Fh(h1:S kp=Ma)(h2:S bT=Cy)(h3:S bJ=ZX):am cn ca S (a2 Cond (List Attr)) (λx=>qkY x.2 x.1=true/\x.2.length<=1000) (enc (X:=Bool)) λ_ y=>y=true:=by
 rintro⟨⟨op,name,arg,val,lab,fold,ks⟩,a⟩ ⟨hx,hl⟩;have hx:qkY a ⟨op,name,arg,val,lab,fold,ks⟩=true:=hx;have hl:a.length<=1000:=hl;unfold qkY at hx;simp only at hx;split at hx
 ·rename_i e;subst e;simp at hx;simp[cn,ca,h1,hl,hx,-fB',-eB']
 rename_i e2;split at hx
 ·rename_i e;subst e;simp at hx;simp[cn,ca,h2,hx,-fB',-eB']
 rename_i e3;split at hx
 ·rename_i e;subst e;simp at hx;simp[cn,ca,h2,hx.1,hx.2,-fB',-eB']
 rename_i e4;split at hx
 ·rename_i e;subst e;simp at hx;obtain⟨hn,ha⟩:=hx;by_cases hae:arg=mD
  ·subst hae;simp[cn,ca,h3,hn,mD,-fB',-eB']
  ·have ha':=ha.resolve_left hae;have hae':¬arg=⟨#[]⟩:=hae;simp[cn,ca,h3,hn,ha',hae',-fB',-eB']
 rename_i e5;simp[cn,ca,e2,e3,e4,e5,-fB',-eB']
abbrev Ve:Spc:=aL (a3 Cond (List Attr) (List B)) (λx=>pW x.2.1 x.2.2 x.1=true/\x.2.1.length<=1000) (enc (X:=Int)) λ_ y=>y=0
theorem Fl(h1:S pn=PK)(h2:S pp=U7)(h3:S rq=qex)(h4:S bT=Cy)(h5:S uJ=s_sConB)(h6:S cG=HU)(h7:S aZ=YA):
 am dc cZ S (a3 Cond (List Attr) (List B)) (λx=>pW x.2.1 x.2.2 x.1=true/\x.2.1.length<=1000) (enc (X:=Int)) λ_ y=>y=0:=by
 rintro⟨x,a,lb⟩ ⟨hx,hl⟩;have hx:pW a lb x=true:=hx;have hl:a.length<=1000:=hl;unfold pW at hx;simp only[qzZ]at hx;obtain⟨⟨hs,hn⟩,hc⟩:=hx;obtain⟨op,name,arg,val,lab,fold,ks⟩:=x;unfold qtV at hc;simp only at hc;have e:(Cond.mk op name arg val lab fold ks)=⟨op,name,arg,val,lab,fold,ks⟩:=rfl;split at hc
 ·rename_i e;subst e;obtain⟨r,hr⟩:=qAW.1 hc;simp[dc,cZ,h1,h2,h3,hs,hn,hl,hr,-fB',-eB']
 rename_i e2;split at hc
 ·rename_i e;subst e;simp only[qzZ]at hc;obtain⟨⟨⟨c1,c2⟩,c3⟩,c4⟩:=hc;have hn':0<=lR a name:=by simpa [qkY]using hn
  have hrg:=(M4 (λx:Attr=>decide (x.nm=name)) a).2;have hlt:lR a name<a.length:=hrg;obtain⟨b,hb⟩:=ed (show(lR a name).toNat<a.length by omega);obtain⟨_,hgb⟩:=qzV.1 hb;rw[hb]at c1;have c1:b.st=true:=c1;have c2:¬val=⟨#[]⟩:=of_decide_eq_true c2;have c3:qkj val=false:=by simpa using c3
  simp[dc,cZ,h1,h2,h4,h5,h6,hs,hn,hl,hn',hlt,hb,hgb,c1,c2,c3,c4,-fB',-eB']
 rename_i e3;split at hc
 ·rename_i e;subst e;have hc:As lb lab=true:=hc;simp[dc,cZ,h1,h2,h7,hs,hn,hl,hc,-fB',-eB']
 rename_i e4;split at hc
 ·rename_i e;subst e;simp[dc,cZ,h1,h2,h6,hs,hn,hl,hc,-fB',-eB']
 rename_i e5;simp[dc,cZ,h1,h2,hs,hn,hl,e2,e3,e4,e5,-fB',-eB']
end Go.Gv
namespace Go.Gv
open Go.Proofs
def pG:CC:=oX [oB 2 (.mv (.const ob))] [0] [] (oX [oA 3 0,oB 4 (.cmp .geq (oT 3) (.const (.int .u8 65))),oA 5 4,oH 6 5 (.mv (oT 0)),oH 7 5 (.cmp .leq (oT 6) (.const (.int .u8 90))),oB 8 (.pick (oT 5) (oT 7) (.const ob)),oA 9 8,oI 10 9 (.mv (oT 0)),oI 11 9 (.cmp .geq (oT 10) (.const (.int .u8 97))),oI 12 9 (.mv (oT 11)),oH 13 12 (.mv (oT 0)),
 oH 14 12 (.cmp .leq (oT 13) (.const (.int .u8 122))),oI 15 9 (.pick (oT 12) (oT 14) (.const ob)),oB 16 (.pick (oT 9) (.const (.bool true)) (oT 15)),oA 17 16,oI 18 17 (.mv (oT 0)),oI 19 17 (.eql false false [.int] (oT 18) (.const (.int .u8 95))),oB 20 (.pick (oT 17) (.const (.bool true)) (oT 19)),oA 2 20] [2] [] (.ret))
def oh:List ak:=[.tmp 2]
def pF:CC:=oX [oB 2 (.mv (.const ob))] [0] [] (oX [oA 3 0,oZ 4 ct [oT 3],oA 5 4,oI 6 5 (.mv (oT 0)),oI 7 5 (.cmp .geq (oT 6) (.const (.int .u8 48))),oI 8 5 (.mv (oT 7)),oH 9 8 (.mv (oT 0)),oH 10 8 (.cmp .leq (oT 9) (.const (.int .u8 57))),oI 11 5 (.pick (oT 8) (oT 10) (.const ob)),oB 12 (.pick (oT 5) (.const (.bool true)) (oT 11)),oA 13 12,
 oI 14 13 (.mv (oT 0)),oI 15 13 (.eql false false [.int] (oT 14) (.const (.int .u8 45))),oB 16 (.pick (oT 13) (.const (.bool true)) (oT 15)),oA 2 16] [2] [] (.ret))
def od:List ak:=[.tmp 2]
def lr:CC:=oX [oB 2 (.mv (.const ob))] [0] [] (.seq (oX [oA 4 0,oB 5 (.slen (oT 4)),oB 6 (.cmp .lss (oT 5) (oN 1)),oA 7 6,oI 8 7 (.mv (oT 0)),oI 9 7 (.slen (oT 8)),oI 10 7 (.cmp .gtr (oT 9) (oN 32)),oB 11 (.pick (oT 7) (.const (.bool true)) (oT 10)),oA 12 11,oI 13 12 (.mv (oT 0)),oI 14 12 (.sidx (oT 13) (oN 0)),oI 15 12 (.call ct [oT 14]),
 oI 16 12 (.not (oT 15)),oB 17 (.pick (oT 12) (.const (.bool true)) (oT 16))] [0,17] [] (.ite (oT 17) (oX [oB 2 (.mv (.const ob))] [2] [] (.ret)) (.skip))) (.keep [0] [] (.seq (oX [oA 18 0,oB 19 (.slen (oT 18)),oB 20 (.mv (oN 0))] [0,19,20] [] (fF 0 20 19 21 1 (oX [oA 22 20,oA 3 22] [0,3,19,20] [] (oX [oA 23 0,oA 24 3,oB 25 (.sidx (oT 23) (oT 24)),oZ 26 eV [oT 25],
 oB 27 (.not (oT 26))] [0,19,20,27] [] (.ite (oT 27) (oX [oB 2 (.mv (.const ob))] [2] [] (.ret)) (.skip)))) 28)) (.keep [] [] (oX [oB 2 (.mv (.const (.bool true)))] [2] [] (.ret))))))
def kJ:List ak:=[.tmp 2]
def lp:CC:=gq Tryz.f183 [] {} _
def kI:List ak:=[.tmp 2]
def By:FO cG [] lp kI 24:=fo
def mw:CC:=gq Tryz.f196 [] {} _
def lV:List ak:=[.tmp 4]
def C0:FO nn [] mw lV 17:=fo
def vA:CC:=gq Tryz.f138 [] {} _
def uz:List ak:=[.tmp 4]
def MK:FO wW [] vA uz 19:=fo
def cz:CC:=gq Tryz.f195 [] {} _
def cv:List ak:=[.tmp 2, .tmp 3]
def Ih:FO sH [] cz cv 71:=fo
open Cod (enc dec)
variable {S S0:Nat->Spc}
def Tg(c:Int):Bool:=(decide (65<=c) && decide (c<=90))||(decide (97<=c) && decide (c<=122))||decide (c=95)
def qoo(c:Int):Bool:=Tg c||(decide (48<=c) && decide (c<=57))||decide (c=45)
abbrev qeD:Spc:=aL (a1 U8) (λ_=>True) (enc (X:=Bool)) λc y=>y=Tg c.val
def HA:am pG oh S (a1 U8) (λ_=>True) (enc (X:=Bool)) λc y=>y=Tg c.val:=by
 rintro⟨c⟩ -;by_cases h1:(65:Int)<=c<;>by_cases h2:c<=90<;>by_cases h3:(97:Int)<=c<;>by_cases h4:c<=122<;>by_cases h5:c=95<;>
  simp[pG,oh,Tg,h1,h2,h3,h4,h5,-fB',-eB']
abbrev PI:Spc:=aL (a1 U8) (λ_=>True) (enc (X:=Bool)) λc y=>y=qoo c.val
def Hz(h0:S ct=qeD):am pF od S (a1 U8) (λ_=>True) (enc (X:=Bool)) λc y=>y=qoo c.val:=by
 rintro⟨c⟩ -;cases hb:Tg c<;>by_cases h1:(48:Int)<=c<;>by_cases h2:c<=57<;>by_cases h3:c=45<;>
  simp[pF,od,qoo,h0,hb,h1,h2,h3,-fB',-eB']
def qhd(c:UInt8):qbd c=Tg (c.toNat:Int):=by
 unfold qbd Tg;rw[qAB];simp;omega
def qp6(c:UInt8):qwj c=qoo (c.toNat:Int):=by
 unfold qwj qoo;rw[qhd];cases Tg (c.toNat:Int)
 ·rw[qAB];simp;omega
 ·simp
theorem CV(h1:S ct=qeD)(h2:S eV=PI):am lr kJ S (a1 B) (λs=>Ik s=true) (enc (X:=Bool)) λ_ y=>y=true:=by
 rintro s hs;have hs:Ik s=true:=hs;unfold Ik at hs;simp only[qzZ,decide_eq_true_eq]at hs;obtain⟨⟨⟨q1,q2⟩,q3⟩,q4⟩:=hs;simp[lr,kJ,h1,h2,-fB',-eB'];have r1:(1:Int)<=(s.size:Int):=by omega
 have r2:(s.size:Int)<=32:=by omega
 have r3:(s.size:Int)<=9223372036854775807:=by omega
 have hsl:s.data.toList.length=s.size:=qAi;refineλ_=>⟨λ_ _=>⟨λ_=>⟨by omega,λc hc=>?_⟩,r2⟩,r1⟩
 have hc':s.data.toList[0]? =some c:=by rw[qAn];exact hc
 have hb:Tg (c.toNat:Int)=true:=by
  rw[<-qhd];cases hl:s.data.toList with
  |nil=>rw[hl]at hc';cases hc'
  | cons d l=>
    rw[hl]at hc' q3;cases hc';exact q3
 refine⟨hb,λ_ _=>?_⟩;refine ah (X:=Unit) [0] [] s.size (λ_ _=>True) (λ_=>[]) (λ_=>[]) () trivial ?_ ?_
 ·rintro k -hk -;obtain⟨d,hd⟩:=ed (show k<s.data.toList.length by omega);have hg:qoo (d.toNat:Int)=true:=by rw[<-qp6];exact qz4.1 q4 d (qzY hd)
  have hd':s.data[k]? =some d:=by rw[<-qAn];exact hd
  obtain⟨_,hgd⟩:=qz3.1 hd';simp[hk,hd',hgd,hg,h2,-fB',-eB']
 ·rintro - -;simp[-fB',-eB']
theorem CU(h1:S pu=s_cpVal):am lp kI S (a1 B) (λs=>BG s=true) (enc (X:=Int)) λ_ y=>y=0:=by
 rintro s hs;have hs:BG s=true:=hs;unfold BG at hs;simp only[qzZ,decide_eq_true_eq]at hs;obtain⟨q1,q2⟩:=hs;have ha:Ah s=true:=by
  unfold Ah;refine qz4.2 λc hc=>?_
  have:=qz4.1 q2 c hc;simp at this;simp;omega
 have r1:(s.size:Int)<=120:=by omega
 have r2:(s.size:Int)<=9223372036854775807:=by omega
 have r3:s.size<=1000:=by omega
 have r4:¬(120:Int)<(s.size:Int):=by omega
 simp[lp,kI,h1,ha,r1,r2,r3,r4,-fB',-eB'];intro b;refine ay (X:=Nat) [] [] (λp=>p<=s.size) (λp=>[(14, .bptr 14 b 0)]) (λp=>[(14, .iter b s p)]) (λp=>s.size -p) 0 (qAr _) ?_;rintro p hp;by_cases hlt:p<s.size
 ·obtain⟨c,hc,hc128,hdec⟩:=QA ha hlt;have hcm:=qz4.1 q2 c (qzY hc);simp at hcm;have n1:¬(c.toNat:Int)<=31:=by omega
  have n2:¬(c.toNat:Int)=127:=by omega
  simp[hlt,hdec,n1,n2,-fB',-eB'];exact⟨p+1,by omega, .inl rfl,by omega⟩
 ·have hpe:p=s.size:=by omega
  subst hpe;simp[-fB',-eB']
def qkC(x:Cond×List Attr×List B):List D:=[enc x.1, .cptr [enc x.2.1] 0, .cptr [enc x.2.2] 0]
def ZO(z z':Cond×List Attr×List B)(h:qkC z=qkC z'):z=z':=by
 obtain⟨a,s,l⟩:=z;obtain⟨a',s',l'⟩:=z';unfold qkC at h;simp only[qAA,D.cptr.injEq,and_true]at h;rw[bK h.1,bK h.2.1,bK h.2.2]
noncomputable abbrev aVd:fT (Cond×List Attr×List B):=aX qkC ZO
@[simp] theorem qrK(x:Cond)(a:List Attr)(lb:List B):aVd.dec [.agg [.v (.int .i64 x.op), .v (.string x.name), .v (.string x.arg), .v (.string x.val), .v (.string x.lab), .v (.bool x.fold), .list 7 (x.kids.map enc)], .cptr [.list 2 (a.map enc)] 0, .cptr [.list 1 (lb.map enc)] 0]=some (x,a,lb):=by
 have h:=Jb qkC ZO (x,a,lb);have e:qkC (x,a,lb)=[.agg [.v (.int .i64 x.op), .v (.string x.name), .v (.string x.arg), .v (.string x.val), .v (.string x.lab), .v (.bool x.fold), .list 7 (x.kids.map enc)], .cptr [.list 2 (a.map enc)] 0, .cptr [.list 1 (lb.map enc)] 0]:=by simp[qkC]
 rw[<-e];exact h
noncomputable abbrev qae:Spc:=aL aVd (λx=>pW x.2.1 x.2.2 x.1=true/\x.2.1.length<=1000) (enc (X:=Int)) λ_ y=>y=0
def yv(h1:S pq=Ve):am ir gX S aVd (λx=>pW x.2.1 x.2.2 x.1=true/\x.2.1.length<=1000) (enc (X:=Int)) λ_ y=>y=0:=by
 rintro⟨x,a,lb⟩ ⟨hx,hl⟩;simp only at hx hl;rw[Hd];simp[qkC,ir,gX,h1,hx,hl,-fB',-eB']
def qrg(n:Nat)(x:Cond×D×Unit):Prop:=∃(a:List Attr) (lb:List B),x.2.1= .clo cx [.cptr [enc a] 0, .cptr [enc lb] 0]/\rH a lb n x.1=true/\a.length<=1000/\gL x.1<=60
noncomputable abbrev U4(n:Nat):Spc:=aL (aE Cond (aD a0)) (qrg n) (enc (X:=Int)) λx y=>y=0
noncomputable abbrev U3:Spc:=aL (aE Cond (aD a0)) (λx=>∃n,qrg n x) (enc (X:=Int)) λx y=>y=0
theorem Fg(n:Nat)(h1:S cx=qae)(h2:S ic=U4 n):am pP ov S (aE Cond (aD a0)) (qrg (n+1)) (enc (X:=Int)) λx y=>y=0:=by
 rintro⟨x,d,⟨⟩⟩ ⟨a,lb,hd,hx,hl,hn⟩;simp only at hd hx hn;subst hd;simp only[rH,qzZ]at hx;obtain⟨hx1,hx2⟩:=hx;simp[pP,ov,h1,hx1,hl,-fB',-eB'];intro hkl;refine ah (X:=Unit) [1,16] [] x.kids.length (λk _=>True) (λ_=>[]) (λ_=>[]) () (by simp) ?_ ?_
 ·rintro k -hk -;obtain⟨y,hy⟩:=ed hk;obtain⟨_,hgy⟩:=qzV.1 hy;have hm:=qzY hy;have hny:=Im hm;have hnx:=zr x;have hp:qrg n (y, .clo cx [.cptr [.list 2 (a.map enc)] 0, .cptr [.list 1 (lb.map enc)] 0],()):=⟨a,lb,rfl,qz4.1 hx2 y hm,hl,by show gL y<=60;omega⟩
  simp[h2,hk,hy,hgy,hp,-fB',-eB']
 ·rintro - -;simp[-fB',-eB']
abbrev Tt(x:Cond×List Attr×List B):Prop:=qhW x.2.1 x.2.2 x.1=true/\x.2.1.length<=1000
abbrev RG:Spc:=aL (a3 Cond (List Attr) (List B)) Tt (enc (X:=Int)) λ_ y=>y=0
def A1(h1:S cH=L8)(h2:S ic=U3):am jS jE S (a3 Cond (List Attr) (List B)) Tt (enc (X:=Int)) λ_ y=>y=0:=by
 rintro⟨x,a,lb⟩ ⟨hx,hl⟩;simp only at hx hl;unfold qhW at hx;simp at hx;obtain⟨⟨hn,hd⟩,ha⟩:=hx;have hp:∃n,qoL n (x,0,1):=⟨dm x,qz2 _,qBf _,by show(0:Int) +gL x<=60;omega,by show(0:Int)<=1;omega,by show(1:Int) +dm x<=1000;omega,by show dm x<=60;omega⟩
 have hw:∃n,qrg n (x, .clo cx [.cptr [.list 2 (a.map enc)] 0, .cptr [.list 1 (lb.map enc)] 0],()):=⟨20,a,lb,rfl,ha,hl,hn⟩
 have q1:¬(60:Int)<(gL x:Int):=by omega
 have q2:¬(20:Int)< 1+ (dm x:Int) -1:=by omega
 simp[jS,jE,h1,h2,hp,hw,q1,q2,-fB',-eB']
def qfV(l:List Pair)(s:Pair):Bool:=l.any λz=>decide (z=s)
abbrev Z4:Spc:=aL (a2 (List Pair) Pair) (λ_=>True) (enc (X:=Int)) λx y=>y=kB x.1 λz=>decide (z=x.2)
abbrev Z9:Spc:=aL (a2 (List Pair) Pair) (λ_=>True) (enc (X:=Bool)) λx y=>y=qfV x.1 x.2
theorem Q7:am li kE S (a2 (List Pair) Pair) (λ_=>True) (enc (X:=Int)) λx y=>y=kB x.1 λz=>decide (z=x.2):=by
 rintro⟨l,s⟩ -;simp[li,kE,-fB',-eB'];intro _;refine ah (X:=Unit) [0,3] [] l.length (λk _=>∀x∈l.take k,decide (x=s)=false) (λ_=>[]) (λ_=>[]) () (by simp) ?_ ?_
 ·intro k _ hk hP;obtain⟨x,hx⟩:=ed hk;obtain⟨_,hgx⟩:=qzV.1 hx;simp[hk,hx,hgx,-fB',-eB'];have hpe:s.nm=x.nm->s.vl=x.vl->x=s:=λh1 h2=>by
   obtain⟨a,b⟩:=x;obtain⟨a',b'⟩:=s;simp only at h1 h2;rw[h1,h2]
  refine⟨λh1 h2=>(tF hx (by simp[hpe h1 h2]) hP).symm,λh=>?_⟩;rw[au hx];intro z hz;rcases qz5.1 hz with hz|hz
  ·have:=hP z hz;simpa using this
  ·simp at hz;subst hz;intro e;subst e;exact h rfl rfl
 ·intro _ hP;simp[-fB',-eB'];exact(lK (by simpa using hP)).symm
def J3(h1:S mf=Z4):am ij gS S (a2 (List Pair) Pair) (λ_=>True) (enc (X:=Bool)) λx y=>y=qfV x.1 x.2:=by
 rintro⟨l,s⟩ -;simp[ij,gS,h1,-fB',-eB'];exact zy _ l
def Mk(x:Cond)(tok:Int)(r:Region):Bool:=decide (r.ty=x.name) && decide (r.b<=tok) && decide (tok<r.e) && (decide (x.arg=mD)||qfV r.kv ⟨x.arg,x.val⟩)
def qdm(x:Cond):List D:=[.v (.int .i64 x.op), .v (.string x.name), .v (.string x.arg), .v (.string x.val), .v (.string x.lab), .v (.bool x.fold), .list 7 (x.kids.map enc)]
def qba(x:Cond): .agg (qdm x)=enc x:=by simp[qdm]
def qka{x y:Cond}(h:qdm x=qdm y):x=y:=bK (by rw[<-qba,<-qba,h])
def qhS(x:Region×Cond×Int):List D:=[enc x.1, .cptr (qdm x.2.1) 0, .cptr [enc x.2.2] 0]
def ZP(z z':Region×Cond×Int)(h:qhS z=qhS z'):z=z':=by
 obtain⟨a,s,l⟩:=z;obtain⟨a',s',l'⟩:=z';unfold qhS at h;simp only[qAA,D.cptr.injEq,and_true]at h;rw[bK h.1,qka h.2.1,bK h.2.2]
noncomputable abbrev qy3:fT (Region×Cond×Int):=aX qhS ZP
noncomputable abbrev FY:Spc:=aL qy3 (λ_=>True) (enc (X:=Bool)) λx y=>y=Mk x.2.1 x.2.2 x.1
def AZ(h1:S iR=Z9):am bV bS S qy3 (λ_=>True) (enc (X:=Bool)) λx y=>y=Mk x.2.1 x.2.2 x.1:=by
 rintro⟨r,x,tok⟩ -;rw[Hd];by_cases e1:r.ty=x.name
 rotate_left
 ·simp[qhS,qdm,bV,bS,Mk,e1,-fB',-eB']
 by_cases e2:r.b<=tok
 rotate_left
 ·simp[qhS,qdm,bV,bS,Mk,e1,e2,-fB',-eB']
 by_cases e3:tok<r.e
 rotate_left
 ·simp[qhS,qdm,bV,bS,Mk,e1,e2,e3,-fB',-eB']
 by_cases e4:x.arg=mD
 ·have e4':x.arg=⟨#[]⟩:=e4;simp[qhS,qdm,bV,bS,Mk,e1,e2,e3,e4,e4',mD,-fB',-eB']
 ·have e4':¬x.arg=⟨#[]⟩:=e4;simp[qhS,qdm,bV,bS,Mk,h1,e1,e2,e3,e4,e4',-fB',-eB']
abbrev qez:Spc:=aL (a3 Corpus Cond Int) (λ_=>True) (enc (X:=Bool)) λx y=>y=x.1.regs.any (Mk x.2.1 x.2.2)
def DS(h0:S0 cj=FY)(h1:S eU=qbX Region S0):am mz lX S (a3 Corpus Cond Int) (λ_=>True) (enc (X:=Bool)) λx y=>y=x.1.regs.any (Mk x.2.1 x.2.2):=by
 rintro⟨c,x,tok⟩ -;have hf:FunOn S0 (.clo cj [.cptr (qdm x) 0, .cptr [enc tok] 0]) c.regs (Mk x tok):=
  yg (f:=λr=>(r,x,tok)) h0 (λr _=>Jb qhS ZP (r,x,tok)) (λ_ _=>trivial) (λr _ y hy=>hy)
 unfold qdm at hf;simp[mz,lX,h1,-fB',-eB'];exact⟨⟨_,hf⟩,λy hy=>hy _ hf⟩
mutual
def tB:Cond->Bool| .mk op _ _ _ _ _ ks=>decide (op=4)||UT ks
def UT:List Cond->Bool|[]=>false|k::ks=>tB k||UT ks
end
def Px:∀l:List Cond,UT l=l.any tB
 | []=>by rw[UT];rfl
 |k::l=>by rw[UT,Px l];rfl
def Ru(x:Cond):tB x=(decide (x.op=4)||x.kids.any tB):=by cases x;rw[tB,Px]
abbrev FX(n:Nat):Spc:=aL (a1 Cond) (λx=>dm x<=n) (enc (X:=Bool)) λx y=>y=tB x
def HH(n:Nat)(h0:S0 bF=FX n)(h1:S bE=qbX Cond S0):am ku kb S (a1 Cond) (λx=>dm x<=n+1) (enc (X:=Bool)) λx y=>y=tB x:=by
 rintro x hd;have hd:dm x<=n+1:=hd;have hf:FunOn S0 (.clo bF []) x.kids tB:=
  yg (f:=λk=>k) h0 (λk _=>by rw[qnF,Cod.dec_enc]) (λk hk=>by have:=NK hk;show dm k<=n;omega) (λr _ y hy=>hy)
 have hsc:=Ru x;by_cases e:x.op=4
 ·simp[ku,kb,h1,hsc,e,-fB',-eB']
 ·simp[ku,kb,h1,hsc,e,-fB',-eB'];exact⟨⟨_,hf⟩,λy hy=>hy _ hf⟩
end Go.Gv
namespace Go.Gv
open Cod (enc dec)
variable {dq:Prop}
@[simp] theorem qwC(s:Rp):Rp.mk s.s s.pos s.fault s.e=s:=by cases s;rfl
def sJ(s:Rp):List D:=[enc s.s,enc s.pos,enc s.fault,enc s.e]
@[simp] theorem qtX(s:Rp):sJ s=[enc s.s,enc s.pos,enc s.fault,enc s.e]:=i' rfl
section
variable {Y Z:Type}
def qlZ:Pk Rp:=qc6 sJ
def qu9(A:fT Z)(er:Y->D)(pre:Rp->Z->Prop)(post:Rp->Z->Rp->Y->Prop):Spc:=qqY qlZ A er pre post
def qx7(er:Y->D)(pre:Rp->Z->Prop)(post:Rp->Z->Rp->Y->Prop)(id b:Nat)(r:Option Res)(o:Option Z)(H:ab)(K:D->ab->Prop):Prop:=
 ∃x,r=some (.box b (sJ x))/\gY o λz=>pre x z/\∀x' y,post x z x' y->K (er y) (ai H id (some (.box b (sJ x'))))
def qg8{x y:Rp}(h:sJ x=sJ y):x=y:=by
 obtain⟨l,a,d,e⟩:=x;obtain⟨l',a',d',e'⟩:=y;simp only[sJ,qAA]at h;obtain⟨h1,h2,h3,h4,_⟩:=h;have h1:=bK h1;have h2:=bK h2;have h3:=bK h3;have h4:=bK h4;subst h1;subst h2;subst h3;subst h4;rfl
@[simp] theorem qlY(A:fT Z)(er:Y->D)(pre:Rp->Z->Prop)(post:Rp->Z->Rp->Y->Prop)(d i b:Nat)(ds:List D)(H:ab)(K:D->ab->Prop):(qu9 A er pre post).pt d (.bptr i b 0::ds) H K=qx7 er pre post i b (H i) (A.dec ds) H K:=by
 refine propext ⟨λh=>?_,λh=>?_⟩
 ·obtain⟨id,b',x,z,ds',h1,h2,h3,h4,h5,h6,h7⟩:=h;cases h1;refine⟨x,h3,?_⟩;rw[h2];exact⟨h6,h7⟩
 ·obtain⟨x,h1,h2⟩:=h;cases hz:A.dec ds with
  |none=>rw[hz]at h2;exact h2.elim
  |some z=>rw[hz]at h2;exact⟨i,b,x,z,ds,rfl,hz,h1,λp hp=>by simp[qlZ,qc6]at hp,by simp[qlZ,qc6],h2.1,h2.2⟩
def Hi(er:Y->D)(b:Nat)(post:Rp->Y->Prop)(r:D)(H:ab):Prop:=QE qlZ er b post r H
def GJ{er:Y->D}{b:Nat}{post:Rp->Y->Prop}{r:D}{H:ab}(x:Rp)(y:Y)(hr:FrzTo (λi=>if i=0 then none else H i) r (er y))(h0:H 0=some (.box b (sJ x)))(hq:post x y):Hi er b post r H:=
 ⟨x,y,by simpa [qlZ,qc6]using hr,h0,λp hp=>by simp[qlZ,qc6]at hp,hq⟩
def vF(cc:CC)(rs:List ak)(S:Nat->Spc)(A:fT Z)(er:Y->D)(pre:Rp->Z->Prop)(post:Rp->Z->Rp->Y->Prop):Prop:=
 ∀b x z,pre x z->vc S cc (vN rs λr H'=>Hi er b (post x z) r H') (dC (.bptr 0 b 0::A.view z)) (ai cY 0 (some (.box b (sJ x))))
variable {P:Program}{S:Nat->Spc}{f:Nat}{im:List Nat}{cc:CC}{rs:List ak}{N:Nat}
def Yh{A:fT Z}{er:Y->D}{pre:Rp->Z->Prop}{post:Rp->Z->Rp->Y->Prop}(hS:∀f,Tri dq P f (S f).pt)(h:Ak P f im cc rs N)(hN:∀z,(A.view z).length+1<=N)(hw:vF cc rs S A er pre post):Tri dq P f (qu9 A er pre post).pt:=
 D2 (by simp[qlZ,qc6]) hS h hN λb x z hp=>hw b x z hp
end
section
variable {Y Z:Type}
def qdj(A:fT Z)(er:Y->D)(F:Rp->Z->Option (Rp×Y)):Spc:=qu9 A er (λs z=>∃r,F s z=some r) (λs z s' y=>F s z=some (s',y))
def qeM(er:Y->D)(F:Rp->Z->Option (Rp×Y))(id b:Nat)(r:Option Res)(o:Option Z)(H:ab)(K:D->ab->Prop):Prop:=
 ∃x,r=some (.box b (sJ x))/\gY o λz=>gY (F x z) λq=>K (er q.2) (ai H id (some (.box b (sJ q.1))))
@[congr] theorem qr1{er:Y->D}{F:Rp->Z->Option (Rp×Y)}{id b:Nat}{r r':Option Res}{o o':Option Z}{H:ab}{K:D->ab->Prop}(h1:r=r')(h2:o=o'):qeM er F id b r o H K=qeM er F id b r' o' H K:=by subst h1;subst h2;rfl
def qmj{F:Option (Rp×Y)}{k:Rp->Y->Prop} :((∃r,F=some r)/\∀x' y,F=some (x',y)->k x' y)=gY F λq=>k q.1 q.2:=by
 cases F with
 | none=>
   refine propext (Iff.intro (λh=>?_) (λh=>?_))
   ·obtain⟨⟨r,h⟩,_⟩:=h;cases h
   ·exact False.elim h
 | some r=>
   refine propext (Iff.intro (λh=>h.2 _ _ rfl) (λh=>⟨⟨_,rfl⟩,λx' y e=>?_⟩));cases e;exact h
@[simp] theorem qu7(A:fT Z)(er:Y->D)(F:Rp->Z->Option (Rp×Y))(d i b:Nat)(ds:List D)(H:ab)(K:D->ab->Prop):(qdj A er F).pt d (.bptr i b 0::ds) H K=qeM er F i b (H i) (A.dec ds) H K:=by
 unfold qdj qeM;rw[qlY];unfold qx7;refine propext (exists_congr λx=>and_congr_right λ_=>?_);cases A.dec ds with
 |none=>exact qAY
 |some z=>exact iff_of_eq qmj
@[simp] theorem qu8(er:Y->D)(F:Rp->Z->Option (Rp×Y))(id b:Nat)(l:B)(p dp e:Int)(o:Option Z)(H:ab)(K:D->ab->Prop):
 qeM er F id b (some (.box b [.v (.string l), .v (.int .i64 p), .v (.int .i64 dp), .v (.int .i64 e)])) o H K=gY o λz=>gY (F ⟨l,p,dp,e⟩ z) λq=>K (er q.2) (ai H id (some (.box b (sJ q.1)))):=by
 refine propext ⟨λ⟨x,h1,h2⟩=>?_,λh=>⟨⟨l,p,dp,e⟩,rfl,h⟩⟩;have e1:sJ ⟨l,p,dp,e⟩=sJ x:=by
  have:=qAg h1;exact(Res.box.inj this).2
 have:=qg8 e1;subst this;exact h2
variable {P:Program}{S:Nat->Spc}{f:Nat}{im:List Nat}{cc:CC}{rs:List ak}{N:Nat}
def fU{A:fT Z}{er:Y->D}{F:Rp->Z->Option (Rp×Y)}(hS:∀f,Tri dq P f (S f).pt)(h:Ak P f im cc rs N)(hN:∀z,(A.view z).length+1<=N)
 (hw:vF cc rs S A er (λs z=>∃r,F s z=some r) (λs z s' y=>F s z=some (s',y))):Tri dq P f (qdj A er F).pt:=Yh hS h hN hw
end
end Go.Gv
namespace Go.Gv
open Go.Proofs
def gk:CC:=gq Tryz.f286 [] { ke:=[0] } _
def fV:List ak:=[.tmp 2]
def Bt:FO bA [] gk fV 29:=fo
def ll:CC:=gq Tryz.f333 [] { bx:=[0] } _
def kG:List ak:=[]
def Bq:FO mg [] ll kG 25:=fo
def fO:CC:=gq Tryz.f325 [] { bx:=[0] } _
def fI:List ak:=[.tmp 4, .tmp 5]
def vP:FO ei [] fO fI 37:=fo
def ja:CC:=gq Tryz.f329 [] { bx:=[0] } _
def iH:List ak:=[.tmp 2, .tmp 3]
def zi:FO jI [] ja iH 27:=fo
def zO:CC:=gq Tryz.f322 [] {} _
def yF:List ak:=[.cell 4 true 5]
def RY:FO BN [] zO yF 10:=fo
def eI:CC:=gq Tryz.f314 [2002002] { bx:=[0] } _
def eA:List ak:=[.cell 2 true 5, .tmp 3]
def Bu:FO mh [2002002] eI eA 72:=fo
def jO:CC:=gq Tryz.f323 [] { ke:=[0] } _
def jA:List ak:=[.cell 2 true 5, .tmp 3]
def AI:FO kW [] jO jA 108:=fo
def iZ:CC:=gq Tryz.f305 [] { bx:=[0] } _
def iG:List ak:=[.cell 2 true 5, .tmp 3]
def zh:FO jH [] iZ iG 54:=fo
def jc:CC:=gq Tryz.f285 [] { ke:=[0] } _
def iI:List ak:=[.cell 2 true 5, .tmp 3]
def zj:FO jJ [] jc iI 49:=fo
def jN:CC:=gq Tryz.f253 [] { ke:=[0] } _
def jz:List ak:=[.cell 2 true 5, .tmp 3]
def AH:FO kV [] jN jz 44:=fo
open Cod (enc dec)
variable {S S0:Nat->Spc}
abbrev s_decR:Spc:=aL (a1 B) (λs=>∃c,s.data[0]? =some c/\c.toNat< 128) (mj (Y:=I32) (Z:=Int)) λs y=>∀c,s.data[0]? =some c->y=(⟨c.toNat⟩,1)
abbrev s_crune:Spc:=aL (a2 B I32) (λx=>0<=x.2.val/\x.2.val< 128) (enc (X:=Bool)) λx y=>y=qjy x.1 x.2.val
def Co{p:Rp}{c:Int}(h:NL p=some c):p.s.size<=200/\((p.pos=p.s.size/\c= -1)\/(0<=p.pos/\p.pos<p.s.size/\p.pos≠p.s.size/\∃x:UInt8,p.s.data[p.pos.toNat]? =some x/\x.toNat< 128/\c=x.toNat)):=by
 unfold NL at h;split at h
 ·cases h
 rename_i hsz;refine⟨by omega,?_⟩;split at h
 ·exact .inl ⟨by assumption,(qAg h).symm⟩
 ·rename_i hne;split at h
  ·rename_i h0;split at h
   ·rename_i x hx;split at h
    ·rename_i hlt;have hx2:=(qz3.1 hx).1;refine .inr ⟨h0,?_,hne,x,hx,hlt,(qAg h).symm⟩;show p.pos<(p.s.data.size:Int);omega
    ·cases h
   ·cases h
  ·cases h
def qyC{s:B}{k:Nat}{x:UInt8}(h:s.data[k]? =some x):(s.extract k s.size).data[0]? =some x:=by
 obtain⟨h1,h2⟩:=qz3.1 h;rw[ByteArray.data_extract,qCj];have:0<min s.size s.data.size -k:=by
  have:s.size=s.data.size:=rfl;omega
 rw[if_pos this,qA5];exact h
abbrev vW:Spc:=qdj a0 (enc (X:=I32)) lQ
theorem QJ(h1:S dt=s_decR):vF gk fV S a0 (enc (X:=I32)) (λs z=>∃r,lQ s z=some r) (λs z s' y=>lQ s z=some (s',y)):=by
 rintro b s ⟨⟩ ⟨r,hr⟩;obtain⟨c,hc,_⟩:=qz6.1 hr;have sC:∀{H:ab},H 0=some (.box b (sJ s))->Hi (enc (X:=I32)) b (λs' y=>lQ s ()=some (s',y)) (.v (.int .i32 c)) H:=λh0=>GJ s ⟨c⟩ (.same _) h0 (by simp[lQ,hc])
 obtain⟨hsz,hc2⟩:=Co hc;rcases hc2 with⟨e1,rfl⟩|⟨h0,h2,h3,x,hx,hlt,rfl⟩
 ·simp[gk,fV,e1,-fB',-eB'];exactλ_=>sC (by simp[e1])
 ·have hd:(s.s.data.extract s.pos.toNat s.s.size)[0]? =some x:=by rw[<-ByteArray.data_extract];exact qyC hx
  simp[gk,fV,h1,h0,h2,h3,-fB',-eB'];refineλ_=>⟨by omega,⟨x,hd,hlt⟩,λa b1 h=>?_⟩
  obtain⟨rfl,rfl⟩:=h x hd;exact sC (by simp)
abbrev ZV:Spc:=qdj a0 SQ Pu
theorem QI(h1:S dt=s_decR):vF ll kG S a0 SQ (λs z=>∃r,Pu s z=some r) (λs z s' y=>Pu s z=some (s',y)):=by
 rintro b s ⟨⟩ ⟨r,hr⟩;obtain⟨c,hc,h⟩:=qzU.1 hr;split at h
 ·rename_i hc0;have sC:∀{H:ab},H 0=some (.box b (sJ s.bump))->Hi SQ b (λs' y=>Pu s ()=some (s',y)) (.tup []) H:=λh0=>GJ s.bump () (.same _) h0 (by simp[Pu,hc,hc0])
  obtain⟨hsz,hc2⟩:=Co hc;rcases hc2 with⟨e1,rfl⟩|⟨h0,h2,h3,x,hx,hlt,rfl⟩
  ·omega
  ·have hd:(s.s.data.extract s.pos.toNat s.s.size)[0]? =some x:=by rw[<-ByteArray.data_extract];exact qyC hx
   simp[ll,kG,h1,h0,h2,h3,-fB',-eB'];refine⟨by omega,⟨x,hd,hlt⟩,λa b1 h=>?_⟩;obtain⟨rfl,rfl⟩:=h x hd;exact⟨by simp only[InR];omega,sC (by simp[Rp.bump])⟩
 ·cases h
abbrev qjS:(I32×Bool)->D:=mj (Y:=I32) (Z:=Bool)
abbrev Rv:Spc:=qdj (a1 B) qjS Dv
def Fb(h1:S bA=vW)(h2:S mg=ZV):vF fO fI S (a1 B) qjS (λs z=>∃r,Dv s z=some r) (λs z s' y=>Dv s z=some (s',y)):=by
 rintro b s sp ⟨r,hr⟩;obtain⟨c,hc,h⟩:=qzU.1 hr;split at h
 ·cases h
 ·rename_i hn;have n1:0<=c:=by omega
  have n2:c≠92:=λe=>hn (.inr e)
  simp[fO,fI,h1,h2,lQ,Pu,hc,n1,n2,-fB',-eB'];exact GJ s.bump (⟨c⟩,true) (.same _) (by simp) (by simp[Dv,hc,hn])
abbrev qeg:Spc:=qdj a0 qjS VP
theorem Lh(h1:S bA=vW)(h2:S iQ=s_crune)(h3:S ei=Rv):vF ja iH S a0 qjS (λs z=>∃r,VP s z=some r) (λs z s' y=>VP s z=some (s',y)):=by
 rintro b s ⟨⟩ ⟨r,hr⟩;obtain⟨c,hc,h⟩:=qzU.1 hr;split at h
 ·cases h
 ·rename_i hn;have n1:¬c< 0:=λe=>hn (.inl e)
  have n2:qjy qa9 c=false:=by
   cases e:qjy qa9 c with
   |false=>rfl
   |true=>exact absurd (.inr e) hn
  have hsz:=Co hc;have h128:c< 128:=by
   rcases hsz.2 with⟨_,rfl⟩|⟨_,_,_,x,_,hlt,rfl⟩ <;>omega
  have n3:qjy ⟨#[92,91,93,94,45]⟩ c=false:=n2;have h4:Dv s ⟨#[92,91,93,94,45]⟩=some r:=h;simp[ja,iH,h1,h2,h3,lQ,hc,n1,n3,h4,h128,-fB',-eB'];obtain⟨s',⟨c'⟩,t'⟩:=r;intro n0;refine⟨λ_=>⟨n0,GJ s' (⟨c'⟩,t') (.same _) (by simp) (by simp[VP,hc,hn,h])⟩,λ_=>GJ s' (⟨c'⟩,t') (.same _) (by simp) (by simp[VP,hc,hn,h])⟩
def SG{H:ab}{op mn mx:Int}{d3 d4:D}(rs:List Rng)(ks:List Rx)(h3:FrzTo H d3 (enc rs))(h4:FrzTo H d4 (enc ks)):FrzTo H (.agg [.v (.int .i64 op), .v (.int .i64 mn), .v (.int .i64 mx),d3,d4]) (enc (Rx.mk op mn mx rs ks)):=by
 rw[qgw];refine .agg rfl λk c c' hc hc'=>?_
 match k with
 | 0=>cases hc;cases hc';exact .same _
 | 1=>cases hc;cases hc';exact .same _
 | 2=>cases hc;cases hc';exact .same _
 | 3=>cases hc;cases hc';exact h3
 | 4=>cases hc;cases hc';exact h4
 |k+5=>simp at hc
abbrev qef:Spc:=aL (a2 I32 I32) (λ_=>True) (enc (X:=Rx)) λx y=>y=qd8 x.1.val x.2.val
def TE:am zO yF S (a2 I32 I32) (λ_=>True) (enc (X:=Rx)) λx y=>y=qd8 x.1.val x.2.val:=by
 rintro⟨x,y⟩ -;simp[zO,yF,qd8];exactλb=>ba (Y:=Rx) ⟨1,0,0, [⟨x,y⟩], []⟩ (SG [⟨x,y⟩] [] (.same _) (.nil _)) rfl
end Go.Gv
