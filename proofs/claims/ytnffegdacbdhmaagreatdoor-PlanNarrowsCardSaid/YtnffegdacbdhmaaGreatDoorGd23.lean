/- T38 -/
import Derived.Shelf.SlSortCmp.NoneTotal
import Derived.Test.YtnffegdacbdhmaaGreatDoorGd22
set_option linter.all false
set_option maxRecDepth 100000
set_option maxHeartbeats 0
open Bool renaming forall_bool → fB', exists_bool → eB'
namespace Go.Gv
open Cod (enc dec)
theorem MR{a b:D}(ha:DA a=true)(hb:DA b=true)(h:qbq a b):a=b:=by
 obtain⟨tp,I,w,x,h1,h2⟩:=h;have one:∀d:D,DA d=true->(∃cs,d= .agg cs)\/ ∃v,d= .v v:=λd hd=>by
  cases d<;>first|exact .inl ⟨_,rfl⟩|exact .inr ⟨_,rfl⟩|(simp[DA,D.cells,qoi]at hd)
 rcases one a ha with⟨cs,rfl⟩|⟨v,rfl⟩ <;>rcases one b hb with⟨cs',rfl⟩|⟨v',rfl⟩
 ·obtain⟨xs,rfl,hl,hc⟩:=h1.inv_agg;obtain⟨ys,he,hl2,hc2⟩:=h2.inv_agg;have hxy:xs=ys:=by simpa using he
  subst hxy;have hce:cs=cs':=by
   refine List.ext_getElem (by omega) λi h3 h4=>?_
   have hi:i<xs.length:=by omega
   have v1:qoi cs[i]=true:=qz4.1 ha _ (by simp[D.cells]);have v2:qoi cs'[i]=true:=qz4.1 hb _ (by simp[D.cells]);have r1:=(hc i _ _ (qzX hi) (qzX h3)).2;have r2:=(hc2 i _ _ (qzX hi) (qzX h4)).2;generalize cs[i]=p at*;generalize cs'[i]=q at*;cases p<;>first|(cases v1;done)|skip
   cases q<;>first|(cases v2;done)|skip
   rw[<-r1.inv_v,<-r2.inv_v]
  rw[hce]
 ·obtain⟨xs,rfl,_,_⟩:=h1.inv_agg;have:=h2.inv_v;cases h2 with
  |v _ h _=>simp[Value.oneCell']at h
 ·obtain⟨xs,rfl,_,_⟩:=h2.inv_agg;cases h1 with
  |v _ h _=>simp[Value.oneCell']at h
 ·rw[<-h1.inv_v,<-h2.inv_v]
structure qnM (X:Type) [Cod X] (ka:Bool) (ks:List KK):Prop where
 fit:∀x:X,Wv ka ks (enc x)=true
 pur:∀x:X,DA (enc x)=true
def VZ:qnM Int false [.int .i64]:=⟨λ_=>rfl,λ_=>rfl⟩
section
variable {X:Type}[Cod X][DecidableEq X]
def jj(l:List X):List D:=l.map λx=> .tup [enc x, .v (.bool true)]
def Y1(x:X)(l:List X):List X:=if x∈l then l else l++ [x]
def VN{x:X}{v:D}{l:List X} :D.tup [enc x,v] ∈jj l↔x∈l/\v= .v (.bool true):=by
 simp only[jj,qz1,D.tup.injEq,qAA,and_true];exact⟨λ⟨y,h1,h2,h3⟩=>⟨bK h2 ▸h1,h3.symm⟩,λ⟨h1,h2⟩=>⟨x,h1,rfl,h2.symm⟩⟩
def qd9{d:D}{l:List X}(h:d∈jj l):∃x∈l,d= .tup [enc x, .v (.bool true)]:=by
 obtain⟨x,h1,rfl⟩:=qz1.1 h;exact⟨x,h1,rfl⟩
def LW:∀{l:List X} {l1 l2:List D} {e:D},jj l=l1++e::l2->∃a x b,l=a++x::b/\l1=jj a/\e= .tup [enc x, .v (.bool true)]/\l2=jj b
 | [],l1,l2,e,h=>by
   have:=congrArg List.length h;simp[jj]at this
 | y::l, [],l2,e,h=>by
   simp only[jj,qAo,qAZ,qAA]at h;exact⟨[],y,l,rfl,rfl,h.1.symm,h.2.symm⟩
 | y::l,d::l1,l2,e,h=>by
   simp only[jj,qAo,qAK,qAA]at h;obtain⟨a,x,b,rfl,rfl,h3,h4⟩:=LW (l:=l) h.2;exact⟨y::a,x,b,rfl,by simp[jj,h.1],h3,h4⟩
def qea(a b:List X):jj (a++b)=jj a++jj b:=by simp[jj]
def UQ{ka:Bool}{ks:List KK}(hK:qnM X ka ks)(l:List X):(jj l).all (Zg ka ks)=true:=by
 rw[qz4];intro d hd;obtain⟨x,_,rfl⟩:=qd9 hd;exact hK.fit x
def qiv{ka:Bool}{ks:List KK}(hK:qnM X ka ks){x:X}{l:List X}{k:D}{K:List D->Prop}(hk:k=enc x)(h:K (jj (Y1 x l))):ZR ka ks k (.v (.bool true)) (jj l) K:=by
 subst hk;refine⟨UQ hK l,hK.fit x,λl1 k' v' l2 e m=>?_,λhn=>?_⟩
 ·obtain⟨a,y,b,rfl,rfl,h3,rfl⟩:=LW e;simp only[D.tup.injEq,qAA,and_true]at h3;obtain⟨rfl,rfl⟩:=h3;have:=bK (MR (hK.pur x) (hK.pur y) m);subst this;rw[<-e];have:Y1 x (a++x::b)=a++x::b:=by unfold Y1;rw[if_pos (by simp)]
  rw[this]at h;exact h
 ·have hx:x∉l:=λhx=>hn (hK.pur x) _ (VN.2 ⟨hx,rfl⟩)
  have:Y1 x l=l++ [x]:=by unfold Y1;rw[if_neg hx]
  rw[this,qea]at h;exact h
end
open Go.Proofs
structure St3 where
 p:Int
 b0:Int
 b1:Int
 b2:Int
deriving DecidableEq
instance:Cod St3 where
 wd:=4
 enc s:= .agg [enc s.p,enc s.b0,enc s.b1,enc s.b2]
 dec| .agg [x0,x1,x2,x3]=>(dec x0).bind λx0=>(dec x1).bind λx1=>(dec x2).bind λx2=>(dec x3).bind λx3=>some ⟨x0,x1,x2,x3⟩|_=>none
 kn _:=rfl
 wid _:=rfl
 dec_enc s:=by simp
 le d x h:=by
  split at h
  ·simp only[qzU]at h;obtain⟨x0,h0,x1,h1,x2,h2,x3,h3,h⟩:=h;cases h;exact LeL.agg (.cons (Cod.le _ _ h0) (.cons (Cod.le _ _ h1) (.cons (Cod.le _ _ h2) (.cons (Cod.le _ _ h3) .nil))))
  ·cases h
structure Rn where
 c:Corpus
 lb:List B
 bg:Int
 en:Int
def St3.get(s:St3)(i:Nat):Int:=match i with|0=>s.b0|1=>s.b1|_=>s.b2
def St3.set(s:St3)(i:Nat)(x:Int):St3:=match i with|0=>⟨s.p,x,s.b1,s.b2⟩|1=>⟨s.p,s.b0,x,s.b2⟩|_=>⟨s.p,s.b0,s.b1,x⟩
def quj(r:Rn)(s:St3):List Int:=(List.range r.lb.length).map λi=>s.get i -1
def quU(r:Rn)(p:Pat)(s:St3):Option Bool:=vI ⟨r.c,s.p,r.lb,quj r s⟩ 21 p.cond
section
variable {α:Type}
def Pow(R:α->α->Prop):Nat->α->α->Prop
 | 0=>λs t=>s=t
 |n+1=>λs t=>∃u,R s u/\Pow R n u t
def Star(R:α->α->Prop)(s t:α):Prop:=∃n,Pow R n s t
def Pow.add{R:α->α->Prop} :∀{m n:Nat} {s t u:α},Pow R m s t->Pow R n t u->Pow R (m+n) s u
 | 0,n,s,t,u,h,k=>by cases h;rwa [qAG]
 | m+1,n,s,t,u,⟨v,h1,h2⟩,k=>by
   rw[Nat.succ_add];exact⟨v,h1,h2.add k⟩
def Star.refl(R:α->α->Prop)(s:α):Star R s s:=⟨0,rfl⟩
def Star.one{R:α->α->Prop}{s t:α}(h:R s t):Star R s t:=⟨1,t,h,rfl⟩
def Star.trans{R:α->α->Prop}{s t u:α}(h:Star R s t)(k:Star R t u):Star R s u:=by
 obtain⟨m,h⟩:=h;obtain⟨n,k⟩:=k;exact⟨m+n,h.add k⟩
def Star.mono{R Q:α->α->Prop}(hR:∀s t,R s t->Star Q s t){s t:α}(h:Star R s t):Star Q s t:=by
 obtain⟨n,h⟩:=h
 induction n generalizing s with
 |zero=>cases h;exact .refl _ _
 | succ n ih=>
   obtain⟨u,h1,h2⟩:=h;exact(hR _ _ h1).trans (ih h2)
def Pow.mono{R Q:α->α->Prop}(hR:∀s t,R s t->Q s t):∀{n:Nat} {s t:α},Pow R n s t->Pow Q n s t
 | 0,_,_,h=>h
 |n+1,_,_,⟨u,h1,h2⟩=>⟨u,hR _ _ h1,h2.mono hR⟩
end
def qzQ(m:Int)(s:St3):Prop:=0<=s.p/\s.p<=m/\∀i,0<=s.get i/\s.get i<=m
mutual
def sA:Pat->List Pat
 | .mk op cond lab reg mn mx ks=> .mk op cond lab reg mn mx ks::zt ks
def zt:List Pat->List Pat
 | []=>[]
 |k::ks=>sA k++zt ks
end
def Jd(C:Pat->Prop)(p:Pat):Prop:=∀q∈sA p,C q
def JA:∀{ks:List Pat} {k q:Pat},k∈ks->q∈sA k->q∈zt ks
 | a::ks,k,q,h,hq=>by
   rw[zt,qz5];rcases qAc.1 h with rfl|h
   ·exact .inl hq
   ·exact .inr (JA h hq)
def wb:∀{ks:List Pat} {q:Pat},q∈zt ks->∃k∈ks,q∈sA k
 | [],q,h=>by rw[zt]at h;cases h
 | a::ks,q,h=>by
   rw[zt,qz5]at h;rcases h with h|h
   ·exact⟨a,by simp,h⟩
   ·obtain⟨k,h1,h2⟩:=wb h;exact⟨k,by simp[h1],h2⟩
def VK(p:Pat):p∈sA p:=by cases p;rw[sA];simp
def PW{C:Pat->Prop}{p:Pat}(h:Jd C p):C p:=h p (VK p)
def Vs{C:Pat->Prop}{p k:Pat}(h:Jd C p)(hk:k∈p.kids):Jd C k:=λq hq=>h q (by cases p;rw[sA];exact qBx _ (JA hk hq))
def qi4{C:Pat->Prop}{p:Pat}(h:C p)(hk:∀k∈p.kids,Jd C k):Jd C p:=λq hq=>by
 cases p;rw[sA]at hq;rcases qAc.1 hq with rfl|hq
 ·exact h
 ·obtain⟨k,h1,h2⟩:=wb hq;exact hk k h1 q h2
def CB{C D:Pat->Prop}{p:Pat}(h:Jd C p)(hCD:∀q,C q->D q):Jd D p:=λq hq=>hCD q (h q hq)

def qeR(c:Corpus)(lb:List B)(t:Ai):Rn:=⟨c,lb,t.b,min t.e c.toks.length⟩
def qkl(r:Rn)(s:St3):(quj r s).length=r.lb.length:=by simp[quj]
def VJ:∀(n:Nat) (l:List Nat),l.Nodup->(∀x∈l,x<n)->l.length<=n
 | 0, [],_,_=>qz2 _
 | 0,x::l,_,h=>absurd (h x (by simp)) (Nat.not_lt_zero _)
 | n+1,l,hn,h=>by
   have ih:=VJ n (l.erase n) (hn.erase n) λx hx=>by
    have h1:=(List.Nodup.mem_erase_iff hn).1 hx;have:=h x h1.2;omega
   have h2:l.length<=(l.erase n).length+1:=by
    rw[List.length_erase];split<;>omega
   omega
def qcj{α:Type}{l:List α}{f:α->Nat}{n:Nat}(h1:l.Nodup)(h2:∀x∈l,f x<n)(h3:∀x∈l,∀y∈l,f x=f y->x=y):l.length<=n:=by
 have hn:∀{l:List α},l.Nodup->(∀x∈l,∀y∈l,f x=f y->x=y)->(l.map f).Nodup:=λ{l} h1 h3=>by
  induction l with
  |nil=>exact qB7
  | cons a l ih=>
    rw[qAo,qA3];have h4:=qA3.1 h1;refine⟨λhm=>?_,ih h4.2 λx hx y hy=>h3 x (by simp[hx]) y (by simp[hy])⟩;obtain⟨y,hy,e⟩:=qz1.1 hm;have:=h3 y (by simp[hy]) a (by simp) e;subst this;exact h4.1 hy
 have:=VJ n (l.map f) (hn h1 h3) λx hx=>by
  obtain⟨y,hy,rfl⟩:=qz1.1 hx;exact h2 y hy
 simpa using this

variable {S S0:Nat->Spc}


end Go.Gv
namespace Go.Gv
open Cod (enc dec)
variable {dq:Prop}
section
variable {Y Z:Type}
variable {P:Program}{S:Nat->Spc}{f:Nat}{im:List Nat}{cc:CC}{rs:List ak}{N:Nat}
end
section
variable {Y Z:Type}
variable {P:Program}{S:Nat->Spc}{f:Nat}{im:List Nat}{cc:CC}{rs:List ak}{N:Nat}
end
open Go.Proofs Go.Shelf Go.RowKit
section
variable {X:Type}
variable {P:Program}{S:Nat->Spc}{f:Nat}{im:List Nat}{cc:CC}{rs:List ak}{N:Nat}{A:fT X}
end
end Go.Gv
namespace Go.Gv
open Cod (enc dec)
variable {dq:Prop}
section
variable {X Z:Type}
end
open Go.Proofs
section
variable {Y Z:Type}
variable {P:Program}{S:Nat->Spc}{f:Nat}{im:List Nat}{cc:CC}{rs:List ak}{N:Nat}
end
section
variable {X Y Z:Type}
end
end Go.Gv
namespace Go.Gv
open Cod (enc dec)
open Go.Proofs
variable {S S0:Nat->Spc}


end Go.Gv
namespace Go.Gv
open Go.Proofs
open Cod (enc dec)
variable {S S0:Nat->Spc}
structure qzP (r:Rn) (q:Pat):Prop where
 nd:vG q
 num:lJ q=true
 lab:q.lab≠mD->As r.lb q.lab=true
 tok:q.op=1->∀s,qzQ r.en s->s.p<r.en->∃y,quU r q s=some y
end Go.Gv
namespace Go.Gv
open Go.Proofs
open Cod (enc dec)
variable {S S0:Nat->Spc}

end Go.Gv
namespace Go.Gv
open Cod (enc dec)
open Go.Proofs Go.Sort Go.Shelf Go.Lib Go.RowKit
def qgf{α β:Type}{f:α->List β}{n:Nat} :∀{l:List α},(∀x∈l,(f x).length=n)->∀{i j:Nat},j<n->(l.flatMap f)[i*n+j]? =(l[i]?).bind λx=>(f x)[j]?
 | [],_,i,j,_=>by simp
 | d::es,h,0,j,hj=>by
   have hd:=h d (by simp);simp only[qAw,qCq,qAG];rw[qAe (by omega)];simp
 | d::es,h,i+1,j,hj=>by
   have hd:=h d (by simp);have ih:=qgf (l:=es) (λd hd=>h d (by simp[hd])) (i:=i) hj;simp only[qAw];rw[qz9 (by rw[hd,qAI];omega),hd];have:(i+1) *n+j -n=i*n+j:=by rw[qAI];omega
   rw[this,ih];simp
def SI{α β:Type}{f:α->List β}{n:Nat} :∀{l:List α},(∀x∈l,(f x).length=n)->(l.flatMap f).length=l.length*n
 | [],_=>by simp
 | d::es,h=>by
   have ih:=SI (l:=es) (λd hd=>h d (by simp[hd]));simp only[qAw,qAm];rw[ih,h d (by simp),qAD,qAI];omega
section
variable {X:Type}[Cod X][Inhabited X](ev:X->List Value)(k:Nat)(hk:∀x,(ev x).length=k)
include hk
omit [Cod X]in
theorem Na(l:List X):(flatK ev k l.toArray).toList=l.flatMap ev:=by
 have hl:=SI (f:=ev) (n:=k) (l:=l) (λx _=>hk x);apply qAO;intro t;by_cases ht:t<l.length*k
 ·have k0:0<k:=by
   rcases qA4 k with h|h
   ·subst h;simp at ht
   ·exact h
  have h1:=get_flatK ev k l.toArray t (by simpa using ht);have hs:t<(flatK ev k l.toArray).size:=by simpa using ht
  rw[getElem!_pos _ t hs]at h1;rw[qAn,qAS hs,h1];have hm:t % k<k:=qBG _ k0;have hdm:t=(t/k) *k+t % k:=by have:=qBH t k;rw[qBo]at this;omega
  have hq:t/k<l.length:=qB1 (by rw[qBo];exact ht);have h2:=qgf (f:=ev) (n:=k) (l:=l) (λx _=>hk x) (i:=t/k) hm;rw[<-hdm]at h2;rw[h2,qzX hq];have h3:(l.toArray)[t/k]! =l[t/k]:=by rw[getElem!_pos l.toArray (t/k) (by simpa using hq)];simp
  rw[h3];have h4:t % k<(ev l[t/k]).length:=by rw[hk];exact hm
  simp only[qAh];rw[getElem!_pos (ev l[t/k]) (t % k) h4,qzX h4]
 ·rw[qAt (by simpa using ht),qAt (by omega)]
end
def GE{w:World}{b j el:Nat}{c:Array Value}(h:w.heap[b]? =some (.cells c el (0,0))):w.frozen? ⟨b,j,none⟩=false:=by
 simp[World.frozen?,h]
def ND{w:World}{b j el:Nat}{c:Array Value}{fr:Nat×Nat}(h:w.heap[b]? =some (.cells c el fr)):w.cell? ⟨b,j,none⟩=c[j]?:=by
 simp[World.cell?,h]
def PS{w:World}{gb b:Nat}{f:Array Value->Array Value}{os:Array Obj}(hb:b<w.heap.size)(hne:b≠gb):(grow (mapBlock w gb f) os).heap[b]? =w.heap[b]?:=by
 simp only[grow,mapBlock];rw[qAM (by simpa using hb),qBK];have:¬gb=b:=λe=>hne e.symm
 simp[this]
def Vq{w:World}{gb el:Nat}{c:Array Value}{fr:Nat×Nat}{f:Array Value->Array Value}{os:Array Obj}(h:w.heap[gb]? =some (.cells c el fr)):(grow (mapBlock w gb f) os).heap[gb]? =some (.cells (f c) el fr):=by
 have hb:gb<w.heap.size:=(qz3.1 h).1;simp only[grow,mapBlock];rw[qAM (by simpa using hb),qBK];simp[h,onCells]
variable {dq:Prop}
section
variable {P:Program}{ρ:Ren}
end
end Go.Gv
namespace Go.Gv
open Go.Proofs
def js:CC:=gq Tryz.f62 [2] { bx:=[1,31],cu:=[1] } _
def jl:List ak:=[.tmp 4]
def Ar:FO cU [2] js jl 34:=fo
def jr:CC:=gq Tryz.f63 [2] { bx:=[1,24] } _
def jk:List ak:=[.tmp 4]
def Aq:FO dy [2] jr jk 27:=fo
def vp:CC:=gq Tryz.f114 [1,2002002] {} _
def uo:List ak:=[.cell 2 true 13]
def MB:FO ro [1,2002002] vp uo 11:=fo
def sQ:CC:=gq Tryz.f178 [1,2021003,1020020] {} _
def sj:List ak:=[.cell 2 true 7]
def Kl:FO kZ [1,2021003,1020020] sQ sj 24:=fo
def dL:CC:=gq Tryz.f61 [1] { bx:=[41] } _
def dH:List ak:=[.tmp 2]
def pX:FO eE [1] dL dH 44:=fo
def ip:CC:=gq Tryz.f109 [1] {} _
def gV:List ak:=[.tmp 2]
def ya:FO dz [1] ip gV 7:=fo
def gp:CC:=gq Tryz.f28 [2] { bx:=[17,20],fz:=[(17,1),(20,13)] } _
def fX:List ak:=[.tmp 4]
def wa:FO fm [2] gp fX 49:=fo
def gm:CC:=gq Tryz.f68 [3] {} _
def fW:List ak:=[.tmp 6]
def vZ:FO dT [3] gm fW 33:=fo
def aB:CC:=gq Tryz.f124 [3] {} _
def aA:List ak:=[.tmp 6]
def uG:FO gi [3] aB aA 115:=fo
def xo:CC:=gq Tryz.f66 [1] {} _
def wH:List ak:=[.tmp 2]
def OX:FO ph [1] xo wH 11:=fo
def jx:CC:=gq Tryz.f120 [1] {} _
def jv:List ak:=[.tmp 2]
def Ds:FO pg [1] jx jv 58:=fo
def iq:CC:=gq Tryz.f67 [1] {} _
def gW:List ak:=[.tmp 2]
def Bw:FO mN [1] iq gW 22:=fo
def bI:CC:=gq Tryz.f65 [] {} _
def bH:List ak:=[.tmp 4]
def iw:FO aS [] bI bH 9:=fo
def cm:CC:=gq Tryz.f119 [] {} _
def bZ:List ak:=[.tmp 4]
def kR:FO cD [] cm bZ 19:=fo
open Cod (enc dec)
variable {S S0:Nat->Spc}
def LF{α:Type}{l:List α}{k:Nat}{a:α}{P:α->Prop}(h:∀x∈l.take k,P x)(ha:l[k]? =some a)(hp:P a):∀x∈l.take (k+1),P x:=by
 rw[au ha];intro x hx;rcases qz5.1 hx with hx|hx
 ·exact h x hx
 ·simp at hx;subst hx;exact hp
def qnJ{X:Type}(m:X->Nat)(n:Nat)(x:X):Prop:=m x<=n
abbrev ZY(n:Nat):Spc:=aL (a2 Cond Cond) (qnJ (λx=>dm x.1) n) (enc (X:=Bool)) λx y=>(y=true↔x.1=x.2)
def qg1{a b:Cond}(h1:a.op=b.op)(h2:a.name=b.name)(h3:a.arg=b.arg)(h4:a.val=b.val)(h5:a.lab=b.lab)(h6:a.fold=b.fold)(h7:a.kids=b.kids):a=b:=by
 cases a;cases b;simp only at*;subst h1;subst h2;subst h3;subst h4;subst h5;subst h6;subst h7;rfl
theorem XT(n:Nat)(h1:S uM=ZY n):am Cg Bh S (a2 Cond Cond) (qnJ (λx=>dm x.1) (n+1)) (enc (X:=Bool)) λx y=>(y=true↔x.1=x.2):=by
 rintro⟨a,b⟩ hn;have hn:dm a<=n+1:=hn;have hpre:∀k∈a.kids,∀y,qnJ (λx:Cond×Cond=>dm x.1) n (k,y):=λk hk y=>by have:=NK hk;show dm k<=n;omega
 simp[Cg,Bh];refine⟨λe1=>⟨λe2=>⟨λe3=>⟨λe4=>⟨λe5=>⟨λe6 _ _=>⟨λh e=>h (by rw[e]),λhl _=>?_⟩,λh e=>h (by rw[e])⟩,λh e=>h (by rw[e])⟩,λh e=>h (by rw[e])⟩,λh e=>h (by rw[e])⟩,λh e=>h (by rw[e])⟩,λh e=>h (by rw[e])⟩;refine ah (X:=Unit) [2,3] [] a.kids.length (λk _=>a.kids.take k=b.kids.take k) (λ_=>[]) (λ_=>[]) () (by simp) ?_ ?_
 ·rintro k -hk hP;obtain⟨x,hx⟩:=aQ hk;obtain⟨y,hy⟩:=aQ (l:=b.kids) (k:=k) (by omega);have hx1:=aP hx;obtain⟨_,hgx⟩:=qzV.1 hx;obtain⟨_,hgy⟩:=qzV.1 hy;simp[h1,hk,hx,hy,hgx,hgy,hpre x hx1,-fB'];refine⟨by omega,λr hr=>⟨λhf e=>?_,λht=>?_⟩⟩
  ·subst e;rw[hx]at hy;cases hy;rw[hr.2 rfl]at hf;cases hf
  ·rw[au hx,au hy,hP,hr.1 ht]
 ·rintro -hP;simp;have h8:a.kids=b.kids:=by
   rw[qAT (by omega),qAT (by omega)]at hP;exact hP
  exact qg1 e1 e2 e3 e4 e5 e6 h8
abbrev Jm:Spc:=aL (a2 Pat Int) (λ_=>True) (enc (X:=Bool)) λx y=>y=(decide (x.2<=100) && oO x.1)
abbrev ZZ:Spc:=aL (a2 Cond Cond) (λ_=>True) (enc (X:=Bool)) λx y=>(y=true↔x.1=x.2)
def TH(h1:S uM=ZZ):am zQ yH S (a2 Pat Int) (λ_=>True) (enc (X:=Bool)) λx y=>y=(decide (x.2<=100) && oO x.1):=by
 rintro⟨p,d⟩ -;simp[zQ,yH,h1,-fB'];clear h1;refine⟨λh h'=>absurd h (by omega),λhd y hy=>?_⟩;have hy:y=true↔p.cond=Cond0:=hy;rw[decide_eq_true hd,qBF];revert hy;revert y
 repeat' first|apply And.intro|intro _
 all_goals (rw[qAB,tR];unfold vG;simp_all;try omega)
abbrev UV(n:Nat):Spc:=aL (a2 Pat Int) (λx=>db x.1<=n/\0<=x.2/\x.2<=101) (enc (X:=Bool)) λx y=>y=(cA x.1 x.2 && ck oO x.1)
theorem QN(n:Nat)(h1:S BP=Jm)(h2:S pb=UV n):am wZ wx S (a2 Pat Int) (λx=>db x.1<=n+1/\0<=x.2/\x.2<=101) (enc (X:=Bool)) λx y=>y=(cA x.1 x.2 && ck oO x.1):=by
 rintro⟨p,d⟩ ⟨hn,hd0,hd1⟩;have hpre:∀k∈p.kids,db k<=n:=λk hk=>by have:=kQ hk;have:db p<=n+1:=hn;omega
 simp only at hd0 hd1;simp[wZ,wx,h1];rw[nH,cM];refine⟨λh=>?_,λhd hnd _=>?_⟩
 ·simp only[qzZ,decide_eq_true_eq];intro h1;rw[h h1.1,Bool.false_and]
 refine ah (X:=Unit) [1,12] [] p.kids.length (λk _=>∀x∈p.kids.take k,(cA x (d+1) && ck oO x)=true) (λ_=>[]) (λ_=>[]) () (by simp) ?_ ?_
 ·rintro k -hk hP;obtain⟨x,hx⟩:=aQ hk;have hx1:=aP hx;obtain⟨_,hgx⟩:=qzV.1 hx;have q1:=hpre x hx1;simp[h2,hk,hx,hgx,q1,-fB'];refine⟨by simp only[InR];omega,by omega,λhf _ hall _=>⟨x,hx1,hf (hall x hx1)⟩,λt1 t2=>?_⟩;have:=LF (P:=λx=>(cA x (d+1) && ck oO x)=true) hP hx (by simp[t1,t2]);simpa using this
 ·rintro -hP;simp;simp at hP;simp[hnd,hd];exact⟨λx hx=>(hP x hx).1,λx hx=>(hP x hx).2⟩
abbrev Z2(n:Nat):Spc:=aL (a1 Pat) (λx=>db x<=n) (enc (X:=Bool)) λx y=>y=ck (mI aJ) x
theorem TI(n:Nat)(h1:S cq=uc)(h2:S rL=Z2 n):am zR yI S (a1 Pat) (λx=>db x<=n+1) (enc (X:=Bool)) λx y=>y=ck (mI aJ) x:=by
 rintro p hn;have hpre:∀k∈p.kids,db k<=n:=λk hk=>by have:=kQ hk;have:db p<=n+1:=hn;omega
 simp[zR,yI,h1];refine bj (X:=Unit) [1] [] (λ_=>mI aJ p=true) (λ_=>[]) (λ_=>[]) ?_ ?_
 ·simp[h1,mI];rw[cM];unfold mI
  repeat' first|apply And.intro|intro _
  all_goals (first|omega|simp_all;try omega)
 rintro -hnd;rw[cM];simp;intro _;refine ah (X:=Unit) [31] [] p.kids.length (λk _=>∀x∈p.kids.take k,ck (mI aJ) x=true) (λ_=>[]) (λ_=>[]) () (by simp) ?_ ?_
 ·rintro k -hk hP;obtain⟨x,hx⟩:=aQ hk;have hx1:=aP hx;obtain⟨_,hgx⟩:=qzV.1 hx;have q1:=hpre x hx1;simp[h2,hk,hx,hgx,q1,-fB'];exact⟨λhf _=>⟨x,hx1,hf⟩,λht=>LF hP hx ht⟩
 ·rintro -hP;simp;simp at hP;rw[hnd];simpa using hP
abbrev PB(n:Nat):Spc:=aL (a1 Pat) (λx=>db x<=n) (enc (X:=Bool)) λx y=>y=ck lJ x
theorem Oh(n:Nat)(h2:S mK=PB n):am vi uh S (a1 Pat) (λx=>db x<=n+1) (enc (X:=Bool)) λx y=>y=ck lJ x:=by
 rintro p hn;have hpre:∀k∈p.kids,db k<=n:=λk hk=>by have:=kQ hk;have:db p<=n+1:=hn;omega
 simp[vi,uh];refine bj (X:=Unit) [1] [] (λ_=>lJ p=true) (λ_=>[]) (λ_=>[]) ?_ ?_
 ·simp[lJ];rw[cM];unfold lJ
  repeat' first|apply And.intro|intro _
  all_goals (first|omega|(rw[qAB];simp;omega))
 rintro -hnd;rw[cM];simp;intro _;refine ah (X:=Unit) [36] [] p.kids.length (λk _=>∀x∈p.kids.take k,ck (lJ) x=true) (λ_=>[]) (λ_=>[]) () (by simp) ?_ ?_
 ·rintro k -hk hP;obtain⟨x,hx⟩:=aQ hk;have hx1:=aP hx;obtain⟨_,hgx⟩:=qzV.1 hx;have q1:=hpre x hx1;simp[h2,hk,hx,hgx,q1,-fB'];exact⟨λhf _=>⟨x,hx1,hf⟩,λht=>LF hP hx ht⟩
 ·rintro -hP;simp;simp at hP;rw[hnd];simpa using hP
def oP{a b A B:Int}(h0:0<=a)(h1:a<=A)(h2:0<=b)(h3:b<=B):0<=a*b/\a*b<=A*B:=⟨qBL h0 h2,Int.mul_le_mul h1 h3 h2 (by omega)⟩
def PPat(n:Nat)(p:Pat):Prop:=db p<=n/\fJ aJ p=true
def PPat.kid{n:Nat}{p k:Pat}(h:PPat (n+1) p)(hk:k∈p.kids):PPat n k:=by
 have h1:=kQ hk;have h2:=h.1;exact⟨by omega,kP h.2 hk⟩
abbrev cX:Spc:=aL (a1 Pat) (λ_=>True) (enc (X:=Bool)) λx y=>y=fJ aJ x
abbrev Pz:Spc:=aL (a2 Pat Int) (λx=>0<=x.2/\x.2<=101) (enc (X:=Bool)) λx y=>y=(cA x.1 x.2 && ck oO x.1)
abbrev UX:Spc:=aL (a1 Pat) (λ_=>True) (enc (X:=Bool)) λx y=>y=ck (mI aJ) x
abbrev L3:Spc:=aL (a1 Pat) (λ_=>True) (enc (X:=Bool)) λx y=>y=ck lJ x
def JO(h1:S pb=Pz)(h2:S rL=UX)(h3:S mK=L3):am qJ qf S (a1 Pat) (λ_=>True) (enc (X:=Bool)) λx y=>y=fJ aJ x:=by
 rintro p -;simp[qJ,qf,h1,h2,h3,fJ,-fB'];clear h1 h2 h3;refine⟨λh1 h2=>⟨λh3 _=>⟨⟨h1,h2⟩,h3⟩,λh3 _ _ h4=>absurd h4 (by rw[h3];simp)⟩,λh h1 h2=>absurd h2 (by rw[h h1];simp)⟩
abbrev Ry(n:Nat):Spc:=aL (a1 Pat) (PPat n) (enc (X:=Int)) λx y=>y=fj x
theorem XQ(n:Nat)(h1:S uL=Ry n):am Ce Bf S (a1 Pat) (PPat (n+1)) (enc (X:=Int)) λx y=>y=fj x:=by
 rintro p hp;have hk:∀k∈p.kids,PPat n k:=λk=>hp.kid
 have hs:∀k∈p.kids,0<=fj k/\fj k<=1000:=λk h=>Pv (v:=aJ) k (hk k h).2
 simp[Ce,Bf];intro _;refine⟨λh=>by rw[nR,Bb,if_pos h],λh0 _=>?_⟩;refine ah (X:=Int) [1,11] [] p.kids.length (λk n=>n=eo (p.kids.take k) 0) (λn=>[(3,enc n)]) (λ_=>[]) 0 (by simp[eo]) ?_ ?_
 ·rintro k m hkl hP;obtain⟨x,hx⟩:=aQ hkl;have hx1:=aP hx;obtain⟨_,hgx⟩:=qzV.1 hx;have hm:=qb (p.kids.take k) 0 (by omega) (by omega) (λy hy=>(hs y (qAl hy)).1);have h2:=hs x hx1;rw[<-hP]at hm;have q1:=hk x hx1;simp[h1,hkl,hx,hgx,q1];refine⟨by simp only[InR];omega,?_⟩;rw[au hx,LV,<-hP,eo,eo]
 ·rintro m hP;have hm:=qb (p.kids.take p.kids.length) 0 (by omega) (by omega) (λy hy=>(hs y (qAl hy)).1);rw[<-hP]at hm;rw[qAb]at hP;have hn:=(df hp.2).2.2;unfold lJ at hn;rw[decide_eq_true_eq]at hn;rw[nR,Bb,if_neg h0,<-hP];simp;refine⟨λh6=>?_,λh6=>?_⟩
  ·have hn:=hn h6;simp only[h6,if_true];refine⟨λe=>?_,λe=>⟨λe2=>?_,λe2=>?_⟩⟩
   ·have h1:max 1 (p.mn+1)=p.mn+1:=by omega
    have h2:=oP hm.1 hm.2 (show 0<=p.mn+1 by omega) (show p.mn+1<=17 by omega);rw[h1,if_pos e];exact⟨by simp only[InR];omega,by simp only[InR];omega,rfl⟩
   ·rw[if_neg e,if_pos e2];omega
   ·have h2:=oP hm.1 hm.2 (show 0<=p.mx by omega) (show p.mx<=16 by omega);rw[if_neg e,if_neg e2];exact⟨by simp only[InR];omega,rfl⟩
  ·simp only[h6,if_false];omega
abbrev K0(n:Nat):Spc:=aL (a1 Pat) (PPat n) (mj (Y:=Int) (Z:=Int)) λx y=>y=aU x
theorem TG(n:Nat)(h1:S iz=K0 n):am lO lG S (a1 Pat) (PPat (n+1)) (mj (Y:=Int) (Z:=Int)) λx y=>y=aU x:=by
 rintro p hp;have hk:∀k∈p.kids,PPat n k:=λk=>hp.kid
 have hs:∀k∈p.kids,eh (aU k):=λk h=>yu (v:=aJ) k (hk k h).2
 have hn:=(df hp.2).2.2;unfold lJ at hn;rw[decide_eq_true_eq]at hn;rcases qv (df hp.2).1 with⟨ho,_⟩|⟨ho,_⟩|⟨ho,k0,ks,hkk⟩|⟨ho,k0,hkk⟩
 ·simp[lO,lG,h1,ho,qdv ho]
 ·have:=qdu ho;rcases ho with ho|ho<;>simp[lO,lG,h1,ho,this]
 ·have hc:p.op≠1/\p.op≠2/\p.op≠3/\p.op≠6:=by omega
  simp[lO,lG,h1,hc,mj];intro _;refine ah (X:=Int×Int) [1,55] [] p.kids.length (λk w=>(k=0->w=(0,0))/\(0<k->w=mE (decide (p.op=4)) (ks.take (k -1)) (aU k0))/\eh w) (λw=>[(6,enc w.1),(7,enc w.2)]) (λ_=>[]) (0,0) (by simp[eh]) ?_ ?_
  ·rintro k w hkl ⟨hP0,hP1,hP2⟩;obtain⟨x,hx⟩:=aQ hkl;have hx1:=aP hx;obtain⟨_,hgx⟩:=qzV.1 hx;have q1:=hk x hx1;have q2:=hs x hx1;have key:(0<k->∀r:Int×Int,r=N8 (decide (p.op=4)) w (aU x)->r=mE (decide (p.op=4)) (ks.take (k+1 -1)) (aU k0)/\eh r)/\(k=0->∀r:Int×Int,r=aU x->r=mE (decide (p.op=4)) (ks.take (k+1 -1)) (aU k0)/\eh r):=by
    refine⟨λh0 r hr=>?_,λh0 r hr=>?_⟩
    ·obtain⟨j,rfl⟩:∃j,k=j+1:=⟨k -1,by omega⟩
     rw[hkk,qBi]at hx;rw[qB8,au hx,Pl,mE,mE];have e:=hP1 h0;rw[qB8]at e;rw[<-e];exact⟨hr,by rw[hr];exact QH hP2 q2⟩
    ·subst h0;rw[hkk,qCg]at hx;cases hx;exact⟨by rw[hr];rfl,by rw[hr];exact q2⟩
   simp[h1,hkl,hx,hgx,q1,mj];clear h1;have sC:∀a b:Int,(0<k->(a,b)=N8 (decide (p.op=4)) w (aU x))->(k=0->(a,b)=aU x)->((a,b)=mE (decide (p.op=4)) (List.take k ks) (aU k0)/\eh (a,b)):=by
    intro a b f1 f2;rcases qA4 k with h|h
    ·exact key.2 h _ (f2 h)
    ·exact key.1 h _ (f1 h)
   clear key;generalize aU x=u at q2 sC;obtain⟨u1,u2⟩:=u;obtain⟨w1,w2⟩:=w;unfold eh at q2 hP2;simp only at q2 hP2;simp only[qBX]at hP0;refine⟨λh4=>⟨by simp only[InR];omega,λe1=>⟨λe2=>sC _ _ (λ_=>?_) (λh=>?_),λe2=>⟨by simp only[InR];omega,sC _ _ (λ_=>?_) (λh=>?_)⟩⟩,λe1=>sC _ _ (λ_=>?_) (λh=>?_)⟩,λh4=>⟨λh0=>sC _ _ (λh=>absurd h (by omega)) (λh=>rfl),λh0=>⟨λe1=>⟨λe2=>sC _ _ (λ_=>?_) (λh=>absurd h h0),λe2=>sC _ _ (λ_=>?_) (λh=>absurd h h0)⟩,λe1=>sC _ _ (λ_=>?_) (λh=>absurd h h0)⟩⟩⟩
   all_goals (try simp only at e1)
   all_goals (try simp only at e2)
   all_goals first|(have hw:=hP0 h;simp only[qBX];omega)|(unfold N8;simp[h4,e1,e2];done)|(unfold N8;simp[h4,e1];done)|(unfold N8;simp[h4];omega)
  ·rintro w ⟨_,hP,_⟩;simp[mj];rw[qdt ho hkk];have:=hP (by rw[hkk];simp);rw[hkk,qAD,qB8,qAb]at this;rw[<-this]
 ·have q1:=hk k0 (by rw[hkk];simp);have q2:=hs k0 (by rw[hkk];simp);have hn:=hn ho;simp[lO,lG,h1,ho,hkk,q1,mj];rw[qds ho hkk];generalize aU k0=w at q2;unfold eh at q2;have h2:=oP q2.1 q2.2.1 hn.1 hn.2.1;refine⟨λe1=>⟨λe2=>⟨by simp only[InR];omega,by rw[if_pos (.inr e2)]⟩,λe2=>⟨λe3=>⟨λe4=>⟨by simp only[InR];omega,?_⟩,λe4=>?_⟩,λe3=>⟨by simp only[InR];omega,?_⟩⟩⟩,λe1=>⟨by simp only[InR];omega,by rw[if_pos (.inl e1)]⟩⟩
  ·rw[if_neg (by omega),if_pos (.inr e4)]
  ·have h3:=oP (show 0<=w.2 by omega) q2.2.2.2 (show 0<=p.mx by omega) (show p.mx<=16 by omega);refine⟨by simp only[InR];omega,by simp only[InR];omega,?_⟩;rw[if_neg (by omega),if_neg (by omega)]
  ·rw[if_neg (by omega),if_pos (.inl e3)]
abbrev P5:D:= .v (.slice none 0 0)
def qhJ(x:Pat)(l:List Pat):Prop:=l.length+ (aq x).length<=100000000
abbrev Wc(n:Nat):Spc:=qhX (X:=Pat) (Y:=Pat) (λx l=>db x<=n/\qhJ x l) (λx l r=>r=l++aq x) aK 13
abbrev i_leavesA:Spc:=qhX (X:=Pat) (Y:=Pat) (λx l=>qhJ x l) (λx l r=>r=l++aq x) aK 13
def qfC{ks:List Pat}{k:Nat}{x:Pat}(l:List Pat)(hx:ks[k]? =some x):(l++ (ks.take k).flatMap aq) ++aq x=l++ (ks.take (k+1)).flatMap aq:=by
 rw[au hx,qB4,List.flatMap_singleton,qAH]
def YY{ks:List Pat}{k:Nat}{x:Pat}{l:List Pat}(hx:ks[k]? =some x)(h:l.length+ (ks.flatMap aq).length<=100000000):qhJ x (l++ (ks.take k).flatMap aq):=by
 have:ks=ks.take k++x::ks.drop (k+1):=by rw[<-bB hx,qAz]
 rw[this]at h;simp only[qB4,qAw,qAm]at h;unfold qhJ;rw[qAm];omega
theorem QO(n:Nat)(h1:S iT=Wc n):NX (X:=Pat) (Y:=Pat) mP mG S (λx l=>db x<=n+1/\qhJ x l) (λx l r=>r=l++aq x) aK 13:=by
 rintro v l p ⟨hp,hl⟩;have hk:∀k∈p.kids,db k<=n:=λk hk=>by have:=kQ hk;have:db p<=n+1:=hp;omega
 have hl':=hl;unfold qhJ at hl';rw[bc]at hl';simp[mP,mG];refine⟨λh1=>⟨by simp[h1]at hl';omega,by simp[h1]at hl';omega,λv=>dF (l++aq p) (by simp[bc,h1]) rfl⟩,λhne _=>?_⟩;rw[if_neg hne]at hl';refine ah (X:=Value×List Pat) [15] [] p.kids.length (λk x=>x.2=l++ (p.kids.take k).flatMap aq) (λx=>[(1, .own 1 x.1)]) (λx=>[(1, .row x.1 aK 13 (x.2.map enc))]) (v,l) (by simp) ?_ ?_ (hh:=by simp[isNilRow])
 ·rintro k ⟨v,m⟩ hkl hm;simp only at hm;obtain⟨x,hx⟩:=aQ hkl;have hx1:=aP hx;obtain⟨_,hgx⟩:=qzV.1 hx;have q1:=YY hx hl';rw[<-hm]at q1;have q2:=hk x hx1;simp[h1,hkl,hx,hgx,q1,q2];intro v';refine .inl ?_;rw[hm,qfC _ hx]
 ·rintro⟨v,m⟩ hm;simp only at hm;rw[qAb]at hm;simp;refine dF m (by simp) ?_;rw[hm,bc,if_neg hne]
abbrev qgo:Spc:=qop (Y:=Pat) (aE Pat (aD a0)) (λx=>x.2.1=P5/\qhJ x.1 []) (λx r=>r=aq x.1) aK 13
theorem Oi(h1:S iT=i_leavesA):Xw (Y:=Pat) mP mG S (aE Pat (aD a0)) (λx=>x.2.1=P5/\qhJ x.1 []) (λx r=>r=aq x.1) aK 13:=by
 rintro⟨p,d,⟨⟩⟩ ⟨hd,hl⟩;have hd:d=P5:=hd;subst hd;have hl':([]:List Pat).length+ (aq p).length<=100000000:=hl;rw[bc]at hl';simp[mP,mG];refine⟨λh1 v=>dF (aq p) (by simp[bc,h1]) rfl,λhne _=>?_⟩;rw[if_neg hne]at hl';refine ah (X:=Value×List Pat) [15] [] p.kids.length (λk x=>x.2=[] ++ (p.kids.take k).flatMap aq) (λx=>[(1, .own 1 x.1)]) (λx=>[(1, .row x.1 aK 13 (x.2.map enc))]) (.slice none 0 0, []) (by simp) ?_ ?_ (hh:=by simp[isNilRow])
 ·rintro k ⟨v,m⟩ hkl hm;simp only at hm;obtain⟨x,hx⟩:=aQ hkl;have hx1:=aP hx;obtain⟨_,hgx⟩:=qzV.1 hx;have q1:=YY hx hl';rw[<-hm]at q1;simp[h1,hkl,hx,hgx,q1];intro v';refine .inl ?_;rw[hm,qfC _ hx];rfl
 ·rintro⟨v,m⟩ hm;simp only at hm;rw[qAb]at hm;simp;refine dF m (by simp) ?_;rw[hm,bc,if_neg hne];rfl
abbrev s_leaves:Spc:=qmi qgo i_leavesA
abbrev FR:Spc:=aL (a1 Pat) (λx=>(aq x).length<=100000000) (enc (X:=List Pat)) λx y=>y=if fJ aJ x then aq x else[]
def QP(h1:S dE=cX)(h2:S iT=s_leaves):am xc wy S (a1 Pat) (λx=>(aq x).length<=100000000) (enc (X:=List Pat)) λx y=>y=if fJ aJ x then aq x else[]:=by
 rintro p hp;have hp':qhJ p []:=by unfold qhJ;simpa using hp
 simp[xc,wy,h1,h2,-fB'];clear h1 h2;exact⟨λh=>ba [] (by simp) (by rw[h];rfl),λh=> .inl ⟨hp',λv=>ba (aq p) (fG aK (by simp)) (by rw[h];rfl)⟩⟩
abbrev Cw:Spc:=aL (a1 Pat) (λx=>fJ aJ x=true) (enc (X:=Int)) λx y=>y=fj x
abbrev D7:Spc:=aL (a1 Pat) (λ_=>True) (enc (X:=Int)) λx y=>y=if fJ aJ x then fj x else 0
def XR(h1:S dE=cX)(h2:S uL=Cw):am Cf Bg S (a1 Pat) (λ_=>True) (enc (X:=Int)) λx y=>y=if fJ aJ x then fj x else 0:=by
 rintro p -;simp[Cf,Bg,h1,h2,-fB'];exact⟨λh1 h2=>absurd (h1.symm.trans h2) (by simp),λh1=>⟨h1,λh2=>absurd (h2.symm.trans h1) (by simp)⟩⟩
abbrev FM:Spc:=aL (a1 Pat) (λx=>fJ aJ x=true) (mj (Y:=Int) (Z:=Int)) λx y=>y=aU x
abbrev Cz:Spc:=aL (a1 Pat) (λ_=>True) (mj (Y:=Int) (Z:=Int)) λx y=>y=if fJ aJ x then aU x else(0,0)
def TJ(h1:S dE=cX)(h2:S iz=FM):am zS yJ S (a1 Pat) (λ_=>True) (mj (Y:=Int) (Z:=Int)) λx y=>y=if fJ aJ x then aU x else(0,0):=by
 rintro p -;simp[zS,yJ,h1,h2,mj,-fB'];exact⟨λh1 h2=>absurd (h1.symm.trans h2) (by simp),λh1=>⟨h1,λh2=>absurd (h2.symm.trans h1) (by simp)⟩⟩
abbrev qec:Spc:=aL (a1 Cond) (λ_=>True) (enc (X:=Bool)) λx y=>(y=true↔x=Cond0)
def QW:am xj wE S (a1 Cond) (λ_=>True) (enc (X:=Bool)) λx y=>(y=true↔x=Cond0):=by
 rintro⟨op,n,a,v,l,f,ks⟩ -;simp[xj,wE,Cond0]
 repeat' first|apply And.intro|intro _
 all_goals simp_all
abbrev RA:Spc:=aL (a1 Pat) (λ_=>True) (enc (X:=Bool)) λx y=>y=oO x
def QZ(h1:S zK=qec):am xn wG S (a1 Pat) (λ_=>True) (enc (X:=Bool)) λx y=>y=oO x:=by
 rintro p -;simp[xn,wG,h1,-fB'];clear h1
 repeat' first|apply And.intro|intro _
 all_goals (rw[qAB,tR];unfold vG;simp_all;try omega)
abbrev Cx:Spc:=aL (a1 Pat) (λ_=>True) (enc (X:=Bool)) λx y=>y=mI aJ x
def Oo(h1:S bJ=uc):am vn um S (a1 Pat) (λ_=>True) (enc (X:=Bool)) λx y=>y=mI aJ x:=by
 rintro p -;simp[vn,um,h1,mI,-fB'];clear h1
 repeat' first|apply And.intro|intro _
 all_goals (first|omega|simp_all;try omega)
abbrev xO:Spc:=aL (a1 Pat) (λ_=>True) (enc (X:=Bool)) λx y=>y=lJ x
def Lm:am sP sf S (a1 Pat) (λ_=>True) (enc (X:=Bool)) λx y=>y=lJ x:=by
 rintro p -;simp[sP,sf,lJ]
 repeat' first|apply And.intro|intro _
 all_goals (first|omega|(rw[qAB];simp;omega))
theorem QX(n:Nat)(h1:S gg=Ry n):am xk wF S (a1 Pat) (PPat (n+1)) (enc (X:=Int)) λx y=>y=fj x:=by
 rintro p hp;have hk:∀k∈p.kids,PPat n k:=λk=>hp.kid
 have hs:∀k∈p.kids,0<=fj k/\fj k<=1000:=λk h=>Pv (v:=aJ) k (hk k h).2
 simp[xk,wF];intro _;refine ah (X:=Int) [1,7] [] p.kids.length (λk n=>n=eo (p.kids.take k) 0) (λn=>[(3,enc n)]) (λ_=>[]) 0 (by simp[eo]) ?_ ?_
 ·rintro k m hkl hP;obtain⟨x,hx⟩:=aQ hkl;have hx1:=aP hx;obtain⟨_,hgx⟩:=qzV.1 hx;have hm:=qb (p.kids.take k) 0 (by omega) (by omega) (λy hy=>(hs y (qAl hy)).1);have h2:=hs x hx1;rw[<-hP]at hm;have q1:=hk x hx1;simp[h1,hkl,hx,hgx,q1];refine⟨by simp only[InR];omega,?_⟩;rw[au hx,LV,<-hP,eo,eo]
 ·rintro m hP;have hm:=qb (p.kids.take p.kids.length) 0 (by omega) (by omega) (λy hy=>(hs y (qAl hy)).1);rw[<-hP]at hm;rw[qAb]at hP;have hn:=(df hp.2).2.2;unfold lJ at hn;rw[decide_eq_true_eq]at hn;rw[nR,Bb,<-hP];simp;intro _;refine⟨λh=>λh'=>absurd h h',λh0=>⟨λh6=>?_,λh6=>by rw[if_neg h0,if_neg h6]⟩⟩;rw[if_neg h0,if_pos h6];have hn:=hn h6;refine⟨λe=>by rw[if_neg (by omega),if_pos e],λe=>⟨λe2=>?_,λe2=>?_⟩⟩
  ·have h2:=oP hm.1 hm.2 (show 0<=p.mn+1 by omega) (show p.mn+1<=17 by omega);rw[if_pos (by omega)];exact⟨by simp only[InR];omega,by simp only[InR];omega,rfl⟩
  ·have h2:=oP hm.1 hm.2 (show 0<=p.mx by omega) (show p.mx<=16 by omega);rw[if_neg (by omega),if_neg e];exact⟨by simp only[InR];omega,rfl⟩
def Q0(h1:S jw=cX)(h2:S gg=Cw):am xp wI S (a1 Pat) (λ_=>True) (enc (X:=Int)) λx y=>y=if fJ aJ x then fj x else 0:=by
 rintro p -;simp[xp,wI,h1,h2,-fB'];exact⟨λh1 h2=>absurd (h1.symm.trans h2) (by simp),λh1=>⟨h1,λh2=>absurd (h2.symm.trans h1) (by simp)⟩⟩
def Ow(h1:S jw=cX)(h2:S mL=FM):am vt ur S (a1 Pat) (λ_=>True) (mj (Y:=Int) (Z:=Int)) λx y=>y=if fJ aJ x then aU x else(0,0):=by
 rintro p -;simp[vt,ur,h1,h2,mj,-fB'];exact⟨λh1 h2=>absurd (h1.symm.trans h2) (by simp),λh1=>⟨h1,λh2=>absurd (h2.symm.trans h1) (by simp)⟩⟩
theorem Ol(n:Nat)(h1:S mL=K0 n):am io gU S (a1 Pat) (PPat (n+1)) (mj (Y:=Int) (Z:=Int)) λx y=>y=aU x:=by
 rintro p hp;have hk:∀k∈p.kids,PPat n k:=λk=>hp.kid
 have hs:∀k∈p.kids,eh (aU k):=λk h=>yu (v:=aJ) k (hk k h).2
 have hn:=(df hp.2).2.2;unfold lJ at hn;rw[decide_eq_true_eq]at hn;rcases qv (df hp.2).1 with⟨ho,_⟩|⟨ho,_⟩|⟨ho,k0,ks,hkk⟩|⟨ho,k0,hkk⟩
 ·simp[io,gU,h1,ho,qdv ho]
 ·have:=qdu ho;rcases ho with ho|ho<;>simp[io,gU,h1,ho,this]
 ·have hc:p.op≠1/\p.op≠2/\p.op≠3/\p.op≠6:=by omega
  have q1:=hk k0 (by rw[hkk];simp);have q2:=hs k0 (by rw[hkk];simp);simp[io,gU,h1,hc,mj,hkk,q1];refine⟨by omega,λ_=>?_⟩;refine ah (X:=Int×Int) [1,69] [] ks.length (λk w=>w=mE (decide (p.op=4)) (ks.take k) (aU k0)/\eh w) (λw=>[(6,enc w.1),(7,enc w.2)]) (λ_=>[]) (aU k0) (by simp[mE,q2]) ?_ ?_
  ·rintro k w hkl ⟨hP1,hP2⟩;obtain⟨x,hx⟩:=aQ hkl;have hx1:x∈p.kids:=by rw[hkk];exact qBx _ (aP hx)
   obtain⟨_,hgx⟩:=qzV.1 hx;have q3:=hk x hx1;have q4:=hs x hx1;have key:∀r:Int×Int,r=N8 (decide (p.op=4)) w (aU x)->r=mE (decide (p.op=4)) (ks.take (k+1)) (aU k0)/\eh r:=by
    intro r hr;rw[au hx,Pl,mE,mE,<-hP1];exact⟨hr,by rw[hr];exact QH hP2 q4⟩
   simp[h1,hkl,hx,hgx,q3,mj];clear h1;generalize aU x=u at q4 key;obtain⟨u1,u2⟩:=u;obtain⟨w1,w2⟩:=w;unfold eh at q4 hP2;simp only at q4 hP2;clear hP1;refine⟨λe1=>⟨λh4=>⟨by simp only[InR];omega,by simp only[InR];omega,λe2=>key _ ?_,λe2=>key _ ?_⟩,λh4=>⟨λe2=>key _ ?_,λe2=>key _ ?_⟩⟩,λe1=>⟨λh4=>⟨by simp only[InR];omega,by simp only[InR];omega,key _ ?_⟩,λh4=>key _ ?_⟩⟩
   all_goals clear key
   all_goals (try simp only at e1)
   all_goals (try simp only at e2)
   all_goals (unfold N8;simp[h4];try omega)
  ·rintro w ⟨hP,_⟩;simp[mj];rw[qdt ho hkk];rw[qAb]at hP;rw[<-hP]
 ·have q1:=hk k0 (by rw[hkk];simp);have q2:=hs k0 (by rw[hkk];simp);have hn:=hn ho;simp[io,gU,h1,ho,hkk,q1,mj];rw[qds ho hkk];generalize aU k0=w at q2;unfold eh at q2;have h2:=oP q2.1 q2.2.1 hn.1 hn.2.1;refine⟨by simp only[InR];omega,λe1=>⟨λe2=>by rw[if_pos (.inr e2)],λe2=>⟨λe3=>⟨λe4=>?_,λe4=>?_⟩,λe3=>?_⟩⟩,λe1=>by rw[if_pos (.inl e1)]⟩
  ·rw[if_neg (by omega),if_pos (by omega)]
  ·have h3:=oP e4 q2.2.2.2 (show 0<=p.mx by omega) (show p.mx<=16 by omega);refine⟨by simp only[InR];omega,?_⟩;rw[if_neg (by omega),if_neg (by omega)]
  ·rw[if_neg (by omega),if_pos (by omega)]
def FunOnP{X Y:Type}[Cod X][Cod Y](S:Nat->Spc)(d:D)(l:List X)(p:X->Y):Prop:=
 ∃g caps pc,d= .clo g caps/\S g= .pure pc/\∀x∈l,pc.pre (enc x::caps)/\∀r,pc.post (enc x::caps) r->r=enc (p x)
def FunOnP.useB{X:Type}[Cod X]{S:Nat->Spc}{d:D}{l:List X}{p:X->Bool}(h:FunOnP S d l p)(x:X)(hx:x∈l){d':Nat}{H:ab}{K:D->ab->Prop}(hk:∀y:Bool,(∀q,FunOnP S d l q->y=q x)->K (.v (.bool y)) H):Cj S d d' [enc x] H K:=by
 obtain⟨g,caps,pc,rfl,h1,h2⟩:=h;simp only[Cj,h1,Spc.pt];refine⟨(h2 x hx).1,λr hr=>?_⟩;have e:=(h2 x hx).2 r hr;rw[e];refine hk (p x) λq hq=>?_
 obtain⟨g',caps',pc',e',k1,k2⟩:=hq;cases e';rw[h1]at k1;cases k1;exact bK (e.symm.trans ((k2 x hx).2 r hr))
def FunIs.on{X Y:Type}[Cod X][Cod Y]{S:Nat->Spc}{d:D}{p:X->Y}(h:FunIs S d p)(l:List X):FunOnP S d l p:=by
 obtain⟨g,caps,pc,h1,h2,h3⟩:=h;exact⟨g,caps,pc,h1,h2,λx _=>h3 x⟩
def It{X Y:Type}[Cod X][Cod Y]{S:Nat->Spc}{g:Nat}{c:D}{l:List X}{pre:X×D×Unit->Prop}{post:X×D×Unit->Y->Prop}{p:X->Y}(h:S g=aL (aE X (aD a0)) pre enc post)(hp:∀x∈l,pre (x,c,()))(hq:∀x∈l,∀y,post (x,c,()) y->y=p x):FunOnP S (.clo g [c]) l p:=by
 refine⟨g, [c],_,rfl,h,λx hx=>⟨⟨(x,c,()),by simp,hp x hx⟩,λr hr=>?_⟩⟩;obtain⟨y,rfl,hy⟩:=hr (x,c,()) (by simp) (hp x hx);rw[hq x hx y hy]
def qas(x:Pat):D.agg [D.v (Value.int IntKind.i64 x.op),D.v (Value.int IntKind.i64 x.cond.op),D.v (Value.string x.cond.name),D.v (Value.string x.cond.arg),D.v (Value.string x.cond.val),D.v (Value.string x.cond.lab),D.v (Value.bool x.cond.fold),D.list 7 (List.map enc x.cond.kids),D.v (Value.string x.lab),D.v (Value.string x.reg),D.v (Value.int IntKind.i64 x.mn),D.v (Value.int IntKind.i64 x.mx),D.list 13 (List.map enc x.kids)]=enc x:=by simp
def Tu(S0:Nat->Spc)(x:List Pat×D×Unit):Prop:=∃p:Pat->Bool,FunOnP S0 x.2.1 x.1 p
def qhD(S0:Nat->Spc)(x:List Pat×D×Unit)(y:Int):Prop:=∀p:Pat->Bool,FunOnP S0 x.2.1 x.1 p->y=kB x.1 p
abbrev qlX(S0:Nat->Spc):Spc:=aL (aE (List Pat) (aD a0)) (Tu S0) enc (qhD S0)
def tX:am fg fe S (aE (List Pat) (aD a0)) (Tu S) enc (qhD S):=by
 rintro⟨l,d,⟨⟩⟩ ⟨p,hp⟩;simp at hp;simp[fg,fe];intro _;refine ah (X:=Unit) [0,1] [] l.length (λk _=>∀p:Pat->Bool,FunOnP S d l p->∀x∈l.take k,p x=false) (λ_=>[]) (λ_=>[]) () (by simp) ?_ ?_
 ·intro k _ hk hP;simp;refine⟨hk,λx hx=>?_⟩;rw[qas x];refine hp.useB x (aP hx) λy hy=>?_
  simp;refine⟨λh=>?_,λh p' hp'=>?_⟩
  ·intro p' hp';exact(tF hx (by rw[<-hy p' hp',h]) (hP p' hp')).symm
  ·rw[au hx];intro z hz;rcases qz5.1 hz with hz|hz
   ·exact hP p' hp' z hz
   ·simp at hz;subst hz;rw[<-hy p' hp',h]
 ·intro _ hP;simp;intro p' hp';exact(lK (by simpa using hP p' hp')).symm
def qhE(S0:Nat->Spc)(x:List Pat×D×Unit)(y:Bool):Prop:=∀p:Pat->Bool,FunOnP S0 x.2.1 x.1 p->y=x.1.any p
abbrev RI(S0:Nat->Spc):Spc:=aL (aE (List Pat) (aD a0)) (Tu S0) enc (qhE S0)
def ru(h1:S kU=qlX S0):am dX dQ S (aE (List Pat) (aD a0)) (Tu S0) enc (qhE S0):=by
 rintro⟨l,d,⟨⟩⟩ hp;simp[dX,dQ,h1,-fB'];refine⟨hp,λy hy p' hp'=>?_⟩;rw[hy p' hp'];exact zy p' l
abbrev PA(n:Nat):Spc:=aL (a2 Pat Int) (λx=>db x.1<=n/\0<=x.2/\x.2<=101) (enc (X:=Bool)) λx y=>y=cA x.1 x.2
def qle(n:Nat)(x:Pat×D×Unit):Prop:=∃d:Int,x.2.1= .cptr [enc d] 0/\db x.1<=n/\0<=d/\d<=100
def qhy(x:Pat×D×Unit)(y:Bool):Prop:=∀d:Int,x.2.1= .cptr [enc d] 0->y=!cA x.1 (d+1)
abbrev qel(n:Nat):Spc:=aL (aE Pat (aD a0)) (qle n) enc qhy
def Fe(n:Nat)(h1:S jo=PA n):am ny nb S (aE Pat (aD a0)) (qle n) enc qhy:=by
 rintro⟨p,d,⟨⟩⟩ ⟨e,hd,h2,h3,h4⟩;simp at hd h2;subst hd;simp[ny,nb,h1,qhy,h2,-fB'];exact⟨by simp only[InR];omega,by omega⟩
def JQ(n:Nat)(h0:S0 gh=qel n)(h1:S aR=RI S0):am qK qg S (a2 Pat Int) (λx=>db x.1<=n+1/\0<=x.2/\x.2<=101) (enc (X:=Bool)) λx y=>y=cA x.1 x.2:=by
 rintro⟨p,d⟩ ⟨hn,hd0,hd1⟩;have hk:∀k∈p.kids,db k<=n:=λk hk=>by have:=kQ hk;have:db p<=n+1:=hn;omega
 simp only at hd0 hd1;simp[qK,qg,h1,-fB'];rw[nH];refine⟨λh=>?_,λh=>by rw[decide_eq_false (by omega)];rfl⟩;have hf:FunOnP S0 (.clo gh [.cptr [.v (.int .i64 d)] 0]) p.kids λx=>!cA x (d+1):=
  It h0 (λx hx=>⟨d,rfl,hk x hx,hd0,h⟩) (λx _ y hy=>hy d rfl)
 refine⟨⟨_,hf⟩,λy hy=>?_⟩;rw[hy _ hf,decide_eq_true h,qBF];simp[qCh]
def qlg(S0:Nat->Spc)(n:Nat)(x:Pat×D×Unit):Prop:=∃(d:D) (f:Pat->Bool),x.2.1= .cptr [d] 0/\FunIs S0 d f/\db x.1<=n
def qhz(S0:Nat->Spc)(x:Pat×D×Unit)(y:Bool):Prop:=∀(d:D) (f:Pat->Bool),x.2.1= .cptr [d] 0->FunIs S0 d f->y=!ck f x.1
abbrev Z7(S0:Nat->Spc)(n:Nat):Spc:=aL (aE Pat (aD a0)) (λx=>∃f:Pat->Bool,FunIs S0 x.2.1 f/\db x.1<=n) enc λx y=>∀f:Pat->Bool,FunIs S0 x.2.1 f->y=ck f x.1
abbrev qey(S0:Nat->Spc)(n:Nat):Spc:=aL (aE Pat (aD a0)) (qlg S0 n) enc (qhz S0)
def JT(n:Nat)(h1:S fl=Z7 S0 n):am qM qi S (aE Pat (aD a0)) (qlg S0 n) enc (qhz S0):=by
 rintro⟨p,d,⟨⟩⟩ ⟨e,f,hd,h2,h3⟩;simp at hd h3;subst hd;simp[qM,qi,h1,qhz,h3,-fB'];exact⟨⟨f,h2⟩,λy hy d g e hg=>by subst e;exact hy g hg⟩
theorem Oq{N:Nat->Spc}(n:Nat)(hN:∀(d:D) (f:Pat->Bool),FunIs N d f->FunIs S d f)(h0:S0 jq=qey N n)(h1:S aR=RI S0):am vo un S (aE Pat (aD a0)) (λx=>∃f:Pat->Bool,FunIs N x.2.1 f/\db x.1<=n+1) enc λx y=>∀f:Pat->Bool,FunIs N x.2.1 f->y=ck f x.1:=by
 rintro⟨p,d,⟨⟩⟩ ⟨f,hf,hn⟩;have hk:∀k∈p.kids,db k<=n:=λk hk=>by have:=kQ hk;have:db p<=n+1:=hn;omega
 simp at hf;have hd1:d.kn=true/\d.cells=[d]:=by obtain⟨g,caps,pc,rfl,_⟩:=hf;exact⟨rfl,rfl⟩
 simp[vo,un,h1,hd1,-fB'];rw[qas p];refine((hN d f hf).on [p]).useB p (by simp) λy hy=>?_
 have hy:∀f,FunIs N d f->y=f p:=λf hf=>hy f ((hN d f hf).on [p])
 simp[h1,-fB'];refine⟨λht=>?_,λhff g hg=>by rw[cM,<-hy g hg,hff];rfl⟩;have hO:∀g,FunIs N d g->FunOnP S0 (.clo jq [.cptr [d] 0]) p.kids λx=>!ck g x:=λg hg=>
  It h0 (λx hx=>⟨d,g,rfl,hg,hk x hx⟩) (λx _ y hy=>hy d g rfl hg)
 refine⟨⟨_,hO f hf⟩,λz hz g hg=>?_⟩;rw[hz _ (hO g hg),cM,<-hy g hg,ht,qBF];simp[qCh]
abbrev LY:Spc:=aL (a2 Pat Int) (λx=>0<=x.2/\x.2<=101) (enc (X:=Bool)) λx y=>y=cA x.1 x.2
abbrev Bc(N:Nat->Spc):Spc:=aL (aE Pat (aD a0)) (λx=>∃f:Pat->Bool,FunIs N x.2.1 f) enc λx y=>∀f:Pat->Bool,FunIs N x.2.1 f->y=ck f x.1
abbrev K4:Spc:=aL (a1 Pat) (λ_=>True) (enc (X:=Bool)) λx y=>y=(cA x 1 && ck oO x)
def uI{X:Type}[Cod X]{S:Nat->Spc}{g:Nat}{pre:X->Prop}{p:X->Bool}(h:S g=aL (a1 X) pre enc λx y=>y=p x)(hp:∀x,pre x):FunIs S (.clo g []) p:=by
 refine⟨g, [],_,rfl,h,λx=>⟨⟨x,by simp,hp x⟩,λr hr=>?_⟩⟩;obtain⟨y,rfl,hy⟩:=hr x (by simp) (hp x);rw[hy]
def Oy{N:Nat->Spc}(h0:N lM=RA)(h1:S jo=LY)(h2:S fl=Bc N):am vu uu S (a1 Pat) (λ_=>True) (enc (X:=Bool)) λx y=>y=(cA x 1 && ck oO x):=by
 rintro p -;have f1:FunIs N (.clo lM []) oO:=uI h0 λ_=>trivial
 simp[vu,uu,h1,h2,-fB'];refine⟨λh=>⟨⟨_,f1⟩,λy hy=>by rw[hy _ f1,h];rfl⟩,λh h'=>absurd (h.symm.trans h') (by simp)⟩
def Om{N:Nat->Spc}(h0:N dv=Cx)(h0':N cT=xO)(h1:S mO=K4)(h2:S fl=Bc N):am vm ul S (a1 Pat) (λ_=>True) (enc (X:=Bool)) λx y=>y=fJ aJ x:=by
 rintro p -;have f1:FunIs N (.clo dv []) (mI aJ):=uI h0 λ_=>trivial
 have f2:FunIs N (.clo cT []) lJ:=uI h0' λ_=>trivial
 simp[vm,ul,h1,h2,-fB'];unfold fJ;refine⟨λh1 h2=>⟨⟨_,f1⟩,λy hy=>?_⟩,λh=>?_⟩
 ·have hy:=hy _ f1;refine⟨λht=>⟨⟨_,f2⟩,λz hz=>?_⟩,λhf=>?_⟩
  ·rw[hz _ f2,h1,h2,<-hy,ht];rfl
  ·rw[<-hy,hf];simp
 ·rcases hs:cA p 1
  ·rfl
  ·rw[h hs];rfl
end Go.Gv
namespace Go.Gv
mutual
def jL:Pat->Nat| .mk op _ _ _ mn _ ks=>if ks=[]then 1 else if op=6 then(max 1 mn).toNat*lg ks else lg ks
def lg:List Pat->Nat|[]=>0|k::ks=>jL k+lg ks
end
def kq(p:Pat):jL p=if p.kids=[]then 1 else if p.op=6 then(max 1 p.mn).toNat*lg p.kids else lg p.kids:=by cases p;unfold jL;rfl
def CD(a b:List Pat):bi (a++b)=bi a+bi b:=by
 induction a with
 |nil=>simp[bi]
 |cons k a ih=>simp only[qAK,bi];omega
def Nz(p:Pat):1<=jL p:=by
 induction p using fZ with|_ p ih=>?_
 rw[kq];split
 ·omega
 ·rename_i h;have:1<=lg p.kids:=by
   rcases hk:p.kids with _|⟨k,ks⟩
   ·exact absurd hk h
   ·rw[lg];have:=ih k (by rw[hk];simp);omega
  split
  ·exact Nat.mul_pos (by omega) this
  ·exact this
theorem qlm{lb:List B} :∀n p,WP lb n p->jL p<=2^n:=by
 refine Ho λn p hp ih=>?_
 rw[kq];rcases xw hp with(⟨h1,h2,h3,h4,h5,h6⟩|⟨h1,h2,h3,h4,h5,h6,h7⟩)|⟨m,rfl,(⟨h1,h2,h3,h4,h5,h6,a,b,h7,_⟩|⟨h1,h2,h3,h4,h5,a,h7,_⟩)⟩
 ·rw[if_pos h6];exact Nat.one_le_two_pow
 ·rw[if_pos h7];exact Nat.one_le_two_pow
 ·obtain⟨m1,e1,_,a1⟩:=ih a (by rw[h7];simp);obtain⟨m2,e2,_,a2⟩:=ih b (by rw[h7];simp);have e1:m1=m:=by omega
  have e2:m2=m:=by omega
  subst e1;subst e2;rw[h7,if_neg (by simp),if_neg (by omega),Nat.pow_succ];simp only[lg];omega
 ·obtain⟨m1,e1,_,a1⟩:=ih a (by rw[h7];simp);have e1:m1=m:=by omega
  subst e1;rw[h7,if_neg (by simp),if_pos h1,Nat.pow_succ];simp only[lg];have:(max 1 p.mn).toNat<=2:=by
   simp[Xy]at h5;omega
  have:=Nat.mul_le_mul this a1;rw[qA5];omega
end Go.Gv
