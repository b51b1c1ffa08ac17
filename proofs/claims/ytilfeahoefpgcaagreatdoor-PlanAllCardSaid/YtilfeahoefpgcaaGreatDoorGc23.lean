/- T38 -/
import Derived.Shelf.SlSortCmp.NoneTotal
import Derived.Test.YtilfeahoefpgcaaGreatDoorGc22
set_option linter.all false
set_option maxRecDepth 100000
set_option maxHeartbeats 0
open Bool renaming forall_bool → fB', exists_bool → eB'
namespace Go.Gv
open Cod (enc dec)
theorem MS{a b:D}(ha:Dy a=true)(hb:Dy b=true)(h:qbo a b):a=b:=by
 obtain⟨tp,I,w,x,h1,h2⟩:=h;have one:∀d:D,Dy d=true->(∃cs,d= .agg cs)\/ ∃v,d= .v v:=λd hd=>by
  cases d<;>first|exact .inl ⟨_,rfl⟩|exact .inr ⟨_,rfl⟩|(simp[Dy,D.cells,qoi]at hd)
 rcases one a ha with⟨cs,rfl⟩|⟨v,rfl⟩ <;>rcases one b hb with⟨cs',rfl⟩|⟨v',rfl⟩
 ·obtain⟨xs,rfl,hl,hc⟩:=h1.inv_agg;obtain⟨ys,he,hl2,hc2⟩:=h2.inv_agg;have hxy:xs=ys:=by simpa using he
  subst hxy;have hce:cs=cs':=by
   refine List.ext_getElem (by omega) λi h3 h4=>?_
   have hi:i<xs.length:=by omega
   have v1:qoi cs[i]=true:=qzY.1 ha _ (by simp[D.cells]);have v2:qoi cs'[i]=true:=qzY.1 hb _ (by simp[D.cells]);have r1:=(hc i _ _ (qzR hi) (qzR h3)).2;have r2:=(hc2 i _ _ (qzR hi) (qzR h4)).2;generalize cs[i]=p at*;generalize cs'[i]=q at*;cases p<;>first|(cases v1;done)|skip
   cases q<;>first|(cases v2;done)|skip
   rw[<-r1.inv_v,<-r2.inv_v]
  rw[hce]
 ·obtain⟨xs,rfl,_,_⟩:=h1.inv_agg;have:=h2.inv_v;cases h2 with
  |v _ h _=>simp[Value.oneCell']at h
 ·obtain⟨xs,rfl,_,_⟩:=h2.inv_agg;cases h1 with
  |v _ h _=>simp[Value.oneCell']at h
 ·rw[<-h1.inv_v,<-h2.inv_v]
structure qnM (X:Type) [Cod X] (ka:Bool) (ks:List KK):Prop where
 fit:∀x:X,Ws ka ks (enc x)=true
 pur:∀x:X,Dy (enc x)=true
def VW:qnM Int false [.int .i64]:=⟨λ_=>rfl,λ_=>rfl⟩
section
variable {X:Type}[Cod X][DecidableEq X]
def ji(l:List X):List D:=l.map λx=> .tup [enc x, .v (.bool true)]
def Y0(x:X)(l:List X):List X:=if x∈l then l else l++ [x]
def VK{x:X}{v:D}{l:List X} :D.tup [enc x,v] ∈ji l↔x∈l/\v= .v (.bool true):=by
 simp only[ji,qzV,D.tup.injEq,qAu,and_true];exact⟨λ⟨y,h1,h2,h3⟩=>⟨bK h2 ▸h1,h3.symm⟩,λ⟨h1,h2⟩=>⟨x,h1,rfl,h2.symm⟩⟩
def qd9{d:D}{l:List X}(h:d∈ji l):∃x∈l,d= .tup [enc x, .v (.bool true)]:=by
 obtain⟨x,h1,rfl⟩:=qzV.1 h;exact⟨x,h1,rfl⟩
def LW:∀{l:List X} {l1 l2:List D} {e:D},ji l=l1++e::l2->∃a x b,l=a++x::b/\l1=ji a/\e= .tup [enc x, .v (.bool true)]/\l2=ji b
 | [],l1,l2,e,h=>by
   have:=congrArg List.length h;simp[ji]at this
 | y::l, [],l2,e,h=>by
   simp only[ji,qAi,qAT,qAu]at h;exact⟨[],y,l,rfl,rfl,h.1.symm,h.2.symm⟩
 | y::l,d::l1,l2,e,h=>by
   simp only[ji,qAi,qAE,qAu]at h;obtain⟨a,x,b,rfl,rfl,h3,h4⟩:=LW (l:=l) h.2;exact⟨y::a,x,b,rfl,by simp[ji,h.1],h3,h4⟩
def qea(a b:List X):ji (a++b)=ji a++ji b:=by simp[ji]
def UP{ka:Bool}{ks:List KK}(hK:qnM X ka ks)(l:List X):(ji l).all (Zf ka ks)=true:=by
 rw[qzY];intro d hd;obtain⟨x,_,rfl⟩:=qd9 hd;exact hK.fit x
def qiz{ka:Bool}{ks:List KK}(hK:qnM X ka ks){x:X}{l:List X}{k:D}{K:List D->Prop}(hk:k=enc x)(h:K (ji (Y0 x l))):ZQ ka ks k (.v (.bool true)) (ji l) K:=by
 subst hk;refine⟨UP hK l,hK.fit x,λl1 k' v' l2 e m=>?_,λhn=>?_⟩
 ·obtain⟨a,y,b,rfl,rfl,h3,rfl⟩:=LW e;simp only[D.tup.injEq,qAu,and_true]at h3;obtain⟨rfl,rfl⟩:=h3;have:=bK (MS (hK.pur x) (hK.pur y) m);subst this;rw[<-e];have:Y0 x (a++x::b)=a++x::b:=by unfold Y0;rw[if_pos (by simp)]
  rw[this]at h;exact h
 ·have hx:x∉l:=λhx=>hn (hK.pur x) _ (VK.2 ⟨hx,rfl⟩)
  have:Y0 x l=l++ [x]:=by unfold Y0;rw[if_neg hx]
  rw[this,qea]at h;exact h
end
open Go.Proofs
structure St3 where
 p:Int
 b0:Int
 b1:Int
 b2:Int
deriving DecidableEq
instance:Cod St3 where
 wd:=4
 enc s:= .agg [enc s.p,enc s.b0,enc s.b1,enc s.b2]
 dec| .agg [x0,x1,x2,x3]=>(dec x0).bind λx0=>(dec x1).bind λx1=>(dec x2).bind λx2=>(dec x3).bind λx3=>some ⟨x0,x1,x2,x3⟩|_=>none
 kn _:=rfl
 wid _:=rfl
 dec_enc s:=by simp
 le d x h:=by
  split at h
  ·simp only[qzO]at h;obtain⟨x0,h0,x1,h1,x2,h2,x3,h3,h⟩:=h;cases h;exact LeL.agg (.cons (Cod.le _ _ h0) (.cons (Cod.le _ _ h1) (.cons (Cod.le _ _ h2) (.cons (Cod.le _ _ h3) .nil))))
  ·cases h
structure Rn where
 c:Corpus
 lb:List B
 bg:Int
 en:Int
def St3.get(s:St3)(i:Nat):Int:=match i with|0=>s.b0|1=>s.b1|_=>s.b2
def St3.set(s:St3)(i:Nat)(x:Int):St3:=match i with|0=>⟨s.p,x,s.b1,s.b2⟩|1=>⟨s.p,s.b0,x,s.b2⟩|_=>⟨s.p,s.b0,s.b1,x⟩
def qug(r:Rn)(s:St3):List Int:=(List.range r.lb.length).map λi=>s.get i -1
def quR(r:Rn)(p:Pat)(s:St3):Option Bool:=vK ⟨r.c,s.p,r.lb,qug r s⟩ 21 p.cond
section
variable {α:Type}
def Pow(R:α->α->Prop):Nat->α->α->Prop
 | 0=>λs t=>s=t
 |n+1=>λs t=>∃u,R s u/\Pow R n u t
def Star(R:α->α->Prop)(s t:α):Prop:=∃n,Pow R n s t
def Pow.add{R:α->α->Prop} :∀{m n:Nat} {s t u:α},Pow R m s t->Pow R n t u->Pow R (m+n) s u
 | 0,n,s,t,u,h,k=>by cases h;rwa [qAA]
 | m+1,n,s,t,u,⟨v,h1,h2⟩,k=>by
   rw[Nat.succ_add];exact⟨v,h1,h2.add k⟩
def Star.refl(R:α->α->Prop)(s:α):Star R s s:=⟨0,rfl⟩
def Star.one{R:α->α->Prop}{s t:α}(h:R s t):Star R s t:=⟨1,t,h,rfl⟩
def Star.trans{R:α->α->Prop}{s t u:α}(h:Star R s t)(k:Star R t u):Star R s u:=by
 obtain⟨m,h⟩:=h;obtain⟨n,k⟩:=k;exact⟨m+n,h.add k⟩
def Star.mono{R Q:α->α->Prop}(hR:∀s t,R s t->Star Q s t){s t:α}(h:Star R s t):Star Q s t:=by
 obtain⟨n,h⟩:=h
 induction n generalizing s with
 |zero=>cases h;exact .refl _ _
 | succ n ih=>
   obtain⟨u,h1,h2⟩:=h;exact(hR _ _ h1).trans (ih h2)
def Pow.mono{R Q:α->α->Prop}(hR:∀s t,R s t->Q s t):∀{n:Nat} {s t:α},Pow R n s t->Pow Q n s t
 | 0,_,_,h=>h
 |n+1,_,_,⟨u,h1,h2⟩=>⟨u,hR _ _ h1,h2.mono hR⟩
end
def qzK(m:Int)(s:St3):Prop:=0<=s.p/\s.p<=m/\∀i,0<=s.get i/\s.get i<=m
mutual
def sA:Pat->List Pat
 | .mk op cond lab reg mn mx ks=> .mk op cond lab reg mn mx ks::zq ks
def zq:List Pat->List Pat
 | []=>[]
 |k::ks=>sA k++zq ks
end
def PAll(C:Pat->Prop)(p:Pat):Prop:=∀q∈sA p,C q
def JA:∀{ks:List Pat} {k q:Pat},k∈ks->q∈sA k->q∈zq ks
 | a::ks,k,q,h,hq=>by
   rw[zq,qzZ];rcases qz4.1 h with rfl|h
   ·exact .inl hq
   ·exact .inr (JA h hq)
def we:∀{ks:List Pat} {q:Pat},q∈zq ks->∃k∈ks,q∈sA k
 | [],q,h=>by rw[zq]at h;cases h
 | a::ks,q,h=>by
   rw[zq,qzZ]at h;rcases h with h|h
   ·exact⟨a,by simp,h⟩
   ·obtain⟨k,h1,h2⟩:=we h;exact⟨k,by simp[h1],h2⟩
def VI(p:Pat):p∈sA p:=by cases p;rw[sA];simp
def PW{C:Pat->Prop}{p:Pat}(h:PAll C p):C p:=h p (VI p)
def Vq{C:Pat->Prop}{p k:Pat}(h:PAll C p)(hk:k∈p.kids):PAll C k:=λq hq=>h q (by cases p;rw[sA];exact qBr _ (JA hk hq))
def qi9{C:Pat->Prop}{p:Pat}(h:C p)(hk:∀k∈p.kids,PAll C k):PAll C p:=λq hq=>by
 cases p;rw[sA]at hq;rcases qz4.1 hq with rfl|hq
 ·exact h
 ·obtain⟨k,h1,h2⟩:=we hq;exact hk k h1 q h2
def CB{C D:Pat->Prop}{p:Pat}(h:PAll C p)(hCD:∀q,C q->D q):PAll D p:=λq hq=>hCD q (h q hq)

def qeS(c:Corpus)(lb:List B)(t:pU):Rn:=⟨c,lb,t.b,min t.e c.toks.length⟩
def qko(r:Rn)(s:St3):(qug r s).length=r.lb.length:=by simp[qug]
def VH:∀(n:Nat) (l:List Nat),l.Nodup->(∀x∈l,x<n)->l.length<=n
 | 0, [],_,_=>qzX _
 | 0,x::l,_,h=>absurd (h x (by simp)) (Nat.not_lt_zero _)
 | n+1,l,hn,h=>by
   have ih:=VH n (l.erase n) (hn.erase n) λx hx=>by
    have h1:=(List.Nodup.mem_erase_iff hn).1 hx;have:=h x h1.2;omega
   have h2:l.length<=(l.erase n).length+1:=by
    rw[List.length_erase];split<;>omega
   omega
def qcj{α:Type}{l:List α}{f:α->Nat}{n:Nat}(h1:l.Nodup)(h2:∀x∈l,f x<n)(h3:∀x∈l,∀y∈l,f x=f y->x=y):l.length<=n:=by
 have hn:∀{l:List α},l.Nodup->(∀x∈l,∀y∈l,f x=f y->x=y)->(l.map f).Nodup:=λ{l} h1 h3=>by
  induction l with
  |nil=>exact qB0
  | cons a l ih=>
    rw[qAi,qAW];have h4:=qAW.1 h1;refine⟨λhm=>?_,ih h4.2 λx hx y hy=>h3 x (by simp[hx]) y (by simp[hy])⟩;obtain⟨y,hy,e⟩:=qzV.1 hm;have:=h3 y (by simp[hy]) a (by simp) e;subst this;exact h4.1 hy
 have:=VH n (l.map f) (hn h1 h3) λx hx=>by
  obtain⟨y,hy,rfl⟩:=qzV.1 hx;exact h2 y hy
 simpa using this

variable {S S0:Nat->Spc}


end Go.Gv
namespace Go.Gv
open Cod (enc dec)
variable {dq:Prop}
section
variable {Y Z:Type}
variable {P:Program}{S:Nat->Spc}{f:Nat}{im:List Nat}{cc:CC}{rs:List ak}{N:Nat}
end
section
variable {Y Z:Type}
variable {P:Program}{S:Nat->Spc}{f:Nat}{im:List Nat}{cc:CC}{rs:List ak}{N:Nat}
end
open Go.Proofs Go.Shelf Go.RowKit
section
variable {X:Type}
variable {P:Program}{S:Nat->Spc}{f:Nat}{im:List Nat}{cc:CC}{rs:List ak}{N:Nat}{A:fS X}
end
end Go.Gv
namespace Go.Gv
open Cod (enc dec)
variable {dq:Prop}
section
variable {X Z:Type}
end
open Go.Proofs
section
variable {Y Z:Type}
variable {P:Program}{S:Nat->Spc}{f:Nat}{im:List Nat}{cc:CC}{rs:List ak}{N:Nat}
end
section
variable {X Y Z:Type}
end
end Go.Gv
namespace Go.Gv
open Cod (enc dec)
open Go.Proofs
variable {S S0:Nat->Spc}


end Go.Gv
namespace Go.Gv
open Go.Proofs
open Cod (enc dec)
variable {S S0:Nat->Spc}
structure qzJ (r:Rn) (q:Pat):Prop where
 nd:vI q
 num:lG q=true
 lab:q.lab≠mA->Ap r.lb q.lab=true
 tok:q.op=1->∀s,qzK r.en s->s.p<r.en->∃y,quR r q s=some y
end Go.Gv
namespace Go.Gv
open Go.Proofs
open Cod (enc dec)
variable {S S0:Nat->Spc}

end Go.Gv
namespace Go.Gv
open Cod (enc dec)
open Go.Proofs Go.Sort Go.Shelf Go.Lib Go.RowKit
def qgh{α β:Type}{f:α->List β}{n:Nat} :∀{l:List α},(∀x∈l,(f x).length=n)->∀{i j:Nat},j<n->(l.flatMap f)[i*n+j]? =(l[i]?).bind λx=>(f x)[j]?
 | [],_,i,j,_=>by simp
 | d::es,h,0,j,hj=>by
   have hd:=h d (by simp);simp only[qAq,qCk,qAA];rw[qz7 (by omega)];simp
 | d::es,h,i+1,j,hj=>by
   have hd:=h d (by simp);have ih:=qgh (l:=es) (λd hd=>h d (by simp[hd])) (i:=i) hj;simp only[qAq];rw[qz3 (by rw[hd,qAC];omega),hd];have:(i+1) *n+j -n=i*n+j:=by rw[qAC];omega
   rw[this,ih];simp
def SI{α β:Type}{f:α->List β}{n:Nat} :∀{l:List α},(∀x∈l,(f x).length=n)->(l.flatMap f).length=l.length*n
 | [],_=>by simp
 | d::es,h=>by
   have ih:=SI (l:=es) (λd hd=>h d (by simp[hd]));simp only[qAq,qAh];rw[ih,h d (by simp),qAw,qAC];omega
section
variable {X:Type}[Cod X][Inhabited X](ev:X->List Value)(k:Nat)(hk:∀x,(ev x).length=k)
include hk
omit [Cod X]in
theorem Nb(l:List X):(flatK ev k l.toArray).toList=l.flatMap ev:=by
 have hl:=SI (f:=ev) (n:=k) (l:=l) (λx _=>hk x);apply qAI;intro t;by_cases ht:t<l.length*k
 ·have k0:0<k:=by
   rcases qAX k with h|h
   ·subst h;simp at ht
   ·exact h
  have h1:=get_flatK ev k l.toArray t (by simpa using ht);have hs:t<(flatK ev k l.toArray).size:=by simpa using ht
  rw[getElem!_pos _ t hs]at h1;rw[qAg,qAM hs,h1];have hm:t % k<k:=qBz _ k0;have hdm:t=(t/k) *k+t % k:=by have:=qBA t k;rw[qBj]at this;omega
  have hq:t/k<l.length:=qBU (by rw[qBj];exact ht);have h2:=qgh (f:=ev) (n:=k) (l:=l) (λx _=>hk x) (i:=t/k) hm;rw[<-hdm]at h2;rw[h2,qzR hq];have h3:(l.toArray)[t/k]! =l[t/k]:=by rw[getElem!_pos l.toArray (t/k) (by simpa using hq)];simp
  rw[h3];have h4:t % k<(ev l[t/k]).length:=by rw[hk];exact hm
  simp only[qAb];rw[getElem!_pos (ev l[t/k]) (t % k) h4,qzR h4]
 ·rw[qAm (by simpa using ht),qAm (by omega)]
end
def GB{w:World}{b j el:Nat}{c:Array Value}(h:w.heap[b]? =some (.cells c el (0,0))):w.frozen? ⟨b,j,none⟩=false:=by
 simp[World.frozen?,h]
def NE{w:World}{b j el:Nat}{c:Array Value}{fr:Nat×Nat}(h:w.heap[b]? =some (.cells c el fr)):w.cell? ⟨b,j,none⟩=c[j]?:=by
 simp[World.cell?,h]
def PS{w:World}{gb b:Nat}{f:Array Value->Array Value}{os:Array Obj}(hb:b<w.heap.size)(hne:b≠gb):(grow (mapBlock w gb f) os).heap[b]? =w.heap[b]?:=by
 simp only[grow,mapBlock];rw[qAG (by simpa using hb),qBE];have:¬gb=b:=λe=>hne e.symm
 simp[this]
def Vo{w:World}{gb el:Nat}{c:Array Value}{fr:Nat×Nat}{f:Array Value->Array Value}{os:Array Obj}(h:w.heap[gb]? =some (.cells c el fr)):(grow (mapBlock w gb f) os).heap[gb]? =some (.cells (f c) el fr):=by
 have hb:gb<w.heap.size:=(qzW.1 h).1;simp only[grow,mapBlock];rw[qAG (by simpa using hb),qBE];simp[h,onCells]
variable {dq:Prop}
section
variable {P:Program}{ρ:Ren}
end
end Go.Gv
namespace Go.Gv
open Go.Proofs
def js:CC:=gq Tryz.f55 [2] { bx:=[1,31],cu:=[1] } _
def jk:List ak:=[.tmp 4]
def Ao:FO cV [2] js jk 34:=fo
def jr:CC:=gq Tryz.f56 [2] { bx:=[1,24] } _
def jj:List ak:=[.tmp 4]
def An:FO dy [2] jr jj 27:=fo
def vt:CC:=gq Tryz.f109 [1,2002002] {} _
def uq:List ak:=[.cell 2 true 13]
def MB:FO ro [1,2002002] vt uq 11:=fo
def sQ:CC:=gq Tryz.f175 [1,2021003,1020020] {} _
def sf:List ak:=[.cell 2 true 7]
def Kl:FO kV [1,2021003,1020020] sQ sf 24:=fo
def dL:CC:=gq Tryz.f54 [1] { bx:=[41] } _
def dH:List ak:=[.tmp 2]
def pV:FO eD [1] dL dH 44:=fo
def io:CC:=gq Tryz.f104 [1] {} _
def gU:List ak:=[.tmp 2]
def yb:FO dz [1] io gU 7:=fo
def gp:CC:=gq Tryz.f24 [2] { bx:=[17,20],fz:=[(17,1),(20,13)] } _
def fW:List ak:=[.tmp 4]
def wc:FO fm [2] gp fW 49:=fo
def gm:CC:=gq Tryz.f61 [3] {} _
def fV:List ak:=[.tmp 6]
def wb:FO dT [3] gm fV 33:=fo
def aB:CC:=gq Tryz.f119 [3] {} _
def aA:List ak:=[.tmp 6]
def uH:FO gi [3] aB aA 115:=fo
def xq:CC:=gq Tryz.f59 [1] {} _
def wK:List ak:=[.tmp 2]
def OX:FO pd [1] xq wK 11:=fo
def jx:CC:=gq Tryz.f115 [1] {} _
def jv:List ak:=[.tmp 2]
def Dq:FO pb [1] jx jv 58:=fo
def ip:CC:=gq Tryz.f60 [1] {} _
def gV:List ak:=[.tmp 2]
def Bu:FO mK [1] ip gV 22:=fo
def bI:CC:=gq Tryz.f58 [] {} _
def bH:List ak:=[.tmp 4]
def iv:FO aS [] bI bH 9:=fo
def cn:CC:=gq Tryz.f114 [] {} _
def bZ:List ak:=[.tmp 4]
def kN:FO cE [] cn bZ 19:=fo
open Cod (enc dec)
variable {S S0:Nat->Spc}
def LG{α:Type}{l:List α}{k:Nat}{a:α}{P:α->Prop}(h:∀x∈l.take k,P x)(ha:l[k]? =some a)(hp:P a):∀x∈l.take (k+1),P x:=by
 rw[av ha];intro x hx;rcases qzZ.1 hx with hx|hx
 ·exact h x hx
 ·simp at hx;subst hx;exact hp
def qnJ{X:Type}(m:X->Nat)(n:Nat)(x:X):Prop:=m x<=n
abbrev ZV(n:Nat):Spc:=aL (a2 Cond Cond) (qnJ (λx=>dn x.1) n) (enc (X:=Bool)) λx y=>(y=true↔x.1=x.2)
def qg2{a b:Cond}(h1:a.op=b.op)(h2:a.name=b.name)(h3:a.arg=b.arg)(h4:a.val=b.val)(h5:a.lab=b.lab)(h6:a.fold=b.fold)(h7:a.kids=b.kids):a=b:=by
 cases a;cases b;simp only at*;subst h1;subst h2;subst h3;subst h4;subst h5;subst h6;subst h7;rfl
theorem XR(n:Nat)(h1:S uN=ZV n):am Ce Be S (a2 Cond Cond) (qnJ (λx=>dn x.1) (n+1)) (enc (X:=Bool)) λx y=>(y=true↔x.1=x.2):=by
 rintro⟨a,b⟩ hn;have hn:dn a<=n+1:=hn;have hpre:∀k∈a.kids,∀y,qnJ (λx:Cond×Cond=>dn x.1) n (k,y):=λk hk y=>by have:=NL hk;show dn k<=n;omega
 simp[Ce,Be];refine⟨λe1=>⟨λe2=>⟨λe3=>⟨λe4=>⟨λe5=>⟨λe6 _ _=>⟨λh e=>h (by rw[e]),λhl _=>?_⟩,λh e=>h (by rw[e])⟩,λh e=>h (by rw[e])⟩,λh e=>h (by rw[e])⟩,λh e=>h (by rw[e])⟩,λh e=>h (by rw[e])⟩,λh e=>h (by rw[e])⟩;refine ah (X:=Unit) [2,3] [] a.kids.length (λk _=>a.kids.take k=b.kids.take k) (λ_=>[]) (λ_=>[]) () (by simp) ?_ ?_
 ·rintro k -hk hP;obtain⟨x,hx⟩:=aO hk;obtain⟨y,hy⟩:=aO (l:=b.kids) (k:=k) (by omega);have hx1:=aQ hx;obtain⟨_,hgx⟩:=qzP.1 hx;obtain⟨_,hgy⟩:=qzP.1 hy;simp[h1,hk,hx,hy,hgx,hgy,hpre x hx1,-fB'];refine⟨by omega,λr hr=>⟨λhf e=>?_,λht=>?_⟩⟩
  ·subst e;rw[hx]at hy;cases hy;rw[hr.2 rfl]at hf;cases hf
  ·rw[av hx,av hy,hP,hr.1 ht]
 ·rintro -hP;simp;have h8:a.kids=b.kids:=by
   rw[qAN (by omega),qAN (by omega)]at hP;exact hP
  exact qg2 e1 e2 e3 e4 e5 e6 h8
abbrev Jm:Spc:=aL (a2 Pat Int) (λ_=>True) (enc (X:=Bool)) λx y=>y=(decide (x.2<=100) && oJ x.1)
abbrev ZW:Spc:=aL (a2 Cond Cond) (λ_=>True) (enc (X:=Bool)) λx y=>(y=true↔x.1=x.2)
def TH(h1:S uN=ZW):am zO yH S (a2 Pat Int) (λ_=>True) (enc (X:=Bool)) λx y=>y=(decide (x.2<=100) && oJ x.1):=by
 rintro⟨p,d⟩ -;simp[zO,yH,h1,-fB'];clear h1;refine⟨λh h'=>absurd h (by omega),λhd y hy=>?_⟩;have hy:y=true↔p.cond=Cond0:=hy;rw[decide_eq_true hd,qBy];revert hy;revert y
 repeat' first|apply And.intro|intro _
 all_goals (rw[qAz,tS];unfold vI;simp_all;try omega)
abbrev UU(n:Nat):Spc:=aL (a2 Pat Int) (λx=>dc x.1<=n/\0<=x.2/\x.2<=101) (enc (X:=Bool)) λx y=>y=(cB x.1 x.2 && cm oJ x.1)
theorem QM(n:Nat)(h1:S BN=Jm)(h2:S oY=UU n):am xe wA S (a2 Pat Int) (λx=>dc x.1<=n+1/\0<=x.2/\x.2<=101) (enc (X:=Bool)) λx y=>y=(cB x.1 x.2 && cm oJ x.1):=by
 rintro⟨p,d⟩ ⟨hn,hd0,hd1⟩;have hpre:∀k∈p.kids,dc k<=n:=λk hk=>by have:=kM hk;have:dc p<=n+1:=hn;omega
 simp only at hd0 hd1;simp[xe,wA,h1];rw[nF,cN];refine⟨λh=>?_,λhd hnd _=>?_⟩
 ·simp only[qzT,decide_eq_true_eq];intro h1;rw[h h1.1,Bool.false_and]
 refine ah (X:=Unit) [1,12] [] p.kids.length (λk _=>∀x∈p.kids.take k,(cB x (d+1) && cm oJ x)=true) (λ_=>[]) (λ_=>[]) () (by simp) ?_ ?_
 ·rintro k -hk hP;obtain⟨x,hx⟩:=aO hk;have hx1:=aQ hx;obtain⟨_,hgx⟩:=qzP.1 hx;have q1:=hpre x hx1;simp[h2,hk,hx,hgx,q1,-fB'];refine⟨by simp only[InR];omega,by omega,λhf _ hall _=>⟨x,hx1,hf (hall x hx1)⟩,λt1 t2=>?_⟩;have:=LG (P:=λx=>(cB x (d+1) && cm oJ x)=true) hP hx (by simp[t1,t2]);simpa using this
 ·rintro -hP;simp;simp at hP;simp[hnd,hd];exact⟨λx hx=>(hP x hx).1,λx hx=>(hP x hx).2⟩
abbrev ZZ(n:Nat):Spc:=aL (a1 Pat) (λx=>dc x<=n) (enc (X:=Bool)) λx y=>y=cm (mF aI) x
theorem TI(n:Nat)(h1:S ct=ud)(h2:S rL=ZZ n):am zP yI S (a1 Pat) (λx=>dc x<=n+1) (enc (X:=Bool)) λx y=>y=cm (mF aI) x:=by
 rintro p hn;have hpre:∀k∈p.kids,dc k<=n:=λk hk=>by have:=kM hk;have:dc p<=n+1:=hn;omega
 simp[zP,yI,h1];refine bi (X:=Unit) [1] [] (λ_=>mF aI p=true) (λ_=>[]) (λ_=>[]) ?_ ?_
 ·simp[h1,mF];rw[cN];unfold mF
  repeat' first|apply And.intro|intro _
  all_goals (first|omega|simp_all;try omega)
 rintro -hnd;rw[cN];simp;intro _;refine ah (X:=Unit) [31] [] p.kids.length (λk _=>∀x∈p.kids.take k,cm (mF aI) x=true) (λ_=>[]) (λ_=>[]) () (by simp) ?_ ?_
 ·rintro k -hk hP;obtain⟨x,hx⟩:=aO hk;have hx1:=aQ hx;obtain⟨_,hgx⟩:=qzP.1 hx;have q1:=hpre x hx1;simp[h2,hk,hx,hgx,q1,-fB'];exact⟨λhf _=>⟨x,hx1,hf⟩,λht=>LG hP hx ht⟩
 ·rintro -hP;simp;simp at hP;rw[hnd];simpa using hP
abbrev PB(n:Nat):Spc:=aL (a1 Pat) (λx=>dc x<=n) (enc (X:=Bool)) λx y=>y=cm lG x
theorem Oh(n:Nat)(h2:S mH=PB n):am vk ui S (a1 Pat) (λx=>dc x<=n+1) (enc (X:=Bool)) λx y=>y=cm lG x:=by
 rintro p hn;have hpre:∀k∈p.kids,dc k<=n:=λk hk=>by have:=kM hk;have:dc p<=n+1:=hn;omega
 simp[vk,ui];refine bi (X:=Unit) [1] [] (λ_=>lG p=true) (λ_=>[]) (λ_=>[]) ?_ ?_
 ·simp[lG];rw[cN];unfold lG
  repeat' first|apply And.intro|intro _
  all_goals (first|omega|(rw[qAz];simp;omega))
 rintro -hnd;rw[cN];simp;intro _;refine ah (X:=Unit) [36] [] p.kids.length (λk _=>∀x∈p.kids.take k,cm (lG) x=true) (λ_=>[]) (λ_=>[]) () (by simp) ?_ ?_
 ·rintro k -hk hP;obtain⟨x,hx⟩:=aO hk;have hx1:=aQ hx;obtain⟨_,hgx⟩:=qzP.1 hx;have q1:=hpre x hx1;simp[h2,hk,hx,hgx,q1,-fB'];exact⟨λhf _=>⟨x,hx1,hf⟩,λht=>LG hP hx ht⟩
 ·rintro -hP;simp;simp at hP;rw[hnd];simpa using hP
def oL{a b A B:Int}(h0:0<=a)(h1:a<=A)(h2:0<=b)(h3:b<=B):0<=a*b/\a*b<=A*B:=⟨qBF h0 h2,Int.mul_le_mul h1 h3 h2 (by omega)⟩
def PPat(n:Nat)(p:Pat):Prop:=dc p<=n/\fI aI p=true
def PPat.kid{n:Nat}{p k:Pat}(h:PPat (n+1) p)(hk:k∈p.kids):PPat n k:=by
 have h1:=kM hk;have h2:=h.1;exact⟨by omega,kL h.2 hk⟩
abbrev cY:Spc:=aL (a1 Pat) (λ_=>True) (enc (X:=Bool)) λx y=>y=fI aI x
abbrev Pz:Spc:=aL (a2 Pat Int) (λx=>0<=x.2/\x.2<=101) (enc (X:=Bool)) λx y=>y=(cB x.1 x.2 && cm oJ x.1)
abbrev UW:Spc:=aL (a1 Pat) (λ_=>True) (enc (X:=Bool)) λx y=>y=cm (mF aI) x
abbrev L3:Spc:=aL (a1 Pat) (λ_=>True) (enc (X:=Bool)) λx y=>y=cm lG x
def JO(h1:S oY=Pz)(h2:S rL=UW)(h3:S mH=L3):am qI qd S (a1 Pat) (λ_=>True) (enc (X:=Bool)) λx y=>y=fI aI x:=by
 rintro p -;simp[qI,qd,h1,h2,h3,fI,-fB'];clear h1 h2 h3;refine⟨λh1 h2=>⟨λh3 _=>⟨⟨h1,h2⟩,h3⟩,λh3 _ _ h4=>absurd h4 (by rw[h3];simp)⟩,λh h1 h2=>absurd h2 (by rw[h h1];simp)⟩
abbrev Rz(n:Nat):Spc:=aL (a1 Pat) (PPat n) (enc (X:=Int)) λx y=>y=fj x
theorem XP(n:Nat)(h1:S uM=Rz n):am Ca Bc S (a1 Pat) (PPat (n+1)) (enc (X:=Int)) λx y=>y=fj x:=by
 rintro p hp;have hk:∀k∈p.kids,PPat n k:=λk=>hp.kid
 have hs:∀k∈p.kids,0<=fj k/\fj k<=1000:=λk h=>Pv (v:=aI) k (hk k h).2
 simp[Ca,Bc];intro _;refine⟨λh=>by rw[nP,A8,if_pos h],λh0 _=>?_⟩;refine ah (X:=Int) [1,11] [] p.kids.length (λk n=>n=eo (p.kids.take k) 0) (λn=>[(3,enc n)]) (λ_=>[]) 0 (by simp[eo]) ?_ ?_
 ·rintro k m hkl hP;obtain⟨x,hx⟩:=aO hkl;have hx1:=aQ hx;obtain⟨_,hgx⟩:=qzP.1 hx;have hm:=pY (p.kids.take k) 0 (by omega) (by omega) (λy hy=>(hs y (qAf hy)).1);have h2:=hs x hx1;rw[<-hP]at hm;have q1:=hk x hx1;simp[h1,hkl,hx,hgx,q1];refine⟨by simp only[InR];omega,?_⟩;rw[av hx,LV,<-hP,eo,eo]
 ·rintro m hP;have hm:=pY (p.kids.take p.kids.length) 0 (by omega) (by omega) (λy hy=>(hs y (qAf hy)).1);rw[<-hP]at hm;rw[qz8]at hP;have hn:=(dg hp.2).2.2;unfold lG at hn;rw[decide_eq_true_eq]at hn;rw[nP,A8,if_neg h0,<-hP];simp;refine⟨λh6=>?_,λh6=>?_⟩
  ·have hn:=hn h6;simp only[h6,if_true];refine⟨λe=>?_,λe=>⟨λe2=>?_,λe2=>?_⟩⟩
   ·have h1:max 1 (p.mn+1)=p.mn+1:=by omega
    have h2:=oL hm.1 hm.2 (show 0<=p.mn+1 by omega) (show p.mn+1<=17 by omega);rw[h1,if_pos e];exact⟨by simp only[InR];omega,by simp only[InR];omega,rfl⟩
   ·rw[if_neg e,if_pos e2];omega
   ·have h2:=oL hm.1 hm.2 (show 0<=p.mx by omega) (show p.mx<=16 by omega);rw[if_neg e,if_neg e2];exact⟨by simp only[InR];omega,rfl⟩
  ·simp only[h6,if_false];omega
abbrev K1(n:Nat):Spc:=aL (a1 Pat) (PPat n) (lL (Y:=Int) (Z:=Int)) λx y=>y=aU x
theorem TG(n:Nat)(h1:S iy=K1 n):am lM lD S (a1 Pat) (PPat (n+1)) (lL (Y:=Int) (Z:=Int)) λx y=>y=aU x:=by
 rintro p hp;have hk:∀k∈p.kids,PPat n k:=λk=>hp.kid
 have hs:∀k∈p.kids,eh (aU k):=λk h=>yu (v:=aI) k (hk k h).2
 have hn:=(dg hp.2).2.2;unfold lG at hn;rw[decide_eq_true_eq]at hn;rcases qu (dg hp.2).1 with⟨ho,_⟩|⟨ho,_⟩|⟨ho,k0,ks,hkk⟩|⟨ho,k0,hkk⟩
 ·simp[lM,lD,h1,ho,qdu ho]
 ·have:=qdt ho;rcases ho with ho|ho<;>simp[lM,lD,h1,ho,this]
 ·have hc:p.op≠1/\p.op≠2/\p.op≠3/\p.op≠6:=by omega
  simp[lM,lD,h1,hc,lL];intro _;refine ah (X:=Int×Int) [1,55] [] p.kids.length (λk w=>(k=0->w=(0,0))/\(0<k->w=mB (decide (p.op=4)) (ks.take (k -1)) (aU k0))/\eh w) (λw=>[(6,enc w.1),(7,enc w.2)]) (λ_=>[]) (0,0) (by simp[eh]) ?_ ?_
  ·rintro k w hkl ⟨hP0,hP1,hP2⟩;obtain⟨x,hx⟩:=aO hkl;have hx1:=aQ hx;obtain⟨_,hgx⟩:=qzP.1 hx;have q1:=hk x hx1;have q2:=hs x hx1;have key:(0<k->∀r:Int×Int,r=N8 (decide (p.op=4)) w (aU x)->r=mB (decide (p.op=4)) (ks.take (k+1 -1)) (aU k0)/\eh r)/\(k=0->∀r:Int×Int,r=aU x->r=mB (decide (p.op=4)) (ks.take (k+1 -1)) (aU k0)/\eh r):=by
    refine⟨λh0 r hr=>?_,λh0 r hr=>?_⟩
    ·obtain⟨j,rfl⟩:∃j,k=j+1:=⟨k -1,by omega⟩
     rw[hkk,qBc]at hx;rw[qB1,av hx,Pl,mB,mB];have e:=hP1 h0;rw[qB1]at e;rw[<-e];exact⟨hr,by rw[hr];exact QF hP2 q2⟩
    ·subst h0;rw[hkk,qCa]at hx;cases hx;exact⟨by rw[hr];rfl,by rw[hr];exact q2⟩
   simp[h1,hkl,hx,hgx,q1,lL];clear h1;have sC:∀a b:Int,(0<k->(a,b)=N8 (decide (p.op=4)) w (aU x))->(k=0->(a,b)=aU x)->((a,b)=mB (decide (p.op=4)) (List.take k ks) (aU k0)/\eh (a,b)):=by
    intro a b f1 f2;rcases qAX k with h|h
    ·exact key.2 h _ (f2 h)
    ·exact key.1 h _ (f1 h)
   clear key;generalize aU x=u at q2 sC;obtain⟨u1,u2⟩:=u;obtain⟨w1,w2⟩:=w;unfold eh at q2 hP2;simp only at q2 hP2;simp only[qBQ]at hP0;refine⟨λh4=>⟨by simp only[InR];omega,λe1=>⟨λe2=>sC _ _ (λ_=>?_) (λh=>?_),λe2=>⟨by simp only[InR];omega,sC _ _ (λ_=>?_) (λh=>?_)⟩⟩,λe1=>sC _ _ (λ_=>?_) (λh=>?_)⟩,λh4=>⟨λh0=>sC _ _ (λh=>absurd h (by omega)) (λh=>rfl),λh0=>⟨λe1=>⟨λe2=>sC _ _ (λ_=>?_) (λh=>absurd h h0),λe2=>sC _ _ (λ_=>?_) (λh=>absurd h h0)⟩,λe1=>sC _ _ (λ_=>?_) (λh=>absurd h h0)⟩⟩⟩
   all_goals (try simp only at e1)
   all_goals (try simp only at e2)
   all_goals first|(have hw:=hP0 h;simp only[qBQ];omega)|(unfold N8;simp[h4,e1,e2];done)|(unfold N8;simp[h4,e1];done)|(unfold N8;simp[h4];omega)
  ·rintro w ⟨_,hP,_⟩;simp[lL];rw[qds ho hkk];have:=hP (by rw[hkk];simp);rw[hkk,qAw,qB1,qz8]at this;rw[<-this]
 ·have q1:=hk k0 (by rw[hkk];simp);have q2:=hs k0 (by rw[hkk];simp);have hn:=hn ho;simp[lM,lD,h1,ho,hkk,q1,lL];rw[qdr ho hkk];generalize aU k0=w at q2;unfold eh at q2;have h2:=oL q2.1 q2.2.1 hn.1 hn.2.1;refine⟨λe1=>⟨λe2=>⟨by simp only[InR];omega,by rw[if_pos (.inr e2)]⟩,λe2=>⟨λe3=>⟨λe4=>⟨by simp only[InR];omega,?_⟩,λe4=>?_⟩,λe3=>⟨by simp only[InR];omega,?_⟩⟩⟩,λe1=>⟨by simp only[InR];omega,by rw[if_pos (.inl e1)]⟩⟩
  ·rw[if_neg (by omega),if_pos (.inr e4)]
  ·have h3:=oL (show 0<=w.2 by omega) q2.2.2.2 (show 0<=p.mx by omega) (show p.mx<=16 by omega);refine⟨by simp only[InR];omega,by simp only[InR];omega,?_⟩;rw[if_neg (by omega),if_neg (by omega)]
  ·rw[if_neg (by omega),if_pos (.inl e3)]
abbrev P5:D:= .v (.slice none 0 0)
def qhM(x:Pat)(l:List Pat):Prop:=l.length+ (aq x).length<=100000000
abbrev V9(n:Nat):Spc:=qh0 (X:=Pat) (Y:=Pat) (λx l=>dc x<=n/\qhM x l) (λx l r=>r=l++aq x) aJ 13
abbrev i_leavesA:Spc:=qh0 (X:=Pat) (Y:=Pat) (λx l=>qhM x l) (λx l r=>r=l++aq x) aJ 13
def qfD{ks:List Pat}{k:Nat}{x:Pat}(l:List Pat)(hx:ks[k]? =some x):(l++ (ks.take k).flatMap aq) ++aq x=l++ (ks.take (k+1)).flatMap aq:=by
 rw[av hx,qBX,List.flatMap_singleton,qAB]
def YX{ks:List Pat}{k:Nat}{x:Pat}{l:List Pat}(hx:ks[k]? =some x)(h:l.length+ (ks.flatMap aq).length<=100000000):qhM x (l++ (ks.take k).flatMap aq):=by
 have:ks=ks.take k++x::ks.drop (k+1):=by rw[<-bB hx,qAs]
 rw[this]at h;simp only[qBX,qAq,qAh]at h;unfold qhM;rw[qAh];omega
theorem QN(n:Nat)(h1:S iR=V9 n):NX (X:=Pat) (Y:=Pat) mM mD S (λx l=>dc x<=n+1/\qhM x l) (λx l r=>r=l++aq x) aJ 13:=by
 rintro v l p ⟨hp,hl⟩;have hk:∀k∈p.kids,dc k<=n:=λk hk=>by have:=kM hk;have:dc p<=n+1:=hp;omega
 have hl':=hl;unfold qhM at hl';rw[ba]at hl';simp[mM,mD];refine⟨λh1=>⟨by simp[h1]at hl';omega,by simp[h1]at hl';omega,λv=>dF (l++aq p) (by simp[ba,h1]) rfl⟩,λhne _=>?_⟩;rw[if_neg hne]at hl';refine ah (X:=Value×List Pat) [15] [] p.kids.length (λk x=>x.2=l++ (p.kids.take k).flatMap aq) (λx=>[(1, .own 1 x.1)]) (λx=>[(1, .row x.1 aJ 13 (x.2.map enc))]) (v,l) (by simp) ?_ ?_ (hh:=by simp[isNilRow])
 ·rintro k ⟨v,m⟩ hkl hm;simp only at hm;obtain⟨x,hx⟩:=aO hkl;have hx1:=aQ hx;obtain⟨_,hgx⟩:=qzP.1 hx;have q1:=YX hx hl';rw[<-hm]at q1;have q2:=hk x hx1;simp[h1,hkl,hx,hgx,q1,q2];intro v';refine .inl ?_;rw[hm,qfD _ hx]
 ·rintro⟨v,m⟩ hm;simp only at hm;rw[qz8]at hm;simp;refine dF m (by simp) ?_;rw[hm,ba,if_neg hne]
abbrev qgq:Spc:=qop (Y:=Pat) (aE Pat (aD a0)) (λx=>x.2.1=P5/\qhM x.1 []) (λx r=>r=aq x.1) aJ 13
theorem Oi(h1:S iR=i_leavesA):Xt (Y:=Pat) mM mD S (aE Pat (aD a0)) (λx=>x.2.1=P5/\qhM x.1 []) (λx r=>r=aq x.1) aJ 13:=by
 rintro⟨p,d,⟨⟩⟩ ⟨hd,hl⟩;have hd:d=P5:=hd;subst hd;have hl':([]:List Pat).length+ (aq p).length<=100000000:=hl;rw[ba]at hl';simp[mM,mD];refine⟨λh1 v=>dF (aq p) (by simp[ba,h1]) rfl,λhne _=>?_⟩;rw[if_neg hne]at hl';refine ah (X:=Value×List Pat) [15] [] p.kids.length (λk x=>x.2=[] ++ (p.kids.take k).flatMap aq) (λx=>[(1, .own 1 x.1)]) (λx=>[(1, .row x.1 aJ 13 (x.2.map enc))]) (.slice none 0 0, []) (by simp) ?_ ?_ (hh:=by simp[isNilRow])
 ·rintro k ⟨v,m⟩ hkl hm;simp only at hm;obtain⟨x,hx⟩:=aO hkl;have hx1:=aQ hx;obtain⟨_,hgx⟩:=qzP.1 hx;have q1:=YX hx hl';rw[<-hm]at q1;simp[h1,hkl,hx,hgx,q1];intro v';refine .inl ?_;rw[hm,qfD _ hx];rfl
 ·rintro⟨v,m⟩ hm;simp only at hm;rw[qz8]at hm;simp;refine dF m (by simp) ?_;rw[hm,ba,if_neg hne];rfl
abbrev s_leaves:Spc:=qmk qgq i_leavesA
abbrev FQ:Spc:=aL (a1 Pat) (λx=>(aq x).length<=100000000) (enc (X:=List Pat)) λx y=>y=if fI aI x then aq x else[]
def QO(h1:S dE=cY)(h2:S iR=s_leaves):am xf wB S (a1 Pat) (λx=>(aq x).length<=100000000) (enc (X:=List Pat)) λx y=>y=if fI aI x then aq x else[]:=by
 rintro p hp;have hp':qhM p []:=by unfold qhM;simpa using hp
 simp[xf,wB,h1,h2,-fB'];clear h1 h2;exact⟨λh=>aV [] (by simp) (by rw[h];rfl),λh=> .inl ⟨hp',λv=>aV (aq p) (ga aJ (by simp)) (by rw[h];rfl)⟩⟩
abbrev Cv:Spc:=aL (a1 Pat) (λx=>fI aI x=true) (enc (X:=Int)) λx y=>y=fj x
abbrev D4:Spc:=aL (a1 Pat) (λ_=>True) (enc (X:=Int)) λx y=>y=if fI aI x then fj x else 0
def XQ(h1:S dE=cY)(h2:S uM=Cv):am Cb Bd S (a1 Pat) (λ_=>True) (enc (X:=Int)) λx y=>y=if fI aI x then fj x else 0:=by
 rintro p -;simp[Cb,Bd,h1,h2,-fB'];exact⟨λh1 h2=>absurd (h1.symm.trans h2) (by simp),λh1=>⟨h1,λh2=>absurd (h2.symm.trans h1) (by simp)⟩⟩
abbrev FK:Spc:=aL (a1 Pat) (λx=>fI aI x=true) (lL (Y:=Int) (Z:=Int)) λx y=>y=aU x
abbrev Cy:Spc:=aL (a1 Pat) (λ_=>True) (lL (Y:=Int) (Z:=Int)) λx y=>y=if fI aI x then aU x else(0,0)
def TJ(h1:S dE=cY)(h2:S iy=FK):am zQ yJ S (a1 Pat) (λ_=>True) (lL (Y:=Int) (Z:=Int)) λx y=>y=if fI aI x then aU x else(0,0):=by
 rintro p -;simp[zQ,yJ,h1,h2,lL,-fB'];exact⟨λh1 h2=>absurd (h1.symm.trans h2) (by simp),λh1=>⟨h1,λh2=>absurd (h2.symm.trans h1) (by simp)⟩⟩
abbrev qec:Spc:=aL (a1 Cond) (λ_=>True) (enc (X:=Bool)) λx y=>(y=true↔x=Cond0)
def QV:am xn wH S (a1 Cond) (λ_=>True) (enc (X:=Bool)) λx y=>(y=true↔x=Cond0):=by
 rintro⟨op,n,a,v,l,f,ks⟩ -;simp[xn,wH,Cond0]
 repeat' first|apply And.intro|intro _
 all_goals simp_all
abbrev RB:Spc:=aL (a1 Pat) (λ_=>True) (enc (X:=Bool)) λx y=>y=oJ x
def QY(h1:S zI=qec):am xp wJ S (a1 Pat) (λ_=>True) (enc (X:=Bool)) λx y=>y=oJ x:=by
 rintro p -;simp[xp,wJ,h1,-fB'];clear h1
 repeat' first|apply And.intro|intro _
 all_goals (rw[qAz,tS];unfold vI;simp_all;try omega)
abbrev Cw:Spc:=aL (a1 Pat) (λ_=>True) (enc (X:=Bool)) λx y=>y=mF aI x
def Oo(h1:S bJ=ud):am vp un S (a1 Pat) (λ_=>True) (enc (X:=Bool)) λx y=>y=mF aI x:=by
 rintro p -;simp[vp,un,h1,mF,-fB'];clear h1
 repeat' first|apply And.intro|intro _
 all_goals (first|omega|simp_all;try omega)
abbrev xP:Spc:=aL (a1 Pat) (λ_=>True) (enc (X:=Bool)) λx y=>y=lG x
def Ln:am sP se S (a1 Pat) (λ_=>True) (enc (X:=Bool)) λx y=>y=lG x:=by
 rintro p -;simp[sP,se,lG]
 repeat' first|apply And.intro|intro _
 all_goals (first|omega|(rw[qAz];simp;omega))
theorem QW(n:Nat)(h1:S gg=Rz n):am xo wI S (a1 Pat) (PPat (n+1)) (enc (X:=Int)) λx y=>y=fj x:=by
 rintro p hp;have hk:∀k∈p.kids,PPat n k:=λk=>hp.kid
 have hs:∀k∈p.kids,0<=fj k/\fj k<=1000:=λk h=>Pv (v:=aI) k (hk k h).2
 simp[xo,wI];intro _;refine ah (X:=Int) [1,7] [] p.kids.length (λk n=>n=eo (p.kids.take k) 0) (λn=>[(3,enc n)]) (λ_=>[]) 0 (by simp[eo]) ?_ ?_
 ·rintro k m hkl hP;obtain⟨x,hx⟩:=aO hkl;have hx1:=aQ hx;obtain⟨_,hgx⟩:=qzP.1 hx;have hm:=pY (p.kids.take k) 0 (by omega) (by omega) (λy hy=>(hs y (qAf hy)).1);have h2:=hs x hx1;rw[<-hP]at hm;have q1:=hk x hx1;simp[h1,hkl,hx,hgx,q1];refine⟨by simp only[InR];omega,?_⟩;rw[av hx,LV,<-hP,eo,eo]
 ·rintro m hP;have hm:=pY (p.kids.take p.kids.length) 0 (by omega) (by omega) (λy hy=>(hs y (qAf hy)).1);rw[<-hP]at hm;rw[qz8]at hP;have hn:=(dg hp.2).2.2;unfold lG at hn;rw[decide_eq_true_eq]at hn;rw[nP,A8,<-hP];simp;intro _;refine⟨λh=>λh'=>absurd h h',λh0=>⟨λh6=>?_,λh6=>by rw[if_neg h0,if_neg h6]⟩⟩;rw[if_neg h0,if_pos h6];have hn:=hn h6;refine⟨λe=>by rw[if_neg (by omega),if_pos e],λe=>⟨λe2=>?_,λe2=>?_⟩⟩
  ·have h2:=oL hm.1 hm.2 (show 0<=p.mn+1 by omega) (show p.mn+1<=17 by omega);rw[if_pos (by omega)];exact⟨by simp only[InR];omega,by simp only[InR];omega,rfl⟩
  ·have h2:=oL hm.1 hm.2 (show 0<=p.mx by omega) (show p.mx<=16 by omega);rw[if_neg (by omega),if_neg e];exact⟨by simp only[InR];omega,rfl⟩
def QZ(h1:S jw=cY)(h2:S gg=Cv):am xr wL S (a1 Pat) (λ_=>True) (enc (X:=Int)) λx y=>y=if fI aI x then fj x else 0:=by
 rintro p -;simp[xr,wL,h1,h2,-fB'];exact⟨λh1 h2=>absurd (h1.symm.trans h2) (by simp),λh1=>⟨h1,λh2=>absurd (h2.symm.trans h1) (by simp)⟩⟩
def Ow(h1:S jw=cY)(h2:S mI=FK):am vv uu S (a1 Pat) (λ_=>True) (lL (Y:=Int) (Z:=Int)) λx y=>y=if fI aI x then aU x else(0,0):=by
 rintro p -;simp[vv,uu,h1,h2,lL,-fB'];exact⟨λh1 h2=>absurd (h1.symm.trans h2) (by simp),λh1=>⟨h1,λh2=>absurd (h2.symm.trans h1) (by simp)⟩⟩
theorem Ol(n:Nat)(h1:S mI=K1 n):am il gT S (a1 Pat) (PPat (n+1)) (lL (Y:=Int) (Z:=Int)) λx y=>y=aU x:=by
 rintro p hp;have hk:∀k∈p.kids,PPat n k:=λk=>hp.kid
 have hs:∀k∈p.kids,eh (aU k):=λk h=>yu (v:=aI) k (hk k h).2
 have hn:=(dg hp.2).2.2;unfold lG at hn;rw[decide_eq_true_eq]at hn;rcases qu (dg hp.2).1 with⟨ho,_⟩|⟨ho,_⟩|⟨ho,k0,ks,hkk⟩|⟨ho,k0,hkk⟩
 ·simp[il,gT,h1,ho,qdu ho]
 ·have:=qdt ho;rcases ho with ho|ho<;>simp[il,gT,h1,ho,this]
 ·have hc:p.op≠1/\p.op≠2/\p.op≠3/\p.op≠6:=by omega
  have q1:=hk k0 (by rw[hkk];simp);have q2:=hs k0 (by rw[hkk];simp);simp[il,gT,h1,hc,lL,hkk,q1];refine⟨by omega,λ_=>?_⟩;refine ah (X:=Int×Int) [1,69] [] ks.length (λk w=>w=mB (decide (p.op=4)) (ks.take k) (aU k0)/\eh w) (λw=>[(6,enc w.1),(7,enc w.2)]) (λ_=>[]) (aU k0) (by simp[mB,q2]) ?_ ?_
  ·rintro k w hkl ⟨hP1,hP2⟩;obtain⟨x,hx⟩:=aO hkl;have hx1:x∈p.kids:=by rw[hkk];exact qBr _ (aQ hx)
   obtain⟨_,hgx⟩:=qzP.1 hx;have q3:=hk x hx1;have q4:=hs x hx1;have key:∀r:Int×Int,r=N8 (decide (p.op=4)) w (aU x)->r=mB (decide (p.op=4)) (ks.take (k+1)) (aU k0)/\eh r:=by
    intro r hr;rw[av hx,Pl,mB,mB,<-hP1];exact⟨hr,by rw[hr];exact QF hP2 q4⟩
   simp[h1,hkl,hx,hgx,q3,lL];clear h1;generalize aU x=u at q4 key;obtain⟨u1,u2⟩:=u;obtain⟨w1,w2⟩:=w;unfold eh at q4 hP2;simp only at q4 hP2;clear hP1;refine⟨λe1=>⟨λh4=>⟨by simp only[InR];omega,by simp only[InR];omega,λe2=>key _ ?_,λe2=>key _ ?_⟩,λh4=>⟨λe2=>key _ ?_,λe2=>key _ ?_⟩⟩,λe1=>⟨λh4=>⟨by simp only[InR];omega,by simp only[InR];omega,key _ ?_⟩,λh4=>key _ ?_⟩⟩
   all_goals clear key
   all_goals (try simp only at e1)
   all_goals (try simp only at e2)
   all_goals (unfold N8;simp[h4];try omega)
  ·rintro w ⟨hP,_⟩;simp[lL];rw[qds ho hkk];rw[qz8]at hP;rw[<-hP]
 ·have q1:=hk k0 (by rw[hkk];simp);have q2:=hs k0 (by rw[hkk];simp);have hn:=hn ho;simp[il,gT,h1,ho,hkk,q1,lL];rw[qdr ho hkk];generalize aU k0=w at q2;unfold eh at q2;have h2:=oL q2.1 q2.2.1 hn.1 hn.2.1;refine⟨by simp only[InR];omega,λe1=>⟨λe2=>by rw[if_pos (.inr e2)],λe2=>⟨λe3=>⟨λe4=>?_,λe4=>?_⟩,λe3=>?_⟩⟩,λe1=>by rw[if_pos (.inl e1)]⟩
  ·rw[if_neg (by omega),if_pos (by omega)]
  ·have h3:=oL e4 q2.2.2.2 (show 0<=p.mx by omega) (show p.mx<=16 by omega);refine⟨by simp only[InR];omega,?_⟩;rw[if_neg (by omega),if_neg (by omega)]
  ·rw[if_neg (by omega),if_pos (by omega)]
def FunOnP{X Y:Type}[Cod X][Cod Y](S:Nat->Spc)(d:D)(l:List X)(p:X->Y):Prop:=
 ∃g caps pc,d= .clo g caps/\S g= .pure pc/\∀x∈l,pc.pre (enc x::caps)/\∀r,pc.post (enc x::caps) r->r=enc (p x)
def FunOnP.useB{X:Type}[Cod X]{S:Nat->Spc}{d:D}{l:List X}{p:X->Bool}(h:FunOnP S d l p)(x:X)(hx:x∈l){d':Nat}{H:ab}{K:D->ab->Prop}(hk:∀y:Bool,(∀q,FunOnP S d l q->y=q x)->K (.v (.bool y)) H):Ch S d d' [enc x] H K:=by
 obtain⟨g,caps,pc,rfl,h1,h2⟩:=h;simp only[Ch,h1,Spc.pt];refine⟨(h2 x hx).1,λr hr=>?_⟩;have e:=(h2 x hx).2 r hr;rw[e];refine hk (p x) λq hq=>?_
 obtain⟨g',caps',pc',e',k1,k2⟩:=hq;cases e';rw[h1]at k1;cases k1;exact bK (e.symm.trans ((k2 x hx).2 r hr))
def FunIs.on{X Y:Type}[Cod X][Cod Y]{S:Nat->Spc}{d:D}{p:X->Y}(h:FunIs S d p)(l:List X):FunOnP S d l p:=by
 obtain⟨g,caps,pc,h1,h2,h3⟩:=h;exact⟨g,caps,pc,h1,h2,λx _=>h3 x⟩
def Iv{X Y:Type}[Cod X][Cod Y]{S:Nat->Spc}{g:Nat}{c:D}{l:List X}{pre:X×D×Unit->Prop}{post:X×D×Unit->Y->Prop}{p:X->Y}(h:S g=aL (aE X (aD a0)) pre enc post)(hp:∀x∈l,pre (x,c,()))(hq:∀x∈l,∀y,post (x,c,()) y->y=p x):FunOnP S (.clo g [c]) l p:=by
 refine⟨g, [c],_,rfl,h,λx hx=>⟨⟨(x,c,()),by simp,hp x hx⟩,λr hr=>?_⟩⟩;obtain⟨y,rfl,hy⟩:=hr (x,c,()) (by simp) (hp x hx);rw[hq x hx y hy]
def qao(x:Pat):D.agg [D.v (Value.int IntKind.i64 x.op),D.v (Value.int IntKind.i64 x.cond.op),D.v (Value.string x.cond.name),D.v (Value.string x.cond.arg),D.v (Value.string x.cond.val),D.v (Value.string x.cond.lab),D.v (Value.bool x.cond.fold),D.list 7 (List.map enc x.cond.kids),D.v (Value.string x.lab),D.v (Value.string x.reg),D.v (Value.int IntKind.i64 x.mn),D.v (Value.int IntKind.i64 x.mx),D.list 13 (List.map enc x.kids)]=enc x:=by simp
def Tu(S0:Nat->Spc)(x:List Pat×D×Unit):Prop:=∃p:Pat->Bool,FunOnP S0 x.2.1 x.1 p
def qhF(S0:Nat->Spc)(x:List Pat×D×Unit)(y:Int):Prop:=∀p:Pat->Bool,FunOnP S0 x.2.1 x.1 p->y=eX x.1 p
abbrev qlZ(S0:Nat->Spc):Spc:=aL (aE (List Pat) (aD a0)) (Tu S0) enc (qhF S0)
def tY:am fg fe S (aE (List Pat) (aD a0)) (Tu S) enc (qhF S):=by
 rintro⟨l,d,⟨⟩⟩ ⟨p,hp⟩;simp at hp;simp[fg,fe];intro _;refine ah (X:=Unit) [0,1] [] l.length (λk _=>∀p:Pat->Bool,FunOnP S d l p->∀x∈l.take k,p x=false) (λ_=>[]) (λ_=>[]) () (by simp) ?_ ?_
 ·intro k _ hk hP;simp;refine⟨hk,λx hx=>?_⟩;rw[qao x];refine hp.useB x (aQ hx) λy hy=>?_
  simp;refine⟨λh=>?_,λh p' hp'=>?_⟩
  ·intro p' hp';exact(tG hx (by rw[<-hy p' hp',h]) (hP p' hp')).symm
  ·rw[av hx];intro z hz;rcases qzZ.1 hz with hz|hz
   ·exact hP p' hp' z hz
   ·simp at hz;subst hz;rw[<-hy p' hp',h]
 ·intro _ hP;simp;intro p' hp';exact(lH (by simpa using hP p' hp')).symm
def qhG(S0:Nat->Spc)(x:List Pat×D×Unit)(y:Bool):Prop:=∀p:Pat->Bool,FunOnP S0 x.2.1 x.1 p->y=x.1.any p
abbrev RJ(S0:Nat->Spc):Spc:=aL (aE (List Pat) (aD a0)) (Tu S0) enc (qhG S0)
def ru(h1:S kQ=qlZ S0):am dX dQ S (aE (List Pat) (aD a0)) (Tu S0) enc (qhG S0):=by
 rintro⟨l,d,⟨⟩⟩ hp;simp[dX,dQ,h1,-fB'];refine⟨hp,λy hy p' hp'=>?_⟩;rw[hy p' hp'];exact zw p' l
abbrev PA(n:Nat):Spc:=aL (a2 Pat Int) (λx=>dc x.1<=n/\0<=x.2/\x.2<=101) (enc (X:=Bool)) λx y=>y=cB x.1 x.2
def qlh(n:Nat)(x:Pat×D×Unit):Prop:=∃d:Int,x.2.1= .cptr [enc d] 0/\dc x.1<=n/\0<=d/\d<=100
def qhA(x:Pat×D×Unit)(y:Bool):Prop:=∀d:Int,x.2.1= .cptr [enc d] 0->y=!cB x.1 (d+1)
abbrev qel(n:Nat):Spc:=aL (aE Pat (aD a0)) (qlh n) enc qhA
def Fb(n:Nat)(h1:S jn=PA n):am nr mZ S (aE Pat (aD a0)) (qlh n) enc qhA:=by
 rintro⟨p,d,⟨⟩⟩ ⟨e,hd,h2,h3,h4⟩;simp at hd h2;subst hd;simp[nr,mZ,h1,qhA,h2,-fB'];exact⟨by simp only[InR];omega,by omega⟩
def JQ(n:Nat)(h0:S0 gh=qel n)(h1:S aR=RJ S0):am qJ qe S (a2 Pat Int) (λx=>dc x.1<=n+1/\0<=x.2/\x.2<=101) (enc (X:=Bool)) λx y=>y=cB x.1 x.2:=by
 rintro⟨p,d⟩ ⟨hn,hd0,hd1⟩;have hk:∀k∈p.kids,dc k<=n:=λk hk=>by have:=kM hk;have:dc p<=n+1:=hn;omega
 simp only at hd0 hd1;simp[qJ,qe,h1,-fB'];rw[nF];refine⟨λh=>?_,λh=>by rw[decide_eq_false (by omega)];rfl⟩;have hf:FunOnP S0 (.clo gh [.cptr [.v (.int .i64 d)] 0]) p.kids λx=>!cB x (d+1):=
  Iv h0 (λx hx=>⟨d,rfl,hk x hx,hd0,h⟩) (λx _ y hy=>hy d rfl)
 refine⟨⟨_,hf⟩,λy hy=>?_⟩;rw[hy _ hf,decide_eq_true h,qBy];simp[qCb]
def qlj(S0:Nat->Spc)(n:Nat)(x:Pat×D×Unit):Prop:=∃(d:D) (f:Pat->Bool),x.2.1= .cptr [d] 0/\FunIs S0 d f/\dc x.1<=n
def qhB(S0:Nat->Spc)(x:Pat×D×Unit)(y:Bool):Prop:=∀(d:D) (f:Pat->Bool),x.2.1= .cptr [d] 0->FunIs S0 d f->y=!cm f x.1
abbrev Z4(S0:Nat->Spc)(n:Nat):Spc:=aL (aE Pat (aD a0)) (λx=>∃f:Pat->Bool,FunIs S0 x.2.1 f/\dc x.1<=n) enc λx y=>∀f:Pat->Bool,FunIs S0 x.2.1 f->y=cm f x.1
abbrev qey(S0:Nat->Spc)(n:Nat):Spc:=aL (aE Pat (aD a0)) (qlj S0 n) enc (qhB S0)
def JT(n:Nat)(h1:S fl=Z4 S0 n):am qL qg S (aE Pat (aD a0)) (qlj S0 n) enc (qhB S0):=by
 rintro⟨p,d,⟨⟩⟩ ⟨e,f,hd,h2,h3⟩;simp at hd h3;subst hd;simp[qL,qg,h1,qhB,h3,-fB'];exact⟨⟨f,h2⟩,λy hy d g e hg=>by subst e;exact hy g hg⟩
theorem Oq{N:Nat->Spc}(n:Nat)(hN:∀(d:D) (f:Pat->Bool),FunIs N d f->FunIs S d f)(h0:S0 jp=qey N n)(h1:S aR=RJ S0):am vr uo S (aE Pat (aD a0)) (λx=>∃f:Pat->Bool,FunIs N x.2.1 f/\dc x.1<=n+1) enc λx y=>∀f:Pat->Bool,FunIs N x.2.1 f->y=cm f x.1:=by
 rintro⟨p,d,⟨⟩⟩ ⟨f,hf,hn⟩;have hk:∀k∈p.kids,dc k<=n:=λk hk=>by have:=kM hk;have:dc p<=n+1:=hn;omega
 simp at hf;have hd1:d.kn=true/\d.cells=[d]:=by obtain⟨g,caps,pc,rfl,_⟩:=hf;exact⟨rfl,rfl⟩
 simp[vr,uo,h1,hd1,-fB'];rw[qao p];refine((hN d f hf).on [p]).useB p (by simp) λy hy=>?_
 have hy:∀f,FunIs N d f->y=f p:=λf hf=>hy f ((hN d f hf).on [p])
 simp[h1,-fB'];refine⟨λht=>?_,λhff g hg=>by rw[cN,<-hy g hg,hff];rfl⟩;have hO:∀g,FunIs N d g->FunOnP S0 (.clo jp [.cptr [d] 0]) p.kids λx=>!cm g x:=λg hg=>
  Iv h0 (λx hx=>⟨d,g,rfl,hg,hk x hx⟩) (λx _ y hy=>hy d g rfl hg)
 refine⟨⟨_,hO f hf⟩,λz hz g hg=>?_⟩;rw[hz _ (hO g hg),cN,<-hy g hg,ht,qBy];simp[qCb]
abbrev LY:Spc:=aL (a2 Pat Int) (λx=>0<=x.2/\x.2<=101) (enc (X:=Bool)) λx y=>y=cB x.1 x.2
abbrev A9(N:Nat->Spc):Spc:=aL (aE Pat (aD a0)) (λx=>∃f:Pat->Bool,FunIs N x.2.1 f) enc λx y=>∀f:Pat->Bool,FunIs N x.2.1 f->y=cm f x.1
abbrev K5:Spc:=aL (a1 Pat) (λ_=>True) (enc (X:=Bool)) λx y=>y=(cB x 1 && cm oJ x)
def uJ{X:Type}[Cod X]{S:Nat->Spc}{g:Nat}{pre:X->Prop}{p:X->Bool}(h:S g=aL (a1 X) pre enc λx y=>y=p x)(hp:∀x,pre x):FunIs S (.clo g []) p:=by
 refine⟨g, [],_,rfl,h,λx=>⟨⟨x,by simp,hp x⟩,λr hr=>?_⟩⟩;obtain⟨y,rfl,hy⟩:=hr x (by simp) (hp x);rw[hy]
def Oy{N:Nat->Spc}(h0:N lJ=RB)(h1:S jn=LY)(h2:S fl=A9 N):am vw uv S (a1 Pat) (λ_=>True) (enc (X:=Bool)) λx y=>y=(cB x 1 && cm oJ x):=by
 rintro p -;have f1:FunIs N (.clo lJ []) oJ:=uJ h0 λ_=>trivial
 simp[vw,uv,h1,h2,-fB'];refine⟨λh=>⟨⟨_,f1⟩,λy hy=>by rw[hy _ f1,h];rfl⟩,λh h'=>absurd (h.symm.trans h') (by simp)⟩
def Om{N:Nat->Spc}(h0:N dw=Cw)(h0':N cU=xP)(h1:S mL=K5)(h2:S fl=A9 N):am vo um S (a1 Pat) (λ_=>True) (enc (X:=Bool)) λx y=>y=fI aI x:=by
 rintro p -;have f1:FunIs N (.clo dw []) (mF aI):=uJ h0 λ_=>trivial
 have f2:FunIs N (.clo cU []) lG:=uJ h0' λ_=>trivial
 simp[vo,um,h1,h2,-fB'];unfold fI;refine⟨λh1 h2=>⟨⟨_,f1⟩,λy hy=>?_⟩,λh=>?_⟩
 ·have hy:=hy _ f1;refine⟨λht=>⟨⟨_,f2⟩,λz hz=>?_⟩,λhf=>?_⟩
  ·rw[hz _ f2,h1,h2,<-hy,ht];rfl
  ·rw[<-hy,hf];simp
 ·rcases hs:cB p 1
  ·rfl
  ·rw[h hs];rfl
end Go.Gv
namespace Go.Gv
mutual
def jq:Pat->Nat| .mk op _ _ _ mn _ ks=>if ks=[]then 1 else if op=6 then(max 1 mn).toNat*kY ks else kY ks
def kY:List Pat->Nat|[]=>0|k::ks=>jq k+kY ks
end
def km(p:Pat):jq p=if p.kids=[]then 1 else if p.op=6 then(max 1 p.mn).toNat*kY p.kids else kY p.kids:=by cases p;unfold jq;rfl
def CD(a b:List Pat):be (a++b)=be a+be b:=by
 induction a with
 |nil=>simp[be]
 |cons k a ih=>simp only[qAE,be];omega
def NA(p:Pat):1<=jq p:=by
 induction p using fY with|_ p ih=>?_
 rw[km];split
 ·omega
 ·rename_i h;have:1<=kY p.kids:=by
   rcases hk:p.kids with _|⟨k,ks⟩
   ·exact absurd hk h
   ·rw[kY];have:=ih k (by rw[hk];simp);omega
  split
  ·exact Nat.mul_pos (by omega) this
  ·exact this
theorem qlp{lb:List B} :∀n p,WP lb n p->jq p<=2^n:=by
 refine Hm λn p hp ih=>?_
 rw[km];rcases xy hp with(⟨h1,h2,h3,h4,h5,h6⟩|⟨h1,h2,h3,h4,h5,h6,h7⟩)|⟨m,rfl,(⟨h1,h2,h3,h4,h5,h6,a,b,h7,_⟩|⟨h1,h2,h3,h4,h5,a,h7,_⟩)⟩
 ·rw[if_pos h6];exact Nat.one_le_two_pow
 ·rw[if_pos h7];exact Nat.one_le_two_pow
 ·obtain⟨m1,e1,_,a1⟩:=ih a (by rw[h7];simp);obtain⟨m2,e2,_,a2⟩:=ih b (by rw[h7];simp);have e1:m1=m:=by omega
  have e2:m2=m:=by omega
  subst e1;subst e2;rw[h7,if_neg (by simp),if_neg (by omega),Nat.pow_succ];simp only[kY];omega
 ·obtain⟨m1,e1,_,a1⟩:=ih a (by rw[h7];simp);have e1:m1=m:=by omega
  subst e1;rw[h7,if_neg (by simp),if_pos h1,Nat.pow_succ];simp only[kY];have:(max 1 p.mn).toNat<=2:=by
   simp[Xv]at h5;omega
  have:=Nat.mul_le_mul this a1;rw[qAY];omega
end Go.Gv
