/- W185 -/
import Derived.Shelf.SlSortCmp.NoneTotal
import Derived.Test.YtfpmgnnippjblaaGreatDoorGa21
set_option linter.all false
set_option maxRecDepth 100000
set_option maxHeartbeats 0
open Bool renaming forall_bool → fB', exists_bool → eB'
namespace Go.Gv
section
open Go.Proofs
open Cod (enc dec)
variable {S S0:Nat->Spc}
end
section
open Cod (enc dec)
open Go.Proofs Go.Sort Go.Shelf Go.Lib Go.RowKit
def qgI{α c:Type}{f:α->List c}{n:Nat} :∀{l:List α},(∀x∈l,(f x).length=n)->∀{i j:Nat},j<n->(l.flatMap f)[i*n+j]? =(l[i]?).bind λx=>(f x)[j]?
 | [],_,i,j,_=>by simp
 | d::es,h,0,j,b=>by
   have a:=h d (by simp);simp only[qCg,Nat.zero_mul,qBV];rw[qBN (by omega)];simp
 | d::es,h,i+1,j,b=>by
   have a:=h d (by simp);have p:=qgI (l:=es) (λd a=>h d (by simp[a])) (i:=i) b;simp only[qCg];rw[qBL (by rw[a,qCm];omega),a];have:(i+1) *n+j -n=i*n+j:=by rw[qCm];omega
   rw[this,p];simp
def Tm{α a:Type}{f:α->List a}{n:Nat} :∀{l:List α},(∀x∈l,(f x).length=n)->(l.flatMap f).length=l.length*n
 | [],_=>by simp
 | d::es,h=>by
   have b:=Tm (l:=es) (λd c=>h d (by simp[c]));simp only[qCg,qBJ];rw[b,h d (by simp),qB2,qCm];omega
section
variable {X:Type}[Cod X][Inhabited X](ev:X->List Value)(k:Nat)(hk:∀x,(ev x).length=k)
include hk
omit [Cod X]in
theorem Ni(l:List X):(flatK ev k l.toArray).toList=l.flatMap ev:=by
 have hl:=Tm (f:=ev) (n:=k) (l:=l) (λx _=>hk x);apply qBX;intro t;by_cases ht:t<l.length*k
 ·have k0:0<k:=by
   rcases qDn k with h|h
   ·subst h;simp at ht
   ·exact h
  have h1:=get_flatK ev k l.toArray t (by simpa using ht);have hs:t<(flatK ev k l.toArray).size:=by simpa using ht
  rw[getElem!_pos _ t hs]at h1;rw[qBD,qB4 hs,h1];have hm:t % k<k:=qCw _ k0;have hdm:t=(t/k) *k+t % k:=by have:=qCx t k;rw[qDc]at this;omega
  have hq:t/k<l.length:=qC3 (by rw[qDc];exact ht);have h2:=qgI (f:=ev) (n:=k) (l:=l) (λx _=>hk x) (i:=t/k) hm;rw[<-hdm]at h2;rw[h2,qBe hq];have h3:(l.toArray)[t/k]! =l[t/k]:=by rw[getElem!_pos l.toArray (t/k) (by simpa using hq)];simp
  rw[h3];have h4:t % k<(ev l[t/k]).length:=by rw[hk];exact hm
  simp only[qBz];rw[getElem!_pos (ev l[t/k]) (t % k) h4,qBe h4]
 ·rw[qBE (by simpa using ht),qBE (by omega)]
end
def GN{w:World}{b j el:Nat}{c:Array Value}(h:w.heap[b]? =some (.cells c el (0,0))):w.frozen? ⟨b,j,none⟩=false:=by
 simp[World.frozen?,h]
def NJ{w:World}{b j el:Nat}{c:Array Value}{fr:Nat×Nat}(h:w.heap[b]? =some (.cells c el fr)):w.cell? ⟨b,j,none⟩=c[j]?:=by
 simp[World.cell?,h]
def Qb{w:World}{a b:Nat}{f:Array Value->Array Value}{os:Array Obj}(hb:b<w.heap.size)(c:b≠a):(grow (mapBlock w a f) os).heap[b]? =w.heap[b]?:=by
 simp only[grow,mapBlock];rw[qB0 (by simpa using hb),qC0];have:¬a=b:=λe=>c e.symm
 simp[this]
def We{w:World}{a el:Nat}{c:Array Value}{fr:Nat×Nat}{f:Array Value->Array Value}{os:Array Obj}(h:w.heap[a]? =some (.cells c el fr)):(grow (mapBlock w a f) os).heap[a]? =some (.cells (f c) el fr):=by
 have hb:a<w.heap.size:=(qBn.1 h).1;simp only[grow,mapBlock];rw[qB0 (by simpa using hb),qC0];simp[h,onCells]
variable {dq:Prop}
section
variable {P:Program}{ρ:Ren}
end
end
section
open Go.Proofs
def iP:CC:=gq Tryz.f67 [2] { bx:=[1,31],cu:=[1] } _
def iD:List ai:=[.tmp 4]
def zO:FO eh [2] iP iD 34:=fo
def iO:CC:=gq Tryz.f68 [2] { bx:=[1,24] } _
def iC:List ai:=[.tmp 4]
def zN:FO ee [2] iO iC 27:=fo
def uw:CC:=gq Tryz.f127 [1,2002002] {} _
def tA:List ai:=[.cell 2 true 13]
def MK:FO qJ [1,2002002] uw tA 11:=fo
def sr:CC:=gq Tryz.f192 [1,2021003,1020020] {} _
def rM:List ai:=[.cell 2 true 7]
def KF:FO jV [1,2021003,1020020] sr rM 24:=fo
def jk:CC:=gq Tryz.f66 [1] { bx:=[41] } _
def iX:List ai:=[.tmp 2]
def Ad:FO jW [1] jk iX 44:=fo
def gP:CC:=gq Tryz.f122 [1] {} _
def gB:List ai:=[.tmp 2]
def xt:FO dm [1] gP gB 7:=fo
def oO:CC:=gq Tryz.f32 [2] { bx:=[17,20],fz:=[(17,1),(20,13)] } _
def nk:List ai:=[.tmp 4]
def Gf:FO pX [2] oO nk 49:=fo
def oL:CC:=gq Tryz.f73 [3] {} _
def nj:List ai:=[.tmp 6]
def Ge:FO gH [3] oL nj 33:=fo
def aI:CC:=gq Tryz.f137 [3] {} _
def aG:List ai:=[.tmp 6]
def D2:FO nW [3] aI aG 115:=fo
def wA:CC:=gq Tryz.f71 [1] {} _
def vN:List ai:=[.tmp 2]
def Pa:FO nV [1] wA vN 11:=fo
def qN:CC:=gq Tryz.f133 [1] {} _
def qz:List ai:=[.tmp 2]
def O8:FO yT [1] qN qz 58:=fo
def oP:CC:=gq Tryz.f72 [1] {} _
def nl:List ai:=[.tmp 2]
def MN:FO wg [1] oP nl 22:=fo
def eo:CC:=gq Tryz.f70 [] {} _
def dY:List ai:=[.tmp 4]
def rb:FO cR [] eo dY 9:=fo
def ff:CC:=gq Tryz.f132 [] {} _
def eW:List ai:=[.tmp 4]
def tM:FO fu [] ff eW 19:=fo
open Cod (enc dec)
variable {S S0:Nat->Spc}
def LR{α:Type}{l:List α}{k:Nat}{a:α}{P:α->Prop}(h:∀x∈l.take k,P x)(b:l[k]? =some a)(hp:P a):∀x∈l.take (k+1),P x:=by
 rw[au b];intro x hx;rcases qBo.1 hx with hx|hx
 ·exact h x hx
 ·simp at hx;subst hx;exact hp
def qoq{X:Type}(m:X->Nat)(n:Nat)(x:X):Prop:=m x<=n
abbrev qaJ(n:Nat):Spc:=aA (a2 Cond Cond) (qoq (λx=>bb x.1) n) (enc (X:=Bool)) λx y=>(y=true↔x.1=x.2)
def qht{a b:Cond}(h1:a.op=b.op)(h2:a.name=b.name)(h3:a.arg=b.arg)(h4:a.val=b.val)(h5:a.lab=b.lab)(h6:a.fold=b.fold)(c:a.kids=b.kids):a=b:=by
 cases a;cases b;simp only at*;subst h1;subst h2;subst h3;subst h4;subst h5;subst h6;subst c;rfl
theorem YB(n:Nat)(h1:S tT=qaJ n):aq BG AP S (a2 Cond Cond) (qoq (λx=>bb x.1) (n+1)) (enc (X:=Bool)) λx y=>(y=true↔x.1=x.2):=by
 rintro⟨a,b⟩ hn;have hn:bb a<=n+1:=hn;have c:∀k∈a.kids,∀y,qoq (λx:Cond×Cond=>bb x.1) n (k,y):=λk hk y=>by have:=BQ hk;show bb k<=n;omega
 simp[BG,AP];refine⟨λA=>⟨λC=>⟨λE=>⟨λF=>⟨λI=>⟨λJ _ _=>⟨λh e=>h (by rw[e]),λhl _=>?_⟩,λh e=>h (by rw[e])⟩,λh e=>h (by rw[e])⟩,λh e=>h (by rw[e])⟩,λh e=>h (by rw[e])⟩,λh e=>h (by rw[e])⟩,λh e=>h (by rw[e])⟩;refine ah (X:=Unit) [2,3] [] a.kids.length (λk _=>a.kids.take k=b.kids.take k) (λ_=>[]) (λ_=>[]) () (by simp) ?_ ?_
 ·rintro k -hk p;obtain⟨x,d⟩:=aY hk;obtain⟨y,j⟩:=aY (l:=b.kids) (k:=k) (by omega);have q:=aP d;obtain⟨_,s⟩:=qBc.1 d;obtain⟨_,t⟩:=qBc.1 j;simp[h1,hk,d,j,s,t,c x q,-fB'];refine⟨by omega,λr u=>⟨λw e=>?_,λK=>?_⟩⟩
  ·subst e;rw[d]at j;cases j;rw[u.2 rfl]at w;cases w
  ·rw[au d,au j,p,u.1 K]
 ·rintro -p;simp;have L:a.kids=b.kids:=by
   rw[qBQ (by omega),qBQ (by omega)]at p;exact p
  exact qht A C E F I J L
abbrev JD:Spc:=aA (a2 Pat Int) (λ_=>True) (enc (X:=Bool)) λx y=>y=(decide (x.2<=100) && nG x.1)
abbrev qaK:Spc:=aA (a2 Cond Cond) (λ_=>True) (enc (X:=Bool)) λx y=>(y=true↔x.1=x.2)
def Uq(h1:S tT=qaK):aq za yc S (a2 Pat Int) (λ_=>True) (enc (X:=Bool)) λx y=>y=(decide (x.2<=100) && nG x.1):=by
 rintro⟨p,d⟩ -;simp[za,yc,h1,-fB'];clear h1;refine⟨λh c=>absurd h (by omega),λb y a=>?_⟩;have a:y=true↔p.cond=pi:=a;rw[decide_eq_true b,qCu];revert a;revert y
 repeat' first|apply And.intro|intro _
 all_goals (rw[qBK,pQ];unfold qt;simp_all;try omega)
abbrev Vv(n:Nat):Spc:=aA (a2 Pat Int) (λx=>dJ x.1<=n/\0<=x.2/\x.2<=101) (enc (X:=Bool)) λx y=>y=(ct x.1 x.2 && bX nG x.1)
theorem Q8(n:Nat)(h1:S Bk=JD)(h2:S kJ=Vv n):aq wm vB S (a2 Pat Int) (λx=>dJ x.1<=n+1/\0<=x.2/\x.2<=101) (enc (X:=Bool)) λx y=>y=(ct x.1 x.2 && bX nG x.1):=by
 rintro⟨p,d⟩ ⟨hn,q,r⟩;have c:∀k∈p.kids,dJ k<=n:=λk hk=>by have:=jN hk;have:dJ p<=n+1:=hn;omega
 simp only at q r;simp[wm,vB,h1];rw[mL,cH];refine⟨λh=>?_,λu s _=>?_⟩
 ·simp only[qBh,decide_eq_true_eq];intro h1;rw[h h1.1,Bool.false_and]
 refine ah (X:=Unit) [1,12] [] p.kids.length (λk _=>∀x∈p.kids.take k,(ct x (d+1) && bX nG x)=true) (λ_=>[]) (λ_=>[]) () (by simp) ?_ ?_
 ·rintro k -hk j;obtain⟨x,a⟩:=aY hk;have b:=aP a;obtain⟨_,t⟩:=qBc.1 a;have w:=c x b;simp[h2,hk,a,t,w,-fB'];refine⟨by simp only[InR];omega,by omega,λA _ l _=>⟨x,b,A (l x b)⟩,λt1 C=>?_⟩;have:=LR (P:=λx=>(ct x (d+1) && bX nG x)=true) j a (by simp[t1,C]);simpa using this
 ·rintro -j;simp;simp at j;simp[s,u];exact⟨λx a=>(j x a).1,λx a=>(j x a).2⟩
abbrev qaQ(n:Nat):Spc:=aA (a1 Pat) (λx=>dJ x<=n) (enc (X:=Bool)) λx y=>y=bX (mM aB) x
theorem Ur(n:Nat)(h1:S aJ=mX)(h2:S mN=qaQ n):aq zd yd S (a1 Pat) (λx=>dJ x<=n+1) (enc (X:=Bool)) λx y=>y=bX (mM aB) x:=by
 rintro p hn;have a:∀k∈p.kids,dJ k<=n:=λk hk=>by have:=jN hk;have:dJ p<=n+1:=hn;omega
 simp[zd,yd,h1];refine ba (X:=Unit) [1] [] (λ_=>mM aB p=true) (λ_=>[]) (λ_=>[]) ?_ ?_
 ·simp[h1,mM];rw[cH];unfold mM
  repeat' first|apply And.intro|intro _
  all_goals (first|omega|simp_all;try omega)
 rintro -h;rw[cH];simp;intro _;refine ah (X:=Unit) [31] [] p.kids.length (λk _=>∀x∈p.kids.take k,bX (mM aB) x=true) (λ_=>[]) (λ_=>[]) () (by simp) ?_ ?_
 ·rintro k -hk c;obtain⟨x,d⟩:=aY hk;have b:=aP d;obtain⟨_,j⟩:=qBc.1 d;have l:=a x b;simp[h2,hk,d,j,l,-fB'];exact⟨λq _=>⟨x,b,q⟩,λr=>LR c d r⟩
 ·rintro -c;simp;simp at c;rw[h];simpa using c
abbrev PW(n:Nat):Spc:=aA (a1 Pat) (λx=>dJ x<=n) (enc (X:=Bool)) λx y=>y=bX nE x
theorem Oq(n:Nat)(h2:S iR=PW n):aq um tq S (a1 Pat) (λx=>dJ x<=n+1) (enc (X:=Bool)) λx y=>y=bX nE x:=by
 rintro p hn;have a:∀k∈p.kids,dJ k<=n:=λk hk=>by have:=jN hk;have:dJ p<=n+1:=hn;omega
 simp[um,tq];refine ba (X:=Unit) [1] [] (λ_=>nE p=true) (λ_=>[]) (λ_=>[]) ?_ ?_
 ·simp[nE];rw[cH];unfold nE
  repeat' first|apply And.intro|intro _
  all_goals (first|omega|(rw[qBK];simp;omega))
 rintro -h;rw[cH];simp;intro _;refine ah (X:=Unit) [36] [] p.kids.length (λk _=>∀x∈p.kids.take k,bX (nE) x=true) (λ_=>[]) (λ_=>[]) () (by simp) ?_ ?_
 ·rintro k -hk c;obtain⟨x,d⟩:=aY hk;have b:=aP d;obtain⟨_,j⟩:=qBc.1 d;have l:=a x b;simp[h2,hk,d,j,l,-fB'];exact⟨λq _=>⟨x,b,q⟩,λr=>LR c d r⟩
 ·rintro -c;simp;simp at c;rw[h];simpa using c
def uZ{a b A B:Int}(h0:0<=a)(h1:a<=A)(h2:0<=b)(h3:b<=B):0<=a*b/\a*b<=A*B:=⟨qCT h0 h2,Int.mul_le_mul h1 h3 h2 (by omega)⟩
def PPat(n:Nat)(p:Pat):Prop:=dJ p<=n/\fk aB p=true
def PPat.kid{n:Nat}{p k:Pat}(h:PPat (n+1) p)(hk:k∈p.kids):PPat n k:=by
 have h1:=jN hk;grind [PPat,xp]
abbrev fC:Spc:=aA (a1 Pat) (λ_=>True) (enc (X:=Bool)) λx y=>y=fk aB x
abbrev Ie:Spc:=aA (a2 Pat Int) (λx=>0<=x.2/\x.2<=101) (enc (X:=Bool)) λx y=>y=(ct x.1 x.2 && bX nG x.1)
abbrev Ma:Spc:=aA (a1 Pat) (λ_=>True) (enc (X:=Bool)) λx y=>y=bX (mM aB) x
abbrev DQ:Spc:=aA (a1 Pat) (λ_=>True) (enc (X:=Bool)) λx y=>y=bX nE x
def J7(h1:S kJ=Ie)(h2:S mN=Ma)(h3:S iR=DQ):aq qg pw S (a1 Pat) (λ_=>True) (enc (X:=Bool)) λx y=>y=fk aB x:=by
 rintro p -;simp_all [qg,pw,fk]
abbrev RR(n:Nat):Spc:=aA (a1 Pat) (PPat n) (enc (X:=Int)) λx y=>y=gw x
theorem Yy(n:Nat)(h1:S tQ=RR n):aq BE AN S (a1 Pat) (PPat (n+1)) (enc (X:=Int)) λx y=>y=gw x:=by
 rintro p hp;have hk:∀k∈p.kids,PPat n k:=λk=>hp.kid
 have hs:∀k∈p.kids,0<=gw k/\gw k<=1000:=λk h=>PO (v:=aB) k (hk k h).2
 simp[BE,AN];intro _;refine⟨λh=>by rw[mV,AJ,if_pos h],λh0 _=>?_⟩;refine ah (X:=Int) [1,11] [] p.kids.length (λk n=>n=eM (p.kids.take k) 0) (λn=>[(3,enc n)]) (λ_=>[]) 0 (by rfl) ?_ ?_
 ·rintro k m a b;obtain⟨x,d⟩:=aY a;have c:=aP d;obtain⟨_,j⟩:=qBc.1 d;have hm:=pp (p.kids.take k) 0 (by omega) (by omega) (λy l=>(hs y (qBx l)).1);have h2:=hs x c;rw[<-b]at hm;have r:=hk x c;simp[h1,a,d,j,r];refine⟨by grind [InR],?_⟩;simp_all [au,L5,eM]
 ·rintro m b;have hm:=pp (p.kids.take p.kids.length) 0 (by omega) (by omega) (λy l=>(hs y (qBx l)).1);rw[<-b]at hm;rw[qBm]at b;have hn:=(gE hp.2).2.2;unfold nE at hn;rw[decide_eq_true_eq]at hn;rw[mV,AJ,if_neg h0,<-b];simp;refine⟨λh6=>?_,λh6=>?_⟩
  ·have hn:=hn h6;simp only[h6,if_true];refine⟨λe=>?_,λe=>⟨λq=>?_,λq=>?_⟩⟩
   ·have h1:max 1 (p.mn+1)=p.mn+1:=by omega
    have h2:=uZ hm.1 hm.2 (show 0<=p.mn+1 by omega) (show p.mn+1<=17 by omega);rw[h1,if_pos e];exact⟨by simp only[InR];omega,by simp only[InR];omega,rfl⟩
   ·rw[if_neg e,if_pos q];omega
   ·have h2:=uZ hm.1 hm.2 (show 0<=p.mx by omega) (show p.mx<=16 by omega);rw[if_neg e,if_neg q];exact⟨by simp only[InR];omega,rfl⟩
  ·simp only[h6,if_false];omega
abbrev qaH(n:Nat):Spc:=aA (a1 Pat) (PPat n) (lH (Y:=Int) (Z:=Int)) λx y=>y=cq x
abbrev Qm:D:= .v (.slice none 0 0)
def qd3(x:Pat)(l:List Pat):Prop:=l.length+ (am x).length<=100000000
abbrev WI(n:Nat):Spc:=qil (X:=Pat) (Y:=Pat) (λx l=>dJ x<=n/\qd3 x l) (λx l r=>r=l++am x) bB 13
abbrev i_leavesA:Spc:=qil (X:=Pat) (Y:=Pat) (λx l=>qd3 x l) (λx l r=>r=l++am x) bB 13
def qf7{ks:List Pat}{k:Nat}{x:Pat}(l:List Pat)(a:ks[k]? =some x):(l++ (ks.take k).flatMap am) ++am x=l++ (ks.take (k+1)).flatMap am:=by
 rw[au a,qC5,List.flatMap_singleton,qB7]
def Zz{ks:List Pat}{k:Nat}{x:Pat}{l:List Pat}(a:ks[k]? =some x)(h:l.length+ (ks.flatMap am).length<=100000000):qd3 x (l++ (ks.take k).flatMap am):=by
 have:ks=ks.take k++x::ks.drop (k+1):=by rw[<-cT a,qBI]
 rw[this]at h;simp only[qC5,qCg,qBJ]at h;unfold qd3;rw[qBJ];omega
theorem Q9(n:Nat)(h1:S fO=WI n):N0 (X:=Pat) (Y:=Pat) lR lK S (λx l=>dJ x<=n+1/\qd3 x l) (λx l r=>r=l++am x) bB 13:=by
 rintro v l p ⟨hp,hl⟩;have hk:∀k∈p.kids,dJ k<=n:=λk hk=>by have:=jN hk;have:dJ p<=n+1:=hp;omega
 have a:=hl;unfold qd3 at a;rw[aV]at a;simp[lR,lK];refine⟨λh1=>⟨by simp[h1]at a;omega,by simp[h1]at a;omega,λv=>du (l++am p) (by simp[aV,h1]) rfl⟩,λb _=>?_⟩;rw[if_neg b]at a;refine ah (X:=Value×List Pat) [15] [] p.kids.length (λk x=>x.2=l++ (p.kids.take k).flatMap am) (λx=>[(1, .own 1 x.1)]) (λx=>[(1, .row x.1 bB 13 (x.2.map enc))]) (v,l) (by simp) ?_ ?_ (hh:=by simp[isNilRow])
 ·rintro k ⟨v,m⟩ c hm;simp only at hm;obtain⟨x,d⟩:=aY c;have h:=aP d;obtain⟨_,j⟩:=qBc.1 d;have q:=Zz d a;rw[<-hm]at q;have s:=hk x h;simp[h1,c,d,j,q,s];intro v';refine .inl ?_;rw[hm,qf7 _ d]
 ·rintro⟨v,m⟩ hm;simp only at hm;rw[qBm]at hm;simp;refine du m (by simp) ?_;rw[hm,aV,if_neg b]
abbrev qgU:Spc:=qo6 (Y:=Pat) (aE Pat (aD a0)) (λx=>x.2.1=Qm/\qd3 x.1 []) (λx r=>r=am x.1) bB 13
theorem Ot(h1:S fO=i_leavesA):Yj (Y:=Pat) lR lK S (aE Pat (aD a0)) (λx=>x.2.1=Qm/\qd3 x.1 []) (λx r=>r=am x.1) bB 13:=by
 rintro⟨p,d,⟨⟩⟩ ⟨j,hl⟩;have j:d=Qm:=j;subst j;have a:([]:List Pat).length+ (am p).length<=100000000:=hl;rw[aV]at a;simp[lR,lK];refine⟨λh1 v=>du (am p) (by simp[aV,h1]) rfl,λb _=>?_⟩;rw[if_neg b]at a;refine ah (X:=Value×List Pat) [15] [] p.kids.length (λk x=>x.2=[] ++ (p.kids.take k).flatMap am) (λx=>[(1, .own 1 x.1)]) (λx=>[(1, .row x.1 bB 13 (x.2.map enc))]) (.slice none 0 0, []) (by simp) ?_ ?_ (hh:=by simp[isNilRow])
 ·rintro k ⟨v,m⟩ c hm;simp only at hm;obtain⟨x,h⟩:=aY c;have s:=aP h;obtain⟨_,l⟩:=qBc.1 h;have q:=Zz h a;rw[<-hm]at q;simp[h1,c,h,l,q];intro v';refine .inl ?_;rw[hm,qf7 _ h];rfl
 ·rintro⟨v,m⟩ hm;simp only at hm;rw[qBm]at hm;simp;refine du m (by simp) ?_;rw[hm,aV,if_neg b];rfl
abbrev s_leaves:Spc:=qmW qgU i_leavesA
abbrev sM:Spc:=aA (a1 Pat) (λx=>(am x).length<=100000000) (enc (X:=List Pat)) λx y=>y=if fk aB x then am x else[]
def Ra(h1:S rU=fC)(h2:S fO=s_leaves):aq wn vC S (a1 Pat) (λx=>(am x).length<=100000000) (enc (X:=List Pat)) λx y=>y=if fk aB x then am x else[]:=by
 rintro p hp;have a:qd3 p []:=by unfold qd3;simpa using hp
 simp[wn,vC,h1,h2,-fB'];clear h1 h2;exact⟨λh=>br [] (by simp) (by rw[h];rfl),λh=> .inl ⟨a,λv=>br (am p) (fM bB (by simp)) (by rw[h];rfl)⟩⟩
abbrev FN:Spc:=aA (a1 Pat) (λx=>fk aB x=true) (enc (X:=Int)) λx y=>y=gw x
abbrev Zc:Spc:=aA (a1 Pat) (λ_=>True) (enc (X:=Int)) λx y=>y=if fk aB x then gw x else 0
abbrev Vt:Spc:=aA (a1 Pat) (λx=>fk aB x=true) (lH (Y:=Int) (Z:=Int)) λx y=>y=cq x
abbrev Lg:Spc:=aA (a1 Pat) (λ_=>True) (lH (Y:=Int) (Z:=Int)) λx y=>y=if fk aB x then cq x else(0,0)
abbrev qeQ:Spc:=aA (a1 Cond) (λ_=>True) (enc (X:=Bool)) λx y=>(y=true↔x=pi)
def Rk:aq wx vK S (a1 Cond) (λ_=>True) (enc (X:=Bool)) λx y=>(y=true↔x=pi):=by
 rintro⟨op,n,a,v,l,f,ks⟩ -;simp[wx,vK,pi]
 repeat' first|apply And.intro|intro _
 all_goals simp_all
abbrev RS:Spc:=aA (a1 Pat) (λ_=>True) (enc (X:=Bool)) λx y=>y=nG x
def Rm(h1:S yS=qeQ):aq wz vM S (a1 Pat) (λ_=>True) (enc (X:=Bool)) λx y=>y=nG x:=by
 rintro p -;simp[wz,vM,h1,-fB'];clear h1
 repeat' first|apply And.intro|intro _
 all_goals (rw[qBK,pQ];unfold qt;simp_all;try omega)
abbrev FR:Spc:=aA (a1 Pat) (λ_=>True) (enc (X:=Bool)) λx y=>y=mM aB x
def OA(h1:S bC=mX):aq uu tw S (a1 Pat) (λ_=>True) (enc (X:=Bool)) λx y=>y=mM aB x:=by
 rintro p -;simp[uu,tw,h1,mM,-fB'];clear h1
 repeat' first|apply And.intro|intro _
 all_goals (first|omega|simp_all;try omega)
abbrev AK:Spc:=aA (a1 Pat) (λ_=>True) (enc (X:=Bool)) λx y=>y=nE x
def LB:aq sq rL S (a1 Pat) (λ_=>True) (enc (X:=Bool)) λx y=>y=nE x:=by
 rintro p -;simp[sq,rL,nE]
 repeat' first|apply And.intro|intro _
 all_goals (first|omega|(rw[qBK];simp;omega))
theorem Rl(n:Nat)(h1:S kK=RR n):aq wy vL S (a1 Pat) (PPat (n+1)) (enc (X:=Int)) λx y=>y=gw x:=by
 rintro p hp;have hk:∀k∈p.kids,PPat n k:=λk=>hp.kid
 have hs:∀k∈p.kids,0<=gw k/\gw k<=1000:=λk h=>PO (v:=aB) k (hk k h).2
 simp[wy,vL];intro _;refine ah (X:=Int) [1,7] [] p.kids.length (λk n=>n=eM (p.kids.take k) 0) (λn=>[(3,enc n)]) (λ_=>[]) 0 (by simp[eM]) ?_ ?_
 ·rintro k m b a;obtain⟨x,d⟩:=aY b;have c:=aP d;obtain⟨_,j⟩:=qBc.1 d;have hm:=pp (p.kids.take k) 0 (by omega) (by omega) (λy l=>(hs y (qBx l)).1);have h2:=hs x c;rw[<-a]at hm;have q:=hk x c;simp[h1,b,d,j,q];refine⟨by simp only[InR];omega,?_⟩;rw[au d,L5,<-a,eM,eM]
 ·rintro m a;have hm:=pp (p.kids.take p.kids.length) 0 (by omega) (by omega) (λy l=>(hs y (qBx l)).1);rw[<-a]at hm;rw[qBm]at a;have hn:=(gE hp.2).2.2;unfold nE at hn;rw[decide_eq_true_eq]at hn;rw[mV,AJ,<-a];simp;intro _;refine⟨λh=>λr=>absurd h r,λh0=>⟨λh6=>?_,λh6=>by rw[if_neg h0,if_neg h6]⟩⟩;rw[if_neg h0,if_pos h6];have hn:=hn h6;refine⟨λe=>by rw[if_neg (by omega),if_pos e],λe=>⟨λs=>?_,λs=>?_⟩⟩
  ·have h2:=uZ hm.1 hm.2 (show 0<=p.mn+1 by omega) (show p.mn+1<=17 by omega);rw[if_pos (by omega)];exact⟨by simp only[InR];omega,by simp only[InR];omega,rfl⟩
  ·have h2:=uZ hm.1 hm.2 (show 0<=p.mx by omega) (show p.mx<=16 by omega);rw[if_neg (by omega),if_neg e];exact⟨by simp only[InR];omega,rfl⟩
def Ro(h1:S lO=fC)(h2:S kK=FN):aq wB vO S (a1 Pat) (λ_=>True) (enc (X:=Int)) λx y=>y=if fk aB x then gw x else 0:=by
 rintro p -;simp[wB,vO,h1,h2,-fB'];exact⟨λh1 h2=>absurd (h1.symm.trans h2) (by simp),λh1=>⟨h1,λh2=>absurd (h2.symm.trans h1) (by simp)⟩⟩
def OF(h1:S lO=fC)(h2:S lN=Vt):aq uy tC S (a1 Pat) (λ_=>True) (lH (Y:=Int) (Z:=Int)) λx y=>y=if fk aB x then cq x else(0,0):=by
 rintro p -;simp[uy,tC,h1,h2,lH,-fB'];exact⟨λh1 h2=>absurd (h1.symm.trans h2) (by simp),λh1=>⟨h1,λh2=>absurd (h2.symm.trans h1) (by simp)⟩⟩
theorem Ox(n:Nat)(h1:S lN=qaH n):aq gO gA S (a1 Pat) (PPat (n+1)) (lH (Y:=Int) (Z:=Int)) λx y=>y=cq x:=by
 rintro p hp;have hk:∀k∈p.kids,PPat n k:=λk=>hp.kid
 have hs:∀k∈p.kids,lW (cq k):=λk h=>Q3 (v:=aB) k (hk k h).2
 have hn:=(gE hp.2).2.2;unfold nE at hn;rw[decide_eq_true_eq]at hn;rcases B7 (gE hp.2).1 with⟨ho,_⟩|⟨ho,_⟩|⟨ho,b,ks,a⟩|⟨ho,b,a⟩
 ·simp[gO,gA,h1,ho,qld ho]
 ·have:=qlc ho;rcases ho with ho|ho<;>simp[gO,gA,h1,ho,this]
 ·have hc:p.op≠1/\p.op≠2/\p.op≠3/\p.op≠6:=by omega
  have E:=hk b (by rw[a];simp);have c:=hs b (by rw[a];simp);simp[gO,gA,h1,hc,lH,a,E];refine⟨by omega,λ_=>?_⟩;refine ah (X:=Int×Int) [1,69] [] ks.length (λk w=>w=td (decide (p.op=4)) (ks.take k) (cq b)/\lW w) (λw=>[(6,enc w.1),(7,enc w.2)]) (λ_=>[]) (cq b) (by simp[td,c]) ?_ ?_
  ·rintro k w l ⟨q,d⟩;obtain⟨x,A⟩:=aY l;have s:x∈p.kids:=by rw[a];exact qCI _ (aP A)
   obtain⟨_,F⟩:=qBc.1 A;have L:=hk x s;have C:=hs x s;have key:∀r:Int×Int,r=qec (decide (p.op=4)) w (cq x)->r=td (decide (p.op=4)) (ks.take (k+1)) (cq b)/\lW r:=by
    intro r I;rw[au A,qcj,td,td,<-q];exact⟨I,by rw[I];exact qau d C⟩
   simp[h1,l,A,F,L,lH];clear h1;generalize cq x=u at C key;obtain⟨N,O⟩:=u;obtain⟨Q,U⟩:=w;unfold lW at C d;simp only at C d;clear q;refine⟨λt=>⟨λh4=>⟨by simp only[InR];omega,by simp only[InR];omega,λj=>key _ ?_,λj=>key _ ?_⟩,λh4=>⟨λj=>key _ ?_,λj=>key _ ?_⟩⟩,λt=>⟨λh4=>⟨by simp only[InR];omega,by simp only[InR];omega,key _ ?_⟩,λh4=>key _ ?_⟩⟩
   all_goals clear key
   all_goals (try simp only at t)
   all_goals (try simp only at j)
   all_goals (unfold qec;simp[h4];try omega)
  ·rintro w ⟨J,_⟩;simp[lH];rw[qlb ho a];rw[qBm]at J;rw[<-J]
 ·have E:=hk b (by rw[a];simp);have c:=hs b (by rw[a];simp);have hn:=hn ho;simp[gO,gA,h1,ho,a,E,lH];rw[qla ho a];generalize cq b=w at c;unfold lW at c;have h2:=uZ c.1 c.2.1 hn.1 hn.2.1;refine⟨by simp only[InR];omega,λt=>⟨λj=>by rw[if_pos (.inr j)],λj=>⟨λM=>⟨λK=>?_,λK=>?_⟩,λM=>?_⟩⟩,λt=>by rw[if_pos (.inl t)]⟩
  ·rw[if_neg (by omega),if_pos (by omega)]
  ·have h3:=uZ K c.2.2.2 (show 0<=p.mx by omega) (show p.mx<=16 by omega);refine⟨by simp only[InR];omega,?_⟩;rw[if_neg (by omega),if_neg (by omega)]
  ·rw[if_neg (by omega),if_pos (by omega)]
def FunOnP{X Y:Type}[Cod X][Cod Y](S:Nat->Spc)(d:D)(l:List X)(p:X->Y):Prop:=
 ∃g caps a,d= .clo g caps/\S g= .pure a/\∀x∈l,a.pre (enc x::caps)/\∀r,a.post (enc x::caps) r->r=enc (p x)
def FunOnP.useB{X:Type}[Cod X]{S:Nat->Spc}{d:D}{l:List X}{p:X->Bool}(h:FunOnP S d l p)(x:X)(b:x∈l){c:Nat}{H:ab}{K:D->ab->Prop}(hk:∀y:Bool,(∀q,FunOnP S d l q->y=q x)->K (.v (.bool y)) H):BJ S d c [enc x] H K:=by
 obtain⟨g,caps,t,rfl,h1,h2⟩:=h;simp only[BJ,h1,Spc.pt];refine⟨(h2 x b).1,λr j=>?_⟩;have e:=(h2 x b).2 r j;rw[e];refine hk (p x) λq k=>?_
 obtain⟨u,a,s,w,A,C⟩:=k;grind [cS]
def FunIs.on{X Y:Type}[Cod X][Cod Y]{S:Nat->Spc}{d:D}{p:X->Y}(h:FunIs S d p)(l:List X):FunOnP S d l p:=by
 grind [FunOnP,FunIs]
def IL{X Y:Type}[Cod X][Cod Y]{S:Nat->Spc}{g:Nat}{c:D}{l:List X}{pre:X×D×Unit->Prop}{post:X×D×Unit->Y->Prop}{p:X->Y}(h:S g=aA (aE X (aD a0)) pre enc post)(hp:∀x∈l,pre (x,c,()))(d:∀x∈l,∀y,post (x,c,()) y->y=p x):FunOnP S (.clo g [c]) l p:=by
 refine⟨g, [c],_,rfl,h,λx a=>⟨⟨(x,c,()),by simp,hp x a⟩,λr b=>?_⟩⟩;obtain⟨y,rfl,j⟩:=b (x,c,()) (by simp) (hp x a);grind
def qbd(x:Pat):D.agg [D.v (Value.int IntKind.i64 x.op),D.v (Value.int IntKind.i64 x.cond.op),D.v (Value.string x.cond.name),D.v (Value.string x.cond.arg),D.v (Value.string x.cond.val),D.v (Value.string x.cond.lab),D.v (Value.bool x.cond.fold),D.list 7 (List.map enc x.cond.kids),D.v (Value.string x.lab),D.v (Value.string x.reg),D.v (Value.int IntKind.i64 x.mn),D.v (Value.int IntKind.i64 x.mx),D.list 13 (List.map enc x.kids)]=enc x:=by simp
def Ub(S0:Nat->Spc)(x:List Pat×D×Unit):Prop:=∃p:Pat->Bool,FunOnP S0 x.2.1 x.1 p
def TZ(S0:Nat->Spc)(x:List Pat×D×Unit)(y:Int):Prop:=∀p:Pat->Bool,FunOnP S0 x.2.1 x.1 p->y=nK x.1 p
abbrev qmA(S0:Nat->Spc):Spc:=aA (aE (List Pat) (aD a0)) (Ub S0) enc (TZ S0)
def te:aq eQ eN S (aE (List Pat) (aD a0)) (Ub S) enc (TZ S):=by
 rintro⟨l,d,⟨⟩⟩ ⟨p,hp⟩;simp at hp;simp[eQ,eN];intro _;refine ah (X:=Unit) [0,1] [] l.length (λk _=>∀p:Pat->Bool,FunOnP S d l p->∀x∈l.take k,p x=false) (λ_=>[]) (λ_=>[]) () (by simp) ?_ ?_
 ·intro k _ hk b;simp;refine⟨hk,λx a=>?_⟩;rw[qbd x];refine hp.useB x (aP a) λy j=>?_
  simp;refine⟨λh=>?_,λh q c=>?_⟩;grind [TZ,sR]
  ·rw[au a];grind
 ·intro _ b;simp;grind [TZ,kH]
def qh4(S0:Nat->Spc)(x:List Pat×D×Unit)(y:Bool):Prop:=∀p:Pat->Bool,FunOnP S0 x.2.1 x.1 p->y=x.1.any p
abbrev RZ(S0:Nat->Spc):Spc:=aA (aE (List Pat) (aD a0)) (Ub S0) enc (qh4 S0)
def qP(h1:S jQ=qmA S0):aq dM dF S (aE (List Pat) (aD a0)) (Ub S0) enc (qh4 S0):=by
 rintro⟨l,d,⟨⟩⟩ hp;simp[dM,dF,h1,-fB'];refine⟨hp,λy b c a=>?_⟩;rw[b c a];grind [Spc,Cb]
abbrev PU(n:Nat):Spc:=aA (a2 Pat Int) (λx=>dJ x.1<=n/\0<=x.2/\x.2<=101) (enc (X:=Bool)) λx y=>y=ct x.1 x.2
def qlY(n:Nat)(x:Pat×D×Unit):Prop:=∃d:Int,x.2.1= .cptr [enc d] 0/\dJ x.1<=n/\0<=d/\d<=100
def qhZ(x:Pat×D×Unit)(y:Bool):Prop:=∀d:Int,x.2.1= .cptr [enc d] 0->y=!ct x.1 (d+1)
abbrev qeZ(n:Nat):Spc:=aA (aE Pat (aD a0)) (qlY n) enc qhZ
def Fd(n:Nat)(h1:S iL=PU n):aq mA mf S (aE Pat (aD a0)) (qlY n) enc qhZ:=by
 rintro⟨p,d,⟨⟩⟩ ⟨e,a,h2,h3,h4⟩;simp at a h2;subst a;simp[mA,mf,h1,qhZ,h2,-fB'];grind [Spc,InR]
def Ka(n:Nat)(h0:S0 fQ=qeZ n)(h1:S aM=RZ S0):aq qi py S (a2 Pat Int) (λx=>dJ x.1<=n+1/\0<=x.2/\x.2<=101) (enc (X:=Bool)) λx y=>y=ct x.1 x.2:=by
 rintro⟨p,d⟩ ⟨hn,a,b⟩;have hk:∀k∈p.kids,dJ k<=n:=λk hk=>by have:=jN hk;grind
 simp only at a b;simp[qi,py,h1,-fB'];rw[mL];refine⟨λh=>?_,λh=>by grind⟩;have j:FunOnP S0 (.clo fQ [.cptr [.v (.int .i64 d)] 0]) p.kids λx=>!ct x (d+1):=
  IL h0 (λx l=>⟨d,rfl,hk x l,a,h⟩) (λx _ y c=>c d rfl)
 refine⟨⟨_,j⟩,λy c=>?_⟩;rw[c _ j,decide_eq_true h,qCu];grind
def ql0(S0:Nat->Spc)(n:Nat)(x:Pat×D×Unit):Prop:=∃(d:D) (f:Pat->Bool),x.2.1= .cptr [d] 0/\FunIs S0 d f/\dJ x.1<=n
def qh0(S0:Nat->Spc)(x:Pat×D×Unit)(y:Bool):Prop:=∀(d:D) (f:Pat->Bool),x.2.1= .cptr [d] 0->FunIs S0 d f->y=!bX f x.1
abbrev qaU(S0:Nat->Spc)(n:Nat):Spc:=aA (aE Pat (aD a0)) (λx=>∃f:Pat->Bool,FunIs S0 x.2.1 f/\dJ x.1<=n) enc λx y=>∀f:Pat->Bool,FunIs S0 x.2.1 f->y=bX f x.1
abbrev qfc(S0:Nat->Spc)(n:Nat):Spc:=aA (aE Pat (aD a0)) (ql0 S0 n) enc (qh0 S0)
def Kf(n:Nat)(h1:S gd=qaU S0 n):aq qk pA S (aE Pat (aD a0)) (ql0 S0 n) enc (qh0 S0):=by
 rintro⟨p,d,⟨⟩⟩ ⟨e,f,a,h2,h3⟩;simp at a h3;subst a;simp[qk,pA,h1,qh0,h3,-fB'];grind
theorem OB{N:Nat->Spc}(n:Nat)(j:∀(d:D) (f:Pat->Bool),FunIs N d f->FunIs S d f)(h0:S0 iN=qfc N n)(h1:S aM=RZ S0):aq uv tz S (aE Pat (aD a0)) (λx=>∃f:Pat->Bool,FunIs N x.2.1 f/\dJ x.1<=n+1) enc λx y=>∀f:Pat->Bool,FunIs N x.2.1 f->y=bX f x.1:=by
 rintro⟨p,d,⟨⟩⟩ ⟨f,a,hn⟩;have hk:∀k∈p.kids,dJ k<=n:=λk hk=>by have:=jN hk;grind
 simp at a;have h:d.kn=true/\d.cells=[d]:=by obtain⟨g,caps,s,rfl,_⟩:=a;simp
 simp[uv,tz,h1,h,-fB'];rw[qbd p];refine((j d f a).on [p]).useB p (by simp) λy c=>?_
 have c:∀f,FunIs N d f->y=f p:=λf a=>c f ((j d f a).on [p])
 simp[h1,-fB'];refine⟨λl=>?_,λq g b=>by grind [cH]⟩;have hO:∀g,FunIs N d g->FunOnP S0 (.clo iN [.cptr [d] 0]) p.kids λx=>!bX g x:=λg b=>
  IL h0 (λx r=>⟨d,g,rfl,b,hk x r⟩) (λx _ y c=>c d g rfl b)
 refine⟨⟨_,hO f a⟩,λz hz g b=>?_⟩;rw[hz _ (hO g b),cH,<-c g b,l,qCu];grind
abbrev L7:Spc:=aA (a2 Pat Int) (λx=>0<=x.2/\x.2<=101) (enc (X:=Bool)) λx y=>y=ct x.1 x.2
abbrev FX(N:Nat->Spc):Spc:=aA (aE Pat (aD a0)) (λx=>∃f:Pat->Bool,FunIs N x.2.1 f) enc λx y=>∀f:Pat->Bool,FunIs N x.2.1 f->y=bX f x.1
abbrev RY:Spc:=aA (a1 Pat) (λ_=>True) (enc (X:=Bool)) λx y=>y=(ct x 1 && bX nG x)
def Bg{X:Type}[Cod X]{S:Nat->Spc}{g:Nat}{pre:X->Prop}{p:X->Bool}(h:S g=aA (a1 X) pre enc λx y=>y=p x)(hp:∀x,pre x):FunIs S (.clo g []) p:=by
 refine⟨g, [],_,rfl,h,λx=>⟨⟨x,by simp,hp x⟩,λr a=>?_⟩⟩;simp_all
def OG{N:Nat->Spc}(h0:N kL=RS)(h1:S iL=L7)(h2:S gd=FX N):aq uz tD S (a1 Pat) (λ_=>True) (enc (X:=Bool)) λx y=>y=(ct x 1 && bX nG x):=by
 rintro p -;have f1:FunIs N (.clo kL []) nG:=Bg h0 λ_=>trivial
 simp[uz,tD,h1,h2,-fB'];grind
def Oy{N:Nat->Spc}(h0:N eS=FR)(a:N ed=AK)(h1:S qK=RY)(h2:S gd=FX N):aq ur tv S (a1 Pat) (λ_=>True) (enc (X:=Bool)) λx y=>y=fk aB x:=by
 rintro p -;have f1:FunIs N (.clo eS []) (mM aB):=Bg h0 λ_=>trivial
 have b:FunIs N (.clo ed []) nE:=Bg a λ_=>trivial
 simp[ur,tv,h1,h2,-fB'];grind [fk,ct]
end
section
mutual
def uP:Pat->Nat| .mk op _ _ _ mn _ ks=>if ks=[]then 1 else if op=6 then(max 1 mn).toNat*sH ks else sH ks
def sH:List Pat->Nat|[]=>0|k::ks=>uP k+sH ks
end
def vn(p:Pat):uP p=if p.kids=[]then 1 else if p.op=6 then(max 1 p.mn).toNat*sH p.kids else sH p.kids:=by cases p;unfold uP;rfl
def B4(a b:List Pat):bQ (a++b)=bQ a+bQ b:=by
 induction a with
 |nil=>simp[bQ]
 |cons k a c=>simp only[qCd,bQ];omega
def XI(p:Pat):1<=uP p:=by
 induction p using fh with|_ p a=>?_
 rw[vn];split
 ·omega
 ·rename_i h;have:1<=sH p.kids:=by
   rcases hk:p.kids with _|⟨k,ks⟩
   ·exact absurd hk h
   ·rw[sH];have:=a k (by rw[hk];simp);omega
  split
  ·exact Nat.mul_pos (by omega) this
  ·exact this
theorem ql6{lb:List B} :∀n p,WP lb n p->uP p<=2^n:=by
 refine HF λn p hp h=>?_
 rw[vn];rcases wO hp with(⟨h1,h2,h3,h4,h5,h6⟩|⟨h1,h2,h3,h4,h5,h6,c⟩)|⟨m,rfl,(⟨h1,h2,h3,h4,h5,h6,a,b,c,_⟩|⟨h1,h2,h3,h4,h5,a,c,_⟩)⟩
 ·rw[if_pos h6];exact Nat.one_le_two_pow
 ·rw[if_pos c];exact Nat.one_le_two_pow
 ·obtain⟨j,d,_,a1⟩:=h a (by rw[c];simp);obtain⟨l,k,_,a2⟩:=h b (by rw[c];simp);have d:j=m:=by omega
  have k:l=m:=by omega
  subst d;subst k;rw[c,if_neg (by simp),if_neg (by omega),Nat.pow_succ];simp only[sH];omega
 ·obtain⟨j,d,_,a1⟩:=h a (by rw[c];simp);have d:j=m:=by omega
  subst d;rw[c,if_neg (by simp),if_pos h1,Nat.pow_succ];simp only[sH];have:(max 1 p.mn).toNat<=2:=by
   simp[Ym]at h5;omega
  have:=Nat.mul_le_mul this a1;rw[qCC];omega
open Cod (enc dec)
variable {S S0:Nat->Spc}
def qci{a:Sg}{H:ab}{k j b el n:Nat}{cs cs':List D}(l:j≠k)(hk:H k=some (.box b cs))(hl:cs.length=cs'.length)(hc:∀(m:Nat) (c c':D),cs[m]? =some c->cs'[m]? =some c'->FrzTo cX c c'):
 Wk a H a (ak (ak H k (some (.box b cs'))) j (some (.row (.slice none 0 0) el n []))):=by
 refine Yv (Hf:=cX) id (λt=> .same _) (λi r h=>?_) (λi j r s _ _ e=> .inl e) (λi r h=>by simp_all);by_cases e:i=j
 ·subst e;simp[ak]at h;subst h;exact .inr ⟨rfl,rfl⟩
 ·by_cases d:i=k
  ·subst d;simp[ak,e]at h;subst h;exact .inl ⟨_,hk, .inr ⟨rfl,hl,hc⟩⟩
  ·simp only[ak,e,d,if_false]at h;exact .inl ⟨r,h, .inl rfl⟩
def KO:Nat->Cond->Prop
 | 0,_=>False
 |n+1,x=>x.kids.length<=1000000/\∀k∈x.kids,KO n k
abbrev VK(n:Nat):Spc:=aA (a1 Cond) (KO n) (enc (X:=Cond)) λx y=>y=x
theorem LE(n:Nat)(h1:S jV=VK n):aq sr rM S (a1 Cond) (KO (n+1)) (enc (X:=Cond)) λx y=>y=x:=by
 rintro⟨op,name,arg,val,lab,fold,kids⟩ ⟨hlen,hk⟩;simp only at hlen hk;simp[sr,rM];intro b2 p t;refine H4 (qci (k:=3) (j:=20) (b:=p) (el:=gW) (n:=7) (cs':=[.v (.int .i64 op), .v (.string name), .v (.string arg), .v (.string val), .v (.string lab), .v (.bool fold), .own 20 (.slice none 0 0)]) (by decide) (by rfl) (by simp) ?_) ?_
 ·intro m c c' hc d
  match m with
  | 0|1|2|3|4|5=>simp_all
  | 6=>simp at hc d;subst hc;subst d;exact .nilown _
  |m+7=>simp at hc
 refine ah (X:=Value×List Cond) [2,9] [2] kids.length (λk x=>x.2=kids.take k) (λx=>[(3, .bptr 3 p 0)]) (λx=>[(3, .box p [.v (.int .i64 op), .v (.string name), .v (.string arg), .v (.string val), .v (.string lab), .v (.bool fold), .own 20 x.1]),(20, .row x.1 gW 7 (x.2.map enc))]) (.slice none 0 0, []) (by simp) ?_ ?_
 ·rintro k ⟨v,m⟩ a hm;simp only at hm;obtain⟨x,q⟩:=aY a;obtain⟨_,r⟩:=qBc.1 q;have s:=hk x (aP q);have u:m.length=k:=by grind
  simp[h1,a,q,r,s];refine⟨by omega,by omega,λv=> .inl (.inl ?_)⟩;simp_all [qB8]
 ·rintro⟨v,m⟩ hm;simp only at hm;rw[qBm]at hm;subst hm;simp;refine br (Y:=Cond) ⟨op,name,arg,val,lab,fold,m⟩ ?_ rfl;simp;refine .agg (by simp) λi c c' h l=>?_
  match i with
  | 0|1|2|3|4|5=>simp at h l;subst h;subst l;exact .same _
  | 6=>simp at h l;subst h;subst l;exact fM gW (by simp)
  |i+7=>simp at h
def qAY{H:ab}{l a:List D}(h:FzL H l a):FrzTo H (.agg l) (.agg a):= .agg h.get.1 h.get.2
abbrev P4:Spc:=aA (a1 Cond) (λx=>∃n,KO n x) (enc (X:=Cond)) λx y=>y=x
def ug(p:Pat):Pat:=⟨p.op,p.cond,p.lab,⟨#[]⟩,0,0, []⟩
abbrev RV:Spc:=aA (a1 Pat) (λp=>∃n,KO n p.cond) (enc (X:=Pat)) λx y=>y=ug x
def OC(h1:S jV=P4):aq uw tA S (a1 Pat) (λp=>∃n,KO n p.cond) (enc (X:=Pat)) λx y=>y=ug x:=by
 rintro p hp;simp[uw,tA,h1,hp];intro b;refine br (Y:=Pat) (ug p) ?_ rfl;simp[ug,qAY]
def bN(p:Pat):List Pat:=(am p).map ug
def yI(p:Pat):bN p=if p.op=1 then[ug p]else p.kids.flatMap bN:=by
 unfold bN;grind [aV,List.map_flatMap]
def PLc(p:Pat):Prop:=∀y∈am p,∃n,KO n y.cond
def PLc.kid{p k:Pat}(h:PLc p)(a:¬p.op=1)(hk:k∈p.kids):PLc k:=λy b=>h y (by rw[aV,if_neg a];grind)
theorem qf9{ks:List Pat}{k:Nat}{x:Pat}(l:List Pat)(a:ks[k]? =some x):(l++ (ks.take k).flatMap bN) ++bN x=l++ (ks.take (k+1)).flatMap bN:=by
 rw[au a,qC5,List.flatMap_singleton,qB7]
def qd4(x:Pat)(l:List Pat):Prop:=l.length+ (am x).length<=100000000/\PLc x
theorem qne(ks:List Pat):(ks.flatMap bN).length=(ks.flatMap am).length:=by
 simp[bN]
def qf8{ks:List Pat}{k:Nat}{x:Pat}{l:List Pat}(a:ks[k]? =some x)(h:l.length+ (ks.flatMap am).length<=100000000)(hc:PLc x):qd4 x (l++ (ks.take k).flatMap bN):=by
 have:=Zz a h;grind [qd4,qd3,qne]
abbrev Qx(n:Nat):Spc:=qil (X:=Pat) (Y:=Pat) (λx l=>dJ x<=n/\qd4 x l) (λx l r=>r=l++bN x) bB 13
abbrev i_leavesQA:Spc:=qil (X:=Pat) (Y:=Pat) (λx l=>qd4 x l) (λx l r=>r=l++bN x) bB 13
theorem LC(n:Nat)(h1:S ee=Qx n)(h2:S qJ=RV):N0 (X:=Pat) (Y:=Pat) iO iC S (λx l=>dJ x<=n+1/\qd4 x l) (λx l r=>r=l++bN x) bB 13:=by
 rintro v l p ⟨hp,hl,hc⟩;have hk:∀k∈p.kids,dJ k<=n:=λk hk=>by have:=jN hk;omega
 have a:=hl;rw[aV]at a;simp[iO,iC,h2];refine⟨λh1=>?_,λb _=>?_⟩
 ·have j:∃n,KO n p.cond:=hc p (by simp_all [aV]);simp[h1]at a;exact⟨j,by omega,by omega,λv=>du (l++bN p) (by simp[yI,h1]) rfl⟩
 rw[if_neg b]at a;refine ah (X:=Value×List Pat) [16] [] p.kids.length (λk x=>x.2=l++ (p.kids.take k).flatMap bN) (λx=>[(1, .own 1 x.1)]) (λx=>[(1, .row x.1 bB 13 (x.2.map enc))]) (v,l) (by simp) ?_ ?_
 ·rintro k ⟨v,m⟩ c hm;simp only at hm;obtain⟨x,h⟩:=aY c;have d:=aP h;obtain⟨_,q⟩:=qBc.1 h;have s:=qf8 h a (hc.kid b d);rw[<-hm]at s;have t:=hk x d;simp[h1,c,h,q,s,t];grind [qf9]
 ·rintro⟨v,m⟩ hm;simp only at hm;rw[qBm]at hm;simp;refine du m (by simp) ?_;rw[hm,yI,if_neg b]
abbrev qdB:Spc:=qo6 (Y:=Pat) (aE Pat (aD a0)) (λx=>x.2.1=Qm/\qd4 x.1 []) (λx r=>r=bN x.1) bB 13
theorem Kb(h1:S ee=i_leavesQA)(h2:S qJ=RV):Yj (Y:=Pat) iO iC S (aE Pat (aD a0)) (λx=>x.2.1=Qm/\qd4 x.1 []) (λx r=>r=bN x.1) bB 13:=by
 rintro⟨p,d,⟨⟩⟩ ⟨j,hl,hc⟩;have j:d=Qm:=j;subst j;have a:([]:List Pat).length+ (am p).length<=100000000:=hl;rw[aV]at a;simp[iO,iC,h2];refine⟨λh1=>⟨hc p (by simp_all [aV]),λv=>du (bN p) (by simp[yI,h1]) rfl⟩,λb _=>?_⟩;rw[if_neg b]at a;refine ah (X:=Value×List Pat) [16] [] p.kids.length (λk x=>x.2=[] ++ (p.kids.take k).flatMap bN) (λx=>[(1, .own 1 x.1)]) (λx=>[(1, .row x.1 bB 13 (x.2.map enc))]) (.slice none 0 0, []) (by simp) ?_ ?_ (hh:=by simp[isNilRow])
 ·rintro k ⟨v,m⟩ c hm;simp only at hm;obtain⟨x,h⟩:=aY c;have l:=aP h;obtain⟨_,q⟩:=qBc.1 h;have s:=qf8 h a (hc.kid b l);rw[<-hm]at s;simp[h1,c,h,q,s];grind [qf9]
 simp_all [du,yI]
abbrev s_leavesQ:Spc:=qmW qdB i_leavesQA
abbrev AL:Spc:=aA (a1 Pat) (λx=>qd4 x []) (enc (X:=List Pat)) λx y=>y=if fk aB x then bN x else[]
def lG(out:List B)(x:B):List B:=if x=E0 then out else BT out x
mutual
def bv:Pat->List B->List B
 | .mk op c l r mn mx ks,out=>SX ks (lG out l)
def SX:List Pat->List B->List B
 | [],out=>out
 |k::ks,out=>SX ks (bv k out)
end
def JR:∀(l:List Pat) (out:List B),SX l out=l.foldl (λo k=>bv k o) out
 | [],out=>by rfl
 |k::l,out=>by rw[SX,JR l];rfl
def nJ(p:Pat)(out:List B):bv p out=p.kids.foldl (λo k=>bv k o) (lG out p.lab):=by
 cases p;rw[bv,JR]
def Ht(out:List B)(x:B):(lG out x).length<=out.length+1:=by
 grind [lG,BT]
theorem qdi(p:Pat):∀out,(bv p out).length<=out.length+eY p:=by
 induction p using fh with|_ p a=>?_
 intro out;rw[nJ,eP];have:∀(ks:List Pat) (o:List B),(∀k∈ks,k∈p.kids)->(ks.foldl (λo k=>bv k o) o).length<=o.length+bQ ks:=by
  intro ks
  induction ks<;>grind [bQ]
 have h1:=this p.kids (lG out p.lab) λ_ h=>h
 have h2:=Ht out p.lab;omega
def Qu(ks:List Pat)(k:Nat)(lb:List B):((ks.take k).foldl (λo k=>bv k o) lb).length<=lb.length+bQ (ks.take k):=by
 generalize ks.take k=l
 induction l generalizing lb<;>grind [bQ,qdi]
def qgq(l:List B)(x:B):Bool:=l.any λz=>decide (z=x)
theorem Nf{l:List B}{x:B} :qgq l x=true↔x∈l:=by
 unfold qgq;simp
abbrev s_hasE:Spc:=aA (aE (List B) (a1 B)) (λ_=>True) (enc (X:=Bool)) λx y=>y=qgq x.1 x.2
abbrev qr6:Spc:=qvj (Y:=B) (a1 B) (λ_=>True) (enc (X:=Bool)) (λx y=>y=qgq x.1 x.2) av 1
def Dv(h1:S dx=RU):aq cw cv S (aE (List B) (a1 B)) (λ_=>True) (enc (X:=Bool)) λx y=>y=qgq x.1 x.2:=by
 rintro⟨l,x⟩ -;simp[cw,cv,h1];exact Cb _ l
abbrev s_has2:Spc:=qmW s_hasE qr6
def qk0(x:Pat)(l:List B):Prop:=l.length+eY x<=1000000
def qsh(x:Pat)(l r:List B):Prop:=r=bv x l
abbrev WJ(n:Nat):Spc:=qil (X:=Pat) (Y:=B) (λx l=>dJ x<=n/\qk0 x l) qsh av 1
abbrev i_labelsA:Spc:=qil (X:=Pat) (Y:=B) qk0 qsh av 1
theorem LD(n:Nat)(h0:S aS=s_has2)(h1:S eh=WJ n):N0 (X:=Pat) (Y:=B) iP iD S (λx l=>dJ x<=n+1/\qk0 x l) qsh av 1:=by
 rintro v lb p ⟨y,hl⟩;have hk:∀k∈p.kids,dJ k<=n:=λk h=>by have:=jN h;omega
 have hl:lb.length+eY p<=1000000:=hl;have q:=eP p;simp[iP,iD,h0];refine ba (X:=Value) [2] [] (λ_=>True) (λv=>[(1, .own 1 v)]) (λv=>[(1, .row v av 1 ((lG lb p.lab).map enc))]) ?_ ?_
 ·simp[h0,-fB'];refine⟨λhn=>?_,λhe=>?_⟩
  ·have hn:¬p.lab=E0:=hn;refine .inr ⟨λA=>⟨by omega,by omega,λv=> .inl ?_⟩,λC=> .inl ?_⟩
   ·rw[lG,if_neg hn,BT,if_neg (λh=>by grind [Nf])];simp
   simp_all [lG,BT,Nf]
  ·have he:p.lab=E0:=he;simp_all [lG]
 ·rintro v -;have r:=Ht lb p.lab;simp;intro s;refine ah (X:=Value×List B) [23] [] p.kids.length (λk x=>x.2=(p.kids.take k).foldl (λo k=>bv k o) (lG lb p.lab)) (λx=>[(1, .own 1 x.1)]) (λx=>[(1, .row x.1 av 1 (x.2.map enc))]) (v,lG lb p.lab) (by simp) ?_ ?_
  ·rintro k ⟨v,ls⟩ b a;simp only at a;obtain⟨x,c⟩:=aY b;obtain⟨_,d⟩:=qBc.1 c;have t:qk0 x ls:=by
    have h2:=Qu p.kids k (lG lb p.lab);rw[<-a]at h2;have h4:bQ (p.kids.take k) +bQ (p.kids.drop k)=bQ p.kids:=by rw[<-B4,qBI]
    rw[cT c,bQ]at h4;show ls.length+eY x<=_;omega
   have j:=hk x (aP c);simp[b,c,d,h1,t,j];intro v' u w;obtain rfl:u=bv x ls:=w;simp_all [au]
  ·rintro⟨v,ls⟩ a;simp only at a;rw[qBm]at a;simp;refine du ls (by simp) ?_;show ls=bv p lb;rw[nJ,a]
abbrev qgV:Spc:=qo6 (Y:=B) (aE Pat (aD a0)) (λx=>x.2.1= .v (.slice none 0 0)/\qk0 x.1 []) (λx r=>qsh x.1 [] r) av 1
theorem Ke(h0:S aS=s_has2)(h1:S eh=i_labelsA):Yj (Y:=B) iP iD S (aE Pat (aD a0)) (λx=>x.2.1= .v (.slice none 0 0)/\qk0 x.1 []) (λx r=>qsh x.1 [] r) av 1:=by
 rintro⟨p,d,⟨⟩⟩ ⟨c,hl⟩;have c:d= .v (.slice none 0 0):=c;subst c;have hl:0+eY p<=1000000:=hl;have s:=eP p;simp[iP,iD,h0];refine ba (X:=Value) [2] [] (λ_=>True) (λv=>[(1, .own 21 v)]) (λv=>[(21, .row v av 1 ((lG [] p.lab).map enc))]) ?_ ?_
 ·simp[h0,-fB'];refine⟨λhn=>?_,λhe=>?_⟩
  ·have hn:¬p.lab=E0:=hn;simp_all [Nf,lG,BT]
  ·have he:p.lab=E0:=he;simp_all [lG,isNilRow]
 ·rintro v -;have h:=Ht [] p.lab;simp;intro t;refine ah (X:=Value×List B) [23] [] p.kids.length (λk x=>x.2=(p.kids.take k).foldl (λo k=>bv k o) (lG [] p.lab)) (λx=>[(1, .own 21 x.1)]) (λx=>[(21, .row x.1 av 1 (x.2.map enc))]) (v,lG [] p.lab) (by simp) ?_ ?_
  ·rintro k ⟨v,ls⟩ b a;simp only at a;obtain⟨x,j⟩:=aY b;obtain⟨_,l⟩:=qBc.1 j;have u:qk0 x ls:=by
    have h2:=Qu p.kids k (lG [] p.lab);rw[<-a]at h2;have q:(lG [] p.lab).length<=0+1:=h;have h4:bQ (p.kids.take k) +bQ (p.kids.drop k)=bQ p.kids:=by rw[<-B4,qBI]
    rw[cT j,bQ]at h4;show ls.length+eY x<=_;omega
   simp[b,j,l,h1,u];intro v' w y;obtain rfl:w=bv x ls:=y;simp_all [au]
  ·rintro⟨v,ls⟩ a;simp only at a;rw[qBm]at a;simp;refine du ls (by simp) ?_;show ls=bv p [];rw[nJ,a]
abbrev s_qlabels:Spc:=qmW qgV i_labelsA
end
section
open Go.Proofs
section
variable {T:St3->St3->Prop}(h0:∀s,T s s)(h1:∀s t u,T s t->T t u->T s u)(r:Rn)
include h0 h1
end
open Cod (enc dec)
variable {S S0:Nat->Spc}
structure qsw (c:Corpus) (p:Pat):Prop where
 sz:qpH c
 few:c.toks.length<=170
 pat:fk aB p=true
 l3:(bv p []).length<=3
 num:eY p<=1000000
 nd:∀t∈c.texts,CT (qA6 (qfs c (bv p []) t)) p
structure qA3 (a:List Attr) (q:Qry):Prop where
 glob:q.glob=GlobE
 filts:q.filts=[]
 strat:q.strat=0
 pat:fk aB q.pat=true
 size:gw q.pat<=256
 l3:(bv q.pat []).length<=3
 num:eY q.pat<=1000000
 att:a.length<=1000
 lv:∀x∈am q.pat,qjC a (bv q.pat []) x.cond=true/\∃n,KO n x.cond
abbrev qaO(V:List Attr->Qry->Prop):Spc:=aA (a2 Qry (List Attr)) (λx=>V x.2 x.1) (enc (X:=Int)) λ_ y=>y=0
structure qsp (V:List Attr->Qry->Prop) (c:Corpus) (q:Qry):Prop where
 v:V c.attrs q
 f:qsw c q.pat

end
section

open Go.Proofs
open Cod (enc dec)
variable {S S0:Nat->Spc}



end
section
open Go.Proofs
open Cod (enc dec)
variable {S S0:Nat->Spc}

end
section
open Cod (enc dec)
variable {dq:Prop}
section
variable {X Y:Type}[Cod Y]
end
open Go.Proofs
variable {S:Nat->Spc}
end
section
open Go.Proofs Cod
variable {dq:Prop}
def cK{P:Program}{f:Nat}{A:Nat->PT}{j:PT}(h:∀n,Tri dq P f (A n))(hs:∀d ds H K,j d ds H K->∃n,A n d ds H K):Tri dq P f j:=
 λO tp w vs ds H d K a b c e g k=>(hs d ds H K k).elim λn hn=>h n O tp w vs ds H d K a b c e g hn
def qT{P:Program}{f:Nat}{A:PT}(hs:∀d ds H K,¬A d ds H K):Tri dq P f A:=λO tp w vs ds H d K a b c e g h=>absurd h (hs d ds H K)
def dC{X Y:Type}{A:fm X}{pre:Nat->X->Prop}{a:X->Prop}{er:Y->D}{post:X->Y->Prop}(b:∀x,a x->∃n,pre n x):∀d ds H K,(aA A a er post).pt d ds H K->∃n,(aA A (pre n) er post).pt d ds H K:=by
 intro d ds H K h;rw[pm]at h;cases e:A.dec ds with
 |none=>rw[e]at h;exact h.elim
 | some x=>
   rw[e]at h;obtain⟨h1,h2⟩:=h;obtain⟨n,hn⟩:=b x h1;exact⟨n,by rw[pm,e];exact⟨hn,h2⟩⟩
def bF{P:Program}{f:Nat}{X Y:Type}{A:fm X}{pre:X->Prop}{er:Y->D}{post:X->Y->Prop}(a:∀x,¬pre x):Tri dq P f (aA A pre er post).pt:=qT λd ds H K h=>by
 rw[pm]at h;cases e:A.dec ds with
 |none=>rw[e]at h;exact h.elim
 |some x=>rw[e]at h;exact a x h.1
def RG{P:Program}{f:Nat}{Y Z:Type}{A:fm Z}{er:Y->D} :Tri dq P f (qik A er λ_ _=>none).pt:=qT λd ds H K h=>by
 obtain⟨id,b',x,z,a,h1,h2,h3,h4,h5,⟨r,h6⟩,b⟩:=h;cases h6
def qjd{P:Program}{f:Nat} :Tri dq P f (qoM λ_ _ _=>none).pt:=qT λd ds H K h=>by
 obtain⟨a,b',x,c,k,r,b,h1,h2,h3,h4,h5⟩:=h;cases h4
def qyh{p:Cond}(h:bb p<=0):False:=by rw[zC]at h;omega
def Hp:TQ dq eC Lf:=
 ac (ag ae) Ee (Fm)
def Jn:TQ dq qb s_cpFold1:=qcx (S:=H7 [(eC,Lf)]) (ag (aa Hp ae)) rfl
def Jo:TQ dq qc qe5:=
 ac (ag ae) Gq (HX)
def EM:TQ dq mw qfe:=
 ac (ag (aa Jo ae)) CE (DD rfl)
def Jj:TQ dq da qe6:=
 ac (ag (aa EM ae)) F8 (HI rfl)
def lS:TQ dq cN qe7:=
 ac (ag (aa Jj ae)) ll (Oi rfl)
def rv:TQ dq ea qe4:=
 ac (ag (aa lS ae)) pM (Oh rfl)
def Hi:TQ dq nX VU:=
 ac (ag ae) D3 (Rv)
def K3:TQ dq rV qa0:=
 ac (ag (aa Hi ae)) Iw (YK rfl)
def xG:TQ dq eu qjh:=
 ac (ag (aa K3 (aa rv ae))) vS (wP rfl rfl)
def xM:TQ dq eu qb0:=LQ xG rfl (λ_=>qgJ (λ_ h=>by cases h))
def NO:TQ dq tP VE:=
 DK (ag (aa xM ae)) Kx (λ_=>qBg rfl) (Lt rfl)
def XQ:TQ dq Bh qeT:=
 ac (ag ae) Sj (Uo)
def cD:TQ dq bu uU:=
 fG (ag (aa FA ae)) AY (λ_=>qBg rfl) (Q5 rfl)
def CP:TQ dq lp qaF:=
 fG (ag (aa FA ae)) AX (λ_=>qBg rfl) (Q4 rfl)
def lU:TQ dq dR RP:=
 fG (ag (aa cD (aa CP ae))) uM (λ_=>qBg rfl) (Fa rfl rfl)
def Ai:TQ dq ja qeU:=
 fG (ag (aa cD (aa AF (aa lU ae)))) yy (λ_=>qBg rfl) (Lu rfl rfl rfl)
def BM:TQ dq jT qeV:=
 fG (ag (aa cD (aa Ai (aa NO ae)))) Aa (λ_=>qBg rfl) (Om rfl rfl rfl)
def CQ:TQ dq lq qaG:=
 fG (ag (aa cD (aa XQ (aa BM (aa AF (aa lU ae)))))) AZ (λ_=>qBg rfl) (Q6 rfl rfl rfl rfl rfl)
def Ah:TQ dq iZ qeS:=
 fG (ag (aa cD (aa CQ ae))) yx (λ_=>qBg rfl) (Ls rfl rfl)
def Aj:TQ dq jc qeW:=
 fG (ag (aa cD (aa Ah ae))) yz (λ_=>qBg rfl) (Lv rfl rfl)
def BL:TQ dq jS qeR:=
 fG (ag (aa cD (aa Aj ae))) zZ (λ_=>qBg rfl) (Oj rfl rfl)
def BK:∀n,TQ dq qE (qoM (xY n))
 | 0=>qjd
 |n+1=>YW (ag (aa (BK n) ae)) My (by decide) (Ok n rfl)
def Ji:TQ dq pT Vu:=
 ac (ag ae) F7 (HH)
def Ha:TQ dq nP PS:=
 ac (ag (aa Ji ae)) DX (E8 rfl)
def sI:∀n,TQ dq iq (DP n)
 | 0=>bF λx h=>by cases h
 |n+1=>aZ (ag (aa Ha (aa (sI n) ae))) Cy (λ_=>qBg rfl) (Dw n rfl rfl)
def uG:∀n,TQ dq ju (Zd n)
 | 0=>bF λx h=>by obtain⟨m,h⟩:=h;cases h
 |n+1=>aZ (ag (aa (uG n) ae)) DY (λ_=>qBg rfl) (E9 n rfl)
def xI:TQ dq kI Vz:=
 ac (ag (aa (BK 50) (aa (sI 50) (aa (uG 50) ae)))) Ga (HK rfl rfl rfl)
def Dc:TQ dq qG If:=
 ac (ag (aa qmi (aa BL (aa xI ae)))) MA (On rfl rfl rfl)
def De:TQ dq qL qaT:=
 ac (ag (aa Dc ae)) MV (OK rfl)
def Jk:TQ dq pU qji:=
 ac (ag ae) F9 (HJ)
def sK:TQ dq gm RQ:=
 tg (ag ae) A4 (λ_=>qBg rfl) (qma)
def jn:TQ dq dy Le:=
 tg (ag (aa sK ae)) yC (λ_=>qBg rfl) (qei rfl)
def NN:∀n,TQ dq db (L6 n)/\TQ dq jd (qeX n)/\TQ dq eB (Zb n)
 | 0=>⟨RG,RG,RG⟩
 |n+1=>⟨tg (ag (aa (NN n).1 (aa (NN n).2.1 (aa jn ae)))) Ae (λ_=>qBg rfl) (qiM n rfl rfl rfl),tg (ag (aa (NN n).1 (aa (NN n).2.2 (aa jn (aa sK ae))))) yB (λ_=>qBg rfl) (qed n rfl rfl rfl rfl),tg (ag (aa (NN n).1 (aa (NN n).2.2 (aa jn ae)))) vU (λ_=>qBg rfl) (YG n rfl rfl rfl)⟩
def XX:TQ dq Bv (qlq 50):=
 ac (ag (aa (NN 50).1 ae)) SF (qvW 50 rfl)
def CR:TQ dq lr qeY:=
 ac (ag ae) A5 (qiN)
def Jh:TQ dq cZ qlp:=
 ac (ag (aa Jn ae)) F6 (Yw rfl)
def K2:TQ dq dt qlr:=
 ac (ag ae) In (J4)
def Db:TQ dq qF qe1:=
 ac (ag (aa xI (aa PI (aa XX (aa CR (aa Jk (aa K2 (aa Jh ae)))))))) Mz (Ol rfl rfl rfl rfl rfl rfl rfl)
def Pr:TQ dq wa (qa2 false):=
 ac (ag (aa Db ae)) MB (Oo rfl)
def Hb:TQ dq nQ (qa2 true):=
 ac (ag (aa Db ae)) DZ (Fb rfl)
def Pu:TQ dq wk qaS:=
 ac (ag (aa Dc (aa Pr (aa Hb ae)))) MU (OJ rfl rfl rfl)
def zT:TQ dq ca qff:=
 ac (ag ae) Gh (HQ)
def K4:TQ dq eJ P0:=
 ac (ag (aa zT ae)) Gg (HP rfl)
def EJ:TQ dq bC qaI:=
 ac (ag (aa zT (aa K4 ae))) A2 (Cw rfl rfl)
def sJ:TQ dq cz Id:=
 ac (ag (aa PI ae)) A1 (Cv rfl)
def K5:TQ dq rY VH:=
 ac (ag (aa sJ ae)) IC (Kl rfl)
def EK:TQ dq mr qfa:=
 ac (ag ae) CA (Dy)
def Pt:TQ dq wj qe9:=
 ac (ag (aa K5 (aa EK ae))) MT (OI rfl rfl)
def rz:∀n,TQ dq dn (VN n)
 | 0=>bF λx h=>qyh h.1
 |n+1=>aZ (ag (aa (rz n) ae)) A6 (λ_=>qBg rfl) (Ay n rfl)
def sL:TQ dq dn Mg:=cK (λn=>rz n) (dC (λx h=>h))
def Hk:TQ dq oc P3:=
 ac (ag ae) D6 (DA)
def xK:TQ dq bS RX:=
 ac (ag ae) vW (wR)
def sA:TQ dq eG (Zi Attr (H7 [(bS,RX)])):=
 ac (ag (aa xK ae)) qY (LI)
def dz:TQ dq bK B1:=
 ac (ag (aa sA ae)) yD (zX (S0:=(H7 [(bS,RX)])) rfl rfl)
def vt:TQ dq jw Mj:=
 ac (ag (aa dz ae)) Eb (Fj rfl)
def Ho:TQ dq ol VT:=
 ac (ag ae) Ed (Fl)
def jm:TQ dq dx RU:=
 ac (ag ae) yw (LH)
def lT:TQ dq aS Zf:=
 ac (ag (aa jm ae)) kS (Fp rfl)
def Hl:TQ dq od VM:=
 ac (ag (aa vt (aa dz (aa EJ ae)))) D7 (Fg rfl rfl rfl)
def Hn:TQ dq oj VS:=
 ac (ag (aa Hk (aa Hl (aa De (aa dz (aa YV (aa sJ (aa lT ae)))))))) Ec (Fk rfl rfl rfl rfl rfl rfl rfl)
def zB:TQ dq cn qaZ:=
 ac (ag (aa Hn ae)) xw (xQ rfl)
def vp:∀n,TQ dq gK (VJ n)
 | 0=>bF λx h=>by obtain⟨a,lb,_,h,_⟩:=h;cases h
 |n+1=>aZ (ag (aa zB (aa (vp n) ae))) Gn (λ_=>qBg rfl) (Ff n rfl rfl)
def Jl:TQ dq gK VI:=cK (λn=>vp n) (dC (λx h=>h))
def rA:TQ dq fS Zh:=
 ac (ag (aa sL (aa Jl ae))) Ag (Az rfl rfl)
def CO:TQ dq ln qaR:=
 ac (ag ae) AW (Rw)
def zA:TQ dq ip qaV:=
 ac (ag (aa CO ae)) xq (Kn rfl)
def BP:TQ dq bW FZ:=
 ac (ag (aa zA ae)) Af (Aw rfl)
def uQ:TQ dq ft (Zi Region (H7 [(bW,FZ)])):=
 ac (ag (aa BP ae)) tL (UP)
def sB:TQ dq eI (qcI Region (H7 [(bW,FZ)])):=
 ac (ag (aa uQ ae)) ra (UR rfl)
def EL:TQ dq ms qfd:=
 ac (ag (aa sB ae)) CB (DB (S0:=(H7 [(bW,FZ)])) rfl rfl)
def uI:∀n,TQ dq jv (Mi n)
 | 0=>bF λx h=>by obtain⟨_,y,h⟩:=h;cases h
 | n+1=>
   have a:TQ dq aL (Ze n):=ac (ag (aa (uI n) ae)) A8 (qcs n rfl);have b:TQ dq cA (qe8 n):=ac (ag (aa a ae)) A7 (qcr n rfl);have c:TQ dq ez (Zi Cond (H7 [(aL,Ze n),(cA,qe8 n)])):=ac (ag (aa a (aa b ae))) lL (PB);have d:TQ dq bV (qcI Cond (H7 [(aL,Ze n),(cA,qe8 n)])):=ac (ag (aa c ae)) js (PE rfl)
   ac (ag (aa a (aa d (aa vt (aa Ho (aa Pu (aa dz (aa Pt (aa jm (aa EL ae)))))))))) Ea (qiI (S0:=(H7 [(aL,Ze n),(cA,qe8 n)])) n rfl rfl rfl rfl rfl rfl rfl rfl rfl rfl rfl)
def K6:TQ dq rZ zJ:=
 ac (ag ae) ID (Km)
def Hq:TQ dq oo uV:=
 ac (ag (aa K6 ae)) Ef (Fo rfl)
def TL:TQ dq yV F0:=
 ac (ag ae) Pe (Ru)
def qcQ{p:Pat}(h:dJ p<=0):False:=by rw[qbf]at h;omega
def zH:TQ dq ca xf:=
 ac (ag ae) Iz (Kj)
def Ks:TQ dq eJ FU:=
 ac (ag (aa zH ae)) Iy (Ki rfl)
def gV:TQ dq bC mX:=
 ac (ag (aa zH (aa Ks ae))) Cz (Dx rfl rfl)
def RA:TQ dq yS qeQ:=
 ac (ag ae) O6 (Rk)
def RB:TQ dq kL RS:=
 ac (ag (aa RA ae)) O9 (Rm rfl)
def ON:TQ dq eS FR:=
 ac (ag (aa gV ae)) MI (OA rfl)
def LK:TQ dq ed AK:=
 ac (ag ae) KE (LB)
def qd5:Nat->Spc:=H7 [(kL,RS),(eS,FR),(ed,AK)]
def qAg(n:Nat):Nat->Spc:=H7 [(fQ,qeZ n)]
def qhu{S:Nat->Spc}(h:∀f,TQ dq f (S f)):TQ dq aM (RZ S):=
 ac (ag (aa (ac (S:=S) h sO te) ae)) pP (qP rfl)
def zM:∀n,TQ dq iL (PU n)
 | 0=>bF λx h=>qcQ h.1
 | n+1=>
   have h1:TQ dq fQ (qeZ n):=ac (ag (aa (zM n) ae)) D1 (Fd n rfl)
   ac (ag (aa (qhu (S:=qAg n) (ag (aa h1 ae))) ae)) Is (Ka (S0:=qAg n) n rfl rfl)
def Kr:TQ dq iL L7:=
 cK (λn=>zM n) (dC (λx h=>⟨dJ x.1,qBj _,h⟩))
def qy3(n:Nat):Nat->Spc:=H7 [(iN,qfc qd5 n)]
def qy2(n:Nat):Nat->Spc:=H7 [(aM,RZ (qy3 n)),(kL,RS),(eS,FR),(ed,AK)]
def qjM(n:Nat)(d:D)(f:Pat->Bool)(h:FunIs qd5 d f):FunIs (qy2 n) d f:=by
 obtain⟨g,c,k,a,b,e⟩:=h;refine⟨g,c,k,a,?_,e⟩;by_cases j:g=aM
 ·subst j;have:qd5 aM=Spc.none:=rfl;rw[this]at b;cases b
 ·rw[<-b];unfold qy2 qd5;rw[H7,if_neg j]
def C6:∀n,TQ dq gd (qaU qd5 n)
 | 0=>bF λx h=>by obtain⟨f,h1,h2⟩:=h;exact qcQ h2
 | n+1=>
   have h1:TQ dq iN (qfc qd5 n):=ac (ag (aa (C6 n) ae)) Iu (Kf (S0:=qd5) n rfl)
   ac (S:=qy2 n) (ag (aa (qhu (S:=qy3 n) (ag (aa h1 ae))) (aa RB (aa ON (aa LK ae))))) MJ (OB (S0:=qy3 n) (N:=qd5) n (qjM n) rfl rfl)
def vz:TQ dq gd (FX qd5):=
 cK (λn=>C6 n) (dC (λx h=>by obtain⟨f,h⟩:=h;exact⟨dJ x.1,f,h,qBj _⟩))
def CX:TQ dq qK RY:=
 ac (ag (aa Kr (aa vz ae))) MO (OG (N:=qd5) rfl rfl rfl)
def vy:TQ dq lO fC:=
 ac (ag (aa CX (aa vz ae))) MH (Oy (N:=qd5) rfl rfl rfl rfl)
def F4:∀n,TQ dq kK (RR n)
 | 0=>bF λx h=>qcQ h.1
 |n+1=>aZ (ag (aa (F4 n) ae)) O7 (λ_=>qBg rfl) (Rl n rfl)
def Fy:TQ dq kK FN:=
 cK (λn=>F4 n) (dC (λx h=>⟨dJ x,qBj _,h⟩))
def AV:∀n,TQ dq jV (VK n)
 | 0=>bF λx h=>h
 |n+1=>aZ (ag (aa (AV n) ae)) KF (λ_=>qBg rfl) (LE n rfl)
def LL:TQ dq jV P4:=
 cK (λn=>AV n) (dC (λx h=>h))
def CV:TQ dq qJ RV:=
 ac (ag (aa LL ae)) MK (OC rfl)
def AT:∀n,TQ dq ee (Qx n)
 | 0=>qT λd ds H K ⟨id,v,l,a,x,h1,h2,h3,h4,h5⟩=>qcQ h4.1
 |n+1=>xV (ag (aa (AT n) (aa CV ae))) zN (by decide) (LC n rfl rfl)
def wV:Tri dq Tryz.prog ee i_leavesQA.pt:=cK (λn=>AT n) λd ds H K ⟨id,v,l,a,x,h1,h2,h3,h4,h5⟩=>⟨dJ x,id,v,l,a,x,h1,h2,h3,⟨qBj _,h4⟩,h5⟩
def AD:Tri dq Tryz.prog ee s_leavesQ.pt:=LP (BY (ag (aa wV (aa CV ae))) zN (λ_=>qBg rfl) (Kb rfl rfl)) wV
def qeu:Tri dq Tryz.prog aS s_has2.pt:=
 have h:Tri dq Tryz.prog aS s_hasE.pt:=ac (ag (aa jm ae)) kS (Dv rfl)
 LP h (LQ h rfl λ_=>qnt _)
def AU:∀n,TQ dq eh (WJ n)
 | 0=>qT λd ds H K ⟨id,v,l,a,x,h1,h2,h3,h4,h5⟩=>qcQ h4.1
 |n+1=>xV (ag (aa qeu (aa (AU n) ae))) zO (by decide) (LD n rfl rfl)
def wW:Tri dq Tryz.prog eh i_labelsA.pt:=cK (λn=>AU n) λd ds H K ⟨id,v,l,a,x,h1,h2,h3,h4,h5⟩=>⟨dJ x,id,v,l,a,x,h1,h2,h3,⟨qBj _,h4⟩,h5⟩
def AE:Tri dq Tryz.prog eh s_qlabels.pt:=LP (BY (ag (aa qeu (aa wW ae))) zO (λ_=>qBg rfl) (Ke rfl rfl)) wW
end
section
open Go.Proofs
def uB:CC:=gq Tryz.f64 [2006006] { cu:=[1] } _
def tE:List ai:=[.cell 6 true 7]
def MQ:FO wh [2006006] uB tE 28:=fo
def sv:CC:=gq Tryz.f118 [2006006,2006006,2083008,2082008] { cu:=[2,4,6,18,21,24] } _
def rP:List ai:=[.cell 6 true 7]
def KI:FO jX [2006006,2006006,2083008,2082008] sv rP 110:=fo
def oU:CC:=gq Tryz.f27 [2006006] { cu:=[2,4,7] } _
def nq:List ai:=[.cell 6 true 13]
open Cod (enc dec)
variable {S S0:Nat->Spc}
abbrev xb:Spc:=aA (a1 Int) bO (enc (X:=B)) (λ_ y=>y∈Types)
def qco(h1:S vm=s_m_Mod):aq xF xh S (a1 Int) bO (enc (X:=B)) (λ_ y=>y∈Types):=by
 rintro n -;simp[xF,xh,h1];have h3:=MZ n 3 (by omega);refine⟨h3.1,h3.2,?_⟩;have:II n 3=0\/II n 3=1\/II n 3=2:=by omega
 rcases this with h|h|h<;>simp[h,Types,qvp,qkT,qvo]
def QT(n:Nat)(x:List Int×Int×List B):Prop:=x.2.1.toNat<n/\ -10<=x.2.1/\x.2.1<=100/\x.2.2.length<=1000
def fN{q:Cond->Prop}{H:ab}{op:Int}{n a v l:B}{f:Bool}{d:D}(ks:List Cond)(c:FrzTo H d (enc ks))(b:q ⟨op,n,a,v,l,f,ks⟩):Fin enc q (.agg [.v (.int .i64 op), .v (.string n), .v (.string a), .v (.string v), .v (.string l), .v (.bool f),d]) H:=by
 refine br (⟨op,n,a,v,l,f,ks⟩:Cond) ?_ b;rw[qg4];refine .agg rfl λk x y h j=>?_
 rcases k with _|_|_|_|_|_|_|k;simp_all;simp_all;simp_all;simp_all;simp_all;simp_all;simp_all;simp_all
def qpK(a b c d e f g h:B):D.list 1 [.v (.string a), .v (.string b), .v (.string c), .v (.string d), .v (.string e), .v (.string f), .v (.string g), .v (.string h)]= .list 1 (Vh [a,b,c,d,e,f,g,h]):=i' rfl
def qlk(a b c d:B):D.list 1 [.v (.string a), .v (.string b), .v (.string c), .v (.string d)]= .list 1 (Vh [a,b,c,d]):=i' rfl
theorem Cg{q:Pat->Prop}{H:ab}{op o:Int}{n a v l lb rg:B}{f:Bool}{c d:D}{mn mx:Int}(b:List Cond)(ks:List Pat)(hc:FrzTo H c (enc b))(j:FrzTo H d (enc ks))(h:q ⟨op,⟨o,n,a,v,l,f,b⟩,lb,rg,mn,mx,ks⟩):
 Fin enc q (.agg [.v (.int .i64 op), .v (.int .i64 o), .v (.string n), .v (.string a), .v (.string v), .v (.string l), .v (.bool f),c, .v (.string lb), .v (.string rg), .v (.int .i64 mn), .v (.int .i64 mx),d]) H:=by
 refine br (⟨op,⟨o,n,a,v,l,f,b⟩,lb,rg,mn,mx,ks⟩:Pat) ?_ h;rw[qbG];refine .agg rfl λk x y p r=>?_
 rcases k with _|_|_|_|_|_|_|_|_|_|_|_|_|k;simp_all;simp_all;simp_all;simp_all;simp_all;simp_all;simp_all;simp_all;simp_all;simp_all;simp_all;simp_all;simp_all;simp_all
def qb6(n:Nat)(x:List Int×Int×List B):Prop:=x.2.1.toNat<n/\ -10<=x.2.1/\x.2.1<=100/\x.2.2.length<=1000
def qsg(x:List Int×Int×List B)(p:Pat):Prop:=WP x.2.2 x.2.1.toNat p/\PD x.2.1.toNat p
end
end Go.Gv
