/- T38 -/
import Derived.Shelf.SlMaps.Clone
import Derived.Shelf.SlSortCmp.NoneTotal
import Derived.Test.YtfpmgnnippjblaaGreatDoorGc21
set_option linter.all false
set_option maxRecDepth 100000
set_option maxHeartbeats 0
open Bool renaming forall_bool → fB', exists_bool → eB'
namespace Go.Gv
section
open Cod (enc dec)
theorem PI{a b:D}(l:Fi a=true)(hb:Fi b=true)(h:qfC a b):a=b:=by
 obtain⟨tp,I,w,x,h1,h2⟩:=h;have one:∀d:D,Fi d=true->(∃cs,d= .agg cs)\/ ∃v,d= .v v:=λd r=>by
  cases d<;>first|exact .inl ⟨_,rfl⟩|exact .inr ⟨_,rfl⟩|(simp[Fi,D.cells,qtj]at r)
 rcases one a l with⟨cs,rfl⟩|⟨v,rfl⟩ <;>rcases one b hb with⟨cs',rfl⟩|⟨v',rfl⟩
 ·obtain⟨xs,rfl,hl,hc⟩:=h1.inv_agg;obtain⟨s,he,t,c⟩:=h2.inv_agg;have j:xs=s:=by simpa using he
  subst j;have k:cs=cs':=by
   refine List.ext_getElem (by omega) λi h3 h4=>?_
   have hi:i<xs.length:=by omega
   have v1:qtj cs[i]=true:=qGa.1 l _ (by simp[D.cells]);have u:qtj cs'[i]=true:=qGa.1 hb _ (by simp[D.cells]);have y:=(hc i _ _ (qF6 hi) (qF6 h3)).2;have A:=(c i _ _ (qF6 hi) (qF6 h4)).2;generalize cs[i]=p at*;generalize cs'[i]=q at*;cases p<;>first|(cases v1;done)|skip
   cases q<;>first|(cases u;done)|skip
   rw[<-y.inv_v,<-A.inv_v]
  rw[k]
 ·obtain⟨xs,rfl,_,_⟩:=h1.inv_agg;have:=h2.inv_v;cases h2 with
  |v _ h _=>simp[Value.oneCell']at h
 ·obtain⟨xs,rfl,_,_⟩:=h2.inv_agg;cases h1 with
  |v _ h _=>simp[Value.oneCell']at h
 ·rw[<-h1.inv_v,<-h2.inv_v]
structure qsM (X:Type) [Cod X] (ka:Bool) (ks:List KK):Prop where
 fit:∀x:X,qax ka ks (enc x)=true
 pur:∀x:X,Fi (enc x)=true
def qae:qsM Int false [.int .i64]:=⟨λ_=>rfl,λ_=>rfl⟩
section
variable {X:Type}[Cod X][DecidableEq X]
def jn(l:List X):List D:=l.map λx=> .tup [enc x, .v (.bool true)]
def qcW(x:X)(l:List X):List X:=if x∈l then l else l++ [x]
def Z3{x:X}{v:D}{l:List X} :D.tup [enc x,v] ∈jn l↔x∈l/\v= .v (.bool true):=by
 simp only[jn,qGd,D.tup.injEq,qGF,and_true];exact⟨λ⟨y,h1,h2,h3⟩=>⟨cD h2 ▸h1,h3.symm⟩,λ⟨h1,h2⟩=>⟨x,h1,rfl,h2.symm⟩⟩
def qix{d:D}{l:List X}(h:d∈jn l):∃x∈l,d= .tup [enc x, .v (.bool true)]:=by
 obtain⟨x,h1,rfl⟩:=qGd.1 h;exact⟨x,h1,rfl⟩
def OF:∀{l:List X} {j c:List D} {e:D},jn l=j++e::c->∃a x b,l=a++x::b/\j=jn a/\e= .tup [enc x, .v (.bool true)]/\c=jn b
 | [],j,c,e,h=>by
   have:=congrArg List.length h;simp[jn]at this
 | y::l, [],c,e,h=>by
   simp only[jn,qGG,qG1,qGF]at h;exact⟨[],y,l,rfl,rfl,h.1.symm,h.2.symm⟩
 | y::l,d::j,c,e,h=>by
   simp only[jn,qGG,qG4,qGF]at h;obtain⟨a,x,b,rfl,rfl,h3,h4⟩:=OF (l:=l) h.2;exact⟨y::a,x,b,rfl,by simp[jn,h.1],h3,h4⟩
def qiy(a b:List X):jn (a++b)=jn a++jn b:=by simp[jn]
def Y4{ka:Bool}{ks:List KK}(a:qsM X ka ks)(l:List X):(jn l).all (qdd ka ks)=true:=by
 rw[qGa];intro d b;obtain⟨x,_,rfl⟩:=qix b;exact a.fit x
def qm7{ka:Bool}{ks:List KK}(c:qsM X ka ks){x:X}{l:List X}{k:D}{K:List D->Prop}(hk:k=enc x)(h:K (jn (qcW x l))):Yx ka ks k (.v (.bool true)) (jn l) K:=by
 subst hk;refine⟨Y4 c l,c.fit x,λj p v' q e m=>?_,λhn=>?_⟩
 ·obtain⟨a,y,b,rfl,rfl,h3,rfl⟩:=OF e;simp only[D.tup.injEq,qGF,and_true]at h3;obtain⟨rfl,rfl⟩:=h3;have:=cD (PI (c.pur x) (c.pur y) m);subst this;rw[<-e];have:qcW x (a++x::b)=a++x::b:=by unfold qcW;rw[if_pos (by simp)]
  rw[this]at h;exact h
 ·have d:x∉l:=λd=>hn (c.pur x) _ (Z3.2 ⟨d,rfl⟩)
  have:qcW x l=l++ [x]:=by unfold qcW;rw[if_neg d]
  rw[this,qiy]at h;exact h
end
open Go.Proofs
structure St3 where
 p:Int
 b0:Int
 b1:Int
 b2:Int
deriving DecidableEq
instance:Cod St3 where
 wd:=4
 enc s:= .agg [enc s.p,enc s.b0,enc s.b1,enc s.b2]
 dec| .agg [a,b,c,j]=>(dec a).bind λa=>(dec b).bind λb=>(dec c).bind λc=>(dec j).bind λj=>some ⟨a,b,c,j⟩|_=>none
 kn _:=rfl
 wid _:=rfl
 dec_enc s:=by simp
 le d x h:=by
  split at h;grind [FrzTo,Option.bind_eq_some_iff,Cod.le];grind
structure Rn where
 c:Corpus
 lb:List B
 bg:Int
 en:Int
def St3.get(s:St3)(i:Nat):Int:=match i with|0=>s.b0|1=>s.b1|_=>s.b2
def St3.set(s:St3)(i:Nat)(x:Int):St3:=match i with|0=>⟨s.p,x,s.b1,s.b2⟩|1=>⟨s.p,s.b0,x,s.b2⟩|_=>⟨s.p,s.b0,s.b1,x⟩
def qz4(r:Rn)(s:St3):List Int:=(List.range r.lb.length).map λi=>s.get i -1
def qAE(r:Rn)(p:Pat)(s:St3):Option Bool:=qW ⟨r.c,s.p,r.lb,qz4 r s⟩ 21 p.cond
section
variable {α:Type}
def Pow(R:α->α->Prop):Nat->α->α->Prop
 | 0=>λs t=>s=t
 |n+1=>λs t=>∃u,R s u/\Pow R n u t
def Star(R:α->α->Prop)(s t:α):Prop:=∃n,Pow R n s t
def Pow.add{R:α->α->Prop} :∀{m n:Nat} {s t u:α},Pow R m s t->Pow R n t u->Pow R (m+n) s u
 | 0,n,s,t,u,h,k=>by cases h;grind
 | m+1,n,s,t,u,⟨v,h1,h2⟩,k=>by
   rw[Nat.succ_add];exact⟨v,h1,h2.add k⟩
def Star.refl(R:α->α->Prop)(s:α):Star R s s:=⟨0,rfl⟩
theorem Star.one{R:α->α->Prop}{s t:α}(h:R s t):Star R s t:=⟨1,t,h,rfl⟩
def Star.trans{R:α->α->Prop}{s t u:α}(h:Star R s t)(k:Star R t u):Star R s u:=by
 obtain⟨m,h⟩:=h;obtain⟨n,k⟩:=k;exact⟨m+n,h.add k⟩
def Star.mono{R Q:α->α->Prop}(a:∀s t,R s t->Star Q s t){s t:α}(h:Star R s t):Star Q s t:=by
 obtain⟨n,h⟩:=h
 induction n generalizing s with
 |zero=>cases h;exact .refl _ _
 | succ n b=>
   obtain⟨u,h1,h2⟩:=h;exact(a _ _ h1).trans (b h2)
def Pow.mono{R Q:α->α->Prop}(a:∀s t,R s t->Q s t):∀{n:Nat} {s t:α},Pow R n s t->Pow Q n s t
 | 0,_,_,h=>h
 |n+1,_,_,⟨u,h1,h2⟩=>⟨u,a _ _ h1,h2.mono a⟩
end
def qFZ(m:Int)(s:St3):Prop:=0<=s.p/\s.p<=m/\∀i,0<=s.get i/\s.get i<=m
mutual
def tC:Pat->List Pat
 | .mk op cond lab reg mn mx ks=> .mk op cond lab reg mn mx ks::AJ ks
def AJ:List Pat->List Pat
 | []=>[]
 |k::ks=>tC k++AJ ks
end
def ER(C:Pat->Prop)(p:Pat):Prop:=∀q∈tC p,C q
theorem L6:∀{ks:List Pat} {k q:Pat},k∈ks->q∈tC k->q∈AJ ks
 | a::ks,k,q,h,b=>by
   rw[AJ,qGi];rcases qGm.1 h with rfl|h;grind
   ·exact .inr (L6 h b)
theorem wQ:∀{ks:List Pat} {q:Pat},q∈AJ ks->∃k∈ks,q∈tC k
 | [],q,h=>by grind [AJ]
 | a::ks,q,h=>by
   rw[AJ,qGi]at h;rcases h with h|h;grind
   ·obtain⟨k,h1,h2⟩:=wQ h;grind
def Z1(p:Pat):p∈tC p:=by cases p;grind [tC]
def Kx{C:Pat->Prop}{p:Pat}(h:ER C p):C p:=h p (Z1 p)
def O9{C:Pat->Prop}{p k:Pat}(h:ER C p)(hk:k∈p.kids):ER C k:=λq a=>h q (by cases p;grind [tC,L6])
def qnI{C:Pat->Prop}{p:Pat}(h:C p)(hk:∀k∈p.kids,ER C k):ER C p:=λq a=>by
 cases p<;>grind [ER,tC,wQ]
def zq{C D:Pat->Prop}{p:Pat}(h:ER C p)(a:∀q,C q->D q):ER D p:=λq b=>a q (h q b)

def qjj(c:Corpus)(lb:List B)(t:uz):Rn:=⟨c,lb,t.b,min t.e c.toks.length⟩
def qo5(r:Rn)(s:St3):(qz4 r s).length=r.lb.length:=by simp[qz4]
def Z0:∀(n:Nat) (l:List Nat),l.Nodup->(∀x∈l,x<n)->l.length<=n
 | 0, [],_,_=>qGb _
 | 0,x::l,_,h=>absurd (h x (by simp)) (Nat.not_lt_zero _)
 | n+1,l,hn,h=>by
   have b:=Z0 n (l.erase n) (hn.erase n) λx a=>by
    have h1:=(List.Nodup.mem_erase_iff hn).1 a;have:=h x h1.2;omega
   have h2:l.length<=(l.erase n).length+1:=by
    rw[List.length_erase];split<;>omega
   omega
def qgx{α:Type}{l:List α}{f:α->Nat}{n:Nat}(h1:l.Nodup)(h2:∀x∈l,f x<n)(h3:∀x∈l,∀y∈l,f x=f y->x=y):l.length<=n:=by
 have hn:∀{l:List α},l.Nodup->(∀x∈l,∀y∈l,f x=f y->x=y)->(l.map f).Nodup:=λ{l} h1 h3=>by
  induction l with
  |nil=>exact qIc
  | cons a l d=>
    rw[qGG,qHM];have h4:=qHM.1 h1;refine⟨λhm=>?_,d h4.2 λx c y b=>h3 x (by simp[c]) y (by simp[b])⟩;obtain⟨y,b,e⟩:=qGd.1 hm;have:=h3 y (by simp[b]) a (by simp) e;subst this;exact h4.1 b
 have:=Z0 n (l.map f) (hn h1 h3) λx c=>by
  obtain⟨y,b,rfl⟩:=qGd.1 c;exact h2 y b
 simpa using this

variable {S S0:Nat->Spc}


end
section
open Cod (enc dec)
variable {dq:Prop}
section
variable {Y Z:Type}
variable {P:Program}{S:Nat->Spc}{f:Nat}{im:List Nat}{cc:CC}{rs:List ai}{N:Nat}
end
section
variable {Y Z:Type}
variable {P:Program}{S:Nat->Spc}{f:Nat}{im:List Nat}{cc:CC}{rs:List ai}{N:Nat}
end
open Go.Proofs Go.Shelf Go.RowKit
section
variable {X:Type}
variable {P:Program}{S:Nat->Spc}{f:Nat}{im:List Nat}{cc:CC}{rs:List ai}{N:Nat}{A:fN X}
end
end
section
open Cod (enc dec)
variable {dq:Prop}
section
variable {X Z:Type}
end
open Go.Proofs
section
variable {Y Z:Type}
variable {P:Program}{S:Nat->Spc}{f:Nat}{im:List Nat}{cc:CC}{rs:List ai}{N:Nat}
end
section
variable {X Y Z:Type}
end
end
section
open Cod (enc dec)
open Go.Proofs
variable {S S0:Nat->Spc}


end
section
open Go.Proofs
open Cod (enc dec)
variable {S S0:Nat->Spc}
structure qFY (r:Rn) (q:Pat):Prop where
 nd:rL q
 num:lJ q=true
 lab:q.lab≠fu->pw r.lb q.lab=true
 tok:q.op=1->∀s,qFZ r.en s->s.p<r.en->∃y,qAE r q s=some y
end
section
open Go.Proofs
open Cod (enc dec)
variable {S S0:Nat->Spc}

end
section
open Cod (enc dec)
open Go.Proofs Go.Sort Go.Shelf Go.Lib Go.RowKit
def qkG{α c:Type}{f:α->List c}{n:Nat} :∀{l:List α},(∀x∈l,(f x).length=n)->∀{i j:Nat},j<n->(l.flatMap f)[i*n+j]? =(l[i]?).bind λx=>(f x)[j]?
 | [],_,i,j,_=>by simp
 | d::es,h,0,j,b=>by
   have a:=h d (by simp);simp only[qG0,Nat.zero_mul,qGS];rw[qGI (by omega)];simp
 | d::es,h,i+1,j,b=>by
   have a:=h d (by simp);have p:=qkG (l:=es) (λd a=>h d (by simp[a])) (i:=i) b;simp only[qG0];rw[qGH (by rw[a,qHc];omega),a];have:(i+1) *n+j -n=i*n+j:=by rw[qHc];omega
   rw[this,p];simp
def WD{α a:Type}{f:α->List a}{n:Nat} :∀{l:List α},(∀x∈l,(f x).length=n)->(l.flatMap f).length=l.length*n
 | [],_=>by simp
 | d::es,h=>by
   have b:=WD (l:=es) (λd c=>h d (by simp[c]));simp only[qG0,qGC];rw[b,h d (by simp),qGT,qHc];omega
section
variable {X:Type}[Cod X][Inhabited X](ev:X->List Value)(k:Nat)(hk:∀x,(ev x).length=k)
include hk
omit [Cod X]in
theorem P1(l:List X):(flatK ev k l.toArray).toList=l.flatMap ev:=by
 have hl:=WD (f:=ev) (n:=k) (l:=l) (λx _=>hk x);apply qGN;intro t;by_cases ht:t<l.length*k
 ·have k0:0<k:=by
   rcases qHa k with h|h
   ·subst h;simp at ht
   ·exact h
  have h1:=get_flatK ev k l.toArray t (by simpa using ht);have hs:t<(flatK ev k l.toArray).size:=by simpa using ht
  rw[getElem!_pos _ t hs]at h1;rw[qGx,qGY hs,h1];have hm:t % k<k:=qHu _ k0;have hdm:t=(t/k) *k+t % k:=by have:=qHv t k;rw[qH9]at this;omega
  have hq:t/k<l.length:=qH0 (by rw[qH9];exact ht);have h2:=qkG (f:=ev) (n:=k) (l:=l) (λx _=>hk x) (i:=t/k) hm;rw[<-hdm]at h2;rw[h2,qF6 hq];have h3:(l.toArray)[t/k]! =l[t/k]:=by rw[getElem!_pos l.toArray (t/k) (by simpa using hq)];simp
  rw[h3];have h4:t % k<(ev l[t/k]).length:=by rw[hk];exact hm
  simp only[qGt];rw[getElem!_pos (ev l[t/k]) (t % k) h4,qF6 h4]
 ·rw[qGu (by simpa using ht),qGu (by omega)]
end
def IY{w:World}{b j el:Nat}{c:Array Value}(h:w.heap[b]? =some (.cells c el (0,0))):w.frozen? ⟨b,j,none⟩=false:=by
 simp[World.frozen?,h]
def Qt{w:World}{b j el:Nat}{c:Array Value}{fr:Nat×Nat}(h:w.heap[b]? =some (.cells c el fr)):w.cell? ⟨b,j,none⟩=c[j]?:=by
 simp[World.cell?,h]
def SZ{w:World}{a b:Nat}{f:Array Value->Array Value}{os:Array Obj}(hb:b<w.heap.size)(c:b≠a):(grow (mapBlock w a f) os).heap[b]? =w.heap[b]?:=by
 simp only[grow,mapBlock];rw[qGX (by simpa using hb),qHX];have:¬a=b:=λe=>c e.symm
 simp[this]
def ZH{w:World}{a el:Nat}{c:Array Value}{fr:Nat×Nat}{f:Array Value->Array Value}{os:Array Obj}(h:w.heap[a]? =some (.cells c el fr)):(grow (mapBlock w a f) os).heap[a]? =some (.cells (f c) el fr):=by
 have hb:a<w.heap.size:=(qGg.1 h).1;simp only[grow,mapBlock];rw[qGX (by simpa using hb),qHX];simp[h,onCells]
variable {dq:Prop}
section
variable {P:Program}{ρ:Ren}
end
end
section
open Go.Proofs
def jC:CC:=gq Tryz.f67 [2] { bx:=[1,31],cu:=[1] } _
def jp:List ai:=[.tmp 4]
def BK:FO db [2] jC jp 34:=fo
def jB:CC:=gq Tryz.f68 [2] { bx:=[1,24] } _
def jo:List ai:=[.tmp 4]
def BJ:FO dE [2] jB jo 27:=fo
def wi:CC:=gq Tryz.f127 [1,2002002] {} _
def vh:List ai:=[.cell 2 true 13]
def Pn:FO rY [1,2002002] wi vh 11:=fo
def tS:CC:=gq Tryz.f192 [1,2021003,1020020] {} _
def tn:List ai:=[.cell 2 true 7]
def MZ:FO lc [1,2021003,1020020] tS tn 24:=fo
def dS:CC:=gq Tryz.f66 [1] { bx:=[41] } _
def dO:List ai:=[.tmp 2]
def qr:FO eI [1] dS dO 44:=fo
def iw:CC:=gq Tryz.f122 [1] {} _
def hZ:List ai:=[.tmp 2]
def zu:FO dF [1] iw hZ 7:=fo
def gE:CC:=gq Tryz.f32 [2] { bx:=[17,20],fz:=[(17,1),(20,13)] } _
def gi:List ai:=[.tmp 4]
def wP:FO ft [2] gE gi 49:=fo
def gD:CC:=gq Tryz.f73 [3] {} _
def gh:List ai:=[.tmp 6]
def wO:FO ed [3] gD gh 33:=fo
def aC:CC:=gq Tryz.f137 [3] {} _
def aB:List ai:=[.tmp 6]
def vy:FO gz [3] aC aB 115:=fo
def yx:CC:=gq Tryz.f71 [1] {} _
def xL:List ai:=[.tmp 2]
def RT:FO pJ [1] yx xL 11:=fo
def jH:CC:=gq Tryz.f133 [1] {} _
def jF:List ai:=[.tmp 2]
def E8:FO pI [1] jH jF 58:=fo
def ix:CC:=gq Tryz.f72 [1] {} _
def ia:List ai:=[.tmp 2]
def CZ:FO mZ [1] ix ia 22:=fo
def bK:CC:=gq Tryz.f70 [] {} _
def bJ:List ai:=[.tmp 4]
def iB:FO aQ [] bK bJ 9:=fo
def cn:CC:=gq Tryz.f132 [] {} _
def ca:List ai:=[.tmp 4]
def kT:FO cH [] cn ca 19:=fo
open Cod (enc dec)
variable {S S0:Nat->Spc}
def Oo{α:Type}{l:List α}{k:Nat}{a:α}{P:α->Prop}(h:∀x∈l.take k,P x)(b:l[k]? =some a)(hp:P a):∀x∈l.take (k+1),P x:=by
 rw[au b];intro x hx;rcases qGi.1 hx with hx|hx
 ·exact h x hx
 ·simp at hx;subst hx;exact hp
def qsI{X:Type}(m:X->Nat)(n:Nat)(x:X):Prop:=m x<=n
abbrev qd5(n:Nat):Spc:=ax (a2 Cond Cond) (qsI (λx=>bi x.1) n) (enc (X:=Bool)) λx y=>(y=true↔x.1=x.2)
def qlt{a b:Cond}(h1:a.op=b.op)(h2:a.name=b.name)(h3:a.arg=b.arg)(h4:a.val=b.val)(h5:a.lab=b.lab)(h6:a.fold=b.fold)(c:a.kids=b.kids):a=b:=by
 cases a;cases b;simp only at*;subst h1;subst h2;subst h3;subst h4;subst h5;subst h6;subst c;rfl
theorem qbO(n:Nat)(h1:S vF=qd5 n):aq DI CL S (a2 Cond Cond) (qsI (λx=>bi x.1) (n+1)) (enc (X:=Bool)) λx y=>(y=true↔x.1=x.2):=by
 rintro⟨a,b⟩ hn;have hn:bi a<=n+1:=hn;have c:∀k∈a.kids,∀y,qsI (λx:Cond×Cond=>bi x.1) n (k,y):=λk hk y=>by have:=DS hk;show bi k<=n;omega
 simp[DI,CL];refine⟨λA=>⟨λC=>⟨λE=>⟨λF=>⟨λI=>⟨λJ _ _=>⟨λh e=>h (by rw[e]),λhl _=>?_⟩,λh e=>h (by rw[e])⟩,λh e=>h (by rw[e])⟩,λh e=>h (by rw[e])⟩,λh e=>h (by rw[e])⟩,λh e=>h (by rw[e])⟩,λh e=>h (by rw[e])⟩;refine ah (X:=Unit) [2,3] [] a.kids.length (λk _=>a.kids.take k=b.kids.take k) (λ_=>[]) (λ_=>[]) () (by simp) ?_ ?_
 ·rintro k -hk p;obtain⟨x,d⟩:=aR hk;obtain⟨y,j⟩:=aR (l:=b.kids) (k:=k) (by omega);have q:=aP d;obtain⟨_,s⟩:=qF4.1 d;obtain⟨_,t⟩:=qF4.1 j;simp[h1,hk,d,j,s,t,c x q,-fB'];refine⟨by omega,λr u=>⟨λw e=>?_,λK=>?_⟩⟩
  ·subst e;rw[d]at j;cases j;rw[u.2 rfl]at w;cases w
  ·rw[au d,au j,p,u.1 K]
 ·rintro -p;simp;have L:a.kids=b.kids:=by
   rw[qGR (by omega),qGR (by omega)]at p;exact p
  exact qlt A C E F I J L
abbrev LQ:Spc:=ax (a2 Pat Int) (λ_=>True) (enc (X:=Bool)) λx y=>y=(decide (x.2<=100) && pm x.1)
abbrev qd6:Spc:=ax (a2 Cond Cond) (λ_=>True) (enc (X:=Bool)) λx y=>(y=true↔x.1=x.2)
def XO(h1:S vF=qd6):aq A8 Ae S (a2 Pat Int) (λ_=>True) (enc (X:=Bool)) λx y=>y=(decide (x.2<=100) && pm x.1):=by
 rintro⟨p,d⟩ -;simp[A8,Ae,h1,-fB'];clear h1;refine⟨λh c=>absurd h (by omega),λb y a=>?_⟩;have a:y=true↔p.cond=sW:=a;rw[decide_eq_true b,qHs];revert a;revert y
 repeat' first|apply And.intro|intro _
 all_goals (rw[qGD,qU];unfold rL;simp_all;try omega)
abbrev Y8(n:Nat):Spc:=ax (a2 Pat Int) (λx=>dL x.1<=n/\0<=x.2/\x.2<=101) (enc (X:=Bool)) λx y=>y=(cF x.1 x.2 && cm pm x.1)
theorem Uk(n:Nat)(h1:S Dj=LQ)(h2:S lL=Y8 n):aq yk xu S (a2 Pat Int) (λx=>dL x.1<=n+1/\0<=x.2/\x.2<=101) (enc (X:=Bool)) λx y=>y=(cF x.1 x.2 && cm pm x.1):=by
 rintro⟨p,d⟩ ⟨hn,q,r⟩;have c:∀k∈p.kids,dL k<=n:=λk hk=>by have:=kS hk;have:dL p<=n+1:=hn;omega
 simp only at q r;simp[yk,xu,h1];rw[nW,cU];refine⟨λh=>?_,λu s _=>?_⟩
 ·simp only[qF9,decide_eq_true_eq];intro h1;rw[h h1.1,Bool.false_and]
 refine ah (X:=Unit) [1,12] [] p.kids.length (λk _=>∀x∈p.kids.take k,(cF x (d+1) && cm pm x)=true) (λ_=>[]) (λ_=>[]) () (by simp) ?_ ?_
 ·rintro k -hk j;obtain⟨x,a⟩:=aR hk;have b:=aP a;obtain⟨_,t⟩:=qF4.1 a;have w:=c x b;simp[h2,hk,a,t,w,-fB'];refine⟨by simp only[InR];omega,by omega,λA _ l _=>⟨x,b,A (l x b)⟩,λt1 C=>?_⟩;have:=Oo (P:=λx=>(cF x (d+1) && cm pm x)=true) j a (by simp[t1,C]);simpa using this
 ·rintro -j;simp;simp at j;simp[s,u];exact⟨λx a=>(j x a).1,λx a=>(j x a).2⟩
abbrev qec(n:Nat):Spc:=ax (a1 Pat) (λx=>dL x<=n) (enc (X:=Bool)) λx y=>y=cm (mT ay) x
theorem XP(n:Nat)(h1:S aK=ot)(h2:S nX=qec n):aq A9 Af S (a1 Pat) (λx=>dL x<=n+1) (enc (X:=Bool)) λx y=>y=cm (mT ay) x:=by
 rintro p hn;have a:∀k∈p.kids,dL k<=n:=λk hk=>by have:=kS hk;have:dL p<=n+1:=hn;omega
 simp[A9,Af,h1];refine bh (X:=Unit) [1] [] (λ_=>mT ay p=true) (λ_=>[]) (λ_=>[]) ?_ ?_
 ·simp[h1,mT];rw[cU];unfold mT
  repeat' first|apply And.intro|intro _
  all_goals (first|omega|simp_all;try omega)
 rintro -h;rw[cU];simp;intro _;refine ah (X:=Unit) [31] [] p.kids.length (λk _=>∀x∈p.kids.take k,cm (mT ay) x=true) (λ_=>[]) (λ_=>[]) () (by simp) ?_ ?_
 ·rintro k -hk c;obtain⟨x,d⟩:=aR hk;have b:=aP d;obtain⟨_,j⟩:=qF4.1 d;have l:=a x b;simp[h2,hk,d,j,l,-fB'];exact⟨λq _=>⟨x,b,q⟩,λr=>Oo c d r⟩
 ·rintro -c;simp;simp at c;rw[h];simpa using c
abbrev SI(n:Nat):Spc:=ax (a1 Pat) (λx=>dL x<=n) (enc (X:=Bool)) λx y=>y=cm lJ x
theorem Q8(n:Nat)(h2:S jG=SI n):aq vZ uW S (a1 Pat) (λx=>dL x<=n+1) (enc (X:=Bool)) λx y=>y=cm lJ x:=by
 rintro p hn;have a:∀k∈p.kids,dL k<=n:=λk hk=>by have:=kS hk;have:dL p<=n+1:=hn;omega
 simp[vZ,uW];refine bh (X:=Unit) [1] [] (λ_=>lJ p=true) (λ_=>[]) (λ_=>[]) ?_ ?_
 ·simp[lJ];rw[cU];unfold lJ
  repeat' first|apply And.intro|intro _
  all_goals (first|omega|(rw[qGD];simp;omega))
 rintro -h;rw[cU];simp;intro _;refine ah (X:=Unit) [36] [] p.kids.length (λk _=>∀x∈p.kids.take k,cm (lJ) x=true) (λ_=>[]) (λ_=>[]) () (by simp) ?_ ?_
 ·rintro k -hk c;obtain⟨x,d⟩:=aR hk;have b:=aP d;obtain⟨_,j⟩:=qF4.1 d;have l:=a x b;simp[h2,hk,d,j,l,-fB'];exact⟨λq _=>⟨x,b,q⟩,λr=>Oo c d r⟩
 ·rintro -c;simp;simp at c;rw[h];simpa using c
def pp{a b A B:Int}(h0:0<=a)(h1:a<=A)(h2:0<=b)(h3:b<=B):0<=a*b/\a*b<=A*B:=⟨qHD h0 h2,Int.mul_le_mul h1 h3 h2 (by omega)⟩
def PPat(n:Nat)(p:Pat):Prop:=dL p<=n/\eX ay p=true
def PPat.kid{n:Nat}{p k:Pat}(h:PPat (n+1) p)(hk:k∈p.kids):PPat n k:=by
 have h1:=kS hk;grind [PPat,ph]
abbrev df:Spc:=ax (a1 Pat) (λ_=>True) (enc (X:=Bool)) λx y=>y=eX ay x
abbrev Kq:Spc:=ax (a2 Pat Int) (λx=>0<=x.2/\x.2<=101) (enc (X:=Bool)) λx y=>y=(cF x.1 x.2 && cm pm x.1)
abbrev OL:Spc:=ax (a1 Pat) (λ_=>True) (enc (X:=Bool)) λx y=>y=cm (mT ay) x
abbrev FX:Spc:=ax (a1 Pat) (λ_=>True) (enc (X:=Bool)) λx y=>y=cm lJ x
def Mq(h1:S lL=Kq)(h2:S nX=OL)(h3:S jG=FX):aq rq qA S (a1 Pat) (λ_=>True) (enc (X:=Bool)) λx y=>y=eX ay x:=by
 rintro p -;simp_all [rq,qA,eX]
abbrev U5(n:Nat):Spc:=ax (a1 Pat) (PPat n) (enc (X:=Int)) λx y=>y=fO x
theorem qbK(n:Nat)(h1:S ra=U5 n):aq DF CH S (a1 Pat) (PPat (n+1)) (enc (X:=Int)) λx y=>y=fO x:=by
 rintro p hp;have hk:∀k∈p.kids,PPat n k:=λk=>hp.kid
 have hs:∀k∈p.kids,0<=fO k/\fO k<=1000:=λk h=>SB (v:=ay) k (hk k h).2
 simp[DF,CH];intro _;refine⟨λh=>by rw[oo,CB,if_pos h],λh0 _=>?_⟩;refine ah (X:=Int) [1,11] [] p.kids.length (λk n=>n=fg (p.kids.take k) 0) (λn=>[(3,enc n)]) (λ_=>[]) 0 (by rfl) ?_ ?_
 ·rintro k m a b;obtain⟨x,d⟩:=aR a;have c:=aP d;obtain⟨_,j⟩:=qF4.1 d;have hm:=qu (p.kids.take k) 0 (by omega) (by omega) (λy l=>(hs y (qGq l)).1);have h2:=hs x c;rw[<-b]at hm;have r:=hk x c;simp[h1,a,d,j,r];refine⟨by grind [InR],?_⟩;simp_all [au,OE,fg]
 ·rintro m b;have hm:=qu (p.kids.take p.kids.length) 0 (by omega) (by omega) (λy l=>(hs y (qGq l)).1);rw[<-b]at hm;rw[qGc]at b;have hn:=(dr hp.2).2.2;unfold lJ at hn;rw[decide_eq_true_eq]at hn;rw[oo,CB,if_neg h0,<-b];simp;refine⟨λh6=>?_,λh6=>?_⟩
  ·have hn:=hn h6;simp only[h6,if_true];refine⟨λe=>?_,λe=>⟨λq=>?_,λq=>?_⟩⟩
   ·have h1:max 1 (p.mn+1)=p.mn+1:=by omega
    have h2:=pp hm.1 hm.2 (show 0<=p.mn+1 by omega) (show p.mn+1<=17 by omega);rw[h1,if_pos e];exact⟨by simp only[InR];omega,by simp only[InR];omega,rfl⟩
   ·rw[if_neg e,if_pos q];omega
   ·have h2:=pp hm.1 hm.2 (show 0<=p.mx by omega) (show p.mx<=16 by omega);rw[if_neg e,if_neg q];exact⟨by simp only[InR];omega,rfl⟩
  ·simp only[h6,if_false];omega
abbrev Ny(n:Nat):Spc:=ax (a1 Pat) (PPat n) (iA (Y:=Int) (Z:=Int)) λx y=>y=aU x
theorem XN(n:Nat)(h1:S sG=Ny n):aq lP lG S (a1 Pat) (PPat (n+1)) (iA (Y:=Int) (Z:=Int)) λx y=>y=aU x:=by
 rintro p hp;have hk:∀k∈p.kids,PPat n k:=λk=>hp.kid
 have hs:∀k∈p.kids,eO (aU k):=λk h=>zO (v:=ay) k (hk k h).2
 have hn:=(dr hp.2).2.2;unfold lJ at hn;rw[decide_eq_true_eq]at hn;rcases qT (dr hp.2).1 with⟨ho,_⟩|⟨ho,_⟩|⟨ho,q,ks,c⟩|⟨ho,q,c⟩
 simp_all [lP,lG,qhN]
 ·have:=qhM ho;rcases ho with ho|ho<;>simp[lP,lG,h1,ho,this]
 ·have hc:p.op≠1/\p.op≠2/\p.op≠3/\p.op≠6:=by omega
  simp[lP,lG,h1,hc,iA];intro _;refine ah (X:=Int×Int) [1,55] [] p.kids.length (λk w=>(k=0->w=(0,0))/\(0<k->w=mO (decide (p.op=4)) (ks.take (k -1)) (aU q))/\eO w) (λw=>[(6,enc w.1),(7,enc w.2)]) (λ_=>[]) (0,0) (by simp[eO]) ?_ ?_
  ·rintro k w C ⟨E,J,t⟩;obtain⟨x,A⟩:=aR C;have F:=aP A;obtain⟨_,K⟩:=qF4.1 A;have L:=hk x F;have d:=hs x F;have key:(0<k->∀r:Int×Int,r=QZ (decide (p.op=4)) w (aU x)->r=mO (decide (p.op=4)) (ks.take (k+1 -1)) (aU q)/\eO r)/\(k=0->∀r:Int×Int,r=aU x->r=mO (decide (p.op=4)) (ks.take (k+1 -1)) (aU q)/\eO r):=by
    refine⟨λh0 r I=>?_,λh0 r I=>?_⟩
    ·obtain⟨j,rfl⟩:∃j,k=j+1:=⟨k -1,by omega⟩
     rw[c,List.getElem?_cons_succ]at A;rw[qH4,au A,Sp,mO,mO];have e:=J h0;rw[qH4]at e;rw[<-e];exact⟨I,by rw[I];exact Uc t d⟩
    ·subst h0;rw[c,List.getElem?_cons_zero]at A;cases A;exact⟨by rw[I];rfl,by rw[I];exact d⟩
   simp[h1,C,A,K,L,iA];clear h1;have tD:∀a b:Int,(0<k->(a,b)=QZ (decide (p.op=4)) w (aU x))->(k=0->(a,b)=aU x)->((a,b)=mO (decide (p.op=4)) (List.take k ks) (aU q)/\eO (a,b)):=by
    intro a b f1 O;rcases qHa k with h|h
    ·exact key.2 h _ (O h)
    ·exact key.1 h _ (f1 h)
   clear key;generalize aU x=u at d tD;obtain⟨U,W⟩:=u;obtain⟨w1,w2⟩:=w;unfold eO at d t;simp only at d t;simp only[qH6]at E;refine⟨λh4=>⟨by simp only[InR];omega,λl=>⟨λs=>tD _ _ (λ_=>?_) (λh=>?_),λs=>⟨by simp only[InR];omega,tD _ _ (λ_=>?_) (λh=>?_)⟩⟩,λl=>tD _ _ (λ_=>?_) (λh=>?_)⟩,λh4=>⟨λh0=>tD _ _ (λh=>absurd h (by omega)) (λh=>rfl),λh0=>⟨λl=>⟨λs=>tD _ _ (λ_=>?_) (λh=>absurd h h0),λs=>tD _ _ (λ_=>?_) (λh=>absurd h h0)⟩,λl=>tD _ _ (λ_=>?_) (λh=>absurd h h0)⟩⟩⟩
   all_goals (try simp only at l)
   all_goals (try simp only at s)
   all_goals first|(have hw:=E h;simp only[qH6];omega)|(unfold QZ;simp[h4,l,s];done)|(unfold QZ;simp[h4,l];done)|(unfold QZ;simp[h4];omega)
  ·rintro w ⟨_,Q,_⟩;simp[iA];rw[qhL ho c];have:=Q (by rw[c];simp);rw[c,qGT,qH4,qGc]at this;rw[<-this]
 ·have L:=hk q (by rw[c];simp);have d:=hs q (by rw[c];simp);have hn:=hn ho;simp[lP,lG,h1,ho,c,L,iA];rw[qhK ho c];generalize aU q=w at d;unfold eO at d;have h2:=pp d.1 d.2.1 hn.1 hn.2.1;refine⟨λl=>⟨λs=>⟨by simp only[InR];omega,by rw[if_pos (.inr s)]⟩,λs=>⟨λM=>⟨λN=>⟨by simp only[InR];omega,?_⟩,λN=>?_⟩,λM=>⟨by simp only[InR];omega,?_⟩⟩⟩,λl=>⟨by simp only[InR];omega,by rw[if_pos (.inl l)]⟩⟩
  ·rw[if_neg (by omega),if_pos (.inr N)]
  ·have h3:=pp (show 0<=w.2 by omega) d.2.2.2 (show 0<=p.mx by omega) (show p.mx<=16 by omega);refine⟨by simp only[InR];omega,by simp only[InR];omega,?_⟩;rw[if_neg (by omega),if_neg (by omega)]
  ·rw[if_neg (by omega),if_pos (.inl M)]
abbrev Tm:D:= .v (.slice none 0 0)
def qhD(x:Pat)(l:List Pat):Prop:=l.length+ (am x).length<=100000000
abbrev qag(n:Nat):Spc:=qmn (X:=Pat) (Y:=Pat) (λx l=>dL x<=n/\qhD x l) (λx l r=>r=l++am x) bM 13
abbrev i_leavesA:Spc:=qmn (X:=Pat) (Y:=Pat) (λx l=>qhD x l) (λx l r=>r=l++am x) bM 13
def qj4{ks:List Pat}{k:Nat}{x:Pat}(l:List Pat)(a:ks[k]? =some x):(l++ (ks.take k).flatMap am) ++am x=l++ (ks.take (k+1)).flatMap am:=by
 rw[au a,qH2,List.flatMap_singleton,qG6]
def qcT{ks:List Pat}{k:Nat}{x:Pat}{l:List Pat}(a:ks[k]? =some x)(h:l.length+ (ks.flatMap am).length<=100000000):qhD x (l++ (ks.take k).flatMap am):=by
 have:ks=ks.take k++x::ks.drop (k+1):=by rw[<-bE a,qGB]
 rw[this]at h;simp only[qH2,qG0,qGC]at h;unfold qhD;rw[qGC];omega
theorem Ul(n:Nat)(h1:S gu=qag n):QK (X:=Pat) (Y:=Pat) nb mR S (λx l=>dL x<=n+1/\qhD x l) (λx l r=>r=l++am x) bM 13:=by
 rintro v l p ⟨hp,hl⟩;have hk:∀k∈p.kids,dL k<=n:=λk hk=>by have:=kS hk;have:dL p<=n+1:=hp;omega
 have a:=hl;unfold qhD at a;rw[aW]at a;simp[nb,mR];refine⟨λh1=>⟨by simp[h1]at a;omega,by simp[h1]at a;omega,λv=>dM (l++am p) (by simp[aW,h1]) rfl⟩,λb _=>?_⟩;rw[if_neg b]at a;refine ah (X:=Value×List Pat) [15] [] p.kids.length (λk x=>x.2=l++ (p.kids.take k).flatMap am) (λx=>[(1, .own 1 x.1)]) (λx=>[(1, .row x.1 bM 13 (x.2.map enc))]) (v,l) (by simp) ?_ ?_ (hh:=by simp[isNilRow])
 ·rintro k ⟨v,m⟩ c hm;simp only at hm;obtain⟨x,d⟩:=aR c;have h:=aP d;obtain⟨_,j⟩:=qF4.1 d;have q:=qcT d a;rw[<-hm]at q;have s:=hk x h;simp[h1,c,d,j,q,s];intro v';refine .inl ?_;rw[hm,qj4 _ d]
 ·rintro⟨v,m⟩ hm;simp only at hm;rw[qGc]at hm;simp;refine dM m (by simp) ?_;rw[hm,aW,if_neg b]
abbrev qkS:Spc:=qtq (Y:=Pat) (aE Pat (aD a0)) (λx=>x.2.1=Tm/\qhD x.1 []) (λx r=>r=am x.1) bM 13
theorem Q9(h1:S gu=i_leavesA):qbr (Y:=Pat) nb mR S (aE Pat (aD a0)) (λx=>x.2.1=Tm/\qhD x.1 []) (λx r=>r=am x.1) bM 13:=by
 rintro⟨p,d,⟨⟩⟩ ⟨j,hl⟩;have j:d=Tm:=j;subst j;have a:([]:List Pat).length+ (am p).length<=100000000:=hl;rw[aW]at a;simp[nb,mR];refine⟨λh1 v=>dM (am p) (by simp[aW,h1]) rfl,λb _=>?_⟩;rw[if_neg b]at a;refine ah (X:=Value×List Pat) [15] [] p.kids.length (λk x=>x.2=[] ++ (p.kids.take k).flatMap am) (λx=>[(1, .own 1 x.1)]) (λx=>[(1, .row x.1 bM 13 (x.2.map enc))]) (.slice none 0 0, []) (by simp) ?_ ?_ (hh:=by simp[isNilRow])
 ·rintro k ⟨v,m⟩ c hm;simp only at hm;obtain⟨x,h⟩:=aR c;have s:=aP h;obtain⟨_,l⟩:=qF4.1 h;have q:=qcT h a;rw[<-hm]at q;simp[h1,c,h,l,q];intro v';refine .inl ?_;rw[hm,qj4 _ h];rfl
 ·rintro⟨v,m⟩ hm;simp only at hm;rw[qGc]at hm;simp;refine dM m (by simp) ?_;rw[hm,aW,if_neg b];rfl
abbrev s_leaves:Spc:=qq8 qkS i_leavesA
abbrev uo:Spc:=ax (a1 Pat) (λx=>(am x).length<=100000000) (enc (X:=List Pat)) λx y=>y=if eX ay x then am x else[]
def Um(h1:S fZ=df)(h2:S gu=s_leaves):aq yl xw S (a1 Pat) (λx=>(am x).length<=100000000) (enc (X:=List Pat)) λx y=>y=if eX ay x then am x else[]:=by
 rintro p hp;have a:qhD p []:=by unfold qhD;simpa using hp
 simp[yl,xw,h1,h2,-fB'];clear h1 h2;exact⟨λh=>aL [] (by simp) (by rw[h];rfl),λh=> .inl ⟨a,λv=>aL (am p) (fq bM (by simp)) (by rw[h];rfl)⟩⟩
abbrev zY:Spc:=ax (a1 Pat) (λx=>eX ay x=true) (enc (X:=Int)) λx y=>y=fO x
abbrev FW:Spc:=ax (a1 Pat) (λ_=>True) (enc (X:=Int)) λx y=>y=if eX ay x then fO x else 0
def qbM(h1:S fZ=df)(h2:S ra=zY):aq DH CK S (a1 Pat) (λ_=>True) (enc (X:=Int)) λx y=>y=if eX ay x then fO x else 0:=by
 rintro p -;simp[DH,CK,h1,h2,-fB'];exact⟨λh1 h2=>absurd (h1.symm.trans h2) (by simp),λh1=>⟨h1,λh2=>absurd (h2.symm.trans h1) (by simp)⟩⟩
abbrev H5:Spc:=ax (a1 Pat) (λx=>eX ay x=true) (iA (Y:=Int) (Z:=Int)) λx y=>y=aU x
abbrev D4:Spc:=ax (a1 Pat) (λ_=>True) (iA (Y:=Int) (Z:=Int)) λx y=>y=if eX ay x then aU x else(0,0)
def XQ(h1:S fZ=df)(h2:S sG=H5):aq Ba Ag S (a1 Pat) (λ_=>True) (iA (Y:=Int) (Z:=Int)) λx y=>y=if eX ay x then aU x else(0,0):=by
 rintro p -;simp[Ba,Ag,h1,h2,iA,-fB'];exact⟨λh1 h2=>absurd (h1.symm.trans h2) (by simp),λh1=>⟨h1,λh2=>absurd (h2.symm.trans h1) (by simp)⟩⟩
abbrev qiA:Spc:=ax (a1 Cond) (λ_=>True) (enc (X:=Bool)) λx y=>(y=true↔x=sW)
def Uw:aq yu xI S (a1 Cond) (λ_=>True) (enc (X:=Bool)) λx y=>(y=true↔x=sW):=by
 rintro⟨op,n,a,v,l,f,ks⟩ -;simp[yu,xI,sW]
 repeat' first|apply And.intro|intro _
 all_goals simp_all
abbrev U7:Spc:=ax (a1 Pat) (λ_=>True) (enc (X:=Bool)) λx y=>y=pm x
def Uz(h1:S A2=qiA):aq yw xK S (a1 Pat) (λ_=>True) (enc (X:=Bool)) λx y=>y=pm x:=by
 rintro p -;simp[yw,xK,h1,-fB'];clear h1
 repeat' first|apply And.intro|intro _
 all_goals (rw[qGD,qU];unfold rL;simp_all;try omega)
abbrev D2:Spc:=ax (a1 Pat) (λ_=>True) (enc (X:=Bool)) λx y=>y=mT ay x
def Rg(h1:S bN=ot):aq wg ve S (a1 Pat) (λ_=>True) (enc (X:=Bool)) λx y=>y=mT ay x:=by
 rintro p -;simp[wg,ve,h1,mT,-fB'];clear h1
 repeat' first|apply And.intro|intro _
 all_goals (first|omega|simp_all;try omega)
abbrev yY:Spc:=ax (a1 Pat) (λ_=>True) (enc (X:=Bool)) λx y=>y=lJ x
def N0:aq tR tm S (a1 Pat) (λ_=>True) (enc (X:=Bool)) λx y=>y=lJ x:=by
 rintro p -;simp[tR,tm,lJ]
 repeat' first|apply And.intro|intro _
 all_goals (first|omega|(rw[qGD];simp;omega))
theorem Ux(n:Nat)(h1:S iX=U5 n):aq yv xJ S (a1 Pat) (PPat (n+1)) (enc (X:=Int)) λx y=>y=fO x:=by
 rintro p hp;have hk:∀k∈p.kids,PPat n k:=λk=>hp.kid
 have hs:∀k∈p.kids,0<=fO k/\fO k<=1000:=λk h=>SB (v:=ay) k (hk k h).2
 simp[yv,xJ];intro _;refine ah (X:=Int) [1,7] [] p.kids.length (λk n=>n=fg (p.kids.take k) 0) (λn=>[(3,enc n)]) (λ_=>[]) 0 (by simp[fg]) ?_ ?_
 ·rintro k m b a;obtain⟨x,d⟩:=aR b;have c:=aP d;obtain⟨_,j⟩:=qF4.1 d;have hm:=qu (p.kids.take k) 0 (by omega) (by omega) (λy l=>(hs y (qGq l)).1);have h2:=hs x c;rw[<-a]at hm;have q:=hk x c;simp[h1,b,d,j,q];refine⟨by simp only[InR];omega,?_⟩;rw[au d,OE,<-a,fg,fg]
 ·rintro m a;have hm:=qu (p.kids.take p.kids.length) 0 (by omega) (by omega) (λy l=>(hs y (qGq l)).1);rw[<-a]at hm;rw[qGc]at a;have hn:=(dr hp.2).2.2;unfold lJ at hn;rw[decide_eq_true_eq]at hn;rw[oo,CB,<-a];simp;intro _;refine⟨λh=>λr=>absurd h r,λh0=>⟨λh6=>?_,λh6=>by rw[if_neg h0,if_neg h6]⟩⟩;rw[if_neg h0,if_pos h6];have hn:=hn h6;refine⟨λe=>by rw[if_neg (by omega),if_pos e],λe=>⟨λs=>?_,λs=>?_⟩⟩
  ·have h2:=pp hm.1 hm.2 (show 0<=p.mn+1 by omega) (show p.mn+1<=17 by omega);rw[if_pos (by omega)];exact⟨by simp only[InR];omega,by simp only[InR];omega,rfl⟩
  ·have h2:=pp hm.1 hm.2 (show 0<=p.mx by omega) (show p.mx<=16 by omega);rw[if_neg (by omega),if_neg e];exact⟨by simp only[InR];omega,rfl⟩
def UA(h1:S mW=df)(h2:S iX=zY):aq yy xM S (a1 Pat) (λ_=>True) (enc (X:=Int)) λx y=>y=if eX ay x then fO x else 0:=by
 rintro p -;simp[yy,xM,h1,h2,-fB'];exact⟨λh1 h2=>absurd (h1.symm.trans h2) (by simp),λh1=>⟨h1,λh2=>absurd (h2.symm.trans h1) (by simp)⟩⟩
def Rl(h1:S mW=df)(h2:S mV=H5):aq wk vj S (a1 Pat) (λ_=>True) (iA (Y:=Int) (Z:=Int)) λx y=>y=if eX ay x then aU x else(0,0):=by
 rintro p -;simp[wk,vj,h1,h2,iA,-fB'];exact⟨λh1 h2=>absurd (h1.symm.trans h2) (by simp),λh1=>⟨h1,λh2=>absurd (h2.symm.trans h1) (by simp)⟩⟩
theorem Rd(n:Nat)(h1:S mV=Ny n):aq iv hU S (a1 Pat) (PPat (n+1)) (iA (Y:=Int) (Z:=Int)) λx y=>y=aU x:=by
 rintro p hp;have hk:∀k∈p.kids,PPat n k:=λk=>hp.kid
 have hs:∀k∈p.kids,eO (aU k):=λk h=>zO (v:=ay) k (hk k h).2
 have hn:=(dr hp.2).2.2;unfold lJ at hn;rw[decide_eq_true_eq]at hn;rcases qT (dr hp.2).1 with⟨ho,_⟩|⟨ho,_⟩|⟨ho,b,ks,a⟩|⟨ho,b,a⟩
 ·simp[iv,hU,h1,ho,qhN ho]
 ·have:=qhM ho;rcases ho with ho|ho<;>simp[iv,hU,h1,ho,this]
 ·have hc:p.op≠1/\p.op≠2/\p.op≠3/\p.op≠6:=by omega
  have E:=hk b (by rw[a];simp);have c:=hs b (by rw[a];simp);simp[iv,hU,h1,hc,iA,a,E];refine⟨by omega,λ_=>?_⟩;refine ah (X:=Int×Int) [1,69] [] ks.length (λk w=>w=mO (decide (p.op=4)) (ks.take k) (aU b)/\eO w) (λw=>[(6,enc w.1),(7,enc w.2)]) (λ_=>[]) (aU b) (by simp[mO,c]) ?_ ?_
  ·rintro k w l ⟨q,d⟩;obtain⟨x,A⟩:=aR l;have s:x∈p.kids:=by rw[a];exact qHF _ (aP A)
   obtain⟨_,F⟩:=qF4.1 A;have L:=hk x s;have C:=hs x s;have key:∀r:Int×Int,r=QZ (decide (p.op=4)) w (aU x)->r=mO (decide (p.op=4)) (ks.take (k+1)) (aU b)/\eO r:=by
    intro r I;rw[au A,Sp,mO,mO,<-q];exact⟨I,by rw[I];exact Uc d C⟩
   simp[h1,l,A,F,L,iA];clear h1;generalize aU x=u at C key;obtain⟨N,O⟩:=u;obtain⟨Q,U⟩:=w;unfold eO at C d;simp only at C d;clear q;refine⟨λt=>⟨λh4=>⟨by simp only[InR];omega,by simp only[InR];omega,λj=>key _ ?_,λj=>key _ ?_⟩,λh4=>⟨λj=>key _ ?_,λj=>key _ ?_⟩⟩,λt=>⟨λh4=>⟨by simp only[InR];omega,by simp only[InR];omega,key _ ?_⟩,λh4=>key _ ?_⟩⟩
   all_goals clear key
   all_goals (try simp only at t)
   all_goals (try simp only at j)
   all_goals (unfold QZ;simp[h4];try omega)
  ·rintro w ⟨J,_⟩;simp[iA];rw[qhL ho a];rw[qGc]at J;rw[<-J]
 ·have E:=hk b (by rw[a];simp);have c:=hs b (by rw[a];simp);have hn:=hn ho;simp[iv,hU,h1,ho,a,E,iA];rw[qhK ho a];generalize aU b=w at c;unfold eO at c;have h2:=pp c.1 c.2.1 hn.1 hn.2.1;refine⟨by simp only[InR];omega,λt=>⟨λj=>by rw[if_pos (.inr j)],λj=>⟨λM=>⟨λK=>?_,λK=>?_⟩,λM=>?_⟩⟩,λt=>by rw[if_pos (.inl t)]⟩
  ·rw[if_neg (by omega),if_pos (by omega)]
  ·have h3:=pp K c.2.2.2 (show 0<=p.mx by omega) (show p.mx<=16 by omega);refine⟨by simp only[InR];omega,?_⟩;rw[if_neg (by omega),if_neg (by omega)]
  ·rw[if_neg (by omega),if_pos (by omega)]
def FunOnP{X Y:Type}[Cod X][Cod Y](S:Nat->Spc)(d:D)(l:List X)(p:X->Y):Prop:=
 ∃g caps a,d= .clo g caps/\S g= .pure a/\∀x∈l,a.pre (enc x::caps)/\∀r,a.post (enc x::caps) r->r=enc (p x)
def FunOnP.useB{X:Type}[Cod X]{S:Nat->Spc}{d:D}{l:List X}{p:X->Bool}(h:FunOnP S d l p)(x:X)(b:x∈l){c:Nat}{H:ab}{K:D->ab->Prop}(hk:∀y:Bool,(∀q,FunOnP S d l q->y=q x)->K (.v (.bool y)) H):DL S d c [enc x] H K:=by
 obtain⟨g,caps,t,rfl,h1,h2⟩:=h;simp only[DL,h1,Spc.pt];refine⟨(h2 x b).1,λr j=>?_⟩;have e:=(h2 x b).2 r j;rw[e];refine hk (p x) λq k=>?_
 obtain⟨u,a,s,w,A,C⟩:=k;grind [cD]
def FunIs.on{X Y:Type}[Cod X][Cod Y]{S:Nat->Spc}{d:D}{p:X->Y}(h:FunIs S d p)(l:List X):FunOnP S d l p:=by
 grind [FunOnP,FunIs]
def K2{X Y:Type}[Cod X][Cod Y]{S:Nat->Spc}{g:Nat}{c:D}{l:List X}{pre:X×D×Unit->Prop}{post:X×D×Unit->Y->Prop}{p:X->Y}(h:S g=ax (aE X (aD a0)) pre enc post)(hp:∀x∈l,pre (x,c,()))(d:∀x∈l,∀y,post (x,c,()) y->y=p x):FunOnP S (.clo g [c]) l p:=by
 refine⟨g, [c],_,rfl,h,λx a=>⟨⟨(x,c,()),by simp,hp x a⟩,λr b=>?_⟩⟩;obtain⟨y,rfl,j⟩:=b (x,c,()) (by simp) (hp x a);grind
def qeD(x:Pat):D.agg [D.v (Value.int IntKind.i64 x.op),D.v (Value.int IntKind.i64 x.cond.op),D.v (Value.string x.cond.name),D.v (Value.string x.cond.arg),D.v (Value.string x.cond.val),D.v (Value.string x.cond.lab),D.v (Value.bool x.cond.fold),D.list 7 (List.map enc x.cond.kids),D.v (Value.string x.lab),D.v (Value.string x.reg),D.v (Value.int IntKind.i64 x.mn),D.v (Value.int IntKind.i64 x.mx),D.list 13 (List.map enc x.kids)]=enc x:=by simp
def Xw(S0:Nat->Spc)(x:List Pat×D×Unit):Prop:=∃p:Pat->Bool,FunOnP S0 x.2.1 x.1 p
def Xr(S0:Nat->Spc)(x:List Pat×D×Unit)(y:Int):Prop:=∀p:Pat->Bool,FunOnP S0 x.2.1 x.1 p->y=fL x.1 p
abbrev qqM(S0:Nat->Spc):Spc:=ax (aE (List Pat) (aD a0)) (Xw S0) enc (Xr S0)
def uJ:aq fl fh S (aE (List Pat) (aD a0)) (Xw S) enc (Xr S):=by
 rintro⟨l,d,⟨⟩⟩ ⟨p,hp⟩;simp at hp;simp[fl,fh];intro _;refine ah (X:=Unit) [0,1] [] l.length (λk _=>∀p:Pat->Bool,FunOnP S d l p->∀x∈l.take k,p x=false) (λ_=>[]) (λ_=>[]) () (by simp) ?_ ?_
 ·intro k _ hk b;simp;refine⟨hk,λx a=>?_⟩;rw[qeD x];refine hp.useB x (aP a) λy j=>?_
  simp;refine⟨λh=>?_,λh q c=>?_⟩;grind [Xr,pu]
  ·rw[au a];grind
 ·intro _ b;simp;grind [Xr,ig]
def ql4(S0:Nat->Spc)(x:List Pat×D×Unit)(y:Bool):Prop:=∀p:Pat->Bool,FunOnP S0 x.2.1 x.1 p->y=x.1.any p
abbrev Vf(S0:Nat->Spc):Spc:=ax (aE (List Pat) (aD a0)) (Xw S0) enc (ql4 S0)
def sf(h1:S kV=qqM S0):aq ei dY S (aE (List Pat) (aD a0)) (Xw S0) enc (ql4 S0):=by
 rintro⟨l,d,⟨⟩⟩ hp;simp[ei,dY,h1,-fB'];refine⟨hp,λy b c a=>?_⟩;rw[b c a];grind [Spc,AO]
abbrev SG(n:Nat):Spc:=ax (a2 Pat Int) (λx=>dL x.1<=n/\0<=x.2/\x.2<=101) (enc (X:=Bool)) λx y=>y=cF x.1 x.2
def qp3(n:Nat)(x:Pat×D×Unit):Prop:=∃d:Int,x.2.1= .cptr [enc d] 0/\dL x.1<=n/\0<=d/\d<=100
def qlZ(x:Pat×D×Unit)(y:Bool):Prop:=∀d:Int,x.2.1= .cptr [enc d] 0->y=!cF x.1 (d+1)
abbrev qiJ(n:Nat):Spc:=ax (aE Pat (aD a0)) (qp3 n) enc qlZ
def Hq(n:Nat)(h1:S jx=SG n):aq nL ny S (aE Pat (aD a0)) (qp3 n) enc qlZ:=by
 rintro⟨p,d,⟨⟩⟩ ⟨e,a,h2,h3,h4⟩;simp at a h2;subst a;simp[nL,ny,h1,qlZ,h2,-fB'];grind [Spc,InR]
def Mt(n:Nat)(h0:S0 gy=qiJ n)(h1:S aO=Vf S0):aq ru qC S (a2 Pat Int) (λx=>dL x.1<=n+1/\0<=x.2/\x.2<=101) (enc (X:=Bool)) λx y=>y=cF x.1 x.2:=by
 rintro⟨p,d⟩ ⟨hn,a,b⟩;have hk:∀k∈p.kids,dL k<=n:=λk hk=>by have:=kS hk;grind
 simp only at a b;simp[ru,qC,h1,-fB'];rw[nW];refine⟨λh=>?_,λh=>by grind⟩;have j:FunOnP S0 (.clo gy [.cptr [.v (.int .i64 d)] 0]) p.kids λx=>!cF x (d+1):=
  K2 h0 (λx l=>⟨d,rfl,hk x l,a,h⟩) (λx _ y c=>c d rfl)
 refine⟨⟨_,j⟩,λy c=>?_⟩;rw[c _ j,decide_eq_true h,qHs];grind
def qp5(S0:Nat->Spc)(n:Nat)(x:Pat×D×Unit):Prop:=∃(d:D) (f:Pat->Bool),x.2.1= .cptr [d] 0/\FunIs S0 d f/\dL x.1<=n
def ql0(S0:Nat->Spc)(x:Pat×D×Unit)(y:Bool):Prop:=∀(d:D) (f:Pat->Bool),x.2.1= .cptr [d] 0->FunIs S0 d f->y=!cm f x.1
abbrev qeh(S0:Nat->Spc)(n:Nat):Spc:=ax (aE Pat (aD a0)) (λx=>∃f:Pat->Bool,FunIs S0 x.2.1 f/\dL x.1<=n) enc λx y=>∀f:Pat->Bool,FunIs S0 x.2.1 f->y=cm f x.1
abbrev qiY(S0:Nat->Spc)(n:Nat):Spc:=ax (aE Pat (aD a0)) (qp5 S0 n) enc (ql0 S0)
def Mw(n:Nat)(h1:S fp=qeh S0 n):aq rz qE S (aE Pat (aD a0)) (qp5 S0 n) enc (ql0 S0):=by
 rintro⟨p,d,⟨⟩⟩ ⟨e,f,a,h2,h3⟩;simp at a h3;subst a;simp[rz,qE,h1,ql0,h3,-fB'];grind
theorem Rh{N:Nat->Spc}(n:Nat)(j:∀(d:D) (f:Pat->Bool),FunIs N d f->FunIs S d f)(h0:S0 jz=qiY N n)(h1:S aO=Vf S0):aq wh vg S (aE Pat (aD a0)) (λx=>∃f:Pat->Bool,FunIs N x.2.1 f/\dL x.1<=n+1) enc λx y=>∀f:Pat->Bool,FunIs N x.2.1 f->y=cm f x.1:=by
 rintro⟨p,d,⟨⟩⟩ ⟨f,a,hn⟩;have hk:∀k∈p.kids,dL k<=n:=λk hk=>by have:=kS hk;grind
 simp at a;have h:d.kn=true/\d.cells=[d]:=by obtain⟨g,caps,s,rfl,_⟩:=a;simp
 simp[wh,vg,h1,h,-fB'];rw[qeD p];refine((j d f a).on [p]).useB p (by simp) λy c=>?_
 have c:∀f,FunIs N d f->y=f p:=λf a=>c f ((j d f a).on [p])
 simp[h1,-fB'];refine⟨λl=>?_,λq g b=>by grind [cU]⟩;have hO:∀g,FunIs N d g->FunOnP S0 (.clo jz [.cptr [d] 0]) p.kids λx=>!cm g x:=λg b=>
  K2 h0 (λx r=>⟨d,g,rfl,b,hk x r⟩) (λx _ y c=>c d g rfl b)
 refine⟨⟨_,hO f a⟩,λz hz g b=>?_⟩;rw[hz _ (hO g b),cU,<-c g b,l,qHs];grind
abbrev OI:Spc:=ax (a2 Pat Int) (λx=>0<=x.2/\x.2<=101) (enc (X:=Bool)) λx y=>y=cF x.1 x.2
abbrev CD(N:Nat->Spc):Spc:=ax (aE Pat (aD a0)) (λx=>∃f:Pat->Bool,FunIs N x.2.1 f) enc λx y=>∀f:Pat->Bool,FunIs N x.2.1 f->y=cm f x.1
abbrev NC:Spc:=ax (a1 Pat) (λ_=>True) (enc (X:=Bool)) λx y=>y=(cF x 1 && cm pm x)
def vA{X:Type}[Cod X]{S:Nat->Spc}{g:Nat}{pre:X->Prop}{p:X->Bool}(h:S g=ax (a1 X) pre enc λx y=>y=p x)(hp:∀x,pre x):FunIs S (.clo g []) p:=by
 refine⟨g, [],_,rfl,h,λx=>⟨⟨x,by simp,hp x⟩,λr a=>?_⟩⟩;simp_all
def Ro{N:Nat->Spc}(h0:N lM=U7)(h1:S jx=OI)(h2:S fp=CD N):aq wl vk S (a1 Pat) (λ_=>True) (enc (X:=Bool)) λx y=>y=(cF x 1 && cm pm x):=by
 rintro p -;have f1:FunIs N (.clo lM []) pm:=vA h0 λ_=>trivial
 simp[wl,vk,h1,h2,-fB'];grind
def Re{N:Nat->Spc}(h0:N dA=D2)(a:N da=yY)(h1:S na=NC)(h2:S fp=CD N):aq we vd S (a1 Pat) (λ_=>True) (enc (X:=Bool)) λx y=>y=eX ay x:=by
 rintro p -;have f1:FunIs N (.clo dA []) (mT ay):=vA h0 λ_=>trivial
 have b:FunIs N (.clo da []) lJ:=vA a λ_=>trivial
 simp[we,vd,h1,h2,-fB'];grind [eX,cF]
end
section
mutual
def jA:Pat->Nat| .mk op _ _ _ mn _ ks=>if ks=[]then 1 else if op=6 then(max 1 mn).toNat*lY ks else lY ks
def lY:List Pat->Nat|[]=>0|k::ks=>jA k+lY ks
end
def kB(p:Pat):jA p=if p.kids=[]then 1 else if p.op=6 then(max 1 p.mn).toNat*lY p.kids else lY p.kids:=by cases p;unfold jA;rfl
def D6(a b:List Pat):bB (a++b)=bB a+bB b:=by
 induction a with
 |nil=>simp[bB]
 |cons k a c=>simp only[qG4,bB];omega
def Qq(p:Pat):1<=jA p:=by
 induction p using fJ with|_ p a=>?_
 rw[kB];split
 ·omega
 ·rename_i h;have:1<=lY p.kids:=by
   rcases hk:p.kids with _|⟨k,ks⟩
   ·exact absurd hk h
   ·rw[lY];have:=a k (by rw[hk];simp);omega
  split
  ·exact Nat.mul_pos (by omega) this
  ·exact this
theorem qqc{lb:List B} :∀n p,WP lb n p->jA p<=2^n:=by
 refine JS λn p hp h=>?_
 rw[kB];rcases yL hp with(⟨h1,h2,h3,h4,h5,h6⟩|⟨h1,h2,h3,h4,h5,h6,c⟩)|⟨m,rfl,(⟨h1,h2,h3,h4,h5,h6,a,b,c,_⟩|⟨h1,h2,h3,h4,h5,a,c,_⟩)⟩
 ·rw[if_pos h6];exact Nat.one_le_two_pow
 ·rw[if_pos c];exact Nat.one_le_two_pow
 ·obtain⟨j,d,_,a1⟩:=h a (by rw[c];simp);obtain⟨l,k,_,a2⟩:=h b (by rw[c];simp);have d:j=m:=by omega
  have k:l=m:=by omega
  subst d;subst k;rw[c,if_neg (by simp),if_neg (by omega),Nat.pow_succ];simp only[lY];omega
 ·obtain⟨j,d,_,a1⟩:=h a (by rw[c];simp);have d:j=m:=by omega
  subst d;rw[c,if_neg (by simp),if_pos h1,Nat.pow_succ];simp only[lY];have:(max 1 p.mn).toNat<=2:=by
   simp[qbu]at h5;omega
  have:=Nat.mul_le_mul this a1;rw[qHq];omega
open Cod (enc dec)
variable {S S0:Nat->Spc}
def qfJ{a:Sg}{H:ab}{k j b el n:Nat}{cs cs':List D}(l:j≠k)(hk:H k=some (.box b cs))(hl:cs.length=cs'.length)(hc:∀(m:Nat) (c c':D),cs[m]? =some c->cs'[m]? =some c'->FrzTo dm c c'):
 Wk a H a (aj (aj H k (some (.box b cs'))) j (some (.row (.slice none 0 0) el n []))):=by
 refine qbG (Hf:=dm) id (λt=> .same _) (λi r h=>?_) (λi j r s _ _ e=> .inl e) (λi r h=>by simp_all);by_cases e:i=j
 ·subst e;simp[aj]at h;subst h;exact .inr ⟨rfl,rfl⟩
 ·by_cases d:i=k
  ·subst d;simp[aj,e]at h;subst h;exact .inl ⟨_,hk, .inr ⟨rfl,hl,hc⟩⟩
  ·simp only[aj,e,d,if_false]at h;exact .inl ⟨r,h, .inl rfl⟩
def M9:Nat->Cond->Prop
 | 0,_=>False
 |n+1,x=>x.kids.length<=1000000/\∀k∈x.kids,M9 n k
abbrev Zo(n:Nat):Spc:=ax (a1 Cond) (M9 n) (enc (X:=Cond)) λx y=>y=x
theorem N4(n:Nat)(h1:S lc=Zo n):aq tS tn S (a1 Cond) (M9 (n+1)) (enc (X:=Cond)) λx y=>y=x:=by
 rintro⟨op,name,arg,val,lab,fold,kids⟩ ⟨hlen,hk⟩;simp only at hlen hk;simp[tS,tn];intro b2 p t;refine Ke (qfJ (k:=3) (j:=20) (b:=p) (el:=iE) (n:=7) (cs':=[.v (.int .i64 op), .v (.string name), .v (.string arg), .v (.string val), .v (.string lab), .v (.bool fold), .own 20 (.slice none 0 0)]) (by decide) (by rfl) (by simp) ?_) ?_
 ·intro m c c' hc d
  match m with
  | 0|1|2|3|4|5=>simp_all
  | 6=>simp at hc d;subst hc;subst d;exact .nilown _
  |m+7=>simp at hc
 refine ah (X:=Value×List Cond) [2,9] [2] kids.length (λk x=>x.2=kids.take k) (λx=>[(3, .bptr 3 p 0)]) (λx=>[(3, .box p [.v (.int .i64 op), .v (.string name), .v (.string arg), .v (.string val), .v (.string lab), .v (.bool fold), .own 20 x.1]),(20, .row x.1 iE 7 (x.2.map enc))]) (.slice none 0 0, []) (by simp) ?_ ?_
 ·rintro k ⟨v,m⟩ a hm;simp only at hm;obtain⟨x,q⟩:=aR a;obtain⟨_,r⟩:=qF4.1 q;have s:=hk x (aP q);have u:m.length=k:=by grind
  simp[h1,a,q,r,s];refine⟨by omega,by omega,λv=> .inl (.inl ?_)⟩;simp_all [qG7]
 ·rintro⟨v,m⟩ hm;simp only at hm;rw[qGc]at hm;subst hm;simp;refine aL (Y:=Cond) ⟨op,name,arg,val,lab,fold,m⟩ ?_ rfl;simp;refine .agg (by simp) λi c c' h l=>?_
  match i with
  | 0|1|2|3|4|5=>simp at h l;subst h;subst l;exact .same _
  | 6=>simp at h l;subst h;subst l;exact fq iE (by simp)
  |i+7=>simp at h
def qFR{H:ab}{l a:List D}(h:FzL H l a):FrzTo H (.agg l) (.agg a):= .agg h.get.1 h.get.2
abbrev SR:Spc:=ax (a1 Cond) (λx=>∃n,M9 n x) (enc (X:=Cond)) λx y=>y=x
def mC(p:Pat):Pat:=⟨p.op,p.cond,p.lab,⟨#[]⟩,0,0, []⟩
abbrev Vb:Spc:=ax (a1 Pat) (λp=>∃n,M9 n p.cond) (enc (X:=Pat)) λx y=>y=mC x
def Ri(h1:S lc=SR):aq wi vh S (a1 Pat) (λp=>∃n,M9 n p.cond) (enc (X:=Pat)) λx y=>y=mC x:=by
 rintro p hp;simp[wi,vh,h1,hp];intro b;refine aL (Y:=Pat) (mC p) ?_ rfl;simp[mC,qFR]
def bA(p:Pat):List Pat:=(am p).map mC
def AN(p:Pat):bA p=if p.op=1 then[mC p]else p.kids.flatMap bA:=by
 unfold bA;grind [aW,List.map_flatMap]
def PLc(p:Pat):Prop:=∀y∈am p,∃n,M9 n y.cond
def PLc.kid{p k:Pat}(h:PLc p)(a:¬p.op=1)(hk:k∈p.kids):PLc k:=λy b=>h y (by rw[aW,if_neg a];grind)
theorem qj6{ks:List Pat}{k:Nat}{x:Pat}(l:List Pat)(a:ks[k]? =some x):(l++ (ks.take k).flatMap bA) ++bA x=l++ (ks.take (k+1)).flatMap bA:=by
 rw[au a,qH2,List.flatMap_singleton,qG6]
def qhv(x:Pat)(l:List Pat):Prop:=l.length+ (am x).length<=100000000/\PLc x
theorem qrt(ks:List Pat):(ks.flatMap bA).length=(ks.flatMap am).length:=by
 simp[bA]
def qj5{ks:List Pat}{k:Nat}{x:Pat}{l:List Pat}(a:ks[k]? =some x)(h:l.length+ (ks.flatMap am).length<=100000000)(hc:PLc x):qhv x (l++ (ks.take k).flatMap bA):=by
 have:=qcT a h;grind [qhv,qhD,qrt]
abbrev Tw(n:Nat):Spc:=qmn (X:=Pat) (Y:=Pat) (λx l=>dL x<=n/\qhv x l) (λx l r=>r=l++bA x) bM 13
abbrev i_leavesQA:Spc:=qmn (X:=Pat) (Y:=Pat) (λx l=>qhv x l) (λx l r=>r=l++bA x) bM 13
theorem N1(n:Nat)(h1:S dE=Tw n)(h2:S rY=Vb):QK (X:=Pat) (Y:=Pat) jB jo S (λx l=>dL x<=n+1/\qhv x l) (λx l r=>r=l++bA x) bM 13:=by
 rintro v l p ⟨hp,hl,hc⟩;have hk:∀k∈p.kids,dL k<=n:=λk hk=>by have:=kS hk;omega
 have a:=hl;rw[aW]at a;simp[jB,jo,h2];refine⟨λh1=>?_,λb _=>?_⟩
 ·have j:∃n,M9 n p.cond:=hc p (by simp_all [aW]);simp[h1]at a;exact⟨j,by omega,by omega,λv=>dM (l++bA p) (by simp[AN,h1]) rfl⟩
 rw[if_neg b]at a;refine ah (X:=Value×List Pat) [16] [] p.kids.length (λk x=>x.2=l++ (p.kids.take k).flatMap bA) (λx=>[(1, .own 1 x.1)]) (λx=>[(1, .row x.1 bM 13 (x.2.map enc))]) (v,l) (by simp) ?_ ?_
 ·rintro k ⟨v,m⟩ c hm;simp only at hm;obtain⟨x,h⟩:=aR c;have d:=aP h;obtain⟨_,q⟩:=qF4.1 h;have s:=qj5 h a (hc.kid b d);rw[<-hm]at s;have t:=hk x d;simp[h1,c,h,q,s,t];grind [qj6]
 ·rintro⟨v,m⟩ hm;simp only at hm;rw[qGc]at hm;simp;refine dM m (by simp) ?_;rw[hm,AN,if_neg b]
abbrev qg8:Spc:=qtq (Y:=Pat) (aE Pat (aD a0)) (λx=>x.2.1=Tm/\qhv x.1 []) (λx r=>r=bA x.1) bM 13
theorem Mu(h1:S dE=i_leavesQA)(h2:S rY=Vb):qbr (Y:=Pat) jB jo S (aE Pat (aD a0)) (λx=>x.2.1=Tm/\qhv x.1 []) (λx r=>r=bA x.1) bM 13:=by
 rintro⟨p,d,⟨⟩⟩ ⟨j,hl,hc⟩;have j:d=Tm:=j;subst j;have a:([]:List Pat).length+ (am p).length<=100000000:=hl;rw[aW]at a;simp[jB,jo,h2];refine⟨λh1=>⟨hc p (by simp_all [aW]),λv=>dM (bA p) (by simp[AN,h1]) rfl⟩,λb _=>?_⟩;rw[if_neg b]at a;refine ah (X:=Value×List Pat) [16] [] p.kids.length (λk x=>x.2=[] ++ (p.kids.take k).flatMap bA) (λx=>[(1, .own 1 x.1)]) (λx=>[(1, .row x.1 bM 13 (x.2.map enc))]) (.slice none 0 0, []) (by simp) ?_ ?_ (hh:=by simp[isNilRow])
 ·rintro k ⟨v,m⟩ c hm;simp only at hm;obtain⟨x,h⟩:=aR c;have l:=aP h;obtain⟨_,q⟩:=qF4.1 h;have s:=qj5 h a (hc.kid b l);rw[<-hm]at s;simp[h1,c,h,q,s];grind [qj6]
 simp_all [dM,AN]
abbrev s_leavesQ:Spc:=qq8 qg8 i_leavesQA
abbrev uS:Spc:=ax (a1 Pat) (λx=>qhv x []) (enc (X:=List Pat)) λx y=>y=if eX ay x then bA x else[]
def mN(out:List B)(x:B):List B:=if x=E0 then out else DV out x
mutual
def bp:Pat->List B->List B
 | .mk op c l r mn mx ks,out=>Wp ks (mN out l)
def Wp:List Pat->List B->List B
 | [],out=>out
 |k::ks,out=>Wp ks (bp k out)
end
def Ma:∀(l:List Pat) (out:List B),Wp l out=l.foldl (λo k=>bp k o) out
 | [],out=>by rfl
 |k::l,out=>by rw[Wp,Ma l];rfl
def pr(p:Pat)(out:List B):bp p out=p.kids.foldl (λo k=>bp k o) (mN out p.lab):=by
 cases p;rw[bp,Ma]
def JH(out:List B)(x:B):(mN out x).length<=out.length+1:=by
 grind [mN,DV]
theorem qgP(p:Pat):∀out,(bp p out).length<=out.length+cK p:=by
 induction p using fJ with|_ p a=>?_
 intro out;rw[pr,cP];have:∀(ks:List Pat) (o:List B),(∀k∈ks,k∈p.kids)->(ks.foldl (λo k=>bp k o) o).length<=o.length+bB ks:=by
  intro ks
  induction ks<;>grind [bB]
 have h1:=this p.kids (mN out p.lab) λ_ h=>h
 have h2:=JH out p.lab;omega
def Tt(ks:List Pat)(k:Nat)(lb:List B):((ks.take k).foldl (λo k=>bp k o) lb).length<=lb.length+bB (ks.take k):=by
 generalize ks.take k=l
 induction l generalizing lb<;>grind [bB,qgP]
def qko(l:List B)(x:B):Bool:=l.any λz=>decide (z=x)
theorem PY{l:List B}{x:B} :qko l x=true↔x∈l:=by
 unfold qko;simp
abbrev s_hasE:Spc:=ax (aE (List B) (a1 B)) (λ_=>True) (enc (X:=Bool)) λx y=>y=qko x.1 x.2
abbrev qwz:Spc:=qzX (Y:=B) (a1 B) (λ_=>True) (enc (X:=Bool)) (λx y=>y=qko x.1 x.2) av 1
def Fz(h1:S dQ=Va):aq cI cG S (aE (List B) (a1 B)) (λ_=>True) (enc (X:=Bool)) λx y=>y=qko x.1 x.2:=by
 rintro⟨l,x⟩ -;simp[cI,cG,h1];exact AO _ l
abbrev s_has2:Spc:=qq8 s_hasE qwz
def qme(x:Pat)(l:List B):Prop:=l.length+cK x<=1000000
def qwK(x:Pat)(l r:List B):Prop:=r=bp x l
abbrev qah(n:Nat):Spc:=qmn (X:=Pat) (Y:=B) (λx l=>dL x<=n/\qme x l) qwK av 1
abbrev i_labelsA:Spc:=qmn (X:=Pat) (Y:=B) qme qwK av 1
theorem N3(n:Nat)(h0:S bb=s_has2)(h1:S db=qah n):QK (X:=Pat) (Y:=B) jC jp S (λx l=>dL x<=n+1/\qme x l) qwK av 1:=by
 rintro v lb p ⟨y,hl⟩;have hk:∀k∈p.kids,dL k<=n:=λk h=>by have:=kS h;omega
 have hl:lb.length+cK p<=1000000:=hl;have q:=cP p;simp[jC,jp,h0];refine bh (X:=Value) [2] [] (λ_=>True) (λv=>[(1, .own 1 v)]) (λv=>[(1, .row v av 1 ((mN lb p.lab).map enc))]) ?_ ?_
 ·simp[h0,-fB'];refine⟨λhn=>?_,λhe=>?_⟩
  ·have hn:¬p.lab=E0:=hn;refine .inr ⟨λA=>⟨by omega,by omega,λv=> .inl ?_⟩,λC=> .inl ?_⟩
   ·rw[mN,if_neg hn,DV,if_neg (λh=>by grind [PY])];simp
   simp_all [mN,DV,PY]
  ·have he:p.lab=E0:=he;simp_all [mN]
 ·rintro v -;have r:=JH lb p.lab;simp;intro s;refine ah (X:=Value×List B) [23] [] p.kids.length (λk x=>x.2=(p.kids.take k).foldl (λo k=>bp k o) (mN lb p.lab)) (λx=>[(1, .own 1 x.1)]) (λx=>[(1, .row x.1 av 1 (x.2.map enc))]) (v,mN lb p.lab) (by simp) ?_ ?_
  ·rintro k ⟨v,ls⟩ b a;simp only at a;obtain⟨x,c⟩:=aR b;obtain⟨_,d⟩:=qF4.1 c;have t:qme x ls:=by
    have h2:=Tt p.kids k (mN lb p.lab);rw[<-a]at h2;have h4:bB (p.kids.take k) +bB (p.kids.drop k)=bB p.kids:=by rw[<-D6,qGB]
    rw[bE c,bB]at h4;show ls.length+cK x<=_;omega
   have j:=hk x (aP c);simp[b,c,d,h1,t,j];intro v' u w;obtain rfl:u=bp x ls:=w;simp_all [au]
  ·rintro⟨v,ls⟩ a;simp only at a;rw[qGc]at a;simp;refine dM ls (by simp) ?_;show ls=bp p lb;rw[pr,a]
abbrev qkT:Spc:=qtq (Y:=B) (aE Pat (aD a0)) (λx=>x.2.1= .v (.slice none 0 0)/\qme x.1 []) (λx r=>qwK x.1 [] r) av 1
theorem Mv(h0:S bb=s_has2)(h1:S db=i_labelsA):qbr (Y:=B) jC jp S (aE Pat (aD a0)) (λx=>x.2.1= .v (.slice none 0 0)/\qme x.1 []) (λx r=>qwK x.1 [] r) av 1:=by
 rintro⟨p,d,⟨⟩⟩ ⟨c,hl⟩;have c:d= .v (.slice none 0 0):=c;subst c;have hl:0+cK p<=1000000:=hl;have s:=cP p;simp[jC,jp,h0];refine bh (X:=Value) [2] [] (λ_=>True) (λv=>[(1, .own 21 v)]) (λv=>[(21, .row v av 1 ((mN [] p.lab).map enc))]) ?_ ?_
 ·simp[h0,-fB'];refine⟨λhn=>?_,λhe=>?_⟩
  ·have hn:¬p.lab=E0:=hn;simp_all [PY,mN,DV]
  ·have he:p.lab=E0:=he;simp_all [mN,isNilRow]
 ·rintro v -;have h:=JH [] p.lab;simp;intro t;refine ah (X:=Value×List B) [23] [] p.kids.length (λk x=>x.2=(p.kids.take k).foldl (λo k=>bp k o) (mN [] p.lab)) (λx=>[(1, .own 21 x.1)]) (λx=>[(21, .row x.1 av 1 (x.2.map enc))]) (v,mN [] p.lab) (by simp) ?_ ?_
  ·rintro k ⟨v,ls⟩ b a;simp only at a;obtain⟨x,j⟩:=aR b;obtain⟨_,l⟩:=qF4.1 j;have u:qme x ls:=by
    have h2:=Tt p.kids k (mN [] p.lab);rw[<-a]at h2;have q:(mN [] p.lab).length<=0+1:=h;have h4:bB (p.kids.take k) +bB (p.kids.drop k)=bB p.kids:=by rw[<-D6,qGB]
    rw[bE j,bB]at h4;show ls.length+cK x<=_;omega
   simp[b,j,l,h1,u];intro v' w y;obtain rfl:w=bp x ls:=y;simp_all [au]
  ·rintro⟨v,ls⟩ a;simp only at a;rw[qGc]at a;simp;refine dM ls (by simp) ?_;show ls=bp p [];rw[pr,a]
abbrev s_qlabels:Spc:=qq8 qkT i_labelsA
end
section
open Go.Proofs
section
variable {T:St3->St3->Prop}(h0:∀s,T s s)(h1:∀s t u,T s t->T t u->T s u)(r:Rn)
include h0 h1
end
open Cod (enc dec)
variable {S S0:Nat->Spc}
structure qwZ (c:Corpus) (p:Pat):Prop where
 sz:qt3 c
 few:c.toks.length<=170
 pat:eX ay p=true
 l3:(bp p []).length<=3
 num:cK p<=1000000
 nd:∀t∈c.texts,ER (qFY (qjj c (bp p []) t)) p
structure qAk (a:List Attr) (q:Qry):Prop where
 glob:q.glob=GlobE
 filts:q.filts=[]
 strat:q.strat=0
 pat:eX ay q.pat=true
 size:fO q.pat<=256
 l3:(bp q.pat []).length<=3
 num:cK q.pat<=1000000
 att:a.length<=1000
 lv:∀x∈am q.pat,qmm a (bp q.pat []) x.cond=true/\∃n,M9 n x.cond
abbrev Ib(V:List Attr->Qry->Prop):Spc:=ax (a2 Qry (List Attr)) (λx=>V x.2 x.1) (enc (X:=Int)) λ_ y=>y=0
abbrev qqL:Spc:=Ib qAk
structure qwS (V:List Attr->Qry->Prop) (c:Corpus) (q:Qry):Prop where
 v:V c.attrs q
 f:qwZ c q.pat
end
end Go.Gv
