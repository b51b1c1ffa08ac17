/- T38 -/
import Derived.Shelf.SlMaps.Clone
import Derived.Shelf.SlSortCmp.NoneTotal
import Derived.Test.YtfpmgnnippjblaaGreatDoorGb21
set_option linter.all false
set_option maxRecDepth 100000
set_option maxHeartbeats 0
open Bool renaming forall_bool → fB', exists_bool → eB'
namespace Go.Gv
section
open Cod (enc dec)
theorem Pp{a b:D}(l:E1 a=true)(hb:E1 b=true)(h:qfi a b):a=b:=by
 obtain⟨tp,I,w,x,h1,h2⟩:=h;have one:∀d:D,E1 d=true->(∃cs,d= .agg cs)\/ ∃v,d= .v v:=λd r=>by
  cases d<;>first|exact .inl ⟨_,rfl⟩|exact .inr ⟨_,rfl⟩|(simp[E1,D.cells,qs1]at r)
 rcases one a l with⟨cs,rfl⟩|⟨v,rfl⟩ <;>rcases one b hb with⟨cs',rfl⟩|⟨v',rfl⟩
 ·obtain⟨xs,rfl,hl,hc⟩:=h1.inv_agg;obtain⟨s,he,t,c⟩:=h2.inv_agg;have j:xs=s:=by simpa using he
  subst j;have k:cs=cs':=by
   refine List.ext_getElem (by omega) λi h3 h4=>?_
   have hi:i<xs.length:=by omega
   have v1:qs1 cs[i]=true:=qFT.1 l _ (by simp[D.cells]);have u:qs1 cs'[i]=true:=qFT.1 hb _ (by simp[D.cells]);have y:=(hc i _ _ (qFQ hi) (qFQ h3)).2;have A:=(c i _ _ (qFQ hi) (qFQ h4)).2;generalize cs[i]=p at*;generalize cs'[i]=q at*;cases p<;>first|(cases v1;done)|skip
   cases q<;>first|(cases u;done)|skip
   rw[<-y.inv_v,<-A.inv_v]
  rw[k]
 ·obtain⟨xs,rfl,_,_⟩:=h1.inv_agg;have:=h2.inv_v;cases h2 with
  |v _ h _=>simp[Value.oneCell']at h
 ·obtain⟨xs,rfl,_,_⟩:=h2.inv_agg;cases h1 with
  |v _ h _=>simp[Value.oneCell']at h
 ·rw[<-h1.inv_v,<-h2.inv_v]
structure qsu (X:Type) [Cod X] (ka:Bool) (ks:List KK):Prop where
 fit:∀x:X,qaj ka ks (enc x)=true
 pur:∀x:X,E1 (enc x)=true
def ZZ:qsu Int false [.int .i64]:=⟨λ_=>rfl,λ_=>rfl⟩
section
variable {X:Type}[Cod X][DecidableEq X]
def jm(l:List X):List D:=l.map λx=> .tup [enc x, .v (.bool true)]
def qcJ(x:X)(l:List X):List X:=if x∈l then l else l++ [x]
def ZO{x:X}{v:D}{l:List X} :D.tup [enc x,v] ∈jm l↔x∈l/\v= .v (.bool true):=by
 simp only[jm,qFV,D.tup.injEq,qGn,and_true];exact⟨λ⟨y,h1,h2,h3⟩=>⟨cD h2 ▸h1,h3.symm⟩,λ⟨h1,h2⟩=>⟨x,h1,rfl,h2.symm⟩⟩
def qib{d:D}{l:List X}(h:d∈jm l):∃x∈l,d= .tup [enc x, .v (.bool true)]:=by
 obtain⟨x,h1,rfl⟩:=qFV.1 h;exact⟨x,h1,rfl⟩
def Om:∀{l:List X} {j c:List D} {e:D},jm l=j++e::c->∃a x b,l=a++x::b/\j=jm a/\e= .tup [enc x, .v (.bool true)]/\c=jm b
 | [],j,c,e,h=>by
   have:=congrArg List.length h;simp[jm]at this
 | y::l, [],c,e,h=>by
   simp only[jm,qGp,qGK,qGn]at h;exact⟨[],y,l,rfl,rfl,h.1.symm,h.2.symm⟩
 | y::l,d::j,c,e,h=>by
   simp only[jm,qGp,qGN,qGn]at h;obtain⟨a,x,b,rfl,rfl,h3,h4⟩:=Om (l:=l) h.2;exact⟨y::a,x,b,rfl,by simp[jm,h.1],h3,h4⟩
def qic(a b:List X):jm (a++b)=jm a++jm b:=by simp[jm]
def YO{ka:Bool}{ks:List KK}(a:qsu X ka ks)(l:List X):(jm l).all (qcZ ka ks)=true:=by
 rw[qFT];intro d b;obtain⟨x,_,rfl⟩:=qib b;exact a.fit x
def qmP{ka:Bool}{ks:List KK}(c:qsu X ka ks){x:X}{l:List X}{k:D}{K:List D->Prop}(hk:k=enc x)(h:K (jm (qcJ x l))):Yg ka ks k (.v (.bool true)) (jm l) K:=by
 subst hk;refine⟨YO c l,c.fit x,λj p v' q e m=>?_,λhn=>?_⟩
 ·obtain⟨a,y,b,rfl,rfl,h3,rfl⟩:=Om e;simp only[D.tup.injEq,qGn,and_true]at h3;obtain⟨rfl,rfl⟩:=h3;have:=cD (Pp (c.pur x) (c.pur y) m);subst this;rw[<-e];have:qcJ x (a++x::b)=a++x::b:=by unfold qcJ;rw[if_pos (by simp)]
  rw[this]at h;exact h
 ·have d:x∉l:=λd=>hn (c.pur x) _ (ZO.2 ⟨d,rfl⟩)
  have:qcJ x l=l++ [x]:=by unfold qcJ;rw[if_neg d]
  rw[this,qic]at h;exact h
end
open Go.Proofs
structure St3 where
 p:Int
 b0:Int
 b1:Int
 b2:Int
deriving DecidableEq
instance:Cod St3 where
 wd:=4
 enc s:= .agg [enc s.p,enc s.b0,enc s.b1,enc s.b2]
 dec| .agg [a,b,c,j]=>(dec a).bind λa=>(dec b).bind λb=>(dec c).bind λc=>(dec j).bind λj=>some ⟨a,b,c,j⟩|_=>none
 kn _:=rfl
 wid _:=rfl
 dec_enc s:=by simp
 le d x h:=by
  split at h;grind [FrzTo,Option.bind_eq_some_iff,Cod.le];grind
structure Rn where
 c:Corpus
 lb:List B
 bg:Int
 en:Int
def St3.get(s:St3)(i:Nat):Int:=match i with|0=>s.b0|1=>s.b1|_=>s.b2
def St3.set(s:St3)(i:Nat)(x:Int):St3:=match i with|0=>⟨s.p,x,s.b1,s.b2⟩|1=>⟨s.p,s.b0,x,s.b2⟩|_=>⟨s.p,s.b0,s.b1,x⟩
def qzL(r:Rn)(s:St3):List Int:=(List.range r.lb.length).map λi=>s.get i -1
def qAl(r:Rn)(p:Pat)(s:St3):Option Bool:=qW ⟨r.c,s.p,r.lb,qzL r s⟩ 21 p.cond
section
variable {α:Type}
def Pow(R:α->α->Prop):Nat->α->α->Prop
 | 0=>λs t=>s=t
 |n+1=>λs t=>∃u,R s u/\Pow R n u t
def Star(R:α->α->Prop)(s t:α):Prop:=∃n,Pow R n s t
def Pow.add{R:α->α->Prop} :∀{m n:Nat} {s t u:α},Pow R m s t->Pow R n t u->Pow R (m+n) s u
 | 0,n,s,t,u,h,k=>by cases h;grind
 | m+1,n,s,t,u,⟨v,h1,h2⟩,k=>by
   rw[Nat.succ_add];exact⟨v,h1,h2.add k⟩
def Star.refl(R:α->α->Prop)(s:α):Star R s s:=⟨0,rfl⟩
theorem Star.one{R:α->α->Prop}{s t:α}(h:R s t):Star R s t:=⟨1,t,h,rfl⟩
def Star.trans{R:α->α->Prop}{s t u:α}(h:Star R s t)(k:Star R t u):Star R s u:=by
 obtain⟨m,h⟩:=h;obtain⟨n,k⟩:=k;exact⟨m+n,h.add k⟩
def Star.mono{R Q:α->α->Prop}(a:∀s t,R s t->Star Q s t){s t:α}(h:Star R s t):Star Q s t:=by
 obtain⟨n,h⟩:=h
 induction n generalizing s with
 |zero=>cases h;exact .refl _ _
 | succ n b=>
   obtain⟨u,h1,h2⟩:=h;exact(a _ _ h1).trans (b h2)
def Pow.mono{R Q:α->α->Prop}(a:∀s t,R s t->Q s t):∀{n:Nat} {s t:α},Pow R n s t->Pow Q n s t
 | 0,_,_,h=>h
 |n+1,_,_,⟨u,h1,h2⟩=>⟨u,a _ _ h1,h2.mono a⟩
end
def qFI(m:Int)(s:St3):Prop:=0<=s.p/\s.p<=m/\∀i,0<=s.get i/\s.get i<=m
mutual
def tw:Pat->List Pat
 | .mk op cond lab reg mn mx ks=> .mk op cond lab reg mn mx ks::Aw ks
def Aw:List Pat->List Pat
 | []=>[]
 |k::ks=>tw k++Aw ks
end
def EE(C:Pat->Prop)(p:Pat):Prop:=∀q∈tw p,C q
theorem LV:∀{ks:List Pat} {k q:Pat},k∈ks->q∈tw k->q∈Aw ks
 | a::ks,k,q,h,b=>by
   rw[Aw,qF1];rcases qF5.1 h with rfl|h;grind
   ·exact .inr (LV h b)
theorem wF:∀{ks:List Pat} {q:Pat},q∈Aw ks->∃k∈ks,q∈tw k
 | [],q,h=>by grind [Aw]
 | a::ks,q,h=>by
   rw[Aw,qF1]at h;rcases h with h|h;grind
   ·obtain⟨k,h1,h2⟩:=wF h;grind
def ZM(p:Pat):p∈tw p:=by cases p;grind [tw]
def Kl{C:Pat->Prop}{p:Pat}(h:EE C p):C p:=h p (ZM p)
def OT{C:Pat->Prop}{p k:Pat}(h:EE C p)(hk:k∈p.kids):EE C k:=λq a=>h q (by cases p;grind [tw,LV])
def qnq{C:Pat->Prop}{p:Pat}(h:C p)(hk:∀k∈p.kids,EE C k):EE C p:=λq a=>by
 cases p<;>grind [EE,tw,wF]
def yW{C D:Pat->Prop}{p:Pat}(h:EE C p)(a:∀q,C q->D q):EE D p:=λq b=>a q (h q b)

def qiX(c:Corpus)(lb:List B)(t:Bh):Rn:=⟨c,lb,t.b,min t.e c.toks.length⟩
def qoN(r:Rn)(s:St3):(qzL r s).length=r.lb.length:=by simp[qzL]
def ZL:∀(n:Nat) (l:List Nat),l.Nodup->(∀x∈l,x<n)->l.length<=n
 | 0, [],_,_=>qFU _
 | 0,x::l,_,h=>absurd (h x (by simp)) (Nat.not_lt_zero _)
 | n+1,l,hn,h=>by
   have b:=ZL n (l.erase n) (hn.erase n) λx a=>by
    have h1:=(List.Nodup.mem_erase_iff hn).1 a;have:=h x h1.2;omega
   have h2:l.length<=(l.erase n).length+1:=by
    rw[List.length_erase];split<;>omega
   omega
def qgc{α:Type}{l:List α}{f:α->Nat}{n:Nat}(h1:l.Nodup)(h2:∀x∈l,f x<n)(h3:∀x∈l,∀y∈l,f x=f y->x=y):l.length<=n:=by
 have hn:∀{l:List α},l.Nodup->(∀x∈l,∀y∈l,f x=f y->x=y)->(l.map f).Nodup:=λ{l} h1 h3=>by
  induction l with
  |nil=>exact qHV
  | cons a l d=>
    rw[qGp,qHu];have h4:=qHu.1 h1;refine⟨λhm=>?_,d h4.2 λx c y b=>h3 x (by simp[c]) y (by simp[b])⟩;obtain⟨y,b,e⟩:=qFV.1 hm;have:=h3 y (by simp[b]) a (by simp) e;subst this;exact h4.1 b
 have:=ZL n (l.map f) (hn h1 h3) λx c=>by
  obtain⟨y,b,rfl⟩:=qFV.1 c;exact h2 y b
 simpa using this

variable {S S0:Nat->Spc}


end
section
open Cod (enc dec)
variable {dq:Prop}
section
variable {Y Z:Type}
variable {P:Program}{S:Nat->Spc}{f:Nat}{im:List Nat}{cc:CC}{rs:List ai}{N:Nat}
end
section
variable {Y Z:Type}
variable {P:Program}{S:Nat->Spc}{f:Nat}{im:List Nat}{cc:CC}{rs:List ai}{N:Nat}
end
open Go.Proofs Go.Shelf Go.RowKit
section
variable {X:Type}
variable {P:Program}{S:Nat->Spc}{f:Nat}{im:List Nat}{cc:CC}{rs:List ai}{N:Nat}{A:fN X}
end
end
section
open Cod (enc dec)
variable {dq:Prop}
section
variable {X Z:Type}
end
open Go.Proofs
section
variable {Y Z:Type}
variable {P:Program}{S:Nat->Spc}{f:Nat}{im:List Nat}{cc:CC}{rs:List ai}{N:Nat}
end
section
variable {X Y Z:Type}
end
end
section
open Cod (enc dec)
open Go.Proofs
variable {S S0:Nat->Spc}


end
section
open Go.Proofs
open Cod (enc dec)
variable {S S0:Nat->Spc}
structure qFH (r:Rn) (q:Pat):Prop where
 nd:rL q
 num:lK q=true
 lab:q.lab≠ft->pw r.lb q.lab=true
 tok:q.op=1->∀s,qFI r.en s->s.p<r.en->∃y,qAl r q s=some y
end
section
open Go.Proofs
open Cod (enc dec)
variable {S S0:Nat->Spc}

end
section
open Cod (enc dec)
open Go.Proofs Go.Sort Go.Shelf Go.Lib Go.RowKit
def qkn{α c:Type}{f:α->List c}{n:Nat} :∀{l:List α},(∀x∈l,(f x).length=n)->∀{i j:Nat},j<n->(l.flatMap f)[i*n+j]? =(l[i]?).bind λx=>(f x)[j]?
 | [],_,i,j,_=>by simp
 | d::es,h,0,j,b=>by
   have a:=h d (by simp);simp only[qGJ,Nat.zero_mul,qGA];rw[qGr (by omega)];simp
 | d::es,h,i+1,j,b=>by
   have a:=h d (by simp);have p:=qkn (l:=es) (λd a=>h d (by simp[a])) (i:=i) b;simp only[qGJ];rw[qGq (by rw[a,qGU];omega),a];have:(i+1) *n+j -n=i*n+j:=by rw[qGU];omega
   rw[this,p];simp
def Wi{α a:Type}{f:α->List a}{n:Nat} :∀{l:List α},(∀x∈l,(f x).length=n)->(l.flatMap f).length=l.length*n
 | [],_=>by simp
 | d::es,h=>by
   have b:=Wi (l:=es) (λd c=>h d (by simp[c]));simp only[qGJ,qGk];rw[b,h d (by simp),qGB,qGU];omega
section
variable {X:Type}[Cod X][Inhabited X](ev:X->List Value)(k:Nat)(hk:∀x,(ev x).length=k)
include hk
omit [Cod X]in
theorem PJ(l:List X):(flatK ev k l.toArray).toList=l.flatMap ev:=by
 have hl:=Wi (f:=ev) (n:=k) (l:=l) (λx _=>hk x);apply qGx;intro t;by_cases ht:t<l.length*k
 ·have k0:0<k:=by
   rcases qGV k with h|h
   ·subst h;simp at ht
   ·exact h
  have h1:=get_flatK ev k l.toArray t (by simpa using ht);have hs:t<(flatK ev k l.toArray).size:=by simpa using ht
  rw[getElem!_pos _ t hs]at h1;rw[qGf,qGH hs,h1];have hm:t % k<k:=qHd _ k0;have hdm:t=(t/k) *k+t % k:=by have:=qHe t k;rw[qHS]at this;omega
  have hq:t/k<l.length:=qHI (by rw[qHS];exact ht);have h2:=qkn (f:=ev) (n:=k) (l:=l) (λx _=>hk x) (i:=t/k) hm;rw[<-hdm]at h2;rw[h2,qFQ hq];have h3:(l.toArray)[t/k]! =l[t/k]:=by rw[getElem!_pos l.toArray (t/k) (by simpa using hq)];simp
  rw[h3];have h4:t % k<(ev l[t/k]).length:=by rw[hk];exact hm
  simp only[qGc];rw[getElem!_pos (ev l[t/k]) (t % k) h4,qFQ h4]
 ·rw[qGg (by simpa using ht),qGg (by omega)]
end
def IM{w:World}{b j el:Nat}{c:Array Value}(h:w.heap[b]? =some (.cells c el (0,0))):w.frozen? ⟨b,j,none⟩=false:=by
 simp[World.frozen?,h]
def Qb{w:World}{b j el:Nat}{c:Array Value}{fr:Nat×Nat}(h:w.heap[b]? =some (.cells c el fr)):w.cell? ⟨b,j,none⟩=c[j]?:=by
 simp[World.cell?,h]
def SG{w:World}{a b:Nat}{f:Array Value->Array Value}{os:Array Obj}(hb:b<w.heap.size)(c:b≠a):(grow (mapBlock w a f) os).heap[b]? =w.heap[b]?:=by
 simp only[grow,mapBlock];rw[qGF (by simpa using hb),qHF];have:¬a=b:=λe=>c e.symm
 simp[this]
def Zq{w:World}{a el:Nat}{c:Array Value}{fr:Nat×Nat}{f:Array Value->Array Value}{os:Array Obj}(h:w.heap[a]? =some (.cells c el fr)):(grow (mapBlock w a f) os).heap[a]? =some (.cells (f c) el fr):=by
 have hb:a<w.heap.size:=(qFZ.1 h).1;simp only[grow,mapBlock];rw[qGF (by simpa using hb),qHF];simp[h,onCells]
variable {dq:Prop}
section
variable {P:Program}{ρ:Ren}
end
end
section
open Go.Proofs
def jA:CC:=gq Tryz.f67 [2] { bx:=[1,31],cu:=[1] } _
def jo:List ai:=[.tmp 4]
def Bw:FO da [2] jA jo 34:=fo
def jz:CC:=gq Tryz.f68 [2] { bx:=[1,24] } _
def jn:List ai:=[.tmp 4]
def Bv:FO dE [2] jz jn 27:=fo
def vV:CC:=gq Tryz.f127 [1,2002002] {} _
def uT:List ai:=[.cell 2 true 13]
def O7:FO rY [1,2002002] vV uT 11:=fo
def tN:CC:=gq Tryz.f192 [1,2021003,1020020] {} _
def ti:List ai:=[.cell 2 true 7]
def MN:FO kZ [1,2021003,1020020] tN ti 24:=fo
def dR:CC:=gq Tryz.f66 [1] { bx:=[41] } _
def dN:List ai:=[.tmp 2]
def qr:FO eI [1] dR dN 44:=fo
def iv:CC:=gq Tryz.f122 [1] {} _
def gZ:List ai:=[.tmp 2]
def yZ:FO dF [1] iv gZ 7:=fo
def gD:CC:=gq Tryz.f32 [2] { bx:=[17,20],fz:=[(17,1),(20,13)] } _
def gh:List ai:=[.tmp 4]
def wE:FO fq [2] gD gh 49:=fo
def gC:CC:=gq Tryz.f73 [3] {} _
def gg:List ai:=[.tmp 6]
def wD:FO eb [3] gC gg 33:=fo
def aC:CC:=gq Tryz.f137 [3] {} _
def aB:List ai:=[.tmp 6]
def vm:FO gy [3] aC aB 115:=fo
def yj:CC:=gq Tryz.f71 [1] {} _
def xt:List ai:=[.tmp 2]
def RC:FO pI [1] yj xt 11:=fo
def jF:CC:=gq Tryz.f133 [1] {} _
def jD:List ai:=[.tmp 2]
def EQ:FO pH [1] jF jD 58:=fo
def iw:CC:=gq Tryz.f72 [1] {} _
def hU:List ai:=[.tmp 2]
def CH:FO mY [1] iw hU 22:=fo
def bK:CC:=gq Tryz.f70 [] {} _
def bJ:List ai:=[.tmp 4]
def iz:FO aP [] bK bJ 9:=fo
def ck:CC:=gq Tryz.f132 [] {} _
def bY:List ai:=[.tmp 4]
def kS:FO cH [] ck bY 19:=fo
open Cod (enc dec)
variable {S S0:Nat->Spc}
def N8{α:Type}{l:List α}{k:Nat}{a:α}{P:α->Prop}(h:∀x∈l.take k,P x)(b:l[k]? =some a)(hp:P a):∀x∈l.take (k+1),P x:=by
 rw[au b];intro x hx;rcases qF1.1 hx with hx|hx
 ·exact h x hx
 ·simp at hx;subst hx;exact hp
def qsq{X:Type}(m:X->Nat)(n:Nat)(x:X):Prop:=m x<=n
abbrev qdO(n:Nat):Spc:=ay (a2 Cond Cond) (qsq (λx=>bi x.1) n) (enc (X:=Bool)) λx y=>(y=true↔x.1=x.2)
def qla{a b:Cond}(h1:a.op=b.op)(h2:a.name=b.name)(h3:a.arg=b.arg)(h4:a.val=b.val)(h5:a.lab=b.lab)(h6:a.fold=b.fold)(c:a.kids=b.kids):a=b:=by
 cases a;cases b;simp only at*;subst h1;subst h2;subst h3;subst h4;subst h5;subst h6;subst c;rfl
theorem qbB(n:Nat)(h1:S vv=qdO n):aq Du Cs S (a2 Cond Cond) (qsq (λx=>bi x.1) (n+1)) (enc (X:=Bool)) λx y=>(y=true↔x.1=x.2):=by
 rintro⟨a,b⟩ hn;have hn:bi a<=n+1:=hn;have c:∀k∈a.kids,∀y,qsq (λx:Cond×Cond=>bi x.1) n (k,y):=λk hk y=>by have:=DF hk;show bi k<=n;omega
 simp[Du,Cs];refine⟨λA=>⟨λC=>⟨λE=>⟨λF=>⟨λI=>⟨λJ _ _=>⟨λh e=>h (by rw[e]),λhl _=>?_⟩,λh e=>h (by rw[e])⟩,λh e=>h (by rw[e])⟩,λh e=>h (by rw[e])⟩,λh e=>h (by rw[e])⟩,λh e=>h (by rw[e])⟩,λh e=>h (by rw[e])⟩;refine ah (X:=Unit) [2,3] [] a.kids.length (λk _=>a.kids.take k=b.kids.take k) (λ_=>[]) (λ_=>[]) () (by simp) ?_ ?_
 ·rintro k -hk p;obtain⟨x,d⟩:=aU hk;obtain⟨y,j⟩:=aU (l:=b.kids) (k:=k) (by omega);have q:=aO d;obtain⟨_,s⟩:=qFN.1 d;obtain⟨_,t⟩:=qFN.1 j;simp[h1,hk,d,j,s,t,c x q,-fB'];refine⟨by omega,λr u=>⟨λw e=>?_,λK=>?_⟩⟩
  ·subst e;rw[d]at j;cases j;rw[u.2 rfl]at w;cases w
  ·rw[au d,au j,p,u.1 K]
 ·rintro -p;simp;have L:a.kids=b.kids:=by
   rw[qGt (by omega),qGt (by omega)]at p;exact p
  exact qla A C E F I J L
abbrev LG:Spc:=ay (a2 Pat Int) (λ_=>True) (enc (X:=Bool)) λx y=>y=(decide (x.2<=100) && pm x.1)
abbrev qdP:Spc:=ay (a2 Cond Cond) (λ_=>True) (enc (X:=Bool)) λx y=>(y=true↔x.1=x.2)
def Xw(h1:S vv=qdP):aq AV zS S (a2 Pat Int) (λ_=>True) (enc (X:=Bool)) λx y=>y=(decide (x.2<=100) && pm x.1):=by
 rintro⟨p,d⟩ -;simp[AV,zS,h1,-fB'];clear h1;refine⟨λh c=>absurd h (by omega),λb y a=>?_⟩;have a:y=true↔p.cond=sU:=a;rw[decide_eq_true b,qHb];revert a;revert y
 repeat' first|apply And.intro|intro _
 all_goals (rw[qGo,qU];unfold rL;simp_all;try omega)
abbrev YS(n:Nat):Spc:=ay (a2 Pat Int) (λx=>dK x.1<=n/\0<=x.2/\x.2<=101) (enc (X:=Bool)) λx y=>y=(cF x.1 x.2 && cj pm x.1)
theorem TT(n:Nat)(h1:S C6=LG)(h2:S lM=YS n):aq xX xe S (a2 Pat Int) (λx=>dK x.1<=n+1/\0<=x.2/\x.2<=101) (enc (X:=Bool)) λx y=>y=(cF x.1 x.2 && cj pm x.1):=by
 rintro⟨p,d⟩ ⟨hn,q,r⟩;have c:∀k∈p.kids,dK k<=n:=λk hk=>by have:=kR hk;have:dK p<=n+1:=hn;omega
 simp only at q r;simp[xX,xe,h1];rw[nW,cT];refine⟨λh=>?_,λu s _=>?_⟩
 ·simp only[qFS,decide_eq_true_eq];intro h1;rw[h h1.1,Bool.false_and]
 refine ah (X:=Unit) [1,12] [] p.kids.length (λk _=>∀x∈p.kids.take k,(cF x (d+1) && cj pm x)=true) (λ_=>[]) (λ_=>[]) () (by simp) ?_ ?_
 ·rintro k -hk j;obtain⟨x,a⟩:=aU hk;have b:=aO a;obtain⟨_,t⟩:=qFN.1 a;have w:=c x b;simp[h2,hk,a,t,w,-fB'];refine⟨by simp only[InR];omega,by omega,λA _ l _=>⟨x,b,A (l x b)⟩,λt1 C=>?_⟩;have:=N8 (P:=λx=>(cF x (d+1) && cj pm x)=true) j a (by simp[t1,C]);simpa using this
 ·rintro -j;simp;simp at j;simp[s,u];exact⟨λx a=>(j x a).1,λx a=>(j x a).2⟩
abbrev qdV(n:Nat):Spc:=ay (a1 Pat) (λx=>dK x<=n) (enc (X:=Bool)) λx y=>y=cj (mS ax) x
theorem Xx(n:Nat)(h1:S aK=oq)(h2:S nX=qdV n):aq AW zT S (a1 Pat) (λx=>dK x<=n+1) (enc (X:=Bool)) λx y=>y=cj (mS ax) x:=by
 rintro p hn;have a:∀k∈p.kids,dK k<=n:=λk hk=>by have:=kR hk;have:dK p<=n+1:=hn;omega
 simp[AW,zT,h1];refine bh (X:=Unit) [1] [] (λ_=>mS ax p=true) (λ_=>[]) (λ_=>[]) ?_ ?_
 ·simp[h1,mS];rw[cT];unfold mS
  repeat' first|apply And.intro|intro _
  all_goals (first|omega|simp_all;try omega)
 rintro -h;rw[cT];simp;intro _;refine ah (X:=Unit) [31] [] p.kids.length (λk _=>∀x∈p.kids.take k,cj (mS ax) x=true) (λ_=>[]) (λ_=>[]) () (by simp) ?_ ?_
 ·rintro k -hk c;obtain⟨x,d⟩:=aU hk;have b:=aO d;obtain⟨_,j⟩:=qFN.1 d;have l:=a x b;simp[h2,hk,d,j,l,-fB'];exact⟨λq _=>⟨x,b,q⟩,λr=>N8 c d r⟩
 ·rintro -c;simp;simp at c;rw[h];simpa using c
abbrev Sq(n:Nat):Spc:=ay (a1 Pat) (λx=>dK x<=n) (enc (X:=Bool)) λx y=>y=cj lK x
theorem QS(n:Nat)(h2:S jE=Sq n):aq vO uL S (a1 Pat) (λx=>dK x<=n+1) (enc (X:=Bool)) λx y=>y=cj lK x:=by
 rintro p hn;have a:∀k∈p.kids,dK k<=n:=λk hk=>by have:=kR hk;have:dK p<=n+1:=hn;omega
 simp[vO,uL];refine bh (X:=Unit) [1] [] (λ_=>lK p=true) (λ_=>[]) (λ_=>[]) ?_ ?_
 ·simp[lK];rw[cT];unfold lK
  repeat' first|apply And.intro|intro _
  all_goals (first|omega|(rw[qGo];simp;omega))
 rintro -h;rw[cT];simp;intro _;refine ah (X:=Unit) [36] [] p.kids.length (λk _=>∀x∈p.kids.take k,cj (lK) x=true) (λ_=>[]) (λ_=>[]) () (by simp) ?_ ?_
 ·rintro k -hk c;obtain⟨x,d⟩:=aU hk;have b:=aO d;obtain⟨_,j⟩:=qFN.1 d;have l:=a x b;simp[h2,hk,d,j,l,-fB'];exact⟨λq _=>⟨x,b,q⟩,λr=>N8 c d r⟩
 ·rintro -c;simp;simp at c;rw[h];simpa using c
def pp{a b A B:Int}(h0:0<=a)(h1:a<=A)(h2:0<=b)(h3:b<=B):0<=a*b/\a*b<=A*B:=⟨qHl h0 h2,Int.mul_le_mul h1 h3 h2 (by omega)⟩
def PPat(n:Nat)(p:Pat):Prop:=dK p<=n/\eP ax p=true
def PPat.kid{n:Nat}{p k:Pat}(h:PPat (n+1) p)(hk:k∈p.kids):PPat n k:=by
 have h1:=kR hk;grind [PPat,ph]
abbrev de:Spc:=ay (a1 Pat) (λ_=>True) (enc (X:=Bool)) λx y=>y=eP ax x
abbrev Ke:Spc:=ay (a2 Pat Int) (λx=>0<=x.2/\x.2<=101) (enc (X:=Bool)) λx y=>y=(cF x.1 x.2 && cj pm x.1)
abbrev Ox:Spc:=ay (a1 Pat) (λ_=>True) (enc (X:=Bool)) λx y=>y=cj (mS ax) x
abbrev FH:Spc:=ay (a1 Pat) (λ_=>True) (enc (X:=Bool)) λx y=>y=cj lK x
def Mf(h1:S lM=Ke)(h2:S nX=Ox)(h3:S jE=FH):aq rq qA S (a1 Pat) (λ_=>True) (enc (X:=Bool)) λx y=>y=eP ax x:=by
 rintro p -;simp_all [rq,qA,eP]
abbrev UL(n:Nat):Spc:=ay (a1 Pat) (PPat n) (enc (X:=Int)) λx y=>y=fu x
theorem qbx(n:Nat)(h1:S ra=UL n):aq Dr Cp S (a1 Pat) (PPat (n+1)) (enc (X:=Int)) λx y=>y=fu x:=by
 rintro p hp;have hk:∀k∈p.kids,PPat n k:=λk=>hp.kid
 have hs:∀k∈p.kids,0<=fu k/\fu k<=1000:=λk h=>Sj (v:=ax) k (hk k h).2
 simp[Dr,Cp];intro _;refine⟨λh=>by rw[om,Ck,if_pos h],λh0 _=>?_⟩;refine ah (X:=Int) [1,11] [] p.kids.length (λk n=>n=ff (p.kids.take k) 0) (λn=>[(3,enc n)]) (λ_=>[]) 0 (by rfl) ?_ ?_
 ·rintro k m a b;obtain⟨x,d⟩:=aU a;have c:=aO d;obtain⟨_,j⟩:=qFN.1 d;have hm:=qu (p.kids.take k) 0 (by omega) (by omega) (λy l=>(hs y (qF8 l)).1);have h2:=hs x c;rw[<-b]at hm;have r:=hk x c;simp[h1,a,d,j,r];refine⟨by grind [InR],?_⟩;simp_all [au,Ol,ff]
 ·rintro m b;have hm:=qu (p.kids.take p.kids.length) 0 (by omega) (by omega) (λy l=>(hs y (qF8 l)).1);rw[<-b]at hm;rw[qFX]at b;have hn:=(dn hp.2).2.2;unfold lK at hn;rw[decide_eq_true_eq]at hn;rw[om,Ck,if_neg h0,<-b];simp;refine⟨λh6=>?_,λh6=>?_⟩
  ·have hn:=hn h6;simp only[h6,if_true];refine⟨λe=>?_,λe=>⟨λq=>?_,λq=>?_⟩⟩
   ·have h1:max 1 (p.mn+1)=p.mn+1:=by omega
    have h2:=pp hm.1 hm.2 (show 0<=p.mn+1 by omega) (show p.mn+1<=17 by omega);rw[h1,if_pos e];exact⟨by simp only[InR];omega,by simp only[InR];omega,rfl⟩
   ·rw[if_neg e,if_pos q];omega
   ·have h2:=pp hm.1 hm.2 (show 0<=p.mx by omega) (show p.mx<=16 by omega);rw[if_neg e,if_neg q];exact⟨by simp only[InR];omega,rfl⟩
  ·simp only[h6,if_false];omega
abbrev Nk(n:Nat):Spc:=ay (a1 Pat) (PPat n) (io (Y:=Int) (Z:=Int)) λx y=>y=aS x
theorem Xv(n:Nat)(h1:S sF=Nk n):aq lQ lH S (a1 Pat) (PPat (n+1)) (io (Y:=Int) (Z:=Int)) λx y=>y=aS x:=by
 rintro p hp;have hk:∀k∈p.kids,PPat n k:=λk=>hp.kid
 have hs:∀k∈p.kids,eO (aS k):=λk h=>zA (v:=ax) k (hk k h).2
 have hn:=(dn hp.2).2.2;unfold lK at hn;rw[decide_eq_true_eq]at hn;rcases qT (dn hp.2).1 with⟨ho,_⟩|⟨ho,_⟩|⟨ho,q,ks,c⟩|⟨ho,q,c⟩
 simp_all [lQ,lH,qht]
 ·have:=qhs ho;rcases ho with ho|ho<;>simp[lQ,lH,h1,ho,this]
 ·have hc:p.op≠1/\p.op≠2/\p.op≠3/\p.op≠6:=by omega
  simp[lQ,lH,h1,hc,io];intro _;refine ah (X:=Int×Int) [1,55] [] p.kids.length (λk w=>(k=0->w=(0,0))/\(0<k->w=mN (decide (p.op=4)) (ks.take (k -1)) (aS q))/\eO w) (λw=>[(6,enc w.1),(7,enc w.2)]) (λ_=>[]) (0,0) (by simp[eO]) ?_ ?_
  ·rintro k w C ⟨E,J,t⟩;obtain⟨x,A⟩:=aU C;have F:=aO A;obtain⟨_,K⟩:=qFN.1 A;have L:=hk x F;have d:=hs x F;have key:(0<k->∀r:Int×Int,r=QJ (decide (p.op=4)) w (aS x)->r=mN (decide (p.op=4)) (ks.take (k+1 -1)) (aS q)/\eO r)/\(k=0->∀r:Int×Int,r=aS x->r=mN (decide (p.op=4)) (ks.take (k+1 -1)) (aS q)/\eO r):=by
    refine⟨λh0 r I=>?_,λh0 r I=>?_⟩
    ·obtain⟨j,rfl⟩:∃j,k=j+1:=⟨k -1,by omega⟩
     rw[c,List.getElem?_cons_succ]at A;rw[qHM,au A,R7,mN,mN];have e:=J h0;rw[qHM]at e;rw[<-e];exact⟨I,by rw[I];exact TL t d⟩
    ·subst h0;rw[c,List.getElem?_cons_zero]at A;cases A;exact⟨by rw[I];rfl,by rw[I];exact d⟩
   simp[h1,C,A,K,L,io];clear h1;have tz:∀a b:Int,(0<k->(a,b)=QJ (decide (p.op=4)) w (aS x))->(k=0->(a,b)=aS x)->((a,b)=mN (decide (p.op=4)) (List.take k ks) (aS q)/\eO (a,b)):=by
    intro a b f1 O;rcases qGV k with h|h
    ·exact key.2 h _ (O h)
    ·exact key.1 h _ (f1 h)
   clear key;generalize aS x=u at d tz;obtain⟨U,W⟩:=u;obtain⟨w1,w2⟩:=w;unfold eO at d t;simp only at d t;simp only[qHO]at E;refine⟨λh4=>⟨by simp only[InR];omega,λl=>⟨λs=>tz _ _ (λ_=>?_) (λh=>?_),λs=>⟨by simp only[InR];omega,tz _ _ (λ_=>?_) (λh=>?_)⟩⟩,λl=>tz _ _ (λ_=>?_) (λh=>?_)⟩,λh4=>⟨λh0=>tz _ _ (λh=>absurd h (by omega)) (λh=>rfl),λh0=>⟨λl=>⟨λs=>tz _ _ (λ_=>?_) (λh=>absurd h h0),λs=>tz _ _ (λ_=>?_) (λh=>absurd h h0)⟩,λl=>tz _ _ (λ_=>?_) (λh=>absurd h h0)⟩⟩⟩
   all_goals (try simp only at l)
   all_goals (try simp only at s)
   all_goals first|(have hw:=E h;simp only[qHO];omega)|(unfold QJ;simp[h4,l,s];done)|(unfold QJ;simp[h4,l];done)|(unfold QJ;simp[h4];omega)
  ·rintro w ⟨_,Q,_⟩;simp[io];rw[qhr ho c];have:=Q (by rw[c];simp);rw[c,qGB,qHM,qFX]at this;rw[<-this]
 ·have L:=hk q (by rw[c];simp);have d:=hs q (by rw[c];simp);have hn:=hn ho;simp[lQ,lH,h1,ho,c,L,io];rw[qhq ho c];generalize aS q=w at d;unfold eO at d;have h2:=pp d.1 d.2.1 hn.1 hn.2.1;refine⟨λl=>⟨λs=>⟨by simp only[InR];omega,by rw[if_pos (.inr s)]⟩,λs=>⟨λM=>⟨λN=>⟨by simp only[InR];omega,?_⟩,λN=>?_⟩,λM=>⟨by simp only[InR];omega,?_⟩⟩⟩,λl=>⟨by simp only[InR];omega,by rw[if_pos (.inl l)]⟩⟩
  ·rw[if_neg (by omega),if_pos (.inr N)]
  ·have h3:=pp (show 0<=w.2 by omega) d.2.2.2 (show 0<=p.mx by omega) (show p.mx<=16 by omega);refine⟨by simp only[InR];omega,by simp only[InR];omega,?_⟩;rw[if_neg (by omega),if_neg (by omega)]
  ·rw[if_neg (by omega),if_pos (.inl M)]
abbrev SU:D:= .v (.slice none 0 0)
def qhj(x:Pat)(l:List Pat):Prop:=l.length+ (am x).length<=100000000
abbrev Z1(n:Nat):Spc:=ql5 (X:=Pat) (Y:=Pat) (λx l=>dK x<=n/\qhj x l) (λx l r=>r=l++am x) bL 13
abbrev i_leavesA:Spc:=ql5 (X:=Pat) (Y:=Pat) (λx l=>qhj x l) (λx l r=>r=l++am x) bL 13
def qjK{ks:List Pat}{k:Nat}{x:Pat}(l:List Pat)(a:ks[k]? =some x):(l++ (ks.take k).flatMap am) ++am x=l++ (ks.take (k+1)).flatMap am:=by
 rw[au a,qHK,List.flatMap_singleton,qGO]
def qcG{ks:List Pat}{k:Nat}{x:Pat}{l:List Pat}(a:ks[k]? =some x)(h:l.length+ (ks.flatMap am).length<=100000000):qhj x (l++ (ks.take k).flatMap am):=by
 have:ks=ks.take k++x::ks.drop (k+1):=by rw[<-bE a,qGj]
 rw[this]at h;simp only[qHK,qGJ,qGk]at h;unfold qhj;rw[qGk];omega
theorem TU(n:Nat)(h1:S gp=Z1 n):Qt (X:=Pat) (Y:=Pat) na mQ S (λx l=>dK x<=n+1/\qhj x l) (λx l r=>r=l++am x) bL 13:=by
 rintro v l p ⟨hp,hl⟩;have hk:∀k∈p.kids,dK k<=n:=λk hk=>by have:=kR hk;have:dK p<=n+1:=hp;omega
 have a:=hl;unfold qhj at a;rw[aW]at a;simp[na,mQ];refine⟨λh1=>⟨by simp[h1]at a;omega,by simp[h1]at a;omega,λv=>dL (l++am p) (by simp[aW,h1]) rfl⟩,λb _=>?_⟩;rw[if_neg b]at a;refine ah (X:=Value×List Pat) [15] [] p.kids.length (λk x=>x.2=l++ (p.kids.take k).flatMap am) (λx=>[(1, .own 1 x.1)]) (λx=>[(1, .row x.1 bL 13 (x.2.map enc))]) (v,l) (by simp) ?_ ?_ (hh:=by simp[isNilRow])
 ·rintro k ⟨v,m⟩ c hm;simp only at hm;obtain⟨x,d⟩:=aU c;have h:=aO d;obtain⟨_,j⟩:=qFN.1 d;have q:=qcG d a;rw[<-hm]at q;have s:=hk x h;simp[h1,c,d,j,q,s];intro v';refine .inl ?_;rw[hm,qjK _ d]
 ·rintro⟨v,m⟩ hm;simp only at hm;rw[qFX]at hm;simp;refine dL m (by simp) ?_;rw[hm,aW,if_neg b]
abbrev qkz:Spc:=qs8 (Y:=Pat) (aE Pat (aD a0)) (λx=>x.2.1=SU/\qhj x.1 []) (λx r=>r=am x.1) bL 13
theorem QT(h1:S gp=i_leavesA):qbc (Y:=Pat) na mQ S (aE Pat (aD a0)) (λx=>x.2.1=SU/\qhj x.1 []) (λx r=>r=am x.1) bL 13:=by
 rintro⟨p,d,⟨⟩⟩ ⟨j,hl⟩;have j:d=SU:=j;subst j;have a:([]:List Pat).length+ (am p).length<=100000000:=hl;rw[aW]at a;simp[na,mQ];refine⟨λh1 v=>dL (am p) (by simp[aW,h1]) rfl,λb _=>?_⟩;rw[if_neg b]at a;refine ah (X:=Value×List Pat) [15] [] p.kids.length (λk x=>x.2=[] ++ (p.kids.take k).flatMap am) (λx=>[(1, .own 1 x.1)]) (λx=>[(1, .row x.1 bL 13 (x.2.map enc))]) (.slice none 0 0, []) (by simp) ?_ ?_ (hh:=by simp[isNilRow])
 ·rintro k ⟨v,m⟩ c hm;simp only at hm;obtain⟨x,h⟩:=aU c;have s:=aO h;obtain⟨_,l⟩:=qFN.1 h;have q:=qcG h a;rw[<-hm]at q;simp[h1,c,h,l,q];intro v';refine .inl ?_;rw[hm,qjK _ h];rfl
 ·rintro⟨v,m⟩ hm;simp only at hm;rw[qFX]at hm;simp;refine dL m (by simp) ?_;rw[hm,aW,if_neg b];rfl
abbrev s_leaves:Spc:=qqQ qkz i_leavesA
abbrev uh:Spc:=ay (a1 Pat) (λx=>(am x).length<=100000000) (enc (X:=List Pat)) λx y=>y=if eP ax x then am x else[]
def TV(h1:S fY=de)(h2:S gp=s_leaves):aq xY xf S (a1 Pat) (λx=>(am x).length<=100000000) (enc (X:=List Pat)) λx y=>y=if eP ax x then am x else[]:=by
 rintro p hp;have a:qhj p []:=by unfold qhj;simpa using hp
 simp[xY,xf,h1,h2,-fB'];clear h1 h2;exact⟨λh=>aM [] (by simp) (by rw[h];rfl),λh=> .inl ⟨a,λv=>aM (am p) (fM bL (by simp)) (by rw[h];rfl)⟩⟩
abbrev zM:Spc:=ay (a1 Pat) (λx=>eP ax x=true) (enc (X:=Int)) λx y=>y=fu x
abbrev FG:Spc:=ay (a1 Pat) (λ_=>True) (enc (X:=Int)) λx y=>y=if eP ax x then fu x else 0
def qbz(h1:S fY=de)(h2:S ra=zM):aq Dt Cr S (a1 Pat) (λ_=>True) (enc (X:=Int)) λx y=>y=if eP ax x then fu x else 0:=by
 rintro p -;simp[Dt,Cr,h1,h2,-fB'];exact⟨λh1 h2=>absurd (h1.symm.trans h2) (by simp),λh1=>⟨h1,λh2=>absurd (h2.symm.trans h1) (by simp)⟩⟩
abbrev HO:Spc:=ay (a1 Pat) (λx=>eP ax x=true) (io (Y:=Int) (Z:=Int)) λx y=>y=aS x
abbrev DQ:Spc:=ay (a1 Pat) (λ_=>True) (io (Y:=Int) (Z:=Int)) λx y=>y=if eP ax x then aS x else(0,0)
def Xy(h1:S fY=de)(h2:S sF=HO):aq AX zU S (a1 Pat) (λ_=>True) (io (Y:=Int) (Z:=Int)) λx y=>y=if eP ax x then aS x else(0,0):=by
 rintro p -;simp[AX,zU,h1,h2,io,-fB'];exact⟨λh1 h2=>absurd (h1.symm.trans h2) (by simp),λh1=>⟨h1,λh2=>absurd (h2.symm.trans h1) (by simp)⟩⟩
abbrev qie:Spc:=ay (a1 Cond) (λ_=>True) (enc (X:=Bool)) λx y=>(y=true↔x=sU)
def Ue:aq yg xp S (a1 Cond) (λ_=>True) (enc (X:=Bool)) λx y=>(y=true↔x=sU):=by
 rintro⟨op,n,a,v,l,f,ks⟩ -;simp[yg,xp,sU]
 repeat' first|apply And.intro|intro _
 all_goals simp_all
abbrev UN:Spc:=ay (a1 Pat) (λ_=>True) (enc (X:=Bool)) λx y=>y=pm x
def Uh(h1:S AO=qie):aq yi xr S (a1 Pat) (λ_=>True) (enc (X:=Bool)) λx y=>y=pm x:=by
 rintro p -;simp[yi,xr,h1,-fB'];clear h1
 repeat' first|apply And.intro|intro _
 all_goals (rw[qGo,qU];unfold rL;simp_all;try omega)
abbrev DO:Spc:=ay (a1 Pat) (λ_=>True) (enc (X:=Bool)) λx y=>y=mS ax x
def Q0(h1:S bM=oq):aq vT uR S (a1 Pat) (λ_=>True) (enc (X:=Bool)) λx y=>y=mS ax x:=by
 rintro p -;simp[vT,uR,h1,mS,-fB'];clear h1
 repeat' first|apply And.intro|intro _
 all_goals (first|omega|simp_all;try omega)
abbrev yL:Spc:=ay (a1 Pat) (λ_=>True) (enc (X:=Bool)) λx y=>y=lK x
def NM:aq tM th S (a1 Pat) (λ_=>True) (enc (X:=Bool)) λx y=>y=lK x:=by
 rintro p -;simp[tM,th,lK]
 repeat' first|apply And.intro|intro _
 all_goals (first|omega|(rw[qGo];simp;omega))
theorem Uf(n:Nat)(h1:S iW=UL n):aq yh xq S (a1 Pat) (PPat (n+1)) (enc (X:=Int)) λx y=>y=fu x:=by
 rintro p hp;have hk:∀k∈p.kids,PPat n k:=λk=>hp.kid
 have hs:∀k∈p.kids,0<=fu k/\fu k<=1000:=λk h=>Sj (v:=ax) k (hk k h).2
 simp[yh,xq];intro _;refine ah (X:=Int) [1,7] [] p.kids.length (λk n=>n=ff (p.kids.take k) 0) (λn=>[(3,enc n)]) (λ_=>[]) 0 (by simp[ff]) ?_ ?_
 ·rintro k m b a;obtain⟨x,d⟩:=aU b;have c:=aO d;obtain⟨_,j⟩:=qFN.1 d;have hm:=qu (p.kids.take k) 0 (by omega) (by omega) (λy l=>(hs y (qF8 l)).1);have h2:=hs x c;rw[<-a]at hm;have q:=hk x c;simp[h1,b,d,j,q];refine⟨by simp only[InR];omega,?_⟩;rw[au d,Ol,<-a,ff,ff]
 ·rintro m a;have hm:=qu (p.kids.take p.kids.length) 0 (by omega) (by omega) (λy l=>(hs y (qF8 l)).1);rw[<-a]at hm;rw[qFX]at a;have hn:=(dn hp.2).2.2;unfold lK at hn;rw[decide_eq_true_eq]at hn;rw[om,Ck,<-a];simp;intro _;refine⟨λh=>λr=>absurd h r,λh0=>⟨λh6=>?_,λh6=>by rw[if_neg h0,if_neg h6]⟩⟩;rw[if_neg h0,if_pos h6];have hn:=hn h6;refine⟨λe=>by rw[if_neg (by omega),if_pos e],λe=>⟨λs=>?_,λs=>?_⟩⟩
  ·have h2:=pp hm.1 hm.2 (show 0<=p.mn+1 by omega) (show p.mn+1<=17 by omega);rw[if_pos (by omega)];exact⟨by simp only[InR];omega,by simp only[InR];omega,rfl⟩
  ·have h2:=pp hm.1 hm.2 (show 0<=p.mx by omega) (show p.mx<=16 by omega);rw[if_neg (by omega),if_neg e];exact⟨by simp only[InR];omega,rfl⟩
def Ui(h1:S mV=de)(h2:S iW=zM):aq yk xu S (a1 Pat) (λ_=>True) (enc (X:=Int)) λx y=>y=if eP ax x then fu x else 0:=by
 rintro p -;simp[yk,xu,h1,h2,-fB'];exact⟨λh1 h2=>absurd (h1.symm.trans h2) (by simp),λh1=>⟨h1,λh2=>absurd (h2.symm.trans h1) (by simp)⟩⟩
def Q5(h1:S mV=de)(h2:S mU=HO):aq vX uV S (a1 Pat) (λ_=>True) (io (Y:=Int) (Z:=Int)) λx y=>y=if eP ax x then aS x else(0,0):=by
 rintro p -;simp[vX,uV,h1,h2,io,-fB'];exact⟨λh1 h2=>absurd (h1.symm.trans h2) (by simp),λh1=>⟨h1,λh2=>absurd (h2.symm.trans h1) (by simp)⟩⟩
theorem QX(n:Nat)(h1:S mU=Nk n):aq iu gY S (a1 Pat) (PPat (n+1)) (io (Y:=Int) (Z:=Int)) λx y=>y=aS x:=by
 rintro p hp;have hk:∀k∈p.kids,PPat n k:=λk=>hp.kid
 have hs:∀k∈p.kids,eO (aS k):=λk h=>zA (v:=ax) k (hk k h).2
 have hn:=(dn hp.2).2.2;unfold lK at hn;rw[decide_eq_true_eq]at hn;rcases qT (dn hp.2).1 with⟨ho,_⟩|⟨ho,_⟩|⟨ho,b,ks,a⟩|⟨ho,b,a⟩
 ·simp[iu,gY,h1,ho,qht ho]
 ·have:=qhs ho;rcases ho with ho|ho<;>simp[iu,gY,h1,ho,this]
 ·have hc:p.op≠1/\p.op≠2/\p.op≠3/\p.op≠6:=by omega
  have E:=hk b (by rw[a];simp);have c:=hs b (by rw[a];simp);simp[iu,gY,h1,hc,io,a,E];refine⟨by omega,λ_=>?_⟩;refine ah (X:=Int×Int) [1,69] [] ks.length (λk w=>w=mN (decide (p.op=4)) (ks.take k) (aS b)/\eO w) (λw=>[(6,enc w.1),(7,enc w.2)]) (λ_=>[]) (aS b) (by simp[mN,c]) ?_ ?_
  ·rintro k w l ⟨q,d⟩;obtain⟨x,A⟩:=aU l;have s:x∈p.kids:=by rw[a];exact qHn _ (aO A)
   obtain⟨_,F⟩:=qFN.1 A;have L:=hk x s;have C:=hs x s;have key:∀r:Int×Int,r=QJ (decide (p.op=4)) w (aS x)->r=mN (decide (p.op=4)) (ks.take (k+1)) (aS b)/\eO r:=by
    intro r I;rw[au A,R7,mN,mN,<-q];exact⟨I,by rw[I];exact TL d C⟩
   simp[h1,l,A,F,L,io];clear h1;generalize aS x=u at C key;obtain⟨N,O⟩:=u;obtain⟨Q,U⟩:=w;unfold eO at C d;simp only at C d;clear q;refine⟨λt=>⟨λh4=>⟨by simp only[InR];omega,by simp only[InR];omega,λj=>key _ ?_,λj=>key _ ?_⟩,λh4=>⟨λj=>key _ ?_,λj=>key _ ?_⟩⟩,λt=>⟨λh4=>⟨by simp only[InR];omega,by simp only[InR];omega,key _ ?_⟩,λh4=>key _ ?_⟩⟩
   all_goals clear key
   all_goals (try simp only at t)
   all_goals (try simp only at j)
   all_goals (unfold QJ;simp[h4];try omega)
  ·rintro w ⟨J,_⟩;simp[io];rw[qhr ho a];rw[qFX]at J;rw[<-J]
 ·have E:=hk b (by rw[a];simp);have c:=hs b (by rw[a];simp);have hn:=hn ho;simp[iu,gY,h1,ho,a,E,io];rw[qhq ho a];generalize aS b=w at c;unfold eO at c;have h2:=pp c.1 c.2.1 hn.1 hn.2.1;refine⟨by simp only[InR];omega,λt=>⟨λj=>by rw[if_pos (.inr j)],λj=>⟨λM=>⟨λK=>?_,λK=>?_⟩,λM=>?_⟩⟩,λt=>by rw[if_pos (.inl t)]⟩
  ·rw[if_neg (by omega),if_pos (by omega)]
  ·have h3:=pp K c.2.2.2 (show 0<=p.mx by omega) (show p.mx<=16 by omega);refine⟨by simp only[InR];omega,?_⟩;rw[if_neg (by omega),if_neg (by omega)]
  ·rw[if_neg (by omega),if_pos (by omega)]
def FunOnP{X Y:Type}[Cod X][Cod Y](S:Nat->Spc)(d:D)(l:List X)(p:X->Y):Prop:=
 ∃g caps a,d= .clo g caps/\S g= .pure a/\∀x∈l,a.pre (enc x::caps)/\∀r,a.post (enc x::caps) r->r=enc (p x)
def FunOnP.useB{X:Type}[Cod X]{S:Nat->Spc}{d:D}{l:List X}{p:X->Bool}(h:FunOnP S d l p)(x:X)(b:x∈l){c:Nat}{H:ab}{K:D->ab->Prop}(hk:∀y:Bool,(∀q,FunOnP S d l q->y=q x)->K (.v (.bool y)) H):Dx S d c [enc x] H K:=by
 obtain⟨g,caps,t,rfl,h1,h2⟩:=h;simp only[Dx,h1,Spc.pt];refine⟨(h2 x b).1,λr j=>?_⟩;have e:=(h2 x b).2 r j;rw[e];refine hk (p x) λq k=>?_
 obtain⟨u,a,s,w,A,C⟩:=k;grind [cD]
def FunIs.on{X Y:Type}[Cod X][Cod Y]{S:Nat->Spc}{d:D}{p:X->Y}(h:FunIs S d p)(l:List X):FunOnP S d l p:=by
 grind [FunOnP,FunIs]
def KQ{X Y:Type}[Cod X][Cod Y]{S:Nat->Spc}{g:Nat}{c:D}{l:List X}{pre:X×D×Unit->Prop}{post:X×D×Unit->Y->Prop}{p:X->Y}(h:S g=ay (aE X (aD a0)) pre enc post)(hp:∀x∈l,pre (x,c,()))(d:∀x∈l,∀y,post (x,c,()) y->y=p x):FunOnP S (.clo g [c]) l p:=by
 refine⟨g, [c],_,rfl,h,λx a=>⟨⟨(x,c,()),by simp,hp x a⟩,λr b=>?_⟩⟩;obtain⟨y,rfl,j⟩:=b (x,c,()) (by simp) (hp x a);grind
def qem(x:Pat):D.agg [D.v (Value.int IntKind.i64 x.op),D.v (Value.int IntKind.i64 x.cond.op),D.v (Value.string x.cond.name),D.v (Value.string x.cond.arg),D.v (Value.string x.cond.val),D.v (Value.string x.cond.lab),D.v (Value.bool x.cond.fold),D.list 7 (List.map enc x.cond.kids),D.v (Value.string x.lab),D.v (Value.string x.reg),D.v (Value.int IntKind.i64 x.mn),D.v (Value.int IntKind.i64 x.mx),D.list 13 (List.map enc x.kids)]=enc x:=by simp
def Xd(S0:Nat->Spc)(x:List Pat×D×Unit):Prop:=∃p:Pat->Bool,FunOnP S0 x.2.1 x.1 p
def WZ(S0:Nat->Spc)(x:List Pat×D×Unit)(y:Int):Prop:=∀p:Pat->Bool,FunOnP S0 x.2.1 x.1 p->y=jM x.1 p
abbrev qqu(S0:Nat->Spc):Spc:=ay (aE (List Pat) (aD a0)) (Xd S0) enc (WZ S0)
def uB:aq fl fg S (aE (List Pat) (aD a0)) (Xd S) enc (WZ S):=by
 rintro⟨l,d,⟨⟩⟩ ⟨p,hp⟩;simp at hp;simp[fl,fg];intro _;refine ah (X:=Unit) [0,1] [] l.length (λk _=>∀p:Pat->Bool,FunOnP S d l p->∀x∈l.take k,p x=false) (λ_=>[]) (λ_=>[]) () (by simp) ?_ ?_
 ·intro k _ hk b;simp;refine⟨hk,λx a=>?_⟩;rw[qem x];refine hp.useB x (aO a) λy j=>?_
  simp;refine⟨λh=>?_,λh q c=>?_⟩;grind [WZ,pu]
  ·rw[au a];grind
 ·intro _ b;simp;grind [WZ,ib]
def qlM(S0:Nat->Spc)(x:List Pat×D×Unit)(y:Bool):Prop:=∀p:Pat->Bool,FunOnP S0 x.2.1 x.1 p->y=x.1.any p
abbrev UU(S0:Nat->Spc):Spc:=ay (aE (List Pat) (aD a0)) (Xd S0) enc (qlM S0)
def se(h1:S kU=qqu S0):aq eh dX S (aE (List Pat) (aD a0)) (Xd S0) enc (qlM S0):=by
 rintro⟨l,d,⟨⟩⟩ hp;simp[eh,dX,h1,-fB'];refine⟨hp,λy b c a=>?_⟩;rw[b c a];grind [Spc,AC]
abbrev So(n:Nat):Spc:=ay (a2 Pat Int) (λx=>dK x.1<=n/\0<=x.2/\x.2<=101) (enc (X:=Bool)) λx y=>y=cF x.1 x.2
def qpK(n:Nat)(x:Pat×D×Unit):Prop:=∃d:Int,x.2.1= .cptr [enc d] 0/\dK x.1<=n/\0<=d/\d<=100
def qlG(x:Pat×D×Unit)(y:Bool):Prop:=∀d:Int,x.2.1= .cptr [enc d] 0->y=!cF x.1 (d+1)
abbrev qin(n:Nat):Spc:=ay (aE Pat (aD a0)) (qpK n) enc qlG
def Hb(n:Nat)(h1:S jw=So n):aq nL ny S (aE Pat (aD a0)) (qpK n) enc qlG:=by
 rintro⟨p,d,⟨⟩⟩ ⟨e,a,h2,h3,h4⟩;simp at a h2;subst a;simp[nL,ny,h1,qlG,h2,-fB'];grind [Spc,InR]
def Mi(n:Nat)(h0:S0 gw=qin n)(h1:S aN=UU S0):aq ru qC S (a2 Pat Int) (λx=>dK x.1<=n+1/\0<=x.2/\x.2<=101) (enc (X:=Bool)) λx y=>y=cF x.1 x.2:=by
 rintro⟨p,d⟩ ⟨hn,a,b⟩;have hk:∀k∈p.kids,dK k<=n:=λk hk=>by have:=kR hk;grind
 simp only at a b;simp[ru,qC,h1,-fB'];rw[nW];refine⟨λh=>?_,λh=>by grind⟩;have j:FunOnP S0 (.clo gw [.cptr [.v (.int .i64 d)] 0]) p.kids λx=>!cF x (d+1):=
  KQ h0 (λx l=>⟨d,rfl,hk x l,a,h⟩) (λx _ y c=>c d rfl)
 refine⟨⟨_,j⟩,λy c=>?_⟩;rw[c _ j,decide_eq_true h,qHb];grind
def qpM(S0:Nat->Spc)(n:Nat)(x:Pat×D×Unit):Prop:=∃(d:D) (f:Pat->Bool),x.2.1= .cptr [d] 0/\FunIs S0 d f/\dK x.1<=n
def qlH(S0:Nat->Spc)(x:Pat×D×Unit)(y:Bool):Prop:=∀(d:D) (f:Pat->Bool),x.2.1= .cptr [d] 0->FunIs S0 d f->y=!cj f x.1
abbrev qd0(S0:Nat->Spc)(n:Nat):Spc:=ay (aE Pat (aD a0)) (λx=>∃f:Pat->Bool,FunIs S0 x.2.1 f/\dK x.1<=n) enc λx y=>∀f:Pat->Bool,FunIs S0 x.2.1 f->y=cj f x.1
abbrev qiC(S0:Nat->Spc)(n:Nat):Spc:=ay (aE Pat (aD a0)) (qpM S0 n) enc (qlH S0)
def Ml(n:Nat)(h1:S fp=qd0 S0 n):aq rz qE S (aE Pat (aD a0)) (qpM S0 n) enc (qlH S0):=by
 rintro⟨p,d,⟨⟩⟩ ⟨e,f,a,h2,h3⟩;simp at a h3;subst a;simp[rz,qE,h1,qlH,h3,-fB'];grind
theorem Q1{N:Nat->Spc}(n:Nat)(j:∀(d:D) (f:Pat->Bool),FunIs N d f->FunIs S d f)(h0:S0 jy=qiC N n)(h1:S aN=UU S0):aq vU uS S (aE Pat (aD a0)) (λx=>∃f:Pat->Bool,FunIs N x.2.1 f/\dK x.1<=n+1) enc λx y=>∀f:Pat->Bool,FunIs N x.2.1 f->y=cj f x.1:=by
 rintro⟨p,d,⟨⟩⟩ ⟨f,a,hn⟩;have hk:∀k∈p.kids,dK k<=n:=λk hk=>by have:=kR hk;grind
 simp at a;have h:d.kn=true/\d.cells=[d]:=by obtain⟨g,caps,s,rfl,_⟩:=a;simp
 simp[vU,uS,h1,h,-fB'];rw[qem p];refine((j d f a).on [p]).useB p (by simp) λy c=>?_
 have c:∀f,FunIs N d f->y=f p:=λf a=>c f ((j d f a).on [p])
 simp[h1,-fB'];refine⟨λl=>?_,λq g b=>by grind [cT]⟩;have hO:∀g,FunIs N d g->FunOnP S0 (.clo jy [.cptr [d] 0]) p.kids λx=>!cj g x:=λg b=>
  KQ h0 (λx r=>⟨d,g,rfl,b,hk x r⟩) (λx _ y c=>c d g rfl b)
 refine⟨⟨_,hO f a⟩,λz hz g b=>?_⟩;rw[hz _ (hO g b),cT,<-c g b,l,qHb];grind
abbrev Ot:Spc:=ay (a2 Pat Int) (λx=>0<=x.2/\x.2<=101) (enc (X:=Bool)) λx y=>y=cF x.1 x.2
abbrev Cl(N:Nat->Spc):Spc:=ay (aE Pat (aD a0)) (λx=>∃f:Pat->Bool,FunIs N x.2.1 f) enc λx y=>∀f:Pat->Bool,FunIs N x.2.1 f->y=cj f x.1
abbrev Np:Spc:=ay (a1 Pat) (λ_=>True) (enc (X:=Bool)) λx y=>y=(cF x 1 && cj pm x)
def vo{X:Type}[Cod X]{S:Nat->Spc}{g:Nat}{pre:X->Prop}{p:X->Bool}(h:S g=ay (a1 X) pre enc λx y=>y=p x)(hp:∀x,pre x):FunIs S (.clo g []) p:=by
 refine⟨g, [],_,rfl,h,λx=>⟨⟨x,by simp,hp x⟩,λr a=>?_⟩⟩;simp_all
def Q7{N:Nat->Spc}(h0:N lN=UN)(h1:S jw=Ot)(h2:S fp=Cl N):aq vY uW S (a1 Pat) (λ_=>True) (enc (X:=Bool)) λx y=>y=(cF x 1 && cj pm x):=by
 rintro p -;have f1:FunIs N (.clo lN []) pm:=vo h0 λ_=>trivial
 simp[vY,uW,h1,h2,-fB'];grind
def QY{N:Nat->Spc}(h0:N dA=DO)(a:N cZ=yL)(h1:S mZ=Np)(h2:S fp=Cl N):aq vS uQ S (a1 Pat) (λ_=>True) (enc (X:=Bool)) λx y=>y=eP ax x:=by
 rintro p -;have f1:FunIs N (.clo dA []) (mS ax):=vo h0 λ_=>trivial
 have b:FunIs N (.clo cZ []) lK:=vo a λ_=>trivial
 simp[vS,uQ,h1,h2,-fB'];grind [eP,cF]
end
section
mutual
def kE:Pat->Nat| .mk op _ _ _ mn _ ks=>if ks=[]then 1 else if op=6 then(max 1 mn).toNat*lZ ks else lZ ks
def lZ:List Pat->Nat|[]=>0|k::ks=>kE k+lZ ks
end
def kA(p:Pat):kE p=if p.kids=[]then 1 else if p.op=6 then(max 1 p.mn).toNat*lZ p.kids else lZ p.kids:=by cases p;unfold kE;rfl
def DS(a b:List Pat):bB (a++b)=bB a+bB b:=by
 induction a with
 |nil=>simp[bB]
 |cons k a c=>simp only[qGN,bB];omega
def P8(p:Pat):1<=kE p:=by
 induction p using fJ with|_ p a=>?_
 rw[kA];split
 ·omega
 ·rename_i h;have:1<=lZ p.kids:=by
   rcases hk:p.kids with _|⟨k,ks⟩
   ·exact absurd hk h
   ·rw[lZ];have:=a k (by rw[hk];simp);omega
  split
  ·exact Nat.mul_pos (by omega) this
  ·exact this
theorem qpT{lb:List B} :∀n p,WP lb n p->kE p<=2^n:=by
 refine JH λn p hp h=>?_
 rw[kA];rcases yx hp with(⟨h1,h2,h3,h4,h5,h6⟩|⟨h1,h2,h3,h4,h5,h6,c⟩)|⟨m,rfl,(⟨h1,h2,h3,h4,h5,h6,a,b,c,_⟩|⟨h1,h2,h3,h4,h5,a,c,_⟩)⟩
 ·rw[if_pos h6];exact Nat.one_le_two_pow
 ·rw[if_pos c];exact Nat.one_le_two_pow
 ·obtain⟨j,d,_,a1⟩:=h a (by rw[c];simp);obtain⟨l,k,_,a2⟩:=h b (by rw[c];simp);have d:j=m:=by omega
  have k:l=m:=by omega
  subst d;subst k;rw[c,if_neg (by simp),if_neg (by omega),Nat.pow_succ];simp only[lZ];omega
 ·obtain⟨j,d,_,a1⟩:=h a (by rw[c];simp);have d:j=m:=by omega
  subst d;rw[c,if_neg (by simp),if_pos h1,Nat.pow_succ];simp only[lZ];have:(max 1 p.mn).toNat<=2:=by
   simp[qbf]at h5;omega
  have:=Nat.mul_le_mul this a1;rw[qG9];omega
open Cod (enc dec)
variable {S S0:Nat->Spc}
def qfp{a:Sg}{H:ab}{k j b el n:Nat}{cs cs':List D}(l:j≠k)(hk:H k=some (.box b cs))(hl:cs.length=cs'.length)(hc:∀(m:Nat) (c c':D),cs[m]? =some c->cs'[m]? =some c'->FrzTo dj c c'):
 Wk a H a (aj (aj H k (some (.box b cs'))) j (some (.row (.slice none 0 0) el n []))):=by
 refine qbs (Hf:=dj) id (λt=> .same _) (λi r h=>?_) (λi j r s _ _ e=> .inl e) (λi r h=>by simp_all);by_cases e:i=j
 ·subst e;simp[aj]at h;subst h;exact .inr ⟨rfl,rfl⟩
 ·by_cases d:i=k
  ·subst d;simp[aj,e]at h;subst h;exact .inl ⟨_,hk, .inr ⟨rfl,hl,hc⟩⟩
  ·simp only[aj,e,d,if_false]at h;exact .inl ⟨r,h, .inl rfl⟩
def MW:Nat->Cond->Prop
 | 0,_=>False
 |n+1,x=>x.kids.length<=1000000/\∀k∈x.kids,MW n k
abbrev Y8(n:Nat):Spc:=ay (a1 Cond) (MW n) (enc (X:=Cond)) λx y=>y=x
theorem NP(n:Nat)(h1:S kZ=Y8 n):aq tN ti S (a1 Cond) (MW (n+1)) (enc (X:=Cond)) λx y=>y=x:=by
 rintro⟨op,name,arg,val,lab,fold,kids⟩ ⟨hlen,hk⟩;simp only at hlen hk;simp[tN,ti];intro b2 p t;refine J1 (qfp (k:=3) (j:=20) (b:=p) (el:=iD) (n:=7) (cs':=[.v (.int .i64 op), .v (.string name), .v (.string arg), .v (.string val), .v (.string lab), .v (.bool fold), .own 20 (.slice none 0 0)]) (by decide) (by rfl) (by simp) ?_) ?_
 ·intro m c c' hc d
  match m with
  | 0|1|2|3|4|5=>simp_all
  | 6=>simp at hc d;subst hc;subst d;exact .nilown _
  |m+7=>simp at hc
 refine ah (X:=Value×List Cond) [2,9] [2] kids.length (λk x=>x.2=kids.take k) (λx=>[(3, .bptr 3 p 0)]) (λx=>[(3, .box p [.v (.int .i64 op), .v (.string name), .v (.string arg), .v (.string val), .v (.string lab), .v (.bool fold), .own 20 x.1]),(20, .row x.1 iD 7 (x.2.map enc))]) (.slice none 0 0, []) (by simp) ?_ ?_
 ·rintro k ⟨v,m⟩ a hm;simp only at hm;obtain⟨x,q⟩:=aU a;obtain⟨_,r⟩:=qFN.1 q;have s:=hk x (aO q);have u:m.length=k:=by grind
  simp[h1,a,q,r,s];refine⟨by omega,by omega,λv=> .inl (.inl ?_)⟩;simp_all [qGP]
 ·rintro⟨v,m⟩ hm;simp only at hm;rw[qFX]at hm;subst hm;simp;refine aM (Y:=Cond) ⟨op,name,arg,val,lab,fold,m⟩ ?_ rfl;simp;refine .agg (by simp) λi c c' h l=>?_
  match i with
  | 0|1|2|3|4|5=>simp at h l;subst h;subst l;exact .same _
  | 6=>simp at h l;subst h;subst l;exact fM iD (by simp)
  |i+7=>simp at h
def qFA{H:ab}{l a:List D}(h:FzL H l a):FrzTo H (.agg l) (.agg a):= .agg h.get.1 h.get.2
abbrev Sz:Spc:=ay (a1 Cond) (λx=>∃n,MW n x) (enc (X:=Cond)) λx y=>y=x
def mC(p:Pat):Pat:=⟨p.op,p.cond,p.lab,⟨#[]⟩,0,0, []⟩
abbrev UQ:Spc:=ay (a1 Pat) (λp=>∃n,MW n p.cond) (enc (X:=Pat)) λx y=>y=mC x
def Q2(h1:S kZ=Sz):aq vV uT S (a1 Pat) (λp=>∃n,MW n p.cond) (enc (X:=Pat)) λx y=>y=mC x:=by
 rintro p hp;simp[vV,uT,h1,hp];intro b;refine aM (Y:=Pat) (mC p) ?_ rfl;simp[mC,qFA]
def bA(p:Pat):List Pat:=(am p).map mC
def AB(p:Pat):bA p=if p.op=1 then[mC p]else p.kids.flatMap bA:=by
 unfold bA;grind [aW,List.map_flatMap]
def PLc(p:Pat):Prop:=∀y∈am p,∃n,MW n y.cond
def PLc.kid{p k:Pat}(h:PLc p)(a:¬p.op=1)(hk:k∈p.kids):PLc k:=λy b=>h y (by rw[aW,if_neg a];grind)
theorem qjM{ks:List Pat}{k:Nat}{x:Pat}(l:List Pat)(a:ks[k]? =some x):(l++ (ks.take k).flatMap bA) ++bA x=l++ (ks.take (k+1)).flatMap bA:=by
 rw[au a,qHK,List.flatMap_singleton,qGO]
def qha(x:Pat)(l:List Pat):Prop:=l.length+ (am x).length<=100000000/\PLc x
theorem qrb(ks:List Pat):(ks.flatMap bA).length=(ks.flatMap am).length:=by
 simp[bA]
def qjL{ks:List Pat}{k:Nat}{x:Pat}{l:List Pat}(a:ks[k]? =some x)(h:l.length+ (ks.flatMap am).length<=100000000)(hc:PLc x):qha x (l++ (ks.take k).flatMap bA):=by
 have:=qcG a h;grind [qha,qhj,qrb]
abbrev Te(n:Nat):Spc:=ql5 (X:=Pat) (Y:=Pat) (λx l=>dK x<=n/\qha x l) (λx l r=>r=l++bA x) bL 13
abbrev i_leavesQA:Spc:=ql5 (X:=Pat) (Y:=Pat) (λx l=>qha x l) (λx l r=>r=l++bA x) bL 13
theorem NN(n:Nat)(h1:S dE=Te n)(h2:S rY=UQ):Qt (X:=Pat) (Y:=Pat) jz jn S (λx l=>dK x<=n+1/\qha x l) (λx l r=>r=l++bA x) bL 13:=by
 rintro v l p ⟨hp,hl,hc⟩;have hk:∀k∈p.kids,dK k<=n:=λk hk=>by have:=kR hk;omega
 have a:=hl;rw[aW]at a;simp[jz,jn,h2];refine⟨λh1=>?_,λb _=>?_⟩
 ·have j:∃n,MW n p.cond:=hc p (by simp_all [aW]);simp[h1]at a;exact⟨j,by omega,by omega,λv=>dL (l++bA p) (by simp[AB,h1]) rfl⟩
 rw[if_neg b]at a;refine ah (X:=Value×List Pat) [16] [] p.kids.length (λk x=>x.2=l++ (p.kids.take k).flatMap bA) (λx=>[(1, .own 1 x.1)]) (λx=>[(1, .row x.1 bL 13 (x.2.map enc))]) (v,l) (by simp) ?_ ?_
 ·rintro k ⟨v,m⟩ c hm;simp only at hm;obtain⟨x,h⟩:=aU c;have d:=aO h;obtain⟨_,q⟩:=qFN.1 h;have s:=qjL h a (hc.kid b d);rw[<-hm]at s;have t:=hk x d;simp[h1,c,h,q,s,t];grind [qjM]
 ·rintro⟨v,m⟩ hm;simp only at hm;rw[qFX]at hm;simp;refine dL m (by simp) ?_;rw[hm,AB,if_neg b]
abbrev qgN:Spc:=qs8 (Y:=Pat) (aE Pat (aD a0)) (λx=>x.2.1=SU/\qha x.1 []) (λx r=>r=bA x.1) bL 13
theorem Mj(h1:S dE=i_leavesQA)(h2:S rY=UQ):qbc (Y:=Pat) jz jn S (aE Pat (aD a0)) (λx=>x.2.1=SU/\qha x.1 []) (λx r=>r=bA x.1) bL 13:=by
 rintro⟨p,d,⟨⟩⟩ ⟨j,hl,hc⟩;have j:d=SU:=j;subst j;have a:([]:List Pat).length+ (am p).length<=100000000:=hl;rw[aW]at a;simp[jz,jn,h2];refine⟨λh1=>⟨hc p (by simp_all [aW]),λv=>dL (bA p) (by simp[AB,h1]) rfl⟩,λb _=>?_⟩;rw[if_neg b]at a;refine ah (X:=Value×List Pat) [16] [] p.kids.length (λk x=>x.2=[] ++ (p.kids.take k).flatMap bA) (λx=>[(1, .own 1 x.1)]) (λx=>[(1, .row x.1 bL 13 (x.2.map enc))]) (.slice none 0 0, []) (by simp) ?_ ?_ (hh:=by simp[isNilRow])
 ·rintro k ⟨v,m⟩ c hm;simp only at hm;obtain⟨x,h⟩:=aU c;have l:=aO h;obtain⟨_,q⟩:=qFN.1 h;have s:=qjL h a (hc.kid b l);rw[<-hm]at s;simp[h1,c,h,q,s];grind [qjM]
 simp_all [dL,AB]
abbrev s_leavesQ:Spc:=qqQ qgN i_leavesQA
abbrev uH:Spc:=ay (a1 Pat) (λx=>qha x []) (enc (X:=List Pat)) λx y=>y=if eP ax x then bA x else[]
def mM(out:List B)(x:B):List B:=if x=E0 then out else DI out x
mutual
def bp:Pat->List B->List B
 | .mk op c l r mn mx ks,out=>VU ks (mM out l)
def VU:List Pat->List B->List B
 | [],out=>out
 |k::ks,out=>VU ks (bp k out)
end
def LY:∀(l:List Pat) (out:List B),VU l out=l.foldl (λo k=>bp k o) out
 | [],out=>by rfl
 |k::l,out=>by rw[VU,LY l];rfl
def pr(p:Pat)(out:List B):bp p out=p.kids.foldl (λo k=>bp k o) (mM out p.lab):=by
 cases p;rw[bp,LY]
def Jv(out:List B)(x:B):(mM out x).length<=out.length+1:=by
 grind [mM,DI]
theorem qgu(p:Pat):∀out,(bp p out).length<=out.length+cX p:=by
 induction p using fJ with|_ p a=>?_
 intro out;rw[pr,cO];have:∀(ks:List Pat) (o:List B),(∀k∈ks,k∈p.kids)->(ks.foldl (λo k=>bp k o) o).length<=o.length+bB ks:=by
  intro ks
  induction ks<;>grind [bB]
 have h1:=this p.kids (mM out p.lab) λ_ h=>h
 have h2:=Jv out p.lab;omega
def Ta(ks:List Pat)(k:Nat)(lb:List B):((ks.take k).foldl (λo k=>bp k o) lb).length<=lb.length+bB (ks.take k):=by
 generalize ks.take k=l
 induction l generalizing lb<;>grind [bB,qgu]
def qj5(l:List B)(x:B):Bool:=l.any λz=>decide (z=x)
theorem PG{l:List B}{x:B} :qj5 l x=true↔x∈l:=by
 unfold qj5;simp
abbrev s_hasE:Spc:=ay (aE (List B) (a1 B)) (λ_=>True) (enc (X:=Bool)) λx y=>y=qj5 x.1 x.2
abbrev qwf:Spc:=qzE (Y:=B) (a1 B) (λ_=>True) (enc (X:=Bool)) (λx y=>y=qj5 x.1 x.2) av 1
def Fi(h1:S dP=UP):aq cI cG S (aE (List B) (a1 B)) (λ_=>True) (enc (X:=Bool)) λx y=>y=qj5 x.1 x.2:=by
 rintro⟨l,x⟩ -;simp[cI,cG,h1];exact AC _ l
abbrev s_has2:Spc:=qqQ s_hasE qwf
def qlW(x:Pat)(l:List B):Prop:=l.length+cX x<=1000000
def qwq(x:Pat)(l r:List B):Prop:=r=bp x l
abbrev Z2(n:Nat):Spc:=ql5 (X:=Pat) (Y:=B) (λx l=>dK x<=n/\qlW x l) qwq av 1
abbrev i_labelsA:Spc:=ql5 (X:=Pat) (Y:=B) qlW qwq av 1
theorem NO(n:Nat)(h0:S bb=s_has2)(h1:S da=Z2 n):Qt (X:=Pat) (Y:=B) jA jo S (λx l=>dK x<=n+1/\qlW x l) qwq av 1:=by
 rintro v lb p ⟨y,hl⟩;have hk:∀k∈p.kids,dK k<=n:=λk h=>by have:=kR h;omega
 have hl:lb.length+cX p<=1000000:=hl;have q:=cO p;simp[jA,jo,h0];refine bh (X:=Value) [2] [] (λ_=>True) (λv=>[(1, .own 1 v)]) (λv=>[(1, .row v av 1 ((mM lb p.lab).map enc))]) ?_ ?_
 ·simp[h0,-fB'];refine⟨λhn=>?_,λhe=>?_⟩
  ·have hn:¬p.lab=E0:=hn;refine .inr ⟨λA=>⟨by omega,by omega,λv=> .inl ?_⟩,λC=> .inl ?_⟩
   ·rw[mM,if_neg hn,DI,if_neg (λh=>by grind [PG])];simp
   simp_all [mM,DI,PG]
  ·have he:p.lab=E0:=he;simp_all [mM]
 ·rintro v -;have r:=Jv lb p.lab;simp;intro s;refine ah (X:=Value×List B) [23] [] p.kids.length (λk x=>x.2=(p.kids.take k).foldl (λo k=>bp k o) (mM lb p.lab)) (λx=>[(1, .own 1 x.1)]) (λx=>[(1, .row x.1 av 1 (x.2.map enc))]) (v,mM lb p.lab) (by simp) ?_ ?_
  ·rintro k ⟨v,ls⟩ b a;simp only at a;obtain⟨x,c⟩:=aU b;obtain⟨_,d⟩:=qFN.1 c;have t:qlW x ls:=by
    have h2:=Ta p.kids k (mM lb p.lab);rw[<-a]at h2;have h4:bB (p.kids.take k) +bB (p.kids.drop k)=bB p.kids:=by rw[<-DS,qGj]
    rw[bE c,bB]at h4;show ls.length+cX x<=_;omega
   have j:=hk x (aO c);simp[b,c,d,h1,t,j];intro v' u w;obtain rfl:u=bp x ls:=w;simp_all [au]
  ·rintro⟨v,ls⟩ a;simp only at a;rw[qFX]at a;simp;refine dL ls (by simp) ?_;show ls=bp p lb;rw[pr,a]
abbrev qkA:Spc:=qs8 (Y:=B) (aE Pat (aD a0)) (λx=>x.2.1= .v (.slice none 0 0)/\qlW x.1 []) (λx r=>qwq x.1 [] r) av 1
theorem Mk(h0:S bb=s_has2)(h1:S da=i_labelsA):qbc (Y:=B) jA jo S (aE Pat (aD a0)) (λx=>x.2.1= .v (.slice none 0 0)/\qlW x.1 []) (λx r=>qwq x.1 [] r) av 1:=by
 rintro⟨p,d,⟨⟩⟩ ⟨c,hl⟩;have c:d= .v (.slice none 0 0):=c;subst c;have hl:0+cX p<=1000000:=hl;have s:=cO p;simp[jA,jo,h0];refine bh (X:=Value) [2] [] (λ_=>True) (λv=>[(1, .own 21 v)]) (λv=>[(21, .row v av 1 ((mM [] p.lab).map enc))]) ?_ ?_
 ·simp[h0,-fB'];refine⟨λhn=>?_,λhe=>?_⟩
  ·have hn:¬p.lab=E0:=hn;simp_all [PG,mM,DI]
  ·have he:p.lab=E0:=he;simp_all [mM,isNilRow]
 ·rintro v -;have h:=Jv [] p.lab;simp;intro t;refine ah (X:=Value×List B) [23] [] p.kids.length (λk x=>x.2=(p.kids.take k).foldl (λo k=>bp k o) (mM [] p.lab)) (λx=>[(1, .own 21 x.1)]) (λx=>[(21, .row x.1 av 1 (x.2.map enc))]) (v,mM [] p.lab) (by simp) ?_ ?_
  ·rintro k ⟨v,ls⟩ b a;simp only at a;obtain⟨x,j⟩:=aU b;obtain⟨_,l⟩:=qFN.1 j;have u:qlW x ls:=by
    have h2:=Ta p.kids k (mM [] p.lab);rw[<-a]at h2;have q:(mM [] p.lab).length<=0+1:=h;have h4:bB (p.kids.take k) +bB (p.kids.drop k)=bB p.kids:=by rw[<-DS,qGj]
    rw[bE j,bB]at h4;show ls.length+cX x<=_;omega
   simp[b,j,l,h1,u];intro v' w y;obtain rfl:w=bp x ls:=y;simp_all [au]
  ·rintro⟨v,ls⟩ a;simp only at a;rw[qFX]at a;simp;refine dL ls (by simp) ?_;show ls=bp p [];rw[pr,a]
abbrev s_qlabels:Spc:=qqQ qkA i_labelsA
end
section
open Go.Proofs
section
variable {T:St3->St3->Prop}(h0:∀s,T s s)(h1:∀s t u,T s t->T t u->T s u)(r:Rn)
include h0 h1
end
open Cod (enc dec)
variable {S S0:Nat->Spc}
structure qwF (c:Corpus) (p:Pat):Prop where
 sz:qtL c
 few:c.toks.length<=170
 pat:eP ax p=true
 l3:(bp p []).length<=3
 num:cX p<=1000000
 nd:∀t∈c.texts,EE (qFH (qiX c (bp p []) t)) p
structure qz1 (a:List Attr) (q:Qry):Prop where
 glob:q.glob=GlobE
 filts:q.filts=[]
 strat:q.strat=0
 pat:eP ax q.pat=true
 size:fu q.pat<=256
 l3:(bp q.pat []).length<=3
 num:cX q.pat<=1000000
 att:a.length<=1000
 lv:∀x∈am q.pat,ql4 a (bp q.pat []) x.cond=true/\∃n,MW n x.cond
abbrev HU(V:List Attr->Qry->Prop):Spc:=ay (a2 Qry (List Attr)) (λx=>V x.2 x.1) (enc (X:=Int)) λ_ y=>y=0
abbrev qqs:Spc:=HU qz1
structure qwy (V:List Attr->Qry->Prop) (c:Corpus) (q:Qry):Prop where
 v:V c.attrs q
 f:qwF c q.pat
end
end Go.Gv
