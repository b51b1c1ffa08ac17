/- W182 -/
import Derived.Shelf.SlSortCmp.NoneTotal
import Derived.Test.YtnffegdacbdhmaaGreatDoorGe13
set_option linter.all false
set_option maxRecDepth 100000
set_option maxHeartbeats 0
open Bool renaming forall_bool → fB', exists_bool → eB'
namespace Go.Gv
section
open Go.Proofs
open Cod (enc dec)
variable {S S0:Nat->Spc}
def R7(r:Rn)(p:Pat)(at_:Int)(x:Region):Bool:=decide (x.ty=p.reg) && decide ((if p.op=3 then x.e else x.b)=at_) && decide (r.bg<=x.b) && decide (x.e<=r.en)
def qhc(x:Region×Pat×Int×Rn×D):List D:=[enc x.1, .cptr (enc x.2.1).cells 0, .cptr [enc x.2.2.1] 0, .cptr [.cptr (nX x.2.2.2.1 x.2.2.2.2) 0] 0]
def qdg(z b:Region×Pat×Int×Rn×D)(h:qhc z=qhc b):z=b:=by
 obtain⟨a,p,i,r,k⟩:=z;obtain⟨l,c,q,r',s⟩:=b;unfold qhc at h;simp only[qF8,D.cptr.injEq,and_true]at h;obtain⟨h1,h2,h3,h4⟩:=h;have e:p=c:=aP (by rw[xn p,xn c,h2]);obtain⟨d,j⟩:=OT h4;rw[aP h1,e,aP h3,d,j]
noncomputable abbrev qES:dP (Region×Pat×Int×Rn×D):=aX qhc qdg
noncomputable abbrev In:Spc:=aG qES (λ_=>True) (enc (X:=Bool)) λx y=>y=R7 x.2.2.2.1 x.2.1 x.2.2.1 x.1
theorem qmK:ak br bq S qES (λ_=>True) (enc (X:=Bool)) λx y=>y=R7 x.2.2.2.1 x.2.1 x.2.2.1 x.1:=by
 rintro⟨a,p,i,r,k⟩ -;rw[Fg];by_cases d:p.op=3
 ·by_cases c:a.ty=p.reg
  rotate_left
  ·simp[qhc,br,bq,R7,d,c,-fB',-eB']
  by_cases h:a.e=i
  rotate_left
  ·simp[qhc,br,bq,R7,d,c,h,-fB',-eB']
  by_cases j:r.bg<=a.b
  rotate_left
  ·simp[qhc,br,bq,R7,d,c,h,j,-fB',-eB']
  simp[qhc,br,bq,R7,d,c,h,j,-fB',-eB']
 ·by_cases c:a.ty=p.reg
  rotate_left
  ·simp[qhc,br,bq,R7,d,c,-fB',-eB']
  by_cases h:a.b=i
  rotate_left
  ·simp[qhc,br,bq,R7,d,c,h,-fB',-eB']
  simp[qhc,br,bq,R7,d,c,h,-fB',-eB'];exact⟨by intros;omega,by intros;omega⟩
abbrev qme(x:D×Pat×Int):Prop:=qsN x.1
abbrev ql1(x:D×Pat×Int)(y:Bool):Prop:=∀r k,x.1= .cptr (nX r k) 0->y=qlM r x.2.1 x.2.2
abbrev qq0:Spc:=aG (aD (a2 Pat Int)) qme (enc (X:=Bool)) ql1
theorem qqp(h0:S0 cv=In)(h1:S bQ=YO Region S0):ak nq mS S (aD (a2 Pat Int)) qme (enc (X:=Bool)) ql1:=by
 rintro⟨d,p,i⟩ ⟨r,k,h,hl⟩;have h:d= .cptr (nX r k) 0:=h;subst h;have b:FunOn S0 (.clo cv [.cptr (enc p).cells 0, .cptr [enc i] 0, .cptr [.cptr (nX r k) 0] 0]) r.c.regs (R7 r p i):=
  wb (f:=λa=>(a,p,i,r,k)) h0 (λa _=>Hs qhc qdg (a,p,i,r,k)) (λ_ _=>trivial) (λa _ y j=>j)
 rw[show(enc p).cells=[enc p.op,enc p.cond.op,enc p.cond.name,enc p.cond.arg,enc p.cond.val,enc p.cond.lab,enc p.cond.fold,enc p.cond.kids,enc p.lab,enc p.reg,enc p.mn,enc p.mx,enc p.kids]by simp]at b;simp at b;simp[nq,mS,h1,-fB',-eB'];refine⟨⟨_,b⟩,λy j r' l e=>?_⟩;have e:D.cptr (nX r k) 0= .cptr (nX r' l) 0:=e;obtain rfl:=Iu e;rw[j _ b];rfl
end
section
open Go.Proofs
def rD:CC:=gq Tryz.f157 [] { ke:=[0,990] } _
def qh:List aj:=[.tmp 6]
def IP:FO mD [] rD qh 29:=fo
def ph:CC:=gq Tryz.f94 [5,3045000,2010010] { cu:=[6,15],ke:=[0,990] } _
def ov:List aj:=[.tmp 6]
def GK:FO dM [5,3045000,2010010] ph ov 121:=fo
def np:CC:=gq Tryz.f158 [5] { bx:=[53],cu:=[3,7,13,17],ke:=[0,990] } _
def mR:List aj:=[.tmp 6]
def Ft:FO oP [5] np mR 109:=fo
def rG:CC:=gq Tryz.f220 [] { bx:=[0] } _
def qk:List aj:=[]
def IS:FO sS [] rG qk 16:=fo
open Cod (enc dec)
variable {S S0:Nat->Spc}
structure qp5 (r:Rn) (q:Pat):Prop where
 nd:xY q
 num:lF q=true
 lab:q.lab≠mq->vw r.lb q.lab=true
 tok:q.op=1->∀s,qaX r.en s->s.p<r.en->∃y,Kj r q s=some y
structure qo7 (r:Rn):Prop where
 l3:r.lb.length<=3
 sz:qqK r.c
 en:r.en<=100000
def EQ(r:Rn)(es:List D):Prop:=∀e∈es,∃d p s l,vQ d p/\e= .tup [.agg [d, .v (.int .i64 s.p), .v (.int .i64 s.b0), .v (.int .i64 s.b1), .v (.int .i64 s.b2)], .mp (aW l)]/\l.Nodup/\∀t,t∈l↔pM r p s t
def qrV(l:List St3):D:= .mp (aW l)
@[simp] theorem qEq(l:List St3):qrV l= .mp (aW l):=rfl
def qeU(n:Nat)(r:Rn)(es:List D)(x:D×St3):Prop:=qo7 r/\EQ r es/\qaX r.en x.2/\∃p,vQ x.1 p/\cg p<=n/\tt (qp5 r) p
def qeQ(r:Rn)(x:D×St3)(es:List D)(y:List St3):Prop:=EQ r es/\y.Nodup/\∀p,vQ x.1 p->∀t,t∈y↔pM r p x.2 t
abbrev Ss(n:Nat):Spc:=quw (aD (a1 St3)) qrV (qeU n) qeQ
def qma(n:Nat)(r:Rn)(es:List D)(x:D×D×Unit):Prop:=qo7 r/\EQ r es/\(∃l:List St3,x.2.1= .mp (aW l)/\∀s∈l,qaX r.en s)/\∃p,vQ x.1 p/\cg p<=n/\tt (qp5 r) p
def qlY(r:Rn)(x:D×D×Unit)(es:List D)(y:List St3):Prop:=EQ r es/\y.Nodup/\∀(p:Pat) (l:List St3),vQ x.1 p->x.2.1= .mp (aW l)->∀t,t∈y↔ ∃s∈l,pM r p s t
abbrev qbP(n:Nat):Spc:=quw (aD (aD a0)) qrV (qma n) qlY
theorem qqr(n:Nat)(h1:S dM=Ss n):WG rD qh S (aD (aD a0)) qrV (qma n) qlY:=by
 rintro b r v es ⟨d,dl,⟨⟩⟩ ⟨hr,hm,⟨l,k,hl⟩,p,hp,O,Q⟩;have k:dl= .mp (aW l):=k;subst k;obtain⟨cs,off,U,I,J⟩:=hp;have U:d= .cptr cs off:=U;subst U;have hp:vQ (.cptr cs off) p:=⟨cs,off,rfl,I,J⟩
 simp[rD,qh,IA,-fB',-eB'];intro v1 b1;refine nD (X:=Value×List D×List St3×List D×List St3) [0,1,7,12] [] (λx=>EQ r x.2.1/\x.2.2.1.Nodup/\(∀s∈x.2.2.2.2,s∈l)/\(∀t∈x.2.2.1,∃s∈l,pM r p s t)/\∀s∈l,s∈x.2.2.2.2\/ ∀t,pM r p s t->t∈x.2.2.1)
  (λ_=>[]) (λx=>[(0, .box b (nX r (.own 990 x.1))),(990, .mrow x.1 x.2.1),(10, .mrow v1 (aW x.2.2.1)),(12, .miter b1 x.2.2.2.1 (aW x.2.2.2.2))]) (λx=>x.2.2.2.2.length) (v,es, [], [],l)
  ⟨hm,qG2,λ_ h=>h,λ_ h=>(by cases h),λs hs=> .inl hs⟩ (by simp) (by simp[wm]) ?_
 rintro⟨v',es',out,cur,left⟩ ⟨q,u,w,y,A⟩;simp only at q u w y A;simp[-fB',-eB'];refine⟨λh0=>?_,λl1 e l2 W=>?_⟩
 ·have C:=gz h0;subst C;refine Ts v' es' out (AI (by simp[ai])) (by simp[ai]) (by simp[ai]) ⟨q,u,λp' l' Y E t=>?_⟩;obtain rfl:=vF hp Y;have E:D.mp (aW l)= .mp (aW l'):=E;obtain rfl:=Ow (D.mp.inj E);exact⟨y t,λ⟨s,hs,hD⟩=>(A s hs).elim (λh=>by cases h) λh=>h t hD⟩
 ·obtain⟨a,s,c,rfl,rfl,rfl,rfl⟩:=iX W;have hs:s∈l:=w s (by simp);have Z:qeU n r es' (.cptr cs off,s):=⟨hr,q,hl s hs,p,hp,O,Q⟩
  simp[h1,Gp,Z,IA,-fB',-eB'];intro v2 es2 N hQ b2;have K:=hQ.2.2 p hp;refine nD (X:=List St3×List D×List St3) [0,1,7,12,21] [0,990,12] (λx=>x.1.Nodup/\(∀t∈x.2.2,t∈N)/\(∀t∈out,t∈x.1)/\(∀t∈x.1,t∈out\/t∈N)/\∀t∈N,t∈x.2.2\/t∈x.1)
   (λ_=>[]) (λx=>[(10, .mrow v1 (aW x.1)),(21, .miter b2 x.2.1 (aW x.2.2))]) (λx=>x.2.2.length) (out, [],N)
   ⟨u,λ_ h=>h,λ_ h=>h,λ_ h=> .inl h,λ_ h=> .inl h⟩ (by simp) (by simp) ?_
  rintro⟨j,cur2,left2⟩ ⟨g1,g2,g3,g4,g5⟩;simp only at g1 g2 g3 g4 g5;simp[-fB',-eB'];refine⟨λh0=>?_,λl1 e l2 L=>?_⟩
  ·have C:=gz h0;subst C;refine⟨v2,es2,j,_,a++c,⟨hQ.1,g1,λx h=>w x (by simp only[qFG,qFK]at h ⊢;rcases h with h|h<;>simp[h]),λt M=>?_,λx F=>?_⟩,⟨.inl rfl, .inl ⟨rfl,rfl⟩, .inl rfl, .inl ⟨rfl,(jG a c).symm⟩⟩,by simp⟩
   ·rcases g4 t M with h|h
    ·exact y t h
    ·exact⟨s,hs,(K t).1 h⟩
   ·rcases A x F with h|h
    ·rcases qFG.1 h with h|h
     ·exact .inl (by simp[h])
     ·rcases qFK.1 h with rfl|h
      ·exact .inr λt M=>(g5 t ((K t).2 M)).elim (λh=>by cases h) id
      ·exact .inl (by simp[h])
    ·exact .inr λt M=>g3 t (h t M)
  ·obtain⟨a2,t,c2,rfl,rfl,rfl,rfl⟩:=iX L;simp[-fB',-eB'];refine⟨ye t j,_,a2++c2,⟨BJ g1,λx h=>g2 x (by simp only[qFG,qFK]at h ⊢;rcases h with h|h<;>simp[h]),λx F=>fU.2 (.inr (g3 x F)),λx F=>?_,λx F=>?_⟩,⟨.inl rfl, .inl ⟨rfl,(jG a2 c2).symm⟩⟩,by simp⟩
   ·rcases fU.1 F with rfl|h
    ·exact .inr (g2 x (by simp))
    ·exact g4 x h
   ·rcases g5 x F with h|h
    ·rcases qFG.1 h with h|h
     ·exact .inl (by simp[h])
     ·rcases qFK.1 h with rfl|h
      ·exact .inr (fU.2 (.inl rfl))
      ·exact .inl (by simp[h])
    ·exact .inr (fU.2 (.inr h))
end
section
open Go.Proofs
def qes{r:Rn}{p:Pat}(h:p.op=1)(s t:St3):pM r p s t↔s.p<r.en/\Kj r p s=some true/\t=KQ r p s:=by
 obtain⟨op,c,l,rg,mn,mx,ks⟩:=p;rw[pM];dsimp only;rw[if_pos h]
def Qe{r:Rn}{p:Pat}(h:p.op=2\/p.op=3)(s t:St3):pM r p s t↔qlM r p s.p=true/\t=s:=by
 obtain⟨op,c,l,rg,mn,mx,ks⟩:=p;have h:op=2\/op=3:=h;rw[pM];dsimp only;rw[if_neg (by omega),if_pos h]
def qkV{r:Rn}{p:Pat}(h:p.op=4)(s t:St3):pM r p s t↔zZ r p.kids s t:=by
 obtain⟨op,c,l,rg,mn,mx,ks⟩:=p;have h:op=4:=h;rw[pM];dsimp only;rw[if_neg (by omega),if_neg (by omega),if_pos h]
def qpQ{r:Rn}{p:Pat}(h:p.op=5)(s t:St3):pM r p s t↔Ct r p.kids s t:=by
 obtain⟨op,c,l,rg,mn,mx,ks⟩:=p;have h:op=5:=h;rw[pM];dsimp only;rw[if_neg (by omega),if_neg (by omega),if_neg (by omega),if_pos h]
def qer{r:Rn}{p k:Pat}{ks:List Pat}(h:p.op=6)(hk:p.kids=k::ks)(s t:St3):pM r p s t↔EP (pM r k) p.mn p.mx s t:=by
 obtain⟨op,c,l,rg,mn,mx,kids⟩:=p;have h:op=6:=h;have hk:kids=k::ks:=hk;subst hk;rw[pM];dsimp only;rw[if_neg (by omega),if_neg (by omega),if_neg (by omega),if_neg (by omega),QR]
def xp(r:Rn)(s t:St3):zZ r [] s t↔s=t:=by rw[zZ]
def pF(r:Rn)(k:Pat)(ks:List Pat)(s t:St3):zZ r (k::ks) s t↔ ∃u,pM r k s u/\zZ r ks u t:=by rw[zZ]
def Js(r:Rn)(s t:St3):Ct r [] s t↔False:=by rw[Ct]
def wg(r:Rn)(k:Pat)(ks:List Pat)(s t:St3):Ct r (k::ks) s t↔pM r k s t\/Ct r ks s t:=by rw[Ct]
def Lc{r:Rn}{k:Pat} :∀{ks:List Pat} {s t:St3},zZ r (ks++ [k]) s t↔ ∃u,zZ r ks s u/\pM r k u t
 | [],s,t=>by
   rw[qGz,pF];constructor
   ·rintro⟨u,h1,h2⟩;exact⟨s,(xp ..).2 rfl,(xp ..).1 h2 ▸h1⟩
   ·rintro⟨u,h1,h2⟩;exact⟨t,(xp ..).1 h1 ▸h2,(xp ..).2 rfl⟩
 | a::ks,s,t=>by
   rw[qGk,pF];constructor
   ·rintro⟨u,h1,h2⟩;obtain⟨v,h3,h4⟩:=Lc.1 h2;exact⟨v,(pF ..).2 ⟨u,h1,h3⟩,h4⟩
   ·rintro⟨v,h3,h4⟩;obtain⟨u,h1,h2⟩:=(pF ..).1 h3;exact⟨u,h1,Lc.2 ⟨v,h2,h4⟩⟩
def Ty{r:Rn}{k:Pat} :∀{ks:List Pat} {s t:St3},Ct r (ks++ [k]) s t↔Ct r ks s t\/pM r k s t
 | [],s,t=>by rw[qGz,wg,Js];simp
 |a::ks,s,t=>by rw[qGk,wg,wg,Ty,or_assoc]
def O3{a:Type}{R:a->a->Prop}{n:Nat}{s t:a} :Pow R (n+1) s t↔ ∃u,Pow R n s u/\R u t:=by
 induction n generalizing s with
 | zero=>
   constructor
   ·rintro⟨u,h1,h2⟩;cases h2;exact⟨s,rfl,h1⟩
   ·rintro⟨u,h1,h2⟩;cases h1;exact⟨t,h2,rfl⟩
 | succ n b=>
   constructor
   ·rintro⟨u,h1,h2⟩;obtain⟨v,h3,h4⟩:=b.1 h2;exact⟨v,⟨u,h1,h3⟩,h4⟩
   ·rintro⟨v,⟨u,h1,h3⟩,h4⟩;exact⟨u,h1,b.2 ⟨v,h3,h4⟩⟩
def Ku{a:Type}{R:a->a->Prop}{m n:Nat}{s t:a}(h:Pow R (m+n) s t):∃u,Pow R m s u/\Pow R n u t:=by
 induction m generalizing s with
 |zero=>exact⟨s,rfl,by rwa [qGn]at h⟩
 | succ m b=>
   rw[Nat.succ_add]at h;obtain⟨v,h1,h2⟩:=h;obtain⟨u,h3,h4⟩:=b h2;exact⟨u,⟨v,h1,h3⟩,h4⟩
def LA(R:St3->St3->Prop)(base:List St3)(k:Nat)(t:St3):Prop:=∃u∈base,Pow (Nh R) k u t
structure qtN (R:St3->St3->Prop) (base:List St3) (j:Nat) (out new:List St3):Prop where
 o:∀t,t∈out↔ ∃k,k<=j/\LA R base k t
 f:∀t∈new,LA R base j t
 n:∀t,LA R base j t->t∈new\/ ∃k,k<j/\LA R base k t
def qlt(R:St3->St3->Prop)(base:List St3):qtN R base 0 base base:=by
 have h0:∀t,LA R base 0 t↔t∈base:=λt=>⟨λ⟨u,h1,h2⟩=>by cases h2;exact h1,λh=>⟨t,h,rfl⟩⟩
 refine⟨λt=>⟨λh=>⟨0,qFH _,(h0 t).2 h⟩,?_⟩,λt h=>(h0 t).2 h,λt h=> .inl ((h0 t).1 h)⟩;rintro⟨k,hk,h⟩;obtain rfl:k=0:=by omega
 exact(h0 t).1 h
def OV{R:St3->St3->Prop}{base:List St3}{k:Nat}{t:St3} :LA R base (k+1) t↔ ∃a,LA R base k a/\Nh R a t:=by
 constructor
 ·rintro⟨u,h1,h2⟩;obtain⟨a,h3,h4⟩:=O3.1 h2;exact⟨a,⟨u,h1,h3⟩,h4⟩
 ·rintro⟨a,⟨u,h1,h3⟩,h4⟩;exact⟨u,h1,O3.2 ⟨a,h3,h4⟩⟩
theorem qlu{R:St3->St3->Prop}{base out new d b:List St3}{j:Nat}(h:qtN R base j out new)(h1:∀t,t∈b↔t∉out/\∃a∈new,Nh R a t)(h2:∀t,t∈d↔t∈out\/t∈b):qtN R base (j+1) d b:=by
 have key:∀t,LA R base (j+1) t->t∈b\/t∈out:=λt p=>by
  obtain⟨a,q,hs⟩:=OV.1 p;by_cases ho:t∈out
  ·exact .inr ho
  ·rcases h.n a q with hn|⟨k,hk,l⟩
   ·exact .inl ((h1 t).2 ⟨ho,a,hn,hs⟩)
   ·exact .inr ((h.o t).2 ⟨k+1,by omega,OV.2 ⟨a,l,hs⟩⟩)
 have c:∀t∈b,LA R base (j+1) t:=λt p=>by
  obtain⟨_,a,q,hs⟩:=(h1 t).1 p;exact OV.2 ⟨a,h.f a q,hs⟩
 refine⟨λt=>?_,c,λt p=>?_⟩
 ·rw[h2];constructor
  ·rintro(ho|hn)
   ·obtain⟨k,hk,l⟩:=(h.o t).1 ho;exact⟨k,by omega,l⟩
   ·exact⟨j+1,qFH _,c t hn⟩
  ·rintro⟨k,hk,l⟩;by_cases e:k=j+1
   ·subst e;exact(key t l).symm
   ·exact .inl ((h.o t).2 ⟨k,by omega,l⟩)
 ·rcases key t p with hn|ho
  ·exact .inl hn
  ·obtain⟨k,hk,l⟩:=(h.o t).1 ho;exact .inr ⟨k,by omega,l⟩
def qlv{R:St3->St3->Prop}{base out:List St3}{j:Nat}(h:qtN R base j out [])(t:St3):t∈out↔ ∃k,LA R base k t:=by
 constructor
 ·intro c;obtain⟨k,_,b⟩:=(h.o t).1 c;exact⟨k,b⟩
 ·rintro⟨k,b⟩
  induction k using Nat.strongRecOn with
  | _ k d=>
    by_cases hk:k<=j
    ·exact(h.o t).2 ⟨k,hk,b⟩
    ·obtain⟨u,l,hp⟩:=b;obtain⟨a,h1,h2⟩:=Ku (m:=j) (n:=k -j) (by rwa [show j+ (k -j)=k by omega]);rcases h.n a ⟨u,l,h1⟩with hn|⟨i,hi,v,p,h3⟩
     ·cases hn
     ·exact d (i+ (k -j)) (by omega) ⟨v,p,h3.add h2⟩
def qi1{R:St3->St3->Prop}{base:List St3}{mn mx:Int}{s:St3}(hb:∀u,u∈base↔Pow R mn.toNat s u)(t:St3):EP R mn mx s t↔ ∃k:Nat,(mx< 0\/mn+k<=mx)/\LA R base k t:=by
 constructor
 ·rintro⟨u,h1,k,h2,h3⟩;exact⟨k,h2,u,(hb u).2 h1,h3⟩
 ·rintro⟨k,h2,u,h1,h3⟩;exact⟨u,(hb u).1 h1,k,h2,h3⟩
open Cod (enc dec)
variable {S S0:Nat->Spc}
def ql8(n:Nat)(r:Rn)(es:List D)(x:D×St3):Prop:=qo7 r/\EQ r es/\qaX r.en x.2/\∃p,vQ x.1 p/\p.op=6/\cg p<=n+1/\tt (qp5 r) p
abbrev qpu(n:Nat):Spc:=quw (aD (a1 St3)) qrV (ql8 n) qeQ
abbrev b_mtok:Spc:=qpU (a2 Pat St3) qeT (kZ (Y:=St3) (Z:=Bool)) qaK
abbrev b_manc:Spc:=qpU (a2 Pat Int) qme (enc (X:=Bool)) ql1
theorem qgi{d l:D}{s k:St3}(h:Mh (.agg [d, .v (.int .i64 s.p), .v (.int .i64 s.b0), .v (.int .i64 s.b1), .v (.int .i64 s.b2)]) (.agg [l, .v (.int .i64 k.p), .v (.int .i64 k.b0), .v (.int .i64 k.b1), .v (.int .i64 k.b2)])){p C:Pat}(hp:vQ d p)(q:vQ l C):p=C/\s=k:=by
 obtain⟨tp,I,w,x,h1,h2⟩:=h;obtain⟨xs,rfl,hl,hc⟩:=h1.inv_agg;obtain⟨E,he,F,j⟩:=h2.inv_agg;have r:xs=E:=by simpa using he
 subst r
 match xs,hl with
 | [J,K,L,M,N],_=>
   have a0:=(hc 0 _ _ rfl rfl).2;have b0:=(j 0 _ _ rfl rfl).2;have t:=(hc 1 _ _ rfl rfl).2.inv_v.symm.trans (j 1 _ _ rfl rfl).2.inv_v;have u:=(hc 2 _ _ rfl rfl).2.inv_v.symm.trans (j 2 _ _ rfl rfl).2.inv_v;have y:=(hc 3 _ _ rfl rfl).2.inv_v.symm.trans (j 3 _ _ rfl rfl).2.inv_v;have A:=(hc 4 _ _ rfl rfl).2.inv_v.symm.trans (j 4 _ _ rfl rfl).2.inv_v;simp only[qH1,true_and]at t u y A;obtain⟨a,b,c,d⟩:=s;obtain⟨O,b',c',l⟩:=k;simp only at t u y A;subst t;subst u;subst y;subst A;exact⟨qfS hp q a0 b0,rfl⟩
abbrev qDs:List KK:=[.ptr, .int .i64, .int .i64, .int .i64, .int .i64]
def Vd{d:D}{p:Pat}(h:vQ d p):qkx .ptr d=true:=by
 obtain⟨cs,off,rfl,h1,_⟩:=h;show decide (cs.length≠1)=true;rw[decide_eq_true_iff];omega
def Zg{r:Rn}{es:List D}(h:EQ r es):es.all (Wb true qDs)=true:=by
 rw[qFI];intro e he;obtain⟨d,p,s,l,hp,rfl,_⟩:=h e he;have:=Vd hp;simp[Wb,M6,rR,qcy,this];exact⟨rfl,rfl,rfl,rfl⟩
def qgk{r:Rn}{es:List D}{d:D}{p:Pat}{s:St3}{K:D->Prop}(h:EQ r es)(hp:vQ d p)(h1:∀l:List St3,l.Nodup->(∀t,t∈l↔pM r p s t)->K (.tup [.mp (aW l), .v (.bool true)]))(h2:K (.tup [.v (.map none), .v (.bool false)])):
 zr true false true qDs [.map none] (.agg [d, .v (.int .i64 s.p), .v (.int .i64 s.b0), .v (.int .i64 s.b1), .v (.int .i64 s.b2)]) es K:=by
 refine⟨Zg h,?_,λc v hm b=>?_,λ_=>h2⟩
 ·have:=Vd hp;simp[M6,rR,qcy,this];exact⟨rfl,rfl,rfl,rfl⟩
 ·obtain⟨j,k,q,l,a,e,hn,hl⟩:=h _ hm;simp only[D.tup.injEq,qF8,and_true]at e;obtain⟨rfl,rfl⟩:=e;obtain⟨rfl,rfl⟩:=qgi b hp a;exact h1 l hn hl
def qhD{r:Rn}{es:List D}{d:D}{p:Pat}{s:St3}{l:List St3}{K:List D->Prop}(h:EQ r es)(hp:vQ d p)(hn:l.Nodup)(hl:∀t,t∈l↔pM r p s t)(h1:∀es',EQ r es'->K es'):
 Di true qDs (.agg [d, .v (.int .i64 s.p), .v (.int .i64 s.b0), .v (.int .i64 s.b1), .v (.int .i64 s.b2)]) (.mp (aW l)) es K:=by
 refine⟨Zg h,?_,λa b v' c e j=>h1 _ λx hx=>?_,λ_=>h1 _ λx hx=>?_⟩
 ·have:=Vd hp;simp[M6,rR,qcy,this];exact⟨rfl,rfl,rfl,rfl⟩
 ·rcases qFG.1 hx with hx|hx
  ·exact h x (by rw[e];simp[hx])
  ·rcases qFK.1 hx with rfl|hx
   ·exact⟨d,p,s,l,hp,rfl,hn,hl⟩
   ·exact h x (by rw[e];simp[hx])
 ·rcases qFG.1 hx with hx|hx
  ·exact h x hx
  ·simp at hx;subst hx;exact⟨d,p,s,l,hp,rfl,hn,hl⟩
def SL{cs:List D}{off:Nat}{p:Pat}(hl:off+13<=cs.length)(hc:(cs.drop off).take 13=(enc p).cells):
 cs[off]? =some (.v (.int .i64 p.op))/\cs[off+10]? =some (.v (.int .i64 p.mn))/\cs[off+11]? =some (.v (.int .i64 p.mx))/\cs[off+12]? =some (.list 13 (p.kids.map enc)):=by
 refine⟨?_,?_,?_,?_⟩
 ·have:=Bn hl hc (j:=0) (by decide);rw[qGN]at this;rw[this];simp
 ·rw[Bn hl hc (j:=10) (by decide)];simp
 ·rw[Bn hl hc (j:=11) (by decide)];simp
 ·rw[Bn hl hc (j:=12) (by decide)];simp
def nG(q:Pat):vQ (.cptr [.v (.int .i64 q.op), .v (.int .i64 q.cond.op), .v (.string q.cond.name), .v (.string q.cond.arg), .v (.string q.cond.val), .v (.string q.cond.lab), .v (.bool q.cond.fold), .list 7 (q.cond.kids.map enc), .v (.string q.lab), .v (.string q.reg), .v (.int .i64 q.mn), .v (.int .i64 q.mx), .list 13 (q.kids.map enc)] 0) q:=
 ⟨_,_,rfl,qFH _,by simp⟩
theorem qmF(n:Nat)(h1:S kS=b_mtok)(h2:S jq=b_manc)(h3:S mD=qbP n)(h4:S dM=Ss n)(h5:S oP=qpu n):WG ph ov S (aD (a1 St3)) qrV (qeU (n+1)) qeQ:=by
 rintro b r v es ⟨d,s⟩ ⟨Y,hm,hs,p,hp,hpn,I⟩;have hp':=hp;obtain⟨cs,off,hd,E,Q⟩:=hp';have hd:d= .cptr cs off:=hd;subst hd;have hp:vQ (.cptr cs off) p:=hp;obtain⟨Z,c10,c11,N⟩:=SL E Q;simp[ph,ov,IA,-fB',-eB'];refine qgk hm hp (λl hn hl=>?_) ?_
 ·simp[-fB',-eB'];exact Ts v es l (.same _) (by simp[ai]) (by simp[ai]) ⟨hm,hn,λp' J=>by obtain rfl:=vF hp J;exact hl⟩
 simp[-fB',-eB'];intro v1;refine gc (X:=Value×List D×List St3) [0,1,5] [] [28] [] (λx=>EQ r x.2.1/\x.2.2.Nodup/\∀t,t∈x.2.2↔pM r p s t) (λx=>[(9, .mp (aW x.2.2))]) (λx=>[(0, .box b (nX r (.own 990 x.1))),(990, .mrow x.1 x.2.1)]) [0,990] (λ_=>rfl) (by decide) ?_ ?_
 ·have hnd:=(py I).nd;have hops:p.op=1\/p.op=2\/p.op=3\/p.op=4\/p.op=5\/p.op=6:=by
   rcases hnd with h|h|h|h
   ·exact .inl h.1
   ·rcases h.1 with h|h
    ·exact .inr (.inl h)
    ·exact .inr (.inr (.inl h))
   ·rcases h.1 with h|h
    ·exact .inr (.inr (.inr (.inl h)))
    ·exact .inr (.inr (.inr (.inr (.inl h))))
   ·exact .inr (.inr (.inr (.inr (.inr h.1))))
  have A:off+1<=cs.length:=by omega
  have F:off+12+1<=cs.length:=by omega
  have hdp:dec (X:=Pat) (.agg ((cs.drop off).take 13))=some p:=by rw[Q,<-xn,Cod.dec_enc]
  have hs:qaX r.en s:=hs;have hen:=Y.en;have hOk:qwr s:=⟨hs.1,by have:=hs.2.1;omega,λi=>⟨(hs.2.2 i).1,by have:=(hs.2.2 i).2;omega⟩⟩
  have hRn:∀k,qsN (.cptr (nX r k) 0):=λk=>⟨r,k,rfl,Y.l3⟩
  rcases hops with e|e|e|e|e|e
  all_goals rw[e]at Z
  ·have hPt:qeT (.cptr (nX r (.own 990 v)) 0,p,s):=⟨⟨r,_,rfl,Y.l3,Y.sz,(py I).lab,(py I).tok e s hs⟩,hOk⟩
   simp[Z,h1,YT,A,E,hdp,hPt,-fB',-eB'];intro a y C b2;obtain⟨U,q2⟩:=C r _ rfl;refine⟨λK=>?_,λK=>?_⟩
   ·subst K;obtain⟨q3,q4⟩:=U.1 rfl;have q5:a=KQ r p s:=q2 rfl;subst q5;exact⟨v,es, [KQ r p s],⟨hm,by simp,λt=>by rw[qes e];simp[q3,q4]⟩,AI (by simp[Ma,ai]), .inl (.inl rfl), .inl (.inl rfl)⟩
   ·subst K;refine⟨v,es, [],⟨hm,by simp,λt=>?_⟩,AI (by simp[Ma,ai,wm]), .inl (.inl rfl), .inl (.inl rfl)⟩;rw[qes e];constructor
    ·intro h;cases h
    ·rintro⟨q3,q4,_⟩;cases U.2 ⟨q3,q4⟩
  ·simp[Z,h2,A,E,hdp,hRn,-fB',-eB'];intro y C;obtain U:y=qlM r p s.p:=C r _ rfl;refine⟨λK=>?_,λK=>?_⟩
   ·exact⟨v,es, [s],⟨hm,by simp,λt=>by rw[Qe (.inl e),<-U,K];simp⟩,AI (by simp[Ma,ai]), .inl (.inl rfl), .inl (.inl rfl)⟩
   ·exact⟨v,es, [],⟨hm,by simp,λt=>by rw[Qe (.inl e),<-U,K];simp⟩,AI (by simp[Ma,ai,wm]), .inl (.inl rfl), .inl (.inl rfl)⟩
  ·simp[Z,h2,A,E,hdp,hRn,-fB',-eB'];intro y C;obtain U:y=qlM r p s.p:=C r _ rfl;refine⟨λK=>?_,λK=>?_⟩
   ·exact⟨v,es, [s],⟨hm,by simp,λt=>by rw[Qe (.inr e),<-U,K];simp⟩,AI (by simp[Ma,ai]), .inl (.inl rfl), .inl (.inl rfl)⟩
   ·exact⟨v,es, [],⟨hm,by simp,λt=>by rw[Qe (.inr e),<-U,K];simp⟩,AI (by simp[Ma,ai,wm]), .inl (.inl rfl), .inl (.inl rfl)⟩
  ·simp[Z,A,-fB',-eB'];refine gc (X:=Unit) [0,1,5] [0,990] [28] [] (λ_=>True) (λ_=>[(9, .mp (aW [s]))]) (λ_=>[]) [] (λ_=>rfl) (by decide) ?_ ?_
   ·simp[-fB',-eB'];exact AI (by simp[Ma,ai])
   rintro⟨⟩ -;simp[N,A,F,-fB',-eB'];intro hkl;refine Dg (X:=Value×List D×List St3) [0,1,5] [] p.kids.length (λk x=>EQ r x.2.1/\x.2.2.Nodup/\∀t,t∈x.2.2↔zZ r (p.kids.take k) s t) (λx=>[(9, .mp (aW x.2.2))]) (λx=>[(0, .box b (nX r (.own 990 x.1))),(990, .mrow x.1 x.2.1)]) (v,es, [s]) (by simp) (by simp) (by omega) (by simp) (by simp)
    ⟨hm,by simp,λt=>by rw[qHl,xp];simp[eq_comm]⟩ (by simp) (by simp) ?_ ?_
   ·rintro k ⟨O,es2,l⟩ hk ⟨c,w,j⟩;simp only at c w j;obtain⟨q,hq⟩:∃q,p.kids[k]? =some q:=⟨_,qFC hk⟩
    obtain⟨_,hgq⟩:=qFB.1 hq;have L:q∈p.kids:=qFF hq;simp[hk,hgq,N,A,F,h3,Gp,IA,-fB',-eB'];refine⟨⟨Y,c,⟨l,rfl,λt ht=>VM r _ _ _ ((j t).1 ht) hs⟩,q,nG q,by have:=fT L;omega,wM I L⟩,λv3 M ys C=>⟨v3,M,ys,⟨C.1,C.2.1,λt=>?_⟩,rfl, .inl rfl, .inl ⟨rfl,rfl⟩⟩⟩;rw[av hq,Lc,C.2.2 q l (nG q) rfl t];exact⟨λ⟨u,h1,h2⟩=>⟨u,(j u).1 h1,h2⟩,λ⟨u,h1,h2⟩=>⟨u,(j u).2 h1,h2⟩⟩
   ·rintro⟨O,es2,l⟩ ⟨c,w,j⟩;simp only at c w j;simp[-fB',-eB'];exact⟨O,es2,l,⟨c,w,λt=>by rw[qkV e,j,qFT]⟩, .same _, .inl (.inl rfl), .inl (.inl rfl)⟩
  ·simp[Z,N,A,F,-fB',-eB'];intro hkl;refine Dg (X:=Value×List D×List St3) [0,1,5,9] [] p.kids.length (λk x=>EQ r x.2.1/\x.2.2.Nodup/\∀t,t∈x.2.2↔Ct r (p.kids.take k) s t) (λx=>[]) (λx=>[(0, .box b (nX r (.own 990 x.1))),(990, .mrow x.1 x.2.1),(28, .mrow v1 (aW x.2.2))]) (v,es, []) (by simp) (by simp) (by omega) (by simp) (by simp)
    ⟨hm,by simp,λt=>by rw[qHl,Js];simp⟩ (by simp) (by simp[wm]) ?_ ?_
   ·rintro k ⟨O,es2,l⟩ hk ⟨c,w,j⟩;simp only at c w j;obtain⟨q,hq⟩:∃q,p.kids[k]? =some q:=⟨_,qFC hk⟩
    obtain⟨_,hgq⟩:=qFB.1 hq;have L:q∈p.kids:=qFF hq;simp[hk,hgq,N,A,F,h4,Gp,IA,-fB',-eB'];refine⟨⟨Y,c,hs,q,nG q,by have:=fT L;omega,wM I L⟩,λv3 M ys C b2=>?_⟩;have hys:=C.2.2 q (nG q);refine nD (X:=List St3×List D×List St3) [0,1,5,9,91,92,104] [0,990] (λx=>x.1.Nodup/\(∀t∈x.2.2,t∈ys)/\(∀t∈l,t∈x.1)/\(∀t∈x.1,t∈l\/t∈ys)/\∀t∈ys,t∈x.2.2\/t∈x.1)
     (λ_=>[]) (λx=>[(28, .mrow v1 (aW x.1)),(104, .miter b2 x.2.1 (aW x.2.2))]) (λx=>x.2.2.length) (l, [],ys)
     ⟨w,λ_ h=>h,λ_ h=>h,λ_ h=> .inl h,λ_ h=> .inl h⟩ (by simp) (by simp) ?_
    rintro⟨W,cur2,left2⟩ ⟨g1,g2,g3,g4,g5⟩;simp only at g1 g2 g3 g4 g5;simp[-fB',-eB'];refine⟨λh0=>?_,λl1 x l2 hsp2=>?_⟩
    ·have hlz:=gz h0;subst hlz;refine⟨v3,M,W,⟨C.1,g1,λt=>?_⟩, .inl rfl, .inl ⟨rfl,rfl⟩, .inl rfl⟩;rw[av hq,Ty,<-j,<-hys];exact⟨g4 t,λh=>h.elim (g3 t) λh=>(g5 t h).elim (λh=>by cases h) id⟩
    ·obtain⟨a2,t,c2,rfl,rfl,rfl,rfl⟩:=iX hsp2;simp[-fB',-eB'];refine⟨ye t W,_,a2++c2,⟨BJ g1,λx h=>g2 x (by simp only[qFG,qFK]at h ⊢;rcases h with h|h<;>simp[h]),λx hx=>fU.2 (.inr (g3 x hx)),λx hx=>?_,λx hx=>?_⟩,⟨.inl rfl, .inl ⟨rfl,(jG a2 c2).symm⟩⟩,by simp⟩
     ·rcases fU.1 hx with rfl|h
      ·exact .inr (g2 x (by simp))
      ·exact g4 x h
     ·rcases g5 x hx with h|h
      ·rcases qFG.1 h with h|h
       ·exact .inl (by simp[h])
       ·rcases qFK.1 h with rfl|h
        ·exact .inr (fU.2 (.inl rfl))
        ·exact .inl (by simp[h])
      ·exact .inr (fU.2 (.inr h))
   ·rintro⟨O,es2,l⟩ ⟨c,w,j⟩;simp only at c w j;simp[-fB',-eB'];exact⟨O,es2,l,⟨c,w,λt=>by rw[qpQ e,j,qFT]⟩,AI (by simp[Ma,ai]), .inl (.inl rfl), .inl (.inl rfl)⟩
  ·have hPr:ql8 n r es (.cptr cs off,s):=⟨Y,hm,hs,p,hp,e,hpn,I⟩
   simp[Z,h5,Gp,A,hPr,IA,-fB',-eB'];exactλO es2 y C=>⟨O,es2,y,⟨C.1,C.2.1,C.2.2 p hp⟩, .same _, .inl (.inl rfl), .inl (.inl rfl)⟩
 ·rintro⟨O,es2,l⟩ ⟨c,hn,hl⟩;simp only at c hn hl;simp[-fB',-eB'];refine qhD c hp hn hl λM hm3=>?_
  exact Ts O M l (.same _) (by simp[ai]) (by simp[ai]) ⟨hm3,hn,λp' J=>by obtain rfl:=vF hp J;exact hl⟩
def qp3(x:D×Unit)(l:List D):Prop:=∃a c:List St3,x.1= .mp (aW c)/\l=aW a/\a.Nodup
def qp0(x:D×Unit)(l l':List D):Prop:=∀a c:List St3,x.1= .mp (aW c)->l=aW a->∃q:List St3,l'=aW q/\q.Nodup/\∀t,t∈q↔t∈a\/t∈c
abbrev qis:Spc:=qA3 (aD a0) qp3 qp0
theorem qqn:qlS rG qk S (aD a0) qp3 qp0:=by
 rintro v l ⟨d,⟨⟩⟩ ⟨a,c,p,hl,hn⟩;have p:d= .mp (aW c):=p;subst p;subst hl;simp[rG,qk,-fB',-eB'];intro b1;refine nD (X:=List St3×List D×List St3) [0,7] [] (λx=>x.1.Nodup/\(∀t∈x.2.2,t∈c)/\(∀t∈a,t∈x.1)/\(∀t∈x.1,t∈a\/t∈c)/\∀t∈c,t∈x.2.2\/t∈x.1)
  (λ_=>[]) (λx=>[(0, .mrow v (aW x.1)),(7, .miter b1 x.2.1 (aW x.2.2))]) (λx=>x.2.2.length) (a, [],c)
  ⟨hn,λ_ h=>h,λ_ h=>h,λ_ h=> .inl h,λ_ h=> .inl h⟩ (by simp) (by simp) ?_
 rintro⟨b,s,q⟩ ⟨u,w,y,C,A⟩;simp only at u w y C A;simp[-fB',-eB'];refine⟨λh0=>?_,λE x F j=>?_⟩
 ·have r:=gz h0;subst r;refine⟨aW b,rfl,by rfl,λI c' h1 h2=>?_⟩;have h1:D.mp (aW c)= .mp (aW c'):=h1;obtain rfl:=Ow (D.mp.inj h1);obtain rfl:=Ow h2;grind
 ·obtain⟨a2,t,c2,rfl,rfl,rfl,rfl⟩:=iX j;simp[-fB',-eB'];refine⟨ye t b,_,a2++c2,⟨BJ u,λx h=>w x (by grind),λx k=>fU.2 (.inr (y x k)),λx k=>?_,λx k=>?_⟩,⟨.inl rfl, .inl ⟨rfl,(jG a2 c2).symm⟩⟩,by simp⟩;grind [fU]
  ·rcases A x k with h|h
   ·rcases qFG.1 h with h|h;grind
    ·rcases qFK.1 h with rfl|h;simp;grind
   simp_all
abbrev kp(q:Pat):D:= .cptr [.v (.int .i64 q.op), .v (.int .i64 q.cond.op), .v (.string q.cond.name), .v (.string q.cond.arg), .v (.string q.cond.val), .v (.string q.cond.lab), .v (.bool q.cond.fold), .list 7 (q.cond.kids.map enc), .v (.string q.lab), .v (.string q.reg), .v (.int .i64 q.mn), .v (.int .i64 q.mx), .list 13 (q.kids.map enc)] 0
def KX{p:Pat} :FU p=true↔p.op=6/\p.mx< 0/\p.mn<=1:=by
 simp[FU,and_assoc]
theorem qtV(n:Nat)(h1:S BV=qdu)(h3:S mD=qbP n)(h4:S dM=Ss n)(h5:S yw=clC)(h6:S sS=qis):WG np mR S (aD (a1 St3)) qrV (ql8 n) qeQ:=by
 rintro b r v es ⟨d,s⟩ ⟨hr,hm,hs,p,hp,hop,hpn,hpa⟩;have y:=hp;obtain⟨cs,off,hd,hl13,hc13⟩:=y;have hd:d= .cptr cs off:=hd;subst hd;have hp:vQ (.cptr cs off) p:=hp;have hs:qaX r.en s:=hs;have hen:=hr.en;obtain⟨c0,c10,c11,c12⟩:=SL hl13 hc13;have hl10:off+10+1<=cs.length:=by omega
 have hl11:off+11+1<=cs.length:=by omega
 have hl12:off+12+1<=cs.length:=by omega
 have hM:=py hpa;obtain⟨k0,U⟩:∃k,p.kids=[k]:=by
  rcases hM.nd with h|h|h|h
  ·have:=h.1;omega
  ·have:=h.1;omega
  ·have:=h.1;omega
  ·obtain⟨_,_,_,_,h⟩:=h
   match hk:p.kids,h with
   | [k],_=>exact⟨k,rfl⟩
 have hnum:0<=p.mn/\p.mn<=16/\(p.mx= -1\/p.mn<=p.mx/\p.mx<=16):=of_decide_eq_true hM.num hop;have L:k0∈p.kids:=by rw[U];simp
 have hk0d:=fT L;simp[np,mR,IA,c10,c12,hl10,hl12,U,-fB',-eB'];have inv0:∀s t,pM r p s t↔EP (pM r k0) p.mn p.mx s t:=qer hop U;refine aS (X:=Int×Pat) [0,1,5] [0,990] (λx=>cg x.2<=n/\tt (qp5 r) x.2/\0<=x.1/\x.1<=16/\(0<=p.mx->x.1<=p.mx)/\(FU p=true->x.1<=1)/\∀s t,pM r p s t↔EP (pM r x.2) x.1 p.mx s t)
  (λx=>[(7, .v (.int .i64 x.1)),(8,kp x.2)]) (λ_=>[]) ?_ ?_
 ·simp[-fB',-eB'];refine nD (X:=Int×Pat) [0,1,5] [0,990] (λx=>cg x.2<=n/\tt (qp5 r) x.2/\0<=x.1/\x.1<=16/\(0<=p.mx->x.1<=p.mx)/\(FU p=true->x.1<=1)/\∀s t,pM r p s t↔EP (pM r x.2) x.1 p.mx s t)
   (λx=>[(7, .v (.int .i64 x.1)),(8,kp x.2)]) (λ_=>[]) (λx=>cg x.2) (p.mn,k0)
   ⟨by show cg k0<=n;omega,wM hpa L,hnum.1,hnum.2.1,λh=>by show p.mn<=p.mx;omega,λh=>(KX.1 h).2.2,inv0⟩ (by simp) (by simp) ?_
  rintro⟨m,q⟩ ⟨g1,g2,g3,g4,g7,g5,g6⟩;simp only at g1 g2 g3 g4 g5 g6 g7;simp[h1,-fB',-eB'];have hnow:∀q':Pat,q'=q->(cg q'<=n/\tt (qp5 r) q'/\0<=m/\m<=16/\(0<=p.mx->m<=p.mx)/\(FU p=true->m<=1)/\∀s t,pM r p s t↔EP (pM r q') m p.mx s t):=λq' e=>by subst e;exact⟨g1,g2,g3,g4,g7,g5,g6⟩
  refine⟨⟨p,hp⟩,λy1 hy1=>⟨λe1=>⟨⟨q,nG q⟩,λy2 hy2=>⟨λe2=>?_,λe2=>⟨m,q,hnow q rfl,by simp⟩⟩⟩,λe1=>⟨m,q,hnow q rfl,by simp⟩⟩⟩;have e1:=(hy1 p hp).symm.trans e1;have e2:=(hy2 q (nG q)).symm.trans e2;obtain⟨_,px,pm⟩:=KX.1 e1;obtain⟨qo,qx,qm⟩:=KX.1 e2;have hpx:p.mx= -1:=by omega
  have hMq:=py g2;obtain⟨q1,W⟩:∃k,q.kids=[k]:=by
   rcases hMq.nd with h|h|h|h
   ·have:=h.1;omega
   ·have:=h.1;omega
   ·have:=h.1;omega
   ·obtain⟨_,_,_,_,h⟩:=h
    match hk:q.kids,h with
    | [k],_=>exact⟨k,rfl⟩
  have qnum:0<=q.mn/\q.mn<=16/\(q.mx= -1\/q.mn<=q.mx/\q.mx<=16):=of_decide_eq_true hMq.num qo;have hqx:q.mx= -1:=by omega
  have hq1m:q1∈q.kids:=by rw[W];simp
  have hq1d:=fT hq1m;have g5:=g5 e1;have hDq:pM r q=EP (pM r q1) q.mn (-1):=by
   funext s t;exact propext (by rw[<-hqx];exact qer qo W s t)
  have hmm:0<=m*q.mn/\m*q.mn<=1:=by
   have a:m=0\/m=1:=by omega
   have b:q.mn=0\/q.mn=1:=by omega
   rcases a with a|a<;>rcases b with b|b<;>rw[a,b] <;>decide
  refine⟨by simp only[InR];omega,by rw[W];simp,λa ha=>?_⟩;rw[W]at ha;obtain rfl:q1=a:=by simpa using ha
  refine⟨m*q.mn,q1,⟨by omega,wM g2 hq1m,hmm.1,by omega,λh=>by omega,λ_=>hmm.2,λs t=>?_⟩,by simp,hq1d⟩;rw[g6,hDq,hpx];exact qnn (D8 r q1) ⟨g3,g5⟩ ⟨qnum.1,qm⟩ s t
 rintro⟨m,q⟩ ⟨g1,g2,g3,g4,g7,g5,g6⟩;simp only at g1 g2 g3 g4 g5 g6 g7;clear inv0 g5 U L hk0d c12 hl12;simp[-fB',-eB'];refine gc (X:=Unit) [0,1,7,8] [0,990] [41] [] (λ_=>True) (λ_=>[(9, .mp (aW [s]))]) (λ_=>[]) [] (λ_=>rfl) (by decide) ?_ ?_;simp[AI,Ma];rintro⟨⟩ -;obtain⟨M,rfl⟩:∃M:Nat,m=(M:Int):=⟨m.toNat,by omega⟩
 simp[-fB',-eB'];refine Dg (X:=Value×List D×List St3) [0,1,7,8] [] M (λk x=>EQ r x.2.1/\x.2.2.Nodup/\∀t,t∈x.2.2↔Pow (pM r q) k s t) (λx=>[(9, .mp (aW x.2.2))]) (λx=>[(0, .box b (nX r (.own 990 x.1))),(990, .mrow x.1 x.2.1)]) (v,es, [s]) (by simp) (by simp) (by omega) (by simp) (by simp)
  ⟨hm,by simp,λt=>by simp[Pow,eq_comm]⟩ (by simp) (by simp) ?_ ?_
 ·rintro k ⟨v2,es2,l⟩ hk ⟨E,N,Y⟩;simp only at E N Y;simp[h3,Gp,IA,-fB',-eB'];refine⟨⟨hr,E,⟨l,rfl,λt C=>KY (BI r q) _ _ _ ((Y t).1 C) hs⟩,q,nG q,g1,g2⟩,λv3 es3 Z hQ=>⟨v3,es3,Z,⟨hQ.1,hQ.2.1,λt=>?_⟩,rfl, .inl rfl, .inl ⟨rfl,rfl⟩⟩⟩;rw[O3,hQ.2.2 q l (nG q) rfl t];exact⟨λ⟨u,h1,h2⟩=>⟨u,(Y u).1 h1,h2⟩,λ⟨u,h1,h2⟩=>⟨u,(Y u).2 h1,h2⟩⟩
 rintro⟨v2,es2,base⟩ ⟨E,N,hb⟩;simp only at E N hb;have O:∀t,pM r p s t↔ ∃k:Nat,(p.mx< 0\/(M:Int) +k<=p.mx)/\LA (pM r q) base k t:=λt=>by
  rw[g6 s t];exact qi1 (mn:=(M:Int)) (λu=>by rw[hb u];rfl) t
 have hbl:∀t∈base,qaX r.en t:=λt C=>KY (BI r q) _ _ _ ((hb t).1 C) hs
 clear hb g6;have hbz:qtN (pM r q) base 0 base base:=qlt _ _;have hrn:∀{j:Nat} {t:St3},LA (pM r q) base j t->qaX r.en t/\(j:Int)<=t.p:=λ{j t} ⟨u,h1,h2⟩=>by
  have a:=hbl u h1;have c:=KY (R:=Nh (pM r q)) (λs t q=>BI r _ s t q.1) j _ _ h2 a;have d:=PR h2;have:=a.1;exact⟨c,by omega⟩
 simp[h5,-fB',-eB'];constructor
 ·intro h0;have A:=gz h0;subst A;refine au (X:=Unit) [0,1,8,9,10,11] [0,990] (λ_=>True) (λ_=>[]) (λ_=>[]) (λ_=>0) () trivial ?_;rintro⟨⟩ -;refine aS (X:=Unit) [0] [] (λ_=>False) (λ_=>[]) (λ_=>[]) ?_ λ_ h=>h.elim
  simp[wm,-fB',-eB'];refine Ts v2 es2 [] (.same _) (by simp[ai]) (by simp[ai]) ⟨E,qG2,λp' y t=>?_⟩;obtain rfl:=vF hp y;rw[O];exact⟨λh=>(by cases h),λ⟨k,_,u,hu,_⟩=>(by cases hu)⟩
 intro hne v5;refine nD (X:=Nat×List St3×List St3×Value×List D) [0,1,8,10] [] (λx=>(p.mx< 0\/(M:Int) +x.1<=p.mx)/\EQ r x.2.2.2.2/\x.2.1.Nodup/\x.2.2.1.Nodup/\qtN (pM r q) base x.1 x.2.1 x.2.2.1)
  (λx=>[(9, .mp (aW x.2.2.1)),(11, .v (.int .i64 (M+x.1)))]) (λx=>[(0, .box b (nX r (.own 990 x.2.2.2.1))),(990, .mrow x.2.2.2.1 x.2.2.2.2),(53, .mrow v5 (aW x.2.1))]) (λx=>r.en.toNat+1 -x.1) (0,base,base,v2,es2)
  ⟨by show p.mx< 0\/(M:Int) + ((0:Nat):Int)<=p.mx;omega,E,N,N,hbz⟩ (by simp) (by simp) ?_
 rintro⟨j,out,new,v6,es6⟩ ⟨e1,hm6,ho6,hn6,hB⟩;simp only at e1 hm6 ho6 hn6 hB;have hjm:(new≠ []->(j:Int)<=r.en):=λh=>by
  obtain⟨t,C⟩:=List.exists_mem_of_ne_nil _ h;obtain⟨a,c⟩:=hrn (hB.f t C);have:=a.2.1;omega
 refine aS (X:=Unit) [0,1,8,9,10,11] [0,990,53] (λ_=>new≠ []/\(p.mx< 0\/(M:Int) +j<p.mx)) (λ_=>[]) (λ_=>[]) ?_ ?_
 ·simp[c11,hl11,-fB',-eB'];have hnz:0<(aW new).length->¬new=[]:=λh e=>by subst e;simp[aW]at h
  refine⟨λh0=>⟨λh1=>⟨λh2=>⟨hnz h0, .inr h2⟩,λh2=>?_⟩,λh1=>⟨hnz h0, .inl h1⟩⟩,λh0=>?_⟩
  ·refine Ts v6 es6 out (AI (by simp[ai])) (by simp[ai]) (by simp[ai]) ⟨hm6,ho6,λp' y t=>?_⟩;obtain rfl:=vF hp y;rw[O,hB.o];exact⟨λ⟨k,h3,h4⟩=>⟨k, .inr (by omega),h4⟩,λ⟨k,h3,h4⟩=>⟨k,by omega,h4⟩⟩
  ·have A:=gz h0;subst A;refine Ts v6 es6 out (AI (by simp[ai])) (by simp[ai]) (by simp[ai]) ⟨hm6,ho6,λp' y t=>?_⟩;obtain rfl:=vF hp y;rw[O];constructor
   ·intro h;obtain⟨k,h3,h4⟩:=(hB.o t).1 h;exact⟨k,by omega,h4⟩
   ·rintro⟨k,_,h4⟩;exact(qlv hB t).2 ⟨k,h4⟩
 rintro⟨⟩ ⟨hne,hgo⟩;have hjr:=hjm hne;simp[-fB',-eB'];intro v7;refine gc (X:=Value×List D×List St3) [0,1,8,10,11] [53] [75] [] (λx=>EQ r x.2.1/\x.2.2.Nodup/\∀t,t∈x.2.2↔t∉out/\∃a∈new,Nh (pM r q) a t) (λx=>[(12, .mp (aW x.2.2))]) (λx=>[(0, .box b (nX r (.own 990 x.1))),(990, .mrow x.1 x.2.1)]) [0,990] (λ_=>rfl) (by decide) ?_ ?_
 ·simp[-fB',-eB'];intro b7;refine nD (X:=Value×List D×List St3×List D×List St3) [0,1,8,10,11,12,77] [53] (λx=>EQ r x.2.1/\x.2.2.1.Nodup/\(∀a∈x.2.2.2.2,a∈new)/\(∀t∈x.2.2.1,t∉out/\∃a∈new,Nh (pM r q) a t)/\∀a∈new,a∈x.2.2.2.2\/ ∀t,Nh (pM r q) a t->t∉out->t∈x.2.2.1)
   (λ_=>[]) (λx=>[(0, .box b (nX r (.own 990 x.1))),(990, .mrow x.1 x.2.1),(75, .mrow v7 (aW x.2.2.1)),(77, .miter b7 x.2.2.2.1 (aW x.2.2.2.2))]) (λx=>x.2.2.2.2.length) (v6,es6, [], [],new)
   ⟨hm6,qG2,λ_ h=>h,λ_ h=>(by cases h),λs hs=> .inl hs⟩ (by simp) (by simp[wm]) ?_
  rintro⟨v8,es8,w,cur,left⟩ ⟨F,I,hl8,ho8,hd8⟩;simp only at F I hl8 ho8 hd8;simp[-fB',-eB'];refine⟨λh0=>?_,λl1 x l2 hsp=>?_⟩
  ·have A:=gz h0;subst A;refine⟨v8,es8,w,⟨F,I,λt=>⟨ho8 t,λ⟨h3,a,h4,h5⟩=>(hd8 a h4).elim (λh=>by cases h) λh=>h t h5 h3⟩⟩,AI (by simp[Ma,ai]), .inl (.inl rfl), .inl (.inl rfl)⟩
  ·obtain⟨a1,a,c1,rfl,rfl,rfl,rfl⟩:=iX hsp;have ha:a∈new:=hl8 a (by simp);have haL:=(hrn (hB.f a ha)).1;have hPr:qeU n r es8 (kp q,a):=⟨hr,F,haL,q,nG q,g1,g2⟩
   simp[h4,Gp,hPr,IA,-fB',-eB'];intro b13 v9 es9 Z hQ b9;have hys:=hQ.2.2 q (nG q);refine nD (X:=List St3×List D×List St3) [0,1,8,10,11,12,13,77,86] [0,990,13,53,77] (λx=>x.1.Nodup/\(∀t∈x.2.2,t∈Z)/\(∀t∈w,t∈x.1)/\(∀t∈x.1,t∈w\/t∉out/\t∈Z/\a.p<t.p)/\∀t∈Z,t∈x.2.2\/(a.p<t.p->t∉out->t∈x.1))
    (λ_=>[]) (λx=>[(75, .mrow v7 (aW x.1)),(86, .miter b9 x.2.1 (aW x.2.2))]) (λx=>x.2.2.length) (w, [],Z)
    ⟨I,λ_ h=>h,λ_ h=>h,λ_ h=> .inl h,λ_ h=> .inl h⟩ (by simp) (by simp) ?_
   rintro⟨J,cur2,left2⟩ ⟨k1,k2,k3,k4,k5⟩;simp only at k1 k2 k3 k4 k5;simp[-fB',-eB'];refine⟨λh0=>?_,λl1 x l2 hsp2=>?_⟩
   ·have A:=gz h0;subst A;refine⟨v9,es9,J,_,a1++c1,⟨hQ.1,k1,λx h=>hl8 x (by simp only[qFG,qFK]at h ⊢;rcases h with h|h<;>simp[h]),λt C=>?_,λx hx=>?_⟩,⟨.inl rfl, .inl ⟨rfl,rfl⟩, .inl rfl, .inl ⟨rfl,(jG a1 c1).symm⟩⟩,by simp⟩
    ·rcases k4 t C with h|⟨h,h',h''⟩
     ·exact ho8 t h
     ·exact⟨h,a,ha,(hys t).1 h',h''⟩
    ·rcases hd8 x hx with h|h
     ·rcases qFG.1 h with h|h
      ·exact .inl (by simp[h])
      ·rcases qFK.1 h with rfl|h
       ·exact .inr λt C K=>(k5 t ((hys t).2 C.1)).elim (λh=>by cases h) λh=>h C.2 K
       ·exact .inl (by simp[h])
     ·exact .inr λt C K=>k3 t (h t C K)
   ·obtain⟨a2,t,c2,rfl,rfl,rfl,rfl⟩:=iX hsp2;have Q:∀x∈a2++c2,x∈Z:=λx h=>k2 x (by simp only[qFG,qFK]at h ⊢;rcases h with h|h<;>simp[h])
    have C:t∈Z:=k2 t (by simp);have K:(a.p<t.p->t∉out->t∈J)->∀x∈Z,x∈a2++c2\/(a.p<x.p->x∉out->x∈J):=λhh x hx=>by
     rcases k5 x hx with h|h
     ·rcases qFG.1 h with h|h
      ·exact .inl (by simp[h])
      ·rcases qFK.1 h with rfl|h
       ·exact .inr hh
       ·exact .inl (by simp[h])
     ·exact .inr h
    by_cases e3:a.p<t.p
    rotate_left
    ·simp[e3,-fB',-eB'];exact⟨J,_,a2++c2,⟨k1,Q,k3,k4,K λh=>absurd h e3⟩,⟨.inl rfl, .inl ⟨rfl,(jG a2 c2).symm⟩⟩,by simp⟩
    by_cases e4:t∈out
    ·simp[e3,e4,-fB',-eB'];exact⟨J,_,a2++c2,⟨k1,Q,k3,k4,K λ_ h=>absurd e4 h⟩,⟨.inl rfl, .inl ⟨rfl,(jG a2 c2).symm⟩⟩,by simp⟩
    ·simp[e3,e4,-fB',-eB'];refine⟨ye t J,_,a2++c2,⟨BJ k1,Q,λx hx=>fU.2 (.inr (k3 x hx)),λx hx=>?_,λx hx=>?_⟩,⟨.inl rfl, .inl ⟨rfl,(jG a2 c2).symm⟩⟩,by simp⟩
     ·rcases fU.1 hx with rfl|h
      ·exact .inr ⟨e4,C,e3⟩
      ·exact k4 x h
     ·rcases k5 x hx with h|h
      ·rcases qFG.1 h with h|h
       ·exact .inl (by simp[h])
       ·rcases qFK.1 h with rfl|h
        ·exact .inr λ_ _=>fU.2 (.inl rfl)
        ·exact .inl (by simp[h])
      ·exact .inr λq1 q2=>fU.2 (.inr (h q1 q2))
 ·rintro⟨v8,es8,w⟩ ⟨F,I,hx8⟩;simp only at F I hx8;simp[h6,-fB',-eB'];refine⟨⟨out,w,rfl,rfl,ho6⟩,λl' hQ=>?_⟩;obtain⟨out',rfl,ho',hx'⟩:=hQ out w rfl rfl;exact⟨by simp only[InR];omega,j+1,out',w,v8,es8,⟨by omega,F,ho',I,qlu hB hx8 hx'⟩,⟨⟨rfl,by omega⟩, .inl rfl, .inl ⟨rfl,rfl⟩, .inl rfl⟩,by omega⟩
end
section
open Cod (enc dec)
open Go.Proofs Go.Sort Go.Shelf Go.Lib Go.RowKit
def VZ{b p:Type}{f:b->List p}{n:Nat} :∀{l:List b},(∀x∈l,(f x).length=n)->∀{i j:Nat},j<n->(l.flatMap f)[i*n+j]? =(l[i]?).bind λx=>(f x)[j]?
 | [],_,i,j,_=>by simp
 | d::es,h,0,j,c=>by
   have a:=h d (by simp);simp only[qGf,Nat.zero_mul,qGn];rw[qGc (by omega)];simp
 | d::es,h,i+1,j,c=>by
   have a:=h d (by simp);have q:=VZ (l:=es) (λd a=>h d (by simp[a])) (i:=i) c;simp only[qGf];rw[qF4 (by rw[a,qGG];omega),a];have:(i+1) *n+j -n=i*n+j:=by rw[qGG];omega
   rw[this,q];simp
def K5{a b:Type}{f:a->List b}{n:Nat} :∀{l:List a},(∀x∈l,(f x).length=n)->(l.flatMap f).length=l.length*n
 | [],_=>by simp
 | d::es,h=>by
   have c:=K5 (l:=es) (λd j=>h d (by simp[j]));simp only[qGf,qF5];rw[c,h d (by simp),qGi,qGG];omega
section
variable {X:Type}[Cod X][Inhabited X](ev:X->List Value)(k:Nat)(hk:∀x,(ev x).length=k)
include hk
omit [Cod X]in
theorem BM(l:List X):(flatK ev k l.toArray).toList=l.flatMap ev:=by
 have hl:=K5 (f:=ev) (n:=k) (l:=l) (λx _=>hk x);apply qGj;intro t;by_cases ht:t<l.length*k
 ·have k0:0<k:=by
   rcases qGU k with h|h
   ·subst h;simp at ht
   ·exact h
  have h1:=get_flatK ev k l.toArray t (by simpa using ht);have hs:t<(flatK ev k l.toArray).size:=by simpa using ht
  rw[getElem!_pos _ t hs]at h1;rw[qFZ,qGe hs,h1];have hm:t % k<k:=qG3 _ k0;have hdm:t=(t/k) *k+t % k:=by have:=qGW t k;rw[qHw]at this;omega
  have hq:t/k<l.length:=qHL (by rw[qHw];exact ht);have h2:=VZ (f:=ev) (n:=k) (l:=l) (λx _=>hk x) (i:=t/k) hm;rw[<-hdm]at h2;rw[h2,qFC hq];have h3:(l.toArray)[t/k]! =l[t/k]:=by rw[getElem!_pos l.toArray (t/k) (by simpa using hq)];simp
  rw[h3];have h4:t % k<(ev l[t/k]).length:=by rw[hk];exact hm
  simp only[qFW];rw[getElem!_pos (ev l[t/k]) (t % k) h4,qFC h4]
 ·rw[qFV (by simpa using ht),qFV (by omega)]
end
def BK{w:World}{b j el:Nat}{c:Array Value}(h:w.heap[b]? =some (.cells c el (0,0))):w.frozen? ⟨b,j,none⟩=false:=by
 simp[World.frozen?,h]
def Hk{w:World}{b j el:Nat}{c:Array Value}{fr:Nat×Nat}(h:w.heap[b]? =some (.cells c el fr)):w.cell? ⟨b,j,none⟩=c[j]?:=by
 simp[World.cell?,h]
def EZ{w:World}{gb b:Nat}{f:Array Value->Array Value}{os:Array Obj}(hb:b<w.heap.size)(a:b≠gb):(grow (mapBlock w gb f) os).heap[b]? =w.heap[b]?:=by
 simp only[grow,mapBlock];rw[qGv (by simpa using hb),qHI];have:¬gb=b:=λe=>a e.symm
 simp[this]
def O0{w:World}{gb el:Nat}{c:Array Value}{fr:Nat×Nat}{f:Array Value->Array Value}{os:Array Obj}(h:w.heap[gb]? =some (.cells c el fr)):(grow (mapBlock w gb f) os).heap[gb]? =some (.cells (f c) el fr):=by
 have hb:gb<w.heap.size:=(qFN.1 h).1;simp only[grow,mapBlock];rw[qGv (by simpa using hb),qHI];simp[h,onCells]
variable {dq:Prop}
section
variable {P:Program}{ρ:Ren}
theorem qsD{tp I p q:Nat->Prop}{w w':World}{v:Value}{l:List Int}(h:R tp I w v (enc l))(hI:∀b,I b->q b/\w'.heap[b]? =w.heap[b]?):R p q w' v (enc l):=by
 have h:R tp I w v (.list 1 (l.map enc)):=h;show R p q w' v (.list 1 (l.map enc));have j:∀c∈bp (l.map (enc (X:=Int))),∃x:Int,c= .v (.int .i64 x):=λc hm=>by
  unfold bp at hm;obtain⟨d,t,hc⟩:=qG0.1 hm;obtain⟨x,_,rfl⟩:=qFL.1 t;simp_all
 generalize l.map (enc (X:=Int))=es at h j;cases h with
 |nolist a cap n=>exact .nolist _ _ _
 | list b off cap n _ f r hc hm hz hn hcell h1 s=>
   refine .list b off cap 1 _ f (hI b r).1 hc hm (λh=>absurd rfl h) hn (λk c hk=>by grind [D,PlainB,qHm]) h1 λk c hk=>?_
   have u:=s k c hk;obtain⟨x,y⟩:=j c (qFF hk);subst y;have:=u.inv_v;rw[this];exact .int .i64 x
def JO(xs:List Value)(n:Nat)(i:_root_.Fin n):List Value:=(xs.drop (i.val*3)).take 3
def qln(l:List cb)(i j:_root_.Fin l.length):Int:=Le l[i] l[j]
def tY(l:List cb)(i j:_root_.Fin l.length):ltOf (qln l) i j=true↔qci l[i] l[j]:=by
 unfold ltOf qln qci;simp
def qnb(l:List cb):SWO (ltOf (qln l)):=by
 refine⟨λx=>?_,λx y z h1 h2=>?_,λx y z h1 h2=>?_⟩;simp[qGY,tY,qd1];grind [tY,E6]
 ·rw[qGY,ne_eq,tY]at*;grind [Nx,E6]
def Wf{xs:List Value}{n:Nat}(a:xs.length=n*3)(i:_root_.Fin n){j:Nat}(b:j< 3):(JO xs n i)[j]? =xs[i.val*3+j]?:=by
 simp_all [JO]
def qel{xs:List Value}{n:Nat}(a:xs.length=n*3)(i:_root_.Fin n):(JO xs n i).length=3:=by
 grind [JO]
def qsL(g:Nat)(x:D×Unit)(l:List cb):Prop:=x.1= .clo g []/\l.length<=1000000000/\l.Nodup
def qsE(_:D×Unit)(l r:List cb):Prop:=Fh r/\r.length=l.length/\∀m,m∈r↔m∈l
abbrev qbN(g el:Nat):Spc:=qrK (Y:=cb) (aD a0) (qsL g) qsE el 3
def qeD(m:cb):(enc m).cells=[.v (.int .i64 m.b), .v (.int .i64 m.e),enc m.lbs]:=by rfl
theorem qgX{g:Nat}(J:Tri True P g s_cmpM.pt)(K:lg=[]){tp I:Nat->Prop}{w:World}{gb:Nat}{l:List cb}[Inhabited (_root_.Fin l.length)]{xs:List Value}(L:xs.length=l.length*3)
 (hI:∀b,I b->b<w.heap.size/\b≠gb) (M:∀(i j:Nat) (y:Value) (c:D),i<l.length->j< 3->xs[i*3+j]? =some y->∀m,l[i]? =some m->(enc m).cells[j]? =some c->y.oneCell'=true/\R tp I w y c):
 CmpLays P g #[] (JO xs l.length) 3 (qln l) gb 0 l.length w:=by
 intro m os t _ x y;have a:∀b,I b->(sortWorldK (JO xs l.length) 3 w gb 0 m t os).heap[b]? =w.heap[b]?:=λb hb=>EZ (w:=Sort.ahead w m) (hI b hb).1 (hI b hb).2
 have d:w.heap.size<=(sortWorldK (JO xs l.length) 3 w gb 0 m t os).heap.size:=by simp[sortWorldK,grow,putRowK,putRow,mapBlock,Sort.ahead]
 generalize sortWorldK (JO xs l.length) 3 w gb 0 m t os=W at a d ⊢;have q:∀z:_root_.Fin l.length,R (λ_=>False) (aR (λb=>b<W.heap.size/\ ¬I b) (λ_=>False) bS W) W (.agg (JO xs l.length z).toArray) (enc l[z]):=λz=>by
  have he:enc l[z]= .agg [.v (.int .i64 l[z].b), .v (.int .i64 l[z].e),enc l[z].lbs]:=by simp
  have hcell:∀(j:Nat) (v:Value) (c:D),j< 3->(JO xs l.length z)[j]? =some v->(enc l[z]).cells[j]? =some c->v.oneCell'=true/\R tp I w v c:=λj v c u h1 h2=>
   M z.val j v c z.isLt u (by grind [Tri,lg,Wf]) l[z] (by simp) h2
  have h3:=qel L z;rw[he];refine .agg _ _ (by omega) (λv A=>?_) λj v c h1 h2=>?_
  ·obtain⟨j,u,rfl⟩:=qH7 A;have k:j< 3:=by omega
   have hc:j<(enc l[z]).cells.length:=by simp_all
   exact(hcell j _ _ k (qFC u) (qFC hc)).1
  ·have k:j< 3:=by have:=(qFB.1 h2).1;simpa using this
   have C:=(hcell j v c k h1 (by rw[qeD];exact h2)).2;rcases j with _|_|_|j
   ·cases h2;rw[C.inv_v];exact .int .i64 _
   ·cases h2;rw[C.inv_v];exact .int .i64 _
   ·cases h2;exact qsD C λb hb=>⟨⟨qFS (hI b hb).1 d,λh=>h.2 hb,λh=>h,λ⟨i,r,h,_⟩=>by simp[bS]at h⟩,a b hb⟩
   ·omega
 obtain⟨_,hc⟩:=J (λb=>b<W.heap.size/\ ¬I b) (λ_=>False) W [.agg (JO xs l.length x).toArray, .agg (JO xs l.length y).toArray] [enc l[x],enc l[y]] bS 0 (λr H'=>r=enc (qln l x y)/\H'=bS) (λb h=>h.1) ⟨λb h=>h.elim,λp hp=>by rw[K]at hp;cases hp⟩
  ⟨λi j r s b h=>by simp[bS]at h,λi r b h=>by simp[bS]at h,λi r h=>by simp[bS]at h⟩ rfl
  (λj v c h1 h2=>by
    rcases j with _|_|j
    ·simp only[qHz,qFQ]at h1 h2;subst h1;subst h2;exact q x
    ·simp only[qHf,qHz,qFQ]at h1 h2;subst h1;subst h2;exact q y
    ·simp at h1)
  (by
    rw[mO,qcR,Cod.dec_enc,Cod.dec_enc];exact⟨trivial,λz hz=>by subst hz;exact⟨rfl,rfl⟩⟩)
 refine hc.mono ?_;rintro e w' ⟨v,r,H',N,rfl,⟨rfl,rfl⟩,_,_,_,hs,_,_,A⟩;have E:v= .int .i64 (qln l x y):=R.inv_v A;subst E;refine⟨rfl,w'.drawn -W.drawn,w'.heap.extract W.heap.size w'.heap.size,?_⟩;have F:w'.heap=W.heap++w'.heap.extract W.heap.size w'.heap.size:=by
  apply Array.ext_getElem?;intro b;by_cases hb:b<W.heap.size
  ·rw[qGv hb];exact hs.same b hb (λ⟨i,r,h,_⟩=>by simp[bS]at h) (λh=>h)
  ·rw[Array.getElem?_append_right (by omega),qHD];have O:W.heap.size<=w'.heap.size:=hs.size;by_cases Q:b<w'.heap.size
   ·rw[if_pos (by omega)];congr 1;omega
   ·rw[if_neg (by omega),qGI (by omega)]
 have h1:=hs.os;have h2:=hs.tape;have h3:=hs.output;have h4:=hs.drawn trivial;have h5:W.drawn+ (w'.drawn -W.drawn)=w'.drawn:=by omega
 cases w';grind [Tri,lg,grow,World.drewN]
def qoc(l:List cb):(List.finRange l.length).map (λi=>l[i])=l:=by
 refine qHG (by simp) λi h1 h2=>?_
 simp
theorem qfw{J g el:Nat}(L:SlLaysF0.n6 P ρ)(hf:ρ.f 6=J)(aE:∀w,(isAgg (ρ.t 24)).run P w= .ok true w)(zE:∀w,(Go.sizeOf (ρ.t 24)).run P w= .ok 3 w)(hT:lg=[])(hg:Tri True P g s_cmpM.pt)(eg:dc P g)(ef:dc P J):
 Tri dq P J (qbN g el).pt:=by
 subst hf;intro O tp w vs ds H d K hO' htl p hlen E hA;obtain⟨id,v,l,ds',x,rfl,hd,hid,⟨hx1,hl5,hnd⟩,hK⟩:=hA;have hds:ds'=[.clo g []]:=by
  match ds',hd with
  | [],h=>cases h
  | a::r,h=>
    rw[qlQ]at h
    match r,h with
    | [],h=>
      simp at h;grind
    |b::r,h=>cases h
 subst hds
 match vs,hlen,E with
 | [v0,fv],_,E=>
 have e0:v0=v:=by
  have:=E 0 v0 _ rfl rfl;cases this;rfl
 have e1:fv= .func (.func g) #[] #[]:=by
  have:=E 1 fv _ rfl rfl;cases this with
  | clo _ xs _ hl _=>
    have:xs=[]:=by simpa using hl
    subst this;rfl
 subst e0;subst e1;refine⟨ef,?_⟩;obtain⟨xs,⟨W,hx⟩,hkn,hcells⟩:=p.ok id _ hid;have hll:(l.map (enc (X:=cb))).length=l.length:=by simp
 have hkw:∀d∈l.map (enc (X:=cb)),d.cells.length=3:=λd hd=>(hkn d hd).2
 rcases hx with⟨rfl,h0⟩|⟨gb,cap,cur,rfl,_,hgb,hcap,hcapm,hsz,Z⟩
 ·have hl0:l=[]:=by simpa using h0
  subst hl0;refine(AnyF.slices_SortFunc_none L none 0 _ w).mono ?_;rintro e w' ⟨rfl,rfl⟩;have hH:ai H id (some (.row (.slice none 0 0) el 3 (([]:List cb).map enc)))=H:=by
   funext i;simp only[ai];by_cases hi:i=id
   ·subst hi;simp[hid]
   ·simp[hi]
  refine⟨_,_,_,tp,rfl,hK [] ⟨List.Pairwise.nil,rfl,λ_=>qGZ⟩,λb h=>h,λb h=> .inl h,htl.1, .refl _ _ _,λb h=> .inl (by rwa [hH]at h),by rw[hH];exact p, .tup [] [] rfl (λk x c h=>by simp at h)⟩
 rw[hll]at hcap W Z ⊢;by_cases hl0:l=[]
 ·subst hl0;refine(AnyF.slices_SortFunc_none L (some ⟨gb,0,none⟩) cap _ w).mono ?_;rintro e w' ⟨rfl,rfl⟩;have hH:ai H id (some (.row (.slice (some ⟨gb,0,none⟩) (([]:List cb).map (enc (X:=cb))).length cap) el 3 (([]:List cb).map enc)))=H:=by
   funext i;simp only[ai];by_cases hi:i=id
   ·subst hi;simp[hid]
   ·simp[hi]
  refine⟨_,_,_,tp,rfl,hK [] ⟨List.Pairwise.nil,rfl,λ_=>qGZ⟩,λb h=>h,λb h=> .inl h,htl.1, .refl _ _ _,λb h=> .inl (by rwa [hH]at h),by rw[hH];exact p, .tup [] [] rfl (λk x c h=>by simp at h)⟩
 have hlp:0<l.length:=List.length_pos_iff.2 hl0
 letI inst:Inhabited (_root_.Fin l.length):=⟨⟨0,hlp⟩⟩
 have hbo:(Res.row (.slice (some ⟨gb,0,none⟩) l.length cap) el 3 (l.map enc)).blk=some gb:=rfl;have C:H id=some (.row (.slice (some ⟨gb,0,none⟩) l.length cap) el 3 (l.map enc)):=by rw[hid,hll]
 have S:bA H gb:=⟨id,_,C,hbo⟩
 have u:∀(i j:Nat) (y:Value) (c:D),i<l.length->j< 3->xs[i*3+j]? =some y->∀m,l[i]? =some m->(enc m).cells[j]? =some c->y.oneCell'=true/\R tp (aR O tp H w) w y c:=λi j y c hi Y hy m hm hc=>by
  refine hcells (i*3+j) y c hy ?_;rw[dY hkw Y,qFP,hm];exact hc
 have hgs:gb<w.heap.size:=(qFN.1 hgb).1;have hlays:=qgX (gb:=gb) hg hT (tp:=tp) (I:=aR O tp H w) (w:=w) W (λb hb=>⟨hb.1,λe=>hb.2.2.2 (e ▸S)⟩) u;have q:∀z:_root_.Fin l.length,(JO xs l.length z).length=3:=qel W;have hone:∀(z:_root_.Fin l.length),∀y∈JO xs l.length z,y.oneCell'=true:=λz y hy=>by
  obtain⟨j,Y,rfl⟩:=qH7 hy;have hj3:j< 3:=by have:=q z;omega
  have hc:j<(enc l[z]).cells.length:=by rw[qeD];exact hj3
  exact(u z.val j _ _ z.isLt hj3 (by rw[<-Wf W z hj3];exact qFC Y) l[z] (by simp) (qFC hc)).1
 have hfm:(List.finRange l.length).flatMap (JO xs l.length)=xs:=by
  refine qGj λt=>?_
  by_cases ht:t<l.length*3
  ·have hm:t % 3< 3:=qG3 _ (by decide);have hdm:t=(t/3) *3+t % 3:=by have:=qGW t 3;omega
   have hq:t/3<l.length:=by omega
   have h2:=VZ (f:=JO xs l.length) (n:=3) (l:=List.finRange l.length) (λx _=>q x) (i:=t/3) hm;rw[<-hdm]at h2;rw[h2];have h3:(List.finRange l.length)[t/3]? =some ⟨t/3,hq⟩:=by
    rw[qFC (by simpa using hq)];simp
   rw[h3,qFW,Wf W _ hm];congr 1;exact hdm.symm
  ·have h4:=K5 (f:=JO xs l.length) (n:=3) (l:=List.finRange l.length) (λx _=>q x);rw[qFV (by rw[h4];simp;omega),qFV (by omega)]
 have hcur:∀j,j<l.length*3->cur[j]? =xs[j]?:=λj Y=>by
  rw[<-Z,qFX,if_pos Y,qFZ]
 have hsz0:(List.finRange l.length).toArray.size=l.length:=by simp
 have hH:HoldsK (JO xs l.length) 3 w gb 0 (List.finRange l.length).toArray:=by
  intro j Y;have hj':j<l.length*3:=by simpa using Y
  refine⟨?_,BK hgb⟩;have h6:xs[j]? =(flatK (JO xs l.length) 3 (List.finRange l.length).toArray).toList[j]?:=congrArg (λz:List Value=>z[j]?) ((BM (JO xs l.length) 3 q (List.finRange l.length)).trans hfm).symm;rw[Hk hgb,qGn,hcur j hj',h6,qFZ,qGe Y,getElem!_pos _ j Y];rfl
 have hndi:∀x y:_root_.Fin l.length,l[x]=l[y]->x=y:=λx y e=>by
  have hp:=qGE.1 hnd;apply Fin.ext;rcases qHV x.val y.val with h|h|h
  ·exact absurd e (hp x.val y.val x.isLt y.isLt h)
  ·exact h
  ·exact absurd e.symm (hp y.val x.val y.isLt x.isLt h)
 have M:=AnyQ.slices_SortFunc_total L 3 aE zE (JO xs l.length) q hone (qln l) (qnb l) g #[] gb 0 cap (List.finRange l.length).toArray w eg (by rw[hsz0];exact hlays) hH hgs (by rw[hsz0];omega) (λx y h1 h2=>by
  rw[qGY,ne_eq,tY]at h1 h2;rcases Nx h1 with e|e
  ·exact hndi _ _ e
  ·exact absurd e h2)
 rw[hsz0]at M;refine M.mono ?_;rintro e w' ⟨rfl,n,os,N⟩;simp only[List.toList_toArray]at N;generalize hl':((List.finRange l.length).mergeSort λx y=>!(ltOf (qln l)) y x)=l' at N;have A:l'.length=l.length:=by rw[<-hl'];simp
 have hwo:∀b,b<w.heap.size->b≠gb->w'.heap[b]? =w.heap[b]?:=λb hb hne=>by
  rw[N];exact EZ (w:=Sort.ahead w n) hb hne
 have hthis:w'.heap[gb]? =some (.cells (putCells _root_.id 0 (flatK (JO xs l.length) 3 l'.toArray) cur) el (0,0)):=by
  rw[N];exact O0 (w:=Sort.ahead w n) hgb
 have hws:w.heap.size<=w'.heap.size:=by
  rw[N];simp[sortWorldK,grow,putRowK,putRow,mapBlock,Sort.ahead]
 have hos:w'.os=w.os/\w'.tape=w.tape/\w'.output=w.output/\w.drawn<=w'.drawn:=by
  rw[N];exact⟨rfl,rfl,rfl,Nat.le_add_right _ _⟩
 clear N M;have htp:∀b,tp b->b≠gb:=λb hb e=>(p.out id _ gb C hbo).2 (e ▸hb)
 have U:∀b,tp b->TapeStep w w' b:=λb hb=> .same (hwo b (htl.1 b hb) (htp b hb))
 have hperm:l'.Perm (List.finRange l.length):=by rw[<-hl'];exact List.mergeSort_perm _ _
 have hsort:Fh (l'.map λi=>l[i]):=by
  have h1:l'.Pairwise λx y=>(!(ltOf (qln l)) y x)=true:=by
   rw[<-hl'];refine List.pairwise_mergeSort (λa b c h1 h2=>?_) (λa b=>?_) _
   ·simp only[qHi,qGY,ne_eq,tY]at h1 h2 ⊢;intro h3;rcases Nx h1 with e|e
    ·exact h2 (e ▸h3)
    ·exact h2 (E6 h3 e)
   ·by_cases h:qci l[b] l[a]
    ·have:¬qci l[a] l[b]:=λh2=>qd1 _ (E6 h h2)
     have h3:ltOf (qln l) a b=false:=by rw[qGY,ne_eq,tY];exact this
     rw[h3];simp
    ·have h3:ltOf (qln l) b a=false:=by rw[qGY,ne_eq,tY];exact h
     rw[h3];simp
  have h2:l'.Nodup:=hperm.nodup_iff.2 (List.nodup_finRange _);unfold Fh;rw[qHA];refine(h1.and h2).imp λ{x y} h=>?_
  have h3:=h.1;simp only[qHi,qGY,ne_eq,tY]at h3;rcases Nx h3 with e|e
  ·exact absurd (hndi _ _ e).symm h.2
  ·exact e
 have hmem:∀m,m∈ (l'.map λi=>l[i]) ↔m∈l:=λm=>by
  have:=(hperm.map λi=>l[i]).mem_iff (a:=m);rwa [qoc]at this
 have hK':=hK (l'.map λi=>l[i]) ⟨hsort,by simp[A],hmem⟩;rw[hll]at hK';generalize hH2:ai H id (some (.row (.slice (some ⟨gb,0,none⟩) l.length cap) el 3 ((l'.map λi=>l[i]).map enc)))=H2 at hK';have hown2:∀b,bA H2 b->bA H b:=λb ⟨i,r,h1,h2⟩=>by
  rw[<-hH2]at h1;simp only[ai]at h1;split at h1
  ·cases h1;cases h2;exact S
  ·exact⟨i,r,h1,h2⟩
 have hmove:∀y c,R tp (aR O tp H w) w y c->R tp (aR O tp H2 w') w' y c:=λy c hr=>hr.mono (λ_ h=>h) (λb hb=>⟨⟨qFS hb.1 hws,hb.2.1,hb.2.2.1,λh=>hb.2.2.2 (hown2 b h)⟩,hwo b hb.1 (λe=>hb.2.2.2 (e ▸S))⟩) U
 have F:∀i r,H2 i=some r->(i=id/\r= .row (.slice (some ⟨gb,0,none⟩) l.length cap) el 3 ((l'.map λi=>l[i]).map enc))\/(i≠id/\H i=some r):=λi r h=>by
  rw[<-hH2]at h;simp only[ai]at h;split at h
  ·rename_i e;cases h;exact .inl ⟨e,rfl⟩
  ·rename_i e;exact .inr ⟨e,h⟩
 refine⟨_,_,H2,tp,rfl,hK',λb h=>h,λb h=> .inl h,λb hb=>qFS (htl.1 b hb) hws,⟨hos.1,hos.2.1,hos.2.2.1,hws,λb hb ho ht=>hwo b hb (λe=>ho (e ▸S)),U,λ_=>hos.2.2.2⟩,λb h=> .inl (hown2 b h),⟨?_,?_,?_⟩, .tup [] [] rfl (λk x c h=>by simp at h)⟩
 ·intro i j r s b h1 h2 h3 h4;rcases F i r h1 with⟨rfl,rfl⟩|⟨n1,k1⟩
  ·rcases F j s h2 with⟨rfl,rfl⟩|⟨n2,k2⟩
   ·rfl
   ·exact p.dis _ j _ s b C k2 h3 h4
  ·rcases F j s h2 with⟨rfl,rfl⟩|⟨n2,k2⟩
   ·exact p.dis i _ r _ b k1 C h3 h4
   ·exact p.dis i j r s b k1 k2 h3 h4
 ·intro i r b h1 h2;rcases F i r h1 with⟨rfl,rfl⟩|⟨n1,k1⟩
  ·exact p.out _ _ b C h2
  ·exact p.out i r b k1 h2
 ·intro i r h1;rcases F i r h1 with⟨rfl,rfl⟩|⟨n1,k1⟩
  ·have Q:=K5 (f:=JO xs l.length) (n:=3) (l:=l') (λx _=>q x);have hps:(putCells _root_.id 0 (flatK (JO xs l.length) 3 l'.toArray) cur).size=cur.size:=by simp[putCells]
   refine⟨l'.flatMap (JO xs l.length),⟨by simp;rw[<-List.length_flatMap];exact Q, .inr ⟨gb,cap,_,by simp[A],qFY _,hthis,by simp;omega,hcapm,by rw[hps,hsz],?_⟩⟩,λd hd=>?_,λj y c h1 h2=>?_⟩
   ·simp only[qGl,A];apply qGj;intro j;rw[qFX];by_cases Y:j<l.length*3
    ·have hjc:j<cur.size:=by
      have:l.length*3<=cap*3:=qF2 3 hcap;omega
     have hjf:j<(flatK (JO xs l.length) 3 l'.toArray).size:=by simp[A];exact Y
     rw[if_pos Y,qFZ,<-BM (JO xs l.length) 3 q l',qFZ];simp only[putCells,Array.getElem?_mapIdx,qGe hjc,qG8,qFY,qGn,hjf,and_self,if_true,Nat.sub_zero,id_eq];rw[qGe hjf,getElem!_pos _ j hjf]
    ·rw[if_neg Y,qFV (by rw[Q,A];omega)]
   ·obtain⟨z,_,rfl⟩:=qFL.1 hd;exact⟨Cod.kn z,Cod.wid z⟩
   ·have ht:j<l'.length*3:=by rw[<-Q];exact(qFB.1 h1).1
    have hm:j % 3< 3:=qG3 _ (by decide);have hdm:j=(j/3) *3+j % 3:=by have:=qGW j 3;omega
    have hq:j/3<l'.length:=by omega
    have h5:=VZ (f:=JO xs l.length) (n:=3) (l:=l') (λx _=>q x) (i:=j/3) hm;rw[<-hdm,h1,qFC hq,qFW,Wf W _ hm]at h5;rw[hdm,dY (λd hd=>by obtain⟨z,_,rfl⟩:=qFL.1 hd;exact Cod.wid z) hm,qFP,qFP,qFC hq]at h2;obtain⟨a1,a2⟩:=u (l'[j/3]).val (j % 3) y c (l'[j/3]).isLt hm h5.symm l[l'[j/3]] (by simp) h2;exact⟨a1,hmove _ _ a2⟩
  ·have hne:∀b,r.blk=some b->b≠gb:=λb hb e=>n1 (p.dis i id r _ gb k1 C (e ▸hb) hbo)
   exact(p.ok i r k1).conv hmove (λb hb=>hwo b ((p.ok i r k1).lt hb) (hne b hb))
end
end
section
open Go.Proofs
def vg:CC:=gq Tryz.f93 [1] { bx:=[7] } _
def uB:List aj:=[.tmp 2]
def MS:FO xb [1] vg uB 8:=fo
def jU:CC:=gq Tryz.f62 [2] { bx:=[1,31],cu:=[1] } _
def jI:List aj:=[.tmp 4]
def CA:FO ct [2] jU jI 34:=fo
def jT:CC:=gq Tryz.f63 [2] { bx:=[1,24] } _
def jH:List aj:=[.tmp 4]
def Cz:FO dK [2] jT jH 27:=fo
def xJ:CC:=gq Tryz.f114 [1,2002002] {} _
def wC:List aj:=[.cell 2 true 13]
def Pk:FO tJ [1,2002002] xJ wC 11:=fo
def vd:CC:=gq Tryz.f178 [1,2021003,1020020] {} _
def uz:List aj:=[.cell 2 true 7]
def MQ:FO lN [1,2021003,1020020] vd uz 24:=fo
def ed:CC:=gq Tryz.f61 [1] { bx:=[41] } _
def dW:List aj:=[.tmp 2]
def rW:FO eX [1] ed dW 44:=fo
def iM:CC:=gq Tryz.f109 [1] {} _
def iz:List aj:=[.tmp 2]
def AB:FO dL [1] iM iz 7:=fo
def gQ:CC:=gq Tryz.f28 [2] { bx:=[17,20],fz:=[(17,1),(20,13)] } _
def gE:List aj:=[.tmp 4]
def yp:FO eB [2] gQ gE 49:=fo
def gP:CC:=gq Tryz.f68 [3] {} _
def gD:List aj:=[.tmp 6]
def yo:FO eA [3] gP gD 33:=fo
def az:CC:=gq Tryz.f124 [3] {} _
def ay:List aj:=[.tmp 6]
def wP:FO gM [3] az ay 115:=fo
def zP:CC:=gq Tryz.f66 [1] {} _
def yZ:List aj:=[.tmp 2]
def RL:FO qV [1] zP yZ 11:=fo
def kb:CC:=gq Tryz.f120 [1] {} _
def jY:List aj:=[.tmp 2]
def FT:FO qU [1] kb jY 58:=fo
def iN:CC:=gq Tryz.f67 [1] {} _
def iA:List aj:=[.tmp 2]
def DQ:FO nO [1] iN iA 22:=fo
def bN:CC:=gq Tryz.f65 [] {} _
def bL:List aj:=[.tmp 4]
def iS:FO aY [] bN bL 9:=fo
def cy:CC:=gq Tryz.f119 [] {} _
def cn:List aj:=[.tmp 4]
def lE:FO cN [] cy cn 19:=fo
open Cod (enc dec)
variable {S S0:Nat->Spc}
def Od{b:Type}{l:List b}{k:Nat}{a:b}{P:b->Prop}(h:∀x∈l.take k,P x)(c:l[k]? =some a)(hp:P a):∀x∈l.take (k+1),P x:=by
 rw[av c];intro x hx;rcases qFG.1 hx with hx|hx
 ·exact h x hx
 ·simp at hx;subst hx;exact hp
def qsJ{X:Type}(m:X->Nat)(n:Nat)(x:X):Prop:=m x<=n
abbrev qdp(n:Nat):Spc:=aG (a2 Cond Cond) (qsJ (λx=>dB x.1) n) (enc (X:=Bool)) λx y=>(y=true↔x.1=x.2)
def qld{a b:Cond}(h1:a.op=b.op)(h2:a.name=b.name)(h3:a.arg=b.arg)(h4:a.val=b.val)(h5:a.lab=b.lab)(h6:a.fold=b.fold)(c:a.kids=b.kids):a=b:=by
 cases a;cases b;simp only at*;subst h1;subst h2;subst h3;subst h4;subst h5;subst h6;subst c;rfl
theorem qa3(n:Nat)(h1:S wW=qdp n):ak ED DA S (a2 Cond Cond) (qsJ (λx=>dB x.1) (n+1)) (enc (X:=Bool)) λx y=>(y=true↔x.1=x.2):=by
 rintro⟨a,b⟩ hn;have hn:dB a<=n+1:=hn;have c:∀k∈a.kids,∀y,qsJ (λx:Cond×Cond=>dB x.1) n (k,y):=λk hk y=>by have:=Qw hk;show dB k<=n;omega
 simp[ED,DA];refine⟨λA=>⟨λC=>⟨λE=>⟨λF=>⟨λI=>⟨λJ _ _=>⟨λh e=>h (by rw[e]),λhl _=>?_⟩,λh e=>h (by rw[e])⟩,λh e=>h (by rw[e])⟩,λh e=>h (by rw[e])⟩,λh e=>h (by rw[e])⟩,λh e=>h (by rw[e])⟩,λh e=>h (by rw[e])⟩;refine ah (X:=Unit) [2,3] [] a.kids.length (λk _=>a.kids.take k=b.kids.take k) (λ_=>[]) (λ_=>[]) () (by simp) ?_ ?_
 ·rintro k -hk p;obtain⟨x,d⟩:=aQ hk;obtain⟨y,j⟩:=aQ (l:=b.kids) (k:=k) (by omega);have q:=aU d;obtain⟨_,s⟩:=qFB.1 d;obtain⟨_,t⟩:=qFB.1 j;simp[h1,hk,d,j,s,t,c x q,-fB'];refine⟨by omega,λr u=>⟨λw e=>?_,λK=>?_⟩⟩
  ·subst e;rw[d]at j;cases j;rw[u.2 rfl]at w;cases w
  ·rw[av d,av j,p,u.1 K]
 ·rintro -p;simp;have L:a.kids=b.kids:=by
   rw[qGy (by omega),qGy (by omega)]at p;exact p
  exact qld A C E F I J L
abbrev LM:Spc:=aG (a2 Pat Int) (λ_=>True) (enc (X:=Bool)) λx y=>y=(decide (x.2<=100) && qC x.1)
abbrev qdq:Spc:=aG (a2 Cond Cond) (λ_=>True) (enc (X:=Bool)) λx y=>(y=true↔x.1=x.2)
def Xi(h1:S wW=qdq):ak B4 A4 S (a2 Pat Int) (λ_=>True) (enc (X:=Bool)) λx y=>y=(decide (x.2<=100) && qC x.1):=by
 rintro⟨p,d⟩ -;simp[B4,A4,h1,-fB'];clear h1;refine⟨λh c=>absurd h (by omega),λb y a=>?_⟩;have a:y=true↔p.cond=Cond0:=a;rw[decide_eq_true b,qHg];revert a;revert y
 repeat' first|apply And.intro|intro _
 all_goals (rw[qGb,vX];unfold xY;simp_all;try omega)
abbrev Yo(n:Nat):Spc:=aG (a2 Pat Int) (λx=>cg x.1<=n/\0<=x.2/\x.2<=101) (enc (X:=Bool)) λx y=>y=(cm x.1 x.2 && cx qC x.1)
theorem Ub(n:Nat)(h1:S Ec=LM)(h2:S qN=Yo n):ak zF yP S (a2 Pat Int) (λx=>cg x.1<=n+1/\0<=x.2/\x.2<=101) (enc (X:=Bool)) λx y=>y=(cm x.1 x.2 && cx qC x.1):=by
 rintro⟨p,d⟩ ⟨hn,q,r⟩;have c:∀k∈p.kids,cg k<=n:=λk hk=>by have:=fT hk;have:cg p<=n+1:=hn;omega
 simp only at q r;simp[zF,yP,h1];rw[ld,cZ];refine⟨λh=>?_,λu s _=>?_⟩
 ·simp only[qFJ,decide_eq_true_eq];intro h1;rw[h h1.1,Bool.false_and]
 refine ah (X:=Unit) [1,12] [] p.kids.length (λk _=>∀x∈p.kids.take k,(cm x (d+1) && cx qC x)=true) (λ_=>[]) (λ_=>[]) () (by simp) ?_ ?_
 ·rintro k -hk j;obtain⟨x,a⟩:=aQ hk;have b:=aU a;obtain⟨_,t⟩:=qFB.1 a;have w:=c x b;simp[h2,hk,a,t,w,-fB'];refine⟨by simp only[InR];omega,by omega,λA _ l _=>⟨x,b,A (l x b)⟩,λt1 C=>?_⟩;have:=Od (P:=λx=>(cm x (d+1) && cx qC x)=true) j a (by simp[t1,C]);simpa using this
 ·rintro -j;simp;simp at j;simp[s,u];exact⟨λx a=>(j x a).1,λx a=>(j x a).2⟩
abbrev qdt(n:Nat):Spc:=aG (a1 Pat) (λx=>cg x<=n) (enc (X:=Bool)) λx y=>y=cx (nI aB) x
theorem Xj(n:Nat)(h1:S cD=wn)(h2:S uc=qdt n):ak B5 A5 S (a1 Pat) (λx=>cg x<=n+1) (enc (X:=Bool)) λx y=>y=cx (nI aB) x:=by
 rintro p hn;have a:∀k∈p.kids,cg k<=n:=λk hk=>by have:=fT hk;have:cg p<=n+1:=hn;omega
 simp[B5,A5,h1];refine aS (X:=Unit) [1] [] (λ_=>nI aB p=true) (λ_=>[]) (λ_=>[]) ?_ ?_
 ·simp[h1,nI];rw[cZ];unfold nI
  repeat' first|apply And.intro|intro _
  all_goals (first|omega|simp_all;try omega)
 rintro -h;rw[cZ];simp;intro _;refine ah (X:=Unit) [31] [] p.kids.length (λk _=>∀x∈p.kids.take k,cx (nI aB) x=true) (λ_=>[]) (λ_=>[]) () (by simp) ?_ ?_
 ·rintro k -hk c;obtain⟨x,d⟩:=aQ hk;have b:=aU d;obtain⟨_,j⟩:=qFB.1 d;have l:=a x b;simp[h2,hk,d,j,l,-fB'];exact⟨λq _=>⟨x,b,q⟩,λr=>Od c d r⟩
 ·rintro -c;simp;simp at c;rw[h];simpa using c
abbrev Su(n:Nat):Spc:=aG (a1 Pat) (λx=>cg x<=n) (enc (X:=Bool)) λx y=>y=cx lF x
theorem Q3(n:Nat)(h2:S nL=Su n):ak xy wu S (a1 Pat) (λx=>cg x<=n+1) (enc (X:=Bool)) λx y=>y=cx lF x:=by
 rintro p hn;have a:∀k∈p.kids,cg k<=n:=λk hk=>by have:=fT hk;have:cg p<=n+1:=hn;omega
 simp[xy,wu];refine aS (X:=Unit) [1] [] (λ_=>lF p=true) (λ_=>[]) (λ_=>[]) ?_ ?_
 ·simp[lF];rw[cZ];unfold lF
  repeat' first|apply And.intro|intro _
  all_goals (first|omega|(rw[qGb];simp;omega))
 rintro -h;rw[cZ];simp;intro _;refine ah (X:=Unit) [36] [] p.kids.length (λk _=>∀x∈p.kids.take k,cx (lF) x=true) (λ_=>[]) (λ_=>[]) () (by simp) ?_ ?_
 ·rintro k -hk c;obtain⟨x,d⟩:=aQ hk;have b:=aU d;obtain⟨_,j⟩:=qFB.1 d;have l:=a x b;simp[h2,hk,d,j,l,-fB'];exact⟨λq _=>⟨x,b,q⟩,λr=>Od c d r⟩
 ·rintro -c;simp;simp at c;rw[h];simpa using c
def qD{a b A B:Int}(h0:0<=a)(h1:a<=A)(h2:0<=b)(h3:b<=B):0<=a*b/\a*b<=A*B:=⟨qHc h0 h2,Int.mul_le_mul h1 h3 h2 (by omega)⟩
def PPat(n:Nat)(p:Pat):Prop:=cg p<=n/\fy aB p=true
def PPat.kid{n:Nat}{p k:Pat}(h:PPat (n+1) p)(hk:k∈p.kids):PPat n k:=by
 have h1:=fT hk;have h2:=h.1;exact⟨by omega,dX h.2 hk⟩
abbrev cB:Spc:=aG (a1 Pat) (λ_=>True) (enc (X:=Bool)) λx y=>y=fy aB x
abbrev Sq:Spc:=aG (a2 Pat Int) (λx=>0<=x.2/\x.2<=101) (enc (X:=Bool)) λx y=>y=(cm x.1 x.2 && cx qC x.1)
abbrev Yq:Spc:=aG (a1 Pat) (λ_=>True) (enc (X:=Bool)) λx y=>y=cx (nI aB) x
abbrev OE:Spc:=aG (a1 Pat) (λ_=>True) (enc (X:=Bool)) λx y=>y=cx lF x
def Mk(h1:S qN=Sq)(h2:S uc=Yq)(h3:S nL=OE):ak sZ sj S (a1 Pat) (λ_=>True) (enc (X:=Bool)) λx y=>y=fy aB x:=by
 rintro p -;simp[sZ,sj,h1,h2,h3,fy,-fB'];clear h1 h2 h3;refine⟨λh1 h2=>⟨λh3 _=>⟨⟨h1,h2⟩,h3⟩,λh3 _ _ h4=>absurd h4 (by rw[h3];simp)⟩,λh h1 h2=>absurd h2 (by rw[h h1];simp)⟩
abbrev UV(n:Nat):Spc:=aG (a1 Pat) (PPat n) (enc (X:=Int)) λx y=>y=fM x
theorem qa1(n:Nat)(h1:S wU=UV n):ak EA Dx S (a1 Pat) (PPat (n+1)) (enc (X:=Int)) λx y=>y=fM x:=by
 rintro p hp;have hk:∀k∈p.kids,PPat n k:=λk=>hp.kid
 have hs:∀k∈p.kids,0<=fM k/\fM k<=1000:=λk h=>Sm (v:=aB) k (hk k h).2
 simp[EA,Dx];intro _;refine⟨λh=>by rw[pR,Dr,if_pos h],λh0 _=>?_⟩;refine ah (X:=Int) [1,11] [] p.kids.length (λk n=>n=eP (p.kids.take k) 0) (λn=>[(3,enc n)]) (λ_=>[]) 0 (by simp[eP]) ?_ ?_
 ·rintro k m b a;obtain⟨x,d⟩:=aQ b;have c:=aU d;obtain⟨_,j⟩:=qFB.1 d;have hm:=rZ (p.kids.take k) 0 (by omega) (by omega) (λy l=>(hs y (qF1 l)).1);have h2:=hs x c;rw[<-a]at hm;have r:=hk x c;simp[h1,b,d,j,r];refine⟨by simp only[InR];omega,?_⟩;rw[av d,Ov,<-a,eP,eP]
 ·rintro m a;have hm:=rZ (p.kids.take p.kids.length) 0 (by omega) (by omega) (λy l=>(hs y (qF1 l)).1);rw[<-a]at hm;rw[qFT]at a;have hn:=(cH hp.2).2.2;unfold lF at hn;rw[decide_eq_true_eq]at hn;rw[pR,Dr,if_neg h0,<-a];simp;refine⟨λh6=>?_,λh6=>?_⟩
  ·have hn:=hn h6;simp only[h6,if_true];refine⟨λe=>?_,λe=>⟨λq=>?_,λq=>?_⟩⟩
   ·have h1:max 1 (p.mn+1)=p.mn+1:=by omega
    have h2:=qD hm.1 hm.2 (show 0<=p.mn+1 by omega) (show p.mn+1<=17 by omega);rw[h1,if_pos e];exact⟨by simp only[InR];omega,by simp only[InR];omega,rfl⟩
   ·rw[if_neg e,if_pos q];omega
   ·have h2:=qD hm.1 hm.2 (show 0<=p.mx by omega) (show p.mx<=16 by omega);rw[if_neg e,if_neg q];exact⟨by simp only[InR];omega,rfl⟩
  ·simp only[h6,if_false];omega
abbrev Np(n:Nat):Spc:=aG (a1 Pat) (PPat n) (kZ (Y:=Int) (Z:=Int)) λx y=>y=aO x
theorem Xh(n:Nat)(h1:S iU=Np n):ak mH mu S (a1 Pat) (PPat (n+1)) (kZ (Y:=Int) (Z:=Int)) λx y=>y=aO x:=by
 rintro p hp;have hk:∀k∈p.kids,PPat n k:=λk=>hp.kid
 have hs:∀k∈p.kids,dG (aO k):=λk h=>tu (v:=aB) k (hk k h).2
 have hn:=(cH hp.2).2.2;unfold lF at hn;rw[decide_eq_true_eq]at hn;rcases mA (cH hp.2).1 with⟨ho,_⟩|⟨ho,_⟩|⟨ho,q,ks,c⟩|⟨ho,q,c⟩
 ·simp[mH,mu,h1,ho,Xe ho]
 ·have:=qc9 ho;rcases ho with ho|ho<;>simp[mH,mu,h1,ho,this]
 ·have hc:p.op≠1/\p.op≠2/\p.op≠3/\p.op≠6:=by omega
  simp[mH,mu,h1,hc,kZ];intro _;refine ah (X:=Int×Int) [1,55] [] p.kids.length (λk w=>(k=0->w=(0,0))/\(0<k->w=gw (decide (p.op=4)) (ks.take (k -1)) (aO q))/\dG w) (λw=>[(6,enc w.1),(7,enc w.2)]) (λ_=>[]) (0,0) (by simp[dG]) ?_ ?_
  ·rintro k w C ⟨E,J,t⟩;obtain⟨x,A⟩:=aQ C;have F:=aU A;obtain⟨_,K⟩:=qFB.1 A;have L:=hk x F;have d:=hs x F;have key:(0<k->∀r:Int×Int,r=Fl (decide (p.op=4)) w (aO x)->r=gw (decide (p.op=4)) (ks.take (k+1 -1)) (aO q)/\dG r)/\(k=0->∀r:Int×Int,r=aO x->r=gw (decide (p.op=4)) (ks.take (k+1 -1)) (aO q)/\dG r):=by
    refine⟨λh0 r I=>?_,λh0 r I=>?_⟩
    ·obtain⟨j,rfl⟩:∃j,k=j+1:=⟨k -1,by omega⟩
     rw[c,qHf]at A;rw[qHQ,av A,Sa,gw,gw];have e:=J h0;rw[qHQ]at e;rw[<-e];exact⟨I,by rw[I];exact TV t d⟩
    ·subst h0;rw[c,qHz]at A;cases A;exact⟨by rw[I];rfl,by rw[I];exact d⟩
   simp[h1,C,A,K,L,kZ];clear h1;have fin:∀a b:Int,(0<k->(a,b)=Fl (decide (p.op=4)) w (aO x))->(k=0->(a,b)=aO x)->((a,b)=gw (decide (p.op=4)) (List.take k ks) (aO q)/\dG (a,b)):=by
    intro a b f1 O;rcases qGU k with h|h
    ·exact key.2 h _ (O h)
    ·exact key.1 h _ (f1 h)
   clear key;generalize aO x=u at d fin;obtain⟨U,W⟩:=u;obtain⟨w1,w2⟩:=w;unfold dG at d t;simp only at d t;simp only[qHT]at E;refine⟨λh4=>⟨by simp only[InR];omega,λl=>⟨λs=>fin _ _ (λ_=>?_) (λh=>?_),λs=>⟨by simp only[InR];omega,fin _ _ (λ_=>?_) (λh=>?_)⟩⟩,λl=>fin _ _ (λ_=>?_) (λh=>?_)⟩,λh4=>⟨λh0=>fin _ _ (λh=>absurd h (by omega)) (λh=>rfl),λh0=>⟨λl=>⟨λs=>fin _ _ (λ_=>?_) (λh=>absurd h h0),λs=>fin _ _ (λ_=>?_) (λh=>absurd h h0)⟩,λl=>fin _ _ (λ_=>?_) (λh=>absurd h h0)⟩⟩⟩
   all_goals (try simp only at l)
   all_goals (try simp only at s)
   all_goals first|(have hw:=E h;simp only[qHT];omega)|(unfold Fl;simp[h4,l,s];done)|(unfold Fl;simp[h4,l];done)|(unfold Fl;simp[h4];omega)
  ·rintro w ⟨_,Q,_⟩;simp[kZ];rw[qc8 ho c];have:=Q (by rw[c];simp);rw[c,qGi,qHQ,qFT]at this;rw[<-this]
 ·have L:=hk q (by rw[c];simp);have d:=hs q (by rw[c];simp);have hn:=hn ho;simp[mH,mu,h1,ho,c,L,kZ];rw[qc7 ho c];generalize aO q=w at d;unfold dG at d;have h2:=qD d.1 d.2.1 hn.1 hn.2.1;refine⟨λl=>⟨λs=>⟨by simp only[InR];omega,by rw[if_pos (.inr s)]⟩,λs=>⟨λM=>⟨λN=>⟨by simp only[InR];omega,?_⟩,λN=>?_⟩,λM=>⟨by simp only[InR];omega,?_⟩⟩⟩,λl=>⟨by simp only[InR];omega,by rw[if_pos (.inl l)]⟩⟩
  ·rw[if_neg (by omega),if_pos (.inr N)]
  ·have h3:=qD (show 0<=w.2 by omega) d.2.2.2 (show 0<=p.mx by omega) (show p.mx<=16 by omega);refine⟨by simp only[InR];omega,by simp only[InR];omega,?_⟩;rw[if_neg (by omega),if_neg (by omega)]
  ·rw[if_neg (by omega),if_pos (.inl M)]
abbrev SX:D:= .v (.slice none 0 0)
def qmg(x:Pat)(l:List Pat):Prop:=l.length+ (aq x).length<=100000000
abbrev Zx(n:Nat):Spc:=qmt (X:=Pat) (Y:=Pat) (λx l=>cg x<=n/\qmg x l) (λx l r=>r=l++aq x) aC 13
abbrev i_leavesA:Spc:=qmt (X:=Pat) (Y:=Pat) (λx l=>qmg x l) (λx l r=>r=l++aq x) aC 13
def qjK{ks:List Pat}{k:Nat}{x:Pat}(l:List Pat)(a:ks[k]? =some x):(l++ (ks.take k).flatMap aq) ++aq x=l++ (ks.take (k+1)).flatMap aq:=by
 rw[av a,qHN,List.flatMap_singleton,qGJ]
def qcg{ks:List Pat}{k:Nat}{x:Pat}{l:List Pat}(a:ks[k]? =some x)(h:l.length+ (ks.flatMap aq).length<=100000000):qmg x (l++ (ks.take k).flatMap aq):=by
 have:ks=ks.take k++x::ks.drop (k+1):=by rw[<-bw a,qGa]
 rw[this]at h;simp only[qHN,qGf,qF5]at h;unfold qmg;rw[qF5];omega
theorem Uc(n:Nat)(h1:S jp=Zx n):QH (X:=Pat) (Y:=Pat) nR nF S (λx l=>cg x<=n+1/\qmg x l) (λx l r=>r=l++aq x) aC 13:=by
 rintro v l p ⟨hp,hl⟩;have hk:∀k∈p.kids,cg k<=n:=λk hk=>by have:=fT hk;have:cg p<=n+1:=hp;omega
 have a:=hl;unfold qmg at a;rw[bc]at a;simp[nR,nF];refine⟨λh1=>⟨by simp[h1]at a;omega,by simp[h1]at a;omega,λv=>dI (l++aq p) (by simp[bc,h1]) rfl⟩,λb _=>?_⟩;rw[if_neg b]at a;refine ah (X:=Value×List Pat) [15] [] p.kids.length (λk x=>x.2=l++ (p.kids.take k).flatMap aq) (λx=>[(1, .own 1 x.1)]) (λx=>[(1, .row x.1 aC 13 (x.2.map enc))]) (v,l) (by simp) ?_ ?_ (hh:=by simp[isNilRow])
 ·rintro k ⟨v,m⟩ c hm;simp only at hm;obtain⟨x,d⟩:=aQ c;have h:=aU d;obtain⟨_,j⟩:=qFB.1 d;have q:=qcg d a;rw[<-hm]at q;have s:=hk x h;simp[h1,c,d,j,q,s];intro v';refine .inl ?_;rw[hm,qjK _ d]
 ·rintro⟨v,m⟩ hm;simp only at hm;rw[qFT]at hm;simp;refine dI m (by simp) ?_;rw[hm,bc,if_neg b]
abbrev qkB:Spc:=qrQ (Y:=Pat) (aE Pat (aD a0)) (λx=>x.2.1=SX/\qmg x.1 []) (λx r=>r=aq x.1) aC 13
theorem Q4(h1:S jp=i_leavesA):TM (Y:=Pat) nR nF S (aE Pat (aD a0)) (λx=>x.2.1=SX/\qmg x.1 []) (λx r=>r=aq x.1) aC 13:=by
 rintro⟨p,d,⟨⟩⟩ ⟨j,hl⟩;have j:d=SX:=j;subst j;have a:([]:List Pat).length+ (aq p).length<=100000000:=hl;rw[bc]at a;simp[nR,nF];refine⟨λh1 v=>dI (aq p) (by simp[bc,h1]) rfl,λb _=>?_⟩;rw[if_neg b]at a;refine ah (X:=Value×List Pat) [15] [] p.kids.length (λk x=>x.2=[] ++ (p.kids.take k).flatMap aq) (λx=>[(1, .own 1 x.1)]) (λx=>[(1, .row x.1 aC 13 (x.2.map enc))]) (.slice none 0 0, []) (by simp) ?_ ?_ (hh:=by simp[isNilRow])
 ·rintro k ⟨v,m⟩ c hm;simp only at hm;obtain⟨x,h⟩:=aQ c;have s:=aU h;obtain⟨_,l⟩:=qFB.1 h;have q:=qcg h a;rw[<-hm]at q;simp[h1,c,h,l,q];intro v';refine .inl ?_;rw[hm,qjK _ h];rfl
 ·rintro⟨v,m⟩ hm;simp only at hm;rw[qFT]at hm;simp;refine dI m (by simp) ?_;rw[hm,bc,if_neg b];rfl
abbrev s_leaves:Spc:=qrm qkB i_leavesA
abbrev Il:Spc:=aG (a1 Pat) (λx=>(aq x).length<=100000000) (enc (X:=List Pat)) λx y=>y=if fy aB x then aq x else[]
def Ud(h1:S dT=cB)(h2:S jp=s_leaves):ak zG yQ S (a1 Pat) (λx=>(aq x).length<=100000000) (enc (X:=List Pat)) λx y=>y=if fy aB x then aq x else[]:=by
 rintro p hp;have a:qmg p []:=by unfold qmg;simpa using hp
 simp[zG,yQ,h1,h2,-fB'];clear h1 h2;exact⟨λh=>aL [] (by simp) (by rw[h];rfl),λh=> .inl ⟨a,λv=>aL (aq p) (fA aC (by simp)) (by rw[h];rfl)⟩⟩
abbrev EU:Spc:=aG (a1 Pat) (λx=>fy aB x=true) (enc (X:=Int)) λx y=>y=fM x
abbrev Gn:Spc:=aG (a1 Pat) (λ_=>True) (enc (X:=Int)) λx y=>y=if fy aB x then fM x else 0
def qa2(h1:S dT=cB)(h2:S wU=EU):ak EC Dz S (a1 Pat) (λ_=>True) (enc (X:=Int)) λx y=>y=if fy aB x then fM x else 0:=by
 rintro p -;simp[EC,Dz,h1,h2,-fB'];exact⟨λh1 h2=>absurd (h1.symm.trans h2) (by simp),λh1=>⟨h1,λh2=>absurd (h2.symm.trans h1) (by simp)⟩⟩
abbrev Ih:Spc:=aG (a1 Pat) (λx=>fy aB x=true) (kZ (Y:=Int) (Z:=Int)) λx y=>y=aO x
abbrev EY:Spc:=aG (a1 Pat) (λ_=>True) (kZ (Y:=Int) (Z:=Int)) λx y=>y=if fy aB x then aO x else(0,0)
def Xk(h1:S dT=cB)(h2:S iU=Ih):ak B6 A6 S (a1 Pat) (λ_=>True) (kZ (Y:=Int) (Z:=Int)) λx y=>y=if fy aB x then aO x else(0,0):=by
 rintro p -;simp[B6,A6,h1,h2,kZ,-fB'];exact⟨λh1 h2=>absurd (h1.symm.trans h2) (by simp),λh1=>⟨h1,λh2=>absurd (h2.symm.trans h1) (by simp)⟩⟩
abbrev qh7:Spc:=aG (a1 Cond) (λ_=>True) (enc (X:=Bool)) λx y=>(y=true↔x=Cond0)
def Uk:ak zM yW S (a1 Cond) (λ_=>True) (enc (X:=Bool)) λx y=>(y=true↔x=Cond0):=by
 rintro⟨op,n,a,v,l,f,ks⟩ -;simp[zM,yW,Cond0]
 repeat' first|apply And.intro|intro _
 all_goals simp_all
abbrev UX:Spc:=aG (a1 Pat) (λ_=>True) (enc (X:=Bool)) λx y=>y=qC x
def Un(h1:S BU=qh7):ak zO yY S (a1 Pat) (λ_=>True) (enc (X:=Bool)) λx y=>y=qC x:=by
 rintro p -;simp[zO,yY,h1,-fB'];clear h1
 repeat' first|apply And.intro|intro _
 all_goals (rw[qGb,vX];unfold xY;simp_all;try omega)
abbrev EW:Spc:=aG (a1 Pat) (λ_=>True) (enc (X:=Bool)) λx y=>y=nI aB x
def Ra(h1:S bO=wn):ak xH wA S (a1 Pat) (λ_=>True) (enc (X:=Bool)) λx y=>y=nI aB x:=by
 rintro p -;simp[xH,wA,h1,nI,-fB'];clear h1
 repeat' first|apply And.intro|intro _
 all_goals (first|omega|simp_all;try omega)
abbrev Aq:Spc:=aG (a1 Pat) (λ_=>True) (enc (X:=Bool)) λx y=>y=lF x
def NP:ak uZ uy S (a1 Pat) (λ_=>True) (enc (X:=Bool)) λx y=>y=lF x:=by
 rintro p -;simp[uZ,uy,lF]
 repeat' first|apply And.intro|intro _
 all_goals (first|omega|(rw[qGb];simp;omega))
theorem Ul(n:Nat)(h1:S gK=UV n):ak zN yX S (a1 Pat) (PPat (n+1)) (enc (X:=Int)) λx y=>y=fM x:=by
 rintro p hp;have hk:∀k∈p.kids,PPat n k:=λk=>hp.kid
 have hs:∀k∈p.kids,0<=fM k/\fM k<=1000:=λk h=>Sm (v:=aB) k (hk k h).2
 simp[zN,yX];intro _;refine ah (X:=Int) [1,7] [] p.kids.length (λk n=>n=eP (p.kids.take k) 0) (λn=>[(3,enc n)]) (λ_=>[]) 0 (by simp[eP]) ?_ ?_
 ·rintro k m b a;obtain⟨x,d⟩:=aQ b;have c:=aU d;obtain⟨_,j⟩:=qFB.1 d;have hm:=rZ (p.kids.take k) 0 (by omega) (by omega) (λy l=>(hs y (qF1 l)).1);have h2:=hs x c;rw[<-a]at hm;have q:=hk x c;simp[h1,b,d,j,q];refine⟨by simp only[InR];omega,?_⟩;rw[av d,Ov,<-a,eP,eP]
 ·rintro m a;have hm:=rZ (p.kids.take p.kids.length) 0 (by omega) (by omega) (λy l=>(hs y (qF1 l)).1);rw[<-a]at hm;rw[qFT]at a;have hn:=(cH hp.2).2.2;unfold lF at hn;rw[decide_eq_true_eq]at hn;rw[pR,Dr,<-a];simp;intro _;refine⟨λh=>λr=>absurd h r,λh0=>⟨λh6=>?_,λh6=>by rw[if_neg h0,if_neg h6]⟩⟩;rw[if_neg h0,if_pos h6];have hn:=hn h6;refine⟨λe=>by rw[if_neg (by omega),if_pos e],λe=>⟨λs=>?_,λs=>?_⟩⟩
  ·have h2:=qD hm.1 hm.2 (show 0<=p.mn+1 by omega) (show p.mn+1<=17 by omega);rw[if_pos (by omega)];exact⟨by simp only[InR];omega,by simp only[InR];omega,rfl⟩
  ·have h2:=qD hm.1 hm.2 (show 0<=p.mx by omega) (show p.mx<=16 by omega);rw[if_neg (by omega),if_neg e];exact⟨by simp only[InR];omega,rfl⟩
def Uo(h1:S gZ=cB)(h2:S gK=EU):ak zQ za S (a1 Pat) (λ_=>True) (enc (X:=Int)) λx y=>y=if fy aB x then fM x else 0:=by
 rintro p -;simp[zQ,za,h1,h2,-fB'];exact⟨λh1 h2=>absurd (h1.symm.trans h2) (by simp),λh1=>⟨h1,λh2=>absurd (h2.symm.trans h1) (by simp)⟩⟩
def Rf(h1:S gZ=cB)(h2:S nM=Ih):ak xL wE S (a1 Pat) (λ_=>True) (kZ (Y:=Int) (Z:=Int)) λx y=>y=if fy aB x then aO x else(0,0):=by
 rintro p -;simp[xL,wE,h1,h2,kZ,-fB'];exact⟨λh1 h2=>absurd (h1.symm.trans h2) (by simp),λh1=>⟨h1,λh2=>absurd (h2.symm.trans h1) (by simp)⟩⟩
theorem Q7(n:Nat)(h1:S nM=Np n):ak iL iy S (a1 Pat) (PPat (n+1)) (kZ (Y:=Int) (Z:=Int)) λx y=>y=aO x:=by
 rintro p hp;have hk:∀k∈p.kids,PPat n k:=λk=>hp.kid
 have hs:∀k∈p.kids,dG (aO k):=λk h=>tu (v:=aB) k (hk k h).2
 have hn:=(cH hp.2).2.2;unfold lF at hn;rw[decide_eq_true_eq]at hn;rcases mA (cH hp.2).1 with⟨ho,_⟩|⟨ho,_⟩|⟨ho,b,ks,a⟩|⟨ho,b,a⟩
 ·simp[iL,iy,h1,ho,Xe ho]
 ·have:=qc9 ho;rcases ho with ho|ho<;>simp[iL,iy,h1,ho,this]
 ·have hc:p.op≠1/\p.op≠2/\p.op≠3/\p.op≠6:=by omega
  have E:=hk b (by rw[a];simp);have c:=hs b (by rw[a];simp);simp[iL,iy,h1,hc,kZ,a,E];refine⟨by omega,λ_=>?_⟩;refine ah (X:=Int×Int) [1,69] [] ks.length (λk w=>w=gw (decide (p.op=4)) (ks.take k) (aO b)/\dG w) (λw=>[(6,enc w.1),(7,enc w.2)]) (λ_=>[]) (aO b) (by simp[gw,c]) ?_ ?_
  ·rintro k w l ⟨q,d⟩;obtain⟨x,A⟩:=aQ l;have s:x∈p.kids:=by rw[a];exact qHn _ (aU A)
   obtain⟨_,F⟩:=qFB.1 A;have L:=hk x s;have C:=hs x s;have key:∀r:Int×Int,r=Fl (decide (p.op=4)) w (aO x)->r=gw (decide (p.op=4)) (ks.take (k+1)) (aO b)/\dG r:=by
    intro r I;rw[av A,Sa,gw,gw,<-q];exact⟨I,by rw[I];exact TV d C⟩
   simp[h1,l,A,F,L,kZ];clear h1;generalize aO x=u at C key;obtain⟨N,O⟩:=u;obtain⟨Q,U⟩:=w;unfold dG at C d;simp only at C d;clear q;refine⟨λt=>⟨λh4=>⟨by simp only[InR];omega,by simp only[InR];omega,λj=>key _ ?_,λj=>key _ ?_⟩,λh4=>⟨λj=>key _ ?_,λj=>key _ ?_⟩⟩,λt=>⟨λh4=>⟨by simp only[InR];omega,by simp only[InR];omega,key _ ?_⟩,λh4=>key _ ?_⟩⟩
   all_goals clear key
   all_goals (try simp only at t)
   all_goals (try simp only at j)
   all_goals (unfold Fl;simp[h4];try omega)
  ·rintro w ⟨J,_⟩;simp[kZ];rw[qc8 ho a];rw[qFT]at J;rw[<-J]
 ·have E:=hk b (by rw[a];simp);have c:=hs b (by rw[a];simp);have hn:=hn ho;simp[iL,iy,h1,ho,a,E,kZ];rw[qc7 ho a];generalize aO b=w at c;unfold dG at c;have h2:=qD c.1 c.2.1 hn.1 hn.2.1;refine⟨by simp only[InR];omega,λt=>⟨λj=>by rw[if_pos (.inr j)],λj=>⟨λM=>⟨λK=>?_,λK=>?_⟩,λM=>?_⟩⟩,λt=>by rw[if_pos (.inl t)]⟩
  ·rw[if_neg (by omega),if_pos (by omega)]
  ·have h3:=qD K c.2.2.2 (show 0<=p.mx by omega) (show p.mx<=16 by omega);refine⟨by simp only[InR];omega,?_⟩;rw[if_neg (by omega),if_neg (by omega)]
  ·rw[if_neg (by omega),if_pos (by omega)]
def FunOnP{X Y:Type}[Cod X][Cod Y](S:Nat->Spc)(d:D)(l:List X)(p:X->Y):Prop:=
 ∃g caps a,d= .clo g caps/\S g= .pure a/\∀x∈l,a.pre (enc x::caps)/\∀r,a.post (enc x::caps) r->r=enc (p x)
def FunOnP.useB{X:Type}[Cod X]{S:Nat->Spc}{d:D}{l:List X}{p:X->Bool}(h:FunOnP S d l p)(x:X)(a:x∈l){k:Nat}{H:ab}{K:D->ab->Prop}(hk:∀y:Bool,(∀q,FunOnP S d l q->y=q x)->K (.v (.bool y)) H):EG S d k [enc x] H K:=by
 obtain⟨g,caps,A,rfl,h1,h2⟩:=h;simp only[EG,h1,Spc.pt];refine⟨(h2 x a).1,λr c=>?_⟩;have e:=(h2 x a).2 r c;rw[e];refine hk (p x) λq s=>?_
 obtain⟨C,b,t,u,j,w⟩:=s;cases u;rw[h1]at j;cases j;exact aP (e.symm.trans ((w x a).2 r c))
def FunIs.on{X Y:Type}[Cod X][Cod Y]{S:Nat->Spc}{d:D}{p:X->Y}(h:FunIs S d p)(l:List X):FunOnP S d l p:=by
 obtain⟨g,caps,a,h1,h2,h3⟩:=h;exact⟨g,caps,a,h1,h2,λx _=>h3 x⟩
def K2{X Y:Type}[Cod X][Cod Y]{S:Nat->Spc}{g:Nat}{c:D}{l:List X}{pre:X×D×Unit->Prop}{post:X×D×Unit->Y->Prop}{p:X->Y}(h:S g=aG (aE X (aD a0)) pre enc post)(hp:∀x∈l,pre (x,c,()))(b:∀x∈l,∀y,post (x,c,()) y->y=p x):FunOnP S (.clo g [c]) l p:=by
 refine⟨g, [c],_,rfl,h,λx a=>⟨⟨(x,c,()),by simp,hp x a⟩,λr d=>?_⟩⟩;obtain⟨y,rfl,j⟩:=d (x,c,()) (by simp) (hp x a);rw[b x a y j]
def qdS(x:Pat):D.agg [D.v (Value.int IntKind.i64 x.op),D.v (Value.int IntKind.i64 x.cond.op),D.v (Value.string x.cond.name),D.v (Value.string x.cond.arg),D.v (Value.string x.cond.val),D.v (Value.string x.cond.lab),D.v (Value.bool x.cond.fold),D.list 7 (List.map enc x.cond.kids),D.v (Value.string x.lab),D.v (Value.string x.reg),D.v (Value.int IntKind.i64 x.mn),D.v (Value.int IntKind.i64 x.mx),D.list 13 (List.map enc x.kids)]=enc x:=by simp
def WT(S0:Nat->Spc)(x:List Pat×D×Unit):Prop:=∃p:Pat->Bool,FunOnP S0 x.2.1 x.1 p
def ql5(S0:Nat->Spc)(x:List Pat×D×Unit)(y:Int):Prop:=∀p:Pat->Bool,FunOnP S0 x.2.1 x.1 p->y=fe x.1 p
abbrev qq1(S0:Nat->Spc):Spc:=aG (aE (List Pat) (aD a0)) (WT S0) enc (ql5 S0)
def wh:ak fK fI S (aE (List Pat) (aD a0)) (WT S) enc (ql5 S):=by
 rintro⟨l,d,⟨⟩⟩ ⟨p,hp⟩;simp at hp;simp[fK,fI];intro _;refine ah (X:=Unit) [0,1] [] l.length (λk _=>∀p:Pat->Bool,FunOnP S d l p->∀x∈l.take k,p x=false) (λ_=>[]) (λ_=>[]) () (by simp) ?_ ?_
 ·intro k _ hk c;simp;refine⟨hk,λx j=>?_⟩;rw[qdS x];refine hp.useB x (aU j) λy q=>?_
  simp;refine⟨λh=>?_,λh b a=>?_⟩
  ·intro b a;exact(tE j (by rw[<-q b a,h]) (c b a)).symm
  ·rw[av j];intro z hz;rcases qFG.1 hz with hz|hz
   ·exact c b a z hz
   ·simp at hz;subst hz;rw[<-q b a,h]
 ·intro _ c;simp;intro b a;exact(jZ (by simpa using c b a)).symm
def ql6(S0:Nat->Spc)(x:List Pat×D×Unit)(y:Bool):Prop:=∀p:Pat->Bool,FunOnP S0 x.2.1 x.1 p->y=x.1.any p
abbrev U3(S0:Nat->Spc):Spc:=aG (aE (List Pat) (aD a0)) (WT S0) enc (ql6 S0)
def tO(h1:S lH=qq1 S0):ak eF ek S (aE (List Pat) (aD a0)) (WT S0) enc (ql6 S0):=by
 rintro⟨l,d,⟨⟩⟩ hp;simp[eF,ek,h1,-fB'];refine⟨hp,λy c b a=>?_⟩;rw[c b a];exact vJ b l
abbrev Sr(n:Nat):Spc:=aG (a2 Pat Int) (λx=>cg x.1<=n/\0<=x.2/\x.2<=101) (enc (X:=Bool)) λx y=>y=cm x.1 x.2
def qp1(n:Nat)(x:Pat×D×Unit):Prop:=∃d:Int,x.2.1= .cptr [enc d] 0/\cg x.1<=n/\0<=d/\d<=100
def qlX(x:Pat×D×Unit)(y:Bool):Prop:=∀d:Int,x.2.1= .cptr [enc d] 0->y=!cm x.1 (d+1)
abbrev qii(n:Nat):Spc:=aG (aE Pat (aD a0)) (qp1 n) enc qlX
def HC(n:Nat)(h1:S jO=Sr n):ak pf ot S (aE Pat (aD a0)) (qp1 n) enc qlX:=by
 rintro⟨p,d,⟨⟩⟩ ⟨e,a,h2,h3,h4⟩;simp at a h2;subst a;simp[pf,ot,h1,qlX,h2,-fB'];exact⟨by simp only[InR];omega,by omega⟩
def Mm(n:Nat)(h0:S0 gL=qii n)(h1:S aV=U3 S0):ak ta sk S (a2 Pat Int) (λx=>cg x.1<=n+1/\0<=x.2/\x.2<=101) (enc (X:=Bool)) λx y=>y=cm x.1 x.2:=by
 rintro⟨p,d⟩ ⟨hn,a,b⟩;have hk:∀k∈p.kids,cg k<=n:=λk hk=>by have:=fT hk;have:cg p<=n+1:=hn;omega
 simp only at a b;simp[ta,sk,h1,-fB'];rw[ld];refine⟨λh=>?_,λh=>by rw[decide_eq_false (by omega)];rfl⟩;have j:FunOnP S0 (.clo gL [.cptr [.v (.int .i64 d)] 0]) p.kids λx=>!cm x (d+1):=
  K2 h0 (λx l=>⟨d,rfl,hk x l,a,h⟩) (λx _ y c=>c d rfl)
 refine⟨⟨_,j⟩,λy c=>?_⟩;rw[c _ j,decide_eq_true h,qHg];simp[qHZ]
def qp2(S0:Nat->Spc)(n:Nat)(x:Pat×D×Unit):Prop:=∃(d:D) (f:Pat->Bool),x.2.1= .cptr [d] 0/\FunIs S0 d f/\cg x.1<=n
def qlZ(S0:Nat->Spc)(x:Pat×D×Unit)(y:Bool):Prop:=∀(d:D) (f:Pat->Bool),x.2.1= .cptr [d] 0->FunIs S0 d f->y=!cx f x.1
abbrev qdB(S0:Nat->Spc)(n:Nat):Spc:=aG (aE Pat (aD a0)) (λx=>∃f:Pat->Bool,FunIs S0 x.2.1 f/\cg x.1<=n) enc λx y=>∀f:Pat->Bool,FunIs S0 x.2.1 f->y=cx f x.1
abbrev qiC(S0:Nat->Spc)(n:Nat):Spc:=aG (aE Pat (aD a0)) (qp2 S0 n) enc (qlZ S0)
def Mp(n:Nat)(h1:S fN=qdB S0 n):ak tc sr S (aE Pat (aD a0)) (qp2 S0 n) enc (qlZ S0):=by
 rintro⟨p,d,⟨⟩⟩ ⟨e,f,a,h2,h3⟩;simp at a h3;subst a;simp[tc,sr,h1,qlZ,h3,-fB'];exact⟨⟨f,h2⟩,λy b d g e c=>by subst e;exact b g c⟩
theorem Rb{N:Nat->Spc}(n:Nat)(l:∀(d:D) (f:Pat->Bool),FunIs N d f->FunIs S d f)(h0:S0 jQ=qiC N n)(h1:S aV=U3 S0):ak xI wB S (aE Pat (aD a0)) (λx=>∃f:Pat->Bool,FunIs N x.2.1 f/\cg x.1<=n+1) enc λx y=>∀f:Pat->Bool,FunIs N x.2.1 f->y=cx f x.1:=by
 rintro⟨p,d,⟨⟩⟩ ⟨f,b,hn⟩;have hk:∀k∈p.kids,cg k<=n:=λk hk=>by have:=fT hk;have:cg p<=n+1:=hn;omega
 simp at b;have h:d.kn=true/\d.cells=[d]:=by obtain⟨g,caps,s,rfl,_⟩:=b;exact⟨rfl,rfl⟩
 simp[xI,wB,h1,h,-fB'];rw[qdS p];refine((l d f b).on [p]).useB p (by simp) λy c=>?_
 have c:∀f,FunIs N d f->y=f p:=λf b=>c f ((l d f b).on [p])
 simp[h1,-fB'];refine⟨λq=>?_,λj g a=>by rw[cZ,<-c g a,j];rfl⟩;have hO:∀g,FunIs N d g->FunOnP S0 (.clo jQ [.cptr [d] 0]) p.kids λx=>!cx g x:=λg a=>
  K2 h0 (λx r=>⟨d,g,rfl,a,hk x r⟩) (λx _ y c=>c d g rfl a)
 refine⟨⟨_,hO f b⟩,λz hz g a=>?_⟩;rw[hz _ (hO g a),cZ,<-c g a,q,qHg];simp[qHZ]
abbrev OA:Spc:=aG (a2 Pat Int) (λx=>0<=x.2/\x.2<=101) (enc (X:=Bool)) λx y=>y=cm x.1 x.2
abbrev Du(N:Nat->Spc):Spc:=aG (aE Pat (aD a0)) (λx=>∃f:Pat->Bool,FunIs N x.2.1 f) enc λx y=>∀f:Pat->Bool,FunIs N x.2.1 f->y=cx f x.1
abbrev Nt:Spc:=aG (a1 Pat) (λ_=>True) (enc (X:=Bool)) λx y=>y=(cm x 1 && cx qC x)
def wR{X:Type}[Cod X]{S:Nat->Spc}{g:Nat}{pre:X->Prop}{p:X->Bool}(h:S g=aG (a1 X) pre enc λx y=>y=p x)(hp:∀x,pre x):FunIs S (.clo g []) p:=by
 refine⟨g, [],_,rfl,h,λx=>⟨⟨x,by simp,hp x⟩,λr a=>?_⟩⟩;obtain⟨y,rfl,b⟩:=a x (by simp) (hp x);rw[b]
def Rh{N:Nat->Spc}(h0:N mC=UX)(h1:S jO=OA)(h2:S fN=Du N):ak xM wF S (a1 Pat) (λ_=>True) (enc (X:=Bool)) λx y=>y=(cm x 1 && cx qC x):=by
 rintro p -;have f1:FunIs N (.clo mC []) qC:=wR h0 λ_=>trivial
 simp[xM,wF,h1,h2,-fB'];refine⟨λh=>⟨⟨_,f1⟩,λy a=>by rw[a _ f1,h];rfl⟩,λh b=>absurd (h.symm.trans b) (by simp)⟩
def Q8{N:Nat->Spc}(h0:N dH=EW)(b:N dh=Aq)(h1:S nP=Nt)(h2:S fN=Du N):ak xG wz S (a1 Pat) (λ_=>True) (enc (X:=Bool)) λx y=>y=fy aB x:=by
 rintro p -;have f1:FunIs N (.clo dH []) (nI aB):=wR h0 λ_=>trivial
 have c:FunIs N (.clo dh []) lF:=wR b λ_=>trivial
 simp[xG,wz,h1,h2,-fB'];unfold fy;refine⟨λh1 h2=>⟨⟨_,f1⟩,λy a=>?_⟩,λh=>?_⟩
 ·have a:=a _ f1;refine⟨λd=>⟨⟨_,c⟩,λz hz=>?_⟩,λj=>?_⟩
  ·rw[hz _ c,h1,h2,<-a,d];rfl
  ·rw[<-a,j];simp
 ·rcases hs:cm p 1
  ·rfl
  ·rw[h hs];rfl
end
section
mutual
def jS:Pat->Nat| .mk op _ _ _ mn _ ks=>if ks=[]then 1 else if op=6 then(max 1 mn).toNat*lQ ks else lQ ks
def lQ:List Pat->Nat|[]=>0|k::ks=>jS k+lQ ks
end
def kV(p:Pat):jS p=if p.kids=[]then 1 else if p.op=6 then(max 1 p.mn).toNat*lQ p.kids else lQ p.kids:=by cases p;unfold jS;rfl
def E1(a b:List Pat):bu (a++b)=bu a+bu b:=by
 induction a with
 |nil=>simp[bu]
 |cons k a c=>simp only[qGk,bu];omega
def Qm(p:Pat):1<=jS p:=by
 induction p using fg with|_ p a=>?_
 rw[kV];split
 ·omega
 ·rename_i h;have:1<=lQ p.kids:=by
   rcases hk:p.kids with _|⟨k,ks⟩
   ·exact absurd hk h
   ·rw[lQ];have:=a k (by rw[hk];simp);omega
  split
  ·exact Nat.mul_pos (by omega) this
  ·exact this
theorem qqb{lb:List B} :∀n p,WP lb n p->jS p<=2^n:=by
 refine JP λn p hp h=>?_
 rw[kV];rcases Aa hp with(⟨h1,h2,h3,h4,h5,h6⟩|⟨h1,h2,h3,h4,h5,h6,c⟩)|⟨m,rfl,(⟨h1,h2,h3,h4,h5,h6,a,b,c,_⟩|⟨h1,h2,h3,h4,h5,a,c,_⟩)⟩
 ·rw[if_pos h6];exact Nat.one_le_two_pow
 ·rw[if_pos c];exact Nat.one_le_two_pow
 ·obtain⟨j,d,_,a1⟩:=h a (by rw[c];simp);obtain⟨l,k,_,a2⟩:=h b (by rw[c];simp);have d:j=m:=by omega
  have k:l=m:=by omega
  subst d;subst k;rw[c,if_neg (by simp),if_neg (by omega),Nat.pow_succ];simp only[lQ];omega
 ·obtain⟨j,d,_,a1⟩:=h a (by rw[c];simp);have d:j=m:=by omega
  subst d;rw[c,if_neg (by simp),if_pos h1,Nat.pow_succ];simp only[lQ];have:(max 1 p.mn).toNat<=2:=by
   simp[qaI]at h5;omega
  have:=qHO this a1;rw[qGN];omega
end
end Go.Gv
