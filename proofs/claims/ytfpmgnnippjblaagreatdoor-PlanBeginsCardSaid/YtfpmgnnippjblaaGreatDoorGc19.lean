/- V58 -/
import Derived.Test.YtfpmgnnippjblaaGreatDoorGc18
set_option linter.all false
set_option maxRecDepth 100000
set_option maxHeartbeats 0
open Bool renaming forall_bool → fB', exists_bool → eB'
namespace Go.Gv
section
open Go.Proofs
theorem qmF:∀w∈DW,w∈wordsA:=by decide
theorem qqv:∀w∈QM,w∈wordsA:=by decide
theorem qom:∀w∈FsetL,w∈wordsA:=by decide
def qm3:∀w∈ValsI,w∈valsA:=by decide
def qk7:fu∈wordsA:=by decide
def qpl{toks:List (List B)}(h:∀r∈toks,Fh r)(i k:Int):sk toks i k∈wordsA:=by
 unfold sk;split
 ·exact qk7
 ·split
  ·rename_i r a;obtain⟨w,t,f,b,c,d,rfl⟩:=h r (qF7 a);split
   ·rename_i s hs;have hm:=qF7 hs;simp only[qGm,qGz,or_false]at hm;grind [Fh,qmF,qqv,qom]
   ·exact qk7
  ·exact qk7
def qhq:dU att3 FR=2:=by decide
def qh0{toks:List (List B)}(h:∀r∈toks,Fh r){i:Int}(h0:0<=i)(h1:i<toks.length):∃f∈FsetL,sk toks i 2=f:=by
 obtain⟨j,rfl⟩:∃j:Nat,i=(j:Int):=⟨i.toNat,by omega⟩
 obtain⟨r,a⟩:∃r,toks[j]? =some r:=⟨toks[j]'(by omega),qF6 _⟩
 obtain⟨w,t,f,c,d,b,rfl⟩:=h r (qF7 a);refine⟨f,b,?_⟩;unfold sk;grind
structure qbF (E:Sm):Prop where
 c:OkCorp E.c
 t0:0<=E.tok
 t1:E.tok<E.c.toks.length
 l:E.bd.length=E.lb.length
theorem qpO{E:Sm}(b:qbF E){n:Nat}{x:Cond}(h:GA E.lb x):∃y,qW E (n+1) x=some y:=by
 cases h with
 | val nm v f h1 h2=>
   obtain⟨y,p⟩:=PJ (qm3 v h2) (qpl b.c.2.2.2 E.tok (qX E.c.attrs nm)) f;refine⟨y,?_⟩;unfold qW;grind
 | feat v h=>
   obtain⟨f,d,e⟩:=qh0 b.c.2.2.2 b.t0 b.t1;have q:v=⟨#[112]⟩\/v=⟨#[113]⟩:=by grind [FeatL]
   have j:(featS.any λz=>decide (z=f))=true:=qG5.2 ⟨f,d,decide_eq_true rfl⟩;refine⟨featS.any (λ_=>false)||f.data.toList.any λc=>decide (v.data.toList=[c]),?_⟩;unfold qW;rw[if_neg (show ¬(3:Int)=1 by decide),if_neg (show ¬(3:Int)=2 by decide),if_pos rfl];simp only[b.c.1,qhq,e];simp_all [R1]
 | same nm l a h1 h2 h3=>
   obtain⟨k,hk⟩:∃k:Nat,fL E.lb (λz=>decide (z=l))=(k:Int):=by
    rcases PW (λz=>decide (z=l)) E.lb with⟨e,h⟩|⟨k,_,e,_⟩
    grind;grind
   have r:=IS (λz=>decide (z=l)) E.lb;obtain⟨o,ho⟩:∃o,E.bd[k]? =some o:=⟨E.bd[k]'(by grind [b.l]),qF6 _⟩
   refine⟨decide (0<=o) && decide (sk E.c.toks E.tok (dU E.c.attrs nm)=sk E.c.toks o (dU E.c.attrs a)),?_⟩;unfold qW;grind
 |reg nm h=>exact⟨_,by rfl⟩
 |regk nm v h1 h2=>exact⟨_,by rfl⟩
def qkl{E:Sm}{n:Nat}{k:Cond}{y:Bool}(h:qW E n k=some y):qW E (n+1) ⟨6,E0,E0,E0,E0,false, [k]⟩=some (!y):=by
 unfold qW;grind
def qkn{E:Sm}{n:Nat}{a b:Cond}{p q:Bool}(h1:qW E n a=some p)(h2:qW E n b=some q):qW E (n+1) ⟨7,E0,E0,E0,E0,false, [a,b]⟩=some (p && q):=by
 unfold qW;grind
def qpN{E:Sm}{n:Nat}{a b:Cond}{p q:Bool}(h1:qW E n a=some p)(h2:qW E n b=some q):qW E (n+1) ⟨8,E0,E0,E0,E0,false, [a,b]⟩=some (p||q):=by
 simp_all [qW]
def qeU{E:Sm}(d:qbF E):∀{n m:Nat} {x:Cond},GI E.lb n x->n<m->∃y,qW E m x=some y
 | _,m+1,_, .atom n c h,_=>qpO d h
 | _,m+1,_, .not n k h,hm=>by
   obtain⟨y,j⟩:=qeU (m:=m) d h (by omega);simp_all [qkl]
 | _,m+1,_, .two n op a b ho h1 h2,hm=>by
   obtain⟨p,hp⟩:=qeU (m:=m) d h1 (by omega);obtain⟨q,l⟩:=qeU (m:=m) d h2 (by omega);rcases ho with rfl|rfl;simp_all [qkn];simp_all [qpN]
def qkm{E:Sm}(a:qbF E){n m:Nat}{x:Cond}(h:GC E.lb n x)(hm:n<m):∃y,qW E m x=some y:=by
 obtain⟨m,rfl⟩:∃k,m=k+1:=⟨m -1,by omega⟩
 cases h with
 |any=>exact⟨true,by rfl⟩
 | top v f h=>
   have b:v∈valsA:=(by decide:∀w∈ValsT,w∈valsA) v h;obtain⟨y,d⟩:=PJ b (qpl a.c.2.2.2 E.tok (qX E.c.attrs E0)) f;refine⟨y,?_⟩;unfold qW;grind
 |inner c h=>exact qeU a h hm
def qtX:Bool:=Attr2.all λnm=>ValsI.all λv=>oh att3 [] ⟨2,nm,E0,v,E0,false, []⟩ && oh att3 [] ⟨2,nm,E0,v,E0,true, []⟩
def qqq:qtX=true:=by kernel_rfl
def qt1:Bool:=ValsT.all λv=>oh att3 [] ⟨2,E0,E0,v,E0,false, []⟩ && oh att3 [] ⟨2,E0,E0,v,E0,true, []⟩
def qic:qt1=true:=by rfl
def qrL:Bool:=FeatL.all λv=>oh att3 [] ⟨3,FR,E0,v,E0,false, []⟩
def qov:qrL=true:=by rfl
def qur:Bool:=Types.all λn=>oh att3 [] ⟨5,n,E0,E0,E0,false, []⟩ && NumL.all λv=>oh att3 [] ⟨5,n,qpp,v,E0,false, []⟩
def qjp:qur=true:=by rfl
def qBj:Bool:=Attr2.all λn=>decide (0<=dU att3 n)
def qpL:qBj=true:=by rfl
def PA{lb:List B}{nm v:B}{f:Bool} :oh att3 lb ⟨2,nm,E0,v,E0,f, []⟩=oh att3 [] ⟨2,nm,E0,v,E0,f, []⟩:=rfl
def qgt{lb:List B}{v:B} :oh att3 lb ⟨3,FR,E0,v,E0,false, []⟩=oh att3 [] ⟨3,FR,E0,v,E0,false, []⟩:=rfl
def ZW{lb:List B}{n a v:B} :oh att3 lb ⟨5,n,a,v,E0,false, []⟩=oh att3 [] ⟨5,n,a,v,E0,false, []⟩:=rfl
theorem Wb{lb:List B}{x:Cond}(h:GA lb x):oh att3 lb x=true:=by
 cases h with
 | val nm v f h1 h2=>
   rw[PA];have h:=qGa.1 (qGa.1 qqq nm h1) v h2;simp only[qF9]at h;cases f<;>grind
 | feat v h=>
   rw[qgt];exact qGa.1 qov v h
 | same nm l a h1 h2 h3=>
   have b:=qGa.1 qpL nm h1;have c:=qGa.1 qpL a h3;have d:(lb.any λz=>decide (z=l))=true:=qG5.2 ⟨l,h2,decide_eq_true rfl⟩;have j:qf5 ⟨4,nm,a,E0,l,false, []⟩=true:=by
    rfl
   have k:qnQ att3 ⟨4,nm,a,E0,l,false, []⟩=true:=by
    unfold qnQ;grind
   have p:qwl att3 lb ⟨4,nm,a,E0,l,false, []⟩=true:=by
    unfold qwl;grind
   grind [oh]
 | reg nm h=>
   rw[ZW];have h:=qGa.1 qjp nm h;grind
 | regk nm v h1 h2=>
   rw[ZW];have h:=qGa.1 qjp nm h1;grind
def Gl{a:List Attr}{lb:List B}{m:Nat}{x:Cond}(h:oh a lb x=true)(hk:x.kids=[]):sC a lb (m+1) x=true:=by
 grind [sC]
def Th{lb:List B}{m:Nat}{k:Cond}(h:sC att3 lb m k=true):sC att3 lb (m+1) ⟨6,E0,E0,E0,E0,false, [k]⟩=true:=by
 have e:oh att3 lb ⟨6,E0,E0,E0,E0,false, [k]⟩=true:=rfl;grind [sC]
def Tg{lb:List B}{m:Nat}{op:Int}{a b:Cond}(ho:op=7\/op=8)(h1:sC att3 lb m a=true)(h2:sC att3 lb m b=true):sC att3 lb (m+1) ⟨op,E0,E0,E0,E0,false, [a,b]⟩=true:=by
 have e:oh att3 lb ⟨op,E0,E0,E0,E0,false, [a,b]⟩=true:=by rcases ho with rfl|rfl<;>rfl
 grind [sC]
theorem IJ{lb:List B} :∀{n m:Nat} {x:Cond},GI lb n x->n<m->sC att3 lb m x=true
 | _,m+1,_, .atom n c h,_=>Gl (Wb h) (wR h)
 | _,m+1,_, .not n k h,hm=>Th (IJ h (by omega))
 | _,m+1,_, .two n op a b ho h1 h2,hm=>Tg ho (IJ h1 (by omega)) (IJ h2 (by omega))
theorem qnP{k:Cond}{op:Int} :cR ⟨op,E0,E0,E0,E0,false, [k]⟩=cR k+1:=by rfl
theorem qnO{a b:Cond}{op:Int} :cR ⟨op,E0,E0,E0,E0,false, [a,b]⟩=cR a+cR b+1:=by rfl
theorem qoG{k:Cond}{op:Int} :bi ⟨op,E0,E0,E0,E0,false, [k]⟩=bi k+1:=by grind [bi,jE]
theorem qoF{a b:Cond}{op:Int} :bi ⟨op,E0,E0,E0,E0,false, [a,b]⟩=max (bi a) (bi b) +1:=by grind [bi,jE]
theorem PR{x:Cond}(h:x.kids=[]):cR x=1/\bi x=1:=by
 rw[rS,Bw,h];exact⟨rfl,rfl⟩
def Wy{lb:List B} :∀{n:Nat} {x:Cond},GI lb n x->cR x+1<=2^ (n+1)/\bi x<=n+1
 | _,_, .atom n c h=>by
   grind [PR,wR]
 | _,_, .not n k h=>by
   have:=Wy h;grind [qnP,qoG]
 | _,_, .two n op a b ho h1 h2=>by
   have:=Wy h1;have:=Wy h2;grind [qnO,qoF]
def qc7{lb:List B}{n:Nat}{x:Cond}(h:GC lb n x):cR x+1<=2^ (n+1)/\bi x<=n+1:=by
 have h2:2^1<=2^ (n+1):=Nat.pow_le_pow_right (by decide) (by omega);cases h with
 |any=>have:=PR (x:=⟨1,E0,E0,E0,E0,false, []⟩) rfl;omega
 |top v f h=>have:=PR (x:=⟨2,E0,E0,v,E0,f, []⟩) rfl;omega
 |inner c h=>exact Wy h
theorem PB{lb:List B}{n m:Nat}{x:Cond}(h:GC lb n x)(hm:n<m):sC att3 lb m x=true:=by
 obtain⟨m,rfl⟩:∃k,m=k+1:=⟨m -1,by omega⟩
 cases h with
 |any=>rfl
 | top v f h=>
   refine Gl ?_ rfl;have h:=qGa.1 qic v h;simp only[qF9]at h;rw[PA];cases f<;>grind
 |inner c h=>grind [IJ]
theorem qjH{a:List Attr}{lb:List B}{x:Cond}(h1:cR x<=60)(h2:bi x<=20)(h3:sC a lb 20 x=true):qmm a lb x=true:=by
 grind [qmm]
def qrd{lb:List B}{n:Nat}{x:Cond}(h:GC lb n x)(hn:n<=4):qmm att3 lb x=true:=by
 obtain⟨h1,h2⟩:=qc7 h;have h3:2^ (n+1)<=2^5:=Nat.pow_le_pow_right (by decide) (by omega);grind [qjH,PB]
open Cod (enc dec)
variable {S S0:Nat->Spc}
def qjd{c:Corpus}(h:OkCorp c){i:Int}(h0:0<=i)(h1:i<c.toks.length):∃w t f,w∈DW/\t∈QM/\f∈FsetL/\c.toks[i.toNat]? =some [w,t,f]/\sk c.toks i 0=w/\sk c.toks i 1=t/\sk c.toks i 2=f:=by
 obtain⟨r,a⟩:=aM (show i.toNat<c.toks.length by omega);obtain⟨w,t,f,b,d,j,rfl⟩:=h.2.2.2 r (qF7 a);refine⟨w,t,f,b,d,j,a,?_,?_,?_⟩ <;>(unfold sk;rw[if_neg (by omega),a];rfl)
def qsA:dU att3 uN=0:=by decide
def qsB:dU att3 LL=1:=by decide
def qwI:dU att3 FR=2:=by decide
def qDN:dU att3 fu= -1:=by decide
def qCt:qX att3 uN=0:=by decide
def qCu:qX att3 LL=1:=by decide
def qCv:qX att3 fu=0:=by decide
def qBm:max (0:Int) (-1)=0:=by decide
def quI:max (0:Int) 0=0:=by decide
def quH:max (0:Int) 1=1:=by decide
def qBn:max (0:Int) 2=2:=by decide
def qtQ{w:B}(h:w∈DW):w∈WT:=qGi.2 (.inl h)
def qAo{w:B}(h:w∈QM):w∈WT:=qGi.2 (.inr h)
def qhu(n:Nat)(z:HZ):Prop:=OkCorp z.1/\qpG z.1.attrs z.2.2.2.1 n z.2.1/\0<=z.2.2.1/\z.2.2.1<z.1.toks.length/\z.2.2.2.2.length=z.2.2.2.1.length/\z.2.2.2.1.length<=1000/\(∀b∈z.2.2.2.2, -1<=b/\b<z.1.toks.length)/\∃y,qW (qkZ z) n z.2.1=some y
abbrev OJ(n:Nat):Spc:=ax aH (qhu n) (enc (X:=Bool)) (qp0 n)
set_option maxHeartbeats 4000000 in
theorem XT(n:Nat)(h1:S wW=OJ n)(h2:S ga=s_rAttr)(h3:S rW=s_rMatches)(h4:S rX=s_rFeat):
 aq dh dg S aH (qhu (n+1)) (enc (X:=Bool)) (qp0 (n+1)):=by
 rintro⟨c,x,tok,lb,bd⟩ ⟨hc,⟨hnd,hr,hkk⟩,t0,t1,hbl,hll,hb,y,hy⟩;simp only at hc hnd hr hkk t0 t1 hbl hll hb;have hy0:qW ⟨c,tok,lb,bd⟩ (n+1) x=some y:=hy;have hQ:∀w,w=y->qp0 (n+1) (c,x,tok,lb,bd) w:=λw e=>by subst e;exact hy
 clear hy;have hca:=hc.1;have hl:(c.toks.length:Int)<=9223372036854775807:=by have:=hc.2.2.1;omega
 have hl2:(lb.length:Int)<=9223372036854775807:=by omega
 have hl3:(bd.length:Int)<=9223372036854775807:=by omega
 obtain⟨w,t,f,hw,ht,hf,hrow,v0,v1,v2⟩:=qjd hc t0 t1;obtain⟨_,hgrow⟩:=qF4.1 hrow;obtain⟨op,name,arg,val,lab,fold,ks⟩:=x;obtain⟨r2,r3,r4,r5⟩:=hr;simp only at r2 r3 r4 r5 hkk;unfold qW at hy0;simp only at hy0;split at hy0
 ·rename_i e;subst e;obtain rfl:=qGf hy0;simp[dh,dg,h2,-fB',-eB'];exact hQ _ rfl
 rename_i e1;split at hy0
 ·rename_i e;subst e;obtain⟨hv,hnm⟩:=r2 rfl;have hnm:name=fu\/name=uN\/name=LL:=by simpa [Attr2]using hnm
  rcases hnm with rfl|rfl|rfl
  ·simp only[hca,qCv,v0]at hy0;simp[dh,dg,h2,h3,hca,qDN,qBm,t0,t1,hl,hrow,hgrow,hv,qtQ hw,-fB',-eB'];exactλu hu=>hQ _ (qGf (hu.symm.trans hy0))
  ·simp only[hca,qCt,v0]at hy0;simp[dh,dg,h2,h3,hca,qsA,quI,t0,t1,hl,hrow,hgrow,hv,qtQ hw,-fB',-eB'];exactλu hu=>hQ _ (qGf (hu.symm.trans hy0))
  ·simp only[hca,qCu,v1]at hy0;simp[dh,dg,h2,h3,hca,qsB,quH,t0,t1,hl,hrow,hgrow,hv,qAo ht,-fB',-eB'];exactλu hu=>hQ _ (qGf (hu.symm.trans hy0))
 rename_i e2;split at hy0
 ·rename_i e;subst e;obtain⟨hv,rfl⟩:=r3 rfl;simp only[hca,qwI,v2]at hy0;simp[dh,dg,h2,h4,hca,qwI,qBn,t0,t1,hl,hrow,hgrow,hv,hf,-fB',-eB'];refine hQ _ ?_;unfold R1 at hy0;split at hy0
  ·exact qGf hy0
  ·cases hy0
 rename_i e3;split at hy0
 ·rename_i e;subst e;obtain⟨hn4,ha4⟩:=r4 rfl;have hn4:name=uN\/name=LL:=by simpa [Attr2]using hn4
  have ha4:arg=uN\/arg=LL:=by simpa [Attr2]using ha4
  split at hy0
  ·cases hy0
  rename_i hj;simp[dh,dg,h2,hl2,-fB',-eB'];refine ah (X:=Unit) [2,4,5,6,11,60] [] lb.length (λk _=>∀x∈lb.take k,decide (x=lab)=false) (λ_=>[]) (λ_=>[]) () (by simp) ?_ ?_
  ·intro k _ hk hP;obtain⟨x,hx⟩:=aM hk;obtain⟨_,hgx⟩:=qF4.1 hx;by_cases hxl:x=lab
   rotate_left
   ·simp[hk,hx,hgx,hxl,-fB',-eB'];rw[au hx];intro z hz;rcases qGi.1 hz with hz|hz
    ·simpa using hP z hz
    ·simp at hz;subst hz;simpa using hxl
   have hi:=pu hx (by simp[hxl]) hP;rw[hi]at hy0;obtain⟨o,ho⟩:=aM (show k<bd.length by omega);obtain⟨hkb,hgo⟩:=qF4.1 ho;obtain⟨o0,o1⟩:=hb o (qF7 ho);simp only[qHQ,ho]at hy0;have hy1:=qGf hy0;by_cases h0o:o= -1
   ·simp[hk,hx,hgx,hxl,hkb,ho,hgo,h0o,hl3,-fB',-eB'];exact hQ _ (by rw[<-hy1,h0o];rfl)
   have ho0:0<=o:=by omega
   obtain⟨w',t',f',hw',ht',hf',hrow',v0',v1',v2'⟩:=qjd hc ho0 o1;obtain⟨_,hgrow'⟩:=qF4.1 hrow';rcases hn4 with rfl|rfl<;>rcases ha4 with rfl|rfl<;>
   ·simp[hk,hx,hgx,hxl,hkb,ho,hgo,h0o,hl3,h2,hca,qsA,qsB,quI,quH,t0,t1,hl,hrow,hgrow,ho0,o1,hrow',hgrow',-fB',-eB'];exact hQ _ (by rw[<-hy1];simp[ho0,hca,qsA,qsB,v0,v1,v0',v1'])
  ·intro _ hP;have hn:=ig (p:=λz=>decide (z=lab)) (l:=lb) (by simpa using hP);exact(hj (by rw[hn];decide)).elim
 rename_i e4;split at hy0
 ·rename_i e;subst e;have hy1:=qGf hy0;simp[dh,dg,h2,-fB',-eB'];intro hrl;refine ah (X:=Unit) [2,6,106] [] c.regs.length (λk _=>∀r∈c.regs.take k,xP ⟨5,name,arg,val,lab,fold,ks⟩ tok r=false) (λ_=>[]) (λ_=>[]) () (by simp) ?_ ?_
  ·intro k _ hk hP;obtain⟨r,hx⟩:=aM hk;obtain⟨_,hgx⟩:=qF4.1 hx;have hyes:xP ⟨5,name,arg,val,lab,fold,ks⟩ tok r=true->true=y:=λh=>by
    rw[<-hy1];exact(qG5.2 ⟨r,qF7 hx,h⟩).symm
   have hnext:xP ⟨5,name,arg,val,lab,fold,ks⟩ tok r=false->∀z∈c.regs.take (k+1),xP ⟨5,name,arg,val,lab,fold,ks⟩ tok z=false:=λh z hz=>by
    rw[au hx]at hz;rcases qGi.1 hz with hz|hz
    ·exact hP z hz
    ·simp at hz;subst hz;exact h
   clear hP;by_cases c1:r.ty=name
   rotate_left
   ·simp[hk,hx,hgx,c1,-fB',-eB'];exact hnext (by simp[xP,c1])
   by_cases c2:r.b<=tok
   rotate_left
   ·have c2':tok<r.b:=by omega
    simp[hk,hx,hgx,c1,c2,c2',-fB',-eB'];exact hnext (by simp[xP,c1,c2])
   have c2':¬tok<r.b:=by omega
   by_cases c3:tok<r.e
   rotate_left
   ·have c3':r.e<=tok:=by omega
    simp[hk,hx,hgx,c1,c2,c2',c3,c3',-fB',-eB'];exact hnext (by simp[xP,c1,c2,c3])
   have c3':¬r.e<=tok:=by omega
   by_cases c4:arg=fu
   ·have c4':arg=⟨#[]⟩:=c4;simp[hk,hx,hgx,c1,c2,c2',c3,c3',c4',-fB',-eB'];have:=hyes (by simp[xP,c1,c2,c3,c4]);rw[c4']at hQ;exact hQ _ this
   have c4':¬arg=⟨#[]⟩:=c4;simp[hk,hx,hgx,c1,c2,c2',c3,c3',c4',-fB',-eB'];intro hkl;refine ah (X:=Unit) [2,6,106,107,108,133] [] r.kv.length (λj _=>∀p∈r.kv.take j,¬p=⟨arg,val⟩) (λ_=>[]) (λ_=>[]) () (by simp) ?_ ?_
   ·intro j _ hj hP;obtain⟨p,hp⟩:=aM hj;obtain⟨_,hgp⟩:=qF4.1 hp;obtain⟨pn,pv⟩:=p;by_cases d1:pn=arg
    rotate_left
    ·simp[hj,hp,hgp,d1,-fB',-eB'];rw[au hp];intro z hz;rcases qGi.1 hz with hz|hz
     ·exact hP z hz
     ·simp at hz;subst hz;intro e;cases e;exact d1 rfl
    by_cases d2:pv=val
    rotate_left
    ·simp[hj,hp,hgp,d1,d2,-fB',-eB'];rw[au hp];intro z hz;rcases qGi.1 hz with hz|hz
     ·exact hP z hz
     ·simp at hz;subst hz;intro e;cases e;exact d2 rfl
    simp[hj,hp,hgp,d1,d2,-fB',-eB'];exact hQ _ (hyes (by
     have hm:qak r.kv ⟨arg,val⟩=true:=qG5.2 ⟨⟨pn,pv⟩,qF7 hp,by rw[d1,d2];exact decide_eq_true rfl⟩;simp[xP,c1,c2,c3,hm]))
   ·intro _ hP;simp[-fB',-eB'];refine hnext ?_;have hm:qak r.kv ⟨arg,val⟩=false:=List.any_eq_false.2 λp hp=>by
     have:=hP p (by simpa using hp);simpa using this
    simp[xP,c4,hm]
  ·intro _ hP;simp[-fB',-eB'];refine hQ _ ?_;rw[<-hy1];exact(List.any_eq_false.2 λr hr=>by
    have:=hP r (by simpa using hr);simpa using this).symm
 rename_i e5;split at hy0
 ·rename_i e;subst e;split at hy0
  ·rename_i k ks';obtain⟨b,hb1,rfl⟩:=qGe.1 hy0;have hp:qhu n (c,k,tok,lb,bd):=⟨hc,hkk k (.head _),t0,t1,hbl,hll,hb,b,hb1⟩
   simp[dh,dg,h1,h2,hp,-fB',-eB'];intro w hw;have hw:qW ⟨c,tok,lb,bd⟩ n k=some w:=hw;rw[hb1]at hw;cases hw;exact hQ _ rfl
  ·cases hy0
 rename_i e6;split at hy0
 rotate_left
 ·cases hy0
 rename_i hall;have hal:∀k∈ks,∃b,qW ⟨c,tok,lb,bd⟩ n k=some b:=λk hk=>qGK.1 (qGa.1 hall k hk)
 have hop:op=7\/op=8:=by
  unfold oh at hnd;simp only[qF9]at hnd;have hs:=hnd.1.1;unfold qf5 at hs;simp only[e1,e2,e3,e4,e5,e6,if_false]at hs;split at hs
  ·assumption
  ·cases hs
 rcases hop with e|e
 ·subst e;have hy1:=qGf ((if_pos rfl).symm.trans hy0);simp[dh,dg,h2,-fB',-eB'];intro hkl;refine ah (X:=Unit) [2,3,4,5,6,164] [] ks.length (λk _=>∀z∈ks.take k,qW ⟨c,tok,lb,bd⟩ n z=some true) (λ_=>[]) (λ_=>[]) () (by simp) ?_ ?_
  ·intro k _ hk hP;obtain⟨z,hx⟩:=aM hk;obtain⟨_,hgx⟩:=qF4.1 hx;have hzm:=qF7 hx;obtain⟨b,hb1⟩:=hal z hzm;have hp:qhu n (c,z,tok,lb,bd):=⟨hc,hkk z hzm,t0,t1,hbl,hll,hb,b,hb1⟩
   simp[hk,hx,hgx,h1,hp,-fB',-eB'];intro w hw;have hw:qW ⟨c,tok,lb,bd⟩ n z=some w:=hw;cases w
   ·simp[-fB',-eB'];refine hQ _ ?_;rw[<-hy1,qG5.2 ⟨z,hzm,by rw[hw];rfl⟩];rfl
   ·simp[-fB',-eB'];rw[au hx];intro u hu;rcases qGi.1 hu with hu|hu
    ·exact hP u hu
    ·simp at hu;subst hu;exact hw
  ·intro _ hP;simp[-fB',-eB'];refine hQ _ ?_;rw[<-hy1];rw[List.any_eq_false.2 λz hz=>by rw[hP z (by simpa using hz)];decide];rfl
 ·subst e;have hy1:=qGf ((if_neg (by decide)).symm.trans hy0);simp[dh,dg,h2,-fB',-eB'];intro hkl;refine ah (X:=Unit) [2,3,4,5,6,164] [] ks.length (λk _=>∀z∈ks.take k,qW ⟨c,tok,lb,bd⟩ n z=some false) (λ_=>[]) (λ_=>[]) () (by simp) ?_ ?_
  ·intro k _ hk hP;obtain⟨z,hx⟩:=aM hk;obtain⟨_,hgx⟩:=qF4.1 hx;have hzm:=qF7 hx;obtain⟨b,hb1⟩:=hal z hzm;have hp:qhu n (c,z,tok,lb,bd):=⟨hc,hkk z hzm,t0,t1,hbl,hll,hb,b,hb1⟩
   simp[hk,hx,hgx,h1,hp,-fB',-eB'];intro w hw;have hw:qW ⟨c,tok,lb,bd⟩ n z=some w:=hw;cases w
   ·simp[-fB',-eB'];rw[au hx];intro u hu;rcases qGi.1 hu with hu|hu
    ·exact hP u hu
    ·simp at hu;subst hu;exact hw
   ·simp[-fB',-eB'];exact hQ _ (hy1.symm.trans (qG5.2 ⟨z,hzm,by rw[hw];rfl⟩)).symm
  ·intro _ hP;simp[-fB',-eB'];refine hQ _ ?_;rw[<-hy1];rw[List.any_eq_false.2 λz hz=>by rw[hP z (by simpa using hz)];decide]


def qmJ:qlX Qv OX S:=by
 intro l;simp[Qv,OX, -List.map_take,Cz,HR];omega
def qyb(c:Corpus):List D:=[enc c.attrs,enc c.toks,enc c.texts,enc c.regs, .v (.slice none 0 0), .v (.slice none 0 0), .v (.slice none 0 0)]
def qnR(c:Corpus):List D:=[enc c.attrs,enc c.toks,enc c.texts,enc c.regs,enc c.nodes, .v (.slice none 0 0), .v (.slice none 0 0)]
def qvw(c:Corpus):List D:=[enc c.attrs,enc c.toks,enc c.texts,enc c.regs,enc c.nodes,enc c.heads,enc c.rels]
def YV(l:List B):List D:=l.map enc
def Sz(a b:B):D.list 1 [.v (.string a), .v (.string b)]= .list 1 (YV [a,b]):=i' rfl
def YU(a b c:B):D.list 1 [.v (.string a), .v (.string b), .v (.string c)]= .list 1 (YV [a,b,c]):=i' rfl
def mP(l:List B):(YV l).length=l.length:=by simp[YV]
def rN(l:List B)(i:Nat)(d:D):((YV l)[i]? =some d)=∃s,l[i]? =some s/\ .v (.string s)=d:=by
 simp[YV]
def qmg(n:Nat)(a:List zM):Prop:=(∀x∈a,0<=x.b/\x.b<=n/\0<=x.e/\x.e<=n)/\∀(j:Nat) (y:zM),a[j]? =some y->y.par<j
def Xp(c c':Corpus):Prop:=∃a,c'={ c with nodes:=a } /\a.length<=6/\qmg c.toks.length a
def El(c:Corpus):Prop:=c.toks.length<=4096
theorem qfL(h1:S bS=s_m_Next):Xn tV tt S qyb qnR El Xp:=by
 intro L b c hc;have hc:c.toks.length<=4096:=hc;simp[tV,tt,h1,qyb];intro _ k I J;refine uB (X:=Int×Int×Value×List zM) [0,1,4] [] [] [] [] [] (λx=>0<=x.1/\x.1<=c.toks.length/\0<=x.2.1/\2*x.2.1+x.2.2.2.length<=6/\qmg c.toks.length x.2.2.2) (λx=>[(5,enc x.1),(6,enc x.2.1)]) (λx=>[(1, .box b [enc c.attrs,enc c.toks,enc c.texts,enc c.regs, .own 61 x.2.2.1, .v (.slice none 0 0), .v (.slice none 0 0)]),(61, .row x.2.2.1 wJ 4 (x.2.2.2.map enc))]) (λx=>x.2.1.toNat) (0,k, .slice none 0 0, []) [1,61] (λ_=>rfl) (by decide) (by decide) ?_ ?_ ?_ ?_
 ·simp[qmg];omega
 ·simp
 ·simp[isNilRow];exact .nilown 61
 ·rintro⟨at_,k,v,l⟩ ⟨K,M,N,O,q⟩;simp only at K M N O q;simp[h1,Sz,mP,rN];have tD:qp8 qnR b (Xp c) (D.tup []) (aj (aj (aj (λx=>none) 96 none) 61 (some (Res.row v wJ 4 (List.map enc l)))) 1 (some (Res.box b [D.list 2 (List.map enc c.attrs),D.list 1 (List.map enc c.toks),D.list 4 (List.map enc c.texts),D.list 4 (List.map enc c.regs),D.own 61 v,D.v (Value.slice none 0 0),D.v (Value.slice none 0 0)]))):=by
   refine⟨{ c with nodes:=l },_,rfl,rfl,?_,⟨l,rfl,by omega,q⟩⟩;simp[qnR];exact fq wJ rfl
  refine⟨λhk=>⟨λQ y U W=>⟨by simp only[InR];omega,λ_=>tD,λhb=>⟨by simp only[InR];omega,by simp only[InR];omega,by omega,λr C=>⟨by simp only[InR];omega,λ_ z s t=>⟨s,t,λlb Y=>⟨by omega,by omega,λv1=>?_⟩⟩⟩⟩⟩,λ_=>tD⟩,λ_=>tD⟩;have Z:0<=at_+y:=by omega
  generalize at_+y=b' at*;have he:b'+1+r<=c.toks.length/\0<=r:=by omega
  generalize hee:b'+1+r=d at*;have a:qmg c.toks.length (l++ [⟨lb,b',d, -1⟩]):=by
   refine⟨λx hx=>?_,λj x hx=>?_⟩
   ·rcases qGi.1 hx with hx|hx
    ·exact q.1 x hx
    ·simp at hx;subst hx;simp only;omega
   ·by_cases e:j<l.length
    ·rw[qGI e]at hx;exact q.2 j x hx
    ·rw[qGH (by omega)]at hx;have hx:=qF7 hx;simp at hx;subst hx;simp only;omega
  refine bh (X:=Value×List zM) [0,1,4,6,8] [] (λx=>x.2.length<=l.length+2/\qmg c.toks.length x.2) (λ_=>[]) (λx=>[(1, .box b [enc c.attrs,enc c.toks,enc c.texts,enc c.regs, .own 61 x.1, .v (.slice none 0 0), .v (.slice none 0 0)]),(61, .row x.1 wJ 4 (x.2.map enc))]) ?_ ?_
  ·simp[h1,Sz,mP,rN];refineλu hu0 hu1=>⟨λ_=>⟨by simp only[InR];omega,by omega,λE hy2=>⟨by simp only[InR];omega,λz2 h p=>⟨h,p,λw _=>⟨by simp only[InR];omega,by simp only[InR];omega,by omega,λy3 hy3=>⟨by simp only[InR];omega,by omega,by omega,λA=>⟨A,l++ [⟨lb,b',d, -1⟩] ++ [⟨w,b'+E,b'+E+1+y3,l.length⟩],⟨by simp,?_⟩, .inl rfl, .inl ⟨rfl,by simp⟩⟩⟩⟩⟩⟩⟩,λ_=>⟨v1,l++ [⟨lb,b',d, -1⟩],⟨by simp,a⟩, .inl rfl, .inl ⟨rfl,by simp⟩⟩⟩
   refine⟨λx hx=>?_,λj x hx=>?_⟩
   ·rcases qGi.1 hx with hx|hx
    ·exact a.1 x hx
    ·simp at hx;subst hx;simp only;omega
   ·by_cases e:j<(l++ [(⟨lb,b',d, -1⟩:zM)]).length
    ·rw[qGI e]at hx;exact a.2 j x hx
    ·rw[qGH (by omega)]at hx;have hx:=qF7 hx;simp at hx;subst hx;simp at e;simp only;omega
  ·rintro⟨A,l2⟩ ⟨r1,F⟩;simp only at r1 F;simp;exact⟨by simp only[InR];omega,d,k -1,A,l2,⟨by omega,by omega,by omega,by omega,F⟩,⟨⟨rfl,rfl⟩, .inl (.inl rfl), .inl (.inl rfl)⟩,by omega⟩
def qpe(n:Nat)(hs:List Int)(rs:List B):Prop:=hs.length=n/\rs.length=n/\∀h∈hs,h<=n
def qfw(c c':Corpus):Prop:=∃hs rs,c'={ c with heads:=hs,rels:=rs } /\hs.length<=c.toks.length/\rs.length<=c.toks.length/\∀h∈hs,h<=c.toks.length
theorem qfM(h1:S bS=s_m_Next):Xn tX tv S qnR qvw El qfw:=by
 intro L b c hc;have hc:c.toks.length<=4096:=hc;simp[tX,tv,h1,qnR];intro _;refine uB (X:=Int×List Int) [0,1,4] [1] [] [27] [] [] (λx=>0<=x.1/\x.1<=c.toks.length/\(x.2.length:Int)=x.1/\∀y∈x.2,0<=y/\y<c.toks.length) (λx=>[(5,enc x.2),(6,enc x.1)]) (λx=>[]) (λx=>c.toks.length -x.1.toNat) (0, []) [] (λ_=>rfl) (by decide) (by decide) ?_ ?_ ?_ ?_
 ·simp
 ·simp
 ·simp
 ·rintro⟨i,l⟩ ⟨W,Y,Z,A⟩;simp only at W Y Z A;simp[h1];refine⟨λhi=>⟨by simp only[InR];omega,by omega,λy hy=>?_⟩,λhi=>?_⟩
  ·have e:List.take y.toNat (List.map enc l) ++D.v (.int .i64 i)::List.drop y.toNat (List.map enc l)=(l.take y.toNat++i::l.drop y.toNat).map enc:=by simp
   refine⟨by omega,by omega,by omega,by omega,by omega,by omega,by omega,by omega,by omega,by omega,λv=>⟨by simp only[InR];omega,i+1,l.take y.toNat++i::l.drop y.toNat,⟨by omega,by omega,?_,λz hz=>?_⟩,⟨?_,rfl⟩,by omega⟩⟩
   ·simp;omega
   ·rcases qGi.1 hz with hz|hz
    ·exact A z (qGq hz)
    ·rcases qGm.1 hz with hz|hz
     ·omega
     ·exact A z (qGO hz)
   ·rw[e];exact fq bC (by simp[qeV])
  ·have hil:l.length=c.toks.length:=by omega
   refine⟨by omega,by omega,λC=>⟨by omega,by omega,λE=>?_⟩⟩;refine bh (X:=Bool×List Int×List B) [1] [1] (λx=>qpe c.toks.length x.2.1 x.2.2) (λx=>[(8, .sub 40 C 1 0 c.toks.length),(9, .sub 42 E 1 0 c.toks.length),(10,enc x.1)]) (λx=>[(40, .row C bC 1 (x.2.1.map enc)),(42, .row E av 1 (x.2.2.map enc))]) ?_ ?_
   ·simp[-eB'];intro _;refine Ke ((qhJ 8 40 C bC 1 _ rfl rfl).trans (qhJ 9 42 E av 1 _ rfl rfl)) ?_;simp only[qtZ];refine ah (X:=Bool×List Int×List B) [0,1,5,8,9,43] [1] l.length (λ_ x=>qpe c.toks.length x.2.1 x.2.2) (λx=>[(10,enc x.1)]) (λx=>[(40, .row C bC 1 (x.2.1.map enc)),(42, .row E av 1 (x.2.2.map enc))]) (false,List.replicate c.toks.length 0,List.replicate c.toks.length ⟨#[]⟩) (by simp[qpe]) ?_ ?_
    ·rintro k ⟨sm,hs,rs⟩ hk ⟨p,j,q⟩;simp only at p j q;obtain⟨x,N⟩:=aR hk;obtain⟨_,O⟩:=qF4.1 N;have hxr:=A x (aP N);simp[hk,N,O,-eB'];refine⟨by omega,by omega,by omega,λa Q=>?_⟩;have U:(List.map enc hs).set x.toNat (D.v (Value.int .i64 (-1)))=(hs.set x.toNat (-1)).map enc:=ki hs _ _;rw[U];have r:(hs.set x.toNat (-1)).length=c.toks.length:=by simp[p]
     have t:∀h∈hs.set x.toNat (-1),h<=c.toks.length:=λh hh=>by
      rcases qHd hh with hh|hh
      ·exact q h hh
      ·omega
     generalize hs.set x.toNat (-1)=d at r t ⊢;clear p q Q U;refine bh (X:=List Int×List B) [0,1,5,8,9,10,12,43,44,45] [1] (λx=>qpe c.toks.length x.1 x.2) (λ_=>[]) (λx=>[(40, .row C bC 1 (x.1.map enc)),(42, .row E av 1 (x.2.map enc))]) ?_ ?_
     ·simp[h1,YU,mP,rN,-eB'];have hlx:∀(y:Int),d.length=c.toks.length->∃z,d[x.toNat]? =some z:=λ_ _=>aR (by omega)
      refine⟨λhk0 y _ _=>⟨λ_=>⟨by omega,λy2 hy2=>⟨by omega,by omega,λa Q y3 F I=>⟨F,I,λs _=>⟨by omega,by omega,by omega,λz _=>⟨by omega,by omega,by omega,λz2 _=>⟨d.set x.toNat a,rs.set x.toNat s,⟨by simp[r],by simp[j],λh hh=>?_⟩, .inl (ki d _ _), .inl (ki rs _ _)⟩⟩⟩⟩⟩⟩,λ_=>⟨d,rs,⟨r,j,t⟩, .inl rfl, .inl rfl⟩⟩,λ_=>⟨d,rs,⟨r,j,t⟩, .inl rfl, .inl rfl⟩⟩;rcases qHd hh with hh|hh
      ·exact t h hh
      ·have:=A a (aP Q);omega
     ·rintro⟨u,w⟩ ⟨J,K,M⟩;simp only at J K M;simp[-eB'];refine⟨λ_=>⟨by omega,by omega,by omega,λa _=>⟨λ_=>⟨by omega,by omega,by omega,λa2 _=>⟨!decide (a2=⟨#[]⟩),u,w,⟨J,K,M⟩,by simp, .inl rfl, .inl rfl⟩⟩,λ_=>⟨true,u,w,⟨J,K,M⟩,by simp, .inl rfl, .inl rfl⟩⟩⟩,λ_=>⟨true,u,w,⟨J,K,M⟩,by simp, .inl rfl, .inl rfl⟩⟩
    ·rintro⟨sm,hs,rs⟩ ⟨p,j,q⟩;simp only at p j q;simp[-eB'];exact⟨sm,hs,rs,⟨p,j,q⟩,rfl, .inl rfl, .inl rfl⟩
   ·rintro⟨sm,hs,rs⟩ ⟨p,j,q⟩;simp only at p j q;simp;refine⟨λ_=>⟨{ c with heads:=hs,rels:=rs },_,rfl,rfl,?_,⟨hs,rs,rfl,by omega,by omega,q⟩⟩,λ_=>⟨{ c with heads:=[],rels:=[] },_,rfl,rfl,?_,⟨[], [],rfl,by simp,by simp,by simp⟩⟩⟩
    ·simp[qvw];exact⟨qvE bC rfl p.symm,qvE av rfl j.symm⟩
    ·simp[qvw]
abbrev s_m_word:Spc:=ax (a1 Int) (λn=>0<=n/\n< 6) (enc (X:=B)) λ_ y=>y∈DW
def qhR:aq Lq Ku S (a1 Int) (λn=>0<=n/\n< 6) (enc (X:=B)) λ_ y=>y∈DW:=by
 rintro n hn;have hn:0<=n/\n< 6:=hn;simp[Lq,Ku];refine⟨hn.1,hn.2,?_⟩;have:n=0\/n=1\/n=2\/n=3\/n=4\/n=5:=by omega
 rcases this with rfl|rfl|rfl|rfl|rfl|rfl<;>simp[DW]
abbrev s_m_tag:Spc:=ax (a1 Int) (λn=>0<=n/\n< 2) (enc (X:=B)) λ_ y=>y∈QM
def qmI:aq Qu OW S (a1 Int) (λn=>0<=n/\n< 2) (enc (X:=B)) λ_ y=>y∈QM:=by
 rintro n hn;have hn:0<=n/\n< 2:=hn;simp[Qu,OW];refine⟨hn.1,hn.2,?_⟩;have:n=0\/n=1:=by omega
 rcases this with rfl|rfl<;>simp[QM]
abbrev s_m_features:Spc:=ax (a1 Int) (λn=>0<=n/\n< 4) (enc (X:=B)) λ_ y=>y∈FsetL
def UC:aq yz xN S (a1 Int) (λn=>0<=n/\n< 4) (enc (X:=B)) λ_ y=>y∈FsetL:=by
 rintro n hn;have hn:0<=n/\n< 4:=hn;simp[yz,xN];refine⟨hn.1,hn.2,?_⟩;have:n=0\/n=1\/n=2\/n=3:=by omega
 rcases this with rfl|rfl|rfl|rfl<;>simp[FsetL]
abbrev s_m_Type:Spc:=ax (a1 Int) bY (enc (X:=B)) su
def qhS(h1:S wZ=s_m_Mod):aq zD zh S (a1 Int) bY (enc (X:=B)) su:=by
 rintro n -;simp[zD,zh,h1];have h3:=PE n 3 (by omega);refine⟨h3.1,h3.2,?_⟩;have:KX n 3=0\/KX n 3=1\/KX n 3=2:=by omega
 rcases this with h|h|h<;>simp[h]
abbrev s_m_Attributes:Spc:=ax a0 bY (enc (X:=List Attr)) (λ_ l=>qp7 l)
def N7:aq tZ tz S a0 bY (enc (X:=List Attr)) (λ_ l=>qp7 l):=by
 rintro x -;simp[tZ,tz];exact aL (Y:=List Attr) [⟨⟨#[119,111,114,100]⟩,false⟩,⟨⟨#[116,97,103]⟩,false⟩,⟨⟨#[102,101,97,116]⟩,true⟩] (by simp) rfl
abbrev s_m_nodes:Spc:=qzV qyb qnR El Xp
abbrev s_m_heads:Spc:=qzV qnR qvw El qfw
def qkC{H:ab}{id el n:Nat}{v:Value}{d a:D}(h:H id=some (.row v el n [d]))(b:FrzTo H d a)(hk:a.kn=true/\a.cells.length=n):FrzTo H (.own id v) (.list n [a]):=by
 refine .row h rfl (λe he=>?_) (λk c c' h1 h2=>?_);grind;grind
def qkh(l:List Int):List D:=l.map enc
def qu1(a b c d e f g h:Int):D.list 1 [.v (.int .i64 a), .v (.int .i64 b), .v (.int .i64 c), .v (.int .i64 d), .v (.int .i64 e), .v (.int .i64 f), .v (.int .i64 g), .v (.int .i64 h)]= .list 1 (qkh [a,b,c,d,e,f,g,h]):=i' rfl
def qkg(l:List Int):(qkh l).length=l.length:=by simp[qkh]
def qoe(l:List Int)(i:Nat)(d:D):((qkh l)[i]? =some d)=∃s,l[i]? =some s/\ .v (.int .i64 s)=d:=by
 simp[qkh]
def qid{l:List (List B)}{r:List B}(h:∀x∈l,Fh x)(a:Fh r):∀x∈l++ [r],Fh x:=λx b=>by
 grind
theorem UE(h1:S bS=s_m_Next)(h2:S vN=s_m_Attributes)(h3:S Qa=s_m_word)(h4:S WI=s_m_tag)(h5:S A3=s_m_features)
 (h6:S sP=s_m_Type) (h7:S pH=s_r06_SortRegions) (h8:S vK=s_m_nodes) (h9:S vL=s_m_heads):
 aq nN nA S (aT (a2 B Int)) (λx=>1<=x.2.2/\x.2.2<=1000) (enc (X:=Corpus)) (λx c=>XC c/\Sl c/\(c.toks.length:Int)<=x.2.2):=by
 rintro⟨L,name,a⟩ hm;have hm:1<=a/\a<=1000:=hm;simp[nN,nA,h1,h2];refineλb6=>⟨by omega,λy hy=>⟨by grind [InR],trivial,λat_ C v26 E=>?_⟩⟩
 have hal:at_.length=3:=by rw[show at_=att3 from C];rfl
 obtain⟨n,F,hn⟩:∃n:Nat,1+y=(n:Int)/\1<=n/\n<=1000:=⟨(1+y).toNat,by omega,by omega⟩
 rw[F];refine lE (X:=uz) [0,6,7,8] [6] [26] [] (λt=>t.b=0/\t.e=n) (λ_=>[]) (λt=>[(8, .box E [enc at_, .v (.slice none 0 0),enc [t], .v (.slice none 0 0), .v (.slice none 0 0), .v (.slice none 0 0), .v (.slice none 0 0)])]) [8] (λ_=>rfl) (by decide) ?_ ?_
 ·simp[h1,YU,mP,rN];refineλz _ _=>⟨λ_ u I J=>⟨I,J,λs _=>⟨⟨name,0,n, [⟨⟨#[121,101,97,114]⟩,s⟩]⟩,⟨rfl,rfl⟩, .inl (qkC (el:=DY) (by rfl) (.same _) ⟨rfl,rfl⟩)⟩⟩,λ_=>⟨⟨name,0,n, []⟩,⟨rfl,rfl⟩, .inl (qkC (el:=DY) (by rfl) ?_ ⟨rfl,rfl⟩)⟩⟩
  simp[dJ]
 ·rintro t ⟨K,ht2⟩;refine lE (X:=List (List B)) [0,6,7,8] [6] [66] [] (λl=>l.length=n/\∀r∈l,Fh r) (λ_=>[]) (λl=>[(8, .box E [enc at_,enc l,enc [t], .v (.slice none 0 0), .v (.slice none 0 0), .v (.slice none 0 0), .v (.slice none 0 0)])]) [8] (λ_=>rfl) (by decide) ?_ ?_
  ·simp[h1];refine uB (X:=Int×Value×List (List B)) [0,6,7,8] [6] [] [] [] [] (λx=>0<=x.1/\x.1<=n/\(x.2.2.length:Int)=x.1/\∀r∈x.2.2,Fh r) (λx=>[(9,enc x.1)]) (λx=>[(8, .box E [enc at_, .own 66 x.2.1,enc [t], .v (.slice none 0 0), .v (.slice none 0 0), .v (.slice none 0 0), .v (.slice none 0 0)]),(66, .row x.2.1 wK 1 (x.2.2.map enc))]) (λx=>n -x.1.toNat) (0, .slice none 0 0, []) [8,66] (λ_=>rfl) (by decide) (by decide) ?_ ?_ ?_ ?_
   ·simp
   ·simp
   ·simp[isNilRow];exact .nilown 66
   ·rintro⟨i,v,l⟩ ⟨M,N,A,O⟩;simp only at M N A O;simp[h1,h3,h4,h5,qu1,qkg,qoe];refine⟨λhi y d hy1=>?_,λhi=>⟨l,⟨by omega,O⟩, .inl (fq wK (by simp[qeV]))⟩⟩;have a1:y.tmod 8=y % 8:=Int.tmod_eq_emod_of_nonneg d;have a2:y.tdiv 8=y/8:=Int.tdiv_eq_ediv_of_nonneg d;have a3:(y/8).tmod 2=(y/8) % 2:=Int.tmod_eq_emod_of_nonneg (by omega);have a4:y.tdiv 12=y/12:=Int.tdiv_eq_ediv_of_nonneg d;rw[a1,a2,a3,a4];refine⟨by omega,by omega,λs hs=>⟨?_,λw1 Q=>⟨by simp only[InR];omega,by omega,λw2 U=>⟨by simp only[InR];omega,by omega,λw3 W=>⟨by omega,by omega,λY=>⟨by simp only[InR];omega,i+1,Y,l++ [[w1,w2,w3]],⟨by omega,by omega,by simp;omega,qid O ⟨w1,w2,w3,Q,U,W,rfl⟩⟩,⟨rfl, .inl (.inl rfl), .inl (.inl (by simp))⟩,by omega⟩⟩⟩⟩⟩⟩;have:=qF7 hs;simp at this;omega
  ·rintro toks ⟨htk,Z⟩;refine lE (X:=List Region) [0,6,7,8] [6,8] [165] [] (λl=>l.length<=8/\∀r∈l,0<=r.b/\r.b<=n/\0<=r.e/\r.e<=n) (λl=>[(11,enc l)]) (λ_=>[]) [] (λ_=>rfl) (by decide) ?_ ?_
   ·simp[h1];intro k hk0 hk1;refine uB (X:=Int×Value×List Region) [0,6,7,8] [6,8] [] [] [] [] (λx=>0<=x.1/\x.1+x.2.2.length<=4/\∀r∈x.2.2,0<=r.b/\r.b<=n/\0<=r.e/\r.e<=n) (λx=>[(11, .own 165 x.2.1),(12,enc x.1)]) (λx=>[(165, .row x.2.1 nT 4 (x.2.2.map enc))]) (λx=>x.1.toNat) (k, .slice none 0 0, []) [165] (λ_=>rfl) (by decide) (by decide) ?_ ?_ ?_ ?_
    ·simp;omega
    ·simp;exact .nilown 165
    ·simp[isNilRow]
    ·rintro⟨k,v,l⟩ ⟨M,N,A⟩;simp only at M N A;simp[h1,h6];refine⟨λhk=>⟨by omega,λu hu z _ _=>⟨trivial,λty=>⟨by simp only[InR];omega,by simp only[InR];omega,by omega,λw hw=>⟨by simp only[InR];omega,λb14=>?_⟩⟩⟩⟩,λhk=>⟨l,⟨by omega,A⟩,fq nT (by simp[qeV])⟩⟩;have hr:0<=u/\u<=n/\0<=u+1+w/\u+1+w<=n:=by omega
     generalize u+1+w=e' at*;refine lE (X:=List Pair) [0,6,7,8,11,12,14] [6,8,165] [] [] (λ_=>True) (λ_=>[]) (λkv=>[(14, .box b14 [.v (.string ty), .v (.int .i64 u), .v (.int .i64 e'),enc kv])]) [14] (λ_=>rfl) (by decide) ?_ ?_
     ·simp[h1,Sz,mP,rN];exactλ_ _ _ _ q hq0 hq1=>⟨hq0,hq1,λs _=>⟨[⟨⟨#[110]⟩,s⟩], .inl (.inl rfl)⟩⟩
     ·rintro kv -;simp only[qry,qn6];simp;refine bh (X:=Bool) [0,6,7,8,11,12,14] [6,8,14,165] (λ_=>True) (λx=>[(15,enc x)]) (λ_=>[]) ?_ ?_
      ·simp[-eB'];intro _;refine ah (X:=Bool) [0,6,7,8,11,12,14,101] [6,8,14,165] l.length (λ_ _=>True) (λx=>[(15,enc x)]) (λ_=>[]) false trivial ?_ ?_
       ·rintro j cr hj -;obtain⟨x,hx⟩:=aR hj;obtain⟨_,hgx⟩:=qF4.1 hx;simp[hj,hx,hgx,-eB'];exactλ_ _ _ _=>⟨λ_ _ _=>⟨_,(Bool.not_not _).symm⟩,λ_ _=>⟨_,(Bool.not_not _).symm⟩⟩
       ·rintro cr -;simp[-eB']
      ·rintro cr -;simp[-eB'];refine⟨λ_=>⟨by omega,by omega,λY=>⟨by simp only[InR];omega,k -1,Y,l++ [⟨ty,u,e',kv⟩],⟨by omega,by simp;omega,λr hrr=>?_⟩,⟨⟨.same _,rfl⟩, .inl (.inl (by simp))⟩,by omega⟩⟩,λ_=>⟨by simp only[InR];omega,k -1,v,l,⟨by omega,by omega,A⟩,⟨⟨.same _,rfl⟩, .inl (.inl rfl)⟩,by omega⟩⟩;rcases qGi.1 hrr with hrr|hrr
       ·exact A r hrr
       ·simp at hrr;subst hrr;exact hr
   ·rintro rg ⟨hr1,hr2⟩;simp[h7,h8];refine⟨by simp only[qdJ];omega,λrs ⟨hs1,hs2⟩=>⟨⟨at_,toks, [t],rs, [], [], []⟩,by simp[qyb],by simp only[El];omega,λc hc=>?_⟩⟩;obtain⟨ns,rfl,hns,p⟩:=hc;simp only at p;simp[qnR];refine lE (X:=List Int×List B) [6,8] [6] [] [] (λx=>x.1.length<=n/\x.2.length<=n/\∀h∈x.1,h<=n) (λ_=>[]) (λx=>[(8, .box E [enc at_,enc toks,enc [t],enc rs,enc ns,enc x.1,enc x.2])]) [8] (λ_=>rfl) (by decide) ?_ ?_
    ·simp[h1,h9];refineλz _ _=>⟨λ_=>⟨⟨at_,toks, [t],rs,ns, [], []⟩,by simp[qnR],by simp only[El];omega,λc hc=>?_⟩,λ_=>⟨[], [],⟨by simp,by simp,by simp⟩, .inl ⟨rfl,rfl⟩⟩⟩
     obtain⟨hs,rl,rfl,g1,g2,g3⟩:=hc;simp only at g1 g2 g3;simp[qvw];exact⟨hs,rl,⟨by omega,by omega,λh hh=>by have:=g3 h hh;omega⟩, .inl (.inl ⟨rfl,rfl⟩)⟩
    ·rintro⟨hs,rl⟩ ⟨p1,p2,p3⟩;simp only at p1 p2 p3;simp;refine aL ⟨at_,toks, [t],rs,ns,hs,rl⟩ (.same _) ⟨?_,⟨C,Z⟩,by show(toks.length:Int)<=a;omega⟩;refine⟨⟨K,by omega,by show t.e=(toks.length:Int);omega⟩,by simp,by simp only;omega,by simp,by simp only;omega,by simp only;omega,by simp only;omega,by simp only;omega,by simp only;omega,λr hr=>?_,λm hm=>?_,p.2,λh hh=>?_⟩
     ·have:=hr2 r (hs2 r hr);simp only;omega
     ·have:=p.1 m hm;simp only;omega
     ·have:=p3 h hh;simp only;omega
end
section
open Go.Proofs
variable {dq:Prop}
def UY:Tri dq Tryz.prog wZ s_m_Mod.pt:=
 ac (ag ae) qjG (qmK)
def cX:Tri dq Tryz.prog bS s_m_Next.pt:=qia (S:=Kj [(wZ,s_m_Mod)]) (ag (aa UY ae)) rfl Ps (by decide)
def qnf:Tri dq Tryz.prog WJ s_m_New.pt:=qna (qcb (ag ae) qjF (by decide) qmJ)
def LN:Tri dq Tryz.prog iC s_r04_First.pt:=
 ac (ag ae) Iu (Yh)
def qck:Tri dq Tryz.prog rc s_r04_Next.pt:=
 ac (ag (aa LN ae)) L4 (qbS rfl)
def fX:Tri dq Tryz.prog aK s_r04_ValidName.pt:=
 ac (ag (aa LN (aa qck ae))) zt (Ms rfl rfl)
def YR:Tri dq Tryz.prog sM s_r01_Units.pt:=
 ac (ag ae) VV (Yj)
def YQ:Tri dq Tryz.prog sL s_r01_Valid.pt:=
 ac (ag (aa YR ae)) VU (Yi rfl)
def qt:Tri dq Tryz.prog bQ s_r04_ValidValue.pt:=
 ac (ag (aa YQ ae)) It (JZ rfl)
def YP:Tri dq Tryz.prog Dr s_r05_Parse.pt:=
 ac (ag (aa qt ae)) VT (Yf rfl)
def qci:Tri dq Tryz.prog GO s_r06_sign.pt:=
 ac (ag ae) ZU (qbQ)
def RA:Tri dq Tryz.prog yc s_r06_compare.pt:=
 ac (ag ae) Pi (Rc)
def sv:Tri dq Tryz.prog gw s_r06_CompareRegions.pt:=
 ac (ag (aa qci (aa RA ae))) B2 (Cn rfl rfl)
def Kk:Tri dq Tryz.prog rb s_r06_Attributes.pt:=
 ac (ag (aa fX ae)) Is (JY rfl)
def YM:Tri dq Tryz.prog Do s_r06_Value.pt:=
 ac (ag (aa YP (aa qt ae))) VP (Yc rfl rfl)
def LM:Tri dq Tryz.prog wY s_r06_pairs.pt:=
 ac (ag (aa fX (aa qt ae))) VN (Ya rfl rfl)
def HS:Tri dq Tryz.prog uw s_r06_within.pt:=
 ac (ag ae) RL (Uq)
def qcj:Tri dq Tryz.prog GP s_r06_bare.pt:=
 ac (ag ae) ZV (qbR)
def UV:Tri dq Tryz.prog A0 s_r06_TextAt.pt:=
 ac (ag ae) RO (Ut)
def Ov:Tri dq Tryz.prog vI s_r06_FindText.pt:=
 ac (ag ae) MX (NZ)
def CA:Tri dq Tryz.prog kZ s_r06_sameAttributes.pt:=
 ac (ag ae) B1 (Cm)
def UU:Tri dq Tryz.prog AZ s_r06_cyclic.pt:=
 ac (ag ae) RN (Us)
def UT:Tri dq Tryz.prog AY s_r06_tokens.pt:=
 ac (ag (aa YM ae)) RM (Ur rfl)
def YK:Tri dq Tryz.prog Dm s_r06_texts.pt:=
 ac (ag (aa fX (aa LM ae))) VM (XZ rfl rfl)
def Rz:Tri dq Tryz.prog yb s_r06_regions.pt:=
 ac (ag (aa fX (aa LM (aa HS (aa sv ae))))) Ph (Rb rfl rfl rfl rfl)
def YO:Tri dq Tryz.prog Dq s_r06_Nodes.pt:=
 ac (ag (aa fX (aa HS ae))) VS (Ye rfl rfl)
def YL:Tri dq Tryz.prog Dn s_r06_heads.pt:=
 ac (ag (aa fX (aa qcj (aa UV (aa UU ae))))) VO (Yb rfl rfl rfl rfl)
def Ou:Tri dq Tryz.prog vH s_r06_Validate.pt:=
 ac (ag (aa Kk (aa UT (aa YK (aa Rz (aa YO (aa YL ae))))))) MW (NY rfl rfl rfl rfl rfl rfl)
def YN:Tri dq Tryz.prog Dp s_r06_Valid.pt:=
 ac (ag (aa Ou ae)) VR (Yd rfl)
def HT:Tri dq Tryz.prog pH s_r06_SortRegions.pt:=
 ac (ag (aa sv ae)) F6 (Hp rfl)
def Ot:Tri dq Tryz.prog vG s_r06_allHeads.pt:=
 ac (ag ae) MV (NX)
def UW:Tri dq Tryz.prog A1 s_r06_Concat.pt:=
 ac (ag (aa YN (aa CA (aa Ov (aa Ot ae))))) RP (Uu rfl rfl rfl rfl)
def qij:Tri dq Tryz.prog Qa s_m_word.pt:=
 ac (ag ae) qgq (qhR)
def qne:Tri dq Tryz.prog WI s_m_tag.pt:=
 ac (ag ae) qjE (qmI)
def UX:Tri dq Tryz.prog A3 s_m_features.pt:=
 ac (ag ae) RW (UC)
def qik:Tri dq Tryz.prog sP s_m_Type.pt:=
 ac (ag (aa UY ae)) Tf (qhS rfl)
def Oy:Tri dq Tryz.prog vN s_m_Attributes.pt:=
 ac (ag ae) M6 (N7)
def Ow:Tri dq Tryz.prog vK s_m_nodes.pt:=
 LJ (ag (aa cX ae)) M2 (by decide) (qfL rfl)
def Ox:Tri dq Tryz.prog vL s_m_heads.pt:=
 LJ (ag (aa cX ae)) M4 (by decide) (qfM rfl)
def HU:Tri dq Tryz.prog pN s_m_Document.pt:=
 ac (ag (aa cX (aa Oy (aa qij (aa qne (aa UX (aa qik (aa HT (aa Ow (aa Ox ae)))))))))) F9 (UE rfl rfl rfl rfl rfl rfl rfl rfl rfl)
def MO:Tri dq Tryz.prog tG s_m_Corpus.pt:=
 ac (ag (aa cX (aa HU (aa UW ae)))) KQ (qbW rfl rfl rfl)
end
section
open Cod (enc dec)
variable {S S0:Nat->Spc}
def lI(c:Int):B:=⟨#[c.toNat.toUInt8]⟩
abbrev s_cpFold1:Spc:=ax (a1 B) (λs=>∃c:Int,0<=c/\c< 128/\s=lI c) (enc (X:=B)) λs y=>∀c:Int,0<=c->c< 128->s=lI c->y=lI (low c)
def WO{c:Int}(h0:0<=c)(h1:c< 128):Utf8.encode c=lI c:=by
 unfold Utf8.encode lI;have e:c.toNat< 128:=by omega
 have h:Utf8.valid c=true:=by
  unfold Utf8.valid;have:c< 55296:=by omega
  simp[h0,this]
 simp[e,h]
def Wl{c:Int}(h0:0<=c)(h1:c< 128):0<=low c/\low c< 128:=by unfold low;split<;>omega
def qeF{c d:Int}(hc:0<=c)(a:c< 128)(k:0<=d)(j:d< 128)(h:lI c=lI d):c=d:=by
 have:c.toNat.toUInt8=d.toNat.toUInt8:=by
  have:=congrArg (λb:B=>b.data.toList.head?) h;simpa [lI]using this
 have:=congrArg UInt8.toNat this;have l:c.toNat.toUInt8.toNat=c.toNat % 256:=qHx ..;have p:d.toNat.toUInt8.toNat=d.toNat % 256:=qHx ..;omega
def qrb{c d:Int}(hc:0<=c)(a:c< 128)(j:0<=d)(b:d< 128):(lI c=lI d)=(c=d):=propext ⟨qeF hc a j b,λh=>by rw[h]⟩
theorem qbH(h1:S ri=s_cpFold1):aq pW ov S (a1 I32) (λc=>0<=c.val/\c.val< 128) (enc (X:=List I32)) λc y=>y=qb0 true c:=by
 rintro⟨c⟩ ⟨q,c1⟩;have q:0<=c:=q;have c1:c< 128:=c1;obtain⟨I,J⟩:=Wl q c1;have L:∃d:Int,0<=d/\d< 128/\lI c=lI d:=⟨c,q,c1,rfl⟩
 simp[pW,ov,h1,WO q c1,L,-fB',-eB'];intro y w b;obtain rfl:=w c q c1 rfl;clear w;obtain⟨r,K⟩:∃r,r=low c:=⟨_,rfl⟩
 rw[<-K]at I J ⊢;have j:(lI r).size=1:=rfl;have s:Utf8.decode (lI r) 0=(r.toNat,1):=by
  have h0:0<(lI r).size:=by rw[j];omega
  have W:((lI r)[0]'h0).toNat=r.toNat % 256:=qHx ..;have M:((lI r)[0]'h0).toNat=r.toNat:=by omega
  rw[Go.decode_ascii (lI r) 0 h0 (by omega),M]
 refine aA (X:=Nat×Value×List I32) [4,13] [] (λz=>z.1=0/\z.2.1= .slice none 0 0/\z.2.2=[]\/z.1=1/\z.2.2=P0 ⟨c⟩) (λz=>[(3, .own 40 z.2.1)]) (λz=>[(13, .iter b (lI r) z.1),(40, .row z.2.1 Ol 1 (z.2.2.map enc))]) (λz=>1 -z.1) (0, .slice none 0 0, []) (.inl ⟨rfl,rfl,rfl⟩) ?_ (hh:=by simp[isNilRow]);rintro⟨pos,v,l⟩ hz;simp only at hz;rcases hz with⟨rfl,rfl,rfl⟩|⟨rfl,rfl⟩
 ·have x:((r.toNat:Nat):Int)=r:=by omega
  have N:InR .i32 (r -32):=by simp only[InR];omega
  have O:InR .i32 (r -80):=by simp only[InR];omega
  simp[j,s,x,N,O,-fB',-eB'];have A:∀l:List I32,l=([⟨r⟩,⟨r -32⟩,⟨r -80⟩]:List I32).filter (λv=>decide (0<=v.val/\low v.val=r))->l=P0 ⟨c⟩:=λl hl=>by
   rw[hl,P0];simp only[<-K]
  refine ah (X:=Value×List I32) [4,13,22] [13] 3 (λk z=>z.2=(([⟨r⟩,⟨r -32⟩,⟨r -80⟩]:List I32).take k).filter (λv=>decide (0<=v.val/\low v.val=r))/\z.2.length<=k) (λz=>[(3, .own 40 z.1)]) (λz=>[(40, .row z.1 Ol 1 (z.2.map enc))]) (.slice none 0 0, []) ⟨rfl,by simp⟩ ?_ ?_ (hh:=by simp[isNilRow])
  ·rintro k ⟨v,l⟩ hk ⟨hl,hlen⟩;simp only at hl hlen;obtain⟨e,he,C⟩:∃e:Int,e< 128/\([⟨r⟩,⟨r -32⟩,⟨r -80⟩]:List I32)[k]? =some ⟨e⟩/\([.v (.int .i32 r), .v (.int .i32 (r -32)), .v (.int .i32 (r -80))]:List D)[k]? =some (.v (.int .i32 e)):=by
    rcases(by omega:k=0\/k=1\/k=2)with rfl|rfl|rfl
    ·exact⟨r,by omega,rfl,rfl⟩
    ·exact⟨r -32,by omega,rfl,rfl⟩
    ·exact⟨r -80,by omega,rfl,rfl⟩
   obtain⟨E,p⟩:=C;have t:∀h,([.v (.int .i32 r), .v (.int .i32 (r -32)), .v (.int .i32 (r -80))]:List D)[k]'h= .v (.int .i32 e):=λh=>by
    obtain⟨_,h2⟩:=qF4.1 p;exact h2
   have u:(k:Int)< 3:=by omega
   have a:(([⟨r⟩,⟨r -32⟩,⟨r -80⟩]:List I32).take (k+1)).filter (λv=>decide (0<=v.val/\low v.val=r))=l++ ([⟨e⟩]:List I32).filter (λv=>decide (0<=v.val/\low v.val=r)):=by
    rw[qG7,E,qHw,<-hl];rfl
   by_cases h0:0<=e
   ·obtain⟨Q,U⟩:=Wl h0 he;have F:∃d:Int,0<=d/\d< 128/\lI e=lI d:=⟨e,h0,he,rfl⟩
    simp[hk,u,p,t,h0,h1,WO h0 he,F,-fB',-eB'];intro y w;obtain rfl:=w e h0 he rfl;rw[qrb Q U I J];refine⟨λhh=>⟨by omega,by omega,λv=>⟨v,l++ [⟨e⟩],⟨?_,by simp;omega⟩,rfl, .inl ⟨rfl,by simp⟩⟩⟩,λhh=>⟨v,l,⟨?_,by omega⟩,rfl, .inl ⟨rfl,rfl⟩⟩⟩
    ·simpa [h0,hh]using a.symm
    ·simpa [h0,hh]using a.symm
   ·simp[hk,u,p,t,h0,-fB',-eB'];refine⟨v,l,⟨?_,by omega⟩,rfl, .inl ⟨rfl,rfl⟩⟩;simpa [h0]using a.symm
  ·rintro⟨v,l⟩ ⟨hl,hlen⟩;simp only at hl hlen;have hl:=A l hl;simp[-fB',-eB'];exact⟨1,v,l, .inr ⟨rfl,hl⟩,⟨rfl, .inl rfl, .inl ⟨rfl,rfl⟩⟩,rfl⟩
 ·simp[j,-fB',-eB'];exact aL (P0 ⟨c⟩) (fq (l:=P0 ⟨c⟩) Ol rfl) rfl
end
section
open Go.Proofs
def qg:CC:=oX [oB 2 (.mv (.const ob))] [0] [] (oX [oA 3 0,oB 4 (.cmp .geq (oT 3) (.const (.int .u8 65))),oA 5 4,oH 6 5 (.mv (oT 0)),oH 7 5 (.cmp .leq (oT 6) (.const (.int .u8 90))),oB 8 (.pick (oT 5) (oT 7) (.const ob)),oA 9 8,oI 10 9 (.mv (oT 0)),oI 11 9 (.cmp .geq (oT 10) (.const (.int .u8 97))),oI 12 9 (.mv (oT 11)),oH 13 12 (.mv (oT 0)),
 oH 14 12 (.cmp .leq (oT 13) (.const (.int .u8 122))),oI 15 9 (.pick (oT 12) (oT 14) (.const ob)),oB 16 (.pick (oT 9) (.const (.bool true)) (oT 15)),oA 17 16,oI 18 17 (.mv (oT 0)),oI 19 17 (.eql false false [.int] (oT 18) (.const (.int .u8 95))),oB 20 (.pick (oT 17) (.const (.bool true)) (oT 19)),oA 2 20] [2] [] (.ret))
def oR:List ai:=[.tmp 2]
def qf:CC:=oX [oB 2 (.mv (.const ob))] [0] [] (oX [oA 3 0,oZ 4 ct [oT 3],oA 5 4,oI 6 5 (.mv (oT 0)),oI 7 5 (.cmp .geq (oT 6) (.const (.int .u8 48))),oI 8 5 (.mv (oT 7)),oH 9 8 (.mv (oT 0)),oH 10 8 (.cmp .leq (oT 9) (.const (.int .u8 57))),oI 11 5 (.pick (oT 8) (oT 10) (.const ob)),oB 12 (.pick (oT 5) (.const (.bool true)) (oT 11)),oA 13 12,
 oI 14 13 (.mv (oT 0)),oI 15 13 (.eql false false [.int] (oT 14) (.const (.int .u8 45))),oB 16 (.pick (oT 13) (.const (.bool true)) (oT 15)),oA 2 16] [2] [] (.ret))
def oQ:List ai:=[.tmp 2]
def lq:CC:=oX [oB 2 (.mv (.const ob))] [0] [] (.seq (oX [oA 4 0,oB 5 (.slen (oT 4)),oB 6 (.cmp .lss (oT 5) (oN 1)),oA 7 6,oI 8 7 (.mv (oT 0)),oI 9 7 (.slen (oT 8)),oI 10 7 (.cmp .gtr (oT 9) (oN 32)),oB 11 (.pick (oT 7) (.const (.bool true)) (oT 10)),oA 12 11,oI 13 12 (.mv (oT 0)),oI 14 12 (.sidx (oT 13) (oN 0)),oI 15 12 (.call ct [oT 14]),
 oI 16 12 (.not (oT 15)),oB 17 (.pick (oT 12) (.const (.bool true)) (oT 16))] [0,17] [] (.ite (oT 17) (oX [oB 2 (.mv (.const ob))] [2] [] (.ret)) (.skip))) (.keep [0] [] (.seq (oX [oA 18 0,oB 19 (.slen (oT 18)),oB 20 (.mv (oN 0))] [0,19,20] [] (wN 0 20 19 21 1 (oX [oA 22 20,oA 3 22] [0,3,19,20] [] (oX [oA 23 0,oA 24 3,oB 25 (.sidx (oT 23) (oT 24)),oZ 26 fb [oT 25],
 oB 27 (.not (oT 26))] [0,19,20,27] [] (.ite (oT 27) (oX [oB 2 (.mv (.const ob))] [2] [] (.ret)) (.skip)))) 28)) (.keep [] [] (oX [oB 2 (.mv (.const (.bool true)))] [2] [] (.ret))))))
def kM:List ai:=[.tmp 2]
def lp:CC:=gq Tryz.f197 [] {} _
def kL:List ai:=[.tmp 2]
def C0:FO cL [] lp kL 24:=fo
def mH:CC:=gq Tryz.f212 [] {} _
def mi:List ai:=[.tmp 4]
def EC:FO nG [] mH mi 17:=fo
def wt:CC:=gq Tryz.f152 [] {} _
def vr:List ai:=[.tmp 4]
def Pw:FO yf [] wt vr 19:=fo
def cE:CC:=gq Tryz.f211 [] {} _
def cz:List ai:=[.tmp 2, .tmp 3]
def KR:FO tH [] cE cz 71:=fo
open Cod (enc dec)
variable {S S0:Nat->Spc}
def Xh(c:Int):Bool:=(decide (65<=c) && decide (c<=90))||(decide (97<=c) && decide (c<=122))||decide (c=95)
def qtp(c:Int):Bool:=Xh c||(decide (48<=c) && decide (c<=57))||decide (c=45)
abbrev qi3:Spc:=ax (a1 U8) (λ_=>True) (enc (X:=Bool)) λc y=>y=Xh c.val
def J3:aq qg oR S (a1 U8) (λ_=>True) (enc (X:=Bool)) λc y=>y=Xh c.val:=by
 rintro⟨c⟩ -;by_cases h1:(65:Int)<=c<;>by_cases h2:c<=90<;>by_cases h3:(97:Int)<=c<;>by_cases h4:c<=122<;>by_cases h5:c=95<;>
  simp[qg,oR,Xh,h1,h2,h3,h4,h5,-fB',-eB']
abbrev SN:Spc:=ax (a1 U8) (λ_=>True) (enc (X:=Bool)) λc y=>y=qtp c.val
def J2(h0:S ct=qi3):aq qf oQ S (a1 U8) (λ_=>True) (enc (X:=Bool)) λc y=>y=qtp c.val:=by
 rintro⟨c⟩ -;cases hb:Xh c<;>by_cases h1:(48:Int)<=c<;>by_cases h2:c<=57<;>by_cases h3:c=45<;>
  simp[qf,oQ,qtp,h0,hb,h1,h2,h3,-fB',-eB']
def qlI(c:UInt8):qfq c=Xh (c.toNat:Int):=by
 unfold qfq Xh;rw[qGD];simp;omega
def qvz(c:UInt8):qCb c=qtp (c.toNat:Int):=by
 unfold qCb qtp;rw[qlI];cases Xh (c.toNat:Int)
 ·rw[qGD];simp;omega
 ·simp
theorem Ev(h1:S ct=qi3)(h2:S fb=SN):aq lq kM S (a1 B) (λs=>KU s=true) (enc (X:=Bool)) λ_ y=>y=true:=by
 rintro s hs;have hs:KU s=true:=hs;unfold KU at hs;simp only[qF9,decide_eq_true_eq]at hs;obtain⟨⟨⟨w,x⟩,j⟩,q⟩:=hs;simp[lq,kM,h1,h2,-fB',-eB'];have r:(1:Int)<=(s.size:Int):=by omega
 have t:(s.size:Int)<=32:=by omega
 have A:(s.size:Int)<=9223372036854775807:=by omega
 have hsl:s.data.toList.length=s.size:=qGV;refineλ_=>⟨λ_ _=>⟨λ_=>⟨by omega,λc hc=>?_⟩,t⟩,r⟩
 have a:s.data.toList[0]? =some c:=by rw[qGx];exact hc
 have hb:Xh (c.toNat:Int)=true:=by
  rw[<-qlI];cases hl:s.data.toList with
  |nil=>rw[hl]at a;cases a
  | cons d l=>
    rw[hl]at a j;cases a;exact j
 refine⟨hb,λ_ _=>?_⟩;refine ah (X:=Unit) [0] [] s.size (λ_ _=>True) (λ_=>[]) (λ_=>[]) () trivial ?_ ?_
 ·rintro k -hk -;obtain⟨d,p⟩:=aM (show k<s.data.toList.length by omega);have u:qtp (d.toNat:Int)=true:=by rw[<-qvz];exact qGa.1 q d (qF7 p)
  have b:s.data[k]? =some d:=by rw[<-qGx];exact p
  obtain⟨_,h⟩:=qGg.1 b;simp[hk,b,h,u,h2,-fB',-eB']
 ·rintro - -;simp[-fB',-eB']
theorem Eu(h1:S pV=s_cpVal):aq lp kL S (a1 B) (λs=>Db s=true) (enc (X:=Int)) λ_ y=>y=0:=by
 rintro s hs;have hs:Db s=true:=hs;unfold Db at hs;simp only[qF9,decide_eq_true_eq]at hs;obtain⟨C,l⟩:=hs;have q:yC s=true:=by
  unfold yC;refine qGa.2 λc hc=>?_
  have:=qGa.1 l c hc;simp at this;simp;omega
 have r:(s.size:Int)<=120:=by omega
 have t:(s.size:Int)<=9223372036854775807:=by omega
 have u:s.size<=1000:=by omega
 have w:¬(120:Int)<(s.size:Int):=by omega
 simp[lp,kL,h1,q,r,t,u,w,-fB',-eB'];intro b;refine aA (X:=Nat) [] [] (λp=>p<=s.size) (λp=>[(14, .bptr 14 b 0)]) (λp=>[(14, .iter b s p)]) (λp=>s.size -p) 0 (qGr _) ?_;rintro p hp;by_cases a:p<s.size
 ·obtain⟨c,hc,h,d⟩:=TT q a;have j:=qGa.1 l c (qF7 hc);simp at j;have x:¬(c.toNat:Int)<=31:=by omega
  have A:¬(c.toNat:Int)=127:=by omega
  simp[a,d,x,A,-fB',-eB'];exact⟨p+1,by omega, .inl rfl,by omega⟩
 ·have k:p=s.size:=by omega
  subst k;simp[-fB',-eB']
def qe3(s:B):List B:=if s=⟨#[124,112,124]⟩then[⟨#[112]⟩]else if s=⟨#[124,112,124,113,124]⟩then[⟨#[112]⟩,⟨#[113]⟩]else if s=⟨#[124,113,124]⟩then[⟨#[113]⟩]else[]
abbrev Zk:Spc:=ax (a1 B) (λs=>s∈featS) (iA (Y:=List B) (Z:=Int)) λs y=>y=(qe3 s,0)
set_option maxHeartbeats 1000000 in
theorem Ym(h1:S cL=Kp):vc S cE (wC cz λr H'=>Fin (iA (Y:=List B) (Z:=Int)) (λy=>y=([⟨#[112]⟩],0)) r H') (dI ((a1 B).view (⟨#[124,112,124]⟩:B))) dm:=by
 have hv:Db ⟨#[124,112,124]⟩=true:=by decide
 have hsz:(⟨#[124,112,124]⟩:B).size=3:=rfl;have x1:((⟨#[124,112,124]⟩:B).extract 1 2)=⟨#[112]⟩:=by decide
 simp[cE,cz,h1,hv,hsz,-fB',-eB'];refine⟨by simp[InR],?_⟩;refine aA (X:=Int×Int×Value×List B) [0] [] (λz=>z.1=1/\z.2.1=1/\z.2.2.2=([]:List B)\/z.1=1/\z.2.1=2/\z.2.2.2=([]:List B)\/z.1=3/\z.2.1=3/\z.2.2.2=([⟨#[112]⟩]:List B)) (λz=>[(5, .own 51 z.2.2.1),(6,enc z.1),(7,enc z.2.1)]) (λz=>[(51, .row z.2.2.1 av 1 (z.2.2.2.map enc))]) (λz=>(3 -z.2.1).toNat) (1,1, .slice none 0 0, []) (by simp) ?_ (hh:=by simp[isNilRow]);rintro⟨f,i,v,l⟩ hz;simp only at hz;rcases hz with⟨rfl,rfl,rfl⟩|⟨rfl,rfl,rfl⟩|⟨rfl,rfl,rfl⟩
 ·simp[hsz,x1,-fB',-eB'];exact⟨by simp[InR],1,2,v, [],by simp,⟨⟨rfl,rfl,rfl⟩, .inl ⟨rfl,rfl⟩⟩,by omega⟩
 ·simp[hsz,x1,-fB',-eB'];exactλv=>⟨by simp[InR],3,3,v, [⟨#[112]⟩],by simp,⟨⟨rfl,rfl,rfl⟩, .inl ⟨rfl,rfl⟩⟩,by omega⟩
 ·simp[hsz,-fB',-eB'];refine aA (X:=Int) [5] [51] (λi=>i=1) (λi=>[(8,enc i)]) (λ_=>[]) (λi=>(3 -i).toNat) 1 (by simp) ?_;rintro i hi;subst hi;simp[-fB',-eB'];exact fq (l:=([⟨#[112]⟩]:List B)) av rfl
set_option maxHeartbeats 1000000 in
theorem Rr(h1:S cL=Kp):vc S cE (wC cz λr H'=>Fin (iA (Y:=List B) (Z:=Int)) (λy=>y=([⟨#[112]⟩,⟨#[113]⟩],0)) r H') (dI ((a1 B).view (⟨#[124,112,124,113,124]⟩:B))) dm:=by
 have hv:Db ⟨#[124,112,124,113,124]⟩=true:=by decide
 have hsz:(⟨#[124,112,124,113,124]⟩:B).size=5:=rfl;have x1:((⟨#[124,112,124,113,124]⟩:B).extract 1 2)=⟨#[112]⟩:=by decide
 have x3:((⟨#[124,112,124,113,124]⟩:B).extract 3 4)=⟨#[113]⟩:=by decide
 simp[cE,cz,h1,hv,hsz,-fB',-eB'];refine⟨by simp[InR],?_⟩;refine aA (X:=Int×Int×Value×List B) [0] [] (λz=>z.1=1/\z.2.1=1/\z.2.2.2=([]:List B)\/z.1=1/\z.2.1=2/\z.2.2.2=([]:List B)\/z.1=3/\z.2.1=3/\z.2.2.2=([⟨#[112]⟩]:List B)\/z.1=3/\z.2.1=4/\z.2.2.2=([⟨#[112]⟩]:List B)\/z.1=5/\z.2.1=5/\z.2.2.2=([⟨#[112]⟩,⟨#[113]⟩]:List B)) (λz=>[(5, .own 51 z.2.2.1),(6,enc z.1),(7,enc z.2.1)]) (λz=>[(51, .row z.2.2.1 av 1 (z.2.2.2.map enc))]) (λz=>(5 -z.2.1).toNat) (1,1, .slice none 0 0, []) (by simp) ?_ (hh:=by simp[isNilRow]);rintro⟨f,i,v,l⟩ hz;simp only at hz;rcases hz with⟨rfl,rfl,rfl⟩|⟨rfl,rfl,rfl⟩|⟨rfl,rfl,rfl⟩|⟨rfl,rfl,rfl⟩|⟨rfl,rfl,rfl⟩
 ·simp[hsz,x1,x3,-fB',-eB'];exact⟨by simp[InR],1,2,v, [],by simp,⟨⟨rfl,rfl,rfl⟩, .inl ⟨rfl,rfl⟩⟩,by omega⟩
 ·simp[hsz,x1,x3,-fB',-eB'];exactλv=>⟨by simp[InR],3,3,v, [⟨#[112]⟩],by simp,⟨⟨rfl,rfl,rfl⟩, .inl ⟨rfl,rfl⟩⟩,by omega⟩
 ·simp[hsz,x1,x3,-fB',-eB'];exact⟨by simp[InR],3,4,v, [⟨#[112]⟩],by simp,⟨⟨rfl,rfl,rfl⟩, .inl ⟨rfl,rfl⟩⟩,by omega⟩
 ·simp[hsz,x1,x3,-fB',-eB'];exactλv=>⟨by simp[InR],5,5,v, [⟨#[112]⟩,⟨#[113]⟩],by simp,⟨⟨rfl,rfl,rfl⟩, .inl ⟨rfl,rfl⟩⟩,by omega⟩
 ·simp[hsz,-fB',-eB'];refine aA (X:=Int) [5] [51] (λi=>i=1\/i=2) (λi=>[(8,enc i)]) (λ_=>[]) (λi=>(3 -i).toNat) 1 (by simp) ?_;rintro i hi;rcases hi with rfl|rfl
  ·simp[-fB',-eB'];exact⟨by simp[InR],by decide,λ_=>by simp[InR]⟩
  ·simp[-fB',-eB'];exact fq (l:=([⟨#[112]⟩,⟨#[113]⟩]:List B)) av rfl
set_option maxHeartbeats 1000000 in
theorem Yl(h1:S cL=Kp):vc S cE (wC cz λr H'=>Fin (iA (Y:=List B) (Z:=Int)) (λy=>y=([⟨#[113]⟩],0)) r H') (dI ((a1 B).view (⟨#[124,113,124]⟩:B))) dm:=by
 have hv:Db ⟨#[124,113,124]⟩=true:=by decide
 have hsz:(⟨#[124,113,124]⟩:B).size=3:=rfl;have x1:((⟨#[124,113,124]⟩:B).extract 1 2)=⟨#[113]⟩:=by decide
 simp[cE,cz,h1,hv,hsz,-fB',-eB'];refine⟨by simp[InR],?_⟩;refine aA (X:=Int×Int×Value×List B) [0] [] (λz=>z.1=1/\z.2.1=1/\z.2.2.2=([]:List B)\/z.1=1/\z.2.1=2/\z.2.2.2=([]:List B)\/z.1=3/\z.2.1=3/\z.2.2.2=([⟨#[113]⟩]:List B)) (λz=>[(5, .own 51 z.2.2.1),(6,enc z.1),(7,enc z.2.1)]) (λz=>[(51, .row z.2.2.1 av 1 (z.2.2.2.map enc))]) (λz=>(3 -z.2.1).toNat) (1,1, .slice none 0 0, []) (by simp) ?_ (hh:=by simp[isNilRow]);rintro⟨f,i,v,l⟩ hz;simp only at hz;rcases hz with⟨rfl,rfl,rfl⟩|⟨rfl,rfl,rfl⟩|⟨rfl,rfl,rfl⟩
 ·simp[hsz,x1,-fB',-eB'];exact⟨by simp[InR],1,2,v, [],by simp,⟨⟨rfl,rfl,rfl⟩, .inl ⟨rfl,rfl⟩⟩,by omega⟩
 ·simp[hsz,x1,-fB',-eB'];exactλv=>⟨by simp[InR],3,3,v, [⟨#[113]⟩],by simp,⟨⟨rfl,rfl,rfl⟩, .inl ⟨rfl,rfl⟩⟩,by omega⟩
 ·simp[hsz,-fB',-eB'];refine aA (X:=Int) [5] [51] (λi=>i=1) (λi=>[(8,enc i)]) (λ_=>[]) (λi=>(3 -i).toNat) 1 (by simp) ?_;rintro i hi;subst hi;simp[-fB',-eB'];exact fq (l:=([⟨#[113]⟩]:List B)) av rfl
def MD(h1:S cL=Kp):aq cE cz S (a1 B) (λs=>s∈featS) (iA (Y:=List B) (Z:=Int)) λs y=>y=(qe3 s,0):=by
 rintro s hs;have hs:s∈featS:=hs;simp only[featS,qGm,qGz,or_false]at hs;rcases hs with rfl|rfl|rfl|rfl
 ·have a:Db ⟨#[124]⟩=true:=by decide
  simp_all [vc,Spc,qe3,cE,cz]
 ·exact Ym h1
 ·exact Rr h1
 ·exact Yl h1
abbrev qiW:Spc:=ax (a2 (List B) B) (λ_=>True) (enc (X:=Bool)) λx y=>y=pw x.1 x.2
def FC:aq mH mi S (a2 (List B) B) (λ_=>True) (enc (X:=Bool)) λx y=>y=pw x.1 x.2:=by
 rintro⟨l,s⟩ -;simp[mH,mi,-fB',-eB'];intro hl;refine ah (X:=Unit) [1,7] [] l.length (λk _=>∀x∈l.take k,decide (x=s)=false) (λ_=>[]) (λ_=>[]) () (by simp) ?_ ?_
 ·intro k _ hk c;obtain⟨x,a⟩:=aM hk;obtain⟨_,b⟩:=qF4.1 a;simp[hk,a,b,-fB',-eB'];refine⟨λh=>?_,λh=>?_⟩;grind [pw]
  ·rw[au a];grind
 simp[pw]
def Rs(h1:S tH=Zk)(h2:S nG=qiW):aq wt vr S (a2 B B) (λx=>∃b,R1 x.1 x.2=some b) (enc (X:=Bool)) λx y=>R1 x.1 x.2=some y:=by
 rintro⟨s,f⟩ ⟨b,hb⟩;have hb:R1 s f=some b:=hb;have c:=hb;unfold R1 at hb;split at hb
 rotate_left
 grind;rename_i hc;obtain⟨c1,c2⟩:=hc;obtain⟨z,hz,a⟩:=qG5.1 c1;obtain rfl:z=s:=of_decide_eq_true a;have e:pw (qe3 z) f=b:=by
  have hb:=qGf hb;rw[<-hb];simp only[featS,qGm,qGz,or_false]at hz;rcases hz with rfl|rfl|rfl|rfl<;>rcases c2 with rfl|rfl<;>decide
 simp_all [wt,vr]
end
section
variable {dq:Prop}
section
variable {P:Program}{im:List Nat}{E:BU}{S:Nat->Spc}
end
end
end Go.Gv
