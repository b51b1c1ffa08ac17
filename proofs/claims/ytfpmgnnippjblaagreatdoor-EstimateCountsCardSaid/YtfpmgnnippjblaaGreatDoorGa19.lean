/- V58 -/
import Derived.Test.YtfpmgnnippjblaaGreatDoorGa18
set_option linter.all false
set_option maxRecDepth 100000
set_option maxHeartbeats 0
open Bool renaming forall_bool → fB', exists_bool → eB'
namespace Go.Gv
section
open Go.Proofs
theorem qiB:∀w∈BU,w∈wordsA:=by decide
theorem qmk:∀w∈N3,w∈wordsA:=by decide
theorem qke:∀w∈FsetL,w∈wordsA:=by decide
def qiY:∀w∈ValsI,w∈valsA:=by decide
def qg9:eT∈wordsA:=by decide
def qle{toks:List (List B)}(h:∀r∈toks,Dg r)(i k:Int):qR toks i k∈wordsA:=by
 unfold qR;split
 ·exact qg9
 ·split
  ·rename_i r a;obtain⟨w,t,f,b,c,d,rfl⟩:=h r (qBf a);split
   ·rename_i s hs;have hm:=qBf hs;simp only[qBt,qBF,or_false]at hm;grind [Dg,qiB,qmk,qke]
   ·exact qg9
  ·exact qg9
def qdS:dA att3 DM=2:=by decide
def qeo{toks:List (List B)}(h:∀r∈toks,Dg r){i:Int}(h0:0<=i)(h1:i<toks.length):∃f∈FsetL,qR toks i 2=f:=by
 obtain⟨j,rfl⟩:∃j:Nat,i=(j:Int):=⟨i.toNat,by omega⟩
 obtain⟨r,a⟩:∃r,toks[j]? =some r:=⟨toks[j]'(by omega),qBe _⟩
 obtain⟨w,t,f,c,d,b,rfl⟩:=h r (qBf a);refine⟨f,b,?_⟩;unfold qR;grind
structure Yu (E:Py):Prop where
 c:OkCorp E.c
 t0:0<=E.tok
 t1:E.tok<E.c.toks.length
 l:E.bd.length=E.lb.length
theorem qlI{E:Py}(b:Yu E){n:Nat}{x:Cond}(h:GA E.lb x):∃y,qD E (n+1) x=some y:=by
 cases h with
 | val nm v f h1 h2=>
   obtain⟨y,p⟩:=M2 (qiY v h2) (qle b.c.2.2.2 E.tok (pS E.c.attrs nm)) f;refine⟨y,?_⟩;unfold qD;grind
 | feat v h=>
   obtain⟨f,d,e⟩:=qeo b.c.2.2.2 b.t0 b.t1;have q:v=⟨#[112]⟩\/v=⟨#[113]⟩:=by grind [FeatL]
   have j:(featS.any λz=>decide (z=f))=true:=qCe.2 ⟨f,d,decide_eq_true rfl⟩;refine⟨featS.any (λ_=>false)||f.data.toList.any λc=>decide (v.data.toList=[c]),?_⟩;unfold qD;rw[if_neg (show ¬(3:Int)=1 by decide),if_neg (show ¬(3:Int)=2 by decide),if_pos rfl];simp only[b.c.1,qdS,e];simp_all [Ph]
 | same nm l a h1 h2 h3=>
   obtain⟨k,hk⟩:∃k:Nat,nK E.lb (λz=>decide (z=l))=(k:Int):=by
    rcases Nd (λz=>decide (z=l)) E.lb with⟨e,h⟩|⟨k,_,e,_⟩
    grind;grind
   have r:=GD (λz=>decide (z=l)) E.lb;obtain⟨o,ho⟩:∃o,E.bd[k]? =some o:=⟨E.bd[k]'(by grind [b.l]),qBe _⟩
   refine⟨decide (0<=o) && decide (qR E.c.toks E.tok (dA E.c.attrs nm)=qR E.c.toks o (dA E.c.attrs a)),?_⟩;unfold qD;grind
 |reg nm h=>exact⟨_,by rfl⟩
 |regk nm v h1 h2=>exact⟨_,by rfl⟩
def qgn{E:Py}{n:Nat}{k:Cond}{y:Bool}(h:qD E n k=some y):qD E (n+1) ⟨6,E0,E0,E0,E0,false, [k]⟩=some (!y):=by
 unfold qD;grind
def qgp{E:Py}{n:Nat}{a b:Cond}{p q:Bool}(h1:qD E n a=some p)(h2:qD E n b=some q):qD E (n+1) ⟨7,E0,E0,E0,E0,false, [a,b]⟩=some (p && q):=by
 unfold qD;grind
def qlH{E:Py}{n:Nat}{a b:Cond}{p q:Bool}(h1:qD E n a=some p)(h2:qD E n b=some q):qD E (n+1) ⟨8,E0,E0,E0,E0,false, [a,b]⟩=some (p||q):=by
 simp_all [qD]
def qbu{E:Py}(d:Yu E):∀{n m:Nat} {x:Cond},GI E.lb n x->n<m->∃y,qD E m x=some y
 | _,m+1,_, .atom n c h,_=>qlI d h
 | _,m+1,_, .not n k h,hm=>by
   obtain⟨y,j⟩:=qbu (m:=m) d h (by omega);simp_all [qgn]
 | _,m+1,_, .two n op a b ho h1 h2,hm=>by
   obtain⟨p,hp⟩:=qbu (m:=m) d h1 (by omega);obtain⟨q,l⟩:=qbu (m:=m) d h2 (by omega);rcases ho with rfl|rfl;simp_all [qgp];simp_all [qlH]
def qgo{E:Py}(a:Yu E){n m:Nat}{x:Cond}(h:GC E.lb n x)(hm:n<m):∃y,qD E m x=some y:=by
 obtain⟨m,rfl⟩:∃k,m=k+1:=⟨m -1,by omega⟩
 cases h with
 |any=>exact⟨true,by rfl⟩
 | top v f h=>
   have b:v∈valsA:=(by decide:∀w∈ValsT,w∈valsA) v h;obtain⟨y,d⟩:=M2 b (qle a.c.2.2.2 E.tok (pS E.c.attrs E0)) f;refine⟨y,?_⟩;unfold qD;grind
 |inner c h=>exact qbu a h hm
def qpB:Bool:=Attr2.all λnm=>ValsI.all λv=>mT att3 [] ⟨2,nm,E0,v,E0,false, []⟩ && mT att3 [] ⟨2,nm,E0,v,E0,true, []⟩
def qmf:qpB=true:=by kernel_rfl
def qpF:Bool:=ValsT.all λv=>mT att3 [] ⟨2,E0,E0,v,E0,false, []⟩ && mT att3 [] ⟨2,E0,E0,v,E0,true, []⟩
def qex:qpF=true:=by rfl
def qnu:Bool:=FeatL.all λv=>mT att3 [] ⟨3,DM,E0,v,E0,false, []⟩
def qkn:qnu=true:=by rfl
def qp5:Bool:=Types.all λn=>mT att3 [] ⟨5,n,E0,E0,E0,false, []⟩ && NumL.all λv=>mT att3 [] ⟨5,n,qlj,v,E0,false, []⟩
def qfy:qp5=true:=by rfl
def qwG:Bool:=Attr2.all λn=>decide (0<=dA att3 n)
def qlF:qwG=true:=by rfl
def MX{lb:List B}{nm v:B}{f:Bool} :mT att3 lb ⟨2,nm,E0,v,E0,f, []⟩=mT att3 [] ⟨2,nm,E0,v,E0,f, []⟩:=rfl
def qc1{lb:List B}{v:B} :mT att3 lb ⟨3,DM,E0,v,E0,false, []⟩=mT att3 [] ⟨3,DM,E0,v,E0,false, []⟩:=rfl
def Wt{lb:List B}{n a v:B} :mT att3 lb ⟨5,n,a,v,E0,false, []⟩=mT att3 [] ⟨5,n,a,v,E0,false, []⟩:=rfl
theorem SI{lb:List B}{x:Cond}(h:GA lb x):mT att3 lb x=true:=by
 cases h with
 | val nm v f h1 h2=>
   rw[MX];have h:=qBi.1 (qBi.1 qmf nm h1) v h2;simp only[qBh]at h;cases f<;>grind
 | feat v h=>
   rw[qc1];exact qBi.1 qkn v h
 | same nm l a h1 h2 h3=>
   have b:=qBi.1 qlF nm h1;have c:=qBi.1 qlF a h3;have d:(lb.any λz=>decide (z=l))=true:=qCe.2 ⟨l,h2,decide_eq_true rfl⟩;have j:qcF ⟨4,nm,a,E0,l,false, []⟩=true:=by
    rfl
   have k:qjK att3 ⟨4,nm,a,E0,l,false, []⟩=true:=by
    unfold qjK;grind
   have p:qrU att3 lb ⟨4,nm,a,E0,l,false, []⟩=true:=by
    unfold qrU;grind
   grind [mT]
 | reg nm h=>
   rw[Wt];have h:=qBi.1 qfy nm h;grind
 | regk nm v h1 h2=>
   rw[Wt];have h:=qBi.1 qfy nm h1;grind
def Eg{a:List Attr}{lb:List B}{m:Nat}{x:Cond}(h:mT a lb x=true)(hk:x.kids=[]):rc a lb (m+1) x=true:=by
 grind [rc]
def Qi{lb:List B}{m:Nat}{k:Cond}(h:rc att3 lb m k=true):rc att3 lb (m+1) ⟨6,E0,E0,E0,E0,false, [k]⟩=true:=by
 have e:mT att3 lb ⟨6,E0,E0,E0,E0,false, [k]⟩=true:=rfl;grind [rc]
def Qh{lb:List B}{m:Nat}{op:Int}{a b:Cond}(ho:op=7\/op=8)(h1:rc att3 lb m a=true)(h2:rc att3 lb m b=true):rc att3 lb (m+1) ⟨op,E0,E0,E0,E0,false, [a,b]⟩=true:=by
 have e:mT att3 lb ⟨op,E0,E0,E0,E0,false, [a,b]⟩=true:=by rcases ho with rfl|rfl<;>rfl
 grind [rc]
theorem Gt{lb:List B} :∀{n m:Nat} {x:Cond},GI lb n x->n<m->rc att3 lb m x=true
 | _,m+1,_, .atom n c h,_=>Eg (SI h) (vd h)
 | _,m+1,_, .not n k h,hm=>Qi (Gt h (by omega))
 | _,m+1,_, .two n op a b ho h1 h2,hm=>Qh ho (Gt h1 (by omega)) (Gt h2 (by omega))
theorem qjI{k:Cond}{op:Int} :cM ⟨op,E0,E0,E0,E0,false, [k]⟩=cM k+1:=by rfl
theorem qjH{a b:Cond}{op:Int} :cM ⟨op,E0,E0,E0,E0,false, [a,b]⟩=cM a+cM b+1:=by rfl
theorem qky{k:Cond}{op:Int} :bb ⟨op,E0,E0,E0,E0,false, [k]⟩=bb k+1:=by grind [bb,iQ]
theorem qkx{a b:Cond}{op:Int} :bb ⟨op,E0,E0,E0,E0,false, [a,b]⟩=max (bb a) (bb b) +1:=by grind [bb,iQ]
theorem Na{x:Cond}(h:x.kids=[]):cM x=1/\bb x=1:=by
 rw[qC,zC,h];exact⟨rfl,rfl⟩
def Th{lb:List B} :∀{n:Nat} {x:Cond},GI lb n x->cM x+1<=2^ (n+1)/\bb x<=n+1
 | _,_, .atom n c h=>by
   grind [Na,vd]
 | _,_, .not n k h=>by
   have:=Th h;grind [qjI,qky]
 | _,_, .two n op a b ho h1 h2=>by
   have:=Th h1;have:=Th h2;grind [qjH,qkx]
def ZM{lb:List B}{n:Nat}{x:Cond}(h:GC lb n x):cM x+1<=2^ (n+1)/\bb x<=n+1:=by
 have h2:2^1<=2^ (n+1):=Nat.pow_le_pow_right (by decide) (by omega);cases h with
 |any=>have:=Na (x:=⟨1,E0,E0,E0,E0,false, []⟩) rfl;omega
 |top v f h=>have:=Na (x:=⟨2,E0,E0,v,E0,f, []⟩) rfl;omega
 |inner c h=>exact Th h
theorem MY{lb:List B}{n m:Nat}{x:Cond}(h:GC lb n x)(hm:n<m):rc att3 lb m x=true:=by
 obtain⟨m,rfl⟩:∃k,m=k+1:=⟨m -1,by omega⟩
 cases h with
 |any=>rfl
 | top v f h=>
   refine Eg ?_ rfl;have h:=qBi.1 qex v h;simp only[qBh]at h;rw[MX];cases f<;>grind
 |inner c h=>grind [Gt]
theorem qfN{a:List Attr}{lb:List B}{x:Cond}(h1:cM x<=60)(h2:bb x<=20)(h3:rc a lb 20 x=true):qjC a lb x=true:=by
 grind [qjC]
def qm1{lb:List B}{n:Nat}{x:Cond}(h:GC lb n x)(hn:n<=4):qjC att3 lb x=true:=by
 obtain⟨h1,h2⟩:=ZM h;have h3:2^ (n+1)<=2^5:=Nat.pow_le_pow_right (by decide) (by omega);grind [qfN,MY]
open Cod (enc dec)
variable {S S0:Nat->Spc}
def qfm{c:Corpus}(h:OkCorp c){i:Int}(h0:0<=i)(h1:i<c.toks.length):∃w t f,w∈BU/\t∈N3/\f∈FsetL/\c.toks[i.toNat]? =some [w,t,f]/\qR c.toks i 0=w/\qR c.toks i 1=t/\qR c.toks i 2=f:=by
 obtain⟨r,a⟩:=bD (show i.toNat<c.toks.length by omega);obtain⟨w,t,f,b,d,j,rfl⟩:=h.2.2.2 r (qBf a);refine⟨w,t,f,b,d,j,a,?_,?_,?_⟩ <;>(unfold qR;rw[if_neg (by omega),a];rfl)
def qoi:dA att3 th=0:=by decide
def qoj:dA att3 Jy=1:=by decide
def qsf:dA att3 DM=2:=by decide
def qyY:dA att3 eT= -1:=by decide
def qxH:pS att3 th=0:=by decide
def qxI:pS att3 Jy=1:=by decide
def qxJ:pS att3 eT=0:=by decide
def qwJ:max (0:Int) (-1)=0:=by decide
def qql:max (0:Int) 0=0:=by decide
def qqk:max (0:Int) 1=1:=by decide
def qwK:max (0:Int) 2=2:=by decide
def qpu{w:B}(h:w∈BU):w∈WT:=qBo.2 (.inl h)
def qvJ{w:B}(h:w∈N3):w∈WT:=qBo.2 (.inr h)
def qdW(n:Nat)(z:HZ):Prop:=OkCorp z.1/\qlz z.1.attrs z.2.2.2.1 n z.2.1/\0<=z.2.2.1/\z.2.2.1<z.1.toks.length/\z.2.2.2.2.length=z.2.2.2.1.length/\z.2.2.2.1.length<=1000/\(∀b∈z.2.2.2.2, -1<=b/\b<z.1.toks.length)/\∃y,qD (qg1 z) n z.2.1=some y
abbrev L8(n:Nat):Spc:=aA aH (qdW n) (enc (X:=Bool)) (qlV n)
set_option maxHeartbeats 4000000 in
theorem Ut(n:Nat)(h1:S vi=L8 n)(h2:S fE=s_rAttr)(h3:S qH=s_rMatches)(h4:S qI=s_rFeat):
 aq cU cQ S aH (qdW (n+1)) (enc (X:=Bool)) (qlV (n+1)):=by
 rintro⟨c,x,tok,lb,bd⟩ ⟨hc,⟨hnd,hr,hkk⟩,t0,t1,hbl,hll,hb,y,hy⟩;simp only at hc hnd hr hkk t0 t1 hbl hll hb;have hy0:qD ⟨c,tok,lb,bd⟩ (n+1) x=some y:=hy;have hQ:∀w,w=y->qlV (n+1) (c,x,tok,lb,bd) w:=λw e=>by subst e;exact hy
 clear hy;have hca:=hc.1;have hl:(c.toks.length:Int)<=9223372036854775807:=by have:=hc.2.2.1;omega
 have hl2:(lb.length:Int)<=9223372036854775807:=by omega
 have hl3:(bd.length:Int)<=9223372036854775807:=by omega
 obtain⟨w,t,f,hw,ht,hf,hrow,v0,v1,v2⟩:=qfm hc t0 t1;obtain⟨_,hgrow⟩:=qBc.1 hrow;obtain⟨op,name,arg,val,lab,fold,ks⟩:=x;obtain⟨r2,r3,r4,r5⟩:=hr;simp only at r2 r3 r4 r5 hkk;unfold qD at hy0;simp only at hy0;split at hy0
 ·rename_i e;subst e;obtain rfl:=qBl hy0;simp[cU,cQ,h2,-fB',-eB'];exact hQ _ rfl
 rename_i e1;split at hy0
 ·rename_i e;subst e;obtain⟨hv,hnm⟩:=r2 rfl;have hnm:name=eT\/name=th\/name=Jy:=by simpa [Attr2]using hnm
  rcases hnm with rfl|rfl|rfl
  ·simp only[hca,qxJ,v0]at hy0;simp[cU,cQ,h2,h3,hca,qyY,qwJ,t0,t1,hl,hrow,hgrow,hv,qpu hw,-fB',-eB'];exactλu hu=>hQ _ (qBl (hu.symm.trans hy0))
  ·simp only[hca,qxH,v0]at hy0;simp[cU,cQ,h2,h3,hca,qoi,qql,t0,t1,hl,hrow,hgrow,hv,qpu hw,-fB',-eB'];exactλu hu=>hQ _ (qBl (hu.symm.trans hy0))
  ·simp only[hca,qxI,v1]at hy0;simp[cU,cQ,h2,h3,hca,qoj,qqk,t0,t1,hl,hrow,hgrow,hv,qvJ ht,-fB',-eB'];exactλu hu=>hQ _ (qBl (hu.symm.trans hy0))
 rename_i e2;split at hy0
 ·rename_i e;subst e;obtain⟨hv,rfl⟩:=r3 rfl;simp only[hca,qsf,v2]at hy0;simp[cU,cQ,h2,h4,hca,qsf,qwK,t0,t1,hl,hrow,hgrow,hv,hf,-fB',-eB'];refine hQ _ ?_;unfold Ph at hy0;split at hy0
  ·exact qBl hy0
  ·cases hy0
 rename_i e3;split at hy0
 ·rename_i e;subst e;obtain⟨hn4,ha4⟩:=r4 rfl;have hn4:name=th\/name=Jy:=by simpa [Attr2]using hn4
  have ha4:arg=th\/arg=Jy:=by simpa [Attr2]using ha4
  split at hy0
  ·cases hy0
  rename_i hj;simp[cU,cQ,h2,hl2,-fB',-eB'];refine ah (X:=Unit) [2,4,5,6,11,60] [] lb.length (λk _=>∀x∈lb.take k,decide (x=lab)=false) (λ_=>[]) (λ_=>[]) () (by simp) ?_ ?_
  ·intro k _ hk hP;obtain⟨x,hx⟩:=bD hk;obtain⟨_,hgx⟩:=qBc.1 hx;by_cases hxl:x=lab
   rotate_left
   ·simp[hk,hx,hgx,hxl,-fB',-eB'];rw[au hx];intro z hz;rcases qBo.1 hz with hz|hz
    ·simpa using hP z hz
    ·simp at hz;subst hz;simpa using hxl
   have hi:=sR hx (by simp[hxl]) hP;rw[hi]at hy0;obtain⟨o,ho⟩:=bD (show k<bd.length by omega);obtain⟨hkb,hgo⟩:=qBc.1 ho;obtain⟨o0,o1⟩:=hb o (qBf ho);simp only[qC9,ho]at hy0;have hy1:=qBl hy0;by_cases h0o:o= -1
   ·simp[hk,hx,hgx,hxl,hkb,ho,hgo,h0o,hl3,-fB',-eB'];exact hQ _ (by rw[<-hy1,h0o];rfl)
   have ho0:0<=o:=by omega
   obtain⟨w',t',f',hw',ht',hf',hrow',v0',v1',v2'⟩:=qfm hc ho0 o1;obtain⟨_,hgrow'⟩:=qBc.1 hrow';rcases hn4 with rfl|rfl<;>rcases ha4 with rfl|rfl<;>
   ·simp[hk,hx,hgx,hxl,hkb,ho,hgo,h0o,hl3,h2,hca,qoi,qoj,qql,qqk,t0,t1,hl,hrow,hgrow,ho0,o1,hrow',hgrow',-fB',-eB'];exact hQ _ (by rw[<-hy1];simp[ho0,hca,qoi,qoj,v0,v1,v0',v1'])
  ·intro _ hP;have hn:=kH (p:=λz=>decide (z=lab)) (l:=lb) (by simpa using hP);exact(hj (by rw[hn];decide)).elim
 rename_i e4;split at hy0
 ·rename_i e;subst e;have hy1:=qBl hy0;simp[cU,cQ,h2,-fB',-eB'];intro hrl;refine ah (X:=Unit) [2,6,106] [] c.regs.length (λk _=>∀r∈c.regs.take k,vR ⟨5,name,arg,val,lab,fold,ks⟩ tok r=false) (λ_=>[]) (λ_=>[]) () (by simp) ?_ ?_
  ·intro k _ hk hP;obtain⟨r,hx⟩:=bD hk;obtain⟨_,hgx⟩:=qBc.1 hx;have hyes:vR ⟨5,name,arg,val,lab,fold,ks⟩ tok r=true->true=y:=λh=>by
    rw[<-hy1];exact(qCe.2 ⟨r,qBf hx,h⟩).symm
   have hnext:vR ⟨5,name,arg,val,lab,fold,ks⟩ tok r=false->∀z∈c.regs.take (k+1),vR ⟨5,name,arg,val,lab,fold,ks⟩ tok z=false:=λh z hz=>by
    rw[au hx]at hz;rcases qBo.1 hz with hz|hz
    ·exact hP z hz
    ·simp at hz;subst hz;exact h
   clear hP;by_cases c1:r.ty=name
   rotate_left
   ·simp[hk,hx,hgx,c1,-fB',-eB'];exact hnext (by simp[vR,c1])
   by_cases c2:r.b<=tok
   rotate_left
   ·have c2':tok<r.b:=by omega
    simp[hk,hx,hgx,c1,c2,c2',-fB',-eB'];exact hnext (by simp[vR,c1,c2])
   have c2':¬tok<r.b:=by omega
   by_cases c3:tok<r.e
   rotate_left
   ·have c3':r.e<=tok:=by omega
    simp[hk,hx,hgx,c1,c2,c2',c3,c3',-fB',-eB'];exact hnext (by simp[vR,c1,c2,c3])
   have c3':¬r.e<=tok:=by omega
   by_cases c4:arg=eT
   ·have c4':arg=⟨#[]⟩:=c4;simp[hk,hx,hgx,c1,c2,c2',c3,c3',c4',-fB',-eB'];have:=hyes (by simp[vR,c1,c2,c3,c4]);rw[c4']at hQ;exact hQ _ this
   have c4':¬arg=⟨#[]⟩:=c4;simp[hk,hx,hgx,c1,c2,c2',c3,c3',c4',-fB',-eB'];intro hkl;refine ah (X:=Unit) [2,6,106,107,108,133] [] r.kv.length (λj _=>∀p∈r.kv.take j,¬p=⟨arg,val⟩) (λ_=>[]) (λ_=>[]) () (by simp) ?_ ?_
   ·intro j _ hj hP;obtain⟨p,hp⟩:=bD hj;obtain⟨_,hgp⟩:=qBc.1 hp;obtain⟨pn,pv⟩:=p;by_cases d1:pn=arg
    rotate_left
    ·simp[hj,hp,hgp,d1,-fB',-eB'];rw[au hp];intro z hz;rcases qBo.1 hz with hz|hz
     ·exact hP z hz
     ·simp at hz;subst hz;intro e;cases e;exact d1 rfl
    by_cases d2:pv=val
    rotate_left
    ·simp[hj,hp,hgp,d1,d2,-fB',-eB'];rw[au hp];intro z hz;rcases qBo.1 hz with hz|hz
     ·exact hP z hz
     ·simp at hz;subst hz;intro e;cases e;exact d2 rfl
    simp[hj,hp,hgp,d1,d2,-fB',-eB'];exact hQ _ (hyes (by
     have hm:WM r.kv ⟨arg,val⟩=true:=qCe.2 ⟨⟨pn,pv⟩,qBf hp,by rw[d1,d2];exact decide_eq_true rfl⟩;simp[vR,c1,c2,c3,hm]))
   ·intro _ hP;simp[-fB',-eB'];refine hnext ?_;have hm:WM r.kv ⟨arg,val⟩=false:=List.any_eq_false.2 λp hp=>by
     have:=hP p (by simpa using hp);simpa using this
    simp[vR,c4,hm]
  ·intro _ hP;simp[-fB',-eB'];refine hQ _ ?_;rw[<-hy1];exact(List.any_eq_false.2 λr hr=>by
    have:=hP r (by simpa using hr);simpa using this).symm
 rename_i e5;split at hy0
 ·rename_i e;subst e;split at hy0
  ·rename_i k ks';obtain⟨b,hb1,rfl⟩:=qBk.1 hy0;have hp:qdW n (c,k,tok,lb,bd):=⟨hc,hkk k (.head _),t0,t1,hbl,hll,hb,b,hb1⟩
   simp[cU,cQ,h1,h2,hp,-fB',-eB'];intro w hw;have hw:qD ⟨c,tok,lb,bd⟩ n k=some w:=hw;rw[hb1]at hw;cases hw;exact hQ _ rfl
  ·cases hy0
 rename_i e6;split at hy0
 rotate_left
 ·cases hy0
 rename_i hall;have hal:∀k∈ks,∃b,qD ⟨c,tok,lb,bd⟩ n k=some b:=λk hk=>qBW.1 (qBi.1 hall k hk)
 have hop:op=7\/op=8:=by
  unfold mT at hnd;simp only[qBh]at hnd;have hs:=hnd.1.1;unfold qcF at hs;simp only[e1,e2,e3,e4,e5,e6,if_false]at hs;split at hs
  ·assumption
  ·cases hs
 rcases hop with e|e
 ·subst e;have hy1:=qBl ((if_pos rfl).symm.trans hy0);simp[cU,cQ,h2,-fB',-eB'];intro hkl;refine ah (X:=Unit) [2,3,4,5,6,164] [] ks.length (λk _=>∀z∈ks.take k,qD ⟨c,tok,lb,bd⟩ n z=some true) (λ_=>[]) (λ_=>[]) () (by simp) ?_ ?_
  ·intro k _ hk hP;obtain⟨z,hx⟩:=bD hk;obtain⟨_,hgx⟩:=qBc.1 hx;have hzm:=qBf hx;obtain⟨b,hb1⟩:=hal z hzm;have hp:qdW n (c,z,tok,lb,bd):=⟨hc,hkk z hzm,t0,t1,hbl,hll,hb,b,hb1⟩
   simp[hk,hx,hgx,h1,hp,-fB',-eB'];intro w hw;have hw:qD ⟨c,tok,lb,bd⟩ n z=some w:=hw;cases w
   ·simp[-fB',-eB'];refine hQ _ ?_;rw[<-hy1,qCe.2 ⟨z,hzm,by rw[hw];rfl⟩];rfl
   ·simp[-fB',-eB'];rw[au hx];intro u hu;rcases qBo.1 hu with hu|hu
    ·exact hP u hu
    ·simp at hu;subst hu;exact hw
  ·intro _ hP;simp[-fB',-eB'];refine hQ _ ?_;rw[<-hy1];rw[List.any_eq_false.2 λz hz=>by rw[hP z (by simpa using hz)];decide];rfl
 ·subst e;have hy1:=qBl ((if_neg (by decide)).symm.trans hy0);simp[cU,cQ,h2,-fB',-eB'];intro hkl;refine ah (X:=Unit) [2,3,4,5,6,164] [] ks.length (λk _=>∀z∈ks.take k,qD ⟨c,tok,lb,bd⟩ n z=some false) (λ_=>[]) (λ_=>[]) () (by simp) ?_ ?_
  ·intro k _ hk hP;obtain⟨z,hx⟩:=bD hk;obtain⟨_,hgx⟩:=qBc.1 hx;have hzm:=qBf hx;obtain⟨b,hb1⟩:=hal z hzm;have hp:qdW n (c,z,tok,lb,bd):=⟨hc,hkk z hzm,t0,t1,hbl,hll,hb,b,hb1⟩
   simp[hk,hx,hgx,h1,hp,-fB',-eB'];intro w hw;have hw:qD ⟨c,tok,lb,bd⟩ n z=some w:=hw;cases w
   ·simp[-fB',-eB'];rw[au hx];intro u hu;rcases qBo.1 hu with hu|hu
    ·exact hP u hu
    ·simp at hu;subst hu;exact hw
   ·simp[-fB',-eB'];exact hQ _ (hy1.symm.trans (qCe.2 ⟨z,hzm,by rw[hw];rfl⟩)).symm
  ·intro _ hP;simp[-fB',-eB'];refine hQ _ ?_;rw[<-hy1];rw[List.any_eq_false.2 λz hz=>by rw[hP z (by simpa using hz)];decide]

end
section
open Go.Proofs X
def qAR:GB ⟨#[97]⟩=true:=by kernel_rfl
def qAQ:GB ⟨#[98]⟩=true:=by kernel_rfl
def qAO:GB ⟨#[91,97,98,93]⟩=true:=by kernel_rfl
def qAN:GB ⟨#[88]⟩=true:=by kernel_rfl
def qAM:GB ⟨#[]⟩=true:=by kernel_rfl
def qAL:GB ⟨#[99,63]⟩=true:=by kernel_rfl
def qAJ:GB ⟨#[89]⟩=true:=by kernel_rfl
def qq2:(rD ⟨#[97,46,42]⟩ ⟨#[97]⟩ false && rD ⟨#[97,46,42]⟩ ⟨#[97]⟩ true)=true:=by kernel_rfl
def qq1:(rD ⟨#[97,46,42]⟩ ⟨#[98]⟩ false && rD ⟨#[97,46,42]⟩ ⟨#[98]⟩ true)=true:=by kernel_rfl
def qq0:(rD ⟨#[97,46,42]⟩ ⟨#[99]⟩ false && rD ⟨#[97,46,42]⟩ ⟨#[99]⟩ true)=true:=by kernel_rfl
def qqZ:(rD ⟨#[97,46,42]⟩ ⟨#[65]⟩ false && rD ⟨#[97,46,42]⟩ ⟨#[65]⟩ true)=true:=by kernel_rfl
def qqY:(rD ⟨#[97,46,42]⟩ ⟨#[97,98]⟩ false && rD ⟨#[97,46,42]⟩ ⟨#[97,98]⟩ true)=true:=by kernel_rfl
def qqX:(rD ⟨#[97,46,42]⟩ ⟨#[]⟩ false && rD ⟨#[97,46,42]⟩ ⟨#[]⟩ true)=true:=by kernel_rfl
def qqW:(rD ⟨#[97,46,42]⟩ ⟨#[88]⟩ false && rD ⟨#[97,46,42]⟩ ⟨#[88]⟩ true)=true:=by kernel_rfl
def qqV:(rD ⟨#[97,46,42]⟩ ⟨#[89]⟩ false && rD ⟨#[97,46,42]⟩ ⟨#[89]⟩ true)=true:=by kernel_rfl
def qAP:GB ⟨#[97,46,42]⟩=true:=by
 unfold GB;refine qBi.2 λw a=>?_
 simp only[WT,BU,N3,qCd,qCa,qBt,qBF,or_false]at a;rcases a with rfl|rfl|rfl|rfl|rfl|rfl|rfl|rfl
 ·exact qq2
 ·exact qq1
 ·exact qq0
 ·exact qqZ
 ·exact qqY
 ·exact qqX
 ·exact qqW
 ·exact qqV
def qqU:(rD ⟨#[97,124,98]⟩ ⟨#[97]⟩ false && rD ⟨#[97,124,98]⟩ ⟨#[97]⟩ true)=true:=by kernel_rfl
def qqT:(rD ⟨#[97,124,98]⟩ ⟨#[98]⟩ false && rD ⟨#[97,124,98]⟩ ⟨#[98]⟩ true)=true:=by kernel_rfl
def qqS:(rD ⟨#[97,124,98]⟩ ⟨#[99]⟩ false && rD ⟨#[97,124,98]⟩ ⟨#[99]⟩ true)=true:=by kernel_rfl
def qqR:(rD ⟨#[97,124,98]⟩ ⟨#[65]⟩ false && rD ⟨#[97,124,98]⟩ ⟨#[65]⟩ true)=true:=by kernel_rfl
def qqQ:(rD ⟨#[97,124,98]⟩ ⟨#[97,98]⟩ false && rD ⟨#[97,124,98]⟩ ⟨#[97,98]⟩ true)=true:=by kernel_rfl
def qqP:(rD ⟨#[97,124,98]⟩ ⟨#[]⟩ false && rD ⟨#[97,124,98]⟩ ⟨#[]⟩ true)=true:=by kernel_rfl
def qqO:(rD ⟨#[97,124,98]⟩ ⟨#[88]⟩ false && rD ⟨#[97,124,98]⟩ ⟨#[88]⟩ true)=true:=by kernel_rfl
def qqN:(rD ⟨#[97,124,98]⟩ ⟨#[89]⟩ false && rD ⟨#[97,124,98]⟩ ⟨#[89]⟩ true)=true:=by kernel_rfl
def qAK:GB ⟨#[97,124,98]⟩=true:=by
 unfold GB;refine qBi.2 λw a=>?_
 simp only[WT,BU,N3,qCd,qCa,qBt,qBF,or_false]at a;rcases a with rfl|rfl|rfl|rfl|rfl|rfl|rfl|rfl
 ·exact qqU
 ·exact qqT
 ·exact qqS
 ·exact qqR
 ·exact qqQ
 ·exact qqP
 ·exact qqO
 ·exact qqN
def qqM:(rD ⟨#[97,124,88]⟩ ⟨#[97]⟩ false && rD ⟨#[97,124,88]⟩ ⟨#[97]⟩ true)=true:=by kernel_rfl
def qqL:(rD ⟨#[97,124,88]⟩ ⟨#[98]⟩ false && rD ⟨#[97,124,88]⟩ ⟨#[98]⟩ true)=true:=by kernel_rfl
def qqK:(rD ⟨#[97,124,88]⟩ ⟨#[99]⟩ false && rD ⟨#[97,124,88]⟩ ⟨#[99]⟩ true)=true:=by kernel_rfl
def qqJ:(rD ⟨#[97,124,88]⟩ ⟨#[65]⟩ false && rD ⟨#[97,124,88]⟩ ⟨#[65]⟩ true)=true:=by kernel_rfl
def qqI:(rD ⟨#[97,124,88]⟩ ⟨#[97,98]⟩ false && rD ⟨#[97,124,88]⟩ ⟨#[97,98]⟩ true)=true:=by kernel_rfl
def qqH:(rD ⟨#[97,124,88]⟩ ⟨#[]⟩ false && rD ⟨#[97,124,88]⟩ ⟨#[]⟩ true)=true:=by kernel_rfl
def qqG:(rD ⟨#[97,124,88]⟩ ⟨#[88]⟩ false && rD ⟨#[97,124,88]⟩ ⟨#[88]⟩ true)=true:=by kernel_rfl
def qqF:(rD ⟨#[97,124,88]⟩ ⟨#[89]⟩ false && rD ⟨#[97,124,88]⟩ ⟨#[89]⟩ true)=true:=by kernel_rfl
def qAI:GB ⟨#[97,124,88]⟩=true:=by
 unfold GB;refine qBi.2 λw a=>?_
 simp only[WT,BU,N3,qCd,qCa,qBt,qBF,or_false]at a;rcases a with rfl|rfl|rfl|rfl|rfl|rfl|rfl|rfl
 ·exact qqM
 ·exact qqL
 ·exact qqK
 ·exact qqJ
 ·exact qqI
 ·exact qqH
 ·exact qqG
 ·exact qqF
variable {dq:Prop}
def qnl:((ValsI++Ob).all λv=>qqy (Kv Δ qlv 10000 mO [.v (.string v)] ⟨.e, [], [],0⟩))=true:=by kernel_rfl
def qAH:∀v∈ValsI,GB v=true:=by
 intro v a;simp only[ValsI,qBt,qBF,or_false]at a;rcases a with rfl|rfl|rfl|rfl|rfl|rfl|rfl|rfl|rfl|rfl
 ·exact qAR
 ·exact qAQ
 ·exact qAP
 ·exact qAO
 ·exact qAN
 ·exact qAM
 ·exact qAL
 ·exact qAK
 ·exact qAJ
 ·exact qAI
open Cod (enc dec)
def Y3:Tri dq Tryz.prog qH s_rMatches.pt:=by
 refine pj (qpt (fn:=An) rfl 10000) ?_;rintro⟨v,w,f⟩ ⟨c,d⟩;have h0:=qBi.1 (qAH v c) w d;simp only[qBh]at h0;have h:rD v w f=true:=by cases f;exact h0.1;exact h0.2
 unfold rD at h;refine⟨rfl,?_⟩;split at h
 ·rename_i b hb;unfold qzF at h;split at h
  ·rename_i t h1 j;have e:t=b:=by simpa using h
   subst e;exact⟨_,_,t,j,λρ r' a=>by cases a;exact .same _,hb⟩
  ·cases h
 ·cases h
def qkh(f:Nat)(cs:List D):∀(k:Nat) (c c':D),cs[k]? =some c->(List.replicate f D.any)[k]? =some c'->FrzTo cX c c':=by
 intro k c c' _ h;have:=List.mem_replicate.1 (qBf h);rw[this.2];exact .any _
theorem PK:Tri dq Tryz.prog mO s_rParse0.pt:=by
 refine pj (qpt (fn:=E4) rfl 10000) ?_;intro v q;have h:=qBi.1 qnl v (qBo.2 q);refine⟨rfl,?_⟩;unfold qqy at h;split at h
 ·rename_i y A C E F a b h1 r;simp only[qBh,decide_eq_true_eq]at h;obtain⟨rfl,rfl⟩:=h;refine⟨_,_,(),r,λρ r' j=>?_,trivial⟩;cases j with
  | tup cs ds hl hh=>
    match ds,hl with
    | [s,t,u],_=>
      have h0:=hh 0 _ s rfl rfl;have h2:=hh 1 _ t rfl rfl;have h3:=hh 2 _ u rfl rfl;cases h2;cases h3;cases h0 with
      |agg w l p x=>
      refine .tup rfl λk c c' hc d=>?_
      match k with
      | 0=>
        simp at hc d;subst hc;subst d;exact .agg (by simpa using p.symm) (qkh 5 l)
      | 1=>simp at hc d;subst hc;subst d;exact .same _
      | 2=>simp at hc d;subst hc;subst d;exact .same _
      |k+3=>simp at hc
 ·cases h
open Go.Proofs Cod
def qaA{P:Program}{f:Nat}{A:Nat->PT}{j:PT}(h:∀n,Tri dq P f (A n))(hs:∀d ds H K,j d ds H K->∃n,A n d ds H K):Tri dq P f j:=
 λO tp w vs ds H d K a b c e g k=>(hs d ds H K k).elim λn hn=>h n O tp w vs ds H d K a b c e g hn
def qaC{X Y:Type}{A:fm X}{pre:Nat->X->Prop}{a:X->Prop}{er:Y->D}{post:X->Y->Prop}(b:∀x,a x->∃n,pre n x):∀d ds H K,(aA A a er post).pt d ds H K->∃n,(aA A (pre n) er post).pt d ds H K:=by
 intro d ds H K h;rw[pm]at h;cases e:A.dec ds with
 |none=>rw[e]at h;exact h.elim
 | some x=>
   rw[e]at h;obtain⟨h1,h2⟩:=h;obtain⟨n,hn⟩:=b x h1;exact⟨n,by rw[pm,e];exact⟨hn,h2⟩⟩
def mK{P:Program}{f:Nat}{X Y:Type}{A:fm X}{pre:X->Prop}{er:Y->D}{post:X->Y->Prop}(j:∀x,¬pre x):Tri dq P f (aA A pre er post).pt:=λO tp w vs ds H d K a b c e g h=>by
 rw[pm]at h;cases e:A.dec ds with
 |none=>rw[e]at h;exact h.elim
 |some x=>rw[e]at h;exact(j x h.1).elim
def sC:Tri dq Tryz.prog fE s_rAttr.pt:=ac (ag ae) Ir J8
def qhE:Tri dq Tryz.prog G0 s_rIn.pt:=ac (ag ae) qcX qef
def XV:Tri dq Tryz.prog vj s_rShape.pt:=ac (ag ae) Sr Uw
def Z8:Tri dq Tryz.prog Ev s_rnode.pt:=aZ (S:=H7 [(vj,s_rShape),(fE,s_rAttr),(mO,s_rParse0),(iK,s_rIsF),(G0,s_rIn),(aJ,s_rVName),(bH,s_rVVal)])
 (ag (aa XV (aa sC (aa PK (aa qml (aa qhE (aa qeC (aa qi6 ae)))))))) Wo (λ_=>qBg rfl) (YA rfl rfl rfl rfl rfl rfl rfl)
def Hg:∀n,TQ dq ri (Vy n)
 | 0=>mK λx h=>h.1
 |n+1=>aZ (ag (aa Z8 (aa (Hg n) ae))) Sp (λ_=>qBg rfl) (Uu n rfl rfl)
def XT:Tri dq Tryz.prog ri s_rfirstA.pt:=qaA Hg (qaC λx h=>h)
def Hh:∀n,TQ dq rj (VA n)
 | 0=>mK λx h=>by
   have:=zC x.1;have:=h.1;omega
 |n+1=>aZ (ag (aa (Hh n) ae)) Sq (λ_=>qBg rfl) (Uv n rfl)
def XU:Tri dq Tryz.prog rj s_rcountA.pt:=qaA Hh (qaC λx h=>h)
def BO:Tri dq Tryz.prog rk s_rNodes.pt:=ac (ag (aa XU ae)) Ss (Ux rfl)
def BN:Tri dq Tryz.prog nT s_rVal.pt:=ac (ag (aa BO (aa XT ae))) KA (Lx rfl rfl)
def He:∀n,TQ dq vi (L8 n)
 | 0=>mK λx h=>h.2.1
 |n+1=>aZ (ag (aa (He n) (aa sC (aa Y3 (aa qi7 ae))))) So (λ_=>qBg rfl) (Ut n rfl rfl rfl rfl)
end
section
open Cod (enc dec)
variable {S S0:Nat->Spc}
def qiF:qhX NL Mn S:=by
 intro l;simp[NL,Mn, -List.map_take,AH,FD];omega
def qtI(c:Corpus):List D:=[enc c.attrs,enc c.toks,enc c.texts,enc c.regs, .v (.slice none 0 0), .v (.slice none 0 0), .v (.slice none 0 0)]
def qjL(c:Corpus):List D:=[enc c.attrs,enc c.toks,enc c.texts,enc c.regs,enc c.nodes, .v (.slice none 0 0), .v (.slice none 0 0)]
def qq7(c:Corpus):List D:=[enc c.attrs,enc c.toks,enc c.texts,enc c.regs,enc c.nodes,enc c.heads,enc c.rels]
def Vh(l:List B):List D:=l.map enc
def PM(a b:B):D.list 1 [.v (.string a), .v (.string b)]= .list 1 (Vh [a,b]):=i' rfl
def Vg(a b c:B):D.list 1 [.v (.string a), .v (.string b), .v (.string c)]= .list 1 (Vh [a,b,c]):=i' rfl
def lI(l:List B):(Vh l).length=l.length:=by simp[Vh]
def qu(l:List B)(i:Nat)(d:D):((Vh l)[i]? =some d)=∃s,l[i]? =some s/\ .v (.string s)=d:=by
 simp[Vh]
def qie(n:Nat)(a:List xO):Prop:=(∀x∈a,0<=x.b/\x.b<=n/\0<=x.e/\x.e<=n)/\∀(j:Nat) (y:xO),a[j]? =some y->y.par<j
def TX(c c':Corpus):Prop:=∃a,c'={ c with nodes:=a } /\a.length<=6/\qie c.toks.length a
def Cn(c:Corpus):Prop:=c.toks.length<=4096
theorem qcl(h1:S cb=s_m_Next):TV su rO S qtI qjL Cn TX:=by
 intro L b c hc;have hc:c.toks.length<=4096:=hc;simp[su,rO,h1,qtI];intro _ k I J;refine sV (X:=Int×Int×Value×List xO) [0,1,4] [] [] [] [] [] (λx=>0<=x.1/\x.1<=c.toks.length/\0<=x.2.1/\2*x.2.1+x.2.2.2.length<=6/\qie c.toks.length x.2.2.2) (λx=>[(5,enc x.1),(6,enc x.2.1)]) (λx=>[(1, .box b [enc c.attrs,enc c.toks,enc c.texts,enc c.regs, .own 61 x.2.2.1, .v (.slice none 0 0), .v (.slice none 0 0)]),(61, .row x.2.2.1 uS 4 (x.2.2.2.map enc))]) (λx=>x.2.1.toNat) (0,k, .slice none 0 0, []) [1,61] (λ_=>rfl) (by decide) (by decide) ?_ ?_ ?_ ?_
 ·simp[qie];omega
 ·simp
 ·simp[isNilRow];exact .nilown 61
 ·rintro⟨at_,k,v,l⟩ ⟨K,M,N,O,q⟩;simp only at K M N O q;simp[h1,PM,lI,qu];have wK:ql3 qjL b (TX c) (D.tup []) (ak (ak (ak (λx=>none) 96 none) 61 (some (Res.row v uS 4 (List.map enc l)))) 1 (some (Res.box b [D.list 2 (List.map enc c.attrs),D.list 1 (List.map enc c.toks),D.list 4 (List.map enc c.texts),D.list 4 (List.map enc c.regs),D.own 61 v,D.v (Value.slice none 0 0),D.v (Value.slice none 0 0)]))):=by
   refine⟨{ c with nodes:=l },_,rfl,rfl,?_,⟨l,rfl,by omega,q⟩⟩;simp[qjL];exact fM uS rfl
  refine⟨λhk=>⟨λQ y U W=>⟨by simp only[InR];omega,λ_=>wK,λhb=>⟨by simp only[InR];omega,by simp only[InR];omega,by omega,λr C=>⟨by simp only[InR];omega,λ_ z s t=>⟨s,t,λlb Y=>⟨by omega,by omega,λv1=>?_⟩⟩⟩⟩⟩,λ_=>wK⟩,λ_=>wK⟩;have Z:0<=at_+y:=by omega
  generalize at_+y=b' at*;have he:b'+1+r<=c.toks.length/\0<=r:=by omega
  generalize hee:b'+1+r=d at*;have a:qie c.toks.length (l++ [⟨lb,b',d, -1⟩]):=by
   refine⟨λx hx=>?_,λj x hx=>?_⟩
   ·rcases qBo.1 hx with hx|hx
    ·exact q.1 x hx
    ·simp at hx;subst hx;simp only;omega
   ·by_cases e:j<l.length
    ·rw[qBN e]at hx;exact q.2 j x hx
    ·rw[qBL (by omega)]at hx;have hx:=qBf hx;simp at hx;subst hx;simp only;omega
  refine ba (X:=Value×List xO) [0,1,4,6,8] [] (λx=>x.2.length<=l.length+2/\qie c.toks.length x.2) (λ_=>[]) (λx=>[(1, .box b [enc c.attrs,enc c.toks,enc c.texts,enc c.regs, .own 61 x.1, .v (.slice none 0 0), .v (.slice none 0 0)]),(61, .row x.1 uS 4 (x.2.map enc))]) ?_ ?_
  ·simp[h1,PM,lI,qu];refineλu hu0 hu1=>⟨λ_=>⟨by simp only[InR];omega,by omega,λE hy2=>⟨by simp only[InR];omega,λz2 h p=>⟨h,p,λw _=>⟨by simp only[InR];omega,by simp only[InR];omega,by omega,λy3 hy3=>⟨by simp only[InR];omega,by omega,by omega,λA=>⟨A,l++ [⟨lb,b',d, -1⟩] ++ [⟨w,b'+E,b'+E+1+y3,l.length⟩],⟨by simp,?_⟩, .inl rfl, .inl ⟨rfl,by simp⟩⟩⟩⟩⟩⟩⟩,λ_=>⟨v1,l++ [⟨lb,b',d, -1⟩],⟨by simp,a⟩, .inl rfl, .inl ⟨rfl,by simp⟩⟩⟩
   refine⟨λx hx=>?_,λj x hx=>?_⟩
   ·rcases qBo.1 hx with hx|hx
    ·exact a.1 x hx
    ·simp at hx;subst hx;simp only;omega
   ·by_cases e:j<(l++ [(⟨lb,b',d, -1⟩:xO)]).length
    ·rw[qBN e]at hx;exact a.2 j x hx
    ·rw[qBL (by omega)]at hx;have hx:=qBf hx;simp at hx;subst hx;simp at e;simp only;omega
  ·rintro⟨A,l2⟩ ⟨r1,F⟩;simp only at r1 F;simp;exact⟨by simp only[InR];omega,d,k -1,A,l2,⟨by omega,by omega,by omega,by omega,F⟩,⟨⟨rfl,rfl⟩, .inl (.inl rfl), .inl (.inl rfl)⟩,by omega⟩
def qk4(n:Nat)(hs:List Int)(rs:List B):Prop:=hs.length=n/\rs.length=n/\∀h∈hs,h<=n
def qb5(c c':Corpus):Prop:=∃hs rs,c'={ c with heads:=hs,rels:=rs } /\hs.length<=c.toks.length/\rs.length<=c.toks.length/\∀h∈hs,h<=c.toks.length
theorem qcm(h1:S cb=s_m_Next):TV sw rQ S qjL qq7 Cn qb5:=by
 intro L b c hc;have hc:c.toks.length<=4096:=hc;simp[sw,rQ,h1,qjL];intro _;refine sV (X:=Int×List Int) [0,1,4] [1] [] [27] [] [] (λx=>0<=x.1/\x.1<=c.toks.length/\(x.2.length:Int)=x.1/\∀y∈x.2,0<=y/\y<c.toks.length) (λx=>[(5,enc x.2),(6,enc x.1)]) (λx=>[]) (λx=>c.toks.length -x.1.toNat) (0, []) [] (λ_=>rfl) (by decide) (by decide) ?_ ?_ ?_ ?_
 ·simp
 ·simp
 ·simp
 ·rintro⟨i,l⟩ ⟨W,Y,Z,A⟩;simp only at W Y Z A;simp[h1];refine⟨λhi=>⟨by simp only[InR];omega,by omega,λy hy=>?_⟩,λhi=>?_⟩
  ·have e:List.take y.toNat (List.map enc l) ++D.v (.int .i64 i)::List.drop y.toNat (List.map enc l)=(l.take y.toNat++i::l.drop y.toNat).map enc:=by simp
   refine⟨by omega,by omega,by omega,by omega,by omega,by omega,by omega,by omega,by omega,by omega,λv=>⟨by simp only[InR];omega,i+1,l.take y.toNat++i::l.drop y.toNat,⟨by omega,by omega,?_,λz hz=>?_⟩,⟨?_,rfl⟩,by omega⟩⟩
   ·simp;omega
   ·rcases qBo.1 hz with hz|hz
    ·exact A z (qBx hz)
    ·rcases qBt.1 hz with hz|hz
     ·omega
     ·exact A z (qBT hz)
   ·rw[e];exact fM bP (by simp[qbv])
  ·have hil:l.length=c.toks.length:=by omega
   refine⟨by omega,by omega,λC=>⟨by omega,by omega,λE=>?_⟩⟩;refine ba (X:=Bool×List Int×List B) [1] [1] (λx=>qk4 c.toks.length x.2.1 x.2.2) (λx=>[(8, .sub 40 C 1 0 c.toks.length),(9, .sub 42 E 1 0 c.toks.length),(10,enc x.1)]) (λx=>[(40, .row C bP 1 (x.2.1.map enc)),(42, .row E av 1 (x.2.2.map enc))]) ?_ ?_
   ·simp[-eB'];intro _;refine H4 ((qeb 8 40 C bP 1 _ rfl rfl).trans (qeb 9 42 E av 1 _ rfl rfl)) ?_;simp only[qpD];refine ah (X:=Bool×List Int×List B) [0,1,5,8,9,43] [1] l.length (λ_ x=>qk4 c.toks.length x.2.1 x.2.2) (λx=>[(10,enc x.1)]) (λx=>[(40, .row C bP 1 (x.2.1.map enc)),(42, .row E av 1 (x.2.2.map enc))]) (false,List.replicate c.toks.length 0,List.replicate c.toks.length ⟨#[]⟩) (by simp[qk4]) ?_ ?_
    ·rintro k ⟨sm,hs,rs⟩ hk ⟨p,j,q⟩;simp only at p j q;obtain⟨x,N⟩:=aY hk;obtain⟨_,O⟩:=qBc.1 N;have hxr:=A x (aP N);simp[hk,N,O,-eB'];refine⟨by omega,by omega,by omega,λa Q=>?_⟩;have U:(List.map enc hs).set x.toNat (D.v (Value.int .i64 (-1)))=(hs.set x.toNat (-1)).map enc:=jp hs _ _;rw[U];have r:(hs.set x.toNat (-1)).length=c.toks.length:=by simp[p]
     have t:∀h∈hs.set x.toNat (-1),h<=c.toks.length:=λh hh=>by
      rcases qCh hh with hh|hh
      ·exact q h hh
      ·omega
     generalize hs.set x.toNat (-1)=d at r t ⊢;clear p q Q U;refine ba (X:=List Int×List B) [0,1,5,8,9,10,12,43,44,45] [1] (λx=>qk4 c.toks.length x.1 x.2) (λ_=>[]) (λx=>[(40, .row C bP 1 (x.1.map enc)),(42, .row E av 1 (x.2.map enc))]) ?_ ?_
     ·simp[h1,Vg,lI,qu,-eB'];have hlx:∀(y:Int),d.length=c.toks.length->∃z,d[x.toNat]? =some z:=λ_ _=>aY (by omega)
      refine⟨λhk0 y _ _=>⟨λ_=>⟨by omega,λy2 hy2=>⟨by omega,by omega,λa Q y3 F I=>⟨F,I,λs _=>⟨by omega,by omega,by omega,λz _=>⟨by omega,by omega,by omega,λz2 _=>⟨d.set x.toNat a,rs.set x.toNat s,⟨by simp[r],by simp[j],λh hh=>?_⟩, .inl (jp d _ _), .inl (jp rs _ _)⟩⟩⟩⟩⟩⟩,λ_=>⟨d,rs,⟨r,j,t⟩, .inl rfl, .inl rfl⟩⟩,λ_=>⟨d,rs,⟨r,j,t⟩, .inl rfl, .inl rfl⟩⟩;rcases qCh hh with hh|hh
      ·exact t h hh
      ·have:=A a (aP Q);omega
     ·rintro⟨u,w⟩ ⟨J,K,M⟩;simp only at J K M;simp[-eB'];refine⟨λ_=>⟨by omega,by omega,by omega,λa _=>⟨λ_=>⟨by omega,by omega,by omega,λa2 _=>⟨!decide (a2=⟨#[]⟩),u,w,⟨J,K,M⟩,by simp, .inl rfl, .inl rfl⟩⟩,λ_=>⟨true,u,w,⟨J,K,M⟩,by simp, .inl rfl, .inl rfl⟩⟩⟩,λ_=>⟨true,u,w,⟨J,K,M⟩,by simp, .inl rfl, .inl rfl⟩⟩
    ·rintro⟨sm,hs,rs⟩ ⟨p,j,q⟩;simp only at p j q;simp[-eB'];exact⟨sm,hs,rs,⟨p,j,q⟩,rfl, .inl rfl, .inl rfl⟩
   ·rintro⟨sm,hs,rs⟩ ⟨p,j,q⟩;simp only at p j q;simp;refine⟨λ_=>⟨{ c with heads:=hs,rels:=rs },_,rfl,rfl,?_,⟨hs,rs,rfl,by omega,by omega,q⟩⟩,λ_=>⟨{ c with heads:=[],rels:=[] },_,rfl,rfl,?_,⟨[], [],rfl,by simp,by simp,by simp⟩⟩⟩
    ·simp[qq7];exact⟨qrf bP rfl p.symm,qrf av rfl j.symm⟩
    ·simp[qq7]
abbrev s_m_word:Spc:=aA (a1 Int) (λn=>0<=n/\n< 6) (enc (X:=B)) λ_ y=>y∈BU
def qeg:aq Je Ii S (a1 Int) (λn=>0<=n/\n< 6) (enc (X:=B)) λ_ y=>y∈BU:=by
 rintro n hn;have hn:0<=n/\n< 6:=hn;simp[Je,Ii];refine⟨hn.1,hn.2,?_⟩;have:n=0\/n=1\/n=2\/n=3\/n=4\/n=5:=by omega
 rcases this with rfl|rfl|rfl|rfl|rfl|rfl<;>simp[BU]
abbrev s_m_tag:Spc:=aA (a1 Int) (λn=>0<=n/\n< 2) (enc (X:=B)) λ_ y=>y∈N3
def qiE:aq NK Mm S (a1 Int) (λn=>0<=n/\n< 2) (enc (X:=B)) λ_ y=>y∈N3:=by
 rintro n hn;have hn:0<=n/\n< 2:=hn;simp[NK,Mm];refine⟨hn.1,hn.2,?_⟩;have:n=0\/n=1:=by omega
 rcases this with rfl|rfl<;>simp[N3]
abbrev s_m_features:Spc:=aA (a1 Int) (λn=>0<=n/\n< 4) (enc (X:=B)) λ_ y=>y∈FsetL
def Rr:aq wC vP S (a1 Int) (λn=>0<=n/\n< 4) (enc (X:=B)) λ_ y=>y∈FsetL:=by
 rintro n hn;have hn:0<=n/\n< 4:=hn;simp[wC,vP];refine⟨hn.1,hn.2,?_⟩;have:n=0\/n=1\/n=2\/n=3:=by omega
 rcases this with rfl|rfl|rfl|rfl<;>simp[FsetL]
abbrev s_m_Type:Spc:=aA (a1 Int) bO (enc (X:=B)) qU
def qeh(h1:S vm=s_m_Mod):aq xF xh S (a1 Int) bO (enc (X:=B)) qU:=by
 rintro n -;simp[xF,xh,h1];have h3:=MZ n 3 (by omega);refine⟨h3.1,h3.2,?_⟩;have:II n 3=0\/II n 3=1\/II n 3=2:=by omega
 rcases this with h|h|h<;>simp[h]
abbrev s_m_Attributes:Spc:=aA a0 bO (enc (X:=List Attr)) (λ_ l=>ql2 l)
def LG:aq sy rS S a0 bO (enc (X:=List Attr)) (λ_ l=>ql2 l):=by
 rintro x -;simp[sy,rS];exact br (Y:=List Attr) [⟨⟨#[119,111,114,100]⟩,false⟩,⟨⟨#[116,97,103]⟩,false⟩,⟨⟨#[102,101,97,116]⟩,true⟩] (by simp) rfl
abbrev s_m_nodes:Spc:=qvh qtI qjL Cn TX
abbrev s_m_heads:Spc:=qvh qjL qq7 Cn qb5
def qgE{H:ab}{id el n:Nat}{v:Value}{d a:D}(h:H id=some (.row v el n [d]))(b:FrzTo H d a)(hk:a.kn=true/\a.cells.length=n):FrzTo H (.own id v) (.list n [a]):=by
 refine .row h rfl (λe he=>?_) (λk c c' h1 h2=>?_);grind;grind
def qgk(l:List Int):List D:=l.map enc
def qqC(a b c d e f g h:Int):D.list 1 [.v (.int .i64 a), .v (.int .i64 b), .v (.int .i64 c), .v (.int .i64 d), .v (.int .i64 e), .v (.int .i64 f), .v (.int .i64 g), .v (.int .i64 h)]= .list 1 (qgk [a,b,c,d,e,f,g,h]):=i' rfl
def qgj(l:List Int):(qgk l).length=l.length:=by simp[qgk]
def qj6(l:List Int)(i:Nat)(d:D):((qgk l)[i]? =some d)=∃s,l[i]? =some s/\ .v (.int .i64 s)=d:=by
 simp[qgk]
def qey{l:List (List B)}{r:List B}(h:∀x∈l,Dg x)(a:Dg r):∀x∈l++ [r],Dg x:=λx b=>by
 grind
theorem Rt(h1:S cb=s_m_Next)(h2:S ub=s_m_Attributes)(h3:S Ns=s_m_word)(h4:S Ts=s_m_tag)(h5:S yU=s_m_features)
 (h6:S rr=s_m_Type) (h7:S nU=s_r06_SortRegions) (h8:S tY=s_m_nodes) (h9:S tZ=s_m_heads):
 aq mC mh S (aT (a2 B Int)) (λx=>1<=x.2.2/\x.2.2<=1000) (enc (X:=Corpus)) (λx c=>Yk c/\Uf c/\(c.toks.length:Int)<=x.2.2):=by
 rintro⟨L,name,a⟩ hm;have hm:1<=a/\a<=1000:=hm;simp[mC,mh,h1,h2];refineλb6=>⟨by omega,λy hy=>⟨by grind [InR],trivial,λat_ C v26 E=>?_⟩⟩
 have hal:at_.length=3:=by rw[show at_=att3 from C];rfl
 obtain⟨n,F,hn⟩:∃n:Nat,1+y=(n:Int)/\1<=n/\n<=1000:=⟨(1+y).toNat,by omega,by omega⟩
 rw[F];refine kD (X:=BV) [0,6,7,8] [6] [26] [] (λt=>t.b=0/\t.e=n) (λ_=>[]) (λt=>[(8, .box E [enc at_, .v (.slice none 0 0),enc [t], .v (.slice none 0 0), .v (.slice none 0 0), .v (.slice none 0 0), .v (.slice none 0 0)])]) [8] (λ_=>rfl) (by decide) ?_ ?_
 ·simp[h1,Vg,lI,qu];refineλz _ _=>⟨λ_ u I J=>⟨I,J,λs _=>⟨⟨name,0,n, [⟨⟨#[121,101,97,114]⟩,s⟩]⟩,⟨rfl,rfl⟩, .inl (qgE (el:=BX) (by rfl) (.same _) ⟨rfl,rfl⟩)⟩⟩,λ_=>⟨⟨name,0,n, []⟩,⟨rfl,rfl⟩, .inl (qgE (el:=BX) (by rfl) ?_ ⟨rfl,rfl⟩)⟩⟩
  simp[gT]
 ·rintro t ⟨K,ht2⟩;refine kD (X:=List (List B)) [0,6,7,8] [6] [66] [] (λl=>l.length=n/\∀r∈l,Dg r) (λ_=>[]) (λl=>[(8, .box E [enc at_,enc l,enc [t], .v (.slice none 0 0), .v (.slice none 0 0), .v (.slice none 0 0), .v (.slice none 0 0)])]) [8] (λ_=>rfl) (by decide) ?_ ?_
  ·simp[h1];refine sV (X:=Int×Value×List (List B)) [0,6,7,8] [6] [] [] [] [] (λx=>0<=x.1/\x.1<=n/\(x.2.2.length:Int)=x.1/\∀r∈x.2.2,Dg r) (λx=>[(9,enc x.1)]) (λx=>[(8, .box E [enc at_, .own 66 x.2.1,enc [t], .v (.slice none 0 0), .v (.slice none 0 0), .v (.slice none 0 0), .v (.slice none 0 0)]),(66, .row x.2.1 uT 1 (x.2.2.map enc))]) (λx=>n -x.1.toNat) (0, .slice none 0 0, []) [8,66] (λ_=>rfl) (by decide) (by decide) ?_ ?_ ?_ ?_
   ·simp
   ·simp
   ·simp[isNilRow];exact .nilown 66
   ·rintro⟨i,v,l⟩ ⟨M,N,A,O⟩;simp only at M N A O;simp[h1,h3,h4,h5,qqC,qgj,qj6];refine⟨λhi y d hy1=>?_,λhi=>⟨l,⟨by omega,O⟩, .inl (fM uT (by simp[qbv]))⟩⟩;have a1:y.tmod 8=y % 8:=Int.tmod_eq_emod_of_nonneg d;have a2:y.tdiv 8=y/8:=Int.tdiv_eq_ediv_of_nonneg d;have a3:(y/8).tmod 2=(y/8) % 2:=Int.tmod_eq_emod_of_nonneg (by omega);have a4:y.tdiv 12=y/12:=Int.tdiv_eq_ediv_of_nonneg d;rw[a1,a2,a3,a4];refine⟨by omega,by omega,λs hs=>⟨?_,λw1 Q=>⟨by simp only[InR];omega,by omega,λw2 U=>⟨by simp only[InR];omega,by omega,λw3 W=>⟨by omega,by omega,λY=>⟨by simp only[InR];omega,i+1,Y,l++ [[w1,w2,w3]],⟨by omega,by omega,by simp;omega,qey O ⟨w1,w2,w3,Q,U,W,rfl⟩⟩,⟨rfl, .inl (.inl rfl), .inl (.inl (by simp))⟩,by omega⟩⟩⟩⟩⟩⟩;have:=qBf hs;simp at this;omega
  ·rintro toks ⟨htk,Z⟩;refine kD (X:=List Region) [0,6,7,8] [6,8] [165] [] (λl=>l.length<=8/\∀r∈l,0<=r.b/\r.b<=n/\0<=r.e/\r.e<=n) (λl=>[(11,enc l)]) (λ_=>[]) [] (λ_=>rfl) (by decide) ?_ ?_
   ·simp[h1];intro k hk0 hk1;refine sV (X:=Int×Value×List Region) [0,6,7,8] [6,8] [] [] [] [] (λx=>0<=x.1/\x.1+x.2.2.length<=4/\∀r∈x.2.2,0<=r.b/\r.b<=n/\0<=r.e/\r.e<=n) (λx=>[(11, .own 165 x.2.1),(12,enc x.1)]) (λx=>[(165, .row x.2.1 mI 4 (x.2.2.map enc))]) (λx=>x.1.toNat) (k, .slice none 0 0, []) [165] (λ_=>rfl) (by decide) (by decide) ?_ ?_ ?_ ?_
    ·simp;omega
    ·simp;exact .nilown 165
    ·simp[isNilRow]
    ·rintro⟨k,v,l⟩ ⟨M,N,A⟩;simp only at M N A;simp[h1,h6];refine⟨λhk=>⟨by omega,λu hu z _ _=>⟨trivial,λty=>⟨by simp only[InR];omega,by simp only[InR];omega,by omega,λw hw=>⟨by simp only[InR];omega,λb14=>?_⟩⟩⟩⟩,λhk=>⟨l,⟨by omega,A⟩,fM mI (by simp[qbv])⟩⟩;have hr:0<=u/\u<=n/\0<=u+1+w/\u+1+w<=n:=by omega
     generalize u+1+w=e' at*;refine kD (X:=List Pair) [0,6,7,8,11,12,14] [6,8,165] [] [] (λ_=>True) (λ_=>[]) (λkv=>[(14, .box b14 [.v (.string ty), .v (.int .i64 u), .v (.int .i64 e'),enc kv])]) [14] (λ_=>rfl) (by decide) ?_ ?_
     ·simp[h1,PM,lI,qu];exactλ_ _ _ _ q hq0 hq1=>⟨hq0,hq1,λs _=>⟨[⟨⟨#[110]⟩,s⟩], .inl (.inl rfl)⟩⟩
     ·rintro kv -;simp only[qni,qjY];simp;refine ba (X:=Bool) [0,6,7,8,11,12,14] [6,8,14,165] (λ_=>True) (λx=>[(15,enc x)]) (λ_=>[]) ?_ ?_
      ·simp[-eB'];intro _;refine ah (X:=Bool) [0,6,7,8,11,12,14,101] [6,8,14,165] l.length (λ_ _=>True) (λx=>[(15,enc x)]) (λ_=>[]) false trivial ?_ ?_
       ·rintro j cr hj -;obtain⟨x,hx⟩:=aY hj;obtain⟨_,hgx⟩:=qBc.1 hx;simp[hj,hx,hgx,-eB'];exactλ_ _ _ _=>⟨λ_ _ _=>⟨_,(Bool.not_not _).symm⟩,λ_ _=>⟨_,(Bool.not_not _).symm⟩⟩
       ·rintro cr -;simp[-eB']
      ·rintro cr -;simp[-eB'];refine⟨λ_=>⟨by omega,by omega,λY=>⟨by simp only[InR];omega,k -1,Y,l++ [⟨ty,u,e',kv⟩],⟨by omega,by simp;omega,λr hrr=>?_⟩,⟨⟨.same _,rfl⟩, .inl (.inl (by simp))⟩,by omega⟩⟩,λ_=>⟨by simp only[InR];omega,k -1,v,l,⟨by omega,by omega,A⟩,⟨⟨.same _,rfl⟩, .inl (.inl rfl)⟩,by omega⟩⟩;rcases qBo.1 hrr with hrr|hrr
       ·exact A r hrr
       ·simp at hrr;subst hrr;exact hr
   ·rintro rg ⟨hr1,hr2⟩;simp[h7,h8];refine⟨by simp only[qam];omega,λrs ⟨hs1,hs2⟩=>⟨⟨at_,toks, [t],rs, [], [], []⟩,by simp[qtI],by simp only[Cn];omega,λc hc=>?_⟩⟩;obtain⟨ns,rfl,hns,p⟩:=hc;simp only at p;simp[qjL];refine kD (X:=List Int×List B) [6,8] [6] [] [] (λx=>x.1.length<=n/\x.2.length<=n/\∀h∈x.1,h<=n) (λ_=>[]) (λx=>[(8, .box E [enc at_,enc toks,enc [t],enc rs,enc ns,enc x.1,enc x.2])]) [8] (λ_=>rfl) (by decide) ?_ ?_
    ·simp[h1,h9];refineλz _ _=>⟨λ_=>⟨⟨at_,toks, [t],rs,ns, [], []⟩,by simp[qjL],by simp only[Cn];omega,λc hc=>?_⟩,λ_=>⟨[], [],⟨by simp,by simp,by simp⟩, .inl ⟨rfl,rfl⟩⟩⟩
     obtain⟨hs,rl,rfl,g1,g2,g3⟩:=hc;simp only at g1 g2 g3;simp[qq7];exact⟨hs,rl,⟨by omega,by omega,λh hh=>by have:=g3 h hh;omega⟩, .inl (.inl ⟨rfl,rfl⟩)⟩
    ·rintro⟨hs,rl⟩ ⟨p1,p2,p3⟩;simp only at p1 p2 p3;simp;refine br ⟨at_,toks, [t],rs,ns,hs,rl⟩ (.same _) ⟨?_,⟨C,Z⟩,by show(toks.length:Int)<=a;omega⟩;refine⟨⟨K,by omega,by show t.e=(toks.length:Int);omega⟩,by simp,by simp only;omega,by simp,by simp only;omega,by simp only;omega,by simp only;omega,by simp only;omega,by simp only;omega,λr hr=>?_,λm hm=>?_,p.2,λh hh=>?_⟩
     ·have:=hr2 r (hs2 r hr);simp only;omega
     ·have:=p.1 m hm;simp only;omega
     ·have:=p3 h hh;simp only;omega
end
section
open Go.Proofs
variable {dq:Prop}
def RM:Tri dq Tryz.prog vm s_m_Mod.pt:=
 ac (ag ae) qfM (qiG)
def dg:Tri dq Tryz.prog cb s_m_Next.pt:=qew (S:=H7 [(vm,s_m_Mod)]) (ag (aa RM ae)) rfl MP (by decide)
def qi9:Tri dq Tryz.prog Tt s_m_New.pt:=qi4 (YY (ag ae) qfL (by decide) qiF)
def JA:Tri dq Tryz.prog gU s_r04_First.pt:=
 ac (ag ae) Gd (UH)
def Y6:Tri dq Tryz.prog pW s_r04_Next.pt:=
 ac (ag (aa JA ae)) JN (YF rfl)
def fB:Tri dq Tryz.prog aJ s_r04_ValidName.pt:=
 ac (ag (aa JA (aa Y6 ae))) xr (J9 rfl rfl)
def Vd:Tri dq Tryz.prog rp s_r01_Units.pt:=
 ac (ag ae) SD (UJ)
def Vc:Tri dq Tryz.prog ro s_r01_Valid.pt:=
 ac (ag (aa Vd ae)) SC (UI rfl)
def pk:Tri dq Tryz.prog bH s_r04_ValidValue.pt:=
 ac (ag (aa Vc ae)) Gc (HM rfl)
def Vb:Tri dq Tryz.prog Bt s_r05_Parse.pt:=
 ac (ag (aa pk ae)) SB (UF rfl)
def Y4:Tri dq Tryz.prog EC s_r06_sign.pt:=
 ac (ag ae) Wr (YD)
def OR:Tri dq Tryz.prog we s_r06_compare.pt:=
 ac (ag ae) MF (Ow)
def qV:Tri dq Tryz.prog fP s_r06_CompareRegions.pt:=
 ac (ag (aa Y4 (aa OR ae))) Ac (Av rfl rfl)
def H8:Tri dq Tryz.prog pV s_r06_Attributes.pt:=
 ac (ag (aa fB ae)) Gb (HL rfl)
def U7:Tri dq Tryz.prog Bo s_r06_Value.pt:=
 ac (ag (aa Vb (aa pk ae))) Sy (UC rfl rfl)
def Jz:Tri dq Tryz.prog vk s_r06_pairs.pt:=
 ac (ag (aa fB (aa pk ae))) Sw (UA rfl rfl)
def FE:Tri dq Tryz.prog sS s_r06_within.pt:=
 ac (ag ae) O0 (Re)
def Y5:Tri dq Tryz.prog ED s_r06_bare.pt:=
 ac (ag ae) Ws (YE)
def RJ:Tri dq Tryz.prog yQ s_r06_TextAt.pt:=
 ac (ag ae) O4 (Rh)
def LV:Tri dq Tryz.prog tW s_r06_FindText.pt:=
 ac (ag ae) KD (LA)
def AI:Tri dq Tryz.prog jU s_r06_sameAttributes.pt:=
 ac (ag ae) Ab (Au)
def RI:Tri dq Tryz.prog yP s_r06_cyclic.pt:=
 ac (ag ae) O3 (Rg)
def RH:Tri dq Tryz.prog yO s_r06_tokens.pt:=
 ac (ag (aa U7 ae)) O1 (Rf rfl)
def U5:Tri dq Tryz.prog Bm s_r06_texts.pt:=
 ac (ag (aa fB (aa Jz ae))) Sv (Uz rfl rfl)
def OQ:Tri dq Tryz.prog wc s_r06_regions.pt:=
 ac (ag (aa fB (aa Jz (aa FE (aa qV ae))))) ME (Ov rfl rfl rfl rfl)
def Va:Tri dq Tryz.prog Bq s_r06_Nodes.pt:=
 ac (ag (aa fB (aa FE ae))) SA (UE rfl rfl)
def U6:Tri dq Tryz.prog Bn s_r06_heads.pt:=
 ac (ag (aa fB (aa Y5 (aa RJ (aa RI ae))))) Sx (UB rfl rfl rfl rfl)
def LU:Tri dq Tryz.prog tV s_r06_Validate.pt:=
 ac (ag (aa H8 (aa RH (aa U5 (aa OQ (aa Va (aa U6 ae))))))) KC (Lz rfl rfl rfl rfl rfl rfl)
def U9:Tri dq Tryz.prog Bp s_r06_Valid.pt:=
 ac (ag (aa LU ae)) Sz (UD rfl)
def FF:Tri dq Tryz.prog nU s_r06_SortRegions.pt:=
 ac (ag (aa qV ae)) D0 (Fc rfl)
def LT:Tri dq Tryz.prog tU s_r06_allHeads.pt:=
 ac (ag ae) KB (Ly)
def RK:Tri dq Tryz.prog yR s_r06_Concat.pt:=
 ac (ag (aa U9 (aa AI (aa LV (aa LT ae))))) O5 (Ri rfl rfl rfl rfl)
def qeE:Tri dq Tryz.prog Ns s_m_word.pt:=
 ac (ag ae) qcY (qeg)
def qi8:Tri dq Tryz.prog Ts s_m_tag.pt:=
 ac (ag ae) qfK (qiE)
def RL:Tri dq Tryz.prog yU s_m_features.pt:=
 ac (ag ae) Pd (Rr)
def qeF:Tri dq Tryz.prog rr s_m_Type.pt:=
 ac (ag (aa RM ae)) Qg (qeh rfl)
def LY:Tri dq Tryz.prog ub s_m_Attributes.pt:=
 ac (ag ae) KN (LG)
def LW:Tri dq Tryz.prog tY s_m_nodes.pt:=
 Jv (ag (aa dg ae)) KH (by decide) (qcl rfl)
def LX:Tri dq Tryz.prog tZ s_m_heads.pt:=
 Jv (ag (aa dg ae)) KJ (by decide) (qcm rfl)
def FG:Tri dq Tryz.prog nY s_m_Document.pt:=
 ac (ag (aa dg (aa LY (aa qeE (aa qi8 (aa RL (aa qeF (aa FF (aa LW (aa LX ae)))))))))) D4 (Rt rfl rfl rfl rfl rfl rfl rfl rfl rfl)
def Ku:Tri dq Tryz.prog rX s_m_Corpus.pt:=
 ac (ag (aa dg (aa FG (aa RK ae)))) IB (YJ rfl rfl rfl)
end
section
open Cod (enc dec)
variable {S S0:Nat->Spc}
def kG(c:Int):B:=⟨#[c.toNat.toUInt8]⟩
abbrev s_cpFold1:Spc:=aA (a1 B) (λs=>∃c:Int,0<=c/\c< 128/\s=kG c) (enc (X:=B)) λs y=>∀c:Int,0<=c->c< 128->s=kG c->y=kG (low c)
def Ty{c:Int}(h0:0<=c)(h1:c< 128):Utf8.encode c=kG c:=by
 unfold Utf8.encode kG;have e:c.toNat< 128:=by omega
 have h:Utf8.valid c=true:=by
  unfold Utf8.valid;have:c< 55296:=by omega
  simp[h0,this]
 simp[e,h]
def ST{c:Int}(h0:0<=c)(h1:c< 128):0<=low c/\low c< 128:=by unfold low;split<;>omega
def qbg{c d:Int}(hc:0<=c)(a:c< 128)(k:0<=d)(j:d< 128)(h:kG c=kG d):c=d:=by
 have:c.toNat.toUInt8=d.toNat.toUInt8:=by
  have:=congrArg (λb:B=>b.data.toList.head?) h;simpa [kG]using this
 have:=congrArg UInt8.toNat this;have l:c.toNat.toUInt8.toNat=c.toNat % 256:=qCz ..;have p:d.toNat.toUInt8.toNat=d.toNat % 256:=qCz ..;omega
def qmZ{c d:Int}(hc:0<=c)(a:c< 128)(j:0<=d)(b:d< 128):(kG c=kG d)=(c=d):=propext ⟨qbg hc a j b,λh=>by rw[h]⟩
theorem Yw(h1:S qb=s_cpFold1):aq oq mY S (a1 I32) (λc=>0<=c.val/\c.val< 128) (enc (X:=List I32)) λc y=>y=YM true c:=by
 rintro⟨c⟩ ⟨q,c1⟩;have q:0<=c:=q;have c1:c< 128:=c1;obtain⟨I,J⟩:=ST q c1;have L:∃d:Int,0<=d/\d< 128/\kG c=kG d:=⟨c,q,c1,rfl⟩
 simp[oq,mY,h1,Ty q c1,L,-fB',-eB'];intro y w b;obtain rfl:=w c q c1 rfl;clear w;obtain⟨r,K⟩:∃r,r=low c:=⟨_,rfl⟩
 rw[<-K]at I J ⊢;have j:(kG r).size=1:=rfl;have s:Utf8.decode (kG r) 0=(r.toNat,1):=by
  have h0:0<(kG r).size:=by rw[j];omega
  have W:((kG r)[0]'h0).toNat=r.toNat % 256:=qCz ..;have M:((kG r)[0]'h0).toNat=r.toNat:=by omega
  rw[Go.decode_ascii (kG r) 0 h0 (by omega),M]
 refine aF (X:=Nat×Value×List I32) [4,13] [] (λz=>z.1=0/\z.2.1= .slice none 0 0/\z.2.2=[]\/z.1=1/\z.2.2=Nh ⟨c⟩) (λz=>[(3, .own 40 z.2.1)]) (λz=>[(13, .iter b (kG r) z.1),(40, .row z.2.1 LO 1 (z.2.2.map enc))]) (λz=>1 -z.1) (0, .slice none 0 0, []) (.inl ⟨rfl,rfl,rfl⟩) ?_ (hh:=by simp[isNilRow]);rintro⟨pos,v,l⟩ hz;simp only at hz;rcases hz with⟨rfl,rfl,rfl⟩|⟨rfl,rfl⟩
 ·have x:((r.toNat:Nat):Int)=r:=by omega
  have N:InR .i32 (r -32):=by simp only[InR];omega
  have O:InR .i32 (r -80):=by simp only[InR];omega
  simp[j,s,x,N,O,-fB',-eB'];have A:∀l:List I32,l=([⟨r⟩,⟨r -32⟩,⟨r -80⟩]:List I32).filter (λv=>decide (0<=v.val/\low v.val=r))->l=Nh ⟨c⟩:=λl hl=>by
   rw[hl,Nh];simp only[<-K]
  refine ah (X:=Value×List I32) [4,13,22] [13] 3 (λk z=>z.2=(([⟨r⟩,⟨r -32⟩,⟨r -80⟩]:List I32).take k).filter (λv=>decide (0<=v.val/\low v.val=r))/\z.2.length<=k) (λz=>[(3, .own 40 z.1)]) (λz=>[(40, .row z.1 LO 1 (z.2.map enc))]) (.slice none 0 0, []) ⟨rfl,by simp⟩ ?_ ?_ (hh:=by simp[isNilRow])
  ·rintro k ⟨v,l⟩ hk ⟨hl,hlen⟩;simp only at hl hlen;obtain⟨e,he,C⟩:∃e:Int,e< 128/\([⟨r⟩,⟨r -32⟩,⟨r -80⟩]:List I32)[k]? =some ⟨e⟩/\([.v (.int .i32 r), .v (.int .i32 (r -32)), .v (.int .i32 (r -80))]:List D)[k]? =some (.v (.int .i32 e)):=by
    rcases(by omega:k=0\/k=1\/k=2)with rfl|rfl|rfl
    ·exact⟨r,by omega,rfl,rfl⟩
    ·exact⟨r -32,by omega,rfl,rfl⟩
    ·exact⟨r -80,by omega,rfl,rfl⟩
   obtain⟨E,p⟩:=C;have t:∀h,([.v (.int .i32 r), .v (.int .i32 (r -32)), .v (.int .i32 (r -80))]:List D)[k]'h= .v (.int .i32 e):=λh=>by
    obtain⟨_,h2⟩:=qBc.1 p;exact h2
   have u:(k:Int)< 3:=by omega
   have a:(([⟨r⟩,⟨r -32⟩,⟨r -80⟩]:List I32).take (k+1)).filter (λv=>decide (0<=v.val/\low v.val=r))=l++ ([⟨e⟩]:List I32).filter (λv=>decide (0<=v.val/\low v.val=r)):=by
    rw[qB8,E,qCS,<-hl];rfl
   by_cases h0:0<=e
   ·obtain⟨Q,U⟩:=ST h0 he;have F:∃d:Int,0<=d/\d< 128/\kG e=kG d:=⟨e,h0,he,rfl⟩
    simp[hk,u,p,t,h0,h1,Ty h0 he,F,-fB',-eB'];intro y w;obtain rfl:=w e h0 he rfl;rw[qmZ Q U I J];refine⟨λhh=>⟨by omega,by omega,λv=>⟨v,l++ [⟨e⟩],⟨?_,by simp;omega⟩,rfl, .inl ⟨rfl,by simp⟩⟩⟩,λhh=>⟨v,l,⟨?_,by omega⟩,rfl, .inl ⟨rfl,rfl⟩⟩⟩
    ·simpa [h0,hh]using a.symm
    ·simpa [h0,hh]using a.symm
   ·simp[hk,u,p,t,h0,-fB',-eB'];refine⟨v,l,⟨?_,by omega⟩,rfl, .inl ⟨rfl,rfl⟩⟩;simpa [h0]using a.symm
  ·rintro⟨v,l⟩ ⟨hl,hlen⟩;simp only at hl hlen;have hl:=A l hl;simp[-fB',-eB'];exact⟨1,v,l, .inr ⟨rfl,hl⟩,⟨rfl, .inl rfl, .inl ⟨rfl,rfl⟩⟩,rfl⟩
 ·simp[j,-fB',-eB'];exact br (Nh ⟨c⟩) (fM (l:=Nh ⟨c⟩) LO rfl) rfl
end
section
open Go.Proofs
def oR:CC:=oX [oB 2 (.mv (.const ob))] [0] [] (oX [oA 3 0,oB 4 (.cmp .geq (oT 3) (.const (.int .u8 65))),oA 5 4,oH 6 5 (.mv (oT 0)),oH 7 5 (.cmp .leq (oT 6) (.const (.int .u8 90))),oB 8 (.pick (oT 5) (oT 7) (.const ob)),oA 9 8,oI 10 9 (.mv (oT 0)),oI 11 9 (.cmp .geq (oT 10) (.const (.int .u8 97))),oI 12 9 (.mv (oT 11)),oH 13 12 (.mv (oT 0)),
 oH 14 12 (.cmp .leq (oT 13) (.const (.int .u8 122))),oI 15 9 (.pick (oT 12) (oT 14) (.const ob)),oB 16 (.pick (oT 9) (.const (.bool true)) (oT 15)),oA 17 16,oI 18 17 (.mv (oT 0)),oI 19 17 (.eql false false [.int] (oT 18) (.const (.int .u8 95))),oB 20 (.pick (oT 17) (.const (.bool true)) (oT 19)),oA 2 20] [2] [] (.ret))
def np:List ai:=[.tmp 2]
def oQ:CC:=oX [oB 2 (.mv (.const ob))] [0] [] (oX [oA 3 0,oZ 4 ca [oT 3],oA 5 4,oI 6 5 (.mv (oT 0)),oI 7 5 (.cmp .geq (oT 6) (.const (.int .u8 48))),oI 8 5 (.mv (oT 7)),oH 9 8 (.mv (oT 0)),oH 10 8 (.cmp .leq (oT 9) (.const (.int .u8 57))),oI 11 5 (.pick (oT 8) (oT 10) (.const ob)),oB 12 (.pick (oT 5) (.const (.bool true)) (oT 11)),oA 13 12,
 oI 14 13 (.mv (oT 0)),oI 15 13 (.eql false false [.int] (oT 14) (.const (.int .u8 45))),oB 16 (.pick (oT 13) (.const (.bool true)) (oT 15)),oA 2 16] [2] [] (.ret))
def nn:List ai:=[.tmp 2]
def km:CC:=oX [oB 2 (.mv (.const ob))] [0] [] (.seq (oX [oA 4 0,oB 5 (.slen (oT 4)),oB 6 (.cmp .lss (oT 5) (oN 1)),oA 7 6,oI 8 7 (.mv (oT 0)),oI 9 7 (.slen (oT 8)),oI 10 7 (.cmp .gtr (oT 9) (oN 32)),oB 11 (.pick (oT 7) (.const (.bool true)) (oT 10)),oA 12 11,oI 13 12 (.mv (oT 0)),oI 14 12 (.sidx (oT 13) (oN 0)),oI 15 12 (.call ca [oT 14]),
 oI 16 12 (.not (oT 15)),oB 17 (.pick (oT 12) (.const (.bool true)) (oT 16))] [0,17] [] (.ite (oT 17) (oX [oB 2 (.mv (.const ob))] [2] [] (.ret)) (.skip))) (.keep [0] [] (.seq (oX [oA 18 0,oB 19 (.slen (oT 18)),oB 20 (.mv (oN 0))] [0,19,20] [] (uX 0 20 19 21 1 (oX [oA 22 20,oA 3 22] [0,3,19,20] [] (oX [oA 23 0,oA 24 3,oB 25 (.sidx (oT 23) (oT 24)),oZ 26 eJ [oT 25],
 oB 27 (.not (oT 26))] [0,19,20,27] [] (.ite (oT 27) (oX [oB 2 (.mv (.const ob))] [2] [] (.ret)) (.skip)))) 28)) (.keep [] [] (oX [oB 2 (.mv (.const (.bool true)))] [2] [] (.ret))))))
def jH:List ai:=[.tmp 2]
def kj:CC:=gq Tryz.f197 [] {} _
def jG:List ai:=[.tmp 2]
def A1:FO cz [] kj jG 24:=fo
def lA:CC:=gq Tryz.f212 [] {} _
def kZ:List ai:=[.tmp 4]
def CA:FO mr [] lA kZ 17:=fo
def uE:CC:=gq Tryz.f152 [] {} _
def tH:List ai:=[.tmp 4]
def MT:FO wj [] uE tH 19:=fo
def cp:CC:=gq Tryz.f211 [] {} _
def ck:List ai:=[.tmp 2, .tmp 3]
def IC:FO rY [] cp ck 71:=fo
end
end Go.Gv
