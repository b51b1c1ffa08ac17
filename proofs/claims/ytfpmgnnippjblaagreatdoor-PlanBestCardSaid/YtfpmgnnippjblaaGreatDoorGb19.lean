/- V58 -/
import Derived.Test.YtfpmgnnippjblaaGreatDoorGb18
set_option linter.all false
set_option maxRecDepth 100000
set_option maxHeartbeats 0
open Bool renaming forall_bool → fB', exists_bool → eB'
namespace Go.Gv
section
open Go.Proofs
theorem qmn:∀w∈DJ,w∈wordsA:=by decide
theorem qqc:∀w∈Qv,w∈wordsA:=by decide
theorem qn5:∀w∈FsetL,w∈wordsA:=by decide
def qmL:∀w∈ValsI,w∈valsA:=by decide
def qkO:ft∈wordsA:=by decide
def qo2{toks:List (List B)}(h:∀r∈toks,EZ r)(i k:Int):sj toks i k∈wordsA:=by
 unfold sj;split
 ·exact qkO
 ·split
  ·rename_i r a;obtain⟨w,t,f,b,c,d,rfl⟩:=h r (qFP a);split
   ·rename_i s hs;have hm:=qFP hs;simp only[qF5,qGi,or_false]at hm;grind [EZ,qmn,qqc,qn5]
   ·exact qkO
  ·exact qkO
def qg5:dT att3 FB=2:=by decide
def qhF{toks:List (List B)}(h:∀r∈toks,EZ r){i:Int}(h0:0<=i)(h1:i<toks.length):∃f∈FsetL,sj toks i 2=f:=by
 obtain⟨j,rfl⟩:∃j:Nat,i=(j:Int):=⟨i.toNat,by omega⟩
 obtain⟨r,a⟩:∃r,toks[j]? =some r:=⟨toks[j]'(by omega),qFQ _⟩
 obtain⟨w,t,f,c,d,b,rfl⟩:=h r (qFP a);refine⟨f,b,?_⟩;unfold sj;grind
structure qbq (E:R3):Prop where
 c:OkCorp E.c
 t0:0<=E.tok
 t1:E.tok<E.c.toks.length
 l:E.bd.length=E.lb.length
theorem qpv{E:R3}(b:qbq E){n:Nat}{x:Cond}(h:GA E.lb x):∃y,qW E (n+1) x=some y:=by
 cases h with
 | val nm v f h1 h2=>
   obtain⟨y,p⟩:=Pq (qmL v h2) (qo2 b.c.2.2.2 E.tok (qX E.c.attrs nm)) f;refine⟨y,?_⟩;unfold qW;grind
 | feat v h=>
   obtain⟨f,d,e⟩:=qhF b.c.2.2.2 b.t0 b.t1;have q:v=⟨#[112]⟩\/v=⟨#[113]⟩:=by grind [FeatL]
   have j:(featS.any λz=>decide (z=f))=true:=qGS.2 ⟨f,d,decide_eq_true rfl⟩;refine⟨featS.any (λ_=>false)||f.data.toList.any λc=>decide (v.data.toList=[c]),?_⟩;unfold qW;rw[if_neg (show ¬(3:Int)=1 by decide),if_neg (show ¬(3:Int)=2 by decide),if_pos rfl];simp only[b.c.1,qg5,e];simp_all [RK]
 | same nm l a h1 h2 h3=>
   obtain⟨k,hk⟩:∃k:Nat,jM E.lb (λz=>decide (z=l))=(k:Int):=by
    rcases PB (λz=>decide (z=l)) E.lb with⟨e,h⟩|⟨k,_,e,_⟩
    grind;grind
   have r:=IF (λz=>decide (z=l)) E.lb;obtain⟨o,ho⟩:∃o,E.bd[k]? =some o:=⟨E.bd[k]'(by grind [b.l]),qFQ _⟩
   refine⟨decide (0<=o) && decide (sj E.c.toks E.tok (dT E.c.attrs nm)=sj E.c.toks o (dT E.c.attrs a)),?_⟩;unfold qW;grind
 |reg nm h=>exact⟨_,by rfl⟩
 |regk nm v h1 h2=>exact⟨_,by rfl⟩
def qj2{E:R3}{n:Nat}{k:Cond}{y:Bool}(h:qW E n k=some y):qW E (n+1) ⟨6,E0,E0,E0,E0,false, [k]⟩=some (!y):=by
 unfold qW;grind
def qj4{E:R3}{n:Nat}{a b:Cond}{p q:Bool}(h1:qW E n a=some p)(h2:qW E n b=some q):qW E (n+1) ⟨7,E0,E0,E0,E0,false, [a,b]⟩=some (p && q):=by
 unfold qW;grind
def qpu{E:R3}{n:Nat}{a b:Cond}{p q:Bool}(h1:qW E n a=some p)(h2:qW E n b=some q):qW E (n+1) ⟨8,E0,E0,E0,E0,false, [a,b]⟩=some (p||q):=by
 simp_all [qW]
def qeD{E:R3}(d:qbq E):∀{n m:Nat} {x:Cond},GI E.lb n x->n<m->∃y,qW E m x=some y
 | _,m+1,_, .atom n c h,_=>qpv d h
 | _,m+1,_, .not n k h,hm=>by
   obtain⟨y,j⟩:=qeD (m:=m) d h (by omega);simp_all [qj2]
 | _,m+1,_, .two n op a b ho h1 h2,hm=>by
   obtain⟨p,hp⟩:=qeD (m:=m) d h1 (by omega);obtain⟨q,l⟩:=qeD (m:=m) d h2 (by omega);rcases ho with rfl|rfl;simp_all [qj4];simp_all [qpu]
def qj3{E:R3}(a:qbq E){n m:Nat}{x:Cond}(h:GC E.lb n x)(hm:n<m):∃y,qW E m x=some y:=by
 obtain⟨m,rfl⟩:∃k,m=k+1:=⟨m -1,by omega⟩
 cases h with
 |any=>exact⟨true,by rfl⟩
 | top v f h=>
   have b:v∈valsA:=(by decide:∀w∈ValsT,w∈valsA) v h;obtain⟨y,d⟩:=Pq b (qo2 a.c.2.2.2 E.tok (qX E.c.attrs E0)) f;refine⟨y,?_⟩;unfold qW;grind
 |inner c h=>exact qeD a h hm
def qtF:Bool:=Attr2.all λnm=>ValsI.all λv=>oh att3 [] ⟨2,nm,E0,v,E0,false, []⟩ && oh att3 [] ⟨2,nm,E0,v,E0,true, []⟩
def qp7:qtF=true:=by kernel_rfl
def qtJ:Bool:=ValsT.all λv=>oh att3 [] ⟨2,E0,E0,v,E0,false, []⟩ && oh att3 [] ⟨2,E0,E0,v,E0,true, []⟩
def qhQ:qtJ=true:=by rfl
def qrs:Bool:=FeatL.all λv=>oh att3 [] ⟨3,FB,E0,v,E0,false, []⟩
def qoe:qrs=true:=by rfl
def qt7:Bool:=Types.all λn=>oh att3 [] ⟨5,n,E0,E0,E0,false, []⟩ && NumL.all λv=>oh att3 [] ⟨5,n,qo6,v,E0,false, []⟩
def qi3:qt7=true:=by rfl
def qA0:Bool:=Attr2.all λn=>decide (0<=dT att3 n)
def qps:qA0=true:=by rfl
def Pk{lb:List B}{nm v:B}{f:Bool} :oh att3 lb ⟨2,nm,E0,v,E0,f, []⟩=oh att3 [] ⟨2,nm,E0,v,E0,f, []⟩:=rfl
def qf8{lb:List B}{v:B} :oh att3 lb ⟨3,FB,E0,v,E0,false, []⟩=oh att3 [] ⟨3,FB,E0,v,E0,false, []⟩:=rfl
def ZH{lb:List B}{n a v:B} :oh att3 lb ⟨5,n,a,v,E0,false, []⟩=oh att3 [] ⟨5,n,a,v,E0,false, []⟩:=rfl
theorem VG{lb:List B}{x:Cond}(h:GA lb x):oh att3 lb x=true:=by
 cases h with
 | val nm v f h1 h2=>
   rw[Pk];have h:=qFT.1 (qFT.1 qp7 nm h1) v h2;simp only[qFS]at h;cases f<;>grind
 | feat v h=>
   rw[qf8];exact qFT.1 qoe v h
 | same nm l a h1 h2 h3=>
   have b:=qFT.1 qps nm h1;have c:=qFT.1 qps a h3;have d:(lb.any λz=>decide (z=l))=true:=qGS.2 ⟨l,h2,decide_eq_true rfl⟩;have j:qfL ⟨4,nm,a,E0,l,false, []⟩=true:=by
    rfl
   have k:qny att3 ⟨4,nm,a,E0,l,false, []⟩=true:=by
    unfold qny;grind
   have p:qv1 att3 lb ⟨4,nm,a,E0,l,false, []⟩=true:=by
    unfold qv1;grind
   grind [oh]
 | reg nm h=>
   rw[ZH];have h:=qFT.1 qi3 nm h;grind
 | regk nm v h1 h2=>
   rw[ZH];have h:=qFT.1 qi3 nm h1;grind
def F6{a:List Attr}{lb:List B}{m:Nat}{x:Cond}(h:oh a lb x=true)(hk:x.kids=[]):sB a lb (m+1) x=true:=by
 grind [sB]
def SO{lb:List B}{m:Nat}{k:Cond}(h:sB att3 lb m k=true):sB att3 lb (m+1) ⟨6,E0,E0,E0,E0,false, [k]⟩=true:=by
 have e:oh att3 lb ⟨6,E0,E0,E0,E0,false, [k]⟩=true:=rfl;grind [sB]
def SN{lb:List B}{m:Nat}{op:Int}{a b:Cond}(ho:op=7\/op=8)(h1:sB att3 lb m a=true)(h2:sB att3 lb m b=true):sB att3 lb (m+1) ⟨op,E0,E0,E0,E0,false, [a,b]⟩=true:=by
 have e:oh att3 lb ⟨op,E0,E0,E0,E0,false, [a,b]⟩=true:=by rcases ho with rfl|rfl<;>rfl
 grind [sB]
theorem Iw{lb:List B} :∀{n m:Nat} {x:Cond},GI lb n x->n<m->sB att3 lb m x=true
 | _,m+1,_, .atom n c h,_=>F6 (VG h) (wG h)
 | _,m+1,_, .not n k h,hm=>SO (Iw h (by omega))
 | _,m+1,_, .two n op a b ho h1 h2,hm=>SN ho (Iw h1 (by omega)) (Iw h2 (by omega))
theorem qnx{k:Cond}{op:Int} :cQ ⟨op,E0,E0,E0,E0,false, [k]⟩=cQ k+1:=by rfl
theorem qnw{a b:Cond}{op:Int} :cQ ⟨op,E0,E0,E0,E0,false, [a,b]⟩=cQ a+cQ b+1:=by rfl
theorem qop{k:Cond}{op:Int} :bi ⟨op,E0,E0,E0,E0,false, [k]⟩=bi k+1:=by grind [bi,jC]
theorem qoo{a b:Cond}{op:Int} :bi ⟨op,E0,E0,E0,E0,false, [a,b]⟩=max (bi a) (bi b) +1:=by grind [bi,jC]
theorem Py{x:Cond}(h:x.kids=[]):cQ x=1/\bi x=1:=by
 rw[rS,Bg,h];exact⟨rfl,rfl⟩
def Wd{lb:List B} :∀{n:Nat} {x:Cond},GI lb n x->cQ x+1<=2^ (n+1)/\bi x<=n+1
 | _,_, .atom n c h=>by
   grind [Py,wG]
 | _,_, .not n k h=>by
   have:=Wd h;grind [qnx,qop]
 | _,_, .two n op a b ho h1 h2=>by
   have:=Wd h1;have:=Wd h2;grind [qnw,qoo]
def qcU{lb:List B}{n:Nat}{x:Cond}(h:GC lb n x):cQ x+1<=2^ (n+1)/\bi x<=n+1:=by
 have h2:2^1<=2^ (n+1):=Nat.pow_le_pow_right (by decide) (by omega);cases h with
 |any=>have:=Py (x:=⟨1,E0,E0,E0,E0,false, []⟩) rfl;omega
 |top v f h=>have:=Py (x:=⟨2,E0,E0,v,E0,f, []⟩) rfl;omega
 |inner c h=>exact Wd h
theorem Pl{lb:List B}{n m:Nat}{x:Cond}(h:GC lb n x)(hm:n<m):sB att3 lb m x=true:=by
 obtain⟨m,rfl⟩:∃k,m=k+1:=⟨m -1,by omega⟩
 cases h with
 |any=>rfl
 | top v f h=>
   refine F6 ?_ rfl;have h:=qFT.1 qhQ v h;simp only[qFS]at h;rw[Pk];cases f<;>grind
 |inner c h=>grind [Iw]
theorem qjl{a:List Attr}{lb:List B}{x:Cond}(h1:cQ x<=60)(h2:bi x<=20)(h3:sB a lb 20 x=true):ql4 a lb x=true:=by
 grind [ql4]
def qqV{lb:List B}{n:Nat}{x:Cond}(h:GC lb n x)(hn:n<=4):ql4 att3 lb x=true:=by
 obtain⟨h1,h2⟩:=qcU h;have h3:2^ (n+1)<=2^5:=Nat.pow_le_pow_right (by decide) (by omega);grind [qjl,Pl]
open Cod (enc dec)
variable {S S0:Nat->Spc}
def qiS{c:Corpus}(h:OkCorp c){i:Int}(h0:0<=i)(h1:i<c.toks.length):∃w t f,w∈DJ/\t∈Qv/\f∈FsetL/\c.toks[i.toNat]? =some [w,t,f]/\sj c.toks i 0=w/\sj c.toks i 1=t/\sj c.toks i 2=f:=by
 obtain⟨r,a⟩:=aQ (show i.toNat<c.toks.length by omega);obtain⟨w,t,f,b,d,j,rfl⟩:=h.2.2.2 r (qFP a);refine⟨w,t,f,b,d,j,a,?_,?_,?_⟩ <;>(unfold sj;rw[if_neg (by omega),a];rfl)
def qsi:dT att3 uF=0:=by decide
def qsj:dT att3 LA=1:=by decide
def qwo:dT att3 FB=2:=by decide
def qDu:dT att3 ft= -1:=by decide
def qCa:qX att3 uF=0:=by decide
def qCb:qX att3 LA=1:=by decide
def qCc:qX att3 ft=0:=by decide
def qA3:max (0:Int) (-1)=0:=by decide
def qun:max (0:Int) 0=0:=by decide
def qum:max (0:Int) 1=1:=by decide
def qA4:max (0:Int) 2=2:=by decide
def qtx{w:B}(h:w∈DJ):w∈WT:=qF1.2 (.inl h)
def qz5{w:B}(h:w∈Qv):w∈WT:=qF1.2 (.inr h)
def qg9(n:Nat)(z:HZ):Prop:=OkCorp z.1/\qpn z.1.attrs z.2.2.2.1 n z.2.1/\0<=z.2.2.1/\z.2.2.1<z.1.toks.length/\z.2.2.2.2.length=z.2.2.2.1.length/\z.2.2.2.1.length<=1000/\(∀b∈z.2.2.2.2, -1<=b/\b<z.1.toks.length)/\∃y,qW (qkG z) n z.2.1=some y
abbrev Ou(n:Nat):Spc:=ay aH (qg9 n) (enc (X:=Bool)) (qpH n)
set_option maxHeartbeats 4000000 in
theorem XA(n:Nat)(h1:S wK=Ou n)(h2:S fZ=s_rAttr)(h3:S rW=s_rMatches)(h4:S rX=s_rFeat):
 aq dg df S aH (qg9 (n+1)) (enc (X:=Bool)) (qpH (n+1)):=by
 rintro⟨c,x,tok,lb,bd⟩ ⟨hc,⟨hnd,hr,hkk⟩,t0,t1,hbl,hll,hb,y,hy⟩;simp only at hc hnd hr hkk t0 t1 hbl hll hb;have hy0:qW ⟨c,tok,lb,bd⟩ (n+1) x=some y:=hy;have hQ:∀w,w=y->qpH (n+1) (c,x,tok,lb,bd) w:=λw e=>by subst e;exact hy
 clear hy;have hca:=hc.1;have hl:(c.toks.length:Int)<=9223372036854775807:=by have:=hc.2.2.1;omega
 have hl2:(lb.length:Int)<=9223372036854775807:=by omega
 have hl3:(bd.length:Int)<=9223372036854775807:=by omega
 obtain⟨w,t,f,hw,ht,hf,hrow,v0,v1,v2⟩:=qiS hc t0 t1;obtain⟨_,hgrow⟩:=qFN.1 hrow;obtain⟨op,name,arg,val,lab,fold,ks⟩:=x;obtain⟨r2,r3,r4,r5⟩:=hr;simp only at r2 r3 r4 r5 hkk;unfold qW at hy0;simp only at hy0;split at hy0
 ·rename_i e;subst e;obtain rfl:=qFY hy0;simp[dg,df,h2,-fB',-eB'];exact hQ _ rfl
 rename_i e1;split at hy0
 ·rename_i e;subst e;obtain⟨hv,hnm⟩:=r2 rfl;have hnm:name=ft\/name=uF\/name=LA:=by simpa [Attr2]using hnm
  rcases hnm with rfl|rfl|rfl
  ·simp only[hca,qCc,v0]at hy0;simp[dg,df,h2,h3,hca,qDu,qA3,t0,t1,hl,hrow,hgrow,hv,qtx hw,-fB',-eB'];exactλu hu=>hQ _ (qFY (hu.symm.trans hy0))
  ·simp only[hca,qCa,v0]at hy0;simp[dg,df,h2,h3,hca,qsi,qun,t0,t1,hl,hrow,hgrow,hv,qtx hw,-fB',-eB'];exactλu hu=>hQ _ (qFY (hu.symm.trans hy0))
  ·simp only[hca,qCb,v1]at hy0;simp[dg,df,h2,h3,hca,qsj,qum,t0,t1,hl,hrow,hgrow,hv,qz5 ht,-fB',-eB'];exactλu hu=>hQ _ (qFY (hu.symm.trans hy0))
 rename_i e2;split at hy0
 ·rename_i e;subst e;obtain⟨hv,rfl⟩:=r3 rfl;simp only[hca,qwo,v2]at hy0;simp[dg,df,h2,h4,hca,qwo,qA4,t0,t1,hl,hrow,hgrow,hv,hf,-fB',-eB'];refine hQ _ ?_;unfold RK at hy0;split at hy0
  ·exact qFY hy0
  ·cases hy0
 rename_i e3;split at hy0
 ·rename_i e;subst e;obtain⟨hn4,ha4⟩:=r4 rfl;have hn4:name=uF\/name=LA:=by simpa [Attr2]using hn4
  have ha4:arg=uF\/arg=LA:=by simpa [Attr2]using ha4
  split at hy0
  ·cases hy0
  rename_i hj;simp[dg,df,h2,hl2,-fB',-eB'];refine ah (X:=Unit) [2,4,5,6,11,60] [] lb.length (λk _=>∀x∈lb.take k,decide (x=lab)=false) (λ_=>[]) (λ_=>[]) () (by simp) ?_ ?_
  ·intro k _ hk hP;obtain⟨x,hx⟩:=aQ hk;obtain⟨_,hgx⟩:=qFN.1 hx;by_cases hxl:x=lab
   rotate_left
   ·simp[hk,hx,hgx,hxl,-fB',-eB'];rw[au hx];intro z hz;rcases qF1.1 hz with hz|hz
    ·simpa using hP z hz
    ·simp at hz;subst hz;simpa using hxl
   have hi:=pu hx (by simp[hxl]) hP;rw[hi]at hy0;obtain⟨o,ho⟩:=aQ (show k<bd.length by omega);obtain⟨hkb,hgo⟩:=qFN.1 ho;obtain⟨o0,o1⟩:=hb o (qFP ho);simp only[qHz,ho]at hy0;have hy1:=qFY hy0;by_cases h0o:o= -1
   ·simp[hk,hx,hgx,hxl,hkb,ho,hgo,h0o,hl3,-fB',-eB'];exact hQ _ (by rw[<-hy1,h0o];rfl)
   have ho0:0<=o:=by omega
   obtain⟨w',t',f',hw',ht',hf',hrow',v0',v1',v2'⟩:=qiS hc ho0 o1;obtain⟨_,hgrow'⟩:=qFN.1 hrow';rcases hn4 with rfl|rfl<;>rcases ha4 with rfl|rfl<;>
   ·simp[hk,hx,hgx,hxl,hkb,ho,hgo,h0o,hl3,h2,hca,qsi,qsj,qun,qum,t0,t1,hl,hrow,hgrow,ho0,o1,hrow',hgrow',-fB',-eB'];exact hQ _ (by rw[<-hy1];simp[ho0,hca,qsi,qsj,v0,v1,v0',v1'])
  ·intro _ hP;have hn:=ib (p:=λz=>decide (z=lab)) (l:=lb) (by simpa using hP);exact(hj (by rw[hn];decide)).elim
 rename_i e4;split at hy0
 ·rename_i e;subst e;have hy1:=qFY hy0;simp[dg,df,h2,-fB',-eB'];intro hrl;refine ah (X:=Unit) [2,6,106] [] c.regs.length (λk _=>∀r∈c.regs.take k,xy ⟨5,name,arg,val,lab,fold,ks⟩ tok r=false) (λ_=>[]) (λ_=>[]) () (by simp) ?_ ?_
  ·intro k _ hk hP;obtain⟨r,hx⟩:=aQ hk;obtain⟨_,hgx⟩:=qFN.1 hx;have hyes:xy ⟨5,name,arg,val,lab,fold,ks⟩ tok r=true->true=y:=λh=>by
    rw[<-hy1];exact(qGS.2 ⟨r,qFP hx,h⟩).symm
   have hnext:xy ⟨5,name,arg,val,lab,fold,ks⟩ tok r=false->∀z∈c.regs.take (k+1),xy ⟨5,name,arg,val,lab,fold,ks⟩ tok z=false:=λh z hz=>by
    rw[au hx]at hz;rcases qF1.1 hz with hz|hz
    ·exact hP z hz
    ·simp at hz;subst hz;exact h
   clear hP;by_cases c1:r.ty=name
   rotate_left
   ·simp[hk,hx,hgx,c1,-fB',-eB'];exact hnext (by simp[xy,c1])
   by_cases c2:r.b<=tok
   rotate_left
   ·have c2':tok<r.b:=by omega
    simp[hk,hx,hgx,c1,c2,c2',-fB',-eB'];exact hnext (by simp[xy,c1,c2])
   have c2':¬tok<r.b:=by omega
   by_cases c3:tok<r.e
   rotate_left
   ·have c3':r.e<=tok:=by omega
    simp[hk,hx,hgx,c1,c2,c2',c3,c3',-fB',-eB'];exact hnext (by simp[xy,c1,c2,c3])
   have c3':¬r.e<=tok:=by omega
   by_cases c4:arg=ft
   ·have c4':arg=⟨#[]⟩:=c4;simp[hk,hx,hgx,c1,c2,c2',c3,c3',c4',-fB',-eB'];have:=hyes (by simp[xy,c1,c2,c3,c4]);rw[c4']at hQ;exact hQ _ this
   have c4':¬arg=⟨#[]⟩:=c4;simp[hk,hx,hgx,c1,c2,c2',c3,c3',c4',-fB',-eB'];intro hkl;refine ah (X:=Unit) [2,6,106,107,108,133] [] r.kv.length (λj _=>∀p∈r.kv.take j,¬p=⟨arg,val⟩) (λ_=>[]) (λ_=>[]) () (by simp) ?_ ?_
   ·intro j _ hj hP;obtain⟨p,hp⟩:=aQ hj;obtain⟨_,hgp⟩:=qFN.1 hp;obtain⟨pn,pv⟩:=p;by_cases d1:pn=arg
    rotate_left
    ·simp[hj,hp,hgp,d1,-fB',-eB'];rw[au hp];intro z hz;rcases qF1.1 hz with hz|hz
     ·exact hP z hz
     ·simp at hz;subst hz;intro e;cases e;exact d1 rfl
    by_cases d2:pv=val
    rotate_left
    ·simp[hj,hp,hgp,d1,d2,-fB',-eB'];rw[au hp];intro z hz;rcases qF1.1 hz with hz|hz
     ·exact hP z hz
     ·simp at hz;subst hz;intro e;cases e;exact d2 rfl
    simp[hj,hp,hgp,d1,d2,-fB',-eB'];exact hQ _ (hyes (by
     have hm:Z6 r.kv ⟨arg,val⟩=true:=qGS.2 ⟨⟨pn,pv⟩,qFP hp,by rw[d1,d2];exact decide_eq_true rfl⟩;simp[xy,c1,c2,c3,hm]))
   ·intro _ hP;simp[-fB',-eB'];refine hnext ?_;have hm:Z6 r.kv ⟨arg,val⟩=false:=List.any_eq_false.2 λp hp=>by
     have:=hP p (by simpa using hp);simpa using this
    simp[xy,c4,hm]
  ·intro _ hP;simp[-fB',-eB'];refine hQ _ ?_;rw[<-hy1];exact(List.any_eq_false.2 λr hr=>by
    have:=hP r (by simpa using hr);simpa using this).symm
 rename_i e5;split at hy0
 ·rename_i e;subst e;split at hy0
  ·rename_i k ks';obtain⟨b,hb1,rfl⟩:=qFW.1 hy0;have hp:qg9 n (c,k,tok,lb,bd):=⟨hc,hkk k (.head _),t0,t1,hbl,hll,hb,b,hb1⟩
   simp[dg,df,h1,h2,hp,-fB',-eB'];intro w hw;have hw:qW ⟨c,tok,lb,bd⟩ n k=some w:=hw;rw[hb1]at hw;cases hw;exact hQ _ rfl
  ·cases hy0
 rename_i e6;split at hy0
 rotate_left
 ·cases hy0
 rename_i hall;have hal:∀k∈ks,∃b,qW ⟨c,tok,lb,bd⟩ n k=some b:=λk hk=>qGu.1 (qFT.1 hall k hk)
 have hop:op=7\/op=8:=by
  unfold oh at hnd;simp only[qFS]at hnd;have hs:=hnd.1.1;unfold qfL at hs;simp only[e1,e2,e3,e4,e5,e6,if_false]at hs;split at hs
  ·assumption
  ·cases hs
 rcases hop with e|e
 ·subst e;have hy1:=qFY ((if_pos rfl).symm.trans hy0);simp[dg,df,h2,-fB',-eB'];intro hkl;refine ah (X:=Unit) [2,3,4,5,6,164] [] ks.length (λk _=>∀z∈ks.take k,qW ⟨c,tok,lb,bd⟩ n z=some true) (λ_=>[]) (λ_=>[]) () (by simp) ?_ ?_
  ·intro k _ hk hP;obtain⟨z,hx⟩:=aQ hk;obtain⟨_,hgx⟩:=qFN.1 hx;have hzm:=qFP hx;obtain⟨b,hb1⟩:=hal z hzm;have hp:qg9 n (c,z,tok,lb,bd):=⟨hc,hkk z hzm,t0,t1,hbl,hll,hb,b,hb1⟩
   simp[hk,hx,hgx,h1,hp,-fB',-eB'];intro w hw;have hw:qW ⟨c,tok,lb,bd⟩ n z=some w:=hw;cases w
   ·simp[-fB',-eB'];refine hQ _ ?_;rw[<-hy1,qGS.2 ⟨z,hzm,by rw[hw];rfl⟩];rfl
   ·simp[-fB',-eB'];rw[au hx];intro u hu;rcases qF1.1 hu with hu|hu
    ·exact hP u hu
    ·simp at hu;subst hu;exact hw
  ·intro _ hP;simp[-fB',-eB'];refine hQ _ ?_;rw[<-hy1];rw[List.any_eq_false.2 λz hz=>by rw[hP z (by simpa using hz)];decide];rfl
 ·subst e;have hy1:=qFY ((if_neg (by decide)).symm.trans hy0);simp[dg,df,h2,-fB',-eB'];intro hkl;refine ah (X:=Unit) [2,3,4,5,6,164] [] ks.length (λk _=>∀z∈ks.take k,qW ⟨c,tok,lb,bd⟩ n z=some false) (λ_=>[]) (λ_=>[]) () (by simp) ?_ ?_
  ·intro k _ hk hP;obtain⟨z,hx⟩:=aQ hk;obtain⟨_,hgx⟩:=qFN.1 hx;have hzm:=qFP hx;obtain⟨b,hb1⟩:=hal z hzm;have hp:qg9 n (c,z,tok,lb,bd):=⟨hc,hkk z hzm,t0,t1,hbl,hll,hb,b,hb1⟩
   simp[hk,hx,hgx,h1,hp,-fB',-eB'];intro w hw;have hw:qW ⟨c,tok,lb,bd⟩ n z=some w:=hw;cases w
   ·simp[-fB',-eB'];rw[au hx];intro u hu;rcases qF1.1 hu with hu|hu
    ·exact hP u hu
    ·simp at hu;subst hu;exact hw
   ·simp[-fB',-eB'];exact hQ _ (hy1.symm.trans (qGS.2 ⟨z,hzm,by rw[hw];rfl⟩)).symm
  ·intro _ hP;simp[-fB',-eB'];refine hQ _ ?_;rw[<-hy1];rw[List.any_eq_false.2 λz hz=>by rw[hP z (by simpa using hz)];decide]

end
section
open Go.Proofs X
def qFt:IE ⟨#[97]⟩=true:=by kernel_rfl
def qFs:IE ⟨#[98]⟩=true:=by kernel_rfl
def qFq:IE ⟨#[91,97,98,93]⟩=true:=by kernel_rfl
def qFp:IE ⟨#[88]⟩=true:=by kernel_rfl
def qFo:IE ⟨#[]⟩=true:=by kernel_rfl
def qFn:IE ⟨#[99,63]⟩=true:=by kernel_rfl
def qFl:IE ⟨#[89]⟩=true:=by kernel_rfl
def qu7:(sV ⟨#[97,46,42]⟩ ⟨#[97]⟩ false && sV ⟨#[97,46,42]⟩ ⟨#[97]⟩ true)=true:=by kernel_rfl
def qu6:(sV ⟨#[97,46,42]⟩ ⟨#[98]⟩ false && sV ⟨#[97,46,42]⟩ ⟨#[98]⟩ true)=true:=by kernel_rfl
def qu5:(sV ⟨#[97,46,42]⟩ ⟨#[99]⟩ false && sV ⟨#[97,46,42]⟩ ⟨#[99]⟩ true)=true:=by kernel_rfl
def qu4:(sV ⟨#[97,46,42]⟩ ⟨#[65]⟩ false && sV ⟨#[97,46,42]⟩ ⟨#[65]⟩ true)=true:=by kernel_rfl
def qu3:(sV ⟨#[97,46,42]⟩ ⟨#[97,98]⟩ false && sV ⟨#[97,46,42]⟩ ⟨#[97,98]⟩ true)=true:=by kernel_rfl
def qu2:(sV ⟨#[97,46,42]⟩ ⟨#[]⟩ false && sV ⟨#[97,46,42]⟩ ⟨#[]⟩ true)=true:=by kernel_rfl
def qu1:(sV ⟨#[97,46,42]⟩ ⟨#[88]⟩ false && sV ⟨#[97,46,42]⟩ ⟨#[88]⟩ true)=true:=by kernel_rfl
def qu0:(sV ⟨#[97,46,42]⟩ ⟨#[89]⟩ false && sV ⟨#[97,46,42]⟩ ⟨#[89]⟩ true)=true:=by kernel_rfl
def qFr:IE ⟨#[97,46,42]⟩=true:=by
 unfold IE;refine qFT.2 λw a=>?_
 simp only[WT,DJ,Qv,qGN,qGK,qF5,qGi,or_false]at a;rcases a with rfl|rfl|rfl|rfl|rfl|rfl|rfl|rfl
 ·exact qu7
 ·exact qu6
 ·exact qu5
 ·exact qu4
 ·exact qu3
 ·exact qu2
 ·exact qu1
 ·exact qu0
def quZ:(sV ⟨#[97,124,98]⟩ ⟨#[97]⟩ false && sV ⟨#[97,124,98]⟩ ⟨#[97]⟩ true)=true:=by kernel_rfl
def quY:(sV ⟨#[97,124,98]⟩ ⟨#[98]⟩ false && sV ⟨#[97,124,98]⟩ ⟨#[98]⟩ true)=true:=by kernel_rfl
def quX:(sV ⟨#[97,124,98]⟩ ⟨#[99]⟩ false && sV ⟨#[97,124,98]⟩ ⟨#[99]⟩ true)=true:=by kernel_rfl
def quW:(sV ⟨#[97,124,98]⟩ ⟨#[65]⟩ false && sV ⟨#[97,124,98]⟩ ⟨#[65]⟩ true)=true:=by kernel_rfl
def quV:(sV ⟨#[97,124,98]⟩ ⟨#[97,98]⟩ false && sV ⟨#[97,124,98]⟩ ⟨#[97,98]⟩ true)=true:=by kernel_rfl
def quU:(sV ⟨#[97,124,98]⟩ ⟨#[]⟩ false && sV ⟨#[97,124,98]⟩ ⟨#[]⟩ true)=true:=by kernel_rfl
def quT:(sV ⟨#[97,124,98]⟩ ⟨#[88]⟩ false && sV ⟨#[97,124,98]⟩ ⟨#[88]⟩ true)=true:=by kernel_rfl
def quS:(sV ⟨#[97,124,98]⟩ ⟨#[89]⟩ false && sV ⟨#[97,124,98]⟩ ⟨#[89]⟩ true)=true:=by kernel_rfl
def qFm:IE ⟨#[97,124,98]⟩=true:=by
 unfold IE;refine qFT.2 λw a=>?_
 simp only[WT,DJ,Qv,qGN,qGK,qF5,qGi,or_false]at a;rcases a with rfl|rfl|rfl|rfl|rfl|rfl|rfl|rfl
 ·exact quZ
 ·exact quY
 ·exact quX
 ·exact quW
 ·exact quV
 ·exact quU
 ·exact quT
 ·exact quS
def quR:(sV ⟨#[97,124,88]⟩ ⟨#[97]⟩ false && sV ⟨#[97,124,88]⟩ ⟨#[97]⟩ true)=true:=by kernel_rfl
def quQ:(sV ⟨#[97,124,88]⟩ ⟨#[98]⟩ false && sV ⟨#[97,124,88]⟩ ⟨#[98]⟩ true)=true:=by kernel_rfl
def quP:(sV ⟨#[97,124,88]⟩ ⟨#[99]⟩ false && sV ⟨#[97,124,88]⟩ ⟨#[99]⟩ true)=true:=by kernel_rfl
def quO:(sV ⟨#[97,124,88]⟩ ⟨#[65]⟩ false && sV ⟨#[97,124,88]⟩ ⟨#[65]⟩ true)=true:=by kernel_rfl
def quN:(sV ⟨#[97,124,88]⟩ ⟨#[97,98]⟩ false && sV ⟨#[97,124,88]⟩ ⟨#[97,98]⟩ true)=true:=by kernel_rfl
def quM:(sV ⟨#[97,124,88]⟩ ⟨#[]⟩ false && sV ⟨#[97,124,88]⟩ ⟨#[]⟩ true)=true:=by kernel_rfl
def quL:(sV ⟨#[97,124,88]⟩ ⟨#[88]⟩ false && sV ⟨#[97,124,88]⟩ ⟨#[88]⟩ true)=true:=by kernel_rfl
def quK:(sV ⟨#[97,124,88]⟩ ⟨#[89]⟩ false && sV ⟨#[97,124,88]⟩ ⟨#[89]⟩ true)=true:=by kernel_rfl
def qFk:IE ⟨#[97,124,88]⟩=true:=by
 unfold IE;refine qFT.2 λw a=>?_
 simp only[WT,DJ,Qv,qGN,qGK,qF5,qGi,or_false]at a;rcases a with rfl|rfl|rfl|rfl|rfl|rfl|rfl|rfl
 ·exact quR
 ·exact quQ
 ·exact quP
 ·exact quO
 ·exact quN
 ·exact quM
 ·exact quL
 ·exact quK
variable {dq:Prop}
def qrj:((ValsI++QD).all λv=>quD (ME Δ qpj 10000 nY [.v (.string v)] ⟨.e, [], [],0⟩))=true:=by kernel_rfl
def qFj:∀v∈ValsI,IE v=true:=by
 intro v a;simp only[ValsI,qF5,qGi,or_false]at a;rcases a with rfl|rfl|rfl|rfl|rfl|rfl|rfl|rfl|rfl|rfl
 ·exact qFt
 ·exact qFs
 ·exact qFr
 ·exact qFq
 ·exact qFp
 ·exact qFo
 ·exact qFn
 ·exact qFm
 ·exact qFl
 ·exact qFk
open Cod (enc dec)
def qb7:Tri dq Tryz.prog rW s_rMatches.pt:=by
 refine qs (qtw (fn:=BW) rfl 10000) ?_;rintro⟨v,w,f⟩ ⟨c,d⟩;have h0:=qFT.1 (qFj v c) w d;simp only[qFS]at h0;have h:sV v w f=true:=by cases f;exact h0.1;exact h0.2
 unfold sV at h;refine⟨rfl,?_⟩;split at h
 ·rename_i b hb;unfold qEe at h;split at h
  ·rename_i t h1 j;have e:t=b:=by simpa using h
   subst e;exact⟨_,_,t,j,λρ r' a=>by cases a;exact .same _,hb⟩
  ·cases h
 ·cases h
def qn8(f:Nat)(cs:List D):∀(k:Nat) (c c':D),cs[k]? =some c->(List.replicate f D.any)[k]? =some c'->FrzTo dj c c':=by
 intro k c c' _ h;have:=List.mem_replicate.1 (qFP h);rw[this.2];exact .any _
theorem Se:Tri dq Tryz.prog nY s_rParse0.pt:=by
 refine qs (qtw (fn:=G2) rfl 10000) ?_;intro v q;have h:=qFT.1 qrj v (qF1.2 q);refine⟨rfl,?_⟩;unfold quD at h;split at h
 ·rename_i y A C E F a b h1 r;simp only[qFS,decide_eq_true_eq]at h;obtain⟨rfl,rfl⟩:=h;refine⟨_,_,(),r,λρ r' j=>?_,trivial⟩;cases j with
  | tup cs ds hl hh=>
    match ds,hl with
    | [s,t,u],_=>
      have h0:=hh 0 _ s rfl rfl;have h2:=hh 1 _ t rfl rfl;have h3:=hh 2 _ u rfl rfl;cases h2;cases h3;cases h0 with
      |agg w l p x=>
      refine .tup rfl λk c c' hc d=>?_
      match k with
      | 0=>
        simp at hc d;subst hc;subst d;exact .agg (by simpa using p.symm) (qn8 5 l)
      | 1=>simp at hc d;subst hc;subst d;exact .same _
      | 2=>simp at hc d;subst hc;subst d;exact .same _
      |k+3=>simp at hc
 ·cases h
open Go.Proofs Cod
def qdH{P:Program}{f:Nat}{A:Nat->PT}{j:PT}(h:∀n,Tri dq P f (A n))(hs:∀d ds H K,j d ds H K->∃n,A n d ds H K):Tri dq P f j:=
 λO tp w vs ds H d K a b c e g k=>(hs d ds H K k).elim λn hn=>h n O tp w vs ds H d K a b c e g hn
def qdJ{X Y:Type}{A:fN X}{pre:Nat->X->Prop}{a:X->Prop}{er:Y->D}{post:X->Y->Prop}(b:∀x,a x->∃n,pre n x):∀d ds H K,(ay A a er post).pt d ds H K->∃n,(ay A (pre n) er post).pt d ds H K:=by
 intro d ds H K h;rw[me]at h;cases e:A.dec ds with
 |none=>rw[e]at h;exact h.elim
 | some x=>
   rw[e]at h;obtain⟨h1,h2⟩:=h;obtain⟨n,hn⟩:=b x h1;exact⟨n,by rw[me,e];exact⟨hn,h2⟩⟩
def nV{P:Program}{f:Nat}{X Y:Type}{A:fN X}{pre:X->Prop}{er:Y->D}{post:X->Y->Prop}(j:∀x,¬pre x):Tri dq P f (ay A pre er post).pt:=λO tp w vs ds H d K a b c e g h=>by
 rw[me]at h;cases e:A.dec ds with
 |none=>rw[e]at h;exact h.elim
 |some x=>rw[e]at h;exact(j x h.1).elim
def tY:Tri dq Tryz.prog fZ s_rAttr.pt:=ac (ag ae) Kr Mg
def qll:Tri dq Tryz.prog IZ s_rIn.pt:=ac (ag ae) qf4 qhw
def qaX:Tri dq Tryz.prog wL s_rShape.pt:=ac (ag ae) Vp XD
def qdg:Tri dq Tryz.prog Gn s_rnode.pt:=aY (S:=J5 [(wL,s_rShape),(fZ,s_rAttr),(nY,s_rParse0),(jv,s_rIsF),(IZ,s_rIn),(aK,s_rVName),(bP,s_rVVal)])
 (ag (aa qaX (aa tY (aa Se (aa qqd (aa qll (aa qhV (aa qmU ae)))))))) ZC (λ_=>qFR rfl) (qbA rfl rfl rfl rfl rfl rfl rfl)
def Ji:∀n,TQ dq sH (YV n)
 | 0=>nV λx h=>h.1
 |n+1=>aY (ag (aa qdg (aa (Ji n) ae))) Vn (λ_=>qFR rfl) (XB n rfl rfl)
def qaV:Tri dq Tryz.prog sH s_rfirstA.pt:=qdH Ji (qdJ λx h=>h)
def Jj:∀n,TQ dq sI (YX n)
 | 0=>nV λx h=>by
   have:=Bg x.1;have:=h.1;omega
 |n+1=>aY (ag (aa (Jj n) ae)) Vo (λ_=>qFR rfl) (XC n rfl)
def qaW:Tri dq Tryz.prog sI s_rcountA.pt:=qdH Jj (qdJ λx h=>h)
def DD:Tri dq Tryz.prog sJ s_rNodes.pt:=ac (ag (aa qaW ae)) Vq (XE rfl)
def DB:Tri dq Tryz.prog pF s_rVal.pt:=ac (ag (aa DD (aa qaV ae))) MI (NI rfl rfl)
def Jh:∀n,TQ dq wK (Ou n)
 | 0=>nV λx h=>h.2.1
 |n+1=>aY (ag (aa (Jh n) (aa tY (aa qb7 (aa qmV ae))))) Vm (λ_=>qFR rfl) (XA n rfl rfl rfl rfl)
end
section
open Cod (enc dec)
variable {S S0:Nat->Spc}
def qmr:qlE Qe OJ S:=by
 intro l;simp[Qe,OJ, -List.map_take,Ci,HF];omega
def qxS(c:Corpus):List D:=[enc c.attrs,enc c.toks,enc c.texts,enc c.regs, .v (.slice none 0 0), .v (.slice none 0 0), .v (.slice none 0 0)]
def qnz(c:Corpus):List D:=[enc c.attrs,enc c.toks,enc c.texts,enc c.regs,enc c.nodes, .v (.slice none 0 0), .v (.slice none 0 0)]
def qvc(c:Corpus):List D:=[enc c.attrs,enc c.toks,enc c.texts,enc c.regs,enc c.nodes,enc c.heads,enc c.rels]
def YF(l:List B):List D:=l.map enc
def Sh(a b:B):D.list 1 [.v (.string a), .v (.string b)]= .list 1 (YF [a,b]):=i' rfl
def YE(a b c:B):D.list 1 [.v (.string a), .v (.string b), .v (.string c)]= .list 1 (YF [a,b,c]):=i' rfl
def mO(l:List B):(YF l).length=l.length:=by simp[YF]
def rN(l:List B)(i:Nat)(d:D):((YF l)[i]? =some d)=∃s,l[i]? =some s/\ .v (.string s)=d:=by
 simp[YF]
def qlY(n:Nat)(a:List zy):Prop:=(∀x∈a,0<=x.b/\x.b<=n/\0<=x.e/\x.e<=n)/\∀(j:Nat) (y:zy),a[j]? =some y->y.par<j
def WX(c c':Corpus):Prop:=∃a,c'={ c with nodes:=a } /\a.length<=6/\qlY c.toks.length a
def D8(c:Corpus):Prop:=c.toks.length<=4096
theorem qfr(h1:S cq=s_m_Next):WV tQ tn S qxS qnz D8 WX:=by
 intro L b c hc;have hc:c.toks.length<=4096:=hc;simp[tQ,tn,h1,qxS];intro _ k I J;refine ur (X:=Int×Int×Value×List zy) [0,1,4] [] [] [] [] [] (λx=>0<=x.1/\x.1<=c.toks.length/\0<=x.2.1/\2*x.2.1+x.2.2.2.length<=6/\qlY c.toks.length x.2.2.2) (λx=>[(5,enc x.1),(6,enc x.2.1)]) (λx=>[(1, .box b [enc c.attrs,enc c.toks,enc c.texts,enc c.regs, .own 61 x.2.2.1, .v (.slice none 0 0), .v (.slice none 0 0)]),(61, .row x.2.2.1 wy 4 (x.2.2.2.map enc))]) (λx=>x.2.1.toNat) (0,k, .slice none 0 0, []) [1,61] (λ_=>rfl) (by decide) (by decide) ?_ ?_ ?_ ?_
 ·simp[qlY];omega
 ·simp
 ·simp[isNilRow];exact .nilown 61
 ·rintro⟨at_,k,v,l⟩ ⟨K,M,N,O,q⟩;simp only at K M N O q;simp[h1,Sh,mO,rN];have tz:qpP qnz b (WX c) (D.tup []) (aj (aj (aj (λx=>none) 96 none) 61 (some (Res.row v wy 4 (List.map enc l)))) 1 (some (Res.box b [D.list 2 (List.map enc c.attrs),D.list 1 (List.map enc c.toks),D.list 4 (List.map enc c.texts),D.list 4 (List.map enc c.regs),D.own 61 v,D.v (Value.slice none 0 0),D.v (Value.slice none 0 0)]))):=by
   refine⟨{ c with nodes:=l },_,rfl,rfl,?_,⟨l,rfl,by omega,q⟩⟩;simp[qnz];exact fM wy rfl
  refine⟨λhk=>⟨λQ y U W=>⟨by simp only[InR];omega,λ_=>tz,λhb=>⟨by simp only[InR];omega,by simp only[InR];omega,by omega,λr C=>⟨by simp only[InR];omega,λ_ z s t=>⟨s,t,λlb Y=>⟨by omega,by omega,λv1=>?_⟩⟩⟩⟩⟩,λ_=>tz⟩,λ_=>tz⟩;have Z:0<=at_+y:=by omega
  generalize at_+y=b' at*;have he:b'+1+r<=c.toks.length/\0<=r:=by omega
  generalize hee:b'+1+r=d at*;have a:qlY c.toks.length (l++ [⟨lb,b',d, -1⟩]):=by
   refine⟨λx hx=>?_,λj x hx=>?_⟩
   ·rcases qF1.1 hx with hx|hx
    ·exact q.1 x hx
    ·simp at hx;subst hx;simp only;omega
   ·by_cases e:j<l.length
    ·rw[qGr e]at hx;exact q.2 j x hx
    ·rw[qGq (by omega)]at hx;have hx:=qFP hx;simp at hx;subst hx;simp only;omega
  refine bh (X:=Value×List zy) [0,1,4,6,8] [] (λx=>x.2.length<=l.length+2/\qlY c.toks.length x.2) (λ_=>[]) (λx=>[(1, .box b [enc c.attrs,enc c.toks,enc c.texts,enc c.regs, .own 61 x.1, .v (.slice none 0 0), .v (.slice none 0 0)]),(61, .row x.1 wy 4 (x.2.map enc))]) ?_ ?_
  ·simp[h1,Sh,mO,rN];refineλu hu0 hu1=>⟨λ_=>⟨by simp only[InR];omega,by omega,λE hy2=>⟨by simp only[InR];omega,λz2 h p=>⟨h,p,λw _=>⟨by simp only[InR];omega,by simp only[InR];omega,by omega,λy3 hy3=>⟨by simp only[InR];omega,by omega,by omega,λA=>⟨A,l++ [⟨lb,b',d, -1⟩] ++ [⟨w,b'+E,b'+E+1+y3,l.length⟩],⟨by simp,?_⟩, .inl rfl, .inl ⟨rfl,by simp⟩⟩⟩⟩⟩⟩⟩,λ_=>⟨v1,l++ [⟨lb,b',d, -1⟩],⟨by simp,a⟩, .inl rfl, .inl ⟨rfl,by simp⟩⟩⟩
   refine⟨λx hx=>?_,λj x hx=>?_⟩
   ·rcases qF1.1 hx with hx|hx
    ·exact a.1 x hx
    ·simp at hx;subst hx;simp only;omega
   ·by_cases e:j<(l++ [(⟨lb,b',d, -1⟩:zy)]).length
    ·rw[qGr e]at hx;exact a.2 j x hx
    ·rw[qGq (by omega)]at hx;have hx:=qFP hx;simp at hx;subst hx;simp at e;simp only;omega
  ·rintro⟨A,l2⟩ ⟨r1,F⟩;simp only at r1 F;simp;exact⟨by simp only[InR];omega,d,k -1,A,l2,⟨by omega,by omega,by omega,by omega,F⟩,⟨⟨rfl,rfl⟩, .inl (.inl rfl), .inl (.inl rfl)⟩,by omega⟩
def qoW(n:Nat)(hs:List Int)(rs:List B):Prop:=hs.length=n/\rs.length=n/\∀h∈hs,h<=n
def qfd(c c':Corpus):Prop:=∃hs rs,c'={ c with heads:=hs,rels:=rs } /\hs.length<=c.toks.length/\rs.length<=c.toks.length/\∀h∈hs,h<=c.toks.length
theorem qfs(h1:S cq=s_m_Next):WV tS tr S qnz qvc D8 qfd:=by
 intro L b c hc;have hc:c.toks.length<=4096:=hc;simp[tS,tr,h1,qnz];intro _;refine ur (X:=Int×List Int) [0,1,4] [1] [] [27] [] [] (λx=>0<=x.1/\x.1<=c.toks.length/\(x.2.length:Int)=x.1/\∀y∈x.2,0<=y/\y<c.toks.length) (λx=>[(5,enc x.2),(6,enc x.1)]) (λx=>[]) (λx=>c.toks.length -x.1.toNat) (0, []) [] (λ_=>rfl) (by decide) (by decide) ?_ ?_ ?_ ?_
 ·simp
 ·simp
 ·simp
 ·rintro⟨i,l⟩ ⟨W,Y,Z,A⟩;simp only at W Y Z A;simp[h1];refine⟨λhi=>⟨by simp only[InR];omega,by omega,λy hy=>?_⟩,λhi=>?_⟩
  ·have e:List.take y.toNat (List.map enc l) ++D.v (.int .i64 i)::List.drop y.toNat (List.map enc l)=(l.take y.toNat++i::l.drop y.toNat).map enc:=by simp
   refine⟨by omega,by omega,by omega,by omega,by omega,by omega,by omega,by omega,by omega,by omega,λv=>⟨by simp only[InR];omega,i+1,l.take y.toNat++i::l.drop y.toNat,⟨by omega,by omega,?_,λz hz=>?_⟩,⟨?_,rfl⟩,by omega⟩⟩
   ·simp;omega
   ·rcases qF1.1 hz with hz|hz
    ·exact A z (qF8 hz)
    ·rcases qF5.1 hz with hz|hz
     ·omega
     ·exact A z (qGy hz)
   ·rw[e];exact fM bC (by simp[qeE])
  ·have hil:l.length=c.toks.length:=by omega
   refine⟨by omega,by omega,λC=>⟨by omega,by omega,λE=>?_⟩⟩;refine bh (X:=Bool×List Int×List B) [1] [1] (λx=>qoW c.toks.length x.2.1 x.2.2) (λx=>[(8, .sub 40 C 1 0 c.toks.length),(9, .sub 42 E 1 0 c.toks.length),(10,enc x.1)]) (λx=>[(40, .row C bC 1 (x.2.1.map enc)),(42, .row E av 1 (x.2.2.map enc))]) ?_ ?_
   ·simp[-eB'];intro _;refine J1 ((qhp 8 40 C bC 1 _ rfl rfl).trans (qhp 9 42 E av 1 _ rfl rfl)) ?_;simp only[qtH];refine ah (X:=Bool×List Int×List B) [0,1,5,8,9,43] [1] l.length (λ_ x=>qoW c.toks.length x.2.1 x.2.2) (λx=>[(10,enc x.1)]) (λx=>[(40, .row C bC 1 (x.2.1.map enc)),(42, .row E av 1 (x.2.2.map enc))]) (false,List.replicate c.toks.length 0,List.replicate c.toks.length ⟨#[]⟩) (by simp[qoW]) ?_ ?_
    ·rintro k ⟨sm,hs,rs⟩ hk ⟨p,j,q⟩;simp only at p j q;obtain⟨x,N⟩:=aU hk;obtain⟨_,O⟩:=qFN.1 N;have hxr:=A x (aO N);simp[hk,N,O,-eB'];refine⟨by omega,by omega,by omega,λa Q=>?_⟩;have U:(List.map enc hs).set x.toNat (D.v (Value.int .i64 (-1)))=(hs.set x.toNat (-1)).map enc:=kg hs _ _;rw[U];have r:(hs.set x.toNat (-1)).length=c.toks.length:=by simp[p]
     have t:∀h∈hs.set x.toNat (-1),h<=c.toks.length:=λh hh=>by
      rcases qGW hh with hh|hh
      ·exact q h hh
      ·omega
     generalize hs.set x.toNat (-1)=d at r t ⊢;clear p q Q U;refine bh (X:=List Int×List B) [0,1,5,8,9,10,12,43,44,45] [1] (λx=>qoW c.toks.length x.1 x.2) (λ_=>[]) (λx=>[(40, .row C bC 1 (x.1.map enc)),(42, .row E av 1 (x.2.map enc))]) ?_ ?_
     ·simp[h1,YE,mO,rN,-eB'];have hlx:∀(y:Int),d.length=c.toks.length->∃z,d[x.toNat]? =some z:=λ_ _=>aU (by omega)
      refine⟨λhk0 y _ _=>⟨λ_=>⟨by omega,λy2 hy2=>⟨by omega,by omega,λa Q y3 F I=>⟨F,I,λs _=>⟨by omega,by omega,by omega,λz _=>⟨by omega,by omega,by omega,λz2 _=>⟨d.set x.toNat a,rs.set x.toNat s,⟨by simp[r],by simp[j],λh hh=>?_⟩, .inl (kg d _ _), .inl (kg rs _ _)⟩⟩⟩⟩⟩⟩,λ_=>⟨d,rs,⟨r,j,t⟩, .inl rfl, .inl rfl⟩⟩,λ_=>⟨d,rs,⟨r,j,t⟩, .inl rfl, .inl rfl⟩⟩;rcases qGW hh with hh|hh
      ·exact t h hh
      ·have:=A a (aO Q);omega
     ·rintro⟨u,w⟩ ⟨J,K,M⟩;simp only at J K M;simp[-eB'];refine⟨λ_=>⟨by omega,by omega,by omega,λa _=>⟨λ_=>⟨by omega,by omega,by omega,λa2 _=>⟨!decide (a2=⟨#[]⟩),u,w,⟨J,K,M⟩,by simp, .inl rfl, .inl rfl⟩⟩,λ_=>⟨true,u,w,⟨J,K,M⟩,by simp, .inl rfl, .inl rfl⟩⟩⟩,λ_=>⟨true,u,w,⟨J,K,M⟩,by simp, .inl rfl, .inl rfl⟩⟩
    ·rintro⟨sm,hs,rs⟩ ⟨p,j,q⟩;simp only at p j q;simp[-eB'];exact⟨sm,hs,rs,⟨p,j,q⟩,rfl, .inl rfl, .inl rfl⟩
   ·rintro⟨sm,hs,rs⟩ ⟨p,j,q⟩;simp only at p j q;simp;refine⟨λ_=>⟨{ c with heads:=hs,rels:=rs },_,rfl,rfl,?_,⟨hs,rs,rfl,by omega,by omega,q⟩⟩,λ_=>⟨{ c with heads:=[],rels:=[] },_,rfl,rfl,?_,⟨[], [],rfl,by simp,by simp,by simp⟩⟩⟩
    ·simp[qvc];exact⟨qvk bC rfl p.symm,qvk av rfl j.symm⟩
    ·simp[qvc]
abbrev s_m_word:Spc:=ay (a1 Int) (λn=>0<=n/\n< 6) (enc (X:=B)) λ_ y=>y∈DJ
def qhx:aq Le Ki S (a1 Int) (λn=>0<=n/\n< 6) (enc (X:=B)) λ_ y=>y∈DJ:=by
 rintro n hn;have hn:0<=n/\n< 6:=hn;simp[Le,Ki];refine⟨hn.1,hn.2,?_⟩;have:n=0\/n=1\/n=2\/n=3\/n=4\/n=5:=by omega
 rcases this with rfl|rfl|rfl|rfl|rfl|rfl<;>simp[DJ]
abbrev s_m_tag:Spc:=ay (a1 Int) (λn=>0<=n/\n< 2) (enc (X:=B)) λ_ y=>y∈Qv
def qmq:aq Qc OI S (a1 Int) (λn=>0<=n/\n< 2) (enc (X:=B)) λ_ y=>y∈Qv:=by
 rintro n hn;have hn:0<=n/\n< 2:=hn;simp[Qc,OI];refine⟨hn.1,hn.2,?_⟩;have:n=0\/n=1:=by omega
 rcases this with rfl|rfl<;>simp[Qv]
abbrev s_m_features:Spc:=ay (a1 Int) (λn=>0<=n/\n< 4) (enc (X:=B)) λ_ y=>y∈FsetL
def Uk:aq yl xw S (a1 Int) (λn=>0<=n/\n< 4) (enc (X:=B)) λ_ y=>y∈FsetL:=by
 rintro n hn;have hn:0<=n/\n< 4:=hn;simp[yl,xw];refine⟨hn.1,hn.2,?_⟩;have:n=0\/n=1\/n=2\/n=3:=by omega
 rcases this with rfl|rfl|rfl|rfl<;>simp[FsetL]
abbrev s_m_Type:Spc:=ay (a1 Int) bW (enc (X:=B)) sr
def qhy(h1:S wO=s_m_Mod):aq zn yQ S (a1 Int) bW (enc (X:=B)) sr:=by
 rintro n -;simp[zn,yQ,h1];have h3:=Pm n 3 (by omega);refine⟨h3.1,h3.2,?_⟩;have:KJ n 3=0\/KJ n 3=1\/KJ n 3=2:=by omega
 rcases this with h|h|h<;>simp[h]
abbrev s_m_Attributes:Spc:=ay a0 bW (enc (X:=List Attr)) (λ_ l=>qpO l)
def NS:aq tU tu S a0 bW (enc (X:=List Attr)) (λ_ l=>qpO l):=by
 rintro x -;simp[tU,tu];exact aM (Y:=List Attr) [⟨⟨#[119,111,114,100]⟩,false⟩,⟨⟨#[116,97,103]⟩,false⟩,⟨⟨#[102,101,97,116]⟩,true⟩] (by simp) rfl
abbrev s_m_nodes:Spc:=qzC qxS qnz D8 WX
abbrev s_m_heads:Spc:=qzC qnz qvc D8 qfd
def qkj{H:ab}{id el n:Nat}{v:Value}{d a:D}(h:H id=some (.row v el n [d]))(b:FrzTo H d a)(hk:a.kn=true/\a.cells.length=n):FrzTo H (.own id v) (.list n [a]):=by
 refine .row h rfl (λe he=>?_) (λk c c' h1 h2=>?_);grind;grind
def qjY(l:List Int):List D:=l.map enc
def quH(a b c d e f g h:Int):D.list 1 [.v (.int .i64 a), .v (.int .i64 b), .v (.int .i64 c), .v (.int .i64 d), .v (.int .i64 e), .v (.int .i64 f), .v (.int .i64 g), .v (.int .i64 h)]= .list 1 (qjY [a,b,c,d,e,f,g,h]):=i' rfl
def qjX(l:List Int):(qjY l).length=l.length:=by simp[qjY]
def qnW(l:List Int)(i:Nat)(d:D):((qjY l)[i]? =some d)=∃s,l[i]? =some s/\ .v (.int .i64 s)=d:=by
 simp[qjY]
def qhR{l:List (List B)}{r:List B}(h:∀x∈l,EZ x)(a:EZ r):∀x∈l++ [r],EZ x:=λx b=>by
 grind
theorem Um(h1:S cq=s_m_Next)(h2:S vD=s_m_Attributes)(h3:S PS=s_m_word)(h4:S Wo=s_m_tag)(h5:S AP=s_m_features)
 (h6:S sO=s_m_Type) (h7:S pG=s_r06_SortRegions) (h8:S vA=s_m_nodes) (h9:S vB=s_m_heads):
 aq nN nA S (aT (a2 B Int)) (λx=>1<=x.2.2/\x.2.2<=1000) (enc (X:=Corpus)) (λx c=>Xj c/\R2 c/\(c.toks.length:Int)<=x.2.2):=by
 rintro⟨L,name,a⟩ hm;have hm:1<=a/\a<=1000:=hm;simp[nN,nA,h1,h2];refineλb6=>⟨by omega,λy hy=>⟨by grind [InR],trivial,λat_ C v26 E=>?_⟩⟩
 have hal:at_.length=3:=by rw[show at_=att3 from C];rfl
 obtain⟨n,F,hn⟩:∃n:Nat,1+y=(n:Int)/\1<=n/\n<=1000:=⟨(1+y).toNat,by omega,by omega⟩
 rw[F];refine lF (X:=Bh) [0,6,7,8] [6] [26] [] (λt=>t.b=0/\t.e=n) (λ_=>[]) (λt=>[(8, .box E [enc at_, .v (.slice none 0 0),enc [t], .v (.slice none 0 0), .v (.slice none 0 0), .v (.slice none 0 0), .v (.slice none 0 0)])]) [8] (λ_=>rfl) (by decide) ?_ ?_
 ·simp[h1,YE,mO,rN];refineλz _ _=>⟨λ_ u I J=>⟨I,J,λs _=>⟨⟨name,0,n, [⟨⟨#[121,101,97,114]⟩,s⟩]⟩,⟨rfl,rfl⟩, .inl (qkj (el:=DL) (by rfl) (.same _) ⟨rfl,rfl⟩)⟩⟩,λ_=>⟨⟨name,0,n, []⟩,⟨rfl,rfl⟩, .inl (qkj (el:=DL) (by rfl) ?_ ⟨rfl,rfl⟩)⟩⟩
  simp[iA]
 ·rintro t ⟨K,ht2⟩;refine lF (X:=List (List B)) [0,6,7,8] [6] [66] [] (λl=>l.length=n/\∀r∈l,EZ r) (λ_=>[]) (λl=>[(8, .box E [enc at_,enc l,enc [t], .v (.slice none 0 0), .v (.slice none 0 0), .v (.slice none 0 0), .v (.slice none 0 0)])]) [8] (λ_=>rfl) (by decide) ?_ ?_
  ·simp[h1];refine ur (X:=Int×Value×List (List B)) [0,6,7,8] [6] [] [] [] [] (λx=>0<=x.1/\x.1<=n/\(x.2.2.length:Int)=x.1/\∀r∈x.2.2,EZ r) (λx=>[(9,enc x.1)]) (λx=>[(8, .box E [enc at_, .own 66 x.2.1,enc [t], .v (.slice none 0 0), .v (.slice none 0 0), .v (.slice none 0 0), .v (.slice none 0 0)]),(66, .row x.2.1 wz 1 (x.2.2.map enc))]) (λx=>n -x.1.toNat) (0, .slice none 0 0, []) [8,66] (λ_=>rfl) (by decide) (by decide) ?_ ?_ ?_ ?_
   ·simp
   ·simp
   ·simp[isNilRow];exact .nilown 66
   ·rintro⟨i,v,l⟩ ⟨M,N,A,O⟩;simp only at M N A O;simp[h1,h3,h4,h5,quH,qjX,qnW];refine⟨λhi y d hy1=>?_,λhi=>⟨l,⟨by omega,O⟩, .inl (fM wz (by simp[qeE]))⟩⟩;have a1:y.tmod 8=y % 8:=Int.tmod_eq_emod_of_nonneg d;have a2:y.tdiv 8=y/8:=Int.tdiv_eq_ediv_of_nonneg d;have a3:(y/8).tmod 2=(y/8) % 2:=Int.tmod_eq_emod_of_nonneg (by omega);have a4:y.tdiv 12=y/12:=Int.tdiv_eq_ediv_of_nonneg d;rw[a1,a2,a3,a4];refine⟨by omega,by omega,λs hs=>⟨?_,λw1 Q=>⟨by simp only[InR];omega,by omega,λw2 U=>⟨by simp only[InR];omega,by omega,λw3 W=>⟨by omega,by omega,λY=>⟨by simp only[InR];omega,i+1,Y,l++ [[w1,w2,w3]],⟨by omega,by omega,by simp;omega,qhR O ⟨w1,w2,w3,Q,U,W,rfl⟩⟩,⟨rfl, .inl (.inl rfl), .inl (.inl (by simp))⟩,by omega⟩⟩⟩⟩⟩⟩;have:=qFP hs;simp at this;omega
  ·rintro toks ⟨htk,Z⟩;refine lF (X:=List Region) [0,6,7,8] [6,8] [165] [] (λl=>l.length<=8/\∀r∈l,0<=r.b/\r.b<=n/\0<=r.e/\r.e<=n) (λl=>[(11,enc l)]) (λ_=>[]) [] (λ_=>rfl) (by decide) ?_ ?_
   ·simp[h1];intro k hk0 hk1;refine ur (X:=Int×Value×List Region) [0,6,7,8] [6,8] [] [] [] [] (λx=>0<=x.1/\x.1+x.2.2.length<=4/\∀r∈x.2.2,0<=r.b/\r.b<=n/\0<=r.e/\r.e<=n) (λx=>[(11, .own 165 x.2.1),(12,enc x.1)]) (λx=>[(165, .row x.2.1 nT 4 (x.2.2.map enc))]) (λx=>x.1.toNat) (k, .slice none 0 0, []) [165] (λ_=>rfl) (by decide) (by decide) ?_ ?_ ?_ ?_
    ·simp;omega
    ·simp;exact .nilown 165
    ·simp[isNilRow]
    ·rintro⟨k,v,l⟩ ⟨M,N,A⟩;simp only at M N A;simp[h1,h6];refine⟨λhk=>⟨by omega,λu hu z _ _=>⟨trivial,λty=>⟨by simp only[InR];omega,by simp only[InR];omega,by omega,λw hw=>⟨by simp only[InR];omega,λb14=>?_⟩⟩⟩⟩,λhk=>⟨l,⟨by omega,A⟩,fM nT (by simp[qeE])⟩⟩;have hr:0<=u/\u<=n/\0<=u+1+w/\u+1+w<=n:=by omega
     generalize u+1+w=e' at*;refine lF (X:=List Pair) [0,6,7,8,11,12,14] [6,8,165] [] [] (λ_=>True) (λ_=>[]) (λkv=>[(14, .box b14 [.v (.string ty), .v (.int .i64 u), .v (.int .i64 e'),enc kv])]) [14] (λ_=>rfl) (by decide) ?_ ?_
     ·simp[h1,Sh,mO,rN];exactλ_ _ _ _ q hq0 hq1=>⟨hq0,hq1,λs _=>⟨[⟨⟨#[110]⟩,s⟩], .inl (.inl rfl)⟩⟩
     ·rintro kv -;simp only[qrg,qnO];simp;refine bh (X:=Bool) [0,6,7,8,11,12,14] [6,8,14,165] (λ_=>True) (λx=>[(15,enc x)]) (λ_=>[]) ?_ ?_
      ·simp[-eB'];intro _;refine ah (X:=Bool) [0,6,7,8,11,12,14,101] [6,8,14,165] l.length (λ_ _=>True) (λx=>[(15,enc x)]) (λ_=>[]) false trivial ?_ ?_
       ·rintro j cr hj -;obtain⟨x,hx⟩:=aU hj;obtain⟨_,hgx⟩:=qFN.1 hx;simp[hj,hx,hgx,-eB'];exactλ_ _ _ _=>⟨λ_ _ _=>⟨_,(Bool.not_not _).symm⟩,λ_ _=>⟨_,(Bool.not_not _).symm⟩⟩
       ·rintro cr -;simp[-eB']
      ·rintro cr -;simp[-eB'];refine⟨λ_=>⟨by omega,by omega,λY=>⟨by simp only[InR];omega,k -1,Y,l++ [⟨ty,u,e',kv⟩],⟨by omega,by simp;omega,λr hrr=>?_⟩,⟨⟨.same _,rfl⟩, .inl (.inl (by simp))⟩,by omega⟩⟩,λ_=>⟨by simp only[InR];omega,k -1,v,l,⟨by omega,by omega,A⟩,⟨⟨.same _,rfl⟩, .inl (.inl rfl)⟩,by omega⟩⟩;rcases qF1.1 hrr with hrr|hrr
       ·exact A r hrr
       ·simp at hrr;subst hrr;exact hr
   ·rintro rg ⟨hr1,hr2⟩;simp[h7,h8];refine⟨by simp only[qdt];omega,λrs ⟨hs1,hs2⟩=>⟨⟨at_,toks, [t],rs, [], [], []⟩,by simp[qxS],by simp only[D8];omega,λc hc=>?_⟩⟩;obtain⟨ns,rfl,hns,p⟩:=hc;simp only at p;simp[qnz];refine lF (X:=List Int×List B) [6,8] [6] [] [] (λx=>x.1.length<=n/\x.2.length<=n/\∀h∈x.1,h<=n) (λ_=>[]) (λx=>[(8, .box E [enc at_,enc toks,enc [t],enc rs,enc ns,enc x.1,enc x.2])]) [8] (λ_=>rfl) (by decide) ?_ ?_
    ·simp[h1,h9];refineλz _ _=>⟨λ_=>⟨⟨at_,toks, [t],rs,ns, [], []⟩,by simp[qnz],by simp only[D8];omega,λc hc=>?_⟩,λ_=>⟨[], [],⟨by simp,by simp,by simp⟩, .inl ⟨rfl,rfl⟩⟩⟩
     obtain⟨hs,rl,rfl,g1,g2,g3⟩:=hc;simp only at g1 g2 g3;simp[qvc];exact⟨hs,rl,⟨by omega,by omega,λh hh=>by have:=g3 h hh;omega⟩, .inl (.inl ⟨rfl,rfl⟩)⟩
    ·rintro⟨hs,rl⟩ ⟨p1,p2,p3⟩;simp only at p1 p2 p3;simp;refine aM ⟨at_,toks, [t],rs,ns,hs,rl⟩ (.same _) ⟨?_,⟨C,Z⟩,by show(toks.length:Int)<=a;omega⟩;refine⟨⟨K,by omega,by show t.e=(toks.length:Int);omega⟩,by simp,by simp only;omega,by simp,by simp only;omega,by simp only;omega,by simp only;omega,by simp only;omega,by simp only;omega,λr hr=>?_,λm hm=>?_,p.2,λh hh=>?_⟩
     ·have:=hr2 r (hs2 r hr);simp only;omega
     ·have:=p.1 m hm;simp only;omega
     ·have:=p3 h hh;simp only;omega
end
section
open Go.Proofs
variable {dq:Prop}
def UE:Tri dq Tryz.prog wO s_m_Mod.pt:=
 ac (ag ae) qjk (qms)
def dz:Tri dq Tryz.prog cq s_m_Next.pt:=qhO (S:=J5 [(wO,s_m_Mod)]) (ag (aa UE ae)) rfl Pc (by decide)
def qmX:Tri dq Tryz.prog Wp s_m_New.pt:=qmS (qb1 (ag ae) qjj (by decide) qmr)
def LC:Tri dq Tryz.prog iB s_r04_First.pt:=
 ac (ag ae) Ii (XP)
def qca:Tri dq Tryz.prog rc s_r04_Next.pt:=
 ac (ag (aa LC ae)) LT (qbF rfl)
def fW:Tri dq Tryz.prog aK s_r04_ValidName.pt:=
 ac (ag (aa LC (aa qca ae))) yY (Mh rfl rfl)
def YB:Tri dq Tryz.prog sL s_r01_Units.pt:=
 ac (ag ae) VA (XR)
def YA:Tri dq Tryz.prog sK s_r01_Valid.pt:=
 ac (ag (aa YB ae)) Vz (XQ rfl)
def qt:Tri dq Tryz.prog bP s_r04_ValidValue.pt:=
 ac (ag (aa YA ae)) Ih (JO rfl)
def Yz:Tri dq Tryz.prog De s_r05_Parse.pt:=
 ac (ag (aa qt ae)) Vy (XN rfl)
def qb8:Tri dq Tryz.prog Gu s_r06_sign.pt:=
 ac (ag ae) ZF (qbD)
def Ri:Tri dq Tryz.prog xO s_r06_compare.pt:=
 ac (ag ae) O1 (QW)
def su:Tri dq Tryz.prog gu s_r06_CompareRegions.pt:=
 ac (ag (aa qb8 (aa Ri ae))) BM (B5 rfl rfl)
def J6:Tri dq Tryz.prog rb s_r06_Attributes.pt:=
 ac (ag (aa fW ae)) Ig (JN rfl)
def Yw:Tri dq Tryz.prog Db s_r06_Value.pt:=
 ac (ag (aa Yz (aa qt ae))) Vv (XK rfl rfl)
def LB:Tri dq Tryz.prog wM s_r06_pairs.pt:=
 ac (ag (aa fW (aa qt ae))) Vt (XI rfl rfl)
def HG:Tri dq Tryz.prog um s_r06_within.pt:=
 ac (ag ae) Rt (TZ)
def qb9:Tri dq Tryz.prog Gw s_r06_bare.pt:=
 ac (ag ae) ZG (qbE)
def UB:Tri dq Tryz.prog AM s_r06_TextAt.pt:=
 ac (ag ae) Rw (Ub)
def Oc:Tri dq Tryz.prog vy s_r06_FindText.pt:=
 ac (ag ae) ML (NL)
def Cj:Tri dq Tryz.prog kY s_r06_sameAttributes.pt:=
 ac (ag ae) BL (B4)
def UA:Tri dq Tryz.prog AL s_r06_cyclic.pt:=
 ac (ag ae) Rv (Ua)
def Uz:Tri dq Tryz.prog AK s_r06_tokens.pt:=
 ac (ag (aa Yw ae)) Ru (T0 rfl)
def Yu:Tri dq Tryz.prog C9 s_r06_texts.pt:=
 ac (ag (aa fW (aa LB ae))) Vs (XG rfl rfl)
def Rh:Tri dq Tryz.prog xN s_r06_regions.pt:=
 ac (ag (aa fW (aa LB (aa HG (aa su ae))))) O0 (QV rfl rfl rfl rfl)
def Yy:Tri dq Tryz.prog Dd s_r06_Nodes.pt:=
 ac (ag (aa fW (aa HG ae))) Vx (XM rfl rfl)
def Yv:Tri dq Tryz.prog Da s_r06_heads.pt:=
 ac (ag (aa fW (aa qb9 (aa UB (aa UA ae))))) Vu (XJ rfl rfl rfl rfl)
def Ob:Tri dq Tryz.prog vx s_r06_Validate.pt:=
 ac (ag (aa J6 (aa Uz (aa Yu (aa Rh (aa Yy (aa Yv ae))))))) MK (NK rfl rfl rfl rfl rfl rfl)
def Yx:Tri dq Tryz.prog Dc s_r06_Valid.pt:=
 ac (ag (aa Ob ae)) Vw (XL rfl)
def HH:Tri dq Tryz.prog pG s_r06_SortRegions.pt:=
 ac (ag (aa su ae)) FR (Ha rfl)
def Oa:Tri dq Tryz.prog vw s_r06_allHeads.pt:=
 ac (ag ae) MJ (NJ)
def UC:Tri dq Tryz.prog AN s_r06_Concat.pt:=
 ac (ag (aa Yx (aa Cj (aa Oc (aa Oa ae))))) Ry (Uc rfl rfl rfl rfl)
def qhX:Tri dq Tryz.prog PS s_m_word.pt:=
 ac (ag ae) qf5 (qhx)
def qmW:Tri dq Tryz.prog Wo s_m_tag.pt:=
 ac (ag ae) qji (qmq)
def UD:Tri dq Tryz.prog AP s_m_features.pt:=
 ac (ag ae) RG (Uk)
def qhY:Tri dq Tryz.prog sO s_m_Type.pt:=
 ac (ag (aa UE ae)) SM (qhy rfl)
def Of:Tri dq Tryz.prog vD s_m_Attributes.pt:=
 ac (ag ae) MU (NS)
def Od:Tri dq Tryz.prog vA s_m_nodes.pt:=
 Ly (ag (aa dz ae)) MQ (by decide) (qfr rfl)
def Oe:Tri dq Tryz.prog vB s_m_heads.pt:=
 Ly (ag (aa dz ae)) MS (by decide) (qfs rfl)
def HI:Tri dq Tryz.prog pM s_m_Document.pt:=
 ac (ag (aa dz (aa Of (aa qhX (aa qmW (aa UD (aa qhY (aa HH (aa Od (aa Oe ae)))))))))) FU (Um rfl rfl rfl rfl rfl rfl rfl rfl rfl)
def MD:Tri dq Tryz.prog tC s_m_Corpus.pt:=
 ac (ag (aa dz (aa HI (aa UC ae)))) KC (qbJ rfl rfl rfl)
end
section
open Cod (enc dec)
variable {S S0:Nat->Spc}
def lJ(c:Int):B:=⟨#[c.toNat.toUInt8]⟩
abbrev s_cpFold1:Spc:=ay (a1 B) (λs=>∃c:Int,0<=c/\c< 128/\s=lJ c) (enc (X:=B)) λs y=>∀c:Int,0<=c->c< 128->s=lJ c->y=lJ (low c)
def Wv{c:Int}(h0:0<=c)(h1:c< 128):Utf8.encode c=lJ c:=by
 unfold Utf8.encode lJ;have e:c.toNat< 128:=by omega
 have h:Utf8.valid c=true:=by
  unfold Utf8.valid;have:c< 55296:=by omega
  simp[h0,this]
 simp[e,h]
def VP{c:Int}(h0:0<=c)(h1:c< 128):0<=low c/\low c< 128:=by unfold low;split<;>omega
def qeo{c d:Int}(hc:0<=c)(a:c< 128)(k:0<=d)(j:d< 128)(h:lJ c=lJ d):c=d:=by
 have:c.toNat.toUInt8=d.toNat.toUInt8:=by
  have:=congrArg (λb:B=>b.data.toList.head?) h;simpa [lJ]using this
 have:=congrArg UInt8.toNat this;have l:c.toNat.toUInt8.toNat=c.toNat % 256:=qHf ..;have p:d.toNat.toUInt8.toNat=d.toNat % 256:=qHf ..;omega
def qqT{c d:Int}(hc:0<=c)(a:c< 128)(j:0<=d)(b:d< 128):(lJ c=lJ d)=(c=d):=propext ⟨qeo hc a j b,λh=>by rw[h]⟩
theorem qbt(h1:S ri=s_cpFold1):aq pV ou S (a1 I32) (λc=>0<=c.val/\c.val< 128) (enc (X:=List I32)) λc y=>y=qbO true c:=by
 rintro⟨c⟩ ⟨q,c1⟩;have q:0<=c:=q;have c1:c< 128:=c1;obtain⟨I,J⟩:=VP q c1;have L:∃d:Int,0<=d/\d< 128/\lJ c=lJ d:=⟨c,q,c1,rfl⟩
 simp[pV,ou,h1,Wv q c1,L,-fB',-eB'];intro y w b;obtain rfl:=w c q c1 rfl;clear w;obtain⟨r,K⟩:∃r,r=low c:=⟨_,rfl⟩
 rw[<-K]at I J ⊢;have j:(lJ r).size=1:=rfl;have s:Utf8.decode (lJ r) 0=(r.toNat,1):=by
  have h0:0<(lJ r).size:=by rw[j];omega
  have W:((lJ r)[0]'h0).toNat=r.toNat % 256:=qHf ..;have M:((lJ r)[0]'h0).toNat=r.toNat:=by omega
  rw[Go.decode_ascii (lJ r) 0 h0 (by omega),M]
 refine aA (X:=Nat×Value×List I32) [4,13] [] (λz=>z.1=0/\z.2.1= .slice none 0 0/\z.2.2=[]\/z.1=1/\z.2.2=PI ⟨c⟩) (λz=>[(3, .own 40 z.2.1)]) (λz=>[(13, .iter b (lJ r) z.1),(40, .row z.2.1 N5 1 (z.2.2.map enc))]) (λz=>1 -z.1) (0, .slice none 0 0, []) (.inl ⟨rfl,rfl,rfl⟩) ?_ (hh:=by simp[isNilRow]);rintro⟨pos,v,l⟩ hz;simp only at hz;rcases hz with⟨rfl,rfl,rfl⟩|⟨rfl,rfl⟩
 ·have x:((r.toNat:Nat):Int)=r:=by omega
  have N:InR .i32 (r -32):=by simp only[InR];omega
  have O:InR .i32 (r -80):=by simp only[InR];omega
  simp[j,s,x,N,O,-fB',-eB'];have A:∀l:List I32,l=([⟨r⟩,⟨r -32⟩,⟨r -80⟩]:List I32).filter (λv=>decide (0<=v.val/\low v.val=r))->l=PI ⟨c⟩:=λl hl=>by
   rw[hl,PI];simp only[<-K]
  refine ah (X:=Value×List I32) [4,13,22] [13] 3 (λk z=>z.2=(([⟨r⟩,⟨r -32⟩,⟨r -80⟩]:List I32).take k).filter (λv=>decide (0<=v.val/\low v.val=r))/\z.2.length<=k) (λz=>[(3, .own 40 z.1)]) (λz=>[(40, .row z.1 N5 1 (z.2.map enc))]) (.slice none 0 0, []) ⟨rfl,by simp⟩ ?_ ?_ (hh:=by simp[isNilRow])
  ·rintro k ⟨v,l⟩ hk ⟨hl,hlen⟩;simp only at hl hlen;obtain⟨e,he,C⟩:∃e:Int,e< 128/\([⟨r⟩,⟨r -32⟩,⟨r -80⟩]:List I32)[k]? =some ⟨e⟩/\([.v (.int .i32 r), .v (.int .i32 (r -32)), .v (.int .i32 (r -80))]:List D)[k]? =some (.v (.int .i32 e)):=by
    rcases(by omega:k=0\/k=1\/k=2)with rfl|rfl|rfl
    ·exact⟨r,by omega,rfl,rfl⟩
    ·exact⟨r -32,by omega,rfl,rfl⟩
    ·exact⟨r -80,by omega,rfl,rfl⟩
   obtain⟨E,p⟩:=C;have t:∀h,([.v (.int .i32 r), .v (.int .i32 (r -32)), .v (.int .i32 (r -80))]:List D)[k]'h= .v (.int .i32 e):=λh=>by
    obtain⟨_,h2⟩:=qFN.1 p;exact h2
   have u:(k:Int)< 3:=by omega
   have a:(([⟨r⟩,⟨r -32⟩,⟨r -80⟩]:List I32).take (k+1)).filter (λv=>decide (0<=v.val/\low v.val=r))=l++ ([⟨e⟩]:List I32).filter (λv=>decide (0<=v.val/\low v.val=r)):=by
    rw[qGP,E,qHw,<-hl];rfl
   by_cases h0:0<=e
   ·obtain⟨Q,U⟩:=VP h0 he;have F:∃d:Int,0<=d/\d< 128/\lJ e=lJ d:=⟨e,h0,he,rfl⟩
    simp[hk,u,p,t,h0,h1,Wv h0 he,F,-fB',-eB'];intro y w;obtain rfl:=w e h0 he rfl;rw[qqT Q U I J];refine⟨λhh=>⟨by omega,by omega,λv=>⟨v,l++ [⟨e⟩],⟨?_,by simp;omega⟩,rfl, .inl ⟨rfl,by simp⟩⟩⟩,λhh=>⟨v,l,⟨?_,by omega⟩,rfl, .inl ⟨rfl,rfl⟩⟩⟩
    ·simpa [h0,hh]using a.symm
    ·simpa [h0,hh]using a.symm
   ·simp[hk,u,p,t,h0,-fB',-eB'];refine⟨v,l,⟨?_,by omega⟩,rfl, .inl ⟨rfl,rfl⟩⟩;simpa [h0]using a.symm
  ·rintro⟨v,l⟩ ⟨hl,hlen⟩;simp only at hl hlen;have hl:=A l hl;simp[-fB',-eB'];exact⟨1,v,l, .inr ⟨rfl,hl⟩,⟨rfl, .inl rfl, .inl ⟨rfl,rfl⟩⟩,rfl⟩
 ·simp[j,-fB',-eB'];exact aM (PI ⟨c⟩) (fM (l:=PI ⟨c⟩) N5 rfl) rfl
end
section
open Go.Proofs
def qf:CC:=oX [oB 2 (.mv (.const ob))] [0] [] (oX [oA 3 0,oB 4 (.cmp .geq (oT 3) (.const (.int .u8 65))),oA 5 4,oH 6 5 (.mv (oT 0)),oH 7 5 (.cmp .leq (oT 6) (.const (.int .u8 90))),oB 8 (.pick (oT 5) (oT 7) (.const ob)),oA 9 8,oI 10 9 (.mv (oT 0)),oI 11 9 (.cmp .geq (oT 10) (.const (.int .u8 97))),oI 12 9 (.mv (oT 11)),oH 13 12 (.mv (oT 0)),
 oH 14 12 (.cmp .leq (oT 13) (.const (.int .u8 122))),oI 15 9 (.pick (oT 12) (oT 14) (.const ob)),oB 16 (.pick (oT 9) (.const (.bool true)) (oT 15)),oA 17 16,oI 18 17 (.mv (oT 0)),oI 19 17 (.eql false false [.int] (oT 18) (.const (.int .u8 95))),oB 20 (.pick (oT 17) (.const (.bool true)) (oT 19)),oA 2 20] [2] [] (.ret))
def oQ:List ai:=[.tmp 2]
def qe:CC:=oX [oB 2 (.mv (.const ob))] [0] [] (oX [oA 3 0,oZ 4 cp [oT 3],oA 5 4,oI 6 5 (.mv (oT 0)),oI 7 5 (.cmp .geq (oT 6) (.const (.int .u8 48))),oI 8 5 (.mv (oT 7)),oH 9 8 (.mv (oT 0)),oH 10 8 (.cmp .leq (oT 9) (.const (.int .u8 57))),oI 11 5 (.pick (oT 8) (oT 10) (.const ob)),oB 12 (.pick (oT 5) (.const (.bool true)) (oT 11)),oA 13 12,
 oI 14 13 (.mv (oT 0)),oI 15 13 (.eql false false [.int] (oT 14) (.const (.int .u8 45))),oB 16 (.pick (oT 13) (.const (.bool true)) (oT 15)),oA 2 16] [2] [] (.ret))
def oP:List ai:=[.tmp 2]
def lp:CC:=oX [oB 2 (.mv (.const ob))] [0] [] (.seq (oX [oA 4 0,oB 5 (.slen (oT 4)),oB 6 (.cmp .lss (oT 5) (oN 1)),oA 7 6,oI 8 7 (.mv (oT 0)),oI 9 7 (.slen (oT 8)),oI 10 7 (.cmp .gtr (oT 9) (oN 32)),oB 11 (.pick (oT 7) (.const (.bool true)) (oT 10)),oA 12 11,oI 13 12 (.mv (oT 0)),oI 14 12 (.sidx (oT 13) (oN 0)),oI 15 12 (.call cp [oT 14]),
 oI 16 12 (.not (oT 15)),oB 17 (.pick (oT 12) (.const (.bool true)) (oT 16))] [0,17] [] (.ite (oT 17) (oX [oB 2 (.mv (.const ob))] [2] [] (.ret)) (.skip))) (.keep [0] [] (.seq (oX [oA 18 0,oB 19 (.slen (oT 18)),oB 20 (.mv (oN 0))] [0,19,20] [] (wC 0 20 19 21 1 (oX [oA 22 20,oA 3 22] [0,3,19,20] [] (oX [oA 23 0,oA 24 3,oB 25 (.sidx (oT 23) (oT 24)),oZ 26 fa [oT 25],
 oB 27 (.not (oT 26))] [0,19,20,27] [] (.ite (oT 27) (oX [oB 2 (.mv (.const ob))] [2] [] (.ret)) (.skip)))) 28)) (.keep [] [] (oX [oB 2 (.mv (.const (.bool true)))] [2] [] (.ret))))))
def kL:List ai:=[.tmp 2]
def ln:CC:=gq Tryz.f197 [] {} _
def kK:List ai:=[.tmp 2]
def CJ:FO cK [] ln kK 24:=fo
def mG:CC:=gq Tryz.f212 [] {} _
def mi:List ai:=[.tmp 4]
def En:FO nG [] mG mi 17:=fo
def wg:CC:=gq Tryz.f152 [] {} _
def ve:List ai:=[.tmp 4]
def Pg:FO xS [] wg ve 19:=fo
def cE:CC:=gq Tryz.f211 [] {} _
def cz:List ai:=[.tmp 2, .tmp 3]
def KD:FO tD [] cE cz 71:=fo
end
end Go.Gv
