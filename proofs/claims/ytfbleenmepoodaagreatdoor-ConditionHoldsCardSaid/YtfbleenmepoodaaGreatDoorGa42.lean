/- A part of the framework and of the walks: W212 W213 X4 X5 X6 X7 X8 Asm30 C79 W215 W216 W217 W214 V59 W218 Asm31 Fr Fr2 Fr3. -/
import Derived.ProofKit
import Derived.OpenShut
import Derived.ShutString
import Derived.ChangeOld
import Derived.Test.YtfbleenmepoodaaGreatDoorGa41
set_option linter.unusedSimpArgs false
set_option linter.unusedVariables false
set_option linter.unusedSectionVars false
set_option linter.defProp false
set_option maxRecDepth 100000
set_option maxHeartbeats 0
namespace Go.Gv
open Cod (enc dec)
variable {S S0:Nat->Spc}
def QF{c:Corpus}(h:OkCorp c){i:Int}(h0:0<=i)(h1:i < c.toks.length):∃w t f,w∈um/\t∈DT/\f∈FsetL/\c.toks[i.toNat]? =some [w,t,f]/\ln c.toks i 0=w/\ln c.toks i 1=t/\ln c.toks i 2=f:=by
 obtain⟨r,hr⟩:=cX (show i.toNat < c.toks.length by omega);obtain⟨w,t,f,hw,ht,hf,rfl⟩:=h.2.2.2 r (qjD hr);refine⟨w,t,f,hw,ht,hf,hr,?_,?_,?_⟩ <;> (unfold ln;rw[if_neg (by omega),hr];rfl)
def Yq:di dC vU=0:=by decide
def Yr:di dC AH=1:=by decide
def qce:di dC vV=2:=by decide
def qhs:di dC dF= -1:=by decide
def qgj:kI dC vU=0:=by decide
def qgk:kI dC AH=1:=by decide
def qgl:kI dC dF=0:=by decide
def qfM:max (0:Int) (-1)=0:=by decide
def qan:max (0:Int) 0=0:=by decide
def qam:max (0:Int) 1=1:=by decide
def qfN:max (0:Int) 2=2:=by decide
def ZA{w:B}(h:w∈um):w∈WT:=qjM.2 (.inl h)
def qeW{w:B}(h:w∈DT):w∈WT:=qjM.2 (.inr h)
def Pu(n:Nat)(z:HZ):Prop:=OkCorp z.1/\Y2 z.1.attrs z.2.2.2.1 n z.2.1/\0<=z.2.2.1/\z.2.2.1 < z.1.toks.length/\z.2.2.2.2.length=z.2.2.2.1.length/\z.2.2.2.1.length<=1000/\(∀b∈z.2.2.2.2, -1<=b/\b < z.1.toks.length)/\∃y,kp (Pg z) n z.2.1=some y
abbrev CB(n:Nat):Spc:=aZ aH (Pu n) (enc (X:=Bool)) (PB n)
set_option maxHeartbeats 4000000 in
theorem Is(n:Nat)(h1:S pb=CB n)(h2:S fu=s_rAttr)(h3:S lj=s_rMatches)(h4:S ll=s_rFeat):
 ax bX bW S aH (Pu (n+1)) (enc (X:=Bool)) (PB (n+1)):=by
 rintro⟨c,x,tok,lb,bd⟩ ⟨hc,⟨hnd,hr,hkk⟩,t0,t1,hbl,hll,hb,y,hy⟩;simp only at hc hnd hr hkk t0 t1 hbl hll hb;have hy0:kp ⟨c,tok,lb,bd⟩ (n+1) x=some y:=hy;have hQ:∀w,w=y->PB (n+1) (c,x,tok,lb,bd) w:=λw e=>by subst e;exact hy
 clear hy;have hca:=hc.1;have hl:(c.toks.length:Int)<=9223372036854775807:=by have:=hc.2.2.1;omega
 have hl2:(lb.length:Int)<=9223372036854775807:=by omega
 have hl3:(bd.length:Int)<=9223372036854775807:=by omega
 obtain⟨w,t,f,hw,ht,hf,hrow,v0,v1,v2⟩:=QF hc t0 t1;obtain⟨_,hgrow⟩:=qjA.1 hrow;obtain⟨op,name,arg,val,lab,fold,ks⟩:=x;obtain⟨r2,r3,r4,r5⟩:=hr;simp only at r2 r3 r4 r5 hkk;unfold kp at hy0;simp only at hy0;split at hy0
 ·rename_i e;subst e;obtain rfl:=qjJ hy0;simp[bX,bW,h2, -Bool.forall_bool, -Bool.exists_bool];exact hQ _ rfl
 rename_i e1;split at hy0
 ·rename_i e;subst e;obtain⟨hv,hnm⟩:=r2 rfl;have hnm:name=dF\/name=vU\/name=AH:=by simpa [Attr2]using hnm
  rcases hnm with rfl|rfl|rfl
  ·simp only[hca,qgl,v0]at hy0;simp[bX,bW,h2,h3,hca,qhs,qfM,t0,t1,hl,hrow,hgrow,hv,ZA hw, -Bool.forall_bool, -Bool.exists_bool];exactλu hu=>hQ _ (qjJ (hu.symm.trans hy0))
  ·simp only[hca,qgj,v0]at hy0;simp[bX,bW,h2,h3,hca,Yq,qan,t0,t1,hl,hrow,hgrow,hv,ZA hw, -Bool.forall_bool, -Bool.exists_bool];exactλu hu=>hQ _ (qjJ (hu.symm.trans hy0))
  ·simp only[hca,qgk,v1]at hy0;simp[bX,bW,h2,h3,hca,Yr,qam,t0,t1,hl,hrow,hgrow,hv,qeW ht, -Bool.forall_bool, -Bool.exists_bool];exactλu hu=>hQ _ (qjJ (hu.symm.trans hy0))
 rename_i e2;split at hy0
 ·rename_i e;subst e;obtain⟨hv,rfl⟩:=r3 rfl;simp only[hca,qce,v2]at hy0;simp[bX,bW,h2,h4,hca,qce,qfN,t0,t1,hl,hrow,hgrow,hv,hf, -Bool.forall_bool, -Bool.exists_bool];refine hQ _ ?_;unfold EA at hy0;split at hy0
  ·exact qjJ hy0
  ·cases hy0
 rename_i e3;split at hy0
 ·rename_i e;subst e;obtain⟨hn4,ha4⟩:=r4 rfl;have hn4:name=vU\/name=AH:=by simpa [Attr2]using hn4
  have ha4:arg=vU\/arg=AH:=by simpa [Attr2]using ha4
  split at hy0
  ·cases hy0
  rename_i hj;simp[bX,bW,h2,hl2, -Bool.forall_bool, -Bool.exists_bool];refine am (X:=Unit) [2,4,5,6,11,60] [] lb.length (λk _=>∀x∈lb.take k,decide (x=lab)=false) (λ_=>[]) (λ_=>[]) () (by simp) (by simp) (by omega) (by simp) (by simp) (by simp) (by simp) (by simp) ?_ ?_
  ·intro k _ hk hP;obtain⟨x,hx⟩:=cX hk;obtain⟨_,hgx⟩:=qjA.1 hx;by_cases hxl:x=lab
   rotate_left
   ·simp[hk,hx,hgx,hxl, -Bool.forall_bool, -Bool.exists_bool];rw[bi hx];intro z hz;rcases qjM.1 hz with hz|hz
    ·simpa using hP z hz
    ·simp at hz;subst hz;simpa using hxl
   have hi:=mV hx (by simp[hxl]) hP;rw[hi]at hy0;obtain⟨o,ho⟩:=cX (show k < bd.length by omega);obtain⟨hkb,hgo⟩:=qjA.1 ho;obtain⟨o0,o1⟩:=hb o (qjD ho);simp only[qlv,ho]at hy0;have hy1:=qjJ hy0;by_cases h0o:o= -1
   ·simp[hk,hx,hgx,hxl,hkb,ho,hgo,h0o,hl3, -Bool.forall_bool, -Bool.exists_bool];exact hQ _ (by rw[<-hy1,h0o];rfl)
   have ho0:0<=o:=by omega
   obtain⟨w',t',f',hw',ht',hf',hrow',v0',v1',v2'⟩:=QF hc ho0 o1;obtain⟨_,hgrow'⟩:=qjA.1 hrow';rcases hn4 with rfl|rfl <;> rcases ha4 with rfl|rfl <;>
   ·simp[hk,hx,hgx,hxl,hkb,ho,hgo,h0o,hl3,h2,hca,Yq,Yr,qan,qam,t0,t1,hl,hrow,hgrow,ho0,o1,hrow',hgrow', -Bool.forall_bool, -Bool.exists_bool];exact hQ _ (by rw[<-hy1];simp[ho0,hca,Yq,Yr,v0,v1,v0',v1'])
  ·intro _ hP;have hn:=gX (p:=λz=>decide (z=lab)) (l:=lb) (by simpa using hP);exact(hj (by rw[hn];decide)).elim
 rename_i e4;split at hy0
 ·rename_i e;subst e;have hy1:=qjJ hy0;simp[bX,bW,h2, -Bool.forall_bool, -Bool.exists_bool];intro hrl;refine am (X:=Unit) [2,6,106] [] c.regs.length (λk _=>∀r∈c.regs.take k,pA ⟨5,name,arg,val,lab,fold,ks⟩ tok r=false) (λ_=>[]) (λ_=>[]) () (by simp) (by simp) (by omega) (by simp) (by simp) (by simp) (by simp) (by simp) ?_ ?_
  ·intro k _ hk hP;obtain⟨r,hx⟩:=cX hk;obtain⟨_,hgx⟩:=qjA.1 hx;have hyes:pA ⟨5,name,arg,val,lab,fold,ks⟩ tok r=true->true=y:=λh=>by
    rw[<-hy1];exact(qko.2 ⟨r,qjD hx,h⟩).symm
   have hnext:pA ⟨5,name,arg,val,lab,fold,ks⟩ tok r=false->∀z∈c.regs.take (k+1),pA ⟨5,name,arg,val,lab,fold,ks⟩ tok z=false:=λh z hz=>by
    rw[bi hx]at hz;rcases qjM.1 hz with hz|hz
    ·exact hP z hz
    ·simp at hz;subst hz;exact h
   clear hP;by_cases c1:r.ty=name
   rotate_left
   ·simp[hk,hx,hgx,c1, -Bool.forall_bool, -Bool.exists_bool];exact hnext (by simp[pA,c1])
   by_cases c2:r.b<=tok
   rotate_left
   ·have c2':tok < r.b:=by omega
    simp[hk,hx,hgx,c1,c2,c2', -Bool.forall_bool, -Bool.exists_bool];exact hnext (by simp[pA,c1,c2])
   have c2':¬tok < r.b:=by omega
   by_cases c3:tok < r.e
   rotate_left
   ·have c3':r.e<=tok:=by omega
    simp[hk,hx,hgx,c1,c2,c2',c3,c3', -Bool.forall_bool, -Bool.exists_bool];exact hnext (by simp[pA,c1,c2,c3])
   have c3':¬r.e<=tok:=by omega
   by_cases c4:arg=dF
   ·have c4':arg=⟨#[]⟩:=c4;simp[hk,hx,hgx,c1,c2,c2',c3,c3',c4', -Bool.forall_bool, -Bool.exists_bool];have:=hyes (by simp[pA,c1,c2,c3,c4]);rw[c4']at hQ;exact hQ _ this
   have c4':¬arg=⟨#[]⟩:=c4;simp[hk,hx,hgx,c1,c2,c2',c3,c3',c4', -Bool.forall_bool, -Bool.exists_bool];intro hkl;refine am (X:=Unit) [2,6,106,107,108,133] [] r.kv.length (λj _=>∀p∈r.kv.take j,¬p=⟨arg,val⟩) (λ_=>[]) (λ_=>[]) () (by simp) (by simp) (by omega) (by simp) (by simp) (by simp) (by simp) (by simp) ?_ ?_
   ·intro j _ hj hP;obtain⟨p,hp⟩:=cX hj;obtain⟨_,hgp⟩:=qjA.1 hp;obtain⟨pn,pv⟩:=p;by_cases d1:pn=arg
    rotate_left
    ·simp[hj,hp,hgp,d1, -Bool.forall_bool, -Bool.exists_bool];rw[bi hp];intro z hz;rcases qjM.1 hz with hz|hz
     ·exact hP z hz
     ·simp at hz;subst hz;intro e;cases e;exact d1 rfl
    by_cases d2:pv=val
    rotate_left
    ·simp[hj,hp,hgp,d1,d2, -Bool.forall_bool, -Bool.exists_bool];rw[bi hp];intro z hz;rcases qjM.1 hz with hz|hz
     ·exact hP z hz
     ·simp at hz;subst hz;intro e;cases e;exact d2 rfl
    simp[hj,hp,hgp,d1,d2, -Bool.forall_bool, -Bool.exists_bool];exact hQ _ (hyes (by
     have hm:JY r.kv ⟨arg,val⟩=true:=qko.2 ⟨⟨pn,pv⟩,qjD hp,by rw[d1,d2];exact decide_eq_true rfl⟩;simp[pA,c1,c2,c3,hm]))
   ·intro _ hP;simp[-Bool.forall_bool, -Bool.exists_bool];refine hnext ?_;have hm:JY r.kv ⟨arg,val⟩=false:=List.any_eq_false.2 λp hp=>by
     have:=hP p (by simpa using hp);simpa using this
    simp[pA,c4,hm]
  ·intro _ hP;simp[-Bool.forall_bool, -Bool.exists_bool];refine hQ _ ?_;rw[<-hy1];exact(List.any_eq_false.2 λr hr=>by
    have:=hP r (by simpa using hr);simpa using this).symm
 rename_i e5;split at hy0
 ·rename_i e;subst e;split at hy0
  ·rename_i k ks';obtain⟨b,hb1,rfl⟩:=qjH.1 hy0;have hp:Pu n (c,k,tok,lb,bd):=⟨hc,hkk k (.head _),t0,t1,hbl,hll,hb,b,hb1⟩
   simp[bX,bW,h1,h2,hp, -Bool.forall_bool, -Bool.exists_bool];intro w hw;have hw:kp ⟨c,tok,lb,bd⟩ n k=some w:=hw;rw[hb1]at hw;cases hw;exact hQ _ rfl
  ·cases hy0
 rename_i e6;split at hy0
 rotate_left
 ·cases hy0
 rename_i hall;have hal:∀k∈ks,∃b,kp ⟨c,tok,lb,bd⟩ n k=some b:=λk hk=>qkk.1 (qjF.1 hall k hk)
 have hop:op=7\/op=8:=by
  unfold io at hnd;simp only[qjE]at hnd;have hs:=hnd.1.1;unfold MT at hs;simp only[e1,e2,e3,e4,e5,e6,if_false]at hs;split at hs
  ·assumption
  ·cases hs
 rcases hop with e|e
 ·subst e;have hy1:=qjJ ((if_pos rfl).symm.trans hy0);simp[bX,bW,h2, -Bool.forall_bool, -Bool.exists_bool];intro hkl;refine am (X:=Unit) [2,3,4,5,6,164] [] ks.length (λk _=>∀z∈ks.take k,kp ⟨c,tok,lb,bd⟩ n z=some true) (λ_=>[]) (λ_=>[]) () (by simp) (by simp) (by omega) (by simp) (by simp) (by simp) (by simp) (by simp) ?_ ?_
  ·intro k _ hk hP;obtain⟨z,hx⟩:=cX hk;obtain⟨_,hgx⟩:=qjA.1 hx;have hzm:=qjD hx;obtain⟨b,hb1⟩:=hal z hzm;have hp:Pu n (c,z,tok,lb,bd):=⟨hc,hkk z hzm,t0,t1,hbl,hll,hb,b,hb1⟩
   simp[hk,hx,hgx,h1,hp, -Bool.forall_bool, -Bool.exists_bool];intro w hw;have hw:kp ⟨c,tok,lb,bd⟩ n z=some w:=hw;cases w
   ·simp[-Bool.forall_bool, -Bool.exists_bool];refine hQ _ ?_;rw[<-hy1,qko.2 ⟨z,hzm,by rw[hw];rfl⟩];rfl
   ·simp[-Bool.forall_bool, -Bool.exists_bool];rw[bi hx];intro u hu;rcases qjM.1 hu with hu|hu
    ·exact hP u hu
    ·simp at hu;subst hu;exact hw
  ·intro _ hP;simp[-Bool.forall_bool, -Bool.exists_bool];refine hQ _ ?_;rw[<-hy1];rw[List.any_eq_false.2 λz hz=>by rw[hP z (by simpa using hz)];decide];rfl
 ·subst e;have hy1:=qjJ ((if_neg (by decide)).symm.trans hy0);simp[bX,bW,h2, -Bool.forall_bool, -Bool.exists_bool];intro hkl;refine am (X:=Unit) [2,3,4,5,6,164] [] ks.length (λk _=>∀z∈ks.take k,kp ⟨c,tok,lb,bd⟩ n z=some false) (λ_=>[]) (λ_=>[]) () (by simp) (by simp) (by omega) (by simp) (by simp) (by simp) (by simp) (by simp) ?_ ?_
  ·intro k _ hk hP;obtain⟨z,hx⟩:=cX hk;obtain⟨_,hgx⟩:=qjA.1 hx;have hzm:=qjD hx;obtain⟨b,hb1⟩:=hal z hzm;have hp:Pu n (c,z,tok,lb,bd):=⟨hc,hkk z hzm,t0,t1,hbl,hll,hb,b,hb1⟩
   simp[hk,hx,hgx,h1,hp, -Bool.forall_bool, -Bool.exists_bool];intro w hw;have hw:kp ⟨c,tok,lb,bd⟩ n z=some w:=hw;cases w
   ·simp[-Bool.forall_bool, -Bool.exists_bool];rw[bi hx];intro u hu;rcases qjM.1 hu with hu|hu
    ·exact hP u hu
    ·simp at hu;subst hu;exact hw
   ·simp[-Bool.forall_bool, -Bool.exists_bool];exact hQ _ (hy1.symm.trans (qko.2 ⟨z,hzm,by rw[hw];rfl⟩)).symm
  ·intro _ hP;simp[-Bool.forall_bool, -Bool.exists_bool];refine hQ _ ?_;rw[<-hy1];rw[List.any_eq_false.2 λz hz=>by rw[hP z (by simpa using hz)];decide]
def ST(z:HZ):Prop:=Pu 21 z/\cY z.2.1<=60/\bM z.2.1<=20
abbrev s_rHd:Spc:=aZ aH ST (enc (X:=Bool)) (PB 21)
set_option maxHeartbeats 1000000 in
theorem Iy(h1:S nI=s_rVal)(h2:S pb=CB 21):ax rM qO S aH ST (enc (X:=Bool)) (PB 21):=by
 rintro⟨c,x,tok,lb,bd⟩ ⟨hp,hn,hd⟩;have hp':=hp;obtain⟨hc,hok,t0,t1,hbl,hll,hb,y,hy⟩:=hp';simp only at hc hok t0 t1 hbl hll hb hn hd;have hl:(c.toks.length:Int)<=9223372036854775807:=by have:=hc.2.2.1;omega
 have hl2:(lb.length:Int)<=9223372036854775807:=by omega
 have ha:c.attrs.length<=1000:=by rw[hc.1];decide
 have hv:Yy (x,c.attrs,lb):=⟨hn,hd,21,hok,ha⟩
 have q0:¬tok < 0:=by omega
 have q1:¬ (c.toks.length:Int)<=tok:=by omega
 simp[rM,qO,h1,hv,hl,hl2,q0,q1,hbl, -Bool.forall_bool, -Bool.exists_bool];refine am (X:=Unit) [2,3,4,5,6,37] [] lb.length (λ_ _=>True) (λ_=>[]) (λ_=>[]) () (by simp) (by simp) (by omega) (by simp) (by simp) (by simp) (by simp[hbl]) (by simp) ?_ ?_
 ·intro k _ hk _;have hk2:k < bd.length:=by omega
  obtain⟨o,ho⟩:=cX hk2;obtain⟨_,hgo⟩:=qjA.1 ho;obtain⟨o0,o1⟩:=hb o (qjD ho);have p0:¬o < -1:=by omega
  have p1:¬ (c.toks.length:Int)<=o:=by omega
  simp[hk,hk2,ho,hgo,hl,p0,p1, -Bool.forall_bool, -Bool.exists_bool]
 ·intro _ _;simp[h2,hp, -Bool.forall_bool, -Bool.exists_bool]
end Go.Gv
namespace Go.Gv
open Go.Proofs X
def qjl:yw ⟨#[97]⟩=true:=by kernel_rfl
def qjk:yw ⟨#[98]⟩=true:=by kernel_rfl
def qji:yw ⟨#[91,97,98,93]⟩=true:=by kernel_rfl
def qjh:yw ⟨#[88]⟩=true:=by kernel_rfl
def qjg:yw ⟨#[]⟩=true:=by kernel_rfl
def qjf:yw ⟨#[99,63]⟩=true:=by kernel_rfl
def qjd:yw ⟨#[89]⟩=true:=by kernel_rfl
def qa4:(lP ⟨#[97,46,42]⟩ ⟨#[97]⟩ false && lP ⟨#[97,46,42]⟩ ⟨#[97]⟩ true)=true:=by kernel_rfl
def qa3:(lP ⟨#[97,46,42]⟩ ⟨#[98]⟩ false && lP ⟨#[97,46,42]⟩ ⟨#[98]⟩ true)=true:=by kernel_rfl
def qa2:(lP ⟨#[97,46,42]⟩ ⟨#[99]⟩ false && lP ⟨#[97,46,42]⟩ ⟨#[99]⟩ true)=true:=by kernel_rfl
def qa1:(lP ⟨#[97,46,42]⟩ ⟨#[65]⟩ false && lP ⟨#[97,46,42]⟩ ⟨#[65]⟩ true)=true:=by kernel_rfl
def qa0:(lP ⟨#[97,46,42]⟩ ⟨#[97,98]⟩ false && lP ⟨#[97,46,42]⟩ ⟨#[97,98]⟩ true)=true:=by kernel_rfl
def qaZ:(lP ⟨#[97,46,42]⟩ ⟨#[]⟩ false && lP ⟨#[97,46,42]⟩ ⟨#[]⟩ true)=true:=by kernel_rfl
def qaY:(lP ⟨#[97,46,42]⟩ ⟨#[88]⟩ false && lP ⟨#[97,46,42]⟩ ⟨#[88]⟩ true)=true:=by kernel_rfl
def qaX:(lP ⟨#[97,46,42]⟩ ⟨#[89]⟩ false && lP ⟨#[97,46,42]⟩ ⟨#[89]⟩ true)=true:=by kernel_rfl
def qjj:yw ⟨#[97,46,42]⟩=true:=by
 unfold yw;refine qjF.2 λw hw=>?_
 simp only[WT,um,DT,qku,qky,qjW,qkm,or_false]at hw;rcases hw with rfl|rfl|rfl|rfl|rfl|rfl|rfl|rfl
 ·exact qa4
 ·exact qa3
 ·exact qa2
 ·exact qa1
 ·exact qa0
 ·exact qaZ
 ·exact qaY
 ·exact qaX
def qaW:(lP ⟨#[97,124,98]⟩ ⟨#[97]⟩ false && lP ⟨#[97,124,98]⟩ ⟨#[97]⟩ true)=true:=by kernel_rfl
def qaV:(lP ⟨#[97,124,98]⟩ ⟨#[98]⟩ false && lP ⟨#[97,124,98]⟩ ⟨#[98]⟩ true)=true:=by kernel_rfl
def qaU:(lP ⟨#[97,124,98]⟩ ⟨#[99]⟩ false && lP ⟨#[97,124,98]⟩ ⟨#[99]⟩ true)=true:=by kernel_rfl
def qaT:(lP ⟨#[97,124,98]⟩ ⟨#[65]⟩ false && lP ⟨#[97,124,98]⟩ ⟨#[65]⟩ true)=true:=by kernel_rfl
def qaS:(lP ⟨#[97,124,98]⟩ ⟨#[97,98]⟩ false && lP ⟨#[97,124,98]⟩ ⟨#[97,98]⟩ true)=true:=by kernel_rfl
def qaR:(lP ⟨#[97,124,98]⟩ ⟨#[]⟩ false && lP ⟨#[97,124,98]⟩ ⟨#[]⟩ true)=true:=by kernel_rfl
def qaQ:(lP ⟨#[97,124,98]⟩ ⟨#[88]⟩ false && lP ⟨#[97,124,98]⟩ ⟨#[88]⟩ true)=true:=by kernel_rfl
def qaP:(lP ⟨#[97,124,98]⟩ ⟨#[89]⟩ false && lP ⟨#[97,124,98]⟩ ⟨#[89]⟩ true)=true:=by kernel_rfl
def qje:yw ⟨#[97,124,98]⟩=true:=by
 unfold yw;refine qjF.2 λw hw=>?_
 simp only[WT,um,DT,qku,qky,qjW,qkm,or_false]at hw;rcases hw with rfl|rfl|rfl|rfl|rfl|rfl|rfl|rfl
 ·exact qaW
 ·exact qaV
 ·exact qaU
 ·exact qaT
 ·exact qaS
 ·exact qaR
 ·exact qaQ
 ·exact qaP
def qaO:(lP ⟨#[97,124,88]⟩ ⟨#[97]⟩ false && lP ⟨#[97,124,88]⟩ ⟨#[97]⟩ true)=true:=by kernel_rfl
def qaN:(lP ⟨#[97,124,88]⟩ ⟨#[98]⟩ false && lP ⟨#[97,124,88]⟩ ⟨#[98]⟩ true)=true:=by kernel_rfl
def qaM:(lP ⟨#[97,124,88]⟩ ⟨#[99]⟩ false && lP ⟨#[97,124,88]⟩ ⟨#[99]⟩ true)=true:=by kernel_rfl
def qaL:(lP ⟨#[97,124,88]⟩ ⟨#[65]⟩ false && lP ⟨#[97,124,88]⟩ ⟨#[65]⟩ true)=true:=by kernel_rfl
def qaK:(lP ⟨#[97,124,88]⟩ ⟨#[97,98]⟩ false && lP ⟨#[97,124,88]⟩ ⟨#[97,98]⟩ true)=true:=by kernel_rfl
def qaJ:(lP ⟨#[97,124,88]⟩ ⟨#[]⟩ false && lP ⟨#[97,124,88]⟩ ⟨#[]⟩ true)=true:=by kernel_rfl
def qaI:(lP ⟨#[97,124,88]⟩ ⟨#[88]⟩ false && lP ⟨#[97,124,88]⟩ ⟨#[88]⟩ true)=true:=by kernel_rfl
def qaH:(lP ⟨#[97,124,88]⟩ ⟨#[89]⟩ false && lP ⟨#[97,124,88]⟩ ⟨#[89]⟩ true)=true:=by kernel_rfl
def qjc:yw ⟨#[97,124,88]⟩=true:=by
 unfold yw;refine qjF.2 λw hw=>?_
 simp only[WT,um,DT,qku,qky,qjW,qkm,or_false]at hw;rcases hw with rfl|rfl|rfl|rfl|rfl|rfl|rfl|rfl
 ·exact qaO
 ·exact qaN
 ·exact qaM
 ·exact qaL
 ·exact qaK
 ·exact qaJ
 ·exact qaI
 ·exact qaH
variable {dq:Prop}
def Xt:(ValsI.all λv=>qaC (En Δ WZ 10000 lG [.v (.string v)] ⟨.e, [], [],0⟩))=true:=by kernel_rfl
def qjb:∀v∈ValsI,yw v=true:=by
 intro v hv;simp only[ValsI,qjW,qkm,or_false]at hv;rcases hv with rfl|rfl|rfl|rfl|rfl|rfl|rfl|rfl|rfl|rfl
 ·exact qjl
 ·exact qjk
 ·exact qjj
 ·exact qji
 ·exact qjh
 ·exact qjg
 ·exact qjf
 ·exact qje
 ·exact qjd
 ·exact qjc
open Cod (enc dec)
def Ly:Tri dq Tryz.prog lj s_rMatches.pt:=by
 refine ku (Zy (fn:=sO) rfl 10000) ?_;rintro⟨v,w,f⟩ ⟨hv,hw⟩;have h0:=qjF.1 (qjb v hv) w hw;simp only[qjE]at h0;have h:lP v w f=true:=by cases f;exact h0.1;exact h0.2
 unfold lP at h;refine⟨rfl,?_⟩;split at h
 ·rename_i b hb;unfold qh4 at h;split at h
  ·rename_i t h1 hr;have e:t=b:=by simpa using h
   subst e;exact⟨_,_,t,hr,λρ r' hrep=>by cases hrep;exact .same _,hb⟩
  ·cases h
 ·cases h
def UT(f:Nat)(cs:List D):∀ (k:Nat) (c c':D),cs[k]? =some c->(List.replicate f D.any)[k]? =some c'->FrzTo cv c c':=by
 intro k c c' _ h;have:=List.mem_replicate.1 (qjD h);rw[this.2];exact .any _
theorem Oj:Tri dq Tryz.prog lG s_rParse0.pt:=by
 refine ku (Zy (fn:=xc) rfl 10000) ?_;intro v hv;have h:=qjF.1 Xt v hv;refine⟨rfl,?_⟩;unfold qaC at h;split at h
 ·rename_i e1 e2 e3 e4 e5 a b h1 hr;simp only[qjE,decide_eq_true_eq]at h;obtain⟨rfl,rfl⟩:=h;refine⟨_,_,(),hr,λρ r' hrep=>?_,trivial⟩;cases hrep with
  | tup cs ds hl hh=>
    match ds,hl with
    | [d1,d2,d3],_=>
      have h0:=hh 0 _ d1 rfl rfl;have h2:=hh 1 _ d2 rfl rfl;have h3:=hh 2 _ d3 rfl rfl;cases h2;cases h3;cases h0 with
      | agg cs0 ds0 hl0 hh0=>
      refine .tup rfl λk c c' hc hc'=>?_
      match k with
      | 0=>
        simp at hc hc';subst hc;subst hc';exact .agg (by simpa using hl0.symm) (UT 5 ds0)
      | 1=>simp at hc hc';subst hc;subst hc';exact .same _
      | 2=>simp at hc hc';subst hc;subst hc';exact .same _
      | k+3=>simp at hc
 ·cases h
open Go.Proofs Cod
def MQ{P:Program}{f:Nat}{A:Nat->PT}{A':PT}(h:∀n,Tri dq P f (A n))(hs:∀d ds H K,A' d ds H K->∃n,A n d ds H K):Tri dq P f A':=
 λO tp w vs ds H d K a b c e g hA=>(hs d ds H K hA).elim λn hn=>h n O tp w vs ds H d K a b c e g hn
def MR{X Y:Type}{A:fw X}{pre:Nat->X->Prop}{pre':X->Prop}{er:Y->D}{post:X->Y->Prop}(hx:∀x,pre' x->∃n,pre n x):∀d ds H K,(aZ A pre' er post).pt d ds H K->∃n,(aZ A (pre n) er post).pt d ds H K:=by
 intro d ds H K h;rw[kA]at h;cases e:A.dec ds with
 | none=>rw[e]at h;exact h.elim
 | some x=>
   rw[e]at h;obtain⟨h1,h2⟩:=h;obtain⟨n,hn⟩:=hx x h1;exact⟨n,by rw[kA,e];exact⟨hn,h2⟩⟩
def zP{P:Program}{f:Nat}{X Y:Type}{A:fw X}{pre:X->Prop}{er:Y->D}{post:X->Y->Prop}(hx:∀x,¬pre x):Tri dq P f (aZ A pre er post).pt:=λO tp w vs ds H d K a b c e g h=>by
 rw[kA]at h;cases e:A.dec ds with
 | none=>rw[e]at h;exact h.elim
 | some x=>rw[e]at h;exact(hx x h.1).elim
def ss:Tri dq Tryz.prog fu s_rAttr.pt:=ac (ag ae) zZ (λ_=>qjz rfl) A7
def Su:Tri dq Tryz.prog yG s_rIn.pt:=ac (ag ae) OE (λ_=>qjz rfl) PJ
def KN:Tri dq Tryz.prog pd s_rShape.pt:=ac (ag ae) GT (λ_=>qjz rfl) Iv
def Mu:Tri dq Tryz.prog wF s_rnode.pt:=ac (S:=DW [(pd,s_rShape),(fu,s_rAttr),(lG,s_rParse0),(ft,s_rIsF),(yG,s_rIn),(aK,s_rVName),(bb,s_rVVal)])
 (ag (ab KN (ab ss (ab Oj (ab WA (ab Su (ab P3 (ab TM ae)))))))) JG (λ_=>qjz rfl) (Lc rfl rfl rfl rfl rfl rfl rfl)
def yQ:∀n,Tri dq Tryz.prog lE (Jj n).pt
 | 0=>zP λx h=>h.1
 | n+1=>ac (ag (ab Mu (ab (yQ n) ae))) GR (λ_=>qjz rfl) (It n rfl rfl)
def KL:Tri dq Tryz.prog lE s_rfirstA.pt:=MQ yQ (MR λx h=>h)
def yR:∀n,Tri dq Tryz.prog lF (Jl n).pt
 | 0=>zP λx h=>by
   have:=uE x.1;have:=h.1;omega
 | n+1=>ac (ag (ab (yR n) ae)) GS (λ_=>qjz rfl) (Iu n rfl)
def KM:Tri dq Tryz.prog lF s_rcountA.pt:=MQ yR (MR λx h=>h)
def KO:Tri dq Tryz.prog tM s_rNodes.pt:=ac (ag (ab KM ae)) GU (λ_=>qjz rfl) (Iw rfl)
def DL:Tri dq Tryz.prog nI s_rVal.pt:=ac (ag (ab KO (ab KL ae))) Be (λ_=>qjz rfl) (B9 rfl rfl)
def yP:∀n,Tri dq Tryz.prog pb (CB n).pt
 | 0=>zP λx h=>h.2.1
 | n+1=>ac (ag (ab (yP n) (ab ss (ab Ly (ab TN ae))))) GQ (λ_=>qjz rfl) (Is n rfl rfl rfl rfl)
def KP:Tri dq Tryz.prog tN s_rHd.pt:=ac (ag (ab DL (ab (yP 21) ae))) GV (λ_=>qjz rfl) (Iy rfl rfl)
end Go.Gv
namespace Go.Gv
open Go.Proofs
open Cod (enc dec)
variable {S S0:Nat->Spc}


def GM{x:Cond}(o:Int)(e:x.op=o)(h:o≠2/\o≠3/\o≠4/\o≠5):qcZ x:=⟨λq=>(h.1 (e.symm.trans q)).elim,λq=>(h.2.1 (e.symm.trans q)).elim,λq=>(h.2.2.1 (e.symm.trans q)).elim,λq=>(h.2.2.2 (e.symm.trans q)).elim⟩
def WX{lb:List B}{x:Cond}(h:GA lb x):qcZ x:=by
 cases h with
 | val nm v f h1 h2=>exact⟨λ_=>⟨h2, .inr h1⟩,λh=>(by cases h),λh=>(by cases h),λh=>(by cases h)⟩
 | feat v h=>exact⟨λh=>(by cases h),λ_=>⟨h,rfl⟩,λh=>(by cases h),λh=>(by cases h)⟩
 | same nm l a h1 h2 h3=>exact⟨λh=>(by cases h),λh=>(by cases h),λ_=>⟨h1,h3⟩,λh=>(by cases h)⟩
 | reg nm h=>exact⟨λh=>(by cases h),λh=>(by cases h),λh=>(by cases h),λ_=>⟨.tail _ h, .inl rfl, .head _⟩⟩
 | regk nm v h1 h2=>exact⟨λh=>(by cases h),λh=>(by cases h),λh=>(by cases h),λ_=>⟨.tail _ h1, .inr (.head _), .tail _ h2⟩⟩
def G8{lb:List B} :∀ {n m:Nat} {x:Cond},GI lb n x->n < m->Y2 dC lb m x
 | _,m+1,_, .atom n c h,_=>⟨Nb h,WX h,λk hk=>by rw[Ht h]at hk;cases hk⟩
 | _,m+1,_, .not n k h,hm=>⟨rfl,GM 6 rfl (by decide),λz hz=>by
    rcases qkL.1 hz with rfl;exact G8 h (by omega)⟩
 | _,m+1,_, .two n op a b ho h1 h2,hm=>⟨by rcases ho with rfl|rfl <;> rfl,by rcases ho with e|e;exact GM 7 e (by decide);exact GM 8 e (by decide),λz hz=>by
    have hz:z∈ [a,b]:=hz;simp only[qjW,qkm,or_false]at hz;rcases hz with rfl|rfl
    ·exact G8 h1 (by omega)
    ·exact G8 h2 (by omega)⟩
def TE:∀v∈ValsT,v∈ValsI:=by decide
def Xe{lb:List B}{n m:Nat}{x:Cond}(h:GC lb n x)(hm:n < m):Y2 dC lb m x:=by
 obtain⟨m,rfl⟩:∃k,m=k+1:=⟨m -1,by omega⟩
 cases h with
 | any=>exact⟨rfl,GM 1 rfl (by decide),λk hk=>by cases hk⟩
 | top v f h=>
   have h0:=qjF.1 PY v h;simp only[qjE]at h0;refine⟨?_,⟨λ_=>⟨TE v h, .inl rfl⟩,λh=>(by cases h),λh=>(by cases h),λh=>(by cases h)⟩,λk hk=>by cases hk⟩;rw[C8];cases f
   ·exact h0.1
   ·exact h0.2
 | inner c h=>exact G8 h hm
def WQ{c:Corpus}(hc:OkCorp c){x:Cond}{tok:Int}{bd:List Int}{lb:List B}{n:Nat}(t0:0<=tok)(t1:tok < c.toks.length)(hbl:bd.length=lb.length)(hl:lb.length<=1000)(hb:∀b∈bd, -1<=b/\b < c.toks.length)(hx:GC lb n x)(hn:n<=4):ST (c,x,tok,lb,bd):=by
 obtain⟨h1,h2⟩:=RJ hx;have h3:2^ (n+1)<=2^5:=Nat.pow_le_pow_right (by decide) (by omega);have hE:K8 ⟨c,tok,lb,bd⟩:=⟨hc,t0,t1,hbl⟩
 refine⟨⟨hc,?_,t0,t1,hbl,hl,hb,Wb (m:=21) hE hx (by omega)⟩,by show cY x<=60;omega,by show bM x<=20;omega⟩;show Y2 c.attrs lb 21 x;rw[hc.1];exact Xe hx (by omega)
abbrev s_lHol:Spc:=aZ (a2 (List Int) (List Int)) (λ_=>True) (enc (X:=Bool)) λ_ y=>y=true
theorem Eg(h1:S HC=s_m_New)(h2:S mf=s_m_Corpus)(h3:S pI=E5)(h4:S nP=Jo)(h5:S pK=Jn)(h6:S jP=Z3)(h7:S pJ=E6)(h8:S tN=s_rHd)(h9:S bv=Gu):
 ax eK eC S (a2 (List Int) (List Int)) (λ_=>True) (enc (X:=Bool)) λ_ y=>y=true:=by
 rintro⟨l,m⟩ -;simp[eK,eC,h1,h2,h3,h4, -Bool.forall_bool, -Bool.exists_bool];intro L c hw hk _;have hc:=Xf hw hk;have hlb:lbs2.length<=1000:=by decide
 refine⟨hlb,λx hx=>?_⟩;have hx:GC lbs2 3 x:=hx;intro b6 b7 _;have hlen:c.toks.length<=4096:=hc.2.2.1;refine am (X:=Unit) [5,6,7] [6,7] c.toks.length (λ_ _=>True) (λ_=>[]) (λ_=>[]) () (by simp) (by simp) (by omega) (by simp) (by simp) trivial (by simp) (by simp) ?_ ?_
 ·rintro k -hk -;have hPb:∀L,YA (L,c):=λ_=>hc
  simp[h4,h5,h6,h8,hk,hPb, -Bool.forall_bool, -Bool.exists_bool];intro bd hbd;have t0:(0:Int)<=(k:Int):=by omega
  have t1:(k:Int) < c.toks.length:=by omega
  have hbd':Vq (([]:List Int),c) bd:=hbd;have hE:K8 ⟨c,(k:Int),lbs2,bd⟩:=⟨hc,t0,t1,hbd.1⟩
  obtain⟨p,hp⟩:=Wb (m:=21) hE hx (by omega);refine⟨Xw hc t0 t1 hbd' (Q1 hx (by omega)) ⟨p,hp⟩,λr1 hr1=>⟨WQ hc t0 t1 hbd.1 hlb hbd.2 hx (by omega),λr2 hr2=>?_⟩⟩;obtain rfl:p=r1:=qjJ (hp.symm.trans hr1);obtain rfl:p=r2:=qjJ (hp.symm.trans hr2);simp
 ·rintro - -;have hv:Pz c.attrs lbs2 x=true:=by rw[hc.1];exact Q1 hx (by omega)
  have hca:c.attrs.length<=1000:=by rw[hc.1];decide
  simp[h4,h7,h9, -Bool.forall_bool, -Bool.exists_bool];exact⟨hv,hca⟩
end Go.Gv
namespace Go.Gv
open Go.Proofs
open Cod (enc dec)
variable {S S0:Nat->Spc}
end Go.Gv
namespace Go.Gv
open Go.Proofs Cod
variable {dq:Prop}
def Em:Tri dq Tryz.prog jK s_lHol.pt:=ac (ag (ab TP (ab Bb (ab EI (ab DN (ab EK (ab yZ (ab EJ (ab KP (ab gT ae)))))))))) qn (λ_=>qjz rfl) (Eg rfl rfl rfl rfl rfl rfl rfl rfl rfl)
end Go.Gv
namespace Go.Gv
open Go.ChangeShapes Go.WideShapes Go.ChangeAt Go.RowKit
section
variable {H:Type}{ec:TypeId×Value->H}{P:Program}{w:World}{base:Nat}{spare:Nat->Bool}{held:Bool}{tp I:Nat->Prop}
def OpR(tp I:Nat->Prop)(w:World)(cs:List Value)(d:D):Prop:=cs.length=d.cells.length/\∀ (k:Nat) (y:Value) (c:D),cs[k]? =some y->d.cells[k]? =some c->y.oneCell'=true/\R tp I w y c
def OpR.one{y:Value}{d:D}(h:OpR tp I w [y] d)(hd:d.cells=[d]):R tp I w y d:=(h.2 0 y d rfl (by rw[hd];rfl)).2
def QX{t:TypeId}{fuel:Nat}{cs:List Value}{x:DataW H×List MemPlace}(ht:P.underlying t=some (.int .i64))(h:DataW.trod ec P w base spare held fuel t cs=some x):∃n:Int,OpR tp I w cs (Cod.enc n):=by
 obtain⟨n,rfl,_,_⟩:=DataW.trod_int ht h;refine⟨n,rfl,λk y c h1 h2=>?_⟩;cases k with
 | zero=>cases h1;cases h2;exact⟨rfl, .v _ rfl (λs h=>by cases h)⟩
 | succ k=>simp at h1
theorem JD{Y:Type}[Cod Y]{t e:TypeId}(ht:P.underlying t=some (.slice e))(hc:P.cellsOf e=Cod.wd Y)(h0:0 < Cod.wd Y)
 (hel:∀ (n:Nat) (cs:List Value) (x:DataW H×List MemPlace),DataW.trod ec P w base spare held n e cs=some x->∃y:Y,OpR tp I w cs (Cod.enc y)) (hI:∀b,b < w.heap.size->I b)
 {fuel:Nat} {cs:List Value} {x:DataW H×List MemPlace} (h:DataW.trod ec P w base spare held fuel t cs=some x) (h1w:Cod.wd Y=1:=by rfl):∃l:List Y,OpR tp I w cs (Cod.enc l):=by
 have one:∀ (v:Value) (l:List Y),v.oneCell'=true->R tp I w v (.list (Cod.wd Y) (l.map Cod.enc))->OpR tp I w [v] (Cod.enc l):=λv l h1 h2=>⟨rfl,λk y c e1 e2=>by
  cases k with
  | zero=>cases e1;cases e2;exact⟨h1,h2⟩
  | succ k=>simp at e1⟩
 rcases DataW.trod_slice ht h with⟨rfl,_⟩|⟨a,len,cap,elems,rest,n,_,rfl,_,_,hl,hm,hlen,hel',_⟩
 ·exact⟨[],one _ [] rfl (.nolist none 0 _)⟩
 ·by_cases hz:len=0
  ·subst hz;exact⟨[],one _ [] rfl (.nolist (some a) cap _)⟩
  ·have each:∀i:_root_.Fin len,∃p:List Value×Y,w.cells? base (a.add (i*P.cellsOf e)) (P.cellsOf e)=some p.1/\OpR tp I w p.1 (Cod.enc p.2):=λi=>by
    have h1:=hel' i i.2;rw[qjC (by omega)]at h1;obtain⟨cs',h2,h3⟩:=qjy.1 h1;obtain⟨y,hy⟩:=hel n cs' _ h3;exact⟨(cs',y),h2,hy⟩
   obtain⟨g,hg⟩:=qle each;obtain⟨b,off,spot⟩:=a;have cellAt:∀ (i:_root_.Fin len) (j:Nat),j < Cod.wd Y->∃v,(g i).1[j]? =some v/\w.cell? ((Addr.add ⟨b,off,spot⟩ (i*Cod.wd Y)).add j)=some v:=λi j hj=>by
    have h1:=World.cells?_some (hg i).1;have h2:=h1.2.2 j (by rw[hc];exact hj);have h3:j < (g i).1.length:=by rw[h1.2.1,hc];exact hj
    refine⟨(g i).1[j],qjC h3,?_⟩;rw[hc]at h2;rw[h2,qjC h3]
   have hs:spot=none:=by
    obtain⟨v,_,h2⟩:=cellAt ⟨0,by omega⟩ 0 h0;have:=World.cell?_spot h2;simpa [Addr.add]using this
   subst hs;have hadd:∀ (o n:Nat),Addr.add ⟨b,o,none⟩ n=⟨b,o+n,none⟩:=λo n=>by
    unfold Addr.add;split
    ·rename_i e;subst e;rfl
    ·rfl
   have cellAt':∀ (i:_root_.Fin len) (j:Nat),j < Cod.wd Y->∃v,(g i).1[j]? =some v/\w.cell? ⟨b,off+ (i*Cod.wd Y+j),none⟩=some v:=λi j hj=>by
    obtain⟨v,h1,h2⟩:=cellAt i j hj;refine⟨v,h1,?_⟩;rw[hadd,hadd]at h2;rw[<-qkP];exact h2
   have hb:b < w.heap.size:=by
    obtain⟨v,_,h2⟩:=cellAt' ⟨0,by omega⟩ 0 h0;unfold World.cell? at h2;by_cases hlt:b < w.heap.size
    ·exact hlt
    ·simp only[qlh (Nat.le_of_not_lt hlt)]at h2;cases h2
   let es:List Y:=List.ofFn λi=>(g i).2
   have hesl:es.length=len:=by simp[es]
   have hesi:∀i:_root_.Fin len,(es.map Cod.enc)[(i:Nat)]? =some (Cod.enc (g i).2):=λi=>by
    rw[qjU];have:es[(i:Nat)]? =some (g i).2:=by simp[es]
    rw[this];rfl
   have hw:∀d∈es.map Cod.enc,d.kn=true/\d.cells.length=Cod.wd Y:=λd hd=>by
    obtain⟨y,_,rfl⟩:=qjN.1 hd;exact⟨Cod.kn y,Cod.wid y⟩
   have flatAt:∀ (k:Nat) (c:D),(aR (es.map Cod.enc))[k]? =some c->∃v,w.cell? ⟨b,off+k,none⟩=some v/\v.oneCell'=true/\R tp I w v c:=λk c hk=>by
    have hkl:=(qjA.1 hk).1;rw[aF (λd hd=>(hw d hd).2),qka,hesl]at hkl;have hdm:k=(k/Cod.wd Y) *Cod.wd Y+k % Cod.wd Y:=by have:=qlb k (Cod.wd Y);rw[qk5]at this;omega
    have hmod:k % Cod.wd Y < Cod.wd Y:=qk7 _ h0;have hq:k/Cod.wd Y < len:=qlH (by rw[qk5];exact hkl);have g1:=eF (es:=es.map Cod.enc) (λd hd=>(hw d hd).2) (i:=k/Cod.wd Y) hmod;rw[<-hdm,hk,hesi ⟨k/Cod.wd Y,hq⟩]at g1;simp only[qjV]at g1;obtain⟨v,h1,h2⟩:=cellAt' ⟨k/Cod.wd Y,hq⟩ (k % Cod.wd Y) hmod;simp only at h2;rw[<-hdm]at h2;exact⟨v,h2,(hg ⟨k/Cod.wd Y,hq⟩).2.2 _ v c h1 g1.symm⟩
   have hR:R tp I w (.slice (some ⟨b,off,none⟩) len cap) (.list (Cod.wd Y) (es.map Cod.enc)):=by
    have hll:(es.map (Cod.enc (X:=Y))).length=len:=by simp[hesl]
    rw[<-hll];have rd:∀ (k:Nat) (c:D),(aR (es.map Cod.enc))[k]? =some c->w.cell? ⟨b,off+k,none⟩=some ((w.cell? ⟨b,off+k,none⟩).getD Go.undef):=λk c hk=>by
     obtain⟨v,h1,_⟩:=flatAt k c hk;rw[h1];rfl
    refine .list b off cap _ (es.map Cod.enc) (λk=>(w.cell? ⟨b,off+k,none⟩).getD Go.undef) (hI b hb) (by rw[hll];exact hl) hm (λh=>absurd h1w h) hw rd (λk c hk=>?_) (λk c hk=>?_)
    ·obtain⟨v,h1,h2,_⟩:=flatAt k c hk;rw[h1];exact h2
    ·obtain⟨v,h1,_,h2⟩:=flatAt k c hk;rw[h1];exact h2
   exact⟨es,one _ es rfl hR⟩
end
variable {dq:Prop}
section
variable {H:Type}{ec:TypeId×Value->H}{P:Program}{w:World}{base:Nat}{spare:Nat->Bool}{held:Bool}{tp I:Nat->Prop}
end
abbrev qdf(w:World):Nat->Prop:=aI (λ_=>False) (λ_=>False) cv w
def Rc{w:World}{b:Nat}(h:b < w.heap.size):qdf w b:=⟨h,λh=>h,λh=>h,λ⟨i,r,h,_⟩=>by simp[cv]at h⟩
end Go.Gv
namespace Go.Gv
open Go.ChangeShapes Go.WideShapes Go.ChangeAt Go.RowKit
section
variable {H:Type}{ec:TypeId×Value->H}{P:Program}{w:World}{base:Nat}{spare:Nat->Bool}{held:Bool}{tp I:Nat->Prop}
end
end Go.Gv
