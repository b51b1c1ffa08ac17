/- A part of the framework and of the walks: W212 W213 X4 X5 X6 X7 X8 Asm30 C79 W215 W216. -/
import Derived.Test.YtfbleenmepoodaaGreatDoorGb42
set_option linter.unusedSimpArgs false
set_option linter.unusedVariables false
set_option linter.unusedSectionVars false
set_option linter.defProp false
set_option maxRecDepth 100000
set_option maxHeartbeats 0
namespace Go.Gv
open Cod (enc dec)
variable {S S0:Nat->Spc}
def ST{c:Corpus}(h:OkCorp c){i:Int}(h0:0<=i)(h1:i < c.toks.length):∃w t f,w∈vM/\t∈FA/\f∈FsetL/\c.toks[i.toNat]? =some [w,t,f]/\mi c.toks i 0=w/\mi c.toks i 1=t/\mi c.toks i 2=f:=by
 obtain⟨r,hr⟩:=bL (show i.toNat < c.toks.length by omega);obtain⟨w,t,f,hw,ht,hf,rfl⟩:=h.2.2.2 r (qme hr);refine⟨w,t,f,hw,ht,hf,hr,?_,?_,?_⟩ <;> (unfold mi;rw[if_neg (by omega),hr];rfl)
def qaP:dB dA xF=0:=by decide
def qaQ:dB dA B5=1:=by decide
def qeC:dB dA xG=2:=by decide
def qj2:dB dA dm= -1:=by decide
def qiQ:lF dA xF=0:=by decide
def qiR:lF dA B5=1:=by decide
def qiS:lF dA dm=0:=by decide
def qid:max (0:Int) (-1)=0:=by decide
def qcJ:max (0:Int) 0=0:=by decide
def qcI:max (0:Int) 1=1:=by decide
def qie:max (0:Int) 2=2:=by decide
def qbW{w:B}(h:w∈vM):w∈WT:=qml.2 (.inl h)
def qhk{w:B}(h:w∈FA):w∈WT:=qml.2 (.inr h)
def OK(n:Nat)(z:HZ):Prop:=OkCorp z.1/\WU z.1.attrs z.2.2.2.1 n z.2.1/\0<=z.2.2.1/\z.2.2.1 < z.1.toks.length/\z.2.2.2.2.length=z.2.2.2.1.length/\z.2.2.2.1.length<=1000/\(∀b∈z.2.2.2.2, -1<=b/\b < z.1.toks.length)/\∃y,jN (Rs z) n z.2.1=some y
abbrev zI(n:Nat):Spc:=aY aH (OK n) (enc (X:=Bool)) (RN n)
set_option maxHeartbeats 4000000 in
theorem KA(n:Nat)(h1:S mD=zI n)(h2:S fN=s_rAttr)(h3:S mc=s_rMatches)(h4:S me=s_rFeat):
 av ck cj S aH (OK (n+1)) (enc (X:=Bool)) (RN (n+1)):=by
 rintro⟨c,x,tok,lb,bd⟩ ⟨hc,⟨hnd,hr,hkk⟩,t0,t1,hbl,hll,hb,y,hy⟩;simp only at hc hnd hr hkk t0 t1 hbl hll hb;have hy0:jN ⟨c,tok,lb,bd⟩ (n+1) x=some y:=hy;have hQ:∀w,w=y->RN (n+1) (c,x,tok,lb,bd) w:=λw e=>by subst e;exact hy
 clear hy;have hca:=hc.1;have hl:(c.toks.length:Int)<=9223372036854775807:=by have:=hc.2.2.1;omega
 have hl2:(lb.length:Int)<=9223372036854775807:=by omega
 have hl3:(bd.length:Int)<=9223372036854775807:=by omega
 obtain⟨w,t,f,hw,ht,hf,hrow,v0,v1,v2⟩:=ST hc t0 t1;obtain⟨_,hgrow⟩:=qmb.1 hrow;obtain⟨op,name,arg,val,lab,fold,ks⟩:=x;obtain⟨r2,r3,r4,r5⟩:=hr;simp only at r2 r3 r4 r5 hkk;unfold jN at hy0;simp only at hy0;split at hy0
 ·rename_i e;subst e;obtain rfl:=qmk hy0;simp[ck,cj,h2, -Bool.forall_bool, -Bool.exists_bool];exact hQ _ rfl
 rename_i e1;split at hy0
 ·rename_i e;subst e;obtain⟨hv,hnm⟩:=r2 rfl;have hnm:name=dm\/name=xF\/name=B5:=by simpa [Attr2]using hnm
  rcases hnm with rfl|rfl|rfl
  ·simp only[hca,qiS,v0]at hy0;simp[ck,cj,h2,h3,hca,qj2,qid,t0,t1,hl,hrow,hgrow,hv,qbW hw, -Bool.forall_bool, -Bool.exists_bool];exactλu hu=>hQ _ (qmk (hu.symm.trans hy0))
  ·simp only[hca,qiQ,v0]at hy0;simp[ck,cj,h2,h3,hca,qaP,qcJ,t0,t1,hl,hrow,hgrow,hv,qbW hw, -Bool.forall_bool, -Bool.exists_bool];exactλu hu=>hQ _ (qmk (hu.symm.trans hy0))
  ·simp only[hca,qiR,v1]at hy0;simp[ck,cj,h2,h3,hca,qaQ,qcI,t0,t1,hl,hrow,hgrow,hv,qhk ht, -Bool.forall_bool, -Bool.exists_bool];exactλu hu=>hQ _ (qmk (hu.symm.trans hy0))
 rename_i e2;split at hy0
 ·rename_i e;subst e;obtain⟨hv,rfl⟩:=r3 rfl;simp only[hca,qeC,v2]at hy0;simp[ck,cj,h2,h4,hca,qeC,qie,t0,t1,hl,hrow,hgrow,hv,hf, -Bool.forall_bool, -Bool.exists_bool];refine hQ _ ?_;unfold Gj at hy0;split at hy0
  ·exact qmk hy0
  ·cases hy0
 rename_i e3;split at hy0
 ·rename_i e;subst e;obtain⟨hn4,ha4⟩:=r4 rfl;have hn4:name=xF\/name=B5:=by simpa [Attr2]using hn4
  have ha4:arg=xF\/arg=B5:=by simpa [Attr2]using ha4
  split at hy0
  ·cases hy0
  rename_i hj;simp[ck,cj,h2,hl2, -Bool.forall_bool, -Bool.exists_bool];refine ak (X:=Unit) [2,4,5,6,11,60] [] lb.length (λk _=>∀x∈lb.take k,decide (x=lab)=false) (λ_=>[]) (λ_=>[]) () (by simp) (by simp) (by omega) (by simp) (by simp) (by simp) (by simp) (by simp) ?_ ?_
  ·intro k _ hk hP;obtain⟨x,hx⟩:=bL hk;obtain⟨_,hgx⟩:=qmb.1 hx;by_cases hxl:x=lab
   rotate_left
   ·simp[hk,hx,hgx,hxl, -Bool.forall_bool, -Bool.exists_bool];rw[aK hx];intro z hz;rcases qml.1 hz with hz|hz
    ·simpa using hP z hz
    ·simp at hz;subst hz;simpa using hxl
   have hi:=nU hx (by simp[hxl]) hP;rw[hi]at hy0;obtain⟨o,ho⟩:=bL (show k < bd.length by omega);obtain⟨hkb,hgo⟩:=qmb.1 ho;obtain⟨o0,o1⟩:=hb o (qme ho);simp only[qn7,ho]at hy0;have hy1:=qmk hy0;by_cases h0o:o= -1
   ·simp[hk,hx,hgx,hxl,hkb,ho,hgo,h0o,hl3, -Bool.forall_bool, -Bool.exists_bool];exact hQ _ (by rw[<-hy1,h0o];rfl)
   have ho0:0<=o:=by omega
   obtain⟨w',t',f',hw',ht',hf',hrow',v0',v1',v2'⟩:=ST hc ho0 o1;obtain⟨_,hgrow'⟩:=qmb.1 hrow';rcases hn4 with rfl|rfl <;> rcases ha4 with rfl|rfl <;>
   ·simp[hk,hx,hgx,hxl,hkb,ho,hgo,h0o,hl3,h2,hca,qaP,qaQ,qcJ,qcI,t0,t1,hl,hrow,hgrow,ho0,o1,hrow',hgrow', -Bool.forall_bool, -Bool.exists_bool];exact hQ _ (by rw[<-hy1];simp[ho0,hca,qaP,qaQ,v0,v1,v0',v1'])
  ·intro _ hP;have hn:=iy (p:=λz=>decide (z=lab)) (l:=lb) (by simpa using hP);exact(hj (by rw[hn];decide)).elim
 rename_i e4;split at hy0
 ·rename_i e;subst e;have hy1:=qmk hy0;simp[ck,cj,h2, -Bool.forall_bool, -Bool.exists_bool];intro hrl;refine ak (X:=Unit) [2,6,106] [] c.regs.length (λk _=>∀r∈c.regs.take k,qz ⟨5,name,arg,val,lab,fold,ks⟩ tok r=false) (λ_=>[]) (λ_=>[]) () (by simp) (by simp) (by omega) (by simp) (by simp) (by simp) (by simp) (by simp) ?_ ?_
  ·intro k _ hk hP;obtain⟨r,hx⟩:=bL hk;obtain⟨_,hgx⟩:=qmb.1 hx;have hyes:qz ⟨5,name,arg,val,lab,fold,ks⟩ tok r=true->true=y:=λh=>by
    rw[<-hy1];exact(qmU.2 ⟨r,qme hx,h⟩).symm
   have hnext:qz ⟨5,name,arg,val,lab,fold,ks⟩ tok r=false->∀z∈c.regs.take (k+1),qz ⟨5,name,arg,val,lab,fold,ks⟩ tok z=false:=λh z hz=>by
    rw[aK hx]at hz;rcases qml.1 hz with hz|hz
    ·exact hP z hz
    ·simp at hz;subst hz;exact h
   clear hP;by_cases c1:r.ty=name
   rotate_left
   ·simp[hk,hx,hgx,c1, -Bool.forall_bool, -Bool.exists_bool];exact hnext (by simp[qz,c1])
   by_cases c2:r.b<=tok
   rotate_left
   ·have c2':tok < r.b:=by omega
    simp[hk,hx,hgx,c1,c2,c2', -Bool.forall_bool, -Bool.exists_bool];exact hnext (by simp[qz,c1,c2])
   have c2':¬tok < r.b:=by omega
   by_cases c3:tok < r.e
   rotate_left
   ·have c3':r.e<=tok:=by omega
    simp[hk,hx,hgx,c1,c2,c2',c3,c3', -Bool.forall_bool, -Bool.exists_bool];exact hnext (by simp[qz,c1,c2,c3])
   have c3':¬r.e<=tok:=by omega
   by_cases c4:arg=dm
   ·have c4':arg=⟨#[]⟩:=c4;simp[hk,hx,hgx,c1,c2,c2',c3,c3',c4', -Bool.forall_bool, -Bool.exists_bool];have:=hyes (by simp[qz,c1,c2,c3,c4]);rw[c4']at hQ;exact hQ _ this
   have c4':¬arg=⟨#[]⟩:=c4;simp[hk,hx,hgx,c1,c2,c2',c3,c3',c4', -Bool.forall_bool, -Bool.exists_bool];intro hkl;refine ak (X:=Unit) [2,6,106,107,108,133] [] r.kv.length (λj _=>∀p∈r.kv.take j,¬p=⟨arg,val⟩) (λ_=>[]) (λ_=>[]) () (by simp) (by simp) (by omega) (by simp) (by simp) (by simp) (by simp) (by simp) ?_ ?_
   ·intro j _ hj hP;obtain⟨p,hp⟩:=bL hj;obtain⟨_,hgp⟩:=qmb.1 hp;obtain⟨pn,pv⟩:=p;by_cases d1:pn=arg
    rotate_left
    ·simp[hj,hp,hgp,d1, -Bool.forall_bool, -Bool.exists_bool];rw[aK hp];intro z hz;rcases qml.1 hz with hz|hz
     ·exact hP z hz
     ·simp at hz;subst hz;intro e;cases e;exact d1 rfl
    by_cases d2:pv=val
    rotate_left
    ·simp[hj,hp,hgp,d1,d2, -Bool.forall_bool, -Bool.exists_bool];rw[aK hp];intro z hz;rcases qml.1 hz with hz|hz
     ·exact hP z hz
     ·simp at hz;subst hz;intro e;cases e;exact d2 rfl
    simp[hj,hp,hgp,d1,d2, -Bool.forall_bool, -Bool.exists_bool];exact hQ _ (hyes (by
     have hm:L4 r.kv ⟨arg,val⟩=true:=qmU.2 ⟨⟨pn,pv⟩,qme hp,by rw[d1,d2];exact decide_eq_true rfl⟩;simp[qz,c1,c2,c3,hm]))
   ·intro _ hP;simp[-Bool.forall_bool, -Bool.exists_bool];refine hnext ?_;have hm:L4 r.kv ⟨arg,val⟩=false:=List.any_eq_false.2 λp hp=>by
     have:=hP p (by simpa using hp);simpa using this
    simp[qz,c4,hm]
  ·intro _ hP;simp[-Bool.forall_bool, -Bool.exists_bool];refine hQ _ ?_;rw[<-hy1];exact(List.any_eq_false.2 λr hr=>by
    have:=hP r (by simpa using hr);simpa using this).symm
 rename_i e5;split at hy0
 ·rename_i e;subst e;split at hy0
  ·rename_i k ks';obtain⟨b,hb1,rfl⟩:=qmi.1 hy0;have hp:OK n (c,k,tok,lb,bd):=⟨hc,hkk k (.head _),t0,t1,hbl,hll,hb,b,hb1⟩
   simp[ck,cj,h1,h2,hp, -Bool.forall_bool, -Bool.exists_bool];intro w hw;have hw:jN ⟨c,tok,lb,bd⟩ n k=some w:=hw;rw[hb1]at hw;cases hw;exact hQ _ rfl
  ·cases hy0
 rename_i e6;split at hy0
 rotate_left
 ·cases hy0
 rename_i hall;have hal:∀k∈ks,∃b,jN ⟨c,tok,lb,bd⟩ n k=some b:=λk hk=>qmZ.1 (qmg.1 hall k hk)
 have hop:op=7\/op=8:=by
  unfold iL at hnd;simp only[qmf]at hnd;have hs:=hnd.1.1;unfold O0 at hs;simp only[e1,e2,e3,e4,e5,e6,if_false]at hs;split at hs
  ·assumption
  ·cases hs
 rcases hop with e|e
 ·subst e;have hy1:=qmk ((if_pos rfl).symm.trans hy0);simp[ck,cj,h2, -Bool.forall_bool, -Bool.exists_bool];intro hkl;refine ak (X:=Unit) [2,3,4,5,6,164] [] ks.length (λk _=>∀z∈ks.take k,jN ⟨c,tok,lb,bd⟩ n z=some true) (λ_=>[]) (λ_=>[]) () (by simp) (by simp) (by omega) (by simp) (by simp) (by simp) (by simp) (by simp) ?_ ?_
  ·intro k _ hk hP;obtain⟨z,hx⟩:=bL hk;obtain⟨_,hgx⟩:=qmb.1 hx;have hzm:=qme hx;obtain⟨b,hb1⟩:=hal z hzm;have hp:OK n (c,z,tok,lb,bd):=⟨hc,hkk z hzm,t0,t1,hbl,hll,hb,b,hb1⟩
   simp[hk,hx,hgx,h1,hp, -Bool.forall_bool, -Bool.exists_bool];intro w hw;have hw:jN ⟨c,tok,lb,bd⟩ n z=some w:=hw;cases w
   ·simp[-Bool.forall_bool, -Bool.exists_bool];refine hQ _ ?_;rw[<-hy1,qmU.2 ⟨z,hzm,by rw[hw];rfl⟩];rfl
   ·simp[-Bool.forall_bool, -Bool.exists_bool];rw[aK hx];intro u hu;rcases qml.1 hu with hu|hu
    ·exact hP u hu
    ·simp at hu;subst hu;exact hw
  ·intro _ hP;simp[-Bool.forall_bool, -Bool.exists_bool];refine hQ _ ?_;rw[<-hy1];rw[List.any_eq_false.2 λz hz=>by rw[hP z (by simpa using hz)];decide];rfl
 ·subst e;have hy1:=qmk ((if_neg (by decide)).symm.trans hy0);simp[ck,cj,h2, -Bool.forall_bool, -Bool.exists_bool];intro hkl;refine ak (X:=Unit) [2,3,4,5,6,164] [] ks.length (λk _=>∀z∈ks.take k,jN ⟨c,tok,lb,bd⟩ n z=some false) (λ_=>[]) (λ_=>[]) () (by simp) (by simp) (by omega) (by simp) (by simp) (by simp) (by simp) (by simp) ?_ ?_
  ·intro k _ hk hP;obtain⟨z,hx⟩:=bL hk;obtain⟨_,hgx⟩:=qmb.1 hx;have hzm:=qme hx;obtain⟨b,hb1⟩:=hal z hzm;have hp:OK n (c,z,tok,lb,bd):=⟨hc,hkk z hzm,t0,t1,hbl,hll,hb,b,hb1⟩
   simp[hk,hx,hgx,h1,hp, -Bool.forall_bool, -Bool.exists_bool];intro w hw;have hw:jN ⟨c,tok,lb,bd⟩ n z=some w:=hw;cases w
   ·simp[-Bool.forall_bool, -Bool.exists_bool];rw[aK hx];intro u hu;rcases qml.1 hu with hu|hu
    ·exact hP u hu
    ·simp at hu;subst hu;exact hw
   ·simp[-Bool.forall_bool, -Bool.exists_bool];exact hQ _ (hy1.symm.trans (qmU.2 ⟨z,hzm,by rw[hw];rfl⟩)).symm
  ·intro _ hP;simp[-Bool.forall_bool, -Bool.exists_bool];refine hQ _ ?_;rw[<-hy1];rw[List.any_eq_false.2 λz hz=>by rw[hP z (by simpa using hz)];decide]
def Vu(z:HZ):Prop:=OK 21 z/\aJ z.2.1<=60/\aA z.2.1<=20
abbrev s_rHd:Spc:=aY aH Vu (enc (X:=Bool)) (RN 21)
set_option maxHeartbeats 1000000 in
theorem KI(h1:S kE=s_rVal)(h2:S mD=zI 21):av tg sa S aH Vu (enc (X:=Bool)) (RN 21):=by
 rintro⟨c,x,tok,lb,bd⟩ ⟨hp,hn,hd⟩;have hp':=hp;obtain⟨hc,hok,t0,t1,hbl,hll,hb,y,hy⟩:=hp';simp only at hc hok t0 t1 hbl hll hb hn hd;have hl:(c.toks.length:Int)<=9223372036854775807:=by have:=hc.2.2.1;omega
 have hl2:(lb.length:Int)<=9223372036854775807:=by omega
 have ha:c.attrs.length<=1000:=by rw[hc.1];decide
 have hv:Yq (x,c.attrs,lb):=⟨hn,hd,21,hok,ha⟩
 have q0:¬tok < 0:=by omega
 have q1:¬ (c.toks.length:Int)<=tok:=by omega
 simp[tg,sa,h1,hv,hl,hl2,q0,q1,hbl, -Bool.forall_bool, -Bool.exists_bool];refine ak (X:=Unit) [2,3,4,5,6,37] [] lb.length (λ_ _=>True) (λ_=>[]) (λ_=>[]) () (by simp) (by simp) (by omega) (by simp) (by simp) (by simp) (by simp[hbl]) (by simp) ?_ ?_
 ·intro k _ hk _;have hk2:k < bd.length:=by omega
  obtain⟨o,ho⟩:=bL hk2;obtain⟨_,hgo⟩:=qmb.1 ho;obtain⟨o0,o1⟩:=hb o (qme ho);have p0:¬o < -1:=by omega
  have p1:¬ (c.toks.length:Int)<=o:=by omega
  simp[hk,hk2,ho,hgo,hl,p0,p1, -Bool.forall_bool, -Bool.exists_bool]
 ·intro _ _;simp[h2,hp, -Bool.forall_bool, -Bool.exists_bool]
end Go.Gv
namespace Go.Gv
open Go.Proofs X
def qlW:Aj ⟨#[97]⟩=true:=by kernel_rfl
def qlV:Aj ⟨#[98]⟩=true:=by kernel_rfl
def qlT:Aj ⟨#[91,97,98,93]⟩=true:=by kernel_rfl
def qlS:Aj ⟨#[88]⟩=true:=by kernel_rfl
def qlR:Aj ⟨#[]⟩=true:=by kernel_rfl
def qlQ:Aj ⟨#[99,63]⟩=true:=by kernel_rfl
def qlO:Aj ⟨#[89]⟩=true:=by kernel_rfl
def qdq:(mP ⟨#[97,46,42]⟩ ⟨#[97]⟩ false && mP ⟨#[97,46,42]⟩ ⟨#[97]⟩ true)=true:=by kernel_rfl
def qdp:(mP ⟨#[97,46,42]⟩ ⟨#[98]⟩ false && mP ⟨#[97,46,42]⟩ ⟨#[98]⟩ true)=true:=by kernel_rfl
def qdo:(mP ⟨#[97,46,42]⟩ ⟨#[99]⟩ false && mP ⟨#[97,46,42]⟩ ⟨#[99]⟩ true)=true:=by kernel_rfl
def qdn:(mP ⟨#[97,46,42]⟩ ⟨#[65]⟩ false && mP ⟨#[97,46,42]⟩ ⟨#[65]⟩ true)=true:=by kernel_rfl
def qdm:(mP ⟨#[97,46,42]⟩ ⟨#[97,98]⟩ false && mP ⟨#[97,46,42]⟩ ⟨#[97,98]⟩ true)=true:=by kernel_rfl
def qdl:(mP ⟨#[97,46,42]⟩ ⟨#[]⟩ false && mP ⟨#[97,46,42]⟩ ⟨#[]⟩ true)=true:=by kernel_rfl
def qdk:(mP ⟨#[97,46,42]⟩ ⟨#[88]⟩ false && mP ⟨#[97,46,42]⟩ ⟨#[88]⟩ true)=true:=by kernel_rfl
def qdj:(mP ⟨#[97,46,42]⟩ ⟨#[89]⟩ false && mP ⟨#[97,46,42]⟩ ⟨#[89]⟩ true)=true:=by kernel_rfl
def qlU:Aj ⟨#[97,46,42]⟩=true:=by
 unfold Aj;refine qmg.2 λw hw=>?_
 simp only[WT,vM,FA,qm5,qm9,qmw,qmM,or_false]at hw;rcases hw with rfl|rfl|rfl|rfl|rfl|rfl|rfl|rfl
 ·exact qdq
 ·exact qdp
 ·exact qdo
 ·exact qdn
 ·exact qdm
 ·exact qdl
 ·exact qdk
 ·exact qdj
def qdi:(mP ⟨#[97,124,98]⟩ ⟨#[97]⟩ false && mP ⟨#[97,124,98]⟩ ⟨#[97]⟩ true)=true:=by kernel_rfl
def qdh:(mP ⟨#[97,124,98]⟩ ⟨#[98]⟩ false && mP ⟨#[97,124,98]⟩ ⟨#[98]⟩ true)=true:=by kernel_rfl
def qdg:(mP ⟨#[97,124,98]⟩ ⟨#[99]⟩ false && mP ⟨#[97,124,98]⟩ ⟨#[99]⟩ true)=true:=by kernel_rfl
def qdf:(mP ⟨#[97,124,98]⟩ ⟨#[65]⟩ false && mP ⟨#[97,124,98]⟩ ⟨#[65]⟩ true)=true:=by kernel_rfl
def qde:(mP ⟨#[97,124,98]⟩ ⟨#[97,98]⟩ false && mP ⟨#[97,124,98]⟩ ⟨#[97,98]⟩ true)=true:=by kernel_rfl
def qdd:(mP ⟨#[97,124,98]⟩ ⟨#[]⟩ false && mP ⟨#[97,124,98]⟩ ⟨#[]⟩ true)=true:=by kernel_rfl
def qdc:(mP ⟨#[97,124,98]⟩ ⟨#[88]⟩ false && mP ⟨#[97,124,98]⟩ ⟨#[88]⟩ true)=true:=by kernel_rfl
def qdb:(mP ⟨#[97,124,98]⟩ ⟨#[89]⟩ false && mP ⟨#[97,124,98]⟩ ⟨#[89]⟩ true)=true:=by kernel_rfl
def qlP:Aj ⟨#[97,124,98]⟩=true:=by
 unfold Aj;refine qmg.2 λw hw=>?_
 simp only[WT,vM,FA,qm5,qm9,qmw,qmM,or_false]at hw;rcases hw with rfl|rfl|rfl|rfl|rfl|rfl|rfl|rfl
 ·exact qdi
 ·exact qdh
 ·exact qdg
 ·exact qdf
 ·exact qde
 ·exact qdd
 ·exact qdc
 ·exact qdb
def qda:(mP ⟨#[97,124,88]⟩ ⟨#[97]⟩ false && mP ⟨#[97,124,88]⟩ ⟨#[97]⟩ true)=true:=by kernel_rfl
def qc9:(mP ⟨#[97,124,88]⟩ ⟨#[98]⟩ false && mP ⟨#[97,124,88]⟩ ⟨#[98]⟩ true)=true:=by kernel_rfl
def qc8:(mP ⟨#[97,124,88]⟩ ⟨#[99]⟩ false && mP ⟨#[97,124,88]⟩ ⟨#[99]⟩ true)=true:=by kernel_rfl
def qc7:(mP ⟨#[97,124,88]⟩ ⟨#[65]⟩ false && mP ⟨#[97,124,88]⟩ ⟨#[65]⟩ true)=true:=by kernel_rfl
def qc6:(mP ⟨#[97,124,88]⟩ ⟨#[97,98]⟩ false && mP ⟨#[97,124,88]⟩ ⟨#[97,98]⟩ true)=true:=by kernel_rfl
def qc5:(mP ⟨#[97,124,88]⟩ ⟨#[]⟩ false && mP ⟨#[97,124,88]⟩ ⟨#[]⟩ true)=true:=by kernel_rfl
def qc4:(mP ⟨#[97,124,88]⟩ ⟨#[88]⟩ false && mP ⟨#[97,124,88]⟩ ⟨#[88]⟩ true)=true:=by kernel_rfl
def qc3:(mP ⟨#[97,124,88]⟩ ⟨#[89]⟩ false && mP ⟨#[97,124,88]⟩ ⟨#[89]⟩ true)=true:=by kernel_rfl
def qlN:Aj ⟨#[97,124,88]⟩=true:=by
 unfold Aj;refine qmg.2 λw hw=>?_
 simp only[WT,vM,FA,qm5,qm9,qmw,qmM,or_false]at hw;rcases hw with rfl|rfl|rfl|rfl|rfl|rfl|rfl|rfl
 ·exact qda
 ·exact qc9
 ·exact qc8
 ·exact qc7
 ·exact qc6
 ·exact qc5
 ·exact qc4
 ·exact qc3
variable {dq:Prop}
def Z4:(ValsI.all λv=>qcY (F5 Δ ZO 10000 mG [.v (.string v)] ⟨.e, [], [],0⟩))=true:=by kernel_rfl
def qlM:∀v∈ValsI,Aj v=true:=by
 intro v hv;simp only[ValsI,qmw,qmM,or_false]at hv;rcases hv with rfl|rfl|rfl|rfl|rfl|rfl|rfl|rfl|rfl|rfl
 ·exact qlW
 ·exact qlV
 ·exact qlU
 ·exact qlT
 ·exact qlS
 ·exact qlR
 ·exact qlQ
 ·exact qlP
 ·exact qlO
 ·exact qlN
open Cod (enc dec)
def Nw:Tri dq Tryz.prog mc s_rMatches.pt:=by
 refine lp (qbU (fn:=ug) rfl 10000) ?_;rintro⟨v,w,f⟩ ⟨hv,hw⟩;have h0:=qmg.1 (qlM v hv) w hw;simp only[qmf]at h0;have h:mP v w f=true:=by cases f;exact h0.1;exact h0.2
 unfold mP at h;refine⟨rfl,?_⟩;split at h
 ·rename_i b hb;unfold qkE at h;split at h
  ·rename_i t h1 hr;have e:t=b:=by simpa using h
   subst e;exact⟨_,_,t,hr,λρ r' hrep=>by cases hrep;exact .same _,hb⟩
  ·cases h
 ·cases h
def XF(f:Nat)(cs:List D):∀ (k:Nat) (c c':D),cs[k]? =some c->(List.replicate f D.any)[k]? =some c'->FrzTo cw c c':=by
 intro k c c' _ h;have:=List.mem_replicate.1 (qme h);rw[this.2];exact .any _
theorem Qy:Tri dq Tryz.prog mG s_rParse0.pt:=by
 refine lp (qbU (fn:=yP) rfl 10000) ?_;intro v hv;have h:=qmg.1 Z4 v hv;refine⟨rfl,?_⟩;unfold qcY at h;split at h
 ·rename_i e1 e2 e3 e4 e5 a b h1 hr;simp only[qmf,decide_eq_true_eq]at h;obtain⟨rfl,rfl⟩:=h;refine⟨_,_,(),hr,λρ r' hrep=>?_,trivial⟩;cases hrep with
  | tup cs ds hl hh=>
    match ds,hl with
    | [d1,d2,d3],_=>
      have h0:=hh 0 _ d1 rfl rfl;have h2:=hh 1 _ d2 rfl rfl;have h3:=hh 2 _ d3 rfl rfl;cases h2;cases h3;cases h0 with
      | agg cs0 ds0 hl0 hh0=>
      refine .tup rfl λk c c' hc hc'=>?_
      match k with
      | 0=>
        simp at hc hc';subst hc;subst hc';exact .agg (by simpa using hl0.symm) (XF 5 ds0)
      | 1=>simp at hc hc';subst hc;subst hc';exact .same _
      | 2=>simp at hc hc';subst hc;subst hc';exact .same _
      | k+3=>simp at hc
 ·cases h
end Go.Gv
namespace Go.Gv
open Go.Proofs Cod
variable {dq:Prop}
def Dk{P:Program}{f:Nat}{A:Nat->PT}{A':PT}(h:∀n,Tri dq P f (A n))(hs:∀d ds H K,A' d ds H K->∃n,A n d ds H K):Tri dq P f A':=
 λO tp w vs ds H d K a b c e g hA=>(hs d ds H K hA).elim λn hn=>h n O tp w vs ds H d K a b c e g hn
def Do{X Y:Type}{A:eZ X}{pre:Nat->X->Prop}{pre':X->Prop}{er:Y->D}{post:X->Y->Prop}(hx:∀x,pre' x->∃n,pre n x):∀d ds H K,(aY A pre' er post).pt d ds H K->∃n,(aY A (pre n) er post).pt d ds H K:=by
 intro d ds H K h;rw[lu]at h;cases e:A.dec ds with
 | none=>rw[e]at h;exact h.elim
 | some x=>
   rw[e]at h;obtain⟨h1,h2⟩:=h;obtain⟨n,hn⟩:=hx x h1;exact⟨n,by rw[lu,e];exact⟨hn,h2⟩⟩
def nZ{P:Program}{f:Nat}{X Y:Type}{A:eZ X}{pre:X->Prop}{er:Y->D}{post:X->Y->Prop}(hx:∀x,¬pre x):Tri dq P f (aY A pre er post).pt:=λO tp w vs ds H d K a b c e g h=>by
 rw[lu]at h;cases e:A.dec ds with
 | none=>rw[e]at h;exact h.elim
 | some x=>rw[e]at h;exact(hx x h.1).elim
def tM:Tri dq Tryz.prog fN s_rAttr.pt:=ac (ag ae) By (λ_=>qma rfl) CA
def U3:Tri dq Tryz.prog mC s_rIn.pt:=ac (ag ae) G1 (λ_=>qma rfl) Kz
def MR:Tri dq Tryz.prog qe s_rShape.pt:=ac (ag ae) IX (λ_=>qma rfl) KE
def Ow:Tri dq Tryz.prog yq s_rnode.pt:=ac (S:=Dl [(qe,s_rShape),(fN,s_rAttr),(mG,s_rParse0),(fM,s_rIsF),(mC,s_rIn),(aN,s_rVName),(bk,s_rVVal)])
 (ag (aa MR (aa tM (aa Qy (aa Zr (aa U3 (aa Se (aa Wt ae)))))))) LI (λ_=>qma rfl) (M8 rfl rfl rfl rfl rfl rfl rfl)
def AD:∀n,Tri dq Tryz.prog mE (Lo n).pt
 | 0=>nZ λx h=>h.1
 | n+1=>ac (ag (aa Ow (aa (AD n) ae))) IU (λ_=>qma rfl) (KB n rfl rfl)
def MO:Tri dq Tryz.prog mE s_rfirstA.pt:=Dk AD (Do λx h=>h)
def AE:∀n,Tri dq Tryz.prog mF (Lq n).pt
 | 0=>nZ λx h=>by
   have:=tD x.1;have:=h.1;omega
 | n+1=>ac (ag (aa (AE n) ae)) IV (λ_=>qma rfl) (KC n rfl)
def MP:Tri dq Tryz.prog mF s_rcountA.pt:=Dk AE (Do λx h=>h)
def qj:Tri dq Tryz.prog jK s_rNodes.pt:=ac (ag (aa MP ae)) IY (λ_=>qma rfl) (KG rfl)
def vH:Tri dq Tryz.prog kE s_rVal.pt:=ac (ag (aa qj (aa MO ae))) CK (λ_=>qma rfl) (DK rfl rfl)
def tB:∀n,Tri dq Tryz.prog mD (zI n).pt
 | 0=>nZ λx h=>h.2.1
 | n+1=>ac (ag (aa (tB n) (aa tM (aa Nw (aa Wu ae))))) IT (λ_=>qma rfl) (KA n rfl rfl rfl rfl)
def c_r22_Holds:Tri dq Tryz.prog vi s_rHd.pt:=ac (ag (aa vH (aa (tB 21) ae))) I0 (λ_=>qma rfl) (KI rfl rfl)
end Go.Gv
#print axioms Go.Gv.c_r22_Holds
namespace Go.Gv
open Go.Proofs
def mh:CC:=gq Tryz.f79 [1] {} _
def lV:List aj:=[.tmp 2]
def F8:aq Tryz.prog kD [1] mh lV 18:=fo
def iA:CC:=gq Tryz.f40 [] {} _
def iw:List aj:=[.cell 2 true 7]
def IS:aq Tryz.prog mB [] iA iw 35:=fo
def te:CC:=gq Tryz.f19 [1] {} _
def rZ:List aj:=[.cell 2 true 7]
def IZ:aq Tryz.prog qf [1] te rZ 15:=fo
def tc:CC:=gq Tryz.f20 [] {} _
def rX:List aj:=[.tmp 4]
def IW:aq Tryz.prog vh [] tc rX 26:=fo
def jg:CC:=gq Tryz.f43 [2] { bx:=[1],cu:=[1] } _
def ja:List aj:=[.tmp 4]
def wP:aq Tryz.prog fA [2] jg ja 34:=fo
def qL:CC:=gq Tryz.f22 [1] { bx:=[13] } _
def qr:List aj:=[.tmp 2]
def Ga:aq Tryz.prog sO [1] qL qr 14:=fo
def qK:CC:=gq Tryz.f15 [2] {} _
def qq:List aj:=[.tmp 4, .tmp 5]
def F9:aq Tryz.prog sL [2] qK qq 43:=fo
open Cod (enc dec)
variable {S S0:Nat->Spc}
abbrev SC(n:Nat):Spc:=aY (a1 Cond) (λx=>aA x<=n) (enc (X:=Bool)) λx y=>y=iZ x
theorem H8(n:Nat)(h1:S kD=SC n):av mh lV S (a1 Cond) (λx=>aA x<=n+1) (enc (X:=Bool)) λx y=>y=iZ x:=by
 rintro x hd;have hd:aA x<=n+1:=hd;have hsc:=Dp x;by_cases e:x.op=4
 ·simp[mh,lV,h1,hsc,e, -Bool.forall_bool, -Bool.exists_bool]
 simp[mh,lV,e, -Bool.forall_bool, -Bool.exists_bool];intro hkl;refine ak (X:=Unit) [9] [] x.kids.length (λk _=>∀z∈x.kids.take k,iZ z=false) (λ_=>[]) (λ_=>[]) () (by simp) (by simp) (by omega) (by simp) (by simp) (by simp) (by simp) (by simp) ?_ ?_
 ·intro k _ hk hP;obtain⟨z,hx⟩:=bL hk;obtain⟨_,hgx⟩:=qmb.1 hx;have hz:=qme hx;have hp:aA z<=n:=by have:=rH hz;omega
  simp[hk,hx,hgx,h1,hp, -Bool.forall_bool, -Bool.exists_bool];refine⟨λh=>?_,λh=>?_⟩
  ·rw[hsc,qmU.2 ⟨z,hz,h⟩];simp
  ·rw[aK hx];intro u hu;rcases qml.1 hu with hu|hu
   ·exact hP u hu
   ·simp at hu;subst hu;exact h
 ·intro _ hP;have:x.kids.any iZ=false:=List.any_eq_false.2 λz hz=>by rw[hP z (by simpa using hz)];decide
  simp[hsc,e,this, -Bool.forall_bool, -Bool.exists_bool]
abbrev s_rRefA:Spc:=aY (a1 Cond) (λx=>∃n,aA x<=n) (enc (X:=Bool)) λx y=>y=iZ x
def Hh{H:ab}{i:Nat}{op:Int}{name arg val lab:B}{fold:Bool}{l:List Cond}{v:Value}(h:H i=some (.row v cI 7 (l.map enc))):FrzTo H (.agg [.v (.int .i64 op), .v (.string name), .v (.string arg), .v (.string val), .v (.string lab), .v (.bool fold), .own i v]) (enc (Cond.mk op name arg val lab fold l)):=by
 simp;refine .agg rfl λk c c' h1 h2=>?_
 match k,h1,h2 with
 | 0,h1,h2|1,h1,h2|2,h1,h2|3,h1,h2|4,h1,h2|5,h1,h2=>cases h1;cases h2;exact .same _
 | 6,h1,h2=>cases h1;cases h2;exact iM cI h
 | k+7,h1,_=>simp at h1
abbrev Ln(n:Nat):Spc:=aY (a1 Cond) (λx=>aA x<=n/\aJ x<=60) (enc (X:=Cond)) λx y=>y=bG x
set_option maxHeartbeats 1000000 in
theorem Kx(n:Nat)(h1:S kD=s_rRefA)(h2:S mB=Ln n):av iA iw S (a1 Cond) (λx=>aA x<=n+1/\aJ x<=60) (enc (X:=Cond)) λx y=>y=bG x:=by
 rintro x ⟨hd,hn⟩;have hsm:∃n,aA x<=n:=⟨_,qmm _⟩
 have hany:∀H:ab,Fin (enc (X:=Cond)) (λy=>y=⟨1,dm,dm,dm,dm,false, []⟩) (D.agg [.v (.int .i64 1), .v (.string ⟨#[]⟩), .v (.string ⟨#[]⟩), .v (.string ⟨#[]⟩), .v (.string ⟨#[]⟩), .v (.bool false), .v (.slice none 0 0)]) H:=λH=>by
  refine cp ⟨1,dm,dm,dm,dm,false, []⟩ ?_ rfl;simp[dm];refine .agg rfl λk c c' h1 h2=>?_
  match k,h1,h2 with
  | 0,h1,h2|1,h1,h2|2,h1,h2|3,h1,h2|4,h1,h2|5,h1,h2=>cases h1;cases h2;exact .same _
  | 6,h1,h2=>cases h1;cases h2;exact .nil 7
  | k+7,h1,_=>simp at h1
 by_cases hc:x.op=4\/x.op=6/\iZ x=true
 ·have hl:bG x=⟨1,dm,dm,dm,dm,false, []⟩:=by rw[vZ,if_pos hc]
  rcases hc with e|⟨e,e'⟩
  ·simp[iA,iw,h1,hsm,e,hl, -Bool.forall_bool, -Bool.exists_bool];exactλ_=>hany _
  ·obtain⟨op,name,arg,val,lab,fold,ks⟩:=x;simp only at e;subst e;simp[iA,iw,h1,hsm,e',hl, -Bool.forall_bool, -Bool.exists_bool];exactλ_=>hany _
 ·have hl:bG x=⟨x.op,x.name,x.arg,x.val,x.lab,x.fold,x.kids.map bG⟩:=by rw[vZ,if_neg hc]
  have e4:¬x.op=4:=λh=>hc (.inl h)
  obtain⟨op,name,arg,val,lab,fold,ks⟩:=x;simp only at hl e4;have hs:op=6->iZ ⟨op,name,arg,val,lab,fold,ks⟩=false:=λh=>by
   cases hb:iZ ⟨op,name,arg,val,lab,fold,ks⟩with
   | false=>rfl
   | true=>exact absurd (.inr ⟨h,hb⟩) hc
  have hkn:∀y∈ks,aA y<=n/\aJ y<=60:=λy hy=>by
   have h1:=rH (p:=⟨op,name,arg,val,lab,fold,ks⟩) hy;have h2:=rq hy;have h3:=ej ⟨op,name,arg,val,lab,fold,ks⟩;simp only at h3;exact⟨by omega,by omega⟩
  have hks:ks.length<=60:=by
   have h3:=ej ⟨op,name,arg,val,lab,fold,ks⟩;simp only at h3;have:=vX ks;omega
  by_cases e6:op=6
  ·subst e6;have hs':=hs rfl;simp[iA,iw,h1,hsm,hs',hl, -Bool.forall_bool, -Bool.exists_bool];intro b1 b2 hkl;refine ak (X:=Value×List Cond) [1,2,20] [1,2] ks.length (λk z=>z.2=(ks.take k).map bG/\z.2.length=k) (λz=>[(3, .own 30 z.1)]) (λz=>[(30, .row z.1 cI 7 (z.2.map enc))]) (.slice none 0 0, []) (by simp) (by simp) (by omega) (by simp) (by simp) ⟨rfl,rfl⟩ (by simp) (by simp[isNilRow]) ?_ ?_
   ·rintro k ⟨v,l⟩ hk ⟨hl1,hl2⟩;simp only at hl1 hl2;obtain⟨y,hy⟩:=bL hk;obtain⟨_,hgy⟩:=qmb.1 hy;obtain⟨q1,q2⟩:=hkn y (qme hy);have hk60:ks.length<=60:=hks;simp[h2,hk,hy,hgy,q1,q2, -Bool.forall_bool, -Bool.exists_bool];refine⟨by omega,by omega,λv'=>⟨v',l++ [bG y],⟨?_,by simp;omega⟩,rfl, .inl ⟨rfl,by simp⟩⟩⟩;rw[hl1,<-List.map_take,aK hy];simp
   ·rintro⟨v,l⟩ ⟨hl1,hl2⟩;simp only at hl1 hl2;rw[qmJ]at hl1;simp[-Bool.forall_bool, -Bool.exists_bool];exact cp _ (Hh rfl) (by rw[hl1])
  ·simp[iA,iw,h1,hsm,e4,e6,hl, -Bool.forall_bool, -Bool.exists_bool];intro b1 b2 hkl;refine ak (X:=Value×List Cond) [1,2,20] [1,2] ks.length (λk z=>z.2=(ks.take k).map bG/\z.2.length=k) (λz=>[(3, .own 30 z.1)]) (λz=>[(30, .row z.1 cI 7 (z.2.map enc))]) (.slice none 0 0, []) (by simp) (by simp) (by omega) (by simp) (by simp) ⟨rfl,rfl⟩ (by simp) (by simp[isNilRow]) ?_ ?_
   ·rintro k ⟨v,l⟩ hk ⟨hl1,hl2⟩;simp only at hl1 hl2;obtain⟨y,hy⟩:=bL hk;obtain⟨_,hgy⟩:=qmb.1 hy;obtain⟨q1,q2⟩:=hkn y (qme hy);have hk60:ks.length<=60:=hks;simp[h2,hk,hy,hgy,q1,q2, -Bool.forall_bool, -Bool.exists_bool];refine⟨by omega,by omega,λv'=>⟨v',l++ [bG y],⟨?_,by simp;omega⟩,rfl, .inl ⟨rfl,by simp⟩⟩⟩;rw[hl1,<-List.map_take,aK hy];simp
   ·rintro⟨v,l⟩ ⟨hl1,hl2⟩;simp only at hl1 hl2;rw[qmJ]at hl1;simp[-Bool.forall_bool, -Bool.exists_bool];exact cp _ (Hh rfl) (by rw[hl1])
abbrev s_rlooseA:Spc:=aY (a1 Cond) (λx=>∃n,aA x<=n/\aJ x<=60) (enc (X:=Cond)) λx y=>y=bG x
abbrev s_rLoose:Spc:=aY (a1 Cond) (λx=>aJ x<=60/\aA x<=20) (enc (X:=Cond)) λx y=>y=bG x
def KH(h1:S jK=s_rNodes)(h2:S mB=s_rlooseA):av te rZ S (a1 Cond) (λx=>aJ x<=60/\aA x<=20) (enc (X:=Cond)) λx y=>y=bG x:=by
 rintro x ⟨hn,hd⟩;have hp:∃n,aA x<=n/\aJ x<=60:=⟨20,hd,hn⟩
 have q1:¬60 < (aJ x:Int):=by omega
 simp[te,rZ,h1,h2,hn,hd,q1, -Bool.forall_bool, -Bool.exists_bool];exactλb=>⟨⟨20,hd⟩,cp (bG x) (by simp) rfl⟩
abbrev Ec(n:Nat):Spc:=aY (a2 Cond Cond) (λx=>x.1=x.2/\aA x.1<=n/\aJ x.1<=60) (enc (X:=Bool)) λ_ y=>y=true
theorem KF(n:Nat)(h1:S sM=Ec n):av vA uE S (a2 Cond Cond) (λx=>x.1=x.2/\aA x.1<=n+1/\aJ x.1<=60) (enc (X:=Bool)) λ_ y=>y=true:=by
 rintro⟨x,x'⟩ ⟨e,hd,hn⟩;have e:x=x':=e;subst e;simp only at hd hn;have hn1:=ej x;have hln:=vX x.kids;have hl:(x.kids.length:Int)<=9223372036854775807:=by omega
 simp[vA,uE,hl, -Bool.forall_bool, -Bool.exists_bool];refine ak (X:=Unit) [2,3] [] x.kids.length (λ_ _=>True) (λ_=>[]) (λ_=>[]) () (by simp) (by simp) (by omega) (by simp) (by simp) (by simp) (by simp) (by simp) ?_ ?_
 ·intro k _ hk _;obtain⟨y,hy⟩:=bL hk;obtain⟨_,hgy⟩:=qmb.1 hy;have hm:=qme hy;have q1:aA y<=n:=by have:=rH hm;omega
  have q2:aJ y<=60:=by have:=rq hm;omega
  simp[h1,hk,hy,hgy,q1,q2, -Bool.forall_bool, -Bool.exists_bool]
 ·intro _ _;simp[-Bool.forall_bool, -Bool.exists_bool]
abbrev s_rTextsE:Spc:=aY (a2 (List B) (List B)) (λx=>x.1=x.2/\x.1.length<=100000) (enc (X:=Bool)) λ_ y=>y=true
def KD:av tc rX S (a2 (List B) (List B)) (λx=>x.1=x.2/\x.1.length<=100000) (enc (X:=Bool)) λ_ y=>y=true:=by
 rintro⟨x,x'⟩ ⟨e,hn⟩;have e:x=x':=e;subst e;simp only at hn;have hl:(x.length:Int)<=9223372036854775807:=by omega
 simp[tc,rX,hl, -Bool.forall_bool, -Bool.exists_bool];refine ak (X:=Unit) [0,1] [] x.length (λ_ _=>True) (λ_=>[]) (λ_=>[]) () (by simp) (by simp) (by omega) (by simp) (by simp) (by simp) (by simp) (by simp) ?_ ?_
 ·intro k _ hk _;obtain⟨y,hy⟩:=bL hk;obtain⟨_,hgy⟩:=qmb.1 hy;simp[hk,hy,hgy, -Bool.forall_bool, -Bool.exists_bool]
 ·intro _ _;simp[-Bool.forall_bool, -Bool.exists_bool]
def OL(z:Corpus×Cond):Prop:=OkCorp z.1/\aJ z.2<=60/\aA z.2<=20/\aJ (bG z.2)<=60/\aA (bG z.2)<=20/\WU z.1.attrs [] 21 (bG z.2)/\∀i:Nat,i < z.1.toks.length->∃y,jN ⟨z.1,(i:Int), [], []⟩ 21 (bG z.2)=some y
abbrev s_rSel:Spc:=aY (a2 Corpus Cond) OL (rN (Y:=List Int) (Z:=Int)) λz y=>y=(zH z.1 z.2,0)
theorem Ia(h1:S jK=s_rNodes)(h2:S qf=s_rLoose)(h3:S kE=s_rVal)(h4:S mD=zI 21):av qK qq S (a2 Corpus Cond) OL (rN (Y:=List Int) (Z:=Int)) λz y=>y=(zH z.1 z.2,0):=by
 rintro⟨c,x⟩ ⟨hc,hn,hd,hn2,hd2,hok,hall⟩;simp only at hc hn hd hn2 hd2 hok hall;have hl:(c.toks.length:Int)<=9223372036854775807:=by have:=hc.2.2.1;omega
 have hln0:=hc.2.2.1;have ha:c.attrs.length<=1000:=by rw[hc.1];decide
 have hv:Yq (bG x,c.attrs, []):=⟨hn2,hd2,21,hok,ha⟩
 have q1:¬60 < (aJ x:Int):=by omega
 simp[qK,qq,h1,h2,h3,hn,hd,hv,q1,hl, -Bool.forall_bool, -Bool.exists_bool];intro b;refine ak (X:=Value×List Int) [2,3] [3] c.toks.length (λk z=>z.2=F4 c x k) (λz=>[(9, .own 40 z.1)]) (λz=>[(40, .row z.1 fP 1 (z.2.map enc))]) (.slice none 0 0, []) (by simp) (by simp) (by omega) (by simp) (by simp) (by simp[F4]) (by simp) (by simp[isNilRow]) ?_ ?_
 ·rintro k ⟨v,l⟩ hk hl1;simp only at hl1;obtain⟨y,hy⟩:=hall k hk;have hp:OK 21 (c,bG x,(k:Int), [], []):=⟨hc,hok,by show(0:Int)<=(k:Int);omega,by show(k:Int) < c.toks.length;omega,rfl,qmG _,λb hb=>(by cases hb),y,hy⟩
  have hs:=GO c x k;have hln:=Ea c x k;rw[<-hl1]at hs hln;have e0:(if(jN ⟨c,(k:Int), [], []⟩ 21 (bG x)).getD false=true then[(k:Int)]else[])=if y=true then[(k:Int)]else[]:=by rw[hy];rfl
  rw[e0]at hs;simp[hk,h4,hp, -Bool.forall_bool, -Bool.exists_bool];intro w hw;have hw:jN ⟨c,(k:Int), [], []⟩ 21 (bG x)=some w:=hw;rw[hy]at hw;cases hw;refine⟨λe=>⟨by omega,by omega,λv'=> .inl ?_⟩,λe=> .inl ?_⟩
  ·rw[hs,e];simp
  ·rw[hs,e];simp
 ·rintro⟨v,l⟩ hl1;simp only at hl1;simp[-Bool.forall_bool, -Bool.exists_bool];have e:zH c x=l:=hl1.symm;rw[e];exact iM fP rfl
end Go.Gv
