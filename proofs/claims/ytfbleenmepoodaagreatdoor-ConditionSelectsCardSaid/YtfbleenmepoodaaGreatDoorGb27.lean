/- A part of the framework and of the walks: W152 W153 W154 W155 T22 T31 C51. -/
import Derived.Test.YtfbleenmepoodaaGreatDoorGb26
set_option linter.unusedSimpArgs false
set_option linter.unusedVariables false
set_option linter.unusedSectionVars false
set_option linter.defProp false
set_option maxRecDepth 100000
set_option maxHeartbeats 0
namespace Go.Gv
open Cod (enc dec)
variable {S S0:Nat->Spc}
def Ak{X:Type}(p:X->Bool):∀l:List X, -1<=ln l p/\ln l p < l.length
 | []=>⟨qnR _,by simp[ln]⟩
 | x::l=>by
   have:=Ak p l;rw[ln,qm1];split
   ·omega
   ·split <;> omega
open Classical in
noncomputable def aX{Z:Type}(v:Z->List D)(hi:∀z z',v z=v z'->z=z'):eZ Z:=⟨λds=>if h:∃z,ds=v z then some h.choose else none,v,λds z h=>by
 split at h
 ·rename_i h';have e:h'.choose=z:=qmk h;rw[<-e,<-h'.choose_spec];exact⟨rfl,λk d d' h1 h2=>by rw[h1]at h2;cases h2;exact .same _⟩
 ·cases h⟩
open Classical in
def yH{Z:Type}(v:Z->List D)(hi:∀z z',v z=v z'->z=z')(z:Z):(aX v hi).dec (v z)=some z:=by
 have h:∃z',v z=v z':=⟨z,rfl⟩
 show(if h:∃z',v z=v z' then some h.choose else none)=some z;rw[dif_pos h];exact congrArg some (hi _ _ h.choose_spec).symm
def wg{Z:Type}(v:Z->List D)(hi:∀z z',v z=v z'->z=z')(z:Z):(aX v hi).view z=v z:=rfl
def Qt(x:Attr×B):List D:=[enc x.1, .cptr [enc x.2] 0]
def K0(z z':Attr×B)(h:Qt z=Qt z'):z=z':=by
 obtain⟨a,s⟩:=z;obtain⟨a',s'⟩:=z';unfold Qt at h;simp only[qmR,D.cptr.injEq,and_true]at h;rw[bJ h.1,bJ h.2]
noncomputable abbrev qeB:eZ (Attr×B):=aX Qt K0
noncomputable abbrev IA:Spc:=aY qeB (λ_=>True) (enc (X:=Bool)) λx y=>y=decide (x.1.nm=x.2)
def rb:av eI eF S qeB (λ_=>True) (enc (X:=Bool)) λx y=>y=decide (x.1.nm=x.2):=by
 rintro⟨a,s⟩ -;rw[wg];simp[Qt,eI,eF, -Bool.forall_bool, -Bool.exists_bool]
abbrev zN:Spc:=aY (a2 (List Attr) B) (λ_=>True) (enc (X:=Int)) λx y=>y=dB x.1 x.2
def tQ(h0:S0 bv=IA)(h1:S dy=IB Attr S0):av fL fm S (a2 (List Attr) B) (λ_=>True) (enc (X:=Int)) λx y=>y=dB x.1 x.2:=by
 rintro⟨a,s⟩ -;have hf:FunOn S0 (.clo bv [.cptr [enc s] 0]) a λx=>decide (x.nm=s):=
  oj (f:=λx=>(x,s)) h0 (λx _=>yH Qt K0 (x,s)) (λ_ _=>trivial) (λx _ y hy=>hy)
 simp[fL,fm,h1, -Bool.forall_bool, -Bool.exists_bool];exact⟨⟨_,hf⟩,λy hy=>hy _ hf⟩
abbrev Eg:Spc:=aY (a2 (List Attr) B) (λx=>x.1.length<=1000) (enc (X:=Int)) λx y=>y=lF x.1 x.2
def zj(h1:S bX=zN):av fK fl S (a2 (List Attr) B) (λx=>x.1.length<=1000) (enc (X:=Int)) λx y=>y=lF x.1 x.2:=by
 rintro⟨a,s⟩ hl;have hl:a.length<=1000:=hl;have hin:InR .i64 ((a.length:Int) -1):=by simp only[InR];omega
 have hl':(a.length:Int)<=9223372036854775807:=by omega
 by_cases hs:s=dm
 ·subst hs;simp[fK,fl,dm,lF,hin,hl', -Bool.forall_bool, -Bool.exists_bool]
 ·have hs':¬s=⟨#[]⟩:=hs;simp[fK,fl,dm,lF,h1,hs', -Bool.forall_bool, -Bool.exists_bool]
def mi(t:List (List B))(i k:Int):B:=if i < 0\/k < 0 then dm else match t[i.toNat]? with
 | some r=>(match r[k.toNat]? with|some s=>s|none=>dm)
 | none=>dm
abbrev LB:Spc:=aY (a3 Corpus Int Int) (λx=>x.1.toks.length<=100000/\∀r∈x.1.toks,r.length<=100000) (enc (X:=B)) λx y=>y=mi x.1.toks x.2.1 x.2.2
theorem zn:av bF bA S (a3 Corpus Int Int) (λx=>x.1.toks.length<=100000/\∀r∈x.1.toks,r.length<=100000) (enc (X:=B)) λx y=>y=mi x.1.toks x.2.1 x.2.2:=by
 rintro⟨c,i,k⟩ ⟨hl,hr⟩;simp only at hl hr;have hl':(c.toks.length:Int)<=9223372036854775807:=by omega
 by_cases h0:i < 0
 ·simp[bF,bA,h0,mi, -Bool.forall_bool, -Bool.exists_bool];rfl
 by_cases h1:(c.toks.length:Int)<=i
 ·have hn:c.toks[i.toNat]? =none:=qm3 (by omega);by_cases h2:k < 0
  ·simp[bF,bA,h0,h1,h2,hl',mi, -Bool.forall_bool, -Bool.exists_bool];rfl
  ·simp[bF,bA,h0,h1,h2,hl',hn,mi, -Bool.forall_bool, -Bool.exists_bool];rfl
 by_cases h2:k < 0
 ·simp[bF,bA,h0,h1,h2,hl',mi, -Bool.forall_bool, -Bool.exists_bool];rfl
 obtain⟨r,hri⟩:=bL (show i.toNat < c.toks.length by omega);obtain⟨_,hgr⟩:=qmb.1 hri;have hrl:=hr r (qme hri);have hrl':(r.length:Int)<=9223372036854775807:=by omega
 have i0:0<=i:=by omega
 have i1:i < (c.toks.length:Int):=by omega
 have k0:0<=k:=by omega
 by_cases h3:(r.length:Int)<=k
 ·have hn:r[k.toNat]? =none:=qm3 (by omega);simp[bF,bA,h0,h1,h2,h3,hl',hrl',hn,hri,hgr,i0,i1,mi, -Bool.forall_bool, -Bool.exists_bool];rfl
 obtain⟨s,hsk⟩:=bL (show k.toNat < r.length by omega);obtain⟨_,hgs⟩:=qmb.1 hsk;have k1:k < (r.length:Int):=by omega
 simp[bF,bA,h0,h1,h2,h3,hl',hrl',hri,hgr,hsk,hgs,i0,i1,k0,k1,mi, -Bool.forall_bool, -Bool.exists_bool]
abbrev O4:Spc:=aY (a1 B) (λs=>BD s=true) (enc (X:=Bool)) λ_ y=>y=true
abbrev Bm:Spc:=aY (a1 B) (λs=>uW s=true) (enc (X:=Int)) λ_ y=>y=0
abbrev s_sConB:Spc:=aY (a2 B B) (λx=>x.2=⟨#[124]⟩/\uW x.1=true) (enc (X:=Bool)) λx y=>y=Yl x.1
abbrev SK:Spc:=aY (a1 B) (λs=>∃r,kj s=some r) (enc (X:=Int)) λ_ y=>y=0
def gA(l:List B)(s:B):Bool:=l.any λz=>decide (z=s)
abbrev SN:Spc:=aY (a2 (List B) B) (λ_=>True) (enc (X:=Bool)) λx y=>y=gA x.1 x.2
abbrev Iw:Spc:=aY (a2 (List B) B) (λ_=>True) (enc (X:=Int)) λx y=>y=ln x.1 λz=>decide (z=x.2)
theorem DR:av fC fa S (a2 (List B) B) (λ_=>True) (enc (X:=Int)) λx y=>y=ln x.1 λz=>decide (z=x.2):=by
 rintro⟨l,s⟩ -;simp[fC,fa, -Bool.forall_bool, -Bool.exists_bool];intro _;refine ak (X:=Unit) [0,1] [] l.length (λk _=>∀x∈l.take k,decide (x=s)=false) (λ_=>[]) (λ_=>[]) () (by simp) (by simp) (by omega) (by simp) (by simp) (by simp) (by simp) (by simp) ?_ ?_
 ·intro k _ hk hP;obtain⟨x,hx⟩:=bL hk;obtain⟨_,hgx⟩:=qmb.1 hx;simp[hk,hx,hgx, -Bool.forall_bool, -Bool.exists_bool];refine⟨λh=>?_,λh=>?_⟩
  ·exact(nU hx (by simp[h]) hP).symm
  ·rw[aK hx];intro z hz;rcases qml.1 hz with hz|hz
   ·have:=hP z hz;simpa using this
   ·simp at hz;subst hz;exactλe=>h e.symm
 ·intro _ hP;simp[-Bool.forall_bool, -Bool.exists_bool];exact(iy (by simpa using hP)).symm
def pW(h1:S cO=Iw):av cL cJ S (a2 (List B) B) (λ_=>True) (enc (X:=Bool)) λx y=>y=gA x.1 x.2:=by
 rintro⟨l,s⟩ -;simp[cL,cJ,h1, -Bool.forall_bool, -Bool.exists_bool];exact Al _ l
abbrev Lx:Spc:=aY (a2 Cond (List Attr)) (λx=>Xc x.2 x.1=true/\x.2.length<=1000) (enc (X:=Bool)) λ_ y=>y=true
theorem zg(h1:S gC=Eg)(h2:S bX=zN)(h3:S jv=O4):av bE bz S (a2 Cond (List Attr)) (λx=>Xc x.2 x.1=true/\x.2.length<=1000) (enc (X:=Bool)) λ_ y=>y=true:=by
 rintro⟨⟨op,name,arg,val,lab,fold,ks⟩,a⟩ ⟨hx,hl⟩;have hx:Xc a ⟨op,name,arg,val,lab,fold,ks⟩=true:=hx;have hl:a.length<=1000:=hl;unfold Xc at hx;simp only at hx;split at hx
 ·rename_i e;subst e;simp at hx;simp[bE,bz,h1,hl,hx, -Bool.forall_bool, -Bool.exists_bool]
 rename_i e2;split at hx
 ·rename_i e;subst e;simp at hx;simp[bE,bz,h2,hx, -Bool.forall_bool, -Bool.exists_bool]
 rename_i e3;split at hx
 ·rename_i e;subst e;simp at hx;simp[bE,bz,h2,hx.1,hx.2, -Bool.forall_bool, -Bool.exists_bool]
 rename_i e4;split at hx
 ·rename_i e;subst e;simp at hx;obtain⟨hn,ha⟩:=hx;by_cases hae:arg=dm
  ·subst hae;simp[bE,bz,h3,hn,dm, -Bool.forall_bool, -Bool.exists_bool]
  ·have ha':=ha.resolve_left hae;have hae':¬arg=⟨#[]⟩:=hae;simp[bE,bz,h3,hn,ha',hae', -Bool.forall_bool, -Bool.exists_bool]
 rename_i e5;simp[bE,bz,e2,e3,e4,e5, -Bool.forall_bool, -Bool.exists_bool]
abbrev LA:Spc:=aY (a3 Cond (List Attr) (List B)) (λx=>iL x.2.1 x.2.2 x.1=true/\x.2.1.length<=1000) (enc (X:=Int)) λ_ y=>y=0
theorem zl(h1:S kK=GT)(h2:S kL=Lx)(h3:S qJ=SK)(h4:S bX=zN)(h5:S oW=s_sConB)(h6:S bP=Bm)(h7:S aV=SN):
 av cq cn S (a3 Cond (List Attr) (List B)) (λx=>iL x.2.1 x.2.2 x.1=true/\x.2.1.length<=1000) (enc (X:=Int)) λ_ y=>y=0:=by
 rintro⟨x,a,lb⟩ ⟨hx,hl⟩;have hx:iL a lb x=true:=hx;have hl:a.length<=1000:=hl;unfold iL at hx;simp only[qmf]at hx;obtain⟨⟨hs,hn⟩,hc⟩:=hx;obtain⟨op,name,arg,val,lab,fold,ks⟩:=x;unfold qee at hc;simp only at hc;have e:(Cond.mk op name arg val lab fold ks)=⟨op,name,arg,val,lab,fold,ks⟩:=rfl;split at hc
 ·rename_i e;subst e;obtain⟨r,hr⟩:=qmZ.1 hc;simp[cq,cn,h1,h2,h3,hs,hn,hl,hr, -Bool.forall_bool, -Bool.exists_bool]
 rename_i e2;split at hc
 ·rename_i e;subst e;simp only[qmf]at hc;obtain⟨⟨⟨c1,c2⟩,c3⟩,c4⟩:=hc;have hn':0<=dB a name:=by simpa [Xc]using hn
  have hrg:=(Ak (λx:Attr=>decide (x.nm=name)) a).2;have hlt:dB a name < a.length:=hrg;obtain⟨b,hb⟩:=bL (show(dB a name).toNat < a.length by omega);obtain⟨_,hgb⟩:=qmb.1 hb;rw[hb]at c1;have c1:b.st=true:=c1;have c2:¬val=⟨#[]⟩:=of_decide_eq_true c2;have c3:Yl val=false:=by simpa using c3
  simp[cq,cn,h1,h2,h4,h5,h6,hs,hn,hl,hn',hlt,hb,hgb,c1,c2,c3,c4, -Bool.forall_bool, -Bool.exists_bool]
 rename_i e3;split at hc
 ·rename_i e;subst e;have hc:gA lb lab=true:=hc;simp[cq,cn,h1,h2,h7,hs,hn,hl,hc, -Bool.forall_bool, -Bool.exists_bool]
 rename_i e4;split at hc
 ·rename_i e;subst e;simp[cq,cn,h1,h2,h6,hs,hn,hl,hc, -Bool.forall_bool, -Bool.exists_bool]
 rename_i e5;simp[cq,cn,h1,h2,hs,hn,hl,e2,e3,e4,e5, -Bool.forall_bool, -Bool.exists_bool]
def YD(x:Cond×List Attr×List B):List D:=[enc x.1, .cptr [enc x.2.1] 0, .cptr [enc x.2.2] 0]
def OT(z z':Cond×List Attr×List B)(h:YD z=YD z'):z=z':=by
 obtain⟨a,s,l⟩:=z;obtain⟨a',s',l'⟩:=z';unfold YD at h;simp only[qmR,D.cptr.injEq,and_true]at h;rw[bJ h.1,bJ h.2.1,bJ h.2.2]
noncomputable abbrev aVd:eZ (Cond×List Attr×List B):=aX YD OT
@[simp] theorem qe0(x:Cond)(a:List Attr)(lb:List B):aVd.dec [.agg [.v (.int .i64 x.op), .v (.string x.name), .v (.string x.arg), .v (.string x.val), .v (.string x.lab), .v (.bool x.fold), .list 7 (x.kids.map enc)], .cptr [.list 2 (a.map enc)] 0, .cptr [.list 1 (lb.map enc)] 0]=some (x,a,lb):=by
 have h:=yH YD OT (x,a,lb);have e:YD (x,a,lb)=[.agg [.v (.int .i64 x.op), .v (.string x.name), .v (.string x.arg), .v (.string x.val), .v (.string x.lab), .v (.bool x.fold), .list 7 (x.kids.map enc)], .cptr [.list 2 (a.map enc)] 0, .cptr [.list 1 (lb.map enc)] 0]:=by simp[YD]
 rw[<-e];exact h
noncomputable abbrev O8:Spc:=aY aVd (λx=>iL x.2.1 x.2.2 x.1=true/\x.2.1.length<=1000) (enc (X:=Int)) λ_ y=>y=0
def rO(h1:S kM=LA):av eW eP S aVd (λx=>iL x.2.1 x.2.2 x.1=true/\x.2.1.length<=1000) (enc (X:=Int)) λ_ y=>y=0:=by
 rintro⟨x,a,lb⟩ ⟨hx,hl⟩;simp only at hx hl;rw[wg];simp[YD,eW,eP,h1,hx,hl, -Bool.forall_bool, -Bool.exists_bool]
def qeE(n:Nat)(x:Cond×D×Unit):Prop:=∃ (a:List Attr) (lb:List B),x.2.1= .clo bI [.cptr [enc a] 0, .cptr [enc lb] 0]/\my a lb n x.1=true/\a.length<=1000/\aJ x.1<=60
noncomputable abbrev Lv(n:Nat):Spc:=aY (aE Cond (aD a0)) (qeE n) (enc (X:=Int)) λx y=>y=0
noncomputable abbrev Lu:Spc:=aY (aE Cond (aD a0)) (λx=>∃n,qeE n x) (enc (X:=Int)) λx y=>y=0
theorem zd(n:Nat)(h1:S bI=O8)(h2:S aO=Lv n):av ld kb S (aE Cond (aD a0)) (qeE (n+1)) (enc (X:=Int)) λx y=>y=0:=by
 rintro⟨x,d,⟨⟩⟩ ⟨a,lb,hd,hx,hl,hn⟩;simp only at hd hx hn;subst hd;simp only[my,qmf]at hx;obtain⟨hx1,hx2⟩:=hx;simp[ld,kb,h1,hx1,hl, -Bool.forall_bool, -Bool.exists_bool];intro hkl;refine ak (X:=Unit) [1,16] [] x.kids.length (λk _=>True) (λ_=>[]) (λ_=>[]) () (by simp) (by simp) (by omega) (by simp) (by simp) (by simp) (by simp) (by simp) ?_ ?_
 ·rintro k -hk -;obtain⟨y,hy⟩:=bL hk;obtain⟨_,hgy⟩:=qmb.1 hy;have hm:=qme hy;have hny:=rq hm;have hnx:=ej x;have hp:qeE n (y, .clo bI [.cptr [.list 2 (a.map enc)] 0, .cptr [.list 1 (lb.map enc)] 0],()):=⟨a,lb,rfl,qmg.1 hx2 y hm,hl,by show aJ y<=60;omega⟩
  simp[h2,hk,hy,hgy,hp, -Bool.forall_bool, -Bool.exists_bool]
 ·rintro - -;simp[-Bool.forall_bool, -Bool.exists_bool]
abbrev VA(x:Cond×List Attr×List B):Prop:=QT x.2.1 x.2.2 x.1=true/\x.2.1.length<=1000
abbrev Iz:Spc:=aY (a3 Cond (List Attr) (List B)) VA (enc (X:=Int)) λ_ y=>y=0
def ux(h1:S bQ=Ef)(h2:S aO=Lu):av ge fU S (a3 Cond (List Attr) (List B)) VA (enc (X:=Int)) λ_ y=>y=0:=by
 rintro⟨x,a,lb⟩ ⟨hx,hl⟩;simp only at hx hl;unfold QT at hx;simp at hx;obtain⟨⟨hn,hd⟩,ha⟩:=hx;have hp:∃n,qbR n (x,0,1):=⟨aA x,qmm _,qnR _,by show(0:Int) +aJ x<=60;omega,by show(0:Int)<=1;omega,by show(1:Int) +aA x<=1000;omega,by show aA x<=60;omega⟩
 have hw:∃n,qeE n (x, .clo bI [.cptr [.list 2 (a.map enc)] 0, .cptr [.list 1 (lb.map enc)] 0],()):=⟨20,a,lb,rfl,ha,hl,hn⟩
 have q1:¬ (60:Int) < (aJ x:Int):=by omega
 have q2:¬ (20:Int) < 1+ (aA x:Int) -1:=by omega
 simp[ge,fU,h1,h2,hp,hw,q1,q2, -Bool.forall_bool, -Bool.exists_bool]
def L4(l:List Pair)(s:Pair):Bool:=l.any λz=>decide (z=s)
abbrev O5:Spc:=aY (a2 (List Pair) Pair) (λ_=>True) (enc (X:=Int)) λx y=>y=ln x.1 λz=>decide (z=x.2)
abbrev O7:Spc:=aY (a2 (List Pair) Pair) (λ_=>True) (enc (X:=Bool)) λx y=>y=L4 x.1 x.2
theorem Ik:av hZ gI S (a2 (List Pair) Pair) (λ_=>True) (enc (X:=Int)) λx y=>y=ln x.1 λz=>decide (z=x.2):=by
 rintro⟨l,s⟩ -;simp[hZ,gI, -Bool.forall_bool, -Bool.exists_bool];intro _;refine ak (X:=Unit) [0,3] [] l.length (λk _=>∀x∈l.take k,decide (x=s)=false) (λ_=>[]) (λ_=>[]) () (by simp) (by simp) (by omega) (by simp) (by simp) (by simp) (by simp) (by simp) ?_ ?_
 ·intro k _ hk hP;obtain⟨x,hx⟩:=bL hk;obtain⟨_,hgx⟩:=qmb.1 hx;simp[hk,hx,hgx, -Bool.forall_bool, -Bool.exists_bool];have hpe:s.nm=x.nm->s.vl=x.vl->x=s:=λh1 h2=>by
   obtain⟨a,b⟩:=x;obtain⟨a',b'⟩:=s;simp only at h1 h2;rw[h1,h2]
  refine⟨λh1 h2=>(nU hx (by simp[hpe h1 h2]) hP).symm,λh=>?_⟩;rw[aK hx];intro z hz;rcases qml.1 hz with hz|hz
  ·have:=hP z hz;simpa using this
  ·simp at hz;subst hz;intro e;subst e;exact h rfl rfl
 ·intro _ hP;simp[-Bool.forall_bool, -Bool.exists_bool];exact(iy (by simpa using hP)).symm
def CG(h1:S iN=O5):av eU eN S (a2 (List Pair) Pair) (λ_=>True) (enc (X:=Bool)) λx y=>y=L4 x.1 x.2:=by
 rintro⟨l,s⟩ -;simp[eU,eN,h1, -Bool.forall_bool, -Bool.exists_bool];exact Al _ l
def qz(x:Cond)(tok:Int)(r:Region):Bool:=decide (r.ty=x.name) && decide (r.b<=tok) && decide (tok < r.e) && (decide (x.arg=dm)||L4 r.kv ⟨x.arg,x.val⟩)
def RM(x:Cond):List D:=[.v (.int .i64 x.op), .v (.string x.name), .v (.string x.arg), .v (.string x.val), .v (.string x.lab), .v (.bool x.fold), .list 7 (x.kids.map enc)]
def PY(x:Cond): .agg (RM x)=enc x:=by simp[RM]
def Yc{x y:Cond}(h:RM x=RM y):x=y:=bJ (by rw[<-PY,<-PY,h])
def VK(x:Region×Cond×Int):List D:=[enc x.1, .cptr (RM x.2.1) 0, .cptr [enc x.2.2] 0]
def OU(z z':Region×Cond×Int)(h:VK z=VK z'):z=z':=by
 obtain⟨a,s,l⟩:=z;obtain⟨a',s',l'⟩:=z';unfold VK at h;simp only[qmR,D.cptr.injEq,and_true]at h;rw[bJ h.1,Yc h.2.1,bJ h.2.2]
noncomputable abbrev qlc:eZ (Region×Cond×Int):=aX VK OU
noncomputable abbrev zK:Spc:=aY qlc (λ_=>True) (enc (X:=Bool)) λx y=>y=qz x.2.1 x.2.2 x.1
def uv(h1:S fw=O7):av bu bq S qlc (λ_=>True) (enc (X:=Bool)) λx y=>y=qz x.2.1 x.2.2 x.1:=by
 rintro⟨r,x,tok⟩ -;rw[wg];by_cases e1:r.ty=x.name
 rotate_left
 ·simp[VK,RM,bu,bq,qz,e1, -Bool.forall_bool, -Bool.exists_bool]
 by_cases e2:r.b<=tok
 rotate_left
 ·simp[VK,RM,bu,bq,qz,e1,e2, -Bool.forall_bool, -Bool.exists_bool]
 by_cases e3:tok < r.e
 rotate_left
 ·simp[VK,RM,bu,bq,qz,e1,e2,e3, -Bool.forall_bool, -Bool.exists_bool]
 by_cases e4:x.arg=dm
 ·have e4':x.arg=⟨#[]⟩:=e4;simp[VK,RM,bu,bq,qz,e1,e2,e3,e4,e4',dm, -Bool.forall_bool, -Bool.exists_bool]
 ·have e4':¬x.arg=⟨#[]⟩:=e4;simp[VK,RM,bu,bq,qz,h1,e1,e2,e3,e4,e4', -Bool.forall_bool, -Bool.exists_bool]
abbrev SM:Spc:=aY (a3 Corpus Cond Int) (λ_=>True) (enc (X:=Bool)) λx y=>y=x.1.regs.any (qz x.2.1 x.2.2)
def xx(h0:S0 bC=zK)(h1:S dz=LE Region S0):av iU iG S (a3 Corpus Cond Int) (λ_=>True) (enc (X:=Bool)) λx y=>y=x.1.regs.any (qz x.2.1 x.2.2):=by
 rintro⟨c,x,tok⟩ -;have hf:FunOn S0 (.clo bC [.cptr (RM x) 0, .cptr [enc tok] 0]) c.regs (qz x tok):=
  oj (f:=λr=>(r,x,tok)) h0 (λr _=>yH VK OU (r,x,tok)) (λ_ _=>trivial) (λr _ y hy=>hy)
 unfold RM at hf;simp[iU,iG,h1, -Bool.forall_bool, -Bool.exists_bool];exact⟨⟨_,hf⟩,λy hy=>hy _ hf⟩
mutual
def iZ:Cond->Bool| .mk op _ _ _ _ _ ks=>decide (op=4)||Ll ks
def Ll:List Cond->Bool|[]=>false|k::ks=>iZ k||Ll ks
end
def GP:∀l:List Cond,Ll l=l.any iZ
 | []=>by rw[Ll];rfl
 | k::l=>by rw[Ll,GP l];rfl
def Dp(x:Cond):iZ x=(decide (x.op=4)||x.kids.any iZ):=by cases x;rw[iZ,GP]
abbrev zJ(n:Nat):Spc:=aY (a1 Cond) (λx=>aA x<=n) (enc (X:=Bool)) λx y=>y=iZ x
def Be(n:Nat)(h0:S0 bg=zJ n)(h1:S be=LE Cond S0):av gD gu S (a1 Cond) (λx=>aA x<=n+1) (enc (X:=Bool)) λx y=>y=iZ x:=by
 rintro x hd;have hd:aA x<=n+1:=hd;have hf:FunOn S0 (.clo bg []) x.kids iZ:=
  oj (f:=λk=>k) h0 (λk _=>by rw[qaR,Cod.dec_enc]) (λk hk=>by have:=rH hk;show aA k<=n;omega) (λr _ y hy=>hy)
 have hsc:=Dp x;by_cases e:x.op=4
 ·simp[gD,gu,h1,hsc,e, -Bool.forall_bool, -Bool.exists_bool]
 ·simp[gD,gu,h1,hsc,e, -Bool.forall_bool, -Bool.exists_bool];exact⟨⟨_,hf⟩,λy hy=>hy _ hf⟩
end Go.Gv
namespace Go.Gv
open Cod (enc dec)
variable {dq:Prop}
section
variable {X Y:Type}[Cod X][Cod Y]
def qiG(pre:X->List Y->Prop)(post:X->List Y->List Y->Prop)(el n:Nat):PT:=λd ds H K=>∃id v l a x,ds=[a, .own id v]/\dec a=some x/\H id=some (.row v el n (l.map enc))/\pre x l/\
 ∀v' l',post x l l'->K (.own id v') (ai H id (some (.row v' el n (l'.map enc))))
def Xw(pre:X->List Y->Prop)(post:X->List Y->List Y->Prop)(el n:Nat):pJ (qiG pre post el n):=λd ds H K K' hk ⟨id,v,l,a,x,h1,h2,h3,h4,h5⟩=>⟨id,v,l,a,x,h1,h2,h3,h4,λv' l' hp=>hk _ _ (h5 v' l' hp)⟩
def qiI(pre:X->List Y->Prop)(post:X->List Y->List Y->Prop)(el n:Nat):Spc:= .gen _ (Xw pre post el n)
def qga(pre:X->List Y->Prop)(post:X->List Y->List Y->Prop)(el n id:Nat)(v:Value)(o:Option X)(r:Option Res)(H:ab)(K:D->ab->Prop):Prop:=∃l,r=some (.row v el n (l.map enc))/\fq o λx=>pre x l/\∀v' l',post x l l'->K (.own id v') (ai H id (some (.row v' el n (l'.map enc))))
@[congr] theorem qiF{pre:X->List Y->Prop}{post:X->List Y->List Y->Prop}{el n id:Nat}{v:Value}{o o':Option X}{r r':Option Res}{H:ab}{K:D->ab->Prop}(h1:o=o')(h2:r=r'):qga pre post el n id v o r H K=qga pre post el n id v o' r' H K:=by subst h1;subst h2;rfl
@[simp] theorem qiH(pre:X->List Y->Prop)(post:X->List Y->List Y->Prop)(el n:Nat)(d i:Nat)(a:D)(v:Value)(H:ab)(K:D->ab->Prop):(qiI pre post el n).pt d [a, .own i v] H K=qga pre post el n i v (dec a) (H i) H K:=by
 refine propext ⟨λh=>?_,λh=>?_⟩
 ·obtain⟨id,v,l,a,x,h1,h2,h3,h4,h5⟩:=h;cases h1;refine⟨l,h3,?_⟩;rw[h2];exact⟨h4,h5⟩
 ·obtain⟨l,h1,h2⟩:=h;cases hd:dec (X:=X) a with
  | none=>rw[hd]at h2;exact h2.elim
  | some x=>rw[hd]at h2;exact⟨i,v,l,a,x,rfl,hd,h1,h2.1,h2.2⟩
@[simp] theorem qkG(pre:X->List Y->Prop)(post:X->List Y->List Y->Prop)(el n id:Nat)(v:Value)(o:Option X)(l:List Y)(H:ab)(K:D->ab->Prop):qga pre post el n id v o (some (.row v el n (l.map enc))) H K=fq o λx=>pre x l/\∀v' l',post x l l'->K (.own id v') (ai H id (some (.row v' el n (l'.map enc)))):=by
 refine propext ⟨λ⟨l',h1,h2⟩=>?_,λh=>⟨l,rfl,h⟩⟩;simp at h1;subst h1;exact h2
def Vo(cc:CC)(rs:List aj)(S:Nat->Spc)(pre:X->List Y->Prop)(post:X->List Y->List Y->Prop)(el n:Nat):Prop:=
 ∀v l x,pre x l->vc S cc (nQ rs λr H'=>Yy el n (post x l) r H') (cE [enc x, .own 1 v]) (ai cw 1 (some (.row v el n (l.map enc))))
variable {P:Program}{S:Nat->Spc}{f:Nat}{im:List Nat}{cc:CC}{rs:List aj}{N:Nat}{el n:Nat}
theorem Nq{pre:X->List Y->Prop}{post:X->List Y->List Y->Prop}(hS:∀f,Tri dq P f (S f).pt)(h:aq P f im cc rs N)(hN:2<=N)(hw:Vo cc rs S pre post el n):Tri dq P f (qiI pre post el n).pt:=by
 obtain⟨pR,enter,fn,code,h1,h2,h3,h4,h5⟩:=h;refine iv hS pR h1 h2 enter h3 h4 h5 ?_;rintro ds H d K ⟨id,v,l,a,x,rfl,hd,hid,hp,hK⟩;have hl:=Cod.le _ _ hd;refine⟨hN, [enc x, .own 1 v],ai cw 1 (some (.row v el n (l.map enc))),λ_=>id, .cons hl (.cons (.own _ _ _) .nil),λi r h=>?_,λi j r s h h' _=>?_,_,hw v l x hp,?_⟩
 ·by_cases e:i=1
  ·subst e;simp only[ai,if_true]at h;cases h;exact hid
  ·simp[ai,e]at h
 ·have a:i=1:=by
   by_cases e:i=1
   ·exact e
   ·simp[ai,e]at h
  have b:j=1:=by
   by_cases e:j=1
   ·exact e
   ·simp[ai,e]at h'
  exact a.trans b.symm
 ·rintro r H' ⟨j,v',l',rfl,hj,hpost⟩;refine⟨.own id v',cw,ai H id (some (.row v' el n (l'.map enc))),λi=>if i=id then some j else none, .own _ _ _,λj q h=>by simp at h,hK v' l' hpost,λi s hi=>?_,λi j' k s q hi hj' e1 e2=>?_⟩
  ·by_cases e:i=id
   ·subst e;simp only[ai,if_true]at hi;cases hi;simpa using hj
   ·simp only[ai,e,if_false]at hi ⊢;exact⟨hi,λk q h he=>e he.symm⟩
  ·have a:i=id:=by
    by_cases e:i=id
    ·exact e
    ·simp[e]at e1
   have b:j'=id:=by
    by_cases e:j'=id
    ·exact e
    ·simp[e]at e2
   exact a.trans b.symm
end
section
variable {X Y Z:Type}
structure yI (X:Type) where
 ids:List Nat
 ce:X->List D
 hp:X->List (Nat×Res)
 keys:∀x,(hp x).map (·.1)=ids
def Fy:∀ {l:List (Nat×Res)} {i:Nat} {s:Res},eB l cw i=some s->(i,s) ∈l
 | [],i,s,h=>by simp[eB,cw]at h
 | (j,r)::l,i,s,h=>by
  simp only[eB,ai]at h;by_cases e:i=j
  ·subst e;simp only[if_true]at h;cases h;simp
  ·simp only[e,if_false]at h;exact qnY _ (Fy h)
def Fz:∀ {l:List (Nat×Res)} {H:ab} {i:Nat} {s:Res},i∈l.map (·.1)->eB l H i=some s->(i,s) ∈l
 | (j,r)::l,H,i,s,hi,h=>by
  simp only[eB,ai]at h;by_cases e:i=j
  ·subst e;simp only[if_true]at h;cases h;simp
  ·simp only[e,if_false]at h;simp[e]at hi;refine qnY _ (Fz (H:=H) ?_ h);simpa using hi
def Fx:∀ {l:List (Nat×Res)} {H:ab} {i:Nat},i∉l.map (·.1)->eB l H i=H i
 | [],H,i,_=>rfl
 | (j,r)::l,H,i,hi=>by
  simp only[qmD,qmw,not_or]at hi;simp only[eB,ai,hi.1,if_false];exact Fx hi.2
def qjG(B:yI X)(A:eZ Z)(er:Y->D)(pre:X->Z->Prop)(post:X->Z->X->Y->Prop):PT:=λd ds H K=>∃id b x z ds',ds= .bptr id b 0::ds'/\A.dec ds'=some z/\H id=some (.box b (B.ce x))/\(∀p∈B.hp x,H p.1=some p.2)/\id∉B.ids/\pre x z/\
 ∀x' y,post x z x' y->K (er y) (ai (eB (B.hp x') H) id (some (.box b (B.ce x'))))
def Yk(B:yI X)(A:eZ Z)(er:Y->D)(pre:X->Z->Prop)(post:X->Z->X->Y->Prop):pJ (qjG B A er pre post):=λd ds H K K' hk ⟨id,b,x,z,ds',h1,h2,h3,h4,h5,h6,h7⟩=>⟨id,b,x,z,ds',h1,h2,h3,h4,h5,h6,λx' y hp=>hk _ _ (h7 x' y hp)⟩
def qjH(B:yI X)(A:eZ Z)(er:Y->D)(pre:X->Z->Prop)(post:X->Z->X->Y->Prop):Spc:= .gen _ (Yk B A er pre post)
def Co(B:yI X)(er:Y->D)(b:Nat)(post:X->Y->Prop)(r:D)(H:ab):Prop:=∃x y,FrzTo (λi=>if i=0\/i∈B.ids then none else H i) r (er y)/\H 0=some (.box b (B.ce x))/\(∀p∈B.hp x,H p.1=some p.2)/\post x y
def qaT(cc:CC)(rs:List aj)(S:Nat->Spc)(B:yI X)(A:eZ Z)(er:Y->D)(pre:X->Z->Prop)(post:X->Z->X->Y->Prop):Prop:=
 ∀b x z,pre x z->vc S cc (nQ rs λr H'=>Co B er b (post x z) r H') (cE (.bptr 0 b 0::A.view z)) (ai (eB (B.hp x) cw) 0 (some (.box b (B.ce x))))
variable {P:Program}{S:Nat->Spc}{f:Nat}{im:List Nat}{cc:CC}{rs:List aj}{N:Nat}
theorem DU{B:yI X}{A:eZ Z}{er:Y->D}{pre:X->Z->Prop}{post:X->Z->X->Y->Prop}(h1i:0∉B.ids)(hS:∀f,Tri dq P f (S f).pt)(h:aq P f im cc rs N)(hN:∀z,(A.view z).length+1<=N)(hw:qaT cc rs S B A er pre post):Tri dq P f (qjH B A er pre post).pt:=by
 obtain⟨pR,enter,fn,code,h1,h2,h3,h4,h5⟩:=h;refine iv hS pR h1 h2 enter h3 h4 h5 ?_;rintro ds H d K ⟨id,b,x,z,ds',rfl,hd,hid,hhp,hni,hp,hK⟩;have hl:=A.le ds' z hd;have h0:∀i r,ai (eB (B.hp x) cw) 0 (some (.box b (B.ce x))) i=some r->i=0/\r= .box b (B.ce x)\/i≠0/\(i,r) ∈B.hp x:=by
  intro i r h;by_cases e:i=0
  ·subst e;simp only[ai,if_true]at h;cases h;exact .inl ⟨rfl,rfl⟩
  ·simp only[ai,e,if_false]at h;exact .inr ⟨e,Fy h⟩
 have hk:∀ {x:X} {i:Nat} {r:Res},(i,r) ∈B.hp x->i∈B.ids:=by
  intro x i r h;rw[<-B.keys x];exact qmo.2 ⟨_,h,rfl⟩
 refine⟨by simp only[qm1];rw[hl.1];exact hN z, .bptr 0 b 0::A.view z,ai (eB (B.hp x) cw) 0 (some (.box b (B.ce x))),λi=>if i=0 then id else i, .cons (.bptr _ _ _ _) hl,λi r h=>?_,λi j r s h h' e=>?_,_,hw b x z hp,?_⟩
 ·rcases h0 i r h with⟨rfl,rfl⟩|⟨e,hm⟩
  ·exact hid
  ·simp only[e,if_false];exact hhp _ hm
 ·rcases h0 i r h with⟨rfl,rfl⟩|⟨e1,hm⟩
  ·rcases h0 j s h' with⟨rfl,rfl⟩|⟨e2,hm2⟩
   ·rfl
   ·simp only[e2,if_true,if_false]at e;subst e;exact absurd (hk hm2) hni
  ·rcases h0 j s h' with⟨rfl,rfl⟩|⟨e2,hm2⟩
   ·simp only[e1,if_true,if_false]at e;subst e;exact absurd (hk hm) hni
   ·simpa only[e1,e2,if_false]using e
 ·rintro r H' ⟨x',y,hfr,hj,hhp',hpost⟩;refine⟨er y,λi=>if i=0\/i∈B.ids then none else H' i,ai (eB (B.hp x') H) id (some (.box b (B.ce x'))),λi=>if i=id then some 0 else if i∈B.ids then some i else none,hfr,λj q h=>?_,hK x' y hpost,λi s hi=>?_,λi j' k s q hi hj' e1 e2=>?_⟩
  ·by_cases e:j=0\/j∈B.ids
   ·simp[e]at h
   ·simp only[e,if_false]at h;refine⟨h,λi hh=>e ?_⟩;by_cases e1:i=id
    ·simp only[e1,if_true]at hh;cases hh;exact .inl rfl
    ·simp only[e1,if_false]at hh;by_cases e2:i∈B.ids
     ·simp only[e2,if_true]at hh;cases hh;exact .inr e2
     ·simp[e2]at hh
  ·by_cases e:i=id
   ·subst e;simp only[ai,if_true]at hi;cases hi;simpa using hj
   ·simp only[ai,e,if_false]at hi ⊢;by_cases e2:i∈B.ids
    ·simp only[e2,if_true];exact hhp' _ (Fz (by rw[B.keys];exact e2) hi)
    ·simp only[e2,if_false];rw[Fx (by rw[B.keys];exact e2)]at hi;refine⟨hi,λk q h he=>?_⟩;rcases h0 k q h with⟨rfl,rfl⟩|⟨e3,hm⟩
     ·simp only[if_true]at he;exact e he.symm
     ·simp only[e3,if_false]at he;subst he;exact e2 (hk hm)
  ·by_cases c1:i=id
   ·by_cases c2:j'=id
    ·exact c1.trans c2.symm
    ·simp only[c1,if_true]at e1;cases e1;simp only[c2,if_false]at e2;by_cases c3:j'∈B.ids
     ·simp only[c3,if_true]at e2;cases e2;exact absurd c3 h1i
     ·simp[c3]at e2
   ·simp only[c1,if_false]at e1;by_cases c3:i∈B.ids
    ·simp only[c3,if_true]at e1;cases e1;by_cases c2:j'=id
     ·simp only[c2,if_true]at e2;cases e2;exact absurd c3 h1i
     ·simp only[c2,if_false]at e2;by_cases c4:j'∈B.ids
      ·simp only[c4,if_true]at e2;cases e2;rfl
      ·simp[c4]at e2
    ·simp[c3]at e1
def RB{X:Type}(ce:X->List D):yI X:=⟨[],ce,λ_=>[],λ_=>rfl⟩
end
@[simp] theorem qiX(s:Rp):Rp.mk s.s s.pos s.fault s.e=s:=by cases s;rfl
def ng(s:Rp):List D:=[enc s.s,enc s.pos,enc s.fault,enc s.e]
@[simp] theorem qgN(s:Rp):ng s=[enc s.s,enc s.pos,enc s.fault,enc s.e]:=id rfl
section
variable {Y Z:Type}
def ZE:yI Rp:=RB ng
def qhO(A:eZ Z)(er:Y->D)(pre:Rp->Z->Prop)(post:Rp->Z->Rp->Y->Prop):Spc:=qjH ZE A er pre post
def qki(er:Y->D)(pre:Rp->Z->Prop)(post:Rp->Z->Rp->Y->Prop)(id b:Nat)(r:Option Res)(o:Option Z)(H:ab)(K:D->ab->Prop):Prop:=
 ∃x,r=some (.box b (ng x))/\fq o λz=>pre x z/\∀x' y,post x z x' y->K (er y) (ai H id (some (.box b (ng x'))))
def U1{x y:Rp}(h:ng x=ng y):x=y:=by
 obtain⟨l,a,d,e⟩:=x;obtain⟨l',a',d',e'⟩:=y;simp only[ng,qmR]at h;obtain⟨h1,h2,h3,h4,_⟩:=h;have h1:=bJ h1;have h2:=bJ h2;have h3:=bJ h3;have h4:=bJ h4;subst h1;subst h2;subst h3;subst h4;rfl
@[simp] theorem ZD(A:eZ Z)(er:Y->D)(pre:Rp->Z->Prop)(post:Rp->Z->Rp->Y->Prop)(d i b:Nat)(ds:List D)(H:ab)(K:D->ab->Prop):(qhO A er pre post).pt d (.bptr i b 0::ds) H K=qki er pre post i b (H i) (A.dec ds) H K:=by
 refine propext ⟨λh=>?_,λh=>?_⟩
 ·obtain⟨id,b',x,z,ds',h1,h2,h3,h4,h5,h6,h7⟩:=h;cases h1;refine⟨x,h3,?_⟩;rw[h2];exact⟨h6,h7⟩
 ·obtain⟨x,h1,h2⟩:=h;cases hz:A.dec ds with
  | none=>rw[hz]at h2;exact h2.elim
  | some z=>rw[hz]at h2;exact⟨i,b,x,z,ds,rfl,hz,h1,λp hp=>by simp[ZE,RB]at hp,by simp[ZE,RB],h2.1,h2.2⟩
def AQ(er:Y->D)(b:Nat)(post:Rp->Y->Prop)(r:D)(H:ab):Prop:=Co ZE er b post r H
def As{er:Y->D}{b:Nat}{post:Rp->Y->Prop}{r:D}{H:ab}(x:Rp)(y:Y)(hr:FrzTo (λi=>if i=0 then none else H i) r (er y))(h0:H 0=some (.box b (ng x)))(hq:post x y):AQ er b post r H:=
 ⟨x,y,by simpa [ZE,RB]using hr,h0,λp hp=>by simp[ZE,RB]at hp,hq⟩
def pI(cc:CC)(rs:List aj)(S:Nat->Spc)(A:eZ Z)(er:Y->D)(pre:Rp->Z->Prop)(post:Rp->Z->Rp->Y->Prop):Prop:=
 ∀b x z,pre x z->vc S cc (nQ rs λr H'=>AQ er b (post x z) r H') (cE (.bptr 0 b 0::A.view z)) (ai cw 0 (some (.box b (ng x))))
variable {P:Program}{S:Nat->Spc}{f:Nat}{im:List Nat}{cc:CC}{rs:List aj}{N:Nat}
def Nn{A:eZ Z}{er:Y->D}{pre:Rp->Z->Prop}{post:Rp->Z->Rp->Y->Prop}(hS:∀f,Tri dq P f (S f).pt)(h:aq P f im cc rs N)(hN:∀z,(A.view z).length+1<=N)(hw:pI cc rs S A er pre post):Tri dq P f (qhO A er pre post).pt:=
 DU (by simp[ZE,RB]) hS h hN λb x z hp=>hw b x z hp
end
section
variable {Y Z:Type}
def RJ(A:eZ Z)(er:Y->D)(F:Rp->Z->Option (Rp×Y)):Spc:=qhO A er (λs z=>∃r,F s z=some r) (λs z s' y=>F s z=some (s',y))
def SR(er:Y->D)(F:Rp->Z->Option (Rp×Y))(id b:Nat)(r:Option Res)(o:Option Z)(H:ab)(K:D->ab->Prop):Prop:=
 ∃x,r=some (.box b (ng x))/\fq o λz=>fq (F x z) λq=>K (er q.2) (ai H id (some (.box b (ng q.1))))
@[congr] theorem qfg{er:Y->D}{F:Rp->Z->Option (Rp×Y)}{id b:Nat}{r r':Option Res}{o o':Option Z}{H:ab}{K:D->ab->Prop}(h1:r=r')(h2:o=o'):SR er F id b r o H K=SR er F id b r' o' H K:=by subst h1;subst h2;rfl
def ZQ{F:Option (Rp×Y)}{k:Rp->Y->Prop} :((∃r,F=some r)/\∀x' y,F=some (x',y)->k x' y)=fq F λq=>k q.1 q.2:=by
 cases F with
 | none=>
   refine propext (Iff.intro (λh=>?_) (λh=>?_))
   ·obtain⟨⟨r,h⟩,_⟩:=h;cases h
   ·exact False.elim h
 | some r=>
   refine propext (Iff.intro (λh=>h.2 _ _ rfl) (λh=>⟨⟨_,rfl⟩,λx' y e=>?_⟩));cases e;exact h
@[simp] theorem qhM(A:eZ Z)(er:Y->D)(F:Rp->Z->Option (Rp×Y))(d i b:Nat)(ds:List D)(H:ab)(K:D->ab->Prop):(RJ A er F).pt d (.bptr i b 0::ds) H K=SR er F i b (H i) (A.dec ds) H K:=by
 unfold RJ SR;rw[ZD];unfold qki;refine propext (exists_congr λx=>and_congr_right λ_=>?_);cases A.dec ds with
 | none=>exact qm4
 | some z=>exact iff_of_eq ZQ
@[simp] theorem qhN(er:Y->D)(F:Rp->Z->Option (Rp×Y))(id b:Nat)(l:B)(p dp e:Int)(o:Option Z)(H:ab)(K:D->ab->Prop):
 SR er F id b (some (.box b [.v (.string l), .v (.int .i64 p), .v (.int .i64 dp), .v (.int .i64 e)])) o H K=fq o λz=>fq (F ⟨l,p,dp,e⟩ z) λq=>K (er q.2) (ai H id (some (.box b (ng q.1)))):=by
 refine propext ⟨λ⟨x,h1,h2⟩=>?_,λh=>⟨⟨l,p,dp,e⟩,rfl,h⟩⟩;have e1:ng ⟨l,p,dp,e⟩=ng x:=by
  have:=qmk h1;exact(Res.box.inj this).2
 have:=U1 e1;subst this;exact h2
variable {P:Program}{S:Nat->Spc}{f:Nat}{im:List Nat}{cc:CC}{rs:List aj}{N:Nat}
def ed{A:eZ Z}{er:Y->D}{F:Rp->Z->Option (Rp×Y)}(hS:∀f,Tri dq P f (S f).pt)(h:aq P f im cc rs N)(hN:∀z,(A.view z).length+1<=N)
 (hw:pI cc rs S A er (λs z=>∃r,F s z=some r) (λs z s' y=>F s z=some (s',y))):Tri dq P f (RJ A er F).pt:=Nn hS h hN hw
end
end Go.Gv
namespace Go.Gv
open Go.Proofs
def ep:CC:=gq Tryz.f139 [] { ke:=[0] } _
def ee:List aj:=[.tmp 2]
def uL:aq Tryz.prog bb [] ep ee 29:=fo
def ib:CC:=gq Tryz.f205 [] { bx:=[0] } _
def gK:List aj:=[]
def uK:aq Tryz.prog iO [] ib gK 25:=fo
def dV:CC:=gq Tryz.f194 [] { bx:=[0] } _
def dR:List aj:=[.tmp 4, .tmp 5]
def pP:aq Tryz.prog cY [] dV dR 37:=fo
def fF:CC:=gq Tryz.f201 [] { bx:=[0] } _
def ff:List aj:=[.tmp 2, .tmp 3]
def sB:aq Tryz.prog fX [] fF ff 27:=fo
def sZ:CC:=gq Tryz.f191 [] {} _
def rU:List aj:=[.cell 4 true 5]
def IR:aq Tryz.prog vg [] sZ rU 10:=fo
def dk:CC:=gq Tryz.f180 [2002002] { bx:=[0] } _
def df:List aj:=[.cell 2 true 5, .tmp 3]
def uM:aq Tryz.prog iP [2002002] dk df 72:=fo
def gb:CC:=gq Tryz.f192 [] { ke:=[0] } _
def fR:List aj:=[.cell 2 true 5, .tmp 3]
def tS:aq Tryz.prog gY [] gb fR 108:=fo
def fE:CC:=gq Tryz.f164 [] { bx:=[0] } _
def fe:List aj:=[.cell 2 true 5, .tmp 3]
def sA:aq Tryz.prog fW [] fE fe 54:=fo
def fG:CC:=gq Tryz.f138 [] { ke:=[0] } _
def fg:List aj:=[.cell 2 true 5, .tmp 3]
def sC:aq Tryz.prog fY [] fG fg 49:=fo
def ga:CC:=gq Tryz.f110 [] { ke:=[0] } _
def fQ:List aj:=[.cell 2 true 5, .tmp 3]
def tR:aq Tryz.prog gX [] ga fQ 44:=fo
end Go.Gv
