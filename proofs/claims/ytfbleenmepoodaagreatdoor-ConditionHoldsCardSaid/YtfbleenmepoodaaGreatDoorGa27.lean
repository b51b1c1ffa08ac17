/- A part of the framework and of the walks: W152 W153 W154 W155 T22 T31 C51. -/
import Derived.Test.YtfbleenmepoodaaGreatDoorGa26
set_option linter.unusedSimpArgs false
set_option linter.unusedVariables false
set_option linter.unusedSectionVars false
set_option linter.defProp false
set_option maxRecDepth 100000
set_option maxHeartbeats 0
namespace Go.Gv
open Cod (enc dec)
variable {S S0:Nat->Spc}
def yx{X:Type}(p:X->Bool):∀l:List X, -1<=ko l p/\ko l p < l.length
 | []=>⟨qlg _,by simp[ko]⟩
 | x::l=>by
   have:=yx p l;rw[ko,qkn];split
   ·omega
   ·split <;> omega
open Classical in
noncomputable def aX{Z:Type}(v:Z->List D)(hi:∀z z',v z=v z'->z=z'):fw Z:=⟨λds=>if h:∃z,ds=v z then some h.choose else none,v,λds z h=>by
 split at h
 ·rename_i h';have e:h'.choose=z:=qjJ h;rw[<-e,<-h'.choose_spec];exact⟨rfl,λk d d' h1 h2=>by rw[h1]at h2;cases h2;exact .same _⟩
 ·cases h⟩
open Classical in
def wV{Z:Type}(v:Z->List D)(hi:∀z z',v z=v z'->z=z')(z:Z):(aX v hi).dec (v z)=some z:=by
 have h:∃z',v z=v z':=⟨z,rfl⟩
 show(if h:∃z',v z=v z' then some h.choose else none)=some z;rw[dif_pos h];exact congrArg some (hi _ _ h.choose_spec).symm
def uG{Z:Type}(v:Z->List D)(hi:∀z z',v z=v z'->z=z')(z:Z):(aX v hi).view z=v z:=rfl
def Of(x:Attr×B):List D:=[enc x.1, .cptr [enc x.2] 0]
def IR(z z':Attr×B)(h:Of z=Of z'):z=z':=by
 obtain⟨a,s⟩:=z;obtain⟨a',s'⟩:=z';unfold Of at h;simp only[qke,D.cptr.injEq,and_true]at h;rw[bC h.1,bC h.2]
noncomputable abbrev qcd:fw (Attr×B):=aX Of IR
noncomputable abbrev Gw:Spc:=aZ qcd (λ_=>True) (enc (X:=Bool)) λx y=>y=decide (x.1.nm=x.2)
def qg:ax eo eh S qcd (λ_=>True) (enc (X:=Bool)) λx y=>y=decide (x.1.nm=x.2):=by
 rintro⟨a,s⟩ -;rw[uG];simp[Of,eo,eh, -Bool.forall_bool, -Bool.exists_bool]
abbrev ya:Spc:=aZ (a2 (List Attr) B) (λ_=>True) (enc (X:=Int)) λx y=>y=di x.1 x.2
def sx(h0:S0 bj=Gw)(h1:S dg=Gx Attr S0):ax fp eW S (a2 (List Attr) B) (λ_=>True) (enc (X:=Int)) λx y=>y=di x.1 x.2:=by
 rintro⟨a,s⟩ -;have hf:FunOn S0 (.clo bj [.cptr [enc s] 0]) a λx=>decide (x.nm=s):=
  nh (f:=λx=>(x,s)) h0 (λx _=>wV Of IR (x,s)) (λ_ _=>trivial) (λx _ y hy=>hy)
 simp[fp,eW,h1, -Bool.forall_bool, -Bool.exists_bool];exact⟨⟨_,hf⟩,λy hy=>hy _ hf⟩
abbrev CG:Spc:=aZ (a2 (List Attr) B) (λx=>x.1.length<=1000) (enc (X:=Int)) λx y=>y=kI x.1 x.2
def xx(h1:S bO=ya):ax fm eV S (a2 (List Attr) B) (λx=>x.1.length<=1000) (enc (X:=Int)) λx y=>y=kI x.1 x.2:=by
 rintro⟨a,s⟩ hl;have hl:a.length<=1000:=hl;have hin:InR .i64 ((a.length:Int) -1):=by simp only[InR];omega
 have hl':(a.length:Int)<=9223372036854775807:=by omega
 by_cases hs:s=dF
 ·subst hs;simp[fm,eV,dF,kI,hin,hl', -Bool.forall_bool, -Bool.exists_bool]
 ·have hs':¬s=⟨#[]⟩:=hs;simp[fm,eV,dF,kI,h1,hs', -Bool.forall_bool, -Bool.exists_bool]
def ln(t:List (List B))(i k:Int):B:=if i < 0\/k < 0 then dF else match t[i.toNat]? with
 | some r=>(match r[k.toNat]? with|some s=>s|none=>dF)
 | none=>dF
abbrev Jz:Spc:=aZ (a3 Corpus Int Int) (λx=>x.1.toks.length<=100000/\∀r∈x.1.toks,r.length<=100000) (enc (X:=B)) λx y=>y=ln x.1.toks x.2.1 x.2.2
theorem xz:ax bz bq S (a3 Corpus Int Int) (λx=>x.1.toks.length<=100000/\∀r∈x.1.toks,r.length<=100000) (enc (X:=B)) λx y=>y=ln x.1.toks x.2.1 x.2.2:=by
 rintro⟨c,i,k⟩ ⟨hl,hr⟩;simp only at hl hr;have hl':(c.toks.length:Int)<=9223372036854775807:=by omega
 by_cases h0:i < 0
 ·simp[bz,bq,h0,ln, -Bool.forall_bool, -Bool.exists_bool];rfl
 by_cases h1:(c.toks.length:Int)<=i
 ·have hn:c.toks[i.toNat]? =none:=qks (by omega);by_cases h2:k < 0
  ·simp[bz,bq,h0,h1,h2,hl',ln, -Bool.forall_bool, -Bool.exists_bool];rfl
  ·simp[bz,bq,h0,h1,h2,hl',hn,ln, -Bool.forall_bool, -Bool.exists_bool];rfl
 by_cases h2:k < 0
 ·simp[bz,bq,h0,h1,h2,hl',ln, -Bool.forall_bool, -Bool.exists_bool];rfl
 obtain⟨r,hri⟩:=cX (show i.toNat < c.toks.length by omega);obtain⟨_,hgr⟩:=qjA.1 hri;have hrl:=hr r (qjD hri);have hrl':(r.length:Int)<=9223372036854775807:=by omega
 have i0:0<=i:=by omega
 have i1:i < (c.toks.length:Int):=by omega
 have k0:0<=k:=by omega
 by_cases h3:(r.length:Int)<=k
 ·have hn:r[k.toNat]? =none:=qks (by omega);simp[bz,bq,h0,h1,h2,h3,hl',hrl',hn,hri,hgr,i0,i1,ln, -Bool.forall_bool, -Bool.exists_bool];rfl
 obtain⟨s,hsk⟩:=cX (show k.toNat < r.length by omega);obtain⟨_,hgs⟩:=qjA.1 hsk;have k1:k < (r.length:Int):=by omega
 simp[bz,bq,h0,h1,h2,h3,hl',hrl',hri,hgr,hsk,hgs,i0,i1,k0,k1,ln, -Bool.forall_bool, -Bool.exists_bool]
abbrev MW:Spc:=aZ (a1 B) (λs=>Ae s=true) (enc (X:=Bool)) λ_ y=>y=true
abbrev zS:Spc:=aZ (a1 B) (λs=>tH s=true) (enc (X:=Int)) λ_ y=>y=0
abbrev s_sConB:Spc:=aZ (a2 B B) (λx=>x.2=⟨#[124]⟩/\tH x.1=true) (enc (X:=Bool)) λx y=>y=Vn x.1
abbrev Qy:Spc:=aZ (a1 B) (λs=>∃r,jv s=some r) (enc (X:=Int)) λ_ y=>y=0
def oY(l:List B)(s:B):Bool:=l.any λz=>decide (z=s)
abbrev QA:Spc:=aZ (a2 (List B) B) (λ_=>True) (enc (X:=Bool)) λx y=>y=oY x.1 x.2
abbrev LI:Spc:=aZ (a2 (List B) B) (λ_=>True) (enc (X:=Int)) λx y=>y=ko x.1 λz=>decide (z=x.2)
theorem Ci:ax fe eO S (a2 (List B) B) (λ_=>True) (enc (X:=Int)) λx y=>y=ko x.1 λz=>decide (z=x.2):=by
 rintro⟨l,s⟩ -;simp[fe,eO, -Bool.forall_bool, -Bool.exists_bool];intro _;refine am (X:=Unit) [0,1] [] l.length (λk _=>∀x∈l.take k,decide (x=s)=false) (λ_=>[]) (λ_=>[]) () (by simp) (by simp) (by omega) (by simp) (by simp) (by simp) (by simp) (by simp) ?_ ?_
 ·intro k _ hk hP;obtain⟨x,hx⟩:=cX hk;obtain⟨_,hgx⟩:=qjA.1 hx;simp[hk,hx,hgx, -Bool.forall_bool, -Bool.exists_bool];refine⟨λh=>?_,λh=>?_⟩
  ·exact(mV hx (by simp[h]) hP).symm
  ·rw[bi hx];intro z hz;rcases qjM.1 hz with hz|hz
   ·have:=hP z hz;simpa using this
   ·simp at hz;subst hz;exactλe=>h e.symm
 ·intro _ hP;simp[-Bool.forall_bool, -Bool.exists_bool];exact(gX (by simpa using hP)).symm
def xE(h1:S dD=LI):ax dK dG S (a2 (List B) B) (λ_=>True) (enc (X:=Bool)) λx y=>y=oY x.1 x.2:=by
 rintro⟨l,s⟩ -;simp[dK,dG,h1, -Bool.forall_bool, -Bool.exists_bool];exact yy _ l
abbrev Jt:Spc:=aZ (a2 Cond (List Attr)) (λx=>Ut x.2 x.1=true/\x.2.length<=1000) (enc (X:=Bool)) λ_ y=>y=true
theorem xt(h1:S gb=CG)(h2:S bO=ya)(h3:S iQ=MW):ax bw bp S (a2 Cond (List Attr)) (λx=>Ut x.2 x.1=true/\x.2.length<=1000) (enc (X:=Bool)) λ_ y=>y=true:=by
 rintro⟨⟨op,name,arg,val,lab,fold,ks⟩,a⟩ ⟨hx,hl⟩;have hx:Ut a ⟨op,name,arg,val,lab,fold,ks⟩=true:=hx;have hl:a.length<=1000:=hl;unfold Ut at hx;simp only at hx;split at hx
 ·rename_i e;subst e;simp at hx;simp[bw,bp,h1,hl,hx, -Bool.forall_bool, -Bool.exists_bool]
 rename_i e2;split at hx
 ·rename_i e;subst e;simp at hx;simp[bw,bp,h2,hx, -Bool.forall_bool, -Bool.exists_bool]
 rename_i e3;split at hx
 ·rename_i e;subst e;simp at hx;simp[bw,bp,h2,hx.1,hx.2, -Bool.forall_bool, -Bool.exists_bool]
 rename_i e4;split at hx
 ·rename_i e;subst e;simp at hx;obtain⟨hn,ha⟩:=hx;by_cases hae:arg=dF
  ·subst hae;simp[bw,bp,h3,hn,dF, -Bool.forall_bool, -Bool.exists_bool]
  ·have ha':=ha.resolve_left hae;have hae':¬arg=⟨#[]⟩:=hae;simp[bw,bp,h3,hn,ha',hae', -Bool.forall_bool, -Bool.exists_bool]
 rename_i e5;simp[bw,bp,e2,e3,e4,e5, -Bool.forall_bool, -Bool.exists_bool]
abbrev Jy:Spc:=aZ (a3 Cond (List Attr) (List B)) (λx=>io x.2.1 x.2.2 x.1=true/\x.2.1.length<=1000) (enc (X:=Int)) λ_ y=>y=0
theorem xy(h1:S jL=E8)(h2:S jM=Jt)(h3:S pP=Qy)(h4:S bO=ya)(h5:S nG=s_sConB)(h6:S bH=zS)(h7:S ei=QA):
 ax bZ bY S (a3 Cond (List Attr) (List B)) (λx=>io x.2.1 x.2.2 x.1=true/\x.2.1.length<=1000) (enc (X:=Int)) λ_ y=>y=0:=by
 rintro⟨x,a,lb⟩ ⟨hx,hl⟩;have hx:io a lb x=true:=hx;have hl:a.length<=1000:=hl;unfold io at hx;simp only[qjE]at hx;obtain⟨⟨hs,hn⟩,hc⟩:=hx;obtain⟨op,name,arg,val,lab,fold,ks⟩:=x;unfold qbT at hc;simp only at hc;have e:(Cond.mk op name arg val lab fold ks)=⟨op,name,arg,val,lab,fold,ks⟩:=rfl;split at hc
 ·rename_i e;subst e;obtain⟨r,hr⟩:=qkk.1 hc;simp[bZ,bY,h1,h2,h3,hs,hn,hl,hr, -Bool.forall_bool, -Bool.exists_bool]
 rename_i e2;split at hc
 ·rename_i e;subst e;simp only[qjE]at hc;obtain⟨⟨⟨c1,c2⟩,c3⟩,c4⟩:=hc;have hn':0<=di a name:=by simpa [Ut]using hn
  have hrg:=(yx (λx:Attr=>decide (x.nm=name)) a).2;have hlt:di a name < a.length:=hrg;obtain⟨b,hb⟩:=cX (show(di a name).toNat < a.length by omega);obtain⟨_,hgb⟩:=qjA.1 hb;rw[hb]at c1;have c1:b.st=true:=c1;have c2:¬val=⟨#[]⟩:=of_decide_eq_true c2;have c3:Vn val=false:=by simpa using c3
  simp[bZ,bY,h1,h2,h4,h5,h6,hs,hn,hl,hn',hlt,hb,hgb,c1,c2,c3,c4, -Bool.forall_bool, -Bool.exists_bool]
 rename_i e3;split at hc
 ·rename_i e;subst e;have hc:oY lb lab=true:=hc;simp[bZ,bY,h1,h2,h7,hs,hn,hl,hc, -Bool.forall_bool, -Bool.exists_bool]
 rename_i e4;split at hc
 ·rename_i e;subst e;simp[bZ,bY,h1,h2,h6,hs,hn,hl,hc, -Bool.forall_bool, -Bool.exists_bool]
 rename_i e5;simp[bZ,bY,h1,h2,hs,hn,hl,e2,e3,e4,e5, -Bool.forall_bool, -Bool.exists_bool]
def VC(x:Cond×List Attr×List B):List D:=[enc x.1, .cptr [enc x.2.1] 0, .cptr [enc x.2.2] 0]
def ML(z z':Cond×List Attr×List B)(h:VC z=VC z'):z=z':=by
 obtain⟨a,s,l⟩:=z;obtain⟨a',s',l'⟩:=z';unfold VC at h;simp only[qke,D.cptr.injEq,and_true]at h;rw[bC h.1,bC h.2.1,bC h.2.2]
noncomputable abbrev aVd:fw (Cond×List Attr×List B):=aX VC ML
@[simp] theorem qcD(x:Cond)(a:List Attr)(lb:List B):aVd.dec [.agg [.v (.int .i64 x.op), .v (.string x.name), .v (.string x.arg), .v (.string x.val), .v (.string x.lab), .v (.bool x.fold), .list 7 (x.kids.map enc)], .cptr [.list 2 (a.map enc)] 0, .cptr [.list 1 (lb.map enc)] 0]=some (x,a,lb):=by
 have h:=wV VC ML (x,a,lb);have e:VC (x,a,lb)=[.agg [.v (.int .i64 x.op), .v (.string x.name), .v (.string x.arg), .v (.string x.val), .v (.string x.lab), .v (.bool x.fold), .list 7 (x.kids.map enc)], .cptr [.list 2 (a.map enc)] 0, .cptr [.list 1 (lb.map enc)] 0]:=by simp[VC]
 rw[<-e];exact h
noncomputable abbrev M1:Spc:=aZ aVd (λx=>io x.2.1 x.2.2 x.1=true/\x.2.1.length<=1000) (enc (X:=Int)) λ_ y=>y=0
def qE(h1:S jN=Jy):ax eL eD S aVd (λx=>io x.2.1 x.2.2 x.1=true/\x.2.1.length<=1000) (enc (X:=Int)) λ_ y=>y=0:=by
 rintro⟨x,a,lb⟩ ⟨hx,hl⟩;simp only at hx hl;rw[uG];simp[VC,eL,eD,h1,hx,hl, -Bool.forall_bool, -Bool.exists_bool]
def qcg(n:Nat)(x:Cond×D×Unit):Prop:=∃ (a:List Attr) (lb:List B),x.2.1= .clo bB [.cptr [enc a] 0, .cptr [enc lb] 0]/\mE a lb n x.1=true/\a.length<=1000/\cY x.1<=60
noncomputable abbrev Jr(n:Nat):Spc:=aZ (aE Cond (aD a0)) (qcg n) (enc (X:=Int)) λx y=>y=0
noncomputable abbrev Jq:Spc:=aZ (aE Cond (aD a0)) (λx=>∃n,qcg n x) (enc (X:=Int)) λx y=>y=0
theorem xr(n:Nat)(h1:S bB=M1)(h2:S eG=Jr n):ax kg jt S (aE Cond (aD a0)) (qcg (n+1)) (enc (X:=Int)) λx y=>y=0:=by
 rintro⟨x,d,⟨⟩⟩ ⟨a,lb,hd,hx,hl,hn⟩;simp only at hd hx hn;subst hd;simp only[mE,qjE]at hx;obtain⟨hx1,hx2⟩:=hx;simp[kg,jt,h1,hx1,hl, -Bool.forall_bool, -Bool.exists_bool];intro hkl;refine am (X:=Unit) [1,16] [] x.kids.length (λk _=>True) (λ_=>[]) (λ_=>[]) () (by simp) (by simp) (by omega) (by simp) (by simp) (by simp) (by simp) (by simp) ?_ ?_
 ·rintro k -hk -;obtain⟨y,hy⟩:=cX hk;obtain⟨_,hgy⟩:=qjA.1 hy;have hm:=qjD hy;have hny:=Af hm;have hnx:=oW x;have hp:qcg n (y, .clo bB [.cptr [.list 2 (a.map enc)] 0, .cptr [.list 1 (lb.map enc)] 0],()):=⟨a,lb,rfl,qjF.1 hx2 y hm,hl,by show cY y<=60;omega⟩
  simp[h2,hk,hy,hgy,hp, -Bool.forall_bool, -Bool.exists_bool]
 ·rintro - -;simp[-Bool.forall_bool, -Bool.exists_bool]
abbrev SX(x:Cond×List Attr×List B):Prop:=Pz x.2.1 x.2.2 x.1=true/\x.2.1.length<=1000
abbrev Gu:Spc:=aZ (a3 Cond (List Attr) (List B)) SX (enc (X:=Int)) λ_ y=>y=0
def tc(h1:S bI=CE)(h2:S eG=Jq):ax fO fE S (a3 Cond (List Attr) (List B)) SX (enc (X:=Int)) λ_ y=>y=0:=by
 rintro⟨x,a,lb⟩ ⟨hx,hl⟩;simp only at hx hl;unfold Pz at hx;simp at hx;obtain⟨⟨hn,hd⟩,ha⟩:=hx;have hp:∃n,Zv n (x,0,1):=⟨bM x,qjL _,qlg _,by show(0:Int) +cY x<=60;omega,by show(0:Int)<=1;omega,by show(1:Int) +bM x<=1000;omega,by show bM x<=60;omega⟩
 have hw:∃n,qcg n (x, .clo bB [.cptr [.list 2 (a.map enc)] 0, .cptr [.list 1 (lb.map enc)] 0],()):=⟨20,a,lb,rfl,ha,hl,hn⟩
 have q1:¬ (60:Int) < (cY x:Int):=by omega
 have q2:¬ (20:Int) < 1+ (bM x:Int) -1:=by omega
 simp[fO,fE,h1,h2,hp,hw,q1,q2, -Bool.forall_bool, -Bool.exists_bool]
def JY(l:List Pair)(s:Pair):Bool:=l.any λz=>decide (z=s)
abbrev MX:Spc:=aZ (a2 (List Pair) Pair) (λ_=>True) (enc (X:=Int)) λx y=>y=ko x.1 λz=>decide (z=x.2)
abbrev MZ:Spc:=aZ (a2 (List Pair) Pair) (λ_=>True) (enc (X:=Bool)) λx y=>y=JY x.1 x.2
theorem Gh:ax gJ gj S (a2 (List Pair) Pair) (λ_=>True) (enc (X:=Int)) λx y=>y=ko x.1 λz=>decide (z=x.2):=by
 rintro⟨l,s⟩ -;simp[gJ,gj, -Bool.forall_bool, -Bool.exists_bool];intro _;refine am (X:=Unit) [0,3] [] l.length (λk _=>∀x∈l.take k,decide (x=s)=false) (λ_=>[]) (λ_=>[]) () (by simp) (by simp) (by omega) (by simp) (by simp) (by simp) (by simp) (by simp) ?_ ?_
 ·intro k _ hk hP;obtain⟨x,hx⟩:=cX hk;obtain⟨_,hgx⟩:=qjA.1 hx;simp[hk,hx,hgx, -Bool.forall_bool, -Bool.exists_bool];have hpe:s.nm=x.nm->s.vl=x.vl->x=s:=λh1 h2=>by
   obtain⟨a,b⟩:=x;obtain⟨a',b'⟩:=s;simp only at h1 h2;rw[h1,h2]
  refine⟨λh1 h2=>(mV hx (by simp[hpe h1 h2]) hP).symm,λh=>?_⟩;rw[bi hx];intro z hz;rcases qjM.1 hz with hz|hz
  ·have:=hP z hz;simpa using this
  ·simp at hz;subst hz;intro e;subst e;exact h rfl rfl
 ·intro _ hP;simp[-Bool.forall_bool, -Bool.exists_bool];exact(gX (by simpa using hP)).symm
def Ba(h1:S ip=MX):ax eJ eB S (a2 (List Pair) Pair) (λ_=>True) (enc (X:=Bool)) λx y=>y=JY x.1 x.2:=by
 rintro⟨l,s⟩ -;simp[eJ,eB,h1, -Bool.forall_bool, -Bool.exists_bool];exact yy _ l
def pA(x:Cond)(tok:Int)(r:Region):Bool:=decide (r.ty=x.name) && decide (r.b<=tok) && decide (tok < r.e) && (decide (x.arg=dF)||JY r.kv ⟨x.arg,x.val⟩)
def PA(x:Cond):List D:=[.v (.int .i64 x.op), .v (.string x.name), .v (.string x.arg), .v (.string x.val), .v (.string x.lab), .v (.bool x.fold), .list 7 (x.kids.map enc)]
def NM(x:Cond): .agg (PA x)=enc x:=by simp[PA]
def Vg{x y:Cond}(h:PA x=PA y):x=y:=bC (by rw[<-NM,<-NM,h])
def Th(x:Region×Cond×Int):List D:=[enc x.1, .cptr (PA x.2.1) 0, .cptr [enc x.2.2] 0]
def MM(z z':Region×Cond×Int)(h:Th z=Th z'):z=z':=by
 obtain⟨a,s,l⟩:=z;obtain⟨a',s',l'⟩:=z';unfold Th at h;simp only[qke,D.cptr.injEq,and_true]at h;rw[bC h.1,Vg h.2.1,bC h.2.2]
noncomputable abbrev qiB:fw (Region×Cond×Int):=aX Th MM
noncomputable abbrev xY:Spc:=aZ qiB (λ_=>True) (enc (X:=Bool)) λx y=>y=pA x.2.1 x.2.2 x.1
def ta(h1:S fa=MZ):ax bh be S qiB (λ_=>True) (enc (X:=Bool)) λx y=>y=pA x.2.1 x.2.2 x.1:=by
 rintro⟨r,x,tok⟩ -;rw[uG];by_cases e1:r.ty=x.name
 rotate_left
 ·simp[Th,PA,bh,be,pA,e1, -Bool.forall_bool, -Bool.exists_bool]
 by_cases e2:r.b<=tok
 rotate_left
 ·simp[Th,PA,bh,be,pA,e1,e2, -Bool.forall_bool, -Bool.exists_bool]
 by_cases e3:tok < r.e
 rotate_left
 ·simp[Th,PA,bh,be,pA,e1,e2,e3, -Bool.forall_bool, -Bool.exists_bool]
 by_cases e4:x.arg=dF
 ·have e4':x.arg=⟨#[]⟩:=e4;simp[Th,PA,bh,be,pA,e1,e2,e3,e4,e4',dF, -Bool.forall_bool, -Bool.exists_bool]
 ·have e4':¬x.arg=⟨#[]⟩:=e4;simp[Th,PA,bh,be,pA,h1,e1,e2,e3,e4,e4', -Bool.forall_bool, -Bool.exists_bool]
abbrev Qz:Spc:=aZ (a3 Corpus Cond Int) (λ_=>True) (enc (X:=Bool)) λx y=>y=x.1.regs.any (pA x.2.1 x.2.2)
def vR(h0:S0 bu=xY)(h1:S dh=JC Region S0):ax iy ib S (a3 Corpus Cond Int) (λ_=>True) (enc (X:=Bool)) λx y=>y=x.1.regs.any (pA x.2.1 x.2.2):=by
 rintro⟨c,x,tok⟩ -;have hf:FunOn S0 (.clo bu [.cptr (PA x) 0, .cptr [enc tok] 0]) c.regs (pA x tok):=
  nh (f:=λr=>(r,x,tok)) h0 (λr _=>wV Th MM (r,x,tok)) (λ_ _=>trivial) (λr _ y hy=>hy)
 unfold PA at hf;simp[iy,ib,h1, -Bool.forall_bool, -Bool.exists_bool];exact⟨⟨_,hf⟩,λy hy=>hy _ hf⟩
mutual
def xV:Cond->Bool| .mk op _ _ _ _ _ ks=>decide (op=4)||Jh ks
def Jh:List Cond->Bool|[]=>false|k::ks=>xV k||Jh ks
end
def EZ:∀l:List Cond,Jh l=l.any xV
 | []=>by rw[Jh];rfl
 | k::l=>by rw[Jh,EZ l];rfl
def TX(x:Cond):xV x=(decide (x.op=4)||x.kids.any xV):=by cases x;rw[xV,EZ]
abbrev xX(n:Nat):Spc:=aZ (a1 Cond) (λx=>bM x<=n) (enc (X:=Bool)) λx y=>y=xV x
def zL(n:Nat)(h0:S0 aW=xX n)(h1:S aV=JC Cond S0):ax gc fV S (a1 Cond) (λx=>bM x<=n+1) (enc (X:=Bool)) λx y=>y=xV x:=by
 rintro x hd;have hd:bM x<=n+1:=hd;have hf:FunOn S0 (.clo aW []) x.kids xV:=
  nh (f:=λk=>k) h0 (λk _=>by rw[Ys,Cod.dec_enc]) (λk hk=>by have:=KR hk;show bM k<=n;omega) (λr _ y hy=>hy)
 have hsc:=TX x;by_cases e:x.op=4
 ·simp[gc,fV,h1,hsc,e, -Bool.forall_bool, -Bool.exists_bool]
 ·simp[gc,fV,h1,hsc,e, -Bool.forall_bool, -Bool.exists_bool];exact⟨⟨_,hf⟩,λy hy=>hy _ hf⟩
end Go.Gv
namespace Go.Gv
open Cod (enc dec)
variable {dq:Prop}
section
variable {X Y:Type}[Cod X][Cod Y]
variable {P:Program}{S:Nat->Spc}{f:Nat}{im:List Nat}{cc:CC}{rs:List ai}{N:Nat}{el n:Nat}
end
section
variable {X Y Z:Type}
structure Id (X:Type) where
 ids:List Nat
 ce:X->List D
 hp:X->List (Nat×Res)
 keys:∀x,(hp x).map (·.1)=ids
def KZ:∀ {l:List (Nat×Res)} {i:Nat} {s:Res},fq l cv i=some s->(i,s) ∈l
 | [],i,s,h=>by simp[fq,cv]at h
 | (j,r)::l,i,s,h=>by
  simp only[fq,aj]at h;by_cases e:i=j
  ·subst e;simp only[if_true]at h;cases h;simp
  ·simp only[e,if_false]at h;exact qlm _ (KZ h)
def K0:∀ {l:List (Nat×Res)} {H:aa} {i:Nat} {s:Res},i∈l.map (·.1)->fq l H i=some s->(i,s) ∈l
 | (j,r)::l,H,i,s,hi,h=>by
  simp only[fq,aj]at h;by_cases e:i=j
  ·subst e;simp only[if_true]at h;cases h;simp
  ·simp only[e,if_false]at h;simp[e]at hi;refine qlm _ (K0 (H:=H) ?_ h);simpa using hi
def KY:∀ {l:List (Nat×Res)} {H:aa} {i:Nat},i∉l.map (·.1)->fq l H i=H i
 | [],H,i,_=>rfl
 | (j,r)::l,H,i,hi=>by
  simp only[qj2,qjW,not_or]at hi;simp only[fq,aj,hi.1,if_false];exact KY hi.2
def qg9(B:Id X)(A:fw Z)(er:Y->D)(pre:X->Z->Prop)(post:X->Z->X->Y->Prop):PT:=λd ds H K=>∃id b x z ds',ds= .bptr id b 0::ds'/\A.dec ds'=some z/\H id=some (.box b (B.ce x))/\(∀p∈B.hp x,H p.1=some p.2)/\id∉B.ids/\pre x z/\
 ∀x' y,post x z x' y->K (er y) (aj (fq (B.hp x') H) id (some (.box b (B.ce x'))))
def Vm(B:Id X)(A:fw Z)(er:Y->D)(pre:X->Z->Prop)(post:X->Z->X->Y->Prop):uo (qg9 B A er pre post):=λd ds H K K' hk ⟨id,b,x,z,ds',h1,h2,h3,h4,h5,h6,h7⟩=>⟨id,b,x,z,ds',h1,h2,h3,h4,h5,h6,λx' y hp=>hk _ _ (h7 x' y hp)⟩
def qha(B:Id X)(A:fw Z)(er:Y->D)(pre:X->Z->Prop)(post:X->Z->X->Y->Prop):Spc:= .gen _ (Vm B A er pre post)
def NX(B:Id X)(er:Y->D)(b:Nat)(post:X->Y->Prop)(r:D)(H:aa):Prop:=∃x y,FrzTo (λi=>if i=0\/i∈B.ids then none else H i) r (er y)/\H 0=some (.box b (B.ce x))/\(∀p∈B.hp x,H p.1=some p.2)/\post x y
def Yu(cc:CC)(rs:List ai)(S:Nat->Spc)(B:Id X)(A:fw Z)(er:Y->D)(pre:X->Z->Prop)(post:X->Z->X->Y->Prop):Prop:=
 ∀b x z,pre x z->vc S cc (ra rs λr H'=>NX B er b (post x z) r H') (cR (.bptr 0 b 0::A.view z)) (aj (fq (B.hp x) cv) 0 (some (.box b (B.ce x))))
variable {P:Program}{S:Nat->Spc}{f:Nat}{im:List Nat}{cc:CC}{rs:List ai}{N:Nat}
theorem Cl{B:Id X}{A:fw Z}{er:Y->D}{pre:X->Z->Prop}{post:X->Z->X->Y->Prop}(h1i:0∉B.ids)(hS:∀f,Tri dq P f (S f).pt)(h:aq P f im cc rs N)(hN:∀z,(A.view z).length+1<=N)(hw:Yu cc rs S B A er pre post):Tri dq P f (qha B A er pre post).pt:=by
 obtain⟨rp,enter,fn,code,h1,h2,h3,h4,h5⟩:=h;refine mZ hS rp h1 h2 enter h3 h4 h5 ?_;rintro ds H d K ⟨id,b,x,z,ds',rfl,hd,hid,hhp,hni,hp,hK⟩;have hl:=A.le ds' z hd;have h0:∀i r,aj (fq (B.hp x) cv) 0 (some (.box b (B.ce x))) i=some r->i=0/\r= .box b (B.ce x)\/i≠0/\(i,r) ∈B.hp x:=by
  intro i r h;by_cases e:i=0
  ·subst e;simp only[aj,if_true]at h;cases h;exact .inl ⟨rfl,rfl⟩
  ·simp only[aj,e,if_false]at h;exact .inr ⟨e,KZ h⟩
 have hk:∀ {x:X} {i:Nat} {r:Res},(i,r) ∈B.hp x->i∈B.ids:=by
  intro x i r h;rw[<-B.keys x];exact qjN.2 ⟨_,h,rfl⟩
 refine⟨by simp only[qkn];rw[hl.1];exact hN z, .bptr 0 b 0::A.view z,aj (fq (B.hp x) cv) 0 (some (.box b (B.ce x))),λi=>if i=0 then id else i, .cons (.bptr _ _ _ _) hl,λi r h=>?_,λi j r s h h' e=>?_,_,hw b x z hp,?_⟩
 ·rcases h0 i r h with⟨rfl,rfl⟩|⟨e,hm⟩
  ·exact hid
  ·simp only[e,if_false];exact hhp _ hm
 ·rcases h0 i r h with⟨rfl,rfl⟩|⟨e1,hm⟩
  ·rcases h0 j s h' with⟨rfl,rfl⟩|⟨e2,hm2⟩
   ·rfl
   ·simp only[e2,if_true,if_false]at e;subst e;exact absurd (hk hm2) hni
  ·rcases h0 j s h' with⟨rfl,rfl⟩|⟨e2,hm2⟩
   ·simp only[e1,if_true,if_false]at e;subst e;exact absurd (hk hm) hni
   ·simpa only[e1,e2,if_false]using e
 ·rintro r H' ⟨x',y,hfr,hj,hhp',hpost⟩;refine⟨er y,λi=>if i=0\/i∈B.ids then none else H' i,aj (fq (B.hp x') H) id (some (.box b (B.ce x'))),λi=>if i=id then some 0 else if i∈B.ids then some i else none,hfr,λj q h=>?_,hK x' y hpost,λi s hi=>?_,λi j' k s q hi hj' e1 e2=>?_⟩
  ·by_cases e:j=0\/j∈B.ids
   ·simp[e]at h
   ·simp only[e,if_false]at h;refine⟨h,λi hh=>e ?_⟩;by_cases e1:i=id
    ·simp only[e1,if_true]at hh;cases hh;exact .inl rfl
    ·simp only[e1,if_false]at hh;by_cases e2:i∈B.ids
     ·simp only[e2,if_true]at hh;cases hh;exact .inr e2
     ·simp[e2]at hh
  ·by_cases e:i=id
   ·subst e;simp only[aj,if_true]at hi;cases hi;simpa using hj
   ·simp only[aj,e,if_false]at hi ⊢;by_cases e2:i∈B.ids
    ·simp only[e2,if_true];exact hhp' _ (K0 (by rw[B.keys];exact e2) hi)
    ·simp only[e2,if_false];rw[KY (by rw[B.keys];exact e2)]at hi;refine⟨hi,λk q h he=>?_⟩;rcases h0 k q h with⟨rfl,rfl⟩|⟨e3,hm⟩
     ·simp only[if_true]at he;exact e he.symm
     ·simp only[e3,if_false]at he;subst he;exact e2 (hk hm)
  ·by_cases c1:i=id
   ·by_cases c2:j'=id
    ·exact c1.trans c2.symm
    ·simp only[c1,if_true]at e1;cases e1;simp only[c2,if_false]at e2;by_cases c3:j'∈B.ids
     ·simp only[c3,if_true]at e2;cases e2;exact absurd c3 h1i
     ·simp[c3]at e2
   ·simp only[c1,if_false]at e1;by_cases c3:i∈B.ids
    ·simp only[c3,if_true]at e1;cases e1;by_cases c2:j'=id
     ·simp only[c2,if_true]at e2;cases e2;exact absurd c3 h1i
     ·simp only[c2,if_false]at e2;by_cases c4:j'∈B.ids
      ·simp only[c4,if_true]at e2;cases e2;rfl
      ·simp[c4]at e2
    ·simp[c3]at e1
def Po{X:Type}(ce:X->List D):Id X:=⟨[],ce,λ_=>[],λ_=>rfl⟩
end
@[simp] theorem qgq(s:Rp):Rp.mk s.s s.pos s.fault s.e=s:=by cases s;rfl
def mh(s:Rp):List D:=[enc s.s,enc s.pos,enc s.fault,enc s.e]
@[simp] theorem qep(s:Rp):mh s=[enc s.s,enc s.pos,enc s.fault,enc s.e]:=id rfl
section
variable {Y Z:Type}
def WN:Id Rp:=Po mh
def qfq(A:fw Z)(er:Y->D)(pre:Rp->Z->Prop)(post:Rp->Z->Rp->Y->Prop):Spc:=qha WN A er pre post
def qhI(er:Y->D)(pre:Rp->Z->Prop)(post:Rp->Z->Rp->Y->Prop)(id b:Nat)(r:Option Res)(o:Option Z)(H:aa)(K:D->aa->Prop):Prop:=
 ∃x,r=some (.box b (mh x))/\ij o λz=>pre x z/\∀x' y,post x z x' y->K (er y) (aj H id (some (.box b (mh x'))))
def Sr{x y:Rp}(h:mh x=mh y):x=y:=by
 obtain⟨l,a,d,e⟩:=x;obtain⟨l',a',d',e'⟩:=y;simp only[mh,qke]at h;obtain⟨h1,h2,h3,h4,_⟩:=h;have h1:=bC h1;have h2:=bC h2;have h3:=bC h3;have h4:=bC h4;subst h1;subst h2;subst h3;subst h4;rfl
@[simp] theorem WM(A:fw Z)(er:Y->D)(pre:Rp->Z->Prop)(post:Rp->Z->Rp->Y->Prop)(d i b:Nat)(ds:List D)(H:aa)(K:D->aa->Prop):(qfq A er pre post).pt d (.bptr i b 0::ds) H K=qhI er pre post i b (H i) (A.dec ds) H K:=by
 refine propext ⟨λh=>?_,λh=>?_⟩
 ·obtain⟨id,b',x,z,ds',h1,h2,h3,h4,h5,h6,h7⟩:=h;cases h1;refine⟨x,h3,?_⟩;rw[h2];exact⟨h6,h7⟩
 ·obtain⟨x,h1,h2⟩:=h;cases hz:A.dec ds with
  | none=>rw[hz]at h2;exact h2.elim
  | some z=>rw[hz]at h2;exact⟨i,b,x,z,ds,rfl,hz,h1,λp hp=>by simp[WN,Po]at hp,by simp[WN,Po],h2.1,h2.2⟩
def zi(er:Y->D)(b:Nat)(post:Rp->Y->Prop)(r:D)(H:aa):Prop:=NX WN er b post r H
def yF{er:Y->D}{b:Nat}{post:Rp->Y->Prop}{r:D}{H:aa}(x:Rp)(y:Y)(hr:FrzTo (λi=>if i=0 then none else H i) r (er y))(h0:H 0=some (.box b (mh x)))(hq:post x y):zi er b post r H:=
 ⟨x,y,by simpa [WN,Po]using hr,h0,λp hp=>by simp[WN,Po]at hp,hq⟩
def oo(cc:CC)(rs:List ai)(S:Nat->Spc)(A:fw Z)(er:Y->D)(pre:Rp->Z->Prop)(post:Rp->Z->Rp->Y->Prop):Prop:=
 ∀b x z,pre x z->vc S cc (ra rs λr H'=>zi er b (post x z) r H') (cR (.bptr 0 b 0::A.view z)) (aj cv 0 (some (.box b (mh x))))
variable {P:Program}{S:Nat->Spc}{f:Nat}{im:List Nat}{cc:CC}{rs:List ai}{N:Nat}
def Lq{A:fw Z}{er:Y->D}{pre:Rp->Z->Prop}{post:Rp->Z->Rp->Y->Prop}(hS:∀f,Tri dq P f (S f).pt)(h:aq P f im cc rs N)(hN:∀z,(A.view z).length+1<=N)(hw:oo cc rs S A er pre post):Tri dq P f (qfq A er pre post).pt:=
 Cl (by simp[WN,Po]) hS h hN λb x z hp=>hw b x z hp
end
section
variable {Y Z:Type}
def Pw(A:fw Z)(er:Y->D)(F:Rp->Z->Option (Rp×Y)):Spc:=qfq A er (λs z=>∃r,F s z=some r) (λs z s' y=>F s z=some (s',y))
def QE(er:Y->D)(F:Rp->Z->Option (Rp×Y))(id b:Nat)(r:Option Res)(o:Option Z)(H:aa)(K:D->aa->Prop):Prop:=
 ∃x,r=some (.box b (mh x))/\ij o λz=>ij (F x z) λq=>K (er q.2) (aj H id (some (.box b (mh q.1))))
@[congr] theorem qcT{er:Y->D}{F:Rp->Z->Option (Rp×Y)}{id b:Nat}{r r':Option Res}{o o':Option Z}{H:aa}{K:D->aa->Prop}(h1:r=r')(h2:o=o'):QE er F id b r o H K=QE er F id b r' o' H K:=by subst h1;subst h2;rfl
def Xb{F:Option (Rp×Y)}{k:Rp->Y->Prop} :((∃r,F=some r)/\∀x' y,F=some (x',y)->k x' y)=ij F λq=>k q.1 q.2:=by
 cases F with
 | none=>
   refine propext (Iff.intro (λh=>?_) (λh=>?_))
   ·obtain⟨⟨r,h⟩,_⟩:=h;cases h
   ·exact False.elim h
 | some r=>
   refine propext (Iff.intro (λh=>h.2 _ _ rfl) (λh=>⟨⟨_,rfl⟩,λx' y e=>?_⟩));cases e;exact h
@[simp] theorem qfo(A:fw Z)(er:Y->D)(F:Rp->Z->Option (Rp×Y))(d i b:Nat)(ds:List D)(H:aa)(K:D->aa->Prop):(Pw A er F).pt d (.bptr i b 0::ds) H K=QE er F i b (H i) (A.dec ds) H K:=by
 unfold Pw QE;rw[WM];unfold qhI;refine propext (exists_congr λx=>and_congr_right λ_=>?_);cases A.dec ds with
 | none=>exact qkt
 | some z=>exact iff_of_eq Xb
@[simp] theorem qfp(er:Y->D)(F:Rp->Z->Option (Rp×Y))(id b:Nat)(l:B)(p dp e:Int)(o:Option Z)(H:aa)(K:D->aa->Prop):
 QE er F id b (some (.box b [.v (.string l), .v (.int .i64 p), .v (.int .i64 dp), .v (.int .i64 e)])) o H K=ij o λz=>ij (F ⟨l,p,dp,e⟩ z) λq=>K (er q.2) (aj H id (some (.box b (mh q.1)))):=by
 refine propext ⟨λ⟨x,h1,h2⟩=>?_,λh=>⟨⟨l,p,dp,e⟩,rfl,h⟩⟩;have e1:mh ⟨l,p,dp,e⟩=mh x:=by
  have:=qjJ h1;exact(Res.box.inj this).2
 have:=Sr e1;subst this;exact h2
variable {P:Program}{S:Nat->Spc}{f:Nat}{im:List Nat}{cc:CC}{rs:List ai}{N:Nat}
def dQ{A:fw Z}{er:Y->D}{F:Rp->Z->Option (Rp×Y)}(hS:∀f,Tri dq P f (S f).pt)(h:aq P f im cc rs N)(hN:∀z,(A.view z).length+1<=N)
 (hw:oo cc rs S A er (λs z=>∃r,F s z=some r) (λs z s' y=>F s z=some (s',y))):Tri dq P f (Pw A er F).pt:=Lq hS h hN hw
end
end Go.Gv
namespace Go.Gv
open Go.Proofs
def dX:CC:=gq Tryz.f139 [] { ke:=[0] } _
def dR:List ai:=[.tmp 2]
def tv:aq Tryz.prog aS [] dX dR 29:=fo
def gL:CC:=gq Tryz.f205 [] { bx:=[0] } _
def gm:List ai:=[]
def tu:aq Tryz.prog iq [] gL gm 25:=fo
def dL:CC:=gq Tryz.f194 [] { bx:=[0] } _
def dH:List ai:=[.tmp 4, .tmp 5]
def ox:aq Tryz.prog cK [] dL dH 37:=fo
def fh:CC:=gq Tryz.f201 [] { bx:=[0] } _
def eR:List ai:=[.tmp 2, .tmp 3]
def rh:aq Tryz.prog fH [] fh eR 27:=fo
def rI:CC:=gq Tryz.f191 [] {} _
def qK:List ai:=[.cell 4 true 5]
def GP:aq Tryz.prog tL [] rI qK 10:=fo
def cW:CC:=gq Tryz.f180 [2002002] { bx:=[0] } _
def cQ:List ai:=[.cell 2 true 5, .tmp 3]
def tw:aq Tryz.prog ir [2002002] cW cQ 72:=fo
def fL:CC:=gq Tryz.f192 [] { ke:=[0] } _
def fB:List ai:=[.cell 2 true 5, .tmp 3]
def sA:aq Tryz.prog gF [] fL fB 108:=fo
def fg:CC:=gq Tryz.f164 [] { bx:=[0] } _
def eQ:List ai:=[.cell 2 true 5, .tmp 3]
def rf:aq Tryz.prog fG [] fg eQ 54:=fo
def fj:CC:=gq Tryz.f138 [] { ke:=[0] } _
def eS:List ai:=[.cell 2 true 5, .tmp 3]
def ri:aq Tryz.prog fI [] fj eS 49:=fo
def fK:CC:=gq Tryz.f110 [] { ke:=[0] } _
def fA:List ai:=[.cell 2 true 5, .tmp 3]
def sy:aq Tryz.prog gE [] fK fA 44:=fo
end Go.Gv
