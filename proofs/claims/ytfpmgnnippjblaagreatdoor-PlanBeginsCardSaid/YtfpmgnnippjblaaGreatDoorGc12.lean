/- V55 -/
import Derived.Test.YtfpmgnnippjblaaGreatDoorGc11
set_option linter.all false
set_option maxRecDepth 100000
set_option maxHeartbeats 0
open Bool renaming forall_bool → fB', exists_bool → eB'
namespace Go.Gv
section
open Cod (enc dec)
mutual
def cR:Cond->Nat| .mk _ _ _ _ _ _ ks=>gk ks+1
def gk:List Cond->Nat|[]=>0|k::ks=>cR k+gk ks
end
theorem rS(x:Cond):cR x=gk x.kids+1:=by cases x;rw[cR]
def D8:∀(a b:List Cond),gk (a++b)=gk a+gk b
 | [],b=>by rw[qG1,gk];omega
 |k::a,b=>by rw[qG4,gk,gk,D8 a b];omega
def TR:∀(a b:List Cond),jE (a++b)=max (jE a) (jE b)
 | [],b=>by rw[qG1,jE];omega
 |k::a,b=>by rw[qG4,jE,jE,TR a b];omega
def D7:∀{ks:List Cond} {k:Cond},k∈ks->cR k<=gk ks
 | x::ks,k,h=>by
   rw[gk];rcases qGm.1 h with rfl|h
   ·omega
   ·have:=D7 h;omega
def Tk{ks:List Cond}{k:Nat}{x:Cond}(h:ks[k]? =some x):gk (ks.take (k+1))=gk (ks.take k) +cR x/\jE (ks.take (k+1))=max (jE (ks.take k)) (bi x)/\gk (ks.take k) +cR x<=gk ks:=by
 have e:=au h;refine⟨by rw[e,D8,gk,gk];omega,by rw[e,TR,jE,jE];omega,?_⟩
 conv=>rhs;rw[<-qGB (k+1) ks,D8]
 rw[e,D8,gk,gk];omega
def fu:B:=⟨#[]⟩
def dU(a:List Attr)(n:B):Int:=fL a λx=>decide (x.nm=n)
def qX(a:List Attr)(n:B):Int:=if n=fu then min 0 ((a.length:Int) -1)else dU a n
def qfq(c:UInt8):Bool:=(decide (65<=c.toNat) && decide (c.toNat<=90))||(decide (97<=c.toNat) && decide (c.toNat<=122))||decide (c.toNat=95)
def qCb(c:UInt8):Bool:=qfq c||(decide (48<=c.toNat) && decide (c.toNat<=57))||decide (c.toNat=45)
def KU(s:B):Bool:=decide (1<=s.size/\s.size<=32) && (match s.data.toList with|c::_=>qfq c|[]=>false) && s.data.toList.all qCb
def Db(s:B):Bool:=decide (s.size<=120) && s.data.toList.all λc=>decide (32<=c.toNat/\c.toNat< 127)
def qf5(x:Cond):Bool:=
 if x.op=1 then decide (x.name=fu/\x.arg=fu/\x.val=fu/\x.lab=fu/\x.fold=false) && x.kids.isEmpty else
 if x.op=2 then decide (x.arg=fu/\x.lab=fu) && x.kids.isEmpty else
 if x.op=3 then decide (x.arg=fu/\x.lab=fu/\x.fold=false) && x.kids.isEmpty else
 if x.op=4 then decide (x.val=fu/\x.fold=false) && x.kids.isEmpty else
 if x.op=5 then decide (x.lab=fu/\x.fold=false/\(x.arg=fu->x.val=fu)) && x.kids.isEmpty else
 if x.op=6 then decide (x.name=fu/\x.arg=fu/\x.val=fu/\x.lab=fu/\x.fold=false) && decide (x.kids.length=1)else
 if x.op=7\/x.op=8 then decide (x.name=fu/\x.arg=fu/\x.val=fu/\x.lab=fu/\x.fold=false) && decide (2<=x.kids.length/\x.kids.length<=60)else false
def qnQ(a:List Attr)(x:Cond):Bool:=
 if x.op=2 then decide (0<=qX a x.name)else
 if x.op=3 then decide (0<=dU a x.name)else
 if x.op=4 then decide (0<=dU a x.name/\0<=dU a x.arg)else
 if x.op=5 then KU x.name && (decide (x.arg=fu)||KU x.arg)else true
def qo3(s:B):Bool:=s.data.toList.any λc=>decide (c.toNat=124)
def qwl(a:List Attr)(lb:List B)(x:Cond):Bool:=
 if x.op=2 then(ms x.val).isSome else
 if x.op=3 then(match a[(dU a x.name).toNat]? with|some b=>b.st|none=>false) && decide (x.val≠fu) && !qo3 x.val && Db x.val else
 if x.op=4 then lb.any λl=>decide (l=x.lab)else
 if x.op=5 then Db x.val else true
def oh(a:List Attr)(lb:List B)(x:Cond):Bool:=qf5 x && qnQ a x && qwl a lb x
def sC(a:List Attr)(lb:List B):Nat->Cond->Bool
 | 0=>λ_=>false
 |n+1=>λx=>oh a lb x && x.kids.all (sC a lb n)
def qmm(a:List Attr)(lb:List B)(x:Cond):Bool:=decide (cR x<=60/\bi x<=20) && sC a lb 20 x
variable {S S0:Nat->Spc}
def aM{X:Type}{l:List X}{k:Nat}(h:k<l.length):∃x,l[k]? =some x:=⟨_,qF6 h⟩
def qtN(n:Nat)(x:Cond×Int×Int):Prop:=bi x.1<=n/\0<=x.2.1/\x.2.1+cR x.1<=60/\0<=x.2.2/\x.2.2+bi x.1<=1000/\bi x.1<=60
abbrev Zq(n:Nat):Spc:=ax (a3 Cond Int Int) (qtN n) (iA (Y:=Int) (Z:=Int)) λx y=>y=(x.2.1+cR x.1,x.2.2+bi x.1 -1)
abbrev OQ:Spc:=ax (a3 Cond Int Int) (λx=>∃n,qtN n x) (iA (Y:=Int) (Z:=Int)) λx y=>y=(x.2.1+cR x.1,x.2.2+bi x.1 -1)
theorem Cp(n:Nat)(h1:S dG=Zq n):aq lw kP S (a3 Cond Int Int) (qtN (n+1)) (iA (Y:=Int) (Z:=Int)) λx y=>y=(x.2.1+cR x.1,x.2.2+bi x.1 -1):=by
 rintro⟨x,nodes,deep⟩ ⟨hn,h0,h2,h3,h4,h5⟩;simp only at hn h0 h2 h3 h4 h5;have l:=Bw x;have p:=rS x;simp[lw,kP];refine⟨by simp only[InR];omega,λq=>?_⟩;refine ah (X:=Int×Int) [2,17] [] x.kids.length (λk z=>z.1=nodes+1+ (gk (x.kids.take k):Int)/\z.2=deep+ (jE (x.kids.take k):Int)) (λz=>[(1,enc z.1),(8,enc z.2)]) (λ_=>[]) (nodes+1,deep) (by simp[gk,jE]) ?_ ?_
 ·rintro k ⟨m,d⟩ hk ⟨c,a⟩;simp only at c a;obtain⟨y,h⟩:=aM hk;obtain⟨_,j⟩:=qF4.1 h;have hm:=Tk h;have r:=Ei (qF7 h);have hp:qtN n (y,m,deep+1):=⟨by show bi y<=n;omega,by show 0<=m;omega,by show m+cR y<=60;omega,by show 0<=deep+1;omega,by show deep+1+bi y<=1000;omega,by show bi y<=60;omega⟩
  have b:¬60<m:=by have:=rS y;omega
  simp[h1,hk,h,j,hp,b];exact⟨by simp only[InR];omega,by omega,by rw[hm.2.1,a];omega⟩
 ·rintro⟨m,d⟩ ⟨c,a⟩;simp only at c a;rw[qGc]at c a;simp;exact⟨by omega,by omega⟩
abbrev Zr:Spc:=ax (a1 Cond) (λx=>cR x<=60/\bi x<=60) (enc (X:=Bool)) λ_ y=>y=false
def Hw(h1:S dG=OQ):aq nP nC S (a1 Cond) (λx=>cR x<=60/\bi x<=60) (enc (X:=Bool)) λ_ y=>y=false:=by
 rintro x ⟨hn,a⟩;have hp:∃n,qtN n (x,0,1):=⟨bi x,qGb _,qHb _,by show(0:Int) +cR x<=60;omega,by show(0:Int)<=1;omega,by show(1:Int) +bi x<=1000;omega,a⟩
 simp[nP,nC,h1,hp,-fB',-eB'];omega
abbrev SQ:Spc:=ax (a1 Cond) (λx=>qf5 x=true) (enc (X:=Bool)) λ_ y=>y=true
set_option maxHeartbeats 1000000 in
theorem FE:aq bz bv S (a1 Cond) (λx=>qf5 x=true) (enc (X:=Bool)) λ_ y=>y=true:=by
 rintro⟨op,name,arg,val,lab,fold,ks⟩ hx;have hx:qf5 ⟨op,name,arg,val,lab,fold,ks⟩=true:=hx;unfold qf5 at hx;simp only at hx;split at hx
 ·rename_i e;subst e;simp at hx;obtain⟨⟨rfl,rfl,rfl,rfl,rfl⟩,rfl⟩:=hx;simp[bz,bv,fu,-fB',-eB']
 split at hx
 ·rename_i e;subst e;simp at hx;obtain⟨⟨rfl,rfl⟩,rfl⟩:=hx;simp[bz,bv,fu,-fB',-eB']
 split at hx
 ·rename_i e;subst e;simp at hx;obtain⟨⟨rfl,rfl,rfl⟩,rfl⟩:=hx;simp[bz,bv,fu,-fB',-eB']
 split at hx
 ·rename_i e;subst e;simp at hx;obtain⟨⟨rfl,rfl⟩,rfl⟩:=hx;simp[bz,bv,fu,-fB',-eB']
 split at hx
 ·rename_i e;subst e;simp at hx;obtain⟨⟨rfl,rfl,hav⟩,rfl⟩:=hx;by_cases ha:arg=fu
  ·have hv:=hav.resolve_left λh=>h ha
   subst ha;subst hv;simp[bz,bv,fu,-fB',-eB']
  ·have ha':¬arg=⟨#[]⟩:=ha;simp[bz,bv,fu,ha',-fB',-eB']
 split at hx
 ·rename_i e;subst e;simp at hx;obtain⟨⟨rfl,rfl,rfl,rfl,rfl⟩,hk⟩:=hx;simp[bz,bv,fu,hk,-fB',-eB']
 split at hx
 ·rename_i e;simp at hx;obtain⟨⟨rfl,rfl,rfl,rfl,rfl⟩,hk1,hk2⟩:=hx;have q1:(2:Int)<=(ks.length:Int):=by omega
  have q2:(ks.length:Int)<=60:=by omega
  have q3:(ks.length:Int)<=9223372036854775807:=by omega
  rcases e with rfl|rfl<;>simp[bz,bv,fu,q1,q2,q3,-fB',-eB']
 ·cases hx
def IS{X:Type}(p:X->Bool):∀l:List X, -1<=fL l p/\fL l p<l.length
 | []=>⟨qHb _,by simp[fL]⟩
 | x::l=>by
   have:=IS p l;rw[fL,qGT];split
   ·omega
   ·split<;>omega
open Classical in
noncomputable def aX{Z:Type}(v:Z->List D)(hi:∀z z',v z=v z'->z=z'):fN Z:=⟨λds=>if h:∃z,ds=v z then some h.choose else none,v,λds z h=>by
 split at h
 ·rename_i h';have e:h'.choose=z:=qGf h;rw[<-e,<-h'.choose_spec];exact⟨rfl,λk d d' h1 h2=>by rw[h1]at h2;cases h2;exact .same _⟩
 ·cases h⟩
open Classical in
def LD{Z:Type}(v:Z->List D)(hi:∀z z',v z=v z'->z=z')(z:Z):(aX v hi).dec (v z)=some z:=by
 have h:∃z',v z=v z':=⟨z,rfl⟩
 show(if h:∃z',v z=v z' then some h.choose else none)=some z;rw[dif_pos h];exact congrArg some (hi _ _ h.choose_spec).symm
def JI{Z:Type}(v:Z->List D)(hi:∀z a,v z=v a->z=a)(z:Z):(aX v hi).view z=v z:=rfl
def qfU(x:Attr×B):List D:=[enc x.1, .cptr [enc x.2] 0]
def Yw(z b:Attr×B)(h:qfU z=qfU b):z=b:=by
 obtain⟨a,s⟩:=z;obtain⟨c,d⟩:=b;unfold qfU at h;simp only[qGF,D.cptr.injEq,and_true]at h;rw[cD h.1,cD h.2]
noncomputable abbrev qwH:fN (Attr×B):=aX qfU Yw
noncomputable abbrev Ve:Spc:=ax qwH (λ_=>True) (enc (X:=Bool)) λx y=>y=decide (x.1.nm=x.2)
def yO:aq gQ gJ S qwH (λ_=>True) (enc (X:=Bool)) λx y=>y=decide (x.1.nm=x.2):=by
 rintro⟨a,s⟩ -;rw[JI];simp[qfU,gQ,gJ,-fB',-eB']
abbrev D3:Spc:=ax (a2 (List Attr) B) (λ_=>True) (enc (X:=Int)) λx y=>y=dU x.1 x.2
def BV(h0:S0 bZ=Ve)(h1:S eY=qcy Attr S0):aq jm iP S (a2 (List Attr) B) (λ_=>True) (enc (X:=Int)) λx y=>y=dU x.1 x.2:=by
 rintro⟨a,s⟩ -;have c:FunOn S0 (.clo bZ [.cptr [enc s] 0]) a λx=>decide (x.nm=s):=
  zB (f:=λx=>(x,s)) h0 (λx _=>LD qfU Yw (x,s)) (λ_ _=>trivial) (λx _ y b=>b)
 simp[jm,iP,h1,-fB',-eB'];exact⟨⟨_,c⟩,λy b=>b _ c⟩
abbrev OT:Spc:=ax (a2 (List Attr) B) (λx=>x.1.length<=1000) (enc (X:=Int)) λx y=>y=qX x.1 x.2
def Hx(h1:S bV=D3):aq jl iO S (a2 (List Attr) B) (λx=>x.1.length<=1000) (enc (X:=Int)) λx y=>y=qX x.1 x.2:=by
 rintro⟨a,s⟩ hl;have hl:a.length<=1000:=hl;have b:InR .i64 ((a.length:Int) -1):=by simp only[InR];omega
 have c:(a.length:Int)<=9223372036854775807:=by omega
 by_cases hs:s=fu
 ·subst hs;simp[jl,iO,fu,qX,b,c,-fB',-eB']
 ·have d:¬s=⟨#[]⟩:=hs;simp[jl,iO,fu,qX,h1,d,-fB',-eB']
def sk(t:List (List B))(i k:Int):B:=if i< 0\/k< 0 then fu else match t[i.toNat]? with
 |some r=>(match r[k.toNat]? with|some s=>s|none=>fu)
 |none=>fu
abbrev Zw:Spc:=ax (a3 Corpus Int Int) (λx=>x.1.toks.length<=100000/\∀r∈x.1.toks,r.length<=100000) (enc (X:=B)) λx y=>y=sk x.1.toks x.2.1 x.2.2
theorem Hz:aq cq cg S (a3 Corpus Int Int) (λx=>x.1.toks.length<=100000/\∀r∈x.1.toks,r.length<=100000) (enc (X:=B)) λx y=>y=sk x.1.toks x.2.1 x.2.2:=by
 rintro⟨c,i,k⟩ ⟨hl,p⟩;simp only at hl p;have a:(c.toks.length:Int)<=9223372036854775807:=by omega
 by_cases h0:i< 0
 ·simp[cq,cg,h0,sk,-fB',-eB'];rfl
 by_cases h1:(c.toks.length:Int)<=i
 ·have hn:c.toks[i.toNat]? =none:=qGu (by omega);by_cases h2:k< 0
  ·simp[cq,cg,h0,h1,h2,a,sk,-fB',-eB'];rfl
  ·simp[cq,cg,h0,h1,h2,a,hn,sk,-fB',-eB'];rfl
 by_cases h2:k< 0
 ·simp[cq,cg,h0,h1,h2,a,sk,-fB',-eB'];rfl
 obtain⟨r,b⟩:=aM (show i.toNat<c.toks.length by omega);obtain⟨_,h⟩:=qF4.1 b;have u:=p r (qF7 b);have d:(r.length:Int)<=9223372036854775807:=by omega
 have q:0<=i:=by omega
 have t:i<(c.toks.length:Int):=by omega
 have w:0<=k:=by omega
 by_cases h3:(r.length:Int)<=k
 ·have hn:r[k.toNat]? =none:=qGu (by omega);simp[cq,cg,h0,h1,h2,h3,a,d,hn,b,h,q,t,sk,-fB',-eB'];rfl
 obtain⟨s,j⟩:=aM (show k.toNat<r.length by omega);obtain⟨_,l⟩:=qF4.1 j;have A:k<(r.length:Int):=by omega
 simp[cq,cg,h0,h1,h2,h3,a,d,b,h,j,l,q,t,w,A,sk,-fB',-eB']
abbrev qd4:Spc:=ax (a1 B) (λs=>KU s=true) (enc (X:=Bool)) λ_ y=>y=true
abbrev Kp:Spc:=ax (a1 B) (λs=>Db s=true) (enc (X:=Int)) λ_ y=>y=0
abbrev s_sConB:Spc:=ax (a2 B B) (λx=>x.2=⟨#[124]⟩/\Db x.1=true) (enc (X:=Bool)) λx y=>y=qo3 x.1
abbrev qiX:Spc:=ax (a1 B) (λs=>∃r,ms s=some r) (enc (X:=Int)) λ_ y=>y=0
def pw(l:List B)(s:B):Bool:=l.any λz=>decide (z=s)
abbrev qcv:Spc:=ax (a2 (List B) B) (λ_=>True) (enc (X:=Bool)) λx y=>y=pw x.1 x.2
abbrev Va:Spc:=ax (a2 (List B) B) (λ_=>True) (enc (X:=Int)) λx y=>y=fL x.1 λz=>decide (z=x.2)
theorem N8:aq ja iF S (a2 (List B) B) (λ_=>True) (enc (X:=Int)) λx y=>y=fL x.1 λz=>decide (z=x.2):=by
 rintro⟨l,s⟩ -;simp[ja,iF,-fB',-eB'];intro _;refine ah (X:=Unit) [0,1] [] l.length (λk _=>∀x∈l.take k,decide (x=s)=false) (λ_=>[]) (λ_=>[]) () (by simp) ?_ ?_
 ·intro k _ hk a;obtain⟨x,b⟩:=aM hk;obtain⟨_,c⟩:=qF4.1 b;simp[hk,b,c,-fB',-eB'];refine⟨λh=>?_,λh=>?_⟩
  ·exact(pu b (by simp[h]) a).symm
  ·rw[au b];intro z hz;rcases qGi.1 hz with hz|hz
   ·have:=a z hz;simpa using this
   ·simp at hz;subst hz;exactλe=>h e.symm
 ·intro _ a;simp[-fB',-eB'];exact(ig (by simpa using a)).symm
def HC(h1:S dQ=Va):aq cI cG S (a2 (List B) B) (λ_=>True) (enc (X:=Bool)) λx y=>y=pw x.1 x.2:=by
 rintro⟨l,s⟩ -;simp[cI,cG,h1,-fB',-eB'];exact AO _ l
abbrev Zp:Spc:=ax (a2 Cond (List Attr)) (λx=>qnQ x.2 x.1=true/\x.2.length<=1000) (enc (X:=Bool)) λ_ y=>y=true
theorem Hu(h1:S kw=OT)(h2:S bV=D3)(h3:S bN=qd4):aq cp cb S (a2 Cond (List Attr)) (λx=>qnQ x.2 x.1=true/\x.2.length<=1000) (enc (X:=Bool)) λ_ y=>y=true:=by
 rintro⟨⟨op,name,arg,val,lab,fold,ks⟩,a⟩ ⟨b,hl⟩;have b:qnQ a ⟨op,name,arg,val,lab,fold,ks⟩=true:=b;have hl:a.length<=1000:=hl;unfold qnQ at b;simp only at b;split at b
 ·rename_i e;subst e;simp at b;simp[cp,cb,h1,hl,b,-fB',-eB']
 rename_i j;split at b
 ·rename_i e;subst e;simp at b;simp[cp,cb,h2,b,-fB',-eB']
 rename_i k;split at b
 ·rename_i e;subst e;simp at b;simp[cp,cb,h2,b.1,b.2,-fB',-eB']
 rename_i l;split at b
 ·rename_i e;subst e;simp at b;obtain⟨hn,p⟩:=b;by_cases c:arg=fu
  ·subst c;simp[cp,cb,h3,hn,fu,-fB',-eB']
  ·have h:=p.resolve_left c;have d:¬arg=⟨#[]⟩:=c;simp[cp,cb,h3,hn,h,d,-fB',-eB']
 rename_i q;simp[cp,cb,j,k,l,q,-fB',-eB']
abbrev Zv:Spc:=ax (a3 Cond (List Attr) (List B)) (λx=>oh x.2.1 x.2.2 x.1=true/\x.2.1.length<=1000) (enc (X:=Int)) λ_ y=>y=0
theorem Hy(h1:S pQ=SQ)(h2:S pR=Zp)(h3:S sa=qiX)(h4:S bV=D3)(h5:S vB=s_sConB)(h6:S cL=Kp)(l:S bb=qcv):
 aq dj di S (a3 Cond (List Attr) (List B)) (λx=>oh x.2.1 x.2.2 x.1=true/\x.2.1.length<=1000) (enc (X:=Int)) λ_ y=>y=0:=by
 rintro⟨x,a,lb⟩ ⟨c,hl⟩;have c:oh a lb x=true:=c;have hl:a.length<=1000:=hl;unfold oh at c;simp only[qF9]at c;obtain⟨⟨hs,hn⟩,hc⟩:=c;obtain⟨op,name,arg,val,lab,fold,ks⟩:=x;unfold qwl at hc;simp only at hc;have e:(Cond.mk op name arg val lab fold ks)=⟨op,name,arg,val,lab,fold,ks⟩:=rfl;split at hc
 ·rename_i e;subst e;obtain⟨r,p⟩:=qGK.1 hc;simp[dj,di,h1,h2,h3,hs,hn,hl,p,-fB',-eB']
 rename_i q;split at hc
 ·rename_i e;subst e;simp only[qF9]at hc;obtain⟨⟨⟨c1,c2⟩,c3⟩,c4⟩:=hc;have d:0<=dU a name:=by simpa [qnQ]using hn
  have h:=(IS (λx:Attr=>decide (x.nm=name)) a).2;have j:dU a name<a.length:=h;obtain⟨b,hb⟩:=aM (show(dU a name).toNat<a.length by omega);obtain⟨_,k⟩:=qF4.1 hb;rw[hb]at c1;have c1:b.st=true:=c1;have c2:¬val=⟨#[]⟩:=of_decide_eq_true c2;have c3:qo3 val=false:=by simpa using c3
  simp[dj,di,h1,h2,h4,h5,h6,hs,hn,hl,d,j,hb,k,c1,c2,c3,c4,-fB',-eB']
 rename_i s;split at hc
 ·rename_i e;subst e;have hc:pw lb lab=true:=hc;simp[dj,di,h1,h2,l,hs,hn,hl,hc,-fB',-eB']
 rename_i t;split at hc
 ·rename_i e;subst e;simp[dj,di,h1,h2,h6,hs,hn,hl,hc,-fB',-eB']
 rename_i u;simp[dj,di,h1,h2,hs,hn,hl,q,s,t,u,-fB',-eB']
end
section
open Go.Proofs
def Bc:CC:=gq Tryz.f174 [2] {} _
def Ai:List ai:=[.tmp 4, .tmp 5]
def VH:FO sJ [2] Bc Ai 42:=fo
def Bd:CC:=gq Tryz.f110 [1] {} _
def Aj:List ai:=[.tmp 2, .tmp 3]
def VJ:FO sK [1] Bd Aj 8:=fo
def rr:CC:=gq Tryz.f145 [] {} _
def qB:List ai:=[.tmp 4]
def KE:FO ga [] rr qB 20:=fo
def Lp:CC:=gq Tryz.f261 [] {} _
def Kt:List ai:=[.tmp 4]
def qgp:FO Je [] Lp Kt 17:=fo
def eA:CC:=gq Tryz.f259 [1] {} _
def ep:List ai:=[.tmp 2]
def VI:FO wX [1] eA ep 82:=fo
def gC:CC:=gq Tryz.f203 [3] {} _
def gg:List ai:=[.tmp 6]
def ZR:FO GH [3] gC gg 93:=fo
def Bb:CC:=gq Tryz.f141 [3] {} _
def Ah:List ai:=[.tmp 6]
def VG:FO sI [3] Bb Ah 33:=fo
def tN:CC:=gq Tryz.f81 [3] {} _
def tg:List ai:=[.tmp 6]
def MU:FO pG [3] tN tg 24:=fo
def dh:CC:=gq Tryz.f112 [5,6] {} _
def dg:List ai:=[.tmp 10]
def VF:FO wW [5,6] dh dg 187:=fo
def RSub(r r':Res):Prop:=r=r'\/ ∃b cs cs',r= .box b cs/\r'= .box b cs'/\cs.length=cs'.length/\∀(m:Nat) (c c':D),cs[m]? =some c->cs'[m]? =some c'->qbt c c'
theorem RSub.blk{r r':Res}(h:RSub r r'):r'.blk=r.blk:=by
 grind [Res.blk,RSub]
def RSub.ok{tp I:Nat->Prop}{w w':World}{r r':Res}(h:RSub r r')(d:ResOk (R tp I w) w' r):ResOk (R tp I w) w' r':=by
 rcases h with rfl|⟨b,cs,cs',rfl,rfl,hl,hc⟩;omega
 ·obtain⟨xs,el,h1,h2,h3⟩:=d;refine⟨xs,el,h1,h2.trans hl,λk y c j a=>?_⟩;have hk:k<cs.length:=by grind
  have h4:=h3 k y cs[k] j (qF6 hk);exact⟨h4.1,qpY (hc k _ _ (qF6 hk) a) h4.2⟩
theorem StW.ren{E:BU}{tp:Nat->Prop}{H H':ab}{w:World}(ρ:Nat->Nat)(h:StW E tp H w)(k:∀i j r s,H' i=some r->H' j=some s->ρ i=ρ j->i=j)
 (hs:∀i r,H' i=some r->∃a,H (ρ i)=some a/\RSub a r):
 StW E tp H' w/\∀x d,R tp (be E.O tp H w) w x d->R tp (be E.O tp H' w) w x d:=by
 have c:∀b,bG H' b->bG H b:=λb ⟨i,r,h1,h2⟩=>by
  obtain⟨a,h3,h4⟩:=hs i r h1;exact⟨ρ i,a,h3,h4.blk ▸h2⟩
 have move:∀x d,R tp (be E.O tp H w) w x d->R tp (be E.O tp H' w) w x d:=λx d l=>
  l.mono (λ_ h=>h) (λb hb=>⟨⟨hb.1,hb.2.1,hb.2.2.1,λho=>hb.2.2.2 (c b ho)⟩,rfl⟩) (λb _=> .refl _ _)
 refine⟨⟨h.hO,h.tpx,h.tpn,h.tpl,h.step,λb hb=>h.loc b (c b hb),⟨λi j r s b h1 h2 h3 h4=>?_,λi r b h1 h2=>?_,λi r h1=>?_⟩⟩,move⟩
 ·obtain⟨a,a1,a2⟩:=hs i r h1;obtain⟨p,b1,b2⟩:=hs j s h2;exact k i j r s h1 h2 (h.sat.dis _ _ a p b a1 b1 (a2.blk ▸h3) (b2.blk ▸h4))
 ·obtain⟨a,a1,a2⟩:=hs i r h1;exact h.sat.out _ a b a1 (a2.blk ▸h2)
 ·obtain⟨a,a1,a2⟩:=hs i r h1;exact a2.ok ((h.sat.ok _ a a1).conv move (λ_ _=>rfl))
theorem qqd{σ:Sg}{H:ab}(i j k b:Nat)(cs cs':List D)(q:i≠j)(hk:k≠i/\k≠j)(d:H k=some (.box b cs))(hl:cs.length=cs'.length)(hc:∀(m:Nat) (c c':D),cs[m]? =some c->cs'[m]? =some c'->qbt c c'):
 Wk σ H σ (aj (aj (aj H i none) j (H i)) k (some (.box b cs'))):=by
 intro E a w h;obtain⟨u,x,tp,y,A⟩:=h;have hm:=y.ren (H':=aj (aj (aj H i none) j (H i)) k (some (.box b cs'))) (λt=>if t=j then i else t) (λa c r s h1 h2 h3=>?_) (λt r h1=>?_)
 ·exact⟨u,x,tp,hm.1,λt=>hm.2 _ _ (A t)⟩
 ·simp only[aj]at h1 h2;grind
 ·simp only[aj]at h1;by_cases l:t=k
  ·subst l;simp only[if_true]at h1;cases h1;simp only[hk.2,if_false];exact⟨_,d, .inr ⟨b,cs,cs',rfl,rfl,hl,hc⟩⟩
  ·simp only[l,if_false]at h1;by_cases p:t=j
   ·simp only[p,if_true]at h1 ⊢;exact⟨r,h1, .inl rfl⟩
   ·simp only[p,if_false]at h1 ⊢;by_cases C:t=i;grind
    ·simp only[C,if_false]at h1;exact⟨r,h1, .inl rfl⟩
section
variable {S:Nat->Spc}{σ σ1:Sg}{H H1:ab}{K:Ex->Sg->ab->Prop}
theorem qhY{k:Nat}{b:CC}(a:Wk σ H σ1 H1)(h:vc S (.loop k b) K σ1 H1):vc S (.loop k b) K σ H:=by
 grind [Wk,WV]
def Ke{id i n c a b:Nat}{body:CC}(d:Wk σ H σ1 H1)(h:vc S (wN id i n c a body b) K σ1 H1):vc S (wN id i n c a body b) K σ H:=by
 grind [wN,WW,qhY]
end
variable {dq:Prop}
section
variable {X Y:Type}
def qDl(ce:X->List D)(cf:Y->List D)(pre:X->Prop)(post:X->Y->Prop):PT:=λd ds H K=>∃L id b x,ds=[.tape L, .bptr id b 0]/\H id=some (.box b (ce x))/\pre x/\∀y,post x y->K (.tup []) (aj H id (some (.box b (cf y))))
def qoW(ce:X->List D)(cf:Y->List D)(pre:X->Prop)(post:X->Y->Prop):qq (qDl ce cf pre post):=λd ds H K c hk ⟨L,id,b,x,h1,h2,h3,h4⟩=>⟨L,id,b,x,h1,h2,h3,λy a=>hk _ _ (h4 y a)⟩
def qzV(ce:X->List D)(cf:Y->List D)(pre:X->Prop)(post:X->Y->Prop):Spc:= .gen _ (qoW ce cf pre post)
def qDk(ce:X->List D)(cf:Y->List D)(pre:X->Prop)(post:X->Y->Prop)(id b:Nat)(r:Option Res)(H:ab)(K:D->ab->Prop):Prop:=∃x,r=some (.box b (ce x))/\pre x/\∀y,post x y->K (.tup []) (aj H id (some (.box b (cf y))))
@[congr] theorem qDj{ce:X->List D}{cf:Y->List D}{pre:X->Prop}{post:X->Y->Prop}{id b:Nat}{r r':Option Res}{H:ab}{K:D->ab->Prop}(h:r=r'):qDk ce cf pre post id b r H K=qDk ce cf pre post id b r' H K:=by grind
@[simp] theorem qDm(ce:X->List D)(cf:Y->List D)(pre:X->Prop)(post:X->Y->Prop)(d i b:Nat)(L:List Int)(H:ab)(K:D->ab->Prop):(qzV ce cf pre post).pt d [.tape L, .bptr i b 0] H K=qDk ce cf pre post i b (H i) H K:=by
 refine propext ⟨λh=>?_,λh=>?_⟩
 ·obtain⟨a,id,b',x,h1,h2,h3,h4⟩:=h;cases h1;exact⟨x,h2,h3,h4⟩
 ·obtain⟨x,h1,h2,h3⟩:=h;exact⟨L,i,b,x,rfl,h1,h2,h3⟩
variable {P:Program}{S:Nat->Spc}{f:Nat}{im:List Nat}{cc:CC}{rs:List ai}{N:Nat}
end
def HWk(H a:ab):Prop:=∀(E:BU) (tp:Nat->Prop) (w:World),StW E tp H w->StW E tp a w/\∀x d,R tp (be E.O tp H w) w x d->R tp (be E.O tp a w) w x d
def HWk.refl(H:ab):HWk H H:=λ_ _ _ h=>⟨h,λ_ _ h=>h⟩
def Wk.trans{σ b c:Sg}{H d j:ab}(h:Wk σ H b d)(k:Wk b d c j):Wk σ H c j:=λE a w hs=>k E a w (h E a w hs)
def qoq(k:Nat)(ks:List Nat)(H:ab):ab:=λi=>if i=k\/i∈ks then none else H i
def left(k b:Nat)(cs:List D)(ks:List Nat)(H:ab):ab:=λi=>if i=k then some (.box b cs)else if i∈ks then H i else none
theorem qoi{H:ab}(k b:Nat)(cs cs':List D)(ks:List Nat)(hk:H k=some (.box b cs))(hl:cs.length=cs'.length)
 (hc:∀(m:Nat) (c c':D),cs[m]? =some c->cs'[m]? =some c'->FrzTo (qoq k ks H) c c'):HWk H (left k b cs' ks H):=by
 intro E tp w h;have hs:∀i r,left k b cs' ks H i=some r->(i=k/\r= .box b cs')\/(i≠k/\i∈ks/\H i=some r):=λi r h1=>by
  grind [left]
 have a:∀i r c,left k b cs' ks H i=some r->r.blk=some c->∃q,H i=some q/\q.blk=some c:=λi r c h1 h2=>by
  grind [Res.blk]
 have l:∀c,bG (left k b cs' ks H) c->bG H c:=λc ⟨i,r,h1,h2⟩=>by
  grind [bG]
 have p:∀c,be E.O tp H w c->be E.O tp (left k b cs' ks H) w c:=λc hb=>⟨hb.1,hb.2.1,hb.2.2.1,λho=>hb.2.2.2 (l c ho)⟩
 have move:∀x d,R tp (be E.O tp H w) w x d->R tp (be E.O tp (left k b cs' ks H) w) w x d:=λx d A=>
  A.mono (λ_ h=>h) (λb hb=>⟨p b hb,rfl⟩) (λb _=> .refl _ _)
 refine⟨⟨h.hO,h.tpx,h.tpn,h.tpl,h.step,λb hb=>h.loc b (l b hb),⟨λi j r s c h1 h2 h3 h4=>?_,λi r c h1 h2=>?_,λi r h1=>?_⟩⟩,move⟩
 ·obtain⟨q,a1,a2⟩:=a i r c h1 h3;obtain⟨t,b1,b2⟩:=a j s c h2 h4;exact h.sat.dis i j q t c a1 b1 a2 b2
 ·obtain⟨q,a1,a2⟩:=a i r c h1 h2;exact h.sat.out i q c a1 a2
 ·rcases hs i r h1 with⟨rfl,rfl⟩|⟨_,_,h3⟩
  ·obtain⟨xs,el,h1,h2,h3⟩:=h.sat.ok _ _ hk;refine⟨xs,el,h1,h2.trans hl,λm y c C u=>?_⟩;have hm:m<cs.length:=by grind
   have h4:=h3 m y cs[m] C (qF6 hm);refine⟨h4.1,(hc m _ _ (qF6 hm) u).R (H:=dm) (λi r hi=>?_) p (λi r c hi hb=>?_) h4.2⟩
   ·simp only[qoq]at hi;split at hi;grind
    ·exact h.sat.ok i r hi
   ·simp only[qoq]at hi;split at hi;grind
    ·rename_i hn;have ho:=h.sat.out i r c hi hb;refine⟨(h.sat.ok i r hi).lt hb,ho.1,ho.2,λ⟨j,s,F,I⟩=>?_⟩;obtain⟨t,J,L⟩:=a j s c F I;have e:=h.sat.dis i j r t c hi J hb L;grind
  ·exact(h.sat.ok i r h3).conv move (λ_ _=>rfl)
section
variable {S:Nat->Spc}{σ:Sg}{H:ab}{K:Ex->Sg->ab->Prop}
def qm1{X:Type}(P:X->Prop)(s:X->Sg)(h:X->ab){k:Nat}{a b:CC}
 (d:vc S a (qcQ (λc H'=>∃x,P x/\Wk c H' (s x) (h x)) K) σ H)
 (hb:∀x,P x->vc S b K (s x) (h x)):vc S (qcp k a b) K σ H:=by
 grind [vc,qcp,zR,qcQ]
end
section
variable {P:Program}{im:List Nat}{E:BU}{S:Nat->Spc}
theorem qce{f:Nat}{fn:Func}{code:Code}{cc:CC}{rs:List ai}{A:PT}(hS:∀f,Tri dq P f (S f).pt)(hmix:P.follows .mixedOrders=true)(hf:P.funcs[f]? =some fn)(hb:fn.body=some code)(hce:dH P f){N:Nat}(hN:fn.ntmps=N)
 (hcc:aG P im N code=some (bI cc)) (hrs:fn.results.toList.mapM (fD P)=some rs)
 (hA:∀ (ds:List D) (H:ab) (d:Nat) (K:D->ab->Prop),A d ds H K->ds.length<=N/\
   ∃ (Y:List D) (M:ab) (ι:Nat->Nat),LeL ds Y/\(∀i r,M i=some r->H (ι i)=some r)/\(∀i j r s,M i=some r->M j=some s->ι i=ι j->i=j)/\
    ∃Q:D->ab->Prop,vc S cc (wC rs Q) (dI Y) M/\∀r H',Q r H'->∃(r':D) (H2 Hf Hc:ab) (κ:Nat->Option Nat),HWk H' H2/\FrzTo Hf r r'/\(∀j q,Hf j=some q->H2 j=some q/\∀i,κ i≠some j)/\K r' Hc/\
     (∀i s,Hc i=some s->match κ i with|some j=>H2 j=some s|none=>H i=some s/\∀k q,M k=some q->ι k≠i)/\
     (∀i j k s q,Hc i=some s->Hc j=some q->κ i=some k->κ j=some k->i=j)):Tri dq P f A:=by
 intro O tp w vs ds H d K hO htl u hlen hargs hAK;refine⟨hce,?_⟩;obtain⟨hdN,Y,M,ι,hle,C,hinj,Q,hv,hQ⟩:=hA ds H d K hAK
 let W:Nat->Prop:=λi=>∃k q,M k=some q/\ι k=i
 let rest:Nat->Prop:=λb=>∃i r,H i=some r/\ ¬W i/\r.blk=some b
 let E:BU:={ O:=λb=>O b\/rest b,tp0:=tp,w0:=w,own0:=bG M,N:=N,dq:=dq }
 have y:∀b,bG M b->bG H b:=λb ⟨i,r,h1,h2⟩=>⟨ι i,r,C i r h1,h2⟩
 have Z:∀b,rest b->b<w.heap.size:=λb ⟨i,r,h1,_,h2⟩=>(u.ok i r h1).lt h2
 have I:∀b,rest b->¬bG M b:=λb ⟨i,r,h1,h2,h3⟩ ⟨j,s,h4,h5⟩=>h2 ⟨j,s,h4,(u.dis i (ι j) r s b h1 (C j s h4) h3 h5).symm⟩
 have himm:∀b,be O tp H w b->be E.O tp M w b:=λb hb=>⟨hb.1,λh=>h.elim hb.2.1 (λ⟨i,r,h1,_,h2⟩=>hb.2.2.2 ⟨i,r,h1,h2⟩),hb.2.2.1,λh=>hb.2.2.2 (y b h)⟩
 have hmove:∀x e,R tp (be O tp H w) w x e->R tp (be E.O tp M w) w x e:=λx e hr=>hr.mono (λ_ h=>h) (λb hb=>⟨himm b hb,rfl⟩) (λb _=> .refl _ _)
 have hstw:StW E tp M w:=by
  refine⟨λb hb=>hb.elim (hO b) (Z b),λb h=>h,λb h=> .inl h,⟨htl.1,htl.2.mono (λ_ h=>h) y⟩, .refl _ _ _,λb hb=> .inl hb,⟨λi j r s b h1 h2 h3 h4=>?_,λi r b h1 h2=>⟨λh=>?_,?_⟩,λi r h1=>?_⟩⟩
  ·exact hinj i j r s h1 h2 (u.dis _ _ r s b (C i r h1) (C j s h2) h3 h4)
  ·rcases h with h|h
   ·exact(u.out _ r b (C i r h1) h2).1 h
   ·exact I b h ⟨i,r,h1,h2⟩
  ·exact(u.out _ r b (C i r h1) h2).2
  ·exact(u.ok _ r (C i r h1)).conv hmove (λ_ _=>rfl)
 have hst:St E (dI Y) M { tmps:=vs.toArray++Array.replicate (fn.ntmps -vs.toArray.size) undef,defers:=[] } w:=by
  refine⟨rfl,?_,tp,hstw,λt=>?_⟩
  ·show(vs.toArray++Array.replicate (fn.ntmps -vs.toArray.size) undef).size=N;simp;omega
  ·unfold dI;cases hd:Y[t]? with
   |none=>exact .any _
   | some e'=>
     have hlt:t<vs.length:=by rw[hlen,hle.1];exact(qF4.1 hd).1
     have hlt':t<ds.length:=by rw[<-hlen];exact hlt
     have hg:(vs.toArray++Array.replicate (fn.ntmps -vs.toArray.size) undef).getD t undef=vs[t]:=by
      rw[qGL,qGX (by simpa using hlt)];simp[hlt]
     simp only[qGJ,hg];have he:=qF6 hlt';exact(hle.2 t _ e' he hd).R (H:=dm) (λi r h=>by cases h) (λ_ h=>h) (λi r b h=>by cases h) (hmove _ _ (hargs t _ _ (by simp[hlt]) he))
 have hwp:=yP hS hmix cc code (by exact hcc) _ _ _ _ w hst hv;refine calls_of_wp hf hb (qHm ?_ hwp);have tD:∀a' w' J H',St E J H' a' w'->(zi rs J H' λds=>Q (dP ds) H')->
  a'.defers=[]/\∃v,(results fn a'.tmps).run P w'= .ok v w'/\qdM dq O tp H w K (.returned v) w':=by
  intro a' w' J H' hst' hres;obtain⟨hd',hN',U,hw',hr'⟩:=hst';obtain⟨v,r0,hrun,hR,hq⟩:=rR (K:=λr=>Q r H') hrs hr' hw'.sat.ok hres;obtain⟨r,H2,Hf,Hc,κ,hW,hfz,hHf,hK,hκ,hκi⟩:=hQ r0 H' hq;obtain⟨p,mv2⟩:=hW _ _ _ hw';refine⟨hd',v,hrun,v,r,Hc,U,rfl,hK,p.tpx,p.tpn,p.tpl.1,?_,?_,?_,?_⟩
  ·-- the step
   have hs:=p.step;exact⟨hs.os,hs.tape,hs.output,hs.size,λb hb ho ht=>hs.same b hb (λh=>ho (y b h)) ht,hs.tapes,hs.drawn⟩
  all_goals
   have L:∀i s,Hc i=some s->(∃j,κ i=some j/\H2 j=some s)\/(κ i=none/\H i=some s/\ ¬W i):=λi s hi=>by
    have:=hκ i s hi;cases hk:κ i with
    |some j=>rw[hk]at this;exact .inl ⟨j,rfl,this⟩
    |none=>rw[hk]at this;exact .inr ⟨rfl,this.1,λ⟨k,q,h1,h2⟩=>this.2 k q h1 h2⟩
  ·intro b ⟨i,s,h1,h2⟩;rcases L i s h1 with⟨j,_,h3⟩|⟨_,h3,_⟩
   ·rcases p.loc b ⟨j,s,h3,h2⟩with h4|h4
    ·exact .inl (y b h4)
    ·exact .inr h4
   ·exact .inl ⟨i,s,h3,h2⟩
  all_goals
   have hownc:∀b,bG Hc b->bG H2 b\/rest b:=λb ⟨i,s,h1,h2⟩=>by
    rcases L i s h1 with⟨j,_,h3⟩|⟨_,h3,h4⟩
    ·exact .inl ⟨j,s,h3,h2⟩
    ·exact .inr ⟨i,s,h3,h4,h2⟩
   have himmc:∀b,be E.O U H2 w' b->be O U Hc w' b:=λb hb=>⟨hb.1,λh=>hb.2.1 (.inl h),hb.2.2.1,λh=>by
    rcases hownc b h with h|h
    ·exact hb.2.2.2 h
    ·exact hb.2.1 (.inr h)⟩
   have hmovec:∀x e,R U (be E.O U H2 w') w' x e->R U (be O U Hc w') w' x e:=λx e hr=>hr.mono (λ_ h=>h) (λb hb=>⟨himmc b hb,rfl⟩) (λb _=> .refl _ _)
  ·refine⟨λi j s q b h1 h2 h3 h4=>?_,λi s b h1 h2=>?_,λi s h1=>?_⟩
   ·rcases L i s h1 with⟨i',e1,F⟩|⟨e1,F,p1⟩
    ·rcases L j q h2 with⟨j',e2,k2⟩|⟨e2,k2,p2⟩
     ·have:=p.sat.dis i' j' s q b F k2 h3 h4;subst this;exact hκi i j i' s q h1 h2 e1 e2
     ·exact absurd (Or.inr ⟨j,q,k2,p2,h4⟩) (p.sat.out i' s b F h3).1
    ·rcases L j q h2 with⟨j',e2,k2⟩|⟨e2,k2,p2⟩
     ·exact absurd (Or.inr ⟨i,s,F,p1,h3⟩) (p.sat.out j' q b k2 h4).1
     ·exact u.dis i j s q b F k2 h3 h4
   ·rcases L i s h1 with⟨i',e1,F⟩|⟨e1,F,p1⟩
    ·have:=p.sat.out i' s b F h2;exact⟨λh=>this.1 (.inl h),this.2⟩
    ·have h3:=u.out i s b F h2;refine⟨h3.1,λh=>?_⟩;rcases p.tpn b h with h4|h4
     ·exact h3.2 h4
     ·have:=(u.ok i s F).lt h2;have h4':w.heap.size<=b:=h4;omega
   ·rcases L i s h1 with⟨i',e1,F⟩|⟨e1,F,p1⟩
    ·exact(p.sat.ok i' s F).conv hmovec (λ_ _=>rfl)
    ·-- a resource that was not handed in is as it was
     have hs:=p.step;have hsame:∀b,b<w.heap.size->¬bG M b->¬tp b->w'.heap[b]? =w.heap[b]?:=hs.same;refine(u.ok i s F).conv (λx e hr=>?_) (λb hb=>hsame b ((u.ok i s F).lt hb) (I b ⟨i,s,F,p1,hb⟩) (u.out i s b F hb).2);refine hr.mono p.tpx (λb hb=>?_) hs.tapes;have h0:¬bG M b:=λh=>hb.2.2.2 (y b h)
     have hsz:w.heap.size<=w'.heap.size:=hs.size;have hbl:b<w.heap.size:=hb.1;refine⟨⟨by omega,hb.2.1,λh=>?_,λh=>?_⟩,hsame b hb.1 h0 hb.2.2.1⟩
     ·rcases p.tpn b h with h4|h4
      ·exact hb.2.2.1 h4
      ·have h4':w.heap.size<=b:=h4;omega
     ·rcases hownc b h with h|h
      ·rcases p.loc b h with h4|h4
       ·exact h0 h4
       ·have h4':w.heap.size<=b:=h4;omega
      ·obtain⟨j,q,h5,_,h6⟩:=h;exact hb.2.2.2 ⟨j,q,h5,h6⟩
  ·refine hfz.R (H:=dm) (λi q hi=>p.sat.ok i q (hHf i q hi).1) himmc (λi q b hi hb=>?_) (mv2 _ _ hR);obtain⟨hi',hne⟩:=hHf i q hi;have ho:=p.sat.out i q b hi' hb;refine⟨(p.sat.ok i q hi').lt hb,λh=>ho.1 (.inl h),ho.2,λ⟨j,s,h1,h2⟩=>?_⟩;rcases L j s h1 with⟨j',e1,F⟩|⟨e1,F,p1⟩
   ·have:=p.sat.dis i j' q s b hi' F hb h2;subst this;exact hne j e1
   ·exact ho.1 (.inr ⟨j,s,F,p1,h2⟩)
 intro e a' w' hp;cases e with
 | normal=>
   obtain⟨J,H',hs,hk⟩:=hp;exact tD a' w' J H' hs hk
 | ret=>
   obtain⟨J,H',hs,hk⟩:=hp;exact tD a' w' J H' hs hk
 | exit i=>
   obtain⟨J,H',hs,hk⟩:=hp;exact hk.elim
 |goto l=>exact hp.elim
 |panic c=>exact hp.elim
 |outgrown=>exact hp.elim
end
end
section
def RFz(Hf:ab):Res->Res->Prop
 | .box b cs, .box b' cs'=>b=b'/\cs.length=cs'.length/\∀(m:Nat) (c c':D),cs[m]? =some c->cs'[m]? =some c'->FrzTo Hf c c'
 | .row x el n es, .row h a l es'=>x=h/\el=a/\n=l/\es.length=es'.length/\(∀d∈es',d.kn=true/\d.cells.length=n)/\∀(m:Nat) (c c':D),es[m]? =some c->es'[m]? =some c'->∀(j:Nat) (e k:D),c.cells[j]? =some e->c'.cells[j]? =some k->FrzTo Hf e k
 | .tbox el b cs, .tbox a b' cs'=>el=a/\b=b'/\cs.length=cs'.length/\∀(m:Nat) (c c':D),cs[m]? =some c->cs'[m]? =some c'->FrzTo Hf c c'
 | .mrow x es, .mrow h es'=>x=h/\es.length=es'.length/\∀(m:Nat) (c c':D),es[m]? =some c->es'[m]? =some c'->FrzTo Hf c c'
 |r,r'=>r=r'
theorem RFz.blk{Hf:ab}{r r':Res}(h:RFz Hf r r'):r'.blk=r.blk:=by
 cases r<;>cases r'<;>simp only[RFz]at h
 all_goals simp_all [Res.blk]
theorem RFz.ok{tp I u:Nat->Prop}{w:World}{Hf:ab}{r r':Res}(h:RFz Hf r r')(a:ResOk (R tp I w) w r)(J:∀i q,Hf i=some q->ResOk (R tp I w) w q)(hI:∀b,I b->u b)(hb:∀i q b,Hf i=some q->q.blk=some b->u b):ResOk (R tp u w) w r':=by
 have fz:∀{c c':D} {y:Value},FrzTo Hf c c'->R tp I w y c->R tp u w y c':=λh a=>h.R (H:=dm) J hI hb a
 have same:ResOk (R tp u w) w r:=a.conv (λx d a=>a.mono (λ_ h=>h) (λb hb=>⟨hI b hb,rfl⟩) (λb _=> .refl _ _)) (λ_ _=>rfl);cases r with
 | box b cs=>
   cases r' with
   | box b' cs'=>
     obtain⟨rfl,hl,hc⟩:=h;obtain⟨xs,el,h1,h2,h3⟩:=a;refine⟨xs,el,h1,h2.trans hl,λk y c A t=>?_⟩;have hk:k<cs.length:=by grind
     have h4:=h3 k y cs[k] A (qF6 hk);grind
   |row x el n es=>cases h
   |iter b s p=>cases h
   |tbox b s p=>cases h
   |mrow=>cases h
   |miter=>cases h
   |raw=>cases h
 | iter b s p=>
   cases r'<;>simp_all [RFz]
 | tbox b s p=>
   cases r' with
   |box b' cs'=>cases h
   |row x el n es=>cases h
   |iter b' L O=>cases h
   |mrow=>cases h
   |miter=>cases h
   |raw=>cases h
   | tbox b' L cs'=>
     obtain⟨rfl,rfl,hl,hc⟩:=h;obtain⟨xs,h1,h2,h3⟩:=a;refine⟨xs,h1,h2.trans hl,λk y c A t=>?_⟩;have hk:k<p.length:=by grind
     have h4:=h3 k y p[k] A (qF6 hk);grind
 | row x el n es=>
   cases r' with
   |box b' cs'=>cases h
   |iter b' L O=>cases h
   |tbox b' L O=>cases h
   |mrow=>cases h
   |miter=>cases h
   |raw=>cases h
   | row W Y n' es'=>
     obtain⟨rfl,rfl,rfl,hl,C,hc⟩:=h;obtain⟨xs,h1,h2,h3⟩:=a;refine⟨xs,hl ▸h1,C,λk y c A t=>?_⟩;have Q:∀d∈es,d.cells.length=n:=λd M=>(h2 d M).2
     have N:∀d∈es',d.cells.length=n:=λd M=>(C d M).2
     have Z:=ba Q;have U:=ba N;have hk:k<(bq es).length:=by
      grind
     have hk2:k<es.length*n:=by omega
     have hn:0<n:=by
      grind
     have h4:=h3 k y (bq es)[k] A (qF6 hk);refine⟨h4.1,fz ?_ h4.2⟩;have hdm:k=(k/n) *n+k % n:=by grind [ResOk,Nat.div_add_mod]
     have E:k % n<n:=qHu _ hn;have g1:=ij Q (i:=k/n) (j:=k % n) E;grind [FrzTo,ResOk,ij]
 | mrow x es=>
   cases r' with
   |box=>cases h
   |iter=>cases h
   |tbox=>cases h
   |row=>cases h
   |miter=>cases h
   |raw=>cases h
   | mrow W es'=>
     obtain⟨rfl,hl,hc⟩:=h;obtain⟨b,F,clock,rfl,h1,h2,h3⟩:=a;refine⟨b,F,clock,rfl,h1,h2,h3.1.trans hl,λk e c he t=>?_⟩;have hk:k<es.length:=by grind
     exact fz (hc k _ _ (qF6 hk) t) (h3.2 k e _ he (qF6 hk))
 | miter b c l=>
   cases r' with
   |box=>cases h
   |iter=>cases h
   |tbox=>cases h
   |row=>cases h
   |mrow=>cases h
   |raw=>cases h
   |miter=>cases h;omega
 | raw k=>
   cases r' with
   |box=>cases h
   |iter=>cases h
   |tbox=>cases h
   |row=>cases h
   |mrow=>cases h
   |miter=>cases h
   |raw k'=>cases h;omega
def RFe(Hf:ab)(r r':Res):Prop:=r=r'\/RFz Hf r r'
theorem RFe.blk{Hf:ab}{r r':Res}(h:RFe Hf r r'):r'.blk=r.blk:=by
 rcases h with rfl|h
 ·rfl
 ·exact h.blk
def RFe.ok{tp I c:Nat->Prop}{w:World}{Hf:ab}{r r':Res}(h:RFe Hf r r')(a:ResOk (R tp I w) w r)(j:∀i q,Hf i=some q->ResOk (R tp I w) w q)(hI:∀b,I b->c b)(hb:∀i q b,Hf i=some q->q.blk=some b->c b):ResOk (R tp c w) w r':=by
 rcases h with rfl|h
 ·exact a.conv (λx d a=>a.mono (λ_ h=>h) (λb hb=>⟨hI b hb,rfl⟩) (λb _=> .refl _ _)) (λ_ _=>rfl)
 ·exact h.ok a j hI hb
theorem isNilRow.blk'{r:Res}(h:isNilRow r):r.blk=none:=by
 cases r with
 |box b c=>exact h.elim
 |iter b s p=>exact h.elim
 |tbox b s p=>exact h.elim
 |mrow=>exact h.elim
 |miter=>exact h.elim
 |raw=>exact h.elim
 |row x el n es=>obtain⟨rfl,rfl⟩:=h;rfl
theorem qbG{σ M:Sg}{H H' Hf:ab}(ρ:Nat->Nat)(h1:∀t,FrzTo Hf (σ t) (M t))(h2:∀i r,H' i=some r->(∃u,H (ρ i)=some u/\RFe Hf u r)\/isNilRow r)
 (h3:∀i j r s,H' i=some r->H' j=some s->ρ i=ρ j->i=j\/isNilRow r\/isNilRow s) (h4:∀i r,Hf i=some r->H i=some r/\∀j r',H' j=some r'->ρ j=i->isNilRow r'):Wk σ H M H':=by
 intro E a w ⟨Y,Z,tp,h,Q⟩;have l:∀i r c,H' i=some r->r.blk=some c->∃u,H (ρ i)=some u/\u.blk=some c/\ ¬isNilRow r:=λi r c A F=>by
  have hn:¬isNilRow r:=λhn=>by grind [hn.blk']
  rcases h2 i r A with⟨u,k3,I⟩|k3;grind [I.blk];grind
 have J:∀c,bG H' c->bG H c:=λc ⟨i,r,A,F⟩=>by
  obtain⟨u,k3,I,_⟩:=l i r c A F;exact⟨ρ i,u,k3,I⟩
 have C:∀c,be E.O tp H w c->be E.O tp H' w c:=λc hb=>⟨hb.1,hb.2.1,hb.2.2.1,λho=>hb.2.2.2 (J c ho)⟩
 have L:∀i q,Hf i=some q->ResOk (R tp (be E.O tp H w) w) w q:=λi q U=>h.sat.ok i q (h4 i q U).1
 have N:∀i q b,Hf i=some q->q.blk=some b->be E.O tp H' w b:=λi q b U hb=>by
  obtain⟨A,F⟩:=h4 i q U;have ho:=h.sat.out i q b A hb;refine⟨(h.sat.ok i q A).lt hb,ho.1,ho.2,λ⟨j,s,k3,I⟩=>?_⟩;obtain⟨W,k5,k6,k7⟩:=l j s b k3 I;exact k7 (F j s k3 (h.sat.dis (ρ j) i W q b k5 A k6 hb))
 have move:∀x d,R tp (be E.O tp H w) w x d->R tp (be E.O tp H' w) w x d:=λx d Q=>
  Q.mono (λ_ h=>h) (λb hb=>⟨C b hb,rfl⟩) (λb _=> .refl _ _)
 refine⟨Y,Z,tp,⟨h.hO,h.tpx,h.tpn,h.tpl,h.step,λb hb=>h.loc b (J b hb),⟨λi j r s c A F k3 I=>?_,λi r c A F=>?_,λi r A=>?_⟩⟩,λt=>(h1 t).R (H:=dm) L C N (Q t)⟩
 ·obtain⟨u,a1,a2,a3⟩:=l i r c A k3;obtain⟨W,b1,b2,b3⟩:=l j s c F I;rcases h3 i j r s A F (h.sat.dis _ _ u W c a1 b1 a2 b2)with e|e|e
  all_goals grind
 ·obtain⟨u,a1,a2,_⟩:=l i r c A F;exact h.sat.out _ u c a1 a2
 ·rcases h2 i r A with⟨u,k3,I⟩|k3
  ·exact I.ok (h.sat.ok _ u k3) L C N
  ·cases r with
   |box b c=>exact k3.elim
   |iter b s p=>exact k3.elim
   |tbox b s p=>exact k3.elim
   |mrow=>exact k3.elim
   |miter=>exact k3.elim
   |raw=>exact k3.elim
   | row x el n es=>
     obtain⟨rfl,rfl⟩:=k3;exact⟨[],qHo _ _ _ _,by simp,λk y c h=>by grind⟩
def Bz(Hf:ab):List (Nat×D)->Sg->Prop
 | [],_=>True
 |(t,d)::l,σ=>FrzTo Hf (σ t) d/\Bz Hf l σ
@[simp] theorem quN(Hf:ab)(σ:Sg):Bz Hf [] σ=True:=i' rfl
@[simp] theorem quO(Hf:ab)(t:Nat)(d:D)(l:List (Nat×D))(σ:Sg):Bz Hf ((t,d)::l) σ=(FrzTo Hf (σ t) d/\Bz Hf l σ):=i' rfl
def qhA(rn:List (Nat×Nat))(i:Nat):Nat:=(rn.lookup i).getD i
def yG(Hf:ab)(rn:List (Nat×Nat)):List (Nat×Res)->ab->Prop
 | [],_=>True
 |(i,r)::l,H=>((∃a,H (qhA rn i)=some a/\RFe Hf a r)\/isNilRow r)/\yG Hf rn l H
@[simp] theorem quL(Hf:ab)(rn:List (Nat×Nat))(H:ab):yG Hf rn [] H=True:=i' rfl
@[simp] theorem quM(Hf:ab)(rn:List (Nat×Nat))(i:Nat)(r:Res)(l:List (Nat×Res))(H:ab):yG Hf rn ((i,r)::l) H=(((∃a,H (qhA rn i)=some a/\RFe Hf a r)\/isNilRow r)/\yG Hf rn l H):=i' rfl
def qeV(a:List Nat)(H:ab):ab:=λi=>if i∈a then H i else none
def qsO(rn:List (Nat×Nat))(ids a:List Nat):Prop:=(∀i∈ids,∀j∈ids,qhA rn i=qhA rn j->i=j)/\(∀i∈ids,qhA rn i∉a)
instance (rn:List (Nat×Nat)) (ids a:List Nat):Decidable (qsO rn ids a):=by unfold qsO;infer_instance
def dV{l:List (Nat×Res)}{H:ab}{i:Nat}{r:Res}(h:gT l H i=some r):(i,r) ∈l\/(i∉l.map (·.1)/\H i=some r):=by
 induction l with
 |nil=>simp_all
 | cons p l a=>
   obtain⟨j,q⟩:=p;simp only[gT,aj]at h;grind
theorem qcR{Hf:ab}{rn:List (Nat×Nat)}{l:List (Nat×Res)}{H:ab}{i:Nat}{r:Res}(h:yG Hf rn l H)(hm:(i,r) ∈l):(∃a,H (qhA rn i)=some a/\RFe Hf a r)\/isNilRow r:=by
 induction l<;>grind [yG]
theorem JT{b σ:Sg}{l H:ab}{ks hk c:List Nat}{rn:List (Nat×Nat)}{k:List (Nat×D)}{hp:List (Nat×Res)}(hi:qsO rn (hp.map (·.1) ++hk) c)(hid:∀i∈hk,i∉hp.map (·.1)->qhA rn i=i)
 (h1:Bz (qeV c H) k σ) (h2:xi ks b σ) (h3:yG (qeV c H) rn hp H) (h4:BT hk l H):Wk σ H (sV k (jr ks b)) (gT hp (js hk l)):=by
 have a:∀i r,gT hp (js hk l) i=some r->i∈hp.map (·.1) ++hk:=λi r h=>by
  rcases dV h with h|⟨_,h⟩;grind;grind [PU]
 refine qbG (Hf:=qeV c H) (qhA rn) (λt=>?_) (λi r h=>?_) (λi j r s q u e=> .inl (hi.1 i (a i r q) j (a j s u) e)) (λi r h=>?_)
 ·clear hi hid h3 a
  induction k with
  | nil=>
    rw[qdz,PS];grind [FrzTo,xi]
  | cons p k w=>
    obtain⟨s,d⟩:=p;simp only[sV,upd];grind [Bz]
 ·rcases dV h with h|⟨h5,h⟩;grind [qcR]
  ·rw[PU]at h;split at h
   ·rename_i e;rw[hid i e h5,h4 i e];exact .inl ⟨r,h, .inl rfl⟩
   grind
 grind [qsO,qeV]
@[simp] theorem qD9(i:Nat):qhA [] i=i:=i' rfl
def FzL(Hf:ab):List D->List D->Prop
 | [], []=>True
 |a::l,b::r=>FrzTo Hf a b/\FzL Hf l r
 | _,_=>False
@[simp] theorem qEA(Hf:ab):FzL Hf [] []=True:=i' rfl
@[simp] theorem qEB(Hf:ab)(a b:D)(l r:List D):FzL Hf (a::l) (b::r)=(FrzTo Hf a b/\FzL Hf l r):=i' rfl
def FzL.get{Hf:ab} :∀{l r:List D},FzL Hf l r->l.length=r.length/\∀(m:Nat) (c c':D),l[m]? =some c->r[m]? =some c'->FrzTo Hf c c'
 | [], [],_=>⟨rfl,λm c c' h=>by simp⟩
 | a::l,b::r,h=>by
   obtain⟨h1,h2⟩:=h;have d:=FzL.get h2;grind
@[simp] theorem qxS(Hf:ab)(b:Nat)(cs cs':List D):RFe Hf (.box b cs) (.box b cs')=(cs=cs'\/FzL Hf cs cs'):=by
 refine propext ⟨λh=>?_,λh=>?_⟩
 ·rcases h with h|⟨_,hl,hc⟩
  ·cases h;exact .inl rfl
  ·right
   induction cs generalizing cs' with
   | nil=>cases cs' with
     |nil=>trivial
     |cons b r=>simp at hl
   | cons a l d=>cases cs' with
     |nil=>simp at hl
     |cons b r=>exact⟨hc 0 a b rfl rfl,d r (by simpa using hl) λm c c' h1 h2=>hc (m+1) c c' (by simpa using h1) (by simpa using h2)⟩
 ·rcases h with rfl|h
  ·exact .inl rfl
  ·exact .inr ⟨rfl,h.get.1,h.get.2⟩
def qfE(a:Sg)(c:ab)(ks hk b:List Nat)(rn:List (Nat×Nat))(d:List (Nat×D))(hp:List (Nat×Res))(σ:Sg)(H:ab):Prop:=Bz (qeV b H) d σ/\xi ks a σ/\yG (qeV b H) rn hp H/\BT hk c H
@[simp] theorem qwy(a:Sg)(c:ab)(ks hk b:List Nat)(rn:List (Nat×Nat))(d:List (Nat×D))(hp:List (Nat×Res))(σ:Sg)(H:ab):qfE a c ks hk b rn d hp σ H=(Bz (qeV b H) d σ/\xi ks a σ/\yG (qeV b H) rn hp H/\BT hk c H):=i' rfl
section
variable {S:Nat->Spc}{σ:Sg}{H:ab}{K:Ex->Sg->ab->Prop}
def lE{X:Type}(ks hk d:List Nat)(rn:List (Nat×Nat))(P:X->Prop)(j:X->List (Nat×D))(hp:X->List (Nat×Res)){k:Nat}{a b:CC}(ids:List Nat)(l:∀x,(hp x).map (·.1)=ids)(hi:qsO rn (ids++hk) d/\∀i∈hk,i∉ids->qhA rn i=i)
 (p:vc S a (qcQ (λc H'=>∃x,P x/\qfE σ H ks hk d rn (j x) (hp x) c H') K) σ H)
 (hb:∀x,P x->vc S b K (sV (j x) (jr ks σ)) (gT (hp x) (js hk H))):vc S (qcp k a b) K σ H:=by
 refine qm1 P _ _ (zR a _ _ (λe c H' h=>?_) p) hb;cases e<;>grind [qcQ,qfE,JT]
end
end
end Go.Gv
