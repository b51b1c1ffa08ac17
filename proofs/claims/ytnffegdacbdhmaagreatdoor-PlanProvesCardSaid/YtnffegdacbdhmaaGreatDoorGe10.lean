/- W151 -/
import Derived.Test.YtnffegdacbdhmaaGreatDoorGe09
set_option linter.all false
set_option maxRecDepth 100000
set_option maxHeartbeats 0
open Bool renaming forall_bool → fB', exists_bool → eB'
namespace Go.Gv
section
open Cod (enc dec)
variable {S S0:Nat->Spc}
def eK{X:Type}{l:List X}{k:Nat}(h:k<l.length):∃x,l[k]? =some x:=⟨_,qFC h⟩
def qtM(n:Nat)(x:Cond×Int×Int):Prop:=dB x.1<=n/\0<=x.2.1/\x.2.1+io x.1<=60/\0<=x.2.2/\x.2.2+dB x.1<=1000/\dB x.1<=60
abbrev YB(n:Nat):Spc:=aG (a3 Cond Int Int) (qtM n) (kZ (Y:=Int) (Z:=Int)) λx y=>y=(x.2.1+io x.1,x.2.2+dB x.1 -1)
abbrev OK:Spc:=aG (a3 Cond Int Int) (λx=>∃n,qtM n x) (kZ (Y:=Int) (Z:=Int)) λx y=>y=(x.2.1+io x.1,x.2.2+dB x.1 -1)
theorem De(n:Nat)(h1:S cR=YB n):ak mf lw S (a3 Cond Int Int) (qtM (n+1)) (kZ (Y:=Int) (Z:=Int)) λx y=>y=(x.2.1+io x.1,x.2.2+dB x.1 -1):=by
 rintro⟨x,nodes,deep⟩ ⟨hn,h0,h2,h3,h4,h5⟩;simp only at hn h0 h2 h3 h4 h5;have l:=JG x;have p:=BC x;simp[mf,lw];refine⟨by simp only[InR];omega,λq=>?_⟩;refine ah (X:=Int×Int) [2,17] [] x.kids.length (λk z=>z.1=nodes+1+ (fE (x.kids.take k):Int)/\z.2=deep+ (iV (x.kids.take k):Int)) (λz=>[(1,enc z.1),(8,enc z.2)]) (λ_=>[]) (nodes+1,deep) (by simp[fE,iV]) ?_ ?_
 ·rintro k ⟨m,d⟩ hk ⟨c,a⟩;simp only at c a;obtain⟨y,h⟩:=eK hk;obtain⟨_,j⟩:=qFB.1 h;have hm:=qf8 h;have r:=Lw (qFF h);have hp:qtM n (y,m,deep+1):=⟨by show dB y<=n;omega,by show 0<=m;omega,by show m+io y<=60;omega,by show 0<=deep+1;omega,by show deep+1+dB y<=1000;omega,by show dB y<=60;omega⟩
  have b:¬60<m:=by have:=BC y;omega
  simp[h1,hk,h,j,hp,b];exact⟨by simp only[InR];omega,by omega,by rw[hm.2.1,a];omega⟩
 ·rintro⟨m,d⟩ ⟨c,a⟩;simp only at c a;rw[qFT]at c a;simp;exact⟨by omega,by omega⟩
abbrev YD:Spc:=aG (a1 Cond) (λx=>io x<=60/\dB x<=60) (enc (X:=Bool)) λ_ y=>y=false
def HH(h1:S cR=OK):ak pk oz S (a1 Cond) (λx=>io x<=60/\dB x<=60) (enc (X:=Bool)) λ_ y=>y=false:=by
 rintro x ⟨hn,a⟩;have hp:∃n,qtM n (x,0,1):=⟨dB x,qFH _,qGD _,by show(0:Int) +io x<=60;omega,by show(0:Int)<=1;omega,by show(1:Int) +dB x<=1000;omega,a⟩
 simp[pk,oz,h1,hp,-fB',-eB'];omega
abbrev SC:Spc:=aG (a1 Cond) (λx=>qqX x=true) (enc (X:=Bool)) λ_ y=>y=true
set_option maxHeartbeats 1000000 in
theorem F7:ak bE bC S (a1 Cond) (λx=>qqX x=true) (enc (X:=Bool)) λ_ y=>y=true:=by
 rintro⟨op,name,arg,val,lab,fold,ks⟩ hx;have hx:qqX ⟨op,name,arg,val,lab,fold,ks⟩=true:=hx;unfold qqX at hx;simp only at hx;split at hx
 ·rename_i e;subst e;simp at hx;obtain⟨⟨rfl,rfl,rfl,rfl,rfl⟩,rfl⟩:=hx;simp[bE,bC,mq,-fB',-eB']
 split at hx
 ·rename_i e;subst e;simp at hx;obtain⟨⟨rfl,rfl⟩,rfl⟩:=hx;simp[bE,bC,mq,-fB',-eB']
 split at hx
 ·rename_i e;subst e;simp at hx;obtain⟨⟨rfl,rfl,rfl⟩,rfl⟩:=hx;simp[bE,bC,mq,-fB',-eB']
 split at hx
 ·rename_i e;subst e;simp at hx;obtain⟨⟨rfl,rfl⟩,rfl⟩:=hx;simp[bE,bC,mq,-fB',-eB']
 split at hx
 ·rename_i e;subst e;simp at hx;obtain⟨⟨rfl,rfl,hav⟩,rfl⟩:=hx;by_cases ha:arg=mq
  ·have hv:=hav.resolve_left λh=>h ha
   subst ha;subst hv;simp[bE,bC,mq,-fB',-eB']
  ·have ha':¬arg=⟨#[]⟩:=ha;simp[bE,bC,mq,ha',-fB',-eB']
 split at hx
 ·rename_i e;subst e;simp at hx;obtain⟨⟨rfl,rfl,rfl,rfl,rfl⟩,hk⟩:=hx;simp[bE,bC,mq,hk,-fB',-eB']
 split at hx
 ·rename_i e;simp at hx;obtain⟨⟨rfl,rfl,rfl,rfl,rfl⟩,hk1,hk2⟩:=hx;have q1:(2:Int)<=(ks.length:Int):=by omega
  have q2:(ks.length:Int)<=60:=by omega
  have q3:(ks.length:Int)<=9223372036854775807:=by omega
  rcases e with rfl|rfl<;>simp[bE,bC,mq,q1,q2,q3,-fB',-eB']
 ·cases hx
def D6{X:Type}(p:X->Bool):∀l:List X, -1<=fe l p/\fe l p<l.length
 | []=>⟨qGD _,by simp[fe]⟩
 | x::l=>by
   have:=D6 p l;rw[fe,qGi];split
   ·omega
   ·split<;>omega
open Classical in
noncomputable def aX{Z:Type}(v:Z->List D)(hi:∀z z',v z=v z'->z=z'):dP Z:=⟨λds=>if h:∃z,ds=v z then some h.choose else none,v,λds z h=>by
 split at h
 ·rename_i h';have e:h'.choose=z:=qFO h;rw[<-e,<-h'.choose_spec];exact⟨rfl,λk d d' h1 h2=>by rw[h1]at h2;cases h2;exact .same _⟩
 ·cases h⟩
open Classical in
def Hs{Z:Type}(v:Z->List D)(hi:∀z z',v z=v z'->z=z')(z:Z):(aX v hi).dec (v z)=some z:=by
 have h:∃z',v z=v z':=⟨z,rfl⟩
 show(if h:∃z',v z=v z' then some h.choose else none)=some z;rw[dif_pos h];exact congrArg some (hi _ _ h.choose_spec).symm
def Fg{Z:Type}(v:Z->List D)(hi:∀z a,v z=v a->z=a)(z:Z):(aX v hi).view z=v z:=rfl
def qfp(x:Attr×B):List D:=[enc x.1, .cptr [enc x.2] 0]
def XF(z b:Attr×B)(h:qfp z=qfp b):z=b:=by
 obtain⟨a,s⟩:=z;obtain⟨c,d⟩:=b;unfold qfp at h;simp only[qF8,D.cptr.injEq,and_true]at h;rw[aP h.1,aP h.2]
noncomputable abbrev qwj:dP (Attr×B):=aX qfp XF
noncomputable abbrev U2:Spc:=aG qwj (λ_=>True) (enc (X:=Bool)) λx y=>y=decide (x.1.nm=x.2)
def Ad:ak ig gW S qwj (λ_=>True) (enc (X:=Bool)) λx y=>y=decide (x.1.nm=x.2):=by
 rintro⟨a,s⟩ -;rw[Fg];simp[qfp,ig,gW,-fB',-eB']
abbrev EX:Spc:=aG (a2 (List Attr) B) (λ_=>True) (enc (X:=Int)) λx y=>y=mN x.1 x.2
def CP(h0:S0 ci=U2)(h1:S fB=YN Attr S0):ak jD jk S (a2 (List Attr) B) (λ_=>True) (enc (X:=Int)) λx y=>y=mN x.1 x.2:=by
 rintro⟨a,s⟩ -;have c:FunOn S0 (.clo ci [.cptr [enc s] 0]) a λx=>decide (x.nm=s):=
  wb (f:=λx=>(x,s)) h0 (λx _=>Hs qfp XF (x,s)) (λ_ _=>trivial) (λx _ y b=>b)
 simp[jD,jk,h1,-fB',-eB'];exact⟨⟨_,c⟩,λy b=>b _ c⟩
abbrev OL:Spc:=aG (a2 (List Attr) B) (λx=>x.1.length<=1000) (enc (X:=Int)) λx y=>y=BN x.1 x.2
def HI(h1:S bX=EX):ak jC jj S (a2 (List Attr) B) (λx=>x.1.length<=1000) (enc (X:=Int)) λx y=>y=BN x.1 x.2:=by
 rintro⟨a,s⟩ hl;have hl:a.length<=1000:=hl;have b:InR .i64 ((a.length:Int) -1):=by simp only[InR];omega
 have c:(a.length:Int)<=9223372036854775807:=by omega
 by_cases hs:s=mq
 ·subst hs;simp[jC,jj,mq,BN,b,c,-fB',-eB']
 ·have d:¬s=⟨#[]⟩:=hs;simp[jC,jj,mq,BN,h1,d,-fB',-eB']
def ya(t:List (List B))(i k:Int):B:=if i< 0\/k< 0 then mq else match t[i.toNat]? with
 |some r=>(match r[k.toNat]? with|some s=>s|none=>mq)
 |none=>mq
abbrev YI:Spc:=aG (a3 Corpus Int Int) (λx=>x.1.toks.length<=100000/\∀r∈x.1.toks,r.length<=100000) (enc (X:=B)) λx y=>y=ya x.1.toks x.2.1 x.2.2
theorem HK:ak cA cq S (a3 Corpus Int Int) (λx=>x.1.toks.length<=100000/\∀r∈x.1.toks,r.length<=100000) (enc (X:=B)) λx y=>y=ya x.1.toks x.2.1 x.2.2:=by
 rintro⟨c,i,k⟩ ⟨hl,p⟩;simp only at hl p;have a:(c.toks.length:Int)<=9223372036854775807:=by omega
 by_cases h0:i< 0
 ·simp[cA,cq,h0,ya,-fB',-eB'];rfl
 by_cases h1:(c.toks.length:Int)<=i
 ·have hn:c.toks[i.toNat]? =none:=qFV (by omega);by_cases h2:k< 0
  ·simp[cA,cq,h0,h1,h2,a,ya,-fB',-eB'];rfl
  ·simp[cA,cq,h0,h1,h2,a,hn,ya,-fB',-eB'];rfl
 by_cases h2:k< 0
 ·simp[cA,cq,h0,h1,h2,a,ya,-fB',-eB'];rfl
 obtain⟨r,b⟩:=eK (show i.toNat<c.toks.length by omega);obtain⟨_,h⟩:=qFB.1 b;have u:=p r (qFF b);have d:(r.length:Int)<=9223372036854775807:=by omega
 have q:0<=i:=by omega
 have t:i<(c.toks.length:Int):=by omega
 have w:0<=k:=by omega
 by_cases h3:(r.length:Int)<=k
 ·have hn:r[k.toNat]? =none:=qFV (by omega);simp[cA,cq,h0,h1,h2,h3,a,d,hn,b,h,q,t,ya,-fB',-eB'];rfl
 obtain⟨s,j⟩:=eK (show k.toNat<r.length by omega);obtain⟨_,l⟩:=qFB.1 j;have A:k<(r.length:Int):=by omega
 simp[cA,cq,h0,h1,h2,h3,a,d,b,h,j,l,q,t,w,A,ya,-fB',-eB']
abbrev qdm:Spc:=aG (a1 B) (λs=>KP s=true) (enc (X:=Bool)) λ_ y=>y=true
abbrev Kp:Spc:=aG (a1 B) (λs=>DZ s=true) (enc (X:=Int)) λ_ y=>y=0
abbrev s_sConB:Spc:=aG (a2 B B) (λx=>x.2=⟨#[124]⟩/\DZ x.1=true) (enc (X:=Bool)) λx y=>y=qo0 x.1
abbrev qiB:Spc:=aG (a1 B) (λs=>∃r,qw s=some r) (enc (X:=Int)) λ_ y=>y=0
def vw(l:List B)(s:B):Bool:=l.any λz=>decide (z=s)
abbrev qbR:Spc:=aG (a2 (List B) B) (λ_=>True) (enc (X:=Bool)) λx y=>y=vw x.1 x.2
abbrev OJ:Spc:=aG (a2 (List B) B) (λ_=>True) (enc (X:=Int)) λx y=>y=fe x.1 λz=>decide (z=x.2)
theorem NX:ak jt iY S (a2 (List B) B) (λ_=>True) (enc (X:=Int)) λx y=>y=fe x.1 λz=>decide (z=x.2):=by
 rintro⟨l,s⟩ -;simp[jt,iY,-fB',-eB'];intro _;refine ah (X:=Unit) [0,1] [] l.length (λk _=>∀x∈l.take k,decide (x=s)=false) (λ_=>[]) (λ_=>[]) () (by simp) ?_ ?_
 ·intro k _ hk a;obtain⟨x,b⟩:=eK hk;obtain⟨_,c⟩:=qFB.1 b;simp[hk,b,c,-fB',-eB'];refine⟨λh=>?_,λh=>?_⟩
  ·exact(tE b (by simp[h]) a).symm
  ·rw[av b];intro z hz;rcases qFG.1 hz with hz|hz
   ·have:=a z hz;simpa using this
   ·simp at hz;subst hz;exactλe=>h e.symm
 ·intro _ a;simp[-fB',-eB'];exact(jZ (by simpa using a)).symm
def HN(h1:S cY=OJ):ak cO cL S (a2 (List B) B) (λ_=>True) (enc (X:=Bool)) λx y=>y=vw x.1 x.2:=by
 rintro⟨l,s⟩ -;simp[cO,cL,h1,-fB',-eB'];exact vJ _ l
abbrev YA:Spc:=aG (a2 Cond (List Attr)) (λx=>qpK x.2 x.1=true/\x.2.length<=1000) (enc (X:=Bool)) λ_ y=>y=true
theorem HF(h1:S kU=OL)(h2:S bX=EX)(h3:S bO=qdm):ak cz cp S (a2 Cond (List Attr)) (λx=>qpK x.2 x.1=true/\x.2.length<=1000) (enc (X:=Bool)) λ_ y=>y=true:=by
 rintro⟨⟨op,name,arg,val,lab,fold,ks⟩,a⟩ ⟨b,hl⟩;have b:qpK a ⟨op,name,arg,val,lab,fold,ks⟩=true:=b;have hl:a.length<=1000:=hl;unfold qpK at b;simp only at b;split at b
 ·rename_i e;subst e;simp at b;simp[cz,cp,h1,hl,b,-fB',-eB']
 rename_i j;split at b
 ·rename_i e;subst e;simp at b;simp[cz,cp,h2,b,-fB',-eB']
 rename_i k;split at b
 ·rename_i e;subst e;simp at b;simp[cz,cp,h2,b.1,b.2,-fB',-eB']
 rename_i l;split at b
 ·rename_i e;subst e;simp at b;obtain⟨hn,p⟩:=b;by_cases c:arg=mq
  ·subst c;simp[cz,cp,h3,hn,mq,-fB',-eB']
  ·have h:=p.resolve_left c;have d:¬arg=⟨#[]⟩:=c;simp[cz,cp,h3,hn,h,d,-fB',-eB']
 rename_i q;simp[cz,cp,j,k,l,q,-fB',-eB']
abbrev YH:Spc:=aG (a3 Cond (List Attr) (List B)) (λx=>rV x.2.1 x.2.2 x.1=true/\x.2.1.length<=1000) (enc (X:=Int)) λ_ y=>y=0
theorem HJ(h1:S ra=SC)(h2:S rb=YA)(h3:S tL=qiB)(h4:S bX=EX)(h5:S wS=s_sConB)(h6:S cQ=Kp)(l:S bi=qbR):
 ak dr dn S (a3 Cond (List Attr) (List B)) (λx=>rV x.2.1 x.2.2 x.1=true/\x.2.1.length<=1000) (enc (X:=Int)) λ_ y=>y=0:=by
 rintro⟨x,a,lb⟩ ⟨c,hl⟩;have c:rV a lb x=true:=c;have hl:a.length<=1000:=hl;unfold rV at c;simp only[qFJ]at c;obtain⟨⟨hs,hn⟩,hc⟩:=c;obtain⟨op,name,arg,val,lab,fold,ks⟩:=x;unfold qzg at hc;simp only at hc;have e:(Cond.mk op name arg val lab fold ks)=⟨op,name,arg,val,lab,fold,ks⟩:=rfl;split at hc
 ·rename_i e;subst e;obtain⟨r,p⟩:=qGB.1 hc;simp[dr,dn,h1,h2,h3,hs,hn,hl,p,-fB',-eB']
 rename_i q;split at hc
 ·rename_i e;subst e;simp only[qFJ]at hc;obtain⟨⟨⟨c1,c2⟩,c3⟩,c4⟩:=hc;have d:0<=mN a name:=by simpa [qpK]using hn
  have h:=(D6 (λx:Attr=>decide (x.nm=name)) a).2;have j:mN a name<a.length:=h;obtain⟨b,hb⟩:=eK (show(mN a name).toNat<a.length by omega);obtain⟨_,k⟩:=qFB.1 hb;rw[hb]at c1;have c1:b.st=true:=c1;have c2:¬val=⟨#[]⟩:=of_decide_eq_true c2;have c3:qo0 val=false:=by simpa using c3
  simp[dr,dn,h1,h2,h4,h5,h6,hs,hn,hl,d,j,hb,k,c1,c2,c3,c4,-fB',-eB']
 rename_i s;split at hc
 ·rename_i e;subst e;have hc:vw lb lab=true:=hc;simp[dr,dn,h1,h2,l,hs,hn,hl,hc,-fB',-eB']
 rename_i t;split at hc
 ·rename_i e;subst e;simp[dr,dn,h1,h2,h6,hs,hn,hl,hc,-fB',-eB']
 rename_i u;simp[dr,dn,h1,h2,hs,hn,hl,q,s,t,u,-fB',-eB']
end
section
open Go.Proofs
def rF:CC:=oX [oB 2 (.mv (.const ob))] [0] [] (oX [oA 3 0,oB 4 (.cmp .geq (oT 3) (.const (.int .u8 65))),oA 5 4,oH 6 5 (.mv (oT 0)),oH 7 5 (.cmp .leq (oT 6) (.const (.int .u8 90))),oB 8 (.pick (oT 5) (oT 7) (.const ob)),oA 9 8,oI 10 9 (.mv (oT 0)),oI 11 9 (.cmp .geq (oT 10) (.const (.int .u8 97))),oI 12 9 (.mv (oT 11)),oH 13 12 (.mv (oT 0)),
 oH 14 12 (.cmp .leq (oT 13) (.const (.int .u8 122))),oI 15 9 (.pick (oT 12) (oT 14) (.const ob)),oB 16 (.pick (oT 9) (.const (.bool true)) (oT 15)),oA 17 16,oI 18 17 (.mv (oT 0)),oI 19 17 (.eql false false [.int] (oT 18) (.const (.int .u8 95))),oB 20 (.pick (oT 17) (.const (.bool true)) (oT 19)),oA 2 20] [2] [] (.ret))
def qj:List aj:=[.tmp 2]
def rE:CC:=oX [oB 2 (.mv (.const ob))] [0] [] (oX [oA 3 0,oZ 4 cE [oT 3],oA 5 4,oI 6 5 (.mv (oT 0)),oI 7 5 (.cmp .geq (oT 6) (.const (.int .u8 48))),oI 8 5 (.mv (oT 7)),oH 9 8 (.mv (oT 0)),oH 10 8 (.cmp .leq (oT 9) (.const (.int .u8 57))),oI 11 5 (.pick (oT 8) (oT 10) (.const ob)),oB 12 (.pick (oT 5) (.const (.bool true)) (oT 11)),oA 13 12,
 oI 14 13 (.mv (oT 0)),oI 15 13 (.eql false false [.int] (oT 14) (.const (.int .u8 45))),oB 16 (.pick (oT 13) (.const (.bool true)) (oT 15)),oA 2 16] [2] [] (.ret))
def qi:List aj:=[.tmp 2]
def lX:CC:=oX [oB 2 (.mv (.const ob))] [0] [] (.seq (oX [oA 4 0,oB 5 (.slen (oT 4)),oB 6 (.cmp .lss (oT 5) (oN 1)),oA 7 6,oI 8 7 (.mv (oT 0)),oI 9 7 (.slen (oT 8)),oI 10 7 (.cmp .gtr (oT 9) (oN 32)),oB 11 (.pick (oT 7) (.const (.bool true)) (oT 10)),oA 12 11,oI 13 12 (.mv (oT 0)),oI 14 12 (.sidx (oT 13) (oN 0)),oI 15 12 (.call cE [oT 14]),
 oI 16 12 (.not (oT 15)),oB 17 (.pick (oT 12) (.const (.bool true)) (oT 16))] [0,17] [] (.ite (oT 17) (oX [oB 2 (.mv (.const ob))] [2] [] (.ret)) (.skip))) (.keep [0] [] (.seq (oX [oA 18 0,oB 19 (.slen (oT 18)),oB 20 (.mv (oN 0))] [0,19,20] [] (gd 0 20 19 21 1 (oX [oA 22 20,oA 3 22] [0,3,19,20] [] (oX [oA 23 0,oA 24 3,oB 25 (.sidx (oT 23) (oT 24)),oZ 26 fD [oT 25],
 oB 27 (.not (oT 26))] [0,19,20,27] [] (.ite (oT 27) (oX [oB 2 (.mv (.const ob))] [2] [] (.ret)) (.skip)))) 28)) (.keep [] [] (oX [oB 2 (.mv (.const (.bool true)))] [2] [] (.ret))))))
def lp:List aj:=[.tmp 2]
def lW:CC:=gq Tryz.f183 [] {} _
def ln:List aj:=[.tmp 2]
def DR:FO cQ [] lW ln 24:=fo
def nw:CC:=gq Tryz.f196 [] {} _
def mV:List aj:=[.tmp 4]
def Fy:FO oQ [] nw mV 17:=fo
def xS:CC:=gq Tryz.f138 [] {} _
def wK:List aj:=[.tmp 4]
def Pt:FO zB [] xS wK 19:=fo
def cK:CC:=gq Tryz.f195 [] {} _
def cG:List aj:=[.tmp 2, .tmp 3]
def KN:FO uR [] cK cG 71:=fo
open Cod (enc dec)
variable {S S0:Nat->Spc}
def Wz(c:Int):Bool:=(decide (65<=c) && decide (c<=90))||(decide (97<=c) && decide (c<=122))||decide (c=95)
def qtp(c:Int):Bool:=Wz c||(decide (48<=c) && decide (c<=57))||decide (c=45)
abbrev qiI:Spc:=aG (a1 U8) (λ_=>True) (enc (X:=Bool)) λc y=>y=Wz c.val
def J1:ak rF qj S (a1 U8) (λ_=>True) (enc (X:=Bool)) λc y=>y=Wz c.val:=by
 rintro⟨c⟩ -;by_cases h1:(65:Int)<=c<;>by_cases h2:c<=90<;>by_cases h3:(97:Int)<=c<;>by_cases h4:c<=122<;>by_cases h5:c=95<;>
  simp[rF,qj,Wz,h1,h2,h3,h4,h5,-fB',-eB']
abbrev Sz:Spc:=aG (a1 U8) (λ_=>True) (enc (X:=Bool)) λc y=>y=qtp c.val
def J0(h0:S cE=qiI):ak rE qi S (a1 U8) (λ_=>True) (enc (X:=Bool)) λc y=>y=qtp c.val:=by
 rintro⟨c⟩ -;cases hb:Wz c<;>by_cases h1:(48:Int)<=c<;>by_cases h2:c<=57<;>by_cases h3:c=45<;>
  simp[rE,qi,qtp,h0,hb,h1,h2,h3,-fB',-eB']
def qlx(c:UInt8):qeI c=Wz (c.toNat:Int):=by
 unfold qeI Wz;rw[qGb];simp;omega
def qvg(c:UInt8):qBO c=qtp (c.toNat:Int):=by
 unfold qBO qtp;rw[qlx];cases Wz (c.toNat:Int)
 ·rw[qGb];simp;omega
 ·simp
theorem Fn(h1:S cE=qiI)(h2:S fD=Sz):ak lX lp S (a1 B) (λs=>KP s=true) (enc (X:=Bool)) λ_ y=>y=true:=by
 rintro s hs;have hs:KP s=true:=hs;unfold KP at hs;simp only[qFJ,decide_eq_true_eq]at hs;obtain⟨⟨⟨w,x⟩,j⟩,q⟩:=hs;simp[lX,lp,h1,h2,-fB',-eB'];have r:(1:Int)<=(s.size:Int):=by omega
 have t:(s.size:Int)<=32:=by omega
 have A:(s.size:Int)<=9223372036854775807:=by omega
 have hsl:s.data.toList.length=s.size:=qGm;refineλ_=>⟨λ_ _=>⟨λ_=>⟨by omega,λc hc=>?_⟩,t⟩,r⟩
 have a:s.data.toList[0]? =some c:=by rw[qFZ];exact hc
 have hb:Wz (c.toNat:Int)=true:=by
  rw[<-qlx];cases hl:s.data.toList with
  |nil=>rw[hl]at a;cases a
  | cons d l=>
    rw[hl]at a j;cases a;exact j
 refine⟨hb,λ_ _=>?_⟩;refine ah (X:=Unit) [0] [] s.size (λ_ _=>True) (λ_=>[]) (λ_=>[]) () trivial ?_ ?_
 ·rintro k -hk -;obtain⟨d,p⟩:=eK (show k<s.data.toList.length by omega);have u:qtp (d.toNat:Int)=true:=by rw[<-qvg];exact qFI.1 q d (qFF p)
  have b:s.data[k]? =some d:=by rw[<-qFZ];exact p
  obtain⟨_,h⟩:=qFN.1 b;simp[hk,b,h,u,h2,-fB',-eB']
 ·rintro - -;simp[-fB',-eB']
theorem Fm(h1:S rf=s_cpVal):ak lW ln S (a1 B) (λs=>DZ s=true) (enc (X:=Int)) λ_ y=>y=0:=by
 rintro s hs;have hs:DZ s=true:=hs;unfold DZ at hs;simp only[qFJ,decide_eq_true_eq]at hs;obtain⟨C,l⟩:=hs;have q:Cq s=true:=by
  unfold Cq;refine qFI.2 λc hc=>?_
  have:=qFI.1 l c hc;simp at this;simp;omega
 have r:(s.size:Int)<=120:=by omega
 have t:(s.size:Int)<=9223372036854775807:=by omega
 have u:s.size<=1000:=by omega
 have w:¬(120:Int)<(s.size:Int):=by omega
 simp[lW,ln,h1,q,r,t,u,w,-fB',-eB'];intro b;refine au (X:=Nat) [] [] (λp=>p<=s.size) (λp=>[(14, .bptr 14 b 0)]) (λp=>[(14, .iter b s p)]) (λp=>s.size -p) 0 (qFY _) ?_;rintro p hp;by_cases a:p<s.size
 ·obtain⟨c,hc,h,d⟩:=TL q a;have j:=qFI.1 l c (qFF hc);simp at j;have x:¬(c.toNat:Int)<=31:=by omega
  have A:¬(c.toNat:Int)=127:=by omega
  simp[a,d,x,A,-fB',-eB'];exact⟨p+1,by omega, .inl rfl,by omega⟩
 ·have k:p=s.size:=by omega
  subst k;simp[-fB',-eB']
def qpj(x:Cond×List Attr×List B):List D:=[enc x.1, .cptr [enc x.2.1] 0, .cptr [enc x.2.2] 0]
def qdd(z b:Cond×List Attr×List B)(h:qpj z=qpj b):z=b:=by
 obtain⟨a,s,l⟩:=z;obtain⟨c,d,l'⟩:=b;unfold qpj at h;simp only[qF8,D.cptr.injEq,and_true]at h;rw[aP h.1,aP h.2.1,aP h.2.2]
noncomputable abbrev aVd:dP (Cond×List Attr×List B):=aX qpj qdd
@[simp] theorem qwT(x:Cond)(a:List Attr)(lb:List B):aVd.dec [.agg [.v (.int .i64 x.op), .v (.string x.name), .v (.string x.arg), .v (.string x.val), .v (.string x.lab), .v (.bool x.fold), .list 7 (x.kids.map enc)], .cptr [.list 2 (a.map enc)] 0, .cptr [.list 1 (lb.map enc)] 0]=some (x,a,lb):=by
 have h:=Hs qpj qdd (x,a,lb);have e:qpj (x,a,lb)=[.agg [.v (.int .i64 x.op), .v (.string x.name), .v (.string x.arg), .v (.string x.val), .v (.string x.lab), .v (.bool x.fold), .list 7 (x.kids.map enc)], .cptr [.list 2 (a.map enc)] 0, .cptr [.list 1 (lb.map enc)] 0]:=by simp[qpj]
 rw[<-e];exact h
noncomputable abbrev qdI:Spc:=aG aVd (λx=>rV x.2.1 x.2.2 x.1=true/\x.2.1.length<=1000) (enc (X:=Int)) λ_ y=>y=0
def AU(h1:S rc=YH):ak iP iC S aVd (λx=>rV x.2.1 x.2.2 x.1=true/\x.2.1.length<=1000) (enc (X:=Int)) λ_ y=>y=0:=by
 rintro⟨x,a,lb⟩ ⟨b,hl⟩;simp only at b hl;rw[Fg];simp[qpj,iP,iC,h1,b,hl,-fB',-eB']
def qwp(n:Nat)(x:Cond×D×Unit):Prop:=∃(a:List Attr) (lb:List B),x.2.1= .clo cJ [.cptr [enc a] 0, .cptr [enc lb] 0]/\tX a lb n x.1=true/\a.length<=1000/\io x.1<=60
noncomputable abbrev Yx(n:Nat):Spc:=aG (aE Cond (aD a0)) (qwp n) (enc (X:=Int)) λx y=>y=0
noncomputable abbrev Yw:Spc:=aG (aE Cond (aD a0)) (λx=>∃n,qwp n x) (enc (X:=Int)) λx y=>y=0
theorem HE(n:Nat)(h1:S cJ=qdI)(h2:S iH=Yx n):ak rN qt S (aE Cond (aD a0)) (qwp (n+1)) (enc (X:=Int)) λx y=>y=0:=by
 rintro⟨x,d,⟨⟩⟩ ⟨a,lb,p,b,hl,hn⟩;simp only at p b hn;subst p;simp only[tX,qFJ]at b;obtain⟨c,h⟩:=b;simp[rN,qt,h1,c,hl,-fB',-eB'];intro q;refine ah (X:=Unit) [1,16] [] x.kids.length (λk _=>True) (λ_=>[]) (λ_=>[]) () (by simp) ?_ ?_
 ·rintro k -hk -;obtain⟨y,j⟩:=eK hk;obtain⟨_,l⟩:=qFB.1 j;have hm:=qFF j;have r:=KS hm;have s:=BC x;have hp:qwp n (y, .clo cJ [.cptr [.list 2 (a.map enc)] 0, .cptr [.list 1 (lb.map enc)] 0],()):=⟨a,lb,rfl,qFI.1 h y hm,hl,by show io y<=60;omega⟩
  simp[h2,hk,j,l,hp,-fB',-eB']
 ·rintro - -;simp[-fB',-eB']
abbrev WR(x:Cond×List Attr×List B):Prop:=qms x.2.1 x.2.2 x.1=true/\x.2.1.length<=1000
abbrev U1:Spc:=aG (a3 Cond (List Attr) (List B)) WR (enc (X:=Int)) λ_ y=>y=0
def Df(h1:S cR=OK)(h2:S iH=Yw):ak kL kw S (a3 Cond (List Attr) (List B)) WR (enc (X:=Int)) λ_ y=>y=0:=by
 rintro⟨x,a,lb⟩ ⟨b,hl⟩;simp only at b hl;unfold qms at b;simp at b;obtain⟨⟨hn,k⟩,c⟩:=b;have hp:∃n,qtM n (x,0,1):=⟨dB x,qFH _,qGD _,by show(0:Int) +io x<=60;omega,by show(0:Int)<=1;omega,by show(1:Int) +dB x<=1000;omega,by show dB x<=60;omega⟩
 have d:∃n,qwp n (x, .clo cJ [.cptr [.list 2 (a.map enc)] 0, .cptr [.list 1 (lb.map enc)] 0],()):=⟨20,a,lb,rfl,c,hl,hn⟩
 have h:¬(60:Int)<(io x:Int):=by omega
 have j:¬(20:Int)< 1+ (dB x:Int) -1:=by omega
 simp[kL,kw,h1,h2,hp,d,h,j,-fB',-eB']
def qj7(l:List Pair)(s:Pair):Bool:=l.any λz=>decide (z=s)
abbrev qdy:Spc:=aG (a2 (List Pair) Pair) (λ_=>True) (enc (X:=Int)) λx y=>y=fe x.1 λz=>decide (z=x.2)
abbrev qdD:Spc:=aG (a2 (List Pair) Pair) (λ_=>True) (enc (X:=Bool)) λx y=>y=qj7 x.1 x.2
theorem Uw:ak lS li S (a2 (List Pair) Pair) (λ_=>True) (enc (X:=Int)) λx y=>y=fe x.1 λz=>decide (z=x.2):=by
 rintro⟨l,s⟩ -;simp[lS,li,-fB',-eB'];intro _;refine ah (X:=Unit) [0,3] [] l.length (λk _=>∀x∈l.take k,decide (x=s)=false) (λ_=>[]) (λ_=>[]) () (by simp) ?_ ?_
 ·intro k _ hk c;obtain⟨x,d⟩:=eK hk;obtain⟨_,j⟩:=qFB.1 d;simp[hk,d,j,-fB',-eB'];have p:s.nm=x.nm->s.vl=x.vl->x=s:=λh1 h2=>by
   obtain⟨a,b⟩:=x;obtain⟨q,b'⟩:=s;simp only at h1 h2;rw[h1,h2]
  refine⟨λh1 h2=>(tE d (by simp[p h1 h2]) c).symm,λh=>?_⟩;rw[av d];intro z hz;rcases qFG.1 hz with hz|hz
  ·have:=c z hz;simpa using this
  ·simp at hz;subst hz;intro e;subst e;exact h rfl rfl
 ·intro _ c;simp[-fB',-eB'];exact(jZ (by simpa using c)).symm
def Mz(h1:S nf=qdy):ak iJ iw S (a2 (List Pair) Pair) (λ_=>True) (enc (X:=Bool)) λx y=>y=qj7 x.1 x.2:=by
 rintro⟨l,s⟩ -;simp[iJ,iw,h1,-fB',-eB'];exact vJ _ l
def OU(x:Cond)(tok:Int)(r:Region):Bool:=decide (r.ty=x.name) && decide (r.b<=tok) && decide (tok<r.e) && (decide (x.arg=mq)||qj7 r.kv ⟨x.arg,x.val⟩)
def qhh(x:Cond):List D:=[.v (.int .i64 x.op), .v (.string x.name), .v (.string x.arg), .v (.string x.val), .v (.string x.lab), .v (.bool x.fold), .list 7 (x.kids.map enc)]
def qeE(x:Cond): .agg (qhh x)=enc x:=by simp[qhh]
def qoP{x y:Cond}(h:qhh x=qhh y):x=y:=aP (by rw[<-qeE,<-qeE,h])
def qmp(x:Region×Cond×Int):List D:=[enc x.1, .cptr (qhh x.2.1) 0, .cptr [enc x.2.2] 0]
def qde(z b:Region×Cond×Int)(h:qmp z=qmp b):z=b:=by
 obtain⟨a,s,l⟩:=z;obtain⟨c,d,l'⟩:=b;unfold qmp at h;simp only[qF8,D.cptr.injEq,and_true]at h;rw[aP h.1,qoP h.2.1,aP h.2.2]
noncomputable abbrev qEQ:dP (Region×Cond×Int):=aX qmp qde
noncomputable abbrev Is:Spc:=aG qEQ (λ_=>True) (enc (X:=Bool)) λx y=>y=OU x.2.1 x.2.2 x.1
def Dd(h1:S jn=qdD):ak bZ bW S qEQ (λ_=>True) (enc (X:=Bool)) λx y=>y=OU x.2.1 x.2.2 x.1:=by
 rintro⟨r,x,tok⟩ -;rw[Fg];by_cases c:r.ty=x.name
 rotate_left
 ·simp[qmp,qhh,bZ,bW,OU,c,-fB',-eB']
 by_cases d:r.b<=tok
 rotate_left
 ·simp[qmp,qhh,bZ,bW,OU,c,d,-fB',-eB']
 by_cases j:tok<r.e
 rotate_left
 ·simp[qmp,qhh,bZ,bW,OU,c,d,j,-fB',-eB']
 by_cases h:x.arg=mq
 ·have a:x.arg=⟨#[]⟩:=h;simp[qmp,qhh,bZ,bW,OU,c,d,j,h,a,mq,-fB',-eB']
 ·have a:¬x.arg=⟨#[]⟩:=h;simp[qmp,qhh,bZ,bW,OU,h1,c,d,j,h,a,-fB',-eB']
abbrev qiD:Spc:=aG (a3 Corpus Cond Int) (λ_=>True) (enc (X:=Bool)) λx y=>y=x.1.regs.any (OU x.2.1 x.2.2)
def F8(h0:S0 cw=Is)(h1:S bQ=YO Region S0):ak nz mX S (a3 Corpus Cond Int) (λ_=>True) (enc (X:=Bool)) λx y=>y=x.1.regs.any (OU x.2.1 x.2.2):=by
 rintro⟨c,x,tok⟩ -;have a:FunOn S0 (.clo cw [.cptr (qhh x) 0, .cptr [enc tok] 0]) c.regs (OU x tok):=
  wb (f:=λr=>(r,x,tok)) h0 (λr _=>Hs qmp qde (r,x,tok)) (λ_ _=>trivial) (λr _ y b=>b)
 unfold qhh at a;simp[nz,mX,h1,-fB',-eB'];exact⟨⟨_,a⟩,λy b=>b _ a⟩
mutual
def sa:Cond->Bool| .mk op _ _ _ _ _ ks=>decide (op=4)||Ym ks
def Ym:List Cond->Bool|[]=>false|k::ks=>sa k||Ym ks
end
def So:∀l:List Cond,Ym l=l.any sa
 | []=>by rw[Ym];rfl
 |k::l=>by rw[Ym,So l];rfl
def Nn(x:Cond):sa x=(decide (x.op=4)||x.kids.any sa):=by cases x;rw[sa,So]
abbrev Ir(n:Nat):Spc:=aG (a1 Cond) (λx=>dB x<=n) (enc (X:=Bool)) λx y=>y=sa x
def J7(n:Nat)(h0:S0 bJ=Ir n)(h1:S bI=YO Cond S0):ak kW kO S (a1 Cond) (λx=>dB x<=n+1) (enc (X:=Bool)) λx y=>y=sa x:=by
 rintro x c;have c:dB x<=n+1:=c;have d:FunOn S0 (.clo bJ []) x.kids sa:=
  wb (f:=λk=>k) h0 (λk _=>by rw[qsC,Cod.dec_enc]) (λk hk=>by have:=Qw hk;show dB k<=n;omega) (λr _ y b=>b)
 have a:=Nn x;by_cases e:x.op=4
 ·simp[kW,kO,h1,a,e,-fB',-eB']
 ·simp[kW,kO,h1,a,e,-fB',-eB'];exact⟨⟨_,d⟩,λy b=>b _ d⟩
end
section
open Cod (enc dec)
variable {dq:Prop}
@[simp] theorem qB9(s:Rp):Rp.mk s.s s.pos s.fault s.e=s:=by cases s;rfl
def uT(s:Rp):List D:=[enc s.s,enc s.pos,enc s.fault,enc s.e]
@[simp] theorem qzi(s:Rp):uT s=[enc s.s,enc s.pos,enc s.fault,enc s.e]:=i' rfl
section
variable {Y Z:Type}
def qq3:Ni Rp:=Ng uT
def qAu(A:dP Z)(er:Y->D)(pre:Rp->Z->Prop)(post:Rp->Z->Rp->Y->Prop):Spc:=qsv qq3 A er pre post
def qDL(er:Y->D)(pre:Rp->Z->Prop)(post:Rp->Z->Rp->Y->Prop)(id b:Nat)(r:Option Res)(o:Option Z)(H:ab)(K:D->ab->Prop):Prop:=
 ∃x,r=some (.box b (uT x))/\eL o λz=>pre x z/\∀a y,post x z a y->K (er y) (ai H id (some (.box b (uT a))))
def qlo{x y:Rp}(h:uT x=uT y):x=y:=by
 obtain⟨l,a,d,e⟩:=x;obtain⟨l',b,c,j⟩:=y;simp only[uT,qF8]at h;obtain⟨h1,h2,h3,h4,_⟩:=h;have h1:=aP h1;have h2:=aP h2;have h3:=aP h3;have h4:=aP h4;subst h1;subst h2;subst h3;subst h4;rfl
@[simp] theorem qq2(A:dP Z)(er:Y->D)(pre:Rp->Z->Prop)(post:Rp->Z->Rp->Y->Prop)(d i b:Nat)(ds:List D)(H:ab)(K:D->ab->Prop):(qAu A er pre post).pt d (.bptr i b 0::ds) H K=qDL er pre post i b (H i) (A.dec ds) H K:=by
 refine propext ⟨λh=>?_,λh=>?_⟩
 ·obtain⟨id,b',x,z,a,h1,h2,h3,h4,h5,h6,c⟩:=h;cases h1;refine⟨x,h3,?_⟩;rw[h2];exact⟨h6,c⟩
 ·obtain⟨x,h1,h2⟩:=h;cases hz:A.dec ds with
  |none=>rw[hz]at h2;exact h2.elim
  |some z=>rw[hz]at h2;exact⟨i,b,x,z,ds,rfl,hz,h1,λp hp=>by simp[qq3,Ng]at hp,by simp[qq3,Ng],h2.1,h2.2⟩
def JL(er:Y->D)(b:Nat)(post:Rp->Y->Prop)(r:D)(H:ab):Prop:=Mi qq3 er b post r H
def Jm{er:Y->D}{b:Nat}{post:Rp->Y->Prop}{r:D}{H:ab}(x:Rp)(y:Y)(a:FrzTo (λi=>if i=0 then none else H i) r (er y))(h0:H 0=some (.box b (uT x)))(c:post x y):JL er b post r H:=
 ⟨x,y,by simpa [qq3,Ng]using a,h0,λp hp=>by simp[qq3,Ng]at hp,c⟩
def xW(cc:CC)(rs:List aj)(S:Nat->Spc)(A:dP Z)(er:Y->D)(pre:Rp->Z->Prop)(post:Rp->Z->Rp->Y->Prop):Prop:=
 ∀b x z,pre x z->vc S cc (vE rs λr H'=>JL er b (post x z) r H') (dR (.bptr 0 b 0::A.view z)) (ai bS 0 (some (.box b (uT x))))
variable {P:Program}{S:Nat->Spc}{f:Nat}{im:List Nat}{cc:CC}{rs:List aj}{N:Nat}
def qbu{A:dP Z}{er:Y->D}{pre:Rp->Z->Prop}{post:Rp->Z->Rp->Y->Prop}(a:∀f,Tri dq P f (S f).pt)(h:zY P f im cc rs N)(c:∀z,(A.view z).length+1<=N)(d:xW cc rs S A er pre post):Tri dq P f (qAu A er pre post).pt:=
 wl (by simp[qq3,Ng]) a h c λb x z hp=>d b x z hp
end
section
variable {Y Z:Type}
def qhe(A:dP Z)(er:Y->D)(F:Rp->Z->Option (Rp×Y)):Spc:=qAu A er (λs z=>∃r,F s z=some r) (λs z a y=>F s z=some (a,y))
def qiS(er:Y->D)(F:Rp->Z->Option (Rp×Y))(id b:Nat)(r:Option Res)(o:Option Z)(H:ab)(K:D->ab->Prop):Prop:=
 ∃x,r=some (.box b (uT x))/\eL o λz=>eL (F x z) λq=>K (er q.2) (ai H id (some (.box b (uT q.1))))
@[congr] theorem qxe{er:Y->D}{F:Rp->Z->Option (Rp×Y)}{id b:Nat}{r r':Option Res}{o a:Option Z}{H:ab}{K:D->ab->Prop}(h1:r=r')(h2:o=a):qiS er F id b r o H K=qiS er F id b r' a H K:=by subst h1;subst h2;rfl
def qrn{F:Option (Rp×Y)}{k:Rp->Y->Prop} :((∃r,F=some r)/\∀a y,F=some (a,y)->k a y)=eL F λq=>k q.1 q.2:=by
 cases F with
 | none=>
   refine propext (Iff.intro (λh=>?_) (λh=>?_))
   ·obtain⟨⟨r,h⟩,_⟩:=h;cases h
   ·exact False.elim h
 | some r=>
   refine propext (Iff.intro (λh=>h.2 _ _ rfl) (λh=>⟨⟨_,rfl⟩,λa y e=>?_⟩));cases e;exact h
@[simp] theorem qAs(A:dP Z)(er:Y->D)(F:Rp->Z->Option (Rp×Y))(d i b:Nat)(ds:List D)(H:ab)(K:D->ab->Prop):(qhe A er F).pt d (.bptr i b 0::ds) H K=qiS er F i b (H i) (A.dec ds) H K:=by
 unfold qhe qiS;rw[qq2];unfold qDL;refine propext (exists_congr λx=>and_congr_right λ_=>?_);cases A.dec ds with
 |none=>exact qGZ
 |some z=>exact iff_of_eq qrn
@[simp] theorem qAt(er:Y->D)(F:Rp->Z->Option (Rp×Y))(id b:Nat)(l:B)(p a e:Int)(o:Option Z)(H:ab)(K:D->ab->Prop):
 qiS er F id b (some (.box b [.v (.string l), .v (.int .i64 p), .v (.int .i64 a), .v (.int .i64 e)])) o H K=eL o λz=>eL (F ⟨l,p,a,e⟩ z) λq=>K (er q.2) (ai H id (some (.box b (uT q.1)))):=by
 refine propext ⟨λ⟨x,h1,h2⟩=>?_,λh=>⟨⟨l,p,a,e⟩,rfl,h⟩⟩;have c:uT ⟨l,p,a,e⟩=uT x:=by
  have:=qFO h1;exact(Res.box.inj this).2
 have:=qlo c;subst this;exact h2
variable {P:Program}{S:Nat->Spc}{f:Nat}{im:List Nat}{cc:CC}{rs:List aj}{N:Nat}
def gy{A:dP Z}{er:Y->D}{F:Rp->Z->Option (Rp×Y)}(a:∀f,Tri dq P f (S f).pt)(h:zY P f im cc rs N)(b:∀z,(A.view z).length+1<=N)
 (c:xW cc rs S A er (λs z=>∃r,F s z=some r) (λs z d y=>F s z=some (d,y))):Tri dq P f (qhe A er F).pt:=qbu a h b c
end
end
section
open Go.Proofs
def gN:CC:=gq Tryz.f286 [] { ke:=[0] } _
def gB:List aj:=[.tmp 2]
def DM:FO bG [] gN gB 29:=fo
def lU:CC:=gq Tryz.f333 [] { bx:=[0] } _
def ll:List aj:=[]
def DL:FO ng [] lU ll 25:=fo
def gl:CC:=gq Tryz.f325 [] { bx:=[0] } _
def gh:List aj:=[.tmp 4, .tmp 5]
def yd:FO eM [] gl gh 37:=fo
def jx:CC:=gq Tryz.f329 [] { bx:=[0] } _
def jd:List aj:=[.tmp 2, .tmp 3]
def Bv:FO kC [] jx jd 27:=fo
def B1:CC:=gq Tryz.f322 [] {} _
def A1:List aj:=[.cell 4 true 5]
def Vh:FO D9 [] B1 A1 10:=fo
def fb:CC:=gq Tryz.f314 [2002002] { bx:=[0] } _
def eT:List aj:=[.cell 2 true 5, .tmp 3]
def DN:FO nh [2002002] fb eT 72:=fo
def kI:CC:=gq Tryz.f323 [] { ke:=[0] } _
def ko:List aj:=[.cell 2 true 5, .tmp 3]
def CW:FO lK [] kI ko 108:=fo
def jw:CC:=gq Tryz.f305 [] { bx:=[0] } _
def jc:List aj:=[.cell 2 true 5, .tmp 3]
def Bu:FO kB [] jw jc 54:=fo
def jy:CC:=gq Tryz.f285 [] { ke:=[0] } _
def je:List aj:=[.cell 2 true 5, .tmp 3]
def Bw:FO kD [] jy je 49:=fo
def kH:CC:=gq Tryz.f253 [] { ke:=[0] } _
def km:List aj:=[.cell 2 true 5, .tmp 3]
def CV:FO lJ [] kH km 44:=fo
open Cod (enc dec)
variable {S S0:Nat->Spc}
abbrev s_decR:Spc:=aG (a1 B) (λs=>∃c,s.data[0]? =some c/\c.toNat< 128) (kZ (Y:=I32) (Z:=Int)) λs y=>∀c,s.data[0]? =some c->y=(⟨c.toNat⟩,1)
abbrev s_crune:Spc:=aG (a2 B I32) (λx=>0<=x.2.val/\x.2.val< 128) (enc (X:=Bool)) λx y=>y=qob x.1 x.2.val
def EN{p:Rp}{c:Int}(h:Qx p=some c):p.s.size<=200/\((p.pos=p.s.size/\c= -1)\/(0<=p.pos/\p.pos<p.s.size/\p.pos≠p.s.size/\∃x:UInt8,p.s.data[p.pos.toNat]? =some x/\x.toNat< 128/\c=x.toNat)):=by
 unfold Qx at h;split at h
 ·cases h
 rename_i j;refine⟨by omega,?_⟩;split at h
 ·exact .inl ⟨by assumption,(qFO h).symm⟩
 ·rename_i a;split at h
  ·rename_i h0;split at h
   ·rename_i x d;split at h
    ·rename_i b;have k:=(qFN.1 d).1;refine .inr ⟨h0,?_,a,x,d,b,(qFO h).symm⟩;show p.pos<(p.s.data.size:Int);omega
    ·cases h
   ·cases h
  ·cases h
def qEo{s:B}{k:Nat}{x:UInt8}(h:s.data[k]? =some x):(s.extract k s.size).data[0]? =some x:=by
 obtain⟨h1,h2⟩:=qFN.1 h;rw[ByteArray.data_extract,qHD];have:0<min s.size s.data.size -k:=by
  have:s.size=s.data.size:=rfl;omega
 rw[if_pos this,qGN];exact h
abbrev ym:Spc:=qhe a0 (enc (X:=I32)) mM
theorem TY(h1:S dE=s_decR):xW gN gB S a0 (enc (X:=I32)) (λs z=>∃r,mM s z=some r) (λs z d y=>mM s z=some (d,y)):=by
 rintro b s ⟨⟩ ⟨r,q⟩;obtain⟨c,hc,_⟩:=qFM.1 q;have fin:∀{H:ab},H 0=some (.box b (uT s))->JL (enc (X:=I32)) b (λd y=>mM s ()=some (d,y)) (.v (.int .i32 c)) H:=λh0=>Jm s ⟨c⟩ (.same _) h0 (by simp[mM,hc])
 obtain⟨t,j⟩:=EN hc;rcases j with⟨l,rfl⟩|⟨h0,h2,h3,x,u,k,rfl⟩
 ·simp[gN,gB,l,-fB',-eB'];exactλ_=>fin (by simp[l])
 ·have p:(s.s.data.extract s.pos.toNat s.s.size)[0]? =some x:=by rw[<-ByteArray.data_extract];exact qEo u
  simp[gN,gB,h1,h0,h2,h3,-fB',-eB'];refineλ_=>⟨by omega,⟨x,p,k⟩,λa b1 h=>?_⟩
  obtain⟨rfl,rfl⟩:=h x p;exact fin (by simp)
abbrev qdk:Spc:=qhe a0 Wg Sk
theorem TX(h1:S dE=s_decR):xW lU ll S a0 Wg (λs z=>∃r,Sk s z=some r) (λs z d y=>Sk s z=some (d,y)):=by
 rintro b s ⟨⟩ ⟨r,q⟩;obtain⟨c,hc,h⟩:=qFA.1 q;split at h
 ·rename_i j;have fin:∀{H:ab},H 0=some (.box b (uT s.bump))->JL Wg b (λd y=>Sk s ()=some (d,y)) (.tup []) H:=λh0=>Jm s.bump () (.same _) h0 (by simp[Sk,hc,j])
  obtain⟨t,k⟩:=EN hc;rcases k with⟨w,rfl⟩|⟨h0,h2,h3,x,u,l,rfl⟩
  ·omega
  ·have p:(s.s.data.extract s.pos.toNat s.s.size)[0]? =some x:=by rw[<-ByteArray.data_extract];exact qEo u
   simp[lU,ll,h1,h0,h2,h3,-fB',-eB'];refine⟨by omega,⟨x,p,l⟩,λa b1 h=>?_⟩;obtain⟨rfl,rfl⟩:=h x p;exact⟨by simp only[InR];omega,fin (by simp[Rp.bump])⟩
 ·cases h
abbrev qou:(I32×Bool)->D:=kZ (Y:=I32) (Z:=Bool)
abbrev UT:Spc:=qhe (a1 B) qou FW
def Hz(h1:S bG=ym)(h2:S ng=qdk):xW gl gh S (a1 B) qou (λs z=>∃r,FW s z=some r) (λs z a y=>FW s z=some (a,y)):=by
 rintro b s l ⟨r,d⟩;obtain⟨c,hc,h⟩:=qFA.1 d;split at h
 ·cases h
 ·rename_i hn;have j:0<=c:=by omega
  have k:c≠92:=λe=>hn (.inr e)
  simp[gl,gh,h1,h2,mM,Sk,hc,j,k,-fB',-eB'];exact Jm s.bump (⟨c⟩,true) (.same _) (by simp) (by simp[FW,hc,hn])
abbrev qib:Spc:=qhe a0 qou Zh
theorem NK(h1:S bG=ym)(h2:S jm=s_crune)(h3:S eM=UT):xW jx jd S a0 qou (λs z=>∃r,Zh s z=some r) (λs z d y=>Zh s z=some (d,y)):=by
 rintro b s ⟨⟩ ⟨r,k⟩;obtain⟨c,hc,h⟩:=qFA.1 k;split at h
 ·cases h
 ·rename_i hn;have l:¬c< 0:=λe=>hn (.inl e)
  have p:qob qeC c=false:=by
   cases e:qob qeC c with
   |false=>rfl
   |true=>exact absurd (.inr e) hn
  have j:=EN hc;have a:c< 128:=by
   rcases j.2 with⟨_,rfl⟩|⟨_,_,_,x,_,q,rfl⟩ <;>omega
  have t:qob ⟨#[92,91,93,94,45]⟩ c=false:=p;have h4:FW s ⟨#[92,91,93,94,45]⟩=some r:=h;simp[jx,jd,h1,h2,h3,mM,hc,l,t,h4,a,-fB',-eB'];obtain⟨d,⟨c'⟩,t'⟩:=r;intro u;refine⟨λ_=>⟨u,Jm d (⟨c'⟩,t') (.same _) (by simp) (by simp[Zh,hc,hn,h])⟩,λ_=>Jm d (⟨c'⟩,t') (.same _) (by simp) (by simp[Zh,hc,hn,h])⟩
def VX{H:ab}{op mn mx:Int}{b d:D}(rs:List Rng)(ks:List Rx)(h3:FrzTo H b (enc rs))(h4:FrzTo H d (enc ks)):FrzTo H (.agg [.v (.int .i64 op), .v (.int .i64 mn), .v (.int .i64 mx),b,d]) (enc (Rx.mk op mn mx rs ks)):=by
 rw[qkG];refine .agg rfl λk c c' hc a=>?_
 match k with
 | 0=>cases hc;cases a;exact .same _
 | 1=>cases hc;cases a;exact .same _
 | 2=>cases hc;cases a;exact .same _
 | 3=>cases hc;cases a;exact h3
 | 4=>cases hc;cases a;exact h4
 |k+5=>simp at hc
abbrev qia:Spc:=aG (a2 I32 I32) (λ_=>True) (enc (X:=Rx)) λx y=>y=qh4 x.1.val x.2.val
def Xf:ak B1 A1 S (a2 I32 I32) (λ_=>True) (enc (X:=Rx)) λx y=>y=qh4 x.1.val x.2.val:=by
 rintro⟨x,y⟩ -;simp[B1,A1,qh4];exactλb=>aL (Y:=Rx) ⟨1,0,0, [⟨x,y⟩], []⟩ (VX [⟨x,y⟩] [] (.same _) (.nil _)) rfl
abbrev Hi:(Rx×Bool)->D:=kZ (Y:=Rx) (Z:=Bool)
abbrev qic:Spc:=qhe a0 Hi qoL
abbrev qdl:Spc:=qhe a0 Hi qeK
def qvr{b:Nat}{post:Rp->(Rx×Bool)->Prop}{x:Rx}{v:Bool}{H:ab}(s:Rp)(h0:H 0=some (.box b (uT s)))(a:post s (x,v)):JL Hi b post (.tup [enc x, .v (.bool v)]) H:=Jm s (x,v) (.same _) h0 a
def G9{b:Nat}{post:Rp->(Rx×Bool)->Prop}{x:Rx}{v:Bool}{H:ab}(s:Rp)(h0:H 0=some (.box b (uT s)))(a:post s (x,v)):JL Hi b post (.tup [.agg [.v (.int .i64 x.op), .v (.int .i64 x.mn), .v (.int .i64 x.mx), .list 2 (x.rs.map enc), .list 5 (x.kids.map enc)], .v (.bool v)]) H:=by
 have e:(D.agg [.v (.int .i64 x.op), .v (.int .i64 x.mn), .v (.int .i64 x.mx), .list 2 (x.rs.map enc), .list 5 (x.kids.map enc)])=enc x:=by simp
 rw[e];exact qvr s h0 a
set_option maxHeartbeats 1000000 in
theorem TZ(h1:S bG=ym)(h2:S D9=qia)(h3:S lK=qic)(h4:S jm=s_crune)(h5:S eM=UT):xW fb eT S a0 Hi (λs z=>∃r,qeK s z=some r) (λs z s' y=>qeK s z=some (s',y)):=by
 rintro b s ⟨⟩ ⟨r,hr⟩;have hr0:=hr;obtain⟨c,hc,h⟩:=qFA.1 hr;have hsz:=EN hc;have h128:c< 128:=by
  rcases hsz.2 with⟨_,rfl⟩|⟨_,_,_,x,_,hlt,rfl⟩ <;>omega
 split at h
 ·cases h
 rename_i e40;split at h
 ·rename_i e46;subst e46;have hp:InR .i64 (s.pos+1):=by
   rcases hsz.2 with⟨_,e⟩|⟨_,_,_,x,_,hlt,e⟩
   ·cases e
   ·simp only[InR];omega
  cases h;simp[fb,eT,h1,h2,mM,hc,hp,-fB',-eB'];exactλ_=>G9 s.bump (by simp[Rp.bump]) hr0
 rename_i e46;split at h
 ·rename_i e91;subst e91;obtain⟨s',x',t'⟩:=r;simp[fb,eT,h1,h3,mM,hc,h,-fB',-eB'];exactλ_=>G9 s' (by simp) hr0
 rename_i e91;split at h
 ·cases h
 ·rename_i hn;obtain⟨q,hq,rfl⟩:=qFM.1 h;obtain⟨s',⟨c'⟩,t'⟩:=q;have hq':=hq;obtain⟨c2,hc2,h'⟩:=qFA.1 hq';rw[hc]at hc2;obtain rfl:=qFO hc2;split at h'
  ·cases h'
  rename_i hn2;have n0:0<=c:=by omega
  have n92:c≠92:=λe=>hn2 (.inr e)
  have nin:qob ⟨#[92,46,91,93,40,41,123,125,124,42,43,63]⟩ c=false:=by
   cases e:qob ⟨#[92,46,91,93,40,41,123,125,124,42,43,63]⟩ c with
   |false=>rfl
   |true=>exact absurd ⟨n92,e⟩ hn
  have hq2:FW s ⟨#[92,46,91,93,40,41,123,125,124,42,43,63]⟩=some (s',⟨c'⟩,t'):=hq;simp[fb,eT,h1,h2,h4,h5,mM,hc,e40,e46,e91,n0,n92,h128,nin,hq2,-fB',-eB'];exactλ_=>G9 s' (by simp) hr0
abbrev qh9:Spc:=qhe a0 Hi qiZ
def qeG{p:Rp}{c:Int}(h:Qx p=some c):c< 128/\ -1<=c/\(0<=c->InR .i64 (p.pos+1)):=by
 obtain⟨h1,h2⟩:=EN h;rcases h2 with⟨_,rfl⟩|⟨_,_,_,x,_,a,rfl⟩
 ·exact⟨by omega,by omega,λh=>absurd h (by omega)⟩
 ·exact⟨by omega,by omega,λ_=>by simp only[InR];omega⟩
def qfO{c:Int}{m:Int×Int}(h:Ry c=some m):c=42/\m=(0, -1)\/c=43/\m=(1, -1)\/c=63/\m=(0,1):=by
 unfold Ry at h;split at h
 ·exact .inl ⟨by assumption,(qFO h).symm⟩
 split at h
 ·exact .inr (.inl ⟨by assumption,(qFO h).symm⟩)
 split at h
 ·exact .inr (.inr ⟨by assumption,(qFO h).symm⟩)
 cases h
def SI{c:Int}(h:Ry c=none):c≠42/\c≠43/\c≠63:=by
 unfold Ry at h;refine⟨λe=>?_,λe=>?_,λe=>?_⟩ <;>(subst e;simp at h)
def A0(o:Option (Int×Int))(x:Rx):List D:=match o with
 |none=>[.v (.int .i64 x.op), .v (.int .i64 x.mn), .v (.int .i64 x.mx), .list 2 (x.rs.map enc), .list 5 (x.kids.map enc)]
 |some m=>[.v (.int .i64 4), .v (.int .i64 m.1), .v (.int .i64 m.2), .v (.slice none 0 0), .list 5 [enc x]]
def qvq{b:Nat}{post:Rp->(Rx×Bool)->Prop}{m:Int×Int}{e:Rx}{H:ab}(s:Rp)(h0:H 0=some (.box b (uT s)))(d:post s (⟨4,m.1,m.2, [], [e]⟩,true)):JL Hi b post (.tup [.agg (A0 (some m) e), .v (.bool true)]) H:=by
 refine Jm s (⟨4,m.1,m.2, [], [e]⟩,true) (.tup rfl λk c c' hc a=>?_) h0 d
 match k with
 | 0=>cases hc;cases a;exact VX [] [e] (.nil _) (.same _)
 | 1=>cases hc;cases a;exact .same _
 |k+2=>simp at hc
set_option maxHeartbeats 2000000 in
theorem NI(h1:S bG=ym)(h2:S nh=qdl):xW jw jc S a0 Hi (λs z=>∃r,qiZ s z=some r) (λs z s' y=>qiZ s z=some (s',y)):=by
 rintro b s ⟨⟩ ⟨r,hr⟩;have hr0:=hr;obtain⟨⟨s1,e,ok⟩,ha,h⟩:=qFA.1 hr;simp only at h;split at h
 rotate_left
 ·cases h
 rename_i hok;subst hok;obtain⟨c,hc,h⟩:=qFA.1 h;split at h
 ·cases h
 rename_i e123;have hcc:=qeG hc;simp[jw,jc,h2,ha,-fB',-eB'];intro b2 b4;refine au (X:=Option (Int×Int)) [0,2,4,5] [2] (λo=>∀m,o=some m->Ry c=some m) (λ_=>[]) (λo=>[(0, .box b (uT (match o with|none=>s1|some _=>s1.bump))),(4, .box b4 (A0 o e))]) (λo=>match o with|none=>1|some _=>0) none (λm h=>by cases h) ?_ (hh:=by simp[A0]);rintro(_|m) hP
 ·cases hm:Ry c with
  | none=>
    rw[hm]at h;cases h;obtain⟨n1,n2,n3⟩:=SI hm;simp[A0,h1,mM,hc,n1,n2,n3,e123,-fB',-eB'];exact G9 s1 (by simp) hr0
  | some m=>
    rcases qfO hm with⟨rfl,rfl⟩|⟨rfl,rfl⟩|⟨rfl,rfl⟩
    all_goals
     have hin:=hcc.2.2 (by omega);simp[A0,h1,mM,hc,hin,-fB',-eB']
     first
      |exact⟨some (0, -1),by simp,⟨.inl ⟨rfl,rfl,rfl,rfl⟩, .inl rfl⟩,rfl⟩
      |exact⟨some (1, -1),by simp,⟨.inl ⟨rfl,rfl,rfl,rfl⟩, .inl rfl⟩,rfl⟩
      |exact⟨some (0,1),by simp,⟨.inl ⟨rfl,rfl,rfl,rfl⟩, .inl rfl⟩,rfl⟩
 ·have hm:=hP m rfl;rw[hm]at h;simp only at h;obtain⟨d,hd,h⟩:=qFA.1 h;split at h
  ·cases h
  rename_i hn;cases h;have hd':d≠123/\Ry d=none:=⟨λe=>hn (.inl e),by
   cases q:Ry d with
   |none=>rfl
   |some q'=>exact absurd (.inr (by rw[q];rfl)) hn⟩
  obtain⟨n1,n2,n3⟩:=SI hd'.2;have n4:=hd'.1;simp[A0,h1,mM,hd,n1,n2,n3,n4,-fB',-eB'];simpa [A0,-fB',-eB']using qvq (e:=e) (m:=m) s1.bump (by simp) hr0
def qq6{p:Rp}{q:Rp× (Rx×Bool)}(h:qiZ p ()=some q):q.2.2=true:=by
 obtain⟨a,_,h⟩:=qFA.1 h;split at h
 ·obtain⟨c,_,h⟩:=qFA.1 h;split at h
  ·cases h
  ·split at h
   ·obtain⟨d,_,h⟩:=qFA.1 h;split at h
    ·cases h
    ·cases h;rfl
   ·cases h;rfl
 ·cases h
def YW{op:Int}{l:List Rx}(h:l.length≠1):qb7 op l=⟨op,0,0, [],l⟩:=by
 match l,h with
 | [],_=>rfl
 | [e],h=>exact absurd rfl h
 | _::_::_,_=>rfl
theorem qky{b:Nat}{post:Rp->(Rx×Bool)->Prop}{op:Int}{l:List Rx}{id el:Nat}{v:Value}{H:ab}(s:Rp)(h0:H 0=some (.box b (uT s)))(hi:id≠0)(h1:H id=some (.row v el 5 (l.map enc)))(h:post s (⟨op,0,0, [],l⟩,true)):
 JL Hi b post (.tup [.agg [.v (.int .i64 op), .v (.int .i64 0), .v (.int .i64 0), .v (.slice none 0 0), .own id v], .v (.bool true)]) H:=by
 refine Jm s (⟨op,0,0, [],l⟩,true) (.tup rfl λk c c' hc a=>?_) h0 h
 match k with
 | 0=>
   cases hc;cases a;refine VX [] l (.nil _) (.row (el:=el) (by simp[hi];exact h1) rfl (λd j=>?_) (λk c c' hc a=>?_))
   ·obtain⟨x,_,rfl⟩:=qFL.1 j;exact⟨Cod.kn x,Cod.wid x⟩
   ·rw[hc]at a;cases a;exact .same _
 | 1=>cases hc;cases a;exact .same _
 |k+2=>simp at hc
abbrev qid:Spc:=qhe a0 Hi qlp
set_option maxHeartbeats 2000000 in
theorem NL(h1:S bG=ym)(h2:S kB=qh9):xW jy je S a0 Hi (λs z=>∃r,qlp s z=some r) (λs z s' y=>qlp s z=some (s',y)):=by
 rintro b s ⟨⟩ ⟨r,hr⟩;have hr0:=hr;obtain⟨⟨s',l'⟩,hl,hr⟩:=qFM.1 hr;simp only at hr;subst hr;obtain⟨c0,hc0⟩:∃c,Qx s=some c:=by
  rw[qan]at hl;obtain⟨c,hc,_⟩:=qFA.1 hl;exact⟨c,hc⟩
 simp[jy,je,h1,mM,hc0,-fB',-eB'];intro b2;refine au (X:=Nat×Rp×Value×List Rx×Int) [0,2] [2] (λz=>qan z.1 z.2.1 z.2.2.2.1=some (s',l')/\z.2.2.2.1.length+z.1<=100/\Qx z.2.1=some z.2.2.2.2) (λz=>[(4, .own 36 z.2.2.1),(5, .v (.int .i32 z.2.2.2.2))]) (λz=>[(0, .box b (uT z.2.1)),(36, .row z.2.2.1 Do 5 (z.2.2.2.1.map enc))]) (λz=>z.1) (100,s, .slice none 0 0, [],c0) ⟨hl,by simp,hc0⟩ ?_ (hh:=by simp[isNilRow]);clear hl;rintro⟨k,p,v,l,c⟩ ⟨hk,hlen,hc⟩;simp only at hk hlen hc;obtain _|k:=k
 ·rw[qan]at hk;cases hk
 rw[qan,hc]at hk;simp only[qFW]at hk;split at hk
 ·rename_i hend;cases hk;have hlt:(l'.length:Int)<=9223372036854775807:=by omega
  by_cases hl1:l'.length=1
  ·obtain⟨e,rfl⟩:∃e,l'=[e]:=qG4.1 hl1;rcases hend with h|rfl|rfl
   ·have h':¬0<=c:=by omega
    simp[h',-fB',-eB'];exact G9 s' (by simp) hr0
   all_goals
    simp[-fB',-eB'];exact G9 s' (by simp) hr0
  ·rw[YW hl1]at hr0;have hl1':¬(l'.length:Int)=1:=by omega
   rcases hend with h|rfl|rfl
   ·have h':¬0<=c:=by omega
    simp[h',hl1,hl1',hlt,-fB',-eB'];exact qky (el:=Do) s' (by simp) (by decide) (by simp) hr0
   all_goals
    simp[hl1,hl1',hlt,-fB',-eB'];exact qky (el:=Do) s' (by simp) (by decide) (by simp) hr0
 ·rename_i hgo;obtain⟨q,hq,hk⟩:=qFA.1 hk;split at hk
  ·cases hk
  rename_i hop;have hok:=qq6 hq;obtain⟨p',e,ok⟩:=q;simp only at hk hok hop;subst hok;have n1:0<=c:=by omega
  have n2:c≠124:=by omega
  have n3:c≠41:=by omega
  obtain⟨c1,hc1⟩:∃c,Qx p'=some c:=by
   obtain _|k:=k
   ·rw[qan]at hk;cases hk
   rw[qan]at hk;obtain⟨c,hc,_⟩:=qFA.1 hk;exact⟨c,hc⟩
  simp[h1,h2,mM,hc1,hq,n1,n2,n3,hop,-fB',-eB'];exact⟨by omega,by omega,λv=>⟨k,p',v,l++ [e],c1,⟨hk,by simp;omega,hc1⟩,⟨⟨rfl,rfl⟩, .inl ⟨rfl,rfl,rfl,rfl⟩, .inl ⟨rfl,by simp⟩⟩,by omega⟩⟩
def qsr{p:Rp}{q:Rp× (Rx×Bool)}(h:qlp p ()=some q):q.2.2=true:=by
 obtain⟨a,_,rfl⟩:=qFM.1 h;rfl
abbrev qh8:Spc:=qhe a0 Hi qm5
set_option maxHeartbeats 2000000 in
theorem QX(h1:S bG=ym)(h2:S kD=qid):xW kH km S a0 Hi (λs z=>∃r,qm5 s z=some r) (λs z s' y=>qm5 s z=some (s',y)):=by
 rintro b s ⟨⟩ ⟨r,hr⟩;have hr0:=hr;obtain⟨⟨s',l'⟩,hl,hr⟩:=qFM.1 hr;simp only at hr;subst hr;simp[kH,km,-fB',-eB'];intro b2;refine au (X:=Nat×Rp×Value×List Rx) [0,2] [2] (λz=>qhE z.1 z.2.1 z.2.2.2=some (s',l')/\z.2.2.2.length+z.1<=100) (λz=>[(4, .own 25 z.2.2.1)]) (λz=>[(0, .box b (uT z.2.1)),(25, .row z.2.2.1 Do 5 (z.2.2.2.map enc))]) (λz=>z.1) (100,s, .slice none 0 0, []) ⟨hl,by simp⟩ ?_ (hh:=by simp[isNilRow]);clear hl;rintro⟨k,p,v,l⟩ ⟨hk,hlen⟩;simp only at hk hlen;obtain _|k:=k
 ·rw[qhE]at hk;cases hk
 rw[qhE]at hk;obtain⟨⟨p',e,ok⟩,hq,hk2⟩:=qFA.1 hk;clear hk;obtain⟨c,hc,hk3⟩:=qFA.1 hk2;clear hk2;have hok:=qsr hq;simp only at hok hc hk3;subst hok;have hop:¬e.op=3:=λh=>by rw[if_pos h]at hk3;cases hk3
 rw[if_neg hop]at hk3;have hcc:=qeG hc;by_cases hc124:c=124
 ·rw[if_pos hc124]at hk3;have hk:=hk3;subst hc124;have hin:=hcc.2.2 (by omega);simp[h1,h2,mM,hc,hq,hop,hin,-fB',-eB'];exact⟨by omega,by omega,λv=>⟨k,p'.bump,v,l++ [e],⟨hk,by simp;omega⟩,⟨rfl, .inl ⟨rfl,rfl,rfl,rfl⟩, .inl ⟨rfl,by simp⟩⟩,by omega⟩⟩
 ·rw[if_neg hc124]at hk3;cases hk3;have hlt:((l++ [e]).length:Int)<=9223372036854775807:=by simp;omega
  have hcc':¬c=124:=hc124;cases l with
  | nil=>
    simp[h1,h2,mM,hc,hq,hop,hcc',-fB',-eB'];exactλv=>G9 s' (by simp) hr0
  | cons x l=>
    simp[h1,h2,mM,hc,hq,hop,hcc',-fB',-eB'];have hr1:=hr0;rw[YW (by simp)]at hr1;exact⟨by simp at hlen;omega,by simp at hlen;omega,λv _=>⟨λh=>absurd h (by omega),λ_=>qky (el:=Do) (l:=x::l++ [e]) s' (by simp) (by decide) (by simp) hr1⟩⟩
end
section
open Go.Proofs
def ia:CC:=gq Tryz.f335 [] {} _
def gT:List aj:=[]
def zi:FO fh [] ia gT 14:=fo
def eD:CC:=gq Tryz.f340 [] {} _
def ei:List aj:=[]
def sF:FO eV [] eD ei 148:=fo
def cU:CC:=gq Tryz.f342 [] {} _
def cP:List aj:=[]
def nc:FO dg [] cU cP 53:=fo
def tf:CC:=gq Tryz.f147 [] {} _
def sw:List aj:=[.tmp 2]
def KF:FO uN [] tf sw 8:=fo
def pg:CC:=gq Tryz.f212 [] {} _
def ou:List aj:=[.tmp 2]
def GH:FO qX [] pg ou 25:=fo
def nB:CC:=gq Tryz.f337 [] {} _
def mZ:List aj:=[.tmp 4]
def FB:FO oU [] nB mZ 20:=fo
def rP:CC:=gq Tryz.f341 [] {} _
def qv:List aj:=[.tmp 2]
def I1:FO sX [] rP qv 6:=fo
def rk:CC:=gq Tryz.f336 [2,3] {} _
def pV:List aj:=[.tmp 4]
def ID:FO dw [2,3] rk pV 10:=fo
def uU:CC:=gq Tryz.f330 [2044048] { bx:=[0] } _
def ur:List aj:=[.tmp 2]
def MK:FO wT [2044048] uU ur 51:=fo
open Cod (enc dec)
variable {S S0:Nat->Spc}
abbrev qiq:Spc:=aG (a1 I32) (λ_=>True) (enc (X:=Bool)) λ_ y=>y=false
def J8:ak rP qv S (a1 I32) (λ_=>True) (enc (X:=Bool)) λ_ y=>y=false:=by
 rintro x -;simp[rP,qv,-fB']
def Ws(a b:Int):Int:=if a<b then -1 else if b<a then 1 else 0
abbrev qiE:Spc:=aG (a2 I32 I32) (λ_=>True) (enc (X:=Int)) λx y=>y=Ws x.1.val x.2.val
def F9(h1:S sX=qiq):ak nB mZ S (a2 I32 I32) (λ_=>True) (enc (X:=Int)) λx y=>y=Ws x.1.val x.2.val:=by
 rintro⟨⟨x⟩,⟨y⟩⟩ -;simp[nB,mZ,h1,-fB',-eB'];refine⟨λh=>by simp[Ws,h],λh=>⟨λh2=>?_,λh2=>?_⟩⟩
 ·have h3:¬x<y:=by omega
  simp[Ws,h2,h3]
 ·have h3:¬x<y:=by omega
  have h4:¬y<x:=by omega
  simp[Ws,h3,h4]
abbrev qir:Spc:=aG (a2 Rng Rng) (λ_=>True) (enc (X:=Int)) λx y=>y=Ws x.1.fr.val x.2.fr.val
def JT(h1:S oU=qiE):ak rk pV S (a2 Rng Rng) (λ_=>True) (enc (X:=Int)) λx y=>y=Ws x.1.fr.val x.2.fr.val:=by
 rintro⟨x,y⟩ -;simp[rk,pV,h1,-fB',-eB']
abbrev qdJ:Spc:=aG (a1 U64) (λx=>0<=x.val/\x.val<=200) (enc (X:=Int)) λ_ _=>True
def qmh(x:List Rng×Int×Int×D×Unit):Prop:=Km x.1=true/\x.2.1=0/\x.2.2.1=x.1.length/\x.2.2.2.1= .clo dw []
abbrev qiw:Spc:=aG (aE (List Rng) (aE Int (aE Int (aD a0)))) qmh Wg λ_ _=>True
def Id{l:List Rng}(h:Km l=true):1<=l.length/\l.length<=2:=by
 match l,h with
 | [x],_=>exact⟨qFH 1,qGV 1⟩
 | [x,y],_=>exact⟨qGV 1,qFH 2⟩
def Ya:∀{l:List Rng},Km l=true->1<l.length->∃x y,l=[x,y]
 | [x,y],_,_=>⟨x,y,rfl⟩
 | [x],_,h=>by simp at h
def qhP:∀{l:List Rng} {x:Rng},l[0]? =some x->(l.take 1).foldl vH []=[x]
 |y::l,x,h=>by cases h;rfl
theorem QW(h1:S dw=qir):ak cU cP S (aE (List Rng) (aE Int (aE Int (aD a0)))) qmh Wg λ_ _=>True:=by
 rintro⟨l,a,b,d,⟨⟩⟩ ⟨hs,j,hb,k⟩;simp only at hs j hb k;subst j;subst hb;subst k;simp[cU,cP,-fB',-eB'];have c:=Id hs;refine⟨by simp only[InR];omega,?_⟩;refine au (X:=Nat) [0,1,2,3] [] (λi=>1<=i/\i<=l.length) (λi=>[(8,enc (i:Int))]) (λ_=>[]) (λi=>l.length -i) 1 ⟨qFH 1,c.1⟩ ?_;rintro i ⟨p,q⟩;by_cases h:i<l.length
 ·obtain rfl:i=1:=by omega
  obtain⟨x,y,rfl⟩:=Ya hs h;simp[-fB',-eB'];refine au (X:=Unit) [0,1,2,3,8] [] (λ_=>True) (λ_=>[(9,enc (1:Int))]) (λ_=>[]) (λ_=>0) () trivial ?_;rintro - -;have hc:¬Ws y.fr.val x.fr.val< 0:=by
   simp[Km]at hs;unfold Ws;rw[if_neg (by omega)];split<;>omega
  simp[h1,hc,-fB',-eB'];exact⟨by simp only[InR];omega,λ_=>⟨by simp only[InR];omega,2,⟨by omega,by omega⟩,rfl,rfl⟩⟩
 ·obtain rfl:i=l.length:=by omega
  simp[-fB',-eB'];exact aL (Y:=Unit) () (.same _) trivial
abbrev qin:Spc:=aG (aE (List Rng) (aE Int (aE Int (aE Int (aD a0))))) (λx=>qmh (x.1,x.2.1,x.2.2.1,x.2.2.2.2)) Wg λ_ _=>True
def QV(h1:S dg=qiw):ak eD ei S (aE (List Rng) (aE Int (aE Int (aE Int (aD a0))))) (λx=>qmh (x.1,x.2.1,x.2.2.1,x.2.2.2.2)) Wg λ_ _=>True:=by
 rintro⟨l,a,b,q,d,⟨⟩⟩ hp;have c:=hp;obtain⟨hs,k,hb,p⟩:=hp;simp only at hs k hb p c;subst k;subst hb;subst p;have r:=Id hs;simp[eD,ei,-fB',-eB'];refine au (X:=Unit) [0,1,2,3,4,10,11] [] (λ_=>True) (λ_=>[]) (λ_=>[]) (λ_=>0) () trivial ?_;rintro - -;have h:(l.length:Int)<=12:=by omega
 have j:InR .i64 (l.length:Int):=by simp only[InR];omega
 simp[h1,h,j,c,-fB',-eB'];exact aL (Y:=Unit) () (.same _) trivial
abbrev qnj:Spc:=aG (aE (List Rng) (aD a0)) (λx=>Km x.1=true/\x.2.1= .clo dw []) Wg λ_ _=>True
def Ab(h1:S uN=qdJ)(h2:S eV=qin):ak ia gT S (aE (List Rng) (aD a0)) (λx=>Km x.1=true/\x.2.1= .clo dw []) Wg λ_ _=>True:=by
 rintro⟨l,d,⟨⟩⟩ ⟨hs,b⟩;simp only at hs b;subst b;have c:=Id hs;have hp:qmh (l,0,(l.length:Int), .clo dw [],()):=⟨hs,rfl,rfl,rfl⟩
 have h:IntKind.u64.wrap (l.length:Int)=l.length:=by rw[IntKind.wrap_u64];omega
 have a:(l.length:Int)<=200:=by omega
 simp[ia,gT,h1,h2,hp,h,a,-fB',-eB'];exactλ_=>aL (Y:=Unit) () (.same _) trivial
abbrev YJ:Spc:=aG (a1 U64) (λx=>0<=x.val/\x.val<=200) (enc (X:=Int)) λ_ _=>True
def qbe(h1:S qX=YJ):ak tf sw S (a1 U64) (λx=>0<=x.val/\x.val<=200) (enc (X:=Int)) λ_ _=>True:=by
 rintro⟨x⟩ ⟨h0,h2⟩;simp only at h0 h2;simp[tf,sw,h1,h0,h2,-fB',-eB']
def Uu:ak pg ou S (a1 U64) (λx=>0<=x.val/\x.val<=200) (enc (X:=Int)) λ_ _=>True:=by
 rintro⟨x⟩ ⟨h0,h2⟩;simp only at h0 h2;have c1:¬4294967296<=x:=by omega
 have c2:¬65536<=x:=by omega
 have c3:¬256<=x:=by omega
 have b:IntKind.u8.wrap x=x:=by rw[IntKind.wrap_u8];omega
 simp[pg,ou,c1,c2,c3,b,h0,-fB',-eB'];refine⟨Int.lt_of_le_of_lt h2 (by decide),λc _=>?_⟩;have:=c.toNat_lt;have a:IntKind.i64.wrap (c.toNat:Int)=c.toNat:=by rw[IntKind.wrap_i64];omega
 rw[a];simp only[InR];omega
abbrev qeJ:Spc:=qzz (Y:=Rng) (aD a0) (λx=>Km x.1=true/\x.2.1= .clo dw []) Wg (λ_ _=>True) Am 2
abbrev Yr:Spc:=qu8 (Y:=Rng) a0 (λ_ l=>Km l=true) (λ_ l r=>r=Jb l) Am 2
set_option maxHeartbeats 1000000 in
theorem NJ(h1:S fh=qeJ):WH (Y:=Rng) uU ur S a0 (λ_ l=>Km l=true) (λ_ l r=>r=Jb l) Am 2:=by
 rintro v l ⟨⟩ hs;have hs:Km l=true:=hs;have hl2:=Id hs;simp[uU,ur,h1,hs,-fB',-eB'];intro _;refine ah (X:=Value×List Rng) [9] [0] l.length (λk x=>x.2=(l.take k).foldl vH []) (λx=>[(3, .own 48 x.1)]) (λx=>[(48, .row x.1 Am 2 (x.2.map enc))]) (.slice none 0 0, []) rfl ?_ ?_ (hh:=by simp[isNilRow])
 ·rintro k ⟨v',out⟩ hk hP;simp only at hP;have hk2:k=0\/k=1:=by omega
  rcases hk2 with rfl|rfl
  ·obtain⟨x,hx⟩:∃x,l[0]? =some x:=⟨_,qFC hk⟩
   obtain⟨_,hgx⟩:=qFB.1 hx;have ho:out=[]:=by rw[hP];rfl
   subst ho;have h1:=qhP hx;simp[hk,hx,hgx,h1,-fB',-eB']
  ·obtain⟨x,y,rfl⟩:=Ya hs hk;have ho:out=[x]:=by rw[hP];rfl
   subst ho;simp[Km]at hs;by_cases hle:y.fr.val<=x.to.val+1
   ·have hst:vH (vH [] x) y=[⟨x.fr,⟨max x.to.val y.to.val⟩⟩]:=by simp[vH,hle]
    have hr:InR .i32 (x.to.val+1):=by simp only[InR];omega
    simp[hle,hst,hr,-fB',-eB'];simp only[InR];omega
   ·have hst:vH (vH [] x) y=[x,y]:=by simp[vH,hle]
    have hr:InR .i32 (x.to.val+1):=by simp only[InR];omega
    simp[hle,hst,hr,-fB',-eB'];simp only[InR];omega
 ·rintro⟨v',out⟩ hP;simp only at hP;rw[qFT]at hP;subst hP;simp[-fB',-eB'];exact dI (Jb l) (by simp[Jb]) rfl
def qlm{p:Rp}{a:B}{q:Rp× (I32×Bool)}{c:Int}(hc:Qx p=some c)(h:FW p a=some q):q=(p.bump,⟨c⟩,true):=by
 unfold FW at h;rw[hc,qFW]at h;split at h
 ·cases h
 ·exact(qFO h).symm
def qnU{p:Rp}{q:Rp× (I32×Bool)}{c:Int}(hc:Qx p=some c)(h:Zh p ()=some q):q=(p.bump,⟨c⟩,true):=by
 unfold Zh at h;rw[hc,qFW]at h;split at h
 ·cases h
 ·exact qlm hc h
theorem qvp{b:Nat}{post:Rp->(Rx×Bool)->Prop}{l:List Rng}{id el:Nat}{v:Value}{H:ab}(s:Rp)(h0:H 0=some (.box b (uT s)))(hi:id≠0)(h1:H id=some (.row v el 2 (l.map enc)))(h:post s (⟨1,0,0,l, []⟩,true)):
 JL Hi b post (.tup [.agg [.v (.int .i64 1), .v (.int .i64 0), .v (.int .i64 0), .own id v, .v (.slice none 0 0)], .v (.bool true)]) H:=by
 refine Jm s (⟨1,0,0,l, []⟩,true) (.tup rfl λk c c' hc a=>?_) h0 h
 match k with
 | 0=>
   cases hc;cases a;refine VX l [] (.row (el:=el) (by simp[hi];exact h1) rfl (λd j=>?_) (λk c c' hc a=>?_)) (.nil _)
   ·obtain⟨x,_,rfl⟩:=qFL.1 j;exact⟨Cod.kn x,Cod.wid x⟩
   ·rw[hc]at a;cases a;exact .same _
 | 1=>cases hc;cases a;exact .same _
 |k+2=>simp at hc
set_option maxHeartbeats 2000000 in
theorem Q0(h1:S bG=ym)(h2:S kC=qib)(h3:S wT=Yr):xW kI ko S a0 Hi (λs z=>∃r,qoL s z=some r) (λs z s' y=>qoL s z=some (s',y)):=by
 rintro b s ⟨⟩ ⟨r,hr⟩;have hr0:=hr;obtain⟨a0,ha0,h⟩:=qFA.1 hr;have e91:¬a0≠91:=λe=>by rw[if_pos e]at h;cases h
 rw[if_neg e91]at h;have hin:=(qeG ha0).2.2 (by omega);obtain⟨c0,hc0,h⟩:=qFA.1 h;have n94:¬c0=94:=λe=>by rw[if_pos e]at h;cases h
 rw[if_neg n94]at h;obtain⟨⟨s',l'⟩,hl,h⟩:=qFA.1 h;simp only at h;have hsrt:Km l'=true:=by
  split at h
  ·assumption
  ·cases h
 rw[if_pos hsrt]at h;cases h;have hc1:Qx ⟨s.s,s.pos+1,s.fault,s.e⟩=some c0:=hc0;simp[kI,ko,h1,mM,hin,hc1,n94,-fB',-eB'];intro b2;refine au (X:=Nat×Rp×Value×List Rng) [0,2,4,5] [2] (λz=>qlk z.1 z.2.1 z.2.2.2=some (s',l')/\z.2.2.2.length+z.1<=100) (λz=>[(6, .own 86 z.2.2.1)]) (λz=>[(0, .box b (uT z.2.1)),(86, .row z.2.2.1 Am 2 (z.2.2.2.map enc))]) (λz=>z.1) (100,s.bump, .slice none 0 0, []) ⟨hl,by simp⟩ ?_ (hh:=by simp[isNilRow,Rp.bump]);clear hl;rintro⟨k,p,v,l⟩ ⟨hk,hlen⟩;simp only at hk hlen;obtain _|k:=k
 ·rw[qlk]at hk;cases hk
 rw[qlk]at hk;obtain⟨c,hc,hk2⟩:=qFA.1 hk;clear hk;have hlt:(l.length:Int)<=9223372036854775807:=by omega
 by_cases hend:l≠ []/\c=93
 ·rw[if_pos hend]at hk2;cases hk2;obtain⟨hne,rfl⟩:=hend;have hin2:=(qeG hc).2.2 (by omega);have hl0:¬l'.length=0:=λe=>hne (qGo.1 e)
  simp(config:={ maxSteps:=2000000 }) [h1,h3,mM,hc,hlt,hne,hl0,hin2,hsrt,-fB',-eB'];exactλv'=>qvp (el:=Am) s'.bump (by simp[Rp.bump]) (by decide) (by simp) hr0
 ·rw[if_neg hend]at hk2;obtain⟨q,hq,hk3⟩:=qFA.1 hk2;clear hk2;obtain⟨d,hd,hk4⟩:=qFA.1 hk3;clear hk3;have hqv:=qnU hc hq;subst hqv;simp only at hd hk4;have n45:¬d=45:=λe=>by rw[if_pos e]at hk4;cases hk4
  rw[if_neg n45]at hk4;have hd':Qx ⟨p.s,p.pos+1,p.fault,p.e⟩=some d:=hd;cases l with
  | nil=>
    simp(config:={ maxSteps:=2000000 }) [h1,h2,mM,hq,hd',n45,Rp.bump,-fB',-eB'];exactλv=>⟨k,p.bump,v, [⟨⟨c⟩,⟨c⟩⟩],⟨hk4,by simp at hlen ⊢;omega⟩,⟨rfl, .inl ⟨rfl,rfl,rfl,rfl⟩, .inl ⟨rfl,by simp⟩⟩,by omega⟩
  | cons x l=>
    have n93:¬c=93:=λe=>hend ⟨by simp,e⟩
    simp(config:={ maxSteps:=2000000 }) [h1,h2,mM,hc,hq,hd',n45,n93,Rp.bump,-fB',-eB'];have hlen2:l.length+1+ (k+1)<=100:=by simpa using hlen
    first
     |exactλ_ _=>⟨by omega,by omega,λv=>⟨k,p.bump,v,x::l++ [⟨⟨c⟩,⟨c⟩⟩],⟨hk4,by simp;omega⟩,⟨rfl, .inl ⟨rfl,rfl,rfl,rfl⟩, .inl ⟨rfl,by simp⟩⟩,by omega⟩⟩
     |exact⟨by omega,by omega,by omega,λv=>⟨k,p.bump,v,x::l++ [⟨⟨c⟩,⟨c⟩⟩],⟨hk4,by simp;omega⟩,⟨rfl, .inl ⟨rfl,rfl,rfl,rfl⟩, .inl ⟨rfl,by simp⟩⟩,by omega⟩⟩
     |exact⟨by omega,by omega,λv=>⟨k,p.bump,v,x::l++ [⟨⟨c⟩,⟨c⟩⟩],⟨hk4,by simp;omega⟩,⟨rfl, .inl ⟨rfl,rfl,rfl,rfl⟩, .inl ⟨rfl,by simp⟩⟩,by omega⟩⟩
     |(refineλ_=>⟨λ_=>?_,λ_=>?_⟩ <;>exact⟨by omega,by omega,λv=>⟨k,p.bump,v,x::l++ [⟨⟨c⟩,⟨c⟩⟩],⟨hk4,by simp;omega⟩,⟨rfl, .inl ⟨rfl,rfl,rfl,rfl⟩, .inl ⟨rfl,by simp⟩⟩,by omega⟩⟩)
end
section
open Cod (enc dec)
variable {dq:Prop}
def qAp(F:Rx->Int->Int->Option (Bool×Int)):PT:=λd ds H K=>∃id b x n k r a,ds=[a, .v (.int .i64 n), .bptr id b 0]/\dec a=some x/\H id=some (.box b [.v (.int .i64 k)])/\F x n k=some r/\K (.v (.bool r.1)) (ai H id (some (.box b [.v (.int .i64 r.2)])))
def qng(F:Rx->Int->Int->Option (Bool×Int)):nC (qAp F):=λd ds H K c hk ⟨id,b,x,n,k,r,a,h1,h2,h3,h4,h5⟩=>⟨id,b,x,n,k,r,a,h1,h2,h3,h4,hk _ _ h5⟩
def qs6(F:Rx->Int->Int->Option (Bool×Int)):Spc:= .gen _ (qng F)
def qw9(F:Rx->Int->Int->Option (Bool×Int))(o:Option Rx)(n:Int)(id b:Nat)(q:Option Res)(H:ab)(K:D->ab->Prop):Prop:=
 ∃k,q=some (.box b [.v (.int .i64 k)])/\eL o λx=>eL (F x n k) λr=>K (.v (.bool r.1)) (ai H id (some (.box b [.v (.int .i64 r.2)])))
@[congr] theorem qAo{F:Rx->Int->Int->Option (Bool×Int)}{o a:Option Rx}{n c:Int}{id b:Nat}{q d:Option Res}{H:ab}{K:D->ab->Prop}(h1:o=a)(h2:n=c)(h3:q=d):qw9 F o n id b q H K=qw9 F a c id b d H K:=by subst h1;subst h2;subst h3;rfl
@[simp] theorem qAq(F:Rx->Int->Int->Option (Bool×Int))(d id b:Nat)(a:D)(n:Int)(H:ab)(K:D->ab->Prop):(qs6 F).pt d [a, .v (.int .i64 n), .bptr id b 0] H K=qw9 F (dec a) n id b (H id) H K:=by
 refine propext ⟨λh=>?_,λh=>?_⟩
 ·obtain⟨l,b',x,q,k,r,p,h1,h2,h3,h4,h5⟩:=h;cases h1;refine⟨k,h3,?_⟩;rw[h2];show eL (F x n k) _;rw[h4];exact h5
 ·obtain⟨k,h1,h2⟩:=h;cases c:dec (X:=Rx) a with
  |none=>rw[c]at h2;exact h2.elim
  | some x=>
    rw[c]at h2;have h2:eL (F x n k) _:=h2;cases j:F x n k with
    |none=>rw[j]at h2;exact h2.elim
    |some r=>rw[j]at h2;exact⟨id,b,x,n,k,r,a,rfl,c,h1,j,h2⟩
@[simp] theorem qDJ(F:Rx->Int->Int->Option (Bool×Int))(o:Option Rx)(n:Int)(id b:Nat)(k:Int)(H:ab)(K:D->ab->Prop):
 qw9 F o n id b (some (.box b [.v (.int .i64 k)])) H K=eL o λx=>eL (F x n k) λr=>K (.v (.bool r.1)) (ai H id (some (.box b [.v (.int .i64 r.2)]))):=by
 refine propext ⟨λ⟨a,h1,h2⟩=>?_,λh=>⟨k,rfl,h⟩⟩;cases h1;exact h2
def qwA(b:Nat)(q:Bool×Int)(r:D)(H:ab):Prop:=r= .v (.bool q.1)/\H 2=some (.box b [.v (.int .i64 q.2)])
def qlR(cc:CC)(rs:List aj)(S:Nat->Spc)(F:Rx->Int->Int->Option (Bool×Int)):Prop:=
 ∀b x n k q,F x n k=some q->vc S cc (vE rs λr H'=>qwA b q r H') (dR [enc x, .v (.int .i64 n), .bptr 2 b 0]) (ai bS 2 (some (.box b [.v (.int .i64 k)])))
variable {P:Program}{S:Nat->Spc}{f:Nat}{im:List Nat}{cc:CC}{rs:List aj}{N:Nat}
theorem qbt{F:Rx->Int->Int->Option (Bool×Int)}(c:∀f,Tri dq P f (S f).pt)(h:zY P f im cc rs N)(l:3<=N)(p:qlR cc rs S F):Tri dq P f (qs6 F).pt:=by
 obtain⟨zq,enter,fn,code,h1,h2,h3,h4,h5⟩:=h;refine pw c zq h1 h2 enter h3 h4 h5 ?_;rintro ds H d K ⟨id,b,x,n,k,r,J,rfl,t,hid,u,w⟩;have h0:∀i q,ai bS 2 (some (.box b [.v (.int .i64 k)])) i=some q->i=2/\q= .box b [.v (.int .i64 k)]:=by
  intro i q h;by_cases e:i=2
  ·subst e;simp only[ai,if_true]at h;cases h;exact⟨rfl,rfl⟩
  ·simp[ai,e,bS]at h
 refine⟨l, [enc x, .v (.int .i64 n), .bptr 2 b 0],ai bS 2 (some (.box b [.v (.int .i64 k)])),λi=>if i=2 then id else i, .cons (Cod.le _ _ t) (.cons (.same _) (.cons (.bptr _ _ _ _) .nil)),λi q h=>?_,λi j q y h A e=>?_,_,p b x n k r u,?_⟩
 ·obtain⟨rfl,rfl⟩:=h0 i q h;exact hid
 ·exact(h0 i q h).1.trans (h0 j y A).1.symm
 ·rintro r' H' ⟨rfl,C⟩;refine⟨.v (.bool r.1),bS,ai H id (some (.box b [.v (.int .i64 r.2)])),λi=>if i=id then some 2 else none, .same _,λj q h=>by simp[bS]at h,w,λi s hi=>?_,λi j L s q hi M E I=>?_⟩
  ·by_cases e:i=id
   ·subst e;simp only[ai,if_true]at hi ⊢;cases hi;exact C
   ·simp only[ai,e,if_false]at hi ⊢;refine⟨hi,λa q h he=>?_⟩;obtain⟨rfl,rfl⟩:=h0 a q h;exact e he.symm
  ·by_cases c1:i=id
   ·by_cases c2:j=id
    ·exact c1.trans c2.symm
    ·simp[c2]at I
   ·simp[c1]at E
end
section
open Go.Proofs
def lT:CC:=gq Tryz.f287 [3] { bx:=[2],ke:=[2] } _
def lj:List aj:=[.tmp 6]
def O7:FO tG [3] lT lj 36:=fo
def rj:CC:=gq Tryz.f317 [] {} _
def pU:List aj:=[.tmp 2]
def IC:FO sK [] rj pU 47:=fo
def eG:CC:=gq Tryz.f307 [1] {} _
def eo:List aj:=[.tmp 2]
def Gs:FO qL [1] eG eo 101:=fo
def nn:CC:=gq Tryz.f288 [1] {} _
def mQ:List aj:=[.tmp 2]
def Fs:FO jo [1] nn mQ 19:=fo
def jv:CC:=gq Tryz.f289 [1] {} _
def ja:List aj:=[.tmp 2]
def Gt:FO kR [1] jv ja 42:=fo
def rp:CC:=gq Tryz.f255 [1] {} _
def pX:List aj:=[.tmp 2]
def IF:FO mB [1] rp pX 16:=fo
open Cod (enc dec)
variable {S S0:Nat->Spc}
def Lx{X:Type}{l:List X}{k:Nat}(h:k<l.length):∃x,l[k]? =some x:=⟨_,qFC h⟩
def Qb{X:Type}{l:List X}{k:Nat}{x:X}(h:l[k]? =some x):l.drop k=x::l.drop (k+1):=by
 obtain⟨h1,h2⟩:=qFB.1 h;rw[qGh h1,h2]
theorem QY(n:Nat)(h1:S tG=qs6 (yN n)):qlR lT lj S (yN (n+1)):=by
 rintro b x d k ⟨ok,m⟩ j;have u:=j;simp only[yN]at j;split at j
 ·cases j
 rename_i s;have l:InR .i64 (k+1):=by simp only[InR];omega
 split at j
 ·rename_i p;cases j;by_cases c:40<d
  ·simp[lT,lj,l,c,-fB',-eB'];exact⟨rfl,by simp⟩
  ·have a:200<k+1:=by omega
   simp[lT,lj,l,c,a,-fB',-eB'];exact⟨rfl,by simp⟩
 ·rename_i p;have c:¬40<d:=by omega
  have a:¬200<k+1:=by omega
  simp[lT,lj,l,c,a,-fB',-eB'];intro w;refine ah (X:=Int) [1,2,23] [] x.kids.length (λi z=>qul (yN n) d (x.kids.drop i) z=some (ok,m)) (λz=>[]) (λz=>[(2, .box b [.v (.int .i64 z)])]) (k+1) j ?_ ?_
  ·rintro i z hi hz;obtain⟨y,r⟩:=Lx hi;obtain⟨_,q⟩:=qFB.1 r;rw[Qb r,qul]at hz;obtain⟨⟨t,A⟩,hs,hz⟩:=qFA.1 hz;simp only at hz;have h:InR .i64 (d+1):=by simp only[InR];omega
   cases t with
   | true=>
     simp only[if_true]at hz;simp[h1,hi,r,q,hs,h,-fB',-eB'];exact⟨A,hz, .inl rfl⟩
   | false=>
     simp only[qGt,if_false]at hz;cases hz;simp[h1,hi,r,q,hs,h,-fB',-eB'];exact⟨rfl,by simp⟩
  ·rintro z hz;rw[qGr,qul]at hz;cases hz;simp[-fB',-eB'];exact⟨rfl,by simp⟩
abbrev Yn:Spc:=aG (a1 (List Rng)) (λl=>qdU l=true) (enc (X:=Bool)) λ_ y=>y=true
def JS:ak rj pU S (a1 (List Rng)) (λl=>qdU l=true) (enc (X:=Bool)) λ_ y=>y=true:=by
 rintro l hl;obtain⟨r,rfl⟩:∃r,l=[r]:=by
  match l,hl with
  | [r],_=>exact⟨r,rfl⟩
 simp[qdU]at hl;simp[rj,pU,-fB',-eB'];refine ah (X:=Unit) [0,5] [] 1 (λ_ _=>True) (λ_=>[]) (λ_=>[]) () trivial ?_ ?_
 ·rintro k -hk -;obtain rfl:k=0:=by omega
  have a:¬r.fr.val< 0:=by omega
  have b:¬r.to.val<r.fr.val:=by omega
  have c:¬1114111<r.to.val:=by omega
  simp[a,b,c,-fB',-eB']
 ·rintro - -;simp[-fB',-eB']
abbrev Sp:Spc:=aG (a1 Rx) (λx=>quI x=true) (enc (X:=Bool)) λ_ y=>y=true
set_option maxHeartbeats 2000000 in
theorem Hx(h1:S sK=Yn):ak eG eo S (a1 Rx) (λx=>quI x=true) (enc (X:=Bool)) λ_ y=>y=true:=by
 rintro⟨op,mn,mx,rs,ks⟩ hx;have hx:quI ⟨op,mn,mx,rs,ks⟩=true:=hx;unfold quI at hx;simp only at hx;split at hx
 ·rename_i e;subst e;simp at hx;obtain⟨⟨⟨rfl,rfl⟩,rfl⟩,hs⟩:=hx;simp[eG,eo,h1,hs,-fB',-eB'];refine ah (X:=Unit) [1,3] [] 0 (λ_ _=>True) (λ_=>[]) (λ_=>[]) () trivial (λk x hk=>absurd hk (by omega)) (λ_ _=>?_);simp[h1,hs,-fB',-eB']
 split at hx
 ·rename_i e1 e;subst e;simp at hx;obtain⟨⟨⟨⟨rfl,rfl⟩,rfl⟩,hl1,hl3⟩,hk2⟩:=hx;have hlt:(ks.length:Int)<=9223372036854775807:=by omega
  simp[eG,eo,hlt,-fB',-eB'];refine ah (X:=Unit) [1,3,34] [] ks.length (λ_ _=>True) (λ_=>[]) (λ_=>[]) () trivial ?_ ?_
  ·rintro k -hk -;obtain⟨y,hy⟩:=Lx hk;obtain⟨_,hgy⟩:=qFB.1 hy;have hop:=hk2 y (qFF hy);simp[hk,hy,hgy,hop,-fB',-eB']
  ·rintro - -;have hl1':¬(ks.length:Int)=1:=by omega
   simp[hl1,hl1',-fB',-eB']
 split at hx
 ·rename_i e1 e2 e;subst e;simp at hx;obtain⟨⟨⟨⟨rfl,rfl⟩,rfl⟩,hl1,hl3⟩,hk2⟩:=hx;have hlt:(ks.length:Int)<=9223372036854775807:=by omega
  simp[eG,eo,hlt,-fB',-eB'];refine ah (X:=Unit) [1,3,34] [] ks.length (λ_ _=>True) (λ_=>[]) (λ_=>[]) () trivial ?_ ?_
  ·rintro k -hk -;obtain⟨y,hy⟩:=Lx hk;obtain⟨_,hgy⟩:=qFB.1 hy;have hop:=hk2 y (qFF hy);simp[hk,hy,hgy,hop,-fB',-eB']
  ·rintro - -;have hl1':(1:Int)<ks.length:=by omega
   simp[hl1,hl1',-fB',-eB']
 split at hx
 ·rename_i e1 e2 e3 e;subst e;simp at hx;obtain⟨⟨⟨g0,g1,g2⟩,rfl⟩,hl1⟩:=hx;obtain⟨k0,rfl⟩:∃k,ks=[k]:=qG4.1 hl1;simp[eG,eo,-fB',-eB'];refine ah (X:=Unit) [1,3,34] [] 1 (λ_ _=>True) (λ_=>[]) (λ_=>[]) () trivial ?_ ?_
  ·rintro k -hk -;obtain rfl:k=0:=by omega
   simp[-fB',-eB']
  ·rintro - -;simp[g0,g1,-fB',-eB'];exactλh=>⟨λ_=>by omega,by omega⟩
 ·cases hx
abbrev Gm(n:Nat):Spc:=aG (a1 Rx) (λx=>qf1 n x=true) (enc (X:=Bool)) λ_ y=>y=true
def F3(n:Nat)(h1:S qL=Sp)(h2:S jo=Gm n):ak nn mQ S (a1 Rx) (λx=>qf1 (n+1) x=true) (enc (X:=Bool)) λ_ y=>y=true:=by
 rintro x a;have a:qf1 (n+1) x=true:=a;simp only[qf1,qFJ,qFI]at a;obtain⟨b,c⟩:=a;simp[nn,mQ,h1,b,-fB',-eB'];intro j;refine ah (X:=Unit) [9] [] x.kids.length (λ_ _=>True) (λ_=>[]) (λ_=>[]) () trivial ?_ ?_
 ·rintro k -hk -;obtain⟨y,d⟩:=Lx hk;obtain⟨_,h⟩:=qFB.1 d;have hp:=c y (qFF d);simp[h2,hk,d,h,hp,-fB',-eB']
 ·rintro - -;simp[-fB',-eB']
abbrev qbO(n:Nat):Spc:=aG (a1 Rx) (λx=>∃m,O4 n x=some m) (enc (X:=Int)) λx y=>O4 n x=some y
set_option maxHeartbeats 1000000 in
theorem Hy(n:Nat)(h1:S kR=qbO n):ak jv ja S (a1 Rx) (λx=>∃m,O4 (n+1) x=some m) (enc (X:=Int)) λx y=>O4 (n+1) x=some y:=by
 rintro x ⟨m,hm⟩;have hm0:=hm;simp only[O4]at hm;split at hm
 ·rename_i e;cases hm;simp[jv,ja,e,hm0,-fB',-eB']
 rename_i e1;obtain⟨k,hk,hm⟩:=qFA.1 hm;simp[jv,ja,e1,-fB',-eB'];intro hkl;refine ah (X:=Int) [1,10] [] x.kids.length (λi z=>quC (O4 n) (x.kids.drop i) z=some k) (λz=>[(3,enc z)]) (λ_=>[]) 0 hk ?_ ?_
 ·rintro i z hi hz;obtain⟨y,hy⟩:=Lx hi;obtain⟨_,hgy⟩:=qFB.1 hy;rw[Qb hy,quC]at hz;obtain⟨v,hv,hz⟩:=qFA.1 hz;split at hz
  ·cases hz
  rename_i hr;have hin:InR .i64 (z+v):=by simp only[InR];omega
  have hp:∃m,O4 n y=some m:=⟨v,hv⟩
  simp[h1,hi,hy,hgy,hv,-fB',-eB'];exact⟨hin,hz⟩
 ·rintro z hz;rw[qGr,quC]at hz;cases hz;split at hm
  ·rename_i e4;cases hm;simp[e4,hm0,-fB',-eB']
  ·rename_i e4;have e4:x.op=4:=by omega
   unfold quE at hm;split at hm
   ·rename_i emx;split at hm
    ·rename_i hb;cases hm;have hin:InR .i64 (k*max x.mn 1):=by simp only[InR];omega
     simp[e4,emx,hin,hm0,-fB',-eB']
    ·cases hm
   ·rename_i emx;split at hm
    ·rename_i hb;cases hm;have hin:InR .i64 (k*x.mx):=by simp only[InR];omega
     simp[e4,emx,hin,hm0,-fB',-eB']
    ·cases hm
abbrev Yp:Spc:=aG (a1 Rx) (λx=>Ga 50 x=true) (enc (X:=Int)) λx y=>y=0
def JV(h1:S tG=qs6 (yN 50))(h2:S jo=Gm 50)(h3:S kR=qbO 50):ak rp pX S (a1 Rx) (λx=>Ga 50 x=true) (enc (X:=Int)) λx y=>y=0:=by
 rintro x b;have b:Ga 50 x=true:=b;simp only[Ga,qFJ]at b;obtain⟨⟨c,j⟩,d⟩:=b;obtain⟨⟨t,k⟩,hs,rfl⟩:∃r,yN 50 x 1 0=some r/\r.1=true:=by
  cases h:yN 50 x 1 0 with
  |none=>rw[h]at c;cases c
  |some r=>rw[h]at c;exact⟨r,rfl,c⟩
 obtain⟨m,hm,a⟩:∃m,O4 50 x=some m/\m<=64:=by
  cases h:O4 50 x with
  |none=>rw[h]at d;cases d
  |some r=>rw[h]at d;exact⟨r,rfl,of_decide_eq_true d⟩
 have n64:¬64<m:=by omega
 simp[rp,pX,h1,h2,h3,hs,j,hm,n64,-fB',-eB'];exact a
end
section
open Go.Proofs
def xw:CC:=gq Tryz.f192 [2002002] {} _
def ws:List aj:=[.cell 2 true 5, .tmp 3, .tmp 4]
def O9:FO tI [2002002] xw ws 66:=fo
def xT:CC:=gq Tryz.f181 [] {} _
def wL:List aj:=[.tmp 2]
def Pv:FO tL [] xT wL 13:=fo
def ro:CC:=gq Tryz.f292 [] {} _
def pW:List aj:=[.tmp 4]
def IE:FO sL [] ro pW 24:=fo
open Cod (enc dec)
variable {S S0:Nat->Spc}
def qEs{Y Z W V:Type}[Cod Y][Cod Z][Cod W][Cod V](x:Y×Z×W×V):D:= .tup [enc x.1,enc x.2.1,enc x.2.2.1,enc x.2.2.2]
@[simp] theorem qEr{Y Z W V:Type}[Cod Y][Cod Z][Cod W][Cod V](y:Y)(z:Z)(w:W)(v:V):qEs (y,z,w,v)= .tup [enc y,enc z,enc w,enc v]:=i' rfl
def qmv(s:B)(i:Int):I32×Int×Int×Bool:=match s.data[i.toNat]? with
 |some c=>(⟨c.toNat⟩,i,1,true)
 |none=>(⟨0⟩,0,0,false)
abbrev s_cpAt:Spc:=aG (a2 B Int) (λx=>x.1.size<=1000/\Cq x.1=true/\0<=x.2/\x.2<=x.1.size) (qEs (Y:=I32) (Z:=Int) (W:=Int) (V:=Bool)) λx y=>y=qmv x.1 x.2
def qlC{s:B}(h:Cq s=true){k:Nat}{c:UInt8}(hc:s.data[k]? =some c):c.toNat< 128:=by
 have:=qFI.1 h c (by rw[<-qFZ]at hc;exact qFF hc);exact of_decide_eq_true this
abbrev Kq:Spc:=aG (a1 B) (λs=>∃r,qw s=some r) (qov (Y:=Rx) (Z:=Int) (W:=Int)) λs y=>qw s=some y.1/\y.2=(0,0)
set_option maxHeartbeats 2000000 in
theorem Q1(h1:S Eo=s_cpAt)(h2:S lJ=qh8)(h3:S mB=Yp):ak xw ws S (a1 B) (λs=>∃r,qw s=some r) (qov (Y:=Rx) (Z:=Int) (W:=Int)) λs y=>qw s=some y.1/\y.2=(0,0):=by
 rintro s ⟨r,hr⟩;have hr0:=hr;unfold qw at hr;split at hr
 rotate_left
 ·cases hr
 rename_i hs;obtain⟨hsz,hasc⟩:=hs;obtain⟨⟨p,x,ok⟩,hu,hr⟩:=qFA.1 hr;split at hr
 rotate_left
 ·cases hr
 rename_i hv;obtain⟨rfl,hpos,hval⟩:=hv;cases hr;have n200:¬(200:Int)<s.size:=by omega
 have hs10:s.size<=1000:=by omega
 simp[xw,ws,n200,-fB',-eB'];intro b2 hsz2;refine au (X:=Nat) [0,2] [2] (λi=>i<=s.size) (λi=>[(5,enc (i:Int))]) (λ_=>[]) (λi=>s.size -i) 0 (qFY _) ?_;rintro i hi;by_cases hlt:i<s.size
 ·obtain⟨c,hc⟩:∃c,s.data[i]? =some c:=⟨s.data[i]'hlt,qGe hlt⟩
  have h128:=qlC hasc hc;have hat:qmv s (i:Int)=((⟨(c.toNat:Int)⟩:I32),(i:Int),(1:Int),true):=by simp[qmv,hc]
  have hff:¬((c.toNat:Int)=65533):=by omega
  simp[h1,hs10,hasc,hat,hff,hi,-fB',-eB'];exact⟨by simp only[InR];omega,i+1,by omega,by omega,by omega⟩
 ·obtain rfl:i=s.size:=by omega
  have hat:qmv s (s.size:Int)=(⟨0⟩,0,0,false):=by
   have:s.data[s.size]? =none:=qGI (qFH _);simp[qmv,this]
  simp only at hpos hval;have npos:¬p.pos<s.size:=by omega
  simp[h1,h2,h3,hs10,hasc,hat,hu,hpos,hval,npos,-fB',-eB'];exactλb _=>⟨x, .same _,hr0⟩
abbrev qdA:Spc:=aG (a1 B) (λs=>∃r,qw s=some r) (enc (X:=Int)) λ_ y=>y=0
def Rm(h1:S tI=Kq):ak xT wL S (a1 B) (λs=>∃r,qw s=some r) (enc (X:=Int)) λ_ y=>y=0:=by
 rintro s ⟨r,a⟩;simp[xT,wL,h1,a,-fB',-eB']
abbrev qnk:Spc:=aG (a2 (List Rng) I32) (λ_=>True) (enc (X:=Bool)) λx y=>y=Wq x.1 x.2.val
theorem JU:ak ro pW S (a2 (List Rng) I32) (λ_=>True) (enc (X:=Bool)) λx y=>y=Wq x.1 x.2.val:=by
 rintro⟨l,⟨c⟩⟩ -;simp[ro,pW,-fB',-eB'];intro p;refine ah (X:=Unit) [1,7] [] l.length (λk _=>Wq (l.take k) c=false) (λ_=>[]) (λ_=>[]) () rfl ?_ ?_
 ·rintro k -hk j;obtain⟨y,h⟩:=Lx hk;obtain⟨_,b⟩:=qFB.1 h;have d:Wq (l.take (k+1)) c=(decide (y.fr.val<=c) && decide (c<=y.to.val)):=by
   have:l.take (k+1)=l.take k++ [y]:=by rw[qGK,h];rfl
   unfold Wq at j ⊢;rw[this,List.any_append,j];simp
  by_cases h1:y.fr.val<=c/\c<=y.to.val
  ·obtain⟨h1,h2⟩:=h1;have a:Wq l c=true:=by
    refine qGP.2 ⟨y,qFF h,by simp[h1,h2]⟩
   simp[hk,h,b,h1,h2,a,-fB',-eB']
  ·have a:Wq (l.take (k+1)) c=false:=by
    rw[d];simp;omega
   by_cases h2:y.fr.val<=c
   ·have h3:¬c<=y.to.val:=λe=>h1 ⟨h2,e⟩
    simp[hk,h,b,h2,h3,a,-fB',-eB']
   ·simp[hk,h,b,h2,a,-fB',-eB']
 ·rintro -j;rw[qFT]at j;simp[j,-fB',-eB']
end
section
open Go.Proofs
def rI:CC:=gq Tryz.f135 [] {} _
def qn:List aj:=[.tmp 6]
def Pu:FO zC [] rI qn 25:=fo
def pn:CC:=gq Tryz.f75 [9,8,7,6,5] { cu:=[1] } _
def oJ:List aj:=[.tmp 10]
def GT:FO fp [9,8,7,6,5] pn oJ 102:=fo
def mh:CC:=gq Tryz.f134 [5] {} _
def lA:List aj:=[.tmp 6]
def DY:FO aN [5] mh lA 13:=fo
def mg:CC:=gq Tryz.f143 [2] {} _
def lz:List aj:=[.tmp 3]
def DX:FO cT [2] mg lz 8:=fo
def nA:CC:=oX [oB 2 (.box qfv true (oT 0)),oB 3 (.box ff false (oT 1)),oB 4 (.mv (.const on)),oB 5 (.mv (oN 0))] [2,3] [3] (.seq (oX [oD 9 7 3,oZ 10 kT [oT 9]] [2,3,10] [3] (.ite (oT 10) (oX [oB 4 (.mv (.const on)),oB 5 (.mv (oN 2))] [4,5] [33] (.ret)) (.skip))) (.keep [2,3] [3] (oX [oD 11 7 3,oZ 12 dO [oT 11],
 oF 7 3 12] [2,3] [3] (.seq (oX [oD 13 7 3,oE 14 0 2,oC 15 1 14,oZ 16 dz [oT 13,oT 15,.const on],oA 6 16] [2,3,6] [3] (oX [oA 17 6,oB 18 (.eql true false [.int] (oT 17) (oN 0))] [2,3,6,18] [3] (.ite (oT 18) (oX [oA 19 6,oB 4 (.mv (.const on)),oA 5 19] [4,5] [33] (.ret)) (.skip)))) (.keep [2,3] [3] (oX [oB 7 (.mv (.const on))] [2,3,7] [3,33] (.seq (oX [oE 20 1 2,
 oC 21 1 20,oB 22 (.len (oT 21)),oB 23 (.mv (oN 0))] [2,3,7,22,23] [3,33] (gd 0 23 22 24 1 (oX [oA 25 23,oA 8 25] [2,3,7,8,22,23] [3,33] (oX [oD 26 7 2,oD 27 7 3,oA 28 8,oZ 29 fp [oT 26,oT 27,oT 28,.const on,.const on]] [2,3,7,8,22,23,29] [3,33] (.ite (oT 29) (.reg [oA 30 7,oA 31 8,oB 32 (.bslice bj 1 [oT 31]),oB 33 (.append none bj 1 8 (oT 30) (oT 32)),
 oA 7 33]) (.skip)))) 34)) (.keep [7] [33] (oX [oA 35 7,oA 4 35,oB 5 (.mv (oN 0))] [4,5] [33] (.ret))))))))))
def mY:List aj:=[.tmp 4, .tmp 5]
def FA:FO js [2] nA mY 36:=fo
open Cod (enc dec)
variable {S S0:Nat->Spc}
def G3(v s:B)(f:Bool):Option Bool:=(qw v).bind λx=>G1 x s f
def qmc(x:B×B×Bool):Prop:=∃y,G3 x.1 x.2.1 x.2.2=some y
def qpZ(x:B×B×Bool)(y:Bool):Prop:=G3 x.1 x.2.1 x.2.2=some y
abbrev qdz:Spc:=aG (a3 B B Bool) qmc (enc (X:=Bool)) qpZ
def Rl(h1:S tI=Kq)(h2:S zt=qdM false)(h3:S qM=qdM true):ak rI qn S (a3 B B Bool) qmc (enc (X:=Bool)) qpZ:=by
 rintro⟨v,s,f⟩ ⟨y,b⟩;have b:G3 v s f=some y:=b;obtain⟨x,a,hm⟩:=qFA.1 b;cases f
 ·have hp:qaQ false (x,s):=⟨y,hm⟩
  simp[rI,qn,h1,h2,a,hp,-fB',-eB'];exactλz hz=>by show(qw v).bind _=_;rw[a];exact hz
 ·have hp:qaQ true (x,s):=⟨y,hm⟩
  simp[rI,qn,h1,h3,a,hp,-fB',-eB'];exactλz hz=>by show(qw v).bind _=_;rw[a];exact hz
mutual
def iQ:Cond->Cond| .mk op n a v l f ks=>if op=4\/op=6/\sa (.mk op n a v l f ks)=true then⟨1,mq,mq,mq,mq,false, []⟩else⟨op,n,a,v,l,f,D4 ks⟩
def D4:List Cond->List Cond|[]=>[]|k::ks=>iQ k::D4 ks
end
def Td:∀l:List Cond,D4 l=l.map iQ
 | []=>by rw[D4];rfl
 |k::l=>by rw[D4,Td l];rfl
def Nz(x:Cond):iQ x=if x.op=4\/x.op=6/\sa x=true then⟨1,mq,mq,mq,mq,false, []⟩else⟨x.op,x.name,x.arg,x.val,x.lab,x.fold,x.kids.map iQ⟩:=by cases x;rw[iQ,Td]
abbrev Yy:Spc:=aG (a1 Cond) (λx=>∃n,dB x<=n) (enc (X:=Bool)) λx y=>y=sa x
abbrev YC(n:Nat):Spc:=aG (a1 Cond) (λx=>dB x<=n/\io x<=60) (enc (X:=Cond)) λx y=>y=iQ x
abbrev qdE:Spc:=aG (a1 Cond) (λx=>∃n,dB x<=n/\io x<=60) (enc (X:=Cond)) λx y=>y=iQ x
def ZO{H:ab}{op:Int}{name arg val lab:B}{fold:Bool}{l:List Cond}{v:Value}(h:H 33=some (.row v ff 7 (l.map enc))):FrzTo H (.agg [.v (.int .i64 op), .v (.string name), .v (.string arg), .v (.string val), .v (.string lab), .v (.bool fold), .own 33 v]) (enc (Cond.mk op name arg val lab fold l)):=by
 simp;refine .agg rfl λk c c' h1 h2=>?_
 match k,h1,h2 with
 | 0,h1,h2|1,h1,h2|2,h1,h2|3,h1,h2|4,h1,h2|5,h1,h2=>cases h1;cases h2;exact .same _
 | 6,h1,h2=>cases h1;cases h2;exact fA ff h
 |k+7,h1,_=>simp at h1
def SU:∀l:List Cond,l.length<=fE l
 | []=>by simp[fE]
 | k::l=>by
   have:=SU l;have:=BC k;rw[fE,qGi];omega
set_option maxHeartbeats 1000000 in
theorem HG(n:Nat)(h1:S bJ=Yy)(h2:S dO=YC n):ak eJ ew S (a1 Cond) (λx=>dB x<=n+1/\io x<=60) (enc (X:=Cond)) λx y=>y=iQ x:=by
 rintro x ⟨hd,hn⟩;have hsm:∃n,dB x<=n:=⟨_,qFH _⟩
 have hany:∀H:ab,Fin (enc (X:=Cond)) (λy=>y=⟨1,mq,mq,mq,mq,false, []⟩) (D.agg [.v (.int .i64 1), .v (.string ⟨#[]⟩), .v (.string ⟨#[]⟩), .v (.string ⟨#[]⟩), .v (.string ⟨#[]⟩), .v (.bool false), .v (.slice none 0 0)]) H:=λH=>by
  refine aL ⟨1,mq,mq,mq,mq,false, []⟩ ?_ rfl;simp[mq];refine .agg rfl λk c c' h1 h2=>?_
  match k,h1,h2 with
  | 0,h1,h2|1,h1,h2|2,h1,h2|3,h1,h2|4,h1,h2|5,h1,h2=>cases h1;cases h2;exact .same _
  | 6,h1,h2=>cases h1;cases h2;exact .nil 7
  |k+7,h1,_=>simp at h1
 by_cases hc:x.op=4\/x.op=6/\sa x=true
 ·have hl:iQ x=⟨1,mq,mq,mq,mq,false, []⟩:=by rw[Nz,if_pos hc]
  rcases hc with e|⟨e,e'⟩
  ·simp[eJ,ew,h1,hsm,e,hl,-fB',-eB'];exactλb=>hany _
  ·obtain⟨op,name,arg,val,lab,fold,ks⟩:=x;simp only at e;subst e;simp[eJ,ew,h1,hsm,e',hl,-fB',-eB'];exactλb=>hany _
 ·have hl:iQ x=⟨x.op,x.name,x.arg,x.val,x.lab,x.fold,x.kids.map iQ⟩:=by rw[Nz,if_neg hc]
  have e4:¬x.op=4:=λh=>hc (.inl h)
  obtain⟨op,name,arg,val,lab,fold,ks⟩:=x;simp only at hl e4;have hs:op=6->sa ⟨op,name,arg,val,lab,fold,ks⟩=false:=λh=>by
   cases hb:sa ⟨op,name,arg,val,lab,fold,ks⟩with
   |false=>rfl
   |true=>exact absurd (.inr ⟨h,hb⟩) hc
  have hkn:∀y∈ks,dB y<=n/\io y<=60:=λy hy=>by
   have h1:=Qw (p:=⟨op,name,arg,val,lab,fold,ks⟩) hy;have h2:=KS hy;have h3:=BC ⟨op,name,arg,val,lab,fold,ks⟩;simp only at h3;exact⟨by omega,by omega⟩
  have hks:ks.length<=60:=by
   have h3:=BC ⟨op,name,arg,val,lab,fold,ks⟩;simp only at h3;have:=SU ks;omega
  by_cases e6:op=6
  ·subst e6;have hs':=hs rfl;simp[eJ,ew,h1,hsm,hs',hl,-fB',-eB'];intro b2 b3;refine gc (X:=Unit) [1,2] [2] [] [] (λ_=>True) (λ_=>[(3, .bptr 3 b3 0)]) (λ_=>[(3, .box b3 [.v (.int .i64 6), .v (.string name), .v (.string arg), .v (.string val), .v (.string lab), .v (.bool fold), .own 33 (.slice none 0 0)]),(33, .row (.slice none 0 0) ff 7 [])]) [3,33] (λ_=>rfl) (by decide) ?_ ?_
   ·simp;refine⟨.inl (.nilown 33),by simp[isNilRow]⟩
   rintro - -;simp[-fB',-eB'];intro hkl;refine ah (X:=Value×List Cond) [2,3,22] [2] ks.length (λk z=>z.2=(ks.take k).map iQ/\z.2.length=k) (λz=>[]) (λz=>[(3, .box b3 [.v (.int .i64 6), .v (.string name), .v (.string arg), .v (.string val), .v (.string lab), .v (.bool fold), .own 33 z.1]),(33, .row z.1 ff 7 (z.2.map enc))]) (.slice none 0 0, []) ⟨rfl,rfl⟩ ?_ ?_
   ·rintro k ⟨v,l⟩ hk ⟨hl1,hl2⟩;simp only at hl1 hl2;obtain⟨y,hy⟩:=eK hk;obtain⟨_,hgy⟩:=qFB.1 hy;obtain⟨q1,q2⟩:=hkn y (qFF hy);have hk60:ks.length<=60:=hks;simp[h2,hk,hy,hgy,q1,q2,-fB',-eB'];refine⟨by omega,by omega,λv=>⟨v,l++ [iQ y],⟨?_,by simp;omega⟩, .inl rfl, .inl ⟨rfl,by simp⟩⟩⟩;rw[hl1,<-List.map_take,av hy];simp
   ·rintro⟨v,l⟩ ⟨hl1,hl2⟩;simp only at hl1 hl2;rw[qFT]at hl1;simp[-fB',-eB'];exact aL _ (ZO rfl) (by rw[hl1])
  ·simp[eJ,ew,h1,hsm,e4,e6,hl,-fB',-eB'];intro b2 b3;refine gc (X:=Unit) [1,2] [2] [] [] (λ_=>True) (λ_=>[(3, .bptr 3 b3 0)]) (λ_=>[(3, .box b3 [.v (.int .i64 op), .v (.string name), .v (.string arg), .v (.string val), .v (.string lab), .v (.bool fold), .own 33 (.slice none 0 0)]),(33, .row (.slice none 0 0) ff 7 [])]) [3,33] (λ_=>rfl) (by decide) ?_ ?_
   ·simp;refine⟨.inl (.nilown 33),by simp[isNilRow]⟩
   rintro - -;simp[-fB',-eB'];intro hkl;refine ah (X:=Value×List Cond) [2,3,22] [2] ks.length (λk z=>z.2=(ks.take k).map iQ/\z.2.length=k) (λz=>[]) (λz=>[(3, .box b3 [.v (.int .i64 op), .v (.string name), .v (.string arg), .v (.string val), .v (.string lab), .v (.bool fold), .own 33 z.1]),(33, .row z.1 ff 7 (z.2.map enc))]) (.slice none 0 0, []) ⟨rfl,rfl⟩ ?_ ?_
   ·rintro k ⟨v,l⟩ hk ⟨hl1,hl2⟩;simp only at hl1 hl2;obtain⟨y,hy⟩:=eK hk;obtain⟨_,hgy⟩:=qFB.1 hy;obtain⟨q1,q2⟩:=hkn y (qFF hy);have hk60:ks.length<=60:=hks;simp[h2,hk,hy,hgy,q1,q2,-fB',-eB'];refine⟨by omega,by omega,λv=>⟨v,l++ [iQ y],⟨?_,by simp;omega⟩, .inl rfl, .inl ⟨rfl,by simp⟩⟩⟩;rw[hl1,<-List.map_take,av hy];simp
   ·rintro⟨v,l⟩ ⟨hl1,hl2⟩;simp only at hl1 hl2;rw[qFT]at hl1;simp[-fB',-eB'];exact aL _ (ZO rfl) (by rw[hl1])
end
end Go.Gv
